/-
  Contracts by plain functions: cmp.isNaN[int64], cmp.Compare[int64], slices.Compare[[]int64,int64], ring.compare, slices.BinarySearchFunc[[]api.Sample,api.Sample,api.Sample], ring.New, (*ring.Buffer).Spoilt, (*ring.Buffer).Peek, (*ring.Buffer).Len, (ring.Counts).Total, (*ring.Buffer).Horizon, (*ring.Buffer).Put, (*ring.Buffer).Pop
-/
import Derived.Test.YthbnojedlbeglaaSLG
import Derived.Test.YthbnojedlbeglaaBits
import Derived.Test.YthbnojedlbeglaaPC
set_option maxRecDepth 100000
set_option maxHeartbeats 4000000
set_option linter.unusedVariables false
namespace Go.Proofs.Ythbnojedlbeglaa
open Go.Ab
abbrev RG1t0 := Nat × Bool × Nat × Bool × Nat × Bool × Int × Int × Nat × NI × Nat × NI
abbrev RG1t1 := Nat × Bool × Nat × Bool × Nat × Bool × Int × Int × Bool × Nat × NI × Nat × NI
abbrev RG1t2 := NI × NI × NI × NI × NI × NI × NI × Int × Int × Int × Int × Int × Int × Int × Int × Int
abbrev RG1t3 := Nat × Bool × Int × Int × Int × Bool × Nat × NI × NI × NI × NI × NI × NI × NI × NI × NI × Int × Int × Int × Int × Int × Int × Int × Int × Int
abbrev RG1g4 := Int → Int → Int → Int → Int → Int → Int → Int → Int → Int → Int → Int → Int → Int → Int → Int → Int → Int → Option Int
abbrev RG1t5 := Nat × Bool × Int × Int × Int × Nat × NI × NI × NI × NI × NI × NI × NI × NI × NI × Int × Int × Int × Int × Int × Int × Int × Int × Int
abbrev RG1t6 := NI × NI × NI × NI × NI × NI × NI × NI × Int × Int × Int × Int × Int × Int × Int × Int × Int
abbrev RG1t7 := NI × Int × Int × Int × Int × Int × Int × Int × Int × Int
abbrev RG1t8 := NI × NI × NI × NI × NI × NI × Int × Int × Int × Int × Int × Int × Int × Int × Int
abbrev RG1t9 := Int × Int × Int × Int × Int × Int × Nat × Bool × Int
abbrev RG1t10 := Int × Int × Int × Int × Int × Int × Int × Int × Int × Bool
abbrev RG1t11 := Nat × NI × NI × NI × NI × NI × NI × NI × NI × NI
abbrev RG1t12 := Bool × Int × Int × Int × Int × Int × Int × Nat × Int × NI × NI × NI × NI × NI × NI × NI × NI × NI
abbrev RG1g13 := Nat → Int → Int → Int → Int → Int → Int → Int → Int → Int → NI → NI → NI → NI → NI → NI → NI → NI → NI → Bool → Option (Int × Bool)
abbrev RG1g14 := Nat → Int → NI → NI → NI → NI → NI → NI → NI → (Nat → Int) → NI → NI → NI → NI → NI → NI → NI → NI → NI → NI → Bool → Bool → Option (RG1t11)
abbrev RG1g15 := Nat → Int → Int → NI → NI → NI → NI → NI → NI → NI → NI → NI → Bool → Option (RG1t11)
abbrev RG1g16 := Nat → Int → Int → Int → Int → Int → Int → Int → Int → Int → NI → NI → NI → NI → NI → NI → NI → NI → (Nat → Int) → Bool → Option (Int × Bool)
abbrev RG1g17 := Nat → Int → NI → NI → NI → NI → NI → (Nat → Int) → NI → NI → NI → NI → NI → NI → NI → NI → NI → NI → NI → NI → Bool → Bool → Option (RG1t11)
abbrev RG1t18 := Int × Int × Int × Int × Int × Int × Int × Int × Nat × Bool × Int × Nat × NI × NI × NI × NI × NI × NI × NI × NI × NI
abbrev RG1t19 := Int × Int × Nat × Bool × Int × Bool × Nat × Int × Bool × Int × Int × Int × Int × Int × Int × Int × Nat × NI × NI × NI × NI × NI × NI × NI × NI × NI
abbrev RG1t20 := Int × Int × Nat × Bool × Int × Bool × Int × Int × Int × Int × Int × Int × Int × Nat × NI × NI × NI × NI × NI × NI × NI × NI × NI
abbrev RG1g21 := Nat → NI → NI → NI → NI → NI → NI → NI → NI → NI → Bool → Option (RG1t11)
abbrev RG1g22 := Nat → NI → NI → NI → NI → NI → NI → NI → NI → NI → Bool → Option (Nat × NI × NI × NI × NI × (Nat → Int) × NI × NI × NI × NI)
abbrev RG1g23 := Nat → Int → Int → NI → NI → NI → NI → NI → NI → NI → NI → NI → Bool → Option (Nat × NI × NI × (Nat → Int) × NI × NI × NI × NI × NI × NI)
abbrev RG1t24 := NI × NI × NI × NI × NI × NI × NI × NI × NI
abbrev RG1t25 := NI × NI × NI × NI × NI × NI × NI × NI
abbrev RG1t26 := Nat × Int × Int × Int × Int × Int × Int × Nat × Int × NI × NI × NI × NI × NI × NI × NI × NI × NI × NI × NI × NI × NI × NI × NI × NI × NI × NI
abbrev RG1g27 := Nat → NI → NI → NI → NI → NI → NI → NI → NI → NI → Bool → Option (Nat × NI × NI × NI × NI × NI × (Nat → Int) × NI × NI × NI)
abbrev RG1g28 := Nat → Int → Int → NI → NI → NI → NI → NI → NI → NI → NI → NI → Bool → Option (Nat × NI × NI × NI × (Nat → Int) × NI × NI × NI × NI × NI)
abbrev RG1g29 := Nat → NI → NI → NI → NI → NI → NI → NI → NI → NI → Bool → Option (Nat × NI × NI × NI × (Nat → Int) × NI × NI × NI × NI × NI)
abbrev RG1g30 := Nat → Int → Int → NI → NI → NI → NI → NI → NI → NI → NI → NI → Bool → Option (Nat × NI × (Nat → Int) × NI × NI × NI × NI × NI × NI × NI)
def K_cmp_isNaN_int64_ {ρ : Type} (x0 : Int) (k : (Bool) → Option ρ) : Option ρ := k (x0 != x0)
def f_cmp_isNaN_int64_ (x0 : Int) : Option (Bool) := K_cmp_isNaN_int64_   x0 some
section
open Go.Ab.Rdr
def QA_cmp_isNaN_int64_ := ((pair (cons (ar (rc (cf (fi .i64 hole)))) nil) nil) : Rdr (List AV × List Blk) _)
end
def F_cmp_isNaN_int64_ (f : (Int) → Option (Bool)) : Sem1 := fun args h => match (QA_cmp_isNaN_int64_).rd (args, h) with
  | some b => .opt (f b.1.1) fun (d : Bool) => .leaf (Res.mk (AV.r (RV.c (CV.f (FV.b d)))) [] [])
  | none => .fail
theorem d_cmp_isNaN_int64_ (x0 : Int) : den Try.prog (envOf []) ⟨[], [], [], [], none⟩ 200 94 [.r (.c (.f (.i .i64 x0)))] [] = K_cmp_isNaN_int64_ x0 (fun (d : Bool) => some (Res.mk (AV.r (RV.c (CV.f (FV.b d)))) [] [])) := by kernel_rfl
theorem m_cmp_isNaN_int64_ {ρ σ : Type} (q : ρ → Option σ)    (x0 : Int) (k : (Bool) → Option ρ) : (K_cmp_isNaN_int64_   x0 k).bind q = K_cmp_isNaN_int64_   x0 (fun d => (k d).bind q) := by
  simp only [K_cmp_isNaN_int64_, bnd_cond, bnd_bind, bnd_none, bnd_sum]
theorem qa_cmp_isNaN_int64_ : ∀ b, (QA_cmp_isNaN_int64_).em b = ([.r (.c (.f (.i .i64 b.1.1)))], []) := fun b => by kernel_rfl
theorem e_cmp_isNaN_int64_ {f : (Int) → Option (Bool)} {args : List AV} {h : List Blk} {r : Res} (hr : (F_cmp_isNaN_int64_ f args h).eval = some r) : ∃ x0, args = [.r (.c (.f (.i .i64 x0)))] ∧ h = [] ∧ (f x0).bind (fun (d : Bool) => some (Res.mk (AV.r (RV.c (CV.f (FV.b d)))) [] [])) = some r := by
  unfold F_cmp_isNaN_int64_ at hr
  split at hr
  · rename_i b hb
    have e := ((QA_cmp_isNaN_int64_).ok _ _ hb).trans (qa_cmp_isNaN_int64_ b)
    rw [opt_eval2] at hr
    exact ⟨b.1.1, (Prod.mk.inj e).1, (Prod.mk.inj e).2, hr⟩
  · cases hr
theorem n_cmp_isNaN_int64_ {σ : Type} (q : (Bool) → Option σ) (x0 : Int) : (f_cmp_isNaN_int64_ x0).bind q = K_cmp_isNaN_int64_   x0 q := by
  unfold f_cmp_isNaN_int64_
  exact m_cmp_isNaN_int64_ q    x0 some
theorem s_cmp_isNaN_int64_ [Amb] : Sound Try.prog 94 (F_cmp_isNaN_int64_ f_cmp_isNaN_int64_) := (inl_sound (l := []) (.nil _) mixed [] [] 200 (by kernel_rfl)).by (F := F_cmp_isNaN_int64_ f_cmp_isNaN_int64_) fun args b r hr => by
  obtain ⟨x0, rfl, rfl, hr1⟩ := e_cmp_isNaN_int64_ hr
  exact inl_eval ((d_cmp_isNaN_int64_   x0).trans ((n_cmp_isNaN_int64_ (fun (d : Bool) => some (Res.mk (AV.r (RV.c (CV.f (FV.b d)))) [] [])) x0).symm.trans hr1))

def K_cmp_Compare_int64_ {ρ : Type} (g_cmp_isNaN_int64_ : Int → Option Bool) (x0 : Int) (x1 : Int) (k : (Int) → Option ρ) : Option ρ := Option.bind (g_cmp_isNaN_int64_ x0) fun (d : Bool) => Option.bind (g_cmp_isNaN_int64_ x1) fun (d_1 : Bool) => bif d then bif d_1 then k 0 else k (-1) else bif d_1 then
  k 1 else bif decide (x0 < x1) then k (-1) else bif decide (x0 > x1) then k 1 else k 0
def f_cmp_Compare_int64_ (x0 : Int) (x1 : Int) : Option (Int) := K_cmp_Compare_int64_ f_cmp_isNaN_int64_  x0 x1 some
section
open Go.Ab.Rdr
def QA_cmp_Compare_int64_ := ((pair (cons (ar (rc (cf (fi .i64 hole)))) (cons (ar (rc (cf (fi .i64 hole)))) nil)) nil) : Rdr (List AV × List Blk) _)
end
def F_cmp_Compare_int64_ (f : (Int) → (Int) → Option (Int)) : Sem1 := fun args h => match (QA_cmp_Compare_int64_).rd (args, h) with
  | some b => .opt (f b.1.1 b.1.2.1) fun (d : Int) => .leaf (Res.mk (AV.r (RV.c (fI d))) [] [])
  | none => .fail
theorem d_cmp_Compare_int64_ (g_cmp_isNaN_int64_ : Int → Option Bool) (x0 : Int) (x1 : Int) : den Try.prog (envOf [(94, F_cmp_isNaN_int64_ g_cmp_isNaN_int64_)]) ⟨[], [], [], [], none⟩ 200 72 [.r (.c (.f (.i .i64 x0))), .r (.c (.f (.i .i64 x1)))] [] = K_cmp_Compare_int64_ g_cmp_isNaN_int64_ x0 x1 (fun (d : Int) => some (Res.mk (AV.r (RV.c (fI d))) [] [])) := by kernel_rfl
theorem m_cmp_Compare_int64_ {ρ σ : Type} (q : ρ → Option σ) (g_cmp_isNaN_int64_ : Int → Option Bool)   (x0 : Int) (x1 : Int) (k : (Int) → Option ρ) : (K_cmp_Compare_int64_ g_cmp_isNaN_int64_  x0 x1 k).bind q = K_cmp_Compare_int64_ g_cmp_isNaN_int64_  x0 x1 (fun d => (k d).bind q) := by
  simp only [K_cmp_Compare_int64_, bnd_cond, bnd_bind, bnd_none, bnd_sum]
theorem qa_cmp_Compare_int64_ : ∀ b, (QA_cmp_Compare_int64_).em b = ([.r (.c (.f (.i .i64 b.1.1))), .r (.c (.f (.i .i64 b.1.2.1)))], []) := fun b => by kernel_rfl
theorem e_cmp_Compare_int64_ {f : (Int) → (Int) → Option (Int)} {args : List AV} {h : List Blk} {r : Res} (hr : (F_cmp_Compare_int64_ f args h).eval = some r) : ∃ x0 x1, args = [.r (.c (.f (.i .i64 x0))), .r (.c (.f (.i .i64 x1)))] ∧ h = [] ∧ (f x0 x1).bind (fun (d : Int) => some (Res.mk (AV.r (RV.c (fI d))) [] [])) = some r := by
  unfold F_cmp_Compare_int64_ at hr
  split at hr
  · rename_i b hb
    have e := ((QA_cmp_Compare_int64_).ok _ _ hb).trans (qa_cmp_Compare_int64_ b)
    rw [opt_eval2] at hr
    exact ⟨b.1.1, b.1.2.1, (Prod.mk.inj e).1, (Prod.mk.inj e).2, hr⟩
  · cases hr
theorem n_cmp_Compare_int64_ {σ : Type} (q : (Int) → Option σ) (x0 : Int) (x1 : Int) : (f_cmp_Compare_int64_ x0 x1).bind q = K_cmp_Compare_int64_ f_cmp_isNaN_int64_  x0 x1 q := by
  unfold f_cmp_Compare_int64_
  exact m_cmp_Compare_int64_ q f_cmp_isNaN_int64_   x0 x1 some
theorem s_cmp_Compare_int64_ [Amb] : Sound Try.prog 72 (F_cmp_Compare_int64_ f_cmp_Compare_int64_) := (inl_sound (l := [(94, F_cmp_isNaN_int64_ f_cmp_isNaN_int64_)]) (.cons s_cmp_isNaN_int64_ (.nil _)) mixed [] [] 200 (by kernel_rfl)).by (F := F_cmp_Compare_int64_ f_cmp_Compare_int64_) fun args b r hr => by
  obtain ⟨x0, x1, rfl, rfl, hr1⟩ := e_cmp_Compare_int64_ hr
  exact inl_eval ((d_cmp_Compare_int64_ f_cmp_isNaN_int64_  x0 x1).trans ((n_cmp_Compare_int64_ (fun (d : Int) => some (Res.mk (AV.r (RV.c (fI d))) [] [])) x0 x1).symm.trans hr1))

def S_slices_Compare___int64_int64__0 {ρ : Type} (g_cmp_Compare_int64_ : Int → Int → Option Int) (x0 : Nat) (x1 : Bool) (x2 : Nat) (x3 : Bool) (x4 : Nat) (x5 : Bool) (x6 : Int) (x7 : Int) (x8 : Nat) (x9 : Nat → Int) (x10 : Nat) (x11 : Nat → Int) (c : (RG1t0) → Option ρ) (x : (Int × Nat × NI × Nat × NI ⊕ RG1t1) → Option ρ) : Option ρ := bif decide (x7 < x6) then bif inR x7 x4 then bif decide (x7 ≥ Int.ofNat x2) then
  x (Sum.inl (1, x8, x9, x10, x11)) else bif inR x7 x2 then Option.bind (g_cmp_Compare_int64_ (x9 (Int.toNat x7)) (x11 (Int.toNat x7))) fun (d : Int) => bif d != 0 then x (Sum.inl (d, x8, x9, x10, x11)) else c (x0, x1, x2, x3, x4, x5, x6, IntKind.wrap IntKind.i64 (x7 + 1), x8, x9, x10, x11) else none else
  none else x (Sum.inr (x0, x1, x2, x3, x4, x5, x6, x7, decide (x7 < x6), x8, x9, x10, x11))
section
open Go.Ab.Rdr
def Q_slices_Compare___int64_int64__0 := (st (cons (ar (rc (csl (nat 0) (ok' (nat 0)) (szs hole) (nat 1) hole))) (cons (ar (rc (csl (nat 1) (ok' (nat 0)) (szs hole) (nat 1) hole))) (cons aund (cons aund (cons aund (cons aund (cons aund (cons aund (cons aund (cons (ar (rc (csl (nat 0) (ok' (nat 0)) (szs hole) (nat 1) hole))) (cons (ar (rc (cf (fi .i64 hole)))) (cons (ar (rc (cf (fi .i64 hole)))) (cons aund (cons aund (cons aund (cons aund (cons aund (cons aund (cons aund (cons aund (cons aund (cons aund (cons aund (cons aund (cons aund (cons aund (cons aund (cons aund (cons aund (cons aund (cons aund (cons aund (cons aund (cons aund (cons aund (cons aund nil)))))))))))))))))))))))))))))))))))) (cons (some' (cons (ga (szs hole) (cons (ki .i64 hole) nil)) nil)) (cons (some' (cons (ga (szs hole) (cons (ki .i64 hole) nil)) nil)) nil)) nil)
end
theorem q_slices_Compare___int64_int64__0 : ∀ b, (Q_slices_Compare___int64_int64__0).em b = St.mk [AV.r (RV.c (CV.sl 0 (Off.k 0) (Sz.s b.1.1.2.2.1) 1 b.1.1.c4)), AV.r (RV.c (CV.sl 1 (Off.k 0) (Sz.s b.1.2.1.2.2.1) 1 b.1.2.1.c4)), und, und, und, und, und, und, und, AV.r (RV.c (CV.sl 0 (Off.k 0) (Sz.s b.1.c8.2.1.2.2.1) 1 b.1.c8.2.1.c4)),
  AV.r (RV.c (fI b.1.c8.2.2.1)), AV.r (RV.c (fI b.1.c8.2.2.2.1)), und, und, und, und, und, und, und, und, und, und, und, und, und, und, und, und, und, und, und, und, und, und,
  und, und] [some [Sg.a (Sz.s b.2.1.1.1.1) [kI b.2.1.1.1.2.1]], some [Sg.a (Sz.s b.2.1.2.1.1.1) [kI b.2.1.2.1.1.2.1]]] [] := fun b => by kernel_rfl
def R_slices_Compare___int64_int64__0 (l : ∀ {ρ : Type}, (RG1t0) → ((Int × Nat × NI × Nat × NI ⊕ RG1t1) → Option ρ) →
  Option ρ) {ρ : Type} (s : St) (K : AX → St → Option ρ) : Option ρ := ((Q_slices_Compare___int64_int64__0).rd s).bind fun b => l (b.1.1.2.2.1, b.1.1.c4, b.1.2.1.2.2.1, b.1.2.1.c4, b.1.c8.2.1.2.2.1, b.1.c8.2.1.c4, b.1.c8.2.2.1, b.1.c8.2.2.2.1,
  b.2.1.1.1.1, b.2.1.1.1.2.1, b.2.1.2.1.1.1, b.2.1.2.1.1.2.1) (Sum.elim (fun d => K (AX.ret) (St.mk [und, und, und, und, AV.r (RV.c (fI d.1)), und, und, und, und, und, und, und, und, und, und, und, und, und, und, und, und,
  und, und, und, und, und, und, und, und, und, und, und, und, und, und, und] [some [Sg.a (Sz.s d.2.1) [kI d.2.2.1]], some [Sg.a (Sz.s d.2.2.2.1) [kI d.c4]]] [])) (fun d => K (AX.ex 0) (St.mk [AV.r (RV.c (CV.sl 0 (Off.k 0) (Sz.s d.1) 1 d.2.1)),
  AV.r (RV.c (CV.sl 1 (Off.k 0) (Sz.s d.2.2.1) 1 d.2.2.2.1)), und, und, und, und, und, und, und, AV.r (RV.c (CV.sl 0 (Off.k 0) (Sz.s d.c4.1) 1 d.c4.2.1)), AV.r (RV.c (fI d.c4.2.2.1)), AV.r (RV.c (fI d.c4.2.2.2.1)),
  AV.r (RV.c (CV.f (FV.b d.c8.1))), und, und, und, und, und, und, und, und, und, und, und, und, und, und, und, und, und, und, und, und, und, und, und] [some [Sg.a (Sz.s d.c8.2.1) [kI d.c8.2.2.1]],
  some [Sg.a (Sz.s d.c8.2.2.2.1) [kI d.c8.c4]]] [])))
theorem ms_slices_Compare___int64_int64__0 {ρ σ : Type} (g_cmp_Compare_int64_ : Int → Int → Option Int)   (q : ρ → Option σ) (x0 : Nat) (x1 : Bool) (x2 : Nat) (x3 : Bool) (x4 : Nat) (x5 : Bool) (x6 : Int) (x7 : Int) (x8 : Nat) (x9 : Nat → Int) (x10 : Nat) (x11 : Nat → Int) (c : (RG1t0) → Option ρ) (x : (Int × Nat × NI × Nat × NI ⊕ RG1t1) → Option ρ) : (S_slices_Compare___int64_int64__0 g_cmp_Compare_int64_  x0 x1 x2 x3 x4 x5 x6 x7 x8 x9 x10 x11 c x).bind q = S_slices_Compare___int64_int64__0 g_cmp_Compare_int64_  x0 x1 x2 x3 x4 x5 x6 x7 x8 x9 x10 x11 (fun d => (c d).bind q) (fun d => (x d).bind q) := by
  simp only [S_slices_Compare___int64_int64__0, bnd_cond, bnd_bind, bnd_none, bnd_sum]
def L_slices_Compare___int64_int64__0 {ρ : Type} (d : RG1t0) (k : (Int × Nat × NI × Nat × NI ⊕ RG1t1) → Option ρ) : Option ρ := loopK (fun d c x => S_slices_Compare___int64_int64__0 f_cmp_Compare_int64_  d.1 d.2.1 d.2.2.1 d.2.2.2.1 d.c4.1 d.c4.2.1 d.c4.2.2.1 d.c4.2.2.2.1 d.c8.1 d.c8.2.1 d.c8.2.2.1 d.c8.2.2.2 c x) 200 d k
theorem mL_slices_Compare___int64_int64__0 {ρ σ : Type} (q : ρ → Option σ) (d : RG1t0) (k : (Int × Nat × NI × Nat × NI ⊕ RG1t1) → Option ρ) : (L_slices_Compare___int64_int64__0 d k).bind q = L_slices_Compare___int64_int64__0 d fun x => (k x).bind q := loopK_bind q (fun d c x => ms_slices_Compare___int64_int64__0 f_cmp_Compare_int64_ q d.1 d.2.1 d.2.2.1 d.2.2.2.1 d.c4.1 d.c4.2.1 d.c4.2.2.1 d.c4.2.2.2.1 d.c8.1 d.c8.2.1 d.c8.2.2.1 d.c8.2.2.2 c x) k _ d
theorem ds_slices_Compare___int64_int64__0 {ρ : Type} (g_cmp_Compare_int64_ : Int → Int → Option Int) (l_0 : ∀ {ρ : Type}, (RG1t0) → ((Int × Nat × NI × Nat × NI ⊕ RG1t1) → Option ρ) → Option ρ) (x0 : Nat) (x1 : Bool) (x2 : Nat) (x3 : Bool) (x4 : Nat) (x5 : Bool) (x6 : Int) (x7 : Int) (x8 : Nat) (x9 : Nat → Int) (x10 : Nat) (x11 : Nat → Int) (c : St → Option ρ) (K : AX → St → Option ρ) : runC Try.prog (envOf [(72,
  F_cmp_Compare_int64_ g_cmp_Compare_int64_)]) ⟨[⟨2, [2, 3, 4, 5, 6, 7, 8, 12, 13, 14, 15, 16, 17, 18, 19, 20, 21, 22, 23, 24, 25, 26, 27, 28, 29, 30, 31, 32, 33, 34, 35], []⟩], [⟨2, 2, @R_slices_Compare___int64_int64__0 (@l_0)⟩], [], [], (some ⟨0, [0, 1, 2, 3, 5, 6, 7, 8, 9, 10, 11, 12, 13, 14, 15, 16,
  17, 18, 19, 20, 21, 22, 23, 24, 25, 26, 27, 28, 29, 30, 31, 32, 33, 34, 35], []⟩)⟩ (tmpsOf Try.prog 73) 2 200 (loopIn Try.prog 73 2) (St.mk [AV.r (RV.c (CV.sl 0 (Off.k 0) (Sz.s x0) 1 x1)), AV.r (RV.c (CV.sl 1 (Off.k 0) (Sz.s x2) 1 x3)), und, und, und, und, und, und, und,
  AV.r (RV.c (CV.sl 0 (Off.k 0) (Sz.s x4) 1 x5)), AV.r (RV.c (fI x6)), AV.r (RV.c (fI x7)), und, und, und, und, und, und, und, und, und, und, und, und, und, und, und, und, und, und, und, und, und, und,
  und, und] [some [Sg.a (Sz.s x8) [kI x9]], some [Sg.a (Sz.s x10) [kI x11]]] []) (next (fun t => t.head 2 ⟨[⟨2, [2, 3, 4, 5, 6, 7, 8, 12, 13, 14, 15, 16, 17, 18, 19, 20, 21, 22, 23, 24, 25, 26, 27, 28, 29, 30, 31, 32, 33, 34, 35], []⟩], [⟨2, 2, @R_slices_Compare___int64_int64__0 (@l_0)⟩],
  [], [], (some ⟨0, [0, 1, 2, 3, 5, 6, 7, 8, 9, 10, 11, 12, 13, 14, 15, 16, 17, 18, 19, 20, 21, 22, 23, 24, 25, 26, 27, 28, 29, 30, 31, 32, 33, 34, 35], []⟩)⟩ (loopIn Try.prog 73 2)) c K) = S_slices_Compare___int64_int64__0 g_cmp_Compare_int64_ x0 x1 x2 x3 x4 x5 x6 x7 x8 x9 x10 x11 (fun d => c (St.mk [AV.r (RV.c (CV.sl 0 (Off.k 0) (Sz.s d.1) 1 d.2.1)),
  AV.r (RV.c (CV.sl 1 (Off.k 0) (Sz.s d.2.2.1) 1 d.2.2.2.1)), und, und, und, und, und, und, und, AV.r (RV.c (CV.sl 0 (Off.k 0) (Sz.s d.c4.1) 1 d.c4.2.1)), AV.r (RV.c (fI d.c4.2.2.1)), AV.r (RV.c (fI d.c4.2.2.2.1)),
  und, und, und, und, und, und, und, und, und, und, und, und, und, und, und, und, und, und, und, und, und, und, und, und] [some [Sg.a (Sz.s d.c8.1) [kI d.c8.2.1]],
  some [Sg.a (Sz.s d.c8.2.2.1) [kI d.c8.2.2.2]]] [])) (Sum.elim (fun d => K (AX.ret) (St.mk [und, und, und, und, AV.r (RV.c (fI d.1)), und, und, und, und, und, und,
  und, und, und, und, und, und, und, und, und, und, und, und, und, und, und, und, und, und, und, und, und, und, und, und, und] [some [Sg.a (Sz.s d.2.1) [kI d.2.2.1]], some [Sg.a (Sz.s d.2.2.2.1) [kI d.c4]]] [])) (fun d => K (AX.ex 0) (St.mk [AV.r (RV.c (CV.sl 0 (Off.k 0) (Sz.s d.1) 1 d.2.1)),
  AV.r (RV.c (CV.sl 1 (Off.k 0) (Sz.s d.2.2.1) 1 d.2.2.2.1)), und, und, und, und, und, und, und, AV.r (RV.c (CV.sl 0 (Off.k 0) (Sz.s d.c4.1) 1 d.c4.2.1)), AV.r (RV.c (fI d.c4.2.2.1)), AV.r (RV.c (fI d.c4.2.2.2.1)),
  AV.r (RV.c (CV.f (FV.b d.c8.1))), und, und, und, und, und, und, und, und, und, und, und, und, und, und, und, und, und, und, und, und, und, und, und] [some [Sg.a (Sz.s d.c8.2.1) [kI d.c8.2.2.1]],
  some [Sg.a (Sz.s d.c8.2.2.2.1) [kI d.c8.c4]]] []))) := by kernel_rfl
theorem it_slices_Compare___int64_int64__0 {ρ : Type} (x0 : Nat) (x1 : Bool) (x2 : Nat) (x3 : Bool) (x4 : Nat) (x5 : Bool) (x6 : Int) (x7 : Int) (x8 : Nat) (x9 : Nat → Int) (x10 : Nat) (x11 : Nat → Int) (K : AX → St → Option ρ) : iter (fun t => t.head 2 ⟨[⟨2, [2, 3, 4, 5, 6, 7, 8, 12, 13, 14, 15, 16,
  17, 18, 19, 20, 21, 22, 23, 24, 25, 26, 27, 28, 29, 30, 31, 32, 33, 34, 35], []⟩], [⟨2, 2, @R_slices_Compare___int64_int64__0 (@L_slices_Compare___int64_int64__0)⟩], [], [], (some ⟨0, [0, 1, 2, 3, 5, 6, 7, 8, 9, 10, 11, 12, 13, 14, 15, 16, 17, 18, 19, 20, 21, 22, 23, 24, 25, 26, 27, 28, 29, 30, 31, 32,
  33, 34, 35], []⟩)⟩ (loopIn Try.prog 73 2)) (runC Try.prog (envOf [(72, F_cmp_Compare_int64_ f_cmp_Compare_int64_)]) ⟨[⟨2, [2, 3, 4, 5, 6, 7, 8, 12, 13, 14, 15, 16, 17, 18, 19, 20, 21, 22, 23, 24, 25, 26, 27, 28, 29, 30, 31, 32, 33, 34, 35], []⟩], [⟨2, 2, @R_slices_Compare___int64_int64__0 (@L_slices_Compare___int64_int64__0)⟩],
  [], [], (some ⟨0, [0, 1, 2, 3, 5, 6, 7, 8, 9, 10, 11, 12, 13, 14, 15, 16, 17, 18, 19, 20, 21, 22, 23, 24, 25, 26, 27, 28, 29, 30, 31, 32, 33, 34, 35], []⟩)⟩ (tmpsOf Try.prog 73) 2 200 (loopIn Try.prog 73 2)) K 200 (St.mk [AV.r (RV.c (CV.sl 0 (Off.k 0) (Sz.s x0) 1 x1)), AV.r (RV.c (CV.sl 1 (Off.k 0) (Sz.s x2) 1 x3)),
  und, und, und, und, und, und, und, AV.r (RV.c (CV.sl 0 (Off.k 0) (Sz.s x4) 1 x5)), AV.r (RV.c (fI x6)), AV.r (RV.c (fI x7)), und, und, und, und, und, und, und, und, und, und, und, und, und, und, und,
  und, und, und, und, und, und, und, und, und] [some [Sg.a (Sz.s x8) [kI x9]], some [Sg.a (Sz.s x10) [kI x11]]] []) = L_slices_Compare___int64_int64__0 (x0, x1, x2, x3, x4, x5, x6, x7, x8, x9, x10, x11) (Sum.elim (fun d => K (AX.ret) (St.mk [und,
  und, und, und, AV.r (RV.c (fI d.1)), und, und, und, und, und, und, und, und, und, und, und, und, und, und, und, und, und, und, und, und, und, und, und, und, und, und, und, und, und,
  und, und] [some [Sg.a (Sz.s d.2.1) [kI d.2.2.1]], some [Sg.a (Sz.s d.2.2.2.1) [kI d.c4]]] [])) (fun d => K (AX.ex 0) (St.mk [AV.r (RV.c (CV.sl 0 (Off.k 0) (Sz.s d.1) 1 d.2.1)), AV.r (RV.c (CV.sl 1 (Off.k 0) (Sz.s d.2.2.1) 1 d.2.2.2.1)),
  und, und, und, und, und, und, und, AV.r (RV.c (CV.sl 0 (Off.k 0) (Sz.s d.c4.1) 1 d.c4.2.1)), AV.r (RV.c (fI d.c4.2.2.1)), AV.r (RV.c (fI d.c4.2.2.2.1)), AV.r (RV.c (CV.f (FV.b d.c8.1))),
  und, und, und, und, und, und, und, und, und, und, und, und, und, und, und, und, und, und, und, und, und, und, und] [some [Sg.a (Sz.s d.c8.2.1) [kI d.c8.2.2.1]],
  some [Sg.a (Sz.s d.c8.2.2.2.1) [kI d.c8.c4]]] []))) := iter_loopX (emb := fun (d : RG1t0) => St.mk [AV.r (RV.c (CV.sl 0 (Off.k 0) (Sz.s d.1) 1 d.2.1)),
  AV.r (RV.c (CV.sl 1 (Off.k 0) (Sz.s d.2.2.1) 1 d.2.2.2.1)), und, und, und, und, und, und, und, AV.r (RV.c (CV.sl 0 (Off.k 0) (Sz.s d.c4.1) 1 d.c4.2.1)), AV.r (RV.c (fI d.c4.2.2.1)), AV.r (RV.c (fI d.c4.2.2.2.1)),
  und, und, und, und, und, und, und, und, und, und, und, und, und, und, und, und, und, und, und, und, und, und, und, und] [some [Sg.a (Sz.s d.c8.1) [kI d.c8.2.1]],
  some [Sg.a (Sz.s d.c8.2.2.1) [kI d.c8.2.2.2]]] []) (step := fun d c x => S_slices_Compare___int64_int64__0 f_cmp_Compare_int64_ d.1 d.2.1 d.2.2.1 d.2.2.2.1 d.c4.1 d.c4.2.1 d.c4.2.2.1 d.c4.2.2.2.1 d.c8.1 d.c8.2.1 d.c8.2.2.1 d.c8.2.2.2 c x) (kx := (Sum.elim (fun d => K (AX.ret) (St.mk [und,
  und, und, und, AV.r (RV.c (fI d.1)), und, und, und, und, und, und, und, und, und, und, und, und, und, und, und, und, und, und, und, und, und, und, und, und, und, und, und, und, und,
  und, und] [some [Sg.a (Sz.s d.2.1) [kI d.2.2.1]], some [Sg.a (Sz.s d.2.2.2.1) [kI d.c4]]] [])) (fun d => K (AX.ex 0) (St.mk [AV.r (RV.c (CV.sl 0 (Off.k 0) (Sz.s d.1) 1 d.2.1)), AV.r (RV.c (CV.sl 1 (Off.k 0) (Sz.s d.2.2.1) 1 d.2.2.2.1)),
  und, und, und, und, und, und, und, AV.r (RV.c (CV.sl 0 (Off.k 0) (Sz.s d.c4.1) 1 d.c4.2.1)), AV.r (RV.c (fI d.c4.2.2.1)), AV.r (RV.c (fI d.c4.2.2.2.1)), AV.r (RV.c (CV.f (FV.b d.c8.1))),
  und, und, und, und, und, und, und, und, und, und, und, und, und, und, und, und, und, und, und, und, und, und, und] [some [Sg.a (Sz.s d.c8.2.1) [kI d.c8.2.2.1]],
  some [Sg.a (Sz.s d.c8.2.2.2.1) [kI d.c8.c4]]] [])))) (fun d c => ds_slices_Compare___int64_int64__0 f_cmp_Compare_int64_ (@L_slices_Compare___int64_int64__0) d.1 d.2.1 d.2.2.1 d.2.2.2.1 d.c4.1 d.c4.2.1 d.c4.2.2.1 d.c4.2.2.2.1 d.c8.1 d.c8.2.1 d.c8.2.2.1 d.c8.2.2.2 c K) 200 (x0,
  x1, x2, x3, x4, x5, x6, x7, x8, x9, x10, x11)
theorem so_slices_Compare___int64_int64__0 [Amb] : ∀ kk, SumOK Try.prog (envOf [(72, F_cmp_Compare_int64_ f_cmp_Compare_int64_)]) ⟨[⟨2, [2, 3, 4, 5, 6, 7, 8, 12, 13, 14, 15, 16, 17, 18, 19, 20, 21, 22, 23, 24, 25, 26, 27, 28, 29, 30, 31, 32, 33, 34, 35], []⟩], [⟨2, 2, @R_slices_Compare___int64_int64__0 (@L_slices_Compare___int64_int64__0)⟩],
  [], [], (some ⟨0, [0, 1, 2, 3, 5, 6, 7, 8, 9, 10, 11, 12, 13, 14, 15, 16, 17, 18, 19, 20, 21, 22, 23, 24, 25, 26, 27, 28, 29, 30, 31, 32, 33, 34, 35], []⟩)⟩ (tmpsOf Try.prog 73) kk 200 (loopIn Try.prog 73 2) := SumOK.of (id := 2) (k0 := 2) (run := @R_slices_Compare___int64_int64__0 (@L_slices_Compare___int64_int64__0)) (by kernel_rfl) fun s K r hr => by
    unfold R_slices_Compare___int64_int64__0 at hr
    obtain ⟨b, hb, hr1⟩ := Option.bind_eq_some_iff.1 hr
    have e := ((Q_slices_Compare___int64_int64__0).ok s b hb).trans (q_slices_Compare___int64_int64__0 b)
    subst e
    exact ⟨200, (it_slices_Compare___int64_int64__0 b.1.1.2.2.1 b.1.1.c4 b.1.2.1.2.2.1 b.1.2.1.c4 b.1.c8.2.1.2.2.1 b.1.c8.2.1.c4 b.1.c8.2.2.1 b.1.c8.2.2.2.1 b.2.1.1.1.1 b.2.1.1.1.2.1 b.2.1.2.1.1.1 b.2.1.2.1.1.2.1 K).trans hr1⟩
def K_slices_Compare___int64_int64_ {ρ : Type} (g_cmp_Compare_int64_ : Int → Int → Option Int) (l_0 : ∀ {ρ : Type}, (RG1t0) → ((Int × Nat × NI × Nat × NI ⊕ RG1t1) → Option ρ) → Option ρ) (x0 : Nat) (x1 : Nat) (x2 : Nat → Int) (x3 : Nat → Int) (w0 : Bool) (w1 : Bool) (k : (Int) → Option ρ) : Option ρ := l_0 (x0, w0, x1, w1, x0, w0, Int.ofNat x0, 0, x0, x2, x1, x3) (Sum.elim (fun (d : Int × Nat × NI ×
  Nat × NI) => k d.1) fun (d : RG1t1) => bif decide (Int.ofNat d.1 < Int.ofNat d.2.2.1) then k (-1) else k 0)
def f_slices_Compare___int64_int64_ (x0 : Nat) (x1 : Nat) (x2 : Nat → Int) (x3 : Nat → Int) (w0 : Bool) (w1 : Bool) : Option (Int) := K_slices_Compare___int64_int64_ f_cmp_Compare_int64_ (@L_slices_Compare___int64_int64__0) x0 x1 x2 x3 w0 w1 some
section
open Go.Ab.Rdr
def QA_slices_Compare___int64_int64_ := ((pair (cons (ar (rc (csl (nat 0) (ok' (nat 0)) (szs hole) (nat 1) hole))) (cons (ar (rc (csl (nat 1) (ok' (nat 0)) (szs hole) (nat 1) hole))) nil)) (cons (cons (ga (szs hole) (cons (ki .i64 hole) nil)) nil) (cons (cons (ga (szs hole) (cons (ki .i64 hole) nil)) nil) nil))) : Rdr (List AV × List Blk) _)
end
def F0_slices_Compare___int64_int64_ (f : (Nat) → (Nat) → NI → NI → (Bool) → (Bool) → Option (Int)) : Sem1 := fun args h => match (QA_slices_Compare___int64_int64_).rd (args, h) with
  | some b => .test (Nat.beq b.2.1.1.1 b.1.1.2.2.1) (.test (Nat.beq b.2.2.1.1.1 b.1.2.1.2.2.1) (.opt (f b.1.1.2.2.1 b.1.2.1.2.2.1 b.2.1.1.2.1 b.2.2.1.1.2.1 b.1.1.c4 b.1.2.1.c4) fun (d : Int) => .leaf (Res.mk (AV.r (RV.c (fI d))) [Ch.keep, Ch.keep] [])) .fail) .fail
  | none => .fail
def F_slices_Compare___int64_int64_ (f : (Nat) → (Nat) → NI → NI → (Bool) → (Bool) → Option (Int)) : Sem1 := (nilF 1 [.i .i64] (nilF 0 [.i .i64] (F0_slices_Compare___int64_int64_ f)))
theorem d_slices_Compare___int64_int64_ (g_cmp_Compare_int64_ : Int → Int → Option Int) (l_0 : ∀ {ρ : Type}, (RG1t0) → ((Int × Nat × NI × Nat × NI ⊕ RG1t1) → Option ρ) → Option ρ) (x0 : Nat) (x1 : Nat) (x2 : Nat → Int) (x3 : Nat → Int) (w0 : Bool) (w1 : Bool) : den Try.prog (envOf [(72, F_cmp_Compare_int64_ g_cmp_Compare_int64_)]) ⟨[⟨2, [2, 3, 4, 5, 6, 7, 8, 12, 13, 14, 15, 16, 17, 18, 19, 20, 21, 22, 23,
  24, 25, 26, 27, 28, 29, 30, 31, 32, 33, 34, 35], []⟩], [⟨2, 2, @R_slices_Compare___int64_int64__0 (@l_0)⟩], [], [], (some ⟨0, [0, 1, 2, 3, 5, 6, 7, 8, 9, 10, 11, 12, 13, 14, 15, 16, 17, 18, 19, 20, 21, 22, 23, 24, 25, 26, 27, 28, 29, 30, 31, 32, 33, 34, 35], []⟩)⟩ 200 73 [.r (.c (.sl 0 (.k 0) (.s x0) 1 w0)),
  .r (.c (.sl 1 (.k 0) (.s x1) 1 w1))] [[.a (.s x0) [.i .i64 x2]], [.a (.s x1) [.i .i64 x3]]] = K_slices_Compare___int64_int64_ g_cmp_Compare_int64_ (@l_0) x0 x1 x2 x3 w0 w1 (fun (d : Int) => some (Res.mk (AV.r (RV.c (fI d))) [Ch.keep, Ch.keep] [])) := by kernel_rfl
theorem m_slices_Compare___int64_int64_ {ρ σ : Type} (q : ρ → Option σ) (g_cmp_Compare_int64_ : Int → Int → Option Int) (l_0 : ∀ {ρ : Type}, (RG1t0) → ((Int × Nat × NI × Nat × NI ⊕ RG1t1) → Option ρ) → Option ρ) (hl_0 : ∀ {ρ σ : Type} (q : ρ → Option σ) (d : RG1t0) (k : (Int × Nat × NI × Nat × NI ⊕ RG1t1) → Option ρ), (l_0 d k).bind q = l_0 d fun x => (k x).bind q) (x0 : Nat) (x1 : Nat) (x2 : Nat → Int) (x3 : Nat → Int) (w0 : Bool) (w1 : Bool) (k : (Int) → Option ρ) : (K_slices_Compare___int64_int64_ g_cmp_Compare_int64_ (@l_0) x0 x1 x2 x3 w0 w1 k).bind q = K_slices_Compare___int64_int64_ g_cmp_Compare_int64_ (@l_0) x0 x1 x2 x3 w0 w1 (fun d => (k d).bind q) := by
  simp only [K_slices_Compare___int64_int64_, bnd_cond, bnd_bind, bnd_none, bnd_sum, hl_0]
theorem qa_slices_Compare___int64_int64_ : ∀ b, (QA_slices_Compare___int64_int64_).em b = ([.r (.c (.sl 0 (.k 0) (.s b.1.1.2.2.1) 1 b.1.1.c4)), .r (.c (.sl 1 (.k 0) (.s b.1.2.1.2.2.1) 1 b.1.2.1.c4))], [[.a (.s b.2.1.1.1) [.i .i64 b.2.1.1.2.1]], [.a (.s b.2.2.1.1.1) [.i .i64 b.2.2.1.1.2.1]]]) := fun b => by kernel_rfl
theorem e_slices_Compare___int64_int64_ {f : (Nat) → (Nat) → NI → NI → (Bool) → (Bool) → Option (Int)} {args : List AV} {h : List Blk} {r : Res} (hr : (F0_slices_Compare___int64_int64_ f args h).eval = some r) : ∃ x0 x1 x2 x3 w0 w1, args = [.r (.c (.sl 0 (.k 0) (.s x0) 1 w0)), .r (.c (.sl 1 (.k 0) (.s x1) 1 w1))] ∧ h = [[.a (.s x0) [.i .i64 x2]], [.a (.s x1) [.i .i64 x3]]] ∧ (f x0 x1 x2 x3 w0 w1).bind (fun (d : Int) => some (Res.mk (AV.r (RV.c (fI d))) [Ch.keep, Ch.keep] [])) = some r := by
  unfold F0_slices_Compare___int64_int64_ at hr
  split at hr
  · rename_i b hb
    have e := ((QA_slices_Compare___int64_int64_).ok _ _ hb).trans (qa_slices_Compare___int64_int64_ b)
    obtain ⟨he, hr1⟩ := test_eval hr
    clear hr
    have hr := hr1
    clear hr1
    rw [Nat.eq_of_beq_eq_true he] at e
    clear he
    obtain ⟨he, hr1⟩ := test_eval hr
    clear hr
    have hr := hr1
    clear hr1
    rw [Nat.eq_of_beq_eq_true he] at e
    clear he
    rw [opt_eval2] at hr
    exact ⟨b.1.1.2.2.1, b.1.2.1.2.2.1, b.2.1.1.2.1, b.2.2.1.1.2.1, b.1.1.c4, b.1.2.1.c4, (Prod.mk.inj e).1, (Prod.mk.inj e).2, hr⟩
  · cases hr
theorem n_slices_Compare___int64_int64_ {σ : Type} (q : (Int) → Option σ) (x0 : Nat) (x1 : Nat) (x2 : Nat → Int) (x3 : Nat → Int) (w0 : Bool) (w1 : Bool) : (f_slices_Compare___int64_int64_ x0 x1 x2 x3 w0 w1).bind q = K_slices_Compare___int64_int64_ f_cmp_Compare_int64_ (@L_slices_Compare___int64_int64__0) x0 x1 x2 x3 w0 w1 q := by
  unfold f_slices_Compare___int64_int64_
  exact m_slices_Compare___int64_int64_ q f_cmp_Compare_int64_ (@L_slices_Compare___int64_int64__0) (fun q d k => mL_slices_Compare___int64_int64__0 q d k) x0 x1 x2 x3 w0 w1 some
theorem s_slices_Compare___int64_int64_ [Amb] : Sound Try.prog 73 (F_slices_Compare___int64_int64_ f_slices_Compare___int64_int64_) := Sound.nil 1 [.i .i64] <| Sound.nil 0 [.i .i64] <| (inl_sums (l := [(72, F_cmp_Compare_int64_ f_cmp_Compare_int64_)]) (.cons s_cmp_Compare_int64_ (.nil _)) mixed (hs := ⟨[⟨2,
  [2, 3, 4, 5, 6, 7, 8, 12, 13, 14, 15, 16, 17, 18, 19, 20, 21, 22, 23, 24, 25, 26, 27, 28, 29, 30, 31, 32, 33, 34, 35], []⟩], [⟨2, 2, @R_slices_Compare___int64_int64__0 (@L_slices_Compare___int64_int64__0)⟩], [], [], (some ⟨0, [0, 1, 2, 3, 5, 6, 7, 8, 9, 10, 11, 12, 13, 14, 15, 16, 17, 18, 19, 20, 21,
  22, 23, 24, 25, 26, 27, 28, 29, 30, 31, 32, 33, 34, 35], []⟩)⟩) (lf := 200) (Sums.by (l := [loopIn Try.prog 73 2]) (lj := []) (by kernel_rfl) ⟨so_slices_Compare___int64_int64__0, trivial⟩ (by kernel_rfl) trivial) (by kernel_rfl)).by (F := F0_slices_Compare___int64_int64_ f_slices_Compare___int64_int64_) fun args b r hr => by
  obtain ⟨x0, x1, x2, x3, w0, w1, rfl, rfl, hr1⟩ := e_slices_Compare___int64_int64_ hr
  exact inl_eval ((d_slices_Compare___int64_int64_ f_cmp_Compare_int64_ (@L_slices_Compare___int64_int64__0) x0 x1 x2 x3 w0 w1).trans ((n_slices_Compare___int64_int64_ (fun (d : Int) => some (Res.mk (AV.r (RV.c (fI d))) [Ch.keep, Ch.keep] [])) x0 x1 x2 x3 w0 w1).symm.trans hr1))

def K_ring_compare {ρ : Type} (g_cmp_Compare_int64_ : Int → Int → Option Int) (g_slices_Compare___int64_int64_ : Nat → Nat → NI → NI → Bool → Bool → Option Int) (x0 : Int) (x1 : Int) (x2 : Int) (x3 : Int) (x4 : Int) (x5 : Int) (x6 : Int) (x7 : Int) (x8 : Int) (x9 : Int) (x10 : Int) (x11 : Int) (x12 : Int) (x13 : Int) (x14 : Int) (x15 : Int) (x16 : Int) (x17 : Int) (k : (Int) →
  Option ρ) : Option ρ := Option.bind (g_cmp_Compare_int64_ x0 x9) fun (d : Int) => bif d != 0 then k d else Option.bind (g_slices_Compare___int64_int64_ 8 8 (fun (j : Nat) => bif Nat.beq j 7 then x8 else bif Nat.beq j 6 then x7 else bif Nat.beq j 5 then x6 else bif Nat.beq j 4 then x5 else bif Nat.beq j 3 then
  x4 else bif Nat.beq j 2 then x3 else bif Nat.beq j 1 then x2 else bif Nat.beq j 0 then x1 else x1) (fun (j : Nat) => bif Nat.beq j 7 then x17 else bif Nat.beq j 6 then x16 else bif Nat.beq j 5 then x15 else bif Nat.beq j 4 then x14 else bif Nat.beq j 3 then x13 else bif Nat.beq j 2 then x12 else bif Nat.beq j 1 then
  x11 else bif Nat.beq j 0 then x10 else x10) false false) fun (d : Int) => k d
def f_ring_compare (x0 : Int) (x1 : Int) (x2 : Int) (x3 : Int) (x4 : Int) (x5 : Int) (x6 : Int) (x7 : Int) (x8 : Int) (x9 : Int) (x10 : Int) (x11 : Int) (x12 : Int) (x13 : Int) (x14 : Int) (x15 : Int) (x16 : Int) (x17 : Int) : Option (Int) := K_ring_compare f_cmp_Compare_int64_ f_slices_Compare___int64_int64_  x0 x1 x2 x3 x4 x5 x6 x7 x8 x9 x10 x11 x12 x13 x14 x15 x16 x17 some
section
open Go.Ab.Rdr
def QA_ring_compare := ((pair (cons (ar (ra (cons (gc (cf (fi .i64 hole))) (cons (gc (cf (fi .i64 hole))) (cons (gc (cf (fi .i64 hole))) (cons (gc (cf (fi .i64 hole))) (cons (gc (cf (fi .i64 hole))) (cons (gc (cf (fi .i64 hole))) (cons (gc (cf (fi .i64 hole))) (cons (gc (cf (fi .i64 hole))) (cons (gc (cf (fi .i64 hole))) nil))))))))))) (cons (ar (ra (cons (gc (cf (fi .i64 hole))) (cons (gc (cf (fi .i64 hole))) (cons (gc (cf (fi .i64 hole))) (cons (gc (cf (fi .i64 hole))) (cons (gc (cf (fi .i64 hole))) (cons (gc (cf (fi .i64 hole))) (cons (gc (cf (fi .i64 hole))) (cons (gc (cf (fi .i64 hole))) (cons (gc (cf (fi .i64 hole))) nil))))))))))) nil)) nil) : Rdr (List AV × List Blk) _)
end
def F_ring_compare (f : (Int) → (Int) → (Int) → (Int) → (Int) → (Int) → (Int) → (Int) → (Int) → (Int) → (Int) → (Int) → (Int) → (Int) → (Int) → (Int) → (Int) → (Int) → Option (Int)) : Sem1 := fun args h => match (QA_ring_compare).rd (args, h) with
  | some b => .opt (f b.1.1.1 b.1.1.2.1 b.1.1.2.2.1 b.1.1.2.2.2.1 b.1.1.c4.1 b.1.1.c4.2.1 b.1.1.c4.2.2.1 b.1.1.c4.2.2.2.1 b.1.1.c8.1 b.1.2.1.1 b.1.2.1.2.1 b.1.2.1.2.2.1 b.1.2.1.2.2.2.1 b.1.2.1.c4.1 b.1.2.1.c4.2.1 b.1.2.1.c4.2.2.1 b.1.2.1.c4.2.2.2.1 b.1.2.1.c8.1) fun (d : Int) => .leaf (Res.mk (AV.r (RV.c (fI d))) [] [])
  | none => .fail
theorem d_ring_compare (g_cmp_Compare_int64_ : Int → Int → Option Int) (g_slices_Compare___int64_int64_ : Nat → Nat → NI → NI → Bool → Bool → Option Int) (x0 : Int) (x1 : Int) (x2 : Int) (x3 : Int) (x4 : Int) (x5 : Int) (x6 : Int) (x7 : Int) (x8 : Int) (x9 : Int) (x10 : Int) (x11 : Int) (x12 : Int) (x13 : Int) (x14 : Int) (x15 : Int) (x16 : Int) (x17 : Int) : den Try.prog (envOf [(72,
  F_cmp_Compare_int64_ g_cmp_Compare_int64_), (73, F_slices_Compare___int64_int64_ g_slices_Compare___int64_int64_)]) ⟨[], [], [], [], none⟩ 200 48 [.r (.agg [.c (.f (.i .i64 x0)), .c (.f (.i .i64 x1)), .c (.f (.i .i64 x2)), .c (.f (.i .i64 x3)), .c (.f (.i .i64 x4)), .c (.f (.i .i64 x5)), .c (.f (.i .i64 x6)),
  .c (.f (.i .i64 x7)), .c (.f (.i .i64 x8))]), .r (.agg [.c (.f (.i .i64 x9)), .c (.f (.i .i64 x10)), .c (.f (.i .i64 x11)), .c (.f (.i .i64 x12)), .c (.f (.i .i64 x13)), .c (.f (.i .i64 x14)), .c (.f (.i .i64 x15)), .c (.f (.i .i64 x16)), .c (.f (.i .i64 x17))])] [] = K_ring_compare g_cmp_Compare_int64_ g_slices_Compare___int64_int64_ x0 x1 x2 x3 x4 x5 x6 x7 x8 x9 x10 x11 x12 x13 x14 x15 x16 x17 (fun (d : Int) => some (Res.mk (AV.r (RV.c (fI d))) [] [])) := by kernel_rfl
theorem m_ring_compare {ρ σ : Type} (q : ρ → Option σ) (g_cmp_Compare_int64_ : Int → Int → Option Int) (g_slices_Compare___int64_int64_ : Nat → Nat → NI → NI → Bool → Bool → Option Int)   (x0 : Int) (x1 : Int) (x2 : Int) (x3 : Int) (x4 : Int) (x5 : Int) (x6 : Int) (x7 : Int) (x8 : Int) (x9 : Int) (x10 : Int) (x11 : Int) (x12 : Int) (x13 : Int) (x14 : Int) (x15 : Int) (x16 : Int) (x17 : Int) (k : (Int) → Option ρ) : (K_ring_compare g_cmp_Compare_int64_ g_slices_Compare___int64_int64_  x0 x1 x2 x3 x4 x5 x6 x7 x8 x9 x10 x11 x12 x13 x14 x15 x16 x17 k).bind q = K_ring_compare g_cmp_Compare_int64_ g_slices_Compare___int64_int64_  x0 x1 x2 x3 x4 x5 x6 x7 x8 x9 x10 x11 x12 x13 x14 x15 x16 x17 (fun d => (k d).bind q) := by
  simp only [K_ring_compare, bnd_cond, bnd_bind, bnd_none, bnd_sum]
theorem qa_ring_compare : ∀ b, (QA_ring_compare).em b = ([.r (.agg [.c (.f (.i .i64 b.1.1.1)), .c (.f (.i .i64 b.1.1.2.1)), .c (.f (.i .i64 b.1.1.2.2.1)), .c (.f (.i .i64 b.1.1.2.2.2.1)), .c (.f (.i .i64 b.1.1.c4.1)), .c (.f (.i .i64 b.1.1.c4.2.1)), .c (.f (.i .i64 b.1.1.c4.2.2.1)), .c (.f (.i .i64 b.1.1.c4.2.2.2.1)), .c (.f (.i .i64 b.1.1.c8.1))]), .r (.agg [.c (.f (.i .i64 b.1.2.1.1)), .c (.f (.i .i64 b.1.2.1.2.1)), .c (.f (.i .i64 b.1.2.1.2.2.1)), .c (.f (.i .i64 b.1.2.1.2.2.2.1)), .c (.f (.i .i64 b.1.2.1.c4.1)), .c (.f (.i .i64 b.1.2.1.c4.2.1)), .c (.f (.i .i64 b.1.2.1.c4.2.2.1)), .c (.f (.i .i64 b.1.2.1.c4.2.2.2.1)), .c (.f (.i .i64 b.1.2.1.c8.1))])], []) := fun b => by kernel_rfl
theorem e_ring_compare {f : (Int) → (Int) → (Int) → (Int) → (Int) → (Int) → (Int) → (Int) → (Int) → (Int) → (Int) → (Int) → (Int) → (Int) → (Int) → (Int) → (Int) → (Int) → Option (Int)} {args : List AV} {h : List Blk} {r : Res} (hr : (F_ring_compare f args h).eval = some r) : ∃ x0 x1 x2 x3 x4 x5 x6 x7 x8 x9 x10 x11 x12 x13 x14 x15 x16 x17, args = [.r (.agg [.c (.f (.i .i64 x0)), .c (.f (.i .i64 x1)), .c (.f (.i .i64 x2)), .c (.f (.i .i64 x3)), .c (.f (.i .i64 x4)), .c (.f (.i .i64 x5)), .c (.f (.i .i64 x6)), .c (.f (.i .i64 x7)), .c (.f (.i .i64 x8))]), .r (.agg [.c (.f (.i .i64 x9)), .c (.f (.i .i64 x10)), .c (.f (.i .i64 x11)), .c (.f (.i .i64 x12)), .c (.f (.i .i64 x13)), .c (.f (.i .i64 x14)), .c (.f (.i .i64 x15)), .c (.f (.i .i64 x16)), .c (.f (.i .i64 x17))])] ∧ h = [] ∧ (f x0 x1 x2 x3 x4 x5 x6 x7 x8 x9 x10 x11 x12 x13 x14 x15 x16 x17).bind (fun (d : Int) => some (Res.mk (AV.r (RV.c (fI d))) [] [])) = some r := by
  unfold F_ring_compare at hr
  split at hr
  · rename_i b hb
    have e := ((QA_ring_compare).ok _ _ hb).trans (qa_ring_compare b)
    rw [opt_eval2] at hr
    exact ⟨b.1.1.1, b.1.1.2.1, b.1.1.2.2.1, b.1.1.2.2.2.1, b.1.1.c4.1, b.1.1.c4.2.1, b.1.1.c4.2.2.1, b.1.1.c4.2.2.2.1, b.1.1.c8.1, b.1.2.1.1, b.1.2.1.2.1, b.1.2.1.2.2.1, b.1.2.1.2.2.2.1, b.1.2.1.c4.1, b.1.2.1.c4.2.1, b.1.2.1.c4.2.2.1, b.1.2.1.c4.2.2.2.1, b.1.2.1.c8.1, (Prod.mk.inj e).1, (Prod.mk.inj e).2, hr⟩
  · cases hr
theorem n_ring_compare {σ : Type} (q : (Int) → Option σ) (x0 : Int) (x1 : Int) (x2 : Int) (x3 : Int) (x4 : Int) (x5 : Int) (x6 : Int) (x7 : Int) (x8 : Int) (x9 : Int) (x10 : Int) (x11 : Int) (x12 : Int) (x13 : Int) (x14 : Int) (x15 : Int) (x16 : Int) (x17 : Int) : (f_ring_compare x0 x1 x2 x3 x4 x5 x6 x7 x8 x9 x10 x11 x12 x13 x14 x15 x16 x17).bind q = K_ring_compare f_cmp_Compare_int64_ f_slices_Compare___int64_int64_  x0 x1 x2 x3 x4 x5 x6 x7 x8 x9 x10 x11 x12 x13 x14 x15 x16 x17 q := by
  unfold f_ring_compare
  exact m_ring_compare q f_cmp_Compare_int64_ f_slices_Compare___int64_int64_   x0 x1 x2 x3 x4 x5 x6 x7 x8 x9 x10 x11 x12 x13 x14 x15 x16 x17 some
theorem s_ring_compare [Amb] : Sound Try.prog 48 (F_ring_compare f_ring_compare) := (inl_sound (l := [(72, F_cmp_Compare_int64_ f_cmp_Compare_int64_), (73, F_slices_Compare___int64_int64_ f_slices_Compare___int64_int64_)]) (.cons s_cmp_Compare_int64_ (.cons s_slices_Compare___int64_int64_ (.nil _))) mixed [] [] 200 (by kernel_rfl)).by (F := F_ring_compare f_ring_compare) fun args b r hr => by
  obtain ⟨x0, x1, x2, x3, x4, x5, x6, x7, x8, x9, x10, x11, x12, x13, x14, x15, x16, x17, rfl, rfl, hr1⟩ := e_ring_compare hr
  exact inl_eval ((d_ring_compare f_cmp_Compare_int64_ f_slices_Compare___int64_int64_  x0 x1 x2 x3 x4 x5 x6 x7 x8 x9 x10 x11 x12 x13 x14 x15 x16 x17).trans ((n_ring_compare (fun (d : Int) => some (Res.mk (AV.r (RV.c (fI d))) [] [])) x0 x1 x2 x3 x4 x5 x6 x7 x8 x9 x10 x11 x12 x13 x14 x15 x16 x17).symm.trans hr1))

def S_slices_BinarySearchFunc___api_Sample_api_Sample_api_Sample__0 {ρ : Type} (g_ring_compare : RG1g4) (x0 : Nat) (x1 : Bool) (x2 : Int) (x3 : Int) (x4 : Int) (x5 : Nat) (x6 : Nat → Int) (x7 : Nat →
  Int) (x8 : Nat → Int) (x9 : Nat → Int) (x10 : Nat → Int) (x11 : Nat → Int) (x12 : Nat → Int) (x13 : Nat → Int) (x14 : Nat → Int) (x15 : Int) (x16 : Int) (x17 : Int) (x18 : Int) (x19 : Int) (x20 : Int) (x21 : Int) (x22 : Int) (x23 : Int) (c : (Nat × Bool × Int × Int × Int × Nat × NI × (Nat →
  Int) × RG1t2) → Option ρ) (x : (RG1t3) → Option ρ) : Option ρ := bif decide (x3 < x4) then bif inR (IntKind.wrap IntKind.i64 (Int.fdiv (IntKind.wrap IntKind.u64 (IntKind.wrap IntKind.i64 (x3 + x4))) 2)) x0 then Option.bind (g_ring_compare (x6 (Int.toNat (IntKind.wrap IntKind.i64 (Int.fdiv (IntKind.wrap IntKind.u64 (IntKind.wrap IntKind.i64 (x3 + x4))) 2)))) (x7 (Int.toNat (IntKind.wrap IntKind.i64 (Int.fdiv (IntKind.wrap IntKind.u64 (IntKind.wrap IntKind.i64 (x3 + x4))) 2)))) (x8 (Int.toNat (IntKind.wrap IntKind.i64 (Int.fdiv (IntKind.wrap IntKind.u64 (IntKind.wrap IntKind.i64 (x3 + x4))) 2)))) (x9 (Int.toNat (IntKind.wrap IntKind.i64 (Int.fdiv (IntKind.wrap IntKind.u64 (IntKind.wrap IntKind.i64 (x3 + x4))) 2)))) (x10 (Int.toNat (IntKind.wrap IntKind.i64 (Int.fdiv (IntKind.wrap IntKind.u64 (IntKind.wrap IntKind.i64 (x3 + x4))) 2)))) (x11 (Int.toNat (IntKind.wrap IntKind.i64 (Int.fdiv (IntKind.wrap IntKind.u64 (IntKind.wrap IntKind.i64 (x3 + x4))) 2)))) (x12 (Int.toNat (IntKind.wrap IntKind.i64 (Int.fdiv (IntKind.wrap IntKind.u64 (IntKind.wrap IntKind.i64 (x3 + x4))) 2)))) (x13 (Int.toNat (IntKind.wrap IntKind.i64 (Int.fdiv (IntKind.wrap IntKind.u64 (IntKind.wrap IntKind.i64 (x3 + x4))) 2)))) (x14 (Int.toNat (IntKind.wrap IntKind.i64 (Int.fdiv (IntKind.wrap IntKind.u64 (IntKind.wrap IntKind.i64 (x3 + x4))) 2)))) x15 x16 x17 x18 x19 x20 x21 x22 x23) fun (d : Int) => bif decide (d < 0) then
  c (x0, x1, x2, IntKind.wrap IntKind.i64 (IntKind.wrap IntKind.i64 (Int.fdiv (IntKind.wrap IntKind.u64 (IntKind.wrap IntKind.i64 (x3 + x4))) 2) + 1), x4, x5, x6, x7, x8, x9, x10, x11, x12, x13, x14, x15, x16, x17, x18, x19, x20, x21, x22, x23) else c (x0, x1, x2, x3, IntKind.wrap IntKind.i64 (Int.fdiv (IntKind.wrap IntKind.u64 (IntKind.wrap IntKind.i64 (x3 + x4))) 2),
  x5, x6, x7, x8, x9, x10, x11, x12, x13, x14, x15, x16, x17, x18, x19, x20, x21, x22, x23) else none else x (x0, x1, x2, x3, x4, decide (x3 < x4), x5, x6, x7, x8, x9, x10, x11, x12, x13, x14, x15, x16, x17, x18, x19, x20, x21, x22, x23)
section
open Go.Ab.Rdr
def Q_slices_BinarySearchFunc___api_Sample_api_Sample_api_Sample__0 := (st (cons (ar (rc (csl (nat 0) (ok' (nat 0)) (szs hole) (nat 9) hole))) (cons aund (cons (afn (nat 48) nil) (cons aund (cons (ar (rc (cptr (nat 1) (ok' (nat 0)) (nat 9)))) (cons aund (cons aund (cons aund (cons (ar (rc (cf (fi .i64 hole)))) (cons (ar (rc (cf (fi .i64 hole)))) (cons (ar (rc (cf (fi .i64 hole)))) (cons aund (cons aund (cons aund (cons aund (cons aund (cons aund (cons aund (cons aund (cons aund (cons aund (cons aund (cons aund (cons aund (cons aund (cons aund (cons aund (cons aund (cons aund (cons aund (cons aund (cons aund (cons aund (cons aund (cons aund (cons aund (cons aund (cons aund (cons aund (cons aund (cons (atup nil) (cons (atup nil) (cons (atup nil) (cons (atup nil) (cons (atup nil) (cons (atup nil) (cons (atup nil) (cons (atup nil) (cons aund nil))))))))))))))))))))))))))))))))))))))))))))))))) (cons (some' (cons (ga (szs hole) (cons (ki .i64 hole) (cons (ki .i64 hole) (cons (ki .i64 hole) (cons (ki .i64 hole) (cons (ki .i64 hole) (cons (ki .i64 hole) (cons (ki .i64 hole) (cons (ki .i64 hole) (cons (ki .i64 hole) nil)))))))))) nil)) (cons (some' (cons (gc (cf (fi .i64 hole))) (cons (gc (cf (fi .i64 hole))) (cons (gc (cf (fi .i64 hole))) (cons (gc (cf (fi .i64 hole))) (cons (gc (cf (fi .i64 hole))) (cons (gc (cf (fi .i64 hole))) (cons (gc (cf (fi .i64 hole))) (cons (gc (cf (fi .i64 hole))) (cons (gc (cf (fi .i64 hole))) nil)))))))))) nil)) nil)
end
theorem q_slices_BinarySearchFunc___api_Sample_api_Sample_api_Sample__0 : ∀ b, (Q_slices_BinarySearchFunc___api_Sample_api_Sample_api_Sample__0).em b = St.mk [AV.r (RV.c (CV.sl 0 (Off.k 0) (Sz.s b.1.1.2.2.1) 9 b.1.1.c4)), und, AV.fn 48 [], und, AV.r (RV.c (CV.ptr 1 (Off.k 0) 9)), und,
  und, und, AV.r (RV.c (fI b.1.c8.1)), AV.r (RV.c (fI b.1.c8.2.1)), AV.r (RV.c (fI b.1.c8.2.2.1)), und, und, und, und, und, und, und, und, und, und, und, und,
  und, und, und, und, und, und, und, und, und, und, und, und, und, und, und, und, und, AV.tup [], AV.tup [], AV.tup [], AV.tup [], AV.tup [], AV.tup [], AV.tup [], AV.tup [], und] [some [Sg.a (Sz.s b.2.1.1.1.1) [kI b.2.1.1.1.2.1, kI b.2.1.1.1.2.2.1,
  kI b.2.1.1.1.2.2.2.1, kI b.2.1.1.1.c4.1, kI b.2.1.1.1.c4.2.1, kI b.2.1.1.1.c4.2.2.1, kI b.2.1.1.1.c4.2.2.2.1, kI b.2.1.1.1.c8.1, kI b.2.1.1.1.c8.2.1]],
  some [Sg.c (fI b.2.1.2.1.1), Sg.c (fI b.2.1.2.1.2.1), Sg.c (fI b.2.1.2.1.2.2.1), Sg.c (fI b.2.1.2.1.2.2.2.1), Sg.c (fI b.2.1.2.1.c4.1), Sg.c (fI b.2.1.2.1.c4.2.1), Sg.c (fI b.2.1.2.1.c4.2.2.1),
  Sg.c (fI b.2.1.2.1.c4.2.2.2.1), Sg.c (fI b.2.1.2.1.c8.1)]] [] := fun b => by kernel_rfl
def R_slices_BinarySearchFunc___api_Sample_api_Sample_api_Sample__0 (l : ∀ {ρ : Type}, (RG1t5) →
  ((RG1t3) → Option ρ) → Option ρ) {ρ : Type} (s : St) (K : AX → St → Option ρ) : Option ρ := ((Q_slices_BinarySearchFunc___api_Sample_api_Sample_api_Sample__0).rd s).bind fun b => l (b.1.1.2.2.1,
  b.1.1.c4, b.1.c8.1, b.1.c8.2.1, b.1.c8.2.2.1, b.2.1.1.1.1, b.2.1.1.1.2.1, b.2.1.1.1.2.2.1, b.2.1.1.1.2.2.2.1, b.2.1.1.1.c4.1, b.2.1.1.1.c4.2.1, b.2.1.1.1.c4.2.2.1, b.2.1.1.1.c4.2.2.2.1, b.2.1.1.1.c8.1, b.2.1.1.1.c8.2.1,
  b.2.1.2.1.1, b.2.1.2.1.2.1, b.2.1.2.1.2.2.1, b.2.1.2.1.2.2.2.1, b.2.1.2.1.c4.1, b.2.1.2.1.c4.2.1, b.2.1.2.1.c4.2.2.1, b.2.1.2.1.c4.2.2.2.1, b.2.1.2.1.c8.1) (fun d => K (AX.ex 0) (St.mk [AV.r (RV.c (CV.sl 0 (Off.k 0) (Sz.s d.1) 9 d.2.1)), und, AV.fn 48 [],
  und, AV.r (RV.c (CV.ptr 1 (Off.k 0) 9)), und, und, und, AV.r (RV.c (fI d.2.2.1)), AV.r (RV.c (fI d.2.2.2.1)), AV.r (RV.c (fI d.c4.1)), und, und, und, und, AV.r (RV.c (fI d.2.2.2.1)),
  AV.r (RV.c (fI d.c4.1)), AV.r (RV.c (CV.f (FV.b d.c4.2.1))), und, und, und, und, und, und, und, und, und, und, und, und, und, und, und, und, und, und, und, und, und, und, AV.tup [],
  AV.tup [], AV.tup [], AV.tup [], AV.tup [], AV.tup [], AV.tup [], AV.tup [], und] [some [Sg.a (Sz.s d.c4.2.2.1) [kI d.c4.2.2.2.1, kI d.c8.1, kI d.c8.2.1,
  kI d.c8.2.2.1, kI d.c8.2.2.2.1, kI d.c8.c4.1, kI d.c8.c4.2.1, kI d.c8.c4.2.2.1,
  kI d.c8.c4.2.2.2.1]], some [Sg.c (fI d.c16.1), Sg.c (fI d.c16.2.1),
  Sg.c (fI d.c16.2.2.1), Sg.c (fI d.c16.2.2.2.1), Sg.c (fI d.c16.c4.1),
  Sg.c (fI d.c16.c4.2.1), Sg.c (fI d.c16.c4.2.2.1), Sg.c (fI d.c16.c4.2.2.2.1),
  Sg.c (fI d.c16.c8)]] []))
theorem ms_slices_BinarySearchFunc___api_Sample_api_Sample_api_Sample__0 {ρ σ : Type} (g_ring_compare : RG1g4) (q : ρ → Option σ) (x0 : Nat) (x1 : Bool) (x2 : Int) (x3 : Int) (x4 : Int) (x5 : Nat) (x6 : Nat →
  Int) (x7 : Nat → Int) (x8 : Nat → Int) (x9 : Nat → Int) (x10 : Nat → Int) (x11 : Nat → Int) (x12 : Nat → Int) (x13 : Nat → Int) (x14 : Nat → Int) (x15 : Int) (x16 : Int) (x17 : Int) (x18 : Int) (x19 : Int) (x20 : Int) (x21 : Int) (x22 : Int) (x23 : Int) (c : (Nat × Bool × Int × Int × Int × Nat × (Nat →
  Int) × RG1t6) → Option ρ) (x : (RG1t3) → Option ρ) : (S_slices_BinarySearchFunc___api_Sample_api_Sample_api_Sample__0 g_ring_compare x0 x1 x2 x3 x4 x5 x6 x7 x8 x9 x10 x11 x12 x13 x14 x15 x16 x17 x18 x19 x20 x21 x22 x23 c x).bind q = S_slices_BinarySearchFunc___api_Sample_api_Sample_api_Sample__0 g_ring_compare x0 x1 x2 x3 x4 x5 x6 x7 x8 x9 x10 x11 x12 x13 x14 x15 x16 x17 x18 x19 x20 x21 x22 x23 (fun d => (c d).bind q) (fun d => (x d).bind q) := by
  simp only [S_slices_BinarySearchFunc___api_Sample_api_Sample_api_Sample__0, bnd_cond, bnd_bind, bnd_none, bnd_sum]
def L_slices_BinarySearchFunc___api_Sample_api_Sample_api_Sample__0 {ρ : Type} (d : RG1t5) (k : (RG1t3) → Option ρ) : Option ρ := loopK (fun d c x => S_slices_BinarySearchFunc___api_Sample_api_Sample_api_Sample__0 f_ring_compare d.1 d.2.1 d.2.2.1 d.2.2.2.1 d.c4.1 d.c4.2.1 d.c4.2.2.1 d.c4.2.2.2.1 d.c8.1 d.c8.2.1 d.c8.2.2.1 d.c8.2.2.2.1 d.c8.c4.1 d.c8.c4.2.1 d.c8.c4.2.2.1 d.c8.c4.2.2.2.1 d.c16.1 d.c16.2.1 d.c16.2.2.1 d.c16.2.2.2.1 d.c16.c4.1 d.c16.c4.2.1 d.c16.c4.2.2.1 d.c16.c4.2.2.2 c x) 200 d k
theorem mL_slices_BinarySearchFunc___api_Sample_api_Sample_api_Sample__0 {ρ σ : Type} (q : ρ → Option σ) (d : RG1t5) (k : (RG1t3) → Option ρ) : (L_slices_BinarySearchFunc___api_Sample_api_Sample_api_Sample__0 d k).bind q = L_slices_BinarySearchFunc___api_Sample_api_Sample_api_Sample__0 d fun x => (k x).bind q := loopK_bind q (fun d c x => ms_slices_BinarySearchFunc___api_Sample_api_Sample_api_Sample__0 f_ring_compare q d.1 d.2.1 d.2.2.1 d.2.2.2.1 d.c4.1 d.c4.2.1 d.c4.2.2.1 d.c4.2.2.2.1 d.c8.1 d.c8.2.1 d.c8.2.2.1 d.c8.2.2.2.1 d.c8.c4.1 d.c8.c4.2.1 d.c8.c4.2.2.1 d.c8.c4.2.2.2.1 d.c16.1 d.c16.2.1 d.c16.2.2.1 d.c16.2.2.2.1 d.c16.c4.1 d.c16.c4.2.1 d.c16.c4.2.2.1 d.c16.c4.2.2.2 c x) k _ d
theorem ds_slices_BinarySearchFunc___api_Sample_api_Sample_api_Sample__0 {ρ : Type} (g_ring_compare : RG1g4) (l_0 : ∀ {ρ : Type}, (Nat × Bool × Int × Int × Int × Nat × NI × (Nat →
  Int) × RG1t2) → ((RG1t3) → Option ρ) → Option ρ) (x0 : Nat) (x1 : Bool) (x2 : Int) (x3 : Int) (x4 : Int) (x5 : Nat) (x6 : Nat → Int) (x7 : Nat → Int) (x8 : Nat → Int) (x9 : Nat → Int) (x10 : Nat → Int) (x11 : Nat → Int) (x12 : Nat → Int) (x13 : Nat →
  Int) (x14 : Nat → Int) (x15 : Int) (x16 : Int) (x17 : Int) (x18 : Int) (x19 : Int) (x20 : Int) (x21 : Int) (x22 : Int) (x23 : Int) (c : St → Option ρ) (K : AX → St → Option ρ) : runC Try.prog (envOf [(48, F_ring_compare g_ring_compare)]) ⟨[⟨3, [1, 3, 5, 6, 7, 11, 12, 13, 14, 15, 16, 17, 18, 19,
  20, 21, 22, 23, 24, 25, 26, 27, 28, 29, 30, 31, 32, 33, 34, 35, 36, 37, 38, 39, 48], []⟩], [⟨3, 1, @R_slices_BinarySearchFunc___api_Sample_api_Sample_api_Sample__0 (@l_0)⟩], [], [], (some ⟨0, [0, 1, 2, 3, 4, 5, 8, 9, 10, 11, 12, 13, 14, 15, 16, 17, 18, 19, 20, 21, 22, 23, 24, 25, 26, 27, 28, 29, 30,
  31, 32, 33, 34, 35, 36, 37, 38, 39, 40, 41, 42, 43, 44, 45, 46, 47, 48], []⟩)⟩ (tmpsOf Try.prog 47) 1 200 (loopIn Try.prog 47 3) (St.mk [AV.r (RV.c (CV.sl 0 (Off.k 0) (Sz.s x0) 9 x1)), und, AV.fn 48 [], und, AV.r (RV.c (CV.ptr 1 (Off.k 0) 9)), und, und, und, AV.r (RV.c (fI x2)),
  AV.r (RV.c (fI x3)), AV.r (RV.c (fI x4)), und, und, und, und, und, und, und, und, und, und, und, und, und, und, und, und, und, und, und, und, und, und, und, und, und, und, und, und,
  und, AV.tup [], AV.tup [], AV.tup [], AV.tup [], AV.tup [], AV.tup [], AV.tup [], AV.tup [], und] [some [Sg.a (Sz.s x5) [kI x6, kI x7, kI x8, kI x9, kI x10, kI x11, kI x12, kI x13,
  kI x14]], some [Sg.c (fI x15), Sg.c (fI x16), Sg.c (fI x17), Sg.c (fI x18), Sg.c (fI x19), Sg.c (fI x20), Sg.c (fI x21), Sg.c (fI x22),
  Sg.c (fI x23)]] []) (next (fun t => t.head 1 ⟨[⟨3, [1, 3, 5, 6, 7, 11, 12, 13, 14, 15, 16, 17, 18, 19, 20, 21, 22, 23, 24, 25, 26, 27, 28, 29, 30, 31, 32, 33, 34, 35, 36, 37, 38, 39, 48], []⟩], [⟨3, 1, @R_slices_BinarySearchFunc___api_Sample_api_Sample_api_Sample__0 (@l_0)⟩], [],
  [], (some ⟨0, [0, 1, 2, 3, 4, 5, 8, 9, 10, 11, 12, 13, 14, 15, 16, 17, 18, 19, 20, 21, 22, 23, 24, 25, 26, 27, 28, 29, 30, 31, 32, 33, 34, 35, 36, 37, 38, 39, 40, 41, 42, 43, 44, 45, 46, 47, 48], []⟩)⟩ (loopIn Try.prog 47 3)) c K) = S_slices_BinarySearchFunc___api_Sample_api_Sample_api_Sample__0 g_ring_compare x0 x1 x2 x3 x4 x5 x6 x7 x8 x9 x10 x11 x12 x13 x14 x15 x16 x17 x18 x19 x20 x21 x22 x23 (fun d => c (St.mk [AV.r (RV.c (CV.sl 0 (Off.k 0) (Sz.s d.1) 9 d.2.1)),
  und, AV.fn 48 [], und, AV.r (RV.c (CV.ptr 1 (Off.k 0) 9)), und, und, und, AV.r (RV.c (fI d.2.2.1)), AV.r (RV.c (fI d.2.2.2.1)), AV.r (RV.c (fI d.c4.1)), und, und, und, und, und,
  und, und, und, und, und, und, und, und, und, und, und, und, und, und, und, und, und, und, und, und, und, und, und, und, AV.tup [], AV.tup [], AV.tup [], AV.tup [], AV.tup [], AV.tup [], AV.tup [], AV.tup [], und] [some [Sg.a (Sz.s d.c4.2.1) [kI d.c4.2.2.1,
  kI d.c4.2.2.2.1, kI d.c8.1, kI d.c8.2.1, kI d.c8.2.2.1, kI d.c8.2.2.2.1,
  kI d.c8.c4.1, kI d.c8.c4.2.1, kI d.c8.c4.2.2.1]], some [Sg.c (fI d.c8.c4.2.2.2.1),
  Sg.c (fI d.c16.1), Sg.c (fI d.c16.2.1), Sg.c (fI d.c16.2.2.1),
  Sg.c (fI d.c16.2.2.2.1), Sg.c (fI d.c16.c4.1), Sg.c (fI d.c16.c4.2.1),
  Sg.c (fI d.c16.c4.2.2.1), Sg.c (fI d.c16.c4.2.2.2)]] [])) (fun d => K (AX.ex 0) (St.mk [AV.r (RV.c (CV.sl 0 (Off.k 0) (Sz.s d.1) 9 d.2.1)),
  und, AV.fn 48 [], und, AV.r (RV.c (CV.ptr 1 (Off.k 0) 9)), und, und, und, AV.r (RV.c (fI d.2.2.1)), AV.r (RV.c (fI d.2.2.2.1)), AV.r (RV.c (fI d.c4.1)), und, und, und, und, AV.r (RV.c (fI d.2.2.2.1)),
  AV.r (RV.c (fI d.c4.1)), AV.r (RV.c (CV.f (FV.b d.c4.2.1))), und, und, und, und, und, und, und, und, und, und, und, und, und, und, und, und, und, und, und, und, und, und, AV.tup [],
  AV.tup [], AV.tup [], AV.tup [], AV.tup [], AV.tup [], AV.tup [], AV.tup [], und] [some [Sg.a (Sz.s d.c4.2.2.1) [kI d.c4.2.2.2.1, kI d.c8.1, kI d.c8.2.1,
  kI d.c8.2.2.1, kI d.c8.2.2.2.1, kI d.c8.c4.1, kI d.c8.c4.2.1, kI d.c8.c4.2.2.1,
  kI d.c8.c4.2.2.2.1]], some [Sg.c (fI d.c16.1), Sg.c (fI d.c16.2.1),
  Sg.c (fI d.c16.2.2.1), Sg.c (fI d.c16.2.2.2.1), Sg.c (fI d.c16.c4.1),
  Sg.c (fI d.c16.c4.2.1), Sg.c (fI d.c16.c4.2.2.1), Sg.c (fI d.c16.c4.2.2.2.1),
  Sg.c (fI d.c16.c8)]] [])) := by kernel_rfl
theorem it_slices_BinarySearchFunc___api_Sample_api_Sample_api_Sample__0 {ρ : Type} (x0 : Nat) (x1 : Bool) (x2 : Int) (x3 : Int) (x4 : Int) (x5 : Nat) (x6 : Nat → Int) (x7 : Nat → Int) (x8 : Nat → Int) (x9 : Nat → Int) (x10 : Nat → Int) (x11 : Nat → Int) (x12 : Nat → Int) (x13 : Nat → Int) (x14 : Nat →
  Int) (x15 : Int) (x16 : Int) (x17 : Int) (x18 : Int) (x19 : Int) (x20 : Int) (x21 : Int) (x22 : Int) (x23 : Int) (K : AX → St → Option ρ) : iter (fun t => t.head 1 ⟨[⟨3, [1, 3, 5, 6, 7, 11, 12, 13, 14, 15, 16, 17, 18, 19, 20, 21, 22, 23, 24, 25, 26, 27, 28, 29, 30, 31, 32, 33, 34, 35, 36, 37, 38, 39,
  48], []⟩], [⟨3, 1, @R_slices_BinarySearchFunc___api_Sample_api_Sample_api_Sample__0 (@L_slices_BinarySearchFunc___api_Sample_api_Sample_api_Sample__0)⟩], [], [], (some ⟨0, [0, 1, 2, 3, 4, 5, 8, 9, 10, 11, 12, 13, 14, 15, 16, 17, 18, 19, 20, 21, 22, 23, 24, 25, 26, 27, 28, 29, 30, 31, 32, 33, 34, 35,
  36, 37, 38, 39, 40, 41, 42, 43, 44, 45, 46, 47, 48], []⟩)⟩ (loopIn Try.prog 47 3)) (runC Try.prog (envOf [(48, F_ring_compare f_ring_compare)]) ⟨[⟨3, [1, 3, 5, 6, 7, 11, 12, 13, 14, 15, 16, 17, 18, 19, 20, 21, 22, 23, 24, 25, 26, 27, 28, 29, 30, 31, 32, 33, 34, 35, 36, 37, 38, 39, 48], []⟩],
  [⟨3, 1, @R_slices_BinarySearchFunc___api_Sample_api_Sample_api_Sample__0 (@L_slices_BinarySearchFunc___api_Sample_api_Sample_api_Sample__0)⟩], [], [], (some ⟨0, [0, 1, 2, 3, 4, 5, 8, 9, 10, 11, 12, 13, 14, 15, 16, 17, 18, 19, 20, 21, 22, 23, 24, 25, 26, 27, 28, 29, 30, 31, 32, 33, 34, 35, 36, 37, 38,
  39, 40, 41, 42, 43, 44, 45, 46, 47, 48], []⟩)⟩ (tmpsOf Try.prog 47) 1 200 (loopIn Try.prog 47 3)) K 200 (St.mk [AV.r (RV.c (CV.sl 0 (Off.k 0) (Sz.s x0) 9 x1)), und, AV.fn 48 [], und, AV.r (RV.c (CV.ptr 1 (Off.k 0) 9)), und, und, und, AV.r (RV.c (fI x2)),
  AV.r (RV.c (fI x3)), AV.r (RV.c (fI x4)), und, und, und, und, und, und, und, und, und, und, und, und, und, und, und, und, und, und, und, und, und, und, und, und, und, und, und, und,
  und, AV.tup [], AV.tup [], AV.tup [], AV.tup [], AV.tup [], AV.tup [], AV.tup [], AV.tup [], und] [some [Sg.a (Sz.s x5) [kI x6, kI x7, kI x8, kI x9, kI x10, kI x11, kI x12, kI x13,
  kI x14]], some [Sg.c (fI x15), Sg.c (fI x16), Sg.c (fI x17), Sg.c (fI x18), Sg.c (fI x19), Sg.c (fI x20), Sg.c (fI x21), Sg.c (fI x22),
  Sg.c (fI x23)]] []) = L_slices_BinarySearchFunc___api_Sample_api_Sample_api_Sample__0 (x0, x1, x2, x3, x4, x5, x6, x7, x8, x9, x10, x11, x12, x13, x14, x15, x16, x17, x18, x19, x20, x21, x22, x23) (fun d => K (AX.ex 0) (St.mk [AV.r (RV.c (CV.sl 0 (Off.k 0) (Sz.s d.1) 9 d.2.1)),
  und, AV.fn 48 [], und, AV.r (RV.c (CV.ptr 1 (Off.k 0) 9)), und, und, und, AV.r (RV.c (fI d.2.2.1)), AV.r (RV.c (fI d.2.2.2.1)), AV.r (RV.c (fI d.c4.1)), und, und, und, und, AV.r (RV.c (fI d.2.2.2.1)),
  AV.r (RV.c (fI d.c4.1)), AV.r (RV.c (CV.f (FV.b d.c4.2.1))), und, und, und, und, und, und, und, und, und, und, und, und, und, und, und, und, und, und, und, und, und, und, AV.tup [],
  AV.tup [], AV.tup [], AV.tup [], AV.tup [], AV.tup [], AV.tup [], AV.tup [], und] [some [Sg.a (Sz.s d.c4.2.2.1) [kI d.c4.2.2.2.1, kI d.c8.1, kI d.c8.2.1,
  kI d.c8.2.2.1, kI d.c8.2.2.2.1, kI d.c8.c4.1, kI d.c8.c4.2.1, kI d.c8.c4.2.2.1,
  kI d.c8.c4.2.2.2.1]], some [Sg.c (fI d.c16.1), Sg.c (fI d.c16.2.1),
  Sg.c (fI d.c16.2.2.1), Sg.c (fI d.c16.2.2.2.1), Sg.c (fI d.c16.c4.1),
  Sg.c (fI d.c16.c4.2.1), Sg.c (fI d.c16.c4.2.2.1), Sg.c (fI d.c16.c4.2.2.2.1),
  Sg.c (fI d.c16.c8)]] [])) := iter_loopX (emb := fun (d : RG1t5) => St.mk [AV.r (RV.c (CV.sl 0 (Off.k 0) (Sz.s d.1) 9 d.2.1)), und, AV.fn 48 [], und, AV.r (RV.c (CV.ptr 1 (Off.k 0) 9)), und, und, und, AV.r (RV.c (fI d.2.2.1)), AV.r (RV.c (fI d.2.2.2.1)),
  AV.r (RV.c (fI d.c4.1)), und, und, und, und, und, und, und, und, und, und, und, und, und, und, und, und, und, und, und, und, und, und, und, und, und, und, und, und, und, AV.tup [],
  AV.tup [], AV.tup [], AV.tup [], AV.tup [], AV.tup [], AV.tup [], AV.tup [], und] [some [Sg.a (Sz.s d.c4.2.1) [kI d.c4.2.2.1, kI d.c4.2.2.2.1, kI d.c8.1, kI d.c8.2.1,
  kI d.c8.2.2.1, kI d.c8.2.2.2.1, kI d.c8.c4.1, kI d.c8.c4.2.1, kI d.c8.c4.2.2.1]],
  some [Sg.c (fI d.c8.c4.2.2.2.1), Sg.c (fI d.c16.1), Sg.c (fI d.c16.2.1),
  Sg.c (fI d.c16.2.2.1), Sg.c (fI d.c16.2.2.2.1), Sg.c (fI d.c16.c4.1),
  Sg.c (fI d.c16.c4.2.1), Sg.c (fI d.c16.c4.2.2.1), Sg.c (fI d.c16.c4.2.2.2)]] []) (step := fun d c x => S_slices_BinarySearchFunc___api_Sample_api_Sample_api_Sample__0 f_ring_compare d.1 d.2.1 d.2.2.1 d.2.2.2.1 d.c4.1 d.c4.2.1 d.c4.2.2.1 d.c4.2.2.2.1 d.c8.1 d.c8.2.1 d.c8.2.2.1 d.c8.2.2.2.1 d.c8.c4.1 d.c8.c4.2.1 d.c8.c4.2.2.1 d.c8.c4.2.2.2.1 d.c16.1 d.c16.2.1 d.c16.2.2.1 d.c16.2.2.2.1 d.c16.c4.1 d.c16.c4.2.1 d.c16.c4.2.2.1 d.c16.c4.2.2.2 c x) (kx := (fun d => K (AX.ex 0) (St.mk [AV.r (RV.c (CV.sl 0 (Off.k 0) (Sz.s d.1) 9 d.2.1)),
  und, AV.fn 48 [], und, AV.r (RV.c (CV.ptr 1 (Off.k 0) 9)), und, und, und, AV.r (RV.c (fI d.2.2.1)), AV.r (RV.c (fI d.2.2.2.1)), AV.r (RV.c (fI d.c4.1)), und, und, und, und, AV.r (RV.c (fI d.2.2.2.1)),
  AV.r (RV.c (fI d.c4.1)), AV.r (RV.c (CV.f (FV.b d.c4.2.1))), und, und, und, und, und, und, und, und, und, und, und, und, und, und, und, und, und, und, und, und, und, und, AV.tup [],
  AV.tup [], AV.tup [], AV.tup [], AV.tup [], AV.tup [], AV.tup [], AV.tup [], und] [some [Sg.a (Sz.s d.c4.2.2.1) [kI d.c4.2.2.2.1, kI d.c8.1, kI d.c8.2.1,
  kI d.c8.2.2.1, kI d.c8.2.2.2.1, kI d.c8.c4.1, kI d.c8.c4.2.1, kI d.c8.c4.2.2.1,
  kI d.c8.c4.2.2.2.1]], some [Sg.c (fI d.c16.1), Sg.c (fI d.c16.2.1),
  Sg.c (fI d.c16.2.2.1), Sg.c (fI d.c16.2.2.2.1), Sg.c (fI d.c16.c4.1),
  Sg.c (fI d.c16.c4.2.1), Sg.c (fI d.c16.c4.2.2.1), Sg.c (fI d.c16.c4.2.2.2.1),
  Sg.c (fI d.c16.c8)]] []))) (fun d c => ds_slices_BinarySearchFunc___api_Sample_api_Sample_api_Sample__0 f_ring_compare (@L_slices_BinarySearchFunc___api_Sample_api_Sample_api_Sample__0) d.1 d.2.1 d.2.2.1 d.2.2.2.1 d.c4.1 d.c4.2.1 d.c4.2.2.1 d.c4.2.2.2.1 d.c8.1 d.c8.2.1 d.c8.2.2.1 d.c8.2.2.2.1 d.c8.c4.1 d.c8.c4.2.1 d.c8.c4.2.2.1 d.c8.c4.2.2.2.1 d.c16.1 d.c16.2.1 d.c16.2.2.1 d.c16.2.2.2.1 d.c16.c4.1 d.c16.c4.2.1 d.c16.c4.2.2.1 d.c16.c4.2.2.2 c K) 200 (x0,
  x1, x2, x3, x4, x5, x6, x7, x8, x9, x10, x11, x12, x13, x14, x15, x16, x17, x18, x19, x20, x21, x22, x23)
theorem so_slices_BinarySearchFunc___api_Sample_api_Sample_api_Sample__0 [Amb] : ∀ kk, SumOK Try.prog (envOf [(48, F_ring_compare f_ring_compare)]) ⟨[⟨3, [1, 3, 5, 6, 7, 11, 12, 13, 14, 15, 16, 17, 18, 19, 20, 21, 22, 23, 24, 25, 26, 27, 28, 29, 30, 31, 32, 33, 34, 35, 36, 37, 38, 39, 48], []⟩],
  [⟨3, 1, @R_slices_BinarySearchFunc___api_Sample_api_Sample_api_Sample__0 (@L_slices_BinarySearchFunc___api_Sample_api_Sample_api_Sample__0)⟩], [], [], (some ⟨0, [0, 1, 2, 3, 4, 5, 8, 9, 10, 11, 12, 13, 14, 15, 16, 17, 18, 19, 20, 21, 22, 23, 24, 25, 26, 27, 28, 29, 30, 31, 32, 33, 34, 35, 36, 37, 38,
  39, 40, 41, 42, 43, 44, 45, 46, 47, 48], []⟩)⟩ (tmpsOf Try.prog 47) kk 200 (loopIn Try.prog 47 3) := SumOK.of (id := 3) (k0 := 1) (run := @R_slices_BinarySearchFunc___api_Sample_api_Sample_api_Sample__0 (@L_slices_BinarySearchFunc___api_Sample_api_Sample_api_Sample__0)) (by kernel_rfl) fun s K r hr => by
    unfold R_slices_BinarySearchFunc___api_Sample_api_Sample_api_Sample__0 at hr
    obtain ⟨b, hb, hr1⟩ := Option.bind_eq_some_iff.1 hr
    have e := ((Q_slices_BinarySearchFunc___api_Sample_api_Sample_api_Sample__0).ok s b hb).trans (q_slices_BinarySearchFunc___api_Sample_api_Sample_api_Sample__0 b)
    subst e
    exact ⟨200, (it_slices_BinarySearchFunc___api_Sample_api_Sample_api_Sample__0 b.1.1.2.2.1 b.1.1.c4 b.1.c8.1 b.1.c8.2.1 b.1.c8.2.2.1 b.2.1.1.1.1 b.2.1.1.1.2.1 b.2.1.1.1.2.2.1 b.2.1.1.1.2.2.2.1 b.2.1.1.1.c4.1 b.2.1.1.1.c4.2.1 b.2.1.1.1.c4.2.2.1 b.2.1.1.1.c4.2.2.2.1 b.2.1.1.1.c8.1 b.2.1.1.1.c8.2.1 b.2.1.2.1.1 b.2.1.2.1.2.1 b.2.1.2.1.2.2.1 b.2.1.2.1.2.2.2.1 b.2.1.2.1.c4.1 b.2.1.2.1.c4.2.1 b.2.1.2.1.c4.2.2.1 b.2.1.2.1.c4.2.2.2.1 b.2.1.2.1.c8.1 K).trans hr1⟩
def K_slices_BinarySearchFunc___api_Sample_api_Sample_api_Sample_ {ρ : Type} (g_ring_compare : RG1g4) (l_0 : ∀ {ρ : Type}, (RG1t5) → ((Nat × Bool × Int × Int × Int × Bool × Nat × NI × NI × NI × NI × NI × NI × NI × (Nat →
  Int) × RG1t7) → Option ρ) → Option ρ) (x0 : Nat) (x1 : Int) (x2 : Int) (x3 : Int) (x4 : Int) (x5 : Int) (x6 : Int) (x7 : Int) (x8 : Int) (x9 : Int) (x10 : Nat → Int) (x11 : Nat → Int) (x12 : Nat → Int) (x13 : Nat → Int) (x14 : Nat → Int) (x15 : Nat →
  Int) (x16 : Nat → Int) (x17 : Nat → Int) (x18 : Nat → Int) (w0 : Bool) (k : (Int × Bool) → Option ρ) : Option ρ := l_0 (x0, w0, Int.ofNat x0, 0, Int.ofNat x0, x0, x10, x11, x12, x13, x14, x15, x16, x17, x18, x1, x2, x3, x4, x5, x6, x7, x8, x9) fun (d : Nat × Bool × Int × Int × Int × Bool × Nat × (Nat →
  Int) × RG1t6) => bif decide (d.2.2.2.1 < d.2.2.1) then bif inR d.2.2.2.1 d.1 then Option.bind (g_ring_compare (d.c4.2.2.2.1 (Int.toNat d.2.2.2.1)) (d.c8.1 (Int.toNat d.2.2.2.1)) (d.c8.2.1 (Int.toNat d.2.2.2.1)) (d.c8.2.2.1 (Int.toNat d.2.2.2.1)) (d.c8.2.2.2.1 (Int.toNat d.2.2.2.1)) (d.c8.c4.1 (Int.toNat d.2.2.2.1)) (d.c8.c4.2.1 (Int.toNat d.2.2.2.1)) (d.c8.c4.2.2.1 (Int.toNat d.2.2.2.1)) (d.c8.c4.2.2.2.1 (Int.toNat d.2.2.2.1)) d.c16.1 d.c16.2.1 d.c16.2.2.1 d.c16.2.2.2.1 d.c16.c4.1 d.c16.c4.2.1 d.c16.c4.2.2.1 d.c16.c4.2.2.2.1 d.c16.c8) fun (d_1 : Int) => k (d.2.2.2.1,
  d_1 == 0) else none else k (d.2.2.2.1, false)
def f_slices_BinarySearchFunc___api_Sample_api_Sample_api_Sample_ (x0 : Nat) (x1 : Int) (x2 : Int) (x3 : Int) (x4 : Int) (x5 : Int) (x6 : Int) (x7 : Int) (x8 : Int) (x9 : Int) (x10 : Nat → Int) (x11 : Nat → Int) (x12 : Nat → Int) (x13 : Nat → Int) (x14 : Nat → Int) (x15 : Nat → Int) (x16 : Nat → Int) (x17 : Nat → Int) (x18 : Nat → Int) (w0 : Bool) : Option (Int × Bool) := K_slices_BinarySearchFunc___api_Sample_api_Sample_api_Sample_ f_ring_compare (@L_slices_BinarySearchFunc___api_Sample_api_Sample_api_Sample__0) x0 x1 x2 x3 x4 x5 x6 x7 x8 x9 x10 x11 x12 x13 x14 x15 x16 x17 x18 w0 some
section
open Go.Ab.Rdr
def QA_slices_BinarySearchFunc___api_Sample_api_Sample_api_Sample_ := ((pair (cons (ar (rc (csl (nat 0) (ok' (nat 0)) (szs hole) (nat 9) hole))) (cons (ar (ra (cons (gc (cf (fi .i64 hole))) (cons (gc (cf (fi .i64 hole))) (cons (gc (cf (fi .i64 hole))) (cons (gc (cf (fi .i64 hole))) (cons (gc (cf (fi .i64 hole))) (cons (gc (cf (fi .i64 hole))) (cons (gc (cf (fi .i64 hole))) (cons (gc (cf (fi .i64 hole))) (cons (gc (cf (fi .i64 hole))) nil))))))))))) (cons (afn (nat 48) nil) nil))) (cons (cons (ga (szs hole) (cons (ki .i64 hole) (cons (ki .i64 hole) (cons (ki .i64 hole) (cons (ki .i64 hole) (cons (ki .i64 hole) (cons (ki .i64 hole) (cons (ki .i64 hole) (cons (ki .i64 hole) (cons (ki .i64 hole) nil)))))))))) nil) nil)) : Rdr (List AV × List Blk) _)
end
def F0_slices_BinarySearchFunc___api_Sample_api_Sample_api_Sample_ (f : (Nat) → (Int) → (Int) → (Int) → (Int) → (Int) → (Int) → (Int) → (Int) → (Int) → NI → NI → NI → NI → NI → NI → NI → NI → NI → (Bool) → Option (Int × Bool)) : Sem1 := fun args h => match (QA_slices_BinarySearchFunc___api_Sample_api_Sample_api_Sample_).rd (args, h) with
  | some b => .test (Nat.beq b.2.1.1.1 b.1.1.2.2.1) (.opt (f b.1.1.2.2.1 b.1.2.1.1 b.1.2.1.2.1 b.1.2.1.2.2.1 b.1.2.1.2.2.2.1 b.1.2.1.c4.1 b.1.2.1.c4.2.1 b.1.2.1.c4.2.2.1 b.1.2.1.c4.2.2.2.1 b.1.2.1.c8.1 b.2.1.1.2.1 b.2.1.1.2.2.1 b.2.1.1.2.2.2.1 b.2.1.1.c4.1 b.2.1.1.c4.2.1 b.2.1.1.c4.2.2.1 b.2.1.1.c4.2.2.2.1 b.2.1.1.c8.1 b.2.1.1.c8.2.1 b.1.1.c4) fun (d : Int × Bool) => .leaf (Res.mk (AV.tup [RV.c (fI d.1), RV.c (CV.f (FV.b d.2))]) [Ch.keep] [])) .fail
  | none => .fail
def F_slices_BinarySearchFunc___api_Sample_api_Sample_api_Sample_ (f : (Nat) → (Int) → (Int) → (Int) → (Int) → (Int) → (Int) → (Int) → (Int) → (Int) → NI → NI → NI → NI → NI → NI → NI → NI → NI → (Bool) → Option (Int × Bool)) : Sem1 := (nilF 0 [.i .i64, .i .i64, .i .i64, .i .i64, .i .i64, .i .i64, .i .i64, .i .i64, .i .i64] (F0_slices_BinarySearchFunc___api_Sample_api_Sample_api_Sample_ f))
theorem d_slices_BinarySearchFunc___api_Sample_api_Sample_api_Sample_ (g_ring_compare : RG1g4) (l_0 : ∀ {ρ : Type}, (Nat × Bool × Int × Int × Int × Nat × NI × NI × (Nat →
  Int) × RG1t8) → ((RG1t3) → Option ρ) → Option ρ) (x0 : Nat) (x1 : Int) (x2 : Int) (x3 : Int) (x4 : Int) (x5 : Int) (x6 : Int) (x7 : Int) (x8 : Int) (x9 : Int) (x10 : Nat → Int) (x11 : Nat → Int) (x12 : Nat → Int) (x13 : Nat → Int) (x14 : Nat → Int) (x15 : Nat →
  Int) (x16 : Nat → Int) (x17 : Nat → Int) (x18 : Nat → Int) (w0 : Bool) : den Try.prog (envOf [(48, F_ring_compare g_ring_compare)]) ⟨[⟨3, [1, 3, 5, 6, 7, 11, 12, 13, 14, 15, 16, 17, 18, 19, 20, 21, 22, 23, 24, 25, 26, 27, 28, 29, 30, 31, 32, 33, 34, 35, 36, 37, 38, 39, 48], []⟩], [⟨3, 1, @R_slices_BinarySearchFunc___api_Sample_api_Sample_api_Sample__0 (@l_0)⟩],
  [], [], (some ⟨0, [0, 1, 2, 3, 4, 5, 8, 9, 10, 11, 12, 13, 14, 15, 16, 17, 18, 19, 20, 21, 22, 23, 24, 25, 26, 27, 28, 29, 30, 31, 32, 33, 34, 35, 36, 37, 38, 39, 40, 41, 42, 43, 44, 45, 46, 47, 48], []⟩)⟩ 200 47 [.r (.c (.sl 0 (.k 0) (.s x0) 9 w0)), .r (.agg [.c (.f (.i .i64 x1)), .c (.f (.i .i64 x2)),
  .c (.f (.i .i64 x3)), .c (.f (.i .i64 x4)), .c (.f (.i .i64 x5)), .c (.f (.i .i64 x6)), .c (.f (.i .i64 x7)), .c (.f (.i .i64 x8)), .c (.f (.i .i64 x9))]), .fn 48 []] [[.a (.s x0) [.i .i64 x10, .i .i64 x11, .i .i64 x12, .i .i64 x13, .i .i64 x14, .i .i64 x15, .i .i64 x16, .i .i64 x17, .i .i64 x18]]] = K_slices_BinarySearchFunc___api_Sample_api_Sample_api_Sample_ g_ring_compare (@l_0) x0 x1 x2 x3 x4 x5 x6 x7 x8 x9 x10 x11 x12 x13 x14 x15 x16 x17 x18 w0 (fun (d : Int ×
  Bool) => some (Res.mk (AV.tup [RV.c (fI d.1), RV.c (CV.f (FV.b d.2))]) [Ch.keep] [])) := by kernel_rfl
theorem m_slices_BinarySearchFunc___api_Sample_api_Sample_api_Sample_ {ρ σ : Type} (q : ρ → Option σ) (g_ring_compare : RG1g4) (l_0 : ∀ {ρ : Type}, (Nat × Bool × Int × Int × Int × Nat × (Nat →
  Int) × RG1t6) → ((RG1t3) → Option ρ) → Option ρ) (hl_0 : ∀ {ρ σ : Type} (q : ρ → Option σ) (d : RG1t5) (k : (RG1t3) → Option ρ), (l_0 d k).bind q = l_0 d fun x => (k x).bind q) (x0 : Nat) (x1 : Int) (x2 : Int) (x3 : Int) (x4 : Int) (x5 : Int) (x6 : Int) (x7 : Int) (x8 : Int) (x9 : Int) (x10 : Nat → Int) (x11 : Nat → Int) (x12 : Nat → Int) (x13 : Nat → Int) (x14 : Nat → Int) (x15 : Nat → Int) (x16 : Nat → Int) (x17 : Nat →
  Int) (x18 : Nat → Int) (w0 : Bool) (k : (Int × Bool) → Option ρ) : (K_slices_BinarySearchFunc___api_Sample_api_Sample_api_Sample_ g_ring_compare (@l_0) x0 x1 x2 x3 x4 x5 x6 x7 x8 x9 x10 x11 x12 x13 x14 x15 x16 x17 x18 w0 k).bind q = K_slices_BinarySearchFunc___api_Sample_api_Sample_api_Sample_ g_ring_compare (@l_0) x0 x1 x2 x3 x4 x5 x6 x7 x8 x9 x10 x11 x12 x13 x14 x15 x16 x17 x18 w0 (fun d => (k d).bind q) := by
  simp only [K_slices_BinarySearchFunc___api_Sample_api_Sample_api_Sample_, bnd_cond, bnd_bind, bnd_none, bnd_sum, hl_0]
theorem qa_slices_BinarySearchFunc___api_Sample_api_Sample_api_Sample_ : ∀ b, (QA_slices_BinarySearchFunc___api_Sample_api_Sample_api_Sample_).em b = ([.r (.c (.sl 0 (.k 0) (.s b.1.1.2.2.1) 9 b.1.1.c4)), .r (.agg [.c (.f (.i .i64 b.1.2.1.1)), .c (.f (.i .i64 b.1.2.1.2.1)), .c (.f (.i .i64 b.1.2.1.2.2.1)), .c (.f (.i .i64 b.1.2.1.2.2.2.1)), .c (.f (.i .i64 b.1.2.1.c4.1)), .c (.f (.i .i64 b.1.2.1.c4.2.1)), .c (.f (.i .i64 b.1.2.1.c4.2.2.1)), .c (.f (.i .i64 b.1.2.1.c4.2.2.2.1)), .c (.f (.i .i64 b.1.2.1.c8.1))]), .fn 48 []], [[.a (.s b.2.1.1.1) [.i .i64 b.2.1.1.2.1, .i .i64 b.2.1.1.2.2.1, .i .i64 b.2.1.1.2.2.2.1, .i .i64 b.2.1.1.c4.1, .i .i64 b.2.1.1.c4.2.1, .i .i64 b.2.1.1.c4.2.2.1, .i .i64 b.2.1.1.c4.2.2.2.1, .i .i64 b.2.1.1.c8.1, .i .i64 b.2.1.1.c8.2.1]]]) := fun b => by kernel_rfl
theorem e_slices_BinarySearchFunc___api_Sample_api_Sample_api_Sample_ {f : (Nat) → (Int) → (Int) → (Int) → (Int) → (Int) → (Int) → (Int) → (Int) → (Int) → NI → NI → NI → NI → NI → NI → NI → NI → NI → (Bool) → Option (Int × Bool)} {args : List AV} {h : List Blk} {r : Res} (hr : (F0_slices_BinarySearchFunc___api_Sample_api_Sample_api_Sample_ f args h).eval = some r) : ∃ x0 x1 x2 x3 x4 x5 x6 x7 x8 x9 x10 x11 x12 x13 x14 x15 x16 x17 x18 w0, args = [.r (.c (.sl 0 (.k 0) (.s x0) 9 w0)), .r (.agg [.c (.f (.i .i64 x1)), .c (.f (.i .i64 x2)), .c (.f (.i .i64 x3)), .c (.f (.i .i64 x4)), .c (.f (.i .i64 x5)), .c (.f (.i .i64 x6)), .c (.f (.i .i64 x7)), .c (.f (.i .i64 x8)), .c (.f (.i .i64 x9))]), .fn 48 []] ∧ h = [[.a (.s x0) [.i .i64 x10, .i .i64 x11, .i .i64 x12, .i .i64 x13, .i .i64 x14, .i .i64 x15, .i .i64 x16, .i .i64 x17, .i .i64 x18]]] ∧ (f x0 x1 x2 x3 x4 x5 x6 x7 x8 x9 x10 x11 x12 x13 x14 x15 x16 x17 x18 w0).bind (fun (d : Int × Bool) => some (Res.mk (AV.tup [RV.c (fI d.1), RV.c (CV.f (FV.b d.2))]) [Ch.keep] [])) = some r := by
  unfold F0_slices_BinarySearchFunc___api_Sample_api_Sample_api_Sample_ at hr
  split at hr
  · rename_i b hb
    have e := ((QA_slices_BinarySearchFunc___api_Sample_api_Sample_api_Sample_).ok _ _ hb).trans (qa_slices_BinarySearchFunc___api_Sample_api_Sample_api_Sample_ b)
    obtain ⟨he, hr1⟩ := test_eval hr
    clear hr
    have hr := hr1
    clear hr1
    rw [Nat.eq_of_beq_eq_true he] at e
    clear he
    rw [opt_eval2] at hr
    exact ⟨b.1.1.2.2.1, b.1.2.1.1, b.1.2.1.2.1, b.1.2.1.2.2.1, b.1.2.1.2.2.2.1, b.1.2.1.c4.1, b.1.2.1.c4.2.1, b.1.2.1.c4.2.2.1, b.1.2.1.c4.2.2.2.1, b.1.2.1.c8.1, b.2.1.1.2.1, b.2.1.1.2.2.1, b.2.1.1.2.2.2.1, b.2.1.1.c4.1, b.2.1.1.c4.2.1, b.2.1.1.c4.2.2.1, b.2.1.1.c4.2.2.2.1, b.2.1.1.c8.1, b.2.1.1.c8.2.1, b.1.1.c4, (Prod.mk.inj e).1, (Prod.mk.inj e).2, hr⟩
  · cases hr
theorem n_slices_BinarySearchFunc___api_Sample_api_Sample_api_Sample_ {σ : Type} (q : (Int × Bool) → Option σ) (x0 : Nat) (x1 : Int) (x2 : Int) (x3 : Int) (x4 : Int) (x5 : Int) (x6 : Int) (x7 : Int) (x8 : Int) (x9 : Int) (x10 : Nat → Int) (x11 : Nat → Int) (x12 : Nat → Int) (x13 : Nat → Int) (x14 : Nat → Int) (x15 : Nat → Int) (x16 : Nat → Int) (x17 : Nat → Int) (x18 : Nat → Int) (w0 : Bool) : (f_slices_BinarySearchFunc___api_Sample_api_Sample_api_Sample_ x0 x1 x2 x3 x4 x5 x6 x7 x8 x9 x10 x11 x12 x13 x14 x15 x16 x17 x18 w0).bind q = K_slices_BinarySearchFunc___api_Sample_api_Sample_api_Sample_ f_ring_compare (@L_slices_BinarySearchFunc___api_Sample_api_Sample_api_Sample__0) x0 x1 x2 x3 x4 x5 x6 x7 x8 x9 x10 x11 x12 x13 x14 x15 x16 x17 x18 w0 q := by
  unfold f_slices_BinarySearchFunc___api_Sample_api_Sample_api_Sample_
  exact m_slices_BinarySearchFunc___api_Sample_api_Sample_api_Sample_ q f_ring_compare (@L_slices_BinarySearchFunc___api_Sample_api_Sample_api_Sample__0) (fun q d k => mL_slices_BinarySearchFunc___api_Sample_api_Sample_api_Sample__0 q d k) x0 x1 x2 x3 x4 x5 x6 x7 x8 x9 x10 x11 x12 x13 x14 x15 x16 x17 x18 w0 some
theorem s_slices_BinarySearchFunc___api_Sample_api_Sample_api_Sample_ [Amb] : Sound Try.prog 47 (F_slices_BinarySearchFunc___api_Sample_api_Sample_api_Sample_ f_slices_BinarySearchFunc___api_Sample_api_Sample_api_Sample_) := Sound.nil 0 [.i .i64, .i .i64, .i .i64, .i .i64, .i .i64, .i .i64, .i .i64,
  .i .i64, .i .i64] <| (inl_sums (l := [(48, F_ring_compare f_ring_compare)]) (.cons s_ring_compare (.nil _)) mixed (hs := ⟨[⟨3, [1, 3, 5, 6, 7, 11, 12, 13, 14, 15, 16, 17, 18, 19, 20, 21, 22, 23, 24, 25, 26, 27, 28, 29, 30, 31, 32, 33, 34, 35, 36, 37, 38, 39, 48], []⟩], [⟨3, 1, @R_slices_BinarySearchFunc___api_Sample_api_Sample_api_Sample__0 (@L_slices_BinarySearchFunc___api_Sample_api_Sample_api_Sample__0)⟩],
  [], [], (some ⟨0, [0, 1, 2, 3, 4, 5, 8, 9, 10, 11, 12, 13, 14, 15, 16, 17, 18, 19, 20, 21, 22, 23, 24, 25, 26, 27, 28, 29, 30, 31, 32, 33, 34, 35, 36, 37, 38, 39, 40, 41, 42, 43, 44, 45, 46, 47, 48], []⟩)⟩) (lf := 200) (Sums.by (l := [loopIn Try.prog 47 3]) (lj := []) (by kernel_rfl) ⟨so_slices_BinarySearchFunc___api_Sample_api_Sample_api_Sample__0,
  trivial⟩ (by kernel_rfl) trivial) (by kernel_rfl)).by (F := F0_slices_BinarySearchFunc___api_Sample_api_Sample_api_Sample_ f_slices_BinarySearchFunc___api_Sample_api_Sample_api_Sample_) fun args b r hr => by
  obtain ⟨x0, x1, x2, x3, x4, x5, x6, x7, x8, x9, x10, x11, x12, x13, x14, x15, x16, x17, x18, w0, rfl, rfl, hr1⟩ := e_slices_BinarySearchFunc___api_Sample_api_Sample_api_Sample_ hr
  exact inl_eval ((d_slices_BinarySearchFunc___api_Sample_api_Sample_api_Sample_ f_ring_compare (@L_slices_BinarySearchFunc___api_Sample_api_Sample_api_Sample__0) x0 x1 x2 x3 x4 x5 x6 x7 x8 x9 x10 x11 x12 x13 x14 x15 x16 x17 x18 w0).trans ((n_slices_BinarySearchFunc___api_Sample_api_Sample_api_Sample_ (fun (d : Int × Bool) => some (Res.mk (AV.tup [RV.c (fI d.1), RV.c (CV.f (FV.b d.2))]) [Ch.keep] [])) x0 x1 x2 x3 x4 x5 x6 x7 x8 x9 x10 x11 x12 x13 x14 x15 x16 x17 x18 w0).symm.trans hr1))

def K_ring_New {ρ : Type} (x0 : Int) (k : (Unit ⊕ Int × NI) → Option ρ) : Option ρ := bif decide (x0 < 1) then k (Sum.inl ()) else bif decide (x0 > 64) then k (Sum.inl ()) else k (Sum.inr (x0, fun (x : Nat) => 0))
def f_ring_New (x0 : Int) : Option (Unit ⊕ Int × NI) := K_ring_New   x0 some
section
open Go.Ab.Rdr
def QA_ring_New := ((pair (cons (ar (rc (cf (fi .i64 hole)))) nil) nil) : Rdr (List AV × List Blk) _)
end
def F_ring_New (f : (Int) → Option (Unit ⊕ Int × NI)) : Sem1 := fun args h => match (QA_ring_New).rd (args, h) with
  | some b => .opt (f b.1.1) fun d0 => T.sum d0 (fun (d : Unit) => .leaf (Res.mk (AV.tup [RV.c CV.nilp, RV.c (fI 1)]) [] [])) (fun (d : Int × NI) => .leaf (Res.mk (AV.tup [RV.c (CV.ptr 0 (Off.k 0) 8), RV.c (fI 0)]) []
    [[Sg.c (fI 0), Sg.c (fI 0), Sg.c (fI 0), Sg.c (fI 0), Sg.c (fI 0),
        Sg.c (fI d.1), Sg.c (CV.sl 1 (Off.k 0) (Sz.s 0) 9 true), Sg.c (fI (-9223372036854775808))],
      [Sg.a (Sz.s 0)
          [kI d.2, kI d.2, kI d.2, kI d.2, kI d.2, kI d.2, kI d.2,
            kI d.2, kI d.2]]]))
  | none => .fail
theorem d_ring_New (x0 : Int) : den Try.prog (envOf []) ⟨[], [], [], [], none⟩ 200 16 [.r (.c (.f (.i .i64 x0)))] [] = K_ring_New x0 ((Sum.elim (fun (d : Unit) => some (Res.mk (AV.tup [RV.c CV.nilp, RV.c (fI 1)]) [] [])) (fun (d : Int × NI) => some (Res.mk (AV.tup [RV.c (CV.ptr 0 (Off.k 0) 8),
  RV.c (fI 0)]) [] [[Sg.c (fI 0), Sg.c (fI 0), Sg.c (fI 0), Sg.c (fI 0), Sg.c (fI 0), Sg.c (fI d.1), Sg.c (CV.sl 1 (Off.k 0) (Sz.s 0) 9 true), Sg.c (fI (-9223372036854775808))],
  [Sg.a (Sz.s 0) [kI d.2, kI d.2, kI d.2, kI d.2, kI d.2, kI d.2, kI d.2, kI d.2, kI d.2]]])))) := by kernel_rfl
theorem m_ring_New {ρ σ : Type} (q : ρ → Option σ)    (x0 : Int) (k : (Unit ⊕ Int × NI) → Option ρ) : (K_ring_New   x0 k).bind q = K_ring_New   x0 (fun d => (k d).bind q) := by
  simp only [K_ring_New, bnd_cond, bnd_bind, bnd_none, bnd_sum]
theorem qa_ring_New : ∀ b, (QA_ring_New).em b = ([.r (.c (.f (.i .i64 b.1.1)))], []) := fun b => by kernel_rfl
theorem e_ring_New {f : (Int) → Option (Unit ⊕ Int × NI)} {args : List AV} {h : List Blk} {r : Res} (hr : (F_ring_New f args h).eval = some r) : ∃ x0, args = [.r (.c (.f (.i .i64 x0)))] ∧ h = [] ∧ (f x0).bind ((Sum.elim (fun (d : Unit) => some (Res.mk (AV.tup [RV.c CV.nilp, RV.c (fI 1)]) [] [])) (fun (d : Int ×
  NI) => some (Res.mk (AV.tup [RV.c (CV.ptr 0 (Off.k 0) 8), RV.c (fI 0)]) [] [[Sg.c (fI 0), Sg.c (fI 0), Sg.c (fI 0), Sg.c (fI 0), Sg.c (fI 0), Sg.c (fI d.1),
  Sg.c (CV.sl 1 (Off.k 0) (Sz.s 0) 9 true), Sg.c (fI (-9223372036854775808))], [Sg.a (Sz.s 0) [kI d.2, kI d.2, kI d.2, kI d.2, kI d.2, kI d.2, kI d.2, kI d.2,
  kI d.2]]])))) = some r := by
  unfold F_ring_New at hr
  split at hr
  · rename_i b hb
    have e := ((QA_ring_New).ok _ _ hb).trans (qa_ring_New b)
    rw [opt_eval2] at hr
    simp only [sum_eval, leaf_eval] at hr
    exact ⟨b.1.1, (Prod.mk.inj e).1, (Prod.mk.inj e).2, hr⟩
  · cases hr
theorem n_ring_New {σ : Type} (q : (Unit ⊕ Int × NI) → Option σ) (x0 : Int) : (f_ring_New x0).bind q = K_ring_New   x0 q := by
  unfold f_ring_New
  exact m_ring_New q    x0 some
theorem s_ring_New [Amb] : Sound Try.prog 16 (F_ring_New f_ring_New) := (inl_sound (l := []) (.nil _) mixed [] [] 200 (by kernel_rfl)).by (F := F_ring_New f_ring_New) fun args b r hr => by
  obtain ⟨x0, rfl, rfl, hr1⟩ := e_ring_New hr
  exact inl_eval ((d_ring_New   x0).trans ((n_ring_New ((Sum.elim (fun (d : Unit) => some (Res.mk (AV.tup [RV.c CV.nilp, RV.c (fI 1)]) [] [])) (fun (d : Int × NI) => some (Res.mk (AV.tup [RV.c (CV.ptr 0 (Off.k 0) 8), RV.c (fI 0)]) []
    [[Sg.c (fI 0), Sg.c (fI 0), Sg.c (fI 0), Sg.c (fI 0), Sg.c (fI 0),
        Sg.c (fI d.1), Sg.c (CV.sl 1 (Off.k 0) (Sz.s 0) 9 true), Sg.c (fI (-9223372036854775808))],
      [Sg.a (Sz.s 0)
          [kI d.2, kI d.2, kI d.2, kI d.2, kI d.2, kI d.2, kI d.2,
            kI d.2, kI d.2]]])))) x0).symm.trans hr1))

def K___ring_Buffer__Spoilt {ρ : Type} (x0 : Int) (x1 : Int) (x2 : Int) (x3 : Int) (x4 : Int) (x5 : Int) (x6 : Nat) (x7 : Int) (x8 : Nat → Int) (x9 : Nat → Int) (x10 : Nat → Int) (x11 : Nat → Int) (x12 : Nat → Int) (x13 : Nat → Int) (x14 : Nat → Int) (x15 : Nat → Int) (x16 : Nat → Int) (w0 : Bool) (k : (RG1t9) → Option ρ) : Option ρ := k (IntKind.wrap IntKind.i64 (x0 + 1), x1, x2, IntKind.wrap IntKind.i64 (x3 + 1), x4, x5, x6, w0, x7)
def f___ring_Buffer__Spoilt (x0 : Int) (x1 : Int) (x2 : Int) (x3 : Int) (x4 : Int) (x5 : Int) (x6 : Nat) (x7 : Int) (x8 : Nat → Int) (x9 : Nat → Int) (x10 : Nat → Int) (x11 : Nat → Int) (x12 : Nat → Int) (x13 : Nat → Int) (x14 : Nat → Int) (x15 : Nat → Int) (x16 : Nat → Int) (w0 : Bool) : Option (RG1t9) := K___ring_Buffer__Spoilt   x0 x1 x2 x3 x4 x5 x6 x7 x8 x9 x10 x11 x12 x13 x14 x15 x16 w0 some
section
open Go.Ab.Rdr
def QA___ring_Buffer__Spoilt := ((pair (cons (ar (rc (cptr (nat 0) (ok' (nat 0)) (nat 8)))) nil) (cons (cons (gc (cf (fi .i64 hole))) (cons (gc (cf (fi .i64 hole))) (cons (gc (cf (fi .i64 hole))) (cons (gc (cf (fi .i64 hole))) (cons (gc (cf (fi .i64 hole))) (cons (gc (cf (fi .i64 hole))) (cons (gc (csl (nat 1) (ok' (nat 0)) (szs hole) (nat 9) hole)) (cons (gc (cf (fi .i64 hole))) nil)))))))) (cons (cons (ga (szs hole) (cons (ki .i64 hole) (cons (ki .i64 hole) (cons (ki .i64 hole) (cons (ki .i64 hole) (cons (ki .i64 hole) (cons (ki .i64 hole) (cons (ki .i64 hole) (cons (ki .i64 hole) (cons (ki .i64 hole) nil)))))))))) nil) nil))) : Rdr (List AV × List Blk) _)
end
def F___ring_Buffer__Spoilt (f : (Int) → (Int) → (Int) → (Int) → (Int) → (Int) → (Nat) → (Int) → NI → NI → NI → NI → NI → NI → NI → NI → NI → (Bool) → Option (RG1t9)) : Sem1 := fun args h => match (QA___ring_Buffer__Spoilt).rd (args, h) with
  | some b => .test (Nat.beq b.2.2.1.1.1 b.2.1.c4.2.2.1.2.2.1) (.opt (f b.2.1.1 b.2.1.2.1 b.2.1.2.2.1 b.2.1.2.2.2.1 b.2.1.c4.1 b.2.1.c4.2.1 b.2.1.c4.2.2.1.2.2.1 b.2.1.c4.2.2.2.1 b.2.2.1.1.2.1 b.2.2.1.1.2.2.1 b.2.2.1.1.2.2.2.1 b.2.2.1.1.c4.1 b.2.2.1.1.c4.2.1 b.2.2.1.1.c4.2.2.1 b.2.2.1.1.c4.2.2.2.1 b.2.2.1.1.c8.1 b.2.2.1.1.c8.2.1 b.2.1.c4.2.2.1.c4) fun (d : RG1t9) => .leaf (Res.mk (AV.tup [])
    [Ch.set
        [Sg.c (fI d.1), Sg.c (fI d.2.1), Sg.c (fI d.2.2.1), Sg.c (fI d.2.2.2.1),
          Sg.c (fI d.c4.1), Sg.c (fI d.c4.2.1),
          Sg.c (CV.sl 1 (Off.k 0) (Sz.s d.c4.2.2.1) 9 d.c4.2.2.2.1), Sg.c (fI d.c8)],
      Ch.keep]
    [])) .fail
  | none => .fail
theorem d___ring_Buffer__Spoilt (x0 : Int) (x1 : Int) (x2 : Int) (x3 : Int) (x4 : Int) (x5 : Int) (x6 : Nat) (x7 : Int) (x8 : Nat → Int) (x9 : Nat → Int) (x10 : Nat → Int) (x11 : Nat → Int) (x12 : Nat → Int) (x13 : Nat → Int) (x14 : Nat → Int) (x15 : Nat → Int) (x16 : Nat → Int) (w0 : Bool) : den Try.prog (envOf []) ⟨[],
  [], [], [], none⟩ 200 24 [.r (.c (.ptr 0 (.k 0) 8))] [[.c (.f (.i .i64 x0)), .c (.f (.i .i64 x1)), .c (.f (.i .i64 x2)), .c (.f (.i .i64 x3)), .c (.f (.i .i64 x4)), .c (.f (.i .i64 x5)), .c (.sl 1 (.k 0) (.s x6) 9 w0), .c (.f (.i .i64 x7))], [.a (.s x6) [.i .i64 x8, .i .i64 x9, .i .i64 x10, .i .i64 x11,
  .i .i64 x12, .i .i64 x13, .i .i64 x14, .i .i64 x15, .i .i64 x16]]] = K___ring_Buffer__Spoilt x0 x1 x2 x3 x4 x5 x6 x7 x8 x9 x10 x11 x12 x13 x14 x15 x16 w0 (fun (d : RG1t9) => some (Res.mk (AV.tup []) [Ch.set [Sg.c (fI d.1), Sg.c (fI d.2.1),
  Sg.c (fI d.2.2.1), Sg.c (fI d.2.2.2.1), Sg.c (fI d.c4.1), Sg.c (fI d.c4.2.1), Sg.c (CV.sl 1 (Off.k 0) (Sz.s d.c4.2.2.1) 9 d.c4.2.2.2.1),
  Sg.c (fI d.c8)], Ch.keep] [])) := by kernel_rfl
theorem m___ring_Buffer__Spoilt {ρ σ : Type} (q : ρ → Option σ)    (x0 : Int) (x1 : Int) (x2 : Int) (x3 : Int) (x4 : Int) (x5 : Int) (x6 : Nat) (x7 : Int) (x8 : Nat → Int) (x9 : Nat → Int) (x10 : Nat → Int) (x11 : Nat → Int) (x12 : Nat → Int) (x13 : Nat → Int) (x14 : Nat → Int) (x15 : Nat → Int) (x16 : Nat → Int) (w0 : Bool) (k : (RG1t9) → Option ρ) : (K___ring_Buffer__Spoilt   x0 x1 x2 x3 x4 x5 x6 x7 x8 x9 x10 x11 x12 x13 x14 x15 x16 w0 k).bind q = K___ring_Buffer__Spoilt   x0 x1 x2 x3 x4 x5 x6 x7 x8 x9 x10 x11 x12 x13 x14 x15 x16 w0 (fun d => (k d).bind q) := by
  simp only [K___ring_Buffer__Spoilt, bnd_cond, bnd_bind, bnd_none, bnd_sum]
theorem qa___ring_Buffer__Spoilt : ∀ b, (QA___ring_Buffer__Spoilt).em b = ([.r (.c (.ptr 0 (.k 0) 8))], [[.c (.f (.i .i64 b.2.1.1)), .c (.f (.i .i64 b.2.1.2.1)), .c (.f (.i .i64 b.2.1.2.2.1)), .c (.f (.i .i64 b.2.1.2.2.2.1)), .c (.f (.i .i64 b.2.1.c4.1)), .c (.f (.i .i64 b.2.1.c4.2.1)), .c (.sl 1 (.k 0) (.s b.2.1.c4.2.2.1.2.2.1) 9 b.2.1.c4.2.2.1.c4), .c (.f (.i .i64 b.2.1.c4.2.2.2.1))], [.a (.s b.2.2.1.1.1) [.i .i64 b.2.2.1.1.2.1, .i .i64 b.2.2.1.1.2.2.1, .i .i64 b.2.2.1.1.2.2.2.1, .i .i64 b.2.2.1.1.c4.1, .i .i64 b.2.2.1.1.c4.2.1, .i .i64 b.2.2.1.1.c4.2.2.1, .i .i64 b.2.2.1.1.c4.2.2.2.1, .i .i64 b.2.2.1.1.c8.1, .i .i64 b.2.2.1.1.c8.2.1]]]) := fun b => by kernel_rfl
theorem e___ring_Buffer__Spoilt {f : (Int) → (Int) → (Int) → (Int) → (Int) → (Int) → (Nat) → (Int) → NI → NI → NI → NI → NI → NI → NI → NI → NI → (Bool) → Option (RG1t9)} {args : List AV} {h : List Blk} {r : Res} (hr : (F___ring_Buffer__Spoilt f args h).eval = some r) : ∃ x0 x1 x2 x3 x4 x5 x6 x7 x8 x9 x10 x11 x12 x13 x14 x15 x16 w0,
  args = [.r (.c (.ptr 0 (.k 0) 8))] ∧ h = [[.c (.f (.i .i64 x0)), .c (.f (.i .i64 x1)), .c (.f (.i .i64 x2)), .c (.f (.i .i64 x3)), .c (.f (.i .i64 x4)), .c (.f (.i .i64 x5)), .c (.sl 1 (.k 0) (.s x6) 9 w0), .c (.f (.i .i64 x7))], [.a (.s x6) [.i .i64 x8, .i .i64 x9, .i .i64 x10, .i .i64 x11, .i .i64 x12,
  .i .i64 x13, .i .i64 x14, .i .i64 x15, .i .i64 x16]]] ∧ (f x0 x1 x2 x3 x4 x5 x6 x7 x8 x9 x10 x11 x12 x13 x14 x15 x16 w0).bind (fun (d : RG1t9) => some (Res.mk (AV.tup []) [Ch.set [Sg.c (fI d.1), Sg.c (fI d.2.1),
  Sg.c (fI d.2.2.1), Sg.c (fI d.2.2.2.1), Sg.c (fI d.c4.1), Sg.c (fI d.c4.2.1), Sg.c (CV.sl 1 (Off.k 0) (Sz.s d.c4.2.2.1) 9 d.c4.2.2.2.1),
  Sg.c (fI d.c8)], Ch.keep] [])) = some r := by
  unfold F___ring_Buffer__Spoilt at hr
  split at hr
  · rename_i b hb
    have e := ((QA___ring_Buffer__Spoilt).ok _ _ hb).trans (qa___ring_Buffer__Spoilt b)
    obtain ⟨he, hr1⟩ := test_eval hr
    clear hr
    have hr := hr1
    clear hr1
    rw [Nat.eq_of_beq_eq_true he] at e
    clear he
    rw [opt_eval2] at hr
    exact ⟨b.2.1.1, b.2.1.2.1, b.2.1.2.2.1, b.2.1.2.2.2.1, b.2.1.c4.1, b.2.1.c4.2.1, b.2.1.c4.2.2.1.2.2.1, b.2.1.c4.2.2.2.1, b.2.2.1.1.2.1, b.2.2.1.1.2.2.1, b.2.2.1.1.2.2.2.1, b.2.2.1.1.c4.1, b.2.2.1.1.c4.2.1, b.2.2.1.1.c4.2.2.1, b.2.2.1.1.c4.2.2.2.1, b.2.2.1.1.c8.1, b.2.2.1.1.c8.2.1, b.2.1.c4.2.2.1.c4, (Prod.mk.inj e).1, (Prod.mk.inj e).2, hr⟩
  · cases hr
theorem n___ring_Buffer__Spoilt {σ : Type} (q : (RG1t9) → Option σ) (x0 : Int) (x1 : Int) (x2 : Int) (x3 : Int) (x4 : Int) (x5 : Int) (x6 : Nat) (x7 : Int) (x8 : Nat → Int) (x9 : Nat → Int) (x10 : Nat → Int) (x11 : Nat → Int) (x12 : Nat → Int) (x13 : Nat → Int) (x14 : Nat → Int) (x15 : Nat → Int) (x16 : Nat → Int) (w0 : Bool) : (f___ring_Buffer__Spoilt x0 x1 x2 x3 x4 x5 x6 x7 x8 x9 x10 x11 x12 x13 x14 x15 x16 w0).bind q = K___ring_Buffer__Spoilt   x0 x1 x2 x3 x4 x5 x6 x7 x8 x9 x10 x11 x12 x13 x14 x15 x16 w0 q := by
  unfold f___ring_Buffer__Spoilt
  exact m___ring_Buffer__Spoilt q    x0 x1 x2 x3 x4 x5 x6 x7 x8 x9 x10 x11 x12 x13 x14 x15 x16 w0 some
theorem s___ring_Buffer__Spoilt [Amb] : Sound Try.prog 24 (F___ring_Buffer__Spoilt f___ring_Buffer__Spoilt) := (inl_sound (l := []) (.nil _) mixed [] [] 200 (by kernel_rfl)).by (F := F___ring_Buffer__Spoilt f___ring_Buffer__Spoilt) fun args b r hr => by
  obtain ⟨x0, x1, x2, x3, x4, x5, x6, x7, x8, x9, x10, x11, x12, x13, x14, x15, x16, w0, rfl, rfl, hr1⟩ := e___ring_Buffer__Spoilt hr
  exact inl_eval ((d___ring_Buffer__Spoilt   x0 x1 x2 x3 x4 x5 x6 x7 x8 x9 x10 x11 x12 x13 x14 x15 x16 w0).trans ((n___ring_Buffer__Spoilt (fun (d : RG1t9) => some (Res.mk (AV.tup [])
    [Ch.set
        [Sg.c (fI d.1), Sg.c (fI d.2.1), Sg.c (fI d.2.2.1), Sg.c (fI d.2.2.2.1),
          Sg.c (fI d.c4.1), Sg.c (fI d.c4.2.1),
          Sg.c (CV.sl 1 (Off.k 0) (Sz.s d.c4.2.2.1) 9 d.c4.2.2.2.1), Sg.c (fI d.c8)],
      Ch.keep]
    [])) x0 x1 x2 x3 x4 x5 x6 x7 x8 x9 x10 x11 x12 x13 x14 x15 x16 w0).symm.trans hr1))

def K___ring_Buffer__Peek {ρ : Type} (x0 : Int) (x1 : Int) (x2 : Int) (x3 : Int) (x4 : Int) (x5 : Int) (x6 : Nat) (x7 : Int) (x8 : Nat → Int) (x9 : Nat → Int) (x10 : Nat → Int) (x11 : Nat → Int) (x12 : Nat → Int) (x13 : Nat → Int) (x14 : Nat → Int) (x15 : Nat → Int) (x16 : Nat → Int) (w0 : Bool) (k : (RG1t10) → Option ρ) : Option ρ := bif Int.ofNat x6 == 0 then k (0, 0, 0, 0, 0, 0, 0, 0, 0, false) else bif inR 0 x6 then k (x8 0, x9 0, x10 0, x11 0, x12 0, x13 0, x14 0, x15 0, x16 0, true) else none
def f___ring_Buffer__Peek (x0 : Int) (x1 : Int) (x2 : Int) (x3 : Int) (x4 : Int) (x5 : Int) (x6 : Nat) (x7 : Int) (x8 : Nat → Int) (x9 : Nat → Int) (x10 : Nat → Int) (x11 : Nat → Int) (x12 : Nat → Int) (x13 : Nat → Int) (x14 : Nat → Int) (x15 : Nat → Int) (x16 : Nat → Int) (w0 : Bool) : Option (RG1t10) := K___ring_Buffer__Peek   x0 x1 x2 x3 x4 x5 x6 x7 x8 x9 x10 x11 x12 x13 x14 x15 x16 w0 some
section
open Go.Ab.Rdr
def QA___ring_Buffer__Peek := ((pair (cons (ar (rc (cptr (nat 0) (ok' (nat 0)) (nat 8)))) nil) (cons (cons (gc (cf (fi .i64 hole))) (cons (gc (cf (fi .i64 hole))) (cons (gc (cf (fi .i64 hole))) (cons (gc (cf (fi .i64 hole))) (cons (gc (cf (fi .i64 hole))) (cons (gc (cf (fi .i64 hole))) (cons (gc (csl (nat 1) (ok' (nat 0)) (szs hole) (nat 9) hole)) (cons (gc (cf (fi .i64 hole))) nil)))))))) (cons (cons (ga (szs hole) (cons (ki .i64 hole) (cons (ki .i64 hole) (cons (ki .i64 hole) (cons (ki .i64 hole) (cons (ki .i64 hole) (cons (ki .i64 hole) (cons (ki .i64 hole) (cons (ki .i64 hole) (cons (ki .i64 hole) nil)))))))))) nil) nil))) : Rdr (List AV × List Blk) _)
end
def F___ring_Buffer__Peek (f : (Int) → (Int) → (Int) → (Int) → (Int) → (Int) → (Nat) → (Int) → NI → NI → NI → NI → NI → NI → NI → NI → NI → (Bool) → Option (RG1t10)) : Sem1 := fun args h => match (QA___ring_Buffer__Peek).rd (args, h) with
  | some b => .test (Nat.beq b.2.2.1.1.1 b.2.1.c4.2.2.1.2.2.1) (.opt (f b.2.1.1 b.2.1.2.1 b.2.1.2.2.1 b.2.1.2.2.2.1 b.2.1.c4.1 b.2.1.c4.2.1 b.2.1.c4.2.2.1.2.2.1 b.2.1.c4.2.2.2.1 b.2.2.1.1.2.1 b.2.2.1.1.2.2.1 b.2.2.1.1.2.2.2.1 b.2.2.1.1.c4.1 b.2.2.1.1.c4.2.1 b.2.2.1.1.c4.2.2.1 b.2.2.1.1.c4.2.2.2.1 b.2.2.1.1.c8.1 b.2.2.1.1.c8.2.1 b.2.1.c4.2.2.1.c4) fun (d : RG1t10) => .leaf (Res.mk
    (AV.tup
      [RV.agg
          [Sg.c (fI d.1), Sg.c (fI d.2.1), Sg.c (fI d.2.2.1), Sg.c (fI d.2.2.2.1),
            Sg.c (fI d.c4.1), Sg.c (fI d.c4.2.1), Sg.c (fI d.c4.2.2.1),
            Sg.c (fI d.c4.2.2.2.1), Sg.c (fI d.c8.1)],
        RV.c (CV.f (FV.b d.c8.2))])
    [Ch.keep, Ch.keep] [])) .fail
  | none => .fail
theorem d___ring_Buffer__Peek (x0 : Int) (x1 : Int) (x2 : Int) (x3 : Int) (x4 : Int) (x5 : Int) (x6 : Nat) (x7 : Int) (x8 : Nat → Int) (x9 : Nat → Int) (x10 : Nat → Int) (x11 : Nat → Int) (x12 : Nat → Int) (x13 : Nat → Int) (x14 : Nat → Int) (x15 : Nat → Int) (x16 : Nat → Int) (w0 : Bool) : den Try.prog (envOf []) ⟨[],
  [], [], [], none⟩ 200 18 [.r (.c (.ptr 0 (.k 0) 8))] [[.c (.f (.i .i64 x0)), .c (.f (.i .i64 x1)), .c (.f (.i .i64 x2)), .c (.f (.i .i64 x3)), .c (.f (.i .i64 x4)), .c (.f (.i .i64 x5)), .c (.sl 1 (.k 0) (.s x6) 9 w0), .c (.f (.i .i64 x7))], [.a (.s x6) [.i .i64 x8, .i .i64 x9, .i .i64 x10, .i .i64 x11,
  .i .i64 x12, .i .i64 x13, .i .i64 x14, .i .i64 x15, .i .i64 x16]]] = K___ring_Buffer__Peek x0 x1 x2 x3 x4 x5 x6 x7 x8 x9 x10 x11 x12 x13 x14 x15 x16 w0 (fun (d : RG1t10) => some (Res.mk (AV.tup [RV.agg [Sg.c (fI d.1), Sg.c (fI d.2.1),
  Sg.c (fI d.2.2.1), Sg.c (fI d.2.2.2.1), Sg.c (fI d.c4.1), Sg.c (fI d.c4.2.1), Sg.c (fI d.c4.2.2.1), Sg.c (fI d.c4.2.2.2.1),
  Sg.c (fI d.c8.1)], RV.c (CV.f (FV.b d.c8.2))]) [Ch.keep, Ch.keep] [])) := by kernel_rfl
theorem m___ring_Buffer__Peek {ρ σ : Type} (q : ρ → Option σ)    (x0 : Int) (x1 : Int) (x2 : Int) (x3 : Int) (x4 : Int) (x5 : Int) (x6 : Nat) (x7 : Int) (x8 : Nat → Int) (x9 : Nat → Int) (x10 : Nat → Int) (x11 : Nat → Int) (x12 : Nat → Int) (x13 : Nat → Int) (x14 : Nat → Int) (x15 : Nat → Int) (x16 : Nat → Int) (w0 : Bool) (k : (RG1t10) → Option ρ) : (K___ring_Buffer__Peek   x0 x1 x2 x3 x4 x5 x6 x7 x8 x9 x10 x11 x12 x13 x14 x15 x16 w0 k).bind q = K___ring_Buffer__Peek   x0 x1 x2 x3 x4 x5 x6 x7 x8 x9 x10 x11 x12 x13 x14 x15 x16 w0 (fun d => (k d).bind q) := by
  simp only [K___ring_Buffer__Peek, bnd_cond, bnd_bind, bnd_none, bnd_sum]
theorem qa___ring_Buffer__Peek : ∀ b, (QA___ring_Buffer__Peek).em b = ([.r (.c (.ptr 0 (.k 0) 8))], [[.c (.f (.i .i64 b.2.1.1)), .c (.f (.i .i64 b.2.1.2.1)), .c (.f (.i .i64 b.2.1.2.2.1)), .c (.f (.i .i64 b.2.1.2.2.2.1)), .c (.f (.i .i64 b.2.1.c4.1)), .c (.f (.i .i64 b.2.1.c4.2.1)), .c (.sl 1 (.k 0) (.s b.2.1.c4.2.2.1.2.2.1) 9 b.2.1.c4.2.2.1.c4), .c (.f (.i .i64 b.2.1.c4.2.2.2.1))], [.a (.s b.2.2.1.1.1) [.i .i64 b.2.2.1.1.2.1, .i .i64 b.2.2.1.1.2.2.1, .i .i64 b.2.2.1.1.2.2.2.1, .i .i64 b.2.2.1.1.c4.1, .i .i64 b.2.2.1.1.c4.2.1, .i .i64 b.2.2.1.1.c4.2.2.1, .i .i64 b.2.2.1.1.c4.2.2.2.1, .i .i64 b.2.2.1.1.c8.1, .i .i64 b.2.2.1.1.c8.2.1]]]) := fun b => by kernel_rfl
theorem e___ring_Buffer__Peek {f : (Int) → (Int) → (Int) → (Int) → (Int) → (Int) → (Nat) → (Int) → NI → NI → NI → NI → NI → NI → NI → NI → NI → (Bool) → Option (RG1t10)} {args : List AV} {h : List Blk} {r : Res} (hr : (F___ring_Buffer__Peek f args h).eval = some r) : ∃ x0 x1 x2 x3 x4 x5 x6 x7 x8 x9 x10 x11 x12 x13 x14 x15 x16 w0,
  args = [.r (.c (.ptr 0 (.k 0) 8))] ∧ h = [[.c (.f (.i .i64 x0)), .c (.f (.i .i64 x1)), .c (.f (.i .i64 x2)), .c (.f (.i .i64 x3)), .c (.f (.i .i64 x4)), .c (.f (.i .i64 x5)), .c (.sl 1 (.k 0) (.s x6) 9 w0), .c (.f (.i .i64 x7))], [.a (.s x6) [.i .i64 x8, .i .i64 x9, .i .i64 x10, .i .i64 x11, .i .i64 x12,
  .i .i64 x13, .i .i64 x14, .i .i64 x15, .i .i64 x16]]] ∧ (f x0 x1 x2 x3 x4 x5 x6 x7 x8 x9 x10 x11 x12 x13 x14 x15 x16 w0).bind (fun (d : RG1t10) => some (Res.mk (AV.tup [RV.agg [Sg.c (fI d.1), Sg.c (fI d.2.1),
  Sg.c (fI d.2.2.1), Sg.c (fI d.2.2.2.1), Sg.c (fI d.c4.1), Sg.c (fI d.c4.2.1), Sg.c (fI d.c4.2.2.1), Sg.c (fI d.c4.2.2.2.1),
  Sg.c (fI d.c8.1)], RV.c (CV.f (FV.b d.c8.2))]) [Ch.keep, Ch.keep] [])) = some r := by
  unfold F___ring_Buffer__Peek at hr
  split at hr
  · rename_i b hb
    have e := ((QA___ring_Buffer__Peek).ok _ _ hb).trans (qa___ring_Buffer__Peek b)
    obtain ⟨he, hr1⟩ := test_eval hr
    clear hr
    have hr := hr1
    clear hr1
    rw [Nat.eq_of_beq_eq_true he] at e
    clear he
    rw [opt_eval2] at hr
    exact ⟨b.2.1.1, b.2.1.2.1, b.2.1.2.2.1, b.2.1.2.2.2.1, b.2.1.c4.1, b.2.1.c4.2.1, b.2.1.c4.2.2.1.2.2.1, b.2.1.c4.2.2.2.1, b.2.2.1.1.2.1, b.2.2.1.1.2.2.1, b.2.2.1.1.2.2.2.1, b.2.2.1.1.c4.1, b.2.2.1.1.c4.2.1, b.2.2.1.1.c4.2.2.1, b.2.2.1.1.c4.2.2.2.1, b.2.2.1.1.c8.1, b.2.2.1.1.c8.2.1, b.2.1.c4.2.2.1.c4, (Prod.mk.inj e).1, (Prod.mk.inj e).2, hr⟩
  · cases hr
theorem n___ring_Buffer__Peek {σ : Type} (q : (RG1t10) → Option σ) (x0 : Int) (x1 : Int) (x2 : Int) (x3 : Int) (x4 : Int) (x5 : Int) (x6 : Nat) (x7 : Int) (x8 : Nat → Int) (x9 : Nat → Int) (x10 : Nat → Int) (x11 : Nat → Int) (x12 : Nat → Int) (x13 : Nat → Int) (x14 : Nat → Int) (x15 : Nat → Int) (x16 : Nat → Int) (w0 : Bool) : (f___ring_Buffer__Peek x0 x1 x2 x3 x4 x5 x6 x7 x8 x9 x10 x11 x12 x13 x14 x15 x16 w0).bind q = K___ring_Buffer__Peek   x0 x1 x2 x3 x4 x5 x6 x7 x8 x9 x10 x11 x12 x13 x14 x15 x16 w0 q := by
  unfold f___ring_Buffer__Peek
  exact m___ring_Buffer__Peek q    x0 x1 x2 x3 x4 x5 x6 x7 x8 x9 x10 x11 x12 x13 x14 x15 x16 w0 some
theorem s___ring_Buffer__Peek [Amb] : Sound Try.prog 18 (F___ring_Buffer__Peek f___ring_Buffer__Peek) := (inl_sound (l := []) (.nil _) mixed [] [] 200 (by kernel_rfl)).by (F := F___ring_Buffer__Peek f___ring_Buffer__Peek) fun args b r hr => by
  obtain ⟨x0, x1, x2, x3, x4, x5, x6, x7, x8, x9, x10, x11, x12, x13, x14, x15, x16, w0, rfl, rfl, hr1⟩ := e___ring_Buffer__Peek hr
  exact inl_eval ((d___ring_Buffer__Peek   x0 x1 x2 x3 x4 x5 x6 x7 x8 x9 x10 x11 x12 x13 x14 x15 x16 w0).trans ((n___ring_Buffer__Peek (fun (d : RG1t10) => some (Res.mk
    (AV.tup
      [RV.agg
          [Sg.c (fI d.1), Sg.c (fI d.2.1), Sg.c (fI d.2.2.1), Sg.c (fI d.2.2.2.1),
            Sg.c (fI d.c4.1), Sg.c (fI d.c4.2.1), Sg.c (fI d.c4.2.2.1),
            Sg.c (fI d.c4.2.2.2.1), Sg.c (fI d.c8.1)],
        RV.c (CV.f (FV.b d.c8.2))])
    [Ch.keep, Ch.keep] [])) x0 x1 x2 x3 x4 x5 x6 x7 x8 x9 x10 x11 x12 x13 x14 x15 x16 w0).symm.trans hr1))

def K___ring_Buffer__Len {ρ : Type} (x0 : Int) (x1 : Int) (x2 : Int) (x3 : Int) (x4 : Int) (x5 : Int) (x6 : Nat) (x7 : Int) (x8 : Nat → Int) (x9 : Nat → Int) (x10 : Nat → Int) (x11 : Nat → Int) (x12 : Nat → Int) (x13 : Nat → Int) (x14 : Nat → Int) (x15 : Nat → Int) (x16 : Nat → Int) (w0 : Bool) (k : (Int) →
  Option ρ) : Option ρ := k (Int.ofNat x6)
def f___ring_Buffer__Len (x0 : Int) (x1 : Int) (x2 : Int) (x3 : Int) (x4 : Int) (x5 : Int) (x6 : Nat) (x7 : Int) (x8 : Nat → Int) (x9 : Nat → Int) (x10 : Nat → Int) (x11 : Nat → Int) (x12 : Nat → Int) (x13 : Nat → Int) (x14 : Nat → Int) (x15 : Nat → Int) (x16 : Nat → Int) (w0 : Bool) : Option (Int) := K___ring_Buffer__Len   x0 x1 x2 x3 x4 x5 x6 x7 x8 x9 x10 x11 x12 x13 x14 x15 x16 w0 some
section
open Go.Ab.Rdr
def QA___ring_Buffer__Len := ((pair (cons (ar (rc (cptr (nat 0) (ok' (nat 0)) (nat 8)))) nil) (cons (cons (gc (cf (fi .i64 hole))) (cons (gc (cf (fi .i64 hole))) (cons (gc (cf (fi .i64 hole))) (cons (gc (cf (fi .i64 hole))) (cons (gc (cf (fi .i64 hole))) (cons (gc (cf (fi .i64 hole))) (cons (gc (csl (nat 1) (ok' (nat 0)) (szs hole) (nat 9) hole)) (cons (gc (cf (fi .i64 hole))) nil)))))))) (cons (cons (ga (szs hole) (cons (ki .i64 hole) (cons (ki .i64 hole) (cons (ki .i64 hole) (cons (ki .i64 hole) (cons (ki .i64 hole) (cons (ki .i64 hole) (cons (ki .i64 hole) (cons (ki .i64 hole) (cons (ki .i64 hole) nil)))))))))) nil) nil))) : Rdr (List AV × List Blk) _)
end
def F___ring_Buffer__Len (f : (Int) → (Int) → (Int) → (Int) → (Int) → (Int) → (Nat) → (Int) → NI → NI → NI → NI → NI → NI → NI → NI → NI → (Bool) → Option (Int)) : Sem1 := fun args h => match (QA___ring_Buffer__Len).rd (args, h) with
  | some b => .test (Nat.beq b.2.2.1.1.1 b.2.1.c4.2.2.1.2.2.1) (.opt (f b.2.1.1 b.2.1.2.1 b.2.1.2.2.1 b.2.1.2.2.2.1 b.2.1.c4.1 b.2.1.c4.2.1 b.2.1.c4.2.2.1.2.2.1 b.2.1.c4.2.2.2.1 b.2.2.1.1.2.1 b.2.2.1.1.2.2.1 b.2.2.1.1.2.2.2.1 b.2.2.1.1.c4.1 b.2.2.1.1.c4.2.1 b.2.2.1.1.c4.2.2.1 b.2.2.1.1.c4.2.2.2.1 b.2.2.1.1.c8.1 b.2.2.1.1.c8.2.1 b.2.1.c4.2.2.1.c4) fun (d : Int) => .leaf (Res.mk (AV.r (RV.c (fI d))) [Ch.keep, Ch.keep] [])) .fail
  | none => .fail
theorem d___ring_Buffer__Len (x0 : Int) (x1 : Int) (x2 : Int) (x3 : Int) (x4 : Int) (x5 : Int) (x6 : Nat) (x7 : Int) (x8 : Nat → Int) (x9 : Nat → Int) (x10 : Nat → Int) (x11 : Nat → Int) (x12 : Nat → Int) (x13 : Nat → Int) (x14 : Nat → Int) (x15 : Nat → Int) (x16 : Nat → Int) (w0 : Bool) : den Try.prog (envOf []) ⟨[],
  [], [], [], none⟩ 200 26 [.r (.c (.ptr 0 (.k 0) 8))] [[.c (.f (.i .i64 x0)), .c (.f (.i .i64 x1)), .c (.f (.i .i64 x2)), .c (.f (.i .i64 x3)), .c (.f (.i .i64 x4)), .c (.f (.i .i64 x5)), .c (.sl 1 (.k 0) (.s x6) 9 w0), .c (.f (.i .i64 x7))], [.a (.s x6) [.i .i64 x8, .i .i64 x9, .i .i64 x10, .i .i64 x11,
  .i .i64 x12, .i .i64 x13, .i .i64 x14, .i .i64 x15, .i .i64 x16]]] = K___ring_Buffer__Len x0 x1 x2 x3 x4 x5 x6 x7 x8 x9 x10 x11 x12 x13 x14 x15 x16 w0 (fun (d : Int) => some (Res.mk (AV.r (RV.c (fI d))) [Ch.keep, Ch.keep] [])) := by kernel_rfl
theorem m___ring_Buffer__Len {ρ σ : Type} (q : ρ → Option σ)    (x0 : Int) (x1 : Int) (x2 : Int) (x3 : Int) (x4 : Int) (x5 : Int) (x6 : Nat) (x7 : Int) (x8 : Nat → Int) (x9 : Nat → Int) (x10 : Nat → Int) (x11 : Nat → Int) (x12 : Nat → Int) (x13 : Nat → Int) (x14 : Nat → Int) (x15 : Nat → Int) (x16 : Nat → Int) (w0 : Bool) (k : (Int) → Option ρ) : (K___ring_Buffer__Len   x0 x1 x2 x3 x4 x5 x6 x7 x8 x9 x10 x11 x12 x13 x14 x15 x16 w0 k).bind q = K___ring_Buffer__Len   x0 x1 x2 x3 x4 x5 x6 x7 x8 x9 x10 x11 x12 x13 x14 x15 x16 w0 (fun d => (k d).bind q) := by
  simp only [K___ring_Buffer__Len, bnd_cond, bnd_bind, bnd_none, bnd_sum]
theorem qa___ring_Buffer__Len : ∀ b, (QA___ring_Buffer__Len).em b = ([.r (.c (.ptr 0 (.k 0) 8))], [[.c (.f (.i .i64 b.2.1.1)), .c (.f (.i .i64 b.2.1.2.1)), .c (.f (.i .i64 b.2.1.2.2.1)), .c (.f (.i .i64 b.2.1.2.2.2.1)), .c (.f (.i .i64 b.2.1.c4.1)), .c (.f (.i .i64 b.2.1.c4.2.1)), .c (.sl 1 (.k 0) (.s b.2.1.c4.2.2.1.2.2.1) 9 b.2.1.c4.2.2.1.c4), .c (.f (.i .i64 b.2.1.c4.2.2.2.1))], [.a (.s b.2.2.1.1.1) [.i .i64 b.2.2.1.1.2.1, .i .i64 b.2.2.1.1.2.2.1, .i .i64 b.2.2.1.1.2.2.2.1, .i .i64 b.2.2.1.1.c4.1, .i .i64 b.2.2.1.1.c4.2.1, .i .i64 b.2.2.1.1.c4.2.2.1, .i .i64 b.2.2.1.1.c4.2.2.2.1, .i .i64 b.2.2.1.1.c8.1, .i .i64 b.2.2.1.1.c8.2.1]]]) := fun b => by kernel_rfl
theorem e___ring_Buffer__Len {f : (Int) → (Int) → (Int) → (Int) → (Int) → (Int) → (Nat) → (Int) → NI → NI → NI → NI → NI → NI → NI → NI → NI → (Bool) → Option (Int)} {args : List AV} {h : List Blk} {r : Res} (hr : (F___ring_Buffer__Len f args h).eval = some r) : ∃ x0 x1 x2 x3 x4 x5 x6 x7 x8 x9 x10 x11 x12 x13 x14 x15 x16 w0, args = [.r (.c (.ptr 0 (.k 0) 8))] ∧ h = [[.c (.f (.i .i64 x0)), .c (.f (.i .i64 x1)), .c (.f (.i .i64 x2)), .c (.f (.i .i64 x3)), .c (.f (.i .i64 x4)), .c (.f (.i .i64 x5)), .c (.sl 1 (.k 0) (.s x6) 9 w0), .c (.f (.i .i64 x7))], [.a (.s x6) [.i .i64 x8, .i .i64 x9, .i .i64 x10, .i .i64 x11, .i .i64 x12, .i .i64 x13, .i .i64 x14, .i .i64 x15, .i .i64 x16]]] ∧ (f x0 x1 x2 x3 x4 x5 x6 x7 x8 x9 x10 x11 x12 x13 x14 x15 x16 w0).bind (fun (d : Int) => some (Res.mk (AV.r (RV.c (fI d))) [Ch.keep, Ch.keep] [])) = some r := by
  unfold F___ring_Buffer__Len at hr
  split at hr
  · rename_i b hb
    have e := ((QA___ring_Buffer__Len).ok _ _ hb).trans (qa___ring_Buffer__Len b)
    obtain ⟨he, hr1⟩ := test_eval hr
    clear hr
    have hr := hr1
    clear hr1
    rw [Nat.eq_of_beq_eq_true he] at e
    clear he
    rw [opt_eval2] at hr
    exact ⟨b.2.1.1, b.2.1.2.1, b.2.1.2.2.1, b.2.1.2.2.2.1, b.2.1.c4.1, b.2.1.c4.2.1, b.2.1.c4.2.2.1.2.2.1, b.2.1.c4.2.2.2.1, b.2.2.1.1.2.1, b.2.2.1.1.2.2.1, b.2.2.1.1.2.2.2.1, b.2.2.1.1.c4.1, b.2.2.1.1.c4.2.1, b.2.2.1.1.c4.2.2.1, b.2.2.1.1.c4.2.2.2.1, b.2.2.1.1.c8.1, b.2.2.1.1.c8.2.1, b.2.1.c4.2.2.1.c4, (Prod.mk.inj e).1, (Prod.mk.inj e).2, hr⟩
  · cases hr
theorem n___ring_Buffer__Len {σ : Type} (q : (Int) → Option σ) (x0 : Int) (x1 : Int) (x2 : Int) (x3 : Int) (x4 : Int) (x5 : Int) (x6 : Nat) (x7 : Int) (x8 : Nat → Int) (x9 : Nat → Int) (x10 : Nat → Int) (x11 : Nat → Int) (x12 : Nat → Int) (x13 : Nat → Int) (x14 : Nat → Int) (x15 : Nat → Int) (x16 : Nat → Int) (w0 : Bool) : (f___ring_Buffer__Len x0 x1 x2 x3 x4 x5 x6 x7 x8 x9 x10 x11 x12 x13 x14 x15 x16 w0).bind q = K___ring_Buffer__Len   x0 x1 x2 x3 x4 x5 x6 x7 x8 x9 x10 x11 x12 x13 x14 x15 x16 w0 q := by
  unfold f___ring_Buffer__Len
  exact m___ring_Buffer__Len q    x0 x1 x2 x3 x4 x5 x6 x7 x8 x9 x10 x11 x12 x13 x14 x15 x16 w0 some
theorem s___ring_Buffer__Len [Amb] : Sound Try.prog 26 (F___ring_Buffer__Len f___ring_Buffer__Len) := (inl_sound (l := []) (.nil _) mixed [] [] 200 (by kernel_rfl)).by (F := F___ring_Buffer__Len f___ring_Buffer__Len) fun args b r hr => by
  obtain ⟨x0, x1, x2, x3, x4, x5, x6, x7, x8, x9, x10, x11, x12, x13, x14, x15, x16, w0, rfl, rfl, hr1⟩ := e___ring_Buffer__Len hr
  exact inl_eval ((d___ring_Buffer__Len   x0 x1 x2 x3 x4 x5 x6 x7 x8 x9 x10 x11 x12 x13 x14 x15 x16 w0).trans ((n___ring_Buffer__Len (fun (d : Int) => some (Res.mk (AV.r (RV.c (fI d))) [Ch.keep, Ch.keep] [])) x0 x1 x2 x3 x4 x5 x6 x7 x8 x9 x10 x11 x12 x13 x14 x15 x16 w0).symm.trans hr1))

def K__ring_Counts__Total {ρ : Type} (x0 : Int) (x1 : Int) (x2 : Int) (x3 : Int) (x4 : Int) (k : (Int) → Option ρ) : Option ρ := k (IntKind.wrap IntKind.i64 (IntKind.wrap IntKind.i64 (IntKind.wrap IntKind.i64 (x1 + x2) + x3) + x4))
def f__ring_Counts__Total (x0 : Int) (x1 : Int) (x2 : Int) (x3 : Int) (x4 : Int) : Option (Int) := K__ring_Counts__Total   x0 x1 x2 x3 x4 some
section
open Go.Ab.Rdr
def QA__ring_Counts__Total := ((pair (cons (ar (ra (cons (gc (cf (fi .i64 hole))) (cons (gc (cf (fi .i64 hole))) (cons (gc (cf (fi .i64 hole))) (cons (gc (cf (fi .i64 hole))) (cons (gc (cf (fi .i64 hole))) nil))))))) nil) nil) : Rdr (List AV × List Blk) _)
end
def F__ring_Counts__Total (f : (Int) → (Int) → (Int) → (Int) → (Int) → Option (Int)) : Sem1 := fun args h => match (QA__ring_Counts__Total).rd (args, h) with
  | some b => .opt (f b.1.1.1 b.1.1.2.1 b.1.1.2.2.1 b.1.1.2.2.2.1 b.1.1.c4.1) fun (d : Int) => .leaf (Res.mk (AV.r (RV.c (fI d))) [] [])
  | none => .fail
theorem d__ring_Counts__Total (x0 : Int) (x1 : Int) (x2 : Int) (x3 : Int) (x4 : Int) : den Try.prog (envOf []) ⟨[], [], [], [], none⟩ 200 27 [.r (.agg [.c (.f (.i .i64 x0)), .c (.f (.i .i64 x1)), .c (.f (.i .i64 x2)), .c (.f (.i .i64 x3)), .c (.f (.i .i64 x4))])] [] = K__ring_Counts__Total x0 x1 x2 x3 x4 (fun (d : Int) => some (Res.mk (AV.r (RV.c (fI d))) [] [])) := by kernel_rfl
theorem m__ring_Counts__Total {ρ σ : Type} (q : ρ → Option σ)    (x0 : Int) (x1 : Int) (x2 : Int) (x3 : Int) (x4 : Int) (k : (Int) → Option ρ) : (K__ring_Counts__Total   x0 x1 x2 x3 x4 k).bind q = K__ring_Counts__Total   x0 x1 x2 x3 x4 (fun d => (k d).bind q) := by
  simp only [K__ring_Counts__Total, bnd_cond, bnd_bind, bnd_none, bnd_sum]
theorem qa__ring_Counts__Total : ∀ b, (QA__ring_Counts__Total).em b = ([.r (.agg [.c (.f (.i .i64 b.1.1.1)), .c (.f (.i .i64 b.1.1.2.1)), .c (.f (.i .i64 b.1.1.2.2.1)), .c (.f (.i .i64 b.1.1.2.2.2.1)), .c (.f (.i .i64 b.1.1.c4.1))])], []) := fun b => by kernel_rfl
theorem e__ring_Counts__Total {f : (Int) → (Int) → (Int) → (Int) → (Int) → Option (Int)} {args : List AV} {h : List Blk} {r : Res} (hr : (F__ring_Counts__Total f args h).eval = some r) : ∃ x0 x1 x2 x3 x4, args = [.r (.agg [.c (.f (.i .i64 x0)), .c (.f (.i .i64 x1)), .c (.f (.i .i64 x2)), .c (.f (.i .i64 x3)), .c (.f (.i .i64 x4))])] ∧ h = [] ∧ (f x0 x1 x2 x3 x4).bind (fun (d : Int) => some (Res.mk (AV.r (RV.c (fI d))) [] [])) = some r := by
  unfold F__ring_Counts__Total at hr
  split at hr
  · rename_i b hb
    have e := ((QA__ring_Counts__Total).ok _ _ hb).trans (qa__ring_Counts__Total b)
    rw [opt_eval2] at hr
    exact ⟨b.1.1.1, b.1.1.2.1, b.1.1.2.2.1, b.1.1.2.2.2.1, b.1.1.c4.1, (Prod.mk.inj e).1, (Prod.mk.inj e).2, hr⟩
  · cases hr
theorem n__ring_Counts__Total {σ : Type} (q : (Int) → Option σ) (x0 : Int) (x1 : Int) (x2 : Int) (x3 : Int) (x4 : Int) : (f__ring_Counts__Total x0 x1 x2 x3 x4).bind q = K__ring_Counts__Total   x0 x1 x2 x3 x4 q := by
  unfold f__ring_Counts__Total
  exact m__ring_Counts__Total q    x0 x1 x2 x3 x4 some
theorem s__ring_Counts__Total [Amb] : Sound Try.prog 27 (F__ring_Counts__Total f__ring_Counts__Total) := (inl_sound (l := []) (.nil _) mixed [] [] 200 (by kernel_rfl)).by (F := F__ring_Counts__Total f__ring_Counts__Total) fun args b r hr => by
  obtain ⟨x0, x1, x2, x3, x4, rfl, rfl, hr1⟩ := e__ring_Counts__Total hr
  exact inl_eval ((d__ring_Counts__Total   x0 x1 x2 x3 x4).trans ((n__ring_Counts__Total (fun (d : Int) => some (Res.mk (AV.r (RV.c (fI d))) [] [])) x0 x1 x2 x3 x4).symm.trans hr1))

def K___ring_Buffer__Horizon {ρ : Type} (x0 : Int) (x1 : Int) (x2 : Int) (x3 : Int) (x4 : Int) (x5 : Int) (x6 : Nat) (x7 : Int) (x8 : Nat → Int) (x9 : Nat → Int) (x10 : Nat → Int) (x11 : Nat → Int) (x12 : Nat → Int) (x13 : Nat → Int) (x14 : Nat → Int) (x15 : Nat → Int) (x16 : Nat → Int) (w0 : Bool) (k : (Int) →
  Option ρ) : Option ρ := k x7
def f___ring_Buffer__Horizon (x0 : Int) (x1 : Int) (x2 : Int) (x3 : Int) (x4 : Int) (x5 : Int) (x6 : Nat) (x7 : Int) (x8 : Nat → Int) (x9 : Nat → Int) (x10 : Nat → Int) (x11 : Nat → Int) (x12 : Nat → Int) (x13 : Nat → Int) (x14 : Nat → Int) (x15 : Nat → Int) (x16 : Nat → Int) (w0 : Bool) : Option (Int) := K___ring_Buffer__Horizon   x0 x1 x2 x3 x4 x5 x6 x7 x8 x9 x10 x11 x12 x13 x14 x15 x16 w0 some
section
open Go.Ab.Rdr
def QA___ring_Buffer__Horizon := ((pair (cons (ar (rc (cptr (nat 0) (ok' (nat 0)) (nat 8)))) nil) (cons (cons (gc (cf (fi .i64 hole))) (cons (gc (cf (fi .i64 hole))) (cons (gc (cf (fi .i64 hole))) (cons (gc (cf (fi .i64 hole))) (cons (gc (cf (fi .i64 hole))) (cons (gc (cf (fi .i64 hole))) (cons (gc (csl (nat 1) (ok' (nat 0)) (szs hole) (nat 9) hole)) (cons (gc (cf (fi .i64 hole))) nil)))))))) (cons (cons (ga (szs hole) (cons (ki .i64 hole) (cons (ki .i64 hole) (cons (ki .i64 hole) (cons (ki .i64 hole) (cons (ki .i64 hole) (cons (ki .i64 hole) (cons (ki .i64 hole) (cons (ki .i64 hole) (cons (ki .i64 hole) nil)))))))))) nil) nil))) : Rdr (List AV × List Blk) _)
end
def F___ring_Buffer__Horizon (f : (Int) → (Int) → (Int) → (Int) → (Int) → (Int) → (Nat) → (Int) → NI → NI → NI → NI → NI → NI → NI → NI → NI → (Bool) → Option (Int)) : Sem1 := fun args h => match (QA___ring_Buffer__Horizon).rd (args, h) with
  | some b => .test (Nat.beq b.2.2.1.1.1 b.2.1.c4.2.2.1.2.2.1) (.opt (f b.2.1.1 b.2.1.2.1 b.2.1.2.2.1 b.2.1.2.2.2.1 b.2.1.c4.1 b.2.1.c4.2.1 b.2.1.c4.2.2.1.2.2.1 b.2.1.c4.2.2.2.1 b.2.2.1.1.2.1 b.2.2.1.1.2.2.1 b.2.2.1.1.2.2.2.1 b.2.2.1.1.c4.1 b.2.2.1.1.c4.2.1 b.2.2.1.1.c4.2.2.1 b.2.2.1.1.c4.2.2.2.1 b.2.2.1.1.c8.1 b.2.2.1.1.c8.2.1 b.2.1.c4.2.2.1.c4) fun (d : Int) => .leaf (Res.mk (AV.r (RV.c (fI d))) [Ch.keep, Ch.keep] [])) .fail
  | none => .fail
theorem d___ring_Buffer__Horizon (x0 : Int) (x1 : Int) (x2 : Int) (x3 : Int) (x4 : Int) (x5 : Int) (x6 : Nat) (x7 : Int) (x8 : Nat → Int) (x9 : Nat → Int) (x10 : Nat → Int) (x11 : Nat → Int) (x12 : Nat → Int) (x13 : Nat → Int) (x14 : Nat → Int) (x15 : Nat → Int) (x16 : Nat → Int) (w0 : Bool) : den Try.prog (envOf []) ⟨[],
  [], [], [], none⟩ 200 19 [.r (.c (.ptr 0 (.k 0) 8))] [[.c (.f (.i .i64 x0)), .c (.f (.i .i64 x1)), .c (.f (.i .i64 x2)), .c (.f (.i .i64 x3)), .c (.f (.i .i64 x4)), .c (.f (.i .i64 x5)), .c (.sl 1 (.k 0) (.s x6) 9 w0), .c (.f (.i .i64 x7))], [.a (.s x6) [.i .i64 x8, .i .i64 x9, .i .i64 x10, .i .i64 x11,
  .i .i64 x12, .i .i64 x13, .i .i64 x14, .i .i64 x15, .i .i64 x16]]] = K___ring_Buffer__Horizon x0 x1 x2 x3 x4 x5 x6 x7 x8 x9 x10 x11 x12 x13 x14 x15 x16 w0 (fun (d : Int) => some (Res.mk (AV.r (RV.c (fI d))) [Ch.keep, Ch.keep] [])) := by kernel_rfl
theorem m___ring_Buffer__Horizon {ρ σ : Type} (q : ρ → Option σ)    (x0 : Int) (x1 : Int) (x2 : Int) (x3 : Int) (x4 : Int) (x5 : Int) (x6 : Nat) (x7 : Int) (x8 : Nat → Int) (x9 : Nat → Int) (x10 : Nat → Int) (x11 : Nat → Int) (x12 : Nat → Int) (x13 : Nat → Int) (x14 : Nat → Int) (x15 : Nat → Int) (x16 : Nat → Int) (w0 : Bool) (k : (Int) → Option ρ) : (K___ring_Buffer__Horizon   x0 x1 x2 x3 x4 x5 x6 x7 x8 x9 x10 x11 x12 x13 x14 x15 x16 w0 k).bind q = K___ring_Buffer__Horizon   x0 x1 x2 x3 x4 x5 x6 x7 x8 x9 x10 x11 x12 x13 x14 x15 x16 w0 (fun d => (k d).bind q) := by
  simp only [K___ring_Buffer__Horizon, bnd_cond, bnd_bind, bnd_none, bnd_sum]
theorem qa___ring_Buffer__Horizon : ∀ b, (QA___ring_Buffer__Horizon).em b = ([.r (.c (.ptr 0 (.k 0) 8))], [[.c (.f (.i .i64 b.2.1.1)), .c (.f (.i .i64 b.2.1.2.1)), .c (.f (.i .i64 b.2.1.2.2.1)), .c (.f (.i .i64 b.2.1.2.2.2.1)), .c (.f (.i .i64 b.2.1.c4.1)), .c (.f (.i .i64 b.2.1.c4.2.1)), .c (.sl 1 (.k 0) (.s b.2.1.c4.2.2.1.2.2.1) 9 b.2.1.c4.2.2.1.c4), .c (.f (.i .i64 b.2.1.c4.2.2.2.1))], [.a (.s b.2.2.1.1.1) [.i .i64 b.2.2.1.1.2.1, .i .i64 b.2.2.1.1.2.2.1, .i .i64 b.2.2.1.1.2.2.2.1, .i .i64 b.2.2.1.1.c4.1, .i .i64 b.2.2.1.1.c4.2.1, .i .i64 b.2.2.1.1.c4.2.2.1, .i .i64 b.2.2.1.1.c4.2.2.2.1, .i .i64 b.2.2.1.1.c8.1, .i .i64 b.2.2.1.1.c8.2.1]]]) := fun b => by kernel_rfl
theorem e___ring_Buffer__Horizon {f : (Int) → (Int) → (Int) → (Int) → (Int) → (Int) → (Nat) → (Int) → NI → NI → NI → NI → NI → NI → NI → NI → NI → (Bool) → Option (Int)} {args : List AV} {h : List Blk} {r : Res} (hr : (F___ring_Buffer__Horizon f args h).eval = some r) : ∃ x0 x1 x2 x3 x4 x5 x6 x7 x8 x9 x10 x11 x12 x13 x14 x15 x16 w0, args = [.r (.c (.ptr 0 (.k 0) 8))] ∧ h = [[.c (.f (.i .i64 x0)), .c (.f (.i .i64 x1)), .c (.f (.i .i64 x2)), .c (.f (.i .i64 x3)), .c (.f (.i .i64 x4)), .c (.f (.i .i64 x5)), .c (.sl 1 (.k 0) (.s x6) 9 w0), .c (.f (.i .i64 x7))], [.a (.s x6) [.i .i64 x8, .i .i64 x9, .i .i64 x10, .i .i64 x11, .i .i64 x12, .i .i64 x13, .i .i64 x14, .i .i64 x15, .i .i64 x16]]] ∧ (f x0 x1 x2 x3 x4 x5 x6 x7 x8 x9 x10 x11 x12 x13 x14 x15 x16 w0).bind (fun (d : Int) => some (Res.mk (AV.r (RV.c (fI d))) [Ch.keep, Ch.keep] [])) = some r := by
  unfold F___ring_Buffer__Horizon at hr
  split at hr
  · rename_i b hb
    have e := ((QA___ring_Buffer__Horizon).ok _ _ hb).trans (qa___ring_Buffer__Horizon b)
    obtain ⟨he, hr1⟩ := test_eval hr
    clear hr
    have hr := hr1
    clear hr1
    rw [Nat.eq_of_beq_eq_true he] at e
    clear he
    rw [opt_eval2] at hr
    exact ⟨b.2.1.1, b.2.1.2.1, b.2.1.2.2.1, b.2.1.2.2.2.1, b.2.1.c4.1, b.2.1.c4.2.1, b.2.1.c4.2.2.1.2.2.1, b.2.1.c4.2.2.2.1, b.2.2.1.1.2.1, b.2.2.1.1.2.2.1, b.2.2.1.1.2.2.2.1, b.2.2.1.1.c4.1, b.2.2.1.1.c4.2.1, b.2.2.1.1.c4.2.2.1, b.2.2.1.1.c4.2.2.2.1, b.2.2.1.1.c8.1, b.2.2.1.1.c8.2.1, b.2.1.c4.2.2.1.c4, (Prod.mk.inj e).1, (Prod.mk.inj e).2, hr⟩
  · cases hr
theorem n___ring_Buffer__Horizon {σ : Type} (q : (Int) → Option σ) (x0 : Int) (x1 : Int) (x2 : Int) (x3 : Int) (x4 : Int) (x5 : Int) (x6 : Nat) (x7 : Int) (x8 : Nat → Int) (x9 : Nat → Int) (x10 : Nat → Int) (x11 : Nat → Int) (x12 : Nat → Int) (x13 : Nat → Int) (x14 : Nat → Int) (x15 : Nat → Int) (x16 : Nat → Int) (w0 : Bool) : (f___ring_Buffer__Horizon x0 x1 x2 x3 x4 x5 x6 x7 x8 x9 x10 x11 x12 x13 x14 x15 x16 w0).bind q = K___ring_Buffer__Horizon   x0 x1 x2 x3 x4 x5 x6 x7 x8 x9 x10 x11 x12 x13 x14 x15 x16 w0 q := by
  unfold f___ring_Buffer__Horizon
  exact m___ring_Buffer__Horizon q    x0 x1 x2 x3 x4 x5 x6 x7 x8 x9 x10 x11 x12 x13 x14 x15 x16 w0 some
theorem s___ring_Buffer__Horizon [Amb] : Sound Try.prog 19 (F___ring_Buffer__Horizon f___ring_Buffer__Horizon) := (inl_sound (l := []) (.nil _) mixed [] [] 200 (by kernel_rfl)).by (F := F___ring_Buffer__Horizon f___ring_Buffer__Horizon) fun args b r hr => by
  obtain ⟨x0, x1, x2, x3, x4, x5, x6, x7, x8, x9, x10, x11, x12, x13, x14, x15, x16, w0, rfl, rfl, hr1⟩ := e___ring_Buffer__Horizon hr
  exact inl_eval ((d___ring_Buffer__Horizon   x0 x1 x2 x3 x4 x5 x6 x7 x8 x9 x10 x11 x12 x13 x14 x15 x16 w0).trans ((n___ring_Buffer__Horizon (fun (d : Int) => some (Res.mk (AV.r (RV.c (fI d))) [Ch.keep, Ch.keep] [])) x0 x1 x2 x3 x4 x5 x6 x7 x8 x9 x10 x11 x12 x13 x14 x15 x16 w0).symm.trans hr1))

def K___ring_Buffer__Put {ρ : Type} (g_slices_BinarySearchFunc___api_Sample_api_Sample_api_Sample_ : RG1g13) (g_ring_compare : RG1g4) (g_slices_Insert___api_Sample_api_Sample_ : RG1g14) (g_slices_Delete___api_Sample_api_Sample_ : RG1g15) (x0 : Int) (x1 : Int) (x2 : Int) (x3 : Int) (x4 : Int) (x5 : Int) (x6 : Int) (x7 : Int) (x8 : Int) (x9 : Int) (x10 : Int) (x11 : Int) (x12 : Int) (x13 : Int) (x14 : Int) (x15 : Nat) (x16 : Int) (x17 : Nat →
  Int) (x18 : Nat → Int) (x19 : Nat → Int) (x20 : Nat → Int) (x21 : Nat → Int) (x22 : Nat → Int) (x23 : Nat → Int) (x24 : Nat → Int) (x25 : Nat → Int) (w0 : Bool) (k : (RG1t9 ⊕ RG1t12) → Option ρ) : Option ρ := bif decide (x0 ≤ x16) then k (Sum.inl (IntKind.wrap IntKind.i64 (x9 + 1), IntKind.wrap IntKind.i64 (x10 + 1), x11, x12, x13, x14, x15, w0, x16)) else bif Nat.beq x15 x15 then Option.bind (g_slices_BinarySearchFunc___api_Sample_api_Sample_api_Sample_ x15 x0 x1 x2 x3 x4 x5 x6 x7 x8 x17 x18 x19 x20 x21 x22 x23 x24 x25 (w0 && true)) fun (d : Int ×
  Bool) => bif Nat.beq x15 x15 then Option.bind (g_slices_Insert___api_Sample_api_Sample_ x15 d.1 x17 x18 x19 x20 x21 x22 x23 x24 x25 (fun (j : Nat) => bif Nat.beq j 0 then x0 else x0) (fun (j : Nat) => bif Nat.beq j 0 then x1 else x1) (fun (j : Nat) => bif Nat.beq j 0 then x2 else x2) (fun (j : Nat) => bif Nat.beq j 0 then
  x3 else x3) (fun (j : Nat) => bif Nat.beq j 0 then x4 else x4) (fun (j : Nat) => bif Nat.beq j 0 then x5 else x5) (fun (j : Nat) => bif Nat.beq j 0 then x6 else x6) (fun (j : Nat) => bif Nat.beq j 0 then x7 else x7) (fun (j : Nat) => bif Nat.beq j 0 then x8 else x8) (w0 && true) true) fun (d : RG1t11) => bif decide (Int.ofNat d.1 ≤ x14) then k (Sum.inr (true, IntKind.wrap IntKind.i64 (x9 + 1), x10, x11, x12, x13, x14, d.1, x16, d.2.1, d.2.2.1, d.2.2.2.1, d.c4.1,
  d.c4.2.1, d.c4.2.2.1, d.c4.2.2.2.1, d.c8.1, d.c8.2)) else bif inR 0 d.1 then bif Nat.beq d.1 d.1 then Option.bind (g_slices_Delete___api_Sample_api_Sample_ d.1 0 1 d.2.1 d.2.2.1 d.2.2.2.1 d.c4.1 d.c4.2.1 d.c4.2.2.1 d.c4.2.2.2.1 d.c8.1 d.c8.2 true) fun (d_1 : RG1t11) => k (Sum.inr (!(d.2.1 0 == x0 && (d.2.2.1 0 == x1 && (d.2.2.2.1 0 == x2 && (d.c4.1 0 == x3 && (d.c4.2.1 0 == x4 && (d.c4.2.2.1 0 == x5 && (d.c4.2.2.2.1 0 == x6 && (d.c8.1 0 == x7 && (d.c8.2 0 == x8 && true))))))) && true)),
  IntKind.wrap IntKind.i64 (x9 + 1), x10, IntKind.wrap IntKind.i64 (x11 + 1), x12, x13, x14, d_1.1, x16, d_1.2.1, d_1.2.2.1, d_1.2.2.2.1, d_1.c4.1, d_1.c4.2.1, d_1.c4.2.2.1, d_1.c4.2.2.2.1, d_1.c8.1,
  d_1.c8.2)) else none else none else none else none
def f___ring_Buffer__Put (x0 : Int) (x1 : Int) (x2 : Int) (x3 : Int) (x4 : Int) (x5 : Int) (x6 : Int) (x7 : Int) (x8 : Int) (x9 : Int) (x10 : Int) (x11 : Int) (x12 : Int) (x13 : Int) (x14 : Int) (x15 : Nat) (x16 : Int) (x17 : Nat → Int) (x18 : Nat → Int) (x19 : Nat → Int) (x20 : Nat → Int) (x21 : Nat →
  Int) (x22 : Nat → Int) (x23 : Nat → Int) (x24 : Nat → Int) (x25 : Nat → Int) (w0 : Bool) : Option (RG1t9 ⊕ RG1t12) := K___ring_Buffer__Put f_slices_BinarySearchFunc___api_Sample_api_Sample_api_Sample_ f_ring_compare f_slices_Insert___api_Sample_api_Sample_ f_slices_Delete___api_Sample_api_Sample_ x0 x1 x2 x3 x4 x5 x6 x7 x8 x9 x10 x11 x12 x13 x14 x15 x16 x17 x18 x19 x20 x21 x22 x23 x24 x25 w0 some
section
open Go.Ab.Rdr
def QA___ring_Buffer__Put := ((pair (cons (ar (rc (cptr (nat 0) (ok' (nat 0)) (nat 8)))) (cons (ar (ra (cons (gc (cf (fi .i64 hole))) (cons (gc (cf (fi .i64 hole))) (cons (gc (cf (fi .i64 hole))) (cons (gc (cf (fi .i64 hole))) (cons (gc (cf (fi .i64 hole))) (cons (gc (cf (fi .i64 hole))) (cons (gc (cf (fi .i64 hole))) (cons (gc (cf (fi .i64 hole))) (cons (gc (cf (fi .i64 hole))) nil))))))))))) nil)) (cons (cons (gc (cf (fi .i64 hole))) (cons (gc (cf (fi .i64 hole))) (cons (gc (cf (fi .i64 hole))) (cons (gc (cf (fi .i64 hole))) (cons (gc (cf (fi .i64 hole))) (cons (gc (cf (fi .i64 hole))) (cons (gc (csl (nat 1) (ok' (nat 0)) (szs hole) (nat 9) hole)) (cons (gc (cf (fi .i64 hole))) nil)))))))) (cons (cons (ga (szs hole) (cons (ki .i64 hole) (cons (ki .i64 hole) (cons (ki .i64 hole) (cons (ki .i64 hole) (cons (ki .i64 hole) (cons (ki .i64 hole) (cons (ki .i64 hole) (cons (ki .i64 hole) (cons (ki .i64 hole) nil)))))))))) nil) nil))) : Rdr (List AV × List Blk) _)
end
def F___ring_Buffer__Put (f : (Int) → (Int) → (Int) → (Int) → (Int) → (Int) → (Int) → (Int) → (Int) → (Int) → (Int) → (Int) → (Int) → (Int) → (Int) → (Nat) → (Int) → NI → NI → NI → NI → NI → NI → NI → NI → NI → (Bool) → Option (RG1t9 ⊕
  RG1t12)) : Sem1 := fun args h => match (QA___ring_Buffer__Put).rd (args, h) with
  | some b => .test (Nat.beq b.2.2.1.1.1 b.2.1.c4.2.2.1.2.2.1) (.opt (f b.1.2.1.1 b.1.2.1.2.1 b.1.2.1.2.2.1 b.1.2.1.2.2.2.1 b.1.2.1.c4.1 b.1.2.1.c4.2.1 b.1.2.1.c4.2.2.1 b.1.2.1.c4.2.2.2.1 b.1.2.1.c8.1 b.2.1.1 b.2.1.2.1 b.2.1.2.2.1 b.2.1.2.2.2.1 b.2.1.c4.1 b.2.1.c4.2.1 b.2.1.c4.2.2.1.2.2.1 b.2.1.c4.2.2.2.1 b.2.2.1.1.2.1 b.2.2.1.1.2.2.1 b.2.2.1.1.2.2.2.1 b.2.2.1.1.c4.1 b.2.2.1.1.c4.2.1 b.2.2.1.1.c4.2.2.1 b.2.2.1.1.c4.2.2.2.1 b.2.2.1.1.c8.1 b.2.2.1.1.c8.2.1 b.2.1.c4.2.2.1.c4) fun d0 => T.sum d0 (fun (d : RG1t9) => .leaf (Res.mk (AV.r (RV.c (CV.f (FV.b false))))
    [Ch.set
        [Sg.c (fI d.1), Sg.c (fI d.2.1), Sg.c (fI d.2.2.1), Sg.c (fI d.2.2.2.1),
          Sg.c (fI d.c4.1), Sg.c (fI d.c4.2.1),
          Sg.c (CV.sl 1 (Off.k 0) (Sz.s d.c4.2.2.1) 9 d.c4.2.2.2.1), Sg.c (fI d.c8)],
      Ch.keep]
    [])) (fun (d : RG1t12) => .leaf (Res.mk (AV.r (RV.c (CV.f (FV.b d.1))))
    [Ch.set
        [Sg.c (fI d.2.1), Sg.c (fI d.2.2.1), Sg.c (fI d.2.2.2.1), Sg.c (fI d.c4.1),
          Sg.c (fI d.c4.2.1), Sg.c (fI d.c4.2.2.1),
          Sg.c (CV.sl 2 (Off.k 0) (Sz.s d.c4.2.2.2.1) 9 true), Sg.c (fI d.c8.1)],
      Ch.kill]
    [[Sg.a (Sz.s d.c4.2.2.2.1)
          [kI d.c8.2.1, kI d.c8.2.2.1,
            kI d.c8.2.2.2.1, kI d.c8.c4.1,
            kI d.c8.c4.2.1, kI d.c8.c4.2.2.1,
            kI d.c8.c4.2.2.2.1, kI d.c16.1,
            kI d.c16.2]]]))) .fail
  | none => .fail
theorem d___ring_Buffer__Put (g_slices_BinarySearchFunc___api_Sample_api_Sample_api_Sample_ : RG1g13) (g_ring_compare : RG1g4) (g_slices_Insert___api_Sample_api_Sample_ : RG1g14) (g_slices_Delete___api_Sample_api_Sample_ : RG1g15) (x0 : Int) (x1 : Int) (x2 : Int) (x3 : Int) (x4 : Int) (x5 : Int) (x6 : Int) (x7 : Int) (x8 : Int) (x9 : Int) (x10 : Int) (x11 : Int) (x12 : Int) (x13 : Int) (x14 : Int) (x15 : Nat) (x16 : Int) (x17 : Nat →
  Int) (x18 : Nat → Int) (x19 : Nat → Int) (x20 : Nat → Int) (x21 : Nat → Int) (x22 : Nat → Int) (x23 : Nat → Int) (x24 : Nat → Int) (x25 : Nat → Int) (w0 : Bool) : den Try.prog (envOf [(47, F_slices_BinarySearchFunc___api_Sample_api_Sample_api_Sample_ g_slices_BinarySearchFunc___api_Sample_api_Sample_api_Sample_),
  (48, F_ring_compare g_ring_compare), (49, F_slices_Insert___api_Sample_api_Sample_ g_slices_Insert___api_Sample_api_Sample_), (50, F_slices_Delete___api_Sample_api_Sample_ g_slices_Delete___api_Sample_api_Sample_)]) ⟨[], [], [], [], none⟩ 200 17 [.r (.c (.ptr 0 (.k 0) 8)), .r (.agg [.c (.f (.i .i64 x0)),
  .c (.f (.i .i64 x1)), .c (.f (.i .i64 x2)), .c (.f (.i .i64 x3)), .c (.f (.i .i64 x4)), .c (.f (.i .i64 x5)), .c (.f (.i .i64 x6)), .c (.f (.i .i64 x7)), .c (.f (.i .i64 x8))])] [[.c (.f (.i .i64 x9)), .c (.f (.i .i64 x10)), .c (.f (.i .i64 x11)), .c (.f (.i .i64 x12)), .c (.f (.i .i64 x13)), .c (.f (.i .i64 x14)),
  .c (.sl 1 (.k 0) (.s x15) 9 w0), .c (.f (.i .i64 x16))], [.a (.s x15) [.i .i64 x17, .i .i64 x18, .i .i64 x19, .i .i64 x20, .i .i64 x21, .i .i64 x22, .i .i64 x23, .i .i64 x24, .i .i64 x25]]] = K___ring_Buffer__Put g_slices_BinarySearchFunc___api_Sample_api_Sample_api_Sample_ g_ring_compare g_slices_Insert___api_Sample_api_Sample_ g_slices_Delete___api_Sample_api_Sample_ x0 x1 x2 x3 x4 x5 x6 x7 x8 x9 x10 x11 x12 x13 x14 x15 x16 x17 x18 x19 x20 x21 x22 x23 x24 x25 w0 ((Sum.elim (fun (d : RG1t9) => some (Res.mk (AV.r (RV.c (CV.f (FV.b false)))) [Ch.set [Sg.c (fI d.1), Sg.c (fI d.2.1), Sg.c (fI d.2.2.1), Sg.c (fI d.2.2.2.1), Sg.c (fI d.c4.1),
  Sg.c (fI d.c4.2.1), Sg.c (CV.sl 1 (Off.k 0) (Sz.s d.c4.2.2.1) 9 d.c4.2.2.2.1), Sg.c (fI d.c8)], Ch.keep] [])) (fun (d : RG1t12) => some (Res.mk (AV.r (RV.c (CV.f (FV.b d.1)))) [Ch.set [Sg.c (fI d.2.1), Sg.c (fI d.2.2.1), Sg.c (fI d.2.2.2.1),
  Sg.c (fI d.c4.1), Sg.c (fI d.c4.2.1), Sg.c (fI d.c4.2.2.1), Sg.c (CV.sl 2 (Off.k 0) (Sz.s d.c4.2.2.2.1) 9 true), Sg.c (fI d.c8.1)],
  Ch.kill] [[Sg.a (Sz.s d.c4.2.2.2.1) [kI d.c8.2.1, kI d.c8.2.2.1, kI d.c8.2.2.2.1, kI d.c8.c4.1,
  kI d.c8.c4.2.1, kI d.c8.c4.2.2.1, kI d.c8.c4.2.2.2.1, kI d.c16.1,
  kI d.c16.2]]])))) := by kernel_rfl
theorem m___ring_Buffer__Put {ρ σ : Type} (q : ρ → Option σ) (g_slices_BinarySearchFunc___api_Sample_api_Sample_api_Sample_ : RG1g16) (g_ring_compare : RG1g4) (g_slices_Insert___api_Sample_api_Sample_ : RG1g17) (g_slices_Delete___api_Sample_api_Sample_ : RG1g15) (x0 : Int) (x1 : Int) (x2 : Int) (x3 : Int) (x4 : Int) (x5 : Int) (x6 : Int) (x7 : Int) (x8 : Int) (x9 : Int) (x10 : Int) (x11 : Int) (x12 : Int) (x13 : Int) (x14 : Int) (x15 : Nat) (x16 : Int) (x17 : Nat → Int) (x18 : Nat → Int) (x19 : Nat → Int) (x20 : Nat →
  Int) (x21 : Nat → Int) (x22 : Nat → Int) (x23 : Nat → Int) (x24 : Nat → Int) (x25 : Nat → Int) (w0 : Bool) (k : (RG1t9 ⊕ RG1t12) → Option ρ) : (K___ring_Buffer__Put g_slices_BinarySearchFunc___api_Sample_api_Sample_api_Sample_ g_ring_compare g_slices_Insert___api_Sample_api_Sample_ g_slices_Delete___api_Sample_api_Sample_ x0 x1 x2 x3 x4 x5 x6 x7 x8 x9 x10 x11 x12 x13 x14 x15 x16 x17 x18 x19 x20 x21 x22 x23 x24 x25 w0 k).bind q = K___ring_Buffer__Put g_slices_BinarySearchFunc___api_Sample_api_Sample_api_Sample_ g_ring_compare g_slices_Insert___api_Sample_api_Sample_ g_slices_Delete___api_Sample_api_Sample_ x0 x1 x2 x3 x4 x5 x6 x7 x8 x9 x10 x11 x12 x13 x14 x15 x16 x17 x18 x19 x20 x21 x22 x23 x24 x25 w0 (fun d => (k d).bind q) := by
  simp only [K___ring_Buffer__Put, bnd_cond, bnd_bind, bnd_none, bnd_sum]
theorem qa___ring_Buffer__Put : ∀ b, (QA___ring_Buffer__Put).em b = ([.r (.c (.ptr 0 (.k 0) 8)), .r (.agg [.c (.f (.i .i64 b.1.2.1.1)), .c (.f (.i .i64 b.1.2.1.2.1)), .c (.f (.i .i64 b.1.2.1.2.2.1)), .c (.f (.i .i64 b.1.2.1.2.2.2.1)), .c (.f (.i .i64 b.1.2.1.c4.1)), .c (.f (.i .i64 b.1.2.1.c4.2.1)), .c (.f (.i .i64 b.1.2.1.c4.2.2.1)), .c (.f (.i .i64 b.1.2.1.c4.2.2.2.1)), .c (.f (.i .i64 b.1.2.1.c8.1))])], [[.c (.f (.i .i64 b.2.1.1)), .c (.f (.i .i64 b.2.1.2.1)), .c (.f (.i .i64 b.2.1.2.2.1)), .c (.f (.i .i64 b.2.1.2.2.2.1)), .c (.f (.i .i64 b.2.1.c4.1)), .c (.f (.i .i64 b.2.1.c4.2.1)), .c (.sl 1 (.k 0) (.s b.2.1.c4.2.2.1.2.2.1) 9 b.2.1.c4.2.2.1.c4), .c (.f (.i .i64 b.2.1.c4.2.2.2.1))], [.a (.s b.2.2.1.1.1) [.i .i64 b.2.2.1.1.2.1, .i .i64 b.2.2.1.1.2.2.1, .i .i64 b.2.2.1.1.2.2.2.1, .i .i64 b.2.2.1.1.c4.1, .i .i64 b.2.2.1.1.c4.2.1, .i .i64 b.2.2.1.1.c4.2.2.1, .i .i64 b.2.2.1.1.c4.2.2.2.1, .i .i64 b.2.2.1.1.c8.1, .i .i64 b.2.2.1.1.c8.2.1]]]) := fun b => by kernel_rfl
theorem e___ring_Buffer__Put {f : (Int) → (Int) → (Int) → (Int) → (Int) → (Int) → (Int) → (Int) → (Int) → (Int) → (Int) → (Int) → (Int) → (Int) → (Int) → (Nat) → (Int) → NI → NI → NI → NI → NI → NI → NI → NI → NI → (Bool) →
  Option (RG1t9 ⊕ RG1t12)} {args : List AV} {h : List Blk} {r : Res} (hr : (F___ring_Buffer__Put f args h).eval = some r) : ∃ x0 x1 x2 x3 x4 x5 x6 x7 x8 x9 x10 x11 x12 x13 x14 x15 x16 x17 x18 x19 x20 x21 x22 x23 x24 x25 w0,
  args = [.r (.c (.ptr 0 (.k 0) 8)), .r (.agg [.c (.f (.i .i64 x0)), .c (.f (.i .i64 x1)), .c (.f (.i .i64 x2)), .c (.f (.i .i64 x3)), .c (.f (.i .i64 x4)), .c (.f (.i .i64 x5)), .c (.f (.i .i64 x6)), .c (.f (.i .i64 x7)), .c (.f (.i .i64 x8))])] ∧ h = [[.c (.f (.i .i64 x9)), .c (.f (.i .i64 x10)), .c (.f (.i .i64 x11)),
  .c (.f (.i .i64 x12)), .c (.f (.i .i64 x13)), .c (.f (.i .i64 x14)), .c (.sl 1 (.k 0) (.s x15) 9 w0), .c (.f (.i .i64 x16))], [.a (.s x15) [.i .i64 x17, .i .i64 x18, .i .i64 x19, .i .i64 x20, .i .i64 x21, .i .i64 x22, .i .i64 x23, .i .i64 x24, .i .i64 x25]]] ∧ (f x0 x1 x2 x3 x4 x5 x6 x7 x8 x9 x10 x11 x12 x13 x14 x15 x16 x17 x18 x19 x20 x21 x22 x23 x24 x25 w0).bind ((Sum.elim (fun (d : RG1t9) => some (Res.mk (AV.r (RV.c (CV.f (FV.b false)))) [Ch.set [Sg.c (fI d.1), Sg.c (fI d.2.1), Sg.c (fI d.2.2.1), Sg.c (fI d.2.2.2.1), Sg.c (fI d.c4.1),
  Sg.c (fI d.c4.2.1), Sg.c (CV.sl 1 (Off.k 0) (Sz.s d.c4.2.2.1) 9 d.c4.2.2.2.1), Sg.c (fI d.c8)], Ch.keep] [])) (fun (d : RG1t12) => some (Res.mk (AV.r (RV.c (CV.f (FV.b d.1)))) [Ch.set [Sg.c (fI d.2.1), Sg.c (fI d.2.2.1), Sg.c (fI d.2.2.2.1),
  Sg.c (fI d.c4.1), Sg.c (fI d.c4.2.1), Sg.c (fI d.c4.2.2.1), Sg.c (CV.sl 2 (Off.k 0) (Sz.s d.c4.2.2.2.1) 9 true), Sg.c (fI d.c8.1)],
  Ch.kill] [[Sg.a (Sz.s d.c4.2.2.2.1) [kI d.c8.2.1, kI d.c8.2.2.1, kI d.c8.2.2.2.1, kI d.c8.c4.1,
  kI d.c8.c4.2.1, kI d.c8.c4.2.2.1, kI d.c8.c4.2.2.2.1, kI d.c16.1,
  kI d.c16.2]]])))) = some r := by
  unfold F___ring_Buffer__Put at hr
  split at hr
  · rename_i b hb
    have e := ((QA___ring_Buffer__Put).ok _ _ hb).trans (qa___ring_Buffer__Put b)
    obtain ⟨he, hr1⟩ := test_eval hr
    clear hr
    have hr := hr1
    clear hr1
    rw [Nat.eq_of_beq_eq_true he] at e
    clear he
    rw [opt_eval2] at hr
    simp only [sum_eval, leaf_eval] at hr
    exact ⟨b.1.2.1.1, b.1.2.1.2.1, b.1.2.1.2.2.1, b.1.2.1.2.2.2.1, b.1.2.1.c4.1, b.1.2.1.c4.2.1, b.1.2.1.c4.2.2.1, b.1.2.1.c4.2.2.2.1, b.1.2.1.c8.1, b.2.1.1, b.2.1.2.1, b.2.1.2.2.1, b.2.1.2.2.2.1, b.2.1.c4.1, b.2.1.c4.2.1, b.2.1.c4.2.2.1.2.2.1, b.2.1.c4.2.2.2.1, b.2.2.1.1.2.1, b.2.2.1.1.2.2.1, b.2.2.1.1.2.2.2.1, b.2.2.1.1.c4.1, b.2.2.1.1.c4.2.1, b.2.2.1.1.c4.2.2.1, b.2.2.1.1.c4.2.2.2.1, b.2.2.1.1.c8.1, b.2.2.1.1.c8.2.1, b.2.1.c4.2.2.1.c4, (Prod.mk.inj e).1, (Prod.mk.inj e).2, hr⟩
  · cases hr
theorem n___ring_Buffer__Put {σ : Type} (q : (RG1t9 ⊕ RG1t12) → Option σ) (x0 : Int) (x1 : Int) (x2 : Int) (x3 : Int) (x4 : Int) (x5 : Int) (x6 : Int) (x7 : Int) (x8 : Int) (x9 : Int) (x10 : Int) (x11 : Int) (x12 : Int) (x13 : Int) (x14 : Int) (x15 : Nat) (x16 : Int) (x17 : Nat →
  Int) (x18 : Nat → Int) (x19 : Nat → Int) (x20 : Nat → Int) (x21 : Nat → Int) (x22 : Nat → Int) (x23 : Nat → Int) (x24 : Nat → Int) (x25 : Nat → Int) (w0 : Bool) : (f___ring_Buffer__Put x0 x1 x2 x3 x4 x5 x6 x7 x8 x9 x10 x11 x12 x13 x14 x15 x16 x17 x18 x19 x20 x21 x22 x23 x24 x25 w0).bind q = K___ring_Buffer__Put f_slices_BinarySearchFunc___api_Sample_api_Sample_api_Sample_ f_ring_compare f_slices_Insert___api_Sample_api_Sample_ f_slices_Delete___api_Sample_api_Sample_ x0 x1 x2 x3 x4 x5 x6 x7 x8 x9 x10 x11 x12 x13 x14 x15 x16 x17 x18 x19 x20 x21 x22 x23 x24 x25 w0 q := by
  unfold f___ring_Buffer__Put
  exact m___ring_Buffer__Put q f_slices_BinarySearchFunc___api_Sample_api_Sample_api_Sample_ f_ring_compare f_slices_Insert___api_Sample_api_Sample_ f_slices_Delete___api_Sample_api_Sample_   x0 x1 x2 x3 x4 x5 x6 x7 x8 x9 x10 x11 x12 x13 x14 x15 x16 x17 x18 x19 x20 x21 x22 x23 x24 x25 w0 some
theorem s___ring_Buffer__Put [Amb] : Sound Try.prog 17 (F___ring_Buffer__Put f___ring_Buffer__Put) := (inl_sound (l := [(47, F_slices_BinarySearchFunc___api_Sample_api_Sample_api_Sample_ f_slices_BinarySearchFunc___api_Sample_api_Sample_api_Sample_), (48, F_ring_compare f_ring_compare),
  (49, F_slices_Insert___api_Sample_api_Sample_ f_slices_Insert___api_Sample_api_Sample_), (50, F_slices_Delete___api_Sample_api_Sample_ f_slices_Delete___api_Sample_api_Sample_)]) (.cons s_slices_BinarySearchFunc___api_Sample_api_Sample_api_Sample_ (.cons s_ring_compare (.cons s_slices_Insert___api_Sample_api_Sample_ (.cons s_slices_Delete___api_Sample_api_Sample_ (.nil _))))) mixed [] [] 200 (by kernel_rfl)).by (F := F___ring_Buffer__Put f___ring_Buffer__Put) fun args b r hr => by
  obtain ⟨x0, x1, x2, x3, x4, x5, x6, x7, x8, x9, x10, x11, x12, x13, x14, x15, x16, x17, x18, x19, x20, x21, x22, x23, x24, x25, w0, rfl, rfl, hr1⟩ := e___ring_Buffer__Put hr
  exact inl_eval ((d___ring_Buffer__Put f_slices_BinarySearchFunc___api_Sample_api_Sample_api_Sample_ f_ring_compare f_slices_Insert___api_Sample_api_Sample_ f_slices_Delete___api_Sample_api_Sample_  x0 x1 x2 x3 x4 x5 x6 x7 x8 x9 x10 x11 x12 x13 x14 x15 x16 x17 x18 x19 x20 x21 x22 x23 x24 x25 w0).trans ((n___ring_Buffer__Put ((Sum.elim (fun (d : RG1t9) => some (Res.mk (AV.r (RV.c (CV.f (FV.b false))))
    [Ch.set
        [Sg.c (fI d.1), Sg.c (fI d.2.1), Sg.c (fI d.2.2.1), Sg.c (fI d.2.2.2.1),
          Sg.c (fI d.c4.1), Sg.c (fI d.c4.2.1),
          Sg.c (CV.sl 1 (Off.k 0) (Sz.s d.c4.2.2.1) 9 d.c4.2.2.2.1), Sg.c (fI d.c8)],
      Ch.keep]
    [])) (fun (d : RG1t12) => some (Res.mk (AV.r (RV.c (CV.f (FV.b d.1))))
    [Ch.set
        [Sg.c (fI d.2.1), Sg.c (fI d.2.2.1), Sg.c (fI d.2.2.2.1), Sg.c (fI d.c4.1),
          Sg.c (fI d.c4.2.1), Sg.c (fI d.c4.2.2.1),
          Sg.c (CV.sl 2 (Off.k 0) (Sz.s d.c4.2.2.2.1) 9 true), Sg.c (fI d.c8.1)],
      Ch.kill]
    [[Sg.a (Sz.s d.c4.2.2.2.1)
          [kI d.c8.2.1, kI d.c8.2.2.1,
            kI d.c8.2.2.2.1, kI d.c8.c4.1,
            kI d.c8.c4.2.1, kI d.c8.c4.2.2.1,
            kI d.c8.c4.2.2.2.1, kI d.c16.1,
            kI d.c16.2]]])))) x0 x1 x2 x3 x4 x5 x6 x7 x8 x9 x10 x11 x12 x13 x14 x15 x16 x17 x18 x19 x20 x21 x22 x23 x24 x25 w0).symm.trans hr1))

def S___ring_Buffer__Pop_0 {ρ : Type} (g_slices_Clone___api_Sample_api_Sample_ : RG1g21) (g_slices_Delete___api_Sample_api_Sample_ : RG1g15) (x0 : Int) (x1 : Int) (x2 : Int) (x3 : Int) (x4 : Int) (x5 : Int) (x6 : Int) (x7 : Int) (x8 : Nat) (x9 : Bool) (x10 : Int) (x11 : Nat) (x12 : Nat → Int) (x13 : Nat → Int) (x14 : Nat → Int) (x15 : Nat → Int) (x16 : Nat →
  Int) (x17 : Nat → Int) (x18 : Nat → Int) (x19 : Nat → Int) (x20 : Nat → Int) (c : (RG1t18) → Option ρ) (x : (RG1t19 ⊕ RG1t20) → Option ρ) : Option ρ := bif decide (x1 < Int.ofNat x8) then bif inR x1 x8 then bif decide (x12 (Int.toNat x1) ≤ x0) then c (x0, IntKind.wrap IntKind.i64 (x1 + 1), x2, x3,
  x4, x5, x6, x7, x8, x9, x10, x11, x12, x13, x14, x15, x16, x17, x18, x19, x20) else x (Sum.inl (x0, x1, x8, x9, Int.ofNat x8, decide (x1 < Int.ofNat x8), Int.toNat x1, x12 (Int.toNat x1), decide (x12 (Int.toNat x1) ≤ x0), x2, x3, x4, x5, x6, x7, x10, x11, x12, x13, x14, x15, x16, x17, x18, x19, x20)) else
  none else x (Sum.inr (x0, x1, x8, x9, Int.ofNat x8, decide (x1 < Int.ofNat x8), x2, x3, x4, x5, x6, x7, x10, x11, x12, x13, x14, x15, x16, x17, x18, x19, x20))
section
open Go.Ab.Rdr
def Q___ring_Buffer__Pop_0 := (st (cons (ar (rc (cptr (nat 0) (ok' (nat 0)) (nat 8)))) (cons (ar (rc (cf (fi .i64 hole)))) (cons aund (cons aund (cons aund (cons (ar (rc (cf (fi .i64 hole)))) (cons aund (cons aund (cons aund (cons aund (cons aund (cons aund (cons aund (cons aund (cons aund (cons aund (cons aund (cons aund (cons aund (cons aund (cons aund (cons aund (cons aund (cons aund (cons aund (cons aund (cons aund (cons aund (cons aund (cons aund (cons aund (cons aund (cons aund (cons aund (cons aund (cons aund (cons aund (cons aund (cons aund (cons aund (cons aund (cons aund (cons aund (cons aund (cons aund (cons aund (cons aund (cons aund (cons aund (cons aund (cons aund (cons aund (cons aund (cons aund (cons aund (cons aund (cons aund (cons aund (cons aund (cons aund (cons aund (cons aund (cons aund (cons aund nil)))))))))))))))))))))))))))))))))))))))))))))))))))))))))))))))) (cons (some' (cons (gc (cf (fi .i64 hole))) (cons (gc (cf (fi .i64 hole))) (cons (gc (cf (fi .i64 hole))) (cons (gc (cf (fi .i64 hole))) (cons (gc (cf (fi .i64 hole))) (cons (gc (cf (fi .i64 hole))) (cons (gc (csl (nat 1) (ok' (nat 0)) (szs hole) (nat 9) hole)) (cons (gc (cf (fi .i64 hole))) nil))))))))) (cons (some' (cons (ga (szs hole) (cons (ki .i64 hole) (cons (ki .i64 hole) (cons (ki .i64 hole) (cons (ki .i64 hole) (cons (ki .i64 hole) (cons (ki .i64 hole) (cons (ki .i64 hole) (cons (ki .i64 hole) (cons (ki .i64 hole) nil)))))))))) nil)) nil)) nil)
end
theorem q___ring_Buffer__Pop_0 : ∀ b, (Q___ring_Buffer__Pop_0).em b = St.mk [AV.r (RV.c (CV.ptr 0 (Off.k 0) 8)), AV.r (RV.c (fI b.1.2.1)), und, und, und, AV.r (RV.c (fI b.1.c4.2.1)), und, und, und, und, und, und, und, und,
  und, und, und, und, und, und, und, und, und, und, und, und, und, und, und, und, und, und, und, und, und, und, und, und, und, und, und, und, und, und, und, und, und, und, und, und, und, und,
  und, und, und, und, und, und, und, und, und, und, und, und] [some [Sg.c (fI b.2.1.1.1), Sg.c (fI b.2.1.1.2.1), Sg.c (fI b.2.1.1.2.2.1), Sg.c (fI b.2.1.1.2.2.2.1), Sg.c (fI b.2.1.1.c4.1),
  Sg.c (fI b.2.1.1.c4.2.1), Sg.c (CV.sl 1 (Off.k 0) (Sz.s b.2.1.1.c4.2.2.1.2.2.1) 9 b.2.1.1.c4.2.2.1.c4), Sg.c (fI b.2.1.1.c4.2.2.2.1)], some [Sg.a (Sz.s b.2.1.2.1.1.1) [kI b.2.1.2.1.1.2.1, kI b.2.1.2.1.1.2.2.1,
  kI b.2.1.2.1.1.2.2.2.1, kI b.2.1.2.1.1.c4.1, kI b.2.1.2.1.1.c4.2.1, kI b.2.1.2.1.1.c4.2.2.1, kI b.2.1.2.1.1.c4.2.2.2.1, kI b.2.1.2.1.1.c8.1, kI b.2.1.2.1.1.c8.2.1]]] [] := fun b => by kernel_rfl
def R___ring_Buffer__Pop_0 (l : ∀ {ρ : Type}, (RG1t18) → ((RG1t19 ⊕ RG1t20) → Option ρ) → Option ρ) {ρ : Type} (s : St) (K : AX → St → Option ρ) : Option ρ := ((Q___ring_Buffer__Pop_0).rd s).bind fun b => l (b.1.2.1, b.1.c4.2.1, b.2.1.1.1, b.2.1.1.2.1, b.2.1.1.2.2.1, b.2.1.1.2.2.2.1, b.2.1.1.c4.1,
  b.2.1.1.c4.2.1, b.2.1.1.c4.2.2.1.2.2.1, b.2.1.1.c4.2.2.1.c4, b.2.1.1.c4.2.2.2.1, b.2.1.2.1.1.1, b.2.1.2.1.1.2.1, b.2.1.2.1.1.2.2.1, b.2.1.2.1.1.2.2.2.1, b.2.1.2.1.1.c4.1, b.2.1.2.1.1.c4.2.1, b.2.1.2.1.1.c4.2.2.1, b.2.1.2.1.1.c4.2.2.2.1, b.2.1.2.1.1.c8.1,
  b.2.1.2.1.1.c8.2.1) (Sum.elim (fun d => K (AX.ex 0) (St.mk [AV.r (RV.c (CV.ptr 0 (Off.k 0) 8)), AV.r (RV.c (fI d.1)), und, und, und, AV.r (RV.c (fI d.2.1)), und, AV.r (RV.c (fI d.2.1)), AV.r (RV.c (CV.ptr 0 (Off.k 0) 8)),
  AV.r (RV.c (CV.ptr 0 (Off.k 0) 8)), AV.r (RV.c (CV.ptr 0 (Off.k 6) 1)), AV.r (RV.c (CV.sl 1 (Off.k 0) (Sz.s d.2.2.1) 9 d.2.2.2.1)), AV.r (RV.c (fI d.c4.1)), AV.r (RV.c (CV.f (FV.b d.c4.2.1))), AV.r (RV.c (CV.f (FV.b true))), AV.r (RV.c (CV.ptr 0 (Off.k 0) 8)),
  AV.r (RV.c (CV.ptr 0 (Off.k 0) 8)), AV.r (RV.c (CV.ptr 0 (Off.k 6) 1)), AV.r (RV.c (CV.sl 1 (Off.k 0) (Sz.s d.2.2.1) 9 d.2.2.2.1)), AV.r (RV.c (fI d.2.1)), AV.r (RV.c (CV.ptr 1 (Off.x 0 d.c4.2.2.1 9) 9)), AV.r (RV.c (CV.ptr 1 (Off.x 0 d.c4.2.2.1 9) 1)),
  AV.r (RV.c (fI d.c4.2.2.2.1)), AV.r (RV.c (fI d.1)), AV.r (RV.c (CV.f (FV.b d.c8.1))), AV.r (RV.c (CV.f (FV.b d.c8.1))), und, und, und, und, und, und, und,
  und, und, und, und, und, und, und, und, und, und, und, und, und, und, und, und, und, und, und, und, und, und, und, und, und, und, und, und, und, und, und] [some [Sg.c (fI d.c8.2.1),
  Sg.c (fI d.c8.2.2.1), Sg.c (fI d.c8.2.2.2.1), Sg.c (fI d.c8.c4.1), Sg.c (fI d.c8.c4.2.1),
  Sg.c (fI d.c8.c4.2.2.1), Sg.c (CV.sl 1 (Off.k 0) (Sz.s d.2.2.1) 9 d.2.2.2.1), Sg.c (fI d.c8.c4.2.2.2.1)], some [Sg.a (Sz.s d.c16.1) [kI d.c16.2.1,
  kI d.c16.2.2.1, kI d.c16.2.2.2.1, kI d.c16.c4.1,
  kI d.c16.c4.2.1, kI d.c16.c4.2.2.1, kI d.c16.c4.2.2.2.1,
  kI d.c16.c8.1, kI d.c16.c8.2]]] [])) (fun d => K (AX.ex 0) (St.mk [AV.r (RV.c (CV.ptr 0 (Off.k 0) 8)),
  AV.r (RV.c (fI d.1)), und, und, und, AV.r (RV.c (fI d.2.1)), und, AV.r (RV.c (fI d.2.1)), AV.r (RV.c (CV.ptr 0 (Off.k 0) 8)), AV.r (RV.c (CV.ptr 0 (Off.k 0) 8)), AV.r (RV.c (CV.ptr 0 (Off.k 6) 1)), AV.r (RV.c (CV.sl 1 (Off.k 0) (Sz.s d.2.2.1) 9 d.2.2.2.1)),
  AV.r (RV.c (fI d.c4.1)), AV.r (RV.c (CV.f (FV.b d.c4.2.1))), AV.r (RV.c (CV.f (FV.b false))), AV.tup [], AV.tup [], AV.tup [], AV.tup [], AV.tup [], AV.tup [], AV.tup [], AV.tup [], AV.tup [], AV.tup [], AV.r (RV.c (CV.f (FV.b false))), und, und,
  und, und, und, und, und, und, und, und, und, und, und, und, und, und, und, und, und, und, und, und, und, und, und, und, und, und, und, und, und, und, und, und, und, und, und, und] [some [Sg.c (fI d.c4.2.2.1),
  Sg.c (fI d.c4.2.2.2.1), Sg.c (fI d.c8.1), Sg.c (fI d.c8.2.1), Sg.c (fI d.c8.2.2.1), Sg.c (fI d.c8.2.2.2.1),
  Sg.c (CV.sl 1 (Off.k 0) (Sz.s d.2.2.1) 9 d.2.2.2.1), Sg.c (fI d.c8.c4.1)], some [Sg.a (Sz.s d.c8.c4.2.1) [kI d.c8.c4.2.2.1,
  kI d.c8.c4.2.2.2.1, kI d.c16.1, kI d.c16.2.1, kI d.c16.2.2.1,
  kI d.c16.2.2.2.1, kI d.c16.c4.1, kI d.c16.c4.2.1,
  kI d.c16.c4.2.2]]] [])))
theorem ms___ring_Buffer__Pop_0 {ρ σ : Type} (g_slices_Clone___api_Sample_api_Sample_ : RG1g22) (g_slices_Delete___api_Sample_api_Sample_ : RG1g23) (q : ρ → Option σ) (x0 : Int) (x1 : Int) (x2 : Int) (x3 : Int) (x4 : Int) (x5 : Int) (x6 : Int) (x7 : Int) (x8 : Nat) (x9 : Bool) (x10 : Int) (x11 : Nat) (x12 : Nat → Int) (x13 : Nat → Int) (x14 : Nat → Int) (x15 : Nat →
  Int) (x16 : Nat → Int) (x17 : Nat → Int) (x18 : Nat → Int) (x19 : Nat → Int) (x20 : Nat → Int) (c : (RG1t18) →
  Option ρ) (x : (RG1t19 ⊕ RG1t20) → Option ρ) : (S___ring_Buffer__Pop_0 g_slices_Clone___api_Sample_api_Sample_ g_slices_Delete___api_Sample_api_Sample_ x0 x1 x2 x3 x4 x5 x6 x7 x8 x9 x10 x11 x12 x13 x14 x15 x16 x17 x18 x19 x20 c x).bind q = S___ring_Buffer__Pop_0 g_slices_Clone___api_Sample_api_Sample_ g_slices_Delete___api_Sample_api_Sample_ x0 x1 x2 x3 x4 x5 x6 x7 x8 x9 x10 x11 x12 x13 x14 x15 x16 x17 x18 x19 x20 (fun d => (c d).bind q) (fun d => (x d).bind q) := by
  simp only [S___ring_Buffer__Pop_0, bnd_cond, bnd_bind, bnd_none, bnd_sum]
def L___ring_Buffer__Pop_0 {ρ : Type} (d : RG1t18) (k : (RG1t19 ⊕ RG1t20) → Option ρ) : Option ρ := loopK (fun d c x => S___ring_Buffer__Pop_0 f_slices_Clone___api_Sample_api_Sample_ f_slices_Delete___api_Sample_api_Sample_ d.1 d.2.1 d.2.2.1 d.2.2.2.1 d.c4.1 d.c4.2.1 d.c4.2.2.1 d.c4.2.2.2.1 d.c8.1 d.c8.2.1 d.c8.2.2.1 d.c8.2.2.2.1 d.c8.c4.1 d.c8.c4.2.1 d.c8.c4.2.2.1 d.c8.c4.2.2.2.1 d.c16.1 d.c16.2.1 d.c16.2.2.1 d.c16.2.2.2.1 d.c16.c4 c x) 200 d k
theorem mL___ring_Buffer__Pop_0 {ρ σ : Type} (q : ρ → Option σ) (d : RG1t18) (k : (RG1t19 ⊕ Int × Int × Nat × Bool × Int × Bool × Int × Int × Int × Int × Int × Int × Int × Nat × NI × (Nat →
  Int) × NI × NI × NI × NI × NI × NI × NI) → Option ρ) : (L___ring_Buffer__Pop_0 d k).bind q = L___ring_Buffer__Pop_0 d fun x => (k x).bind q := loopK_bind q (fun d c x => ms___ring_Buffer__Pop_0 f_slices_Clone___api_Sample_api_Sample_ f_slices_Delete___api_Sample_api_Sample_ q d.1 d.2.1 d.2.2.1 d.2.2.2.1 d.c4.1 d.c4.2.1 d.c4.2.2.1 d.c4.2.2.2.1 d.c8.1 d.c8.2.1 d.c8.2.2.1 d.c8.2.2.2.1 d.c8.c4.1 d.c8.c4.2.1 d.c8.c4.2.2.1 d.c8.c4.2.2.2.1 d.c16.1 d.c16.2.1 d.c16.2.2.1 d.c16.2.2.2.1 d.c16.c4 c x) k _ d
theorem ds___ring_Buffer__Pop_0 {ρ : Type} (g_slices_Clone___api_Sample_api_Sample_ : RG1g22) (g_slices_Delete___api_Sample_api_Sample_ : RG1g23) (l_0 : ∀ {ρ : Type}, (Int × Int × Int × Int × Int × Int × Int × Int × Nat × Bool × Int × Nat × NI × NI × NI × NI × NI × NI × NI × NI × (Nat →
  Int)) → ((RG1t19 ⊕ RG1t20) → Option ρ) → Option ρ) (x0 : Int) (x1 : Int) (x2 : Int) (x3 : Int) (x4 : Int) (x5 : Int) (x6 : Int) (x7 : Int) (x8 : Nat) (x9 : Bool) (x10 : Int) (x11 : Nat) (x12 : Nat →
  Int) (x13 : Nat → Int) (x14 : Nat → Int) (x15 : Nat → Int) (x16 : Nat → Int) (x17 : Nat → Int) (x18 : Nat → Int) (x19 : Nat → Int) (x20 : Nat → Int) (c : St → Option ρ) (K : AX → St → Option ρ) : runC Try.prog (envOf [(51, F_slices_Clone___api_Sample_api_Sample_ g_slices_Clone___api_Sample_api_Sample_),
  (50, F_slices_Delete___api_Sample_api_Sample_ g_slices_Delete___api_Sample_api_Sample_)]) ⟨[⟨2, [2, 3, 4, 6, 7, 8, 9, 10, 11, 12, 13, 14, 25, 26, 27, 28, 29, 30, 31, 32, 33, 34, 35, 36, 37, 38, 39, 40, 41, 42, 43, 44, 45, 46, 47, 48, 49, 50, 51, 52, 53, 54, 55, 56, 57, 58, 59, 60, 61, 62, 63, 15,
  16, 17, 18, 19, 20, 21, 22, 23, 24], []⟩], [⟨2, 2, @R___ring_Buffer__Pop_0 (@l_0)⟩], [], [], (some ⟨0, [0, 1, 2, 3, 5, 6, 7, 8, 9, 10, 11, 12, 13, 14, 15, 16, 17, 18, 19, 20, 21, 22, 23, 24, 25, 26, 27, 28, 29, 30, 31, 32, 33, 34, 35, 36, 37, 38, 39, 40, 41, 42, 43, 44, 45, 46, 47, 48, 49, 50, 51, 52,
  53, 54, 55, 56, 57, 58, 59, 60, 61, 62, 63], []⟩)⟩ (tmpsOf Try.prog 22) 2 200 (loopIn Try.prog 22 2) (St.mk [AV.r (RV.c (CV.ptr 0 (Off.k 0) 8)), AV.r (RV.c (fI x0)), und, und, und, AV.r (RV.c (fI x1)), und, und, und, und, und,
  und, und, und, und, und, und, und, und, und, und, und, und, und, und, und, und, und, und, und, und, und, und, und, und, und, und, und, und, und, und, und, und, und, und, und, und, und, und,
  und, und, und, und, und, und, und, und, und, und, und, und, und, und, und] [some [Sg.c (fI x2), Sg.c (fI x3), Sg.c (fI x4), Sg.c (fI x5), Sg.c (fI x6),
  Sg.c (fI x7), Sg.c (CV.sl 1 (Off.k 0) (Sz.s x8) 9 x9), Sg.c (fI x10)], some [Sg.a (Sz.s x11) [kI x12, kI x13, kI x14, kI x15, kI x16, kI x17, kI x18, kI x19,
  kI x20]]] []) (next (fun t => t.head 2 ⟨[⟨2, [2, 3, 4, 6, 7, 8, 9, 10, 11, 12, 13, 14, 25, 26, 27, 28, 29, 30, 31, 32, 33, 34, 35, 36, 37, 38, 39, 40, 41, 42, 43, 44, 45, 46, 47, 48, 49, 50, 51, 52, 53, 54, 55, 56, 57, 58, 59, 60, 61, 62, 63, 15, 16, 17, 18, 19, 20, 21, 22, 23, 24], []⟩],
  [⟨2, 2, @R___ring_Buffer__Pop_0 (@l_0)⟩], [], [], (some ⟨0, [0, 1, 2, 3, 5, 6, 7, 8, 9, 10, 11, 12, 13, 14, 15, 16, 17, 18, 19, 20, 21, 22, 23, 24, 25, 26, 27, 28, 29, 30, 31, 32, 33, 34, 35, 36, 37, 38, 39, 40, 41, 42, 43, 44, 45, 46, 47, 48, 49, 50, 51, 52, 53, 54, 55, 56, 57, 58, 59, 60, 61, 62, 63],
  []⟩)⟩ (loopIn Try.prog 22 2)) c K) = S___ring_Buffer__Pop_0 g_slices_Clone___api_Sample_api_Sample_ g_slices_Delete___api_Sample_api_Sample_ x0 x1 x2 x3 x4 x5 x6 x7 x8 x9 x10 x11 x12 x13 x14 x15 x16 x17 x18 x19 x20 (fun d => c (St.mk [AV.r (RV.c (CV.ptr 0 (Off.k 0) 8)), AV.r (RV.c (fI d.1)),
  und, und, und, AV.r (RV.c (fI d.2.1)), und, und, und, und, und, und, und, und, und, und, und, und, und, und, und, und, und, und, und, und, und, und, und, und, und, und, und, und, und,
  und, und, und, und, und, und, und, und, und, und, und, und, und, und, und, und, und, und, und, und, und, und, und, und, und, und, und, und, und] [some [Sg.c (fI d.2.2.1), Sg.c (fI d.2.2.2.1),
  Sg.c (fI d.c4.1), Sg.c (fI d.c4.2.1), Sg.c (fI d.c4.2.2.1), Sg.c (fI d.c4.2.2.2.1), Sg.c (CV.sl 1 (Off.k 0) (Sz.s d.c8.1) 9 d.c8.2.1),
  Sg.c (fI d.c8.2.2.1)], some [Sg.a (Sz.s d.c8.2.2.2.1) [kI d.c8.c4.1, kI d.c8.c4.2.1, kI d.c8.c4.2.2.1,
  kI d.c8.c4.2.2.2.1, kI d.c16.1, kI d.c16.2.1, kI d.c16.2.2.1,
  kI d.c16.2.2.2.1, kI d.c16.c4]]] [])) (Sum.elim (fun d => K (AX.ex 0) (St.mk [AV.r (RV.c (CV.ptr 0 (Off.k 0) 8)), AV.r (RV.c (fI d.1)),
  und, und, und, AV.r (RV.c (fI d.2.1)), und, AV.r (RV.c (fI d.2.1)), AV.r (RV.c (CV.ptr 0 (Off.k 0) 8)), AV.r (RV.c (CV.ptr 0 (Off.k 0) 8)), AV.r (RV.c (CV.ptr 0 (Off.k 6) 1)), AV.r (RV.c (CV.sl 1 (Off.k 0) (Sz.s d.2.2.1) 9 d.2.2.2.1)),
  AV.r (RV.c (fI d.c4.1)), AV.r (RV.c (CV.f (FV.b d.c4.2.1))), AV.r (RV.c (CV.f (FV.b true))), AV.r (RV.c (CV.ptr 0 (Off.k 0) 8)), AV.r (RV.c (CV.ptr 0 (Off.k 0) 8)), AV.r (RV.c (CV.ptr 0 (Off.k 6) 1)), AV.r (RV.c (CV.sl 1 (Off.k 0) (Sz.s d.2.2.1) 9 d.2.2.2.1)),
  AV.r (RV.c (fI d.2.1)), AV.r (RV.c (CV.ptr 1 (Off.x 0 d.c4.2.2.1 9) 9)), AV.r (RV.c (CV.ptr 1 (Off.x 0 d.c4.2.2.1 9) 1)), AV.r (RV.c (fI d.c4.2.2.2.1)), AV.r (RV.c (fI d.1)),
  AV.r (RV.c (CV.f (FV.b d.c8.1))), AV.r (RV.c (CV.f (FV.b d.c8.1))), und, und, und, und, und, und, und, und, und, und, und, und, und, und, und, und, und, und, und, und, und, und,
  und, und, und, und, und, und, und, und, und, und, und, und, und, und, und, und] [some [Sg.c (fI d.c8.2.1), Sg.c (fI d.c8.2.2.1), Sg.c (fI d.c8.2.2.2.1),
  Sg.c (fI d.c8.c4.1), Sg.c (fI d.c8.c4.2.1), Sg.c (fI d.c8.c4.2.2.1), Sg.c (CV.sl 1 (Off.k 0) (Sz.s d.2.2.1) 9 d.2.2.2.1),
  Sg.c (fI d.c8.c4.2.2.2.1)], some [Sg.a (Sz.s d.c16.1) [kI d.c16.2.1, kI d.c16.2.2.1,
  kI d.c16.2.2.2.1, kI d.c16.c4.1, kI d.c16.c4.2.1,
  kI d.c16.c4.2.2.1, kI d.c16.c4.2.2.2.1, kI d.c16.c8.1,
  kI d.c16.c8.2]]] [])) (fun d => K (AX.ex 0) (St.mk [AV.r (RV.c (CV.ptr 0 (Off.k 0) 8)), AV.r (RV.c (fI d.1)), und, und, und, AV.r (RV.c (fI d.2.1)),
  und, AV.r (RV.c (fI d.2.1)), AV.r (RV.c (CV.ptr 0 (Off.k 0) 8)), AV.r (RV.c (CV.ptr 0 (Off.k 0) 8)), AV.r (RV.c (CV.ptr 0 (Off.k 6) 1)), AV.r (RV.c (CV.sl 1 (Off.k 0) (Sz.s d.2.2.1) 9 d.2.2.2.1)), AV.r (RV.c (fI d.c4.1)), AV.r (RV.c (CV.f (FV.b d.c4.2.1))),
  AV.r (RV.c (CV.f (FV.b false))), AV.tup [], AV.tup [], AV.tup [], AV.tup [], AV.tup [], AV.tup [], AV.tup [], AV.tup [], AV.tup [], AV.tup [], AV.r (RV.c (CV.f (FV.b false))), und, und, und, und, und, und, und, und, und, und, und, und, und, und, und, und,
  und, und, und, und, und, und, und, und, und, und, und, und, und, und, und, und, und, und, und, und, und, und] [some [Sg.c (fI d.c4.2.2.1), Sg.c (fI d.c4.2.2.2.1),
  Sg.c (fI d.c8.1), Sg.c (fI d.c8.2.1), Sg.c (fI d.c8.2.2.1), Sg.c (fI d.c8.2.2.2.1),
  Sg.c (CV.sl 1 (Off.k 0) (Sz.s d.2.2.1) 9 d.2.2.2.1), Sg.c (fI d.c8.c4.1)], some [Sg.a (Sz.s d.c8.c4.2.1) [kI d.c8.c4.2.2.1,
  kI d.c8.c4.2.2.2.1, kI d.c16.1, kI d.c16.2.1, kI d.c16.2.2.1,
  kI d.c16.2.2.2.1, kI d.c16.c4.1, kI d.c16.c4.2.1,
  kI d.c16.c4.2.2]]] []))) := by kernel_rfl
theorem it___ring_Buffer__Pop_0 {ρ : Type} (x0 : Int) (x1 : Int) (x2 : Int) (x3 : Int) (x4 : Int) (x5 : Int) (x6 : Int) (x7 : Int) (x8 : Nat) (x9 : Bool) (x10 : Int) (x11 : Nat) (x12 : Nat → Int) (x13 : Nat → Int) (x14 : Nat → Int) (x15 : Nat → Int) (x16 : Nat → Int) (x17 : Nat → Int) (x18 : Nat → Int) (x19 : Nat →
  Int) (x20 : Nat → Int) (K : AX → St → Option ρ) : iter (fun t => t.head 2 ⟨[⟨2, [2, 3, 4, 6, 7, 8, 9, 10, 11, 12, 13, 14, 25, 26, 27, 28, 29, 30, 31, 32, 33, 34, 35, 36, 37, 38, 39, 40, 41, 42, 43, 44, 45, 46, 47, 48, 49, 50, 51, 52, 53, 54, 55, 56, 57, 58, 59, 60, 61, 62, 63, 15, 16, 17, 18, 19, 20,
  21, 22, 23, 24], []⟩], [⟨2, 2, @R___ring_Buffer__Pop_0 (@L___ring_Buffer__Pop_0)⟩], [], [], (some ⟨0, [0, 1, 2, 3, 5, 6, 7, 8, 9, 10, 11, 12, 13, 14, 15, 16, 17, 18, 19, 20, 21, 22, 23, 24, 25, 26, 27, 28, 29, 30, 31, 32, 33, 34, 35, 36, 37, 38, 39, 40, 41, 42, 43, 44, 45, 46, 47, 48, 49, 50, 51, 52,
  53, 54, 55, 56, 57, 58, 59, 60, 61, 62, 63], []⟩)⟩ (loopIn Try.prog 22 2)) (runC Try.prog (envOf [(51, F_slices_Clone___api_Sample_api_Sample_ f_slices_Clone___api_Sample_api_Sample_), (50, F_slices_Delete___api_Sample_api_Sample_ f_slices_Delete___api_Sample_api_Sample_)]) ⟨[⟨2, [2, 3,
  4, 6, 7, 8, 9, 10, 11, 12, 13, 14, 25, 26, 27, 28, 29, 30, 31, 32, 33, 34, 35, 36, 37, 38, 39, 40, 41, 42, 43, 44, 45, 46, 47, 48, 49, 50, 51, 52, 53, 54, 55, 56, 57, 58, 59, 60, 61, 62, 63, 15, 16, 17, 18, 19, 20, 21, 22, 23, 24], []⟩], [⟨2, 2, @R___ring_Buffer__Pop_0 (@L___ring_Buffer__Pop_0)⟩], [],
  [], (some ⟨0, [0, 1, 2, 3, 5, 6, 7, 8, 9, 10, 11, 12, 13, 14, 15, 16, 17, 18, 19, 20, 21, 22, 23, 24, 25, 26, 27, 28, 29, 30, 31, 32, 33, 34, 35, 36, 37, 38, 39, 40, 41, 42, 43, 44, 45, 46, 47, 48, 49, 50, 51, 52, 53, 54, 55, 56, 57, 58, 59, 60, 61, 62, 63], []⟩)⟩ (tmpsOf Try.prog 22) 2 200 (loopIn Try.prog 22 2)) K 200 (St.mk [AV.r (RV.c (CV.ptr 0 (Off.k 0) 8)),
  AV.r (RV.c (fI x0)), und, und, und, AV.r (RV.c (fI x1)), und, und, und, und, und, und, und, und, und, und, und, und, und, und, und, und, und, und, und, und, und, und, und, und, und,
  und, und, und, und, und, und, und, und, und, und, und, und, und, und, und, und, und, und, und, und, und, und, und, und, und, und, und, und, und, und, und, und, und] [some [Sg.c (fI x2),
  Sg.c (fI x3), Sg.c (fI x4), Sg.c (fI x5), Sg.c (fI x6), Sg.c (fI x7), Sg.c (CV.sl 1 (Off.k 0) (Sz.s x8) 9 x9), Sg.c (fI x10)], some [Sg.a (Sz.s x11) [kI x12, kI x13,
  kI x14, kI x15, kI x16, kI x17, kI x18, kI x19, kI x20]]] []) = L___ring_Buffer__Pop_0 (x0, x1, x2, x3, x4, x5, x6, x7, x8, x9, x10, x11, x12, x13, x14, x15, x16, x17, x18, x19, x20) (Sum.elim (fun d => K (AX.ex 0) (St.mk [AV.r (RV.c (CV.ptr 0 (Off.k 0) 8)),
  AV.r (RV.c (fI d.1)), und, und, und, AV.r (RV.c (fI d.2.1)), und, AV.r (RV.c (fI d.2.1)), AV.r (RV.c (CV.ptr 0 (Off.k 0) 8)), AV.r (RV.c (CV.ptr 0 (Off.k 0) 8)), AV.r (RV.c (CV.ptr 0 (Off.k 6) 1)), AV.r (RV.c (CV.sl 1 (Off.k 0) (Sz.s d.2.2.1) 9 d.2.2.2.1)),
  AV.r (RV.c (fI d.c4.1)), AV.r (RV.c (CV.f (FV.b d.c4.2.1))), AV.r (RV.c (CV.f (FV.b true))), AV.r (RV.c (CV.ptr 0 (Off.k 0) 8)), AV.r (RV.c (CV.ptr 0 (Off.k 0) 8)), AV.r (RV.c (CV.ptr 0 (Off.k 6) 1)), AV.r (RV.c (CV.sl 1 (Off.k 0) (Sz.s d.2.2.1) 9 d.2.2.2.1)),
  AV.r (RV.c (fI d.2.1)), AV.r (RV.c (CV.ptr 1 (Off.x 0 d.c4.2.2.1 9) 9)), AV.r (RV.c (CV.ptr 1 (Off.x 0 d.c4.2.2.1 9) 1)), AV.r (RV.c (fI d.c4.2.2.2.1)), AV.r (RV.c (fI d.1)),
  AV.r (RV.c (CV.f (FV.b d.c8.1))), AV.r (RV.c (CV.f (FV.b d.c8.1))), und, und, und, und, und, und, und, und, und, und, und, und, und, und, und, und, und, und, und, und, und, und,
  und, und, und, und, und, und, und, und, und, und, und, und, und, und, und, und] [some [Sg.c (fI d.c8.2.1), Sg.c (fI d.c8.2.2.1), Sg.c (fI d.c8.2.2.2.1),
  Sg.c (fI d.c8.c4.1), Sg.c (fI d.c8.c4.2.1), Sg.c (fI d.c8.c4.2.2.1), Sg.c (CV.sl 1 (Off.k 0) (Sz.s d.2.2.1) 9 d.2.2.2.1),
  Sg.c (fI d.c8.c4.2.2.2.1)], some [Sg.a (Sz.s d.c16.1) [kI d.c16.2.1, kI d.c16.2.2.1,
  kI d.c16.2.2.2.1, kI d.c16.c4.1, kI d.c16.c4.2.1,
  kI d.c16.c4.2.2.1, kI d.c16.c4.2.2.2.1, kI d.c16.c8.1,
  kI d.c16.c8.2]]] [])) (fun d => K (AX.ex 0) (St.mk [AV.r (RV.c (CV.ptr 0 (Off.k 0) 8)), AV.r (RV.c (fI d.1)), und, und, und, AV.r (RV.c (fI d.2.1)),
  und, AV.r (RV.c (fI d.2.1)), AV.r (RV.c (CV.ptr 0 (Off.k 0) 8)), AV.r (RV.c (CV.ptr 0 (Off.k 0) 8)), AV.r (RV.c (CV.ptr 0 (Off.k 6) 1)), AV.r (RV.c (CV.sl 1 (Off.k 0) (Sz.s d.2.2.1) 9 d.2.2.2.1)), AV.r (RV.c (fI d.c4.1)), AV.r (RV.c (CV.f (FV.b d.c4.2.1))),
  AV.r (RV.c (CV.f (FV.b false))), AV.tup [], AV.tup [], AV.tup [], AV.tup [], AV.tup [], AV.tup [], AV.tup [], AV.tup [], AV.tup [], AV.tup [], AV.r (RV.c (CV.f (FV.b false))), und, und, und, und, und, und, und, und, und, und, und, und, und, und, und, und,
  und, und, und, und, und, und, und, und, und, und, und, und, und, und, und, und, und, und, und, und, und, und] [some [Sg.c (fI d.c4.2.2.1), Sg.c (fI d.c4.2.2.2.1),
  Sg.c (fI d.c8.1), Sg.c (fI d.c8.2.1), Sg.c (fI d.c8.2.2.1), Sg.c (fI d.c8.2.2.2.1),
  Sg.c (CV.sl 1 (Off.k 0) (Sz.s d.2.2.1) 9 d.2.2.2.1), Sg.c (fI d.c8.c4.1)], some [Sg.a (Sz.s d.c8.c4.2.1) [kI d.c8.c4.2.2.1,
  kI d.c8.c4.2.2.2.1, kI d.c16.1, kI d.c16.2.1, kI d.c16.2.2.1,
  kI d.c16.2.2.2.1, kI d.c16.c4.1, kI d.c16.c4.2.1,
  kI d.c16.c4.2.2]]] []))) := iter_loopX (emb := fun (d : RG1t18) => St.mk [AV.r (RV.c (CV.ptr 0 (Off.k 0) 8)), AV.r (RV.c (fI d.1)), und, und, und, AV.r (RV.c (fI d.2.1)), und, und, und, und, und, und, und, und, und, und, und, und,
  und, und, und, und, und, und, und, und, und, und, und, und, und, und, und, und, und, und, und, und, und, und, und, und, und, und, und, und, und, und, und, und, und, und, und, und, und, und,
  und, und, und, und, und, und, und, und] [some [Sg.c (fI d.2.2.1), Sg.c (fI d.2.2.2.1), Sg.c (fI d.c4.1), Sg.c (fI d.c4.2.1), Sg.c (fI d.c4.2.2.1),
  Sg.c (fI d.c4.2.2.2.1), Sg.c (CV.sl 1 (Off.k 0) (Sz.s d.c8.1) 9 d.c8.2.1), Sg.c (fI d.c8.2.2.1)], some [Sg.a (Sz.s d.c8.2.2.2.1) [kI d.c8.c4.1,
  kI d.c8.c4.2.1, kI d.c8.c4.2.2.1, kI d.c8.c4.2.2.2.1, kI d.c16.1,
  kI d.c16.2.1, kI d.c16.2.2.1, kI d.c16.2.2.2.1, kI d.c16.c4]]] []) (step := fun d c x => S___ring_Buffer__Pop_0 f_slices_Clone___api_Sample_api_Sample_ f_slices_Delete___api_Sample_api_Sample_ d.1 d.2.1 d.2.2.1 d.2.2.2.1 d.c4.1 d.c4.2.1 d.c4.2.2.1 d.c4.2.2.2.1 d.c8.1 d.c8.2.1 d.c8.2.2.1 d.c8.2.2.2.1 d.c8.c4.1 d.c8.c4.2.1 d.c8.c4.2.2.1 d.c8.c4.2.2.2.1 d.c16.1 d.c16.2.1 d.c16.2.2.1 d.c16.2.2.2.1 d.c16.c4 c x) (kx := (Sum.elim (fun d => K (AX.ex 0) (St.mk [AV.r (RV.c (CV.ptr 0 (Off.k 0) 8)),
  AV.r (RV.c (fI d.1)), und, und, und, AV.r (RV.c (fI d.2.1)), und, AV.r (RV.c (fI d.2.1)), AV.r (RV.c (CV.ptr 0 (Off.k 0) 8)), AV.r (RV.c (CV.ptr 0 (Off.k 0) 8)), AV.r (RV.c (CV.ptr 0 (Off.k 6) 1)), AV.r (RV.c (CV.sl 1 (Off.k 0) (Sz.s d.2.2.1) 9 d.2.2.2.1)),
  AV.r (RV.c (fI d.c4.1)), AV.r (RV.c (CV.f (FV.b d.c4.2.1))), AV.r (RV.c (CV.f (FV.b true))), AV.r (RV.c (CV.ptr 0 (Off.k 0) 8)), AV.r (RV.c (CV.ptr 0 (Off.k 0) 8)), AV.r (RV.c (CV.ptr 0 (Off.k 6) 1)), AV.r (RV.c (CV.sl 1 (Off.k 0) (Sz.s d.2.2.1) 9 d.2.2.2.1)),
  AV.r (RV.c (fI d.2.1)), AV.r (RV.c (CV.ptr 1 (Off.x 0 d.c4.2.2.1 9) 9)), AV.r (RV.c (CV.ptr 1 (Off.x 0 d.c4.2.2.1 9) 1)), AV.r (RV.c (fI d.c4.2.2.2.1)), AV.r (RV.c (fI d.1)),
  AV.r (RV.c (CV.f (FV.b d.c8.1))), AV.r (RV.c (CV.f (FV.b d.c8.1))), und, und, und, und, und, und, und, und, und, und, und, und, und, und, und, und, und, und, und, und, und, und,
  und, und, und, und, und, und, und, und, und, und, und, und, und, und, und, und] [some [Sg.c (fI d.c8.2.1), Sg.c (fI d.c8.2.2.1), Sg.c (fI d.c8.2.2.2.1),
  Sg.c (fI d.c8.c4.1), Sg.c (fI d.c8.c4.2.1), Sg.c (fI d.c8.c4.2.2.1), Sg.c (CV.sl 1 (Off.k 0) (Sz.s d.2.2.1) 9 d.2.2.2.1),
  Sg.c (fI d.c8.c4.2.2.2.1)], some [Sg.a (Sz.s d.c16.1) [kI d.c16.2.1, kI d.c16.2.2.1,
  kI d.c16.2.2.2.1, kI d.c16.c4.1, kI d.c16.c4.2.1,
  kI d.c16.c4.2.2.1, kI d.c16.c4.2.2.2.1, kI d.c16.c8.1,
  kI d.c16.c8.2]]] [])) (fun d => K (AX.ex 0) (St.mk [AV.r (RV.c (CV.ptr 0 (Off.k 0) 8)), AV.r (RV.c (fI d.1)), und, und, und, AV.r (RV.c (fI d.2.1)),
  und, AV.r (RV.c (fI d.2.1)), AV.r (RV.c (CV.ptr 0 (Off.k 0) 8)), AV.r (RV.c (CV.ptr 0 (Off.k 0) 8)), AV.r (RV.c (CV.ptr 0 (Off.k 6) 1)), AV.r (RV.c (CV.sl 1 (Off.k 0) (Sz.s d.2.2.1) 9 d.2.2.2.1)), AV.r (RV.c (fI d.c4.1)), AV.r (RV.c (CV.f (FV.b d.c4.2.1))),
  AV.r (RV.c (CV.f (FV.b false))), AV.tup [], AV.tup [], AV.tup [], AV.tup [], AV.tup [], AV.tup [], AV.tup [], AV.tup [], AV.tup [], AV.tup [], AV.r (RV.c (CV.f (FV.b false))), und, und, und, und, und, und, und, und, und, und, und, und, und, und, und, und,
  und, und, und, und, und, und, und, und, und, und, und, und, und, und, und, und, und, und, und, und, und, und] [some [Sg.c (fI d.c4.2.2.1), Sg.c (fI d.c4.2.2.2.1),
  Sg.c (fI d.c8.1), Sg.c (fI d.c8.2.1), Sg.c (fI d.c8.2.2.1), Sg.c (fI d.c8.2.2.2.1),
  Sg.c (CV.sl 1 (Off.k 0) (Sz.s d.2.2.1) 9 d.2.2.2.1), Sg.c (fI d.c8.c4.1)], some [Sg.a (Sz.s d.c8.c4.2.1) [kI d.c8.c4.2.2.1,
  kI d.c8.c4.2.2.2.1, kI d.c16.1, kI d.c16.2.1, kI d.c16.2.2.1,
  kI d.c16.2.2.2.1, kI d.c16.c4.1, kI d.c16.c4.2.1,
  kI d.c16.c4.2.2]]] [])))) (fun d c => ds___ring_Buffer__Pop_0 f_slices_Clone___api_Sample_api_Sample_ f_slices_Delete___api_Sample_api_Sample_ (@L___ring_Buffer__Pop_0) d.1 d.2.1 d.2.2.1 d.2.2.2.1 d.c4.1 d.c4.2.1 d.c4.2.2.1 d.c4.2.2.2.1 d.c8.1 d.c8.2.1 d.c8.2.2.1 d.c8.2.2.2.1 d.c8.c4.1 d.c8.c4.2.1 d.c8.c4.2.2.1 d.c8.c4.2.2.2.1 d.c16.1 d.c16.2.1 d.c16.2.2.1 d.c16.2.2.2.1 d.c16.c4 c K) 200 (x0,
  x1, x2, x3, x4, x5, x6, x7, x8, x9, x10, x11, x12, x13, x14, x15, x16, x17, x18, x19, x20)
theorem so___ring_Buffer__Pop_0 [Amb] : ∀ kk, SumOK Try.prog (envOf [(51, F_slices_Clone___api_Sample_api_Sample_ f_slices_Clone___api_Sample_api_Sample_), (50, F_slices_Delete___api_Sample_api_Sample_ f_slices_Delete___api_Sample_api_Sample_)]) ⟨[⟨2, [2, 3, 4, 6, 7, 8, 9, 10, 11, 12, 13, 14,
  25, 26, 27, 28, 29, 30, 31, 32, 33, 34, 35, 36, 37, 38, 39, 40, 41, 42, 43, 44, 45, 46, 47, 48, 49, 50, 51, 52, 53, 54, 55, 56, 57, 58, 59, 60, 61, 62, 63, 15, 16, 17, 18, 19, 20, 21, 22, 23, 24], []⟩], [⟨2, 2, @R___ring_Buffer__Pop_0 (@L___ring_Buffer__Pop_0)⟩], [], [], (some ⟨0, [0, 1, 2, 3, 5, 6,
  7, 8, 9, 10, 11, 12, 13, 14, 15, 16, 17, 18, 19, 20, 21, 22, 23, 24, 25, 26, 27, 28, 29, 30, 31, 32, 33, 34, 35, 36, 37, 38, 39, 40, 41, 42, 43, 44, 45, 46, 47, 48, 49, 50, 51, 52, 53, 54, 55, 56, 57, 58, 59, 60, 61, 62, 63], []⟩)⟩ (tmpsOf Try.prog 22) kk 200 (loopIn Try.prog 22 2) := SumOK.of (id := 2) (k0 := 2) (run := @R___ring_Buffer__Pop_0 (@L___ring_Buffer__Pop_0)) (by kernel_rfl) fun s K r hr => by
    unfold R___ring_Buffer__Pop_0 at hr
    obtain ⟨b, hb, hr1⟩ := Option.bind_eq_some_iff.1 hr
    have e := ((Q___ring_Buffer__Pop_0).ok s b hb).trans (q___ring_Buffer__Pop_0 b)
    subst e
    exact ⟨200, (it___ring_Buffer__Pop_0 b.1.2.1 b.1.c4.2.1 b.2.1.1.1 b.2.1.1.2.1 b.2.1.1.2.2.1 b.2.1.1.2.2.2.1 b.2.1.1.c4.1 b.2.1.1.c4.2.1 b.2.1.1.c4.2.2.1.2.2.1 b.2.1.1.c4.2.2.1.c4 b.2.1.1.c4.2.2.2.1 b.2.1.2.1.1.1 b.2.1.2.1.1.2.1 b.2.1.2.1.1.2.2.1 b.2.1.2.1.1.2.2.2.1 b.2.1.2.1.1.c4.1 b.2.1.2.1.1.c4.2.1 b.2.1.2.1.1.c4.2.2.1 b.2.1.2.1.1.c4.2.2.2.1 b.2.1.2.1.1.c8.1 b.2.1.2.1.1.c8.2.1 K).trans hr1⟩
def K___ring_Buffer__Pop {ρ : Type} (g_slices_Clone___api_Sample_api_Sample_ : RG1g21) (g_slices_Delete___api_Sample_api_Sample_ : RG1g15) (l_0 : ∀ {ρ : Type}, (RG1t18) →
  ((RG1t19 ⊕ RG1t20) → Option ρ) → Option ρ) (x0 : Int) (x1 : Int) (x2 : Int) (x3 : Int) (x4 : Int) (x5 : Int) (x6 : Int) (x7 : Nat) (x8 : Int) (x9 : Nat → Int) (x10 : Nat → Int) (x11 : Nat →
  Int) (x12 : Nat → Int) (x13 : Nat → Int) (x14 : Nat → Int) (x15 : Nat → Int) (x16 : Nat → Int) (x17 : Nat → Int) (w0 : Bool) (k : (Nat × Int × Int × Int × Int × Int × Int × Nat × Int × NI × NI × NI × NI × NI × NI × NI × NI × (Nat →
  Int) × RG1t24) → Option ρ) : Option ρ := l_0 (x0, 0, x1, x2, x3, x4, x5, x6, x7, w0, x8, x7, x9, x10, x11, x12, x13, x14, x15, x16, x17) (Sum.elim (fun (d : RG1t19) => bif inRe d.2.1 d.2.2.1 then bif Nat.beq (Int.toNat d.2.1) (Int.toNat d.2.1) then
  Option.bind (g_slices_Clone___api_Sample_api_Sample_ (Int.toNat d.2.1) d.c16.2.1 d.c16.2.2.1 d.c16.2.2.2.1 d.c16.c4.1 d.c16.c4.2.1 d.c16.c4.2.2.1 d.c16.c4.2.2.2.1 d.c16.c8.1 d.c16.c8.2 (d.2.2.2.1 && false && true)) fun (d_1 : RG1t11) => bif Nat.beq d.2.2.1 d.2.2.1 then Option.bind (g_slices_Delete___api_Sample_api_Sample_ d.2.2.1 0 d.2.1 d.c16.2.1 d.c16.2.2.1 d.c16.2.2.2.1 d.c16.c4.1 d.c16.c4.2.1 d.c16.c4.2.2.1 d.c16.c4.2.2.2.1 d.c16.c8.1 d.c16.c8.2 (d.2.2.2.1 && true)) fun (d_2 : RG1t11) => k (d_1.1, d.c8.2.1, d.c8.2.2.1, d.c8.2.2.2.1, d.c8.c4.1,
  IntKind.wrap IntKind.i64 (d.c8.c4.2.1 + d.2.1), d.c8.c4.2.2.1, d_2.1, if d.1 > d.c8.c4.2.2.2.1 then d.1 else d.c8.c4.2.2.2.1,
  d_1.2.1, d_1.2.2.1, d_1.2.2.2.1, d_1.c4.1, d_1.c4.2.1, d_1.c4.2.2.1, d_1.c4.2.2.2.1, d_1.c8.1, d_1.c8.2, d_2.2.1, d_2.2.2.1, d_2.2.2.2.1, d_2.c4.1,
  d_2.c4.2.1, d_2.c4.2.2.1, d_2.c4.2.2.2.1, d_2.c8.1, d_2.c8.2) else none else none else none) fun (d : Int × Int × Nat × Bool × Int × Bool × Int × Int × Int × Int × Int × Int × Int × Nat × (Nat →
  Int) × RG1t25) => bif inRe d.2.1 d.2.2.1 then bif Nat.beq (Int.toNat d.2.1) (Int.toNat d.2.1) then Option.bind (g_slices_Clone___api_Sample_api_Sample_ (Int.toNat d.2.1) d.c8.c4.2.2.1 d.c8.c4.2.2.2.1 d.c16.1 d.c16.2.1 d.c16.2.2.1 d.c16.2.2.2.1 d.c16.c4.1 d.c16.c4.2.1 d.c16.c4.2.2 (d.2.2.2.1 && false && true)) fun (d_1 : RG1t11) => bif Nat.beq d.2.2.1 d.2.2.1 then Option.bind (g_slices_Delete___api_Sample_api_Sample_ d.2.2.1 0 d.2.1 d.c8.c4.2.2.1 d.c8.c4.2.2.2.1 d.c16.1 d.c16.2.1 d.c16.2.2.1 d.c16.2.2.2.1 d.c16.c4.1 d.c16.c4.2.1 d.c16.c4.2.2 (d.2.2.2.1 && true)) fun (d_2 : RG1t11) => k (d_1.1, d.c4.2.2.1, d.c4.2.2.2.1, d.c8.1, d.c8.2.1, IntKind.wrap IntKind.i64 (d.c8.2.2.1 + d.2.1),
  d.c8.2.2.2.1, d_2.1, if d.1 > d.c8.c4.1 then d.1 else d.c8.c4.1, d_1.2.1, d_1.2.2.1, d_1.2.2.2.1, d_1.c4.1, d_1.c4.2.1, d_1.c4.2.2.1,
  d_1.c4.2.2.2.1, d_1.c8.1, d_1.c8.2, d_2.2.1, d_2.2.2.1, d_2.2.2.2.1, d_2.c4.1, d_2.c4.2.1, d_2.c4.2.2.1, d_2.c4.2.2.2.1, d_2.c8.1,
  d_2.c8.2) else none else none else none)
def f___ring_Buffer__Pop (x0 : Int) (x1 : Int) (x2 : Int) (x3 : Int) (x4 : Int) (x5 : Int) (x6 : Int) (x7 : Nat) (x8 : Int) (x9 : Nat → Int) (x10 : Nat → Int) (x11 : Nat → Int) (x12 : Nat → Int) (x13 : Nat → Int) (x14 : Nat → Int) (x15 : Nat → Int) (x16 : Nat → Int) (x17 : Nat → Int) (w0 : Bool) : Option (RG1t26) := K___ring_Buffer__Pop f_slices_Clone___api_Sample_api_Sample_ f_slices_Delete___api_Sample_api_Sample_ (@L___ring_Buffer__Pop_0) x0 x1 x2 x3 x4 x5 x6 x7 x8 x9 x10 x11 x12 x13 x14 x15 x16 x17 w0 some
section
open Go.Ab.Rdr
def QA___ring_Buffer__Pop := ((pair (cons (ar (rc (cptr (nat 0) (ok' (nat 0)) (nat 8)))) (cons (ar (rc (cf (fi .i64 hole)))) nil)) (cons (cons (gc (cf (fi .i64 hole))) (cons (gc (cf (fi .i64 hole))) (cons (gc (cf (fi .i64 hole))) (cons (gc (cf (fi .i64 hole))) (cons (gc (cf (fi .i64 hole))) (cons (gc (cf (fi .i64 hole))) (cons (gc (csl (nat 1) (ok' (nat 0)) (szs hole) (nat 9) hole)) (cons (gc (cf (fi .i64 hole))) nil)))))))) (cons (cons (ga (szs hole) (cons (ki .i64 hole) (cons (ki .i64 hole) (cons (ki .i64 hole) (cons (ki .i64 hole) (cons (ki .i64 hole) (cons (ki .i64 hole) (cons (ki .i64 hole) (cons (ki .i64 hole) (cons (ki .i64 hole) nil)))))))))) nil) nil))) : Rdr (List AV × List Blk) _)
end
def F___ring_Buffer__Pop (f : (Int) → (Int) → (Int) → (Int) → (Int) → (Int) → (Int) → (Nat) → (Int) → NI → NI → NI → NI → NI → NI → NI → NI → NI → (Bool) → Option (RG1t26)) : Sem1 := fun args h => match (QA___ring_Buffer__Pop).rd (args, h) with
  | some b => .test (Nat.beq b.2.2.1.1.1 b.2.1.c4.2.2.1.2.2.1) (.opt (f b.1.2.1 b.2.1.1 b.2.1.2.1 b.2.1.2.2.1 b.2.1.2.2.2.1 b.2.1.c4.1 b.2.1.c4.2.1 b.2.1.c4.2.2.1.2.2.1 b.2.1.c4.2.2.2.1 b.2.2.1.1.2.1 b.2.2.1.1.2.2.1 b.2.2.1.1.2.2.2.1 b.2.2.1.1.c4.1 b.2.2.1.1.c4.2.1 b.2.2.1.1.c4.2.2.1 b.2.2.1.1.c4.2.2.2.1 b.2.2.1.1.c8.1 b.2.2.1.1.c8.2.1 b.2.1.c4.2.2.1.c4) fun (d :
      RG1t26) => .leaf (Res.mk (AV.r (RV.c (CV.sl 2 (Off.k 0) (Sz.s d.1) 9 true)))
    [Ch.set
        [Sg.c (fI d.2.1), Sg.c (fI d.2.2.1), Sg.c (fI d.2.2.2.1), Sg.c (fI d.c4.1),
          Sg.c (fI d.c4.2.1), Sg.c (fI d.c4.2.2.1),
          Sg.c (CV.sl 3 (Off.k 0) (Sz.s d.c4.2.2.2.1) 9 true), Sg.c (fI d.c8.1)],
      Ch.kill]
    [[Sg.a (Sz.s d.1)
          [kI d.c8.2.1, kI d.c8.2.2.1,
            kI d.c8.2.2.2.1, kI d.c8.c4.1,
            kI d.c8.c4.2.1, kI d.c8.c4.2.2.1,
            kI d.c8.c4.2.2.2.1, kI d.c16.1,
            kI d.c16.2.1]],
      [Sg.a (Sz.s d.c4.2.2.2.1)
          [kI d.c16.2.2.1,
            kI d.c16.2.2.2.1,
            kI d.c16.c4.1,
            kI d.c16.c4.2.1,
            kI d.c16.c4.2.2.1,
            kI d.c16.c4.2.2.2.1,
            kI d.c16.c8.1,
            kI d.c16.c8.2.1,
            kI d.c16.c8.2.2]]])) .fail
  | none => .fail
theorem d___ring_Buffer__Pop (g_slices_Clone___api_Sample_api_Sample_ : RG1g27) (g_slices_Delete___api_Sample_api_Sample_ : RG1g28) (l_0 : ∀ {ρ : Type}, (RG1t18) → ((RG1t19 ⊕ RG1t20) → Option ρ) → Option ρ) (x0 : Int) (x1 : Int) (x2 : Int) (x3 : Int) (x4 : Int) (x5 : Int) (x6 : Int) (x7 : Nat) (x8 : Int) (x9 : Nat → Int) (x10 : Nat → Int) (x11 : Nat →
  Int) (x12 : Nat → Int) (x13 : Nat → Int) (x14 : Nat → Int) (x15 : Nat → Int) (x16 : Nat → Int) (x17 : Nat → Int) (w0 : Bool) : den Try.prog (envOf [(51, F_slices_Clone___api_Sample_api_Sample_ g_slices_Clone___api_Sample_api_Sample_), (50, F_slices_Delete___api_Sample_api_Sample_ g_slices_Delete___api_Sample_api_Sample_)]) ⟨[⟨2,
  [2, 3, 4, 6, 7, 8, 9, 10, 11, 12, 13, 14, 25, 26, 27, 28, 29, 30, 31, 32, 33, 34, 35, 36, 37, 38, 39, 40, 41, 42, 43, 44, 45, 46, 47, 48, 49, 50, 51, 52, 53, 54, 55, 56, 57, 58, 59, 60, 61, 62, 63, 15, 16, 17, 18, 19, 20, 21, 22, 23, 24], []⟩], [⟨2, 2, @R___ring_Buffer__Pop_0 (@l_0)⟩], [], [], (some ⟨0,
  [0, 1, 2, 3, 5, 6, 7, 8, 9, 10, 11, 12, 13, 14, 15, 16, 17, 18, 19, 20, 21, 22, 23, 24, 25, 26, 27, 28, 29, 30, 31, 32, 33, 34, 35, 36, 37, 38, 39, 40, 41, 42, 43, 44, 45, 46, 47, 48, 49, 50, 51, 52, 53, 54, 55, 56, 57, 58, 59, 60, 61, 62, 63], []⟩)⟩ 200 22 [.r (.c (.ptr 0 (.k 0) 8)), .r (.c (.f (.i .i64 x0)))] [[.c (.f (.i .i64 x1)),
  .c (.f (.i .i64 x2)), .c (.f (.i .i64 x3)), .c (.f (.i .i64 x4)), .c (.f (.i .i64 x5)), .c (.f (.i .i64 x6)), .c (.sl 1 (.k 0) (.s x7) 9 w0), .c (.f (.i .i64 x8))], [.a (.s x7) [.i .i64 x9, .i .i64 x10, .i .i64 x11, .i .i64 x12, .i .i64 x13, .i .i64 x14, .i .i64 x15, .i .i64 x16, .i .i64 x17]]] = K___ring_Buffer__Pop g_slices_Clone___api_Sample_api_Sample_ g_slices_Delete___api_Sample_api_Sample_ (@l_0) x0 x1 x2 x3 x4 x5 x6 x7 x8 x9 x10 x11 x12 x13 x14 x15 x16 x17 w0 (fun (d : RG1t26) => some (Res.mk (AV.r (RV.c (CV.sl 2 (Off.k 0) (Sz.s d.1) 9 true))) [Ch.set [Sg.c (fI d.2.1),
  Sg.c (fI d.2.2.1), Sg.c (fI d.2.2.2.1), Sg.c (fI d.c4.1), Sg.c (fI d.c4.2.1), Sg.c (fI d.c4.2.2.1), Sg.c (CV.sl 3 (Off.k 0) (Sz.s d.c4.2.2.2.1) 9 true),
  Sg.c (fI d.c8.1)], Ch.kill] [[Sg.a (Sz.s d.1) [kI d.c8.2.1, kI d.c8.2.2.1, kI d.c8.2.2.2.1, kI d.c8.c4.1,
  kI d.c8.c4.2.1, kI d.c8.c4.2.2.1, kI d.c8.c4.2.2.2.1, kI d.c16.1,
  kI d.c16.2.1]], [Sg.a (Sz.s d.c4.2.2.2.1) [kI d.c16.2.2.1, kI d.c16.2.2.2.1,
  kI d.c16.c4.1, kI d.c16.c4.2.1, kI d.c16.c4.2.2.1,
  kI d.c16.c4.2.2.2.1, kI d.c16.c8.1, kI d.c16.c8.2.1,
  kI d.c16.c8.2.2]]])) := by kernel_rfl
theorem m___ring_Buffer__Pop {ρ σ : Type} (q : ρ → Option σ) (g_slices_Clone___api_Sample_api_Sample_ : RG1g29) (g_slices_Delete___api_Sample_api_Sample_ : RG1g30) (l_0 : ∀ {ρ : Type}, (Int × Int × Int × Int × Int × Int × Int × Int × Nat × Bool × Int × Nat × NI × NI × NI × NI × NI × NI × NI × (Nat →
  Int) × NI) → ((RG1t19 ⊕ RG1t20) → Option ρ) → Option ρ) (hl_0 : ∀ {ρ σ : Type} (q : ρ → Option σ) (d : RG1t18) (k : (RG1t19 ⊕ RG1t20) → Option ρ), (l_0 d k).bind q = l_0 d fun x => (k x).bind q) (x0 : Int) (x1 : Int) (x2 : Int) (x3 : Int) (x4 : Int) (x5 : Int) (x6 : Int) (x7 : Nat) (x8 : Int) (x9 : Nat →
  Int) (x10 : Nat → Int) (x11 : Nat → Int) (x12 : Nat → Int) (x13 : Nat → Int) (x14 : Nat → Int) (x15 : Nat → Int) (x16 : Nat → Int) (x17 : Nat → Int) (w0 : Bool) (k : (RG1t26) → Option ρ) : (K___ring_Buffer__Pop g_slices_Clone___api_Sample_api_Sample_ g_slices_Delete___api_Sample_api_Sample_ (@l_0) x0 x1 x2 x3 x4 x5 x6 x7 x8 x9 x10 x11 x12 x13 x14 x15 x16 x17 w0 k).bind q = K___ring_Buffer__Pop g_slices_Clone___api_Sample_api_Sample_ g_slices_Delete___api_Sample_api_Sample_ (@l_0) x0 x1 x2 x3 x4 x5 x6 x7 x8 x9 x10 x11 x12 x13 x14 x15 x16 x17 w0 (fun d => (k d).bind q) := by
  simp only [K___ring_Buffer__Pop, bnd_cond, bnd_bind, bnd_none, bnd_sum, hl_0]
theorem qa___ring_Buffer__Pop : ∀ b, (QA___ring_Buffer__Pop).em b = ([.r (.c (.ptr 0 (.k 0) 8)), .r (.c (.f (.i .i64 b.1.2.1)))], [[.c (.f (.i .i64 b.2.1.1)), .c (.f (.i .i64 b.2.1.2.1)), .c (.f (.i .i64 b.2.1.2.2.1)), .c (.f (.i .i64 b.2.1.2.2.2.1)), .c (.f (.i .i64 b.2.1.c4.1)), .c (.f (.i .i64 b.2.1.c4.2.1)), .c (.sl 1 (.k 0) (.s b.2.1.c4.2.2.1.2.2.1) 9 b.2.1.c4.2.2.1.c4), .c (.f (.i .i64 b.2.1.c4.2.2.2.1))], [.a (.s b.2.2.1.1.1) [.i .i64 b.2.2.1.1.2.1, .i .i64 b.2.2.1.1.2.2.1, .i .i64 b.2.2.1.1.2.2.2.1, .i .i64 b.2.2.1.1.c4.1, .i .i64 b.2.2.1.1.c4.2.1, .i .i64 b.2.2.1.1.c4.2.2.1, .i .i64 b.2.2.1.1.c4.2.2.2.1, .i .i64 b.2.2.1.1.c8.1, .i .i64 b.2.2.1.1.c8.2.1]]]) := fun b => by kernel_rfl
theorem e___ring_Buffer__Pop {f : (Int) → (Int) → (Int) → (Int) → (Int) → (Int) → (Int) → (Nat) → (Int) → NI → NI → NI → NI → NI → NI → NI → NI → NI → (Bool) → Option (RG1t26)} {args : List AV} {h : List Blk} {r : Res} (hr : (F___ring_Buffer__Pop f args h).eval = some r) : ∃ x0 x1 x2 x3 x4 x5 x6 x7 x8 x9 x10 x11 x12 x13 x14 x15 x16 x17 w0,
  args = [.r (.c (.ptr 0 (.k 0) 8)), .r (.c (.f (.i .i64 x0)))] ∧ h = [[.c (.f (.i .i64 x1)), .c (.f (.i .i64 x2)), .c (.f (.i .i64 x3)), .c (.f (.i .i64 x4)), .c (.f (.i .i64 x5)), .c (.f (.i .i64 x6)), .c (.sl 1 (.k 0) (.s x7) 9 w0), .c (.f (.i .i64 x8))], [.a (.s x7) [.i .i64 x9, .i .i64 x10, .i .i64 x11,
  .i .i64 x12, .i .i64 x13, .i .i64 x14, .i .i64 x15, .i .i64 x16, .i .i64 x17]]] ∧ (f x0 x1 x2 x3 x4 x5 x6 x7 x8 x9 x10 x11 x12 x13 x14 x15 x16 x17 w0).bind (fun (d : RG1t26) => some (Res.mk (AV.r (RV.c (CV.sl 2 (Off.k 0) (Sz.s d.1) 9 true))) [Ch.set [Sg.c (fI d.2.1), Sg.c (fI d.2.2.1),
  Sg.c (fI d.2.2.2.1), Sg.c (fI d.c4.1), Sg.c (fI d.c4.2.1), Sg.c (fI d.c4.2.2.1), Sg.c (CV.sl 3 (Off.k 0) (Sz.s d.c4.2.2.2.1) 9 true), Sg.c (fI d.c8.1)],
  Ch.kill] [[Sg.a (Sz.s d.1) [kI d.c8.2.1, kI d.c8.2.2.1, kI d.c8.2.2.2.1, kI d.c8.c4.1, kI d.c8.c4.2.1,
  kI d.c8.c4.2.2.1, kI d.c8.c4.2.2.2.1, kI d.c16.1, kI d.c16.2.1]],
  [Sg.a (Sz.s d.c4.2.2.2.1) [kI d.c16.2.2.1, kI d.c16.2.2.2.1, kI d.c16.c4.1,
  kI d.c16.c4.2.1, kI d.c16.c4.2.2.1, kI d.c16.c4.2.2.2.1,
  kI d.c16.c8.1, kI d.c16.c8.2.1, kI d.c16.c8.2.2]]])) = some r := by
  unfold F___ring_Buffer__Pop at hr
  split at hr
  · rename_i b hb
    have e := ((QA___ring_Buffer__Pop).ok _ _ hb).trans (qa___ring_Buffer__Pop b)
    obtain ⟨he, hr1⟩ := test_eval hr
    clear hr
    have hr := hr1
    clear hr1
    rw [Nat.eq_of_beq_eq_true he] at e
    clear he
    rw [opt_eval2] at hr
    exact ⟨b.1.2.1, b.2.1.1, b.2.1.2.1, b.2.1.2.2.1, b.2.1.2.2.2.1, b.2.1.c4.1, b.2.1.c4.2.1, b.2.1.c4.2.2.1.2.2.1, b.2.1.c4.2.2.2.1, b.2.2.1.1.2.1, b.2.2.1.1.2.2.1, b.2.2.1.1.2.2.2.1, b.2.2.1.1.c4.1, b.2.2.1.1.c4.2.1, b.2.2.1.1.c4.2.2.1, b.2.2.1.1.c4.2.2.2.1, b.2.2.1.1.c8.1, b.2.2.1.1.c8.2.1, b.2.1.c4.2.2.1.c4, (Prod.mk.inj e).1, (Prod.mk.inj e).2, hr⟩
  · cases hr
theorem n___ring_Buffer__Pop {σ : Type} (q : (Nat × Int × Int × Int × Int × Int × Int × Nat × Int × NI × NI × NI × NI × NI × NI × NI × NI × NI × NI × NI × NI × NI × NI × (Nat →
  Int) × NI × NI × NI) → Option σ) (x0 : Int) (x1 : Int) (x2 : Int) (x3 : Int) (x4 : Int) (x5 : Int) (x6 : Int) (x7 : Nat) (x8 : Int) (x9 : Nat → Int) (x10 : Nat → Int) (x11 : Nat → Int) (x12 : Nat → Int) (x13 : Nat → Int) (x14 : Nat → Int) (x15 : Nat → Int) (x16 : Nat → Int) (x17 : Nat →
  Int) (w0 : Bool) : (f___ring_Buffer__Pop x0 x1 x2 x3 x4 x5 x6 x7 x8 x9 x10 x11 x12 x13 x14 x15 x16 x17 w0).bind q = K___ring_Buffer__Pop f_slices_Clone___api_Sample_api_Sample_ f_slices_Delete___api_Sample_api_Sample_ (@L___ring_Buffer__Pop_0) x0 x1 x2 x3 x4 x5 x6 x7 x8 x9 x10 x11 x12 x13 x14 x15 x16 x17 w0 q := by
  unfold f___ring_Buffer__Pop
  exact m___ring_Buffer__Pop q f_slices_Clone___api_Sample_api_Sample_ f_slices_Delete___api_Sample_api_Sample_ (@L___ring_Buffer__Pop_0) (fun q d k => mL___ring_Buffer__Pop_0 q d k) x0 x1 x2 x3 x4 x5 x6 x7 x8 x9 x10 x11 x12 x13 x14 x15 x16 x17 w0 some
theorem s___ring_Buffer__Pop [Amb] : Sound Try.prog 22 (F___ring_Buffer__Pop f___ring_Buffer__Pop) := (inl_sums (l := [(51, F_slices_Clone___api_Sample_api_Sample_ f_slices_Clone___api_Sample_api_Sample_), (50, F_slices_Delete___api_Sample_api_Sample_ f_slices_Delete___api_Sample_api_Sample_)]) (.cons s_slices_Clone___api_Sample_api_Sample_ (.cons s_slices_Delete___api_Sample_api_Sample_ (.nil _))) mixed (hs := ⟨[⟨2,
  [2, 3, 4, 6, 7, 8, 9, 10, 11, 12, 13, 14, 25, 26, 27, 28, 29, 30, 31, 32, 33, 34, 35, 36, 37, 38, 39, 40, 41, 42, 43, 44, 45, 46, 47, 48, 49, 50, 51, 52, 53, 54, 55, 56, 57, 58, 59, 60, 61, 62, 63, 15, 16, 17, 18, 19, 20, 21, 22, 23, 24], []⟩], [⟨2, 2, @R___ring_Buffer__Pop_0 (@L___ring_Buffer__Pop_0)⟩],
  [], [], (some ⟨0, [0, 1, 2, 3, 5, 6, 7, 8, 9, 10, 11, 12, 13, 14, 15, 16, 17, 18, 19, 20, 21, 22, 23, 24, 25, 26, 27, 28, 29, 30, 31, 32, 33, 34, 35, 36, 37, 38, 39, 40, 41, 42, 43, 44, 45, 46, 47, 48, 49, 50, 51, 52, 53, 54, 55, 56, 57, 58, 59, 60, 61, 62, 63], []⟩)⟩) (lf := 200) (Sums.by (l := [loopIn Try.prog 22 2]) (lj := []) (by kernel_rfl) ⟨so___ring_Buffer__Pop_0,
  trivial⟩ (by kernel_rfl) trivial) (by kernel_rfl)).by (F := F___ring_Buffer__Pop f___ring_Buffer__Pop) fun args b r hr => by
  obtain ⟨x0, x1, x2, x3, x4, x5, x6, x7, x8, x9, x10, x11, x12, x13, x14, x15, x16, x17, w0, rfl, rfl, hr1⟩ := e___ring_Buffer__Pop hr
  exact inl_eval ((d___ring_Buffer__Pop f_slices_Clone___api_Sample_api_Sample_ f_slices_Delete___api_Sample_api_Sample_ (@L___ring_Buffer__Pop_0) x0 x1 x2 x3 x4 x5 x6 x7 x8 x9 x10 x11 x12 x13 x14 x15 x16 x17 w0).trans ((n___ring_Buffer__Pop (fun (d :
      RG1t26) => some (Res.mk (AV.r (RV.c (CV.sl 2 (Off.k 0) (Sz.s d.1) 9 true)))
    [Ch.set
        [Sg.c (fI d.2.1), Sg.c (fI d.2.2.1), Sg.c (fI d.2.2.2.1), Sg.c (fI d.c4.1),
          Sg.c (fI d.c4.2.1), Sg.c (fI d.c4.2.2.1),
          Sg.c (CV.sl 3 (Off.k 0) (Sz.s d.c4.2.2.2.1) 9 true), Sg.c (fI d.c8.1)],
      Ch.kill]
    [[Sg.a (Sz.s d.1)
          [kI d.c8.2.1, kI d.c8.2.2.1,
            kI d.c8.2.2.2.1, kI d.c8.c4.1,
            kI d.c8.c4.2.1, kI d.c8.c4.2.2.1,
            kI d.c8.c4.2.2.2.1, kI d.c16.1,
            kI d.c16.2.1]],
      [Sg.a (Sz.s d.c4.2.2.2.1)
          [kI d.c16.2.2.1,
            kI d.c16.2.2.2.1,
            kI d.c16.c4.1,
            kI d.c16.c4.2.1,
            kI d.c16.c4.2.2.1,
            kI d.c16.c4.2.2.2.1,
            kI d.c16.c8.1,
            kI d.c16.c8.2.1,
            kI d.c16.c8.2.2]]])) x0 x1 x2 x3 x4 x5 x6 x7 x8 x9 x10 x11 x12 x13 x14 x15 x16 x17 w0).symm.trans hr1))

end Go.Proofs.Ythbnojedlbeglaa
