/-
  Contracts by plain functions: astrolaberef9.place, astrolaberef9.U, astrolaberef9.Good, astrolaberef9.At, astrolaberef9.Condition, astrolabelaw9.made
-/
import Derived.Test.YtmlmpcabphgfaaaT2
import Derived.Test.YtmlmpcabphgfaaaR1
set_option maxRecDepth 100000
set_option maxHeartbeats 4000000
set_option linter.unusedVariables false
namespace Go.Proofs.Ytmlmpcabphgfaaa
open Go.Ab
def K_astrolaberef9_place {ρ : Type}   (x0 : Int) (x1 : Int) (k : (Int) → Option ρ) : Option ρ :=
  k (IntKind.wrap IntKind.i64 (IntKind.wrap IntKind.i64 (Int.tdiv (IntKind.wrap IntKind.i64 (x1 * IntKind.wrap IntKind.i64 (x1 - 1))) 2) + x0))
def f_astrolaberef9_place (x0 : Int) (x1 : Int) : Option (Int) := K_astrolaberef9_place   x0 x1 some
section
open Go.Ab.Rdr
def QA_astrolaberef9_place := ((pair (cons (ar (rc (cf (fi .i64 hole)))) (cons (ar (rc (cf (fi .i64 hole)))) nil)) nil) : Rdr (List AV × List Blk) _)
end
def F_astrolaberef9_place (f : (Int) → (Int) → Option (Int)) : Sem1 := fun args h => match (QA_astrolaberef9_place).rd (args, h) with
  | some b => .opt (f b.1.1 b.1.2.1) fun (d : Int) => .leaf (Res.mk (AV.r (RV.c (CV.f (FV.i IntKind.i64 d)))) [] [])
  | none => .fail
theorem d_astrolaberef9_place   (x0 : Int) (x1 : Int) : den Try.prog (envOf []) ⟨[], [], [], [], none⟩ 1000 59 [.r (.c (.f (.i .i64 x0))), .r (.c (.f (.i .i64 x1)))] [] =
    K_astrolaberef9_place   x0 x1 (fun (d : Int) => some (Res.mk (AV.r (RV.c (CV.f (FV.i IntKind.i64 d)))) [] [])) := by kernel_rfl
theorem m_astrolaberef9_place {ρ σ : Type} (q : ρ → Option σ)    (x0 : Int) (x1 : Int) (k : (Int) → Option ρ) : (K_astrolaberef9_place   x0 x1 k).bind q = K_astrolaberef9_place   x0 x1 (fun d => (k d).bind q) := by
  simp only [K_astrolaberef9_place, bnd_cond, bnd_bind, bnd_none, bnd_sum]
theorem qa_astrolaberef9_place : ∀ b, (QA_astrolaberef9_place).em b = ([.r (.c (.f (.i .i64 b.1.1))), .r (.c (.f (.i .i64 b.1.2.1)))], []) := fun b => by kernel_rfl
theorem e_astrolaberef9_place {f : (Int) → (Int) → Option (Int)} {args : List AV} {h : List Blk} {r : Res} (hr : (F_astrolaberef9_place f args h).eval = some r) : ∃ x0 x1, args = [.r (.c (.f (.i .i64 x0))), .r (.c (.f (.i .i64 x1)))] ∧ h = [] ∧ (f x0 x1).bind (fun (d : Int) => some (Res.mk (AV.r (RV.c (CV.f (FV.i IntKind.i64 d)))) [] [])) = some r := by
  unfold F_astrolaberef9_place at hr
  split at hr
  · rename_i b hb
    have e := ((QA_astrolaberef9_place).ok _ _ hb).trans (qa_astrolaberef9_place b)
    rw [opt_eval2] at hr
    exact ⟨b.1.1, b.1.2.1, (Prod.mk.inj e).1, (Prod.mk.inj e).2, hr⟩
  · cases hr
theorem n_astrolaberef9_place {σ : Type} (q : (Int) → Option σ) (x0 : Int) (x1 : Int) : (f_astrolaberef9_place x0 x1).bind q = K_astrolaberef9_place   x0 x1 q := by
  unfold f_astrolaberef9_place
  exact m_astrolaberef9_place q    x0 x1 some
theorem s_astrolaberef9_place : Sound Try.prog 59 (F_astrolaberef9_place f_astrolaberef9_place) :=
  (inl_sound (l := []) (.nil _) mixed [] [] 1000 (by kernel_rfl)).by (F := F_astrolaberef9_place f_astrolaberef9_place) fun args b r hr => by
  obtain ⟨x0, x1, rfl, rfl, hr1⟩ := e_astrolaberef9_place hr
  exact inl_eval ((d_astrolaberef9_place   x0 x1).trans ((n_astrolaberef9_place (fun (d : Int) => some (Res.mk (AV.r (RV.c (CV.f (FV.i IntKind.i64 d)))) [] [])) x0 x1).symm.trans hr1))

def K_astrolaberef9_U {ρ : Type} (g_astrolaberef9_place : Int → Int → Option Int)  (x0 : Int) (x1 : Int) (x2 : Nat → Int) (x3 : Nat → Int) (k : (Int) → Option ρ) : Option ρ :=
  bif decide (x0 < 0) then k 0
  else
    bif decide (x1 < 0) then k 0
    else
      bif decide (x0 ≥ 24) then k 0
      else
        bif decide (x1 ≥ 24) then k 0
        else
          bif decide (x0 > x1) then k 0
          else
            bif x0 == x1 then k 1073741824
            else Option.bind (g_astrolaberef9_place x0 x1) fun (d : Int) => bif inR d 276 then bif Nat.ble (0 + Int.toNat d * 1 + 1) 276 then k (x2 (Int.toNat d)) else none else none
def f_astrolaberef9_U (x0 : Int) (x1 : Int) (x2 : Nat → Int) (x3 : Nat → Int) : Option (Int) := K_astrolaberef9_U f_astrolaberef9_place  x0 x1 x2 x3 some
section
open Go.Ab.Rdr
def QA_astrolaberef9_U := ((pair (cons (ar (rc (cptr (nat 0) (ok' (nat 0)) (nat 300)))) (cons (ar (rc (cf (fi .i64 hole)))) (cons (ar (rc (cf (fi .i64 hole)))) nil))) (cons (cons (ga (szl (nat 276)) (cons (ki .i64 hole) nil)) (cons (ga (szl (nat 24)) (cons (ki .i64 hole) nil)) nil)) nil)) : Rdr (List AV × List Blk) _)
end
def F_astrolaberef9_U (f : (Int) → (Int) → (Nat → Int) → (Nat → Int) → Option (Int)) : Sem1 := fun args h => match (QA_astrolaberef9_U).rd (args, h) with
  | some b => .opt (f b.1.2.1 b.1.2.2.1 b.2.1.1.2.1 b.2.1.2.1.2.1) fun (d : Int) => .leaf (Res.mk (AV.r (RV.c (CV.f (FV.i IntKind.i64 d)))) [Ch.keep] [])
  | none => .fail
theorem d_astrolaberef9_U (g_astrolaberef9_place : Int → Int → Option Int)  (x0 : Int) (x1 : Int) (x2 : Nat → Int) (x3 : Nat → Int) : den Try.prog (envOf [(59, F_astrolaberef9_place g_astrolaberef9_place)]) ⟨[], [], [], [], none⟩ 1000 45 [.r (.c (.ptr 0 (.k 0) 300)), .r (.c (.f (.i .i64 x0))), .r (.c (.f (.i .i64 x1)))] [[.a (.l 276) [.i .i64 x2], .a (.l 24) [.i .i64 x3]]] =
    K_astrolaberef9_U g_astrolaberef9_place  x0 x1 x2 x3 (fun (d : Int) => some (Res.mk (AV.r (RV.c (CV.f (FV.i IntKind.i64 d)))) [Ch.keep] [])) := by kernel_rfl
theorem m_astrolaberef9_U {ρ σ : Type} (q : ρ → Option σ) (g_astrolaberef9_place : Int → Int → Option Int)   (x0 : Int) (x1 : Int) (x2 : Nat → Int) (x3 : Nat → Int) (k : (Int) → Option ρ) : (K_astrolaberef9_U g_astrolaberef9_place  x0 x1 x2 x3 k).bind q = K_astrolaberef9_U g_astrolaberef9_place  x0 x1 x2 x3 (fun d => (k d).bind q) := by
  simp only [K_astrolaberef9_U, bnd_cond, bnd_bind, bnd_none, bnd_sum]
theorem qa_astrolaberef9_U : ∀ b, (QA_astrolaberef9_U).em b = ([.r (.c (.ptr 0 (.k 0) 300)), .r (.c (.f (.i .i64 b.1.2.1))), .r (.c (.f (.i .i64 b.1.2.2.1)))], [[.a (.l 276) [.i .i64 b.2.1.1.2.1], .a (.l 24) [.i .i64 b.2.1.2.1.2.1]]]) := fun b => by kernel_rfl
theorem e_astrolaberef9_U {f : (Int) → (Int) → (Nat → Int) → (Nat → Int) → Option (Int)} {args : List AV} {h : List Blk} {r : Res} (hr : (F_astrolaberef9_U f args h).eval = some r) : ∃ x0 x1 x2 x3, args = [.r (.c (.ptr 0 (.k 0) 300)), .r (.c (.f (.i .i64 x0))), .r (.c (.f (.i .i64 x1)))] ∧ h = [[.a (.l 276) [.i .i64 x2], .a (.l 24) [.i .i64 x3]]] ∧ (f x0 x1 x2 x3).bind (fun (d : Int) => some (Res.mk (AV.r (RV.c (CV.f (FV.i IntKind.i64 d)))) [Ch.keep] [])) = some r := by
  unfold F_astrolaberef9_U at hr
  split at hr
  · rename_i b hb
    have e := ((QA_astrolaberef9_U).ok _ _ hb).trans (qa_astrolaberef9_U b)
    rw [opt_eval2] at hr
    exact ⟨b.1.2.1, b.1.2.2.1, b.2.1.1.2.1, b.2.1.2.1.2.1, (Prod.mk.inj e).1, (Prod.mk.inj e).2, hr⟩
  · cases hr
theorem n_astrolaberef9_U {σ : Type} (q : (Int) → Option σ) (x0 : Int) (x1 : Int) (x2 : Nat → Int) (x3 : Nat → Int) : (f_astrolaberef9_U x0 x1 x2 x3).bind q = K_astrolaberef9_U f_astrolaberef9_place  x0 x1 x2 x3 q := by
  unfold f_astrolaberef9_U
  exact m_astrolaberef9_U q f_astrolaberef9_place   x0 x1 x2 x3 some
theorem s_astrolaberef9_U : Sound Try.prog 45 (F_astrolaberef9_U f_astrolaberef9_U) :=
  (inl_sound (l := [(59, F_astrolaberef9_place f_astrolaberef9_place)]) (.cons s_astrolaberef9_place (.nil _)) mixed [] [] 1000 (by kernel_rfl)).by (F := F_astrolaberef9_U f_astrolaberef9_U) fun args b r hr => by
  obtain ⟨x0, x1, x2, x3, rfl, rfl, hr1⟩ := e_astrolaberef9_U hr
  exact inl_eval ((d_astrolaberef9_U f_astrolaberef9_place  x0 x1 x2 x3).trans ((n_astrolaberef9_U (fun (d : Int) => some (Res.mk (AV.r (RV.c (CV.f (FV.i IntKind.i64 d)))) [Ch.keep] [])) x0 x1 x2 x3).symm.trans hr1))

def S_astrolaberef9_Good_0 {ρ : Type}   (x0 : Int) (x1 : Nat → Int) (x2 : Nat → Int) (c : (Int × (Nat → Int) × (Nat → Int)) → Option ρ) (x : ((Nat → Int) × (Nat → Int) ⊕ Int × Bool × (Nat → Int) × (Nat → Int)) → Option ρ) : Option ρ :=
  bif decide (x0 < 24) then
    bif inR x0 24 then
      bif decide (x2 (Int.toNat x0) < 1) then x (Sum.inl (x1, x2))
      else bif inR x0 24 then bif decide (x2 (Int.toNat x0) > 72057594037927936) then x (Sum.inl (x1, x2)) else c (IntKind.wrap IntKind.i64 (x0 + 1), x1, x2) else none
    else none
  else x (Sum.inr (x0, decide (x0 < 24), x1, x2))
section
open Go.Ab.Rdr
def Q_astrolaberef9_Good_0 := (st (cons (ar (rc (cptr (nat 0) (ok' (nat 0)) (nat 300)))) (cons aund (cons aund (cons (ar (rc (cf (fi .i64 hole)))) (cons aund (cons aund (cons aund (cons aund (cons aund (cons aund (cons aund (cons aund (cons aund (cons aund (cons aund (cons aund (cons aund (cons aund (cons aund (cons aund (cons aund (cons aund (cons aund (cons aund (cons aund (cons aund (cons aund (cons aund (cons aund (cons aund (cons aund (cons aund (cons aund (cons aund (cons aund (cons aund (cons aund (cons (atup nil) (cons (atup nil) (cons (atup nil) (cons (atup nil) (cons (atup nil) (cons (atup nil) (cons (atup nil) (cons aund nil))))))))))))))))))))))))))))))))))))))))))))) (cons (some' (cons (ga (szl (nat 276)) (cons (ki .i64 hole) nil)) (cons (ga (szl (nat 24)) (cons (ki .i64 hole) nil)) nil))) nil) nil)
end
theorem q_astrolaberef9_Good_0 : ∀ b, (Q_astrolaberef9_Good_0).em b = St.mk
    [AV.r (RV.c (CV.ptr 0 (Off.k 0) 300)), AV.und, AV.und, AV.r (RV.c (CV.f (FV.i IntKind.i64 b.1.2.2.2.1))), AV.und, AV.und, AV.und, AV.und, AV.und, AV.und, AV.und, AV.und, AV.und, AV.und, AV.und, AV.und,
      AV.und, AV.und, AV.und, AV.und, AV.und, AV.und, AV.und, AV.und, AV.und, AV.und, AV.und, AV.und, AV.und, AV.und, AV.und, AV.und, AV.und, AV.und, AV.und, AV.und, AV.und, AV.tup [], AV.tup [],
      AV.tup [], AV.tup [], AV.tup [], AV.tup [], AV.tup [], AV.und]
    [some [Sg.a (Sz.l 276) [Col.i IntKind.i64 b.2.1.1.1.2.1], Sg.a (Sz.l 24) [Col.i IntKind.i64 b.2.1.1.2.1.2.1]]] [] := fun b => by kernel_rfl
def R_astrolaberef9_Good_0 (l : ∀ {ρ : Type}, (Int × (Nat → Int) × (Nat → Int)) → (((Nat → Int) × (Nat → Int) ⊕ Int × Bool × (Nat → Int) × (Nat → Int)) → Option ρ) → Option ρ) {ρ : Type} (s : St) (K : AX → St → Option ρ) : Option ρ := ((Q_astrolaberef9_Good_0).rd s).bind fun b => l (b.1.2.2.2.1, b.2.1.1.1.2.1, b.2.1.1.2.1.2.1) (Sum.elim (fun d => K (AX.ret) (St.mk
  [AV.und, AV.und, AV.r (RV.c (CV.f (FV.b false))), AV.und, AV.und, AV.und, AV.und, AV.und, AV.und, AV.und, AV.und, AV.und, AV.und, AV.und, AV.und, AV.und, AV.und, AV.und, AV.und, AV.und, AV.und,
    AV.und, AV.und, AV.und, AV.und, AV.und, AV.und, AV.und, AV.und, AV.und, AV.und, AV.und, AV.und, AV.und, AV.und, AV.und, AV.und, AV.und, AV.und, AV.und, AV.und, AV.und, AV.und, AV.und, AV.und]
  [some [Sg.a (Sz.l 276) [Col.i IntKind.i64 d.1], Sg.a (Sz.l 24) [Col.i IntKind.i64 d.2]]] [])) (fun d => K (AX.ex 0) (St.mk
  [AV.r (RV.c (CV.ptr 0 (Off.k 0) 300)), AV.und, AV.und, AV.r (RV.c (CV.f (FV.i IntKind.i64 d.1))), AV.und, AV.r (RV.c (CV.f (FV.i IntKind.i64 d.1))), AV.r (RV.c (CV.f (FV.b d.2.1))), AV.und,
    AV.und, AV.und, AV.und, AV.und, AV.und, AV.und, AV.und, AV.und, AV.und, AV.und, AV.und, AV.und, AV.und, AV.und, AV.und, AV.und, AV.und, AV.und, AV.und, AV.und, AV.und, AV.und, AV.und, AV.und,
    AV.und, AV.und, AV.und, AV.und, AV.und, AV.tup [], AV.tup [], AV.tup [], AV.tup [], AV.tup [], AV.tup [], AV.tup [], AV.und]
  [some [Sg.a (Sz.l 276) [Col.i IntKind.i64 d.2.2.1], Sg.a (Sz.l 24) [Col.i IntKind.i64 d.2.2.2]]] [])))
theorem ms_astrolaberef9_Good_0 {ρ σ : Type}    (q : ρ → Option σ) (x0 : Int) (x1 : Nat → Int) (x2 : Nat → Int) (c : (Int × (Nat → Int) × (Nat → Int)) → Option ρ) (x : ((Nat → Int) × (Nat → Int) ⊕ Int × Bool × (Nat → Int) × (Nat → Int)) → Option ρ) : (S_astrolaberef9_Good_0   x0 x1 x2 c x).bind q = S_astrolaberef9_Good_0   x0 x1 x2 (fun d => (c d).bind q) (fun d => (x d).bind q) := by
  simp only [S_astrolaberef9_Good_0, bnd_cond, bnd_bind, bnd_none, bnd_sum]
def L_astrolaberef9_Good_0 {ρ : Type} (d : Int × (Nat → Int) × (Nat → Int)) (k : ((Nat → Int) × (Nat → Int) ⊕ Int × Bool × (Nat → Int) × (Nat → Int)) → Option ρ) : Option ρ := loopK (fun d c x => S_astrolaberef9_Good_0   d.1 d.2.1 d.2.2 c x) 1000 d k
theorem mL_astrolaberef9_Good_0 {ρ σ : Type} (q : ρ → Option σ) (d : Int × (Nat → Int) × (Nat → Int)) (k : ((Nat → Int) × (Nat → Int) ⊕ Int × Bool × (Nat → Int) × (Nat → Int)) → Option ρ) : (L_astrolaberef9_Good_0 d k).bind q = L_astrolaberef9_Good_0 d fun x => (k x).bind q :=
  loopK_bind q (fun d c x => ms_astrolaberef9_Good_0    q d.1 d.2.1 d.2.2 c x) k _ d
def S_astrolaberef9_Good_1 {ρ : Type}   (x0 : Int) (x1 : Nat → Int) (x2 : Nat → Int) (c : (Int × (Nat → Int) × (Nat → Int)) → Option ρ) (x : ((Nat → Int) × (Nat → Int) ⊕ Int × Bool × (Nat → Int) × (Nat → Int)) → Option ρ) : Option ρ :=
  bif decide (x0 < 276) then
    bif inR x0 276 then
      bif Nat.ble (0 + Int.toNat x0 * 1 + 1) 276 then
        bif decide (x1 (Int.toNat x0) < -1152921504606846976) then x (Sum.inl (x1, x2))
        else
          bif inR x0 276 then
            bif Nat.ble (0 + Int.toNat x0 * 1 + 1) 276 then bif decide (x1 (Int.toNat x0) > 1152921504606846976) then x (Sum.inl (x1, x2)) else c (IntKind.wrap IntKind.i64 (x0 + 1), x1, x2) else none
          else none
      else none
    else none
  else x (Sum.inr (x0, decide (x0 < 276), x1, x2))
section
open Go.Ab.Rdr
def Q_astrolaberef9_Good_1 := (st (cons (ar (rc (cptr (nat 0) (ok' (nat 0)) (nat 300)))) (cons aund (cons aund (cons aund (cons (ar (rc (cf (fi .i64 hole)))) (cons aund (cons aund (cons aund (cons aund (cons aund (cons aund (cons aund (cons aund (cons aund (cons aund (cons aund (cons aund (cons aund (cons aund (cons aund (cons aund (cons aund (cons aund (cons aund (cons aund (cons aund (cons aund (cons aund (cons aund (cons aund (cons aund (cons aund (cons aund (cons aund (cons aund (cons aund (cons aund (cons aund (cons aund (cons aund (cons aund (cons aund (cons aund (cons aund (cons aund nil))))))))))))))))))))))))))))))))))))))))))))) (cons (some' (cons (ga (szl (nat 276)) (cons (ki .i64 hole) nil)) (cons (ga (szl (nat 24)) (cons (ki .i64 hole) nil)) nil))) nil) nil)
end
theorem q_astrolaberef9_Good_1 : ∀ b, (Q_astrolaberef9_Good_1).em b = St.mk
    [AV.r (RV.c (CV.ptr 0 (Off.k 0) 300)), AV.und, AV.und, AV.und, AV.r (RV.c (CV.f (FV.i IntKind.i64 b.1.2.2.2.2.1))), AV.und, AV.und, AV.und, AV.und, AV.und, AV.und, AV.und, AV.und, AV.und, AV.und, AV.und,
      AV.und, AV.und, AV.und, AV.und, AV.und, AV.und, AV.und, AV.und, AV.und, AV.und, AV.und, AV.und, AV.und, AV.und, AV.und, AV.und, AV.und, AV.und, AV.und, AV.und, AV.und, AV.und, AV.und, AV.und,
      AV.und, AV.und, AV.und, AV.und, AV.und]
    [some [Sg.a (Sz.l 276) [Col.i IntKind.i64 b.2.1.1.1.2.1], Sg.a (Sz.l 24) [Col.i IntKind.i64 b.2.1.1.2.1.2.1]]] [] := fun b => by kernel_rfl
def R_astrolaberef9_Good_1 (l : ∀ {ρ : Type}, (Int × (Nat → Int) × (Nat → Int)) → (((Nat → Int) × (Nat → Int) ⊕ Int × Bool × (Nat → Int) × (Nat → Int)) → Option ρ) → Option ρ) {ρ : Type} (s : St) (K : AX → St → Option ρ) : Option ρ := ((Q_astrolaberef9_Good_1).rd s).bind fun b => l (b.1.2.2.2.2.1, b.2.1.1.1.2.1, b.2.1.1.2.1.2.1) (Sum.elim (fun d => K (AX.ret) (St.mk
  [AV.und, AV.und, AV.r (RV.c (CV.f (FV.b false))), AV.und, AV.und, AV.und, AV.und, AV.und, AV.und, AV.und, AV.und, AV.und, AV.und, AV.und, AV.und, AV.und, AV.und, AV.und, AV.und, AV.und, AV.und,
    AV.und, AV.und, AV.und, AV.und, AV.und, AV.und, AV.und, AV.und, AV.und, AV.und, AV.und, AV.und, AV.und, AV.und, AV.und, AV.und, AV.und, AV.und, AV.und, AV.und, AV.und, AV.und, AV.und, AV.und]
  [some [Sg.a (Sz.l 276) [Col.i IntKind.i64 d.1], Sg.a (Sz.l 24) [Col.i IntKind.i64 d.2]]] [])) (fun d => K (AX.ex 2) (St.mk
  [AV.r (RV.c (CV.ptr 0 (Off.k 0) 300)), AV.und, AV.und, AV.und, AV.r (RV.c (CV.f (FV.i IntKind.i64 d.1))), AV.und, AV.und, AV.und, AV.und, AV.und, AV.und, AV.und, AV.und, AV.und, AV.und, AV.und,
    AV.und, AV.und, AV.und, AV.und, AV.und, AV.und, AV.und, AV.und, AV.und, AV.r (RV.c (CV.f (FV.i IntKind.i64 d.1))), AV.r (RV.c (CV.f (FV.b d.2.1))), AV.und, AV.und, AV.und, AV.und, AV.und,
    AV.und, AV.und, AV.und, AV.und, AV.und, AV.und, AV.und, AV.und, AV.und, AV.und, AV.und, AV.und, AV.und]
  [some [Sg.a (Sz.l 276) [Col.i IntKind.i64 d.2.2.1], Sg.a (Sz.l 24) [Col.i IntKind.i64 d.2.2.2]]] [])))
theorem ms_astrolaberef9_Good_1 {ρ σ : Type}    (q : ρ → Option σ) (x0 : Int) (x1 : Nat → Int) (x2 : Nat → Int) (c : (Int × (Nat → Int) × (Nat → Int)) → Option ρ) (x : ((Nat → Int) × (Nat → Int) ⊕ Int × Bool × (Nat → Int) × (Nat → Int)) → Option ρ) : (S_astrolaberef9_Good_1   x0 x1 x2 c x).bind q = S_astrolaberef9_Good_1   x0 x1 x2 (fun d => (c d).bind q) (fun d => (x d).bind q) := by
  simp only [S_astrolaberef9_Good_1, bnd_cond, bnd_bind, bnd_none, bnd_sum]
def L_astrolaberef9_Good_1 {ρ : Type} (d : Int × (Nat → Int) × (Nat → Int)) (k : ((Nat → Int) × (Nat → Int) ⊕ Int × Bool × (Nat → Int) × (Nat → Int)) → Option ρ) : Option ρ := loopK (fun d c x => S_astrolaberef9_Good_1   d.1 d.2.1 d.2.2 c x) 1000 d k
theorem mL_astrolaberef9_Good_1 {ρ σ : Type} (q : ρ → Option σ) (d : Int × (Nat → Int) × (Nat → Int)) (k : ((Nat → Int) × (Nat → Int) ⊕ Int × Bool × (Nat → Int) × (Nat → Int)) → Option ρ) : (L_astrolaberef9_Good_1 d k).bind q = L_astrolaberef9_Good_1 d fun x => (k x).bind q :=
  loopK_bind q (fun d c x => ms_astrolaberef9_Good_1    q d.1 d.2.1 d.2.2 c x) k _ d
theorem ds_astrolaberef9_Good_0 {ρ : Type}  (l_0 : ∀ {ρ : Type}, (Int × (Nat → Int) × (Nat → Int)) → (((Nat → Int) × (Nat → Int) ⊕ Int × Bool × (Nat → Int) × (Nat → Int)) → Option ρ) → Option ρ) (l_1 : ∀ {ρ : Type}, (Int × (Nat → Int) × (Nat → Int)) → (((Nat → Int) × (Nat → Int) ⊕ Int × Bool × (Nat → Int) × (Nat → Int)) → Option ρ) → Option ρ) (x0 : Int) (x1 : Nat → Int) (x2 : Nat → Int) (c : St → Option ρ) (K : AX → St → Option ρ) :
    runC Try.prog (envOf []) ⟨[⟨2, [1, 2, 4, 5, 6, 8, 9, 10, 11, 12, 13, 14, 15, 16, 24, 25, 26, 27, 28, 29, 30, 31, 32, 33, 34, 35, 36, 44, 7, 17, 18, 19, 20, 21, 22, 23], []⟩, ⟨7, [1, 2, 3, 5, 6, 8, 9, 10, 11, 12, 13, 14, 15, 16, 17, 18, 19, 20, 21, 22, 23, 24, 25, 26, 27, 28, 29, 30, 31, 32, 33, 34, 35, 36, 44, 37, 38, 39, 40, 41, 42, 43], []⟩], [⟨2, 1, @R_astrolaberef9_Good_0 (@l_0)⟩, ⟨7, 1, @R_astrolaberef9_Good_1 (@l_1)⟩], [], [], (some ⟨0, [0, 1, 3, 4, 5, 6, 7, 8, 9, 10, 11, 12, 13, 14, 15, 16, 17, 18, 19, 20, 21, 22, 23, 24, 25, 26, 27, 28, 29, 30, 31, 32, 33, 34, 35, 36, 37, 38, 39, 40, 41, 42, 43, 44], []⟩)⟩ (tmpsOf Try.prog 44) 1 1000 (loopIn Try.prog 44 2)
      (St.mk
    [AV.r (RV.c (CV.ptr 0 (Off.k 0) 300)), AV.und, AV.und, AV.r (RV.c (CV.f (FV.i IntKind.i64 x0))), AV.und, AV.und, AV.und, AV.und, AV.und, AV.und, AV.und, AV.und, AV.und, AV.und, AV.und, AV.und,
      AV.und, AV.und, AV.und, AV.und, AV.und, AV.und, AV.und, AV.und, AV.und, AV.und, AV.und, AV.und, AV.und, AV.und, AV.und, AV.und, AV.und, AV.und, AV.und, AV.und, AV.und, AV.tup [], AV.tup [],
      AV.tup [], AV.tup [], AV.tup [], AV.tup [], AV.tup [], AV.und]
    [some [Sg.a (Sz.l 276) [Col.i IntKind.i64 x1], Sg.a (Sz.l 24) [Col.i IntKind.i64 x2]]] [])
      (next (fun t => t.head 1 ⟨[⟨2, [1, 2, 4, 5, 6, 8, 9, 10, 11, 12, 13, 14, 15, 16, 24, 25, 26, 27, 28, 29, 30, 31, 32, 33, 34, 35, 36, 44, 7, 17, 18, 19, 20, 21, 22, 23], []⟩, ⟨7, [1, 2, 3, 5, 6, 8, 9, 10, 11, 12, 13, 14, 15, 16, 17, 18, 19, 20, 21, 22, 23, 24, 25, 26, 27, 28, 29, 30, 31, 32, 33, 34, 35, 36, 44, 37, 38, 39, 40, 41, 42, 43], []⟩], [⟨2, 1, @R_astrolaberef9_Good_0 (@l_0)⟩, ⟨7, 1, @R_astrolaberef9_Good_1 (@l_1)⟩], [], [], (some ⟨0, [0, 1, 3, 4, 5, 6, 7, 8, 9, 10, 11, 12, 13, 14, 15, 16, 17, 18, 19, 20, 21, 22, 23, 24, 25, 26, 27, 28, 29, 30, 31, 32, 33, 34, 35, 36, 37, 38, 39, 40, 41, 42, 43, 44], []⟩)⟩ (loopIn Try.prog 44 2)) c K) =
    S_astrolaberef9_Good_0   x0 x1 x2 (fun d => c (St.mk
  [AV.r (RV.c (CV.ptr 0 (Off.k 0) 300)), AV.und, AV.und, AV.r (RV.c (CV.f (FV.i IntKind.i64 d.1))), AV.und, AV.und, AV.und, AV.und, AV.und, AV.und, AV.und, AV.und, AV.und, AV.und, AV.und, AV.und,
    AV.und, AV.und, AV.und, AV.und, AV.und, AV.und, AV.und, AV.und, AV.und, AV.und, AV.und, AV.und, AV.und, AV.und, AV.und, AV.und, AV.und, AV.und, AV.und, AV.und, AV.und, AV.tup [], AV.tup [],
    AV.tup [], AV.tup [], AV.tup [], AV.tup [], AV.tup [], AV.und]
  [some [Sg.a (Sz.l 276) [Col.i IntKind.i64 d.2.1], Sg.a (Sz.l 24) [Col.i IntKind.i64 d.2.2]]] [])) (Sum.elim (fun d => K (AX.ret) (St.mk
  [AV.und, AV.und, AV.r (RV.c (CV.f (FV.b false))), AV.und, AV.und, AV.und, AV.und, AV.und, AV.und, AV.und, AV.und, AV.und, AV.und, AV.und, AV.und, AV.und, AV.und, AV.und, AV.und, AV.und, AV.und,
    AV.und, AV.und, AV.und, AV.und, AV.und, AV.und, AV.und, AV.und, AV.und, AV.und, AV.und, AV.und, AV.und, AV.und, AV.und, AV.und, AV.und, AV.und, AV.und, AV.und, AV.und, AV.und, AV.und, AV.und]
  [some [Sg.a (Sz.l 276) [Col.i IntKind.i64 d.1], Sg.a (Sz.l 24) [Col.i IntKind.i64 d.2]]] [])) (fun d => K (AX.ex 0) (St.mk
  [AV.r (RV.c (CV.ptr 0 (Off.k 0) 300)), AV.und, AV.und, AV.r (RV.c (CV.f (FV.i IntKind.i64 d.1))), AV.und, AV.r (RV.c (CV.f (FV.i IntKind.i64 d.1))), AV.r (RV.c (CV.f (FV.b d.2.1))), AV.und,
    AV.und, AV.und, AV.und, AV.und, AV.und, AV.und, AV.und, AV.und, AV.und, AV.und, AV.und, AV.und, AV.und, AV.und, AV.und, AV.und, AV.und, AV.und, AV.und, AV.und, AV.und, AV.und, AV.und, AV.und,
    AV.und, AV.und, AV.und, AV.und, AV.und, AV.tup [], AV.tup [], AV.tup [], AV.tup [], AV.tup [], AV.tup [], AV.tup [], AV.und]
  [some [Sg.a (Sz.l 276) [Col.i IntKind.i64 d.2.2.1], Sg.a (Sz.l 24) [Col.i IntKind.i64 d.2.2.2]]] []))) := by kernel_rfl
theorem it_astrolaberef9_Good_0 {ρ : Type} (x0 : Int) (x1 : Nat → Int) (x2 : Nat → Int) (K : AX → St → Option ρ) :
    iter (fun t => t.head 1 ⟨[⟨2, [1, 2, 4, 5, 6, 8, 9, 10, 11, 12, 13, 14, 15, 16, 24, 25, 26, 27, 28, 29, 30, 31, 32, 33, 34, 35, 36, 44, 7, 17, 18, 19, 20, 21, 22, 23], []⟩, ⟨7, [1, 2, 3, 5, 6, 8, 9, 10, 11, 12, 13, 14, 15, 16, 17, 18, 19, 20, 21, 22, 23, 24, 25, 26, 27, 28, 29, 30, 31, 32, 33, 34, 35, 36, 44, 37, 38, 39, 40, 41, 42, 43], []⟩], [⟨2, 1, @R_astrolaberef9_Good_0 (@L_astrolaberef9_Good_0)⟩, ⟨7, 1, @R_astrolaberef9_Good_1 (@L_astrolaberef9_Good_1)⟩], [], [], (some ⟨0, [0, 1, 3, 4, 5, 6, 7, 8, 9, 10, 11, 12, 13, 14, 15, 16, 17, 18, 19, 20, 21, 22, 23, 24, 25, 26, 27, 28, 29, 30, 31, 32, 33, 34, 35, 36, 37, 38, 39, 40, 41, 42, 43, 44], []⟩)⟩ (loopIn Try.prog 44 2)) (runC Try.prog (envOf []) ⟨[⟨2, [1, 2, 4, 5, 6, 8, 9, 10, 11, 12, 13, 14, 15, 16, 24, 25, 26, 27, 28, 29, 30, 31, 32, 33, 34, 35, 36, 44, 7, 17, 18, 19, 20, 21, 22, 23], []⟩, ⟨7, [1, 2, 3, 5, 6, 8, 9, 10, 11, 12, 13, 14, 15, 16, 17, 18, 19, 20, 21, 22, 23, 24, 25, 26, 27, 28, 29, 30, 31, 32, 33, 34, 35, 36, 44, 37, 38, 39, 40, 41, 42, 43], []⟩], [⟨2, 1, @R_astrolaberef9_Good_0 (@L_astrolaberef9_Good_0)⟩, ⟨7, 1, @R_astrolaberef9_Good_1 (@L_astrolaberef9_Good_1)⟩], [], [], (some ⟨0, [0, 1, 3, 4, 5, 6, 7, 8, 9, 10, 11, 12, 13, 14, 15, 16, 17, 18, 19, 20, 21, 22, 23, 24, 25, 26, 27, 28, 29, 30, 31, 32, 33, 34, 35, 36, 37, 38, 39, 40, 41, 42, 43, 44], []⟩)⟩ (tmpsOf Try.prog 44) 1 1000 (loopIn Try.prog 44 2)) K 1000
      (St.mk
    [AV.r (RV.c (CV.ptr 0 (Off.k 0) 300)), AV.und, AV.und, AV.r (RV.c (CV.f (FV.i IntKind.i64 x0))), AV.und, AV.und, AV.und, AV.und, AV.und, AV.und, AV.und, AV.und, AV.und, AV.und, AV.und, AV.und,
      AV.und, AV.und, AV.und, AV.und, AV.und, AV.und, AV.und, AV.und, AV.und, AV.und, AV.und, AV.und, AV.und, AV.und, AV.und, AV.und, AV.und, AV.und, AV.und, AV.und, AV.und, AV.tup [], AV.tup [],
      AV.tup [], AV.tup [], AV.tup [], AV.tup [], AV.tup [], AV.und]
    [some [Sg.a (Sz.l 276) [Col.i IntKind.i64 x1], Sg.a (Sz.l 24) [Col.i IntKind.i64 x2]]] []) = L_astrolaberef9_Good_0 (x0, x1, x2) (Sum.elim (fun d => K (AX.ret) (St.mk
  [AV.und, AV.und, AV.r (RV.c (CV.f (FV.b false))), AV.und, AV.und, AV.und, AV.und, AV.und, AV.und, AV.und, AV.und, AV.und, AV.und, AV.und, AV.und, AV.und, AV.und, AV.und, AV.und, AV.und, AV.und,
    AV.und, AV.und, AV.und, AV.und, AV.und, AV.und, AV.und, AV.und, AV.und, AV.und, AV.und, AV.und, AV.und, AV.und, AV.und, AV.und, AV.und, AV.und, AV.und, AV.und, AV.und, AV.und, AV.und, AV.und]
  [some [Sg.a (Sz.l 276) [Col.i IntKind.i64 d.1], Sg.a (Sz.l 24) [Col.i IntKind.i64 d.2]]] [])) (fun d => K (AX.ex 0) (St.mk
  [AV.r (RV.c (CV.ptr 0 (Off.k 0) 300)), AV.und, AV.und, AV.r (RV.c (CV.f (FV.i IntKind.i64 d.1))), AV.und, AV.r (RV.c (CV.f (FV.i IntKind.i64 d.1))), AV.r (RV.c (CV.f (FV.b d.2.1))), AV.und,
    AV.und, AV.und, AV.und, AV.und, AV.und, AV.und, AV.und, AV.und, AV.und, AV.und, AV.und, AV.und, AV.und, AV.und, AV.und, AV.und, AV.und, AV.und, AV.und, AV.und, AV.und, AV.und, AV.und, AV.und,
    AV.und, AV.und, AV.und, AV.und, AV.und, AV.tup [], AV.tup [], AV.tup [], AV.tup [], AV.tup [], AV.tup [], AV.tup [], AV.und]
  [some [Sg.a (Sz.l 276) [Col.i IntKind.i64 d.2.2.1], Sg.a (Sz.l 24) [Col.i IntKind.i64 d.2.2.2]]] []))) :=
  iter_loopX (emb := fun (d : Int × (Nat → Int) × (Nat → Int)) => St.mk
  [AV.r (RV.c (CV.ptr 0 (Off.k 0) 300)), AV.und, AV.und, AV.r (RV.c (CV.f (FV.i IntKind.i64 d.1))), AV.und, AV.und, AV.und, AV.und, AV.und, AV.und, AV.und, AV.und, AV.und, AV.und, AV.und, AV.und,
    AV.und, AV.und, AV.und, AV.und, AV.und, AV.und, AV.und, AV.und, AV.und, AV.und, AV.und, AV.und, AV.und, AV.und, AV.und, AV.und, AV.und, AV.und, AV.und, AV.und, AV.und, AV.tup [], AV.tup [],
    AV.tup [], AV.tup [], AV.tup [], AV.tup [], AV.tup [], AV.und]
  [some [Sg.a (Sz.l 276) [Col.i IntKind.i64 d.2.1], Sg.a (Sz.l 24) [Col.i IntKind.i64 d.2.2]]] []) (step := fun d c x => S_astrolaberef9_Good_0   d.1 d.2.1 d.2.2 c x) (kx := (Sum.elim (fun d => K (AX.ret) (St.mk
  [AV.und, AV.und, AV.r (RV.c (CV.f (FV.b false))), AV.und, AV.und, AV.und, AV.und, AV.und, AV.und, AV.und, AV.und, AV.und, AV.und, AV.und, AV.und, AV.und, AV.und, AV.und, AV.und, AV.und, AV.und,
    AV.und, AV.und, AV.und, AV.und, AV.und, AV.und, AV.und, AV.und, AV.und, AV.und, AV.und, AV.und, AV.und, AV.und, AV.und, AV.und, AV.und, AV.und, AV.und, AV.und, AV.und, AV.und, AV.und, AV.und]
  [some [Sg.a (Sz.l 276) [Col.i IntKind.i64 d.1], Sg.a (Sz.l 24) [Col.i IntKind.i64 d.2]]] [])) (fun d => K (AX.ex 0) (St.mk
  [AV.r (RV.c (CV.ptr 0 (Off.k 0) 300)), AV.und, AV.und, AV.r (RV.c (CV.f (FV.i IntKind.i64 d.1))), AV.und, AV.r (RV.c (CV.f (FV.i IntKind.i64 d.1))), AV.r (RV.c (CV.f (FV.b d.2.1))), AV.und,
    AV.und, AV.und, AV.und, AV.und, AV.und, AV.und, AV.und, AV.und, AV.und, AV.und, AV.und, AV.und, AV.und, AV.und, AV.und, AV.und, AV.und, AV.und, AV.und, AV.und, AV.und, AV.und, AV.und, AV.und,
    AV.und, AV.und, AV.und, AV.und, AV.und, AV.tup [], AV.tup [], AV.tup [], AV.tup [], AV.tup [], AV.tup [], AV.tup [], AV.und]
  [some [Sg.a (Sz.l 276) [Col.i IntKind.i64 d.2.2.1], Sg.a (Sz.l 24) [Col.i IntKind.i64 d.2.2.2]]] []))))
    (fun d c => ds_astrolaberef9_Good_0  (@L_astrolaberef9_Good_0) (@L_astrolaberef9_Good_1) d.1 d.2.1 d.2.2 c K) 1000 (x0, x1, x2)
theorem so_astrolaberef9_Good_0 : ∀ kk, SumOK Try.prog (envOf []) ⟨[⟨2, [1, 2, 4, 5, 6, 8, 9, 10, 11, 12, 13, 14, 15, 16, 24, 25, 26, 27, 28, 29, 30, 31, 32, 33, 34, 35, 36, 44, 7, 17, 18, 19, 20, 21, 22, 23], []⟩, ⟨7, [1, 2, 3, 5, 6, 8, 9, 10, 11, 12, 13, 14, 15, 16, 17, 18, 19, 20, 21, 22, 23, 24, 25, 26, 27, 28, 29, 30, 31, 32, 33, 34, 35, 36, 44, 37, 38, 39, 40, 41, 42, 43], []⟩], [⟨2, 1, @R_astrolaberef9_Good_0 (@L_astrolaberef9_Good_0)⟩, ⟨7, 1, @R_astrolaberef9_Good_1 (@L_astrolaberef9_Good_1)⟩], [], [], (some ⟨0, [0, 1, 3, 4, 5, 6, 7, 8, 9, 10, 11, 12, 13, 14, 15, 16, 17, 18, 19, 20, 21, 22, 23, 24, 25, 26, 27, 28, 29, 30, 31, 32, 33, 34, 35, 36, 37, 38, 39, 40, 41, 42, 43, 44], []⟩)⟩ (tmpsOf Try.prog 44) kk 1000 (loopIn Try.prog 44 2) :=
  SumOK.of (id := 2) (k0 := 1) (run := @R_astrolaberef9_Good_0 (@L_astrolaberef9_Good_0)) (by kernel_rfl) fun s K r hr => by
    unfold R_astrolaberef9_Good_0 at hr
    obtain ⟨b, hb, hr1⟩ := Option.bind_eq_some_iff.1 hr
    have e := ((Q_astrolaberef9_Good_0).ok s b hb).trans (q_astrolaberef9_Good_0 b)
    subst e
    exact ⟨1000, (it_astrolaberef9_Good_0 b.1.2.2.2.1 b.2.1.1.1.2.1 b.2.1.1.2.1.2.1 K).trans hr1⟩
theorem ds_astrolaberef9_Good_1 {ρ : Type}  (l_0 : ∀ {ρ : Type}, (Int × (Nat → Int) × (Nat → Int)) → (((Nat → Int) × (Nat → Int) ⊕ Int × Bool × (Nat → Int) × (Nat → Int)) → Option ρ) → Option ρ) (l_1 : ∀ {ρ : Type}, (Int × (Nat → Int) × (Nat → Int)) → (((Nat → Int) × (Nat → Int) ⊕ Int × Bool × (Nat → Int) × (Nat → Int)) → Option ρ) → Option ρ) (x0 : Int) (x1 : Nat → Int) (x2 : Nat → Int) (c : St → Option ρ) (K : AX → St → Option ρ) :
    runC Try.prog (envOf []) ⟨[⟨2, [1, 2, 4, 5, 6, 8, 9, 10, 11, 12, 13, 14, 15, 16, 24, 25, 26, 27, 28, 29, 30, 31, 32, 33, 34, 35, 36, 44, 7, 17, 18, 19, 20, 21, 22, 23], []⟩, ⟨7, [1, 2, 3, 5, 6, 8, 9, 10, 11, 12, 13, 14, 15, 16, 17, 18, 19, 20, 21, 22, 23, 24, 25, 26, 27, 28, 29, 30, 31, 32, 33, 34, 35, 36, 44, 37, 38, 39, 40, 41, 42, 43], []⟩], [⟨2, 1, @R_astrolaberef9_Good_0 (@l_0)⟩, ⟨7, 1, @R_astrolaberef9_Good_1 (@l_1)⟩], [], [], (some ⟨0, [0, 1, 3, 4, 5, 6, 7, 8, 9, 10, 11, 12, 13, 14, 15, 16, 17, 18, 19, 20, 21, 22, 23, 24, 25, 26, 27, 28, 29, 30, 31, 32, 33, 34, 35, 36, 37, 38, 39, 40, 41, 42, 43, 44], []⟩)⟩ (tmpsOf Try.prog 44) 1 1000 (loopIn Try.prog 44 7)
      (St.mk
    [AV.r (RV.c (CV.ptr 0 (Off.k 0) 300)), AV.und, AV.und, AV.und, AV.r (RV.c (CV.f (FV.i IntKind.i64 x0))), AV.und, AV.und, AV.und, AV.und, AV.und, AV.und, AV.und, AV.und, AV.und, AV.und, AV.und,
      AV.und, AV.und, AV.und, AV.und, AV.und, AV.und, AV.und, AV.und, AV.und, AV.und, AV.und, AV.und, AV.und, AV.und, AV.und, AV.und, AV.und, AV.und, AV.und, AV.und, AV.und, AV.und, AV.und, AV.und,
      AV.und, AV.und, AV.und, AV.und, AV.und]
    [some [Sg.a (Sz.l 276) [Col.i IntKind.i64 x1], Sg.a (Sz.l 24) [Col.i IntKind.i64 x2]]] [])
      (next (fun t => t.head 1 ⟨[⟨2, [1, 2, 4, 5, 6, 8, 9, 10, 11, 12, 13, 14, 15, 16, 24, 25, 26, 27, 28, 29, 30, 31, 32, 33, 34, 35, 36, 44, 7, 17, 18, 19, 20, 21, 22, 23], []⟩, ⟨7, [1, 2, 3, 5, 6, 8, 9, 10, 11, 12, 13, 14, 15, 16, 17, 18, 19, 20, 21, 22, 23, 24, 25, 26, 27, 28, 29, 30, 31, 32, 33, 34, 35, 36, 44, 37, 38, 39, 40, 41, 42, 43], []⟩], [⟨2, 1, @R_astrolaberef9_Good_0 (@l_0)⟩, ⟨7, 1, @R_astrolaberef9_Good_1 (@l_1)⟩], [], [], (some ⟨0, [0, 1, 3, 4, 5, 6, 7, 8, 9, 10, 11, 12, 13, 14, 15, 16, 17, 18, 19, 20, 21, 22, 23, 24, 25, 26, 27, 28, 29, 30, 31, 32, 33, 34, 35, 36, 37, 38, 39, 40, 41, 42, 43, 44], []⟩)⟩ (loopIn Try.prog 44 7)) c K) =
    S_astrolaberef9_Good_1   x0 x1 x2 (fun d => c (St.mk
  [AV.r (RV.c (CV.ptr 0 (Off.k 0) 300)), AV.und, AV.und, AV.und, AV.r (RV.c (CV.f (FV.i IntKind.i64 d.1))), AV.und, AV.und, AV.und, AV.und, AV.und, AV.und, AV.und, AV.und, AV.und, AV.und, AV.und,
    AV.und, AV.und, AV.und, AV.und, AV.und, AV.und, AV.und, AV.und, AV.und, AV.und, AV.und, AV.und, AV.und, AV.und, AV.und, AV.und, AV.und, AV.und, AV.und, AV.und, AV.und, AV.und, AV.und, AV.und,
    AV.und, AV.und, AV.und, AV.und, AV.und]
  [some [Sg.a (Sz.l 276) [Col.i IntKind.i64 d.2.1], Sg.a (Sz.l 24) [Col.i IntKind.i64 d.2.2]]] [])) (Sum.elim (fun d => K (AX.ret) (St.mk
  [AV.und, AV.und, AV.r (RV.c (CV.f (FV.b false))), AV.und, AV.und, AV.und, AV.und, AV.und, AV.und, AV.und, AV.und, AV.und, AV.und, AV.und, AV.und, AV.und, AV.und, AV.und, AV.und, AV.und, AV.und,
    AV.und, AV.und, AV.und, AV.und, AV.und, AV.und, AV.und, AV.und, AV.und, AV.und, AV.und, AV.und, AV.und, AV.und, AV.und, AV.und, AV.und, AV.und, AV.und, AV.und, AV.und, AV.und, AV.und, AV.und]
  [some [Sg.a (Sz.l 276) [Col.i IntKind.i64 d.1], Sg.a (Sz.l 24) [Col.i IntKind.i64 d.2]]] [])) (fun d => K (AX.ex 2) (St.mk
  [AV.r (RV.c (CV.ptr 0 (Off.k 0) 300)), AV.und, AV.und, AV.und, AV.r (RV.c (CV.f (FV.i IntKind.i64 d.1))), AV.und, AV.und, AV.und, AV.und, AV.und, AV.und, AV.und, AV.und, AV.und, AV.und, AV.und,
    AV.und, AV.und, AV.und, AV.und, AV.und, AV.und, AV.und, AV.und, AV.und, AV.r (RV.c (CV.f (FV.i IntKind.i64 d.1))), AV.r (RV.c (CV.f (FV.b d.2.1))), AV.und, AV.und, AV.und, AV.und, AV.und,
    AV.und, AV.und, AV.und, AV.und, AV.und, AV.und, AV.und, AV.und, AV.und, AV.und, AV.und, AV.und, AV.und]
  [some [Sg.a (Sz.l 276) [Col.i IntKind.i64 d.2.2.1], Sg.a (Sz.l 24) [Col.i IntKind.i64 d.2.2.2]]] []))) := by kernel_rfl
theorem it_astrolaberef9_Good_1 {ρ : Type} (x0 : Int) (x1 : Nat → Int) (x2 : Nat → Int) (K : AX → St → Option ρ) :
    iter (fun t => t.head 1 ⟨[⟨2, [1, 2, 4, 5, 6, 8, 9, 10, 11, 12, 13, 14, 15, 16, 24, 25, 26, 27, 28, 29, 30, 31, 32, 33, 34, 35, 36, 44, 7, 17, 18, 19, 20, 21, 22, 23], []⟩, ⟨7, [1, 2, 3, 5, 6, 8, 9, 10, 11, 12, 13, 14, 15, 16, 17, 18, 19, 20, 21, 22, 23, 24, 25, 26, 27, 28, 29, 30, 31, 32, 33, 34, 35, 36, 44, 37, 38, 39, 40, 41, 42, 43], []⟩], [⟨2, 1, @R_astrolaberef9_Good_0 (@L_astrolaberef9_Good_0)⟩, ⟨7, 1, @R_astrolaberef9_Good_1 (@L_astrolaberef9_Good_1)⟩], [], [], (some ⟨0, [0, 1, 3, 4, 5, 6, 7, 8, 9, 10, 11, 12, 13, 14, 15, 16, 17, 18, 19, 20, 21, 22, 23, 24, 25, 26, 27, 28, 29, 30, 31, 32, 33, 34, 35, 36, 37, 38, 39, 40, 41, 42, 43, 44], []⟩)⟩ (loopIn Try.prog 44 7)) (runC Try.prog (envOf []) ⟨[⟨2, [1, 2, 4, 5, 6, 8, 9, 10, 11, 12, 13, 14, 15, 16, 24, 25, 26, 27, 28, 29, 30, 31, 32, 33, 34, 35, 36, 44, 7, 17, 18, 19, 20, 21, 22, 23], []⟩, ⟨7, [1, 2, 3, 5, 6, 8, 9, 10, 11, 12, 13, 14, 15, 16, 17, 18, 19, 20, 21, 22, 23, 24, 25, 26, 27, 28, 29, 30, 31, 32, 33, 34, 35, 36, 44, 37, 38, 39, 40, 41, 42, 43], []⟩], [⟨2, 1, @R_astrolaberef9_Good_0 (@L_astrolaberef9_Good_0)⟩, ⟨7, 1, @R_astrolaberef9_Good_1 (@L_astrolaberef9_Good_1)⟩], [], [], (some ⟨0, [0, 1, 3, 4, 5, 6, 7, 8, 9, 10, 11, 12, 13, 14, 15, 16, 17, 18, 19, 20, 21, 22, 23, 24, 25, 26, 27, 28, 29, 30, 31, 32, 33, 34, 35, 36, 37, 38, 39, 40, 41, 42, 43, 44], []⟩)⟩ (tmpsOf Try.prog 44) 1 1000 (loopIn Try.prog 44 7)) K 1000
      (St.mk
    [AV.r (RV.c (CV.ptr 0 (Off.k 0) 300)), AV.und, AV.und, AV.und, AV.r (RV.c (CV.f (FV.i IntKind.i64 x0))), AV.und, AV.und, AV.und, AV.und, AV.und, AV.und, AV.und, AV.und, AV.und, AV.und, AV.und,
      AV.und, AV.und, AV.und, AV.und, AV.und, AV.und, AV.und, AV.und, AV.und, AV.und, AV.und, AV.und, AV.und, AV.und, AV.und, AV.und, AV.und, AV.und, AV.und, AV.und, AV.und, AV.und, AV.und, AV.und,
      AV.und, AV.und, AV.und, AV.und, AV.und]
    [some [Sg.a (Sz.l 276) [Col.i IntKind.i64 x1], Sg.a (Sz.l 24) [Col.i IntKind.i64 x2]]] []) = L_astrolaberef9_Good_1 (x0, x1, x2) (Sum.elim (fun d => K (AX.ret) (St.mk
  [AV.und, AV.und, AV.r (RV.c (CV.f (FV.b false))), AV.und, AV.und, AV.und, AV.und, AV.und, AV.und, AV.und, AV.und, AV.und, AV.und, AV.und, AV.und, AV.und, AV.und, AV.und, AV.und, AV.und, AV.und,
    AV.und, AV.und, AV.und, AV.und, AV.und, AV.und, AV.und, AV.und, AV.und, AV.und, AV.und, AV.und, AV.und, AV.und, AV.und, AV.und, AV.und, AV.und, AV.und, AV.und, AV.und, AV.und, AV.und, AV.und]
  [some [Sg.a (Sz.l 276) [Col.i IntKind.i64 d.1], Sg.a (Sz.l 24) [Col.i IntKind.i64 d.2]]] [])) (fun d => K (AX.ex 2) (St.mk
  [AV.r (RV.c (CV.ptr 0 (Off.k 0) 300)), AV.und, AV.und, AV.und, AV.r (RV.c (CV.f (FV.i IntKind.i64 d.1))), AV.und, AV.und, AV.und, AV.und, AV.und, AV.und, AV.und, AV.und, AV.und, AV.und, AV.und,
    AV.und, AV.und, AV.und, AV.und, AV.und, AV.und, AV.und, AV.und, AV.und, AV.r (RV.c (CV.f (FV.i IntKind.i64 d.1))), AV.r (RV.c (CV.f (FV.b d.2.1))), AV.und, AV.und, AV.und, AV.und, AV.und,
    AV.und, AV.und, AV.und, AV.und, AV.und, AV.und, AV.und, AV.und, AV.und, AV.und, AV.und, AV.und, AV.und]
  [some [Sg.a (Sz.l 276) [Col.i IntKind.i64 d.2.2.1], Sg.a (Sz.l 24) [Col.i IntKind.i64 d.2.2.2]]] []))) :=
  iter_loopX (emb := fun (d : Int × (Nat → Int) × (Nat → Int)) => St.mk
  [AV.r (RV.c (CV.ptr 0 (Off.k 0) 300)), AV.und, AV.und, AV.und, AV.r (RV.c (CV.f (FV.i IntKind.i64 d.1))), AV.und, AV.und, AV.und, AV.und, AV.und, AV.und, AV.und, AV.und, AV.und, AV.und, AV.und,
    AV.und, AV.und, AV.und, AV.und, AV.und, AV.und, AV.und, AV.und, AV.und, AV.und, AV.und, AV.und, AV.und, AV.und, AV.und, AV.und, AV.und, AV.und, AV.und, AV.und, AV.und, AV.und, AV.und, AV.und,
    AV.und, AV.und, AV.und, AV.und, AV.und]
  [some [Sg.a (Sz.l 276) [Col.i IntKind.i64 d.2.1], Sg.a (Sz.l 24) [Col.i IntKind.i64 d.2.2]]] []) (step := fun d c x => S_astrolaberef9_Good_1   d.1 d.2.1 d.2.2 c x) (kx := (Sum.elim (fun d => K (AX.ret) (St.mk
  [AV.und, AV.und, AV.r (RV.c (CV.f (FV.b false))), AV.und, AV.und, AV.und, AV.und, AV.und, AV.und, AV.und, AV.und, AV.und, AV.und, AV.und, AV.und, AV.und, AV.und, AV.und, AV.und, AV.und, AV.und,
    AV.und, AV.und, AV.und, AV.und, AV.und, AV.und, AV.und, AV.und, AV.und, AV.und, AV.und, AV.und, AV.und, AV.und, AV.und, AV.und, AV.und, AV.und, AV.und, AV.und, AV.und, AV.und, AV.und, AV.und]
  [some [Sg.a (Sz.l 276) [Col.i IntKind.i64 d.1], Sg.a (Sz.l 24) [Col.i IntKind.i64 d.2]]] [])) (fun d => K (AX.ex 2) (St.mk
  [AV.r (RV.c (CV.ptr 0 (Off.k 0) 300)), AV.und, AV.und, AV.und, AV.r (RV.c (CV.f (FV.i IntKind.i64 d.1))), AV.und, AV.und, AV.und, AV.und, AV.und, AV.und, AV.und, AV.und, AV.und, AV.und, AV.und,
    AV.und, AV.und, AV.und, AV.und, AV.und, AV.und, AV.und, AV.und, AV.und, AV.r (RV.c (CV.f (FV.i IntKind.i64 d.1))), AV.r (RV.c (CV.f (FV.b d.2.1))), AV.und, AV.und, AV.und, AV.und, AV.und,
    AV.und, AV.und, AV.und, AV.und, AV.und, AV.und, AV.und, AV.und, AV.und, AV.und, AV.und, AV.und, AV.und]
  [some [Sg.a (Sz.l 276) [Col.i IntKind.i64 d.2.2.1], Sg.a (Sz.l 24) [Col.i IntKind.i64 d.2.2.2]]] []))))
    (fun d c => ds_astrolaberef9_Good_1  (@L_astrolaberef9_Good_0) (@L_astrolaberef9_Good_1) d.1 d.2.1 d.2.2 c K) 1000 (x0, x1, x2)
theorem so_astrolaberef9_Good_1 : ∀ kk, SumOK Try.prog (envOf []) ⟨[⟨2, [1, 2, 4, 5, 6, 8, 9, 10, 11, 12, 13, 14, 15, 16, 24, 25, 26, 27, 28, 29, 30, 31, 32, 33, 34, 35, 36, 44, 7, 17, 18, 19, 20, 21, 22, 23], []⟩, ⟨7, [1, 2, 3, 5, 6, 8, 9, 10, 11, 12, 13, 14, 15, 16, 17, 18, 19, 20, 21, 22, 23, 24, 25, 26, 27, 28, 29, 30, 31, 32, 33, 34, 35, 36, 44, 37, 38, 39, 40, 41, 42, 43], []⟩], [⟨2, 1, @R_astrolaberef9_Good_0 (@L_astrolaberef9_Good_0)⟩, ⟨7, 1, @R_astrolaberef9_Good_1 (@L_astrolaberef9_Good_1)⟩], [], [], (some ⟨0, [0, 1, 3, 4, 5, 6, 7, 8, 9, 10, 11, 12, 13, 14, 15, 16, 17, 18, 19, 20, 21, 22, 23, 24, 25, 26, 27, 28, 29, 30, 31, 32, 33, 34, 35, 36, 37, 38, 39, 40, 41, 42, 43, 44], []⟩)⟩ (tmpsOf Try.prog 44) kk 1000 (loopIn Try.prog 44 7) :=
  SumOK.of (id := 7) (k0 := 1) (run := @R_astrolaberef9_Good_1 (@L_astrolaberef9_Good_1)) (by kernel_rfl) fun s K r hr => by
    unfold R_astrolaberef9_Good_1 at hr
    obtain ⟨b, hb, hr1⟩ := Option.bind_eq_some_iff.1 hr
    have e := ((Q_astrolaberef9_Good_1).ok s b hb).trans (q_astrolaberef9_Good_1 b)
    subst e
    exact ⟨1000, (it_astrolaberef9_Good_1 b.1.2.2.2.2.1 b.2.1.1.1.2.1 b.2.1.1.2.1.2.1 K).trans hr1⟩
def K_astrolaberef9_Good {ρ : Type}  (l_0 : ∀ {ρ : Type}, (Int × (Nat → Int) × (Nat → Int)) → (((Nat → Int) × (Nat → Int) ⊕ Int × Bool × (Nat → Int) × (Nat → Int)) → Option ρ) → Option ρ) (l_1 : ∀ {ρ : Type}, (Int × (Nat → Int) × (Nat → Int)) → (((Nat → Int) × (Nat → Int) ⊕ Int × Bool × (Nat → Int) × (Nat → Int)) → Option ρ) → Option ρ) (x0 : Nat → Int) (x1 : Nat → Int) (k : (Bool) → Option ρ) : Option ρ :=
  l_0 (0, x0, x1)
    (Sum.elim (fun (d : (Nat → Int) × (Nat → Int)) => k false) fun (d : Int × Bool × (Nat → Int) × (Nat → Int)) =>
      l_1 (0, d.2.2.1, d.2.2.2) (Sum.elim (fun (d : (Nat → Int) × (Nat → Int)) => k false) fun (d : Int × Bool × (Nat → Int) × (Nat → Int)) => k true))
def f_astrolaberef9_Good (x0 : Nat → Int) (x1 : Nat → Int) : Option (Bool) := K_astrolaberef9_Good  (@L_astrolaberef9_Good_0) (@L_astrolaberef9_Good_1) x0 x1 some
section
open Go.Ab.Rdr
def QA_astrolaberef9_Good := ((pair (cons (ar (rc (cptr (nat 0) (ok' (nat 0)) (nat 300)))) nil) (cons (cons (ga (szl (nat 276)) (cons (ki .i64 hole) nil)) (cons (ga (szl (nat 24)) (cons (ki .i64 hole) nil)) nil)) nil)) : Rdr (List AV × List Blk) _)
end
def F_astrolaberef9_Good (f : (Nat → Int) → (Nat → Int) → Option (Bool)) : Sem1 := fun args h => match (QA_astrolaberef9_Good).rd (args, h) with
  | some b => .opt (f b.2.1.1.2.1 b.2.1.2.1.2.1) fun (d : Bool) => .leaf (Res.mk (AV.r (RV.c (CV.f (FV.b d)))) [Ch.keep] [])
  | none => .fail
theorem d_astrolaberef9_Good  (l_0 : ∀ {ρ : Type}, (Int × (Nat → Int) × (Nat → Int)) → (((Nat → Int) × (Nat → Int) ⊕ Int × Bool × (Nat → Int) × (Nat → Int)) → Option ρ) → Option ρ) (l_1 : ∀ {ρ : Type}, (Int × (Nat → Int) × (Nat → Int)) → (((Nat → Int) × (Nat → Int) ⊕ Int × Bool × (Nat → Int) × (Nat → Int)) → Option ρ) → Option ρ) (x0 : Nat → Int) (x1 : Nat → Int) : den Try.prog (envOf []) ⟨[⟨2, [1, 2, 4, 5, 6, 8, 9, 10, 11, 12, 13, 14, 15, 16, 24, 25, 26, 27, 28, 29, 30, 31, 32, 33, 34, 35, 36, 44, 7, 17, 18, 19, 20, 21, 22, 23], []⟩, ⟨7, [1, 2, 3, 5, 6, 8, 9, 10, 11, 12, 13, 14, 15, 16, 17, 18, 19, 20, 21, 22, 23, 24, 25, 26, 27, 28, 29, 30, 31, 32, 33, 34, 35, 36, 44, 37, 38, 39, 40, 41, 42, 43], []⟩], [⟨2, 1, @R_astrolaberef9_Good_0 (@l_0)⟩, ⟨7, 1, @R_astrolaberef9_Good_1 (@l_1)⟩], [], [], (some ⟨0, [0, 1, 3, 4, 5, 6, 7, 8, 9, 10, 11, 12, 13, 14, 15, 16, 17, 18, 19, 20, 21, 22, 23, 24, 25, 26, 27, 28, 29, 30, 31, 32, 33, 34, 35, 36, 37, 38, 39, 40, 41, 42, 43, 44], []⟩)⟩ 1000 44 [.r (.c (.ptr 0 (.k 0) 300))] [[.a (.l 276) [.i .i64 x0], .a (.l 24) [.i .i64 x1]]] =
    K_astrolaberef9_Good  (@l_0) (@l_1) x0 x1 (fun (d : Bool) => some (Res.mk (AV.r (RV.c (CV.f (FV.b d)))) [Ch.keep] [])) := by kernel_rfl
theorem m_astrolaberef9_Good {ρ σ : Type} (q : ρ → Option σ)  (l_0 : ∀ {ρ : Type}, (Int × (Nat → Int) × (Nat → Int)) → (((Nat → Int) × (Nat → Int) ⊕ Int × Bool × (Nat → Int) × (Nat → Int)) → Option ρ) → Option ρ) (l_1 : ∀ {ρ : Type}, (Int × (Nat → Int) × (Nat → Int)) → (((Nat → Int) × (Nat → Int) ⊕ Int × Bool × (Nat → Int) × (Nat → Int)) → Option ρ) → Option ρ) (hl_0 : ∀ {ρ σ : Type} (q : ρ → Option σ) (d : Int × (Nat → Int) × (Nat → Int)) (k : ((Nat → Int) × (Nat → Int) ⊕ Int × Bool × (Nat → Int) × (Nat → Int)) → Option ρ), (l_0 d k).bind q = l_0 d fun x => (k x).bind q) (hl_1 : ∀ {ρ σ : Type} (q : ρ → Option σ) (d : Int × (Nat → Int) × (Nat → Int)) (k : ((Nat → Int) × (Nat → Int) ⊕ Int × Bool × (Nat → Int) × (Nat → Int)) → Option ρ), (l_1 d k).bind q = l_1 d fun x => (k x).bind q) (x0 : Nat → Int) (x1 : Nat → Int) (k : (Bool) → Option ρ) : (K_astrolaberef9_Good  (@l_0) (@l_1) x0 x1 k).bind q = K_astrolaberef9_Good  (@l_0) (@l_1) x0 x1 (fun d => (k d).bind q) := by
  simp only [K_astrolaberef9_Good, bnd_cond, bnd_bind, bnd_none, bnd_sum, hl_0, hl_1]
theorem qa_astrolaberef9_Good : ∀ b, (QA_astrolaberef9_Good).em b = ([.r (.c (.ptr 0 (.k 0) 300))], [[.a (.l 276) [.i .i64 b.2.1.1.2.1], .a (.l 24) [.i .i64 b.2.1.2.1.2.1]]]) := fun b => by kernel_rfl
theorem e_astrolaberef9_Good {f : (Nat → Int) → (Nat → Int) → Option (Bool)} {args : List AV} {h : List Blk} {r : Res} (hr : (F_astrolaberef9_Good f args h).eval = some r) : ∃ x0 x1, args = [.r (.c (.ptr 0 (.k 0) 300))] ∧ h = [[.a (.l 276) [.i .i64 x0], .a (.l 24) [.i .i64 x1]]] ∧ (f x0 x1).bind (fun (d : Bool) => some (Res.mk (AV.r (RV.c (CV.f (FV.b d)))) [Ch.keep] [])) = some r := by
  unfold F_astrolaberef9_Good at hr
  split at hr
  · rename_i b hb
    have e := ((QA_astrolaberef9_Good).ok _ _ hb).trans (qa_astrolaberef9_Good b)
    rw [opt_eval2] at hr
    exact ⟨b.2.1.1.2.1, b.2.1.2.1.2.1, (Prod.mk.inj e).1, (Prod.mk.inj e).2, hr⟩
  · cases hr
theorem n_astrolaberef9_Good {σ : Type} (q : (Bool) → Option σ) (x0 : Nat → Int) (x1 : Nat → Int) : (f_astrolaberef9_Good x0 x1).bind q = K_astrolaberef9_Good  (@L_astrolaberef9_Good_0) (@L_astrolaberef9_Good_1) x0 x1 q := by
  unfold f_astrolaberef9_Good
  exact m_astrolaberef9_Good q  (@L_astrolaberef9_Good_0) (@L_astrolaberef9_Good_1) (fun q d k => mL_astrolaberef9_Good_0 q d k) (fun q d k => mL_astrolaberef9_Good_1 q d k) x0 x1 some
theorem s_astrolaberef9_Good : Sound Try.prog 44 (F_astrolaberef9_Good f_astrolaberef9_Good) :=
  (inl_sums (l := []) (.nil _) mixed (hs := ⟨[⟨2, [1, 2, 4, 5, 6, 8, 9, 10, 11, 12, 13, 14, 15, 16, 24, 25, 26, 27, 28, 29, 30, 31, 32, 33, 34, 35, 36, 44, 7, 17, 18, 19, 20, 21, 22, 23], []⟩, ⟨7, [1, 2, 3, 5, 6, 8, 9, 10, 11, 12, 13, 14, 15, 16, 17, 18, 19, 20, 21, 22, 23, 24, 25, 26, 27, 28, 29, 30, 31, 32, 33, 34, 35, 36, 44, 37, 38, 39, 40, 41, 42, 43], []⟩], [⟨2, 1, @R_astrolaberef9_Good_0 (@L_astrolaberef9_Good_0)⟩, ⟨7, 1, @R_astrolaberef9_Good_1 (@L_astrolaberef9_Good_1)⟩], [], [], (some ⟨0, [0, 1, 3, 4, 5, 6, 7, 8, 9, 10, 11, 12, 13, 14, 15, 16, 17, 18, 19, 20, 21, 22, 23, 24, 25, 26, 27, 28, 29, 30, 31, 32, 33, 34, 35, 36, 37, 38, 39, 40, 41, 42, 43, 44], []⟩)⟩) (lf := 1000) (Sums.by (l := [loopIn Try.prog 44 2, loopIn Try.prog 44 7]) (lj := []) (by kernel_rfl) ⟨so_astrolaberef9_Good_0, ⟨so_astrolaberef9_Good_1, trivial⟩⟩ (by kernel_rfl) trivial) (by kernel_rfl)).by (F := F_astrolaberef9_Good f_astrolaberef9_Good) fun args b r hr => by
  obtain ⟨x0, x1, rfl, rfl, hr1⟩ := e_astrolaberef9_Good hr
  exact inl_eval ((d_astrolaberef9_Good  (@L_astrolaberef9_Good_0) (@L_astrolaberef9_Good_1) x0 x1).trans ((n_astrolaberef9_Good (fun (d : Bool) => some (Res.mk (AV.r (RV.c (CV.f (FV.b d)))) [Ch.keep] [])) x0 x1).symm.trans hr1))

def S_astrolaberef9_At_0 {ρ : Type} (g_astrolaberef9_U : Int → Int → (Nat → Int) → (Nat → Int) → Option Int) (g___astrolaberef2_Acc__M : Int → Int → Bool → Option (Int × Bool)) (g___astrolaberef2_Acc__Dot : Int → Nat → Nat → Bool → (Nat → Int) → (Nat → Int) → Bool → Bool → Option (Int × Bool))  (x0 : Int) (x1 : Int) (x2 : Int) (x3 : Nat) (x4 : Nat) (x5 : Bool) (x6 : Nat → Int) (x7 : Nat → Int) (x8 : Nat) (x9 : Nat → Int) (x10 : Nat) (x11 : Nat → Int) (c : (Int × Int × Int × Nat × Nat × Bool × (Nat → Int) × (Nat → Int) × Nat × (Nat → Int) × Nat × (Nat → Int)) → Option ρ) (x : (Int × Int × Int × Nat × Nat × Bool × Bool × (Nat → Int) × (Nat → Int) × Nat × (Nat → Int) × Nat × (Nat → Int)) → Option ρ) : Option ρ :=
  bif decide (x2 < 24) then
    Option.bind (g_astrolaberef9_U x0 x2 x6 x7) fun (d : Int) =>
      bif Nat.ble ((x3 + 1) * 8) 140737488355328 then
        Option.bind (g_astrolaberef9_U x1 x2 x6 x7) fun (d_1 : Int) =>
          bif inR x2 24 then
            Option.bind (g___astrolaberef2_Acc__M d_1 (x7 (Int.toNat x2)) x5) fun (d_2 : Int × Bool) =>
              bif Nat.ble ((x4 + 1) * 8) 140737488355328 then
                c
                  (x0, x1, IntKind.wrap IntKind.i64 (x2 + 1), x3 + 1, x4 + 1, d_2.2, x6, x7, x3 + 1, fun (j : Nat) => bif Nat.beq j x3 then d else x9 j, x4 + 1, fun (j : Nat) =>
                    bif Nat.beq j x4 then d_2.1 else x11 j)
              else none
          else none
      else none
  else x (x0, x1, x2, x3, x4, decide (x2 < 24), x5, x6, x7, x8, x9, x10, x11)
section
open Go.Ab.Rdr
def Q_astrolaberef9_At_0 := (st (cons (ar (rc (cptr (nat 0) (ok' (nat 0)) (nat 1)))) (cons (ar (rc (cptr (nat 1) (ok' (nat 0)) (nat 300)))) (cons (ar (rc (cf (fi .i64 hole)))) (cons (ar (rc (cf (fi .i64 hole)))) (cons aund (cons aund (cons aund (cons aund (cons aund (cons (ar (rc (cf (fi .i64 hole)))) (cons (ar (rc (csl (nat 2) (ok' (nat 0)) (szs hole) (nat 1) (bool true)))) (cons (ar (rc (csl (nat 3) (ok' (nat 0)) (szs hole) (nat 1) (bool true)))) (cons aund (cons aund (cons aund (cons aund (cons aund (cons aund (cons aund (cons aund (cons aund (cons aund (cons aund (cons aund (cons aund (cons aund (cons aund (cons aund (cons aund (cons aund (cons aund (cons aund (cons aund (cons aund (cons aund (cons aund (cons aund (cons aund (cons aund (cons aund (cons aund (cons aund (cons aund (cons aund (cons aund (cons aund (cons aund (cons aund (cons aund (cons aund (cons aund (cons aund (cons aund (cons aund (cons aund (cons aund (cons aund (cons aund (cons aund (cons aund (cons aund (cons aund (cons aund (cons aund (cons aund nil))))))))))))))))))))))))))))))))))))))))))))))))))))))))))))))))) (cons (some' (cons (gc (cf (fb hole))) nil)) (cons (some' (cons (ga (szl (nat 276)) (cons (ki .i64 hole) nil)) (cons (ga (szl (nat 24)) (cons (ki .i64 hole) nil)) nil))) (cons (some' (cons (ga (szs hole) (cons (ki .i64 hole) nil)) nil)) (cons (some' (cons (ga (szs hole) (cons (ki .i64 hole) nil)) nil)) nil)))) (cons (nat 0) nil))
end
theorem q_astrolaberef9_At_0 : ∀ b, (Q_astrolaberef9_At_0).em b = St.mk
    [AV.r (RV.c (CV.ptr 0 (Off.k 0) 1)), AV.r (RV.c (CV.ptr 1 (Off.k 0) 300)), AV.r (RV.c (CV.f (FV.i IntKind.i64 b.1.2.2.1))), AV.r (RV.c (CV.f (FV.i IntKind.i64 b.1.2.2.2.1))), AV.und, AV.und, AV.und, AV.und, AV.und,
      AV.r (RV.c (CV.f (FV.i IntKind.i64 b.1.2.2.2.2.2.2.2.2.2.1))), AV.r (RV.c (CV.sl 2 (Off.k 0) (Sz.s b.1.2.2.2.2.2.2.2.2.2.2.1.2.2.1) 1 true)), AV.r (RV.c (CV.sl 3 (Off.k 0) (Sz.s b.1.2.2.2.2.2.2.2.2.2.2.2.1.2.2.1) 1 true)), AV.und, AV.und, AV.und, AV.und, AV.und, AV.und,
      AV.und, AV.und, AV.und, AV.und, AV.und, AV.und, AV.und, AV.und, AV.und, AV.und, AV.und, AV.und, AV.und, AV.und, AV.und, AV.und, AV.und, AV.und, AV.und, AV.und, AV.und, AV.und, AV.und, AV.und,
      AV.und, AV.und, AV.und, AV.und, AV.und, AV.und, AV.und, AV.und, AV.und, AV.und, AV.und, AV.und, AV.und, AV.und, AV.und, AV.und, AV.und, AV.und, AV.und, AV.und, AV.und, AV.und, AV.und]
    [some [Sg.c (CV.f (FV.b b.2.1.1.1))], some [Sg.a (Sz.l 276) [Col.i IntKind.i64 b.2.1.2.1.1.2.1], Sg.a (Sz.l 24) [Col.i IntKind.i64 b.2.1.2.1.2.1.2.1]], some [Sg.a (Sz.s b.2.1.2.2.1.1.1) [Col.i IntKind.i64 b.2.1.2.2.1.1.2.1]],
      some [Sg.a (Sz.s b.2.1.2.2.2.1.1.1) [Col.i IntKind.i64 b.2.1.2.2.2.1.1.2.1]]]
    [0] := fun b => by kernel_rfl
def R_astrolaberef9_At_0 (l : ∀ {ρ : Type}, (Int × Int × Int × Nat × Nat × Bool × (Nat → Int) × (Nat → Int) × Nat × (Nat → Int) × Nat × (Nat → Int)) → ((Int × Int × Int × Nat × Nat × Bool × Bool × (Nat → Int) × (Nat → Int) × Nat × (Nat → Int) × Nat × (Nat → Int)) → Option ρ) → Option ρ) {ρ : Type} (s : St) (K : AX → St → Option ρ) : Option ρ := ((Q_astrolaberef9_At_0).rd s).bind fun b => l (b.1.2.2.1, b.1.2.2.2.1, b.1.2.2.2.2.2.2.2.2.2.1, b.1.2.2.2.2.2.2.2.2.2.2.1.2.2.1, b.1.2.2.2.2.2.2.2.2.2.2.2.1.2.2.1, b.2.1.1.1, b.2.1.2.1.1.2.1, b.2.1.2.1.2.1.2.1, b.2.1.2.2.1.1.1, b.2.1.2.2.1.1.2.1, b.2.1.2.2.2.1.1.1, b.2.1.2.2.2.1.1.2.1) (fun d => K (AX.ex 0) (St.mk
  [AV.r (RV.c (CV.ptr 0 (Off.k 0) 1)), AV.r (RV.c (CV.ptr 1 (Off.k 0) 300)), AV.r (RV.c (CV.f (FV.i IntKind.i64 d.1))), AV.r (RV.c (CV.f (FV.i IntKind.i64 d.2.1))), AV.und, AV.und, AV.und,
    AV.und, AV.und, AV.r (RV.c (CV.f (FV.i IntKind.i64 d.2.2.1))), AV.r (RV.c (CV.sl 2 (Off.k 0) (Sz.s d.2.2.2.1) 1 true)),
    AV.r (RV.c (CV.sl 3 (Off.k 0) (Sz.s d.2.2.2.2.1) 1 true)), AV.und, AV.und, AV.und, AV.und, AV.und, AV.und, AV.und, AV.und, AV.und, AV.und, AV.und, AV.und, AV.und, AV.und, AV.und, AV.und,
    AV.und, AV.und, AV.und, AV.r (RV.c (CV.f (FV.i IntKind.i64 d.2.2.1))), AV.r (RV.c (CV.f (FV.b d.2.2.2.2.2.1))), AV.und, AV.und, AV.und, AV.und, AV.und, AV.und, AV.und, AV.und,
    AV.und, AV.und, AV.und, AV.und, AV.und, AV.und, AV.und, AV.und, AV.und, AV.und, AV.und, AV.und, AV.und, AV.und, AV.und, AV.und, AV.und, AV.und, AV.und, AV.und, AV.und, AV.und, AV.und, AV.und]
  [some [Sg.c (CV.f (FV.b d.2.2.2.2.2.2.1))],
    some [Sg.a (Sz.l 276) [Col.i IntKind.i64 d.2.2.2.2.2.2.2.1], Sg.a (Sz.l 24) [Col.i IntKind.i64 d.2.2.2.2.2.2.2.2.1]],
    some [Sg.a (Sz.s d.2.2.2.2.2.2.2.2.2.1) [Col.i IntKind.i64 d.2.2.2.2.2.2.2.2.2.2.1]],
    some [Sg.a (Sz.s d.2.2.2.2.2.2.2.2.2.2.2.1) [Col.i IntKind.i64 d.2.2.2.2.2.2.2.2.2.2.2.2]]]
  [0]))
theorem ms_astrolaberef9_At_0 {ρ σ : Type} (g_astrolaberef9_U : Int → Int → (Nat → Int) → (Nat → Int) → Option Int) (g___astrolaberef2_Acc__M : Int → Int → Bool → Option (Int × Bool)) (g___astrolaberef2_Acc__Dot : Int → Nat → Nat → Bool → (Nat → Int) → (Nat → Int) → Bool → Bool → Option (Int × Bool))   (q : ρ → Option σ) (x0 : Int) (x1 : Int) (x2 : Int) (x3 : Nat) (x4 : Nat) (x5 : Bool) (x6 : Nat → Int) (x7 : Nat → Int) (x8 : Nat) (x9 : Nat → Int) (x10 : Nat) (x11 : Nat → Int) (c : (Int × Int × Int × Nat × Nat × Bool × (Nat → Int) × (Nat → Int) × Nat × (Nat → Int) × Nat × (Nat → Int)) → Option ρ) (x : (Int × Int × Int × Nat × Nat × Bool × Bool × (Nat → Int) × (Nat → Int) × Nat × (Nat → Int) × Nat × (Nat → Int)) → Option ρ) : (S_astrolaberef9_At_0 g_astrolaberef9_U g___astrolaberef2_Acc__M g___astrolaberef2_Acc__Dot  x0 x1 x2 x3 x4 x5 x6 x7 x8 x9 x10 x11 c x).bind q = S_astrolaberef9_At_0 g_astrolaberef9_U g___astrolaberef2_Acc__M g___astrolaberef2_Acc__Dot  x0 x1 x2 x3 x4 x5 x6 x7 x8 x9 x10 x11 (fun d => (c d).bind q) (fun d => (x d).bind q) := by
  simp only [S_astrolaberef9_At_0, bnd_cond, bnd_bind, bnd_none, bnd_sum]
def L_astrolaberef9_At_0 {ρ : Type} (d : Int × Int × Int × Nat × Nat × Bool × (Nat → Int) × (Nat → Int) × Nat × (Nat → Int) × Nat × (Nat → Int)) (k : (Int × Int × Int × Nat × Nat × Bool × Bool × (Nat → Int) × (Nat → Int) × Nat × (Nat → Int) × Nat × (Nat → Int)) → Option ρ) : Option ρ := loopK (fun d c x => S_astrolaberef9_At_0 f_astrolaberef9_U f___astrolaberef2_Acc__M f___astrolaberef2_Acc__Dot  d.1 d.2.1 d.2.2.1 d.2.2.2.1 d.2.2.2.2.1 d.2.2.2.2.2.1 d.2.2.2.2.2.2.1 d.2.2.2.2.2.2.2.1 d.2.2.2.2.2.2.2.2.1 d.2.2.2.2.2.2.2.2.2.1 d.2.2.2.2.2.2.2.2.2.2.1 d.2.2.2.2.2.2.2.2.2.2.2 c x) 1000 d k
theorem mL_astrolaberef9_At_0 {ρ σ : Type} (q : ρ → Option σ) (d : Int × Int × Int × Nat × Nat × Bool × (Nat → Int) × (Nat → Int) × Nat × (Nat → Int) × Nat × (Nat → Int)) (k : (Int × Int × Int × Nat × Nat × Bool × Bool × (Nat → Int) × (Nat → Int) × Nat × (Nat → Int) × Nat × (Nat → Int)) → Option ρ) : (L_astrolaberef9_At_0 d k).bind q = L_astrolaberef9_At_0 d fun x => (k x).bind q :=
  loopK_bind q (fun d c x => ms_astrolaberef9_At_0 f_astrolaberef9_U f___astrolaberef2_Acc__M f___astrolaberef2_Acc__Dot   q d.1 d.2.1 d.2.2.1 d.2.2.2.1 d.2.2.2.2.1 d.2.2.2.2.2.1 d.2.2.2.2.2.2.1 d.2.2.2.2.2.2.2.1 d.2.2.2.2.2.2.2.2.1 d.2.2.2.2.2.2.2.2.2.1 d.2.2.2.2.2.2.2.2.2.2.1 d.2.2.2.2.2.2.2.2.2.2.2 c x) k _ d
theorem ds_astrolaberef9_At_0 {ρ : Type} (g_astrolaberef9_U : Int → Int → (Nat → Int) → (Nat → Int) → Option Int) (g___astrolaberef2_Acc__M : Int → Int → Bool → Option (Int × Bool)) (g___astrolaberef2_Acc__Dot : Int → Nat → Nat → Bool → (Nat → Int) → (Nat → Int) → Bool → Bool → Option (Int × Bool)) (l_0 : ∀ {ρ : Type}, (Int × Int × Int × Nat × Nat × Bool × (Nat → Int) × (Nat → Int) × Nat × (Nat → Int) × Nat × (Nat → Int)) → ((Int × Int × Int × Nat × Nat × Bool × Bool × (Nat → Int) × (Nat → Int) × Nat × (Nat → Int) × Nat × (Nat → Int)) → Option ρ) → Option ρ) (x0 : Int) (x1 : Int) (x2 : Int) (x3 : Nat) (x4 : Nat) (x5 : Bool) (x6 : Nat → Int) (x7 : Nat → Int) (x8 : Nat) (x9 : Nat → Int) (x10 : Nat) (x11 : Nat → Int) (c : St → Option ρ) (K : AX → St → Option ρ) :
    runC Try.prog (envOf [(45, F_astrolaberef9_U g_astrolaberef9_U), (62, F___astrolaberef2_Acc__M g___astrolaberef2_Acc__M), (63, F___astrolaberef2_Acc__Dot g___astrolaberef2_Acc__Dot)]) ⟨[⟨8, [4, 5, 6, 7, 8, 12, 13, 14, 15, 16, 17, 18, 19, 20, 21, 22, 23, 24, 25, 26, 27, 28, 29, 30, 31, 32, 33, 34, 35, 36, 37, 38, 39, 40, 41, 42, 43, 44, 45, 46, 47, 48, 49, 50, 51, 52, 53, 54, 55, 56, 57, 58, 59, 60, 61, 62, 63, 64], [(10, [.i .i64]), (11, [.i .i64])]⟩], [⟨8, 2, @R_astrolaberef9_At_0 (@l_0)⟩], [0], [], (some ⟨0, [0, 1, 2, 3, 4, 5, 6, 7, 9, 10, 11, 12, 13, 14, 15, 16, 17, 18, 19, 20, 21, 22, 23, 24, 25, 26, 27, 28, 29, 30, 31, 32, 33, 34, 35, 36, 37, 38, 39, 40, 41, 42, 43, 44, 45, 46, 47, 48, 49, 50, 51, 52, 53, 54, 55, 56, 57, 58, 59, 60, 61, 62, 63, 64], []⟩)⟩ (tmpsOf Try.prog 47) 2 1000 (loopIn Try.prog 47 8)
      (St.mk
    [AV.r (RV.c (CV.ptr 0 (Off.k 0) 1)), AV.r (RV.c (CV.ptr 1 (Off.k 0) 300)), AV.r (RV.c (CV.f (FV.i IntKind.i64 x0))), AV.r (RV.c (CV.f (FV.i IntKind.i64 x1))), AV.und, AV.und, AV.und, AV.und, AV.und,
      AV.r (RV.c (CV.f (FV.i IntKind.i64 x2))), AV.r (RV.c (CV.sl 2 (Off.k 0) (Sz.s x3) 1 true)), AV.r (RV.c (CV.sl 3 (Off.k 0) (Sz.s x4) 1 true)), AV.und, AV.und, AV.und, AV.und, AV.und, AV.und,
      AV.und, AV.und, AV.und, AV.und, AV.und, AV.und, AV.und, AV.und, AV.und, AV.und, AV.und, AV.und, AV.und, AV.und, AV.und, AV.und, AV.und, AV.und, AV.und, AV.und, AV.und, AV.und, AV.und, AV.und,
      AV.und, AV.und, AV.und, AV.und, AV.und, AV.und, AV.und, AV.und, AV.und, AV.und, AV.und, AV.und, AV.und, AV.und, AV.und, AV.und, AV.und, AV.und, AV.und, AV.und, AV.und, AV.und, AV.und]
    [some [Sg.c (CV.f (FV.b x5))], some [Sg.a (Sz.l 276) [Col.i IntKind.i64 x6], Sg.a (Sz.l 24) [Col.i IntKind.i64 x7]], some [Sg.a (Sz.s x8) [Col.i IntKind.i64 x9]],
      some [Sg.a (Sz.s x10) [Col.i IntKind.i64 x11]]]
    [0])
      (next (fun t => t.head 2 ⟨[⟨8, [4, 5, 6, 7, 8, 12, 13, 14, 15, 16, 17, 18, 19, 20, 21, 22, 23, 24, 25, 26, 27, 28, 29, 30, 31, 32, 33, 34, 35, 36, 37, 38, 39, 40, 41, 42, 43, 44, 45, 46, 47, 48, 49, 50, 51, 52, 53, 54, 55, 56, 57, 58, 59, 60, 61, 62, 63, 64], [(10, [.i .i64]), (11, [.i .i64])]⟩], [⟨8, 2, @R_astrolaberef9_At_0 (@l_0)⟩], [0], [], (some ⟨0, [0, 1, 2, 3, 4, 5, 6, 7, 9, 10, 11, 12, 13, 14, 15, 16, 17, 18, 19, 20, 21, 22, 23, 24, 25, 26, 27, 28, 29, 30, 31, 32, 33, 34, 35, 36, 37, 38, 39, 40, 41, 42, 43, 44, 45, 46, 47, 48, 49, 50, 51, 52, 53, 54, 55, 56, 57, 58, 59, 60, 61, 62, 63, 64], []⟩)⟩ (loopIn Try.prog 47 8)) c K) =
    S_astrolaberef9_At_0 g_astrolaberef9_U g___astrolaberef2_Acc__M g___astrolaberef2_Acc__Dot  x0 x1 x2 x3 x4 x5 x6 x7 x8 x9 x10 x11 (fun d => c (St.mk
  [AV.r (RV.c (CV.ptr 0 (Off.k 0) 1)), AV.r (RV.c (CV.ptr 1 (Off.k 0) 300)), AV.r (RV.c (CV.f (FV.i IntKind.i64 d.1))), AV.r (RV.c (CV.f (FV.i IntKind.i64 d.2.1))), AV.und, AV.und, AV.und,
    AV.und, AV.und, AV.r (RV.c (CV.f (FV.i IntKind.i64 d.2.2.1))), AV.r (RV.c (CV.sl 2 (Off.k 0) (Sz.s d.2.2.2.1) 1 true)),
    AV.r (RV.c (CV.sl 3 (Off.k 0) (Sz.s d.2.2.2.2.1) 1 true)), AV.und, AV.und, AV.und, AV.und, AV.und, AV.und, AV.und, AV.und, AV.und, AV.und, AV.und, AV.und, AV.und, AV.und, AV.und, AV.und,
    AV.und, AV.und, AV.und, AV.und, AV.und, AV.und, AV.und, AV.und, AV.und, AV.und, AV.und, AV.und, AV.und, AV.und, AV.und, AV.und, AV.und, AV.und, AV.und, AV.und, AV.und, AV.und, AV.und, AV.und,
    AV.und, AV.und, AV.und, AV.und, AV.und, AV.und, AV.und, AV.und, AV.und, AV.und, AV.und, AV.und, AV.und]
  [some [Sg.c (CV.f (FV.b d.2.2.2.2.2.1))], some [Sg.a (Sz.l 276) [Col.i IntKind.i64 d.2.2.2.2.2.2.1], Sg.a (Sz.l 24) [Col.i IntKind.i64 d.2.2.2.2.2.2.2.1]],
    some [Sg.a (Sz.s d.2.2.2.2.2.2.2.2.1) [Col.i IntKind.i64 d.2.2.2.2.2.2.2.2.2.1]],
    some [Sg.a (Sz.s d.2.2.2.2.2.2.2.2.2.2.1) [Col.i IntKind.i64 d.2.2.2.2.2.2.2.2.2.2.2]]]
  [0])) (fun d => K (AX.ex 0) (St.mk
  [AV.r (RV.c (CV.ptr 0 (Off.k 0) 1)), AV.r (RV.c (CV.ptr 1 (Off.k 0) 300)), AV.r (RV.c (CV.f (FV.i IntKind.i64 d.1))), AV.r (RV.c (CV.f (FV.i IntKind.i64 d.2.1))), AV.und, AV.und, AV.und,
    AV.und, AV.und, AV.r (RV.c (CV.f (FV.i IntKind.i64 d.2.2.1))), AV.r (RV.c (CV.sl 2 (Off.k 0) (Sz.s d.2.2.2.1) 1 true)),
    AV.r (RV.c (CV.sl 3 (Off.k 0) (Sz.s d.2.2.2.2.1) 1 true)), AV.und, AV.und, AV.und, AV.und, AV.und, AV.und, AV.und, AV.und, AV.und, AV.und, AV.und, AV.und, AV.und, AV.und, AV.und, AV.und,
    AV.und, AV.und, AV.und, AV.r (RV.c (CV.f (FV.i IntKind.i64 d.2.2.1))), AV.r (RV.c (CV.f (FV.b d.2.2.2.2.2.1))), AV.und, AV.und, AV.und, AV.und, AV.und, AV.und, AV.und, AV.und,
    AV.und, AV.und, AV.und, AV.und, AV.und, AV.und, AV.und, AV.und, AV.und, AV.und, AV.und, AV.und, AV.und, AV.und, AV.und, AV.und, AV.und, AV.und, AV.und, AV.und, AV.und, AV.und, AV.und, AV.und]
  [some [Sg.c (CV.f (FV.b d.2.2.2.2.2.2.1))],
    some [Sg.a (Sz.l 276) [Col.i IntKind.i64 d.2.2.2.2.2.2.2.1], Sg.a (Sz.l 24) [Col.i IntKind.i64 d.2.2.2.2.2.2.2.2.1]],
    some [Sg.a (Sz.s d.2.2.2.2.2.2.2.2.2.1) [Col.i IntKind.i64 d.2.2.2.2.2.2.2.2.2.2.1]],
    some [Sg.a (Sz.s d.2.2.2.2.2.2.2.2.2.2.2.1) [Col.i IntKind.i64 d.2.2.2.2.2.2.2.2.2.2.2.2]]]
  [0])) := by kernel_rfl
theorem it_astrolaberef9_At_0 {ρ : Type} (x0 : Int) (x1 : Int) (x2 : Int) (x3 : Nat) (x4 : Nat) (x5 : Bool) (x6 : Nat → Int) (x7 : Nat → Int) (x8 : Nat) (x9 : Nat → Int) (x10 : Nat) (x11 : Nat → Int) (K : AX → St → Option ρ) :
    iter (fun t => t.head 2 ⟨[⟨8, [4, 5, 6, 7, 8, 12, 13, 14, 15, 16, 17, 18, 19, 20, 21, 22, 23, 24, 25, 26, 27, 28, 29, 30, 31, 32, 33, 34, 35, 36, 37, 38, 39, 40, 41, 42, 43, 44, 45, 46, 47, 48, 49, 50, 51, 52, 53, 54, 55, 56, 57, 58, 59, 60, 61, 62, 63, 64], [(10, [.i .i64]), (11, [.i .i64])]⟩], [⟨8, 2, @R_astrolaberef9_At_0 (@L_astrolaberef9_At_0)⟩], [0], [], (some ⟨0, [0, 1, 2, 3, 4, 5, 6, 7, 9, 10, 11, 12, 13, 14, 15, 16, 17, 18, 19, 20, 21, 22, 23, 24, 25, 26, 27, 28, 29, 30, 31, 32, 33, 34, 35, 36, 37, 38, 39, 40, 41, 42, 43, 44, 45, 46, 47, 48, 49, 50, 51, 52, 53, 54, 55, 56, 57, 58, 59, 60, 61, 62, 63, 64], []⟩)⟩ (loopIn Try.prog 47 8)) (runC Try.prog (envOf [(45, F_astrolaberef9_U f_astrolaberef9_U), (62, F___astrolaberef2_Acc__M f___astrolaberef2_Acc__M), (63, F___astrolaberef2_Acc__Dot f___astrolaberef2_Acc__Dot)]) ⟨[⟨8, [4, 5, 6, 7, 8, 12, 13, 14, 15, 16, 17, 18, 19, 20, 21, 22, 23, 24, 25, 26, 27, 28, 29, 30, 31, 32, 33, 34, 35, 36, 37, 38, 39, 40, 41, 42, 43, 44, 45, 46, 47, 48, 49, 50, 51, 52, 53, 54, 55, 56, 57, 58, 59, 60, 61, 62, 63, 64], [(10, [.i .i64]), (11, [.i .i64])]⟩], [⟨8, 2, @R_astrolaberef9_At_0 (@L_astrolaberef9_At_0)⟩], [0], [], (some ⟨0, [0, 1, 2, 3, 4, 5, 6, 7, 9, 10, 11, 12, 13, 14, 15, 16, 17, 18, 19, 20, 21, 22, 23, 24, 25, 26, 27, 28, 29, 30, 31, 32, 33, 34, 35, 36, 37, 38, 39, 40, 41, 42, 43, 44, 45, 46, 47, 48, 49, 50, 51, 52, 53, 54, 55, 56, 57, 58, 59, 60, 61, 62, 63, 64], []⟩)⟩ (tmpsOf Try.prog 47) 2 1000 (loopIn Try.prog 47 8)) K 1000
      (St.mk
    [AV.r (RV.c (CV.ptr 0 (Off.k 0) 1)), AV.r (RV.c (CV.ptr 1 (Off.k 0) 300)), AV.r (RV.c (CV.f (FV.i IntKind.i64 x0))), AV.r (RV.c (CV.f (FV.i IntKind.i64 x1))), AV.und, AV.und, AV.und, AV.und, AV.und,
      AV.r (RV.c (CV.f (FV.i IntKind.i64 x2))), AV.r (RV.c (CV.sl 2 (Off.k 0) (Sz.s x3) 1 true)), AV.r (RV.c (CV.sl 3 (Off.k 0) (Sz.s x4) 1 true)), AV.und, AV.und, AV.und, AV.und, AV.und, AV.und,
      AV.und, AV.und, AV.und, AV.und, AV.und, AV.und, AV.und, AV.und, AV.und, AV.und, AV.und, AV.und, AV.und, AV.und, AV.und, AV.und, AV.und, AV.und, AV.und, AV.und, AV.und, AV.und, AV.und, AV.und,
      AV.und, AV.und, AV.und, AV.und, AV.und, AV.und, AV.und, AV.und, AV.und, AV.und, AV.und, AV.und, AV.und, AV.und, AV.und, AV.und, AV.und, AV.und, AV.und, AV.und, AV.und, AV.und, AV.und]
    [some [Sg.c (CV.f (FV.b x5))], some [Sg.a (Sz.l 276) [Col.i IntKind.i64 x6], Sg.a (Sz.l 24) [Col.i IntKind.i64 x7]], some [Sg.a (Sz.s x8) [Col.i IntKind.i64 x9]],
      some [Sg.a (Sz.s x10) [Col.i IntKind.i64 x11]]]
    [0]) = L_astrolaberef9_At_0 (x0, x1, x2, x3, x4, x5, x6, x7, x8, x9, x10, x11) (fun d => K (AX.ex 0) (St.mk
  [AV.r (RV.c (CV.ptr 0 (Off.k 0) 1)), AV.r (RV.c (CV.ptr 1 (Off.k 0) 300)), AV.r (RV.c (CV.f (FV.i IntKind.i64 d.1))), AV.r (RV.c (CV.f (FV.i IntKind.i64 d.2.1))), AV.und, AV.und, AV.und,
    AV.und, AV.und, AV.r (RV.c (CV.f (FV.i IntKind.i64 d.2.2.1))), AV.r (RV.c (CV.sl 2 (Off.k 0) (Sz.s d.2.2.2.1) 1 true)),
    AV.r (RV.c (CV.sl 3 (Off.k 0) (Sz.s d.2.2.2.2.1) 1 true)), AV.und, AV.und, AV.und, AV.und, AV.und, AV.und, AV.und, AV.und, AV.und, AV.und, AV.und, AV.und, AV.und, AV.und, AV.und, AV.und,
    AV.und, AV.und, AV.und, AV.r (RV.c (CV.f (FV.i IntKind.i64 d.2.2.1))), AV.r (RV.c (CV.f (FV.b d.2.2.2.2.2.1))), AV.und, AV.und, AV.und, AV.und, AV.und, AV.und, AV.und, AV.und,
    AV.und, AV.und, AV.und, AV.und, AV.und, AV.und, AV.und, AV.und, AV.und, AV.und, AV.und, AV.und, AV.und, AV.und, AV.und, AV.und, AV.und, AV.und, AV.und, AV.und, AV.und, AV.und, AV.und, AV.und]
  [some [Sg.c (CV.f (FV.b d.2.2.2.2.2.2.1))],
    some [Sg.a (Sz.l 276) [Col.i IntKind.i64 d.2.2.2.2.2.2.2.1], Sg.a (Sz.l 24) [Col.i IntKind.i64 d.2.2.2.2.2.2.2.2.1]],
    some [Sg.a (Sz.s d.2.2.2.2.2.2.2.2.2.1) [Col.i IntKind.i64 d.2.2.2.2.2.2.2.2.2.2.1]],
    some [Sg.a (Sz.s d.2.2.2.2.2.2.2.2.2.2.2.1) [Col.i IntKind.i64 d.2.2.2.2.2.2.2.2.2.2.2.2]]]
  [0])) :=
  iter_loopX (emb := fun (d : Int × Int × Int × Nat × Nat × Bool × (Nat → Int) × (Nat → Int) × Nat × (Nat → Int) × Nat × (Nat → Int)) => St.mk
  [AV.r (RV.c (CV.ptr 0 (Off.k 0) 1)), AV.r (RV.c (CV.ptr 1 (Off.k 0) 300)), AV.r (RV.c (CV.f (FV.i IntKind.i64 d.1))), AV.r (RV.c (CV.f (FV.i IntKind.i64 d.2.1))), AV.und, AV.und, AV.und,
    AV.und, AV.und, AV.r (RV.c (CV.f (FV.i IntKind.i64 d.2.2.1))), AV.r (RV.c (CV.sl 2 (Off.k 0) (Sz.s d.2.2.2.1) 1 true)),
    AV.r (RV.c (CV.sl 3 (Off.k 0) (Sz.s d.2.2.2.2.1) 1 true)), AV.und, AV.und, AV.und, AV.und, AV.und, AV.und, AV.und, AV.und, AV.und, AV.und, AV.und, AV.und, AV.und, AV.und, AV.und, AV.und,
    AV.und, AV.und, AV.und, AV.und, AV.und, AV.und, AV.und, AV.und, AV.und, AV.und, AV.und, AV.und, AV.und, AV.und, AV.und, AV.und, AV.und, AV.und, AV.und, AV.und, AV.und, AV.und, AV.und, AV.und,
    AV.und, AV.und, AV.und, AV.und, AV.und, AV.und, AV.und, AV.und, AV.und, AV.und, AV.und, AV.und, AV.und]
  [some [Sg.c (CV.f (FV.b d.2.2.2.2.2.1))], some [Sg.a (Sz.l 276) [Col.i IntKind.i64 d.2.2.2.2.2.2.1], Sg.a (Sz.l 24) [Col.i IntKind.i64 d.2.2.2.2.2.2.2.1]],
    some [Sg.a (Sz.s d.2.2.2.2.2.2.2.2.1) [Col.i IntKind.i64 d.2.2.2.2.2.2.2.2.2.1]],
    some [Sg.a (Sz.s d.2.2.2.2.2.2.2.2.2.2.1) [Col.i IntKind.i64 d.2.2.2.2.2.2.2.2.2.2.2]]]
  [0]) (step := fun d c x => S_astrolaberef9_At_0 f_astrolaberef9_U f___astrolaberef2_Acc__M f___astrolaberef2_Acc__Dot  d.1 d.2.1 d.2.2.1 d.2.2.2.1 d.2.2.2.2.1 d.2.2.2.2.2.1 d.2.2.2.2.2.2.1 d.2.2.2.2.2.2.2.1 d.2.2.2.2.2.2.2.2.1 d.2.2.2.2.2.2.2.2.2.1 d.2.2.2.2.2.2.2.2.2.2.1 d.2.2.2.2.2.2.2.2.2.2.2 c x) (kx := (fun d => K (AX.ex 0) (St.mk
  [AV.r (RV.c (CV.ptr 0 (Off.k 0) 1)), AV.r (RV.c (CV.ptr 1 (Off.k 0) 300)), AV.r (RV.c (CV.f (FV.i IntKind.i64 d.1))), AV.r (RV.c (CV.f (FV.i IntKind.i64 d.2.1))), AV.und, AV.und, AV.und,
    AV.und, AV.und, AV.r (RV.c (CV.f (FV.i IntKind.i64 d.2.2.1))), AV.r (RV.c (CV.sl 2 (Off.k 0) (Sz.s d.2.2.2.1) 1 true)),
    AV.r (RV.c (CV.sl 3 (Off.k 0) (Sz.s d.2.2.2.2.1) 1 true)), AV.und, AV.und, AV.und, AV.und, AV.und, AV.und, AV.und, AV.und, AV.und, AV.und, AV.und, AV.und, AV.und, AV.und, AV.und, AV.und,
    AV.und, AV.und, AV.und, AV.r (RV.c (CV.f (FV.i IntKind.i64 d.2.2.1))), AV.r (RV.c (CV.f (FV.b d.2.2.2.2.2.1))), AV.und, AV.und, AV.und, AV.und, AV.und, AV.und, AV.und, AV.und,
    AV.und, AV.und, AV.und, AV.und, AV.und, AV.und, AV.und, AV.und, AV.und, AV.und, AV.und, AV.und, AV.und, AV.und, AV.und, AV.und, AV.und, AV.und, AV.und, AV.und, AV.und, AV.und, AV.und, AV.und]
  [some [Sg.c (CV.f (FV.b d.2.2.2.2.2.2.1))],
    some [Sg.a (Sz.l 276) [Col.i IntKind.i64 d.2.2.2.2.2.2.2.1], Sg.a (Sz.l 24) [Col.i IntKind.i64 d.2.2.2.2.2.2.2.2.1]],
    some [Sg.a (Sz.s d.2.2.2.2.2.2.2.2.2.1) [Col.i IntKind.i64 d.2.2.2.2.2.2.2.2.2.2.1]],
    some [Sg.a (Sz.s d.2.2.2.2.2.2.2.2.2.2.2.1) [Col.i IntKind.i64 d.2.2.2.2.2.2.2.2.2.2.2.2]]]
  [0])))
    (fun d c => ds_astrolaberef9_At_0 f_astrolaberef9_U f___astrolaberef2_Acc__M f___astrolaberef2_Acc__Dot (@L_astrolaberef9_At_0) d.1 d.2.1 d.2.2.1 d.2.2.2.1 d.2.2.2.2.1 d.2.2.2.2.2.1 d.2.2.2.2.2.2.1 d.2.2.2.2.2.2.2.1 d.2.2.2.2.2.2.2.2.1 d.2.2.2.2.2.2.2.2.2.1 d.2.2.2.2.2.2.2.2.2.2.1 d.2.2.2.2.2.2.2.2.2.2.2 c K) 1000 (x0, x1, x2, x3, x4, x5, x6, x7, x8, x9, x10, x11)
theorem so_astrolaberef9_At_0 : ∀ kk, SumOK Try.prog (envOf [(45, F_astrolaberef9_U f_astrolaberef9_U), (62, F___astrolaberef2_Acc__M f___astrolaberef2_Acc__M), (63, F___astrolaberef2_Acc__Dot f___astrolaberef2_Acc__Dot)]) ⟨[⟨8, [4, 5, 6, 7, 8, 12, 13, 14, 15, 16, 17, 18, 19, 20, 21, 22, 23, 24, 25, 26, 27, 28, 29, 30, 31, 32, 33, 34, 35, 36, 37, 38, 39, 40, 41, 42, 43, 44, 45, 46, 47, 48, 49, 50, 51, 52, 53, 54, 55, 56, 57, 58, 59, 60, 61, 62, 63, 64], [(10, [.i .i64]), (11, [.i .i64])]⟩], [⟨8, 2, @R_astrolaberef9_At_0 (@L_astrolaberef9_At_0)⟩], [0], [], (some ⟨0, [0, 1, 2, 3, 4, 5, 6, 7, 9, 10, 11, 12, 13, 14, 15, 16, 17, 18, 19, 20, 21, 22, 23, 24, 25, 26, 27, 28, 29, 30, 31, 32, 33, 34, 35, 36, 37, 38, 39, 40, 41, 42, 43, 44, 45, 46, 47, 48, 49, 50, 51, 52, 53, 54, 55, 56, 57, 58, 59, 60, 61, 62, 63, 64], []⟩)⟩ (tmpsOf Try.prog 47) kk 1000 (loopIn Try.prog 47 8) :=
  SumOK.of (id := 8) (k0 := 2) (run := @R_astrolaberef9_At_0 (@L_astrolaberef9_At_0)) (by kernel_rfl) fun s K r hr => by
    unfold R_astrolaberef9_At_0 at hr
    obtain ⟨b, hb, hr1⟩ := Option.bind_eq_some_iff.1 hr
    have e := ((Q_astrolaberef9_At_0).ok s b hb).trans (q_astrolaberef9_At_0 b)
    subst e
    exact ⟨1000, (it_astrolaberef9_At_0 b.1.2.2.1 b.1.2.2.2.1 b.1.2.2.2.2.2.2.2.2.2.1 b.1.2.2.2.2.2.2.2.2.2.2.1.2.2.1 b.1.2.2.2.2.2.2.2.2.2.2.2.1.2.2.1 b.2.1.1.1 b.2.1.2.1.1.2.1 b.2.1.2.1.2.1.2.1 b.2.1.2.2.1.1.1 b.2.1.2.2.1.1.2.1 b.2.1.2.2.2.1.1.1 b.2.1.2.2.2.1.1.2.1 K).trans hr1⟩
def K_astrolaberef9_At {ρ : Type} (g_astrolaberef9_U : Int → Int → (Nat → Int) → (Nat → Int) → Option Int) (g___astrolaberef2_Acc__M : Int → Int → Bool → Option (Int × Bool)) (g___astrolaberef2_Acc__Dot : Int → Nat → Nat → Bool → (Nat → Int) → (Nat → Int) → Bool → Bool → Option (Int × Bool)) (l_0 : ∀ {ρ : Type}, (Int × Int × Int × Nat × Nat × Bool × (Nat → Int) × (Nat → Int) × Nat × (Nat → Int) × Nat × (Nat → Int)) → ((Int × Int × Int × Nat × Nat × Bool × Bool × (Nat → Int) × (Nat → Int) × Nat × (Nat → Int) × Nat × (Nat → Int)) → Option ρ) → Option ρ) (x0 : Int) (x1 : Int) (x2 : Bool) (x3 : Nat → Int) (x4 : Nat → Int) (k : (Int × Bool) → Option ρ) : Option ρ :=
  bif decide (x0 < 0) then k (0, x2)
  else
    bif decide (x1 < 0) then k (0, x2)
    else
      bif decide (x0 ≥ 24) then k (0, x2)
      else
        bif decide (x1 ≥ 24) then k (0, x2)
        else
          bif decide (x1 > x0) then
            l_0 (x0, x1, x1, 0, 0, x2, x3, x4, 0, fun (x : Nat) => 0, 0, fun (x : Nat) => 0)
              fun (d : Int × Int × Int × Nat × Nat × Bool × Bool × (Nat → Int) × (Nat → Int) × Nat × (Nat → Int) × Nat × (Nat → Int)) =>
              bif Nat.beq d.2.2.2.1 d.2.2.2.1 then
                bif Nat.beq d.2.2.2.2.1 d.2.2.2.2.1 then
                  Option.bind
                    (g___astrolaberef2_Acc__Dot 30 d.2.2.2.1 d.2.2.2.2.1 d.2.2.2.2.2.2.1 d.2.2.2.2.2.2.2.2.2.2.1
                      d.2.2.2.2.2.2.2.2.2.2.2.2 true true)
                    fun (d : Int × Bool) => k (d.1, d.2)
                else none
              else none
          else
            l_0 (x0, x1, x0, 0, 0, x2, x3, x4, 0, fun (x : Nat) => 0, 0, fun (x : Nat) => 0)
              fun (d : Int × Int × Int × Nat × Nat × Bool × Bool × (Nat → Int) × (Nat → Int) × Nat × (Nat → Int) × Nat × (Nat → Int)) =>
              bif Nat.beq d.2.2.2.1 d.2.2.2.1 then
                bif Nat.beq d.2.2.2.2.1 d.2.2.2.2.1 then
                  Option.bind
                    (g___astrolaberef2_Acc__Dot 30 d.2.2.2.1 d.2.2.2.2.1 d.2.2.2.2.2.2.1 d.2.2.2.2.2.2.2.2.2.2.1
                      d.2.2.2.2.2.2.2.2.2.2.2.2 true true)
                    fun (d : Int × Bool) => k (d.1, d.2)
                else none
              else none
def f_astrolaberef9_At (x0 : Int) (x1 : Int) (x2 : Bool) (x3 : Nat → Int) (x4 : Nat → Int) : Option (Int × Bool) := K_astrolaberef9_At f_astrolaberef9_U f___astrolaberef2_Acc__M f___astrolaberef2_Acc__Dot (@L_astrolaberef9_At_0) x0 x1 x2 x3 x4 some
section
open Go.Ab.Rdr
def QA_astrolaberef9_At := ((pair (cons (ar (rc (cptr (nat 0) (ok' (nat 0)) (nat 1)))) (cons (ar (rc (cptr (nat 1) (ok' (nat 0)) (nat 300)))) (cons (ar (rc (cf (fi .i64 hole)))) (cons (ar (rc (cf (fi .i64 hole)))) nil)))) (cons (cons (gc (cf (fb hole))) nil) (cons (cons (ga (szl (nat 276)) (cons (ki .i64 hole) nil)) (cons (ga (szl (nat 24)) (cons (ki .i64 hole) nil)) nil)) nil))) : Rdr (List AV × List Blk) _)
end
def F_astrolaberef9_At (f : (Int) → (Int) → (Bool) → (Nat → Int) → (Nat → Int) → Option (Int × Bool)) : Sem1 := fun args h => match (QA_astrolaberef9_At).rd (args, h) with
  | some b => .opt (f b.1.2.2.1 b.1.2.2.2.1 b.2.1.1 b.2.2.1.1.2.1 b.2.2.1.2.1.2.1) fun (d : Int × Bool) => .leaf (Res.mk (AV.r (RV.c (CV.f (FV.i IntKind.i64 d.1)))) [Ch.set [Sg.c (CV.f (FV.b d.2))], Ch.keep] [])
  | none => .fail
theorem d_astrolaberef9_At (g_astrolaberef9_U : Int → Int → (Nat → Int) → (Nat → Int) → Option Int) (g___astrolaberef2_Acc__M : Int → Int → Bool → Option (Int × Bool)) (g___astrolaberef2_Acc__Dot : Int → Nat → Nat → Bool → (Nat → Int) → (Nat → Int) → Bool → Bool → Option (Int × Bool)) (l_0 : ∀ {ρ : Type}, (Int × Int × Int × Nat × Nat × Bool × (Nat → Int) × (Nat → Int) × Nat × (Nat → Int) × Nat × (Nat → Int)) → ((Int × Int × Int × Nat × Nat × Bool × Bool × (Nat → Int) × (Nat → Int) × Nat × (Nat → Int) × Nat × (Nat → Int)) → Option ρ) → Option ρ) (x0 : Int) (x1 : Int) (x2 : Bool) (x3 : Nat → Int) (x4 : Nat → Int) : den Try.prog (envOf [(45, F_astrolaberef9_U g_astrolaberef9_U), (62, F___astrolaberef2_Acc__M g___astrolaberef2_Acc__M), (63, F___astrolaberef2_Acc__Dot g___astrolaberef2_Acc__Dot)]) ⟨[⟨8, [4, 5, 6, 7, 8, 12, 13, 14, 15, 16, 17, 18, 19, 20, 21, 22, 23, 24, 25, 26, 27, 28, 29, 30, 31, 32, 33, 34, 35, 36, 37, 38, 39, 40, 41, 42, 43, 44, 45, 46, 47, 48, 49, 50, 51, 52, 53, 54, 55, 56, 57, 58, 59, 60, 61, 62, 63, 64], [(10, [.i .i64]), (11, [.i .i64])]⟩], [⟨8, 2, @R_astrolaberef9_At_0 (@l_0)⟩], [0], [], (some ⟨0, [0, 1, 2, 3, 4, 5, 6, 7, 9, 10, 11, 12, 13, 14, 15, 16, 17, 18, 19, 20, 21, 22, 23, 24, 25, 26, 27, 28, 29, 30, 31, 32, 33, 34, 35, 36, 37, 38, 39, 40, 41, 42, 43, 44, 45, 46, 47, 48, 49, 50, 51, 52, 53, 54, 55, 56, 57, 58, 59, 60, 61, 62, 63, 64], []⟩)⟩ 1000 47 [.r (.c (.ptr 0 (.k 0) 1)), .r (.c (.ptr 1 (.k 0) 300)), .r (.c (.f (.i .i64 x0))), .r (.c (.f (.i .i64 x1)))] [[.c (.f (.b x2))], [.a (.l 276) [.i .i64 x3], .a (.l 24) [.i .i64 x4]]] =
    K_astrolaberef9_At g_astrolaberef9_U g___astrolaberef2_Acc__M g___astrolaberef2_Acc__Dot (@l_0) x0 x1 x2 x3 x4 (fun (d : Int × Bool) => some (Res.mk (AV.r (RV.c (CV.f (FV.i IntKind.i64 d.1)))) [Ch.set [Sg.c (CV.f (FV.b d.2))], Ch.keep] [])) := by kernel_rfl
theorem m_astrolaberef9_At {ρ σ : Type} (q : ρ → Option σ) (g_astrolaberef9_U : Int → Int → (Nat → Int) → (Nat → Int) → Option Int) (g___astrolaberef2_Acc__M : Int → Int → Bool → Option (Int × Bool)) (g___astrolaberef2_Acc__Dot : Int → Nat → Nat → Bool → (Nat → Int) → (Nat → Int) → Bool → Bool → Option (Int × Bool)) (l_0 : ∀ {ρ : Type}, (Int × Int × Int × Nat × Nat × Bool × (Nat → Int) × (Nat → Int) × Nat × (Nat → Int) × Nat × (Nat → Int)) → ((Int × Int × Int × Nat × Nat × Bool × Bool × (Nat → Int) × (Nat → Int) × Nat × (Nat → Int) × Nat × (Nat → Int)) → Option ρ) → Option ρ) (hl_0 : ∀ {ρ σ : Type} (q : ρ → Option σ) (d : Int × Int × Int × Nat × Nat × Bool × (Nat → Int) × (Nat → Int) × Nat × (Nat → Int) × Nat × (Nat → Int)) (k : (Int × Int × Int × Nat × Nat × Bool × Bool × (Nat → Int) × (Nat → Int) × Nat × (Nat → Int) × Nat × (Nat → Int)) → Option ρ), (l_0 d k).bind q = l_0 d fun x => (k x).bind q) (x0 : Int) (x1 : Int) (x2 : Bool) (x3 : Nat → Int) (x4 : Nat → Int) (k : (Int × Bool) → Option ρ) : (K_astrolaberef9_At g_astrolaberef9_U g___astrolaberef2_Acc__M g___astrolaberef2_Acc__Dot (@l_0) x0 x1 x2 x3 x4 k).bind q = K_astrolaberef9_At g_astrolaberef9_U g___astrolaberef2_Acc__M g___astrolaberef2_Acc__Dot (@l_0) x0 x1 x2 x3 x4 (fun d => (k d).bind q) := by
  simp only [K_astrolaberef9_At, bnd_cond, bnd_bind, bnd_none, bnd_sum, hl_0]
theorem qa_astrolaberef9_At : ∀ b, (QA_astrolaberef9_At).em b = ([.r (.c (.ptr 0 (.k 0) 1)), .r (.c (.ptr 1 (.k 0) 300)), .r (.c (.f (.i .i64 b.1.2.2.1))), .r (.c (.f (.i .i64 b.1.2.2.2.1)))], [[.c (.f (.b b.2.1.1))], [.a (.l 276) [.i .i64 b.2.2.1.1.2.1], .a (.l 24) [.i .i64 b.2.2.1.2.1.2.1]]]) := fun b => by kernel_rfl
theorem e_astrolaberef9_At {f : (Int) → (Int) → (Bool) → (Nat → Int) → (Nat → Int) → Option (Int × Bool)} {args : List AV} {h : List Blk} {r : Res} (hr : (F_astrolaberef9_At f args h).eval = some r) : ∃ x0 x1 x2 x3 x4, args = [.r (.c (.ptr 0 (.k 0) 1)), .r (.c (.ptr 1 (.k 0) 300)), .r (.c (.f (.i .i64 x0))), .r (.c (.f (.i .i64 x1)))] ∧ h = [[.c (.f (.b x2))], [.a (.l 276) [.i .i64 x3], .a (.l 24) [.i .i64 x4]]] ∧ (f x0 x1 x2 x3 x4).bind (fun (d : Int × Bool) => some (Res.mk (AV.r (RV.c (CV.f (FV.i IntKind.i64 d.1)))) [Ch.set [Sg.c (CV.f (FV.b d.2))], Ch.keep] [])) = some r := by
  unfold F_astrolaberef9_At at hr
  split at hr
  · rename_i b hb
    have e := ((QA_astrolaberef9_At).ok _ _ hb).trans (qa_astrolaberef9_At b)
    rw [opt_eval2] at hr
    exact ⟨b.1.2.2.1, b.1.2.2.2.1, b.2.1.1, b.2.2.1.1.2.1, b.2.2.1.2.1.2.1, (Prod.mk.inj e).1, (Prod.mk.inj e).2, hr⟩
  · cases hr
theorem n_astrolaberef9_At {σ : Type} (q : (Int × Bool) → Option σ) (x0 : Int) (x1 : Int) (x2 : Bool) (x3 : Nat → Int) (x4 : Nat → Int) : (f_astrolaberef9_At x0 x1 x2 x3 x4).bind q = K_astrolaberef9_At f_astrolaberef9_U f___astrolaberef2_Acc__M f___astrolaberef2_Acc__Dot (@L_astrolaberef9_At_0) x0 x1 x2 x3 x4 q := by
  unfold f_astrolaberef9_At
  exact m_astrolaberef9_At q f_astrolaberef9_U f___astrolaberef2_Acc__M f___astrolaberef2_Acc__Dot (@L_astrolaberef9_At_0) (fun q d k => mL_astrolaberef9_At_0 q d k) x0 x1 x2 x3 x4 some
theorem s_astrolaberef9_At : Sound Try.prog 47 (F_astrolaberef9_At f_astrolaberef9_At) :=
  (inl_sums (l := [(45, F_astrolaberef9_U f_astrolaberef9_U), (62, F___astrolaberef2_Acc__M f___astrolaberef2_Acc__M), (63, F___astrolaberef2_Acc__Dot f___astrolaberef2_Acc__Dot)]) (.cons s_astrolaberef9_U (.cons s___astrolaberef2_Acc__M (.cons s___astrolaberef2_Acc__Dot (.nil _)))) mixed (hs := ⟨[⟨8, [4, 5, 6, 7, 8, 12, 13, 14, 15, 16, 17, 18, 19, 20, 21, 22, 23, 24, 25, 26, 27, 28, 29, 30, 31, 32, 33, 34, 35, 36, 37, 38, 39, 40, 41, 42, 43, 44, 45, 46, 47, 48, 49, 50, 51, 52, 53, 54, 55, 56, 57, 58, 59, 60, 61, 62, 63, 64], [(10, [.i .i64]), (11, [.i .i64])]⟩], [⟨8, 2, @R_astrolaberef9_At_0 (@L_astrolaberef9_At_0)⟩], [0], [], (some ⟨0, [0, 1, 2, 3, 4, 5, 6, 7, 9, 10, 11, 12, 13, 14, 15, 16, 17, 18, 19, 20, 21, 22, 23, 24, 25, 26, 27, 28, 29, 30, 31, 32, 33, 34, 35, 36, 37, 38, 39, 40, 41, 42, 43, 44, 45, 46, 47, 48, 49, 50, 51, 52, 53, 54, 55, 56, 57, 58, 59, 60, 61, 62, 63, 64], []⟩)⟩) (lf := 1000) (Sums.by (l := [loopIn Try.prog 47 8]) (lj := []) (by kernel_rfl) ⟨so_astrolaberef9_At_0, trivial⟩ (by kernel_rfl) trivial) (by kernel_rfl)).by (F := F_astrolaberef9_At f_astrolaberef9_At) fun args b r hr => by
  obtain ⟨x0, x1, x2, x3, x4, rfl, rfl, hr1⟩ := e_astrolaberef9_At hr
  exact inl_eval ((d_astrolaberef9_At f_astrolaberef9_U f___astrolaberef2_Acc__M f___astrolaberef2_Acc__Dot (@L_astrolaberef9_At_0) x0 x1 x2 x3 x4).trans ((n_astrolaberef9_At (fun (d : Int × Bool) => some (Res.mk (AV.r (RV.c (CV.f (FV.i IntKind.i64 d.1)))) [Ch.set [Sg.c (CV.f (FV.b d.2))], Ch.keep] [])) x0 x1 x2 x3 x4).symm.trans hr1))

def S_astrolaberef9_Condition_0 {ρ : Type} (g___astrolaberef2_Acc__Clamp : Int → Int → Int → Bool → Option (Int × Bool))  (x0 : Int) (x1 : Bool) (x2 : Nat → Int) (x3 : Nat → Int) (x4 : Nat → Int) (x5 : Nat → Int) (c : (Int × Bool × (Nat → Int) × (Nat → Int) × (Nat → Int) × (Nat → Int)) → Option ρ) (x : (Int × Bool × Bool × (Nat → Int) × (Nat → Int) × (Nat → Int) × (Nat → Int)) → Option ρ) : Option ρ :=
  bif decide (x0 < 24) then
    bif inR x0 24 then
      Option.bind (g___astrolaberef2_Acc__Clamp (x3 (Int.toNat x0)) 1 72057594037927936 x1) fun (d : Int × Bool) =>
        bif inR x0 24 then
          bif true && Nat.ble (276 + Int.toNat x0 * 1 + 1) 300 then c (IntKind.wrap IntKind.i64 (x0 + 1), d.2, x2, fun (j : Nat) => bif Nat.beq j (Int.toNat x0) then d.1 else x3 j, x4, x5) else none
        else none
    else none
  else x (x0, decide (x0 < 24), x1, x2, x3, x4, x5)
section
open Go.Ab.Rdr
def Q_astrolaberef9_Condition_0 := (st (cons (ar (rc (cptr (nat 0) (ok' (nat 0)) (nat 1)))) (cons aund (cons aund (cons (ar (rc (cptr (nat 1) (ok' (nat 0)) (nat 300)))) (cons (ar (rc (cptr (nat 2) (ok' (nat 0)) (nat 300)))) (cons (ar (rc (cf (fi .i64 hole)))) (cons aund (cons aund (cons aund (cons aund (cons aund (cons aund (cons aund (cons aund (cons aund (cons aund (cons aund (cons aund (cons aund (cons aund (cons aund (cons aund (cons aund (cons aund (cons aund (cons aund (cons aund (cons aund (cons aund (cons aund (cons aund (cons aund (cons aund (cons aund (cons aund (cons aund (cons aund (cons aund nil)))))))))))))))))))))))))))))))))))))) (cons (some' (cons (gc (cf (fb hole))) nil)) (cons (some' (cons (ga (szl (nat 276)) (cons (ki .i64 hole) nil)) (cons (ga (szl (nat 24)) (cons (ki .i64 hole) nil)) nil))) (cons (some' (cons (ga (szl (nat 276)) (cons (ki .i64 hole) nil)) (cons (ga (szl (nat 24)) (cons (ki .i64 hole) nil)) nil))) nil))) (cons (nat 0) nil))
end
theorem q_astrolaberef9_Condition_0 : ∀ b, (Q_astrolaberef9_Condition_0).em b = St.mk
    [AV.r (RV.c (CV.ptr 0 (Off.k 0) 1)), AV.und, AV.und, AV.r (RV.c (CV.ptr 1 (Off.k 0) 300)), AV.r (RV.c (CV.ptr 2 (Off.k 0) 300)), AV.r (RV.c (CV.f (FV.i IntKind.i64 b.1.2.2.2.2.2.1))), AV.und, AV.und, AV.und,
      AV.und, AV.und, AV.und, AV.und, AV.und, AV.und, AV.und, AV.und, AV.und, AV.und, AV.und, AV.und, AV.und, AV.und, AV.und, AV.und, AV.und, AV.und, AV.und, AV.und, AV.und, AV.und, AV.und, AV.und,
      AV.und, AV.und, AV.und, AV.und, AV.und]
    [some [Sg.c (CV.f (FV.b b.2.1.1.1))], some [Sg.a (Sz.l 276) [Col.i IntKind.i64 b.2.1.2.1.1.2.1], Sg.a (Sz.l 24) [Col.i IntKind.i64 b.2.1.2.1.2.1.2.1]],
      some [Sg.a (Sz.l 276) [Col.i IntKind.i64 b.2.1.2.2.1.1.2.1], Sg.a (Sz.l 24) [Col.i IntKind.i64 b.2.1.2.2.1.2.1.2.1]]]
    [0] := fun b => by kernel_rfl
def R_astrolaberef9_Condition_0 (l : ∀ {ρ : Type}, (Int × Bool × (Nat → Int) × (Nat → Int) × (Nat → Int) × (Nat → Int)) → ((Int × Bool × Bool × (Nat → Int) × (Nat → Int) × (Nat → Int) × (Nat → Int)) → Option ρ) → Option ρ) {ρ : Type} (s : St) (K : AX → St → Option ρ) : Option ρ := ((Q_astrolaberef9_Condition_0).rd s).bind fun b => l (b.1.2.2.2.2.2.1, b.2.1.1.1, b.2.1.2.1.1.2.1, b.2.1.2.1.2.1.2.1, b.2.1.2.2.1.1.2.1, b.2.1.2.2.1.2.1.2.1) (fun d => K (AX.ex 0) (St.mk
  [AV.r (RV.c (CV.ptr 0 (Off.k 0) 1)), AV.und, AV.und, AV.r (RV.c (CV.ptr 1 (Off.k 0) 300)), AV.r (RV.c (CV.ptr 2 (Off.k 0) 300)), AV.r (RV.c (CV.f (FV.i IntKind.i64 d.1))), AV.und,
    AV.r (RV.c (CV.f (FV.i IntKind.i64 d.1))), AV.r (RV.c (CV.f (FV.b d.2.1))), AV.und, AV.und, AV.und, AV.und, AV.und, AV.und, AV.und, AV.und, AV.und, AV.und, AV.und, AV.und, AV.und, AV.und,
    AV.und, AV.und, AV.und, AV.und, AV.und, AV.und, AV.und, AV.und, AV.und, AV.und, AV.und, AV.und, AV.und, AV.und, AV.und]
  [some [Sg.c (CV.f (FV.b d.2.2.1))], some [Sg.a (Sz.l 276) [Col.i IntKind.i64 d.2.2.2.1], Sg.a (Sz.l 24) [Col.i IntKind.i64 d.2.2.2.2.1]],
    some [Sg.a (Sz.l 276) [Col.i IntKind.i64 d.2.2.2.2.2.1], Sg.a (Sz.l 24) [Col.i IntKind.i64 d.2.2.2.2.2.2]]]
  [0]))
theorem ms_astrolaberef9_Condition_0 {ρ σ : Type} (g___astrolaberef2_Acc__Clamp : Int → Int → Int → Bool → Option (Int × Bool))   (q : ρ → Option σ) (x0 : Int) (x1 : Bool) (x2 : Nat → Int) (x3 : Nat → Int) (x4 : Nat → Int) (x5 : Nat → Int) (c : (Int × Bool × (Nat → Int) × (Nat → Int) × (Nat → Int) × (Nat → Int)) → Option ρ) (x : (Int × Bool × Bool × (Nat → Int) × (Nat → Int) × (Nat → Int) × (Nat → Int)) → Option ρ) : (S_astrolaberef9_Condition_0 g___astrolaberef2_Acc__Clamp  x0 x1 x2 x3 x4 x5 c x).bind q = S_astrolaberef9_Condition_0 g___astrolaberef2_Acc__Clamp  x0 x1 x2 x3 x4 x5 (fun d => (c d).bind q) (fun d => (x d).bind q) := by
  simp only [S_astrolaberef9_Condition_0, bnd_cond, bnd_bind, bnd_none, bnd_sum]
def L_astrolaberef9_Condition_0 {ρ : Type} (d : Int × Bool × (Nat → Int) × (Nat → Int) × (Nat → Int) × (Nat → Int)) (k : (Int × Bool × Bool × (Nat → Int) × (Nat → Int) × (Nat → Int) × (Nat → Int)) → Option ρ) : Option ρ := loopK (fun d c x => S_astrolaberef9_Condition_0 f___astrolaberef2_Acc__Clamp  d.1 d.2.1 d.2.2.1 d.2.2.2.1 d.2.2.2.2.1 d.2.2.2.2.2 c x) 1000 d k
theorem mL_astrolaberef9_Condition_0 {ρ σ : Type} (q : ρ → Option σ) (d : Int × Bool × (Nat → Int) × (Nat → Int) × (Nat → Int) × (Nat → Int)) (k : (Int × Bool × Bool × (Nat → Int) × (Nat → Int) × (Nat → Int) × (Nat → Int)) → Option ρ) : (L_astrolaberef9_Condition_0 d k).bind q = L_astrolaberef9_Condition_0 d fun x => (k x).bind q :=
  loopK_bind q (fun d c x => ms_astrolaberef9_Condition_0 f___astrolaberef2_Acc__Clamp   q d.1 d.2.1 d.2.2.1 d.2.2.2.1 d.2.2.2.2.1 d.2.2.2.2.2 c x) k _ d
def S_astrolaberef9_Condition_1 {ρ : Type} (g___astrolaberef2_Acc__Clamp : Int → Int → Int → Bool → Option (Int × Bool))  (x0 : Int) (x1 : Bool) (x2 : Nat → Int) (x3 : Nat → Int) (x4 : Nat → Int) (x5 : Nat → Int) (c : (Int × Bool × (Nat → Int) × (Nat → Int) × (Nat → Int) × (Nat → Int)) → Option ρ) (x : (Int × Bool × Bool × (Nat → Int) × (Nat → Int) × (Nat → Int) × (Nat → Int)) → Option ρ) : Option ρ :=
  bif decide (x0 < 276) then
    bif inR x0 276 then
      bif Nat.ble (0 + Int.toNat x0 * 1 + 1) 276 then
        Option.bind (g___astrolaberef2_Acc__Clamp (x2 (Int.toNat x0)) (-1152921504606846976) 1152921504606846976 x1) fun (d : Int × Bool) =>
          bif inR x0 276 then
            bif Nat.ble (0 + Int.toNat x0 * 1 + 1) 276 && Nat.ble (0 + Int.toNat x0 * 1 + 1) 300 then
              c (IntKind.wrap IntKind.i64 (x0 + 1), d.2, fun (j : Nat) => bif Nat.beq j (Int.toNat x0) then d.1 else x2 j, x3, x4, x5)
            else none
          else none
      else none
    else none
  else x (x0, decide (x0 < 276), x1, x2, x3, x4, x5)
section
open Go.Ab.Rdr
def Q_astrolaberef9_Condition_1 := (st (cons (ar (rc (cptr (nat 0) (ok' (nat 0)) (nat 1)))) (cons aund (cons aund (cons (ar (rc (cptr (nat 1) (ok' (nat 0)) (nat 300)))) (cons (ar (rc (cptr (nat 2) (ok' (nat 0)) (nat 300)))) (cons aund (cons (ar (rc (cf (fi .i64 hole)))) (cons aund (cons aund (cons aund (cons aund (cons aund (cons aund (cons aund (cons aund (cons aund (cons aund (cons aund (cons aund (cons aund (cons aund (cons aund (cons aund (cons aund (cons aund (cons aund (cons aund (cons aund (cons aund (cons aund (cons aund (cons aund (cons aund (cons aund (cons aund (cons aund (cons aund (cons aund nil)))))))))))))))))))))))))))))))))))))) (cons (some' (cons (gc (cf (fb hole))) nil)) (cons (some' (cons (ga (szl (nat 276)) (cons (ki .i64 hole) nil)) (cons (ga (szl (nat 24)) (cons (ki .i64 hole) nil)) nil))) (cons (some' (cons (ga (szl (nat 276)) (cons (ki .i64 hole) nil)) (cons (ga (szl (nat 24)) (cons (ki .i64 hole) nil)) nil))) nil))) (cons (nat 0) nil))
end
theorem q_astrolaberef9_Condition_1 : ∀ b, (Q_astrolaberef9_Condition_1).em b = St.mk
    [AV.r (RV.c (CV.ptr 0 (Off.k 0) 1)), AV.und, AV.und, AV.r (RV.c (CV.ptr 1 (Off.k 0) 300)), AV.r (RV.c (CV.ptr 2 (Off.k 0) 300)), AV.und, AV.r (RV.c (CV.f (FV.i IntKind.i64 b.1.2.2.2.2.2.2.1))), AV.und, AV.und,
      AV.und, AV.und, AV.und, AV.und, AV.und, AV.und, AV.und, AV.und, AV.und, AV.und, AV.und, AV.und, AV.und, AV.und, AV.und, AV.und, AV.und, AV.und, AV.und, AV.und, AV.und, AV.und, AV.und, AV.und,
      AV.und, AV.und, AV.und, AV.und, AV.und]
    [some [Sg.c (CV.f (FV.b b.2.1.1.1))], some [Sg.a (Sz.l 276) [Col.i IntKind.i64 b.2.1.2.1.1.2.1], Sg.a (Sz.l 24) [Col.i IntKind.i64 b.2.1.2.1.2.1.2.1]],
      some [Sg.a (Sz.l 276) [Col.i IntKind.i64 b.2.1.2.2.1.1.2.1], Sg.a (Sz.l 24) [Col.i IntKind.i64 b.2.1.2.2.1.2.1.2.1]]]
    [0] := fun b => by kernel_rfl
def R_astrolaberef9_Condition_1 (l : ∀ {ρ : Type}, (Int × Bool × (Nat → Int) × (Nat → Int) × (Nat → Int) × (Nat → Int)) → ((Int × Bool × Bool × (Nat → Int) × (Nat → Int) × (Nat → Int) × (Nat → Int)) → Option ρ) → Option ρ) {ρ : Type} (s : St) (K : AX → St → Option ρ) : Option ρ := ((Q_astrolaberef9_Condition_1).rd s).bind fun b => l (b.1.2.2.2.2.2.2.1, b.2.1.1.1, b.2.1.2.1.1.2.1, b.2.1.2.1.2.1.2.1, b.2.1.2.2.1.1.2.1, b.2.1.2.2.1.2.1.2.1) (fun d => K (AX.ex 2) (St.mk
  [AV.r (RV.c (CV.ptr 0 (Off.k 0) 1)), AV.und, AV.und, AV.r (RV.c (CV.ptr 1 (Off.k 0) 300)), AV.r (RV.c (CV.ptr 2 (Off.k 0) 300)), AV.und, AV.r (RV.c (CV.f (FV.i IntKind.i64 d.1))), AV.und, AV.und,
    AV.und, AV.und, AV.und, AV.und, AV.und, AV.und, AV.und, AV.und, AV.und, AV.und, AV.und, AV.und, AV.und, AV.r (RV.c (CV.f (FV.i IntKind.i64 d.1))), AV.r (RV.c (CV.f (FV.b d.2.1))), AV.und,
    AV.und, AV.und, AV.und, AV.und, AV.und, AV.und, AV.und, AV.und, AV.und, AV.und, AV.und, AV.und, AV.und]
  [some [Sg.c (CV.f (FV.b d.2.2.1))], some [Sg.a (Sz.l 276) [Col.i IntKind.i64 d.2.2.2.1], Sg.a (Sz.l 24) [Col.i IntKind.i64 d.2.2.2.2.1]],
    some [Sg.a (Sz.l 276) [Col.i IntKind.i64 d.2.2.2.2.2.1], Sg.a (Sz.l 24) [Col.i IntKind.i64 d.2.2.2.2.2.2]]]
  [0]))
theorem ms_astrolaberef9_Condition_1 {ρ σ : Type} (g___astrolaberef2_Acc__Clamp : Int → Int → Int → Bool → Option (Int × Bool))   (q : ρ → Option σ) (x0 : Int) (x1 : Bool) (x2 : Nat → Int) (x3 : Nat → Int) (x4 : Nat → Int) (x5 : Nat → Int) (c : (Int × Bool × (Nat → Int) × (Nat → Int) × (Nat → Int) × (Nat → Int)) → Option ρ) (x : (Int × Bool × Bool × (Nat → Int) × (Nat → Int) × (Nat → Int) × (Nat → Int)) → Option ρ) : (S_astrolaberef9_Condition_1 g___astrolaberef2_Acc__Clamp  x0 x1 x2 x3 x4 x5 c x).bind q = S_astrolaberef9_Condition_1 g___astrolaberef2_Acc__Clamp  x0 x1 x2 x3 x4 x5 (fun d => (c d).bind q) (fun d => (x d).bind q) := by
  simp only [S_astrolaberef9_Condition_1, bnd_cond, bnd_bind, bnd_none, bnd_sum]
def L_astrolaberef9_Condition_1 {ρ : Type} (d : Int × Bool × (Nat → Int) × (Nat → Int) × (Nat → Int) × (Nat → Int)) (k : (Int × Bool × Bool × (Nat → Int) × (Nat → Int) × (Nat → Int) × (Nat → Int)) → Option ρ) : Option ρ := loopK (fun d c x => S_astrolaberef9_Condition_1 f___astrolaberef2_Acc__Clamp  d.1 d.2.1 d.2.2.1 d.2.2.2.1 d.2.2.2.2.1 d.2.2.2.2.2 c x) 1000 d k
theorem mL_astrolaberef9_Condition_1 {ρ σ : Type} (q : ρ → Option σ) (d : Int × Bool × (Nat → Int) × (Nat → Int) × (Nat → Int) × (Nat → Int)) (k : (Int × Bool × Bool × (Nat → Int) × (Nat → Int) × (Nat → Int) × (Nat → Int)) → Option ρ) : (L_astrolaberef9_Condition_1 d k).bind q = L_astrolaberef9_Condition_1 d fun x => (k x).bind q :=
  loopK_bind q (fun d c x => ms_astrolaberef9_Condition_1 f___astrolaberef2_Acc__Clamp   q d.1 d.2.1 d.2.2.1 d.2.2.2.1 d.2.2.2.2.1 d.2.2.2.2.2 c x) k _ d
theorem ds_astrolaberef9_Condition_0 {ρ : Type} (g___astrolaberef2_Acc__Clamp : Int → Int → Int → Bool → Option (Int × Bool)) (l_0 : ∀ {ρ : Type}, (Int × Bool × (Nat → Int) × (Nat → Int) × (Nat → Int) × (Nat → Int)) → ((Int × Bool × Bool × (Nat → Int) × (Nat → Int) × (Nat → Int) × (Nat → Int)) → Option ρ) → Option ρ) (l_1 : ∀ {ρ : Type}, (Int × Bool × (Nat → Int) × (Nat → Int) × (Nat → Int) × (Nat → Int)) → ((Int × Bool × Bool × (Nat → Int) × (Nat → Int) × (Nat → Int) × (Nat → Int)) → Option ρ) → Option ρ) (x0 : Int) (x1 : Bool) (x2 : Nat → Int) (x3 : Nat → Int) (x4 : Nat → Int) (x5 : Nat → Int) (c : St → Option ρ) (K : AX → St → Option ρ) :
    runC Try.prog (envOf [(65, F___astrolaberef2_Acc__Clamp g___astrolaberef2_Acc__Clamp)]) ⟨[⟨2, [1, 2, 6, 7, 8, 9, 10, 11, 12, 13, 14, 15, 16, 17, 18, 19, 20, 21, 22, 23, 24, 25, 26, 27, 28, 29, 30, 31, 32, 33, 34, 35, 36, 37], []⟩, ⟨6, [1, 2, 5, 7, 8, 9, 10, 11, 12, 13, 14, 15, 16, 17, 18, 19, 20, 21, 22, 23, 24, 25, 26, 27, 28, 29, 30, 31, 32, 33, 34, 35, 36, 37], []⟩], [⟨2, 1, @R_astrolaberef9_Condition_0 (@l_0)⟩, ⟨6, 1, @R_astrolaberef9_Condition_1 (@l_1)⟩], [0], [], (some ⟨0, [0, 1, 2, 3, 5, 6, 7, 8, 9, 10, 11, 12, 13, 14, 15, 16, 17, 18, 19, 20, 21, 22, 23, 24, 25, 26, 27, 28, 29, 30, 31, 32, 33, 34, 35, 36, 37], []⟩)⟩ (tmpsOf Try.prog 49) 1 1000 (loopIn Try.prog 49 2)
      (St.mk
    [AV.r (RV.c (CV.ptr 0 (Off.k 0) 1)), AV.und, AV.und, AV.r (RV.c (CV.ptr 1 (Off.k 0) 300)), AV.r (RV.c (CV.ptr 2 (Off.k 0) 300)), AV.r (RV.c (CV.f (FV.i IntKind.i64 x0))), AV.und, AV.und, AV.und,
      AV.und, AV.und, AV.und, AV.und, AV.und, AV.und, AV.und, AV.und, AV.und, AV.und, AV.und, AV.und, AV.und, AV.und, AV.und, AV.und, AV.und, AV.und, AV.und, AV.und, AV.und, AV.und, AV.und, AV.und,
      AV.und, AV.und, AV.und, AV.und, AV.und]
    [some [Sg.c (CV.f (FV.b x1))], some [Sg.a (Sz.l 276) [Col.i IntKind.i64 x2], Sg.a (Sz.l 24) [Col.i IntKind.i64 x3]],
      some [Sg.a (Sz.l 276) [Col.i IntKind.i64 x4], Sg.a (Sz.l 24) [Col.i IntKind.i64 x5]]]
    [0])
      (next (fun t => t.head 1 ⟨[⟨2, [1, 2, 6, 7, 8, 9, 10, 11, 12, 13, 14, 15, 16, 17, 18, 19, 20, 21, 22, 23, 24, 25, 26, 27, 28, 29, 30, 31, 32, 33, 34, 35, 36, 37], []⟩, ⟨6, [1, 2, 5, 7, 8, 9, 10, 11, 12, 13, 14, 15, 16, 17, 18, 19, 20, 21, 22, 23, 24, 25, 26, 27, 28, 29, 30, 31, 32, 33, 34, 35, 36, 37], []⟩], [⟨2, 1, @R_astrolaberef9_Condition_0 (@l_0)⟩, ⟨6, 1, @R_astrolaberef9_Condition_1 (@l_1)⟩], [0], [], (some ⟨0, [0, 1, 2, 3, 5, 6, 7, 8, 9, 10, 11, 12, 13, 14, 15, 16, 17, 18, 19, 20, 21, 22, 23, 24, 25, 26, 27, 28, 29, 30, 31, 32, 33, 34, 35, 36, 37], []⟩)⟩ (loopIn Try.prog 49 2)) c K) =
    S_astrolaberef9_Condition_0 g___astrolaberef2_Acc__Clamp  x0 x1 x2 x3 x4 x5 (fun d => c (St.mk
  [AV.r (RV.c (CV.ptr 0 (Off.k 0) 1)), AV.und, AV.und, AV.r (RV.c (CV.ptr 1 (Off.k 0) 300)), AV.r (RV.c (CV.ptr 2 (Off.k 0) 300)), AV.r (RV.c (CV.f (FV.i IntKind.i64 d.1))), AV.und, AV.und, AV.und,
    AV.und, AV.und, AV.und, AV.und, AV.und, AV.und, AV.und, AV.und, AV.und, AV.und, AV.und, AV.und, AV.und, AV.und, AV.und, AV.und, AV.und, AV.und, AV.und, AV.und, AV.und, AV.und, AV.und, AV.und,
    AV.und, AV.und, AV.und, AV.und, AV.und]
  [some [Sg.c (CV.f (FV.b d.2.1))], some [Sg.a (Sz.l 276) [Col.i IntKind.i64 d.2.2.1], Sg.a (Sz.l 24) [Col.i IntKind.i64 d.2.2.2.1]],
    some [Sg.a (Sz.l 276) [Col.i IntKind.i64 d.2.2.2.2.1], Sg.a (Sz.l 24) [Col.i IntKind.i64 d.2.2.2.2.2]]]
  [0])) (fun d => K (AX.ex 0) (St.mk
  [AV.r (RV.c (CV.ptr 0 (Off.k 0) 1)), AV.und, AV.und, AV.r (RV.c (CV.ptr 1 (Off.k 0) 300)), AV.r (RV.c (CV.ptr 2 (Off.k 0) 300)), AV.r (RV.c (CV.f (FV.i IntKind.i64 d.1))), AV.und,
    AV.r (RV.c (CV.f (FV.i IntKind.i64 d.1))), AV.r (RV.c (CV.f (FV.b d.2.1))), AV.und, AV.und, AV.und, AV.und, AV.und, AV.und, AV.und, AV.und, AV.und, AV.und, AV.und, AV.und, AV.und, AV.und,
    AV.und, AV.und, AV.und, AV.und, AV.und, AV.und, AV.und, AV.und, AV.und, AV.und, AV.und, AV.und, AV.und, AV.und, AV.und]
  [some [Sg.c (CV.f (FV.b d.2.2.1))], some [Sg.a (Sz.l 276) [Col.i IntKind.i64 d.2.2.2.1], Sg.a (Sz.l 24) [Col.i IntKind.i64 d.2.2.2.2.1]],
    some [Sg.a (Sz.l 276) [Col.i IntKind.i64 d.2.2.2.2.2.1], Sg.a (Sz.l 24) [Col.i IntKind.i64 d.2.2.2.2.2.2]]]
  [0])) := by kernel_rfl
theorem it_astrolaberef9_Condition_0 {ρ : Type} (x0 : Int) (x1 : Bool) (x2 : Nat → Int) (x3 : Nat → Int) (x4 : Nat → Int) (x5 : Nat → Int) (K : AX → St → Option ρ) :
    iter (fun t => t.head 1 ⟨[⟨2, [1, 2, 6, 7, 8, 9, 10, 11, 12, 13, 14, 15, 16, 17, 18, 19, 20, 21, 22, 23, 24, 25, 26, 27, 28, 29, 30, 31, 32, 33, 34, 35, 36, 37], []⟩, ⟨6, [1, 2, 5, 7, 8, 9, 10, 11, 12, 13, 14, 15, 16, 17, 18, 19, 20, 21, 22, 23, 24, 25, 26, 27, 28, 29, 30, 31, 32, 33, 34, 35, 36, 37], []⟩], [⟨2, 1, @R_astrolaberef9_Condition_0 (@L_astrolaberef9_Condition_0)⟩, ⟨6, 1, @R_astrolaberef9_Condition_1 (@L_astrolaberef9_Condition_1)⟩], [0], [], (some ⟨0, [0, 1, 2, 3, 5, 6, 7, 8, 9, 10, 11, 12, 13, 14, 15, 16, 17, 18, 19, 20, 21, 22, 23, 24, 25, 26, 27, 28, 29, 30, 31, 32, 33, 34, 35, 36, 37], []⟩)⟩ (loopIn Try.prog 49 2)) (runC Try.prog (envOf [(65, F___astrolaberef2_Acc__Clamp f___astrolaberef2_Acc__Clamp)]) ⟨[⟨2, [1, 2, 6, 7, 8, 9, 10, 11, 12, 13, 14, 15, 16, 17, 18, 19, 20, 21, 22, 23, 24, 25, 26, 27, 28, 29, 30, 31, 32, 33, 34, 35, 36, 37], []⟩, ⟨6, [1, 2, 5, 7, 8, 9, 10, 11, 12, 13, 14, 15, 16, 17, 18, 19, 20, 21, 22, 23, 24, 25, 26, 27, 28, 29, 30, 31, 32, 33, 34, 35, 36, 37], []⟩], [⟨2, 1, @R_astrolaberef9_Condition_0 (@L_astrolaberef9_Condition_0)⟩, ⟨6, 1, @R_astrolaberef9_Condition_1 (@L_astrolaberef9_Condition_1)⟩], [0], [], (some ⟨0, [0, 1, 2, 3, 5, 6, 7, 8, 9, 10, 11, 12, 13, 14, 15, 16, 17, 18, 19, 20, 21, 22, 23, 24, 25, 26, 27, 28, 29, 30, 31, 32, 33, 34, 35, 36, 37], []⟩)⟩ (tmpsOf Try.prog 49) 1 1000 (loopIn Try.prog 49 2)) K 1000
      (St.mk
    [AV.r (RV.c (CV.ptr 0 (Off.k 0) 1)), AV.und, AV.und, AV.r (RV.c (CV.ptr 1 (Off.k 0) 300)), AV.r (RV.c (CV.ptr 2 (Off.k 0) 300)), AV.r (RV.c (CV.f (FV.i IntKind.i64 x0))), AV.und, AV.und, AV.und,
      AV.und, AV.und, AV.und, AV.und, AV.und, AV.und, AV.und, AV.und, AV.und, AV.und, AV.und, AV.und, AV.und, AV.und, AV.und, AV.und, AV.und, AV.und, AV.und, AV.und, AV.und, AV.und, AV.und, AV.und,
      AV.und, AV.und, AV.und, AV.und, AV.und]
    [some [Sg.c (CV.f (FV.b x1))], some [Sg.a (Sz.l 276) [Col.i IntKind.i64 x2], Sg.a (Sz.l 24) [Col.i IntKind.i64 x3]],
      some [Sg.a (Sz.l 276) [Col.i IntKind.i64 x4], Sg.a (Sz.l 24) [Col.i IntKind.i64 x5]]]
    [0]) = L_astrolaberef9_Condition_0 (x0, x1, x2, x3, x4, x5) (fun d => K (AX.ex 0) (St.mk
  [AV.r (RV.c (CV.ptr 0 (Off.k 0) 1)), AV.und, AV.und, AV.r (RV.c (CV.ptr 1 (Off.k 0) 300)), AV.r (RV.c (CV.ptr 2 (Off.k 0) 300)), AV.r (RV.c (CV.f (FV.i IntKind.i64 d.1))), AV.und,
    AV.r (RV.c (CV.f (FV.i IntKind.i64 d.1))), AV.r (RV.c (CV.f (FV.b d.2.1))), AV.und, AV.und, AV.und, AV.und, AV.und, AV.und, AV.und, AV.und, AV.und, AV.und, AV.und, AV.und, AV.und, AV.und,
    AV.und, AV.und, AV.und, AV.und, AV.und, AV.und, AV.und, AV.und, AV.und, AV.und, AV.und, AV.und, AV.und, AV.und, AV.und]
  [some [Sg.c (CV.f (FV.b d.2.2.1))], some [Sg.a (Sz.l 276) [Col.i IntKind.i64 d.2.2.2.1], Sg.a (Sz.l 24) [Col.i IntKind.i64 d.2.2.2.2.1]],
    some [Sg.a (Sz.l 276) [Col.i IntKind.i64 d.2.2.2.2.2.1], Sg.a (Sz.l 24) [Col.i IntKind.i64 d.2.2.2.2.2.2]]]
  [0])) :=
  iter_loopX (emb := fun (d : Int × Bool × (Nat → Int) × (Nat → Int) × (Nat → Int) × (Nat → Int)) => St.mk
  [AV.r (RV.c (CV.ptr 0 (Off.k 0) 1)), AV.und, AV.und, AV.r (RV.c (CV.ptr 1 (Off.k 0) 300)), AV.r (RV.c (CV.ptr 2 (Off.k 0) 300)), AV.r (RV.c (CV.f (FV.i IntKind.i64 d.1))), AV.und, AV.und, AV.und,
    AV.und, AV.und, AV.und, AV.und, AV.und, AV.und, AV.und, AV.und, AV.und, AV.und, AV.und, AV.und, AV.und, AV.und, AV.und, AV.und, AV.und, AV.und, AV.und, AV.und, AV.und, AV.und, AV.und, AV.und,
    AV.und, AV.und, AV.und, AV.und, AV.und]
  [some [Sg.c (CV.f (FV.b d.2.1))], some [Sg.a (Sz.l 276) [Col.i IntKind.i64 d.2.2.1], Sg.a (Sz.l 24) [Col.i IntKind.i64 d.2.2.2.1]],
    some [Sg.a (Sz.l 276) [Col.i IntKind.i64 d.2.2.2.2.1], Sg.a (Sz.l 24) [Col.i IntKind.i64 d.2.2.2.2.2]]]
  [0]) (step := fun d c x => S_astrolaberef9_Condition_0 f___astrolaberef2_Acc__Clamp  d.1 d.2.1 d.2.2.1 d.2.2.2.1 d.2.2.2.2.1 d.2.2.2.2.2 c x) (kx := (fun d => K (AX.ex 0) (St.mk
  [AV.r (RV.c (CV.ptr 0 (Off.k 0) 1)), AV.und, AV.und, AV.r (RV.c (CV.ptr 1 (Off.k 0) 300)), AV.r (RV.c (CV.ptr 2 (Off.k 0) 300)), AV.r (RV.c (CV.f (FV.i IntKind.i64 d.1))), AV.und,
    AV.r (RV.c (CV.f (FV.i IntKind.i64 d.1))), AV.r (RV.c (CV.f (FV.b d.2.1))), AV.und, AV.und, AV.und, AV.und, AV.und, AV.und, AV.und, AV.und, AV.und, AV.und, AV.und, AV.und, AV.und, AV.und,
    AV.und, AV.und, AV.und, AV.und, AV.und, AV.und, AV.und, AV.und, AV.und, AV.und, AV.und, AV.und, AV.und, AV.und, AV.und]
  [some [Sg.c (CV.f (FV.b d.2.2.1))], some [Sg.a (Sz.l 276) [Col.i IntKind.i64 d.2.2.2.1], Sg.a (Sz.l 24) [Col.i IntKind.i64 d.2.2.2.2.1]],
    some [Sg.a (Sz.l 276) [Col.i IntKind.i64 d.2.2.2.2.2.1], Sg.a (Sz.l 24) [Col.i IntKind.i64 d.2.2.2.2.2.2]]]
  [0])))
    (fun d c => ds_astrolaberef9_Condition_0 f___astrolaberef2_Acc__Clamp (@L_astrolaberef9_Condition_0) (@L_astrolaberef9_Condition_1) d.1 d.2.1 d.2.2.1 d.2.2.2.1 d.2.2.2.2.1 d.2.2.2.2.2 c K) 1000 (x0, x1, x2, x3, x4, x5)
theorem so_astrolaberef9_Condition_0 : ∀ kk, SumOK Try.prog (envOf [(65, F___astrolaberef2_Acc__Clamp f___astrolaberef2_Acc__Clamp)]) ⟨[⟨2, [1, 2, 6, 7, 8, 9, 10, 11, 12, 13, 14, 15, 16, 17, 18, 19, 20, 21, 22, 23, 24, 25, 26, 27, 28, 29, 30, 31, 32, 33, 34, 35, 36, 37], []⟩, ⟨6, [1, 2, 5, 7, 8, 9, 10, 11, 12, 13, 14, 15, 16, 17, 18, 19, 20, 21, 22, 23, 24, 25, 26, 27, 28, 29, 30, 31, 32, 33, 34, 35, 36, 37], []⟩], [⟨2, 1, @R_astrolaberef9_Condition_0 (@L_astrolaberef9_Condition_0)⟩, ⟨6, 1, @R_astrolaberef9_Condition_1 (@L_astrolaberef9_Condition_1)⟩], [0], [], (some ⟨0, [0, 1, 2, 3, 5, 6, 7, 8, 9, 10, 11, 12, 13, 14, 15, 16, 17, 18, 19, 20, 21, 22, 23, 24, 25, 26, 27, 28, 29, 30, 31, 32, 33, 34, 35, 36, 37], []⟩)⟩ (tmpsOf Try.prog 49) kk 1000 (loopIn Try.prog 49 2) :=
  SumOK.of (id := 2) (k0 := 1) (run := @R_astrolaberef9_Condition_0 (@L_astrolaberef9_Condition_0)) (by kernel_rfl) fun s K r hr => by
    unfold R_astrolaberef9_Condition_0 at hr
    obtain ⟨b, hb, hr1⟩ := Option.bind_eq_some_iff.1 hr
    have e := ((Q_astrolaberef9_Condition_0).ok s b hb).trans (q_astrolaberef9_Condition_0 b)
    subst e
    exact ⟨1000, (it_astrolaberef9_Condition_0 b.1.2.2.2.2.2.1 b.2.1.1.1 b.2.1.2.1.1.2.1 b.2.1.2.1.2.1.2.1 b.2.1.2.2.1.1.2.1 b.2.1.2.2.1.2.1.2.1 K).trans hr1⟩
theorem ds_astrolaberef9_Condition_1 {ρ : Type} (g___astrolaberef2_Acc__Clamp : Int → Int → Int → Bool → Option (Int × Bool)) (l_0 : ∀ {ρ : Type}, (Int × Bool × (Nat → Int) × (Nat → Int) × (Nat → Int) × (Nat → Int)) → ((Int × Bool × Bool × (Nat → Int) × (Nat → Int) × (Nat → Int) × (Nat → Int)) → Option ρ) → Option ρ) (l_1 : ∀ {ρ : Type}, (Int × Bool × (Nat → Int) × (Nat → Int) × (Nat → Int) × (Nat → Int)) → ((Int × Bool × Bool × (Nat → Int) × (Nat → Int) × (Nat → Int) × (Nat → Int)) → Option ρ) → Option ρ) (x0 : Int) (x1 : Bool) (x2 : Nat → Int) (x3 : Nat → Int) (x4 : Nat → Int) (x5 : Nat → Int) (c : St → Option ρ) (K : AX → St → Option ρ) :
    runC Try.prog (envOf [(65, F___astrolaberef2_Acc__Clamp g___astrolaberef2_Acc__Clamp)]) ⟨[⟨2, [1, 2, 6, 7, 8, 9, 10, 11, 12, 13, 14, 15, 16, 17, 18, 19, 20, 21, 22, 23, 24, 25, 26, 27, 28, 29, 30, 31, 32, 33, 34, 35, 36, 37], []⟩, ⟨6, [1, 2, 5, 7, 8, 9, 10, 11, 12, 13, 14, 15, 16, 17, 18, 19, 20, 21, 22, 23, 24, 25, 26, 27, 28, 29, 30, 31, 32, 33, 34, 35, 36, 37], []⟩], [⟨2, 1, @R_astrolaberef9_Condition_0 (@l_0)⟩, ⟨6, 1, @R_astrolaberef9_Condition_1 (@l_1)⟩], [0], [], (some ⟨0, [0, 1, 2, 3, 5, 6, 7, 8, 9, 10, 11, 12, 13, 14, 15, 16, 17, 18, 19, 20, 21, 22, 23, 24, 25, 26, 27, 28, 29, 30, 31, 32, 33, 34, 35, 36, 37], []⟩)⟩ (tmpsOf Try.prog 49) 1 1000 (loopIn Try.prog 49 6)
      (St.mk
    [AV.r (RV.c (CV.ptr 0 (Off.k 0) 1)), AV.und, AV.und, AV.r (RV.c (CV.ptr 1 (Off.k 0) 300)), AV.r (RV.c (CV.ptr 2 (Off.k 0) 300)), AV.und, AV.r (RV.c (CV.f (FV.i IntKind.i64 x0))), AV.und, AV.und,
      AV.und, AV.und, AV.und, AV.und, AV.und, AV.und, AV.und, AV.und, AV.und, AV.und, AV.und, AV.und, AV.und, AV.und, AV.und, AV.und, AV.und, AV.und, AV.und, AV.und, AV.und, AV.und, AV.und, AV.und,
      AV.und, AV.und, AV.und, AV.und, AV.und]
    [some [Sg.c (CV.f (FV.b x1))], some [Sg.a (Sz.l 276) [Col.i IntKind.i64 x2], Sg.a (Sz.l 24) [Col.i IntKind.i64 x3]],
      some [Sg.a (Sz.l 276) [Col.i IntKind.i64 x4], Sg.a (Sz.l 24) [Col.i IntKind.i64 x5]]]
    [0])
      (next (fun t => t.head 1 ⟨[⟨2, [1, 2, 6, 7, 8, 9, 10, 11, 12, 13, 14, 15, 16, 17, 18, 19, 20, 21, 22, 23, 24, 25, 26, 27, 28, 29, 30, 31, 32, 33, 34, 35, 36, 37], []⟩, ⟨6, [1, 2, 5, 7, 8, 9, 10, 11, 12, 13, 14, 15, 16, 17, 18, 19, 20, 21, 22, 23, 24, 25, 26, 27, 28, 29, 30, 31, 32, 33, 34, 35, 36, 37], []⟩], [⟨2, 1, @R_astrolaberef9_Condition_0 (@l_0)⟩, ⟨6, 1, @R_astrolaberef9_Condition_1 (@l_1)⟩], [0], [], (some ⟨0, [0, 1, 2, 3, 5, 6, 7, 8, 9, 10, 11, 12, 13, 14, 15, 16, 17, 18, 19, 20, 21, 22, 23, 24, 25, 26, 27, 28, 29, 30, 31, 32, 33, 34, 35, 36, 37], []⟩)⟩ (loopIn Try.prog 49 6)) c K) =
    S_astrolaberef9_Condition_1 g___astrolaberef2_Acc__Clamp  x0 x1 x2 x3 x4 x5 (fun d => c (St.mk
  [AV.r (RV.c (CV.ptr 0 (Off.k 0) 1)), AV.und, AV.und, AV.r (RV.c (CV.ptr 1 (Off.k 0) 300)), AV.r (RV.c (CV.ptr 2 (Off.k 0) 300)), AV.und, AV.r (RV.c (CV.f (FV.i IntKind.i64 d.1))), AV.und, AV.und,
    AV.und, AV.und, AV.und, AV.und, AV.und, AV.und, AV.und, AV.und, AV.und, AV.und, AV.und, AV.und, AV.und, AV.und, AV.und, AV.und, AV.und, AV.und, AV.und, AV.und, AV.und, AV.und, AV.und, AV.und,
    AV.und, AV.und, AV.und, AV.und, AV.und]
  [some [Sg.c (CV.f (FV.b d.2.1))], some [Sg.a (Sz.l 276) [Col.i IntKind.i64 d.2.2.1], Sg.a (Sz.l 24) [Col.i IntKind.i64 d.2.2.2.1]],
    some [Sg.a (Sz.l 276) [Col.i IntKind.i64 d.2.2.2.2.1], Sg.a (Sz.l 24) [Col.i IntKind.i64 d.2.2.2.2.2]]]
  [0])) (fun d => K (AX.ex 2) (St.mk
  [AV.r (RV.c (CV.ptr 0 (Off.k 0) 1)), AV.und, AV.und, AV.r (RV.c (CV.ptr 1 (Off.k 0) 300)), AV.r (RV.c (CV.ptr 2 (Off.k 0) 300)), AV.und, AV.r (RV.c (CV.f (FV.i IntKind.i64 d.1))), AV.und, AV.und,
    AV.und, AV.und, AV.und, AV.und, AV.und, AV.und, AV.und, AV.und, AV.und, AV.und, AV.und, AV.und, AV.und, AV.r (RV.c (CV.f (FV.i IntKind.i64 d.1))), AV.r (RV.c (CV.f (FV.b d.2.1))), AV.und,
    AV.und, AV.und, AV.und, AV.und, AV.und, AV.und, AV.und, AV.und, AV.und, AV.und, AV.und, AV.und, AV.und]
  [some [Sg.c (CV.f (FV.b d.2.2.1))], some [Sg.a (Sz.l 276) [Col.i IntKind.i64 d.2.2.2.1], Sg.a (Sz.l 24) [Col.i IntKind.i64 d.2.2.2.2.1]],
    some [Sg.a (Sz.l 276) [Col.i IntKind.i64 d.2.2.2.2.2.1], Sg.a (Sz.l 24) [Col.i IntKind.i64 d.2.2.2.2.2.2]]]
  [0])) := by kernel_rfl
theorem it_astrolaberef9_Condition_1 {ρ : Type} (x0 : Int) (x1 : Bool) (x2 : Nat → Int) (x3 : Nat → Int) (x4 : Nat → Int) (x5 : Nat → Int) (K : AX → St → Option ρ) :
    iter (fun t => t.head 1 ⟨[⟨2, [1, 2, 6, 7, 8, 9, 10, 11, 12, 13, 14, 15, 16, 17, 18, 19, 20, 21, 22, 23, 24, 25, 26, 27, 28, 29, 30, 31, 32, 33, 34, 35, 36, 37], []⟩, ⟨6, [1, 2, 5, 7, 8, 9, 10, 11, 12, 13, 14, 15, 16, 17, 18, 19, 20, 21, 22, 23, 24, 25, 26, 27, 28, 29, 30, 31, 32, 33, 34, 35, 36, 37], []⟩], [⟨2, 1, @R_astrolaberef9_Condition_0 (@L_astrolaberef9_Condition_0)⟩, ⟨6, 1, @R_astrolaberef9_Condition_1 (@L_astrolaberef9_Condition_1)⟩], [0], [], (some ⟨0, [0, 1, 2, 3, 5, 6, 7, 8, 9, 10, 11, 12, 13, 14, 15, 16, 17, 18, 19, 20, 21, 22, 23, 24, 25, 26, 27, 28, 29, 30, 31, 32, 33, 34, 35, 36, 37], []⟩)⟩ (loopIn Try.prog 49 6)) (runC Try.prog (envOf [(65, F___astrolaberef2_Acc__Clamp f___astrolaberef2_Acc__Clamp)]) ⟨[⟨2, [1, 2, 6, 7, 8, 9, 10, 11, 12, 13, 14, 15, 16, 17, 18, 19, 20, 21, 22, 23, 24, 25, 26, 27, 28, 29, 30, 31, 32, 33, 34, 35, 36, 37], []⟩, ⟨6, [1, 2, 5, 7, 8, 9, 10, 11, 12, 13, 14, 15, 16, 17, 18, 19, 20, 21, 22, 23, 24, 25, 26, 27, 28, 29, 30, 31, 32, 33, 34, 35, 36, 37], []⟩], [⟨2, 1, @R_astrolaberef9_Condition_0 (@L_astrolaberef9_Condition_0)⟩, ⟨6, 1, @R_astrolaberef9_Condition_1 (@L_astrolaberef9_Condition_1)⟩], [0], [], (some ⟨0, [0, 1, 2, 3, 5, 6, 7, 8, 9, 10, 11, 12, 13, 14, 15, 16, 17, 18, 19, 20, 21, 22, 23, 24, 25, 26, 27, 28, 29, 30, 31, 32, 33, 34, 35, 36, 37], []⟩)⟩ (tmpsOf Try.prog 49) 1 1000 (loopIn Try.prog 49 6)) K 1000
      (St.mk
    [AV.r (RV.c (CV.ptr 0 (Off.k 0) 1)), AV.und, AV.und, AV.r (RV.c (CV.ptr 1 (Off.k 0) 300)), AV.r (RV.c (CV.ptr 2 (Off.k 0) 300)), AV.und, AV.r (RV.c (CV.f (FV.i IntKind.i64 x0))), AV.und, AV.und,
      AV.und, AV.und, AV.und, AV.und, AV.und, AV.und, AV.und, AV.und, AV.und, AV.und, AV.und, AV.und, AV.und, AV.und, AV.und, AV.und, AV.und, AV.und, AV.und, AV.und, AV.und, AV.und, AV.und, AV.und,
      AV.und, AV.und, AV.und, AV.und, AV.und]
    [some [Sg.c (CV.f (FV.b x1))], some [Sg.a (Sz.l 276) [Col.i IntKind.i64 x2], Sg.a (Sz.l 24) [Col.i IntKind.i64 x3]],
      some [Sg.a (Sz.l 276) [Col.i IntKind.i64 x4], Sg.a (Sz.l 24) [Col.i IntKind.i64 x5]]]
    [0]) = L_astrolaberef9_Condition_1 (x0, x1, x2, x3, x4, x5) (fun d => K (AX.ex 2) (St.mk
  [AV.r (RV.c (CV.ptr 0 (Off.k 0) 1)), AV.und, AV.und, AV.r (RV.c (CV.ptr 1 (Off.k 0) 300)), AV.r (RV.c (CV.ptr 2 (Off.k 0) 300)), AV.und, AV.r (RV.c (CV.f (FV.i IntKind.i64 d.1))), AV.und, AV.und,
    AV.und, AV.und, AV.und, AV.und, AV.und, AV.und, AV.und, AV.und, AV.und, AV.und, AV.und, AV.und, AV.und, AV.r (RV.c (CV.f (FV.i IntKind.i64 d.1))), AV.r (RV.c (CV.f (FV.b d.2.1))), AV.und,
    AV.und, AV.und, AV.und, AV.und, AV.und, AV.und, AV.und, AV.und, AV.und, AV.und, AV.und, AV.und, AV.und]
  [some [Sg.c (CV.f (FV.b d.2.2.1))], some [Sg.a (Sz.l 276) [Col.i IntKind.i64 d.2.2.2.1], Sg.a (Sz.l 24) [Col.i IntKind.i64 d.2.2.2.2.1]],
    some [Sg.a (Sz.l 276) [Col.i IntKind.i64 d.2.2.2.2.2.1], Sg.a (Sz.l 24) [Col.i IntKind.i64 d.2.2.2.2.2.2]]]
  [0])) :=
  iter_loopX (emb := fun (d : Int × Bool × (Nat → Int) × (Nat → Int) × (Nat → Int) × (Nat → Int)) => St.mk
  [AV.r (RV.c (CV.ptr 0 (Off.k 0) 1)), AV.und, AV.und, AV.r (RV.c (CV.ptr 1 (Off.k 0) 300)), AV.r (RV.c (CV.ptr 2 (Off.k 0) 300)), AV.und, AV.r (RV.c (CV.f (FV.i IntKind.i64 d.1))), AV.und, AV.und,
    AV.und, AV.und, AV.und, AV.und, AV.und, AV.und, AV.und, AV.und, AV.und, AV.und, AV.und, AV.und, AV.und, AV.und, AV.und, AV.und, AV.und, AV.und, AV.und, AV.und, AV.und, AV.und, AV.und, AV.und,
    AV.und, AV.und, AV.und, AV.und, AV.und]
  [some [Sg.c (CV.f (FV.b d.2.1))], some [Sg.a (Sz.l 276) [Col.i IntKind.i64 d.2.2.1], Sg.a (Sz.l 24) [Col.i IntKind.i64 d.2.2.2.1]],
    some [Sg.a (Sz.l 276) [Col.i IntKind.i64 d.2.2.2.2.1], Sg.a (Sz.l 24) [Col.i IntKind.i64 d.2.2.2.2.2]]]
  [0]) (step := fun d c x => S_astrolaberef9_Condition_1 f___astrolaberef2_Acc__Clamp  d.1 d.2.1 d.2.2.1 d.2.2.2.1 d.2.2.2.2.1 d.2.2.2.2.2 c x) (kx := (fun d => K (AX.ex 2) (St.mk
  [AV.r (RV.c (CV.ptr 0 (Off.k 0) 1)), AV.und, AV.und, AV.r (RV.c (CV.ptr 1 (Off.k 0) 300)), AV.r (RV.c (CV.ptr 2 (Off.k 0) 300)), AV.und, AV.r (RV.c (CV.f (FV.i IntKind.i64 d.1))), AV.und, AV.und,
    AV.und, AV.und, AV.und, AV.und, AV.und, AV.und, AV.und, AV.und, AV.und, AV.und, AV.und, AV.und, AV.und, AV.r (RV.c (CV.f (FV.i IntKind.i64 d.1))), AV.r (RV.c (CV.f (FV.b d.2.1))), AV.und,
    AV.und, AV.und, AV.und, AV.und, AV.und, AV.und, AV.und, AV.und, AV.und, AV.und, AV.und, AV.und, AV.und]
  [some [Sg.c (CV.f (FV.b d.2.2.1))], some [Sg.a (Sz.l 276) [Col.i IntKind.i64 d.2.2.2.1], Sg.a (Sz.l 24) [Col.i IntKind.i64 d.2.2.2.2.1]],
    some [Sg.a (Sz.l 276) [Col.i IntKind.i64 d.2.2.2.2.2.1], Sg.a (Sz.l 24) [Col.i IntKind.i64 d.2.2.2.2.2.2]]]
  [0])))
    (fun d c => ds_astrolaberef9_Condition_1 f___astrolaberef2_Acc__Clamp (@L_astrolaberef9_Condition_0) (@L_astrolaberef9_Condition_1) d.1 d.2.1 d.2.2.1 d.2.2.2.1 d.2.2.2.2.1 d.2.2.2.2.2 c K) 1000 (x0, x1, x2, x3, x4, x5)
theorem so_astrolaberef9_Condition_1 : ∀ kk, SumOK Try.prog (envOf [(65, F___astrolaberef2_Acc__Clamp f___astrolaberef2_Acc__Clamp)]) ⟨[⟨2, [1, 2, 6, 7, 8, 9, 10, 11, 12, 13, 14, 15, 16, 17, 18, 19, 20, 21, 22, 23, 24, 25, 26, 27, 28, 29, 30, 31, 32, 33, 34, 35, 36, 37], []⟩, ⟨6, [1, 2, 5, 7, 8, 9, 10, 11, 12, 13, 14, 15, 16, 17, 18, 19, 20, 21, 22, 23, 24, 25, 26, 27, 28, 29, 30, 31, 32, 33, 34, 35, 36, 37], []⟩], [⟨2, 1, @R_astrolaberef9_Condition_0 (@L_astrolaberef9_Condition_0)⟩, ⟨6, 1, @R_astrolaberef9_Condition_1 (@L_astrolaberef9_Condition_1)⟩], [0], [], (some ⟨0, [0, 1, 2, 3, 5, 6, 7, 8, 9, 10, 11, 12, 13, 14, 15, 16, 17, 18, 19, 20, 21, 22, 23, 24, 25, 26, 27, 28, 29, 30, 31, 32, 33, 34, 35, 36, 37], []⟩)⟩ (tmpsOf Try.prog 49) kk 1000 (loopIn Try.prog 49 6) :=
  SumOK.of (id := 6) (k0 := 1) (run := @R_astrolaberef9_Condition_1 (@L_astrolaberef9_Condition_1)) (by kernel_rfl) fun s K r hr => by
    unfold R_astrolaberef9_Condition_1 at hr
    obtain ⟨b, hb, hr1⟩ := Option.bind_eq_some_iff.1 hr
    have e := ((Q_astrolaberef9_Condition_1).ok s b hb).trans (q_astrolaberef9_Condition_1 b)
    subst e
    exact ⟨1000, (it_astrolaberef9_Condition_1 b.1.2.2.2.2.2.2.1 b.2.1.1.1 b.2.1.2.1.1.2.1 b.2.1.2.1.2.1.2.1 b.2.1.2.2.1.1.2.1 b.2.1.2.2.1.2.1.2.1 K).trans hr1⟩
def K_astrolaberef9_Condition {ρ : Type} (g___astrolaberef2_Acc__Clamp : Int → Int → Int → Bool → Option (Int × Bool)) (l_0 : ∀ {ρ : Type}, (Int × Bool × (Nat → Int) × (Nat → Int) × (Nat → Int) × (Nat → Int)) → ((Int × Bool × Bool × (Nat → Int) × (Nat → Int) × (Nat → Int) × (Nat → Int)) → Option ρ) → Option ρ) (l_1 : ∀ {ρ : Type}, (Int × Bool × (Nat → Int) × (Nat → Int) × (Nat → Int) × (Nat → Int)) → ((Int × Bool × Bool × (Nat → Int) × (Nat → Int) × (Nat → Int) × (Nat → Int)) → Option ρ) → Option ρ) (x0 : Nat → Int) (x1 : Nat → Int) (x2 : Bool) (k : ((Nat → Int) × (Nat → Int) × Bool) → Option ρ) : Option ρ :=
  l_0 (0, x2, x0, x1, fun (x : Nat) => 0, fun (x : Nat) => 0) fun (d : Int × Bool × Bool × (Nat → Int) × (Nat → Int) × (Nat → Int) × (Nat → Int)) =>
    l_1 (0, d.2.2.1, d.2.2.2.1, d.2.2.2.2.1, d.2.2.2.2.2.1, d.2.2.2.2.2.2) fun (d : Int × Bool × Bool × (Nat → Int) × (Nat → Int) × (Nat → Int) × (Nat → Int)) =>
      k (d.2.2.2.1, d.2.2.2.2.1, d.2.2.1)
def f_astrolaberef9_Condition (x0 : Nat → Int) (x1 : Nat → Int) (x2 : Bool) : Option ((Nat → Int) × (Nat → Int) × Bool) := K_astrolaberef9_Condition f___astrolaberef2_Acc__Clamp (@L_astrolaberef9_Condition_0) (@L_astrolaberef9_Condition_1) x0 x1 x2 some
section
open Go.Ab.Rdr
def QA_astrolaberef9_Condition := ((pair (cons (ar (rc (cptr (nat 0) (ok' (nat 0)) (nat 1)))) (cons (ar (ra (cons (ga (szl (nat 276)) (cons (ki .i64 hole) nil)) (cons (ga (szl (nat 24)) (cons (ki .i64 hole) nil)) nil)))) nil)) (cons (cons (gc (cf (fb hole))) nil) nil)) : Rdr (List AV × List Blk) _)
end
def F_astrolaberef9_Condition (f : (Nat → Int) → (Nat → Int) → (Bool) → Option ((Nat → Int) × (Nat → Int) × Bool)) : Sem1 := fun args h => match (QA_astrolaberef9_Condition).rd (args, h) with
  | some b => .opt (f b.1.2.1.1.2.1 b.1.2.1.2.1.2.1 b.2.1.1) fun (d : (Nat → Int) × (Nat → Int) × Bool) => .leaf (Res.mk (AV.r (RV.agg [Sg.a (Sz.l 276) [Col.i IntKind.i64 d.1], Sg.a (Sz.l 24) [Col.i IntKind.i64 d.2.1]])) [Ch.set [Sg.c (CV.f (FV.b d.2.2))]] [])
  | none => .fail
theorem d_astrolaberef9_Condition (g___astrolaberef2_Acc__Clamp : Int → Int → Int → Bool → Option (Int × Bool)) (l_0 : ∀ {ρ : Type}, (Int × Bool × (Nat → Int) × (Nat → Int) × (Nat → Int) × (Nat → Int)) → ((Int × Bool × Bool × (Nat → Int) × (Nat → Int) × (Nat → Int) × (Nat → Int)) → Option ρ) → Option ρ) (l_1 : ∀ {ρ : Type}, (Int × Bool × (Nat → Int) × (Nat → Int) × (Nat → Int) × (Nat → Int)) → ((Int × Bool × Bool × (Nat → Int) × (Nat → Int) × (Nat → Int) × (Nat → Int)) → Option ρ) → Option ρ) (x0 : Nat → Int) (x1 : Nat → Int) (x2 : Bool) : den Try.prog (envOf [(65, F___astrolaberef2_Acc__Clamp g___astrolaberef2_Acc__Clamp)]) ⟨[⟨2, [1, 2, 6, 7, 8, 9, 10, 11, 12, 13, 14, 15, 16, 17, 18, 19, 20, 21, 22, 23, 24, 25, 26, 27, 28, 29, 30, 31, 32, 33, 34, 35, 36, 37], []⟩, ⟨6, [1, 2, 5, 7, 8, 9, 10, 11, 12, 13, 14, 15, 16, 17, 18, 19, 20, 21, 22, 23, 24, 25, 26, 27, 28, 29, 30, 31, 32, 33, 34, 35, 36, 37], []⟩], [⟨2, 1, @R_astrolaberef9_Condition_0 (@l_0)⟩, ⟨6, 1, @R_astrolaberef9_Condition_1 (@l_1)⟩], [0], [], (some ⟨0, [0, 1, 2, 3, 5, 6, 7, 8, 9, 10, 11, 12, 13, 14, 15, 16, 17, 18, 19, 20, 21, 22, 23, 24, 25, 26, 27, 28, 29, 30, 31, 32, 33, 34, 35, 36, 37], []⟩)⟩ 1000 49 [.r (.c (.ptr 0 (.k 0) 1)), .r (.agg [.a (.l 276) [.i .i64 x0], .a (.l 24) [.i .i64 x1]])] [[.c (.f (.b x2))]] =
    K_astrolaberef9_Condition g___astrolaberef2_Acc__Clamp (@l_0) (@l_1) x0 x1 x2 (fun (d : (Nat → Int) × (Nat → Int) × Bool) => some (Res.mk (AV.r (RV.agg [Sg.a (Sz.l 276) [Col.i IntKind.i64 d.1], Sg.a (Sz.l 24) [Col.i IntKind.i64 d.2.1]])) [Ch.set [Sg.c (CV.f (FV.b d.2.2))]] [])) := by kernel_rfl
theorem m_astrolaberef9_Condition {ρ σ : Type} (q : ρ → Option σ) (g___astrolaberef2_Acc__Clamp : Int → Int → Int → Bool → Option (Int × Bool)) (l_0 : ∀ {ρ : Type}, (Int × Bool × (Nat → Int) × (Nat → Int) × (Nat → Int) × (Nat → Int)) → ((Int × Bool × Bool × (Nat → Int) × (Nat → Int) × (Nat → Int) × (Nat → Int)) → Option ρ) → Option ρ) (l_1 : ∀ {ρ : Type}, (Int × Bool × (Nat → Int) × (Nat → Int) × (Nat → Int) × (Nat → Int)) → ((Int × Bool × Bool × (Nat → Int) × (Nat → Int) × (Nat → Int) × (Nat → Int)) → Option ρ) → Option ρ) (hl_0 : ∀ {ρ σ : Type} (q : ρ → Option σ) (d : Int × Bool × (Nat → Int) × (Nat → Int) × (Nat → Int) × (Nat → Int)) (k : (Int × Bool × Bool × (Nat → Int) × (Nat → Int) × (Nat → Int) × (Nat → Int)) → Option ρ), (l_0 d k).bind q = l_0 d fun x => (k x).bind q) (hl_1 : ∀ {ρ σ : Type} (q : ρ → Option σ) (d : Int × Bool × (Nat → Int) × (Nat → Int) × (Nat → Int) × (Nat → Int)) (k : (Int × Bool × Bool × (Nat → Int) × (Nat → Int) × (Nat → Int) × (Nat → Int)) → Option ρ), (l_1 d k).bind q = l_1 d fun x => (k x).bind q) (x0 : Nat → Int) (x1 : Nat → Int) (x2 : Bool) (k : ((Nat → Int) × (Nat → Int) × Bool) → Option ρ) : (K_astrolaberef9_Condition g___astrolaberef2_Acc__Clamp (@l_0) (@l_1) x0 x1 x2 k).bind q = K_astrolaberef9_Condition g___astrolaberef2_Acc__Clamp (@l_0) (@l_1) x0 x1 x2 (fun d => (k d).bind q) := by
  simp only [K_astrolaberef9_Condition, bnd_cond, bnd_bind, bnd_none, bnd_sum, hl_0, hl_1]
theorem qa_astrolaberef9_Condition : ∀ b, (QA_astrolaberef9_Condition).em b = ([.r (.c (.ptr 0 (.k 0) 1)), .r (.agg [.a (.l 276) [.i .i64 b.1.2.1.1.2.1], .a (.l 24) [.i .i64 b.1.2.1.2.1.2.1]])], [[.c (.f (.b b.2.1.1))]]) := fun b => by kernel_rfl
theorem e_astrolaberef9_Condition {f : (Nat → Int) → (Nat → Int) → (Bool) → Option ((Nat → Int) × (Nat → Int) × Bool)} {args : List AV} {h : List Blk} {r : Res} (hr : (F_astrolaberef9_Condition f args h).eval = some r) : ∃ x0 x1 x2, args = [.r (.c (.ptr 0 (.k 0) 1)), .r (.agg [.a (.l 276) [.i .i64 x0], .a (.l 24) [.i .i64 x1]])] ∧ h = [[.c (.f (.b x2))]] ∧ (f x0 x1 x2).bind (fun (d : (Nat → Int) × (Nat → Int) × Bool) => some (Res.mk (AV.r (RV.agg [Sg.a (Sz.l 276) [Col.i IntKind.i64 d.1], Sg.a (Sz.l 24) [Col.i IntKind.i64 d.2.1]])) [Ch.set [Sg.c (CV.f (FV.b d.2.2))]] [])) = some r := by
  unfold F_astrolaberef9_Condition at hr
  split at hr
  · rename_i b hb
    have e := ((QA_astrolaberef9_Condition).ok _ _ hb).trans (qa_astrolaberef9_Condition b)
    rw [opt_eval2] at hr
    exact ⟨b.1.2.1.1.2.1, b.1.2.1.2.1.2.1, b.2.1.1, (Prod.mk.inj e).1, (Prod.mk.inj e).2, hr⟩
  · cases hr
theorem n_astrolaberef9_Condition {σ : Type} (q : ((Nat → Int) × (Nat → Int) × Bool) → Option σ) (x0 : Nat → Int) (x1 : Nat → Int) (x2 : Bool) : (f_astrolaberef9_Condition x0 x1 x2).bind q = K_astrolaberef9_Condition f___astrolaberef2_Acc__Clamp (@L_astrolaberef9_Condition_0) (@L_astrolaberef9_Condition_1) x0 x1 x2 q := by
  unfold f_astrolaberef9_Condition
  exact m_astrolaberef9_Condition q f___astrolaberef2_Acc__Clamp (@L_astrolaberef9_Condition_0) (@L_astrolaberef9_Condition_1) (fun q d k => mL_astrolaberef9_Condition_0 q d k) (fun q d k => mL_astrolaberef9_Condition_1 q d k) x0 x1 x2 some
theorem s_astrolaberef9_Condition : Sound Try.prog 49 (F_astrolaberef9_Condition f_astrolaberef9_Condition) :=
  (inl_sums (l := [(65, F___astrolaberef2_Acc__Clamp f___astrolaberef2_Acc__Clamp)]) (.cons s___astrolaberef2_Acc__Clamp (.nil _)) mixed (hs := ⟨[⟨2, [1, 2, 6, 7, 8, 9, 10, 11, 12, 13, 14, 15, 16, 17, 18, 19, 20, 21, 22, 23, 24, 25, 26, 27, 28, 29, 30, 31, 32, 33, 34, 35, 36, 37], []⟩, ⟨6, [1, 2, 5, 7, 8, 9, 10, 11, 12, 13, 14, 15, 16, 17, 18, 19, 20, 21, 22, 23, 24, 25, 26, 27, 28, 29, 30, 31, 32, 33, 34, 35, 36, 37], []⟩], [⟨2, 1, @R_astrolaberef9_Condition_0 (@L_astrolaberef9_Condition_0)⟩, ⟨6, 1, @R_astrolaberef9_Condition_1 (@L_astrolaberef9_Condition_1)⟩], [0], [], (some ⟨0, [0, 1, 2, 3, 5, 6, 7, 8, 9, 10, 11, 12, 13, 14, 15, 16, 17, 18, 19, 20, 21, 22, 23, 24, 25, 26, 27, 28, 29, 30, 31, 32, 33, 34, 35, 36, 37], []⟩)⟩) (lf := 1000) (Sums.by (l := [loopIn Try.prog 49 2, loopIn Try.prog 49 6]) (lj := []) (by kernel_rfl) ⟨so_astrolaberef9_Condition_0, ⟨so_astrolaberef9_Condition_1, trivial⟩⟩ (by kernel_rfl) trivial) (by kernel_rfl)).by (F := F_astrolaberef9_Condition f_astrolaberef9_Condition) fun args b r hr => by
  obtain ⟨x0, x1, x2, rfl, rfl, hr1⟩ := e_astrolaberef9_Condition hr
  exact inl_eval ((d_astrolaberef9_Condition f___astrolaberef2_Acc__Clamp (@L_astrolaberef9_Condition_0) (@L_astrolaberef9_Condition_1) x0 x1 x2).trans ((n_astrolaberef9_Condition (fun (d : (Nat → Int) × (Nat → Int) × Bool) => some (Res.mk (AV.r (RV.agg [Sg.a (Sz.l 276) [Col.i IntKind.i64 d.1], Sg.a (Sz.l 24) [Col.i IntKind.i64 d.2.1]])) [Ch.set [Sg.c (CV.f (FV.b d.2.2))]] [])) x0 x1 x2).symm.trans hr1))

def S_astrolabelaw9_made_0 {ρ : Type} (g_tri_New : Nat → Bool → (Nat → Int) → Bool → Option ((Nat → Int) × (Nat → Int) × Bool)) (g___astrolaberef2_Acc__Clamp : Int → Int → Int → Bool → Option (Int × Bool))  (x0 : Nat) (x1 : Bool) (x2 : Int) (x3 : Nat) (x4 : Nat → Int) (x5 : Bool) (x6 : Bool) (x7 : Nat → Int) (x8 : Nat → Int) (x9 : Nat → Int) (x10 : Nat → Int) (c : (Nat × Bool × Int × Nat × (Nat → Int) × Bool × Bool × (Nat → Int) × (Nat → Int) × (Nat → Int) × (Nat → Int)) → Option ρ) (x : (Nat × Bool × Int × Bool × Nat × (Nat → Int) × Bool × Bool × (Nat → Int) × (Nat → Int) × (Nat → Int) × (Nat → Int)) → Option ρ) : Option ρ :=
  bif decide (x2 < 24) then
    bif inR x2 24 then
      bif true && Nat.ble (276 + Int.toNat x2 * 1 + 1) 300 then
        bif decide (x2 < Int.ofNat x0) then
          bif inR x2 x0 then
            Option.bind (g___astrolaberef2_Acc__Clamp (x4 (Int.toNat x2)) 1 72057594037927936 x6) fun (d : Int × Bool) =>
              bif inR x2 24 then
                bif true && Nat.ble (276 + Int.toNat x2 * 1 + 1) 300 then
                  c
                    (x0, x1, IntKind.wrap IntKind.i64 (x2 + 1), x3, x4, x5, d.2, x7, x8, x9, fun (j : Nat) =>
                      bif Nat.beq j (Int.toNat x2) then d.1 else bif Nat.beq j (Int.toNat x2) then 1 else x10 j)
                else none
              else none
          else none
        else c (x0, x1, IntKind.wrap IntKind.i64 (x2 + 1), x3, x4, x5, x6, x7, x8, x9, fun (j : Nat) => bif Nat.beq j (Int.toNat x2) then 1 else x10 j)
      else none
    else none
  else x (x0, x1, x2, decide (x2 < 24), x3, x4, x5, x6, x7, x8, x9, x10)
section
open Go.Ab.Rdr
def Q_astrolabelaw9_made_0 := (st (cons (ar (rc (csl (nat 0) (ok' (nat 0)) (szs hole) (nat 1) hole))) (cons aund (cons aund (cons (ar (rc (cptr (nat 1) (ok' (nat 0)) (nat 1)))) (cons (ar (rc (cptr (nat 2) (ok' (nat 0)) (nat 1)))) (cons (ar (rc (cptr (nat 3) (ok' (nat 0)) (nat 300)))) (cons (ar (rc (cptr (nat 4) (ok' (nat 0)) (nat 300)))) (cons (ar (rc (cf (fi .i64 hole)))) (cons aund (cons aund (cons aund (cons aund (cons aund (cons aund (cons aund (cons aund (cons aund (cons aund (cons aund (cons aund (cons aund (cons aund (cons aund (cons aund (cons aund (cons aund (cons aund (cons aund (cons aund (cons aund (cons aund (cons aund (cons aund (cons aund (cons aund (cons aund (cons aund (cons aund (cons aund (cons aund (cons aund (cons aund (cons aund (cons aund (cons (atup nil) (cons (atup nil) (cons (atup nil) (cons (atup nil) (cons (atup nil) (cons (atup nil) (cons (atup nil) (cons (atup nil) (cons (atup nil) (cons (atup nil) (cons aund nil))))))))))))))))))))))))))))))))))))))))))))))))))))))) (cons (some' (cons (ga (szs hole) (cons (ki .i64 hole) nil)) nil)) (cons (some' (cons (gc (cf (fb hole))) nil)) (cons (some' (cons (gc (cf (fb hole))) nil)) (cons (some' (cons (ga (szl (nat 276)) (cons (ki .i64 hole) nil)) (cons (ga (szl (nat 24)) (cons (ki .i64 hole) nil)) nil))) (cons (some' (cons (ga (szl (nat 276)) (cons (ki .i64 hole) nil)) (cons (ga (szl (nat 24)) (cons (ki .i64 hole) nil)) nil))) nil))))) nil)
end
theorem q_astrolabelaw9_made_0 : ∀ b, (Q_astrolabelaw9_made_0).em b = St.mk
    [AV.r (RV.c (CV.sl 0 (Off.k 0) (Sz.s b.1.1.2.2.1) 1 b.1.1.2.2.2.2)), AV.und, AV.und, AV.r (RV.c (CV.ptr 1 (Off.k 0) 1)), AV.r (RV.c (CV.ptr 2 (Off.k 0) 1)), AV.r (RV.c (CV.ptr 3 (Off.k 0) 300)),
      AV.r (RV.c (CV.ptr 4 (Off.k 0) 300)), AV.r (RV.c (CV.f (FV.i IntKind.i64 b.1.2.2.2.2.2.2.2.1))), AV.und, AV.und, AV.und, AV.und, AV.und, AV.und, AV.und, AV.und, AV.und, AV.und, AV.und, AV.und, AV.und, AV.und,
      AV.und, AV.und, AV.und, AV.und, AV.und, AV.und, AV.und, AV.und, AV.und, AV.und, AV.und, AV.und, AV.und, AV.und, AV.und, AV.und, AV.und, AV.und, AV.und, AV.und, AV.und, AV.und, AV.tup [],
      AV.tup [], AV.tup [], AV.tup [], AV.tup [], AV.tup [], AV.tup [], AV.tup [], AV.tup [], AV.tup [], AV.und]
    [some [Sg.a (Sz.s b.2.1.1.1.1) [Col.i IntKind.i64 b.2.1.1.1.2.1]], some [Sg.c (CV.f (FV.b b.2.1.2.1.1))], some [Sg.c (CV.f (FV.b b.2.1.2.2.1.1))], some [Sg.a (Sz.l 276) [Col.i IntKind.i64 b.2.1.2.2.2.1.1.2.1], Sg.a (Sz.l 24) [Col.i IntKind.i64 b.2.1.2.2.2.1.2.1.2.1]],
      some [Sg.a (Sz.l 276) [Col.i IntKind.i64 b.2.1.2.2.2.2.1.1.2.1], Sg.a (Sz.l 24) [Col.i IntKind.i64 b.2.1.2.2.2.2.1.2.1.2.1]]]
    [] := fun b => by kernel_rfl
def R_astrolabelaw9_made_0 (l : ∀ {ρ : Type}, (Nat × Bool × Int × Nat × (Nat → Int) × Bool × Bool × (Nat → Int) × (Nat → Int) × (Nat → Int) × (Nat → Int)) → ((Nat × Bool × Int × Bool × Nat × (Nat → Int) × Bool × Bool × (Nat → Int) × (Nat → Int) × (Nat → Int) × (Nat → Int)) → Option ρ) → Option ρ) {ρ : Type} (s : St) (K : AX → St → Option ρ) : Option ρ := ((Q_astrolabelaw9_made_0).rd s).bind fun b => l (b.1.1.2.2.1, b.1.1.2.2.2.2, b.1.2.2.2.2.2.2.2.1, b.2.1.1.1.1, b.2.1.1.1.2.1, b.2.1.2.1.1, b.2.1.2.2.1.1, b.2.1.2.2.2.1.1.2.1, b.2.1.2.2.2.1.2.1.2.1, b.2.1.2.2.2.2.1.1.2.1, b.2.1.2.2.2.2.1.2.1.2.1) (fun d => K (AX.ex 0) (St.mk
  [AV.r (RV.c (CV.sl 0 (Off.k 0) (Sz.s d.1) 1 d.2.1)), AV.und, AV.und, AV.r (RV.c (CV.ptr 1 (Off.k 0) 1)), AV.r (RV.c (CV.ptr 2 (Off.k 0) 1)), AV.r (RV.c (CV.ptr 3 (Off.k 0) 300)),
    AV.r (RV.c (CV.ptr 4 (Off.k 0) 300)), AV.r (RV.c (CV.f (FV.i IntKind.i64 d.2.2.1))), AV.und, AV.und, AV.und, AV.und, AV.und, AV.und, AV.und, AV.und, AV.und, AV.und,
    AV.r (RV.c (CV.f (FV.i IntKind.i64 d.2.2.1))), AV.r (RV.c (CV.f (FV.b d.2.2.2.1))), AV.und, AV.und, AV.und, AV.und, AV.und, AV.und, AV.und, AV.und, AV.und, AV.und, AV.und, AV.und,
    AV.und, AV.und, AV.und, AV.und, AV.und, AV.und, AV.und, AV.und, AV.und, AV.und, AV.und, AV.und, AV.tup [], AV.tup [], AV.tup [], AV.tup [], AV.tup [], AV.tup [], AV.tup [], AV.tup [], AV.tup [],
    AV.tup [], AV.und]
  [some [Sg.a (Sz.s d.2.2.2.2.1) [Col.i IntKind.i64 d.2.2.2.2.2.1]], some [Sg.c (CV.f (FV.b d.2.2.2.2.2.2.1))],
    some [Sg.c (CV.f (FV.b d.2.2.2.2.2.2.2.1))],
    some [Sg.a (Sz.l 276) [Col.i IntKind.i64 d.2.2.2.2.2.2.2.2.1], Sg.a (Sz.l 24) [Col.i IntKind.i64 d.2.2.2.2.2.2.2.2.2.1]],
    some [Sg.a (Sz.l 276) [Col.i IntKind.i64 d.2.2.2.2.2.2.2.2.2.2.1], Sg.a (Sz.l 24) [Col.i IntKind.i64 d.2.2.2.2.2.2.2.2.2.2.2]]]
  []))
theorem ms_astrolabelaw9_made_0 {ρ σ : Type} (g_tri_New : Nat → Bool → (Nat → Int) → Bool → Option ((Nat → Int) × (Nat → Int) × Bool)) (g___astrolaberef2_Acc__Clamp : Int → Int → Int → Bool → Option (Int × Bool))   (q : ρ → Option σ) (x0 : Nat) (x1 : Bool) (x2 : Int) (x3 : Nat) (x4 : Nat → Int) (x5 : Bool) (x6 : Bool) (x7 : Nat → Int) (x8 : Nat → Int) (x9 : Nat → Int) (x10 : Nat → Int) (c : (Nat × Bool × Int × Nat × (Nat → Int) × Bool × Bool × (Nat → Int) × (Nat → Int) × (Nat → Int) × (Nat → Int)) → Option ρ) (x : (Nat × Bool × Int × Bool × Nat × (Nat → Int) × Bool × Bool × (Nat → Int) × (Nat → Int) × (Nat → Int) × (Nat → Int)) → Option ρ) : (S_astrolabelaw9_made_0 g_tri_New g___astrolaberef2_Acc__Clamp  x0 x1 x2 x3 x4 x5 x6 x7 x8 x9 x10 c x).bind q = S_astrolabelaw9_made_0 g_tri_New g___astrolaberef2_Acc__Clamp  x0 x1 x2 x3 x4 x5 x6 x7 x8 x9 x10 (fun d => (c d).bind q) (fun d => (x d).bind q) := by
  simp only [S_astrolabelaw9_made_0, bnd_cond, bnd_bind, bnd_none, bnd_sum]
def L_astrolabelaw9_made_0 {ρ : Type} (d : Nat × Bool × Int × Nat × (Nat → Int) × Bool × Bool × (Nat → Int) × (Nat → Int) × (Nat → Int) × (Nat → Int)) (k : (Nat × Bool × Int × Bool × Nat × (Nat → Int) × Bool × Bool × (Nat → Int) × (Nat → Int) × (Nat → Int) × (Nat → Int)) → Option ρ) : Option ρ := loopK (fun d c x => S_astrolabelaw9_made_0 f_tri_New f___astrolaberef2_Acc__Clamp  d.1 d.2.1 d.2.2.1 d.2.2.2.1 d.2.2.2.2.1 d.2.2.2.2.2.1 d.2.2.2.2.2.2.1 d.2.2.2.2.2.2.2.1 d.2.2.2.2.2.2.2.2.1 d.2.2.2.2.2.2.2.2.2.1 d.2.2.2.2.2.2.2.2.2.2 c x) 1000 d k
theorem mL_astrolabelaw9_made_0 {ρ σ : Type} (q : ρ → Option σ) (d : Nat × Bool × Int × Nat × (Nat → Int) × Bool × Bool × (Nat → Int) × (Nat → Int) × (Nat → Int) × (Nat → Int)) (k : (Nat × Bool × Int × Bool × Nat × (Nat → Int) × Bool × Bool × (Nat → Int) × (Nat → Int) × (Nat → Int) × (Nat → Int)) → Option ρ) : (L_astrolabelaw9_made_0 d k).bind q = L_astrolabelaw9_made_0 d fun x => (k x).bind q :=
  loopK_bind q (fun d c x => ms_astrolabelaw9_made_0 f_tri_New f___astrolaberef2_Acc__Clamp   q d.1 d.2.1 d.2.2.1 d.2.2.2.1 d.2.2.2.2.1 d.2.2.2.2.2.1 d.2.2.2.2.2.2.1 d.2.2.2.2.2.2.2.1 d.2.2.2.2.2.2.2.2.1 d.2.2.2.2.2.2.2.2.2.1 d.2.2.2.2.2.2.2.2.2.2 c x) k _ d
theorem ds_astrolabelaw9_made_0 {ρ : Type} (g_tri_New : Nat → Bool → (Nat → Int) → Bool → Option ((Nat → Int) × (Nat → Int) × Bool)) (g___astrolaberef2_Acc__Clamp : Int → Int → Int → Bool → Option (Int × Bool)) (l_0 : ∀ {ρ : Type}, (Nat × Bool × Int × Nat × (Nat → Int) × Bool × Bool × (Nat → Int) × (Nat → Int) × (Nat → Int) × (Nat → Int)) → ((Nat × Bool × Int × Bool × Nat × (Nat → Int) × Bool × Bool × (Nat → Int) × (Nat → Int) × (Nat → Int) × (Nat → Int)) → Option ρ) → Option ρ) (x0 : Nat) (x1 : Bool) (x2 : Int) (x3 : Nat) (x4 : Nat → Int) (x5 : Bool) (x6 : Bool) (x7 : Nat → Int) (x8 : Nat → Int) (x9 : Nat → Int) (x10 : Nat → Int) (c : St → Option ρ) (K : AX → St → Option ρ) :
    runC Try.prog (envOf [(40, F_tri_New g_tri_New), (65, F___astrolaberef2_Acc__Clamp g___astrolaberef2_Acc__Clamp)]) ⟨[⟨6, [1, 2, 8, 9, 10, 11, 12, 13, 14, 15, 16, 17, 18, 19, 20, 21, 22, 23, 24, 25, 26, 27, 28, 29, 30, 31, 32, 33, 34, 35, 36, 37, 38, 39, 40, 41, 42, 43, 54], []⟩], [⟨6, 1, @R_astrolabelaw9_made_0 (@l_0)⟩], [], [], (some ⟨0, [0, 1, 3, 4, 5, 6, 7, 8, 9, 10, 11, 12, 13, 14, 15, 16, 17, 18, 19, 20, 21, 22, 23, 24, 25, 26, 27, 28, 29, 30, 31, 32, 33, 34, 35, 36, 37, 38, 39, 40, 41, 42, 43, 44, 45, 46, 47, 48, 49, 50, 51, 52, 53, 54], []⟩)⟩ (tmpsOf Try.prog 52) 1 1000 (loopIn Try.prog 52 6)
      (St.mk
    [AV.r (RV.c (CV.sl 0 (Off.k 0) (Sz.s x0) 1 x1)), AV.und, AV.und, AV.r (RV.c (CV.ptr 1 (Off.k 0) 1)), AV.r (RV.c (CV.ptr 2 (Off.k 0) 1)), AV.r (RV.c (CV.ptr 3 (Off.k 0) 300)),
      AV.r (RV.c (CV.ptr 4 (Off.k 0) 300)), AV.r (RV.c (CV.f (FV.i IntKind.i64 x2))), AV.und, AV.und, AV.und, AV.und, AV.und, AV.und, AV.und, AV.und, AV.und, AV.und, AV.und, AV.und, AV.und, AV.und,
      AV.und, AV.und, AV.und, AV.und, AV.und, AV.und, AV.und, AV.und, AV.und, AV.und, AV.und, AV.und, AV.und, AV.und, AV.und, AV.und, AV.und, AV.und, AV.und, AV.und, AV.und, AV.und, AV.tup [],
      AV.tup [], AV.tup [], AV.tup [], AV.tup [], AV.tup [], AV.tup [], AV.tup [], AV.tup [], AV.tup [], AV.und]
    [some [Sg.a (Sz.s x3) [Col.i IntKind.i64 x4]], some [Sg.c (CV.f (FV.b x5))], some [Sg.c (CV.f (FV.b x6))], some [Sg.a (Sz.l 276) [Col.i IntKind.i64 x7], Sg.a (Sz.l 24) [Col.i IntKind.i64 x8]],
      some [Sg.a (Sz.l 276) [Col.i IntKind.i64 x9], Sg.a (Sz.l 24) [Col.i IntKind.i64 x10]]]
    [])
      (next (fun t => t.head 1 ⟨[⟨6, [1, 2, 8, 9, 10, 11, 12, 13, 14, 15, 16, 17, 18, 19, 20, 21, 22, 23, 24, 25, 26, 27, 28, 29, 30, 31, 32, 33, 34, 35, 36, 37, 38, 39, 40, 41, 42, 43, 54], []⟩], [⟨6, 1, @R_astrolabelaw9_made_0 (@l_0)⟩], [], [], (some ⟨0, [0, 1, 3, 4, 5, 6, 7, 8, 9, 10, 11, 12, 13, 14, 15, 16, 17, 18, 19, 20, 21, 22, 23, 24, 25, 26, 27, 28, 29, 30, 31, 32, 33, 34, 35, 36, 37, 38, 39, 40, 41, 42, 43, 44, 45, 46, 47, 48, 49, 50, 51, 52, 53, 54], []⟩)⟩ (loopIn Try.prog 52 6)) c K) =
    S_astrolabelaw9_made_0 g_tri_New g___astrolaberef2_Acc__Clamp  x0 x1 x2 x3 x4 x5 x6 x7 x8 x9 x10 (fun d => c (St.mk
  [AV.r (RV.c (CV.sl 0 (Off.k 0) (Sz.s d.1) 1 d.2.1)), AV.und, AV.und, AV.r (RV.c (CV.ptr 1 (Off.k 0) 1)), AV.r (RV.c (CV.ptr 2 (Off.k 0) 1)), AV.r (RV.c (CV.ptr 3 (Off.k 0) 300)),
    AV.r (RV.c (CV.ptr 4 (Off.k 0) 300)), AV.r (RV.c (CV.f (FV.i IntKind.i64 d.2.2.1))), AV.und, AV.und, AV.und, AV.und, AV.und, AV.und, AV.und, AV.und, AV.und, AV.und, AV.und, AV.und, AV.und,
    AV.und, AV.und, AV.und, AV.und, AV.und, AV.und, AV.und, AV.und, AV.und, AV.und, AV.und, AV.und, AV.und, AV.und, AV.und, AV.und, AV.und, AV.und, AV.und, AV.und, AV.und, AV.und, AV.und, AV.tup [],
    AV.tup [], AV.tup [], AV.tup [], AV.tup [], AV.tup [], AV.tup [], AV.tup [], AV.tup [], AV.tup [], AV.und]
  [some [Sg.a (Sz.s d.2.2.2.1) [Col.i IntKind.i64 d.2.2.2.2.1]], some [Sg.c (CV.f (FV.b d.2.2.2.2.2.1))], some [Sg.c (CV.f (FV.b d.2.2.2.2.2.2.1))],
    some [Sg.a (Sz.l 276) [Col.i IntKind.i64 d.2.2.2.2.2.2.2.1], Sg.a (Sz.l 24) [Col.i IntKind.i64 d.2.2.2.2.2.2.2.2.1]],
    some [Sg.a (Sz.l 276) [Col.i IntKind.i64 d.2.2.2.2.2.2.2.2.2.1], Sg.a (Sz.l 24) [Col.i IntKind.i64 d.2.2.2.2.2.2.2.2.2.2]]]
  [])) (fun d => K (AX.ex 0) (St.mk
  [AV.r (RV.c (CV.sl 0 (Off.k 0) (Sz.s d.1) 1 d.2.1)), AV.und, AV.und, AV.r (RV.c (CV.ptr 1 (Off.k 0) 1)), AV.r (RV.c (CV.ptr 2 (Off.k 0) 1)), AV.r (RV.c (CV.ptr 3 (Off.k 0) 300)),
    AV.r (RV.c (CV.ptr 4 (Off.k 0) 300)), AV.r (RV.c (CV.f (FV.i IntKind.i64 d.2.2.1))), AV.und, AV.und, AV.und, AV.und, AV.und, AV.und, AV.und, AV.und, AV.und, AV.und,
    AV.r (RV.c (CV.f (FV.i IntKind.i64 d.2.2.1))), AV.r (RV.c (CV.f (FV.b d.2.2.2.1))), AV.und, AV.und, AV.und, AV.und, AV.und, AV.und, AV.und, AV.und, AV.und, AV.und, AV.und, AV.und,
    AV.und, AV.und, AV.und, AV.und, AV.und, AV.und, AV.und, AV.und, AV.und, AV.und, AV.und, AV.und, AV.tup [], AV.tup [], AV.tup [], AV.tup [], AV.tup [], AV.tup [], AV.tup [], AV.tup [], AV.tup [],
    AV.tup [], AV.und]
  [some [Sg.a (Sz.s d.2.2.2.2.1) [Col.i IntKind.i64 d.2.2.2.2.2.1]], some [Sg.c (CV.f (FV.b d.2.2.2.2.2.2.1))],
    some [Sg.c (CV.f (FV.b d.2.2.2.2.2.2.2.1))],
    some [Sg.a (Sz.l 276) [Col.i IntKind.i64 d.2.2.2.2.2.2.2.2.1], Sg.a (Sz.l 24) [Col.i IntKind.i64 d.2.2.2.2.2.2.2.2.2.1]],
    some [Sg.a (Sz.l 276) [Col.i IntKind.i64 d.2.2.2.2.2.2.2.2.2.2.1], Sg.a (Sz.l 24) [Col.i IntKind.i64 d.2.2.2.2.2.2.2.2.2.2.2]]]
  [])) := by kernel_rfl
theorem it_astrolabelaw9_made_0 {ρ : Type} (x0 : Nat) (x1 : Bool) (x2 : Int) (x3 : Nat) (x4 : Nat → Int) (x5 : Bool) (x6 : Bool) (x7 : Nat → Int) (x8 : Nat → Int) (x9 : Nat → Int) (x10 : Nat → Int) (K : AX → St → Option ρ) :
    iter (fun t => t.head 1 ⟨[⟨6, [1, 2, 8, 9, 10, 11, 12, 13, 14, 15, 16, 17, 18, 19, 20, 21, 22, 23, 24, 25, 26, 27, 28, 29, 30, 31, 32, 33, 34, 35, 36, 37, 38, 39, 40, 41, 42, 43, 54], []⟩], [⟨6, 1, @R_astrolabelaw9_made_0 (@L_astrolabelaw9_made_0)⟩], [], [], (some ⟨0, [0, 1, 3, 4, 5, 6, 7, 8, 9, 10, 11, 12, 13, 14, 15, 16, 17, 18, 19, 20, 21, 22, 23, 24, 25, 26, 27, 28, 29, 30, 31, 32, 33, 34, 35, 36, 37, 38, 39, 40, 41, 42, 43, 44, 45, 46, 47, 48, 49, 50, 51, 52, 53, 54], []⟩)⟩ (loopIn Try.prog 52 6)) (runC Try.prog (envOf [(40, F_tri_New f_tri_New), (65, F___astrolaberef2_Acc__Clamp f___astrolaberef2_Acc__Clamp)]) ⟨[⟨6, [1, 2, 8, 9, 10, 11, 12, 13, 14, 15, 16, 17, 18, 19, 20, 21, 22, 23, 24, 25, 26, 27, 28, 29, 30, 31, 32, 33, 34, 35, 36, 37, 38, 39, 40, 41, 42, 43, 54], []⟩], [⟨6, 1, @R_astrolabelaw9_made_0 (@L_astrolabelaw9_made_0)⟩], [], [], (some ⟨0, [0, 1, 3, 4, 5, 6, 7, 8, 9, 10, 11, 12, 13, 14, 15, 16, 17, 18, 19, 20, 21, 22, 23, 24, 25, 26, 27, 28, 29, 30, 31, 32, 33, 34, 35, 36, 37, 38, 39, 40, 41, 42, 43, 44, 45, 46, 47, 48, 49, 50, 51, 52, 53, 54], []⟩)⟩ (tmpsOf Try.prog 52) 1 1000 (loopIn Try.prog 52 6)) K 1000
      (St.mk
    [AV.r (RV.c (CV.sl 0 (Off.k 0) (Sz.s x0) 1 x1)), AV.und, AV.und, AV.r (RV.c (CV.ptr 1 (Off.k 0) 1)), AV.r (RV.c (CV.ptr 2 (Off.k 0) 1)), AV.r (RV.c (CV.ptr 3 (Off.k 0) 300)),
      AV.r (RV.c (CV.ptr 4 (Off.k 0) 300)), AV.r (RV.c (CV.f (FV.i IntKind.i64 x2))), AV.und, AV.und, AV.und, AV.und, AV.und, AV.und, AV.und, AV.und, AV.und, AV.und, AV.und, AV.und, AV.und, AV.und,
      AV.und, AV.und, AV.und, AV.und, AV.und, AV.und, AV.und, AV.und, AV.und, AV.und, AV.und, AV.und, AV.und, AV.und, AV.und, AV.und, AV.und, AV.und, AV.und, AV.und, AV.und, AV.und, AV.tup [],
      AV.tup [], AV.tup [], AV.tup [], AV.tup [], AV.tup [], AV.tup [], AV.tup [], AV.tup [], AV.tup [], AV.und]
    [some [Sg.a (Sz.s x3) [Col.i IntKind.i64 x4]], some [Sg.c (CV.f (FV.b x5))], some [Sg.c (CV.f (FV.b x6))], some [Sg.a (Sz.l 276) [Col.i IntKind.i64 x7], Sg.a (Sz.l 24) [Col.i IntKind.i64 x8]],
      some [Sg.a (Sz.l 276) [Col.i IntKind.i64 x9], Sg.a (Sz.l 24) [Col.i IntKind.i64 x10]]]
    []) = L_astrolabelaw9_made_0 (x0, x1, x2, x3, x4, x5, x6, x7, x8, x9, x10) (fun d => K (AX.ex 0) (St.mk
  [AV.r (RV.c (CV.sl 0 (Off.k 0) (Sz.s d.1) 1 d.2.1)), AV.und, AV.und, AV.r (RV.c (CV.ptr 1 (Off.k 0) 1)), AV.r (RV.c (CV.ptr 2 (Off.k 0) 1)), AV.r (RV.c (CV.ptr 3 (Off.k 0) 300)),
    AV.r (RV.c (CV.ptr 4 (Off.k 0) 300)), AV.r (RV.c (CV.f (FV.i IntKind.i64 d.2.2.1))), AV.und, AV.und, AV.und, AV.und, AV.und, AV.und, AV.und, AV.und, AV.und, AV.und,
    AV.r (RV.c (CV.f (FV.i IntKind.i64 d.2.2.1))), AV.r (RV.c (CV.f (FV.b d.2.2.2.1))), AV.und, AV.und, AV.und, AV.und, AV.und, AV.und, AV.und, AV.und, AV.und, AV.und, AV.und, AV.und,
    AV.und, AV.und, AV.und, AV.und, AV.und, AV.und, AV.und, AV.und, AV.und, AV.und, AV.und, AV.und, AV.tup [], AV.tup [], AV.tup [], AV.tup [], AV.tup [], AV.tup [], AV.tup [], AV.tup [], AV.tup [],
    AV.tup [], AV.und]
  [some [Sg.a (Sz.s d.2.2.2.2.1) [Col.i IntKind.i64 d.2.2.2.2.2.1]], some [Sg.c (CV.f (FV.b d.2.2.2.2.2.2.1))],
    some [Sg.c (CV.f (FV.b d.2.2.2.2.2.2.2.1))],
    some [Sg.a (Sz.l 276) [Col.i IntKind.i64 d.2.2.2.2.2.2.2.2.1], Sg.a (Sz.l 24) [Col.i IntKind.i64 d.2.2.2.2.2.2.2.2.2.1]],
    some [Sg.a (Sz.l 276) [Col.i IntKind.i64 d.2.2.2.2.2.2.2.2.2.2.1], Sg.a (Sz.l 24) [Col.i IntKind.i64 d.2.2.2.2.2.2.2.2.2.2.2]]]
  [])) :=
  iter_loopX (emb := fun (d : Nat × Bool × Int × Nat × (Nat → Int) × Bool × Bool × (Nat → Int) × (Nat → Int) × (Nat → Int) × (Nat → Int)) => St.mk
  [AV.r (RV.c (CV.sl 0 (Off.k 0) (Sz.s d.1) 1 d.2.1)), AV.und, AV.und, AV.r (RV.c (CV.ptr 1 (Off.k 0) 1)), AV.r (RV.c (CV.ptr 2 (Off.k 0) 1)), AV.r (RV.c (CV.ptr 3 (Off.k 0) 300)),
    AV.r (RV.c (CV.ptr 4 (Off.k 0) 300)), AV.r (RV.c (CV.f (FV.i IntKind.i64 d.2.2.1))), AV.und, AV.und, AV.und, AV.und, AV.und, AV.und, AV.und, AV.und, AV.und, AV.und, AV.und, AV.und, AV.und,
    AV.und, AV.und, AV.und, AV.und, AV.und, AV.und, AV.und, AV.und, AV.und, AV.und, AV.und, AV.und, AV.und, AV.und, AV.und, AV.und, AV.und, AV.und, AV.und, AV.und, AV.und, AV.und, AV.und, AV.tup [],
    AV.tup [], AV.tup [], AV.tup [], AV.tup [], AV.tup [], AV.tup [], AV.tup [], AV.tup [], AV.tup [], AV.und]
  [some [Sg.a (Sz.s d.2.2.2.1) [Col.i IntKind.i64 d.2.2.2.2.1]], some [Sg.c (CV.f (FV.b d.2.2.2.2.2.1))], some [Sg.c (CV.f (FV.b d.2.2.2.2.2.2.1))],
    some [Sg.a (Sz.l 276) [Col.i IntKind.i64 d.2.2.2.2.2.2.2.1], Sg.a (Sz.l 24) [Col.i IntKind.i64 d.2.2.2.2.2.2.2.2.1]],
    some [Sg.a (Sz.l 276) [Col.i IntKind.i64 d.2.2.2.2.2.2.2.2.2.1], Sg.a (Sz.l 24) [Col.i IntKind.i64 d.2.2.2.2.2.2.2.2.2.2]]]
  []) (step := fun d c x => S_astrolabelaw9_made_0 f_tri_New f___astrolaberef2_Acc__Clamp  d.1 d.2.1 d.2.2.1 d.2.2.2.1 d.2.2.2.2.1 d.2.2.2.2.2.1 d.2.2.2.2.2.2.1 d.2.2.2.2.2.2.2.1 d.2.2.2.2.2.2.2.2.1 d.2.2.2.2.2.2.2.2.2.1 d.2.2.2.2.2.2.2.2.2.2 c x) (kx := (fun d => K (AX.ex 0) (St.mk
  [AV.r (RV.c (CV.sl 0 (Off.k 0) (Sz.s d.1) 1 d.2.1)), AV.und, AV.und, AV.r (RV.c (CV.ptr 1 (Off.k 0) 1)), AV.r (RV.c (CV.ptr 2 (Off.k 0) 1)), AV.r (RV.c (CV.ptr 3 (Off.k 0) 300)),
    AV.r (RV.c (CV.ptr 4 (Off.k 0) 300)), AV.r (RV.c (CV.f (FV.i IntKind.i64 d.2.2.1))), AV.und, AV.und, AV.und, AV.und, AV.und, AV.und, AV.und, AV.und, AV.und, AV.und,
    AV.r (RV.c (CV.f (FV.i IntKind.i64 d.2.2.1))), AV.r (RV.c (CV.f (FV.b d.2.2.2.1))), AV.und, AV.und, AV.und, AV.und, AV.und, AV.und, AV.und, AV.und, AV.und, AV.und, AV.und, AV.und,
    AV.und, AV.und, AV.und, AV.und, AV.und, AV.und, AV.und, AV.und, AV.und, AV.und, AV.und, AV.und, AV.tup [], AV.tup [], AV.tup [], AV.tup [], AV.tup [], AV.tup [], AV.tup [], AV.tup [], AV.tup [],
    AV.tup [], AV.und]
  [some [Sg.a (Sz.s d.2.2.2.2.1) [Col.i IntKind.i64 d.2.2.2.2.2.1]], some [Sg.c (CV.f (FV.b d.2.2.2.2.2.2.1))],
    some [Sg.c (CV.f (FV.b d.2.2.2.2.2.2.2.1))],
    some [Sg.a (Sz.l 276) [Col.i IntKind.i64 d.2.2.2.2.2.2.2.2.1], Sg.a (Sz.l 24) [Col.i IntKind.i64 d.2.2.2.2.2.2.2.2.2.1]],
    some [Sg.a (Sz.l 276) [Col.i IntKind.i64 d.2.2.2.2.2.2.2.2.2.2.1], Sg.a (Sz.l 24) [Col.i IntKind.i64 d.2.2.2.2.2.2.2.2.2.2.2]]]
  [])))
    (fun d c => ds_astrolabelaw9_made_0 f_tri_New f___astrolaberef2_Acc__Clamp (@L_astrolabelaw9_made_0) d.1 d.2.1 d.2.2.1 d.2.2.2.1 d.2.2.2.2.1 d.2.2.2.2.2.1 d.2.2.2.2.2.2.1 d.2.2.2.2.2.2.2.1 d.2.2.2.2.2.2.2.2.1 d.2.2.2.2.2.2.2.2.2.1 d.2.2.2.2.2.2.2.2.2.2 c K) 1000 (x0, x1, x2, x3, x4, x5, x6, x7, x8, x9, x10)
theorem so_astrolabelaw9_made_0 : ∀ kk, SumOK Try.prog (envOf [(40, F_tri_New f_tri_New), (65, F___astrolaberef2_Acc__Clamp f___astrolaberef2_Acc__Clamp)]) ⟨[⟨6, [1, 2, 8, 9, 10, 11, 12, 13, 14, 15, 16, 17, 18, 19, 20, 21, 22, 23, 24, 25, 26, 27, 28, 29, 30, 31, 32, 33, 34, 35, 36, 37, 38, 39, 40, 41, 42, 43, 54], []⟩], [⟨6, 1, @R_astrolabelaw9_made_0 (@L_astrolabelaw9_made_0)⟩], [], [], (some ⟨0, [0, 1, 3, 4, 5, 6, 7, 8, 9, 10, 11, 12, 13, 14, 15, 16, 17, 18, 19, 20, 21, 22, 23, 24, 25, 26, 27, 28, 29, 30, 31, 32, 33, 34, 35, 36, 37, 38, 39, 40, 41, 42, 43, 44, 45, 46, 47, 48, 49, 50, 51, 52, 53, 54], []⟩)⟩ (tmpsOf Try.prog 52) kk 1000 (loopIn Try.prog 52 6) :=
  SumOK.of (id := 6) (k0 := 1) (run := @R_astrolabelaw9_made_0 (@L_astrolabelaw9_made_0)) (by kernel_rfl) fun s K r hr => by
    unfold R_astrolabelaw9_made_0 at hr
    obtain ⟨b, hb, hr1⟩ := Option.bind_eq_some_iff.1 hr
    have e := ((Q_astrolabelaw9_made_0).ok s b hb).trans (q_astrolabelaw9_made_0 b)
    subst e
    exact ⟨1000, (it_astrolabelaw9_made_0 b.1.1.2.2.1 b.1.1.2.2.2.2 b.1.2.2.2.2.2.2.2.1 b.2.1.1.1.1 b.2.1.1.1.2.1 b.2.1.2.1.1 b.2.1.2.2.1.1 b.2.1.2.2.2.1.1.2.1 b.2.1.2.2.2.1.2.1.2.1 b.2.1.2.2.2.2.1.1.2.1 b.2.1.2.2.2.2.1.2.1.2.1 K).trans hr1⟩
def K_astrolabelaw9_made {ρ : Type} (g_tri_New : Nat → Bool → (Nat → Int) → Bool → Option ((Nat → Int) × (Nat → Int) × Bool)) (g___astrolaberef2_Acc__Clamp : Int → Int → Int → Bool → Option (Int × Bool)) (l_0 : ∀ {ρ : Type}, (Nat × Bool × Int × Nat × (Nat → Int) × Bool × Bool × (Nat → Int) × (Nat → Int) × (Nat → Int) × (Nat → Int)) → ((Nat × Bool × Int × Bool × Nat × (Nat → Int) × Bool × Bool × (Nat → Int) × (Nat → Int) × (Nat → Int) × (Nat → Int)) → Option ρ) → Option ρ) (x0 : Nat) (x1 : Nat → Int) (w0 : Bool) (k : (Bool) → Option ρ) : Option ρ :=
  bif Nat.ble ((0 + x0) * 8) 140737488355328 then
    bif Nat.beq (0 + x0) (0 + x0) then
      Option.bind (g_tri_New (0 + x0) false x1 true) fun (d : (Nat → Int) × (Nat → Int) × Bool) =>
        l_0 (x0, w0, 0, x0, x1, d.2.2, false, d.1, d.2.1, fun (x : Nat) => 0, fun (x : Nat) => 0)
          fun (d : Nat × Bool × Int × Bool × Nat × (Nat → Int) × Bool × Bool × (Nat → Int) × (Nat → Int) × (Nat → Int) × (Nat → Int)) =>
          bif
              (allN 276 fun (j : Nat) => d.2.2.2.2.2.2.2.2.1 j == d.2.2.2.2.2.2.2.2.2.2.1 j) &&
                ((allN 24 fun (j : Nat) => d.2.2.2.2.2.2.2.2.2.1 j == d.2.2.2.2.2.2.2.2.2.2.2 j) && true) then
            k (d.2.2.2.2.2.2.1 == d.2.2.2.2.2.2.2.1)
          else k false
    else none
  else none
def f_astrolabelaw9_made (x0 : Nat) (x1 : Nat → Int) (w0 : Bool) : Option (Bool) := K_astrolabelaw9_made f_tri_New f___astrolaberef2_Acc__Clamp (@L_astrolabelaw9_made_0) x0 x1 w0 some
section
open Go.Ab.Rdr
def QA_astrolabelaw9_made := ((pair (cons (ar (rc (csl (nat 0) (ok' (nat 0)) (szs hole) (nat 1) hole))) nil) (cons (cons (ga (szs hole) (cons (ki .i64 hole) nil)) nil) nil)) : Rdr (List AV × List Blk) _)
end
def F0_astrolabelaw9_made (f : (Nat) → (Nat → Int) → (Bool) → Option (Bool)) : Sem1 := fun args h => match (QA_astrolabelaw9_made).rd (args, h) with
  | some b => .test (Nat.beq b.2.1.1.1 b.1.1.2.2.1) (.opt (f b.1.1.2.2.1 b.2.1.1.2.1 b.1.1.2.2.2.2) fun (d : Bool) => .leaf (Res.mk (AV.r (RV.c (CV.f (FV.b d)))) [Ch.keep] [])) .fail
  | none => .fail
def F_astrolabelaw9_made (f : (Nat) → (Nat → Int) → (Bool) → Option (Bool)) : Sem1 := (nilF 0 [.i .i64] (F0_astrolabelaw9_made f))
theorem d_astrolabelaw9_made (g_tri_New : Nat → Bool → (Nat → Int) → Bool → Option ((Nat → Int) × (Nat → Int) × Bool)) (g___astrolaberef2_Acc__Clamp : Int → Int → Int → Bool → Option (Int × Bool)) (l_0 : ∀ {ρ : Type}, (Nat × Bool × Int × Nat × (Nat → Int) × Bool × Bool × (Nat → Int) × (Nat → Int) × (Nat → Int) × (Nat → Int)) → ((Nat × Bool × Int × Bool × Nat × (Nat → Int) × Bool × Bool × (Nat → Int) × (Nat → Int) × (Nat → Int) × (Nat → Int)) → Option ρ) → Option ρ) (x0 : Nat) (x1 : Nat → Int) (w0 : Bool) : den Try.prog (envOf [(40, F_tri_New g_tri_New), (65, F___astrolaberef2_Acc__Clamp g___astrolaberef2_Acc__Clamp)]) ⟨[⟨6, [1, 2, 8, 9, 10, 11, 12, 13, 14, 15, 16, 17, 18, 19, 20, 21, 22, 23, 24, 25, 26, 27, 28, 29, 30, 31, 32, 33, 34, 35, 36, 37, 38, 39, 40, 41, 42, 43, 54], []⟩], [⟨6, 1, @R_astrolabelaw9_made_0 (@l_0)⟩], [], [], (some ⟨0, [0, 1, 3, 4, 5, 6, 7, 8, 9, 10, 11, 12, 13, 14, 15, 16, 17, 18, 19, 20, 21, 22, 23, 24, 25, 26, 27, 28, 29, 30, 31, 32, 33, 34, 35, 36, 37, 38, 39, 40, 41, 42, 43, 44, 45, 46, 47, 48, 49, 50, 51, 52, 53, 54], []⟩)⟩ 1000 52 [.r (.c (.sl 0 (.k 0) (.s x0) 1 w0))] [[.a (.s x0) [.i .i64 x1]]] =
    K_astrolabelaw9_made g_tri_New g___astrolaberef2_Acc__Clamp (@l_0) x0 x1 w0 (fun (d : Bool) => some (Res.mk (AV.r (RV.c (CV.f (FV.b d)))) [Ch.keep] [])) := by kernel_rfl
theorem m_astrolabelaw9_made {ρ σ : Type} (q : ρ → Option σ) (g_tri_New : Nat → Bool → (Nat → Int) → Bool → Option ((Nat → Int) × (Nat → Int) × Bool)) (g___astrolaberef2_Acc__Clamp : Int → Int → Int → Bool → Option (Int × Bool)) (l_0 : ∀ {ρ : Type}, (Nat × Bool × Int × Nat × (Nat → Int) × Bool × Bool × (Nat → Int) × (Nat → Int) × (Nat → Int) × (Nat → Int)) → ((Nat × Bool × Int × Bool × Nat × (Nat → Int) × Bool × Bool × (Nat → Int) × (Nat → Int) × (Nat → Int) × (Nat → Int)) → Option ρ) → Option ρ) (hl_0 : ∀ {ρ σ : Type} (q : ρ → Option σ) (d : Nat × Bool × Int × Nat × (Nat → Int) × Bool × Bool × (Nat → Int) × (Nat → Int) × (Nat → Int) × (Nat → Int)) (k : (Nat × Bool × Int × Bool × Nat × (Nat → Int) × Bool × Bool × (Nat → Int) × (Nat → Int) × (Nat → Int) × (Nat → Int)) → Option ρ), (l_0 d k).bind q = l_0 d fun x => (k x).bind q) (x0 : Nat) (x1 : Nat → Int) (w0 : Bool) (k : (Bool) → Option ρ) : (K_astrolabelaw9_made g_tri_New g___astrolaberef2_Acc__Clamp (@l_0) x0 x1 w0 k).bind q = K_astrolabelaw9_made g_tri_New g___astrolaberef2_Acc__Clamp (@l_0) x0 x1 w0 (fun d => (k d).bind q) := by
  simp only [K_astrolabelaw9_made, bnd_cond, bnd_bind, bnd_none, bnd_sum, hl_0]
theorem qa_astrolabelaw9_made : ∀ b, (QA_astrolabelaw9_made).em b = ([.r (.c (.sl 0 (.k 0) (.s b.1.1.2.2.1) 1 b.1.1.2.2.2.2))], [[.a (.s b.2.1.1.1) [.i .i64 b.2.1.1.2.1]]]) := fun b => by kernel_rfl
theorem e_astrolabelaw9_made {f : (Nat) → (Nat → Int) → (Bool) → Option (Bool)} {args : List AV} {h : List Blk} {r : Res} (hr : (F0_astrolabelaw9_made f args h).eval = some r) : ∃ x0 x1 w0, args = [.r (.c (.sl 0 (.k 0) (.s x0) 1 w0))] ∧ h = [[.a (.s x0) [.i .i64 x1]]] ∧ (f x0 x1 w0).bind (fun (d : Bool) => some (Res.mk (AV.r (RV.c (CV.f (FV.b d)))) [Ch.keep] [])) = some r := by
  unfold F0_astrolabelaw9_made at hr
  split at hr
  · rename_i b hb
    have e := ((QA_astrolabelaw9_made).ok _ _ hb).trans (qa_astrolabelaw9_made b)
    obtain ⟨he, hr1⟩ := test_eval hr
    clear hr
    have hr := hr1
    clear hr1
    rw [Nat.eq_of_beq_eq_true he] at e
    clear he
    rw [opt_eval2] at hr
    exact ⟨b.1.1.2.2.1, b.2.1.1.2.1, b.1.1.2.2.2.2, (Prod.mk.inj e).1, (Prod.mk.inj e).2, hr⟩
  · cases hr
theorem n_astrolabelaw9_made {σ : Type} (q : (Bool) → Option σ) (x0 : Nat) (x1 : Nat → Int) (w0 : Bool) : (f_astrolabelaw9_made x0 x1 w0).bind q = K_astrolabelaw9_made f_tri_New f___astrolaberef2_Acc__Clamp (@L_astrolabelaw9_made_0) x0 x1 w0 q := by
  unfold f_astrolabelaw9_made
  exact m_astrolabelaw9_made q f_tri_New f___astrolaberef2_Acc__Clamp (@L_astrolabelaw9_made_0) (fun q d k => mL_astrolabelaw9_made_0 q d k) x0 x1 w0 some
theorem s_astrolabelaw9_made : Sound Try.prog 52 (F_astrolabelaw9_made f_astrolabelaw9_made) :=
  Sound.nil 0 [.i .i64] <| (inl_sums (l := [(40, F_tri_New f_tri_New), (65, F___astrolaberef2_Acc__Clamp f___astrolaberef2_Acc__Clamp)]) (.cons s_tri_New (.cons s___astrolaberef2_Acc__Clamp (.nil _))) mixed (hs := ⟨[⟨6, [1, 2, 8, 9, 10, 11, 12, 13, 14, 15, 16, 17, 18, 19, 20, 21, 22, 23, 24, 25, 26, 27, 28, 29, 30, 31, 32, 33, 34, 35, 36, 37, 38, 39, 40, 41, 42, 43, 54], []⟩], [⟨6, 1, @R_astrolabelaw9_made_0 (@L_astrolabelaw9_made_0)⟩], [], [], (some ⟨0, [0, 1, 3, 4, 5, 6, 7, 8, 9, 10, 11, 12, 13, 14, 15, 16, 17, 18, 19, 20, 21, 22, 23, 24, 25, 26, 27, 28, 29, 30, 31, 32, 33, 34, 35, 36, 37, 38, 39, 40, 41, 42, 43, 44, 45, 46, 47, 48, 49, 50, 51, 52, 53, 54], []⟩)⟩) (lf := 1000) (Sums.by (l := [loopIn Try.prog 52 6]) (lj := []) (by kernel_rfl) ⟨so_astrolabelaw9_made_0, trivial⟩ (by kernel_rfl) trivial) (by kernel_rfl)).by (F := F0_astrolabelaw9_made f_astrolabelaw9_made) fun args b r hr => by
  obtain ⟨x0, x1, w0, rfl, rfl, hr1⟩ := e_astrolabelaw9_made hr
  exact inl_eval ((d_astrolabelaw9_made f_tri_New f___astrolaberef2_Acc__Clamp (@L_astrolabelaw9_made_0) x0 x1 w0).trans ((n_astrolabelaw9_made (fun (d : Bool) => some (Res.mk (AV.r (RV.c (CV.f (FV.b d)))) [Ch.keep] [])) x0 x1 w0).symm.trans hr1))

end Go.Proofs.Ytmlmpcabphgfaaa
