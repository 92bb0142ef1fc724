/-
  The carries of math/bits, as they stand in the program. The carries of math/bits, as they stand in the program. Parts of long tuples; cells in short. Contracts by plain functions: (*fx.Acc).Clamp, (*fx.Acc).Sat, wide.Of, wide.add, wide.Add, wide.abs, (wide.big).shl, (wide.big).plus, (wide.big).shr, wide.signed64, wide.Round, fx.sign, (*fx.Acc).end, (*fx.Acc).Add Contracts by plain functions: wide.abs64, math/bits.Mul64, wide.signed, wide.Mul, (*fx.Acc).round, (*fx.Acc).Mul Contracts by plain functions: (wide.big).less, (wide.big).minus, wide.Root, wide.Neg, wide.Shift, wide.Cmp
-/
import Derived.Test.YtcalippagaaikaaAbNil
namespace Go.Proofs.Ytcalippagaaikaa
open Go.Ab
theorem s_BG [Amb] : Sound Try.prog 87 (F_carry f_BG) := carry_of (add64_sound (fn := Try.f87) Try.func87 (by kernel_rfl) (by kernel_rfl) (by kernel_rfl) (by kernel_rfl))
end Go.Proofs.Ytcalippagaaikaa
namespace Go.Proofs.Ytcalippagaaikaa
open Go.Ab
theorem s_Be [Amb] : Sound Try.prog 88 (F_carry f_Be) := carry_of (sub64_sound (fn := Try.f88) Try.func88 (by kernel_rfl) (by kernel_rfl) (by kernel_rfl) (by kernel_rfl))
end Go.Proofs.Ytcalippagaaikaa
namespace Go.Ab
@[reducible] def _root_.Prod.c4 {a b c d e : Type} (x : a × b × c × d × e) : e := x.2.2.2.2
@[reducible] def _root_.Prod.c8 {a b c d e f g h i : Type} (x : a × b × c × d × e × f × g × h × i) : i := x.2.2.2.2.2.2.2.2
@[reducible] def _root_.Prod.c16 {a b c d e f g h i j k l m n o p q : Type} (x : a × b × c × d × e × f × g × h × i × j × k × l × m × n × o × p × q) : q := x.2.2.2.2.2.2.2.2.2.2.2.2.2.2.2.2
abbrev NI := Nat → Int
abbrev un : AV := .und
abbrev kI (g : Nat → Int) : Col := .i .i64 g
abbrev fI (n : Int) : CV := .f (.i .i64 n)
abbrev rI (n : Int) : AV := .r (.c (.f (.i .i64 n)))
abbrev rU (n : Int) : AV := .r (.c (.f (.i .u64 n)))
abbrev rB (n : Bool) : AV := .r (.c (.f (.b n)))
abbrev sI (n : Int) : Sg := .c (.f (.i .i64 n))
abbrev sU (n : Int) : Sg := .c (.f (.i .u64 n))
abbrev sB (n : Bool) : Sg := .c (.f (.b n))
end Go.Ab
set_option maxRecDepth 100000
set_option maxHeartbeats 4000000
set_option linter.unusedVariables false
namespace Go.Proofs.Ytcalippagaaikaa
open Go.Ab
abbrev u0W1 : List Nat := [0, 1, 3, 5, 6, 7, 8, 12, 13, 14, 15, 16, 17, 18, 19, 20, 21, 22, 23, 24, 25, 26]
abbrev u1W1 : List Nat := [1, 2, 3, 4, 6, 7, 8, 9, 13, 14, 15, 16, 17, 18, 19, 20, 21, 22, 23, 24, 25, 26, 27, 28, 29, 30, 31, 32, 33, 34, 35, 36, 37, 38]
abbrev t2W1 := Int → Int → Int → Bool → Option (Int × Bool)
abbrev t3W1 := Int → Int → Int → Int → Option (Int × Int × Bool)
abbrev t4W1 := Int → Int → Option (Int × Int × Bool)
abbrev t5W1 := Int → Int → Int → Option (Int × Int)
abbrev t6W1 := Int → Int → Int → Int → Option (Int × Int)
abbrev t7W1 := Int → Int → Bool → Option (Int × Bool)
abbrev t8W1 := Bool → Option Int
abbrev t9W1 := Int → Bool → Option (Int × Bool)
abbrev t10W1 := Int → Option (Int × Int)
abbrev t11W1 := Nat → NI → NI → Bool → Option (Int × Int × Bool)
abbrev t12W1 := Int → Int → Int → Option (Int × Bool)
abbrev t13W1 := Int → Bool → Bool → Bool → Option (Int × Bool)
def K_BZ {ρ : Type} (x0 : Int) (x1 : Int) (x2 : Int) (x3 : Bool) (k : (Int × Bool) → Option ρ) : Option ρ := bif decide (x1 > x2) then k (x1, true) else bif decide (x0 < x1) then k (x1, true) else bif decide (x0 > x2) then k (x2, true) else k (x0, x3)
def f_BZ (x0 : Int) (x1 : Int) (x2 : Int) (x3 : Bool) : Option (Int × Bool) := K_BZ   x0 x1 x2 x3 some
section
open Go.Ab.Rdr
def QA_BZ := ((pair (cons (ar (rc (cptr (nat 0) (ok' (nat 0)) (nat 1)))) (cons (ar (rc (cf (fi .i64 hole)))) (cons (ar (rc (cf (fi .i64 hole)))) (cons (ar (rc (cf (fi .i64 hole)))) nil)))) (cons (cons (gc (cf (fb hole))) nil) nil)) : Rdr (List AV × List Blk) _)
end
def F_BZ (f : (Int) → (Int) → (Int) → (Bool) → Option (Int × Bool)) : Sem1 := fun args h => match (QA_BZ).rd (args, h) with
  | some b => .opt (f b.1.2.1 b.1.2.2.1 b.1.2.2.2.1 b.2.1.1) fun (d : Int × Bool) => .leaf (Res.mk (rI d.1) [Ch.set [sB d.2]] [])
  | none => .fail
theorem d_BZ (x0 : Int) (x1 : Int) (x2 : Int) (x3 : Bool) : den Try.prog (envOf []) ⟨[], [], [0], [], none⟩ 200 111 [.r (.c (.ptr 0 (.k 0) 1)), rI x0, rI x1, rI x2] [[.c (.f (.b x3))]] = K_BZ x0 x1 x2 x3 (fun (d : Int × Bool) => some (Res.mk (rI d.1) [Ch.set [sB d.2]] [])) := by kernel_rfl
theorem m_BZ {ρ σ : Type} (q : ρ → Option σ)    (x0 : Int) (x1 : Int) (x2 : Int) (x3 : Bool) (k : (Int × Bool) → Option ρ) : (K_BZ   x0 x1 x2 x3 k).bind q = K_BZ   x0 x1 x2 x3 (fun d => (k d).bind q) := by
  simp only [K_BZ, bnd_cond, bnd_bind, bnd_none, bnd_sum]
theorem qa_BZ : ∀ b, (QA_BZ).em b = ([.r (.c (.ptr 0 (.k 0) 1)), rI b.1.2.1, rI b.1.2.2.1, rI b.1.2.2.2.1], [[.c (.f (.b b.2.1.1))]]) := fun b => by kernel_rfl
theorem e_BZ {f : (Int) → (Int) → (Int) → (Bool) → Option (Int × Bool)} {args : List AV} {h : List Blk} {r : Res} (hr : (F_BZ f args h).eval = some r) : ∃ x0 x1 x2 x3, args = [.r (.c (.ptr 0 (.k 0) 1)), rI x0, rI x1, rI x2] ∧ h = [[.c (.f (.b x3))]] ∧ (f x0 x1 x2 x3).bind (fun (d : Int × Bool) => some (Res.mk (rI d.1) [Ch.set [sB d.2]] [])) = some r := by
  unfold F_BZ at hr
  split at hr
  · rename_i b hb
    have e := ((QA_BZ).ok _ _ hb).trans (qa_BZ b)
    rw [opt_eval2] at hr
    exact ⟨b.1.2.1, b.1.2.2.1, b.1.2.2.2.1, b.2.1.1, (Prod.mk.inj e).1, (Prod.mk.inj e).2, hr⟩
  · cases hr
theorem n_BZ {σ : Type} (q : (Int × Bool) → Option σ) (x0 : Int) (x1 : Int) (x2 : Int) (x3 : Bool) : (f_BZ x0 x1 x2 x3).bind q = K_BZ   x0 x1 x2 x3 q := by
  unfold f_BZ
  exact m_BZ q    x0 x1 x2 x3 some
theorem s_BZ [Amb] : Sound Try.prog 111 (F_BZ f_BZ) := (inl_sound (l := []) (.nil _) mixed [] [0] 200 (by kernel_rfl)).by (F := F_BZ f_BZ) fun args b r hr => by
  obtain ⟨x0, x1, x2, x3, rfl, rfl, hr1⟩ := e_BZ hr
  exact inl_eval ((d_BZ   x0 x1 x2 x3).trans ((n_BZ (fun (d : Int × Bool) => some (Res.mk (rI d.1) [Ch.set [sB d.2]] [])) x0 x1 x2 x3).symm.trans hr1))

def K_AB {ρ : Type} (g_BZ : t2W1) (x0 : Int) (x1 : Bool) (k : (Int × Bool) → Option ρ) : Option ρ := Option.bind (g_BZ x0 (-1152921504606846976) 1152921504606846976 x1) fun (d : Int × Bool) => k (d.1, d.2)
def f_AB (x0 : Int) (x1 : Bool) : Option (Int × Bool) := K_AB f_BZ  x0 x1 some
section
open Go.Ab.Rdr
def QA_AB := ((pair (cons (ar (rc (cptr (nat 0) (ok' (nat 0)) (nat 1)))) (cons (ar (rc (cf (fi .i64 hole)))) nil)) (cons (cons (gc (cf (fb hole))) nil) nil)) : Rdr (List AV × List Blk) _)
end
def F_AB (f : (Int) → (Bool) → Option (Int × Bool)) : Sem1 := fun args h => match (QA_AB).rd (args, h) with
  | some b => .opt (f b.1.2.1 b.2.1.1) fun (d : Int × Bool) => .leaf (Res.mk (rI d.1) [Ch.set [sB d.2]] [])
  | none => .fail
theorem d_AB (g_BZ : t2W1) (x0 : Int) (x1 : Bool) : den Try.prog (envOf [(111, F_BZ g_BZ)]) ⟨[], [], [], [], none⟩ 200 91 [.r (.c (.ptr 0 (.k 0) 1)), rI x0] [[.c (.f (.b x1))]] = K_AB g_BZ x0 x1 (fun (d : Int × Bool) => some (Res.mk (rI d.1) [Ch.set [sB d.2]] [])) := by kernel_rfl
theorem m_AB {ρ σ : Type} (q : ρ → Option σ) (g_BZ : t2W1)   (x0 : Int) (x1 : Bool) (k : (Int × Bool) → Option ρ) : (K_AB g_BZ  x0 x1 k).bind q = K_AB g_BZ  x0 x1 (fun d => (k d).bind q) := by
  simp only [K_AB, bnd_cond, bnd_bind, bnd_none, bnd_sum]
theorem qa_AB : ∀ b, (QA_AB).em b = ([.r (.c (.ptr 0 (.k 0) 1)), rI b.1.2.1], [[.c (.f (.b b.2.1.1))]]) := fun b => by kernel_rfl
theorem e_AB {f : (Int) → (Bool) → Option (Int × Bool)} {args : List AV} {h : List Blk} {r : Res} (hr : (F_AB f args h).eval = some r) : ∃ x0 x1, args = [.r (.c (.ptr 0 (.k 0) 1)), rI x0] ∧ h = [[.c (.f (.b x1))]] ∧ (f x0 x1).bind (fun (d : Int × Bool) => some (Res.mk (rI d.1) [Ch.set [sB d.2]] [])) = some r := by
  unfold F_AB at hr
  split at hr
  · rename_i b hb
    have e := ((QA_AB).ok _ _ hb).trans (qa_AB b)
    rw [opt_eval2] at hr
    exact ⟨b.1.2.1, b.2.1.1, (Prod.mk.inj e).1, (Prod.mk.inj e).2, hr⟩
  · cases hr
theorem n_AB {σ : Type} (q : (Int × Bool) → Option σ) (x0 : Int) (x1 : Bool) : (f_AB x0 x1).bind q = K_AB f_BZ  x0 x1 q := by
  unfold f_AB
  exact m_AB q f_BZ   x0 x1 some
theorem s_AB [Amb] : Sound Try.prog 91 (F_AB f_AB) := (inl_sound (l := [(111, F_BZ f_BZ)]) (.cons s_BZ (.nil _)) mixed [] [] 200 (by kernel_rfl)).by (F := F_AB f_AB) fun args b r hr => by
  obtain ⟨x0, x1, rfl, rfl, hr1⟩ := e_AB hr
  exact inl_eval ((d_AB f_BZ  x0 x1).trans ((n_AB (fun (d : Int × Bool) => some (Res.mk (rI d.1) [Ch.set [sB d.2]] [])) x0 x1).symm.trans hr1))

def K_BF {ρ : Type} (x0 : Int) (k : (Int × Int) → Option ρ) : Option ρ := k (Int.fdiv x0 9223372036854775808, IntKind.wrap IntKind.u64 x0)
def f_BF (x0 : Int) : Option (Int × Int) := K_BF   x0 some
section
open Go.Ab.Rdr
def QA_BF := ((pair (cons (ar (rc (cf (fi .i64 hole)))) nil) nil) : Rdr (List AV × List Blk) _)
end
def F_BF (f : (Int) → Option (Int × Int)) : Sem1 := fun args h => match (QA_BF).rd (args, h) with
  | some b => .opt (f b.1.1) fun (d : Int × Int) => .leaf (Res.mk (AV.r (RV.agg [sI d.1, sU d.2])) [] [])
  | none => .fail
theorem d_BF (x0 : Int) : den Try.prog (envOf []) ⟨[], [], [], [], none⟩ 200 16 [rI x0] [] = K_BF x0 (fun (d : Int × Int) => some (Res.mk (AV.r (RV.agg [sI d.1, sU d.2])) [] [])) := by kernel_rfl
theorem m_BF {ρ σ : Type} (q : ρ → Option σ)    (x0 : Int) (k : (Int × Int) → Option ρ) : (K_BF   x0 k).bind q = K_BF   x0 (fun d => (k d).bind q) := by
  simp only [K_BF, bnd_cond, bnd_bind, bnd_none, bnd_sum]
theorem qa_BF : ∀ b, (QA_BF).em b = ([rI b.1.1], []) := fun b => by kernel_rfl
theorem e_BF {f : (Int) → Option (Int × Int)} {args : List AV} {h : List Blk} {r : Res} (hr : (F_BF f args h).eval = some r) : ∃ x0, args = [rI x0] ∧ h = [] ∧ (f x0).bind (fun (d : Int × Int) => some (Res.mk (AV.r (RV.agg [sI d.1, sU d.2])) [] [])) = some r := by
  unfold F_BF at hr
  split at hr
  · rename_i b hb
    have e := ((QA_BF).ok _ _ hb).trans (qa_BF b)
    rw [opt_eval2] at hr
    exact ⟨b.1.1, (Prod.mk.inj e).1, (Prod.mk.inj e).2, hr⟩
  · cases hr
theorem n_BF {σ : Type} (q : (Int × Int) → Option σ) (x0 : Int) : (f_BF x0).bind q = K_BF   x0 q := by
  unfold f_BF
  exact m_BF q    x0 some
theorem s_BF [Amb] : Sound Try.prog 16 (F_BF f_BF) := (inl_sound (l := []) (.nil _) mixed [] [] 200 (by kernel_rfl)).by (F := F_BF f_BF) fun args b r hr => by
  obtain ⟨x0, rfl, rfl, hr1⟩ := e_BF hr
  exact inl_eval ((d_BF   x0).trans ((n_BF (fun (d : Int × Int) => some (Res.mk (AV.r (RV.agg [sI d.1, sU d.2])) [] [])) x0).symm.trans hr1))

def K_Ax {ρ : Type} (g_BG : C3) (x0 : Int) (x1 : Int) (x2 : Int) (x3 : Int) (k : (Int × Int × Bool) → Option ρ) : Option ρ := Option.bind (g_BG x1 x3 0) fun (d : Int × Int) => Option.bind (g_BG (IntKind.wrap IntKind.u64 x0) (IntKind.wrap IntKind.u64 x2) d.2) fun (d_1 : Int × Int) => bif !decide (x0 < 0) == decide (x2 < 0) then
 k (IntKind.wrap IntKind.i64 d_1.1, d.1, true) else k (IntKind.wrap IntKind.i64 d_1.1, d.1, decide (IntKind.wrap IntKind.i64 d_1.1 < 0) == decide (x0 < 0))
def f_Ax (x0 : Int) (x1 : Int) (x2 : Int) (x3 : Int) : Option (Int × Int × Bool) := K_Ax f_BG  x0 x1 x2 x3 some
section
open Go.Ab.Rdr
def QA_Ax := ((pair (cons (ar (ra (cons (gc (cf (fi .i64 hole))) (cons (gc (cf (fi .u64 hole))) nil)))) (cons (ar (ra (cons (gc (cf (fi .i64 hole))) (cons (gc (cf (fi .u64 hole))) nil)))) nil)) nil) : Rdr (List AV × List Blk) _)
end
def F_Ax (f : (Int) → (Int) → (Int) → (Int) → Option (Int × Int × Bool)) : Sem1 := fun args h => match (QA_Ax).rd (args, h) with
  | some b => .opt (f b.1.1.1 b.1.1.2.1 b.1.2.1.1 b.1.2.1.2.1) fun (d : Int × Int × Bool) => .leaf (Res.mk (AV.tup [RV.agg [sI d.1, sU d.2.1], RV.c (CV.f (FV.b d.2.2))]) [] [])
  | none => .fail
theorem d_Ax (g_BG : C3) (x0 : Int) (x1 : Int) (x2 : Int) (x3 : Int) : den Try.prog (envOf [(87, F_carry g_BG)]) ⟨[], [], [], [], none⟩ 200 56 [.r (.agg [.c (.f (.i .i64 x0)), .c (.f (.i .u64 x1))]), .r (.agg [.c (.f (.i .i64 x2)), .c (.f (.i .u64 x3))])] [] = K_Ax g_BG x0 x1 x2 x3 (fun (d : Int × Int ×
 Bool) => some (Res.mk (AV.tup [RV.agg [sI d.1, sU d.2.1], RV.c (CV.f (FV.b d.2.2))]) [] [])) := by kernel_rfl
theorem m_Ax {ρ σ : Type} (q : ρ → Option σ) (g_BG : C3)   (x0 : Int) (x1 : Int) (x2 : Int) (x3 : Int) (k : (Int × Int × Bool) → Option ρ) : (K_Ax g_BG  x0 x1 x2 x3 k).bind q = K_Ax g_BG  x0 x1 x2 x3 (fun d => (k d).bind q) := by
  simp only [K_Ax, bnd_cond, bnd_bind, bnd_none, bnd_sum]
theorem qa_Ax : ∀ b, (QA_Ax).em b = ([.r (.agg [.c (.f (.i .i64 b.1.1.1)), .c (.f (.i .u64 b.1.1.2.1))]), .r (.agg [.c (.f (.i .i64 b.1.2.1.1)), .c (.f (.i .u64 b.1.2.1.2.1))])], []) := fun b => by kernel_rfl
theorem e_Ax {f : (Int) → (Int) → (Int) → (Int) → Option (Int × Int × Bool)} {args : List AV} {h : List Blk} {r : Res} (hr : (F_Ax f args h).eval = some r) : ∃ x0 x1 x2 x3, args = [.r (.agg [.c (.f (.i .i64 x0)), .c (.f (.i .u64 x1))]), .r (.agg [.c (.f (.i .i64 x2)), .c (.f (.i .u64 x3))])] ∧ h = [] ∧ (f x0 x1 x2 x3).bind (fun (d : Int × Int × Bool) => some (Res.mk (AV.tup [RV.agg [sI d.1, sU d.2.1], RV.c (CV.f (FV.b d.2.2))]) [] [])) = some r := by
  unfold F_Ax at hr
  split at hr
  · rename_i b hb
    have e := ((QA_Ax).ok _ _ hb).trans (qa_Ax b)
    rw [opt_eval2] at hr
    exact ⟨b.1.1.1, b.1.1.2.1, b.1.2.1.1, b.1.2.1.2.1, (Prod.mk.inj e).1, (Prod.mk.inj e).2, hr⟩
  · cases hr
theorem n_Ax {σ : Type} (q : (Int × Int × Bool) → Option σ) (x0 : Int) (x1 : Int) (x2 : Int) (x3 : Int) : (f_Ax x0 x1 x2 x3).bind q = K_Ax f_BG  x0 x1 x2 x3 q := by
  unfold f_Ax
  exact m_Ax q f_BG   x0 x1 x2 x3 some
theorem s_Ax [Amb] : Sound Try.prog 56 (F_Ax f_Ax) := (inl_sound (l := [(87, F_carry f_BG)]) (.cons s_BG (.nil _)) mixed [] [] 200 (by kernel_rfl)).by (F := F_Ax f_Ax) fun args b r hr => by
  obtain ⟨x0, x1, x2, x3, rfl, rfl, hr1⟩ := e_Ax hr
  exact inl_eval ((d_Ax f_BG  x0 x1 x2 x3).trans ((n_Ax (fun (d : Int × Int × Bool) => some (Res.mk (AV.tup [RV.agg [sI d.1, sU d.2.1], RV.c (CV.f (FV.b d.2.2))]) [] [])) x0 x1 x2 x3).symm.trans hr1))

def S_AO_0 {ρ : Type} (g_Ax : t3W1) (x0 : Nat) (x1 : Bool) (x2 : Int) (x3 : Int) (x4 : Nat) (x5 : Nat → Int) (x6 : Nat → Int) (x7 : Int) (x8 : Int) (c : (Nat × Bool × Int × Int × Nat × NI × NI × Int × Int) → Option ρ) (x : (Bool × Nat × Bool ×
 Int × Int × Bool × Nat × Int × Int × Int × Int × Int × Int × Bool × Nat × NI × NI ⊕ Nat × Bool × Int × Int × Bool × Nat × NI × NI × Int × Int) → Option ρ) : Option ρ := bif decide (x3 < x2) then bif inR x3 x0 then Option.bind (g_Ax x7 x8 (x5 (Int.toNat x3)) (x6 (Int.toNat x3))) fun (d : Int ×
 Int × Bool) => bif !d.2.2 then x (Sum.inl (d.2.2, x0, x1, x2, x3, decide (x3 < x2), Int.toNat x3, x5 (Int.toNat x3), x6 (Int.toNat x3), d.1, d.2.1, x7, x8, !d.2.2, x4, x5, x6)) else c (x0, x1, x2, IntKind.wrap IntKind.i64 (x3 + 1), x4, x5, x6, d.1, d.2.1) else none else x (Sum.inr (x0, x1, x2, x3, decide (x3 < x2),
 x4, x5, x6, x7, x8))
section
open Go.Ab.Rdr
def Q_AO_0 := (st (cons aund (cons aund (cons (ar (rc (cptr (nat 1) (ok' (nat 0)) (nat 2)))) (cons aund (cons (ar (rc (cptr (nat 2) (ok' (nat 0)) (nat 2)))) (cons aund (cons aund (cons aund (cons aund (cons (ar (rc (csl (nat 0) (ok' (nat 0)) (szs hole) (nat 2) hole))) (cons (ar (rc (cf (fi .i64 hole)))) (cons (ar (rc (cf (fi .i64 hole)))) (cons aund (cons aund (cons aund (cons aund (cons aund (cons aund (cons aund (cons aund (cons aund (cons aund (cons aund (cons aund (cons aund (cons aund (cons aund nil))))))))))))))))))))))))))) (cons (some' (cons (ga (szs hole) (cons (ki .i64 hole) (cons (ki .u64 hole) nil))) nil)) (cons (some' (cons (gc (cf (fi .i64 (int 0)))) (cons (gc (cf (fi .u64 (int 0)))) nil))) (cons (some' (cons (gc (cf (fi .i64 hole))) (cons (gc (cf (fi .u64 hole))) nil))) nil))) nil)
end
theorem q_AO_0 : ∀ b, (Q_AO_0).em b = St.mk [un, un, AV.r (RV.c (CV.ptr 1 (Off.k 0) 2)), un, AV.r (RV.c (CV.ptr 2 (Off.k 0) 2)), un, un, un, un, AV.r (RV.c (CV.sl 0 (Off.k 0) (Sz.s b.1.c8.2.1.2.2.1) 2 b.1.c8.2.1.c4)), rI b.1.c8.2.2.1,
 rI b.1.c8.2.2.2.1, un, un, un, un, un, un, un, un, un, un, un, un, un, un, un] [some [Sg.a (Sz.s b.2.1.1.1.1) [kI b.2.1.1.1.2.1, Col.i IntKind.u64 b.2.1.1.1.2.2.1]], some [sI 0,
 sU 0], some [sI b.2.1.2.2.1.1, sU b.2.1.2.2.1.2.1]] [] := fun b => by kernel_rfl
def R_AO_0 (l : ∀ {ρ : Type}, (Nat × Bool × Int × Int × Nat × NI × NI × Int × Int) → ((Bool × Nat × Bool × Int × Int × Bool × Nat × Int × Int × Int × Int × Int × Int × Bool × Nat × NI × NI ⊕ Nat × Bool × Int × Int × Bool × Nat × NI × NI × Int × Int) →
 Option ρ) → Option ρ) {ρ : Type} (s : St) (K : AX → St → Option ρ) : Option ρ := ((Q_AO_0).rd s).bind fun b => l (b.1.c8.2.1.2.2.1, b.1.c8.2.1.c4, b.1.c8.2.2.1, b.1.c8.2.2.2.1, b.2.1.1.1.1, b.2.1.1.1.2.1, b.2.1.1.1.2.2.1, b.2.1.2.2.1.1, b.2.1.2.2.1.2.1) (Sum.elim (fun d => K (AX.ret) (St.mk [un,
 un, AV.r (RV.c (CV.ptr 1 (Off.k 0) 2)), rB false, AV.r (RV.c (CV.ptr 2 (Off.k 0) 2)), un, AV.r (RV.c (CV.ptr 3 (Off.k 0) 2)), AV.r (RV.c (CV.ptr 4 (Off.k 0) 2)), rB d.1, AV.r (RV.c (CV.sl 0 (Off.k 0) (Sz.s d.2.1) 2 d.2.2.1)), rI d.2.2.2.1,
 rI d.c4.1, rB d.c4.2.1, AV.r (RV.c (CV.ptr 0 (Off.x 0 d.c4.2.2.1 2) 2)), AV.r (RV.agg [sI d.c4.2.2.2.1, sU d.c8.1]), AV.tup [RV.agg [sI d.c8.2.1,
 sU d.c8.2.2.1], RV.c (CV.f (FV.b d.1))], AV.r (RV.agg [sI d.c8.2.2.2.1, sU d.c8.c4.1]), AV.r (RV.agg [sI d.c4.2.2.2.1, sU d.c8.1]),
 AV.tup [RV.agg [sI d.c8.2.1, sU d.c8.2.2.1], RV.c (CV.f (FV.b d.1))], AV.r (RV.agg [sI d.c8.2.1, sU d.c8.2.2.1]), rB d.1,
 rB d.1, rB d.c8.c4.2.1, AV.r (RV.agg [sI 0, sU 0]), un, un, un] [some [Sg.a (Sz.s d.c8.c4.2.2.1) [kI d.c8.c4.2.2.2.1,
 Col.i IntKind.u64 d.c16]], some [sI 0, sU 0], some [sI d.c8.2.2.2.1, sU d.c8.c4.1], some [sI d.c4.2.2.2.1,
 sU d.c8.1], some [sI d.c8.2.1, sU d.c8.2.2.1]] [])) (fun d => K (AX.ex 0) (St.mk [un, un, AV.r (RV.c (CV.ptr 1 (Off.k 0) 2)), un, AV.r (RV.c (CV.ptr 2 (Off.k 0) 2)),
 un, un, un, un, AV.r (RV.c (CV.sl 0 (Off.k 0) (Sz.s d.1) 2 d.2.1)), rI d.2.2.1, rI d.2.2.2.1, rB d.c4.1, un, un, un, un, un, un, un, un, un, un, un,
 un, un, un] [some [Sg.a (Sz.s d.c4.2.1) [kI d.c4.2.2.1, Col.i IntKind.u64 d.c4.2.2.2.1]], some [sI 0, sU 0], some [sI d.c8.1, sU d.c8.2]] [])))
theorem ms_AO_0 {ρ σ : Type} (g_Ax : t3W1)   (q : ρ → Option σ) (x0 : Nat) (x1 : Bool) (x2 : Int) (x3 : Int) (x4 : Nat) (x5 : Nat → Int) (x6 : Nat → Int) (x7 : Int) (x8 : Int) (c : (Nat × Bool × Int × Int × Nat × NI × NI × Int × Int) → Option ρ) (x : (Bool × Nat × Bool × Int × Int × Bool × Nat × Int × Int × Int × Int × Int × Int × Bool × Nat × NI × NI ⊕ Nat × Bool × Int × Int × Bool × Nat × NI × NI × Int × Int) → Option ρ) : (S_AO_0 g_Ax  x0 x1 x2 x3 x4 x5 x6 x7 x8 c x).bind q = S_AO_0 g_Ax  x0 x1 x2 x3 x4 x5 x6 x7 x8 (fun d => (c d).bind q) (fun d => (x d).bind q) := by
  simp only [S_AO_0, bnd_cond, bnd_bind, bnd_none, bnd_sum]
def L_AO_0 {ρ : Type} (d : Nat × Bool × Int × Int × Nat × NI × NI × Int × Int) (k : (Bool × Nat × Bool × Int × Int × Bool × Nat × Int × Int × Int × Int × Int × Int × Bool × Nat × NI × NI ⊕ Nat × Bool × Int × Int × Bool × Nat × NI × NI × Int × Int) → Option ρ) : Option ρ := loopK (fun d c x => S_AO_0 f_Ax  d.1 d.2.1 d.2.2.1 d.2.2.2.1 d.c4.1 d.c4.2.1 d.c4.2.2.1 d.c4.2.2.2.1 d.c8 c x) 200 d k
theorem mL_AO_0 {ρ σ : Type} (q : ρ → Option σ) (d : Nat × Bool × Int × Int × Nat × NI × NI × Int × Int) (k : (Bool × Nat × Bool × Int × Int × Bool × Nat × Int × Int × Int × Int × Int × Int × Bool × Nat × NI × NI ⊕ Nat × Bool × Int × Int × Bool × Nat × NI ×
 NI × Int × Int) → Option ρ) : (L_AO_0 d k).bind q = L_AO_0 d fun x => (k x).bind q := loopK_bind q (fun d c x => ms_AO_0 f_Ax q d.1 d.2.1 d.2.2.1 d.2.2.2.1 d.c4.1 d.c4.2.1 d.c4.2.2.1 d.c4.2.2.2.1 d.c8 c x) k _ d
theorem ds_AO_0 {ρ : Type} (g_Ax : t3W1) (l_0 : ∀ {ρ : Type}, (Nat × Bool × Int × Int × Nat × NI × NI × Int × Int) → ((Bool × Nat × Bool × Int × Int × Bool × Nat × Int × Int × Int × Int × Int × Int × Bool × Nat × NI × NI ⊕ Nat ×
 Bool × Int × Int × Bool × Nat × NI × NI × Int × Int) → Option ρ) → Option ρ) (x0 : Nat) (x1 : Bool) (x2 : Int) (x3 : Int) (x4 : Nat) (x5 : Nat → Int) (x6 : Nat → Int) (x7 : Int) (x8 : Int) (c : St → Option ρ) (K : AX → St → Option ρ) : runC Try.prog (envOf [(56, F_Ax g_Ax)]) ⟨[⟨3, u0W1, []⟩], [⟨3, 1, @R_AO_0 (@l_0)⟩], [], [], none⟩ (tmpsOf Try.prog 20) 1 200 (loopIn Try.prog 20 3) (St.mk [un, un, AV.r (RV.c (CV.ptr 1 (Off.k 0) 2)), un, AV.r (RV.c (CV.ptr 2 (Off.k 0) 2)), un, un, un,
 un, AV.r (RV.c (CV.sl 0 (Off.k 0) (Sz.s x0) 2 x1)), rI x2, rI x3, un, un, un, un, un, un, un, un, un, un, un, un, un, un, un] [some [Sg.a (Sz.s x4) [kI x5,
 Col.i IntKind.u64 x6]], some [sI 0, sU 0], some [sI x7, sU x8]] []) (next (fun t => t.head 1 ⟨[⟨3, u0W1, []⟩], [⟨3,
 1, @R_AO_0 (@l_0)⟩], [], [], none⟩ (loopIn Try.prog 20 3)) c K) = S_AO_0 g_Ax x0 x1 x2 x3 x4 x5 x6 x7 x8 (fun d => c (St.mk [un, un, AV.r (RV.c (CV.ptr 1 (Off.k 0) 2)), un, AV.r (RV.c (CV.ptr 2 (Off.k 0) 2)), un, un, un, un, AV.r (RV.c (CV.sl 0 (Off.k 0) (Sz.s d.1) 2 d.2.1)),
 rI d.2.2.1, rI d.2.2.2.1, un, un, un, un, un, un, un, un, un, un, un, un, un, un, un] [some [Sg.a (Sz.s d.c4.1) [kI d.c4.2.1, Col.i IntKind.u64 d.c4.2.2.1]],
 some [sI 0, sU 0], some [sI d.c4.2.2.2.1, sU d.c8]] [])) (Sum.elim (fun d => K (AX.ret) (St.mk [un, un, AV.r (RV.c (CV.ptr 1 (Off.k 0) 2)), rB false,
 AV.r (RV.c (CV.ptr 2 (Off.k 0) 2)), un, AV.r (RV.c (CV.ptr 3 (Off.k 0) 2)), AV.r (RV.c (CV.ptr 4 (Off.k 0) 2)), rB d.1, AV.r (RV.c (CV.sl 0 (Off.k 0) (Sz.s d.2.1) 2 d.2.2.1)), rI d.2.2.2.1, rI d.c4.1,
 rB d.c4.2.1, AV.r (RV.c (CV.ptr 0 (Off.x 0 d.c4.2.2.1 2) 2)), AV.r (RV.agg [sI d.c4.2.2.2.1, sU d.c8.1]), AV.tup [RV.agg [sI d.c8.2.1, sU d.c8.2.2.1],
 RV.c (CV.f (FV.b d.1))], AV.r (RV.agg [sI d.c8.2.2.2.1, sU d.c8.c4.1]), AV.r (RV.agg [sI d.c4.2.2.2.1, sU d.c8.1]), AV.tup [RV.agg [sI d.c8.2.1,
 sU d.c8.2.2.1], RV.c (CV.f (FV.b d.1))], AV.r (RV.agg [sI d.c8.2.1, sU d.c8.2.2.1]), rB d.1, rB d.1, rB d.c8.c4.2.1,
 AV.r (RV.agg [sI 0, sU 0]), un, un, un] [some [Sg.a (Sz.s d.c8.c4.2.2.1) [kI d.c8.c4.2.2.2.1, Col.i IntKind.u64 d.c16]], some [sI 0,
 sU 0], some [sI d.c8.2.2.2.1, sU d.c8.c4.1], some [sI d.c4.2.2.2.1, sU d.c8.1], some [sI d.c8.2.1,
 sU d.c8.2.2.1]] [])) (fun d => K (AX.ex 0) (St.mk [un, un, AV.r (RV.c (CV.ptr 1 (Off.k 0) 2)), un, AV.r (RV.c (CV.ptr 2 (Off.k 0) 2)), un, un, un, un, AV.r (RV.c (CV.sl 0 (Off.k 0) (Sz.s d.1) 2 d.2.1)), rI d.2.2.1,
 rI d.2.2.2.1, rB d.c4.1, un, un, un, un, un, un, un, un, un, un, un, un, un, un] [some [Sg.a (Sz.s d.c4.2.1) [kI d.c4.2.2.1, Col.i IntKind.u64 d.c4.2.2.2.1]],
 some [sI 0, sU 0], some [sI d.c8.1, sU d.c8.2]] []))) := by kernel_rfl
theorem it_AO_0 {ρ : Type} (x0 : Nat) (x1 : Bool) (x2 : Int) (x3 : Int) (x4 : Nat) (x5 : Nat → Int) (x6 : Nat → Int) (x7 : Int) (x8 : Int) (K : AX → St → Option ρ) : iter (fun t => t.head 1 ⟨[⟨3, u0W1, []⟩], [⟨3, 1, @R_AO_0 (@L_AO_0)⟩],
 [], [], none⟩ (loopIn Try.prog 20 3)) (runC Try.prog (envOf [(56, F_Ax f_Ax)]) ⟨[⟨3, u0W1, []⟩], [⟨3, 1, @R_AO_0 (@L_AO_0)⟩], [], [], none⟩ (tmpsOf Try.prog 20) 1 200 (loopIn Try.prog 20 3)) K 200 (St.mk [un, un, AV.r (RV.c (CV.ptr 1 (Off.k 0) 2)),
 un, AV.r (RV.c (CV.ptr 2 (Off.k 0) 2)), un, un, un, un, AV.r (RV.c (CV.sl 0 (Off.k 0) (Sz.s x0) 2 x1)), rI x2, rI x3, un, un, un, un, un, un, un, un, un, un, un, un,
 un, un, un] [some [Sg.a (Sz.s x4) [kI x5, Col.i IntKind.u64 x6]], some [sI 0, sU 0], some [sI x7, sU x8]] []) = L_AO_0 (x0, x1, x2, x3, x4, x5, x6, x7, x8) (Sum.elim (fun d => K (AX.ret) (St.mk [un,
 un, AV.r (RV.c (CV.ptr 1 (Off.k 0) 2)), rB false, AV.r (RV.c (CV.ptr 2 (Off.k 0) 2)), un, AV.r (RV.c (CV.ptr 3 (Off.k 0) 2)), AV.r (RV.c (CV.ptr 4 (Off.k 0) 2)), rB d.1, AV.r (RV.c (CV.sl 0 (Off.k 0) (Sz.s d.2.1) 2 d.2.2.1)), rI d.2.2.2.1,
 rI d.c4.1, rB d.c4.2.1, AV.r (RV.c (CV.ptr 0 (Off.x 0 d.c4.2.2.1 2) 2)), AV.r (RV.agg [sI d.c4.2.2.2.1, sU d.c8.1]), AV.tup [RV.agg [sI d.c8.2.1,
 sU d.c8.2.2.1], RV.c (CV.f (FV.b d.1))], AV.r (RV.agg [sI d.c8.2.2.2.1, sU d.c8.c4.1]), AV.r (RV.agg [sI d.c4.2.2.2.1, sU d.c8.1]),
 AV.tup [RV.agg [sI d.c8.2.1, sU d.c8.2.2.1], RV.c (CV.f (FV.b d.1))], AV.r (RV.agg [sI d.c8.2.1, sU d.c8.2.2.1]), rB d.1,
 rB d.1, rB d.c8.c4.2.1, AV.r (RV.agg [sI 0, sU 0]), un, un, un] [some [Sg.a (Sz.s d.c8.c4.2.2.1) [kI d.c8.c4.2.2.2.1,
 Col.i IntKind.u64 d.c16]], some [sI 0, sU 0], some [sI d.c8.2.2.2.1, sU d.c8.c4.1], some [sI d.c4.2.2.2.1,
 sU d.c8.1], some [sI d.c8.2.1, sU d.c8.2.2.1]] [])) (fun d => K (AX.ex 0) (St.mk [un, un, AV.r (RV.c (CV.ptr 1 (Off.k 0) 2)), un, AV.r (RV.c (CV.ptr 2 (Off.k 0) 2)),
 un, un, un, un, AV.r (RV.c (CV.sl 0 (Off.k 0) (Sz.s d.1) 2 d.2.1)), rI d.2.2.1, rI d.2.2.2.1, rB d.c4.1, un, un, un, un, un, un, un, un, un, un, un,
 un, un, un] [some [Sg.a (Sz.s d.c4.2.1) [kI d.c4.2.2.1, Col.i IntKind.u64 d.c4.2.2.2.1]], some [sI 0, sU 0], some [sI d.c8.1, sU d.c8.2]] []))) := iter_loopX (emb := fun (d : Nat ×
 Bool × Int × Int × Nat × NI × NI × Int × Int) => St.mk [un, un, AV.r (RV.c (CV.ptr 1 (Off.k 0) 2)), un, AV.r (RV.c (CV.ptr 2 (Off.k 0) 2)), un, un, un, un, AV.r (RV.c (CV.sl 0 (Off.k 0) (Sz.s d.1) 2 d.2.1)), rI d.2.2.1,
 rI d.2.2.2.1, un, un, un, un, un, un, un, un, un, un, un, un, un, un, un] [some [Sg.a (Sz.s d.c4.1) [kI d.c4.2.1, Col.i IntKind.u64 d.c4.2.2.1]], some [sI 0,
 sU 0], some [sI d.c4.2.2.2.1, sU d.c8]] []) (step := fun d c x => S_AO_0 f_Ax d.1 d.2.1 d.2.2.1 d.2.2.2.1 d.c4.1 d.c4.2.1 d.c4.2.2.1 d.c4.2.2.2.1 d.c8 c x) (kx := (Sum.elim (fun d => K (AX.ret) (St.mk [un,
 un, AV.r (RV.c (CV.ptr 1 (Off.k 0) 2)), rB false, AV.r (RV.c (CV.ptr 2 (Off.k 0) 2)), un, AV.r (RV.c (CV.ptr 3 (Off.k 0) 2)), AV.r (RV.c (CV.ptr 4 (Off.k 0) 2)), rB d.1, AV.r (RV.c (CV.sl 0 (Off.k 0) (Sz.s d.2.1) 2 d.2.2.1)), rI d.2.2.2.1,
 rI d.c4.1, rB d.c4.2.1, AV.r (RV.c (CV.ptr 0 (Off.x 0 d.c4.2.2.1 2) 2)), AV.r (RV.agg [sI d.c4.2.2.2.1, sU d.c8.1]), AV.tup [RV.agg [sI d.c8.2.1,
 sU d.c8.2.2.1], RV.c (CV.f (FV.b d.1))], AV.r (RV.agg [sI d.c8.2.2.2.1, sU d.c8.c4.1]), AV.r (RV.agg [sI d.c4.2.2.2.1, sU d.c8.1]),
 AV.tup [RV.agg [sI d.c8.2.1, sU d.c8.2.2.1], RV.c (CV.f (FV.b d.1))], AV.r (RV.agg [sI d.c8.2.1, sU d.c8.2.2.1]), rB d.1,
 rB d.1, rB d.c8.c4.2.1, AV.r (RV.agg [sI 0, sU 0]), un, un, un] [some [Sg.a (Sz.s d.c8.c4.2.2.1) [kI d.c8.c4.2.2.2.1,
 Col.i IntKind.u64 d.c16]], some [sI 0, sU 0], some [sI d.c8.2.2.2.1, sU d.c8.c4.1], some [sI d.c4.2.2.2.1,
 sU d.c8.1], some [sI d.c8.2.1, sU d.c8.2.2.1]] [])) (fun d => K (AX.ex 0) (St.mk [un, un, AV.r (RV.c (CV.ptr 1 (Off.k 0) 2)), un, AV.r (RV.c (CV.ptr 2 (Off.k 0) 2)),
 un, un, un, un, AV.r (RV.c (CV.sl 0 (Off.k 0) (Sz.s d.1) 2 d.2.1)), rI d.2.2.1, rI d.2.2.2.1, rB d.c4.1, un, un, un, un, un, un, un, un, un, un, un,
 un, un, un] [some [Sg.a (Sz.s d.c4.2.1) [kI d.c4.2.2.1, Col.i IntKind.u64 d.c4.2.2.2.1]], some [sI 0, sU 0], some [sI d.c8.1, sU d.c8.2]] [])))) (fun d c => ds_AO_0 f_Ax (@L_AO_0) d.1 d.2.1 d.2.2.1 d.2.2.2.1 d.c4.1 d.c4.2.1 d.c4.2.2.1 d.c4.2.2.2.1 d.c8 c K) 200 (x0,
 x1, x2, x3, x4, x5, x6, x7, x8)
theorem so_AO_0 [Amb] : ∀ kk, SumOK Try.prog (envOf [(56, F_Ax f_Ax)]) ⟨[⟨3, u0W1, []⟩], [⟨3, 1, @R_AO_0 (@L_AO_0)⟩], [], [], none⟩ (tmpsOf Try.prog 20) kk 200 (loopIn Try.prog 20 3) := SumOK.of (id := 3) (k0 := 1) (run := @R_AO_0 (@L_AO_0)) (by kernel_rfl) fun s K r hr => by
    unfold R_AO_0 at hr
    obtain ⟨b, hb, hr1⟩ := Option.bind_eq_some_iff.1 hr
    have e := ((Q_AO_0).ok s b hb).trans (q_AO_0 b)
    subst e
    exact ⟨200, (it_AO_0 b.1.c8.2.1.2.2.1 b.1.c8.2.1.c4 b.1.c8.2.2.1 b.1.c8.2.2.2.1 b.2.1.1.1.1 b.2.1.1.1.2.1 b.2.1.1.1.2.2.1 b.2.1.2.2.1.1 b.2.1.2.2.1.2.1 K).trans hr1⟩
def K_AO {ρ : Type} (g_Ax : t3W1) (l_0 : ∀ {ρ : Type}, (Nat × Bool × Int × Int × Nat × NI × NI × Int × Int) → ((Bool × Nat × Bool × Int × Int × Bool × Nat × Int × Int × Int × Int × Int × Int × Bool × Nat × NI × NI ⊕ Nat ×
 Bool × Int × Int × Bool × Nat × NI × NI × Int × Int) → Option ρ) → Option ρ) (x0 : Nat) (x1 : Nat → Int) (x2 : Nat → Int) (w0 : Bool) (k : (Int × Int × Bool) → Option ρ) : Option ρ := l_0 (x0, w0, Int.ofNat x0, 0, x0, x1, x2, 0, 0) (Sum.elim (fun (d : Bool × Nat × Bool × Int × Int ×
 Bool × Nat × Int × Int × Int × Int × Int × Int × Bool × Nat × NI × NI) => k (0, 0, false)) fun (d : Nat × Bool × Int × Int × Bool × Nat × NI × NI × Int × Int) => k (d.c8.1, d.c8.2, true))
def f_AO (x0 : Nat) (x1 : Nat → Int) (x2 : Nat → Int) (w0 : Bool) : Option (Int × Int × Bool) := K_AO f_Ax (@L_AO_0) x0 x1 x2 w0 some
section
open Go.Ab.Rdr
def QA_AO := ((pair (cons (ar (rc (csl (nat 0) (ok' (nat 0)) (szs hole) (nat 2) hole))) nil) (cons (cons (ga (szs hole) (cons (ki .i64 hole) (cons (ki .u64 hole) nil))) nil) nil)) : Rdr (List AV × List Blk) _)
end
def F0_AO (f : (Nat) → NI → NI → (Bool) → Option (Int × Int × Bool)) : Sem1 := fun args h => match (QA_AO).rd (args, h) with
  | some b => .test (Nat.beq b.2.1.1.1 b.1.1.2.2.1) (.opt (f b.1.1.2.2.1 b.2.1.1.2.1 b.2.1.1.2.2.1 b.1.1.c4) fun (d : Int × Int × Bool) => .leaf (Res.mk (AV.tup [RV.agg [sI d.1, sU d.2.1], RV.c (CV.f (FV.b d.2.2))]) [Ch.keep] [])) .fail
  | none => .fail
def F_AO (f : (Nat) → NI → NI → (Bool) → Option (Int × Int × Bool)) : Sem1 := (nilF 0 [.i .i64, .i .u64] (F0_AO f))
theorem d_AO (g_Ax : t3W1) (l_0 : ∀ {ρ : Type}, (Nat × Bool × Int × Int × Nat × NI × NI × Int × Int) → ((Bool × Nat × Bool × Int × Int × Bool × Nat × Int × Int × Int × Int × Int × Int × Bool × Nat × NI × NI ⊕ Nat × Bool ×
 Int × Int × Bool × Nat × NI × NI × Int × Int) → Option ρ) → Option ρ) (x0 : Nat) (x1 : Nat → Int) (x2 : Nat → Int) (w0 : Bool) : den Try.prog (envOf [(56, F_Ax g_Ax)]) ⟨[⟨3, u0W1, []⟩], [⟨3, 1, @R_AO_0 (@l_0)⟩],
 [], [], none⟩ 200 20 [.r (.c (.sl 0 (.k 0) (.s x0) 2 w0))] [[.a (.s x0) [.i .i64 x1, .i .u64 x2]]] = K_AO g_Ax (@l_0) x0 x1 x2 w0 (fun (d : Int × Int × Bool) => some (Res.mk (AV.tup [RV.agg [sI d.1, sU d.2.1], RV.c (CV.f (FV.b d.2.2))]) [Ch.keep] [])) := by kernel_rfl
theorem m_AO {ρ σ : Type} (q : ρ → Option σ) (g_Ax : t3W1) (l_0 : ∀ {ρ : Type}, (Nat × Bool × Int × Int × Nat × NI × NI × Int × Int) → ((Bool × Nat × Bool × Int × Int × Bool × Nat × Int × Int × Int × Int × Int × Int × Bool × Nat × NI × NI ⊕ Nat × Bool × Int × Int × Bool × Nat × NI × NI × Int × Int) → Option ρ) → Option ρ) (hl_0 : ∀ {ρ σ : Type} (q : ρ → Option σ) (d : Nat × Bool × Int × Int × Nat × NI × NI × Int × Int) (k : (Bool × Nat × Bool × Int × Int × Bool × Nat × Int × Int × Int × Int × Int × Int × Bool × Nat × NI × NI ⊕ Nat × Bool × Int × Int × Bool × Nat × NI × NI × Int × Int) → Option ρ), (l_0 d k).bind q = l_0 d fun x => (k x).bind q) (x0 : Nat) (x1 : Nat → Int) (x2 : Nat → Int) (w0 : Bool) (k : (Int × Int × Bool) → Option ρ) : (K_AO g_Ax (@l_0) x0 x1 x2 w0 k).bind q = K_AO g_Ax (@l_0) x0 x1 x2 w0 (fun d => (k d).bind q) := by
  simp only [K_AO, bnd_cond, bnd_bind, bnd_none, bnd_sum, hl_0]
theorem qa_AO : ∀ b, (QA_AO).em b = ([.r (.c (.sl 0 (.k 0) (.s b.1.1.2.2.1) 2 b.1.1.c4))], [[.a (.s b.2.1.1.1) [.i .i64 b.2.1.1.2.1, .i .u64 b.2.1.1.2.2.1]]]) := fun b => by kernel_rfl
theorem e_AO {f : (Nat) → NI → NI → (Bool) → Option (Int × Int × Bool)} {args : List AV} {h : List Blk} {r : Res} (hr : (F0_AO f args h).eval = some r) : ∃ x0 x1 x2 w0, args = [.r (.c (.sl 0 (.k 0) (.s x0) 2 w0))] ∧ h = [[.a (.s x0) [.i .i64 x1, .i .u64 x2]]] ∧ (f x0 x1 x2 w0).bind (fun (d : Int × Int × Bool) => some (Res.mk (AV.tup [RV.agg [sI d.1, sU d.2.1], RV.c (CV.f (FV.b d.2.2))]) [Ch.keep] [])) = some r := by
  unfold F0_AO at hr
  split at hr
  · rename_i b hb
    have e := ((QA_AO).ok _ _ hb).trans (qa_AO b)
    obtain ⟨he, hr1⟩ := test_eval hr
    clear hr
    have hr := hr1
    clear hr1
    rw [Nat.eq_of_beq_eq_true he] at e
    clear he
    rw [opt_eval2] at hr
    exact ⟨b.1.1.2.2.1, b.2.1.1.2.1, b.2.1.1.2.2.1, b.1.1.c4, (Prod.mk.inj e).1, (Prod.mk.inj e).2, hr⟩
  · cases hr
theorem n_AO {σ : Type} (q : (Int × Int × Bool) → Option σ) (x0 : Nat) (x1 : Nat → Int) (x2 : Nat → Int) (w0 : Bool) : (f_AO x0 x1 x2 w0).bind q = K_AO f_Ax (@L_AO_0) x0 x1 x2 w0 q := by
  unfold f_AO
  exact m_AO q f_Ax (@L_AO_0) (fun q d k => mL_AO_0 q d k) x0 x1 x2 w0 some
theorem s_AO [Amb] : Sound Try.prog 20 (F_AO f_AO) := Sound.nil 0 [.i .i64, .i .u64] <| (inl_sums (l := [(56, F_Ax f_Ax)]) (.cons s_Ax (.nil _)) mixed (hs := ⟨[⟨3, u0W1, []⟩], [⟨3, 1, @R_AO_0 (@L_AO_0)⟩], [], [], none⟩) (lf := 200) (Sums.by (l := [loopIn Try.prog 20 3]) (lj := []) (by kernel_rfl) ⟨so_AO_0,
 trivial⟩ (by kernel_rfl) trivial) (by kernel_rfl)).by (F := F0_AO f_AO) fun args b r hr => by
  obtain ⟨x0, x1, x2, w0, rfl, rfl, hr1⟩ := e_AO hr
  exact inl_eval ((d_AO f_Ax (@L_AO_0) x0 x1 x2 w0).trans ((n_AO (fun (d : Int × Int × Bool) => some (Res.mk (AV.tup [RV.agg [sI d.1, sU d.2.1], RV.c (CV.f (FV.b d.2.2))]) [Ch.keep] [])) x0 x1 x2 w0).symm.trans hr1))

def K_Ay {ρ : Type} (g_BG : C3) (x0 : Int) (x1 : Int) (k : (Int × Int × Bool) → Option ρ) : Option ρ := bif decide (x0 ≥ 0) then k (IntKind.wrap IntKind.u64 x0, x1, false) else Option.bind (g_BG (IntKind.wrap IntKind.u64 (Int.ofNat (BitVec.toNat (BitVec.ofInt 64 18446744073709551615 ^^^ BitVec.ofInt 64 x1)))) 1 0) fun (d : Int ×
 Int) => k (IntKind.wrap IntKind.u64 (IntKind.wrap IntKind.u64 (Int.ofNat (BitVec.toNat (BitVec.ofInt 64 18446744073709551615 ^^^ BitVec.ofInt 64 (IntKind.wrap IntKind.u64 x0)))) + d.2), d.1, true)
def f_Ay (x0 : Int) (x1 : Int) : Option (Int × Int × Bool) := K_Ay f_BG  x0 x1 some
section
open Go.Ab.Rdr
def QA_Ay := ((pair (cons (ar (ra (cons (gc (cf (fi .i64 hole))) (cons (gc (cf (fi .u64 hole))) nil)))) nil) nil) : Rdr (List AV × List Blk) _)
end
def F_Ay (f : (Int) → (Int) → Option (Int × Int × Bool)) : Sem1 := fun args h => match (QA_Ay).rd (args, h) with
  | some b => .opt (f b.1.1.1 b.1.1.2.1) fun (d : Int × Int × Bool) => .leaf (Res.mk (AV.tup [RV.agg [sU d.1, sU d.2.1], RV.c (CV.f (FV.b d.2.2))]) [] [])
  | none => .fail
theorem d_Ay (g_BG : C3) (x0 : Int) (x1 : Int) : den Try.prog (envOf [(87, F_carry g_BG)]) ⟨[], [], [], [], none⟩ 200 52 [.r (.agg [.c (.f (.i .i64 x0)), .c (.f (.i .u64 x1))])] [] = K_Ay g_BG x0 x1 (fun (d : Int × Int × Bool) => some (Res.mk (AV.tup [RV.agg [sU d.1, sU d.2.1],
 RV.c (CV.f (FV.b d.2.2))]) [] [])) := by kernel_rfl
theorem m_Ay {ρ σ : Type} (q : ρ → Option σ) (g_BG : C3)   (x0 : Int) (x1 : Int) (k : (Int × Int × Bool) → Option ρ) : (K_Ay g_BG  x0 x1 k).bind q = K_Ay g_BG  x0 x1 (fun d => (k d).bind q) := by
  simp only [K_Ay, bnd_cond, bnd_bind, bnd_none, bnd_sum]
theorem qa_Ay : ∀ b, (QA_Ay).em b = ([.r (.agg [.c (.f (.i .i64 b.1.1.1)), .c (.f (.i .u64 b.1.1.2.1))])], []) := fun b => by kernel_rfl
theorem e_Ay {f : (Int) → (Int) → Option (Int × Int × Bool)} {args : List AV} {h : List Blk} {r : Res} (hr : (F_Ay f args h).eval = some r) : ∃ x0 x1, args = [.r (.agg [.c (.f (.i .i64 x0)), .c (.f (.i .u64 x1))])] ∧ h = [] ∧ (f x0 x1).bind (fun (d : Int × Int × Bool) => some (Res.mk (AV.tup [RV.agg [sU d.1, sU d.2.1], RV.c (CV.f (FV.b d.2.2))]) [] [])) = some r := by
  unfold F_Ay at hr
  split at hr
  · rename_i b hb
    have e := ((QA_Ay).ok _ _ hb).trans (qa_Ay b)
    rw [opt_eval2] at hr
    exact ⟨b.1.1.1, b.1.1.2.1, (Prod.mk.inj e).1, (Prod.mk.inj e).2, hr⟩
  · cases hr
theorem n_Ay {σ : Type} (q : (Int × Int × Bool) → Option σ) (x0 : Int) (x1 : Int) : (f_Ay x0 x1).bind q = K_Ay f_BG  x0 x1 q := by
  unfold f_Ay
  exact m_Ay q f_BG   x0 x1 some
theorem s_Ay [Amb] : Sound Try.prog 52 (F_Ay f_Ay) := (inl_sound (l := [(87, F_carry f_BG)]) (.cons s_BG (.nil _)) mixed [] [] 200 (by kernel_rfl)).by (F := F_Ay f_Ay) fun args b r hr => by
  obtain ⟨x0, x1, rfl, rfl, hr1⟩ := e_Ay hr
  exact inl_eval ((d_Ay f_BG  x0 x1).trans ((n_Ay (fun (d : Int × Int × Bool) => some (Res.mk (AV.tup [RV.agg [sU d.1, sU d.2.1], RV.c (CV.f (FV.b d.2.2))]) [] [])) x0 x1).symm.trans hr1))

def K_AS {ρ : Type} (x0 : Int) (x1 : Int) (x2 : Int) (k : (Int × Int) → Option ρ) : Option ρ := bif decide (x2 ≥ 64) then bif !decide (IntKind.wrap IntKind.i64 (x2 - 64) < 0) then k (IntKind.wrap IntKind.u64 (x1 * 2 ^ min (Int.toNat (IntKind.wrap IntKind.i64 (x2 - 64))) 64), 0) else none else bif !decide (x2 < 0) then
 bif !decide (IntKind.wrap IntKind.i64 (64 - x2) < 0) then bif !decide (x2 < 0) then k (IntKind.wrap IntKind.u64 (Int.ofNat (BitVec.toNat (BitVec.ofInt 64 (IntKind.wrap IntKind.u64 (x0 * 2 ^ min (Int.toNat x2) 64)) ||| BitVec.ofInt 64 (Int.fdiv x1 (2 ^ min (Int.toNat (IntKind.wrap IntKind.i64 (64 - x2))) 64))))),
 IntKind.wrap IntKind.u64 (x1 * 2 ^ min (Int.toNat x2) 64)) else none else none else none
def f_AS (x0 : Int) (x1 : Int) (x2 : Int) : Option (Int × Int) := K_AS   x0 x1 x2 some
section
open Go.Ab.Rdr
def QA_AS := ((pair (cons (ar (ra (cons (gc (cf (fi .u64 hole))) (cons (gc (cf (fi .u64 hole))) nil)))) (cons (ar (rc (cf (fi .i64 hole)))) nil)) nil) : Rdr (List AV × List Blk) _)
end
def F_AS (f : (Int) → (Int) → (Int) → Option (Int × Int)) : Sem1 := fun args h => match (QA_AS).rd (args, h) with
  | some b => .opt (f b.1.1.1 b.1.1.2.1 b.1.2.1) fun (d : Int × Int) => .leaf (Res.mk (AV.r (RV.agg [sU d.1, sU d.2])) [] [])
  | none => .fail
theorem d_AS (x0 : Int) (x1 : Int) (x2 : Int) : den Try.prog (envOf []) ⟨[], [], [], [], none⟩ 200 46 [.r (.agg [.c (.f (.i .u64 x0)), .c (.f (.i .u64 x1))]), rI x2] [] = K_AS x0 x1 x2 (fun (d : Int × Int) => some (Res.mk (AV.r (RV.agg [sU d.1, sU d.2])) [] [])) := by kernel_rfl
theorem m_AS {ρ σ : Type} (q : ρ → Option σ)    (x0 : Int) (x1 : Int) (x2 : Int) (k : (Int × Int) → Option ρ) : (K_AS   x0 x1 x2 k).bind q = K_AS   x0 x1 x2 (fun d => (k d).bind q) := by
  simp only [K_AS, bnd_cond, bnd_bind, bnd_none, bnd_sum]
theorem qa_AS : ∀ b, (QA_AS).em b = ([.r (.agg [.c (.f (.i .u64 b.1.1.1)), .c (.f (.i .u64 b.1.1.2.1))]), rI b.1.2.1], []) := fun b => by kernel_rfl
theorem e_AS {f : (Int) → (Int) → (Int) → Option (Int × Int)} {args : List AV} {h : List Blk} {r : Res} (hr : (F_AS f args h).eval = some r) : ∃ x0 x1 x2, args = [.r (.agg [.c (.f (.i .u64 x0)), .c (.f (.i .u64 x1))]), rI x2] ∧ h = [] ∧ (f x0 x1 x2).bind (fun (d : Int × Int) => some (Res.mk (AV.r (RV.agg [sU d.1, sU d.2])) [] [])) = some r := by
  unfold F_AS at hr
  split at hr
  · rename_i b hb
    have e := ((QA_AS).ok _ _ hb).trans (qa_AS b)
    rw [opt_eval2] at hr
    exact ⟨b.1.1.1, b.1.1.2.1, b.1.2.1, (Prod.mk.inj e).1, (Prod.mk.inj e).2, hr⟩
  · cases hr
theorem n_AS {σ : Type} (q : (Int × Int) → Option σ) (x0 : Int) (x1 : Int) (x2 : Int) : (f_AS x0 x1 x2).bind q = K_AS   x0 x1 x2 q := by
  unfold f_AS
  exact m_AS q    x0 x1 x2 some
theorem s_AS [Amb] : Sound Try.prog 46 (F_AS f_AS) := (inl_sound (l := []) (.nil _) mixed [] [] 200 (by kernel_rfl)).by (F := F_AS f_AS) fun args b r hr => by
  obtain ⟨x0, x1, x2, rfl, rfl, hr1⟩ := e_AS hr
  exact inl_eval ((d_AS   x0 x1 x2).trans ((n_AS (fun (d : Int × Int) => some (Res.mk (AV.r (RV.agg [sU d.1, sU d.2])) [] [])) x0 x1 x2).symm.trans hr1))

def K_AW {ρ : Type} (g_BG : C3) (x0 : Int) (x1 : Int) (x2 : Int) (x3 : Int) (k : (Int × Int) → Option ρ) : Option ρ := Option.bind (g_BG x1 x3 0) fun (d : Int × Int) => Option.bind (g_BG x0 x2 d.2) fun (d_1 : Int × Int) => k (d_1.1, d.1)
def f_AW (x0 : Int) (x1 : Int) (x2 : Int) (x3 : Int) : Option (Int × Int) := K_AW f_BG  x0 x1 x2 x3 some
section
open Go.Ab.Rdr
def QA_AW := ((pair (cons (ar (ra (cons (gc (cf (fi .u64 hole))) (cons (gc (cf (fi .u64 hole))) nil)))) (cons (ar (ra (cons (gc (cf (fi .u64 hole))) (cons (gc (cf (fi .u64 hole))) nil)))) nil)) nil) : Rdr (List AV × List Blk) _)
end
def F_AW (f : (Int) → (Int) → (Int) → (Int) → Option (Int × Int)) : Sem1 := fun args h => match (QA_AW).rd (args, h) with
  | some b => .opt (f b.1.1.1 b.1.1.2.1 b.1.2.1.1 b.1.2.1.2.1) fun (d : Int × Int) => .leaf (Res.mk (AV.r (RV.agg [sU d.1, sU d.2])) [] [])
  | none => .fail
theorem d_AW (g_BG : C3) (x0 : Int) (x1 : Int) (x2 : Int) (x3 : Int) : den Try.prog (envOf [(87, F_carry g_BG)]) ⟨[], [], [], [], none⟩ 200 47 [.r (.agg [.c (.f (.i .u64 x0)), .c (.f (.i .u64 x1))]), .r (.agg [.c (.f (.i .u64 x2)), .c (.f (.i .u64 x3))])] [] = K_AW g_BG x0 x1 x2 x3 (fun (d : Int × Int) => some (Res.mk (AV.r (RV.agg [sU d.1,
 sU d.2])) [] [])) := by kernel_rfl
theorem m_AW {ρ σ : Type} (q : ρ → Option σ) (g_BG : C3)   (x0 : Int) (x1 : Int) (x2 : Int) (x3 : Int) (k : (Int × Int) → Option ρ) : (K_AW g_BG  x0 x1 x2 x3 k).bind q = K_AW g_BG  x0 x1 x2 x3 (fun d => (k d).bind q) := by
  simp only [K_AW, bnd_cond, bnd_bind, bnd_none, bnd_sum]
theorem qa_AW : ∀ b, (QA_AW).em b = ([.r (.agg [.c (.f (.i .u64 b.1.1.1)), .c (.f (.i .u64 b.1.1.2.1))]), .r (.agg [.c (.f (.i .u64 b.1.2.1.1)), .c (.f (.i .u64 b.1.2.1.2.1))])], []) := fun b => by kernel_rfl
theorem e_AW {f : (Int) → (Int) → (Int) → (Int) → Option (Int × Int)} {args : List AV} {h : List Blk} {r : Res} (hr : (F_AW f args h).eval = some r) : ∃ x0 x1 x2 x3, args = [.r (.agg [.c (.f (.i .u64 x0)), .c (.f (.i .u64 x1))]), .r (.agg [.c (.f (.i .u64 x2)), .c (.f (.i .u64 x3))])] ∧ h = [] ∧ (f x0 x1 x2 x3).bind (fun (d : Int × Int) => some (Res.mk (AV.r (RV.agg [sU d.1, sU d.2])) [] [])) = some r := by
  unfold F_AW at hr
  split at hr
  · rename_i b hb
    have e := ((QA_AW).ok _ _ hb).trans (qa_AW b)
    rw [opt_eval2] at hr
    exact ⟨b.1.1.1, b.1.1.2.1, b.1.2.1.1, b.1.2.1.2.1, (Prod.mk.inj e).1, (Prod.mk.inj e).2, hr⟩
  · cases hr
theorem n_AW {σ : Type} (q : (Int × Int) → Option σ) (x0 : Int) (x1 : Int) (x2 : Int) (x3 : Int) : (f_AW x0 x1 x2 x3).bind q = K_AW f_BG  x0 x1 x2 x3 q := by
  unfold f_AW
  exact m_AW q f_BG   x0 x1 x2 x3 some
theorem s_AW [Amb] : Sound Try.prog 47 (F_AW f_AW) := (inl_sound (l := [(87, F_carry f_BG)]) (.cons s_BG (.nil _)) mixed [] [] 200 (by kernel_rfl)).by (F := F_AW f_AW) fun args b r hr => by
  obtain ⟨x0, x1, x2, x3, rfl, rfl, hr1⟩ := e_AW hr
  exact inl_eval ((d_AW f_BG  x0 x1 x2 x3).trans ((n_AW (fun (d : Int × Int) => some (Res.mk (AV.r (RV.agg [sU d.1, sU d.2])) [] [])) x0 x1 x2 x3).symm.trans hr1))

def K_AQ {ρ : Type} (x0 : Int) (x1 : Int) (x2 : Int) (k : (Int × Int) → Option ρ) : Option ρ := bif decide (x2 ≥ 64) then bif !decide (IntKind.wrap IntKind.i64 (x2 - 64) < 0) then k (0, Int.fdiv x0 (2 ^ min (Int.toNat (IntKind.wrap IntKind.i64 (x2 - 64))) 64)) else none else bif !decide (x2 < 0) then
 bif !decide (x2 < 0) then bif !decide (IntKind.wrap IntKind.i64 (64 - x2) < 0) then k (Int.fdiv x0 (2 ^ min (Int.toNat x2) 64), IntKind.wrap IntKind.u64 (Int.ofNat (BitVec.toNat (BitVec.ofInt 64 (Int.fdiv x1 (2 ^ min (Int.toNat x2) 64)) ||| BitVec.ofInt 64 (IntKind.wrap IntKind.u64 (x0 * 2 ^ min (Int.toNat (IntKind.wrap IntKind.i64 (64 - x2))) 64)))))) else
 none else none else none
def f_AQ (x0 : Int) (x1 : Int) (x2 : Int) : Option (Int × Int) := K_AQ   x0 x1 x2 some
section
open Go.Ab.Rdr
def QA_AQ := ((pair (cons (ar (ra (cons (gc (cf (fi .u64 hole))) (cons (gc (cf (fi .u64 hole))) nil)))) (cons (ar (rc (cf (fi .i64 hole)))) nil)) nil) : Rdr (List AV × List Blk) _)
end
def F_AQ (f : (Int) → (Int) → (Int) → Option (Int × Int)) : Sem1 := fun args h => match (QA_AQ).rd (args, h) with
  | some b => .opt (f b.1.1.1 b.1.1.2.1 b.1.2.1) fun (d : Int × Int) => .leaf (Res.mk (AV.r (RV.agg [sU d.1, sU d.2])) [] [])
  | none => .fail
theorem d_AQ (x0 : Int) (x1 : Int) (x2 : Int) : den Try.prog (envOf []) ⟨[], [], [], [], none⟩ 200 48 [.r (.agg [.c (.f (.i .u64 x0)), .c (.f (.i .u64 x1))]), rI x2] [] = K_AQ x0 x1 x2 (fun (d : Int × Int) => some (Res.mk (AV.r (RV.agg [sU d.1, sU d.2])) [] [])) := by kernel_rfl
theorem m_AQ {ρ σ : Type} (q : ρ → Option σ)    (x0 : Int) (x1 : Int) (x2 : Int) (k : (Int × Int) → Option ρ) : (K_AQ   x0 x1 x2 k).bind q = K_AQ   x0 x1 x2 (fun d => (k d).bind q) := by
  simp only [K_AQ, bnd_cond, bnd_bind, bnd_none, bnd_sum]
theorem qa_AQ : ∀ b, (QA_AQ).em b = ([.r (.agg [.c (.f (.i .u64 b.1.1.1)), .c (.f (.i .u64 b.1.1.2.1))]), rI b.1.2.1], []) := fun b => by kernel_rfl
theorem e_AQ {f : (Int) → (Int) → (Int) → Option (Int × Int)} {args : List AV} {h : List Blk} {r : Res} (hr : (F_AQ f args h).eval = some r) : ∃ x0 x1 x2, args = [.r (.agg [.c (.f (.i .u64 x0)), .c (.f (.i .u64 x1))]), rI x2] ∧ h = [] ∧ (f x0 x1 x2).bind (fun (d : Int × Int) => some (Res.mk (AV.r (RV.agg [sU d.1, sU d.2])) [] [])) = some r := by
  unfold F_AQ at hr
  split at hr
  · rename_i b hb
    have e := ((QA_AQ).ok _ _ hb).trans (qa_AQ b)
    rw [opt_eval2] at hr
    exact ⟨b.1.1.1, b.1.1.2.1, b.1.2.1, (Prod.mk.inj e).1, (Prod.mk.inj e).2, hr⟩
  · cases hr
theorem n_AQ {σ : Type} (q : (Int × Int) → Option σ) (x0 : Int) (x1 : Int) (x2 : Int) : (f_AQ x0 x1 x2).bind q = K_AQ   x0 x1 x2 q := by
  unfold f_AQ
  exact m_AQ q    x0 x1 x2 some
theorem s_AQ [Amb] : Sound Try.prog 48 (F_AQ f_AQ) := (inl_sound (l := []) (.nil _) mixed [] [] 200 (by kernel_rfl)).by (F := F_AQ f_AQ) fun args b r hr => by
  obtain ⟨x0, x1, x2, rfl, rfl, hr1⟩ := e_AQ hr
  exact inl_eval ((d_AQ   x0 x1 x2).trans ((n_AQ (fun (d : Int × Int) => some (Res.mk (AV.r (RV.agg [sU d.1, sU d.2])) [] [])) x0 x1 x2).symm.trans hr1))

def K_AR {ρ : Type} (x0 : Int) (x1 : Int) (x2 : Bool) (k : (Int × Bool) → Option ρ) : Option ρ := bif x0 != 0 then bif x0 != 0 then k (0, false) else bif x2 then k (IntKind.wrap IntKind.i64 (IntKind.wrap IntKind.u64 (0 - x1)), true) else k (IntKind.wrap IntKind.i64 x1, true) else bif !x2 then bif decide (x1 > 9223372036854775807) then
 bif decide (x1 > 9223372036854775807) then k (0, false) else bif x2 then k (IntKind.wrap IntKind.i64 (IntKind.wrap IntKind.u64 (0 - x1)), true) else k (IntKind.wrap IntKind.i64 x1, true) else bif x2 then bif decide (x1 > 9223372036854775808) then k (0, false) else bif x2 then k (IntKind.wrap IntKind.i64 (IntKind.wrap IntKind.u64 (0 - x1)),
 true) else k (IntKind.wrap IntKind.i64 x1, true) else bif x2 then k (IntKind.wrap IntKind.i64 (IntKind.wrap IntKind.u64 (0 - x1)), true) else k (IntKind.wrap IntKind.i64 x1, true) else bif x2 then bif decide (x1 > 9223372036854775808) then k (0, false) else bif x2 then k (IntKind.wrap IntKind.i64 (IntKind.wrap IntKind.u64 (0 - x1)),
 true) else k (IntKind.wrap IntKind.i64 x1, true) else bif x2 then k (IntKind.wrap IntKind.i64 (IntKind.wrap IntKind.u64 (0 - x1)), true) else k (IntKind.wrap IntKind.i64 x1, true)
def f_AR (x0 : Int) (x1 : Int) (x2 : Bool) : Option (Int × Bool) := K_AR   x0 x1 x2 some
section
open Go.Ab.Rdr
def QA_AR := ((pair (cons (ar (ra (cons (gc (cf (fi .u64 hole))) (cons (gc (cf (fi .u64 hole))) nil)))) (cons (ar (rc (cf (fb hole)))) nil)) nil) : Rdr (List AV × List Blk) _)
end
def F_AR (f : (Int) → (Int) → (Bool) → Option (Int × Bool)) : Sem1 := fun args h => match (QA_AR).rd (args, h) with
  | some b => .opt (f b.1.1.1 b.1.1.2.1 b.1.2.1) fun (d : Int × Bool) => .leaf (Res.mk (AV.tup [RV.c (fI d.1), RV.c (CV.f (FV.b d.2))]) [] [])
  | none => .fail
theorem d_AR (x0 : Int) (x1 : Int) (x2 : Bool) : den Try.prog (envOf []) ⟨[], [], [], [], none⟩ 200 51 [.r (.agg [.c (.f (.i .u64 x0)), .c (.f (.i .u64 x1))]), rB x2] [] = K_AR x0 x1 x2 (fun (d : Int × Bool) => some (Res.mk (AV.tup [RV.c (fI d.1), RV.c (CV.f (FV.b d.2))]) [] [])) := by kernel_rfl
theorem m_AR {ρ σ : Type} (q : ρ → Option σ)    (x0 : Int) (x1 : Int) (x2 : Bool) (k : (Int × Bool) → Option ρ) : (K_AR   x0 x1 x2 k).bind q = K_AR   x0 x1 x2 (fun d => (k d).bind q) := by
  simp only [K_AR, bnd_cond, bnd_bind, bnd_none, bnd_sum]
theorem qa_AR : ∀ b, (QA_AR).em b = ([.r (.agg [.c (.f (.i .u64 b.1.1.1)), .c (.f (.i .u64 b.1.1.2.1))]), rB b.1.2.1], []) := fun b => by kernel_rfl
theorem e_AR {f : (Int) → (Int) → (Bool) → Option (Int × Bool)} {args : List AV} {h : List Blk} {r : Res} (hr : (F_AR f args h).eval = some r) : ∃ x0 x1 x2, args = [.r (.agg [.c (.f (.i .u64 x0)), .c (.f (.i .u64 x1))]), rB x2] ∧ h = [] ∧ (f x0 x1 x2).bind (fun (d : Int × Bool) => some (Res.mk (AV.tup [RV.c (fI d.1), RV.c (CV.f (FV.b d.2))]) [] [])) = some r := by
  unfold F_AR at hr
  split at hr
  · rename_i b hb
    have e := ((QA_AR).ok _ _ hb).trans (qa_AR b)
    rw [opt_eval2] at hr
    exact ⟨b.1.1.1, b.1.1.2.1, b.1.2.1, (Prod.mk.inj e).1, (Prod.mk.inj e).2, hr⟩
  · cases hr
theorem n_AR {σ : Type} (q : (Int × Bool) → Option σ) (x0 : Int) (x1 : Int) (x2 : Bool) : (f_AR x0 x1 x2).bind q = K_AR   x0 x1 x2 q := by
  unfold f_AR
  exact m_AR q    x0 x1 x2 some
theorem s_AR [Amb] : Sound Try.prog 51 (F_AR f_AR) := (inl_sound (l := []) (.nil _) mixed [] [] 200 (by kernel_rfl)).by (F := F_AR f_AR) fun args b r hr => by
  obtain ⟨x0, x1, x2, rfl, rfl, hr1⟩ := e_AR hr
  exact inl_eval ((d_AR   x0 x1 x2).trans ((n_AR (fun (d : Int × Bool) => some (Res.mk (AV.tup [RV.c (fI d.1), RV.c (CV.f (FV.b d.2))]) [] [])) x0 x1 x2).symm.trans hr1))

def K_Ak {ρ : Type} (g_Ay : t4W1) (g_AS : t5W1) (g_AW : t6W1) (g_AQ : t5W1) (g_AR : t7W1) (x0 : Int) (x1 : Int) (x2 : Int) (k : (Int ×
 Bool) → Option ρ) : Option ρ := bif decide (x2 < 0) then k (0, false) else bif decide (x2 > 126) then k (0, false) else Option.bind (g_Ay x0 x1) fun (d : Int × Int × Bool) => bif decide (x2 > 0) then Option.bind (g_AS 0 1 (IntKind.wrap IntKind.i64 (x2 - 1))) fun (d_1 : Int × Int) => Option.bind (g_AW d.1 d.2.1 d_1.1 d_1.2) fun (d_2 : Int ×
 Int) => Option.bind (g_AQ d_2.1 d_2.2 x2) fun (d_3 : Int × Int) => Option.bind (g_AR d_3.1 d_3.2 d.2.2) fun (d : Int × Bool) => k (d.1, d.2) else Option.bind (g_AQ d.1 d.2.1 x2) fun (d_1 : Int × Int) => Option.bind (g_AR d_1.1 d_1.2 d.2.2) fun (d : Int × Bool) => k (d.1, d.2)
def f_Ak (x0 : Int) (x1 : Int) (x2 : Int) : Option (Int × Bool) := K_Ak f_Ay f_AS f_AW f_AQ f_AR  x0 x1 x2 some
section
open Go.Ab.Rdr
def QA_Ak := ((pair (cons (ar (ra (cons (gc (cf (fi .i64 hole))) (cons (gc (cf (fi .u64 hole))) nil)))) (cons (ar (rc (cf (fi .i64 hole)))) nil)) nil) : Rdr (List AV × List Blk) _)
end
def F_Ak (f : (Int) → (Int) → (Int) → Option (Int × Bool)) : Sem1 := fun args h => match (QA_Ak).rd (args, h) with
  | some b => .opt (f b.1.1.1 b.1.1.2.1 b.1.2.1) fun (d : Int × Bool) => .leaf (Res.mk (AV.tup [RV.c (fI d.1), RV.c (CV.f (FV.b d.2))]) [] [])
  | none => .fail
theorem d_Ak (g_Ay : t4W1) (g_AS : t5W1) (g_AW : t6W1) (g_AQ : t5W1) (g_AR : t7W1) (x0 : Int) (x1 : Int) (x2 : Int) : den Try.prog (envOf [(52,
 F_Ay g_Ay), (46, F_AS g_AS), (47, F_AW g_AW), (48, F_AQ g_AQ), (51, F_AR g_AR)]) ⟨[], [], [], [], none⟩ 200 17 [.r (.agg [.c (.f (.i .i64 x0)), .c (.f (.i .u64 x1))]), rI x2] [] = K_Ak g_Ay g_AS g_AW g_AQ g_AR x0 x1 x2 (fun (d : Int × Bool) => some (Res.mk (AV.tup [RV.c (fI d.1),
 RV.c (CV.f (FV.b d.2))]) [] [])) := by kernel_rfl
theorem m_Ak {ρ σ : Type} (q : ρ → Option σ) (g_Ay : t4W1) (g_AS : t5W1) (g_AW : t6W1) (g_AQ : t5W1) (g_AR : t7W1)   (x0 : Int) (x1 : Int) (x2 : Int) (k : (Int × Bool) → Option ρ) : (K_Ak g_Ay g_AS g_AW g_AQ g_AR  x0 x1 x2 k).bind q = K_Ak g_Ay g_AS g_AW g_AQ g_AR  x0 x1 x2 (fun d => (k d).bind q) := by
  simp only [K_Ak, bnd_cond, bnd_bind, bnd_none, bnd_sum]
theorem qa_Ak : ∀ b, (QA_Ak).em b = ([.r (.agg [.c (.f (.i .i64 b.1.1.1)), .c (.f (.i .u64 b.1.1.2.1))]), rI b.1.2.1], []) := fun b => by kernel_rfl
theorem e_Ak {f : (Int) → (Int) → (Int) → Option (Int × Bool)} {args : List AV} {h : List Blk} {r : Res} (hr : (F_Ak f args h).eval = some r) : ∃ x0 x1 x2, args = [.r (.agg [.c (.f (.i .i64 x0)), .c (.f (.i .u64 x1))]), rI x2] ∧ h = [] ∧ (f x0 x1 x2).bind (fun (d : Int × Bool) => some (Res.mk (AV.tup [RV.c (fI d.1), RV.c (CV.f (FV.b d.2))]) [] [])) = some r := by
  unfold F_Ak at hr
  split at hr
  · rename_i b hb
    have e := ((QA_Ak).ok _ _ hb).trans (qa_Ak b)
    rw [opt_eval2] at hr
    exact ⟨b.1.1.1, b.1.1.2.1, b.1.2.1, (Prod.mk.inj e).1, (Prod.mk.inj e).2, hr⟩
  · cases hr
theorem n_Ak {σ : Type} (q : (Int × Bool) → Option σ) (x0 : Int) (x1 : Int) (x2 : Int) : (f_Ak x0 x1 x2).bind q = K_Ak f_Ay f_AS f_AW f_AQ f_AR  x0 x1 x2 q := by
  unfold f_Ak
  exact m_Ak q f_Ay f_AS f_AW f_AQ f_AR   x0 x1 x2 some
theorem s_Ak [Amb] : Sound Try.prog 17 (F_Ak f_Ak) := (inl_sound (l := [(52, F_Ay f_Ay), (46, F_AS f_AS), (47, F_AW f_AW), (48, F_AQ f_AQ), (51, F_AR f_AR)]) (.cons s_Ay (.cons s_AS (.cons s_AW (.cons s_AQ (.cons s_AR (.nil _)))))) mixed [] [] 200 (by kernel_rfl)).by (F := F_Ak f_Ak) fun args b r hr => by
  obtain ⟨x0, x1, x2, rfl, rfl, hr1⟩ := e_Ak hr
  exact inl_eval ((d_Ak f_Ay f_AS f_AW f_AQ f_AR  x0 x1 x2).trans ((n_Ak (fun (d : Int × Bool) => some (Res.mk (AV.tup [RV.c (fI d.1), RV.c (CV.f (FV.b d.2))]) [] [])) x0 x1 x2).symm.trans hr1))

def K_BD {ρ : Type} (x0 : Bool) (k : (Int) → Option ρ) : Option ρ := bif x0 then k (-1152921504606846976) else k 1152921504606846976
def f_BD (x0 : Bool) : Option (Int) := K_BD   x0 some
section
open Go.Ab.Rdr
def QA_BD := ((pair (cons (ar (rc (cf (fb hole)))) nil) nil) : Rdr (List AV × List Blk) _)
end
def F_BD (f : (Bool) → Option (Int)) : Sem1 := fun args h => match (QA_BD).rd (args, h) with
  | some b => .opt (f b.1.1) fun (d : Int) => .leaf (Res.mk (rI d) [] [])
  | none => .fail
theorem d_BD (x0 : Bool) : den Try.prog (envOf []) ⟨[], [], [], [], none⟩ 200 113 [rB x0] [] = K_BD x0 (fun (d : Int) => some (Res.mk (rI d) [] [])) := by kernel_rfl
theorem m_BD {ρ σ : Type} (q : ρ → Option σ)    (x0 : Bool) (k : (Int) → Option ρ) : (K_BD   x0 k).bind q = K_BD   x0 (fun d => (k d).bind q) := by
  simp only [K_BD, bnd_cond, bnd_bind, bnd_none, bnd_sum]
theorem qa_BD : ∀ b, (QA_BD).em b = ([rB b.1.1], []) := fun b => by kernel_rfl
theorem e_BD {f : (Bool) → Option (Int)} {args : List AV} {h : List Blk} {r : Res} (hr : (F_BD f args h).eval = some r) : ∃ x0, args = [rB x0] ∧ h = [] ∧ (f x0).bind (fun (d : Int) => some (Res.mk (rI d) [] [])) = some r := by
  unfold F_BD at hr
  split at hr
  · rename_i b hb
    have e := ((QA_BD).ok _ _ hb).trans (qa_BD b)
    rw [opt_eval2] at hr
    exact ⟨b.1.1, (Prod.mk.inj e).1, (Prod.mk.inj e).2, hr⟩
  · cases hr
theorem n_BD {σ : Type} (q : (Int) → Option σ) (x0 : Bool) : (f_BD x0).bind q = K_BD   x0 q := by
  unfold f_BD
  exact m_BD q    x0 some
theorem s_BD [Amb] : Sound Try.prog 113 (F_BD f_BD) := (inl_sound (l := []) (.nil _) mixed [] [] 200 (by kernel_rfl)).by (F := F_BD f_BD) fun args b r hr => by
  obtain ⟨x0, rfl, rfl, hr1⟩ := e_BD hr
  exact inl_eval ((d_BD   x0).trans ((n_BD (fun (d : Int) => some (Res.mk (rI d) [] [])) x0).symm.trans hr1))

def K_Ae {ρ : Type} (g_BD : t8W1) (g_AB : t9W1) (x0 : Int) (x1 : Bool) (x2 : Bool) (x3 : Bool) (k : (Int × Bool) → Option ρ) : Option ρ := bif !x1 then Option.bind (g_BD x2) fun (d : Int) => k (d, true) else Option.bind (g_AB x0 x3) fun (d : Int × Bool) => k (d.1,
 d.2)
def f_Ae (x0 : Int) (x1 : Bool) (x2 : Bool) (x3 : Bool) : Option (Int × Bool) := K_Ae f_BD f_AB  x0 x1 x2 x3 some
section
open Go.Ab.Rdr
def QA_Ae := ((pair (cons (ar (rc (cptr (nat 0) (ok' (nat 0)) (nat 1)))) (cons (ar (rc (cf (fi .i64 hole)))) (cons (ar (rc (cf (fb hole)))) (cons (ar (rc (cf (fb hole)))) nil)))) (cons (cons (gc (cf (fb hole))) nil) nil)) : Rdr (List AV × List Blk) _)
end
def F_Ae (f : (Int) → (Bool) → (Bool) → (Bool) → Option (Int × Bool)) : Sem1 := fun args h => match (QA_Ae).rd (args, h) with
  | some b => .opt (f b.1.2.1 b.1.2.2.1 b.1.2.2.2.1 b.2.1.1) fun (d : Int × Bool) => .leaf (Res.mk (rI d.1) [Ch.set [sB d.2]] [])
  | none => .fail
theorem d_Ae (g_BD : t8W1) (g_AB : t9W1) (x0 : Int) (x1 : Bool) (x2 : Bool) (x3 : Bool) : den Try.prog (envOf [(113, F_BD g_BD), (91, F_AB g_AB)]) ⟨[], [], [], [], none⟩ 200 112 [.r (.c (.ptr 0 (.k 0) 1)), rI x0, rB x1, rB x2] [[.c (.f (.b x3))]] = K_Ae g_BD g_AB x0 x1 x2 x3 (fun (d : Int ×
 Bool) => some (Res.mk (rI d.1) [Ch.set [sB d.2]] [])) := by kernel_rfl
theorem m_Ae {ρ σ : Type} (q : ρ → Option σ) (g_BD : t8W1) (g_AB : t9W1)   (x0 : Int) (x1 : Bool) (x2 : Bool) (x3 : Bool) (k : (Int × Bool) → Option ρ) : (K_Ae g_BD g_AB  x0 x1 x2 x3 k).bind q = K_Ae g_BD g_AB  x0 x1 x2 x3 (fun d => (k d).bind q) := by
  simp only [K_Ae, bnd_cond, bnd_bind, bnd_none, bnd_sum]
theorem qa_Ae : ∀ b, (QA_Ae).em b = ([.r (.c (.ptr 0 (.k 0) 1)), rI b.1.2.1, rB b.1.2.2.1, rB b.1.2.2.2.1], [[.c (.f (.b b.2.1.1))]]) := fun b => by kernel_rfl
theorem e_Ae {f : (Int) → (Bool) → (Bool) → (Bool) → Option (Int × Bool)} {args : List AV} {h : List Blk} {r : Res} (hr : (F_Ae f args h).eval = some r) : ∃ x0 x1 x2 x3, args = [.r (.c (.ptr 0 (.k 0) 1)), rI x0, rB x1, rB x2] ∧ h = [[.c (.f (.b x3))]] ∧ (f x0 x1 x2 x3).bind (fun (d : Int × Bool) => some (Res.mk (rI d.1) [Ch.set [sB d.2]] [])) = some r := by
  unfold F_Ae at hr
  split at hr
  · rename_i b hb
    have e := ((QA_Ae).ok _ _ hb).trans (qa_Ae b)
    rw [opt_eval2] at hr
    exact ⟨b.1.2.1, b.1.2.2.1, b.1.2.2.2.1, b.2.1.1, (Prod.mk.inj e).1, (Prod.mk.inj e).2, hr⟩
  · cases hr
theorem n_Ae {σ : Type} (q : (Int × Bool) → Option σ) (x0 : Int) (x1 : Bool) (x2 : Bool) (x3 : Bool) : (f_Ae x0 x1 x2 x3).bind q = K_Ae f_BD f_AB  x0 x1 x2 x3 q := by
  unfold f_Ae
  exact m_Ae q f_BD f_AB   x0 x1 x2 x3 some
theorem s_Ae [Amb] : Sound Try.prog 112 (F_Ae f_Ae) := (inl_sound (l := [(113, F_BD f_BD), (91, F_AB f_AB)]) (.cons s_BD (.cons s_AB (.nil _))) mixed [] [] 200 (by kernel_rfl)).by (F := F_Ae f_Ae) fun args b r hr => by
  obtain ⟨x0, x1, x2, x3, rfl, rfl, hr1⟩ := e_Ae hr
  exact inl_eval ((d_Ae f_BD f_AB  x0 x1 x2 x3).trans ((n_Ae (fun (d : Int × Bool) => some (Res.mk (rI d.1) [Ch.set [sB d.2]] [])) x0 x1 x2 x3).symm.trans hr1))

def S_AL_0 {ρ : Type} (g_AB : t9W1) (g_BF : t10W1) (g_AO : t11W1) (g_Ak : t12W1) (g_Ae : t13W1) (x0 : Nat) (x1 : Bool) (x2 : Int) (x3 : Int) (x4 : Bool) (x5 : Nat) (x6 : Nat →
 Int) (x7 : Int) (x8 : Int) (c : (Nat × Bool × Int × Int × Bool × Nat × NI × Int × Int) → Option ρ) (x : (Nat × Bool × Int × Int × Bool × Bool × Nat × NI × Int × Int) → Option ρ) : Option ρ := bif decide (x3 < x2) then bif inR x3 x0 then Option.bind (g_AB (x6 (Int.toNat x3)) x4) fun (d : Int ×
 Bool) => Option.bind (g_BF d.1) fun (d_1 : Int × Int) => Option.bind (g_AO 2 (fun (j : Nat) => bif Nat.beq j 1 then d_1.1 else bif Nat.beq j 0 then x7 else x7) (fun (j : Nat) => bif Nat.beq j 1 then d_1.2 else bif Nat.beq j 0 then x8 else x8) true) fun (d_2 : Int × Int × Bool) => c (x0, x1, x2, IntKind.wrap IntKind.i64 (x3 + 1),
 d.2, x5, x6, d_2.1, d_2.2.1) else none else x (x0, x1, x2, x3, decide (x3 < x2), x4, x5, x6, x7, x8)
section
open Go.Ab.Rdr
def Q_AL_0 := (st (cons (ar (rc (cptr (nat 0) (ok' (nat 0)) (nat 1)))) (cons aund (cons aund (cons aund (cons aund (cons (ar (rc (cptr (nat 2) (ok' (nat 0)) (nat 2)))) (cons aund (cons aund (cons aund (cons aund (cons (ar (rc (csl (nat 1) (ok' (nat 0)) (szs hole) (nat 1) hole))) (cons (ar (rc (cf (fi .i64 hole)))) (cons (ar (rc (cf (fi .i64 hole)))) (cons aund (cons aund (cons aund (cons aund (cons aund (cons aund (cons aund (cons aund (cons aund (cons aund (cons aund (cons aund (cons aund (cons aund (cons aund (cons aund (cons aund (cons aund (cons aund (cons aund (cons aund (cons aund (cons aund (cons aund (cons aund (cons aund nil))))))))))))))))))))))))))))))))))))))) (cons (some' (cons (gc (cf (fb hole))) nil)) (cons (some' (cons (ga (szs hole) (cons (ki .i64 hole) nil)) nil)) (cons (some' (cons (gc (cf (fi .i64 hole))) (cons (gc (cf (fi .u64 hole))) nil))) nil))) (cons (nat 0) nil))
end
theorem q_AL_0 : ∀ b, (Q_AL_0).em b = St.mk [AV.r (RV.c (CV.ptr 0 (Off.k 0) 1)), un, un, un, un, AV.r (RV.c (CV.ptr 2 (Off.k 0) 2)), un, un, un, un, AV.r (RV.c (CV.sl 1 (Off.k 0) (Sz.s b.1.c8.2.2.1.2.2.1) 1 b.1.c8.2.2.1.c4)), rI b.1.c8.2.2.2.1,
 rI b.1.c8.c4.1, un, un, un, un, un, un, un, un, un, un, un, un, un, un, un, un, un, un, un, un, un, un, un, un, un, un] [some [sB b.2.1.1.1],
 some [Sg.a (Sz.s b.2.1.2.1.1.1) [kI b.2.1.2.1.1.2.1]], some [sI b.2.1.2.2.1.1, sU b.2.1.2.2.1.2.1]] [0] := fun b => by kernel_rfl
def R_AL_0 (l : ∀ {ρ : Type}, (Nat × Bool × Int × Int × Bool × Nat × NI × Int × Int) → ((Nat × Bool × Int × Int × Bool × Bool × Nat × NI × Int × Int) → Option ρ) → Option ρ) {ρ : Type} (s : St) (K : AX → St → Option ρ) : Option ρ := ((Q_AL_0).rd s).bind fun b => l (b.1.c8.2.2.1.2.2.1,
 b.1.c8.2.2.1.c4, b.1.c8.2.2.2.1, b.1.c8.c4.1, b.2.1.1.1, b.2.1.2.1.1.1, b.2.1.2.1.1.2.1, b.2.1.2.2.1.1, b.2.1.2.2.1.2.1) (fun d => K (AX.ex 0) (St.mk [AV.r (RV.c (CV.ptr 0 (Off.k 0) 1)), un, un, un, un, AV.r (RV.c (CV.ptr 2 (Off.k 0) 2)),
 un, un, un, un, AV.r (RV.c (CV.sl 1 (Off.k 0) (Sz.s d.1) 1 d.2.1)), rI d.2.2.1, rI d.2.2.2.1, rB d.c4.1, un, un, un, un, un, un, un, un, un, un, un,
 un, un, un, un, un, un, un, un, un, un, un, un, un, un] [some [sB d.c4.2.1], some [Sg.a (Sz.s d.c4.2.2.1) [kI d.c4.2.2.2.1]], some [sI d.c8.1, sU d.c8.2]] [0]))
theorem ms_AL_0 {ρ σ : Type} (g_AB : t9W1) (g_BF : t10W1) (g_AO : t11W1) (g_Ak : t12W1) (g_Ae : t13W1)   (q : ρ → Option σ) (x0 : Nat) (x1 : Bool) (x2 : Int) (x3 : Int) (x4 : Bool) (x5 : Nat) (x6 : Nat → Int) (x7 : Int) (x8 : Int) (c : (Nat × Bool × Int × Int × Bool × Nat × NI × Int × Int) → Option ρ) (x : (Nat × Bool × Int × Int × Bool × Bool × Nat × NI × Int × Int) → Option ρ) : (S_AL_0 g_AB g_BF g_AO g_Ak g_Ae  x0 x1 x2 x3 x4 x5 x6 x7 x8 c x).bind q = S_AL_0 g_AB g_BF g_AO g_Ak g_Ae  x0 x1 x2 x3 x4 x5 x6 x7 x8 (fun d => (c d).bind q) (fun d => (x d).bind q) := by
  simp only [S_AL_0, bnd_cond, bnd_bind, bnd_none, bnd_sum]
def L_AL_0 {ρ : Type} (d : Nat × Bool × Int × Int × Bool × Nat × NI × Int × Int) (k : (Nat × Bool × Int × Int × Bool × Bool × Nat × NI × Int × Int) → Option ρ) : Option ρ := loopK (fun d c x => S_AL_0 f_AB f_BF f_AO f_Ak f_Ae  d.1 d.2.1 d.2.2.1 d.2.2.2.1 d.c4.1 d.c4.2.1 d.c4.2.2.1 d.c4.2.2.2.1 d.c8 c x) 200 d k
theorem mL_AL_0 {ρ σ : Type} (q : ρ → Option σ) (d : Nat × Bool × Int × Int × Bool × Nat × NI × Int × Int) (k : (Nat × Bool × Int × Int × Bool × Bool × Nat × NI × Int × Int) → Option ρ) : (L_AL_0 d k).bind q = L_AL_0 d fun x => (k x).bind q := loopK_bind q (fun d c x => ms_AL_0 f_AB f_BF f_AO f_Ak f_Ae q d.1 d.2.1 d.2.2.1 d.2.2.2.1 d.c4.1 d.c4.2.1 d.c4.2.2.1 d.c4.2.2.2.1 d.c8 c x) k _ d
theorem ds_AL_0 {ρ : Type} (g_AB : t9W1) (g_BF : t10W1) (g_AO : t11W1) (g_Ak : t12W1) (g_Ae : t13W1) (l_0 : ∀ {ρ : Type},
 (Nat × Bool × Int × Int × Bool × Nat × NI × Int × Int) → ((Nat × Bool × Int × Int × Bool × Bool × Nat × NI × Int × Int) → Option ρ) → Option ρ) (x0 : Nat) (x1 : Bool) (x2 : Int) (x3 : Int) (x4 : Bool) (x5 : Nat) (x6 : Nat → Int) (x7 : Int) (x8 : Int) (c : St → Option ρ) (K : AX → St →
 Option ρ) : runC Try.prog (envOf [(91, F_AB g_AB), (16, F_BF g_BF), (20, F_AO g_AO), (17, F_Ak g_Ak), (112, F_Ae g_Ae)]) ⟨[⟨3, u1W1, []⟩], [⟨3, 2, @R_AL_0 (@l_0)⟩], [0], [], none⟩ (tmpsOf Try.prog 114) 2 200 (loopIn Try.prog 114 3) (St.mk [AV.r (RV.c (CV.ptr 0 (Off.k 0) 1)),
 un, un, un, un, AV.r (RV.c (CV.ptr 2 (Off.k 0) 2)), un, un, un, un, AV.r (RV.c (CV.sl 1 (Off.k 0) (Sz.s x0) 1 x1)), rI x2, rI x3, un, un, un, un, un, un, un, un, un,
 un, un, un, un, un, un, un, un, un, un, un, un, un, un, un, un, un] [some [sB x4], some [Sg.a (Sz.s x5) [kI x6]], some [sI x7, sU x8]] [0]) (next (fun t => t.head 2 ⟨[⟨3,
 u1W1, []⟩], [⟨3, 2, @R_AL_0 (@l_0)⟩], [0], [], none⟩ (loopIn Try.prog 114 3)) c K) = S_AL_0 g_AB g_BF g_AO g_Ak g_Ae x0 x1 x2 x3 x4 x5 x6 x7 x8 (fun d => c (St.mk [AV.r (RV.c (CV.ptr 0 (Off.k 0) 1)),
 un, un, un, un, AV.r (RV.c (CV.ptr 2 (Off.k 0) 2)), un, un, un, un, AV.r (RV.c (CV.sl 1 (Off.k 0) (Sz.s d.1) 1 d.2.1)), rI d.2.2.1, rI d.2.2.2.1, un, un, un, un, un, un, un,
 un, un, un, un, un, un, un, un, un, un, un, un, un, un, un, un, un, un, un] [some [sB d.c4.1], some [Sg.a (Sz.s d.c4.2.1) [kI d.c4.2.2.1]], some [sI d.c4.2.2.2.1,
 sU d.c8]] [0])) (fun d => K (AX.ex 0) (St.mk [AV.r (RV.c (CV.ptr 0 (Off.k 0) 1)), un, un, un, un, AV.r (RV.c (CV.ptr 2 (Off.k 0) 2)), un, un, un, un, AV.r (RV.c (CV.sl 1 (Off.k 0) (Sz.s d.1) 1 d.2.1)), rI d.2.2.1,
 rI d.2.2.2.1, rB d.c4.1, un, un, un, un, un, un, un, un, un, un, un, un, un, un, un, un, un, un, un, un, un, un, un, un, un] [some [sB d.c4.2.1],
 some [Sg.a (Sz.s d.c4.2.2.1) [kI d.c4.2.2.2.1]], some [sI d.c8.1, sU d.c8.2]] [0])) := by kernel_rfl
theorem it_AL_0 {ρ : Type} (x0 : Nat) (x1 : Bool) (x2 : Int) (x3 : Int) (x4 : Bool) (x5 : Nat) (x6 : Nat → Int) (x7 : Int) (x8 : Int) (K : AX → St → Option ρ) : iter (fun t => t.head 2 ⟨[⟨3, u1W1, []⟩], [⟨3, 2, @R_AL_0 (@L_AL_0)⟩], [0], [], none⟩ (loopIn Try.prog 114 3)) (runC Try.prog (envOf [(91, F_AB f_AB), (16, F_BF f_BF), (20, F_AO f_AO), (17, F_Ak f_Ak), (112, F_Ae f_Ae)]) ⟨[⟨3, u1W1, []⟩], [⟨3, 2, @R_AL_0 (@L_AL_0)⟩], [0], [], none⟩ (tmpsOf Try.prog 114) 2 200 (loopIn Try.prog 114 3)) K 200 (St.mk [AV.r (RV.c (CV.ptr 0 (Off.k 0) 1)), un, un, un, un, AV.r (RV.c (CV.ptr 2 (Off.k 0) 2)), un, un, un, un, AV.r (RV.c (CV.sl 1 (Off.k 0) (Sz.s x0) 1 x1)),
 rI x2, rI x3, un, un, un, un, un, un, un, un, un, un, un, un, un, un, un, un, un, un, un, un, un, un, un, un, un, un] [some [sB x4],
 some [Sg.a (Sz.s x5) [kI x6]], some [sI x7, sU x8]] [0]) = L_AL_0 (x0, x1, x2, x3, x4, x5, x6, x7, x8) (fun d => K (AX.ex 0) (St.mk [AV.r (RV.c (CV.ptr 0 (Off.k 0) 1)), un, un, un, un, AV.r (RV.c (CV.ptr 2 (Off.k 0) 2)),
 un, un, un, un, AV.r (RV.c (CV.sl 1 (Off.k 0) (Sz.s d.1) 1 d.2.1)), rI d.2.2.1, rI d.2.2.2.1, rB d.c4.1, un, un, un, un, un, un, un, un, un, un, un,
 un, un, un, un, un, un, un, un, un, un, un, un, un, un] [some [sB d.c4.2.1], some [Sg.a (Sz.s d.c4.2.2.1) [kI d.c4.2.2.2.1]], some [sI d.c8.1, sU d.c8.2]] [0])) := iter_loopX (emb := fun (d : Nat ×
 Bool × Int × Int × Bool × Nat × NI × Int × Int) => St.mk [AV.r (RV.c (CV.ptr 0 (Off.k 0) 1)), un, un, un, un, AV.r (RV.c (CV.ptr 2 (Off.k 0) 2)), un, un, un, un, AV.r (RV.c (CV.sl 1 (Off.k 0) (Sz.s d.1) 1 d.2.1)), rI d.2.2.1,
 rI d.2.2.2.1, un, un, un, un, un, un, un, un, un, un, un, un, un, un, un, un, un, un, un, un, un, un, un, un, un, un] [some [sB d.c4.1], some [Sg.a (Sz.s d.c4.2.1) [kI d.c4.2.2.1]],
 some [sI d.c4.2.2.2.1, sU d.c8]] [0]) (step := fun d c x => S_AL_0 f_AB f_BF f_AO f_Ak f_Ae d.1 d.2.1 d.2.2.1 d.2.2.2.1 d.c4.1 d.c4.2.1 d.c4.2.2.1 d.c4.2.2.2.1 d.c8 c x) (kx := (fun d => K (AX.ex 0) (St.mk [AV.r (RV.c (CV.ptr 0 (Off.k 0) 1)),
 un, un, un, un, AV.r (RV.c (CV.ptr 2 (Off.k 0) 2)), un, un, un, un, AV.r (RV.c (CV.sl 1 (Off.k 0) (Sz.s d.1) 1 d.2.1)), rI d.2.2.1, rI d.2.2.2.1, rB d.c4.1, un, un,
 un, un, un, un, un, un, un, un, un, un, un, un, un, un, un, un, un, un, un, un, un, un, un] [some [sB d.c4.2.1], some [Sg.a (Sz.s d.c4.2.2.1) [kI d.c4.2.2.2.1]], some [sI d.c8.1,
 sU d.c8.2]] [0]))) (fun d c => ds_AL_0 f_AB f_BF f_AO f_Ak f_Ae (@L_AL_0) d.1 d.2.1 d.2.2.1 d.2.2.2.1 d.c4.1 d.c4.2.1 d.c4.2.2.1 d.c4.2.2.2.1 d.c8 c K) 200 (x0, x1, x2, x3, x4, x5, x6, x7, x8)
theorem so_AL_0 [Amb] : ∀ kk, SumOK Try.prog (envOf [(91, F_AB f_AB), (16, F_BF f_BF), (20, F_AO f_AO), (17, F_Ak f_Ak), (112, F_Ae f_Ae)]) ⟨[⟨3, u1W1, []⟩], [⟨3, 2, @R_AL_0 (@L_AL_0)⟩],
 [0], [], none⟩ (tmpsOf Try.prog 114) kk 200 (loopIn Try.prog 114 3) := SumOK.of (id := 3) (k0 := 2) (run := @R_AL_0 (@L_AL_0)) (by kernel_rfl) fun s K r hr => by
    unfold R_AL_0 at hr
    obtain ⟨b, hb, hr1⟩ := Option.bind_eq_some_iff.1 hr
    have e := ((Q_AL_0).ok s b hb).trans (q_AL_0 b)
    subst e
    exact ⟨200, (it_AL_0 b.1.c8.2.2.1.2.2.1 b.1.c8.2.2.1.c4 b.1.c8.2.2.2.1 b.1.c8.c4.1 b.2.1.1.1 b.2.1.2.1.1.1 b.2.1.2.1.1.2.1 b.2.1.2.2.1.1 b.2.1.2.2.1.2.1 K).trans hr1⟩
def K_AL {ρ : Type} (g_AB : t9W1) (g_BF : t10W1) (g_AO : t11W1) (g_Ak : t12W1) (g_Ae : t13W1) (l_0 : ∀ {ρ : Type}, (Nat ×
 Bool × Int × Int × Bool × Nat × NI × Int × Int) → ((Nat × Bool × Int × Int × Bool × Bool × Nat × NI × Int × Int) → Option ρ) → Option ρ) (x0 : Nat) (x1 : Bool) (x2 : Nat → Int) (w0 : Bool) (k : (Int × Bool) → Option ρ) : Option ρ := l_0 (x0, w0, Int.ofNat x0, 0, x1, x0, x2, 0, 0) fun (d : Nat ×
 Bool × Int × Int × Bool × Bool × Nat × NI × Int × Int) => Option.bind (g_Ak d.c8.1 d.c8.2 0) fun (d_1 : Int × Bool) => Option.bind (g_Ae d_1.1 d_1.2 (decide (d.c8.1 < 0)) d.c4.2.1) fun (d : Int × Bool) => k (d.1, d.2)
def f_AL (x0 : Nat) (x1 : Bool) (x2 : Nat → Int) (w0 : Bool) : Option (Int × Bool) := K_AL f_AB f_BF f_AO f_Ak f_Ae (@L_AL_0) x0 x1 x2 w0 some
section
open Go.Ab.Rdr
def QA_AL := ((pair (cons (ar (rc (cptr (nat 0) (ok' (nat 0)) (nat 1)))) (cons (ar (rc (csl (nat 1) (ok' (nat 0)) (szs hole) (nat 1) hole))) nil)) (cons (cons (gc (cf (fb hole))) nil) (cons (cons (ga (szs hole) (cons (ki .i64 hole) nil)) nil) nil))) : Rdr (List AV × List Blk) _)
end
def F0_AL (f : (Nat) → (Bool) → NI → (Bool) → Option (Int × Bool)) : Sem1 := fun args h => match (QA_AL).rd (args, h) with
  | some b => .test (Nat.beq b.2.2.1.1.1 b.1.2.1.2.2.1) (.opt (f b.1.2.1.2.2.1 b.2.1.1 b.2.2.1.1.2.1 b.1.2.1.c4) fun (d : Int × Bool) => .leaf (Res.mk (rI d.1) [Ch.set [sB d.2], Ch.keep] [])) .fail
  | none => .fail
def F_AL (f : (Nat) → (Bool) → NI → (Bool) → Option (Int × Bool)) : Sem1 := (nilF 1 [.i .i64] (F0_AL f))
theorem d_AL (g_AB : t9W1) (g_BF : t10W1) (g_AO : t11W1) (g_Ak : t12W1) (g_Ae : t13W1) (l_0 : ∀ {ρ : Type}, (Nat × Bool ×
 Int × Int × Bool × Nat × NI × Int × Int) → ((Nat × Bool × Int × Int × Bool × Bool × Nat × NI × Int × Int) → Option ρ) → Option ρ) (x0 : Nat) (x1 : Bool) (x2 : Nat → Int) (w0 : Bool) : den Try.prog (envOf [(91, F_AB g_AB), (16, F_BF g_BF), (20, F_AO g_AO), (17, F_Ak g_Ak), (112, F_Ae g_Ae)]) ⟨[⟨3,
 u1W1, []⟩], [⟨3, 2, @R_AL_0 (@l_0)⟩], [0], [], none⟩ 200 114 [.r (.c (.ptr 0 (.k 0) 1)), .r (.c (.sl 1 (.k 0) (.s x0) 1 w0))] [[.c (.f (.b x1))], [.a (.s x0) [.i .i64 x2]]] = K_AL g_AB g_BF g_AO g_Ak g_Ae (@l_0) x0 x1 x2 w0 (fun (d : Int ×
 Bool) => some (Res.mk (rI d.1) [Ch.set [sB d.2], Ch.keep] [])) := by kernel_rfl
theorem m_AL {ρ σ : Type} (q : ρ → Option σ) (g_AB : t9W1) (g_BF : t10W1) (g_AO : t11W1) (g_Ak : t12W1) (g_Ae : t13W1) (l_0 : ∀ {ρ : Type}, (Nat × Bool × Int × Int × Bool × Nat × NI × Int × Int) → ((Nat × Bool × Int × Int × Bool × Bool × Nat × NI × Int × Int) → Option ρ) → Option ρ) (hl_0 : ∀ {ρ σ : Type} (q : ρ → Option σ) (d : Nat × Bool × Int × Int × Bool × Nat × NI × Int × Int) (k : (Nat × Bool × Int × Int × Bool × Bool × Nat × NI × Int × Int) → Option ρ), (l_0 d k).bind q = l_0 d fun x => (k x).bind q) (x0 : Nat) (x1 : Bool) (x2 : Nat → Int) (w0 : Bool) (k : (Int × Bool) → Option ρ) : (K_AL g_AB g_BF g_AO g_Ak g_Ae (@l_0) x0 x1 x2 w0 k).bind q = K_AL g_AB g_BF g_AO g_Ak g_Ae (@l_0) x0 x1 x2 w0 (fun d => (k d).bind q) := by
  simp only [K_AL, bnd_cond, bnd_bind, bnd_none, bnd_sum, hl_0]
theorem qa_AL : ∀ b, (QA_AL).em b = ([.r (.c (.ptr 0 (.k 0) 1)), .r (.c (.sl 1 (.k 0) (.s b.1.2.1.2.2.1) 1 b.1.2.1.c4))], [[.c (.f (.b b.2.1.1))], [.a (.s b.2.2.1.1.1) [.i .i64 b.2.2.1.1.2.1]]]) := fun b => by kernel_rfl
theorem e_AL {f : (Nat) → (Bool) → NI → (Bool) → Option (Int × Bool)} {args : List AV} {h : List Blk} {r : Res} (hr : (F0_AL f args h).eval = some r) : ∃ x0 x1 x2 w0, args = [.r (.c (.ptr 0 (.k 0) 1)), .r (.c (.sl 1 (.k 0) (.s x0) 1 w0))] ∧ h = [[.c (.f (.b x1))], [.a (.s x0) [.i .i64 x2]]] ∧ (f x0 x1 x2 w0).bind (fun (d : Int × Bool) => some (Res.mk (rI d.1) [Ch.set [sB d.2], Ch.keep] [])) = some r := by
  unfold F0_AL at hr
  split at hr
  · rename_i b hb
    have e := ((QA_AL).ok _ _ hb).trans (qa_AL b)
    obtain ⟨he, hr1⟩ := test_eval hr
    clear hr
    have hr := hr1
    clear hr1
    rw [Nat.eq_of_beq_eq_true he] at e
    clear he
    rw [opt_eval2] at hr
    exact ⟨b.1.2.1.2.2.1, b.2.1.1, b.2.2.1.1.2.1, b.1.2.1.c4, (Prod.mk.inj e).1, (Prod.mk.inj e).2, hr⟩
  · cases hr
theorem n_AL {σ : Type} (q : (Int × Bool) → Option σ) (x0 : Nat) (x1 : Bool) (x2 : Nat → Int) (w0 : Bool) : (f_AL x0 x1 x2 w0).bind q = K_AL f_AB f_BF f_AO f_Ak f_Ae (@L_AL_0) x0 x1 x2 w0 q := by
  unfold f_AL
  exact m_AL q f_AB f_BF f_AO f_Ak f_Ae (@L_AL_0) (fun q d k => mL_AL_0 q d k) x0 x1 x2 w0 some
theorem s_AL [Amb] : Sound Try.prog 114 (F_AL f_AL) := Sound.nil 1 [.i .i64] <| (inl_sums (l := [(91, F_AB f_AB), (16, F_BF f_BF), (20, F_AO f_AO), (17, F_Ak f_Ak), (112, F_Ae f_Ae)]) (.cons s_AB (.cons s_BF (.cons s_AO (.cons s_Ak (.cons s_Ae (.nil _)))))) mixed (hs := ⟨[⟨3, u1W1, []⟩], [⟨3, 2, @R_AL_0 (@L_AL_0)⟩], [0], [], none⟩) (lf := 200) (Sums.by (l := [loopIn Try.prog 114 3]) (lj := []) (by kernel_rfl) ⟨so_AL_0, trivial⟩ (by kernel_rfl) trivial) (by kernel_rfl)).by (F := F0_AL f_AL) fun args b r hr => by
  obtain ⟨x0, x1, x2, w0, rfl, rfl, hr1⟩ := e_AL hr
  exact inl_eval ((d_AL f_AB f_BF f_AO f_Ak f_Ae (@L_AL_0) x0 x1 x2 w0).trans ((n_AL (fun (d : Int × Bool) => some (Res.mk (rI d.1) [Ch.set [sB d.2], Ch.keep] [])) x0 x1 x2 w0).symm.trans hr1))

end Go.Proofs.Ytcalippagaaikaa
set_option maxRecDepth 100000
set_option maxHeartbeats 4000000
set_option linter.unusedVariables false
namespace Go.Proofs.Ytcalippagaaikaa
open Go.Ab
abbrev t0W2 := Int → Option Int
abbrev t1W2 := Int → Int → Option (Int × Int)
abbrev t2W2 := Int → Int → Bool → Option (Int × Int × Bool)
abbrev t3W2 := Int → Int → Int → Option (Int × Bool)
abbrev t4W2 := Int → Bool → Bool → Bool → Option (Int × Bool)
abbrev t5W2 := Int → Bool → Option (Int × Bool)
abbrev t6W2 := Int → Int → Int → Bool → Option (Int × Bool)
def K_Ai {ρ : Type} (x0 : Int) (k : (Int) → Option ρ) : Option ρ := bif decide (x0 < 0) then k (IntKind.wrap IntKind.u64 (0 - IntKind.wrap IntKind.u64 x0)) else k (IntKind.wrap IntKind.u64 x0)
def f_Ai (x0 : Int) : Option (Int) := K_Ai   x0 some
section
open Go.Ab.Rdr
def QA_Ai := ((pair (cons (ar (rc (cf (fi .i64 hole)))) nil) nil) : Rdr (List AV × List Blk) _)
end
def F_Ai (f : (Int) → Option (Int)) : Sem1 := fun args h => match (QA_Ai).rd (args, h) with
  | some b => .opt (f b.1.1) fun (d : Int) => .leaf (Res.mk (rU d) [] [])
  | none => .fail
theorem d_Ai (x0 : Int) : den Try.prog (envOf []) ⟨[], [], [], [], none⟩ 200 53 [rI x0] [] = K_Ai x0 (fun (d : Int) => some (Res.mk (rU d) [] [])) := by kernel_rfl
theorem m_Ai {ρ σ : Type} (q : ρ → Option σ)    (x0 : Int) (k : (Int) → Option ρ) : (K_Ai   x0 k).bind q = K_Ai   x0 (fun d => (k d).bind q) := by
  simp only [K_Ai, bnd_cond, bnd_bind, bnd_none, bnd_sum]
theorem qa_Ai : ∀ b, (QA_Ai).em b = ([rI b.1.1], []) := fun b => by kernel_rfl
theorem e_Ai {f : (Int) → Option (Int)} {args : List AV} {h : List Blk} {r : Res} (hr : (F_Ai f args h).eval = some r) : ∃ x0, args = [rI x0] ∧ h = [] ∧ (f x0).bind (fun (d : Int) => some (Res.mk (rU d) [] [])) = some r := by
  unfold F_Ai at hr
  split at hr
  · rename_i b hb
    have e := ((QA_Ai).ok _ _ hb).trans (qa_Ai b)
    rw [opt_eval2] at hr
    exact ⟨b.1.1, (Prod.mk.inj e).1, (Prod.mk.inj e).2, hr⟩
  · cases hr
theorem n_Ai {σ : Type} (q : (Int) → Option σ) (x0 : Int) : (f_Ai x0).bind q = K_Ai   x0 q := by
  unfold f_Ai
  exact m_Ai q    x0 some
theorem s_Ai [Amb] : Sound Try.prog 53 (F_Ai f_Ai) := (inl_sound (l := []) (.nil _) mixed [] [] 200 (by kernel_rfl)).by (F := F_Ai f_Ai) fun args b r hr => by
  obtain ⟨x0, rfl, rfl, hr1⟩ := e_Ai hr
  exact inl_eval ((d_Ai   x0).trans ((n_Ai (fun (d : Int) => some (Res.mk (rU d) [] [])) x0).symm.trans hr1))

def K_BQ {ρ : Type} (x0 : Int) (x1 : Int) (k : (Int × Int) → Option ρ) : Option ρ := k (IntKind.wrap IntKind.u64 (IntKind.wrap IntKind.u64 (IntKind.wrap IntKind.u64 (Int.fdiv x0 4294967296 * Int.fdiv x1 4294967296) + Int.fdiv (IntKind.wrap IntKind.u64 (IntKind.wrap IntKind.u64 (Int.fdiv x0 4294967296 * IntKind.wrap IntKind.u64 (Int.ofNat (BitVec.toNat (BitVec.ofInt 64 x1 &&& BitVec.ofInt 64 4294967295)))) + Int.fdiv (IntKind.wrap IntKind.u64 (IntKind.wrap IntKind.u64 (Int.ofNat (BitVec.toNat (BitVec.ofInt 64 x0 &&& BitVec.ofInt 64 4294967295))) * IntKind.wrap IntKind.u64 (Int.ofNat (BitVec.toNat (BitVec.ofInt 64 x1 &&& BitVec.ofInt 64 4294967295))))) 4294967296)) 4294967296) + Int.fdiv (IntKind.wrap IntKind.u64 (IntKind.wrap IntKind.u64 (Int.ofNat (BitVec.toNat (BitVec.ofInt 64 (IntKind.wrap IntKind.u64 (IntKind.wrap IntKind.u64 (Int.fdiv x0 4294967296 * IntKind.wrap IntKind.u64 (Int.ofNat (BitVec.toNat (BitVec.ofInt 64 x1 &&& BitVec.ofInt 64 4294967295)))) + Int.fdiv (IntKind.wrap IntKind.u64 (IntKind.wrap IntKind.u64 (Int.ofNat (BitVec.toNat (BitVec.ofInt 64 x0 &&& BitVec.ofInt 64 4294967295))) * IntKind.wrap IntKind.u64 (Int.ofNat (BitVec.toNat (BitVec.ofInt 64 x1 &&& BitVec.ofInt 64 4294967295))))) 4294967296)) &&& BitVec.ofInt 64 4294967295))) + IntKind.wrap IntKind.u64 (IntKind.wrap IntKind.u64 (Int.ofNat (BitVec.toNat (BitVec.ofInt 64 x0 &&& BitVec.ofInt 64 4294967295))) * Int.fdiv x1 4294967296))) 4294967296),
 IntKind.wrap IntKind.u64 (x0 * x1))
def f_BQ (x0 : Int) (x1 : Int) : Option (Int × Int) := K_BQ   x0 x1 some
section
open Go.Ab.Rdr
def QA_BQ := ((pair (cons (ar (rc (cf (fi .u64 hole)))) (cons (ar (rc (cf (fi .u64 hole)))) nil)) nil) : Rdr (List AV × List Blk) _)
end
def F_BQ (f : (Int) → (Int) → Option (Int × Int)) : Sem1 := fun args h => match (QA_BQ).rd (args, h) with
  | some b => .opt (f b.1.1 b.1.2.1) fun (d : Int × Int) => .leaf (Res.mk (AV.tup [RV.c (CV.f (FV.i IntKind.u64 d.1)), RV.c (CV.f (FV.i IntKind.u64 d.2))]) [] [])
  | none => .fail
theorem d_BQ (x0 : Int) (x1 : Int) : den Try.prog (envOf []) ⟨[], [], [], [], none⟩ 200 59 [rU x0, rU x1] [] = K_BQ x0 x1 (fun (d : Int × Int) => some (Res.mk (AV.tup [RV.c (CV.f (FV.i IntKind.u64 d.1)), RV.c (CV.f (FV.i IntKind.u64 d.2))]) [] [])) := by kernel_rfl
theorem m_BQ {ρ σ : Type} (q : ρ → Option σ)    (x0 : Int) (x1 : Int) (k : (Int × Int) → Option ρ) : (K_BQ   x0 x1 k).bind q = K_BQ   x0 x1 (fun d => (k d).bind q) := by
  simp only [K_BQ, bnd_cond, bnd_bind, bnd_none, bnd_sum]
theorem qa_BQ : ∀ b, (QA_BQ).em b = ([rU b.1.1, rU b.1.2.1], []) := fun b => by kernel_rfl
theorem e_BQ {f : (Int) → (Int) → Option (Int × Int)} {args : List AV} {h : List Blk} {r : Res} (hr : (F_BQ f args h).eval = some r) : ∃ x0 x1, args = [rU x0, rU x1] ∧ h = [] ∧ (f x0 x1).bind (fun (d : Int × Int) => some (Res.mk (AV.tup [RV.c (CV.f (FV.i IntKind.u64 d.1)), RV.c (CV.f (FV.i IntKind.u64 d.2))]) [] [])) = some r := by
  unfold F_BQ at hr
  split at hr
  · rename_i b hb
    have e := ((QA_BQ).ok _ _ hb).trans (qa_BQ b)
    rw [opt_eval2] at hr
    exact ⟨b.1.1, b.1.2.1, (Prod.mk.inj e).1, (Prod.mk.inj e).2, hr⟩
  · cases hr
theorem n_BQ {σ : Type} (q : (Int × Int) → Option σ) (x0 : Int) (x1 : Int) : (f_BQ x0 x1).bind q = K_BQ   x0 x1 q := by
  unfold f_BQ
  exact m_BQ q    x0 x1 some
theorem s_BQ [Amb] : Sound Try.prog 59 (F_BQ f_BQ) := (inl_sound (l := []) (.nil _) mixed [] [] 200 (by kernel_rfl)).by (F := F_BQ f_BQ) fun args b r hr => by
  obtain ⟨x0, x1, rfl, rfl, hr1⟩ := e_BQ hr
  exact inl_eval ((d_BQ   x0 x1).trans ((n_BQ (fun (d : Int × Int) => some (Res.mk (AV.tup [RV.c (CV.f (FV.i IntKind.u64 d.1)), RV.c (CV.f (FV.i IntKind.u64 d.2))]) [] [])) x0 x1).symm.trans hr1))

def K_Ar {ρ : Type} (g_BG : C3) (x0 : Int) (x1 : Int) (x2 : Bool) (k : (Int × Int × Bool) → Option ρ) : Option ρ := bif !x2 then k (IntKind.wrap IntKind.i64 x0, x1, Int.fdiv x0 9223372036854775808 == 0) else Option.bind (g_BG (IntKind.wrap IntKind.u64 (Int.ofNat (BitVec.toNat (BitVec.ofInt 64 18446744073709551615 ^^^ BitVec.ofInt 64 x1)))) 1 0) fun (d : Int ×
 Int) => bif decide (IntKind.wrap IntKind.i64 (IntKind.wrap IntKind.u64 (IntKind.wrap IntKind.u64 (Int.ofNat (BitVec.toNat (BitVec.ofInt 64 18446744073709551615 ^^^ BitVec.ofInt 64 x0))) + d.2)) < 0) then k (IntKind.wrap IntKind.i64 (IntKind.wrap IntKind.u64 (IntKind.wrap IntKind.u64 (Int.ofNat (BitVec.toNat (BitVec.ofInt 64 18446744073709551615 ^^^ BitVec.ofInt 64 x0))) + d.2)),
 d.1, true) else k (IntKind.wrap IntKind.i64 (IntKind.wrap IntKind.u64 (IntKind.wrap IntKind.u64 (Int.ofNat (BitVec.toNat (BitVec.ofInt 64 18446744073709551615 ^^^ BitVec.ofInt 64 x0))) + d.2)), d.1, x0 == 0 && (x1 == 0 && true))
def f_Ar (x0 : Int) (x1 : Int) (x2 : Bool) : Option (Int × Int × Bool) := K_Ar f_BG  x0 x1 x2 some
section
open Go.Ab.Rdr
def QA_Ar := ((pair (cons (ar (ra (cons (gc (cf (fi .u64 hole))) (cons (gc (cf (fi .u64 hole))) nil)))) (cons (ar (rc (cf (fb hole)))) nil)) nil) : Rdr (List AV × List Blk) _)
end
def F_Ar (f : (Int) → (Int) → (Bool) → Option (Int × Int × Bool)) : Sem1 := fun args h => match (QA_Ar).rd (args, h) with
  | some b => .opt (f b.1.1.1 b.1.1.2.1 b.1.2.1) fun (d : Int × Int × Bool) => .leaf (Res.mk (AV.tup [RV.agg [sI d.1, sU d.2.1], RV.c (CV.f (FV.b d.2.2))]) [] [])
  | none => .fail
theorem d_Ar (g_BG : C3) (x0 : Int) (x1 : Int) (x2 : Bool) : den Try.prog (envOf [(87, F_carry g_BG)]) ⟨[], [], [], [], none⟩ 200 55 [.r (.agg [.c (.f (.i .u64 x0)), .c (.f (.i .u64 x1))]), rB x2] [] = K_Ar g_BG x0 x1 x2 (fun (d : Int × Int × Bool) => some (Res.mk (AV.tup [RV.agg [sI d.1,
 sU d.2.1], RV.c (CV.f (FV.b d.2.2))]) [] [])) := by kernel_rfl
theorem m_Ar {ρ σ : Type} (q : ρ → Option σ) (g_BG : C3)   (x0 : Int) (x1 : Int) (x2 : Bool) (k : (Int × Int × Bool) → Option ρ) : (K_Ar g_BG  x0 x1 x2 k).bind q = K_Ar g_BG  x0 x1 x2 (fun d => (k d).bind q) := by
  simp only [K_Ar, bnd_cond, bnd_bind, bnd_none, bnd_sum]
theorem qa_Ar : ∀ b, (QA_Ar).em b = ([.r (.agg [.c (.f (.i .u64 b.1.1.1)), .c (.f (.i .u64 b.1.1.2.1))]), rB b.1.2.1], []) := fun b => by kernel_rfl
theorem e_Ar {f : (Int) → (Int) → (Bool) → Option (Int × Int × Bool)} {args : List AV} {h : List Blk} {r : Res} (hr : (F_Ar f args h).eval = some r) : ∃ x0 x1 x2, args = [.r (.agg [.c (.f (.i .u64 x0)), .c (.f (.i .u64 x1))]), rB x2] ∧ h = [] ∧ (f x0 x1 x2).bind (fun (d : Int × Int × Bool) => some (Res.mk (AV.tup [RV.agg [sI d.1, sU d.2.1], RV.c (CV.f (FV.b d.2.2))]) [] [])) = some r := by
  unfold F_Ar at hr
  split at hr
  · rename_i b hb
    have e := ((QA_Ar).ok _ _ hb).trans (qa_Ar b)
    rw [opt_eval2] at hr
    exact ⟨b.1.1.1, b.1.1.2.1, b.1.2.1, (Prod.mk.inj e).1, (Prod.mk.inj e).2, hr⟩
  · cases hr
theorem n_Ar {σ : Type} (q : (Int × Int × Bool) → Option σ) (x0 : Int) (x1 : Int) (x2 : Bool) : (f_Ar x0 x1 x2).bind q = K_Ar f_BG  x0 x1 x2 q := by
  unfold f_Ar
  exact m_Ar q f_BG   x0 x1 x2 some
theorem s_Ar [Amb] : Sound Try.prog 55 (F_Ar f_Ar) := (inl_sound (l := [(87, F_carry f_BG)]) (.cons s_BG (.nil _)) mixed [] [] 200 (by kernel_rfl)).by (F := F_Ar f_Ar) fun args b r hr => by
  obtain ⟨x0, x1, x2, rfl, rfl, hr1⟩ := e_Ar hr
  exact inl_eval ((d_Ar f_BG  x0 x1 x2).trans ((n_Ar (fun (d : Int × Int × Bool) => some (Res.mk (AV.tup [RV.agg [sI d.1, sU d.2.1], RV.c (CV.f (FV.b d.2.2))]) [] [])) x0 x1 x2).symm.trans hr1))

def K_Az {ρ : Type} (g_Ai : t0W2) (g_BQ : t1W2) (g_Ar : t2W2) (x0 : Int) (x1 : Int) (k : (Int × Int) → Option ρ) : Option ρ := Option.bind (g_Ai x0) fun (d : Int) => Option.bind (g_Ai x1) fun (d_1 : Int) => Option.bind (g_BQ d d_1) fun (d : Int ×
 Int) => Option.bind (g_Ar d.1 d.2 !decide (x0 < 0) == decide (x1 < 0)) fun (d : Int × Int × Bool) => k (d.1, d.2.1)
def f_Az (x0 : Int) (x1 : Int) : Option (Int × Int) := K_Az f_Ai f_BQ f_Ar  x0 x1 some
section
open Go.Ab.Rdr
def QA_Az := ((pair (cons (ar (rc (cf (fi .i64 hole)))) (cons (ar (rc (cf (fi .i64 hole)))) nil)) nil) : Rdr (List AV × List Blk) _)
end
def F_Az (f : (Int) → (Int) → Option (Int × Int)) : Sem1 := fun args h => match (QA_Az).rd (args, h) with
  | some b => .opt (f b.1.1 b.1.2.1) fun (d : Int × Int) => .leaf (Res.mk (AV.r (RV.agg [sI d.1, sU d.2])) [] [])
  | none => .fail
theorem d_Az (g_Ai : t0W2) (g_BQ : t1W2) (g_Ar : t2W2) (x0 : Int) (x1 : Int) : den Try.prog (envOf [(53, F_Ai g_Ai), (59, F_BQ g_BQ), (55, F_Ar g_Ar)]) ⟨[], [], [], [], none⟩ 200 23 [rI x0, rI x1] [] = K_Az g_Ai g_BQ g_Ar x0 x1 (fun (d : Int ×
 Int) => some (Res.mk (AV.r (RV.agg [sI d.1, sU d.2])) [] [])) := by kernel_rfl
theorem m_Az {ρ σ : Type} (q : ρ → Option σ) (g_Ai : t0W2) (g_BQ : t1W2) (g_Ar : t2W2)   (x0 : Int) (x1 : Int) (k : (Int × Int) → Option ρ) : (K_Az g_Ai g_BQ g_Ar  x0 x1 k).bind q = K_Az g_Ai g_BQ g_Ar  x0 x1 (fun d => (k d).bind q) := by
  simp only [K_Az, bnd_cond, bnd_bind, bnd_none, bnd_sum]
theorem qa_Az : ∀ b, (QA_Az).em b = ([rI b.1.1, rI b.1.2.1], []) := fun b => by kernel_rfl
theorem e_Az {f : (Int) → (Int) → Option (Int × Int)} {args : List AV} {h : List Blk} {r : Res} (hr : (F_Az f args h).eval = some r) : ∃ x0 x1, args = [rI x0, rI x1] ∧ h = [] ∧ (f x0 x1).bind (fun (d : Int × Int) => some (Res.mk (AV.r (RV.agg [sI d.1, sU d.2])) [] [])) = some r := by
  unfold F_Az at hr
  split at hr
  · rename_i b hb
    have e := ((QA_Az).ok _ _ hb).trans (qa_Az b)
    rw [opt_eval2] at hr
    exact ⟨b.1.1, b.1.2.1, (Prod.mk.inj e).1, (Prod.mk.inj e).2, hr⟩
  · cases hr
theorem n_Az {σ : Type} (q : (Int × Int) → Option σ) (x0 : Int) (x1 : Int) : (f_Az x0 x1).bind q = K_Az f_Ai f_BQ f_Ar  x0 x1 q := by
  unfold f_Az
  exact m_Az q f_Ai f_BQ f_Ar   x0 x1 some
theorem s_Az [Amb] : Sound Try.prog 23 (F_Az f_Az) := (inl_sound (l := [(53, F_Ai f_Ai), (59, F_BQ f_BQ), (55, F_Ar f_Ar)]) (.cons s_Ai (.cons s_BQ (.cons s_Ar (.nil _)))) mixed [] [] 200 (by kernel_rfl)).by (F := F_Az f_Az) fun args b r hr => by
  obtain ⟨x0, x1, rfl, rfl, hr1⟩ := e_Az hr
  exact inl_eval ((d_Az f_Ai f_BQ f_Ar  x0 x1).trans ((n_Az (fun (d : Int × Int) => some (Res.mk (AV.r (RV.agg [sI d.1, sU d.2])) [] [])) x0 x1).symm.trans hr1))

def K_BR {ρ : Type} (g_Ak : t3W2) (g_Ae : t4W2) (x0 : Int) (x1 : Int) (x2 : Int) (x3 : Bool) (k : (Int × Bool) → Option ρ) : Option ρ := bif decide (x2 < 0) then k (0, true) else bif decide (x2 > 120) then k (0, true) else Option.bind (g_Ak x0 x1 x2) fun (d : Int ×
 Bool) => Option.bind (g_Ae d.1 d.2 (decide (x0 < 0)) x3) fun (d : Int × Bool) => k (d.1, d.2)
def f_BR (x0 : Int) (x1 : Int) (x2 : Int) (x3 : Bool) : Option (Int × Bool) := K_BR f_Ak f_Ae  x0 x1 x2 x3 some
section
open Go.Ab.Rdr
def QA_BR := ((pair (cons (ar (rc (cptr (nat 0) (ok' (nat 0)) (nat 1)))) (cons (ar (ra (cons (gc (cf (fi .i64 hole))) (cons (gc (cf (fi .u64 hole))) nil)))) (cons (ar (rc (cf (fi .i64 hole)))) nil))) (cons (cons (gc (cf (fb hole))) nil) nil)) : Rdr (List AV × List Blk) _)
end
def F_BR (f : (Int) → (Int) → (Int) → (Bool) → Option (Int × Bool)) : Sem1 := fun args h => match (QA_BR).rd (args, h) with
  | some b => .opt (f b.1.2.1.1 b.1.2.1.2.1 b.1.2.2.1 b.2.1.1) fun (d : Int × Bool) => .leaf (Res.mk (rI d.1) [Ch.set [sB d.2]] [])
  | none => .fail
theorem d_BR (g_Ak : t3W2) (g_Ae : t4W2) (x0 : Int) (x1 : Int) (x2 : Int) (x3 : Bool) : den Try.prog (envOf [(17, F_Ak g_Ak), (112, F_Ae g_Ae)]) ⟨[], [], [], [], none⟩ 200 92 [.r (.c (.ptr 0 (.k 0) 1)), .r (.agg [.c (.f (.i .i64 x0)),
 .c (.f (.i .u64 x1))]), rI x2] [[.c (.f (.b x3))]] = K_BR g_Ak g_Ae x0 x1 x2 x3 (fun (d : Int × Bool) => some (Res.mk (rI d.1) [Ch.set [sB d.2]] [])) := by kernel_rfl
theorem m_BR {ρ σ : Type} (q : ρ → Option σ) (g_Ak : t3W2) (g_Ae : t4W2)   (x0 : Int) (x1 : Int) (x2 : Int) (x3 : Bool) (k : (Int × Bool) → Option ρ) : (K_BR g_Ak g_Ae  x0 x1 x2 x3 k).bind q = K_BR g_Ak g_Ae  x0 x1 x2 x3 (fun d => (k d).bind q) := by
  simp only [K_BR, bnd_cond, bnd_bind, bnd_none, bnd_sum]
theorem qa_BR : ∀ b, (QA_BR).em b = ([.r (.c (.ptr 0 (.k 0) 1)), .r (.agg [.c (.f (.i .i64 b.1.2.1.1)), .c (.f (.i .u64 b.1.2.1.2.1))]), rI b.1.2.2.1], [[.c (.f (.b b.2.1.1))]]) := fun b => by kernel_rfl
theorem e_BR {f : (Int) → (Int) → (Int) → (Bool) → Option (Int × Bool)} {args : List AV} {h : List Blk} {r : Res} (hr : (F_BR f args h).eval = some r) : ∃ x0 x1 x2 x3, args = [.r (.c (.ptr 0 (.k 0) 1)), .r (.agg [.c (.f (.i .i64 x0)), .c (.f (.i .u64 x1))]), rI x2] ∧ h = [[.c (.f (.b x3))]] ∧ (f x0 x1 x2 x3).bind (fun (d : Int × Bool) => some (Res.mk (rI d.1) [Ch.set [sB d.2]] [])) = some r := by
  unfold F_BR at hr
  split at hr
  · rename_i b hb
    have e := ((QA_BR).ok _ _ hb).trans (qa_BR b)
    rw [opt_eval2] at hr
    exact ⟨b.1.2.1.1, b.1.2.1.2.1, b.1.2.2.1, b.2.1.1, (Prod.mk.inj e).1, (Prod.mk.inj e).2, hr⟩
  · cases hr
theorem n_BR {σ : Type} (q : (Int × Bool) → Option σ) (x0 : Int) (x1 : Int) (x2 : Int) (x3 : Bool) : (f_BR x0 x1 x2 x3).bind q = K_BR f_Ak f_Ae  x0 x1 x2 x3 q := by
  unfold f_BR
  exact m_BR q f_Ak f_Ae   x0 x1 x2 x3 some
theorem s_BR [Amb] : Sound Try.prog 92 (F_BR f_BR) := (inl_sound (l := [(17, F_Ak f_Ak), (112, F_Ae f_Ae)]) (.cons s_Ak (.cons s_Ae (.nil _))) mixed [] [] 200 (by kernel_rfl)).by (F := F_BR f_BR) fun args b r hr => by
  obtain ⟨x0, x1, x2, x3, rfl, rfl, hr1⟩ := e_BR hr
  exact inl_eval ((d_BR f_Ak f_Ae  x0 x1 x2 x3).trans ((n_BR (fun (d : Int × Bool) => some (Res.mk (rI d.1) [Ch.set [sB d.2]] [])) x0 x1 x2 x3).symm.trans hr1))

def K_Ag {ρ : Type} (g_AB : t5W2) (g_Az : t1W2) (g_BR : t6W2) (x0 : Int) (x1 : Int) (x2 : Int) (x3 : Bool) (k : (Int × Bool) → Option ρ) : Option ρ := Option.bind (g_AB x0 x3) fun (d : Int × Bool) => Option.bind (g_AB x1 d.2) fun (d_1 : Int ×
 Bool) => Option.bind (g_Az d.1 d_1.1) fun (d : Int × Int) => Option.bind (g_BR d.1 d.2 x2 d_1.2) fun (d : Int × Bool) => k (d.1, d.2)
def f_Ag (x0 : Int) (x1 : Int) (x2 : Int) (x3 : Bool) : Option (Int × Bool) := K_Ag f_AB f_Az f_BR  x0 x1 x2 x3 some
section
open Go.Ab.Rdr
def QA_Ag := ((pair (cons (ar (rc (cptr (nat 0) (ok' (nat 0)) (nat 1)))) (cons (ar (rc (cf (fi .i64 hole)))) (cons (ar (rc (cf (fi .i64 hole)))) (cons (ar (rc (cf (fi .i64 hole)))) nil)))) (cons (cons (gc (cf (fb hole))) nil) nil)) : Rdr (List AV × List Blk) _)
end
def F_Ag (f : (Int) → (Int) → (Int) → (Bool) → Option (Int × Bool)) : Sem1 := fun args h => match (QA_Ag).rd (args, h) with
  | some b => .opt (f b.1.2.1 b.1.2.2.1 b.1.2.2.2.1 b.2.1.1) fun (d : Int × Bool) => .leaf (Res.mk (rI d.1) [Ch.set [sB d.2]] [])
  | none => .fail
theorem d_Ag (g_AB : t5W2) (g_Az : t1W2) (g_BR : t6W2) (x0 : Int) (x1 : Int) (x2 : Int) (x3 : Bool) : den Try.prog (envOf [(91, F_AB g_AB), (23, F_Az g_Az), (92, F_BR g_BR)]) ⟨[], [], [], [], none⟩ 200 67 [.r (.c (.ptr 0 (.k 0) 1)),
 rI x0, rI x1, rI x2] [[.c (.f (.b x3))]] = K_Ag g_AB g_Az g_BR x0 x1 x2 x3 (fun (d : Int × Bool) => some (Res.mk (rI d.1) [Ch.set [sB d.2]] [])) := by kernel_rfl
theorem m_Ag {ρ σ : Type} (q : ρ → Option σ) (g_AB : t5W2) (g_Az : t1W2) (g_BR : t6W2)   (x0 : Int) (x1 : Int) (x2 : Int) (x3 : Bool) (k : (Int × Bool) → Option ρ) : (K_Ag g_AB g_Az g_BR  x0 x1 x2 x3 k).bind q = K_Ag g_AB g_Az g_BR  x0 x1 x2 x3 (fun d => (k d).bind q) := by
  simp only [K_Ag, bnd_cond, bnd_bind, bnd_none, bnd_sum]
theorem qa_Ag : ∀ b, (QA_Ag).em b = ([.r (.c (.ptr 0 (.k 0) 1)), rI b.1.2.1, rI b.1.2.2.1, rI b.1.2.2.2.1], [[.c (.f (.b b.2.1.1))]]) := fun b => by kernel_rfl
theorem e_Ag {f : (Int) → (Int) → (Int) → (Bool) → Option (Int × Bool)} {args : List AV} {h : List Blk} {r : Res} (hr : (F_Ag f args h).eval = some r) : ∃ x0 x1 x2 x3, args = [.r (.c (.ptr 0 (.k 0) 1)), rI x0, rI x1, rI x2] ∧ h = [[.c (.f (.b x3))]] ∧ (f x0 x1 x2 x3).bind (fun (d : Int × Bool) => some (Res.mk (rI d.1) [Ch.set [sB d.2]] [])) = some r := by
  unfold F_Ag at hr
  split at hr
  · rename_i b hb
    have e := ((QA_Ag).ok _ _ hb).trans (qa_Ag b)
    rw [opt_eval2] at hr
    exact ⟨b.1.2.1, b.1.2.2.1, b.1.2.2.2.1, b.2.1.1, (Prod.mk.inj e).1, (Prod.mk.inj e).2, hr⟩
  · cases hr
theorem n_Ag {σ : Type} (q : (Int × Bool) → Option σ) (x0 : Int) (x1 : Int) (x2 : Int) (x3 : Bool) : (f_Ag x0 x1 x2 x3).bind q = K_Ag f_AB f_Az f_BR  x0 x1 x2 x3 q := by
  unfold f_Ag
  exact m_Ag q f_AB f_Az f_BR   x0 x1 x2 x3 some
theorem s_Ag [Amb] : Sound Try.prog 67 (F_Ag f_Ag) := (inl_sound (l := [(91, F_AB f_AB), (23, F_Az f_Az), (92, F_BR f_BR)]) (.cons s_AB (.cons s_Az (.cons s_BR (.nil _)))) mixed [] [] 200 (by kernel_rfl)).by (F := F_Ag f_Ag) fun args b r hr => by
  obtain ⟨x0, x1, x2, x3, rfl, rfl, hr1⟩ := e_Ag hr
  exact inl_eval ((d_Ag f_AB f_Az f_BR  x0 x1 x2 x3).trans ((n_Ag (fun (d : Int × Bool) => some (Res.mk (rI d.1) [Ch.set [sB d.2]] [])) x0 x1 x2 x3).symm.trans hr1))

end Go.Proofs.Ytcalippagaaikaa
set_option maxRecDepth 100000
set_option maxHeartbeats 4000000
set_option linter.unusedVariables false
namespace Go.Proofs.Ytcalippagaaikaa
open Go.Ab
abbrev u0C1 : List Nat := [0, 1, 2, 3, 7, 8, 9, 10, 11, 12, 13, 14, 15, 16, 17, 18, 19, 20, 21, 22, 23, 24, 25, 26, 27, 28, 29, 30, 31, 32, 33, 34, 35, 36, 37, 38, 39, 40, 41, 42, 43, 44, 45, 46, 47, 48, 49, 50]
abbrev t1C1 := Int → Int → Int → Option (Int × Int)
abbrev t2C1 := Int → Int → Int → Int → Option (Int × Int)
abbrev t3C1 := Int → Int → Int → Int → Option Bool
abbrev t4C1 := Int → Int → Bool → Option (Int × Bool)
abbrev t5C1 := Int → Option Int
abbrev t6C1 := Int → Int → Bool → Option (Int × Int × Bool)
def K_Av {ρ : Type} (x0 : Int) (x1 : Int) (x2 : Int) (x3 : Int) (k : (Bool) → Option ρ) : Option ρ := bif decide (x0 < x2) then k true else bif x0 == x2 then k (decide (x1 < x3)) else k false
def f_Av (x0 : Int) (x1 : Int) (x2 : Int) (x3 : Int) : Option (Bool) := K_Av   x0 x1 x2 x3 some
section
open Go.Ab.Rdr
def QA_Av := ((pair (cons (ar (ra (cons (gc (cf (fi .u64 hole))) (cons (gc (cf (fi .u64 hole))) nil)))) (cons (ar (ra (cons (gc (cf (fi .u64 hole))) (cons (gc (cf (fi .u64 hole))) nil)))) nil)) nil) : Rdr (List AV × List Blk) _)
end
def F_Av (f : (Int) → (Int) → (Int) → (Int) → Option (Bool)) : Sem1 := fun args h => match (QA_Av).rd (args, h) with
  | some b => .opt (f b.1.1.1 b.1.1.2.1 b.1.2.1.1 b.1.2.1.2.1) fun (d : Bool) => .leaf (Res.mk (rB d) [] [])
  | none => .fail
theorem d_Av (x0 : Int) (x1 : Int) (x2 : Int) (x3 : Int) : den Try.prog (envOf []) ⟨[], [], [], [], none⟩ 200 49 [.r (.agg [.c (.f (.i .u64 x0)), .c (.f (.i .u64 x1))]), .r (.agg [.c (.f (.i .u64 x2)), .c (.f (.i .u64 x3))])] [] = K_Av x0 x1 x2 x3 (fun (d : Bool) => some (Res.mk (rB d) [] [])) := by kernel_rfl
theorem m_Av {ρ σ : Type} (q : ρ → Option σ)    (x0 : Int) (x1 : Int) (x2 : Int) (x3 : Int) (k : (Bool) → Option ρ) : (K_Av   x0 x1 x2 x3 k).bind q = K_Av   x0 x1 x2 x3 (fun d => (k d).bind q) := by
  simp only [K_Av, bnd_cond, bnd_bind, bnd_none, bnd_sum]
theorem qa_Av : ∀ b, (QA_Av).em b = ([.r (.agg [.c (.f (.i .u64 b.1.1.1)), .c (.f (.i .u64 b.1.1.2.1))]), .r (.agg [.c (.f (.i .u64 b.1.2.1.1)), .c (.f (.i .u64 b.1.2.1.2.1))])], []) := fun b => by kernel_rfl
theorem e_Av {f : (Int) → (Int) → (Int) → (Int) → Option (Bool)} {args : List AV} {h : List Blk} {r : Res} (hr : (F_Av f args h).eval = some r) : ∃ x0 x1 x2 x3, args = [.r (.agg [.c (.f (.i .u64 x0)), .c (.f (.i .u64 x1))]), .r (.agg [.c (.f (.i .u64 x2)), .c (.f (.i .u64 x3))])] ∧ h = [] ∧ (f x0 x1 x2 x3).bind (fun (d : Bool) => some (Res.mk (rB d) [] [])) = some r := by
  unfold F_Av at hr
  split at hr
  · rename_i b hb
    have e := ((QA_Av).ok _ _ hb).trans (qa_Av b)
    rw [opt_eval2] at hr
    exact ⟨b.1.1.1, b.1.1.2.1, b.1.2.1.1, b.1.2.1.2.1, (Prod.mk.inj e).1, (Prod.mk.inj e).2, hr⟩
  · cases hr
theorem n_Av {σ : Type} (q : (Bool) → Option σ) (x0 : Int) (x1 : Int) (x2 : Int) (x3 : Int) : (f_Av x0 x1 x2 x3).bind q = K_Av   x0 x1 x2 x3 q := by
  unfold f_Av
  exact m_Av q    x0 x1 x2 x3 some
theorem s_Av [Amb] : Sound Try.prog 49 (F_Av f_Av) := (inl_sound (l := []) (.nil _) mixed [] [] 200 (by kernel_rfl)).by (F := F_Av f_Av) fun args b r hr => by
  obtain ⟨x0, x1, x2, x3, rfl, rfl, hr1⟩ := e_Av hr
  exact inl_eval ((d_Av   x0 x1 x2 x3).trans ((n_Av (fun (d : Bool) => some (Res.mk (rB d) [] [])) x0 x1 x2 x3).symm.trans hr1))

def K_BA {ρ : Type} (g_Be : C3) (x0 : Int) (x1 : Int) (x2 : Int) (x3 : Int) (k : (Int × Int) → Option ρ) : Option ρ := Option.bind (g_Be x1 x3 0) fun (d : Int × Int) => Option.bind (g_Be x0 x2 d.2) fun (d_1 : Int × Int) => k (d_1.1, d.1)
def f_BA (x0 : Int) (x1 : Int) (x2 : Int) (x3 : Int) : Option (Int × Int) := K_BA f_Be  x0 x1 x2 x3 some
section
open Go.Ab.Rdr
def QA_BA := ((pair (cons (ar (ra (cons (gc (cf (fi .u64 hole))) (cons (gc (cf (fi .u64 hole))) nil)))) (cons (ar (ra (cons (gc (cf (fi .u64 hole))) (cons (gc (cf (fi .u64 hole))) nil)))) nil)) nil) : Rdr (List AV × List Blk) _)
end
def F_BA (f : (Int) → (Int) → (Int) → (Int) → Option (Int × Int)) : Sem1 := fun args h => match (QA_BA).rd (args, h) with
  | some b => .opt (f b.1.1.1 b.1.1.2.1 b.1.2.1.1 b.1.2.1.2.1) fun (d : Int × Int) => .leaf (Res.mk (AV.r (RV.agg [sU d.1, sU d.2])) [] [])
  | none => .fail
theorem d_BA (g_Be : C3) (x0 : Int) (x1 : Int) (x2 : Int) (x3 : Int) : den Try.prog (envOf [(88, F_carry g_Be)]) ⟨[], [], [], [], none⟩ 200 50 [.r (.agg [.c (.f (.i .u64 x0)), .c (.f (.i .u64 x1))]), .r (.agg [.c (.f (.i .u64 x2)), .c (.f (.i .u64 x3))])] [] = K_BA g_Be x0 x1 x2 x3 (fun (d : Int × Int) => some (Res.mk (AV.r (RV.agg [sU d.1,
 sU d.2])) [] [])) := by kernel_rfl
theorem m_BA {ρ σ : Type} (q : ρ → Option σ) (g_Be : C3)   (x0 : Int) (x1 : Int) (x2 : Int) (x3 : Int) (k : (Int × Int) → Option ρ) : (K_BA g_Be  x0 x1 x2 x3 k).bind q = K_BA g_Be  x0 x1 x2 x3 (fun d => (k d).bind q) := by
  simp only [K_BA, bnd_cond, bnd_bind, bnd_none, bnd_sum]
theorem qa_BA : ∀ b, (QA_BA).em b = ([.r (.agg [.c (.f (.i .u64 b.1.1.1)), .c (.f (.i .u64 b.1.1.2.1))]), .r (.agg [.c (.f (.i .u64 b.1.2.1.1)), .c (.f (.i .u64 b.1.2.1.2.1))])], []) := fun b => by kernel_rfl
theorem e_BA {f : (Int) → (Int) → (Int) → (Int) → Option (Int × Int)} {args : List AV} {h : List Blk} {r : Res} (hr : (F_BA f args h).eval = some r) : ∃ x0 x1 x2 x3, args = [.r (.agg [.c (.f (.i .u64 x0)), .c (.f (.i .u64 x1))]), .r (.agg [.c (.f (.i .u64 x2)), .c (.f (.i .u64 x3))])] ∧ h = [] ∧ (f x0 x1 x2 x3).bind (fun (d : Int × Int) => some (Res.mk (AV.r (RV.agg [sU d.1, sU d.2])) [] [])) = some r := by
  unfold F_BA at hr
  split at hr
  · rename_i b hb
    have e := ((QA_BA).ok _ _ hb).trans (qa_BA b)
    rw [opt_eval2] at hr
    exact ⟨b.1.1.1, b.1.1.2.1, b.1.2.1.1, b.1.2.1.2.1, (Prod.mk.inj e).1, (Prod.mk.inj e).2, hr⟩
  · cases hr
theorem n_BA {σ : Type} (q : (Int × Int) → Option σ) (x0 : Int) (x1 : Int) (x2 : Int) (x3 : Int) : (f_BA x0 x1 x2 x3).bind q = K_BA f_Be  x0 x1 x2 x3 q := by
  unfold f_BA
  exact m_BA q f_Be   x0 x1 x2 x3 some
theorem s_BA [Amb] : Sound Try.prog 50 (F_BA f_BA) := (inl_sound (l := [(88, F_carry f_Be)]) (.cons s_Be (.nil _)) mixed [] [] 200 (by kernel_rfl)).by (F := F_BA f_BA) fun args b r hr => by
  obtain ⟨x0, x1, x2, x3, rfl, rfl, hr1⟩ := e_BA hr
  exact inl_eval ((d_BA f_Be  x0 x1 x2 x3).trans ((n_BA (fun (d : Int × Int) => some (Res.mk (AV.r (RV.agg [sU d.1, sU d.2])) [] [])) x0 x1 x2 x3).symm.trans hr1))

def S_Aa_0 {ρ : Type} (g_AS : t1C1) (g_AW : t2C1) (g_AQ : t1C1) (g_Av : t3C1) (g_BA : t2C1) (g_AR : t4C1) (x0 : Int) (x1 : Int) (x2 : Int) (x3 : Int) (x4 : Int) (c : (Int × Int × Int × Int × Int) → Option ρ) (x : (Int × Bool × Int × Int × Int × Int) → Option ρ) : Option ρ := bif decide (x0 ≥ 0) then Option.bind (g_AS 0 1 x0) fun (d : Int × Int) => Option.bind (g_AW x3 x4 d.1 d.2) fun (d_1 : Int ×
 Int) => Option.bind (g_AQ x3 x4 1) fun (d_2 : Int × Int) => Option.bind (g_Av x1 x2 d_1.1 d_1.2) fun (d_3 : Bool) => bif !d_3 then Option.bind (g_BA x1 x2 d_1.1 d_1.2) fun (d_4 : Int × Int) => Option.bind (g_AW d_2.1 d_2.2 d.1 d.2) fun (d : Int × Int) => c (IntKind.wrap IntKind.i64 (x0 - 2), d_4.1, d_4.2,
 d.1, d.2) else c (IntKind.wrap IntKind.i64 (x0 - 2), x1, x2, d_2.1, d_2.2) else x (x0, decide (x0 ≥ 0), x1, x2, x3, x4)
section
open Go.Ab.Rdr
def Q_Aa_0 := (st (cons aund (cons aund (cons aund (cons aund (cons (ar (rc (cptr (nat 0) (ok' (nat 0)) (nat 2)))) (cons (ar (rc (cptr (nat 1) (ok' (nat 0)) (nat 2)))) (cons (ar (rc (cf (fi .i64 hole)))) (cons aund (cons aund (cons aund (cons aund (cons aund (cons aund (cons aund (cons aund (cons aund (cons aund (cons aund (cons aund (cons aund (cons aund (cons aund (cons aund (cons aund (cons aund (cons aund (cons aund (cons aund (cons aund (cons aund (cons aund (cons aund (cons aund (cons aund (cons aund (cons aund (cons aund (cons aund (cons aund (cons aund (cons aund (cons aund (cons aund (cons aund (cons aund (cons aund (cons aund (cons aund (cons aund (cons aund (cons aund nil))))))))))))))))))))))))))))))))))))))))))))))))))) (cons (some' (cons (gc (cf (fi .u64 hole))) (cons (gc (cf (fi .u64 hole))) nil))) (cons (some' (cons (gc (cf (fi .u64 hole))) (cons (gc (cf (fi .u64 hole))) nil))) nil)) nil)
end
theorem q_Aa_0 : ∀ b, (Q_Aa_0).em b = St.mk [un, un, un, un, AV.r (RV.c (CV.ptr 0 (Off.k 0) 2)), AV.r (RV.c (CV.ptr 1 (Off.k 0) 2)), rI b.1.c4.2.2.1, un, un, un, un, un, un, un, un, un, un, un, un,
 un, un, un, un, un, un, un, un, un, un, un, un, un, un, un, un, un, un, un, un, un, un, un, un, un, un, un, un, un, un, un, un] [some [sU b.2.1.1.1,
 sU b.2.1.1.2.1], some [sU b.2.1.2.1.1, sU b.2.1.2.1.2.1]] [] := fun b => by kernel_rfl
def R_Aa_0 (l : ∀ {ρ : Type}, (Int × Int × Int × Int × Int) → ((Int × Bool × Int × Int × Int × Int) → Option ρ) → Option ρ) {ρ : Type} (s : St) (K : AX → St → Option ρ) : Option ρ := ((Q_Aa_0).rd s).bind fun b => l (b.1.c4.2.2.1, b.2.1.1.1, b.2.1.1.2.1, b.2.1.2.1.1, b.2.1.2.1.2.1) (fun d => K (AX.ex 0) (St.mk [un,
 un, un, un, AV.r (RV.c (CV.ptr 0 (Off.k 0) 2)), AV.r (RV.c (CV.ptr 1 (Off.k 0) 2)), rI d.1, un, un, un, un, un, un, un, un, un, un, un, un, rI d.1, rB d.2.1,
 un, un, un, un, un, un, un, un, un, un, un, un, un, un, un, un, un, un, un, un, un, un, un, un, un, un, un, un, un, un] [some [sU d.2.2.1, sU d.2.2.2.1],
 some [sU d.c4.1, sU d.c4.2]] []))
theorem ms_Aa_0 {ρ σ : Type} (g_AS : t1C1) (g_AW : t2C1) (g_AQ : t1C1) (g_Av : t3C1) (g_BA : t2C1) (g_AR : t4C1)   (q : ρ → Option σ) (x0 : Int) (x1 : Int) (x2 : Int) (x3 : Int) (x4 : Int) (c : (Int × Int × Int × Int × Int) → Option ρ) (x : (Int × Bool × Int × Int × Int × Int) → Option ρ) : (S_Aa_0 g_AS g_AW g_AQ g_Av g_BA g_AR  x0 x1 x2 x3 x4 c x).bind q = S_Aa_0 g_AS g_AW g_AQ g_Av g_BA g_AR  x0 x1 x2 x3 x4 (fun d => (c d).bind q) (fun d => (x d).bind q) := by
  simp only [S_Aa_0, bnd_cond, bnd_bind, bnd_none, bnd_sum]
def L_Aa_0 {ρ : Type} (d : Int × Int × Int × Int × Int) (k : (Int × Bool × Int × Int × Int × Int) → Option ρ) : Option ρ := loopK (fun d c x => S_Aa_0 f_AS f_AW f_AQ f_Av f_BA f_AR  d.1 d.2.1 d.2.2.1 d.2.2.2.1 d.c4 c x) 200 d k
theorem mL_Aa_0 {ρ σ : Type} (q : ρ → Option σ) (d : Int × Int × Int × Int × Int) (k : (Int × Bool × Int × Int × Int × Int) → Option ρ) : (L_Aa_0 d k).bind q = L_Aa_0 d fun x => (k x).bind q := loopK_bind q (fun d c x => ms_Aa_0 f_AS f_AW f_AQ f_Av f_BA f_AR q d.1 d.2.1 d.2.2.1 d.2.2.2.1 d.c4 c x) k _ d
theorem ds_Aa_0 {ρ : Type} (g_AS : t1C1) (g_AW : t2C1) (g_AQ : t1C1) (g_Av : t3C1) (g_BA : t2C1) (g_AR : t4C1) (l_0 : ∀ {ρ : Type}, (Int × Int × Int × Int × Int) → ((Int × Bool × Int × Int × Int × Int) → Option ρ) → Option ρ) (x0 : Int) (x1 : Int) (x2 : Int) (x3 : Int) (x4 : Int) (c : St → Option ρ) (K : AX → St → Option ρ) : runC Try.prog (envOf [(46, F_AS g_AS), (47, F_AW g_AW), (48, F_AQ g_AQ), (49,
 F_Av g_Av), (50, F_BA g_BA), (51, F_AR g_AR)]) ⟨[⟨5, u0C1, []⟩], [⟨5, 0, @R_Aa_0 (@l_0)⟩], [], [], none⟩ (tmpsOf Try.prog 15) 0 200 (loopIn Try.prog 15 5) (St.mk [un,
 un, un, un, AV.r (RV.c (CV.ptr 0 (Off.k 0) 2)), AV.r (RV.c (CV.ptr 1 (Off.k 0) 2)), rI x0, un, un, un, un, un, un, un, un, un, un, un, un, un, un, un, un, un, un, un, un, un,
 un, un, un, un, un, un, un, un, un, un, un, un, un, un, un, un, un, un, un, un, un, un, un] [some [sU x1, sU x2], some [sU x3,
 sU x4]] []) (next (fun t => t.head 0 ⟨[⟨5, u0C1, []⟩], [⟨5, 0, @R_Aa_0 (@l_0)⟩], [], [], none⟩ (loopIn Try.prog 15 5)) c K) = S_Aa_0 g_AS g_AW g_AQ g_Av g_BA g_AR x0 x1 x2 x3 x4 (fun d => c (St.mk [un,
 un, un, un, AV.r (RV.c (CV.ptr 0 (Off.k 0) 2)), AV.r (RV.c (CV.ptr 1 (Off.k 0) 2)), rI d.1, un, un, un, un, un, un, un, un, un, un, un, un, un, un, un, un, un, un, un, un, un,
 un, un, un, un, un, un, un, un, un, un, un, un, un, un, un, un, un, un, un, un, un, un, un] [some [sU d.2.1, sU d.2.2.1], some [sU d.2.2.2.1,
 sU d.c4]] [])) (fun d => K (AX.ex 0) (St.mk [un, un, un, un, AV.r (RV.c (CV.ptr 0 (Off.k 0) 2)), AV.r (RV.c (CV.ptr 1 (Off.k 0) 2)), rI d.1, un, un, un, un, un, un, un, un, un, un,
 un, un, rI d.1, rB d.2.1, un, un, un, un, un, un, un, un, un, un, un, un, un, un, un, un, un, un, un, un, un, un, un, un, un, un, un,
 un, un, un] [some [sU d.2.2.1, sU d.2.2.2.1], some [sU d.c4.1, sU d.c4.2]] [])) := by kernel_rfl
theorem it_Aa_0 {ρ : Type} (x0 : Int) (x1 : Int) (x2 : Int) (x3 : Int) (x4 : Int) (K : AX → St → Option ρ) : iter (fun t => t.head 0 ⟨[⟨5, u0C1, []⟩], [⟨5, 0, @R_Aa_0 (@L_Aa_0)⟩], [], [], none⟩ (loopIn Try.prog 15 5)) (runC Try.prog (envOf [(46, F_AS f_AS), (47, F_AW f_AW), (48, F_AQ f_AQ), (49, F_Av f_Av), (50, F_BA f_BA), (51, F_AR f_AR)]) ⟨[⟨5, u0C1, []⟩], [⟨5, 0, @R_Aa_0 (@L_Aa_0)⟩], [], [], none⟩ (tmpsOf Try.prog 15) 0 200 (loopIn Try.prog 15 5)) K 200 (St.mk [un, un, un, un, AV.r (RV.c (CV.ptr 0 (Off.k 0) 2)), AV.r (RV.c (CV.ptr 1 (Off.k 0) 2)),
 rI x0, un, un, un, un, un, un, un, un, un, un, un, un, un, un, un, un, un, un, un, un, un, un, un, un, un, un, un, un, un, un, un, un, un,
 un, un, un, un, un, un, un, un, un, un, un] [some [sU x1, sU x2], some [sU x3, sU x4]] []) = L_Aa_0 (x0, x1, x2, x3, x4) (fun d => K (AX.ex 0) (St.mk [un,
 un, un, un, AV.r (RV.c (CV.ptr 0 (Off.k 0) 2)), AV.r (RV.c (CV.ptr 1 (Off.k 0) 2)), rI d.1, un, un, un, un, un, un, un, un, un, un, un, un, rI d.1, rB d.2.1,
 un, un, un, un, un, un, un, un, un, un, un, un, un, un, un, un, un, un, un, un, un, un, un, un, un, un, un, un, un, un] [some [sU d.2.2.1, sU d.2.2.2.1],
 some [sU d.c4.1, sU d.c4.2]] [])) := iter_loopX (emb := fun (d : Int × Int × Int × Int × Int) => St.mk [un, un, un, un, AV.r (RV.c (CV.ptr 0 (Off.k 0) 2)), AV.r (RV.c (CV.ptr 1 (Off.k 0) 2)), rI d.1,
 un, un, un, un, un, un, un, un, un, un, un, un, un, un, un, un, un, un, un, un, un, un, un, un, un, un, un, un, un, un, un, un, un, un, un, un, un, un,
 un, un, un, un, un, un] [some [sU d.2.1, sU d.2.2.1], some [sU d.2.2.2.1, sU d.c4]] []) (step := fun d c x => S_Aa_0 f_AS f_AW f_AQ f_Av f_BA f_AR d.1 d.2.1 d.2.2.1 d.2.2.2.1 d.c4 c x) (kx := (fun d => K (AX.ex 0) (St.mk [un,
 un, un, un, AV.r (RV.c (CV.ptr 0 (Off.k 0) 2)), AV.r (RV.c (CV.ptr 1 (Off.k 0) 2)), rI d.1, un, un, un, un, un, un, un, un, un, un, un, un, rI d.1, rB d.2.1,
 un, un, un, un, un, un, un, un, un, un, un, un, un, un, un, un, un, un, un, un, un, un, un, un, un, un, un, un, un, un] [some [sU d.2.2.1, sU d.2.2.2.1],
 some [sU d.c4.1, sU d.c4.2]] []))) (fun d c => ds_Aa_0 f_AS f_AW f_AQ f_Av f_BA f_AR (@L_Aa_0) d.1 d.2.1 d.2.2.1 d.2.2.2.1 d.c4 c K) 200 (x0, x1, x2, x3, x4)
theorem so_Aa_0 [Amb] : ∀ kk, SumOK Try.prog (envOf [(46, F_AS f_AS), (47, F_AW f_AW), (48, F_AQ f_AQ), (49, F_Av f_Av), (50, F_BA f_BA), (51, F_AR f_AR)]) ⟨[⟨5, u0C1, []⟩], [⟨5, 0, @R_Aa_0 (@L_Aa_0)⟩], [], [], none⟩ (tmpsOf Try.prog 15) kk 200 (loopIn Try.prog 15 5) := SumOK.of (id := 5) (k0 := 0) (run := @R_Aa_0 (@L_Aa_0)) (by kernel_rfl) fun s K r hr => by
    unfold R_Aa_0 at hr
    obtain ⟨b, hb, hr1⟩ := Option.bind_eq_some_iff.1 hr
    have e := ((Q_Aa_0).ok s b hb).trans (q_Aa_0 b)
    subst e
    exact ⟨200, (it_Aa_0 b.1.c4.2.2.1 b.2.1.1.1 b.2.1.1.2.1 b.2.1.2.1.1 b.2.1.2.1.2.1 K).trans hr1⟩
def K_Aa {ρ : Type} (g_AS : t1C1) (g_AW : t2C1) (g_AQ : t1C1) (g_Av : t3C1) (g_BA : t2C1) (g_AR : t4C1) (l_0 : ∀ {ρ : Type}, (Int × Int × Int × Int × Int) → ((Int × Bool × Int × Int × Int × Int) → Option ρ) → Option ρ) (x0 : Int) (x1 : Int) (k : (Int × Bool) → Option ρ) : Option ρ := bif decide (x0 < 0) then k (0, false) else l_0 (126, IntKind.wrap IntKind.u64 x0, x1, 0, 0) fun (d : Int × Bool ×
 Int × Int × Int × Int) => Option.bind (g_Av d.c4.1 d.c4.2 d.2.2.1 d.2.2.2.1) fun (d_1 : Bool) => bif d_1 then Option.bind (g_AW d.c4.1 d.c4.2 0 1) fun (d : Int × Int) => Option.bind (g_AR d.1 d.2 false) fun (d : Int × Bool) => k (d.1, d.2) else Option.bind (g_AR d.c4.1 d.c4.2 false) fun (d : Int ×
 Bool) => k (d.1, d.2)
def f_Aa (x0 : Int) (x1 : Int) : Option (Int × Bool) := K_Aa f_AS f_AW f_AQ f_Av f_BA f_AR (@L_Aa_0) x0 x1 some
section
open Go.Ab.Rdr
def QA_Aa := ((pair (cons (ar (ra (cons (gc (cf (fi .i64 hole))) (cons (gc (cf (fi .u64 hole))) nil)))) nil) nil) : Rdr (List AV × List Blk) _)
end
def F_Aa (f : (Int) → (Int) → Option (Int × Bool)) : Sem1 := fun args h => match (QA_Aa).rd (args, h) with
  | some b => .opt (f b.1.1.1 b.1.1.2.1) fun (d : Int × Bool) => .leaf (Res.mk (AV.tup [RV.c (fI d.1), RV.c (CV.f (FV.b d.2))]) [] [])
  | none => .fail
theorem d_Aa (g_AS : t1C1) (g_AW : t2C1) (g_AQ : t1C1) (g_Av : t3C1) (g_BA : t2C1) (g_AR : t4C1) (l_0 : ∀ {ρ : Type},
 (Int × Int × Int × Int × Int) → ((Int × Bool × Int × Int × Int × Int) → Option ρ) → Option ρ) (x0 : Int) (x1 : Int) : den Try.prog (envOf [(46, F_AS g_AS), (47, F_AW g_AW), (48, F_AQ g_AQ), (49, F_Av g_Av), (50, F_BA g_BA), (51, F_AR g_AR)]) ⟨[⟨5, u0C1, []⟩], [⟨5, 0, @R_Aa_0 (@l_0)⟩], [], [], none⟩ 200 15 [.r (.agg [.c (.f (.i .i64 x0)), .c (.f (.i .u64 x1))])] [] = K_Aa g_AS g_AW g_AQ g_Av g_BA g_AR (@l_0) x0 x1 (fun (d : Int ×
 Bool) => some (Res.mk (AV.tup [RV.c (fI d.1), RV.c (CV.f (FV.b d.2))]) [] [])) := by kernel_rfl
theorem m_Aa {ρ σ : Type} (q : ρ → Option σ) (g_AS : t1C1) (g_AW : t2C1) (g_AQ : t1C1) (g_Av : t3C1) (g_BA : t2C1) (g_AR : t4C1) (l_0 : ∀ {ρ : Type}, (Int × Int × Int × Int × Int) → ((Int × Bool × Int × Int × Int × Int) → Option ρ) → Option ρ) (hl_0 : ∀ {ρ σ : Type} (q : ρ → Option σ) (d : Int × Int × Int × Int × Int) (k : (Int × Bool × Int × Int × Int × Int) → Option ρ), (l_0 d k).bind q = l_0 d fun x => (k x).bind q) (x0 : Int) (x1 : Int) (k : (Int × Bool) → Option ρ) : (K_Aa g_AS g_AW g_AQ g_Av g_BA g_AR (@l_0) x0 x1 k).bind q = K_Aa g_AS g_AW g_AQ g_Av g_BA g_AR (@l_0) x0 x1 (fun d => (k d).bind q) := by
  simp only [K_Aa, bnd_cond, bnd_bind, bnd_none, bnd_sum, hl_0]
theorem qa_Aa : ∀ b, (QA_Aa).em b = ([.r (.agg [.c (.f (.i .i64 b.1.1.1)), .c (.f (.i .u64 b.1.1.2.1))])], []) := fun b => by kernel_rfl
theorem e_Aa {f : (Int) → (Int) → Option (Int × Bool)} {args : List AV} {h : List Blk} {r : Res} (hr : (F_Aa f args h).eval = some r) : ∃ x0 x1, args = [.r (.agg [.c (.f (.i .i64 x0)), .c (.f (.i .u64 x1))])] ∧ h = [] ∧ (f x0 x1).bind (fun (d : Int × Bool) => some (Res.mk (AV.tup [RV.c (fI d.1), RV.c (CV.f (FV.b d.2))]) [] [])) = some r := by
  unfold F_Aa at hr
  split at hr
  · rename_i b hb
    have e := ((QA_Aa).ok _ _ hb).trans (qa_Aa b)
    rw [opt_eval2] at hr
    exact ⟨b.1.1.1, b.1.1.2.1, (Prod.mk.inj e).1, (Prod.mk.inj e).2, hr⟩
  · cases hr
theorem n_Aa {σ : Type} (q : (Int × Bool) → Option σ) (x0 : Int) (x1 : Int) : (f_Aa x0 x1).bind q = K_Aa f_AS f_AW f_AQ f_Av f_BA f_AR (@L_Aa_0) x0 x1 q := by
  unfold f_Aa
  exact m_Aa q f_AS f_AW f_AQ f_Av f_BA f_AR (@L_Aa_0) (fun q d k => mL_Aa_0 q d k) x0 x1 some
theorem s_Aa [Amb] : Sound Try.prog 15 (F_Aa f_Aa) := (inl_sums (l := [(46, F_AS f_AS), (47, F_AW f_AW), (48, F_AQ f_AQ), (49, F_Av f_Av), (50, F_BA f_BA), (51, F_AR f_AR)]) (.cons s_AS (.cons s_AW (.cons s_AQ (.cons s_Av (.cons s_BA (.cons s_AR (.nil _))))))) mixed (hs := ⟨[⟨5, u0C1, []⟩], [⟨5, 0, @R_Aa_0 (@L_Aa_0)⟩], [], [], none⟩) (lf := 200) (Sums.by (l := [loopIn Try.prog 15 5]) (lj := []) (by kernel_rfl) ⟨so_Aa_0,
 trivial⟩ (by kernel_rfl) trivial) (by kernel_rfl)).by (F := F_Aa f_Aa) fun args b r hr => by
  obtain ⟨x0, x1, rfl, rfl, hr1⟩ := e_Aa hr
  exact inl_eval ((d_Aa f_AS f_AW f_AQ f_Av f_BA f_AR (@L_Aa_0) x0 x1).trans ((n_Aa (fun (d : Int × Bool) => some (Res.mk (AV.tup [RV.c (fI d.1), RV.c (CV.f (FV.b d.2))]) [] [])) x0 x1).symm.trans hr1))

def K_Aw {ρ : Type} (g_Ai : t5C1) (g_AS : t1C1) (g_AQ : t1C1) (g_Ar : t6C1) (x0 : Int) (x1 : Int) (k : (Int × Int × Bool) → Option ρ) : Option ρ := bif decide (x1 < 0) then k (0, 0, false) else
 bif decide (x1 > 127) then k (0, 0, false) else Option.bind (g_Ai x0) fun (d : Int) => Option.bind (g_AS 0 d x1) fun (d_1 : Int × Int) => Option.bind (g_AQ d_1.1 d_1.2 x1) fun (d_2 : Int × Int) => bif !(d_2.1 == 0 && (d_2.2 == d && true)) then k (0, 0, false) else Option.bind (g_Ar d_1.1 d_1.2 (decide (x0 < 0))) fun (d : Int ×
 Int × Bool) => bif !d.2.2 then k (0, 0, false) else k (d.1, d.2.1, true)
def f_Aw (x0 : Int) (x1 : Int) : Option (Int × Int × Bool) := K_Aw f_Ai f_AS f_AQ f_Ar  x0 x1 some
section
open Go.Ab.Rdr
def QA_Aw := ((pair (cons (ar (rc (cf (fi .i64 hole)))) (cons (ar (rc (cf (fi .i64 hole)))) nil)) nil) : Rdr (List AV × List Blk) _)
end
def F_Aw (f : (Int) → (Int) → Option (Int × Int × Bool)) : Sem1 := fun args h => match (QA_Aw).rd (args, h) with
  | some b => .opt (f b.1.1 b.1.2.1) fun (d : Int × Int × Bool) => .leaf (Res.mk (AV.tup [RV.agg [sI d.1, sU d.2.1], RV.c (CV.f (FV.b d.2.2))]) [] [])
  | none => .fail
theorem d_Aw (g_Ai : t5C1) (g_AS : t1C1) (g_AQ : t1C1) (g_Ar : t6C1) (x0 : Int) (x1 : Int) : den Try.prog (envOf [(53, F_Ai g_Ai), (46, F_AS g_AS), (48, F_AQ g_AQ), (55, F_Ar g_Ar)]) ⟨[],
 [], [], [], none⟩ 200 31 [rI x0, rI x1] [] = K_Aw g_Ai g_AS g_AQ g_Ar x0 x1 (fun (d : Int × Int × Bool) => some (Res.mk (AV.tup [RV.agg [sI d.1, sU d.2.1], RV.c (CV.f (FV.b d.2.2))]) [] [])) := by kernel_rfl
theorem m_Aw {ρ σ : Type} (q : ρ → Option σ) (g_Ai : t5C1) (g_AS : t1C1) (g_AQ : t1C1) (g_Ar : t6C1)   (x0 : Int) (x1 : Int) (k : (Int × Int × Bool) → Option ρ) : (K_Aw g_Ai g_AS g_AQ g_Ar  x0 x1 k).bind q = K_Aw g_Ai g_AS g_AQ g_Ar  x0 x1 (fun d => (k d).bind q) := by
  simp only [K_Aw, bnd_cond, bnd_bind, bnd_none, bnd_sum]
theorem qa_Aw : ∀ b, (QA_Aw).em b = ([rI b.1.1, rI b.1.2.1], []) := fun b => by kernel_rfl
theorem e_Aw {f : (Int) → (Int) → Option (Int × Int × Bool)} {args : List AV} {h : List Blk} {r : Res} (hr : (F_Aw f args h).eval = some r) : ∃ x0 x1, args = [rI x0, rI x1] ∧ h = [] ∧ (f x0 x1).bind (fun (d : Int × Int × Bool) => some (Res.mk (AV.tup [RV.agg [sI d.1, sU d.2.1], RV.c (CV.f (FV.b d.2.2))]) [] [])) = some r := by
  unfold F_Aw at hr
  split at hr
  · rename_i b hb
    have e := ((QA_Aw).ok _ _ hb).trans (qa_Aw b)
    rw [opt_eval2] at hr
    exact ⟨b.1.1, b.1.2.1, (Prod.mk.inj e).1, (Prod.mk.inj e).2, hr⟩
  · cases hr
theorem n_Aw {σ : Type} (q : (Int × Int × Bool) → Option σ) (x0 : Int) (x1 : Int) : (f_Aw x0 x1).bind q = K_Aw f_Ai f_AS f_AQ f_Ar  x0 x1 q := by
  unfold f_Aw
  exact m_Aw q f_Ai f_AS f_AQ f_Ar   x0 x1 some
theorem s_Aw [Amb] : Sound Try.prog 31 (F_Aw f_Aw) := (inl_sound (l := [(53, F_Ai f_Ai), (46, F_AS f_AS), (48, F_AQ f_AQ), (55, F_Ar f_Ar)]) (.cons s_Ai (.cons s_AS (.cons s_AQ (.cons s_Ar (.nil _))))) mixed [] [] 200 (by kernel_rfl)).by (F := F_Aw f_Aw) fun args b r hr => by
  obtain ⟨x0, x1, rfl, rfl, hr1⟩ := e_Aw hr
  exact inl_eval ((d_Aw f_Ai f_AS f_AQ f_Ar  x0 x1).trans ((n_Aw (fun (d : Int × Int × Bool) => some (Res.mk (AV.tup [RV.agg [sI d.1, sU d.2.1], RV.c (CV.f (FV.b d.2.2))]) [] [])) x0 x1).symm.trans hr1))

end Go.Proofs.Ytcalippagaaikaa
