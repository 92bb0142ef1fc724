/-
  The sum of two vectors in plain arithmetic.
-/
import Derived.Test.YthbnojedlbeglaaWV
import Derived.Test.YthbnojedlbeglaaVA
set_option maxRecDepth 100000
set_option maxHeartbeats 4000000
set_option linter.unusedVariables false
set_option linter.unusedSimpArgs false
namespace Go.Proofs.Ythbnojedlbeglaa
open Go.Ab
def LL1 (g : Nat → Bool → (Nat → Int) → Bool → Option (Int × Bool)) {ρ : Type} (d : Nat × Bool × Int × Nat × Int × Nat × Bool × Int × Int × Bool × Nat × (Nat → Int) × (Nat → Int) × (Nat → Int) × Int × Int × Int × Nat × (Nat → Int)) (k : (Nat × Bool × Int × Nat × Int × Nat × Bool × Int × Int × Bool × Bool × Nat × (Nat → Int) × (Nat → Int) × (Nat → Int) × Int × Int × Int × Nat × (Nat → Int)) → Option ρ) : Option ρ := loopK (fun d c x => S_vec_Add_1 g  d.1 d.2.1 d.2.2.1 d.2.2.2.1 d.2.2.2.2.1 d.2.2.2.2.2.1 d.2.2.2.2.2.2.1 d.2.2.2.2.2.2.2.1 d.2.2.2.2.2.2.2.2.1 d.2.2.2.2.2.2.2.2.2.1 d.2.2.2.2.2.2.2.2.2.2.1 d.2.2.2.2.2.2.2.2.2.2.2.1 d.2.2.2.2.2.2.2.2.2.2.2.2.1 d.2.2.2.2.2.2.2.2.2.2.2.2.2.1 d.2.2.2.2.2.2.2.2.2.2.2.2.2.2.1 d.2.2.2.2.2.2.2.2.2.2.2.2.2.2.2.1 d.2.2.2.2.2.2.2.2.2.2.2.2.2.2.2.2.1 d.2.2.2.2.2.2.2.2.2.2.2.2.2.2.2.2.2.1 d.2.2.2.2.2.2.2.2.2.2.2.2.2.2.2.2.2.2 c x) 200 d k
def LL0 (g : Nat → Bool → (Nat → Int) → Bool → Option (Int × Bool)) {ρ : Type} (d : Nat × Bool × Int × Bool × Nat × (Nat → Int) × (Nat → Int) × (Nat → Int) × Int × Int × Int) (k : (Nat × Bool × Int × Bool × Bool × Nat × (Nat → Int) × (Nat → Int) × (Nat → Int) × Int × Int × Int) → Option ρ) : Option ρ := loopK (fun d c x => S_vec_Add_0 g (@LL1 g) d.1 d.2.1 d.2.2.1 d.2.2.2.1 d.2.2.2.2.1 d.2.2.2.2.2.1 d.2.2.2.2.2.2.1 d.2.2.2.2.2.2.2.1 d.2.2.2.2.2.2.2.2.1 d.2.2.2.2.2.2.2.2.2.1 d.2.2.2.2.2.2.2.2.2.2 c x) 200 d k
theorem two_gen (g : Nat → Bool → (Nat → Int) → Bool → Option (Int × Bool)) (hit w : Bool) (f1 f2 f3 : Nat → Int) {ρ : Type} (k : Int × Int × Int × Bool → Option ρ) :
    LL0 g (2, w, 0, hit, 2, f1, f2, f3, 0, 0, 0) (fun d => k (d.2.2.2.2.2.2.2.2.2.1, d.2.2.2.2.2.2.2.2.2.2.1, d.2.2.2.2.2.2.2.2.2.2.2, d.2.2.2.2.1)) =
      (g 2 hit (fun j => bif Nat.beq j 1 then f1 1 else bif Nat.beq j 0 then f1 0 else 0) true).bind fun a => (g 2 a.2 (fun j => bif Nat.beq j 1 then f2 1 else bif Nat.beq j 0 then f2 0 else 0) true).bind fun b =>
        (g 2 b.2 (fun j => bif Nat.beq j 1 then f3 1 else bif Nat.beq j 0 then f3 0 else 0) true).bind fun c => k (a.1, b.1, c.1, c.2) := by kernel_rfl
theorem vec_add_two (hit w : Bool) (f1 f2 f3 : Nat → Int) : f_vec_Add 2 hit f1 f2 f3 w =
      (f___fx_Acc__Add 2 hit (fun j => bif Nat.beq j 1 then f1 1 else bif Nat.beq j 0 then f1 0 else 0) true).bind fun a => (f___fx_Acc__Add 2 a.2 (fun j => bif Nat.beq j 1 then f2 1 else bif Nat.beq j 0 then f2 0 else 0) true).bind fun b =>
        (f___fx_Acc__Add 2 b.2 (fun j => bif Nat.beq j 1 then f3 1 else bif Nat.beq j 0 then f3 0 else 0) true).bind fun c => some (a.1, b.1, c.1, c.2) := two_gen f___fx_Acc__Add hit w f1 f2 f3 some
theorem add_two (hit w : Bool) (x y : Int) (l : Nat → Int) (h0 : l 0 = x) (h1 : l 1 = y) (hx : -576460752303423488 ≤ x ∧ x ≤ 576460752303423488) (hy : -576460752303423488 ≤ y ∧ y ≤ 576460752303423488) : f___fx_Acc__Add 2 hit l w = some (x + y, hit) := by
  rw [acc_add 2 (by omega)]
  have a1 := sat_id (x := x) (by omega)
  have a2 := sat_id (x := y) (by omega)
  have a3 := sat_id (x := x + y) (by omega)
  simp only [sumF, anyF, h0, h1, a1.1, a1.2, a2.1, a2.2, Int.zero_add, a3.1, a3.2, Bool.or_false, Bool.false_or]
theorem vec_add2 (hit w : Bool) (f1 f2 f3 : Nat → Int) (x1 x2 x3 y1 y2 y3 : Int) (e1 : f1 0 = x1) (e2 : f2 0 = x2) (e3 : f3 0 = x3) (d1 : f1 1 = y1) (d2 : f2 1 = y2) (d3 : f3 1 = y3)
    (hx1 : -576460752303423488 ≤ x1 ∧ x1 ≤ 576460752303423488) (hx2 : -576460752303423488 ≤ x2 ∧ x2 ≤ 576460752303423488) (hx3 : -576460752303423488 ≤ x3 ∧ x3 ≤ 576460752303423488)
    (hy1 : -576460752303423488 ≤ y1 ∧ y1 ≤ 576460752303423488) (hy2 : -576460752303423488 ≤ y2 ∧ y2 ≤ 576460752303423488) (hy3 : -576460752303423488 ≤ y3 ∧ y3 ≤ 576460752303423488) :
    f_vec_Add 2 hit f1 f2 f3 w = some (x1 + y1, x2 + y2, x3 + y3, hit) := by
  have A1 := add_two hit true x1 y1 (fun j => bif Nat.beq j 1 then f1 1 else bif Nat.beq j 0 then f1 0 else 0) e1 d1 hx1 hy1
  have A2 := add_two hit true x2 y2 (fun j => bif Nat.beq j 1 then f2 1 else bif Nat.beq j 0 then f2 0 else 0) e2 d2 hx2 hy2
  have A3 := add_two hit true x3 y3 (fun j => bif Nat.beq j 1 then f3 1 else bif Nat.beq j 0 then f3 0 else 0) e3 d3 hx3 hy3
  rw [vec_add_two, A1, Option.bind_some]
  simp only
  rw [A2, Option.bind_some]
  simp only
  rw [A3, Option.bind_some]
end Go.Proofs.Ythbnojedlbeglaa
