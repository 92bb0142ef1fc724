/-
  Chapter 8: bounds of the frame's two lengths.
-/
import Derived.Test.YtcalippagaaikaaE5
set_option maxRecDepth 100000
set_option maxHeartbeats 4000000
set_option linter.unusedVariables false
set_option linter.unusedSimpArgs false
namespace Go.Proofs.Ytcalippagaaikaa
open Go.Ab
theorem rnd30_bd (v M : Int) (h1 : -(M * 1073741824) ≤ v) (h2 : v ≤ M * 1073741824) : -M ≤ rnd v 30 ∧ rnd v 30 ≤ M := by
  unfold rnd half
  rw [if_neg (by omega : ¬ (30 : Nat) = 0), show (2 : Int) ^ (30 - 1) = 536870912 from rfl, show (2 : Int) ^ 30 = 1073741824 from rfl]
  split <;> omega
theorem rnd30_lo (v M : Int) (h1 : M * 1073741824 ≤ v) (h0 : 0 ≤ M) : M ≤ rnd v 30 := by
  unfold rnd half
  rw [if_neg (by omega : ¬ (30 : Nat) = 0), show (2 : Int) ^ (30 - 1) = 536870912 from rfl, show (2 : Int) ^ 30 = 1073741824 from rfl]
  split <;> omega
theorem rnd10_bd (v M : Int) (h1 : -(M * 1024) ≤ v) (h2 : v ≤ M * 1024) : -M ≤ rnd v 10 ∧ rnd v 10 ≤ M := by
  unfold rnd half
  rw [if_neg (by omega : ¬ (10 : Nat) = 0), show (2 : Int) ^ (10 - 1) = 512 from rfl, show (2 : Int) ^ 10 = 1024 from rfl]
  split <;> omega
theorem qdq_bd (V D M : Int) (d : 0 < D) (v : 0 ≤ V) (h : V ≤ M * D) : 0 ≤ qdq V D ∧ qdq V D ≤ M := by
  unfold qdq
  have e := Int.mul_ediv_add_emod V D
  have r0 := Int.emod_nonneg V (show D ≠ 0 by omega)
  have r1 := Int.emod_lt_of_pos V d
  have q0 := Int.ediv_nonneg v (Int.le_of_lt d)
  have q1 : V / D ≤ M := Int.ediv_le_of_le_mul d h
  refine ⟨by split <;> omega, ?_⟩
  by_cases c : V / D = M
  · have : V % D = 0 := by
      rw [c] at e
      have : D * M = M * D := Int.mul_comm _ _
      omega
    rw [if_pos (by omega)]; omega
  · split <;> omega
theorem rdq_bd (a d M : Int) (h : 0 < d) (h1 : -(M * d) ≤ a) (h2 : a ≤ M * d) : -M ≤ rdq a d ∧ rdq a d ≤ M := by
  have D : mgq d = d := by unfold mgq; rw [if_neg (by omega)]
  have A : mgq a ≤ M * d := by unfold mgq; split <;> omega
  have b := qdq_bd (mgq a) d M h (mgq_nn a) A
  unfold rdq
  rw [D]
  split <;> omega
theorem rdq_nn (a d : Int) (h : 0 < d) (a0 : 0 ≤ a) : 0 ≤ rdq a d := by
  have D : mgq d = d := by unfold mgq; rw [if_neg (by omega)]
  unfold rdq
  rw [D, if_pos (by rw [decide_eq_false (by omega), decide_eq_false (by omega)])]
  unfold qdq
  have := Int.ediv_nonneg (mgq_nn a) (Int.le_of_lt h)
  split <;> omega
theorem mulB (x y A B : Int) (h1 : -A ≤ x) (h2 : x ≤ A) (h3 : -B ≤ y) (h4 : y ≤ B) : -(A * B) ≤ x * y ∧ x * y ≤ A * B := by
  have a := Int.mul_nonneg (show 0 ≤ A - x by omega) (show 0 ≤ B + y by omega)
  have b := Int.mul_nonneg (show 0 ≤ A + x by omega) (show 0 ≤ B - y by omega)
  have c := Int.mul_nonneg (show 0 ≤ A - x by omega) (show 0 ≤ B - y by omega)
  have d := Int.mul_nonneg (show 0 ≤ A + x by omega) (show 0 ≤ B + y by omega)
  have e1 : (A - x) * (B + y) = A * B + A * y - x * B - x * y := by grind
  have e2 : (A + x) * (B - y) = A * B - A * y + x * B - x * y := by grind
  have e3 : (A - x) * (B - y) = A * B - A * y - x * B + x * y := by grind
  have e4 : (A + x) * (B + y) = A * B + A * y + x * B + x * y := by grind
  omega
def Unit1 (x : Int) : Prop := -1073741824 ≤ x ∧ x ≤ 1073741824
theorem clampB (v : Int) : Unit1 (if 1073741824 < if -1073741824 > v then -1073741824 else v then 1073741824 else if -1073741824 > v then -1073741824 else v) := by
  unfold Unit1
  by_cases c : -1073741824 > v
  · simp only [if_pos c]; split <;> omega
  · simp only [if_neg c]; split <;> omega
theorem sin_bd (x : Int) (hit : Bool) : Post (fun r => Unit1 r.1) (f_trig_Sin x hit) := by
  unfold f_trig_Sin K_trig_Sin
  repeat' with_reducible first
    | refine post_some (clampB _)
    | refine post_bind fun _ => ?_
    | refine post_cond _ ?_ ?_
theorem cos_bd (x : Int) (hit : Bool) : Post (fun r => Unit1 r.1) (f_trig_Cos x hit) := by
  unfold f_trig_Cos K_trig_Cos
  obtain ⟨w, hw⟩ := t_wrap x
  rw [hw, Option.bind_some]
  obtain ⟨s, hs⟩ := t_sin (IntKind.wrap .i64 (1686629713 + w)) hit
  have b := sin_bd _ _ s hs
  rw [hs, Option.bind_some]
  exact post_some b
theorem sqrt_eq (a : Int) (hit : Bool) (h0 : 0 ≤ a) (h1 : a ≤ 1152921504606846976) : ∃ r u, isR r (a * 1073741824) ∧ f_root_Sqrt a hit = some (sat r, u) := by
  unfold f_root_Sqrt K_root_Sqrt
  rw [acc_sat, Option.bind_some, satI ⟨by omega, h1⟩]
  simp only [decide_eq_false (show ¬ a < 0 by omega), cond_false]
  obtain ⟨h, l, v, e1, e2, e3, e4, e5⟩ := wide_shift a 30 (by omega) (by omega) (by omega)
  have e1' : f_wide_Shift a 30 = some (h, l, v) := e1
  have P : (2 : Int) ^ 30 = 1073741824 := by decide
  rw [P] at e3 e4
  have hv := e4 (e3.2 (by omega))
  have hh : 0 ≤ h := by
    obtain ⟨o1, o2, o3, o4⟩ := e2
    have : h * 18446744073709551616 + l = a * 1073741824 := hv
    omega
  obtain ⟨r, hr⟩ := isR_ex (vW h l) (by omega)
  rw [e1', Option.bind_some, root_end_eq h l r _ e2 hh hr, Option.bind_some]
  exact ⟨r, _, hv ▸ hr, rfl⟩
theorem isR_bd (r q : Int) (hr : isR r (q * 1073741824)) (q0 : 0 ≤ q) (q1 : q ≤ 1073741824) : q ≤ r ∧ r ≤ 1073741824 := by
  obtain ⟨r0, r1, r2⟩ := hr
  constructor
  · refine Int.not_lt.mp ?_
    intro h
    have a := Int.mul_nonneg (show 0 ≤ q - 1 - r by omega) (show 0 ≤ r by omega)
    have b := Int.mul_nonneg (show 0 ≤ q by omega) (show 0 ≤ q - 1 - r by omega)
    have c := Int.mul_nonneg (show 0 ≤ q by omega) (show 0 ≤ 1073741824 - q by omega)
    have e1 : (q - 1 - r) * r = q * r - r - r * r := by grind
    have e2 : q * (q - 1 - r) = q * q - q - q * r := by grind
    have e3 : q * (1073741824 - q) = q * 1073741824 - q * q := by grind
    omega
  · refine Int.not_lt.mp ?_
    intro h
    rcases r2 with z | z
    · omega
    · have a := Int.mul_nonneg (show 0 ≤ r - 1 - 1073741824 by omega) (show 0 ≤ r by omega)
      have e1 : (r - 1 - 1073741824) * r = r * r - r - 1073741824 * r := by grind
      omega
end Go.Proofs.Ytcalippagaaikaa
