/-
  A root, clamped, in plain arithmetic.
-/
import Derived.Test.YtcalippagaaikaaRTC
import Derived.Test.YtcalippagaaikaaE1
set_option maxRecDepth 100000
set_option maxHeartbeats 4000000
set_option linter.unusedVariables false
set_option linter.unusedSimpArgs false
namespace Go.Proofs.Ytcalippagaaikaa
open Go.Ab
theorem isR_ex (V : Int) (h : 0 ≤ V) : ∃ r, isR r V := by
  obtain ⟨q, q0, q1, q2⟩ := sqrt_exI V h
  have q3 : (q + 1) * (q + 1) = q * q + 2 * q + 1 := by grind
  by_cases c : q < V - q * q
  · exact ⟨q + 1, by omega, by omega, Or.inr (by omega)⟩
  · refine ⟨q, q0, by omega, ?_⟩
    rcases Int.lt_or_le 0 q with k | k
    · exact Or.inr (by omega)
    · exact Or.inl (by omega)
theorem root_end_eq (h l r : Int) (hit : Bool) (o : okW h l) (h0 : 0 ≤ h) (hr : isR r (vW h l)) : f_root_end h l hit = some (sat r, hit || over r) := by
  obtain ⟨r', e1, e2, e3⟩ := wide_root h l o h0
  have := isR_uniq hr e1
  subst this
  unfold f_root_end K_root_end
  rw [e3]
  by_cases c : r ≤ 9223372036854775807
  · rw [if_pos c, Option.bind_some]
    simp only [Bool.not_true, cond_false, acc_sat, Option.bind_some]
  · rw [if_neg c, Option.bind_some]
    simp only [Bool.not_false, cond_true, acc_sat, Option.bind_some]
    have a : sat r = sat 1152921504606846977 := by
      unfold sat
      rw [if_neg (by omega), if_pos (by omega), if_neg (by omega), if_pos (by omega)]
    have b : over r = over 1152921504606846977 := by
      unfold over
      rw [decide_eq_true (show 1152921504606846976 < r by omega), decide_eq_true (show (1152921504606846976 : Int) < 1152921504606846977 by omega), Bool.or_true, Bool.or_true]
    rw [a, b]
end Go.Proofs.Ytcalippagaaikaa
