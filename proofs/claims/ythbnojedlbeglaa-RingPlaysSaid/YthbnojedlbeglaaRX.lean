/-
  What the document's own Pop does to a row of samples.
-/
import Derived.Test.YthbnojedlbeglaaRG9
import Derived.Test.YthbnojedlbeglaaRW
set_option maxRecDepth 100000
set_option maxHeartbeats 4000000
set_option linter.unusedVariables false
set_option linter.unusedSimpArgs false
namespace Go.Proofs.Ythbnojedlbeglaa
open Go.Ab
def outF (g : Nat → Int) : Nat → Nat → Int
  | 0 => fun _ => 0
  | i + 1 => fun j => bif Nat.beq j i then g i else outF g i (0 + j)
theorem outF_get (g : Nat → Int) : ∀ (k j : Nat), j < k → outF g k j = g j
  | 0, j, h => by omega
  | k + 1, j, h => by
    unfold outF
    by_cases e : j = k
    · subst e
      rw [show Nat.beq j j = true from Nat.beq_refl j, cond_true]
    · rw [show Nat.beq j k = false from beq_false e, cond_false, Nat.zero_add]
      exact outF_get g k j (by omega)
theorem refpop_eq (upto size : Int) (n : Nat) (hor N0 N1 N2 N3 N4 : Int) (g0 g1 g2 g3 g4 g5 g6 g7 g8 : Nat → Int) (hn : n ≤ 150) (k : Nat) (hk : k ≤ n) (h1 : ∀ j, j < k → g0 j ≤ upto) (h2 : k < n → ¬ g0 k ≤ upto) :
    f_astrolaberef13_Pop upto size n hor N0 N1 N2 N3 N4 g0 g1 g2 g3 g4 g5 g6 g7 g8 true = some (k, size, k, n - k, true, if upto > hor then upto else hor, N0, N1, N2, N3, IntKind.wrap .i64 (N4 + Int.ofNat k), k, outF g0 k, outF g1 k, outF g2 k, outF g3 k, outF g4 k, outF g5 k, outF g6 k, outF g7 k, outF g8 k) := by
  unfold f_astrolaberef13_Pop K_astrolaberef13_Pop L_astrolaberef13_Pop_0
  refine loopK_inv (fun t d => ∃ i : Nat, i + t = k ∧ d = (upto, i, size, i, n - i, true, hor, N0, N1, N2, N3, N4, n, g0, g1, g2, g3, g4, g5, g6, g7, g8, i, outF g0 i, outF g1 i, outF g2 i, outF g3 i, outF g4 i, outF g5 i, outF g6 i, outF g7 i, outF g8 i)) ?_ 200 k _ (by omega) ⟨0, by omega, rfl⟩
  rintro t _ c ⟨i, hi, rfl⟩ hc
  unfold S_astrolaberef13_Pop_0
  by_cases hin : i < n
  · have e1 : decide (Int.ofNat (n - i) > 0) = true := by simp only [Int.ofNat_eq_natCast]; exact decide_eq_true (by omega)
    have e2 : inR 0 (n - i) = true := by unfold inR; simp only [Bool.and_eq_true, decide_eq_true_eq]; omega
    rcases Nat.eq_zero_or_pos t with ht | ht
    · obtain rfl : i = k := by omega
      simp only [e1, e2, decide_eq_false (h2 hin), cond_true, cond_false, Sum.elim_inl]
      by_cases hz : upto > hor
      · simp only [hz, decide_true, cond_true, if_true]
      · simp only [hz, decide_false, cond_false, if_false]
    · have e3 : Nat.ble ((i + 1) * 72) 140737488355328 = true := Nat.ble_eq_true_of_le (by omega)
      have e4 : inRe 1 (n - i) = true := by unfold inRe; simp only [Bool.and_eq_true, decide_eq_true_eq]; omega
      simp only [e1, e2, e3, e4, decide_eq_true (h1 i (by omega)), cond_true, Bool.and_true]
      exact hc (t - 1) _ (by omega) ⟨i + 1, by omega, rfl⟩
  · obtain rfl : i = k := by omega
    have e1 : decide (Int.ofNat (n - i) > 0) = false := by simp only [Int.ofNat_eq_natCast]; exact decide_eq_false (by omega)
    simp only [e1, cond_false, Sum.elim_inr]
    by_cases hz : upto > hor
    · simp only [hz, decide_true, cond_true, if_true]
    · simp only [hz, decide_false, cond_false, if_false]
end Go.Proofs.Ythbnojedlbeglaa
