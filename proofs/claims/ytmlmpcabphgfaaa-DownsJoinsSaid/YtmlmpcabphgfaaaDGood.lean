/-
  The same answer of both about one sample: may it be?
-/
import Derived.Test.YtmlmpcabphgfaaaDSplits
import Derived.Test.YtmlmpcabphgfaaaD5
set_option maxRecDepth 100000
set_option maxHeartbeats 4000000
set_option linter.unusedVariables false
set_option linter.unusedSimpArgs false
namespace Go.Proofs.Ytmlmpcabphgfaaa
open Go.Ab
theorem good_iff (t d a0 a1 a2 v0 v1 v2 : Int) : ∃ b, f_downs_Good t d a0 a1 a2 v0 v1 v2 = some b ∧ (b = true ↔ okG t d a0 a1 a2 v0 v1 v2) := by
  unfold f_downs_Good K_downs_Good
  obtain ⟨y0, e0, h0⟩ := abs_35 a0
  obtain ⟨y1, e1, h1⟩ := abs_35 a1
  obtain ⟨y2, e2, h2⟩ := abs_35 a2
  obtain ⟨z0, g0, k0⟩ := abs_35 v0
  obtain ⟨z1, g1, k1⟩ := abs_35 v1
  obtain ⟨z2, g2, k2⟩ := abs_35 v2
  simp only [e0, e1, e2, g0, g1, g2, Option.bind_some]
  by_cases p0 : y0 > 34359738368
  · rw [decide_eq_true p0, cond_true]; exact ⟨_, rfl, iff_of_false Bool.false_ne_true fun h => h0.1 p0 h.1⟩
  rw [decide_eq_false p0, cond_false]
  by_cases q0 : z0 > 34359738368
  · rw [decide_eq_true q0, cond_true]; exact ⟨_, rfl, iff_of_false Bool.false_ne_true fun h => k0.1 q0 h.2.2.2.1⟩
  rw [decide_eq_false q0, cond_false]
  by_cases p1 : y1 > 34359738368
  · rw [decide_eq_true p1, cond_true]; exact ⟨_, rfl, iff_of_false Bool.false_ne_true fun h => h1.1 p1 h.2.1⟩
  rw [decide_eq_false p1, cond_false]
  by_cases q1 : z1 > 34359738368
  · rw [decide_eq_true q1, cond_true]; exact ⟨_, rfl, iff_of_false Bool.false_ne_true fun h => k1.1 q1 h.2.2.2.2.1⟩
  rw [decide_eq_false q1, cond_false]
  by_cases p2 : y2 > 34359738368
  · rw [decide_eq_true p2, cond_true]; exact ⟨_, rfl, iff_of_false Bool.false_ne_true fun h => h2.1 p2 h.2.2.1⟩
  rw [decide_eq_false p2, cond_false]
  by_cases q2 : z2 > 34359738368
  · rw [decide_eq_true q2, cond_true]; exact ⟨_, rfl, iff_of_false Bool.false_ne_true fun h => k2.1 q2 h.2.2.2.2.2.1⟩
  rw [decide_eq_false q2, cond_false]
  by_cases c1 : d ≥ 1
  · rw [decide_eq_true c1, cond_true]
    by_cases c2 : d ≤ 100000
    · rw [decide_eq_true c2, cond_true]
      by_cases c3 : t ≥ 0
      · rw [decide_eq_true c3, cond_true]
        by_cases c4 : t ≤ 1125899906842624
        · rw [decide_eq_true c4]
          exact ⟨_, rfl, iff_of_true rfl ⟨by omega, by omega, by omega, by omega, by omega, by omega, by omega, by omega⟩⟩
        · rw [decide_eq_false c4]; exact ⟨_, rfl, iff_of_false Bool.false_ne_true fun h => c4 h.2.2.2.2.2.2.2.2⟩
      · rw [decide_eq_false c3, cond_false]; exact ⟨_, rfl, iff_of_false Bool.false_ne_true fun h => c3 h.2.2.2.2.2.2.2.1⟩
    · rw [decide_eq_false c2, cond_false]; exact ⟨_, rfl, iff_of_false Bool.false_ne_true fun h => c2 h.2.2.2.2.2.2.1.2⟩
  · rw [decide_eq_false c1, cond_false]; exact ⟨_, rfl, iff_of_false Bool.false_ne_true fun h => c1 h.2.2.2.2.2.2.1.1⟩
theorem goodR_iff (t d a0 a1 a2 v0 v1 v2 : Int) : ∃ b, f_astrolaberef13_Good t d a0 a1 a2 v0 v1 v2 = some b ∧ (b = true ↔ okG t d a0 a1 a2 v0 v1 v2) := by
  unfold f_astrolaberef13_Good K_astrolaberef13_Good
  by_cases c1 : d < 1
  · rw [decide_eq_true c1, cond_true]; exact ⟨_, rfl, iff_of_false Bool.false_ne_true fun h => by omega⟩
  rw [decide_eq_false c1, cond_false]
  by_cases c2 : d > 100000
  · rw [decide_eq_true c2, cond_true]; exact ⟨_, rfl, iff_of_false Bool.false_ne_true fun h => by omega⟩
  rw [decide_eq_false c2, cond_false]
  by_cases c3 : t < 0
  · rw [decide_eq_true c3, cond_true]; exact ⟨_, rfl, iff_of_false Bool.false_ne_true fun h => by omega⟩
  rw [decide_eq_false c3, cond_false]
  by_cases c4 : t > 1125899906842624
  · rw [decide_eq_true c4, cond_true]; exact ⟨_, rfl, iff_of_false Bool.false_ne_true fun h => by omega⟩
  rw [decide_eq_false c4, cond_false]
  by_cases k1 : a0 < -34359738368
  · rw [decide_eq_true k1, cond_true]; exact ⟨_, rfl, iff_of_false Bool.false_ne_true fun h => by omega⟩
  rw [decide_eq_false k1, cond_false]
  by_cases k2 : a0 > 34359738368
  · rw [decide_eq_true k2, cond_true]; exact ⟨_, rfl, iff_of_false Bool.false_ne_true fun h => by omega⟩
  rw [decide_eq_false k2, cond_false]
  by_cases k3 : v0 < -34359738368
  · rw [decide_eq_true k3, cond_true]; exact ⟨_, rfl, iff_of_false Bool.false_ne_true fun h => by omega⟩
  rw [decide_eq_false k3, cond_false]
  by_cases k4 : v0 > 34359738368
  · rw [decide_eq_true k4, cond_true]; exact ⟨_, rfl, iff_of_false Bool.false_ne_true fun h => by omega⟩
  rw [decide_eq_false k4, cond_false]
  by_cases m1 : a1 < -34359738368
  · rw [decide_eq_true m1, cond_true]; exact ⟨_, rfl, iff_of_false Bool.false_ne_true fun h => by omega⟩
  rw [decide_eq_false m1, cond_false]
  by_cases m2 : a1 > 34359738368
  · rw [decide_eq_true m2, cond_true]; exact ⟨_, rfl, iff_of_false Bool.false_ne_true fun h => by omega⟩
  rw [decide_eq_false m2, cond_false]
  by_cases m3 : v1 < -34359738368
  · rw [decide_eq_true m3, cond_true]; exact ⟨_, rfl, iff_of_false Bool.false_ne_true fun h => by omega⟩
  rw [decide_eq_false m3, cond_false]
  by_cases m4 : v1 > 34359738368
  · rw [decide_eq_true m4, cond_true]; exact ⟨_, rfl, iff_of_false Bool.false_ne_true fun h => by omega⟩
  rw [decide_eq_false m4, cond_false]
  by_cases n1 : a2 < -34359738368
  · rw [decide_eq_true n1, cond_true]; exact ⟨_, rfl, iff_of_false Bool.false_ne_true fun h => by omega⟩
  rw [decide_eq_false n1, cond_false]
  by_cases n2 : a2 > 34359738368
  · rw [decide_eq_true n2, cond_true]; exact ⟨_, rfl, iff_of_false Bool.false_ne_true fun h => by omega⟩
  rw [decide_eq_false n2, cond_false]
  by_cases n3 : v2 < -34359738368
  · rw [decide_eq_true n3, cond_true]; exact ⟨_, rfl, iff_of_false Bool.false_ne_true fun h => by omega⟩
  rw [decide_eq_false n3, cond_false]
  by_cases n4 : v2 > 34359738368
  · rw [decide_eq_true n4, cond_true]; exact ⟨_, rfl, iff_of_false Bool.false_ne_true fun h => by omega⟩
  rw [decide_eq_false n4, cond_false]
  exact ⟨_, rfl, iff_of_true rfl ⟨by omega, by omega, by omega, by omega, by omega, by omega, by omega, by omega⟩⟩
/-- both say the same -/
theorem good_both (t d a0 a1 a2 v0 v1 v2 : Int) : (f_downs_Good t d a0 a1 a2 v0 v1 v2 = some true ∧ f_astrolaberef13_Good t d a0 a1 a2 v0 v1 v2 = some true ∧ okG t d a0 a1 a2 v0 v1 v2) ∨
    (f_downs_Good t d a0 a1 a2 v0 v1 v2 = some false ∧ f_astrolaberef13_Good t d a0 a1 a2 v0 v1 v2 = some false) := by
  obtain ⟨b, e, h⟩ := good_iff t d a0 a1 a2 v0 v1 v2
  obtain ⟨b', e', h'⟩ := goodR_iff t d a0 a1 a2 v0 v1 v2
  cases b with
  | true => exact .inl ⟨e, e'.trans (congrArg some (h'.2 (h.1 rfl))), h.1 rfl⟩
  | false =>
    right
    refine ⟨e, e'.trans (congrArg some ?_)⟩
    cases b' with
    | false => rfl
    | true => exact (h.2 (h'.1 rfl)).symm
end Go.Proofs.Ytmlmpcabphgfaaa
