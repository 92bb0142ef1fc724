/-
  The automaton's functions of chapter 25, in plain words.
-/
import Derived.Test.YtgbgdihahmecoaaM2
set_option maxRecDepth 100000
set_option maxHeartbeats 4000000
set_option linter.unusedVariables false
set_option linter.unusedSimpArgs false
namespace Go.Proofs.Ytgbgdihahmecoaa
open Go.Ab
def goodF (m s : Int) (v h : Bool) : Prop := ((m = 0 ∨ m = 1) ∧ s = 0 ∧ v = false ∧ h = false) ∨ ((m = 2 ∨ m = 3) ∧ 1 ≤ s ∧ s ≤ 3 ∧ (v = true ∨ m = 2))
instance (m s : Int) (v h : Bool) : Decidable (goodF m s v h) := by unfold goodF; exact inferInstance
theorem mode_good (m s : Int) (v h : Bool) : f_mode_Good m s v h = some (decide (goodF m s v h)) := by
  unfold f_mode_Good K_mode_Good goodF
  by_cases h0 : m = 0
  · subst h0
    by_cases h1 : s = 0 <;> cases v <;> cases h <;> simp [Bool.cond_eq_ite, h1]
  · by_cases h1 : m = 1
    · subst h1
      by_cases h1 : s = 0 <;> cases v <;> cases h <;> simp [Bool.cond_eq_ite, h1]
    · by_cases h2 : m = 2
      · subst h2
        by_cases h3 : 1 ≤ s <;> by_cases h4 : s ≤ 3 <;> cases v <;> simp [Bool.cond_eq_ite, h3, h4]
      · by_cases h5 : m = 3
        · subst h5
          by_cases h3 : 1 ≤ s <;> by_cases h4 : s ≤ 3 <;> cases v <;> simp [Bool.cond_eq_ite, h3, h4]
        · simp [Bool.cond_eq_ite, h0, h1, h2, h5]
/-- the mode behind a step -/
def nextF (m : Int) (tilted headed aid : Bool) : Int := if m = 0 then (if tilted = true then 1 else 0) else if m = 1 ∧ headed = false then 1 else if aid = true then 3 else 2
theorem mode_next (m : Int) (a b u0 u1 u2 u3 u4 u5 : Bool) (x y z : Int) : f_mode_next m a b u0 u1 u2 u3 u4 u5 x y z = some (nextF m a b (u0 || u5)) := by
  unfold f_mode_next K_mode_next nextF
  by_cases h0 : m = 0
  · subst h0
    cases a <;> cases u0 <;> simp [Bool.cond_eq_ite]
  · by_cases h1 : m = 1
    · subst h1
      cases b <;> cases u0 <;> cases u5 <;> simp [Bool.cond_eq_ite]
    · cases u0 <;> cases u5 <;> simp [Bool.cond_eq_ite, h0, h1]
/-- the source of the height -/
def pickF (old : Int) (u0 u1 u2 : Bool) (p : Int) : Int × Bool :=
  if (p = 1 ∧ u1 = true) ∨ (p = 2 ∧ u0 = true) ∨ (p = 3 ∧ u2 = true) then (p, true)
  else if u1 = true then (1, true) else if u0 = true then (2, true) else if u2 = true then (3, true) else (if 1 > old then 1 else old, false)
theorem mode_pick (old : Int) (a b u0 u1 u2 u3 u4 u5 : Bool) (x y p : Int) : f_mode_source old a b u0 u1 u2 u3 u4 u5 x y p = some (pickF old u0 u1 u2 p) := by
  unfold f_mode_source K_mode_source pickF
  by_cases h1 : p = 1
  · subst h1
    cases u0 <;> cases u1 <;> cases u2 <;> simp [Bool.cond_eq_ite, f_mode_sensor, K_mode_sensor, inR]
  · by_cases h2 : p = 2
    · subst h2
      cases u0 <;> cases u1 <;> cases u2 <;> simp [Bool.cond_eq_ite, f_mode_sensor, K_mode_sensor, inR]
    · by_cases h3 : p = 3
      · subst h3
        cases u0 <;> cases u1 <;> cases u2 <;> simp [Bool.cond_eq_ite, f_mode_sensor, K_mode_sensor, inR]
      · have h4 : ¬ (1 ≤ p ∧ p ≤ 3) := by omega
        by_cases h5 : 1 ≤ p
        · have h6 : ¬ p ≤ 3 := by omega
          cases u0 <;> cases u1 <;> cases u2 <;> simp [Bool.cond_eq_ite, h1, h2, h3, h5, h6]
        · cases u0 <;> cases u1 <;> cases u2 <;> simp [Bool.cond_eq_ite, h1, h2, h3, h5]
/-- a step -/
def stepF (m s : Int) (a b u0 u1 u2 u5 : Bool) (since limit p : Int) : Int × Int × Bool × Bool × Int × Int :=
  if 2 ≤ nextF m a b (u0 || u5) then
    (nextF m a b (u0 || u5), (pickF s u0 u1 u2 p).1, decide (nextF m a b (u0 || u5) = 3 ∨ (0 ≤ since ∧ since ≤ limit)), !(pickF s u0 u1 u2 p).2, m, s)
  else (nextF m a b (u0 || u5), 0, false, false, m, s)
theorem mode_step (m s : Int) (v h a b u0 u1 u2 u3 u4 u5 : Bool) (x y p : Int) :
    f_mode_Step m s v h a b u0 u1 u2 u3 u4 u5 x y p = some (if goodF m s v h then stepF m s a b u0 u1 u2 u5 x y p else stepF 0 0 a b u0 u1 u2 u5 x y p) := by
  unfold f_mode_Step K_mode_Step
  simp only [mode_good, mode_next, mode_pick, Option.bind_some]
  have key : ∀ m s : Int, (bif decide (nextF m a b (u0 || u5) ≥ 2) then
      bif nextF m a b (u0 || u5) == 3 then some (nextF m a b (u0 || u5), (pickF s u0 u1 u2 p).1, true, !(pickF s u0 u1 u2 p).2, m, s) else bif decide (x ≥ 0) then some (nextF m a b (u0 || u5), (pickF s u0 u1 u2 p).1, decide (x ≤ y), !(pickF s u0 u1 u2 p).2, m, s) else some (nextF m a b (u0 || u5), (pickF s u0 u1 u2 p).1, false, !(pickF s u0 u1 u2 p).2, m, s)
      else some (nextF m a b (u0 || u5), 0, false, false, m, s)) = some (stepF m s a b u0 u1 u2 u5 x y p) := by
    intro m s
    unfold stepF
    by_cases h1 : nextF m a b (u0 || u5) ≥ 2
    · by_cases h2 : nextF m a b (u0 || u5) = 3
      · simp [Bool.cond_eq_ite, h2]
      · by_cases h3 : x ≥ 0 <;> simp [Bool.cond_eq_ite, h1, h2, h3]
    · simp [Bool.cond_eq_ite, h1]
  by_cases hg : goodF m s v h
  · simp only [hg, decide_true, Bool.not_true, cond_false, if_true]; exact key m s
  · simp only [hg, decide_false, Bool.not_false, cond_true, if_false]; exact key 0 0
theorem mode_awake : f_astrolabelaw25_awake = some true := by kernel_rfl
end Go.Proofs.Ytgbgdihahmecoaa
