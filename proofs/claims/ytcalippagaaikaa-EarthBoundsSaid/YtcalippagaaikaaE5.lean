/-
  Chapter 8: EarthRound.
-/
import Derived.Test.YtcalippagaaikaaE4
set_option maxRecDepth 100000
set_option maxHeartbeats 4000000
set_option linter.unusedVariables false
set_option linter.unusedSimpArgs false
namespace Go.Proofs.Ytcalippagaaikaa
open Go.Ab
theorem satI {x : Int} (h : -1152921504606846976 ≤ x ∧ x ≤ 1152921504606846976) : sat x = x := by
  unfold sat; rw [if_neg (by omega), if_neg (by omega)]
def GoodP (a b c : Int) : Prop := -900000000 ≤ a ∧ a ≤ 900000000 ∧ -1800000000 ≤ b ∧ b ≤ 1800000000 ∧ -100000000 ≤ c ∧ c ≤ 100000000
theorem good_yes {a b c : Int} (h : GoodP a b c) : f_earth_Good a b c = some true := by
  obtain ⟨h1, h2, h3, h4, h5, h6⟩ := h
  unfold f_earth_Good K_earth_Good
  rw [decide_eq_true (show a ≥ -900000000 from h1), decide_eq_true h2, decide_eq_true (show b ≥ -1800000000 from h3), decide_eq_true h4, decide_eq_true (show c ≥ -100000000 from h5), decide_eq_true h6]
  rfl
theorem good_p {a b c : Int} (h : f_earth_Good a b c = some true) : GoodP a b c := by
  unfold f_earth_Good K_earth_Good at h
  unfold GoodP
  by_cases c1 : a ≥ -900000000
  · by_cases c2 : a ≤ 900000000
    · by_cases c3 : b ≥ -1800000000
      · by_cases c4 : b ≤ 1800000000
        · by_cases c5 : c ≥ -100000000
          · by_cases c6 : c ≤ 100000000
            · omega
            · simp [c1, c2, c3, c4, c5, c6] at h
          · simp [c1, c2, c3, c4, c5] at h
        · simp [c1, c2, c3, c4] at h
      · simp [c1, c2, c3] at h
    · simp [c1, c2] at h
  · simp [c1] at h
def Post {α : Type} (Q : α → Prop) (x : Option α) : Prop := ∀ r, x = some r → Q r
theorem post_some {α : Type} {Q : α → Prop} {a : α} (h : Q a) : Post Q (some a) := by rintro r ⟨⟩; exact h
theorem post_bind {α β : Type} {Q : β → Prop} {x : Option α} {f : α → Option β} (g : ∀ a, Post Q (f a)) : Post Q (x.bind f) := by
  cases x with
  | none => intro r h; cases h
  | some a => exact g a
theorem post_cond {α : Type} {Q : α → Prop} (b : Bool) {x y : Option α} (hx : Post Q x) (hy : Post Q y) : Post Q (bif b then x else y) := by cases b <;> assumption
theorem new_sh (a b c : Int) : Post (fun r => r = Sum.inl () ∨ (GoodP a b c ∧ ∃ n e, r = Sum.inr (a, b, c, n, e))) (f_earth_New a b c) := by
  unfold f_earth_New K_earth_New
  obtain ⟨g, hg⟩ := t_good a b c
  rw [hg, Option.bind_some]
  cases g with
  | false => exact post_some (Or.inl rfl)
  | true =>
    have G := good_p hg
    rw [Bool.not_true, cond_false]
    repeat' with_reducible first
      | exact post_some (Or.inl rfl)
      | exact post_some (Or.inr ⟨G, _, _, rfl⟩)
      | refine post_bind fun _ => ?_
      | refine post_cond _ ?_ ?_
/-- a difference of longitudes, brought into the turn -/
def redL (d : Int) : Int := if d > 1800000000 then d - 3600000000 else if d ≤ -1800000000 then d + 3600000000 else d
theorem to_eq (x0 x1 x2 f0 f1 f2 f3 f4 : Int) (hit : Bool) (G : GoodP x0 x1 x2) (F1 : -1800000000 ≤ f1) (F2 : f1 ≤ 1800000000) :
    ∃ u, f___earth_Frame__To x0 x1 x2 f0 f1 f2 f3 f4 hit = some (sat (rnd (sat (IntKind.wrap .i64 (x0 - f0)) * sat f3) 10), sat (rnd (sat (redL (x1 - f1)) * sat f4) 10), sat (rdq (sat (IntKind.wrap .i64 (f2 - x2)) * sat 1073741824) (sat 1000)), 0, u) := by
  unfold f___earth_Frame__To K___earth_Frame__To
  rw [good_yes G, Option.bind_some, Bool.not_true, cond_false]
  obtain ⟨g1, g2, g3, g4, g5, g6⟩ := G
  have e1 : IntKind.wrap .i64 (x1 - f1) = x1 - f1 := wrap_i64 (by omega) (by omega)
  have e2 : IntKind.wrap .i64 (x1 - f1 - 3600000000) = x1 - f1 - 3600000000 := wrap_i64 (by omega) (by omega)
  have e3 : IntKind.wrap .i64 (x1 - f1 + 3600000000) = x1 - f1 + 3600000000 := wrap_i64 (by omega) (by omega)
  have m : ∀ a b hit, f___fx_Acc__Mul a b 10 hit = some (sat (rnd (sat a * sat b) 10), hit || over a || over b || over (rnd (sat a * sat b) 10)) := fun a b hit => acc_mul a b 10 hit (by omega)
  have nz : sat 1000 ≠ 0 := by decide
  rw [e1, e2, e3]
  unfold redL
  by_cases c : x1 - f1 > 1800000000
  · rw [if_pos c, decide_eq_true c, cond_true]
    simp only [m, Option.bind_some, acc_muldiv _ _ _ _ nz]
    exact ⟨_, rfl⟩
  · rw [if_neg c, decide_eq_false c, cond_false]
    by_cases d : x1 - f1 ≤ -1800000000
    · rw [if_pos d, decide_eq_true d, cond_true]
      simp only [m, Option.bind_some, acc_muldiv _ _ _ _ nz]
      exact ⟨_, rfl⟩
    · rw [if_neg d, decide_eq_false d, cond_false]
      simp only [m, Option.bind_some, acc_muldiv _ _ _ _ nz]
      exact ⟨_, rfl⟩
theorem red_ends (f : Int) (F1 : -1800000000 ≤ f) (F2 : f ≤ 1800000000) : redL (1800000000 - f) = redL (-1800000000 - f) := by
  unfold redL
  by_cases c : f < 0
  · rw [if_pos (by omega), if_neg (by omega), if_neg (by omega)]; omega
  · rw [if_neg (by omega), if_neg (by omega), if_neg (by omega), if_pos (by omega)]; omega
theorem d1_all (a b d : Int) (hit : Bool) (A : -1000000000000000 ≤ a ∧ a ≤ 1000000000000000) (B : -1000000000000000 ≤ b ∧ b ≤ 1000000000000000) (D : 0 < d ∧ d ≤ 1000000000) :
    ∃ u, f_earth_Declination_1 a b d d hit = some (b, u) := by
  unfold f_earth_Declination_1 K_earth_Declination_1
  have e1 : IntKind.wrap .i64 (b - a) = b - a := wrap_i64 (by omega) (by omega)
  have s1 : sat (b - a) = b - a := satI (by omega)
  have s2 : sat d = d := satI (by omega)
  rw [e1, acc_muldiv _ _ _ _ (by rw [s2]; omega), s1, s2, rdq_all _ _ D.1, s1, Option.bind_some]
  have e2 : IntKind.wrap .i64 (a + (b - a)) = b := by rw [wrap_i64 (by omega) (by omega)]; omega
  simp only [e2]
  exact ⟨_, rfl⟩
theorem d1_none (a b d : Int) (hit : Bool) (A : -1000000000000000 ≤ a ∧ a ≤ 1000000000000000) (B : -1000000000000000 ≤ b ∧ b ≤ 1000000000000000) (D : 0 < d ∧ d ≤ 1000000000) :
    ∃ u, f_earth_Declination_1 a b 0 d hit = some (a, u) := by
  unfold f_earth_Declination_1 K_earth_Declination_1
  have e1 : IntKind.wrap .i64 (b - a) = b - a := wrap_i64 (by omega) (by omega)
  have s1 : sat (b - a) = b - a := satI (by omega)
  have s2 : sat d = d := satI (by omega)
  rw [e1, acc_muldiv _ _ _ _ (by rw [s2]; omega), s1, s2, show sat 0 = 0 from rfl, Int.mul_zero, rdq_none _ D.1, show sat 0 = 0 from rfl, Option.bind_some]
  have e2 : IntKind.wrap .i64 (a + 0) = a := by rw [wrap_i64 (by omega) (by omega)]; omega
  simp only [e2]
  exact ⟨_, rfl⟩
theorem d2_end (a b c d e f g : Int) (hit : Bool) (F : -900000 ≤ f ∧ f ≤ 900000) (G : -900000 ≤ g ∧ g ≤ 900000) :
    ∃ u, f_earth_Declination_2 a b c d e f g 5 600000000 hit = some (g * 1073741824, u) := by
  have h : f_earth_Declination_2 a b c d e f g 5 600000000 hit = Option.bind (f_earth_Declination_1 (IntKind.wrap .i64 (f * 1073741824)) (IntKind.wrap .i64 (g * 1073741824)) 600000000 600000000 hit) fun d => some (d.1, d.2) := by kernel_rfl
  rw [h, wrap_i64 (n := f * 1073741824) (by omega) (by omega), wrap_i64 (n := g * 1073741824) (by omega) (by omega)]
  obtain ⟨u, hu⟩ := d1_all (f * 1073741824) (g * 1073741824) 600000000 hit (by omega) (by omega) (by omega)
  exact ⟨u, by rw [hu]; rfl⟩
theorem d2_start (a b c d e f g : Int) (hit : Bool) (F : -900000 ≤ a ∧ a ≤ 900000) (G : -900000 ≤ b ∧ b ≤ 900000) :
    ∃ u, f_earth_Declination_2 a b c d e f g 0 0 hit = some (a * 1073741824, u) := by
  have h : f_earth_Declination_2 a b c d e f g 0 0 hit = Option.bind (f_earth_Declination_1 (IntKind.wrap .i64 (a * 1073741824)) (IntKind.wrap .i64 (b * 1073741824)) 0 600000000 hit) fun d => some (d.1, d.2) := by kernel_rfl
  rw [h, wrap_i64 (n := a * 1073741824) (by omega) (by omega), wrap_i64 (n := b * 1073741824) (by omega) (by omega)]
  obtain ⟨u, hu⟩ := d1_none (a * 1073741824) (b * 1073741824) 600000000 hit (by omega) (by omega) (by omega)
  exact ⟨u, by rw [hu]; rfl⟩
end Go.Proofs.Ytcalippagaaikaa
