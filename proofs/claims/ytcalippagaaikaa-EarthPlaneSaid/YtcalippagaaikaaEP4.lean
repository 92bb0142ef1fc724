/-
  Texts put together: E4 E5 E7 E8 E6 E9 E10 E11 E12 E13 E14
-/
import Derived.Test.YtcalippagaaikaaEP3
/-
  Chapter 8: what always answers, and the declination at the two ends of the turn.
-/
section
set_option maxRecDepth 100000
set_option maxHeartbeats 4000000
set_option linter.unusedVariables false
set_option linter.unusedSimpArgs false
namespace Go.Proofs.Ytcalippagaaikaa
open Go.Ab
def Tot {α : Type} (x : Option α) : Prop := ∃ a, x = some a
theorem tot_some {α : Type} (a : α) : Tot (some a) := ⟨a, rfl⟩
theorem tot_eq {α : Type} {x : Option α} {a : α} (h : x = some a) : Tot x := ⟨a, h⟩
theorem tot_bind {α β : Type} {x : Option α} {f : α → Option β} (h : Tot x) (g : ∀ a, Tot (f a)) : Tot (x.bind f) := by
  obtain ⟨a, rfl⟩ := h; exact g a
theorem tot_cond {α : Type} (b : Bool) {x y : Option α} (hx : Tot x) (hy : Tot y) : Tot (bif b then x else y) := by cases b <;> assumption
theorem loopK_tot {D X ρ : Type} {s : D → (D → Option ρ) → (X → Option ρ) → Option ρ} {k : X → Option ρ} (Inv : Nat → D → Prop)
    (h : ∀ t d c, Inv t d → (∀ t' d', t' < t → Inv t' d' → Tot (c d')) → Tot (s d c k)) : ∀ (fuel t : Nat) (d : D), t < fuel → Inv t d → Tot (loopK s fuel d k)
  | 0, t, d, hf, hd => by omega
  | fuel + 1, t, d, hf, hd => by
    rw [loopK_succ]
    exact h t d _ hd fun t' d' ht hd' => loopK_tot Inv h fuel t' d' (by omega) hd'
theorem t_sat (x : Int) (hit : Bool) : Tot (f___fx_Acc__Sat x hit) := tot_eq (acc_sat x hit)
theorem t_sign (b : Bool) : Tot (f_fx_sign b) := by cases b <;> exact ⟨_, rfl⟩
theorem t_by (h l d : Int) (hit : Bool) (o : okW h l) (d0 : -9223372036854775808 ≤ d) (d1 : d ≤ 9223372036854775807) : Tot (f___fx_Acc__by h l d hit) := by
  by_cases z : d = 0
  · subst z
    unfold f___fx_Acc__by K___fx_Acc__by
    rw [show ((0 : Int) == 0) = true from rfl, cond_true]
    exact tot_cond _ (tot_some _) (tot_bind (t_sign _) fun _ => tot_some _)
  · exact tot_eq (acc_by h l d hit o d0 d1 z)
theorem t_muldiv (a b d : Int) (hit : Bool) : Tot (f___fx_Acc__MulDiv a b d hit) := by
  unfold f___fx_Acc__MulDiv K___fx_Acc__MulDiv
  have := sat_le a
  have := sat_le b
  have := sat_le d
  obtain ⟨h, l, e1, e2, e3⟩ := wide_mul (sat a) (sat b) (by omega) (by omega) (by omega) (by omega)
  simp only [acc_sat, Option.bind_some, e1]
  exact tot_bind (t_by h l _ _ e2 (by omega) (by omega)) fun _ => tot_some _
theorem t_div30 (a b : Int) (hit : Bool) : Tot (f___fx_Acc__Div a b 30 hit) := by
  unfold f___fx_Acc__Div K___fx_Acc__Div
  have := sat_le a
  have := sat_le b
  obtain ⟨h, l, v, e1, e2, e3, e4⟩ := wide_shift (sat a) 30 (by omega) (by omega) (by omega)
  have e1' : f_wide_Shift (sat a) 30 = some (h, l, v) := e1
  rw [show decide ((30 : Int) < 0) = false from rfl, show decide ((30 : Int) > 66) = false from rfl]
  simp only [acc_sat, Option.bind_some, cond_false, e1']
  exact tot_bind (t_by h l _ _ e2 (by omega) (by omega)) fun _ => tot_some _
theorem t_mul30 (a b : Int) (hit : Bool) : Tot (f___fx_Acc__Mul a b 30 hit) := tot_eq (acc_mul a b 30 hit (by omega))
theorem t_mul10 (a b : Int) (hit : Bool) : Tot (f___fx_Acc__Mul a b 10 hit) := tot_eq (acc_mul a b 10 hit (by omega))
theorem t_m (a b : Int) (hit : Bool) : Tot (f_trig_m a b hit) := by
  unfold f_trig_m K_trig_m
  exact tot_bind (t_mul30 _ _ _) fun _ => tot_some _
theorem t_new1 (a b : Int) (hit : Bool) : Tot (f_earth_New_1 a b hit) := by
  unfold f_earth_New_1 K_earth_New_1
  exact tot_bind (t_mul30 _ _ _) fun _ => tot_some _
theorem t_sqrt (a : Int) (hit : Bool) : Tot (f_root_Sqrt a hit) := by
  unfold f_root_Sqrt K_root_Sqrt
  have := sat_le a
  rw [acc_sat, Option.bind_some]
  by_cases c : sat a < 0
  · simp only [decide_eq_true c, cond_true]; exact tot_some _
  · simp only [decide_eq_false c, cond_false]
    obtain ⟨h, l, v, e1, e2, e3, e4, e5⟩ := wide_shift (sat a) 30 (by omega) (by omega) (by omega)
    have e1' : f_wide_Shift (sat a) 30 = some (h, l, v) := e1
    have P : (2 : Int) ^ 30 = 1073741824 := by decide
    rw [P] at e3 e4
    have hv := e4 (e3.2 (by omega))
    have h0 : 0 ≤ h := by
      obtain ⟨o1, o2, o3, o4⟩ := e2
      have : h * 18446744073709551616 + l = sat a * 1073741824 := hv
      omega
    obtain ⟨r, hr⟩ := isR_ex (vW h l) (by omega)
    rw [e1', Option.bind_some]
    exact tot_bind (tot_eq (root_end_eq h l r _ e2 h0 hr)) fun _ => tot_some _
theorem t_series (x : Int) (n : Nat) (hit : Bool) (P : Nat → Int) (w : Bool) (h1 : 1 ≤ n) (h2 : n ≤ 150) : Tot (f_trig_series x n hit P w) := by
  unfold f_trig_series K_trig_series
  have e1 : inR 0 n = true := by simp only [inR, Bool.and_eq_true, decide_eq_true_eq]; omega
  have e2 : inRe 1 n = true := by simp only [inRe, Bool.and_eq_true, decide_eq_true_eq]; omega
  rw [e1, cond_true, e2, cond_true]
  unfold L_trig_series_0
  refine loopK_tot (fun t d => ∃ (i : Nat) (v : Int) (b : Bool), i + t + 1 = n ∧ d = (x, v, n - 1, w && true, Int.ofNat (n - 1), Int.ofNat i, b, n, P)) ?_ 200 (n - 1) _ (by omega)
    ⟨0, P 0, hit, by omega, by cases w <;> rfl⟩
  rintro t _ c ⟨i, v, b, hi, rfl⟩ hc
  unfold S_trig_series_0
  by_cases z : t = 0
  · have e : decide (Int.ofNat i < Int.ofNat (n - 1)) = false := decide_eq_false (by simp only [Int.ofNat_eq_natCast]; omega)
    simp only [e, cond_false]
    exact tot_some _
  · have e : decide (Int.ofNat i < Int.ofNat (n - 1)) = true := decide_eq_true (by simp only [Int.ofNat_eq_natCast]; omega)
    have e3 : inR (Int.ofNat i) (n - 1) = true := by simp only [inR, Bool.and_eq_true, decide_eq_true_eq, Int.ofNat_eq_natCast]; omega
    have e4 : IntKind.wrap .i64 (Int.ofNat i + 1) = Int.ofNat (i + 1) := by
      rw [wrap_i64 (by simp only [Int.ofNat_eq_natCast]; omega) (by simp only [Int.ofNat_eq_natCast]; omega)]; rfl
    simp only [e, cond_true, e3, e4]
    refine tot_bind (t_m _ _ _) fun a => tot_bind (tot_eq (acc_add 2 (by omega) _ _ _)) fun a' => ?_
    exact hc (t - 1) _ (by omega) ⟨i + 1, _, _, by omega, rfl⟩
theorem t_wrap (x : Int) : Tot (f_trig_Wrap x) := by
  unfold f_trig_Wrap K_trig_Wrap
  exact tot_cond _ (tot_some _) (tot_cond _ (tot_some _) (tot_some _))
theorem t_abs (x : Int) : Tot (f_fx_Abs x) := by
  unfold f_fx_Abs K_fx_Abs
  exact tot_cond _ (tot_some _) (tot_cond _ (tot_some _) (tot_cond _ (tot_some _) (tot_some _)))
theorem t_sin (x : Int) (hit : Bool) : Tot (f_trig_Sin x hit) := by
  unfold f_trig_Sin K_trig_Sin
  repeat' with_reducible first
    | exact tot_some _
    | exact t_sat _ _
    | exact t_wrap _
    | exact t_abs _
    | exact t_m _ _ _
    | exact t_series _ _ _ _ _ (by decide) (by decide)
    | refine tot_bind ?_ fun _ => ?_
    | refine tot_cond _ ?_ ?_
theorem t_cos (x : Int) (hit : Bool) : Tot (f_trig_Cos x hit) := by
  unfold f_trig_Cos K_trig_Cos
  exact tot_bind (t_wrap _) fun _ => tot_bind (t_sin _ _) fun _ => tot_some _
theorem t_good (a b c : Int) : Tot (f_earth_Good a b c) := by
  unfold f_earth_Good K_earth_Good
  repeat' with_reducible first
    | exact tot_some _
    | refine tot_cond _ ?_ ?_
theorem t_new (a b c : Int) : Tot (f_earth_New a b c) := by
  unfold f_earth_New K_earth_New
  repeat' with_reducible first
    | exact tot_some _
    | exact t_good _ _ _
    | exact t_muldiv _ _ _ _
    | exact t_sin _ _
    | exact t_cos _ _
    | exact t_new1 _ _ _
    | exact t_sqrt _ _
    | exact t_div30 _ _ _
    | refine tot_bind ?_ fun _ => ?_
    | refine tot_cond _ ?_ ?_
end Go.Proofs.Ytcalippagaaikaa
end
/-
  Chapter 8: EarthRound.
-/
section
set_option maxRecDepth 100000
set_option maxHeartbeats 4000000
set_option linter.unusedVariables false
set_option linter.unusedSimpArgs false
namespace Go.Proofs.Ytcalippagaaikaa
open Go.Ab
theorem satI {x : Int} (h : -1152921504606846976 ≤ x ∧ x ≤ 1152921504606846976) : sat x = x := by
  unfold sat; rw [if_neg (by omega), if_neg (by omega)]
def GoodP (a b c : Int) : Prop := -900000000 ≤ a ∧ a ≤ 900000000 ∧ -1800000000 ≤ b ∧ b ≤ 1800000000 ∧ -100000000 ≤ c ∧ c ≤ 100000000
theorem good_yes {a b c : Int} (h : GoodP a b c) : f_earth_Good a b c = some true := by
  obtain ⟨h1, h2, h3, h4, h5, h6⟩ := h
  unfold f_earth_Good K_earth_Good
  rw [decide_eq_true (show a ≥ -900000000 from h1), decide_eq_true h2, decide_eq_true (show b ≥ -1800000000 from h3), decide_eq_true h4, decide_eq_true (show c ≥ -100000000 from h5), decide_eq_true h6]
  rfl
theorem good_p {a b c : Int} (h : f_earth_Good a b c = some true) : GoodP a b c := by
  unfold f_earth_Good K_earth_Good at h
  unfold GoodP
  by_cases c1 : a ≥ -900000000
  · by_cases c2 : a ≤ 900000000
    · by_cases c3 : b ≥ -1800000000
      · by_cases c4 : b ≤ 1800000000
        · by_cases c5 : c ≥ -100000000
          · by_cases c6 : c ≤ 100000000
            · omega
            · simp [c1, c2, c3, c4, c5, c6] at h
          · simp [c1, c2, c3, c4, c5] at h
        · simp [c1, c2, c3, c4] at h
      · simp [c1, c2, c3] at h
    · simp [c1, c2] at h
  · simp [c1] at h
def Post {α : Type} (Q : α → Prop) (x : Option α) : Prop := ∀ r, x = some r → Q r
theorem post_some {α : Type} {Q : α → Prop} {a : α} (h : Q a) : Post Q (some a) := by rintro r ⟨⟩; exact h
theorem post_bind {α β : Type} {Q : β → Prop} {x : Option α} {f : α → Option β} (g : ∀ a, Post Q (f a)) : Post Q (x.bind f) := by
  cases x with
  | none => intro r h; cases h
  | some a => exact g a
theorem post_cond {α : Type} {Q : α → Prop} (b : Bool) {x y : Option α} (hx : Post Q x) (hy : Post Q y) : Post Q (bif b then x else y) := by cases b <;> assumption
theorem new_sh (a b c : Int) : Post (fun r => r = Sum.inl () ∨ (GoodP a b c ∧ ∃ n e, r = Sum.inr (a, b, c, n, e))) (f_earth_New a b c) := by
  unfold f_earth_New K_earth_New
  obtain ⟨g, hg⟩ := t_good a b c
  rw [hg, Option.bind_some]
  cases g with
  | false => exact post_some (Or.inl rfl)
  | true =>
    have G := good_p hg
    rw [Bool.not_true, cond_false]
    repeat' with_reducible first
      | exact post_some (Or.inl rfl)
      | exact post_some (Or.inr ⟨G, _, _, rfl⟩)
      | refine post_bind fun _ => ?_
      | refine post_cond _ ?_ ?_
/-- a difference of longitudes, brought into the turn -/
def redL (d : Int) : Int := if d > 1800000000 then d - 3600000000 else if d ≤ -1800000000 then d + 3600000000 else d
theorem to_eq (x0 x1 x2 f0 f1 f2 f3 f4 : Int) (hit : Bool) (G : GoodP x0 x1 x2) (F1 : -1800000000 ≤ f1) (F2 : f1 ≤ 1800000000) :
    ∃ u, f___earth_Frame__To x0 x1 x2 f0 f1 f2 f3 f4 hit = some (sat (rnd (sat (IntKind.wrap .i64 (x0 - f0)) * sat f3) 10), sat (rnd (sat (redL (x1 - f1)) * sat f4) 10), sat (rdq (sat (IntKind.wrap .i64 (f2 - x2)) * sat 1073741824) (sat 1000)), 0, u) := by
  unfold f___earth_Frame__To K___earth_Frame__To
  rw [good_yes G, Option.bind_some, Bool.not_true, cond_false]
  obtain ⟨g1, g2, g3, g4, g5, g6⟩ := G
  have e1 : IntKind.wrap .i64 (x1 - f1) = x1 - f1 := wrap_i64 (by omega) (by omega)
  have e2 : IntKind.wrap .i64 (x1 - f1 - 3600000000) = x1 - f1 - 3600000000 := wrap_i64 (by omega) (by omega)
  have e3 : IntKind.wrap .i64 (x1 - f1 + 3600000000) = x1 - f1 + 3600000000 := wrap_i64 (by omega) (by omega)
  have m : ∀ a b hit, f___fx_Acc__Mul a b 10 hit = some (sat (rnd (sat a * sat b) 10), hit || over a || over b || over (rnd (sat a * sat b) 10)) := fun a b hit => acc_mul a b 10 hit (by omega)
  have nz : sat 1000 ≠ 0 := by decide
  rw [e1, e2, e3]
  unfold redL
  by_cases c : x1 - f1 > 1800000000
  · rw [if_pos c, decide_eq_true c, cond_true]
    simp only [m, Option.bind_some, acc_muldiv _ _ _ _ nz]
    exact ⟨_, rfl⟩
  · rw [if_neg c, decide_eq_false c, cond_false]
    by_cases d : x1 - f1 ≤ -1800000000
    · rw [if_pos d, decide_eq_true d, cond_true]
      simp only [m, Option.bind_some, acc_muldiv _ _ _ _ nz]
      exact ⟨_, rfl⟩
    · rw [if_neg d, decide_eq_false d, cond_false]
      simp only [m, Option.bind_some, acc_muldiv _ _ _ _ nz]
      exact ⟨_, rfl⟩
theorem red_ends (f : Int) (F1 : -1800000000 ≤ f) (F2 : f ≤ 1800000000) : redL (1800000000 - f) = redL (-1800000000 - f) := by
  unfold redL
  by_cases c : f < 0
  · rw [if_pos (by omega), if_neg (by omega), if_neg (by omega)]; omega
  · rw [if_neg (by omega), if_neg (by omega), if_neg (by omega), if_pos (by omega)]; omega
theorem d1_all (a b d : Int) (hit : Bool) (A : -1000000000000000 ≤ a ∧ a ≤ 1000000000000000) (B : -1000000000000000 ≤ b ∧ b ≤ 1000000000000000) (D : 0 < d ∧ d ≤ 1000000000) :
    ∃ u, f_earth_Declination_1 a b d d hit = some (b, u) := by
  unfold f_earth_Declination_1 K_earth_Declination_1
  have e1 : IntKind.wrap .i64 (b - a) = b - a := wrap_i64 (by omega) (by omega)
  have s1 : sat (b - a) = b - a := satI (by omega)
  have s2 : sat d = d := satI (by omega)
  rw [e1, acc_muldiv _ _ _ _ (by rw [s2]; omega), s1, s2, rdq_all _ _ D.1, s1, Option.bind_some]
  have e2 : IntKind.wrap .i64 (a + (b - a)) = b := by rw [wrap_i64 (by omega) (by omega)]; omega
  simp only [e2]
  exact ⟨_, rfl⟩
theorem d1_none (a b d : Int) (hit : Bool) (A : -1000000000000000 ≤ a ∧ a ≤ 1000000000000000) (B : -1000000000000000 ≤ b ∧ b ≤ 1000000000000000) (D : 0 < d ∧ d ≤ 1000000000) :
    ∃ u, f_earth_Declination_1 a b 0 d hit = some (a, u) := by
  unfold f_earth_Declination_1 K_earth_Declination_1
  have e1 : IntKind.wrap .i64 (b - a) = b - a := wrap_i64 (by omega) (by omega)
  have s1 : sat (b - a) = b - a := satI (by omega)
  have s2 : sat d = d := satI (by omega)
  rw [e1, acc_muldiv _ _ _ _ (by rw [s2]; omega), s1, s2, show sat 0 = 0 from rfl, Int.mul_zero, rdq_none _ D.1, show sat 0 = 0 from rfl, Option.bind_some]
  have e2 : IntKind.wrap .i64 (a + 0) = a := by rw [wrap_i64 (by omega) (by omega)]; omega
  simp only [e2]
  exact ⟨_, rfl⟩
theorem d2_end (a b c d e f g : Int) (hit : Bool) (F : -900000 ≤ f ∧ f ≤ 900000) (G : -900000 ≤ g ∧ g ≤ 900000) :
    ∃ u, f_earth_Declination_2 a b c d e f g 5 600000000 hit = some (g * 1073741824, u) := by
  have h : f_earth_Declination_2 a b c d e f g 5 600000000 hit = Option.bind (f_earth_Declination_1 (IntKind.wrap .i64 (f * 1073741824)) (IntKind.wrap .i64 (g * 1073741824)) 600000000 600000000 hit) fun d => some (d.1, d.2) := by kernel_rfl
  rw [h, wrap_i64 (n := f * 1073741824) (by omega) (by omega), wrap_i64 (n := g * 1073741824) (by omega) (by omega)]
  obtain ⟨u, hu⟩ := d1_all (f * 1073741824) (g * 1073741824) 600000000 hit (by omega) (by omega) (by omega)
  exact ⟨u, by rw [hu]; rfl⟩
theorem d2_start (a b c d e f g : Int) (hit : Bool) (F : -900000 ≤ a ∧ a ≤ 900000) (G : -900000 ≤ b ∧ b ≤ 900000) :
    ∃ u, f_earth_Declination_2 a b c d e f g 0 0 hit = some (a * 1073741824, u) := by
  have h : f_earth_Declination_2 a b c d e f g 0 0 hit = Option.bind (f_earth_Declination_1 (IntKind.wrap .i64 (a * 1073741824)) (IntKind.wrap .i64 (b * 1073741824)) 0 600000000 hit) fun d => some (d.1, d.2) := by kernel_rfl
  rw [h, wrap_i64 (n := a * 1073741824) (by omega) (by omega), wrap_i64 (n := b * 1073741824) (by omega) (by omega)]
  obtain ⟨u, hu⟩ := d1_none (a * 1073741824) (b * 1073741824) 600000000 hit (by omega) (by omega) (by omega)
  exact ⟨u, by rw [hu]; rfl⟩
end Go.Proofs.Ytcalippagaaikaa
end
/-
  Chapter 8: bounds of the frame's two lengths.
-/
section
set_option maxRecDepth 100000
set_option maxHeartbeats 4000000
set_option linter.unusedVariables false
set_option linter.unusedSimpArgs false
namespace Go.Proofs.Ytcalippagaaikaa
open Go.Ab
theorem rnd30_bd (v M : Int) (h1 : -(M * 1073741824) ≤ v) (h2 : v ≤ M * 1073741824) : -M ≤ rnd v 30 ∧ rnd v 30 ≤ M := by
  unfold rnd half
  rw [if_neg (by omega : ¬ (30 : Nat) = 0), show (2 : Int) ^ (30 - 1) = 536870912 from rfl, show (2 : Int) ^ 30 = 1073741824 from rfl]
  split <;> omega
theorem rnd30_lo (v M : Int) (h1 : M * 1073741824 ≤ v) (h0 : 0 ≤ M) : M ≤ rnd v 30 := by
  unfold rnd half
  rw [if_neg (by omega : ¬ (30 : Nat) = 0), show (2 : Int) ^ (30 - 1) = 536870912 from rfl, show (2 : Int) ^ 30 = 1073741824 from rfl]
  split <;> omega
theorem rnd10_bd (v M : Int) (h1 : -(M * 1024) ≤ v) (h2 : v ≤ M * 1024) : -M ≤ rnd v 10 ∧ rnd v 10 ≤ M := by
  unfold rnd half
  rw [if_neg (by omega : ¬ (10 : Nat) = 0), show (2 : Int) ^ (10 - 1) = 512 from rfl, show (2 : Int) ^ 10 = 1024 from rfl]
  split <;> omega
theorem qdq_bd (V D M : Int) (d : 0 < D) (v : 0 ≤ V) (h : V ≤ M * D) : 0 ≤ qdq V D ∧ qdq V D ≤ M := by
  unfold qdq
  have e := Int.mul_ediv_add_emod V D
  have r0 := Int.emod_nonneg V (show D ≠ 0 by omega)
  have r1 := Int.emod_lt_of_pos V d
  have q0 := Int.ediv_nonneg v (Int.le_of_lt d)
  have q1 : V / D ≤ M := Int.ediv_le_of_le_mul d h
  refine ⟨by split <;> omega, ?_⟩
  by_cases c : V / D = M
  · have : V % D = 0 := by
      rw [c] at e
      have : D * M = M * D := Int.mul_comm _ _
      omega
    rw [if_pos (by omega)]; omega
  · split <;> omega
theorem rdq_bd (a d M : Int) (h : 0 < d) (h1 : -(M * d) ≤ a) (h2 : a ≤ M * d) : -M ≤ rdq a d ∧ rdq a d ≤ M := by
  have D : mgq d = d := by unfold mgq; rw [if_neg (by omega)]
  have A : mgq a ≤ M * d := by unfold mgq; split <;> omega
  have b := qdq_bd (mgq a) d M h (mgq_nn a) A
  unfold rdq
  rw [D]
  split <;> omega
theorem rdq_nn (a d : Int) (h : 0 < d) (a0 : 0 ≤ a) : 0 ≤ rdq a d := by
  have D : mgq d = d := by unfold mgq; rw [if_neg (by omega)]
  unfold rdq
  rw [D, if_pos (by rw [decide_eq_false (by omega), decide_eq_false (by omega)])]
  unfold qdq
  have := Int.ediv_nonneg (mgq_nn a) (Int.le_of_lt h)
  split <;> omega
theorem mulB (x y A B : Int) (h1 : -A ≤ x) (h2 : x ≤ A) (h3 : -B ≤ y) (h4 : y ≤ B) : -(A * B) ≤ x * y ∧ x * y ≤ A * B := by
  have a := Int.mul_nonneg (show 0 ≤ A - x by omega) (show 0 ≤ B + y by omega)
  have b := Int.mul_nonneg (show 0 ≤ A + x by omega) (show 0 ≤ B - y by omega)
  have c := Int.mul_nonneg (show 0 ≤ A - x by omega) (show 0 ≤ B - y by omega)
  have d := Int.mul_nonneg (show 0 ≤ A + x by omega) (show 0 ≤ B + y by omega)
  have e1 : (A - x) * (B + y) = A * B + A * y - x * B - x * y := by grind
  have e2 : (A + x) * (B - y) = A * B - A * y + x * B - x * y := by grind
  have e3 : (A - x) * (B - y) = A * B - A * y - x * B + x * y := by grind
  have e4 : (A + x) * (B + y) = A * B + A * y + x * B + x * y := by grind
  omega
def Unit1 (x : Int) : Prop := -1073741824 ≤ x ∧ x ≤ 1073741824
theorem clampB (v : Int) : Unit1 (if 1073741824 < if -1073741824 > v then -1073741824 else v then 1073741824 else if -1073741824 > v then -1073741824 else v) := by
  unfold Unit1
  by_cases c : -1073741824 > v
  · simp only [if_pos c]; split <;> omega
  · simp only [if_neg c]; split <;> omega
theorem sin_bd (x : Int) (hit : Bool) : Post (fun r => Unit1 r.1) (f_trig_Sin x hit) := by
  unfold f_trig_Sin K_trig_Sin
  repeat' with_reducible first
    | refine post_some (clampB _)
    | refine post_bind fun _ => ?_
    | refine post_cond _ ?_ ?_
theorem cos_bd (x : Int) (hit : Bool) : Post (fun r => Unit1 r.1) (f_trig_Cos x hit) := by
  unfold f_trig_Cos K_trig_Cos
  obtain ⟨w, hw⟩ := t_wrap x
  rw [hw, Option.bind_some]
  obtain ⟨s, hs⟩ := t_sin (IntKind.wrap .i64 (1686629713 + w)) hit
  have b := sin_bd _ _ s hs
  rw [hs, Option.bind_some]
  exact post_some b
theorem sqrt_eq (a : Int) (hit : Bool) (h0 : 0 ≤ a) (h1 : a ≤ 1152921504606846976) : ∃ r u, isR r (a * 1073741824) ∧ f_root_Sqrt a hit = some (sat r, u) := by
  unfold f_root_Sqrt K_root_Sqrt
  rw [acc_sat, Option.bind_some, satI ⟨by omega, h1⟩]
  simp only [decide_eq_false (show ¬ a < 0 by omega), cond_false]
  obtain ⟨h, l, v, e1, e2, e3, e4, e5⟩ := wide_shift a 30 (by omega) (by omega) (by omega)
  have e1' : f_wide_Shift a 30 = some (h, l, v) := e1
  have P : (2 : Int) ^ 30 = 1073741824 := by decide
  rw [P] at e3 e4
  have hv := e4 (e3.2 (by omega))
  have hh : 0 ≤ h := by
    obtain ⟨o1, o2, o3, o4⟩ := e2
    have : h * 18446744073709551616 + l = a * 1073741824 := hv
    omega
  obtain ⟨r, hr⟩ := isR_ex (vW h l) (by omega)
  rw [e1', Option.bind_some, root_end_eq h l r _ e2 hh hr, Option.bind_some]
  exact ⟨r, _, hv ▸ hr, rfl⟩
theorem isR_bd (r q : Int) (hr : isR r (q * 1073741824)) (q0 : 0 ≤ q) (q1 : q ≤ 1073741824) : q ≤ r ∧ r ≤ 1073741824 := by
  obtain ⟨r0, r1, r2⟩ := hr
  constructor
  · refine Int.not_lt.mp ?_
    intro h
    have a := Int.mul_nonneg (show 0 ≤ q - 1 - r by omega) (show 0 ≤ r by omega)
    have b := Int.mul_nonneg (show 0 ≤ q by omega) (show 0 ≤ q - 1 - r by omega)
    have c := Int.mul_nonneg (show 0 ≤ q by omega) (show 0 ≤ 1073741824 - q by omega)
    have e1 : (q - 1 - r) * r = q * r - r - r * r := by grind
    have e2 : q * (q - 1 - r) = q * q - q - q * r := by grind
    have e3 : q * (1073741824 - q) = q * 1073741824 - q * q := by grind
    omega
  · refine Int.not_lt.mp ?_
    intro h
    rcases r2 with z | z
    · omega
    · have a := Int.mul_nonneg (show 0 ≤ r - 1 - 1073741824 by omega) (show 0 ≤ r by omega)
      have e1 : (r - 1 - 1073741824) * r = r * r - r - 1073741824 * r := by grind
      omega
end Go.Proofs.Ytcalippagaaikaa
end
/-
  Chapter 8: the frame's two lengths lie within bounds; To does not saturate.
-/
section
set_option maxRecDepth 100000
set_option maxHeartbeats 4000000
set_option linter.unusedVariables false
set_option linter.unusedSimpArgs false
namespace Go.Proofs.Ytcalippagaaikaa
open Go.Ab
theorem new1_eq (a b : Int) (hit : Bool) : ∃ u, f_earth_New_1 a b hit = some (sat (rnd (sat a * sat b) 30), u) := by
  unfold f_earth_New_1 K_earth_New_1
  have m : f___fx_Acc__Mul a b 30 hit = _ := acc_mul a b 30 hit (by omega)
  rw [m, Option.bind_some]
  exact ⟨_, rfl⟩
theorem div30_eq (a b : Int) (hit : Bool) (nz : sat b ≠ 0) : ∃ u, f___fx_Acc__Div a b 30 hit = some (sat (rdq (sat a * 1073741824) (sat b)), u) := by
  have m : f___fx_Acc__Div a b 30 hit = _ := acc_div a b 30 hit (by omega) nz
  exact ⟨_, m⟩
theorem muldiv_eq (a b d : Int) (hit : Bool) (nz : sat d ≠ 0) : ∃ u, f___fx_Acc__MulDiv a b d hit = some (sat (rdq (sat a * sat b) (sat d)), u) := ⟨_, acc_muldiv a b d hit nz⟩
theorem new_bd (a b c : Int) : Post (fun r => r = Sum.inl () ∨ (GoodP a b c ∧ ∃ n e, r = Sum.inr (a, b, c, n, e) ∧ 0 ≤ n ∧ n ≤ 13000000000 ∧ -13000000000 ≤ e ∧ e ≤ 13000000000)) (f_earth_New a b c) := by
  unfold f_earth_New K_earth_New
  obtain ⟨g, hg⟩ := t_good a b c
  rw [hg, Option.bind_some]
  cases g with
  | false => exact post_some (Or.inl rfl)
  | true =>
    have G := good_p hg
    rw [Bool.not_true, cond_false]
    refine post_cond _ (post_some (Or.inl rfl)) (post_cond _ (post_some (Or.inl rfl)) ?_)
    refine post_bind fun d => ?_
    obtain ⟨⟨s, us⟩, hs⟩ := t_sin d.1 d.2
    have bs : Unit1 s := sin_bd _ _ _ hs
    rw [hs, Option.bind_some]
    obtain ⟨⟨k, uk⟩, hk⟩ := t_cos d.1 us
    have bk : Unit1 k := cos_bd _ _ _ hk
    rw [hk, Option.bind_some]
    unfold Unit1 at bs bk
    simp only
    -- the sine's square
    obtain ⟨u1, h1⟩ := new1_eq s s uk
    have ss : sat s = s := satI (by omega)
    rw [h1, Option.bind_some, ss]
    simp only
    have m1 := mulB s s 1073741824 1073741824 bs.1 bs.2 bs.1 bs.2
    have m1n : 0 ≤ s * s := by
      rcases Int.lt_or_le s 0 with z | z
      · have := Int.mul_nonneg (show 0 ≤ -s by omega) (show 0 ≤ -s by omega)
        rwa [Int.neg_mul_neg] at this
      · exact Int.mul_nonneg z z
    have b1 := rnd30_bd (s * s) 1073741824 m1.1 m1.2
    have b1n := rnd30_lo (s * s) 0 (by omega) (by omega)
    generalize rnd (s * s) 30 = p at b1 b1n
    rw [satI (x := p) (by omega)]
    -- times e2
    obtain ⟨u2, h2⟩ := new1_eq 7188036 p u1
    rw [h2, Option.bind_some, show sat 7188036 = 7188036 from rfl, satI (x := p) (by omega)]
    simp only
    have b2 := rnd30_bd (7188036 * p) 7188036 (by omega) (by omega)
    have b2n := rnd30_lo (7188036 * p) 0 (by omega) (by omega)
    generalize rnd (7188036 * p) 30 = t at b2 b2n
    rw [satI (x := t) (by omega), wrap_i64 (n := 1073741824 - t) (by omega) (by omega)]
    generalize hq : (1073741824 : Int) - t = q
    -- the root
    obtain ⟨w, u3, hw, h3⟩ := sqrt_eq q u2 (by omega) (by omega)
    have bw := isR_bd w q hw (by omega) (by omega)
    rw [h3, Option.bind_some, satI (x := w) (by omega)]
    simp only
    -- across
    have sw : sat w = w := satI (by omega)
    obtain ⟨u4, h4⟩ := div30_eq 6531212288 w u3 (by omega)
    rw [h4, Option.bind_some, show sat 6531212288 = 6531212288 from rfl, sw]
    simp only
    have b4 := rdq_bd (6531212288 * 1073741824) w 6600000000 (by omega) (by omega) (by omega)
    have b4n := rdq_nn (6531212288 * 1073741824) w (by omega) (by omega)
    generalize rdq (6531212288 * 1073741824) w = e at b4 b4n
    rw [satI (x := e) (by omega)]
    -- along
    obtain ⟨u5, h5⟩ := new1_eq 6531212288 1066553788 u4
    rw [h5, Option.bind_some, show sat 6531212288 = 6531212288 from rfl, show sat 1066553788 = 1066553788 from rfl]
    simp only
    have b5 := rnd30_bd (6531212288 * 1066553788) 6531212288 (by omega) (by omega)
    have b5n := rnd30_lo (6531212288 * 1066553788) 0 (by omega) (by omega)
    generalize rnd (6531212288 * 1066553788) 30 = y at b5 b5n
    rw [satI (x := y) (by omega)]
    obtain ⟨u6, h6⟩ := new1_eq q w u5
    rw [h6, Option.bind_some, satI (x := q) (by omega), sw]
    simp only
    have m6 := mulB q w 1073741824 1073741824 (by omega) (by omega) (by omega) (by omega)
    have m6n : 1066553788 * 1066553788 ≤ q * w := by
      have x1 := Int.mul_nonneg (show 0 ≤ q - 1066553788 by omega) (show 0 ≤ w by omega)
      have x2 : (q - 1066553788) * w = q * w - 1066553788 * w := by grind
      omega
    have b6 := rnd30_bd (q * w) 1073741824 m6.1 m6.2
    have b6n := rnd30_lo (q * w) 1059000000 (by omega) (by omega)
    generalize rnd (q * w) 30 = z at b6 b6n
    rw [satI (x := z) (by omega)]
    have sz : sat z = z := satI (by omega)
    obtain ⟨u7, h7⟩ := div30_eq y z u6 (by omega)
    rw [h7, Option.bind_some, satI (x := y) (by omega), sz]
    simp only
    have b7 := rdq_bd (y * 1073741824) z 6700000000 (by omega) (by omega) (by omega)
    have b7n := rdq_nn (y * 1073741824) z (by omega) (by omega)
    generalize rdq (y * 1073741824) z = o at b7 b7n
    rw [satI (x := o) (by omega)]
    obtain ⟨u8, h8⟩ := muldiv_eq o 3373259426 1800000000 u7 (by decide)
    rw [h8, Option.bind_some, satI (x := o) (by omega), show sat 3373259426 = 3373259426 from rfl, show sat 1800000000 = 1800000000 from rfl]
    simp only
    have b8 := rdq_bd (o * 3373259426) 1800000000 13000000000 (by omega) (by omega) (by omega)
    have b8n := rdq_nn (o * 3373259426) 1800000000 (by omega) (by omega)
    generalize rdq (o * 3373259426) 1800000000 = no at b8 b8n
    rw [satI (x := no) (by omega)]
    obtain ⟨u9, h9⟩ := new1_eq e k u8
    rw [h9, Option.bind_some, satI (x := e) (by omega), satI (x := k) (by omega)]
    simp only
    have m9 := mulB e k 6600000000 1073741824 (by omega) (by omega) (by omega) (by omega)
    have b9 := rnd30_bd (e * k) 6600000000 m9.1 m9.2
    generalize rnd (e * k) 30 = ek at b9
    rw [satI (x := ek) (by omega)]
    obtain ⟨u10, h10⟩ := muldiv_eq ek 3373259426 1800000000 u9 (by decide)
    rw [h10, Option.bind_some, satI (x := ek) (by omega), show sat 3373259426 = 3373259426 from rfl, show sat 1800000000 = 1800000000 from rfl]
    have b10 := rdq_bd (ek * 3373259426) 1800000000 13000000000 (by omega) (by omega) (by omega)
    generalize rdq (ek * 3373259426) 1800000000 = ea at b10
    refine post_some (Or.inr ⟨G, no, ea, ?_, b8n, b8.2, b10.1, b10.2⟩)
    rw [satI (x := ea) (by omega)]
end Go.Proofs.Ytcalippagaaikaa
end
/-
  Chapter 8: EarthRound: the statement of astrolabelaw8.EarthRound.
-/
section
set_option maxRecDepth 100000
set_option maxHeartbeats 4000000
set_option linter.unusedVariables false
set_option linter.unusedSimpArgs false
namespace Go.Proofs.Ytcalippagaaikaa
open Go.Ab
theorem d1_eq (a b p d : Int) (hit : Bool) (nz : sat d ≠ 0) : ∃ u, f_earth_Declination_1 a b p d hit = some (IntKind.wrap .i64 (a + sat (rdq (sat (IntKind.wrap .i64 (b - a)) * sat p) (sat d))), u) := by
  unfold f_earth_Declination_1 K_earth_Declination_1
  rw [acc_muldiv _ _ _ _ nz, Option.bind_some]
  exact ⟨_, rfl⟩
def tailD (a b p : Int) (hit : Bool) : Option (Int × Int × Bool) :=
  Option.bind (f_earth_Declination_1 a b p 450000000 hit) fun (d : Int × Bool) => Option.bind (f___fx_Acc__MulDiv d.1 3373259426 19327352832000 d.2) fun (d : Int × Bool) => some (d.1, 0, d.2)
def tailV (a b p : Int) : Int := sat (rdq (sat (IntKind.wrap .i64 (a + sat (rdq (sat (IntKind.wrap .i64 (b - a)) * sat p) (sat 450000000)))) * sat 3373259426) (sat 19327352832000))
theorem tailD_eq (a b p : Int) (hit : Bool) : ∃ u, tailD a b p hit = some (tailV a b p, 0, u) := by
  unfold tailD
  obtain ⟨u, hu⟩ := d1_eq a b p 450000000 hit (by decide)
  rw [hu, Option.bind_some, acc_muldiv _ _ _ _ (by decide), Option.bind_some]
  exact ⟨_, rfl⟩
def rowI (x : Int) : Int := (if 3 < IntKind.wrap IntKind.i64 (Int.tdiv (IntKind.wrap IntKind.i64 (x + 900000000)) 450000000) then 3 else IntKind.wrap IntKind.i64 (Int.tdiv (IntKind.wrap IntKind.i64 (x + 900000000)) 450000000))
theorem rowI_cases (x : Int) (h1 : -900000000 ≤ x) (h2 : x ≤ 900000000) : rowI x = 0 ∨ rowI x = 1 ∨ rowI x = 2 ∨ rowI x = 3 := by
  unfold rowI
  have e : IntKind.wrap .i64 (x + 900000000) = x + 900000000 := wrap_i64 (by omega) (by omega)
  have t : Int.tdiv (x + 900000000) 450000000 = (x + 900000000) / 450000000 := Int.tdiv_eq_ediv_of_nonneg (by omega)
  rw [e, t, wrap_i64 (by omega) (by omega)]
  split <;> omega
def partI (x i : Int) : Int := IntKind.wrap IntKind.i64 (IntKind.wrap IntKind.i64 (x + 900000000) - IntKind.wrap IntKind.i64 (i * 450000000))
theorem decl_p0 (x z : Int) (hit : Bool) (G : GoodP x (1800000000) z) (hE : rowI x = 0) :
    f_earth_Declination x (1800000000) z hit = Option.bind (f_earth_Declination_2 3000 6000 (-2000) (-1500) (-6000) (-9000) 3000 5 600000000 hit) fun d => Option.bind (f_earth_Declination_2 2200 2500 500 (-2200) (-3800) 0 2200 5 600000000 d.2) fun d_1 => tailD d.1 d_1.1 (partI x 0) d_1.2 := by
  unfold rowI at hE
  have hc : (if 5 < IntKind.wrap IntKind.i64 (Int.tdiv (IntKind.wrap IntKind.i64 ((1800000000) + 1800000000)) 600000000) then 5 else IntKind.wrap IntKind.i64 (Int.tdiv (IntKind.wrap IntKind.i64 ((1800000000) + 1800000000)) 600000000)) = 5 := by decide
  have hp : IntKind.wrap IntKind.i64 (IntKind.wrap IntKind.i64 ((1800000000) + 1800000000) - IntKind.wrap IntKind.i64 (5 * 600000000)) = 600000000 := by decide
  have hi : IntKind.wrap IntKind.i64 (0 + 1) = 1 := by decide
  have q1 : inR 0 5 = true := by decide
  have q2 : inR 1 5 = true := by decide
  unfold f_earth_Declination K_earth_Declination
  rw [good_yes G, Option.bind_some, Bool.not_true, cond_false]
  simp only [hE, hc, hp, hi, q1, q2, cond_true, cond_false, show ((0 : Int) == 0) = true from rfl, show ((0 : Int) == 1) = false from rfl, show ((0 : Int) == 2) = false from rfl, show ((0 : Int) == 3) = false from rfl, show ((0 : Int) == 4) = false from rfl, show ((1 : Int) == 0) = false from rfl, show ((1 : Int) == 1) = true from rfl, show ((1 : Int) == 2) = false from rfl, show ((1 : Int) == 3) = false from rfl, show ((1 : Int) == 4) = false from rfl, show ((2 : Int) == 0) = false from rfl, show ((2 : Int) == 1) = false from rfl, show ((2 : Int) == 2) = true from rfl, show ((2 : Int) == 3) = false from rfl, show ((2 : Int) == 4) = false from rfl, show ((3 : Int) == 0) = false from rfl, show ((3 : Int) == 1) = false from rfl, show ((3 : Int) == 2) = false from rfl, show ((3 : Int) == 3) = true from rfl, show ((3 : Int) == 4) = false from rfl, show ((4 : Int) == 0) = false from rfl, show ((4 : Int) == 1) = false from rfl, show ((4 : Int) == 2) = false from rfl, show ((4 : Int) == 3) = false from rfl, show ((4 : Int) == 4) = true from rfl]
  rfl
theorem decl_p1 (x z : Int) (hit : Bool) (G : GoodP x (1800000000) z) (hE : rowI x = 1) :
    f_earth_Declination x (1800000000) z hit = Option.bind (f_earth_Declination_2 2200 2500 500 (-2200) (-3800) 0 2200 5 600000000 hit) fun d => Option.bind (f_earth_Declination_2 950 900 (-1400) (-500) (-300) 100 950 5 600000000 d.2) fun d_1 => tailD d.1 d_1.1 (partI x 1) d_1.2 := by
  unfold rowI at hE
  have hc : (if 5 < IntKind.wrap IntKind.i64 (Int.tdiv (IntKind.wrap IntKind.i64 ((1800000000) + 1800000000)) 600000000) then 5 else IntKind.wrap IntKind.i64 (Int.tdiv (IntKind.wrap IntKind.i64 ((1800000000) + 1800000000)) 600000000)) = 5 := by decide
  have hp : IntKind.wrap IntKind.i64 (IntKind.wrap IntKind.i64 ((1800000000) + 1800000000) - IntKind.wrap IntKind.i64 (5 * 600000000)) = 600000000 := by decide
  have hi : IntKind.wrap IntKind.i64 (1 + 1) = 2 := by decide
  have q1 : inR 1 5 = true := by decide
  have q2 : inR 2 5 = true := by decide
  unfold f_earth_Declination K_earth_Declination
  rw [good_yes G, Option.bind_some, Bool.not_true, cond_false]
  simp only [hE, hc, hp, hi, q1, q2, cond_true, cond_false, show ((0 : Int) == 0) = true from rfl, show ((0 : Int) == 1) = false from rfl, show ((0 : Int) == 2) = false from rfl, show ((0 : Int) == 3) = false from rfl, show ((0 : Int) == 4) = false from rfl, show ((1 : Int) == 0) = false from rfl, show ((1 : Int) == 1) = true from rfl, show ((1 : Int) == 2) = false from rfl, show ((1 : Int) == 3) = false from rfl, show ((1 : Int) == 4) = false from rfl, show ((2 : Int) == 0) = false from rfl, show ((2 : Int) == 1) = false from rfl, show ((2 : Int) == 2) = true from rfl, show ((2 : Int) == 3) = false from rfl, show ((2 : Int) == 4) = false from rfl, show ((3 : Int) == 0) = false from rfl, show ((3 : Int) == 1) = false from rfl, show ((3 : Int) == 2) = false from rfl, show ((3 : Int) == 3) = true from rfl, show ((3 : Int) == 4) = false from rfl, show ((4 : Int) == 0) = false from rfl, show ((4 : Int) == 1) = false from rfl, show ((4 : Int) == 2) = false from rfl, show ((4 : Int) == 3) = false from rfl, show ((4 : Int) == 4) = true from rfl]
  rfl
theorem decl_p2 (x z : Int) (hit : Bool) (G : GoodP x (1800000000) z) (hE : rowI x = 2) :
    f_earth_Declination x (1800000000) z hit = Option.bind (f_earth_Declination_2 950 900 (-1400) (-500) (-300) 100 950 5 600000000 hit) fun d => Option.bind (f_earth_Declination_2 500 1500 (-1700) 100 700 (-800) 500 5 600000000 d.2) fun d_1 => tailD d.1 d_1.1 (partI x 2) d_1.2 := by
  unfold rowI at hE
  have hc : (if 5 < IntKind.wrap IntKind.i64 (Int.tdiv (IntKind.wrap IntKind.i64 ((1800000000) + 1800000000)) 600000000) then 5 else IntKind.wrap IntKind.i64 (Int.tdiv (IntKind.wrap IntKind.i64 ((1800000000) + 1800000000)) 600000000)) = 5 := by decide
  have hp : IntKind.wrap IntKind.i64 (IntKind.wrap IntKind.i64 ((1800000000) + 1800000000) - IntKind.wrap IntKind.i64 (5 * 600000000)) = 600000000 := by decide
  have hi : IntKind.wrap IntKind.i64 (2 + 1) = 3 := by decide
  have q1 : inR 2 5 = true := by decide
  have q2 : inR 3 5 = true := by decide
  unfold f_earth_Declination K_earth_Declination
  rw [good_yes G, Option.bind_some, Bool.not_true, cond_false]
  simp only [hE, hc, hp, hi, q1, q2, cond_true, cond_false, show ((0 : Int) == 0) = true from rfl, show ((0 : Int) == 1) = false from rfl, show ((0 : Int) == 2) = false from rfl, show ((0 : Int) == 3) = false from rfl, show ((0 : Int) == 4) = false from rfl, show ((1 : Int) == 0) = false from rfl, show ((1 : Int) == 1) = true from rfl, show ((1 : Int) == 2) = false from rfl, show ((1 : Int) == 3) = false from rfl, show ((1 : Int) == 4) = false from rfl, show ((2 : Int) == 0) = false from rfl, show ((2 : Int) == 1) = false from rfl, show ((2 : Int) == 2) = true from rfl, show ((2 : Int) == 3) = false from rfl, show ((2 : Int) == 4) = false from rfl, show ((3 : Int) == 0) = false from rfl, show ((3 : Int) == 1) = false from rfl, show ((3 : Int) == 2) = false from rfl, show ((3 : Int) == 3) = true from rfl, show ((3 : Int) == 4) = false from rfl, show ((4 : Int) == 0) = false from rfl, show ((4 : Int) == 1) = false from rfl, show ((4 : Int) == 2) = false from rfl, show ((4 : Int) == 3) = false from rfl, show ((4 : Int) == 4) = true from rfl]
  rfl
theorem decl_p3 (x z : Int) (hit : Bool) (G : GoodP x (1800000000) z) (hE : rowI x = 3) :
    f_earth_Declination x (1800000000) z hit = Option.bind (f_earth_Declination_2 500 1500 (-1700) 100 700 (-800) 500 5 600000000 hit) fun d => Option.bind (f_earth_Declination_2 1000 4000 (-3000) 500 3500 (-1200) 1000 5 600000000 d.2) fun d_1 => tailD d.1 d_1.1 (partI x 3) d_1.2 := by
  unfold rowI at hE
  have hc : (if 5 < IntKind.wrap IntKind.i64 (Int.tdiv (IntKind.wrap IntKind.i64 ((1800000000) + 1800000000)) 600000000) then 5 else IntKind.wrap IntKind.i64 (Int.tdiv (IntKind.wrap IntKind.i64 ((1800000000) + 1800000000)) 600000000)) = 5 := by decide
  have hp : IntKind.wrap IntKind.i64 (IntKind.wrap IntKind.i64 ((1800000000) + 1800000000) - IntKind.wrap IntKind.i64 (5 * 600000000)) = 600000000 := by decide
  have hi : IntKind.wrap IntKind.i64 (3 + 1) = 4 := by decide
  have q1 : inR 3 5 = true := by decide
  have q2 : inR 4 5 = true := by decide
  unfold f_earth_Declination K_earth_Declination
  rw [good_yes G, Option.bind_some, Bool.not_true, cond_false]
  simp only [hE, hc, hp, hi, q1, q2, cond_true, cond_false, show ((0 : Int) == 0) = true from rfl, show ((0 : Int) == 1) = false from rfl, show ((0 : Int) == 2) = false from rfl, show ((0 : Int) == 3) = false from rfl, show ((0 : Int) == 4) = false from rfl, show ((1 : Int) == 0) = false from rfl, show ((1 : Int) == 1) = true from rfl, show ((1 : Int) == 2) = false from rfl, show ((1 : Int) == 3) = false from rfl, show ((1 : Int) == 4) = false from rfl, show ((2 : Int) == 0) = false from rfl, show ((2 : Int) == 1) = false from rfl, show ((2 : Int) == 2) = true from rfl, show ((2 : Int) == 3) = false from rfl, show ((2 : Int) == 4) = false from rfl, show ((3 : Int) == 0) = false from rfl, show ((3 : Int) == 1) = false from rfl, show ((3 : Int) == 2) = false from rfl, show ((3 : Int) == 3) = true from rfl, show ((3 : Int) == 4) = false from rfl, show ((4 : Int) == 0) = false from rfl, show ((4 : Int) == 1) = false from rfl, show ((4 : Int) == 2) = false from rfl, show ((4 : Int) == 3) = false from rfl, show ((4 : Int) == 4) = true from rfl]
  rfl
theorem decl_n0 (x z : Int) (hit : Bool) (G : GoodP x (-1800000000) z) (hE : rowI x = 0) :
    f_earth_Declination x (-1800000000) z hit = Option.bind (f_earth_Declination_2 3000 6000 (-2000) (-1500) (-6000) (-9000) 3000 0 0 hit) fun d => Option.bind (f_earth_Declination_2 2200 2500 500 (-2200) (-3800) 0 2200 0 0 d.2) fun d_1 => tailD d.1 d_1.1 (partI x 0) d_1.2 := by
  unfold rowI at hE
  have hc : (if 5 < IntKind.wrap IntKind.i64 (Int.tdiv (IntKind.wrap IntKind.i64 ((-1800000000) + 1800000000)) 600000000) then 5 else IntKind.wrap IntKind.i64 (Int.tdiv (IntKind.wrap IntKind.i64 ((-1800000000) + 1800000000)) 600000000)) = 0 := by decide
  have hp : IntKind.wrap IntKind.i64 (IntKind.wrap IntKind.i64 ((-1800000000) + 1800000000) - IntKind.wrap IntKind.i64 (0 * 600000000)) = 0 := by decide
  have hi : IntKind.wrap IntKind.i64 (0 + 1) = 1 := by decide
  have q1 : inR 0 5 = true := by decide
  have q2 : inR 1 5 = true := by decide
  unfold f_earth_Declination K_earth_Declination
  rw [good_yes G, Option.bind_some, Bool.not_true, cond_false]
  simp only [hE, hc, hp, hi, q1, q2, cond_true, cond_false, show ((0 : Int) == 0) = true from rfl, show ((0 : Int) == 1) = false from rfl, show ((0 : Int) == 2) = false from rfl, show ((0 : Int) == 3) = false from rfl, show ((0 : Int) == 4) = false from rfl, show ((1 : Int) == 0) = false from rfl, show ((1 : Int) == 1) = true from rfl, show ((1 : Int) == 2) = false from rfl, show ((1 : Int) == 3) = false from rfl, show ((1 : Int) == 4) = false from rfl, show ((2 : Int) == 0) = false from rfl, show ((2 : Int) == 1) = false from rfl, show ((2 : Int) == 2) = true from rfl, show ((2 : Int) == 3) = false from rfl, show ((2 : Int) == 4) = false from rfl, show ((3 : Int) == 0) = false from rfl, show ((3 : Int) == 1) = false from rfl, show ((3 : Int) == 2) = false from rfl, show ((3 : Int) == 3) = true from rfl, show ((3 : Int) == 4) = false from rfl, show ((4 : Int) == 0) = false from rfl, show ((4 : Int) == 1) = false from rfl, show ((4 : Int) == 2) = false from rfl, show ((4 : Int) == 3) = false from rfl, show ((4 : Int) == 4) = true from rfl]
  rfl
theorem decl_n1 (x z : Int) (hit : Bool) (G : GoodP x (-1800000000) z) (hE : rowI x = 1) :
    f_earth_Declination x (-1800000000) z hit = Option.bind (f_earth_Declination_2 2200 2500 500 (-2200) (-3800) 0 2200 0 0 hit) fun d => Option.bind (f_earth_Declination_2 950 900 (-1400) (-500) (-300) 100 950 0 0 d.2) fun d_1 => tailD d.1 d_1.1 (partI x 1) d_1.2 := by
  unfold rowI at hE
  have hc : (if 5 < IntKind.wrap IntKind.i64 (Int.tdiv (IntKind.wrap IntKind.i64 ((-1800000000) + 1800000000)) 600000000) then 5 else IntKind.wrap IntKind.i64 (Int.tdiv (IntKind.wrap IntKind.i64 ((-1800000000) + 1800000000)) 600000000)) = 0 := by decide
  have hp : IntKind.wrap IntKind.i64 (IntKind.wrap IntKind.i64 ((-1800000000) + 1800000000) - IntKind.wrap IntKind.i64 (0 * 600000000)) = 0 := by decide
  have hi : IntKind.wrap IntKind.i64 (1 + 1) = 2 := by decide
  have q1 : inR 1 5 = true := by decide
  have q2 : inR 2 5 = true := by decide
  unfold f_earth_Declination K_earth_Declination
  rw [good_yes G, Option.bind_some, Bool.not_true, cond_false]
  simp only [hE, hc, hp, hi, q1, q2, cond_true, cond_false, show ((0 : Int) == 0) = true from rfl, show ((0 : Int) == 1) = false from rfl, show ((0 : Int) == 2) = false from rfl, show ((0 : Int) == 3) = false from rfl, show ((0 : Int) == 4) = false from rfl, show ((1 : Int) == 0) = false from rfl, show ((1 : Int) == 1) = true from rfl, show ((1 : Int) == 2) = false from rfl, show ((1 : Int) == 3) = false from rfl, show ((1 : Int) == 4) = false from rfl, show ((2 : Int) == 0) = false from rfl, show ((2 : Int) == 1) = false from rfl, show ((2 : Int) == 2) = true from rfl, show ((2 : Int) == 3) = false from rfl, show ((2 : Int) == 4) = false from rfl, show ((3 : Int) == 0) = false from rfl, show ((3 : Int) == 1) = false from rfl, show ((3 : Int) == 2) = false from rfl, show ((3 : Int) == 3) = true from rfl, show ((3 : Int) == 4) = false from rfl, show ((4 : Int) == 0) = false from rfl, show ((4 : Int) == 1) = false from rfl, show ((4 : Int) == 2) = false from rfl, show ((4 : Int) == 3) = false from rfl, show ((4 : Int) == 4) = true from rfl]
  rfl
theorem decl_n2 (x z : Int) (hit : Bool) (G : GoodP x (-1800000000) z) (hE : rowI x = 2) :
    f_earth_Declination x (-1800000000) z hit = Option.bind (f_earth_Declination_2 950 900 (-1400) (-500) (-300) 100 950 0 0 hit) fun d => Option.bind (f_earth_Declination_2 500 1500 (-1700) 100 700 (-800) 500 0 0 d.2) fun d_1 => tailD d.1 d_1.1 (partI x 2) d_1.2 := by
  unfold rowI at hE
  have hc : (if 5 < IntKind.wrap IntKind.i64 (Int.tdiv (IntKind.wrap IntKind.i64 ((-1800000000) + 1800000000)) 600000000) then 5 else IntKind.wrap IntKind.i64 (Int.tdiv (IntKind.wrap IntKind.i64 ((-1800000000) + 1800000000)) 600000000)) = 0 := by decide
  have hp : IntKind.wrap IntKind.i64 (IntKind.wrap IntKind.i64 ((-1800000000) + 1800000000) - IntKind.wrap IntKind.i64 (0 * 600000000)) = 0 := by decide
  have hi : IntKind.wrap IntKind.i64 (2 + 1) = 3 := by decide
  have q1 : inR 2 5 = true := by decide
  have q2 : inR 3 5 = true := by decide
  unfold f_earth_Declination K_earth_Declination
  rw [good_yes G, Option.bind_some, Bool.not_true, cond_false]
  simp only [hE, hc, hp, hi, q1, q2, cond_true, cond_false, show ((0 : Int) == 0) = true from rfl, show ((0 : Int) == 1) = false from rfl, show ((0 : Int) == 2) = false from rfl, show ((0 : Int) == 3) = false from rfl, show ((0 : Int) == 4) = false from rfl, show ((1 : Int) == 0) = false from rfl, show ((1 : Int) == 1) = true from rfl, show ((1 : Int) == 2) = false from rfl, show ((1 : Int) == 3) = false from rfl, show ((1 : Int) == 4) = false from rfl, show ((2 : Int) == 0) = false from rfl, show ((2 : Int) == 1) = false from rfl, show ((2 : Int) == 2) = true from rfl, show ((2 : Int) == 3) = false from rfl, show ((2 : Int) == 4) = false from rfl, show ((3 : Int) == 0) = false from rfl, show ((3 : Int) == 1) = false from rfl, show ((3 : Int) == 2) = false from rfl, show ((3 : Int) == 3) = true from rfl, show ((3 : Int) == 4) = false from rfl, show ((4 : Int) == 0) = false from rfl, show ((4 : Int) == 1) = false from rfl, show ((4 : Int) == 2) = false from rfl, show ((4 : Int) == 3) = false from rfl, show ((4 : Int) == 4) = true from rfl]
  rfl
theorem decl_n3 (x z : Int) (hit : Bool) (G : GoodP x (-1800000000) z) (hE : rowI x = 3) :
    f_earth_Declination x (-1800000000) z hit = Option.bind (f_earth_Declination_2 500 1500 (-1700) 100 700 (-800) 500 0 0 hit) fun d => Option.bind (f_earth_Declination_2 1000 4000 (-3000) 500 3500 (-1200) 1000 0 0 d.2) fun d_1 => tailD d.1 d_1.1 (partI x 3) d_1.2 := by
  unfold rowI at hE
  have hc : (if 5 < IntKind.wrap IntKind.i64 (Int.tdiv (IntKind.wrap IntKind.i64 ((-1800000000) + 1800000000)) 600000000) then 5 else IntKind.wrap IntKind.i64 (Int.tdiv (IntKind.wrap IntKind.i64 ((-1800000000) + 1800000000)) 600000000)) = 0 := by decide
  have hp : IntKind.wrap IntKind.i64 (IntKind.wrap IntKind.i64 ((-1800000000) + 1800000000) - IntKind.wrap IntKind.i64 (0 * 600000000)) = 0 := by decide
  have hi : IntKind.wrap IntKind.i64 (3 + 1) = 4 := by decide
  have q1 : inR 3 5 = true := by decide
  have q2 : inR 4 5 = true := by decide
  unfold f_earth_Declination K_earth_Declination
  rw [good_yes G, Option.bind_some, Bool.not_true, cond_false]
  simp only [hE, hc, hp, hi, q1, q2, cond_true, cond_false, show ((0 : Int) == 0) = true from rfl, show ((0 : Int) == 1) = false from rfl, show ((0 : Int) == 2) = false from rfl, show ((0 : Int) == 3) = false from rfl, show ((0 : Int) == 4) = false from rfl, show ((1 : Int) == 0) = false from rfl, show ((1 : Int) == 1) = true from rfl, show ((1 : Int) == 2) = false from rfl, show ((1 : Int) == 3) = false from rfl, show ((1 : Int) == 4) = false from rfl, show ((2 : Int) == 0) = false from rfl, show ((2 : Int) == 1) = false from rfl, show ((2 : Int) == 2) = true from rfl, show ((2 : Int) == 3) = false from rfl, show ((2 : Int) == 4) = false from rfl, show ((3 : Int) == 0) = false from rfl, show ((3 : Int) == 1) = false from rfl, show ((3 : Int) == 2) = false from rfl, show ((3 : Int) == 3) = true from rfl, show ((3 : Int) == 4) = false from rfl, show ((4 : Int) == 0) = false from rfl, show ((4 : Int) == 1) = false from rfl, show ((4 : Int) == 2) = false from rfl, show ((4 : Int) == 3) = false from rfl, show ((4 : Int) == 4) = true from rfl]
  rfl
theorem decl_ends (x z : Int) (hit hit' : Bool) (G : GoodP x 1800000000 z) : ∃ v u u', f_earth_Declination x 1800000000 z hit = some (v, 0, u) ∧ f_earth_Declination x (-1800000000) z hit' = some (v, 0, u') := by
  have G' : GoodP x (-1800000000) z := by
    obtain ⟨g1, g2, g3, g4, g5, g6⟩ := G
    exact ⟨g1, g2, by omega, by omega, g5, g6⟩
  rcases rowI_cases x G.1 G.2.1 with h | h | h | h
  · obtain ⟨u1, e1⟩ := d2_end 3000 6000 (-2000) (-1500) (-6000) (-9000) 3000 hit (by omega) (by omega)
    obtain ⟨u2, e2⟩ := d2_end 2200 2500 500 (-2200) (-3800) 0 2200 u1 (by omega) (by omega)
    obtain ⟨u3, e3⟩ := d2_start 3000 6000 (-2000) (-1500) (-6000) (-9000) 3000 hit' (by omega) (by omega)
    obtain ⟨u4, e4⟩ := d2_start 2200 2500 500 (-2200) (-3800) 0 2200 u3 (by omega) (by omega)
    obtain ⟨u5, e5⟩ := tailD_eq (3000 * 1073741824) (2200 * 1073741824) (partI x 0) u2
    obtain ⟨u6, e6⟩ := tailD_eq (3000 * 1073741824) (2200 * 1073741824) (partI x 0) u4
    refine ⟨tailV (3000 * 1073741824) (2200 * 1073741824) (partI x 0), u5, u6, ?_, ?_⟩
    · rw [decl_p0 x z hit G h, e1, Option.bind_some, e2, Option.bind_some]; exact e5
    · rw [decl_n0 x z hit' G' h, e3, Option.bind_some, e4, Option.bind_some]; exact e6
  · obtain ⟨u1, e1⟩ := d2_end 2200 2500 500 (-2200) (-3800) 0 2200 hit (by omega) (by omega)
    obtain ⟨u2, e2⟩ := d2_end 950 900 (-1400) (-500) (-300) 100 950 u1 (by omega) (by omega)
    obtain ⟨u3, e3⟩ := d2_start 2200 2500 500 (-2200) (-3800) 0 2200 hit' (by omega) (by omega)
    obtain ⟨u4, e4⟩ := d2_start 950 900 (-1400) (-500) (-300) 100 950 u3 (by omega) (by omega)
    obtain ⟨u5, e5⟩ := tailD_eq (2200 * 1073741824) (950 * 1073741824) (partI x 1) u2
    obtain ⟨u6, e6⟩ := tailD_eq (2200 * 1073741824) (950 * 1073741824) (partI x 1) u4
    refine ⟨tailV (2200 * 1073741824) (950 * 1073741824) (partI x 1), u5, u6, ?_, ?_⟩
    · rw [decl_p1 x z hit G h, e1, Option.bind_some, e2, Option.bind_some]; exact e5
    · rw [decl_n1 x z hit' G' h, e3, Option.bind_some, e4, Option.bind_some]; exact e6
  · obtain ⟨u1, e1⟩ := d2_end 950 900 (-1400) (-500) (-300) 100 950 hit (by omega) (by omega)
    obtain ⟨u2, e2⟩ := d2_end 500 1500 (-1700) 100 700 (-800) 500 u1 (by omega) (by omega)
    obtain ⟨u3, e3⟩ := d2_start 950 900 (-1400) (-500) (-300) 100 950 hit' (by omega) (by omega)
    obtain ⟨u4, e4⟩ := d2_start 500 1500 (-1700) 100 700 (-800) 500 u3 (by omega) (by omega)
    obtain ⟨u5, e5⟩ := tailD_eq (950 * 1073741824) (500 * 1073741824) (partI x 2) u2
    obtain ⟨u6, e6⟩ := tailD_eq (950 * 1073741824) (500 * 1073741824) (partI x 2) u4
    refine ⟨tailV (950 * 1073741824) (500 * 1073741824) (partI x 2), u5, u6, ?_, ?_⟩
    · rw [decl_p2 x z hit G h, e1, Option.bind_some, e2, Option.bind_some]; exact e5
    · rw [decl_n2 x z hit' G' h, e3, Option.bind_some, e4, Option.bind_some]; exact e6
  · obtain ⟨u1, e1⟩ := d2_end 500 1500 (-1700) 100 700 (-800) 500 hit (by omega) (by omega)
    obtain ⟨u2, e2⟩ := d2_end 1000 4000 (-3000) 500 3500 (-1200) 1000 u1 (by omega) (by omega)
    obtain ⟨u3, e3⟩ := d2_start 500 1500 (-1700) 100 700 (-800) 500 hit' (by omega) (by omega)
    obtain ⟨u4, e4⟩ := d2_start 1000 4000 (-3000) 500 3500 (-1200) 1000 u3 (by omega) (by omega)
    obtain ⟨u5, e5⟩ := tailD_eq (500 * 1073741824) (1000 * 1073741824) (partI x 3) u2
    obtain ⟨u6, e6⟩ := tailD_eq (500 * 1073741824) (1000 * 1073741824) (partI x 3) u4
    refine ⟨tailV (500 * 1073741824) (1000 * 1073741824) (partI x 3), u5, u6, ?_, ?_⟩
    · rw [decl_p3 x z hit G h, e1, Option.bind_some, e2, Option.bind_some]; exact e5
    · rw [decl_n3 x z hit' G' h, e3, Option.bind_some, e4, Option.bind_some]; exact e6
theorem earthRound_plain (x0 x1 x2 x3 x4 : Int) : f_astrolabelaw8_EarthRound x0 x1 x2 x3 x4 = some true := by
  unfold f_astrolabelaw8_EarthRound K_astrolabelaw8_EarthRound
  have aw : f_astrolabelaw8_awake = some true := by kernel_rfl
  rw [aw, Option.bind_some, Bool.not_true, cond_false]
  obtain ⟨r, hr⟩ := t_new x0 x1 x2
  rw [hr, Option.bind_some]
  rcases new_sh x0 x1 x2 r hr with rfl | ⟨F, n, e, rfl⟩
  · rfl
  simp only [cond_false, Option.bind_some]
  obtain ⟨g, hg⟩ := t_good x3 1800000000 x4
  rw [hg, Option.bind_some]
  cases g with
  | false => rfl
  | true =>
    have G := good_p hg
    have G' : GoodP x3 (-1800000000) x4 := by
      obtain ⟨g1, g2, g3, g4, g5, g6⟩ := G
      exact ⟨g1, g2, by omega, by omega, g5, g6⟩
    obtain ⟨f1, f2, f3, f4, f5, f6⟩ := F
    rw [Bool.not_true, cond_false]
    obtain ⟨v, u, u', e1, _⟩ := decl_ends x3 x4 false false G
    obtain ⟨v', w, u'', e2, e3⟩ := decl_ends x3 x4 false u G
    rw [e2] at e1
    cases e1
    rw [e2, Option.bind_some, e3, Option.bind_some]
    obtain ⟨a, ha⟩ := to_eq x3 1800000000 x4 x0 x1 x2 n e u'' G f3 f4
    simp only [ha, Option.bind_some]
    obtain ⟨b, hb⟩ := to_eq x3 (-1800000000) x4 x0 x1 x2 n e a G' f3 f4
    rw [hb, Option.bind_some, red_ends x1 f3 f4]
    simp
theorem earthRound_ev (f : (Int) → (Int) → (Int) → (Int) → (Int) → Option Bool) (x0_0 : Int) (x0_1 : Int) (x0_2 : Int) (x1_0 : Int) (x2_0 : Int) : F_astrolabelaw8_EarthRound f [.r (.agg [.c (.f (.i .i64 x0_0)), .c (.f (.i .i64 x0_1)), .c (.f (.i .i64 x0_2))]), .r (.c (.f (.i .i64 x1_0))), .r (.c (.f (.i .i64 x2_0)))] [] = .opt (f x0_0 x0_1 x0_2 x1_0 x2_0) fun d => .leaf ⟨.r (.c (.f (.b d))), [], []⟩ := by kernel_rfl
theorem earthRound_trues : Trues (F_astrolabelaw8_EarthRound f_astrolabelaw8_EarthRound) [.flat true [.c (.i .i64), .c (.i .i64), .c (.i .i64)], .flat false [.c (.i .i64)], .flat false [.c (.i .i64)]] := fun ds h => by
  obtain ⟨_, _, rfl, q0_0, g0⟩ := fit_flat h
  obtain ⟨x0_0, _, rfl, r0_0, q0_1⟩ := f1_i q0_0
  obtain ⟨x0_1, _, rfl, r0_1, q0_2⟩ := f1_i q0_1
  obtain ⟨x0_2, _, rfl, r0_2, q0_3⟩ := f1_i q0_2
  obtain rfl := f1_nil q0_3
  obtain ⟨_, _, rfl, q1_0, g1⟩ := fit_flat g0
  obtain ⟨x1_0, _, rfl, r1_0, q1_1⟩ := f1_i q1_0
  obtain rfl := f1_nil q1_1
  obtain ⟨_, _, rfl, q2_0, g2⟩ := fit_flat g1
  obtain ⟨x2_0, _, rfl, r2_0, q2_1⟩ := f1_i q2_0
  obtain rfl := f1_nil q2_1
  obtain rfl := fit_nil g2
  refine ⟨[], (congrArg T.eval (earthRound_ev f_astrolabelaw8_EarthRound x0_0 x0_1 x0_2 x1_0 x2_0)).trans ?_⟩
  rw [earthRound_plain x0_0 x0_1 x0_2 x1_0 x2_0]
  rfl
set_option maxRecDepth 100000 in
theorem earthRound_lifted (os : Os) (started : os.Started) (H : Type) (enc : TypeId × Value → H) :
    ReturnsInHanded {} Try.checked os 12 .any (Rows.earthRoundSpec.pre6 enc Try.prog Try.f12 Rows.earthRoundRow.domain false) (Rows.earthRoundSpec.post enc Try.prog Try.f12 false true false false) :=
  law_lift (C := Try.checked) (tb := Try.f12.resultTypes.getD 0 0) own started (by kernel_rfl) Try.func12 laid (by kernel_rfl) (by kernel_rfl) (by kernel_rfl) rfl
    (fun ds h => by
      have h : ds.length = 3 := h.trans (by kernel_rfl)
      match ds, h with
      | [_, _, _], _ => rfl)
    (ChangeSpec.witness6 (enc := enc) (C := Try.checked) false ⟨#[], #[.agg #[.int .i64 0, .int .i64 0, .int .i64 0], .int .i64 0, .int .i64 0], []⟩ 8 (by kernel_rfl) (by kernel_rfl) (by kernel_rfl) (by kernel_rfl))
    (fun W base args ds ps _ hval ht hz _ _ => prm_calls (pr := [.flat true [.c (.i .i64), .c (.i .i64), .c (.i .i64)], .flat false [.c (.i .i64)], .flat false [.c (.i .i64)]]) s_astrolabelaw8_EarthRound (by kernel_rfl) (ts := Try.f12.params.toList) (by kernel_rfl) (by kernel_rfl) earthRound_trues hval ht hz)
theorem earthRound_over : Rows.earthRoundRow.holds Try.pinned (OpenSpec.ofChange Rows.earthRoundSpec) :=
  OpenClaim.holds_of_wide 12 Try.f12 rfl rfl rfl rfl rfl rfl rfl ⟨rfl, rfl, rfl, rfl, rfl⟩ rfl rfl rfl rfl rfl (by kernel_rfl) Try.func12 (by kernel_rfl)
    (of_decide_eq_true (by kernel_rfl)) (by unfold Func.isWrapper; first | (rw [if_pos (by decide +kernel)]; kernel_rfl) | (rw [if_neg (by decide +kernel)]; exact ⟨rfl, rfl⟩))
    (fun os started H enc _ => earthRound_lifted os started H enc)
/-- the statement -/
theorem earthRound_proved : Rows.EarthRoundSaid := earthRound_over
#print axioms earthRound_proved
end Go.Proofs.Ytcalippagaaikaa
end
/-
  Chapter 8: EarthBounds: the statement of astrolabelaw8.EarthBounds.
-/
section
set_option maxRecDepth 100000
set_option maxHeartbeats 4000000
set_option linter.unusedVariables false
set_option linter.unusedSimpArgs false
namespace Go.Proofs.Ytcalippagaaikaa
open Go.Ab
theorem overI {x : Int} (h : -1152921504606846976 ≤ x ∧ x ≤ 1152921504606846976) : over x = false := by
  unfold over; rw [decide_eq_false (by omega), decide_eq_false (by omega)]; rfl
theorem redL_bd (d : Int) (h1 : -3600000000 ≤ d) (h2 : d ≤ 3600000000) : -1800000000 ≤ redL d ∧ redL d ≤ 1800000000 := by
  unfold redL; split <;> (try split) <;> omega
theorem to_full (x0 x1 x2 f0 f1 f2 f3 f4 : Int) (hit : Bool) (G : GoodP x0 x1 x2) (F : GoodP f0 f1 f2) (n1 : -13000000000 ≤ f3) (n2 : f3 ≤ 13000000000) (e1 : -13000000000 ≤ f4) (e2 : f4 ≤ 13000000000) :
    f___earth_Frame__To x0 x1 x2 f0 f1 f2 f3 f4 hit = some (rnd ((x0 - f0) * f3) 10, rnd (redL (x1 - f1) * f4) 10, rdq ((f2 - x2) * 1073741824) 1000, 0, hit) := by
  unfold f___earth_Frame__To K___earth_Frame__To
  rw [good_yes G, Option.bind_some, Bool.not_true, cond_false]
  obtain ⟨g1, g2, g3, g4, g5, g6⟩ := G
  obtain ⟨k1, k2, k3, k4, k5, k6⟩ := F
  have w1 : IntKind.wrap .i64 (x1 - f1) = x1 - f1 := wrap_i64 (by omega) (by omega)
  have w2 : IntKind.wrap .i64 (x1 - f1 - 3600000000) = x1 - f1 - 3600000000 := wrap_i64 (by omega) (by omega)
  have w3 : IntKind.wrap .i64 (x1 - f1 + 3600000000) = x1 - f1 + 3600000000 := wrap_i64 (by omega) (by omega)
  have w4 : IntKind.wrap .i64 (x0 - f0) = x0 - f0 := wrap_i64 (by omega) (by omega)
  have w5 : IntKind.wrap .i64 (f2 - x2) = f2 - x2 := wrap_i64 (by omega) (by omega)
  have m : ∀ a b hit, -1800000000 ≤ a → a ≤ 1800000000 → -13000000000 ≤ b → b ≤ 13000000000 → f___fx_Acc__Mul a b 10 hit = some (rnd (a * b) 10, hit) := by
    intro a b hit a1 a2 b1 b2
    have q : f___fx_Acc__Mul a b 10 hit = some (sat (rnd (sat a * sat b) 10), hit || over a || over b || over (rnd (sat a * sat b) 10)) := acc_mul a b 10 hit (by omega)
    have p := mulB a b 1800000000 13000000000 a1 a2 b1 b2
    have r := rnd10_bd (a * b) 1000000000000000000 (by omega) (by omega)
    rw [q, satI (x := a) (by omega), satI (x := b) (by omega), satI (by omega), overI (x := a) (by omega), overI (x := b) (by omega), overI (by omega)]
    simp
  have d : ∀ hit, f___fx_Acc__MulDiv (f2 - x2) 1073741824 1000 hit = some (rdq ((f2 - x2) * 1073741824) 1000, hit) := by
    intro hit
    have r := rdq_bd ((f2 - x2) * 1073741824) 1000 1000000000000000000 (by omega) (by omega) (by omega)
    rw [acc_muldiv _ _ _ _ (by decide), satI (x := f2 - x2) (by omega), show sat 1073741824 = 1073741824 from rfl, show sat 1000 = 1000 from rfl, satI (by omega), overI (x := f2 - x2) (by omega), overI (x := rdq _ _) (by omega), show over 1073741824 = false from rfl, show over 1000 = false from rfl]
    simp
  have rb := redL_bd (x1 - f1) (by omega) (by omega)
  rw [w1, w2, w3, w4, w5]
  unfold redL at rb ⊢
  by_cases c : x1 - f1 > 1800000000
  · rw [if_pos c] at rb
    rw [if_pos c, decide_eq_true c, cond_true, m _ _ _ (by omega) (by omega) n1 n2, Option.bind_some]
    simp only [m _ _ _ rb.1 rb.2 e1 e2, Option.bind_some, d]
  · rw [if_neg c] at rb
    rw [if_neg c, decide_eq_false c, cond_false]
    by_cases z : x1 - f1 ≤ -1800000000
    · rw [if_pos z] at rb
      rw [if_pos z, decide_eq_true z, cond_true, m _ _ _ (by omega) (by omega) n1 n2, Option.bind_some]
      simp only [m _ _ _ rb.1 rb.2 e1 e2, Option.bind_some, d]
    · rw [if_neg z] at rb
      rw [if_neg z, decide_eq_false z, cond_false, m _ _ _ (by omega) (by omega) n1 n2, Option.bind_some]
      simp only [m _ _ _ rb.1 rb.2 e1 e2, Option.bind_some, d]
theorem rdq_np (a d : Int) (h : 0 < d) (a0 : a ≤ 0) : rdq a d ≤ 0 := by
  rcases Int.lt_or_le a 0 with c | c
  · refine (rdq_sign a d (by omega)).2 ?_
    rw [decide_eq_true c, decide_eq_false (by omega)]; decide
  · have : a = 0 := by omega
    rw [this, rdq_none d h]; omega
theorem d1_bd (a b p d M : Int) (hit : Bool) (MM : M ≤ 100000000000000) (A : -M ≤ a ∧ a ≤ M) (B : -M ≤ b ∧ b ≤ M) (P : 0 ≤ p ∧ p ≤ d) (D : 0 < d ∧ d ≤ 1000000000) :
    ∃ r, (-M ≤ r ∧ r ≤ M) ∧ f_earth_Declination_1 a b p d hit = some (r, hit) := by
  unfold f_earth_Declination_1 K_earth_Declination_1
  have e1 : IntKind.wrap .i64 (b - a) = b - a := wrap_i64 (by omega) (by omega)
  have s1 : sat (b - a) = b - a := satI (by omega)
  have s2 : sat d = d := satI (by omega)
  have s3 : sat p = p := satI (by omega)
  rw [e1, acc_muldiv _ _ _ _ (by rw [s2]; omega), s1, s2, s3, overI (x := b - a) (by omega), overI (x := p) (by omega), overI (x := d) (by omega)]
  have key : (-M ≤ a + rdq ((b - a) * p) d ∧ a + rdq ((b - a) * p) d ≤ M) ∧ (-1152921504606846976 ≤ rdq ((b - a) * p) d ∧ rdq ((b - a) * p) d ≤ 1152921504606846976) := by
    rcases Int.lt_or_le b a with c | c
    · have x1 := Int.mul_nonneg (show 0 ≤ a - b by omega) (show 0 ≤ d - p by omega)
      have x2 := Int.mul_nonneg (show 0 ≤ a - b by omega) P.1
      have x3 : (a - b) * (d - p) = (a - b) * d - (a - b) * p := by grind
      have x4 : (b - a) * p = -((a - b) * p) := by grind
      have r := rdq_bd ((b - a) * p) d (a - b) D.1 (by omega) (by omega)
      have n := rdq_np ((b - a) * p) d D.1 (by omega)
      omega
    · have x1 := Int.mul_nonneg (show 0 ≤ b - a by omega) (show 0 ≤ d - p by omega)
      have x2 := Int.mul_nonneg (show 0 ≤ b - a by omega) P.1
      have x3 : (b - a) * (d - p) = (b - a) * d - (b - a) * p := by grind
      have r := rdq_bd ((b - a) * p) d (b - a) D.1 (by omega) (by omega)
      have n := rdq_nn ((b - a) * p) d D.1 (by omega)
      omega
  rw [satI key.2, overI key.2, Option.bind_some]
  simp only [Bool.or_false]
  rw [wrap_i64 (by omega) (by omega)]
  exact ⟨_, key.1, rfl⟩
def colI (y : Int) : Int := (if 5 < IntKind.wrap IntKind.i64 (Int.tdiv (IntKind.wrap IntKind.i64 (y + 1800000000)) 600000000) then 5 else IntKind.wrap IntKind.i64 (Int.tdiv (IntKind.wrap IntKind.i64 (y + 1800000000)) 600000000))
def colP (y : Int) : Int := IntKind.wrap IntKind.i64 (IntKind.wrap IntKind.i64 (y + 1800000000) - IntKind.wrap IntKind.i64 (colI y * 600000000))
theorem colI_cases (y : Int) (h1 : -1800000000 ≤ y) (h2 : y ≤ 1800000000) : (0 ≤ colP y ∧ colP y ≤ 600000000) ∧ (colI y = 0 ∨ colI y = 1 ∨ colI y = 2 ∨ colI y = 3 ∨ colI y = 4 ∨ colI y = 5) := by
  unfold colP
  have e : IntKind.wrap .i64 (y + 1800000000) = y + 1800000000 := wrap_i64 (by omega) (by omega)
  have t : Int.tdiv (y + 1800000000) 600000000 = (y + 1800000000) / 600000000 := Int.tdiv_eq_ediv_of_nonneg (by omega)
  have c : colI y = if 5 < (y + 1800000000) / 600000000 then 5 else (y + 1800000000) / 600000000 := by
    unfold colI
    rw [e, t, wrap_i64 (by omega) (by omega)]
  have b : 0 ≤ colI y ∧ colI y ≤ 5 ∧ colI y * 600000000 ≤ y + 1800000000 ∧ y + 1800000000 - colI y * 600000000 ≤ 600000000 := by
    rw [c]; split <;> omega
  rw [e, wrap_i64 (n := colI y * 600000000) (by omega) (by omega), wrap_i64 (by omega) (by omega)]
  omega
theorem partI_bd (x : Int) (h1 : -900000000 ≤ x) (h2 : x ≤ 900000000) : 0 ≤ partI x (rowI x) ∧ partI x (rowI x) ≤ 450000000 := by
  unfold partI
  have e : IntKind.wrap .i64 (x + 900000000) = x + 900000000 := wrap_i64 (by omega) (by omega)
  have t : Int.tdiv (x + 900000000) 450000000 = (x + 900000000) / 450000000 := Int.tdiv_eq_ediv_of_nonneg (by omega)
  have c : rowI x = if 3 < (x + 900000000) / 450000000 then 3 else (x + 900000000) / 450000000 := by
    unfold rowI
    rw [e, t, wrap_i64 (by omega) (by omega)]
  have b : 0 ≤ rowI x ∧ rowI x ≤ 3 ∧ rowI x * 450000000 ≤ x + 900000000 ∧ x + 900000000 - rowI x * 450000000 ≤ 450000000 := by
    rw [c]; split <;> omega
  rw [e, wrap_i64 (n := rowI x * 450000000) (by omega) (by omega), wrap_i64 (by omega) (by omega)]
  omega
def In9 (a : Int) : Prop := -9000 ≤ a ∧ a ≤ 9000
theorem d2_bd (a b c d e f g y : Int) (hit : Bool) (h1 : -1800000000 ≤ y) (h2 : y ≤ 1800000000) (A : In9 a) (B : In9 b) (C : In9 c) (D : In9 d) (E : In9 e) (F : In9 f) (G : In9 g) :
    ∃ r, (-9663676416000 ≤ r ∧ r ≤ 9663676416000) ∧ f_earth_Declination_2 a b c d e f g (colI y) (colP y) hit = some (r, hit) := by
  obtain ⟨p, i⟩ := colI_cases y h1 h2
  generalize colP y = q at p
  unfold In9 at A B C D E F G
  rcases i with i | i | i | i | i | i
  · rw [i]
    have h : f_earth_Declination_2 a b c d e f g 0 q hit = Option.bind (f_earth_Declination_1 (IntKind.wrap .i64 (a * 1073741824)) (IntKind.wrap .i64 (b * 1073741824)) q 600000000 hit) fun d => some (d.1, d.2) := by kernel_rfl
    rw [h, wrap_i64 (n := a * 1073741824) (by omega) (by omega), wrap_i64 (n := b * 1073741824) (by omega) (by omega)]
    obtain ⟨r, hr, hu⟩ := d1_bd (a * 1073741824) (b * 1073741824) q 600000000 9663676416000 hit (by omega) (by omega) (by omega) p (by omega)
    exact ⟨r, hr, by rw [hu]; rfl⟩
  · rw [i]
    have h : f_earth_Declination_2 a b c d e f g 1 q hit = Option.bind (f_earth_Declination_1 (IntKind.wrap .i64 (b * 1073741824)) (IntKind.wrap .i64 (c * 1073741824)) q 600000000 hit) fun d => some (d.1, d.2) := by kernel_rfl
    rw [h, wrap_i64 (n := b * 1073741824) (by omega) (by omega), wrap_i64 (n := c * 1073741824) (by omega) (by omega)]
    obtain ⟨r, hr, hu⟩ := d1_bd (b * 1073741824) (c * 1073741824) q 600000000 9663676416000 hit (by omega) (by omega) (by omega) p (by omega)
    exact ⟨r, hr, by rw [hu]; rfl⟩
  · rw [i]
    have h : f_earth_Declination_2 a b c d e f g 2 q hit = Option.bind (f_earth_Declination_1 (IntKind.wrap .i64 (c * 1073741824)) (IntKind.wrap .i64 (d * 1073741824)) q 600000000 hit) fun d => some (d.1, d.2) := by kernel_rfl
    rw [h, wrap_i64 (n := c * 1073741824) (by omega) (by omega), wrap_i64 (n := d * 1073741824) (by omega) (by omega)]
    obtain ⟨r, hr, hu⟩ := d1_bd (c * 1073741824) (d * 1073741824) q 600000000 9663676416000 hit (by omega) (by omega) (by omega) p (by omega)
    exact ⟨r, hr, by rw [hu]; rfl⟩
  · rw [i]
    have h : f_earth_Declination_2 a b c d e f g 3 q hit = Option.bind (f_earth_Declination_1 (IntKind.wrap .i64 (d * 1073741824)) (IntKind.wrap .i64 (e * 1073741824)) q 600000000 hit) fun d => some (d.1, d.2) := by kernel_rfl
    rw [h, wrap_i64 (n := d * 1073741824) (by omega) (by omega), wrap_i64 (n := e * 1073741824) (by omega) (by omega)]
    obtain ⟨r, hr, hu⟩ := d1_bd (d * 1073741824) (e * 1073741824) q 600000000 9663676416000 hit (by omega) (by omega) (by omega) p (by omega)
    exact ⟨r, hr, by rw [hu]; rfl⟩
  · rw [i]
    have h : f_earth_Declination_2 a b c d e f g 4 q hit = Option.bind (f_earth_Declination_1 (IntKind.wrap .i64 (e * 1073741824)) (IntKind.wrap .i64 (f * 1073741824)) q 600000000 hit) fun d => some (d.1, d.2) := by kernel_rfl
    rw [h, wrap_i64 (n := e * 1073741824) (by omega) (by omega), wrap_i64 (n := f * 1073741824) (by omega) (by omega)]
    obtain ⟨r, hr, hu⟩ := d1_bd (e * 1073741824) (f * 1073741824) q 600000000 9663676416000 hit (by omega) (by omega) (by omega) p (by omega)
    exact ⟨r, hr, by rw [hu]; rfl⟩
  · rw [i]
    have h : f_earth_Declination_2 a b c d e f g 5 q hit = Option.bind (f_earth_Declination_1 (IntKind.wrap .i64 (f * 1073741824)) (IntKind.wrap .i64 (g * 1073741824)) q 600000000 hit) fun d => some (d.1, d.2) := by kernel_rfl
    rw [h, wrap_i64 (n := f * 1073741824) (by omega) (by omega), wrap_i64 (n := g * 1073741824) (by omega) (by omega)]
    obtain ⟨r, hr, hu⟩ := d1_bd (f * 1073741824) (g * 1073741824) q 600000000 9663676416000 hit (by omega) (by omega) (by omega) p (by omega)
    exact ⟨r, hr, by rw [hu]; rfl⟩
theorem decl_r0 (x y z : Int) (hit : Bool) (G : GoodP x y z) (hE : rowI x = 0) :
    f_earth_Declination x y z hit = Option.bind (f_earth_Declination_2 3000 6000 (-2000) (-1500) (-6000) (-9000) 3000 (colI y) (colP y) hit) fun d => Option.bind (f_earth_Declination_2 2200 2500 500 (-2200) (-3800) 0 2200 (colI y) (colP y) d.2) fun d_1 => tailD d.1 d_1.1 (partI x 0) d_1.2 := by
  unfold rowI at hE
  have hi : IntKind.wrap IntKind.i64 (0 + 1) = 1 := by decide
  have q1 : inR 0 5 = true := by decide
  have q2 : inR 1 5 = true := by decide
  unfold f_earth_Declination K_earth_Declination
  rw [good_yes G, Option.bind_some, Bool.not_true, cond_false]
  simp only [hE, hi, q1, q2, cond_true, cond_false, show ((0 : Int) == 0) = true from rfl, show ((0 : Int) == 1) = false from rfl, show ((0 : Int) == 2) = false from rfl, show ((0 : Int) == 3) = false from rfl, show ((0 : Int) == 4) = false from rfl, show ((1 : Int) == 0) = false from rfl, show ((1 : Int) == 1) = true from rfl, show ((1 : Int) == 2) = false from rfl, show ((1 : Int) == 3) = false from rfl, show ((1 : Int) == 4) = false from rfl, show ((2 : Int) == 0) = false from rfl, show ((2 : Int) == 1) = false from rfl, show ((2 : Int) == 2) = true from rfl, show ((2 : Int) == 3) = false from rfl, show ((2 : Int) == 4) = false from rfl, show ((3 : Int) == 0) = false from rfl, show ((3 : Int) == 1) = false from rfl, show ((3 : Int) == 2) = false from rfl, show ((3 : Int) == 3) = true from rfl, show ((3 : Int) == 4) = false from rfl, show ((4 : Int) == 0) = false from rfl, show ((4 : Int) == 1) = false from rfl, show ((4 : Int) == 2) = false from rfl, show ((4 : Int) == 3) = false from rfl, show ((4 : Int) == 4) = true from rfl]
  rfl
theorem decl_r1 (x y z : Int) (hit : Bool) (G : GoodP x y z) (hE : rowI x = 1) :
    f_earth_Declination x y z hit = Option.bind (f_earth_Declination_2 2200 2500 500 (-2200) (-3800) 0 2200 (colI y) (colP y) hit) fun d => Option.bind (f_earth_Declination_2 950 900 (-1400) (-500) (-300) 100 950 (colI y) (colP y) d.2) fun d_1 => tailD d.1 d_1.1 (partI x 1) d_1.2 := by
  unfold rowI at hE
  have hi : IntKind.wrap IntKind.i64 (1 + 1) = 2 := by decide
  have q1 : inR 1 5 = true := by decide
  have q2 : inR 2 5 = true := by decide
  unfold f_earth_Declination K_earth_Declination
  rw [good_yes G, Option.bind_some, Bool.not_true, cond_false]
  simp only [hE, hi, q1, q2, cond_true, cond_false, show ((0 : Int) == 0) = true from rfl, show ((0 : Int) == 1) = false from rfl, show ((0 : Int) == 2) = false from rfl, show ((0 : Int) == 3) = false from rfl, show ((0 : Int) == 4) = false from rfl, show ((1 : Int) == 0) = false from rfl, show ((1 : Int) == 1) = true from rfl, show ((1 : Int) == 2) = false from rfl, show ((1 : Int) == 3) = false from rfl, show ((1 : Int) == 4) = false from rfl, show ((2 : Int) == 0) = false from rfl, show ((2 : Int) == 1) = false from rfl, show ((2 : Int) == 2) = true from rfl, show ((2 : Int) == 3) = false from rfl, show ((2 : Int) == 4) = false from rfl, show ((3 : Int) == 0) = false from rfl, show ((3 : Int) == 1) = false from rfl, show ((3 : Int) == 2) = false from rfl, show ((3 : Int) == 3) = true from rfl, show ((3 : Int) == 4) = false from rfl, show ((4 : Int) == 0) = false from rfl, show ((4 : Int) == 1) = false from rfl, show ((4 : Int) == 2) = false from rfl, show ((4 : Int) == 3) = false from rfl, show ((4 : Int) == 4) = true from rfl]
  rfl
theorem decl_r2 (x y z : Int) (hit : Bool) (G : GoodP x y z) (hE : rowI x = 2) :
    f_earth_Declination x y z hit = Option.bind (f_earth_Declination_2 950 900 (-1400) (-500) (-300) 100 950 (colI y) (colP y) hit) fun d => Option.bind (f_earth_Declination_2 500 1500 (-1700) 100 700 (-800) 500 (colI y) (colP y) d.2) fun d_1 => tailD d.1 d_1.1 (partI x 2) d_1.2 := by
  unfold rowI at hE
  have hi : IntKind.wrap IntKind.i64 (2 + 1) = 3 := by decide
  have q1 : inR 2 5 = true := by decide
  have q2 : inR 3 5 = true := by decide
  unfold f_earth_Declination K_earth_Declination
  rw [good_yes G, Option.bind_some, Bool.not_true, cond_false]
  simp only [hE, hi, q1, q2, cond_true, cond_false, show ((0 : Int) == 0) = true from rfl, show ((0 : Int) == 1) = false from rfl, show ((0 : Int) == 2) = false from rfl, show ((0 : Int) == 3) = false from rfl, show ((0 : Int) == 4) = false from rfl, show ((1 : Int) == 0) = false from rfl, show ((1 : Int) == 1) = true from rfl, show ((1 : Int) == 2) = false from rfl, show ((1 : Int) == 3) = false from rfl, show ((1 : Int) == 4) = false from rfl, show ((2 : Int) == 0) = false from rfl, show ((2 : Int) == 1) = false from rfl, show ((2 : Int) == 2) = true from rfl, show ((2 : Int) == 3) = false from rfl, show ((2 : Int) == 4) = false from rfl, show ((3 : Int) == 0) = false from rfl, show ((3 : Int) == 1) = false from rfl, show ((3 : Int) == 2) = false from rfl, show ((3 : Int) == 3) = true from rfl, show ((3 : Int) == 4) = false from rfl, show ((4 : Int) == 0) = false from rfl, show ((4 : Int) == 1) = false from rfl, show ((4 : Int) == 2) = false from rfl, show ((4 : Int) == 3) = false from rfl, show ((4 : Int) == 4) = true from rfl]
  rfl
theorem decl_r3 (x y z : Int) (hit : Bool) (G : GoodP x y z) (hE : rowI x = 3) :
    f_earth_Declination x y z hit = Option.bind (f_earth_Declination_2 500 1500 (-1700) 100 700 (-800) 500 (colI y) (colP y) hit) fun d => Option.bind (f_earth_Declination_2 1000 4000 (-3000) 500 3500 (-1200) 1000 (colI y) (colP y) d.2) fun d_1 => tailD d.1 d_1.1 (partI x 3) d_1.2 := by
  unfold rowI at hE
  have hi : IntKind.wrap IntKind.i64 (3 + 1) = 4 := by decide
  have q1 : inR 3 5 = true := by decide
  have q2 : inR 4 5 = true := by decide
  unfold f_earth_Declination K_earth_Declination
  rw [good_yes G, Option.bind_some, Bool.not_true, cond_false]
  simp only [hE, hi, q1, q2, cond_true, cond_false, show ((0 : Int) == 0) = true from rfl, show ((0 : Int) == 1) = false from rfl, show ((0 : Int) == 2) = false from rfl, show ((0 : Int) == 3) = false from rfl, show ((0 : Int) == 4) = false from rfl, show ((1 : Int) == 0) = false from rfl, show ((1 : Int) == 1) = true from rfl, show ((1 : Int) == 2) = false from rfl, show ((1 : Int) == 3) = false from rfl, show ((1 : Int) == 4) = false from rfl, show ((2 : Int) == 0) = false from rfl, show ((2 : Int) == 1) = false from rfl, show ((2 : Int) == 2) = true from rfl, show ((2 : Int) == 3) = false from rfl, show ((2 : Int) == 4) = false from rfl, show ((3 : Int) == 0) = false from rfl, show ((3 : Int) == 1) = false from rfl, show ((3 : Int) == 2) = false from rfl, show ((3 : Int) == 3) = true from rfl, show ((3 : Int) == 4) = false from rfl, show ((4 : Int) == 0) = false from rfl, show ((4 : Int) == 1) = false from rfl, show ((4 : Int) == 2) = false from rfl, show ((4 : Int) == 3) = false from rfl, show ((4 : Int) == 4) = true from rfl]
  rfl
theorem tailD_bd (a b p : Int) (hit : Bool) (A : -9663676416000 ≤ a ∧ a ≤ 9663676416000) (B : -9663676416000 ≤ b ∧ b ≤ 9663676416000) (P : 0 ≤ p ∧ p ≤ 450000000) :
    ∃ r, (-3373259426 ≤ r ∧ r ≤ 3373259426) ∧ tailD a b p hit = some (r, 0, hit) := by
  unfold tailD
  obtain ⟨r, hr, hu⟩ := d1_bd a b p 450000000 9663676416000 hit (by omega) A B P (by omega)
  have k := rdq_bd (r * 3373259426) 19327352832000 3373259426 (by omega) (by omega) (by omega)
  rw [hu, Option.bind_some, acc_muldiv _ _ _ _ (by decide), satI (x := r) (by omega), show sat 3373259426 = 3373259426 from rfl, show sat 19327352832000 = 19327352832000 from rfl, overI (x := r) (by omega), show over 3373259426 = false from rfl, show over 19327352832000 = false from rfl, satI (x := rdq _ _) (by omega), overI (x := rdq _ _) (by omega), Option.bind_some]
  simp only [Bool.or_false]
  exact ⟨_, k, rfl⟩
theorem decl_bd (x y z : Int) (hit : Bool) (G : GoodP x y z) : ∃ r, (-3373259426 ≤ r ∧ r ≤ 3373259426) ∧ f_earth_Declination x y z hit = some (r, 0, hit) := by
  have P := partI_bd x G.1 G.2.1
  have y1 := G.2.2.1
  have y2 := G.2.2.2.1
  rcases rowI_cases x G.1 G.2.1 with h | h | h | h
  · obtain ⟨a, ha, e1⟩ := d2_bd 3000 6000 (-2000) (-1500) (-6000) (-9000) 3000 y hit y1 y2 (by unfold In9; omega) (by unfold In9; omega) (by unfold In9; omega) (by unfold In9; omega) (by unfold In9; omega) (by unfold In9; omega) (by unfold In9; omega)
    obtain ⟨b, hb, e2⟩ := d2_bd 2200 2500 500 (-2200) (-3800) 0 2200 y hit y1 y2 (by unfold In9; omega) (by unfold In9; omega) (by unfold In9; omega) (by unfold In9; omega) (by unfold In9; omega) (by unfold In9; omega) (by unfold In9; omega)
    obtain ⟨c, hc, e3⟩ := tailD_bd a b (partI x 0) hit ha hb (h ▸ P)
    refine ⟨c, hc, ?_⟩
    rw [decl_r0 x y z hit G h, e1, Option.bind_some, e2, Option.bind_some]; exact e3
  · obtain ⟨a, ha, e1⟩ := d2_bd 2200 2500 500 (-2200) (-3800) 0 2200 y hit y1 y2 (by unfold In9; omega) (by unfold In9; omega) (by unfold In9; omega) (by unfold In9; omega) (by unfold In9; omega) (by unfold In9; omega) (by unfold In9; omega)
    obtain ⟨b, hb, e2⟩ := d2_bd 950 900 (-1400) (-500) (-300) 100 950 y hit y1 y2 (by unfold In9; omega) (by unfold In9; omega) (by unfold In9; omega) (by unfold In9; omega) (by unfold In9; omega) (by unfold In9; omega) (by unfold In9; omega)
    obtain ⟨c, hc, e3⟩ := tailD_bd a b (partI x 1) hit ha hb (h ▸ P)
    refine ⟨c, hc, ?_⟩
    rw [decl_r1 x y z hit G h, e1, Option.bind_some, e2, Option.bind_some]; exact e3
  · obtain ⟨a, ha, e1⟩ := d2_bd 950 900 (-1400) (-500) (-300) 100 950 y hit y1 y2 (by unfold In9; omega) (by unfold In9; omega) (by unfold In9; omega) (by unfold In9; omega) (by unfold In9; omega) (by unfold In9; omega) (by unfold In9; omega)
    obtain ⟨b, hb, e2⟩ := d2_bd 500 1500 (-1700) 100 700 (-800) 500 y hit y1 y2 (by unfold In9; omega) (by unfold In9; omega) (by unfold In9; omega) (by unfold In9; omega) (by unfold In9; omega) (by unfold In9; omega) (by unfold In9; omega)
    obtain ⟨c, hc, e3⟩ := tailD_bd a b (partI x 2) hit ha hb (h ▸ P)
    refine ⟨c, hc, ?_⟩
    rw [decl_r2 x y z hit G h, e1, Option.bind_some, e2, Option.bind_some]; exact e3
  · obtain ⟨a, ha, e1⟩ := d2_bd 500 1500 (-1700) 100 700 (-800) 500 y hit y1 y2 (by unfold In9; omega) (by unfold In9; omega) (by unfold In9; omega) (by unfold In9; omega) (by unfold In9; omega) (by unfold In9; omega) (by unfold In9; omega)
    obtain ⟨b, hb, e2⟩ := d2_bd 1000 4000 (-3000) 500 3500 (-1200) 1000 y hit y1 y2 (by unfold In9; omega) (by unfold In9; omega) (by unfold In9; omega) (by unfold In9; omega) (by unfold In9; omega) (by unfold In9; omega) (by unfold In9; omega)
    obtain ⟨c, hc, e3⟩ := tailD_bd a b (partI x 3) hit ha hb (h ▸ P)
    refine ⟨c, hc, ?_⟩
    rw [decl_r3 x y z hit G h, e1, Option.bind_some, e2, Option.bind_some]; exact e3
theorem earthBounds_plain (x0 x1 x2 x3 x4 x5 x6 x7 x8 : Int) : f_astrolabelaw8_EarthBounds x0 x1 x2 x3 x4 x5 x6 x7 x8 = some true := by
  unfold f_astrolabelaw8_EarthBounds K_astrolabelaw8_EarthBounds
  have aw : f_astrolabelaw8_awake = some true := by kernel_rfl
  rw [aw, Option.bind_some, Bool.not_true, cond_false]
  obtain ⟨r, hr⟩ := t_new x0 x1 x2
  rw [hr, Option.bind_some]
  rcases new_bd x0 x1 x2 r hr with rfl | ⟨F, n, e, rfl, n1, n2, e1, e2⟩
  · rfl
  simp only [cond_false, Option.bind_some]
  obtain ⟨g, hg⟩ := t_good x3 x4 x5
  rw [hg, Option.bind_some]
  cases g with
  | false => rfl
  | true =>
    have G := good_p hg
    rw [Bool.not_true, cond_false]
    obtain ⟨g', hg'⟩ := t_good x6 x7 x8
    rw [hg', Option.bind_some]
    cases g' with
    | false => rfl
    | true =>
      have H := good_p hg'
      rw [Bool.not_true, cond_false]
      have G1 : GoodP x3 x7 x8 := ⟨G.1, G.2.1, H.2.2⟩
      have G2 : GoodP x6 x4 x5 := ⟨H.1, H.2.1, G.2.2⟩
      obtain ⟨v, hv, hd⟩ := decl_bd x3 x4 x5 false G
      rw [hd, Option.bind_some]
      simp only [to_full x3 x4 x5 x0 x1 x2 n e _ G F (by omega) n2 e1 e2, to_full x3 x7 x8 x0 x1 x2 n e _ G1 F (by omega) n2 e1 e2, to_full x6 x4 x5 x0 x1 x2 n e _ G2 F (by omega) n2 e1 e2, Option.bind_some,
        decide_eq_false (show ¬ v > 3373259426 by omega), decide_eq_false (show ¬ v < -3373259426 by omega)]
      simp
theorem earthBounds_ev (f : (Int) → (Int) → (Int) → (Int) → (Int) → (Int) → (Int) → (Int) → (Int) → Option Bool) (x0_0 : Int) (x0_1 : Int) (x0_2 : Int) (x1_0 : Int) (x1_1 : Int) (x1_2 : Int) (x2_0 : Int) (x2_1 : Int) (x2_2 : Int) : F_astrolabelaw8_EarthBounds f [.r (.agg [.c (.f (.i .i64 x0_0)), .c (.f (.i .i64 x0_1)), .c (.f (.i .i64 x0_2))]), .r (.agg [.c (.f (.i .i64 x1_0)), .c (.f (.i .i64 x1_1)), .c (.f (.i .i64 x1_2))]), .r (.agg [.c (.f (.i .i64 x2_0)), .c (.f (.i .i64 x2_1)), .c (.f (.i .i64 x2_2))])] [] = .opt (f x0_0 x0_1 x0_2 x1_0 x1_1 x1_2 x2_0 x2_1 x2_2) fun d => .leaf ⟨.r (.c (.f (.b d))), [], []⟩ := by kernel_rfl
theorem earthBounds_trues : Trues (F_astrolabelaw8_EarthBounds f_astrolabelaw8_EarthBounds) [.flat true [.c (.i .i64), .c (.i .i64), .c (.i .i64)], .flat true [.c (.i .i64), .c (.i .i64), .c (.i .i64)], .flat true [.c (.i .i64), .c (.i .i64), .c (.i .i64)]] := fun ds h => by
  obtain ⟨_, _, rfl, q0_0, g0⟩ := fit_flat h
  obtain ⟨x0_0, _, rfl, r0_0, q0_1⟩ := f1_i q0_0
  obtain ⟨x0_1, _, rfl, r0_1, q0_2⟩ := f1_i q0_1
  obtain ⟨x0_2, _, rfl, r0_2, q0_3⟩ := f1_i q0_2
  obtain rfl := f1_nil q0_3
  obtain ⟨_, _, rfl, q1_0, g1⟩ := fit_flat g0
  obtain ⟨x1_0, _, rfl, r1_0, q1_1⟩ := f1_i q1_0
  obtain ⟨x1_1, _, rfl, r1_1, q1_2⟩ := f1_i q1_1
  obtain ⟨x1_2, _, rfl, r1_2, q1_3⟩ := f1_i q1_2
  obtain rfl := f1_nil q1_3
  obtain ⟨_, _, rfl, q2_0, g2⟩ := fit_flat g1
  obtain ⟨x2_0, _, rfl, r2_0, q2_1⟩ := f1_i q2_0
  obtain ⟨x2_1, _, rfl, r2_1, q2_2⟩ := f1_i q2_1
  obtain ⟨x2_2, _, rfl, r2_2, q2_3⟩ := f1_i q2_2
  obtain rfl := f1_nil q2_3
  obtain rfl := fit_nil g2
  refine ⟨[], (congrArg T.eval (earthBounds_ev f_astrolabelaw8_EarthBounds x0_0 x0_1 x0_2 x1_0 x1_1 x1_2 x2_0 x2_1 x2_2)).trans ?_⟩
  rw [earthBounds_plain x0_0 x0_1 x0_2 x1_0 x1_1 x1_2 x2_0 x2_1 x2_2]
  rfl
set_option maxRecDepth 100000 in
theorem earthBounds_lifted (os : Os) (started : os.Started) (H : Type) (enc : TypeId × Value → H) :
    ReturnsInHanded {} Try.checked os 13 .any (Rows.earthBoundsSpec.pre6 enc Try.prog Try.f13 Rows.earthBoundsRow.domain false) (Rows.earthBoundsSpec.post enc Try.prog Try.f13 false true false false) :=
  law_lift (C := Try.checked) (tb := Try.f13.resultTypes.getD 0 0) own started (by kernel_rfl) Try.func13 laid (by kernel_rfl) (by kernel_rfl) (by kernel_rfl) rfl
    (fun ds h => by
      have h : ds.length = 3 := h.trans (by kernel_rfl)
      match ds, h with
      | [_, _, _], _ => rfl)
    (ChangeSpec.witness6 (enc := enc) (C := Try.checked) false ⟨#[], #[.agg #[.int .i64 0, .int .i64 0, .int .i64 0], .agg #[.int .i64 0, .int .i64 0, .int .i64 0], .agg #[.int .i64 0, .int .i64 0, .int .i64 0]], []⟩ 8 (by kernel_rfl) (by kernel_rfl) (by kernel_rfl) (by kernel_rfl))
    (fun W base args ds ps _ hval ht hz _ _ => prm_calls (pr := [.flat true [.c (.i .i64), .c (.i .i64), .c (.i .i64)], .flat true [.c (.i .i64), .c (.i .i64), .c (.i .i64)], .flat true [.c (.i .i64), .c (.i .i64), .c (.i .i64)]]) s_astrolabelaw8_EarthBounds (by kernel_rfl) (ts := Try.f13.params.toList) (by kernel_rfl) (by kernel_rfl) earthBounds_trues hval ht hz)
theorem earthBounds_over : Rows.earthBoundsRow.holds Try.pinned (OpenSpec.ofChange Rows.earthBoundsSpec) :=
  OpenClaim.holds_of_wide 13 Try.f13 rfl rfl rfl rfl rfl rfl rfl ⟨rfl, rfl, rfl, rfl, rfl⟩ rfl rfl rfl rfl rfl (by kernel_rfl) Try.func13 (by kernel_rfl)
    (of_decide_eq_true (by kernel_rfl)) (by unfold Func.isWrapper; first | (rw [if_pos (by decide +kernel)]; kernel_rfl) | (rw [if_neg (by decide +kernel)]; exact ⟨rfl, rfl⟩))
    (fun os started H enc _ => earthBounds_lifted os started H enc)
/-- the statement -/
theorem earthBounds_proved : Rows.EarthBoundsSaid := earthBounds_over
#print axioms earthBounds_proved
end Go.Proofs.Ytcalippagaaikaa
end
/-
  Chapter 8: bounds of a series.
-/
section
set_option maxRecDepth 100000
set_option maxHeartbeats 4000000
set_option linter.unusedVariables false
set_option linter.unusedSimpArgs false
namespace Go.Proofs.Ytcalippagaaikaa
open Go.Ab
theorem loopK_post {D X ρ : Type} {Q : ρ → Prop} {s : D → (D → Option ρ) → (X → Option ρ) → Option ρ} {k : X → Option ρ} (Inv : Nat → D → Prop)
    (h : ∀ t d c, Inv t d → (∀ t' d', t' < t → Inv t' d' → Post Q (c d')) → Post Q (s d c k)) : ∀ (fuel t : Nat) (d : D), t < fuel → Inv t d → Post Q (loopK s fuel d k)
  | 0, t, d, hf, hd => by omega
  | fuel + 1, t, d, hf, hd => by
    rw [loopK_succ]
    exact h t d _ hd fun t' d' ht hd' => loopK_post Inv h fuel t' d' (by omega) hd'
theorem m_eq (a b : Int) (hit : Bool) : ∃ u, f_trig_m a b hit = some (sat (rnd (sat a * sat b) 30), u) := by
  unfold f_trig_m K_trig_m
  have m : f___fx_Acc__Mul a b 30 hit = _ := acc_mul a b 30 hit (by omega)
  rw [m, Option.bind_some]
  exact ⟨_, rfl⟩
/-- a series stays within bounds that hold from step to step -/
theorem series_post (x : Int) (n : Nat) (hit : Bool) (P : Nat → Int) (w : Bool) (Lo Hi : Nat → Int) (h1 : 1 ≤ n) (h2 : n ≤ 150) (h0 : Lo 0 ≤ P 0 ∧ P 0 ≤ Hi 0)
    (hs : ∀ i v, i + 1 < n → Lo i ≤ v → v ≤ Hi i → Lo (i + 1) ≤ sat (sat (P (i + 1)) + sat (sat (rnd (sat x * sat v) 30))) ∧ sat (sat (P (i + 1)) + sat (sat (rnd (sat x * sat v) 30))) ≤ Hi (i + 1)) :
    Post (fun r => Lo (n - 1) ≤ r.1 ∧ r.1 ≤ Hi (n - 1)) (f_trig_series x n hit P w) := by
  unfold f_trig_series K_trig_series
  have e1 : inR 0 n = true := by simp only [inR, Bool.and_eq_true, decide_eq_true_eq]; omega
  have e2 : inRe 1 n = true := by simp only [inRe, Bool.and_eq_true, decide_eq_true_eq]; omega
  rw [e1, cond_true, e2, cond_true]
  unfold L_trig_series_0
  refine loopK_post (fun t d => ∃ (i : Nat) (v : Int) (b : Bool), i + t + 1 = n ∧ (Lo i ≤ v ∧ v ≤ Hi i) ∧ d = (x, v, n - 1, w && true, Int.ofNat (n - 1), Int.ofNat i, b, n, P)) ?_ 200 (n - 1) _ (by omega)
    ⟨0, P 0, hit, by omega, h0, by cases w <;> rfl⟩
  rintro t _ c ⟨i, v, b, hi, hv, rfl⟩ hc
  unfold S_trig_series_0
  by_cases z : t = 0
  · have e : decide (Int.ofNat i < Int.ofNat (n - 1)) = false := decide_eq_false (by simp only [Int.ofNat_eq_natCast]; omega)
    have hin : i = n - 1 := by omega
    simp only [e, cond_false]
    exact post_some (hin ▸ hv)
  · have e : decide (Int.ofNat i < Int.ofNat (n - 1)) = true := decide_eq_true (by simp only [Int.ofNat_eq_natCast]; omega)
    have e3 : inR (Int.ofNat i) (n - 1) = true := by simp only [inR, Bool.and_eq_true, decide_eq_true_eq, Int.ofNat_eq_natCast]; omega
    have e4 : IntKind.wrap .i64 (Int.ofNat i + 1) = Int.ofNat (i + 1) := by
      rw [wrap_i64 (by simp only [Int.ofNat_eq_natCast]; omega) (by simp only [Int.ofNat_eq_natCast]; omega)]; rfl
    obtain ⟨u, hu⟩ := m_eq x v b
    have key := hs i v (by omega) hv.1 hv.2
    simp only [e, cond_true, e3, e4, hu, Option.bind_some, acc_add 2 (by omega)]
    refine hc (t - 1) _ (by omega) ⟨i + 1, _, _, by omega, ?_, rfl⟩
    have e5 : 1 + Int.toNat (Int.ofNat i) = i + 1 := by simp only [Int.ofNat_eq_natCast, Int.toNat_natCast]; omega
    have e6 : sumF (fun j => sat (bif Nat.beq j 1 then sat (rnd (sat x * sat v) 30) else bif Nat.beq j 0 then P (1 + Int.toNat (Int.ofNat i)) else P (1 + Int.toNat (Int.ofNat i)))) 2 = sat (P (i + 1)) + sat (sat (rnd (sat x * sat v) 30)) := by
      rw [e5]; simp [sumF, Nat.beq]
    rw [e6]; exact key
end Go.Proofs.Ytcalippagaaikaa
end
/-
  Chapter 8: bounds of the two series of a sine.
-/
section
set_option maxRecDepth 100000
set_option maxHeartbeats 4000000
set_option linter.unusedVariables false
set_option linter.unusedSimpArgs false
namespace Go.Proofs.Ytcalippagaaikaa
open Go.Ab
theorem stepP (x y X A M : Int) (x0 : 0 ≤ x) (x1 : x ≤ X) (y0 : 0 ≤ y) (y1 : y ≤ A) (h : X * A ≤ M * 1073741824) : 0 ≤ rnd (x * y) 30 ∧ rnd (x * y) 30 ≤ M := by
  have m := mulB x y X A (by omega) x1 (by omega) y1
  have n := Int.mul_nonneg x0 y0
  exact ⟨rnd30_lo (x * y) 0 (by omega) (by omega), (rnd30_bd (x * y) M (by omega) (by omega)).2⟩
theorem stepN (x y X A M : Int) (x0 : 0 ≤ x) (x1 : x ≤ X) (y0 : -A ≤ y) (y1 : y ≤ 0) (h : X * A ≤ M * 1073741824) : -M ≤ rnd (x * y) 30 ∧ rnd (x * y) 30 ≤ 0 := by
  have m := mulB x y X A (by omega) x1 y0 (by omega)
  have n := Int.mul_nonneg x0 (show 0 ≤ -y by omega)
  have e : x * -y = -(x * y) := by grind
  refine ⟨(rnd30_bd (x * y) M (by omega) (by omega)).1, ?_⟩
  unfold rnd half
  rw [if_neg (by omega : ¬ (30 : Nat) = 0), show (2 : Int) ^ (30 - 1) = 536870912 from rfl, show (2 : Int) ^ 30 = 1073741824 from rfl]
  split <;> omega
def loA : Nat → Int := fun i => if i = 0 then (-27) else if i = 1 then 2941 else if i = 2 then (-213044) else if i = 3 then 8816431 else if i = 4 then (-178956971) else if i = 5 then 963352165 else 0
def hiA : Nat → Int := fun i => if i = 0 then (-27) else if i = 1 then 2959 else if i = 2 then (-211218) else if i = 3 then 8947849 else if i = 4 then (-173437487) else if i = 5 then 1073741824 else 0
theorem serA (x : Int) (hit : Bool) (x0 : 0 ≤ x) (x1 : x ≤ 662337941) : Post (fun r => 963352165 ≤ r.1 ∧ r.1 ≤ 1073741824) (f_trig_series x 6 hit (fun (j : Nat) => bif Nat.beq j 5 then 1073741824 else bif Nat.beq j 4 then -178956971 else bif Nat.beq j 3 then 8947849 else bif Nat.beq j 2 then -213044 else bif Nat.beq j 1 then 2959 else bif Nat.beq j 0 then -27 else -27) true) := by
  refine series_post x 6 hit _ true loA hiA (by decide) (by decide) (by decide) ?_
  intro i y hi a b
  rw [satI (x := x) (by omega)]
  have c : i = 0 ∨ i = 1 ∨ i = 2 ∨ i = 3 ∨ i = 4 := by omega
  rcases c with rfl | rfl | rfl | rfl | rfl
  · have a' : (-27) ≤ y := a
    have b' : y ≤ (-27) := b
    have r := stepN x y 662337941 27 17 x0 x1 (by omega) (by omega) (by omega)
    rw [satI (x := y) (by omega)]
    show 2941 ≤ sat (sat 2959 + sat (sat (rnd (x * y) 30))) ∧ sat (sat 2959 + sat (sat (rnd (x * y) 30))) ≤ 2959
    rw [satI (x := 2959) (by omega), satI (x := rnd (x * y) 30) (by omega), satI (x := rnd (x * y) 30) (by omega), satI (by omega)]
    omega
  · have a' : 2941 ≤ y := a
    have b' : y ≤ 2959 := b
    have r := stepP x y 662337941 2959 1826 x0 x1 (by omega) (by omega) (by omega)
    rw [satI (x := y) (by omega)]
    show (-213044) ≤ sat (sat (-213044) + sat (sat (rnd (x * y) 30))) ∧ sat (sat (-213044) + sat (sat (rnd (x * y) 30))) ≤ (-211218)
    rw [satI (x := (-213044)) (by omega), satI (x := rnd (x * y) 30) (by omega), satI (x := rnd (x * y) 30) (by omega), satI (by omega)]
    omega
  · have a' : (-213044) ≤ y := a
    have b' : y ≤ (-211218) := b
    have r := stepN x y 662337941 213044 131417 x0 x1 (by omega) (by omega) (by omega)
    rw [satI (x := y) (by omega)]
    show 8816431 ≤ sat (sat 8947849 + sat (sat (rnd (x * y) 30))) ∧ sat (sat 8947849 + sat (sat (rnd (x * y) 30))) ≤ 8947849
    rw [satI (x := 8947849) (by omega), satI (x := rnd (x * y) 30) (by omega), satI (x := rnd (x * y) 30) (by omega), satI (by omega)]
    omega
  · have a' : 8816431 ≤ y := a
    have b' : y ≤ 8947849 := b
    have r := stepP x y 662337941 8947849 5519484 x0 x1 (by omega) (by omega) (by omega)
    rw [satI (x := y) (by omega)]
    show (-178956971) ≤ sat (sat (-178956971) + sat (sat (rnd (x * y) 30))) ∧ sat (sat (-178956971) + sat (sat (rnd (x * y) 30))) ≤ (-173437487)
    rw [satI (x := (-178956971)) (by omega), satI (x := rnd (x * y) 30) (by omega), satI (x := rnd (x * y) 30) (by omega), satI (by omega)]
    omega
  · have a' : (-178956971) ≤ y := a
    have b' : y ≤ (-173437487) := b
    have r := stepN x y 662337941 178956971 110389658 x0 x1 (by omega) (by omega) (by omega)
    rw [satI (x := y) (by omega)]
    show 963352165 ≤ sat (sat 1073741824 + sat (sat (rnd (x * y) 30))) ∧ sat (sat 1073741824 + sat (sat (rnd (x * y) 30))) ≤ 1073741824
    rw [satI (x := 1073741824) (by omega), satI (x := rnd (x * y) 30) (by omega), satI (x := rnd (x * y) 30) (by omega), satI (by omega)]
    omega
def loB : Nat → Int := fun i => if i = 0 then 2 else if i = 1 then (-296) else if i = 2 then 26447 else if i = 3 then (-1491308) else if i = 4 then 43819328 else if i = 5 then (-536870912) else if i = 6 then 742572852 else 0
def hiB : Nat → Int := fun i => if i = 0 then 2 else if i = 1 then (-294) else if i = 2 then 26631 else if i = 3 then (-1474880) else if i = 4 then 44739243 else if i = 5 then (-509273497) else if i = 6 then 1073741824 else 0
theorem serB (x : Int) (hit : Bool) (x0 : 0 ≤ x) (x1 : x ≤ 662337941) : Post (fun r => 742572852 ≤ r.1 ∧ r.1 ≤ 1073741824) (f_trig_series x 7 hit (fun (j : Nat) => bif Nat.beq j 6 then 1073741824 else bif Nat.beq j 5 then -536870912 else bif Nat.beq j 4 then 44739243 else bif Nat.beq j 3 then -1491308 else bif Nat.beq j 2 then 26631 else bif Nat.beq j 1 then -296 else bif Nat.beq j 0 then 2 else 2) true) := by
  refine series_post x 7 hit _ true loB hiB (by decide) (by decide) (by decide) ?_
  intro i y hi a b
  rw [satI (x := x) (by omega)]
  have c : i = 0 ∨ i = 1 ∨ i = 2 ∨ i = 3 ∨ i = 4 ∨ i = 5 := by omega
  rcases c with rfl | rfl | rfl | rfl | rfl | rfl
  · have a' : 2 ≤ y := a
    have b' : y ≤ 2 := b
    have r := stepP x y 662337941 2 2 x0 x1 (by omega) (by omega) (by omega)
    rw [satI (x := y) (by omega)]
    show (-296) ≤ sat (sat (-296) + sat (sat (rnd (x * y) 30))) ∧ sat (sat (-296) + sat (sat (rnd (x * y) 30))) ≤ (-294)
    rw [satI (x := (-296)) (by omega), satI (x := rnd (x * y) 30) (by omega), satI (x := rnd (x * y) 30) (by omega), satI (by omega)]
    omega
  · have a' : (-296) ≤ y := a
    have b' : y ≤ (-294) := b
    have r := stepN x y 662337941 296 183 x0 x1 (by omega) (by omega) (by omega)
    rw [satI (x := y) (by omega)]
    show 26447 ≤ sat (sat 26631 + sat (sat (rnd (x * y) 30))) ∧ sat (sat 26631 + sat (sat (rnd (x * y) 30))) ≤ 26631
    rw [satI (x := 26631) (by omega), satI (x := rnd (x * y) 30) (by omega), satI (x := rnd (x * y) 30) (by omega), satI (by omega)]
    omega
  · have a' : 26447 ≤ y := a
    have b' : y ≤ 26631 := b
    have r := stepP x y 662337941 26631 16428 x0 x1 (by omega) (by omega) (by omega)
    rw [satI (x := y) (by omega)]
    show (-1491308) ≤ sat (sat (-1491308) + sat (sat (rnd (x * y) 30))) ∧ sat (sat (-1491308) + sat (sat (rnd (x * y) 30))) ≤ (-1474880)
    rw [satI (x := (-1491308)) (by omega), satI (x := rnd (x * y) 30) (by omega), satI (x := rnd (x * y) 30) (by omega), satI (by omega)]
    omega
  · have a' : (-1491308) ≤ y := a
    have b' : y ≤ (-1474880) := b
    have r := stepN x y 662337941 1491308 919914 x0 x1 (by omega) (by omega) (by omega)
    rw [satI (x := y) (by omega)]
    show 43819328 ≤ sat (sat 44739243 + sat (sat (rnd (x * y) 30))) ∧ sat (sat 44739243 + sat (sat (rnd (x * y) 30))) ≤ 44739243
    rw [satI (x := 44739243) (by omega), satI (x := rnd (x * y) 30) (by omega), satI (x := rnd (x * y) 30) (by omega), satI (by omega)]
    omega
  · have a' : 43819328 ≤ y := a
    have b' : y ≤ 44739243 := b
    have r := stepP x y 662337941 44739243 27597415 x0 x1 (by omega) (by omega) (by omega)
    rw [satI (x := y) (by omega)]
    show (-536870912) ≤ sat (sat (-536870912) + sat (sat (rnd (x * y) 30))) ∧ sat (sat (-536870912) + sat (sat (rnd (x * y) 30))) ≤ (-509273497)
    rw [satI (x := (-536870912)) (by omega), satI (x := rnd (x * y) 30) (by omega), satI (x := rnd (x * y) 30) (by omega), satI (by omega)]
    omega
  · have a' : (-536870912) ≤ y := a
    have b' : y ≤ (-509273497) := b
    have r := stepN x y 662337941 536870912 331168971 x0 x1 (by omega) (by omega) (by omega)
    rw [satI (x := y) (by omega)]
    show 742572852 ≤ sat (sat 1073741824 + sat (sat (rnd (x * y) 30))) ∧ sat (sat 1073741824 + sat (sat (rnd (x * y) 30))) ≤ 1073741824
    rw [satI (x := 1073741824) (by omega), satI (x := rnd (x * y) 30) (by omega), satI (x := rnd (x * y) 30) (by omega), satI (by omega)]
    omega
end Go.Proofs.Ytcalippagaaikaa
end
/-
  Chapter 8: a cosine within 80 degrees is not small.
-/
section
set_option maxRecDepth 100000
set_option maxHeartbeats 4000000
set_option linter.unusedVariables false
set_option linter.unusedSimpArgs false
namespace Go.Proofs.Ytcalippagaaikaa
open Go.Ab
theorem wrapT (x : Int) (h1 : -3373259426 < x) (h2 : x ≤ 3373259426) : f_trig_Wrap x = some x := by
  have t : Int.tmod x 6746518852 = x := by
    rcases Int.lt_or_le x 0 with c | c
    · have e : Int.tmod (-x) 6746518852 = -x := by
        rw [Int.tmod_eq_emod_of_nonneg (by omega)]; exact Int.emod_eq_of_lt (by omega) (by omega)
      rw [Int.neg_tmod] at e; omega
    · rw [Int.tmod_eq_emod_of_nonneg c]; exact Int.emod_eq_of_lt c (by omega)
  unfold f_trig_Wrap K_trig_Wrap
  rw [t, decide_eq_false (by omega), cond_false, decide_eq_false (by omega), cond_false]
theorem absT (x : Int) (h1 : 0 ≤ x) (h2 : x < 1152921504606846976) : f_fx_Abs x = some x := by
  unfold f_fx_Abs K_fx_Abs
  rw [decide_eq_false (by omega), cond_false, decide_eq_false (by omega), cond_false, decide_eq_false (by omega), cond_false]
theorem m_pos (a b A B : Int) (hit : Bool) (a0 : 0 ≤ a) (a1 : a ≤ A) (b0 : 0 ≤ b) (b1 : b ≤ B) (AA : A ≤ 2000000000) (BB : B ≤ 2000000000) (M : Int) (h : A * B ≤ M * 1073741824) (MM : M ≤ 4000000000) :
    ∃ r u, r = rnd (a * b) 30 ∧ 0 ≤ r ∧ r ≤ M ∧ f_trig_m a b hit = some (r, u) := by
  obtain ⟨u, hu⟩ := m_eq a b hit
  have s := stepP a b A B M a0 a1 b0 b1 h
  rw [satI (x := a) (by omega), satI (x := b) (by omega), satI (x := rnd (a * b) 30) (by omega)] at hu
  exact ⟨_, u, rfl, s.1, s.2, hu⟩
theorem m_lo (a b A B M : Int) (hit : Bool) (A0 : 0 ≤ A) (B0 : 0 ≤ B) (a0 : A ≤ a) (a1 : a ≤ 2000000000) (b0 : B ≤ b) (b1 : b ≤ 2000000000) (M0 : 0 ≤ M) (h : M * 1073741824 ≤ A * B) :
    ∃ r u, M ≤ r ∧ f_trig_m a b hit = some (r, u) := by
  obtain ⟨u, hu⟩ := m_eq a b hit
  have x1 := Int.mul_nonneg (show 0 ≤ a - A by omega) (show 0 ≤ b by omega)
  have x2 := Int.mul_nonneg A0 (show 0 ≤ b - B by omega)
  have e1 : (a - A) * b = a * b - A * b := by grind
  have e2 : A * (b - B) = A * b - A * B := by grind
  have l := rnd30_lo (a * b) M (by omega) M0
  have s := stepP a b 2000000000 2000000000 4000000000 (by omega) a1 (by omega) b1 (by omega)
  rw [satI (x := a) (by omega), satI (x := b) (by omega), satI (x := rnd (a * b) 30) (by omega)] at hu
  exact ⟨_, u, l, hu⟩
theorem clamp_lo (v M : Int) (h : M ≤ v) (m : M ≤ 1073741824) : M ≤ (if 1073741824 < if -1073741824 > v then -1073741824 else v then 1073741824 else if -1073741824 > v then -1073741824 else v) := by
  by_cases c : -1073741824 > v
  · simp only [if_pos c]; split <;> omega
  · simp only [if_neg c]; split <;> omega
theorem sin_pos (y : Int) (hit : Bool) (h1 : 187403301 ≤ y) (h2 : y ≤ 3185856125) : Post (fun r => 168000000 ≤ r.1) (f_trig_Sin y hit) := by
  unfold f_trig_Sin K_trig_Sin
  rw [acc_sat, Option.bind_some, satI (x := y) (by omega)]
  simp only
  rw [wrapT y (by omega) (by omega), Option.bind_some]
  by_cases c : y > 1686629713
  · rw [decide_eq_true c, cond_true, wrap_i64 (n := 3373259426 - y) (by omega) (by omega)]
    generalize hz : (3373259426 : Int) - y = z
    rw [absT z (by omega) (by omega), Option.bind_some]
    by_cases d : z ≤ 843314857
    · rw [decide_eq_true d, cond_true]
      obtain ⟨v, u, _, v0, v1, hv⟩ := m_pos z z 843314857 843314857 (hit || over y) (by omega) d (by omega) d (by omega) (by omega) 662337941 (by omega) (by omega)
      rw [hv, Option.bind_some]
      refine fun r hr => ?_
      simp only at hr
      obtain ⟨⟨s, us⟩, hs⟩ := t_series v 6 u _ true (by decide) (by decide)
      rw [hs, Option.bind_some] at hr
      have b := serA v u v0 v1 _ hs
      simp only at b hr
      obtain ⟨q, uq, q0, hq⟩ := m_lo z s 187403301 963352165 168000000 us (by omega) (by omega) (by omega) (by omega) b.1 (by omega) (by omega) (by omega)
      rw [hq, Option.bind_some] at hr
      cases hr
      exact clamp_lo q _ q0 (by omega)
    · rw [decide_eq_false d, cond_false, wrap_i64 (n := 1686629713 - z) (by omega) (by omega)]
      obtain ⟨v, u, _, v0, v1, hv⟩ := m_pos (1686629713 - z) (1686629713 - z) 843314857 843314857 (hit || over y) (by omega) (by omega) (by omega) (by omega) (by omega) (by omega) 662337941 (by omega) (by omega)
      rw [hv, Option.bind_some]
      refine fun r hr => ?_
      simp only at hr
      obtain ⟨⟨s, us⟩, hs⟩ := t_series v 7 u _ true (by decide) (by decide)
      rw [hs, Option.bind_some, decide_eq_false (show ¬ z < 0 by omega), cond_false] at hr
      have b := serB v u v0 v1 _ hs
      simp only at b hr
      cases hr
      exact clamp_lo s _ (by omega) (by omega)
  · rw [decide_eq_false c, cond_false, decide_eq_false (show ¬ y < -1686629713 by omega), cond_false]
    generalize hz : y = z at *
    rw [absT z (by omega) (by omega), Option.bind_some]
    by_cases d : z ≤ 843314857
    · rw [decide_eq_true d, cond_true]
      obtain ⟨v, u, _, v0, v1, hv⟩ := m_pos z z 843314857 843314857 (hit || over z) (by omega) d (by omega) d (by omega) (by omega) 662337941 (by omega) (by omega)
      rw [hv, Option.bind_some]
      refine fun r hr => ?_
      simp only at hr
      obtain ⟨⟨s, us⟩, hs⟩ := t_series v 6 u _ true (by decide) (by decide)
      rw [hs, Option.bind_some] at hr
      have b := serA v u v0 v1 _ hs
      simp only at b hr
      obtain ⟨q, uq, q0, hq⟩ := m_lo z s 187403301 963352165 168000000 us (by omega) (by omega) (by omega) (by omega) b.1 (by omega) (by omega) (by omega)
      rw [hq, Option.bind_some] at hr
      cases hr
      exact clamp_lo q _ q0 (by omega)
    · rw [decide_eq_false d, cond_false, wrap_i64 (n := 1686629713 - z) (by omega) (by omega)]
      obtain ⟨v, u, _, v0, v1, hv⟩ := m_pos (1686629713 - z) (1686629713 - z) 843314857 843314857 (hit || over z) (by omega) (by omega) (by omega) (by omega) (by omega) (by omega) 662337941 (by omega) (by omega)
      rw [hv, Option.bind_some]
      refine fun r hr => ?_
      simp only at hr
      obtain ⟨⟨s, us⟩, hs⟩ := t_series v 7 u _ true (by decide) (by decide)
      rw [hs, Option.bind_some, decide_eq_false (show ¬ z < 0 by omega), cond_false] at hr
      have b := serB v u v0 v1 _ hs
      simp only at b hr
      cases hr
      exact clamp_lo s _ (by omega) (by omega)
theorem cos_pos (a : Int) (hit : Bool) (h1 : -1499226412 ≤ a) (h2 : a ≤ 1499226412) : Post (fun r => 168000000 ≤ r.1) (f_trig_Cos a hit) := by
  unfold f_trig_Cos K_trig_Cos
  rw [wrapT a (by omega) (by omega), Option.bind_some, wrap_i64 (n := 1686629713 + a) (by omega) (by omega)]
  obtain ⟨s, hs⟩ := t_sin (1686629713 + a) hit
  have b := sin_pos _ _ (by omega) (by omega) s hs
  rw [hs, Option.bind_some]
  exact post_some b
end Go.Proofs.Ytcalippagaaikaa
end
/-
  Chapter 8: the frame's two lengths within 80 degrees, from both sides.
-/
section
set_option maxRecDepth 100000
set_option maxHeartbeats 4000000
set_option linter.unusedVariables false
set_option linter.unusedSimpArgs false
namespace Go.Proofs.Ytcalippagaaikaa
open Go.Ab
theorem rdq_lo (a d M : Int) (h : 0 < d) (m : 0 ≤ M) (h1 : M * d ≤ a) : M ≤ rdq a d := by
  have p := Int.mul_nonneg m (Int.le_of_lt h)
  have D : mgq d = d := by unfold mgq; rw [if_neg (by omega)]
  have A : mgq a = a := by unfold mgq; rw [if_neg (by omega)]
  have q : M ≤ a / d := (Int.le_ediv_iff_mul_le h).2 h1
  unfold rdq
  rw [D, A, if_pos (by rw [decide_eq_false (by omega), decide_eq_false (by omega)])]
  unfold qdq
  split <;> omega
theorem new_in (a b c : Int) (G : GoodP a b c) (A1 : -800000000 ≤ a) (A2 : a ≤ 800000000) : ∃ n e, f_earth_New a b c = some (Sum.inr (a, b, c, n, e)) ∧ 12150000000 ≤ n ∧ n ≤ 12340000000 ∧ 1000000 ≤ e ∧ e ≤ 13000000000 := by
  unfold f_earth_New K_earth_New
  rw [good_yes G, Option.bind_some, Bool.not_true, cond_false, decide_eq_false (by omega), cond_false, decide_eq_false (by omega), cond_false]
  obtain ⟨u0, h0⟩ := muldiv_eq a 3373259426 1800000000 false (by decide)
  have b0 := rdq_bd (a * 3373259426) 1800000000 1499226412 (by omega) (by omega) (by omega)
  rw [h0, Option.bind_some, satI (x := a) (by omega), show sat 3373259426 = 3373259426 from rfl, show sat 1800000000 = 1800000000 from rfl, satI (x := rdq (a * 3373259426) 1800000000) (by omega)]
  generalize rdq (a * 3373259426) 1800000000 = g at b0
  simp only
  obtain ⟨⟨s, us⟩, hs⟩ := t_sin g u0
  have bs : Unit1 s := sin_bd _ _ _ hs
  rw [hs, Option.bind_some]
  obtain ⟨⟨k, uk⟩, hk⟩ := t_cos g us
  have bk : Unit1 k := cos_bd _ _ _ hk
  have bp : 168000000 ≤ k := cos_pos g us b0.1 b0.2 _ hk
  rw [hk, Option.bind_some]
  unfold Unit1 at bs bk
  simp only
  obtain ⟨u1, h1⟩ := new1_eq s s uk
  have ss : sat s = s := satI (by omega)
  rw [h1, Option.bind_some, ss]
  simp only
  have m1 := mulB s s 1073741824 1073741824 bs.1 bs.2 bs.1 bs.2
  have m1n : 0 ≤ s * s := by
    rcases Int.lt_or_le s 0 with z | z
    · have := Int.mul_nonneg (show 0 ≤ -s by omega) (show 0 ≤ -s by omega)
      rwa [Int.neg_mul_neg] at this
    · exact Int.mul_nonneg z z
  have b1 := rnd30_bd (s * s) 1073741824 m1.1 m1.2
  have b1n := rnd30_lo (s * s) 0 (by omega) (by omega)
  generalize rnd (s * s) 30 = p at b1 b1n
  rw [satI (x := p) (by omega)]
  obtain ⟨u2, h2⟩ := new1_eq 7188036 p u1
  rw [h2, Option.bind_some, show sat 7188036 = 7188036 from rfl, satI (x := p) (by omega)]
  simp only
  have b2 := rnd30_bd (7188036 * p) 7188036 (by omega) (by omega)
  have b2n := rnd30_lo (7188036 * p) 0 (by omega) (by omega)
  generalize rnd (7188036 * p) 30 = t at b2 b2n
  rw [satI (x := t) (by omega), wrap_i64 (n := 1073741824 - t) (by omega) (by omega)]
  generalize hq : (1073741824 : Int) - t = q
  obtain ⟨w, u3, hw, h3⟩ := sqrt_eq q u2 (by omega) (by omega)
  have bw := isR_bd w q hw (by omega) (by omega)
  rw [h3, Option.bind_some, satI (x := w) (by omega)]
  simp only
  have sw : sat w = w := satI (by omega)
  obtain ⟨u4, h4⟩ := div30_eq 6531212288 w u3 (by omega)
  rw [h4, Option.bind_some, show sat 6531212288 = 6531212288 from rfl, sw]
  simp only
  have b4 := rdq_bd (6531212288 * 1073741824) w 6600000000 (by omega) (by omega) (by omega)
  have b4n := rdq_lo (6531212288 * 1073741824) w 6500000000 (by omega) (by omega) (by omega)
  generalize rdq (6531212288 * 1073741824) w = e at b4 b4n
  rw [satI (x := e) (by omega)]
  obtain ⟨u5, h5⟩ := new1_eq 6531212288 1066553788 u4
  rw [h5, Option.bind_some, show sat 6531212288 = 6531212288 from rfl, show sat 1066553788 = 1066553788 from rfl]
  simp only
  have b5 := rnd30_bd (6531212288 * 1066553788) 6487500000 (by omega) (by omega)
  have b5n := rnd30_lo (6531212288 * 1066553788) 6487480000 (by omega) (by omega)
  generalize rnd (6531212288 * 1066553788) 30 = y at b5 b5n
  rw [satI (x := y) (by omega)]
  obtain ⟨u6, h6⟩ := new1_eq q w u5
  rw [h6, Option.bind_some, satI (x := q) (by omega), sw]
  simp only
  have m6 := mulB q w 1073741824 1073741824 (by omega) (by omega) (by omega) (by omega)
  have m6n : 1066553788 * 1066553788 ≤ q * w := by
    have x1 := Int.mul_nonneg (show 0 ≤ q - 1066553788 by omega) (show 0 ≤ w by omega)
    have x2 : (q - 1066553788) * w = q * w - 1066553788 * w := by grind
    omega
  have b6 := rnd30_bd (q * w) 1073741824 m6.1 m6.2
  have b6n := rnd30_lo (q * w) 1059400000 (by omega) (by omega)
  generalize rnd (q * w) 30 = z at b6 b6n
  rw [satI (x := z) (by omega)]
  have sz : sat z = z := satI (by omega)
  obtain ⟨u7, h7⟩ := div30_eq y z u6 (by omega)
  rw [h7, Option.bind_some, satI (x := y) (by omega), sz]
  simp only
  have b7 := rdq_bd (y * 1073741824) z 6580000000 (by omega) (by omega) (by omega)
  have b7n := rdq_lo (y * 1073741824) z 6487400000 (by omega) (by omega) (by omega)
  generalize rdq (y * 1073741824) z = o at b7 b7n
  rw [satI (x := o) (by omega)]
  obtain ⟨u8, h8⟩ := muldiv_eq o 3373259426 1800000000 u7 (by decide)
  rw [h8, Option.bind_some, satI (x := o) (by omega), show sat 3373259426 = 3373259426 from rfl, show sat 1800000000 = 1800000000 from rfl]
  simp only
  have b8 := rdq_bd (o * 3373259426) 1800000000 12340000000 (by omega) (by omega) (by omega)
  have b8n := rdq_lo (o * 3373259426) 1800000000 12150000000 (by omega) (by omega) (by omega)
  generalize rdq (o * 3373259426) 1800000000 = no at b8 b8n
  rw [satI (x := no) (by omega)]
  obtain ⟨u9, h9⟩ := new1_eq e k u8
  rw [h9, Option.bind_some, satI (x := e) (by omega), satI (x := k) (by omega)]
  simp only
  have m9 := mulB e k 6600000000 1073741824 (by omega) (by omega) (by omega) (by omega)
  have m9n : 6500000000 * 168000000 ≤ e * k := by
    have x1 := Int.mul_nonneg (show 0 ≤ e - 6500000000 by omega) (show 0 ≤ k by omega)
    have x2 : (e - 6500000000) * k = e * k - 6500000000 * k := by grind
    omega
  have b9 := rnd30_bd (e * k) 6600000000 m9.1 m9.2
  have b9n := rnd30_lo (e * k) 1000000000 (by omega) (by omega)
  generalize rnd (e * k) 30 = ek at b9 b9n
  rw [satI (x := ek) (by omega)]
  obtain ⟨u10, h10⟩ := muldiv_eq ek 3373259426 1800000000 u9 (by decide)
  rw [h10, Option.bind_some, satI (x := ek) (by omega), show sat 3373259426 = 3373259426 from rfl, show sat 1800000000 = 1800000000 from rfl]
  have b10 := rdq_bd (ek * 3373259426) 1800000000 13000000000 (by omega) (by omega) (by omega)
  have b10n := rdq_lo (ek * 3373259426) 1800000000 1000000 (by omega) (by omega) (by omega)
  generalize rdq (ek * 3373259426) 1800000000 = ea at b10 b10n
  refine ⟨no, ea, ?_, b8n, by omega, b10n, b10.2⟩
  rw [satI (x := ea) (by omega)]
end Go.Proofs.Ytcalippagaaikaa
end
/-
  Chapter 8: EarthPlane: the statement of astrolabelaw8.EarthPlane.
-/
section
set_option maxRecDepth 100000
set_option maxHeartbeats 4000000
set_option linter.unusedVariables false
set_option linter.unusedSimpArgs false
namespace Go.Proofs.Ytcalippagaaikaa
open Go.Ab
theorem rnd10_eq (v : Int) (h : 0 ≤ v) : rnd v 10 = (v + 512) / 1024 := by
  unfold rnd half
  rw [if_neg (by omega : ¬ (10 : Nat) = 0), show (2 : Int) ^ (10 - 1) = 512 from rfl, show (2 : Int) ^ 10 = 1024 from rfl, if_neg (by omega)]
theorem rdq_neg (a d : Int) (h : 0 < d) (h1 : a ≤ -d) : rdq a d < 0 := by
  have D : mgq d = d := by unfold mgq; rw [if_neg (by omega)]
  have A : mgq a = -a := by unfold mgq; rw [if_pos (by omega)]
  have q : 1 ≤ (-a) / d := (Int.le_ediv_iff_mul_le h).2 (by omega)
  unfold rdq
  rw [D, A, if_neg (by rw [decide_eq_true (by omega), decide_eq_false (by omega)]; decide)]
  unfold qdq
  split <;> omega
theorem plane_end (x0 x1 x2 x3 x4 x5 y n e : Int) (G : GoodP x0 x1 x2) (G' : GoodP (x0 + x3) y (x2 + x5)) (r : redL (y - x1) = x4) (n1 : 12150000000 ≤ n) (n2 : n ≤ 12340000000) (e1 : 1000000 ≤ e) (e2 : e ≤ 13000000000)
    (a1 : 1 ≤ x3) (a2 : x3 ≤ 10000000) (b1 : 1 ≤ x4) (b2 : x4 ≤ 10000000) (c1 : 1 ≤ x5) (c2 : x5 ≤ 10000000) :
    ∃ p q s, f___earth_Frame__To (x0 + x3) y (x2 + x5) x0 x1 x2 n e false = some (p, q, s, 0, false) ∧ f___earth_Frame__To x0 x1 x2 x0 x1 x2 n e false = some (0, 0, 0, 0, false) ∧
      0 < p ∧ p - x3 * 11860000 ≤ x3 * 200000 ∧ -(x3 * 200000) ≤ p - x3 * 11860000 ∧ 0 < q ∧ s < 0 := by
  have t1 := to_full (x0 + x3) y (x2 + x5) x0 x1 x2 n e false G' G (by omega) (by omega) (by omega) e2
  have t2 := to_full x0 x1 x2 x0 x1 x2 n e false G G (by omega) (by omega) (by omega) e2
  rw [r, show x0 + x3 - x0 = x3 by omega, show x2 - (x2 + x5) = -x5 by omega] at t1
  rw [Int.sub_self, Int.sub_self, Int.sub_self, show redL 0 = 0 from rfl, Int.zero_mul, Int.zero_mul, Int.zero_mul, show rnd 0 10 = 0 from rfl, rdq_none 1000 (by omega)] at t2
  have m1 := Int.mul_nonneg (show 0 ≤ x3 by omega) (show 0 ≤ n - 12150000000 by omega)
  have m2 := Int.mul_nonneg (show 0 ≤ x3 by omega) (show 0 ≤ 12340000000 - n by omega)
  have f1 : x3 * (n - 12150000000) = x3 * n - x3 * 12150000000 := by grind
  have f2 : x3 * (12340000000 - n) = x3 * 12340000000 - x3 * n := by grind
  have m3 := Int.mul_nonneg (show 0 ≤ x4 - 1 by omega) (show 0 ≤ e by omega)
  have f3 : (x4 - 1) * e = x4 * e - e := by grind
  rw [rnd10_eq (x3 * n) (by omega), rnd10_eq (x4 * e) (by omega)] at t1
  exact ⟨_, _, _, t1, t2, by omega, by omega, by omega, by omega, rdq_neg _ _ (by omega) (by omega)⟩
theorem earthPlane_plain (x0 x1 x2 x3 x4 x5 : Int) : f_astrolabelaw8_EarthPlane x0 x1 x2 x3 x4 x5 = some true := by
  unfold f_astrolabelaw8_EarthPlane K_astrolabelaw8_EarthPlane
  have aw : f_astrolabelaw8_awake = some true := by kernel_rfl
  rw [aw, Option.bind_some, Bool.not_true, cond_false]
  by_cases h1 : x0 < -800000000
  · rw [decide_eq_true h1, cond_true]
  rw [decide_eq_false h1, cond_false]
  by_cases h2 : x0 > 800000000
  · rw [decide_eq_true h2, cond_true]
  rw [decide_eq_false h2, cond_false]
  obtain ⟨g, hg⟩ := t_good x0 x1 x2
  rw [hg, Option.bind_some]
  cases g with
  | false => rfl
  | true =>
    have G := good_p hg
    rw [Bool.not_true, cond_false]
    by_cases h3 : x2 > 90000000
    · rw [decide_eq_true h3, cond_true]
    rw [decide_eq_false h3, cond_false]
    by_cases h4 : x2 < -90000000
    · rw [decide_eq_true h4, cond_true]
    rw [decide_eq_false h4, cond_false]
    by_cases h5 : x3 < 1
    · rw [decide_eq_true h5, cond_true]
    rw [decide_eq_false h5, cond_false]
    by_cases h6 : x3 > 10000000
    · rw [decide_eq_true h6, cond_true]
    rw [decide_eq_false h6, cond_false]
    by_cases h7 : x4 < 1
    · rw [decide_eq_true h7, cond_true]
    rw [decide_eq_false h7, cond_false]
    by_cases h8 : x4 > 10000000
    · rw [decide_eq_true h8, cond_true]
    rw [decide_eq_false h8, cond_false]
    by_cases h9 : x5 < 1
    · rw [decide_eq_true h9, cond_true]
    rw [decide_eq_false h9, cond_false]
    by_cases h10 : x5 > 10000000
    · rw [decide_eq_true h10, cond_true]
    rw [decide_eq_false h10, cond_false]
    obtain ⟨n, e, hn, n1, n2, e1, e2⟩ := new_in x0 x1 x2 G (by omega) (by omega)
    rw [hn, Option.bind_some]
    simp only [cond_false, Option.bind_some]
    obtain ⟨g1, g2, g3, g4, g5, g6⟩ := id G
    rw [wrap_i64 (n := x1 + x4) (by omega) (by omega), wrap_i64 (n := x0 + x3) (by omega) (by omega), wrap_i64 (n := x2 + x5) (by omega) (by omega), wrap_i64 (n := x1 + x4 - 3600000000) (by omega) (by omega), wrap_i64 (n := x3 * 11860000) (by omega) (by omega), wrap_i64 (n := x3 * 200000) (by omega) (by omega), wrap_i64 (n := 0 - x3) (by omega) (by omega), wrap_i64 (n := (0 - x3) * 200000) (by omega) (by omega)]
    by_cases c : x1 + x4 > 1800000000
    · rw [decide_eq_true c, cond_true]
      obtain ⟨p, q, s, t1, t2, p1, p2, p3, q1, s1⟩ := plane_end x0 x1 x2 x3 x4 x5 (x1 + x4 - 3600000000) n e G ⟨by omega, by omega, by omega, by omega, by omega, by omega⟩ (by unfold redL; rw [if_neg (by omega), if_pos (by omega)]; omega) n1 n2 e1 e2 (by omega) (by omega) (by omega) (by omega) (by omega) (by omega)
      rw [t1, Option.bind_some]
      simp only [t2, Option.bind_some]
      rw [wrap_i64 (n := p - x3 * 11860000) (by omega) (by omega), decide_eq_true (show p > 0 from p1), decide_eq_true (show q > 0 from q1), decide_eq_true s1, decide_eq_true p2, decide_eq_true (show p - x3 * 11860000 ≥ (0 - x3) * 200000 by omega)]
      rfl
    · rw [decide_eq_false c, cond_false]
      obtain ⟨p, q, s, t1, t2, p1, p2, p3, q1, s1⟩ := plane_end x0 x1 x2 x3 x4 x5 (x1 + x4) n e G ⟨by omega, by omega, by omega, by omega, by omega, by omega⟩ (by unfold redL; rw [if_neg (by omega), if_neg (by omega)]; omega) n1 n2 e1 e2 (by omega) (by omega) (by omega) (by omega) (by omega) (by omega)
      rw [t1, Option.bind_some]
      simp only [t2, Option.bind_some]
      rw [wrap_i64 (n := p - x3 * 11860000) (by omega) (by omega), decide_eq_true (show p > 0 from p1), decide_eq_true (show q > 0 from q1), decide_eq_true s1, decide_eq_true p2, decide_eq_true (show p - x3 * 11860000 ≥ (0 - x3) * 200000 by omega)]
      rfl
theorem earthPlane_ev (f : (Int) → (Int) → (Int) → (Int) → (Int) → (Int) → Option Bool) (x0_0 : Int) (x0_1 : Int) (x0_2 : Int) (x1_0 : Int) (x2_0 : Int) (x3_0 : Int) : F_astrolabelaw8_EarthPlane f [.r (.agg [.c (.f (.i .i64 x0_0)), .c (.f (.i .i64 x0_1)), .c (.f (.i .i64 x0_2))]), .r (.c (.f (.i .i64 x1_0))), .r (.c (.f (.i .i64 x2_0))), .r (.c (.f (.i .i64 x3_0)))] [] = .opt (f x0_0 x0_1 x0_2 x1_0 x2_0 x3_0) fun d => .leaf ⟨.r (.c (.f (.b d))), [], []⟩ := by kernel_rfl
theorem earthPlane_trues : Trues (F_astrolabelaw8_EarthPlane f_astrolabelaw8_EarthPlane) [.flat true [.c (.i .i64), .c (.i .i64), .c (.i .i64)], .flat false [.c (.i .i64)], .flat false [.c (.i .i64)], .flat false [.c (.i .i64)]] := fun ds h => by
  obtain ⟨_, _, rfl, q0_0, g0⟩ := fit_flat h
  obtain ⟨x0_0, _, rfl, r0_0, q0_1⟩ := f1_i q0_0
  obtain ⟨x0_1, _, rfl, r0_1, q0_2⟩ := f1_i q0_1
  obtain ⟨x0_2, _, rfl, r0_2, q0_3⟩ := f1_i q0_2
  obtain rfl := f1_nil q0_3
  obtain ⟨_, _, rfl, q1_0, g1⟩ := fit_flat g0
  obtain ⟨x1_0, _, rfl, r1_0, q1_1⟩ := f1_i q1_0
  obtain rfl := f1_nil q1_1
  obtain ⟨_, _, rfl, q2_0, g2⟩ := fit_flat g1
  obtain ⟨x2_0, _, rfl, r2_0, q2_1⟩ := f1_i q2_0
  obtain rfl := f1_nil q2_1
  obtain ⟨_, _, rfl, q3_0, g3⟩ := fit_flat g2
  obtain ⟨x3_0, _, rfl, r3_0, q3_1⟩ := f1_i q3_0
  obtain rfl := f1_nil q3_1
  obtain rfl := fit_nil g3
  refine ⟨[], (congrArg T.eval (earthPlane_ev f_astrolabelaw8_EarthPlane x0_0 x0_1 x0_2 x1_0 x2_0 x3_0)).trans ?_⟩
  rw [earthPlane_plain x0_0 x0_1 x0_2 x1_0 x2_0 x3_0]
  rfl
set_option maxRecDepth 100000 in
theorem earthPlane_lifted (os : Os) (started : os.Started) (H : Type) (enc : TypeId × Value → H) :
    ReturnsInHanded {} Try.checked os 11 .any (Rows.earthPlaneSpec.pre6 enc Try.prog Try.f11 Rows.earthPlaneRow.domain false) (Rows.earthPlaneSpec.post enc Try.prog Try.f11 false true false false) :=
  law_lift (C := Try.checked) (tb := Try.f11.resultTypes.getD 0 0) own started (by kernel_rfl) Try.func11 laid (by kernel_rfl) (by kernel_rfl) (by kernel_rfl) rfl
    (fun ds h => by
      have h : ds.length = 4 := h.trans (by kernel_rfl)
      match ds, h with
      | [_, _, _, _], _ => rfl)
    (ChangeSpec.witness6 (enc := enc) (C := Try.checked) false ⟨#[], #[.agg #[.int .i64 0, .int .i64 0, .int .i64 0], .int .i64 0, .int .i64 0, .int .i64 0], []⟩ 8 (by kernel_rfl) (by kernel_rfl) (by kernel_rfl) (by kernel_rfl))
    (fun W base args ds ps _ hval ht hz _ _ => prm_calls (pr := [.flat true [.c (.i .i64), .c (.i .i64), .c (.i .i64)], .flat false [.c (.i .i64)], .flat false [.c (.i .i64)], .flat false [.c (.i .i64)]]) s_astrolabelaw8_EarthPlane (by kernel_rfl) (ts := Try.f11.params.toList) (by kernel_rfl) (by kernel_rfl) earthPlane_trues hval ht hz)
theorem earthPlane_over : Rows.earthPlaneRow.holds Try.pinned (OpenSpec.ofChange Rows.earthPlaneSpec) :=
  OpenClaim.holds_of_wide 11 Try.f11 rfl rfl rfl rfl rfl rfl rfl ⟨rfl, rfl, rfl, rfl, rfl⟩ rfl rfl rfl rfl rfl (by kernel_rfl) Try.func11 (by kernel_rfl)
    (of_decide_eq_true (by kernel_rfl)) (by unfold Func.isWrapper; first | (rw [if_pos (by decide +kernel)]; kernel_rfl) | (rw [if_neg (by decide +kernel)]; exact ⟨rfl, rfl⟩))
    (fun os started H enc _ => earthPlane_lifted os started H enc)
/-- the statement -/
theorem earthPlane_proved : Rows.EarthPlaneSaid := earthPlane_over
#print axioms earthPlane_proved
end Go.Proofs.Ytcalippagaaikaa
end
