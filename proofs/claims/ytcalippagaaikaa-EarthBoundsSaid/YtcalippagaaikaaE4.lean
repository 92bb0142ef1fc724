/-
  Chapter 8: what always answers, and the declination at the two ends of the turn.
-/
import Derived.Test.YtcalippagaaikaaE3
import Derived.Test.YtcalippagaaikaaWQ
import Derived.Test.YtcalippagaaikaaWU
import Derived.Test.YtcalippagaaikaaREC
set_option maxRecDepth 100000
set_option maxHeartbeats 4000000
set_option linter.unusedVariables false
set_option linter.unusedSimpArgs false
namespace Go.Proofs.Ytcalippagaaikaa
open Go.Ab
def Tot {α : Type} (x : Option α) : Prop := ∃ a, x = some a
theorem tot_some {α : Type} (a : α) : Tot (some a) := ⟨a, rfl⟩
theorem tot_eq {α : Type} {x : Option α} {a : α} (h : x = some a) : Tot x := ⟨a, h⟩
theorem tot_bind {α β : Type} {x : Option α} {f : α → Option β} (h : Tot x) (g : ∀ a, Tot (f a)) : Tot (x.bind f) := by
  obtain ⟨a, rfl⟩ := h; exact g a
theorem tot_cond {α : Type} (b : Bool) {x y : Option α} (hx : Tot x) (hy : Tot y) : Tot (bif b then x else y) := by cases b <;> assumption
theorem loopK_tot {D X ρ : Type} {s : D → (D → Option ρ) → (X → Option ρ) → Option ρ} {k : X → Option ρ} (Inv : Nat → D → Prop)
    (h : ∀ t d c, Inv t d → (∀ t' d', t' < t → Inv t' d' → Tot (c d')) → Tot (s d c k)) : ∀ (fuel t : Nat) (d : D), t < fuel → Inv t d → Tot (loopK s fuel d k)
  | 0, t, d, hf, hd => by omega
  | fuel + 1, t, d, hf, hd => by
    rw [loopK_succ]
    exact h t d _ hd fun t' d' ht hd' => loopK_tot Inv h fuel t' d' (by omega) hd'
theorem t_sat (x : Int) (hit : Bool) : Tot (f___fx_Acc__Sat x hit) := tot_eq (acc_sat x hit)
theorem t_sign (b : Bool) : Tot (f_fx_sign b) := by cases b <;> exact ⟨_, rfl⟩
theorem t_by (h l d : Int) (hit : Bool) (o : okW h l) (d0 : -9223372036854775808 ≤ d) (d1 : d ≤ 9223372036854775807) : Tot (f___fx_Acc__by h l d hit) := by
  by_cases z : d = 0
  · subst z
    unfold f___fx_Acc__by K___fx_Acc__by
    rw [show ((0 : Int) == 0) = true from rfl, cond_true]
    exact tot_cond _ (tot_some _) (tot_bind (t_sign _) fun _ => tot_some _)
  · exact tot_eq (acc_by h l d hit o d0 d1 z)
theorem t_muldiv (a b d : Int) (hit : Bool) : Tot (f___fx_Acc__MulDiv a b d hit) := by
  unfold f___fx_Acc__MulDiv K___fx_Acc__MulDiv
  have := sat_le a
  have := sat_le b
  have := sat_le d
  obtain ⟨h, l, e1, e2, e3⟩ := wide_mul (sat a) (sat b) (by omega) (by omega) (by omega) (by omega)
  simp only [acc_sat, Option.bind_some, e1]
  exact tot_bind (t_by h l _ _ e2 (by omega) (by omega)) fun _ => tot_some _
theorem t_div30 (a b : Int) (hit : Bool) : Tot (f___fx_Acc__Div a b 30 hit) := by
  unfold f___fx_Acc__Div K___fx_Acc__Div
  have := sat_le a
  have := sat_le b
  obtain ⟨h, l, v, e1, e2, e3, e4⟩ := wide_shift (sat a) 30 (by omega) (by omega) (by omega)
  have e1' : f_wide_Shift (sat a) 30 = some (h, l, v) := e1
  rw [show decide ((30 : Int) < 0) = false from rfl, show decide ((30 : Int) > 66) = false from rfl]
  simp only [acc_sat, Option.bind_some, cond_false, e1']
  exact tot_bind (t_by h l _ _ e2 (by omega) (by omega)) fun _ => tot_some _
theorem t_mul30 (a b : Int) (hit : Bool) : Tot (f___fx_Acc__Mul a b 30 hit) := tot_eq (acc_mul a b 30 hit (by omega))
theorem t_mul10 (a b : Int) (hit : Bool) : Tot (f___fx_Acc__Mul a b 10 hit) := tot_eq (acc_mul a b 10 hit (by omega))
theorem t_m (a b : Int) (hit : Bool) : Tot (f_trig_m a b hit) := by
  unfold f_trig_m K_trig_m
  exact tot_bind (t_mul30 _ _ _) fun _ => tot_some _
theorem t_new1 (a b : Int) (hit : Bool) : Tot (f_earth_New_1 a b hit) := by
  unfold f_earth_New_1 K_earth_New_1
  exact tot_bind (t_mul30 _ _ _) fun _ => tot_some _
theorem t_sqrt (a : Int) (hit : Bool) : Tot (f_root_Sqrt a hit) := by
  unfold f_root_Sqrt K_root_Sqrt
  have := sat_le a
  rw [acc_sat, Option.bind_some]
  by_cases c : sat a < 0
  · simp only [decide_eq_true c, cond_true]; exact tot_some _
  · simp only [decide_eq_false c, cond_false]
    obtain ⟨h, l, v, e1, e2, e3, e4, e5⟩ := wide_shift (sat a) 30 (by omega) (by omega) (by omega)
    have e1' : f_wide_Shift (sat a) 30 = some (h, l, v) := e1
    have P : (2 : Int) ^ 30 = 1073741824 := by decide
    rw [P] at e3 e4
    have hv := e4 (e3.2 (by omega))
    have h0 : 0 ≤ h := by
      obtain ⟨o1, o2, o3, o4⟩ := e2
      have : h * 18446744073709551616 + l = sat a * 1073741824 := hv
      omega
    obtain ⟨r, hr⟩ := isR_ex (vW h l) (by omega)
    rw [e1', Option.bind_some]
    exact tot_bind (tot_eq (root_end_eq h l r _ e2 h0 hr)) fun _ => tot_some _
theorem t_series (x : Int) (n : Nat) (hit : Bool) (P : Nat → Int) (w : Bool) (h1 : 1 ≤ n) (h2 : n ≤ 150) : Tot (f_trig_series x n hit P w) := by
  unfold f_trig_series K_trig_series
  have e1 : inR 0 n = true := by simp only [inR, Bool.and_eq_true, decide_eq_true_eq]; omega
  have e2 : inRe 1 n = true := by simp only [inRe, Bool.and_eq_true, decide_eq_true_eq]; omega
  rw [e1, cond_true, e2, cond_true]
  unfold L_trig_series_0
  refine loopK_tot (fun t d => ∃ (i : Nat) (v : Int) (b : Bool), i + t + 1 = n ∧ d = (x, v, n - 1, w && true, Int.ofNat (n - 1), Int.ofNat i, b, n, P)) ?_ 200 (n - 1) _ (by omega)
    ⟨0, P 0, hit, by omega, by cases w <;> rfl⟩
  rintro t _ c ⟨i, v, b, hi, rfl⟩ hc
  unfold S_trig_series_0
  by_cases z : t = 0
  · have e : decide (Int.ofNat i < Int.ofNat (n - 1)) = false := decide_eq_false (by simp only [Int.ofNat_eq_natCast]; omega)
    simp only [e, cond_false]
    exact tot_some _
  · have e : decide (Int.ofNat i < Int.ofNat (n - 1)) = true := decide_eq_true (by simp only [Int.ofNat_eq_natCast]; omega)
    have e3 : inR (Int.ofNat i) (n - 1) = true := by simp only [inR, Bool.and_eq_true, decide_eq_true_eq, Int.ofNat_eq_natCast]; omega
    have e4 : IntKind.wrap .i64 (Int.ofNat i + 1) = Int.ofNat (i + 1) := by
      rw [wrap_i64 (by simp only [Int.ofNat_eq_natCast]; omega) (by simp only [Int.ofNat_eq_natCast]; omega)]; rfl
    simp only [e, cond_true, e3, e4]
    refine tot_bind (t_m _ _ _) fun a => tot_bind (tot_eq (acc_add 2 (by omega) _ _ _)) fun a' => ?_
    exact hc (t - 1) _ (by omega) ⟨i + 1, _, _, by omega, rfl⟩
theorem t_wrap (x : Int) : Tot (f_trig_Wrap x) := by
  unfold f_trig_Wrap K_trig_Wrap
  exact tot_cond _ (tot_some _) (tot_cond _ (tot_some _) (tot_some _))
theorem t_abs (x : Int) : Tot (f_fx_Abs x) := by
  unfold f_fx_Abs K_fx_Abs
  exact tot_cond _ (tot_some _) (tot_cond _ (tot_some _) (tot_cond _ (tot_some _) (tot_some _)))
theorem t_sin (x : Int) (hit : Bool) : Tot (f_trig_Sin x hit) := by
  unfold f_trig_Sin K_trig_Sin
  repeat' with_reducible first
    | exact tot_some _
    | exact t_sat _ _
    | exact t_wrap _
    | exact t_abs _
    | exact t_m _ _ _
    | exact t_series _ _ _ _ _ (by decide) (by decide)
    | refine tot_bind ?_ fun _ => ?_
    | refine tot_cond _ ?_ ?_
theorem t_cos (x : Int) (hit : Bool) : Tot (f_trig_Cos x hit) := by
  unfold f_trig_Cos K_trig_Cos
  exact tot_bind (t_wrap _) fun _ => tot_bind (t_sin _ _) fun _ => tot_some _
theorem t_good (a b c : Int) : Tot (f_earth_Good a b c) := by
  unfold f_earth_Good K_earth_Good
  repeat' with_reducible first
    | exact tot_some _
    | refine tot_cond _ ?_ ?_
theorem t_new (a b c : Int) : Tot (f_earth_New a b c) := by
  unfold f_earth_New K_earth_New
  repeat' with_reducible first
    | exact tot_some _
    | exact t_good _ _ _
    | exact t_muldiv _ _ _ _
    | exact t_sin _ _
    | exact t_cos _ _
    | exact t_new1 _ _ _
    | exact t_sqrt _ _
    | exact t_div30 _ _ _
    | refine tot_bind ?_ fun _ => ?_
    | refine tot_cond _ ?_ ?_
end Go.Proofs.Ytcalippagaaikaa
