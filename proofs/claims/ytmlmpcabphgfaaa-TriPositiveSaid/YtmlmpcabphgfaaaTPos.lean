/-
  A covariance of good factors has no variance below 0, and none of two states that is greater than theirs allow; a number of it is near the same either way (P9.2, T1): the statement of astrolabelaw9.TriPositive; no condition.
-/
import Derived.Test.YtmlmpcabphgfaaaTS
import Derived.Test.YtmlmpcabphgfaaaT6
set_option maxRecDepth 100000
set_option maxHeartbeats 4000000
set_option linter.unusedVariables false
set_option linter.unusedSimpArgs false
namespace Go.Proofs.Ytmlmpcabphgfaaa
open Go.Ab
theorem tpos_awake : f_astrolabelaw9_awake = some true := by kernel_rfl
theorem rnd30' (v : Int) : -536870912 ≤ rnd v 30 * 1073741824 - v ∧ rnd v 30 * 1073741824 - v ≤ 536870912 := by
  unfold rnd half
  rw [if_neg (by omega : ¬ (30 : Nat) = 0), show (2 : Int) ^ (30 - 1) = 536870912 from rfl, show (2 : Int) ^ 30 = 1073741824 from rfl]
  split <;> omega
theorem mul_nn' {a b : Int} (ha : 0 ≤ a) (hb : 0 ≤ b) : 0 ≤ a * b := Int.mul_nonneg ha hb
theorem mul_abs' {x y X Y : Int} (hx : -X ≤ x ∧ x ≤ X) (hy : -Y ≤ y ∧ y ≤ Y) : -(X * Y) ≤ x * y ∧ x * y ≤ X * Y := by
  have h1 := mul_nn' (a := X - x) (b := Y + y) (by omega) (by omega)
  have h2 := mul_nn' (a := X + x) (b := Y - y) (by omega) (by omega)
  have h3 := mul_nn' (a := X + x) (b := Y + y) (by omega) (by omega)
  have h4 := mul_nn' (a := X - x) (b := Y - y) (by omega) (by omega)
  have e1 : (X - x) * (Y + y) = X * Y + X * y - x * Y - x * y := by grind
  have e2 : (X + x) * (Y - y) = X * Y - X * y + x * Y - x * y := by grind
  have e3 : (X + x) * (Y + y) = X * Y + X * y + x * Y + x * y := by grind
  have e4 : (X - x) * (Y - y) = X * Y - X * y - x * Y + x * y := by grind
  omega
theorem sq_nn'' (x : Int) : 0 ≤ x * x := by
  rcases Int.le_total 0 x with h | h
  · exact mul_nn' h h
  · have := mul_nn' (a := -x) (b := -x) (by omega) (by omega)
    rw [Int.neg_mul_neg] at this
    exact this
/-! sums -/
theorem sumF_split (h : Nat → Int) (m : Nat) : ∀ n, sumF h (m + n) = sumF h m + sumF (fun k => h (m + k)) n
  | 0 => by simp only [sumF, Nat.add_zero, Int.add_zero]
  | n + 1 => by
    rw [← Nat.add_assoc, sumF, sumF_split h m n, sumF]; omega
theorem sumF_zero {f : Nat → Int} {n : Nat} (h : ∀ j, j < n → f j = 0) : sumF f n = 0 := by
  induction n with
  | zero => rfl
  | succ n ih => rw [sumF, ih fun j hj => h j (by omega), h n (by omega)]; rfl
theorem sumF_up {f g : Nat → Int} {n : Nat} (h : ∀ j, j < n → f j ≤ g j) : sumF f n ≤ sumF g n := by
  induction n with
  | zero => exact Int.le_refl _
  | succ n ih =>
    have a := ih fun j hj => h j (by omega)
    have b := h n (by omega)
    rw [sumF, sumF]; omega
theorem sumF_plus (f g : Nat → Int) : ∀ n, sumF (fun j => f j + g j) n = sumF f n + sumF g n
  | 0 => rfl
  | n + 1 => by rw [sumF, sumF, sumF, sumF_plus f g n]; omega
theorem sumF_times (c : Int) (f : Nat → Int) : ∀ n, sumF (fun j => c * f j) n = c * sumF f n
  | 0 => by simp only [sumF, Int.mul_zero]
  | n + 1 => by rw [sumF, sumF, sumF_times c f n, Int.mul_add]
theorem anyF_zero {f : Nat → Bool} {n : Nat} (h : ∀ j, j < n → f j = false) : anyF f n = false := by
  induction n with
  | zero => rfl
  | succ n ih => rw [anyF, ih fun j hj => h j (by omega), h n (by omega)]; rfl
/-! the covariance without roundings -/
def cov (f g : Nat → Int) (i j : Nat) : Int := sumF (fun (k : Nat) => uV f i k * uV f j k * g k) 24
theorem cov_comm (f g : Nat → Int) (i j : Nat) : cov f g i j = cov f g j i := sumF_ext fun k _ => by rw [Int.mul_comm (uV f i k)]
theorem uV_low (f : Nat → Int) (i k : Nat) (h : k < i) : uV f i k = 0 := by
  unfold uV
  rw [if_neg (by omega), if_neg (by omega)]
theorem cov_from (f g : Nat → Int) (i j m : Nat) (hm : m ≤ 24) (h : m ≤ i ∨ m ≤ j) : cov f g i j = sumF (fun k => uV f i ((m + k : Nat) : Int) * uV f j ((m + k : Nat) : Int) * g (m + k)) (24 - m) := by
  unfold cov
  have e := sumF_split (fun (k : Nat) => uV f i k * uV f j k * g k) m (24 - m)
  rw [show m + (24 - m) = 24 by omega] at e
  rw [e, sumF_zero (f := fun (k : Nat) => uV f i k * uV f j k * g k) fun k hk => ?_, Int.zero_add]
  rcases h with h | h
  · rw [uV_low f i k (by omega), Int.zero_mul, Int.zero_mul]
  · rw [uV_low f j k (by omega), Int.mul_zero, Int.zero_mul]
theorem cov_pair (f g : Nat → Int) (hg : ∀ k, k < 24 → 0 ≤ g k) (i j : Nat) : 2 * cov f g i j ≤ cov f g i i + cov f g j j ∧ -(2 * cov f g i j) ≤ cov f g i i + cov f g j j := by
  unfold cov
  rw [← sumF_plus, ← sumF_times]
  constructor
  · refine sumF_up fun k hk => ?_
    have q := mul_nn' (sq_nn'' (uV f i k - uV f j k)) (hg k hk)
    have e : (uV f i k - uV f j k) * (uV f i k - uV f j k) * g k = uV f i k * uV f i k * g k + uV f j k * uV f j k * g k - 2 * (uV f i k * uV f j k * g k) := by grind
    omega
  · have e0 : -sumF (fun (j_1 : Nat) => 2 * (uV f i j_1 * uV f j j_1 * g j_1)) 24 = sumF (fun (k : Nat) => (-1) * (2 * (uV f i k * uV f j k * g k))) 24 := by rw [sumF_times (-1) (fun (k : Nat) => 2 * (uV f i k * uV f j k * g k))]; omega
    rw [e0]
    refine sumF_up fun k hk => ?_
    have q := mul_nn' (sq_nn'' (uV f i k + uV f j k)) (hg k hk)
    have e : (uV f i k + uV f j k) * (uV f i k + uV f j k) * g k = uV f i k * uV f i k * g k + uV f j k * uV f j k * g k + 2 * (uV f i k * uV f j k * g k) := by grind
    omega
/-! numbers of U up to 8, of D up to 1 -/
abbrev b33 (x : Int) : Prop := -8589934592 ≤ x ∧ x ≤ 8589934592
theorem uV_b33 {f : Nat → Int} (hf : ∀ k, k < 276 → b33 (f k)) (i k : Nat) : b33 (uV f i k) := by
  unfold uV
  split
  · omega
  · split
    · rename_i c
      exact hf _ (pos_lt (by omega) (by omega))
    · omega
theorem max_at (i j : Nat) (hi : i < 24) (hj : j < 24) : ∃ m : Nat, (if (j : Int) > (i : Int) then (j : Int) else (i : Int)) = (m : Int) ∧ m < 24 ∧ i ≤ m ∧ j ≤ m ∧ (m ≤ i ∨ m ≤ j) := by
  by_cases c : j > i
  · exact ⟨j, by rw [if_pos (by omega)], hj, by omega, by omega, .inr (Nat.le_refl _)⟩
  · exact ⟨i, by rw [if_neg (by omega)], hi, by omega, by omega, .inl (Nat.le_refl _)⟩
theorem at_small {f g : Nat → Int} (hf : ∀ k, k < 276 → b33 (f k)) (hg : ∀ k, k < 24 → 1 ≤ g k ∧ g k ≤ 17592186044416) (i j : Nat) (hi : i < 24) (hj : j < 24) (hit : Bool) :
    ∃ X, f_tri_At f g i j hit = some (X, hit) ∧ -147573952589676412928 ≤ X * 1152921504606846976 - cov f g i j ∧ X * 1152921504606846976 - cov f g i j ≤ 147573952589676412928 ∧ -72057594037927936 ≤ X ∧ X ≤ 72057594037927936 := by
  obtain ⟨m, hm, m24, mi, mj, mij⟩ := max_at i j hi hj
  rw [tri_At_eq f g i j m hit (by omega) (by omega) hm m24, cov_from f g i j m (by omega) mij]
  have su : ∀ (i k : Nat), sat (uV f i k) = uV f i k ∧ over (uV f i k) = false := fun i k => sat_id (by have := uV_b33 hf i k; omega)
  have sd : ∀ k, k < 24 → sat (g k) = g k ∧ over (g k) = false := fun k hk => sat_id (by have := hg k hk; omega)
  have vv : (8589934592 : Int) * 17592186044416 = 151115727451828646838272 := by decide
  have xb : ∀ k, k < 24 → (-536870912 ≤ xV f g j k * 1073741824 - uV f j k * g k ∧ xV f g j k * 1073741824 - uV f j k * g k ≤ 536870912) ∧ -140737488355329 ≤ xV f g j k ∧ xV f g j k ≤ 140737488355329 := fun k hk => by
    unfold xV
    rw [(su j k).1, (sd k hk).1]
    have r := rnd30' (uV f j k * g k)
    have p := mul_abs' (uV_b33 hf j k) (show -17592186044416 ≤ g k ∧ g k ≤ 17592186044416 by have := hg k hk; omega)
    omega
  have sx : ∀ k, k < 24 → sat (xV f g j k) = xV f g j k ∧ over (xV f g j k) = false := fun k hk => sat_id (by have := (xb k hk).2; omega)
  have f1 : anyF (fun k => xO f g j (m + k)) (24 - m) = false := anyF_zero fun k hk => by
    simp only [xO, (su j (m + k)).2, (sd (m + k) (by omega)).2, (sx (m + k) (by omega)).2, Bool.or_false]
  have f2 : atO f g i j m (24 - m) = false := anyF_zero fun k hk => by
    simp only [(su i (m + k)).2, (sx (m + k) (by omega)).1, (sx (m + k) (by omega)).2, Bool.or_false]
  have term : ∀ k, k < 24 - m → sat (uV f i ((m + k : Nat) : Int)) * sat (sat (xV f g j (m + k))) = uV f i ((m + k : Nat) : Int) * xV f g j (m + k) := fun k hk => by
    rw [(su i (m + k)).1, (sx (m + k) (by omega)).1, (sx (m + k) (by omega)).1]
  have s1 : atS f g i j m (24 - m) = sumF (fun k => uV f i ((m + k : Nat) : Int) * xV f g j (m + k)) (24 - m) := sumF_ext term
  -- the sum's error
  have e1 : sumF (fun k => uV f i ((m + k : Nat) : Int) * xV f g j (m + k)) (24 - m) * 1073741824 - sumF (fun k => uV f i ((m + k : Nat) : Int) * uV f j ((m + k : Nat) : Int) * g (m + k)) (24 - m) =
      sumF (fun k => uV f i ((m + k : Nat) : Int) * (xV f g j (m + k) * 1073741824 - uV f j ((m + k : Nat) : Int) * g (m + k))) (24 - m) := by
    have a := sumF_times 1073741824 (fun k => uV f i ((m + k : Nat) : Int) * xV f g j (m + k)) (24 - m)
    have b := sumF_times (-1) (fun k => uV f i ((m + k : Nat) : Int) * uV f j ((m + k : Nat) : Int) * g (m + k)) (24 - m)
    have c := sumF_plus (fun k => 1073741824 * (uV f i ((m + k : Nat) : Int) * xV f g j (m + k))) (fun k => (-1) * (uV f i ((m + k : Nat) : Int) * uV f j ((m + k : Nat) : Int) * g (m + k))) (24 - m)
    have d : sumF (fun k => uV f i ((m + k : Nat) : Int) * (xV f g j (m + k) * 1073741824 - uV f j ((m + k : Nat) : Int) * g (m + k))) (24 - m) = sumF (fun j_1 => 1073741824 * (uV f i ((m + j_1 : Nat) : Int) * xV f g j (m + j_1)) + (-1) * (uV f i ((m + j_1 : Nat) : Int) * uV f j ((m + j_1 : Nat) : Int) * g (m + j_1))) (24 - m) := sumF_ext fun k hk => by grind
    rw [d, c, a, b]; omega
  have e2 := sumF_le (fun k => uV f i ((m + k : Nat) : Int) * (xV f g j (m + k) * 1073741824 - uV f j ((m + k : Nat) : Int) * g (m + k))) 4611686018427387904 (by omega) (24 - m) fun k hk => by
    have q := mul_abs' (uV_b33 hf i (m + k)) (xb (m + k) (by omega)).1
    have v : (8589934592 : Int) * 536870912 = 4611686018427387904 := by decide
    omega
  have e3 := sumF_le (fun k => uV f i ((m + k : Nat) : Int) * xV f g j (m + k)) 1208925819614637764640768 (by omega) (24 - m) fun k hk => by
    have q := mul_abs' (uV_b33 hf i (m + k)) (xb (m + k) (by omega)).2
    have v : (8589934592 : Int) * 140737488355329 = 1208925819614637764640768 := by decide
    omega
  rw [f1, f2, s1]
  rw [← e1] at e2
  generalize sumF (fun k => uV f i ((m + k : Nat) : Int) * xV f g j (m + k)) (24 - m) = T at *
  generalize sumF (fun k => uV f i ((m + k : Nat) : Int) * uV f j ((m + k : Nat) : Int) * g (m + k)) (24 - m) = S at *
  have r := rnd30' T
  have sr := sat_id (x := rnd T 30) (by omega)
  refine ⟨rnd T 30, ?_, by omega, by omega, by omega, by omega⟩
  rw [sr.1, sr.2]
  simp only [Bool.or_false]
theorem rnd_sign (v : Int) : (0 ≤ v → 0 ≤ rnd v 30) ∧ (v ≤ 0 → rnd v 30 ≤ 0) := by
  have := rnd30' v
  omega
theorem sat_sign (v : Int) : (0 ≤ v → 0 ≤ sat v) ∧ (v ≤ 0 → sat v ≤ 0) := by
  unfold sat
  split
  · omega
  · split <;> omega
/-- no variance is below 0 -/
theorem at_diag {f g : Nat → Int} (hg : ∀ k, k < 24 → 1 ≤ g k) (i : Nat) (hi : i < 24) (hit : Bool) : ∃ X h, f_tri_At f g i i hit = some (X, h) ∧ 0 ≤ X := by
  have hm : (if (i : Int) > (i : Int) then (i : Int) else (i : Int)) = (i : Int) := by split <;> rfl
  refine ⟨_, _, tri_At_eq f g i i i hit (by omega) (by omega) hm hi, ?_⟩
  refine (sat_sign _).1 ((rnd_sign _).1 ?_)
  have e : sumF (fun _ => (0 : Int)) (24 - i) = 0 := sumF_zero fun _ _ => rfl
  unfold atS
  rw [← e]
  refine sumF_up fun k hk => ?_
  have gd := (sat_sign (g (i + k))).1 (by have := hg (i + k) (by omega); omega)
  unfold xV
  rcases Int.le_total 0 (uV f i ((i + k : Nat) : Int)) with c | c
  · have a := (sat_sign _).1 c
    exact mul_nn' a ((sat_sign _).1 ((sat_sign _).1 ((rnd_sign _).1 (mul_nn' a gd))))
  · have a := (sat_sign _).2 c
    have b : sat (uV f i ((i + k : Nat) : Int)) * sat (g (i + k)) ≤ 0 := by
      have := mul_nn' (a := -sat (uV f i ((i + k : Nat) : Int))) (by omega) gd
      rw [Int.neg_mul] at this; omega
    have d := (sat_sign _).2 ((sat_sign _).2 ((rnd_sign _).2 b))
    have := mul_nn' (a := -sat (uV f i ((i + k : Nat) : Int))) (b := -sat (sat (rnd (sat (uV f i ((i + k : Nat) : Int)) * sat (g (i + k))) 30))) (by omega) (by omega)
    rw [Int.neg_mul_neg] at this
    exact this
theorem tgood (f g : Nat → Int) : f_tri_Good f g = some (!(anyF (fun k => vout (g k)) 24 || anyF (fun k => over (f k)) 276)) := by
  unfold f_tri_Good K_tri_Good
  rw [tri_Condition_eq, Option.bind_some, Bool.false_or]
theorem anyF_not {f : Nat → Bool} {n : Nat} (h : anyF f n = false) : ∀ k, k < n → f k = false := by
  induction n with
  | zero => intro k hk; omega
  | succ n ih =>
    rw [anyF, Bool.or_eq_false_iff] at h
    intro k hk
    rcases Nat.lt_or_ge k n with c | c
    · exact ih h.1 k c
    · obtain rfl : k = n := by omega
      exact h.2
theorem triPositive_plain (x0 x1 : Nat → Int) (x2 x3 : Int) : f_astrolabelaw9_TriPositive x0 x1 x2 x3 = some true := by
  unfold f_astrolabelaw9_TriPositive K_astrolabelaw9_TriPositive
  rw [tpos_awake, Option.bind_some]
  simp only [Bool.not_true, cond_false]
  rw [tgood, Option.bind_some]
  cases hv : anyF (fun k => vout (x1 k)) 24 with
  | true => simp only [Bool.true_or, Bool.not_true, Bool.not_false, cond_true]
  | false =>
  cases ho : anyF (fun k => over (x0 k)) 276 with
  | true => simp only [Bool.or_true, Bool.not_true, Bool.not_false, cond_true]
  | false =>
  simp only [Bool.or_false, Bool.not_false, Bool.not_true, cond_false]
  have hg : ∀ k, k < 24 → 1 ≤ x1 k := fun k hk => by
    have := anyF_not hv k hk
    unfold vout at this
    rw [Bool.or_eq_false_iff] at this
    have := of_decide_eq_false this.1
    omega
  by_cases c1 : x2 < 0
  · rw [decide_eq_true c1, cond_true]
  rw [decide_eq_false c1, cond_false]
  by_cases c2 : x2 > 23
  · rw [decide_eq_true c2, cond_true]
  rw [decide_eq_false c2, cond_false]
  by_cases c3 : x3 < 0
  · rw [decide_eq_true c3, cond_true]
  rw [decide_eq_false c3, cond_false]
  by_cases c4 : x3 > 23
  · rw [decide_eq_true c4, cond_true]
  rw [decide_eq_false c4, cond_false]
  obtain ⟨i, rfl⟩ : ∃ i : Nat, x2 = (i : Int) := ⟨x2.toNat, by omega⟩
  obtain ⟨j, rfl⟩ : ∃ j : Nat, x3 = (j : Int) := ⟨x3.toNat, by omega⟩
  have hi : i < 24 := by omega
  have hj : j < 24 := by omega
  obtain ⟨A, h, ea, a0⟩ := at_diag hg i hi false
  rw [ea, Option.bind_some]
  simp only
  rw [decide_eq_false (show ¬ A < 0 by omega), cond_false]
  unfold L_astrolabelaw9_TriPositive_0
  refine loopK_inv (fun t d => ∃ n : Nat, n + t = 276 ∧ (∀ k, k < n → b33 (x0 k)) ∧ d = ((i : Int), (j : Int), A, (n : Int), false, x0, x1, h)) ?_ 1000 276 _ (by omega) ⟨0, by omega, (fun k hk => by omega), rfl⟩
  rintro t _ c ⟨n, hn, hf, rfl⟩ hc
  rcases Nat.eq_zero_or_pos t with t0 | t0
  · obtain rfl : n = 276 := by omega
    have z : decide (((276 : Nat) : Int) < 276) = false := by decide
    simp only [S_astrolabelaw9_TriPositive_0, z, cond_false, Sum.elim_inr]
    unfold L_astrolabelaw9_TriPositive_1
    refine loopK_inv (fun t d => ∃ n : Nat, n + t = 24 ∧ (∀ k, k < n → x1 k ≤ 17592186044416) ∧ d = ((i : Int), (j : Int), A, (n : Int), false, x0, x1, h)) ?_ 1000 24 _ (by omega) ⟨0, by omega, (fun k hk => by omega), rfl⟩
    rintro t _ c ⟨n, hn, hd, rfl⟩ hc
    rcases Nat.eq_zero_or_pos t with t0 | t0
    · obtain rfl : n = 24 := by omega
      have z : decide (((24 : Nat) : Int) < 24) = false := by decide
      have hg2 : ∀ k, k < 24 → 1 ≤ x1 k ∧ x1 k ≤ 17592186044416 := fun k hk => ⟨hg k hk, hd k hk⟩
      obtain ⟨X1, g1, p1, q1, r1, s1⟩ := at_small hf hg2 i i hi hi false
      rw [ea] at g1
      have gi := Prod.mk.inj (Option.some.inj g1)
      obtain ⟨rfl, rfl⟩ := gi
      obtain ⟨X2, g2, p2, q2, r2, s2⟩ := at_small hf hg2 i j hi hj false
      obtain ⟨X3, g3, p3, q3, r3, s3⟩ := at_small hf hg2 j i hj hi false
      obtain ⟨X4, g4, p4, q4, r4, s4⟩ := at_small hf hg2 j j hj hj false
      have cc := cov_comm x0 x1 j i
      have cp := cov_pair x0 x1 (fun k hk => by have := hg k hk; omega) i j
      simp only [S_astrolabelaw9_TriPositive_1, z, cond_false, Sum.elim_inr, g2, g3, g4, Option.bind_some]
      have w1 : IntKind.wrap .i64 (X2 - X3) = X2 - X3 := wrap_i64 (by omega) (by omega)
      have d1 : decide (X2 - X3 ≤ 4096) = true := decide_eq_true (by omega)
      have d2 : decide (X2 - X3 ≥ -4096) = true := decide_eq_true (by omega)
      obtain ⟨ab, eab, hab⟩ : ∃ ab, f_fx_Abs X2 = some ab ∧ (ab = X2 ∨ ab = -X2) := by
        unfold f_fx_Abs K_fx_Abs
        rw [decide_eq_false (show ¬ X2 ≥ 1152921504606846976 by omega), cond_false, decide_eq_false (show ¬ X2 ≤ -1152921504606846976 by omega), cond_false]
        by_cases n : X2 < 0
        · rw [decide_eq_true n, cond_true, wrap_i64 (by omega) (by omega)]; exact ⟨_, rfl, .inr (by omega)⟩
        · rw [decide_eq_false n, cond_false]; exact ⟨_, rfl, .inl rfl⟩
      have w2 : IntKind.wrap .i64 (2 * ab) = 2 * ab := wrap_i64 (by omega) (by omega)
      have w3 : IntKind.wrap .i64 (A + X4) = A + X4 := wrap_i64 (by omega) (by omega)
      have w4 : IntKind.wrap .i64 (A + X4 + 4096) = A + X4 + 4096 := wrap_i64 (by omega) (by omega)
      have d3 : decide (2 * ab ≤ A + X4 + 4096) = true := decide_eq_true (by omega)
      simp only [w1, d1, d2, cond_true, eab, Option.bind_some, w2, w3, w4, d3, Bool.not_false]
    · have z : decide ((n : Int) < 24) = true := decide_eq_true (by omega)
      have b2 : inR (n : Int) 24 = true := idx_in (show n < 24 by omega)
      have b3 : IntKind.wrap .i64 ((n : Int) + 1) = ((n + 1 : Nat) : Int) := (wrap_i64 (by omega) (by omega)).trans (by omega)
      simp only [S_astrolabelaw9_TriPositive_1, z, cond_true, b2, b3, Int.toNat_natCast]
      by_cases q : x1 n > 17592186044416
      · rw [decide_eq_true q, cond_true, Sum.elim_inl]
      · rw [decide_eq_false q, cond_false]
        exact hc (t - 1) _ (by omega) ⟨n + 1, by omega, (fun k hk => by
          rcases Nat.lt_or_ge k n with c | c
          · exact hd k c
          · obtain rfl : k = n := by omega
            omega), rfl⟩
  · have z : decide ((n : Int) < 276) = true := decide_eq_true (by omega)
    have b2 : inR (n : Int) 276 = true := idx_in (show n < 276 by omega)
    have b3 : IntKind.wrap .i64 ((n : Int) + 1) = ((n + 1 : Nat) : Int) := (wrap_i64 (by omega) (by omega)).trans (by omega)
    have b4 : Nat.ble (0 + n * 1 + 1) 276 = true := ble1 (by omega)
    simp only [S_astrolabelaw9_TriPositive_0, z, cond_true, b2, b3, b4, Int.toNat_natCast]
    by_cases q : x0 n < -8589934592
    · rw [decide_eq_true q, cond_true, Sum.elim_inl]
    rw [decide_eq_false q, cond_false]
    by_cases q2 : x0 n > 8589934592
    · rw [decide_eq_true q2, cond_true, Sum.elim_inl]
    rw [decide_eq_false q2, cond_false]
    exact hc (t - 1) _ (by omega) ⟨n + 1, by omega, (fun k hk => by
      rcases Nat.lt_or_ge k n with c | c
      · exact hf k c
      · obtain rfl : k = n := by omega
        omega), rfl⟩
theorem triPositive_ev (f : (Nat → Int) → (Nat → Int) → (Int) → (Int) → Option Bool) (x0_0_0 : Nat → Int) (x0_1_0 : Nat → Int) (x1_0 : Int) (x2_0 : Int) : F_astrolabelaw9_TriPositive f [.r (.agg [.a (.l 276) [.i .i64 x0_0_0], .a (.l 24) [.i .i64 x0_1_0]]), .r (.c (.f (.i .i64 x1_0))), .r (.c (.f (.i .i64 x2_0)))] [] = .opt (f x0_0_0 x0_1_0 x1_0 x2_0) fun d => .leaf ⟨.r (.c (.f (.b d))), [], []⟩ := by kernel_rfl
theorem triPositive_trues : Trues (F_astrolabelaw9_TriPositive f_astrolabelaw9_TriPositive) [.flat true [.a 276 [.i .i64], .a 24 [.i .i64]], .flat false [.c (.i .i64)], .flat false [.c (.i .i64)]] := fun ds h => by
  obtain ⟨_, _, rfl, q0_0, g0⟩ := fit_flat h
  obtain ⟨_, _, rfl, p0_0_0, q0_1⟩ := f1_a q0_0
  obtain ⟨x0_0_0, _, rfl, r0_0_0, p0_0_1⟩ := col_i p0_0_0
  obtain rfl := col_nil p0_0_1
  obtain ⟨_, _, rfl, p0_1_0, q0_2⟩ := f1_a q0_1
  obtain ⟨x0_1_0, _, rfl, r0_1_0, p0_1_1⟩ := col_i p0_1_0
  obtain rfl := col_nil p0_1_1
  obtain rfl := f1_nil q0_2
  obtain ⟨_, _, rfl, q1_0, g1⟩ := fit_flat g0
  obtain ⟨x1_0, _, rfl, r1_0, q1_1⟩ := f1_i q1_0
  obtain rfl := f1_nil q1_1
  obtain ⟨_, _, rfl, q2_0, g2⟩ := fit_flat g1
  obtain ⟨x2_0, _, rfl, r2_0, q2_1⟩ := f1_i q2_0
  obtain rfl := f1_nil q2_1
  obtain rfl := fit_nil g2
  refine ⟨[], (congrArg T.eval (triPositive_ev f_astrolabelaw9_TriPositive x0_0_0 x0_1_0 x1_0 x2_0)).trans ?_⟩
  rw [triPositive_plain x0_0_0 x0_1_0 x1_0 x2_0]
  rfl
set_option maxRecDepth 100000 in
theorem triPositive_lifted (os : Os) (started : os.Started) (H : Type) (enc : TypeId × Value → H) :
    ReturnsInHanded {} Try.checked os 14 .any (Rows.triPositiveSpec.pre6 enc Try.prog Try.f14 Rows.triPositiveRow.domain false) (Rows.triPositiveSpec.post enc Try.prog Try.f14 false true false false) :=
  law_lift (C := Try.checked) (tb := Try.f14.resultTypes.getD 0 0) own started (by kernel_rfl) Try.func14 laid (by kernel_rfl) (by kernel_rfl) (by kernel_rfl) rfl
    (fun ds h => by
      have h : ds.length = 3 := h.trans (by kernel_rfl)
      match ds, h with
      | [_, _, _], _ => rfl)
    (ChangeSpec.witness6 (enc := enc) (C := Try.checked) false ⟨#[], #[.agg #[.int .i64 0, .int .i64 0, .int .i64 0, .int .i64 0, .int .i64 0, .int .i64 0, .int .i64 0, .int .i64 0, .int .i64 0, .int .i64 0, .int .i64 0, .int .i64 0, .int .i64 0, .int .i64 0, .int .i64 0, .int .i64 0, .int .i64 0, .int .i64 0, .int .i64 0, .int .i64 0, .int .i64 0, .int .i64 0, .int .i64 0, .int .i64 0, .int .i64 0, .int .i64 0, .int .i64 0, .int .i64 0, .int .i64 0, .int .i64 0, .int .i64 0, .int .i64 0, .int .i64 0, .int .i64 0, .int .i64 0, .int .i64 0, .int .i64 0, .int .i64 0, .int .i64 0, .int .i64 0, .int .i64 0, .int .i64 0, .int .i64 0, .int .i64 0, .int .i64 0, .int .i64 0, .int .i64 0, .int .i64 0, .int .i64 0, .int .i64 0, .int .i64 0, .int .i64 0, .int .i64 0, .int .i64 0, .int .i64 0, .int .i64 0, .int .i64 0, .int .i64 0, .int .i64 0, .int .i64 0, .int .i64 0, .int .i64 0, .int .i64 0, .int .i64 0, .int .i64 0, .int .i64 0, .int .i64 0, .int .i64 0, .int .i64 0, .int .i64 0, .int .i64 0, .int .i64 0, .int .i64 0, .int .i64 0, .int .i64 0, .int .i64 0, .int .i64 0, .int .i64 0, .int .i64 0, .int .i64 0, .int .i64 0, .int .i64 0, .int .i64 0, .int .i64 0, .int .i64 0, .int .i64 0, .int .i64 0, .int .i64 0, .int .i64 0, .int .i64 0, .int .i64 0, .int .i64 0, .int .i64 0, .int .i64 0, .int .i64 0, .int .i64 0, .int .i64 0, .int .i64 0, .int .i64 0, .int .i64 0, .int .i64 0, .int .i64 0, .int .i64 0, .int .i64 0, .int .i64 0, .int .i64 0, .int .i64 0, .int .i64 0, .int .i64 0, .int .i64 0, .int .i64 0, .int .i64 0, .int .i64 0, .int .i64 0, .int .i64 0, .int .i64 0, .int .i64 0, .int .i64 0, .int .i64 0, .int .i64 0, .int .i64 0, .int .i64 0, .int .i64 0, .int .i64 0, .int .i64 0, .int .i64 0, .int .i64 0, .int .i64 0, .int .i64 0, .int .i64 0, .int .i64 0, .int .i64 0, .int .i64 0, .int .i64 0, .int .i64 0, .int .i64 0, .int .i64 0, .int .i64 0, .int .i64 0, .int .i64 0, .int .i64 0, .int .i64 0, .int .i64 0, .int .i64 0, .int .i64 0, .int .i64 0, .int .i64 0, .int .i64 0, .int .i64 0, .int .i64 0, .int .i64 0, .int .i64 0, .int .i64 0, .int .i64 0, .int .i64 0, .int .i64 0, .int .i64 0, .int .i64 0, .int .i64 0, .int .i64 0, .int .i64 0, .int .i64 0, .int .i64 0, .int .i64 0, .int .i64 0, .int .i64 0, .int .i64 0, .int .i64 0, .int .i64 0, .int .i64 0, .int .i64 0, .int .i64 0, .int .i64 0, .int .i64 0, .int .i64 0, .int .i64 0, .int .i64 0, .int .i64 0, .int .i64 0, .int .i64 0, .int .i64 0, .int .i64 0, .int .i64 0, .int .i64 0, .int .i64 0, .int .i64 0, .int .i64 0, .int .i64 0, .int .i64 0, .int .i64 0, .int .i64 0, .int .i64 0, .int .i64 0, .int .i64 0, .int .i64 0, .int .i64 0, .int .i64 0, .int .i64 0, .int .i64 0, .int .i64 0, .int .i64 0, .int .i64 0, .int .i64 0, .int .i64 0, .int .i64 0, .int .i64 0, .int .i64 0, .int .i64 0, .int .i64 0, .int .i64 0, .int .i64 0, .int .i64 0, .int .i64 0, .int .i64 0, .int .i64 0, .int .i64 0, .int .i64 0, .int .i64 0, .int .i64 0, .int .i64 0, .int .i64 0, .int .i64 0, .int .i64 0, .int .i64 0, .int .i64 0, .int .i64 0, .int .i64 0, .int .i64 0, .int .i64 0, .int .i64 0, .int .i64 0, .int .i64 0, .int .i64 0, .int .i64 0, .int .i64 0, .int .i64 0, .int .i64 0, .int .i64 0, .int .i64 0, .int .i64 0, .int .i64 0, .int .i64 0, .int .i64 0, .int .i64 0, .int .i64 0, .int .i64 0, .int .i64 0, .int .i64 0, .int .i64 0, .int .i64 0, .int .i64 0, .int .i64 0, .int .i64 0, .int .i64 0, .int .i64 0, .int .i64 0, .int .i64 0, .int .i64 0, .int .i64 0, .int .i64 0, .int .i64 0, .int .i64 0, .int .i64 0, .int .i64 0, .int .i64 0, .int .i64 0, .int .i64 0, .int .i64 0, .int .i64 0, .int .i64 0, .int .i64 0, .int .i64 0, .int .i64 0, .int .i64 0, .int .i64 0, .int .i64 0, .int .i64 0, .int .i64 0, .int .i64 0, .int .i64 0, .int .i64 0, .int .i64 0, .int .i64 0, .int .i64 0, .int .i64 0, .int .i64 0, .int .i64 0, .int .i64 0, .int .i64 0, .int .i64 0, .int .i64 0, .int .i64 0, .int .i64 0, .int .i64 0, .int .i64 0, .int .i64 0, .int .i64 0, .int .i64 0, .int .i64 0, .int .i64 0], .int .i64 0, .int .i64 0], []⟩ 8 (by kernel_rfl) (by kernel_rfl) (by kernel_rfl) (by kernel_rfl))
    (fun W base args ds ps _ hval ht hz _ _ => prm_calls (pr := [.flat true [.a 276 [.i .i64], .a 24 [.i .i64]], .flat false [.c (.i .i64)], .flat false [.c (.i .i64)]]) s_astrolabelaw9_TriPositive (by kernel_rfl) (ts := Try.f14.params.toList) (by kernel_rfl) (by kernel_rfl) triPositive_trues hval ht hz)
theorem triPositive_over : Rows.triPositiveRow.holds Try.pinned (OpenSpec.ofChange Rows.triPositiveSpec) :=
  OpenClaim.holds_of_wide 14 Try.f14 rfl rfl rfl rfl rfl rfl rfl ⟨rfl, rfl, rfl, rfl, rfl⟩ rfl rfl rfl rfl rfl (by kernel_rfl) Try.func14 (by kernel_rfl)
    (of_decide_eq_true (by kernel_rfl)) (by unfold Func.isWrapper; first | (rw [if_pos (by decide +kernel)]; kernel_rfl) | (rw [if_neg (by decide +kernel)]; exact ⟨rfl, rfl⟩))
    (fun os started H enc _ => triPositive_lifted os started H enc)
/-- the statement -/
theorem triPositive_proved : Rows.TriPositiveSaid := triPositive_over
#print axioms triPositive_proved
end Go.Proofs.Ytmlmpcabphgfaaa
