/-
  The root of a number of 128 bits in plain arithmetic.
-/
import Derived.Test.YtcalippagaaikaaWT
import Derived.Test.YtcalippagaaikaaC1
set_option maxRecDepth 100000
set_option maxHeartbeats 4000000
set_option linter.unusedVariables false
set_option linter.unusedSimpArgs false
namespace Go.Proofs.Ytcalippagaaikaa
open Go.Ab
/-- r is the root of V, rounded -/
def isR (r V : Int) : Prop := 0 ≤ r ∧ V ≤ r * r + r ∧ (r = 0 ∨ r * r - r < V)
theorem mul_nn {a b : Int} (ha : 0 ≤ a) (hb : 0 ≤ b) : 0 ≤ a * b := Int.mul_nonneg ha hb
theorem isR_le {r s V : Int} (h1 : isR r V) (h2 : isR s V) : s ≤ r := by
  obtain ⟨a1, a2, a3⟩ := h1
  obtain ⟨b1, b2, b3⟩ := h2
  rcases Int.lt_or_le r s with h | h
  · exfalso
    have p := mul_nn (a := s - r - 1) (b := s + r) (by omega) (by omega)
    have q : (s - r - 1) * (s + r) = s * s - s - (r * r + r) := by grind
    rcases b3 with b3 | b3
    · omega
    · omega
  · exact h
theorem isR_uniq {r s V : Int} (h1 : isR r V) (h2 : isR s V) : r = s := Int.le_antisymm (isR_le h2 h1) (isR_le h1 h2)
theorem sqrt_ex (n : Nat) : ∃ q : Nat, q * q ≤ n ∧ n < (q + 1) * (q + 1) := by
  induction n with
  | zero => exact ⟨0, by omega, by omega⟩
  | succ n ih =>
    obtain ⟨q, h1, h2⟩ := ih
    by_cases c : n + 1 < (q + 1) * (q + 1)
    · exact ⟨q, by omega, c⟩
    · refine ⟨q + 1, by omega, ?_⟩
      have : (q + 1 + 1) * (q + 1 + 1) = (q + 1) * (q + 1) + 2 * q + 3 := by grind
      omega
theorem sqrt_exI (V : Int) (h : 0 ≤ V) : ∃ q : Int, 0 ≤ q ∧ q * q ≤ V ∧ V < (q + 1) * (q + 1) := by
  obtain ⟨q, h1, h2⟩ := sqrt_ex V.toNat
  refine ⟨q, by omega, ?_, ?_⟩
  · have e : ((q * q : Nat) : Int) = (q : Int) * q := by simp
    omega
  · have e : (((q + 1) * (q + 1) : Nat) : Int) = ((q : Int) + 1) * (q + 1) := by simp
    omega
theorem sq_lt {a b : Int} (ha : 0 ≤ a) (hb : 0 ≤ b) (h : a * a < b * b) : a < b := by
  rcases Int.lt_or_le a b with c | c
  · exact c
  · exfalso
    have := Int.mul_le_mul c c hb (by omega)
    omega
theorem sq_le {a b : Int} (ha : 0 ≤ a) (hb : 0 ≤ b) (h : a * a ≤ b * b) : a ≤ b := by
  rcases Int.lt_or_le b a with c | c
  · exfalso
    have p := mul_nn (a := a - b - 1) (b := a + b) (by omega) (by omega)
    have q : (a - b - 1) * (a + b) = a * a - a - (b * b + b) := by grind
    omega
  · exact c
theorem shl_one' (n : Nat) (hn : n < 128) : f__wide_big__shl 0 1 (Int.ofNat n) = some (2 ^ n / 18446744073709551616, 2 ^ n % 18446744073709551616) := by
  have key : ∀ n : Fin 128, f__wide_big__shl 0 1 (Int.ofNat n.val) = some ((2 : Int) ^ n.val / 18446744073709551616, (2 : Int) ^ n.val % 18446744073709551616) := by decide +kernel
  exact key ⟨n, hn⟩
theorem big_less (a b c d : Int) (b0 : 0 ≤ b) (b1 : b < 18446744073709551616) (d0 : 0 ≤ d) (d1 : d < 18446744073709551616) :
    f__wide_big__less a b c d = some (decide (a * 18446744073709551616 + b < c * 18446744073709551616 + d)) := by
  unfold f__wide_big__less K__wide_big__less
  by_cases h : a < c
  · have : a * 18446744073709551616 + b < c * 18446744073709551616 + d := by omega
    simp [h, this]
  · by_cases e : a = c
    · subst e
      have : (a * 18446744073709551616 + b < a * 18446744073709551616 + d) ↔ b < d := by omega
      simp [this]
    · have : ¬ a * 18446744073709551616 + b < c * 18446744073709551616 + d := by omega
      have e' : (a == c) = false := by simp [e]
      rw [decide_eq_false h, cond_false, e', cond_false, decide_eq_false this]
theorem sub64_eq (x y c : Int) (x0 : 0 ≤ x) (x1 : x < 18446744073709551616) (y0 : 0 ≤ y) (y1 : y < 18446744073709551616) (c0 : 0 ≤ c) (c1 : c ≤ 1) : f_Sub64 x y c = some ((x - y - c) % 18446744073709551616, if x < y + c then 1 else 0) := by
  unfold f_Sub64
  have h : Nat.ble c.toNat 1 = true := Nat.ble_eq_true_of_le (by omega)
  rw [h, cond_true]
  congr 1
  unfold subA subB
  simp only [Int.ofNat_eq_natCast, Prod.mk.injEq]
  constructor
  · omega
  · split <;> split <;> omega
theorem big_minus (a b c d : Int) (a0 : 0 ≤ a) (a1 : a < 18446744073709551616) (b0 : 0 ≤ b) (b1 : b < 18446744073709551616) (c0 : 0 ≤ c) (c1 : c < 18446744073709551616) (d0 : 0 ≤ d) (d1 : d < 18446744073709551616)
    (h : c * 18446744073709551616 + d ≤ a * 18446744073709551616 + b) :
    ∃ h' l', f__wide_big__minus a b c d = some (h', l') ∧ 0 ≤ h' ∧ h' < 18446744073709551616 ∧ 0 ≤ l' ∧ l' < 18446744073709551616 ∧ h' * 18446744073709551616 + l' = a * 18446744073709551616 + b - (c * 18446744073709551616 + d) := by
  unfold f__wide_big__minus K__wide_big__minus
  rw [sub64_eq b d 0 b0 b1 d0 d1 (by omega) (by omega)]
  simp only [Option.bind_some, Int.add_zero]
  by_cases k : b < d
  · rw [if_pos k, sub64_eq a c 1 a0 a1 c0 c1 (by omega) (by omega)]
    simp only [Option.bind_some]
    refine ⟨_, _, rfl, ?_, ?_, ?_, ?_, ?_⟩ <;> omega
  · rw [if_neg k, sub64_eq a c 0 a0 a1 c0 c1 (by omega) (by omega)]
    simp only [Option.bind_some]
    refine ⟨_, _, rfl, ?_, ?_, ?_, ?_, ?_⟩ <;> omega
theorem big_plus' (h1 l1 h2 l2 : Int) (a0 : 0 ≤ h1) (b0 : 0 ≤ l1) (c0 : 0 ≤ h2) (d0 : 0 ≤ l2) (b1 : l1 < 18446744073709551616) (d1 : l2 < 18446744073709551616)
    (h : h1 * 18446744073709551616 + l1 + (h2 * 18446744073709551616 + l2) < 340282366920938463463374607431768211456) :
    ∃ h' l', f__wide_big__plus h1 l1 h2 l2 = some (h', l') ∧ 0 ≤ h' ∧ h' < 18446744073709551616 ∧ 0 ≤ l' ∧ l' < 18446744073709551616 ∧ h' * 18446744073709551616 + l' = h1 * 18446744073709551616 + l1 + (h2 * 18446744073709551616 + l2) := by
  rw [big_plus h1 l1 h2 l2 a0 b0 c0 d0 b1 d1]
  refine ⟨_, _, rfl, ?_, ?_, ?_, ?_, ?_⟩ <;> omega
theorem pow_le_pow {m n : Nat} (h : m ≤ n) : (2 : Int) ^ m ≤ 2 ^ n := by
  have h2 : (2 : Nat) ^ m ≤ 2 ^ n := Nat.pow_le_pow_right (by decide) h
  have h3 : ((2 ^ m : Nat) : Int) ≤ ((2 ^ n : Nat) : Int) := by exact_mod_cast h2
  simpa using h3
theorem wide_root_neg (h l : Int) (h0 : h < 0) : f_wide_Root h l = some (0, false) := by
  unfold f_wide_Root K_wide_Root
  simp [h0]
theorem wide_root (h l : Int) (o : okW h l) (h0 : 0 ≤ h) : ∃ r, isR r (vW h l) ∧ r < 18446744073709551616 ∧ f_wide_Root h l = if r ≤ 9223372036854775807 then some (r, true) else some (0, false) := by
  obtain ⟨o1, o2, o3, o4⟩ := o
  have v0 : 0 ≤ vW h l := by show 0 ≤ h * 18446744073709551616 + l; omega
  have v1 : vW h l < 170141183460469231731687303715884105728 := by show h * 18446744073709551616 + l < _; omega
  have hvv : h * 18446744073709551616 + l = vW h l := rfl
  generalize vW h l = V at *
  obtain ⟨q, q0, q1, q2⟩ := sqrt_exI V v0
  have qb : q < 13043817825332782213 := sq_lt q0 (by omega) (by omega)
  obtain ⟨r, hr⟩ : ∃ r, r = if q < V - q * q then q + 1 else q := ⟨_, rfl⟩
  have q3 : (q + 1) * (q + 1) = q * q + 2 * q + 1 := by grind
  refine ⟨r, ?_, by rw [hr]; split <;> omega, ?_⟩
  · rw [hr]
    split
    · rename_i c
      exact ⟨by omega, by omega, Or.inr (by omega)⟩
    · rename_i c
      refine ⟨q0, by omega, ?_⟩
      rcases Int.lt_or_le 0 q with k | k
      · exact Or.inr (by omega)
      · exact Or.inl (by omega)
  unfold f_wide_Root K_wide_Root L_wide_Root_0
  have n0 : decide (h < 0) = false := decide_eq_false (by omega)
  have n1 : IntKind.wrap .u64 h = h := by rw [wrap_u64]; omega
  rw [n0, cond_false, n1]
  refine loopK_inv (fun t d => ∃ (p c rh rl sh sl : Int), t ≤ 64 ∧ 0 ≤ p ∧ p = c * 2 ^ t ∧ p * p ≤ V ∧ V < (p + 2 ^ t) * (p + 2 ^ t) ∧ 0 ≤ rh ∧ rh < 18446744073709551616 ∧ 0 ≤ rl ∧ rl < 18446744073709551616 ∧ rh * 18446744073709551616 + rl = V - p * p ∧
      0 ≤ sh ∧ sh < 18446744073709551616 ∧ 0 ≤ sl ∧ sl < 18446744073709551616 ∧ sh * 18446744073709551616 + sl = p * 2 ^ t ∧ d = (2 * (t : Int) - 2, rh, rl, sh, sl)) ?_ 200 64 _ (by omega)
    ⟨0, 0, h, l, 0, 0, by omega, by omega, by omega, by omega, by
      have : (2 : Int) ^ 64 = 18446744073709551616 := rfl
      omega, by omega, by omega, by omega, by omega, by omega, by omega, by omega, by omega, by omega, by omega, rfl⟩
  rintro t _ k ⟨p, c, rh, rl, sh, sl, t0, p0, pc, p1, p2, r0, r1, r2, r3, r4, s0, s1, s2, s3, s4, rfl⟩ hk
  rcases Nat.eq_zero_or_pos t with z | z
  · subst z
    have e1 : (2 : Int) ^ 0 = 1 := rfl
    rw [e1] at p2 s4
    have pq : p = q := by
      have h1 : p < q + 1 := sq_lt p0 (by omega) (by omega)
      have h2 : q < p + 1 := sq_lt q0 (by omega) (by omega)
      omega
    subst pq
    have g0 : decide ((2 : Int) * ((0 : Nat) : Int) - 2 ≥ 0) = false := by decide
    simp only [S_wide_Root_0, g0, cond_false, big_less sh sl rh rl s2 s3 r2 r3, Option.bind_some]
    rw [s4, r4, Int.mul_one]
    by_cases cc : p < V - p * p
    · rw [decide_eq_true cc, cond_true]
      rw [if_pos cc] at hr
      obtain ⟨a, b, e2, a0, a1, b0, b1, e3⟩ := big_plus' sh sl 0 1 s0 s2 (by omega) (by omega) s3 (by omega) (by omega)
      rw [e2, Option.bind_some, wide_signed64 a b false a0 b0 b1, e3, hr]
      have e4 : sh * 18446744073709551616 + sl + (0 * 18446744073709551616 + 1) = p + 1 := by omega
      rw [e4]
      have az : a = 0 := by omega
      have e5 : b = p + 1 := by omega
      simp only [Bool.false_eq_true, if_false, e5]
      by_cases f : p + 1 ≤ 9223372036854775807
      · rw [if_pos f, Option.bind_some]
      · rw [if_neg f, Option.bind_some]
    · rw [decide_eq_false cc, cond_false]
      rw [if_neg cc] at hr
      rw [wide_signed64 sh sl false s0 s2 s3, s4, hr]
      have az : sh = 0 := by omega
      have e5 : sl = p := by omega
      simp only [Bool.false_eq_true, if_false, Int.mul_one, e5]
      by_cases f : p ≤ 9223372036854775807
      · rw [if_pos f, Option.bind_some]
      · rw [if_neg f, Option.bind_some]
  · obtain ⟨m, rfl⟩ : ∃ m, t = m + 1 := ⟨t - 1, by omega⟩
    have P2 : (2 : Int) ^ (m + 1) = 2 ^ m * 2 := Int.pow_succ _ _
    have PP : (2 : Int) ^ (2 * m) = 2 ^ m * 2 ^ m := by rw [← Int.pow_add]; congr 1; omega
    have P0 := pow_pos' m
    have PB : (2 : Int) ^ m ≤ 2 ^ 63 := pow_le_pow (by omega)
    have PBv : (2 : Int) ^ 63 = 9223372036854775808 := rfl
    have at0 : (2 : Int) * ((m + 1 : Nat) : Int) - 2 = Int.ofNat (2 * m) := by simp only [Int.ofNat_eq_natCast]; omega
    rw [at0]
    have g0 : decide (Int.ofNat (2 * m) ≥ 0) = true := decide_eq_true (by simp only [Int.ofNat_eq_natCast]; omega)
    have g1 : IntKind.wrap .i64 (Int.ofNat (2 * m) - 2) = 2 * (m : Int) - 2 := by
      simp only [Int.ofNat_eq_natCast]
      rw [wrap_i64 (by omega) (by omega)]
      omega
    simp only [S_wide_Root_0, g0, cond_true, shl_one' (2 * m) (by omega), Option.bind_some, g1]
    rw [PP]
    rw [P2] at pc p2 s4
    generalize hP : (2 : Int) ^ m = P at *
    have PPb : P * P ≤ 85070591730234615865843651857942052864 := by
      have := Int.mul_le_mul PB PB (by omega) (by omega)
      omega
    have PP0 : 0 < P * P := Int.mul_pos P0 P0
    -- what stands in r is no more than V
    have pb : p * P * 2 ≤ V := by
      rcases Int.lt_or_le 0 c with k0 | k0
      · have c1 : 1 * (P * 2) ≤ c * (P * 2) := Int.mul_le_mul_of_nonneg_right (by omega) (by omega)
        have c2 : p * (P * 2) ≤ p * p := Int.mul_le_mul_of_nonneg_left (by omega) p0
        have c3 : p * (P * 2) = p * P * 2 := by grind
        omega
      · have c1 : c * (P * 2) ≤ 0 * (P * 2) := Int.mul_le_mul_of_nonneg_right k0 (by omega)
        have : p = 0 := by omega
        subst this
        omega
    have s4' : sh * 18446744073709551616 + sl = p * P * 2 := by rw [s4]; grind
    obtain ⟨a, b, e2, a0, a1, b0, b1, e3⟩ := big_plus' sh sl (P * P / 18446744073709551616) (P * P % 18446744073709551616) s0 s2 (by omega) (by omega) s3 (by omega) (by omega)
    have e3' : a * 18446744073709551616 + b = p * P * 2 + P * P := by omega
    obtain ⟨u, v, e4, u0, v0, v1, e5⟩ := big_shr sh sl 1 (by omega) s0 s1 s2 s3
    have e4' : f__wide_big__shr sh sl 1 = some (u, v) := e4
    have e5' : u * 18446744073709551616 + v = p * P := by
      rw [e5, s4']
      show p * P * 2 / 2 ^ 1 = p * P
      rw [show (2 : Int) ^ 1 = 2 from rfl]; omega
    rw [e2, Option.bind_some, e4', Option.bind_some, big_less rh rl a b r2 r3 b0 b1, Option.bind_some, e3', r4]
    have dd : p * p + (p * P * 2 + P * P) = (p + P) * (p + P) := by grind
    by_cases cc : V - p * p < p * P * 2 + P * P
    · rw [decide_eq_true cc]
      simp only [Bool.not_true, cond_false]
      refine hk m _ (by omega) ⟨p, c * 2, rh, rl, u, v, by omega, p0, by rw [hP, pc]; grind, p1, by rw [hP]; omega, r0, r1, r2, r3, r4, u0, by omega, v0, v1, by rw [hP]; exact e5', rfl⟩
    · rw [decide_eq_false cc]
      simp only [Bool.not_false, cond_true]
      obtain ⟨x, y, e6, x0, x1, y0, y1, e7⟩ := big_minus rh rl a b r0 r1 r2 r3 a0 a1 b0 b1 (by omega)
      obtain ⟨w, z', e8, w0, w1, z0, z1, e9⟩ := big_plus' u v (P * P / 18446744073709551616) (P * P % 18446744073709551616) u0 v0 (by omega) (by omega) v1 (by omega) (by omega)
      rw [e6, Option.bind_some, e8, Option.bind_some]
      refine hk m _ (by omega) ⟨p + P, c * 2 + 1, x, y, w, z', by omega, by omega, by rw [hP, pc]; grind, by omega, ?_, x0, x1, y0, y1, by omega, w0, w1, z0, z1, ?_, rfl⟩
      · rw [hP]
        have : (p + P + P) * (p + P + P) = (p + P * 2) * (p + P * 2) := by grind
        omega
      · rw [hP]
        have : (p + P) * P = p * P + P * P := by grind
        omega
end Go.Proofs.Ytcalippagaaikaa
