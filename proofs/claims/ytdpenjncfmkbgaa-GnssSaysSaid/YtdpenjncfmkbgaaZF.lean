/-
  The root of a number of 128 bits in plain arithmetic. A root, clamped, in plain arithmetic. Sums of clamped scalars in plain arithmetic. The second reckoner in plain arithmetic: products, sums, roots, quotients. Chapter 8: what always answers, and the declination at the two ends of the turn. Chapter 8: EarthRound. Chapter 8: bounds of the frame's two lengths. Chapter 8: the frame's two lengths lie within bounds; To does not saturate. Chapter 8: bounds of a series. Chapter 8: a declination by columns.
-/
import Derived.Test.YtdpenjncfmkbgaaZE
import Derived.Test.YtdpenjncfmkbgaaZC
set_option linter.unusedVariables false
set_option linter.unusedSimpArgs false
set_option maxRecDepth 100000
set_option maxHeartbeats 4000000
set_option linter.unusedVariables false
set_option linter.unusedSimpArgs false
namespace Go.Proofs.Ytdpenjncfmkbgaa
open Go.Ab
def isR (r V : Int) : Prop := 0 ≤ r ∧ V ≤ r * r + r ∧ (r = 0 ∨ r * r - r < V)
theorem isR_le {r s V : Int} (h1 : isR r V) (h2 : isR s V) : s ≤ r := by
  obtain ⟨a1, a2, a3⟩ := h1
  obtain ⟨b1, b2, b3⟩ := h2
  rcases Int.lt_or_le r s with h | h
  · exfalso
    have p := mul_nn (a := s - r - 1) (b := s + r) (by omega) (by omega)
    have q : (s - r - 1) * (s + r) = s * s - s - (r * r + r) := by grind
    rcases b3 with b3 | b3
    · omega
    · omega
  · exact h
theorem isR_uniq {r s V : Int} (h1 : isR r V) (h2 : isR s V) : r = s := Int.le_antisymm (isR_le h2 h1) (isR_le h1 h2)
theorem sqrt_ex (n : Nat) : ∃ q : Nat, q * q ≤ n ∧ n < (q + 1) * (q + 1) := by
  induction n with
  | zero => exact ⟨0, by omega, by omega⟩
  | succ n ih =>
    obtain ⟨q, h1, h2⟩ := ih
    by_cases c : n + 1 < (q + 1) * (q + 1)
    · exact ⟨q, by omega, c⟩
    · refine ⟨q + 1, by omega, ?_⟩
      have : (q + 1 + 1) * (q + 1 + 1) = (q + 1) * (q + 1) + 2 * q + 3 := by grind
      omega
theorem sqrt_exI (V : Int) (h : 0 ≤ V) : ∃ q : Int, 0 ≤ q ∧ q * q ≤ V ∧ V < (q + 1) * (q + 1) := by
  obtain ⟨q, h1, h2⟩ := sqrt_ex V.toNat
  refine ⟨q, by omega, ?_, ?_⟩
  · have e : ((q * q : Nat) : Int) = (q : Int) * q := by simp
    omega
  · have e : (((q + 1) * (q + 1) : Nat) : Int) = ((q : Int) + 1) * (q + 1) := by simp
    omega
theorem sq_lt {a b : Int} (ha : 0 ≤ a) (hb : 0 ≤ b) (h : a * a < b * b) : a < b := by
  rcases Int.lt_or_le a b with c | c
  · exact c
  · exfalso
    have := Int.mul_le_mul c c hb (by omega)
    omega
theorem shl_one' (n : Nat) (hn : n < 128) : f_AO 0 1 (Int.ofNat n) = some (2 ^ n / 18446744073709551616, 2 ^ n % 18446744073709551616) := by
  have key : ∀ n : Fin 128, f_AO 0 1 (Int.ofNat n.val) = some ((2 : Int) ^ n.val / 18446744073709551616, (2 : Int) ^ n.val % 18446744073709551616) := by decide +kernel
  exact key ⟨n, hn⟩
theorem big_less (a b c d : Int) (b0 : 0 ≤ b) (b1 : b < 18446744073709551616) (d0 : 0 ≤ d) (d1 : d < 18446744073709551616) :
    f_Az a b c d = some (decide (a * 18446744073709551616 + b < c * 18446744073709551616 + d)) := by
  unfold f_Az K_Az
  by_cases h : a < c
  · have : a * 18446744073709551616 + b < c * 18446744073709551616 + d := by omega
    simp [h, this]
  · by_cases e : a = c
    · subst e
      have : (a * 18446744073709551616 + b < a * 18446744073709551616 + d) ↔ b < d := by omega
      simp [this]
    · have : ¬ a * 18446744073709551616 + b < c * 18446744073709551616 + d := by omega
      have e' : (a == c) = false := by simp [e]
      rw [decide_eq_false h, cond_false, e', cond_false, decide_eq_false this]
theorem sub64_eq (x y c : Int) (x0 : 0 ≤ x) (x1 : x < 18446744073709551616) (y0 : 0 ≤ y) (y1 : y < 18446744073709551616) (c0 : 0 ≤ c) (c1 : c ≤ 1) : f_Sub64 x y c = some ((x - y - c) % 18446744073709551616, if x < y + c then 1 else 0) := by
  unfold f_Sub64
  have h : Nat.ble c.toNat 1 = true := Nat.ble_eq_true_of_le (by omega)
  rw [h, cond_true]
  congr 1
  unfold subA subB
  simp only [Int.ofNat_eq_natCast, Prod.mk.injEq]
  constructor
  · omega
  · split <;> split <;> omega
theorem big_minus (a b c d : Int) (a0 : 0 ≤ a) (a1 : a < 18446744073709551616) (b0 : 0 ≤ b) (b1 : b < 18446744073709551616) (c0 : 0 ≤ c) (c1 : c < 18446744073709551616) (d0 : 0 ≤ d) (d1 : d < 18446744073709551616)
    (h : c * 18446744073709551616 + d ≤ a * 18446744073709551616 + b) :
    ∃ h' l', f_BE a b c d = some (h', l') ∧ 0 ≤ h' ∧ h' < 18446744073709551616 ∧ 0 ≤ l' ∧ l' < 18446744073709551616 ∧ h' * 18446744073709551616 + l' = a * 18446744073709551616 + b - (c * 18446744073709551616 + d) := by
  unfold f_BE K_BE
  rw [sub64_eq b d 0 b0 b1 d0 d1 (by omega) (by omega)]
  simp only [Option.bind_some, Int.add_zero]
  by_cases k : b < d
  · rw [if_pos k, sub64_eq a c 1 a0 a1 c0 c1 (by omega) (by omega)]
    simp only [Option.bind_some]
    refine ⟨_, _, rfl, ?_, ?_, ?_, ?_, ?_⟩ <;> omega
  · rw [if_neg k, sub64_eq a c 0 a0 a1 c0 c1 (by omega) (by omega)]
    simp only [Option.bind_some]
    refine ⟨_, _, rfl, ?_, ?_, ?_, ?_, ?_⟩ <;> omega
theorem wide_root (h l : Int) (o : okW h l) (h0 : 0 ≤ h) : ∃ r, isR r (vW h l) ∧ r < 18446744073709551616 ∧ f_AT h l = if r ≤ 9223372036854775807 then some (r, true) else some (0, false) := by
  obtain ⟨o1, o2, o3, o4⟩ := o
  have v0 : 0 ≤ vW h l := by show 0 ≤ h * 18446744073709551616 + l; omega
  have v1 : vW h l < 170141183460469231731687303715884105728 := by show h * 18446744073709551616 + l < _; omega
  have hvv : h * 18446744073709551616 + l = vW h l := rfl
  generalize vW h l = V at *
  obtain ⟨q, q0, q1, q2⟩ := sqrt_exI V v0
  have qb : q < 13043817825332782213 := sq_lt q0 (by omega) (by omega)
  obtain ⟨r, hr⟩ : ∃ r, r = if q < V - q * q then q + 1 else q := ⟨_, rfl⟩
  have q3 : (q + 1) * (q + 1) = q * q + 2 * q + 1 := by grind
  refine ⟨r, ?_, by rw [hr]; split <;> omega, ?_⟩
  · rw [hr]
    split
    · rename_i c
      exact ⟨by omega, by omega, Or.inr (by omega)⟩
    · rename_i c
      refine ⟨q0, by omega, ?_⟩
      rcases Int.lt_or_le 0 q with k | k
      · exact Or.inr (by omega)
      · exact Or.inl (by omega)
  unfold f_AT K_AT L_AT_0
  have n0 : decide (h < 0) = false := decide_eq_false (by omega)
  have n1 : IntKind.wrap .u64 h = h := by rw [wrap_u64]; omega
  rw [n0, cond_false, n1]
  refine loopK_inv (fun t d => ∃ (p c rh rl sh sl : Int), t ≤ 64 ∧ 0 ≤ p ∧ p = c * 2 ^ t ∧ p * p ≤ V ∧ V < (p + 2 ^ t) * (p + 2 ^ t) ∧ 0 ≤ rh ∧ rh < 18446744073709551616 ∧ 0 ≤ rl ∧ rl < 18446744073709551616 ∧ rh * 18446744073709551616 + rl = V - p * p ∧
      0 ≤ sh ∧ sh < 18446744073709551616 ∧ 0 ≤ sl ∧ sl < 18446744073709551616 ∧ sh * 18446744073709551616 + sl = p * 2 ^ t ∧ d = (2 * (t : Int) - 2, rh, rl, sh, sl)) ?_ 200 64 _ (by omega)
    ⟨0, 0, h, l, 0, 0, by omega, by omega, by omega, by omega, by
      have : (2 : Int) ^ 64 = 18446744073709551616 := rfl
      omega, by omega, by omega, by omega, by omega, by omega, by omega, by omega, by omega, by omega, by omega, rfl⟩
  rintro t _ k ⟨p, c, rh, rl, sh, sl, t0, p0, pc, p1, p2, r0, r1, r2, r3, r4, s0, s1, s2, s3, s4, rfl⟩ hk
  rcases Nat.eq_zero_or_pos t with z | z
  · subst z
    have e1 : (2 : Int) ^ 0 = 1 := rfl
    rw [e1] at p2 s4
    have pq : p = q := by
      have h1 : p < q + 1 := sq_lt p0 (by omega) (by omega)
      have h2 : q < p + 1 := sq_lt q0 (by omega) (by omega)
      omega
    subst pq
    have g0 : decide ((2 : Int) * ((0 : Nat) : Int) - 2 ≥ 0) = false := by decide
    simp only [S_AT_0, g0, cond_false, big_less sh sl rh rl s2 s3 r2 r3, Option.bind_some]
    rw [s4, r4, Int.mul_one]
    by_cases cc : p < V - p * p
    · rw [decide_eq_true cc, cond_true]
      rw [if_pos cc] at hr
      obtain ⟨a, b, e2, a0, a1, b0, b1, e3⟩ := big_plus' sh sl 0 1 s0 s2 (by omega) (by omega) s3 (by omega) (by omega)
      rw [e2, Option.bind_some, wide_signed64 a b false a0 b0 b1, e3, hr]
      have e4 : sh * 18446744073709551616 + sl + (0 * 18446744073709551616 + 1) = p + 1 := by omega
      rw [e4]
      have az : a = 0 := by omega
      have e5 : b = p + 1 := by omega
      simp only [Bool.false_eq_true, if_false, e5]
      by_cases f : p + 1 ≤ 9223372036854775807
      · rw [if_pos f, Option.bind_some]
      · rw [if_neg f, Option.bind_some]
    · rw [decide_eq_false cc, cond_false]
      rw [if_neg cc] at hr
      rw [wide_signed64 sh sl false s0 s2 s3, s4, hr]
      have az : sh = 0 := by omega
      have e5 : sl = p := by omega
      simp only [Bool.false_eq_true, if_false, Int.mul_one, e5]
      by_cases f : p ≤ 9223372036854775807
      · rw [if_pos f, Option.bind_some]
      · rw [if_neg f, Option.bind_some]
  · obtain ⟨m, rfl⟩ : ∃ m, t = m + 1 := ⟨t - 1, by omega⟩
    have P2 : (2 : Int) ^ (m + 1) = 2 ^ m * 2 := Int.pow_succ _ _
    have PP : (2 : Int) ^ (2 * m) = 2 ^ m * 2 ^ m := by rw [← Int.pow_add]; congr 1; omega
    have P0 := pow_pos' m
    have PB : (2 : Int) ^ m ≤ 2 ^ 63 := pow_le_pow (by omega)
    have PBv : (2 : Int) ^ 63 = 9223372036854775808 := rfl
    have at0 : (2 : Int) * ((m + 1 : Nat) : Int) - 2 = Int.ofNat (2 * m) := by simp only [Int.ofNat_eq_natCast]; omega
    rw [at0]
    have g0 : decide (Int.ofNat (2 * m) ≥ 0) = true := decide_eq_true (by simp only [Int.ofNat_eq_natCast]; omega)
    have g1 : IntKind.wrap .i64 (Int.ofNat (2 * m) - 2) = 2 * (m : Int) - 2 := by
      simp only [Int.ofNat_eq_natCast]
      rw [wrap_i64 (by omega) (by omega)]
      omega
    simp only [S_AT_0, g0, cond_true, shl_one' (2 * m) (by omega), Option.bind_some, g1]
    rw [PP]
    rw [P2] at pc p2 s4
    generalize hP : (2 : Int) ^ m = P at *
    have PPb : P * P ≤ 85070591730234615865843651857942052864 := by
      have := Int.mul_le_mul PB PB (by omega) (by omega)
      omega
    have PP0 : 0 < P * P := Int.mul_pos P0 P0
    -- what stands in r is no more than V
    have pb : p * P * 2 ≤ V := by
      rcases Int.lt_or_le 0 c with k0 | k0
      · have c1 : 1 * (P * 2) ≤ c * (P * 2) := Int.mul_le_mul_of_nonneg_right (by omega) (by omega)
        have c2 : p * (P * 2) ≤ p * p := Int.mul_le_mul_of_nonneg_left (by omega) p0
        have c3 : p * (P * 2) = p * P * 2 := by grind
        omega
      · have c1 : c * (P * 2) ≤ 0 * (P * 2) := Int.mul_le_mul_of_nonneg_right k0 (by omega)
        have : p = 0 := by omega
        subst this
        omega
    have s4' : sh * 18446744073709551616 + sl = p * P * 2 := by rw [s4]; grind
    obtain ⟨a, b, e2, a0, a1, b0, b1, e3⟩ := big_plus' sh sl (P * P / 18446744073709551616) (P * P % 18446744073709551616) s0 s2 (by omega) (by omega) s3 (by omega) (by omega)
    have e3' : a * 18446744073709551616 + b = p * P * 2 + P * P := by omega
    obtain ⟨u, v, e4, u0, v0, v1, e5⟩ := big_shr sh sl 1 (by omega) s0 s1 s2 s3
    have e4' : f_AM sh sl 1 = some (u, v) := e4
    have e5' : u * 18446744073709551616 + v = p * P := by
      rw [e5, s4']
      show p * P * 2 / 2 ^ 1 = p * P
      rw [show (2 : Int) ^ 1 = 2 from rfl]; omega
    rw [e2, Option.bind_some, e4', Option.bind_some, big_less rh rl a b r2 r3 b0 b1, Option.bind_some, e3', r4]
    have dd : p * p + (p * P * 2 + P * P) = (p + P) * (p + P) := by grind
    by_cases cc : V - p * p < p * P * 2 + P * P
    · rw [decide_eq_true cc]
      simp only [Bool.not_true, cond_false]
      refine hk m _ (by omega) ⟨p, c * 2, rh, rl, u, v, by omega, p0, by rw [hP, pc]; grind, p1, by rw [hP]; omega, r0, r1, r2, r3, r4, u0, by omega, v0, v1, by rw [hP]; exact e5', rfl⟩
    · rw [decide_eq_false cc]
      simp only [Bool.not_false, cond_true]
      obtain ⟨x, y, e6, x0, x1, y0, y1, e7⟩ := big_minus rh rl a b r0 r1 r2 r3 a0 a1 b0 b1 (by omega)
      obtain ⟨w, z', e8, w0, w1, z0, z1, e9⟩ := big_plus' u v (P * P / 18446744073709551616) (P * P % 18446744073709551616) u0 v0 (by omega) (by omega) v1 (by omega) (by omega)
      rw [e6, Option.bind_some, e8, Option.bind_some]
      refine hk m _ (by omega) ⟨p + P, c * 2 + 1, x, y, w, z', by omega, by omega, by rw [hP, pc]; grind, by omega, ?_, x0, x1, y0, y1, by omega, w0, w1, z0, z1, ?_, rfl⟩
      · rw [hP]
        have : (p + P + P) * (p + P + P) = (p + P * 2) * (p + P * 2) := by grind
        omega
      · rw [hP]
        have : (p + P) * P = p * P + P * P := by grind
        omega
end Go.Proofs.Ytdpenjncfmkbgaa
set_option maxRecDepth 100000
set_option maxHeartbeats 4000000
set_option linter.unusedVariables false
set_option linter.unusedSimpArgs false
namespace Go.Proofs.Ytdpenjncfmkbgaa
open Go.Ab
theorem isR_ex (V : Int) (h : 0 ≤ V) : ∃ r, isR r V := by
  obtain ⟨q, q0, q1, q2⟩ := sqrt_exI V h
  have q3 : (q + 1) * (q + 1) = q * q + 2 * q + 1 := by grind
  by_cases c : q < V - q * q
  · exact ⟨q + 1, by omega, by omega, Or.inr (by omega)⟩
  · refine ⟨q, q0, by omega, ?_⟩
    rcases Int.lt_or_le 0 q with k | k
    · exact Or.inr (by omega)
    · exact Or.inl (by omega)
theorem root_end_eq (h l r : Int) (hit : Bool) (o : okW h l) (h0 : 0 ≤ h) (hr : isR r (vW h l)) : f_BT h l hit = some (sat r, hit || over r) := by
  obtain ⟨r', e1, e2, e3⟩ := wide_root h l o h0
  have := isR_uniq hr e1
  subst this
  unfold f_BT K_BT
  rw [e3]
  by_cases c : r ≤ 9223372036854775807
  · rw [if_pos c, Option.bind_some]
    simp only [Bool.not_true, cond_false, acc_sat, Option.bind_some]
  · rw [if_neg c, Option.bind_some]
    simp only [Bool.not_false, cond_true, acc_sat, Option.bind_some]
    have a : sat r = sat 1152921504606846977 := by
      unfold sat
      rw [if_neg (by omega), if_pos (by omega), if_neg (by omega), if_pos (by omega)]
    have b : over r = over 1152921504606846977 := by
      unfold over
      rw [decide_eq_true (show 1152921504606846976 < r by omega), decide_eq_true (show (1152921504606846976 : Int) < 1152921504606846977 by omega), Bool.or_true, Bool.or_true]
    rw [a, b]
end Go.Proofs.Ytdpenjncfmkbgaa
set_option maxRecDepth 100000
set_option maxHeartbeats 4000000
set_option linter.unusedVariables false
set_option linter.unusedSimpArgs false
namespace Go.Proofs.Ytdpenjncfmkbgaa
open Go.Ab
theorem wide_Add2 (f g : Nat → Int) (w : Bool) (o1 : okW (f 0) (g 0)) (o2 : okW (f 1) (g 1)) (r0 : -170141183460469231731687303715884105728 ≤ vW (f 0) (g 0) + vW (f 1) (g 1)) (r1 : vW (f 0) (g 0) + vW (f 1) (g 1) < 170141183460469231731687303715884105728) :
    ∃ h l, f_AI 2 f g w = some (h, l, true) ∧ okW h l ∧ vW h l = vW (f 0) (g 0) + vW (f 1) (g 1) := by
  unfold f_AI K_AI L_AI_0
  obtain ⟨h1, l1, b1, e1, a1, c1, d1⟩ := wide_add 0 0 (f 0) (g 0) ⟨by omega, by omega, by omega, by omega⟩ o1
  have t1 : b1 = true := by
    rw [c1]
    obtain ⟨p1, p2, p3, p4⟩ := o1
    simp only [vW]; omega
  subst t1
  have d1 := d1 rfl
  obtain ⟨h2, l2, b2, e2, a2, c2, d2⟩ := wide_add h1 l1 (f 1) (g 1) a1 o2
  have z : vW 0 0 = 0 := rfl
  have t2 : b2 = true := by rw [c2, d1, z]; omega
  subst t2
  have d2 := d2 rfl
  refine ⟨h2, l2, ?_, a2, by rw [d2, d1, z]; omega⟩
  have k0 : decide ((0 : Int) < Int.ofNat 2) = true := by decide
  have k1 : inR 0 2 = true := by decide
  have k2 : IntKind.wrap .i64 (0 + 1) = 1 := by decide
  have k3 : decide ((1 : Int) < Int.ofNat 2) = true := by decide
  have k4 : inR 1 2 = true := by decide
  have k5 : IntKind.wrap .i64 (1 + 1) = 2 := by decide
  have k6 : decide ((2 : Int) < Int.ofNat 2) = false := by decide
  have k7 : Int.toNat 0 = 0 := rfl
  have k8 : Int.toNat 1 = 1 := rfl
  rw [loopK_succ]
  simp only [S_AI_0, k0, k1, k2, k7, cond_true, e1, Option.bind_some, Bool.not_true, cond_false]
  rw [loopK_succ]
  simp only [k3, k4, k5, k8, cond_true, e2, Option.bind_some, Bool.not_true, cond_false]
  rw [loopK_succ]
  simp only [k6, cond_false, Sum.elim_inr]
def sumF (f : Nat → Int) : Nat → Int
  | 0 => 0
  | n + 1 => sumF f n + f n
def anyF (f : Nat → Bool) : Nat → Bool
  | 0 => false
  | n + 1 => anyF f n || f n
theorem sumF_le (f : Nat → Int) (B : Int) (hB : 0 ≤ B) (n : Nat) (h : ∀ j, j < n → -B ≤ f j ∧ f j ≤ B) : -(n * B) ≤ sumF f n ∧ sumF f n ≤ n * B := by
  induction n with
  | zero => simp [sumF]
  | succ n ih =>
    have := ih fun j hj => h j (by omega)
    have h2 := h n (by omega)
    have e : ((n + 1 : Nat) : Int) * B = n * B + B := by rw [Int.natCast_add, Int.add_mul]; simp
    rw [e, sumF]
    omega
theorem rnd_zero (v : Int) : rnd v 0 = v := by
  unfold rnd half
  simp only [if_true, Int.add_zero]
  have : (2 : Int) ^ 0 = 1 := rfl
  rw [this, Int.ediv_one, Int.ediv_one]
  split <;> omega
theorem idx_lt {i n t : Nat} (h : i + t = n) (ht : 0 < t) : decide (Int.ofNat i < Int.ofNat n) = true := by simp only [Int.ofNat_eq_natCast]; exact decide_eq_true (by omega)
theorem idx_ge {i n : Nat} (h : n ≤ i) : decide (Int.ofNat i < Int.ofNat n) = false := by simp only [Int.ofNat_eq_natCast]; exact decide_eq_false (by omega)
theorem idx_in {i n : Nat} (h : i < n) : inR (Int.ofNat i) n = true := by unfold inR; simp only [Int.ofNat_eq_natCast, Bool.and_eq_true, decide_eq_true_eq]; omega
theorem idx_up {i : Nat} (h : i < 9000000000000000000) : IntKind.wrap .i64 (Int.ofNat i + 1) = Int.ofNat (i + 1) := (wrap_i64 (by simp only [Int.ofNat_eq_natCast]; omega) (by simp only [Int.ofNat_eq_natCast]; omega)).trans rfl
theorem acc_add (n : Nat) (hn : n ≤ 150) (hit : Bool) (l : Nat → Int) (w : Bool) :
    f_AD n hit l w = some (sat (sumF (fun j => sat (l j)) n), (hit || anyF (fun j => over (l j)) n) || over (sumF (fun j => sat (l j)) n)) := by
  unfold f_AD K_AD L_AD_0
  refine loopK_inv (fun t d => ∃ (i : Nat) (h l' : Int), i + t = n ∧ okW h l' ∧ vW h l' = sumF (fun j => sat (l j)) i ∧ d = (n, w, Int.ofNat n, Int.ofNat i, (hit || anyF (fun j => over (l j)) i), n, l, h, l')) ?_ 200 n _ (by omega)
    ⟨0, 0, 0, by omega, ⟨by omega, by omega, by omega, by omega⟩, rfl, by simp only [anyF, Bool.or_false]; rfl⟩
  rintro t _ c ⟨i, h, l', hi, ho, hv, rfl⟩ hc
  have bnd := sumF_le (fun j => sat (l j)) 1152921504606846976 (by omega) i (fun j _ => sat_le _)
  rcases Nat.eq_zero_or_pos t with t0 | t0
  · have e : i = n := by omega
    subst e
    have r := acc_round h l' 0
    have r2 := wide_round h l' 0 (by omega) ho
    rw [rnd_zero] at r2
    have r3 : Int.ofNat 0 = 0 := rfl
    rw [r3] at r2
    simp only [S_AD_0, idx_ge (Nat.le_refl i), cond_false, r2]
    by_cases k : -9223372036854775808 ≤ vW h l' ∧ vW h l' ≤ 9223372036854775807
    · rw [if_pos k]
      simp only [if_true, Option.bind_some, acc_end, hv]
    · rw [if_neg k]
      simp only [Option.bind_some, acc_end, Bool.false_eq_true, if_false]
      rw [← hv]
      unfold sat over
      by_cases ng : h < 0
      · have c1 : vW h l' < -1152921504606846976 := by
          obtain ⟨o1, o2, o3, o4⟩ := ho
          simp only [vW] at *; omega
        simp [ng, c1]
      · have c1 : ¬ vW h l' < -1152921504606846976 := by
          obtain ⟨o1, o2, o3, o4⟩ := ho
          simp only [vW] at *; omega
        have c2 : 1152921504606846976 < vW h l' := by
          obtain ⟨o1, o2, o3, o4⟩ := ho
          simp only [vW] at *; omega
        simp [ng, c1, c2]
  · have hs := sat_le (l i)
    obtain ⟨h1, l1, e1, o1, v1⟩ := wide_of (sat (l i)) (by omega) (by omega)
    obtain ⟨h2, l2, e2, o2, v2⟩ := wide_Add2 (fun j : Nat => bif Nat.beq j 1 then h1 else bif Nat.beq j 0 then h else h) (fun j : Nat => bif Nat.beq j 1 then l1 else bif Nat.beq j 0 then l' else l') true
      ho o1 (by show _ ≤ vW h l' + vW h1 l1; rw [hv, v1]; omega) (by show vW h l' + vW h1 l1 < _; rw [hv, v1]; omega)
    have v2 : vW h2 l2 = vW h l' + vW h1 l1 := v2
    rw [hv, v1] at v2
    have q : Int.toNat (Int.ofNat i) = i := rfl
    simp only [S_AD_0, idx_lt hi t0, idx_in (show i < n by omega), cond_true, q, acc_sat, Option.bind_some, e1, e2, idx_up (show i < 9000000000000000000 by omega)]
    refine hc (t - 1) _ (by omega) ⟨i + 1, h2, l2, by omega, o2, v2, ?_⟩
    simp only [anyF, Bool.or_assoc]
end Go.Proofs.Ytdpenjncfmkbgaa
set_option maxRecDepth 100000
set_option maxHeartbeats 4000000
set_option linter.unusedVariables false
set_option linter.unusedSimpArgs false
namespace Go.Proofs.Ytdpenjncfmkbgaa
open Go.Ab
theorem ref_shifted (h l : Int) (n : Bool) (s : Nat) (hs : s ≤ 120) (o : okR h l) (b : h * 18446744073709551616 + l < 170141183460469231731687303715884105728) :
    ∃ h' l', f_BW h l n (Int.ofNat s) = some (h', l', n) ∧ okR h' l' ∧ rV h' l' n = rnd (rV h l n) s := by
  have val : ∀ V W : Int, 0 ≤ V → W = (V + half s) / 2 ^ s → (if n = true then -W else W) = rnd (if n = true then -V else V) s := fun V W v0 hw => by
    have h0 := (half_le s (by omega)).1
    unfold rnd
    cases n
    · simp only [Bool.false_eq_true, if_false]
      rw [if_neg (by omega), hw]
    · simp only [if_true]
      by_cases z : V = 0
      · subst z
        rw [if_neg (by omega), hw]
        have hz : half s / 2 ^ s = 0 := by
          refine Int.ediv_eq_zero_of_lt h0 ?_
          unfold half
          split
          · exact pow_pos' _
          · rename_i c
            have e : (2 : Int) ^ s = 2 ^ (s - 1) * 2 := by rw [← Int.pow_succ]; congr 1; omega
            have p := pow_pos' (s - 1)
            omega
        rw [Int.zero_add, hz, Int.neg_zero, Int.zero_add, hz]
      · rw [if_pos (by omega), hw, Int.neg_neg]
  obtain ⟨hh0, hh1⟩ := half_le s (by omega)
  unfold f_BW K_BW
  by_cases z : s = 0
  · subst z
    have e : (Int.ofNat 0 == 0) = true := rfl
    rw [e, cond_true]
    refine ⟨h, l, rfl, o, ?_⟩
    rw [rnd_zero]
  have e : (Int.ofNat s == 0) = false := by rw [beq_eq_false_iff_ne]; simp only [Int.ofNat_eq_natCast, ne_eq]; omega
  rw [e, cond_false]
  have hf : half s = 2 ^ (s - 1) := by unfold half; rw [if_neg z]
  have u : ∀ k : Nat, k ≤ 200 → IntKind.wrap .u64 (k : Int) = (k : Int) := fun k hk => by rw [wrap_u64]; omega
  have nn : ∀ k : Nat, (!decide ((k : Int) < 0)) = true := fun k => by rw [decide_eq_false (by omega)]; rfl
  -- behind the half
  have fin : ∀ h2 l2 : Int, okR h2 l2 → h2 * 18446744073709551616 + l2 = h * 18446744073709551616 + l + half s →
      ∃ h' l', (bif decide (Int.ofNat s ≥ 64) then
            bif !decide (IntKind.wrap IntKind.u64 (IntKind.wrap IntKind.i64 (Int.ofNat s - 64)) < 0) then
              some ((0 : Int), Int.fdiv h2 (2 ^ min (Int.toNat (IntKind.wrap IntKind.u64 (IntKind.wrap IntKind.i64 (Int.ofNat s - 64)))) 64), n)
            else none
          else
            bif !decide (IntKind.wrap IntKind.u64 (Int.ofNat s) < 0) then
              bif !decide (IntKind.wrap IntKind.u64 (Int.ofNat s) < 0) then
                bif !decide (IntKind.wrap IntKind.u64 (IntKind.wrap IntKind.i64 (64 - Int.ofNat s)) < 0) then
                  some
                    (Int.fdiv h2 (2 ^ min (Int.toNat (IntKind.wrap IntKind.u64 (Int.ofNat s))) 64),
                      IntKind.wrap IntKind.u64
                        (Int.ofNat
                          (BitVec.toNat
                            (BitVec.ofInt 64 (Int.fdiv l2 (2 ^ min (Int.toNat (IntKind.wrap IntKind.u64 (Int.ofNat s))) 64)) |||
                              BitVec.ofInt 64 (IntKind.wrap IntKind.u64 (h2 * 2 ^ min (Int.toNat (IntKind.wrap IntKind.u64 (IntKind.wrap IntKind.i64 (64 - Int.ofNat s)))) 64))))),
                      n)
                else none
              else none
            else none) = some (h', l', n) ∧ okR h' l' ∧ rV h' l' n = rnd (rV h l n) s := fun h2 l2 o2 hv => by
    obtain ⟨a1, a2, a3, a4⟩ := o
    obtain ⟨c1, c2, c3, c4⟩ := o2
    by_cases c : 64 ≤ s
    · have w1 : IntKind.wrap .i64 (Int.ofNat s - 64) = ((s - 64 : Nat) : Int) := (wrap_i64 (by simp only [Int.ofNat_eq_natCast]; omega) (by simp only [Int.ofNat_eq_natCast]; omega)).trans (by simp only [Int.ofNat_eq_natCast]; omega)
      have w2 : min (Int.toNat ((s - 64 : Nat) : Int)) 64 = s - 64 := by rw [Int.toNat_natCast]; omega
      rw [decide_eq_true (show Int.ofNat s ≥ 64 by simp only [Int.ofNat_eq_natCast]; omega), cond_true, w1, u (s - 64) (by omega), nn, cond_true, w2, fdiv_pos _ _ (Int.le_of_lt (pow_pos' _))]
      have P0 := pow_pos' (s - 64)
      have d0 := Int.ediv_nonneg c1 (Int.le_of_lt P0)
      have d1 := Int.ediv_le_self (2 ^ (s - 64)) c1
      refine ⟨_, _, rfl, ⟨by omega, by omega, d0, by omega⟩, ?_⟩
      unfold rV
      rw [Int.zero_mul, Int.zero_add]
      refine val (h * 18446744073709551616 + l) (h2 / 2 ^ (s - 64)) (by omega) ?_
      rw [← hv]
      have p : (2 : Int) ^ s = 18446744073709551616 * 2 ^ (s - 64) := by
        rw [show (18446744073709551616 : Int) = 2 ^ 64 from rfl, ← Int.pow_add]
        congr 1; omega
      rw [p, ← Int.ediv_ediv_of_nonneg (by decide)]
      congr 1; omega
    · have w1 : IntKind.wrap .i64 (64 - Int.ofNat s) = ((64 - s : Nat) : Int) := (wrap_i64 (by simp only [Int.ofNat_eq_natCast]; omega) (by simp only [Int.ofNat_eq_natCast]; omega)).trans (by simp only [Int.ofNat_eq_natCast]; omega)
      have w2 : min (Int.toNat ((64 - s : Nat) : Int)) 64 = 64 - s := by rw [Int.toNat_natCast]; omega
      have w3 : min (Int.toNat (s : Int)) 64 = s := by rw [Int.toNat_natCast]; omega
      rw [decide_eq_false (show ¬ Int.ofNat s ≥ 64 by simp only [Int.ofNat_eq_natCast]; omega), cond_false, w1, Int.ofNat_eq_natCast, u s (by omega), u (64 - s) (by omega), nn, nn, cond_true, cond_true, cond_true, w2, w3,
        fdiv_pos _ _ (Int.le_of_lt (pow_pos' _)), fdiv_pos _ _ (Int.le_of_lt (pow_pos' _))]
      have pq : (18446744073709551616 : Int) = 2 ^ s * 2 ^ (64 - s) := by
        rw [← Int.pow_add, show s + (64 - s) = 64 by omega]; rfl
      have P0 := pow_pos' s
      have Q0 := pow_pos' (64 - s)
      have m : IntKind.wrap .u64 (h2 * 2 ^ (64 - s)) = h2 % 2 ^ s * 2 ^ (64 - s) := by
        rw [wrap_u64, pq, Int.mul_comm h2, Int.mul_comm (2 ^ s), Int.mul_emod_mul_of_pos _ _ Q0, Int.mul_comm]
      have x0 : 0 ≤ l2 / 2 ^ s := Int.ediv_nonneg c3 (Int.le_of_lt P0)
      have x1 : l2 / 2 ^ s < 2 ^ (64 - s) := Int.ediv_lt_of_lt_mul P0 (by rw [Int.mul_comm, ← pq]; exact c4)
      have x2 := Int.ediv_le_self (2 ^ s) c3
      have y0 : 0 ≤ h2 % 2 ^ s := Int.emod_nonneg _ (by omega)
      have y1 : h2 % 2 ^ s < 2 ^ s := Int.emod_lt_of_pos _ P0
      have y2 : h2 % 2 ^ s * 2 ^ (64 - s) + 2 ^ (64 - s) ≤ 18446744073709551616 := by
        have : (h2 % 2 ^ s + 1) * 2 ^ (64 - s) ≤ 2 ^ s * 2 ^ (64 - s) := Int.mul_le_mul_of_nonneg_right (by omega) (Int.le_of_lt Q0)
        rw [Int.add_mul, ← pq] at this; omega
      have y3 : 0 ≤ h2 % 2 ^ s * 2 ^ (64 - s) := Int.mul_nonneg y0 (Int.le_of_lt Q0)
      rw [m, or_apart _ _ (64 - s) x0 x1 y3 (by omega) (by omega) (Int.mul_emod_left _ _), wrap_u64, Int.emod_eq_of_lt (by omega) (by omega)]
      have d0 := Int.ediv_nonneg c1 (Int.le_of_lt P0)
      have d1 := Int.ediv_le_self (2 ^ s) c1
      refine ⟨_, _, rfl, ⟨d0, by omega, by omega, by omega⟩, ?_⟩
      unfold rV
      refine val (h * 18446744073709551616 + l) _ (by omega) ?_
      rw [← hv]
      have f1 : (h2 * 18446744073709551616 + l2) / 2 ^ s = h2 * 2 ^ (64 - s) + l2 / 2 ^ s := by
        have : h2 * 18446744073709551616 + l2 = l2 + 2 ^ s * (h2 * 2 ^ (64 - s)) := by rw [pq]; grind
        rw [this, Int.add_mul_ediv_left _ _ (by omega)]; omega
      have f2 : h2 / 2 ^ s * 18446744073709551616 = h2 / 2 ^ s * 2 ^ s * 2 ^ (64 - s) := by rw [pq, Int.mul_assoc]
      have f3 : h2 / 2 ^ s * 2 ^ s + h2 % 2 ^ s = h2 := Int.ediv_mul_add_emod h2 _
      have f4 : (h2 / 2 ^ s * 2 ^ s + h2 % 2 ^ s) * 2 ^ (64 - s) = h2 * 2 ^ (64 - s) := by rw [f3]
      rw [Int.add_mul] at f4
      rw [f1, f2]
      omega
  have w0 : IntKind.wrap .i64 (Int.ofNat s - 1) = ((s - 1 : Nat) : Int) := (wrap_i64 (by simp only [Int.ofNat_eq_natCast]; omega) (by simp only [Int.ofNat_eq_natCast]; omega)).trans (by simp only [Int.ofNat_eq_natCast]; omega)
  rw [w0]
  by_cases c : 65 ≤ s
  · rw [decide_eq_true (show ((s - 1 : Nat) : Int) ≥ 64 by omega), cond_true]
    have w1 : IntKind.wrap .i64 (Int.ofNat s - 65) = ((s - 65 : Nat) : Int) := (wrap_i64 (by simp only [Int.ofNat_eq_natCast]; omega) (by simp only [Int.ofNat_eq_natCast]; omega)).trans (by simp only [Int.ofNat_eq_natCast]; omega)
    have w2 : min (Int.toNat ((s - 65 : Nat) : Int)) 64 = s - 65 := by rw [Int.toNat_natCast]; omega
    rw [w1, u (s - 65) (by omega), nn, cond_true, w2, Int.one_mul]
    have p : (2 : Int) ^ (s - 1) = 2 ^ (s - 65) * 18446744073709551616 := by
      rw [show (18446744073709551616 : Int) = 2 ^ 64 from rfl, ← Int.pow_add]
      congr 1; omega
    have P0 := pow_pos' (s - 65)
    have w3 : IntKind.wrap .u64 (2 ^ (s - 65)) = 2 ^ (s - 65) := by rw [wrap_u64]; omega
    rw [w3]
    obtain ⟨h2, l2, e2, o2, v2⟩ := ref_plus h l (2 ^ (s - 65)) 0 n o ⟨by omega, by omega, by omega, by omega⟩ (by omega)
    rw [e2, Option.bind_some]
    exact fin h2 l2 o2 (by omega)
  · rw [decide_eq_false (show ¬ ((s - 1 : Nat) : Int) ≥ 64 by omega), cond_false]
    have w2 : min (Int.toNat ((s - 1 : Nat) : Int)) 64 = s - 1 := by rw [Int.toNat_natCast]; omega
    rw [u (s - 1) (by omega), nn, cond_true, w2, Int.one_mul]
    have P0 := pow_pos' (s - 1)
    have PB : (2 : Int) ^ (s - 1) ≤ 9223372036854775808 := by
      have h2 : (2 : Nat) ^ (s - 1) ≤ 2 ^ 63 := Nat.pow_le_pow_right (by decide) (by omega)
      have h3 : ((2 ^ (s - 1) : Nat) : Int) ≤ ((2 ^ 63 : Nat) : Int) := by exact_mod_cast h2
      simpa using h3
    have w3 : IntKind.wrap .u64 (2 ^ (s - 1)) = 2 ^ (s - 1) := by rw [wrap_u64]; omega
    rw [w3]
    obtain ⟨h2, l2, e2, o2, v2⟩ := ref_plus h l 0 (2 ^ (s - 1)) n o ⟨by omega, by omega, by omega, by omega⟩ (by omega)
    rw [e2, Option.bind_some]
    exact fin h2 l2 o2 (by omega)
theorem ref_Mul (a b : Int) (s : Nat) (hit : Bool) (hs : s ≤ 120) : f_AS a b (Int.ofNat s) hit = some (sat (rnd (sat a * sat b) s), hit || over a || over b || over (rnd (sat a * sat b) s)) := by
  unfold f_AS K_AS
  obtain ⟨h, l, n, e, o, v, bd⟩ := ref_mul (sat a) (sat b) (sat_le a) (sat_le b)
  obtain ⟨h', l', e', o', v'⟩ := ref_shifted h l n s hs o (by omega)
  simp only [ref_sat, Option.bind_some, e, e', ref_end h' l' n _ o', v', v]
theorem ref_M (a b : Int) (hit : Bool) : f_AC a b hit = some (sat (rnd (sat a * sat b) 30), hit || over a || over b || over (rnd (sat a * sat b) 30)) := by
  unfold f_AC K_AC
  rw [show (30 : Int) = Int.ofNat 30 from rfl, ref_Mul a b 30 hit (by omega), Option.bind_some]
theorem ref_add (a b : Int) (hit : Bool) : f_AZ a b hit = some (sat (sat a + sat b), ((hit || over a) || over b) || over (sat a + sat b)) := by
  unfold f_AZ K_AZ
  have := sat_le a
  have := sat_le b
  simp only [ref_sat, Option.bind_some, wrap_i64 (n := sat a + sat b) (by omega) (by omega)]
theorem ref_sub (a b : Int) (hit : Bool) : f_Ah a b hit = some (sat (sat a - sat b), ((hit || over a) || over b) || over (sat a - sat b)) := by
  unfold f_Ah K_Ah
  have := sat_le a
  have := sat_le b
  simp only [ref_sat, Option.bind_some, wrap_i64 (n := sat a - sat b) (by omega) (by omega)]
theorem ref_root (h l r : Int) (o : okR h l) (b : h * 18446744073709551616 + l < 170141183460469231731687303715884105728) (hr : isR r (h * 18446744073709551616 + l)) :
    f_AY h l false = some (r / 18446744073709551616, r % 18446744073709551616) := by
  obtain ⟨o1, o2, o3, o4⟩ := o
  have o := (⟨o1, o2, o3, o4⟩ : okR h l)
  have hV : h * 18446744073709551616 + l = h * 18446744073709551616 + l := rfl
  generalize hVV : h * 18446744073709551616 + l = V at *
  have v0 : 0 ≤ V := by omega
  obtain ⟨q, q0, q1, q2⟩ := sqrt_exI V v0
  have qb : q < 13043817825332782213 := sq_lt q0 (by omega) (by omega)
  have q3 : (q + 1) * (q + 1) = q * q + 2 * q + 1 := by grind
  have r1 : r = if q < V - q * q then q + 1 else q := by
    refine isR_uniq hr ?_
    split
    · rename_i c
      exact ⟨by omega, by omega, Or.inr (by omega)⟩
    · rename_i c
      refine ⟨q0, by omega, ?_⟩
      rcases Int.lt_or_le 0 q with k | k
      · exact Or.inr (by omega)
      · exact Or.inl (by omega)
  unfold f_AY K_AY L_AY_0
  refine loopK_inv (fun t d => ∃ (p c : Int), t ≤ 64 ∧ 0 ≤ p ∧ p = c * 2 ^ t ∧ p * p ≤ V ∧ V < (p + 2 ^ t) * (p + 2 ^ t) ∧ d = (p, (t : Int) - 1, h, l, false)) ?_ 200 64 _ (by omega)
    ⟨0, 0, by omega, by omega, by omega, by omega, by
      have : (2 : Int) ^ 64 = 18446744073709551616 := rfl
      omega, rfl⟩
  rintro t _ k ⟨p, c, t0, p0, pc, p1, p2, rfl⟩ hk
  rcases Nat.eq_zero_or_pos t with z | z
  · subst z
    have e1 : (2 : Int) ^ 0 = 1 := rfl
    rw [e1] at p2
    have pq : p = q := by
      have h1 : p < q + 1 := sq_lt p0 (by omega) (by omega)
      have h2 : q < p + 1 := sq_lt q0 (by omega) (by omega)
      omega
    subst pq
    have g0 : decide (((0 : Nat) : Int) - 1 ≥ 0) = false := by decide
    have pp : 0 ≤ p * p := mul_nn p0 p0
    obtain ⟨u, v, n, e2, o2', e3, e4⟩ := ref_sum h l (p * p / 18446744073709551616) (p * p % 18446744073709551616) false true o ⟨by omega, by omega, by omega, by omega⟩ (by omega)
    have mag : u * 18446744073709551616 + v = V - p * p := by
      obtain ⟨w1, w2, w3, w4⟩ := o2'
      unfold rV at e3
      simp only [Bool.false_eq_true, if_false, if_true] at e3
      cases n <;> simp only [Bool.false_eq_true, if_false, if_true] at e3 <;> omega
    obtain ⟨w1, w2, w3, w4⟩ := o2'
    have w5 : IntKind.wrap .u64 (p + 1) = p + 1 := by rw [wrap_u64]; omega
    have ne : (p + 1 == 0) = false := by rw [beq_eq_false_iff_ne]; omega
    simp only [S_AY_0, g0, cond_false, ref_product p p p0 (by omega) p0 (by omega), Option.bind_some, e2, w5, ne]
    by_cases cc : p < V - p * p
    · rw [if_pos cc] at r1
      by_cases c1 : u > 0
      · rw [decide_eq_true c1, cond_true, r1]
        refine congrArg some (Prod.ext ?_ ?_) <;> simp only <;> omega
      · rw [decide_eq_false c1, cond_false, decide_eq_true (show v > p by omega), cond_true, r1]
        refine congrArg some (Prod.ext ?_ ?_) <;> simp only <;> omega
    · rw [if_neg cc] at r1
      rw [decide_eq_false (show ¬ u > 0 by omega), cond_false, decide_eq_false (show ¬ v > p by omega), cond_false, r1]
      refine congrArg some (Prod.ext ?_ ?_) <;> simp only <;> omega
  · obtain ⟨m, rfl⟩ : ∃ m, t = m + 1 := ⟨t - 1, by omega⟩
    have P2 : (2 : Int) ^ (m + 1) = 2 ^ m * 2 := Int.pow_succ _ _
    have P0 := pow_pos' m
    have PB : (2 : Int) ^ m ≤ 2 ^ 63 := pow_le_pow (by omega)
    have PBv : (2 : Int) ^ 63 = 9223372036854775808 := rfl
    have at0 : ((m + 1 : Nat) : Int) - 1 = (m : Int) := by omega
    rw [at0]
    have g0 : decide ((m : Int) ≥ 0) = true := decide_eq_true (by omega)
    have g1 : IntKind.wrap .i64 ((m : Int) - 1) = (m : Int) - 1 := wrap_i64 (by omega) (by omega)
    have g2 : IntKind.wrap .u64 (m : Int) = (m : Int) := by rw [wrap_u64]; omega
    have g3 : (!decide ((m : Int) < 0)) = true := by rw [decide_eq_false (by omega)]; rfl
    have g4 : min (Int.toNat (m : Int)) 64 = m := by rw [Int.toNat_natCast]; omega
    have g5 : IntKind.wrap .u64 (1 * 2 ^ m) = 2 ^ m := by rw [Int.one_mul, wrap_u64]; omega
    have pb : p ≤ 13043817825332782212 := by
      have : p < 13043817825332782213 := sq_lt p0 (by omega) (by omega)
      omega
    have pm : p % 2 ^ (m + 1) = 0 := by rw [pc]; exact Int.mul_emod_left _ _
    -- what stands at the place and above is a multiple: it leaves room for the bit
    have room : p + 2 ^ m < 18446744073709551616 := by
      rcases Nat.lt_or_ge m 62 with c1 | c1
      · have : (2 : Int) ^ m ≤ 2 ^ 61 := pow_le_pow (by omega)
        have : (2 : Int) ^ 61 = 2305843009213693952 := rfl
        omega
      · rcases Nat.lt_or_ge m 63 with c2 | c2
        · obtain rfl : m = 62 := by omega
          have : (2 : Int) ^ 62 = 4611686018427387904 := rfl
          omega
        · obtain rfl : m = 63 := by omega
          have e63 : (2 : Int) ^ (63 + 1) = 18446744073709551616 := rfl
          have : p = 0 := by
            rw [e63] at pc
            omega
          omega
    have orr : IntKind.wrap .u64 (Int.ofNat (BitVec.toNat (BitVec.ofInt 64 p ||| BitVec.ofInt 64 (2 ^ m)))) = p + 2 ^ m := by
      rw [BitVec.or_comm, or_apart _ _ (m + 1) (by omega) (by omega) p0 (by omega) (by omega) pm, wrap_u64]; omega
    have xx : 0 ≤ (p + 2 ^ m) * (p + 2 ^ m) := mul_nn (by omega) (by omega)
    have e3' : (p + 2 ^ m) * (p + 2 ^ m) / 18446744073709551616 * 18446744073709551616 + (p + 2 ^ m) * (p + 2 ^ m) % 18446744073709551616 = (p + 2 ^ m) * (p + 2 ^ m) := by omega
    simp only [S_AY_0, g0, g1, g2, g3, g4, g5, cond_true, orr, ref_product (p + 2 ^ m) (p + 2 ^ m) (by omega) room (by omega) room, Option.bind_some,
      ref_less h l _ _ false false o3 o4 (show 0 ≤ (p + 2 ^ m) * (p + 2 ^ m) % 18446744073709551616 by omega) (show (p + 2 ^ m) * (p + 2 ^ m) % 18446744073709551616 < 18446744073709551616 by omega), hVV, e3']
    have at1 : (m : Int) - 1 = ((m : Nat) : Int) - 1 := rfl
    rw [P2] at pc p2
    by_cases cc : V < (p + 2 ^ m) * (p + 2 ^ m)
    · rw [decide_eq_true cc]
      simp only [Bool.not_true, cond_false]
      exact hk m _ (by omega) ⟨p, c * 2, by omega, p0, by rw [pc]; grind, p1, cc, rfl⟩
    · rw [decide_eq_false cc]
      simp only [Bool.not_false, cond_true]
      refine hk m _ (by omega) ⟨p + 2 ^ m, c * 2 + 1, by omega, by omega, by rw [pc]; grind, by omega, ?_, rfl⟩
      have : p + 2 ^ m + 2 ^ m = p + 2 ^ m * 2 := by omega
      rw [this]; exact p2
theorem ref_D (a b : Int) (hit : Bool) (hb : 0 < sat b) : f_BO a b hit = some (sat (rdq (sat a * 1073741824) (sat b)), ((hit || over a) || over b) || over (rdq (sat a * 1073741824) (sat b))) := by
  unfold f_BO K_BO f_Bc K_Bc
  have sa := sat_le a
  have sb := sat_le b
  have hz : (sat b == 0) = false := by rw [beq_eq_false_iff_ne]; omega
  have hneg : decide (sat b < 0) = false := decide_eq_false (by omega)
  have hn : ∀ n : Bool, (!n == false) = n := fun n => by cases n <;> rfl
  have c1 : decide ((30 : Int) ≥ 64) = false := by decide
  have c2 : decide ((30 : Int) > 0) = true := by decide
  have c3 : (!decide (IntKind.wrap .u64 (IntKind.wrap .i64 (64 - 30)) < 0)) = true := by decide
  have c4 : (!decide (IntKind.wrap .u64 30 < 0)) = true := by decide
  have c5 : (2 : Int) ^ min (Int.toNat (IntKind.wrap .u64 (IntKind.wrap .i64 (64 - 30)))) 64 = 17179869184 := by decide
  have c6 : (2 : Int) ^ min (Int.toNat (IntKind.wrap .u64 30)) 64 = 1073741824 := by decide
  obtain ⟨m, hm, m0, m1, m2⟩ : ∃ m, (if sat a < 0 then -sat a else sat a) = m ∧ 0 ≤ m ∧ m ≤ 1152921504606846976 ∧ (sat a < 0 → m = -sat a) ∧ (¬ sat a < 0 → m = sat a) := by
    by_cases c : sat a < 0
    · exact ⟨_, rfl, by rw [if_pos c]; omega, by rw [if_pos c]; omega, fun _ => if_pos c, fun h => absurd c h⟩
    · exact ⟨_, rfl, by rw [if_neg c]; omega, by rw [if_neg c]; omega, fun h => absurd h c, fun _ => if_neg c⟩
  have e1 : Int.fdiv m 17179869184 = m / 17179869184 := fdiv_pos _ _ (by omega)
  have e2 : IntKind.wrap .u64 (m * 1073741824) = m * 1073741824 % 18446744073709551616 := wrap_u64 _
  have o1 : okR (m / 17179869184) (m * 1073741824 % 18446744073709551616) := ⟨by omega, by omega, by omega, by omega⟩
  have o2 : m / 17179869184 * 18446744073709551616 + m * 1073741824 % 18446744073709551616 = m * 1073741824 := by omega
  obtain ⟨h', l', e4, o4, e5⟩ := ref_divided (m / 17179869184) (m * 1073741824 % 18446744073709551616) (decide (sat a < 0)) (sat b) o1 (by omega) hb (by omega)
  simp only [ref_sat, Option.bind_some, hz, cond_false, cond_true, ref_size (sat a) sa.1 sa.2, ref_size (sat b) sb.1 sb.2, if_neg (show ¬ sat b < 0 by omega), hneg, hn, c1, c2, c3, c4, c5, c6, hm, e1, e2, e4, ref_end h' l' _ _ o4]
  have hv : rV h' l' (decide (sat a < 0)) = rdq (sat a * 1073741824) (sat b) := by
    unfold rV rdq mgq
    rw [hneg, if_neg (show ¬ sat b < 0 by omega), e5, o2]
    by_cases c : sat a < 0
    · have d : sat a * 1073741824 < 0 := by omega
      rw [decide_eq_true c, if_pos rfl, decide_eq_true d, if_neg (by decide), if_pos d, m2.1 c]
      congr 2; omega
    · have d : ¬ sat a * 1073741824 < 0 := by omega
      rw [decide_eq_false c, if_neg (by decide), decide_eq_false d, if_pos rfl, if_neg d, m2.2 c]
  rw [hv]
theorem ref_sqrt (a : Int) (hit : Bool) (h0 : 0 ≤ a) (h1 : a ≤ 1152921504606846976) (r : Int) (hr : isR r (a * 1073741824)) : ∃ u, f_BY a hit = some (sat r, u) := by
  unfold f_BY K_BY
  have sa : sat a = a := (sat_id (x := a) (by omega)).1
  have e1 : Int.fdiv a 17179869184 = a / 17179869184 := fdiv_pos _ _ (by omega)
  have e2 : IntKind.wrap .u64 (a * 1073741824) = a * 1073741824 % 18446744073709551616 := wrap_u64 _
  have o1 : okR (a / 17179869184) (a * 1073741824 % 18446744073709551616) := ⟨by omega, by omega, by omega, by omega⟩
  have o2 : a / 17179869184 * 18446744073709551616 + a * 1073741824 % 18446744073709551616 = a * 1073741824 := by omega
  have e3 := ref_root (a / 17179869184) (a * 1073741824 % 18446744073709551616) r o1 (by omega) (by rw [o2]; exact hr)
  obtain ⟨r0, r1, r2⟩ := hr
  have rb : r < 340282366920938463463374607431768211456 := by
    refine Int.not_le.mp fun h => ?_
    have x1 := Int.mul_nonneg (show 0 ≤ r - 340282366920938463463374607431768211456 by omega) (show 0 ≤ r by omega)
    have x2 : (r - 340282366920938463463374607431768211456) * r = r * r - 340282366920938463463374607431768211456 * r := by grind
    omega
  have o3 : okR (r / 18446744073709551616) (r % 18446744073709551616) := ⟨by omega, by omega, by omega, by omega⟩
  have e4 : rV (r / 18446744073709551616) (r % 18446744073709551616) false = r := by
    unfold rV
    rw [if_neg (by decide)]; omega
  simp only [ref_sat, sa, Option.bind_some, decide_eq_false (show ¬ a < 0 by omega), cond_false, ref_size a (by omega) h1, if_neg (show ¬ a < 0 by omega), e1, e2, e3, ref_end _ _ false _ o3, e4]
  exact ⟨_, rfl⟩
end Go.Proofs.Ytdpenjncfmkbgaa
set_option maxRecDepth 100000
set_option maxHeartbeats 4000000
set_option linter.unusedVariables false
set_option linter.unusedSimpArgs false
namespace Go.Proofs.Ytdpenjncfmkbgaa
open Go.Ab
def Tot {α : Type} (x : Option α) : Prop := ∃ a, x = some a
theorem tot_some {α : Type} (a : α) : Tot (some a) := ⟨a, rfl⟩
theorem tot_eq {α : Type} {x : Option α} {a : α} (h : x = some a) : Tot x := ⟨a, h⟩
theorem tot_bind {α β : Type} {x : Option α} {f : α → Option β} (h : Tot x) (g : ∀ a, Tot (f a)) : Tot (x.bind f) := by
  obtain ⟨a, rfl⟩ := h; exact g a
theorem tot_cond {α : Type} (b : Bool) {x y : Option α} (hx : Tot x) (hy : Tot y) : Tot (bif b then x else y) := by cases b <;> assumption
theorem loopK_tot {D X ρ : Type} {s : D → (D → Option ρ) → (X → Option ρ) → Option ρ} {k : X → Option ρ} (Inv : Nat → D → Prop)
    (h : ∀ t d c, Inv t d → (∀ t' d', t' < t → Inv t' d' → Tot (c d')) → Tot (s d c k)) : ∀ (fuel t : Nat) (d : D), t < fuel → Inv t d → Tot (loopK s fuel d k)
  | 0, t, d, hf, hd => by omega
  | fuel + 1, t, d, hf, hd => by
    rw [loopK_succ]
    exact h t d _ hd fun t' d' ht hd' => loopK_tot Inv h fuel t' d' (by omega) hd'
theorem t_sat (x : Int) (hit : Bool) : Tot (f_J x hit) := tot_eq (acc_sat x hit)
theorem t_mul30 (a b : Int) (hit : Bool) : Tot (f_Af a b 30 hit) := tot_eq (acc_mul a b 30 hit (by omega))
theorem t_m (a b : Int) (hit : Bool) : Tot (f_Ac a b hit) := by
  unfold f_Ac K_Ac
  exact tot_bind (t_mul30 _ _ _) fun _ => tot_some _
theorem t_series (x : Int) (n : Nat) (hit : Bool) (P : Nat → Int) (w : Bool) (h1 : 1 ≤ n) (h2 : n ≤ 150) : Tot (f_AJ x n hit P w) := by
  unfold f_AJ K_AJ
  have e1 : inR 0 n = true := by simp only [inR, Bool.and_eq_true, decide_eq_true_eq]; omega
  have e2 : inRe 1 n = true := by simp only [inRe, Bool.and_eq_true, decide_eq_true_eq]; omega
  rw [e1, cond_true, e2, cond_true]
  unfold L_AJ_0
  refine loopK_tot (fun t d => ∃ (i : Nat) (v : Int) (b : Bool), i + t + 1 = n ∧ d = (x, v, n - 1, w && true, Int.ofNat (n - 1), Int.ofNat i, b, n, P)) ?_ 200 (n - 1) _ (by omega)
    ⟨0, P 0, hit, by omega, by cases w <;> rfl⟩
  rintro t _ c ⟨i, v, b, hi, rfl⟩ hc
  unfold S_AJ_0
  by_cases z : t = 0
  · have e : decide (Int.ofNat i < Int.ofNat (n - 1)) = false := decide_eq_false (by simp only [Int.ofNat_eq_natCast]; omega)
    simp only [e, cond_false]
    exact tot_some _
  · have e : decide (Int.ofNat i < Int.ofNat (n - 1)) = true := decide_eq_true (by simp only [Int.ofNat_eq_natCast]; omega)
    have e3 : inR (Int.ofNat i) (n - 1) = true := by simp only [inR, Bool.and_eq_true, decide_eq_true_eq, Int.ofNat_eq_natCast]; omega
    have e4 : IntKind.wrap .i64 (Int.ofNat i + 1) = Int.ofNat (i + 1) := by
      rw [wrap_i64 (by simp only [Int.ofNat_eq_natCast]; omega) (by simp only [Int.ofNat_eq_natCast]; omega)]; rfl
    simp only [e, cond_true, e3, e4]
    refine tot_bind (t_m _ _ _) fun a => tot_bind (tot_eq (acc_add 2 (by omega) _ _ _)) fun a' => ?_
    exact hc (t - 1) _ (by omega) ⟨i + 1, _, _, by omega, rfl⟩
theorem t_wrap (x : Int) : Tot (f_Aw x) := by
  unfold f_Aw K_Aw
  exact tot_cond _ (tot_some _) (tot_cond _ (tot_some _) (tot_some _))
theorem t_abs (x : Int) : Tot (f_BK x) := by
  unfold f_BK K_BK
  exact tot_cond _ (tot_some _) (tot_cond _ (tot_some _) (tot_cond _ (tot_some _) (tot_some _)))
theorem t_sin (x : Int) (hit : Bool) : Tot (f_At x hit) := by
  unfold f_At K_At
  repeat' with_reducible first
    | exact tot_some _
    | exact t_sat _ _
    | exact t_wrap _
    | exact t_abs _
    | exact t_m _ _ _
    | exact t_series _ _ _ _ _ (by decide) (by decide)
    | refine tot_bind ?_ fun _ => ?_
    | refine tot_cond _ ?_ ?_
theorem t_cos (x : Int) (hit : Bool) : Tot (f_BL x hit) := by
  unfold f_BL K_BL
  exact tot_bind (t_wrap _) fun _ => tot_bind (t_sin _ _) fun _ => tot_some _
theorem t_good (a b c : Int) : Tot (f_AK a b c) := by
  unfold f_AK K_AK
  repeat' with_reducible first
    | exact tot_some _
    | refine tot_cond _ ?_ ?_
end Go.Proofs.Ytdpenjncfmkbgaa
set_option maxRecDepth 100000
set_option maxHeartbeats 4000000
set_option linter.unusedVariables false
set_option linter.unusedSimpArgs false
namespace Go.Proofs.Ytdpenjncfmkbgaa
open Go.Ab
theorem satI {x : Int} (h : -1152921504606846976 ≤ x ∧ x ≤ 1152921504606846976) : sat x = x := by
  unfold sat; rw [if_neg (by omega), if_neg (by omega)]
def GoodP (a b c : Int) : Prop := -900000000 ≤ a ∧ a ≤ 900000000 ∧ -1800000000 ≤ b ∧ b ≤ 1800000000 ∧ -100000000 ≤ c ∧ c ≤ 100000000
theorem good_yes {a b c : Int} (h : GoodP a b c) : f_AK a b c = some true := by
  obtain ⟨h1, h2, h3, h4, h5, h6⟩ := h
  unfold f_AK K_AK
  rw [decide_eq_true (show a ≥ -900000000 from h1), decide_eq_true h2, decide_eq_true (show b ≥ -1800000000 from h3), decide_eq_true h4, decide_eq_true (show c ≥ -100000000 from h5), decide_eq_true h6]
  rfl
theorem good_p {a b c : Int} (h : f_AK a b c = some true) : GoodP a b c := by
  unfold f_AK K_AK at h
  unfold GoodP
  by_cases c1 : a ≥ -900000000
  · by_cases c2 : a ≤ 900000000
    · by_cases c3 : b ≥ -1800000000
      · by_cases c4 : b ≤ 1800000000
        · by_cases c5 : c ≥ -100000000
          · by_cases c6 : c ≤ 100000000
            · omega
            · simp [c1, c2, c3, c4, c5, c6] at h
          · simp [c1, c2, c3, c4, c5] at h
        · simp [c1, c2, c3, c4] at h
      · simp [c1, c2, c3] at h
    · simp [c1, c2] at h
  · simp [c1] at h
def Post {α : Type} (Q : α → Prop) (x : Option α) : Prop := ∀ r, x = some r → Q r
theorem post_some {α : Type} {Q : α → Prop} {a : α} (h : Q a) : Post Q (some a) := by rintro r ⟨⟩; exact h
theorem post_bind {α β : Type} {Q : β → Prop} {x : Option α} {f : α → Option β} (g : ∀ a, Post Q (f a)) : Post Q (x.bind f) := by
  cases x with
  | none => intro r h; cases h
  | some a => exact g a
theorem post_cond {α : Type} {Q : α → Prop} (b : Bool) {x y : Option α} (hx : Post Q x) (hy : Post Q y) : Post Q (bif b then x else y) := by cases b <;> assumption
def redL (d : Int) : Int := if d > 1800000000 then d - 3600000000 else if d ≤ -1800000000 then d + 3600000000 else d
end Go.Proofs.Ytdpenjncfmkbgaa
set_option maxRecDepth 100000
set_option maxHeartbeats 4000000
set_option linter.unusedVariables false
set_option linter.unusedSimpArgs false
namespace Go.Proofs.Ytdpenjncfmkbgaa
open Go.Ab
theorem rnd30_bd (v M : Int) (h1 : -(M * 1073741824) ≤ v) (h2 : v ≤ M * 1073741824) : -M ≤ rnd v 30 ∧ rnd v 30 ≤ M := by
  unfold rnd half
  rw [if_neg (by omega : ¬ (30 : Nat) = 0), show (2 : Int) ^ (30 - 1) = 536870912 from rfl, show (2 : Int) ^ 30 = 1073741824 from rfl]
  split <;> omega
theorem rnd30_lo (v M : Int) (h1 : M * 1073741824 ≤ v) (h0 : 0 ≤ M) : M ≤ rnd v 30 := by
  unfold rnd half
  rw [if_neg (by omega : ¬ (30 : Nat) = 0), show (2 : Int) ^ (30 - 1) = 536870912 from rfl, show (2 : Int) ^ 30 = 1073741824 from rfl]
  split <;> omega
theorem rnd10_bd (v M : Int) (h1 : -(M * 1024) ≤ v) (h2 : v ≤ M * 1024) : -M ≤ rnd v 10 ∧ rnd v 10 ≤ M := by
  unfold rnd half
  rw [if_neg (by omega : ¬ (10 : Nat) = 0), show (2 : Int) ^ (10 - 1) = 512 from rfl, show (2 : Int) ^ 10 = 1024 from rfl]
  split <;> omega
theorem qdq_bd (V D M : Int) (d : 0 < D) (v : 0 ≤ V) (h : V ≤ M * D) : 0 ≤ qdq V D ∧ qdq V D ≤ M := by
  unfold qdq
  have e := Int.mul_ediv_add_emod V D
  have r0 := Int.emod_nonneg V (show D ≠ 0 by omega)
  have r1 := Int.emod_lt_of_pos V d
  have q0 := Int.ediv_nonneg v (Int.le_of_lt d)
  have q1 : V / D ≤ M := Int.ediv_le_of_le_mul d h
  refine ⟨by split <;> omega, ?_⟩
  by_cases c : V / D = M
  · have : V % D = 0 := by
      rw [c] at e
      have : D * M = M * D := Int.mul_comm _ _
      omega
    rw [if_pos (by omega)]; omega
  · split <;> omega
theorem rdq_bd (a d M : Int) (h : 0 < d) (h1 : -(M * d) ≤ a) (h2 : a ≤ M * d) : -M ≤ rdq a d ∧ rdq a d ≤ M := by
  have D : mgq d = d := by unfold mgq; rw [if_neg (by omega)]
  have A : mgq a ≤ M * d := by unfold mgq; split <;> omega
  have b := qdq_bd (mgq a) d M h (mgq_nn a) A
  unfold rdq
  rw [D]
  split <;> omega
theorem rdq_nn (a d : Int) (h : 0 < d) (a0 : 0 ≤ a) : 0 ≤ rdq a d := by
  have D : mgq d = d := by unfold mgq; rw [if_neg (by omega)]
  unfold rdq
  rw [D, if_pos (by rw [decide_eq_false (by omega), decide_eq_false (by omega)])]
  unfold qdq
  have := Int.ediv_nonneg (mgq_nn a) (Int.le_of_lt h)
  split <;> omega
theorem mulB (x y A B : Int) (h1 : -A ≤ x) (h2 : x ≤ A) (h3 : -B ≤ y) (h4 : y ≤ B) : -(A * B) ≤ x * y ∧ x * y ≤ A * B := by
  have a := Int.mul_nonneg (show 0 ≤ A - x by omega) (show 0 ≤ B + y by omega)
  have b := Int.mul_nonneg (show 0 ≤ A + x by omega) (show 0 ≤ B - y by omega)
  have c := Int.mul_nonneg (show 0 ≤ A - x by omega) (show 0 ≤ B - y by omega)
  have d := Int.mul_nonneg (show 0 ≤ A + x by omega) (show 0 ≤ B + y by omega)
  have e1 : (A - x) * (B + y) = A * B + A * y - x * B - x * y := by grind
  have e2 : (A + x) * (B - y) = A * B - A * y + x * B - x * y := by grind
  have e3 : (A - x) * (B - y) = A * B - A * y - x * B + x * y := by grind
  have e4 : (A + x) * (B + y) = A * B + A * y + x * B + x * y := by grind
  omega
def Unit1 (x : Int) : Prop := -1073741824 ≤ x ∧ x ≤ 1073741824
theorem clampB (v : Int) : Unit1 (if 1073741824 < if -1073741824 > v then -1073741824 else v then 1073741824 else if -1073741824 > v then -1073741824 else v) := by
  unfold Unit1
  by_cases c : -1073741824 > v
  · simp only [if_pos c]; split <;> omega
  · simp only [if_neg c]; split <;> omega
theorem sin_bd (x : Int) (hit : Bool) : Post (fun r => Unit1 r.1) (f_At x hit) := by
  unfold f_At K_At
  repeat' with_reducible first
    | refine post_some (clampB _)
    | refine post_bind fun _ => ?_
    | refine post_cond _ ?_ ?_
theorem cos_bd (x : Int) (hit : Bool) : Post (fun r => Unit1 r.1) (f_BL x hit) := by
  unfold f_BL K_BL
  obtain ⟨w, hw⟩ := t_wrap x
  rw [hw, Option.bind_some]
  obtain ⟨s, hs⟩ := t_sin (IntKind.wrap .i64 (1686629713 + w)) hit
  have b := sin_bd _ _ s hs
  rw [hs, Option.bind_some]
  exact post_some b
theorem sqrt_eq (a : Int) (hit : Bool) (h0 : 0 ≤ a) (h1 : a ≤ 1152921504606846976) : ∃ r u, isR r (a * 1073741824) ∧ f_BU a hit = some (sat r, u) := by
  unfold f_BU K_BU
  rw [acc_sat, Option.bind_some, satI ⟨by omega, h1⟩]
  simp only [decide_eq_false (show ¬ a < 0 by omega), cond_false]
  obtain ⟨h, l, v, e1, e2, e3, e4, e5⟩ := wide_shift a 30 (by omega) (by omega) (by omega)
  have e1' : f_Ay a 30 = some (h, l, v) := e1
  have P : (2 : Int) ^ 30 = 1073741824 := by decide
  rw [P] at e3 e4
  have hv := e4 (e3.2 (by omega))
  have hh : 0 ≤ h := by
    obtain ⟨o1, o2, o3, o4⟩ := e2
    have : h * 18446744073709551616 + l = a * 1073741824 := hv
    omega
  obtain ⟨r, hr⟩ := isR_ex (vW h l) (by omega)
  rw [e1', Option.bind_some, root_end_eq h l r _ e2 hh hr, Option.bind_some]
  exact ⟨r, _, hv ▸ hr, rfl⟩
theorem isR_bd (r q : Int) (hr : isR r (q * 1073741824)) (q0 : 0 ≤ q) (q1 : q ≤ 1073741824) : q ≤ r ∧ r ≤ 1073741824 := by
  obtain ⟨r0, r1, r2⟩ := hr
  constructor
  · refine Int.not_lt.mp ?_
    intro h
    have a := Int.mul_nonneg (show 0 ≤ q - 1 - r by omega) (show 0 ≤ r by omega)
    have b := Int.mul_nonneg (show 0 ≤ q by omega) (show 0 ≤ q - 1 - r by omega)
    have c := Int.mul_nonneg (show 0 ≤ q by omega) (show 0 ≤ 1073741824 - q by omega)
    have e1 : (q - 1 - r) * r = q * r - r - r * r := by grind
    have e2 : q * (q - 1 - r) = q * q - q - q * r := by grind
    have e3 : q * (1073741824 - q) = q * 1073741824 - q * q := by grind
    omega
  · refine Int.not_lt.mp ?_
    intro h
    rcases r2 with z | z
    · omega
    · have a := Int.mul_nonneg (show 0 ≤ r - 1 - 1073741824 by omega) (show 0 ≤ r by omega)
      have e1 : (r - 1 - 1073741824) * r = r * r - r - 1073741824 * r := by grind
      omega
end Go.Proofs.Ytdpenjncfmkbgaa
set_option maxRecDepth 100000
set_option maxHeartbeats 4000000
set_option linter.unusedVariables false
set_option linter.unusedSimpArgs false
namespace Go.Proofs.Ytdpenjncfmkbgaa
open Go.Ab
theorem new1_eq (a b : Int) (hit : Bool) : ∃ u, f_BM a b hit = some (sat (rnd (sat a * sat b) 30), u) := by
  unfold f_BM K_BM
  have m : f_Af a b 30 hit = _ := acc_mul a b 30 hit (by omega)
  rw [m, Option.bind_some]
  exact ⟨_, rfl⟩
theorem div30_eq (a b : Int) (hit : Bool) (nz : sat b ≠ 0) : ∃ u, f_BN a b 30 hit = some (sat (rdq (sat a * 1073741824) (sat b)), u) := by
  have m : f_BN a b 30 hit = _ := acc_div a b 30 hit (by omega) nz
  exact ⟨_, m⟩
theorem muldiv_eq (a b d : Int) (hit : Bool) (nz : sat d ≠ 0) : ∃ u, f_AE a b d hit = some (sat (rdq (sat a * sat b) (sat d)), u) := ⟨_, acc_muldiv a b d hit nz⟩
theorem new_bd (a b c : Int) : Post (fun r => r = Sum.inl () ∨ (GoodP a b c ∧ ∃ n e, r = Sum.inr (a, b, c, n, e) ∧ 0 ≤ n ∧ n ≤ 13000000000 ∧ -13000000000 ≤ e ∧ e ≤ 13000000000)) (f_Ar a b c) := by
  unfold f_Ar K_Ar
  obtain ⟨g, hg⟩ := t_good a b c
  rw [hg, Option.bind_some]
  cases g with
  | false => exact post_some (Or.inl rfl)
  | true =>
    have G := good_p hg
    rw [Bool.not_true, cond_false]
    refine post_cond _ (post_some (Or.inl rfl)) (post_cond _ (post_some (Or.inl rfl)) ?_)
    refine post_bind fun d => ?_
    obtain ⟨⟨s, us⟩, hs⟩ := t_sin d.1 d.2
    have bs : Unit1 s := sin_bd _ _ _ hs
    rw [hs, Option.bind_some]
    obtain ⟨⟨k, uk⟩, hk⟩ := t_cos d.1 us
    have bk : Unit1 k := cos_bd _ _ _ hk
    rw [hk, Option.bind_some]
    unfold Unit1 at bs bk
    simp only
    -- the sine's square
    obtain ⟨u1, h1⟩ := new1_eq s s uk
    have ss : sat s = s := satI (by omega)
    rw [h1, Option.bind_some, ss]
    simp only
    have m1 := mulB s s 1073741824 1073741824 bs.1 bs.2 bs.1 bs.2
    have m1n : 0 ≤ s * s := by
      rcases Int.lt_or_le s 0 with z | z
      · have := Int.mul_nonneg (show 0 ≤ -s by omega) (show 0 ≤ -s by omega)
        rwa [Int.neg_mul_neg] at this
      · exact Int.mul_nonneg z z
    have b1 := rnd30_bd (s * s) 1073741824 m1.1 m1.2
    have b1n := rnd30_lo (s * s) 0 (by omega) (by omega)
    generalize rnd (s * s) 30 = p at b1 b1n
    rw [satI (x := p) (by omega)]
    -- times e2
    obtain ⟨u2, h2⟩ := new1_eq 7188036 p u1
    rw [h2, Option.bind_some, show sat 7188036 = 7188036 from rfl, satI (x := p) (by omega)]
    simp only
    have b2 := rnd30_bd (7188036 * p) 7188036 (by omega) (by omega)
    have b2n := rnd30_lo (7188036 * p) 0 (by omega) (by omega)
    generalize rnd (7188036 * p) 30 = t at b2 b2n
    rw [satI (x := t) (by omega), wrap_i64 (n := 1073741824 - t) (by omega) (by omega)]
    generalize hq : (1073741824 : Int) - t = q
    -- the root
    obtain ⟨w, u3, hw, h3⟩ := sqrt_eq q u2 (by omega) (by omega)
    have bw := isR_bd w q hw (by omega) (by omega)
    rw [h3, Option.bind_some, satI (x := w) (by omega)]
    simp only
    -- across
    have sw : sat w = w := satI (by omega)
    obtain ⟨u4, h4⟩ := div30_eq 6531212288 w u3 (by omega)
    rw [h4, Option.bind_some, show sat 6531212288 = 6531212288 from rfl, sw]
    simp only
    have b4 := rdq_bd (6531212288 * 1073741824) w 6600000000 (by omega) (by omega) (by omega)
    have b4n := rdq_nn (6531212288 * 1073741824) w (by omega) (by omega)
    generalize rdq (6531212288 * 1073741824) w = e at b4 b4n
    rw [satI (x := e) (by omega)]
    -- along
    obtain ⟨u5, h5⟩ := new1_eq 6531212288 1066553788 u4
    rw [h5, Option.bind_some, show sat 6531212288 = 6531212288 from rfl, show sat 1066553788 = 1066553788 from rfl]
    simp only
    have b5 := rnd30_bd (6531212288 * 1066553788) 6531212288 (by omega) (by omega)
    have b5n := rnd30_lo (6531212288 * 1066553788) 0 (by omega) (by omega)
    generalize rnd (6531212288 * 1066553788) 30 = y at b5 b5n
    rw [satI (x := y) (by omega)]
    obtain ⟨u6, h6⟩ := new1_eq q w u5
    rw [h6, Option.bind_some, satI (x := q) (by omega), sw]
    simp only
    have m6 := mulB q w 1073741824 1073741824 (by omega) (by omega) (by omega) (by omega)
    have m6n : 1066553788 * 1066553788 ≤ q * w := by
      have x1 := Int.mul_nonneg (show 0 ≤ q - 1066553788 by omega) (show 0 ≤ w by omega)
      have x2 : (q - 1066553788) * w = q * w - 1066553788 * w := by grind
      omega
    have b6 := rnd30_bd (q * w) 1073741824 m6.1 m6.2
    have b6n := rnd30_lo (q * w) 1059000000 (by omega) (by omega)
    generalize rnd (q * w) 30 = z at b6 b6n
    rw [satI (x := z) (by omega)]
    have sz : sat z = z := satI (by omega)
    obtain ⟨u7, h7⟩ := div30_eq y z u6 (by omega)
    rw [h7, Option.bind_some, satI (x := y) (by omega), sz]
    simp only
    have b7 := rdq_bd (y * 1073741824) z 6700000000 (by omega) (by omega) (by omega)
    have b7n := rdq_nn (y * 1073741824) z (by omega) (by omega)
    generalize rdq (y * 1073741824) z = o at b7 b7n
    rw [satI (x := o) (by omega)]
    obtain ⟨u8, h8⟩ := muldiv_eq o 3373259426 1800000000 u7 (by decide)
    rw [h8, Option.bind_some, satI (x := o) (by omega), show sat 3373259426 = 3373259426 from rfl, show sat 1800000000 = 1800000000 from rfl]
    simp only
    have b8 := rdq_bd (o * 3373259426) 1800000000 13000000000 (by omega) (by omega) (by omega)
    have b8n := rdq_nn (o * 3373259426) 1800000000 (by omega) (by omega)
    generalize rdq (o * 3373259426) 1800000000 = no at b8 b8n
    rw [satI (x := no) (by omega)]
    obtain ⟨u9, h9⟩ := new1_eq e k u8
    rw [h9, Option.bind_some, satI (x := e) (by omega), satI (x := k) (by omega)]
    simp only
    have m9 := mulB e k 6600000000 1073741824 (by omega) (by omega) (by omega) (by omega)
    have b9 := rnd30_bd (e * k) 6600000000 m9.1 m9.2
    generalize rnd (e * k) 30 = ek at b9
    rw [satI (x := ek) (by omega)]
    obtain ⟨u10, h10⟩ := muldiv_eq ek 3373259426 1800000000 u9 (by decide)
    rw [h10, Option.bind_some, satI (x := ek) (by omega), show sat 3373259426 = 3373259426 from rfl, show sat 1800000000 = 1800000000 from rfl]
    have b10 := rdq_bd (ek * 3373259426) 1800000000 13000000000 (by omega) (by omega) (by omega)
    generalize rdq (ek * 3373259426) 1800000000 = ea at b10
    refine post_some (Or.inr ⟨G, no, ea, ?_, b8n, b8.2, b10.1, b10.2⟩)
    rw [satI (x := ea) (by omega)]
end Go.Proofs.Ytdpenjncfmkbgaa
set_option maxRecDepth 100000
set_option maxHeartbeats 4000000
set_option linter.unusedVariables false
set_option linter.unusedSimpArgs false
namespace Go.Proofs.Ytdpenjncfmkbgaa
open Go.Ab
theorem loopK_post {D X ρ : Type} {Q : ρ → Prop} {s : D → (D → Option ρ) → (X → Option ρ) → Option ρ} {k : X → Option ρ} (Inv : Nat → D → Prop)
    (h : ∀ t d c, Inv t d → (∀ t' d', t' < t → Inv t' d' → Post Q (c d')) → Post Q (s d c k)) : ∀ (fuel t : Nat) (d : D), t < fuel → Inv t d → Post Q (loopK s fuel d k)
  | 0, t, d, hf, hd => by omega
  | fuel + 1, t, d, hf, hd => by
    rw [loopK_succ]
    exact h t d _ hd fun t' d' ht hd' => loopK_post Inv h fuel t' d' (by omega) hd'
theorem m_eq (a b : Int) (hit : Bool) : ∃ u, f_Ac a b hit = some (sat (rnd (sat a * sat b) 30), u) := by
  unfold f_Ac K_Ac
  have m : f_Af a b 30 hit = _ := acc_mul a b 30 hit (by omega)
  rw [m, Option.bind_some]
  exact ⟨_, rfl⟩
theorem series_post (x : Int) (n : Nat) (hit : Bool) (P : Nat → Int) (w : Bool) (Lo Hi : Nat → Int) (h1 : 1 ≤ n) (h2 : n ≤ 150) (h0 : Lo 0 ≤ P 0 ∧ P 0 ≤ Hi 0)
    (hs : ∀ i v, i + 1 < n → Lo i ≤ v → v ≤ Hi i → Lo (i + 1) ≤ sat (sat (P (i + 1)) + sat (sat (rnd (sat x * sat v) 30))) ∧ sat (sat (P (i + 1)) + sat (sat (rnd (sat x * sat v) 30))) ≤ Hi (i + 1)) :
    Post (fun r => Lo (n - 1) ≤ r.1 ∧ r.1 ≤ Hi (n - 1)) (f_AJ x n hit P w) := by
  unfold f_AJ K_AJ
  have e1 : inR 0 n = true := by simp only [inR, Bool.and_eq_true, decide_eq_true_eq]; omega
  have e2 : inRe 1 n = true := by simp only [inRe, Bool.and_eq_true, decide_eq_true_eq]; omega
  rw [e1, cond_true, e2, cond_true]
  unfold L_AJ_0
  refine loopK_post (fun t d => ∃ (i : Nat) (v : Int) (b : Bool), i + t + 1 = n ∧ (Lo i ≤ v ∧ v ≤ Hi i) ∧ d = (x, v, n - 1, w && true, Int.ofNat (n - 1), Int.ofNat i, b, n, P)) ?_ 200 (n - 1) _ (by omega)
    ⟨0, P 0, hit, by omega, h0, by cases w <;> rfl⟩
  rintro t _ c ⟨i, v, b, hi, hv, rfl⟩ hc
  unfold S_AJ_0
  by_cases z : t = 0
  · have e : decide (Int.ofNat i < Int.ofNat (n - 1)) = false := decide_eq_false (by simp only [Int.ofNat_eq_natCast]; omega)
    have hin : i = n - 1 := by omega
    simp only [e, cond_false]
    exact post_some (hin ▸ hv)
  · have e : decide (Int.ofNat i < Int.ofNat (n - 1)) = true := decide_eq_true (by simp only [Int.ofNat_eq_natCast]; omega)
    have e3 : inR (Int.ofNat i) (n - 1) = true := by simp only [inR, Bool.and_eq_true, decide_eq_true_eq, Int.ofNat_eq_natCast]; omega
    have e4 : IntKind.wrap .i64 (Int.ofNat i + 1) = Int.ofNat (i + 1) := by
      rw [wrap_i64 (by simp only [Int.ofNat_eq_natCast]; omega) (by simp only [Int.ofNat_eq_natCast]; omega)]; rfl
    obtain ⟨u, hu⟩ := m_eq x v b
    have key := hs i v (by omega) hv.1 hv.2
    simp only [e, cond_true, e3, e4, hu, Option.bind_some, acc_add 2 (by omega)]
    refine hc (t - 1) _ (by omega) ⟨i + 1, _, _, by omega, ?_, rfl⟩
    have e5 : 1 + Int.toNat (Int.ofNat i) = i + 1 := by simp only [Int.ofNat_eq_natCast, Int.toNat_natCast]; omega
    have e6 : sumF (fun j => sat (bif Nat.beq j 1 then sat (rnd (sat x * sat v) 30) else bif Nat.beq j 0 then P (1 + Int.toNat (Int.ofNat i)) else P (1 + Int.toNat (Int.ofNat i)))) 2 = sat (P (i + 1)) + sat (sat (rnd (sat x * sat v) 30)) := by
      rw [e5]; simp [sumF, Nat.beq]
    rw [e6]; exact key
end Go.Proofs.Ytdpenjncfmkbgaa
set_option maxRecDepth 100000
set_option maxHeartbeats 4000000
set_option linter.unusedVariables false
set_option linter.unusedSimpArgs false
namespace Go.Proofs.Ytdpenjncfmkbgaa
open Go.Ab
theorem overI {x : Int} (h : -1152921504606846976 ≤ x ∧ x ≤ 1152921504606846976) : over x = false := by
  unfold over; rw [decide_eq_false (by omega), decide_eq_false (by omega)]; rfl
theorem redL_bd (d : Int) (h1 : -3600000000 ≤ d) (h2 : d ≤ 3600000000) : -1800000000 ≤ redL d ∧ redL d ≤ 1800000000 := by
  unfold redL; split <;> (try split) <;> omega
theorem to_full (x0 x1 x2 f0 f1 f2 f3 f4 : Int) (hit : Bool) (G : GoodP x0 x1 x2) (F : GoodP f0 f1 f2) (n1 : -13000000000 ≤ f3) (n2 : f3 ≤ 13000000000) (e1 : -13000000000 ≤ f4) (e2 : f4 ≤ 13000000000) :
    f_As x0 x1 x2 f0 f1 f2 f3 f4 hit = some (rnd ((x0 - f0) * f3) 10, rnd (redL (x1 - f1) * f4) 10, rdq ((f2 - x2) * 1073741824) 1000, 0, hit) := by
  unfold f_As K_As
  rw [good_yes G, Option.bind_some, Bool.not_true, cond_false]
  obtain ⟨g1, g2, g3, g4, g5, g6⟩ := G
  obtain ⟨k1, k2, k3, k4, k5, k6⟩ := F
  have w1 : IntKind.wrap .i64 (x1 - f1) = x1 - f1 := wrap_i64 (by omega) (by omega)
  have w2 : IntKind.wrap .i64 (x1 - f1 - 3600000000) = x1 - f1 - 3600000000 := wrap_i64 (by omega) (by omega)
  have w3 : IntKind.wrap .i64 (x1 - f1 + 3600000000) = x1 - f1 + 3600000000 := wrap_i64 (by omega) (by omega)
  have w4 : IntKind.wrap .i64 (x0 - f0) = x0 - f0 := wrap_i64 (by omega) (by omega)
  have w5 : IntKind.wrap .i64 (f2 - x2) = f2 - x2 := wrap_i64 (by omega) (by omega)
  have m : ∀ a b hit, -1800000000 ≤ a → a ≤ 1800000000 → -13000000000 ≤ b → b ≤ 13000000000 → f_Af a b 10 hit = some (rnd (a * b) 10, hit) := by
    intro a b hit a1 a2 b1 b2
    have q : f_Af a b 10 hit = some (sat (rnd (sat a * sat b) 10), hit || over a || over b || over (rnd (sat a * sat b) 10)) := acc_mul a b 10 hit (by omega)
    have p := mulB a b 1800000000 13000000000 a1 a2 b1 b2
    have r := rnd10_bd (a * b) 1000000000000000000 (by omega) (by omega)
    rw [q, satI (x := a) (by omega), satI (x := b) (by omega), satI (by omega), overI (x := a) (by omega), overI (x := b) (by omega), overI (by omega)]
    simp
  have d : ∀ hit, f_AE (f2 - x2) 1073741824 1000 hit = some (rdq ((f2 - x2) * 1073741824) 1000, hit) := by
    intro hit
    have r := rdq_bd ((f2 - x2) * 1073741824) 1000 1000000000000000000 (by omega) (by omega) (by omega)
    rw [acc_muldiv _ _ _ _ (by decide), satI (x := f2 - x2) (by omega), show sat 1073741824 = 1073741824 from rfl, show sat 1000 = 1000 from rfl, satI (by omega), overI (x := f2 - x2) (by omega), overI (x := rdq _ _) (by omega), show over 1073741824 = false from rfl, show over 1000 = false from rfl]
    simp
  have rb := redL_bd (x1 - f1) (by omega) (by omega)
  rw [w1, w2, w3, w4, w5]
  unfold redL at rb ⊢
  by_cases c : x1 - f1 > 1800000000
  · rw [if_pos c] at rb
    rw [if_pos c, decide_eq_true c, cond_true, m _ _ _ (by omega) (by omega) n1 n2, Option.bind_some]
    simp only [m _ _ _ rb.1 rb.2 e1 e2, Option.bind_some, d]
  · rw [if_neg c] at rb
    rw [if_neg c, decide_eq_false c, cond_false]
    by_cases z : x1 - f1 ≤ -1800000000
    · rw [if_pos z] at rb
      rw [if_pos z, decide_eq_true z, cond_true, m _ _ _ (by omega) (by omega) n1 n2, Option.bind_some]
      simp only [m _ _ _ rb.1 rb.2 e1 e2, Option.bind_some, d]
    · rw [if_neg z] at rb
      rw [if_neg z, decide_eq_false z, cond_false, m _ _ _ (by omega) (by omega) n1 n2, Option.bind_some]
      simp only [m _ _ _ rb.1 rb.2 e1 e2, Option.bind_some, d]
end Go.Proofs.Ytdpenjncfmkbgaa
