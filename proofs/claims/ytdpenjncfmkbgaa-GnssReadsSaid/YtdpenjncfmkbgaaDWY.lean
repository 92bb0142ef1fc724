/-
  Numbers of 128 bits: compared, turned, shifted, in plain arithmetic.
-/
import Derived.Test.YtdpenjncfmkbgaaDWT
set_option maxRecDepth 100000
set_option maxHeartbeats 4000000
set_option linter.unusedVariables false
set_option linter.unusedSimpArgs false
namespace Go.Proofs.Ytdpenjncfmkbgaa
open Go.Ab
def cmpI (x y : Int) : Int := if x = y then 0 else if x < y then -1 else 1
theorem pow_le_pow {m n : Nat} (h : m ≤ n) : (2 : Int) ^ m ≤ 2 ^ n := by
  have h2 : (2 : Nat) ^ m ≤ 2 ^ n := Nat.pow_le_pow_right (by decide) h
  have h3 : ((2 ^ m : Nat) : Int) ≤ ((2 ^ n : Nat) : Int) := by exact_mod_cast h2
  simpa using h3
theorem signed_eq (h l : Int) (neg : Bool) (h0 : 0 ≤ h) (h1 : h < 18446744073709551616) (l0 : 0 ≤ l) (l1 : l < 18446744073709551616) :
    ∃ h' l' b, f_wide_signed h l neg = some (h', l', b) ∧ okW h' l' ∧ (b = true ↔ if neg = true then h * 18446744073709551616 + l ≤ 170141183460469231731687303715884105728 else h * 18446744073709551616 + l < 170141183460469231731687303715884105728) ∧
      (b = true → vW h' l' = if neg = true then -(h * 18446744073709551616 + l) else h * 18446744073709551616 + l) := by
  unfold f_wide_signed K_wide_signed vW
  cases neg
  · have hw := wrap_i64_eq h
    rw [Int.emod_eq_of_lt h0 h1] at hw
    generalize IntKind.wrap IntKind.i64 h = w at *
    refine ⟨w, l, _, rfl, ⟨?_, ?_, l0, l1⟩, ?_, ?_⟩
    · split at hw <;> omega
    · split at hw <;> omega
    · rw [fdiv_pos _ _ (by omega), beq_iff_eq, if_neg (by decide)]
      constructor <;> intro _ <;> omega
    · rw [fdiv_pos _ _ (by omega), beq_iff_eq, if_neg (by decide)]
      intro _
      split at hw <;> omega
  · simp only [Bool.not_true, cond_false, xor_all l l0 l1, wrap_u64, xor_all h h0 h1]
    rw [add64_eq _ _ _ (by omega) (by omega) (by omega) (by omega)]
    simp only [Option.bind_some, if_true]
    generalize hm : ((18446744073709551615 - h) % 18446744073709551616 + ((18446744073709551615 - l) % 18446744073709551616 + 1 + 0) / 18446744073709551616) % 18446744073709551616 = m
    have hw := wrap_i64_eq m
    generalize IntKind.wrap IntKind.i64 m = w at *
    have m0 : 0 ≤ m ∧ m < 18446744073709551616 := by omega
    rw [Int.emod_eq_of_lt m0.1 m0.2] at hw
    have w0 : -9223372036854775808 ≤ w ∧ w ≤ 9223372036854775807 := by split at hw <;> omega
    have wm : (w < 0 ∧ w = m - 18446744073709551616) ∨ (0 ≤ w ∧ w = m) := by split at hw <;> omega
    clear hw
    by_cases c : w < 0
    · rw [decide_eq_true c, cond_true]
      refine ⟨_, _, _, rfl, ⟨w0.1, w0.2, by omega, by omega⟩, ?_, ?_⟩
      · simp only [true_iff]; omega
      · intro _; omega
    · rw [decide_eq_false c, cond_false]
      refine ⟨_, _, _, rfl, ⟨w0.1, w0.2, by omega, by omega⟩, ?_, ?_⟩
      · simp only [Bool.and_eq_true, beq_iff_eq, and_true]
        constructor <;> intro _ <;> omega
      · simp only [Bool.and_eq_true, beq_iff_eq, and_true]
        intro _; omega
theorem big_shl (d : Int) (s : Nat) (hs : s ≤ 127) (d0 : 0 ≤ d) (d1 : d < 18446744073709551616) :
    ∃ h' l', f__wide_big__shl 0 d (Int.ofNat s) = some (h', l') ∧ 0 ≤ h' ∧ h' < 18446744073709551616 ∧ 0 ≤ l' ∧ l' < 18446744073709551616 ∧ h' * 18446744073709551616 + l' = d * 2 ^ s % 340282366920938463463374607431768211456 := by
  unfold f__wide_big__shl K__wide_big__shl
  by_cases c : 64 ≤ s
  · have e : decide (Int.ofNat s ≥ 64) = true := by simp only [Int.ofNat_eq_natCast]; exact decide_eq_true (by omega)
    have e2 : IntKind.wrap .i64 (Int.ofNat s - 64) = Int.ofNat (s - 64) := (wrap_i64 (by simp only [Int.ofNat_eq_natCast]; omega) (by simp only [Int.ofNat_eq_natCast]; omega)).trans (by simp only [Int.ofNat_eq_natCast]; omega)
    have e3 : (!decide (Int.ofNat (s - 64) < 0)) = true := by simp
    have e4 : min (Int.toNat (Int.ofNat (s - 64))) 64 = s - 64 := by
      show min (s - 64) 64 = s - 64
      omega
    simp only [e, e2, e3, e4, cond_true, wrap_u64]
    refine ⟨_, _, rfl, by omega, by omega, by omega, by omega, ?_⟩
    have p : (2 : Int) ^ s = 2 ^ (s - 64) * 18446744073709551616 := by
      rw [show (18446744073709551616 : Int) = 2 ^ 64 from rfl, ← Int.pow_add]
      congr 1; omega
    rw [p, ← Int.mul_assoc]
    generalize d * 2 ^ (s - 64) = x
    omega
  · have e : decide (Int.ofNat s ≥ 64) = false := by simp only [Int.ofNat_eq_natCast]; exact decide_eq_false (by omega)
    have e2 : IntKind.wrap .i64 (64 - Int.ofNat s) = Int.ofNat (64 - s) := (wrap_i64 (by simp only [Int.ofNat_eq_natCast]; omega) (by simp only [Int.ofNat_eq_natCast]; omega)).trans (by simp only [Int.ofNat_eq_natCast]; omega)
    have e3 : ∀ n, (!decide (Int.ofNat n < 0)) = true := by simp
    have e4 : min (Int.toNat (Int.ofNat (64 - s))) 64 = 64 - s := by
      show min (64 - s) 64 = 64 - s
      omega
    have e5 : min (Int.toNat (Int.ofNat s)) 64 = s := by
      show min s 64 = s
      omega
    simp only [e, e2, e3, e4, e5, cond_true, cond_false, wrap_u64, Int.zero_mul]
    rw [fdiv_pos _ _ (Int.le_of_lt (pow_pos' _))]
    have pq : (18446744073709551616 : Int) = 2 ^ s * 2 ^ (64 - s) := by
      rw [← Int.pow_add, show s + (64 - s) = 64 by omega]; rfl
    have P0 := pow_pos' s
    have Q0 := pow_pos' (64 - s)
    have x0 : 0 ≤ d / 2 ^ (64 - s) := Int.ediv_nonneg d0 (Int.le_of_lt Q0)
    have x1 : d / 2 ^ (64 - s) < 2 ^ s := Int.ediv_lt_of_lt_mul Q0 (by rw [← pq]; exact d1)
    have x2 : d / 2 ^ (64 - s) ≤ d := Int.ediv_le_self _ d0
    have z0 : (0 : Int) % 18446744073709551616 = 0 := rfl
    rw [z0]
    have key : Int.ofNat (BitVec.toNat (BitVec.ofInt 64 0 ||| BitVec.ofInt 64 (d / 2 ^ (64 - s)))) = d / 2 ^ (64 - s) := by
      rw [or_apart 0 (d / 2 ^ (64 - s)) 0 (by omega) (by decide) x0 (by omega) (by omega) (by rw [show (2 : Int) ^ 0 = 1 from rfl, Int.emod_one])]
      omega
    rw [key]
    refine ⟨_, _, rfl, by omega, by omega, by omega, by omega, ?_⟩
    have m1 : d * 2 ^ s / 18446744073709551616 = d / 2 ^ (64 - s) := by
      rw [pq, Int.mul_comm d, Int.mul_ediv_mul_of_pos _ _ P0]
    have b1 : d * 2 ^ s < 340282366920938463463374607431768211456 := by
      have := Int.mul_lt_mul_of_pos_right d1 P0
      have q : (2 : Int) ^ s ≤ 2 ^ 64 := pow_le_pow (by omega)
      have q2 : (2 : Int) ^ 64 = 18446744073709551616 := rfl
      have q3 : 18446744073709551616 * 2 ^ s ≤ (18446744073709551616 : Int) * 18446744073709551616 := Int.mul_le_mul_of_nonneg_left (by omega) (by omega)
      have q4 : (18446744073709551616 : Int) * 18446744073709551616 = 340282366920938463463374607431768211456 := by decide
      omega
    have b0 : 0 ≤ d * 2 ^ s := Int.mul_nonneg d0 (Int.le_of_lt P0)
    rw [Int.emod_eq_of_lt b0 b1]
    have x3 : d / 2 ^ (64 - s) % 18446744073709551616 = d / 2 ^ (64 - s) := Int.emod_eq_of_lt x0 (by omega)
    rw [x3, ← m1]
    omega
theorem wide_shift (a : Int) (s : Nat) (hs : s ≤ 127) (a0 : -9223372036854775808 ≤ a) (a1 : a ≤ 9223372036854775807) :
    ∃ h l b, f_wide_Shift a (Int.ofNat s) = some (h, l, b) ∧ okW h l ∧ (b = true ↔ -170141183460469231731687303715884105728 ≤ a * 2 ^ s ∧ a * 2 ^ s < 170141183460469231731687303715884105728) ∧ (b = true → vW h l = a * 2 ^ s) ∧ (b = false → h = 0 ∧ l = 0) := by
  unfold f_wide_Shift K_wide_Shift
  have n0 : decide (Int.ofNat s < 0) = false := by simp
  have n1 : decide (Int.ofNat s > 127) = false := by simp only [Int.ofNat_eq_natCast]; exact decide_eq_false (by omega)
  rw [n0, cond_false, n1, cond_false, abs64_eq a a0 a1, Option.bind_some]
  generalize hd : (if a < 0 then -a else a) = d
  have d0 : 0 ≤ d ∧ d ≤ 9223372036854775808 := by split at hd <;> omega
  obtain ⟨u, v, e1, u0, u1, v0, v1, e2⟩ := big_shl d s hs d0.1 (by omega)
  rw [e1, Option.bind_some]
  simp only
  have P0 := pow_pos' s
  have D0 : 0 ≤ d * 2 ^ s := Int.mul_nonneg d0.1 (Int.le_of_lt P0)
  have sg : (a < 0 → a * 2 ^ s = -(d * 2 ^ s)) ∧ (¬ a < 0 → a * 2 ^ s = d * 2 ^ s) := by
    constructor <;> intro h
    · rw [if_pos h] at hd
      rw [← hd, Int.neg_mul, Int.neg_neg]
    · rw [if_neg h] at hd
      rw [hd]
  have nofit : ∀ {b : Bool}, b = false → ¬ d * 2 ^ s < 340282366920938463463374607431768211456 → (b = true ↔ -170141183460469231731687303715884105728 ≤ a * 2 ^ s ∧ a * 2 ^ s < 170141183460469231731687303715884105728) := by
    intro b hb hn
    rw [hb]
    refine iff_of_false Bool.false_ne_true fun h => ?_
    by_cases n : a < 0
    · have := sg.1 n; omega
    · have := sg.2 n; omega
  have fin : d * 2 ^ s < 340282366920938463463374607431768211456 → ∃ h l b, (Option.bind (f_wide_signed u v (decide (a < 0))) fun (d : Int × Int × Bool) => bif !d.2.2 then some (0, 0, false) else some (d.1, d.2.1, true)) = some (h, l, b) ∧ okW h l ∧ (b = true ↔ -170141183460469231731687303715884105728 ≤ a * 2 ^ s ∧ a * 2 ^ s < 170141183460469231731687303715884105728) ∧ (b = true → vW h l = a * 2 ^ s) ∧ (b = false → h = 0 ∧ l = 0) := by
    intro lt
    rw [Int.emod_eq_of_lt D0 lt] at e2
    obtain ⟨h', l', b, e3, o3, f3, v3⟩ := signed_eq u v (decide (a < 0)) u0 u1 v0 v1
    rw [e3, Option.bind_some]
    rw [e2] at f3 v3
    by_cases n : a < 0
    · have q := sg.1 n
      rw [decide_eq_true n, if_pos rfl] at f3 v3
      cases b with
      | false =>
        refine ⟨0, 0, false, rfl, ⟨by omega, by omega, by omega, by omega⟩, ?_, (fun h => by cases h), (fun _ => ⟨rfl, rfl⟩)⟩
        rw [f3]; omega
      | true =>
        refine ⟨h', l', true, rfl, o3, ?_, (fun _ => ?_), (fun h => by cases h)⟩
        · rw [f3]; omega
        · rw [v3 rfl]; omega
    · have q := sg.2 n
      rw [decide_eq_false n, if_neg (by decide)] at f3 v3
      cases b with
      | false =>
        refine ⟨0, 0, false, rfl, ⟨by omega, by omega, by omega, by omega⟩, ?_, (fun h => by cases h), (fun _ => ⟨rfl, rfl⟩)⟩
        rw [f3]; omega
      | true =>
        refine ⟨h', l', true, rfl, o3, ?_, (fun _ => ?_), (fun h => by cases h)⟩
        · rw [f3]; omega
        · rw [v3 rfl]; omega
  -- back again
  have shr : ∃ x y, f__wide_big__shr u v (Int.ofNat s) = some (x, y) ∧ 0 ≤ x ∧ 0 ≤ y ∧ y < 18446744073709551616 ∧ x * 18446744073709551616 + y = (u * 18446744073709551616 + v) / 2 ^ s := by
    rcases Nat.lt_or_ge s 127 with c | c
    · exact big_shr u v s (by omega) u0 u1 v0 v1
    · obtain rfl : s = 127 := by omega
      refine ⟨0, u / 9223372036854775808, ?_, by omega, by omega, by omega, ?_⟩
      · unfold f__wide_big__shr K__wide_big__shr
        have k1 : decide (Int.ofNat 127 ≥ 64) = true := by decide
        have k2 : (!decide (IntKind.wrap .i64 (Int.ofNat 127 - 64) < 0)) = true := by decide
        have k3 : (2 : Int) ^ min (Int.toNat (IntKind.wrap .i64 (Int.ofNat 127 - 64))) 64 = 9223372036854775808 := by decide
        simp only [k1, k2, k3, cond_true]
        rw [fdiv_pos _ _ (by omega)]
      · have k : (2 : Int) ^ 127 = 170141183460469231731687303715884105728 := by decide
        rw [k]; omega
  obtain ⟨x, y, e3, x0, y0, y1, e4⟩ := shr
  rw [e3, Option.bind_some]
  simp only
  rw [e2] at e4
  by_cases lt : d * 2 ^ s < 340282366920938463463374607431768211456
  · rw [Int.emod_eq_of_lt D0 lt, Int.mul_ediv_cancel _ (by omega)] at e4
    have xe : (x == 0) = true := by rw [beq_iff_eq]; omega
    have ye : (y == d) = true := by rw [beq_iff_eq]; omega
    rw [xe, ye]
    exact fin lt
  · have small : d * 2 ^ s % 340282366920938463463374607431768211456 / 2 ^ s < d := by
      refine Int.ediv_lt_of_lt_mul P0 ?_
      have : d * 2 ^ s % 340282366920938463463374607431768211456 < 340282366920938463463374607431768211456 := Int.emod_lt_of_pos _ (by omega)
      omega
    have ne : (x == 0 && (y == d && true)) = false := by
      rw [Bool.and_true]
      by_cases xz : x = 0
      · have : (y == d) = false := by rw [beq_eq_false_iff_ne]; omega
        rw [this, Bool.and_false]
      · have : (x == 0) = false := by rw [beq_eq_false_iff_ne]; omega
        rw [this, Bool.false_and]
    rw [ne]
    exact ⟨0, 0, false, rfl, ⟨by omega, by omega, by omega, by omega⟩, nofit rfl lt, (fun h => by cases h), (fun _ => ⟨rfl, rfl⟩)⟩
end Go.Proofs.Ytdpenjncfmkbgaa
