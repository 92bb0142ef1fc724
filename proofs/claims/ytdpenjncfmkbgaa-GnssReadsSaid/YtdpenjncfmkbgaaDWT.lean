/-
  Products and sums of clamped scalars in plain arithmetic.
-/
import Derived.Test.YtdpenjncfmkbgaaDWS
set_option maxRecDepth 100000
set_option maxHeartbeats 4000000
set_option linter.unusedVariables false
set_option linter.unusedSimpArgs false
namespace Go.Proofs.Ytdpenjncfmkbgaa
open Go.Ab
theorem abs64_eq (x : Int) (h0 : -9223372036854775808 ≤ x) (h1 : x ≤ 9223372036854775807) : f_wide_abs64 x = some (if x < 0 then -x else x) := by
  unfold f_wide_abs64 K_wide_abs64
  by_cases c : x < 0
  · simp only [c, decide_true, cond_true, if_true, wrap_u64, Option.some.injEq]; omega
  · simp only [c, decide_false, cond_false, if_false, wrap_u64, Option.some.injEq]; omega
theorem mul_lt32 {a b : Int} (a0 : 0 ≤ a) (a1 : a ≤ 4294967295) (b0 : 0 ≤ b) (b1 : b ≤ 4294967295) : 0 ≤ a * b ∧ a * b ≤ 18446744065119617025 := by
  refine ⟨Int.mul_nonneg a0 b0, ?_⟩
  have := Int.mul_le_mul a1 b1 b0 (by omega)
  omega
theorem mul64_eq (x y : Int) (x0 : 0 ≤ x) (x1 : x < 18446744073709551616) (y0 : 0 ≤ y) (y1 : y < 18446744073709551616) : f_math_bits_Mul64 x y = some (x * y / 18446744073709551616, x * y % 18446744073709551616) := by
  unfold f_math_bits_Mul64 K_math_bits_Mul64
  rw [and_mask x x0 x1, and_mask y y0 y1]
  simp only [fdiv_pos _ 4294967296 (by decide), wrap_u64]
  have xe : x = x / 4294967296 * 4294967296 + x % 4294967296 := by omega
  have ye : y = y / 4294967296 * 4294967296 + y % 4294967296 := by omega
  have xh : 0 ≤ x / 4294967296 ∧ x / 4294967296 ≤ 4294967295 := by omega
  have yh : 0 ≤ y / 4294967296 ∧ y / 4294967296 ≤ 4294967295 := by omega
  have xl : 0 ≤ x % 4294967296 ∧ x % 4294967296 ≤ 4294967295 := by omega
  have yl : 0 ≤ y % 4294967296 ∧ y % 4294967296 ≤ 4294967295 := by omega
  have hxy : x * y = (x / 4294967296) * (y / 4294967296) * 18446744073709551616 + ((x / 4294967296) * (y % 4294967296) + (x % 4294967296) * (y / 4294967296)) * 4294967296 + (x % 4294967296) * (y % 4294967296) := by
    conv => lhs; rw [xe, ye]
    generalize x / 4294967296 = a
    generalize x % 4294967296 = b
    generalize y / 4294967296 = c
    generalize y % 4294967296 = d
    rw [Int.add_mul, Int.mul_add, Int.mul_add, Int.add_mul]
    rw [show a * 4294967296 * (c * 4294967296) = a * c * 18446744073709551616 by rw [Int.mul_assoc, Int.mul_left_comm 4294967296 c, ← Int.mul_assoc, show (4294967296 : Int) * 4294967296 = 18446744073709551616 from rfl]]
    rw [show a * 4294967296 * d = a * d * 4294967296 by rw [Int.mul_assoc, Int.mul_comm 4294967296 d, ← Int.mul_assoc], show b * (c * 4294967296) = b * c * 4294967296 by rw [Int.mul_assoc]]
    omega
  obtain ⟨A0, A1⟩ := mul_lt32 xh.1 xh.2 yh.1 yh.2
  obtain ⟨B0, B1⟩ := mul_lt32 xh.1 xh.2 yl.1 yl.2
  obtain ⟨C0, C1⟩ := mul_lt32 xl.1 xl.2 yh.1 yh.2
  obtain ⟨D0, D1⟩ := mul_lt32 xl.1 xl.2 yl.1 yl.2
  simp only [Int.emod_eq_of_lt xl.1 (show x % 4294967296 < 18446744073709551616 by omega), Int.emod_eq_of_lt yl.1 (show y % 4294967296 < 18446744073709551616 by omega)]
  rw [hxy]
  generalize x / 4294967296 * (y / 4294967296) = A at *
  generalize x / 4294967296 * (y % 4294967296) = B at *
  generalize x % 4294967296 * (y / 4294967296) = C at *
  generalize x % 4294967296 * (y % 4294967296) = D at *
  have r1 : A % 18446744073709551616 = A := Int.emod_eq_of_lt A0 (by omega)
  have r2 : B % 18446744073709551616 = B := Int.emod_eq_of_lt B0 (by omega)
  have r3 : C % 18446744073709551616 = C := Int.emod_eq_of_lt C0 (by omega)
  have r4 : D % 18446744073709551616 = D := Int.emod_eq_of_lt D0 (by omega)
  simp only [r1, r2, r3, r4]
  have r5 : (B + D / 4294967296) % 18446744073709551616 = B + D / 4294967296 := Int.emod_eq_of_lt (by omega) (by omega)
  simp only [r5]
  rw [and_mask (B + D / 4294967296) (by omega) (by omega)]
  have r6 : (B + D / 4294967296) % 4294967296 % 18446744073709551616 = (B + D / 4294967296) % 4294967296 := Int.emod_eq_of_lt (by omega) (by omega)
  simp only [r6]
  have r7 : ((B + D / 4294967296) % 4294967296 + C) % 18446744073709551616 = (B + D / 4294967296) % 4294967296 + C := Int.emod_eq_of_lt (by omega) (by omega)
  simp only [r7]
  refine congrArg some (Prod.ext ?_ rfl)
  simp only
  omega
theorem wide_signed (h l : Int) (neg : Bool) (h0 : 0 ≤ h) (h1 : h < 9223372036854775808) (l0 : 0 ≤ l) (l1 : l < 18446744073709551616) :
    ∃ h' l' b, f_wide_signed h l neg = some (h', l', b) ∧ okW h' l' ∧ vW h' l' = if neg = true then -(h * 18446744073709551616 + l) else h * 18446744073709551616 + l := by
  unfold f_wide_signed K_wide_signed
  cases neg
  · refine ⟨_, _, _, rfl, ?_, ?_⟩
    · rw [wrap_i64 (by omega) (by omega)]; omega
    · rw [wrap_i64 (by omega) (by omega)]; rfl
  · simp only [Bool.not_true, cond_false, xor_all l l0 l1, wrap_u64, xor_all h h0 (by omega)]
    rw [add64_eq _ _ _ (by omega) (by omega) (by omega) (by omega)]
    simp only [Option.bind_some]
    generalize hm : (18446744073709551615 - h) % 18446744073709551616 + ((18446744073709551615 - l) % 18446744073709551616 + 1 + 0) / 18446744073709551616 = m
    have hw := wrap_i64_eq (m % 18446744073709551616)
    generalize IntKind.wrap IntKind.i64 (m % 18446744073709551616) = w at *
    have ok : okW w (((18446744073709551615 - l) % 18446744073709551616 + 1 + 0) % 18446744073709551616) ∧ vW w (((18446744073709551615 - l) % 18446744073709551616 + 1 + 0) % 18446744073709551616) = -(h * 18446744073709551616 + l) := by
      unfold vW
      refine ⟨⟨?_, ?_, ?_, ?_⟩, ?_⟩ <;> (split at hw <;> omega)
    cases decide (w < 0)
    · exact ⟨_, _, _, rfl, ok.1, by simp only [if_true]; exact ok.2⟩
    · exact ⟨_, _, _, rfl, ok.1, by simp only [if_true]; exact ok.2⟩
theorem wide_mul (a b : Int) (a0 : -9223372036854775808 ≤ a) (a1 : a ≤ 9223372036854775807) (b0 : -9223372036854775808 ≤ b) (b1 : b ≤ 9223372036854775807) : ∃ h l, f_wide_Mul a b = some (h, l) ∧ okW h l ∧ vW h l = a * b := by
  unfold f_wide_Mul K_wide_Mul
  simp only [abs64_eq a a0 a1, abs64_eq b b0 b1, Option.bind_some]
  generalize hx : (if a < 0 then -a else a) = x
  generalize hy : (if b < 0 then -b else b) = y
  have x0 : 0 ≤ x ∧ x ≤ 9223372036854775808 := by rw [← hx]; split <;> omega
  have y0 : 0 ≤ y ∧ y ≤ 9223372036854775808 := by rw [← hy]; split <;> omega
  have hp : 0 ≤ x * y := Int.mul_nonneg x0.1 y0.1
  have hq : x * y ≤ 85070591730234615865843651857942052864 := by
    have := Int.mul_le_mul x0.2 y0.2 y0.1 (by omega)
    omega
  rw [mul64_eq x y x0.1 (by omega) y0.1 (by omega)]
  simp only [Option.bind_some]
  obtain ⟨h, l, c, e1, e2, e3⟩ := wide_signed (x * y / 18446744073709551616) (x * y % 18446744073709551616) (!decide (a < 0) == decide (b < 0)) (by omega) (by omega) (by omega) (by omega)
  rw [e1]
  simp only [Option.bind_some]
  refine ⟨h, l, rfl, e2, ?_⟩
  have e4 : x * y / 18446744073709551616 * 18446744073709551616 + x * y % 18446744073709551616 = x * y := by omega
  rw [e3, e4]
  by_cases p : a < 0
  · by_cases q : b < 0
    · rw [if_pos p] at hx
      rw [if_pos q] at hy
      simp only [p, q, decide_true]
      rw [if_neg (by decide)]
      rw [← hx, ← hy, Int.neg_mul_neg]
    · rw [if_pos p] at hx
      rw [if_neg q] at hy
      simp only [p, q, decide_true, decide_false]
      rw [if_pos (by decide)]
      rw [← hx, ← hy, Int.neg_mul, Int.neg_neg]
  · by_cases q : b < 0
    · rw [if_neg p] at hx
      rw [if_pos q] at hy
      simp only [p, q, decide_true, decide_false]
      rw [if_pos (by decide)]
      rw [← hx, ← hy, Int.mul_neg, Int.neg_neg]
    · rw [if_neg p] at hx
      rw [if_neg q] at hy
      simp only [p, q, decide_false]
      rw [if_neg (by decide)]
      rw [← hx, ← hy]
theorem acc_mul (a b : Int) (s : Nat) (hit : Bool) (hs : s ≤ 120) : f___fx_Acc__Mul a b (Int.ofNat s) hit = some (sat (rnd (sat a * sat b) s), hit || over a || over b || over (rnd (sat a * sat b) s)) := by
  unfold f___fx_Acc__Mul K___fx_Acc__Mul
  have := sat_le a
  have := sat_le b
  obtain ⟨h, l, e1, e2, e3⟩ := wide_mul (sat a) (sat b) (by omega) (by omega) (by omega) (by omega)
  simp only [acc_sat, Option.bind_some, e1, acc_round h l s _ hs e2, e3]
end Go.Proofs.Ytdpenjncfmkbgaa
