/-
  The second reckoner (astrolaberef2) in plain arithmetic: clamped products, sums of products.
-/
import Derived.Test.YtdpenjncfmkbgaaGNR
import Derived.Test.YtdpenjncfmkbgaaDWQ
set_option maxRecDepth 100000
set_option maxHeartbeats 4000000
set_option linter.unusedVariables false
set_option linter.unusedSimpArgs false
namespace Go.Proofs.Ytdpenjncfmkbgaa
open Go.Ab
theorem sat_id {x : Int} (h : -1152921504606846976 ≤ x ∧ x ≤ 1152921504606846976) : sat x = x ∧ over x = false := by
  unfold sat over
  have h1 : ¬ x < -1152921504606846976 := by omega
  have h2 : ¬ 1152921504606846976 < x := by omega
  simp [h1, h2]
theorem ref_clamp (a lo hi : Int) (hit : Bool) (h : lo ≤ hi) : f___astrolaberef2_Acc__Clamp a lo hi hit = some (if a < lo then lo else if hi < a then hi else a, hit || (decide (a < lo) || decide (hi < a))) := by
  unfold f___astrolaberef2_Acc__Clamp K___astrolaberef2_Acc__Clamp
  by_cases c : a < lo
  · have e : (lo != a) = true := by rw [bne_iff_ne]; omega
    rw [decide_eq_true c, cond_true, e, cond_true, if_pos c, Bool.true_or, Bool.or_true]
  · rw [decide_eq_false c, cond_false, decide_eq_false (show ¬ lo > hi by omega), cond_false, if_neg c, Bool.false_or]
    by_cases d : hi < a
    · have e : (hi != a) = true := by rw [bne_iff_ne]; omega
      rw [decide_eq_true (show a > hi from d), cond_true, e, cond_true, if_pos d, Bool.or_true]
    · rw [decide_eq_false (show ¬ a > hi from d), cond_false, bne_self_eq_false, cond_false, cond_false, if_neg d, Bool.or_false]
theorem ref_sat (x : Int) (hit : Bool) : f___astrolaberef2_Acc__Sat x hit = some (sat x, hit || over x) := by
  unfold f___astrolaberef2_Acc__Sat K___astrolaberef2_Acc__Sat
  rw [ref_clamp x _ _ hit (by omega), Option.bind_some]
  rfl
theorem ref_size (a : Int) (h0 : -1152921504606846976 ≤ a) (h1 : a ≤ 1152921504606846976) : f_astrolaberef2_size a = some (if a < 0 then -a else a) := by
  unfold f_astrolaberef2_size K_astrolaberef2_size
  by_cases c : a < 0
  · rw [decide_eq_true c, cond_true, if_pos c, wrap_i64 (by omega) (by omega), wrap_u64]
    congr 1; omega
  · rw [decide_eq_false c, cond_false, if_neg c, wrap_u64]
    congr 1; omega
theorem ref_product (x y : Int) (x0 : 0 ≤ x) (x1 : x < 18446744073709551616) (y0 : 0 ≤ y) (y1 : y < 18446744073709551616) : f_astrolaberef2_product x y = some (x * y / 18446744073709551616, x * y % 18446744073709551616) := by
  unfold f_astrolaberef2_product K_astrolaberef2_product
  rw [and_mask x x0 x1, and_mask y y0 y1]
  simp only [fdiv_pos _ 4294967296 (by decide), wrap_u64]
  have xe : x = x / 4294967296 * 4294967296 + x % 4294967296 := by omega
  have ye : y = y / 4294967296 * 4294967296 + y % 4294967296 := by omega
  have xh : 0 ≤ x / 4294967296 ∧ x / 4294967296 ≤ 4294967295 := by omega
  have yh : 0 ≤ y / 4294967296 ∧ y / 4294967296 ≤ 4294967295 := by omega
  have xl : 0 ≤ x % 4294967296 ∧ x % 4294967296 ≤ 4294967295 := by omega
  have yl : 0 ≤ y % 4294967296 ∧ y % 4294967296 ≤ 4294967295 := by omega
  have hxy : x * y = (x / 4294967296) * (y / 4294967296) * 18446744073709551616 + ((x / 4294967296) * (y % 4294967296) + (x % 4294967296) * (y / 4294967296)) * 4294967296 + (x % 4294967296) * (y % 4294967296) := by
    conv => lhs; rw [xe, ye]
    grind
  obtain ⟨A0, A1⟩ := mul_lt32 xh.1 xh.2 yh.1 yh.2
  obtain ⟨B0, B1⟩ := mul_lt32 xh.1 xh.2 yl.1 yl.2
  obtain ⟨C0, C1⟩ := mul_lt32 xl.1 xl.2 yh.1 yh.2
  obtain ⟨D0, D1⟩ := mul_lt32 xl.1 xl.2 yl.1 yl.2
  simp only [Int.emod_eq_of_lt xl.1 (show x % 4294967296 < 18446744073709551616 by omega), Int.emod_eq_of_lt yl.1 (show y % 4294967296 < 18446744073709551616 by omega)]
  rw [hxy]
  generalize x / 4294967296 * (y / 4294967296) = A at *
  generalize x / 4294967296 * (y % 4294967296) = B at *
  generalize x % 4294967296 * (y / 4294967296) = C at *
  generalize x % 4294967296 * (y % 4294967296) = D at *
  have r1 : A % 18446744073709551616 = A := Int.emod_eq_of_lt A0 (by omega)
  have r2 : B % 18446744073709551616 = B := Int.emod_eq_of_lt B0 (by omega)
  have r3 : C % 18446744073709551616 = C := Int.emod_eq_of_lt C0 (by omega)
  have r4 : D % 18446744073709551616 = D := Int.emod_eq_of_lt D0 (by omega)
  simp only [r1, r2, r3, r4]
  have r5 : (B + D / 4294967296) % 18446744073709551616 = B + D / 4294967296 := Int.emod_eq_of_lt (by omega) (by omega)
  simp only [r5]
  rw [and_mask (B + D / 4294967296) (by omega) (by omega), and_mask D D0 (by omega)]
  have r6 : (B + D / 4294967296) % 4294967296 % 18446744073709551616 = (B + D / 4294967296) % 4294967296 := Int.emod_eq_of_lt (by omega) (by omega)
  have r8 : D % 4294967296 % 18446744073709551616 = D % 4294967296 := Int.emod_eq_of_lt (by omega) (by omega)
  simp only [r6, r8]
  have r7 : (C + (B + D / 4294967296) % 4294967296) % 18446744073709551616 = C + (B + D / 4294967296) % 4294967296 := Int.emod_eq_of_lt (by omega) (by omega)
  simp only [r7]
  have z0 : 0 ≤ (C + (B + D / 4294967296) % 4294967296) * 4294967296 % 18446744073709551616 := by omega
  have key : Int.ofNat (BitVec.toNat (BitVec.ofInt 64 ((C + (B + D / 4294967296) % 4294967296) * 4294967296 % 18446744073709551616) ||| BitVec.ofInt 64 (D % 4294967296))) = D % 4294967296 + (C + (B + D / 4294967296) % 4294967296) * 4294967296 % 18446744073709551616 := by
    rw [BitVec.or_comm]
    refine or_apart _ _ 32 (by omega) ?_ z0 (by omega) (by omega) ?_
    · rw [show (2 : Int) ^ 32 = 4294967296 from rfl]; omega
    · rw [show (2 : Int) ^ 32 = 4294967296 from rfl]; omega
  rw [key]
  refine congrArg some (Prod.ext ?_ ?_)
  · simp only; omega
  · simp only; omega
abbrev okR (h l : Int) : Prop := 0 ≤ h ∧ h < 18446744073709551616 ∧ 0 ≤ l ∧ l < 18446744073709551616
/-- a number by its size and its sign -/
def rV (h l : Int) (n : Bool) : Int := if n = true then -(h * 18446744073709551616 + l) else h * 18446744073709551616 + l
theorem ref_mul (a b : Int) (a0 : -1152921504606846976 ≤ a ∧ a ≤ 1152921504606846976) (b0 : -1152921504606846976 ≤ b ∧ b ≤ 1152921504606846976) :
    ∃ h l n, f_astrolaberef2_mul a b = some (h, l, n) ∧ okR h l ∧ rV h l n = a * b ∧ h * 18446744073709551616 + l ≤ 1329227995784915872903807060280344576 := by
  unfold f_astrolaberef2_mul K_astrolaberef2_mul
  rw [ref_size a a0.1 a0.2, Option.bind_some, ref_size b b0.1 b0.2, Option.bind_some]
  generalize hx : (if a < 0 then -a else a) = x
  generalize hy : (if b < 0 then -b else b) = y
  have x0 : 0 ≤ x ∧ x ≤ 1152921504606846976 := by split at hx <;> omega
  have y0 : 0 ≤ y ∧ y ≤ 1152921504606846976 := by split at hy <;> omega
  have p0 : 0 ≤ x * y := Int.mul_nonneg x0.1 y0.1
  have p1 : x * y ≤ 1329227995784915872903807060280344576 := by
    have := Int.mul_le_mul x0.2 y0.2 y0.1 (by omega)
    omega
  rw [ref_product x y x0.1 (by omega) y0.1 (by omega), Option.bind_some]
  have e4 : x * y / 18446744073709551616 * 18446744073709551616 + x * y % 18446744073709551616 = x * y := by omega
  refine ⟨_, _, _, rfl, ⟨by omega, by omega, by omega, by omega⟩, ?_, by rw [e4]; exact p1⟩
  unfold rV
  rw [e4]
  by_cases p : a < 0
  · by_cases q : b < 0
    · rw [if_pos p] at hx
      rw [if_pos q] at hy
      rw [decide_eq_true p, decide_eq_true q, if_neg (by decide), ← hx, ← hy, Int.neg_mul_neg]
    · rw [if_pos p] at hx
      rw [if_neg q] at hy
      rw [decide_eq_true p, decide_eq_false q, if_pos (by decide), ← hx, ← hy, Int.neg_mul, Int.neg_neg]
  · by_cases q : b < 0
    · rw [if_neg p] at hx
      rw [if_pos q] at hy
      rw [decide_eq_false p, decide_eq_true q, if_pos (by decide), ← hx, ← hy, Int.mul_neg, Int.neg_neg]
    · rw [if_neg p] at hx
      rw [if_neg q] at hy
      rw [decide_eq_false p, decide_eq_false q, if_neg (by decide), ← hx, ← hy]
theorem ref_less (a b c d : Int) (n m : Bool) (b0 : 0 ≤ b) (b1 : b < 18446744073709551616) (d0 : 0 ≤ d) (d1 : d < 18446744073709551616) :
    f_astrolaberef2_less a b n c d m = some (decide (a * 18446744073709551616 + b < c * 18446744073709551616 + d)) := by
  unfold f_astrolaberef2_less K_astrolaberef2_less
  by_cases h : a < c
  · have : a * 18446744073709551616 + b < c * 18446744073709551616 + d := by omega
    rw [decide_eq_true h, cond_true, decide_eq_true this]
  · rw [decide_eq_false h, cond_false]
    by_cases e : a = c
    · subst e
      rw [beq_self_eq_true, cond_true]
      congr 1
      by_cases k : b < d
      · rw [decide_eq_true k, decide_eq_true (by omega)]
      · rw [decide_eq_false k, decide_eq_false (by omega)]
    · have : ¬ a * 18446744073709551616 + b < c * 18446744073709551616 + d := by omega
      have e' : (a == c) = false := by rw [beq_eq_false_iff_ne]; exact e
      rw [e', cond_false, decide_eq_false this]
theorem ref_plus (h1 l1 h2 l2 : Int) (n : Bool) (o1 : okR h1 l1) (o2 : okR h2 l2) (b : h1 * 18446744073709551616 + l1 + (h2 * 18446744073709551616 + l2) < 340282366920938463463374607431768211456) :
    ∃ h l, f_astrolaberef2_add h1 l1 n h2 l2 n = some (h, l, n) ∧ okR h l ∧ h * 18446744073709551616 + l = h1 * 18446744073709551616 + l1 + (h2 * 18446744073709551616 + l2) := by
  unfold f_astrolaberef2_add K_astrolaberef2_add
  obtain ⟨a1, a2, a3, a4⟩ := o1
  obtain ⟨b1, b2, b3, b4⟩ := o2
  simp only [beq_self_eq_true, cond_true, wrap_u64]
  by_cases c : (l1 + l2) % 18446744073709551616 < l1
  · rw [decide_eq_true c, cond_true]
    exact ⟨_, _, rfl, ⟨by omega, by omega, by omega, by omega⟩, by omega⟩
  · rw [decide_eq_false c, cond_false]
    exact ⟨_, _, rfl, ⟨by omega, by omega, by omega, by omega⟩, by omega⟩
theorem ref_sum (h1 l1 h2 l2 : Int) (n m : Bool) (o1 : okR h1 l1) (o2 : okR h2 l2) (b : h1 * 18446744073709551616 + l1 + (h2 * 18446744073709551616 + l2) < 340282366920938463463374607431768211456) :
    ∃ h l k, f_astrolaberef2_add h1 l1 n h2 l2 m = some (h, l, k) ∧ okR h l ∧ rV h l k = rV h1 l1 n + rV h2 l2 m ∧ h * 18446744073709551616 + l ≤ h1 * 18446744073709551616 + l1 + (h2 * 18446744073709551616 + l2) := by
  by_cases s : n = m
  · subst s
    obtain ⟨h, l, e, o, v⟩ := ref_plus h1 l1 h2 l2 n o1 o2 b
    refine ⟨h, l, n, e, o, ?_, by omega⟩
    unfold rV
    cases n <;> simp only [Bool.false_eq_true, if_false, if_true] <;> omega
  · have e : (n == m) = false := by rw [beq_eq_false_iff_ne]; exact s
    obtain ⟨a1, a2, a3, a4⟩ := o1
    obtain ⟨b1, b2, b3, b4⟩ := o2
    unfold f_astrolaberef2_add K_astrolaberef2_add
    rw [e, cond_false, ref_less h1 l1 h2 l2 n m a3 a4 b3 b4, Option.bind_some]
    simp only [wrap_u64]
    have sg : rV h1 l1 n + rV h2 l2 m = if n = true then (h2 * 18446744073709551616 + l2) - (h1 * 18446744073709551616 + l1) else (h1 * 18446744073709551616 + l1) - (h2 * 18446744073709551616 + l2) := by
      unfold rV
      cases n <;> cases m <;> simp_all <;> omega
    have mm : m = !n := by cases n <;> cases m <;> simp_all
    rw [sg]
    by_cases c : h1 * 18446744073709551616 + l1 < h2 * 18446744073709551616 + l2
    · rw [decide_eq_true c, cond_true]
      by_cases d : l2 < l1
      · rw [decide_eq_true d, cond_true]
        refine ⟨_, _, _, rfl, ⟨by omega, by omega, by omega, by omega⟩, ?_, by omega⟩
        unfold rV
        rw [mm]
        cases n <;> simp only [Bool.not_true, Bool.not_false, Bool.false_eq_true, if_false, if_true] <;> omega
      · rw [decide_eq_false d, cond_false]
        refine ⟨_, _, _, rfl, ⟨by omega, by omega, by omega, by omega⟩, ?_, by omega⟩
        unfold rV
        rw [mm]
        cases n <;> simp only [Bool.not_true, Bool.not_false, Bool.false_eq_true, if_false, if_true] <;> omega
    · rw [decide_eq_false c, cond_false]
      by_cases d : l1 < l2
      · rw [decide_eq_true d, cond_true]
        refine ⟨_, _, _, rfl, ⟨by omega, by omega, by omega, by omega⟩, ?_, by omega⟩
        unfold rV
        cases n <;> simp only [Bool.false_eq_true, if_false, if_true] <;> omega
      · rw [decide_eq_false d, cond_false]
        refine ⟨_, _, _, rfl, ⟨by omega, by omega, by omega, by omega⟩, ?_, by omega⟩
        unfold rV
        cases n <;> simp only [Bool.false_eq_true, if_false, if_true] <;> omega
theorem ref_end (h l : Int) (n hit : Bool) (o : okR h l) : f___astrolaberef2_Acc__end h l n hit = some (sat (rV h l n), hit || over (rV h l n)) := by
  obtain ⟨a1, a2, a3, a4⟩ := o
  unfold f___astrolaberef2_Acc__end K___astrolaberef2_Acc__end rV
  have big : 1152921504606846976 < h * 18446744073709551616 + l → (bif n then some ((-1152921504606846976 : Int), true) else some (1152921504606846976, true)) =
      some (sat (if n = true then -(h * 18446744073709551616 + l) else h * 18446744073709551616 + l), hit || over (if n = true then -(h * 18446744073709551616 + l) else h * 18446744073709551616 + l)) := fun k => by
    unfold sat over
    cases n
    · simp only [Bool.false_eq_true, if_false, cond_false]
      rw [if_neg (by omega), if_pos k, decide_eq_true k, Bool.or_true, Bool.or_true]
    · simp only [if_true, cond_true]
      rw [if_pos (by omega), decide_eq_true (show -(h * 18446744073709551616 + l) < -1152921504606846976 by omega), Bool.true_or, Bool.or_true]
  by_cases c : h > 0
  · rw [decide_eq_true c, cond_true]; exact big (by omega)
  · rw [decide_eq_false c, cond_false]
    by_cases d : l > 1152921504606846976
    · rw [decide_eq_true d, cond_true]; exact big (by omega)
    · rw [decide_eq_false d, cond_false]
      have hz : h = 0 := by omega
      subst hz
      have w : IntKind.wrap .i64 l = l := wrap_i64 (by omega) (by omega)
      rw [Int.zero_mul, Int.zero_add, w]
      cases n
      · have z := sat_id (x := l) (by omega)
        simp only [Bool.false_eq_true, if_false, cond_false, z.1, z.2, Bool.or_false]
      · have z := sat_id (x := -l) (by omega)
        have w2 : IntKind.wrap .i64 (0 - l) = -l := (wrap_i64 (by omega) (by omega)).trans (by omega)
        simp only [if_true, cond_true, z.1, z.2, Bool.or_false, w2]
end Go.Proofs.Ytdpenjncfmkbgaa
