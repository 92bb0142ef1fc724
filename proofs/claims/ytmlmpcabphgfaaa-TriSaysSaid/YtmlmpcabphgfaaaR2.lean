/-
  The second reckoner (astrolaberef2) in plain arithmetic: clamped products, sums of products.
-/
import Derived.Test.YtmlmpcabphgfaaaR1
set_option maxRecDepth 100000
set_option maxHeartbeats 4000000
set_option linter.unusedVariables false
set_option linter.unusedSimpArgs false
namespace Go.Proofs.Ytmlmpcabphgfaaa
open Go.Ab
theorem ref_clamp (a lo hi : Int) (hit : Bool) (h : lo ≤ hi) : f___astrolaberef2_Acc__Clamp a lo hi hit = some (if a < lo then lo else if hi < a then hi else a, hit || (decide (a < lo) || decide (hi < a))) := by
  unfold f___astrolaberef2_Acc__Clamp K___astrolaberef2_Acc__Clamp
  by_cases c : a < lo
  · have e : (lo != a) = true := by rw [bne_iff_ne]; omega
    rw [decide_eq_true c, cond_true, e, cond_true, if_pos c, Bool.true_or, Bool.or_true]
  · rw [decide_eq_false c, cond_false, decide_eq_false (show ¬ lo > hi by omega), cond_false, if_neg c, Bool.false_or]
    by_cases d : hi < a
    · have e : (hi != a) = true := by rw [bne_iff_ne]; omega
      rw [decide_eq_true (show a > hi from d), cond_true, e, cond_true, if_pos d, Bool.or_true]
    · rw [decide_eq_false (show ¬ a > hi from d), cond_false, bne_self_eq_false, cond_false, cond_false, if_neg d, Bool.or_false]
theorem ref_sat (x : Int) (hit : Bool) : f___astrolaberef2_Acc__Sat x hit = some (sat x, hit || over x) := by
  unfold f___astrolaberef2_Acc__Sat K___astrolaberef2_Acc__Sat
  rw [ref_clamp x _ _ hit (by omega), Option.bind_some]
  rfl
theorem ref_size (a : Int) (h0 : -1152921504606846976 ≤ a) (h1 : a ≤ 1152921504606846976) : f_astrolaberef2_size a = some (if a < 0 then -a else a) := by
  unfold f_astrolaberef2_size K_astrolaberef2_size
  by_cases c : a < 0
  · rw [decide_eq_true c, cond_true, if_pos c, wrap_i64 (by omega) (by omega), wrap_u64]
    congr 1; omega
  · rw [decide_eq_false c, cond_false, if_neg c, wrap_u64]
    congr 1; omega
theorem ref_product (x y : Int) (x0 : 0 ≤ x) (x1 : x < 18446744073709551616) (y0 : 0 ≤ y) (y1 : y < 18446744073709551616) : f_astrolaberef2_product x y = some (x * y / 18446744073709551616, x * y % 18446744073709551616) := by
  unfold f_astrolaberef2_product K_astrolaberef2_product
  rw [and_mask x x0 x1, and_mask y y0 y1]
  simp only [fdiv_pos _ 4294967296 (by decide), wrap_u64]
  have xe : x = x / 4294967296 * 4294967296 + x % 4294967296 := by omega
  have ye : y = y / 4294967296 * 4294967296 + y % 4294967296 := by omega
  have xh : 0 ≤ x / 4294967296 ∧ x / 4294967296 ≤ 4294967295 := by omega
  have yh : 0 ≤ y / 4294967296 ∧ y / 4294967296 ≤ 4294967295 := by omega
  have xl : 0 ≤ x % 4294967296 ∧ x % 4294967296 ≤ 4294967295 := by omega
  have yl : 0 ≤ y % 4294967296 ∧ y % 4294967296 ≤ 4294967295 := by omega
  have hxy : x * y = (x / 4294967296) * (y / 4294967296) * 18446744073709551616 + ((x / 4294967296) * (y % 4294967296) + (x % 4294967296) * (y / 4294967296)) * 4294967296 + (x % 4294967296) * (y % 4294967296) := by
    conv => lhs; rw [xe, ye]
    grind
  obtain ⟨A0, A1⟩ := mul_lt32 xh.1 xh.2 yh.1 yh.2
  obtain ⟨B0, B1⟩ := mul_lt32 xh.1 xh.2 yl.1 yl.2
  obtain ⟨C0, C1⟩ := mul_lt32 xl.1 xl.2 yh.1 yh.2
  obtain ⟨D0, D1⟩ := mul_lt32 xl.1 xl.2 yl.1 yl.2
  simp only [Int.emod_eq_of_lt xl.1 (show x % 4294967296 < 18446744073709551616 by omega), Int.emod_eq_of_lt yl.1 (show y % 4294967296 < 18446744073709551616 by omega)]
  rw [hxy]
  generalize x / 4294967296 * (y / 4294967296) = A at *
  generalize x / 4294967296 * (y % 4294967296) = B at *
  generalize x % 4294967296 * (y / 4294967296) = C at *
  generalize x % 4294967296 * (y % 4294967296) = D at *
  have r1 : A % 18446744073709551616 = A := Int.emod_eq_of_lt A0 (by omega)
  have r2 : B % 18446744073709551616 = B := Int.emod_eq_of_lt B0 (by omega)
  have r3 : C % 18446744073709551616 = C := Int.emod_eq_of_lt C0 (by omega)
  have r4 : D % 18446744073709551616 = D := Int.emod_eq_of_lt D0 (by omega)
  simp only [r1, r2, r3, r4]
  have r5 : (B + D / 4294967296) % 18446744073709551616 = B + D / 4294967296 := Int.emod_eq_of_lt (by omega) (by omega)
  simp only [r5]
  rw [and_mask (B + D / 4294967296) (by omega) (by omega), and_mask D D0 (by omega)]
  have r6 : (B + D / 4294967296) % 4294967296 % 18446744073709551616 = (B + D / 4294967296) % 4294967296 := Int.emod_eq_of_lt (by omega) (by omega)
  have r8 : D % 4294967296 % 18446744073709551616 = D % 4294967296 := Int.emod_eq_of_lt (by omega) (by omega)
  simp only [r6, r8]
  have r7 : (C + (B + D / 4294967296) % 4294967296) % 18446744073709551616 = C + (B + D / 4294967296) % 4294967296 := Int.emod_eq_of_lt (by omega) (by omega)
  simp only [r7]
  have z0 : 0 ≤ (C + (B + D / 4294967296) % 4294967296) * 4294967296 % 18446744073709551616 := by omega
  have key : Int.ofNat (BitVec.toNat (BitVec.ofInt 64 ((C + (B + D / 4294967296) % 4294967296) * 4294967296 % 18446744073709551616) ||| BitVec.ofInt 64 (D % 4294967296))) = D % 4294967296 + (C + (B + D / 4294967296) % 4294967296) * 4294967296 % 18446744073709551616 := by
    rw [BitVec.or_comm]
    refine or_apart _ _ 32 (by omega) ?_ z0 (by omega) (by omega) ?_
    · rw [show (2 : Int) ^ 32 = 4294967296 from rfl]; omega
    · rw [show (2 : Int) ^ 32 = 4294967296 from rfl]; omega
  rw [key]
  refine congrArg some (Prod.ext ?_ ?_)
  · simp only; omega
  · simp only; omega
abbrev okR (h l : Int) : Prop := 0 ≤ h ∧ h < 18446744073709551616 ∧ 0 ≤ l ∧ l < 18446744073709551616
/-- a number by its size and its sign -/
def rV (h l : Int) (n : Bool) : Int := if n = true then -(h * 18446744073709551616 + l) else h * 18446744073709551616 + l
theorem ref_mul (a b : Int) (a0 : -1152921504606846976 ≤ a ∧ a ≤ 1152921504606846976) (b0 : -1152921504606846976 ≤ b ∧ b ≤ 1152921504606846976) :
    ∃ h l n, f_astrolaberef2_mul a b = some (h, l, n) ∧ okR h l ∧ rV h l n = a * b ∧ h * 18446744073709551616 + l ≤ 1329227995784915872903807060280344576 := by
  unfold f_astrolaberef2_mul K_astrolaberef2_mul
  rw [ref_size a a0.1 a0.2, Option.bind_some, ref_size b b0.1 b0.2, Option.bind_some]
  generalize hx : (if a < 0 then -a else a) = x
  generalize hy : (if b < 0 then -b else b) = y
  have x0 : 0 ≤ x ∧ x ≤ 1152921504606846976 := by split at hx <;> omega
  have y0 : 0 ≤ y ∧ y ≤ 1152921504606846976 := by split at hy <;> omega
  have p0 : 0 ≤ x * y := Int.mul_nonneg x0.1 y0.1
  have p1 : x * y ≤ 1329227995784915872903807060280344576 := by
    have := Int.mul_le_mul x0.2 y0.2 y0.1 (by omega)
    omega
  rw [ref_product x y x0.1 (by omega) y0.1 (by omega), Option.bind_some]
  have e4 : x * y / 18446744073709551616 * 18446744073709551616 + x * y % 18446744073709551616 = x * y := by omega
  refine ⟨_, _, _, rfl, ⟨by omega, by omega, by omega, by omega⟩, ?_, by rw [e4]; exact p1⟩
  unfold rV
  rw [e4]
  by_cases p : a < 0
  · by_cases q : b < 0
    · rw [if_pos p] at hx
      rw [if_pos q] at hy
      rw [decide_eq_true p, decide_eq_true q, if_neg (by decide), ← hx, ← hy, Int.neg_mul_neg]
    · rw [if_pos p] at hx
      rw [if_neg q] at hy
      rw [decide_eq_true p, decide_eq_false q, if_pos (by decide), ← hx, ← hy, Int.neg_mul, Int.neg_neg]
  · by_cases q : b < 0
    · rw [if_neg p] at hx
      rw [if_pos q] at hy
      rw [decide_eq_false p, decide_eq_true q, if_pos (by decide), ← hx, ← hy, Int.mul_neg, Int.neg_neg]
    · rw [if_neg p] at hx
      rw [if_neg q] at hy
      rw [decide_eq_false p, decide_eq_false q, if_neg (by decide), ← hx, ← hy]
theorem ref_less (a b c d : Int) (n m : Bool) (b0 : 0 ≤ b) (b1 : b < 18446744073709551616) (d0 : 0 ≤ d) (d1 : d < 18446744073709551616) :
    f_astrolaberef2_less a b n c d m = some (decide (a * 18446744073709551616 + b < c * 18446744073709551616 + d)) := by
  unfold f_astrolaberef2_less K_astrolaberef2_less
  by_cases h : a < c
  · have : a * 18446744073709551616 + b < c * 18446744073709551616 + d := by omega
    rw [decide_eq_true h, cond_true, decide_eq_true this]
  · rw [decide_eq_false h, cond_false]
    by_cases e : a = c
    · subst e
      rw [beq_self_eq_true, cond_true]
      congr 1
      by_cases k : b < d
      · rw [decide_eq_true k, decide_eq_true (by omega)]
      · rw [decide_eq_false k, decide_eq_false (by omega)]
    · have : ¬ a * 18446744073709551616 + b < c * 18446744073709551616 + d := by omega
      have e' : (a == c) = false := by rw [beq_eq_false_iff_ne]; exact e
      rw [e', cond_false, decide_eq_false this]
theorem ref_plus (h1 l1 h2 l2 : Int) (n : Bool) (o1 : okR h1 l1) (o2 : okR h2 l2) (b : h1 * 18446744073709551616 + l1 + (h2 * 18446744073709551616 + l2) < 340282366920938463463374607431768211456) :
    ∃ h l, f_astrolaberef2_add h1 l1 n h2 l2 n = some (h, l, n) ∧ okR h l ∧ h * 18446744073709551616 + l = h1 * 18446744073709551616 + l1 + (h2 * 18446744073709551616 + l2) := by
  unfold f_astrolaberef2_add K_astrolaberef2_add
  obtain ⟨a1, a2, a3, a4⟩ := o1
  obtain ⟨b1, b2, b3, b4⟩ := o2
  simp only [beq_self_eq_true, cond_true, wrap_u64]
  by_cases c : (l1 + l2) % 18446744073709551616 < l1
  · rw [decide_eq_true c, cond_true]
    exact ⟨_, _, rfl, ⟨by omega, by omega, by omega, by omega⟩, by omega⟩
  · rw [decide_eq_false c, cond_false]
    exact ⟨_, _, rfl, ⟨by omega, by omega, by omega, by omega⟩, by omega⟩
theorem ref_sum (h1 l1 h2 l2 : Int) (n m : Bool) (o1 : okR h1 l1) (o2 : okR h2 l2) (b : h1 * 18446744073709551616 + l1 + (h2 * 18446744073709551616 + l2) < 340282366920938463463374607431768211456) :
    ∃ h l k, f_astrolaberef2_add h1 l1 n h2 l2 m = some (h, l, k) ∧ okR h l ∧ rV h l k = rV h1 l1 n + rV h2 l2 m ∧ h * 18446744073709551616 + l ≤ h1 * 18446744073709551616 + l1 + (h2 * 18446744073709551616 + l2) := by
  by_cases s : n = m
  · subst s
    obtain ⟨h, l, e, o, v⟩ := ref_plus h1 l1 h2 l2 n o1 o2 b
    refine ⟨h, l, n, e, o, ?_, by omega⟩
    unfold rV
    cases n <;> simp only [Bool.false_eq_true, if_false, if_true] <;> omega
  · have e : (n == m) = false := by rw [beq_eq_false_iff_ne]; exact s
    obtain ⟨a1, a2, a3, a4⟩ := o1
    obtain ⟨b1, b2, b3, b4⟩ := o2
    unfold f_astrolaberef2_add K_astrolaberef2_add
    rw [e, cond_false, ref_less h1 l1 h2 l2 n m a3 a4 b3 b4, Option.bind_some]
    simp only [wrap_u64]
    have sg : rV h1 l1 n + rV h2 l2 m = if n = true then (h2 * 18446744073709551616 + l2) - (h1 * 18446744073709551616 + l1) else (h1 * 18446744073709551616 + l1) - (h2 * 18446744073709551616 + l2) := by
      unfold rV
      cases n <;> cases m <;> simp_all <;> omega
    have mm : m = !n := by cases n <;> cases m <;> simp_all
    rw [sg]
    by_cases c : h1 * 18446744073709551616 + l1 < h2 * 18446744073709551616 + l2
    · rw [decide_eq_true c, cond_true]
      by_cases d : l2 < l1
      · rw [decide_eq_true d, cond_true]
        refine ⟨_, _, _, rfl, ⟨by omega, by omega, by omega, by omega⟩, ?_, by omega⟩
        unfold rV
        rw [mm]
        cases n <;> simp only [Bool.not_true, Bool.not_false, Bool.false_eq_true, if_false, if_true] <;> omega
      · rw [decide_eq_false d, cond_false]
        refine ⟨_, _, _, rfl, ⟨by omega, by omega, by omega, by omega⟩, ?_, by omega⟩
        unfold rV
        rw [mm]
        cases n <;> simp only [Bool.not_true, Bool.not_false, Bool.false_eq_true, if_false, if_true] <;> omega
    · rw [decide_eq_false c, cond_false]
      by_cases d : l1 < l2
      · rw [decide_eq_true d, cond_true]
        refine ⟨_, _, _, rfl, ⟨by omega, by omega, by omega, by omega⟩, ?_, by omega⟩
        unfold rV
        cases n <;> simp only [Bool.false_eq_true, if_false, if_true] <;> omega
      · rw [decide_eq_false d, cond_false]
        refine ⟨_, _, _, rfl, ⟨by omega, by omega, by omega, by omega⟩, ?_, by omega⟩
        unfold rV
        cases n <;> simp only [Bool.false_eq_true, if_false, if_true] <;> omega
theorem ref_end (h l : Int) (n hit : Bool) (o : okR h l) : f___astrolaberef2_Acc__end h l n hit = some (sat (rV h l n), hit || over (rV h l n)) := by
  obtain ⟨a1, a2, a3, a4⟩ := o
  unfold f___astrolaberef2_Acc__end K___astrolaberef2_Acc__end rV
  have big : 1152921504606846976 < h * 18446744073709551616 + l → (bif n then some ((-1152921504606846976 : Int), true) else some (1152921504606846976, true)) =
      some (sat (if n = true then -(h * 18446744073709551616 + l) else h * 18446744073709551616 + l), hit || over (if n = true then -(h * 18446744073709551616 + l) else h * 18446744073709551616 + l)) := fun k => by
    unfold sat over
    cases n
    · simp only [Bool.false_eq_true, if_false, cond_false]
      rw [if_neg (by omega), if_pos k, decide_eq_true k, Bool.or_true, Bool.or_true]
    · simp only [if_true, cond_true]
      rw [if_pos (by omega), decide_eq_true (show -(h * 18446744073709551616 + l) < -1152921504606846976 by omega), Bool.true_or, Bool.or_true]
  by_cases c : h > 0
  · rw [decide_eq_true c, cond_true]; exact big (by omega)
  · rw [decide_eq_false c, cond_false]
    by_cases d : l > 1152921504606846976
    · rw [decide_eq_true d, cond_true]; exact big (by omega)
    · rw [decide_eq_false d, cond_false]
      have hz : h = 0 := by omega
      subst hz
      have w : IntKind.wrap .i64 l = l := wrap_i64 (by omega) (by omega)
      rw [Int.zero_mul, Int.zero_add, w]
      cases n
      · have z := sat_id (x := l) (by omega)
        simp only [Bool.false_eq_true, if_false, cond_false, z.1, z.2, Bool.or_false]
      · have z := sat_id (x := -l) (by omega)
        have w2 : IntKind.wrap .i64 (0 - l) = -l := (wrap_i64 (by omega) (by omega)).trans (by omega)
        simp only [if_true, cond_true, z.1, z.2, Bool.or_false, w2]
/-- what stays of a size, rounded -/
theorem ref_shifted (h l : Int) (n : Bool) (s : Nat) (hs : s ≤ 120) (o : okR h l) (b : h * 18446744073709551616 + l < 170141183460469231731687303715884105728) :
    ∃ h' l', f_astrolaberef2_shifted h l n (Int.ofNat s) = some (h', l', n) ∧ okR h' l' ∧ rV h' l' n = rnd (rV h l n) s := by
  have val : ∀ V W : Int, 0 ≤ V → W = (V + half s) / 2 ^ s → (if n = true then -W else W) = rnd (if n = true then -V else V) s := fun V W v0 hw => by
    have h0 := (half_le s (by omega)).1
    unfold rnd
    cases n
    · simp only [Bool.false_eq_true, if_false]
      rw [if_neg (by omega), hw]
    · simp only [if_true]
      by_cases z : V = 0
      · subst z
        rw [if_neg (by omega), hw]
        have hz : half s / 2 ^ s = 0 := by
          refine Int.ediv_eq_zero_of_lt h0 ?_
          unfold half
          split
          · exact pow_pos' _
          · rename_i c
            have e : (2 : Int) ^ s = 2 ^ (s - 1) * 2 := by rw [← Int.pow_succ]; congr 1; omega
            have p := pow_pos' (s - 1)
            omega
        rw [Int.zero_add, hz, Int.neg_zero, Int.zero_add, hz]
      · rw [if_pos (by omega), hw, Int.neg_neg]
  obtain ⟨hh0, hh1⟩ := half_le s (by omega)
  unfold f_astrolaberef2_shifted K_astrolaberef2_shifted
  by_cases z : s = 0
  · subst z
    have e : (Int.ofNat 0 == 0) = true := rfl
    rw [e, cond_true]
    refine ⟨h, l, rfl, o, ?_⟩
    rw [rnd_zero]
  have e : (Int.ofNat s == 0) = false := by rw [beq_eq_false_iff_ne]; simp only [Int.ofNat_eq_natCast, ne_eq]; omega
  rw [e, cond_false]
  have hf : half s = 2 ^ (s - 1) := by unfold half; rw [if_neg z]
  have u : ∀ k : Nat, k ≤ 200 → IntKind.wrap .u64 (k : Int) = (k : Int) := fun k hk => by rw [wrap_u64]; omega
  have nn : ∀ k : Nat, (!decide ((k : Int) < 0)) = true := fun k => by rw [decide_eq_false (by omega)]; rfl
  -- behind the half
  have fin : ∀ h2 l2 : Int, okR h2 l2 → h2 * 18446744073709551616 + l2 = h * 18446744073709551616 + l + half s →
      ∃ h' l', (bif decide (Int.ofNat s ≥ 64) then
            bif !decide (IntKind.wrap IntKind.u64 (IntKind.wrap IntKind.i64 (Int.ofNat s - 64)) < 0) then
              some ((0 : Int), Int.fdiv h2 (2 ^ min (Int.toNat (IntKind.wrap IntKind.u64 (IntKind.wrap IntKind.i64 (Int.ofNat s - 64)))) 64), n)
            else none
          else
            bif !decide (IntKind.wrap IntKind.u64 (Int.ofNat s) < 0) then
              bif !decide (IntKind.wrap IntKind.u64 (Int.ofNat s) < 0) then
                bif !decide (IntKind.wrap IntKind.u64 (IntKind.wrap IntKind.i64 (64 - Int.ofNat s)) < 0) then
                  some
                    (Int.fdiv h2 (2 ^ min (Int.toNat (IntKind.wrap IntKind.u64 (Int.ofNat s))) 64),
                      IntKind.wrap IntKind.u64
                        (Int.ofNat
                          (BitVec.toNat
                            (BitVec.ofInt 64 (Int.fdiv l2 (2 ^ min (Int.toNat (IntKind.wrap IntKind.u64 (Int.ofNat s))) 64)) |||
                              BitVec.ofInt 64 (IntKind.wrap IntKind.u64 (h2 * 2 ^ min (Int.toNat (IntKind.wrap IntKind.u64 (IntKind.wrap IntKind.i64 (64 - Int.ofNat s)))) 64))))),
                      n)
                else none
              else none
            else none) = some (h', l', n) ∧ okR h' l' ∧ rV h' l' n = rnd (rV h l n) s := fun h2 l2 o2 hv => by
    obtain ⟨a1, a2, a3, a4⟩ := o
    obtain ⟨c1, c2, c3, c4⟩ := o2
    by_cases c : 64 ≤ s
    · have w1 : IntKind.wrap .i64 (Int.ofNat s - 64) = ((s - 64 : Nat) : Int) := (wrap_i64 (by simp only [Int.ofNat_eq_natCast]; omega) (by simp only [Int.ofNat_eq_natCast]; omega)).trans (by simp only [Int.ofNat_eq_natCast]; omega)
      have w2 : min (Int.toNat ((s - 64 : Nat) : Int)) 64 = s - 64 := by rw [Int.toNat_natCast]; omega
      rw [decide_eq_true (show Int.ofNat s ≥ 64 by simp only [Int.ofNat_eq_natCast]; omega), cond_true, w1, u (s - 64) (by omega), nn, cond_true, w2, fdiv_pos _ _ (Int.le_of_lt (pow_pos' _))]
      have P0 := pow_pos' (s - 64)
      have d0 := Int.ediv_nonneg c1 (Int.le_of_lt P0)
      have d1 := Int.ediv_le_self (2 ^ (s - 64)) c1
      refine ⟨_, _, rfl, ⟨by omega, by omega, d0, by omega⟩, ?_⟩
      unfold rV
      rw [Int.zero_mul, Int.zero_add]
      refine val (h * 18446744073709551616 + l) (h2 / 2 ^ (s - 64)) (by omega) ?_
      rw [← hv]
      have p : (2 : Int) ^ s = 18446744073709551616 * 2 ^ (s - 64) := by
        rw [show (18446744073709551616 : Int) = 2 ^ 64 from rfl, ← Int.pow_add]
        congr 1; omega
      rw [p, ← Int.ediv_ediv_of_nonneg (by decide)]
      congr 1; omega
    · have w1 : IntKind.wrap .i64 (64 - Int.ofNat s) = ((64 - s : Nat) : Int) := (wrap_i64 (by simp only [Int.ofNat_eq_natCast]; omega) (by simp only [Int.ofNat_eq_natCast]; omega)).trans (by simp only [Int.ofNat_eq_natCast]; omega)
      have w2 : min (Int.toNat ((64 - s : Nat) : Int)) 64 = 64 - s := by rw [Int.toNat_natCast]; omega
      have w3 : min (Int.toNat (s : Int)) 64 = s := by rw [Int.toNat_natCast]; omega
      rw [decide_eq_false (show ¬ Int.ofNat s ≥ 64 by simp only [Int.ofNat_eq_natCast]; omega), cond_false, w1, Int.ofNat_eq_natCast, u s (by omega), u (64 - s) (by omega), nn, nn, cond_true, cond_true, cond_true, w2, w3,
        fdiv_pos _ _ (Int.le_of_lt (pow_pos' _)), fdiv_pos _ _ (Int.le_of_lt (pow_pos' _))]
      have pq : (18446744073709551616 : Int) = 2 ^ s * 2 ^ (64 - s) := by
        rw [← Int.pow_add, show s + (64 - s) = 64 by omega]; rfl
      have P0 := pow_pos' s
      have Q0 := pow_pos' (64 - s)
      have m : IntKind.wrap .u64 (h2 * 2 ^ (64 - s)) = h2 % 2 ^ s * 2 ^ (64 - s) := by
        rw [wrap_u64, pq, Int.mul_comm h2, Int.mul_comm (2 ^ s), Int.mul_emod_mul_of_pos _ _ Q0, Int.mul_comm]
      have x0 : 0 ≤ l2 / 2 ^ s := Int.ediv_nonneg c3 (Int.le_of_lt P0)
      have x1 : l2 / 2 ^ s < 2 ^ (64 - s) := Int.ediv_lt_of_lt_mul P0 (by rw [Int.mul_comm, ← pq]; exact c4)
      have x2 := Int.ediv_le_self (2 ^ s) c3
      have y0 : 0 ≤ h2 % 2 ^ s := Int.emod_nonneg _ (by omega)
      have y1 : h2 % 2 ^ s < 2 ^ s := Int.emod_lt_of_pos _ P0
      have y2 : h2 % 2 ^ s * 2 ^ (64 - s) + 2 ^ (64 - s) ≤ 18446744073709551616 := by
        have : (h2 % 2 ^ s + 1) * 2 ^ (64 - s) ≤ 2 ^ s * 2 ^ (64 - s) := Int.mul_le_mul_of_nonneg_right (by omega) (Int.le_of_lt Q0)
        rw [Int.add_mul, ← pq] at this; omega
      have y3 : 0 ≤ h2 % 2 ^ s * 2 ^ (64 - s) := Int.mul_nonneg y0 (Int.le_of_lt Q0)
      rw [m, or_apart _ _ (64 - s) x0 x1 y3 (by omega) (by omega) (Int.mul_emod_left _ _), wrap_u64, Int.emod_eq_of_lt (by omega) (by omega)]
      have d0 := Int.ediv_nonneg c1 (Int.le_of_lt P0)
      have d1 := Int.ediv_le_self (2 ^ s) c1
      refine ⟨_, _, rfl, ⟨d0, by omega, by omega, by omega⟩, ?_⟩
      unfold rV
      refine val (h * 18446744073709551616 + l) _ (by omega) ?_
      rw [← hv]
      have f1 : (h2 * 18446744073709551616 + l2) / 2 ^ s = h2 * 2 ^ (64 - s) + l2 / 2 ^ s := by
        have : h2 * 18446744073709551616 + l2 = l2 + 2 ^ s * (h2 * 2 ^ (64 - s)) := by rw [pq]; grind
        rw [this, Int.add_mul_ediv_left _ _ (by omega)]; omega
      have f2 : h2 / 2 ^ s * 18446744073709551616 = h2 / 2 ^ s * 2 ^ s * 2 ^ (64 - s) := by rw [pq, Int.mul_assoc]
      have f3 : h2 / 2 ^ s * 2 ^ s + h2 % 2 ^ s = h2 := Int.ediv_mul_add_emod h2 _
      have f4 : (h2 / 2 ^ s * 2 ^ s + h2 % 2 ^ s) * 2 ^ (64 - s) = h2 * 2 ^ (64 - s) := by rw [f3]
      rw [Int.add_mul] at f4
      rw [f1, f2]
      omega
  have w0 : IntKind.wrap .i64 (Int.ofNat s - 1) = ((s - 1 : Nat) : Int) := (wrap_i64 (by simp only [Int.ofNat_eq_natCast]; omega) (by simp only [Int.ofNat_eq_natCast]; omega)).trans (by simp only [Int.ofNat_eq_natCast]; omega)
  rw [w0]
  by_cases c : 65 ≤ s
  · rw [decide_eq_true (show ((s - 1 : Nat) : Int) ≥ 64 by omega), cond_true]
    have w1 : IntKind.wrap .i64 (Int.ofNat s - 65) = ((s - 65 : Nat) : Int) := (wrap_i64 (by simp only [Int.ofNat_eq_natCast]; omega) (by simp only [Int.ofNat_eq_natCast]; omega)).trans (by simp only [Int.ofNat_eq_natCast]; omega)
    have w2 : min (Int.toNat ((s - 65 : Nat) : Int)) 64 = s - 65 := by rw [Int.toNat_natCast]; omega
    rw [w1, u (s - 65) (by omega), nn, cond_true, w2, Int.one_mul]
    have p : (2 : Int) ^ (s - 1) = 2 ^ (s - 65) * 18446744073709551616 := by
      rw [show (18446744073709551616 : Int) = 2 ^ 64 from rfl, ← Int.pow_add]
      congr 1; omega
    have P0 := pow_pos' (s - 65)
    have w3 : IntKind.wrap .u64 (2 ^ (s - 65)) = 2 ^ (s - 65) := by rw [wrap_u64]; omega
    rw [w3]
    obtain ⟨h2, l2, e2, o2, v2⟩ := ref_plus h l (2 ^ (s - 65)) 0 n o ⟨by omega, by omega, by omega, by omega⟩ (by omega)
    rw [e2, Option.bind_some]
    exact fin h2 l2 o2 (by omega)
  · rw [decide_eq_false (show ¬ ((s - 1 : Nat) : Int) ≥ 64 by omega), cond_false]
    have w2 : min (Int.toNat ((s - 1 : Nat) : Int)) 64 = s - 1 := by rw [Int.toNat_natCast]; omega
    rw [u (s - 1) (by omega), nn, cond_true, w2, Int.one_mul]
    have P0 := pow_pos' (s - 1)
    have PB : (2 : Int) ^ (s - 1) ≤ 9223372036854775808 := by
      have h2 : (2 : Nat) ^ (s - 1) ≤ 2 ^ 63 := Nat.pow_le_pow_right (by decide) (by omega)
      have h3 : ((2 ^ (s - 1) : Nat) : Int) ≤ ((2 ^ 63 : Nat) : Int) := by exact_mod_cast h2
      simpa using h3
    have w3 : IntKind.wrap .u64 (2 ^ (s - 1)) = 2 ^ (s - 1) := by rw [wrap_u64]; omega
    rw [w3]
    obtain ⟨h2, l2, e2, o2, v2⟩ := ref_plus h l 0 (2 ^ (s - 1)) n o ⟨by omega, by omega, by omega, by omega⟩ (by omega)
    rw [e2, Option.bind_some]
    exact fin h2 l2 o2 (by omega)
theorem ref_Mul (a b : Int) (s : Nat) (hit : Bool) (hs : s ≤ 120) : f___astrolaberef2_Acc__Mul a b (Int.ofNat s) hit = some (sat (rnd (sat a * sat b) s), hit || over a || over b || over (rnd (sat a * sat b) s)) := by
  unfold f___astrolaberef2_Acc__Mul K___astrolaberef2_Acc__Mul
  obtain ⟨h, l, n, e, o, v, bd⟩ := ref_mul (sat a) (sat b) (sat_le a) (sat_le b)
  obtain ⟨h', l', e', o', v'⟩ := ref_shifted h l n s hs o (by omega)
  simp only [ref_sat, Option.bind_some, e, e', ref_end h' l' n _ o', v', v]
theorem ref_M (a b : Int) (hit : Bool) : f___astrolaberef2_Acc__M a b hit = some (sat (rnd (sat a * sat b) 30), hit || over a || over b || over (rnd (sat a * sat b) 30)) := by
  unfold f___astrolaberef2_Acc__M K___astrolaberef2_Acc__M
  rw [show (30 : Int) = Int.ofNat 30 from rfl, ref_Mul a b 30 hit (by omega), Option.bind_some]
theorem ref_dot (s : Nat) (hs : s ≤ 120) (n : Nat) (hn : n ≤ 100) (hit : Bool) (f g : Nat → Int) (w w' : Bool) :
    f___astrolaberef2_Acc__Dot (Int.ofNat s) n n hit f g w w' = some (sat (rnd (sumF (fun j => sat (f j) * sat (g j)) n) s), (hit || anyF (fun j => over (f j) || over (g j)) n) || over (rnd (sumF (fun j => sat (f j) * sat (g j)) n) s)) := by
  unfold f___astrolaberef2_Acc__Dot K___astrolaberef2_Acc__Dot L___astrolaberef2_Acc__Dot_0
  refine loopK_inv (fun t d => ∃ (i : Nat) (h l' : Int) (k : Bool), i + t = n ∧ okR h l' ∧ h * 18446744073709551616 + l' ≤ i * 1329227995784915872903807060280344576 ∧ rV h l' k = sumF (fun j => sat (f j) * sat (g j)) i ∧ d = (Int.ofNat s, n, w, n, w', Int.ofNat i, (hit || anyF (fun j => over (f j) || over (g j)) i), n, f, n, g, h, l', k)) ?_ 200 n _ (by omega)
    ⟨0, 0, 0, false, by omega, ⟨by omega, by omega, by omega, by omega⟩, by omega, rfl, by simp only [anyF, Bool.or_false]; rfl⟩
  rintro t _ c ⟨i, h, l', k, hi, ho, hb, hv, rfl⟩ hc
  rcases Nat.eq_zero_or_pos t with t0 | t0
  · have e : i = n := by omega
    subst e
    obtain ⟨h', l2, e', o', v'⟩ := ref_shifted h l' k s hs ho (by omega)
    simp only [S___astrolaberef2_Acc__Dot_0, idx_ge (Nat.le_refl i), cond_false, Sum.elim_inr, e', Option.bind_some, ref_end h' l2 k _ o', v', hv]
  · obtain ⟨h1, l1, k1, e1, o1, v1, b1⟩ := ref_mul (sat (f i)) (sat (g i)) (sat_le _) (sat_le _)
    obtain ⟨h2, l2, k2, e2, o2, v2, b2⟩ := ref_sum h l' h1 l1 k k1 ho o1 (by omega)
    rw [hv, v1] at v2
    have q : Int.toNat (Int.ofNat i) = i := rfl
    have z : decide (Int.ofNat i < 100) = true := by simp only [Int.ofNat_eq_natCast]; exact decide_eq_true (by omega)
    simp only [S___astrolaberef2_Acc__Dot_0, idx_lt hi t0, z, idx_in (show i < n by omega), cond_true, q, ref_sat, Option.bind_some, e1, e2, idx_up (show i < 9000000000000000000 by omega)]
    refine hc (t - 1) _ (by omega) ⟨i + 1, h2, l2, k2, by omega, o2, by omega, v2, ?_⟩
    simp only [anyF, Bool.or_assoc]
end Go.Proofs.Ytmlmpcabphgfaaa
