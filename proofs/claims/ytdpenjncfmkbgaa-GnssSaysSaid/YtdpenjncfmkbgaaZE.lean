/-
  Numbers of 128 bits and clamped scalars in plain arithmetic. Products and sums of clamped scalars in plain arithmetic. Numbers of 128 bits: compared, turned, shifted, in plain arithmetic. The quotient of 128 bits by 64, digit by digit, in plain arithmetic. Quotients of 128 bits, rounded, and clamped, in plain arithmetic. The second reckoner's long division: a size of 128 bits by one of 63, to the nearest, halves up. The second reckoner (astrolaberef2) in plain arithmetic: clamped products, sums of products. The second reckoner's product by a divisor: what the first one's is.
-/
import Derived.Test.YtdpenjncfmkbgaaZB
import Derived.Test.YtdpenjncfmkbgaaAbInv
import Derived.Test.YtdpenjncfmkbgaaZC
set_option linter.unusedVariables false
set_option linter.unusedSimpArgs false
set_option maxRecDepth 100000
set_option maxHeartbeats 4000000
set_option linter.unusedVariables false
set_option linter.unusedSimpArgs false
namespace Go.Ab
theorem wrap_i64_eq (n : Int) : IntKind.wrap .i64 n = if 9223372036854775808 ≤ n % 18446744073709551616 then n % 18446744073709551616 - 18446744073709551616 else n % 18446744073709551616 := by
  unfold IntKind.wrap
  simp only [IntKind.signed, IntKind.bits, Bool.true_and, decide_eq_true_eq, show (2 : Int) ^ 64 = 18446744073709551616 from rfl, show (2 : Int) ^ (64 - 1) = 9223372036854775808 from rfl, ge_iff_le]
theorem fdiv_pos (a b : Int) (h : 0 ≤ b) : Int.fdiv a b = a / b := Int.fdiv_eq_ediv_of_nonneg a h
theorem ofInt_toNat (x : Int) (h0 : 0 ≤ x) (h1 : x < 18446744073709551616) : (BitVec.ofInt 64 x).toNat = x.toNat := by
  rw [BitVec.toNat_ofInt]
  congr 1
  simp only [Nat.reducePow, Int.cast_ofNat_Int]
  omega
theorem xor_all (x : Int) (h0 : 0 ≤ x) (h1 : x < 18446744073709551616) : Int.ofNat (BitVec.toNat (BitVec.ofInt 64 18446744073709551615 ^^^ BitVec.ofInt 64 x)) = 18446744073709551615 - x := by
  have e : BitVec.ofInt 64 18446744073709551615 = BitVec.allOnes 64 := by decide
  rw [e, BitVec.allOnes_xor, BitVec.toNat_not, ofInt_toNat x h0 h1]
  simp only [Int.ofNat_eq_natCast]
  omega
theorem and_mask (x : Int) (h0 : 0 ≤ x) (h1 : x < 18446744073709551616) : Int.ofNat (BitVec.toNat (BitVec.ofInt 64 x &&& BitVec.ofInt 64 4294967295)) = x % 4294967296 := by
  rw [BitVec.toNat_and, ofInt_toNat x h0 h1]
  have e : (BitVec.ofInt 64 4294967295).toNat = 2 ^ 32 - 1 := by decide
  rw [e, Nat.and_two_pow_sub_one_eq_mod]
  simp only [Int.ofNat_eq_natCast]
  omega
theorem or_apart (x y : Int) (k : Nat) (h0 : 0 ≤ x) (h1 : x < 2 ^ k) (h2 : 0 ≤ y) (h3 : y < 18446744073709551616) (h4 : x < 18446744073709551616) (h5 : y % 2 ^ k = 0) :
    Int.ofNat (BitVec.toNat (BitVec.ofInt 64 x ||| BitVec.ofInt 64 y)) = x + y := by
  rw [BitVec.toNat_or, ofInt_toNat x h0 h4, ofInt_toNat y h2 h3]
  obtain ⟨q, hq⟩ : ∃ q : Nat, y.toNat = 2 ^ k * q := by
    refine ⟨y.toNat / 2 ^ k, ?_⟩
    have : y.toNat % 2 ^ k = 0 := by
      have e : ((y.toNat % 2 ^ k : Nat) : Int) = y % 2 ^ k := by
        rw [Int.natCast_emod, Int.toNat_of_nonneg h2]
        simp
      omega
    exact (Nat.mul_div_cancel' (Nat.dvd_of_mod_eq_zero this)).symm
  have hx : x.toNat < 2 ^ k := by
    have e : ((2 ^ k : Nat) : Int) = (2 : Int) ^ k := by simp
    omega
  rw [hq, Nat.or_comm, ← Nat.two_pow_add_eq_or_of_lt hx, ← hq]
  simp only [Int.ofNat_eq_natCast]
  omega
end Go.Ab
namespace Go.Proofs.Ytdpenjncfmkbgaa
open Go.Ab
abbrev okW (h l : Int) : Prop := -9223372036854775808 ≤ h ∧ h ≤ 9223372036854775807 ∧ 0 ≤ l ∧ l < 18446744073709551616
abbrev vW (h l : Int) : Int := h * 18446744073709551616 + l
theorem wide_of (x : Int) (h0 : -9223372036854775808 ≤ x) (h1 : x ≤ 9223372036854775807) : ∃ h l, f_BJ x = some (h, l) ∧ okW h l ∧ vW h l = x := by
  unfold vW
  refine ⟨_, _, rfl, ?_, ?_⟩ <;> rw [wrap_u64, fdiv_pos _ _ (by omega)] <;> omega
theorem add64_eq (x y c : Int) (x0 : 0 ≤ x) (y0 : 0 ≤ y) (c0 : 0 ≤ c) (c1 : c ≤ 1) : f_Add64 x y c = some ((x + y + c) % 18446744073709551616, (x + y + c) / 18446744073709551616) := by
  unfold f_Add64
  have h : Nat.ble c.toNat 1 = true := Nat.ble_eq_true_of_le (by omega)
  rw [h, cond_true]
  congr 1
  unfold addA addB
  simp only [Int.ofNat_eq_natCast, Prod.mk.injEq]
  constructor <;> omega
theorem wide_add (h1 l1 h2 l2 : Int) (o1 : okW h1 l1) (o2 : okW h2 l2) : ∃ h l b, f_BD h1 l1 h2 l2 = some (h, l, b) ∧ okW h l ∧ (b = true ↔ -170141183460469231731687303715884105728 ≤ vW h1 l1 + vW h2 l2 ∧ vW h1 l1 + vW h2 l2 < 170141183460469231731687303715884105728) ∧ (b = true → vW h l = vW h1 l1 + vW h2 l2) := by
  obtain ⟨a1, a2, a3, a4⟩ := o1
  obtain ⟨b1, b2, b3, b4⟩ := o2
  unfold vW
  unfold f_BD K_BD
  rw [add64_eq l1 l2 0 a3 b3 (by omega) (by omega)]
  simp only [Option.bind_some, wrap_u64]
  rw [add64_eq _ _ _ (by omega) (by omega) (by omega) (by omega)]
  simp only [Option.bind_some]
  generalize hc : (l1 + l2 + 0) / 18446744073709551616 = c
  generalize hl : (l1 + l2 + 0) % 18446744073709551616 = l
  generalize hm : (h1 % 18446744073709551616 + h2 % 18446744073709551616 + c) % 18446744073709551616 = m
  have hw := wrap_i64_eq m
  generalize IntKind.wrap IntKind.i64 m = w at *
  have hw1 : w = m ∨ w = m - 18446744073709551616 := by split at hw <;> omega
  have hw2 : -9223372036854775808 ≤ w ∧ w ≤ 9223372036854775807 := by split at hw <;> omega
  by_cases n1 : h1 < 0
  · by_cases n2 : h2 < 0
    · have e : (!decide (h1 < 0) == decide (h2 < 0)) = false := by simp [n1, n2]
      simp only [e, cond_false]
      refine ⟨w, l, _, rfl, ⟨hw2.1, hw2.2, by omega, by omega⟩, ?_, ?_⟩
      · simp only [n1, decide_true, beq_true, decide_eq_true_eq]
        constructor <;> intro h <;> omega
      · simp only [n1, decide_true, beq_true, decide_eq_true_eq]
        intro h; omega
    · have e : (!decide (h1 < 0) == decide (h2 < 0)) = true := by simp [n1, n2]
      simp only [e, cond_true]
      refine ⟨w, l, _, rfl, ⟨hw2.1, hw2.2, by omega, by omega⟩, ?_, ?_⟩
      · simp only [true_iff]; constructor <;> omega
      · intro h; omega
  · by_cases n2 : h2 < 0
    · have e : (!decide (h1 < 0) == decide (h2 < 0)) = true := by simp [n1, n2]
      simp only [e, cond_true]
      refine ⟨w, l, _, rfl, ⟨hw2.1, hw2.2, by omega, by omega⟩, ?_, ?_⟩
      · simp only [true_iff]; constructor <;> omega
      · intro h; omega
    · have e : (!decide (h1 < 0) == decide (h2 < 0)) = false := by simp [n1, n2]
      simp only [e, cond_false]
      refine ⟨w, l, _, rfl, ⟨hw2.1, hw2.2, by omega, by omega⟩, ?_, ?_⟩
      · simp only [n1, decide_false, _root_.beq_false, Bool.not_eq_true', decide_eq_false_iff_not]
        constructor <;> intro h <;> omega
      · simp only [n1, decide_false, _root_.beq_false, Bool.not_eq_true', decide_eq_false_iff_not]
        intro h; omega
theorem wide_abs (h l : Int) (o : okW h l) : ∃ ah al, f_BB h l = some (ah, al, decide (h < 0)) ∧ 0 ≤ ah ∧ ah ≤ 9223372036854775808 ∧ 0 ≤ al ∧ al < 18446744073709551616 ∧ ah * 18446744073709551616 + al = (if h < 0 then -vW h l else vW h l) := by
  obtain ⟨a1, a2, a3, a4⟩ := o
  unfold vW
  unfold f_BB K_BB
  by_cases n : h < 0
  · have e : decide (h ≥ 0) = false := decide_eq_false (by omega)
    simp only [e, cond_false, xor_all l a3 a4, wrap_u64]
    rw [xor_all (h % 18446744073709551616) (by omega) (by omega), add64_eq _ _ _ (by omega) (by omega) (by omega) (by omega)]
    simp only [Option.bind_some, n, decide_true, if_true]
    refine ⟨_, _, rfl, ?_, ?_, ?_, ?_, ?_⟩ <;> omega
  · have e : decide (h ≥ 0) = true := decide_eq_true (by omega)
    simp only [e, cond_true, wrap_u64, n, decide_false, if_false]
    refine ⟨_, _, rfl, ?_, ?_, ?_, ?_, ?_⟩ <;> omega
theorem big_plus (h1 l1 h2 l2 : Int) (a0 : 0 ≤ h1) (b0 : 0 ≤ l1) (c0 : 0 ≤ h2) (d0 : 0 ≤ l2) (b1 : l1 < 18446744073709551616) (d1 : l2 < 18446744073709551616) :
    f_AN h1 l1 h2 l2 = some ((h1 + h2 + (l1 + l2) / 18446744073709551616) % 18446744073709551616, (l1 + l2) % 18446744073709551616) := by
  unfold f_AN K_AN
  rw [add64_eq _ _ _ b0 d0 (by omega) (by omega)]
  simp only [Option.bind_some, Int.add_zero]
  rw [add64_eq _ _ _ a0 c0 (by omega) (by omega)]
  rfl
theorem shl_one (n : Nat) (hn : n < 126) : f_AO 0 1 (Int.ofNat n) = some (2 ^ n / 18446744073709551616, 2 ^ n % 18446744073709551616) := by
  have key : ∀ n : Fin 126, f_AO 0 1 (Int.ofNat n.val) = some ((2 : Int) ^ n.val / 18446744073709551616, (2 : Int) ^ n.val % 18446744073709551616) := by decide +kernel
  exact key ⟨n, hn⟩
theorem pow_pos' (n : Nat) : (0 : Int) < 2 ^ n := Int.pow_pos (by decide)
theorem big_shr (h l : Int) (s : Nat) (hs : s ≤ 126) (h0 : 0 ≤ h) (h1 : h < 18446744073709551616) (l0 : 0 ≤ l) (l1 : l < 18446744073709551616) :
    ∃ h' l', f_AM h l (Int.ofNat s) = some (h', l') ∧ 0 ≤ h' ∧ 0 ≤ l' ∧ l' < 18446744073709551616 ∧ h' * 18446744073709551616 + l' = (h * 18446744073709551616 + l) / 2 ^ s := by
  unfold f_AM K_AM
  by_cases c : 64 ≤ s
  · have e : decide (Int.ofNat s ≥ 64) = true := by simp only [Int.ofNat_eq_natCast]; exact decide_eq_true (by omega)
    have e2 : IntKind.wrap .i64 (Int.ofNat s - 64) = Int.ofNat (s - 64) := (wrap_i64 (by simp only [Int.ofNat_eq_natCast]; omega) (by simp only [Int.ofNat_eq_natCast]; omega)).trans (by simp only [Int.ofNat_eq_natCast]; omega)
    have e3 : (!decide (Int.ofNat (s - 64) < 0)) = true := by simp
    have e4 : min (Int.toNat (Int.ofNat (s - 64))) 64 = s - 64 := by
      show min (s - 64) 64 = s - 64
      omega
    simp only [e, e2, e3, e4, cond_true]
    rw [fdiv_pos _ _ (Int.le_of_lt (pow_pos' _))]
    refine ⟨_, _, rfl, by omega, Int.ediv_nonneg h0 (Int.le_of_lt (pow_pos' _)), Int.lt_of_le_of_lt (Int.ediv_le_self _ h0) h1, ?_⟩
    have p : (2 : Int) ^ s = 18446744073709551616 * 2 ^ (s - 64) := by
      rw [show (18446744073709551616 : Int) = 2 ^ 64 from rfl, ← Int.pow_add]
      congr 1; omega
    rw [p, ← Int.ediv_ediv_of_nonneg (by decide)]
    have : (h * 18446744073709551616 + l) / 18446744073709551616 = h := by omega
    rw [this]; omega
  · have e : decide (Int.ofNat s ≥ 64) = false := by simp only [Int.ofNat_eq_natCast]; exact decide_eq_false (by omega)
    have e2 : IntKind.wrap .i64 (64 - Int.ofNat s) = Int.ofNat (64 - s) := (wrap_i64 (by simp only [Int.ofNat_eq_natCast]; omega) (by simp only [Int.ofNat_eq_natCast]; omega)).trans (by simp only [Int.ofNat_eq_natCast]; omega)
    have e3 : ∀ n, (!decide (Int.ofNat n < 0)) = true := by simp
    have e4 : min (Int.toNat (Int.ofNat (64 - s))) 64 = 64 - s := by
      show min (64 - s) 64 = 64 - s
      omega
    have e5 : min (Int.toNat (Int.ofNat s)) 64 = s := by
      show min s 64 = s
      omega
    simp only [e, e2, e3, e4, e5, cond_true, cond_false, wrap_u64]
    rw [fdiv_pos _ _ (Int.le_of_lt (pow_pos' _)), fdiv_pos _ _ (Int.le_of_lt (pow_pos' _))]
    have pq : (18446744073709551616 : Int) = 2 ^ s * 2 ^ (64 - s) := by
      rw [← Int.pow_add, show s + (64 - s) = 64 by omega]; rfl
    generalize hP : (2 : Int) ^ s = P at *
    generalize hQ : (2 : Int) ^ (64 - s) = Q at *
    have P0 : 0 < P := by rw [← hP]; exact pow_pos' s
    have Q0 : 0 < Q := by rw [← hQ]; exact pow_pos' (64 - s)
    have m : h * Q % 18446744073709551616 = h % P * Q := by
      rw [pq, Int.mul_comm h Q, Int.mul_comm P Q, Int.mul_emod_mul_of_pos _ _ Q0, Int.mul_comm]
    have x0 : 0 ≤ l / P := Int.ediv_nonneg l0 (Int.le_of_lt P0)
    have x1 : l / P < Q := Int.ediv_lt_of_lt_mul P0 (by rw [Int.mul_comm, ← pq]; exact l1)
    have y0 : 0 ≤ h % P := Int.emod_nonneg _ (by omega)
    have y1 : h % P < P := Int.emod_lt_of_pos _ P0
    have y2 : h % P * Q + Q ≤ 18446744073709551616 := by
      have : (h % P + 1) * Q ≤ P * Q := Int.mul_le_mul_of_nonneg_right (by omega) (Int.le_of_lt Q0)
      rw [Int.add_mul, ← pq] at this; omega
    have y3 : 0 ≤ h % P * Q := Int.mul_nonneg y0 (Int.le_of_lt Q0)
    have key : Int.ofNat (BitVec.toNat (BitVec.ofInt 64 (l / P) ||| BitVec.ofInt 64 (h * Q % 18446744073709551616))) = l / P + h % P * Q := by
      rw [m]
      exact or_apart _ _ (64 - s) x0 (by rw [hQ]; exact x1) y3 (by omega) (by omega) (by rw [hQ]; exact Int.mul_emod_left _ _)
    rw [key]
    have z : (l / P + h % P * Q) % 18446744073709551616 = l / P + h % P * Q := Int.emod_eq_of_lt (by omega) (by omega)
    rw [z]
    refine ⟨_, _, rfl, Int.ediv_nonneg h0 (Int.le_of_lt P0), by omega, by omega, ?_⟩
    have f1 : (h * 18446744073709551616 + l) / P = h * Q + l / P := by
      rw [pq, show h * (P * Q) + l = l + h * Q * P by rw [Int.mul_comm P Q, ← Int.mul_assoc, Int.add_comm], Int.add_mul_ediv_right _ _ (by omega)]
      omega
    have f2 : h / P * 18446744073709551616 = h / P * P * Q := by rw [pq, Int.mul_assoc]
    have f3 : h / P * P + h % P = h := Int.ediv_mul_add_emod h P
    rw [f1, f2]
    have f4 : (h / P * P + h % P) * Q = h * Q := by rw [f3]
    rw [Int.add_mul] at f4
    omega
theorem wide_signed64 (h l : Int) (neg : Bool) (h0 : 0 ≤ h) (l0 : 0 ≤ l) (l1 : l < 18446744073709551616) :
    f_AL h l neg = if h * 18446744073709551616 + l ≤ (if neg = true then 9223372036854775808 else 9223372036854775807) then some (if neg = true then -l else l, true) else some (0, false) := by
  unfold f_AL K_AL
  by_cases c : h = 0
  · subst c
    have e : ((0 : Int) != 0) = false := rfl
    simp only [e, cond_false, Int.zero_mul, Int.zero_add]
    cases neg
    · by_cases d : l > 9223372036854775807
      · have d2 : ¬ l ≤ 9223372036854775807 := by omega
        simp [d, d2]
      · have d2 : l ≤ 9223372036854775807 := by omega
        simp only [Bool.not_false, cond_true, d, decide_false, cond_false, Bool.false_eq_true, if_false, d2, if_true]
        rw [wrap_i64 (by omega) d2]
    · by_cases d : l > 9223372036854775808
      · have d2 : ¬ l ≤ 9223372036854775808 := by omega
        simp [d, d2]
      · have d2 : l ≤ 9223372036854775808 := by omega
        have e3 : IntKind.wrap .i64 (IntKind.wrap .u64 (0 - l)) = -l := by
          rw [wrap_u64, wrap_i64_eq]; split <;> omega
        have e4 : IntKind.wrap .i64 (IntKind.wrap .u64 (-l)) = -l := by
          rw [wrap_u64, wrap_i64_eq]; split <;> omega
        simp [d, d2, e3, e4]
  · have e : (h != 0) = true := by simp [c]
    have d2 : ¬ h * 18446744073709551616 + l ≤ (if neg = true then 9223372036854775808 else 9223372036854775807) := by split <;> omega
    simp only [e, cond_true, d2, if_false]
def half (s : Nat) : Int := if s = 0 then 0 else 2 ^ (s - 1)
def rnd (v : Int) (s : Nat) : Int := if v < 0 then -((-v + half s) / 2 ^ s) else (v + half s) / 2 ^ s
theorem half_le (s : Nat) (hs : s ≤ 126) : 0 ≤ half s ∧ half s ≤ 42535295865117307932921825928971026432 := by
  unfold half
  split
  · omega
  · refine ⟨Int.le_of_lt (pow_pos' _), ?_⟩
    have : (2 : Int) ^ (s - 1) ≤ 2 ^ 125 := by
      have h2 : (2 : Nat) ^ (s - 1) ≤ 2 ^ 125 := Nat.pow_le_pow_right (by decide) (by omega)
      have h3 : ((2 ^ (s - 1) : Nat) : Int) ≤ ((2 ^ 125 : Nat) : Int) := by exact_mod_cast h2
      simpa using h3
    exact this
theorem wide_round (h l : Int) (s : Nat) (hs : s ≤ 126) (o : okW h l) :
    f_An h l (Int.ofNat s) = if -9223372036854775808 ≤ rnd (vW h l) s ∧ rnd (vW h l) s ≤ 9223372036854775807 then some (rnd (vW h l) s, true) else some (0, false) := by
  unfold f_An K_An
  obtain ⟨ah, al, e1, a0, a1, a2, a3, a4⟩ := wide_abs h l o
  have n0 : decide (Int.ofNat s < 0) = false := by simp
  have n1 : decide (Int.ofNat s > 126) = false := by simp only [Int.ofNat_eq_natCast]; exact decide_eq_false (by omega)
  simp only [n0, n1, cond_false, e1, Option.bind_some]
  obtain ⟨hh0, hh1⟩ := half_le s hs
  -- what is shifted
  have fin : ∀ h' l' : Int, 0 ≤ h' → 0 ≤ l' → l' < 18446744073709551616 → h' * 18446744073709551616 + l' = ((if h < 0 then -vW h l else vW h l) + half s) / 2 ^ s →
      (f_AL h' l' (decide (h < 0))).bind (fun d => some (d.fst, d.snd)) = if -9223372036854775808 ≤ rnd (vW h l) s ∧ rnd (vW h l) s ≤ 9223372036854775807 then some (rnd (vW h l) s, true) else some (0, false) := by
    intro h' l' b0 b1 b2 b3
    rw [wide_signed64 h' l' _ b0 b1 b2]
    obtain ⟨o1, o2, o3, o4⟩ := o
    by_cases n : h < 0
    · have nv : vW h l < 0 := by show h * 18446744073709551616 + l < 0; omega
      simp only [n, decide_true, if_true] at b3 ⊢
      unfold rnd
      simp only [nv, if_true]
      rw [← b3]
      by_cases c : h' * 18446744073709551616 + l' ≤ 9223372036854775808
      · rw [if_pos c, if_pos (by omega)]
        simp only [Option.bind_some, Option.some.injEq, Prod.mk.injEq, and_true]; omega
      · rw [if_neg c, if_neg (by omega)]; rfl
    · have nv : ¬ vW h l < 0 := by show ¬ h * 18446744073709551616 + l < 0; omega
      simp only [n, decide_false, if_false, Bool.false_eq_true] at b3 ⊢
      unfold rnd
      simp only [nv, if_false]
      rw [← b3]
      by_cases c : h' * 18446744073709551616 + l' ≤ 9223372036854775807
      · rw [if_pos c, if_pos (by omega)]
        simp only [Option.bind_some, Option.some.injEq, Prod.mk.injEq, and_true]; omega
      · rw [if_neg c, if_neg (by omega)]; rfl
  by_cases z : s = 0
  · subst z
    have n2 : decide (Int.ofNat 0 > 0) = false := by decide
    simp only [n2, cond_false]
    obtain ⟨h', l', e2, b0, b1, b2, b3⟩ := big_shr ah al 0 (by omega) a0 (by omega) a2 a3
    rw [e2]
    simp only [Option.bind_some]
    exact fin h' l' b0 b1 b2 (by rw [b3, a4]; simp [half])
  · have n2 : decide (Int.ofNat s > 0) = true := by simp only [Int.ofNat_eq_natCast]; exact decide_eq_true (by omega)
    simp only [n2, cond_true]
    have n3 : IntKind.wrap .i64 (Int.ofNat s - 1) = Int.ofNat (s - 1) := (wrap_i64 (by simp only [Int.ofNat_eq_natCast]; omega) (by simp only [Int.ofNat_eq_natCast]; omega)).trans (by simp only [Int.ofNat_eq_natCast]; omega)
    have hf : half s = 2 ^ (s - 1) := by unfold half; rw [if_neg z]
    rw [n3, shl_one (s - 1) (by omega), ← hf]
    simp only [Option.bind_some]
    rw [big_plus _ _ _ _ a0 a2 (by omega) (by omega) a3 (by omega)]
    simp only [Option.bind_some]
    obtain ⟨h', l', e2, b0, b1, b2, b3⟩ := big_shr ((ah + half s / 18446744073709551616 + (al + half s % 18446744073709551616) / 18446744073709551616) % 18446744073709551616) ((al + half s % 18446744073709551616) % 18446744073709551616) s hs (by omega) (by omega) (by omega) (by omega)
    rw [e2]
    simp only [Option.bind_some]
    refine fin h' l' b0 b1 b2 ?_
    rw [b3, ← a4]
    congr 1
    omega
def sat (x : Int) : Int := if x < -1152921504606846976 then -1152921504606846976 else if 1152921504606846976 < x then 1152921504606846976 else x
def over (x : Int) : Bool := decide (x < -1152921504606846976) || decide (1152921504606846976 < x)
theorem sat_le (x : Int) : -1152921504606846976 ≤ sat x ∧ sat x ≤ 1152921504606846976 := by
  unfold sat; split <;> (try split) <;> omega
theorem acc_sat (x : Int) (hit : Bool) : f_J x hit = some (sat x, hit || over x) := by
  unfold f_J K_J f_Aj K_Aj sat over
  have e : decide ((-1152921504606846976 : Int) > 1152921504606846976) = false := by decide
  by_cases c : x < -1152921504606846976
  · simp [e, c]
  · by_cases d : 1152921504606846976 < x
    · have d2 : x > 1152921504606846976 := d
      simp [e, c, d]
    · simp [e, c, d]
theorem acc_end (a : Int) (ok neg hit : Bool) : f_Aa a ok neg hit = if ok = true then some (sat a, hit || over a) else some (if neg = true then -1152921504606846976 else 1152921504606846976, true) := by
  unfold f_Aa K_Aa f_BH K_BH
  cases ok
  · cases neg <;> rfl
  · simp only [Bool.not_true, cond_false, acc_sat, Option.bind_some, if_true]
theorem acc_round (h l : Int) (s : Nat) (hit : Bool) (hs : s ≤ 120) (o : okW h l) : f_BS h l (Int.ofNat s) hit = some (sat (rnd (vW h l) s), hit || over (rnd (vW h l) s)) := by
  unfold f_BS K_BS
  have n0 : decide (Int.ofNat s < 0) = false := by simp
  have n1 : decide (Int.ofNat s > 120) = false := by simp only [Int.ofNat_eq_natCast]; exact decide_eq_false (by omega)
  simp only [n0, n1, cond_false, wide_round h l s (by omega) o]
  by_cases c : -9223372036854775808 ≤ rnd (vW h l) s ∧ rnd (vW h l) s ≤ 9223372036854775807
  · simp only [c, and_self, if_true, Option.bind_some, acc_end]
  · rw [if_neg c]
    simp only [Option.bind_some, acc_end, Bool.false_eq_true, if_false]
    have sg : (h < 0 → rnd (vW h l) s ≤ 0) ∧ (¬ h < 0 → 0 ≤ rnd (vW h l) s) := by
      obtain ⟨o1, o2, o3, o4⟩ := o
      obtain ⟨hh0, hh1⟩ := half_le s (by omega)
      have p := pow_pos' s
      unfold rnd
      refine ⟨fun n => ?_, fun n => ?_⟩
      · have nv : vW h l < 0 := by show h * 18446744073709551616 + l < 0; omega
        rw [if_pos nv]
        have : 0 ≤ (-vW h l + half s) / 2 ^ s := Int.ediv_nonneg (by omega) (Int.le_of_lt p)
        omega
      · have nv : ¬ vW h l < 0 := by show ¬ h * 18446744073709551616 + l < 0; omega
        rw [if_neg nv]
        exact Int.ediv_nonneg (by omega) (Int.le_of_lt p)
    unfold sat over
    by_cases n : h < 0
    · have := sg.1 n
      have c1 : rnd (vW h l) s < -1152921504606846976 := by omega
      simp [n, c1]
    · have := sg.2 n
      have c1 : ¬ rnd (vW h l) s < -1152921504606846976 := by omega
      have c2 : 1152921504606846976 < rnd (vW h l) s := by omega
      simp [n, c1, c2]
end Go.Proofs.Ytdpenjncfmkbgaa
set_option maxRecDepth 100000
set_option maxHeartbeats 4000000
set_option linter.unusedVariables false
set_option linter.unusedSimpArgs false
namespace Go.Proofs.Ytdpenjncfmkbgaa
open Go.Ab
theorem abs64_eq (x : Int) (h0 : -9223372036854775808 ≤ x) (h1 : x ≤ 9223372036854775807) : f_Ak x = some (if x < 0 then -x else x) := by
  unfold f_Ak K_Ak
  by_cases c : x < 0
  · simp only [c, decide_true, cond_true, if_true, wrap_u64, Option.some.injEq]; omega
  · simp only [c, decide_false, cond_false, if_false, wrap_u64, Option.some.injEq]; omega
theorem mul_lt32 {a b : Int} (a0 : 0 ≤ a) (a1 : a ≤ 4294967295) (b0 : 0 ≤ b) (b1 : b ≤ 4294967295) : 0 ≤ a * b ∧ a * b ≤ 18446744065119617025 := by
  refine ⟨Int.mul_nonneg a0 b0, ?_⟩
  have := Int.mul_le_mul a1 b1 b0 (by omega)
  omega
theorem mul64_eq (x y : Int) (x0 : 0 ≤ x) (x1 : x < 18446744073709551616) (y0 : 0 ≤ y) (y1 : y < 18446744073709551616) : f_BQ x y = some (x * y / 18446744073709551616, x * y % 18446744073709551616) := by
  unfold f_BQ K_BQ
  rw [and_mask x x0 x1, and_mask y y0 y1]
  simp only [fdiv_pos _ 4294967296 (by decide), wrap_u64]
  have xe : x = x / 4294967296 * 4294967296 + x % 4294967296 := by omega
  have ye : y = y / 4294967296 * 4294967296 + y % 4294967296 := by omega
  have xh : 0 ≤ x / 4294967296 ∧ x / 4294967296 ≤ 4294967295 := by omega
  have yh : 0 ≤ y / 4294967296 ∧ y / 4294967296 ≤ 4294967295 := by omega
  have xl : 0 ≤ x % 4294967296 ∧ x % 4294967296 ≤ 4294967295 := by omega
  have yl : 0 ≤ y % 4294967296 ∧ y % 4294967296 ≤ 4294967295 := by omega
  have hxy : x * y = (x / 4294967296) * (y / 4294967296) * 18446744073709551616 + ((x / 4294967296) * (y % 4294967296) + (x % 4294967296) * (y / 4294967296)) * 4294967296 + (x % 4294967296) * (y % 4294967296) := by
    conv => lhs; rw [xe, ye]
    generalize x / 4294967296 = a
    generalize x % 4294967296 = b
    generalize y / 4294967296 = c
    generalize y % 4294967296 = d
    rw [Int.add_mul, Int.mul_add, Int.mul_add, Int.add_mul]
    rw [show a * 4294967296 * (c * 4294967296) = a * c * 18446744073709551616 by rw [Int.mul_assoc, Int.mul_left_comm 4294967296 c, ← Int.mul_assoc, show (4294967296 : Int) * 4294967296 = 18446744073709551616 from rfl]]
    rw [show a * 4294967296 * d = a * d * 4294967296 by rw [Int.mul_assoc, Int.mul_comm 4294967296 d, ← Int.mul_assoc], show b * (c * 4294967296) = b * c * 4294967296 by rw [Int.mul_assoc]]
    omega
  obtain ⟨A0, A1⟩ := mul_lt32 xh.1 xh.2 yh.1 yh.2
  obtain ⟨B0, B1⟩ := mul_lt32 xh.1 xh.2 yl.1 yl.2
  obtain ⟨C0, C1⟩ := mul_lt32 xl.1 xl.2 yh.1 yh.2
  obtain ⟨D0, D1⟩ := mul_lt32 xl.1 xl.2 yl.1 yl.2
  simp only [Int.emod_eq_of_lt xl.1 (show x % 4294967296 < 18446744073709551616 by omega), Int.emod_eq_of_lt yl.1 (show y % 4294967296 < 18446744073709551616 by omega)]
  rw [hxy]
  generalize x / 4294967296 * (y / 4294967296) = A at *
  generalize x / 4294967296 * (y % 4294967296) = B at *
  generalize x % 4294967296 * (y / 4294967296) = C at *
  generalize x % 4294967296 * (y % 4294967296) = D at *
  have r1 : A % 18446744073709551616 = A := Int.emod_eq_of_lt A0 (by omega)
  have r2 : B % 18446744073709551616 = B := Int.emod_eq_of_lt B0 (by omega)
  have r3 : C % 18446744073709551616 = C := Int.emod_eq_of_lt C0 (by omega)
  have r4 : D % 18446744073709551616 = D := Int.emod_eq_of_lt D0 (by omega)
  simp only [r1, r2, r3, r4]
  have r5 : (B + D / 4294967296) % 18446744073709551616 = B + D / 4294967296 := Int.emod_eq_of_lt (by omega) (by omega)
  simp only [r5]
  rw [and_mask (B + D / 4294967296) (by omega) (by omega)]
  have r6 : (B + D / 4294967296) % 4294967296 % 18446744073709551616 = (B + D / 4294967296) % 4294967296 := Int.emod_eq_of_lt (by omega) (by omega)
  simp only [r6]
  have r7 : ((B + D / 4294967296) % 4294967296 + C) % 18446744073709551616 = (B + D / 4294967296) % 4294967296 + C := Int.emod_eq_of_lt (by omega) (by omega)
  simp only [r7]
  refine congrArg some (Prod.ext ?_ rfl)
  simp only
  omega
theorem wide_signed (h l : Int) (neg : Bool) (h0 : 0 ≤ h) (h1 : h < 9223372036854775808) (l0 : 0 ≤ l) (l1 : l < 18446744073709551616) :
    ∃ h' l' b, f_Av h l neg = some (h', l', b) ∧ okW h' l' ∧ vW h' l' = if neg = true then -(h * 18446744073709551616 + l) else h * 18446744073709551616 + l := by
  unfold f_Av K_Av
  cases neg
  · refine ⟨_, _, _, rfl, ?_, ?_⟩
    · rw [wrap_i64 (by omega) (by omega)]; omega
    · rw [wrap_i64 (by omega) (by omega)]; rfl
  · simp only [Bool.not_true, cond_false, xor_all l l0 l1, wrap_u64, xor_all h h0 (by omega)]
    rw [add64_eq _ _ _ (by omega) (by omega) (by omega) (by omega)]
    simp only [Option.bind_some]
    generalize hm : (18446744073709551615 - h) % 18446744073709551616 + ((18446744073709551615 - l) % 18446744073709551616 + 1 + 0) / 18446744073709551616 = m
    have hw := wrap_i64_eq (m % 18446744073709551616)
    generalize IntKind.wrap IntKind.i64 (m % 18446744073709551616) = w at *
    have ok : okW w (((18446744073709551615 - l) % 18446744073709551616 + 1 + 0) % 18446744073709551616) ∧ vW w (((18446744073709551615 - l) % 18446744073709551616 + 1 + 0) % 18446744073709551616) = -(h * 18446744073709551616 + l) := by
      unfold vW
      refine ⟨⟨?_, ?_, ?_, ?_⟩, ?_⟩ <;> (split at hw <;> omega)
    cases decide (w < 0)
    · exact ⟨_, _, _, rfl, ok.1, by simp only [if_true]; exact ok.2⟩
    · exact ⟨_, _, _, rfl, ok.1, by simp only [if_true]; exact ok.2⟩
theorem wide_mul (a b : Int) (a0 : -9223372036854775808 ≤ a) (a1 : a ≤ 9223372036854775807) (b0 : -9223372036854775808 ≤ b) (b1 : b ≤ 9223372036854775807) : ∃ h l, f_BA a b = some (h, l) ∧ okW h l ∧ vW h l = a * b := by
  unfold f_BA K_BA
  simp only [abs64_eq a a0 a1, abs64_eq b b0 b1, Option.bind_some]
  generalize hx : (if a < 0 then -a else a) = x
  generalize hy : (if b < 0 then -b else b) = y
  have x0 : 0 ≤ x ∧ x ≤ 9223372036854775808 := by rw [← hx]; split <;> omega
  have y0 : 0 ≤ y ∧ y ≤ 9223372036854775808 := by rw [← hy]; split <;> omega
  have hp : 0 ≤ x * y := Int.mul_nonneg x0.1 y0.1
  have hq : x * y ≤ 85070591730234615865843651857942052864 := by
    have := Int.mul_le_mul x0.2 y0.2 y0.1 (by omega)
    omega
  rw [mul64_eq x y x0.1 (by omega) y0.1 (by omega)]
  simp only [Option.bind_some]
  obtain ⟨h, l, c, e1, e2, e3⟩ := wide_signed (x * y / 18446744073709551616) (x * y % 18446744073709551616) (!decide (a < 0) == decide (b < 0)) (by omega) (by omega) (by omega) (by omega)
  rw [e1]
  simp only [Option.bind_some]
  refine ⟨h, l, rfl, e2, ?_⟩
  have e4 : x * y / 18446744073709551616 * 18446744073709551616 + x * y % 18446744073709551616 = x * y := by omega
  rw [e3, e4]
  by_cases p : a < 0
  · by_cases q : b < 0
    · rw [if_pos p] at hx
      rw [if_pos q] at hy
      simp only [p, q, decide_true]
      rw [if_neg (by decide)]
      rw [← hx, ← hy, Int.neg_mul_neg]
    · rw [if_pos p] at hx
      rw [if_neg q] at hy
      simp only [p, q, decide_true, decide_false]
      rw [if_pos (by decide)]
      rw [← hx, ← hy, Int.neg_mul, Int.neg_neg]
  · by_cases q : b < 0
    · rw [if_neg p] at hx
      rw [if_pos q] at hy
      simp only [p, q, decide_true, decide_false]
      rw [if_pos (by decide)]
      rw [← hx, ← hy, Int.mul_neg, Int.neg_neg]
    · rw [if_neg p] at hx
      rw [if_neg q] at hy
      simp only [p, q, decide_false]
      rw [if_neg (by decide)]
      rw [← hx, ← hy]
theorem acc_mul (a b : Int) (s : Nat) (hit : Bool) (hs : s ≤ 120) : f_Af a b (Int.ofNat s) hit = some (sat (rnd (sat a * sat b) s), hit || over a || over b || over (rnd (sat a * sat b) s)) := by
  unfold f_Af K_Af
  have := sat_le a
  have := sat_le b
  obtain ⟨h, l, e1, e2, e3⟩ := wide_mul (sat a) (sat b) (by omega) (by omega) (by omega) (by omega)
  simp only [acc_sat, Option.bind_some, e1, acc_round h l s _ hs e2, e3]
end Go.Proofs.Ytdpenjncfmkbgaa
set_option maxRecDepth 100000
set_option maxHeartbeats 4000000
set_option linter.unusedVariables false
set_option linter.unusedSimpArgs false
namespace Go.Proofs.Ytdpenjncfmkbgaa
open Go.Ab
theorem pow_le_pow {m n : Nat} (h : m ≤ n) : (2 : Int) ^ m ≤ 2 ^ n := by
  have h2 : (2 : Nat) ^ m ≤ 2 ^ n := Nat.pow_le_pow_right (by decide) h
  have h3 : ((2 ^ m : Nat) : Int) ≤ ((2 ^ n : Nat) : Int) := by exact_mod_cast h2
  simpa using h3
theorem signed_eq (h l : Int) (neg : Bool) (h0 : 0 ≤ h) (h1 : h < 18446744073709551616) (l0 : 0 ≤ l) (l1 : l < 18446744073709551616) :
    ∃ h' l' b, f_Av h l neg = some (h', l', b) ∧ okW h' l' ∧ (b = true ↔ if neg = true then h * 18446744073709551616 + l ≤ 170141183460469231731687303715884105728 else h * 18446744073709551616 + l < 170141183460469231731687303715884105728) ∧
      (b = true → vW h' l' = if neg = true then -(h * 18446744073709551616 + l) else h * 18446744073709551616 + l) := by
  unfold f_Av K_Av vW
  cases neg
  · have hw := wrap_i64_eq h
    rw [Int.emod_eq_of_lt h0 h1] at hw
    generalize IntKind.wrap IntKind.i64 h = w at *
    refine ⟨w, l, _, rfl, ⟨?_, ?_, l0, l1⟩, ?_, ?_⟩
    · split at hw <;> omega
    · split at hw <;> omega
    · rw [fdiv_pos _ _ (by omega), beq_iff_eq, if_neg (by decide)]
      constructor <;> intro _ <;> omega
    · rw [fdiv_pos _ _ (by omega), beq_iff_eq, if_neg (by decide)]
      intro _
      split at hw <;> omega
  · simp only [Bool.not_true, cond_false, xor_all l l0 l1, wrap_u64, xor_all h h0 h1]
    rw [add64_eq _ _ _ (by omega) (by omega) (by omega) (by omega)]
    simp only [Option.bind_some, if_true]
    generalize hm : ((18446744073709551615 - h) % 18446744073709551616 + ((18446744073709551615 - l) % 18446744073709551616 + 1 + 0) / 18446744073709551616) % 18446744073709551616 = m
    have hw := wrap_i64_eq m
    generalize IntKind.wrap IntKind.i64 m = w at *
    have m0 : 0 ≤ m ∧ m < 18446744073709551616 := by omega
    rw [Int.emod_eq_of_lt m0.1 m0.2] at hw
    have w0 : -9223372036854775808 ≤ w ∧ w ≤ 9223372036854775807 := by split at hw <;> omega
    have wm : (w < 0 ∧ w = m - 18446744073709551616) ∨ (0 ≤ w ∧ w = m) := by split at hw <;> omega
    clear hw
    by_cases c : w < 0
    · rw [decide_eq_true c, cond_true]
      refine ⟨_, _, _, rfl, ⟨w0.1, w0.2, by omega, by omega⟩, ?_, ?_⟩
      · simp only [true_iff]; omega
      · intro _; omega
    · rw [decide_eq_false c, cond_false]
      refine ⟨_, _, _, rfl, ⟨w0.1, w0.2, by omega, by omega⟩, ?_, ?_⟩
      · simp only [Bool.and_eq_true, beq_iff_eq, and_true]
        constructor <;> intro _ <;> omega
      · simp only [Bool.and_eq_true, beq_iff_eq, and_true]
        intro _; omega
theorem big_shl (d : Int) (s : Nat) (hs : s ≤ 127) (d0 : 0 ≤ d) (d1 : d < 18446744073709551616) :
    ∃ h' l', f_AO 0 d (Int.ofNat s) = some (h', l') ∧ 0 ≤ h' ∧ h' < 18446744073709551616 ∧ 0 ≤ l' ∧ l' < 18446744073709551616 ∧ h' * 18446744073709551616 + l' = d * 2 ^ s % 340282366920938463463374607431768211456 := by
  unfold f_AO K_AO
  by_cases c : 64 ≤ s
  · have e : decide (Int.ofNat s ≥ 64) = true := by simp only [Int.ofNat_eq_natCast]; exact decide_eq_true (by omega)
    have e2 : IntKind.wrap .i64 (Int.ofNat s - 64) = Int.ofNat (s - 64) := (wrap_i64 (by simp only [Int.ofNat_eq_natCast]; omega) (by simp only [Int.ofNat_eq_natCast]; omega)).trans (by simp only [Int.ofNat_eq_natCast]; omega)
    have e3 : (!decide (Int.ofNat (s - 64) < 0)) = true := by simp
    have e4 : min (Int.toNat (Int.ofNat (s - 64))) 64 = s - 64 := by
      show min (s - 64) 64 = s - 64
      omega
    simp only [e, e2, e3, e4, cond_true, wrap_u64]
    refine ⟨_, _, rfl, by omega, by omega, by omega, by omega, ?_⟩
    have p : (2 : Int) ^ s = 2 ^ (s - 64) * 18446744073709551616 := by
      rw [show (18446744073709551616 : Int) = 2 ^ 64 from rfl, ← Int.pow_add]
      congr 1; omega
    rw [p, ← Int.mul_assoc]
    generalize d * 2 ^ (s - 64) = x
    omega
  · have e : decide (Int.ofNat s ≥ 64) = false := by simp only [Int.ofNat_eq_natCast]; exact decide_eq_false (by omega)
    have e2 : IntKind.wrap .i64 (64 - Int.ofNat s) = Int.ofNat (64 - s) := (wrap_i64 (by simp only [Int.ofNat_eq_natCast]; omega) (by simp only [Int.ofNat_eq_natCast]; omega)).trans (by simp only [Int.ofNat_eq_natCast]; omega)
    have e3 : ∀ n, (!decide (Int.ofNat n < 0)) = true := by simp
    have e4 : min (Int.toNat (Int.ofNat (64 - s))) 64 = 64 - s := by
      show min (64 - s) 64 = 64 - s
      omega
    have e5 : min (Int.toNat (Int.ofNat s)) 64 = s := by
      show min s 64 = s
      omega
    simp only [e, e2, e3, e4, e5, cond_true, cond_false, wrap_u64, Int.zero_mul]
    rw [fdiv_pos _ _ (Int.le_of_lt (pow_pos' _))]
    have pq : (18446744073709551616 : Int) = 2 ^ s * 2 ^ (64 - s) := by
      rw [← Int.pow_add, show s + (64 - s) = 64 by omega]; rfl
    have P0 := pow_pos' s
    have Q0 := pow_pos' (64 - s)
    have x0 : 0 ≤ d / 2 ^ (64 - s) := Int.ediv_nonneg d0 (Int.le_of_lt Q0)
    have x1 : d / 2 ^ (64 - s) < 2 ^ s := Int.ediv_lt_of_lt_mul Q0 (by rw [← pq]; exact d1)
    have x2 : d / 2 ^ (64 - s) ≤ d := Int.ediv_le_self _ d0
    have z0 : (0 : Int) % 18446744073709551616 = 0 := rfl
    rw [z0]
    have key : Int.ofNat (BitVec.toNat (BitVec.ofInt 64 0 ||| BitVec.ofInt 64 (d / 2 ^ (64 - s)))) = d / 2 ^ (64 - s) := by
      rw [or_apart 0 (d / 2 ^ (64 - s)) 0 (by omega) (by decide) x0 (by omega) (by omega) (by rw [show (2 : Int) ^ 0 = 1 from rfl, Int.emod_one])]
      omega
    rw [key]
    refine ⟨_, _, rfl, by omega, by omega, by omega, by omega, ?_⟩
    have m1 : d * 2 ^ s / 18446744073709551616 = d / 2 ^ (64 - s) := by
      rw [pq, Int.mul_comm d, Int.mul_ediv_mul_of_pos _ _ P0]
    have b1 : d * 2 ^ s < 340282366920938463463374607431768211456 := by
      have := Int.mul_lt_mul_of_pos_right d1 P0
      have q : (2 : Int) ^ s ≤ 2 ^ 64 := pow_le_pow (by omega)
      have q2 : (2 : Int) ^ 64 = 18446744073709551616 := rfl
      have q3 : 18446744073709551616 * 2 ^ s ≤ (18446744073709551616 : Int) * 18446744073709551616 := Int.mul_le_mul_of_nonneg_left (by omega) (by omega)
      have q4 : (18446744073709551616 : Int) * 18446744073709551616 = 340282366920938463463374607431768211456 := by decide
      omega
    have b0 : 0 ≤ d * 2 ^ s := Int.mul_nonneg d0 (Int.le_of_lt P0)
    rw [Int.emod_eq_of_lt b0 b1]
    have x3 : d / 2 ^ (64 - s) % 18446744073709551616 = d / 2 ^ (64 - s) := Int.emod_eq_of_lt x0 (by omega)
    rw [x3, ← m1]
    omega
theorem wide_shift (a : Int) (s : Nat) (hs : s ≤ 127) (a0 : -9223372036854775808 ≤ a) (a1 : a ≤ 9223372036854775807) :
    ∃ h l b, f_Ay a (Int.ofNat s) = some (h, l, b) ∧ okW h l ∧ (b = true ↔ -170141183460469231731687303715884105728 ≤ a * 2 ^ s ∧ a * 2 ^ s < 170141183460469231731687303715884105728) ∧ (b = true → vW h l = a * 2 ^ s) ∧ (b = false → h = 0 ∧ l = 0) := by
  unfold f_Ay K_Ay
  have n0 : decide (Int.ofNat s < 0) = false := by simp
  have n1 : decide (Int.ofNat s > 127) = false := by simp only [Int.ofNat_eq_natCast]; exact decide_eq_false (by omega)
  rw [n0, cond_false, n1, cond_false, abs64_eq a a0 a1, Option.bind_some]
  generalize hd : (if a < 0 then -a else a) = d
  have d0 : 0 ≤ d ∧ d ≤ 9223372036854775808 := by split at hd <;> omega
  obtain ⟨u, v, e1, u0, u1, v0, v1, e2⟩ := big_shl d s hs d0.1 (by omega)
  rw [e1, Option.bind_some]
  simp only
  have P0 := pow_pos' s
  have D0 : 0 ≤ d * 2 ^ s := Int.mul_nonneg d0.1 (Int.le_of_lt P0)
  have sg : (a < 0 → a * 2 ^ s = -(d * 2 ^ s)) ∧ (¬ a < 0 → a * 2 ^ s = d * 2 ^ s) := by
    constructor <;> intro h
    · rw [if_pos h] at hd
      rw [← hd, Int.neg_mul, Int.neg_neg]
    · rw [if_neg h] at hd
      rw [hd]
  have nofit : ∀ {b : Bool}, b = false → ¬ d * 2 ^ s < 340282366920938463463374607431768211456 → (b = true ↔ -170141183460469231731687303715884105728 ≤ a * 2 ^ s ∧ a * 2 ^ s < 170141183460469231731687303715884105728) := by
    intro b hb hn
    rw [hb]
    refine iff_of_false Bool.false_ne_true fun h => ?_
    by_cases n : a < 0
    · have := sg.1 n; omega
    · have := sg.2 n; omega
  have fin : d * 2 ^ s < 340282366920938463463374607431768211456 → ∃ h l b, (Option.bind (f_Av u v (decide (a < 0))) fun (d : Int × Int × Bool) => bif !d.2.2 then some (0, 0, false) else some (d.1, d.2.1, true)) = some (h, l, b) ∧ okW h l ∧ (b = true ↔ -170141183460469231731687303715884105728 ≤ a * 2 ^ s ∧ a * 2 ^ s < 170141183460469231731687303715884105728) ∧ (b = true → vW h l = a * 2 ^ s) ∧ (b = false → h = 0 ∧ l = 0) := by
    intro lt
    rw [Int.emod_eq_of_lt D0 lt] at e2
    obtain ⟨h', l', b, e3, o3, f3, v3⟩ := signed_eq u v (decide (a < 0)) u0 u1 v0 v1
    rw [e3, Option.bind_some]
    rw [e2] at f3 v3
    by_cases n : a < 0
    · have q := sg.1 n
      rw [decide_eq_true n, if_pos rfl] at f3 v3
      cases b with
      | false =>
        refine ⟨0, 0, false, rfl, ⟨by omega, by omega, by omega, by omega⟩, ?_, (fun h => by cases h), (fun _ => ⟨rfl, rfl⟩)⟩
        rw [f3]; omega
      | true =>
        refine ⟨h', l', true, rfl, o3, ?_, (fun _ => ?_), (fun h => by cases h)⟩
        · rw [f3]; omega
        · rw [v3 rfl]; omega
    · have q := sg.2 n
      rw [decide_eq_false n, if_neg (by decide)] at f3 v3
      cases b with
      | false =>
        refine ⟨0, 0, false, rfl, ⟨by omega, by omega, by omega, by omega⟩, ?_, (fun h => by cases h), (fun _ => ⟨rfl, rfl⟩)⟩
        rw [f3]; omega
      | true =>
        refine ⟨h', l', true, rfl, o3, ?_, (fun _ => ?_), (fun h => by cases h)⟩
        · rw [f3]; omega
        · rw [v3 rfl]; omega
  -- back again
  have shr : ∃ x y, f_AM u v (Int.ofNat s) = some (x, y) ∧ 0 ≤ x ∧ 0 ≤ y ∧ y < 18446744073709551616 ∧ x * 18446744073709551616 + y = (u * 18446744073709551616 + v) / 2 ^ s := by
    rcases Nat.lt_or_ge s 127 with c | c
    · exact big_shr u v s (by omega) u0 u1 v0 v1
    · obtain rfl : s = 127 := by omega
      refine ⟨0, u / 9223372036854775808, ?_, by omega, by omega, by omega, ?_⟩
      · unfold f_AM K_AM
        have k1 : decide (Int.ofNat 127 ≥ 64) = true := by decide
        have k2 : (!decide (IntKind.wrap .i64 (Int.ofNat 127 - 64) < 0)) = true := by decide
        have k3 : (2 : Int) ^ min (Int.toNat (IntKind.wrap .i64 (Int.ofNat 127 - 64))) 64 = 9223372036854775808 := by decide
        simp only [k1, k2, k3, cond_true]
        rw [fdiv_pos _ _ (by omega)]
      · have k : (2 : Int) ^ 127 = 170141183460469231731687303715884105728 := by decide
        rw [k]; omega
  obtain ⟨x, y, e3, x0, y0, y1, e4⟩ := shr
  rw [e3, Option.bind_some]
  simp only
  rw [e2] at e4
  by_cases lt : d * 2 ^ s < 340282366920938463463374607431768211456
  · rw [Int.emod_eq_of_lt D0 lt, Int.mul_ediv_cancel _ (by omega)] at e4
    have xe : (x == 0) = true := by rw [beq_iff_eq]; omega
    have ye : (y == d) = true := by rw [beq_iff_eq]; omega
    rw [xe, ye]
    exact fin lt
  · have small : d * 2 ^ s % 340282366920938463463374607431768211456 / 2 ^ s < d := by
      refine Int.ediv_lt_of_lt_mul P0 ?_
      have : d * 2 ^ s % 340282366920938463463374607431768211456 < 340282366920938463463374607431768211456 := Int.emod_lt_of_pos _ (by omega)
      omega
    have ne : (x == 0 && (y == d && true)) = false := by
      rw [Bool.and_true]
      by_cases xz : x = 0
      · have : (y == d) = false := by rw [beq_eq_false_iff_ne]; omega
        rw [this, Bool.and_false]
      · have : (x == 0) = false := by rw [beq_eq_false_iff_ne]; omega
        rw [this, Bool.false_and]
    rw [ne]
    exact ⟨0, 0, false, rfl, ⟨by omega, by omega, by omega, by omega⟩, nofit rfl lt, (fun h => by cases h), (fun _ => ⟨rfl, rfl⟩)⟩
end Go.Proofs.Ytdpenjncfmkbgaa
set_option maxRecDepth 100000
set_option maxHeartbeats 4000000
set_option linter.unusedVariables false
set_option linter.unusedSimpArgs false
namespace Go.Proofs.Ytdpenjncfmkbgaa
open Go.Ab
theorem len_tab (x : Int) (h0 : 1 ≤ x) (h1 : x < 256) : ∃ n : Nat, 1 ≤ n ∧ n ≤ 8 ∧ (2 : Int) ^ (n - 1) ≤ x ∧ x < 2 ^ n ∧ ∀ {ρ : Type} (m : Int) (k : Int → Option ρ), 0 ≤ m → m ≤ 1000 → L_I_2 (x, m) k = k (m + n) := by
  obtain ⟨a, rfl⟩ : ∃ a : Nat, x = (a : Int) := ⟨x.toNat, by omega⟩
  have key : ∀ a : Fin 256, 1 ≤ a.val → ∀ {ρ : Type} (m : Int) (k : Int → Option ρ), S_I_2 (a.val : Int) m (fun _ => none) k = k (IntKind.wrap .i64 (m + (Nat.log2 a.val + 1 : Nat))) := by
    have t : ∀ a : Fin 256, 1 ≤ a.val → (inR (IntKind.wrap .u8 (a.val : Int)) 256 = true ∧ IntKind.wrap .i64 (byteAt (ByteArray.mk
                (List.toArray
                  (List.append
                    (List.append
                      [0, 1, 2, 2, 3, 3, 3, 3, 4, 4, 4, 4, 4, 4, 4, 4, 5, 5, 5, 5, 5, 5, 5, 5, 5, 5, 5, 5, 5, 5, 5, 5, 6, 6, 6, 6, 6, 6, 6, 6, 6, 6, 6, 6, 6, 6, 6, 6, 6, 6, 6, 6, 6, 6, 6, 6, 6, 6, 6, 6,
                        6, 6, 6, 6]
                      [7, 7, 7, 7, 7, 7, 7, 7, 7, 7, 7, 7, 7, 7, 7, 7, 7, 7, 7, 7, 7, 7, 7, 7, 7, 7, 7, 7, 7, 7, 7, 7, 7, 7, 7, 7, 7, 7, 7, 7, 7, 7, 7, 7, 7, 7, 7, 7, 7, 7, 7, 7, 7, 7, 7, 7, 7, 7, 7, 7,
                        7, 7, 7, 7])
                    (List.append
                      [8, 8, 8, 8, 8, 8, 8, 8, 8, 8, 8, 8, 8, 8, 8, 8, 8, 8, 8, 8, 8, 8, 8, 8, 8, 8, 8, 8, 8, 8, 8, 8, 8, 8, 8, 8, 8, 8, 8, 8, 8, 8, 8, 8, 8, 8, 8, 8, 8, 8, 8, 8, 8, 8, 8, 8, 8, 8, 8, 8,
                        8, 8, 8, 8]
                      [8, 8, 8, 8, 8, 8, 8, 8, 8, 8, 8, 8, 8, 8, 8, 8, 8, 8, 8, 8, 8, 8, 8, 8, 8, 8, 8, 8, 8, 8, 8, 8, 8, 8, 8, 8, 8, 8, 8, 8, 8, 8, 8, 8, 8, 8, 8, 8, 8, 8, 8, 8, 8, 8, 8, 8, 8, 8, 8, 8,
                        8, 8, 8, 8]))))
              (Int.toNat (IntKind.wrap IntKind.u8 (a.val : Int)))) = ((Nat.log2 a.val + 1 : Nat) : Int)) := by decide +kernel
    intro a ha ρ m k
    obtain ⟨t1, t2⟩ := t a ha
    unfold S_I_2
    rw [t1, cond_true, t2]
  have ha : 1 ≤ a := by omega
  have a256 : a < 256 := by omega
  have l1 := Nat.log2_self_le (n := a) (by omega)
  have l2 : a < 2 ^ (a.log2 + 1) := Nat.lt_log2_self
  have lb : a.log2 < 8 := by
    rcases Nat.lt_or_ge a.log2 8 with c | c
    · exact c
    · have : 2 ^ 8 ≤ 2 ^ a.log2 := Nat.pow_le_pow_right (by decide) c
      omega
  refine ⟨a.log2 + 1, by omega, by omega, ?_, ?_, fun m k m0 m1 => ?_⟩
  · rw [Nat.add_sub_cancel]
    have : ((2 ^ a.log2 : Nat) : Int) = (2 : Int) ^ a.log2 := by simp
    omega
  · have : ((2 ^ (a.log2 + 1) : Nat) : Int) = (2 : Int) ^ (a.log2 + 1) := by simp
    omega
  · have : S_I_2 (a : Int) m (fun _ => none) k = k (IntKind.wrap .i64 (m + (Nat.log2 a + 1 : Nat))) := key ⟨a, a256⟩ ha m k
    unfold L_I_2
    rw [this, wrap_i64 (by omega) (by omega)]
theorem pow_add' (a b : Nat) : (2 : Int) ^ (a + b) = 2 ^ a * 2 ^ b := Int.pow_add _ _ _
theorem len_shift (x : Int) (b n : Nat) (hn : 1 ≤ n) (h0 : (2 : Int) ^ (n - 1) ≤ x / 2 ^ b) (h1 : x / 2 ^ b < 2 ^ n) : (2 : Int) ^ (n + b - 1) ≤ x ∧ x < 2 ^ (n + b) := by
  have B0 := pow_pos' b
  have e1 : (2 : Int) ^ (n + b - 1) = 2 ^ (n - 1) * 2 ^ b := by rw [← pow_add']; congr 1; omega
  have e2 : (2 : Int) ^ (n + b) = 2 ^ n * 2 ^ b := pow_add' _ _
  rw [e1, e2]
  exact ⟨Int.mul_le_of_le_ediv B0 h0, Int.lt_mul_of_ediv_lt B0 h1⟩
theorem len_8 (x : Int) (h0 : 1 ≤ x) (h1 : x < 65536) : ∃ n : Nat, 1 ≤ n ∧ n ≤ 16 ∧ (2 : Int) ^ (n - 1) ≤ x ∧ x < 2 ^ n ∧ ∀ {ρ : Type} (m : Int) (k : Int → Option ρ), 0 ≤ m → m ≤ 900 → L_I_1 (x, m) k = k (m + n) := by
  by_cases c : x ≥ 256
  · obtain ⟨n, n1, n2, b0, b1, e⟩ := len_tab (x / 256) (by omega) (by omega)
    obtain ⟨c0, c1⟩ := len_shift x 8 n n1 b0 b1
    refine ⟨n + 8, by omega, by omega, c0, c1, fun m k m0 m1 => ?_⟩
    unfold L_I_1 S_I_1
    rw [decide_eq_true c, cond_true, fdiv_pos _ _ (by omega), wrap_i64 (by omega) (by omega), e (m + 8) _ (by omega) (by omega)]
    congr 1; omega
  · obtain ⟨n, n1, n2, b0, b1, e⟩ := len_tab x h0 (by omega)
    refine ⟨n, n1, by omega, b0, b1, fun m k m0 m1 => ?_⟩
    unfold L_I_1 S_I_1
    rw [decide_eq_false c, cond_false, e m _ m0 (by omega)]
theorem len_16 (x : Int) (h0 : 1 ≤ x) (h1 : x < 4294967296) : ∃ n : Nat, 1 ≤ n ∧ n ≤ 32 ∧ (2 : Int) ^ (n - 1) ≤ x ∧ x < 2 ^ n ∧ ∀ {ρ : Type} (m : Int) (k : Int → Option ρ), 0 ≤ m → m ≤ 800 → L_I_0 (x, m) k = k (m + n) := by
  by_cases c : x ≥ 65536
  · obtain ⟨n, n1, n2, b0, b1, e⟩ := len_8 (x / 65536) (by omega) (by omega)
    obtain ⟨c0, c1⟩ := len_shift x 16 n n1 b0 b1
    refine ⟨n + 16, by omega, by omega, c0, c1, fun m k m0 m1 => ?_⟩
    unfold L_I_0 S_I_0
    rw [decide_eq_true c, cond_true, fdiv_pos _ _ (by omega), wrap_i64 (by omega) (by omega), e (m + 16) _ (by omega) (by omega)]
    congr 1; omega
  · obtain ⟨n, n1, n2, b0, b1, e⟩ := len_8 x h0 (by omega)
    refine ⟨n, n1, by omega, b0, b1, fun m k m0 m1 => ?_⟩
    unfold L_I_0 S_I_0
    rw [decide_eq_false c, cond_false, e m _ m0 (by omega)]
theorem len_64 (x : Int) (h0 : 1 ≤ x) (h1 : x < 18446744073709551616) : ∃ n : Nat, 1 ≤ n ∧ n ≤ 64 ∧ (2 : Int) ^ (n - 1) ≤ x ∧ x < 2 ^ n ∧ f_I x = some (n : Int) := by
  unfold f_I K_I
  by_cases c : x ≥ 4294967296
  · obtain ⟨n, n1, n2, b0, b1, e⟩ := len_16 (x / 4294967296) (by omega) (by omega)
    obtain ⟨c0, c1⟩ := len_shift x 32 n n1 b0 b1
    refine ⟨n + 32, by omega, by omega, c0, c1, ?_⟩
    rw [decide_eq_true c, cond_true, fdiv_pos _ _ (by omega), e 32 _ (by omega) (by omega)]
    congr 1; omega
  · obtain ⟨n, n1, n2, b0, b1, e⟩ := len_16 x h0 (by omega)
    refine ⟨n, n1, by omega, b0, b1, ?_⟩
    rw [decide_eq_false c, cond_false, e 0 _ (by omega) (by omega), Int.zero_add]
theorem lead_64 (x : Int) (h0 : 1 ≤ x) (h1 : x < 18446744073709551616) : ∃ s : Nat, s ≤ 63 ∧ 9223372036854775808 ≤ x * 2 ^ s ∧ x * 2 ^ s < 18446744073709551616 ∧ f_Am x = some (s : Int) := by
  obtain ⟨n, n1, n2, b0, b1, e⟩ := len_64 x h0 h1
  refine ⟨64 - n, by omega, ?_, ?_, ?_⟩
  · have p : (9223372036854775808 : Int) = 2 ^ (n - 1) * 2 ^ (64 - n) := by
      rw [← pow_add', show n - 1 + (64 - n) = 63 by omega]; rfl
    rw [p]
    exact Int.mul_le_mul_of_nonneg_right b0 (Int.le_of_lt (pow_pos' _))
  · have p : (18446744073709551616 : Int) = 2 ^ n * 2 ^ (64 - n) := by
      rw [← pow_add', show n + (64 - n) = 64 by omega]; rfl
    rw [p]
    exact Int.mul_lt_mul_of_pos_right b1 (pow_pos' _)
  · unfold f_Am K_Am
    rw [e, Option.bind_some, wrap_i64 (by omega) (by omega)]
    congr 1; omega
structure Dig (Y yn1 yn0 U u : Int) : Prop where
  y : Y = yn1 * 4294967296 + yn0
  a : 2147483648 ≤ yn1 ∧ yn1 < 4294967296
  b : 0 ≤ yn0 ∧ yn0 < 4294967296
  u0 : 0 ≤ U ∧ U < Y
  d : 0 ≤ u ∧ u < 4294967296
theorem Dig.lt {Y yn1 yn0 U u : Int} (h : Dig Y yn1 yn0 U u) : 0 ≤ (U * 4294967296 + u) / Y ∧ (U * 4294967296 + u) / Y < 4294967296 := by
  obtain ⟨y, a, b, u0, d⟩ := h
  constructor
  · exact Int.ediv_nonneg (by omega) (by omega)
  · refine Int.ediv_lt_of_lt_mul (by omega) ?_
    omega
theorem Dig.down {Y yn1 yn0 U u q rh : Int} (h : Dig Y yn1 yn0 U u) (e : q * yn1 + rh = U) (c : 4294967296 * rh + u < q * yn0) : (U * 4294967296 + u) / Y ≤ q - 1 := by
  obtain ⟨y, a, b, u0, d⟩ := h
  have : (U * 4294967296 + u) / Y < q := by
    refine Int.ediv_lt_of_lt_mul (by omega) ?_
    have e2 : q * Y = (q * yn1) * 4294967296 + q * yn0 := by rw [y]; grind
    omega
  omega
theorem Dig.stay {Y yn1 yn0 U u q rh : Int} (h : Dig Y yn1 yn0 U u) (e : q * yn1 + rh = U) (c : q * yn0 ≤ 4294967296 * rh + u) (l : (U * 4294967296 + u) / Y ≤ q) : q = (U * 4294967296 + u) / Y := by
  obtain ⟨y, a, b, u0, d⟩ := h
  have : q ≤ (U * 4294967296 + u) / Y := by
    refine (Int.le_ediv_iff_mul_le (by omega)).2 ?_
    have e2 : q * Y = (q * yn1) * 4294967296 + q * yn0 := by rw [y]; grind
    omega
  omega
theorem Dig.out {Y yn1 yn0 U u q rh : Int} (h : Dig Y yn1 yn0 U u) (e : q * yn1 + rh = U) (q0 : 0 ≤ q) (c : 4294967296 ≤ rh) (l : (U * 4294967296 + u) / Y ≤ q) : q = (U * 4294967296 + u) / Y := by
  have h' := h
  obtain ⟨y, a, b, u0, d⟩ := h
  refine h'.stay e ?_ l
  have q1 : q ≤ 4294967295 := by
    rcases Int.lt_or_le q 4294967296 with k | k
    · omega
    · exfalso
      have := Int.mul_le_mul_of_nonneg_right k (show 0 ≤ yn1 by omega)
      omega
  have := Int.mul_le_mul q1 (show yn0 ≤ 4294967295 by omega) b.1 (by omega)
  omega
theorem div_l0 {ρ : Type} (Y s yn1 yn0 U u u0 : Int) (h : Dig Y yn1 yn0 U u) (k : _ → Option ρ) (r : Option ρ)
    (h1 : ∀ rh a b c d, k (Sum.inl (Y, s, yn1, yn0, U, u, u0, (U * 4294967296 + u) / Y, rh, a, b, c, d)) = r)
    (h2 : ∀ rh a b c d e f g i, k (Sum.inr (Sum.inl (Y, s, yn1, yn0, U, u, u0, (U * 4294967296 + u) / Y, rh, a, b, c, d, e, f, g, i))) = r)
    (h3 : ∀ rh a b c d e, k (Sum.inr (Sum.inr (Y, s, yn1, yn0, U, u, u0, (U * 4294967296 + u) / Y, rh, a, b, c, d, e))) = r) :
    L_Z_0 (Y, s, yn1, yn0, U, u, u0, U / yn1, U % yn1) k = r := by
  have h' := h
  obtain ⟨y, a, b, hu, d⟩ := h
  have lt := h'.lt
  have qm := Int.mul_ediv_add_emod U yn1
  have m0 := Int.emod_nonneg U (show yn1 ≠ 0 by omega)
  have m1 := Int.emod_lt_of_pos U (show 0 < yn1 by omega)
  have qn := Int.ediv_nonneg hu.1 (show 0 ≤ yn1 by omega)
  have start : (U * 4294967296 + u) / Y ≤ U / yn1 := by
    have e2 : (U * 4294967296 + u) / Y < U / yn1 + 1 := by
      refine Int.ediv_lt_of_lt_mul (by omega) ?_
      have e3 : (U / yn1 + 1) * Y = (yn1 * (U / yn1)) * 4294967296 + yn1 * 4294967296 + (U / yn1 + 1) * yn0 := by rw [y]; grind
      have := Int.mul_nonneg (show 0 ≤ U / yn1 + 1 by omega) b.1
      omega
    omega
  unfold L_Z_0
  refine loopK_inv (fun t x => ∃ (q rh : Int), 0 ≤ q ∧ q * yn1 + rh = U ∧ (U * 4294967296 + u) / Y ≤ q ∧ (2 - (t : Int)) * 2147483648 ≤ rh ∧ 0 ≤ rh ∧ rh < 4294967296 ∧ x = (Y, s, yn1, yn0, U, u, u0, q, rh)) ?_ 200 2 _ (by omega)
    ⟨U / yn1, U % yn1, qn, by rw [Int.mul_comm]; exact qm, start, by omega, m0, by omega, rfl⟩
  rintro t _ c ⟨q, rh, q0, e, l, tb, r0, r1, rfl⟩ hc
  have down : (U * 4294967296 + u) / Y ≤ q - 1 → 0 ≤ q - 1 → (q - 1) * yn1 + (rh + yn1) = U := fun _ _ => by
    have : (q - 1) * yn1 = q * yn1 - yn1 := by grind
    omega
  have qb : q ≤ 4294967298 := by
    rcases Int.lt_or_le q 4294967298 with k | k
    · omega
    · exfalso
      have := Int.mul_le_mul_of_nonneg_right k (show 0 ≤ yn1 by omega)
      omega
  have w1 : IntKind.wrap .u64 (rh + yn1) = rh + yn1 := by rw [wrap_u64]; omega
  by_cases c1 : q ≥ 4294967296
  · have d1 : (U * 4294967296 + u) / Y ≤ q - 1 := by omega
    have w2 : IntKind.wrap .u64 (q - 1) = q - 1 := by rw [wrap_u64]; omega
    have e2 := down d1 (by omega)
    simp only [S_Z_0, decide_eq_true c1, cond_true, w1, w2]
    by_cases c2 : rh + yn1 ≥ 4294967296
    · rw [decide_eq_true c2, cond_true, h'.out e2 (by omega) c2 d1]
      exact h1 _ _ _ _ _
    · rw [decide_eq_false c2, cond_false]
      have t1 : 1 ≤ t := by omega
      exact hc (t - 1) _ (by omega) ⟨q - 1, rh + yn1, by omega, e2, d1, by omega, by omega, by omega, rfl⟩
  · have pm : 0 ≤ q * yn0 ∧ q * yn0 < 18446744073709551616 := by
      refine ⟨Int.mul_nonneg q0 b.1, ?_⟩
      have := Int.mul_le_mul (show q ≤ 4294967295 by omega) (show yn0 ≤ 4294967295 by omega) b.1 (by omega)
      omega
    have w3 : IntKind.wrap .u64 (q * yn0) = q * yn0 := by rw [wrap_u64]; omega
    have w4 : IntKind.wrap .u64 (4294967296 * rh) = 4294967296 * rh := by rw [wrap_u64]; omega
    have w5 : IntKind.wrap .u64 (4294967296 * rh + u) = 4294967296 * rh + u := by rw [wrap_u64]; omega
    simp only [S_Z_0, decide_eq_false c1, cond_false, w1, w3, w4, w5]
    by_cases c3 : q * yn0 > 4294967296 * rh + u
    · have d1 := h'.down e c3
      have qp : 1 ≤ q := by
        rcases Int.lt_or_le 0 q with k | k
        · omega
        · exfalso
          have : q = 0 := by omega
          subst this
          omega
      have w2 : IntKind.wrap .u64 (q - 1) = q - 1 := by rw [wrap_u64]; omega
      have e2 := down d1 (by omega)
      rw [decide_eq_true c3, cond_true, w2]
      by_cases c2 : rh + yn1 ≥ 4294967296
      · rw [decide_eq_true c2, cond_true, h'.out e2 (by omega) c2 d1]
        exact h2 _ _ _ _ _ _ _ _ _
      · rw [decide_eq_false c2, cond_false]
        exact hc (t - 1) _ (by omega) ⟨q - 1, rh + yn1, by omega, e2, d1, by omega, by omega, by omega, rfl⟩
    · rw [decide_eq_false c3, cond_false, h'.stay e (by omega) l]
      exact h3 _ _ _ _ _ _
theorem div_l1 {ρ : Type} (Y s yn1 yn0 U u q1 : Int) (h : Dig Y yn1 yn0 U u) (k : _ → Option ρ) (r : Option ρ)
    (h1 : ∀ rh a b c d, k (Sum.inl (Y, s, yn1, yn0, u, q1, rh, U, (U * 4294967296 + u) / Y, a, b, c, d)) = r)
    (h2 : ∀ rh a b c d e f g i, k (Sum.inr (Sum.inl (Y, s, yn1, yn0, u, q1, rh, U, (U * 4294967296 + u) / Y, a, b, c, d, e, f, g, i))) = r)
    (h3 : ∀ rh a b c d e, k (Sum.inr (Sum.inr (Y, s, yn1, yn0, u, q1, rh, U, (U * 4294967296 + u) / Y, a, b, c, d, e))) = r) :
    L_Z_1 (Y, s, yn1, yn0, u, q1, U % yn1, U, U / yn1) k = r := by
  have h' := h
  obtain ⟨y, a, b, hu, d⟩ := h
  have lt := h'.lt
  have qm := Int.mul_ediv_add_emod U yn1
  have m0 := Int.emod_nonneg U (show yn1 ≠ 0 by omega)
  have m1 := Int.emod_lt_of_pos U (show 0 < yn1 by omega)
  have qn := Int.ediv_nonneg hu.1 (show 0 ≤ yn1 by omega)
  have start : (U * 4294967296 + u) / Y ≤ U / yn1 := by
    have e2 : (U * 4294967296 + u) / Y < U / yn1 + 1 := by
      refine Int.ediv_lt_of_lt_mul (by omega) ?_
      have e3 : (U / yn1 + 1) * Y = (yn1 * (U / yn1)) * 4294967296 + yn1 * 4294967296 + (U / yn1 + 1) * yn0 := by rw [y]; grind
      have := Int.mul_nonneg (show 0 ≤ U / yn1 + 1 by omega) b.1
      omega
    omega
  unfold L_Z_1
  refine loopK_inv (fun t x => ∃ (q rh : Int), 0 ≤ q ∧ q * yn1 + rh = U ∧ (U * 4294967296 + u) / Y ≤ q ∧ (2 - (t : Int)) * 2147483648 ≤ rh ∧ 0 ≤ rh ∧ rh < 4294967296 ∧ x = (Y, s, yn1, yn0, u, q1, rh, U, q)) ?_ 200 2 _ (by omega)
    ⟨U / yn1, U % yn1, qn, by rw [Int.mul_comm]; exact qm, start, by omega, m0, by omega, rfl⟩
  rintro t _ c ⟨q, rh, q0, e, l, tb, r0, r1, rfl⟩ hc
  have down : (U * 4294967296 + u) / Y ≤ q - 1 → 0 ≤ q - 1 → (q - 1) * yn1 + (rh + yn1) = U := fun _ _ => by
    have : (q - 1) * yn1 = q * yn1 - yn1 := by grind
    omega
  have qb : q ≤ 4294967298 := by
    rcases Int.lt_or_le q 4294967298 with k | k
    · omega
    · exfalso
      have := Int.mul_le_mul_of_nonneg_right k (show 0 ≤ yn1 by omega)
      omega
  have w1 : IntKind.wrap .u64 (rh + yn1) = rh + yn1 := by rw [wrap_u64]; omega
  by_cases c1 : q ≥ 4294967296
  · have d1 : (U * 4294967296 + u) / Y ≤ q - 1 := by omega
    have w2 : IntKind.wrap .u64 (q - 1) = q - 1 := by rw [wrap_u64]; omega
    have e2 := down d1 (by omega)
    simp only [S_Z_1, decide_eq_true c1, cond_true, w1, w2]
    by_cases c2 : rh + yn1 ≥ 4294967296
    · rw [decide_eq_true c2, cond_true, h'.out e2 (by omega) c2 d1]
      exact h1 _ _ _ _ _
    · rw [decide_eq_false c2, cond_false]
      have t1 : 1 ≤ t := by omega
      exact hc (t - 1) _ (by omega) ⟨q - 1, rh + yn1, by omega, e2, d1, by omega, by omega, by omega, rfl⟩
  · have pm : 0 ≤ q * yn0 ∧ q * yn0 < 18446744073709551616 := by
      refine ⟨Int.mul_nonneg q0 b.1, ?_⟩
      have := Int.mul_le_mul (show q ≤ 4294967295 by omega) (show yn0 ≤ 4294967295 by omega) b.1 (by omega)
      omega
    have w3 : IntKind.wrap .u64 (q * yn0) = q * yn0 := by rw [wrap_u64]; omega
    have w4 : IntKind.wrap .u64 (4294967296 * rh) = 4294967296 * rh := by rw [wrap_u64]; omega
    have w5 : IntKind.wrap .u64 (4294967296 * rh + u) = 4294967296 * rh + u := by rw [wrap_u64]; omega
    simp only [S_Z_1, decide_eq_false c1, cond_false, w1, w3, w4, w5]
    by_cases c3 : q * yn0 > 4294967296 * rh + u
    · have d1 := h'.down e c3
      have qp : 1 ≤ q := by
        rcases Int.lt_or_le 0 q with k | k
        · omega
        · exfalso
          have : q = 0 := by omega
          subst this
          omega
      have w2 : IntKind.wrap .u64 (q - 1) = q - 1 := by rw [wrap_u64]; omega
      have e2 := down d1 (by omega)
      rw [decide_eq_true c3, cond_true, w2]
      by_cases c2 : rh + yn1 ≥ 4294967296
      · rw [decide_eq_true c2, cond_true, h'.out e2 (by omega) c2 d1]
        exact h2 _ _ _ _ _ _ _ _ _
      · rw [decide_eq_false c2, cond_false]
        exact hc (t - 1) _ (by omega) ⟨q - 1, rh + yn1, by omega, e2, d1, by omega, by omega, by omega, rfl⟩
    · rw [decide_eq_false c3, cond_false, h'.stay e (by omega) l]
      exact h3 _ _ _ _ _ _
theorem div64_eq (hi lo y : Int) (h0 : 0 ≤ hi) (h1 : hi < y) (h2 : y < 18446744073709551616) (l0 : 0 ≤ lo) (l1 : lo < 18446744073709551616) :
    f_Z hi lo y = some ((hi * 18446744073709551616 + lo) / y, (hi * 18446744073709551616 + lo) % y) := by
  unfold f_Z K_Z
  have y0 : (y == 0) = false := by rw [beq_eq_false_iff_ne]; omega
  rw [y0, cond_false, decide_eq_false (show ¬ y ≤ hi by omega), cond_false]
  by_cases hz : hi = 0
  · subst hz
    have z : ((0 : Int) == 0) = true := rfl
    have yn : (!decide (y = 0)) = true := by rw [decide_eq_false (by omega)]; rfl
    rw [z, cond_true, yn, cond_true, cond_true, Int.zero_mul, Int.zero_add, Int.tdiv_eq_ediv_of_nonneg l0, Int.tmod_eq_emod_of_nonneg l0]
    have d0 := Int.ediv_nonneg l0 (show 0 ≤ y by omega)
    have d1 := Int.ediv_le_self y l0
    have w : IntKind.wrap .u64 (lo / y) = lo / y := by rw [wrap_u64]; omega
    rw [w]
  have z : (hi == 0) = false := by rw [beq_eq_false_iff_ne]; exact hz
  rw [z, cond_false]
  obtain ⟨s, s63, b0, b1, e⟩ := lead_64 y (by omega) h2
  rw [e, Option.bind_some]
  have P0 := pow_pos' s
  have Q0 := pow_pos' (64 - s)
  have k1 : IntKind.wrap .u64 (s : Int) = (s : Int) := by rw [wrap_u64]; omega
  have k2 : IntKind.wrap .u64 (64 - (s : Int)) = ((64 - s : Nat) : Int) := by rw [wrap_u64]; omega
  have k3 : ∀ n : Nat, (!decide ((n : Int) < 0)) = true := fun n => by rw [decide_eq_false (by omega)]; rfl
  have k4 : min (Int.toNat (s : Int)) 64 = s := by rw [Int.toNat_natCast]; omega
  have k5 : min (Int.toNat ((64 - s : Nat) : Int)) 64 = 64 - s := by rw [Int.toNat_natCast]; omega
  have k6 : IntKind.wrap .u64 (y * 2 ^ s) = y * 2 ^ s := by rw [wrap_u64]; omega
  simp only [k1, k2, k3, k4, k5, k6, cond_true]
  have pq : (18446744073709551616 : Int) = 2 ^ s * 2 ^ (64 - s) := by
    rw [← pow_add', show s + (64 - s) = 64 by omega]; rfl
  have ab : hi * 2 ^ s + 2 ^ s ≤ y * 2 ^ s := by
    have := Int.mul_le_mul_of_nonneg_right (show hi + 1 ≤ y by omega) (Int.le_of_lt P0)
    rw [Int.add_mul] at this; omega
  have a0 : 0 ≤ hi * 2 ^ s := Int.mul_nonneg h0 (Int.le_of_lt P0)
  have x0 : 0 ≤ lo / 2 ^ (64 - s) := Int.ediv_nonneg l0 (Int.le_of_lt Q0)
  have x1 : lo / 2 ^ (64 - s) < 2 ^ s := Int.ediv_lt_of_lt_mul Q0 (by rw [← pq]; exact l1)
  have k7 : IntKind.wrap .u64 (hi * 2 ^ s) = hi * 2 ^ s := by rw [wrap_u64]; omega
  have or1 : Int.ofNat (BitVec.toNat (BitVec.ofInt 64 (hi * 2 ^ s) ||| BitVec.ofInt 64 (Int.fdiv lo (2 ^ (64 - s))))) = hi * 2 ^ s + lo / 2 ^ (64 - s) := by
    rw [fdiv_pos _ _ (Int.le_of_lt Q0), BitVec.or_comm, or_apart _ _ s x0 x1 a0 (by omega) (by omega) (Int.mul_emod_left _ _)]
    omega
  have k8 : IntKind.wrap .u64 (hi * 2 ^ s + lo / 2 ^ (64 - s)) = hi * 2 ^ s + lo / 2 ^ (64 - s) := by rw [wrap_u64]; omega
  simp only [k7, or1, k8]
  rw [wrap_u64 (lo * 2 ^ s)]
  have c0 : 0 ≤ lo * 2 ^ s % 18446744073709551616 ∧ lo * 2 ^ s % 18446744073709551616 < 18446744073709551616 := by omega
  have N : (hi * 2 ^ s + lo / 2 ^ (64 - s)) * 18446744073709551616 + lo * 2 ^ s % 18446744073709551616 = (hi * 18446744073709551616 + lo) * 2 ^ s := by
    have m1 : lo * 2 ^ s / 18446744073709551616 = lo / 2 ^ (64 - s) := by
      rw [pq, Int.mul_comm lo, Int.mul_ediv_mul_of_pos _ _ P0]
    have m2 : lo * 2 ^ s = lo * 2 ^ s / 18446744073709551616 * 18446744073709551616 + lo * 2 ^ s % 18446744073709551616 := by omega
    have m3 : (hi * 18446744073709551616 + lo) * 2 ^ s = hi * 2 ^ s * 18446744073709551616 + lo * 2 ^ s := by grind
    rw [m3, ← m1]; omega
  have U1 : 0 ≤ hi * 2 ^ s + lo / 2 ^ (64 - s) ∧ hi * 2 ^ s + lo / 2 ^ (64 - s) < y * 2 ^ s := by omega
  have am1 : ∀ x : Int, 0 ≤ x → x < 18446744073709551616 → IntKind.wrap .u64 (Int.ofNat (BitVec.toNat (BitVec.ofInt 64 x &&& BitVec.ofInt 64 4294967295))) = x % 4294967296 := fun x x0 x1 => by
    rw [and_mask x x0 x1, wrap_u64]; omega
  rw [am1 (y * 2 ^ s) (by omega) b1, am1 _ c0.1 c0.2]
  simp only [fdiv_pos _ 4294967296 (show (0 : Int) ≤ 4294967296 by decide)]
  -- the answer, of what was shifted
  have A1 : (hi * 18446744073709551616 + lo) / y = (hi * 18446744073709551616 + lo) * 2 ^ s / (y * 2 ^ s) := by
    rw [Int.mul_comm _ (2 ^ s), Int.mul_comm y, Int.mul_ediv_mul_of_pos _ _ P0]
  have A2 : (hi * 18446744073709551616 + lo) % y = (hi * 18446744073709551616 + lo) * 2 ^ s % (y * 2 ^ s) / 2 ^ s := by
    rw [Int.mul_comm _ (2 ^ s), Int.mul_comm y, Int.mul_emod_mul_of_pos _ _ P0, Int.mul_ediv_cancel_left _ (by omega)]
  rw [A1, A2, ← N]
  generalize hi * 2 ^ s + lo / 2 ^ (64 - s) = U at *
  generalize lo * 2 ^ s % 18446744073709551616 = L at *
  generalize hY : y * 2 ^ s = Y at *
  generalize h2s : (2 : Int) ^ s = P at *
  clear N A1 A2 or1 k7 k8 x0 x1 ab a0 pq k6 e
  have hY1 : 2147483648 ≤ Y / 4294967296 ∧ Y / 4294967296 < 4294967296 := by omega
  have g1 : Dig Y (Y / 4294967296) (Y % 4294967296) U (L / 4294967296) := ⟨by omega, hY1, by omega, U1, by omega⟩
  have yz : (!decide (Y / 4294967296 = 0)) = true := by rw [decide_eq_false (by omega)]; rfl
  have Q1 := g1.lt
  have R1 := Int.mul_ediv_add_emod (U * 4294967296 + L / 4294967296) Y
  have R1a := Int.emod_nonneg (U * 4294967296 + L / 4294967296) (show Y ≠ 0 by omega)
  have R1b := Int.emod_lt_of_pos (U * 4294967296 + L / 4294967296) (show 0 < Y by omega)
  have q0 : IntKind.wrap .u64 (Int.tdiv U (Y / 4294967296)) = U / (Y / 4294967296) := by
    rw [Int.tdiv_eq_ediv_of_nonneg U1.1, wrap_u64]
    have := Int.ediv_nonneg U1.1 (show 0 ≤ Y / 4294967296 by omega)
    have := Int.ediv_le_self (Y / 4294967296) U1.1
    omega
  have r0 : IntKind.wrap .u64 (U - IntKind.wrap .u64 (U / (Y / 4294967296) * (Y / 4294967296))) = U % (Y / 4294967296) := by
    have qm := Int.ediv_mul_add_emod U (Y / 4294967296)
    have m0 := Int.emod_nonneg U (show Y / 4294967296 ≠ 0 by omega)
    have m1 := Int.emod_lt_of_pos U (show 0 < Y / 4294967296 by omega)
    rw [wrap_u64, wrap_u64]
    generalize U / (Y / 4294967296) * (Y / 4294967296) = A at *
    omega
  simp only [yz, cond_true, q0, r0]
  -- the second digit
  generalize hQ1 : (U * 4294967296 + L / 4294967296) / Y = q1 at *
  generalize hR1 : (U * 4294967296 + L / 4294967296) % Y = R at *
  have g2 : Dig Y (Y / 4294967296) (Y % 4294967296) R (L % 4294967296) := ⟨by omega, hY1, by omega, ⟨R1a, R1b⟩, by omega⟩
  have Q2 := g2.lt
  have R2 := Int.mul_ediv_add_emod (R * 4294967296 + L % 4294967296) Y
  have R2a := Int.emod_nonneg (R * 4294967296 + L % 4294967296) (show Y ≠ 0 by omega)
  have R2b := Int.emod_lt_of_pos (R * 4294967296 + L % 4294967296) (show 0 < Y by omega)
  generalize hQ2 : (R * 4294967296 + L % 4294967296) / Y = q2 at *
  generalize hR2 : (R * 4294967296 + L % 4294967296) % Y = R' at *
  have un : IntKind.wrap .u64 (IntKind.wrap .u64 (IntKind.wrap .u64 (U * 4294967296) + L / 4294967296) - IntKind.wrap .u64 (q1 * Y)) = R := by
    rw [Int.mul_comm q1 Y]
    simp only [wrap_u64]
    generalize Y * q1 = A at *
    omega
  have q3 : IntKind.wrap .u64 (Int.tdiv R (Y / 4294967296)) = R / (Y / 4294967296) := by
    rw [Int.tdiv_eq_ediv_of_nonneg R1a, wrap_u64]
    have := Int.ediv_nonneg R1a (show 0 ≤ Y / 4294967296 by omega)
    have := Int.ediv_le_self (Y / 4294967296) R1a
    omega
  have r3 : IntKind.wrap .u64 (R - IntKind.wrap .u64 (R / (Y / 4294967296) * (Y / 4294967296))) = R % (Y / 4294967296) := by
    have qm := Int.ediv_mul_add_emod R (Y / 4294967296)
    have m0 := Int.emod_nonneg R (show Y / 4294967296 ≠ 0 by omega)
    have m1 := Int.emod_lt_of_pos R (show 0 < Y / 4294967296 by omega)
    rw [wrap_u64, wrap_u64]
    generalize R / (Y / 4294967296) * (Y / 4294967296) = A at *
    omega
  have un2 : IntKind.wrap .u64 (IntKind.wrap .u64 (IntKind.wrap .u64 (R * 4294967296) + L % 4294967296) - IntKind.wrap .u64 (q2 * Y)) = R' := by
    rw [Int.mul_comm q2 Y]
    simp only [wrap_u64]
    generalize Y * q2 = A at *
    omega
  have quo : IntKind.wrap .u64 (IntKind.wrap .u64 (q1 * 4294967296) + q2) = q1 * 4294967296 + q2 := by
    simp only [wrap_u64]; omega
  have ans : (U * 18446744073709551616 + L) / Y = q1 * 4294967296 + q2 ∧ (U * 18446744073709551616 + L) % Y = R' := by
    have e : U * 18446744073709551616 + L = R' + Y * (q1 * 4294967296 + q2) := by
      have e2 : Y * (q1 * 4294967296 + q2) = Y * q1 * 4294967296 + Y * q2 := by grind
      rw [e2]; omega
    rw [e]
    constructor
    · rw [Int.add_mul_ediv_left _ _ (by omega), Int.ediv_eq_zero_of_lt R2a R2b, Int.zero_add]
    · rw [Int.add_mul_emod_self_left, Int.emod_eq_of_lt R2a R2b]
  rw [ans.1, ans.2]
  refine div_l0 Y s _ _ U _ _ g1 _ _ ?_ ?_ ?_
  all_goals
    intros
    simp only [Sum.elim_inl, Sum.elim_inr, hQ1, yz, cond_true, un, q3, r3]
    refine div_l1 Y s _ _ R _ _ g2 _ _ ?_ ?_ ?_
    all_goals
      intros
      simp only [Sum.elim_inl, Sum.elim_inr, hQ2, k3, cond_true, un2, quo, k4, h2s]
      rw [fdiv_pos _ _ (Int.le_of_lt P0)]
end Go.Proofs.Ytdpenjncfmkbgaa
set_option maxRecDepth 100000
set_option maxHeartbeats 4000000
set_option linter.unusedVariables false
set_option linter.unusedSimpArgs false
namespace Go.Proofs.Ytdpenjncfmkbgaa
open Go.Ab
theorem big_plus' (h1 l1 h2 l2 : Int) (a0 : 0 ≤ h1) (b0 : 0 ≤ l1) (c0 : 0 ≤ h2) (d0 : 0 ≤ l2) (b1 : l1 < 18446744073709551616) (d1 : l2 < 18446744073709551616)
    (h : h1 * 18446744073709551616 + l1 + (h2 * 18446744073709551616 + l2) < 340282366920938463463374607431768211456) :
    ∃ h' l', f_AN h1 l1 h2 l2 = some (h', l') ∧ 0 ≤ h' ∧ h' < 18446744073709551616 ∧ 0 ≤ l' ∧ l' < 18446744073709551616 ∧ h' * 18446744073709551616 + l' = h1 * 18446744073709551616 + l1 + (h2 * 18446744073709551616 + l2) := by
  rw [big_plus h1 l1 h2 l2 a0 b0 c0 d0 b1 d1]
  refine ⟨_, _, rfl, ?_, ?_, ?_, ?_, ?_⟩ <;> omega
theorem mul_nn {a b : Int} (ha : 0 ≤ a) (hb : 0 ≤ b) : 0 ≤ a * b := Int.mul_nonneg ha hb
def mgq (x : Int) : Int := if x < 0 then -x else x
theorem mgq_nn (x : Int) : 0 ≤ mgq x := by unfold mgq; split <;> omega
def qdq (V D : Int) : Int := V / D + (if 2 * (V % D) < D then 0 else 1)
def rdq (a d : Int) : Int := if (decide (a < 0)) = (decide (d < 0)) then qdq (mgq a) (mgq d) else -qdq (mgq a) (mgq d)
theorem wide_quo (h l d : Int) (o : okW h l) (d0 : -9223372036854775808 ≤ d) (d1 : d ≤ 9223372036854775807) (nz : d ≠ 0) :
    f_BR h l d = if -9223372036854775808 ≤ rdq (vW h l) d ∧ rdq (vW h l) d ≤ 9223372036854775807 then some (rdq (vW h l) d, true) else some (0, false) := by
  unfold f_BR K_BR
  have z : (d == 0) = false := by rw [beq_eq_false_iff_ne]; exact nz
  obtain ⟨ah, al, e1, a0, a1, a2, a3, a4⟩ := wide_abs h l o
  have e2 := abs64_eq d d0 d1
  rw [z, cond_false, e1, Option.bind_some, e2, Option.bind_some]
  simp only
  have D0 : 0 < mgq d := by unfold mgq; split <;> omega
  have D1 : mgq d ≤ 9223372036854775808 := by unfold mgq; split <;> omega
  have ed : (if d < 0 then -d else d) = mgq d := rfl
  have va : ah * 18446744073709551616 + al = mgq (vW h l) := by
    rw [a4]
    obtain ⟨o1, o2, o3, o4⟩ := o
    unfold mgq
    simp only [vW]
    split <;> split <;> omega
  have sn : decide (h < 0) = decide (vW h l < 0) := by
    obtain ⟨o1, o2, o3, o4⟩ := o
    simp only [vW]
    by_cases c : h < 0
    · rw [decide_eq_true c, decide_eq_true (by omega)]
    · rw [decide_eq_false c, decide_eq_false (by omega)]
  rw [ed, sn]
  generalize vW h l = V at *
  have nz2 : (!decide (mgq d = 0)) = true := by rw [decide_eq_false (by omega)]; rfl
  have r0 := Int.emod_nonneg ah (show mgq d ≠ 0 by omega)
  have r1 := Int.emod_lt_of_pos ah D0
  have q0 := Int.ediv_nonneg a0 (Int.le_of_lt D0)
  have q1 := Int.ediv_le_self (mgq d) a0
  have qe := Int.mul_ediv_add_emod ah (mgq d)
  have dv := div64_eq (ah % mgq d) al (mgq d) r0 r1 (by omega) a2 a3
  rw [nz2, cond_true, cond_true, Int.tmod_eq_emod_of_nonneg a0, dv, Option.bind_some, Int.tdiv_eq_ediv_of_nonneg a0]
  simp only
  have w1 : IntKind.wrap .u64 (ah / mgq d) = ah / mgq d := by rw [wrap_u64]; omega
  -- the quotient of the whole
  have E : mgq V = (ah % mgq d * 18446744073709551616 + al) + mgq d * (ah / mgq d * 18446744073709551616) := by
    rw [← va]
    have : mgq d * (ah / mgq d * 18446744073709551616) = mgq d * (ah / mgq d) * 18446744073709551616 := by grind
    rw [this]; omega
  have Q : mgq V / mgq d = (ah % mgq d * 18446744073709551616 + al) / mgq d + ah / mgq d * 18446744073709551616 := by
    rw [E, Int.add_mul_ediv_left _ _ (by omega)]
  have R : mgq V % mgq d = (ah % mgq d * 18446744073709551616 + al) % mgq d := by rw [E, Int.add_mul_emod_self_left]
  have n0 : 0 ≤ (ah % mgq d * 18446744073709551616 + al) / mgq d := Int.ediv_nonneg (by omega) (Int.le_of_lt D0)
  have n1 : (ah % mgq d * 18446744073709551616 + al) / mgq d < 18446744073709551616 := by
    refine Int.ediv_lt_of_lt_mul D0 ?_
    omega
  have t0 := Int.emod_nonneg (ah % mgq d * 18446744073709551616 + al) (show mgq d ≠ 0 by omega)
  have t1 := Int.emod_lt_of_pos (ah % mgq d * 18446744073709551616 + al) D0
  rw [← R] at t0 t1 ⊢
  have w2 : IntKind.wrap .u64 (mgq d - mgq V % mgq d) = mgq d - mgq V % mgq d := by rw [wrap_u64]; omega
  rw [w1, w2]
  have sgn : (!decide (V < 0) == decide (d < 0)) = !decide ((decide (V < 0)) = (decide (d < 0))) := by
    cases decide (V < 0) <;> cases decide (d < 0) <;> rfl
  have qn : 0 ≤ qdq (mgq V) (mgq d) := by
    have := mgq_nn V
    have := Int.ediv_nonneg this (Int.le_of_lt D0)
    unfold qdq; split <;> omega
  have fin : ∀ u v : Int, 0 ≤ u → 0 ≤ v → v < 18446744073709551616 → u * 18446744073709551616 + v = qdq (mgq V) (mgq d) →
      (Option.bind (f_AL u v (!decide (V < 0) == decide (d < 0))) fun (d : Int × Bool) => some (d.1, d.2)) = if -9223372036854775808 ≤ rdq V d ∧ rdq V d ≤ 9223372036854775807 then some (rdq V d, true) else some (0, false) := by
    intro u v u0 v0 v1 e
    rw [wide_signed64 u v _ u0 v0 v1, e, sgn]
    unfold rdq
    generalize qdq (mgq V) (mgq d) = q at *
    by_cases s : (decide (V < 0)) = (decide (d < 0))
    · rw [if_pos s, decide_eq_true s]
      simp only [Bool.not_true, Bool.false_eq_true, if_false]
      by_cases c : q ≤ 9223372036854775807
      · rw [if_pos c, if_pos (by omega), Option.bind_some]
        have uz : u = 0 := by omega
        subst uz
        have : v = q := by omega
        rw [this]
      · rw [if_neg c, if_neg (by omega), Option.bind_some]
    · rw [if_neg s, decide_eq_false s]
      simp only [Bool.not_false, if_true]
      by_cases c : q ≤ 9223372036854775808
      · rw [if_pos c, if_pos (by omega), Option.bind_some]
        have uz : u = 0 := by omega
        subst uz
        have : v = q := by omega
        rw [this]
      · rw [if_neg c, if_neg (by omega), Option.bind_some]
  by_cases c : mgq V % mgq d ≥ mgq d - mgq V % mgq d
  · rw [decide_eq_true c, cond_true]
    obtain ⟨u, v, e3, u0, u1, v0, v1, e4⟩ := big_plus' (ah / mgq d) ((ah % mgq d * 18446744073709551616 + al) / mgq d) 0 1 q0 n0 (by omega) (by omega) n1 (by omega) (by omega)
    rw [e3, Option.bind_some]
    simp only
    refine fin u v u0 v0 v1 ?_
    rw [e4]; unfold qdq
    rw [if_neg (by omega), Q]; omega
  · rw [decide_eq_false c, cond_false]
    refine fin _ _ q0 n0 n1 ?_
    unfold qdq
    rw [if_pos (by omega), Q]; omega
theorem rdq_sign (a d : Int) (nz : d ≠ 0) : ((decide (a < 0)) = (decide (d < 0)) → 0 ≤ rdq a d) ∧ (¬ (decide (a < 0)) = (decide (d < 0)) → rdq a d ≤ 0) := by
  have D0 : 0 < mgq d := by unfold mgq; split <;> omega
  have q := Int.ediv_nonneg (mgq_nn a) (Int.le_of_lt D0)
  have qn : 0 ≤ qdq (mgq a) (mgq d) := by unfold qdq; split <;> omega
  unfold rdq
  constructor
  · intro h; rw [if_pos h]; exact qn
  · intro h; rw [if_neg h]; omega
theorem acc_by (h l d : Int) (hit : Bool) (o : okW h l) (d0 : -9223372036854775808 ≤ d) (d1 : d ≤ 9223372036854775807) (nz : d ≠ 0) :
    f_BC h l d hit = some (sat (rdq (vW h l) d), hit || over (rdq (vW h l) d)) := by
  unfold f_BC K_BC
  have z : (d == 0) = false := by rw [beq_eq_false_iff_ne]; exact nz
  have sn : decide (h < 0) = decide (vW h l < 0) := by
    obtain ⟨o1, o2, o3, o4⟩ := o
    simp only [vW]
    by_cases c : h < 0
    · rw [decide_eq_true c, decide_eq_true (by omega)]
    · rw [decide_eq_false c, decide_eq_false (by omega)]
  rw [z, cond_false, wide_quo h l d o d0 d1 nz, sn]
  have s := rdq_sign (vW h l) d nz
  generalize vW h l = V at *
  by_cases c : -9223372036854775808 ≤ rdq V d ∧ rdq V d ≤ 9223372036854775807
  · rw [if_pos c, Option.bind_some]
    simp only [acc_end, if_true, Option.bind_some]
  · rw [if_neg c, Option.bind_some]
    simp only [acc_end, Bool.false_eq_true, if_false, Option.bind_some]
    by_cases e : (decide (V < 0)) = (decide (d < 0))
    · have p := s.1 e
      have e2 : (!decide (V < 0) == decide (d < 0)) = false := by rw [e, beq_self_eq_true]; rfl
      rw [e2]
      unfold sat over
      rw [if_neg (by decide), if_neg (by omega), if_pos (by omega), decide_eq_true (show 1152921504606846976 < rdq V d by omega), Bool.or_true, Bool.or_true]
    · have p := s.2 e
      have e2 : (!decide (V < 0) == decide (d < 0)) = true := by
        have : (decide (V < 0) == decide (d < 0)) = false := by rw [beq_eq_false_iff_ne]; exact e
        rw [this]; rfl
      rw [e2]
      unfold sat over
      rw [if_pos rfl, if_pos (by omega), decide_eq_true (show rdq V d < -1152921504606846976 by omega), Bool.true_or, Bool.or_true]
theorem acc_muldiv (a b d : Int) (hit : Bool) (nz : sat d ≠ 0) :
    f_AE a b d hit = some (sat (rdq (sat a * sat b) (sat d)), ((((hit || over a) || over b) || over d) || over (rdq (sat a * sat b) (sat d)))) := by
  unfold f_AE K_AE
  have := sat_le a
  have := sat_le b
  have := sat_le d
  obtain ⟨h, l, e1, e2, e3⟩ := wide_mul (sat a) (sat b) (by omega) (by omega) (by omega) (by omega)
  simp only [acc_sat, Option.bind_some, e1, acc_by h l (sat d) _ e2 (by omega) (by omega) nz, e3]
theorem acc_div (a b : Int) (s : Nat) (hit : Bool) (hs : s ≤ 66) (nz : sat b ≠ 0) :
    f_BN a b (Int.ofNat s) hit = some (sat (rdq (sat a * 2 ^ s) (sat b)), (((hit || over a) || over b) || over (rdq (sat a * 2 ^ s) (sat b)))) := by
  unfold f_BN K_BN
  have ha := sat_le a
  have hb := sat_le b
  have P0 := pow_pos' s
  have PB : (2 : Int) ^ s ≤ 2 ^ 66 := pow_le_pow hs
  have PV : (2 : Int) ^ 66 = 73786976294838206464 := by decide
  have m1 : sat a * 2 ^ s ≤ 1152921504606846976 * 73786976294838206464 := by
    rcases Int.le_total 0 (sat a) with c | c
    · exact Int.mul_le_mul ha.2 (by omega) (Int.le_of_lt P0) (by omega)
    · have := mul_nn (a := -sat a) (b := 2 ^ s) (by omega) (Int.le_of_lt P0)
      rw [Int.neg_mul] at this; omega
  have m2 : -(1152921504606846976 * 73786976294838206464) ≤ sat a * 2 ^ s := by
    rcases Int.le_total 0 (sat a) with c | c
    · have := mul_nn c (Int.le_of_lt P0); omega
    · have := Int.mul_le_mul (show -sat a ≤ 1152921504606846976 by omega) (show (2 : Int) ^ s ≤ 73786976294838206464 by omega) (Int.le_of_lt P0) (by omega)
      rw [Int.neg_mul] at this; omega
  have mv : (1152921504606846976 : Int) * 73786976294838206464 = 85070591730234615865843651857942052864 := by decide
  obtain ⟨h, l, b', e1, o1, f1, v1, _⟩ := wide_shift (sat a) s (by omega) (by omega) (by omega)
  have bt : b' = true := f1.2 ⟨by omega, by omega⟩
  subst bt
  have n0 : decide (Int.ofNat s < 0) = false := by simp
  have n1 : decide (Int.ofNat s > 66) = false := by simp only [Int.ofNat_eq_natCast]; exact decide_eq_false (by omega)
  simp only [acc_sat, Option.bind_some, n0, n1, cond_false, e1, acc_by h l (sat b) _ o1 (by omega) (by omega) nz, v1 rfl]
end Go.Proofs.Ytdpenjncfmkbgaa
set_option maxRecDepth 100000
set_option maxHeartbeats 4000000
set_option linter.unusedVariables false
set_option linter.unusedSimpArgs false
namespace Go.Proofs.Ytdpenjncfmkbgaa
open Go.Ab
theorem dv_ofInt (x : Nat) (h1 : x < 18446744073709551616) : (BitVec.ofInt 64 (x : Int)).toNat = x := by
  rw [BitVec.toNat_ofInt]
  simp only [Nat.reducePow, Int.cast_ofNat_Int]
  omega
theorem dv_or (x y k : Nat) (hx : x < 2 ^ k) (hx2 : x < 18446744073709551616) (hy : y < 18446744073709551616) (hm : y % 2 ^ k = 0) : BitVec.toNat (BitVec.ofInt 64 (y : Int) ||| BitVec.ofInt 64 (x : Int)) = y + x := by
  rw [BitVec.toNat_or, dv_ofInt x hx2, dv_ofInt y hy]
  have hq : y = 2 ^ k * (y / 2 ^ k) := (Nat.mul_div_cancel' (Nat.dvd_of_mod_eq_zero hm)).symm
  rw [hq, ← Nat.two_pow_add_eq_or_of_lt hx]
theorem dv_and1 (x : Nat) (h : x < 18446744073709551616) : BitVec.toNat (BitVec.ofInt 64 (x : Int) &&& BitVec.ofInt 64 1) = x % 2 := by
  rw [BitVec.toNat_and, dv_ofInt x h, show (BitVec.ofInt 64 1).toNat = 2 ^ 1 - 1 by decide, Nat.and_two_pow_sub_one_eq_mod]
theorem dv_and63 (x : Nat) (h : x < 18446744073709551616) : BitVec.toNat (BitVec.ofInt 64 (x : Int) &&& BitVec.ofInt 64 63) = x % 64 := by
  rw [BitVec.toNat_and, dv_ofInt x h, show (BitVec.ofInt 64 63).toNat = 2 ^ 6 - 1 by decide, Nat.and_two_pow_sub_one_eq_mod]
theorem dv_wu (x : Nat) (h : x < 18446744073709551616) : IntKind.wrap .u64 (Int.ofNat x) = (x : Int) := by
  rw [wrap_u64]; simp only [Int.ofNat_eq_natCast]; omega
theorem dv_bit (A D t : Nat) (hD : 0 < D) :
    A / 2 ^ t = 2 * (A / 2 ^ (t + 1)) + A / 2 ^ t % 2 ∧
    A / 2 ^ t % D = (if D ≤ 2 * (A / 2 ^ (t + 1) % D) + A / 2 ^ t % 2 then 2 * (A / 2 ^ (t + 1) % D) + A / 2 ^ t % 2 - D else 2 * (A / 2 ^ (t + 1) % D) + A / 2 ^ t % 2) ∧
    A / 2 ^ t / D * 2 ^ t = A / 2 ^ (t + 1) / D * 2 ^ (t + 1) + (if D ≤ 2 * (A / 2 ^ (t + 1) % D) + A / 2 ^ t % 2 then 2 ^ t else 0) := by
  have e1 : A / 2 ^ (t + 1) = A / 2 ^ t / 2 := by rw [Nat.pow_succ, Nat.div_div_eq_div_mul]
  have e2 : A / 2 ^ t = 2 * (A / 2 ^ (t + 1)) + A / 2 ^ t % 2 := by rw [e1]; omega
  generalize A / 2 ^ (t + 1) = B at *
  generalize A / 2 ^ t = C at *
  have hb : C % 2 < 2 := Nat.mod_lt _ (by omega)
  generalize C % 2 = b at *
  have hB := Nat.div_add_mod B D
  have hr := Nat.mod_lt B hD
  generalize B % D = r at *
  generalize B / D = q at *
  have hC : C = (2 * r + b) + D * (2 * q) := by
    rw [e2, ← hB]
    rw [Nat.mul_add, Nat.mul_left_comm]; omega
  refine ⟨e2, ?_, ?_⟩
  · rw [hC, Nat.add_mul_mod_self_left]
    split
    · rename_i h
      rw [Nat.mod_eq_sub_mod h, Nat.mod_eq_of_lt (by omega)]
    · exact Nat.mod_eq_of_lt (by omega)
  · rw [hC, Nat.add_mul_div_left _ _ hD]
    split
    · rename_i h
      have : (2 * r + b) / D = 1 := by
        rw [Nat.div_eq_of_lt_le (k := 1)] <;> omega
      rw [this, Nat.pow_succ, Nat.add_mul, Nat.one_mul]
      have : 2 * q * 2 ^ t = q * (2 ^ t * 2) := by rw [Nat.mul_comm 2 q, Nat.mul_assoc, Nat.mul_comm (2 ^ t) 2]
      omega
    · rename_i h
      rw [Nat.div_eq_of_lt (by omega), Nat.zero_add, Nat.add_zero, Nat.pow_succ, Nat.mul_comm 2 q, Nat.mul_assoc, Nat.mul_comm (2 ^ t) 2]
theorem dv_high (H L t : Nat) (hL : L < 2 ^ 64) (ht : 64 ≤ t) : (H * 2 ^ 64 + L) / 2 ^ t = H / 2 ^ (t - 64) := by
  have e : 2 ^ t = 2 ^ 64 * 2 ^ (t - 64) := by rw [← Nat.pow_add]; congr 1; omega
  rw [e, ← Nat.div_div_eq_div_mul, Nat.mul_comm H, Nat.mul_add_div (by decide), Nat.div_eq_of_lt hL, Nat.add_zero]
theorem dv_low (H L t : Nat) (ht : t < 64) : (H * 2 ^ 64 + L) / 2 ^ t % 2 = L / 2 ^ t % 2 := by
  have e : 2 ^ 64 = 2 ^ t * (2 * 2 ^ (63 - t)) := by rw [← Nat.pow_succ', ← Nat.pow_add]; congr 1; omega
  have e2 : H * 2 ^ 64 + L = 2 ^ t * (2 * (H * 2 ^ (63 - t))) + L := by
    rw [e]
    have : H * (2 ^ t * (2 * 2 ^ (63 - t))) = 2 ^ t * (2 * (H * 2 ^ (63 - t))) := by
      rw [Nat.mul_left_comm, Nat.mul_left_comm H 2]
    rw [this]
  rw [e2, Nat.mul_add_div (Nat.two_pow_pos t), Nat.mul_add_mod]
theorem dv_wuN (x : Nat) (h : x < 18446744073709551616) : IntKind.wrap .u64 (x : Int) = (x : Int) := dv_wu x h
theorem dv_sh (t : Nat) (ht : t < 128) : IntKind.wrap .u64 (IntKind.wrap .i64 ((BitVec.toNat (BitVec.ofInt 64 (t : Int) &&& BitVec.ofInt 64 63) : Nat) : Int)) = ((t % 64 : Nat) : Int) := by
  rw [dv_and63 t (by omega), wrap_i64 (by omega) (by omega), dv_wuN _ (by omega)]
theorem dv_pow (s : Nat) (hs : s < 64) : ((2 : Int) ^ min (Int.toNat ((s : Nat) : Int)) 64) = ((2 ^ s : Nat) : Int) := by
  rw [Int.toNat_natCast, Nat.min_eq_left (by omega)]
  simp
theorem dv_b (W s : Nat) (hW : W < 18446744073709551616) (hs : s < 64) : IntKind.wrap .u64 ((BitVec.toNat (BitVec.ofInt 64 (Int.fdiv (W : Int) (2 ^ min (Int.toNat ((s : Nat) : Int)) 64)) &&& BitVec.ofInt 64 1) : Nat) : Int) = ((W / 2 ^ s % 2 : Nat) : Int) := by
  rw [dv_pow s hs, Int.fdiv_eq_ediv_of_nonneg _ (Int.natCast_nonneg _), ← Int.natCast_ediv, dv_and1 _ (Nat.lt_of_le_of_lt (Nat.div_le_self _ _) hW), dv_wuN _ (by omega)]
theorem dv_r (r b : Nat) (hr : r < 9223372036854775808) (hb : b < 2) : IntKind.wrap .u64 ((BitVec.toNat (BitVec.ofInt 64 (IntKind.wrap .u64 ((r : Int) * 2)) ||| BitVec.ofInt 64 (b : Int)) : Nat) : Int) = ((2 * r + b : Nat) : Int) := by
  have e : IntKind.wrap .u64 ((r : Int) * 2) = ((2 * r : Nat) : Int) := by rw [wrap_u64]; omega
  rw [e, dv_or b (2 * r) 1 (by omega) (by omega) (by omega) (by omega), dv_wuN _ (by omega)]
theorem dv_set (Q s : Nat) (hs : s < 64) (hQ : Q + 2 ^ s < 18446744073709551616) (hm : Q % 2 ^ (s + 1) = 0) : IntKind.wrap .u64 ((BitVec.toNat (BitVec.ofInt 64 (Q : Int) ||| BitVec.ofInt 64 (IntKind.wrap .u64 (1 * 2 ^ min (Int.toNat ((s : Nat) : Int)) 64))) : Nat) : Int) = ((Q + 2 ^ s : Nat) : Int) := by
  have hp := Nat.two_pow_pos s
  have hp2 : 2 ^ s < 2 ^ (s + 1) := by rw [Nat.pow_succ]; omega
  rw [dv_pow s hs, Int.one_mul, dv_wuN (2 ^ s) (by omega), dv_or (2 ^ s) Q (s + 1) hp2 (by omega) (by omega) hm, dv_wuN _ hQ]
def dvQ (A D t : Nat) : Nat := A / 2 ^ t / D * 2 ^ t
theorem dvQ_le (A D t : Nat) : dvQ A D t ≤ A := Nat.le_trans (Nat.mul_le_mul_right _ (Nat.div_le_self _ _)) (Nat.div_mul_le_self _ _)
theorem dvQ_hi (A D t : Nat) (ht : 64 ≤ t) : dvQ A D t / 2 ^ 64 = A / 2 ^ t / D * 2 ^ (t - 64) ∧ dvQ A D t % 2 ^ 64 = 0 := by
  have e : 2 ^ t = 2 ^ (t - 64) * 2 ^ 64 := by rw [← Nat.pow_add]; congr 1; omega
  have : dvQ A D t = A / 2 ^ t / D * 2 ^ (t - 64) * 2 ^ 64 := by unfold dvQ; rw [Nat.mul_assoc, ← e]
  rw [this]
  exact ⟨Nat.mul_div_cancel _ (by decide), Nat.mul_mod_left _ _⟩
theorem dvQ_lo (A D t : Nat) (ht : t ≤ 64) : dvQ A D t % 2 ^ 64 % 2 ^ t = 0 := by
  have e : 2 ^ 64 = 2 ^ t * 2 ^ (64 - t) := by rw [← Nat.pow_add]; congr 1; omega
  rw [e, Nat.mod_mul_right_mod]
  unfold dvQ
  exact Nat.mul_mod_left _ _
theorem dv_room (M t : Nat) (ht : t < 64) (hM : M < 2 ^ 64) (hm : M % 2 ^ (t + 1) = 0) : M + 2 ^ t < 2 ^ 64 := by
  have h2 : 2 ^ 64 = 2 ^ (t + 1) * 2 ^ (64 - (t + 1)) := by rw [← Nat.pow_add]; congr 1; omega
  have h3 := Nat.div_add_mod M (2 ^ (t + 1))
  rw [hm, Nat.add_zero] at h3
  generalize M / 2 ^ (t + 1) = z at h3
  subst h3
  have h1 := hM
  rw [h2] at h1
  have h4 := Nat.lt_of_mul_lt_mul_left h1
  have h5 := Nat.mul_le_mul_left (2 ^ (t + 1)) (show z + 1 ≤ 2 ^ (64 - (t + 1)) from h4)
  rw [← h2, Nat.mul_add] at h5
  have h6 : 2 ^ (t + 1) = 2 * 2 ^ t := by rw [Nat.pow_succ]; omega
  have := Nat.two_pow_pos t
  omega
theorem ref_divided_loop (H L D : Nat) (neg : Bool) (hH : H < 2 ^ 64) (hL : L < 2 ^ 64) (hD : 0 < D) (hD2 : D < 2 ^ 63) (k : _ → Option (Int × Int × Bool)) :
    L_AH_0 ((D : Int), 0, 127, (H : Int), (L : Int), neg, 0, 0, neg) k = k ((D : Int), (((H * 2 ^ 64 + L) % D : Nat) : Int), -1, false, (H : Int), (L : Int), neg, (((H * 2 ^ 64 + L) / D / 2 ^ 64 : Nat) : Int), (((H * 2 ^ 64 + L) / D % 2 ^ 64 : Nat) : Int), neg) := by
  have hA : H * 2 ^ 64 + L < 2 ^ 128 := by omega
  obtain ⟨A, hAe⟩ : ∃ A, A = H * 2 ^ 64 + L := ⟨_, rfl⟩
  rw [← hAe] at hA ⊢
  unfold L_AH_0
  refine loopK_inv (fun t d => t ≤ 128 ∧ d = ((D : Int), ((A / 2 ^ t % D : Nat) : Int), (t : Int) - 1, (H : Int), (L : Int), neg, ((dvQ A D t / 2 ^ 64 : Nat) : Int), ((dvQ A D t % 2 ^ 64 : Nat) : Int), neg)) ?_ 200 128 _ (by omega) ⟨Nat.le_refl _, ?_⟩
  · rintro t _ c ⟨ht, rfl⟩ hc
    unfold S_AH_0
    cases t with
    | zero =>
      have e : decide (((0 : Nat) : Int) - 1 ≥ 0) = false := by decide
      have e0 : dvQ A D 0 = A / D := by unfold dvQ; rw [Nat.pow_zero, Nat.div_one, Nat.mul_one]
      rw [e, cond_false, e0, Nat.pow_zero, Nat.div_one]
      rfl
    | succ t =>
      have ei : ((t + 1 : Nat) : Int) - 1 = (t : Int) := by omega
      have e1 : decide ((t : Int) ≥ 0) = true := decide_eq_true (by omega)
      have e2 : decide (((t % 64 : Nat) : Int) < 0) = false := decide_eq_false (by omega)
      have e3 : IntKind.wrap .i64 ((t : Int) - 1) = (t : Int) - 1 := wrap_i64 (by omega) (by omega)
      obtain ⟨b1, b2, b3⟩ := dv_bit A D t hD
      have hr := Nat.mod_lt (A / 2 ^ (t + 1)) hD
      have hb : A / 2 ^ t % 2 < 2 := Nat.mod_lt _ (by omega)
      have hle := dvQ_le A D t
      change dvQ A D t = dvQ A D (t + 1) + _ at b3
      rw [ei]
      by_cases h64 : 64 ≤ t
      · have e4 : decide ((t : Int) ≥ 64) = true := decide_eq_true (by omega)
        have hs : t % 64 = t - 64 := by omega
        have hbit : H / 2 ^ (t % 64) % 2 = A / 2 ^ t % 2 := by rw [hs, hAe, dv_high H L t hL h64]
        have q1 := dvQ_hi A D (t + 1) (by omega)
        have q2 := dvQ_hi A D t h64
        simp only [Int.ofNat_eq_natCast, e1, e3, e4, dv_sh t (by omega), e2, dv_b H (t % 64) (by omega) (by omega), hbit, dv_r _ _ (show A / 2 ^ (t + 1) % D < 9223372036854775808 by omega) hb, cond_true, Bool.not_false]
        by_cases hge : D ≤ 2 * (A / 2 ^ (t + 1) % D) + A / 2 ^ t % 2
        · rw [if_pos hge] at b2 b3
          have e5 : decide (((2 * (A / 2 ^ (t + 1) % D) + A / 2 ^ t % 2 : Nat) : Int) ≥ (D : Int)) = true := decide_eq_true (by omega)
          have e6 : IntKind.wrap .u64 (((2 * (A / 2 ^ (t + 1) % D) + A / 2 ^ t % 2 : Nat) : Int) - (D : Int)) = ((A / 2 ^ t % D : Nat) : Int) := by
            rw [b2, wrap_u64]; omega
          have e7 : dvQ A D t / 2 ^ 64 = dvQ A D (t + 1) / 2 ^ 64 + 2 ^ (t % 64) := by
            have : 2 ^ t = 2 ^ 64 * 2 ^ (t - 64) := by rw [← Nat.pow_add]; congr 1; omega
            rw [b3, this, hs, Nat.add_mul_div_left _ _ (by decide)]
          have e8 := dv_set (dvQ A D (t + 1) / 2 ^ 64) (t % 64) (by omega) (by omega) (by
            rw [q1.1, hs, show t + 1 - 64 = t - 64 + 1 by omega]
            exact Nat.mul_mod_left _ _)
          rw [e5, cond_true, e6, e8, ← e7, q1.2]
          refine hc t _ (by omega) ⟨by omega, ?_⟩
          rw [q2.2]
        · rw [if_neg hge] at b2 b3
          have e5 : decide (((2 * (A / 2 ^ (t + 1) % D) + A / 2 ^ t % 2 : Nat) : Int) ≥ (D : Int)) = false := decide_eq_false (by omega)
          rw [e5, cond_false, ← b2]
          refine hc t _ (by omega) ⟨by omega, ?_⟩
          rw [b3, Nat.add_zero (dvQ A D (t + 1))]
      · have e4 : decide ((t : Int) ≥ 64) = false := decide_eq_false (by omega)
        have hs : t % 64 = t := Nat.mod_eq_of_lt (by omega)
        have hbit : L / 2 ^ (t % 64) % 2 = A / 2 ^ t % 2 := by rw [hs, hAe, dv_low H L t (by omega)]
        have q1 := dvQ_lo A D (t + 1) (by omega)
        simp only [Int.ofNat_eq_natCast, e1, e3, e4, dv_sh t (by omega), e2, dv_b L (t % 64) (by omega) (by omega), hbit, dv_r _ _ (show A / 2 ^ (t + 1) % D < 9223372036854775808 by omega) hb, cond_true, cond_false, Bool.not_false]
        by_cases hge : D ≤ 2 * (A / 2 ^ (t + 1) % D) + A / 2 ^ t % 2
        · rw [if_pos hge] at b2 b3
          have hlt : dvQ A D (t + 1) % 2 ^ 64 + 2 ^ t < 2 ^ 64 := dv_room _ t (by omega) (Nat.mod_lt _ (by decide)) q1
          have e5 : decide (((2 * (A / 2 ^ (t + 1) % D) + A / 2 ^ t % 2 : Nat) : Int) ≥ (D : Int)) = true := decide_eq_true (by omega)
          have e6 : IntKind.wrap .u64 (((2 * (A / 2 ^ (t + 1) % D) + A / 2 ^ t % 2 : Nat) : Int) - (D : Int)) = ((A / 2 ^ t % D : Nat) : Int) := by
            rw [b2, wrap_u64]; omega
          have e7 : dvQ A D t % 2 ^ 64 = dvQ A D (t + 1) % 2 ^ 64 + 2 ^ (t % 64) ∧ dvQ A D t / 2 ^ 64 = dvQ A D (t + 1) / 2 ^ 64 := by
            rw [b3, hs]; omega
          have e8 := dv_set (dvQ A D (t + 1) % 2 ^ 64) (t % 64) (by omega) (by rw [hs]; exact hlt) (by rw [hs]; exact q1)
          rw [e5, cond_true, e6, e8, ← e7.1, ← e7.2]
          exact hc t _ (by omega) ⟨by omega, rfl⟩
        · rw [if_neg hge] at b2 b3
          have e5 : decide (((2 * (A / 2 ^ (t + 1) % D) + A / 2 ^ t % 2 : Nat) : Int) ≥ (D : Int)) = false := decide_eq_false (by omega)
          rw [e5, cond_false, ← b2]
          refine hc t _ (by omega) ⟨by omega, ?_⟩
          rw [b3, Nat.add_zero (dvQ A D (t + 1))]
  · have : A / 2 ^ 128 = 0 := Nat.div_eq_of_lt hA
    unfold dvQ
    rw [this]
    simp
end Go.Proofs.Ytdpenjncfmkbgaa
set_option maxRecDepth 100000
set_option maxHeartbeats 4000000
set_option linter.unusedVariables false
set_option linter.unusedSimpArgs false
namespace Go.Proofs.Ytdpenjncfmkbgaa
open Go.Ab
theorem sat_id {x : Int} (h : -1152921504606846976 ≤ x ∧ x ≤ 1152921504606846976) : sat x = x ∧ over x = false := by
  unfold sat over
  have h1 : ¬ x < -1152921504606846976 := by omega
  have h2 : ¬ 1152921504606846976 < x := by omega
  simp [h1, h2]
theorem ref_clamp (a lo hi : Int) (hit : Bool) (h : lo ≤ hi) : f_AB a lo hi hit = some (if a < lo then lo else if hi < a then hi else a, hit || (decide (a < lo) || decide (hi < a))) := by
  unfold f_AB K_AB
  by_cases c : a < lo
  · have e : (lo != a) = true := by rw [bne_iff_ne]; omega
    rw [decide_eq_true c, cond_true, e, cond_true, if_pos c, Bool.true_or, Bool.or_true]
  · rw [decide_eq_false c, cond_false, decide_eq_false (show ¬ lo > hi by omega), cond_false, if_neg c, Bool.false_or]
    by_cases d : hi < a
    · have e : (hi != a) = true := by rw [bne_iff_ne]; omega
      rw [decide_eq_true (show a > hi from d), cond_true, e, cond_true, if_pos d, Bool.or_true]
    · rw [decide_eq_false (show ¬ a > hi from d), cond_false, bne_self_eq_false, cond_false, cond_false, if_neg d, Bool.or_false]
theorem ref_sat (x : Int) (hit : Bool) : f_S x hit = some (sat x, hit || over x) := by
  unfold f_S K_S
  rw [ref_clamp x _ _ hit (by omega), Option.bind_some]
  rfl
theorem ref_size (a : Int) (h0 : -1152921504606846976 ≤ a) (h1 : a ≤ 1152921504606846976) : f_AP a = some (if a < 0 then -a else a) := by
  unfold f_AP K_AP
  by_cases c : a < 0
  · rw [decide_eq_true c, cond_true, if_pos c, wrap_i64 (by omega) (by omega), wrap_u64]
    congr 1; omega
  · rw [decide_eq_false c, cond_false, if_neg c, wrap_u64]
    congr 1; omega
theorem ref_product (x y : Int) (x0 : 0 ≤ x) (x1 : x < 18446744073709551616) (y0 : 0 ≤ y) (y1 : y < 18446744073709551616) : f_Al x y = some (x * y / 18446744073709551616, x * y % 18446744073709551616) := by
  unfold f_Al K_Al
  rw [and_mask x x0 x1, and_mask y y0 y1]
  simp only [fdiv_pos _ 4294967296 (by decide), wrap_u64]
  have xe : x = x / 4294967296 * 4294967296 + x % 4294967296 := by omega
  have ye : y = y / 4294967296 * 4294967296 + y % 4294967296 := by omega
  have xh : 0 ≤ x / 4294967296 ∧ x / 4294967296 ≤ 4294967295 := by omega
  have yh : 0 ≤ y / 4294967296 ∧ y / 4294967296 ≤ 4294967295 := by omega
  have xl : 0 ≤ x % 4294967296 ∧ x % 4294967296 ≤ 4294967295 := by omega
  have yl : 0 ≤ y % 4294967296 ∧ y % 4294967296 ≤ 4294967295 := by omega
  have hxy : x * y = (x / 4294967296) * (y / 4294967296) * 18446744073709551616 + ((x / 4294967296) * (y % 4294967296) + (x % 4294967296) * (y / 4294967296)) * 4294967296 + (x % 4294967296) * (y % 4294967296) := by
    conv => lhs; rw [xe, ye]
    grind
  obtain ⟨A0, A1⟩ := mul_lt32 xh.1 xh.2 yh.1 yh.2
  obtain ⟨B0, B1⟩ := mul_lt32 xh.1 xh.2 yl.1 yl.2
  obtain ⟨C0, C1⟩ := mul_lt32 xl.1 xl.2 yh.1 yh.2
  obtain ⟨D0, D1⟩ := mul_lt32 xl.1 xl.2 yl.1 yl.2
  simp only [Int.emod_eq_of_lt xl.1 (show x % 4294967296 < 18446744073709551616 by omega), Int.emod_eq_of_lt yl.1 (show y % 4294967296 < 18446744073709551616 by omega)]
  rw [hxy]
  generalize x / 4294967296 * (y / 4294967296) = A at *
  generalize x / 4294967296 * (y % 4294967296) = B at *
  generalize x % 4294967296 * (y / 4294967296) = C at *
  generalize x % 4294967296 * (y % 4294967296) = D at *
  have r1 : A % 18446744073709551616 = A := Int.emod_eq_of_lt A0 (by omega)
  have r2 : B % 18446744073709551616 = B := Int.emod_eq_of_lt B0 (by omega)
  have r3 : C % 18446744073709551616 = C := Int.emod_eq_of_lt C0 (by omega)
  have r4 : D % 18446744073709551616 = D := Int.emod_eq_of_lt D0 (by omega)
  simp only [r1, r2, r3, r4]
  have r5 : (B + D / 4294967296) % 18446744073709551616 = B + D / 4294967296 := Int.emod_eq_of_lt (by omega) (by omega)
  simp only [r5]
  rw [and_mask (B + D / 4294967296) (by omega) (by omega), and_mask D D0 (by omega)]
  have r6 : (B + D / 4294967296) % 4294967296 % 18446744073709551616 = (B + D / 4294967296) % 4294967296 := Int.emod_eq_of_lt (by omega) (by omega)
  have r8 : D % 4294967296 % 18446744073709551616 = D % 4294967296 := Int.emod_eq_of_lt (by omega) (by omega)
  simp only [r6, r8]
  have r7 : (C + (B + D / 4294967296) % 4294967296) % 18446744073709551616 = C + (B + D / 4294967296) % 4294967296 := Int.emod_eq_of_lt (by omega) (by omega)
  simp only [r7]
  have z0 : 0 ≤ (C + (B + D / 4294967296) % 4294967296) * 4294967296 % 18446744073709551616 := by omega
  have key : Int.ofNat (BitVec.toNat (BitVec.ofInt 64 ((C + (B + D / 4294967296) % 4294967296) * 4294967296 % 18446744073709551616) ||| BitVec.ofInt 64 (D % 4294967296))) = D % 4294967296 + (C + (B + D / 4294967296) % 4294967296) * 4294967296 % 18446744073709551616 := by
    rw [BitVec.or_comm]
    refine or_apart _ _ 32 (by omega) ?_ z0 (by omega) (by omega) ?_
    · rw [show (2 : Int) ^ 32 = 4294967296 from rfl]; omega
    · rw [show (2 : Int) ^ 32 = 4294967296 from rfl]; omega
  rw [key]
  refine congrArg some (Prod.ext ?_ ?_)
  · simp only; omega
  · simp only; omega
abbrev okR (h l : Int) : Prop := 0 ≤ h ∧ h < 18446744073709551616 ∧ 0 ≤ l ∧ l < 18446744073709551616
def rV (h l : Int) (n : Bool) : Int := if n = true then -(h * 18446744073709551616 + l) else h * 18446744073709551616 + l
theorem ref_mul (a b : Int) (a0 : -1152921504606846976 ≤ a ∧ a ≤ 1152921504606846976) (b0 : -1152921504606846976 ≤ b ∧ b ≤ 1152921504606846976) :
    ∃ h l n, f_BG a b = some (h, l, n) ∧ okR h l ∧ rV h l n = a * b ∧ h * 18446744073709551616 + l ≤ 1329227995784915872903807060280344576 := by
  unfold f_BG K_BG
  rw [ref_size a a0.1 a0.2, Option.bind_some, ref_size b b0.1 b0.2, Option.bind_some]
  generalize hx : (if a < 0 then -a else a) = x
  generalize hy : (if b < 0 then -b else b) = y
  have x0 : 0 ≤ x ∧ x ≤ 1152921504606846976 := by split at hx <;> omega
  have y0 : 0 ≤ y ∧ y ≤ 1152921504606846976 := by split at hy <;> omega
  have p0 : 0 ≤ x * y := Int.mul_nonneg x0.1 y0.1
  have p1 : x * y ≤ 1329227995784915872903807060280344576 := by
    have := Int.mul_le_mul x0.2 y0.2 y0.1 (by omega)
    omega
  rw [ref_product x y x0.1 (by omega) y0.1 (by omega), Option.bind_some]
  have e4 : x * y / 18446744073709551616 * 18446744073709551616 + x * y % 18446744073709551616 = x * y := by omega
  refine ⟨_, _, _, rfl, ⟨by omega, by omega, by omega, by omega⟩, ?_, by rw [e4]; exact p1⟩
  unfold rV
  rw [e4]
  by_cases p : a < 0
  · by_cases q : b < 0
    · rw [if_pos p] at hx
      rw [if_pos q] at hy
      rw [decide_eq_true p, decide_eq_true q, if_neg (by decide), ← hx, ← hy, Int.neg_mul_neg]
    · rw [if_pos p] at hx
      rw [if_neg q] at hy
      rw [decide_eq_true p, decide_eq_false q, if_pos (by decide), ← hx, ← hy, Int.neg_mul, Int.neg_neg]
  · by_cases q : b < 0
    · rw [if_neg p] at hx
      rw [if_pos q] at hy
      rw [decide_eq_false p, decide_eq_true q, if_pos (by decide), ← hx, ← hy, Int.mul_neg, Int.neg_neg]
    · rw [if_neg p] at hx
      rw [if_neg q] at hy
      rw [decide_eq_false p, decide_eq_false q, if_neg (by decide), ← hx, ← hy]
theorem ref_less (a b c d : Int) (n m : Bool) (b0 : 0 ≤ b) (b1 : b < 18446744073709551616) (d0 : 0 ≤ d) (d1 : d < 18446744073709551616) :
    f_Ao a b n c d m = some (decide (a * 18446744073709551616 + b < c * 18446744073709551616 + d)) := by
  unfold f_Ao K_Ao
  by_cases h : a < c
  · have : a * 18446744073709551616 + b < c * 18446744073709551616 + d := by omega
    rw [decide_eq_true h, cond_true, decide_eq_true this]
  · rw [decide_eq_false h, cond_false]
    by_cases e : a = c
    · subst e
      rw [beq_self_eq_true, cond_true]
      congr 1
      by_cases k : b < d
      · rw [decide_eq_true k, decide_eq_true (by omega)]
      · rw [decide_eq_false k, decide_eq_false (by omega)]
    · have : ¬ a * 18446744073709551616 + b < c * 18446744073709551616 + d := by omega
      have e' : (a == c) = false := by rw [beq_eq_false_iff_ne]; exact e
      rw [e', cond_false, decide_eq_false this]
theorem ref_plus (h1 l1 h2 l2 : Int) (n : Bool) (o1 : okR h1 l1) (o2 : okR h2 l2) (b : h1 * 18446744073709551616 + l1 + (h2 * 18446744073709551616 + l2) < 340282366920938463463374607431768211456) :
    ∃ h l, f_AG h1 l1 n h2 l2 n = some (h, l, n) ∧ okR h l ∧ h * 18446744073709551616 + l = h1 * 18446744073709551616 + l1 + (h2 * 18446744073709551616 + l2) := by
  unfold f_AG K_AG
  obtain ⟨a1, a2, a3, a4⟩ := o1
  obtain ⟨b1, b2, b3, b4⟩ := o2
  simp only [beq_self_eq_true, cond_true, wrap_u64]
  by_cases c : (l1 + l2) % 18446744073709551616 < l1
  · rw [decide_eq_true c, cond_true]
    exact ⟨_, _, rfl, ⟨by omega, by omega, by omega, by omega⟩, by omega⟩
  · rw [decide_eq_false c, cond_false]
    exact ⟨_, _, rfl, ⟨by omega, by omega, by omega, by omega⟩, by omega⟩
theorem ref_sum (h1 l1 h2 l2 : Int) (n m : Bool) (o1 : okR h1 l1) (o2 : okR h2 l2) (b : h1 * 18446744073709551616 + l1 + (h2 * 18446744073709551616 + l2) < 340282366920938463463374607431768211456) :
    ∃ h l k, f_AG h1 l1 n h2 l2 m = some (h, l, k) ∧ okR h l ∧ rV h l k = rV h1 l1 n + rV h2 l2 m ∧ h * 18446744073709551616 + l ≤ h1 * 18446744073709551616 + l1 + (h2 * 18446744073709551616 + l2) := by
  by_cases s : n = m
  · subst s
    obtain ⟨h, l, e, o, v⟩ := ref_plus h1 l1 h2 l2 n o1 o2 b
    refine ⟨h, l, n, e, o, ?_, by omega⟩
    unfold rV
    cases n <;> simp only [Bool.false_eq_true, if_false, if_true] <;> omega
  · have e : (n == m) = false := by rw [beq_eq_false_iff_ne]; exact s
    obtain ⟨a1, a2, a3, a4⟩ := o1
    obtain ⟨b1, b2, b3, b4⟩ := o2
    unfold f_AG K_AG
    rw [e, cond_false, ref_less h1 l1 h2 l2 n m a3 a4 b3 b4, Option.bind_some]
    simp only [wrap_u64]
    have sg : rV h1 l1 n + rV h2 l2 m = if n = true then (h2 * 18446744073709551616 + l2) - (h1 * 18446744073709551616 + l1) else (h1 * 18446744073709551616 + l1) - (h2 * 18446744073709551616 + l2) := by
      unfold rV
      cases n <;> cases m <;> simp_all <;> omega
    have mm : m = !n := by cases n <;> cases m <;> simp_all
    rw [sg]
    by_cases c : h1 * 18446744073709551616 + l1 < h2 * 18446744073709551616 + l2
    · rw [decide_eq_true c, cond_true]
      by_cases d : l2 < l1
      · rw [decide_eq_true d, cond_true]
        refine ⟨_, _, _, rfl, ⟨by omega, by omega, by omega, by omega⟩, ?_, by omega⟩
        unfold rV
        rw [mm]
        cases n <;> simp only [Bool.not_true, Bool.not_false, Bool.false_eq_true, if_false, if_true] <;> omega
      · rw [decide_eq_false d, cond_false]
        refine ⟨_, _, _, rfl, ⟨by omega, by omega, by omega, by omega⟩, ?_, by omega⟩
        unfold rV
        rw [mm]
        cases n <;> simp only [Bool.not_true, Bool.not_false, Bool.false_eq_true, if_false, if_true] <;> omega
    · rw [decide_eq_false c, cond_false]
      by_cases d : l1 < l2
      · rw [decide_eq_true d, cond_true]
        refine ⟨_, _, _, rfl, ⟨by omega, by omega, by omega, by omega⟩, ?_, by omega⟩
        unfold rV
        cases n <;> simp only [Bool.false_eq_true, if_false, if_true] <;> omega
      · rw [decide_eq_false d, cond_false]
        refine ⟨_, _, _, rfl, ⟨by omega, by omega, by omega, by omega⟩, ?_, by omega⟩
        unfold rV
        cases n <;> simp only [Bool.false_eq_true, if_false, if_true] <;> omega
theorem ref_end (h l : Int) (n hit : Bool) (o : okR h l) : f_AW h l n hit = some (sat (rV h l n), hit || over (rV h l n)) := by
  obtain ⟨a1, a2, a3, a4⟩ := o
  unfold f_AW K_AW rV
  have big : 1152921504606846976 < h * 18446744073709551616 + l → (bif n then some ((-1152921504606846976 : Int), true) else some (1152921504606846976, true)) =
      some (sat (if n = true then -(h * 18446744073709551616 + l) else h * 18446744073709551616 + l), hit || over (if n = true then -(h * 18446744073709551616 + l) else h * 18446744073709551616 + l)) := fun k => by
    unfold sat over
    cases n
    · simp only [Bool.false_eq_true, if_false, cond_false]
      rw [if_neg (by omega), if_pos k, decide_eq_true k, Bool.or_true, Bool.or_true]
    · simp only [if_true, cond_true]
      rw [if_pos (by omega), decide_eq_true (show -(h * 18446744073709551616 + l) < -1152921504606846976 by omega), Bool.true_or, Bool.or_true]
  by_cases c : h > 0
  · rw [decide_eq_true c, cond_true]; exact big (by omega)
  · rw [decide_eq_false c, cond_false]
    by_cases d : l > 1152921504606846976
    · rw [decide_eq_true d, cond_true]; exact big (by omega)
    · rw [decide_eq_false d, cond_false]
      have hz : h = 0 := by omega
      subst hz
      have w : IntKind.wrap .i64 l = l := wrap_i64 (by omega) (by omega)
      rw [Int.zero_mul, Int.zero_add, w]
      cases n
      · have z := sat_id (x := l) (by omega)
        simp only [Bool.false_eq_true, if_false, cond_false, z.1, z.2, Bool.or_false]
      · have z := sat_id (x := -l) (by omega)
        have w2 : IntKind.wrap .i64 (0 - l) = -l := (wrap_i64 (by omega) (by omega)).trans (by omega)
        simp only [if_true, cond_true, z.1, z.2, Bool.or_false, w2]
end Go.Proofs.Ytdpenjncfmkbgaa
set_option maxRecDepth 100000
set_option maxHeartbeats 4000000
set_option linter.unusedVariables false
set_option linter.unusedSimpArgs false
namespace Go.Proofs.Ytdpenjncfmkbgaa
open Go.Ab
theorem ref_divided (h l : Int) (n : Bool) (D : Int) (o : okR h l) (b : h * 18446744073709551616 + l < 170141183460469231731687303715884105728) (d0 : 0 < D) (d1 : D < 9223372036854775808) :
    ∃ h' l', f_AH h l n D = some (h', l', n) ∧ okR h' l' ∧ h' * 18446744073709551616 + l' = qdq (h * 18446744073709551616 + l) D := by
  obtain ⟨a1, a2, a3, a4⟩ := o
  obtain ⟨H, rfl⟩ : ∃ H : Nat, h = (H : Int) := ⟨h.toNat, by omega⟩
  obtain ⟨L, rfl⟩ : ∃ L : Nat, l = (L : Int) := ⟨l.toNat, by omega⟩
  obtain ⟨E, rfl⟩ : ∃ E : Nat, D = (E : Int) := ⟨D.toNat, by omega⟩
  have hE : 0 < E := by omega
  have hA : ((H * 2 ^ 64 + L : Nat) : Int) = (H : Int) * 18446744073709551616 + L := by omega
  have hq : qdq ((H : Int) * 18446744073709551616 + L) E = (((H * 2 ^ 64 + L) / E : Nat) : Int) + (if 2 * (((H * 2 ^ 64 + L) % E : Nat) : Int) < (E : Int) then 0 else 1) := by
    unfold qdq
    rw [← hA, Int.natCast_ediv, Int.natCast_emod]
  rw [hq]
  unfold f_AH K_AH
  rw [ref_divided_loop H L E n (by omega) (by omega) hE (by omega)]
  have hQ : (H * 2 ^ 64 + L) / E ≤ H * 2 ^ 64 + L := Nat.div_le_self _ _
  have hR : (H * 2 ^ 64 + L) % E < E := Nat.mod_lt _ hE
  generalize (H * 2 ^ 64 + L) / E = Q at *
  generalize (H * 2 ^ 64 + L) % E = R at *
  have hw : IntKind.wrap .u64 ((E : Int) - (R : Int)) = (E : Int) - R := by rw [wrap_u64]; omega
  simp only [hw]
  by_cases hc : 2 * (R : Int) < (E : Int)
  · rw [if_pos hc, decide_eq_false (show ¬ (R : Int) ≥ (E : Int) - R by omega), cond_false]
    exact ⟨_, _, rfl, ⟨by omega, by omega, by omega, by omega⟩, by omega⟩
  · rw [if_neg hc, decide_eq_true (show (R : Int) ≥ (E : Int) - R by omega), cond_true]
    obtain ⟨h', l', e1, o1, e2⟩ := ref_plus ((Q / 2 ^ 64 : Nat) : Int) ((Q % 2 ^ 64 : Nat) : Int) 0 1 n ⟨by omega, by omega, by omega, by omega⟩ ⟨by omega, by omega, by omega, by omega⟩ (by omega)
    rw [e1]
    exact ⟨h', l', rfl, o1, by rw [e2]; omega⟩
theorem ref_muldiv (a b d : Int) (hit : Bool) (hd : 0 < sat d) :
    f_AQ a b d hit = some (sat (rdq (sat a * sat b) (sat d)), ((((hit || over a) || over b) || over d) || over (rdq (sat a * sat b) (sat d)))) := by
  unfold f_AQ K_AQ
  have sa := sat_le a
  have sb := sat_le b
  have sd := sat_le d
  obtain ⟨h, l, n, e1, o1, e2, e3⟩ := ref_mul (sat a) (sat b) sa sb
  have hz : (sat d == 0) = false := by rw [beq_eq_false_iff_ne]; omega
  have hneg : decide (sat d < 0) = false := decide_eq_false (by omega)
  have hn : (!n == false) = n := by cases n <;> rfl
  obtain ⟨h', l', e4, o4, e5⟩ := ref_divided h l n (sat d) o1 (by omega) hd (by omega)
  simp only [ref_sat, Option.bind_some, e1, hz, cond_false, ref_size (sat d) sd.1 sd.2, if_neg (show ¬ sat d < 0 by omega), hneg, hn, e4, ref_end h' l' n _ o4]
  have hv : rV h' l' n = rdq (sat a * sat b) (sat d) := by
    rw [← e2]
    have hV : 0 ≤ h * 18446744073709551616 + l := by
      obtain ⟨p1, p2, p3, p4⟩ := o1
      omega
    unfold rV rdq mgq
    rw [hneg, if_neg (show ¬ sat d < 0 by omega), e5]
    generalize h * 18446744073709551616 + l = V at *
    cases n
    · simp only [Bool.false_eq_true, if_false]
      rw [decide_eq_false (show ¬ V < 0 by omega), if_pos rfl, if_neg (show ¬ V < 0 by omega)]
    · simp only [if_true]
      by_cases hV0 : V = 0
      · subst hV0
        rw [show (-(0 : Int)) = 0 from rfl, decide_eq_false (show ¬ (0 : Int) < 0 by omega), if_pos rfl, if_neg (show ¬ (0 : Int) < 0 by omega)]
        unfold qdq
        rw [Int.zero_ediv, Int.zero_emod, if_pos (by omega)]
        rfl
      · rw [decide_eq_true (show -V < 0 by omega), if_neg (by decide), if_pos (show -V < 0 by omega), Int.neg_neg]
  rw [hv]
theorem muldiv_same (a b d : Int) (hit : Bool) (hd : 0 < sat d) : f_AQ a b d hit = f_AE a b d hit := by
  rw [ref_muldiv a b d hit hd, acc_muldiv a b d hit (by omega)]
end Go.Proofs.Ytdpenjncfmkbgaa
