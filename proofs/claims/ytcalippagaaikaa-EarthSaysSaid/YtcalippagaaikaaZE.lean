/-
  Numbers of 128 bits and clamped scalars in plain arithmetic. Products and sums of clamped scalars in plain arithmetic. The root of a number of 128 bits in plain arithmetic. Numbers of 128 bits: compared, turned, shifted, in plain arithmetic. Sums of clamped scalars in plain arithmetic.
-/
import Derived.Test.YtcalippagaaikaaZA
import Derived.Test.YtcalippagaaikaaAbInv
set_option maxRecDepth 100000
set_option maxHeartbeats 4000000
set_option linter.unusedVariables false
set_option linter.unusedSimpArgs false
namespace Go.Ab
theorem wrap_i64_eq (n : Int) : IntKind.wrap .i64 n = if 9223372036854775808 ≤ n % 18446744073709551616 then n % 18446744073709551616 - 18446744073709551616 else n % 18446744073709551616 := by
  unfold IntKind.wrap
  simp only [IntKind.signed, IntKind.bits, Bool.true_and, decide_eq_true_eq, show (2 : Int) ^ 64 = 18446744073709551616 from rfl, show (2 : Int) ^ (64 - 1) = 9223372036854775808 from rfl, ge_iff_le]
theorem fdiv_pos (a b : Int) (h : 0 ≤ b) : Int.fdiv a b = a / b := Int.fdiv_eq_ediv_of_nonneg a h
theorem ofInt_toNat (x : Int) (h0 : 0 ≤ x) (h1 : x < 18446744073709551616) : (BitVec.ofInt 64 x).toNat = x.toNat := by
  rw [BitVec.toNat_ofInt]
  congr 1
  simp only [Nat.reducePow, Int.cast_ofNat_Int]
  omega
theorem xor_all (x : Int) (h0 : 0 ≤ x) (h1 : x < 18446744073709551616) : Int.ofNat (BitVec.toNat (BitVec.ofInt 64 18446744073709551615 ^^^ BitVec.ofInt 64 x)) = 18446744073709551615 - x := by
  have e : BitVec.ofInt 64 18446744073709551615 = BitVec.allOnes 64 := by decide
  rw [e, BitVec.allOnes_xor, BitVec.toNat_not, ofInt_toNat x h0 h1]
  simp only [Int.ofNat_eq_natCast]
  omega
theorem and_mask (x : Int) (h0 : 0 ≤ x) (h1 : x < 18446744073709551616) : Int.ofNat (BitVec.toNat (BitVec.ofInt 64 x &&& BitVec.ofInt 64 4294967295)) = x % 4294967296 := by
  rw [BitVec.toNat_and, ofInt_toNat x h0 h1]
  have e : (BitVec.ofInt 64 4294967295).toNat = 2 ^ 32 - 1 := by decide
  rw [e, Nat.and_two_pow_sub_one_eq_mod]
  simp only [Int.ofNat_eq_natCast]
  omega
theorem or_apart (x y : Int) (k : Nat) (h0 : 0 ≤ x) (h1 : x < 2 ^ k) (h2 : 0 ≤ y) (h3 : y < 18446744073709551616) (h4 : x < 18446744073709551616) (h5 : y % 2 ^ k = 0) :
    Int.ofNat (BitVec.toNat (BitVec.ofInt 64 x ||| BitVec.ofInt 64 y)) = x + y := by
  rw [BitVec.toNat_or, ofInt_toNat x h0 h4, ofInt_toNat y h2 h3]
  obtain ⟨q, hq⟩ : ∃ q : Nat, y.toNat = 2 ^ k * q := by
    refine ⟨y.toNat / 2 ^ k, ?_⟩
    have : y.toNat % 2 ^ k = 0 := by
      have e : ((y.toNat % 2 ^ k : Nat) : Int) = y % 2 ^ k := by
        rw [Int.natCast_emod, Int.toNat_of_nonneg h2]
        simp
      omega
    exact (Nat.mul_div_cancel' (Nat.dvd_of_mod_eq_zero this)).symm
  have hx : x.toNat < 2 ^ k := by
    have e : ((2 ^ k : Nat) : Int) = (2 : Int) ^ k := by simp
    omega
  rw [hq, Nat.or_comm, ← Nat.two_pow_add_eq_or_of_lt hx, ← hq]
  simp only [Int.ofNat_eq_natCast]
  omega
end Go.Ab
namespace Go.Proofs.Ytcalippagaaikaa
open Go.Ab
abbrev okW (h l : Int) : Prop := -9223372036854775808 ≤ h ∧ h ≤ 9223372036854775807 ∧ 0 ≤ l ∧ l < 18446744073709551616
abbrev vW (h l : Int) : Int := h * 18446744073709551616 + l
theorem wide_of (x : Int) (h0 : -9223372036854775808 ≤ x) (h1 : x ≤ 9223372036854775807) : ∃ h l, f_BF x = some (h, l) ∧ okW h l ∧ vW h l = x := by
  unfold vW
  refine ⟨_, _, rfl, ?_, ?_⟩ <;> rw [wrap_u64, fdiv_pos _ _ (by omega)] <;> omega
theorem add64_eq (x y c : Int) (x0 : 0 ≤ x) (y0 : 0 ≤ y) (c0 : 0 ≤ c) (c1 : c ≤ 1) : f_BG x y c = some ((x + y + c) % 18446744073709551616, (x + y + c) / 18446744073709551616) := by
  unfold f_BG
  have h : Nat.ble c.toNat 1 = true := Nat.ble_eq_true_of_le (by omega)
  rw [h, cond_true]
  congr 1
  unfold addA addB
  simp only [Int.ofNat_eq_natCast, Prod.mk.injEq]
  constructor <;> omega
theorem wide_add (h1 l1 h2 l2 : Int) (o1 : okW h1 l1) (o2 : okW h2 l2) : ∃ h l b, f_Ax h1 l1 h2 l2 = some (h, l, b) ∧ okW h l ∧ (b = true ↔ -170141183460469231731687303715884105728 ≤ vW h1 l1 + vW h2 l2 ∧ vW h1 l1 + vW h2 l2 < 170141183460469231731687303715884105728) ∧ (b = true → vW h l = vW h1 l1 + vW h2 l2) := by
  obtain ⟨a1, a2, a3, a4⟩ := o1
  obtain ⟨b1, b2, b3, b4⟩ := o2
  unfold vW
  unfold f_Ax K_Ax
  rw [add64_eq l1 l2 0 a3 b3 (by omega) (by omega)]
  simp only [Option.bind_some, wrap_u64]
  rw [add64_eq _ _ _ (by omega) (by omega) (by omega) (by omega)]
  simp only [Option.bind_some]
  generalize hc : (l1 + l2 + 0) / 18446744073709551616 = c
  generalize hl : (l1 + l2 + 0) % 18446744073709551616 = l
  generalize hm : (h1 % 18446744073709551616 + h2 % 18446744073709551616 + c) % 18446744073709551616 = m
  have hw := wrap_i64_eq m
  generalize IntKind.wrap IntKind.i64 m = w at *
  have hw1 : w = m ∨ w = m - 18446744073709551616 := by split at hw <;> omega
  have hw2 : -9223372036854775808 ≤ w ∧ w ≤ 9223372036854775807 := by split at hw <;> omega
  by_cases n1 : h1 < 0
  · by_cases n2 : h2 < 0
    · have e : (!decide (h1 < 0) == decide (h2 < 0)) = false := by simp [n1, n2]
      simp only [e, cond_false]
      refine ⟨w, l, _, rfl, ⟨hw2.1, hw2.2, by omega, by omega⟩, ?_, ?_⟩
      · simp only [n1, decide_true, beq_true, decide_eq_true_eq]
        constructor <;> intro h <;> omega
      · simp only [n1, decide_true, beq_true, decide_eq_true_eq]
        intro h; omega
    · have e : (!decide (h1 < 0) == decide (h2 < 0)) = true := by simp [n1, n2]
      simp only [e, cond_true]
      refine ⟨w, l, _, rfl, ⟨hw2.1, hw2.2, by omega, by omega⟩, ?_, ?_⟩
      · simp only [true_iff]; constructor <;> omega
      · intro h; omega
  · by_cases n2 : h2 < 0
    · have e : (!decide (h1 < 0) == decide (h2 < 0)) = true := by simp [n1, n2]
      simp only [e, cond_true]
      refine ⟨w, l, _, rfl, ⟨hw2.1, hw2.2, by omega, by omega⟩, ?_, ?_⟩
      · simp only [true_iff]; constructor <;> omega
      · intro h; omega
    · have e : (!decide (h1 < 0) == decide (h2 < 0)) = false := by simp [n1, n2]
      simp only [e, cond_false]
      refine ⟨w, l, _, rfl, ⟨hw2.1, hw2.2, by omega, by omega⟩, ?_, ?_⟩
      · simp only [n1, decide_false, _root_.beq_false, Bool.not_eq_true', decide_eq_false_iff_not]
        constructor <;> intro h <;> omega
      · simp only [n1, decide_false, _root_.beq_false, Bool.not_eq_true', decide_eq_false_iff_not]
        intro h; omega
theorem wide_abs (h l : Int) (o : okW h l) : ∃ ah al, f_Ay h l = some (ah, al, decide (h < 0)) ∧ 0 ≤ ah ∧ ah ≤ 9223372036854775808 ∧ 0 ≤ al ∧ al < 18446744073709551616 ∧ ah * 18446744073709551616 + al = (if h < 0 then -vW h l else vW h l) := by
  obtain ⟨a1, a2, a3, a4⟩ := o
  unfold vW
  unfold f_Ay K_Ay
  by_cases n : h < 0
  · have e : decide (h ≥ 0) = false := decide_eq_false (by omega)
    simp only [e, cond_false, xor_all l a3 a4, wrap_u64]
    rw [xor_all (h % 18446744073709551616) (by omega) (by omega), add64_eq _ _ _ (by omega) (by omega) (by omega) (by omega)]
    simp only [Option.bind_some, n, decide_true, if_true]
    refine ⟨_, _, rfl, ?_, ?_, ?_, ?_, ?_⟩ <;> omega
  · have e : decide (h ≥ 0) = true := decide_eq_true (by omega)
    simp only [e, cond_true, wrap_u64, n, decide_false, if_false]
    refine ⟨_, _, rfl, ?_, ?_, ?_, ?_, ?_⟩ <;> omega
theorem big_plus (h1 l1 h2 l2 : Int) (a0 : 0 ≤ h1) (b0 : 0 ≤ l1) (c0 : 0 ≤ h2) (d0 : 0 ≤ l2) (b1 : l1 < 18446744073709551616) (d1 : l2 < 18446744073709551616) :
    f_AW h1 l1 h2 l2 = some ((h1 + h2 + (l1 + l2) / 18446744073709551616) % 18446744073709551616, (l1 + l2) % 18446744073709551616) := by
  unfold f_AW K_AW
  rw [add64_eq _ _ _ b0 d0 (by omega) (by omega)]
  simp only [Option.bind_some, Int.add_zero]
  rw [add64_eq _ _ _ a0 c0 (by omega) (by omega)]
  rfl
theorem shl_one (n : Nat) (hn : n < 126) : f_AS 0 1 (Int.ofNat n) = some (2 ^ n / 18446744073709551616, 2 ^ n % 18446744073709551616) := by
  have key : ∀ n : Fin 126, f_AS 0 1 (Int.ofNat n.val) = some ((2 : Int) ^ n.val / 18446744073709551616, (2 : Int) ^ n.val % 18446744073709551616) := by decide +kernel
  exact key ⟨n, hn⟩
theorem pow_pos' (n : Nat) : (0 : Int) < 2 ^ n := Int.pow_pos (by decide)
theorem big_shr (h l : Int) (s : Nat) (hs : s ≤ 126) (h0 : 0 ≤ h) (h1 : h < 18446744073709551616) (l0 : 0 ≤ l) (l1 : l < 18446744073709551616) :
    ∃ h' l', f_AQ h l (Int.ofNat s) = some (h', l') ∧ 0 ≤ h' ∧ 0 ≤ l' ∧ l' < 18446744073709551616 ∧ h' * 18446744073709551616 + l' = (h * 18446744073709551616 + l) / 2 ^ s := by
  unfold f_AQ K_AQ
  by_cases c : 64 ≤ s
  · have e : decide (Int.ofNat s ≥ 64) = true := by simp only [Int.ofNat_eq_natCast]; exact decide_eq_true (by omega)
    have e2 : IntKind.wrap .i64 (Int.ofNat s - 64) = Int.ofNat (s - 64) := (wrap_i64 (by simp only [Int.ofNat_eq_natCast]; omega) (by simp only [Int.ofNat_eq_natCast]; omega)).trans (by simp only [Int.ofNat_eq_natCast]; omega)
    have e3 : (!decide (Int.ofNat (s - 64) < 0)) = true := by simp
    have e4 : min (Int.toNat (Int.ofNat (s - 64))) 64 = s - 64 := by
      show min (s - 64) 64 = s - 64
      omega
    simp only [e, e2, e3, e4, cond_true]
    rw [fdiv_pos _ _ (Int.le_of_lt (pow_pos' _))]
    refine ⟨_, _, rfl, by omega, Int.ediv_nonneg h0 (Int.le_of_lt (pow_pos' _)), Int.lt_of_le_of_lt (Int.ediv_le_self _ h0) h1, ?_⟩
    have p : (2 : Int) ^ s = 18446744073709551616 * 2 ^ (s - 64) := by
      rw [show (18446744073709551616 : Int) = 2 ^ 64 from rfl, ← Int.pow_add]
      congr 1; omega
    rw [p, ← Int.ediv_ediv_of_nonneg (by decide)]
    have : (h * 18446744073709551616 + l) / 18446744073709551616 = h := by omega
    rw [this]; omega
  · have e : decide (Int.ofNat s ≥ 64) = false := by simp only [Int.ofNat_eq_natCast]; exact decide_eq_false (by omega)
    have e2 : IntKind.wrap .i64 (64 - Int.ofNat s) = Int.ofNat (64 - s) := (wrap_i64 (by simp only [Int.ofNat_eq_natCast]; omega) (by simp only [Int.ofNat_eq_natCast]; omega)).trans (by simp only [Int.ofNat_eq_natCast]; omega)
    have e3 : ∀ n, (!decide (Int.ofNat n < 0)) = true := by simp
    have e4 : min (Int.toNat (Int.ofNat (64 - s))) 64 = 64 - s := by
      show min (64 - s) 64 = 64 - s
      omega
    have e5 : min (Int.toNat (Int.ofNat s)) 64 = s := by
      show min s 64 = s
      omega
    simp only [e, e2, e3, e4, e5, cond_true, cond_false, wrap_u64]
    rw [fdiv_pos _ _ (Int.le_of_lt (pow_pos' _)), fdiv_pos _ _ (Int.le_of_lt (pow_pos' _))]
    have pq : (18446744073709551616 : Int) = 2 ^ s * 2 ^ (64 - s) := by
      rw [← Int.pow_add, show s + (64 - s) = 64 by omega]; rfl
    generalize hP : (2 : Int) ^ s = P at *
    generalize hQ : (2 : Int) ^ (64 - s) = Q at *
    have P0 : 0 < P := by rw [← hP]; exact pow_pos' s
    have Q0 : 0 < Q := by rw [← hQ]; exact pow_pos' (64 - s)
    have m : h * Q % 18446744073709551616 = h % P * Q := by
      rw [pq, Int.mul_comm h Q, Int.mul_comm P Q, Int.mul_emod_mul_of_pos _ _ Q0, Int.mul_comm]
    have x0 : 0 ≤ l / P := Int.ediv_nonneg l0 (Int.le_of_lt P0)
    have x1 : l / P < Q := Int.ediv_lt_of_lt_mul P0 (by rw [Int.mul_comm, ← pq]; exact l1)
    have y0 : 0 ≤ h % P := Int.emod_nonneg _ (by omega)
    have y1 : h % P < P := Int.emod_lt_of_pos _ P0
    have y2 : h % P * Q + Q ≤ 18446744073709551616 := by
      have : (h % P + 1) * Q ≤ P * Q := Int.mul_le_mul_of_nonneg_right (by omega) (Int.le_of_lt Q0)
      rw [Int.add_mul, ← pq] at this; omega
    have y3 : 0 ≤ h % P * Q := Int.mul_nonneg y0 (Int.le_of_lt Q0)
    have key : Int.ofNat (BitVec.toNat (BitVec.ofInt 64 (l / P) ||| BitVec.ofInt 64 (h * Q % 18446744073709551616))) = l / P + h % P * Q := by
      rw [m]
      exact or_apart _ _ (64 - s) x0 (by rw [hQ]; exact x1) y3 (by omega) (by omega) (by rw [hQ]; exact Int.mul_emod_left _ _)
    rw [key]
    have z : (l / P + h % P * Q) % 18446744073709551616 = l / P + h % P * Q := Int.emod_eq_of_lt (by omega) (by omega)
    rw [z]
    refine ⟨_, _, rfl, Int.ediv_nonneg h0 (Int.le_of_lt P0), by omega, by omega, ?_⟩
    have f1 : (h * 18446744073709551616 + l) / P = h * Q + l / P := by
      rw [pq, show h * (P * Q) + l = l + h * Q * P by rw [Int.mul_comm P Q, ← Int.mul_assoc, Int.add_comm], Int.add_mul_ediv_right _ _ (by omega)]
      omega
    have f2 : h / P * 18446744073709551616 = h / P * P * Q := by rw [pq, Int.mul_assoc]
    have f3 : h / P * P + h % P = h := Int.ediv_mul_add_emod h P
    rw [f1, f2]
    have f4 : (h / P * P + h % P) * Q = h * Q := by rw [f3]
    rw [Int.add_mul] at f4
    omega
theorem wide_signed64 (h l : Int) (neg : Bool) (h0 : 0 ≤ h) (l0 : 0 ≤ l) (l1 : l < 18446744073709551616) :
    f_AR h l neg = if h * 18446744073709551616 + l ≤ (if neg = true then 9223372036854775808 else 9223372036854775807) then some (if neg = true then -l else l, true) else some (0, false) := by
  unfold f_AR K_AR
  by_cases c : h = 0
  · subst c
    have e : ((0 : Int) != 0) = false := rfl
    simp only [e, cond_false, Int.zero_mul, Int.zero_add]
    cases neg
    · by_cases d : l > 9223372036854775807
      · have d2 : ¬ l ≤ 9223372036854775807 := by omega
        simp [d, d2]
      · have d2 : l ≤ 9223372036854775807 := by omega
        simp only [Bool.not_false, cond_true, d, decide_false, cond_false, Bool.false_eq_true, if_false, d2, if_true]
        rw [wrap_i64 (by omega) d2]
    · by_cases d : l > 9223372036854775808
      · have d2 : ¬ l ≤ 9223372036854775808 := by omega
        simp [d, d2]
      · have d2 : l ≤ 9223372036854775808 := by omega
        have e3 : IntKind.wrap .i64 (IntKind.wrap .u64 (0 - l)) = -l := by
          rw [wrap_u64, wrap_i64_eq]; split <;> omega
        have e4 : IntKind.wrap .i64 (IntKind.wrap .u64 (-l)) = -l := by
          rw [wrap_u64, wrap_i64_eq]; split <;> omega
        simp [d, d2, e3, e4]
  · have e : (h != 0) = true := by simp [c]
    have d2 : ¬ h * 18446744073709551616 + l ≤ (if neg = true then 9223372036854775808 else 9223372036854775807) := by split <;> omega
    simp only [e, cond_true, d2, if_false]
def half (s : Nat) : Int := if s = 0 then 0 else 2 ^ (s - 1)
def rnd (v : Int) (s : Nat) : Int := if v < 0 then -((-v + half s) / 2 ^ s) else (v + half s) / 2 ^ s
theorem half_le (s : Nat) (hs : s ≤ 126) : 0 ≤ half s ∧ half s ≤ 42535295865117307932921825928971026432 := by
  unfold half
  split
  · omega
  · refine ⟨Int.le_of_lt (pow_pos' _), ?_⟩
    have : (2 : Int) ^ (s - 1) ≤ 2 ^ 125 := by
      have h2 : (2 : Nat) ^ (s - 1) ≤ 2 ^ 125 := Nat.pow_le_pow_right (by decide) (by omega)
      have h3 : ((2 ^ (s - 1) : Nat) : Int) ≤ ((2 ^ 125 : Nat) : Int) := by exact_mod_cast h2
      simpa using h3
    exact this
theorem wide_round (h l : Int) (s : Nat) (hs : s ≤ 126) (o : okW h l) :
    f_Ak h l (Int.ofNat s) = if -9223372036854775808 ≤ rnd (vW h l) s ∧ rnd (vW h l) s ≤ 9223372036854775807 then some (rnd (vW h l) s, true) else some (0, false) := by
  unfold f_Ak K_Ak
  obtain ⟨ah, al, e1, a0, a1, a2, a3, a4⟩ := wide_abs h l o
  have n0 : decide (Int.ofNat s < 0) = false := by simp
  have n1 : decide (Int.ofNat s > 126) = false := by simp only [Int.ofNat_eq_natCast]; exact decide_eq_false (by omega)
  simp only [n0, n1, cond_false, e1, Option.bind_some]
  obtain ⟨hh0, hh1⟩ := half_le s hs
  -- what is shifted
  have fin : ∀ h' l' : Int, 0 ≤ h' → 0 ≤ l' → l' < 18446744073709551616 → h' * 18446744073709551616 + l' = ((if h < 0 then -vW h l else vW h l) + half s) / 2 ^ s →
      (f_AR h' l' (decide (h < 0))).bind (fun d => some (d.fst, d.snd)) = if -9223372036854775808 ≤ rnd (vW h l) s ∧ rnd (vW h l) s ≤ 9223372036854775807 then some (rnd (vW h l) s, true) else some (0, false) := by
    intro h' l' b0 b1 b2 b3
    rw [wide_signed64 h' l' _ b0 b1 b2]
    obtain ⟨o1, o2, o3, o4⟩ := o
    by_cases n : h < 0
    · have nv : vW h l < 0 := by show h * 18446744073709551616 + l < 0; omega
      simp only [n, decide_true, if_true] at b3 ⊢
      unfold rnd
      simp only [nv, if_true]
      rw [← b3]
      by_cases c : h' * 18446744073709551616 + l' ≤ 9223372036854775808
      · rw [if_pos c, if_pos (by omega)]
        simp only [Option.bind_some, Option.some.injEq, Prod.mk.injEq, and_true]; omega
      · rw [if_neg c, if_neg (by omega)]; rfl
    · have nv : ¬ vW h l < 0 := by show ¬ h * 18446744073709551616 + l < 0; omega
      simp only [n, decide_false, if_false, Bool.false_eq_true] at b3 ⊢
      unfold rnd
      simp only [nv, if_false]
      rw [← b3]
      by_cases c : h' * 18446744073709551616 + l' ≤ 9223372036854775807
      · rw [if_pos c, if_pos (by omega)]
        simp only [Option.bind_some, Option.some.injEq, Prod.mk.injEq, and_true]; omega
      · rw [if_neg c, if_neg (by omega)]; rfl
  by_cases z : s = 0
  · subst z
    have n2 : decide (Int.ofNat 0 > 0) = false := by decide
    simp only [n2, cond_false]
    obtain ⟨h', l', e2, b0, b1, b2, b3⟩ := big_shr ah al 0 (by omega) a0 (by omega) a2 a3
    rw [e2]
    simp only [Option.bind_some]
    exact fin h' l' b0 b1 b2 (by rw [b3, a4]; simp [half])
  · have n2 : decide (Int.ofNat s > 0) = true := by simp only [Int.ofNat_eq_natCast]; exact decide_eq_true (by omega)
    simp only [n2, cond_true]
    have n3 : IntKind.wrap .i64 (Int.ofNat s - 1) = Int.ofNat (s - 1) := (wrap_i64 (by simp only [Int.ofNat_eq_natCast]; omega) (by simp only [Int.ofNat_eq_natCast]; omega)).trans (by simp only [Int.ofNat_eq_natCast]; omega)
    have hf : half s = 2 ^ (s - 1) := by unfold half; rw [if_neg z]
    rw [n3, shl_one (s - 1) (by omega), ← hf]
    simp only [Option.bind_some]
    rw [big_plus _ _ _ _ a0 a2 (by omega) (by omega) a3 (by omega)]
    simp only [Option.bind_some]
    obtain ⟨h', l', e2, b0, b1, b2, b3⟩ := big_shr ((ah + half s / 18446744073709551616 + (al + half s % 18446744073709551616) / 18446744073709551616) % 18446744073709551616) ((al + half s % 18446744073709551616) % 18446744073709551616) s hs (by omega) (by omega) (by omega) (by omega)
    rw [e2]
    simp only [Option.bind_some]
    refine fin h' l' b0 b1 b2 ?_
    rw [b3, ← a4]
    congr 1
    omega
def sat (x : Int) : Int := if x < -1152921504606846976 then -1152921504606846976 else if 1152921504606846976 < x then 1152921504606846976 else x
def over (x : Int) : Bool := decide (x < -1152921504606846976) || decide (1152921504606846976 < x)
theorem sat_le (x : Int) : -1152921504606846976 ≤ sat x ∧ sat x ≤ 1152921504606846976 := by
  unfold sat; split <;> (try split) <;> omega
theorem acc_sat (x : Int) (hit : Bool) : f_AB x hit = some (sat x, hit || over x) := by
  unfold f_AB K_AB f_BZ K_BZ sat over
  have e : decide ((-1152921504606846976 : Int) > 1152921504606846976) = false := by decide
  by_cases c : x < -1152921504606846976
  · simp [e, c]
  · by_cases d : 1152921504606846976 < x
    · have d2 : x > 1152921504606846976 := d
      simp [e, c, d]
    · simp [e, c, d]
theorem acc_end (a : Int) (ok neg hit : Bool) : f_Ae a ok neg hit = if ok = true then some (sat a, hit || over a) else some (if neg = true then -1152921504606846976 else 1152921504606846976, true) := by
  unfold f_Ae K_Ae f_BD K_BD
  cases ok
  · cases neg <;> rfl
  · simp only [Bool.not_true, cond_false, acc_sat, Option.bind_some, if_true]
theorem acc_round (h l : Int) (s : Nat) (hit : Bool) (hs : s ≤ 120) (o : okW h l) : f_BR h l (Int.ofNat s) hit = some (sat (rnd (vW h l) s), hit || over (rnd (vW h l) s)) := by
  unfold f_BR K_BR
  have n0 : decide (Int.ofNat s < 0) = false := by simp
  have n1 : decide (Int.ofNat s > 120) = false := by simp only [Int.ofNat_eq_natCast]; exact decide_eq_false (by omega)
  simp only [n0, n1, cond_false, wide_round h l s (by omega) o]
  by_cases c : -9223372036854775808 ≤ rnd (vW h l) s ∧ rnd (vW h l) s ≤ 9223372036854775807
  · simp only [c, and_self, if_true, Option.bind_some, acc_end]
  · rw [if_neg c]
    simp only [Option.bind_some, acc_end, Bool.false_eq_true, if_false]
    have sg : (h < 0 → rnd (vW h l) s ≤ 0) ∧ (¬ h < 0 → 0 ≤ rnd (vW h l) s) := by
      obtain ⟨o1, o2, o3, o4⟩ := o
      obtain ⟨hh0, hh1⟩ := half_le s (by omega)
      have p := pow_pos' s
      unfold rnd
      refine ⟨fun n => ?_, fun n => ?_⟩
      · have nv : vW h l < 0 := by show h * 18446744073709551616 + l < 0; omega
        rw [if_pos nv]
        have : 0 ≤ (-vW h l + half s) / 2 ^ s := Int.ediv_nonneg (by omega) (Int.le_of_lt p)
        omega
      · have nv : ¬ vW h l < 0 := by show ¬ h * 18446744073709551616 + l < 0; omega
        rw [if_neg nv]
        exact Int.ediv_nonneg (by omega) (Int.le_of_lt p)
    unfold sat over
    by_cases n : h < 0
    · have := sg.1 n
      have c1 : rnd (vW h l) s < -1152921504606846976 := by omega
      simp [n, c1]
    · have := sg.2 n
      have c1 : ¬ rnd (vW h l) s < -1152921504606846976 := by omega
      have c2 : 1152921504606846976 < rnd (vW h l) s := by omega
      simp [n, c1, c2]
end Go.Proofs.Ytcalippagaaikaa
set_option maxRecDepth 100000
set_option maxHeartbeats 4000000
set_option linter.unusedVariables false
set_option linter.unusedSimpArgs false
namespace Go.Proofs.Ytcalippagaaikaa
open Go.Ab
theorem abs64_eq (x : Int) (h0 : -9223372036854775808 ≤ x) (h1 : x ≤ 9223372036854775807) : f_Ai x = some (if x < 0 then -x else x) := by
  unfold f_Ai K_Ai
  by_cases c : x < 0
  · simp only [c, decide_true, cond_true, if_true, wrap_u64, Option.some.injEq]; omega
  · simp only [c, decide_false, cond_false, if_false, wrap_u64, Option.some.injEq]; omega
theorem mul_lt32 {a b : Int} (a0 : 0 ≤ a) (a1 : a ≤ 4294967295) (b0 : 0 ≤ b) (b1 : b ≤ 4294967295) : 0 ≤ a * b ∧ a * b ≤ 18446744065119617025 := by
  refine ⟨Int.mul_nonneg a0 b0, ?_⟩
  have := Int.mul_le_mul a1 b1 b0 (by omega)
  omega
theorem mul64_eq (x y : Int) (x0 : 0 ≤ x) (x1 : x < 18446744073709551616) (y0 : 0 ≤ y) (y1 : y < 18446744073709551616) : f_BQ x y = some (x * y / 18446744073709551616, x * y % 18446744073709551616) := by
  unfold f_BQ K_BQ
  rw [and_mask x x0 x1, and_mask y y0 y1]
  simp only [fdiv_pos _ 4294967296 (by decide), wrap_u64]
  have xe : x = x / 4294967296 * 4294967296 + x % 4294967296 := by omega
  have ye : y = y / 4294967296 * 4294967296 + y % 4294967296 := by omega
  have xh : 0 ≤ x / 4294967296 ∧ x / 4294967296 ≤ 4294967295 := by omega
  have yh : 0 ≤ y / 4294967296 ∧ y / 4294967296 ≤ 4294967295 := by omega
  have xl : 0 ≤ x % 4294967296 ∧ x % 4294967296 ≤ 4294967295 := by omega
  have yl : 0 ≤ y % 4294967296 ∧ y % 4294967296 ≤ 4294967295 := by omega
  have hxy : x * y = (x / 4294967296) * (y / 4294967296) * 18446744073709551616 + ((x / 4294967296) * (y % 4294967296) + (x % 4294967296) * (y / 4294967296)) * 4294967296 + (x % 4294967296) * (y % 4294967296) := by
    conv => lhs; rw [xe, ye]
    generalize x / 4294967296 = a
    generalize x % 4294967296 = b
    generalize y / 4294967296 = c
    generalize y % 4294967296 = d
    rw [Int.add_mul, Int.mul_add, Int.mul_add, Int.add_mul]
    rw [show a * 4294967296 * (c * 4294967296) = a * c * 18446744073709551616 by rw [Int.mul_assoc, Int.mul_left_comm 4294967296 c, ← Int.mul_assoc, show (4294967296 : Int) * 4294967296 = 18446744073709551616 from rfl]]
    rw [show a * 4294967296 * d = a * d * 4294967296 by rw [Int.mul_assoc, Int.mul_comm 4294967296 d, ← Int.mul_assoc], show b * (c * 4294967296) = b * c * 4294967296 by rw [Int.mul_assoc]]
    omega
  obtain ⟨A0, A1⟩ := mul_lt32 xh.1 xh.2 yh.1 yh.2
  obtain ⟨B0, B1⟩ := mul_lt32 xh.1 xh.2 yl.1 yl.2
  obtain ⟨C0, C1⟩ := mul_lt32 xl.1 xl.2 yh.1 yh.2
  obtain ⟨D0, D1⟩ := mul_lt32 xl.1 xl.2 yl.1 yl.2
  simp only [Int.emod_eq_of_lt xl.1 (show x % 4294967296 < 18446744073709551616 by omega), Int.emod_eq_of_lt yl.1 (show y % 4294967296 < 18446744073709551616 by omega)]
  rw [hxy]
  generalize x / 4294967296 * (y / 4294967296) = A at *
  generalize x / 4294967296 * (y % 4294967296) = B at *
  generalize x % 4294967296 * (y / 4294967296) = C at *
  generalize x % 4294967296 * (y % 4294967296) = D at *
  have r1 : A % 18446744073709551616 = A := Int.emod_eq_of_lt A0 (by omega)
  have r2 : B % 18446744073709551616 = B := Int.emod_eq_of_lt B0 (by omega)
  have r3 : C % 18446744073709551616 = C := Int.emod_eq_of_lt C0 (by omega)
  have r4 : D % 18446744073709551616 = D := Int.emod_eq_of_lt D0 (by omega)
  simp only [r1, r2, r3, r4]
  have r5 : (B + D / 4294967296) % 18446744073709551616 = B + D / 4294967296 := Int.emod_eq_of_lt (by omega) (by omega)
  simp only [r5]
  rw [and_mask (B + D / 4294967296) (by omega) (by omega)]
  have r6 : (B + D / 4294967296) % 4294967296 % 18446744073709551616 = (B + D / 4294967296) % 4294967296 := Int.emod_eq_of_lt (by omega) (by omega)
  simp only [r6]
  have r7 : ((B + D / 4294967296) % 4294967296 + C) % 18446744073709551616 = (B + D / 4294967296) % 4294967296 + C := Int.emod_eq_of_lt (by omega) (by omega)
  simp only [r7]
  refine congrArg some (Prod.ext ?_ rfl)
  simp only
  omega
theorem wide_signed (h l : Int) (neg : Bool) (h0 : 0 ≤ h) (h1 : h < 9223372036854775808) (l0 : 0 ≤ l) (l1 : l < 18446744073709551616) :
    ∃ h' l' b, f_Ar h l neg = some (h', l', b) ∧ okW h' l' ∧ vW h' l' = if neg = true then -(h * 18446744073709551616 + l) else h * 18446744073709551616 + l := by
  unfold f_Ar K_Ar
  cases neg
  · refine ⟨_, _, _, rfl, ?_, ?_⟩
    · rw [wrap_i64 (by omega) (by omega)]; omega
    · rw [wrap_i64 (by omega) (by omega)]; rfl
  · simp only [Bool.not_true, cond_false, xor_all l l0 l1, wrap_u64, xor_all h h0 (by omega)]
    rw [add64_eq _ _ _ (by omega) (by omega) (by omega) (by omega)]
    simp only [Option.bind_some]
    generalize hm : (18446744073709551615 - h) % 18446744073709551616 + ((18446744073709551615 - l) % 18446744073709551616 + 1 + 0) / 18446744073709551616 = m
    have hw := wrap_i64_eq (m % 18446744073709551616)
    generalize IntKind.wrap IntKind.i64 (m % 18446744073709551616) = w at *
    have ok : okW w (((18446744073709551615 - l) % 18446744073709551616 + 1 + 0) % 18446744073709551616) ∧ vW w (((18446744073709551615 - l) % 18446744073709551616 + 1 + 0) % 18446744073709551616) = -(h * 18446744073709551616 + l) := by
      unfold vW
      refine ⟨⟨?_, ?_, ?_, ?_⟩, ?_⟩ <;> (split at hw <;> omega)
    cases decide (w < 0)
    · exact ⟨_, _, _, rfl, ok.1, by simp only [if_true]; exact ok.2⟩
    · exact ⟨_, _, _, rfl, ok.1, by simp only [if_true]; exact ok.2⟩
theorem wide_mul (a b : Int) (a0 : -9223372036854775808 ≤ a) (a1 : a ≤ 9223372036854775807) (b0 : -9223372036854775808 ≤ b) (b1 : b ≤ 9223372036854775807) : ∃ h l, f_Az a b = some (h, l) ∧ okW h l ∧ vW h l = a * b := by
  unfold f_Az K_Az
  simp only [abs64_eq a a0 a1, abs64_eq b b0 b1, Option.bind_some]
  generalize hx : (if a < 0 then -a else a) = x
  generalize hy : (if b < 0 then -b else b) = y
  have x0 : 0 ≤ x ∧ x ≤ 9223372036854775808 := by rw [← hx]; split <;> omega
  have y0 : 0 ≤ y ∧ y ≤ 9223372036854775808 := by rw [← hy]; split <;> omega
  have hp : 0 ≤ x * y := Int.mul_nonneg x0.1 y0.1
  have hq : x * y ≤ 85070591730234615865843651857942052864 := by
    have := Int.mul_le_mul x0.2 y0.2 y0.1 (by omega)
    omega
  rw [mul64_eq x y x0.1 (by omega) y0.1 (by omega)]
  simp only [Option.bind_some]
  obtain ⟨h, l, c, e1, e2, e3⟩ := wide_signed (x * y / 18446744073709551616) (x * y % 18446744073709551616) (!decide (a < 0) == decide (b < 0)) (by omega) (by omega) (by omega) (by omega)
  rw [e1]
  simp only [Option.bind_some]
  refine ⟨h, l, rfl, e2, ?_⟩
  have e4 : x * y / 18446744073709551616 * 18446744073709551616 + x * y % 18446744073709551616 = x * y := by omega
  rw [e3, e4]
  by_cases p : a < 0
  · by_cases q : b < 0
    · rw [if_pos p] at hx
      rw [if_pos q] at hy
      simp only [p, q, decide_true]
      rw [if_neg (by decide)]
      rw [← hx, ← hy, Int.neg_mul_neg]
    · rw [if_pos p] at hx
      rw [if_neg q] at hy
      simp only [p, q, decide_true, decide_false]
      rw [if_pos (by decide)]
      rw [← hx, ← hy, Int.neg_mul, Int.neg_neg]
  · by_cases q : b < 0
    · rw [if_neg p] at hx
      rw [if_pos q] at hy
      simp only [p, q, decide_true, decide_false]
      rw [if_pos (by decide)]
      rw [← hx, ← hy, Int.mul_neg, Int.neg_neg]
    · rw [if_neg p] at hx
      rw [if_neg q] at hy
      simp only [p, q, decide_false]
      rw [if_neg (by decide)]
      rw [← hx, ← hy]
theorem acc_mul (a b : Int) (s : Nat) (hit : Bool) (hs : s ≤ 120) : f_Ag a b (Int.ofNat s) hit = some (sat (rnd (sat a * sat b) s), hit || over a || over b || over (rnd (sat a * sat b) s)) := by
  unfold f_Ag K_Ag
  have := sat_le a
  have := sat_le b
  obtain ⟨h, l, e1, e2, e3⟩ := wide_mul (sat a) (sat b) (by omega) (by omega) (by omega) (by omega)
  simp only [acc_sat, Option.bind_some, e1, acc_round h l s _ hs e2, e3]
end Go.Proofs.Ytcalippagaaikaa
set_option maxRecDepth 100000
set_option maxHeartbeats 4000000
set_option linter.unusedVariables false
set_option linter.unusedSimpArgs false
namespace Go.Proofs.Ytcalippagaaikaa
open Go.Ab
def isR (r V : Int) : Prop := 0 ≤ r ∧ V ≤ r * r + r ∧ (r = 0 ∨ r * r - r < V)
theorem mul_nn {a b : Int} (ha : 0 ≤ a) (hb : 0 ≤ b) : 0 ≤ a * b := Int.mul_nonneg ha hb
theorem isR_le {r s V : Int} (h1 : isR r V) (h2 : isR s V) : s ≤ r := by
  obtain ⟨a1, a2, a3⟩ := h1
  obtain ⟨b1, b2, b3⟩ := h2
  rcases Int.lt_or_le r s with h | h
  · exfalso
    have p := mul_nn (a := s - r - 1) (b := s + r) (by omega) (by omega)
    have q : (s - r - 1) * (s + r) = s * s - s - (r * r + r) := by grind
    rcases b3 with b3 | b3
    · omega
    · omega
  · exact h
theorem isR_uniq {r s V : Int} (h1 : isR r V) (h2 : isR s V) : r = s := Int.le_antisymm (isR_le h2 h1) (isR_le h1 h2)
theorem sqrt_ex (n : Nat) : ∃ q : Nat, q * q ≤ n ∧ n < (q + 1) * (q + 1) := by
  induction n with
  | zero => exact ⟨0, by omega, by omega⟩
  | succ n ih =>
    obtain ⟨q, h1, h2⟩ := ih
    by_cases c : n + 1 < (q + 1) * (q + 1)
    · exact ⟨q, by omega, c⟩
    · refine ⟨q + 1, by omega, ?_⟩
      have : (q + 1 + 1) * (q + 1 + 1) = (q + 1) * (q + 1) + 2 * q + 3 := by grind
      omega
theorem sqrt_exI (V : Int) (h : 0 ≤ V) : ∃ q : Int, 0 ≤ q ∧ q * q ≤ V ∧ V < (q + 1) * (q + 1) := by
  obtain ⟨q, h1, h2⟩ := sqrt_ex V.toNat
  refine ⟨q, by omega, ?_, ?_⟩
  · have e : ((q * q : Nat) : Int) = (q : Int) * q := by simp
    omega
  · have e : (((q + 1) * (q + 1) : Nat) : Int) = ((q : Int) + 1) * (q + 1) := by simp
    omega
theorem sq_lt {a b : Int} (ha : 0 ≤ a) (hb : 0 ≤ b) (h : a * a < b * b) : a < b := by
  rcases Int.lt_or_le a b with c | c
  · exact c
  · exfalso
    have := Int.mul_le_mul c c hb (by omega)
    omega
theorem shl_one' (n : Nat) (hn : n < 128) : f_AS 0 1 (Int.ofNat n) = some (2 ^ n / 18446744073709551616, 2 ^ n % 18446744073709551616) := by
  have key : ∀ n : Fin 128, f_AS 0 1 (Int.ofNat n.val) = some ((2 : Int) ^ n.val / 18446744073709551616, (2 : Int) ^ n.val % 18446744073709551616) := by decide +kernel
  exact key ⟨n, hn⟩
theorem big_less (a b c d : Int) (b0 : 0 ≤ b) (b1 : b < 18446744073709551616) (d0 : 0 ≤ d) (d1 : d < 18446744073709551616) :
    f_Av a b c d = some (decide (a * 18446744073709551616 + b < c * 18446744073709551616 + d)) := by
  unfold f_Av K_Av
  by_cases h : a < c
  · have : a * 18446744073709551616 + b < c * 18446744073709551616 + d := by omega
    simp [h, this]
  · by_cases e : a = c
    · subst e
      have : (a * 18446744073709551616 + b < a * 18446744073709551616 + d) ↔ b < d := by omega
      simp [this]
    · have : ¬ a * 18446744073709551616 + b < c * 18446744073709551616 + d := by omega
      have e' : (a == c) = false := by simp [e]
      rw [decide_eq_false h, cond_false, e', cond_false, decide_eq_false this]
theorem sub64_eq (x y c : Int) (x0 : 0 ≤ x) (x1 : x < 18446744073709551616) (y0 : 0 ≤ y) (y1 : y < 18446744073709551616) (c0 : 0 ≤ c) (c1 : c ≤ 1) : f_Be x y c = some ((x - y - c) % 18446744073709551616, if x < y + c then 1 else 0) := by
  unfold f_Be
  have h : Nat.ble c.toNat 1 = true := Nat.ble_eq_true_of_le (by omega)
  rw [h, cond_true]
  congr 1
  unfold subA subB
  simp only [Int.ofNat_eq_natCast, Prod.mk.injEq]
  constructor
  · omega
  · split <;> split <;> omega
theorem big_minus (a b c d : Int) (a0 : 0 ≤ a) (a1 : a < 18446744073709551616) (b0 : 0 ≤ b) (b1 : b < 18446744073709551616) (c0 : 0 ≤ c) (c1 : c < 18446744073709551616) (d0 : 0 ≤ d) (d1 : d < 18446744073709551616)
    (h : c * 18446744073709551616 + d ≤ a * 18446744073709551616 + b) :
    ∃ h' l', f_BA a b c d = some (h', l') ∧ 0 ≤ h' ∧ h' < 18446744073709551616 ∧ 0 ≤ l' ∧ l' < 18446744073709551616 ∧ h' * 18446744073709551616 + l' = a * 18446744073709551616 + b - (c * 18446744073709551616 + d) := by
  unfold f_BA K_BA
  rw [sub64_eq b d 0 b0 b1 d0 d1 (by omega) (by omega)]
  simp only [Option.bind_some, Int.add_zero]
  by_cases k : b < d
  · rw [if_pos k, sub64_eq a c 1 a0 a1 c0 c1 (by omega) (by omega)]
    simp only [Option.bind_some]
    refine ⟨_, _, rfl, ?_, ?_, ?_, ?_, ?_⟩ <;> omega
  · rw [if_neg k, sub64_eq a c 0 a0 a1 c0 c1 (by omega) (by omega)]
    simp only [Option.bind_some]
    refine ⟨_, _, rfl, ?_, ?_, ?_, ?_, ?_⟩ <;> omega
theorem big_plus' (h1 l1 h2 l2 : Int) (a0 : 0 ≤ h1) (b0 : 0 ≤ l1) (c0 : 0 ≤ h2) (d0 : 0 ≤ l2) (b1 : l1 < 18446744073709551616) (d1 : l2 < 18446744073709551616)
    (h : h1 * 18446744073709551616 + l1 + (h2 * 18446744073709551616 + l2) < 340282366920938463463374607431768211456) :
    ∃ h' l', f_AW h1 l1 h2 l2 = some (h', l') ∧ 0 ≤ h' ∧ h' < 18446744073709551616 ∧ 0 ≤ l' ∧ l' < 18446744073709551616 ∧ h' * 18446744073709551616 + l' = h1 * 18446744073709551616 + l1 + (h2 * 18446744073709551616 + l2) := by
  rw [big_plus h1 l1 h2 l2 a0 b0 c0 d0 b1 d1]
  refine ⟨_, _, rfl, ?_, ?_, ?_, ?_, ?_⟩ <;> omega
theorem pow_le_pow {m n : Nat} (h : m ≤ n) : (2 : Int) ^ m ≤ 2 ^ n := by
  have h2 : (2 : Nat) ^ m ≤ 2 ^ n := Nat.pow_le_pow_right (by decide) h
  have h3 : ((2 ^ m : Nat) : Int) ≤ ((2 ^ n : Nat) : Int) := by exact_mod_cast h2
  simpa using h3
theorem wide_root (h l : Int) (o : okW h l) (h0 : 0 ≤ h) : ∃ r, isR r (vW h l) ∧ r < 18446744073709551616 ∧ f_Aa h l = if r ≤ 9223372036854775807 then some (r, true) else some (0, false) := by
  obtain ⟨o1, o2, o3, o4⟩ := o
  have v0 : 0 ≤ vW h l := by show 0 ≤ h * 18446744073709551616 + l; omega
  have v1 : vW h l < 170141183460469231731687303715884105728 := by show h * 18446744073709551616 + l < _; omega
  have hvv : h * 18446744073709551616 + l = vW h l := rfl
  generalize vW h l = V at *
  obtain ⟨q, q0, q1, q2⟩ := sqrt_exI V v0
  have qb : q < 13043817825332782213 := sq_lt q0 (by omega) (by omega)
  obtain ⟨r, hr⟩ : ∃ r, r = if q < V - q * q then q + 1 else q := ⟨_, rfl⟩
  have q3 : (q + 1) * (q + 1) = q * q + 2 * q + 1 := by grind
  refine ⟨r, ?_, by rw [hr]; split <;> omega, ?_⟩
  · rw [hr]
    split
    · rename_i c
      exact ⟨by omega, by omega, Or.inr (by omega)⟩
    · rename_i c
      refine ⟨q0, by omega, ?_⟩
      rcases Int.lt_or_le 0 q with k | k
      · exact Or.inr (by omega)
      · exact Or.inl (by omega)
  unfold f_Aa K_Aa L_Aa_0
  have n0 : decide (h < 0) = false := decide_eq_false (by omega)
  have n1 : IntKind.wrap .u64 h = h := by rw [wrap_u64]; omega
  rw [n0, cond_false, n1]
  refine loopK_inv (fun t d => ∃ (p c rh rl sh sl : Int), t ≤ 64 ∧ 0 ≤ p ∧ p = c * 2 ^ t ∧ p * p ≤ V ∧ V < (p + 2 ^ t) * (p + 2 ^ t) ∧ 0 ≤ rh ∧ rh < 18446744073709551616 ∧ 0 ≤ rl ∧ rl < 18446744073709551616 ∧ rh * 18446744073709551616 + rl = V - p * p ∧
      0 ≤ sh ∧ sh < 18446744073709551616 ∧ 0 ≤ sl ∧ sl < 18446744073709551616 ∧ sh * 18446744073709551616 + sl = p * 2 ^ t ∧ d = (2 * (t : Int) - 2, rh, rl, sh, sl)) ?_ 200 64 _ (by omega)
    ⟨0, 0, h, l, 0, 0, by omega, by omega, by omega, by omega, by
      have : (2 : Int) ^ 64 = 18446744073709551616 := rfl
      omega, by omega, by omega, by omega, by omega, by omega, by omega, by omega, by omega, by omega, by omega, rfl⟩
  rintro t _ k ⟨p, c, rh, rl, sh, sl, t0, p0, pc, p1, p2, r0, r1, r2, r3, r4, s0, s1, s2, s3, s4, rfl⟩ hk
  rcases Nat.eq_zero_or_pos t with z | z
  · subst z
    have e1 : (2 : Int) ^ 0 = 1 := rfl
    rw [e1] at p2 s4
    have pq : p = q := by
      have h1 : p < q + 1 := sq_lt p0 (by omega) (by omega)
      have h2 : q < p + 1 := sq_lt q0 (by omega) (by omega)
      omega
    subst pq
    have g0 : decide ((2 : Int) * ((0 : Nat) : Int) - 2 ≥ 0) = false := by decide
    simp only [S_Aa_0, g0, cond_false, big_less sh sl rh rl s2 s3 r2 r3, Option.bind_some]
    rw [s4, r4, Int.mul_one]
    by_cases cc : p < V - p * p
    · rw [decide_eq_true cc, cond_true]
      rw [if_pos cc] at hr
      obtain ⟨a, b, e2, a0, a1, b0, b1, e3⟩ := big_plus' sh sl 0 1 s0 s2 (by omega) (by omega) s3 (by omega) (by omega)
      rw [e2, Option.bind_some, wide_signed64 a b false a0 b0 b1, e3, hr]
      have e4 : sh * 18446744073709551616 + sl + (0 * 18446744073709551616 + 1) = p + 1 := by omega
      rw [e4]
      have az : a = 0 := by omega
      have e5 : b = p + 1 := by omega
      simp only [Bool.false_eq_true, if_false, e5]
      by_cases f : p + 1 ≤ 9223372036854775807
      · rw [if_pos f, Option.bind_some]
      · rw [if_neg f, Option.bind_some]
    · rw [decide_eq_false cc, cond_false]
      rw [if_neg cc] at hr
      rw [wide_signed64 sh sl false s0 s2 s3, s4, hr]
      have az : sh = 0 := by omega
      have e5 : sl = p := by omega
      simp only [Bool.false_eq_true, if_false, Int.mul_one, e5]
      by_cases f : p ≤ 9223372036854775807
      · rw [if_pos f, Option.bind_some]
      · rw [if_neg f, Option.bind_some]
  · obtain ⟨m, rfl⟩ : ∃ m, t = m + 1 := ⟨t - 1, by omega⟩
    have P2 : (2 : Int) ^ (m + 1) = 2 ^ m * 2 := Int.pow_succ _ _
    have PP : (2 : Int) ^ (2 * m) = 2 ^ m * 2 ^ m := by rw [← Int.pow_add]; congr 1; omega
    have P0 := pow_pos' m
    have PB : (2 : Int) ^ m ≤ 2 ^ 63 := pow_le_pow (by omega)
    have PBv : (2 : Int) ^ 63 = 9223372036854775808 := rfl
    have at0 : (2 : Int) * ((m + 1 : Nat) : Int) - 2 = Int.ofNat (2 * m) := by simp only [Int.ofNat_eq_natCast]; omega
    rw [at0]
    have g0 : decide (Int.ofNat (2 * m) ≥ 0) = true := decide_eq_true (by simp only [Int.ofNat_eq_natCast]; omega)
    have g1 : IntKind.wrap .i64 (Int.ofNat (2 * m) - 2) = 2 * (m : Int) - 2 := by
      simp only [Int.ofNat_eq_natCast]
      rw [wrap_i64 (by omega) (by omega)]
      omega
    simp only [S_Aa_0, g0, cond_true, shl_one' (2 * m) (by omega), Option.bind_some, g1]
    rw [PP]
    rw [P2] at pc p2 s4
    generalize hP : (2 : Int) ^ m = P at *
    have PPb : P * P ≤ 85070591730234615865843651857942052864 := by
      have := Int.mul_le_mul PB PB (by omega) (by omega)
      omega
    have PP0 : 0 < P * P := Int.mul_pos P0 P0
    -- what stands in r is no more than V
    have pb : p * P * 2 ≤ V := by
      rcases Int.lt_or_le 0 c with k0 | k0
      · have c1 : 1 * (P * 2) ≤ c * (P * 2) := Int.mul_le_mul_of_nonneg_right (by omega) (by omega)
        have c2 : p * (P * 2) ≤ p * p := Int.mul_le_mul_of_nonneg_left (by omega) p0
        have c3 : p * (P * 2) = p * P * 2 := by grind
        omega
      · have c1 : c * (P * 2) ≤ 0 * (P * 2) := Int.mul_le_mul_of_nonneg_right k0 (by omega)
        have : p = 0 := by omega
        subst this
        omega
    have s4' : sh * 18446744073709551616 + sl = p * P * 2 := by rw [s4]; grind
    obtain ⟨a, b, e2, a0, a1, b0, b1, e3⟩ := big_plus' sh sl (P * P / 18446744073709551616) (P * P % 18446744073709551616) s0 s2 (by omega) (by omega) s3 (by omega) (by omega)
    have e3' : a * 18446744073709551616 + b = p * P * 2 + P * P := by omega
    obtain ⟨u, v, e4, u0, v0, v1, e5⟩ := big_shr sh sl 1 (by omega) s0 s1 s2 s3
    have e4' : f_AQ sh sl 1 = some (u, v) := e4
    have e5' : u * 18446744073709551616 + v = p * P := by
      rw [e5, s4']
      show p * P * 2 / 2 ^ 1 = p * P
      rw [show (2 : Int) ^ 1 = 2 from rfl]; omega
    rw [e2, Option.bind_some, e4', Option.bind_some, big_less rh rl a b r2 r3 b0 b1, Option.bind_some, e3', r4]
    have dd : p * p + (p * P * 2 + P * P) = (p + P) * (p + P) := by grind
    by_cases cc : V - p * p < p * P * 2 + P * P
    · rw [decide_eq_true cc]
      simp only [Bool.not_true, cond_false]
      refine hk m _ (by omega) ⟨p, c * 2, rh, rl, u, v, by omega, p0, by rw [hP, pc]; grind, p1, by rw [hP]; omega, r0, r1, r2, r3, r4, u0, by omega, v0, v1, by rw [hP]; exact e5', rfl⟩
    · rw [decide_eq_false cc]
      simp only [Bool.not_false, cond_true]
      obtain ⟨x, y, e6, x0, x1, y0, y1, e7⟩ := big_minus rh rl a b r0 r1 r2 r3 a0 a1 b0 b1 (by omega)
      obtain ⟨w, z', e8, w0, w1, z0, z1, e9⟩ := big_plus' u v (P * P / 18446744073709551616) (P * P % 18446744073709551616) u0 v0 (by omega) (by omega) v1 (by omega) (by omega)
      rw [e6, Option.bind_some, e8, Option.bind_some]
      refine hk m _ (by omega) ⟨p + P, c * 2 + 1, x, y, w, z', by omega, by omega, by rw [hP, pc]; grind, by omega, ?_, x0, x1, y0, y1, by omega, w0, w1, z0, z1, ?_, rfl⟩
      · rw [hP]
        have : (p + P + P) * (p + P + P) = (p + P * 2) * (p + P * 2) := by grind
        omega
      · rw [hP]
        have : (p + P) * P = p * P + P * P := by grind
        omega
end Go.Proofs.Ytcalippagaaikaa
set_option maxRecDepth 100000
set_option maxHeartbeats 4000000
set_option linter.unusedVariables false
set_option linter.unusedSimpArgs false
namespace Go.Proofs.Ytcalippagaaikaa
open Go.Ab
theorem signed_eq (h l : Int) (neg : Bool) (h0 : 0 ≤ h) (h1 : h < 18446744073709551616) (l0 : 0 ≤ l) (l1 : l < 18446744073709551616) :
    ∃ h' l' b, f_Ar h l neg = some (h', l', b) ∧ okW h' l' ∧ (b = true ↔ if neg = true then h * 18446744073709551616 + l ≤ 170141183460469231731687303715884105728 else h * 18446744073709551616 + l < 170141183460469231731687303715884105728) ∧
      (b = true → vW h' l' = if neg = true then -(h * 18446744073709551616 + l) else h * 18446744073709551616 + l) := by
  unfold f_Ar K_Ar vW
  cases neg
  · have hw := wrap_i64_eq h
    rw [Int.emod_eq_of_lt h0 h1] at hw
    generalize IntKind.wrap IntKind.i64 h = w at *
    refine ⟨w, l, _, rfl, ⟨?_, ?_, l0, l1⟩, ?_, ?_⟩
    · split at hw <;> omega
    · split at hw <;> omega
    · rw [fdiv_pos _ _ (by omega), beq_iff_eq, if_neg (by decide)]
      constructor <;> intro _ <;> omega
    · rw [fdiv_pos _ _ (by omega), beq_iff_eq, if_neg (by decide)]
      intro _
      split at hw <;> omega
  · simp only [Bool.not_true, cond_false, xor_all l l0 l1, wrap_u64, xor_all h h0 h1]
    rw [add64_eq _ _ _ (by omega) (by omega) (by omega) (by omega)]
    simp only [Option.bind_some, if_true]
    generalize hm : ((18446744073709551615 - h) % 18446744073709551616 + ((18446744073709551615 - l) % 18446744073709551616 + 1 + 0) / 18446744073709551616) % 18446744073709551616 = m
    have hw := wrap_i64_eq m
    generalize IntKind.wrap IntKind.i64 m = w at *
    have m0 : 0 ≤ m ∧ m < 18446744073709551616 := by omega
    rw [Int.emod_eq_of_lt m0.1 m0.2] at hw
    have w0 : -9223372036854775808 ≤ w ∧ w ≤ 9223372036854775807 := by split at hw <;> omega
    have wm : (w < 0 ∧ w = m - 18446744073709551616) ∨ (0 ≤ w ∧ w = m) := by split at hw <;> omega
    clear hw
    by_cases c : w < 0
    · rw [decide_eq_true c, cond_true]
      refine ⟨_, _, _, rfl, ⟨w0.1, w0.2, by omega, by omega⟩, ?_, ?_⟩
      · simp only [true_iff]; omega
      · intro _; omega
    · rw [decide_eq_false c, cond_false]
      refine ⟨_, _, _, rfl, ⟨w0.1, w0.2, by omega, by omega⟩, ?_, ?_⟩
      · simp only [Bool.and_eq_true, beq_iff_eq, and_true]
        constructor <;> intro _ <;> omega
      · simp only [Bool.and_eq_true, beq_iff_eq, and_true]
        intro _; omega
theorem big_shl (d : Int) (s : Nat) (hs : s ≤ 127) (d0 : 0 ≤ d) (d1 : d < 18446744073709551616) :
    ∃ h' l', f_AS 0 d (Int.ofNat s) = some (h', l') ∧ 0 ≤ h' ∧ h' < 18446744073709551616 ∧ 0 ≤ l' ∧ l' < 18446744073709551616 ∧ h' * 18446744073709551616 + l' = d * 2 ^ s % 340282366920938463463374607431768211456 := by
  unfold f_AS K_AS
  by_cases c : 64 ≤ s
  · have e : decide (Int.ofNat s ≥ 64) = true := by simp only [Int.ofNat_eq_natCast]; exact decide_eq_true (by omega)
    have e2 : IntKind.wrap .i64 (Int.ofNat s - 64) = Int.ofNat (s - 64) := (wrap_i64 (by simp only [Int.ofNat_eq_natCast]; omega) (by simp only [Int.ofNat_eq_natCast]; omega)).trans (by simp only [Int.ofNat_eq_natCast]; omega)
    have e3 : (!decide (Int.ofNat (s - 64) < 0)) = true := by simp
    have e4 : min (Int.toNat (Int.ofNat (s - 64))) 64 = s - 64 := by
      show min (s - 64) 64 = s - 64
      omega
    simp only [e, e2, e3, e4, cond_true, wrap_u64]
    refine ⟨_, _, rfl, by omega, by omega, by omega, by omega, ?_⟩
    have p : (2 : Int) ^ s = 2 ^ (s - 64) * 18446744073709551616 := by
      rw [show (18446744073709551616 : Int) = 2 ^ 64 from rfl, ← Int.pow_add]
      congr 1; omega
    rw [p, ← Int.mul_assoc]
    generalize d * 2 ^ (s - 64) = x
    omega
  · have e : decide (Int.ofNat s ≥ 64) = false := by simp only [Int.ofNat_eq_natCast]; exact decide_eq_false (by omega)
    have e2 : IntKind.wrap .i64 (64 - Int.ofNat s) = Int.ofNat (64 - s) := (wrap_i64 (by simp only [Int.ofNat_eq_natCast]; omega) (by simp only [Int.ofNat_eq_natCast]; omega)).trans (by simp only [Int.ofNat_eq_natCast]; omega)
    have e3 : ∀ n, (!decide (Int.ofNat n < 0)) = true := by simp
    have e4 : min (Int.toNat (Int.ofNat (64 - s))) 64 = 64 - s := by
      show min (64 - s) 64 = 64 - s
      omega
    have e5 : min (Int.toNat (Int.ofNat s)) 64 = s := by
      show min s 64 = s
      omega
    simp only [e, e2, e3, e4, e5, cond_true, cond_false, wrap_u64, Int.zero_mul]
    rw [fdiv_pos _ _ (Int.le_of_lt (pow_pos' _))]
    have pq : (18446744073709551616 : Int) = 2 ^ s * 2 ^ (64 - s) := by
      rw [← Int.pow_add, show s + (64 - s) = 64 by omega]; rfl
    have P0 := pow_pos' s
    have Q0 := pow_pos' (64 - s)
    have x0 : 0 ≤ d / 2 ^ (64 - s) := Int.ediv_nonneg d0 (Int.le_of_lt Q0)
    have x1 : d / 2 ^ (64 - s) < 2 ^ s := Int.ediv_lt_of_lt_mul Q0 (by rw [← pq]; exact d1)
    have x2 : d / 2 ^ (64 - s) ≤ d := Int.ediv_le_self _ d0
    have z0 : (0 : Int) % 18446744073709551616 = 0 := rfl
    rw [z0]
    have key : Int.ofNat (BitVec.toNat (BitVec.ofInt 64 0 ||| BitVec.ofInt 64 (d / 2 ^ (64 - s)))) = d / 2 ^ (64 - s) := by
      rw [or_apart 0 (d / 2 ^ (64 - s)) 0 (by omega) (by decide) x0 (by omega) (by omega) (by rw [show (2 : Int) ^ 0 = 1 from rfl, Int.emod_one])]
      omega
    rw [key]
    refine ⟨_, _, rfl, by omega, by omega, by omega, by omega, ?_⟩
    have m1 : d * 2 ^ s / 18446744073709551616 = d / 2 ^ (64 - s) := by
      rw [pq, Int.mul_comm d, Int.mul_ediv_mul_of_pos _ _ P0]
    have b1 : d * 2 ^ s < 340282366920938463463374607431768211456 := by
      have := Int.mul_lt_mul_of_pos_right d1 P0
      have q : (2 : Int) ^ s ≤ 2 ^ 64 := pow_le_pow (by omega)
      have q2 : (2 : Int) ^ 64 = 18446744073709551616 := rfl
      have q3 : 18446744073709551616 * 2 ^ s ≤ (18446744073709551616 : Int) * 18446744073709551616 := Int.mul_le_mul_of_nonneg_left (by omega) (by omega)
      have q4 : (18446744073709551616 : Int) * 18446744073709551616 = 340282366920938463463374607431768211456 := by decide
      omega
    have b0 : 0 ≤ d * 2 ^ s := Int.mul_nonneg d0 (Int.le_of_lt P0)
    rw [Int.emod_eq_of_lt b0 b1]
    have x3 : d / 2 ^ (64 - s) % 18446744073709551616 = d / 2 ^ (64 - s) := Int.emod_eq_of_lt x0 (by omega)
    rw [x3, ← m1]
    omega
theorem wide_shift (a : Int) (s : Nat) (hs : s ≤ 127) (a0 : -9223372036854775808 ≤ a) (a1 : a ≤ 9223372036854775807) :
    ∃ h l b, f_Aw a (Int.ofNat s) = some (h, l, b) ∧ okW h l ∧ (b = true ↔ -170141183460469231731687303715884105728 ≤ a * 2 ^ s ∧ a * 2 ^ s < 170141183460469231731687303715884105728) ∧ (b = true → vW h l = a * 2 ^ s) ∧ (b = false → h = 0 ∧ l = 0) := by
  unfold f_Aw K_Aw
  have n0 : decide (Int.ofNat s < 0) = false := by simp
  have n1 : decide (Int.ofNat s > 127) = false := by simp only [Int.ofNat_eq_natCast]; exact decide_eq_false (by omega)
  rw [n0, cond_false, n1, cond_false, abs64_eq a a0 a1, Option.bind_some]
  generalize hd : (if a < 0 then -a else a) = d
  have d0 : 0 ≤ d ∧ d ≤ 9223372036854775808 := by split at hd <;> omega
  obtain ⟨u, v, e1, u0, u1, v0, v1, e2⟩ := big_shl d s hs d0.1 (by omega)
  rw [e1, Option.bind_some]
  simp only
  have P0 := pow_pos' s
  have D0 : 0 ≤ d * 2 ^ s := Int.mul_nonneg d0.1 (Int.le_of_lt P0)
  have sg : (a < 0 → a * 2 ^ s = -(d * 2 ^ s)) ∧ (¬ a < 0 → a * 2 ^ s = d * 2 ^ s) := by
    constructor <;> intro h
    · rw [if_pos h] at hd
      rw [← hd, Int.neg_mul, Int.neg_neg]
    · rw [if_neg h] at hd
      rw [hd]
  have nofit : ∀ {b : Bool}, b = false → ¬ d * 2 ^ s < 340282366920938463463374607431768211456 → (b = true ↔ -170141183460469231731687303715884105728 ≤ a * 2 ^ s ∧ a * 2 ^ s < 170141183460469231731687303715884105728) := by
    intro b hb hn
    rw [hb]
    refine iff_of_false Bool.false_ne_true fun h => ?_
    by_cases n : a < 0
    · have := sg.1 n; omega
    · have := sg.2 n; omega
  have fin : d * 2 ^ s < 340282366920938463463374607431768211456 → ∃ h l b, (Option.bind (f_Ar u v (decide (a < 0))) fun (d : Int × Int × Bool) => bif !d.2.2 then some (0, 0, false) else some (d.1, d.2.1, true)) = some (h, l, b) ∧ okW h l ∧ (b = true ↔ -170141183460469231731687303715884105728 ≤ a * 2 ^ s ∧ a * 2 ^ s < 170141183460469231731687303715884105728) ∧ (b = true → vW h l = a * 2 ^ s) ∧ (b = false → h = 0 ∧ l = 0) := by
    intro lt
    rw [Int.emod_eq_of_lt D0 lt] at e2
    obtain ⟨h', l', b, e3, o3, f3, v3⟩ := signed_eq u v (decide (a < 0)) u0 u1 v0 v1
    rw [e3, Option.bind_some]
    rw [e2] at f3 v3
    by_cases n : a < 0
    · have q := sg.1 n
      rw [decide_eq_true n, if_pos rfl] at f3 v3
      cases b with
      | false =>
        refine ⟨0, 0, false, rfl, ⟨by omega, by omega, by omega, by omega⟩, ?_, (fun h => by cases h), (fun _ => ⟨rfl, rfl⟩)⟩
        rw [f3]; omega
      | true =>
        refine ⟨h', l', true, rfl, o3, ?_, (fun _ => ?_), (fun h => by cases h)⟩
        · rw [f3]; omega
        · rw [v3 rfl]; omega
    · have q := sg.2 n
      rw [decide_eq_false n, if_neg (by decide)] at f3 v3
      cases b with
      | false =>
        refine ⟨0, 0, false, rfl, ⟨by omega, by omega, by omega, by omega⟩, ?_, (fun h => by cases h), (fun _ => ⟨rfl, rfl⟩)⟩
        rw [f3]; omega
      | true =>
        refine ⟨h', l', true, rfl, o3, ?_, (fun _ => ?_), (fun h => by cases h)⟩
        · rw [f3]; omega
        · rw [v3 rfl]; omega
  -- back again
  have shr : ∃ x y, f_AQ u v (Int.ofNat s) = some (x, y) ∧ 0 ≤ x ∧ 0 ≤ y ∧ y < 18446744073709551616 ∧ x * 18446744073709551616 + y = (u * 18446744073709551616 + v) / 2 ^ s := by
    rcases Nat.lt_or_ge s 127 with c | c
    · exact big_shr u v s (by omega) u0 u1 v0 v1
    · obtain rfl : s = 127 := by omega
      refine ⟨0, u / 9223372036854775808, ?_, by omega, by omega, by omega, ?_⟩
      · unfold f_AQ K_AQ
        have k1 : decide (Int.ofNat 127 ≥ 64) = true := by decide
        have k2 : (!decide (IntKind.wrap .i64 (Int.ofNat 127 - 64) < 0)) = true := by decide
        have k3 : (2 : Int) ^ min (Int.toNat (IntKind.wrap .i64 (Int.ofNat 127 - 64))) 64 = 9223372036854775808 := by decide
        simp only [k1, k2, k3, cond_true]
        rw [fdiv_pos _ _ (by omega)]
      · have k : (2 : Int) ^ 127 = 170141183460469231731687303715884105728 := by decide
        rw [k]; omega
  obtain ⟨x, y, e3, x0, y0, y1, e4⟩ := shr
  rw [e3, Option.bind_some]
  simp only
  rw [e2] at e4
  by_cases lt : d * 2 ^ s < 340282366920938463463374607431768211456
  · rw [Int.emod_eq_of_lt D0 lt, Int.mul_ediv_cancel _ (by omega)] at e4
    have xe : (x == 0) = true := by rw [beq_iff_eq]; omega
    have ye : (y == d) = true := by rw [beq_iff_eq]; omega
    rw [xe, ye]
    exact fin lt
  · have small : d * 2 ^ s % 340282366920938463463374607431768211456 / 2 ^ s < d := by
      refine Int.ediv_lt_of_lt_mul P0 ?_
      have : d * 2 ^ s % 340282366920938463463374607431768211456 < 340282366920938463463374607431768211456 := Int.emod_lt_of_pos _ (by omega)
      omega
    have ne : (x == 0 && (y == d && true)) = false := by
      rw [Bool.and_true]
      by_cases xz : x = 0
      · have : (y == d) = false := by rw [beq_eq_false_iff_ne]; omega
        rw [this, Bool.and_false]
      · have : (x == 0) = false := by rw [beq_eq_false_iff_ne]; omega
        rw [this, Bool.false_and]
    rw [ne]
    exact ⟨0, 0, false, rfl, ⟨by omega, by omega, by omega, by omega⟩, nofit rfl lt, (fun h => by cases h), (fun _ => ⟨rfl, rfl⟩)⟩
end Go.Proofs.Ytcalippagaaikaa
set_option maxRecDepth 100000
set_option maxHeartbeats 4000000
set_option linter.unusedVariables false
set_option linter.unusedSimpArgs false
namespace Go.Proofs.Ytcalippagaaikaa
open Go.Ab
theorem wide_Add2 (f g : Nat → Int) (w : Bool) (o1 : okW (f 0) (g 0)) (o2 : okW (f 1) (g 1)) (r0 : -170141183460469231731687303715884105728 ≤ vW (f 0) (g 0) + vW (f 1) (g 1)) (r1 : vW (f 0) (g 0) + vW (f 1) (g 1) < 170141183460469231731687303715884105728) :
    ∃ h l, f_AO 2 f g w = some (h, l, true) ∧ okW h l ∧ vW h l = vW (f 0) (g 0) + vW (f 1) (g 1) := by
  unfold f_AO K_AO L_AO_0
  obtain ⟨h1, l1, b1, e1, a1, c1, d1⟩ := wide_add 0 0 (f 0) (g 0) ⟨by omega, by omega, by omega, by omega⟩ o1
  have t1 : b1 = true := by
    rw [c1]
    obtain ⟨p1, p2, p3, p4⟩ := o1
    simp only [vW]; omega
  subst t1
  have d1 := d1 rfl
  obtain ⟨h2, l2, b2, e2, a2, c2, d2⟩ := wide_add h1 l1 (f 1) (g 1) a1 o2
  have z : vW 0 0 = 0 := rfl
  have t2 : b2 = true := by rw [c2, d1, z]; omega
  subst t2
  have d2 := d2 rfl
  refine ⟨h2, l2, ?_, a2, by rw [d2, d1, z]; omega⟩
  have k0 : decide ((0 : Int) < Int.ofNat 2) = true := by decide
  have k1 : inR 0 2 = true := by decide
  have k2 : IntKind.wrap .i64 (0 + 1) = 1 := by decide
  have k3 : decide ((1 : Int) < Int.ofNat 2) = true := by decide
  have k4 : inR 1 2 = true := by decide
  have k5 : IntKind.wrap .i64 (1 + 1) = 2 := by decide
  have k6 : decide ((2 : Int) < Int.ofNat 2) = false := by decide
  have k7 : Int.toNat 0 = 0 := rfl
  have k8 : Int.toNat 1 = 1 := rfl
  rw [loopK_succ]
  simp only [S_AO_0, k0, k1, k2, k7, cond_true, e1, Option.bind_some, Bool.not_true, cond_false]
  rw [loopK_succ]
  simp only [k3, k4, k5, k8, cond_true, e2, Option.bind_some, Bool.not_true, cond_false]
  rw [loopK_succ]
  simp only [k6, cond_false, Sum.elim_inr]
def sumF (f : Nat → Int) : Nat → Int
  | 0 => 0
  | n + 1 => sumF f n + f n
def anyF (f : Nat → Bool) : Nat → Bool
  | 0 => false
  | n + 1 => anyF f n || f n
theorem sumF_le (f : Nat → Int) (B : Int) (hB : 0 ≤ B) (n : Nat) (h : ∀ j, j < n → -B ≤ f j ∧ f j ≤ B) : -(n * B) ≤ sumF f n ∧ sumF f n ≤ n * B := by
  induction n with
  | zero => simp [sumF]
  | succ n ih =>
    have := ih fun j hj => h j (by omega)
    have h2 := h n (by omega)
    have e : ((n + 1 : Nat) : Int) * B = n * B + B := by rw [Int.natCast_add, Int.add_mul]; simp
    rw [e, sumF]
    omega
theorem rnd_zero (v : Int) : rnd v 0 = v := by
  unfold rnd half
  simp only [if_true, Int.add_zero]
  have : (2 : Int) ^ 0 = 1 := rfl
  rw [this, Int.ediv_one, Int.ediv_one]
  split <;> omega
theorem idx_lt {i n t : Nat} (h : i + t = n) (ht : 0 < t) : decide (Int.ofNat i < Int.ofNat n) = true := by simp only [Int.ofNat_eq_natCast]; exact decide_eq_true (by omega)
theorem idx_ge {i n : Nat} (h : n ≤ i) : decide (Int.ofNat i < Int.ofNat n) = false := by simp only [Int.ofNat_eq_natCast]; exact decide_eq_false (by omega)
theorem idx_in {i n : Nat} (h : i < n) : inR (Int.ofNat i) n = true := by unfold inR; simp only [Int.ofNat_eq_natCast, Bool.and_eq_true, decide_eq_true_eq]; omega
theorem idx_up {i : Nat} (h : i < 9000000000000000000) : IntKind.wrap .i64 (Int.ofNat i + 1) = Int.ofNat (i + 1) := (wrap_i64 (by simp only [Int.ofNat_eq_natCast]; omega) (by simp only [Int.ofNat_eq_natCast]; omega)).trans rfl
theorem acc_add (n : Nat) (hn : n ≤ 150) (hit : Bool) (l : Nat → Int) (w : Bool) :
    f_AL n hit l w = some (sat (sumF (fun j => sat (l j)) n), (hit || anyF (fun j => over (l j)) n) || over (sumF (fun j => sat (l j)) n)) := by
  unfold f_AL K_AL L_AL_0
  refine loopK_inv (fun t d => ∃ (i : Nat) (h l' : Int), i + t = n ∧ okW h l' ∧ vW h l' = sumF (fun j => sat (l j)) i ∧ d = (n, w, Int.ofNat n, Int.ofNat i, (hit || anyF (fun j => over (l j)) i), n, l, h, l')) ?_ 200 n _ (by omega)
    ⟨0, 0, 0, by omega, ⟨by omega, by omega, by omega, by omega⟩, rfl, by simp only [anyF, Bool.or_false]; rfl⟩
  rintro t _ c ⟨i, h, l', hi, ho, hv, rfl⟩ hc
  have bnd := sumF_le (fun j => sat (l j)) 1152921504606846976 (by omega) i (fun j _ => sat_le _)
  rcases Nat.eq_zero_or_pos t with t0 | t0
  · have e : i = n := by omega
    subst e
    have r := acc_round h l' 0
    have r2 := wide_round h l' 0 (by omega) ho
    rw [rnd_zero] at r2
    have r3 : Int.ofNat 0 = 0 := rfl
    rw [r3] at r2
    simp only [S_AL_0, idx_ge (Nat.le_refl i), cond_false, r2]
    by_cases k : -9223372036854775808 ≤ vW h l' ∧ vW h l' ≤ 9223372036854775807
    · rw [if_pos k]
      simp only [if_true, Option.bind_some, acc_end, hv]
    · rw [if_neg k]
      simp only [Option.bind_some, acc_end, Bool.false_eq_true, if_false]
      rw [← hv]
      unfold sat over
      by_cases ng : h < 0
      · have c1 : vW h l' < -1152921504606846976 := by
          obtain ⟨o1, o2, o3, o4⟩ := ho
          simp only [vW] at *; omega
        simp [ng, c1]
      · have c1 : ¬ vW h l' < -1152921504606846976 := by
          obtain ⟨o1, o2, o3, o4⟩ := ho
          simp only [vW] at *; omega
        have c2 : 1152921504606846976 < vW h l' := by
          obtain ⟨o1, o2, o3, o4⟩ := ho
          simp only [vW] at *; omega
        simp [ng, c1, c2]
  · have hs := sat_le (l i)
    obtain ⟨h1, l1, e1, o1, v1⟩ := wide_of (sat (l i)) (by omega) (by omega)
    obtain ⟨h2, l2, e2, o2, v2⟩ := wide_Add2 (fun j : Nat => bif Nat.beq j 1 then h1 else bif Nat.beq j 0 then h else h) (fun j : Nat => bif Nat.beq j 1 then l1 else bif Nat.beq j 0 then l' else l') true
      ho o1 (by show _ ≤ vW h l' + vW h1 l1; rw [hv, v1]; omega) (by show vW h l' + vW h1 l1 < _; rw [hv, v1]; omega)
    have v2 : vW h2 l2 = vW h l' + vW h1 l1 := v2
    rw [hv, v1] at v2
    have q : Int.toNat (Int.ofNat i) = i := rfl
    simp only [S_AL_0, idx_lt hi t0, idx_in (show i < n by omega), cond_true, q, acc_sat, Option.bind_some, e1, e2, idx_up (show i < 9000000000000000000 by omega)]
    refine hc (t - 1) _ (by omega) ⟨i + 1, h2, l2, by omega, o2, v2, ?_⟩
    simp only [anyF, Bool.or_assoc]
end Go.Proofs.Ytcalippagaaikaa
