/-
  Numbers of 128 bits and clamped scalars in plain arithmetic.
-/
import Derived.Test.YtdpenjncfmkbgaaGN3
import Derived.Test.YtdpenjncfmkbgaaAbInv
set_option maxRecDepth 100000
set_option maxHeartbeats 4000000
set_option linter.unusedVariables false
set_option linter.unusedSimpArgs false
namespace Go.Ab
theorem wrap_i64_eq (n : Int) : IntKind.wrap .i64 n = if 9223372036854775808 ≤ n % 18446744073709551616 then n % 18446744073709551616 - 18446744073709551616 else n % 18446744073709551616 := by
  unfold IntKind.wrap
  simp only [IntKind.signed, IntKind.bits, Bool.true_and, decide_eq_true_eq, show (2 : Int) ^ 64 = 18446744073709551616 from rfl, show (2 : Int) ^ (64 - 1) = 9223372036854775808 from rfl, ge_iff_le]
theorem fdiv_pos (a b : Int) (h : 0 ≤ b) : Int.fdiv a b = a / b := Int.fdiv_eq_ediv_of_nonneg a h
theorem ofInt_toNat (x : Int) (h0 : 0 ≤ x) (h1 : x < 18446744073709551616) : (BitVec.ofInt 64 x).toNat = x.toNat := by
  rw [BitVec.toNat_ofInt]
  congr 1
  simp only [Nat.reducePow, Int.cast_ofNat_Int]
  omega
theorem xor_all (x : Int) (h0 : 0 ≤ x) (h1 : x < 18446744073709551616) : Int.ofNat (BitVec.toNat (BitVec.ofInt 64 18446744073709551615 ^^^ BitVec.ofInt 64 x)) = 18446744073709551615 - x := by
  have e : BitVec.ofInt 64 18446744073709551615 = BitVec.allOnes 64 := by decide
  rw [e, BitVec.allOnes_xor, BitVec.toNat_not, ofInt_toNat x h0 h1]
  simp only [Int.ofNat_eq_natCast]
  omega
theorem and_mask (x : Int) (h0 : 0 ≤ x) (h1 : x < 18446744073709551616) : Int.ofNat (BitVec.toNat (BitVec.ofInt 64 x &&& BitVec.ofInt 64 4294967295)) = x % 4294967296 := by
  rw [BitVec.toNat_and, ofInt_toNat x h0 h1]
  have e : (BitVec.ofInt 64 4294967295).toNat = 2 ^ 32 - 1 := by decide
  rw [e, Nat.and_two_pow_sub_one_eq_mod]
  simp only [Int.ofNat_eq_natCast]
  omega
/-- bits that do not meet -/
theorem or_apart (x y : Int) (k : Nat) (h0 : 0 ≤ x) (h1 : x < 2 ^ k) (h2 : 0 ≤ y) (h3 : y < 18446744073709551616) (h4 : x < 18446744073709551616) (h5 : y % 2 ^ k = 0) :
    Int.ofNat (BitVec.toNat (BitVec.ofInt 64 x ||| BitVec.ofInt 64 y)) = x + y := by
  rw [BitVec.toNat_or, ofInt_toNat x h0 h4, ofInt_toNat y h2 h3]
  obtain ⟨q, hq⟩ : ∃ q : Nat, y.toNat = 2 ^ k * q := by
    refine ⟨y.toNat / 2 ^ k, ?_⟩
    have : y.toNat % 2 ^ k = 0 := by
      have e : ((y.toNat % 2 ^ k : Nat) : Int) = y % 2 ^ k := by
        rw [Int.natCast_emod, Int.toNat_of_nonneg h2]
        simp
      omega
    exact (Nat.mul_div_cancel' (Nat.dvd_of_mod_eq_zero this)).symm
  have hx : x.toNat < 2 ^ k := by
    have e : ((2 ^ k : Nat) : Int) = (2 : Int) ^ k := by simp
    omega
  rw [hq, Nat.or_comm, ← Nat.two_pow_add_eq_or_of_lt hx, ← hq]
  simp only [Int.ofNat_eq_natCast]
  omega
end Go.Ab
namespace Go.Proofs.Ytdpenjncfmkbgaa
open Go.Ab
abbrev okW (h l : Int) : Prop := -9223372036854775808 ≤ h ∧ h ≤ 9223372036854775807 ∧ 0 ≤ l ∧ l < 18446744073709551616
abbrev vW (h l : Int) : Int := h * 18446744073709551616 + l
theorem wide_of (x : Int) (h0 : -9223372036854775808 ≤ x) (h1 : x ≤ 9223372036854775807) : ∃ h l, f_wide_Of x = some (h, l) ∧ okW h l ∧ vW h l = x := by
  unfold vW
  refine ⟨_, _, rfl, ?_, ?_⟩ <;> rw [wrap_u64, fdiv_pos _ _ (by omega)] <;> omega
theorem add64_eq (x y c : Int) (x0 : 0 ≤ x) (y0 : 0 ≤ y) (c0 : 0 ≤ c) (c1 : c ≤ 1) : f_Add64 x y c = some ((x + y + c) % 18446744073709551616, (x + y + c) / 18446744073709551616) := by
  unfold f_Add64
  have h : Nat.ble c.toNat 1 = true := Nat.ble_eq_true_of_le (by omega)
  rw [h, cond_true]
  congr 1
  unfold addA addB
  simp only [Int.ofNat_eq_natCast, Prod.mk.injEq]
  constructor <;> omega
theorem wide_add (h1 l1 h2 l2 : Int) (o1 : okW h1 l1) (o2 : okW h2 l2) : ∃ h l b, f_wide_add h1 l1 h2 l2 = some (h, l, b) ∧ okW h l ∧ (b = true ↔ -170141183460469231731687303715884105728 ≤ vW h1 l1 + vW h2 l2 ∧ vW h1 l1 + vW h2 l2 < 170141183460469231731687303715884105728) ∧ (b = true → vW h l = vW h1 l1 + vW h2 l2) := by
  obtain ⟨a1, a2, a3, a4⟩ := o1
  obtain ⟨b1, b2, b3, b4⟩ := o2
  unfold vW
  unfold f_wide_add K_wide_add
  rw [add64_eq l1 l2 0 a3 b3 (by omega) (by omega)]
  simp only [Option.bind_some, wrap_u64]
  rw [add64_eq _ _ _ (by omega) (by omega) (by omega) (by omega)]
  simp only [Option.bind_some]
  generalize hc : (l1 + l2 + 0) / 18446744073709551616 = c
  generalize hl : (l1 + l2 + 0) % 18446744073709551616 = l
  generalize hm : (h1 % 18446744073709551616 + h2 % 18446744073709551616 + c) % 18446744073709551616 = m
  have hw := wrap_i64_eq m
  generalize IntKind.wrap IntKind.i64 m = w at *
  have hw1 : w = m ∨ w = m - 18446744073709551616 := by split at hw <;> omega
  have hw2 : -9223372036854775808 ≤ w ∧ w ≤ 9223372036854775807 := by split at hw <;> omega
  by_cases n1 : h1 < 0
  · by_cases n2 : h2 < 0
    · have e : (!decide (h1 < 0) == decide (h2 < 0)) = false := by simp [n1, n2]
      simp only [e, cond_false]
      refine ⟨w, l, _, rfl, ⟨hw2.1, hw2.2, by omega, by omega⟩, ?_, ?_⟩
      · simp only [n1, decide_true, beq_true, decide_eq_true_eq]
        constructor <;> intro h <;> omega
      · simp only [n1, decide_true, beq_true, decide_eq_true_eq]
        intro h; omega
    · have e : (!decide (h1 < 0) == decide (h2 < 0)) = true := by simp [n1, n2]
      simp only [e, cond_true]
      refine ⟨w, l, _, rfl, ⟨hw2.1, hw2.2, by omega, by omega⟩, ?_, ?_⟩
      · simp only [true_iff]; constructor <;> omega
      · intro h; omega
  · by_cases n2 : h2 < 0
    · have e : (!decide (h1 < 0) == decide (h2 < 0)) = true := by simp [n1, n2]
      simp only [e, cond_true]
      refine ⟨w, l, _, rfl, ⟨hw2.1, hw2.2, by omega, by omega⟩, ?_, ?_⟩
      · simp only [true_iff]; constructor <;> omega
      · intro h; omega
    · have e : (!decide (h1 < 0) == decide (h2 < 0)) = false := by simp [n1, n2]
      simp only [e, cond_false]
      refine ⟨w, l, _, rfl, ⟨hw2.1, hw2.2, by omega, by omega⟩, ?_, ?_⟩
      · simp only [n1, decide_false, _root_.beq_false, Bool.not_eq_true', decide_eq_false_iff_not]
        constructor <;> intro h <;> omega
      · simp only [n1, decide_false, _root_.beq_false, Bool.not_eq_true', decide_eq_false_iff_not]
        intro h; omega
/-- a number without its sign -/
theorem wide_abs (h l : Int) (o : okW h l) : ∃ ah al, f_wide_abs h l = some (ah, al, decide (h < 0)) ∧ 0 ≤ ah ∧ ah ≤ 9223372036854775808 ∧ 0 ≤ al ∧ al < 18446744073709551616 ∧ ah * 18446744073709551616 + al = (if h < 0 then -vW h l else vW h l) := by
  obtain ⟨a1, a2, a3, a4⟩ := o
  unfold vW
  unfold f_wide_abs K_wide_abs
  by_cases n : h < 0
  · have e : decide (h ≥ 0) = false := decide_eq_false (by omega)
    simp only [e, cond_false, xor_all l a3 a4, wrap_u64]
    rw [xor_all (h % 18446744073709551616) (by omega) (by omega), add64_eq _ _ _ (by omega) (by omega) (by omega) (by omega)]
    simp only [Option.bind_some, n, decide_true, if_true]
    refine ⟨_, _, rfl, ?_, ?_, ?_, ?_, ?_⟩ <;> omega
  · have e : decide (h ≥ 0) = true := decide_eq_true (by omega)
    simp only [e, cond_true, wrap_u64, n, decide_false, if_false]
    refine ⟨_, _, rfl, ?_, ?_, ?_, ?_, ?_⟩ <;> omega
theorem big_plus (h1 l1 h2 l2 : Int) (a0 : 0 ≤ h1) (b0 : 0 ≤ l1) (c0 : 0 ≤ h2) (d0 : 0 ≤ l2) (b1 : l1 < 18446744073709551616) (d1 : l2 < 18446744073709551616) :
    f__wide_big__plus h1 l1 h2 l2 = some ((h1 + h2 + (l1 + l2) / 18446744073709551616) % 18446744073709551616, (l1 + l2) % 18446744073709551616) := by
  unfold f__wide_big__plus K__wide_big__plus
  rw [add64_eq _ _ _ b0 d0 (by omega) (by omega)]
  simp only [Option.bind_some, Int.add_zero]
  rw [add64_eq _ _ _ a0 c0 (by omega) (by omega)]
  rfl
theorem shl_one (n : Nat) (hn : n < 126) : f__wide_big__shl 0 1 (Int.ofNat n) = some (2 ^ n / 18446744073709551616, 2 ^ n % 18446744073709551616) := by
  have key : ∀ n : Fin 126, f__wide_big__shl 0 1 (Int.ofNat n.val) = some ((2 : Int) ^ n.val / 18446744073709551616, (2 : Int) ^ n.val % 18446744073709551616) := by decide +kernel
  exact key ⟨n, hn⟩
theorem pow_pos' (n : Nat) : (0 : Int) < 2 ^ n := Int.pow_pos (by decide)
theorem big_shr (h l : Int) (s : Nat) (hs : s ≤ 126) (h0 : 0 ≤ h) (h1 : h < 18446744073709551616) (l0 : 0 ≤ l) (l1 : l < 18446744073709551616) :
    ∃ h' l', f__wide_big__shr h l (Int.ofNat s) = some (h', l') ∧ 0 ≤ h' ∧ 0 ≤ l' ∧ l' < 18446744073709551616 ∧ h' * 18446744073709551616 + l' = (h * 18446744073709551616 + l) / 2 ^ s := by
  unfold f__wide_big__shr K__wide_big__shr
  by_cases c : 64 ≤ s
  · have e : decide (Int.ofNat s ≥ 64) = true := by simp only [Int.ofNat_eq_natCast]; exact decide_eq_true (by omega)
    have e2 : IntKind.wrap .i64 (Int.ofNat s - 64) = Int.ofNat (s - 64) := (wrap_i64 (by simp only [Int.ofNat_eq_natCast]; omega) (by simp only [Int.ofNat_eq_natCast]; omega)).trans (by simp only [Int.ofNat_eq_natCast]; omega)
    have e3 : (!decide (Int.ofNat (s - 64) < 0)) = true := by simp
    have e4 : min (Int.toNat (Int.ofNat (s - 64))) 64 = s - 64 := by
      show min (s - 64) 64 = s - 64
      omega
    simp only [e, e2, e3, e4, cond_true]
    rw [fdiv_pos _ _ (Int.le_of_lt (pow_pos' _))]
    refine ⟨_, _, rfl, by omega, Int.ediv_nonneg h0 (Int.le_of_lt (pow_pos' _)), Int.lt_of_le_of_lt (Int.ediv_le_self _ h0) h1, ?_⟩
    have p : (2 : Int) ^ s = 18446744073709551616 * 2 ^ (s - 64) := by
      rw [show (18446744073709551616 : Int) = 2 ^ 64 from rfl, ← Int.pow_add]
      congr 1; omega
    rw [p, ← Int.ediv_ediv_of_nonneg (by decide)]
    have : (h * 18446744073709551616 + l) / 18446744073709551616 = h := by omega
    rw [this]; omega
  · have e : decide (Int.ofNat s ≥ 64) = false := by simp only [Int.ofNat_eq_natCast]; exact decide_eq_false (by omega)
    have e2 : IntKind.wrap .i64 (64 - Int.ofNat s) = Int.ofNat (64 - s) := (wrap_i64 (by simp only [Int.ofNat_eq_natCast]; omega) (by simp only [Int.ofNat_eq_natCast]; omega)).trans (by simp only [Int.ofNat_eq_natCast]; omega)
    have e3 : ∀ n, (!decide (Int.ofNat n < 0)) = true := by simp
    have e4 : min (Int.toNat (Int.ofNat (64 - s))) 64 = 64 - s := by
      show min (64 - s) 64 = 64 - s
      omega
    have e5 : min (Int.toNat (Int.ofNat s)) 64 = s := by
      show min s 64 = s
      omega
    simp only [e, e2, e3, e4, e5, cond_true, cond_false, wrap_u64]
    rw [fdiv_pos _ _ (Int.le_of_lt (pow_pos' _)), fdiv_pos _ _ (Int.le_of_lt (pow_pos' _))]
    have pq : (18446744073709551616 : Int) = 2 ^ s * 2 ^ (64 - s) := by
      rw [← Int.pow_add, show s + (64 - s) = 64 by omega]; rfl
    generalize hP : (2 : Int) ^ s = P at *
    generalize hQ : (2 : Int) ^ (64 - s) = Q at *
    have P0 : 0 < P := by rw [← hP]; exact pow_pos' s
    have Q0 : 0 < Q := by rw [← hQ]; exact pow_pos' (64 - s)
    have m : h * Q % 18446744073709551616 = h % P * Q := by
      rw [pq, Int.mul_comm h Q, Int.mul_comm P Q, Int.mul_emod_mul_of_pos _ _ Q0, Int.mul_comm]
    have x0 : 0 ≤ l / P := Int.ediv_nonneg l0 (Int.le_of_lt P0)
    have x1 : l / P < Q := Int.ediv_lt_of_lt_mul P0 (by rw [Int.mul_comm, ← pq]; exact l1)
    have y0 : 0 ≤ h % P := Int.emod_nonneg _ (by omega)
    have y1 : h % P < P := Int.emod_lt_of_pos _ P0
    have y2 : h % P * Q + Q ≤ 18446744073709551616 := by
      have : (h % P + 1) * Q ≤ P * Q := Int.mul_le_mul_of_nonneg_right (by omega) (Int.le_of_lt Q0)
      rw [Int.add_mul, ← pq] at this; omega
    have y3 : 0 ≤ h % P * Q := Int.mul_nonneg y0 (Int.le_of_lt Q0)
    have key : Int.ofNat (BitVec.toNat (BitVec.ofInt 64 (l / P) ||| BitVec.ofInt 64 (h * Q % 18446744073709551616))) = l / P + h % P * Q := by
      rw [m]
      exact or_apart _ _ (64 - s) x0 (by rw [hQ]; exact x1) y3 (by omega) (by omega) (by rw [hQ]; exact Int.mul_emod_left _ _)
    rw [key]
    have z : (l / P + h % P * Q) % 18446744073709551616 = l / P + h % P * Q := Int.emod_eq_of_lt (by omega) (by omega)
    rw [z]
    refine ⟨_, _, rfl, Int.ediv_nonneg h0 (Int.le_of_lt P0), by omega, by omega, ?_⟩
    have f1 : (h * 18446744073709551616 + l) / P = h * Q + l / P := by
      rw [pq, show h * (P * Q) + l = l + h * Q * P by rw [Int.mul_comm P Q, ← Int.mul_assoc, Int.add_comm], Int.add_mul_ediv_right _ _ (by omega)]
      omega
    have f2 : h / P * 18446744073709551616 = h / P * P * Q := by rw [pq, Int.mul_assoc]
    have f3 : h / P * P + h % P = h := Int.ediv_mul_add_emod h P
    rw [f1, f2]
    have f4 : (h / P * P + h % P) * Q = h * Q := by rw [f3]
    rw [Int.add_mul] at f4
    omega
theorem wide_signed64 (h l : Int) (neg : Bool) (h0 : 0 ≤ h) (l0 : 0 ≤ l) (l1 : l < 18446744073709551616) :
    f_wide_signed64 h l neg = if h * 18446744073709551616 + l ≤ (if neg = true then 9223372036854775808 else 9223372036854775807) then some (if neg = true then -l else l, true) else some (0, false) := by
  unfold f_wide_signed64 K_wide_signed64
  by_cases c : h = 0
  · subst c
    have e : ((0 : Int) != 0) = false := rfl
    simp only [e, cond_false, Int.zero_mul, Int.zero_add]
    cases neg
    · by_cases d : l > 9223372036854775807
      · have d2 : ¬ l ≤ 9223372036854775807 := by omega
        simp [d, d2]
      · have d2 : l ≤ 9223372036854775807 := by omega
        simp only [Bool.not_false, cond_true, d, decide_false, cond_false, Bool.false_eq_true, if_false, d2, if_true]
        rw [wrap_i64 (by omega) d2]
    · by_cases d : l > 9223372036854775808
      · have d2 : ¬ l ≤ 9223372036854775808 := by omega
        simp [d, d2]
      · have d2 : l ≤ 9223372036854775808 := by omega
        have e3 : IntKind.wrap .i64 (IntKind.wrap .u64 (0 - l)) = -l := by
          rw [wrap_u64, wrap_i64_eq]; split <;> omega
        have e4 : IntKind.wrap .i64 (IntKind.wrap .u64 (-l)) = -l := by
          rw [wrap_u64, wrap_i64_eq]; split <;> omega
        simp [d, d2, e3, e4]
  · have e : (h != 0) = true := by simp [c]
    have d2 : ¬ h * 18446744073709551616 + l ≤ (if neg = true then 9223372036854775808 else 9223372036854775807) := by split <;> omega
    simp only [e, cond_true, d2, if_false]
/-- rounded: half a unit more, and cut; with its sign -/
def half (s : Nat) : Int := if s = 0 then 0 else 2 ^ (s - 1)
def rnd (v : Int) (s : Nat) : Int := if v < 0 then -((-v + half s) / 2 ^ s) else (v + half s) / 2 ^ s
theorem half_le (s : Nat) (hs : s ≤ 126) : 0 ≤ half s ∧ half s ≤ 42535295865117307932921825928971026432 := by
  unfold half
  split
  · omega
  · refine ⟨Int.le_of_lt (pow_pos' _), ?_⟩
    have : (2 : Int) ^ (s - 1) ≤ 2 ^ 125 := by
      have h2 : (2 : Nat) ^ (s - 1) ≤ 2 ^ 125 := Nat.pow_le_pow_right (by decide) (by omega)
      have h3 : ((2 ^ (s - 1) : Nat) : Int) ≤ ((2 ^ 125 : Nat) : Int) := by exact_mod_cast h2
      simpa using h3
    exact this
theorem wide_round (h l : Int) (s : Nat) (hs : s ≤ 126) (o : okW h l) :
    f_wide_Round h l (Int.ofNat s) = if -9223372036854775808 ≤ rnd (vW h l) s ∧ rnd (vW h l) s ≤ 9223372036854775807 then some (rnd (vW h l) s, true) else some (0, false) := by
  unfold f_wide_Round K_wide_Round
  obtain ⟨ah, al, e1, a0, a1, a2, a3, a4⟩ := wide_abs h l o
  have n0 : decide (Int.ofNat s < 0) = false := by simp
  have n1 : decide (Int.ofNat s > 126) = false := by simp only [Int.ofNat_eq_natCast]; exact decide_eq_false (by omega)
  simp only [n0, n1, cond_false, e1, Option.bind_some]
  obtain ⟨hh0, hh1⟩ := half_le s hs
  -- what is shifted
  have fin : ∀ h' l' : Int, 0 ≤ h' → 0 ≤ l' → l' < 18446744073709551616 → h' * 18446744073709551616 + l' = ((if h < 0 then -vW h l else vW h l) + half s) / 2 ^ s →
      (f_wide_signed64 h' l' (decide (h < 0))).bind (fun d => some (d.fst, d.snd)) = if -9223372036854775808 ≤ rnd (vW h l) s ∧ rnd (vW h l) s ≤ 9223372036854775807 then some (rnd (vW h l) s, true) else some (0, false) := by
    intro h' l' b0 b1 b2 b3
    rw [wide_signed64 h' l' _ b0 b1 b2]
    obtain ⟨o1, o2, o3, o4⟩ := o
    by_cases n : h < 0
    · have nv : vW h l < 0 := by show h * 18446744073709551616 + l < 0; omega
      simp only [n, decide_true, if_true] at b3 ⊢
      unfold rnd
      simp only [nv, if_true]
      rw [← b3]
      by_cases c : h' * 18446744073709551616 + l' ≤ 9223372036854775808
      · rw [if_pos c, if_pos (by omega)]
        simp only [Option.bind_some, Option.some.injEq, Prod.mk.injEq, and_true]; omega
      · rw [if_neg c, if_neg (by omega)]; rfl
    · have nv : ¬ vW h l < 0 := by show ¬ h * 18446744073709551616 + l < 0; omega
      simp only [n, decide_false, if_false, Bool.false_eq_true] at b3 ⊢
      unfold rnd
      simp only [nv, if_false]
      rw [← b3]
      by_cases c : h' * 18446744073709551616 + l' ≤ 9223372036854775807
      · rw [if_pos c, if_pos (by omega)]
        simp only [Option.bind_some, Option.some.injEq, Prod.mk.injEq, and_true]; omega
      · rw [if_neg c, if_neg (by omega)]; rfl
  by_cases z : s = 0
  · subst z
    have n2 : decide (Int.ofNat 0 > 0) = false := by decide
    simp only [n2, cond_false]
    obtain ⟨h', l', e2, b0, b1, b2, b3⟩ := big_shr ah al 0 (by omega) a0 (by omega) a2 a3
    rw [e2]
    simp only [Option.bind_some]
    exact fin h' l' b0 b1 b2 (by rw [b3, a4]; simp [half])
  · have n2 : decide (Int.ofNat s > 0) = true := by simp only [Int.ofNat_eq_natCast]; exact decide_eq_true (by omega)
    simp only [n2, cond_true]
    have n3 : IntKind.wrap .i64 (Int.ofNat s - 1) = Int.ofNat (s - 1) := (wrap_i64 (by simp only [Int.ofNat_eq_natCast]; omega) (by simp only [Int.ofNat_eq_natCast]; omega)).trans (by simp only [Int.ofNat_eq_natCast]; omega)
    have hf : half s = 2 ^ (s - 1) := by unfold half; rw [if_neg z]
    rw [n3, shl_one (s - 1) (by omega), ← hf]
    simp only [Option.bind_some]
    rw [big_plus _ _ _ _ a0 a2 (by omega) (by omega) a3 (by omega)]
    simp only [Option.bind_some]
    obtain ⟨h', l', e2, b0, b1, b2, b3⟩ := big_shr ((ah + half s / 18446744073709551616 + (al + half s % 18446744073709551616) / 18446744073709551616) % 18446744073709551616) ((al + half s % 18446744073709551616) % 18446744073709551616) s hs (by omega) (by omega) (by omega) (by omega)
    rw [e2]
    simp only [Option.bind_some]
    refine fin h' l' b0 b1 b2 ?_
    rw [b3, ← a4]
    congr 1
    omega
/-! clamped -/
def sat (x : Int) : Int := if x < -1152921504606846976 then -1152921504606846976 else if 1152921504606846976 < x then 1152921504606846976 else x
def over (x : Int) : Bool := decide (x < -1152921504606846976) || decide (1152921504606846976 < x)
theorem sat_le (x : Int) : -1152921504606846976 ≤ sat x ∧ sat x ≤ 1152921504606846976 := by
  unfold sat; split <;> (try split) <;> omega
theorem acc_sat (x : Int) (hit : Bool) : f___fx_Acc__Sat x hit = some (sat x, hit || over x) := by
  unfold f___fx_Acc__Sat K___fx_Acc__Sat f___fx_Acc__Clamp K___fx_Acc__Clamp sat over
  have e : decide ((-1152921504606846976 : Int) > 1152921504606846976) = false := by decide
  by_cases c : x < -1152921504606846976
  · simp [e, c]
  · by_cases d : 1152921504606846976 < x
    · have d2 : x > 1152921504606846976 := d
      simp [e, c, d]
    · simp [e, c, d]
theorem acc_end (a : Int) (ok neg hit : Bool) : f___fx_Acc__end a ok neg hit = if ok = true then some (sat a, hit || over a) else some (if neg = true then -1152921504606846976 else 1152921504606846976, true) := by
  unfold f___fx_Acc__end K___fx_Acc__end f_fx_sign K_fx_sign
  cases ok
  · cases neg <;> rfl
  · simp only [Bool.not_true, cond_false, acc_sat, Option.bind_some, if_true]
theorem acc_round (h l : Int) (s : Nat) (hit : Bool) (hs : s ≤ 120) (o : okW h l) : f___fx_Acc__round h l (Int.ofNat s) hit = some (sat (rnd (vW h l) s), hit || over (rnd (vW h l) s)) := by
  unfold f___fx_Acc__round K___fx_Acc__round
  have n0 : decide (Int.ofNat s < 0) = false := by simp
  have n1 : decide (Int.ofNat s > 120) = false := by simp only [Int.ofNat_eq_natCast]; exact decide_eq_false (by omega)
  simp only [n0, n1, cond_false, wide_round h l s (by omega) o]
  by_cases c : -9223372036854775808 ≤ rnd (vW h l) s ∧ rnd (vW h l) s ≤ 9223372036854775807
  · simp only [c, and_self, if_true, Option.bind_some, acc_end]
  · rw [if_neg c]
    simp only [Option.bind_some, acc_end, Bool.false_eq_true, if_false]
    have sg : (h < 0 → rnd (vW h l) s ≤ 0) ∧ (¬ h < 0 → 0 ≤ rnd (vW h l) s) := by
      obtain ⟨o1, o2, o3, o4⟩ := o
      obtain ⟨hh0, hh1⟩ := half_le s (by omega)
      have p := pow_pos' s
      unfold rnd
      refine ⟨fun n => ?_, fun n => ?_⟩
      · have nv : vW h l < 0 := by show h * 18446744073709551616 + l < 0; omega
        rw [if_pos nv]
        have : 0 ≤ (-vW h l + half s) / 2 ^ s := Int.ediv_nonneg (by omega) (Int.le_of_lt p)
        omega
      · have nv : ¬ vW h l < 0 := by show ¬ h * 18446744073709551616 + l < 0; omega
        rw [if_neg nv]
        exact Int.ediv_nonneg (by omega) (Int.le_of_lt p)
    unfold sat over
    by_cases n : h < 0
    · have := sg.1 n
      have c1 : rnd (vW h l) s < -1152921504606846976 := by omega
      simp [n, c1]
    · have := sg.2 n
      have c1 : ¬ rnd (vW h l) s < -1152921504606846976 := by omega
      have c2 : 1152921504606846976 < rnd (vW h l) s := by omega
      simp [n, c1, c2]
end Go.Proofs.Ytdpenjncfmkbgaa
