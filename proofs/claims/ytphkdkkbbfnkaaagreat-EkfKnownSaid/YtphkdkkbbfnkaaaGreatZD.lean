/-
  Numbers of 128 bits and clamped scalars in plain arithmetic. Products and sums of clamped scalars in plain arithmetic. Sums of clamped scalars in plain arithmetic. Sums of products of clamped scalars in plain arithmetic.
-/
import Derived.Test.YtphkdkkbbfnkaaaGreatQ2
import Derived.Test.YtphkdkkbbfnkaaaGreatZA
set_option linter.unusedVariables false
set_option linter.unusedSimpArgs false
set_option maxRecDepth 100000
set_option maxHeartbeats 4000000
set_option linter.unusedVariables false
set_option linter.unusedSimpArgs false
namespace Go.Ab
theorem wrap_i64_eq (n : Int) : IntKind.wrap .i64 n = if 9223372036854775808 ≤ n % 18446744073709551616 then n % 18446744073709551616 - 18446744073709551616 else n % 18446744073709551616 := by
  unfold IntKind.wrap
  simp only [IntKind.signed, IntKind.bits, Bool.true_and, decide_eq_true_eq, show (2 : Int) ^ 64 = 18446744073709551616 from rfl, show (2 : Int) ^ (64 - 1) = 9223372036854775808 from rfl, ge_iff_le]
theorem fdiv_pos (a b : Int) (h : 0 ≤ b) : Int.fdiv a b = a / b := Int.fdiv_eq_ediv_of_nonneg a h
theorem ofInt_toNat (x : Int) (h0 : 0 ≤ x) (h1 : x < 18446744073709551616) : (BitVec.ofInt 64 x).toNat = x.toNat := by
  rw [BitVec.toNat_ofInt]
  congr 1
  simp only [Nat.reducePow, Int.cast_ofNat_Int]
  omega
theorem xor_all (x : Int) (h0 : 0 ≤ x) (h1 : x < 18446744073709551616) : Int.ofNat (BitVec.toNat (BitVec.ofInt 64 18446744073709551615 ^^^ BitVec.ofInt 64 x)) = 18446744073709551615 - x := by
  have e : BitVec.ofInt 64 18446744073709551615 = BitVec.allOnes 64 := by decide
  rw [e, BitVec.allOnes_xor, BitVec.toNat_not, ofInt_toNat x h0 h1]
  simp only [Int.ofNat_eq_natCast]
  omega
theorem and_mask (x : Int) (h0 : 0 ≤ x) (h1 : x < 18446744073709551616) : Int.ofNat (BitVec.toNat (BitVec.ofInt 64 x &&& BitVec.ofInt 64 4294967295)) = x % 4294967296 := by
  rw [BitVec.toNat_and, ofInt_toNat x h0 h1]
  have e : (BitVec.ofInt 64 4294967295).toNat = 2 ^ 32 - 1 := by decide
  rw [e, Nat.and_two_pow_sub_one_eq_mod]
  simp only [Int.ofNat_eq_natCast]
  omega
theorem or_apart (x y : Int) (k : Nat) (h0 : 0 ≤ x) (h1 : x < 2 ^ k) (h2 : 0 ≤ y) (h3 : y < 18446744073709551616) (h4 : x < 18446744073709551616) (h5 : y % 2 ^ k = 0) :
    Int.ofNat (BitVec.toNat (BitVec.ofInt 64 x ||| BitVec.ofInt 64 y)) = x + y := by
  rw [BitVec.toNat_or, ofInt_toNat x h0 h4, ofInt_toNat y h2 h3]
  obtain ⟨q, hq⟩ : ∃ q : Nat, y.toNat = 2 ^ k * q := by
    refine ⟨y.toNat / 2 ^ k, ?_⟩
    have : y.toNat % 2 ^ k = 0 := by
      have e : ((y.toNat % 2 ^ k : Nat) : Int) = y % 2 ^ k := by
        rw [Int.natCast_emod, Int.toNat_of_nonneg h2]
        simp
      omega
    exact (Nat.mul_div_cancel' (Nat.dvd_of_mod_eq_zero this)).symm
  have hx : x.toNat < 2 ^ k := by
    have e : ((2 ^ k : Nat) : Int) = (2 : Int) ^ k := by simp
    omega
  rw [hq, Nat.or_comm, ← Nat.two_pow_add_eq_or_of_lt hx, ← hq]
  simp only [Int.ofNat_eq_natCast]
  omega
end Go.Ab
namespace Go.Proofs.YtphkdkkbbfnkaaaGreat
open Go.Ab
abbrev okW (h l : Int) : Prop := -9223372036854775808 ≤ h ∧ h ≤ 9223372036854775807 ∧ 0 ≤ l ∧ l < 18446744073709551616
abbrev vW (h l : Int) : Int := h * 18446744073709551616 + l
theorem add64_eq (x y c : Int) (x0 : 0 ≤ x) (y0 : 0 ≤ y) (c0 : 0 ≤ c) (c1 : c ≤ 1) : f_Add64 x y c = some ((x + y + c) % 18446744073709551616, (x + y + c) / 18446744073709551616) := by
  unfold f_Add64
  have h : Nat.ble c.toNat 1 = true := Nat.ble_eq_true_of_le (by omega)
  rw [h, cond_true]
  congr 1
  unfold addA addB
  simp only [Int.ofNat_eq_natCast, Prod.mk.injEq]
  constructor <;> omega
theorem wide_add (h1 l1 h2 l2 : Int) (o1 : okW h1 l1) (o2 : okW h2 l2) : ∃ h l b, f_CX h1 l1 h2 l2 = some ((h, l), b) ∧ okW h l ∧ (b = true ↔ -170141183460469231731687303715884105728 ≤ vW h1 l1 + vW h2 l2 ∧ vW h1 l1 + vW h2 l2 < 170141183460469231731687303715884105728) ∧ (b = true → vW h l = vW h1 l1 + vW h2 l2) := by
  obtain ⟨a1, a2, a3, a4⟩ := o1
  obtain ⟨b1, b2, b3, b4⟩ := o2
  unfold vW
  simp only [f_CX, B_CX, Pg.val_ret, Pg.val_cnd, Pg.val_opt, Pg.val_no, Pg.val_sum]
  try delta wI wU
  rw [add64_eq l1 l2 0 a3 b3 (by omega) (by omega)]
  simp only [Option.bind_some, wrap_u64]
  rw [add64_eq _ _ _ (by omega) (by omega) (by omega) (by omega)]
  simp only [Option.bind_some]
  generalize hc : (l1 + l2 + 0) / 18446744073709551616 = c
  generalize hl : (l1 + l2 + 0) % 18446744073709551616 = l
  generalize hm : (h1 % 18446744073709551616 + h2 % 18446744073709551616 + c) % 18446744073709551616 = m
  have hw := wrap_i64_eq m
  generalize IntKind.wrap IntKind.i64 m = w at *
  have hw1 : w = m ∨ w = m - 18446744073709551616 := by split at hw <;> omega
  have hw2 : -9223372036854775808 ≤ w ∧ w ≤ 9223372036854775807 := by split at hw <;> omega
  by_cases n1 : h1 < 0
  · by_cases n2 : h2 < 0
    · have e : (!decide (h1 < 0) == decide (h2 < 0)) = false := by simp [n1, n2]
      simp only [e, cond_false]
      refine ⟨w, l, _, rfl, ⟨hw2.1, hw2.2, by omega, by omega⟩, ?_, ?_⟩
      · simp only [n1, decide_true, beq_true, decide_eq_true_eq]
        constructor <;> intro h <;> omega
      · simp only [n1, decide_true, beq_true, decide_eq_true_eq]
        intro h; omega
    · have e : (!decide (h1 < 0) == decide (h2 < 0)) = true := by simp [n1, n2]
      simp only [e, cond_true]
      refine ⟨w, l, _, rfl, ⟨hw2.1, hw2.2, by omega, by omega⟩, ?_, ?_⟩
      · simp only [true_iff]; constructor <;> omega
      · intro h; omega
  · by_cases n2 : h2 < 0
    · have e : (!decide (h1 < 0) == decide (h2 < 0)) = true := by simp [n1, n2]
      simp only [e, cond_true]
      refine ⟨w, l, _, rfl, ⟨hw2.1, hw2.2, by omega, by omega⟩, ?_, ?_⟩
      · simp only [true_iff]; constructor <;> omega
      · intro h; omega
    · have e : (!decide (h1 < 0) == decide (h2 < 0)) = false := by simp [n1, n2]
      simp only [e, cond_false]
      refine ⟨w, l, _, rfl, ⟨hw2.1, hw2.2, by omega, by omega⟩, ?_, ?_⟩
      · simp only [n1, decide_false, _root_.beq_false, Bool.not_eq_true', decide_eq_false_iff_not]
        constructor <;> intro h <;> omega
      · simp only [n1, decide_false, _root_.beq_false, Bool.not_eq_true', decide_eq_false_iff_not]
        intro h; omega
theorem wide_abs (h l : Int) (o : okW h l) : ∃ ah al, f_CA h l = some ((ah, al), decide (h < 0)) ∧ 0 ≤ ah ∧ ah ≤ 9223372036854775808 ∧ 0 ≤ al ∧ al < 18446744073709551616 ∧ ah * 18446744073709551616 + al = (if h < 0 then -vW h l else vW h l) := by
  obtain ⟨a1, a2, a3, a4⟩ := o
  unfold vW
  simp only [f_CA, B_CA, Pg.val_ret, Pg.val_cnd, Pg.val_opt, Pg.val_no, Pg.val_sum]
  try delta wI wU
  by_cases n : h < 0
  · have e : decide (h ≥ 0) = false := decide_eq_false (by omega)
    simp only [e, cond_false, xor_all l a3 a4, wrap_u64]
    rw [xor_all (h % 18446744073709551616) (by omega) (by omega), add64_eq _ _ _ (by omega) (by omega) (by omega) (by omega)]
    simp only [Option.bind_some, n, decide_true, if_true]
    refine ⟨_, _, rfl, ?_, ?_, ?_, ?_, ?_⟩ <;> omega
  · have e : decide (h ≥ 0) = true := decide_eq_true (by omega)
    simp only [e, cond_true, wrap_u64, n, decide_false, if_false]
    refine ⟨_, _, rfl, ?_, ?_, ?_, ?_, ?_⟩ <;> omega
theorem big_plus (h1 l1 h2 l2 : Int) (a0 : 0 ≤ h1) (b0 : 0 ≤ l1) (c0 : 0 ≤ h2) (d0 : 0 ≤ l2) (b1 : l1 < 18446744073709551616) (d1 : l2 < 18446744073709551616) :
    f_Aw h1 l1 h2 l2 = some ((h1 + h2 + (l1 + l2) / 18446744073709551616) % 18446744073709551616, (l1 + l2) % 18446744073709551616) := by
  simp only [f_Aw, B_Aw, Pg.val_ret, Pg.val_cnd, Pg.val_opt, Pg.val_no, Pg.val_sum]
  try delta wI wU
  rw [add64_eq _ _ _ b0 d0 (by omega) (by omega)]
  simp only [Option.bind_some, Int.add_zero]
  rw [add64_eq _ _ _ a0 c0 (by omega) (by omega)]
  rfl
theorem shl_one (n : Nat) (hn : n < 126) : f_BX 0 1 (Int.ofNat n) = some (2 ^ n / 18446744073709551616, 2 ^ n % 18446744073709551616) := by
  have key : ∀ n : Fin 126, f_BX 0 1 (Int.ofNat n.val) = some ((2 : Int) ^ n.val / 18446744073709551616, (2 : Int) ^ n.val % 18446744073709551616) := by decide +kernel
  exact key ⟨n, hn⟩
theorem pow_pos' (n : Nat) : (0 : Int) < 2 ^ n := Int.pow_pos (by decide)
theorem big_shr (h l : Int) (s : Nat) (hs : s ≤ 126) (h0 : 0 ≤ h) (h1 : h < 18446744073709551616) (l0 : 0 ≤ l) (l1 : l < 18446744073709551616) :
    ∃ h' l', f_BT h l (Int.ofNat s) = some (h', l') ∧ 0 ≤ h' ∧ 0 ≤ l' ∧ l' < 18446744073709551616 ∧ h' * 18446744073709551616 + l' = (h * 18446744073709551616 + l) / 2 ^ s := by
  simp only [f_BT, B_BT, Pg.val_ret, Pg.val_cnd, Pg.val_opt, Pg.val_no, Pg.val_sum]
  try delta wI wU
  by_cases c : 64 ≤ s
  · have e : decide (Int.ofNat s ≥ 64) = true := by simp only [Int.ofNat_eq_natCast]; exact decide_eq_true (by omega)
    have e2 : IntKind.wrap .i64 (Int.ofNat s - 64) = Int.ofNat (s - 64) := (wrap_i64 (by simp only [Int.ofNat_eq_natCast]; omega) (by simp only [Int.ofNat_eq_natCast]; omega)).trans (by simp only [Int.ofNat_eq_natCast]; omega)
    have e3 : (!decide (Int.ofNat (s - 64) < 0)) = true := by simp
    have e4 : min (Int.toNat (Int.ofNat (s - 64))) 64 = s - 64 := by
      show min (s - 64) 64 = s - 64
      omega
    simp only [e, e2, e3, e4, cond_true]
    rw [fdiv_pos _ _ (Int.le_of_lt (pow_pos' _))]
    refine ⟨_, _, rfl, by omega, Int.ediv_nonneg h0 (Int.le_of_lt (pow_pos' _)), Int.lt_of_le_of_lt (Int.ediv_le_self _ h0) h1, ?_⟩
    have p : (2 : Int) ^ s = 18446744073709551616 * 2 ^ (s - 64) := by
      rw [show (18446744073709551616 : Int) = 2 ^ 64 from rfl, ← Int.pow_add]
      congr 1; omega
    rw [p, ← Int.ediv_ediv_of_nonneg (by decide)]
    have : (h * 18446744073709551616 + l) / 18446744073709551616 = h := by omega
    rw [this]; omega
  · have e : decide (Int.ofNat s ≥ 64) = false := by simp only [Int.ofNat_eq_natCast]; exact decide_eq_false (by omega)
    have e2 : IntKind.wrap .i64 (64 - Int.ofNat s) = Int.ofNat (64 - s) := (wrap_i64 (by simp only [Int.ofNat_eq_natCast]; omega) (by simp only [Int.ofNat_eq_natCast]; omega)).trans (by simp only [Int.ofNat_eq_natCast]; omega)
    have e3 : ∀ n, (!decide (Int.ofNat n < 0)) = true := by simp
    have e4 : min (Int.toNat (Int.ofNat (64 - s))) 64 = 64 - s := by
      show min (64 - s) 64 = 64 - s
      omega
    have e5 : min (Int.toNat (Int.ofNat s)) 64 = s := by
      show min s 64 = s
      omega
    simp only [e, e2, e3, e4, e5, cond_true, cond_false, wrap_u64]
    rw [fdiv_pos _ _ (Int.le_of_lt (pow_pos' _)), fdiv_pos _ _ (Int.le_of_lt (pow_pos' _))]
    have pq : (18446744073709551616 : Int) = 2 ^ s * 2 ^ (64 - s) := by
      rw [← Int.pow_add, show s + (64 - s) = 64 by omega]; rfl
    generalize hP : (2 : Int) ^ s = P at *
    generalize hQ : (2 : Int) ^ (64 - s) = Q at *
    have P0 : 0 < P := by rw [← hP]; exact pow_pos' s
    have Q0 : 0 < Q := by rw [← hQ]; exact pow_pos' (64 - s)
    have m : h * Q % 18446744073709551616 = h % P * Q := by
      rw [pq, Int.mul_comm h Q, Int.mul_comm P Q, Int.mul_emod_mul_of_pos _ _ Q0, Int.mul_comm]
    have x0 : 0 ≤ l / P := Int.ediv_nonneg l0 (Int.le_of_lt P0)
    have x1 : l / P < Q := Int.ediv_lt_of_lt_mul P0 (by rw [Int.mul_comm, ← pq]; exact l1)
    have y0 : 0 ≤ h % P := Int.emod_nonneg _ (by omega)
    have y1 : h % P < P := Int.emod_lt_of_pos _ P0
    have y2 : h % P * Q + Q ≤ 18446744073709551616 := by
      have : (h % P + 1) * Q ≤ P * Q := Int.mul_le_mul_of_nonneg_right (by omega) (Int.le_of_lt Q0)
      rw [Int.add_mul, ← pq] at this; omega
    have y3 : 0 ≤ h % P * Q := Int.mul_nonneg y0 (Int.le_of_lt Q0)
    have key : Int.ofNat (BitVec.toNat (BitVec.ofInt 64 (l / P) ||| BitVec.ofInt 64 (h * Q % 18446744073709551616))) = l / P + h % P * Q := by
      rw [m]
      exact or_apart _ _ (64 - s) x0 (by rw [hQ]; exact x1) y3 (by omega) (by omega) (by rw [hQ]; exact Int.mul_emod_left _ _)
    rw [key]
    have z : (l / P + h % P * Q) % 18446744073709551616 = l / P + h % P * Q := Int.emod_eq_of_lt (by omega) (by omega)
    rw [z]
    refine ⟨_, _, rfl, Int.ediv_nonneg h0 (Int.le_of_lt P0), by omega, by omega, ?_⟩
    have f1 : (h * 18446744073709551616 + l) / P = h * Q + l / P := by
      rw [pq, show h * (P * Q) + l = l + h * Q * P by rw [Int.mul_comm P Q, ← Int.mul_assoc, Int.add_comm], Int.add_mul_ediv_right _ _ (by omega)]
      omega
    have f2 : h / P * 18446744073709551616 = h / P * P * Q := by rw [pq, Int.mul_assoc]
    have f3 : h / P * P + h % P = h := Int.ediv_mul_add_emod h P
    rw [f1, f2]
    have f4 : (h / P * P + h % P) * Q = h * Q := by rw [f3]
    rw [Int.add_mul] at f4
    omega
theorem wide_signed64 (h l : Int) (neg : Bool) (h0 : 0 ≤ h) (l0 : 0 ≤ l) (l1 : l < 18446744073709551616) :
    f_BH h l neg = if h * 18446744073709551616 + l ≤ (if neg = true then 9223372036854775808 else 9223372036854775807) then some (if neg = true then -l else l, true) else some (0, false) := by
  simp only [f_BH, B_BH, Pg.val_ret, Pg.val_cnd, Pg.val_opt, Pg.val_no, Pg.val_sum]
  try delta wI wU
  by_cases c : h = 0
  · subst c
    have e : ((0 : Int) != 0) = false := rfl
    simp only [e, cond_false, Int.zero_mul, Int.zero_add]
    cases neg
    · by_cases d : l > 9223372036854775807
      · have d2 : ¬ l ≤ 9223372036854775807 := by omega
        simp [d, d2]
      · have d2 : l ≤ 9223372036854775807 := by omega
        simp only [Bool.not_false, cond_true, d, decide_false, cond_false, Bool.false_eq_true, if_false, d2, if_true]
        rw [wrap_i64 (by omega) d2]
    · by_cases d : l > 9223372036854775808
      · have d2 : ¬ l ≤ 9223372036854775808 := by omega
        simp [d, d2]
      · have d2 : l ≤ 9223372036854775808 := by omega
        have e3 : IntKind.wrap .i64 (IntKind.wrap .u64 (0 - l)) = -l := by
          rw [wrap_u64, wrap_i64_eq]; split <;> omega
        have e4 : IntKind.wrap .i64 (IntKind.wrap .u64 (-l)) = -l := by
          rw [wrap_u64, wrap_i64_eq]; split <;> omega
        simp [d, d2, e3, e4]
  · have e : (h != 0) = true := by simp [c]
    have d2 : ¬ h * 18446744073709551616 + l ≤ (if neg = true then 9223372036854775808 else 9223372036854775807) := by split <;> omega
    simp only [e, cond_true, d2, if_false]
def half (s : Nat) : Int := if s = 0 then 0 else 2 ^ (s - 1)
def rnd (v : Int) (s : Nat) : Int := if v < 0 then -((-v + half s) / 2 ^ s) else (v + half s) / 2 ^ s
theorem half_le (s : Nat) (hs : s ≤ 126) : 0 ≤ half s ∧ half s ≤ 42535295865117307932921825928971026432 := by
  unfold half
  split
  · omega
  · refine ⟨Int.le_of_lt (pow_pos' _), ?_⟩
    have : (2 : Int) ^ (s - 1) ≤ 2 ^ 125 := by
      have h2 : (2 : Nat) ^ (s - 1) ≤ 2 ^ 125 := Nat.pow_le_pow_right (by decide) (by omega)
      have h3 : ((2 ^ (s - 1) : Nat) : Int) ≤ ((2 ^ 125 : Nat) : Int) := by exact_mod_cast h2
      simpa using h3
    exact this
theorem wide_round (h l : Int) (s : Nat) (hs : s ≤ 126) (o : okW h l) :
    f_BI h l (Int.ofNat s) = if -9223372036854775808 ≤ rnd (vW h l) s ∧ rnd (vW h l) s ≤ 9223372036854775807 then some (rnd (vW h l) s, true) else some (0, false) := by
  simp only [f_BI, B_BI, Pg.val_ret, Pg.val_cnd, Pg.val_opt, Pg.val_no, Pg.val_sum]
  try delta wI wU
  obtain ⟨ah, al, e1, a0, a1, a2, a3, a4⟩ := wide_abs h l o
  have n0 : decide (Int.ofNat s < 0) = false := by simp
  have n1 : decide (Int.ofNat s > 126) = false := by simp only [Int.ofNat_eq_natCast]; exact decide_eq_false (by omega)
  simp only [n0, n1, cond_false, e1, Option.bind_some]
  obtain ⟨hh0, hh1⟩ := half_le s hs
  -- what is shifted
  have fin : ∀ h' l' : Int, 0 ≤ h' → 0 ≤ l' → l' < 18446744073709551616 → h' * 18446744073709551616 + l' = ((if h < 0 then -vW h l else vW h l) + half s) / 2 ^ s →
      (f_BH h' l' (decide (h < 0))).bind (fun d => some (d.fst, d.snd)) = if -9223372036854775808 ≤ rnd (vW h l) s ∧ rnd (vW h l) s ≤ 9223372036854775807 then some (rnd (vW h l) s, true) else some (0, false) := by
    intro h' l' b0 b1 b2 b3
    rw [wide_signed64 h' l' _ b0 b1 b2]
    obtain ⟨o1, o2, o3, o4⟩ := o
    by_cases n : h < 0
    · have nv : vW h l < 0 := by show h * 18446744073709551616 + l < 0; omega
      simp only [n, decide_true, if_true] at b3 ⊢
      unfold rnd
      simp only [nv, if_true]
      rw [← b3]
      by_cases c : h' * 18446744073709551616 + l' ≤ 9223372036854775808
      · rw [if_pos c, if_pos (by omega)]
        simp only [Option.bind_some, Option.some.injEq, Prod.mk.injEq, and_true]; omega
      · rw [if_neg c, if_neg (by omega)]; rfl
    · have nv : ¬ vW h l < 0 := by show ¬ h * 18446744073709551616 + l < 0; omega
      simp only [n, decide_false, if_false, Bool.false_eq_true] at b3 ⊢
      unfold rnd
      simp only [nv, if_false]
      rw [← b3]
      by_cases c : h' * 18446744073709551616 + l' ≤ 9223372036854775807
      · rw [if_pos c, if_pos (by omega)]
        simp only [Option.bind_some, Option.some.injEq, Prod.mk.injEq, and_true]; omega
      · rw [if_neg c, if_neg (by omega)]; rfl
  by_cases z : s = 0
  · subst z
    have n2 : decide (Int.ofNat 0 > 0) = false := by decide
    simp only [n2, cond_false]
    obtain ⟨h', l', e2, b0, b1, b2, b3⟩ := big_shr ah al 0 (by omega) a0 (by omega) a2 a3
    rw [e2]
    simp only [Option.bind_some]
    exact fin h' l' b0 b1 b2 (by rw [b3, a4]; simp [half])
  · have n2 : decide (Int.ofNat s > 0) = true := by simp only [Int.ofNat_eq_natCast]; exact decide_eq_true (by omega)
    simp only [n2, cond_true]
    have n3 : IntKind.wrap .i64 (Int.ofNat s - 1) = Int.ofNat (s - 1) := (wrap_i64 (by simp only [Int.ofNat_eq_natCast]; omega) (by simp only [Int.ofNat_eq_natCast]; omega)).trans (by simp only [Int.ofNat_eq_natCast]; omega)
    have hf : half s = 2 ^ (s - 1) := by unfold half; rw [if_neg z]
    rw [n3, shl_one (s - 1) (by omega), ← hf]
    simp only [Option.bind_some]
    rw [big_plus _ _ _ _ a0 a2 (by omega) (by omega) a3 (by omega)]
    simp only [Option.bind_some]
    obtain ⟨h', l', e2, b0, b1, b2, b3⟩ := big_shr ((ah + half s / 18446744073709551616 + (al + half s % 18446744073709551616) / 18446744073709551616) % 18446744073709551616) ((al + half s % 18446744073709551616) % 18446744073709551616) s hs (by omega) (by omega) (by omega) (by omega)
    rw [e2]
    simp only [Option.bind_some]
    refine fin h' l' b0 b1 b2 ?_
    rw [b3, ← a4]
    congr 1
    omega
def sat (x : Int) : Int := if x < -1152921504606846976 then -1152921504606846976 else if 1152921504606846976 < x then 1152921504606846976 else x
def over (x : Int) : Bool := decide (x < -1152921504606846976) || decide (1152921504606846976 < x)
theorem sat_le (x : Int) : -1152921504606846976 ≤ sat x ∧ sat x ≤ 1152921504606846976 := by
  unfold sat; split <;> (try split) <;> omega
theorem acc_sat (x : Int) (hit : Bool) : f_Z x hit = some (sat x, hit || over x) := by
  simp only [f_Z, B_Z, f_AC, B_AC, Pg.val_ret, Pg.val_cnd, Pg.val_opt, Pg.val_no, Pg.val_sum]
  try delta wI wU
  unfold sat over
  have e : decide ((-1152921504606846976 : Int) > 1152921504606846976) = false := by decide
  by_cases c : x < -1152921504606846976
  · simp [e, c]
  · by_cases d : 1152921504606846976 < x
    · have d2 : x > 1152921504606846976 := d
      simp [e, c, d]
    · simp [e, c, d]
theorem acc_end (a : Int) (ok neg hit : Bool) : f_BY a ok neg hit = if ok = true then some (sat a, hit || over a) else some (if neg = true then -1152921504606846976 else 1152921504606846976, true) := by
  simp only [f_BY, B_BY, f_CE, B_CE, Pg.val_ret, Pg.val_cnd, Pg.val_opt, Pg.val_no, Pg.val_sum]
  try delta wI wU
  cases ok
  · cases neg <;> rfl
  · simp only [Bool.not_true, cond_false, acc_sat, Option.bind_some, if_true]
theorem acc_round (h l : Int) (s : Nat) (hit : Bool) (hs : s ≤ 120) (o : okW h l) : f_Bn h l (Int.ofNat s) hit = some (sat (rnd (vW h l) s), hit || over (rnd (vW h l) s)) := by
  simp only [f_Bn, B_Bn, Pg.val_ret, Pg.val_cnd, Pg.val_opt, Pg.val_no, Pg.val_sum]
  try delta wI wU
  have n0 : decide (Int.ofNat s < 0) = false := by simp
  have n1 : decide (Int.ofNat s > 120) = false := by simp only [Int.ofNat_eq_natCast]; exact decide_eq_false (by omega)
  simp only [n0, n1, cond_false, wide_round h l s (by omega) o]
  by_cases c : -9223372036854775808 ≤ rnd (vW h l) s ∧ rnd (vW h l) s ≤ 9223372036854775807
  · simp only [c, and_self, if_true, Option.bind_some, acc_end]
  · rw [if_neg c]
    simp only [Option.bind_some, acc_end, Bool.false_eq_true, if_false]
    have sg : (h < 0 → rnd (vW h l) s ≤ 0) ∧ (¬ h < 0 → 0 ≤ rnd (vW h l) s) := by
      obtain ⟨o1, o2, o3, o4⟩ := o
      obtain ⟨hh0, hh1⟩ := half_le s (by omega)
      have p := pow_pos' s
      unfold rnd
      refine ⟨fun n => ?_, fun n => ?_⟩
      · have nv : vW h l < 0 := by show h * 18446744073709551616 + l < 0; omega
        rw [if_pos nv]
        have : 0 ≤ (-vW h l + half s) / 2 ^ s := Int.ediv_nonneg (by omega) (Int.le_of_lt p)
        omega
      · have nv : ¬ vW h l < 0 := by show ¬ h * 18446744073709551616 + l < 0; omega
        rw [if_neg nv]
        exact Int.ediv_nonneg (by omega) (Int.le_of_lt p)
    unfold sat over
    by_cases n : h < 0
    · have := sg.1 n
      have c1 : rnd (vW h l) s < -1152921504606846976 := by omega
      simp [n, c1]
    · have := sg.2 n
      have c1 : ¬ rnd (vW h l) s < -1152921504606846976 := by omega
      have c2 : 1152921504606846976 < rnd (vW h l) s := by omega
      simp [n, c1, c2]
end Go.Proofs.YtphkdkkbbfnkaaaGreat
set_option maxRecDepth 100000
set_option maxHeartbeats 4000000
set_option linter.unusedVariables false
set_option linter.unusedSimpArgs false
namespace Go.Proofs.YtphkdkkbbfnkaaaGreat
open Go.Ab
theorem abs64_eq (x : Int) (h0 : -9223372036854775808 ≤ x) (h1 : x ≤ 9223372036854775807) : f_Bc x = some (if x < 0 then -x else x) := by
  simp only [f_Bc, B_Bc, Pg.val_ret, Pg.val_cnd, Pg.val_opt, Pg.val_no, Pg.val_sum]
  try delta wI wU
  by_cases c : x < 0
  · simp only [c, decide_true, cond_true, if_true, wrap_u64]; exact congrArg (some : Int → Option Int) (by omega)
  · simp only [c, decide_false, cond_false, if_false, wrap_u64]; exact congrArg (some : Int → Option Int) (by omega)
theorem mul_lt32 {a b : Int} (a0 : 0 ≤ a) (a1 : a ≤ 4294967295) (b0 : 0 ≤ b) (b1 : b ≤ 4294967295) : 0 ≤ a * b ∧ a * b ≤ 18446744065119617025 := by
  refine ⟨Int.mul_nonneg a0 b0, ?_⟩
  have := Int.mul_le_mul a1 b1 b0 (by omega)
  omega
theorem mul64_eq (x y : Int) (x0 : 0 ≤ x) (x1 : x < 18446744073709551616) (y0 : 0 ≤ y) (y1 : y < 18446744073709551616) : f_Cl x y = some (x * y / 18446744073709551616, x * y % 18446744073709551616) := by
  simp only [f_Cl, B_Cl, Pg.val_ret, Pg.val_cnd, Pg.val_opt, Pg.val_no, Pg.val_sum]
  try delta wI wU
  rw [and_mask x x0 x1, and_mask y y0 y1]
  simp only [fdiv_pos _ 4294967296 (by decide), wrap_u64]
  have xe : x = x / 4294967296 * 4294967296 + x % 4294967296 := by omega
  have ye : y = y / 4294967296 * 4294967296 + y % 4294967296 := by omega
  have xh : 0 ≤ x / 4294967296 ∧ x / 4294967296 ≤ 4294967295 := by omega
  have yh : 0 ≤ y / 4294967296 ∧ y / 4294967296 ≤ 4294967295 := by omega
  have xl : 0 ≤ x % 4294967296 ∧ x % 4294967296 ≤ 4294967295 := by omega
  have yl : 0 ≤ y % 4294967296 ∧ y % 4294967296 ≤ 4294967295 := by omega
  have hxy : x * y = (x / 4294967296) * (y / 4294967296) * 18446744073709551616 + ((x / 4294967296) * (y % 4294967296) + (x % 4294967296) * (y / 4294967296)) * 4294967296 + (x % 4294967296) * (y % 4294967296) := by
    conv => lhs; rw [xe, ye]
    generalize x / 4294967296 = a
    generalize x % 4294967296 = b
    generalize y / 4294967296 = c
    generalize y % 4294967296 = d
    rw [Int.add_mul, Int.mul_add, Int.mul_add, Int.add_mul]
    rw [show a * 4294967296 * (c * 4294967296) = a * c * 18446744073709551616 by rw [Int.mul_assoc, Int.mul_left_comm 4294967296 c, ← Int.mul_assoc, show (4294967296 : Int) * 4294967296 = 18446744073709551616 from rfl]]
    rw [show a * 4294967296 * d = a * d * 4294967296 by rw [Int.mul_assoc, Int.mul_comm 4294967296 d, ← Int.mul_assoc], show b * (c * 4294967296) = b * c * 4294967296 by rw [Int.mul_assoc]]
    omega
  obtain ⟨A0, A1⟩ := mul_lt32 xh.1 xh.2 yh.1 yh.2
  obtain ⟨B0, B1⟩ := mul_lt32 xh.1 xh.2 yl.1 yl.2
  obtain ⟨C0, C1⟩ := mul_lt32 xl.1 xl.2 yh.1 yh.2
  obtain ⟨D0, D1⟩ := mul_lt32 xl.1 xl.2 yl.1 yl.2
  simp only [Int.emod_eq_of_lt xl.1 (show x % 4294967296 < 18446744073709551616 by omega), Int.emod_eq_of_lt yl.1 (show y % 4294967296 < 18446744073709551616 by omega)]
  rw [hxy]
  generalize x / 4294967296 * (y / 4294967296) = A at *
  generalize x / 4294967296 * (y % 4294967296) = B at *
  generalize x % 4294967296 * (y / 4294967296) = C at *
  generalize x % 4294967296 * (y % 4294967296) = D at *
  have r1 : A % 18446744073709551616 = A := Int.emod_eq_of_lt A0 (by omega)
  have r2 : B % 18446744073709551616 = B := Int.emod_eq_of_lt B0 (by omega)
  have r3 : C % 18446744073709551616 = C := Int.emod_eq_of_lt C0 (by omega)
  have r4 : D % 18446744073709551616 = D := Int.emod_eq_of_lt D0 (by omega)
  simp only [r1, r2, r3, r4]
  have r5 : (B + D / 4294967296) % 18446744073709551616 = B + D / 4294967296 := Int.emod_eq_of_lt (by omega) (by omega)
  simp only [r5]
  rw [and_mask (B + D / 4294967296) (by omega) (by omega)]
  have r6 : (B + D / 4294967296) % 4294967296 % 18446744073709551616 = (B + D / 4294967296) % 4294967296 := Int.emod_eq_of_lt (by omega) (by omega)
  simp only [r6]
  have r7 : ((B + D / 4294967296) % 4294967296 + C) % 18446744073709551616 = (B + D / 4294967296) % 4294967296 + C := Int.emod_eq_of_lt (by omega) (by omega)
  simp only [r7]
  refine congrArg some (Prod.ext ?_ rfl)
  simp only
  omega
theorem wide_signed (h l : Int) (neg : Bool) (h0 : 0 ≤ h) (h1 : h < 9223372036854775808) (l0 : 0 ≤ l) (l1 : l < 18446744073709551616) :
    ∃ h' l' b, f_CB h l neg = some ((h', l'), b) ∧ okW h' l' ∧ vW h' l' = if neg = true then -(h * 18446744073709551616 + l) else h * 18446744073709551616 + l := by
  simp only [f_CB, B_CB, Pg.val_ret, Pg.val_cnd, Pg.val_opt, Pg.val_no, Pg.val_sum]
  try delta wI wU
  cases neg
  · refine ⟨_, _, _, rfl, ?_, ?_⟩
    · rw [wrap_i64 (by omega) (by omega)]; omega
    · rw [wrap_i64 (by omega) (by omega)]; rfl
  · simp only [Bool.not_true, cond_false, xor_all l l0 l1, wrap_u64, xor_all h h0 (by omega)]
    rw [add64_eq _ _ _ (by omega) (by omega) (by omega) (by omega)]
    simp only [Option.bind_some]
    generalize hm : (18446744073709551615 - h) % 18446744073709551616 + ((18446744073709551615 - l) % 18446744073709551616 + 1 + 0) / 18446744073709551616 = m
    have hw := wrap_i64_eq (m % 18446744073709551616)
    generalize IntKind.wrap IntKind.i64 (m % 18446744073709551616) = w at *
    have ok : okW w (((18446744073709551615 - l) % 18446744073709551616 + 1 + 0) % 18446744073709551616) ∧ vW w (((18446744073709551615 - l) % 18446744073709551616 + 1 + 0) % 18446744073709551616) = -(h * 18446744073709551616 + l) := by
      unfold vW
      refine ⟨⟨?_, ?_, ?_, ?_⟩, ?_⟩ <;> (split at hw <;> omega)
    cases decide (w < 0)
    · exact ⟨_, _, _, rfl, ok.1, by simp only [if_true]; exact ok.2⟩
    · exact ⟨_, _, _, rfl, ok.1, by simp only [if_true]; exact ok.2⟩
theorem wide_mul (a b : Int) (a0 : -9223372036854775808 ≤ a) (a1 : a ≤ 9223372036854775807) (b0 : -9223372036854775808 ≤ b) (b1 : b ≤ 9223372036854775807) : ∃ h l, f_AU a b = some (h, l) ∧ okW h l ∧ vW h l = a * b := by
  simp only [f_AU, B_AU, Pg.val_ret, Pg.val_cnd, Pg.val_opt, Pg.val_no, Pg.val_sum]
  try delta wI wU
  simp only [abs64_eq a a0 a1, abs64_eq b b0 b1, Option.bind_some]
  generalize hx : (if a < 0 then -a else a) = x
  generalize hy : (if b < 0 then -b else b) = y
  have x0 : 0 ≤ x ∧ x ≤ 9223372036854775808 := by rw [← hx]; split <;> omega
  have y0 : 0 ≤ y ∧ y ≤ 9223372036854775808 := by rw [← hy]; split <;> omega
  have hp : 0 ≤ x * y := Int.mul_nonneg x0.1 y0.1
  have hq : x * y ≤ 85070591730234615865843651857942052864 := by
    have := Int.mul_le_mul x0.2 y0.2 y0.1 (by omega)
    omega
  rw [mul64_eq x y x0.1 (by omega) y0.1 (by omega)]
  simp only [Option.bind_some]
  obtain ⟨h, l, c, e1, e2, e3⟩ := wide_signed (x * y / 18446744073709551616) (x * y % 18446744073709551616) (!decide (a < 0) == decide (b < 0)) (by omega) (by omega) (by omega) (by omega)
  rw [e1]
  simp only [Option.bind_some]
  refine ⟨h, l, rfl, e2, ?_⟩
  have e4 : x * y / 18446744073709551616 * 18446744073709551616 + x * y % 18446744073709551616 = x * y := by omega
  rw [e3, e4]
  by_cases p : a < 0
  · by_cases q : b < 0
    · rw [if_pos p] at hx
      rw [if_pos q] at hy
      simp only [p, q, decide_true]
      rw [if_neg (by decide)]
      rw [← hx, ← hy, Int.neg_mul_neg]
    · rw [if_pos p] at hx
      rw [if_neg q] at hy
      simp only [p, q, decide_true, decide_false]
      rw [if_pos (by decide)]
      rw [← hx, ← hy, Int.neg_mul, Int.neg_neg]
  · by_cases q : b < 0
    · rw [if_neg p] at hx
      rw [if_pos q] at hy
      simp only [p, q, decide_true, decide_false]
      rw [if_pos (by decide)]
      rw [← hx, ← hy, Int.mul_neg, Int.neg_neg]
    · rw [if_neg p] at hx
      rw [if_neg q] at hy
      simp only [p, q, decide_false]
      rw [if_neg (by decide)]
      rw [← hx, ← hy]
theorem acc_mul (a b : Int) (s : Nat) (hit : Bool) (hs : s ≤ 120) : f_AF a b (Int.ofNat s) hit = some (sat (rnd (sat a * sat b) s), hit || over a || over b || over (rnd (sat a * sat b) s)) := by
  simp only [f_AF, B_AF, Pg.val_ret, Pg.val_cnd, Pg.val_opt, Pg.val_no, Pg.val_sum]
  try delta wI wU
  have := sat_le a
  have := sat_le b
  obtain ⟨h, l, e1, e2, e3⟩ := wide_mul (sat a) (sat b) (by omega) (by omega) (by omega) (by omega)
  simp only [acc_sat, Option.bind_some, e1, acc_round h l s _ hs e2, e3]
end Go.Proofs.YtphkdkkbbfnkaaaGreat
set_option maxRecDepth 100000
set_option maxHeartbeats 4000000
set_option linter.unusedVariables false
set_option linter.unusedSimpArgs false
namespace Go.Proofs.YtphkdkkbbfnkaaaGreat
open Go.Ab
theorem wide_Add2 (f g : Nat → Int) (w : Bool) (o1 : okW (f 0) (g 0)) (o2 : okW (f 1) (g 1)) (r0 : -170141183460469231731687303715884105728 ≤ vW (f 0) (g 0) + vW (f 1) (g 1)) (r1 : vW (f 0) (g 0) + vW (f 1) (g 1) < 170141183460469231731687303715884105728) :
    ∃ h l, f_AO 2 f g w = some ((h, l), true) ∧ okW h l ∧ vW h l = vW (f 0) (g 0) + vW (f 1) (g 1) := by
  simp only [f_AO, B_AO, Pg.val_ret, Pg.val_cnd, Pg.val_opt, Pg.val_no, Pg.val_sum]
  try delta wI wU
  unfold L_AO_0
  rw [show Nat.beq 2 2 = true from rfl, cond_true, loopP_bind]
  obtain ⟨h1, l1, b1, e1, a1, c1, d1⟩ := wide_add 0 0 (f 0) (g 0) ⟨by omega, by omega, by omega, by omega⟩ o1
  have t1 : b1 = true := by
    rw [c1]
    obtain ⟨p1, p2, p3, p4⟩ := o1
    simp only [vW]; omega
  subst t1
  have d1 := d1 rfl
  obtain ⟨h2, l2, b2, e2, a2, c2, d2⟩ := wide_add h1 l1 (f 1) (g 1) a1 o2
  have z : vW 0 0 = 0 := rfl
  have t2 : b2 = true := by rw [c2, d1, z]; omega
  subst t2
  have d2 := d2 rfl
  refine ⟨h2, l2, ?_, a2, by rw [d2, d1, z]; omega⟩
  have k0 : decide ((0 : Int) < Int.ofNat 2) = true := by decide
  have k1 : inR 0 2 = true := by decide
  have k2 : IntKind.wrap .i64 (0 + 1) = 1 := by decide
  have k3 : decide ((1 : Int) < Int.ofNat 2) = true := by decide
  have k4 : inR 1 2 = true := by decide
  have k5 : IntKind.wrap .i64 (1 + 1) = 2 := by decide
  have k6 : decide ((2 : Int) < Int.ofNat 2) = false := by decide
  have k7 : Int.toNat 0 = 0 := rfl
  have k8 : Int.toNat 1 = 1 := rfl
  rw [loopK_succ]
  simp only [S_AO_0, Pg.run_cnd, Pg.run_opt, Pg.run_ret, Pg.run_no, Pg.run_sum, Sum.elim_inl, Sum.elim_inr, wI, k0, k1, k2, k7, cond_true, e1, Option.bind_some, Bool.not_true, cond_false]
  rw [loopK_succ]
  simp only [k3, k4, k5, k8, cond_true, e2, Option.bind_some, Bool.not_true, cond_false]
  rw [loopK_succ]
  simp only [k6, cond_false, Sum.elim_inr]
def sumF (f : Nat → Int) : Nat → Int
  | 0 => 0
  | n + 1 => sumF f n + f n
def anyF (f : Nat → Bool) : Nat → Bool
  | 0 => false
  | n + 1 => anyF f n || f n
theorem sumF_le (f : Nat → Int) (B : Int) (hB : 0 ≤ B) (n : Nat) (h : ∀ j, j < n → -B ≤ f j ∧ f j ≤ B) : -(n * B) ≤ sumF f n ∧ sumF f n ≤ n * B := by
  induction n with
  | zero => simp [sumF]
  | succ n ih =>
    have := ih fun j hj => h j (by omega)
    have h2 := h n (by omega)
    have e : ((n + 1 : Nat) : Int) * B = n * B + B := by rw [Int.natCast_add, Int.add_mul]; simp
    rw [e, sumF]
    omega
theorem idx_lt {i n t : Nat} (h : i + t = n) (ht : 0 < t) : decide (Int.ofNat i < Int.ofNat n) = true := by simp only [Int.ofNat_eq_natCast]; exact decide_eq_true (by omega)
theorem idx_ge {i n : Nat} (h : n ≤ i) : decide (Int.ofNat i < Int.ofNat n) = false := by simp only [Int.ofNat_eq_natCast]; exact decide_eq_false (by omega)
theorem idx_in {i n : Nat} (h : i < n) : inR (Int.ofNat i) n = true := by unfold inR; simp only [Int.ofNat_eq_natCast, Bool.and_eq_true, decide_eq_true_eq]; omega
theorem idx_up {i : Nat} (h : i < 9000000000000000000) : IntKind.wrap .i64 (Int.ofNat i + 1) = Int.ofNat (i + 1) := (wrap_i64 (by simp only [Int.ofNat_eq_natCast]; omega) (by simp only [Int.ofNat_eq_natCast]; omega)).trans rfl
end Go.Proofs.YtphkdkkbbfnkaaaGreat
set_option maxRecDepth 100000
set_option maxHeartbeats 4000000
set_option linter.unusedVariables false
set_option linter.unusedSimpArgs false
namespace Go.Proofs.YtphkdkkbbfnkaaaGreat
open Go.Ab
theorem sat_mul (a b : Int) : -1329227995784915872903807060280344576 ≤ sat a * sat b ∧ sat a * sat b ≤ 1329227995784915872903807060280344576 := by
  have h1 := sat_le a
  have h2 := sat_le b
  generalize sat a = x at *
  generalize sat b = y at *
  have key : ∀ u v : Int, 0 ≤ u → u ≤ 1152921504606846976 → 0 ≤ v → v ≤ 1152921504606846976 → 0 ≤ u * v ∧ u * v ≤ 1329227995784915872903807060280344576 := fun u v u0 u1 v0 v1 => by
    refine ⟨Int.mul_nonneg u0 v0, ?_⟩
    have := Int.mul_le_mul u1 v1 v0 (by omega)
    omega
  rcases Int.le_total 0 x with hx | hx <;> rcases Int.le_total 0 y with hy | hy
  · have := key x y hx (by omega) hy (by omega); omega
  · have := key x (-y) hx (by omega) (by omega) (by omega)
    rw [Int.mul_neg] at this; omega
  · have := key (-x) y (by omega) (by omega) hy (by omega)
    rw [Int.neg_mul] at this; omega
  · have := key (-x) (-y) (by omega) (by omega) (by omega) (by omega)
    rw [Int.neg_mul_neg] at this; omega
theorem acc_dot (s : Nat) (hs : s ≤ 120) (n : Nat) (hn : n ≤ 100) (hit : Bool) (f g : Nat → Int) (w w' : Bool) :
    f_AE (Int.ofNat s) n n hit f g w w' = some (sat (rnd (sumF (fun j => sat (f j) * sat (g j)) n) s), (hit || anyF (fun j => over (f j) || over (g j)) n) || over (rnd (sumF (fun j => sat (f j) * sat (g j)) n) s)) := by
  simp only [f_AE, B_AE, Pg.val_ret, Pg.val_cnd, Pg.val_opt, Pg.val_no, Pg.val_sum]
  try delta wI wU
  unfold L_AE_0
  have n0 : decide (Int.ofNat s < 0) = false := by simp
  have n1 : decide (Int.ofNat s > 120) = false := by simp only [Int.ofNat_eq_natCast]; exact decide_eq_false (by omega)
  have m : (if 100 < if Int.ofNat n < Int.ofNat n then Int.ofNat n else Int.ofNat n then 100 else if Int.ofNat n < Int.ofNat n then Int.ofNat n else Int.ofNat n) = Int.ofNat n := by
    have e : ¬ Int.ofNat n < Int.ofNat n := by omega
    rw [if_neg e, if_neg (by simp only [Int.ofNat_eq_natCast]; omega)]
  rw [n0, n1, cond_false, cond_false, Nat.beq_refl, cond_true, cond_true, m]
  refine loopP_inv (fun t d => ∃ (i : Nat) (h l' : Int), i + t = n ∧ okW h l' ∧ vW h l' = sumF (fun j => sat (f j) * sat (g j)) i ∧ d = ((Int.ofNat s, (n, w), (n, w'), Int.ofNat n, Int.ofNat i), (hit || anyF (fun j => over (f j) || over (g j)) i), f, g, h, l')) ?_ 2000 n _ (by omega)
    ⟨0, 0, 0, by omega, ⟨by omega, by omega, by omega, by omega⟩, rfl, by simp only [anyF, Bool.or_false]; rfl⟩
  rintro t _ c ⟨i, h, l', hi, ho, hv, rfl⟩ hc
  have bnd := sumF_le (fun j => sat (f j) * sat (g j)) 1329227995784915872903807060280344576 (by omega) i (fun j _ => sat_mul _ _)
  rcases Nat.eq_zero_or_pos t with t0 | t0
  · have e : i = n := by omega
    subst e
    simp only [S_AE_0, Pg.run_cnd, Pg.run_opt, Pg.run_ret, Pg.run_no, Pg.run_sum, Sum.elim_inl, Sum.elim_inr, wI, idx_ge (Nat.le_refl i), cond_false, acc_round h l' s _ hs ho, hv, Option.bind_some]
  · have hs1 := sat_le (f i)
    have hs2 := sat_le (g i)
    have hm := sat_mul (f i) (g i)
    obtain ⟨h1, l1, e1, o1, v1⟩ := wide_mul (sat (f i)) (sat (g i)) (by omega) (by omega) (by omega) (by omega)
    obtain ⟨h2, l2, e2, o2, v2⟩ := wide_Add2 (fun j : Nat => bif Nat.beq j 1 then h1 else bif Nat.beq j 0 then h else h) (fun j : Nat => bif Nat.beq j 1 then l1 else bif Nat.beq j 0 then l' else l') true
      ho o1 (by show _ ≤ vW h l' + vW h1 l1; rw [hv, v1]; omega) (by show vW h l' + vW h1 l1 < _; rw [hv, v1]; omega)
    have v2 : vW h2 l2 = vW h l' + vW h1 l1 := v2
    rw [hv, v1] at v2
    have q : Int.toNat (Int.ofNat i) = i := rfl
    simp only [S_AE_0, Pg.run_cnd, Pg.run_opt, Pg.run_ret, Pg.run_no, Pg.run_sum, Sum.elim_inl, Sum.elim_inr, wI, idx_lt hi t0, idx_in (show i < n by omega), cond_true, q, acc_sat, Option.bind_some, e1, e2, idx_up (show i < 9000000000000000000 by omega)]
    refine hc (t - 1) _ (by omega) ⟨i + 1, h2, l2, by omega, o2, v2, ?_⟩
    simp only [anyF, Bool.or_assoc]
theorem rnd_one (x : Int) : rnd (x * 1073741824) 30 = x := by
  unfold rnd half
  rw [if_neg (by omega : ¬ (30 : Nat) = 0), show (2 : Int) ^ (30 - 1) = 536870912 from rfl, show (2 : Int) ^ 30 = 1073741824 from rfl]
  split <;> omega
theorem sat_id {x : Int} (h : -1152921504606846976 ≤ x ∧ x ≤ 1152921504606846976) : sat x = x ∧ over x = false := by
  unfold sat over
  have h1 : ¬ x < -1152921504606846976 := by omega
  have h2 : ¬ 1152921504606846976 < x := by omega
  simp [h1, h2]
end Go.Proofs.YtphkdkkbbfnkaaaGreat
