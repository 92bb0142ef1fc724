/-
  The quotient of 128 bits by 64, digit by digit, in plain arithmetic.
-/
import Derived.Test.YtdpenjncfmkbgaaDWY
set_option maxRecDepth 100000
set_option maxHeartbeats 4000000
set_option linter.unusedVariables false
set_option linter.unusedSimpArgs false
namespace Go.Proofs.Ytdpenjncfmkbgaa
open Go.Ab
/-! how many bits -/
theorem len_tab (x : Int) (h0 : 1 ≤ x) (h1 : x < 256) : ∃ n : Nat, 1 ≤ n ∧ n ≤ 8 ∧ (2 : Int) ^ (n - 1) ≤ x ∧ x < 2 ^ n ∧ ∀ {ρ : Type} (m : Int) (k : Int → Option ρ), 0 ≤ m → m ≤ 1000 → L_math_bits_Len64_2 (x, m) k = k (m + n) := by
  obtain ⟨a, rfl⟩ : ∃ a : Nat, x = (a : Int) := ⟨x.toNat, by omega⟩
  have key : ∀ a : Fin 256, 1 ≤ a.val → ∀ {ρ : Type} (m : Int) (k : Int → Option ρ), S_math_bits_Len64_2 (a.val : Int) m (fun _ => none) k = k (IntKind.wrap .i64 (m + (Nat.log2 a.val + 1 : Nat))) := by
    have t : ∀ a : Fin 256, 1 ≤ a.val → (inR (IntKind.wrap .u8 (a.val : Int)) 256 = true ∧ IntKind.wrap .i64 (byteAt (ByteArray.mk
                (List.toArray
                  (List.append
                    (List.append
                      [0, 1, 2, 2, 3, 3, 3, 3, 4, 4, 4, 4, 4, 4, 4, 4, 5, 5, 5, 5, 5, 5, 5, 5, 5, 5, 5, 5, 5, 5, 5, 5, 6, 6, 6, 6, 6, 6, 6, 6, 6, 6, 6, 6, 6, 6, 6, 6, 6, 6, 6, 6, 6, 6, 6, 6, 6, 6, 6, 6,
                        6, 6, 6, 6]
                      [7, 7, 7, 7, 7, 7, 7, 7, 7, 7, 7, 7, 7, 7, 7, 7, 7, 7, 7, 7, 7, 7, 7, 7, 7, 7, 7, 7, 7, 7, 7, 7, 7, 7, 7, 7, 7, 7, 7, 7, 7, 7, 7, 7, 7, 7, 7, 7, 7, 7, 7, 7, 7, 7, 7, 7, 7, 7, 7, 7,
                        7, 7, 7, 7])
                    (List.append
                      [8, 8, 8, 8, 8, 8, 8, 8, 8, 8, 8, 8, 8, 8, 8, 8, 8, 8, 8, 8, 8, 8, 8, 8, 8, 8, 8, 8, 8, 8, 8, 8, 8, 8, 8, 8, 8, 8, 8, 8, 8, 8, 8, 8, 8, 8, 8, 8, 8, 8, 8, 8, 8, 8, 8, 8, 8, 8, 8, 8,
                        8, 8, 8, 8]
                      [8, 8, 8, 8, 8, 8, 8, 8, 8, 8, 8, 8, 8, 8, 8, 8, 8, 8, 8, 8, 8, 8, 8, 8, 8, 8, 8, 8, 8, 8, 8, 8, 8, 8, 8, 8, 8, 8, 8, 8, 8, 8, 8, 8, 8, 8, 8, 8, 8, 8, 8, 8, 8, 8, 8, 8, 8, 8, 8, 8,
                        8, 8, 8, 8]))))
              (Int.toNat (IntKind.wrap IntKind.u8 (a.val : Int)))) = ((Nat.log2 a.val + 1 : Nat) : Int)) := by decide +kernel
    intro a ha ρ m k
    obtain ⟨t1, t2⟩ := t a ha
    unfold S_math_bits_Len64_2
    rw [t1, cond_true, t2]
  have ha : 1 ≤ a := by omega
  have a256 : a < 256 := by omega
  have l1 := Nat.log2_self_le (n := a) (by omega)
  have l2 : a < 2 ^ (a.log2 + 1) := Nat.lt_log2_self
  have lb : a.log2 < 8 := by
    rcases Nat.lt_or_ge a.log2 8 with c | c
    · exact c
    · have : 2 ^ 8 ≤ 2 ^ a.log2 := Nat.pow_le_pow_right (by decide) c
      omega
  refine ⟨a.log2 + 1, by omega, by omega, ?_, ?_, fun m k m0 m1 => ?_⟩
  · rw [Nat.add_sub_cancel]
    have : ((2 ^ a.log2 : Nat) : Int) = (2 : Int) ^ a.log2 := by simp
    omega
  · have : ((2 ^ (a.log2 + 1) : Nat) : Int) = (2 : Int) ^ (a.log2 + 1) := by simp
    omega
  · have : S_math_bits_Len64_2 (a : Int) m (fun _ => none) k = k (IntKind.wrap .i64 (m + (Nat.log2 a + 1 : Nat))) := key ⟨a, a256⟩ ha m k
    unfold L_math_bits_Len64_2
    rw [this, wrap_i64 (by omega) (by omega)]
theorem pow_add' (a b : Nat) : (2 : Int) ^ (a + b) = 2 ^ a * 2 ^ b := Int.pow_add _ _ _
theorem len_shift (x : Int) (b n : Nat) (hn : 1 ≤ n) (h0 : (2 : Int) ^ (n - 1) ≤ x / 2 ^ b) (h1 : x / 2 ^ b < 2 ^ n) : (2 : Int) ^ (n + b - 1) ≤ x ∧ x < 2 ^ (n + b) := by
  have B0 := pow_pos' b
  have e1 : (2 : Int) ^ (n + b - 1) = 2 ^ (n - 1) * 2 ^ b := by rw [← pow_add']; congr 1; omega
  have e2 : (2 : Int) ^ (n + b) = 2 ^ n * 2 ^ b := pow_add' _ _
  rw [e1, e2]
  exact ⟨Int.mul_le_of_le_ediv B0 h0, Int.lt_mul_of_ediv_lt B0 h1⟩
theorem len_8 (x : Int) (h0 : 1 ≤ x) (h1 : x < 65536) : ∃ n : Nat, 1 ≤ n ∧ n ≤ 16 ∧ (2 : Int) ^ (n - 1) ≤ x ∧ x < 2 ^ n ∧ ∀ {ρ : Type} (m : Int) (k : Int → Option ρ), 0 ≤ m → m ≤ 900 → L_math_bits_Len64_1 (x, m) k = k (m + n) := by
  by_cases c : x ≥ 256
  · obtain ⟨n, n1, n2, b0, b1, e⟩ := len_tab (x / 256) (by omega) (by omega)
    obtain ⟨c0, c1⟩ := len_shift x 8 n n1 b0 b1
    refine ⟨n + 8, by omega, by omega, c0, c1, fun m k m0 m1 => ?_⟩
    unfold L_math_bits_Len64_1 S_math_bits_Len64_1
    rw [decide_eq_true c, cond_true, fdiv_pos _ _ (by omega), wrap_i64 (by omega) (by omega), e (m + 8) _ (by omega) (by omega)]
    congr 1; omega
  · obtain ⟨n, n1, n2, b0, b1, e⟩ := len_tab x h0 (by omega)
    refine ⟨n, n1, by omega, b0, b1, fun m k m0 m1 => ?_⟩
    unfold L_math_bits_Len64_1 S_math_bits_Len64_1
    rw [decide_eq_false c, cond_false, e m _ m0 (by omega)]
theorem len_16 (x : Int) (h0 : 1 ≤ x) (h1 : x < 4294967296) : ∃ n : Nat, 1 ≤ n ∧ n ≤ 32 ∧ (2 : Int) ^ (n - 1) ≤ x ∧ x < 2 ^ n ∧ ∀ {ρ : Type} (m : Int) (k : Int → Option ρ), 0 ≤ m → m ≤ 800 → L_math_bits_Len64_0 (x, m) k = k (m + n) := by
  by_cases c : x ≥ 65536
  · obtain ⟨n, n1, n2, b0, b1, e⟩ := len_8 (x / 65536) (by omega) (by omega)
    obtain ⟨c0, c1⟩ := len_shift x 16 n n1 b0 b1
    refine ⟨n + 16, by omega, by omega, c0, c1, fun m k m0 m1 => ?_⟩
    unfold L_math_bits_Len64_0 S_math_bits_Len64_0
    rw [decide_eq_true c, cond_true, fdiv_pos _ _ (by omega), wrap_i64 (by omega) (by omega), e (m + 16) _ (by omega) (by omega)]
    congr 1; omega
  · obtain ⟨n, n1, n2, b0, b1, e⟩ := len_8 x h0 (by omega)
    refine ⟨n, n1, by omega, b0, b1, fun m k m0 m1 => ?_⟩
    unfold L_math_bits_Len64_0 S_math_bits_Len64_0
    rw [decide_eq_false c, cond_false, e m _ m0 (by omega)]
theorem len_64 (x : Int) (h0 : 1 ≤ x) (h1 : x < 18446744073709551616) : ∃ n : Nat, 1 ≤ n ∧ n ≤ 64 ∧ (2 : Int) ^ (n - 1) ≤ x ∧ x < 2 ^ n ∧ f_math_bits_Len64 x = some (n : Int) := by
  unfold f_math_bits_Len64 K_math_bits_Len64
  by_cases c : x ≥ 4294967296
  · obtain ⟨n, n1, n2, b0, b1, e⟩ := len_16 (x / 4294967296) (by omega) (by omega)
    obtain ⟨c0, c1⟩ := len_shift x 32 n n1 b0 b1
    refine ⟨n + 32, by omega, by omega, c0, c1, ?_⟩
    rw [decide_eq_true c, cond_true, fdiv_pos _ _ (by omega), e 32 _ (by omega) (by omega)]
    congr 1; omega
  · obtain ⟨n, n1, n2, b0, b1, e⟩ := len_16 x h0 (by omega)
    refine ⟨n, n1, by omega, b0, b1, ?_⟩
    rw [decide_eq_false c, cond_false, e 0 _ (by omega) (by omega), Int.zero_add]
/-- so many places to the left till the first bit stands at the front -/
theorem lead_64 (x : Int) (h0 : 1 ≤ x) (h1 : x < 18446744073709551616) : ∃ s : Nat, s ≤ 63 ∧ 9223372036854775808 ≤ x * 2 ^ s ∧ x * 2 ^ s < 18446744073709551616 ∧ f_math_bits_LeadingZeros64 x = some (s : Int) := by
  obtain ⟨n, n1, n2, b0, b1, e⟩ := len_64 x h0 h1
  refine ⟨64 - n, by omega, ?_, ?_, ?_⟩
  · have p : (9223372036854775808 : Int) = 2 ^ (n - 1) * 2 ^ (64 - n) := by
      rw [← pow_add', show n - 1 + (64 - n) = 63 by omega]; rfl
    rw [p]
    exact Int.mul_le_mul_of_nonneg_right b0 (Int.le_of_lt (pow_pos' _))
  · have p : (18446744073709551616 : Int) = 2 ^ n * 2 ^ (64 - n) := by
      rw [← pow_add', show n + (64 - n) = 64 by omega]; rfl
    rw [p]
    exact Int.mul_lt_mul_of_pos_right b1 (pow_pos' _)
  · unfold f_math_bits_LeadingZeros64 K_math_bits_LeadingZeros64
    rw [e, Option.bind_some, wrap_i64 (by omega) (by omega)]
    congr 1; omega
/-! one digit -/
structure Dig (Y yn1 yn0 U u : Int) : Prop where
  y : Y = yn1 * 4294967296 + yn0
  a : 2147483648 ≤ yn1 ∧ yn1 < 4294967296
  b : 0 ≤ yn0 ∧ yn0 < 4294967296
  u0 : 0 ≤ U ∧ U < Y
  d : 0 ≤ u ∧ u < 4294967296
theorem Dig.lt {Y yn1 yn0 U u : Int} (h : Dig Y yn1 yn0 U u) : 0 ≤ (U * 4294967296 + u) / Y ∧ (U * 4294967296 + u) / Y < 4294967296 := by
  obtain ⟨y, a, b, u0, d⟩ := h
  constructor
  · exact Int.ediv_nonneg (by omega) (by omega)
  · refine Int.ediv_lt_of_lt_mul (by omega) ?_
    omega
theorem Dig.down {Y yn1 yn0 U u q rh : Int} (h : Dig Y yn1 yn0 U u) (e : q * yn1 + rh = U) (c : 4294967296 * rh + u < q * yn0) : (U * 4294967296 + u) / Y ≤ q - 1 := by
  obtain ⟨y, a, b, u0, d⟩ := h
  have : (U * 4294967296 + u) / Y < q := by
    refine Int.ediv_lt_of_lt_mul (by omega) ?_
    have e2 : q * Y = (q * yn1) * 4294967296 + q * yn0 := by rw [y]; grind
    omega
  omega
theorem Dig.stay {Y yn1 yn0 U u q rh : Int} (h : Dig Y yn1 yn0 U u) (e : q * yn1 + rh = U) (c : q * yn0 ≤ 4294967296 * rh + u) (l : (U * 4294967296 + u) / Y ≤ q) : q = (U * 4294967296 + u) / Y := by
  obtain ⟨y, a, b, u0, d⟩ := h
  have : q ≤ (U * 4294967296 + u) / Y := by
    refine (Int.le_ediv_iff_mul_le (by omega)).2 ?_
    have e2 : q * Y = (q * yn1) * 4294967296 + q * yn0 := by rw [y]; grind
    omega
  omega
theorem Dig.out {Y yn1 yn0 U u q rh : Int} (h : Dig Y yn1 yn0 U u) (e : q * yn1 + rh = U) (q0 : 0 ≤ q) (c : 4294967296 ≤ rh) (l : (U * 4294967296 + u) / Y ≤ q) : q = (U * 4294967296 + u) / Y := by
  have h' := h
  obtain ⟨y, a, b, u0, d⟩ := h
  refine h'.stay e ?_ l
  have q1 : q ≤ 4294967295 := by
    rcases Int.lt_or_le q 4294967296 with k | k
    · omega
    · exfalso
      have := Int.mul_le_mul_of_nonneg_right k (show 0 ≤ yn1 by omega)
      omega
  have := Int.mul_le_mul q1 (show yn0 ≤ 4294967295 by omega) b.1 (by omega)
  omega
theorem div_l0 {ρ : Type} (Y s yn1 yn0 U u u0 : Int) (h : Dig Y yn1 yn0 U u) (k : _ → Option ρ) (r : Option ρ)
    (h1 : ∀ rh a b c d, k (Sum.inl (Y, s, yn1, yn0, U, u, u0, (U * 4294967296 + u) / Y, rh, a, b, c, d)) = r)
    (h2 : ∀ rh a b c d e f g i, k (Sum.inr (Sum.inl (Y, s, yn1, yn0, U, u, u0, (U * 4294967296 + u) / Y, rh, a, b, c, d, e, f, g, i))) = r)
    (h3 : ∀ rh a b c d e, k (Sum.inr (Sum.inr (Y, s, yn1, yn0, U, u, u0, (U * 4294967296 + u) / Y, rh, a, b, c, d, e))) = r) :
    L_math_bits_Div64_0 (Y, s, yn1, yn0, U, u, u0, U / yn1, U % yn1) k = r := by
  have h' := h
  obtain ⟨y, a, b, hu, d⟩ := h
  have lt := h'.lt
  have qm := Int.mul_ediv_add_emod U yn1
  have m0 := Int.emod_nonneg U (show yn1 ≠ 0 by omega)
  have m1 := Int.emod_lt_of_pos U (show 0 < yn1 by omega)
  have qn := Int.ediv_nonneg hu.1 (show 0 ≤ yn1 by omega)
  have start : (U * 4294967296 + u) / Y ≤ U / yn1 := by
    have e2 : (U * 4294967296 + u) / Y < U / yn1 + 1 := by
      refine Int.ediv_lt_of_lt_mul (by omega) ?_
      have e3 : (U / yn1 + 1) * Y = (yn1 * (U / yn1)) * 4294967296 + yn1 * 4294967296 + (U / yn1 + 1) * yn0 := by rw [y]; grind
      have := Int.mul_nonneg (show 0 ≤ U / yn1 + 1 by omega) b.1
      omega
    omega
  unfold L_math_bits_Div64_0
  refine loopK_inv (fun t x => ∃ (q rh : Int), 0 ≤ q ∧ q * yn1 + rh = U ∧ (U * 4294967296 + u) / Y ≤ q ∧ (2 - (t : Int)) * 2147483648 ≤ rh ∧ 0 ≤ rh ∧ rh < 4294967296 ∧ x = (Y, s, yn1, yn0, U, u, u0, q, rh)) ?_ 200 2 _ (by omega)
    ⟨U / yn1, U % yn1, qn, by rw [Int.mul_comm]; exact qm, start, by omega, m0, by omega, rfl⟩
  rintro t _ c ⟨q, rh, q0, e, l, tb, r0, r1, rfl⟩ hc
  have down : (U * 4294967296 + u) / Y ≤ q - 1 → 0 ≤ q - 1 → (q - 1) * yn1 + (rh + yn1) = U := fun _ _ => by
    have : (q - 1) * yn1 = q * yn1 - yn1 := by grind
    omega
  have qb : q ≤ 4294967298 := by
    rcases Int.lt_or_le q 4294967298 with k | k
    · omega
    · exfalso
      have := Int.mul_le_mul_of_nonneg_right k (show 0 ≤ yn1 by omega)
      omega
  have w1 : IntKind.wrap .u64 (rh + yn1) = rh + yn1 := by rw [wrap_u64]; omega
  by_cases c1 : q ≥ 4294967296
  · have d1 : (U * 4294967296 + u) / Y ≤ q - 1 := by omega
    have w2 : IntKind.wrap .u64 (q - 1) = q - 1 := by rw [wrap_u64]; omega
    have e2 := down d1 (by omega)
    simp only [S_math_bits_Div64_0, decide_eq_true c1, cond_true, w1, w2]
    by_cases c2 : rh + yn1 ≥ 4294967296
    · rw [decide_eq_true c2, cond_true, h'.out e2 (by omega) c2 d1]
      exact h1 _ _ _ _ _
    · rw [decide_eq_false c2, cond_false]
      have t1 : 1 ≤ t := by omega
      exact hc (t - 1) _ (by omega) ⟨q - 1, rh + yn1, by omega, e2, d1, by omega, by omega, by omega, rfl⟩
  · have pm : 0 ≤ q * yn0 ∧ q * yn0 < 18446744073709551616 := by
      refine ⟨Int.mul_nonneg q0 b.1, ?_⟩
      have := Int.mul_le_mul (show q ≤ 4294967295 by omega) (show yn0 ≤ 4294967295 by omega) b.1 (by omega)
      omega
    have w3 : IntKind.wrap .u64 (q * yn0) = q * yn0 := by rw [wrap_u64]; omega
    have w4 : IntKind.wrap .u64 (4294967296 * rh) = 4294967296 * rh := by rw [wrap_u64]; omega
    have w5 : IntKind.wrap .u64 (4294967296 * rh + u) = 4294967296 * rh + u := by rw [wrap_u64]; omega
    simp only [S_math_bits_Div64_0, decide_eq_false c1, cond_false, w1, w3, w4, w5]
    by_cases c3 : q * yn0 > 4294967296 * rh + u
    · have d1 := h'.down e c3
      have qp : 1 ≤ q := by
        rcases Int.lt_or_le 0 q with k | k
        · omega
        · exfalso
          have : q = 0 := by omega
          subst this
          omega
      have w2 : IntKind.wrap .u64 (q - 1) = q - 1 := by rw [wrap_u64]; omega
      have e2 := down d1 (by omega)
      rw [decide_eq_true c3, cond_true, w2]
      by_cases c2 : rh + yn1 ≥ 4294967296
      · rw [decide_eq_true c2, cond_true, h'.out e2 (by omega) c2 d1]
        exact h2 _ _ _ _ _ _ _ _ _
      · rw [decide_eq_false c2, cond_false]
        exact hc (t - 1) _ (by omega) ⟨q - 1, rh + yn1, by omega, e2, d1, by omega, by omega, by omega, rfl⟩
    · rw [decide_eq_false c3, cond_false, h'.stay e (by omega) l]
      exact h3 _ _ _ _ _ _
theorem div_l1 {ρ : Type} (Y s yn1 yn0 U u q1 : Int) (h : Dig Y yn1 yn0 U u) (k : _ → Option ρ) (r : Option ρ)
    (h1 : ∀ rh a b c d, k (Sum.inl (Y, s, yn1, yn0, u, q1, rh, U, (U * 4294967296 + u) / Y, a, b, c, d)) = r)
    (h2 : ∀ rh a b c d e f g i, k (Sum.inr (Sum.inl (Y, s, yn1, yn0, u, q1, rh, U, (U * 4294967296 + u) / Y, a, b, c, d, e, f, g, i))) = r)
    (h3 : ∀ rh a b c d e, k (Sum.inr (Sum.inr (Y, s, yn1, yn0, u, q1, rh, U, (U * 4294967296 + u) / Y, a, b, c, d, e))) = r) :
    L_math_bits_Div64_1 (Y, s, yn1, yn0, u, q1, U % yn1, U, U / yn1) k = r := by
  have h' := h
  obtain ⟨y, a, b, hu, d⟩ := h
  have lt := h'.lt
  have qm := Int.mul_ediv_add_emod U yn1
  have m0 := Int.emod_nonneg U (show yn1 ≠ 0 by omega)
  have m1 := Int.emod_lt_of_pos U (show 0 < yn1 by omega)
  have qn := Int.ediv_nonneg hu.1 (show 0 ≤ yn1 by omega)
  have start : (U * 4294967296 + u) / Y ≤ U / yn1 := by
    have e2 : (U * 4294967296 + u) / Y < U / yn1 + 1 := by
      refine Int.ediv_lt_of_lt_mul (by omega) ?_
      have e3 : (U / yn1 + 1) * Y = (yn1 * (U / yn1)) * 4294967296 + yn1 * 4294967296 + (U / yn1 + 1) * yn0 := by rw [y]; grind
      have := Int.mul_nonneg (show 0 ≤ U / yn1 + 1 by omega) b.1
      omega
    omega
  unfold L_math_bits_Div64_1
  refine loopK_inv (fun t x => ∃ (q rh : Int), 0 ≤ q ∧ q * yn1 + rh = U ∧ (U * 4294967296 + u) / Y ≤ q ∧ (2 - (t : Int)) * 2147483648 ≤ rh ∧ 0 ≤ rh ∧ rh < 4294967296 ∧ x = (Y, s, yn1, yn0, u, q1, rh, U, q)) ?_ 200 2 _ (by omega)
    ⟨U / yn1, U % yn1, qn, by rw [Int.mul_comm]; exact qm, start, by omega, m0, by omega, rfl⟩
  rintro t _ c ⟨q, rh, q0, e, l, tb, r0, r1, rfl⟩ hc
  have down : (U * 4294967296 + u) / Y ≤ q - 1 → 0 ≤ q - 1 → (q - 1) * yn1 + (rh + yn1) = U := fun _ _ => by
    have : (q - 1) * yn1 = q * yn1 - yn1 := by grind
    omega
  have qb : q ≤ 4294967298 := by
    rcases Int.lt_or_le q 4294967298 with k | k
    · omega
    · exfalso
      have := Int.mul_le_mul_of_nonneg_right k (show 0 ≤ yn1 by omega)
      omega
  have w1 : IntKind.wrap .u64 (rh + yn1) = rh + yn1 := by rw [wrap_u64]; omega
  by_cases c1 : q ≥ 4294967296
  · have d1 : (U * 4294967296 + u) / Y ≤ q - 1 := by omega
    have w2 : IntKind.wrap .u64 (q - 1) = q - 1 := by rw [wrap_u64]; omega
    have e2 := down d1 (by omega)
    simp only [S_math_bits_Div64_1, decide_eq_true c1, cond_true, w1, w2]
    by_cases c2 : rh + yn1 ≥ 4294967296
    · rw [decide_eq_true c2, cond_true, h'.out e2 (by omega) c2 d1]
      exact h1 _ _ _ _ _
    · rw [decide_eq_false c2, cond_false]
      have t1 : 1 ≤ t := by omega
      exact hc (t - 1) _ (by omega) ⟨q - 1, rh + yn1, by omega, e2, d1, by omega, by omega, by omega, rfl⟩
  · have pm : 0 ≤ q * yn0 ∧ q * yn0 < 18446744073709551616 := by
      refine ⟨Int.mul_nonneg q0 b.1, ?_⟩
      have := Int.mul_le_mul (show q ≤ 4294967295 by omega) (show yn0 ≤ 4294967295 by omega) b.1 (by omega)
      omega
    have w3 : IntKind.wrap .u64 (q * yn0) = q * yn0 := by rw [wrap_u64]; omega
    have w4 : IntKind.wrap .u64 (4294967296 * rh) = 4294967296 * rh := by rw [wrap_u64]; omega
    have w5 : IntKind.wrap .u64 (4294967296 * rh + u) = 4294967296 * rh + u := by rw [wrap_u64]; omega
    simp only [S_math_bits_Div64_1, decide_eq_false c1, cond_false, w1, w3, w4, w5]
    by_cases c3 : q * yn0 > 4294967296 * rh + u
    · have d1 := h'.down e c3
      have qp : 1 ≤ q := by
        rcases Int.lt_or_le 0 q with k | k
        · omega
        · exfalso
          have : q = 0 := by omega
          subst this
          omega
      have w2 : IntKind.wrap .u64 (q - 1) = q - 1 := by rw [wrap_u64]; omega
      have e2 := down d1 (by omega)
      rw [decide_eq_true c3, cond_true, w2]
      by_cases c2 : rh + yn1 ≥ 4294967296
      · rw [decide_eq_true c2, cond_true, h'.out e2 (by omega) c2 d1]
        exact h2 _ _ _ _ _ _ _ _ _
      · rw [decide_eq_false c2, cond_false]
        exact hc (t - 1) _ (by omega) ⟨q - 1, rh + yn1, by omega, e2, d1, by omega, by omega, by omega, rfl⟩
    · rw [decide_eq_false c3, cond_false, h'.stay e (by omega) l]
      exact h3 _ _ _ _ _ _
/-- the quotient and the rest -/
theorem div64_eq (hi lo y : Int) (h0 : 0 ≤ hi) (h1 : hi < y) (h2 : y < 18446744073709551616) (l0 : 0 ≤ lo) (l1 : lo < 18446744073709551616) :
    f_math_bits_Div64 hi lo y = some ((hi * 18446744073709551616 + lo) / y, (hi * 18446744073709551616 + lo) % y) := by
  unfold f_math_bits_Div64 K_math_bits_Div64
  have y0 : (y == 0) = false := by rw [beq_eq_false_iff_ne]; omega
  rw [y0, cond_false, decide_eq_false (show ¬ y ≤ hi by omega), cond_false]
  by_cases hz : hi = 0
  · subst hz
    have z : ((0 : Int) == 0) = true := rfl
    have yn : (!decide (y = 0)) = true := by rw [decide_eq_false (by omega)]; rfl
    rw [z, cond_true, yn, cond_true, cond_true, Int.zero_mul, Int.zero_add, Int.tdiv_eq_ediv_of_nonneg l0, Int.tmod_eq_emod_of_nonneg l0]
    have d0 := Int.ediv_nonneg l0 (show 0 ≤ y by omega)
    have d1 := Int.ediv_le_self y l0
    have w : IntKind.wrap .u64 (lo / y) = lo / y := by rw [wrap_u64]; omega
    rw [w]
  have z : (hi == 0) = false := by rw [beq_eq_false_iff_ne]; exact hz
  rw [z, cond_false]
  obtain ⟨s, s63, b0, b1, e⟩ := lead_64 y (by omega) h2
  rw [e, Option.bind_some]
  have P0 := pow_pos' s
  have Q0 := pow_pos' (64 - s)
  have k1 : IntKind.wrap .u64 (s : Int) = (s : Int) := by rw [wrap_u64]; omega
  have k2 : IntKind.wrap .u64 (64 - (s : Int)) = ((64 - s : Nat) : Int) := by rw [wrap_u64]; omega
  have k3 : ∀ n : Nat, (!decide ((n : Int) < 0)) = true := fun n => by rw [decide_eq_false (by omega)]; rfl
  have k4 : min (Int.toNat (s : Int)) 64 = s := by rw [Int.toNat_natCast]; omega
  have k5 : min (Int.toNat ((64 - s : Nat) : Int)) 64 = 64 - s := by rw [Int.toNat_natCast]; omega
  have k6 : IntKind.wrap .u64 (y * 2 ^ s) = y * 2 ^ s := by rw [wrap_u64]; omega
  simp only [k1, k2, k3, k4, k5, k6, cond_true]
  have pq : (18446744073709551616 : Int) = 2 ^ s * 2 ^ (64 - s) := by
    rw [← pow_add', show s + (64 - s) = 64 by omega]; rfl
  have ab : hi * 2 ^ s + 2 ^ s ≤ y * 2 ^ s := by
    have := Int.mul_le_mul_of_nonneg_right (show hi + 1 ≤ y by omega) (Int.le_of_lt P0)
    rw [Int.add_mul] at this; omega
  have a0 : 0 ≤ hi * 2 ^ s := Int.mul_nonneg h0 (Int.le_of_lt P0)
  have x0 : 0 ≤ lo / 2 ^ (64 - s) := Int.ediv_nonneg l0 (Int.le_of_lt Q0)
  have x1 : lo / 2 ^ (64 - s) < 2 ^ s := Int.ediv_lt_of_lt_mul Q0 (by rw [← pq]; exact l1)
  have k7 : IntKind.wrap .u64 (hi * 2 ^ s) = hi * 2 ^ s := by rw [wrap_u64]; omega
  have or1 : Int.ofNat (BitVec.toNat (BitVec.ofInt 64 (hi * 2 ^ s) ||| BitVec.ofInt 64 (Int.fdiv lo (2 ^ (64 - s))))) = hi * 2 ^ s + lo / 2 ^ (64 - s) := by
    rw [fdiv_pos _ _ (Int.le_of_lt Q0), BitVec.or_comm, or_apart _ _ s x0 x1 a0 (by omega) (by omega) (Int.mul_emod_left _ _)]
    omega
  have k8 : IntKind.wrap .u64 (hi * 2 ^ s + lo / 2 ^ (64 - s)) = hi * 2 ^ s + lo / 2 ^ (64 - s) := by rw [wrap_u64]; omega
  simp only [k7, or1, k8]
  rw [wrap_u64 (lo * 2 ^ s)]
  have c0 : 0 ≤ lo * 2 ^ s % 18446744073709551616 ∧ lo * 2 ^ s % 18446744073709551616 < 18446744073709551616 := by omega
  have N : (hi * 2 ^ s + lo / 2 ^ (64 - s)) * 18446744073709551616 + lo * 2 ^ s % 18446744073709551616 = (hi * 18446744073709551616 + lo) * 2 ^ s := by
    have m1 : lo * 2 ^ s / 18446744073709551616 = lo / 2 ^ (64 - s) := by
      rw [pq, Int.mul_comm lo, Int.mul_ediv_mul_of_pos _ _ P0]
    have m2 : lo * 2 ^ s = lo * 2 ^ s / 18446744073709551616 * 18446744073709551616 + lo * 2 ^ s % 18446744073709551616 := by omega
    have m3 : (hi * 18446744073709551616 + lo) * 2 ^ s = hi * 2 ^ s * 18446744073709551616 + lo * 2 ^ s := by grind
    rw [m3, ← m1]; omega
  have U1 : 0 ≤ hi * 2 ^ s + lo / 2 ^ (64 - s) ∧ hi * 2 ^ s + lo / 2 ^ (64 - s) < y * 2 ^ s := by omega
  have am1 : ∀ x : Int, 0 ≤ x → x < 18446744073709551616 → IntKind.wrap .u64 (Int.ofNat (BitVec.toNat (BitVec.ofInt 64 x &&& BitVec.ofInt 64 4294967295))) = x % 4294967296 := fun x x0 x1 => by
    rw [and_mask x x0 x1, wrap_u64]; omega
  rw [am1 (y * 2 ^ s) (by omega) b1, am1 _ c0.1 c0.2]
  simp only [fdiv_pos _ 4294967296 (show (0 : Int) ≤ 4294967296 by decide)]
  -- the answer, of what was shifted
  have A1 : (hi * 18446744073709551616 + lo) / y = (hi * 18446744073709551616 + lo) * 2 ^ s / (y * 2 ^ s) := by
    rw [Int.mul_comm _ (2 ^ s), Int.mul_comm y, Int.mul_ediv_mul_of_pos _ _ P0]
  have A2 : (hi * 18446744073709551616 + lo) % y = (hi * 18446744073709551616 + lo) * 2 ^ s % (y * 2 ^ s) / 2 ^ s := by
    rw [Int.mul_comm _ (2 ^ s), Int.mul_comm y, Int.mul_emod_mul_of_pos _ _ P0, Int.mul_ediv_cancel_left _ (by omega)]
  rw [A1, A2, ← N]
  generalize hi * 2 ^ s + lo / 2 ^ (64 - s) = U at *
  generalize lo * 2 ^ s % 18446744073709551616 = L at *
  generalize hY : y * 2 ^ s = Y at *
  generalize h2s : (2 : Int) ^ s = P at *
  clear N A1 A2 or1 k7 k8 x0 x1 ab a0 pq k6 e
  have hY1 : 2147483648 ≤ Y / 4294967296 ∧ Y / 4294967296 < 4294967296 := by omega
  have g1 : Dig Y (Y / 4294967296) (Y % 4294967296) U (L / 4294967296) := ⟨by omega, hY1, by omega, U1, by omega⟩
  have yz : (!decide (Y / 4294967296 = 0)) = true := by rw [decide_eq_false (by omega)]; rfl
  have Q1 := g1.lt
  have R1 := Int.mul_ediv_add_emod (U * 4294967296 + L / 4294967296) Y
  have R1a := Int.emod_nonneg (U * 4294967296 + L / 4294967296) (show Y ≠ 0 by omega)
  have R1b := Int.emod_lt_of_pos (U * 4294967296 + L / 4294967296) (show 0 < Y by omega)
  have q0 : IntKind.wrap .u64 (Int.tdiv U (Y / 4294967296)) = U / (Y / 4294967296) := by
    rw [Int.tdiv_eq_ediv_of_nonneg U1.1, wrap_u64]
    have := Int.ediv_nonneg U1.1 (show 0 ≤ Y / 4294967296 by omega)
    have := Int.ediv_le_self (Y / 4294967296) U1.1
    omega
  have r0 : IntKind.wrap .u64 (U - IntKind.wrap .u64 (U / (Y / 4294967296) * (Y / 4294967296))) = U % (Y / 4294967296) := by
    have qm := Int.ediv_mul_add_emod U (Y / 4294967296)
    have m0 := Int.emod_nonneg U (show Y / 4294967296 ≠ 0 by omega)
    have m1 := Int.emod_lt_of_pos U (show 0 < Y / 4294967296 by omega)
    rw [wrap_u64, wrap_u64]
    generalize U / (Y / 4294967296) * (Y / 4294967296) = A at *
    omega
  simp only [yz, cond_true, q0, r0]
  -- the second digit
  generalize hQ1 : (U * 4294967296 + L / 4294967296) / Y = q1 at *
  generalize hR1 : (U * 4294967296 + L / 4294967296) % Y = R at *
  have g2 : Dig Y (Y / 4294967296) (Y % 4294967296) R (L % 4294967296) := ⟨by omega, hY1, by omega, ⟨R1a, R1b⟩, by omega⟩
  have Q2 := g2.lt
  have R2 := Int.mul_ediv_add_emod (R * 4294967296 + L % 4294967296) Y
  have R2a := Int.emod_nonneg (R * 4294967296 + L % 4294967296) (show Y ≠ 0 by omega)
  have R2b := Int.emod_lt_of_pos (R * 4294967296 + L % 4294967296) (show 0 < Y by omega)
  generalize hQ2 : (R * 4294967296 + L % 4294967296) / Y = q2 at *
  generalize hR2 : (R * 4294967296 + L % 4294967296) % Y = R' at *
  have un : IntKind.wrap .u64 (IntKind.wrap .u64 (IntKind.wrap .u64 (U * 4294967296) + L / 4294967296) - IntKind.wrap .u64 (q1 * Y)) = R := by
    rw [Int.mul_comm q1 Y]
    simp only [wrap_u64]
    generalize Y * q1 = A at *
    omega
  have q3 : IntKind.wrap .u64 (Int.tdiv R (Y / 4294967296)) = R / (Y / 4294967296) := by
    rw [Int.tdiv_eq_ediv_of_nonneg R1a, wrap_u64]
    have := Int.ediv_nonneg R1a (show 0 ≤ Y / 4294967296 by omega)
    have := Int.ediv_le_self (Y / 4294967296) R1a
    omega
  have r3 : IntKind.wrap .u64 (R - IntKind.wrap .u64 (R / (Y / 4294967296) * (Y / 4294967296))) = R % (Y / 4294967296) := by
    have qm := Int.ediv_mul_add_emod R (Y / 4294967296)
    have m0 := Int.emod_nonneg R (show Y / 4294967296 ≠ 0 by omega)
    have m1 := Int.emod_lt_of_pos R (show 0 < Y / 4294967296 by omega)
    rw [wrap_u64, wrap_u64]
    generalize R / (Y / 4294967296) * (Y / 4294967296) = A at *
    omega
  have un2 : IntKind.wrap .u64 (IntKind.wrap .u64 (IntKind.wrap .u64 (R * 4294967296) + L % 4294967296) - IntKind.wrap .u64 (q2 * Y)) = R' := by
    rw [Int.mul_comm q2 Y]
    simp only [wrap_u64]
    generalize Y * q2 = A at *
    omega
  have quo : IntKind.wrap .u64 (IntKind.wrap .u64 (q1 * 4294967296) + q2) = q1 * 4294967296 + q2 := by
    simp only [wrap_u64]; omega
  have ans : (U * 18446744073709551616 + L) / Y = q1 * 4294967296 + q2 ∧ (U * 18446744073709551616 + L) % Y = R' := by
    have e : U * 18446744073709551616 + L = R' + Y * (q1 * 4294967296 + q2) := by
      have e2 : Y * (q1 * 4294967296 + q2) = Y * q1 * 4294967296 + Y * q2 := by grind
      rw [e2]; omega
    rw [e]
    constructor
    · rw [Int.add_mul_ediv_left _ _ (by omega), Int.ediv_eq_zero_of_lt R2a R2b, Int.zero_add]
    · rw [Int.add_mul_emod_self_left, Int.emod_eq_of_lt R2a R2b]
  rw [ans.1, ans.2]
  refine div_l0 Y s _ _ U _ _ g1 _ _ ?_ ?_ ?_
  all_goals
    intros
    simp only [Sum.elim_inl, Sum.elim_inr, hQ1, yz, cond_true, un, q3, r3]
    refine div_l1 Y s _ _ R _ _ g2 _ _ ?_ ?_ ?_
    all_goals
      intros
      simp only [Sum.elim_inl, Sum.elim_inr, hQ2, k3, cond_true, un2, quo, k4, h2s]
      rw [fdiv_pos _ _ (Int.le_of_lt P0)]
end Go.Proofs.Ytdpenjncfmkbgaa
