/-
  The quotient of 128 bits by 64, digit by digit, in plain arithmetic. Quotients of 128 bits, rounded, and clamped, in plain arithmetic. A root, clamped, in plain arithmetic.
-/
import Derived.Test.YtcalippagaaikaaZE
import Derived.Test.YtcalippagaaikaaZB
set_option maxRecDepth 100000
set_option maxHeartbeats 4000000
set_option linter.unusedVariables false
set_option linter.unusedSimpArgs false
namespace Go.Proofs.Ytcalippagaaikaa
open Go.Ab
theorem len_tab (x : Int) (h0 : 1 ≤ x) (h1 : x < 256) : ∃ n : Nat, 1 ≤ n ∧ n ≤ 8 ∧ (2 : Int) ^ (n - 1) ≤ x ∧ x < 2 ^ n ∧ ∀ {ρ : Type} (m : Int) (k : Int → Option ρ), 0 ≤ m → m ≤ 1000 → L_O_2 (x, m) k = k (m + n) := by
  obtain ⟨a, rfl⟩ : ∃ a : Nat, x = (a : Int) := ⟨x.toNat, by omega⟩
  have key : ∀ a : Fin 256, 1 ≤ a.val → ∀ {ρ : Type} (m : Int) (k : Int → Option ρ), S_O_2 (a.val : Int) m (fun _ => none) k = k (IntKind.wrap .i64 (m + (Nat.log2 a.val + 1 : Nat))) := by
    have t : ∀ a : Fin 256, 1 ≤ a.val → (inR (IntKind.wrap .u8 (a.val : Int)) 256 = true ∧ IntKind.wrap .i64 (byteAt (ByteArray.mk
                (List.toArray
                  (List.append
                    (List.append
                      [0, 1, 2, 2, 3, 3, 3, 3, 4, 4, 4, 4, 4, 4, 4, 4, 5, 5, 5, 5, 5, 5, 5, 5, 5, 5, 5, 5, 5, 5, 5, 5, 6, 6, 6, 6, 6, 6, 6, 6, 6, 6, 6, 6, 6, 6, 6, 6, 6, 6, 6, 6, 6, 6, 6, 6, 6, 6, 6, 6,
                        6, 6, 6, 6]
                      [7, 7, 7, 7, 7, 7, 7, 7, 7, 7, 7, 7, 7, 7, 7, 7, 7, 7, 7, 7, 7, 7, 7, 7, 7, 7, 7, 7, 7, 7, 7, 7, 7, 7, 7, 7, 7, 7, 7, 7, 7, 7, 7, 7, 7, 7, 7, 7, 7, 7, 7, 7, 7, 7, 7, 7, 7, 7, 7, 7,
                        7, 7, 7, 7])
                    (List.append
                      [8, 8, 8, 8, 8, 8, 8, 8, 8, 8, 8, 8, 8, 8, 8, 8, 8, 8, 8, 8, 8, 8, 8, 8, 8, 8, 8, 8, 8, 8, 8, 8, 8, 8, 8, 8, 8, 8, 8, 8, 8, 8, 8, 8, 8, 8, 8, 8, 8, 8, 8, 8, 8, 8, 8, 8, 8, 8, 8, 8,
                        8, 8, 8, 8]
                      [8, 8, 8, 8, 8, 8, 8, 8, 8, 8, 8, 8, 8, 8, 8, 8, 8, 8, 8, 8, 8, 8, 8, 8, 8, 8, 8, 8, 8, 8, 8, 8, 8, 8, 8, 8, 8, 8, 8, 8, 8, 8, 8, 8, 8, 8, 8, 8, 8, 8, 8, 8, 8, 8, 8, 8, 8, 8, 8, 8,
                        8, 8, 8, 8]))))
              (Int.toNat (IntKind.wrap IntKind.u8 (a.val : Int)))) = ((Nat.log2 a.val + 1 : Nat) : Int)) := by decide +kernel
    intro a ha ρ m k
    obtain ⟨t1, t2⟩ := t a ha
    unfold S_O_2
    rw [t1, cond_true, t2]
  have ha : 1 ≤ a := by omega
  have a256 : a < 256 := by omega
  have l1 := Nat.log2_self_le (n := a) (by omega)
  have l2 : a < 2 ^ (a.log2 + 1) := Nat.lt_log2_self
  have lb : a.log2 < 8 := by
    rcases Nat.lt_or_ge a.log2 8 with c | c
    · exact c
    · have : 2 ^ 8 ≤ 2 ^ a.log2 := Nat.pow_le_pow_right (by decide) c
      omega
  refine ⟨a.log2 + 1, by omega, by omega, ?_, ?_, fun m k m0 m1 => ?_⟩
  · rw [Nat.add_sub_cancel]
    have : ((2 ^ a.log2 : Nat) : Int) = (2 : Int) ^ a.log2 := by simp
    omega
  · have : ((2 ^ (a.log2 + 1) : Nat) : Int) = (2 : Int) ^ (a.log2 + 1) := by simp
    omega
  · have : S_O_2 (a : Int) m (fun _ => none) k = k (IntKind.wrap .i64 (m + (Nat.log2 a + 1 : Nat))) := key ⟨a, a256⟩ ha m k
    unfold L_O_2
    rw [this, wrap_i64 (by omega) (by omega)]
theorem pow_add' (a b : Nat) : (2 : Int) ^ (a + b) = 2 ^ a * 2 ^ b := Int.pow_add _ _ _
theorem len_shift (x : Int) (b n : Nat) (hn : 1 ≤ n) (h0 : (2 : Int) ^ (n - 1) ≤ x / 2 ^ b) (h1 : x / 2 ^ b < 2 ^ n) : (2 : Int) ^ (n + b - 1) ≤ x ∧ x < 2 ^ (n + b) := by
  have B0 := pow_pos' b
  have e1 : (2 : Int) ^ (n + b - 1) = 2 ^ (n - 1) * 2 ^ b := by rw [← pow_add']; congr 1; omega
  have e2 : (2 : Int) ^ (n + b) = 2 ^ n * 2 ^ b := pow_add' _ _
  rw [e1, e2]
  exact ⟨Int.mul_le_of_le_ediv B0 h0, Int.lt_mul_of_ediv_lt B0 h1⟩
theorem len_8 (x : Int) (h0 : 1 ≤ x) (h1 : x < 65536) : ∃ n : Nat, 1 ≤ n ∧ n ≤ 16 ∧ (2 : Int) ^ (n - 1) ≤ x ∧ x < 2 ^ n ∧ ∀ {ρ : Type} (m : Int) (k : Int → Option ρ), 0 ≤ m → m ≤ 900 → L_O_1 (x, m) k = k (m + n) := by
  by_cases c : x ≥ 256
  · obtain ⟨n, n1, n2, b0, b1, e⟩ := len_tab (x / 256) (by omega) (by omega)
    obtain ⟨c0, c1⟩ := len_shift x 8 n n1 b0 b1
    refine ⟨n + 8, by omega, by omega, c0, c1, fun m k m0 m1 => ?_⟩
    unfold L_O_1 S_O_1
    rw [decide_eq_true c, cond_true, fdiv_pos _ _ (by omega), wrap_i64 (by omega) (by omega), e (m + 8) _ (by omega) (by omega)]
    congr 1; omega
  · obtain ⟨n, n1, n2, b0, b1, e⟩ := len_tab x h0 (by omega)
    refine ⟨n, n1, by omega, b0, b1, fun m k m0 m1 => ?_⟩
    unfold L_O_1 S_O_1
    rw [decide_eq_false c, cond_false, e m _ m0 (by omega)]
theorem len_16 (x : Int) (h0 : 1 ≤ x) (h1 : x < 4294967296) : ∃ n : Nat, 1 ≤ n ∧ n ≤ 32 ∧ (2 : Int) ^ (n - 1) ≤ x ∧ x < 2 ^ n ∧ ∀ {ρ : Type} (m : Int) (k : Int → Option ρ), 0 ≤ m → m ≤ 800 → L_O_0 (x, m) k = k (m + n) := by
  by_cases c : x ≥ 65536
  · obtain ⟨n, n1, n2, b0, b1, e⟩ := len_8 (x / 65536) (by omega) (by omega)
    obtain ⟨c0, c1⟩ := len_shift x 16 n n1 b0 b1
    refine ⟨n + 16, by omega, by omega, c0, c1, fun m k m0 m1 => ?_⟩
    unfold L_O_0 S_O_0
    rw [decide_eq_true c, cond_true, fdiv_pos _ _ (by omega), wrap_i64 (by omega) (by omega), e (m + 16) _ (by omega) (by omega)]
    congr 1; omega
  · obtain ⟨n, n1, n2, b0, b1, e⟩ := len_8 x h0 (by omega)
    refine ⟨n, n1, by omega, b0, b1, fun m k m0 m1 => ?_⟩
    unfold L_O_0 S_O_0
    rw [decide_eq_false c, cond_false, e m _ m0 (by omega)]
theorem len_64 (x : Int) (h0 : 1 ≤ x) (h1 : x < 18446744073709551616) : ∃ n : Nat, 1 ≤ n ∧ n ≤ 64 ∧ (2 : Int) ^ (n - 1) ≤ x ∧ x < 2 ^ n ∧ f_O x = some (n : Int) := by
  unfold f_O K_O
  by_cases c : x ≥ 4294967296
  · obtain ⟨n, n1, n2, b0, b1, e⟩ := len_16 (x / 4294967296) (by omega) (by omega)
    obtain ⟨c0, c1⟩ := len_shift x 32 n n1 b0 b1
    refine ⟨n + 32, by omega, by omega, c0, c1, ?_⟩
    rw [decide_eq_true c, cond_true, fdiv_pos _ _ (by omega), e 32 _ (by omega) (by omega)]
    congr 1; omega
  · obtain ⟨n, n1, n2, b0, b1, e⟩ := len_16 x h0 (by omega)
    refine ⟨n, n1, by omega, b0, b1, ?_⟩
    rw [decide_eq_false c, cond_false, e 0 _ (by omega) (by omega), Int.zero_add]
theorem lead_64 (x : Int) (h0 : 1 ≤ x) (h1 : x < 18446744073709551616) : ∃ s : Nat, s ≤ 63 ∧ 9223372036854775808 ≤ x * 2 ^ s ∧ x * 2 ^ s < 18446744073709551616 ∧ f_Al x = some (s : Int) := by
  obtain ⟨n, n1, n2, b0, b1, e⟩ := len_64 x h0 h1
  refine ⟨64 - n, by omega, ?_, ?_, ?_⟩
  · have p : (9223372036854775808 : Int) = 2 ^ (n - 1) * 2 ^ (64 - n) := by
      rw [← pow_add', show n - 1 + (64 - n) = 63 by omega]; rfl
    rw [p]
    exact Int.mul_le_mul_of_nonneg_right b0 (Int.le_of_lt (pow_pos' _))
  · have p : (18446744073709551616 : Int) = 2 ^ n * 2 ^ (64 - n) := by
      rw [← pow_add', show n + (64 - n) = 64 by omega]; rfl
    rw [p]
    exact Int.mul_lt_mul_of_pos_right b1 (pow_pos' _)
  · unfold f_Al K_Al
    rw [e, Option.bind_some, wrap_i64 (by omega) (by omega)]
    congr 1; omega
structure Dig (Y yn1 yn0 U u : Int) : Prop where
  y : Y = yn1 * 4294967296 + yn0
  a : 2147483648 ≤ yn1 ∧ yn1 < 4294967296
  b : 0 ≤ yn0 ∧ yn0 < 4294967296
  u0 : 0 ≤ U ∧ U < Y
  d : 0 ≤ u ∧ u < 4294967296
theorem Dig.lt {Y yn1 yn0 U u : Int} (h : Dig Y yn1 yn0 U u) : 0 ≤ (U * 4294967296 + u) / Y ∧ (U * 4294967296 + u) / Y < 4294967296 := by
  obtain ⟨y, a, b, u0, d⟩ := h
  constructor
  · exact Int.ediv_nonneg (by omega) (by omega)
  · refine Int.ediv_lt_of_lt_mul (by omega) ?_
    omega
theorem Dig.down {Y yn1 yn0 U u q rh : Int} (h : Dig Y yn1 yn0 U u) (e : q * yn1 + rh = U) (c : 4294967296 * rh + u < q * yn0) : (U * 4294967296 + u) / Y ≤ q - 1 := by
  obtain ⟨y, a, b, u0, d⟩ := h
  have : (U * 4294967296 + u) / Y < q := by
    refine Int.ediv_lt_of_lt_mul (by omega) ?_
    have e2 : q * Y = (q * yn1) * 4294967296 + q * yn0 := by rw [y]; grind
    omega
  omega
theorem Dig.stay {Y yn1 yn0 U u q rh : Int} (h : Dig Y yn1 yn0 U u) (e : q * yn1 + rh = U) (c : q * yn0 ≤ 4294967296 * rh + u) (l : (U * 4294967296 + u) / Y ≤ q) : q = (U * 4294967296 + u) / Y := by
  obtain ⟨y, a, b, u0, d⟩ := h
  have : q ≤ (U * 4294967296 + u) / Y := by
    refine (Int.le_ediv_iff_mul_le (by omega)).2 ?_
    have e2 : q * Y = (q * yn1) * 4294967296 + q * yn0 := by rw [y]; grind
    omega
  omega
theorem Dig.out {Y yn1 yn0 U u q rh : Int} (h : Dig Y yn1 yn0 U u) (e : q * yn1 + rh = U) (q0 : 0 ≤ q) (c : 4294967296 ≤ rh) (l : (U * 4294967296 + u) / Y ≤ q) : q = (U * 4294967296 + u) / Y := by
  have h' := h
  obtain ⟨y, a, b, u0, d⟩ := h
  refine h'.stay e ?_ l
  have q1 : q ≤ 4294967295 := by
    rcases Int.lt_or_le q 4294967296 with k | k
    · omega
    · exfalso
      have := Int.mul_le_mul_of_nonneg_right k (show 0 ≤ yn1 by omega)
      omega
  have := Int.mul_le_mul q1 (show yn0 ≤ 4294967295 by omega) b.1 (by omega)
  omega
theorem div_l0 {ρ : Type} (Y s yn1 yn0 U u u0 : Int) (h : Dig Y yn1 yn0 U u) (k : _ → Option ρ) (r : Option ρ)
    (h1 : ∀ rh a b c d, k (Sum.inl (Y, s, yn1, yn0, U, u, u0, (U * 4294967296 + u) / Y, rh, a, b, c, d)) = r)
    (h2 : ∀ rh a b c d e f g i, k (Sum.inr (Sum.inl (Y, s, yn1, yn0, U, u, u0, (U * 4294967296 + u) / Y, rh, a, b, c, d, e, f, g, i))) = r)
    (h3 : ∀ rh a b c d e, k (Sum.inr (Sum.inr (Y, s, yn1, yn0, U, u, u0, (U * 4294967296 + u) / Y, rh, a, b, c, d, e))) = r) :
    L_AC_0 (Y, s, yn1, yn0, U, u, u0, U / yn1, U % yn1) k = r := by
  have h' := h
  obtain ⟨y, a, b, hu, d⟩ := h
  have lt := h'.lt
  have qm := Int.mul_ediv_add_emod U yn1
  have m0 := Int.emod_nonneg U (show yn1 ≠ 0 by omega)
  have m1 := Int.emod_lt_of_pos U (show 0 < yn1 by omega)
  have qn := Int.ediv_nonneg hu.1 (show 0 ≤ yn1 by omega)
  have start : (U * 4294967296 + u) / Y ≤ U / yn1 := by
    have e2 : (U * 4294967296 + u) / Y < U / yn1 + 1 := by
      refine Int.ediv_lt_of_lt_mul (by omega) ?_
      have e3 : (U / yn1 + 1) * Y = (yn1 * (U / yn1)) * 4294967296 + yn1 * 4294967296 + (U / yn1 + 1) * yn0 := by rw [y]; grind
      have := Int.mul_nonneg (show 0 ≤ U / yn1 + 1 by omega) b.1
      omega
    omega
  unfold L_AC_0
  refine loopK_inv (fun t x => ∃ (q rh : Int), 0 ≤ q ∧ q * yn1 + rh = U ∧ (U * 4294967296 + u) / Y ≤ q ∧ (2 - (t : Int)) * 2147483648 ≤ rh ∧ 0 ≤ rh ∧ rh < 4294967296 ∧ x = (Y, s, yn1, yn0, U, u, u0, q, rh)) ?_ 200 2 _ (by omega)
    ⟨U / yn1, U % yn1, qn, by rw [Int.mul_comm]; exact qm, start, by omega, m0, by omega, rfl⟩
  rintro t _ c ⟨q, rh, q0, e, l, tb, r0, r1, rfl⟩ hc
  have down : (U * 4294967296 + u) / Y ≤ q - 1 → 0 ≤ q - 1 → (q - 1) * yn1 + (rh + yn1) = U := fun _ _ => by
    have : (q - 1) * yn1 = q * yn1 - yn1 := by grind
    omega
  have qb : q ≤ 4294967298 := by
    rcases Int.lt_or_le q 4294967298 with k | k
    · omega
    · exfalso
      have := Int.mul_le_mul_of_nonneg_right k (show 0 ≤ yn1 by omega)
      omega
  have w1 : IntKind.wrap .u64 (rh + yn1) = rh + yn1 := by rw [wrap_u64]; omega
  by_cases c1 : q ≥ 4294967296
  · have d1 : (U * 4294967296 + u) / Y ≤ q - 1 := by omega
    have w2 : IntKind.wrap .u64 (q - 1) = q - 1 := by rw [wrap_u64]; omega
    have e2 := down d1 (by omega)
    simp only [S_AC_0, decide_eq_true c1, cond_true, w1, w2]
    by_cases c2 : rh + yn1 ≥ 4294967296
    · rw [decide_eq_true c2, cond_true, h'.out e2 (by omega) c2 d1]
      exact h1 _ _ _ _ _
    · rw [decide_eq_false c2, cond_false]
      have t1 : 1 ≤ t := by omega
      exact hc (t - 1) _ (by omega) ⟨q - 1, rh + yn1, by omega, e2, d1, by omega, by omega, by omega, rfl⟩
  · have pm : 0 ≤ q * yn0 ∧ q * yn0 < 18446744073709551616 := by
      refine ⟨Int.mul_nonneg q0 b.1, ?_⟩
      have := Int.mul_le_mul (show q ≤ 4294967295 by omega) (show yn0 ≤ 4294967295 by omega) b.1 (by omega)
      omega
    have w3 : IntKind.wrap .u64 (q * yn0) = q * yn0 := by rw [wrap_u64]; omega
    have w4 : IntKind.wrap .u64 (4294967296 * rh) = 4294967296 * rh := by rw [wrap_u64]; omega
    have w5 : IntKind.wrap .u64 (4294967296 * rh + u) = 4294967296 * rh + u := by rw [wrap_u64]; omega
    simp only [S_AC_0, decide_eq_false c1, cond_false, w1, w3, w4, w5]
    by_cases c3 : q * yn0 > 4294967296 * rh + u
    · have d1 := h'.down e c3
      have qp : 1 ≤ q := by
        rcases Int.lt_or_le 0 q with k | k
        · omega
        · exfalso
          have : q = 0 := by omega
          subst this
          omega
      have w2 : IntKind.wrap .u64 (q - 1) = q - 1 := by rw [wrap_u64]; omega
      have e2 := down d1 (by omega)
      rw [decide_eq_true c3, cond_true, w2]
      by_cases c2 : rh + yn1 ≥ 4294967296
      · rw [decide_eq_true c2, cond_true, h'.out e2 (by omega) c2 d1]
        exact h2 _ _ _ _ _ _ _ _ _
      · rw [decide_eq_false c2, cond_false]
        exact hc (t - 1) _ (by omega) ⟨q - 1, rh + yn1, by omega, e2, d1, by omega, by omega, by omega, rfl⟩
    · rw [decide_eq_false c3, cond_false, h'.stay e (by omega) l]
      exact h3 _ _ _ _ _ _
theorem div_l1 {ρ : Type} (Y s yn1 yn0 U u q1 : Int) (h : Dig Y yn1 yn0 U u) (k : _ → Option ρ) (r : Option ρ)
    (h1 : ∀ rh a b c d, k (Sum.inl (Y, s, yn1, yn0, u, q1, rh, U, (U * 4294967296 + u) / Y, a, b, c, d)) = r)
    (h2 : ∀ rh a b c d e f g i, k (Sum.inr (Sum.inl (Y, s, yn1, yn0, u, q1, rh, U, (U * 4294967296 + u) / Y, a, b, c, d, e, f, g, i))) = r)
    (h3 : ∀ rh a b c d e, k (Sum.inr (Sum.inr (Y, s, yn1, yn0, u, q1, rh, U, (U * 4294967296 + u) / Y, a, b, c, d, e))) = r) :
    L_AC_1 (Y, s, yn1, yn0, u, q1, U % yn1, U, U / yn1) k = r := by
  have h' := h
  obtain ⟨y, a, b, hu, d⟩ := h
  have lt := h'.lt
  have qm := Int.mul_ediv_add_emod U yn1
  have m0 := Int.emod_nonneg U (show yn1 ≠ 0 by omega)
  have m1 := Int.emod_lt_of_pos U (show 0 < yn1 by omega)
  have qn := Int.ediv_nonneg hu.1 (show 0 ≤ yn1 by omega)
  have start : (U * 4294967296 + u) / Y ≤ U / yn1 := by
    have e2 : (U * 4294967296 + u) / Y < U / yn1 + 1 := by
      refine Int.ediv_lt_of_lt_mul (by omega) ?_
      have e3 : (U / yn1 + 1) * Y = (yn1 * (U / yn1)) * 4294967296 + yn1 * 4294967296 + (U / yn1 + 1) * yn0 := by rw [y]; grind
      have := Int.mul_nonneg (show 0 ≤ U / yn1 + 1 by omega) b.1
      omega
    omega
  unfold L_AC_1
  refine loopK_inv (fun t x => ∃ (q rh : Int), 0 ≤ q ∧ q * yn1 + rh = U ∧ (U * 4294967296 + u) / Y ≤ q ∧ (2 - (t : Int)) * 2147483648 ≤ rh ∧ 0 ≤ rh ∧ rh < 4294967296 ∧ x = (Y, s, yn1, yn0, u, q1, rh, U, q)) ?_ 200 2 _ (by omega)
    ⟨U / yn1, U % yn1, qn, by rw [Int.mul_comm]; exact qm, start, by omega, m0, by omega, rfl⟩
  rintro t _ c ⟨q, rh, q0, e, l, tb, r0, r1, rfl⟩ hc
  have down : (U * 4294967296 + u) / Y ≤ q - 1 → 0 ≤ q - 1 → (q - 1) * yn1 + (rh + yn1) = U := fun _ _ => by
    have : (q - 1) * yn1 = q * yn1 - yn1 := by grind
    omega
  have qb : q ≤ 4294967298 := by
    rcases Int.lt_or_le q 4294967298 with k | k
    · omega
    · exfalso
      have := Int.mul_le_mul_of_nonneg_right k (show 0 ≤ yn1 by omega)
      omega
  have w1 : IntKind.wrap .u64 (rh + yn1) = rh + yn1 := by rw [wrap_u64]; omega
  by_cases c1 : q ≥ 4294967296
  · have d1 : (U * 4294967296 + u) / Y ≤ q - 1 := by omega
    have w2 : IntKind.wrap .u64 (q - 1) = q - 1 := by rw [wrap_u64]; omega
    have e2 := down d1 (by omega)
    simp only [S_AC_1, decide_eq_true c1, cond_true, w1, w2]
    by_cases c2 : rh + yn1 ≥ 4294967296
    · rw [decide_eq_true c2, cond_true, h'.out e2 (by omega) c2 d1]
      exact h1 _ _ _ _ _
    · rw [decide_eq_false c2, cond_false]
      have t1 : 1 ≤ t := by omega
      exact hc (t - 1) _ (by omega) ⟨q - 1, rh + yn1, by omega, e2, d1, by omega, by omega, by omega, rfl⟩
  · have pm : 0 ≤ q * yn0 ∧ q * yn0 < 18446744073709551616 := by
      refine ⟨Int.mul_nonneg q0 b.1, ?_⟩
      have := Int.mul_le_mul (show q ≤ 4294967295 by omega) (show yn0 ≤ 4294967295 by omega) b.1 (by omega)
      omega
    have w3 : IntKind.wrap .u64 (q * yn0) = q * yn0 := by rw [wrap_u64]; omega
    have w4 : IntKind.wrap .u64 (4294967296 * rh) = 4294967296 * rh := by rw [wrap_u64]; omega
    have w5 : IntKind.wrap .u64 (4294967296 * rh + u) = 4294967296 * rh + u := by rw [wrap_u64]; omega
    simp only [S_AC_1, decide_eq_false c1, cond_false, w1, w3, w4, w5]
    by_cases c3 : q * yn0 > 4294967296 * rh + u
    · have d1 := h'.down e c3
      have qp : 1 ≤ q := by
        rcases Int.lt_or_le 0 q with k | k
        · omega
        · exfalso
          have : q = 0 := by omega
          subst this
          omega
      have w2 : IntKind.wrap .u64 (q - 1) = q - 1 := by rw [wrap_u64]; omega
      have e2 := down d1 (by omega)
      rw [decide_eq_true c3, cond_true, w2]
      by_cases c2 : rh + yn1 ≥ 4294967296
      · rw [decide_eq_true c2, cond_true, h'.out e2 (by omega) c2 d1]
        exact h2 _ _ _ _ _ _ _ _ _
      · rw [decide_eq_false c2, cond_false]
        exact hc (t - 1) _ (by omega) ⟨q - 1, rh + yn1, by omega, e2, d1, by omega, by omega, by omega, rfl⟩
    · rw [decide_eq_false c3, cond_false, h'.stay e (by omega) l]
      exact h3 _ _ _ _ _ _
theorem div64_eq (hi lo y : Int) (h0 : 0 ≤ hi) (h1 : hi < y) (h2 : y < 18446744073709551616) (l0 : 0 ≤ lo) (l1 : lo < 18446744073709551616) :
    f_AC hi lo y = some ((hi * 18446744073709551616 + lo) / y, (hi * 18446744073709551616 + lo) % y) := by
  unfold f_AC K_AC
  have y0 : (y == 0) = false := by rw [beq_eq_false_iff_ne]; omega
  rw [y0, cond_false, decide_eq_false (show ¬ y ≤ hi by omega), cond_false]
  by_cases hz : hi = 0
  · subst hz
    have z : ((0 : Int) == 0) = true := rfl
    have yn : (!decide (y = 0)) = true := by rw [decide_eq_false (by omega)]; rfl
    rw [z, cond_true, yn, cond_true, cond_true, Int.zero_mul, Int.zero_add, Int.tdiv_eq_ediv_of_nonneg l0, Int.tmod_eq_emod_of_nonneg l0]
    have d0 := Int.ediv_nonneg l0 (show 0 ≤ y by omega)
    have d1 := Int.ediv_le_self y l0
    have w : IntKind.wrap .u64 (lo / y) = lo / y := by rw [wrap_u64]; omega
    rw [w]
  have z : (hi == 0) = false := by rw [beq_eq_false_iff_ne]; exact hz
  rw [z, cond_false]
  obtain ⟨s, s63, b0, b1, e⟩ := lead_64 y (by omega) h2
  rw [e, Option.bind_some]
  have P0 := pow_pos' s
  have Q0 := pow_pos' (64 - s)
  have k1 : IntKind.wrap .u64 (s : Int) = (s : Int) := by rw [wrap_u64]; omega
  have k2 : IntKind.wrap .u64 (64 - (s : Int)) = ((64 - s : Nat) : Int) := by rw [wrap_u64]; omega
  have k3 : ∀ n : Nat, (!decide ((n : Int) < 0)) = true := fun n => by rw [decide_eq_false (by omega)]; rfl
  have k4 : min (Int.toNat (s : Int)) 64 = s := by rw [Int.toNat_natCast]; omega
  have k5 : min (Int.toNat ((64 - s : Nat) : Int)) 64 = 64 - s := by rw [Int.toNat_natCast]; omega
  have k6 : IntKind.wrap .u64 (y * 2 ^ s) = y * 2 ^ s := by rw [wrap_u64]; omega
  simp only [k1, k2, k3, k4, k5, k6, cond_true]
  have pq : (18446744073709551616 : Int) = 2 ^ s * 2 ^ (64 - s) := by
    rw [← pow_add', show s + (64 - s) = 64 by omega]; rfl
  have ab : hi * 2 ^ s + 2 ^ s ≤ y * 2 ^ s := by
    have := Int.mul_le_mul_of_nonneg_right (show hi + 1 ≤ y by omega) (Int.le_of_lt P0)
    rw [Int.add_mul] at this; omega
  have a0 : 0 ≤ hi * 2 ^ s := Int.mul_nonneg h0 (Int.le_of_lt P0)
  have x0 : 0 ≤ lo / 2 ^ (64 - s) := Int.ediv_nonneg l0 (Int.le_of_lt Q0)
  have x1 : lo / 2 ^ (64 - s) < 2 ^ s := Int.ediv_lt_of_lt_mul Q0 (by rw [← pq]; exact l1)
  have k7 : IntKind.wrap .u64 (hi * 2 ^ s) = hi * 2 ^ s := by rw [wrap_u64]; omega
  have or1 : Int.ofNat (BitVec.toNat (BitVec.ofInt 64 (hi * 2 ^ s) ||| BitVec.ofInt 64 (Int.fdiv lo (2 ^ (64 - s))))) = hi * 2 ^ s + lo / 2 ^ (64 - s) := by
    rw [fdiv_pos _ _ (Int.le_of_lt Q0), BitVec.or_comm, or_apart _ _ s x0 x1 a0 (by omega) (by omega) (Int.mul_emod_left _ _)]
    omega
  have k8 : IntKind.wrap .u64 (hi * 2 ^ s + lo / 2 ^ (64 - s)) = hi * 2 ^ s + lo / 2 ^ (64 - s) := by rw [wrap_u64]; omega
  simp only [k7, or1, k8]
  rw [wrap_u64 (lo * 2 ^ s)]
  have c0 : 0 ≤ lo * 2 ^ s % 18446744073709551616 ∧ lo * 2 ^ s % 18446744073709551616 < 18446744073709551616 := by omega
  have N : (hi * 2 ^ s + lo / 2 ^ (64 - s)) * 18446744073709551616 + lo * 2 ^ s % 18446744073709551616 = (hi * 18446744073709551616 + lo) * 2 ^ s := by
    have m1 : lo * 2 ^ s / 18446744073709551616 = lo / 2 ^ (64 - s) := by
      rw [pq, Int.mul_comm lo, Int.mul_ediv_mul_of_pos _ _ P0]
    have m2 : lo * 2 ^ s = lo * 2 ^ s / 18446744073709551616 * 18446744073709551616 + lo * 2 ^ s % 18446744073709551616 := by omega
    have m3 : (hi * 18446744073709551616 + lo) * 2 ^ s = hi * 2 ^ s * 18446744073709551616 + lo * 2 ^ s := by grind
    rw [m3, ← m1]; omega
  have U1 : 0 ≤ hi * 2 ^ s + lo / 2 ^ (64 - s) ∧ hi * 2 ^ s + lo / 2 ^ (64 - s) < y * 2 ^ s := by omega
  have am1 : ∀ x : Int, 0 ≤ x → x < 18446744073709551616 → IntKind.wrap .u64 (Int.ofNat (BitVec.toNat (BitVec.ofInt 64 x &&& BitVec.ofInt 64 4294967295))) = x % 4294967296 := fun x x0 x1 => by
    rw [and_mask x x0 x1, wrap_u64]; omega
  rw [am1 (y * 2 ^ s) (by omega) b1, am1 _ c0.1 c0.2]
  simp only [fdiv_pos _ 4294967296 (show (0 : Int) ≤ 4294967296 by decide)]
  -- the answer, of what was shifted
  have A1 : (hi * 18446744073709551616 + lo) / y = (hi * 18446744073709551616 + lo) * 2 ^ s / (y * 2 ^ s) := by
    rw [Int.mul_comm _ (2 ^ s), Int.mul_comm y, Int.mul_ediv_mul_of_pos _ _ P0]
  have A2 : (hi * 18446744073709551616 + lo) % y = (hi * 18446744073709551616 + lo) * 2 ^ s % (y * 2 ^ s) / 2 ^ s := by
    rw [Int.mul_comm _ (2 ^ s), Int.mul_comm y, Int.mul_emod_mul_of_pos _ _ P0, Int.mul_ediv_cancel_left _ (by omega)]
  rw [A1, A2, ← N]
  generalize hi * 2 ^ s + lo / 2 ^ (64 - s) = U at *
  generalize lo * 2 ^ s % 18446744073709551616 = L at *
  generalize hY : y * 2 ^ s = Y at *
  generalize h2s : (2 : Int) ^ s = P at *
  clear N A1 A2 or1 k7 k8 x0 x1 ab a0 pq k6 e
  have hY1 : 2147483648 ≤ Y / 4294967296 ∧ Y / 4294967296 < 4294967296 := by omega
  have g1 : Dig Y (Y / 4294967296) (Y % 4294967296) U (L / 4294967296) := ⟨by omega, hY1, by omega, U1, by omega⟩
  have yz : (!decide (Y / 4294967296 = 0)) = true := by rw [decide_eq_false (by omega)]; rfl
  have Q1 := g1.lt
  have R1 := Int.mul_ediv_add_emod (U * 4294967296 + L / 4294967296) Y
  have R1a := Int.emod_nonneg (U * 4294967296 + L / 4294967296) (show Y ≠ 0 by omega)
  have R1b := Int.emod_lt_of_pos (U * 4294967296 + L / 4294967296) (show 0 < Y by omega)
  have q0 : IntKind.wrap .u64 (Int.tdiv U (Y / 4294967296)) = U / (Y / 4294967296) := by
    rw [Int.tdiv_eq_ediv_of_nonneg U1.1, wrap_u64]
    have := Int.ediv_nonneg U1.1 (show 0 ≤ Y / 4294967296 by omega)
    have := Int.ediv_le_self (Y / 4294967296) U1.1
    omega
  have r0 : IntKind.wrap .u64 (U - IntKind.wrap .u64 (U / (Y / 4294967296) * (Y / 4294967296))) = U % (Y / 4294967296) := by
    have qm := Int.ediv_mul_add_emod U (Y / 4294967296)
    have m0 := Int.emod_nonneg U (show Y / 4294967296 ≠ 0 by omega)
    have m1 := Int.emod_lt_of_pos U (show 0 < Y / 4294967296 by omega)
    rw [wrap_u64, wrap_u64]
    generalize U / (Y / 4294967296) * (Y / 4294967296) = A at *
    omega
  simp only [yz, cond_true, q0, r0]
  -- the second digit
  generalize hQ1 : (U * 4294967296 + L / 4294967296) / Y = q1 at *
  generalize hR1 : (U * 4294967296 + L / 4294967296) % Y = R at *
  have g2 : Dig Y (Y / 4294967296) (Y % 4294967296) R (L % 4294967296) := ⟨by omega, hY1, by omega, ⟨R1a, R1b⟩, by omega⟩
  have Q2 := g2.lt
  have R2 := Int.mul_ediv_add_emod (R * 4294967296 + L % 4294967296) Y
  have R2a := Int.emod_nonneg (R * 4294967296 + L % 4294967296) (show Y ≠ 0 by omega)
  have R2b := Int.emod_lt_of_pos (R * 4294967296 + L % 4294967296) (show 0 < Y by omega)
  generalize hQ2 : (R * 4294967296 + L % 4294967296) / Y = q2 at *
  generalize hR2 : (R * 4294967296 + L % 4294967296) % Y = R' at *
  have un : IntKind.wrap .u64 (IntKind.wrap .u64 (IntKind.wrap .u64 (U * 4294967296) + L / 4294967296) - IntKind.wrap .u64 (q1 * Y)) = R := by
    rw [Int.mul_comm q1 Y]
    simp only [wrap_u64]
    generalize Y * q1 = A at *
    omega
  have q3 : IntKind.wrap .u64 (Int.tdiv R (Y / 4294967296)) = R / (Y / 4294967296) := by
    rw [Int.tdiv_eq_ediv_of_nonneg R1a, wrap_u64]
    have := Int.ediv_nonneg R1a (show 0 ≤ Y / 4294967296 by omega)
    have := Int.ediv_le_self (Y / 4294967296) R1a
    omega
  have r3 : IntKind.wrap .u64 (R - IntKind.wrap .u64 (R / (Y / 4294967296) * (Y / 4294967296))) = R % (Y / 4294967296) := by
    have qm := Int.ediv_mul_add_emod R (Y / 4294967296)
    have m0 := Int.emod_nonneg R (show Y / 4294967296 ≠ 0 by omega)
    have m1 := Int.emod_lt_of_pos R (show 0 < Y / 4294967296 by omega)
    rw [wrap_u64, wrap_u64]
    generalize R / (Y / 4294967296) * (Y / 4294967296) = A at *
    omega
  have un2 : IntKind.wrap .u64 (IntKind.wrap .u64 (IntKind.wrap .u64 (R * 4294967296) + L % 4294967296) - IntKind.wrap .u64 (q2 * Y)) = R' := by
    rw [Int.mul_comm q2 Y]
    simp only [wrap_u64]
    generalize Y * q2 = A at *
    omega
  have quo : IntKind.wrap .u64 (IntKind.wrap .u64 (q1 * 4294967296) + q2) = q1 * 4294967296 + q2 := by
    simp only [wrap_u64]; omega
  have ans : (U * 18446744073709551616 + L) / Y = q1 * 4294967296 + q2 ∧ (U * 18446744073709551616 + L) % Y = R' := by
    have e : U * 18446744073709551616 + L = R' + Y * (q1 * 4294967296 + q2) := by
      have e2 : Y * (q1 * 4294967296 + q2) = Y * q1 * 4294967296 + Y * q2 := by grind
      rw [e2]; omega
    rw [e]
    constructor
    · rw [Int.add_mul_ediv_left _ _ (by omega), Int.ediv_eq_zero_of_lt R2a R2b, Int.zero_add]
    · rw [Int.add_mul_emod_self_left, Int.emod_eq_of_lt R2a R2b]
  rw [ans.1, ans.2]
  refine div_l0 Y s _ _ U _ _ g1 _ _ ?_ ?_ ?_
  all_goals
    intros
    simp only [Sum.elim_inl, Sum.elim_inr, hQ1, yz, cond_true, un, q3, r3]
    refine div_l1 Y s _ _ R _ _ g2 _ _ ?_ ?_ ?_
    all_goals
      intros
      simp only [Sum.elim_inl, Sum.elim_inr, hQ2, k3, cond_true, un2, quo, k4, h2s]
      rw [fdiv_pos _ _ (Int.le_of_lt P0)]
end Go.Proofs.Ytcalippagaaikaa
set_option maxRecDepth 100000
set_option maxHeartbeats 4000000
set_option linter.unusedVariables false
set_option linter.unusedSimpArgs false
namespace Go.Proofs.Ytcalippagaaikaa
open Go.Ab
def mgq (x : Int) : Int := if x < 0 then -x else x
theorem mgq_nn (x : Int) : 0 ≤ mgq x := by unfold mgq; split <;> omega
def qdq (V D : Int) : Int := V / D + (if 2 * (V % D) < D then 0 else 1)
def rdq (a d : Int) : Int := if (decide (a < 0)) = (decide (d < 0)) then qdq (mgq a) (mgq d) else -qdq (mgq a) (mgq d)
theorem wide_quo (h l d : Int) (o : okW h l) (d0 : -9223372036854775808 ≤ d) (d1 : d ≤ 9223372036854775807) (nz : d ≠ 0) :
    f_BS h l d = if -9223372036854775808 ≤ rdq (vW h l) d ∧ rdq (vW h l) d ≤ 9223372036854775807 then some (rdq (vW h l) d, true) else some (0, false) := by
  unfold f_BS K_BS
  have z : (d == 0) = false := by rw [beq_eq_false_iff_ne]; exact nz
  obtain ⟨ah, al, e1, a0, a1, a2, a3, a4⟩ := wide_abs h l o
  have e2 := abs64_eq d d0 d1
  rw [z, cond_false, e1, Option.bind_some, e2, Option.bind_some]
  simp only
  have D0 : 0 < mgq d := by unfold mgq; split <;> omega
  have D1 : mgq d ≤ 9223372036854775808 := by unfold mgq; split <;> omega
  have ed : (if d < 0 then -d else d) = mgq d := rfl
  have va : ah * 18446744073709551616 + al = mgq (vW h l) := by
    rw [a4]
    obtain ⟨o1, o2, o3, o4⟩ := o
    unfold mgq
    simp only [vW]
    split <;> split <;> omega
  have sn : decide (h < 0) = decide (vW h l < 0) := by
    obtain ⟨o1, o2, o3, o4⟩ := o
    simp only [vW]
    by_cases c : h < 0
    · rw [decide_eq_true c, decide_eq_true (by omega)]
    · rw [decide_eq_false c, decide_eq_false (by omega)]
  rw [ed, sn]
  generalize vW h l = V at *
  have nz2 : (!decide (mgq d = 0)) = true := by rw [decide_eq_false (by omega)]; rfl
  have r0 := Int.emod_nonneg ah (show mgq d ≠ 0 by omega)
  have r1 := Int.emod_lt_of_pos ah D0
  have q0 := Int.ediv_nonneg a0 (Int.le_of_lt D0)
  have q1 := Int.ediv_le_self (mgq d) a0
  have qe := Int.mul_ediv_add_emod ah (mgq d)
  have dv := div64_eq (ah % mgq d) al (mgq d) r0 r1 (by omega) a2 a3
  rw [nz2, cond_true, cond_true, Int.tmod_eq_emod_of_nonneg a0, dv, Option.bind_some, Int.tdiv_eq_ediv_of_nonneg a0]
  simp only
  have w1 : IntKind.wrap .u64 (ah / mgq d) = ah / mgq d := by rw [wrap_u64]; omega
  -- the quotient of the whole
  have E : mgq V = (ah % mgq d * 18446744073709551616 + al) + mgq d * (ah / mgq d * 18446744073709551616) := by
    rw [← va]
    have : mgq d * (ah / mgq d * 18446744073709551616) = mgq d * (ah / mgq d) * 18446744073709551616 := by grind
    rw [this]; omega
  have Q : mgq V / mgq d = (ah % mgq d * 18446744073709551616 + al) / mgq d + ah / mgq d * 18446744073709551616 := by
    rw [E, Int.add_mul_ediv_left _ _ (by omega)]
  have R : mgq V % mgq d = (ah % mgq d * 18446744073709551616 + al) % mgq d := by rw [E, Int.add_mul_emod_self_left]
  have n0 : 0 ≤ (ah % mgq d * 18446744073709551616 + al) / mgq d := Int.ediv_nonneg (by omega) (Int.le_of_lt D0)
  have n1 : (ah % mgq d * 18446744073709551616 + al) / mgq d < 18446744073709551616 := by
    refine Int.ediv_lt_of_lt_mul D0 ?_
    omega
  have t0 := Int.emod_nonneg (ah % mgq d * 18446744073709551616 + al) (show mgq d ≠ 0 by omega)
  have t1 := Int.emod_lt_of_pos (ah % mgq d * 18446744073709551616 + al) D0
  rw [← R] at t0 t1 ⊢
  have w2 : IntKind.wrap .u64 (mgq d - mgq V % mgq d) = mgq d - mgq V % mgq d := by rw [wrap_u64]; omega
  rw [w1, w2]
  have sgn : (!decide (V < 0) == decide (d < 0)) = !decide ((decide (V < 0)) = (decide (d < 0))) := by
    cases decide (V < 0) <;> cases decide (d < 0) <;> rfl
  have qn : 0 ≤ qdq (mgq V) (mgq d) := by
    have := mgq_nn V
    have := Int.ediv_nonneg this (Int.le_of_lt D0)
    unfold qdq; split <;> omega
  have fin : ∀ u v : Int, 0 ≤ u → 0 ≤ v → v < 18446744073709551616 → u * 18446744073709551616 + v = qdq (mgq V) (mgq d) →
      (Option.bind (f_AR u v (!decide (V < 0) == decide (d < 0))) fun (d : Int × Bool) => some (d.1, d.2)) = if -9223372036854775808 ≤ rdq V d ∧ rdq V d ≤ 9223372036854775807 then some (rdq V d, true) else some (0, false) := by
    intro u v u0 v0 v1 e
    rw [wide_signed64 u v _ u0 v0 v1, e, sgn]
    unfold rdq
    generalize qdq (mgq V) (mgq d) = q at *
    by_cases s : (decide (V < 0)) = (decide (d < 0))
    · rw [if_pos s, decide_eq_true s]
      simp only [Bool.not_true, Bool.false_eq_true, if_false]
      by_cases c : q ≤ 9223372036854775807
      · rw [if_pos c, if_pos (by omega), Option.bind_some]
        have uz : u = 0 := by omega
        subst uz
        have : v = q := by omega
        rw [this]
      · rw [if_neg c, if_neg (by omega), Option.bind_some]
    · rw [if_neg s, decide_eq_false s]
      simp only [Bool.not_false, if_true]
      by_cases c : q ≤ 9223372036854775808
      · rw [if_pos c, if_pos (by omega), Option.bind_some]
        have uz : u = 0 := by omega
        subst uz
        have : v = q := by omega
        rw [this]
      · rw [if_neg c, if_neg (by omega), Option.bind_some]
  by_cases c : mgq V % mgq d ≥ mgq d - mgq V % mgq d
  · rw [decide_eq_true c, cond_true]
    obtain ⟨u, v, e3, u0, u1, v0, v1, e4⟩ := big_plus' (ah / mgq d) ((ah % mgq d * 18446744073709551616 + al) / mgq d) 0 1 q0 n0 (by omega) (by omega) n1 (by omega) (by omega)
    rw [e3, Option.bind_some]
    simp only
    refine fin u v u0 v0 v1 ?_
    rw [e4]; unfold qdq
    rw [if_neg (by omega), Q]; omega
  · rw [decide_eq_false c, cond_false]
    refine fin _ _ q0 n0 n1 ?_
    unfold qdq
    rw [if_pos (by omega), Q]; omega
theorem rdq_sign (a d : Int) (nz : d ≠ 0) : ((decide (a < 0)) = (decide (d < 0)) → 0 ≤ rdq a d) ∧ (¬ (decide (a < 0)) = (decide (d < 0)) → rdq a d ≤ 0) := by
  have D0 : 0 < mgq d := by unfold mgq; split <;> omega
  have q := Int.ediv_nonneg (mgq_nn a) (Int.le_of_lt D0)
  have qn : 0 ≤ qdq (mgq a) (mgq d) := by unfold qdq; split <;> omega
  unfold rdq
  constructor
  · intro h; rw [if_pos h]; exact qn
  · intro h; rw [if_neg h]; omega
theorem acc_by (h l d : Int) (hit : Bool) (o : okW h l) (d0 : -9223372036854775808 ≤ d) (d1 : d ≤ 9223372036854775807) (nz : d ≠ 0) :
    f_BB h l d hit = some (sat (rdq (vW h l) d), hit || over (rdq (vW h l) d)) := by
  unfold f_BB K_BB
  have z : (d == 0) = false := by rw [beq_eq_false_iff_ne]; exact nz
  have sn : decide (h < 0) = decide (vW h l < 0) := by
    obtain ⟨o1, o2, o3, o4⟩ := o
    simp only [vW]
    by_cases c : h < 0
    · rw [decide_eq_true c, decide_eq_true (by omega)]
    · rw [decide_eq_false c, decide_eq_false (by omega)]
  rw [z, cond_false, wide_quo h l d o d0 d1 nz, sn]
  have s := rdq_sign (vW h l) d nz
  generalize vW h l = V at *
  by_cases c : -9223372036854775808 ≤ rdq V d ∧ rdq V d ≤ 9223372036854775807
  · rw [if_pos c, Option.bind_some]
    simp only [acc_end, if_true, Option.bind_some]
  · rw [if_neg c, Option.bind_some]
    simp only [acc_end, Bool.false_eq_true, if_false, Option.bind_some]
    by_cases e : (decide (V < 0)) = (decide (d < 0))
    · have p := s.1 e
      have e2 : (!decide (V < 0) == decide (d < 0)) = false := by rw [e, beq_self_eq_true]; rfl
      rw [e2]
      unfold sat over
      rw [if_neg (by decide), if_neg (by omega), if_pos (by omega), decide_eq_true (show 1152921504606846976 < rdq V d by omega), Bool.or_true, Bool.or_true]
    · have p := s.2 e
      have e2 : (!decide (V < 0) == decide (d < 0)) = true := by
        have : (decide (V < 0) == decide (d < 0)) = false := by rw [beq_eq_false_iff_ne]; exact e
        rw [this]; rfl
      rw [e2]
      unfold sat over
      rw [if_pos rfl, if_pos (by omega), decide_eq_true (show rdq V d < -1152921504606846976 by omega), Bool.true_or, Bool.or_true]
theorem acc_muldiv (a b d : Int) (hit : Bool) (nz : sat d ≠ 0) :
    f_AK a b d hit = some (sat (rdq (sat a * sat b) (sat d)), ((((hit || over a) || over b) || over d) || over (rdq (sat a * sat b) (sat d)))) := by
  unfold f_AK K_AK
  have := sat_le a
  have := sat_le b
  have := sat_le d
  obtain ⟨h, l, e1, e2, e3⟩ := wide_mul (sat a) (sat b) (by omega) (by omega) (by omega) (by omega)
  simp only [acc_sat, Option.bind_some, e1, acc_by h l (sat d) _ e2 (by omega) (by omega) nz, e3]
theorem acc_div (a b : Int) (s : Nat) (hit : Bool) (hs : s ≤ 66) (nz : sat b ≠ 0) :
    f_BN a b (Int.ofNat s) hit = some (sat (rdq (sat a * 2 ^ s) (sat b)), (((hit || over a) || over b) || over (rdq (sat a * 2 ^ s) (sat b)))) := by
  unfold f_BN K_BN
  have ha := sat_le a
  have hb := sat_le b
  have P0 := pow_pos' s
  have PB : (2 : Int) ^ s ≤ 2 ^ 66 := pow_le_pow hs
  have PV : (2 : Int) ^ 66 = 73786976294838206464 := by decide
  have m1 : sat a * 2 ^ s ≤ 1152921504606846976 * 73786976294838206464 := by
    rcases Int.le_total 0 (sat a) with c | c
    · exact Int.mul_le_mul ha.2 (by omega) (Int.le_of_lt P0) (by omega)
    · have := mul_nn (a := -sat a) (b := 2 ^ s) (by omega) (Int.le_of_lt P0)
      rw [Int.neg_mul] at this; omega
  have m2 : -(1152921504606846976 * 73786976294838206464) ≤ sat a * 2 ^ s := by
    rcases Int.le_total 0 (sat a) with c | c
    · have := mul_nn c (Int.le_of_lt P0); omega
    · have := Int.mul_le_mul (show -sat a ≤ 1152921504606846976 by omega) (show (2 : Int) ^ s ≤ 73786976294838206464 by omega) (Int.le_of_lt P0) (by omega)
      rw [Int.neg_mul] at this; omega
  have mv : (1152921504606846976 : Int) * 73786976294838206464 = 85070591730234615865843651857942052864 := by decide
  obtain ⟨h, l, b', e1, o1, f1, v1, _⟩ := wide_shift (sat a) s (by omega) (by omega) (by omega)
  have bt : b' = true := f1.2 ⟨by omega, by omega⟩
  subst bt
  have n0 : decide (Int.ofNat s < 0) = false := by simp
  have n1 : decide (Int.ofNat s > 66) = false := by simp only [Int.ofNat_eq_natCast]; exact decide_eq_false (by omega)
  simp only [acc_sat, Option.bind_some, n0, n1, cond_false, e1, acc_by h l (sat b) _ o1 (by omega) (by omega) nz, v1 rfl]
theorem rdq_all (x d : Int) (h : 0 < d) : rdq (x * d) d = x := by
  have D : mgq d = d := by unfold mgq; rw [if_neg (by omega)]
  unfold rdq qdq
  rw [D]
  rcases Int.lt_or_le x 0 with c | c
  · have n : x * d < 0 := by
      have := Int.mul_pos (show 0 < -x by omega) h
      rw [Int.neg_mul] at this; omega
    have m : mgq (x * d) = -x * d := by unfold mgq; rw [if_pos n, Int.neg_mul]
    rw [decide_eq_true n, decide_eq_false (show ¬ d < 0 by omega), if_neg (by decide), m, Int.mul_ediv_cancel _ (by omega), Int.mul_emod_left, if_pos (by omega)]
    omega
  · have n : ¬ x * d < 0 := by have := Int.mul_nonneg c (Int.le_of_lt h); omega
    have m : mgq (x * d) = x * d := by unfold mgq; rw [if_neg n]
    rw [decide_eq_false n, decide_eq_false (show ¬ d < 0 by omega), if_pos rfl, m, Int.mul_ediv_cancel _ (by omega), Int.mul_emod_left, if_pos (by omega)]
    omega
theorem rdq_none (d : Int) (h : 0 < d) : rdq 0 d = 0 := by
  have := rdq_all 0 d h
  rw [Int.zero_mul] at this; exact this
end Go.Proofs.Ytcalippagaaikaa
set_option maxRecDepth 100000
set_option maxHeartbeats 4000000
set_option linter.unusedVariables false
set_option linter.unusedSimpArgs false
namespace Go.Proofs.Ytcalippagaaikaa
open Go.Ab
theorem isR_ex (V : Int) (h : 0 ≤ V) : ∃ r, isR r V := by
  obtain ⟨q, q0, q1, q2⟩ := sqrt_exI V h
  have q3 : (q + 1) * (q + 1) = q * q + 2 * q + 1 := by grind
  by_cases c : q < V - q * q
  · exact ⟨q + 1, by omega, by omega, Or.inr (by omega)⟩
  · refine ⟨q, q0, by omega, ?_⟩
    rcases Int.lt_or_le 0 q with k | k
    · exact Or.inr (by omega)
    · exact Or.inl (by omega)
theorem root_end_eq (h l r : Int) (hit : Bool) (o : okW h l) (h0 : 0 ≤ h) (hr : isR r (vW h l)) : f_BT h l hit = some (sat r, hit || over r) := by
  obtain ⟨r', e1, e2, e3⟩ := wide_root h l o h0
  have := isR_uniq hr e1
  subst this
  unfold f_BT K_BT
  rw [e3]
  by_cases c : r ≤ 9223372036854775807
  · rw [if_pos c, Option.bind_some]
    simp only [Bool.not_true, cond_false, acc_sat, Option.bind_some]
  · rw [if_neg c, Option.bind_some]
    simp only [Bool.not_false, cond_true, acc_sat, Option.bind_some]
    have a : sat r = sat 1152921504606846977 := by
      unfold sat
      rw [if_neg (by omega), if_pos (by omega), if_neg (by omega), if_pos (by omega)]
    have b : over r = over 1152921504606846977 := by
      unfold over
      rw [decide_eq_true (show 1152921504606846976 < r by omega), decide_eq_true (show (1152921504606846976 : Int) < 1152921504606846977 by omega), Bool.or_true, Bool.or_true]
    rw [a, b]
end Go.Proofs.Ytcalippagaaikaa
