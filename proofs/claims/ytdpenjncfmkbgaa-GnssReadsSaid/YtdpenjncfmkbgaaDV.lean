/-
  The second reckoner's long division: a size of 128 bits by one of 63, to the nearest, halves up.
-/
import Derived.Test.YtdpenjncfmkbgaaGNR
import Derived.Test.YtdpenjncfmkbgaaAbInv
set_option maxRecDepth 100000
set_option maxHeartbeats 4000000
set_option linter.unusedVariables false
set_option linter.unusedSimpArgs false
namespace Go.Proofs.Ytdpenjncfmkbgaa
open Go.Ab
theorem dv_ofInt (x : Nat) (h1 : x < 18446744073709551616) : (BitVec.ofInt 64 (x : Int)).toNat = x := by
  rw [BitVec.toNat_ofInt]
  simp only [Nat.reducePow, Int.cast_ofNat_Int]
  omega
theorem dv_or (x y k : Nat) (hx : x < 2 ^ k) (hx2 : x < 18446744073709551616) (hy : y < 18446744073709551616) (hm : y % 2 ^ k = 0) : BitVec.toNat (BitVec.ofInt 64 (y : Int) ||| BitVec.ofInt 64 (x : Int)) = y + x := by
  rw [BitVec.toNat_or, dv_ofInt x hx2, dv_ofInt y hy]
  have hq : y = 2 ^ k * (y / 2 ^ k) := (Nat.mul_div_cancel' (Nat.dvd_of_mod_eq_zero hm)).symm
  rw [hq, ← Nat.two_pow_add_eq_or_of_lt hx]
theorem dv_and1 (x : Nat) (h : x < 18446744073709551616) : BitVec.toNat (BitVec.ofInt 64 (x : Int) &&& BitVec.ofInt 64 1) = x % 2 := by
  rw [BitVec.toNat_and, dv_ofInt x h, show (BitVec.ofInt 64 1).toNat = 2 ^ 1 - 1 by decide, Nat.and_two_pow_sub_one_eq_mod]
theorem dv_and63 (x : Nat) (h : x < 18446744073709551616) : BitVec.toNat (BitVec.ofInt 64 (x : Int) &&& BitVec.ofInt 64 63) = x % 64 := by
  rw [BitVec.toNat_and, dv_ofInt x h, show (BitVec.ofInt 64 63).toNat = 2 ^ 6 - 1 by decide, Nat.and_two_pow_sub_one_eq_mod]
theorem dv_wu (x : Nat) (h : x < 18446744073709551616) : IntKind.wrap .u64 (Int.ofNat x) = (x : Int) := by
  rw [wrap_u64]; simp only [Int.ofNat_eq_natCast]; omega
/-- one more bit -/
theorem dv_bit (A D t : Nat) (hD : 0 < D) :
    A / 2 ^ t = 2 * (A / 2 ^ (t + 1)) + A / 2 ^ t % 2 ∧
    A / 2 ^ t % D = (if D ≤ 2 * (A / 2 ^ (t + 1) % D) + A / 2 ^ t % 2 then 2 * (A / 2 ^ (t + 1) % D) + A / 2 ^ t % 2 - D else 2 * (A / 2 ^ (t + 1) % D) + A / 2 ^ t % 2) ∧
    A / 2 ^ t / D * 2 ^ t = A / 2 ^ (t + 1) / D * 2 ^ (t + 1) + (if D ≤ 2 * (A / 2 ^ (t + 1) % D) + A / 2 ^ t % 2 then 2 ^ t else 0) := by
  have e1 : A / 2 ^ (t + 1) = A / 2 ^ t / 2 := by rw [Nat.pow_succ, Nat.div_div_eq_div_mul]
  have e2 : A / 2 ^ t = 2 * (A / 2 ^ (t + 1)) + A / 2 ^ t % 2 := by rw [e1]; omega
  generalize A / 2 ^ (t + 1) = B at *
  generalize A / 2 ^ t = C at *
  have hb : C % 2 < 2 := Nat.mod_lt _ (by omega)
  generalize C % 2 = b at *
  have hB := Nat.div_add_mod B D
  have hr := Nat.mod_lt B hD
  generalize B % D = r at *
  generalize B / D = q at *
  have hC : C = (2 * r + b) + D * (2 * q) := by
    rw [e2, ← hB]
    rw [Nat.mul_add, Nat.mul_left_comm]; omega
  refine ⟨e2, ?_, ?_⟩
  · rw [hC, Nat.add_mul_mod_self_left]
    split
    · rename_i h
      rw [Nat.mod_eq_sub_mod h, Nat.mod_eq_of_lt (by omega)]
    · exact Nat.mod_eq_of_lt (by omega)
  · rw [hC, Nat.add_mul_div_left _ _ hD]
    split
    · rename_i h
      have : (2 * r + b) / D = 1 := by
        rw [Nat.div_eq_of_lt_le (k := 1)] <;> omega
      rw [this, Nat.pow_succ, Nat.add_mul, Nat.one_mul]
      have : 2 * q * 2 ^ t = q * (2 ^ t * 2) := by rw [Nat.mul_comm 2 q, Nat.mul_assoc, Nat.mul_comm (2 ^ t) 2]
      omega
    · rename_i h
      rw [Nat.div_eq_of_lt (by omega), Nat.zero_add, Nat.add_zero, Nat.pow_succ, Nat.mul_comm 2 q, Nat.mul_assoc, Nat.mul_comm (2 ^ t) 2]
theorem dv_high (H L t : Nat) (hL : L < 2 ^ 64) (ht : 64 ≤ t) : (H * 2 ^ 64 + L) / 2 ^ t = H / 2 ^ (t - 64) := by
  have e : 2 ^ t = 2 ^ 64 * 2 ^ (t - 64) := by rw [← Nat.pow_add]; congr 1; omega
  rw [e, ← Nat.div_div_eq_div_mul, Nat.mul_comm H, Nat.mul_add_div (by decide), Nat.div_eq_of_lt hL, Nat.add_zero]
theorem dv_low (H L t : Nat) (ht : t < 64) : (H * 2 ^ 64 + L) / 2 ^ t % 2 = L / 2 ^ t % 2 := by
  have e : 2 ^ 64 = 2 ^ t * (2 * 2 ^ (63 - t)) := by rw [← Nat.pow_succ', ← Nat.pow_add]; congr 1; omega
  have e2 : H * 2 ^ 64 + L = 2 ^ t * (2 * (H * 2 ^ (63 - t))) + L := by
    rw [e]
    have : H * (2 ^ t * (2 * 2 ^ (63 - t))) = 2 ^ t * (2 * (H * 2 ^ (63 - t))) := by
      rw [Nat.mul_left_comm, Nat.mul_left_comm H 2]
    rw [this]
  rw [e2, Nat.mul_add_div (Nat.two_pow_pos t), Nat.mul_add_mod]
theorem dv_wuN (x : Nat) (h : x < 18446744073709551616) : IntKind.wrap .u64 (x : Int) = (x : Int) := dv_wu x h
theorem dv_sh (t : Nat) (ht : t < 128) : IntKind.wrap .u64 (IntKind.wrap .i64 ((BitVec.toNat (BitVec.ofInt 64 (t : Int) &&& BitVec.ofInt 64 63) : Nat) : Int)) = ((t % 64 : Nat) : Int) := by
  rw [dv_and63 t (by omega), wrap_i64 (by omega) (by omega), dv_wuN _ (by omega)]
theorem dv_pow (s : Nat) (hs : s < 64) : ((2 : Int) ^ min (Int.toNat ((s : Nat) : Int)) 64) = ((2 ^ s : Nat) : Int) := by
  rw [Int.toNat_natCast, Nat.min_eq_left (by omega)]
  simp
theorem dv_b (W s : Nat) (hW : W < 18446744073709551616) (hs : s < 64) : IntKind.wrap .u64 ((BitVec.toNat (BitVec.ofInt 64 (Int.fdiv (W : Int) (2 ^ min (Int.toNat ((s : Nat) : Int)) 64)) &&& BitVec.ofInt 64 1) : Nat) : Int) = ((W / 2 ^ s % 2 : Nat) : Int) := by
  rw [dv_pow s hs, Int.fdiv_eq_ediv_of_nonneg _ (Int.natCast_nonneg _), ← Int.natCast_ediv, dv_and1 _ (Nat.lt_of_le_of_lt (Nat.div_le_self _ _) hW), dv_wuN _ (by omega)]
theorem dv_r (r b : Nat) (hr : r < 9223372036854775808) (hb : b < 2) : IntKind.wrap .u64 ((BitVec.toNat (BitVec.ofInt 64 (IntKind.wrap .u64 ((r : Int) * 2)) ||| BitVec.ofInt 64 (b : Int)) : Nat) : Int) = ((2 * r + b : Nat) : Int) := by
  have e : IntKind.wrap .u64 ((r : Int) * 2) = ((2 * r : Nat) : Int) := by rw [wrap_u64]; omega
  rw [e, dv_or b (2 * r) 1 (by omega) (by omega) (by omega) (by omega), dv_wuN _ (by omega)]
theorem dv_set (Q s : Nat) (hs : s < 64) (hQ : Q + 2 ^ s < 18446744073709551616) (hm : Q % 2 ^ (s + 1) = 0) : IntKind.wrap .u64 ((BitVec.toNat (BitVec.ofInt 64 (Q : Int) ||| BitVec.ofInt 64 (IntKind.wrap .u64 (1 * 2 ^ min (Int.toNat ((s : Nat) : Int)) 64))) : Nat) : Int) = ((Q + 2 ^ s : Nat) : Int) := by
  have hp := Nat.two_pow_pos s
  have hp2 : 2 ^ s < 2 ^ (s + 1) := by rw [Nat.pow_succ]; omega
  rw [dv_pow s hs, Int.one_mul, dv_wuN (2 ^ s) (by omega), dv_or (2 ^ s) Q (s + 1) hp2 (by omega) (by omega) hm, dv_wuN _ hQ]
/-- the quotient's bits from t on -/
def dvQ (A D t : Nat) : Nat := A / 2 ^ t / D * 2 ^ t
theorem dvQ_le (A D t : Nat) : dvQ A D t ≤ A := Nat.le_trans (Nat.mul_le_mul_right _ (Nat.div_le_self _ _)) (Nat.div_mul_le_self _ _)
theorem dvQ_hi (A D t : Nat) (ht : 64 ≤ t) : dvQ A D t / 2 ^ 64 = A / 2 ^ t / D * 2 ^ (t - 64) ∧ dvQ A D t % 2 ^ 64 = 0 := by
  have e : 2 ^ t = 2 ^ (t - 64) * 2 ^ 64 := by rw [← Nat.pow_add]; congr 1; omega
  have : dvQ A D t = A / 2 ^ t / D * 2 ^ (t - 64) * 2 ^ 64 := by unfold dvQ; rw [Nat.mul_assoc, ← e]
  rw [this]
  exact ⟨Nat.mul_div_cancel _ (by decide), Nat.mul_mod_left _ _⟩
theorem dvQ_lo (A D t : Nat) (ht : t ≤ 64) : dvQ A D t % 2 ^ 64 % 2 ^ t = 0 := by
  have e : 2 ^ 64 = 2 ^ t * 2 ^ (64 - t) := by rw [← Nat.pow_add]; congr 1; omega
  rw [e, Nat.mod_mul_right_mod]
  unfold dvQ
  exact Nat.mul_mod_left _ _
theorem dv_room (M t : Nat) (ht : t < 64) (hM : M < 2 ^ 64) (hm : M % 2 ^ (t + 1) = 0) : M + 2 ^ t < 2 ^ 64 := by
  have h2 : 2 ^ 64 = 2 ^ (t + 1) * 2 ^ (64 - (t + 1)) := by rw [← Nat.pow_add]; congr 1; omega
  have h3 := Nat.div_add_mod M (2 ^ (t + 1))
  rw [hm, Nat.add_zero] at h3
  generalize M / 2 ^ (t + 1) = z at h3
  subst h3
  have h1 := hM
  rw [h2] at h1
  have h4 := Nat.lt_of_mul_lt_mul_left h1
  have h5 := Nat.mul_le_mul_left (2 ^ (t + 1)) (show z + 1 ≤ 2 ^ (64 - (t + 1)) from h4)
  rw [← h2, Nat.mul_add] at h5
  have h6 : 2 ^ (t + 1) = 2 * 2 ^ t := by rw [Nat.pow_succ]; omega
  have := Nat.two_pow_pos t
  omega
theorem ref_divided_loop (H L D : Nat) (neg : Bool) (hH : H < 2 ^ 64) (hL : L < 2 ^ 64) (hD : 0 < D) (hD2 : D < 2 ^ 63) (k : _ → Option (Int × Int × Bool)) :
    L_astrolaberef2_divided_0 ((D : Int), 0, 127, (H : Int), (L : Int), neg, 0, 0, neg) k = k ((D : Int), (((H * 2 ^ 64 + L) % D : Nat) : Int), -1, false, (H : Int), (L : Int), neg, (((H * 2 ^ 64 + L) / D / 2 ^ 64 : Nat) : Int), (((H * 2 ^ 64 + L) / D % 2 ^ 64 : Nat) : Int), neg) := by
  have hA : H * 2 ^ 64 + L < 2 ^ 128 := by omega
  obtain ⟨A, hAe⟩ : ∃ A, A = H * 2 ^ 64 + L := ⟨_, rfl⟩
  rw [← hAe] at hA ⊢
  unfold L_astrolaberef2_divided_0
  refine loopK_inv (fun t d => t ≤ 128 ∧ d = ((D : Int), ((A / 2 ^ t % D : Nat) : Int), (t : Int) - 1, (H : Int), (L : Int), neg, ((dvQ A D t / 2 ^ 64 : Nat) : Int), ((dvQ A D t % 2 ^ 64 : Nat) : Int), neg)) ?_ 200 128 _ (by omega) ⟨Nat.le_refl _, ?_⟩
  · rintro t _ c ⟨ht, rfl⟩ hc
    unfold S_astrolaberef2_divided_0
    cases t with
    | zero =>
      have e : decide (((0 : Nat) : Int) - 1 ≥ 0) = false := by decide
      have e0 : dvQ A D 0 = A / D := by unfold dvQ; rw [Nat.pow_zero, Nat.div_one, Nat.mul_one]
      rw [e, cond_false, e0, Nat.pow_zero, Nat.div_one]
      rfl
    | succ t =>
      have ei : ((t + 1 : Nat) : Int) - 1 = (t : Int) := by omega
      have e1 : decide ((t : Int) ≥ 0) = true := decide_eq_true (by omega)
      have e2 : decide (((t % 64 : Nat) : Int) < 0) = false := decide_eq_false (by omega)
      have e3 : IntKind.wrap .i64 ((t : Int) - 1) = (t : Int) - 1 := wrap_i64 (by omega) (by omega)
      obtain ⟨b1, b2, b3⟩ := dv_bit A D t hD
      have hr := Nat.mod_lt (A / 2 ^ (t + 1)) hD
      have hb : A / 2 ^ t % 2 < 2 := Nat.mod_lt _ (by omega)
      have hle := dvQ_le A D t
      change dvQ A D t = dvQ A D (t + 1) + _ at b3
      rw [ei]
      by_cases h64 : 64 ≤ t
      · have e4 : decide ((t : Int) ≥ 64) = true := decide_eq_true (by omega)
        have hs : t % 64 = t - 64 := by omega
        have hbit : H / 2 ^ (t % 64) % 2 = A / 2 ^ t % 2 := by rw [hs, hAe, dv_high H L t hL h64]
        have q1 := dvQ_hi A D (t + 1) (by omega)
        have q2 := dvQ_hi A D t h64
        simp only [Int.ofNat_eq_natCast, e1, e3, e4, dv_sh t (by omega), e2, dv_b H (t % 64) (by omega) (by omega), hbit, dv_r _ _ (show A / 2 ^ (t + 1) % D < 9223372036854775808 by omega) hb, cond_true, Bool.not_false]
        by_cases hge : D ≤ 2 * (A / 2 ^ (t + 1) % D) + A / 2 ^ t % 2
        · rw [if_pos hge] at b2 b3
          have e5 : decide (((2 * (A / 2 ^ (t + 1) % D) + A / 2 ^ t % 2 : Nat) : Int) ≥ (D : Int)) = true := decide_eq_true (by omega)
          have e6 : IntKind.wrap .u64 (((2 * (A / 2 ^ (t + 1) % D) + A / 2 ^ t % 2 : Nat) : Int) - (D : Int)) = ((A / 2 ^ t % D : Nat) : Int) := by
            rw [b2, wrap_u64]; omega
          have e7 : dvQ A D t / 2 ^ 64 = dvQ A D (t + 1) / 2 ^ 64 + 2 ^ (t % 64) := by
            have : 2 ^ t = 2 ^ 64 * 2 ^ (t - 64) := by rw [← Nat.pow_add]; congr 1; omega
            rw [b3, this, hs, Nat.add_mul_div_left _ _ (by decide)]
          have e8 := dv_set (dvQ A D (t + 1) / 2 ^ 64) (t % 64) (by omega) (by omega) (by
            rw [q1.1, hs, show t + 1 - 64 = t - 64 + 1 by omega]
            exact Nat.mul_mod_left _ _)
          rw [e5, cond_true, e6, e8, ← e7, q1.2]
          refine hc t _ (by omega) ⟨by omega, ?_⟩
          rw [q2.2]
        · rw [if_neg hge] at b2 b3
          have e5 : decide (((2 * (A / 2 ^ (t + 1) % D) + A / 2 ^ t % 2 : Nat) : Int) ≥ (D : Int)) = false := decide_eq_false (by omega)
          rw [e5, cond_false, ← b2]
          refine hc t _ (by omega) ⟨by omega, ?_⟩
          rw [b3, Nat.add_zero (dvQ A D (t + 1))]
      · have e4 : decide ((t : Int) ≥ 64) = false := decide_eq_false (by omega)
        have hs : t % 64 = t := Nat.mod_eq_of_lt (by omega)
        have hbit : L / 2 ^ (t % 64) % 2 = A / 2 ^ t % 2 := by rw [hs, hAe, dv_low H L t (by omega)]
        have q1 := dvQ_lo A D (t + 1) (by omega)
        simp only [Int.ofNat_eq_natCast, e1, e3, e4, dv_sh t (by omega), e2, dv_b L (t % 64) (by omega) (by omega), hbit, dv_r _ _ (show A / 2 ^ (t + 1) % D < 9223372036854775808 by omega) hb, cond_true, cond_false, Bool.not_false]
        by_cases hge : D ≤ 2 * (A / 2 ^ (t + 1) % D) + A / 2 ^ t % 2
        · rw [if_pos hge] at b2 b3
          have hlt : dvQ A D (t + 1) % 2 ^ 64 + 2 ^ t < 2 ^ 64 := dv_room _ t (by omega) (Nat.mod_lt _ (by decide)) q1
          have e5 : decide (((2 * (A / 2 ^ (t + 1) % D) + A / 2 ^ t % 2 : Nat) : Int) ≥ (D : Int)) = true := decide_eq_true (by omega)
          have e6 : IntKind.wrap .u64 (((2 * (A / 2 ^ (t + 1) % D) + A / 2 ^ t % 2 : Nat) : Int) - (D : Int)) = ((A / 2 ^ t % D : Nat) : Int) := by
            rw [b2, wrap_u64]; omega
          have e7 : dvQ A D t % 2 ^ 64 = dvQ A D (t + 1) % 2 ^ 64 + 2 ^ (t % 64) ∧ dvQ A D t / 2 ^ 64 = dvQ A D (t + 1) / 2 ^ 64 := by
            rw [b3, hs]; omega
          have e8 := dv_set (dvQ A D (t + 1) % 2 ^ 64) (t % 64) (by omega) (by rw [hs]; exact hlt) (by rw [hs]; exact q1)
          rw [e5, cond_true, e6, e8, ← e7.1, ← e7.2]
          exact hc t _ (by omega) ⟨by omega, rfl⟩
        · rw [if_neg hge] at b2 b3
          have e5 : decide (((2 * (A / 2 ^ (t + 1) % D) + A / 2 ^ t % 2 : Nat) : Int) ≥ (D : Int)) = false := decide_eq_false (by omega)
          rw [e5, cond_false, ← b2]
          refine hc t _ (by omega) ⟨by omega, ?_⟩
          rw [b3, Nat.add_zero (dvQ A D (t + 1))]
  · have : A / 2 ^ 128 = 0 := Nat.div_eq_of_lt hA
    unfold dvQ
    rw [this]
    simp
end Go.Proofs.Ytdpenjncfmkbgaa
