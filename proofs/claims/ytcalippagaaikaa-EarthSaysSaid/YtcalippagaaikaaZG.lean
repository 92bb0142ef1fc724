/-
  The second reckoner's long division: a size of 128 bits by one of 63, to the nearest, halves up. The second reckoner (astrolaberef2) in plain arithmetic: clamped products, sums of products. The second reckoner's product by a divisor: what the first one's is. The second reckoner in plain arithmetic: products, sums, roots, quotients. Contracts by plain functions: astrolabelaw8.EarthRound, astrolabelaw8.EarthBounds, astrolabelaw8.EarthPlane Chapter 8: what always answers, and the declination at the two ends of the turn. Chapter 8: EarthRound. Chapter 8: bounds of the frame's two lengths. Chapter 8: the frame's two lengths lie within bounds; To does not saturate. Chapter 8: bounds of a series. Chapter 8: a declination by rows. Chapter 8: a declination by columns.
-/
import Derived.Test.YtcalippagaaikaaZD
import Derived.Test.YtcalippagaaikaaAbInv
import Derived.Test.YtcalippagaaikaaZF
import Derived.Test.YtcalippagaaikaaZE
import Derived.Test.YtcalippagaaikaaZC
import Derived.Test.YtcalippagaaikaaAbLaw
set_option maxRecDepth 100000
set_option maxHeartbeats 4000000
set_option linter.unusedVariables false
set_option linter.unusedSimpArgs false
namespace Go.Proofs.Ytcalippagaaikaa
open Go.Ab
theorem dv_ofInt (x : Nat) (h1 : x < 18446744073709551616) : (BitVec.ofInt 64 (x : Int)).toNat = x := by
  rw [BitVec.toNat_ofInt]
  simp only [Nat.reducePow, Int.cast_ofNat_Int]
  omega
theorem dv_or (x y k : Nat) (hx : x < 2 ^ k) (hx2 : x < 18446744073709551616) (hy : y < 18446744073709551616) (hm : y % 2 ^ k = 0) : BitVec.toNat (BitVec.ofInt 64 (y : Int) ||| BitVec.ofInt 64 (x : Int)) = y + x := by
  rw [BitVec.toNat_or, dv_ofInt x hx2, dv_ofInt y hy]
  have hq : y = 2 ^ k * (y / 2 ^ k) := (Nat.mul_div_cancel' (Nat.dvd_of_mod_eq_zero hm)).symm
  rw [hq, ← Nat.two_pow_add_eq_or_of_lt hx]
theorem dv_and1 (x : Nat) (h : x < 18446744073709551616) : BitVec.toNat (BitVec.ofInt 64 (x : Int) &&& BitVec.ofInt 64 1) = x % 2 := by
  rw [BitVec.toNat_and, dv_ofInt x h, show (BitVec.ofInt 64 1).toNat = 2 ^ 1 - 1 by decide, Nat.and_two_pow_sub_one_eq_mod]
theorem dv_and63 (x : Nat) (h : x < 18446744073709551616) : BitVec.toNat (BitVec.ofInt 64 (x : Int) &&& BitVec.ofInt 64 63) = x % 64 := by
  rw [BitVec.toNat_and, dv_ofInt x h, show (BitVec.ofInt 64 63).toNat = 2 ^ 6 - 1 by decide, Nat.and_two_pow_sub_one_eq_mod]
theorem dv_wu (x : Nat) (h : x < 18446744073709551616) : IntKind.wrap .u64 (Int.ofNat x) = (x : Int) := by
  rw [wrap_u64]; simp only [Int.ofNat_eq_natCast]; omega
theorem dv_bit (A D t : Nat) (hD : 0 < D) :
    A / 2 ^ t = 2 * (A / 2 ^ (t + 1)) + A / 2 ^ t % 2 ∧
    A / 2 ^ t % D = (if D ≤ 2 * (A / 2 ^ (t + 1) % D) + A / 2 ^ t % 2 then 2 * (A / 2 ^ (t + 1) % D) + A / 2 ^ t % 2 - D else 2 * (A / 2 ^ (t + 1) % D) + A / 2 ^ t % 2) ∧
    A / 2 ^ t / D * 2 ^ t = A / 2 ^ (t + 1) / D * 2 ^ (t + 1) + (if D ≤ 2 * (A / 2 ^ (t + 1) % D) + A / 2 ^ t % 2 then 2 ^ t else 0) := by
  have e1 : A / 2 ^ (t + 1) = A / 2 ^ t / 2 := by rw [Nat.pow_succ, Nat.div_div_eq_div_mul]
  have e2 : A / 2 ^ t = 2 * (A / 2 ^ (t + 1)) + A / 2 ^ t % 2 := by rw [e1]; omega
  generalize A / 2 ^ (t + 1) = B at *
  generalize A / 2 ^ t = C at *
  have hb : C % 2 < 2 := Nat.mod_lt _ (by omega)
  generalize C % 2 = b at *
  have hB := Nat.div_add_mod B D
  have hr := Nat.mod_lt B hD
  generalize B % D = r at *
  generalize B / D = q at *
  have hC : C = (2 * r + b) + D * (2 * q) := by
    rw [e2, ← hB]
    rw [Nat.mul_add, Nat.mul_left_comm]; omega
  refine ⟨e2, ?_, ?_⟩
  · rw [hC, Nat.add_mul_mod_self_left]
    split
    · rename_i h
      rw [Nat.mod_eq_sub_mod h, Nat.mod_eq_of_lt (by omega)]
    · exact Nat.mod_eq_of_lt (by omega)
  · rw [hC, Nat.add_mul_div_left _ _ hD]
    split
    · rename_i h
      have : (2 * r + b) / D = 1 := by
        rw [Nat.div_eq_of_lt_le (k := 1)] <;> omega
      rw [this, Nat.pow_succ, Nat.add_mul, Nat.one_mul]
      have : 2 * q * 2 ^ t = q * (2 ^ t * 2) := by rw [Nat.mul_comm 2 q, Nat.mul_assoc, Nat.mul_comm (2 ^ t) 2]
      omega
    · rename_i h
      rw [Nat.div_eq_of_lt (by omega), Nat.zero_add, Nat.add_zero, Nat.pow_succ, Nat.mul_comm 2 q, Nat.mul_assoc, Nat.mul_comm (2 ^ t) 2]
theorem dv_high (H L t : Nat) (hL : L < 2 ^ 64) (ht : 64 ≤ t) : (H * 2 ^ 64 + L) / 2 ^ t = H / 2 ^ (t - 64) := by
  have e : 2 ^ t = 2 ^ 64 * 2 ^ (t - 64) := by rw [← Nat.pow_add]; congr 1; omega
  rw [e, ← Nat.div_div_eq_div_mul, Nat.mul_comm H, Nat.mul_add_div (by decide), Nat.div_eq_of_lt hL, Nat.add_zero]
theorem dv_low (H L t : Nat) (ht : t < 64) : (H * 2 ^ 64 + L) / 2 ^ t % 2 = L / 2 ^ t % 2 := by
  have e : 2 ^ 64 = 2 ^ t * (2 * 2 ^ (63 - t)) := by rw [← Nat.pow_succ', ← Nat.pow_add]; congr 1; omega
  have e2 : H * 2 ^ 64 + L = 2 ^ t * (2 * (H * 2 ^ (63 - t))) + L := by
    rw [e]
    have : H * (2 ^ t * (2 * 2 ^ (63 - t))) = 2 ^ t * (2 * (H * 2 ^ (63 - t))) := by
      rw [Nat.mul_left_comm, Nat.mul_left_comm H 2]
    rw [this]
  rw [e2, Nat.mul_add_div (Nat.two_pow_pos t), Nat.mul_add_mod]
theorem dv_wuN (x : Nat) (h : x < 18446744073709551616) : IntKind.wrap .u64 (x : Int) = (x : Int) := dv_wu x h
theorem dv_sh (t : Nat) (ht : t < 128) : IntKind.wrap .u64 (IntKind.wrap .i64 ((BitVec.toNat (BitVec.ofInt 64 (t : Int) &&& BitVec.ofInt 64 63) : Nat) : Int)) = ((t % 64 : Nat) : Int) := by
  rw [dv_and63 t (by omega), wrap_i64 (by omega) (by omega), dv_wuN _ (by omega)]
theorem dv_pow (s : Nat) (hs : s < 64) : ((2 : Int) ^ min (Int.toNat ((s : Nat) : Int)) 64) = ((2 ^ s : Nat) : Int) := by
  rw [Int.toNat_natCast, Nat.min_eq_left (by omega)]
  simp
theorem dv_b (W s : Nat) (hW : W < 18446744073709551616) (hs : s < 64) : IntKind.wrap .u64 ((BitVec.toNat (BitVec.ofInt 64 (Int.fdiv (W : Int) (2 ^ min (Int.toNat ((s : Nat) : Int)) 64)) &&& BitVec.ofInt 64 1) : Nat) : Int) = ((W / 2 ^ s % 2 : Nat) : Int) := by
  rw [dv_pow s hs, Int.fdiv_eq_ediv_of_nonneg _ (Int.natCast_nonneg _), ← Int.natCast_ediv, dv_and1 _ (Nat.lt_of_le_of_lt (Nat.div_le_self _ _) hW), dv_wuN _ (by omega)]
theorem dv_r (r b : Nat) (hr : r < 9223372036854775808) (hb : b < 2) : IntKind.wrap .u64 ((BitVec.toNat (BitVec.ofInt 64 (IntKind.wrap .u64 ((r : Int) * 2)) ||| BitVec.ofInt 64 (b : Int)) : Nat) : Int) = ((2 * r + b : Nat) : Int) := by
  have e : IntKind.wrap .u64 ((r : Int) * 2) = ((2 * r : Nat) : Int) := by rw [wrap_u64]; omega
  rw [e, dv_or b (2 * r) 1 (by omega) (by omega) (by omega) (by omega), dv_wuN _ (by omega)]
theorem dv_set (Q s : Nat) (hs : s < 64) (hQ : Q + 2 ^ s < 18446744073709551616) (hm : Q % 2 ^ (s + 1) = 0) : IntKind.wrap .u64 ((BitVec.toNat (BitVec.ofInt 64 (Q : Int) ||| BitVec.ofInt 64 (IntKind.wrap .u64 (1 * 2 ^ min (Int.toNat ((s : Nat) : Int)) 64))) : Nat) : Int) = ((Q + 2 ^ s : Nat) : Int) := by
  have hp := Nat.two_pow_pos s
  have hp2 : 2 ^ s < 2 ^ (s + 1) := by rw [Nat.pow_succ]; omega
  rw [dv_pow s hs, Int.one_mul, dv_wuN (2 ^ s) (by omega), dv_or (2 ^ s) Q (s + 1) hp2 (by omega) (by omega) hm, dv_wuN _ hQ]
def dvQ (A D t : Nat) : Nat := A / 2 ^ t / D * 2 ^ t
theorem dvQ_le (A D t : Nat) : dvQ A D t ≤ A := Nat.le_trans (Nat.mul_le_mul_right _ (Nat.div_le_self _ _)) (Nat.div_mul_le_self _ _)
theorem dvQ_hi (A D t : Nat) (ht : 64 ≤ t) : dvQ A D t / 2 ^ 64 = A / 2 ^ t / D * 2 ^ (t - 64) ∧ dvQ A D t % 2 ^ 64 = 0 := by
  have e : 2 ^ t = 2 ^ (t - 64) * 2 ^ 64 := by rw [← Nat.pow_add]; congr 1; omega
  have : dvQ A D t = A / 2 ^ t / D * 2 ^ (t - 64) * 2 ^ 64 := by unfold dvQ; rw [Nat.mul_assoc, ← e]
  rw [this]
  exact ⟨Nat.mul_div_cancel _ (by decide), Nat.mul_mod_left _ _⟩
theorem dvQ_lo (A D t : Nat) (ht : t ≤ 64) : dvQ A D t % 2 ^ 64 % 2 ^ t = 0 := by
  have e : 2 ^ 64 = 2 ^ t * 2 ^ (64 - t) := by rw [← Nat.pow_add]; congr 1; omega
  rw [e, Nat.mod_mul_right_mod]
  unfold dvQ
  exact Nat.mul_mod_left _ _
theorem dv_room (M t : Nat) (ht : t < 64) (hM : M < 2 ^ 64) (hm : M % 2 ^ (t + 1) = 0) : M + 2 ^ t < 2 ^ 64 := by
  have h2 : 2 ^ 64 = 2 ^ (t + 1) * 2 ^ (64 - (t + 1)) := by rw [← Nat.pow_add]; congr 1; omega
  have h3 := Nat.div_add_mod M (2 ^ (t + 1))
  rw [hm, Nat.add_zero] at h3
  generalize M / 2 ^ (t + 1) = z at h3
  subst h3
  have h1 := hM
  rw [h2] at h1
  have h4 := Nat.lt_of_mul_lt_mul_left h1
  have h5 := Nat.mul_le_mul_left (2 ^ (t + 1)) (show z + 1 ≤ 2 ^ (64 - (t + 1)) from h4)
  rw [← h2, Nat.mul_add] at h5
  have h6 : 2 ^ (t + 1) = 2 * 2 ^ t := by rw [Nat.pow_succ]; omega
  have := Nat.two_pow_pos t
  omega
theorem ref_divided_loop (H L D : Nat) (neg : Bool) (hH : H < 2 ^ 64) (hL : L < 2 ^ 64) (hD : 0 < D) (hD2 : D < 2 ^ 63) (k : _ → Option (Int × Int × Bool)) :
    L_AN_0 ((D : Int), 0, 127, (H : Int), (L : Int), neg, 0, 0, neg) k = k ((D : Int), (((H * 2 ^ 64 + L) % D : Nat) : Int), -1, false, (H : Int), (L : Int), neg, (((H * 2 ^ 64 + L) / D / 2 ^ 64 : Nat) : Int), (((H * 2 ^ 64 + L) / D % 2 ^ 64 : Nat) : Int), neg) := by
  have hA : H * 2 ^ 64 + L < 2 ^ 128 := by omega
  obtain ⟨A, hAe⟩ : ∃ A, A = H * 2 ^ 64 + L := ⟨_, rfl⟩
  rw [← hAe] at hA ⊢
  unfold L_AN_0
  refine loopK_inv (fun t d => t ≤ 128 ∧ d = ((D : Int), ((A / 2 ^ t % D : Nat) : Int), (t : Int) - 1, (H : Int), (L : Int), neg, ((dvQ A D t / 2 ^ 64 : Nat) : Int), ((dvQ A D t % 2 ^ 64 : Nat) : Int), neg)) ?_ 200 128 _ (by omega) ⟨Nat.le_refl _, ?_⟩
  · rintro t _ c ⟨ht, rfl⟩ hc
    unfold S_AN_0
    cases t with
    | zero =>
      have e : decide (((0 : Nat) : Int) - 1 ≥ 0) = false := by decide
      have e0 : dvQ A D 0 = A / D := by unfold dvQ; rw [Nat.pow_zero, Nat.div_one, Nat.mul_one]
      rw [e, cond_false, e0, Nat.pow_zero, Nat.div_one]
      rfl
    | succ t =>
      have ei : ((t + 1 : Nat) : Int) - 1 = (t : Int) := by omega
      have e1 : decide ((t : Int) ≥ 0) = true := decide_eq_true (by omega)
      have e2 : decide (((t % 64 : Nat) : Int) < 0) = false := decide_eq_false (by omega)
      have e3 : IntKind.wrap .i64 ((t : Int) - 1) = (t : Int) - 1 := wrap_i64 (by omega) (by omega)
      obtain ⟨b1, b2, b3⟩ := dv_bit A D t hD
      have hr := Nat.mod_lt (A / 2 ^ (t + 1)) hD
      have hb : A / 2 ^ t % 2 < 2 := Nat.mod_lt _ (by omega)
      have hle := dvQ_le A D t
      change dvQ A D t = dvQ A D (t + 1) + _ at b3
      rw [ei]
      by_cases h64 : 64 ≤ t
      · have e4 : decide ((t : Int) ≥ 64) = true := decide_eq_true (by omega)
        have hs : t % 64 = t - 64 := by omega
        have hbit : H / 2 ^ (t % 64) % 2 = A / 2 ^ t % 2 := by rw [hs, hAe, dv_high H L t hL h64]
        have q1 := dvQ_hi A D (t + 1) (by omega)
        have q2 := dvQ_hi A D t h64
        simp only [Int.ofNat_eq_natCast, e1, e3, e4, dv_sh t (by omega), e2, dv_b H (t % 64) (by omega) (by omega), hbit, dv_r _ _ (show A / 2 ^ (t + 1) % D < 9223372036854775808 by omega) hb, cond_true, Bool.not_false]
        by_cases hge : D ≤ 2 * (A / 2 ^ (t + 1) % D) + A / 2 ^ t % 2
        · rw [if_pos hge] at b2 b3
          have e5 : decide (((2 * (A / 2 ^ (t + 1) % D) + A / 2 ^ t % 2 : Nat) : Int) ≥ (D : Int)) = true := decide_eq_true (by omega)
          have e6 : IntKind.wrap .u64 (((2 * (A / 2 ^ (t + 1) % D) + A / 2 ^ t % 2 : Nat) : Int) - (D : Int)) = ((A / 2 ^ t % D : Nat) : Int) := by
            rw [b2, wrap_u64]; omega
          have e7 : dvQ A D t / 2 ^ 64 = dvQ A D (t + 1) / 2 ^ 64 + 2 ^ (t % 64) := by
            have : 2 ^ t = 2 ^ 64 * 2 ^ (t - 64) := by rw [← Nat.pow_add]; congr 1; omega
            rw [b3, this, hs, Nat.add_mul_div_left _ _ (by decide)]
          have e8 := dv_set (dvQ A D (t + 1) / 2 ^ 64) (t % 64) (by omega) (by omega) (by
            rw [q1.1, hs, show t + 1 - 64 = t - 64 + 1 by omega]
            exact Nat.mul_mod_left _ _)
          rw [e5, cond_true, e6, e8, ← e7, q1.2]
          refine hc t _ (by omega) ⟨by omega, ?_⟩
          rw [q2.2]
        · rw [if_neg hge] at b2 b3
          have e5 : decide (((2 * (A / 2 ^ (t + 1) % D) + A / 2 ^ t % 2 : Nat) : Int) ≥ (D : Int)) = false := decide_eq_false (by omega)
          rw [e5, cond_false, ← b2]
          refine hc t _ (by omega) ⟨by omega, ?_⟩
          rw [b3, Nat.add_zero (dvQ A D (t + 1))]
      · have e4 : decide ((t : Int) ≥ 64) = false := decide_eq_false (by omega)
        have hs : t % 64 = t := Nat.mod_eq_of_lt (by omega)
        have hbit : L / 2 ^ (t % 64) % 2 = A / 2 ^ t % 2 := by rw [hs, hAe, dv_low H L t (by omega)]
        have q1 := dvQ_lo A D (t + 1) (by omega)
        simp only [Int.ofNat_eq_natCast, e1, e3, e4, dv_sh t (by omega), e2, dv_b L (t % 64) (by omega) (by omega), hbit, dv_r _ _ (show A / 2 ^ (t + 1) % D < 9223372036854775808 by omega) hb, cond_true, cond_false, Bool.not_false]
        by_cases hge : D ≤ 2 * (A / 2 ^ (t + 1) % D) + A / 2 ^ t % 2
        · rw [if_pos hge] at b2 b3
          have hlt : dvQ A D (t + 1) % 2 ^ 64 + 2 ^ t < 2 ^ 64 := dv_room _ t (by omega) (Nat.mod_lt _ (by decide)) q1
          have e5 : decide (((2 * (A / 2 ^ (t + 1) % D) + A / 2 ^ t % 2 : Nat) : Int) ≥ (D : Int)) = true := decide_eq_true (by omega)
          have e6 : IntKind.wrap .u64 (((2 * (A / 2 ^ (t + 1) % D) + A / 2 ^ t % 2 : Nat) : Int) - (D : Int)) = ((A / 2 ^ t % D : Nat) : Int) := by
            rw [b2, wrap_u64]; omega
          have e7 : dvQ A D t % 2 ^ 64 = dvQ A D (t + 1) % 2 ^ 64 + 2 ^ (t % 64) ∧ dvQ A D t / 2 ^ 64 = dvQ A D (t + 1) / 2 ^ 64 := by
            rw [b3, hs]; omega
          have e8 := dv_set (dvQ A D (t + 1) % 2 ^ 64) (t % 64) (by omega) (by rw [hs]; exact hlt) (by rw [hs]; exact q1)
          rw [e5, cond_true, e6, e8, ← e7.1, ← e7.2]
          exact hc t _ (by omega) ⟨by omega, rfl⟩
        · rw [if_neg hge] at b2 b3
          have e5 : decide (((2 * (A / 2 ^ (t + 1) % D) + A / 2 ^ t % 2 : Nat) : Int) ≥ (D : Int)) = false := decide_eq_false (by omega)
          rw [e5, cond_false, ← b2]
          refine hc t _ (by omega) ⟨by omega, ?_⟩
          rw [b3, Nat.add_zero (dvQ A D (t + 1))]
  · have : A / 2 ^ 128 = 0 := Nat.div_eq_of_lt hA
    unfold dvQ
    rw [this]
    simp
end Go.Proofs.Ytcalippagaaikaa
set_option maxRecDepth 100000
set_option maxHeartbeats 4000000
set_option linter.unusedVariables false
set_option linter.unusedSimpArgs false
namespace Go.Proofs.Ytcalippagaaikaa
open Go.Ab
theorem sat_id {x : Int} (h : -1152921504606846976 ≤ x ∧ x ≤ 1152921504606846976) : sat x = x ∧ over x = false := by
  unfold sat over
  have h1 : ¬ x < -1152921504606846976 := by omega
  have h2 : ¬ 1152921504606846976 < x := by omega
  simp [h1, h2]
theorem ref_clamp (a lo hi : Int) (hit : Bool) (h : lo ≤ hi) : f_AJ a lo hi hit = some (if a < lo then lo else if hi < a then hi else a, hit || (decide (a < lo) || decide (hi < a))) := by
  unfold f_AJ K_AJ
  by_cases c : a < lo
  · have e : (lo != a) = true := by rw [bne_iff_ne]; omega
    rw [decide_eq_true c, cond_true, e, cond_true, if_pos c, Bool.true_or, Bool.or_true]
  · rw [decide_eq_false c, cond_false, decide_eq_false (show ¬ lo > hi by omega), cond_false, if_neg c, Bool.false_or]
    by_cases d : hi < a
    · have e : (hi != a) = true := by rw [bne_iff_ne]; omega
      rw [decide_eq_true (show a > hi from d), cond_true, e, cond_true, if_pos d, Bool.or_true]
    · rw [decide_eq_false (show ¬ a > hi from d), cond_false, bne_self_eq_false, cond_false, cond_false, if_neg d, Bool.or_false]
theorem ref_sat (x : Int) (hit : Bool) : f_AA x hit = some (sat x, hit || over x) := by
  unfold f_AA K_AA
  rw [ref_clamp x _ _ hit (by omega), Option.bind_some]
  rfl
theorem ref_size (a : Int) (h0 : -1152921504606846976 ≤ a) (h1 : a ≤ 1152921504606846976) : f_AT a = some (if a < 0 then -a else a) := by
  unfold f_AT K_AT
  by_cases c : a < 0
  · rw [decide_eq_true c, cond_true, if_pos c, wrap_i64 (by omega) (by omega), wrap_u64]
    congr 1; omega
  · rw [decide_eq_false c, cond_false, if_neg c, wrap_u64]
    congr 1; omega
theorem ref_product (x y : Int) (x0 : 0 ≤ x) (x1 : x < 18446744073709551616) (y0 : 0 ≤ y) (y1 : y < 18446744073709551616) : f_Aj x y = some (x * y / 18446744073709551616, x * y % 18446744073709551616) := by
  unfold f_Aj K_Aj
  rw [and_mask x x0 x1, and_mask y y0 y1]
  simp only [fdiv_pos _ 4294967296 (by decide), wrap_u64]
  have xe : x = x / 4294967296 * 4294967296 + x % 4294967296 := by omega
  have ye : y = y / 4294967296 * 4294967296 + y % 4294967296 := by omega
  have xh : 0 ≤ x / 4294967296 ∧ x / 4294967296 ≤ 4294967295 := by omega
  have yh : 0 ≤ y / 4294967296 ∧ y / 4294967296 ≤ 4294967295 := by omega
  have xl : 0 ≤ x % 4294967296 ∧ x % 4294967296 ≤ 4294967295 := by omega
  have yl : 0 ≤ y % 4294967296 ∧ y % 4294967296 ≤ 4294967295 := by omega
  have hxy : x * y = (x / 4294967296) * (y / 4294967296) * 18446744073709551616 + ((x / 4294967296) * (y % 4294967296) + (x % 4294967296) * (y / 4294967296)) * 4294967296 + (x % 4294967296) * (y % 4294967296) := by
    conv => lhs; rw [xe, ye]
    grind
  obtain ⟨A0, A1⟩ := mul_lt32 xh.1 xh.2 yh.1 yh.2
  obtain ⟨B0, B1⟩ := mul_lt32 xh.1 xh.2 yl.1 yl.2
  obtain ⟨C0, C1⟩ := mul_lt32 xl.1 xl.2 yh.1 yh.2
  obtain ⟨D0, D1⟩ := mul_lt32 xl.1 xl.2 yl.1 yl.2
  simp only [Int.emod_eq_of_lt xl.1 (show x % 4294967296 < 18446744073709551616 by omega), Int.emod_eq_of_lt yl.1 (show y % 4294967296 < 18446744073709551616 by omega)]
  rw [hxy]
  generalize x / 4294967296 * (y / 4294967296) = A at *
  generalize x / 4294967296 * (y % 4294967296) = B at *
  generalize x % 4294967296 * (y / 4294967296) = C at *
  generalize x % 4294967296 * (y % 4294967296) = D at *
  have r1 : A % 18446744073709551616 = A := Int.emod_eq_of_lt A0 (by omega)
  have r2 : B % 18446744073709551616 = B := Int.emod_eq_of_lt B0 (by omega)
  have r3 : C % 18446744073709551616 = C := Int.emod_eq_of_lt C0 (by omega)
  have r4 : D % 18446744073709551616 = D := Int.emod_eq_of_lt D0 (by omega)
  simp only [r1, r2, r3, r4]
  have r5 : (B + D / 4294967296) % 18446744073709551616 = B + D / 4294967296 := Int.emod_eq_of_lt (by omega) (by omega)
  simp only [r5]
  rw [and_mask (B + D / 4294967296) (by omega) (by omega), and_mask D D0 (by omega)]
  have r6 : (B + D / 4294967296) % 4294967296 % 18446744073709551616 = (B + D / 4294967296) % 4294967296 := Int.emod_eq_of_lt (by omega) (by omega)
  have r8 : D % 4294967296 % 18446744073709551616 = D % 4294967296 := Int.emod_eq_of_lt (by omega) (by omega)
  simp only [r6, r8]
  have r7 : (C + (B + D / 4294967296) % 4294967296) % 18446744073709551616 = C + (B + D / 4294967296) % 4294967296 := Int.emod_eq_of_lt (by omega) (by omega)
  simp only [r7]
  have z0 : 0 ≤ (C + (B + D / 4294967296) % 4294967296) * 4294967296 % 18446744073709551616 := by omega
  have key : Int.ofNat (BitVec.toNat (BitVec.ofInt 64 ((C + (B + D / 4294967296) % 4294967296) * 4294967296 % 18446744073709551616) ||| BitVec.ofInt 64 (D % 4294967296))) = D % 4294967296 + (C + (B + D / 4294967296) % 4294967296) * 4294967296 % 18446744073709551616 := by
    rw [BitVec.or_comm]
    refine or_apart _ _ 32 (by omega) ?_ z0 (by omega) (by omega) ?_
    · rw [show (2 : Int) ^ 32 = 4294967296 from rfl]; omega
    · rw [show (2 : Int) ^ 32 = 4294967296 from rfl]; omega
  rw [key]
  refine congrArg some (Prod.ext ?_ ?_)
  · simp only; omega
  · simp only; omega
abbrev okR (h l : Int) : Prop := 0 ≤ h ∧ h < 18446744073709551616 ∧ 0 ≤ l ∧ l < 18446744073709551616
def rV (h l : Int) (n : Bool) : Int := if n = true then -(h * 18446744073709551616 + l) else h * 18446744073709551616 + l
theorem ref_mul (a b : Int) (a0 : -1152921504606846976 ≤ a ∧ a ≤ 1152921504606846976) (b0 : -1152921504606846976 ≤ b ∧ b ≤ 1152921504606846976) :
    ∃ h l n, f_BC a b = some (h, l, n) ∧ okR h l ∧ rV h l n = a * b ∧ h * 18446744073709551616 + l ≤ 1329227995784915872903807060280344576 := by
  unfold f_BC K_BC
  rw [ref_size a a0.1 a0.2, Option.bind_some, ref_size b b0.1 b0.2, Option.bind_some]
  generalize hx : (if a < 0 then -a else a) = x
  generalize hy : (if b < 0 then -b else b) = y
  have x0 : 0 ≤ x ∧ x ≤ 1152921504606846976 := by split at hx <;> omega
  have y0 : 0 ≤ y ∧ y ≤ 1152921504606846976 := by split at hy <;> omega
  have p0 : 0 ≤ x * y := Int.mul_nonneg x0.1 y0.1
  have p1 : x * y ≤ 1329227995784915872903807060280344576 := by
    have := Int.mul_le_mul x0.2 y0.2 y0.1 (by omega)
    omega
  rw [ref_product x y x0.1 (by omega) y0.1 (by omega), Option.bind_some]
  have e4 : x * y / 18446744073709551616 * 18446744073709551616 + x * y % 18446744073709551616 = x * y := by omega
  refine ⟨_, _, _, rfl, ⟨by omega, by omega, by omega, by omega⟩, ?_, by rw [e4]; exact p1⟩
  unfold rV
  rw [e4]
  by_cases p : a < 0
  · by_cases q : b < 0
    · rw [if_pos p] at hx
      rw [if_pos q] at hy
      rw [decide_eq_true p, decide_eq_true q, if_neg (by decide), ← hx, ← hy, Int.neg_mul_neg]
    · rw [if_pos p] at hx
      rw [if_neg q] at hy
      rw [decide_eq_true p, decide_eq_false q, if_pos (by decide), ← hx, ← hy, Int.neg_mul, Int.neg_neg]
  · by_cases q : b < 0
    · rw [if_neg p] at hx
      rw [if_pos q] at hy
      rw [decide_eq_false p, decide_eq_true q, if_pos (by decide), ← hx, ← hy, Int.mul_neg, Int.neg_neg]
    · rw [if_neg p] at hx
      rw [if_neg q] at hy
      rw [decide_eq_false p, decide_eq_false q, if_neg (by decide), ← hx, ← hy]
theorem ref_less (a b c d : Int) (n m : Bool) (b0 : 0 ≤ b) (b1 : b < 18446744073709551616) (d0 : 0 ≤ d) (d1 : d < 18446744073709551616) :
    f_Am a b n c d m = some (decide (a * 18446744073709551616 + b < c * 18446744073709551616 + d)) := by
  unfold f_Am K_Am
  by_cases h : a < c
  · have : a * 18446744073709551616 + b < c * 18446744073709551616 + d := by omega
    rw [decide_eq_true h, cond_true, decide_eq_true this]
  · rw [decide_eq_false h, cond_false]
    by_cases e : a = c
    · subst e
      rw [beq_self_eq_true, cond_true]
      congr 1
      by_cases k : b < d
      · rw [decide_eq_true k, decide_eq_true (by omega)]
      · rw [decide_eq_false k, decide_eq_false (by omega)]
    · have : ¬ a * 18446744073709551616 + b < c * 18446744073709551616 + d := by omega
      have e' : (a == c) = false := by rw [beq_eq_false_iff_ne]; exact e
      rw [e', cond_false, decide_eq_false this]
theorem ref_plus (h1 l1 h2 l2 : Int) (n : Bool) (o1 : okR h1 l1) (o2 : okR h2 l2) (b : h1 * 18446744073709551616 + l1 + (h2 * 18446744073709551616 + l2) < 340282366920938463463374607431768211456) :
    ∃ h l, f_AM h1 l1 n h2 l2 n = some (h, l, n) ∧ okR h l ∧ h * 18446744073709551616 + l = h1 * 18446744073709551616 + l1 + (h2 * 18446744073709551616 + l2) := by
  unfold f_AM K_AM
  obtain ⟨a1, a2, a3, a4⟩ := o1
  obtain ⟨b1, b2, b3, b4⟩ := o2
  simp only [beq_self_eq_true, cond_true, wrap_u64]
  by_cases c : (l1 + l2) % 18446744073709551616 < l1
  · rw [decide_eq_true c, cond_true]
    exact ⟨_, _, rfl, ⟨by omega, by omega, by omega, by omega⟩, by omega⟩
  · rw [decide_eq_false c, cond_false]
    exact ⟨_, _, rfl, ⟨by omega, by omega, by omega, by omega⟩, by omega⟩
theorem ref_sum (h1 l1 h2 l2 : Int) (n m : Bool) (o1 : okR h1 l1) (o2 : okR h2 l2) (b : h1 * 18446744073709551616 + l1 + (h2 * 18446744073709551616 + l2) < 340282366920938463463374607431768211456) :
    ∃ h l k, f_AM h1 l1 n h2 l2 m = some (h, l, k) ∧ okR h l ∧ rV h l k = rV h1 l1 n + rV h2 l2 m ∧ h * 18446744073709551616 + l ≤ h1 * 18446744073709551616 + l1 + (h2 * 18446744073709551616 + l2) := by
  by_cases s : n = m
  · subst s
    obtain ⟨h, l, e, o, v⟩ := ref_plus h1 l1 h2 l2 n o1 o2 b
    refine ⟨h, l, n, e, o, ?_, by omega⟩
    unfold rV
    cases n <;> simp only [Bool.false_eq_true, if_false, if_true] <;> omega
  · have e : (n == m) = false := by rw [beq_eq_false_iff_ne]; exact s
    obtain ⟨a1, a2, a3, a4⟩ := o1
    obtain ⟨b1, b2, b3, b4⟩ := o2
    unfold f_AM K_AM
    rw [e, cond_false, ref_less h1 l1 h2 l2 n m a3 a4 b3 b4, Option.bind_some]
    simp only [wrap_u64]
    have sg : rV h1 l1 n + rV h2 l2 m = if n = true then (h2 * 18446744073709551616 + l2) - (h1 * 18446744073709551616 + l1) else (h1 * 18446744073709551616 + l1) - (h2 * 18446744073709551616 + l2) := by
      unfold rV
      cases n <;> cases m <;> simp_all <;> omega
    have mm : m = !n := by cases n <;> cases m <;> simp_all
    rw [sg]
    by_cases c : h1 * 18446744073709551616 + l1 < h2 * 18446744073709551616 + l2
    · rw [decide_eq_true c, cond_true]
      by_cases d : l2 < l1
      · rw [decide_eq_true d, cond_true]
        refine ⟨_, _, _, rfl, ⟨by omega, by omega, by omega, by omega⟩, ?_, by omega⟩
        unfold rV
        rw [mm]
        cases n <;> simp only [Bool.not_true, Bool.not_false, Bool.false_eq_true, if_false, if_true] <;> omega
      · rw [decide_eq_false d, cond_false]
        refine ⟨_, _, _, rfl, ⟨by omega, by omega, by omega, by omega⟩, ?_, by omega⟩
        unfold rV
        rw [mm]
        cases n <;> simp only [Bool.not_true, Bool.not_false, Bool.false_eq_true, if_false, if_true] <;> omega
    · rw [decide_eq_false c, cond_false]
      by_cases d : l1 < l2
      · rw [decide_eq_true d, cond_true]
        refine ⟨_, _, _, rfl, ⟨by omega, by omega, by omega, by omega⟩, ?_, by omega⟩
        unfold rV
        cases n <;> simp only [Bool.false_eq_true, if_false, if_true] <;> omega
      · rw [decide_eq_false d, cond_false]
        refine ⟨_, _, _, rfl, ⟨by omega, by omega, by omega, by omega⟩, ?_, by omega⟩
        unfold rV
        cases n <;> simp only [Bool.false_eq_true, if_false, if_true] <;> omega
theorem ref_end (h l : Int) (n hit : Bool) (o : okR h l) : f_Ac h l n hit = some (sat (rV h l n), hit || over (rV h l n)) := by
  obtain ⟨a1, a2, a3, a4⟩ := o
  unfold f_Ac K_Ac rV
  have big : 1152921504606846976 < h * 18446744073709551616 + l → (bif n then some ((-1152921504606846976 : Int), true) else some (1152921504606846976, true)) =
      some (sat (if n = true then -(h * 18446744073709551616 + l) else h * 18446744073709551616 + l), hit || over (if n = true then -(h * 18446744073709551616 + l) else h * 18446744073709551616 + l)) := fun k => by
    unfold sat over
    cases n
    · simp only [Bool.false_eq_true, if_false, cond_false]
      rw [if_neg (by omega), if_pos k, decide_eq_true k, Bool.or_true, Bool.or_true]
    · simp only [if_true, cond_true]
      rw [if_pos (by omega), decide_eq_true (show -(h * 18446744073709551616 + l) < -1152921504606846976 by omega), Bool.true_or, Bool.or_true]
  by_cases c : h > 0
  · rw [decide_eq_true c, cond_true]; exact big (by omega)
  · rw [decide_eq_false c, cond_false]
    by_cases d : l > 1152921504606846976
    · rw [decide_eq_true d, cond_true]; exact big (by omega)
    · rw [decide_eq_false d, cond_false]
      have hz : h = 0 := by omega
      subst hz
      have w : IntKind.wrap .i64 l = l := wrap_i64 (by omega) (by omega)
      rw [Int.zero_mul, Int.zero_add, w]
      cases n
      · have z := sat_id (x := l) (by omega)
        simp only [Bool.false_eq_true, if_false, cond_false, z.1, z.2, Bool.or_false]
      · have z := sat_id (x := -l) (by omega)
        have w2 : IntKind.wrap .i64 (0 - l) = -l := (wrap_i64 (by omega) (by omega)).trans (by omega)
        simp only [if_true, cond_true, z.1, z.2, Bool.or_false, w2]
end Go.Proofs.Ytcalippagaaikaa
set_option maxRecDepth 100000
set_option maxHeartbeats 4000000
set_option linter.unusedVariables false
set_option linter.unusedSimpArgs false
namespace Go.Proofs.Ytcalippagaaikaa
open Go.Ab
theorem ref_divided (h l : Int) (n : Bool) (D : Int) (o : okR h l) (b : h * 18446744073709551616 + l < 170141183460469231731687303715884105728) (d0 : 0 < D) (d1 : D < 9223372036854775808) :
    ∃ h' l', f_AN h l n D = some (h', l', n) ∧ okR h' l' ∧ h' * 18446744073709551616 + l' = qdq (h * 18446744073709551616 + l) D := by
  obtain ⟨a1, a2, a3, a4⟩ := o
  obtain ⟨H, rfl⟩ : ∃ H : Nat, h = (H : Int) := ⟨h.toNat, by omega⟩
  obtain ⟨L, rfl⟩ : ∃ L : Nat, l = (L : Int) := ⟨l.toNat, by omega⟩
  obtain ⟨E, rfl⟩ : ∃ E : Nat, D = (E : Int) := ⟨D.toNat, by omega⟩
  have hE : 0 < E := by omega
  have hA : ((H * 2 ^ 64 + L : Nat) : Int) = (H : Int) * 18446744073709551616 + L := by omega
  have hq : qdq ((H : Int) * 18446744073709551616 + L) E = (((H * 2 ^ 64 + L) / E : Nat) : Int) + (if 2 * (((H * 2 ^ 64 + L) % E : Nat) : Int) < (E : Int) then 0 else 1) := by
    unfold qdq
    rw [← hA, Int.natCast_ediv, Int.natCast_emod]
  rw [hq]
  unfold f_AN K_AN
  rw [ref_divided_loop H L E n (by omega) (by omega) hE (by omega)]
  have hQ : (H * 2 ^ 64 + L) / E ≤ H * 2 ^ 64 + L := Nat.div_le_self _ _
  have hR : (H * 2 ^ 64 + L) % E < E := Nat.mod_lt _ hE
  generalize (H * 2 ^ 64 + L) / E = Q at *
  generalize (H * 2 ^ 64 + L) % E = R at *
  have hw : IntKind.wrap .u64 ((E : Int) - (R : Int)) = (E : Int) - R := by rw [wrap_u64]; omega
  simp only [hw]
  by_cases hc : 2 * (R : Int) < (E : Int)
  · rw [if_pos hc, decide_eq_false (show ¬ (R : Int) ≥ (E : Int) - R by omega), cond_false]
    exact ⟨_, _, rfl, ⟨by omega, by omega, by omega, by omega⟩, by omega⟩
  · rw [if_neg hc, decide_eq_true (show (R : Int) ≥ (E : Int) - R by omega), cond_true]
    obtain ⟨h', l', e1, o1, e2⟩ := ref_plus ((Q / 2 ^ 64 : Nat) : Int) ((Q % 2 ^ 64 : Nat) : Int) 0 1 n ⟨by omega, by omega, by omega, by omega⟩ ⟨by omega, by omega, by omega, by omega⟩ (by omega)
    rw [e1]
    exact ⟨h', l', rfl, o1, by rw [e2]; omega⟩
theorem ref_muldiv (a b d : Int) (hit : Bool) (hd : 0 < sat d) :
    f_AG a b d hit = some (sat (rdq (sat a * sat b) (sat d)), ((((hit || over a) || over b) || over d) || over (rdq (sat a * sat b) (sat d)))) := by
  unfold f_AG K_AG
  have sa := sat_le a
  have sb := sat_le b
  have sd := sat_le d
  obtain ⟨h, l, n, e1, o1, e2, e3⟩ := ref_mul (sat a) (sat b) sa sb
  have hz : (sat d == 0) = false := by rw [beq_eq_false_iff_ne]; omega
  have hneg : decide (sat d < 0) = false := decide_eq_false (by omega)
  have hn : (!n == false) = n := by cases n <;> rfl
  obtain ⟨h', l', e4, o4, e5⟩ := ref_divided h l n (sat d) o1 (by omega) hd (by omega)
  simp only [ref_sat, Option.bind_some, e1, hz, cond_false, ref_size (sat d) sd.1 sd.2, if_neg (show ¬ sat d < 0 by omega), hneg, hn, e4, ref_end h' l' n _ o4]
  have hv : rV h' l' n = rdq (sat a * sat b) (sat d) := by
    rw [← e2]
    have hV : 0 ≤ h * 18446744073709551616 + l := by
      obtain ⟨p1, p2, p3, p4⟩ := o1
      omega
    unfold rV rdq mgq
    rw [hneg, if_neg (show ¬ sat d < 0 by omega), e5]
    generalize h * 18446744073709551616 + l = V at *
    cases n
    · simp only [Bool.false_eq_true, if_false]
      rw [decide_eq_false (show ¬ V < 0 by omega), if_pos rfl, if_neg (show ¬ V < 0 by omega)]
    · simp only [if_true]
      by_cases hV0 : V = 0
      · subst hV0
        rw [show (-(0 : Int)) = 0 from rfl, decide_eq_false (show ¬ (0 : Int) < 0 by omega), if_pos rfl, if_neg (show ¬ (0 : Int) < 0 by omega)]
        unfold qdq
        rw [Int.zero_ediv, Int.zero_emod, if_pos (by omega)]
        rfl
      · rw [decide_eq_true (show -V < 0 by omega), if_neg (by decide), if_pos (show -V < 0 by omega), Int.neg_neg]
  rw [hv]
theorem muldiv_same (a b d : Int) (hit : Bool) (hd : 0 < sat d) : f_AG a b d hit = f_AK a b d hit := by
  rw [ref_muldiv a b d hit hd, acc_muldiv a b d hit (by omega)]
end Go.Proofs.Ytcalippagaaikaa
set_option maxRecDepth 100000
set_option maxHeartbeats 4000000
set_option linter.unusedVariables false
set_option linter.unusedSimpArgs false
namespace Go.Proofs.Ytcalippagaaikaa
open Go.Ab
theorem ref_shifted (h l : Int) (n : Bool) (s : Nat) (hs : s ≤ 120) (o : okR h l) (b : h * 18446744073709551616 + l < 170141183460469231731687303715884105728) :
    ∃ h' l', f_BW h l n (Int.ofNat s) = some (h', l', n) ∧ okR h' l' ∧ rV h' l' n = rnd (rV h l n) s := by
  have val : ∀ V W : Int, 0 ≤ V → W = (V + half s) / 2 ^ s → (if n = true then -W else W) = rnd (if n = true then -V else V) s := fun V W v0 hw => by
    have h0 := (half_le s (by omega)).1
    unfold rnd
    cases n
    · simp only [Bool.false_eq_true, if_false]
      rw [if_neg (by omega), hw]
    · simp only [if_true]
      by_cases z : V = 0
      · subst z
        rw [if_neg (by omega), hw]
        have hz : half s / 2 ^ s = 0 := by
          refine Int.ediv_eq_zero_of_lt h0 ?_
          unfold half
          split
          · exact pow_pos' _
          · rename_i c
            have e : (2 : Int) ^ s = 2 ^ (s - 1) * 2 := by rw [← Int.pow_succ]; congr 1; omega
            have p := pow_pos' (s - 1)
            omega
        rw [Int.zero_add, hz, Int.neg_zero, Int.zero_add, hz]
      · rw [if_pos (by omega), hw, Int.neg_neg]
  obtain ⟨hh0, hh1⟩ := half_le s (by omega)
  unfold f_BW K_BW
  by_cases z : s = 0
  · subst z
    have e : (Int.ofNat 0 == 0) = true := rfl
    rw [e, cond_true]
    refine ⟨h, l, rfl, o, ?_⟩
    rw [rnd_zero]
  have e : (Int.ofNat s == 0) = false := by rw [beq_eq_false_iff_ne]; simp only [Int.ofNat_eq_natCast, ne_eq]; omega
  rw [e, cond_false]
  have hf : half s = 2 ^ (s - 1) := by unfold half; rw [if_neg z]
  have u : ∀ k : Nat, k ≤ 200 → IntKind.wrap .u64 (k : Int) = (k : Int) := fun k hk => by rw [wrap_u64]; omega
  have nn : ∀ k : Nat, (!decide ((k : Int) < 0)) = true := fun k => by rw [decide_eq_false (by omega)]; rfl
  -- behind the half
  have fin : ∀ h2 l2 : Int, okR h2 l2 → h2 * 18446744073709551616 + l2 = h * 18446744073709551616 + l + half s →
      ∃ h' l', (bif decide (Int.ofNat s ≥ 64) then
            bif !decide (IntKind.wrap IntKind.u64 (IntKind.wrap IntKind.i64 (Int.ofNat s - 64)) < 0) then
              some ((0 : Int), Int.fdiv h2 (2 ^ min (Int.toNat (IntKind.wrap IntKind.u64 (IntKind.wrap IntKind.i64 (Int.ofNat s - 64)))) 64), n)
            else none
          else
            bif !decide (IntKind.wrap IntKind.u64 (Int.ofNat s) < 0) then
              bif !decide (IntKind.wrap IntKind.u64 (Int.ofNat s) < 0) then
                bif !decide (IntKind.wrap IntKind.u64 (IntKind.wrap IntKind.i64 (64 - Int.ofNat s)) < 0) then
                  some
                    (Int.fdiv h2 (2 ^ min (Int.toNat (IntKind.wrap IntKind.u64 (Int.ofNat s))) 64),
                      IntKind.wrap IntKind.u64
                        (Int.ofNat
                          (BitVec.toNat
                            (BitVec.ofInt 64 (Int.fdiv l2 (2 ^ min (Int.toNat (IntKind.wrap IntKind.u64 (Int.ofNat s))) 64)) |||
                              BitVec.ofInt 64 (IntKind.wrap IntKind.u64 (h2 * 2 ^ min (Int.toNat (IntKind.wrap IntKind.u64 (IntKind.wrap IntKind.i64 (64 - Int.ofNat s)))) 64))))),
                      n)
                else none
              else none
            else none) = some (h', l', n) ∧ okR h' l' ∧ rV h' l' n = rnd (rV h l n) s := fun h2 l2 o2 hv => by
    obtain ⟨a1, a2, a3, a4⟩ := o
    obtain ⟨c1, c2, c3, c4⟩ := o2
    by_cases c : 64 ≤ s
    · have w1 : IntKind.wrap .i64 (Int.ofNat s - 64) = ((s - 64 : Nat) : Int) := (wrap_i64 (by simp only [Int.ofNat_eq_natCast]; omega) (by simp only [Int.ofNat_eq_natCast]; omega)).trans (by simp only [Int.ofNat_eq_natCast]; omega)
      have w2 : min (Int.toNat ((s - 64 : Nat) : Int)) 64 = s - 64 := by rw [Int.toNat_natCast]; omega
      rw [decide_eq_true (show Int.ofNat s ≥ 64 by simp only [Int.ofNat_eq_natCast]; omega), cond_true, w1, u (s - 64) (by omega), nn, cond_true, w2, fdiv_pos _ _ (Int.le_of_lt (pow_pos' _))]
      have P0 := pow_pos' (s - 64)
      have d0 := Int.ediv_nonneg c1 (Int.le_of_lt P0)
      have d1 := Int.ediv_le_self (2 ^ (s - 64)) c1
      refine ⟨_, _, rfl, ⟨by omega, by omega, d0, by omega⟩, ?_⟩
      unfold rV
      rw [Int.zero_mul, Int.zero_add]
      refine val (h * 18446744073709551616 + l) (h2 / 2 ^ (s - 64)) (by omega) ?_
      rw [← hv]
      have p : (2 : Int) ^ s = 18446744073709551616 * 2 ^ (s - 64) := by
        rw [show (18446744073709551616 : Int) = 2 ^ 64 from rfl, ← Int.pow_add]
        congr 1; omega
      rw [p, ← Int.ediv_ediv_of_nonneg (by decide)]
      congr 1; omega
    · have w1 : IntKind.wrap .i64 (64 - Int.ofNat s) = ((64 - s : Nat) : Int) := (wrap_i64 (by simp only [Int.ofNat_eq_natCast]; omega) (by simp only [Int.ofNat_eq_natCast]; omega)).trans (by simp only [Int.ofNat_eq_natCast]; omega)
      have w2 : min (Int.toNat ((64 - s : Nat) : Int)) 64 = 64 - s := by rw [Int.toNat_natCast]; omega
      have w3 : min (Int.toNat (s : Int)) 64 = s := by rw [Int.toNat_natCast]; omega
      rw [decide_eq_false (show ¬ Int.ofNat s ≥ 64 by simp only [Int.ofNat_eq_natCast]; omega), cond_false, w1, Int.ofNat_eq_natCast, u s (by omega), u (64 - s) (by omega), nn, nn, cond_true, cond_true, cond_true, w2, w3,
        fdiv_pos _ _ (Int.le_of_lt (pow_pos' _)), fdiv_pos _ _ (Int.le_of_lt (pow_pos' _))]
      have pq : (18446744073709551616 : Int) = 2 ^ s * 2 ^ (64 - s) := by
        rw [← Int.pow_add, show s + (64 - s) = 64 by omega]; rfl
      have P0 := pow_pos' s
      have Q0 := pow_pos' (64 - s)
      have m : IntKind.wrap .u64 (h2 * 2 ^ (64 - s)) = h2 % 2 ^ s * 2 ^ (64 - s) := by
        rw [wrap_u64, pq, Int.mul_comm h2, Int.mul_comm (2 ^ s), Int.mul_emod_mul_of_pos _ _ Q0, Int.mul_comm]
      have x0 : 0 ≤ l2 / 2 ^ s := Int.ediv_nonneg c3 (Int.le_of_lt P0)
      have x1 : l2 / 2 ^ s < 2 ^ (64 - s) := Int.ediv_lt_of_lt_mul P0 (by rw [Int.mul_comm, ← pq]; exact c4)
      have x2 := Int.ediv_le_self (2 ^ s) c3
      have y0 : 0 ≤ h2 % 2 ^ s := Int.emod_nonneg _ (by omega)
      have y1 : h2 % 2 ^ s < 2 ^ s := Int.emod_lt_of_pos _ P0
      have y2 : h2 % 2 ^ s * 2 ^ (64 - s) + 2 ^ (64 - s) ≤ 18446744073709551616 := by
        have : (h2 % 2 ^ s + 1) * 2 ^ (64 - s) ≤ 2 ^ s * 2 ^ (64 - s) := Int.mul_le_mul_of_nonneg_right (by omega) (Int.le_of_lt Q0)
        rw [Int.add_mul, ← pq] at this; omega
      have y3 : 0 ≤ h2 % 2 ^ s * 2 ^ (64 - s) := Int.mul_nonneg y0 (Int.le_of_lt Q0)
      rw [m, or_apart _ _ (64 - s) x0 x1 y3 (by omega) (by omega) (Int.mul_emod_left _ _), wrap_u64, Int.emod_eq_of_lt (by omega) (by omega)]
      have d0 := Int.ediv_nonneg c1 (Int.le_of_lt P0)
      have d1 := Int.ediv_le_self (2 ^ s) c1
      refine ⟨_, _, rfl, ⟨d0, by omega, by omega, by omega⟩, ?_⟩
      unfold rV
      refine val (h * 18446744073709551616 + l) _ (by omega) ?_
      rw [← hv]
      have f1 : (h2 * 18446744073709551616 + l2) / 2 ^ s = h2 * 2 ^ (64 - s) + l2 / 2 ^ s := by
        have : h2 * 18446744073709551616 + l2 = l2 + 2 ^ s * (h2 * 2 ^ (64 - s)) := by rw [pq]; grind
        rw [this, Int.add_mul_ediv_left _ _ (by omega)]; omega
      have f2 : h2 / 2 ^ s * 18446744073709551616 = h2 / 2 ^ s * 2 ^ s * 2 ^ (64 - s) := by rw [pq, Int.mul_assoc]
      have f3 : h2 / 2 ^ s * 2 ^ s + h2 % 2 ^ s = h2 := Int.ediv_mul_add_emod h2 _
      have f4 : (h2 / 2 ^ s * 2 ^ s + h2 % 2 ^ s) * 2 ^ (64 - s) = h2 * 2 ^ (64 - s) := by rw [f3]
      rw [Int.add_mul] at f4
      rw [f1, f2]
      omega
  have w0 : IntKind.wrap .i64 (Int.ofNat s - 1) = ((s - 1 : Nat) : Int) := (wrap_i64 (by simp only [Int.ofNat_eq_natCast]; omega) (by simp only [Int.ofNat_eq_natCast]; omega)).trans (by simp only [Int.ofNat_eq_natCast]; omega)
  rw [w0]
  by_cases c : 65 ≤ s
  · rw [decide_eq_true (show ((s - 1 : Nat) : Int) ≥ 64 by omega), cond_true]
    have w1 : IntKind.wrap .i64 (Int.ofNat s - 65) = ((s - 65 : Nat) : Int) := (wrap_i64 (by simp only [Int.ofNat_eq_natCast]; omega) (by simp only [Int.ofNat_eq_natCast]; omega)).trans (by simp only [Int.ofNat_eq_natCast]; omega)
    have w2 : min (Int.toNat ((s - 65 : Nat) : Int)) 64 = s - 65 := by rw [Int.toNat_natCast]; omega
    rw [w1, u (s - 65) (by omega), nn, cond_true, w2, Int.one_mul]
    have p : (2 : Int) ^ (s - 1) = 2 ^ (s - 65) * 18446744073709551616 := by
      rw [show (18446744073709551616 : Int) = 2 ^ 64 from rfl, ← Int.pow_add]
      congr 1; omega
    have P0 := pow_pos' (s - 65)
    have w3 : IntKind.wrap .u64 (2 ^ (s - 65)) = 2 ^ (s - 65) := by rw [wrap_u64]; omega
    rw [w3]
    obtain ⟨h2, l2, e2, o2, v2⟩ := ref_plus h l (2 ^ (s - 65)) 0 n o ⟨by omega, by omega, by omega, by omega⟩ (by omega)
    rw [e2, Option.bind_some]
    exact fin h2 l2 o2 (by omega)
  · rw [decide_eq_false (show ¬ ((s - 1 : Nat) : Int) ≥ 64 by omega), cond_false]
    have w2 : min (Int.toNat ((s - 1 : Nat) : Int)) 64 = s - 1 := by rw [Int.toNat_natCast]; omega
    rw [u (s - 1) (by omega), nn, cond_true, w2, Int.one_mul]
    have P0 := pow_pos' (s - 1)
    have PB : (2 : Int) ^ (s - 1) ≤ 9223372036854775808 := by
      have h2 : (2 : Nat) ^ (s - 1) ≤ 2 ^ 63 := Nat.pow_le_pow_right (by decide) (by omega)
      have h3 : ((2 ^ (s - 1) : Nat) : Int) ≤ ((2 ^ 63 : Nat) : Int) := by exact_mod_cast h2
      simpa using h3
    have w3 : IntKind.wrap .u64 (2 ^ (s - 1)) = 2 ^ (s - 1) := by rw [wrap_u64]; omega
    rw [w3]
    obtain ⟨h2, l2, e2, o2, v2⟩ := ref_plus h l 0 (2 ^ (s - 1)) n o ⟨by omega, by omega, by omega, by omega⟩ (by omega)
    rw [e2, Option.bind_some]
    exact fin h2 l2 o2 (by omega)
theorem ref_Mul (a b : Int) (s : Nat) (hit : Bool) (hs : s ≤ 120) : f_AY a b (Int.ofNat s) hit = some (sat (rnd (sat a * sat b) s), hit || over a || over b || over (rnd (sat a * sat b) s)) := by
  unfold f_AY K_AY
  obtain ⟨h, l, n, e, o, v, bd⟩ := ref_mul (sat a) (sat b) (sat_le a) (sat_le b)
  obtain ⟨h', l', e', o', v'⟩ := ref_shifted h l n s hs o (by omega)
  simp only [ref_sat, Option.bind_some, e, e', ref_end h' l' n _ o', v', v]
theorem ref_M (a b : Int) (hit : Bool) : f_AE a b hit = some (sat (rnd (sat a * sat b) 30), hit || over a || over b || over (rnd (sat a * sat b) 30)) := by
  unfold f_AE K_AE
  rw [show (30 : Int) = Int.ofNat 30 from rfl, ref_Mul a b 30 hit (by omega), Option.bind_some]
theorem ref_add (a b : Int) (hit : Bool) : f_AI a b hit = some (sat (sat a + sat b), ((hit || over a) || over b) || over (sat a + sat b)) := by
  unfold f_AI K_AI
  have := sat_le a
  have := sat_le b
  simp only [ref_sat, Option.bind_some, wrap_i64 (n := sat a + sat b) (by omega) (by omega)]
theorem ref_sub (a b : Int) (hit : Bool) : f_Au a b hit = some (sat (sat a - sat b), ((hit || over a) || over b) || over (sat a - sat b)) := by
  unfold f_Au K_Au
  have := sat_le a
  have := sat_le b
  simp only [ref_sat, Option.bind_some, wrap_i64 (n := sat a - sat b) (by omega) (by omega)]
theorem ref_root (h l r : Int) (o : okR h l) (b : h * 18446744073709551616 + l < 170141183460469231731687303715884105728) (hr : isR r (h * 18446744073709551616 + l)) :
    f_Ad h l false = some (r / 18446744073709551616, r % 18446744073709551616) := by
  obtain ⟨o1, o2, o3, o4⟩ := o
  have o := (⟨o1, o2, o3, o4⟩ : okR h l)
  have hV : h * 18446744073709551616 + l = h * 18446744073709551616 + l := rfl
  generalize hVV : h * 18446744073709551616 + l = V at *
  have v0 : 0 ≤ V := by omega
  obtain ⟨q, q0, q1, q2⟩ := sqrt_exI V v0
  have qb : q < 13043817825332782213 := sq_lt q0 (by omega) (by omega)
  have q3 : (q + 1) * (q + 1) = q * q + 2 * q + 1 := by grind
  have r1 : r = if q < V - q * q then q + 1 else q := by
    refine isR_uniq hr ?_
    split
    · rename_i c
      exact ⟨by omega, by omega, Or.inr (by omega)⟩
    · rename_i c
      refine ⟨q0, by omega, ?_⟩
      rcases Int.lt_or_le 0 q with k | k
      · exact Or.inr (by omega)
      · exact Or.inl (by omega)
  unfold f_Ad K_Ad L_Ad_0
  refine loopK_inv (fun t d => ∃ (p c : Int), t ≤ 64 ∧ 0 ≤ p ∧ p = c * 2 ^ t ∧ p * p ≤ V ∧ V < (p + 2 ^ t) * (p + 2 ^ t) ∧ d = (p, (t : Int) - 1, h, l, false)) ?_ 200 64 _ (by omega)
    ⟨0, 0, by omega, by omega, by omega, by omega, by
      have : (2 : Int) ^ 64 = 18446744073709551616 := rfl
      omega, rfl⟩
  rintro t _ k ⟨p, c, t0, p0, pc, p1, p2, rfl⟩ hk
  rcases Nat.eq_zero_or_pos t with z | z
  · subst z
    have e1 : (2 : Int) ^ 0 = 1 := rfl
    rw [e1] at p2
    have pq : p = q := by
      have h1 : p < q + 1 := sq_lt p0 (by omega) (by omega)
      have h2 : q < p + 1 := sq_lt q0 (by omega) (by omega)
      omega
    subst pq
    have g0 : decide (((0 : Nat) : Int) - 1 ≥ 0) = false := by decide
    have pp : 0 ≤ p * p := mul_nn p0 p0
    obtain ⟨u, v, n, e2, o2', e3, e4⟩ := ref_sum h l (p * p / 18446744073709551616) (p * p % 18446744073709551616) false true o ⟨by omega, by omega, by omega, by omega⟩ (by omega)
    have mag : u * 18446744073709551616 + v = V - p * p := by
      obtain ⟨w1, w2, w3, w4⟩ := o2'
      unfold rV at e3
      simp only [Bool.false_eq_true, if_false, if_true] at e3
      cases n <;> simp only [Bool.false_eq_true, if_false, if_true] at e3 <;> omega
    obtain ⟨w1, w2, w3, w4⟩ := o2'
    have w5 : IntKind.wrap .u64 (p + 1) = p + 1 := by rw [wrap_u64]; omega
    have ne : (p + 1 == 0) = false := by rw [beq_eq_false_iff_ne]; omega
    simp only [S_Ad_0, g0, cond_false, ref_product p p p0 (by omega) p0 (by omega), Option.bind_some, e2, w5, ne]
    by_cases cc : p < V - p * p
    · rw [if_pos cc] at r1
      by_cases c1 : u > 0
      · rw [decide_eq_true c1, cond_true, r1]
        refine congrArg some (Prod.ext ?_ ?_) <;> simp only <;> omega
      · rw [decide_eq_false c1, cond_false, decide_eq_true (show v > p by omega), cond_true, r1]
        refine congrArg some (Prod.ext ?_ ?_) <;> simp only <;> omega
    · rw [if_neg cc] at r1
      rw [decide_eq_false (show ¬ u > 0 by omega), cond_false, decide_eq_false (show ¬ v > p by omega), cond_false, r1]
      refine congrArg some (Prod.ext ?_ ?_) <;> simp only <;> omega
  · obtain ⟨m, rfl⟩ : ∃ m, t = m + 1 := ⟨t - 1, by omega⟩
    have P2 : (2 : Int) ^ (m + 1) = 2 ^ m * 2 := Int.pow_succ _ _
    have P0 := pow_pos' m
    have PB : (2 : Int) ^ m ≤ 2 ^ 63 := pow_le_pow (by omega)
    have PBv : (2 : Int) ^ 63 = 9223372036854775808 := rfl
    have at0 : ((m + 1 : Nat) : Int) - 1 = (m : Int) := by omega
    rw [at0]
    have g0 : decide ((m : Int) ≥ 0) = true := decide_eq_true (by omega)
    have g1 : IntKind.wrap .i64 ((m : Int) - 1) = (m : Int) - 1 := wrap_i64 (by omega) (by omega)
    have g2 : IntKind.wrap .u64 (m : Int) = (m : Int) := by rw [wrap_u64]; omega
    have g3 : (!decide ((m : Int) < 0)) = true := by rw [decide_eq_false (by omega)]; rfl
    have g4 : min (Int.toNat (m : Int)) 64 = m := by rw [Int.toNat_natCast]; omega
    have g5 : IntKind.wrap .u64 (1 * 2 ^ m) = 2 ^ m := by rw [Int.one_mul, wrap_u64]; omega
    have pb : p ≤ 13043817825332782212 := by
      have : p < 13043817825332782213 := sq_lt p0 (by omega) (by omega)
      omega
    have pm : p % 2 ^ (m + 1) = 0 := by rw [pc]; exact Int.mul_emod_left _ _
    -- what stands at the place and above is a multiple: it leaves room for the bit
    have room : p + 2 ^ m < 18446744073709551616 := by
      rcases Nat.lt_or_ge m 62 with c1 | c1
      · have : (2 : Int) ^ m ≤ 2 ^ 61 := pow_le_pow (by omega)
        have : (2 : Int) ^ 61 = 2305843009213693952 := rfl
        omega
      · rcases Nat.lt_or_ge m 63 with c2 | c2
        · obtain rfl : m = 62 := by omega
          have : (2 : Int) ^ 62 = 4611686018427387904 := rfl
          omega
        · obtain rfl : m = 63 := by omega
          have e63 : (2 : Int) ^ (63 + 1) = 18446744073709551616 := rfl
          have : p = 0 := by
            rw [e63] at pc
            omega
          omega
    have orr : IntKind.wrap .u64 (Int.ofNat (BitVec.toNat (BitVec.ofInt 64 p ||| BitVec.ofInt 64 (2 ^ m)))) = p + 2 ^ m := by
      rw [BitVec.or_comm, or_apart _ _ (m + 1) (by omega) (by omega) p0 (by omega) (by omega) pm, wrap_u64]; omega
    have xx : 0 ≤ (p + 2 ^ m) * (p + 2 ^ m) := mul_nn (by omega) (by omega)
    have e3' : (p + 2 ^ m) * (p + 2 ^ m) / 18446744073709551616 * 18446744073709551616 + (p + 2 ^ m) * (p + 2 ^ m) % 18446744073709551616 = (p + 2 ^ m) * (p + 2 ^ m) := by omega
    simp only [S_Ad_0, g0, g1, g2, g3, g4, g5, cond_true, orr, ref_product (p + 2 ^ m) (p + 2 ^ m) (by omega) room (by omega) room, Option.bind_some,
      ref_less h l _ _ false false o3 o4 (show 0 ≤ (p + 2 ^ m) * (p + 2 ^ m) % 18446744073709551616 by omega) (show (p + 2 ^ m) * (p + 2 ^ m) % 18446744073709551616 < 18446744073709551616 by omega), hVV, e3']
    have at1 : (m : Int) - 1 = ((m : Nat) : Int) - 1 := rfl
    rw [P2] at pc p2
    by_cases cc : V < (p + 2 ^ m) * (p + 2 ^ m)
    · rw [decide_eq_true cc]
      simp only [Bool.not_true, cond_false]
      exact hk m _ (by omega) ⟨p, c * 2, by omega, p0, by rw [pc]; grind, p1, cc, rfl⟩
    · rw [decide_eq_false cc]
      simp only [Bool.not_false, cond_true]
      refine hk m _ (by omega) ⟨p + 2 ^ m, c * 2 + 1, by omega, by omega, by rw [pc]; grind, by omega, ?_, rfl⟩
      have : p + 2 ^ m + 2 ^ m = p + 2 ^ m * 2 := by omega
      rw [this]; exact p2
theorem ref_D (a b : Int) (hit : Bool) (hb : 0 < sat b) : f_BO a b hit = some (sat (rdq (sat a * 1073741824) (sat b)), ((hit || over a) || over b) || over (rdq (sat a * 1073741824) (sat b))) := by
  unfold f_BO K_BO f_Ba K_Ba
  have sa := sat_le a
  have sb := sat_le b
  have hz : (sat b == 0) = false := by rw [beq_eq_false_iff_ne]; omega
  have hneg : decide (sat b < 0) = false := decide_eq_false (by omega)
  have hn : ∀ n : Bool, (!n == false) = n := fun n => by cases n <;> rfl
  have c1 : decide ((30 : Int) ≥ 64) = false := by decide
  have c2 : decide ((30 : Int) > 0) = true := by decide
  have c3 : (!decide (IntKind.wrap .u64 (IntKind.wrap .i64 (64 - 30)) < 0)) = true := by decide
  have c4 : (!decide (IntKind.wrap .u64 30 < 0)) = true := by decide
  have c5 : (2 : Int) ^ min (Int.toNat (IntKind.wrap .u64 (IntKind.wrap .i64 (64 - 30)))) 64 = 17179869184 := by decide
  have c6 : (2 : Int) ^ min (Int.toNat (IntKind.wrap .u64 30)) 64 = 1073741824 := by decide
  obtain ⟨m, hm, m0, m1, m2⟩ : ∃ m, (if sat a < 0 then -sat a else sat a) = m ∧ 0 ≤ m ∧ m ≤ 1152921504606846976 ∧ (sat a < 0 → m = -sat a) ∧ (¬ sat a < 0 → m = sat a) := by
    by_cases c : sat a < 0
    · exact ⟨_, rfl, by rw [if_pos c]; omega, by rw [if_pos c]; omega, fun _ => if_pos c, fun h => absurd c h⟩
    · exact ⟨_, rfl, by rw [if_neg c]; omega, by rw [if_neg c]; omega, fun h => absurd h c, fun _ => if_neg c⟩
  have e1 : Int.fdiv m 17179869184 = m / 17179869184 := fdiv_pos _ _ (by omega)
  have e2 : IntKind.wrap .u64 (m * 1073741824) = m * 1073741824 % 18446744073709551616 := wrap_u64 _
  have o1 : okR (m / 17179869184) (m * 1073741824 % 18446744073709551616) := ⟨by omega, by omega, by omega, by omega⟩
  have o2 : m / 17179869184 * 18446744073709551616 + m * 1073741824 % 18446744073709551616 = m * 1073741824 := by omega
  obtain ⟨h', l', e4, o4, e5⟩ := ref_divided (m / 17179869184) (m * 1073741824 % 18446744073709551616) (decide (sat a < 0)) (sat b) o1 (by omega) hb (by omega)
  simp only [ref_sat, Option.bind_some, hz, cond_false, cond_true, ref_size (sat a) sa.1 sa.2, ref_size (sat b) sb.1 sb.2, if_neg (show ¬ sat b < 0 by omega), hneg, hn, c1, c2, c3, c4, c5, c6, hm, e1, e2, e4, ref_end h' l' _ _ o4]
  have hv : rV h' l' (decide (sat a < 0)) = rdq (sat a * 1073741824) (sat b) := by
    unfold rV rdq mgq
    rw [hneg, if_neg (show ¬ sat b < 0 by omega), e5, o2]
    by_cases c : sat a < 0
    · have d : sat a * 1073741824 < 0 := by omega
      rw [decide_eq_true c, if_pos rfl, decide_eq_true d, if_neg (by decide), if_pos d, m2.1 c]
      congr 2; omega
    · have d : ¬ sat a * 1073741824 < 0 := by omega
      rw [decide_eq_false c, if_neg (by decide), decide_eq_false d, if_pos rfl, if_neg d, m2.2 c]
  rw [hv]
theorem ref_sqrt (a : Int) (hit : Bool) (h0 : 0 ≤ a) (h1 : a ≤ 1152921504606846976) (r : Int) (hr : isR r (a * 1073741824)) : ∃ u, f_BY a hit = some (sat r, u) := by
  unfold f_BY K_BY
  have sa : sat a = a := (sat_id (x := a) (by omega)).1
  have e1 : Int.fdiv a 17179869184 = a / 17179869184 := fdiv_pos _ _ (by omega)
  have e2 : IntKind.wrap .u64 (a * 1073741824) = a * 1073741824 % 18446744073709551616 := wrap_u64 _
  have o1 : okR (a / 17179869184) (a * 1073741824 % 18446744073709551616) := ⟨by omega, by omega, by omega, by omega⟩
  have o2 : a / 17179869184 * 18446744073709551616 + a * 1073741824 % 18446744073709551616 = a * 1073741824 := by omega
  have e3 := ref_root (a / 17179869184) (a * 1073741824 % 18446744073709551616) r o1 (by omega) (by rw [o2]; exact hr)
  obtain ⟨r0, r1, r2⟩ := hr
  have rb : r < 340282366920938463463374607431768211456 := by
    refine Int.not_le.mp fun h => ?_
    have x1 := Int.mul_nonneg (show 0 ≤ r - 340282366920938463463374607431768211456 by omega) (show 0 ≤ r by omega)
    have x2 : (r - 340282366920938463463374607431768211456) * r = r * r - 340282366920938463463374607431768211456 * r := by grind
    omega
  have o3 : okR (r / 18446744073709551616) (r % 18446744073709551616) := ⟨by omega, by omega, by omega, by omega⟩
  have e4 : rV (r / 18446744073709551616) (r % 18446744073709551616) false = r := by
    unfold rV
    rw [if_neg (by decide)]; omega
  simp only [ref_sat, sa, Option.bind_some, decide_eq_false (show ¬ a < 0 by omega), cond_false, ref_size a (by omega) h1, if_neg (show ¬ a < 0 by omega), e1, e2, e3, ref_end _ _ false _ o3, e4]
  exact ⟨_, rfl⟩
end Go.Proofs.Ytcalippagaaikaa
set_option maxRecDepth 100000
set_option maxHeartbeats 4000000
set_option linter.unusedVariables false
set_option linter.unusedSimpArgs false
namespace Go.Proofs.Ytcalippagaaikaa
open Go.Ab
def Tot {α : Type} (x : Option α) : Prop := ∃ a, x = some a
theorem tot_some {α : Type} (a : α) : Tot (some a) := ⟨a, rfl⟩
theorem tot_eq {α : Type} {x : Option α} {a : α} (h : x = some a) : Tot x := ⟨a, h⟩
theorem tot_bind {α β : Type} {x : Option α} {f : α → Option β} (h : Tot x) (g : ∀ a, Tot (f a)) : Tot (x.bind f) := by
  obtain ⟨a, rfl⟩ := h; exact g a
theorem tot_cond {α : Type} (b : Bool) {x y : Option α} (hx : Tot x) (hy : Tot y) : Tot (bif b then x else y) := by cases b <;> assumption
theorem loopK_tot {D X ρ : Type} {s : D → (D → Option ρ) → (X → Option ρ) → Option ρ} {k : X → Option ρ} (Inv : Nat → D → Prop)
    (h : ∀ t d c, Inv t d → (∀ t' d', t' < t → Inv t' d' → Tot (c d')) → Tot (s d c k)) : ∀ (fuel t : Nat) (d : D), t < fuel → Inv t d → Tot (loopK s fuel d k)
  | 0, t, d, hf, hd => by omega
  | fuel + 1, t, d, hf, hd => by
    rw [loopK_succ]
    exact h t d _ hd fun t' d' ht hd' => loopK_tot Inv h fuel t' d' (by omega) hd'
theorem t_sat (x : Int) (hit : Bool) : Tot (f_AB x hit) := tot_eq (acc_sat x hit)
theorem t_mul30 (a b : Int) (hit : Bool) : Tot (f_Ag a b 30 hit) := tot_eq (acc_mul a b 30 hit (by omega))
theorem t_m (a b : Int) (hit : Bool) : Tot (f_Af a b hit) := by
  unfold f_Af K_Af
  exact tot_bind (t_mul30 _ _ _) fun _ => tot_some _
theorem t_series (x : Int) (n : Nat) (hit : Bool) (P : Nat → Int) (w : Bool) (h1 : 1 ≤ n) (h2 : n ≤ 150) : Tot (f_AP x n hit P w) := by
  unfold f_AP K_AP
  have e1 : inR 0 n = true := by simp only [inR, Bool.and_eq_true, decide_eq_true_eq]; omega
  have e2 : inRe 1 n = true := by simp only [inRe, Bool.and_eq_true, decide_eq_true_eq]; omega
  rw [e1, cond_true, e2, cond_true]
  unfold L_AP_0
  refine loopK_tot (fun t d => ∃ (i : Nat) (v : Int) (b : Bool), i + t + 1 = n ∧ d = (x, v, n - 1, w && true, Int.ofNat (n - 1), Int.ofNat i, b, n, P)) ?_ 200 (n - 1) _ (by omega)
    ⟨0, P 0, hit, by omega, by cases w <;> rfl⟩
  rintro t _ c ⟨i, v, b, hi, rfl⟩ hc
  unfold S_AP_0
  by_cases z : t = 0
  · have e : decide (Int.ofNat i < Int.ofNat (n - 1)) = false := decide_eq_false (by simp only [Int.ofNat_eq_natCast]; omega)
    simp only [e, cond_false]
    exact tot_some _
  · have e : decide (Int.ofNat i < Int.ofNat (n - 1)) = true := decide_eq_true (by simp only [Int.ofNat_eq_natCast]; omega)
    have e3 : inR (Int.ofNat i) (n - 1) = true := by simp only [inR, Bool.and_eq_true, decide_eq_true_eq, Int.ofNat_eq_natCast]; omega
    have e4 : IntKind.wrap .i64 (Int.ofNat i + 1) = Int.ofNat (i + 1) := by
      rw [wrap_i64 (by simp only [Int.ofNat_eq_natCast]; omega) (by simp only [Int.ofNat_eq_natCast]; omega)]; rfl
    simp only [e, cond_true, e3, e4]
    refine tot_bind (t_m _ _ _) fun a => tot_bind (tot_eq (acc_add 2 (by omega) _ _ _)) fun a' => ?_
    exact hc (t - 1) _ (by omega) ⟨i + 1, _, _, by omega, rfl⟩
theorem t_wrap (x : Int) : Tot (f_At x) := by
  unfold f_At K_At
  exact tot_cond _ (tot_some _) (tot_cond _ (tot_some _) (tot_some _))
theorem t_abs (x : Int) : Tot (f_BJ x) := by
  unfold f_BJ K_BJ
  exact tot_cond _ (tot_some _) (tot_cond _ (tot_some _) (tot_cond _ (tot_some _) (tot_some _)))
theorem t_sin (x : Int) (hit : Bool) : Tot (f_Aq x hit) := by
  unfold f_Aq K_Aq
  repeat' with_reducible first
    | exact tot_some _
    | exact t_sat _ _
    | exact t_wrap _
    | exact t_abs _
    | exact t_m _ _ _
    | exact t_series _ _ _ _ _ (by decide) (by decide)
    | refine tot_bind ?_ fun _ => ?_
    | refine tot_cond _ ?_ ?_
theorem t_cos (x : Int) (hit : Bool) : Tot (f_BK x hit) := by
  unfold f_BK K_BK
  exact tot_bind (t_wrap _) fun _ => tot_bind (t_sin _ _) fun _ => tot_some _
theorem t_good (a b c : Int) : Tot (f_AH a b c) := by
  unfold f_AH K_AH
  repeat' with_reducible first
    | exact tot_some _
    | refine tot_cond _ ?_ ?_
end Go.Proofs.Ytcalippagaaikaa
set_option maxRecDepth 100000
set_option maxHeartbeats 4000000
set_option linter.unusedVariables false
set_option linter.unusedSimpArgs false
namespace Go.Proofs.Ytcalippagaaikaa
open Go.Ab
theorem satI {x : Int} (h : -1152921504606846976 ≤ x ∧ x ≤ 1152921504606846976) : sat x = x := by
  unfold sat; rw [if_neg (by omega), if_neg (by omega)]
def GoodP (a b c : Int) : Prop := -900000000 ≤ a ∧ a ≤ 900000000 ∧ -1800000000 ≤ b ∧ b ≤ 1800000000 ∧ -100000000 ≤ c ∧ c ≤ 100000000
theorem good_yes {a b c : Int} (h : GoodP a b c) : f_AH a b c = some true := by
  obtain ⟨h1, h2, h3, h4, h5, h6⟩ := h
  unfold f_AH K_AH
  rw [decide_eq_true (show a ≥ -900000000 from h1), decide_eq_true h2, decide_eq_true (show b ≥ -1800000000 from h3), decide_eq_true h4, decide_eq_true (show c ≥ -100000000 from h5), decide_eq_true h6]
  rfl
theorem good_p {a b c : Int} (h : f_AH a b c = some true) : GoodP a b c := by
  unfold f_AH K_AH at h
  unfold GoodP
  by_cases c1 : a ≥ -900000000
  · by_cases c2 : a ≤ 900000000
    · by_cases c3 : b ≥ -1800000000
      · by_cases c4 : b ≤ 1800000000
        · by_cases c5 : c ≥ -100000000
          · by_cases c6 : c ≤ 100000000
            · omega
            · simp [c1, c2, c3, c4, c5, c6] at h
          · simp [c1, c2, c3, c4, c5] at h
        · simp [c1, c2, c3, c4] at h
      · simp [c1, c2, c3] at h
    · simp [c1, c2] at h
  · simp [c1] at h
def Post {α : Type} (Q : α → Prop) (x : Option α) : Prop := ∀ r, x = some r → Q r
theorem post_some {α : Type} {Q : α → Prop} {a : α} (h : Q a) : Post Q (some a) := by rintro r ⟨⟩; exact h
theorem post_bind {α β : Type} {Q : β → Prop} {x : Option α} {f : α → Option β} (g : ∀ a, Post Q (f a)) : Post Q (x.bind f) := by
  cases x with
  | none => intro r h; cases h
  | some a => exact g a
theorem post_cond {α : Type} {Q : α → Prop} (b : Bool) {x y : Option α} (hx : Post Q x) (hy : Post Q y) : Post Q (bif b then x else y) := by cases b <;> assumption
def redL (d : Int) : Int := if d > 1800000000 then d - 3600000000 else if d ≤ -1800000000 then d + 3600000000 else d
end Go.Proofs.Ytcalippagaaikaa
set_option maxRecDepth 100000
set_option maxHeartbeats 4000000
set_option linter.unusedVariables false
set_option linter.unusedSimpArgs false
namespace Go.Proofs.Ytcalippagaaikaa
open Go.Ab
theorem rnd30_bd (v M : Int) (h1 : -(M * 1073741824) ≤ v) (h2 : v ≤ M * 1073741824) : -M ≤ rnd v 30 ∧ rnd v 30 ≤ M := by
  unfold rnd half
  rw [if_neg (by omega : ¬ (30 : Nat) = 0), show (2 : Int) ^ (30 - 1) = 536870912 from rfl, show (2 : Int) ^ 30 = 1073741824 from rfl]
  split <;> omega
theorem rnd30_lo (v M : Int) (h1 : M * 1073741824 ≤ v) (h0 : 0 ≤ M) : M ≤ rnd v 30 := by
  unfold rnd half
  rw [if_neg (by omega : ¬ (30 : Nat) = 0), show (2 : Int) ^ (30 - 1) = 536870912 from rfl, show (2 : Int) ^ 30 = 1073741824 from rfl]
  split <;> omega
theorem rnd10_bd (v M : Int) (h1 : -(M * 1024) ≤ v) (h2 : v ≤ M * 1024) : -M ≤ rnd v 10 ∧ rnd v 10 ≤ M := by
  unfold rnd half
  rw [if_neg (by omega : ¬ (10 : Nat) = 0), show (2 : Int) ^ (10 - 1) = 512 from rfl, show (2 : Int) ^ 10 = 1024 from rfl]
  split <;> omega
theorem qdq_bd (V D M : Int) (d : 0 < D) (v : 0 ≤ V) (h : V ≤ M * D) : 0 ≤ qdq V D ∧ qdq V D ≤ M := by
  unfold qdq
  have e := Int.mul_ediv_add_emod V D
  have r0 := Int.emod_nonneg V (show D ≠ 0 by omega)
  have r1 := Int.emod_lt_of_pos V d
  have q0 := Int.ediv_nonneg v (Int.le_of_lt d)
  have q1 : V / D ≤ M := Int.ediv_le_of_le_mul d h
  refine ⟨by split <;> omega, ?_⟩
  by_cases c : V / D = M
  · have : V % D = 0 := by
      rw [c] at e
      have : D * M = M * D := Int.mul_comm _ _
      omega
    rw [if_pos (by omega)]; omega
  · split <;> omega
theorem rdq_bd (a d M : Int) (h : 0 < d) (h1 : -(M * d) ≤ a) (h2 : a ≤ M * d) : -M ≤ rdq a d ∧ rdq a d ≤ M := by
  have D : mgq d = d := by unfold mgq; rw [if_neg (by omega)]
  have A : mgq a ≤ M * d := by unfold mgq; split <;> omega
  have b := qdq_bd (mgq a) d M h (mgq_nn a) A
  unfold rdq
  rw [D]
  split <;> omega
theorem rdq_nn (a d : Int) (h : 0 < d) (a0 : 0 ≤ a) : 0 ≤ rdq a d := by
  have D : mgq d = d := by unfold mgq; rw [if_neg (by omega)]
  unfold rdq
  rw [D, if_pos (by rw [decide_eq_false (by omega), decide_eq_false (by omega)])]
  unfold qdq
  have := Int.ediv_nonneg (mgq_nn a) (Int.le_of_lt h)
  split <;> omega
theorem mulB (x y A B : Int) (h1 : -A ≤ x) (h2 : x ≤ A) (h3 : -B ≤ y) (h4 : y ≤ B) : -(A * B) ≤ x * y ∧ x * y ≤ A * B := by
  have a := Int.mul_nonneg (show 0 ≤ A - x by omega) (show 0 ≤ B + y by omega)
  have b := Int.mul_nonneg (show 0 ≤ A + x by omega) (show 0 ≤ B - y by omega)
  have c := Int.mul_nonneg (show 0 ≤ A - x by omega) (show 0 ≤ B - y by omega)
  have d := Int.mul_nonneg (show 0 ≤ A + x by omega) (show 0 ≤ B + y by omega)
  have e1 : (A - x) * (B + y) = A * B + A * y - x * B - x * y := by grind
  have e2 : (A + x) * (B - y) = A * B - A * y + x * B - x * y := by grind
  have e3 : (A - x) * (B - y) = A * B - A * y - x * B + x * y := by grind
  have e4 : (A + x) * (B + y) = A * B + A * y + x * B + x * y := by grind
  omega
def Unit1 (x : Int) : Prop := -1073741824 ≤ x ∧ x ≤ 1073741824
theorem clampB (v : Int) : Unit1 (if 1073741824 < if -1073741824 > v then -1073741824 else v then 1073741824 else if -1073741824 > v then -1073741824 else v) := by
  unfold Unit1
  by_cases c : -1073741824 > v
  · simp only [if_pos c]; split <;> omega
  · simp only [if_neg c]; split <;> omega
theorem sin_bd (x : Int) (hit : Bool) : Post (fun r => Unit1 r.1) (f_Aq x hit) := by
  unfold f_Aq K_Aq
  repeat' with_reducible first
    | refine post_some (clampB _)
    | refine post_bind fun _ => ?_
    | refine post_cond _ ?_ ?_
theorem cos_bd (x : Int) (hit : Bool) : Post (fun r => Unit1 r.1) (f_BK x hit) := by
  unfold f_BK K_BK
  obtain ⟨w, hw⟩ := t_wrap x
  rw [hw, Option.bind_some]
  obtain ⟨s, hs⟩ := t_sin (IntKind.wrap .i64 (1686629713 + w)) hit
  have b := sin_bd _ _ s hs
  rw [hs, Option.bind_some]
  exact post_some b
theorem sqrt_eq (a : Int) (hit : Bool) (h0 : 0 ≤ a) (h1 : a ≤ 1152921504606846976) : ∃ r u, isR r (a * 1073741824) ∧ f_BU a hit = some (sat r, u) := by
  unfold f_BU K_BU
  rw [acc_sat, Option.bind_some, satI ⟨by omega, h1⟩]
  simp only [decide_eq_false (show ¬ a < 0 by omega), cond_false]
  obtain ⟨h, l, v, e1, e2, e3, e4, e5⟩ := wide_shift a 30 (by omega) (by omega) (by omega)
  have e1' : f_Aw a 30 = some (h, l, v) := e1
  have P : (2 : Int) ^ 30 = 1073741824 := by decide
  rw [P] at e3 e4
  have hv := e4 (e3.2 (by omega))
  have hh : 0 ≤ h := by
    obtain ⟨o1, o2, o3, o4⟩ := e2
    have : h * 18446744073709551616 + l = a * 1073741824 := hv
    omega
  obtain ⟨r, hr⟩ := isR_ex (vW h l) (by omega)
  rw [e1', Option.bind_some, root_end_eq h l r _ e2 hh hr, Option.bind_some]
  exact ⟨r, _, hv ▸ hr, rfl⟩
theorem isR_bd (r q : Int) (hr : isR r (q * 1073741824)) (q0 : 0 ≤ q) (q1 : q ≤ 1073741824) : q ≤ r ∧ r ≤ 1073741824 := by
  obtain ⟨r0, r1, r2⟩ := hr
  constructor
  · refine Int.not_lt.mp ?_
    intro h
    have a := Int.mul_nonneg (show 0 ≤ q - 1 - r by omega) (show 0 ≤ r by omega)
    have b := Int.mul_nonneg (show 0 ≤ q by omega) (show 0 ≤ q - 1 - r by omega)
    have c := Int.mul_nonneg (show 0 ≤ q by omega) (show 0 ≤ 1073741824 - q by omega)
    have e1 : (q - 1 - r) * r = q * r - r - r * r := by grind
    have e2 : q * (q - 1 - r) = q * q - q - q * r := by grind
    have e3 : q * (1073741824 - q) = q * 1073741824 - q * q := by grind
    omega
  · refine Int.not_lt.mp ?_
    intro h
    rcases r2 with z | z
    · omega
    · have a := Int.mul_nonneg (show 0 ≤ r - 1 - 1073741824 by omega) (show 0 ≤ r by omega)
      have e1 : (r - 1 - 1073741824) * r = r * r - r - 1073741824 * r := by grind
      omega
end Go.Proofs.Ytcalippagaaikaa
set_option maxRecDepth 100000
set_option maxHeartbeats 4000000
set_option linter.unusedVariables false
set_option linter.unusedSimpArgs false
namespace Go.Proofs.Ytcalippagaaikaa
open Go.Ab
theorem new1_eq (a b : Int) (hit : Bool) : ∃ u, f_BL a b hit = some (sat (rnd (sat a * sat b) 30), u) := by
  unfold f_BL K_BL
  have m : f_Ag a b 30 hit = _ := acc_mul a b 30 hit (by omega)
  rw [m, Option.bind_some]
  exact ⟨_, rfl⟩
theorem div30_eq (a b : Int) (hit : Bool) (nz : sat b ≠ 0) : ∃ u, f_BN a b 30 hit = some (sat (rdq (sat a * 1073741824) (sat b)), u) := by
  have m : f_BN a b 30 hit = _ := acc_div a b 30 hit (by omega) nz
  exact ⟨_, m⟩
theorem muldiv_eq (a b d : Int) (hit : Bool) (nz : sat d ≠ 0) : ∃ u, f_AK a b d hit = some (sat (rdq (sat a * sat b) (sat d)), u) := ⟨_, acc_muldiv a b d hit nz⟩
theorem new_bd (a b c : Int) : Post (fun r => r = Sum.inl () ∨ (GoodP a b c ∧ ∃ n e, r = Sum.inr (a, b, c, n, e) ∧ 0 ≤ n ∧ n ≤ 13000000000 ∧ -13000000000 ≤ e ∧ e ≤ 13000000000)) (f_Ap a b c) := by
  unfold f_Ap K_Ap
  obtain ⟨g, hg⟩ := t_good a b c
  rw [hg, Option.bind_some]
  cases g with
  | false => exact post_some (Or.inl rfl)
  | true =>
    have G := good_p hg
    rw [Bool.not_true, cond_false]
    refine post_cond _ (post_some (Or.inl rfl)) (post_cond _ (post_some (Or.inl rfl)) ?_)
    refine post_bind fun d => ?_
    obtain ⟨⟨s, us⟩, hs⟩ := t_sin d.1 d.2
    have bs : Unit1 s := sin_bd _ _ _ hs
    rw [hs, Option.bind_some]
    obtain ⟨⟨k, uk⟩, hk⟩ := t_cos d.1 us
    have bk : Unit1 k := cos_bd _ _ _ hk
    rw [hk, Option.bind_some]
    unfold Unit1 at bs bk
    simp only
    -- the sine's square
    obtain ⟨u1, h1⟩ := new1_eq s s uk
    have ss : sat s = s := satI (by omega)
    rw [h1, Option.bind_some, ss]
    simp only
    have m1 := mulB s s 1073741824 1073741824 bs.1 bs.2 bs.1 bs.2
    have m1n : 0 ≤ s * s := by
      rcases Int.lt_or_le s 0 with z | z
      · have := Int.mul_nonneg (show 0 ≤ -s by omega) (show 0 ≤ -s by omega)
        rwa [Int.neg_mul_neg] at this
      · exact Int.mul_nonneg z z
    have b1 := rnd30_bd (s * s) 1073741824 m1.1 m1.2
    have b1n := rnd30_lo (s * s) 0 (by omega) (by omega)
    generalize rnd (s * s) 30 = p at b1 b1n
    rw [satI (x := p) (by omega)]
    -- times e2
    obtain ⟨u2, h2⟩ := new1_eq 7188036 p u1
    rw [h2, Option.bind_some, show sat 7188036 = 7188036 from rfl, satI (x := p) (by omega)]
    simp only
    have b2 := rnd30_bd (7188036 * p) 7188036 (by omega) (by omega)
    have b2n := rnd30_lo (7188036 * p) 0 (by omega) (by omega)
    generalize rnd (7188036 * p) 30 = t at b2 b2n
    rw [satI (x := t) (by omega), wrap_i64 (n := 1073741824 - t) (by omega) (by omega)]
    generalize hq : (1073741824 : Int) - t = q
    -- the root
    obtain ⟨w, u3, hw, h3⟩ := sqrt_eq q u2 (by omega) (by omega)
    have bw := isR_bd w q hw (by omega) (by omega)
    rw [h3, Option.bind_some, satI (x := w) (by omega)]
    simp only
    -- across
    have sw : sat w = w := satI (by omega)
    obtain ⟨u4, h4⟩ := div30_eq 6531212288 w u3 (by omega)
    rw [h4, Option.bind_some, show sat 6531212288 = 6531212288 from rfl, sw]
    simp only
    have b4 := rdq_bd (6531212288 * 1073741824) w 6600000000 (by omega) (by omega) (by omega)
    have b4n := rdq_nn (6531212288 * 1073741824) w (by omega) (by omega)
    generalize rdq (6531212288 * 1073741824) w = e at b4 b4n
    rw [satI (x := e) (by omega)]
    -- along
    obtain ⟨u5, h5⟩ := new1_eq 6531212288 1066553788 u4
    rw [h5, Option.bind_some, show sat 6531212288 = 6531212288 from rfl, show sat 1066553788 = 1066553788 from rfl]
    simp only
    have b5 := rnd30_bd (6531212288 * 1066553788) 6531212288 (by omega) (by omega)
    have b5n := rnd30_lo (6531212288 * 1066553788) 0 (by omega) (by omega)
    generalize rnd (6531212288 * 1066553788) 30 = y at b5 b5n
    rw [satI (x := y) (by omega)]
    obtain ⟨u6, h6⟩ := new1_eq q w u5
    rw [h6, Option.bind_some, satI (x := q) (by omega), sw]
    simp only
    have m6 := mulB q w 1073741824 1073741824 (by omega) (by omega) (by omega) (by omega)
    have m6n : 1066553788 * 1066553788 ≤ q * w := by
      have x1 := Int.mul_nonneg (show 0 ≤ q - 1066553788 by omega) (show 0 ≤ w by omega)
      have x2 : (q - 1066553788) * w = q * w - 1066553788 * w := by grind
      omega
    have b6 := rnd30_bd (q * w) 1073741824 m6.1 m6.2
    have b6n := rnd30_lo (q * w) 1059000000 (by omega) (by omega)
    generalize rnd (q * w) 30 = z at b6 b6n
    rw [satI (x := z) (by omega)]
    have sz : sat z = z := satI (by omega)
    obtain ⟨u7, h7⟩ := div30_eq y z u6 (by omega)
    rw [h7, Option.bind_some, satI (x := y) (by omega), sz]
    simp only
    have b7 := rdq_bd (y * 1073741824) z 6700000000 (by omega) (by omega) (by omega)
    have b7n := rdq_nn (y * 1073741824) z (by omega) (by omega)
    generalize rdq (y * 1073741824) z = o at b7 b7n
    rw [satI (x := o) (by omega)]
    obtain ⟨u8, h8⟩ := muldiv_eq o 3373259426 1800000000 u7 (by decide)
    rw [h8, Option.bind_some, satI (x := o) (by omega), show sat 3373259426 = 3373259426 from rfl, show sat 1800000000 = 1800000000 from rfl]
    simp only
    have b8 := rdq_bd (o * 3373259426) 1800000000 13000000000 (by omega) (by omega) (by omega)
    have b8n := rdq_nn (o * 3373259426) 1800000000 (by omega) (by omega)
    generalize rdq (o * 3373259426) 1800000000 = no at b8 b8n
    rw [satI (x := no) (by omega)]
    obtain ⟨u9, h9⟩ := new1_eq e k u8
    rw [h9, Option.bind_some, satI (x := e) (by omega), satI (x := k) (by omega)]
    simp only
    have m9 := mulB e k 6600000000 1073741824 (by omega) (by omega) (by omega) (by omega)
    have b9 := rnd30_bd (e * k) 6600000000 m9.1 m9.2
    generalize rnd (e * k) 30 = ek at b9
    rw [satI (x := ek) (by omega)]
    obtain ⟨u10, h10⟩ := muldiv_eq ek 3373259426 1800000000 u9 (by decide)
    rw [h10, Option.bind_some, satI (x := ek) (by omega), show sat 3373259426 = 3373259426 from rfl, show sat 1800000000 = 1800000000 from rfl]
    have b10 := rdq_bd (ek * 3373259426) 1800000000 13000000000 (by omega) (by omega) (by omega)
    generalize rdq (ek * 3373259426) 1800000000 = ea at b10
    refine post_some (Or.inr ⟨G, no, ea, ?_, b8n, b8.2, b10.1, b10.2⟩)
    rw [satI (x := ea) (by omega)]
end Go.Proofs.Ytcalippagaaikaa
set_option maxRecDepth 100000
set_option maxHeartbeats 4000000
set_option linter.unusedVariables false
set_option linter.unusedSimpArgs false
namespace Go.Proofs.Ytcalippagaaikaa
open Go.Ab
theorem loopK_post {D X ρ : Type} {Q : ρ → Prop} {s : D → (D → Option ρ) → (X → Option ρ) → Option ρ} {k : X → Option ρ} (Inv : Nat → D → Prop)
    (h : ∀ t d c, Inv t d → (∀ t' d', t' < t → Inv t' d' → Post Q (c d')) → Post Q (s d c k)) : ∀ (fuel t : Nat) (d : D), t < fuel → Inv t d → Post Q (loopK s fuel d k)
  | 0, t, d, hf, hd => by omega
  | fuel + 1, t, d, hf, hd => by
    rw [loopK_succ]
    exact h t d _ hd fun t' d' ht hd' => loopK_post Inv h fuel t' d' (by omega) hd'
theorem m_eq (a b : Int) (hit : Bool) : ∃ u, f_Af a b hit = some (sat (rnd (sat a * sat b) 30), u) := by
  unfold f_Af K_Af
  have m : f_Ag a b 30 hit = _ := acc_mul a b 30 hit (by omega)
  rw [m, Option.bind_some]
  exact ⟨_, rfl⟩
theorem series_post (x : Int) (n : Nat) (hit : Bool) (P : Nat → Int) (w : Bool) (Lo Hi : Nat → Int) (h1 : 1 ≤ n) (h2 : n ≤ 150) (h0 : Lo 0 ≤ P 0 ∧ P 0 ≤ Hi 0)
    (hs : ∀ i v, i + 1 < n → Lo i ≤ v → v ≤ Hi i → Lo (i + 1) ≤ sat (sat (P (i + 1)) + sat (sat (rnd (sat x * sat v) 30))) ∧ sat (sat (P (i + 1)) + sat (sat (rnd (sat x * sat v) 30))) ≤ Hi (i + 1)) :
    Post (fun r => Lo (n - 1) ≤ r.1 ∧ r.1 ≤ Hi (n - 1)) (f_AP x n hit P w) := by
  unfold f_AP K_AP
  have e1 : inR 0 n = true := by simp only [inR, Bool.and_eq_true, decide_eq_true_eq]; omega
  have e2 : inRe 1 n = true := by simp only [inRe, Bool.and_eq_true, decide_eq_true_eq]; omega
  rw [e1, cond_true, e2, cond_true]
  unfold L_AP_0
  refine loopK_post (fun t d => ∃ (i : Nat) (v : Int) (b : Bool), i + t + 1 = n ∧ (Lo i ≤ v ∧ v ≤ Hi i) ∧ d = (x, v, n - 1, w && true, Int.ofNat (n - 1), Int.ofNat i, b, n, P)) ?_ 200 (n - 1) _ (by omega)
    ⟨0, P 0, hit, by omega, h0, by cases w <;> rfl⟩
  rintro t _ c ⟨i, v, b, hi, hv, rfl⟩ hc
  unfold S_AP_0
  by_cases z : t = 0
  · have e : decide (Int.ofNat i < Int.ofNat (n - 1)) = false := decide_eq_false (by simp only [Int.ofNat_eq_natCast]; omega)
    have hin : i = n - 1 := by omega
    simp only [e, cond_false]
    exact post_some (hin ▸ hv)
  · have e : decide (Int.ofNat i < Int.ofNat (n - 1)) = true := decide_eq_true (by simp only [Int.ofNat_eq_natCast]; omega)
    have e3 : inR (Int.ofNat i) (n - 1) = true := by simp only [inR, Bool.and_eq_true, decide_eq_true_eq, Int.ofNat_eq_natCast]; omega
    have e4 : IntKind.wrap .i64 (Int.ofNat i + 1) = Int.ofNat (i + 1) := by
      rw [wrap_i64 (by simp only [Int.ofNat_eq_natCast]; omega) (by simp only [Int.ofNat_eq_natCast]; omega)]; rfl
    obtain ⟨u, hu⟩ := m_eq x v b
    have key := hs i v (by omega) hv.1 hv.2
    simp only [e, cond_true, e3, e4, hu, Option.bind_some, acc_add 2 (by omega)]
    refine hc (t - 1) _ (by omega) ⟨i + 1, _, _, by omega, ?_, rfl⟩
    have e5 : 1 + Int.toNat (Int.ofNat i) = i + 1 := by simp only [Int.ofNat_eq_natCast, Int.toNat_natCast]; omega
    have e6 : sumF (fun j => sat (bif Nat.beq j 1 then sat (rnd (sat x * sat v) 30) else bif Nat.beq j 0 then P (1 + Int.toNat (Int.ofNat i)) else P (1 + Int.toNat (Int.ofNat i)))) 2 = sat (P (i + 1)) + sat (sat (rnd (sat x * sat v) 30)) := by
      rw [e5]; simp [sumF, Nat.beq]
    rw [e6]; exact key
end Go.Proofs.Ytcalippagaaikaa
set_option maxRecDepth 100000
set_option maxHeartbeats 4000000
set_option linter.unusedVariables false
set_option linter.unusedSimpArgs false
namespace Go.Proofs.Ytcalippagaaikaa
open Go.Ab
def tailD (a b p : Int) (hit : Bool) : Option (Int × Int × Bool) :=
  Option.bind (f_AF a b p 450000000 hit) fun (d : Int × Bool) => Option.bind (f_AK d.1 3373259426 19327352832000 d.2) fun (d : Int × Bool) => some (d.1, 0, d.2)
def rowI (x : Int) : Int := (if 3 < IntKind.wrap IntKind.i64 (Int.tdiv (IntKind.wrap IntKind.i64 (x + 900000000)) 450000000) then 3 else IntKind.wrap IntKind.i64 (Int.tdiv (IntKind.wrap IntKind.i64 (x + 900000000)) 450000000))
theorem rowI_cases (x : Int) (h1 : -900000000 ≤ x) (h2 : x ≤ 900000000) : rowI x = 0 ∨ rowI x = 1 ∨ rowI x = 2 ∨ rowI x = 3 := by
  unfold rowI
  have e : IntKind.wrap .i64 (x + 900000000) = x + 900000000 := wrap_i64 (by omega) (by omega)
  have t : Int.tdiv (x + 900000000) 450000000 = (x + 900000000) / 450000000 := Int.tdiv_eq_ediv_of_nonneg (by omega)
  rw [e, t, wrap_i64 (by omega) (by omega)]
  split <;> omega
def partI (x i : Int) : Int := IntKind.wrap IntKind.i64 (IntKind.wrap IntKind.i64 (x + 900000000) - IntKind.wrap IntKind.i64 (i * 450000000))
end Go.Proofs.Ytcalippagaaikaa
set_option maxRecDepth 100000
set_option maxHeartbeats 4000000
set_option linter.unusedVariables false
set_option linter.unusedSimpArgs false
namespace Go.Proofs.Ytcalippagaaikaa
open Go.Ab
theorem overI {x : Int} (h : -1152921504606846976 ≤ x ∧ x ≤ 1152921504606846976) : over x = false := by
  unfold over; rw [decide_eq_false (by omega), decide_eq_false (by omega)]; rfl
theorem redL_bd (d : Int) (h1 : -3600000000 ≤ d) (h2 : d ≤ 3600000000) : -1800000000 ≤ redL d ∧ redL d ≤ 1800000000 := by
  unfold redL; split <;> (try split) <;> omega
theorem to_full (x0 x1 x2 f0 f1 f2 f3 f4 : Int) (hit : Bool) (G : GoodP x0 x1 x2) (F : GoodP f0 f1 f2) (n1 : -13000000000 ≤ f3) (n2 : f3 ≤ 13000000000) (e1 : -13000000000 ≤ f4) (e2 : f4 ≤ 13000000000) :
    f_As x0 x1 x2 f0 f1 f2 f3 f4 hit = some (rnd ((x0 - f0) * f3) 10, rnd (redL (x1 - f1) * f4) 10, rdq ((f2 - x2) * 1073741824) 1000, 0, hit) := by
  unfold f_As K_As
  rw [good_yes G, Option.bind_some, Bool.not_true, cond_false]
  obtain ⟨g1, g2, g3, g4, g5, g6⟩ := G
  obtain ⟨k1, k2, k3, k4, k5, k6⟩ := F
  have w1 : IntKind.wrap .i64 (x1 - f1) = x1 - f1 := wrap_i64 (by omega) (by omega)
  have w2 : IntKind.wrap .i64 (x1 - f1 - 3600000000) = x1 - f1 - 3600000000 := wrap_i64 (by omega) (by omega)
  have w3 : IntKind.wrap .i64 (x1 - f1 + 3600000000) = x1 - f1 + 3600000000 := wrap_i64 (by omega) (by omega)
  have w4 : IntKind.wrap .i64 (x0 - f0) = x0 - f0 := wrap_i64 (by omega) (by omega)
  have w5 : IntKind.wrap .i64 (f2 - x2) = f2 - x2 := wrap_i64 (by omega) (by omega)
  have m : ∀ a b hit, -1800000000 ≤ a → a ≤ 1800000000 → -13000000000 ≤ b → b ≤ 13000000000 → f_Ag a b 10 hit = some (rnd (a * b) 10, hit) := by
    intro a b hit a1 a2 b1 b2
    have q : f_Ag a b 10 hit = some (sat (rnd (sat a * sat b) 10), hit || over a || over b || over (rnd (sat a * sat b) 10)) := acc_mul a b 10 hit (by omega)
    have p := mulB a b 1800000000 13000000000 a1 a2 b1 b2
    have r := rnd10_bd (a * b) 1000000000000000000 (by omega) (by omega)
    rw [q, satI (x := a) (by omega), satI (x := b) (by omega), satI (by omega), overI (x := a) (by omega), overI (x := b) (by omega), overI (by omega)]
    simp
  have d : ∀ hit, f_AK (f2 - x2) 1073741824 1000 hit = some (rdq ((f2 - x2) * 1073741824) 1000, hit) := by
    intro hit
    have r := rdq_bd ((f2 - x2) * 1073741824) 1000 1000000000000000000 (by omega) (by omega) (by omega)
    rw [acc_muldiv _ _ _ _ (by decide), satI (x := f2 - x2) (by omega), show sat 1073741824 = 1073741824 from rfl, show sat 1000 = 1000 from rfl, satI (by omega), overI (x := f2 - x2) (by omega), overI (x := rdq _ _) (by omega), show over 1073741824 = false from rfl, show over 1000 = false from rfl]
    simp
  have rb := redL_bd (x1 - f1) (by omega) (by omega)
  rw [w1, w2, w3, w4, w5]
  unfold redL at rb ⊢
  by_cases c : x1 - f1 > 1800000000
  · rw [if_pos c] at rb
    rw [if_pos c, decide_eq_true c, cond_true, m _ _ _ (by omega) (by omega) n1 n2, Option.bind_some]
    simp only [m _ _ _ rb.1 rb.2 e1 e2, Option.bind_some, d]
  · rw [if_neg c] at rb
    rw [if_neg c, decide_eq_false c, cond_false]
    by_cases z : x1 - f1 ≤ -1800000000
    · rw [if_pos z] at rb
      rw [if_pos z, decide_eq_true z, cond_true, m _ _ _ (by omega) (by omega) n1 n2, Option.bind_some]
      simp only [m _ _ _ rb.1 rb.2 e1 e2, Option.bind_some, d]
    · rw [if_neg z] at rb
      rw [if_neg z, decide_eq_false z, cond_false, m _ _ _ (by omega) (by omega) n1 n2, Option.bind_some]
      simp only [m _ _ _ rb.1 rb.2 e1 e2, Option.bind_some, d]
theorem rdq_np (a d : Int) (h : 0 < d) (a0 : a ≤ 0) : rdq a d ≤ 0 := by
  rcases Int.lt_or_le a 0 with c | c
  · refine (rdq_sign a d (by omega)).2 ?_
    rw [decide_eq_true c, decide_eq_false (by omega)]; decide
  · have : a = 0 := by omega
    rw [this, rdq_none d h]; omega
theorem d1_bd (a b p d M : Int) (hit : Bool) (MM : M ≤ 100000000000000) (A : -M ≤ a ∧ a ≤ M) (B : -M ≤ b ∧ b ≤ M) (P : 0 ≤ p ∧ p ≤ d) (D : 0 < d ∧ d ≤ 1000000000) :
    ∃ r, (-M ≤ r ∧ r ≤ M) ∧ f_AF a b p d hit = some (r, hit) := by
  unfold f_AF K_AF
  have e1 : IntKind.wrap .i64 (b - a) = b - a := wrap_i64 (by omega) (by omega)
  have s1 : sat (b - a) = b - a := satI (by omega)
  have s2 : sat d = d := satI (by omega)
  have s3 : sat p = p := satI (by omega)
  rw [e1, acc_muldiv _ _ _ _ (by rw [s2]; omega), s1, s2, s3, overI (x := b - a) (by omega), overI (x := p) (by omega), overI (x := d) (by omega)]
  have key : (-M ≤ a + rdq ((b - a) * p) d ∧ a + rdq ((b - a) * p) d ≤ M) ∧ (-1152921504606846976 ≤ rdq ((b - a) * p) d ∧ rdq ((b - a) * p) d ≤ 1152921504606846976) := by
    rcases Int.lt_or_le b a with c | c
    · have x1 := Int.mul_nonneg (show 0 ≤ a - b by omega) (show 0 ≤ d - p by omega)
      have x2 := Int.mul_nonneg (show 0 ≤ a - b by omega) P.1
      have x3 : (a - b) * (d - p) = (a - b) * d - (a - b) * p := by grind
      have x4 : (b - a) * p = -((a - b) * p) := by grind
      have r := rdq_bd ((b - a) * p) d (a - b) D.1 (by omega) (by omega)
      have n := rdq_np ((b - a) * p) d D.1 (by omega)
      omega
    · have x1 := Int.mul_nonneg (show 0 ≤ b - a by omega) (show 0 ≤ d - p by omega)
      have x2 := Int.mul_nonneg (show 0 ≤ b - a by omega) P.1
      have x3 : (b - a) * (d - p) = (b - a) * d - (b - a) * p := by grind
      have r := rdq_bd ((b - a) * p) d (b - a) D.1 (by omega) (by omega)
      have n := rdq_nn ((b - a) * p) d D.1 (by omega)
      omega
  rw [satI key.2, overI key.2, Option.bind_some]
  simp only [Bool.or_false]
  rw [wrap_i64 (by omega) (by omega)]
  exact ⟨_, key.1, rfl⟩
def colI (y : Int) : Int := (if 5 < IntKind.wrap IntKind.i64 (Int.tdiv (IntKind.wrap IntKind.i64 (y + 1800000000)) 600000000) then 5 else IntKind.wrap IntKind.i64 (Int.tdiv (IntKind.wrap IntKind.i64 (y + 1800000000)) 600000000))
def colP (y : Int) : Int := IntKind.wrap IntKind.i64 (IntKind.wrap IntKind.i64 (y + 1800000000) - IntKind.wrap IntKind.i64 (colI y * 600000000))
theorem colI_cases (y : Int) (h1 : -1800000000 ≤ y) (h2 : y ≤ 1800000000) : (0 ≤ colP y ∧ colP y ≤ 600000000) ∧ (colI y = 0 ∨ colI y = 1 ∨ colI y = 2 ∨ colI y = 3 ∨ colI y = 4 ∨ colI y = 5) := by
  unfold colP
  have e : IntKind.wrap .i64 (y + 1800000000) = y + 1800000000 := wrap_i64 (by omega) (by omega)
  have t : Int.tdiv (y + 1800000000) 600000000 = (y + 1800000000) / 600000000 := Int.tdiv_eq_ediv_of_nonneg (by omega)
  have c : colI y = if 5 < (y + 1800000000) / 600000000 then 5 else (y + 1800000000) / 600000000 := by
    unfold colI
    rw [e, t, wrap_i64 (by omega) (by omega)]
  have b : 0 ≤ colI y ∧ colI y ≤ 5 ∧ colI y * 600000000 ≤ y + 1800000000 ∧ y + 1800000000 - colI y * 600000000 ≤ 600000000 := by
    rw [c]; split <;> omega
  rw [e, wrap_i64 (n := colI y * 600000000) (by omega) (by omega), wrap_i64 (by omega) (by omega)]
  omega
theorem partI_bd (x : Int) (h1 : -900000000 ≤ x) (h2 : x ≤ 900000000) : 0 ≤ partI x (rowI x) ∧ partI x (rowI x) ≤ 450000000 := by
  unfold partI
  have e : IntKind.wrap .i64 (x + 900000000) = x + 900000000 := wrap_i64 (by omega) (by omega)
  have t : Int.tdiv (x + 900000000) 450000000 = (x + 900000000) / 450000000 := Int.tdiv_eq_ediv_of_nonneg (by omega)
  have c : rowI x = if 3 < (x + 900000000) / 450000000 then 3 else (x + 900000000) / 450000000 := by
    unfold rowI
    rw [e, t, wrap_i64 (by omega) (by omega)]
  have b : 0 ≤ rowI x ∧ rowI x ≤ 3 ∧ rowI x * 450000000 ≤ x + 900000000 ∧ x + 900000000 - rowI x * 450000000 ≤ 450000000 := by
    rw [c]; split <;> omega
  rw [e, wrap_i64 (n := rowI x * 450000000) (by omega) (by omega), wrap_i64 (by omega) (by omega)]
  omega
def In9 (a : Int) : Prop := -9000 ≤ a ∧ a ≤ 9000
theorem decl_r0 (x y z : Int) (hit : Bool) (G : GoodP x y z) (hE : rowI x = 0) :
    f_Ao x y z hit = Option.bind (f_Ah 3000 6000 (-2000) (-1500) (-6000) (-9000) 3000 (colI y) (colP y) hit) fun d => Option.bind (f_Ah 2200 2500 500 (-2200) (-3800) 0 2200 (colI y) (colP y) d.2) fun d_1 => tailD d.1 d_1.1 (partI x 0) d_1.2 := by
  unfold rowI at hE
  have hi : IntKind.wrap IntKind.i64 (0 + 1) = 1 := by decide
  have q1 : inR 0 5 = true := by decide
  have q2 : inR 1 5 = true := by decide
  unfold f_Ao K_Ao
  rw [good_yes G, Option.bind_some, Bool.not_true, cond_false]
  simp only [hE, hi, q1, q2, cond_true, cond_false, show ((0 : Int) == 0) = true from rfl, show ((0 : Int) == 1) = false from rfl, show ((0 : Int) == 2) = false from rfl, show ((0 : Int) == 3) = false from rfl, show ((0 : Int) == 4) = false from rfl, show ((1 : Int) == 0) = false from rfl, show ((1 : Int) == 1) = true from rfl, show ((1 : Int) == 2) = false from rfl, show ((1 : Int) == 3) = false from rfl, show ((1 : Int) == 4) = false from rfl, show ((2 : Int) == 0) = false from rfl, show ((2 : Int) == 1) = false from rfl, show ((2 : Int) == 2) = true from rfl, show ((2 : Int) == 3) = false from rfl, show ((2 : Int) == 4) = false from rfl, show ((3 : Int) == 0) = false from rfl, show ((3 : Int) == 1) = false from rfl, show ((3 : Int) == 2) = false from rfl, show ((3 : Int) == 3) = true from rfl, show ((3 : Int) == 4) = false from rfl, show ((4 : Int) == 0) = false from rfl, show ((4 : Int) == 1) = false from rfl, show ((4 : Int) == 2) = false from rfl, show ((4 : Int) == 3) = false from rfl, show ((4 : Int) == 4) = true from rfl]
  rfl
theorem decl_r1 (x y z : Int) (hit : Bool) (G : GoodP x y z) (hE : rowI x = 1) :
    f_Ao x y z hit = Option.bind (f_Ah 2200 2500 500 (-2200) (-3800) 0 2200 (colI y) (colP y) hit) fun d => Option.bind (f_Ah 950 900 (-1400) (-500) (-300) 100 950 (colI y) (colP y) d.2) fun d_1 => tailD d.1 d_1.1 (partI x 1) d_1.2 := by
  unfold rowI at hE
  have hi : IntKind.wrap IntKind.i64 (1 + 1) = 2 := by decide
  have q1 : inR 1 5 = true := by decide
  have q2 : inR 2 5 = true := by decide
  unfold f_Ao K_Ao
  rw [good_yes G, Option.bind_some, Bool.not_true, cond_false]
  simp only [hE, hi, q1, q2, cond_true, cond_false, show ((0 : Int) == 0) = true from rfl, show ((0 : Int) == 1) = false from rfl, show ((0 : Int) == 2) = false from rfl, show ((0 : Int) == 3) = false from rfl, show ((0 : Int) == 4) = false from rfl, show ((1 : Int) == 0) = false from rfl, show ((1 : Int) == 1) = true from rfl, show ((1 : Int) == 2) = false from rfl, show ((1 : Int) == 3) = false from rfl, show ((1 : Int) == 4) = false from rfl, show ((2 : Int) == 0) = false from rfl, show ((2 : Int) == 1) = false from rfl, show ((2 : Int) == 2) = true from rfl, show ((2 : Int) == 3) = false from rfl, show ((2 : Int) == 4) = false from rfl, show ((3 : Int) == 0) = false from rfl, show ((3 : Int) == 1) = false from rfl, show ((3 : Int) == 2) = false from rfl, show ((3 : Int) == 3) = true from rfl, show ((3 : Int) == 4) = false from rfl, show ((4 : Int) == 0) = false from rfl, show ((4 : Int) == 1) = false from rfl, show ((4 : Int) == 2) = false from rfl, show ((4 : Int) == 3) = false from rfl, show ((4 : Int) == 4) = true from rfl]
  rfl
theorem decl_r2 (x y z : Int) (hit : Bool) (G : GoodP x y z) (hE : rowI x = 2) :
    f_Ao x y z hit = Option.bind (f_Ah 950 900 (-1400) (-500) (-300) 100 950 (colI y) (colP y) hit) fun d => Option.bind (f_Ah 500 1500 (-1700) 100 700 (-800) 500 (colI y) (colP y) d.2) fun d_1 => tailD d.1 d_1.1 (partI x 2) d_1.2 := by
  unfold rowI at hE
  have hi : IntKind.wrap IntKind.i64 (2 + 1) = 3 := by decide
  have q1 : inR 2 5 = true := by decide
  have q2 : inR 3 5 = true := by decide
  unfold f_Ao K_Ao
  rw [good_yes G, Option.bind_some, Bool.not_true, cond_false]
  simp only [hE, hi, q1, q2, cond_true, cond_false, show ((0 : Int) == 0) = true from rfl, show ((0 : Int) == 1) = false from rfl, show ((0 : Int) == 2) = false from rfl, show ((0 : Int) == 3) = false from rfl, show ((0 : Int) == 4) = false from rfl, show ((1 : Int) == 0) = false from rfl, show ((1 : Int) == 1) = true from rfl, show ((1 : Int) == 2) = false from rfl, show ((1 : Int) == 3) = false from rfl, show ((1 : Int) == 4) = false from rfl, show ((2 : Int) == 0) = false from rfl, show ((2 : Int) == 1) = false from rfl, show ((2 : Int) == 2) = true from rfl, show ((2 : Int) == 3) = false from rfl, show ((2 : Int) == 4) = false from rfl, show ((3 : Int) == 0) = false from rfl, show ((3 : Int) == 1) = false from rfl, show ((3 : Int) == 2) = false from rfl, show ((3 : Int) == 3) = true from rfl, show ((3 : Int) == 4) = false from rfl, show ((4 : Int) == 0) = false from rfl, show ((4 : Int) == 1) = false from rfl, show ((4 : Int) == 2) = false from rfl, show ((4 : Int) == 3) = false from rfl, show ((4 : Int) == 4) = true from rfl]
  rfl
theorem decl_r3 (x y z : Int) (hit : Bool) (G : GoodP x y z) (hE : rowI x = 3) :
    f_Ao x y z hit = Option.bind (f_Ah 500 1500 (-1700) 100 700 (-800) 500 (colI y) (colP y) hit) fun d => Option.bind (f_Ah 1000 4000 (-3000) 500 3500 (-1200) 1000 (colI y) (colP y) d.2) fun d_1 => tailD d.1 d_1.1 (partI x 3) d_1.2 := by
  unfold rowI at hE
  have hi : IntKind.wrap IntKind.i64 (3 + 1) = 4 := by decide
  have q1 : inR 3 5 = true := by decide
  have q2 : inR 4 5 = true := by decide
  unfold f_Ao K_Ao
  rw [good_yes G, Option.bind_some, Bool.not_true, cond_false]
  simp only [hE, hi, q1, q2, cond_true, cond_false, show ((0 : Int) == 0) = true from rfl, show ((0 : Int) == 1) = false from rfl, show ((0 : Int) == 2) = false from rfl, show ((0 : Int) == 3) = false from rfl, show ((0 : Int) == 4) = false from rfl, show ((1 : Int) == 0) = false from rfl, show ((1 : Int) == 1) = true from rfl, show ((1 : Int) == 2) = false from rfl, show ((1 : Int) == 3) = false from rfl, show ((1 : Int) == 4) = false from rfl, show ((2 : Int) == 0) = false from rfl, show ((2 : Int) == 1) = false from rfl, show ((2 : Int) == 2) = true from rfl, show ((2 : Int) == 3) = false from rfl, show ((2 : Int) == 4) = false from rfl, show ((3 : Int) == 0) = false from rfl, show ((3 : Int) == 1) = false from rfl, show ((3 : Int) == 2) = false from rfl, show ((3 : Int) == 3) = true from rfl, show ((3 : Int) == 4) = false from rfl, show ((4 : Int) == 0) = false from rfl, show ((4 : Int) == 1) = false from rfl, show ((4 : Int) == 2) = false from rfl, show ((4 : Int) == 3) = false from rfl, show ((4 : Int) == 4) = true from rfl]
  rfl
theorem tailD_bd (a b p : Int) (hit : Bool) (A : -9663676416000 ≤ a ∧ a ≤ 9663676416000) (B : -9663676416000 ≤ b ∧ b ≤ 9663676416000) (P : 0 ≤ p ∧ p ≤ 450000000) :
    ∃ r, (-3373259426 ≤ r ∧ r ≤ 3373259426) ∧ tailD a b p hit = some (r, 0, hit) := by
  unfold tailD
  obtain ⟨r, hr, hu⟩ := d1_bd a b p 450000000 9663676416000 hit (by omega) A B P (by omega)
  have k := rdq_bd (r * 3373259426) 19327352832000 3373259426 (by omega) (by omega) (by omega)
  rw [hu, Option.bind_some, acc_muldiv _ _ _ _ (by decide), satI (x := r) (by omega), show sat 3373259426 = 3373259426 from rfl, show sat 19327352832000 = 19327352832000 from rfl, overI (x := r) (by omega), show over 3373259426 = false from rfl, show over 19327352832000 = false from rfl, satI (x := rdq _ _) (by omega), overI (x := rdq _ _) (by omega), Option.bind_some]
  simp only [Bool.or_false]
  exact ⟨_, k, rfl⟩
end Go.Proofs.Ytcalippagaaikaa
