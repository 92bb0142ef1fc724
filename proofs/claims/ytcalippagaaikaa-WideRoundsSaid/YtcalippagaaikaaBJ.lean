/-
  Numbers of 256 bits (astrolaberef1) in plain arithmetic: rounded, divided.
-/
import Derived.Test.YtcalippagaaikaaBH
import Derived.Test.YtcalippagaaikaaG2
import Derived.Test.YtcalippagaaikaaWU
set_option maxRecDepth 100000
set_option maxHeartbeats 4000000
set_option linter.unusedVariables false
set_option linter.unusedSimpArgs false
namespace Go.Proofs.Ytcalippagaaikaa
open Go.Ab
/-- a part, from the size itself -/
theorem dig_at (v : Int) {j : Nat} (hj : j < 8) : dig v j = v / 4294967296 ^ j % 4294967296 := by
  unfold dig; rw [if_pos hj]
theorem p32 (m r : Nat) : (2 : Int) ^ (32 * m + r) = 4294967296 ^ m * 2 ^ r := by
  rw [Int.pow_add, Int.pow_mul]; rfl
theorem top_div (v : Int) (h0 : 0 ≤ v) (h1 : v < 115792089237316195423570985008687907853269984665640564039457584007913129639936) {j : Nat} (hj : 8 ≤ j) : v / 4294967296 ^ j = 0 := by
  refine Int.ediv_eq_zero_of_lt h0 (Int.lt_of_lt_of_le h1 ?_)
  have h2 : (4294967296 : Nat) ^ 8 ≤ 4294967296 ^ j := Nat.pow_le_pow_right (by decide) hj
  have h3 : ((4294967296 ^ 8 : Nat) : Int) ≤ ((4294967296 ^ j : Nat) : Int) := by exact_mod_cast h2
  have h4 : ((4294967296 ^ 8 : Nat) : Int) = 115792089237316195423570985008687907853269984665640564039457584007913129639936 := by decide
  rw [h4] at h3
  simpa using h3
/-- the part of a shifted size is made of two neighbours -/
theorem dig_shift (v : Int) (m r i : Nat) (hr : r < 32) (h0 : 0 ≤ v) (h1 : v < 115792089237316195423570985008687907853269984665640564039457584007913129639936) (hi : i < 8) :
    dig (v / 2 ^ (32 * m + r)) i = dig v (i + m) / 2 ^ r + dig v (i + m + 1) * 2 ^ (32 - r) % 4294967296 := by
  rw [dig_at _ hi, p32, ← Int.ediv_ediv_of_nonneg (Int.le_of_lt (bpos m))]
  have R0 := pow_pos' r
  have S0 := pow_pos' (32 - r)
  have RS : (4294967296 : Int) = 2 ^ r * 2 ^ (32 - r) := by rw [← Int.pow_add, show r + (32 - r) = 32 by omega]; rfl
  -- all of w, where w is what stands from the part i + m on
  have sw : v / 4294967296 ^ m / 2 ^ r / 4294967296 ^ i = v / 4294967296 ^ (i + m) / 2 ^ r := by
    rw [Int.ediv_ediv_of_nonneg (Int.le_of_lt R0), Int.mul_comm, ← Int.ediv_ediv_of_nonneg (Int.le_of_lt (bpos i)), Int.ediv_ediv_of_nonneg (Int.le_of_lt (bpos m)), ← Int.pow_add, Nat.add_comm m i]
  rw [sw]
  have lo : dig v (i + m) = v / 4294967296 ^ (i + m) % 4294967296 := by
    rcases Nat.lt_or_ge (i + m) 8 with c | c
    · exact dig_at v c
    · rw [dig_hi v c, top_div v h0 h1 c]; rfl
  have hi' : dig v (i + m + 1) = v / 4294967296 ^ (i + m) / 4294967296 % 4294967296 := by
    have e : v / 4294967296 ^ (i + m) / 4294967296 = v / 4294967296 ^ (i + m + 1) := by rw [Int.ediv_ediv_of_nonneg (Int.le_of_lt (bpos _)), ← bsucc]
    rw [e]
    rcases Nat.lt_or_ge (i + m + 1) 8 with c | c
    · exact dig_at v c
    · rw [dig_hi v c, top_div v h0 h1 c]; rfl
  rw [lo, hi']
  have w0 : 0 ≤ v / 4294967296 ^ (i + m) := Int.ediv_nonneg h0 (Int.le_of_lt (bpos _))
  generalize v / 4294967296 ^ (i + m) = w at *
  -- w = q 2^64.. : by the two lowest parts
  have a1 : w = w % 4294967296 + 4294967296 * (w / 4294967296) := by omega
  have a2 := Int.ediv_mul_add_emod (w % 4294967296) (2 ^ r)
  have a3 := Int.emod_nonneg (w % 4294967296) (show (2 : Int) ^ r ≠ 0 by omega)
  have a4 := Int.emod_lt_of_pos (w % 4294967296) R0
  have q1 : w / 2 ^ r = w % 4294967296 / 2 ^ r + 2 ^ (32 - r) * (w / 4294967296) := by
    conv => lhs; rw [a1, RS, Int.mul_assoc, Int.add_mul_ediv_left _ _ (by omega)]
    rw [← RS]
  have q2 : w % 4294967296 / 2 ^ r < 2 ^ (32 - r) := Int.ediv_lt_of_lt_mul R0 (by rw [Int.mul_comm, ← RS]; omega)
  have q3 : 0 ≤ w % 4294967296 / 2 ^ r := Int.ediv_nonneg (by omega) (Int.le_of_lt R0)
  have q4 : w / 4294967296 % 4294967296 * 2 ^ (32 - r) % 4294967296 = w / 4294967296 * 2 ^ (32 - r) % 4294967296 := by rw [Int.mul_emod, Int.emod_emod_of_dvd _ (Int.dvd_refl _), ← Int.mul_emod]
  have q5 : ∀ z : Int, z * 2 ^ (32 - r) % 4294967296 = z % 2 ^ r * 2 ^ (32 - r) := fun z => by
    rw [RS, Int.mul_comm z, Int.mul_comm (2 ^ r), Int.mul_emod_mul_of_pos _ _ S0, Int.mul_comm]
  have q6 : 0 ≤ w / 4294967296 % 2 ^ r := Int.emod_nonneg _ (by omega)
  have q7 : w / 4294967296 % 2 ^ r * 2 ^ (32 - r) + 2 ^ (32 - r) ≤ 4294967296 := by
    have := Int.emod_lt_of_pos (w / 4294967296) R0
    have := Int.mul_le_mul_of_nonneg_right (show w / 4294967296 % 2 ^ r + 1 ≤ 2 ^ r by omega) (Int.le_of_lt S0)
    rw [Int.add_mul, ← RS] at this; omega
  rw [q4, q1]
  have q8 : (w % 4294967296 / 2 ^ r + 2 ^ (32 - r) * (w / 4294967296)) % 4294967296 = (w % 4294967296 / 2 ^ r + w / 4294967296 * 2 ^ (32 - r) % 4294967296) % 4294967296 := by
    rw [Int.mul_comm (2 ^ (32 - r))]; omega
  rw [q8, q5 (w / 4294967296), Int.emod_eq_of_lt]
  · have := Int.mul_nonneg q6 (Int.le_of_lt S0); omega
  · omega
theorem half_pow {s : Nat} (h : 1 ≤ s) : half s = 2 ^ (s - 1) := by unfold half; rw [if_neg (by omega)]
theorem Big_Round (x : Int) (s : Nat) (hs : s ≤ 126) (hx : low255 x) : f_astrolaberef1_Round (sg x) (dig (mg x)) (s : Int) = some (sg (rnd x s), dig (mg (rnd x s))) := by
  unfold f_astrolaberef1_Round K_astrolaberef1_Round
  have mx := mg_lt hx
  have mn := mg_nn x
  by_cases z : s = 0
  · subst z
    have e : (((0 : Nat) : Int) == 0) = true := rfl
    rw [e, cond_true, rnd_zero]
  have e : ((s : Int) == 0) = false := by rw [beq_eq_false_iff_ne]; omega
  have w1 : IntKind.wrap .i64 ((s : Int) - 1) = ((s - 1 : Nat) : Int) := (wrap_i64 (by omega) (by omega)).trans (by omega)
  have pp := pow2_lt (s - 1) (by omega)
  rw [e, cond_false, w1, Big_Pow (s - 1) (by omega), Option.bind_some, big_plus8 _ _ mn (by omega) (by omega), Option.bind_some, ← half_pow (by omega)]
  have hh := half_le s (by omega)
  have v0 : 0 ≤ mg x + half s := by omega
  have v1 : mg x + half s < 115792089237316195423570985008687907853269984665640564039457584007913129639936 := by omega
  have ms : mg x + half s = mg x + half s := rfl
  -- the size of what it comes to
  have mr : mg (rnd x s) = (mg x + half s) / 2 ^ s := by
    have d0 := Int.ediv_nonneg v0 (Int.le_of_lt (pow_pos' s))
    unfold rnd mg at *
    by_cases c : x < 0
    · rw [if_pos c] at *
      rw [if_pos c]
      split <;> omega
    · rw [if_neg c] at *
      rw [if_neg c]
      split <;> omega
  have sr : sg x = sg (rnd x s) ∨ rnd x s = 0 := by
    have d0 := Int.ediv_nonneg v0 (Int.le_of_lt (pow_pos' s))
    unfold sg rnd mg at *
    by_cases c : x < 0
    · rw [if_pos c] at *
      by_cases q : (-x + half s) / 2 ^ s = 0
      · right; omega
      · left; rw [decide_eq_true c, decide_eq_true (by omega)]
    · rw [if_neg c] at *
      left; rw [decide_eq_false c, decide_eq_false (by omega)]
  have fin : f_astrolaberef1_made (sg x) (dig ((mg x + half s) / 2 ^ s)) = some (sg (rnd x s), dig (mg (rnd x s))) := by
    rw [← mr]
    refine made_sg (rnd x s) (sg x) ?_ sr
    rw [mr]
    exact Int.lt_of_le_of_lt (Int.ediv_le_self _ v0) v1
  generalize mg x + half s = v at *
  unfold L_astrolaberef1_Round_0
  have r32 : s % 32 < 32 := Nat.mod_lt _ (by omega)
  have dm : 32 * (s / 32) + s % 32 = s := Nat.div_add_mod s 32
  have td : Int.tdiv (s : Int) 32 = ((s / 32 : Nat) : Int) := by rw [Int.tdiv_eq_ediv_of_nonneg (by omega)]; omega
  have tm : Int.tmod (s : Int) 32 = ((s % 32 : Nat) : Int) := by rw [Int.tmod_eq_emod_of_nonneg (by omega)]; omega
  have g1 : IntKind.wrap .i64 ((s / 32 : Nat) : Int) = ((s / 32 : Nat) : Int) := wrap_i64 (by omega) (by omega)
  have g2 : IntKind.wrap .u64 ((s % 32 : Nat) : Int) = ((s % 32 : Nat) : Int) := by rw [wrap_u64]; omega
  have g3 : IntKind.wrap .i64 (32 - ((s % 32 : Nat) : Int)) = ((32 - s % 32 : Nat) : Int) := (wrap_i64 (by omega) (by omega)).trans (by omega)
  have g4 : IntKind.wrap .u64 ((32 - s % 32 : Nat) : Int) = ((32 - s % 32 : Nat) : Int) := by rw [wrap_u64]; omega
  have g5 : ∀ n : Nat, (!decide ((n : Int) < 0)) = true := fun n => by rw [decide_eq_false (by omega)]; rfl
  have g6 : min (s % 32) 64 = s % 32 := by omega
  have g7 : min (32 - s % 32) 64 = 32 - s % 32 := by omega
  refine loopK_inv (fun t d => ∃ (i : Nat) (q : Nat → Int), i + t = 8 ∧ (∀ j, j < i → q j = dig (v / 2 ^ s) j) ∧ (∀ j, i ≤ j → q j = 0) ∧ d = ((s : Int), (i : Int), sg x, dig (mg x), (fun _ => 0), dig v, q)) ?_ 300 8 _ (by omega)
    ⟨0, fun _ => 0, by omega, (fun j hj => by omega), (fun _ _ => rfl), rfl⟩
  rintro t _ c ⟨i, q, hi, hq, hz, rfl⟩ hc
  rcases Nat.eq_zero_or_pos t with t0 | t0
  · obtain rfl : i = 8 := by omega
    have zz : decide (((8 : Nat) : Int) < 8) = false := by decide
    have qe : q = dig (v / 2 ^ s) := by
      funext j
      rcases Nat.lt_or_ge j 8 with k | k
      · exact hq j k
      · rw [hz j k, dig_hi _ k]
    simp only [S_astrolaberef1_Round_0, zz, cond_false]
    rw [qe, fin, Option.bind_some]
  · have zz : decide ((i : Int) < 8) = true := decide_eq_true (by omega)
    have k0 : IntKind.wrap .i64 ((i : Int) + ((s / 32 : Nat) : Int)) = ((i + s / 32 : Nat) : Int) := (wrap_i64 (by omega) (by omega)).trans (by omega)
    have k1 : IntKind.wrap .i64 (((i + s / 32 : Nat) : Int) + 1) = ((i + s / 32 + 1 : Nat) : Int) := (wrap_i64 (by omega) (by omega)).trans (by omega)
    have target := dig_shift v (s / 32) (s % 32) i r32 v0 v1 (by omega)
    rw [dm] at target
    have go : ∀ q' : Nat → Int, q' i = dig (v / 2 ^ s) i → (∀ j, j ≠ i → q' j = q j) → c ((s : Int), ((i + 1 : Nat) : Int), sg x, dig (mg x), (fun _ => 0), dig v, q') = some (sg (rnd x s), dig (mg (rnd x s))) := fun q' h1 h2 =>
      hc (t - 1) _ (by omega) ⟨i + 1, q', by omega, (fun j hj => by
        rcases Nat.lt_or_ge j i with k | k
        · rw [h2 j (by omega)]; exact hq j k
        · obtain rfl : j = i := by omega
          exact h1), (fun j hj => by rw [h2 j (by omega)]; exact hz j (by omega)), rfl⟩
    simp only [S_astrolaberef1_Round_0, td, tm, g1, g2, g3, g4, g5, g6, g7, zz, cond_true, k0, k1, ix i 8 (by omega), Int.toNat_natCast, up1 (show i < 1000000 by omega), bl8 (show i < 8 by omega), Bool.and_self, Nat.beq_refl]
    have dk : 0 ≤ dig v (i + s / 32) ∧ dig v (i + s / 32) < 4294967296 := by
      rcases Nat.lt_or_ge (i + s / 32) 8 with k | k
      · exact dig_ok v _ k
      · rw [dig_hi v k]; omega
    by_cases r0 : s % 32 = 0
    · have rz : (((s % 32 : Nat) : Int) == 0) = true := by rw [beq_iff_eq]; omega
      have tv : dig (v / 2 ^ s) i = dig v (i + s / 32) := by
        rw [target, r0, show (2 : Int) ^ 0 = 1 from rfl, Int.ediv_one, show (2 : Int) ^ (32 - 0) = 4294967296 from rfl, Int.mul_emod_left, Int.add_zero]
      by_cases k8 : i + s / 32 < 8
      · have kk : decide (((i + s / 32 : Nat) : Int) < 8) = true := decide_eq_true (by omega)
        simp only [kk, rz, cond_true, ix (i + s / 32) 8 k8]
        by_cases k9 : i + s / 32 + 1 < 8
        · have kk2 : decide (((i + s / 32 + 1 : Nat) : Int) < 8) = true := decide_eq_true (by omega)
          simp only [kk2, cond_true, ix (i + s / 32 + 1) 8 k9]
          refine go _ ?_ fun j hj => ?_
          · simp only [Nat.beq_refl, cond_true]; exact tv.symm
          · simp only [nbq hj, cond_false]
        · have kk2 : decide (((i + s / 32 + 1 : Nat) : Int) < 8) = false := decide_eq_false (by omega)
          simp only [kk2, cond_false]
          refine go _ ?_ fun j hj => ?_
          · simp only [Nat.beq_refl, cond_true]; exact tv.symm
          · simp only [nbq hj, cond_false]
      · have kk : decide (((i + s / 32 : Nat) : Int) < 8) = false := decide_eq_false (by omega)
        simp only [kk, rz, cond_true, cond_false]
        exact go q (by rw [tv, dig_hi v (by omega)]; exact hz i (Nat.le_refl i)) fun _ _ => rfl
    · have rz : (((s % 32 : Nat) : Int) == 0) = false := by rw [beq_eq_false_iff_ne]; omega
      by_cases k8 : i + s / 32 < 8
      · have kk : decide (((i + s / 32 : Nat) : Int) < 8) = true := decide_eq_true (by omega)
        have fd : Int.fdiv (dig v (i + s / 32)) (2 ^ (s % 32)) = dig v (i + s / 32) / 2 ^ (s % 32) := fdiv_pos _ _ (Int.le_of_lt (pow_pos' _))
        simp only [kk, rz, cond_true, cond_false, ix (i + s / 32) 8 k8, fd]
        by_cases k9 : i + s / 32 + 1 < 8
        · have kk2 : decide (((i + s / 32 + 1 : Nat) : Int) < 8) = true := decide_eq_true (by omega)
          simp only [kk2, cond_true, ix (i + s / 32 + 1) 8 k9]
          have R0 := pow_pos' (s % 32)
          have S0 := pow_pos' (32 - s % 32)
          have RS : (4294967296 : Int) = 2 ^ (s % 32) * 2 ^ (32 - s % 32) := by rw [← Int.pow_add, show s % 32 + (32 - s % 32) = 32 by omega]; rfl
          have sb : (2 : Int) ^ (32 - s % 32) ≤ 4294967296 := by
            have : (2 : Int) ^ (32 - s % 32) ≤ 2 ^ 32 := pow_le_pow (by omega)
            have e : (2 : Int) ^ 32 = 4294967296 := rfl
            omega
          have d9 := dig_ok v (i + s / 32 + 1) k9
          have pr := Int.mul_nonneg d9.1 (Int.le_of_lt S0)
          have pr2 : dig v (i + s / 32 + 1) * 2 ^ (32 - s % 32) < 18446744073709551616 := by
            have := Int.mul_le_mul (show dig v (i + s / 32 + 1) ≤ 4294967295 by omega) sb (Int.le_of_lt S0) (by omega)
            omega
          have u1 : IntKind.wrap .u64 (dig v (i + s / 32 + 1) * 2 ^ (32 - s % 32)) = dig v (i + s / 32 + 1) * 2 ^ (32 - s % 32) := by rw [wrap_u64]; omega
          have u2 := and_mask (dig v (i + s / 32 + 1) * 2 ^ (32 - s % 32)) pr pr2
          have u3 : IntKind.wrap .u64 (dig v (i + s / 32 + 1) * 2 ^ (32 - s % 32) % 4294967296) = dig v (i + s / 32 + 1) * 2 ^ (32 - s % 32) % 4294967296 := by rw [wrap_u64]; omega
          have x0 : 0 ≤ dig v (i + s / 32) / 2 ^ (s % 32) := Int.ediv_nonneg dk.1 (Int.le_of_lt R0)
          have x1 : dig v (i + s / 32) / 2 ^ (s % 32) < 2 ^ (32 - s % 32) := Int.ediv_lt_of_lt_mul R0 (by rw [Int.mul_comm, ← RS]; exact dk.2)
          have m5 : dig v (i + s / 32 + 1) * 2 ^ (32 - s % 32) % 4294967296 = dig v (i + s / 32 + 1) % 2 ^ (s % 32) * 2 ^ (32 - s % 32) := by
            conv => lhs; rw [RS, Int.mul_comm (dig v (i + s / 32 + 1)), Int.mul_comm (2 ^ (s % 32)), Int.mul_emod_mul_of_pos _ _ S0, Int.mul_comm]
          have u4 := or_apart (dig v (i + s / 32) / 2 ^ (s % 32)) (dig v (i + s / 32 + 1) * 2 ^ (32 - s % 32) % 4294967296) (32 - s % 32) x0 x1 (by omega) (by omega) (by omega) (by rw [m5]; exact Int.mul_emod_left _ _)
          have u5 : IntKind.wrap .u64 (dig v (i + s / 32) / 2 ^ (s % 32) + dig v (i + s / 32 + 1) * 2 ^ (32 - s % 32) % 4294967296) = dig v (i + s / 32) / 2 ^ (s % 32) + dig v (i + s / 32 + 1) * 2 ^ (32 - s % 32) % 4294967296 := by rw [wrap_u64]; omega
          simp only [u1, u2, u3, u4, u5]
          refine go _ ?_ fun j hj => ?_
          · simp only [Nat.beq_refl, cond_true]; exact target.symm
          · simp only [nbq hj, cond_false]
        · have kk2 : decide (((i + s / 32 + 1 : Nat) : Int) < 8) = false := decide_eq_false (by omega)
          simp only [kk2, cond_false]
          refine go _ ?_ fun j hj => ?_
          · simp only [Nat.beq_refl, cond_true]
            rw [target, dig_hi v (j := i + s / 32 + 1) (by omega), Int.zero_mul, Int.zero_emod, Int.add_zero]
          · simp only [nbq hj, cond_false]
      · have kk : decide (((i + s / 32 : Nat) : Int) < 8) = false := decide_eq_false (by omega)
        simp only [kk, rz, cond_false]
        refine go q ?_ fun _ _ => rfl
        rw [target, dig_hi v (j := i + s / 32) (by omega), dig_hi v (j := i + s / 32 + 1) (by omega), Int.zero_ediv, Int.zero_mul, Int.zero_emod]
        exact hz i (Nat.le_refl i)
/-! the quotient, bit by bit -/
theorem and_one (x : Int) (h0 : 0 ≤ x) (h1 : x < 18446744073709551616) : Int.ofNat (BitVec.toNat (BitVec.ofInt 64 x &&& BitVec.ofInt 64 1)) = x % 2 := by
  rw [BitVec.toNat_and, ofInt_toNat x h0 h1]
  have e : (BitVec.ofInt 64 1).toNat = 2 ^ 1 - 1 := by decide
  rw [e, Nat.and_two_pow_sub_one_eq_mod]
  simp only [Int.ofNat_eq_natCast]
  omega
theorem Big_bit (A : Int) (i : Nat) (hi : i < 256) (h0 : 0 ≤ A) : f_astrolaberef1_bit (dig A) (i : Int) = some (A / 2 ^ i % 2) := by
  unfold f_astrolaberef1_bit K_astrolaberef1_bit
  have td : Int.tdiv (i : Int) 32 = ((i / 32 : Nat) : Int) := by rw [Int.tdiv_eq_ediv_of_nonneg (by omega)]; omega
  have tm : Int.tmod (i : Int) 32 = ((i % 32 : Nat) : Int) := by rw [Int.tmod_eq_emod_of_nonneg (by omega)]; omega
  have g1 : IntKind.wrap .i64 ((i / 32 : Nat) : Int) = ((i / 32 : Nat) : Int) := wrap_i64 (by omega) (by omega)
  have g2 : IntKind.wrap .u64 ((i % 32 : Nat) : Int) = ((i % 32 : Nat) : Int) := by rw [wrap_u64]; omega
  have g5 : (!decide (((i % 32 : Nat) : Int) < 0)) = true := by rw [decide_eq_false (by omega)]; rfl
  have g6 : min (Int.toNat ((i % 32 : Nat) : Int)) 64 = i % 32 := by rw [Int.toNat_natCast]; omega
  rw [td, tm, g1, g2, ix (i / 32) 8 (by omega), cond_true, g5, cond_true, g6, Int.toNat_natCast, fdiv_pos _ _ (Int.le_of_lt (pow_pos' _))]
  have d := dig_ok A (i / 32) (by omega)
  have R0 := pow_pos' (i % 32)
  have x0 := Int.ediv_nonneg d.1 (Int.le_of_lt R0)
  have x1 := Int.ediv_le_self (2 ^ (i % 32)) d.1
  rw [and_one _ x0 (by omega), wrap_u64, dig_at A (by omega)]
  congr 1
  have dm : 32 * (i / 32) + i % 32 = i := Nat.div_add_mod i 32
  have pe : (2 : Int) ^ i = 4294967296 ^ (i / 32) * 2 ^ (i % 32) := by rw [← p32, dm]
  rw [pe, ← Int.ediv_ediv_of_nonneg (Int.le_of_lt (bpos _))]
  have w0 := Int.ediv_nonneg h0 (Int.le_of_lt (bpos (i / 32)))
  generalize A / 4294967296 ^ (i / 32) = w at *
  have r31 : i % 32 < 32 := Nat.mod_lt _ (by omega)
  have RS : (4294967296 : Int) = 2 ^ (i % 32) * (2 * 2 ^ (31 - i % 32)) := by
    rw [show (2 : Int) * 2 ^ (31 - i % 32) = 2 ^ (32 - i % 32) by rw [Int.mul_comm, ← Int.pow_succ]; congr 1; omega, ← Int.pow_add, show i % 32 + (32 - i % 32) = 32 by omega]; rfl
  have a1 : w = w % 4294967296 + 4294967296 * (w / 4294967296) := by omega
  have q1 : w / 2 ^ (i % 32) = w % 4294967296 / 2 ^ (i % 32) + 2 * (2 ^ (31 - i % 32) * (w / 4294967296)) := by
    conv => lhs; rw [a1, RS, Int.mul_assoc, Int.add_mul_ediv_left _ _ (by omega)]
    rw [← RS]
    grind
  rw [q1]
  generalize 2 ^ (31 - i % 32) * (w / 4294967296) = z
  omega
theorem Big_divide (A D : Int) (A0 : 0 ≤ A) (A1 : A < 115792089237316195423570985008687907853269984665640564039457584007913129639936) (D0 : 0 < D) (D1 : D < 57896044618658097711785492504343953926634992332820282019728792003956564819968) :
    f_astrolaberef1_divide (dig A) (dig D) = some (dig (A / D), dig (A % D)) := by
  unfold f_astrolaberef1_divide K_astrolaberef1_divide L_astrolaberef1_divide_0
  have dz : dig 0 = fun _ => 0 := by
    funext j
    unfold dig
    split
    · rw [Int.zero_ediv]; rfl
    · rfl
  refine loopK_inv (fun t d => t ≤ 256 ∧ d = ((t : Int) - 1, dig A, dig D, (fun _ => 0), (fun _ => 0), dig (A / 2 ^ t / D * 2 ^ t), dig (A / 2 ^ t % D))) ?_ 300 256 _ (by omega) ⟨by omega, by
    have e : (2 : Int) ^ 256 = 115792089237316195423570985008687907853269984665640564039457584007913129639936 := by decide
    rw [e, Int.ediv_eq_zero_of_lt A0 A1, Int.zero_ediv, Int.zero_mul, Int.zero_emod, dz]; rfl⟩
  rintro t _ c ⟨t256, rfl⟩ hc
  rcases Nat.eq_zero_or_pos t with t0 | t0
  · subst t0
    have z : decide (((0 : Nat) : Int) - 1 ≥ 0) = false := by decide
    have e1 : (2 : Int) ^ 0 = 1 := rfl
    simp only [S_astrolaberef1_divide_0, z, cond_false, e1, Int.ediv_one, Int.mul_one]
  · obtain ⟨i, rfl⟩ : ∃ i, t = i + 1 := ⟨t - 1, by omega⟩
    have e0 : ((i + 1 : Nat) : Int) - 1 = (i : Int) := by omega
    have z : decide ((i : Int) ≥ 0) = true := decide_eq_true (by omega)
    have w0 : IntKind.wrap .i64 ((i : Int) - 1) = (i : Int) - 1 := wrap_i64 (by omega) (by omega)
    have I0 := pow_pos' i
    have pe : (2 : Int) ^ (i + 1) = 2 ^ i * 2 := Int.pow_succ _ _
    have W0 := Int.ediv_nonneg A0 (show (0 : Int) ≤ 2 ^ (i + 1) from Int.le_of_lt (pow_pos' _))
    -- A / 2^i by what stands above and the bit
    have half2 : A / 2 ^ i = 2 * (A / 2 ^ (i + 1)) + A / 2 ^ i % 2 := by
      rw [pe, ← Int.ediv_ediv_of_nonneg (Int.le_of_lt I0)]; omega
    have bt := Big_bit A i (by omega) A0
    have b01 : 0 ≤ A / 2 ^ i % 2 ∧ A / 2 ^ i % 2 ≤ 1 := by omega
    have WA := Int.ediv_le_self (2 ^ (i + 1)) A0
    rw [e0]
    have qh : A / 2 ^ (i + 1) / D * 2 ^ (i + 1) ≤ A := by
      have a := Int.ediv_mul_le (A / 2 ^ (i + 1)) (show D ≠ 0 by omega)
      have b := Int.ediv_mul_le A (show (2 : Int) ^ (i + 1) ≠ 0 by have := pow_pos' (i + 1); omega)
      have q0 := Int.ediv_nonneg W0 (Int.le_of_lt D0)
      have d := Int.mul_le_mul_of_nonneg_left (show 1 ≤ D by omega) q0
      have e := Int.mul_le_mul_of_nonneg_right (show A / 2 ^ (i + 1) / D ≤ A / 2 ^ (i + 1) by omega) (Int.le_of_lt (pow_pos' (i + 1)))
      omega
    generalize hW : A / 2 ^ (i + 1) = W at *
    generalize hb : A / 2 ^ i % 2 = b at *
    have r0 := Int.emod_nonneg W (show D ≠ 0 by omega)
    have r1 := Int.emod_lt_of_pos W D0
    have rq := Int.mul_ediv_add_emod W D
    have q0 := Int.ediv_nonneg W0 (Int.le_of_lt D0)
    generalize hr : W % D = r at *
    generalize hQ : W / D = Q at *
    have pl := big_plus8 r r r0 r0 (by omega)
    -- the bit is put in
    have put : (fun (j : Nat) => bif Nat.beq j 0 then IntKind.wrap IntKind.u64 (Int.ofNat (BitVec.toNat (BitVec.ofInt 64 (dig (r + r) 0) ||| BitVec.ofInt 64 b))) else dig (r + r) j) = dig (r + r + b) := by
      have d0 := dig_ok (r + r) 0 (by omega)
      have ev : dig (r + r) 0 % 2 ^ 1 = 0 := by
        rw [dig_at _ (by omega), show (4294967296 : Int) ^ 0 = 1 from rfl, show (2 : Int) ^ 1 = 2 from rfl, Int.ediv_one]; omega
      have orr : IntKind.wrap IntKind.u64 (Int.ofNat (BitVec.toNat (BitVec.ofInt 64 (dig (r + r) 0) ||| BitVec.ofInt 64 b))) = dig (r + r) 0 + b := by
        rw [BitVec.or_comm, or_apart b _ 1 b01.1 (by rw [show (2 : Int) ^ 1 = 2 from rfl]; omega) d0.1 (by omega) (by omega) ev, wrap_u64]; omega
      rw [orr]
      refine dig_uniq (put_ok (dig_ok _) (by omega) (by rw [show (2 : Int) ^ 1 = 2 from rfl] at ev; omega)) (put_hi (by omega) fun j hj => dig_hi _ hj) ?_
      rw [val_put (show 0 < 8 by omega), val_self _ (by omega) (by omega), show (4294967296 : Int) ^ 0 = 1 from rfl]; omega
    have ls := big_less8 (r + r + b) D (by omega) (by omega) (by omega) (by omega)
    simp only [S_astrolaberef1_divide_0, z, cond_true, pl, Option.bind_some, bt, put, ls, w0]
    have Ai : A / 2 ^ i = D * (2 * Q) + (r + r + b) := by rw [half2, ← rq]; grind
    by_cases l : r + r + b < D
    · rw [decide_eq_true l]
      simp only [Bool.not_true, cond_false]
      refine hc i _ (by omega) ⟨by omega, ?_⟩
      have e1 : A / 2 ^ i / D = 2 * Q := by rw [Ai, Int.add_comm, Int.add_mul_ediv_left _ _ (by omega), Int.ediv_eq_zero_of_lt (by omega) l, Int.zero_add]
      have e2 : A / 2 ^ i % D = r + r + b := by rw [Ai, Int.add_comm, Int.add_mul_emod_self_left, Int.emod_eq_of_lt (by omega) l]
      rw [e1, e2, pe, show Q * (2 ^ i * 2) = 2 * Q * 2 ^ i by grind]
    · rw [decide_eq_false l]
      have mi := big_minus8 (r + r + b) D (by omega) (by omega) (by omega)
      have td : Int.tdiv (i : Int) 32 = ((i / 32 : Nat) : Int) := by rw [Int.tdiv_eq_ediv_of_nonneg (by omega)]; omega
      have tm : Int.tmod (i : Int) 32 = ((i % 32 : Nat) : Int) := by rw [Int.tmod_eq_emod_of_nonneg (by omega)]; omega
      have g1 : IntKind.wrap .i64 ((i / 32 : Nat) : Int) = ((i / 32 : Nat) : Int) := wrap_i64 (by omega) (by omega)
      have g2 : IntKind.wrap .u64 ((i % 32 : Nat) : Int) = ((i % 32 : Nat) : Int) := by rw [wrap_u64]; omega
      have g5 : (!decide (((i % 32 : Nat) : Int) < 0)) = true := by rw [decide_eq_false (by omega)]; rfl
      have g6 : min (i % 32) 64 = i % 32 := by omega
      have m8 : i / 32 < 8 := by omega
      have dm : 32 * (i / 32) + i % 32 = i := Nat.div_add_mod i 32
      have r31 : i % 32 < 32 := Nat.mod_lt _ (by omega)
      have pi : (2 : Int) ^ i = 4294967296 ^ (i / 32) * 2 ^ (i % 32) := by rw [← p32, dm]
      have P1 : (0 : Int) < 2 ^ (i % 32) := pow_pos' _
      have P2 : (2 : Int) ^ (i % 32) ≤ 2147483648 := by
        have : (2 : Int) ^ (i % 32) ≤ 2 ^ 31 := pow_le_pow (by omega)
        have e : (2 : Int) ^ 31 = 2147483648 := rfl
        omega
      have g7 : IntKind.wrap .u64 (1 * 2 ^ (i % 32)) = 2 ^ (i % 32) := by rw [Int.one_mul, wrap_u64]; omega
      simp only [Bool.not_false, cond_true, mi, Option.bind_some, td, tm, g1, g2, g5, g6, g7, ix (i / 32) 8 m8, Int.toNat_natCast, bl8 m8, Bool.and_self]
      refine hc i _ (by omega) ⟨by omega, ?_⟩
      have e1 : A / 2 ^ i / D = 2 * Q + 1 := by
        have : A / 2 ^ i = r + r + b - D + D * (2 * Q + 1) := by rw [Ai]; grind
        rw [this, Int.add_mul_ediv_left _ _ (by omega), Int.ediv_eq_zero_of_lt (by omega) (by omega), Int.zero_add]
      have e2 : A / 2 ^ i % D = r + r + b - D := by
        have : A / 2 ^ i = r + r + b - D + D * (2 * Q + 1) := by rw [Ai]; grind
        rw [this, Int.add_mul_emod_self_left, Int.emod_eq_of_lt (by omega) (by omega)]
      rw [e1, e2]
      -- the bit of the quotient
      have qz : dig (Q * 2 ^ (i + 1)) (i / 32) % 2 ^ (i % 32 + 1) = 0 := by
        rw [dig_at _ m8, pe, pi, show Q * (4294967296 ^ (i / 32) * 2 ^ (i % 32) * 2) = 4294967296 ^ (i / 32) * (Q * 2 ^ (i % 32 + 1)) by rw [Int.pow_succ]; grind, Int.mul_ediv_cancel_left _ (by have := bpos (i / 32); omega)]
        have dv : (2 : Int) ^ (i % 32 + 1) ∣ 4294967296 := ⟨2 ^ (31 - i % 32), by rw [← Int.pow_add, show i % 32 + 1 + (31 - i % 32) = 32 by omega]; rfl⟩
        rw [Int.emod_emod_of_dvd _ dv, Int.mul_emod_left]
      have dq := dig_ok (Q * 2 ^ (i + 1)) (i / 32) m8
      have pe2 : (2 : Int) ^ (i % 32 + 1) = 2 ^ (i % 32) * 2 := Int.pow_succ _ _
      have orr : IntKind.wrap IntKind.u64 (Int.ofNat (BitVec.toNat (BitVec.ofInt 64 (dig (Q * 2 ^ (i + 1)) (i / 32)) ||| BitVec.ofInt 64 (2 ^ (i % 32))))) = dig (Q * 2 ^ (i + 1)) (i / 32) + 2 ^ (i % 32) := by
        rw [BitVec.or_comm, or_apart _ _ (i % 32 + 1) (by omega) (by omega) dq.1 (by omega) (by omega) qz, wrap_u64]; omega
      have room : dig (Q * 2 ^ (i + 1)) (i / 32) + 2 ^ (i % 32) < 4294967296 := by
        have f := Int.mul_ediv_add_emod (dig (Q * 2 ^ (i + 1)) (i / 32)) (2 ^ (i % 32 + 1))
        rw [qz, Int.add_zero] at f
        have RS : (4294967296 : Int) = 2 ^ (i % 32 + 1) * 2 ^ (31 - i % 32) := by rw [← Int.pow_add, show i % 32 + 1 + (31 - i % 32) = 32 by omega]; rfl
        have T0 := pow_pos' (i % 32 + 1)
        have g : dig (Q * 2 ^ (i + 1)) (i / 32) / 2 ^ (i % 32 + 1) < 2 ^ (31 - i % 32) := Int.ediv_lt_of_lt_mul T0 (by have k := dq.2; rw [RS, Int.mul_comm (2 ^ (i % 32 + 1))] at k; exact k)
        have h := Int.mul_le_mul_of_nonneg_left (show dig (Q * 2 ^ (i + 1)) (i / 32) / 2 ^ (i % 32 + 1) + 1 ≤ 2 ^ (31 - i % 32) by omega) (Int.le_of_lt T0)
        rw [← RS, Int.mul_add, f] at h
        omega
      rw [orr]
      have new : (fun (j : Nat) => bif Nat.beq j (i / 32) then dig (Q * 2 ^ (i + 1)) (i / 32) + 2 ^ (i % 32) else dig (Q * 2 ^ (i + 1)) j) = dig ((2 * Q + 1) * 2 ^ i) := by
        refine dig_uniq (put_ok (dig_ok _) (by omega) room) (put_hi m8 fun j hj => dig_hi _ hj) ?_
        rw [val_put m8, val_self _ (Int.mul_nonneg q0 (Int.le_of_lt (pow_pos' _))) (by omega)]
        rw [pi, pe, pi]; grind
      rw [new]
/-- a quotient, rounded: of two the one farther from 0 -/
def qdv (V D : Int) : Int := V / D + (if 2 * (V % D) < D then 0 else 1)
def rdv (a d : Int) : Int := if (decide (a < 0)) = (decide (d < 0)) then qdv (mg a) (mg d) else -qdv (mg a) (mg d)
theorem Big_Div (a d : Int) (ha : -170141183460469231731687303715884105728 ≤ a ∧ a ≤ 170141183460469231731687303715884105728) (hd : -170141183460469231731687303715884105728 ≤ d ∧ d ≤ 170141183460469231731687303715884105728) (nz : d ≠ 0) :
    f_astrolaberef1_Div (sg a) (dig (mg a)) (sg d) (dig (mg d)) = some (sg (rdv a d), dig (mg (rdv a d))) ∧ -340282366920938463463374607431768211456 ≤ rdv a d ∧ rdv a d ≤ 340282366920938463463374607431768211456 := by
  have A0 := mg_nn a
  have A1 : mg a ≤ 170141183460469231731687303715884105728 := by unfold mg; split <;> omega
  have D0 : 0 < mg d := by unfold mg; split <;> omega
  have D1 : mg d ≤ 170141183460469231731687303715884105728 := by unfold mg; split <;> omega
  have q0 := Int.ediv_nonneg A0 (Int.le_of_lt D0)
  have q1 := Int.ediv_le_self (mg d) A0
  have r0 := Int.emod_nonneg (mg a) (show mg d ≠ 0 by omega)
  have r1 := Int.emod_lt_of_pos (mg a) D0
  have qd : 0 ≤ qdv (mg a) (mg d) ∧ qdv (mg a) (mg d) ≤ 170141183460469231731687303715884105729 := by unfold qdv; split <;> omega
  have mr : mg (rdv a d) = qdv (mg a) (mg d) ∧ ((!sg a == sg d) = sg (rdv a d) ∨ rdv a d = 0) := by
    unfold rdv sg
    generalize qdv (mg a) (mg d) = q at *
    by_cases x : a < 0 <;> by_cases y : d < 0
    · rw [decide_eq_true x, decide_eq_true y, if_pos rfl, decide_eq_false (by omega)]
      exact ⟨by unfold mg; rw [if_neg (by omega)], .inl rfl⟩
    · rw [decide_eq_true x, decide_eq_false y, if_neg (by decide)]
      by_cases z : q = 0
      · subst z; exact ⟨rfl, .inr rfl⟩
      · rw [decide_eq_true (show -q < 0 by omega)]
        exact ⟨by unfold mg; rw [if_pos (by omega)]; omega, .inl rfl⟩
    · rw [decide_eq_false x, decide_eq_true y, if_neg (by decide)]
      by_cases z : q = 0
      · subst z; exact ⟨rfl, .inr rfl⟩
      · rw [decide_eq_true (show -q < 0 by omega)]
        exact ⟨by unfold mg; rw [if_pos (by omega)]; omega, .inl rfl⟩
    · rw [decide_eq_false x, decide_eq_false y, if_pos rfl, decide_eq_false (by omega)]
      exact ⟨by unfold mg; rw [if_neg (by omega)], .inl rfl⟩
  refine ⟨?_, by unfold rdv; split <;> omega, by unfold rdv; split <;> omega⟩
  unfold f_astrolaberef1_Div K_astrolaberef1_Div
  rw [Big_divide (mg a) (mg d) A0 (by omega) D0 (by omega), Option.bind_some]
  simp only
  rw [big_plus8 _ _ r0 r0 (by omega), Option.bind_some, big_less8 _ _ (by omega) (by omega) (by omega) (by omega), Option.bind_some]
  have one : (fun (j : Nat) => bif Nat.beq j 0 then (1 : Int) else 0) = dig 1 := by
    funext j
    unfold dig
    by_cases c : j = 0
    · subst c; rw [if_pos (by omega)]; rfl
    · rw [nbq c, cond_false]
      split
      · have : (4294967296 : Int) ≤ 4294967296 ^ j := by
          have h2 : (4294967296 : Nat) ^ 1 ≤ 4294967296 ^ j := Nat.pow_le_pow_right (by decide) (by omega)
          have h3 : ((4294967296 ^ 1 : Nat) : Int) ≤ ((4294967296 ^ j : Nat) : Int) := by exact_mod_cast h2
          simpa using h3
        rw [Int.ediv_eq_zero_of_lt (by omega) (by omega)]; rfl
      · rfl
  by_cases l : mg a % mg d + mg a % mg d < mg d
  · rw [decide_eq_true l]
    simp only [Bool.not_true, cond_false]
    have e : mg a / mg d = mg (rdv a d) := by rw [mr.1]; unfold qdv; rw [if_pos (by omega), Int.add_zero]
    rw [e, made_sg (rdv a d) _ (by omega) mr.2, Option.bind_some]
  · rw [decide_eq_false l]
    simp only [Bool.not_false, cond_true]
    have e : mg a / mg d + 1 = mg (rdv a d) := by rw [mr.1]; unfold qdv; rw [if_neg (by omega)]
    rw [one, big_plus8 _ _ q0 (by omega) (by omega), Option.bind_some, e, made_sg (rdv a d) _ (by omega) mr.2, Option.bind_some]
end Go.Proofs.Ytcalippagaaikaa
