/-
  The second reckoner (astrolaberef2) in plain arithmetic: the root of a sum of squares.
-/
import Derived.Test.YthbnojedlbeglaaR3
import Derived.Test.YthbnojedlbeglaaR2
import Derived.Test.YthbnojedlbeglaaREB
set_option maxRecDepth 100000
set_option maxHeartbeats 4000000
set_option linter.unusedVariables false
set_option linter.unusedSimpArgs false
namespace Go.Proofs.Ythbnojedlbeglaa
open Go.Ab
theorem ref_root (h l r : Int) (o : okR h l) (b : h * 18446744073709551616 + l < 170141183460469231731687303715884105728) (hr : isR r (h * 18446744073709551616 + l)) :
    f_astrolaberef2_root h l false = some (r / 18446744073709551616, r % 18446744073709551616) := by
  obtain ⟨o1, o2, o3, o4⟩ := o
  have o := (⟨o1, o2, o3, o4⟩ : okR h l)
  have hV : h * 18446744073709551616 + l = h * 18446744073709551616 + l := rfl
  generalize hVV : h * 18446744073709551616 + l = V at *
  have v0 : 0 ≤ V := by omega
  obtain ⟨q, q0, q1, q2⟩ := sqrt_exI V v0
  have qb : q < 13043817825332782213 := sq_lt q0 (by omega) (by omega)
  have q3 : (q + 1) * (q + 1) = q * q + 2 * q + 1 := by grind
  have r1 : r = if q < V - q * q then q + 1 else q := by
    refine isR_uniq hr ?_
    split
    · rename_i c
      exact ⟨by omega, by omega, Or.inr (by omega)⟩
    · rename_i c
      refine ⟨q0, by omega, ?_⟩
      rcases Int.lt_or_le 0 q with k | k
      · exact Or.inr (by omega)
      · exact Or.inl (by omega)
  unfold f_astrolaberef2_root K_astrolaberef2_root L_astrolaberef2_root_0
  refine loopK_inv (fun t d => ∃ (p c : Int), t ≤ 64 ∧ 0 ≤ p ∧ p = c * 2 ^ t ∧ p * p ≤ V ∧ V < (p + 2 ^ t) * (p + 2 ^ t) ∧ d = (p, (t : Int) - 1, h, l, false)) ?_ 200 64 _ (by omega)
    ⟨0, 0, by omega, by omega, by omega, by omega, by
      have : (2 : Int) ^ 64 = 18446744073709551616 := rfl
      omega, rfl⟩
  rintro t _ k ⟨p, c, t0, p0, pc, p1, p2, rfl⟩ hk
  rcases Nat.eq_zero_or_pos t with z | z
  · subst z
    have e1 : (2 : Int) ^ 0 = 1 := rfl
    rw [e1] at p2
    have pq : p = q := by
      have h1 : p < q + 1 := sq_lt p0 (by omega) (by omega)
      have h2 : q < p + 1 := sq_lt q0 (by omega) (by omega)
      omega
    subst pq
    have g0 : decide (((0 : Nat) : Int) - 1 ≥ 0) = false := by decide
    have pp : 0 ≤ p * p := mul_nn p0 p0
    obtain ⟨u, v, n, e2, o2', e3, e4⟩ := ref_sum h l (p * p / 18446744073709551616) (p * p % 18446744073709551616) false true o ⟨by omega, by omega, by omega, by omega⟩ (by omega)
    have mag : u * 18446744073709551616 + v = V - p * p := by
      obtain ⟨w1, w2, w3, w4⟩ := o2'
      unfold rV at e3
      simp only [Bool.false_eq_true, if_false, if_true] at e3
      cases n <;> simp only [Bool.false_eq_true, if_false, if_true] at e3 <;> omega
    obtain ⟨w1, w2, w3, w4⟩ := o2'
    have w5 : IntKind.wrap .u64 (p + 1) = p + 1 := by rw [wrap_u64]; omega
    have ne : (p + 1 == 0) = false := by rw [beq_eq_false_iff_ne]; omega
    simp only [S_astrolaberef2_root_0, g0, cond_false, ref_product p p p0 (by omega) p0 (by omega), Option.bind_some, e2, w5, ne]
    by_cases cc : p < V - p * p
    · rw [if_pos cc] at r1
      by_cases c1 : u > 0
      · rw [decide_eq_true c1, cond_true, r1]
        refine congrArg some (Prod.ext ?_ ?_) <;> simp only <;> omega
      · rw [decide_eq_false c1, cond_false, decide_eq_true (show v > p by omega), cond_true, r1]
        refine congrArg some (Prod.ext ?_ ?_) <;> simp only <;> omega
    · rw [if_neg cc] at r1
      rw [decide_eq_false (show ¬ u > 0 by omega), cond_false, decide_eq_false (show ¬ v > p by omega), cond_false, r1]
      refine congrArg some (Prod.ext ?_ ?_) <;> simp only <;> omega
  · obtain ⟨m, rfl⟩ : ∃ m, t = m + 1 := ⟨t - 1, by omega⟩
    have P2 : (2 : Int) ^ (m + 1) = 2 ^ m * 2 := Int.pow_succ _ _
    have P0 := pow_pos' m
    have PB : (2 : Int) ^ m ≤ 2 ^ 63 := pow_le_pow (by omega)
    have PBv : (2 : Int) ^ 63 = 9223372036854775808 := rfl
    have at0 : ((m + 1 : Nat) : Int) - 1 = (m : Int) := by omega
    rw [at0]
    have g0 : decide ((m : Int) ≥ 0) = true := decide_eq_true (by omega)
    have g1 : IntKind.wrap .i64 ((m : Int) - 1) = (m : Int) - 1 := wrap_i64 (by omega) (by omega)
    have g2 : IntKind.wrap .u64 (m : Int) = (m : Int) := by rw [wrap_u64]; omega
    have g3 : (!decide ((m : Int) < 0)) = true := by rw [decide_eq_false (by omega)]; rfl
    have g4 : min (Int.toNat (m : Int)) 64 = m := by rw [Int.toNat_natCast]; omega
    have g5 : IntKind.wrap .u64 (1 * 2 ^ m) = 2 ^ m := by rw [Int.one_mul, wrap_u64]; omega
    have pb : p ≤ 13043817825332782212 := by
      have : p < 13043817825332782213 := sq_lt p0 (by omega) (by omega)
      omega
    have pm : p % 2 ^ (m + 1) = 0 := by rw [pc]; exact Int.mul_emod_left _ _
    -- what stands at the place and above is a multiple: it leaves room for the bit
    have room : p + 2 ^ m < 18446744073709551616 := by
      rcases Nat.lt_or_ge m 62 with c1 | c1
      · have : (2 : Int) ^ m ≤ 2 ^ 61 := pow_le_pow (by omega)
        have : (2 : Int) ^ 61 = 2305843009213693952 := rfl
        omega
      · rcases Nat.lt_or_ge m 63 with c2 | c2
        · obtain rfl : m = 62 := by omega
          have : (2 : Int) ^ 62 = 4611686018427387904 := rfl
          omega
        · obtain rfl : m = 63 := by omega
          have e63 : (2 : Int) ^ (63 + 1) = 18446744073709551616 := rfl
          have : p = 0 := by
            rw [e63] at pc
            omega
          omega
    have orr : IntKind.wrap .u64 (Int.ofNat (BitVec.toNat (BitVec.ofInt 64 p ||| BitVec.ofInt 64 (2 ^ m)))) = p + 2 ^ m := by
      rw [BitVec.or_comm, or_apart _ _ (m + 1) (by omega) (by omega) p0 (by omega) (by omega) pm, wrap_u64]; omega
    have xx : 0 ≤ (p + 2 ^ m) * (p + 2 ^ m) := mul_nn (by omega) (by omega)
    have e3' : (p + 2 ^ m) * (p + 2 ^ m) / 18446744073709551616 * 18446744073709551616 + (p + 2 ^ m) * (p + 2 ^ m) % 18446744073709551616 = (p + 2 ^ m) * (p + 2 ^ m) := by omega
    simp only [S_astrolaberef2_root_0, g0, g1, g2, g3, g4, g5, cond_true, orr, ref_product (p + 2 ^ m) (p + 2 ^ m) (by omega) room (by omega) room, Option.bind_some,
      ref_less h l _ _ false false o3 o4 (show 0 ≤ (p + 2 ^ m) * (p + 2 ^ m) % 18446744073709551616 by omega) (show (p + 2 ^ m) * (p + 2 ^ m) % 18446744073709551616 < 18446744073709551616 by omega), hVV, e3']
    have at1 : (m : Int) - 1 = ((m : Nat) : Int) - 1 := rfl
    rw [P2] at pc p2
    by_cases cc : V < (p + 2 ^ m) * (p + 2 ^ m)
    · rw [decide_eq_true cc]
      simp only [Bool.not_true, cond_false]
      exact hk m _ (by omega) ⟨p, c * 2, by omega, p0, by rw [pc]; grind, p1, cc, rfl⟩
    · rw [decide_eq_false cc]
      simp only [Bool.not_false, cond_true]
      refine hk m _ (by omega) ⟨p + 2 ^ m, c * 2 + 1, by omega, by omega, by rw [pc]; grind, by omega, ?_, rfl⟩
      have : p + 2 ^ m + 2 ^ m = p + 2 ^ m * 2 := by omega
      rw [this]; exact p2
theorem sumF_nn' {f : Nat → Int} (n : Nat) (h : ∀ j, 0 ≤ f j) : 0 ≤ sumF f n := by
  induction n with
  | zero => exact Int.le_refl _
  | succ n ih => have := h n; rw [sumF]; omega
theorem sq_nn' (x : Int) : 0 ≤ x * x := by
  rcases Int.le_total 0 x with h | h
  · exact mul_nn h h
  · have := mul_nn (a := -x) (b := -x) (by omega) (by omega)
    rw [Int.neg_mul_neg] at this
    exact this
/-- where a sum is not below 0, its size is the number -/
theorem rV_mag {h l : Int} {n : Bool} {v : Int} (o : okR h l) (e : rV h l n = v) (h0 : 0 ≤ v) : h * 18446744073709551616 + l = v := by
  obtain ⟨w1, w2, w3, w4⟩ := o
  unfold rV at e
  cases n <;> simp only [Bool.false_eq_true, if_false, if_true] at e <;> omega
theorem ref_hypot (n : Nat) (hn : n ≤ 60) (hit w : Bool) (f : Nat → Int) (r : Int) (hr : isR r (sumF (fun j => sat (f j) * sat (f j)) n)) :
    f___astrolaberef2_Acc__Hypot n hit f w = some (sat r, (hit || anyF (fun j => over (f j)) n) || over r) := by
  unfold f___astrolaberef2_Acc__Hypot K___astrolaberef2_Acc__Hypot L___astrolaberef2_Acc__Hypot_0
  refine loopK_inv (fun t d => ∃ (i : Nat) (h l' : Int), i + t = n ∧ okR h l' ∧ h * 18446744073709551616 + l' ≤ i * 1329227995784915872903807060280344576 ∧ rV h l' false = sumF (fun j => sat (f j) * sat (f j)) i ∧ d = (n, w, Int.ofNat i, (hit || anyF (fun j => over (f j)) i), n, f, h, l', false)) ?_ 200 n _ (by omega)
    ⟨0, 0, 0, by omega, ⟨by omega, by omega, by omega, by omega⟩, by omega, rfl, by simp only [anyF, Bool.or_false]; rfl⟩
  rintro t _ c ⟨i, h, l', hi, ho, hb, hv, rfl⟩ hc
  rcases Nat.eq_zero_or_pos t with t0 | t0
  · have e : i = n := by omega
    subst e
    have nn := sumF_nn' (f := fun j => sat (f j) * sat (f j)) i fun j => sq_nn' _
    have mag := rV_mag ho hv nn
    rw [← mag] at hr
    have hr0 := hr.1
    have rb : r < 18446744073709551616 := by
      rcases Int.lt_or_le r 18446744073709551616 with k | k
      · exact k
      · exfalso
        rcases hr.2.2 with z | z
        · omega
        · have p := mul_nn (a := r - 18446744073709551616) (b := r + 18446744073709551615) (by omega) (by omega)
          have e : (r - 18446744073709551616) * (r + 18446744073709551615) = r * r - r - 340282366920938463444927863358058659840 := by grind
          omega
    have z : r / 18446744073709551616 * 18446744073709551616 + r % 18446744073709551616 = r := by omega
    simp only [S___astrolaberef2_Acc__Hypot_0, idx_ge (Nat.le_refl i), cond_false, Sum.elim_inr, ref_root h l' r ho (by omega) hr, Option.bind_some,
      ref_end (r / 18446744073709551616) (r % 18446744073709551616) false _ ⟨by omega, by omega, by omega, by omega⟩, rV, Bool.false_eq_true, if_false, z]
  · obtain ⟨h1, l1, k1, e1, o1, v1, b1⟩ := ref_mul (sat (f i)) (sat (f i)) (sat_le _) (sat_le _)
    obtain ⟨h2, l2, k2, e2, o2, v2, b2⟩ := ref_sum h l' h1 l1 false k1 ho o1 (by omega)
    have k1f : k1 = false := by
      unfold f_astrolaberef2_mul K_astrolaberef2_mul at e1
      rw [ref_size _ (sat_le _).1 (sat_le _).2, Option.bind_some, Option.bind_some] at e1
      obtain ⟨d, hd, e3⟩ := Option.bind_eq_some_iff.1 e1
      cases e3
      cases decide (sat (f i) < 0) <;> rfl
    subst k1f
    have k2f : k2 = false := by
      obtain ⟨h3, l3, e3, o3, v3⟩ := ref_plus h l' h1 l1 false ho o1 (by omega)
      rw [e3] at e2
      cases e2
      rfl
    subst k2f
    rw [hv, v1] at v2
    have q : Int.toNat (Int.ofNat i) = i := rfl
    have z : decide (Int.ofNat i < 64) = true := by simp only [Int.ofNat_eq_natCast]; exact decide_eq_true (by omega)
    simp only [S___astrolaberef2_Acc__Hypot_0, idx_lt hi t0, z, idx_in (show i < n by omega), cond_true, q, ref_sat, Option.bind_some, e1, e2, idx_up (show i < 9000000000000000000 by omega)]
    refine hc (t - 1) _ (by omega) ⟨i + 1, h2, l2, by omega, o2, by omega, v2, ?_⟩
    simp only [anyF, Bool.or_assoc]
end Go.Proofs.Ythbnojedlbeglaa
