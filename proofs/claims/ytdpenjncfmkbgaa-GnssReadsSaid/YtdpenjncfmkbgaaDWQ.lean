/-
  Quotients of 128 bits, rounded, and clamped, in plain arithmetic.
-/
import Derived.Test.YtdpenjncfmkbgaaDWZ
set_option maxRecDepth 100000
set_option maxHeartbeats 4000000
set_option linter.unusedVariables false
set_option linter.unusedSimpArgs false
namespace Go.Proofs.Ytdpenjncfmkbgaa
open Go.Ab
theorem big_plus' (h1 l1 h2 l2 : Int) (a0 : 0 ≤ h1) (b0 : 0 ≤ l1) (c0 : 0 ≤ h2) (d0 : 0 ≤ l2) (b1 : l1 < 18446744073709551616) (d1 : l2 < 18446744073709551616)
    (h : h1 * 18446744073709551616 + l1 + (h2 * 18446744073709551616 + l2) < 340282366920938463463374607431768211456) :
    ∃ h' l', f__wide_big__plus h1 l1 h2 l2 = some (h', l') ∧ 0 ≤ h' ∧ h' < 18446744073709551616 ∧ 0 ≤ l' ∧ l' < 18446744073709551616 ∧ h' * 18446744073709551616 + l' = h1 * 18446744073709551616 + l1 + (h2 * 18446744073709551616 + l2) := by
  rw [big_plus h1 l1 h2 l2 a0 b0 c0 d0 b1 d1]
  refine ⟨_, _, rfl, ?_, ?_, ?_, ?_, ?_⟩ <;> omega
theorem mul_nn {a b : Int} (ha : 0 ≤ a) (hb : 0 ≤ b) : 0 ≤ a * b := Int.mul_nonneg ha hb
def mgq (x : Int) : Int := if x < 0 then -x else x
theorem mgq_nn (x : Int) : 0 ≤ mgq x := by unfold mgq; split <;> omega
/-- a quotient, rounded: of two the one farther from 0 -/
def qdq (V D : Int) : Int := V / D + (if 2 * (V % D) < D then 0 else 1)
def rdq (a d : Int) : Int := if (decide (a < 0)) = (decide (d < 0)) then qdq (mgq a) (mgq d) else -qdq (mgq a) (mgq d)
theorem wide_quo (h l d : Int) (o : okW h l) (d0 : -9223372036854775808 ≤ d) (d1 : d ≤ 9223372036854775807) (nz : d ≠ 0) :
    f_wide_Div h l d = if -9223372036854775808 ≤ rdq (vW h l) d ∧ rdq (vW h l) d ≤ 9223372036854775807 then some (rdq (vW h l) d, true) else some (0, false) := by
  unfold f_wide_Div K_wide_Div
  have z : (d == 0) = false := by rw [beq_eq_false_iff_ne]; exact nz
  obtain ⟨ah, al, e1, a0, a1, a2, a3, a4⟩ := wide_abs h l o
  have e2 := abs64_eq d d0 d1
  rw [z, cond_false, e1, Option.bind_some, e2, Option.bind_some]
  simp only
  have D0 : 0 < mgq d := by unfold mgq; split <;> omega
  have D1 : mgq d ≤ 9223372036854775808 := by unfold mgq; split <;> omega
  have ed : (if d < 0 then -d else d) = mgq d := rfl
  have va : ah * 18446744073709551616 + al = mgq (vW h l) := by
    rw [a4]
    obtain ⟨o1, o2, o3, o4⟩ := o
    unfold mgq
    simp only [vW]
    split <;> split <;> omega
  have sn : decide (h < 0) = decide (vW h l < 0) := by
    obtain ⟨o1, o2, o3, o4⟩ := o
    simp only [vW]
    by_cases c : h < 0
    · rw [decide_eq_true c, decide_eq_true (by omega)]
    · rw [decide_eq_false c, decide_eq_false (by omega)]
  rw [ed, sn]
  generalize vW h l = V at *
  have nz2 : (!decide (mgq d = 0)) = true := by rw [decide_eq_false (by omega)]; rfl
  have r0 := Int.emod_nonneg ah (show mgq d ≠ 0 by omega)
  have r1 := Int.emod_lt_of_pos ah D0
  have q0 := Int.ediv_nonneg a0 (Int.le_of_lt D0)
  have q1 := Int.ediv_le_self (mgq d) a0
  have qe := Int.mul_ediv_add_emod ah (mgq d)
  have dv := div64_eq (ah % mgq d) al (mgq d) r0 r1 (by omega) a2 a3
  rw [nz2, cond_true, cond_true, Int.tmod_eq_emod_of_nonneg a0, dv, Option.bind_some, Int.tdiv_eq_ediv_of_nonneg a0]
  simp only
  have w1 : IntKind.wrap .u64 (ah / mgq d) = ah / mgq d := by rw [wrap_u64]; omega
  -- the quotient of the whole
  have E : mgq V = (ah % mgq d * 18446744073709551616 + al) + mgq d * (ah / mgq d * 18446744073709551616) := by
    rw [← va]
    have : mgq d * (ah / mgq d * 18446744073709551616) = mgq d * (ah / mgq d) * 18446744073709551616 := by grind
    rw [this]; omega
  have Q : mgq V / mgq d = (ah % mgq d * 18446744073709551616 + al) / mgq d + ah / mgq d * 18446744073709551616 := by
    rw [E, Int.add_mul_ediv_left _ _ (by omega)]
  have R : mgq V % mgq d = (ah % mgq d * 18446744073709551616 + al) % mgq d := by rw [E, Int.add_mul_emod_self_left]
  have n0 : 0 ≤ (ah % mgq d * 18446744073709551616 + al) / mgq d := Int.ediv_nonneg (by omega) (Int.le_of_lt D0)
  have n1 : (ah % mgq d * 18446744073709551616 + al) / mgq d < 18446744073709551616 := by
    refine Int.ediv_lt_of_lt_mul D0 ?_
    omega
  have t0 := Int.emod_nonneg (ah % mgq d * 18446744073709551616 + al) (show mgq d ≠ 0 by omega)
  have t1 := Int.emod_lt_of_pos (ah % mgq d * 18446744073709551616 + al) D0
  rw [← R] at t0 t1 ⊢
  have w2 : IntKind.wrap .u64 (mgq d - mgq V % mgq d) = mgq d - mgq V % mgq d := by rw [wrap_u64]; omega
  rw [w1, w2]
  have sgn : (!decide (V < 0) == decide (d < 0)) = !decide ((decide (V < 0)) = (decide (d < 0))) := by
    cases decide (V < 0) <;> cases decide (d < 0) <;> rfl
  have qn : 0 ≤ qdq (mgq V) (mgq d) := by
    have := mgq_nn V
    have := Int.ediv_nonneg this (Int.le_of_lt D0)
    unfold qdq; split <;> omega
  have fin : ∀ u v : Int, 0 ≤ u → 0 ≤ v → v < 18446744073709551616 → u * 18446744073709551616 + v = qdq (mgq V) (mgq d) →
      (Option.bind (f_wide_signed64 u v (!decide (V < 0) == decide (d < 0))) fun (d : Int × Bool) => some (d.1, d.2)) = if -9223372036854775808 ≤ rdq V d ∧ rdq V d ≤ 9223372036854775807 then some (rdq V d, true) else some (0, false) := by
    intro u v u0 v0 v1 e
    rw [wide_signed64 u v _ u0 v0 v1, e, sgn]
    unfold rdq
    generalize qdq (mgq V) (mgq d) = q at *
    by_cases s : (decide (V < 0)) = (decide (d < 0))
    · rw [if_pos s, decide_eq_true s]
      simp only [Bool.not_true, Bool.false_eq_true, if_false]
      by_cases c : q ≤ 9223372036854775807
      · rw [if_pos c, if_pos (by omega), Option.bind_some]
        have uz : u = 0 := by omega
        subst uz
        have : v = q := by omega
        rw [this]
      · rw [if_neg c, if_neg (by omega), Option.bind_some]
    · rw [if_neg s, decide_eq_false s]
      simp only [Bool.not_false, if_true]
      by_cases c : q ≤ 9223372036854775808
      · rw [if_pos c, if_pos (by omega), Option.bind_some]
        have uz : u = 0 := by omega
        subst uz
        have : v = q := by omega
        rw [this]
      · rw [if_neg c, if_neg (by omega), Option.bind_some]
  by_cases c : mgq V % mgq d ≥ mgq d - mgq V % mgq d
  · rw [decide_eq_true c, cond_true]
    obtain ⟨u, v, e3, u0, u1, v0, v1, e4⟩ := big_plus' (ah / mgq d) ((ah % mgq d * 18446744073709551616 + al) / mgq d) 0 1 q0 n0 (by omega) (by omega) n1 (by omega) (by omega)
    rw [e3, Option.bind_some]
    simp only
    refine fin u v u0 v0 v1 ?_
    rw [e4]; unfold qdq
    rw [if_neg (by omega), Q]; omega
  · rw [decide_eq_false c, cond_false]
    refine fin _ _ q0 n0 n1 ?_
    unfold qdq
    rw [if_pos (by omega), Q]; omega
theorem rdq_sign (a d : Int) (nz : d ≠ 0) : ((decide (a < 0)) = (decide (d < 0)) → 0 ≤ rdq a d) ∧ (¬ (decide (a < 0)) = (decide (d < 0)) → rdq a d ≤ 0) := by
  have D0 : 0 < mgq d := by unfold mgq; split <;> omega
  have q := Int.ediv_nonneg (mgq_nn a) (Int.le_of_lt D0)
  have qn : 0 ≤ qdq (mgq a) (mgq d) := by unfold qdq; split <;> omega
  unfold rdq
  constructor
  · intro h; rw [if_pos h]; exact qn
  · intro h; rw [if_neg h]; omega
theorem acc_by (h l d : Int) (hit : Bool) (o : okW h l) (d0 : -9223372036854775808 ≤ d) (d1 : d ≤ 9223372036854775807) (nz : d ≠ 0) :
    f___fx_Acc__by h l d hit = some (sat (rdq (vW h l) d), hit || over (rdq (vW h l) d)) := by
  unfold f___fx_Acc__by K___fx_Acc__by
  have z : (d == 0) = false := by rw [beq_eq_false_iff_ne]; exact nz
  have sn : decide (h < 0) = decide (vW h l < 0) := by
    obtain ⟨o1, o2, o3, o4⟩ := o
    simp only [vW]
    by_cases c : h < 0
    · rw [decide_eq_true c, decide_eq_true (by omega)]
    · rw [decide_eq_false c, decide_eq_false (by omega)]
  rw [z, cond_false, wide_quo h l d o d0 d1 nz, sn]
  have s := rdq_sign (vW h l) d nz
  generalize vW h l = V at *
  by_cases c : -9223372036854775808 ≤ rdq V d ∧ rdq V d ≤ 9223372036854775807
  · rw [if_pos c, Option.bind_some]
    simp only [acc_end, if_true, Option.bind_some]
  · rw [if_neg c, Option.bind_some]
    simp only [acc_end, Bool.false_eq_true, if_false, Option.bind_some]
    by_cases e : (decide (V < 0)) = (decide (d < 0))
    · have p := s.1 e
      have e2 : (!decide (V < 0) == decide (d < 0)) = false := by rw [e, beq_self_eq_true]; rfl
      rw [e2]
      unfold sat over
      rw [if_neg (by decide), if_neg (by omega), if_pos (by omega), decide_eq_true (show 1152921504606846976 < rdq V d by omega), Bool.or_true, Bool.or_true]
    · have p := s.2 e
      have e2 : (!decide (V < 0) == decide (d < 0)) = true := by
        have : (decide (V < 0) == decide (d < 0)) = false := by rw [beq_eq_false_iff_ne]; exact e
        rw [this]; rfl
      rw [e2]
      unfold sat over
      rw [if_pos rfl, if_pos (by omega), decide_eq_true (show rdq V d < -1152921504606846976 by omega), Bool.true_or, Bool.or_true]
theorem acc_muldiv (a b d : Int) (hit : Bool) (nz : sat d ≠ 0) :
    f___fx_Acc__MulDiv a b d hit = some (sat (rdq (sat a * sat b) (sat d)), ((((hit || over a) || over b) || over d) || over (rdq (sat a * sat b) (sat d)))) := by
  unfold f___fx_Acc__MulDiv K___fx_Acc__MulDiv
  have := sat_le a
  have := sat_le b
  have := sat_le d
  obtain ⟨h, l, e1, e2, e3⟩ := wide_mul (sat a) (sat b) (by omega) (by omega) (by omega) (by omega)
  simp only [acc_sat, Option.bind_some, e1, acc_by h l (sat d) _ e2 (by omega) (by omega) nz, e3]
theorem acc_div (a b : Int) (s : Nat) (hit : Bool) (hs : s ≤ 66) (nz : sat b ≠ 0) :
    f___fx_Acc__Div a b (Int.ofNat s) hit = some (sat (rdq (sat a * 2 ^ s) (sat b)), (((hit || over a) || over b) || over (rdq (sat a * 2 ^ s) (sat b)))) := by
  unfold f___fx_Acc__Div K___fx_Acc__Div
  have ha := sat_le a
  have hb := sat_le b
  have P0 := pow_pos' s
  have PB : (2 : Int) ^ s ≤ 2 ^ 66 := pow_le_pow hs
  have PV : (2 : Int) ^ 66 = 73786976294838206464 := by decide
  have m1 : sat a * 2 ^ s ≤ 1152921504606846976 * 73786976294838206464 := by
    rcases Int.le_total 0 (sat a) with c | c
    · exact Int.mul_le_mul ha.2 (by omega) (Int.le_of_lt P0) (by omega)
    · have := mul_nn (a := -sat a) (b := 2 ^ s) (by omega) (Int.le_of_lt P0)
      rw [Int.neg_mul] at this; omega
  have m2 : -(1152921504606846976 * 73786976294838206464) ≤ sat a * 2 ^ s := by
    rcases Int.le_total 0 (sat a) with c | c
    · have := mul_nn c (Int.le_of_lt P0); omega
    · have := Int.mul_le_mul (show -sat a ≤ 1152921504606846976 by omega) (show (2 : Int) ^ s ≤ 73786976294838206464 by omega) (Int.le_of_lt P0) (by omega)
      rw [Int.neg_mul] at this; omega
  have mv : (1152921504606846976 : Int) * 73786976294838206464 = 85070591730234615865843651857942052864 := by decide
  obtain ⟨h, l, b', e1, o1, f1, v1, _⟩ := wide_shift (sat a) s (by omega) (by omega) (by omega)
  have bt : b' = true := f1.2 ⟨by omega, by omega⟩
  subst bt
  have n0 : decide (Int.ofNat s < 0) = false := by simp
  have n1 : decide (Int.ofNat s > 66) = false := by simp only [Int.ofNat_eq_natCast]; exact decide_eq_false (by omega)
  simp only [acc_sat, Option.bind_some, n0, n1, cond_false, e1, acc_by h l (sat b) _ o1 (by omega) (by omega) nz, v1 rfl]
/-- a part of a whole: all of it, none of it -/
theorem rdq_all (x d : Int) (h : 0 < d) : rdq (x * d) d = x := by
  have D : mgq d = d := by unfold mgq; rw [if_neg (by omega)]
  unfold rdq qdq
  rw [D]
  rcases Int.lt_or_le x 0 with c | c
  · have n : x * d < 0 := by
      have := Int.mul_pos (show 0 < -x by omega) h
      rw [Int.neg_mul] at this; omega
    have m : mgq (x * d) = -x * d := by unfold mgq; rw [if_pos n, Int.neg_mul]
    rw [decide_eq_true n, decide_eq_false (show ¬ d < 0 by omega), if_neg (by decide), m, Int.mul_ediv_cancel _ (by omega), Int.mul_emod_left, if_pos (by omega)]
    omega
  · have n : ¬ x * d < 0 := by have := Int.mul_nonneg c (Int.le_of_lt h); omega
    have m : mgq (x * d) = x * d := by unfold mgq; rw [if_neg n]
    rw [decide_eq_false n, decide_eq_false (show ¬ d < 0 by omega), if_pos rfl, m, Int.mul_ediv_cancel _ (by omega), Int.mul_emod_left, if_pos (by omega)]
    omega
theorem rdq_none (d : Int) (h : 0 < d) : rdq 0 d = 0 := by
  have := rdq_all 0 d h
  rw [Int.zero_mul] at this; exact this
end Go.Proofs.Ytdpenjncfmkbgaa
