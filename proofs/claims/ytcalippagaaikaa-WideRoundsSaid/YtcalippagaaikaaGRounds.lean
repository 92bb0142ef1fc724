/-
  Quotients are rounded to the nearest, of two the one farther from 0 (P1.2): the statement of astrolabelaw1.WideRounds; no condition.
-/
import Derived.Test.YtcalippagaaikaaGA
import Derived.Test.YtcalippagaaikaaBJ
import Derived.Test.YtcalippagaaikaaWZ
import Derived.Test.YtcalippagaaikaaG4
set_option maxRecDepth 100000
set_option maxHeartbeats 4000000
set_option linter.unusedVariables false
set_option linter.unusedSimpArgs false
namespace Go.Proofs.Ytcalippagaaikaa
open Go.Ab
theorem wide_div (h l d : Int) (o : okW h l) (d0 : -9223372036854775808 ≤ d) (d1 : d ≤ 9223372036854775807) (nz : d ≠ 0) :
    f_wide_Div h l d = if -9223372036854775808 ≤ rdv (vW h l) d ∧ rdv (vW h l) d ≤ 9223372036854775807 then some (rdv (vW h l) d, true) else some (0, false) := by
  unfold f_wide_Div K_wide_Div
  have z : (d == 0) = false := by rw [beq_eq_false_iff_ne]; exact nz
  obtain ⟨ah, al, e1, a0, a1, a2, a3, a4⟩ := wide_abs h l o
  have e2 := abs64_eq d d0 d1
  rw [z, cond_false, e1, Option.bind_some, e2, Option.bind_some]
  simp only
  have D0 : 0 < mg d := by unfold mg; split <;> omega
  have D1 : mg d ≤ 9223372036854775808 := by unfold mg; split <;> omega
  have ed : (if d < 0 then -d else d) = mg d := rfl
  have va : ah * 18446744073709551616 + al = mg (vW h l) := by
    rw [a4]
    obtain ⟨o1, o2, o3, o4⟩ := o
    unfold mg
    simp only [vW]
    split <;> split <;> omega
  have sn : decide (h < 0) = decide (vW h l < 0) := by
    obtain ⟨o1, o2, o3, o4⟩ := o
    simp only [vW]
    by_cases c : h < 0
    · rw [decide_eq_true c, decide_eq_true (by omega)]
    · rw [decide_eq_false c, decide_eq_false (by omega)]
  rw [ed, sn]
  generalize vW h l = V at *
  have nz2 : (!decide (mg d = 0)) = true := by rw [decide_eq_false (by omega)]; rfl
  have r0 := Int.emod_nonneg ah (show mg d ≠ 0 by omega)
  have r1 := Int.emod_lt_of_pos ah D0
  have q0 := Int.ediv_nonneg a0 (Int.le_of_lt D0)
  have q1 := Int.ediv_le_self (mg d) a0
  have qe := Int.mul_ediv_add_emod ah (mg d)
  have dv := div64_eq (ah % mg d) al (mg d) r0 r1 (by omega) a2 a3
  rw [nz2, cond_true, cond_true, Int.tmod_eq_emod_of_nonneg a0, dv, Option.bind_some, Int.tdiv_eq_ediv_of_nonneg a0]
  simp only
  have w1 : IntKind.wrap .u64 (ah / mg d) = ah / mg d := by rw [wrap_u64]; omega
  -- the quotient of the whole
  have E : mg V = (ah % mg d * 18446744073709551616 + al) + mg d * (ah / mg d * 18446744073709551616) := by
    rw [← va]
    have : mg d * (ah / mg d * 18446744073709551616) = mg d * (ah / mg d) * 18446744073709551616 := by grind
    rw [this]; omega
  have Q : mg V / mg d = (ah % mg d * 18446744073709551616 + al) / mg d + ah / mg d * 18446744073709551616 := by
    rw [E, Int.add_mul_ediv_left _ _ (by omega)]
  have R : mg V % mg d = (ah % mg d * 18446744073709551616 + al) % mg d := by rw [E, Int.add_mul_emod_self_left]
  have n0 : 0 ≤ (ah % mg d * 18446744073709551616 + al) / mg d := Int.ediv_nonneg (by omega) (Int.le_of_lt D0)
  have n1 : (ah % mg d * 18446744073709551616 + al) / mg d < 18446744073709551616 := by
    refine Int.ediv_lt_of_lt_mul D0 ?_
    omega
  have t0 := Int.emod_nonneg (ah % mg d * 18446744073709551616 + al) (show mg d ≠ 0 by omega)
  have t1 := Int.emod_lt_of_pos (ah % mg d * 18446744073709551616 + al) D0
  rw [← R] at t0 t1 ⊢
  have w2 : IntKind.wrap .u64 (mg d - mg V % mg d) = mg d - mg V % mg d := by rw [wrap_u64]; omega
  rw [w1, w2]
  have sgn : (!decide (V < 0) == decide (d < 0)) = !decide ((decide (V < 0)) = (decide (d < 0))) := by
    cases decide (V < 0) <;> cases decide (d < 0) <;> rfl
  have qn : 0 ≤ qdv (mg V) (mg d) := by
    have := mg_nn V
    have := Int.ediv_nonneg this (Int.le_of_lt D0)
    unfold qdv; split <;> omega
  have fin : ∀ u v : Int, 0 ≤ u → 0 ≤ v → v < 18446744073709551616 → u * 18446744073709551616 + v = qdv (mg V) (mg d) →
      (Option.bind (f_wide_signed64 u v (!decide (V < 0) == decide (d < 0))) fun (d : Int × Bool) => some (d.1, d.2)) = if -9223372036854775808 ≤ rdv V d ∧ rdv V d ≤ 9223372036854775807 then some (rdv V d, true) else some (0, false) := by
    intro u v u0 v0 v1 e
    rw [wide_signed64 u v _ u0 v0 v1, e, sgn]
    unfold rdv
    generalize qdv (mg V) (mg d) = q at *
    by_cases s : (decide (V < 0)) = (decide (d < 0))
    · rw [if_pos s, decide_eq_true s]
      simp only [Bool.not_true, Bool.false_eq_true, if_false]
      by_cases c : q ≤ 9223372036854775807
      · rw [if_pos c, if_pos (by omega), Option.bind_some]
        have uz : u = 0 := by omega
        subst uz
        have : v = q := by omega
        rw [this]
      · rw [if_neg c, if_neg (by omega), Option.bind_some]
    · rw [if_neg s, decide_eq_false s]
      simp only [Bool.not_false, if_true]
      by_cases c : q ≤ 9223372036854775808
      · rw [if_pos c, if_pos (by omega), Option.bind_some]
        have uz : u = 0 := by omega
        subst uz
        have : v = q := by omega
        rw [this]
      · rw [if_neg c, if_neg (by omega), Option.bind_some]
  by_cases c : mg V % mg d ≥ mg d - mg V % mg d
  · rw [decide_eq_true c, cond_true]
    obtain ⟨u, v, e3, u0, u1, v0, v1, e4⟩ := big_plus' (ah / mg d) ((ah % mg d * 18446744073709551616 + al) / mg d) 0 1 q0 n0 (by omega) (by omega) n1 (by omega) (by omega)
    rw [e3, Option.bind_some]
    simp only
    refine fin u v u0 v0 v1 ?_
    rw [e4]; unfold qdv
    rw [if_neg (by omega), Q]; omega
  · rw [decide_eq_false c, cond_false]
    refine fin _ _ q0 n0 n1 ?_
    unfold qdv
    rw [if_pos (by omega), Q]; omega
theorem wideRounds_plain (x0 x1 x2 x3 : Int) (r0 : IntKind.min .i64 ≤ x0 ∧ x0 ≤ IntKind.max .i64) (r1 : IntKind.min .u64 ≤ x1 ∧ x1 ≤ IntKind.max .u64) (r2 : IntKind.min .i64 ≤ x2 ∧ x2 ≤ IntKind.max .i64) (r3 : IntKind.min .i64 ≤ x3 ∧ x3 ≤ IntKind.max .i64) :
    f_astrolabelaw1_WideRounds x0 x1 x2 x3 = some true := by
  unfold f_astrolabelaw1_WideRounds K_astrolabelaw1_WideRounds
  rw [wide_awake, Option.bind_some]
  simp only [Bool.not_true, cond_false]
  have h0 : -9223372036854775808 ≤ x0 ∧ x0 ≤ 9223372036854775807 := r0
  have h1 : 0 ≤ x1 ∧ x1 ≤ 18446744073709551615 := r1
  have h3 : -9223372036854775808 ≤ x3 ∧ x3 ≤ 9223372036854775807 := r3
  have o : okW x0 x1 := ⟨by omega, by omega, by omega, by omega⟩
  have vb := vW_bd o
  have lb := law_big x0 x1 o
  have bx : low255 (vW x0 x1) := by omega
  -- the part about division
  have dvp : (Option.bind (f_wide_Div x0 x1 x3) fun (d : Int × Bool) =>
                bif x3 == 0 then bif !d.2 then some (d.1 == 0) else some false
                else
                  Option.bind (f_astrolabelaw1_big x0 x1) fun (d_1 : Bool × (Nat → Int)) =>
                    Option.bind (f_astrolaberef1_Of x3) fun (d_2 : Bool × (Nat → Int)) =>
                      Option.bind (f_astrolaberef1_Div d_1.1 d_1.2 d_2.1 d_2.2) fun (d_3 : Bool × (Nat → Int)) =>
                        Option.bind (f_astrolaberef1_Fits d_3.1 d_3.2 63) fun (d_4 : Bool) =>
                          bif d.2 == d_4 then
                            bif d.2 then Option.bind (f_astrolaberef1_Small d_3.1 d_3.2) fun (d_5 : Int) => bif d.1 == d_5 then some true else bif !d.2 then some (d.1 == 0) else some false
                            else bif !d.2 then some (d.1 == 0) else some false
                          else some false) = some true := by
    by_cases z : x3 = 0
    · subst z
      have e : f_wide_Div x0 x1 0 = some (0, false) := rfl
      rw [e, Option.bind_some]; rfl
    · have zz : (x3 == 0) = false := by rw [beq_eq_false_iff_ne]; exact z
      obtain ⟨ed, q0, q1⟩ := Big_Div (vW x0 x1) x3 (by omega) (by omega) z
      have ft := Big_Fits (rdv (vW x0 x1) x3) 63 (by omega) (by omega)
      have ft' : f_astrolaberef1_Fits (sg (rdv (vW x0 x1) x3)) (dig (mg (rdv (vW x0 x1) x3))) 63 = some (decide (-(2 : Int) ^ 63 ≤ rdv (vW x0 x1) x3 ∧ rdv (vW x0 x1) x3 < 2 ^ 63)) := ft
      have p63 : (2 : Int) ^ 63 = 9223372036854775808 := rfl
      rw [p63] at ft'
      rw [wide_div x0 x1 x3 o h3.1 h3.2 z]
      by_cases c : -9223372036854775808 ≤ rdv (vW x0 x1) x3 ∧ rdv (vW x0 x1) x3 ≤ 9223372036854775807
      · rw [if_pos c, Option.bind_some]
        simp only
        rw [zz, cond_false, lb, Option.bind_some, Big_Of x3 h3.1 h3.2, Option.bind_some]
        simp only
        rw [ed, Option.bind_some]
        simp only
        rw [ft', Option.bind_some, decide_eq_true (by omega), beq_self_eq_true, cond_true, cond_true, Big_Small _ c.1 c.2, Option.bind_some, beq_self_eq_true, cond_true]
      · rw [if_neg c, Option.bind_some]
        simp only
        rw [zz, cond_false, lb, Option.bind_some, Big_Of x3 h3.1 h3.2, Option.bind_some]
        simp only
        rw [ed, Option.bind_some]
        simp only
        rw [ft', Option.bind_some, decide_eq_false (by omega)]; rfl
  by_cases s0 : x2 < 0
  · have e : f_wide_Round x0 x1 x2 = some (0, false) := by
      unfold f_wide_Round K_wide_Round
      rw [decide_eq_true s0, cond_true]
    rw [e, Option.bind_some, decide_eq_true s0, cond_true]
    simp only [cond_false, bne_self_eq_false]
    exact dvp
  by_cases s1 : x2 > 126
  · have e : f_wide_Round x0 x1 x2 = some (0, false) := by
      unfold f_wide_Round K_wide_Round
      rw [decide_eq_false s0, cond_false, decide_eq_true s1, cond_true]
    rw [e, Option.bind_some, decide_eq_false s0, cond_false, decide_eq_true s1, cond_true]
    simp only [cond_false, bne_self_eq_false]
    exact dvp
  obtain ⟨s, rfl⟩ : ∃ s : Nat, x2 = Int.ofNat s := ⟨x2.toNat, by simp only [Int.ofNat_eq_natCast]; omega⟩
  have hs : s ≤ 126 := by simp only [Int.ofNat_eq_natCast] at s1; omega
  have rl := rnd_le (vW x0 x1) s 170141183460469231731687303715884105728 (by omega) (by omega)
  have er := Big_Round (vW x0 x1) s hs bx
  have er' : f_astrolaberef1_Round (sg (vW x0 x1)) (dig (mg (vW x0 x1))) (Int.ofNat s) = some (sg (rnd (vW x0 x1) s), dig (mg (rnd (vW x0 x1) s))) := er
  have ft := Big_Fits (rnd (vW x0 x1) s) 63 (by omega) (by omega)
  have ft' : f_astrolaberef1_Fits (sg (rnd (vW x0 x1) s)) (dig (mg (rnd (vW x0 x1) s))) 63 = some (decide (-(2 : Int) ^ 63 ≤ rnd (vW x0 x1) s ∧ rnd (vW x0 x1) s < 2 ^ 63)) := ft
  have p63 : (2 : Int) ^ 63 = 9223372036854775808 := rfl
  rw [p63] at ft'
  rw [wide_round x0 x1 s hs o, decide_eq_false s0, decide_eq_false s1]
  by_cases c : -9223372036854775808 ≤ rnd (vW x0 x1) s ∧ rnd (vW x0 x1) s ≤ 9223372036854775807
  · rw [if_pos c, Option.bind_some]
    simp only [cond_false]
    rw [lb, Option.bind_some]
    simp only
    rw [er', Option.bind_some]
    simp only
    rw [ft', Option.bind_some, decide_eq_true (by omega)]
    simp only [beq_self_eq_true, Bool.not_true, cond_false, cond_true]
    rw [Big_Small _ c.1 c.2, Option.bind_some, bne_self_eq_false, cond_false]
    rw [lb] at dvp
    simp only [Option.bind_some] at dvp
    exact dvp
  · rw [if_neg c, Option.bind_some]
    simp only [cond_false]
    rw [lb, Option.bind_some]
    simp only
    rw [er', Option.bind_some]
    simp only
    rw [ft', Option.bind_some, decide_eq_false (by omega)]
    simp only [beq_self_eq_true, Bool.not_true, Bool.not_false, cond_false, cond_true, bne_self_eq_false]
    rw [lb] at dvp
    simp only [Option.bind_some] at dvp
    exact dvp
theorem wideRounds_ev (f : (Int) → (Int) → (Int) → (Int) → Option Bool) (x0_0 : Int) (x0_1 : Int) (x1_0 : Int) (x2_0 : Int) : F_astrolabelaw1_WideRounds f [.r (.agg [.c (.f (.i .i64 x0_0)), .c (.f (.i .u64 x0_1))]), .r (.c (.f (.i .i64 x1_0))), .r (.c (.f (.i .i64 x2_0)))] [] = .opt (f x0_0 x0_1 x1_0 x2_0) fun d => .leaf ⟨.r (.c (.f (.b d))), [], []⟩ := by kernel_rfl
theorem wideRounds_trues : Trues (F_astrolabelaw1_WideRounds f_astrolabelaw1_WideRounds) [.flat true [.c (.i .i64), .c (.i .u64)], .flat false [.c (.i .i64)], .flat false [.c (.i .i64)]] := fun ds h => by
  obtain ⟨_, _, rfl, q0_0, g0⟩ := fit_flat h
  obtain ⟨x0_0, _, rfl, r0_0, q0_1⟩ := f1_i q0_0
  obtain ⟨x0_1, _, rfl, r0_1, q0_2⟩ := f1_i q0_1
  obtain rfl := f1_nil q0_2
  obtain ⟨_, _, rfl, q1_0, g1⟩ := fit_flat g0
  obtain ⟨x1_0, _, rfl, r1_0, q1_1⟩ := f1_i q1_0
  obtain rfl := f1_nil q1_1
  obtain ⟨_, _, rfl, q2_0, g2⟩ := fit_flat g1
  obtain ⟨x2_0, _, rfl, r2_0, q2_1⟩ := f1_i q2_0
  obtain rfl := f1_nil q2_1
  obtain rfl := fit_nil g2
  refine ⟨[], (congrArg T.eval (wideRounds_ev f_astrolabelaw1_WideRounds x0_0 x0_1 x1_0 x2_0)).trans ?_⟩
  rw [wideRounds_plain x0_0 x0_1 x1_0 x2_0 r0_0 r0_1 r1_0 r2_0]
  rfl
set_option maxRecDepth 100000 in
theorem wideRounds_lifted (os : Os) (started : os.Started) (H : Type) (enc : TypeId × Value → H) :
    ReturnsInHanded {} Try.checked os 5 .any (Rows.wideRoundsSpec.pre6 enc Try.prog Try.f5 Rows.wideRoundsRow.domain false) (Rows.wideRoundsSpec.post enc Try.prog Try.f5 false true false false) :=
  law_lift (C := Try.checked) (tb := Try.f5.resultTypes.getD 0 0) own started (by kernel_rfl) Try.func5 laid (by kernel_rfl) (by kernel_rfl) (by kernel_rfl) rfl
    (fun ds h => by
      have h : ds.length = 3 := h.trans (by kernel_rfl)
      match ds, h with
      | [_, _, _], _ => rfl)
    (ChangeSpec.witness6 (enc := enc) (C := Try.checked) false ⟨#[], #[.agg #[.int .i64 0, .int .u64 0], .int .i64 0, .int .i64 0], []⟩ 8 (by kernel_rfl) (by kernel_rfl) (by kernel_rfl) (by kernel_rfl))
    (fun W base args ds ps _ hval ht hz _ _ => prm_calls (pr := [.flat true [.c (.i .i64), .c (.i .u64)], .flat false [.c (.i .i64)], .flat false [.c (.i .i64)]]) s_astrolabelaw1_WideRounds (by kernel_rfl) (ts := Try.f5.params.toList) (by kernel_rfl) (by kernel_rfl) wideRounds_trues hval ht hz)
theorem wideRounds_over : Rows.wideRoundsRow.holds Try.pinned (OpenSpec.ofChange Rows.wideRoundsSpec) :=
  OpenClaim.holds_of_wide 5 Try.f5 rfl rfl rfl rfl rfl rfl rfl ⟨rfl, rfl, rfl, rfl, rfl⟩ rfl rfl rfl rfl rfl (by kernel_rfl) Try.func5 (by kernel_rfl)
    (of_decide_eq_true (by kernel_rfl)) (by unfold Func.isWrapper; first | (rw [if_pos (by decide +kernel)]; kernel_rfl) | (rw [if_neg (by decide +kernel)]; exact ⟨rfl, rfl⟩))
    (fun os started H enc _ => wideRounds_lifted os started H enc)
/-- the statement -/
theorem wideRounds_proved : Rows.WideRoundsSaid := wideRounds_over
#print axioms wideRounds_proved
end Go.Proofs.Ytcalippagaaikaa
