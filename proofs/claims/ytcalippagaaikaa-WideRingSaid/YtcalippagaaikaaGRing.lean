/-
  Products are shared out over sums, turned and grouped as one likes; the order of numbers is that of their sums with a third one: the statement of astrolabelaw1.WideRing; no condition.
-/
import Derived.Test.YtcalippagaaikaaGA
set_option maxRecDepth 100000
set_option maxHeartbeats 4000000
set_option linter.unusedVariables false
set_option linter.unusedSimpArgs false
namespace Go.Proofs.Ytcalippagaaikaa
open Go.Ab
theorem wideRing_plain (x0 x1 x2 x3 x4 x5 x6 : Int) (r0 : IntKind.min .i64 ≤ x0 ∧ x0 ≤ IntKind.max .i64) (r1 : IntKind.min .i64 ≤ x1 ∧ x1 ≤ IntKind.max .i64) (r2 : IntKind.min .i64 ≤ x2 ∧ x2 ≤ IntKind.max .i64)
    (r3 : IntKind.min .i64 ≤ x3 ∧ x3 ≤ IntKind.max .i64) (r4 : IntKind.min .u64 ≤ x4 ∧ x4 ≤ IntKind.max .u64) (r5 : IntKind.min .i64 ≤ x5 ∧ x5 ≤ IntKind.max .i64) (r6 : IntKind.min .u64 ≤ x6 ∧ x6 ≤ IntKind.max .u64) :
    f_astrolabelaw1_WideRing x0 x1 x2 x3 x4 x5 x6 = some true := by
  unfold f_astrolabelaw1_WideRing K_astrolabelaw1_WideRing
  rw [wide_awake, Option.bind_some]
  simp only [Bool.not_true, cond_false]
  have h0 := tdiv4 x0 r0
  have h1 := tdiv4 x1 r1
  have h2 := tdiv4 x2 r2
  have h3 := tdiv4 x3 r3
  have h5 := tdiv4 x5 r5
  have h4 : 0 ≤ x4 ∧ x4 ≤ 18446744073709551615 := r4
  have h6 : 0 ≤ x6 ∧ x6 ≤ 18446744073709551615 := r6
  generalize IntKind.wrap .i64 (Int.tdiv x0 4) = a at *
  generalize IntKind.wrap .i64 (Int.tdiv x1 4) = b at *
  generalize IntKind.wrap .i64 (Int.tdiv x2 4) = d at *
  generalize IntKind.wrap .i64 (Int.tdiv x3 4) = u at *
  generalize IntKind.wrap .i64 (Int.tdiv x5 4) = v at *
  have m1 := mul_in h0 h1
  have m2 := mul_in h0 h2
  have mv : (2305843009213693952 : Int) * 2305843009213693952 = 5316911983139663491615228241121378304 := by decide
  obtain ⟨p1, q1, e1, o1, v1⟩ := wide_mul a b (by omega) (by omega) (by omega) (by omega)
  obtain ⟨p2, q2, e2, o2, v2⟩ := wide_mul a d (by omega) (by omega) (by omega) (by omega)
  obtain ⟨p3, q3, e3, o3, v3⟩ := wide_Add2 (fun (j : Nat) => bif Nat.beq j 1 then p2 else bif Nat.beq j 0 then p1 else p1) (fun (j : Nat) => bif Nat.beq j 1 then q2 else bif Nat.beq j 0 then q1 else q1) true
    o1 o2 (by show _ ≤ vW p1 q1 + vW p2 q2; omega) (by show vW p1 q1 + vW p2 q2 < _; omega)
  have v3 : vW p3 q3 = vW p1 q1 + vW p2 q2 := v3
  have w : IntKind.wrap .i64 (b + d) = b + d := wrap_i64 (by omega) (by omega)
  obtain ⟨p4, q4, e4, o4, v4⟩ := wide_mul a (b + d) (by omega) (by omega) (by omega) (by omega)
  obtain ⟨p5, q5, e5, o5, v5⟩ := wide_mul b a (by omega) (by omega) (by omega) (by omega)
  have s34 := vW_inj o3 o4 (by rw [v3, v1, v2, v4, Int.mul_add])
  have s15 := vW_inj o1 o5 (by rw [v1, v5, Int.mul_comm])
  obtain ⟨rfl, rfl⟩ := s34
  obtain ⟨rfl, rfl⟩ := s15
  have ox : okW u x4 := ⟨by omega, by omega, by omega, by omega⟩
  have oy : okW v x6 := ⟨by omega, by omega, by omega, by omega⟩
  have bx : -42535295865117307932921825928971026432 ≤ vW u x4 ∧ vW u x4 ≤ 42535295865117307951368570002680578048 := by simp only [vW]; omega
  have bY : -42535295865117307932921825928971026432 ≤ vW v x6 ∧ vW v x6 ≤ 42535295865117307951368570002680578048 := by simp only [vW]; omega
  obtain ⟨p6, q6, e6, o6, v6⟩ := wide_Add2 (fun (j : Nat) => bif Nat.beq j 1 then p3 else bif Nat.beq j 0 then u else u) (fun (j : Nat) => bif Nat.beq j 1 then q3 else bif Nat.beq j 0 then x4 else x4) true
    ox o3 (by show _ ≤ vW u x4 + vW p3 q3; omega) (by show vW u x4 + vW p3 q3 < _; omega)
  obtain ⟨p7, q7, e7, o7, v7⟩ := wide_Add2 (fun (j : Nat) => bif Nat.beq j 1 then p3 else bif Nat.beq j 0 then v else v) (fun (j : Nat) => bif Nat.beq j 1 then q3 else bif Nat.beq j 0 then x6 else x6) true
    oy o3 (by show _ ≤ vW v x6 + vW p3 q3; omega) (by show vW v x6 + vW p3 q3 < _; omega)
  have v6 : vW p6 q6 = vW u x4 + vW p3 q3 := v6
  have v7 : vW p7 q7 = vW v x6 + vW p3 q3 := v7
  have c1 := wide_cmp u x4 v x6 ox oy
  have c2 := wide_cmp p6 q6 p7 q7 o6 o7
  have c3 := wide_cmp v x6 u x4 oy ox
  have s : cmpI (vW p6 q6) (vW p7 q7) = cmpI (vW u x4) (vW v x6) := by
    rw [v6, v7]
    unfold cmpI
    by_cases z : vW u x4 = vW v x6
    · rw [if_pos (by omega), if_pos z]
    · rw [if_neg (by omega), if_neg z]
      by_cases z2 : vW u x4 < vW v x6
      · rw [if_pos (by omega), if_pos z2]
      · rw [if_neg (by omega), if_neg z2]
  have s2 : IntKind.wrap .i64 (0 - cmpI (vW v x6) (vW u x4)) = cmpI (vW u x4) (vW v x6) := by
    unfold cmpI
    rcases Int.lt_trichotomy (vW u x4) (vW v x6) with z | z | z
    · rw [if_neg (by omega), if_neg (by omega), if_neg (by omega), if_pos z]; decide
    · rw [if_pos z.symm, if_pos z]; decide
    · rw [if_neg (by omega), if_pos z, if_neg (by omega), if_neg (by omega)]; decide
  rw [e1, Option.bind_some, e2, Option.bind_some]
  simp only
  rw [e3, Option.bind_some]
  simp only [Bool.not_true, cond_false, w]
  rw [e4, Option.bind_some]
  simp only [beq_self_eq_true, Bool.and_self, Bool.not_true, cond_false]
  rw [Option.bind_some, e5, Option.bind_some]
  simp only [beq_self_eq_true, Bool.and_self, Bool.not_true, cond_false]
  rw [e6, Option.bind_some]
  simp only
  rw [e7, Option.bind_some]
  simp only [cond_true]
  rw [c1, Option.bind_some, c2, Option.bind_some, s, beq_self_eq_true, cond_true, Option.bind_some, c3, Option.bind_some, s2, beq_self_eq_true, cond_true, law_big u x4 ox, Option.bind_some]
  simp only
  rw [law_same u x4 (vW u x4) ox (by omega) (by omega), Option.bind_some, decide_eq_true rfl]
theorem wideRing_ev (f : (Int) → (Int) → (Int) → (Int) → (Int) → (Int) → (Int) → Option Bool) (x0_0 : Int) (x1_0 : Int) (x2_0 : Int) (x3_0 : Int) (x3_1 : Int) (x4_0 : Int) (x4_1 : Int) : F_astrolabelaw1_WideRing f [.r (.c (.f (.i .i64 x0_0))), .r (.c (.f (.i .i64 x1_0))), .r (.c (.f (.i .i64 x2_0))), .r (.agg [.c (.f (.i .i64 x3_0)), .c (.f (.i .u64 x3_1))]), .r (.agg [.c (.f (.i .i64 x4_0)), .c (.f (.i .u64 x4_1))])] [] = .opt (f x0_0 x1_0 x2_0 x3_0 x3_1 x4_0 x4_1) fun d => .leaf ⟨.r (.c (.f (.b d))), [], []⟩ := by kernel_rfl
theorem wideRing_trues : Trues (F_astrolabelaw1_WideRing f_astrolabelaw1_WideRing) [.flat false [.c (.i .i64)], .flat false [.c (.i .i64)], .flat false [.c (.i .i64)], .flat true [.c (.i .i64), .c (.i .u64)], .flat true [.c (.i .i64), .c (.i .u64)]] := fun ds h => by
  obtain ⟨_, _, rfl, q0_0, g0⟩ := fit_flat h
  obtain ⟨x0_0, _, rfl, r0_0, q0_1⟩ := f1_i q0_0
  obtain rfl := f1_nil q0_1
  obtain ⟨_, _, rfl, q1_0, g1⟩ := fit_flat g0
  obtain ⟨x1_0, _, rfl, r1_0, q1_1⟩ := f1_i q1_0
  obtain rfl := f1_nil q1_1
  obtain ⟨_, _, rfl, q2_0, g2⟩ := fit_flat g1
  obtain ⟨x2_0, _, rfl, r2_0, q2_1⟩ := f1_i q2_0
  obtain rfl := f1_nil q2_1
  obtain ⟨_, _, rfl, q3_0, g3⟩ := fit_flat g2
  obtain ⟨x3_0, _, rfl, r3_0, q3_1⟩ := f1_i q3_0
  obtain ⟨x3_1, _, rfl, r3_1, q3_2⟩ := f1_i q3_1
  obtain rfl := f1_nil q3_2
  obtain ⟨_, _, rfl, q4_0, g4⟩ := fit_flat g3
  obtain ⟨x4_0, _, rfl, r4_0, q4_1⟩ := f1_i q4_0
  obtain ⟨x4_1, _, rfl, r4_1, q4_2⟩ := f1_i q4_1
  obtain rfl := f1_nil q4_2
  obtain rfl := fit_nil g4
  refine ⟨[], (congrArg T.eval (wideRing_ev f_astrolabelaw1_WideRing x0_0 x1_0 x2_0 x3_0 x3_1 x4_0 x4_1)).trans ?_⟩
  rw [wideRing_plain x0_0 x1_0 x2_0 x3_0 x3_1 x4_0 x4_1 r0_0 r1_0 r2_0 r3_0 r3_1 r4_0 r4_1]
  rfl
set_option maxRecDepth 100000 in
theorem wideRing_lifted (os : Os) (started : os.Started) (H : Type) (enc : TypeId × Value → H) :
    ReturnsInHanded {} Try.checked os 7 .any (Rows.wideRingSpec.pre6 enc Try.prog Try.f7 Rows.wideRingRow.domain false) (Rows.wideRingSpec.post enc Try.prog Try.f7 false true false false) :=
  law_lift (C := Try.checked) (tb := Try.f7.resultTypes.getD 0 0) own started (by kernel_rfl) Try.func7 laid (by kernel_rfl) (by kernel_rfl) (by kernel_rfl) rfl
    (fun ds h => by
      have h : ds.length = 5 := h.trans (by kernel_rfl)
      match ds, h with
      | [_, _, _, _, _], _ => rfl)
    (ChangeSpec.witness6 (enc := enc) (C := Try.checked) false ⟨#[], #[.int .i64 0, .int .i64 0, .int .i64 0, .agg #[.int .i64 0, .int .u64 0], .agg #[.int .i64 0, .int .u64 0]], []⟩ 8 (by kernel_rfl) (by kernel_rfl) (by kernel_rfl) (by kernel_rfl))
    (fun W base args ds ps _ hval ht hz _ _ => prm_calls (pr := [.flat false [.c (.i .i64)], .flat false [.c (.i .i64)], .flat false [.c (.i .i64)], .flat true [.c (.i .i64), .c (.i .u64)], .flat true [.c (.i .i64), .c (.i .u64)]]) s_astrolabelaw1_WideRing (by kernel_rfl) (ts := Try.f7.params.toList) (by kernel_rfl) (by kernel_rfl) wideRing_trues hval ht hz)
theorem wideRing_over : Rows.wideRingRow.holds Try.pinned (OpenSpec.ofChange Rows.wideRingSpec) :=
  OpenClaim.holds_of_wide 7 Try.f7 rfl rfl rfl rfl rfl rfl rfl ⟨rfl, rfl, rfl, rfl, rfl⟩ rfl rfl rfl rfl rfl (by kernel_rfl) Try.func7 (by kernel_rfl)
    (of_decide_eq_true (by kernel_rfl)) (by unfold Func.isWrapper; first | (rw [if_pos (by decide +kernel)]; kernel_rfl) | (rw [if_neg (by decide +kernel)]; exact ⟨rfl, rfl⟩))
    (fun os started H enc _ => wideRing_lifted os started H enc)
/-- the statement -/
theorem wideRing_proved : Rows.WideRingSaid := wideRing_over
#print axioms wideRing_proved
end Go.Proofs.Ytcalippagaaikaa
