/-
  The outer product turns its sign with its order, stands upright on both (within a rounding), and is nought of one vector twice; the inner one is the same either way: vectors of at most 2^40: the statement of astrolabelaw5.VecLaws; no condition.
-/
import Derived.Test.YthbnojedlbeglaaVC
import Derived.Test.YthbnojedlbeglaaVMath
set_option maxRecDepth 100000
set_option maxHeartbeats 4000000
set_option linter.unusedVariables false
set_option linter.unusedSimpArgs false
namespace Go.Proofs.Ythbnojedlbeglaa
open Go.Ab
theorem vec_awake' : f_astrolabelaw5_awake = some true := by kernel_rfl
/-- the sum of two products, rounded -/
theorem dot2 (hit w w' : Bool) (f g : Nat → Int) (a b c d : Int) (ea : f 0 = a) (eb : f 1 = b) (ec : g 0 = c) (ed : g 1 = d) :
    f___fx_Acc__Dot 30 2 2 hit f g w w' = some (sat (rnd (sat a * sat c + sat b * sat d) 30), (hit || ((over a || over c) || (over b || over d))) || over (rnd (sat a * sat c + sat b * sat d) 30)) := by
  have e := acc_dot 30 (by omega) 2 (by omega) hit f g w w'
  have s : sumF (fun j => sat (f j) * sat (g j)) 2 = sat a * sat c + sat b * sat d := by
    show 0 + sat (f 0) * sat (g 0) + sat (f 1) * sat (g 1) = _
    rw [ea, eb, ec, ed, Int.zero_add]
  have v : anyF (fun j => over (f j) || over (g j)) 2 = ((over a || over c) || (over b || over d)) := by
    show ((false || (over (f 0) || over (g 0))) || (over (f 1) || over (g 1))) = _
    rw [ea, eb, ec, ed, Bool.false_or]
  rw [s, v] at e
  exact e
/-- the sum of three products, rounded -/
theorem dot3 (hit : Bool) (a b c x y z : Int) :
    f_vec_Dot a b c x y z hit = some (sat (rnd (sat a * sat x + sat b * sat y + sat c * sat z) 30), (hit || ((over a || over x) || (over b || over y) || (over c || over z))) || over (rnd (sat a * sat x + sat b * sat y + sat c * sat z) 30)) := by
  unfold f_vec_Dot K_vec_Dot
  have e := acc_dot 30 (by omega) 3 (by omega) hit (fun j => bif Nat.beq j 2 then c else bif Nat.beq j 1 then b else bif Nat.beq j 0 then a else a) (fun j => bif Nat.beq j 2 then z else bif Nat.beq j 1 then y else bif Nat.beq j 0 then x else x) false false
  have s : sumF (fun j => sat ((fun j => bif Nat.beq j 2 then c else bif Nat.beq j 1 then b else bif Nat.beq j 0 then a else a) j) * sat ((fun j => bif Nat.beq j 2 then z else bif Nat.beq j 1 then y else bif Nat.beq j 0 then x else x) j)) 3 = sat a * sat x + sat b * sat y + sat c * sat z := by
    show 0 + sat a * sat x + sat b * sat y + sat c * sat z = _
    rw [Int.zero_add]
  have v : anyF (fun j => over ((fun j => bif Nat.beq j 2 then c else bif Nat.beq j 1 then b else bif Nat.beq j 0 then a else a) j) || over ((fun j => bif Nat.beq j 2 then z else bif Nat.beq j 1 then y else bif Nat.beq j 0 then x else x) j)) 3 = ((over a || over x) || (over b || over y) || (over c || over z)) := by
    show (((false || (over a || over x)) || (over b || over y)) || (over c || over z)) = _
    rw [Bool.false_or]
  rw [s, v] at e
  exact (congrArg (fun o => Option.bind o fun d => some (d.1, d.2)) e)
theorem sat3 (a b c : Int) (hit : Bool) : f_vec_Sat a b c hit = some (sat a, sat b, sat c, ((hit || over a) || over b) || over c) := by
  unfold f_vec_Sat K_vec_Sat
  simp only [acc_sat, Option.bind_some]
theorem sat_sat (x : Int) : sat (sat x) = sat x ∧ over (sat x) = false := sat_id (sat_le x)
theorem sat_neg (x : Int) : sat (-sat x) = -sat x ∧ over (-sat x) = false := sat_id (by have := sat_le x; omega)
/-- a number of the outer product -/
def crV (a b c d : Int) : Int := rnd (sat a * sat c + -sat b * sat d) 30
theorem cross_eq (x0 x1 x2 x3 x4 x5 : Int) (hit : Bool) : f_vec_Cross x0 x1 x2 x3 x4 x5 hit = some (sat (crV x1 x2 x5 x4), sat (crV x2 x0 x3 x5), sat (crV x0 x1 x4 x3),
      ((((((((hit || over x0) || over x1) || over x2) || over x3) || over x4) || over x5) || over (crV x1 x2 x5 x4)) || over (crV x2 x0 x3 x5)) || over (crV x0 x1 x4 x3)) := by
  unfold f_vec_Cross K_vec_Cross
  have n : ∀ x, IntKind.wrap .i64 (0 - sat x) = -sat x := fun x => by
    have := sat_le x
    rw [wrap_i64 (by omega) (by omega)]; omega
  simp only [sat3, Option.bind_some, n]
  rw [dot2 _ true true _ _ (sat x1) (-sat x2) (sat x5) (sat x4) rfl rfl rfl rfl]
  simp only [Option.bind_some]
  rw [dot2 _ true true _ _ (sat x2) (-sat x0) (sat x3) (sat x5) rfl rfl rfl rfl]
  simp only [Option.bind_some]
  rw [dot2 _ true true _ _ (sat x0) (-sat x1) (sat x4) (sat x3) rfl rfl rfl rfl]
  simp only [Option.bind_some, (sat_sat _).1, (sat_sat _).2, (sat_neg _).1, (sat_neg _).2, Bool.or_false, crV]
abbrev b40 (x : Int) : Prop := -1099511627776 ≤ x ∧ x ≤ 1099511627776
theorem crV_eq (a b c d : Int) (ha : b40 a) (hb : b40 b) (hc : b40 c) (hd : b40 d) : ∃ e, -536870912 ≤ e ∧ e ≤ 536870912 ∧ crV a b c d * 1073741824 = a * c - b * d + e ∧ -2251799813685249 ≤ crV a b c d ∧ crV a b c d ≤ 2251799813685249 := by
  unfold crV
  rw [(sat_id (x := a) (by omega)).1, (sat_id (x := b) (by omega)).1, (sat_id (x := c) (by omega)).1, (sat_id (x := d) (by omega)).1]
  have h := rnd30 (a * c + -b * d)
  have e : -b * d = -(b * d) := Int.neg_mul _ _
  have p := mul_abs ha hc
  have q := mul_abs hb hd
  have v : (1099511627776 : Int) * 1099511627776 = 1208925819614629174706176 := by decide
  generalize rnd (a * c + -b * d) 30 = r at *
  exact ⟨r * 1073741824 - (a * c - b * d), by omega, by omega, by omega, by omega, by omega⟩
theorem crV_anti (a b c d : Int) : crV a b c d = -crV d c b a := by
  unfold crV
  rw [← rnd_neg]
  congr 1
  grind
theorem vecLaws_plain (x0 x1 x2 x3 x4 x5 : Int) : f_astrolabelaw5_VecLaws x0 x1 x2 x3 x4 x5 = some true := by
  unfold f_astrolabelaw5_VecLaws K_astrolabelaw5_VecLaws
  rw [vec_awake', Option.bind_some]
  simp only [Bool.not_true, cond_false]
  by_cases c1 : x0 < -1099511627776
  · rw [decide_eq_true c1, cond_true]
  by_cases c2 : x0 > 1099511627776
  · rw [decide_eq_false c1, cond_false, decide_eq_true c2, cond_true]
  rw [decide_eq_false c1, cond_false, decide_eq_false c2, cond_false]
  by_cases c3 : x3 < -1099511627776
  · rw [decide_eq_true c3, cond_true]
  by_cases c4 : x3 > 1099511627776
  · rw [decide_eq_false c3, cond_false, decide_eq_true c4, cond_true]
  rw [decide_eq_false c3, cond_false, decide_eq_false c4, cond_false]
  by_cases c5 : x1 < -1099511627776
  · rw [decide_eq_true c5, cond_true]
  by_cases c6 : x1 > 1099511627776
  · rw [decide_eq_false c5, cond_false, decide_eq_true c6, cond_true]
  rw [decide_eq_false c5, cond_false, decide_eq_false c6, cond_false]
  by_cases c7 : x4 < -1099511627776
  · rw [decide_eq_true c7, cond_true]
  by_cases c8 : x4 > 1099511627776
  · rw [decide_eq_false c7, cond_false, decide_eq_true c8, cond_true]
  rw [decide_eq_false c7, cond_false, decide_eq_false c8, cond_false]
  by_cases c9 : x2 < -1099511627776
  · rw [decide_eq_true c9, cond_true]
  by_cases d1 : x2 > 1099511627776
  · rw [decide_eq_false c9, cond_false, decide_eq_true d1, cond_true]
  rw [decide_eq_false c9, cond_false, decide_eq_false d1, cond_false]
  by_cases d2 : x5 < -1099511627776
  · rw [decide_eq_true d2, cond_true]
  by_cases d3 : x5 > 1099511627776
  · rw [decide_eq_false d2, cond_false, decide_eq_true d3, cond_true]
  rw [decide_eq_false d2, cond_false, decide_eq_false d3, cond_false]
  have h0 : b40 x0 := by omega
  have h1 : b40 x1 := by omega
  have h2 : b40 x2 := by omega
  have h3 : b40 x3 := by omega
  have h4 : b40 x4 := by omega
  have h5 : b40 x5 := by omega
  clear c1 c2 c3 c4 c5 c6 c7 c8 c9 d1 d2 d3
  obtain ⟨f1, p1, q1, r1, s1, t1⟩ := crV_eq x1 x2 x5 x4 h1 h2 h5 h4
  obtain ⟨f2, p2, q2, r2, s2, t2⟩ := crV_eq x2 x0 x3 x5 h2 h0 h3 h5
  obtain ⟨f3, p3, q3, r3, s3, t3⟩ := crV_eq x0 x1 x4 x3 h0 h1 h4 h3
  have z0 := (sat_id (x := x0) (by omega))
  have z1 := (sat_id (x := x1) (by omega))
  have z2 := (sat_id (x := x2) (by omega))
  have z3 := (sat_id (x := x3) (by omega))
  have z4 := (sat_id (x := x4) (by omega))
  have z5 := (sat_id (x := x5) (by omega))
  have same : ∀ a b : Int, crV a b b a = 0 := fun a b => by
    unfold crV
    have e : sat a * sat b + -sat b * sat a = 0 := by grind
    rw [e]; decide
  simp only [cross_eq, Option.bind_some, z0.2, z1.2, z2.2, z3.2, z4.2, z5.2, Bool.false_or, Bool.or_false, same]
  rw [crV_anti x1 x2 x5 x4] at r1 s1 t1
  rw [crV_anti x2 x0 x3 x5] at r2 s2 t2
  rw [crV_anti x0 x1 x4 x3] at r3 s3 t3
  rw [crV_anti x1 x2 x5 x4, crV_anti x2 x0 x3 x5, crV_anti x0 x1 x4 x3]
  generalize crV x4 x5 x2 x1 = u1 at *
  generalize crV x5 x3 x0 x2 = u2 at *
  generalize crV x3 x4 x1 x0 = u3 at *
  have y1 := sat_id (x := -u1) (by omega)
  have y2 := sat_id (x := -u2) (by omega)
  have y3 := sat_id (x := -u3) (by omega)
  have w1 := sat_id (x := u1) (by omega)
  have w2 := sat_id (x := u2) (by omega)
  have w3 := sat_id (x := u3) (by omega)
  have n0 := sat_id (x := 0) (by omega)
  have i1 : IntKind.wrap .i64 (0 - u1) = -u1 := (wrap_i64 (by omega) (by omega)).trans (by omega)
  have i2 : IntKind.wrap .i64 (0 - u2) = -u2 := (wrap_i64 (by omega) (by omega)).trans (by omega)
  have i3 : IntKind.wrap .i64 (0 - u3) = -u3 := (wrap_i64 (by omega) (by omega)).trans (by omega)
  simp only [y1.1, y1.2, y2.1, y2.2, y3.1, y3.2, w1.1, w1.2, w2.1, w2.2, w3.1, w3.2, n0.1, n0.2, dot3, Option.bind_some, z0.1, z1.1, z2.1, z3.1, z4.1, z5.1, z0.2, z1.2, z2.2, z3.2, z4.2, z5.2, Bool.or_false, Bool.false_or, i1, i2, i3, beq_self_eq_true, Bool.and_self, cond_true]
  -- the product with the first vector
  have g1 := mul_abs (x := f1) (y := x0) ⟨p1, q1⟩ h0
  have g2 := mul_abs (x := f2) (y := x1) ⟨p2, q2⟩ h1
  have g3 := mul_abs (x := f3) (y := x2) ⟨p3, q3⟩ h2
  have key : (-u1 * x0 + -u2 * x1 + -u3 * x2) * 1073741824 = f1 * x0 + f2 * x1 + f3 * x2 := by
    have e : (-u1 * x0 + -u2 * x1 + -u3 * x2) * 1073741824 = (-u1 * 1073741824) * x0 + (-u2 * 1073741824) * x1 + (-u3 * 1073741824) * x2 := by grind
    rw [e, r1, r2, r3]; grind
  have k1 := rnd30 (-u1 * x0 + -u2 * x1 + -u3 * x2)
  generalize hP : -u1 * x0 + -u2 * x1 + -u3 * x2 = P at *
  have v : (536870912 : Int) * 1099511627776 = 590295810358705651712 := by decide
  have k2 : -3074 ≤ rnd P 30 ∧ rnd P 30 ≤ 3074 := by omega
  have y4 := sat_id (x := rnd P 30) (by omega)
  rw [y4.1, y4.2, decide_eq_true k2.2, cond_true, decide_eq_true (show rnd P 30 ≥ -3074 from k2.1), cond_true]
  -- the inner one
  have o1 := mul_abs h0 h3
  have o2 := mul_abs h1 h4
  have o3 := mul_abs h2 h5
  have vv : (1099511627776 : Int) * 1099511627776 = 1208925819614629174706176 := by decide
  have k3 := rnd30 (x0 * x3 + x1 * x4 + x2 * x5)
  have e3 : x3 * x0 + x4 * x1 + x5 * x2 = x0 * x3 + x1 * x4 + x2 * x5 := by grind
  rw [e3]
  have k4 : -3626777458843887524118528 ≤ x0 * x3 + x1 * x4 + x2 * x5 ∧ x0 * x3 + x1 * x4 + x2 * x5 ≤ 3626777458843887524118528 := by omega
  clear o1 o2 o3 e3
  generalize x0 * x3 + x1 * x4 + x2 * x5 = Q at *
  have y5 := sat_id (x := rnd Q 30) (by omega)
  simp only [y5.1, y5.2, beq_self_eq_true, cond_true, Bool.or_false, Bool.not_false]
theorem vecLaws_ev (f : (Int) → (Int) → (Int) → (Int) → (Int) → (Int) → Option Bool) (x0_0 : Int) (x0_1 : Int) (x0_2 : Int) (x1_0 : Int) (x1_1 : Int) (x1_2 : Int) : F_astrolabelaw5_VecLaws f [.r (.agg [.c (.f (.i .i64 x0_0)), .c (.f (.i .i64 x0_1)), .c (.f (.i .i64 x0_2))]), .r (.agg [.c (.f (.i .i64 x1_0)), .c (.f (.i .i64 x1_1)), .c (.f (.i .i64 x1_2))])] [] = .opt (f x0_0 x0_1 x0_2 x1_0 x1_1 x1_2) fun d => .leaf ⟨.r (.c (.f (.b d))), [], []⟩ := by kernel_rfl
theorem vecLaws_trues : Trues (F_astrolabelaw5_VecLaws f_astrolabelaw5_VecLaws) [.flat true [.c (.i .i64), .c (.i .i64), .c (.i .i64)], .flat true [.c (.i .i64), .c (.i .i64), .c (.i .i64)]] := fun ds h => by
  obtain ⟨_, _, rfl, q0_0, g0⟩ := fit_flat h
  obtain ⟨x0_0, _, rfl, r0_0, q0_1⟩ := f1_i q0_0
  obtain ⟨x0_1, _, rfl, r0_1, q0_2⟩ := f1_i q0_1
  obtain ⟨x0_2, _, rfl, r0_2, q0_3⟩ := f1_i q0_2
  obtain rfl := f1_nil q0_3
  obtain ⟨_, _, rfl, q1_0, g1⟩ := fit_flat g0
  obtain ⟨x1_0, _, rfl, r1_0, q1_1⟩ := f1_i q1_0
  obtain ⟨x1_1, _, rfl, r1_1, q1_2⟩ := f1_i q1_1
  obtain ⟨x1_2, _, rfl, r1_2, q1_3⟩ := f1_i q1_2
  obtain rfl := f1_nil q1_3
  obtain rfl := fit_nil g1
  refine ⟨[], (congrArg T.eval (vecLaws_ev f_astrolabelaw5_VecLaws x0_0 x0_1 x0_2 x1_0 x1_1 x1_2)).trans ?_⟩
  rw [vecLaws_plain x0_0 x0_1 x0_2 x1_0 x1_1 x1_2]
  rfl
set_option maxRecDepth 100000 in
theorem vecLaws_lifted (os : Os) (started : os.Started) (H : Type) (enc : TypeId × Value → H) :
    ReturnsInHanded {} Try.checked os 11 .any (Rows.vecLawsSpec.pre6 enc Try.prog Try.f11 Rows.vecLawsRow.domain false) (Rows.vecLawsSpec.post enc Try.prog Try.f11 false true false false) :=
  law_lift (C := Try.checked) (tb := Try.f11.resultTypes.getD 0 0) own started (by kernel_rfl) Try.func11 laid (by kernel_rfl) (by kernel_rfl) (by kernel_rfl) rfl
    (fun ds h => by
      have h : ds.length = 2 := h.trans (by kernel_rfl)
      match ds, h with
      | [_, _], _ => rfl)
    (ChangeSpec.witness6 (enc := enc) (C := Try.checked) false ⟨#[], #[.agg #[.int .i64 0, .int .i64 0, .int .i64 0], .agg #[.int .i64 0, .int .i64 0, .int .i64 0]], []⟩ 8 (by kernel_rfl) (by kernel_rfl) (by kernel_rfl) (by kernel_rfl))
    (fun W base args ds ps _ hval ht hz _ _ => prm_calls (pr := [.flat true [.c (.i .i64), .c (.i .i64), .c (.i .i64)], .flat true [.c (.i .i64), .c (.i .i64), .c (.i .i64)]]) s_astrolabelaw5_VecLaws (by kernel_rfl) (ts := Try.f11.params.toList) (by kernel_rfl) (by kernel_rfl) vecLaws_trues hval ht hz)
theorem vecLaws_over : Rows.vecLawsRow.holds Try.pinned (OpenSpec.ofChange Rows.vecLawsSpec) :=
  OpenClaim.holds_of_wide 11 Try.f11 rfl rfl rfl rfl rfl rfl rfl ⟨rfl, rfl, rfl, rfl, rfl⟩ rfl rfl rfl rfl rfl (by kernel_rfl) Try.func11 (by kernel_rfl)
    (of_decide_eq_true (by kernel_rfl)) (by unfold Func.isWrapper; first | (rw [if_pos (by decide +kernel)]; kernel_rfl) | (rw [if_neg (by decide +kernel)]; exact ⟨rfl, rfl⟩))
    (fun os started H enc _ => vecLaws_lifted os started H enc)
/-- the statement -/
theorem vecLaws_proved : Rows.VecLawsSaid := vecLaws_over
#print axioms vecLaws_proved
end Go.Proofs.Ythbnojedlbeglaa
