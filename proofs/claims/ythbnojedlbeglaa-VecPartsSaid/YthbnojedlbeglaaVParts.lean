/-
  What is added and taken away again is what it was; the inner product with a unit of an axis is that number (vectors within half of Max): the statement of astrolabelaw5.VecParts; no condition.
-/
import Derived.Test.YthbnojedlbeglaaVAdd2
import Derived.Test.YthbnojedlbeglaaV3
import Derived.Test.YthbnojedlbeglaaAbLaw
set_option maxRecDepth 100000
set_option maxHeartbeats 4000000
set_option linter.unusedVariables false
set_option linter.unusedSimpArgs false
namespace Go.Proofs.Ythbnojedlbeglaa
open Go.Ab
theorem vec_awake : f_astrolabelaw5_awake = some true := by kernel_rfl
abbrev low (x : Int) : Prop := -576460752303423488 ≤ x ∧ x ≤ 576460752303423488
theorem acc_sub (x y : Int) (hit : Bool) (hx : -1152921504606846976 ≤ x ∧ x ≤ 1152921504606846976) (hy : low y) (hd : low (x - y)) : f___fx_Acc__Sub x y hit = some (x - y, hit) := by
  unfold f___fx_Acc__Sub K___fx_Acc__Sub
  have a1 := sat_id (x := x) hx
  have a2 := sat_id (x := y) (by omega)
  have a3 := sat_id (x := x - y) (by omega)
  simp only [acc_sat, Option.bind_some, a1.1, a1.2, a2.1, a2.2, Bool.or_false, wrap_i64 (n := x - y) (by omega) (by omega), a3.1, a3.2]
theorem dot_unit (x y z : Int) (hit : Bool) (hx : low x) (hy : low y) (hz : low z) : f_vec_Dot x y z 1073741824 0 0 hit = some (x, hit) := by
  unfold f_vec_Dot K_vec_Dot
  have a1 := sat_id (x := x) (by omega)
  have a2 := sat_id (x := y) (by omega)
  have a3 := sat_id (x := z) (by omega)
  have a4 := sat_id (x := 1073741824) (by omega)
  have a5 := sat_id (x := 0) (by omega)
  have e := acc_dot 30 (by omega) 3 (by omega) hit (fun j => bif Nat.beq j 2 then z else bif Nat.beq j 1 then y else bif Nat.beq j 0 then x else x) (fun j => bif Nat.beq j 2 then 0 else bif Nat.beq j 1 then 0 else bif Nat.beq j 0 then 1073741824 else 1073741824) false false
  have s : sumF (fun j => sat ((fun j => bif Nat.beq j 2 then z else bif Nat.beq j 1 then y else bif Nat.beq j 0 then x else x) j) * sat ((fun j => bif Nat.beq j 2 then 0 else bif Nat.beq j 1 then 0 else bif Nat.beq j 0 then 1073741824 else 1073741824) j)) 3 = x * 1073741824 := by
    show 0 + sat x * sat 1073741824 + sat y * sat 0 + sat z * sat 0 = _
    rw [a1.1, a4.1, a5.1, Int.mul_zero, Int.mul_zero]; omega
  have v : anyF (fun j => over ((fun j => bif Nat.beq j 2 then z else bif Nat.beq j 1 then y else bif Nat.beq j 0 then x else x) j) || over ((fun j => bif Nat.beq j 2 then 0 else bif Nat.beq j 1 then 0 else bif Nat.beq j 0 then 1073741824 else 1073741824) j)) 3 = false := by
    show (((false || (over x || over 1073741824)) || (over y || over 0)) || (over z || over 0)) = false
    rw [a1.2, a2.2, a3.2, a4.2, a5.2]; rfl
  rw [s, v, rnd_one, a1.1, a1.2, Bool.or_false, Bool.or_false] at e
  exact (congrArg (fun o => Option.bind o fun d => some (d.1, d.2)) e)
theorem dot_unit2 (x y z : Int) (hit : Bool) (hx : low x) (hy : low y) (hz : low z) : f_vec_Dot 0 1073741824 0 x y z hit = some (y, hit) := by
  unfold f_vec_Dot K_vec_Dot
  have a1 := sat_id (x := x) (by omega)
  have a2 := sat_id (x := y) (by omega)
  have a3 := sat_id (x := z) (by omega)
  have a4 := sat_id (x := 1073741824) (by omega)
  have a5 := sat_id (x := 0) (by omega)
  have e := acc_dot 30 (by omega) 3 (by omega) hit (fun j => bif Nat.beq j 2 then 0 else bif Nat.beq j 1 then 1073741824 else bif Nat.beq j 0 then 0 else 0) (fun j => bif Nat.beq j 2 then z else bif Nat.beq j 1 then y else bif Nat.beq j 0 then x else x) false false
  have s : sumF (fun j => sat ((fun j => bif Nat.beq j 2 then 0 else bif Nat.beq j 1 then 1073741824 else bif Nat.beq j 0 then 0 else 0) j) * sat ((fun j => bif Nat.beq j 2 then z else bif Nat.beq j 1 then y else bif Nat.beq j 0 then x else x) j)) 3 = y * 1073741824 := by
    show 0 + sat 0 * sat x + sat 1073741824 * sat y + sat 0 * sat z = _
    rw [a2.1, a4.1, a5.1, Int.zero_mul, Int.zero_mul]; omega
  have v : anyF (fun j => over ((fun j => bif Nat.beq j 2 then 0 else bif Nat.beq j 1 then 1073741824 else bif Nat.beq j 0 then 0 else 0) j) || over ((fun j => bif Nat.beq j 2 then z else bif Nat.beq j 1 then y else bif Nat.beq j 0 then x else x) j)) 3 = false := by
    show (((false || (over 0 || over x)) || (over 1073741824 || over y)) || (over 0 || over z)) = false
    rw [a1.2, a2.2, a3.2, a4.2, a5.2]; rfl
  rw [s, v, rnd_one, a2.1, a2.2, Bool.or_false, Bool.or_false] at e
  exact (congrArg (fun o => Option.bind o fun d => some (d.1, d.2)) e)
theorem mul_one (x : Int) (hit : Bool) (hx : low x) : f___fx_Acc__Mul x 1073741824 30 hit = some (x, hit) := by
  have a1 := sat_id (x := x) (by omega)
  have a4 := sat_id (x := 1073741824) (by omega)
  have e := acc_mul x 1073741824 30 hit (by omega)
  rw [a1.1, a4.1, rnd_one, a1.1, a1.2, a4.2, Bool.or_false, Bool.or_false, Bool.or_false] at e
  exact e
theorem part16 (x : Int) (h : -9223372036854775808 ≤ x ∧ x ≤ 9223372036854775807) : low (IntKind.wrap .i64 (Int.tdiv x 16)) := by
  have k : low (Int.tdiv x 16) := by
    rcases Int.le_total 0 x with hx | hx
    · rw [Int.tdiv_eq_ediv_of_nonneg hx]; omega
    · have e : Int.tdiv x 16 = -(Int.tdiv (-x) 16) := by rw [Int.neg_tdiv, Int.neg_neg]
      rw [e, Int.tdiv_eq_ediv_of_nonneg (by omega)]; omega
  rw [wrap_i64 (by omega) (by omega)]; exact k
theorem vecParts_plain (x0 x1 x2 x3 x4 x5 : Int) (r0 : IntKind.min .i64 ≤ x0 ∧ x0 ≤ IntKind.max .i64) (r1 : IntKind.min .i64 ≤ x1 ∧ x1 ≤ IntKind.max .i64) (r2 : IntKind.min .i64 ≤ x2 ∧ x2 ≤ IntKind.max .i64)
    (r3 : IntKind.min .i64 ≤ x3 ∧ x3 ≤ IntKind.max .i64) (r4 : IntKind.min .i64 ≤ x4 ∧ x4 ≤ IntKind.max .i64) (r5 : IntKind.min .i64 ≤ x5 ∧ x5 ≤ IntKind.max .i64) : f_astrolabelaw5_VecParts x0 x1 x2 x3 x4 x5 = some true := by
  unfold f_astrolabelaw5_VecParts K_astrolabelaw5_VecParts
  have h0 := part16 x0 r0
  have h1 := part16 x1 r1
  have h2 := part16 x2 r2
  have h3 := part16 x3 r3
  have h4 := part16 x4 r4
  have h5 := part16 x5 r5
  generalize IntKind.wrap .i64 (Int.tdiv x0 16) = a0 at *
  generalize IntKind.wrap .i64 (Int.tdiv x1 16) = a1 at *
  generalize IntKind.wrap .i64 (Int.tdiv x2 16) = a2 at *
  generalize IntKind.wrap .i64 (Int.tdiv x3 16) = b0 at *
  generalize IntKind.wrap .i64 (Int.tdiv x4 16) = b1 at *
  generalize IntKind.wrap .i64 (Int.tdiv x5 16) = b2 at *
  have e1 := vec_add2 false true (fun j => bif Nat.beq j 1 then b0 else bif Nat.beq j 0 then a0 else a0) (fun j => bif Nat.beq j 1 then b1 else bif Nat.beq j 0 then a1 else a1) (fun j => bif Nat.beq j 1 then b2 else bif Nat.beq j 0 then a2 else a2)
    a0 a1 a2 b0 b1 b2 rfl rfl rfl rfl rfl rfl h0 h1 h2 h3 h4 h5
  have e2 := vec_add2 false true (fun j => bif Nat.beq j 1 then 0 else bif Nat.beq j 0 then a0 else a0) (fun j => bif Nat.beq j 1 then 0 else bif Nat.beq j 0 then a1 else a1) (fun j => bif Nat.beq j 1 then 0 else bif Nat.beq j 0 then a2 else a2)
    a0 a1 a2 0 0 0 rfl rfl rfl rfl rfl rfl h0 h1 h2 (by omega) (by omega) (by omega)
  have s0 := acc_sub (a0 + b0) b0 false (by omega) h3 (by rw [Int.add_sub_cancel]; exact h0)
  have s1 := acc_sub (a1 + b1) b1 false (by omega) h4 (by rw [Int.add_sub_cancel]; exact h1)
  have s2 := acc_sub (a2 + b2) b2 false (by omega) h5 (by rw [Int.add_sub_cancel]; exact h2)
  rw [Int.add_sub_cancel] at s0 s1 s2
  have e3 : f_vec_Sub (a0 + b0) (a1 + b1) (a2 + b2) b0 b1 b2 false = some (a0, a1, a2, false) := by
    unfold f_vec_Sub K_vec_Sub
    rw [s0, Option.bind_some, s1, Option.bind_some, s2, Option.bind_some]
  have e4 : f_vec_Scale a0 a1 a2 1073741824 false = some (a0, a1, a2, false) := by
    unfold f_vec_Scale K_vec_Scale
    rw [mul_one a0 _ h0, Option.bind_some, mul_one a1 _ h1, Option.bind_some, mul_one a2 _ h2, Option.bind_some]
  rw [vec_awake, Option.bind_some]
  simp only [Bool.not_true, cond_false]
  rw [e1, Option.bind_some]
  simp only
  rw [e3, Option.bind_some]
  simp only [beq_self_eq_true, Bool.and_self, cond_true]
  rw [dot_unit a0 a1 a2 false h0 h1 h2, Option.bind_some]
  simp only [beq_self_eq_true, cond_true]
  rw [dot_unit2 a0 a1 a2 false h0 h1 h2, Option.bind_some]
  simp only [beq_self_eq_true, cond_true]
  rw [e2, Option.bind_some]
  simp only [Int.add_zero, beq_self_eq_true, Bool.and_self, cond_true]
  rw [e4, Option.bind_some]
  simp only [beq_self_eq_true, Bool.and_self, cond_true, Bool.not_false]
theorem vecParts_ev (f : (Int) → (Int) → (Int) → (Int) → (Int) → (Int) → Option Bool) (x0_0 : Int) (x0_1 : Int) (x0_2 : Int) (x1_0 : Int) (x1_1 : Int) (x1_2 : Int) : F_astrolabelaw5_VecParts f [.r (.agg [.c (.f (.i .i64 x0_0)), .c (.f (.i .i64 x0_1)), .c (.f (.i .i64 x0_2))]), .r (.agg [.c (.f (.i .i64 x1_0)), .c (.f (.i .i64 x1_1)), .c (.f (.i .i64 x1_2))])] [] = .opt (f x0_0 x0_1 x0_2 x1_0 x1_1 x1_2) fun d => .leaf ⟨.r (.c (.f (.b d))), [], []⟩ := by kernel_rfl
theorem vecParts_trues : Trues (F_astrolabelaw5_VecParts f_astrolabelaw5_VecParts) [.flat true [.c (.i .i64), .c (.i .i64), .c (.i .i64)], .flat true [.c (.i .i64), .c (.i .i64), .c (.i .i64)]] := fun ds h => by
  obtain ⟨_, _, rfl, q0_0, g0⟩ := fit_flat h
  obtain ⟨x0_0, _, rfl, r0_0, q0_1⟩ := f1_i q0_0
  obtain ⟨x0_1, _, rfl, r0_1, q0_2⟩ := f1_i q0_1
  obtain ⟨x0_2, _, rfl, r0_2, q0_3⟩ := f1_i q0_2
  obtain rfl := f1_nil q0_3
  obtain ⟨_, _, rfl, q1_0, g1⟩ := fit_flat g0
  obtain ⟨x1_0, _, rfl, r1_0, q1_1⟩ := f1_i q1_0
  obtain ⟨x1_1, _, rfl, r1_1, q1_2⟩ := f1_i q1_1
  obtain ⟨x1_2, _, rfl, r1_2, q1_3⟩ := f1_i q1_2
  obtain rfl := f1_nil q1_3
  obtain rfl := fit_nil g1
  refine ⟨[], (congrArg T.eval (vecParts_ev f_astrolabelaw5_VecParts x0_0 x0_1 x0_2 x1_0 x1_1 x1_2)).trans ?_⟩
  rw [vecParts_plain x0_0 x0_1 x0_2 x1_0 x1_1 x1_2 r0_0 r0_1 r0_2 r1_0 r1_1 r1_2]
  rfl
set_option maxRecDepth 100000 in
theorem vecParts_lifted (os : Os) (started : os.Started) (H : Type) (enc : TypeId × Value → H) :
    ReturnsInHanded {} Try.checked os 14 .any (Rows.vecPartsSpec.pre6 enc Try.prog Try.f14 Rows.vecPartsRow.domain false) (Rows.vecPartsSpec.post enc Try.prog Try.f14 false true false false) :=
  law_lift (C := Try.checked) (tb := Try.f14.resultTypes.getD 0 0) own started (by kernel_rfl) Try.func14 laid (by kernel_rfl) (by kernel_rfl) (by kernel_rfl) rfl
    (fun ds h => by
      have h : ds.length = 2 := h.trans (by kernel_rfl)
      match ds, h with
      | [_, _], _ => rfl)
    (ChangeSpec.witness6 (enc := enc) (C := Try.checked) false ⟨#[], #[.agg #[.int .i64 0, .int .i64 0, .int .i64 0], .agg #[.int .i64 0, .int .i64 0, .int .i64 0]], []⟩ 8 (by kernel_rfl) (by kernel_rfl) (by kernel_rfl) (by kernel_rfl))
    (fun W base args ds ps _ hval ht hz _ _ => prm_calls (pr := [.flat true [.c (.i .i64), .c (.i .i64), .c (.i .i64)], .flat true [.c (.i .i64), .c (.i .i64), .c (.i .i64)]]) s_astrolabelaw5_VecParts (by kernel_rfl) (ts := Try.f14.params.toList) (by kernel_rfl) (by kernel_rfl) vecParts_trues hval ht hz)
theorem vecParts_over : Rows.vecPartsRow.holds Try.pinned (OpenSpec.ofChange Rows.vecPartsSpec) :=
  OpenClaim.holds_of_wide 14 Try.f14 rfl rfl rfl rfl rfl rfl rfl ⟨rfl, rfl, rfl, rfl, rfl⟩ rfl rfl rfl rfl rfl (by kernel_rfl) Try.func14 (by kernel_rfl)
    (of_decide_eq_true (by kernel_rfl)) (by unfold Func.isWrapper; first | (rw [if_pos (by decide +kernel)]; kernel_rfl) | (rw [if_neg (by decide +kernel)]; exact ⟨rfl, rfl⟩))
    (fun os started H enc _ => vecParts_lifted os started H enc)
/-- the statement -/
theorem vecParts_proved : Rows.VecPartsSaid := vecParts_over
#print axioms vecParts_proved
end Go.Proofs.Ythbnojedlbeglaa
