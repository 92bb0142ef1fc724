/-
  The root's square is nearest: r r - r at most a at most r r + r (P1.2): the statement of astrolabelaw1.WideRoots; no condition.
-/
import Derived.Test.YtcalippagaaikaaGA
set_option maxRecDepth 100000
set_option maxHeartbeats 4000000
set_option linter.unusedVariables false
set_option linter.unusedSimpArgs false
namespace Go.Proofs.Ytcalippagaaikaa
open Go.Ab
theorem sg_nn {x : Int} (h : 0 ≤ x) : sg x = false ∧ mg x = x := by
  unfold sg mg
  rw [decide_eq_false (by omega), if_neg (by omega)]
  exact ⟨rfl, rfl⟩
theorem cmpB_lt {x y : Int} (h : x < y) : cmpB x y = -1 := by unfold cmpB; rw [if_neg (by omega), if_pos h]
theorem cmpB_gt {x y : Int} (h : y < x) : cmpB x y = 1 := by unfold cmpB; rw [if_neg (by omega), if_neg (by omega)]
theorem cmpB_le {x y : Int} (h : x ≤ y) : decide (cmpB x y ≤ 0) = true := by
  unfold cmpB
  split
  · decide
  · split
    · decide
    · omega
theorem wideRoots_plain (x0 x1 : Int) (r0 : IntKind.min .i64 ≤ x0 ∧ x0 ≤ IntKind.max .i64) (r1 : IntKind.min .u64 ≤ x1 ∧ x1 ≤ IntKind.max .u64) :
    f_astrolabelaw1_WideRoots x0 x1 = some true := by
  unfold f_astrolabelaw1_WideRoots K_astrolabelaw1_WideRoots
  rw [wide_awake, Option.bind_some]
  simp only [Bool.not_true, cond_false]
  have h0 : -9223372036854775808 ≤ x0 ∧ x0 ≤ 9223372036854775807 := r0
  have h1 : 0 ≤ x1 ∧ x1 ≤ 18446744073709551615 := r1
  by_cases c : x0 < 0
  · rw [wide_root_neg x0 x1 c, Option.bind_some, decide_eq_true c, cond_true]; rfl
  have o : okW x0 x1 := ⟨by omega, by omega, by omega, by omega⟩
  obtain ⟨r, hr, rb, e⟩ := wide_root x0 x1 o (by omega)
  have vb := vW_bd o
  have v0 : 0 ≤ vW x0 x1 := by simp only [vW]; omega
  have lb := law_big x0 x1 o
  have bx : low255 (vW x0 x1) := by omega
  obtain ⟨hr0, hr1, hr2⟩ := hr
  rw [e, decide_eq_false c]
  by_cases f : r ≤ 9223372036854775807
  · rw [if_pos f, Option.bind_some]
    simp only [cond_false, Bool.not_true]
    rw [decide_eq_false (show ¬ r < 0 by omega), cond_false]
    have sr := sg_nn hr0
    have rr : 0 ≤ r * r := mul_nn hr0 hr0
    have rr2 : r * r ≤ 85070591730234615865843651857942052864 := by
      have := Int.mul_le_mul f f hr0 (by omega)
      omega
    have E1 := Big_Of r (by omega) f
    have E2 := Big_Mul r r (by rw [sr.2]; omega) (by omega) (by omega)
    have E3 := Big_Neg r (by omega)
    have E4 := Big_Add (r * r) (-r) (by omega) (by omega)
    have E5 := Big_Add (r * r) r (by omega) (by omega)
    have E6 := Big_Cmp (vW x0 x1) (r * r + r) bx (by omega) (by omega)
    have E7 := Big_Cmp (r * r + -r) (vW x0 x1) (by omega) bx (by omega)
    rw [E1, Option.bind_some]
    simp only
    rw [E2, Option.bind_some, E3, Option.bind_some]
    simp only
    rw [E4, Option.bind_some, E5, Option.bind_some]
    simp only
    by_cases z : r = 0
    · have zz : (r == 0) = true := by rw [beq_iff_eq]; exact z
      rw [zz, cond_true, lb, Option.bind_some]
      simp only
      rw [E6, Option.bind_some, cmpB_le hr1]
    · have zz : (r == 0) = false := by rw [beq_eq_false_iff_ne]; exact z
      rw [zz, cond_false, lb, Option.bind_some]
      simp only
      rw [E7, Option.bind_some, cmpB_lt (by omega)]
      have m1 : decide ((-1 : Int) < 0) = true := by decide
      rw [m1, cond_true, Option.bind_some]
      simp only
      rw [E6, Option.bind_some, cmpB_le hr1]
  · rw [if_neg f, Option.bind_some]
    simp only [cond_false, Bool.not_false, cond_true, beq_self_eq_true]
    have p63 : (2 : Int) ^ 63 = 9223372036854775808 := rfl
    have E1 := Big_Pow 63 (by omega)
    have E2 := Big_Of (-1) (by omega) (by omega)
    have s63 := sg_nn (x := (2 : Int) ^ 63) (by omega)
    have E3 := Big_Add (2 ^ 63) (-1) (by omega) (by omega)
    rw [s63.1, s63.2] at E3
    have E4 := Big_Mul (2 ^ 63) (2 ^ 63 + -1) (by
      have t := sg_nn (x := (2 : Int) ^ 63 + -1) (by omega)
      rw [s63.2, t.2, p63]; decide) (by omega) (by omega)
    rw [s63.1, s63.2] at E4
    have v : (2 : Int) ^ 63 * (2 ^ 63 + -1) = 85070591730234615856620279821087277056 := by decide
    rw [v] at E4
    have E5 := Big_Cmp (vW x0 x1) 85070591730234615856620279821087277056 bx (by omega) (by omega)
    have E1' : f_astrolaberef1_Pow 63 = some (dig (2 ^ 63)) := E1
    rw [lb, Option.bind_some, E1', Option.bind_some, Option.bind_some, E2, Option.bind_some]
    simp only
    rw [E3, Option.bind_some]
    simp only
    rw [E4, Option.bind_some]
    simp only
    have big : 85070591730234615856620279821087277056 < vW x0 x1 := by
      have q := mul_nn (a := r - 9223372036854775808) (b := r + 9223372036854775807) (by omega) (by omega)
      have e2 : (r - 9223372036854775808) * (r + 9223372036854775807) = r * r - r - 85070591730234615856620279821087277056 := by grind
      omega
    rw [E5, Option.bind_some, cmpB_gt big]; rfl
theorem wideRoots_ev (f : (Int) → (Int) → Option Bool) (x0_0 : Int) (x0_1 : Int) : F_astrolabelaw1_WideRoots f [.r (.agg [.c (.f (.i .i64 x0_0)), .c (.f (.i .u64 x0_1))])] [] = .opt (f x0_0 x0_1) fun d => .leaf ⟨.r (.c (.f (.b d))), [], []⟩ := by kernel_rfl
theorem wideRoots_trues : Trues (F_astrolabelaw1_WideRoots f_astrolabelaw1_WideRoots) [.flat true [.c (.i .i64), .c (.i .u64)]] := fun ds h => by
  obtain ⟨_, _, rfl, q0_0, g0⟩ := fit_flat h
  obtain ⟨x0_0, _, rfl, r0_0, q0_1⟩ := f1_i q0_0
  obtain ⟨x0_1, _, rfl, r0_1, q0_2⟩ := f1_i q0_1
  obtain rfl := f1_nil q0_2
  obtain rfl := fit_nil g0
  refine ⟨[], (congrArg T.eval (wideRoots_ev f_astrolabelaw1_WideRoots x0_0 x0_1)).trans ?_⟩
  rw [wideRoots_plain x0_0 x0_1 r0_0 r0_1]
  rfl
set_option maxRecDepth 100000 in
theorem wideRoots_lifted (os : Os) (started : os.Started) (H : Type) (enc : TypeId × Value → H) :
    ReturnsInHanded {} Try.checked os 6 .any (Rows.wideRootsSpec.pre6 enc Try.prog Try.f6 Rows.wideRootsRow.domain false) (Rows.wideRootsSpec.post enc Try.prog Try.f6 false true false false) :=
  law_lift (C := Try.checked) (tb := Try.f6.resultTypes.getD 0 0) own started (by kernel_rfl) Try.func6 laid (by kernel_rfl) (by kernel_rfl) (by kernel_rfl) rfl
    (fun ds h => by
      have h : ds.length = 1 := h.trans (by kernel_rfl)
      match ds, h with
      | [_], _ => rfl)
    (ChangeSpec.witness6 (enc := enc) (C := Try.checked) false ⟨#[], #[.agg #[.int .i64 0, .int .u64 0]], []⟩ 8 (by kernel_rfl) (by kernel_rfl) (by kernel_rfl) (by kernel_rfl))
    (fun W base args ds ps _ hval ht hz _ _ => prm_calls (pr := [.flat true [.c (.i .i64), .c (.i .u64)]]) s_astrolabelaw1_WideRoots (by kernel_rfl) (ts := Try.f6.params.toList) (by kernel_rfl) (by kernel_rfl) wideRoots_trues hval ht hz)
theorem wideRoots_over : Rows.wideRootsRow.holds Try.pinned (OpenSpec.ofChange Rows.wideRootsSpec) :=
  OpenClaim.holds_of_wide 6 Try.f6 rfl rfl rfl rfl rfl rfl rfl ⟨rfl, rfl, rfl, rfl, rfl⟩ rfl rfl rfl rfl rfl (by kernel_rfl) Try.func6 (by kernel_rfl)
    (of_decide_eq_true (by kernel_rfl)) (by unfold Func.isWrapper; first | (rw [if_pos (by decide +kernel)]; kernel_rfl) | (rw [if_neg (by decide +kernel)]; exact ⟨rfl, rfl⟩))
    (fun os started H enc _ => wideRoots_lifted os started H enc)
/-- the statement -/
theorem wideRoots_proved : Rows.WideRootsSaid := wideRoots_over
#print axioms wideRoots_proved
end Go.Proofs.Ytcalippagaaikaa
