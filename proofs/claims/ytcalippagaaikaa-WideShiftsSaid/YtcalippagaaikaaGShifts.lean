/-
  A number that is shifted and rounded back is the number; rounded twice in a row differs from once by at most one: the statement of astrolabelaw1.WideShifts; no condition.
-/
import Derived.Test.YtcalippagaaikaaGA
set_option maxRecDepth 100000
set_option maxHeartbeats 4000000
set_option linter.unusedVariables false
set_option linter.unusedSimpArgs false
namespace Go.Proofs.Ytcalippagaaikaa
open Go.Ab
theorem wideShifts_plain (x0 x1 x2 : Int) (r0 : IntKind.min .i64 ≤ x0 ∧ x0 ≤ IntKind.max .i64) (r1 : IntKind.min .i64 ≤ x1 ∧ x1 ≤ IntKind.max .i64) (r2 : IntKind.min .i64 ≤ x2 ∧ x2 ≤ IntKind.max .i64) :
    f_astrolabelaw1_WideShifts x0 x1 x2 = some true := by
  unfold f_astrolabelaw1_WideShifts K_astrolabelaw1_WideShifts
  rw [wide_awake, Option.bind_some]
  simp only [Bool.not_true, cond_false]
  by_cases c1 : x1 < 0
  · rw [decide_eq_true c1, cond_true]
  rw [decide_eq_false c1, cond_false]
  by_cases c2 : x1 > 60
  · rw [decide_eq_true c2, cond_true]
  rw [decide_eq_false c2, cond_false]
  by_cases c3 : x2 < 0
  · rw [decide_eq_true c3, cond_true]
  rw [decide_eq_false c3, cond_false]
  by_cases c4 : x2 > 60
  · rw [decide_eq_true c4, cond_true]
  rw [decide_eq_false c4, cond_false]
  have h0 : -9223372036854775808 ≤ x0 ∧ x0 ≤ 9223372036854775807 := r0
  obtain ⟨s, rfl⟩ : ∃ s : Nat, x1 = Int.ofNat s := ⟨x1.toNat, by simp only [Int.ofNat_eq_natCast]; omega⟩
  obtain ⟨t, rfl⟩ : ∃ t : Nat, x2 = Int.ofNat t := ⟨x2.toNat, by simp only [Int.ofNat_eq_natCast]; omega⟩
  have hs : s ≤ 60 := by simp only [Int.ofNat_eq_natCast] at c2; omega
  have ht : t ≤ 60 := by simp only [Int.ofNat_eq_natCast] at c4; omega
  have P0 := pow_pos' s
  have PB : (2 : Int) ^ s ≤ 2 ^ 60 := pow_le_pow hs
  have PV : (2 : Int) ^ 60 = 1152921504606846976 := rfl
  have m := mul_in (x := x0) (y := 2 ^ s) (X := 9223372036854775808) (Y := 1152921504606846976) (by omega) (by omega)
  have mv : (9223372036854775808 : Int) * 1152921504606846976 = 10633823966279326983230456482242756608 := by decide
  obtain ⟨h, l, b, e1, o1, f1, v1, _⟩ := wide_shift x0 s (by omega) h0.1 h0.2
  have bt : b = true := f1.2 ⟨by omega, by omega⟩
  subst bt
  have v1 := v1 rfl
  obtain ⟨h2, l2, e2, o2, v2⟩ := wide_of x0 h0.1 h0.2
  have rb := rnd_le x0 s 9223372036854775808 (by omega) (by omega)
  have rs := rnd_self x0 s
  -- once rounded
  have up : rnd x0 s ≤ 9223372036854775807 := by
    rcases Nat.eq_zero_or_pos s with z | z
    · subst z; rw [rnd_zero]; omega
    · have k := rnd_near x0 s
      have P2 : (2 : Int) ≤ 2 ^ s := by
        have := pow_le_pow (m := 1) (n := s) z
        have e : (2 : Int) ^ 1 = 2 := rfl
        omega
      rcases Int.lt_or_le 9223372036854775807 (rnd x0 s) with c | c
      · exfalso
        have q := Int.mul_le_mul_of_nonneg_right (show 9223372036854775808 ≤ rnd x0 s by omega) (Int.le_of_lt P0)
        omega
      · exact c
  have W1 := wide_round h l s (by omega) o1
  rw [v1, rs, if_pos (by omega)] at W1
  have W2 := wide_round h2 l2 s (by omega) o2
  rw [v2, if_pos (by omega)] at W2
  obtain ⟨h3, l3, e3, o3, v3⟩ := wide_of (rnd x0 s) (by omega) (by omega)
  have rb2 := rnd_le (rnd x0 s) t 9223372036854775808 (by omega) (by omega)
  have up2 : ∀ (x : Int) (n : Nat), -9223372036854775808 ≤ x → x ≤ 9223372036854775807 → rnd x n ≤ 9223372036854775807 := fun x n a0 a1 => by
    rcases Nat.eq_zero_or_pos n with z | z
    · subst z; rw [rnd_zero]; omega
    · have k := rnd_near x n
      have P2 : (2 : Int) ≤ 2 ^ n := by
        have := pow_le_pow (m := 1) (n := n) z
        have e : (2 : Int) ^ 1 = 2 := rfl
        omega
      rcases Int.lt_or_le 9223372036854775807 (rnd x n) with c | c
      · exfalso
        have q := Int.mul_le_mul_of_nonneg_right (show 9223372036854775808 ≤ rnd x n by omega) (show (0 : Int) ≤ 2 ^ n by omega)
        omega
      · exact c
  have W3 := wide_round h3 l3 t (by omega) o3
  rw [v3, if_pos ⟨by omega, up2 _ _ (by omega) up⟩] at W3
  have st : IntKind.wrap .i64 (Int.ofNat s + Int.ofNat t) = Int.ofNat (s + t) := (wrap_i64 (by simp only [Int.ofNat_eq_natCast]; omega) (by simp only [Int.ofNat_eq_natCast]; omega)).trans rfl
  have rb3 := rnd_le x0 (s + t) 9223372036854775808 (by omega) (by omega)
  have W4 := wide_round h2 l2 (s + t) (by omega) o2
  rw [v2, if_pos ⟨by omega, up2 _ _ (by omega) (by omega)⟩] at W4
  have tw := rnd_twice x0 s t
  rw [e1, Option.bind_some]
  simp only [Bool.not_true, cond_false]
  rw [W1, Option.bind_some, e2, Option.bind_some]
  simp only
  rw [W2, Option.bind_some]
  simp only
  rw [e3, Option.bind_some]
  simp only
  rw [W3, Option.bind_some, Option.bind_some]
  simp only
  rw [st, W4, Option.bind_some]
  simp only [beq_self_eq_true, cond_true]
  have u2 := up2 (rnd x0 s) t (by omega) up
  rw [wrap_i64 (n := rnd (rnd x0 s) t - rnd x0 (s + t)) (by omega) (by omega), wrap_i64 (n := rnd x0 (s + t) - rnd (rnd x0 s) t) (by omega) (by omega), decide_eq_true tw.1, cond_true, decide_eq_true tw.2]
theorem wideShifts_ev (f : (Int) → (Int) → (Int) → Option Bool) (x0_0 : Int) (x1_0 : Int) (x2_0 : Int) : F_astrolabelaw1_WideShifts f [.r (.c (.f (.i .i64 x0_0))), .r (.c (.f (.i .i64 x1_0))), .r (.c (.f (.i .i64 x2_0)))] [] = .opt (f x0_0 x1_0 x2_0) fun d => .leaf ⟨.r (.c (.f (.b d))), [], []⟩ := by kernel_rfl
theorem wideShifts_trues : Trues (F_astrolabelaw1_WideShifts f_astrolabelaw1_WideShifts) [.flat false [.c (.i .i64)], .flat false [.c (.i .i64)], .flat false [.c (.i .i64)]] := fun ds h => by
  obtain ⟨_, _, rfl, q0_0, g0⟩ := fit_flat h
  obtain ⟨x0_0, _, rfl, r0_0, q0_1⟩ := f1_i q0_0
  obtain rfl := f1_nil q0_1
  obtain ⟨_, _, rfl, q1_0, g1⟩ := fit_flat g0
  obtain ⟨x1_0, _, rfl, r1_0, q1_1⟩ := f1_i q1_0
  obtain rfl := f1_nil q1_1
  obtain ⟨_, _, rfl, q2_0, g2⟩ := fit_flat g1
  obtain ⟨x2_0, _, rfl, r2_0, q2_1⟩ := f1_i q2_0
  obtain rfl := f1_nil q2_1
  obtain rfl := fit_nil g2
  refine ⟨[], (congrArg T.eval (wideShifts_ev f_astrolabelaw1_WideShifts x0_0 x1_0 x2_0)).trans ?_⟩
  rw [wideShifts_plain x0_0 x1_0 x2_0 r0_0 r1_0 r2_0]
  rfl
set_option maxRecDepth 100000 in
theorem wideShifts_lifted (os : Os) (started : os.Started) (H : Type) (enc : TypeId × Value → H) :
    ReturnsInHanded {} Try.checked os 8 .any (Rows.wideShiftsSpec.pre6 enc Try.prog Try.f8 Rows.wideShiftsRow.domain false) (Rows.wideShiftsSpec.post enc Try.prog Try.f8 false true false false) :=
  law_lift (C := Try.checked) (tb := Try.f8.resultTypes.getD 0 0) own started (by kernel_rfl) Try.func8 laid (by kernel_rfl) (by kernel_rfl) (by kernel_rfl) rfl
    (fun ds h => by
      have h : ds.length = 3 := h.trans (by kernel_rfl)
      match ds, h with
      | [_, _, _], _ => rfl)
    (ChangeSpec.witness6 (enc := enc) (C := Try.checked) false ⟨#[], #[.int .i64 0, .int .i64 0, .int .i64 0], []⟩ 8 (by kernel_rfl) (by kernel_rfl) (by kernel_rfl) (by kernel_rfl))
    (fun W base args ds ps _ hval ht hz _ _ => prm_calls (pr := [.flat false [.c (.i .i64)], .flat false [.c (.i .i64)], .flat false [.c (.i .i64)]]) s_astrolabelaw1_WideShifts (by kernel_rfl) (ts := Try.f8.params.toList) (by kernel_rfl) (by kernel_rfl) wideShifts_trues hval ht hz)
theorem wideShifts_over : Rows.wideShiftsRow.holds Try.pinned (OpenSpec.ofChange Rows.wideShiftsSpec) :=
  OpenClaim.holds_of_wide 8 Try.f8 rfl rfl rfl rfl rfl rfl rfl ⟨rfl, rfl, rfl, rfl, rfl⟩ rfl rfl rfl rfl rfl (by kernel_rfl) Try.func8 (by kernel_rfl)
    (of_decide_eq_true (by kernel_rfl)) (by unfold Func.isWrapper; first | (rw [if_pos (by decide +kernel)]; kernel_rfl) | (rw [if_neg (by decide +kernel)]; exact ⟨rfl, rfl⟩))
    (fun os started H enc _ => wideShifts_lifted os started H enc)
/-- the statement -/
theorem wideShifts_proved : Rows.WideShiftsSaid := wideShifts_over
#print axioms wideShifts_proved
end Go.Proofs.Ytcalippagaaikaa
