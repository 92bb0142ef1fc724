/-
  A source whose sensor may not be used is left at the next step, if another one may; without aid for longer than the limit the machine is not valid: the statement of astrolabelaw25.ModeSilent; no condition.
-/
import Derived.Test.YtgbgdihahmecoaaMS
import Derived.Test.YtgbgdihahmecoaaAbLaw
set_option maxRecDepth 100000
set_option maxHeartbeats 4000000
set_option linter.unusedVariables false
set_option linter.unusedSimpArgs false
namespace Go.Proofs.Ytgbgdihahmecoaa
open Go.Ab
theorem pick_le (old p : Int) (u0 u1 u2 : Bool) (h : old ≤ 3) : 1 ≤ (pickF old u0 u1 u2 p).1 ∧ (pickF old u0 u1 u2 p).1 ≤ 3 := by
  unfold pickF
  split
  · rename_i h; omega
  · split
    · simp
    · split
      · simp
      · split
        · simp
        · simp only; split <;> omega
theorem pick_ok (old p : Int) (u0 u1 u2 : Bool) (h : (u0 || u1 || u2) = true) : (pickF old u0 u1 u2 p).2 = true ∧
    (((pickF old u0 u1 u2 p).1 = 1 ∧ u1 = true) ∨ ((pickF old u0 u1 u2 p).1 = 2 ∧ u0 = true) ∨ ((pickF old u0 u1 u2 p).1 = 3 ∧ u2 = true)) := by
  unfold pickF
  split
  · rename_i h1
    exact ⟨rfl, h1⟩
  · cases u0 <;> cases u1 <;> cases u2 <;> first | (cases h; done) | simp
theorem pick_no (old p : Int) : (pickF old false false false p).2 = false := by
  unfold pickF
  simp
theorem next_vals (m : Int) (a b aid : Bool) : nextF m a b aid = 0 ∨ nextF m a b aid = 1 ∨ (nextF m a b aid = 2 ∧ aid = false) ∨ (nextF m a b aid = 3 ∧ aid = true) := by
  unfold nextF
  cases a <;> cases b <;> cases aid <;> simp <;> (repeat' split) <;> simp_all
theorem silent_core (x0 m s : Int) (a b u0 u1 u2 u3 u4 u5 : Bool) (since limit p : Int) (hs : s ≤ 3) (v h : Bool) :
    (K_astrolabelaw25_ModeSilent (some true) (fun _ _ _ _ _ _ _ _ _ _ _ _ _ _ _ => some (stepF m s a b u0 u1 u2 u5 since limit p)) x0 s v h a b u0 u1 u2 u3 u4 u5 since limit p some) = some true := by
  unfold K_astrolabelaw25_ModeSilent
  simp only [Option.bind_some, Bool.not_true, cond_false]
  have hp := pick_le s p u0 u1 u2 hs
  have hv := next_vals m a b (u0 || u5)
  unfold stepF
  generalize nextF m a b (u0 || u5) = n at *
  by_cases hn : 2 ≤ n
  · rw [if_pos hn]
    have hn' : ¬ n < 2 := by omega
    by_cases hsome : (u0 || u1 || u2) = true
    · have hk := pick_ok s p u0 u1 u2 hsome
      generalize pickF s u0 u1 u2 p = q at *
      obtain ⟨q1, q2⟩ := q
      simp only at hp hk ⊢
      obtain ⟨rfl, hk⟩ := hk
      have hin : inR q1 4 = true := by simp [inR]; omega
      rcases hk with ⟨rfl, h6⟩ | ⟨rfl, h6⟩ | ⟨rfl, h6⟩ <;> rcases hv with rfl | rfl | ⟨rfl, h5⟩ | ⟨rfl, h5⟩ <;> first | (omega) | skip
      all_goals (cases u0 <;> cases u1 <;> cases u2 <;> cases u5 <;> first | (cases h5; done) | (cases h6; done) | (by_cases h1 : since ≤ limit <;> by_cases h2 : 0 ≤ since <;> simp [Bool.cond_eq_ite, inR, h1, h2]))
    · cases u0 <;> cases u1 <;> cases u2 <;> first | (exact absurd rfl hsome) | skip
      have hk := pick_no s p
      generalize pickF s false false false p = q at *
      obtain ⟨q1, q2⟩ := q
      simp only at hp hk ⊢
      subst hk
      rcases hv with rfl | rfl | ⟨rfl, h5⟩ | ⟨rfl, h5⟩ <;> first | (omega) | skip
      all_goals (cases u5 <;> first | (cases h5; done) | (by_cases h1 : since ≤ limit <;> by_cases h2 : 0 ≤ since <;> simp [Bool.cond_eq_ite, inR, h1, h2]))
  · rw [if_neg hn]
    have hn' : n < 2 := by omega
    simp [hn']
theorem modeSilent_plain (x0 x1 : Int) (x2 x3 x4 x5 x6 x7 x8 x9 x10 x11 : Bool) (x12 x13 x14 : Int) : f_astrolabelaw25_ModeSilent x0 x1 x2 x3 x4 x5 x6 x7 x8 x9 x10 x11 x12 x13 x14 = some true := by
  by_cases hg : goodF x0 x1 x2 x3
  · have h := silent_core x0 x0 x1 x4 x5 x6 x7 x8 x9 x10 x11 x12 x13 x14 (by rcases hg with h | h <;> omega) x2 x3
    unfold K_astrolabelaw25_ModeSilent at h
    unfold f_astrolabelaw25_ModeSilent K_astrolabelaw25_ModeSilent
    rw [mode_awake, mode_step, if_pos hg]
    exact h
  · have h := silent_core x0 0 0 x4 x5 x6 x7 x8 x9 x10 x11 x12 x13 x14 (by omega) x2 x3
    unfold K_astrolabelaw25_ModeSilent at h
    unfold f_astrolabelaw25_ModeSilent K_astrolabelaw25_ModeSilent
    rw [mode_awake, mode_step, if_neg hg]
    exact h
theorem modeSilent_ev (f : (Int) → (Int) → (Bool) → (Bool) → (Bool) → (Bool) → (Bool) → (Bool) → (Bool) → (Bool) → (Bool) → (Bool) → (Int) → (Int) → (Int) → Option Bool) (x0_0 : Int) (x0_1 : Int) (x0_2 : Bool) (x0_3 : Bool) (x1_0 : Bool) (x1_1 : Bool) (x1_2 : Bool) (x1_3 : Bool) (x1_4 : Bool) (x1_5 : Bool) (x1_6 : Bool) (x1_7 : Bool) (x1_8 : Int) (x1_9 : Int) (x1_10 : Int) : F_astrolabelaw25_ModeSilent f [.r (.agg [.c (.f (.i .i64 x0_0)), .c (.f (.i .i64 x0_1)), .c (.f (.b x0_2)), .c (.f (.b x0_3))]), .r (.agg [.c (.f (.b x1_0)), .c (.f (.b x1_1)), .c (.f (.b x1_2)), .c (.f (.b x1_3)), .c (.f (.b x1_4)), .c (.f (.b x1_5)), .c (.f (.b x1_6)), .c (.f (.b x1_7)), .c (.f (.i .i64 x1_8)), .c (.f (.i .i64 x1_9)), .c (.f (.i .i64 x1_10))])] [] = .opt (f x0_0 x0_1 x0_2 x0_3 x1_0 x1_1 x1_2 x1_3 x1_4 x1_5 x1_6 x1_7 x1_8 x1_9 x1_10) fun d => .leaf ⟨.r (.c (.f (.b d))), [], []⟩ := by kernel_rfl
theorem modeSilent_trues : Trues (F_astrolabelaw25_ModeSilent f_astrolabelaw25_ModeSilent) [.flat true [.c (.i .i64), .c (.i .i64), .c (.b), .c (.b)], .flat true [.c (.b), .c (.b), .c (.b), .c (.b), .c (.b), .c (.b), .c (.b), .c (.b), .c (.i .i64), .c (.i .i64), .c (.i .i64)]] := fun ds h => by
  obtain ⟨_, _, rfl, q0_0, g0⟩ := fit_flat h
  obtain ⟨x0_0, _, rfl, r0_0, q0_1⟩ := f1_i q0_0
  obtain ⟨x0_1, _, rfl, r0_1, q0_2⟩ := f1_i q0_1
  obtain ⟨x0_2, _, rfl, q0_3⟩ := f1_b q0_2
  obtain ⟨x0_3, _, rfl, q0_4⟩ := f1_b q0_3
  obtain rfl := f1_nil q0_4
  obtain ⟨_, _, rfl, q1_0, g1⟩ := fit_flat g0
  obtain ⟨x1_0, _, rfl, q1_1⟩ := f1_b q1_0
  obtain ⟨x1_1, _, rfl, q1_2⟩ := f1_b q1_1
  obtain ⟨x1_2, _, rfl, q1_3⟩ := f1_b q1_2
  obtain ⟨x1_3, _, rfl, q1_4⟩ := f1_b q1_3
  obtain ⟨x1_4, _, rfl, q1_5⟩ := f1_b q1_4
  obtain ⟨x1_5, _, rfl, q1_6⟩ := f1_b q1_5
  obtain ⟨x1_6, _, rfl, q1_7⟩ := f1_b q1_6
  obtain ⟨x1_7, _, rfl, q1_8⟩ := f1_b q1_7
  obtain ⟨x1_8, _, rfl, r1_8, q1_9⟩ := f1_i q1_8
  obtain ⟨x1_9, _, rfl, r1_9, q1_10⟩ := f1_i q1_9
  obtain ⟨x1_10, _, rfl, r1_10, q1_11⟩ := f1_i q1_10
  obtain rfl := f1_nil q1_11
  obtain rfl := fit_nil g1
  refine ⟨[], (congrArg T.eval (modeSilent_ev f_astrolabelaw25_ModeSilent x0_0 x0_1 x0_2 x0_3 x1_0 x1_1 x1_2 x1_3 x1_4 x1_5 x1_6 x1_7 x1_8 x1_9 x1_10)).trans ?_⟩
  rw [modeSilent_plain x0_0 x0_1 x0_2 x0_3 x1_0 x1_1 x1_2 x1_3 x1_4 x1_5 x1_6 x1_7 x1_8 x1_9 x1_10]
  rfl
set_option maxRecDepth 100000 in
theorem modeSilent_lifted (os : Os) (started : os.Started) (H : Type) (enc : TypeId × Value → H) :
    ReturnsInHanded {} Try.checked os 6 .any (Rows.modeSilentSpec.pre6 enc Try.prog Try.f6 Rows.modeSilentRow.domain false) (Rows.modeSilentSpec.post enc Try.prog Try.f6 false true false false) :=
  law_lift (C := Try.checked) (tb := Try.f6.resultTypes.getD 0 0) own started (by kernel_rfl) Try.func6 laid (by kernel_rfl) (by kernel_rfl) (by kernel_rfl) rfl
    (fun ds h => by
      have h : ds.length = 2 := h.trans (by kernel_rfl)
      match ds, h with
      | [_, _], _ => rfl)
    (ChangeSpec.witness6 (enc := enc) (C := Try.checked) false ⟨#[], #[.agg #[.int .i64 0, .int .i64 0, .bool false, .bool false], .agg #[.bool false, .bool false, .bool false, .bool false, .bool false, .bool false, .bool false, .bool false, .int .i64 0, .int .i64 0, .int .i64 0]], []⟩ 8 (by kernel_rfl) (by kernel_rfl) (by kernel_rfl) (by kernel_rfl))
    (fun W base args ds ps _ hval ht hz _ _ => prm_calls (pr := [.flat true [.c (.i .i64), .c (.i .i64), .c (.b), .c (.b)], .flat true [.c (.b), .c (.b), .c (.b), .c (.b), .c (.b), .c (.b), .c (.b), .c (.b), .c (.i .i64), .c (.i .i64), .c (.i .i64)]]) s_astrolabelaw25_ModeSilent (by kernel_rfl) (ts := Try.f6.params.toList) (by kernel_rfl) (by kernel_rfl) modeSilent_trues hval ht hz)
theorem modeSilent_over : Rows.modeSilentRow.holds Try.pinned (OpenSpec.ofChange Rows.modeSilentSpec) :=
  OpenClaim.holds_of_wide 6 Try.f6 rfl rfl rfl rfl rfl rfl rfl ⟨rfl, rfl, rfl, rfl, rfl⟩ rfl rfl rfl rfl rfl (by kernel_rfl) Try.func6 (by kernel_rfl)
    (of_decide_eq_true (by kernel_rfl)) (by unfold Func.isWrapper; first | (rw [if_pos (by decide +kernel)]; kernel_rfl) | (rw [if_neg (by decide +kernel)]; exact ⟨rfl, rfl⟩))
    (fun os started H enc _ => modeSilent_lifted os started H enc)
/-- the statement -/
theorem modeSilent_proved : Rows.ModeSilentSaid := modeSilent_over
#print axioms modeSilent_proved
end Go.Proofs.Ytgbgdihahmecoaa
