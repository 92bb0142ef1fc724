/-
  A watch by itself: marks, misses, freshness for any times and timeouts, exactly; a sensor has them as its own: the statement of astrolabelaw24.HealthWatches; no condition.
-/
import Derived.Test.YtmlmpcabphgfaaaH3
import Derived.Test.YtmlmpcabphgfaaaAbInv
set_option maxRecDepth 100000
set_option maxHeartbeats 4000000
set_option linter.unusedVariables false
set_option linter.unusedSimpArgs false
namespace Go.Proofs.Ytmlmpcabphgfaaa
open Go.Ab
theorem health_awake : f_astrolabelaw24_awake = some true := by kernel_rfl
theorem watch_miss (last fails : Int) (seen : Bool) (h0 : 0 ≤ fails) (h1 : fails ≤ 1000) : f___health_Watch__Miss last fails seen = some (last, if fails < 1000 then fails + 1 else fails, seen) ∧
    f_astrolaberef25_Miss last fails seen = some (last, if fails < 1000 then fails + 1 else fails, seen) := by
  unfold f___health_Watch__Miss K___health_Watch__Miss f_astrolaberef25_Miss K_astrolaberef25_Miss
  rw [wrap_i64 (by omega) (by omega)]
  by_cases h : fails < 1000
  · simp [h]; omega
  · have : fails = 1000 := by omega
    subst this; simp
theorem watch_mark (t last fails : Int) (seen : Bool) : f___health_Watch__Mark t last fails seen = some (if seen = true ∧ t ≤ last then last else t) ∧ f_astrolaberef25_Mark last fails seen t = some (if seen = true ∧ t ≤ last then last else t) := by
  unfold f___health_Watch__Mark K___health_Watch__Mark f_astrolaberef25_Mark K_astrolaberef25_Mark
  cases seen
  · simp
  · by_cases h : t ≤ last
    · have : ¬ t > last := by omega
      simp [h, this]
    · have : t > last := by omega
      simp [h, this]
theorem watch_fresh (now timeout last fails : Int) (seen : Bool) (h0 : -9223372036854775808 ≤ timeout) : ∃ b, f_astrolaberef25_Fresh last fails seen now timeout = some b ∧ f___health_Watch__Fresh now timeout last fails seen = some b := by
  unfold f___health_Watch__Fresh K___health_Watch__Fresh f_astrolaberef25_Fresh K_astrolaberef25_Fresh
  cases seen
  · exact ⟨false, rfl, rfl⟩
  · by_cases h : now ≥ last
    · by_cases h2 : timeout ≥ 0 <;> simp [h, h2]
    · by_cases h2 : timeout ≥ 0
      · simp [h, h2]
      · have e : IntKind.wrap .u64 (0 - IntKind.wrap .u64 timeout) = IntKind.wrap .u64 (IntKind.wrap .u64 (IntKind.wrap .i64 (0 - IntKind.wrap .i64 (timeout + 1))) + 1) := by
          rw [wrap_i64 (n := timeout + 1) (by omega) (by omega), wrap_i64 (by omega) (by omega)]
          simp only [wrap_u64]
          omega
        rw [e]
        simp [h, h2]
theorem healthWatches_plain (n : Nat) (now timeout most : Int) (l : Nat → Int) (b : Bool) (hn : n ≤ maxLen) (hl : ∀ j, j < n → IntKind.min .i64 ≤ l j ∧ l j ≤ IntKind.max .i64) (h1 : IntKind.min .i64 ≤ now ∧ now ≤ IntKind.max .i64) (h2 : IntKind.min .i64 ≤ timeout ∧ timeout ≤ IntKind.max .i64) (h3 : IntKind.min .i64 ≤ most ∧ most ≤ IntKind.max .i64) :
    f_astrolabelaw24_HealthWatches n now timeout most l b = some true := by
  have ht : -9223372036854775808 ≤ timeout := h2.1
  unfold f_astrolabelaw24_HealthWatches K_astrolabelaw24_HealthWatches
  rw [health_awake]
  simp only [Option.bind_some, Bool.not_true, cond_false]
  by_cases h100 : Int.ofNat n > 100
  · simp only [decide_eq_true h100, cond_true]
  · have h100' : n ≤ 100 := by simp only [Int.ofNat_eq_natCast] at h100; omega
    simp only [decide_eq_false h100, cond_false]
    unfold L_astrolabelaw24_HealthWatches_0
    refine loopK_inv (fun t d => ∃ (i : Nat) (last fails : Int) (seen : Bool), i + t = n ∧ 0 ≤ fails ∧ fails ≤ 1000 ∧ d = (n, b, now, timeout, most, Int.ofNat i, true, timeout, n, l, last, fails, seen, timeout, most, last, fails, seen)) ?_ 200 n _ (by omega) ⟨0, 0, 0, false, by omega, by omega, by omega, rfl⟩
    rintro t _ c ⟨i, last, fails, seen, hi, hf0, hf1, rfl⟩ hc
    unfold S_astrolabelaw24_HealthWatches_0
    simp only
    rcases Nat.eq_zero_or_pos t with h0 | h0
    · have e : decide (Int.ofNat i < Int.ofNat n) = false := by simp only [Int.ofNat_eq_natCast]; exact decide_eq_false (by omega)
      obtain ⟨f, f1, f2⟩ := watch_fresh now timeout last fails seen ht
      have f3 : f___health_Sensor__Usable now last fails seen 0 timeout most = some (f && decide (fails ≤ most)) := by
        unfold f___health_Sensor__Usable K___health_Sensor__Usable
        rw [f2]; cases f <;> rfl
      simp only [e, cond_false, Sum.elim_inr, f1, f2, f3, Option.bind_some, beq_self_eq_true, cond_true]
      cases f <;> simp
    · have e : decide (Int.ofNat i < Int.ofNat n) = true := by simp only [Int.ofNat_eq_natCast]; exact decide_eq_true (by omega)
      have e2 : inR (Int.ofNat i) n = true := by unfold inR; simp only [Int.ofNat_eq_natCast, Bool.and_eq_true, decide_eq_true_eq]; omega
      have e4 : IntKind.wrap IntKind.i64 (Int.ofNat i + 1) = Int.ofNat (i + 1) := (wrap_i64 (by simp only [Int.ofNat_eq_natCast]; omega) (by simp only [Int.ofNat_eq_natCast]; omega)).trans rfl
      simp only [e, e2, e4, cond_true]
      by_cases hneg : l (Int.toNat (Int.ofNat i)) < 0
      · obtain ⟨m1, m2⟩ := watch_miss last fails seen hf0 hf1
        simp only [hneg, decide_true, cond_true, m1, m2, Option.bind_some, bne_self_eq_false, cond_false]
        have e5 : (!seen == seen) = false := by cases seen <;> rfl
        first
          | simp only [e5, cond_false]
          | skip
        refine hc (t - 1) _ (by omega) ⟨i + 1, last, _, seen, by omega, ?_, ?_, rfl⟩
        · split <;> omega
        · split <;> omega
      · obtain ⟨m1, m2⟩ := watch_mark (l (Int.toNat (Int.ofNat i))) last fails seen
        simp only [hneg, decide_false, cond_false, m1, m2, Option.bind_some, bne_self_eq_false]
        exact hc (t - 1) _ (by omega) ⟨i + 1, _, 0, true, by omega, by omega, by omega, rfl⟩
theorem healthWatches_ev (f : (Nat) → (Int) → (Int) → (Int) → (Nat → Int) → Bool → Option Bool) (n0 : Nat) (x1_0 : Int) (x2_0 : Int) (x3_0 : Int) (x0_0 : Nat → Int) : F_astrolabelaw24_HealthWatches f [.r (.c (.sl 0 (.k 0) (.s n0) 1 false)), .r (.c (.f (.i .i64 x1_0))), .r (.c (.f (.i .i64 x2_0))), .r (.c (.f (.i .i64 x3_0)))] [[.a (.s n0) [.i .i64 x0_0]]] = .test (Nat.beq n0 n0) (.opt (f n0 x1_0 x2_0 x3_0 x0_0 false) fun d => .leaf ⟨.r (.c (.f (.b d))), [.keep], []⟩) .fail := by kernel_rfl
theorem healthWatches_trues : Trues (F_astrolabelaw24_HealthWatches f_astrolabelaw24_HealthWatches) [.sl [.i .i64], .flat false [.c (.i .i64)], .flat false [.c (.i .i64)], .flat false [.c (.i .i64)]] := fun ds h => by
  obtain ⟨n0, c0, _, rfl, m0, q0_0, g0⟩ := fit_sl h
  obtain ⟨x0_0, _, rfl, r0_0, q0_1⟩ := col_i q0_0
  obtain rfl := col_nil q0_1
  obtain ⟨_, _, rfl, q1_0, g1⟩ := fit_flat g0
  obtain ⟨x1_0, _, rfl, r1_0, q1_1⟩ := f1_i q1_0
  obtain rfl := f1_nil q1_1
  obtain ⟨_, _, rfl, q2_0, g2⟩ := fit_flat g1
  obtain ⟨x2_0, _, rfl, r2_0, q2_1⟩ := f1_i q2_0
  obtain rfl := f1_nil q2_1
  obtain ⟨_, _, rfl, q3_0, g3⟩ := fit_flat g2
  obtain ⟨x3_0, _, rfl, r3_0, q3_1⟩ := f1_i q3_0
  obtain rfl := f1_nil q3_1
  obtain rfl := fit_nil g3
  refine ⟨[], (congrArg T.eval (healthWatches_ev f_astrolabelaw24_HealthWatches n0 x1_0 x2_0 x3_0 x0_0)).trans ?_⟩
  rw [nbeq_self n0]
  rw [healthWatches_plain n0 x1_0 x2_0 x3_0 x0_0 false m0 r0_0 r1_0 r2_0 r3_0]
  rfl
set_option maxRecDepth 100000 in
theorem healthWatches_lifted (os : Os) (started : os.Started) (H : Type) (enc : TypeId × Value → H) :
    ReturnsInHanded {} Try.checked os 5 .any (Rows.healthWatchesSpec.pre6 enc Try.prog Try.f5 Rows.healthWatchesRow.domain false) (Rows.healthWatchesSpec.post enc Try.prog Try.f5 false true false false) :=
  law_lift (C := Try.checked) (tb := Try.f5.resultTypes.getD 0 0) own started (by kernel_rfl) Try.func5 laid (by kernel_rfl) (by kernel_rfl) (by kernel_rfl) rfl
    (fun ds h => by
      have h : ds.length = 4 := h.trans (by kernel_rfl)
      match ds, h with
      | [_, _, _, _], _ => rfl)
    (ChangeSpec.witness6 (enc := enc) (C := Try.checked) false ⟨#[], #[.slice none 0 0, .int .i64 0, .int .i64 0, .int .i64 0], []⟩ 8 (by kernel_rfl) (by kernel_rfl) (by kernel_rfl) (by kernel_rfl))
    (fun W base args ds ps _ hval ht hz _ _ => prm_calls (pr := [.sl [.i .i64], .flat false [.c (.i .i64)], .flat false [.c (.i .i64)], .flat false [.c (.i .i64)]]) s_astrolabelaw24_HealthWatches (by kernel_rfl) (ts := Try.f5.params.toList) (by kernel_rfl) (by kernel_rfl) healthWatches_trues hval ht hz)
theorem healthWatches_over : Rows.healthWatchesRow.holds Try.pinned (OpenSpec.ofChange Rows.healthWatchesSpec) :=
  OpenClaim.holds_of_wide 5 Try.f5 rfl rfl rfl rfl rfl rfl rfl ⟨rfl, rfl, rfl, rfl, rfl⟩ rfl rfl rfl rfl rfl (by kernel_rfl) Try.func5 (by kernel_rfl)
    (of_decide_eq_true (by kernel_rfl)) (by unfold Func.isWrapper; first | (rw [if_pos (by decide +kernel)]; kernel_rfl) | (rw [if_neg (by decide +kernel)]; exact ⟨rfl, rfl⟩))
    (fun os started H enc _ => healthWatches_lifted os started H enc)
/-- the statement -/
theorem healthWatches_proved : Rows.HealthWatchesSaid := healthWatches_over
#print axioms healthWatches_proved
end Go.Proofs.Ytmlmpcabphgfaaa
