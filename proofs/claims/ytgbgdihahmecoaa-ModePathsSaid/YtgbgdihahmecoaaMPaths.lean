/-
  On any path every machine is good, one source is active once the filter is aligned, no way leads back; a path is its steps: the statement of astrolabelaw25.ModePaths; no condition.
-/
import Derived.Test.YtgbgdihahmecoaaM5
import Derived.Test.YtgbgdihahmecoaaMPath
import Derived.Test.YtgbgdihahmecoaaAbLaw
import Derived.Test.YtgbgdihahmecoaaAbInv
set_option maxRecDepth 100000
set_option maxHeartbeats 4000000
set_option linter.unusedVariables false
set_option linter.unusedSimpArgs false
namespace Go.Proofs.Ytgbgdihahmecoaa
open Go.Ab
theorem pick_rng2 (old p : Int) (u0 u1 u2 : Bool) (h : old ≤ 3) : 1 ≤ (pickF old u0 u1 u2 p).1 ∧ (pickF old u0 u1 u2 p).1 ≤ 3 := by
  unfold pickF
  split
  · rename_i h; omega
  · split
    · simp
    · split
      · simp
      · split
        · simp
        · simp only; split <;> omega
theorem step_facts (m s : Int) (a b u0 u1 u2 u5 : Bool) (si li p : Int) (hs : s ≤ 3) (hm : m = 0 ∨ m = 1 ∨ m = 2 ∨ m = 3) (q : Int × Int × Bool × Bool × Int × Int) (hq : q = stepF m s a b u0 u1 u2 u5 si li p) :
    goodF q.1 q.2.1 q.2.2.1 q.2.2.2.1 ∧ (q.2.1 = 0 ↔ q.1 < 2) ∧ 0 ≤ q.1 ∧ (m < 2 → m ≤ q.1) ∧ (2 ≤ m → 2 ≤ q.1) := by
  have hp := pick_rng2 s p u0 u1 u2 hs
  have hv : nextF m a b (u0 || u5) = 0 ∨ nextF m a b (u0 || u5) = 1 ∨ nextF m a b (u0 || u5) = 2 ∨ nextF m a b (u0 || u5) = 3 := by
    unfold nextF
    (repeat' split) <;> simp
  have hw : (m < 2 → m ≤ nextF m a b (u0 || u5)) ∧ (2 ≤ m → 2 ≤ nextF m a b (u0 || u5)) := by
    unfold nextF
    rcases hm with rfl | rfl | rfl | rfl <;> cases a <;> cases b <;> cases (u0 || u5) <;> simp
  subst hq
  unfold stepF
  generalize nextF m a b (u0 || u5) = n at *
  generalize pickF s u0 u1 u2 p = w at *
  rcases hv with rfl | rfl | rfl | rfl
  · refine ⟨by simp [goodF], by simp, by simp, ?_, ?_⟩ <;> simp <;> omega
  · refine ⟨by simp [goodF], by simp, by simp, ?_, ?_⟩ <;> simp <;> omega
  · refine ⟨by simp [goodF, hp], ?_, by simp, ?_, ?_⟩ <;> simp <;> omega
  · refine ⟨by simp [goodF, hp], ?_, by simp, ?_, ?_⟩ <;> simp <;> omega
theorem stM_facts (x : Mac) (I : Ins) (j : Nat) (q : Int × Int × Bool × Bool × Int × Int) (hq : q = stM x I j) :
    goodF q.1 q.2.1 q.2.2.1 q.2.2.2.1 ∧ (q.2.1 = 0 ↔ q.1 < 2) ∧ 0 ≤ q.1 ∧ (goodF x.1 x.2.1 x.2.2.1 x.2.2.2 → (x.1 < 2 → x.1 ≤ q.1) ∧ (2 ≤ x.1 → 2 ≤ q.1)) := by
  unfold stM at hq
  by_cases hg : goodF x.1 x.2.1 x.2.2.1 x.2.2.2
  · rw [if_pos hg] at hq
    obtain ⟨a, b, c, d, e⟩ := step_facts _ _ _ _ _ _ _ _ _ _ _ (by rcases hg with h | h <;> omega) (by rcases hg with h | h <;> omega) q hq
    exact ⟨a, b, c, fun _ => ⟨d, e⟩⟩
  · rw [if_neg hg] at hq
    obtain ⟨a, b, c, d, e⟩ := step_facts _ _ _ _ _ _ _ _ _ _ _ (by omega) (by omega) q hq
    exact ⟨a, b, c, fun h => absurd h hg⟩
theorem modePaths_plain (x0 x1 : Int) (x2 x3 : Bool) (n : Nat) (y0 y1 y2 y3 y4 y5 y6 y7 : Nat → Bool) (y8 y9 y10 : Nat → Int) (b : Bool) : f_astrolabelaw25_ModePaths x0 x1 x2 x3 n y0 y1 y2 y3 y4 y5 y6 y7 y8 y9 y10 b = some true := by
  unfold f_astrolabelaw25_ModePaths K_astrolabelaw25_ModePaths
  rw [mode_awake, Option.bind_some]
  simp only [Bool.not_true, cond_false, Nat.zero_add, Nat.beq_refl, cond_true]
  by_cases h60 : Int.ofNat n > 60
  · rw [decide_eq_true h60, cond_true]
  · have hn : n ≤ 60 := by simp only [Int.ofNat_eq_natCast] at h60; omega
    rw [decide_eq_false h60, cond_false]
    have e0 : Nat.ble (n * 32) 140737488355328 = true := Nat.ble_eq_true_of_le (by omega)
    rw [e0, cond_true]
    obtain ⟨c1, c2, c3, c4, k1, k2⟩ := mode_path (x0, x1, x2, x3) ⟨y0, y1, y2, y3, y4, y5, y6, y7, y8, y9, y10⟩ true n (by omega)
    have k2 : f_mode_Path x0 x1 x2 x3 n y0 y1 y2 y3 y4 y5 y6 y7 y8 y9 y10 true = some (n, n, c1, c2, c3, c4) := k2
    rw [k2, Option.bind_some]
    have e1 : (Int.ofNat n != Int.ofNat n) = false := by simp
    simp only [e1, cond_false]
    generalize hI : (⟨y0, y1, y2, y3, y4, y5, y6, y7, y8, y9, y10⟩ : Ins) = I at k1
    generalize hx : ((x0, x1, x2, x3) : Mac) = x at k1
    unfold L_astrolabelaw25_ModePaths_0
    refine loopK_inv (fun t d => ∃ (i : Nat) (was : Int), i + t = n ∧ (was = 0 ∨ (goodF (runP x I i).1 (runP x I i).2.1 (runP x I i).2.2.1 (runP x I i).2.2.2 ∧ was = (runP x I i).1)) ∧
      d = (n, b, n, was, Int.ofNat i, false, n, n, I.ti, I.he, I.u0, I.u1, I.u2, I.u3, I.u4, I.u5, I.si, I.li, I.pr, (runP x I i).1, (runP x I i).2.1, (runP x I i).2.2.1, (runP x I i).2.2.2, n, c1, c2, c3, c4)) ?_ 200 n _ (by omega)
      ⟨0, 0, by omega, .inl rfl, by subst hI; subst hx; rfl⟩
    rintro t _ c ⟨i, was, hi, hw, rfl⟩ hc
    rcases Nat.eq_zero_or_pos t with t0 | t0
    · have e : i = n := by omega
      subst e
      have e2 : decide (Int.ofNat i < Int.ofNat i) = false := by simp
      simp only [S_astrolabelaw25_ModePaths_0, e2, cond_false, Sum.elim_inr]
    · have e2 : decide (Int.ofNat i < Int.ofNat n) = true := by simp only [Int.ofNat_eq_natCast]; exact decide_eq_true (by omega)
      have e3 : inR (Int.ofNat i) n = true := by unfold inR; simp only [Int.ofNat_eq_natCast, Bool.and_eq_true, decide_eq_true_eq]; omega
      have e4 : IntKind.wrap IntKind.i64 (Int.ofNat i + 1) = Int.ofNat (i + 1) := (wrap_i64 (by simp only [Int.ofNat_eq_natCast]; omega) (by simp only [Int.ofNat_eq_natCast]; omega)).trans rfl
      have e5 : Int.toNat (Int.ofNat i) = i := rfl
      obtain ⟨f1, f2, f3, f4⟩ := stM_facts (runP x I i) I i _ rfl
      have kc := k1 i (by omega)
      have kr : runP x I (i + 1) = ((stM (runP x I i) I i).1, (stM (runP x I i) I i).2.1, (stM (runP x I i) I i).2.2.1, (stM (runP x I i) I i).2.2.2.1) := rfl
      rw [kr] at kc
      simp only [Prod.mk.injEq] at kc
      obtain ⟨m1, m2, m3, m4⟩ := kc
      have next : c (n, b, n, (stM (runP x I i) I i).1, Int.ofNat (i + 1), false, n, n, I.ti, I.he, I.u0, I.u1, I.u2, I.u3, I.u4, I.u5, I.si, I.li, I.pr, (stM (runP x I i) I i).1, (stM (runP x I i) I i).2.1, (stM (runP x I i) I i).2.2.1, (stM (runP x I i) I i).2.2.2.1, n, c1, c2, c3, c4) = some true :=
        hc (t - 1) _ (by omega) ⟨i + 1, _, by omega, .inr ⟨f1, rfl⟩, rfl⟩
      simp only [S_astrolabelaw25_ModePaths_0, e2, e3, e4, e5, cond_true, mode_stM, Option.bind_some, m1, m2, m3, m4, mode_good]
      generalize stM (runP x I i) I i = q at *
      have g1 : decide (goodF q.1 q.2.1 q.2.2.1 q.2.2.2.1) = true := decide_eq_true f1
      have g2 : (!(q.2.1 == 0) == decide (q.1 < 2)) = false := by
        by_cases hz : q.2.1 = 0
        · have := f2.1 hz; simp [hz, this]
        · have : ¬ q.1 < 2 := fun h => hz (f2.2 h)
          simp [hz, this]
      have g3 : ¬ (q.1 < was ∧ was < 2) := by
        rcases hw with rfl | ⟨hg, rfl⟩
        · omega
        · have := f4 hg; omega
      have g4 : ¬ (q.1 < 2 ∧ was ≥ 2) := by
        rcases hw with rfl | ⟨hg, rfl⟩
        · omega
        · have := f4 hg; omega
      simp only [beq_self_eq_true, Bool.and_self, Bool.not_true, cond_false, g1, g2]
      by_cases p1 : q.1 < was <;> by_cases p2 : was < 2 <;> by_cases p3 : q.1 < 2 <;> by_cases p4 : was ≥ 2 <;> first | (exfalso; omega) | (simp only [p1, p2, p3, p4, decide_true, decide_false, cond_true, cond_false]; exact next)
theorem modePaths_ev (f : (Int) → (Int) → (Bool) → (Bool) → (Nat) → (Nat → Bool) → (Nat → Bool) → (Nat → Bool) → (Nat → Bool) → (Nat → Bool) → (Nat → Bool) → (Nat → Bool) → (Nat → Bool) → (Nat → Int) → (Nat → Int) → (Nat → Int) → Bool → Option Bool) (x0_0 : Int) (x0_1 : Int) (x0_2 : Bool) (x0_3 : Bool) (n1 : Nat) (x1_0 : Nat → Bool) (x1_1 : Nat → Bool) (x1_2 : Nat → Bool) (x1_3 : Nat → Bool) (x1_4 : Nat → Bool) (x1_5 : Nat → Bool) (x1_6 : Nat → Bool) (x1_7 : Nat → Bool) (x1_8 : Nat → Int) (x1_9 : Nat → Int) (x1_10 : Nat → Int) : F_astrolabelaw25_ModePaths f [.r (.agg [.c (.f (.i .i64 x0_0)), .c (.f (.i .i64 x0_1)), .c (.f (.b x0_2)), .c (.f (.b x0_3))]), .r (.c (.sl 0 (.k 0) (.s n1) 11 false))] [[.a (.s n1) [.b x1_0, .b x1_1, .b x1_2, .b x1_3, .b x1_4, .b x1_5, .b x1_6, .b x1_7, .i .i64 x1_8, .i .i64 x1_9, .i .i64 x1_10]]] = .test (Nat.beq n1 n1) (.opt (f x0_0 x0_1 x0_2 x0_3 n1 x1_0 x1_1 x1_2 x1_3 x1_4 x1_5 x1_6 x1_7 x1_8 x1_9 x1_10 false) fun d => .leaf ⟨.r (.c (.f (.b d))), [.keep], []⟩) .fail := by kernel_rfl
theorem modePaths_trues : Trues (F_astrolabelaw25_ModePaths f_astrolabelaw25_ModePaths) [.flat true [.c (.i .i64), .c (.i .i64), .c (.b), .c (.b)], .sl [.b, .b, .b, .b, .b, .b, .b, .b, .i .i64, .i .i64, .i .i64]] := fun ds h => by
  obtain ⟨_, _, rfl, q0_0, g0⟩ := fit_flat h
  obtain ⟨x0_0, _, rfl, r0_0, q0_1⟩ := f1_i q0_0
  obtain ⟨x0_1, _, rfl, r0_1, q0_2⟩ := f1_i q0_1
  obtain ⟨x0_2, _, rfl, q0_3⟩ := f1_b q0_2
  obtain ⟨x0_3, _, rfl, q0_4⟩ := f1_b q0_3
  obtain rfl := f1_nil q0_4
  obtain ⟨n1, c1, _, rfl, m1, q1_0, g1⟩ := fit_sl g0
  obtain ⟨x1_0, _, rfl, q1_1⟩ := col_b q1_0
  obtain ⟨x1_1, _, rfl, q1_2⟩ := col_b q1_1
  obtain ⟨x1_2, _, rfl, q1_3⟩ := col_b q1_2
  obtain ⟨x1_3, _, rfl, q1_4⟩ := col_b q1_3
  obtain ⟨x1_4, _, rfl, q1_5⟩ := col_b q1_4
  obtain ⟨x1_5, _, rfl, q1_6⟩ := col_b q1_5
  obtain ⟨x1_6, _, rfl, q1_7⟩ := col_b q1_6
  obtain ⟨x1_7, _, rfl, q1_8⟩ := col_b q1_7
  obtain ⟨x1_8, _, rfl, r1_8, q1_9⟩ := col_i q1_8
  obtain ⟨x1_9, _, rfl, r1_9, q1_10⟩ := col_i q1_9
  obtain ⟨x1_10, _, rfl, r1_10, q1_11⟩ := col_i q1_10
  obtain rfl := col_nil q1_11
  obtain rfl := fit_nil g1
  refine ⟨[], (congrArg T.eval (modePaths_ev f_astrolabelaw25_ModePaths x0_0 x0_1 x0_2 x0_3 n1 x1_0 x1_1 x1_2 x1_3 x1_4 x1_5 x1_6 x1_7 x1_8 x1_9 x1_10)).trans ?_⟩
  rw [nbeq_self n1]
  rw [modePaths_plain x0_0 x0_1 x0_2 x0_3 n1 x1_0 x1_1 x1_2 x1_3 x1_4 x1_5 x1_6 x1_7 x1_8 x1_9 x1_10 false]
  rfl
set_option maxRecDepth 100000 in
theorem modePaths_lifted (os : Os) (started : os.Started) (H : Type) (enc : TypeId × Value → H) :
    ReturnsInHanded {} Try.checked os 5 .any (Rows.modePathsSpec.pre6 enc Try.prog Try.f5 Rows.modePathsRow.domain false) (Rows.modePathsSpec.post enc Try.prog Try.f5 false true false false) :=
  law_lift (C := Try.checked) (tb := Try.f5.resultTypes.getD 0 0) own started (by kernel_rfl) Try.func5 laid (by kernel_rfl) (by kernel_rfl) (by kernel_rfl) rfl
    (fun ds h => by
      have h : ds.length = 2 := h.trans (by kernel_rfl)
      match ds, h with
      | [_, _], _ => rfl)
    (ChangeSpec.witness6 (enc := enc) (C := Try.checked) false ⟨#[], #[.agg #[.int .i64 0, .int .i64 0, .bool false, .bool false], .slice none 0 0], []⟩ 8 (by kernel_rfl) (by kernel_rfl) (by kernel_rfl) (by kernel_rfl))
    (fun W base args ds ps _ hval ht hz _ _ => prm_calls (pr := [.flat true [.c (.i .i64), .c (.i .i64), .c (.b), .c (.b)], .sl [.b, .b, .b, .b, .b, .b, .b, .b, .i .i64, .i .i64, .i .i64]]) s_astrolabelaw25_ModePaths (by kernel_rfl) (ts := Try.f5.params.toList) (by kernel_rfl) (by kernel_rfl) modePaths_trues hval ht hz)
theorem modePaths_over : Rows.modePathsRow.holds Try.pinned (OpenSpec.ofChange Rows.modePathsSpec) :=
  OpenClaim.holds_of_wide 5 Try.f5 rfl rfl rfl rfl rfl rfl rfl ⟨rfl, rfl, rfl, rfl, rfl⟩ rfl rfl rfl rfl rfl (by kernel_rfl) Try.func5 (by kernel_rfl)
    (of_decide_eq_true (by kernel_rfl)) (by unfold Func.isWrapper; first | (rw [if_pos (by decide +kernel)]; kernel_rfl) | (rw [if_neg (by decide +kernel)]; exact ⟨rfl, rfl⟩))
    (fun os started H enc _ => modePaths_lifted os started H enc)
/-- the statement -/
theorem modePaths_proved : Rows.ModePathsSaid := modePaths_over
#print axioms modePaths_proved
end Go.Proofs.Ytgbgdihahmecoaa
