/-
  With the same inputs again and again, from the third step on, the machine stays: the statement of astrolabelaw25.ModeStays; no condition.
-/
import Derived.Test.YtgbgdihahmecoaaMPath
import Derived.Test.YtgbgdihahmecoaaAbLaw
set_option maxRecDepth 100000
set_option maxHeartbeats 4000000
set_option linter.unusedVariables false
set_option linter.unusedSimpArgs false
namespace Go.Proofs.Ytgbgdihahmecoaa
open Go.Ab
theorem pick_rng (old p : Int) (u0 u1 u2 : Bool) (h : old ≤ 3) : 1 ≤ (pickF old u0 u1 u2 p).1 ∧ (pickF old u0 u1 u2 p).1 ≤ 3 := by
  unfold pickF
  split
  · rename_i h; omega
  · split
    · simp
    · split
      · simp
      · split
        · simp
        · simp only; split <;> omega
theorem pick_idem (old p : Int) (u0 u1 u2 : Bool) : pickF (pickF old u0 u1 u2 p).1 u0 u1 u2 p = pickF old u0 u1 u2 p := by
  by_cases hp : (p = 1 ∧ u1 = true) ∨ (p = 2 ∧ u0 = true) ∨ (p = 3 ∧ u2 = true)
  · simp [pickF, hp]
  · cases u0 <;> cases u1 <;> cases u2 <;> simp only [pickF, if_neg hp] <;> simp
    split <;> simp_all <;> omega
/-- the same inputs at each step -/
def same (a b u0 u1 u2 u3 u4 u5 : Bool) (si li p : Int) : Ins := ⟨fun _ => a, fun _ => b, fun _ => u0, fun _ => u1, fun _ => u2, fun _ => u3, fun _ => u4, fun _ => u5, fun _ => si, fun _ => li, fun _ => p⟩
section
variable (a b u0 u1 u2 u3 u4 u5 : Bool) (si li p : Int)
/-- behind a step of a machine that is good -/
def beh (m s : Int) : Mac := ((stepF m s a b u0 u1 u2 u5 si li p).1, (stepF m s a b u0 u1 u2 u5 si li p).2.1, (stepF m s a b u0 u1 u2 u5 si li p).2.2.1, (stepF m s a b u0 u1 u2 u5 si li p).2.2.2.1)
theorem beh_good (m s : Int) (hs : s ≤ 3) : goodF (beh a b u0 u1 u2 u5 si li p m s).1 (beh a b u0 u1 u2 u5 si li p m s).2.1 (beh a b u0 u1 u2 u5 si li p m s).2.2.1 (beh a b u0 u1 u2 u5 si li p m s).2.2.2 := by
  have hp := pick_rng s p u0 u1 u2 hs
  have hv : nextF m a b (u0 || u5) = 0 ∨ nextF m a b (u0 || u5) = 1 ∨ nextF m a b (u0 || u5) = 2 ∨ nextF m a b (u0 || u5) = 3 := by
    unfold nextF
    (repeat' split) <;> simp
  unfold beh stepF goodF
  rcases hv with h | h | h | h <;> simp [h, hp]
theorem good_le {m s : Int} {v h : Bool} (hg : goodF m s v h) : s ≤ 3 := by rcases hg with h | h <;> omega
theorem run_succ (x : Mac) (j : Nat) (hg : goodF (runP x (same a b u0 u1 u2 u3 u4 u5 si li p) j).1 (runP x (same a b u0 u1 u2 u3 u4 u5 si li p) j).2.1 (runP x (same a b u0 u1 u2 u3 u4 u5 si li p) j).2.2.1 (runP x (same a b u0 u1 u2 u3 u4 u5 si li p) j).2.2.2) :
    runP x (same a b u0 u1 u2 u3 u4 u5 si li p) (j + 1) = beh a b u0 u1 u2 u5 si li p (runP x (same a b u0 u1 u2 u3 u4 u5 si li p) j).1 (runP x (same a b u0 u1 u2 u3 u4 u5 si li p) j).2.1 := by
  show ((stM _ _ _).1, (stM _ _ _).2.1, (stM _ _ _).2.2.1, (stM _ _ _).2.2.2.1) = _
  unfold stM
  rw [if_pos hg]
  rfl
theorem run_first (x : Mac) : ∃ m s, ((m = 0 ∨ m = 1) ∧ s = 0 ∨ (m = 2 ∨ m = 3) ∧ 1 ≤ s ∧ s ≤ 3) ∧ runP x (same a b u0 u1 u2 u3 u4 u5 si li p) 1 = beh a b u0 u1 u2 u5 si li p m s := by
  by_cases hg : goodF x.1 x.2.1 x.2.2.1 x.2.2.2
  · exact ⟨x.1, x.2.1, by rcases hg with h | h <;> omega, run_succ a b u0 u1 u2 u3 u4 u5 si li p x 0 hg⟩
  · refine ⟨0, 0, by simp, ?_⟩
    show ((stM x _ 0).1, (stM x _ 0).2.1, (stM x _ 0).2.2.1, (stM x _ 0).2.2.2.1) = _
    unfold stM
    rw [if_neg hg]
    rfl
theorem next_twice (m : Int) (aid : Bool) (h : 2 ≤ nextF m a b aid) : nextF (nextF m a b aid) a b aid = nextF m a b aid := by
  have key : nextF m a b aid = if aid = true then 3 else 2 := by
    revert h
    unfold nextF
    cases a <;> cases b <;> (repeat' split) <;> simp_all
  rw [key]
  cases aid <;> simp [nextF]
theorem next_low (m : Int) (aid : Bool) (h : ¬ 2 ≤ nextF m a b aid) : nextF (nextF m a b aid) a b aid = nextF m a b aid ∨ 2 ≤ nextF (nextF m a b aid) a b aid := by
  have hv : nextF m a b aid = 0 ∧ a = false ∨ nextF m a b aid = 1 := by
    revert h
    unfold nextF
    cases a <;> cases b <;> cases aid <;> (repeat' split) <;> simp_all
  rcases hv with ⟨h1, h2⟩ | h1
  · rw [h1, h2]; simp [nextF]
  · rw [h1]
    cases b <;> cases aid <;> simp [nextF]
theorem fix2 (m s : Int) (h : 2 ≤ nextF m a b (u0 || u5)) : beh a b u0 u1 u2 u5 si li p (beh a b u0 u1 u2 u5 si li p m s).1 (beh a b u0 u1 u2 u5 si li p m s).2.1 = beh a b u0 u1 u2 u5 si li p m s := by
  have e : beh a b u0 u1 u2 u5 si li p m s = (nextF m a b (u0 || u5), (pickF s u0 u1 u2 p).1, decide (nextF m a b (u0 || u5) = 3 ∨ (0 ≤ si ∧ si ≤ li)), !(pickF s u0 u1 u2 p).2) := by
    unfold beh stepF; rw [if_pos h]
  rw [e]
  unfold beh stepF
  simp only [next_twice a b m (u0 || u5) h, if_pos h, pick_idem]
theorem low (m s : Int) (h : ¬ 2 ≤ nextF m a b (u0 || u5)) : beh a b u0 u1 u2 u5 si li p m s = (nextF m a b (u0 || u5), 0, false, false) := by
  unfold beh stepF; rw [if_neg h]
theorem stays3 (m s : Int) (B : Int → Int → Mac) (hB : B = beh a b u0 u1 u2 u5 si li p) :
    B (B (B (B m s).1 (B m s).2.1).1 (B (B m s).1 (B m s).2.1).2.1).1 (B (B (B m s).1 (B m s).2.1).1 (B (B m s).1 (B m s).2.1).2.1).2.1 = B (B (B m s).1 (B m s).2.1).1 (B (B m s).1 (B m s).2.1).2.1 := by
  subst hB
  by_cases h : 2 ≤ nextF m a b (u0 || u5)
  · have e := fix2 a b u0 u1 u2 u5 si li p m s h
    rw [e, e, e]
  · have e := low a b u0 u1 u2 u5 si li p m s h
    rw [e]
    simp only
    rcases next_low a b m (u0 || u5) h with h2 | h2
    · have e2 := low a b u0 u1 u2 u5 si li p (nextF m a b (u0 || u5)) 0 (by rw [h2]; exact h)
      rw [h2] at e2
      rw [e2]
      simp only
      rw [e2]
      simp only
      rw [e2]
    · have e2 := fix2 a b u0 u1 u2 u5 si li p (nextF m a b (u0 || u5)) 0 h2
      rw [e2, e2]
end
theorem c5 {α : Type} (x : α) : (fun j : Nat => bif Nat.beq j 4 then x else bif Nat.beq j 3 then x else bif Nat.beq j 2 then x else bif Nat.beq j 1 then x else bif Nat.beq j 0 then x else x) = fun _ => x := by
  funext j
  simp only [Bool.cond_self]
theorem modeStays_plain (x0 x1 : Int) (x2 x3 x4 x5 x6 x7 x8 x9 x10 x11 : Bool) (x12 x13 x14 : Int) : f_astrolabelaw25_ModeStays x0 x1 x2 x3 x4 x5 x6 x7 x8 x9 x10 x11 x12 x13 x14 = some true := by
  unfold f_astrolabelaw25_ModeStays K_astrolabelaw25_ModeStays
  obtain ⟨c1, c2, c3, c4, h1, h2⟩ := mode_path (x0, x1, x2, x3) (same x4 x5 x6 x7 x8 x9 x10 x11 x12 x13 x14) true 5 (by omega)
  have h2 : f_mode_Path x0 x1 x2 x3 5 (fun _ => x4) (fun _ => x5) (fun _ => x6) (fun _ => x7) (fun _ => x8) (fun _ => x9) (fun _ => x10) (fun _ => x11) (fun _ => x12) (fun _ => x13) (fun _ => x14) true = some (5, 5, c1, c2, c3, c4) := h2
  obtain ⟨m, s, hm, e1⟩ := run_first x4 x5 x6 x7 x8 x9 x10 x11 x12 x13 x14 (x0, x1, x2, x3)
  have hs : s ≤ 3 := by omega
  have g1 := beh_good x4 x5 x6 x7 x8 x11 x12 x13 x14 m s hs
  have e2 := run_succ x4 x5 x6 x7 x8 x9 x10 x11 x12 x13 x14 (x0, x1, x2, x3) 1 (by rw [e1]; exact g1)
  rw [e1] at e2
  have g2 := beh_good x4 x5 x6 x7 x8 x11 x12 x13 x14 (beh x4 x5 x6 x7 x8 x11 x12 x13 x14 m s).1 _ (good_le g1)
  have e3 := run_succ x4 x5 x6 x7 x8 x9 x10 x11 x12 x13 x14 (x0, x1, x2, x3) 2 (by rw [e2]; exact g2)
  rw [e2] at e3
  have g3 := beh_good x4 x5 x6 x7 x8 x11 x12 x13 x14 (beh x4 x5 x6 x7 x8 x11 x12 x13 x14 (beh x4 x5 x6 x7 x8 x11 x12 x13 x14 m s).1 (beh x4 x5 x6 x7 x8 x11 x12 x13 x14 m s).2.1).1 _ (good_le g2)
  have e4 := run_succ x4 x5 x6 x7 x8 x9 x10 x11 x12 x13 x14 (x0, x1, x2, x3) 3 (by rw [e3]; exact g3)
  rw [e3] at e4
  have hst := stays3 x4 x5 x6 x7 x8 x11 x12 x13 x14 m s _ rfl
  rw [hst, ← e3] at e4
  have g4 : goodF (runP (x0, x1, x2, x3) (same x4 x5 x6 x7 x8 x9 x10 x11 x12 x13 x14) 4).1 (runP (x0, x1, x2, x3) (same x4 x5 x6 x7 x8 x9 x10 x11 x12 x13 x14) 4).2.1 (runP (x0, x1, x2, x3) (same x4 x5 x6 x7 x8 x9 x10 x11 x12 x13 x14) 4).2.2.1 (runP (x0, x1, x2, x3) (same x4 x5 x6 x7 x8 x9 x10 x11 x12 x13 x14) 4).2.2.2 := by
    rw [e4, e3]; exact g3
  have e5 := run_succ x4 x5 x6 x7 x8 x9 x10 x11 x12 x13 x14 (x0, x1, x2, x3) 4 g4
  rw [e4, e3, hst, ← e3] at e5
  have k2 := h1 2 (by omega)
  have k3 := h1 3 (by omega)
  have k4 := h1 4 (by omega)
  rw [show 3 + 1 = 4 from rfl, e4, ← k2] at k3
  rw [show 4 + 1 = 5 from rfl, e5, ← k2] at k4
  simp only [Prod.mk.injEq] at k3 k4
  simp only [mode_awake, Option.bind_some, Bool.not_true, cond_false, c5, h2]
  simp [inR, k3, k4]
theorem modeStays_ev (f : (Int) → (Int) → (Bool) → (Bool) → (Bool) → (Bool) → (Bool) → (Bool) → (Bool) → (Bool) → (Bool) → (Bool) → (Int) → (Int) → (Int) → Option Bool) (x0_0 : Int) (x0_1 : Int) (x0_2 : Bool) (x0_3 : Bool) (x1_0 : Bool) (x1_1 : Bool) (x1_2 : Bool) (x1_3 : Bool) (x1_4 : Bool) (x1_5 : Bool) (x1_6 : Bool) (x1_7 : Bool) (x1_8 : Int) (x1_9 : Int) (x1_10 : Int) : F_astrolabelaw25_ModeStays f [.r (.agg [.c (.f (.i .i64 x0_0)), .c (.f (.i .i64 x0_1)), .c (.f (.b x0_2)), .c (.f (.b x0_3))]), .r (.agg [.c (.f (.b x1_0)), .c (.f (.b x1_1)), .c (.f (.b x1_2)), .c (.f (.b x1_3)), .c (.f (.b x1_4)), .c (.f (.b x1_5)), .c (.f (.b x1_6)), .c (.f (.b x1_7)), .c (.f (.i .i64 x1_8)), .c (.f (.i .i64 x1_9)), .c (.f (.i .i64 x1_10))])] [] = .opt (f x0_0 x0_1 x0_2 x0_3 x1_0 x1_1 x1_2 x1_3 x1_4 x1_5 x1_6 x1_7 x1_8 x1_9 x1_10) fun d => .leaf ⟨.r (.c (.f (.b d))), [], []⟩ := by kernel_rfl
theorem modeStays_trues : Trues (F_astrolabelaw25_ModeStays f_astrolabelaw25_ModeStays) [.flat true [.c (.i .i64), .c (.i .i64), .c (.b), .c (.b)], .flat true [.c (.b), .c (.b), .c (.b), .c (.b), .c (.b), .c (.b), .c (.b), .c (.b), .c (.i .i64), .c (.i .i64), .c (.i .i64)]] := fun ds h => by
  obtain ⟨_, _, rfl, q0_0, g0⟩ := fit_flat h
  obtain ⟨x0_0, _, rfl, r0_0, q0_1⟩ := f1_i q0_0
  obtain ⟨x0_1, _, rfl, r0_1, q0_2⟩ := f1_i q0_1
  obtain ⟨x0_2, _, rfl, q0_3⟩ := f1_b q0_2
  obtain ⟨x0_3, _, rfl, q0_4⟩ := f1_b q0_3
  obtain rfl := f1_nil q0_4
  obtain ⟨_, _, rfl, q1_0, g1⟩ := fit_flat g0
  obtain ⟨x1_0, _, rfl, q1_1⟩ := f1_b q1_0
  obtain ⟨x1_1, _, rfl, q1_2⟩ := f1_b q1_1
  obtain ⟨x1_2, _, rfl, q1_3⟩ := f1_b q1_2
  obtain ⟨x1_3, _, rfl, q1_4⟩ := f1_b q1_3
  obtain ⟨x1_4, _, rfl, q1_5⟩ := f1_b q1_4
  obtain ⟨x1_5, _, rfl, q1_6⟩ := f1_b q1_5
  obtain ⟨x1_6, _, rfl, q1_7⟩ := f1_b q1_6
  obtain ⟨x1_7, _, rfl, q1_8⟩ := f1_b q1_7
  obtain ⟨x1_8, _, rfl, r1_8, q1_9⟩ := f1_i q1_8
  obtain ⟨x1_9, _, rfl, r1_9, q1_10⟩ := f1_i q1_9
  obtain ⟨x1_10, _, rfl, r1_10, q1_11⟩ := f1_i q1_10
  obtain rfl := f1_nil q1_11
  obtain rfl := fit_nil g1
  refine ⟨[], (congrArg T.eval (modeStays_ev f_astrolabelaw25_ModeStays x0_0 x0_1 x0_2 x0_3 x1_0 x1_1 x1_2 x1_3 x1_4 x1_5 x1_6 x1_7 x1_8 x1_9 x1_10)).trans ?_⟩
  rw [modeStays_plain x0_0 x0_1 x0_2 x0_3 x1_0 x1_1 x1_2 x1_3 x1_4 x1_5 x1_6 x1_7 x1_8 x1_9 x1_10]
  rfl
set_option maxRecDepth 100000 in
theorem modeStays_lifted (os : Os) (started : os.Started) (H : Type) (enc : TypeId × Value → H) :
    ReturnsInHanded {} Try.checked os 8 .any (Rows.modeStaysSpec.pre6 enc Try.prog Try.f8 Rows.modeStaysRow.domain false) (Rows.modeStaysSpec.post enc Try.prog Try.f8 false true false false) :=
  law_lift (C := Try.checked) (tb := Try.f8.resultTypes.getD 0 0) own started (by kernel_rfl) Try.func8 laid (by kernel_rfl) (by kernel_rfl) (by kernel_rfl) rfl
    (fun ds h => by
      have h : ds.length = 2 := h.trans (by kernel_rfl)
      match ds, h with
      | [_, _], _ => rfl)
    (ChangeSpec.witness6 (enc := enc) (C := Try.checked) false ⟨#[], #[.agg #[.int .i64 0, .int .i64 0, .bool false, .bool false], .agg #[.bool false, .bool false, .bool false, .bool false, .bool false, .bool false, .bool false, .bool false, .int .i64 0, .int .i64 0, .int .i64 0]], []⟩ 8 (by kernel_rfl) (by kernel_rfl) (by kernel_rfl) (by kernel_rfl))
    (fun W base args ds ps _ hval ht hz _ _ => prm_calls (pr := [.flat true [.c (.i .i64), .c (.i .i64), .c (.b), .c (.b)], .flat true [.c (.b), .c (.b), .c (.b), .c (.b), .c (.b), .c (.b), .c (.b), .c (.b), .c (.i .i64), .c (.i .i64), .c (.i .i64)]]) s_astrolabelaw25_ModeStays (by kernel_rfl) (ts := Try.f8.params.toList) (by kernel_rfl) (by kernel_rfl) modeStays_trues hval ht hz)
theorem modeStays_over : Rows.modeStaysRow.holds Try.pinned (OpenSpec.ofChange Rows.modeStaysSpec) :=
  OpenClaim.holds_of_wide 8 Try.f8 rfl rfl rfl rfl rfl rfl rfl ⟨rfl, rfl, rfl, rfl, rfl⟩ rfl rfl rfl rfl rfl (by kernel_rfl) Try.func8 (by kernel_rfl)
    (of_decide_eq_true (by kernel_rfl)) (by unfold Func.isWrapper; first | (rw [if_pos (by decide +kernel)]; kernel_rfl) | (rw [if_neg (by decide +kernel)]; exact ⟨rfl, rfl⟩))
    (fun os started H enc _ => modeStays_lifted os started H enc)
/-- the statement -/
theorem modeStays_proved : Rows.ModeStaysSaid := modeStays_over
#print axioms modeStays_proved
end Go.Proofs.Ytgbgdihahmecoaa
