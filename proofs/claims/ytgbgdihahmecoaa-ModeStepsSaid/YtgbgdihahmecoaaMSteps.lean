/-
  Each step of any machine, by any inputs, is the table's: the statement of astrolabelaw25.ModeSteps; no condition.
-/
import Derived.Test.YtgbgdihahmecoaaM4
import Derived.Test.YtgbgdihahmecoaaMS
import Derived.Test.YtgbgdihahmecoaaAbInv
import Derived.Test.YtgbgdihahmecoaaAbLaw
set_option maxRecDepth 100000
set_option maxHeartbeats 4000000
set_option linter.unusedVariables false
set_option linter.unusedSimpArgs false
namespace Go.Proofs.Ytgbgdihahmecoaa
open Go.Ab
theorem ref_good (m s : Int) (v h : Bool) : f_astrolaberef25_Good m s v h = some (decide (goodF m s v h)) := by
  unfold f_astrolaberef25_Good K_astrolaberef25_Good goodF
  by_cases h0 : m < 0
  · have e : ¬ ((m = 0 ∨ m = 1) ∧ s = 0 ∧ v = false ∧ h = false ∨ (m = 2 ∨ m = 3) ∧ 1 ≤ s ∧ s ≤ 3 ∧ (v = true ∨ m = 2)) := by omega
    simp [h0, e]
  · by_cases h1 : m > 3
    · have e : ¬ ((m = 0 ∨ m = 1) ∧ s = 0 ∧ v = false ∧ h = false ∨ (m = 2 ∨ m = 3) ∧ 1 ≤ s ∧ s ≤ 3 ∧ (v = true ∨ m = 2)) := by omega
      have h1' : 3 < m := h1
      simp [h0, h1', e]
    · obtain rfl | rfl | rfl | rfl : m = 0 ∨ m = 1 ∨ m = 2 ∨ m = 3 := by omega
      · by_cases hs : s = 0 <;> cases v <;> cases h <;> simp [Bool.cond_eq_ite, hs]
      · by_cases hs : s = 0 <;> cases v <;> cases h <;> simp [Bool.cond_eq_ite, hs]
      · by_cases h3 : 1 ≤ s <;> by_cases h4 : s ≤ 3 <;> cases v <;> simp [Bool.cond_eq_ite, h3, h4]
      · by_cases h3 : 1 ≤ s <;> by_cases h4 : s ≤ 3 <;> cases v <;> simp [Bool.cond_eq_ite, h3, h4]
theorem ref4 {ρ : Type} (a0 a1 a2 a3 a4 a5 : Bool) (a6 a7 a8 a9 a10 : Int) (a11 a12 a13 : Bool) (k : Int × Int × Bool × Bool → Option ρ) :
    L_astrolaberef25_Step_4 (a0, a1, a2, a3, a4, a5, a6, a7, a8, a9, a10, a11, a12, a13) k = k (a9, a10, decide (a9 = 3 ∨ (0 ≤ a6 ∧ a6 ≤ a7)), !(a11 || a12 || a13)) := by
  unfold L_astrolaberef25_Step_4 S_astrolaberef25_Step_4
  by_cases h1 : a9 = 3
  · subst h1
    cases a11 <;> cases a12 <;> cases a13 <;> simp
  · by_cases h2 : 0 ≤ a6 <;> cases a11 <;> cases a12 <;> cases a13 <;> simp [Bool.cond_eq_ite, h1, h2]
/-- the first one that is usable -/
def lowS (s : Int) (k1 k2 k3 : Bool) : Int := if k1 = true then 1 else if k2 = true then 2 else if k3 = true then 3 else s
def P0 {ρ : Type} (n : Nat) (d : Bool × Bool × Bool × Bool × Bool × Bool × Bool × Int × Int × Int × Int × Int × Int × Bool × Bool × Bool) (k : (Bool × Bool × Bool × Bool × Bool × Bool × Bool × Int × Int × Int × Int × Bool × Int × Int × Bool × Bool × Bool) → Option ρ) : Option ρ := loopK (fun d c x => S_astrolaberef25_Step_0 f_astrolaberef25_Good  d.1 d.2.1 d.2.2.1 d.2.2.2.1 d.2.2.2.2.1 d.2.2.2.2.2.1 d.2.2.2.2.2.2.1 d.2.2.2.2.2.2.2.1 d.2.2.2.2.2.2.2.2.1 d.2.2.2.2.2.2.2.2.2.1 d.2.2.2.2.2.2.2.2.2.2.1 d.2.2.2.2.2.2.2.2.2.2.2.1 d.2.2.2.2.2.2.2.2.2.2.2.2.1 d.2.2.2.2.2.2.2.2.2.2.2.2.2.1 d.2.2.2.2.2.2.2.2.2.2.2.2.2.2.1 d.2.2.2.2.2.2.2.2.2.2.2.2.2.2.2 c x) n d k
theorem P0_succ {ρ : Type} (m n : Nat) (h : m = n + 1) (a0 a1 a2 a3 a4 a5 a6 : Bool) (a7 a8 a9 a10 a11 a12 : Int) (a13 a14 a15 : Bool) (k : _ → Option ρ) : P0 m (a0, a1, a2, a3, a4, a5, a6, a7, a8, a9, a10, a11, a12, a13, a14, a15) k = S_astrolaberef25_Step_0 f_astrolaberef25_Good a0 a1 a2 a3 a4 a5 a6 a7 a8 a9 a10 a11 a12 a13 a14 a15 (fun d => P0 n d k) k := by subst h; rfl
theorem L0_eq {ρ : Type} (d : _) (k : _ → Option ρ) : L_astrolaberef25_Step_0 d k = P0 200 d k := rfl
theorem ref0 {ρ : Type} (a0 a1 a2 a3 a4 a5 a6 : Bool) (a7 a8 a9 a11 a12 : Int) (a13 a14 a15 : Bool) (k : _ → Option ρ) :
    L_astrolaberef25_Step_0 (a0, a1, a2, a3, a4, a5, a6, a7, a8, a9, 3, a11, a12, a13, a14, a15) k = k (a0, a1, a2, a3, a4, a5, a6, a7, a8, a9, 0, false, a11, lowS a12 a13 a14 a15, a13, a14, a15) := by
  have h3 : ∀ (v : Int) (c : _ → Option ρ), S_astrolaberef25_Step_0 f_astrolaberef25_Good a0 a1 a2 a3 a4 a5 a6 a7 a8 a9 3 a11 v a13 a14 a15 c k = (bif a15 then c (a0, a1, a2, a3, a4, a5, a6, a7, a8, a9, 2, a11, 3, a13, a14, a15) else c (a0, a1, a2, a3, a4, a5, a6, a7, a8, a9, 2, a11, v, a13, a14, a15)) := fun v c => by kernel_rfl
  have h2 : ∀ (v : Int) (c : _ → Option ρ), S_astrolaberef25_Step_0 f_astrolaberef25_Good a0 a1 a2 a3 a4 a5 a6 a7 a8 a9 2 a11 v a13 a14 a15 c k = (bif a14 then c (a0, a1, a2, a3, a4, a5, a6, a7, a8, a9, 1, a11, 2, a13, a14, a15) else c (a0, a1, a2, a3, a4, a5, a6, a7, a8, a9, 1, a11, v, a13, a14, a15)) := fun v c => by kernel_rfl
  have h1 : ∀ (v : Int) (c : _ → Option ρ), S_astrolaberef25_Step_0 f_astrolaberef25_Good a0 a1 a2 a3 a4 a5 a6 a7 a8 a9 1 a11 v a13 a14 a15 c k = (bif a13 then c (a0, a1, a2, a3, a4, a5, a6, a7, a8, a9, 0, a11, 1, a13, a14, a15) else c (a0, a1, a2, a3, a4, a5, a6, a7, a8, a9, 0, a11, v, a13, a14, a15)) := fun v c => by kernel_rfl
  have h0 : ∀ (v : Int) (c : _ → Option ρ), S_astrolaberef25_Step_0 f_astrolaberef25_Good a0 a1 a2 a3 a4 a5 a6 a7 a8 a9 0 a11 v a13 a14 a15 c k = k (a0, a1, a2, a3, a4, a5, a6, a7, a8, a9, 0, false, a11, v, a13, a14, a15) := fun v c => by kernel_rfl
  have nil : ∀ v, P0 197 (a0, a1, a2, a3, a4, a5, a6, a7, a8, a9, 0, a11, v, a13, a14, a15) k = k (a0, a1, a2, a3, a4, a5, a6, a7, a8, a9, 0, false, a11, v, a13, a14, a15) := fun v =>
    (P0_succ 197 196 rfl _ _ _ _ _ _ _ _ _ _ _ _ _ _ _ _ k).trans (h0 v _)
  have one : ∀ v, P0 198 (a0, a1, a2, a3, a4, a5, a6, a7, a8, a9, 1, a11, v, a13, a14, a15) k = k (a0, a1, a2, a3, a4, a5, a6, a7, a8, a9, 0, false, a11, (if a13 = true then 1 else v), a13, a14, a15) := fun v =>
    (P0_succ 198 197 rfl _ _ _ _ _ _ _ _ _ _ _ _ _ _ _ _ k).trans ((h1 v _).trans (by rw [nil, nil]; cases a13 <;> rfl))
  have two : ∀ v, P0 199 (a0, a1, a2, a3, a4, a5, a6, a7, a8, a9, 2, a11, v, a13, a14, a15) k = k (a0, a1, a2, a3, a4, a5, a6, a7, a8, a9, 0, false, a11, (if a13 = true then 1 else if a14 = true then 2 else v), a13, a14, a15) := fun v =>
    (P0_succ 199 198 rfl _ _ _ _ _ _ _ _ _ _ _ _ _ _ _ _ k).trans ((h2 v _).trans (by rw [one, one]; cases a14 <;> rfl))
  exact (L0_eq _ k).trans ((P0_succ 200 199 rfl _ _ _ _ _ _ _ _ _ _ _ _ _ _ _ _ k).trans ((h3 a12 _).trans (by rw [two, two]; unfold lowS; cases a15 <;> rfl)))
def pref (p : Int) (k1 k2 k3 : Bool) : Prop := (p = 1 ∧ k1 = true) ∨ (p = 2 ∧ k2 = true) ∨ (p = 3 ∧ k3 = true)
instance (p : Int) (k1 k2 k3 : Bool) : Decidable (pref p k1 k2 k3) := by unfold pref; exact inferInstance
theorem ref3 {ρ : Type} (a0 a1 a2 a3 a4 a5 a6 : Bool) (a7 a8 a9 a10 a11 : Int) (a12 a13 a14 : Bool) (k : Int × Int × Bool × Bool → Option ρ) :
    L_astrolaberef25_Step_3 (a0, a1, a2, a3, a4, a5, a6, a7, a8, a9, a10, a11, a12, a13, a14) k =
      k (a10, (if pref a9 a12 a13 a14 then a9 else lowS a11 a12 a13 a14), decide (a10 = 3 ∨ (0 ≤ a7 ∧ a7 ≤ a8)), !(a12 || a13 || a14)) := by
  unfold L_astrolaberef25_Step_3 S_astrolaberef25_Step_3
  simp only [ref0, ref4]
  unfold pref
  by_cases h1 : a9 = 1
  · subst h1
    cases a12 <;> simp [Bool.cond_eq_ite, inR]
  · by_cases h2 : a9 = 2
    · subst h2
      cases a13 <;> simp [Bool.cond_eq_ite, inR]
    · by_cases h3 : a9 = 3
      · subst h3
        cases a14 <;> simp [Bool.cond_eq_ite, inR]
      · by_cases h4 : 1 ≤ a9
        · have h5 : ¬ a9 ≤ 3 := by omega
          simp [Bool.cond_eq_ite, h1, h2, h3, h4, h5]
        · simp [Bool.cond_eq_ite, h1, h2, h3, h4]
theorem ref2 {ρ : Type} (a0 a1 a2 a3 a4 a5 a6 : Bool) (a7 a8 a9 a10 a11 : Int) (a12 a13 a14 a15 a16 a17 a18 a19 : Bool) (a20 : Int) (k : Int × Int × Bool × Bool → Option ρ) :
    L_astrolaberef25_Step_2 (a0, a1, a2, a3, a4, a5, a6, a7, a8, a9, a10, a11, a12, a13, a14, a15, a16, a17, a18, a19, a20) k =
      if a20 < 2 then k (a20, 0, false, false) else k (a20, (if pref a9 a15 a14 a16 then a9 else lowS (if a11 = 0 then 1 else a11) a15 a14 a16), decide (a20 = 3 ∨ (0 ≤ a7 ∧ a7 ≤ a8)), !(a15 || a14 || a16)) := by
  unfold L_astrolaberef25_Step_2 S_astrolaberef25_Step_2
  simp only [ref3]
  by_cases h1 : a20 < 2
  · simp [h1]
  · by_cases h2 : a11 = 0 <;> simp [Bool.cond_eq_ite, h1, h2]
theorem ref1 {ρ : Type} (a0 a1 a2 a3 a4 a5 a6 a7 : Bool) (a8 a9 a10 a11 a12 : Int) (a13 a14 a15 a16 a17 a18 a19 a20 : Bool) (k : Int × Int × Bool × Bool → Option ρ) (hm : a11 = 0 ∨ a11 = 1 ∨ a11 = 2 ∨ a11 = 3) :
    L_astrolaberef25_Step_1 (a0, a1, a2, a3, a4, a5, a6, a7, a8, a9, a10, a11, a12, a13, a14, a15, a16, a17, a18, a19, a20) k =
      if nextF a11 a0 a1 (a15 || a20) < 2 then k (nextF a11 a0 a1 (a15 || a20), 0, false, false) else
        k (nextF a11 a0 a1 (a15 || a20), (if pref a10 a16 a15 a17 then a10 else lowS (if a12 = 0 then 1 else a12) a16 a15 a17), decide (nextF a11 a0 a1 (a15 || a20) = 3 ∨ (0 ≤ a8 ∧ a8 ≤ a9)), !(a16 || a15 || a17)) := by
  unfold L_astrolaberef25_Step_1 S_astrolaberef25_Step_1
  simp only [ref2]
  unfold nextF
  rcases hm with rfl | rfl | rfl | rfl <;> cases a0 <;> cases a1 <;> cases a15 <;> cases a20 <;> simp
theorem pick_ref (s p : Int) (u0 u1 u2 : Bool) (hs : 0 ≤ s) : pickF s u0 u1 u2 p = ((if pref p u1 u0 u2 then p else lowS (if s = 0 then 1 else s) u1 u0 u2), (u1 || u0 || u2)) := by
  have e : (if 1 > s then 1 else s) = (if s = 0 then 1 else s) := by split <;> split <;> omega
  unfold pickF lowS
  rw [e]
  by_cases h : (p = 1 ∧ u1 = true) ∨ (p = 2 ∧ u0 = true) ∨ (p = 3 ∧ u2 = true)
  · have hp : pref p u1 u0 u2 := h
    rw [if_pos h, if_pos hp]
    rcases h with ⟨_, rfl⟩ | ⟨_, rfl⟩ | ⟨_, rfl⟩ <;> simp
  · have hp : ¬ pref p u1 u0 u2 := h
    rw [if_neg h, if_neg hp]
    cases u0 <;> cases u1 <;> cases u2 <;> simp
theorem ref_step (m s : Int) (v h a b u0 u1 u2 u3 u4 u5 : Bool) (x y p : Int) :
    f_astrolaberef25_Step m s v h a b u0 u1 u2 u3 u4 u5 x y p = some (if goodF m s v h then ((stepF m s a b u0 u1 u2 u5 x y p).1, (stepF m s a b u0 u1 u2 u5 x y p).2.1, (stepF m s a b u0 u1 u2 u5 x y p).2.2.1, (stepF m s a b u0 u1 u2 u5 x y p).2.2.2.1)
      else ((stepF 0 0 a b u0 u1 u2 u5 x y p).1, (stepF 0 0 a b u0 u1 u2 u5 x y p).2.1, (stepF 0 0 a b u0 u1 u2 u5 x y p).2.2.1, (stepF 0 0 a b u0 u1 u2 u5 x y p).2.2.2.1)) := by
  have key : ∀ (m s : Int) (v h : Bool), (m = 0 ∨ m = 1 ∨ m = 2 ∨ m = 3) → 0 ≤ s → L_astrolaberef25_Step_1 (a, b, u0, u1, u2, u3, u4, u5, x, y, p, m, s, v, h, u0, u1, u2, u3, u4, u5) (fun d : Int × Int × Bool × Bool => some (d.fst, d.snd.fst, d.snd.snd.fst, d.snd.snd.snd)) =
      some ((stepF m s a b u0 u1 u2 u5 x y p).1, (stepF m s a b u0 u1 u2 u5 x y p).2.1, (stepF m s a b u0 u1 u2 u5 x y p).2.2.1, (stepF m s a b u0 u1 u2 u5 x y p).2.2.2.1) := by
    intro m s v h hm hs
    rw [ref1 _ _ _ _ _ _ _ _ _ _ _ _ _ _ _ _ _ _ _ _ _ _ hm]
    unfold stepF
    rw [pick_ref s p u0 u1 u2 hs]
    by_cases c : nextF m a b (u0 || u5) < 2
    · have c2 : ¬ 2 ≤ nextF m a b (u0 || u5) := by omega
      rw [if_pos c, if_neg c2]
    · have c2 : 2 ≤ nextF m a b (u0 || u5) := by omega
      rw [if_neg c, if_pos c2]
  unfold f_astrolaberef25_Step K_astrolaberef25_Step
  rw [ref_good]
  by_cases hg : goodF m s v h
  · rw [decide_eq_true hg, if_pos hg]
    refine Eq.trans ?_ (key m s v h (by rcases hg with h | h <;> omega) (by rcases hg with h | h <;> omega))
    rfl
  · rw [decide_eq_false hg, if_neg hg]
    refine Eq.trans ?_ (key 0 0 false false (by omega) (by omega))
    rfl
theorem mode_changed (n s : Int) (v h : Bool) (om os : Int) : f__mode_Event__Changed n s v h om os = some (n != om || s != os) := by
  unfold f__mode_Event__Changed K__mode_Event__Changed
  cases n != om <;> rfl
theorem mode_own (m s : Int) (v h : Bool) : f_astrolabelaw25_own m s v h = some (m, s, v, h) := rfl
theorem modeSteps_plain (x0 x1 : Int) (x2 x3 x4 x5 x6 x7 x8 x9 x10 x11 : Bool) (x12 x13 x14 : Int) : f_astrolabelaw25_ModeSteps x0 x1 x2 x3 x4 x5 x6 x7 x8 x9 x10 x11 x12 x13 x14 = some true := by
  unfold f_astrolabelaw25_ModeSteps K_astrolabelaw25_ModeSteps
  have old : ∀ m s : Int, (stepF m s x4 x5 x6 x7 x8 x11 x12 x13 x14).2.2.2.2 = (m, s) := by
    intro m s; unfold stepF; split <;> rfl
  simp only [mode_awake, Option.bind_some, Bool.not_true, cond_false, mode_step, mode_good, mode_own, ref_good, ref_step, mode_changed]
  by_cases hg : goodF x0 x1 x2 x3
  · have o := old x0 x1
    simp only [hg, decide_true, if_true, beq_self_eq_true, Bool.not_true, cond_false, Bool.and_self, cond_true]
    generalize stepF x0 x1 x4 x5 x6 x7 x8 x11 x12 x13 x14 = q at o ⊢
    obtain ⟨q1, q2, q3, q4, q5, q6⟩ := q
    simp only [Prod.mk.injEq] at o
    obtain ⟨rfl, rfl⟩ := o
    simp only [beq_self_eq_true, cond_true]
    cases q1 != q5 <;> cases q2 != q6 <;> rfl
  · have o := old 0 0
    simp only [hg, decide_false, if_false, beq_self_eq_true, Bool.not_true, Bool.not_false, cond_false, Bool.and_self, cond_true]
    generalize stepF 0 0 x4 x5 x6 x7 x8 x11 x12 x13 x14 = q at o ⊢
    obtain ⟨q1, q2, q3, q4, q5, q6⟩ := q
    simp only [Prod.mk.injEq] at o
    obtain ⟨rfl, rfl⟩ := o
    simp only [beq_self_eq_true, cond_true]
    cases q1 != 0 <;> cases q2 != 0 <;> rfl
theorem modeSteps_ev (f : (Int) → (Int) → (Bool) → (Bool) → (Bool) → (Bool) → (Bool) → (Bool) → (Bool) → (Bool) → (Bool) → (Bool) → (Int) → (Int) → (Int) → Option Bool) (x0_0 : Int) (x0_1 : Int) (x0_2 : Bool) (x0_3 : Bool) (x1_0 : Bool) (x1_1 : Bool) (x1_2 : Bool) (x1_3 : Bool) (x1_4 : Bool) (x1_5 : Bool) (x1_6 : Bool) (x1_7 : Bool) (x1_8 : Int) (x1_9 : Int) (x1_10 : Int) : F_astrolabelaw25_ModeSteps f [.r (.agg [.c (.f (.i .i64 x0_0)), .c (.f (.i .i64 x0_1)), .c (.f (.b x0_2)), .c (.f (.b x0_3))]), .r (.agg [.c (.f (.b x1_0)), .c (.f (.b x1_1)), .c (.f (.b x1_2)), .c (.f (.b x1_3)), .c (.f (.b x1_4)), .c (.f (.b x1_5)), .c (.f (.b x1_6)), .c (.f (.b x1_7)), .c (.f (.i .i64 x1_8)), .c (.f (.i .i64 x1_9)), .c (.f (.i .i64 x1_10))])] [] = .opt (f x0_0 x0_1 x0_2 x0_3 x1_0 x1_1 x1_2 x1_3 x1_4 x1_5 x1_6 x1_7 x1_8 x1_9 x1_10) fun d => .leaf ⟨.r (.c (.f (.b d))), [], []⟩ := by kernel_rfl
theorem modeSteps_trues : Trues (F_astrolabelaw25_ModeSteps f_astrolabelaw25_ModeSteps) [.flat true [.c (.i .i64), .c (.i .i64), .c (.b), .c (.b)], .flat true [.c (.b), .c (.b), .c (.b), .c (.b), .c (.b), .c (.b), .c (.b), .c (.b), .c (.i .i64), .c (.i .i64), .c (.i .i64)]] := fun ds h => by
  obtain ⟨_, _, rfl, q0_0, g0⟩ := fit_flat h
  obtain ⟨x0_0, _, rfl, r0_0, q0_1⟩ := f1_i q0_0
  obtain ⟨x0_1, _, rfl, r0_1, q0_2⟩ := f1_i q0_1
  obtain ⟨x0_2, _, rfl, q0_3⟩ := f1_b q0_2
  obtain ⟨x0_3, _, rfl, q0_4⟩ := f1_b q0_3
  obtain rfl := f1_nil q0_4
  obtain ⟨_, _, rfl, q1_0, g1⟩ := fit_flat g0
  obtain ⟨x1_0, _, rfl, q1_1⟩ := f1_b q1_0
  obtain ⟨x1_1, _, rfl, q1_2⟩ := f1_b q1_1
  obtain ⟨x1_2, _, rfl, q1_3⟩ := f1_b q1_2
  obtain ⟨x1_3, _, rfl, q1_4⟩ := f1_b q1_3
  obtain ⟨x1_4, _, rfl, q1_5⟩ := f1_b q1_4
  obtain ⟨x1_5, _, rfl, q1_6⟩ := f1_b q1_5
  obtain ⟨x1_6, _, rfl, q1_7⟩ := f1_b q1_6
  obtain ⟨x1_7, _, rfl, q1_8⟩ := f1_b q1_7
  obtain ⟨x1_8, _, rfl, r1_8, q1_9⟩ := f1_i q1_8
  obtain ⟨x1_9, _, rfl, r1_9, q1_10⟩ := f1_i q1_9
  obtain ⟨x1_10, _, rfl, r1_10, q1_11⟩ := f1_i q1_10
  obtain rfl := f1_nil q1_11
  obtain rfl := fit_nil g1
  refine ⟨[], (congrArg T.eval (modeSteps_ev f_astrolabelaw25_ModeSteps x0_0 x0_1 x0_2 x0_3 x1_0 x1_1 x1_2 x1_3 x1_4 x1_5 x1_6 x1_7 x1_8 x1_9 x1_10)).trans ?_⟩
  rw [modeSteps_plain x0_0 x0_1 x0_2 x0_3 x1_0 x1_1 x1_2 x1_3 x1_4 x1_5 x1_6 x1_7 x1_8 x1_9 x1_10]
  rfl
set_option maxRecDepth 100000 in
theorem modeSteps_lifted (os : Os) (started : os.Started) (H : Type) (enc : TypeId × Value → H) :
    ReturnsInHanded {} Try.checked os 4 .any (Rows.modeStepsSpec.pre6 enc Try.prog Try.f4 Rows.modeStepsRow.domain false) (Rows.modeStepsSpec.post enc Try.prog Try.f4 false true false false) :=
  law_lift (C := Try.checked) (tb := Try.f4.resultTypes.getD 0 0) own started (by kernel_rfl) Try.func4 laid (by kernel_rfl) (by kernel_rfl) (by kernel_rfl) rfl
    (fun ds h => by
      have h : ds.length = 2 := h.trans (by kernel_rfl)
      match ds, h with
      | [_, _], _ => rfl)
    (ChangeSpec.witness6 (enc := enc) (C := Try.checked) false ⟨#[], #[.agg #[.int .i64 0, .int .i64 0, .bool false, .bool false], .agg #[.bool false, .bool false, .bool false, .bool false, .bool false, .bool false, .bool false, .bool false, .int .i64 0, .int .i64 0, .int .i64 0]], []⟩ 8 (by kernel_rfl) (by kernel_rfl) (by kernel_rfl) (by kernel_rfl))
    (fun W base args ds ps _ hval ht hz _ _ => prm_calls (pr := [.flat true [.c (.i .i64), .c (.i .i64), .c (.b), .c (.b)], .flat true [.c (.b), .c (.b), .c (.b), .c (.b), .c (.b), .c (.b), .c (.b), .c (.b), .c (.i .i64), .c (.i .i64), .c (.i .i64)]]) s_astrolabelaw25_ModeSteps (by kernel_rfl) (ts := Try.f4.params.toList) (by kernel_rfl) (by kernel_rfl) modeSteps_trues hval ht hz)
theorem modeSteps_over : Rows.modeStepsRow.holds Try.pinned (OpenSpec.ofChange Rows.modeStepsSpec) :=
  OpenClaim.holds_of_wide 4 Try.f4 rfl rfl rfl rfl rfl rfl rfl ⟨rfl, rfl, rfl, rfl, rfl⟩ rfl rfl rfl rfl rfl (by kernel_rfl) Try.func4 (by kernel_rfl)
    (of_decide_eq_true (by kernel_rfl)) (by unfold Func.isWrapper; first | (rw [if_pos (by decide +kernel)]; kernel_rfl) | (rw [if_neg (by decide +kernel)]; exact ⟨rfl, rfl⟩))
    (fun os started H enc _ => modeSteps_lifted os started H enc)
/-- the statement -/
theorem modeSteps_proved : Rows.ModeStepsSaid := modeSteps_over
#print axioms modeSteps_proved
end Go.Proofs.Ytgbgdihahmecoaa
