/-
  Numbers of U and of the covariance, bounds, conditioning of any factors are what the document says, with the flag (P9.1): the statement of astrolabelaw9.TriSays; no condition.
-/
import Derived.Test.YtmlmpcabphgfaaaTR
import Derived.Test.YtmlmpcabphgfaaaT5
set_option maxRecDepth 100000
set_option maxHeartbeats 4000000
set_option linter.unusedVariables false
set_option linter.unusedSimpArgs false
namespace Go.Proofs.Ytmlmpcabphgfaaa
open Go.Ab
theorem tri_awake' : f_astrolabelaw9_awake = some true := by kernel_rfl
/-- a number on the diagonal, and the flag behind it -/
def dgP (f g : Nat → Int) (n : Nat) (hit : Bool) : Int × Bool := (f_tri_At f g n n hit).getD (0, hit)
theorem dgP_eq (f g : Nat → Int) (n : Nat) (hit : Bool) : f_tri_At f g n n hit = some (dgP f g n hit) ∧ f_astrolaberef9_At n n hit f g = some (dgP f g n hit) := by
  obtain ⟨a, h, e1, e2⟩ := at_both f g n n hit
  unfold dgP
  rw [e1, e2]
  exact ⟨rfl, rfl⟩
def dgH (f g : Nat → Int) : Nat → Bool
  | 0 => false
  | n + 1 => (dgP f g n (dgH f g n)).2
def dgV (f g : Nat → Int) (n : Nat) : Int := (dgP f g n (dgH f g n)).1
theorem triDiag_eq (f g : Nat → Int) : f_tri_Diag f g false = some (putAll (dgV f g) (fun _ => 0) 24, dgH f g 24) := by
  unfold f_tri_Diag K_tri_Diag L_tri_Diag_0
  refine loopK_inv (fun t d => ∃ (i : Nat), i + t = 24 ∧ d = ((i : Int), dgH f g i, f, g, (fun _ => 0), putAll (dgV f g) (fun _ => 0) i)) ?_ 200 24 _ (by omega) ⟨0, by omega, rfl⟩
  rintro t _ c ⟨i, hi, rfl⟩ hc
  rcases Nat.eq_zero_or_pos t with t0 | t0
  · obtain rfl : i = 24 := by omega
    have z : decide (((24 : Nat) : Int) < 24) = false := by decide
    simp only [S_tri_Diag_0, z, cond_false]
  · have z : decide ((i : Int) < 24) = true := decide_eq_true (by omega)
    have b2 : inR (i : Int) 24 = true := idx_in (show i < 24 by omega)
    have b3 : IntKind.wrap .i64 ((i : Int) + 1) = ((i + 1 : Nat) : Int) := (wrap_i64 (by omega) (by omega)).trans (by omega)
    have b5 : Nat.ble (0 + i * 1 + 1) 24 = true := ble1 (by omega)
    simp only [S_tri_Diag_0, z, cond_true, b2, b3, b5, Int.toNat_natCast, Bool.and_self, (dgP_eq f g i (dgH f g i)).1, Option.bind_some]
    exact hc (t - 1) _ (by omega) ⟨i + 1, by omega, rfl⟩
/-- the greatest -/
def mxV (g : Nat → Int) : Nat → Int
  | 0 => g 0
  | n + 1 => if g n > mxV g n then g n else mxV g n
theorem triMost_eq (f g : Nat → Int) : f_tri_Most f g = some (mxV g 24) := by
  unfold f_tri_Most K_tri_Most L_tri_Most_0
  refine loopK_inv (fun t d => ∃ (i : Nat), i + t = 24 ∧ d = (mxV g i, g, (i : Int))) ?_ 200 24 _ (by omega) ⟨0, by omega, rfl⟩
  rintro t _ c ⟨i, hi, rfl⟩ hc
  rcases Nat.eq_zero_or_pos t with t0 | t0
  · obtain rfl : i = 24 := by omega
    have z : decide (((24 : Nat) : Int) < 24) = false := by decide
    simp only [S_tri_Most_0, z, cond_false]
  · have z : decide ((i : Int) < 24) = true := decide_eq_true (by omega)
    have b2 : inR (i : Int) 24 = true := idx_in (show i < 24 by omega)
    have b3 : IntKind.wrap .i64 ((i : Int) + 1) = ((i + 1 : Nat) : Int) := (wrap_i64 (by omega) (by omega)).trans (by omega)
    simp only [S_tri_Most_0, z, cond_true, b2, b3, Int.toNat_natCast]
    exact hc (t - 1) _ (by omega) ⟨i + 1, by omega, rfl⟩
theorem triSays_plain (x0 x1 : Nat → Int) (x2 x3 x4 : Int) (n : Nat) (l : Nat → Int) (w0 : Bool) : f_astrolabelaw9_TriSays x0 x1 x2 x3 x4 n l w0 = some true := by
  unfold f_astrolabelaw9_TriSays K_astrolabelaw9_TriSays
  rw [tri_awake', Option.bind_some]
  simp only [Bool.not_true, cond_false]
  by_cases c : Int.ofNat n > 40
  · rw [decide_eq_true c, cond_true]
  rw [decide_eq_false c, cond_false]
  have n40 : n ≤ 40 := by simp only [Int.ofNat_eq_natCast] at c; omega
  obtain ⟨a, h, e1, e2⟩ := at_both x0 x1 x2 x3 false
  rw [triGood_eq, Option.bind_some, refGood_eq, Option.bind_some]
  have bs : ∀ b : Bool, (!b == b) = false := fun b => by cases b <;> rfl
  simp only [bs, cond_false]
  rw [tri_U_eq, Option.bind_some, refU_eq, Option.bind_some, bne_self_eq_false, cond_false, e1, Option.bind_some, e2, Option.bind_some]
  simp only [bne_self_eq_false, bs, cond_false]
  rw [tri_Condition_eq, Option.bind_some, refCondition_eq, Option.bind_some]
  simp only [allN_same, allN_true, Bool.and_self, Bool.not_true, bs, cond_false]
  rw [triDiag_eq, Option.bind_some]
  simp only
  unfold L_astrolabelaw9_TriSays_0
  refine loopK_inv (fun t d => ∃ (i : Nat), i + t = 24 ∧ d = (x2, x3, x4, n, w0, mxV x1 i, (i : Int), n, l, x0, x1, dgH x0 x1 24, dgH x0 x1 i, putAll (dgV x0 x1) (fun _ => 0) 24)) ?_ 1000 24 _ (by omega) ⟨0, by omega, rfl⟩
  rintro t _ k ⟨i, hi, rfl⟩ hc
  rcases Nat.eq_zero_or_pos t with t0 | t0
  · obtain rfl : i = 24 := by omega
    have z : decide (((24 : Nat) : Int) < 24) = false := by decide
    simp only [S_astrolabelaw9_TriSays_0, z, cond_false, Sum.elim_inr]
    have fin : ∀ f' g' : Nat → Int, (L_astrolabelaw9_TriSays_1 (n, w0, mxV x1 24, n, l, x0, x1, dgH x0 x1 24, dgH x0 x1 24, f', g') fun (d : Bool × Nat × (Nat → Int)) => some d.1) = some true := fun f' g' => by
      unfold L_astrolabelaw9_TriSays_1 S_astrolabelaw9_TriSays_1
      simp only [beq_self_eq_true, cond_true, triMost_eq, Option.bind_some, Nat.beq_refl, made_eq n (by omega)]
    by_cases cc : 0 ≤ x2 ∧ x2 < x3 ∧ x3 < 24
    · obtain ⟨p, rfl⟩ : ∃ p : Nat, x2 = (p : Int) := ⟨x2.toNat, by omega⟩
      obtain ⟨q, rfl⟩ : ∃ q : Nat, x3 = (q : Int) := ⟨x3.toNat, by omega⟩
      have h1 : p < q := by omega
      have h2 : q < 24 := by omega
      have pl := place_yes p q h1 h2
      unfold f_tri_place K_tri_place at pl
      rw [decide_eq_true (show (p : Int) ≥ 0 by omega), cond_true, decide_eq_true (show (p : Int) < q by omega), cond_true] at pl
      have p2 := (Prod.mk.inj (Option.some.inj pl)).1
      have pp := pos_lt h1 h2
      have r1 : inR ((pos p q : Nat) : Int) 276 = true := idx_in pp
      have r2 : Nat.ble (0 + pos p q * 1 + 1) 276 = true := ble1 pp
      have r3 : Nat.ble (0 + pos p q * 1 + 1) 300 = true := Nat.ble_eq_true_of_le (by omega)
      rw [tri_Set_yes x0 x1 p q x4 h1 h2, Option.bind_some, decide_eq_true (show (p : Int) ≥ 0 by omega), cond_true, decide_eq_true (show (p : Int) < q by omega), cond_true, decide_eq_true (show (q : Int) < 24 by omega), cond_true, p2]
      simp only [r1, r2, r3, cond_true, Bool.and_self, Int.toNat_natCast, allN_same, allN_true, Bool.not_true, cond_false]
      exact fin _ _
    · rw [tri_Set_no x0 x1 x2 x3 x4 cc, Option.bind_some]
      simp only [allN_same, allN_true, Bool.and_self, Bool.not_true, cond_false, fin]
      by_cases a1 : x2 ≥ 0
      · rw [decide_eq_true a1, cond_true]
        by_cases a2 : x2 < x3
        · rw [decide_eq_true a2, cond_true, decide_eq_false (show ¬ x3 < 24 by omega), cond_false]
        · rw [decide_eq_false a2, cond_false]
      · rw [decide_eq_false a1, cond_false]
  · have z : decide ((i : Int) < 24) = true := decide_eq_true (by omega)
    have b2 : inR (i : Int) 24 = true := idx_in (show i < 24 by omega)
    have b3 : IntKind.wrap .i64 ((i : Int) + 1) = ((i + 1 : Nat) : Int) := (wrap_i64 (by omega) (by omega)).trans (by omega)
    have pv : putAll (dgV x0 x1) (fun _ => 0) 24 i = (dgP x0 x1 i (dgH x0 x1 i)).1 := putAll_lt (dgV x0 x1) (fun _ => 0) (show i < 24 by omega)
    simp only [S_astrolabelaw9_TriSays_0, z, cond_true, b2, b3, Int.toNat_natCast, (dgP_eq x0 x1 i (dgH x0 x1 i)).2, Option.bind_some, pv, bne_self_eq_false, cond_false]
    by_cases m : x1 i > mxV x1 i
    · rw [decide_eq_true m, cond_true]
      refine hc (t - 1) _ (by omega) ⟨i + 1, by omega, ?_⟩
      rw [mxV, if_pos m]; rfl
    · rw [decide_eq_false m, cond_false]
      refine hc (t - 1) _ (by omega) ⟨i + 1, by omega, ?_⟩
      rw [mxV, if_neg m]; rfl
theorem triSays_ev (f : (Nat → Int) → (Nat → Int) → (Int) → (Int) → (Int) → (Nat) → (Nat → Int) → Bool → Option Bool) (x0_0_0 : Nat → Int) (x0_1_0 : Nat → Int) (x1_0 : Int) (x2_0 : Int) (x3_0 : Int) (n4 : Nat) (x4_0 : Nat → Int) : F_astrolabelaw9_TriSays f [.r (.agg [.a (.l 276) [.i .i64 x0_0_0], .a (.l 24) [.i .i64 x0_1_0]]), .r (.c (.f (.i .i64 x1_0))), .r (.c (.f (.i .i64 x2_0))), .r (.c (.f (.i .i64 x3_0))), .r (.c (.sl 0 (.k 0) (.s n4) 1 false))] [[.a (.s n4) [.i .i64 x4_0]]] = .test (Nat.beq n4 n4) (.opt (f x0_0_0 x0_1_0 x1_0 x2_0 x3_0 n4 x4_0 false) fun d => .leaf ⟨.r (.c (.f (.b d))), [.keep], []⟩) .fail := by kernel_rfl
theorem triSays_trues : Trues (F_astrolabelaw9_TriSays f_astrolabelaw9_TriSays) [.flat true [.a 276 [.i .i64], .a 24 [.i .i64]], .flat false [.c (.i .i64)], .flat false [.c (.i .i64)], .flat false [.c (.i .i64)], .sl [.i .i64]] := fun ds h => by
  obtain ⟨_, _, rfl, q0_0, g0⟩ := fit_flat h
  obtain ⟨_, _, rfl, p0_0_0, q0_1⟩ := f1_a q0_0
  obtain ⟨x0_0_0, _, rfl, r0_0_0, p0_0_1⟩ := col_i p0_0_0
  obtain rfl := col_nil p0_0_1
  obtain ⟨_, _, rfl, p0_1_0, q0_2⟩ := f1_a q0_1
  obtain ⟨x0_1_0, _, rfl, r0_1_0, p0_1_1⟩ := col_i p0_1_0
  obtain rfl := col_nil p0_1_1
  obtain rfl := f1_nil q0_2
  obtain ⟨_, _, rfl, q1_0, g1⟩ := fit_flat g0
  obtain ⟨x1_0, _, rfl, r1_0, q1_1⟩ := f1_i q1_0
  obtain rfl := f1_nil q1_1
  obtain ⟨_, _, rfl, q2_0, g2⟩ := fit_flat g1
  obtain ⟨x2_0, _, rfl, r2_0, q2_1⟩ := f1_i q2_0
  obtain rfl := f1_nil q2_1
  obtain ⟨_, _, rfl, q3_0, g3⟩ := fit_flat g2
  obtain ⟨x3_0, _, rfl, r3_0, q3_1⟩ := f1_i q3_0
  obtain rfl := f1_nil q3_1
  obtain ⟨n4, c4, _, rfl, m4, q4_0, g4⟩ := fit_sl g3
  obtain ⟨x4_0, _, rfl, r4_0, q4_1⟩ := col_i q4_0
  obtain rfl := col_nil q4_1
  obtain rfl := fit_nil g4
  refine ⟨[], (congrArg T.eval (triSays_ev f_astrolabelaw9_TriSays x0_0_0 x0_1_0 x1_0 x2_0 x3_0 n4 x4_0)).trans ?_⟩
  rw [nbeq_self n4]
  rw [triSays_plain x0_0_0 x0_1_0 x1_0 x2_0 x3_0 n4 x4_0 false]
  rfl
set_option maxRecDepth 100000 in
theorem triSays_lifted (os : Os) (started : os.Started) (H : Type) (enc : TypeId × Value → H) :
    ReturnsInHanded {} Try.checked os 12 .any (Rows.triSaysSpec.pre6 enc Try.prog Try.f12 Rows.triSaysRow.domain false) (Rows.triSaysSpec.post enc Try.prog Try.f12 false true false false) :=
  law_lift (C := Try.checked) (tb := Try.f12.resultTypes.getD 0 0) own started (by kernel_rfl) Try.func12 laid (by kernel_rfl) (by kernel_rfl) (by kernel_rfl) rfl
    (fun ds h => by
      have h : ds.length = 5 := h.trans (by kernel_rfl)
      match ds, h with
      | [_, _, _, _, _], _ => rfl)
    (ChangeSpec.witness6 (enc := enc) (C := Try.checked) false ⟨#[], #[.agg #[.int .i64 0, .int .i64 0, .int .i64 0, .int .i64 0, .int .i64 0, .int .i64 0, .int .i64 0, .int .i64 0, .int .i64 0, .int .i64 0, .int .i64 0, .int .i64 0, .int .i64 0, .int .i64 0, .int .i64 0, .int .i64 0, .int .i64 0, .int .i64 0, .int .i64 0, .int .i64 0, .int .i64 0, .int .i64 0, .int .i64 0, .int .i64 0, .int .i64 0, .int .i64 0, .int .i64 0, .int .i64 0, .int .i64 0, .int .i64 0, .int .i64 0, .int .i64 0, .int .i64 0, .int .i64 0, .int .i64 0, .int .i64 0, .int .i64 0, .int .i64 0, .int .i64 0, .int .i64 0, .int .i64 0, .int .i64 0, .int .i64 0, .int .i64 0, .int .i64 0, .int .i64 0, .int .i64 0, .int .i64 0, .int .i64 0, .int .i64 0, .int .i64 0, .int .i64 0, .int .i64 0, .int .i64 0, .int .i64 0, .int .i64 0, .int .i64 0, .int .i64 0, .int .i64 0, .int .i64 0, .int .i64 0, .int .i64 0, .int .i64 0, .int .i64 0, .int .i64 0, .int .i64 0, .int .i64 0, .int .i64 0, .int .i64 0, .int .i64 0, .int .i64 0, .int .i64 0, .int .i64 0, .int .i64 0, .int .i64 0, .int .i64 0, .int .i64 0, .int .i64 0, .int .i64 0, .int .i64 0, .int .i64 0, .int .i64 0, .int .i64 0, .int .i64 0, .int .i64 0, .int .i64 0, .int .i64 0, .int .i64 0, .int .i64 0, .int .i64 0, .int .i64 0, .int .i64 0, .int .i64 0, .int .i64 0, .int .i64 0, .int .i64 0, .int .i64 0, .int .i64 0, .int .i64 0, .int .i64 0, .int .i64 0, .int .i64 0, .int .i64 0, .int .i64 0, .int .i64 0, .int .i64 0, .int .i64 0, .int .i64 0, .int .i64 0, .int .i64 0, .int .i64 0, .int .i64 0, .int .i64 0, .int .i64 0, .int .i64 0, .int .i64 0, .int .i64 0, .int .i64 0, .int .i64 0, .int .i64 0, .int .i64 0, .int .i64 0, .int .i64 0, .int .i64 0, .int .i64 0, .int .i64 0, .int .i64 0, .int .i64 0, .int .i64 0, .int .i64 0, .int .i64 0, .int .i64 0, .int .i64 0, .int .i64 0, .int .i64 0, .int .i64 0, .int .i64 0, .int .i64 0, .int .i64 0, .int .i64 0, .int .i64 0, .int .i64 0, .int .i64 0, .int .i64 0, .int .i64 0, .int .i64 0, .int .i64 0, .int .i64 0, .int .i64 0, .int .i64 0, .int .i64 0, .int .i64 0, .int .i64 0, .int .i64 0, .int .i64 0, .int .i64 0, .int .i64 0, .int .i64 0, .int .i64 0, .int .i64 0, .int .i64 0, .int .i64 0, .int .i64 0, .int .i64 0, .int .i64 0, .int .i64 0, .int .i64 0, .int .i64 0, .int .i64 0, .int .i64 0, .int .i64 0, .int .i64 0, .int .i64 0, .int .i64 0, .int .i64 0, .int .i64 0, .int .i64 0, .int .i64 0, .int .i64 0, .int .i64 0, .int .i64 0, .int .i64 0, .int .i64 0, .int .i64 0, .int .i64 0, .int .i64 0, .int .i64 0, .int .i64 0, .int .i64 0, .int .i64 0, .int .i64 0, .int .i64 0, .int .i64 0, .int .i64 0, .int .i64 0, .int .i64 0, .int .i64 0, .int .i64 0, .int .i64 0, .int .i64 0, .int .i64 0, .int .i64 0, .int .i64 0, .int .i64 0, .int .i64 0, .int .i64 0, .int .i64 0, .int .i64 0, .int .i64 0, .int .i64 0, .int .i64 0, .int .i64 0, .int .i64 0, .int .i64 0, .int .i64 0, .int .i64 0, .int .i64 0, .int .i64 0, .int .i64 0, .int .i64 0, .int .i64 0, .int .i64 0, .int .i64 0, .int .i64 0, .int .i64 0, .int .i64 0, .int .i64 0, .int .i64 0, .int .i64 0, .int .i64 0, .int .i64 0, .int .i64 0, .int .i64 0, .int .i64 0, .int .i64 0, .int .i64 0, .int .i64 0, .int .i64 0, .int .i64 0, .int .i64 0, .int .i64 0, .int .i64 0, .int .i64 0, .int .i64 0, .int .i64 0, .int .i64 0, .int .i64 0, .int .i64 0, .int .i64 0, .int .i64 0, .int .i64 0, .int .i64 0, .int .i64 0, .int .i64 0, .int .i64 0, .int .i64 0, .int .i64 0, .int .i64 0, .int .i64 0, .int .i64 0, .int .i64 0, .int .i64 0, .int .i64 0, .int .i64 0, .int .i64 0, .int .i64 0, .int .i64 0, .int .i64 0, .int .i64 0, .int .i64 0, .int .i64 0, .int .i64 0, .int .i64 0, .int .i64 0, .int .i64 0, .int .i64 0, .int .i64 0, .int .i64 0, .int .i64 0, .int .i64 0, .int .i64 0, .int .i64 0, .int .i64 0, .int .i64 0, .int .i64 0, .int .i64 0, .int .i64 0, .int .i64 0, .int .i64 0, .int .i64 0, .int .i64 0, .int .i64 0, .int .i64 0, .int .i64 0, .int .i64 0, .int .i64 0, .int .i64 0, .int .i64 0, .int .i64 0, .int .i64 0], .int .i64 0, .int .i64 0, .int .i64 0, .slice none 0 0], []⟩ 8 (by kernel_rfl) (by kernel_rfl) (by kernel_rfl) (by kernel_rfl))
    (fun W base args ds ps _ hval ht hz _ _ => prm_calls (pr := [.flat true [.a 276 [.i .i64], .a 24 [.i .i64]], .flat false [.c (.i .i64)], .flat false [.c (.i .i64)], .flat false [.c (.i .i64)], .sl [.i .i64]]) s_astrolabelaw9_TriSays (by kernel_rfl) (ts := Try.f12.params.toList) (by kernel_rfl) (by kernel_rfl) triSays_trues hval ht hz)
theorem triSays_over : Rows.triSaysRow.holds Try.pinned (OpenSpec.ofChange Rows.triSaysSpec) :=
  OpenClaim.holds_of_wide 12 Try.f12 rfl rfl rfl rfl rfl rfl rfl ⟨rfl, rfl, rfl, rfl, rfl⟩ rfl rfl rfl rfl rfl (by kernel_rfl) Try.func12 (by kernel_rfl)
    (of_decide_eq_true (by kernel_rfl)) (by unfold Func.isWrapper; first | (rw [if_pos (by decide +kernel)]; kernel_rfl) | (rw [if_neg (by decide +kernel)]; exact ⟨rfl, rfl⟩))
    (fun os started H enc _ => triSays_lifted os started H enc)
/-- the statement -/
theorem triSays_proved : Rows.TriSaysSaid := triSays_over
#print axioms triSays_proved
end Go.Proofs.Ytmlmpcabphgfaaa
