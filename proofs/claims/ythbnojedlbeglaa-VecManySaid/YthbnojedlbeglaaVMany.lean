/-
  The sum of many vectors is, number by number, the exact sum, clamped once: the statement of astrolabelaw5.VecMany; no condition.
-/
import Derived.Test.YthbnojedlbeglaaVAddN
import Derived.Test.YthbnojedlbeglaaV4
import Derived.Test.YthbnojedlbeglaaAbLaw
set_option maxRecDepth 100000
set_option maxHeartbeats 4000000
set_option linter.unusedVariables false
set_option linter.unusedSimpArgs false
namespace Go.Proofs.Ythbnojedlbeglaa
open Go.Ab
theorem vec_awake2 : f_astrolabelaw5_awake = some true := by kernel_rfl
theorem many_inner {ρ : Type} (n : Nat) (hn : n ≤ 150) (w H hd : Bool) (c : Int) (f1 f2 f3 fc : Nat → Int) (o1 o2 o3 : Int) (hcc : (c = 0 ∧ fc = f1) ∨ (c = 1 ∧ fc = f2) ∨ (c = 2 ∧ fc = f3)) (r : Option ρ) (k : _ → Option ρ)
    (hk : ∀ P : Nat → Int, (∀ j, j < n → P j = fc j) → k (n, w, c, n, Int.ofNat n, Int.ofNat n, false, n, f1, f2, f3, H, o1, o2, o3, hd, n, P) = r) :
    L_astrolabelaw5_VecMany_1 (n, w, c, 0, 0, n, f1, f2, f3, H, o1, o2, o3, hd, 0, fun _ => 0) k = r := by
  unfold L_astrolabelaw5_VecMany_1
  refine loopK_inv (fun t d => ∃ (i : Nat) (P : Nat → Int), i + t = n ∧ (∀ j, j < i → P j = fc j) ∧ d = (n, w, c, i, Int.ofNat i, n, f1, f2, f3, H, o1, o2, o3, hd, i, P)) ?_ 200 n _ (by omega) ⟨0, _, by omega, fun j hj => by omega, rfl⟩
  rintro t _ cc ⟨i, P, hi, hP, rfl⟩ hc'
  rcases Nat.eq_zero_or_pos t with t0 | t0
  · have e : i = n := by omega
    subst e
    simp only [S_astrolabelaw5_VecMany_1, idx_ge (Nat.le_refl i), cond_false]
    exact hk P hP
  · have e3 : Nat.ble ((i + 1) * 8) 140737488355328 = true := Nat.ble_eq_true_of_le (by omega)
    have q : Int.toNat (Int.ofNat i) = i := rfl
    have nx : ∀ f : Nat → Int, fc = f → cc (n, w, c, i + 1, Int.ofNat (i + 1), n, f1, f2, f3, H, o1, o2, o3, hd, i + 1, fun j => bif Nat.beq j i then f i else P j) = r := fun f hf =>
      hc' (t - 1) _ (by omega) ⟨i + 1, _, by omega, fun j hj => by
        subst hf
        by_cases hji : j = i
        · subst hji; simp only [Nat.beq_refl, cond_true]
        · have : Nat.beq j i = false := by
            cases hb : Nat.beq j i
            · rfl
            · exact absurd (Nat.eq_of_beq_eq_true hb) hji
          simp only [this, cond_false]
          exact hP j (by omega), rfl⟩
    have u1 : inR 0 3 = true := by decide
    have u2 : inR 1 3 = true := by decide
    have u3 : inR 2 3 = true := by decide
    have v1 : ((0 : Int) == 2) = false := by decide
    have v2 : ((0 : Int) == 1) = false := by decide
    have v3 : ((1 : Int) == 2) = false := by decide
    have v4 : ((1 : Int) == 1) = true := by decide
    have v5 : ((2 : Int) == 2) = true := by decide
    rcases hcc with ⟨rfl, hf⟩ | ⟨rfl, hf⟩ | ⟨rfl, hf⟩
    · simp only [S_astrolabelaw5_VecMany_1, idx_lt hi t0, idx_in (show i < n by omega), cond_true, cond_false, e3, q, idx_up (show i < 9000000000000000000 by omega), u1, v1, v2]
      exact nx f1 hf
    · simp only [S_astrolabelaw5_VecMany_1, idx_lt hi t0, idx_in (show i < n by omega), cond_true, cond_false, e3, q, idx_up (show i < 9000000000000000000 by omega), u2, v3, v4]
      exact nx f2 hf
    · simp only [S_astrolabelaw5_VecMany_1, idx_lt hi t0, idx_in (show i < n by omega), cond_true, cond_false, e3, q, idx_up (show i < 9000000000000000000 by omega), u3, v5]
      exact nx f3 hf
theorem vecMany_plain (n : Nat) (f1 f2 f3 : Nat → Int) (w : Bool) : f_astrolabelaw5_VecMany n f1 f2 f3 w = some true := by
  unfold f_astrolabelaw5_VecMany K_astrolabelaw5_VecMany
  rw [vec_awake2, Option.bind_some]
  simp only [Bool.not_true, cond_false, Nat.zero_add, Nat.beq_refl, cond_true]
  by_cases h60 : Int.ofNat n > 60
  · rw [decide_eq_true h60, cond_true]
  have hn : n ≤ 60 := by simp only [Int.ofNat_eq_natCast] at h60; omega
  rw [decide_eq_false h60, cond_false, show Nat.ble (n * 24) 140737488355328 = true from Nat.ble_eq_true_of_le (by omega), cond_true, vec_add_n n (by omega), Option.bind_some]
  unfold L_astrolabelaw5_VecMany_0
  refine loopK_inv (fun t d => (t = 3 ∧ d = (n, w, 0, n, f1, f2, f3, hitS n f3 (hitS n f2 (hitS n f1 false)), sumS n f1, sumS n f2, sumS n f3, false)) ∨ (t = 2 ∧ d = (n, w, 1, n, f1, f2, f3, hitS n f3 (hitS n f2 (hitS n f1 false)), sumS n f1, sumS n f2, sumS n f3, hitS n f1 false)) ∨
    (t = 1 ∧ d = (n, w, 2, n, f1, f2, f3, hitS n f3 (hitS n f2 (hitS n f1 false)), sumS n f1, sumS n f2, sumS n f3, hitS n f2 (hitS n f1 false))) ∨
    (t = 0 ∧ d = (n, w, 3, n, f1, f2, f3, hitS n f3 (hitS n f2 (hitS n f1 false)), sumS n f1, sumS n f2, sumS n f3, hitS n f3 (hitS n f2 (hitS n f1 false))))) ?_ 200 3 _ (by omega) (.inl ⟨rfl, rfl⟩)
  have u1 : inR 0 3 = true := by decide
  have u2 : inR 1 3 = true := by decide
  have u3 : inR 2 3 = true := by decide
  have v1 : ((0 : Int) == 2) = false := by decide
  have v2 : ((0 : Int) == 1) = false := by decide
  have v3 : ((1 : Int) == 2) = false := by decide
  have v4 : ((1 : Int) == 1) = true := by decide
  have v5 : ((2 : Int) == 2) = true := by decide
  have d0 : decide ((0 : Int) < 3) = true := by decide
  have d1 : decide ((1 : Int) < 3) = true := by decide
  have d2 : decide ((2 : Int) < 3) = true := by decide
  have d3 : decide ((3 : Int) < 3) = false := by decide
  have w0 : IntKind.wrap .i64 (0 + 1) = 1 := by decide
  have w1 : IntKind.wrap .i64 (1 + 1) = 2 := by decide
  have w2 : IntKind.wrap .i64 (2 + 1) = 3 := by decide
  rintro t _ cc (⟨rfl, rfl⟩ | ⟨rfl, rfl⟩ | ⟨rfl, rfl⟩ | ⟨rfl, rfl⟩) hc'
  · unfold S_astrolabelaw5_VecMany_0
    rw [d0, cond_true]
    refine many_inner n (by omega) w _ _ 0 f1 f2 f3 f1 _ _ _ (.inl ⟨rfl, rfl⟩) _ _ fun P hP => ?_
    simp only [Nat.beq_refl, cond_true, cond_false, acc_add' n (by omega) _ P f1 true hP, Option.bind_some, u1, v1, v2, w0, bne_self_eq_false]
    exact hc' 2 _ (by omega) (.inr (.inl ⟨rfl, rfl⟩))
  · unfold S_astrolabelaw5_VecMany_0
    rw [d1, cond_true]
    refine many_inner n (by omega) w _ _ 1 f1 f2 f3 f2 _ _ _ (.inr (.inl ⟨rfl, rfl⟩)) _ _ fun P hP => ?_
    simp only [Nat.beq_refl, cond_true, cond_false, acc_add' n (by omega) _ P f2 true hP, Option.bind_some, u2, v3, v4, w1, bne_self_eq_false]
    exact hc' 1 _ (by omega) (.inr (.inr (.inl ⟨rfl, rfl⟩)))
  · unfold S_astrolabelaw5_VecMany_0
    rw [d2, cond_true]
    refine many_inner n (by omega) w _ _ 2 f1 f2 f3 f3 _ _ _ (.inr (.inr ⟨rfl, rfl⟩)) _ _ fun P hP => ?_
    simp only [Nat.beq_refl, cond_true, cond_false, acc_add' n (by omega) _ P f3 true hP, Option.bind_some, u3, v5, w2, bne_self_eq_false]
    exact hc' 0 _ (by omega) (.inr (.inr (.inr ⟨rfl, rfl⟩)))
  · unfold S_astrolabelaw5_VecMany_0
    rw [d3, cond_false]
    simp only [Sum.elim_inr, beq_self_eq_true]
theorem vecMany_ev (f : (Nat) → (Nat → Int) → (Nat → Int) → (Nat → Int) → Bool → Option Bool) (n0 : Nat) (x0_0 : Nat → Int) (x0_1 : Nat → Int) (x0_2 : Nat → Int) : F_astrolabelaw5_VecMany f [.r (.c (.sl 0 (.k 0) (.s n0) 3 false))] [[.a (.s n0) [.i .i64 x0_0, .i .i64 x0_1, .i .i64 x0_2]]] = .test (Nat.beq n0 n0) (.opt (f n0 x0_0 x0_1 x0_2 false) fun d => .leaf ⟨.r (.c (.f (.b d))), [.keep], []⟩) .fail := by kernel_rfl
theorem vecMany_trues : Trues (F_astrolabelaw5_VecMany f_astrolabelaw5_VecMany) [.sl [.i .i64, .i .i64, .i .i64]] := fun ds h => by
  obtain ⟨n0, c0, _, rfl, m0, q0_0, g0⟩ := fit_sl h
  obtain ⟨x0_0, _, rfl, r0_0, q0_1⟩ := col_i q0_0
  obtain ⟨x0_1, _, rfl, r0_1, q0_2⟩ := col_i q0_1
  obtain ⟨x0_2, _, rfl, r0_2, q0_3⟩ := col_i q0_2
  obtain rfl := col_nil q0_3
  obtain rfl := fit_nil g0
  refine ⟨[], (congrArg T.eval (vecMany_ev f_astrolabelaw5_VecMany n0 x0_0 x0_1 x0_2)).trans ?_⟩
  rw [nbeq_self n0]
  rw [vecMany_plain n0 x0_0 x0_1 x0_2 false]
  rfl
set_option maxRecDepth 100000 in
theorem vecMany_lifted (os : Os) (started : os.Started) (H : Type) (enc : TypeId × Value → H) :
    ReturnsInHanded {} Try.checked os 12 .any (Rows.vecManySpec.pre6 enc Try.prog Try.f12 Rows.vecManyRow.domain false) (Rows.vecManySpec.post enc Try.prog Try.f12 false true false false) :=
  law_lift (C := Try.checked) (tb := Try.f12.resultTypes.getD 0 0) own started (by kernel_rfl) Try.func12 laid (by kernel_rfl) (by kernel_rfl) (by kernel_rfl) rfl
    (fun ds h => by
      have h : ds.length = 1 := h.trans (by kernel_rfl)
      match ds, h with
      | [_], _ => rfl)
    (ChangeSpec.witness6 (enc := enc) (C := Try.checked) false ⟨#[], #[.slice none 0 0], []⟩ 8 (by kernel_rfl) (by kernel_rfl) (by kernel_rfl) (by kernel_rfl))
    (fun W base args ds ps _ hval ht hz _ _ => prm_calls (pr := [.sl [.i .i64, .i .i64, .i .i64]]) s_astrolabelaw5_VecMany (by kernel_rfl) (ts := Try.f12.params.toList) (by kernel_rfl) (by kernel_rfl) vecMany_trues hval ht hz)
theorem vecMany_over : Rows.vecManyRow.holds Try.pinned (OpenSpec.ofChange Rows.vecManySpec) :=
  OpenClaim.holds_of_wide 12 Try.f12 rfl rfl rfl rfl rfl rfl rfl ⟨rfl, rfl, rfl, rfl, rfl⟩ rfl rfl rfl rfl rfl (by kernel_rfl) Try.func12 (by kernel_rfl)
    (of_decide_eq_true (by kernel_rfl)) (by unfold Func.isWrapper; first | (rw [if_pos (by decide +kernel)]; kernel_rfl) | (rw [if_neg (by decide +kernel)]; exact ⟨rfl, rfl⟩))
    (fun os started H enc _ => vecMany_lifted os started H enc)
/-- the statement -/
theorem vecMany_proved : Rows.VecManySaid := vecMany_over
#print axioms vecMany_proved
end Go.Proofs.Ythbnojedlbeglaa
