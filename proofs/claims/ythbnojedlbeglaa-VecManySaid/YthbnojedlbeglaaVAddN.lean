/-
  The sum of many vectors in plain arithmetic.
-/
import Derived.Test.YthbnojedlbeglaaVAdd2
set_option maxRecDepth 100000
set_option maxHeartbeats 4000000
set_option linter.unusedVariables false
set_option linter.unusedSimpArgs false
namespace Go.Proofs.Ythbnojedlbeglaa
open Go.Ab
theorem sumF_congr {f g : Nat → Int} : ∀ {n : Nat}, (∀ j, j < n → f j = g j) → sumF f n = sumF g n
  | 0, _ => rfl
  | n + 1, h => by rw [sumF, sumF, sumF_congr fun j hj => h j (by omega), h n (by omega)]
theorem anyF_congr {f g : Nat → Bool} : ∀ {n : Nat}, (∀ j, j < n → f j = g j) → anyF f n = anyF g n
  | 0, _ => rfl
  | n + 1, h => by rw [anyF, anyF, anyF_congr fun j hj => h j (by omega), h n (by omega)]
/-- a clamped sum, and whether something was clamped -/
def sumS (n : Nat) (f : Nat → Int) : Int := sat (sumF (fun j => sat (f j)) n)
def hitS (n : Nat) (f : Nat → Int) (hit : Bool) : Bool := (hit || anyF (fun j => over (f j)) n) || over (sumF (fun j => sat (f j)) n)
theorem acc_add' (n : Nat) (hn : n ≤ 150) (hit : Bool) (P f : Nat → Int) (w : Bool) (h : ∀ j, j < n → P j = f j) : f___fx_Acc__Add n hit P w = some (sumS n f, hitS n f hit) := by
  rw [acc_add n hn]
  unfold sumS hitS
  rw [sumF_congr (f := fun j => sat (P j)) (g := fun j => sat (f j)) fun j hj => by rw [h j hj], anyF_congr (f := fun j => over (P j)) (g := fun j => over (f j)) fun j hj => by rw [h j hj]]
theorem vadd_inner {ρ : Type} (n : Nat) (hn : n ≤ 150) (w hit : Bool) (c : Int) (f1 f2 f3 fc : Nat → Int) (o1 o2 o3 : Int) (hcc : (c = 0 ∧ fc = f1) ∨ (c = 1 ∧ fc = f2) ∨ (c = 2 ∧ fc = f3)) (r : Option ρ) (k : _ → Option ρ)
    (hk : ∀ P : Nat → Int, (∀ j, j < n → P j = fc j) → k (n, w, c, n, c, n, w, Int.ofNat n, Int.ofNat n, false, hit, n, f1, f2, f3, o1, o2, o3, n, P) = r) :
    L_vec_Add_1 (n, w, c, 0, c, n, w, Int.ofNat n, 0, hit, n, f1, f2, f3, o1, o2, o3, 0, fun _ => 0) k = r := by
  unfold L_vec_Add_1
  refine loopK_inv (fun t d => ∃ (i : Nat) (P : Nat → Int), i + t = n ∧ (∀ j, j < i → P j = fc j) ∧ d = (n, w, c, i, c, n, w, Int.ofNat n, Int.ofNat i, hit, n, f1, f2, f3, o1, o2, o3, i, P)) ?_ 200 n _ (by omega) ⟨0, _, by omega, fun j hj => by omega, rfl⟩
  rintro t _ cc ⟨i, P, hi, hP, rfl⟩ hc'
  rcases Nat.eq_zero_or_pos t with t0 | t0
  · have e : i = n := by omega
    subst e
    simp only [S_vec_Add_1, idx_ge (Nat.le_refl i), cond_false]
    exact hk P hP
  · have e3 : Nat.ble ((i + 1) * 8) 140737488355328 = true := Nat.ble_eq_true_of_le (by omega)
    have q : Int.toNat (Int.ofNat i) = i := rfl
    have nx : ∀ f : Nat → Int, fc = f → cc (n, w, c, i + 1, c, n, w, Int.ofNat n, Int.ofNat (i + 1), hit, n, f1, f2, f3, o1, o2, o3, i + 1, fun j => bif Nat.beq j i then f i else P j) = r := fun f hf =>
      hc' (t - 1) _ (by omega) ⟨i + 1, _, by omega, fun j hj => by
        subst hf
        by_cases hji : j = i
        · subst hji; simp only [Nat.beq_refl, cond_true]
        · have : Nat.beq j i = false := by
            cases hb : Nat.beq j i
            · rfl
            · exact absurd (Nat.eq_of_beq_eq_true hb) hji
          simp only [this, cond_false]
          exact hP j (by omega), rfl⟩
    have u1 : inR 0 3 = true := by decide
    have u2 : inR 1 3 = true := by decide
    have u3 : inR 2 3 = true := by decide
    have v1 : ((0 : Int) == 2) = false := by decide
    have v2 : ((0 : Int) == 1) = false := by decide
    have v3 : ((1 : Int) == 2) = false := by decide
    have v4 : ((1 : Int) == 1) = true := by decide
    have v5 : ((2 : Int) == 2) = true := by decide
    rcases hcc with ⟨rfl, hf⟩ | ⟨rfl, hf⟩ | ⟨rfl, hf⟩
    · simp only [S_vec_Add_1, idx_lt hi t0, idx_in (show i < n by omega), cond_true, cond_false, e3, q, idx_up (show i < 9000000000000000000 by omega), u1, v1, v2]
      exact nx f1 hf
    · simp only [S_vec_Add_1, idx_lt hi t0, idx_in (show i < n by omega), cond_true, cond_false, e3, q, idx_up (show i < 9000000000000000000 by omega), u2, v3, v4]
      exact nx f2 hf
    · simp only [S_vec_Add_1, idx_lt hi t0, idx_in (show i < n by omega), cond_true, cond_false, e3, q, idx_up (show i < 9000000000000000000 by omega), u3, v5]
      exact nx f3 hf
theorem vec_add_n (n : Nat) (hn : n ≤ 150) (hit : Bool) (f1 f2 f3 : Nat → Int) (w : Bool) :
    f_vec_Add n hit f1 f2 f3 w = some (sumS n f1, sumS n f2, sumS n f3, hitS n f3 (hitS n f2 (hitS n f1 hit))) := by
  unfold f_vec_Add K_vec_Add L_vec_Add_0
  refine loopK_inv (fun t d => (t = 3 ∧ d = (n, w, 0, hit, n, f1, f2, f3, 0, 0, 0)) ∨ (t = 2 ∧ d = (n, w, 1, hitS n f1 hit, n, f1, f2, f3, sumS n f1, 0, 0)) ∨
    (t = 1 ∧ d = (n, w, 2, hitS n f2 (hitS n f1 hit), n, f1, f2, f3, sumS n f1, sumS n f2, 0)) ∨ (t = 0 ∧ d = (n, w, 3, hitS n f3 (hitS n f2 (hitS n f1 hit)), n, f1, f2, f3, sumS n f1, sumS n f2, sumS n f3))) ?_ 200 3 _ (by omega) (.inl ⟨rfl, rfl⟩)
  have u1 : inR 0 3 = true := by decide
  have u2 : inR 1 3 = true := by decide
  have u3 : inR 2 3 = true := by decide
  have v1 : ((0 : Int) == 2) = false := by decide
  have v2 : ((0 : Int) == 1) = false := by decide
  have v3 : ((1 : Int) == 2) = false := by decide
  have v4 : ((1 : Int) == 1) = true := by decide
  have v5 : ((2 : Int) == 2) = true := by decide
  have d0 : decide ((0 : Int) < 3) = true := by decide
  have d1 : decide ((1 : Int) < 3) = true := by decide
  have d2 : decide ((2 : Int) < 3) = true := by decide
  have d3 : decide ((3 : Int) < 3) = false := by decide
  have w0 : IntKind.wrap .i64 (0 + 1) = 1 := by decide
  have w1 : IntKind.wrap .i64 (1 + 1) = 2 := by decide
  have w2 : IntKind.wrap .i64 (2 + 1) = 3 := by decide
  rintro t _ cc (⟨rfl, rfl⟩ | ⟨rfl, rfl⟩ | ⟨rfl, rfl⟩ | ⟨rfl, rfl⟩) hc'
  · unfold S_vec_Add_0
    rw [d0, cond_true]
    refine vadd_inner n hn w hit 0 f1 f2 f3 f1 0 0 0 (.inl ⟨rfl, rfl⟩) _ _ fun P hP => ?_
    simp only [Nat.beq_refl, cond_true, cond_false, acc_add' n hn hit P f1 true hP, Option.bind_some, u1, v1, v2, w0]
    exact hc' 2 _ (by omega) (.inr (.inl ⟨rfl, rfl⟩))
  · unfold S_vec_Add_0
    rw [d1, cond_true]
    refine vadd_inner n hn w (hitS n f1 hit) 1 f1 f2 f3 f2 _ 0 0 (.inr (.inl ⟨rfl, rfl⟩)) _ _ fun P hP => ?_
    simp only [Nat.beq_refl, cond_true, cond_false, acc_add' n hn _ P f2 true hP, Option.bind_some, u2, v3, v4, w1]
    exact hc' 1 _ (by omega) (.inr (.inr (.inl ⟨rfl, rfl⟩)))
  · unfold S_vec_Add_0
    rw [d2, cond_true]
    refine vadd_inner n hn w (hitS n f2 (hitS n f1 hit)) 2 f1 f2 f3 f3 _ _ 0 (.inr (.inr ⟨rfl, rfl⟩)) _ _ fun P hP => ?_
    simp only [Nat.beq_refl, cond_true, cond_false, acc_add' n hn _ P f3 true hP, Option.bind_some, u3, v5, w2]
    exact hc' 0 _ (by omega) (.inr (.inr (.inr ⟨rfl, rfl⟩)))
  · unfold S_vec_Add_0
    rw [d3, cond_false]
end Go.Proofs.Ythbnojedlbeglaa
