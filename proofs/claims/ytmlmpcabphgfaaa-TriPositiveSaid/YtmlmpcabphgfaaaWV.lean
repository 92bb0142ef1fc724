/-
  Sums of products of clamped scalars in plain arithmetic.
-/
import Derived.Test.YtmlmpcabphgfaaaWU
import Derived.Test.YtmlmpcabphgfaaaWD
set_option maxRecDepth 100000
set_option maxHeartbeats 4000000
set_option linter.unusedVariables false
set_option linter.unusedSimpArgs false
namespace Go.Proofs.Ytmlmpcabphgfaaa
open Go.Ab
theorem sat_mul (a b : Int) : -1329227995784915872903807060280344576 ≤ sat a * sat b ∧ sat a * sat b ≤ 1329227995784915872903807060280344576 := by
  have h1 := sat_le a
  have h2 := sat_le b
  generalize sat a = x at *
  generalize sat b = y at *
  have key : ∀ u v : Int, 0 ≤ u → u ≤ 1152921504606846976 → 0 ≤ v → v ≤ 1152921504606846976 → 0 ≤ u * v ∧ u * v ≤ 1329227995784915872903807060280344576 := fun u v u0 u1 v0 v1 => by
    refine ⟨Int.mul_nonneg u0 v0, ?_⟩
    have := Int.mul_le_mul u1 v1 v0 (by omega)
    omega
  rcases Int.le_total 0 x with hx | hx <;> rcases Int.le_total 0 y with hy | hy
  · have := key x y hx (by omega) hy (by omega); omega
  · have := key x (-y) hx (by omega) (by omega) (by omega)
    rw [Int.mul_neg] at this; omega
  · have := key (-x) y (by omega) (by omega) hy (by omega)
    rw [Int.neg_mul] at this; omega
  · have := key (-x) (-y) (by omega) (by omega) (by omega) (by omega)
    rw [Int.neg_mul_neg] at this; omega
theorem acc_dot (s : Nat) (hs : s ≤ 120) (n : Nat) (hn : n ≤ 100) (hit : Bool) (f g : Nat → Int) (w w' : Bool) :
    f___fx_Acc__Dot (Int.ofNat s) n n hit f g w w' = some (sat (rnd (sumF (fun j => sat (f j) * sat (g j)) n) s), (hit || anyF (fun j => over (f j) || over (g j)) n) || over (rnd (sumF (fun j => sat (f j) * sat (g j)) n) s)) := by
  unfold f___fx_Acc__Dot K___fx_Acc__Dot L___fx_Acc__Dot_0
  have n0 : decide (Int.ofNat s < 0) = false := by simp
  have n1 : decide (Int.ofNat s > 120) = false := by simp only [Int.ofNat_eq_natCast]; exact decide_eq_false (by omega)
  have m : (if 100 < if Int.ofNat n < Int.ofNat n then Int.ofNat n else Int.ofNat n then 100 else if Int.ofNat n < Int.ofNat n then Int.ofNat n else Int.ofNat n) = Int.ofNat n := by
    have e : ¬ Int.ofNat n < Int.ofNat n := by omega
    rw [if_neg e, if_neg (by simp only [Int.ofNat_eq_natCast]; omega)]
  rw [n0, n1, cond_false, cond_false, m]
  refine loopK_inv (fun t d => ∃ (i : Nat) (h l' : Int), i + t = n ∧ okW h l' ∧ vW h l' = sumF (fun j => sat (f j) * sat (g j)) i ∧ d = (Int.ofNat s, n, w, n, w', Int.ofNat n, Int.ofNat i, (hit || anyF (fun j => over (f j) || over (g j)) i), n, f, n, g, h, l')) ?_ 200 n _ (by omega)
    ⟨0, 0, 0, by omega, ⟨by omega, by omega, by omega, by omega⟩, rfl, by simp only [anyF, Bool.or_false]; rfl⟩
  rintro t _ c ⟨i, h, l', hi, ho, hv, rfl⟩ hc
  have bnd := sumF_le (fun j => sat (f j) * sat (g j)) 1329227995784915872903807060280344576 (by omega) i (fun j _ => sat_mul _ _)
  rcases Nat.eq_zero_or_pos t with t0 | t0
  · have e : i = n := by omega
    subst e
    simp only [S___fx_Acc__Dot_0, idx_ge (Nat.le_refl i), cond_false, acc_round h l' s _ hs ho, hv, Option.bind_some]
  · have hs1 := sat_le (f i)
    have hs2 := sat_le (g i)
    have hm := sat_mul (f i) (g i)
    obtain ⟨h1, l1, e1, o1, v1⟩ := wide_mul (sat (f i)) (sat (g i)) (by omega) (by omega) (by omega) (by omega)
    obtain ⟨h2, l2, e2, o2, v2⟩ := wide_Add2 (fun j : Nat => bif Nat.beq j 1 then h1 else bif Nat.beq j 0 then h else h) (fun j : Nat => bif Nat.beq j 1 then l1 else bif Nat.beq j 0 then l' else l') true
      ho o1 (by show _ ≤ vW h l' + vW h1 l1; rw [hv, v1]; omega) (by show vW h l' + vW h1 l1 < _; rw [hv, v1]; omega)
    have v2 : vW h2 l2 = vW h l' + vW h1 l1 := v2
    rw [hv, v1] at v2
    have q : Int.toNat (Int.ofNat i) = i := rfl
    simp only [S___fx_Acc__Dot_0, idx_lt hi t0, idx_in (show i < n by omega), cond_true, q, acc_sat, Option.bind_some, e1, e2, idx_up (show i < 9000000000000000000 by omega)]
    refine hc (t - 1) _ (by omega) ⟨i + 1, h2, l2, by omega, o2, v2, ?_⟩
    simp only [anyF, Bool.or_assoc]
theorem rnd_one (x : Int) : rnd (x * 1073741824) 30 = x := by
  unfold rnd half
  rw [if_neg (by omega : ¬ (30 : Nat) = 0), show (2 : Int) ^ (30 - 1) = 536870912 from rfl, show (2 : Int) ^ 30 = 1073741824 from rfl]
  split <;> omega
theorem sat_id {x : Int} (h : -1152921504606846976 ≤ x ∧ x ≤ 1152921504606846976) : sat x = x ∧ over x = false := by
  unfold sat over
  have h1 : ¬ x < -1152921504606846976 := by omega
  have h2 : ¬ 1152921504606846976 < x := by omega
  simp [h1, h2]
end Go.Proofs.Ytmlmpcabphgfaaa
