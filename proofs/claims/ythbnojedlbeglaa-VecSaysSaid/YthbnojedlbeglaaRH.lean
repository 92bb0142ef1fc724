/-
  The root of a sum of squares in plain arithmetic.
-/
import Derived.Test.YthbnojedlbeglaaREB
import Derived.Test.YthbnojedlbeglaaVMath
import Derived.Test.YthbnojedlbeglaaWV
set_option maxRecDepth 100000
set_option maxHeartbeats 4000000
set_option linter.unusedVariables false
set_option linter.unusedSimpArgs false
namespace Go.Proofs.Ythbnojedlbeglaa
open Go.Ab
theorem sumF_nn {f : Nat → Int} (n : Nat) (h : ∀ j, 0 ≤ f j) : 0 ≤ sumF f n := by
  induction n with
  | zero => exact Int.le_refl _
  | succ n ih => have := h n; rw [sumF]; omega
theorem root_hypot (n : Nat) (hn : n ≤ 64) (hit w : Bool) (l : Nat → Int) (r : Int) (hr : isR r (sumF (fun j => sat (l j) * sat (l j)) n)) :
    f_root_Hypot n hit l w = some (sat r, (hit || anyF (fun j => over (l j)) n) || over r) := by
  unfold f_root_Hypot K_root_Hypot L_root_Hypot_0
  have m : (if 64 < Int.ofNat n then 64 else Int.ofNat n) = Int.ofNat n := by rw [if_neg (by simp only [Int.ofNat_eq_natCast]; omega)]
  have hre : inRe (Int.ofNat n) n = true := by
    unfold inRe; simp only [Int.ofNat_eq_natCast, Bool.and_eq_true, decide_eq_true_eq]; omega
  have q0 : Int.toNat (Int.ofNat n) = n := rfl
  rw [m, hre, cond_true, q0]
  refine loopK_inv (fun t d => ∃ (i : Nat) (h l' : Int), i + t = n ∧ okW h l' ∧ vW h l' = sumF (fun j => sat (l j) * sat (l j)) i ∧ d = (n, w && false, Int.ofNat n, Int.ofNat i, (hit || anyF (fun j => over (l j)) i), n, l, h, l')) ?_ 200 n _ (by omega)
    ⟨0, 0, 0, by omega, ⟨by omega, by omega, by omega, by omega⟩, rfl, by simp only [anyF, Bool.or_false]; rfl⟩
  rintro t _ c ⟨i, h, l', hi, ho, hv, rfl⟩ hc
  have bnd := sumF_le (fun j => sat (l j) * sat (l j)) 1329227995784915872903807060280344576 (by omega) i (fun j _ => sat_mul _ _)
  rcases Nat.eq_zero_or_pos t with t0 | t0
  · have e : i = n := by omega
    subst e
    have nn := sumF_nn (f := fun j => sat (l j) * sat (l j)) i fun j => sq_nn _
    rw [← hv] at nn hr
    have h0 : 0 ≤ h := by
      obtain ⟨o1, o2, o3, o4⟩ := ho
      simp only [vW] at nn; omega
    simp only [S_root_Hypot_0, idx_ge (Nat.le_refl i), cond_false, root_end_eq h l' r _ ho h0 hr, Option.bind_some]
  · have hs := sat_le (l i)
    have hm := sat_mul (l i) (l i)
    obtain ⟨h1, l1, e1, o1, v1⟩ := wide_mul (sat (l i)) (sat (l i)) (by omega) (by omega) (by omega) (by omega)
    obtain ⟨h2, l2, e2, o2, v2⟩ := wide_Add2 (fun j : Nat => bif Nat.beq j 1 then h1 else bif Nat.beq j 0 then h else h) (fun j : Nat => bif Nat.beq j 1 then l1 else bif Nat.beq j 0 then l' else l') true
      ho o1 (by show _ ≤ vW h l' + vW h1 l1; rw [hv, v1]; omega) (by show vW h l' + vW h1 l1 < _; rw [hv, v1]; omega)
    have v2 : vW h2 l2 = vW h l' + vW h1 l1 := v2
    rw [hv, v1] at v2
    have q : Int.toNat (Int.ofNat i) = i := rfl
    simp only [S_root_Hypot_0, idx_lt hi t0, idx_in (show i < n by omega), cond_true, q, acc_sat, Option.bind_some, e1, e2, idx_up (show i < 9000000000000000000 by omega)]
    refine hc (t - 1) _ (by omega) ⟨i + 1, h2, l2, by omega, o2, v2, ?_⟩
    simp only [anyF, Bool.or_assoc]
/-- of three numbers -/
theorem norm3 (a b c : Int) (hit : Bool) (r : Int) (hr : isR r (sat a * sat a + sat b * sat b + sat c * sat c)) :
    f_vec_Norm a b c hit = some (sat r, (hit || ((over a || over b) || over c)) || over r) := by
  unfold f_vec_Norm K_vec_Norm
  have e := root_hypot 3 (by omega) hit false (fun j => bif Nat.beq j 2 then c else bif Nat.beq j 1 then b else bif Nat.beq j 0 then a else a) r (by
    show isR r (0 + sat a * sat a + sat b * sat b + sat c * sat c)
    rw [Int.zero_add]; exact hr)
  have v : anyF (fun j => over ((fun j => bif Nat.beq j 2 then c else bif Nat.beq j 1 then b else bif Nat.beq j 0 then a else a) j)) 3 = ((over a || over b) || over c) := by
    show (((false || over a) || over b) || over c) = _
    rw [Bool.false_or]
  rw [v] at e
  exact (congrArg (fun o => Option.bind o fun d => some (d.1, d.2)) e)
end Go.Proofs.Ythbnojedlbeglaa
