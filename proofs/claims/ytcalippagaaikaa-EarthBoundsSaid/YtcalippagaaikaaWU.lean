/-
  Sums of clamped scalars in plain arithmetic.
-/
import Derived.Test.YtcalippagaaikaaWT
set_option maxRecDepth 100000
set_option maxHeartbeats 4000000
set_option linter.unusedVariables false
set_option linter.unusedSimpArgs false
namespace Go.Proofs.Ytcalippagaaikaa
open Go.Ab
theorem wide_Add2 (f g : Nat → Int) (w : Bool) (o1 : okW (f 0) (g 0)) (o2 : okW (f 1) (g 1)) (r0 : -170141183460469231731687303715884105728 ≤ vW (f 0) (g 0) + vW (f 1) (g 1)) (r1 : vW (f 0) (g 0) + vW (f 1) (g 1) < 170141183460469231731687303715884105728) :
    ∃ h l, f_wide_Add 2 f g w = some (h, l, true) ∧ okW h l ∧ vW h l = vW (f 0) (g 0) + vW (f 1) (g 1) := by
  unfold f_wide_Add K_wide_Add L_wide_Add_0
  obtain ⟨h1, l1, b1, e1, a1, c1, d1⟩ := wide_add 0 0 (f 0) (g 0) ⟨by omega, by omega, by omega, by omega⟩ o1
  have t1 : b1 = true := by
    rw [c1]
    obtain ⟨p1, p2, p3, p4⟩ := o1
    simp only [vW]; omega
  subst t1
  have d1 := d1 rfl
  obtain ⟨h2, l2, b2, e2, a2, c2, d2⟩ := wide_add h1 l1 (f 1) (g 1) a1 o2
  have z : vW 0 0 = 0 := rfl
  have t2 : b2 = true := by rw [c2, d1, z]; omega
  subst t2
  have d2 := d2 rfl
  refine ⟨h2, l2, ?_, a2, by rw [d2, d1, z]; omega⟩
  have k0 : decide ((0 : Int) < Int.ofNat 2) = true := by decide
  have k1 : inR 0 2 = true := by decide
  have k2 : IntKind.wrap .i64 (0 + 1) = 1 := by decide
  have k3 : decide ((1 : Int) < Int.ofNat 2) = true := by decide
  have k4 : inR 1 2 = true := by decide
  have k5 : IntKind.wrap .i64 (1 + 1) = 2 := by decide
  have k6 : decide ((2 : Int) < Int.ofNat 2) = false := by decide
  have k7 : Int.toNat 0 = 0 := rfl
  have k8 : Int.toNat 1 = 1 := rfl
  rw [loopK_succ]
  simp only [S_wide_Add_0, k0, k1, k2, k7, cond_true, e1, Option.bind_some, Bool.not_true, cond_false]
  rw [loopK_succ]
  simp only [k3, k4, k5, k8, cond_true, e2, Option.bind_some, Bool.not_true, cond_false]
  rw [loopK_succ]
  simp only [k6, cond_false, Sum.elim_inr]
def sumF (f : Nat → Int) : Nat → Int
  | 0 => 0
  | n + 1 => sumF f n + f n
def anyF (f : Nat → Bool) : Nat → Bool
  | 0 => false
  | n + 1 => anyF f n || f n
theorem sumF_le (f : Nat → Int) (B : Int) (hB : 0 ≤ B) (n : Nat) (h : ∀ j, j < n → -B ≤ f j ∧ f j ≤ B) : -(n * B) ≤ sumF f n ∧ sumF f n ≤ n * B := by
  induction n with
  | zero => simp [sumF]
  | succ n ih =>
    have := ih fun j hj => h j (by omega)
    have h2 := h n (by omega)
    have e : ((n + 1 : Nat) : Int) * B = n * B + B := by rw [Int.natCast_add, Int.add_mul]; simp
    rw [e, sumF]
    omega
theorem rnd_zero (v : Int) : rnd v 0 = v := by
  unfold rnd half
  simp only [if_true, Int.add_zero]
  have : (2 : Int) ^ 0 = 1 := rfl
  rw [this, Int.ediv_one, Int.ediv_one]
  split <;> omega
theorem idx_lt {i n t : Nat} (h : i + t = n) (ht : 0 < t) : decide (Int.ofNat i < Int.ofNat n) = true := by simp only [Int.ofNat_eq_natCast]; exact decide_eq_true (by omega)
theorem idx_ge {i n : Nat} (h : n ≤ i) : decide (Int.ofNat i < Int.ofNat n) = false := by simp only [Int.ofNat_eq_natCast]; exact decide_eq_false (by omega)
theorem idx_in {i n : Nat} (h : i < n) : inR (Int.ofNat i) n = true := by unfold inR; simp only [Int.ofNat_eq_natCast, Bool.and_eq_true, decide_eq_true_eq]; omega
theorem idx_up {i : Nat} (h : i < 9000000000000000000) : IntKind.wrap .i64 (Int.ofNat i + 1) = Int.ofNat (i + 1) := (wrap_i64 (by simp only [Int.ofNat_eq_natCast]; omega) (by simp only [Int.ofNat_eq_natCast]; omega)).trans rfl
theorem acc_add (n : Nat) (hn : n ≤ 150) (hit : Bool) (l : Nat → Int) (w : Bool) :
    f___fx_Acc__Add n hit l w = some (sat (sumF (fun j => sat (l j)) n), (hit || anyF (fun j => over (l j)) n) || over (sumF (fun j => sat (l j)) n)) := by
  unfold f___fx_Acc__Add K___fx_Acc__Add L___fx_Acc__Add_0
  refine loopK_inv (fun t d => ∃ (i : Nat) (h l' : Int), i + t = n ∧ okW h l' ∧ vW h l' = sumF (fun j => sat (l j)) i ∧ d = (n, w, Int.ofNat n, Int.ofNat i, (hit || anyF (fun j => over (l j)) i), n, l, h, l')) ?_ 200 n _ (by omega)
    ⟨0, 0, 0, by omega, ⟨by omega, by omega, by omega, by omega⟩, rfl, by simp only [anyF, Bool.or_false]; rfl⟩
  rintro t _ c ⟨i, h, l', hi, ho, hv, rfl⟩ hc
  have bnd := sumF_le (fun j => sat (l j)) 1152921504606846976 (by omega) i (fun j _ => sat_le _)
  rcases Nat.eq_zero_or_pos t with t0 | t0
  · have e : i = n := by omega
    subst e
    have r := acc_round h l' 0
    have r2 := wide_round h l' 0 (by omega) ho
    rw [rnd_zero] at r2
    have r3 : Int.ofNat 0 = 0 := rfl
    rw [r3] at r2
    simp only [S___fx_Acc__Add_0, idx_ge (Nat.le_refl i), cond_false, r2]
    by_cases k : -9223372036854775808 ≤ vW h l' ∧ vW h l' ≤ 9223372036854775807
    · rw [if_pos k]
      simp only [if_true, Option.bind_some, acc_end, hv]
    · rw [if_neg k]
      simp only [Option.bind_some, acc_end, Bool.false_eq_true, if_false]
      rw [← hv]
      unfold sat over
      by_cases ng : h < 0
      · have c1 : vW h l' < -1152921504606846976 := by
          obtain ⟨o1, o2, o3, o4⟩ := ho
          simp only [vW] at *; omega
        simp [ng, c1]
      · have c1 : ¬ vW h l' < -1152921504606846976 := by
          obtain ⟨o1, o2, o3, o4⟩ := ho
          simp only [vW] at *; omega
        have c2 : 1152921504606846976 < vW h l' := by
          obtain ⟨o1, o2, o3, o4⟩ := ho
          simp only [vW] at *; omega
        simp [ng, c1, c2]
  · have hs := sat_le (l i)
    obtain ⟨h1, l1, e1, o1, v1⟩ := wide_of (sat (l i)) (by omega) (by omega)
    obtain ⟨h2, l2, e2, o2, v2⟩ := wide_Add2 (fun j : Nat => bif Nat.beq j 1 then h1 else bif Nat.beq j 0 then h else h) (fun j : Nat => bif Nat.beq j 1 then l1 else bif Nat.beq j 0 then l' else l') true
      ho o1 (by show _ ≤ vW h l' + vW h1 l1; rw [hv, v1]; omega) (by show vW h l' + vW h1 l1 < _; rw [hv, v1]; omega)
    have v2 : vW h2 l2 = vW h l' + vW h1 l1 := v2
    rw [hv, v1] at v2
    have q : Int.toNat (Int.ofNat i) = i := rfl
    simp only [S___fx_Acc__Add_0, idx_lt hi t0, idx_in (show i < n by omega), cond_true, q, acc_sat, Option.bind_some, e1, e2, idx_up (show i < 9000000000000000000 by omega)]
    refine hc (t - 1) _ (by omega) ⟨i + 1, h2, l2, by omega, o2, v2, ?_⟩
    simp only [anyF, Bool.or_assoc]
end Go.Proofs.Ytcalippagaaikaa
