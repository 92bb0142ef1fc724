/-
  The second reckoner's product by a divisor: what the first one's is.
-/
import Derived.Test.YtdpenjncfmkbgaaDV
import Derived.Test.YtdpenjncfmkbgaaDR
set_option maxRecDepth 100000
set_option maxHeartbeats 4000000
set_option linter.unusedVariables false
set_option linter.unusedSimpArgs false
namespace Go.Proofs.Ytdpenjncfmkbgaa
open Go.Ab
theorem ref_divided (h l : Int) (n : Bool) (D : Int) (o : okR h l) (b : h * 18446744073709551616 + l < 170141183460469231731687303715884105728) (d0 : 0 < D) (d1 : D < 9223372036854775808) :
    ∃ h' l', f_astrolaberef2_divided h l n D = some (h', l', n) ∧ okR h' l' ∧ h' * 18446744073709551616 + l' = qdq (h * 18446744073709551616 + l) D := by
  obtain ⟨a1, a2, a3, a4⟩ := o
  obtain ⟨H, rfl⟩ : ∃ H : Nat, h = (H : Int) := ⟨h.toNat, by omega⟩
  obtain ⟨L, rfl⟩ : ∃ L : Nat, l = (L : Int) := ⟨l.toNat, by omega⟩
  obtain ⟨E, rfl⟩ : ∃ E : Nat, D = (E : Int) := ⟨D.toNat, by omega⟩
  have hE : 0 < E := by omega
  have hA : ((H * 2 ^ 64 + L : Nat) : Int) = (H : Int) * 18446744073709551616 + L := by omega
  have hq : qdq ((H : Int) * 18446744073709551616 + L) E = (((H * 2 ^ 64 + L) / E : Nat) : Int) + (if 2 * (((H * 2 ^ 64 + L) % E : Nat) : Int) < (E : Int) then 0 else 1) := by
    unfold qdq
    rw [← hA, Int.natCast_ediv, Int.natCast_emod]
  rw [hq]
  unfold f_astrolaberef2_divided K_astrolaberef2_divided
  rw [ref_divided_loop H L E n (by omega) (by omega) hE (by omega)]
  have hQ : (H * 2 ^ 64 + L) / E ≤ H * 2 ^ 64 + L := Nat.div_le_self _ _
  have hR : (H * 2 ^ 64 + L) % E < E := Nat.mod_lt _ hE
  generalize (H * 2 ^ 64 + L) / E = Q at *
  generalize (H * 2 ^ 64 + L) % E = R at *
  have hw : IntKind.wrap .u64 ((E : Int) - (R : Int)) = (E : Int) - R := by rw [wrap_u64]; omega
  simp only [hw]
  by_cases hc : 2 * (R : Int) < (E : Int)
  · rw [if_pos hc, decide_eq_false (show ¬ (R : Int) ≥ (E : Int) - R by omega), cond_false]
    exact ⟨_, _, rfl, ⟨by omega, by omega, by omega, by omega⟩, by omega⟩
  · rw [if_neg hc, decide_eq_true (show (R : Int) ≥ (E : Int) - R by omega), cond_true]
    obtain ⟨h', l', e1, o1, e2⟩ := ref_plus ((Q / 2 ^ 64 : Nat) : Int) ((Q % 2 ^ 64 : Nat) : Int) 0 1 n ⟨by omega, by omega, by omega, by omega⟩ ⟨by omega, by omega, by omega, by omega⟩ (by omega)
    rw [e1]
    exact ⟨h', l', rfl, o1, by rw [e2]; omega⟩
theorem ref_muldiv (a b d : Int) (hit : Bool) (hd : 0 < sat d) :
    f___astrolaberef2_Acc__MulDiv a b d hit = some (sat (rdq (sat a * sat b) (sat d)), ((((hit || over a) || over b) || over d) || over (rdq (sat a * sat b) (sat d)))) := by
  unfold f___astrolaberef2_Acc__MulDiv K___astrolaberef2_Acc__MulDiv
  have sa := sat_le a
  have sb := sat_le b
  have sd := sat_le d
  obtain ⟨h, l, n, e1, o1, e2, e3⟩ := ref_mul (sat a) (sat b) sa sb
  have hz : (sat d == 0) = false := by rw [beq_eq_false_iff_ne]; omega
  have hneg : decide (sat d < 0) = false := decide_eq_false (by omega)
  have hn : (!n == false) = n := by cases n <;> rfl
  obtain ⟨h', l', e4, o4, e5⟩ := ref_divided h l n (sat d) o1 (by omega) hd (by omega)
  simp only [ref_sat, Option.bind_some, e1, hz, cond_false, ref_size (sat d) sd.1 sd.2, if_neg (show ¬ sat d < 0 by omega), hneg, hn, e4, ref_end h' l' n _ o4]
  have hv : rV h' l' n = rdq (sat a * sat b) (sat d) := by
    rw [← e2]
    have hV : 0 ≤ h * 18446744073709551616 + l := by
      obtain ⟨p1, p2, p3, p4⟩ := o1
      omega
    unfold rV rdq mgq
    rw [hneg, if_neg (show ¬ sat d < 0 by omega), e5]
    generalize h * 18446744073709551616 + l = V at *
    cases n
    · simp only [Bool.false_eq_true, if_false]
      rw [decide_eq_false (show ¬ V < 0 by omega), if_pos rfl, if_neg (show ¬ V < 0 by omega)]
    · simp only [if_true]
      by_cases hV0 : V = 0
      · subst hV0
        rw [show (-(0 : Int)) = 0 from rfl, decide_eq_false (show ¬ (0 : Int) < 0 by omega), if_pos rfl, if_neg (show ¬ (0 : Int) < 0 by omega)]
        unfold qdq
        rw [Int.zero_ediv, Int.zero_emod, if_pos (by omega)]
        rfl
      · rw [decide_eq_true (show -V < 0 by omega), if_neg (by decide), if_pos (show -V < 0 by omega), Int.neg_neg]
  rw [hv]
/-- one and the same -/
theorem muldiv_same (a b d : Int) (hit : Bool) (hd : 0 < sat d) : f___astrolaberef2_Acc__MulDiv a b d hit = f___fx_Acc__MulDiv a b d hit := by
  rw [ref_muldiv a b d hit hd, acc_muldiv a b d hit (by omega)]
end Go.Proofs.Ytdpenjncfmkbgaa
