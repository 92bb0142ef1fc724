/-
  What the document's own Put does to a row of samples.
-/
import Derived.Test.YthbnojedlbeglaaRG2
import Derived.Test.YthbnojedlbeglaaRP
set_option maxRecDepth 100000
set_option maxHeartbeats 4000000
set_option linter.unusedVariables false
set_option linter.unusedSimpArgs false
namespace Go.Proofs.Ythbnojedlbeglaa
open Go.Ab
theorem less_eq (a0 a1 a2 a3 a4 a5 a6 a7 a8 b0 b1 b2 b3 b4 b5 b6 b7 b8 : Int) : f_astrolaberef13_Less a0 a1 a2 a3 a4 a5 a6 a7 a8 b0 b1 b2 b3 b4 b5 b6 b7 b8 = some (lt (a0, a1, a2, a3, a4, a5, a6, a7, a8) (b0, b1, b2, b3, b4, b5, b6, b7, b8)) := by
  unfold f_astrolaberef13_Less K_astrolaberef13_Less lt ltP
  simp only
  cases a0 != b0 <;> try rfl
  cases a1 != b1 <;> try rfl
  cases a2 != b2 <;> try rfl
  cases a3 != b3 <;> try rfl
  cases a4 != b4 <;> try rfl
  cases a5 != b5 <;> try rfl
  cases a6 != b6 <;> try rfl
  cases a7 != b7 <;> try rfl
  cases e : a8 != b8
  · have : a8 = b8 := by simpa using e
    subst this
    simp [ltI]
  · rfl
theorem ins_perm (s : Smp) : ∀ l, (ins s l).Perm (s :: l)
  | [] => List.Perm.refl _
  | a :: l => by
    unfold ins
    cases lt a s
    · exact List.Perm.refl _
    · exact ((ins_perm s l).cons a).trans (List.Perm.swap s a l)
/-- behind those that are the same, or ahead of them: one list -/
theorem ins_behind (s : Smp) (l : List Smp) (hl : Srt l) (k : Nat) (hk : k ≤ l.length) (h1 : ∀ j x, j < k → l[j]? = some x → lt s x = false) (h2 : ∀ x, l[k]? = some x → lt s x = true) : l.take k ++ s :: l.drop k = ins s l := by
  refine List.Perm.eq_of_pairwise (le := fun a b => lt b a = false) (fun a b _ _ q1 q2 => lt_tri q2 q1) ?_ (ins_srt s l hl) ((List.perm_middle).trans ?_)
  · refine List.pairwise_append.2 ⟨hl.sublist (List.take_sublist _ _), List.pairwise_cons.2 ⟨fun b hb => ?_, hl.sublist (List.drop_sublist _ _)⟩, fun a ha b hb => ?_⟩
    · obtain ⟨j, hj⟩ := List.mem_iff_getElem?.1 hb
      rw [List.getElem?_drop] at hj
      have hlt := (List.getElem?_eq_some_iff.1 hj).1
      have hkk : l[k]? = some (l[k]'(by omega)) := List.getElem?_eq_getElem _
      have q := h2 _ hkk
      have hle : lt b (l[k]'(by omega)) = false := by
        rcases Nat.eq_zero_or_pos j with h0 | h0
        · subst h0
          rw [Nat.add_zero, hkk] at hj
          cases hj; exact lt_irr _
        · have := List.pairwise_iff_getElem.1 hl k (k + j) (by omega) hlt (by omega)
          rw [(List.getElem?_eq_some_iff.1 hj).2] at this
          exact this
      cases hb2 : lt b s
      · rfl
      · have := lt_trans hb2 q
        rw [hle] at this; cases this
    · obtain ⟨i, hi⟩ := List.mem_iff_getElem?.1 ha
      rw [List.getElem?_take] at hi
      split at hi
      · rename_i hik
        rcases List.mem_cons.1 hb with rfl | hb
        · exact h1 i a hik hi
        · obtain ⟨j, hj⟩ := List.mem_iff_getElem?.1 hb
          rw [List.getElem?_drop] at hj
          have q1 := List.getElem?_eq_some_iff.1 hi
          have q2 := List.getElem?_eq_some_iff.1 hj
          have := List.pairwise_iff_getElem.1 hl i (k + j) q1.1 q2.1 (by omega)
          rw [q1.2, q2.2] at this
          exact this
      · cases hi
  · rw [List.take_append_drop]; exact (ins_perm s l).symm
theorem refput_late (s0 s1 s2 s3 s4 s5 s6 s7 s8 size : Int) (n : Nat) (hor N0 N1 N2 N3 N4 : Int) (g0 g1 g2 g3 g4 g5 g6 g7 g8 : Nat → Int) (w : Bool) (h : s0 ≤ hor) : f_astrolaberef13_Put s0 s1 s2 s3 s4 s5 s6 s7 s8 size n hor N0 N1 N2 N3 N4 g0 g1 g2 g3 g4 g5 g6 g7 g8 w = some (.inl (size, n, w, hor, IntKind.wrap .i64 (N0 + 1), IntKind.wrap .i64 (N1 + 1), N2, N3, N4)) := by
  unfold f_astrolaberef13_Put K_astrolaberef13_Put
  rw [decide_eq_true h, cond_true]
theorem refput_in (s0 s1 s2 s3 s4 s5 s6 s7 s8 size : Int) (n : Nat) (hor N0 N1 N2 N3 N4 : Int) (g0 g1 g2 g3 g4 g5 g6 g7 g8 : Nat → Int) (h : hor < s0) (hn : n ≤ 150) (hs : Srt (tab n (row g0 g1 g2 g3 g4 g5 g6 g7 g8))) :
    ∃ r0 r1 r2 r3 r4 r5 r6 r7 r8, tab (n + 1) (row r0 r1 r2 r3 r4 r5 r6 r7 r8) = ins (s0, s1, s2, s3, s4, s5, s6, s7, s8) (tab n (row g0 g1 g2 g3 g4 g5 g6 g7 g8)) ∧ f_astrolaberef13_Put s0 s1 s2 s3 s4 s5 s6 s7 s8 size n hor N0 N1 N2 N3 N4 g0 g1 g2 g3 g4 g5 g6 g7 g8 true = some (if ((n + 1 : Nat) : Int) > size then (.inr (.inl (!decide (row r0 r1 r2 r3 r4 r5 r6 r7 r8 0 = (s0, s1, s2, s3, s4, s5, s6, s7, s8)), size, n, hor, IntKind.wrap .i64 (N0 + 1), N1, IntKind.wrap .i64 (N2 + 1), N3, N4, n + 1, r0, r1, r2, r3, r4, r5, r6, r7, r8))) else (.inr (.inr (size, n + 1, hor, IntKind.wrap .i64 (N0 + 1), N1, N2, N3, N4, r0, r1, r2, r3, r4, r5, r6, r7, r8)))) := by
  obtain ⟨k, hk, h1, h2⟩ := first_of (fun j => lt (s0, s1, s2, s3, s4, s5, s6, s7, s8) (row g0 g1 g2 g3 g4 g5 g6 g7 g8 j) = false) n
  refine ⟨(fun (j : Nat) => bif Nat.blt j (0 + k + 1) then bif Nat.beq j (0 + k) then s0 else g0 j else g0 (k + (j - (0 + k + 1)))), (fun (j : Nat) => bif Nat.blt j (0 + k + 1) then bif Nat.beq j (0 + k) then s1 else g1 j else g1 (k + (j - (0 + k + 1)))), (fun (j : Nat) => bif Nat.blt j (0 + k + 1) then bif Nat.beq j (0 + k) then s2 else g2 j else g2 (k + (j - (0 + k + 1)))), (fun (j : Nat) => bif Nat.blt j (0 + k + 1) then bif Nat.beq j (0 + k) then s3 else g3 j else g3 (k + (j - (0 + k + 1)))), (fun (j : Nat) => bif Nat.blt j (0 + k + 1) then bif Nat.beq j (0 + k) then s4 else g4 j else g4 (k + (j - (0 + k + 1)))), (fun (j : Nat) => bif Nat.blt j (0 + k + 1) then bif Nat.beq j (0 + k) then s5 else g5 j else g5 (k + (j - (0 + k + 1)))), (fun (j : Nat) => bif Nat.blt j (0 + k + 1) then bif Nat.beq j (0 + k) then s6 else g6 j else g6 (k + (j - (0 + k + 1)))), (fun (j : Nat) => bif Nat.blt j (0 + k + 1) then bif Nat.beq j (0 + k) then s7 else g7 j else g7 (k + (j - (0 + k + 1)))), (fun (j : Nat) => bif Nat.blt j (0 + k + 1) then bif Nat.beq j (0 + k) then s8 else g8 j else g8 (k + (j - (0 + k + 1)))), ?_, ?_⟩
  · rw [tab_ins n k hk (row g0 g1 g2 g3 g4 g5 g6 g7 g8) _ (s0, s1, s2, s3, s4, s5, s6, s7, s8) (fun j => ?_)]
    · refine ins_behind _ _ hs k (by rw [tab_length]; exact hk) (fun j x hj hx => ?_) (fun x hx => ?_)
      · rw [tab_get _ (by omega)] at hx
        cases hx; exact h1 j hj
      · rw [tab_get?] at hx
        split at hx
        · cases hx
          have := h2 ‹_›
          simpa using this
        · cases hx
    · simp only [row, Nat.zero_add]
      by_cases q1 : j < k
      · rw [show Nat.blt j (k + 1) = true from blt_iff.2 (by omega), show Nat.blt j k = true from blt_iff.2 q1, show Nat.beq j k = false from beq_false (by omega)]
        simp only [cond_true, cond_false]
      · by_cases q2 : j = k
        · subst q2
          rw [show Nat.blt j (j + 1) = true from blt_iff.2 (by omega), show Nat.blt j j = false from blt_false (by omega), show Nat.beq j j = true from Nat.beq_refl j]
          simp only [cond_true, cond_false]
        · rw [show Nat.blt j (k + 1) = false from blt_false (by omega), show Nat.blt j k = false from blt_false (by omega), show Nat.beq j k = false from beq_false (by omega), show k + (j - (k + 1)) = j - 1 by omega]
          simp only [cond_false]
  have hrow : row (fun (j : Nat) => bif Nat.blt j (0 + k + 1) then bif Nat.beq j (0 + k) then s0 else g0 j else g0 (k + (j - (0 + k + 1)))) (fun (j : Nat) => bif Nat.blt j (0 + k + 1) then bif Nat.beq j (0 + k) then s1 else g1 j else g1 (k + (j - (0 + k + 1)))) (fun (j : Nat) => bif Nat.blt j (0 + k + 1) then bif Nat.beq j (0 + k) then s2 else g2 j else g2 (k + (j - (0 + k + 1)))) (fun (j : Nat) => bif Nat.blt j (0 + k + 1) then bif Nat.beq j (0 + k) then s3 else g3 j else g3 (k + (j - (0 + k + 1)))) (fun (j : Nat) => bif Nat.blt j (0 + k + 1) then bif Nat.beq j (0 + k) then s4 else g4 j else g4 (k + (j - (0 + k + 1)))) (fun (j : Nat) => bif Nat.blt j (0 + k + 1) then bif Nat.beq j (0 + k) then s5 else g5 j else g5 (k + (j - (0 + k + 1)))) (fun (j : Nat) => bif Nat.blt j (0 + k + 1) then bif Nat.beq j (0 + k) then s6 else g6 j else g6 (k + (j - (0 + k + 1)))) (fun (j : Nat) => bif Nat.blt j (0 + k + 1) then bif Nat.beq j (0 + k) then s7 else g7 j else g7 (k + (j - (0 + k + 1)))) (fun (j : Nat) => bif Nat.blt j (0 + k + 1) then bif Nat.beq j (0 + k) then s8 else g8 j else g8 (k + (j - (0 + k + 1)))) 0 = ((bif Nat.beq 0 (0 + k) then s0 else g0 0), (bif Nat.beq 0 (0 + k) then s1 else g1 0), (bif Nat.beq 0 (0 + k) then s2 else g2 0), (bif Nat.beq 0 (0 + k) then s3 else g3 0), (bif Nat.beq 0 (0 + k) then s4 else g4 0), (bif Nat.beq 0 (0 + k) then s5 else g5 0), (bif Nat.beq 0 (0 + k) then s6 else g6 0), (bif Nat.beq 0 (0 + k) then s7 else g7 0), (bif Nat.beq 0 (0 + k) then s8 else g8 0)) := by
    simp only [row, show Nat.blt 0 (0 + k + 1) = true from blt_iff.2 (by omega), cond_true]
  rw [hrow]
  unfold f_astrolaberef13_Put K_astrolaberef13_Put L_astrolaberef13_Put_0
  rw [decide_eq_false (show ¬ s0 ≤ hor by omega), cond_false]
  refine loopK_inv (fun t d => ∃ i : Nat, i + t = k ∧ d = (Int.ofNat i, size, n, true, hor, IntKind.wrap .i64 (N0 + 1), N1, N2, N3, N4, n, g0, g1, g2, g3, g4, g5, g6, g7, g8, s0, s1, s2, s3, s4, s5, s6, s7, s8)) ?_ 200 k _ (by omega) ⟨0, by omega, rfl⟩
  rintro t _ c ⟨i, hi, rfl⟩ hc
  unfold S_astrolaberef13_Put_0
  have e3 : Int.toNat (Int.ofNat i) = i := by simp
  rcases Nat.eq_zero_or_pos t with ht | ht
  · obtain rfl : i = k := by omega
    have e1 : inRe (Int.ofNat i) n = true := by unfold inRe; simp only [Int.ofNat_eq_natCast, Bool.and_eq_true, decide_eq_true_eq]; omega
    have b1 : Nat.ble ((0 + i) * 72) 140737488355328 = true := Nat.ble_eq_true_of_le (by omega)
    have b2 : Nat.ble ((0 + i + 1) * 72) 140737488355328 = true := Nat.ble_eq_true_of_le (by omega)
    have es : 0 + i + 1 + (n - i) = n + 1 := by omega
    have b3 : Nat.ble ((n + 1) * 72) 140737488355328 = true := Nat.ble_eq_true_of_le (by omega)
    have e4 : inR 0 (n + 1) = true := by unfold inR; simp only [Bool.and_eq_true, decide_eq_true_eq]; omega
    have e5 : inRe 1 (n + 1) = true := by unfold inRe; simp only [Bool.and_eq_true, decide_eq_true_eq]; omega
    have es2 : n + 1 - 1 = n := by omega
    by_cases hin : i < n
    · have e6 : decide (Int.ofNat i < Int.ofNat n) = true := by simp only [Int.ofNat_eq_natCast]; exact decide_eq_true (by omega)
      have e7 : inR (Int.ofNat i) n = true := by unfold inR; simp only [Int.ofNat_eq_natCast, Bool.and_eq_true, decide_eq_true_eq]; omega
      have e8 : lt (s0, s1, s2, s3, s4, s5, s6, s7, s8) (g0 i, g1 i, g2 i, g3 i, g4 i, g5 i, g6 i, g7 i, g8 i) = true := by
        have := h2 hin
        simpa [row] using this
      simp only [e6, e7, e3, less_eq, e8, Option.bind_some, Bool.not_true, cond_true, cond_false, Sum.elim_inl, e1, b1, b2, es, b3, e4, e5, es2, eq9]
      by_cases hz : ((n + 1 : Nat) : Int) > size
      · rw [if_pos hz, decide_eq_true (show Int.ofNat (n + 1) > size from hz), cond_true]
      · rw [if_neg hz, decide_eq_false (show ¬ Int.ofNat (n + 1) > size from hz), cond_false]
    · have e6 : decide (Int.ofNat i < Int.ofNat n) = false := by simp only [Int.ofNat_eq_natCast]; exact decide_eq_false (by omega)
      simp only [e6, e3, Option.bind_some, cond_true, cond_false, Sum.elim_inr, e1, b1, b2, es, b3, e4, e5, es2, eq9]
      by_cases hz : ((n + 1 : Nat) : Int) > size
      · rw [if_pos hz, decide_eq_true (show Int.ofNat (n + 1) > size from hz), cond_true]
      · rw [if_neg hz, decide_eq_false (show ¬ Int.ofNat (n + 1) > size from hz), cond_false]
  · have e6 : decide (Int.ofNat i < Int.ofNat n) = true := by simp only [Int.ofNat_eq_natCast]; exact decide_eq_true (by omega)
    have e7 : inR (Int.ofNat i) n = true := by unfold inR; simp only [Int.ofNat_eq_natCast, Bool.and_eq_true, decide_eq_true_eq]; omega
    have e8 : lt (s0, s1, s2, s3, s4, s5, s6, s7, s8) (g0 i, g1 i, g2 i, g3 i, g4 i, g5 i, g6 i, g7 i, g8 i) = false := h1 i (by omega)
    have e9 : IntKind.wrap IntKind.i64 (Int.ofNat i + 1) = Int.ofNat (i + 1) := (wrap_i64 (by simp only [Int.ofNat_eq_natCast]; omega) (by simp only [Int.ofNat_eq_natCast]; omega)).trans rfl
    simp only [e6, e7, e3, less_eq, e8, e9, Option.bind_some, Bool.not_false, cond_true]
    exact hc (t - 1) _ (by omega) ⟨i + 1, by omega, rfl⟩
/-- one that is given up, ahead -/
theorem ins_drop (s : Smp) : ∀ (d : Nat) (l : List Smp), Srt l → (ins s (l.drop d)).tail = (ins s l).drop (d + 1)
  | 0, l, _ => by rw [List.drop_zero, List.drop_one]
  | d + 1, [], _ => by simp [ins]
  | d + 1, a :: l, h => by
    have h := List.pairwise_cons.1 h
    rw [List.drop_succ_cons, ins_drop s d l h.2]
    cases e : lt a s
    · have e2 : ins s l = s :: l := by
        cases l with
        | nil => rfl
        | cons b l =>
          have hb := le_trans' e (h.1 b (List.mem_cons_self ..))
          simp [ins, hb]
      rw [e2]
      simp [ins, e]
    · simp [ins, e]
end Go.Proofs.Ythbnojedlbeglaa
