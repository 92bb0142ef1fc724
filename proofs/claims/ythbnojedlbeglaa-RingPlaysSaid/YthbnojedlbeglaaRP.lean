/-
  What Put and Pop do to a row of samples.
-/
import Derived.Test.YthbnojedlbeglaaRA
set_option maxRecDepth 100000
set_option maxHeartbeats 4000000
set_option linter.unusedVariables false
set_option linter.unusedSimpArgs false
namespace Go.Proofs.Ythbnojedlbeglaa
open Go.Ab
theorem insert_eq (n p : Nat) (hp : p ≤ n) (hn : n ≤ 1000) (g0 g1 g2 g3 g4 g5 g6 g7 g8 v0 v1 v2 v3 v4 v5 v6 v7 v8 : Nat → Int) : f_slices_Insert___api_Sample_api_Sample_ n (Int.ofNat p) g0 g1 g2 g3 g4 g5 g6 g7 g8 v0 v1 v2 v3 v4 v5 v6 v7 v8 true true = some (n + 1, insC p g0 v0, insC p g1 v1, insC p g2 v2, insC p g3 v3, insC p g4 v4, insC p g5 v5, insC p g6 v6, insC p g7 v7, insC p g8 v8) := by
  unfold f_slices_Insert___api_Sample_api_Sample_
  have e1 : decide (0 ≤ Int.ofNat p) = true := decide_eq_true (by simp)
  have e2 : Int.toNat (Int.ofNat p) = p := by simp
  have e3 : Nat.ble p n = true := Nat.ble_eq_true_of_le hp
  have e4 : Nat.ble ((n + 1) * 72) 140737488355328 = true := Nat.ble_eq_true_of_le (by omega)
  rw [e1, e2, e3, e4]
  rfl
theorem delete_eq (n k : Nat) (hk : k ≤ n) (g0 g1 g2 g3 g4 g5 g6 g7 g8 : Nat → Int) : f_slices_Delete___api_Sample_api_Sample_ n 0 (Int.ofNat k) g0 g1 g2 g3 g4 g5 g6 g7 g8 true = some (0 + (n - k), delC 0 (k - 0) g0, delC 0 (k - 0) g1, delC 0 (k - 0) g2, delC 0 (k - 0) g3, delC 0 (k - 0) g4, delC 0 (k - 0) g5, delC 0 (k - 0) g6, delC 0 (k - 0) g7, delC 0 (k - 0) g8) := by
  unfold f_slices_Delete___api_Sample_api_Sample_
  have e1 : decide (0 ≤ Int.ofNat k) = true := decide_eq_true (by simp)
  have e2 : Int.toNat (Int.ofNat k) = k := by simp
  have e3 : Nat.ble k n = true := Nat.ble_eq_true_of_le hk
  have e5 : Nat.ble (Int.toNat 0) k = true := Nat.ble_eq_true_of_le (by simp)
  rw [e1, e2, e3, e5]
  rfl
theorem clone_eq (n : Nat) (hn : n ≤ 1000) (g0 g1 g2 g3 g4 g5 g6 g7 g8 : Nat → Int) (w : Bool) : f_slices_Clone___api_Sample_api_Sample_ n g0 g1 g2 g3 g4 g5 g6 g7 g8 w = some (n, g0, g1, g2, g3, g4, g5, g6, g7, g8) := by
  unfold f_slices_Clone___api_Sample_api_Sample_
  have e4 : Nat.ble (n * 72) 140737488355328 = true := Nat.ble_eq_true_of_le (by omega)
  rw [e4]; rfl
theorem eq9 (a0 a1 a2 a3 a4 a5 a6 a7 a8 b0 b1 b2 b3 b4 b5 b6 b7 b8 : Int) : (a0 == b0 && ((a1 == b1 && (a2 == b2 && (a3 == b3 && (a4 == b4 && (a5 == b5 && (a6 == b6 && (a7 == b7 && (a8 == b8 && true)))))))) && true)) = decide ((a0, a1, a2, a3, a4, a5, a6, a7, a8) = (b0, b1, b2, b3, b4, b5, b6, b7, b8)) := by
  rw [Bool.eq_iff_iff]
  simp only [Bool.and_eq_true, beq_iff_eq, decide_eq_true_eq, Prod.mk.injEq, and_true]
theorem put_late (s0 s1 s2 s3 s4 s5 s6 s7 s8 c0 c1 c2 c3 c4 size : Int) (n : Nat) (hor : Int) (g0 g1 g2 g3 g4 g5 g6 g7 g8 : Nat → Int) (w : Bool) (h : s0 ≤ hor) : f___ring_Buffer__Put s0 s1 s2 s3 s4 s5 s6 s7 s8 c0 c1 c2 c3 c4 size n hor g0 g1 g2 g3 g4 g5 g6 g7 g8 w = some (.inl (IntKind.wrap .i64 (c0 + 1), IntKind.wrap .i64 (c1 + 1), c2, c3, c4, size, n, w, hor)) := by
  unfold f___ring_Buffer__Put K___ring_Buffer__Put
  rw [decide_eq_true h, cond_true]
theorem put_in (s0 s1 s2 s3 s4 s5 s6 s7 s8 c0 c1 c2 c3 c4 size : Int) (n : Nat) (hor : Int) (g0 g1 g2 g3 g4 g5 g6 g7 g8 : Nat → Int) (hh : hor < s0) (hn : n ≤ 150) (hs : Srt (tab n (row g0 g1 g2 g3 g4 g5 g6 g7 g8))) :
    ∃ ret full n' r0 r1 r2 r3 r4 r5 r6 r7 r8, f___ring_Buffer__Put s0 s1 s2 s3 s4 s5 s6 s7 s8 c0 c1 c2 c3 c4 size n hor g0 g1 g2 g3 g4 g5 g6 g7 g8 true = some (.inr (ret, IntKind.wrap .i64 (c0 + 1), c1, full, c3, c4, size, n', hor, r0, r1, r2, r3, r4, r5, r6, r7, r8)) ∧
      tab n' (row r0 r1 r2 r3 r4 r5 r6 r7 r8) = (if ((n + 1 : Nat) : Int) ≤ size then ins (s0, s1, s2, s3, s4, s5, s6, s7, s8) (tab n (row g0 g1 g2 g3 g4 g5 g6 g7 g8)) else (ins (s0, s1, s2, s3, s4, s5, s6, s7, s8) (tab n (row g0 g1 g2 g3 g4 g5 g6 g7 g8))).tail) ∧ full = (if ((n + 1 : Nat) : Int) ≤ size then c2 else IntKind.wrap .i64 (c2 + 1)) ∧
      ret = (if ((n + 1 : Nat) : Int) ≤ size then true else !decide ((ins (s0, s1, s2, s3, s4, s5, s6, s7, s8) (tab n (row g0 g1 g2 g3 g4 g5 g6 g7 g8))).head? = some (s0, s1, s2, s3, s4, s5, s6, s7, s8))) := by
  obtain ⟨p, e, hp, h1, h2, hf⟩ := search_eq n hn s0 s1 s2 s3 s4 s5 s6 s7 s8 g0 g1 g2 g3 g4 g5 g6 g7 g8 hs
  have hG : ∀ (v0 v1 v2 v3 v4 v5 v6 v7 v8 : Nat → Int), (v0 0, v1 0, v2 0, v3 0, v4 0, v5 0, v6 0, v7 0, v8 0) = (s0, s1, s2, s3, s4, s5, s6, s7, s8) → tab (n + 1) (row (insC p g0 v0) (insC p g1 v1) (insC p g2 v2) (insC p g3 v3) (insC p g4 v4) (insC p g5 v5) (insC p g6 v6) (insC p g7 v7) (insC p g8 v8)) = ins (s0, s1, s2, s3, s4, s5, s6, s7, s8) (tab n (row g0 g1 g2 g3 g4 g5 g6 g7 g8)) := fun v0 v1 v2 v3 v4 v5 v6 v7 v8 hv => by
    rw [tab_ins n p hp (row g0 g1 g2 g3 g4 g5 g6 g7 g8) _ (s0, s1, s2, s3, s4, s5, s6, s7, s8) (fun j => by rw [row_ins, hv])]
    refine ins_at _ _ p (by rw [tab_length]; exact hp) (fun j x hj hx => ?_) (fun j x hj hx => ?_)
    · rw [tab_get _ (by omega)] at hx
      cases hx; exact h1 j hj
    · rw [tab_get?] at hx
      split at hx
      · cases hx; exact h2 j hj ‹_›
      · cases hx
  unfold f___ring_Buffer__Put K___ring_Buffer__Put
  rw [decide_eq_false (show ¬ s0 ≤ hor by omega), cond_false, show Nat.beq n n = true from Nat.beq_refl n, cond_true, show (true && true) = true from rfl, hf, Option.bind_some, cond_true, insert_eq n p hp (by omega), Option.bind_some]
  by_cases hz : ((n + 1 : Nat) : Int) ≤ size
  · rw [decide_eq_true (show Int.ofNat (n + 1) ≤ size from hz), cond_true]
    refine ⟨_, _, _, _, _, _, _, _, _, _, _, _, rfl, ?_, ?_, ?_⟩
    · rw [if_pos hz]; exact hG (fun (j : Nat) => bif Nat.beq j 0 then s0 else s0) (fun (j : Nat) => bif Nat.beq j 0 then s1 else s1) (fun (j : Nat) => bif Nat.beq j 0 then s2 else s2) (fun (j : Nat) => bif Nat.beq j 0 then s3 else s3) (fun (j : Nat) => bif Nat.beq j 0 then s4 else s4) (fun (j : Nat) => bif Nat.beq j 0 then s5 else s5) (fun (j : Nat) => bif Nat.beq j 0 then s6 else s6) (fun (j : Nat) => bif Nat.beq j 0 then s7 else s7) (fun (j : Nat) => bif Nat.beq j 0 then s8 else s8) rfl
    · rw [if_pos hz]
    · rw [if_pos hz]
  · have e1 : inR 0 (n + 1) = true := by unfold inR; simp only [Bool.and_eq_true, decide_eq_true_eq]; omega
    rw [decide_eq_false (show ¬ Int.ofNat (n + 1) ≤ size from hz), cond_false, e1, cond_true, show Nat.beq (n + 1) (n + 1) = true from Nat.beq_refl _, cond_true]
    have hd := fun g0 g1 g2 g3 g4 g5 g6 g7 g8 => delete_eq (n + 1) 1 (by omega) g0 g1 g2 g3 g4 g5 g6 g7 g8
    have hd : ∀ g0 g1 g2 g3 g4 g5 g6 g7 g8, f_slices_Delete___api_Sample_api_Sample_ (n + 1) 0 1 g0 g1 g2 g3 g4 g5 g6 g7 g8 true = _ := hd
    rw [hd, Option.bind_some]
    refine ⟨_, _, _, _, _, _, _, _, _, _, _, _, rfl, ?_, ?_, ?_⟩
    · rw [if_neg hz]
      rw [tab_del (n + 1) 1 (by omega) (row (insC p g0 fun (j : Nat) => bif Nat.beq j 0 then s0 else s0) (insC p g1 fun (j : Nat) => bif Nat.beq j 0 then s1 else s1) (insC p g2 fun (j : Nat) => bif Nat.beq j 0 then s2 else s2) (insC p g3 fun (j : Nat) => bif Nat.beq j 0 then s3 else s3) (insC p g4 fun (j : Nat) => bif Nat.beq j 0 then s4 else s4) (insC p g5 fun (j : Nat) => bif Nat.beq j 0 then s5 else s5) (insC p g6 fun (j : Nat) => bif Nat.beq j 0 then s6 else s6) (insC p g7 fun (j : Nat) => bif Nat.beq j 0 then s7 else s7) (insC p g8 fun (j : Nat) => bif Nat.beq j 0 then s8 else s8)) _ (fun j => row_del _ _ _ _ _ _ _ _ _ _ _)]
      rw [hG (fun (j : Nat) => bif Nat.beq j 0 then s0 else s0) (fun (j : Nat) => bif Nat.beq j 0 then s1 else s1) (fun (j : Nat) => bif Nat.beq j 0 then s2 else s2) (fun (j : Nat) => bif Nat.beq j 0 then s3 else s3) (fun (j : Nat) => bif Nat.beq j 0 then s4 else s4) (fun (j : Nat) => bif Nat.beq j 0 then s5 else s5) (fun (j : Nat) => bif Nat.beq j 0 then s6 else s6) (fun (j : Nat) => bif Nat.beq j 0 then s7 else s7) (fun (j : Nat) => bif Nat.beq j 0 then s8 else s8) rfl, List.drop_one]
    · rw [if_neg hz]
    · rw [if_neg hz, eq9]
      have := hG (fun (j : Nat) => bif Nat.beq j 0 then s0 else s0) (fun (j : Nat) => bif Nat.beq j 0 then s1 else s1) (fun (j : Nat) => bif Nat.beq j 0 then s2 else s2) (fun (j : Nat) => bif Nat.beq j 0 then s3 else s3) (fun (j : Nat) => bif Nat.beq j 0 then s4 else s4) (fun (j : Nat) => bif Nat.beq j 0 then s5 else s5) (fun (j : Nat) => bif Nat.beq j 0 then s6 else s6) (fun (j : Nat) => bif Nat.beq j 0 then s7 else s7) (fun (j : Nat) => bif Nat.beq j 0 then s8 else s8) rfl
      have h0 : (ins (s0, s1, s2, s3, s4, s5, s6, s7, s8) (tab n (row g0 g1 g2 g3 g4 g5 g6 g7 g8))).head? = some (row (insC p g0 fun (j : Nat) => bif Nat.beq j 0 then s0 else s0) (insC p g1 fun (j : Nat) => bif Nat.beq j 0 then s1 else s1) (insC p g2 fun (j : Nat) => bif Nat.beq j 0 then s2 else s2) (insC p g3 fun (j : Nat) => bif Nat.beq j 0 then s3 else s3) (insC p g4 fun (j : Nat) => bif Nat.beq j 0 then s4 else s4) (insC p g5 fun (j : Nat) => bif Nat.beq j 0 then s5 else s5) (insC p g6 fun (j : Nat) => bif Nat.beq j 0 then s6 else s6) (insC p g7 fun (j : Nat) => bif Nat.beq j 0 then s7 else s7) (insC p g8 fun (j : Nat) => bif Nat.beq j 0 then s8 else s8) 0) := by
        rw [← this, List.head?_eq_getElem?, tab_get _ (by omega)]
      rw [h0]
      simp only [Option.some.injEq, row]
theorem first_of (P : Nat → Prop) [DecidablePred P] : ∀ n, ∃ k, k ≤ n ∧ (∀ j, j < k → P j) ∧ (k < n → ¬ P k)
  | 0 => ⟨0, Nat.le_refl _, fun j h => by omega, fun h => by omega⟩
  | n + 1 => by
    obtain ⟨k, h1, h2, h3⟩ := first_of P n
    rcases Nat.lt_or_ge k n with h | h
    · exact ⟨k, by omega, h2, fun _ => h3 h⟩
    · obtain rfl : k = n := by omega
      by_cases hp : P k
      · refine ⟨k + 1, Nat.le_refl _, fun j hj => ?_, fun h => by omega⟩
        rcases Nat.lt_or_ge j k with h' | h'
        · exact h2 j h'
        · rw [show j = k by omega]; exact hp
      · exact ⟨k, by omega, h2, fun _ => hp⟩
theorem pop_eq (upto c0 c1 c2 c3 c4 size : Int) (n : Nat) (hor : Int) (g0 g1 g2 g3 g4 g5 g6 g7 g8 : Nat → Int) (hn : n ≤ 150) :
    ∃ k r0 r1 r2 r3 r4 r5 r6 r7 r8, k ≤ n ∧ (∀ j, j < k → g0 j ≤ upto) ∧ (k < n → ¬ g0 k ≤ upto) ∧ tab (n - k) (row r0 r1 r2 r3 r4 r5 r6 r7 r8) = (tab n (row g0 g1 g2 g3 g4 g5 g6 g7 g8)).drop k ∧
      f___ring_Buffer__Pop upto c0 c1 c2 c3 c4 size n hor g0 g1 g2 g3 g4 g5 g6 g7 g8 true = some (k, c0, c1, c2, c3, IntKind.wrap .i64 (c4 + Int.ofNat k), size, n - k, if upto > hor then upto else hor, g0, g1, g2, g3, g4, g5, g6, g7, g8, r0, r1, r2, r3, r4, r5, r6, r7, r8) := by
  obtain ⟨k, hk, h1, h2⟩ := first_of (fun j => g0 j ≤ upto) n
  refine ⟨k, delC 0 (k - 0) g0, delC 0 (k - 0) g1, delC 0 (k - 0) g2, delC 0 (k - 0) g3, delC 0 (k - 0) g4, delC 0 (k - 0) g5, delC 0 (k - 0) g6, delC 0 (k - 0) g7, delC 0 (k - 0) g8, hk, h1, h2, ?_, ?_⟩
  · rw [show n - k = 0 + (n - k) by omega]
    exact tab_del n k hk (row g0 g1 g2 g3 g4 g5 g6 g7 g8) _ (fun j => row_del _ _ _ _ _ _ _ _ _ _ _)
  have e1 : inRe (Int.ofNat k) n = true := by unfold inRe; simp only [Int.ofNat_eq_natCast, Bool.and_eq_true, decide_eq_true_eq]; omega
  have e2 : Int.toNat (Int.ofNat k) = k := by simp
  have hd : f_slices_Delete___api_Sample_api_Sample_ n 0 (Int.ofNat k) g0 g1 g2 g3 g4 g5 g6 g7 g8 true = some (n - k, delC 0 (k - 0) g0, delC 0 (k - 0) g1, delC 0 (k - 0) g2, delC 0 (k - 0) g3, delC 0 (k - 0) g4, delC 0 (k - 0) g5, delC 0 (k - 0) g6, delC 0 (k - 0) g7, delC 0 (k - 0) g8) := by rw [delete_eq n k hk, Nat.zero_add]
  have hc := clone_eq k (by omega) g0 g1 g2 g3 g4 g5 g6 g7 g8 false
  unfold f___ring_Buffer__Pop K___ring_Buffer__Pop L___ring_Buffer__Pop_0
  refine loopK_inv (fun t d => ∃ i : Nat, i + t = k ∧ d = (upto, Int.ofNat i, c0, c1, c2, c3, c4, size, n, true, hor, n, g0, g1, g2, g3, g4, g5, g6, g7, g8)) ?_ 200 k _ (by omega) ⟨0, by omega, rfl⟩
  rintro t _ cc ⟨i, hi, rfl⟩ hcc
  unfold S___ring_Buffer__Pop_0
  simp only
  have e3 : Int.toNat (Int.ofNat i) = i := by simp
  rcases Nat.eq_zero_or_pos t with h0 | h0
  · obtain rfl : i = k := by omega
    by_cases hin : i < n
    · have e4 : decide (Int.ofNat i < Int.ofNat n) = true := by simp only [Int.ofNat_eq_natCast]; exact decide_eq_true (by omega)
      have e5 : inR (Int.ofNat i) n = true := by unfold inR; simp only [Int.ofNat_eq_natCast, Bool.and_eq_true, decide_eq_true_eq]; omega
      rw [e4, e5, e3, decide_eq_false (h2 hin), cond_true, cond_true, cond_false, Sum.elim_inl]
      rw [e1, cond_true, e2, show Nat.beq i i = true from Nat.beq_refl i, cond_true, show (true && false && true) = false from rfl, hc, Option.bind_some, show Nat.beq n n = true from Nat.beq_refl n, cond_true, show (true && true) = true from rfl, hd, Option.bind_some]
    · have e4 : decide (Int.ofNat i < Int.ofNat n) = false := by simp only [Int.ofNat_eq_natCast]; exact decide_eq_false (by omega)
      rw [e4, cond_false, Sum.elim_inr]
      rw [e1, cond_true, e2, show Nat.beq i i = true from Nat.beq_refl i, cond_true, show (true && false && true) = false from rfl, hc, Option.bind_some, show Nat.beq n n = true from Nat.beq_refl n, cond_true, show (true && true) = true from rfl, hd, Option.bind_some]
  · have e4 : decide (Int.ofNat i < Int.ofNat n) = true := by simp only [Int.ofNat_eq_natCast]; exact decide_eq_true (by omega)
    have e5 : inR (Int.ofNat i) n = true := by unfold inR; simp only [Int.ofNat_eq_natCast, Bool.and_eq_true, decide_eq_true_eq]; omega
    have e6 : IntKind.wrap IntKind.i64 (Int.ofNat i + 1) = Int.ofNat (i + 1) := (wrap_i64 (by simp only [Int.ofNat_eq_natCast]; omega) (by simp only [Int.ofNat_eq_natCast]; omega)).trans rfl
    rw [e4, e5, e3, e6, decide_eq_true (h1 i (by omega)), cond_true, cond_true, cond_true]
    exact hcc (t - 1) _ (by omega) ⟨i + 1, by omega, rfl⟩
end Go.Proofs.Ythbnojedlbeglaa
