/-
  What comes out at a time has times above the horizon ahead and at most the new one; the horizon never falls; behind it nothing is taken: the statement of astrolabelaw13.RingTimes, for what is read of a bulk of at most 1048576.
-/
import Derived.Test.YthbnojedlbeglaaRG5
import Derived.Test.YthbnojedlbeglaaRP
import Derived.Test.YthbnojedlbeglaaAbLaw
import Derived.Test.YthbnojedlbeglaaAbInv
import Derived.Test.YthbnojedlbeglaaAbCond
set_option maxRecDepth 100000
set_option maxHeartbeats 4000000
set_option linter.unusedVariables false
set_option linter.unusedSimpArgs false
namespace Go.Proofs.Ythbnojedlbeglaa
open Go.Ab
theorem ring_awake : f_astrolabelaw13_awake = some true := by kernel_rfl
def lostN (x : Nat → Int) : Nat → Nat
  | 0 => 0
  | i + 1 => lostN x i + (if x i ≤ (-9223372036854775808) then 1 else 0)
theorem lostN_le (x : Nat → Int) : ∀ i, lostN x i ≤ i
  | 0 => Nat.le_refl _
  | i + 1 => by
    have := lostN_le x i
    unfold lostN
    split <;> omega
theorem lost_eq (n : Nat) (hn : n ≤ 60) (x1 x2 x3 x4 x5 x6 x7 x8 x9 : Nat → Int) (hx : ∀ j, j < n → (-9223372036854775808) ≤ x1 j) : f_astrolabelaw13_lost n x1 x2 x3 x4 x5 x6 x7 x8 x9 = some (Int.ofNat (lostN x1 n)) := by
  unfold f_astrolabelaw13_lost K_astrolabelaw13_lost L_astrolabelaw13_lost_0
  refine loopK_inv (fun t d => ∃ i : Nat, i + t = n ∧ d = (n, x1, x2, x3, x4, x5, x6, x7, x8, x9, Int.ofNat (lostN x1 i), Int.ofNat i)) ?_ 200 n _ (by omega) ⟨0, by omega, rfl⟩
  rintro t _ c ⟨i, hi, rfl⟩ hc
  unfold S_astrolabelaw13_lost_0
  have e3 : Int.toNat (Int.ofNat i) = i := by simp
  rcases Nat.eq_zero_or_pos t with ht | ht
  · obtain rfl : i = n := by omega
    have e : decide (Int.ofNat i < Int.ofNat i) = false := decide_eq_false (by omega)
    rw [e, cond_false]
  · have e : decide (Int.ofNat i < Int.ofNat n) = true := by simp only [Int.ofNat_eq_natCast]; exact decide_eq_true (by omega)
    have e2 : inR (Int.ofNat i) n = true := by unfold inR; simp only [Int.ofNat_eq_natCast, Bool.and_eq_true, decide_eq_true_eq]; omega
    have e4 : IntKind.wrap IntKind.i64 (Int.ofNat i + 1) = Int.ofNat (i + 1) := (wrap_i64 (by simp only [Int.ofNat_eq_natCast]; omega) (by simp only [Int.ofNat_eq_natCast]; omega)).trans rfl
    have hle := lostN_le x1 i
    have e5 : IntKind.wrap IntKind.i64 (Int.ofNat (lostN x1 i) + 1) = Int.ofNat (lostN x1 i + 1) := (wrap_i64 (by simp only [Int.ofNat_eq_natCast]; omega) (by simp only [Int.ofNat_eq_natCast]; omega)).trans rfl
    have hxi := hx i (by omega)
    by_cases hq : x1 i ≤ (-9223372036854775808)
    · have e6 : (x1 i == (-9223372036854775808)) = true := by rw [beq_iff_eq]; omega
      have e7 : lostN x1 (i + 1) = lostN x1 i + 1 := by rw [lostN, if_pos hq]
      simp only [e, e2, e3, e4, e5, e6, cond_true]
      exact hc (t - 1) _ (by omega) ⟨i + 1, by omega, by rw [e7]⟩
    · have e6 : (x1 i == (-9223372036854775808)) = false := by
        cases hh : x1 i == (-9223372036854775808)
        · rfl
        · rw [beq_iff_eq] at hh; omega
      have e7 : lostN x1 (i + 1) = lostN x1 i := by rw [lostN, if_neg hq, Nat.add_zero]
      simp only [e, e2, e3, e4, e6, cond_true, cond_false]
      exact hc (t - 1) _ (by omega) ⟨i + 1, by omega, by rw [e7]⟩
section
variable (n : Nat) (x1 x2 x3 x4 x5 x6 x7 x8 x9 : Nat → Int) (mc : Nat) (cuts : Nat → Int)
theorem times_go {i : Nat} (hi : i < n) (hn : n ≤ 60) (c0 : Int) (m : Nat) (g0 g1 g2 g3 g4 g5 g6 g7 g8 : Nat → Int) (hs : Srt (tab m (row g0 g1 g2 g3 g4 g5 g6 g7 g8))) (hm : m ≤ i) (ha : ∀ s, s ∈ tab m (row g0 g1 g2 g3 g4 g5 g6 g7 g8) → (-9223372036854775808) < s.1) :
    ∃ c0' m' g0' g1' g2' g3' g4' g5' g6' g7' g8', Srt (tab m' (row g0' g1' g2' g3' g4' g5' g6' g7' g8')) ∧ m' ≤ i + 1 ∧ (∀ s, s ∈ tab m' (row g0' g1' g2' g3' g4' g5' g6' g7' g8') → (-9223372036854775808) < s.1) ∧ ∀ c k, S_astrolabelaw13_RingTimes_0 (ρ := Bool) f_astrolabelaw13_awake f_ring_New f___ring_Buffer__Put f___ring_Buffer__Horizon f___ring_Buffer__Pop f_astrolabelaw13_lost n x1 x2 x3 x4 x5 x6 x7 x8 x9 mc cuts (Int.ofNat i) true c0 (Int.ofNat (lostN x1 i)) 0 0 0 64 m true (-9223372036854775808) m g0 g1 g2 g3 g4 g5 g6 g7 g8 c k =
      c (n, x1, x2, x3, x4, x5, x6, x7, x8, x9, mc, cuts, Int.ofNat (i + 1), true, c0', Int.ofNat (lostN x1 (i + 1)), 0, 0, 0, 64, m', true, (-9223372036854775808), m', g0', g1', g2', g3', g4', g5', g6', g7', g8') := by
  have e : decide (Int.ofNat i < Int.ofNat n) = true := by simp only [Int.ofNat_eq_natCast]; exact decide_eq_true (by omega)
  have e2 : inR (Int.ofNat i) n = true := by unfold inR; simp only [Int.ofNat_eq_natCast, Bool.and_eq_true, decide_eq_true_eq]; omega
  have e3 : Int.toNat (Int.ofNat i) = i := by simp
  have e4 : IntKind.wrap IntKind.i64 (Int.ofNat i + 1) = Int.ofNat (i + 1) := (wrap_i64 (by simp only [Int.ofNat_eq_natCast]; omega) (by simp only [Int.ofNat_eq_natCast]; omega)).trans rfl
  have e5 : Nat.beq m m = true := Nat.beq_refl m
  have hle := lostN_le x1 i
  by_cases hl : x1 i ≤ (-9223372036854775808)
  · have hp := put_late (x1 i) (x2 i) (x3 i) (x4 i) (x5 i) (x6 i) (x7 i) (x8 i) (x9 i) c0 (Int.ofNat (lostN x1 i)) 0 0 0 64 m (-9223372036854775808) g0 g1 g2 g3 g4 g5 g6 g7 g8 true hl
    have e6 : IntKind.wrap IntKind.i64 (Int.ofNat (lostN x1 i) + 1) = Int.ofNat (lostN x1 (i + 1)) := by
      rw [lostN, if_pos hl]
      exact (wrap_i64 (by simp only [Int.ofNat_eq_natCast]; omega) (by simp only [Int.ofNat_eq_natCast]; omega)).trans rfl
    rw [e6] at hp
    refine ⟨IntKind.wrap .i64 (c0 + 1), m, g0, g1, g2, g3, g4, g5, g6, g7, g8, hs, by omega, ha, fun c k => ?_⟩
    unfold S_astrolabelaw13_RingTimes_0
    simp only [e, e2, e3, e4, e5, hp, cond_true, cond_false, Option.bind_some, Bool.and_true]
  · obtain ⟨ret, full, m', g0', g1', g2', g3', g4', g5', g6', g7', g8', hp, ht, h2, _⟩ := put_in (x1 i) (x2 i) (x3 i) (x4 i) (x5 i) (x6 i) (x7 i) (x8 i) (x9 i) c0 (Int.ofNat (lostN x1 i)) 0 0 0 64 m (-9223372036854775808) g0 g1 g2 g3 g4 g5 g6 g7 g8 (by omega) (by omega) hs
    have hz : ((m + 1 : Nat) : Int) ≤ 64 := by omega
    rw [if_pos hz] at ht h2
    subst h2
    have hlen := congrArg List.length ht
    rw [tab_length, ins_length, tab_length] at hlen
    have e6 : lostN x1 (i + 1) = lostN x1 i := by rw [lostN, if_neg hl, Nat.add_zero]
    refine ⟨IntKind.wrap .i64 (c0 + 1), m', g0', g1', g2', g3', g4', g5', g6', g7', g8', ?_, by omega, fun s h => ?_, fun c k => ?_⟩
    · rw [ht]; exact ins_srt _ _ hs
    · rw [ht] at h
      rcases (ins_mem _ _ _).1 h with rfl | h
      · show (-9223372036854775808) < x1 i
        omega
      · exact ha s h
    · rw [e6]
      unfold S_astrolabelaw13_RingTimes_0
      simp only [e, e2, e3, e4, e5, hp, cond_true, cond_false, Option.bind_some, Bool.and_true]
theorem times_end (c0 c1 : Int) (m : Nat) (g0 g1 g2 g3 g4 g5 g6 g7 g8 : Nat → Int) (c) (k) : S_astrolabelaw13_RingTimes_0 (ρ := Bool) f_astrolabelaw13_awake f_ring_New f___ring_Buffer__Put f___ring_Buffer__Horizon f___ring_Buffer__Pop f_astrolabelaw13_lost n x1 x2 x3 x4 x5 x6 x7 x8 x9 mc cuts (Int.ofNat n) true c0 c1 0 0 0 64 m true (-9223372036854775808) m g0 g1 g2 g3 g4 g5 g6 g7 g8 c k = k (n, x1, x2, x3, x4, x5, x6, x7, x8, x9, mc, cuts, Int.ofNat n, true, Int.ofNat n, false, c0, c1, 0, 0, 0, 64, m, true, (-9223372036854775808), m, g0, g1, g2, g3, g4, g5, g6, g7, g8) := by
  have e : decide (Int.ofNat n < Int.ofNat n) = false := decide_eq_false (by omega)
  unfold S_astrolabelaw13_RingTimes_0
  rw [e, cond_false]
theorem times_look (ii no : Int) (j : Nat) (hj : j < mc) (was : Int) (k : Nat) (hk : k ≤ 150) (d1 d2 d3 d4 d5 d6 : Int) (m2 : Nat) (hor2 : Int) (g0 g1 g2 g3 g4 g5 g6 g7 g8 r0 r1 r2 r3 r4 r5 r6 r7 r8 : Nat → Int) (hlow : ∀ i, i < k → was < g0 i) (hup : ∀ i, i < k → g0 i ≤ cuts j) (u : Unit → Option Bool) (v) :
    L_astrolabelaw13_RingTimes_2 (n, x1, x2, x3, x4, x5, x6, x7, x8, x9, mc, cuts, ii, no, Int.ofNat j, was, k, 0, true, d1, d2, d3, d4, d5, d6, m2, hor2, k, g0, g1, g2, g3, g4, g5, g6, g7, g8, m2, r0, r1, r2, r3, r4, r5, r6, r7, r8) (Sum.elim u v) = v (n, x1, x2, x3, x4, x5, x6, x7, x8, x9, mc, cuts, ii, no, Int.ofNat j, was, k, Int.ofNat k, true, Int.ofNat k, false, d1, d2, d3, d4, d5, d6, m2, hor2, k, g0, g1, g2, g3, g4, g5, g6, g7, g8, m2, r0, r1, r2, r3, r4, r5, r6, r7, r8) := by
  unfold L_astrolabelaw13_RingTimes_2
  refine loopK_inv (fun t d => ∃ i : Nat, i + t = k ∧ d = (n, x1, x2, x3, x4, x5, x6, x7, x8, x9, mc, cuts, ii, no, Int.ofNat j, was, k, Int.ofNat i, true, d1, d2, d3, d4, d5, d6, m2, hor2, k, g0, g1, g2, g3, g4, g5, g6, g7, g8, m2, r0, r1, r2, r3, r4, r5, r6, r7, r8)) ?_ 200 k _ (by omega) ⟨0, by omega, rfl⟩
  rintro t _ c ⟨i, hi, rfl⟩ hc
  unfold S_astrolabelaw13_RingTimes_2
  rcases Nat.eq_zero_or_pos t with ht | ht
  · obtain rfl : i = k := by omega
    have e : decide (Int.ofNat i < Int.ofNat i) = false := decide_eq_false (by omega)
    simp only [e, cond_false, Sum.elim_inr]
  · have e : decide (Int.ofNat i < Int.ofNat k) = true := by simp only [Int.ofNat_eq_natCast]; exact decide_eq_true (by omega)
    have e2 : inR (Int.ofNat i) k = true := by unfold inR; simp only [Int.ofNat_eq_natCast, Bool.and_eq_true, decide_eq_true_eq]; omega
    have e3 : Int.toNat (Int.ofNat i) = i := by simp
    have e4 : IntKind.wrap IntKind.i64 (Int.ofNat i + 1) = Int.ofNat (i + 1) := (wrap_i64 (by simp only [Int.ofNat_eq_natCast]; omega) (by simp only [Int.ofNat_eq_natCast]; omega)).trans rfl
    have e5 : decide (g0 i ≤ was) = false := decide_eq_false (by have := hlow i (by omega); omega)
    have e6 : inR (Int.ofNat j) mc = true := by unfold inR; simp only [Int.ofNat_eq_natCast, Bool.and_eq_true, decide_eq_true_eq]; omega
    have e7 : Int.toNat (Int.ofNat j) = j := by simp
    have e8 : decide (g0 i > cuts j) = false := decide_eq_false (by have := hup i (by omega); omega)
    simp only [e, e2, e3, e4, e5, e6, e7, e8, cond_true, cond_false]
    exact hc (t - 1) _ (by omega) ⟨i + 1, by omega, rfl⟩
theorem cut_go {j : Nat} (hj : j < mc) (hmc : mc ≤ 10) (out : Nat) (c0 : Int) (c1 : Nat) (m : Nat) (hor : Int) (g0 g1 g2 g3 g4 g5 g6 g7 g8 : Nat → Int) (hs : Srt (tab m (row g0 g1 g2 g3 g4 g5 g6 g7 g8))) (hm : out + m ≤ 60) (hc1 : c1 ≤ 60 + j) (ha : ∀ s, s ∈ tab m (row g0 g1 g2 g3 g4 g5 g6 g7 g8) → hor < s.1) :
    ∃ out' c0' m' hor' g0' g1' g2' g3' g4' g5' g6' g7' g8', Srt (tab m' (row g0' g1' g2' g3' g4' g5' g6' g7' g8')) ∧ out' + m' ≤ 60 ∧ (∀ s, s ∈ tab m' (row g0' g1' g2' g3' g4' g5' g6' g7' g8') → hor' < s.1) ∧ ∀ c k, S_astrolabelaw13_RingTimes_1 (ρ := Bool) f_astrolabelaw13_awake f_ring_New f___ring_Buffer__Put f___ring_Buffer__Horizon f___ring_Buffer__Pop f_astrolabelaw13_lost (@L_astrolabelaw13_RingTimes_2) n x1 x2 x3 x4 x5 x6 x7 x8 x9 mc cuts (Int.ofNat n) (Int.ofNat out) (Int.ofNat j) true c0 (Int.ofNat c1) 0 0 (Int.ofNat out) 64 m true hor m g0 g1 g2 g3 g4 g5 g6 g7 g8 c k =
      c (n, x1, x2, x3, x4, x5, x6, x7, x8, x9, mc, cuts, Int.ofNat n, Int.ofNat out', Int.ofNat (j + 1), true, c0', Int.ofNat (c1 + 1), 0, 0, Int.ofNat out', 64, m', true, hor', m', g0', g1', g2', g3', g4', g5', g6', g7', g8') := by
  have e : decide (Int.ofNat j < Int.ofNat mc) = true := by simp only [Int.ofNat_eq_natCast]; exact decide_eq_true (by omega)
  have e2 : inR (Int.ofNat j) mc = true := by unfold inR; simp only [Int.ofNat_eq_natCast, Bool.and_eq_true, decide_eq_true_eq]; omega
  have e3 : Int.toNat (Int.ofNat j) = j := by simp
  have e4 : IntKind.wrap IntKind.i64 (Int.ofNat j + 1) = Int.ofNat (j + 1) := (wrap_i64 (by simp only [Int.ofNat_eq_natCast]; omega) (by simp only [Int.ofNat_eq_natCast]; omega)).trans rfl
  obtain ⟨k, r0, r1, r2, r3, r4, r5, r6, r7, r8, hk1, u1, v1, w1, z1⟩ := pop_eq (cuts j) c0 (Int.ofNat c1) 0 0 (Int.ofNat out) 64 m hor g0 g1 g2 g3 g4 g5 g6 g7 g8 (by omega)
  have e5 : IntKind.wrap .i64 (Int.ofNat out + Int.ofNat k) = Int.ofNat (out + k) := (wrap_i64 (by simp only [Int.ofNat_eq_natCast]; omega) (by simp only [Int.ofNat_eq_natCast]; omega)).trans rfl
  have e6 : IntKind.wrap .i64 (Int.ofNat c1 + 1) = Int.ofNat (c1 + 1) := (wrap_i64 (by simp only [Int.ofNat_eq_natCast]; omega) (by simp only [Int.ofNat_eq_natCast]; omega)).trans rfl
  rw [e5] at z1
  generalize hh : (if cuts j > hor then cuts j else hor) = hor2 at z1
  have hh1 : hor ≤ hor2 := by rw [← hh]; split <;> omega
  have hh2 : cuts j ≤ hor2 := by rw [← hh]; split <;> omega
  have hh3 : hor2 = cuts j ∨ hor2 = hor := by rw [← hh]; split <;> simp
  have hlow : ∀ i, i < k → hor < g0 i := fun i hi => ha _ (List.mem_iff_getElem?.2 ⟨i, tab_get _ (by omega)⟩)
  have e7 : decide (hor2 < hor) = false := decide_eq_false (by omega)
  have e8 : decide (hor2 < cuts j) = false := decide_eq_false (by omega)
  have hp := put_late hor2 0 0 0 0 0 0 0 0 c0 (Int.ofNat c1) 0 0 (Int.ofNat (out + k)) 64 (m - k) hor2 r0 r1 r2 r3 r4 r5 r6 r7 r8 true (Int.le_refl _)
  rw [e6] at hp
  refine ⟨out + k, IntKind.wrap .i64 (c0 + 1), m - k, hor2, r0, r1, r2, r3, r4, r5, r6, r7, r8, ?_, by omega, fun s h => ?_, fun c kk => ?_⟩
  · rw [w1]; exact List.Pairwise.sublist (List.drop_sublist _ _) hs
  · rw [w1] at h
    have h1 := ha s (List.mem_of_mem_drop h)
    rcases hh3 with h3 | h3
    · obtain ⟨q, hq⟩ := List.mem_iff_getElem?.1 h
      rw [List.getElem?_drop, tab_get?] at hq
      split at hq
      · rename_i hkm
        cases hq
        have h4 := v1 (by omega)
        have h5 := time_le (tab_srt hs (i := k) (j := k + q) (by omega) hkm)
        have h6 : g0 k ≤ (row g0 g1 g2 g3 g4 g5 g6 g7 g8 (k + q)).1 := h5
        omega
      · cases hq
    · omega
  · unfold S_astrolabelaw13_RingTimes_1
    simp only [e, e2, e3, z1, Nat.beq_refl, cond_true, cond_false, Option.bind_some, Bool.and_true, f___ring_Buffer__Horizon, K___ring_Buffer__Horizon, e5]
    rw [times_look n x1 x2 x3 x4 x5 x6 x7 x8 x9 mc cuts _ _ j hj hor k (by omega) _ _ _ _ _ _ _ _ g0 g1 g2 g3 g4 g5 g6 g7 g8 r0 r1 r2 r3 r4 r5 r6 r7 r8 hlow u1]
    simp only [Nat.beq_refl, cond_true, cond_false, Option.bind_some, Bool.and_true, e2, e3, e4, e7, e8, hp]
theorem cut_end (out : Nat) (c0 : Int) (c1 : Nat) (m : Nat) (hor : Int) (g0 g1 g2 g3 g4 g5 g6 g7 g8 : Nat → Int) (c) (k) : S_astrolabelaw13_RingTimes_1 (ρ := Bool) f_astrolabelaw13_awake f_ring_New f___ring_Buffer__Put f___ring_Buffer__Horizon f___ring_Buffer__Pop f_astrolabelaw13_lost (@L_astrolabelaw13_RingTimes_2) n x1 x2 x3 x4 x5 x6 x7 x8 x9 mc cuts (Int.ofNat n) (Int.ofNat out) (Int.ofNat mc) true c0 (Int.ofNat c1) 0 0 (Int.ofNat out) 64 m true hor m g0 g1 g2 g3 g4 g5 g6 g7 g8 c k = k (.inr (n, x1, x2, x3, x4, x5, x6, x7, x8, x9, mc, cuts, Int.ofNat n, Int.ofNat out, Int.ofNat mc, true, Int.ofNat mc, false, c0, Int.ofNat c1, 0, 0, Int.ofNat out, 64, m, true, hor, m, g0, g1, g2, g3, g4, g5, g6, g7, g8)) := by
  have e : decide (Int.ofNat mc < Int.ofNat mc) = false := decide_eq_false (by omega)
  unfold S_astrolabelaw13_RingTimes_1
  rw [e, cond_false]
end
theorem ringTimes_plain (n : Nat) (x1 x2 x3 x4 x5 x6 x7 x8 x9 : Nat → Int) (mc : Nat) (cuts : Nat → Int) (hml : n ≤ maxLen) (b0 : ∀ j, j < n → IntKind.min .i64 ≤ x1 j ∧ x1 j ≤ IntKind.max .i64) (b1 : ∀ j, j < n → IntKind.min .i64 ≤ x2 j ∧ x2 j ≤ IntKind.max .i64) (b2 : ∀ j, j < n → IntKind.min .i64 ≤ x3 j ∧ x3 j ≤ IntKind.max .i64) (b3 : ∀ j, j < n → IntKind.min .i64 ≤ x4 j ∧ x4 j ≤ IntKind.max .i64) (b4 : ∀ j, j < n → IntKind.min .i64 ≤ x5 j ∧ x5 j ≤ IntKind.max .i64) (b5 : ∀ j, j < n → IntKind.min .i64 ≤ x6 j ∧ x6 j ≤ IntKind.max .i64) (b6 : ∀ j, j < n → IntKind.min .i64 ≤ x7 j ∧ x7 j ≤ IntKind.max .i64) (b7 : ∀ j, j < n → IntKind.min .i64 ≤ x8 j ∧ x8 j ≤ IntKind.max .i64) (b8 : ∀ j, j < n → IntKind.min .i64 ≤ x9 j ∧ x9 j ≤ IntKind.max .i64) (hmc0 : mc ≤ maxLen) (bc : ∀ j, j < mc → IntKind.min .i64 ≤ cuts j ∧ cuts j ≤ IntKind.max .i64) : f_astrolabelaw13_RingTimes n x1 x2 x3 x4 x5 x6 x7 x8 x9 mc cuts = some true := by
  unfold f_astrolabelaw13_RingTimes
  generalize hl0 : @L_astrolabelaw13_RingTimes_0 = l0
  unfold K_astrolabelaw13_RingTimes
  rw [ring_awake, Option.bind_some, Bool.not_true, cond_false]
  by_cases h60 : Int.ofNat n > 60
  · rw [decide_eq_true h60, cond_true]
  rw [decide_eq_false h60, cond_false]
  by_cases h10 : Int.ofNat mc > 10
  · rw [decide_eq_true h10, cond_true]
  rw [decide_eq_false h10, cond_false]
  have hn : n ≤ 60 := by simp only [Int.ofNat_eq_natCast] at h60; omega
  have hmc : mc ≤ 10 := by simp only [Int.ofNat_eq_natCast] at h10; omega
  have hnew : f_ring_New 64 = some (.inr (64, fun _ => 0)) := by kernel_rfl
  rw [hnew, Option.bind_some, cond_false, Option.bind_some]
  subst hl0
  refine loopK_inv (fun t d => ∃ (i : Nat) (c0 : Int) (m : Nat) (g0 g1 g2 g3 g4 g5 g6 g7 g8 : Nat → Int), i + t = n ∧ Srt (tab m (row g0 g1 g2 g3 g4 g5 g6 g7 g8)) ∧ m ≤ i ∧ (∀ s, s ∈ tab m (row g0 g1 g2 g3 g4 g5 g6 g7 g8) → (-9223372036854775808) < s.1) ∧
    d = (n, x1, x2, x3, x4, x5, x6, x7, x8, x9, mc, cuts, Int.ofNat i, true, c0, Int.ofNat (lostN x1 i), 0, 0, 0, 64, m, true, (-9223372036854775808), m, g0, g1, g2, g3, g4, g5, g6, g7, g8)) ?_ 200 n _ (by omega) ⟨0, 0, 0, fun _ => 0, fun _ => 0, fun _ => 0, fun _ => 0, fun _ => 0, fun _ => 0, fun _ => 0, fun _ => 0, fun _ => 0, by omega, List.Pairwise.nil, by omega, (fun s hs => by cases hs), rfl⟩
  rintro t _ c ⟨i, c0, m, g0, g1, g2, g3, g4, g5, g6, g7, g8, hi, hs, hm, ha, rfl⟩ hc
  rcases Nat.eq_zero_or_pos t with ht0 | ht0
  · obtain rfl : i = n := by omega
    refine (times_end i x1 x2 x3 x4 x5 x6 x7 x8 x9 mc cuts c0 _ m g0 g1 g2 g3 g4 g5 g6 g7 g8 c _).trans ?_
    have hll := lostN_le x1 i
    refine loopK_inv (fun t d => ∃ (j out : Nat) (c0 : Int) (m : Nat) (hor : Int) (g0 g1 g2 g3 g4 g5 g6 g7 g8 : Nat → Int), j + t = mc ∧ Srt (tab m (row g0 g1 g2 g3 g4 g5 g6 g7 g8)) ∧ out + m ≤ 60 ∧ (∀ s, s ∈ tab m (row g0 g1 g2 g3 g4 g5 g6 g7 g8) → hor < s.1) ∧
      d = (i, x1, x2, x3, x4, x5, x6, x7, x8, x9, mc, cuts, Int.ofNat i, Int.ofNat out, Int.ofNat j, true, c0, Int.ofNat (lostN x1 i + j), 0, 0, Int.ofNat out, 64, m, true, hor, m, g0, g1, g2, g3, g4, g5, g6, g7, g8)) ?_ 200 mc _ (by omega) ⟨0, 0, c0, m, (-9223372036854775808), g0, g1, g2, g3, g4, g5, g6, g7, g8, by omega, hs, by omega, ha, rfl⟩
    rintro t _ c2 ⟨j, out, c0, m, hor, g0, g1, g2, g3, g4, g5, g6, g7, g8, hj, hs, hm, ha, rfl⟩ hc2
    rcases Nat.eq_zero_or_pos t with ht1 | ht1
    · obtain rfl : j = mc := by omega
      refine (cut_end i x1 x2 x3 x4 x5 x6 x7 x8 x9 j cuts out c0 _ m hor g0 g1 g2 g3 g4 g5 g6 g7 g8 c2 _).trans ?_
      have el := lost_eq i hn x1 x2 x3 x4 x5 x6 x7 x8 x9 (fun q hq => (b0 q hq).1)
      have ee : (Int.ofNat (lostN x1 i + j) == IntKind.wrap .i64 (Int.ofNat j + Int.ofNat (lostN x1 i))) = true := by
        rw [wrap_i64 (by simp only [Int.ofNat_eq_natCast]; omega) (by simp only [Int.ofNat_eq_natCast]; omega), beq_iff_eq]
        simp only [Int.ofNat_eq_natCast]; omega
      simp only [Sum.elim_inr, beq_self_eq_true, cond_true, el, Option.bind_some, ee]
    · obtain ⟨out', c0', m', hor', g0', g1', g2', g3', g4', g5', g6', g7', g8', q1, q2, q3, q4⟩ := cut_go i x1 x2 x3 x4 x5 x6 x7 x8 x9 mc cuts (j := j) (by omega) hmc out c0 (lostN x1 i + j) m hor g0 g1 g2 g3 g4 g5 g6 g7 g8 hs hm (by omega) ha
      refine (q4 c2 _).trans ?_
      exact hc2 (t - 1) _ (by omega) ⟨j + 1, out', c0', m', hor', g0', g1', g2', g3', g4', g5', g6', g7', g8', by omega, q1, q2, q3, rfl⟩
  · obtain ⟨c0', m', g0', g1', g2', g3', g4', g5', g6', g7', g8', q1, q2, q3, q4⟩ := times_go n x1 x2 x3 x4 x5 x6 x7 x8 x9 mc cuts (i := i) (by omega) hn c0 m g0 g1 g2 g3 g4 g5 g6 g7 g8 hs hm ha
    refine (q4 c _).trans ?_
    exact hc (t - 1) _ (by omega) ⟨i + 1, c0', m', g0', g1', g2', g3', g4', g5', g6', g7', g8', by omega, q1, q2, q3, rfl⟩
theorem ringTimes_ev (f : (Nat) → (Nat → Int) → (Nat → Int) → (Nat → Int) → (Nat → Int) → (Nat → Int) → (Nat → Int) → (Nat → Int) → (Nat → Int) → (Nat → Int) → (Nat) → (Nat → Int) → Option Bool) (n0 : Nat) (x0_0 : Nat → Int) (x0_1 : Nat → Int) (x0_2 : Nat → Int) (x0_3 : Nat → Int) (x0_4 : Nat → Int) (x0_5 : Nat → Int) (x0_6 : Nat → Int) (x0_7 : Nat → Int) (x0_8 : Nat → Int) (n1 : Nat) (x1_0 : Nat → Int) : F_astrolabelaw13_RingTimes f [.r (.c (.fs n0 9 [.i .i64 x0_0, .i .i64 x0_1, .i .i64 x0_2, .i .i64 x0_3, .i .i64 x0_4, .i .i64 x0_5, .i .i64 x0_6, .i .i64 x0_7, .i .i64 x0_8])), .r (.c (.fs n1 1 [.i .i64 x1_0]))] [] = .opt (f n0 x0_0 x0_1 x0_2 x0_3 x0_4 x0_5 x0_6 x0_7 x0_8 n1 x1_0) fun d => .leaf ⟨.r (.c (.f (.b d))), [], []⟩ := by kernel_rfl
theorem ringTimes_trues : Trues (F_astrolabelaw13_RingTimes f_astrolabelaw13_RingTimes) [.sl [.i .i64, .i .i64, .i .i64, .i .i64, .i .i64, .i .i64, .i .i64, .i .i64, .i .i64], .sl [.i .i64]] := fun ds h => by
  obtain ⟨n0, c0, _, rfl, m0, q0_0, g0⟩ := fit_sl h
  obtain ⟨x0_0, _, rfl, r0_0, q0_1⟩ := col_i q0_0
  obtain ⟨x0_1, _, rfl, r0_1, q0_2⟩ := col_i q0_1
  obtain ⟨x0_2, _, rfl, r0_2, q0_3⟩ := col_i q0_2
  obtain ⟨x0_3, _, rfl, r0_3, q0_4⟩ := col_i q0_3
  obtain ⟨x0_4, _, rfl, r0_4, q0_5⟩ := col_i q0_4
  obtain ⟨x0_5, _, rfl, r0_5, q0_6⟩ := col_i q0_5
  obtain ⟨x0_6, _, rfl, r0_6, q0_7⟩ := col_i q0_6
  obtain ⟨x0_7, _, rfl, r0_7, q0_8⟩ := col_i q0_7
  obtain ⟨x0_8, _, rfl, r0_8, q0_9⟩ := col_i q0_8
  obtain rfl := col_nil q0_9
  obtain ⟨n1, c1, _, rfl, m1, q1_0, g1⟩ := fit_sl g0
  obtain ⟨x1_0, _, rfl, r1_0, q1_1⟩ := col_i q1_0
  obtain rfl := col_nil q1_1
  obtain rfl := fit_nil g1
  refine ⟨[], (congrArg T.eval (ringTimes_ev f_astrolabelaw13_RingTimes n0 x0_0 x0_1 x0_2 x0_3 x0_4 x0_5 x0_6 x0_7 x0_8 n1 x1_0)).trans ?_⟩
  rw [ringTimes_plain n0 x0_0 x0_1 x0_2 x0_3 x0_4 x0_5 x0_6 x0_7 x0_8 n1 x1_0 m0 r0_0 r0_1 r0_2 r0_3 r0_4 r0_5 r0_6 r0_7 r0_8 m1 r1_0]
  rfl
set_option maxRecDepth 100000 in
theorem ringTimes_lifted (os : Os) (started : os.Started) (H : Type) (enc : TypeId × Value → H) (F : Stop.Interp) :
    ReturnsInHanded {} Try.checked os 7 .any ((Rows.OpenSpec.upto Rows.ringTimesSpec).pre6 enc Try.prog Try.f7 Rows.ringTimesUptoRow.domain false) (((Rows.OpenSpec.upto Rows.ringTimesSpec).at F).post enc Try.prog Try.f7 false true false false) :=
  law_lift_cond (C := Try.checked) (s := (Rows.OpenSpec.upto Rows.ringTimesSpec)) (kc := Rows.uptoSmall) rfl (tb := Try.f7.resultTypes.getD 0 0) own started (by kernel_rfl) Try.func7 laid (by kernel_rfl) (by kernel_rfl) (by kernel_rfl) rfl
    (fun ds h => by
      have h : ds.length = 2 := h.trans (by kernel_rfl)
      match ds, h with
      | [_, _], _ => rfl)
    (OpenSpec.witness (enc := enc) (C := Try.checked) (s := (Rows.OpenSpec.upto Rows.ringTimesSpec)) (k := Rows.uptoSmall) rfl false ⟨#[], #[.slice none 0 0, .slice none 0 0], []⟩ 8 (by kernel_rfl) (by kernel_rfl) (by kernel_rfl) (x := ([.nil, .nil], [], [])) (by kernel_rfl) (by kernel_rfl) (by kernel_rfl))
    (fun W base args ds ps _ hval ht _ _ => prm_calls (pr := [.sl [.i .i64, .i .i64, .i .i64, .i .i64, .i .i64, .i .i64, .i .i64, .i .i64, .i .i64], .sl [.i .i64]]) s_astrolabelaw13_RingTimes (by kernel_rfl) (ts := Try.f7.params.toList) (by kernel_rfl) ringTimes_trues hval ht)
theorem ringTimes_over : Rows.ringTimesUptoRow.holds Try.pinned (Rows.OpenSpec.upto Rows.ringTimesSpec) :=
  OpenClaim.holds_of_cond 7 Try.f7 rfl rfl rfl rfl rfl rfl rfl ⟨rfl, rfl, rfl, rfl, rfl⟩ rfl rfl rfl rfl rfl (by kernel_rfl) Try.func7 (by kernel_rfl)
    (of_decide_eq_true (by kernel_rfl)) (by unfold Func.isWrapper; first | (rw [if_pos (by decide +kernel)]; kernel_rfl) | (rw [if_neg (by decide +kernel)]; exact ⟨rfl, rfl⟩))
    (fun os started H enc _ F => ringTimes_lifted os started H enc F)
/-- the statement -/
theorem ringTimes_proved : Rows.RingTimesUptoSaid := ringTimes_over
#print axioms ringTimes_proved
end Go.Proofs.Ythbnojedlbeglaa
