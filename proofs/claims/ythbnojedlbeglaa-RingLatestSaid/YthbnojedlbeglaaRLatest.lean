/-
  A full buffer keeps the latest samples: the statement of astrolabelaw13.RingLatest; no condition.
-/
import Derived.Test.YthbnojedlbeglaaRG7
import Derived.Test.YthbnojedlbeglaaRW
import Derived.Test.YthbnojedlbeglaaAbLaw
import Derived.Test.YthbnojedlbeglaaAbInv
set_option maxRecDepth 100000
set_option maxHeartbeats 4000000
set_option linter.unusedVariables false
set_option linter.unusedSimpArgs false
namespace Go.Proofs.Ythbnojedlbeglaa
open Go.Ab
theorem ring_awake : f_astrolabelaw13_awake = some true := by kernel_rfl
/-- the buffer has the last ones of the document's list -/
def LI (size : Int) (i m : Nat) (g0 g1 g2 g3 g4 g5 g6 g7 g8 : Nat → Int) (mw : Nat) (h0 h1 h2 h3 h4 h5 h6 h7 h8 : Nat → Int) : Prop :=
  Srt (tab mw (row h0 h1 h2 h3 h4 h5 h6 h7 h8)) ∧ mw ≤ i ∧ (m : Int) ≤ size ∧ (m = mw ∨ (m : Int) = size) ∧ m ≤ mw ∧ tab m (row g0 g1 g2 g3 g4 g5 g6 g7 g8) = (tab mw (row h0 h1 h2 h3 h4 h5 h6 h7 h8)).drop (mw - m) ∧ ∀ s, s ∈ tab mw (row h0 h1 h2 h3 h4 h5 h6 h7 h8) → s.1 ≤ 9223372036854775807
section
variable (size : Int) (n : Nat) (x1 x2 x3 x4 x5 x6 x7 x8 x9 : Nat → Int)
theorem latest_go {i : Nat} (hi : i < n) (hn : n ≤ 150) (hz1 : 1 ≤ size) (hz2 : size ≤ 64) (hx : x1 i ≤ 9223372036854775807) (c0 c1 c2 c3 c4 N0 N1 N2 N3 N4 : Int) (m mw : Nat) (g0 g1 g2 g3 g4 g5 g6 g7 g8 h0 h1 h2 h3 h4 h5 h6 h7 h8 : Nat → Int) (I : LI size i m g0 g1 g2 g3 g4 g5 g6 g7 g8 mw h0 h1 h2 h3 h4 h5 h6 h7 h8) :
    ∃ c0' c1' c2' c3' c4' N0' N1' N2' N3' N4' m' mw' g0' g1' g2' g3' g4' g5' g6' g7' g8' h0' h1' h2' h3' h4' h5' h6' h7' h8', LI size (i + 1) m' g0' g1' g2' g3' g4' g5' g6' g7' g8' mw' h0' h1' h2' h3' h4' h5' h6' h7' h8' ∧ ∀ c k, S_astrolabelaw13_RingLatest_0 (ρ := Bool) f_astrolabelaw13_awake f_ring_New f___ring_Buffer__Put f_astrolaberef13_Put f___ring_Buffer__Pop size n x1 x2 x3 x4 x5 x6 x7 x8 x9 (Int.ofNat i) false c0 c1 c2 c3 c4 size m true (-9223372036854775808) 192 0 mw true (-9223372036854775808) N0 N1 N2 N3 N4 m g0 g1 g2 g3 g4 g5 g6 g7 g8 mw h0 h1 h2 h3 h4 h5 h6 h7 h8 c k =
      c (size, n, x1, x2, x3, x4, x5, x6, x7, x8, x9, Int.ofNat (i + 1), false, c0', c1', c2', c3', c4', size, m', true, (-9223372036854775808), 192, 0, mw', true, (-9223372036854775808), N0', N1', N2', N3', N4', m', g0', g1', g2', g3', g4', g5', g6', g7', g8', mw', h0', h1', h2', h3', h4', h5', h6', h7', h8') := by
  obtain ⟨i1, i2, i3, i4, i5, i6, i7⟩ := I
  have e : decide (Int.ofNat i < Int.ofNat n) = true := by simp only [Int.ofNat_eq_natCast]; exact decide_eq_true (by omega)
  have e2 : inR (Int.ofNat i) n = true := by unfold inR; simp only [Int.ofNat_eq_natCast, Bool.and_eq_true, decide_eq_true_eq]; omega
  have e3 : Int.toNat (Int.ofNat i) = i := by simp
  have e4 : IntKind.wrap IntKind.i64 (Int.ofNat i + 1) = Int.ofNat (i + 1) := (wrap_i64 (by simp only [Int.ofNat_eq_natCast]; omega) (by simp only [Int.ofNat_eq_natCast]; omega)).trans rfl
  have e5 : Nat.beq m m = true := Nat.beq_refl m
  have e6 : Nat.beq mw mw = true := Nat.beq_refl mw
  by_cases hl : x1 i ≤ (-9223372036854775808)
  · have hp := put_late (x1 i) (x2 i) (x3 i) (x4 i) (x5 i) (x6 i) (x7 i) (x8 i) (x9 i) c0 c1 c2 c3 c4 size m (-9223372036854775808) g0 g1 g2 g3 g4 g5 g6 g7 g8 true hl
    have hq := refput_late (x1 i) (x2 i) (x3 i) (x4 i) (x5 i) (x6 i) (x7 i) (x8 i) (x9 i) 192 mw (-9223372036854775808) N0 N1 N2 N3 N4 h0 h1 h2 h3 h4 h5 h6 h7 h8 true hl
    refine ⟨IntKind.wrap .i64 (c0 + 1), IntKind.wrap .i64 (c1 + 1), c2, c3, c4, IntKind.wrap .i64 (N0 + 1), IntKind.wrap .i64 (N1 + 1), N2, N3, N4, m, mw, g0, g1, g2, g3, g4, g5, g6, g7, g8, h0, h1, h2, h3, h4, h5, h6, h7, h8, ⟨i1, by omega, i3, i4, i5, i6, i7⟩, fun c k => ?_⟩
    unfold S_astrolabelaw13_RingLatest_0
    simp only [e, e2, e3, e4, e5, e6, Nat.zero_add, hp, hq, cond_true, cond_false, Option.bind_some, Bool.and_true]
  · have hsA : Srt (tab m (row g0 g1 g2 g3 g4 g5 g6 g7 g8)) := by rw [i6]; exact List.Pairwise.sublist (List.drop_sublist _ _) i1
    obtain ⟨ret, full, m', g0', g1', g2', g3', g4', g5', g6', g7', g8', hp, ht, _, _⟩ := put_in (x1 i) (x2 i) (x3 i) (x4 i) (x5 i) (x6 i) (x7 i) (x8 i) (x9 i) c0 c1 c2 c3 c4 size m (-9223372036854775808) g0 g1 g2 g3 g4 g5 g6 g7 g8 (by omega) (by omega) hsA
    obtain ⟨h0', h1', h2', h3', h4', h5', h6', h7', h8', hw, hq⟩ := refput_in (x1 i) (x2 i) (x3 i) (x4 i) (x5 i) (x6 i) (x7 i) (x8 i) (x9 i) 192 mw (-9223372036854775808) N0 N1 N2 N3 N4 h0 h1 h2 h3 h4 h5 h6 h7 h8 (by omega) (by omega) i1
    rw [if_neg (by omega)] at hq
    refine ⟨IntKind.wrap .i64 (c0 + 1), c1, full, c3, c4, IntKind.wrap .i64 (N0 + 1), N1, N2, N3, N4, m', mw + 1, g0', g1', g2', g3', g4', g5', g6', g7', g8', h0', h1', h2', h3', h4', h5', h6', h7', h8', ?_, fun c k => ?_⟩
    · have hlt := congrArg List.length ht
      refine ⟨by rw [hw]; exact ins_srt _ _ i1, by omega, ?_⟩
      have hmax : ∀ s, s ∈ tab (mw + 1) (row h0' h1' h2' h3' h4' h5' h6' h7' h8') → s.1 ≤ 9223372036854775807 := fun s hs => by
        rw [hw] at hs
        rcases (ins_mem _ _ _).1 hs with rfl | hs
        · exact hx
        · exact i7 s hs
      by_cases hr : ((m + 1 : Nat) : Int) ≤ size
      · rw [if_pos hr] at ht hlt
        rw [tab_length, ins_length, tab_length] at hlt
        subst hlt
        have hmw : m = mw := by
          rcases i4 with h | h
          · exact h
          · omega
        subst hmw
        refine ⟨by omega, .inl rfl, by omega, ?_, hmax⟩
        rw [ht, hw, i6, Nat.sub_self, Nat.sub_self, List.drop_zero, List.drop_zero]
      · rw [if_neg hr] at ht hlt
        rw [tab_length, List.length_tail, ins_length, tab_length] at hlt
        have hlt : m' = m := by omega
        subst hlt
        refine ⟨i3, .inr (by omega), by omega, ?_, hmax⟩
        rw [ht, hw, i6, ins_drop _ _ _ i1]
        congr 1
        omega
    · unfold S_astrolabelaw13_RingLatest_0
      simp only [e, e2, e3, e4, e5, e6, Nat.zero_add, hp, hq, cond_true, cond_false, Option.bind_some, Bool.and_true]
theorem latest_end (c0 c1 c2 c3 c4 N0 N1 N2 N3 N4 : Int) (m mw : Nat) (g0 g1 g2 g3 g4 g5 g6 g7 g8 h0 h1 h2 h3 h4 h5 h6 h7 h8 : Nat → Int) (c) (k) : S_astrolabelaw13_RingLatest_0 (ρ := Bool) f_astrolabelaw13_awake f_ring_New f___ring_Buffer__Put f_astrolaberef13_Put f___ring_Buffer__Pop size n x1 x2 x3 x4 x5 x6 x7 x8 x9 (Int.ofNat n) false c0 c1 c2 c3 c4 size m true (-9223372036854775808) 192 0 mw true (-9223372036854775808) N0 N1 N2 N3 N4 m g0 g1 g2 g3 g4 g5 g6 g7 g8 mw h0 h1 h2 h3 h4 h5 h6 h7 h8 c k = k (size, n, x1, x2, x3, x4, x5, x6, x7, x8, x9, Int.ofNat n, false, Int.ofNat n, false, c0, c1, c2, c3, c4, size, m, true, (-9223372036854775808), 192, 0, mw, true, (-9223372036854775808), N0, N1, N2, N3, N4, m, g0, g1, g2, g3, g4, g5, g6, g7, g8, mw, h0, h1, h2, h3, h4, h5, h6, h7, h8) := by
  have e : decide (Int.ofNat n < Int.ofNat n) = false := decide_eq_false (by omega)
  unfold S_astrolabelaw13_RingLatest_0
  rw [e, cond_false]
end
theorem latest_look (k d mw : Nat) (hk : k ≤ 150) (hmw : mw ≤ 150) (hd : d + k ≤ mw) (N0 N1 N2 N3 N4 : Int) (g0 g1 g2 g3 g4 g5 g6 g7 g8 h0 h1 h2 h3 h4 h5 h6 h7 h8 : Nat → Int) (hsame : ∀ j, j < k → row g0 g1 g2 g3 g4 g5 g6 g7 g8 j = row h0 h1 h2 h3 h4 h5 h6 h7 h8 (d + j)) (u : Unit → Option Bool) (v) (hv : ∀ y, v y = some true) :
    L_astrolabelaw13_RingLatest_1 (k, Int.ofNat d, 0, 192, 0, mw, true, (-9223372036854775808), N0, N1, N2, N3, N4, k, g0, g1, g2, g3, g4, g5, g6, g7, g8, mw, h0, h1, h2, h3, h4, h5, h6, h7, h8) (Sum.elim u v) = some true := by
  unfold L_astrolabelaw13_RingLatest_1
  refine loopK_inv (fun t e => ∃ i : Nat, i + t = k ∧ e = (k, Int.ofNat d, Int.ofNat i, 192, 0, mw, true, (-9223372036854775808), N0, N1, N2, N3, N4, k, g0, g1, g2, g3, g4, g5, g6, g7, g8, mw, h0, h1, h2, h3, h4, h5, h6, h7, h8)) ?_ 200 k _ (by omega) ⟨0, by omega, rfl⟩
  rintro t _ c ⟨i, hi, rfl⟩ hc
  unfold S_astrolabelaw13_RingLatest_1
  rcases Nat.eq_zero_or_pos t with ht | ht
  · obtain rfl : i = k := by omega
    have e : decide (Int.ofNat i < Int.ofNat i) = false := decide_eq_false (by omega)
    simp only [e, cond_false, Sum.elim_inr]
    exact hv _
  · have e : decide (Int.ofNat i < Int.ofNat k) = true := by simp only [Int.ofNat_eq_natCast]; exact decide_eq_true (by omega)
    have e2 : inR (Int.ofNat i) k = true := by unfold inR; simp only [Int.ofNat_eq_natCast, Bool.and_eq_true, decide_eq_true_eq]; omega
    have e3 : Int.toNat (Int.ofNat i) = i := by simp
    have e4 : IntKind.wrap IntKind.i64 (Int.ofNat i + 1) = Int.ofNat (i + 1) := (wrap_i64 (by simp only [Int.ofNat_eq_natCast]; omega) (by simp only [Int.ofNat_eq_natCast]; omega)).trans rfl
    have e5 : IntKind.wrap IntKind.i64 (Int.ofNat d + Int.ofNat i) = Int.ofNat (d + i) := (wrap_i64 (by simp only [Int.ofNat_eq_natCast]; omega) (by simp only [Int.ofNat_eq_natCast]; omega)).trans rfl
    have e6 : inR (Int.ofNat (d + i)) mw = true := by unfold inR; simp only [Int.ofNat_eq_natCast, Bool.and_eq_true, decide_eq_true_eq]; omega
    have e7 : Int.toNat (Int.ofNat (d + i)) = d + i := rfl
    have := hsame i (by omega)
    simp only [row] at this
    simp only [e, e2, e3, e4, e5, e6, e7, Nat.zero_add, eq9, decide_eq_true this, cond_true, cond_false, Bool.not_true]
    exact hc (t - 1) _ (by omega) ⟨i + 1, by omega, rfl⟩
theorem ringLatest_plain (size : Int) (n : Nat) (x1 x2 x3 x4 x5 x6 x7 x8 x9 : Nat → Int) (hsz : IntKind.min .i64 ≤ size ∧ size ≤ IntKind.max .i64) (hml : n ≤ maxLen) (b0 : ∀ j, j < n → IntKind.min .i64 ≤ x1 j ∧ x1 j ≤ IntKind.max .i64) (b1 : ∀ j, j < n → IntKind.min .i64 ≤ x2 j ∧ x2 j ≤ IntKind.max .i64) (b2 : ∀ j, j < n → IntKind.min .i64 ≤ x3 j ∧ x3 j ≤ IntKind.max .i64) (b3 : ∀ j, j < n → IntKind.min .i64 ≤ x4 j ∧ x4 j ≤ IntKind.max .i64) (b4 : ∀ j, j < n → IntKind.min .i64 ≤ x5 j ∧ x5 j ≤ IntKind.max .i64) (b5 : ∀ j, j < n → IntKind.min .i64 ≤ x6 j ∧ x6 j ≤ IntKind.max .i64) (b6 : ∀ j, j < n → IntKind.min .i64 ≤ x7 j ∧ x7 j ≤ IntKind.max .i64) (b7 : ∀ j, j < n → IntKind.min .i64 ≤ x8 j ∧ x8 j ≤ IntKind.max .i64) (b8 : ∀ j, j < n → IntKind.min .i64 ≤ x9 j ∧ x9 j ≤ IntKind.max .i64) : f_astrolabelaw13_RingLatest size n x1 x2 x3 x4 x5 x6 x7 x8 x9 = some true := by
  unfold f_astrolabelaw13_RingLatest
  generalize hl0 : @L_astrolabelaw13_RingLatest_0 = l0
  unfold K_astrolabelaw13_RingLatest
  rw [ring_awake, Option.bind_some, Bool.not_true, cond_false]
  by_cases hz1 : size < 1
  · have hnew : f_ring_New size = some (.inl ()) := by
      unfold f_ring_New K_ring_New
      rw [decide_eq_true hz1, cond_true]
    rw [hnew, Option.bind_some, cond_true, Option.bind_some]
  by_cases hz2 : size > 64
  · have hnew : f_ring_New size = some (.inl ()) := by
      unfold f_ring_New K_ring_New
      rw [decide_eq_false hz1, cond_false, decide_eq_true hz2, cond_true]
    rw [hnew, Option.bind_some, cond_true, Option.bind_some]
  have hnew : f_ring_New size = some (.inr (size, fun _ => 0)) := by
    unfold f_ring_New K_ring_New
    rw [decide_eq_false hz1, cond_false, decide_eq_false hz2, cond_false]
  rw [hnew, Option.bind_some, cond_false, Option.bind_some]
  by_cases h150 : Int.ofNat n > 150
  · rw [decide_eq_true h150, cond_true]
  rw [decide_eq_false h150, cond_false]
  have hn : n ≤ 150 := by simp only [Int.ofNat_eq_natCast] at h150; omega
  subst hl0
  refine loopK_inv (fun t e => ∃ (i : Nat) (c0 c1 c2 c3 c4 N0 N1 N2 N3 N4 : Int) (m mw : Nat) (g0 g1 g2 g3 g4 g5 g6 g7 g8 h0 h1 h2 h3 h4 h5 h6 h7 h8 : Nat → Int), i + t = n ∧ LI size i m g0 g1 g2 g3 g4 g5 g6 g7 g8 mw h0 h1 h2 h3 h4 h5 h6 h7 h8 ∧ e = (size, n, x1, x2, x3, x4, x5, x6, x7, x8, x9, Int.ofNat i, false, c0, c1, c2, c3, c4, size, m, true, (-9223372036854775808), 192, 0, mw, true, (-9223372036854775808), N0, N1, N2, N3, N4, m, g0, g1, g2, g3, g4, g5, g6, g7, g8, mw, h0, h1, h2, h3, h4, h5, h6, h7, h8)) ?_ 200 n _ (by omega)
    ⟨0, 0, 0, 0, 0, 0, 0, 0, 0, 0, 0, 0, 0, fun _ => 0, fun _ => 0, fun _ => 0, fun _ => 0, fun _ => 0, fun _ => 0, fun _ => 0, fun _ => 0, fun _ => 0, fun _ => 0, fun _ => 0, fun _ => 0, fun _ => 0, fun _ => 0, fun _ => 0, fun _ => 0, fun _ => 0, fun _ => 0, by omega, ⟨List.Pairwise.nil, by omega, by omega, .inl rfl, by omega, rfl, fun s hs => by cases hs⟩, rfl⟩
  rintro t _ c ⟨i, c0, c1, c2, c3, c4, N0, N1, N2, N3, N4, m, mw, g0, g1, g2, g3, g4, g5, g6, g7, g8, h0, h1, h2, h3, h4, h5, h6, h7, h8, hi, I, rfl⟩ hc
  rcases Nat.eq_zero_or_pos t with ht0 | ht0
  · obtain rfl : i = n := by omega
    refine (latest_end size i x1 x2 x3 x4 x5 x6 x7 x8 x9 c0 c1 c2 c3 c4 N0 N1 N2 N3 N4 m mw g0 g1 g2 g3 g4 g5 g6 g7 g8 h0 h1 h2 h3 h4 h5 h6 h7 h8 c _).trans ?_
    obtain ⟨i1, i2, i3, i4, i5, i6, i7⟩ := I
    have hgh : ∀ j, j < m → row g0 g1 g2 g3 g4 g5 g6 g7 g8 j = row h0 h1 h2 h3 h4 h5 h6 h7 h8 (mw - m + j) := fun j hj => by
      have := congrArg (fun l => l[j]?) i6
      simp only [List.getElem?_drop] at this
      rw [tab_get _ hj, tab_get _ (by omega)] at this
      exact Option.some.inj this
    obtain ⟨k, r0, r1, r2, r3, r4, r5, r6, r7, r8, hk1, u1, v1, w1, z1⟩ := pop_eq 9223372036854775807 c0 c1 c2 c3 c4 size m (-9223372036854775808) g0 g1 g2 g3 g4 g5 g6 g7 g8 (by omega)
    have hkm : k = m := by
      rcases Nat.lt_or_ge k m with hlt | hge
      · have h1 : (row g0 g1 g2 g3 g4 g5 g6 g7 g8 k).1 ≤ 9223372036854775807 := by
          rw [hgh k hlt]
          exact i7 _ (List.mem_iff_getElem?.2 ⟨mw - m + k, tab_get _ (by omega)⟩)
        exact absurd h1 (v1 hlt)
      · omega
    subst hkm
    have e1 : decide (Int.ofNat k > size) = false := decide_eq_false (by simp only [Int.ofNat_eq_natCast]; omega)
    have e2 : IntKind.wrap IntKind.i64 (Int.ofNat mw - Int.ofNat k) = Int.ofNat (mw - k) := by
      simp only [Int.ofNat_eq_natCast]
      rw [wrap_i64 (by omega) (by omega)]; omega
    have e3 : decide (Int.ofNat (mw - k) < 0) = false := decide_eq_false (by simp only [Int.ofNat_eq_natCast]; omega)
    have hlook := fun u v hv => latest_look k (mw - k) mw (by omega) (by omega) (by omega) N0 N1 N2 N3 N4 g0 g1 g2 g3 g4 g5 g6 g7 g8 h0 h1 h2 h3 h4 h5 h6 h7 h8 hgh u v hv
    simp only [Nat.beq_refl, Nat.zero_add, cond_true, cond_false, Bool.and_true, z1, Option.bind_some, e1, e2, e3]
    cases e4 : decide (Int.ofNat k < size)
    · rw [cond_false]
      exact hlook _ _ fun _ => rfl
    · have e5 : decide (Int.ofNat (mw - k) > 0) = false := decide_eq_false (by
        have := of_decide_eq_true e4
        simp only [Int.ofNat_eq_natCast] at this ⊢
        rcases i4 with h | h <;> omega)
      rw [cond_true, e5, cond_false]
      exact hlook _ _ fun _ => rfl
  · obtain ⟨c0', c1', c2', c3', c4', N0', N1', N2', N3', N4', m', mw', g0', g1', g2', g3', g4', g5', g6', g7', g8', h0', h1', h2', h3', h4', h5', h6', h7', h8', q1, q2⟩ := latest_go size n x1 x2 x3 x4 x5 x6 x7 x8 x9 (i := i) (by omega) hn (by omega) (by omega) (b0 i (by omega)).2 c0 c1 c2 c3 c4 N0 N1 N2 N3 N4 m mw g0 g1 g2 g3 g4 g5 g6 g7 g8 h0 h1 h2 h3 h4 h5 h6 h7 h8 I
    refine (q2 c _).trans ?_
    exact hc (t - 1) _ (by omega) ⟨i + 1, c0', c1', c2', c3', c4', N0', N1', N2', N3', N4', m', mw', g0', g1', g2', g3', g4', g5', g6', g7', g8', h0', h1', h2', h3', h4', h5', h6', h7', h8', by omega, q1, rfl⟩
theorem ringLatest_ev (f : (Int) → (Nat) → (Nat → Int) → (Nat → Int) → (Nat → Int) → (Nat → Int) → (Nat → Int) → (Nat → Int) → (Nat → Int) → (Nat → Int) → (Nat → Int) → Option Bool) (x0_0 : Int) (n1 : Nat) (x1_0 : Nat → Int) (x1_1 : Nat → Int) (x1_2 : Nat → Int) (x1_3 : Nat → Int) (x1_4 : Nat → Int) (x1_5 : Nat → Int) (x1_6 : Nat → Int) (x1_7 : Nat → Int) (x1_8 : Nat → Int) : F_astrolabelaw13_RingLatest f [.r (.c (.f (.i .i64 x0_0))), .r (.c (.fs n1 9 [.i .i64 x1_0, .i .i64 x1_1, .i .i64 x1_2, .i .i64 x1_3, .i .i64 x1_4, .i .i64 x1_5, .i .i64 x1_6, .i .i64 x1_7, .i .i64 x1_8]))] [] = .opt (f x0_0 n1 x1_0 x1_1 x1_2 x1_3 x1_4 x1_5 x1_6 x1_7 x1_8) fun d => .leaf ⟨.r (.c (.f (.b d))), [], []⟩ := by kernel_rfl
theorem ringLatest_trues : Trues (F_astrolabelaw13_RingLatest f_astrolabelaw13_RingLatest) [.flat false [.c (.i .i64)], .sl [.i .i64, .i .i64, .i .i64, .i .i64, .i .i64, .i .i64, .i .i64, .i .i64, .i .i64]] := fun ds h => by
  obtain ⟨_, _, rfl, q0_0, g0⟩ := fit_flat h
  obtain ⟨x0_0, _, rfl, r0_0, q0_1⟩ := f1_i q0_0
  obtain rfl := f1_nil q0_1
  obtain ⟨n1, c1, _, rfl, m1, q1_0, g1⟩ := fit_sl g0
  obtain ⟨x1_0, _, rfl, r1_0, q1_1⟩ := col_i q1_0
  obtain ⟨x1_1, _, rfl, r1_1, q1_2⟩ := col_i q1_1
  obtain ⟨x1_2, _, rfl, r1_2, q1_3⟩ := col_i q1_2
  obtain ⟨x1_3, _, rfl, r1_3, q1_4⟩ := col_i q1_3
  obtain ⟨x1_4, _, rfl, r1_4, q1_5⟩ := col_i q1_4
  obtain ⟨x1_5, _, rfl, r1_5, q1_6⟩ := col_i q1_5
  obtain ⟨x1_6, _, rfl, r1_6, q1_7⟩ := col_i q1_6
  obtain ⟨x1_7, _, rfl, r1_7, q1_8⟩ := col_i q1_7
  obtain ⟨x1_8, _, rfl, r1_8, q1_9⟩ := col_i q1_8
  obtain rfl := col_nil q1_9
  obtain rfl := fit_nil g1
  refine ⟨[], (congrArg T.eval (ringLatest_ev f_astrolabelaw13_RingLatest x0_0 n1 x1_0 x1_1 x1_2 x1_3 x1_4 x1_5 x1_6 x1_7 x1_8)).trans ?_⟩
  rw [ringLatest_plain x0_0 n1 x1_0 x1_1 x1_2 x1_3 x1_4 x1_5 x1_6 x1_7 x1_8 r0_0 m1 r1_0 r1_1 r1_2 r1_3 r1_4 r1_5 r1_6 r1_7 r1_8]
  rfl
set_option maxRecDepth 100000 in
theorem ringLatest_lifted (os : Os) (started : os.Started) (H : Type) (enc : TypeId × Value → H) :
    ReturnsInHanded {} Try.checked os 6 .any (Rows.ringLatestSpec.pre6 enc Try.prog Try.f6 Rows.ringLatestRow.domain false) (Rows.ringLatestSpec.post enc Try.prog Try.f6 false true false false) :=
  law_lift (C := Try.checked) (tb := Try.f6.resultTypes.getD 0 0) own started (by kernel_rfl) Try.func6 laid (by kernel_rfl) (by kernel_rfl) (by kernel_rfl) rfl
    (fun ds h => by
      have h : ds.length = 2 := h.trans (by kernel_rfl)
      match ds, h with
      | [_, _], _ => rfl)
    (ChangeSpec.witness6 (enc := enc) (C := Try.checked) false ⟨#[], #[.int .i64 0, .slice none 0 0], []⟩ 8 (by kernel_rfl) (by kernel_rfl) (by kernel_rfl) (by kernel_rfl))
    (fun W base args ds ps _ hval ht _ _ _ => prm_calls (pr := [.flat false [.c (.i .i64)], .sl [.i .i64, .i .i64, .i .i64, .i .i64, .i .i64, .i .i64, .i .i64, .i .i64, .i .i64]]) s_astrolabelaw13_RingLatest (by kernel_rfl) (ts := Try.f6.params.toList) (by kernel_rfl) ringLatest_trues hval ht)
theorem ringLatest_over : Rows.ringLatestRow.holds Try.pinned (OpenSpec.ofChange Rows.ringLatestSpec) :=
  OpenClaim.holds_of_wide 6 Try.f6 rfl rfl rfl rfl rfl rfl rfl ⟨rfl, rfl, rfl, rfl, rfl⟩ rfl rfl rfl rfl rfl (by kernel_rfl) Try.func6 (by kernel_rfl)
    (of_decide_eq_true (by kernel_rfl)) (by unfold Func.isWrapper; first | (rw [if_pos (by decide +kernel)]; kernel_rfl) | (rw [if_neg (by decide +kernel)]; exact ⟨rfl, rfl⟩))
    (fun os started H enc _ => ringLatest_lifted os started H enc)
/-- the statement -/
theorem ringLatest_proved : Rows.RingLatestSaid := ringLatest_over
#print axioms ringLatest_proved
end Go.Proofs.Ythbnojedlbeglaa
