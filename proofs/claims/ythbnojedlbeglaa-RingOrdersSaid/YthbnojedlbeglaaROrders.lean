/-
  In whatever order samples are put in, if none is dropped, they come out the same: the statement of astrolabelaw13.RingOrders; no condition.
-/
import Derived.Test.YthbnojedlbeglaaRG4
import Derived.Test.YthbnojedlbeglaaRP
import Derived.Test.YthbnojedlbeglaaAbLaw
import Derived.Test.YthbnojedlbeglaaAbInv
set_option maxRecDepth 100000
set_option maxHeartbeats 4000000
set_option linter.unusedVariables false
set_option linter.unusedSimpArgs false
namespace Go.Proofs.Ythbnojedlbeglaa
open Go.Ab
theorem ring_awake : f_astrolabelaw13_awake = some true := by kernel_rfl
theorem less_eq (g0 g1 g2 g3 g4 g5 g6 g7 g8 h0 h1 h2 h3 h4 h5 h6 h7 h8 : Int) : f_astrolaberef13_Less g0 g1 g2 g3 g4 g5 g6 g7 g8 h0 h1 h2 h3 h4 h5 h6 h7 h8 = some (lt (g0, g1, g2, g3, g4, g5, g6, g7, g8) (h0, h1, h2, h3, h4, h5, h6, h7, h8)) := by
  unfold f_astrolaberef13_Less K_astrolaberef13_Less lt ltP
  simp only
  cases g0 != h0 <;> try rfl
  cases g1 != h1 <;> try rfl
  cases g2 != h2 <;> try rfl
  cases g3 != h3 <;> try rfl
  cases g4 != h4 <;> try rfl
  cases g5 != h5 <;> try rfl
  cases g6 != h6 <;> try rfl
  cases g7 != h7 <;> try rfl
  cases e : g8 != h8
  · have : g8 = h8 := by simpa using e
    subst this
    simp [ltI]
  · rfl
theorem ins_perm (s : Smp) : ∀ l, (ins s l).Perm (s :: l)
  | [] => List.Perm.refl _
  | a :: l => by
    unfold ins
    cases lt a s
    · exact List.Perm.refl _
    · exact ((ins_perm s l).cons a).trans (List.Perm.swap s a l)
/-- what stands in a buffer that was given the samples f 0, f 1 .. f (i - 1) -/
def inOrd (s : Smp) : Bool := decide ((-9223372036854775808) < s.1)
def RS (i : Nat) (f : Nat → Smp) (c : Int) (m : Nat) (g0 g1 g2 g3 g4 g5 g6 g7 g8 : Nat → Int) : Prop := Srt (tab m (row g0 g1 g2 g3 g4 g5 g6 g7 g8)) ∧ (tab m (row g0 g1 g2 g3 g4 g5 g6 g7 g8)).Perm (((List.range i).map f).filter inOrd) ∧ m ≤ i ∧ c = ((i - m : Nat) : Int)
theorem filter_step (i : Nat) (f : Nat → Smp) : ((List.range (i + 1)).map f).filter inOrd = ((List.range i).map f).filter inOrd ++ (if inOrd (f i) = true then [f i] else []) := by
  rw [List.range_succ, List.map_append, List.filter_append]
  congr 1
  simp only [List.map_cons, List.map_nil, List.filter_cons, List.filter_nil]
theorem put_step {i : Nat} (hi : i < 64) (f : Nat → Smp) (c0 c : Int) (m : Nat) (g0 g1 g2 g3 g4 g5 g6 g7 g8 : Nat → Int) (y0 y1 y2 y3 y4 y5 y6 y7 y8 : Int) (hf : f i = (y0, y1, y2, y3, y4, y5, y6, y7, y8)) (R : RS i f c m g0 g1 g2 g3 g4 g5 g6 g7 g8) :
    (f___ring_Buffer__Put y0 y1 y2 y3 y4 y5 y6 y7 y8 c0 c 0 0 0 64 m (-9223372036854775808) g0 g1 g2 g3 g4 g5 g6 g7 g8 true = some (.inl (IntKind.wrap .i64 (c0 + 1), ((i + 1 - m : Nat) : Int), 0, 0, 0, 64, m, true, (-9223372036854775808))) ∧ RS (i + 1) f ((i + 1 - m : Nat) : Int) m g0 g1 g2 g3 g4 g5 g6 g7 g8) ∨
    ∃ m' g0' g1' g2' g3' g4' g5' g6' g7' g8', f___ring_Buffer__Put y0 y1 y2 y3 y4 y5 y6 y7 y8 c0 c 0 0 0 64 m (-9223372036854775808) g0 g1 g2 g3 g4 g5 g6 g7 g8 true = some (.inr (true, IntKind.wrap .i64 (c0 + 1), c, 0, 0, 0, 64, m', (-9223372036854775808), g0', g1', g2', g3', g4', g5', g6', g7', g8')) ∧ RS (i + 1) f c m' g0' g1' g2' g3' g4' g5' g6' g7' g8' := by
  obtain ⟨hs, hp, hm, hc⟩ := R
  by_cases hl : y0 ≤ (-9223372036854775808)
  · left
    have h1 := put_late y0 y1 y2 y3 y4 y5 y6 y7 y8 c0 c 0 0 0 64 m (-9223372036854775808) g0 g1 g2 g3 g4 g5 g6 g7 g8 true hl
    have e : IntKind.wrap .i64 (c + 1) = ((i + 1 - m : Nat) : Int) := by rw [wrap_i64 (by omega) (by omega)]; omega
    rw [e] at h1
    refine ⟨h1, hs, ?_, by omega, rfl⟩
    rw [filter_step, if_neg (by rw [hf]; unfold inOrd; simp only [decide_eq_true_eq]; omega), List.append_nil]
    exact hp
  · right
    obtain ⟨ret, full, m', g0', g1', g2', g3', g4', g5', g6', g7', g8', h1, ht, h2, h3⟩ := put_in y0 y1 y2 y3 y4 y5 y6 y7 y8 c0 c 0 0 0 64 m (-9223372036854775808) g0 g1 g2 g3 g4 g5 g6 g7 g8 (by omega) (by omega) hs
    have hz : ((m + 1 : Nat) : Int) ≤ 64 := by omega
    rw [if_pos hz] at ht h2 h3
    subst h2 h3
    have hlen := congrArg List.length ht
    rw [tab_length, ins_length, tab_length] at hlen
    refine ⟨m', g0', g1', g2', g3', g4', g5', g6', g7', g8', h1, ?_, ?_, by omega, by omega⟩
    · rw [ht]; exact ins_srt _ _ hs
    · rw [ht, filter_step, if_pos (by rw [hf]; unfold inOrd; simp only [decide_eq_true_eq]; omega), hf]
      exact (ins_perm _ _).trans ((hp.cons _).trans (List.perm_append_comm (l₁ := [(y0, y1, y2, y3, y4, y5, y6, y7, y8)])))
/-- the other order -/
def turned (n t j : Nat) : Nat := (n - 1 - j + t) % n
theorem turned_perm (n t : Nat) (hn : 0 < n) : ((List.range n).map (turned n t)).Perm (List.range n) := by
  have ht0 : t % n < n := Nat.mod_lt _ hn
  have e : (List.range n).map (turned n t) = (List.range (t % n)).reverse ++ (List.range' (t % n) (n - t % n)).reverse := by
    refine List.ext_getElem? fun j => ?_
    have hq : turned n t j = (n - 1 - j + t % n) % n := by
      unfold turned
      rw [Nat.add_mod, Nat.add_mod (n - 1 - j) (t % n), Nat.mod_mod]
    generalize t % n = s at *
    rw [List.getElem?_map, List.getElem?_append, List.length_reverse, List.length_range]
    by_cases h1 : j < n
    · rw [List.getElem?_range h1]
      by_cases h2 : j < s
      · rw [if_pos h2, List.getElem?_reverse (by rw [List.length_range]; exact h2), List.length_range, List.getElem?_range (by omega)]
        simp only [Option.map_some, Option.some.injEq]
        rw [hq, show n - 1 - j + s = n + (s - 1 - j) by omega, Nat.add_mod_left, Nat.mod_eq_of_lt (by omega)]
      · rw [if_neg h2, List.getElem?_reverse (by rw [List.length_range']; omega), List.length_range', List.getElem?_range' (by omega)]
        simp only [Option.map_some, Option.some.injEq]
        rw [hq, Nat.mod_eq_of_lt (by omega)]
        omega
    · rw [List.getElem?_eq_none (by rw [List.length_range]; omega), if_neg (by omega), List.getElem?_eq_none (by rw [List.length_reverse, List.length_range']; omega)]
      rfl
  rw [e]
  refine ((List.reverse_perm _).append (List.reverse_perm _)).trans ?_
  rw [List.range_eq_range', List.range_eq_range', show List.range' (t % n) (n - t % n) = List.range' (0 + t % n) (n - t % n) by rw [Nat.zero_add], List.range'_append_1, show t % n + (n - t % n) = n by omega]
section
variable (n : Nat) (x1 x2 x3 x4 x5 x6 x7 x8 x9 : Nat → Int) (turn upto : Int)
theorem orders_go {i : Nat} (hi : i < n) (hn : n ≤ 64) (c0 ca cb : Int) (ma mb : Nat) (g0 g1 g2 g3 g4 g5 g6 g7 g8 h0 h1 h2 h3 h4 h5 h6 h7 h8 : Nat → Int) (RA : RS i (row x1 x2 x3 x4 x5 x6 x7 x8 x9) ca ma g0 g1 g2 g3 g4 g5 g6 g7 g8) (RB : RS i (fun j => row x1 x2 x3 x4 x5 x6 x7 x8 x9 (turned n (BitVec.toNat (BitVec.ofInt 64 turn &&& BitVec.ofInt 64 1023)) j)) cb mb h0 h1 h2 h3 h4 h5 h6 h7 h8) :
    ∃ c0' ca' cb' ma' mb' g0' g1' g2' g3' g4' g5' g6' g7' g8' h0' h1' h2' h3' h4' h5' h6' h7' h8', RS (i + 1) (row x1 x2 x3 x4 x5 x6 x7 x8 x9) ca' ma' g0' g1' g2' g3' g4' g5' g6' g7' g8' ∧ RS (i + 1) (fun j => row x1 x2 x3 x4 x5 x6 x7 x8 x9 (turned n (BitVec.toNat (BitVec.ofInt 64 turn &&& BitVec.ofInt 64 1023)) j)) cb' mb' h0' h1' h2' h3' h4' h5' h6' h7' h8' ∧ ∀ c k, S_astrolabelaw13_RingOrders_0 (ρ := Bool) f_astrolabelaw13_awake f_ring_New f___ring_Buffer__Put f___ring_Buffer__Pop f_astrolaberef13_Less f___ring_Buffer__Len n x1 x2 x3 x4 x5 x6 x7 x8 x9 turn upto (Int.ofNat i) (Int.ofNat n) c0 ca 0 0 0 64 ma true (-9223372036854775808) c0 cb 0 0 0 64 mb true (-9223372036854775808) ma g0 g1 g2 g3 g4 g5 g6 g7 g8 mb h0 h1 h2 h3 h4 h5 h6 h7 h8 c k =
      c (n, x1, x2, x3, x4, x5, x6, x7, x8, x9, turn, upto, Int.ofNat (i + 1), Int.ofNat n, c0', ca', 0, 0, 0, 64, ma', true, (-9223372036854775808), c0', cb', 0, 0, 0, 64, mb', true, (-9223372036854775808), ma', g0', g1', g2', g3', g4', g5', g6', g7', g8', mb', h0', h1', h2', h3', h4', h5', h6', h7', h8') := by
  have e : decide (Int.ofNat i < Int.ofNat n) = true := by simp only [Int.ofNat_eq_natCast]; exact decide_eq_true (by omega)
  have e2 : inR (Int.ofNat i) n = true := by unfold inR; simp only [Int.ofNat_eq_natCast, Bool.and_eq_true, decide_eq_true_eq]; omega
  have e3 : Int.toNat (Int.ofNat i) = i := by simp
  have e4 : IntKind.wrap IntKind.i64 (Int.ofNat i + 1) = Int.ofNat (i + 1) := (wrap_i64 (by simp only [Int.ofNat_eq_natCast]; omega) (by simp only [Int.ofNat_eq_natCast]; omega)).trans rfl
  have e5 : Nat.beq ma ma = true := Nat.beq_refl ma
  have e6 : Nat.beq mb mb = true := Nat.beq_refl mb
  have e7 : decide (Int.ofNat n = 0) = false := by simp only [Int.ofNat_eq_natCast]; exact decide_eq_false (by omega)
  have ht : BitVec.toNat (BitVec.ofInt 64 turn &&& BitVec.ofInt 64 1023) ≤ 1023 := by
    rw [BitVec.toNat_and]
    exact Nat.le_trans Nat.and_le_right (by decide)
  generalize htt : BitVec.toNat (BitVec.ofInt 64 turn &&& BitVec.ofInt 64 1023) = tt at ht RB ⊢
  have e8 : Int.tmod (IntKind.wrap IntKind.i64 (IntKind.wrap IntKind.i64 (IntKind.wrap IntKind.i64 (Int.ofNat n - 1) - Int.ofNat i) + IntKind.wrap IntKind.i64 (Int.ofNat tt))) (Int.ofNat n) = Int.ofNat (turned n tt i) := by
    have e0 : IntKind.wrap IntKind.i64 (IntKind.wrap IntKind.i64 (IntKind.wrap IntKind.i64 (Int.ofNat n - 1) - Int.ofNat i) + IntKind.wrap IntKind.i64 (Int.ofNat tt)) = Int.ofNat (n - 1 - i + tt) := by
      simp only [Int.ofNat_eq_natCast]
      rw [wrap_i64 (n := (n : Int) - 1) (by omega) (by omega), wrap_i64 (n := (tt : Int)) (by omega) (by omega), wrap_i64 (n := (n : Int) - 1 - i) (by omega) (by omega), wrap_i64 (by omega) (by omega)]
      omega
    rw [e0]; rfl
  have htl : turned n tt i < n := Nat.mod_lt _ (by omega)
  have e9 : inR (Int.ofNat (turned n tt i)) n = true := by unfold inR; simp only [Int.ofNat_eq_natCast, Bool.and_eq_true, decide_eq_true_eq]; omega
  have e10 : Int.toNat (Int.ofNat (turned n tt i)) = turned n tt i := by simp
  rcases put_step (by omega) (row x1 x2 x3 x4 x5 x6 x7 x8 x9) c0 ca ma g0 g1 g2 g3 g4 g5 g6 g7 g8 (x1 i) (x2 i) (x3 i) (x4 i) (x5 i) (x6 i) (x7 i) (x8 i) (x9 i) rfl RA with ⟨pa, RA'⟩ | ⟨ma', g0', g1', g2', g3', g4', g5', g6', g7', g8', pa, RA'⟩ <;>
    rcases put_step (by omega) (fun j => row x1 x2 x3 x4 x5 x6 x7 x8 x9 (turned n tt j)) c0 cb mb h0 h1 h2 h3 h4 h5 h6 h7 h8 (x1 (turned n tt i)) (x2 (turned n tt i)) (x3 (turned n tt i)) (x4 (turned n tt i)) (x5 (turned n tt i)) (x6 (turned n tt i)) (x7 (turned n tt i)) (x8 (turned n tt i)) (x9 (turned n tt i)) rfl RB with ⟨pb, RB'⟩ | ⟨mb', h0', h1', h2', h3', h4', h5', h6', h7', h8', pb, RB'⟩
  · refine ⟨IntKind.wrap .i64 (c0 + 1), _, _, _, _, g0, g1, g2, g3, g4, g5, g6, g7, g8, h0, h1, h2, h3, h4, h5, h6, h7, h8, RA', RB', fun c k => ?_⟩
    unfold S_astrolabelaw13_RingOrders_0
    simp only [htt, e, e2, e3, e4, e5, e6, e7, e8, e9, e10, pa, pb, cond_true, cond_false, Option.bind_some, Bool.and_true, Bool.not_false]
  · refine ⟨IntKind.wrap .i64 (c0 + 1), _, _, _, _, g0, g1, g2, g3, g4, g5, g6, g7, g8, h0', h1', h2', h3', h4', h5', h6', h7', h8', RA', RB', fun c k => ?_⟩
    unfold S_astrolabelaw13_RingOrders_0
    simp only [htt, e, e2, e3, e4, e5, e6, e7, e8, e9, e10, pa, pb, cond_true, cond_false, Option.bind_some, Bool.and_true, Bool.not_false]
  · refine ⟨IntKind.wrap .i64 (c0 + 1), _, _, _, _, g0', g1', g2', g3', g4', g5', g6', g7', g8', h0, h1, h2, h3, h4, h5, h6, h7, h8, RA', RB', fun c k => ?_⟩
    unfold S_astrolabelaw13_RingOrders_0
    simp only [htt, e, e2, e3, e4, e5, e6, e7, e8, e9, e10, pa, pb, cond_true, cond_false, Option.bind_some, Bool.and_true, Bool.not_false]
  · refine ⟨IntKind.wrap .i64 (c0 + 1), _, _, _, _, g0', g1', g2', g3', g4', g5', g6', g7', g8', h0', h1', h2', h3', h4', h5', h6', h7', h8', RA', RB', fun c k => ?_⟩
    unfold S_astrolabelaw13_RingOrders_0
    simp only [htt, e, e2, e3, e4, e5, e6, e7, e8, e9, e10, pa, pb, cond_true, cond_false, Option.bind_some, Bool.and_true, Bool.not_false]
theorem orders_end (c0 ca cb : Int) (ma mb : Nat) (g0 g1 g2 g3 g4 g5 g6 g7 g8 h0 h1 h2 h3 h4 h5 h6 h7 h8 : Nat → Int) (c) (k) : S_astrolabelaw13_RingOrders_0 (ρ := Bool) f_astrolabelaw13_awake f_ring_New f___ring_Buffer__Put f___ring_Buffer__Pop f_astrolaberef13_Less f___ring_Buffer__Len n x1 x2 x3 x4 x5 x6 x7 x8 x9 turn upto (Int.ofNat n) (Int.ofNat n) c0 ca 0 0 0 64 ma true (-9223372036854775808) c0 cb 0 0 0 64 mb true (-9223372036854775808) ma g0 g1 g2 g3 g4 g5 g6 g7 g8 mb h0 h1 h2 h3 h4 h5 h6 h7 h8 c k = k (n, x1, x2, x3, x4, x5, x6, x7, x8, x9, turn, upto, Int.ofNat n, Int.ofNat n, Int.ofNat n, false, c0, ca, 0, 0, 0, 64, ma, true, (-9223372036854775808), c0, cb, 0, 0, 0, 64, mb, true, (-9223372036854775808), ma, g0, g1, g2, g3, g4, g5, g6, g7, g8, mb, h0, h1, h2, h3, h4, h5, h6, h7, h8) := by
  have e : decide (Int.ofNat n < Int.ofNat n) = false := decide_eq_false (by omega)
  unfold S_astrolabelaw13_RingOrders_0
  rw [e, cond_false]
end
theorem orders_look (upto z : Int) (k : Nat) (hk : k ≤ 150) (a1 a2 a3 a4 a5 a6 a8 b1 b2 b3 b4 b5 b6 b8 : Int) (a7 b7 : Nat) (g0 g1 g2 g3 g4 g5 g6 g7 g8 h0 h1 h2 h3 h4 h5 h6 h7 h8 r0 r1 r2 r3 r4 r5 r6 r7 r8 q0 q1 q2 q3 q4 q5 q6 q7 q8 : Nat → Int) (hsame : ∀ j, j < k → row g0 g1 g2 g3 g4 g5 g6 g7 g8 j = row h0 h1 h2 h3 h4 h5 h6 h7 h8 j) (hup : ∀ j, j < k → g0 j ≤ upto) (hs : ∀ j, j + 1 < k → lt (row g0 g1 g2 g3 g4 g5 g6 g7 g8 (j + 1)) (row g0 g1 g2 g3 g4 g5 g6 g7 g8 j) = false) (u : Unit → Option Bool) (v) :
    L_astrolabelaw13_RingOrders_1 (upto, k, k, 0, z, a1, a2, a3, a4, a5, a6, a7, a8, b1, b2, b3, b4, b5, b6, b7, b8, k, g0, g1, g2, g3, g4, g5, g6, g7, g8, k, h0, h1, h2, h3, h4, h5, h6, h7, h8, a7, r0, r1, r2, r3, r4, r5, r6, r7, r8, b7, q0, q1, q2, q3, q4, q5, q6, q7, q8) (Sum.elim u v) = v (upto, k, k, Int.ofNat k, z, Int.ofNat k, false, a1, a2, a3, a4, a5, a6, a7, a8, b1, b2, b3, b4, b5, b6, b7, b8, k, g0, g1, g2, g3, g4, g5, g6, g7, g8, k, h0, h1, h2, h3, h4, h5, h6, h7, h8, a7, r0, r1, r2, r3, r4, r5, r6, r7, r8, b7, q0, q1, q2, q3, q4, q5, q6, q7, q8) := by
  unfold L_astrolabelaw13_RingOrders_1
  refine loopK_inv (fun t d => ∃ i : Nat, i + t = k ∧ d = (upto, k, k, Int.ofNat i, z, a1, a2, a3, a4, a5, a6, a7, a8, b1, b2, b3, b4, b5, b6, b7, b8, k, g0, g1, g2, g3, g4, g5, g6, g7, g8, k, h0, h1, h2, h3, h4, h5, h6, h7, h8, a7, r0, r1, r2, r3, r4, r5, r6, r7, r8, b7, q0, q1, q2, q3, q4, q5, q6, q7, q8)) ?_ 200 k _ (by omega) ⟨0, by omega, rfl⟩
  rintro t _ c ⟨i, hi, rfl⟩ hc
  unfold S_astrolabelaw13_RingOrders_1
  rcases Nat.eq_zero_or_pos t with h0 | h0
  · obtain rfl : i = k := by omega
    have e : decide (Int.ofNat i < Int.ofNat i) = false := decide_eq_false (by omega)
    simp only [e, cond_false, Sum.elim_inr]
  · have e : decide (Int.ofNat i < Int.ofNat k) = true := by simp only [Int.ofNat_eq_natCast]; exact decide_eq_true (by omega)
    have e2 : inR (Int.ofNat i) k = true := by unfold inR; simp only [Int.ofNat_eq_natCast, Bool.and_eq_true, decide_eq_true_eq]; omega
    have e3 : Int.toNat (Int.ofNat i) = i := by simp
    have e4 : IntKind.wrap IntKind.i64 (Int.ofNat i + 1) = Int.ofNat (i + 1) := (wrap_i64 (by simp only [Int.ofNat_eq_natCast]; omega) (by simp only [Int.ofNat_eq_natCast]; omega)).trans rfl
    have e5 : decide (g0 i > upto) = false := decide_eq_false (by have := hup i (by omega); omega)
    have := hsame i (by omega)
    simp only [row] at this
    rcases Nat.eq_zero_or_pos i with hi0 | hi0
    · have e6 : decide (Int.ofNat i > 0) = false := by simp only [Int.ofNat_eq_natCast]; exact decide_eq_false (by omega)
      simp only [e, e2, e3, e4, e5, e6, eq9, decide_eq_true this, cond_true, cond_false, Bool.not_true]
      exact hc (t - 1) _ (by omega) ⟨i + 1, by omega, rfl⟩
    · have e6 : decide (Int.ofNat i > 0) = true := by simp only [Int.ofNat_eq_natCast]; exact decide_eq_true (by omega)
      have e7 : IntKind.wrap IntKind.i64 (Int.ofNat i - 1) = Int.ofNat (i - 1) := (wrap_i64 (by simp only [Int.ofNat_eq_natCast]; omega) (by simp only [Int.ofNat_eq_natCast]; omega)).trans (by simp only [Int.ofNat_eq_natCast]; omega)
      have e8 : inR (Int.ofNat (i - 1)) k = true := by unfold inR; simp only [Int.ofNat_eq_natCast, Bool.and_eq_true, decide_eq_true_eq]; omega
      have e9 : Int.toNat (Int.ofNat (i - 1)) = i - 1 := by simp
      have hs1 := hs (i - 1) (by omega)
      rw [show i - 1 + 1 = i by omega] at hs1
      simp only [row] at hs1
      simp only [e, e2, e3, e4, e5, e6, e7, e8, e9, less_eq, hs1, eq9, decide_eq_true this, cond_true, cond_false, Bool.not_true, Option.bind_some]
      exact hc (t - 1) _ (by omega) ⟨i + 1, by omega, rfl⟩
theorem ringOrders_plain (n : Nat) (x1 x2 x3 x4 x5 x6 x7 x8 x9 : Nat → Int) (turn upto : Int) : f_astrolabelaw13_RingOrders n x1 x2 x3 x4 x5 x6 x7 x8 x9 turn upto = some true := by
  unfold f_astrolabelaw13_RingOrders
  generalize hl0 : @L_astrolabelaw13_RingOrders_0 = l0
  unfold K_astrolabelaw13_RingOrders
  rw [ring_awake, Option.bind_some, Bool.not_true, cond_false]
  by_cases h64 : Int.ofNat n > 64
  · rw [decide_eq_true h64, cond_true]
  rw [decide_eq_false h64, cond_false]
  have hn : n ≤ 64 := by simp only [Int.ofNat_eq_natCast] at h64; omega
  have hnew : f_ring_New 64 = some (.inr (64, fun _ => 0)) := by kernel_rfl
  rw [hnew, Option.bind_some, cond_false, Option.bind_some, Option.bind_some, cond_false, Option.bind_some]
  subst hl0
  refine loopK_inv (fun t d => ∃ (i : Nat) (c0 ca cb : Int) (ma mb : Nat) (g0 g1 g2 g3 g4 g5 g6 g7 g8 h0 h1 h2 h3 h4 h5 h6 h7 h8 : Nat → Int), i + t = n ∧ RS i (row x1 x2 x3 x4 x5 x6 x7 x8 x9) ca ma g0 g1 g2 g3 g4 g5 g6 g7 g8 ∧ RS i (fun j => row x1 x2 x3 x4 x5 x6 x7 x8 x9 (turned n (BitVec.toNat (BitVec.ofInt 64 turn &&& BitVec.ofInt 64 1023)) j)) cb mb h0 h1 h2 h3 h4 h5 h6 h7 h8 ∧
    d = (n, x1, x2, x3, x4, x5, x6, x7, x8, x9, turn, upto, Int.ofNat i, Int.ofNat n, c0, ca, 0, 0, 0, 64, ma, true, (-9223372036854775808), c0, cb, 0, 0, 0, 64, mb, true, (-9223372036854775808), ma, g0, g1, g2, g3, g4, g5, g6, g7, g8, mb, h0, h1, h2, h3, h4, h5, h6, h7, h8)) ?_ 200 n _ (by omega) ⟨0, 0, 0, 0, 0, 0, fun _ => 0, fun _ => 0, fun _ => 0, fun _ => 0, fun _ => 0, fun _ => 0, fun _ => 0, fun _ => 0, fun _ => 0, fun _ => 0, fun _ => 0, fun _ => 0, fun _ => 0, fun _ => 0, fun _ => 0, fun _ => 0, fun _ => 0, fun _ => 0, by omega, ⟨List.Pairwise.nil, List.Perm.refl _, by omega, rfl⟩, ⟨List.Pairwise.nil, List.Perm.refl _, by omega, rfl⟩, rfl⟩
  rintro t _ c ⟨i, c0, ca, cb, ma, mb, g0, g1, g2, g3, g4, g5, g6, g7, g8, h0, h1, h2, h3, h4, h5, h6, h7, h8, hi, RA, RB, rfl⟩ hc
  rcases Nat.eq_zero_or_pos t with ht0 | ht0
  · obtain rfl : i = n := by omega
    refine (orders_end i x1 x2 x3 x4 x5 x6 x7 x8 x9 turn upto c0 ca cb ma mb g0 g1 g2 g3 g4 g5 g6 g7 g8 h0 h1 h2 h3 h4 h5 h6 h7 h8 c _).trans ?_
    have hall : tab ma (row g0 g1 g2 g3 g4 g5 g6 g7 g8) = tab mb (row h0 h1 h2 h3 h4 h5 h6 h7 h8) := by
      refine List.Perm.eq_of_pairwise (le := fun a b => lt b a = false) (fun a b _ _ h1 h2 => lt_tri h2 h1) RA.1 RB.1 (RA.2.1.trans (List.Perm.trans ?_ RB.2.1.symm))
      rcases Nat.eq_zero_or_pos i with hz | hz
      · subst hz; exact List.Perm.refl _
      · refine List.Perm.filter _ ?_
        have := (turned_perm i (BitVec.toNat (BitVec.ofInt 64 turn &&& BitVec.ofInt 64 1023)) hz).map (row x1 x2 x3 x4 x5 x6 x7 x8 x9)
        rw [List.map_map] at this
        exact this.symm
    have hm : ma = mb := by
      have := congrArg List.length hall
      rwa [tab_length, tab_length] at this
    subst hm
    have hgh : ∀ j, j < ma → row g0 g1 g2 g3 g4 g5 g6 g7 g8 j = row h0 h1 h2 h3 h4 h5 h6 h7 h8 j := fun j hj => by
      have := congrArg (fun l => l[j]?) hall
      rw [tab_get _ hj, tab_get _ hj] at this
      exact Option.some.inj this
    have hgh0 : ∀ j, j < ma → g0 j = h0 j := fun j hj => congrArg Prod.fst (hgh j hj)
    obtain rfl : ca = cb := RA.2.2.2.trans RB.2.2.2.symm
    have hma := RA.2.2.1
    obtain ⟨k, r0, r1, r2, r3, r4, r5, r6, r7, r8, hk1, u1, v1, w1, z1⟩ := pop_eq upto c0 ca 0 0 0 64 ma (-9223372036854775808) g0 g1 g2 g3 g4 g5 g6 g7 g8 (by omega)
    obtain ⟨k2, q0, q1, q2, q3, q4, q5, q6, q7, q8, hk2, u2, v2, w2, z2⟩ := pop_eq upto c0 ca 0 0 0 64 ma (-9223372036854775808) h0 h1 h2 h3 h4 h5 h6 h7 h8 (by omega)
    have hkk : k = k2 := by
      rcases Nat.lt_trichotomy k k2 with hl | hl | hl
      · have q1 := u2 k hl
        rw [← hgh0 k (by omega)] at q1
        exact absurd q1 (v1 (by omega))
      · exact hl
      · have q1 := u1 k2 hl
        rw [hgh0 k2 (by omega)] at q1
        exact absurd q1 (v2 (by omega))
    subst hkk
    have ene : (Int.ofNat k != Int.ofNat k) = false := by simp
    simp only [Nat.beq_refl, cond_true, cond_false, Bool.and_true, z1, Option.bind_some, z2, ene, beq_self_eq_true, Bool.not_true]
    rw [orders_look upto _ k (by omega) _ _ _ _ _ _ _ _ _ _ _ _ _ _ _ _ g0 g1 g2 g3 g4 g5 g6 g7 g8 h0 h1 h2 h3 h4 h5 h6 h7 h8 r0 r1 r2 r3 r4 r5 r6 r7 r8 q0 q1 q2 q3 q4 q5 q6 q7 q8 (fun j hj => hgh j (by omega)) u1 (fun j hj => tab_srt RA.1 (by omega) (by omega))]
    simp only [Nat.beq_refl, cond_true, f___ring_Buffer__Len, K___ring_Buffer__Len, Option.bind_some, beq_self_eq_true]
  · obtain ⟨c0', ca', cb', ma', mb', g0', g1', g2', g3', g4', g5', g6', g7', g8', h0', h1', h2', h3', h4', h5', h6', h7', h8', h1, h2, h3⟩ := orders_go n x1 x2 x3 x4 x5 x6 x7 x8 x9 turn upto (i := i) (by omega) hn c0 ca cb ma mb g0 g1 g2 g3 g4 g5 g6 g7 g8 h0 h1 h2 h3 h4 h5 h6 h7 h8 RA RB
    refine (h3 c _).trans ?_
    exact hc (t - 1) _ (by omega) ⟨i + 1, c0', ca', cb', ma', mb', g0', g1', g2', g3', g4', g5', g6', g7', g8', h0', h1', h2', h3', h4', h5', h6', h7', h8', by omega, h1, h2, rfl⟩
theorem ringOrders_ev (f : (Nat) → (Nat → Int) → (Nat → Int) → (Nat → Int) → (Nat → Int) → (Nat → Int) → (Nat → Int) → (Nat → Int) → (Nat → Int) → (Nat → Int) → (Int) → (Int) → Option Bool) (n0 : Nat) (x0_0 : Nat → Int) (x0_1 : Nat → Int) (x0_2 : Nat → Int) (x0_3 : Nat → Int) (x0_4 : Nat → Int) (x0_5 : Nat → Int) (x0_6 : Nat → Int) (x0_7 : Nat → Int) (x0_8 : Nat → Int) (x1_0 : Int) (x2_0 : Int) : F_astrolabelaw13_RingOrders f [.r (.c (.fs n0 9 [.i .i64 x0_0, .i .i64 x0_1, .i .i64 x0_2, .i .i64 x0_3, .i .i64 x0_4, .i .i64 x0_5, .i .i64 x0_6, .i .i64 x0_7, .i .i64 x0_8])), .r (.c (.f (.i .i64 x1_0))), .r (.c (.f (.i .i64 x2_0)))] [] = .opt (f n0 x0_0 x0_1 x0_2 x0_3 x0_4 x0_5 x0_6 x0_7 x0_8 x1_0 x2_0) fun d => .leaf ⟨.r (.c (.f (.b d))), [], []⟩ := by kernel_rfl
theorem ringOrders_trues : Trues (F_astrolabelaw13_RingOrders f_astrolabelaw13_RingOrders) [.sl [.i .i64, .i .i64, .i .i64, .i .i64, .i .i64, .i .i64, .i .i64, .i .i64, .i .i64], .flat false [.c (.i .i64)], .flat false [.c (.i .i64)]] := fun ds h => by
  obtain ⟨n0, c0, _, rfl, m0, q0_0, g0⟩ := fit_sl h
  obtain ⟨x0_0, _, rfl, r0_0, q0_1⟩ := col_i q0_0
  obtain ⟨x0_1, _, rfl, r0_1, q0_2⟩ := col_i q0_1
  obtain ⟨x0_2, _, rfl, r0_2, q0_3⟩ := col_i q0_2
  obtain ⟨x0_3, _, rfl, r0_3, q0_4⟩ := col_i q0_3
  obtain ⟨x0_4, _, rfl, r0_4, q0_5⟩ := col_i q0_4
  obtain ⟨x0_5, _, rfl, r0_5, q0_6⟩ := col_i q0_5
  obtain ⟨x0_6, _, rfl, r0_6, q0_7⟩ := col_i q0_6
  obtain ⟨x0_7, _, rfl, r0_7, q0_8⟩ := col_i q0_7
  obtain ⟨x0_8, _, rfl, r0_8, q0_9⟩ := col_i q0_8
  obtain rfl := col_nil q0_9
  obtain ⟨_, _, rfl, q1_0, g1⟩ := fit_flat g0
  obtain ⟨x1_0, _, rfl, r1_0, q1_1⟩ := f1_i q1_0
  obtain rfl := f1_nil q1_1
  obtain ⟨_, _, rfl, q2_0, g2⟩ := fit_flat g1
  obtain ⟨x2_0, _, rfl, r2_0, q2_1⟩ := f1_i q2_0
  obtain rfl := f1_nil q2_1
  obtain rfl := fit_nil g2
  refine ⟨[], (congrArg T.eval (ringOrders_ev f_astrolabelaw13_RingOrders n0 x0_0 x0_1 x0_2 x0_3 x0_4 x0_5 x0_6 x0_7 x0_8 x1_0 x2_0)).trans ?_⟩
  rw [ringOrders_plain n0 x0_0 x0_1 x0_2 x0_3 x0_4 x0_5 x0_6 x0_7 x0_8 x1_0 x2_0]
  rfl
set_option maxRecDepth 100000 in
theorem ringOrders_lifted (os : Os) (started : os.Started) (H : Type) (enc : TypeId × Value → H) :
    ReturnsInHanded {} Try.checked os 5 .any (Rows.ringOrdersSpec.pre6 enc Try.prog Try.f5 Rows.ringOrdersRow.domain false) (Rows.ringOrdersSpec.post enc Try.prog Try.f5 false true false false) :=
  law_lift (C := Try.checked) (tb := Try.f5.resultTypes.getD 0 0) own started (by kernel_rfl) Try.func5 laid (by kernel_rfl) (by kernel_rfl) (by kernel_rfl) rfl
    (fun ds h => by
      have h : ds.length = 3 := h.trans (by kernel_rfl)
      match ds, h with
      | [_, _, _], _ => rfl)
    (ChangeSpec.witness6 (enc := enc) (C := Try.checked) false ⟨#[], #[.slice none 0 0, .int .i64 0, .int .i64 0], []⟩ 8 (by kernel_rfl) (by kernel_rfl) (by kernel_rfl) (by kernel_rfl))
    (fun W base args ds ps _ hval ht _ _ _ => prm_calls (pr := [.sl [.i .i64, .i .i64, .i .i64, .i .i64, .i .i64, .i .i64, .i .i64, .i .i64, .i .i64], .flat false [.c (.i .i64)], .flat false [.c (.i .i64)]]) s_astrolabelaw13_RingOrders (by kernel_rfl) (ts := Try.f5.params.toList) (by kernel_rfl) ringOrders_trues hval ht)
theorem ringOrders_over : Rows.ringOrdersRow.holds Try.pinned (OpenSpec.ofChange Rows.ringOrdersSpec) :=
  OpenClaim.holds_of_wide 5 Try.f5 rfl rfl rfl rfl rfl rfl rfl ⟨rfl, rfl, rfl, rfl, rfl⟩ rfl rfl rfl rfl rfl (by kernel_rfl) Try.func5 (by kernel_rfl)
    (of_decide_eq_true (by kernel_rfl)) (by unfold Func.isWrapper; first | (rw [if_pos (by decide +kernel)]; kernel_rfl) | (rw [if_neg (by decide +kernel)]; exact ⟨rfl, rfl⟩))
    (fun os started H enc _ => ringOrders_lifted os started H enc)
/-- the statement -/
theorem ringOrders_proved : Rows.RingOrdersSaid := ringOrders_over
#print axioms ringOrders_proved
end Go.Proofs.Ythbnojedlbeglaa
