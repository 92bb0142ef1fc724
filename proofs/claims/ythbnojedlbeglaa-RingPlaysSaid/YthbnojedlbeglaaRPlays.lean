/-
  A buffer keeps, drops, tells, counts samples as the document says: the statement of astrolabelaw13.RingPlays; no condition.
-/
import Derived.Test.YthbnojedlbeglaaRGPB
import Derived.Test.YthbnojedlbeglaaRX
import Derived.Test.YthbnojedlbeglaaAbLaw
import Derived.Test.YthbnojedlbeglaaAbInv
set_option maxRecDepth 100000
set_option maxHeartbeats 4000000
set_option linter.unusedVariables false
set_option linter.unusedSimpArgs false
namespace Go.Proofs.Ythbnojedlbeglaa
open Go.Ab
theorem ring_awake : f_astrolabelaw13_awake = some true := by kernel_rfl
theorem peek0 (c0 c1 c2 c3 c4 size hor : Int) (g0 g1 g2 g3 g4 g5 g6 g7 g8 : Nat → Int) : f___ring_Buffer__Peek c0 c1 c2 c3 c4 size 0 hor g0 g1 g2 g3 g4 g5 g6 g7 g8 true = some (0, 0, 0, 0, 0, 0, 0, 0, 0, false) := by
  unfold f___ring_Buffer__Peek K___ring_Buffer__Peek
  rw [show (Int.ofNat 0 == 0) = true from rfl, cond_true]
theorem peek1 (c0 c1 c2 c3 c4 size hor : Int) (m : Nat) (hm : 0 < m) (g0 g1 g2 g3 g4 g5 g6 g7 g8 : Nat → Int) : f___ring_Buffer__Peek c0 c1 c2 c3 c4 size m hor g0 g1 g2 g3 g4 g5 g6 g7 g8 true = some (g0 0, g1 0, g2 0, g3 0, g4 0, g5 0, g6 0, g7 0, g8 0, true) := by
  unfold f___ring_Buffer__Peek K___ring_Buffer__Peek
  have e1 : (Int.ofNat m == 0) = false := by
    cases hh : Int.ofNat m == 0
    · rfl
    · rw [beq_iff_eq] at hh; simp only [Int.ofNat_eq_natCast] at hh; omega
  have e2 : inR 0 m = true := by unfold inR; simp only [Bool.and_eq_true, decide_eq_true_eq]; omega
  rw [e1, cond_false, e2, cond_true]
theorem total_eq (c0 c1 c2 c3 c4 : Int) (h1 : 0 ≤ c1) (h2 : 0 ≤ c2) (h3 : 0 ≤ c3) (h4 : 0 ≤ c4) (hs : c1 + c2 + c3 + c4 ≤ 1000) : f__ring_Counts__Total c0 c1 c2 c3 c4 = some (c1 + c2 + c3 + c4) := by
  unfold f__ring_Counts__Total K__ring_Counts__Total
  rw [wrap_i64 (n := c1 + c2) (by omega) (by omega), wrap_i64 (n := c1 + c2 + c3) (by omega) (by omega), wrap_i64 (by omega) (by omega)]
section
variable (n : Nat) (X1 X2 X3 X4 X5 X6 X7 X8 X9 X10 : Nat → Int) (i : Nat) (b : Bool) (c0 c1 c2 c3 c4 size : Int) (m : Nat) (hor : Int) (off bl : Nat) (g0 g1 g2 g3 g4 g5 g6 g7 g8 : Nat → Int) (bw : Nat) (f0 f1 f2 f3 f4 f5 f6 f7 f8 : Nat → Int)
theorem tail_a (hm : 0 < m) (hm2 : m ≤ 150) (hrow : row g0 g1 g2 g3 g4 g5 g6 g7 g8 0 = row f0 f1 f2 f3 f4 f5 f6 f7 f8 off) (h1 : 0 ≤ c1) (h2 : 0 ≤ c2) (h3 : 0 ≤ c3) (h4 : 0 ≤ c4) (hs : c0 = c1 + c2 + c3 + c4 + m) (hc : c0 ≤ 150) (c) (x : (Unit ⊕ Nat × NI × NI × NI × NI × NI × NI × NI × NI × NI × NI × Int × Bool × Nat × NI × NI × NI × (Nat → Int) × NI × NI × NI × NI × NI × NI × Bool × Int × Int × Int × Int × Int × Int × Int × Int × Int × Int × Int × Int × Int × Int × Int × Int × Int × Int × Int × Bool × Int × Nat × Nat × Bool × Int × Bool × Int × Int × Bool × Bool × Bool × Int × Int × Int × Int × Int × Int × Int × Int × Int × Bool × Int × Int × Int × Bool × Int × Nat × Bool × Int × Int × Nat × NI × NI × NI × NI × NI × NI × NI × NI × NI × Nat × NI × NI × NI × NI × (Nat → Int) × NI × NI × NI × NI ⊕ Nat × NI × NI × NI × NI × NI × NI × NI × NI × NI × NI × Int × Bool × Nat × NI × NI × NI × NI × NI × (Nat → Int) × RGPt22) → Option Bool) :
    S_astrolabelaw13_RingPlays_2 (ρ := Bool) f_astrolabelaw13_awake f_ring_New f___ring_Buffer__Put f_astrolaberef13_Put f___ring_Buffer__Pop f_astrolaberef13_Pop f___ring_Buffer__Spoilt f_astrolaberef13_Spoilt f___ring_Buffer__Peek f___ring_Buffer__Len f___ring_Buffer__Horizon f__ring_Counts__Total n X1 X2 X3 X4 X5 X6 X7 X8 X9 X10 (Int.ofNat i) n X1 X2 X3 X4 X5 X6 X7 X8 X9 X10 b c0 c1 c2 c3 c4 size m true hor size off m true hor c0 c1 c2 c3 c4 bl g0 g1 g2 g3 g4 g5 g6 g7 g8 bw f0 f1 f2 f3 f4 f5 f6 f7 f8 c x = (fun (d : Int × Int × Int × Int × Int × Int × Int × Int × Int × Bool) (d_1 d_2 d_3 d_4 : Int) => x (Sum.inr (Sum.inl (n, X1, X2, X3, X4, X5, X6, X7, X8, X9, X10, (Int.ofNat i), d.c8.2, n, X1, X2, X3, X4, X5, X6, X7, X8, X9, X10, b, d.1, d.2.1, d.2.2.1, d.2.2.2.1, d.c4.1, d.c4.2.1, d.c4.2.2.1, d.c4.2.2.2.1, d.c8.1, c0, c1, c2, c3, c4, c0, c1, c2, c3, c4, !(c0 == c0 && (c1 == c1 && (c2 == c2 && (c3 == c3 && (c4 == c4 && true))))), d_1, off, m, true, Int.ofNat m, d_1 != Int.ofNat m, d_2, hor, d_2 != hor, decide (Int.ofNat m > 0), !d.c8.2 == decide (Int.ofNat m > 0), f0 off, f1 off, f2 off, f3 off, f4 off, f5 off, f6 off, f7 off, f8 off, !(d.1 == f0 off && (d.2.1 == f1 off && (d.2.2.1 == f2 off && (d.2.2.2.1 == f3 off && (d.c4.1 == f4 off && (d.c4.2.1 == f5 off && (d.c4.2.2.1 == f6 off && (d.c4.2.2.2.1 == f7 off && (d.c8.1 == f8 off && true))))))) && true)), d_3, d_4, IntKind.wrap IntKind.i64 (d_3 + d_4), c0 != IntKind.wrap IntKind.i64 (d_3 + d_4), size, m, true, hor, size, bl, g0, g1, g2, g3, g4, g5, g6, g7, g8, bw, f0, f1, f2, f3, f4, f5, f6, f7, f8)))) (g0 0, g1 0, g2 0, g3 0, g4 0, g5 0, g6 0, g7 0, g8 0, true) (Int.ofNat m) hor (c1 + c2 + c3 + c4) (Int.ofNat m) := by
  have e1 := peek1 c0 c1 c2 c3 c4 size hor m hm g0 g1 g2 g3 g4 g5 g6 g7 g8
  have e2 := total_eq c0 c1 c2 c3 c4 h1 h2 h3 h4 (by omega)
  have e3 : decide (Int.ofNat m > 0) = true := decide_eq_true (by simp only [Int.ofNat_eq_natCast]; omega)
  have e4 : inR 0 m = true := by unfold inR; simp only [Bool.and_eq_true, decide_eq_true_eq]; omega
  have e5 : IntKind.wrap .i64 ((c1 + c2 + c3 + c4) + Int.ofNat m) = c0 := by
    simp only [Int.ofNat_eq_natCast]
    rw [wrap_i64 (by omega) (by omega)]; omega
  have e6 : f___ring_Buffer__Len c0 c1 c2 c3 c4 size m hor g0 g1 g2 g3 g4 g5 g6 g7 g8 true = some (Int.ofNat m) := by unfold f___ring_Buffer__Len K___ring_Buffer__Len; rfl
  have e7 : f___ring_Buffer__Horizon c0 c1 c2 c3 c4 size m hor g0 g1 g2 g3 g4 g5 g6 g7 g8 true = some hor := by unfold f___ring_Buffer__Horizon K___ring_Buffer__Horizon; rfl
  simp only [row] at hrow
  unfold S_astrolabelaw13_RingPlays_2
  simp only [Nat.beq_refl, Nat.zero_add, e1, e2, e3, e4, e5, e6, e7, eq9, decide_eq_true hrow, cond_true, cond_false, Option.bind_some, beq_self_eq_true, bne_self_eq_false, Bool.and_self, Bool.not_true, Prod.c4, Prod.c8, Prod.c16]
theorem tail_b (hm : m = 0) (h1 : 0 ≤ c1) (h2 : 0 ≤ c2) (h3 : 0 ≤ c3) (h4 : 0 ≤ c4) (hs : c0 = c1 + c2 + c3 + c4 + m) (hc : c0 ≤ 150) (c) (x : (Unit ⊕ Nat × NI × NI × NI × NI × NI × NI × NI × NI × NI × NI × Int × Bool × Nat × NI × NI × NI × (Nat → Int) × NI × NI × NI × NI × NI × NI × Bool × Int × Int × Int × Int × Int × Int × Int × Int × Int × Int × Int × Int × Int × Int × Int × Int × Int × Int × Int × Bool × Int × Nat × Nat × Bool × Int × Bool × Int × Int × Bool × Bool × Bool × Int × Int × Int × Int × Int × Int × Int × Int × Int × Bool × Int × Int × Int × Bool × Int × Nat × Bool × Int × Int × Nat × NI × NI × NI × NI × NI × NI × NI × NI × NI × Nat × NI × NI × NI × NI × (Nat → Int) × NI × NI × NI × NI ⊕ Nat × NI × NI × NI × NI × NI × NI × NI × NI × NI × NI × Int × Bool × Nat × NI × NI × NI × NI × NI × (Nat → Int) × RGPt22) → Option Bool) :
    S_astrolabelaw13_RingPlays_2 (ρ := Bool) f_astrolabelaw13_awake f_ring_New f___ring_Buffer__Put f_astrolaberef13_Put f___ring_Buffer__Pop f_astrolaberef13_Pop f___ring_Buffer__Spoilt f_astrolaberef13_Spoilt f___ring_Buffer__Peek f___ring_Buffer__Len f___ring_Buffer__Horizon f__ring_Counts__Total n X1 X2 X3 X4 X5 X6 X7 X8 X9 X10 (Int.ofNat i) n X1 X2 X3 X4 X5 X6 X7 X8 X9 X10 b c0 c1 c2 c3 c4 size m true hor size off m true hor c0 c1 c2 c3 c4 bl g0 g1 g2 g3 g4 g5 g6 g7 g8 bw f0 f1 f2 f3 f4 f5 f6 f7 f8 c x = (fun (d : Int × Int × Int × Int × Int × Int × Int × Int × Int × Bool) (d_1 d_2 d_3 d_4 : Int) => x (Sum.inr (Sum.inr (n, X1, X2, X3, X4, X5, X6, X7, X8, X9, X10, (Int.ofNat i), d.c8.2, n, X1, X2, X3, X4, X5, X6, X7, X8, X9, X10, b, d.1, d.2.1, d.2.2.1, d.2.2.2.1, d.c4.1, d.c4.2.1, d.c4.2.2.1, d.c4.2.2.2.1, d.c8.1, c0, c1, c2, c3, c4, c0, c1, c2, c3, c4, !(c0 == c0 && (c1 == c1 && (c2 == c2 && (c3 == c3 && (c4 == c4 && true))))), d_1, off, m, true, Int.ofNat m, d_1 != Int.ofNat m, d_2, hor, d_2 != hor, decide (Int.ofNat m > 0), !d.c8.2 == decide (Int.ofNat m > 0), d_3, d_4, IntKind.wrap IntKind.i64 (d_3 + d_4), c0 != IntKind.wrap IntKind.i64 (d_3 + d_4), size, m, true, hor, size, bl, g0, g1, g2, g3, g4, g5, g6, g7, g8, bw, f0, f1, f2, f3, f4, f5, f6, f7, f8)))) (0, 0, 0, 0, 0, 0, 0, 0, 0, false) (Int.ofNat m) hor (c1 + c2 + c3 + c4) (Int.ofNat m) := by
  subst hm
  have e1 := peek0 c0 c1 c2 c3 c4 size hor g0 g1 g2 g3 g4 g5 g6 g7 g8
  have e2 := total_eq c0 c1 c2 c3 c4 h1 h2 h3 h4 (by omega)
  have e3 : decide (Int.ofNat 0 > 0) = false := rfl
  have e5 : IntKind.wrap .i64 ((c1 + c2 + c3 + c4) + Int.ofNat 0) = c0 := by
    simp only [Int.ofNat_eq_natCast]
    rw [wrap_i64 (by omega) (by omega)]; omega
  have e6 : f___ring_Buffer__Len c0 c1 c2 c3 c4 size 0 hor g0 g1 g2 g3 g4 g5 g6 g7 g8 true = some (Int.ofNat 0) := by unfold f___ring_Buffer__Len K___ring_Buffer__Len; rfl
  have e7 : f___ring_Buffer__Horizon c0 c1 c2 c3 c4 size 0 hor g0 g1 g2 g3 g4 g5 g6 g7 g8 true = some hor := by unfold f___ring_Buffer__Horizon K___ring_Buffer__Horizon; rfl
  unfold S_astrolabelaw13_RingPlays_2
  simp only [Nat.beq_refl, Nat.zero_add, e1, e2, e3, e5, e6, e7, cond_true, cond_false, Option.bind_some, beq_self_eq_true, bne_self_eq_false, Bool.and_true, Bool.not_true, Prod.c4, Prod.c8, Prod.c16]
theorem plays_tail (hm2 : m ≤ 150) (hrow : 0 < m → row g0 g1 g2 g3 g4 g5 g6 g7 g8 0 = row f0 f1 f2 f3 f4 f5 f6 f7 f8 off) (h1 : 0 ≤ c1) (h2 : 0 ≤ c2) (h3 : 0 ≤ c3) (h4 : 0 ≤ c4) (hs : c0 = c1 + c2 + c3 + c4 + m) (hc : c0 ≤ 150) (c : (Nat × NI × NI × NI × NI × NI × NI × NI × NI × NI × NI × Int × Int × Int × Int × Int × Int × Int × Nat × Bool × Int × Int × Nat × Nat × Bool × Int × Int × Int × Int × Int × Int × Nat × NI × (Nat → Int) × RGPt31) → Option Bool) (x : (Unit ⊕ Nat × NI × NI × (Nat → Int) × RGPt32) → Option Bool) :
    L_astrolabelaw13_RingPlays_2 (n, X1, X2, X3, X4, X5, X6, X7, X8, X9, X10, Int.ofNat i, n, X1, X2, X3, X4, X5, X6, X7, X8, X9, X10, b, c0, c1, c2, c3, c4, size, m, true, hor, size, off, m, true, hor, c0, c1, c2, c3, c4, bl, g0, g1, g2, g3, g4, g5, g6, g7, g8, bw, f0, f1, f2, f3, f4, f5, f6, f7, f8) (Sum.elim (fun (d : Unit) => x (Sum.inl ())) (Sum.elim (fun (d : RGPt26) => c (d.1, d.2.1, d.2.2.1, d.2.2.2.1, d.c4.1, d.c4.2.1, d.c4.2.2.1, d.c4.2.2.2.1, d.c8.1, d.c8.2.1, d.c8.2.2.1, IntKind.wrap IntKind.i64 (d.c8.2.2.2.1 + 1), d.c16.c16.2.2.1, d.c16.c16.2.2.2.1, d.c16.c16.c4.1, d.c16.c16.c4.2.1, d.c16.c16.c4.2.2.1, d.c16.c16.c16.c16.c4.2.2.1, d.c16.c16.c16.c16.c4.2.2.2.1, d.c16.c16.c16.c16.c8.1, d.c16.c16.c16.c16.c8.2.1, d.c16.c16.c16.c16.c8.2.2.1, d.c16.c16.c8.c4.2.2.1, d.c16.c16.c8.c4.2.2.2.1, d.c16.c16.c16.1, d.c16.c16.c16.c4.1, d.c16.c16.c4.2.2.2.1, d.c16.c16.c8.1, d.c16.c16.c8.2.1, d.c16.c16.c8.2.2.1, d.c16.c16.c8.2.2.2.1, d.c16.c16.c16.c16.c8.2.2.2.1, d.c16.c16.c16.c16.c8.c4.1, d.c16.c16.c16.c16.c8.c4.2.1, d.c16.c16.c16.c16.c8.c4.2.2.1, d.c16.c16.c16.c16.c8.c4.2.2.2.1, d.c16.c16.c16.c16.c16.1, d.c16.c16.c16.c16.c16.2.1, d.c16.c16.c16.c16.c16.2.2.1, d.c16.c16.c16.c16.c16.2.2.2.1, d.c16.c16.c16.c16.c16.c4.1, d.c16.c16.c16.c16.c16.c4.2.1, d.c16.c16.c16.c16.c16.c4.2.2.1, d.c16.c16.c16.c16.c16.c4.2.2.2.1, d.c16.c16.c16.c16.c16.c8.1, d.c16.c16.c16.c16.c16.c8.2.1, d.c16.c16.c16.c16.c16.c8.2.2.1, d.c16.c16.c16.c16.c16.c8.2.2.2.1, d.c16.c16.c16.c16.c16.c8.c4.1, d.c16.c16.c16.c16.c16.c8.c4.2.1, d.c16.c16.c16.c16.c16.c8.c4.2.2)) fun (d : Nat × NI × NI × NI × NI × NI × NI × NI × NI × NI × NI × Int × Bool × Nat × NI × NI × NI × NI × NI × NI × NI × NI × NI × NI × Bool × Int × Int × Int × Int × Int × Int × Int × Int × Int × Int × Int × Int × Int × Int × Int × Int × Int × Int × Int × Bool × Int × Nat × Nat × Bool × Int × Bool × Int × Int × Bool × Bool × Bool × Int × Int × Int × Bool × Int × Nat × Bool × Int × Int × Nat × NI × NI × NI × (Nat → Int) × RGPt33) => c (d.1, d.2.1, d.2.2.1, d.2.2.2.1, d.c4.1, d.c4.2.1, d.c4.2.2.1, d.c4.2.2.2.1, d.c8.1, d.c8.2.1, d.c8.2.2.1, IntKind.wrap IntKind.i64 (d.c8.2.2.2.1 + 1), d.c16.c16.2.2.1, d.c16.c16.2.2.2.1, d.c16.c16.c4.1, d.c16.c16.c4.2.1, d.c16.c16.c4.2.2.1, d.c16.c16.c16.c8.c4.1, d.c16.c16.c16.c8.c4.2.1, d.c16.c16.c16.c8.c4.2.2.1, d.c16.c16.c16.c8.c4.2.2.2.1, d.c16.c16.c16.c16.1, d.c16.c16.c8.c4.2.2.1, d.c16.c16.c8.c4.2.2.2.1, d.c16.c16.c16.1, d.c16.c16.c16.c4.1, d.c16.c16.c4.2.2.2.1, d.c16.c16.c8.1, d.c16.c16.c8.2.1, d.c16.c16.c8.2.2.1, d.c16.c16.c8.2.2.2.1, d.c16.c16.c16.c16.2.1, d.c16.c16.c16.c16.2.2.1, d.c16.c16.c16.c16.2.2.2.1, d.c16.c16.c16.c16.c4.1, d.c16.c16.c16.c16.c4.2.1, d.c16.c16.c16.c16.c4.2.2.1, d.c16.c16.c16.c16.c4.2.2.2.1, d.c16.c16.c16.c16.c8.1, d.c16.c16.c16.c16.c8.2.1, d.c16.c16.c16.c16.c8.2.2.1, d.c16.c16.c16.c16.c8.2.2.2.1, d.c16.c16.c16.c16.c8.c4.1, d.c16.c16.c16.c16.c8.c4.2.1, d.c16.c16.c16.c16.c8.c4.2.2.1, d.c16.c16.c16.c16.c8.c4.2.2.2.1, d.c16.c16.c16.c16.c16.1, d.c16.c16.c16.c16.c16.2.1, d.c16.c16.c16.c16.c16.2.2.1, d.c16.c16.c16.c16.c16.2.2.2.1, d.c16.c16.c16.c16.c16.c4))) = c (n, X1, X2, X3, X4, X5, X6, X7, X8, X9, X10, IntKind.wrap .i64 (Int.ofNat i + 1), c0, c1, c2, c3, c4, size, m, true, hor, size, off, m, true, hor, c0, c1, c2, c3, c4, bl, g0, g1, g2, g3, g4, g5, g6, g7, g8, bw, f0, f1, f2, f3, f4, f5, f6, f7, f8) := by
  rcases Nat.eq_zero_or_pos m with h0 | h0
  · exact (tail_b n X1 X2 X3 X4 X5 X6 X7 X8 X9 X10 i b c0 c1 c2 c3 c4 size m hor off bl g0 g1 g2 g3 g4 g5 g6 g7 g8 bw f0 f1 f2 f3 f4 f5 f6 f7 f8 h0 h1 h2 h3 h4 hs hc _ _).trans rfl
  · exact (tail_a n X1 X2 X3 X4 X5 X6 X7 X8 X9 X10 i b c0 c1 c2 c3 c4 size m hor off bl g0 g1 g2 g3 g4 g5 g6 g7 g8 bw f0 f1 f2 f3 f4 f5 f6 f7 f8 h0 hm2 (hrow h0) h1 h2 h3 h4 hs hc _ _).trans rfl
end
def setT (f : Nat → Int) : Nat → Nat → Int
  | 0 => f
  | i + 1 => fun j => bif Nat.beq j (0 + i) then 1152921504606846976 else setT f i j
theorem setT_ge (f : Nat → Int) : ∀ (i j : Nat), i ≤ j → setT f i j = f j
  | 0, j, _ => rfl
  | i + 1, j, h => by
    unfold setT
    rw [show Nat.beq j (0 + i) = false from beq_false (by omega), cond_false]
    exact setT_ge f i j (by omega)
theorem plays_look (n : Nat) (X1 X2 X3 X4 X5 X6 X7 X8 X9 X10 : Nat → Int) (ii k : Nat) (hk : k ≤ 150) (b : Bool) (c0 c1 c2 c3 c4 size : Int) (mk : Nat) (hor : Int) (off : Nat) (p0 p1 p2 p3 p4 p5 p6 p7 p8 q0 q1 q2 q3 q4 q5 q6 q7 q8 r0 r1 r2 r3 r4 r5 r6 r7 r8 : Nat → Int) (bw : Nat) (f0 f1 f2 f3 f4 f5 f6 f7 f8 : Nat → Int) (hsame : ∀ j, j < k → row p0 p1 p2 p3 p4 p5 p6 p7 p8 j = row q0 q1 q2 q3 q4 q5 q6 q7 q8 j) (u : Unit → Option Bool) (v) :
    L_astrolabelaw13_RingPlays_1 (n, X1, X2, X3, X4, X5, X6, X7, X8, X9, X10, Int.ofNat ii, k, k, 0, n, X1, X2, X3, X4, X5, X6, X7, X8, X9, X10, b, c0, c1, c2, c3, c4, size, mk, hor, size, off, mk, true, hor, c0, c1, c2, c3, c4, k, p0, p1, p2, p3, p4, p5, p6, p7, p8, k, q0, q1, q2, q3, q4, q5, q6, q7, q8, mk, r0, r1, r2, r3, r4, r5, r6, r7, r8, bw, f0, f1, f2, f3, f4, f5, f6, f7, f8) (Sum.elim u v) = v (n, X1, X2, X3, X4, X5, X6, X7, X8, X9, X10, Int.ofNat ii, k, k, Int.ofNat k, n, X1, X2, X3, X4, X5, X6, X7, X8, X9, X10, b, Int.ofNat k, false, c0, c1, c2, c3, c4, size, mk, hor, size, off, mk, true, hor, c0, c1, c2, c3, c4, k, setT p0 k, p1, p2, p3, p4, p5, p6, p7, p8, k, q0, q1, q2, q3, q4, q5, q6, q7, q8, mk, r0, r1, r2, r3, r4, r5, r6, r7, r8, bw, f0, f1, f2, f3, f4, f5, f6, f7, f8) := by
  unfold L_astrolabelaw13_RingPlays_1
  refine loopK_inv (fun t d => ∃ i : Nat, i + t = k ∧ d = (n, X1, X2, X3, X4, X5, X6, X7, X8, X9, X10, Int.ofNat ii, k, k, Int.ofNat i, n, X1, X2, X3, X4, X5, X6, X7, X8, X9, X10, b, c0, c1, c2, c3, c4, size, mk, hor, size, off, mk, true, hor, c0, c1, c2, c3, c4, k, setT p0 i, p1, p2, p3, p4, p5, p6, p7, p8, k, q0, q1, q2, q3, q4, q5, q6, q7, q8, mk, r0, r1, r2, r3, r4, r5, r6, r7, r8, bw, f0, f1, f2, f3, f4, f5, f6, f7, f8)) ?_ 200 k _ (by omega) ⟨0, by omega, rfl⟩
  rintro t _ c ⟨i, hi, rfl⟩ hc
  unfold S_astrolabelaw13_RingPlays_1
  rcases Nat.eq_zero_or_pos t with ht | ht
  · obtain rfl : i = k := by omega
    have e : decide (Int.ofNat i < Int.ofNat i) = false := decide_eq_false (by omega)
    simp only [e, cond_false, Sum.elim_inr]
  · have e : decide (Int.ofNat i < Int.ofNat k) = true := by simp only [Int.ofNat_eq_natCast]; exact decide_eq_true (by omega)
    have e2 : inR (Int.ofNat i) k = true := by unfold inR; simp only [Int.ofNat_eq_natCast, Bool.and_eq_true, decide_eq_true_eq]; omega
    have e3 : Int.toNat (Int.ofNat i) = i := by simp
    have e4 : IntKind.wrap IntKind.i64 (Int.ofNat i + 1) = Int.ofNat (i + 1) := (wrap_i64 (by simp only [Int.ofNat_eq_natCast]; omega) (by simp only [Int.ofNat_eq_natCast]; omega)).trans rfl
    have e5 : Nat.ble (0 + (0 + i) * 9 + 1) (k * 9 + 0) = true := Nat.ble_eq_true_of_le (by omega)
    have e6 : setT p0 i (0 + i) = p0 (0 + i) := setT_ge p0 i (0 + i) (by omega)
    have := hsame (0 + i) (by omega)
    simp only [row] at this
    simp only [e, e2, e3, e4, e5, e6, eq9, decide_eq_true this, cond_true, cond_false, Bool.not_true, Bool.true_and]
    exact hc (t - 1) _ (by omega) ⟨i + 1, by omega, rfl⟩
/-- the buffer and the document's -/
def PI (size : Int) (i : Nat) (c0 c1 c2 c3 c4 : Int) (m : Nat) (g0 g1 g2 g3 g4 g5 g6 g7 g8 : Nat → Int) (off : Nat) (f0 f1 f2 f3 f4 f5 f6 f7 f8 : Nat → Int) : Prop :=
  Srt (tab m (row g0 g1 g2 g3 g4 g5 g6 g7 g8)) ∧ (∀ j, j < m → row g0 g1 g2 g3 g4 g5 g6 g7 g8 j = row f0 f1 f2 f3 f4 f5 f6 f7 f8 (off + j)) ∧ (m : Int) ≤ size ∧ c0 = c1 + c2 + c3 + c4 + m ∧ 0 ≤ c1 ∧ 0 ≤ c2 ∧ 0 ≤ c3 ∧ 0 ≤ c4 ∧ c0 ≤ i
theorem spoilt1 (c0 c1 c2 c3 c4 size hor : Int) (m : Nat) (g0 g1 g2 g3 g4 g5 g6 g7 g8 : Nat → Int) (w : Bool) : f___ring_Buffer__Spoilt c0 c1 c2 c3 c4 size m hor g0 g1 g2 g3 g4 g5 g6 g7 g8 w = some ((IntKind.wrap .i64 (c0 + 1)), c1, c2, (IntKind.wrap .i64 (c3 + 1)), c4, size, m, w, hor) := by
  unfold f___ring_Buffer__Spoilt K___ring_Buffer__Spoilt; rfl
theorem spoilt2 (size : Int) (m : Nat) (hor c0 c1 c2 c3 c4 : Int) (g0 g1 g2 g3 g4 g5 g6 g7 g8 : Nat → Int) (w : Bool) : f_astrolaberef13_Spoilt size m hor c0 c1 c2 c3 c4 g0 g1 g2 g3 g4 g5 g6 g7 g8 w = some (size, m, w, hor, (IntKind.wrap .i64 (c0 + 1)), c1, c2, (IntKind.wrap .i64 (c3 + 1)), c4) := by
  unfold f_astrolaberef13_Spoilt K_astrolaberef13_Spoilt; rfl
theorem tab_same {m : Nat} {G H : Nat → Smp} (hh : ∀ j, j < m → G j = H j) : tab m H = tab m G := List.map_congr_left fun j hj => (hh j (List.mem_range.1 hj)).symm
section
variable (size : Int) (n : Nat) (X1 X2 X3 X4 X5 X6 X7 X8 X9 X10 : Nat → Int)
theorem plays_go {i : Nat} (hi : i < n) (hn : n ≤ 150) (hz1 : 1 ≤ size) (hz2 : size ≤ 64) (c0 c1 c2 c3 c4 : Int) (m : Nat) (hor : Int) (off bl : Nat) (g0 g1 g2 g3 g4 g5 g6 g7 g8 : Nat → Int) (bw : Nat) (f0 f1 f2 f3 f4 f5 f6 f7 f8 : Nat → Int) (I : PI size i c0 c1 c2 c3 c4 m g0 g1 g2 g3 g4 g5 g6 g7 g8 off f0 f1 f2 f3 f4 f5 f6 f7 f8) :
    ∃ c0' c1' c2' c3' c4' m' hor' off' bl' g0' g1' g2' g3' g4' g5' g6' g7' g8' bw' f0' f1' f2' f3' f4' f5' f6' f7' f8', PI size (i + 1) c0' c1' c2' c3' c4' m' g0' g1' g2' g3' g4' g5' g6' g7' g8' off' f0' f1' f2' f3' f4' f5' f6' f7' f8' ∧ ∀ c k, S_astrolabelaw13_RingPlays_0 (ρ := Bool) f_astrolabelaw13_awake f_ring_New f___ring_Buffer__Put f_astrolaberef13_Put f___ring_Buffer__Pop f_astrolaberef13_Pop f___ring_Buffer__Spoilt f_astrolaberef13_Spoilt f___ring_Buffer__Peek f___ring_Buffer__Len f___ring_Buffer__Horizon f__ring_Counts__Total (@L_astrolabelaw13_RingPlays_1) (@L_astrolabelaw13_RingPlays_2) n X1 X2 X3 X4 X5 X6 X7 X8 X9 X10 (Int.ofNat i) c0 c1 c2 c3 c4 size m true hor size off m true hor c0 c1 c2 c3 c4 bl g0 g1 g2 g3 g4 g5 g6 g7 g8 bw f0 f1 f2 f3 f4 f5 f6 f7 f8 c k =
      c (n, X1, X2, X3, X4, X5, X6, X7, X8, X9, X10, IntKind.wrap .i64 (Int.ofNat i + 1), c0', c1', c2', c3', c4', size, m', true, hor', size, off', m', true, hor', c0', c1', c2', c3', c4', bl', g0', g1', g2', g3', g4', g5', g6', g7', g8', bw', f0', f1', f2', f3', f4', f5', f6', f7', f8') := by
  obtain ⟨i1, i2, i3, i4, i5, i6, i7, i8, i9⟩ := I
  have z : ∀ f : Nat → Int, (fun (j : Nat) => f (0 + j)) = f := fun f => by funext j; rw [Nat.zero_add]
  have hG : Srt (tab m (row (fun (j : Nat) => g0 (0 + j)) (fun (j : Nat) => g1 (0 + j)) (fun (j : Nat) => g2 (0 + j)) (fun (j : Nat) => g3 (0 + j)) (fun (j : Nat) => g4 (0 + j)) (fun (j : Nat) => g5 (0 + j)) (fun (j : Nat) => g6 (0 + j)) (fun (j : Nat) => g7 (0 + j)) (fun (j : Nat) => g8 (0 + j)))) := by rw [z g0, z g1, z g2, z g3, z g4, z g5, z g6, z g7, z g8]; exact i1
  have hHr : ∀ j, j < m → row g0 g1 g2 g3 g4 g5 g6 g7 g8 j = row (fun (j : Nat) => f0 (off + j)) (fun (j : Nat) => f1 (off + j)) (fun (j : Nat) => f2 (off + j)) (fun (j : Nat) => f3 (off + j)) (fun (j : Nat) => f4 (off + j)) (fun (j : Nat) => f5 (off + j)) (fun (j : Nat) => f6 (off + j)) (fun (j : Nat) => f7 (off + j)) (fun (j : Nat) => f8 (off + j)) j := fun j hj => i2 j hj
  have hHt : tab m (row (fun (j : Nat) => f0 (off + j)) (fun (j : Nat) => f1 (off + j)) (fun (j : Nat) => f2 (off + j)) (fun (j : Nat) => f3 (off + j)) (fun (j : Nat) => f4 (off + j)) (fun (j : Nat) => f5 (off + j)) (fun (j : Nat) => f6 (off + j)) (fun (j : Nat) => f7 (off + j)) (fun (j : Nat) => f8 (off + j))) = tab m (row g0 g1 g2 g3 g4 g5 g6 g7 g8) := tab_same hHr
  have hH : Srt (tab m (row (fun (j : Nat) => f0 (off + j)) (fun (j : Nat) => f1 (off + j)) (fun (j : Nat) => f2 (off + j)) (fun (j : Nat) => f3 (off + j)) (fun (j : Nat) => f4 (off + j)) (fun (j : Nat) => f5 (off + j)) (fun (j : Nat) => f6 (off + j)) (fun (j : Nat) => f7 (off + j)) (fun (j : Nat) => f8 (off + j)))) := by rw [hHt]; exact i1
  have e : decide (Int.ofNat i < Int.ofNat n) = true := by simp only [Int.ofNat_eq_natCast]; exact decide_eq_true (by omega)
  have e2 : inR (Int.ofNat i) n = true := by unfold inR; simp only [Int.ofNat_eq_natCast, Bool.and_eq_true, decide_eq_true_eq]; omega
  have e3 : Int.toNat (Int.ofNat i) = i := by simp
  have e5 : Nat.beq m m = true := Nat.beq_refl m
  have hmi : m ≤ 150 := by omega
  have ett : (true && true) = true := rfl
  by_cases op0 : X1 i = 0
  · have eo : (X1 i == 0) = true := by rw [op0]; rfl
    by_cases hl : X2 i ≤ hor
    · have hp := put_late (X2 i) (X3 i) (X4 i) (X5 i) (X6 i) (X7 i) (X8 i) (X9 i) (X10 i) c0 c1 c2 c3 c4 size m hor (fun (j : Nat) => g0 (0 + j)) (fun (j : Nat) => g1 (0 + j)) (fun (j : Nat) => g2 (0 + j)) (fun (j : Nat) => g3 (0 + j)) (fun (j : Nat) => g4 (0 + j)) (fun (j : Nat) => g5 (0 + j)) (fun (j : Nat) => g6 (0 + j)) (fun (j : Nat) => g7 (0 + j)) (fun (j : Nat) => g8 (0 + j)) true hl
      have hq := refput_late (X2 i) (X3 i) (X4 i) (X5 i) (X6 i) (X7 i) (X8 i) (X9 i) (X10 i) size m hor c0 c1 c2 c3 c4 (fun (j : Nat) => f0 (off + j)) (fun (j : Nat) => f1 (off + j)) (fun (j : Nat) => f2 (off + j)) (fun (j : Nat) => f3 (off + j)) (fun (j : Nat) => f4 (off + j)) (fun (j : Nat) => f5 (off + j)) (fun (j : Nat) => f6 (off + j)) (fun (j : Nat) => f7 (off + j)) (fun (j : Nat) => f8 (off + j)) true hl
      have w0 : IntKind.wrap .i64 (c0 + 1) = c0 + 1 := wrap_i64 (by omega) (by omega)
      have w1 : IntKind.wrap .i64 (c1 + 1) = c1 + 1 := wrap_i64 (by omega) (by omega)
      rw [w0, w1] at hp hq
      refine ⟨c0 + 1, c1 + 1, c2, c3, c4, m, hor, off, bl, g0, g1, g2, g3, g4, g5, g6, g7, g8, bw, f0, f1, f2, f3, f4, f5, f6, f7, f8, ⟨i1, i2, i3, by omega, by omega, i6, i7, i8, by omega⟩, fun c k => ?_⟩
      unfold S_astrolabelaw13_RingPlays_0
      rw [e, e2, e3, e5, eo, ett, cond_true, cond_true, cond_true, cond_true, cond_true, hp, Option.bind_some, cond_true, Option.bind_some, cond_true, cond_true, hq, Option.bind_some, cond_true, Option.bind_some]
      exact plays_tail n X1 X2 X3 X4 X5 X6 X7 X8 X9 X10 i true (c0 + 1) (c1 + 1) c2 c3 c4 size m hor off bl g0 g1 g2 g3 g4 g5 g6 g7 g8 bw f0 f1 f2 f3 f4 f5 f6 f7 f8 hmi (fun hm => i2 0 hm) (by omega) i6 i7 i8 (by omega) (by omega) c k
    · obtain ⟨ret, full, m', g0', g1', g2', g3', g4', g5', g6', g7', g8', hp, ht, hf, hr⟩ := put_in (X2 i) (X3 i) (X4 i) (X5 i) (X6 i) (X7 i) (X8 i) (X9 i) (X10 i) c0 c1 c2 c3 c4 size m hor (fun (j : Nat) => g0 (0 + j)) (fun (j : Nat) => g1 (0 + j)) (fun (j : Nat) => g2 (0 + j)) (fun (j : Nat) => g3 (0 + j)) (fun (j : Nat) => g4 (0 + j)) (fun (j : Nat) => g5 (0 + j)) (fun (j : Nat) => g6 (0 + j)) (fun (j : Nat) => g7 (0 + j)) (fun (j : Nat) => g8 (0 + j)) (by omega) hmi hG
      obtain ⟨f0', f1', f2', f3', f4', f5', f6', f7', f8', hw, hq⟩ := refput_in (X2 i) (X3 i) (X4 i) (X5 i) (X6 i) (X7 i) (X8 i) (X9 i) (X10 i) size m hor c0 c1 c2 c3 c4 (fun (j : Nat) => f0 (off + j)) (fun (j : Nat) => f1 (off + j)) (fun (j : Nat) => f2 (off + j)) (fun (j : Nat) => f3 (off + j)) (fun (j : Nat) => f4 (off + j)) (fun (j : Nat) => f5 (off + j)) (fun (j : Nat) => f6 (off + j)) (fun (j : Nat) => f7 (off + j)) (fun (j : Nat) => f8 (off + j)) (by omega) hmi hH
      have hl0 : tab m (row (fun (j : Nat) => g0 (0 + j)) (fun (j : Nat) => g1 (0 + j)) (fun (j : Nat) => g2 (0 + j)) (fun (j : Nat) => g3 (0 + j)) (fun (j : Nat) => g4 (0 + j)) (fun (j : Nat) => g5 (0 + j)) (fun (j : Nat) => g6 (0 + j)) (fun (j : Nat) => g7 (0 + j)) (fun (j : Nat) => g8 (0 + j))) = tab m (row g0 g1 g2 g3 g4 g5 g6 g7 g8) := by rw [z g0, z g1, z g2, z g3, z g4, z g5, z g6, z g7, z g8]
      rw [hl0] at ht hr
      rw [hHt] at hw
      have w0 : IntKind.wrap .i64 (c0 + 1) = c0 + 1 := wrap_i64 (by omega) (by omega)
      have w2 : IntKind.wrap .i64 (c2 + 1) = c2 + 1 := wrap_i64 (by omega) (by omega)
      rw [w0] at hp hq
      have hlt := congrArg List.length ht
      by_cases hz : ((m + 1 : Nat) : Int) ≤ size
      · rw [if_pos hz] at ht hf hr hlt
        rw [if_neg (by omega)] at hq
        rw [tab_length, ins_length, tab_length] at hlt
        rw [hf] at hp
        subst hr hlt
        have hrows : ∀ j, j < m + 1 → row g0' g1' g2' g3' g4' g5' g6' g7' g8' j = row f0' f1' f2' f3' f4' f5' f6' f7' f8' (0 + j) := fun j hj => by
          have := congrArg (fun l => l[j]?) (ht.trans hw.symm)
          rw [tab_get _ hj, tab_get _ hj] at this
          rw [Nat.zero_add]; exact Option.some.inj this
        refine ⟨c0 + 1, c1, c2, c3, c4, m + 1, hor, 0, m + 1, g0', g1', g2', g3', g4', g5', g6', g7', g8', m + 1, f0', f1', f2', f3', f4', f5', f6', f7', f8', ⟨by rw [ht]; exact ins_srt _ _ i1, hrows, hz, by omega, i5, i6, i7, i8, by omega⟩, fun c k => ?_⟩
        unfold S_astrolabelaw13_RingPlays_0
        rw [e, e2, e3, e5, eo, ett, cond_true, cond_true, cond_true, cond_true, cond_true, hp, Option.bind_some, cond_false, Option.bind_some, cond_true, cond_true, hq, Option.bind_some, cond_false, Option.bind_some, cond_false, Option.bind_some, show (!(true == true)) = false from rfl, cond_false]
        exact plays_tail n X1 X2 X3 X4 X5 X6 X7 X8 X9 X10 i true (c0 + 1) c1 c2 c3 c4 size (m + 1) hor 0 (m + 1) g0' g1' g2' g3' g4' g5' g6' g7' g8' (m + 1) f0' f1' f2' f3' f4' f5' f6' f7' f8' (by omega) (fun hm => hrows 0 hm) i5 i6 i7 i8 (by omega) (by omega) c k
      · rw [if_neg hz] at ht hf hr hlt
        rw [if_pos (by omega)] at hq
        rw [w2] at hf hq
        rw [tab_length, List.length_tail, ins_length, tab_length] at hlt
        have hlt : m' = m := by omega
        subst hlt hf
        have hrows : ∀ j, j < m' → row g0' g1' g2' g3' g4' g5' g6' g7' g8' j = row f0' f1' f2' f3' f4' f5' f6' f7' f8' (1 + j) := fun j hj => by
          have := congrArg (fun l => l[j]?) ht
          rw [← hw, List.getElem?_tail, tab_get _ hj, tab_get _ (by omega)] at this
          rw [Nat.add_comm 1 j]; exact Option.some.inj this
        have hret : ret = !decide (row f0' f1' f2' f3' f4' f5' f6' f7' f8' 0 = (X2 i, X3 i, X4 i, X5 i, X6 i, X7 i, X8 i, X9 i, X10 i)) := by
          rw [hr, ← hw, List.head?_eq_getElem?, tab_get _ (by omega)]
          simp only [Option.some.injEq]
        rw [← hret] at hq
        refine ⟨c0 + 1, c1, c2 + 1, c3, c4, m', hor, 1, m', g0', g1', g2', g3', g4', g5', g6', g7', g8', m' + 1, f0', f1', f2', f3', f4', f5', f6', f7', f8', ⟨?_, hrows, i3, by omega, i5, by omega, i7, i8, by omega⟩, fun c k => ?_⟩
        · rw [ht]; exact List.Pairwise.sublist (List.tail_sublist _) (ins_srt _ _ i1)
        unfold S_astrolabelaw13_RingPlays_0
        rw [e, e2, e3, e5, eo, ett, cond_true, cond_true, cond_true, cond_true, cond_true, hp, Option.bind_some, cond_false, Option.bind_some, cond_true, cond_true, hq, Option.bind_some, cond_false, Option.bind_some, cond_true, Option.bind_some, show (!(ret == ret)) = false from by simp, cond_false]
        exact plays_tail n X1 X2 X3 X4 X5 X6 X7 X8 X9 X10 i true (c0 + 1) c1 (c2 + 1) c3 c4 size m' hor 1 m' g0' g1' g2' g3' g4' g5' g6' g7' g8' (m' + 1) f0' f1' f2' f3' f4' f5' f6' f7' f8' (by omega) (fun hm => hrows 0 hm) i5 (by omega) i7 i8 (by omega) (by omega) c k
  · have eo : (X1 i == 0) = false := by
      cases hh : X1 i == 0
      · rfl
      · exact absurd (by simpa using hh) op0
    by_cases op1 : X1 i = 1
    · have eo1 : (X1 i == 1) = true := by rw [op1]; rfl
      obtain ⟨k0, r0, r1, r2, r3, r4, r5, r6, r7, r8, hk, u1, v1, w1, z1⟩ := pop_eq (X2 i) c0 c1 c2 c3 c4 size m hor (fun (j : Nat) => g0 (0 + j)) (fun (j : Nat) => g1 (0 + j)) (fun (j : Nat) => g2 (0 + j)) (fun (j : Nat) => g3 (0 + j)) (fun (j : Nat) => g4 (0 + j)) (fun (j : Nat) => g5 (0 + j)) (fun (j : Nat) => g6 (0 + j)) (fun (j : Nat) => g7 (0 + j)) (fun (j : Nat) => g8 (0 + j)) hmi
      have hk0 : ∀ j, j < m → (row g0 g1 g2 g3 g4 g5 g6 g7 g8 j).1 = f0 (off + j) := fun j hj => congrArg Prod.fst (i2 j hj)
      have hgz : ∀ j, (fun (j : Nat) => g0 (0 + j)) j = g0 j := fun j => by rw [z g0]
      have z2 := refpop_eq (X2 i) size m hor c0 c1 c2 c3 c4 (fun (j : Nat) => f0 (off + j)) (fun (j : Nat) => f1 (off + j)) (fun (j : Nat) => f2 (off + j)) (fun (j : Nat) => f3 (off + j)) (fun (j : Nat) => f4 (off + j)) (fun (j : Nat) => f5 (off + j)) (fun (j : Nat) => f6 (off + j)) (fun (j : Nat) => f7 (off + j)) (fun (j : Nat) => f8 (off + j)) hmi k0 hk (fun j hj => by
        have a1 := u1 j hj
        have a2 := hk0 j (by omega)
        rw [Nat.zero_add] at a1
        have a3 : g0 j = f0 (off + j) := a2
        rw [a3] at a1; exact a1) (fun hkm => by
        have a1 := v1 hkm
        have a3 : g0 k0 = f0 (off + k0) := hk0 k0 hkm
        rw [Nat.zero_add, a3] at a1; exact a1)
      have w4 : IntKind.wrap .i64 (c4 + Int.ofNat k0) = c4 + k0 := wrap_i64 (by simp only [Int.ofNat_eq_natCast]; omega) (by simp only [Int.ofNat_eq_natCast]; omega)
      rw [w4] at z1 z2
      generalize hhh : (if X2 i > hor then X2 i else hor) = hor2 at z1 z2
      rw [show tab m (row (fun (j : Nat) => g0 (0 + j)) (fun (j : Nat) => g1 (0 + j)) (fun (j : Nat) => g2 (0 + j)) (fun (j : Nat) => g3 (0 + j)) (fun (j : Nat) => g4 (0 + j)) (fun (j : Nat) => g5 (0 + j)) (fun (j : Nat) => g6 (0 + j)) (fun (j : Nat) => g7 (0 + j)) (fun (j : Nat) => g8 (0 + j))) = tab m (row g0 g1 g2 g3 g4 g5 g6 g7 g8) by rw [z g0, z g1, z g2, z g3, z g4, z g5, z g6, z g7, z g8]] at w1
      have hrows : ∀ j, j < m - k0 → row r0 r1 r2 r3 r4 r5 r6 r7 r8 j = row f0 f1 f2 f3 f4 f5 f6 f7 f8 (off + k0 + j) := fun j hj => by
        have := congrArg (fun l => l[j]?) w1
        simp only [List.getElem?_drop] at this
        rw [tab_get _ hj, tab_get _ (by omega)] at this
        rw [Option.some.inj this, i2 _ (by omega), Nat.add_assoc]
      refine ⟨c0, c1, c2, c3, c4 + k0, m - k0, hor2, off + k0, m - k0, r0, r1, r2, r3, r4, r5, r6, r7, r8, bw, f0, f1, f2, f3, f4, f5, f6, f7, f8, ⟨by rw [w1]; exact List.Pairwise.sublist (List.drop_sublist _ _) i1, hrows, by omega, by omega, i5, i6, i7, by omega, by omega⟩, fun c k => ?_⟩
      unfold S_astrolabelaw13_RingPlays_0
      rw [e, e2, e3, e5, eo, eo1, ett, cond_true, cond_true, cond_false, cond_true, cond_true, cond_true, z1, Option.bind_some, cond_true, cond_true, z2, Option.bind_some, show (Int.ofNat k0 != Int.ofNat k0) = false from by simp, cond_false]
      refine (plays_look n X1 X2 X3 X4 X5 X6 X7 X8 X9 X10 i k0 (by omega) false c0 c1 c2 c3 (c4 + k0) size (m - k0) hor2 (off + k0) (fun (j : Nat) => g0 (0 + j)) (fun (j : Nat) => g1 (0 + j)) (fun (j : Nat) => g2 (0 + j)) (fun (j : Nat) => g3 (0 + j)) (fun (j : Nat) => g4 (0 + j)) (fun (j : Nat) => g5 (0 + j)) (fun (j : Nat) => g6 (0 + j)) (fun (j : Nat) => g7 (0 + j)) (fun (j : Nat) => g8 (0 + j)) (outF (fun (j : Nat) => f0 (off + j)) k0) (outF (fun (j : Nat) => f1 (off + j)) k0) (outF (fun (j : Nat) => f2 (off + j)) k0) (outF (fun (j : Nat) => f3 (off + j)) k0) (outF (fun (j : Nat) => f4 (off + j)) k0) (outF (fun (j : Nat) => f5 (off + j)) k0) (outF (fun (j : Nat) => f6 (off + j)) k0) (outF (fun (j : Nat) => f7 (off + j)) k0) (outF (fun (j : Nat) => f8 (off + j)) k0) r0 r1 r2 r3 r4 r5 r6 r7 r8 bw f0 f1 f2 f3 f4 f5 f6 f7 f8 (fun j hj => ?_) _ _).trans ?_
      · rw [z g0, z g1, z g2, z g3, z g4, z g5, z g6, z g7, z g8]
        rw [hHr j (by omega)]
        simp only [row, outF_get _ k0 j hj]
      · exact plays_tail n X1 X2 X3 X4 X5 X6 X7 X8 X9 X10 i false c0 c1 c2 c3 (c4 + k0) size (m - k0) hor2 (off + k0) (m - k0) r0 r1 r2 r3 r4 r5 r6 r7 r8 bw f0 f1 f2 f3 f4 f5 f6 f7 f8 (by omega) (fun hm => hrows 0 hm) i5 i6 i7 (by omega) (by omega) (by omega) c k
    · have eo1 : (X1 i == 1) = false := by
        cases hh : X1 i == 1
        · rfl
        · exact absurd (by simpa using hh) op1
      have hp := spoilt1 c0 c1 c2 c3 c4 size hor m (fun (j : Nat) => g0 (0 + j)) (fun (j : Nat) => g1 (0 + j)) (fun (j : Nat) => g2 (0 + j)) (fun (j : Nat) => g3 (0 + j)) (fun (j : Nat) => g4 (0 + j)) (fun (j : Nat) => g5 (0 + j)) (fun (j : Nat) => g6 (0 + j)) (fun (j : Nat) => g7 (0 + j)) (fun (j : Nat) => g8 (0 + j)) true
      have hq := spoilt2 size m hor c0 c1 c2 c3 c4 (fun (j : Nat) => f0 (off + j)) (fun (j : Nat) => f1 (off + j)) (fun (j : Nat) => f2 (off + j)) (fun (j : Nat) => f3 (off + j)) (fun (j : Nat) => f4 (off + j)) (fun (j : Nat) => f5 (off + j)) (fun (j : Nat) => f6 (off + j)) (fun (j : Nat) => f7 (off + j)) (fun (j : Nat) => f8 (off + j)) true
      have w0 : IntKind.wrap .i64 (c0 + 1) = c0 + 1 := wrap_i64 (by omega) (by omega)
      have w3 : IntKind.wrap .i64 (c3 + 1) = c3 + 1 := wrap_i64 (by omega) (by omega)
      rw [w0, w3] at hp hq
      refine ⟨c0 + 1, c1, c2, c3 + 1, c4, m, hor, off, bl, g0, g1, g2, g3, g4, g5, g6, g7, g8, bw, f0, f1, f2, f3, f4, f5, f6, f7, f8, ⟨i1, i2, i3, by omega, i5, i6, by omega, i8, by omega⟩, fun c k => ?_⟩
      unfold S_astrolabelaw13_RingPlays_0
      rw [e, e2, e3, e5, eo, eo1, ett, cond_true, cond_true, cond_false, cond_false, cond_true, hp, Option.bind_some, cond_true, hq, Option.bind_some]
      exact plays_tail n X1 X2 X3 X4 X5 X6 X7 X8 X9 X10 i false (c0 + 1) c1 c2 (c3 + 1) c4 size m hor off bl g0 g1 g2 g3 g4 g5 g6 g7 g8 bw f0 f1 f2 f3 f4 f5 f6 f7 f8 hmi (fun hm => i2 0 hm) i5 i6 (by omega) i8 (by omega) (by omega) c k
theorem plays_end (c0 c1 c2 c3 c4 : Int) (m : Nat) (hor : Int) (off bl : Nat) (g0 g1 g2 g3 g4 g5 g6 g7 g8 : Nat → Int) (bw : Nat) (f0 f1 f2 f3 f4 f5 f6 f7 f8 : Nat → Int) (c) (k) : S_astrolabelaw13_RingPlays_0 (ρ := Bool) f_astrolabelaw13_awake f_ring_New f___ring_Buffer__Put f_astrolaberef13_Put f___ring_Buffer__Pop f_astrolaberef13_Pop f___ring_Buffer__Spoilt f_astrolaberef13_Spoilt f___ring_Buffer__Peek f___ring_Buffer__Len f___ring_Buffer__Horizon f__ring_Counts__Total (@L_astrolabelaw13_RingPlays_1) (@L_astrolabelaw13_RingPlays_2) n X1 X2 X3 X4 X5 X6 X7 X8 X9 X10 (Int.ofNat n) c0 c1 c2 c3 c4 size m true hor size off m true hor c0 c1 c2 c3 c4 bl g0 g1 g2 g3 g4 g5 g6 g7 g8 bw f0 f1 f2 f3 f4 f5 f6 f7 f8 c k = k (.inr (n, X1, X2, X3, X4, X5, X6, X7, X8, X9, X10, Int.ofNat n, Int.ofNat n, false, c0, c1, c2, c3, c4, size, m, true, hor, size, off, m, true, hor, c0, c1, c2, c3, c4, bl, g0, g1, g2, g3, g4, g5, g6, g7, g8, bw, f0, f1, f2, f3, f4, f5, f6, f7, f8)) := by
  have e : decide (Int.ofNat n < Int.ofNat n) = false := decide_eq_false (by omega)
  unfold S_astrolabelaw13_RingPlays_0
  rw [e, cond_false]
end
theorem ringPlays_plain (size : Int) (n : Nat) (X1 X2 X3 X4 X5 X6 X7 X8 X9 X10 : Nat → Int) : f_astrolabelaw13_RingPlays size n X1 X2 X3 X4 X5 X6 X7 X8 X9 X10 = some true := by
  unfold f_astrolabelaw13_RingPlays
  generalize hl0 : @L_astrolabelaw13_RingPlays_0 = l0
  unfold K_astrolabelaw13_RingPlays
  rw [ring_awake, Option.bind_some, Bool.not_true, cond_false]
  by_cases hz1 : size < 1
  · have hnew : f_ring_New size = some (.inl ()) := by
      unfold f_ring_New K_ring_New
      rw [decide_eq_true hz1, cond_true]
    rw [hnew, Option.bind_some, cond_true, Option.bind_some, decide_eq_true hz1, cond_true]
  by_cases hz2 : size > 64
  · have hnew : f_ring_New size = some (.inl ()) := by
      unfold f_ring_New K_ring_New
      rw [decide_eq_false hz1, cond_false, decide_eq_true hz2, cond_true]
    rw [hnew, Option.bind_some, cond_true, Option.bind_some, decide_eq_false hz1, cond_false, decide_eq_true hz2, cond_true]
  have hnew : f_ring_New size = some (.inr (size, fun _ => 0)) := by
    unfold f_ring_New K_ring_New
    rw [decide_eq_false hz1, cond_false, decide_eq_false hz2, cond_false]
  rw [hnew, Option.bind_some, cond_false, Option.bind_some, decide_eq_false hz1, cond_false, decide_eq_false hz2, cond_false]
  by_cases h150 : Int.ofNat n > 150
  · rw [decide_eq_true h150, cond_true]
  rw [decide_eq_false h150, cond_false]
  have hn : n ≤ 150 := by simp only [Int.ofNat_eq_natCast] at h150; omega
  subst hl0
  refine loopK_inv (fun t d => ∃ (i : Nat) (c0 c1 c2 c3 c4 : Int) (m : Nat) (hor : Int) (off bl : Nat) (g0 g1 g2 g3 g4 g5 g6 g7 g8 : Nat → Int) (bw : Nat) (f0 f1 f2 f3 f4 f5 f6 f7 f8 : Nat → Int), i + t = n ∧ PI size i c0 c1 c2 c3 c4 m g0 g1 g2 g3 g4 g5 g6 g7 g8 off f0 f1 f2 f3 f4 f5 f6 f7 f8 ∧ d = (n, X1, X2, X3, X4, X5, X6, X7, X8, X9, X10, Int.ofNat i, c0, c1, c2, c3, c4, size, m, true, hor, size, off, m, true, hor, c0, c1, c2, c3, c4, bl, g0, g1, g2, g3, g4, g5, g6, g7, g8, bw, f0, f1, f2, f3, f4, f5, f6, f7, f8)) ?_ 200 n _ (by omega)
    ⟨0, 0, 0, 0, 0, 0, 0, (-9223372036854775808), 0, 0, fun _ => 0, fun _ => 0, fun _ => 0, fun _ => 0, fun _ => 0, fun _ => 0, fun _ => 0, fun _ => 0, fun _ => 0, 0, fun _ => 0, fun _ => 0, fun _ => 0, fun _ => 0, fun _ => 0, fun _ => 0, fun _ => 0, fun _ => 0, fun _ => 0, by omega, ⟨List.Pairwise.nil, (fun j hj => by omega), by omega, by omega, by omega, by omega, by omega, by omega, by omega⟩, rfl⟩
  rintro t _ c ⟨i, c0, c1, c2, c3, c4, m, hor, off, bl, g0, g1, g2, g3, g4, g5, g6, g7, g8, bw, f0, f1, f2, f3, f4, f5, f6, f7, f8, hi, I, rfl⟩ hc
  rcases Nat.eq_zero_or_pos t with ht0 | ht0
  · obtain rfl : i = n := by omega
    refine (plays_end size i X1 X2 X3 X4 X5 X6 X7 X8 X9 X10 c0 c1 c2 c3 c4 m hor off bl g0 g1 g2 g3 g4 g5 g6 g7 g8 bw f0 f1 f2 f3 f4 f5 f6 f7 f8 c _).trans ?_
    rfl
  · obtain ⟨c0', c1', c2', c3', c4', m', hor', off', bl', g0', g1', g2', g3', g4', g5', g6', g7', g8', bw', f0', f1', f2', f3', f4', f5', f6', f7', f8', q1, q2⟩ := plays_go size n X1 X2 X3 X4 X5 X6 X7 X8 X9 X10 (i := i) (by omega) hn (by omega) (by omega) c0 c1 c2 c3 c4 m hor off bl g0 g1 g2 g3 g4 g5 g6 g7 g8 bw f0 f1 f2 f3 f4 f5 f6 f7 f8 I
    refine (q2 c _).trans ?_
    have e4 : IntKind.wrap IntKind.i64 (Int.ofNat i + 1) = Int.ofNat (i + 1) := (wrap_i64 (by simp only [Int.ofNat_eq_natCast]; omega) (by simp only [Int.ofNat_eq_natCast]; omega)).trans rfl
    rw [e4]
    exact hc (t - 1) _ (by omega) ⟨i + 1, c0', c1', c2', c3', c4', m', hor', off', bl', g0', g1', g2', g3', g4', g5', g6', g7', g8', bw', f0', f1', f2', f3', f4', f5', f6', f7', f8', by omega, q1, rfl⟩
theorem ringPlays_ev (f : (Int) → (Nat) → (Nat → Int) → (Nat → Int) → (Nat → Int) → (Nat → Int) → (Nat → Int) → (Nat → Int) → (Nat → Int) → (Nat → Int) → (Nat → Int) → (Nat → Int) → Option Bool) (x0_0 : Int) (n1 : Nat) (x1_0 : Nat → Int) (x1_1 : Nat → Int) (x1_2 : Nat → Int) (x1_3 : Nat → Int) (x1_4 : Nat → Int) (x1_5 : Nat → Int) (x1_6 : Nat → Int) (x1_7 : Nat → Int) (x1_8 : Nat → Int) (x1_9 : Nat → Int) : F_astrolabelaw13_RingPlays f [.r (.c (.f (.i .i64 x0_0))), .r (.c (.fs n1 10 [.i .i64 x1_0, .i .i64 x1_1, .i .i64 x1_2, .i .i64 x1_3, .i .i64 x1_4, .i .i64 x1_5, .i .i64 x1_6, .i .i64 x1_7, .i .i64 x1_8, .i .i64 x1_9]))] [] = .opt (f x0_0 n1 x1_0 x1_1 x1_2 x1_3 x1_4 x1_5 x1_6 x1_7 x1_8 x1_9) fun d => .leaf ⟨.r (.c (.f (.b d))), [], []⟩ := by kernel_rfl
theorem ringPlays_trues : Trues (F_astrolabelaw13_RingPlays f_astrolabelaw13_RingPlays) [.flat false [.c (.i .i64)], .sl [.i .i64, .i .i64, .i .i64, .i .i64, .i .i64, .i .i64, .i .i64, .i .i64, .i .i64, .i .i64]] := fun ds h => by
  obtain ⟨_, _, rfl, q0_0, g0⟩ := fit_flat h
  obtain ⟨x0_0, _, rfl, r0_0, q0_1⟩ := f1_i q0_0
  obtain rfl := f1_nil q0_1
  obtain ⟨n1, c1, _, rfl, m1, q1_0, g1⟩ := fit_sl g0
  obtain ⟨x1_0, _, rfl, r1_0, q1_1⟩ := col_i q1_0
  obtain ⟨x1_1, _, rfl, r1_1, q1_2⟩ := col_i q1_1
  obtain ⟨x1_2, _, rfl, r1_2, q1_3⟩ := col_i q1_2
  obtain ⟨x1_3, _, rfl, r1_3, q1_4⟩ := col_i q1_3
  obtain ⟨x1_4, _, rfl, r1_4, q1_5⟩ := col_i q1_4
  obtain ⟨x1_5, _, rfl, r1_5, q1_6⟩ := col_i q1_5
  obtain ⟨x1_6, _, rfl, r1_6, q1_7⟩ := col_i q1_6
  obtain ⟨x1_7, _, rfl, r1_7, q1_8⟩ := col_i q1_7
  obtain ⟨x1_8, _, rfl, r1_8, q1_9⟩ := col_i q1_8
  obtain ⟨x1_9, _, rfl, r1_9, q1_10⟩ := col_i q1_9
  obtain rfl := col_nil q1_10
  obtain rfl := fit_nil g1
  refine ⟨[], (congrArg T.eval (ringPlays_ev f_astrolabelaw13_RingPlays x0_0 n1 x1_0 x1_1 x1_2 x1_3 x1_4 x1_5 x1_6 x1_7 x1_8 x1_9)).trans ?_⟩
  rw [ringPlays_plain x0_0 n1 x1_0 x1_1 x1_2 x1_3 x1_4 x1_5 x1_6 x1_7 x1_8 x1_9]
  rfl
set_option maxRecDepth 100000 in
theorem ringPlays_lifted (os : Os) (started : os.Started) (H : Type) (enc : TypeId × Value → H) :
    ReturnsInHanded {} Try.checked os 4 .any (Rows.ringPlaysSpec.pre6 enc Try.prog Try.f4 Rows.ringPlaysRow.domain false) (Rows.ringPlaysSpec.post enc Try.prog Try.f4 false true false false) :=
  law_lift (C := Try.checked) (tb := Try.f4.resultTypes.getD 0 0) own started (by kernel_rfl) Try.func4 laid (by kernel_rfl) (by kernel_rfl) (by kernel_rfl) rfl
    (fun ds h => by
      have h : ds.length = 2 := h.trans (by kernel_rfl)
      match ds, h with
      | [_, _], _ => rfl)
    (ChangeSpec.witness6 (enc := enc) (C := Try.checked) false ⟨#[], #[.int .i64 0, .slice none 0 0], []⟩ 8 (by kernel_rfl) (by kernel_rfl) (by kernel_rfl) (by kernel_rfl))
    (fun W base args ds ps _ hval ht _ _ _ => prm_calls (pr := [.flat false [.c (.i .i64)], .sl [.i .i64, .i .i64, .i .i64, .i .i64, .i .i64, .i .i64, .i .i64, .i .i64, .i .i64, .i .i64]]) s_astrolabelaw13_RingPlays (by kernel_rfl) (ts := Try.f4.params.toList) (by kernel_rfl) ringPlays_trues hval ht)
theorem ringPlays_over : Rows.ringPlaysRow.holds Try.pinned (OpenSpec.ofChange Rows.ringPlaysSpec) :=
  OpenClaim.holds_of_wide 4 Try.f4 rfl rfl rfl rfl rfl rfl rfl ⟨rfl, rfl, rfl, rfl, rfl⟩ rfl rfl rfl rfl rfl (by kernel_rfl) Try.func4 (by kernel_rfl)
    (of_decide_eq_true (by kernel_rfl)) (by unfold Func.isWrapper; first | (rw [if_pos (by decide +kernel)]; kernel_rfl) | (rw [if_neg (by decide +kernel)]; exact ⟨rfl, rfl⟩))
    (fun os started H enc _ => ringPlays_lifted os started H enc)
/-- the statement -/
theorem ringPlays_proved : Rows.RingPlaysSaid := ringPlays_over
#print axioms ringPlays_proved
end Go.Proofs.Ythbnojedlbeglaa
