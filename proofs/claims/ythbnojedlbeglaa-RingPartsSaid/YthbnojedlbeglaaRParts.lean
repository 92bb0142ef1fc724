/-
  Samples taken out in two steps are those that are taken out in one: the statement of astrolabelaw13.RingParts; no condition.
-/
import Derived.Test.YthbnojedlbeglaaRG6
import Derived.Test.YthbnojedlbeglaaRP
import Derived.Test.YthbnojedlbeglaaAbLaw
import Derived.Test.YthbnojedlbeglaaAbInv
set_option maxRecDepth 100000
set_option maxHeartbeats 4000000
set_option linter.unusedVariables false
set_option linter.unusedSimpArgs false
namespace Go.Proofs.Ythbnojedlbeglaa
open Go.Ab
theorem ring_awake : f_astrolabelaw13_awake = some true := by kernel_rfl
section
variable (n : Nat) (x1 x2 x3 x4 x5 x6 x7 x8 x9 : Nat → Int) (a b : Int)
theorem parts_go {i : Nat} (hi : i < n) (hn : n ≤ 64) (c0 c1 c2 : Int) (m : Nat) (g0 g1 g2 g3 g4 g5 g6 g7 g8 : Nat → Int) (hs : Srt (tab m (row g0 g1 g2 g3 g4 g5 g6 g7 g8))) (hm : m ≤ i) :
    ∃ c0' c1' c2' m' g0' g1' g2' g3' g4' g5' g6' g7' g8', Srt (tab m' (row g0' g1' g2' g3' g4' g5' g6' g7' g8')) ∧ m' ≤ i + 1 ∧ ∀ c k, S_astrolabelaw13_RingParts_0 (ρ := Bool) f_astrolabelaw13_awake f___ring_Buffer__Put f___ring_Buffer__Pop f___ring_Buffer__Horizon n x1 x2 x3 x4 x5 x6 x7 x8 x9 a b (Int.ofNat i) false c0 c1 c2 0 0 64 m true (-9223372036854775808) c0 c1 c2 0 0 64 m true (-9223372036854775808) m g0 g1 g2 g3 g4 g5 g6 g7 g8 m g0 g1 g2 g3 g4 g5 g6 g7 g8 c k =
      c (n, x1, x2, x3, x4, x5, x6, x7, x8, x9, a, b, Int.ofNat (i + 1), false, c0', c1', c2', 0, 0, 64, m', true, (-9223372036854775808), c0', c1', c2', 0, 0, 64, m', true, (-9223372036854775808), m', g0', g1', g2', g3', g4', g5', g6', g7', g8', m', g0', g1', g2', g3', g4', g5', g6', g7', g8') := by
  have e : decide (Int.ofNat i < Int.ofNat n) = true := by simp only [Int.ofNat_eq_natCast]; exact decide_eq_true (by omega)
  have e2 : inR (Int.ofNat i) n = true := by unfold inR; simp only [Int.ofNat_eq_natCast, Bool.and_eq_true, decide_eq_true_eq]; omega
  have e3 : Int.toNat (Int.ofNat i) = i := by simp
  have e4 : IntKind.wrap IntKind.i64 (Int.ofNat i + 1) = Int.ofNat (i + 1) := (wrap_i64 (by simp only [Int.ofNat_eq_natCast]; omega) (by simp only [Int.ofNat_eq_natCast]; omega)).trans rfl
  have e5 : Nat.beq m m = true := Nat.beq_refl m
  unfold S_astrolabelaw13_RingParts_0
  by_cases hl : x1 i ≤ (-9223372036854775808)
  · have hp := put_late (x1 i) (x2 i) (x3 i) (x4 i) (x5 i) (x6 i) (x7 i) (x8 i) (x9 i) c0 c1 c2 0 0 64 m (-9223372036854775808) g0 g1 g2 g3 g4 g5 g6 g7 g8 true hl
    refine ⟨IntKind.wrap .i64 (c0 + 1), IntKind.wrap .i64 (c1 + 1), c2, m, g0, g1, g2, g3, g4, g5, g6, g7, g8, hs, by omega, fun c k => ?_⟩
    simp only [e, e2, e3, e4, e5, hp, cond_true, cond_false, Option.bind_some, Bool.and_true]
  · obtain ⟨ret, full, m', g0', g1', g2', g3', g4', g5', g6', g7', g8', hp, ht, _, _⟩ := put_in (x1 i) (x2 i) (x3 i) (x4 i) (x5 i) (x6 i) (x7 i) (x8 i) (x9 i) c0 c1 c2 0 0 64 m (-9223372036854775808) g0 g1 g2 g3 g4 g5 g6 g7 g8 (by omega) (by omega) hs
    have hz : ((m + 1 : Nat) : Int) ≤ 64 := by omega
    rw [if_pos hz] at ht
    refine ⟨IntKind.wrap .i64 (c0 + 1), c1, full, m', g0', g1', g2', g3', g4', g5', g6', g7', g8', ?_, ?_, fun c k => ?_⟩
    · rw [ht]; exact ins_srt _ _ hs
    · have := congrArg List.length ht
      rw [tab_length, ins_length, tab_length] at this
      omega
    · simp only [e, e2, e3, e4, e5, hp, cond_true, cond_false, Option.bind_some, Bool.and_true]
theorem parts_end (c0 c1 c2 : Int) (m : Nat) (g0 g1 g2 g3 g4 g5 g6 g7 g8 : Nat → Int) (c) (k) : S_astrolabelaw13_RingParts_0 (ρ := Bool) f_astrolabelaw13_awake f___ring_Buffer__Put f___ring_Buffer__Pop f___ring_Buffer__Horizon n x1 x2 x3 x4 x5 x6 x7 x8 x9 a b (Int.ofNat n) false c0 c1 c2 0 0 64 m true (-9223372036854775808) c0 c1 c2 0 0 64 m true (-9223372036854775808) m g0 g1 g2 g3 g4 g5 g6 g7 g8 m g0 g1 g2 g3 g4 g5 g6 g7 g8 c k = k (n, x1, x2, x3, x4, x5, x6, x7, x8, x9, a, b, Int.ofNat n, false, Int.ofNat n, false, c0, c1, c2, 0, 0, 64, m, true, (-9223372036854775808), c0, c1, c2, 0, 0, 64, m, true, (-9223372036854775808), m, g0, g1, g2, g3, g4, g5, g6, g7, g8, m, g0, g1, g2, g3, g4, g5, g6, g7, g8) := by
  have e : decide (Int.ofNat n < Int.ofNat n) = false := decide_eq_false (by omega)
  unfold S_astrolabelaw13_RingParts_0
  rw [e, cond_false]
end
theorem parts_look (n : Nat) (hn : n ≤ 150) (p0 p1 p2 p3 p4 p5 p6 p7 p8 q0 q1 q2 q3 q4 q5 q6 q7 q8 : Nat → Int) (h : ∀ j, j < n → row p0 p1 p2 p3 p4 p5 p6 p7 p8 j = row q0 q1 q2 q3 q4 q5 q6 q7 q8 j) (u : Unit → Option Bool) (v) (hv : ∀ d, v d = some true) :
    L_astrolabelaw13_RingParts_1 (n, n, 0, n, p0, p1, p2, p3, p4, p5, p6, p7, p8, n, q0, q1, q2, q3, q4, q5, q6, q7, q8) (Sum.elim u v) = some true := by
  unfold L_astrolabelaw13_RingParts_1
  refine loopK_inv (fun t d => ∃ i : Nat, i + t = n ∧ d = (n, n, Int.ofNat i, n, p0, p1, p2, p3, p4, p5, p6, p7, p8, n, q0, q1, q2, q3, q4, q5, q6, q7, q8)) ?_ 200 n _ (by omega) ⟨0, by omega, rfl⟩
  rintro t _ c ⟨i, hi, rfl⟩ hc
  unfold S_astrolabelaw13_RingParts_1
  rcases Nat.eq_zero_or_pos t with h0 | h0
  · have e : decide (Int.ofNat i < Int.ofNat n) = false := by simp only [Int.ofNat_eq_natCast]; exact decide_eq_false (by omega)
    rw [e, cond_false, Sum.elim_inr]
    exact hv _
  · have e : decide (Int.ofNat i < Int.ofNat n) = true := by simp only [Int.ofNat_eq_natCast]; exact decide_eq_true (by omega)
    have e2 : inR (Int.ofNat i) n = true := by unfold inR; simp only [Int.ofNat_eq_natCast, Bool.and_eq_true, decide_eq_true_eq]; omega
    have e3 : Int.toNat (Int.ofNat i) = i := by simp
    have e4 : IntKind.wrap IntKind.i64 (Int.ofNat i + 1) = Int.ofNat (i + 1) := (wrap_i64 (by simp only [Int.ofNat_eq_natCast]; omega) (by simp only [Int.ofNat_eq_natCast]; omega)).trans rfl
    have := h i (by omega)
    simp only [row] at this
    rw [e, e2, e3, e4, eq9, decide_eq_true this, cond_true, cond_true, cond_true, Bool.not_true, cond_false]
    exact hc (t - 1) _ (by omega) ⟨i + 1, by omega, rfl⟩
theorem drop_row {n k : Nat} {g0 g1 g2 g3 g4 g5 g6 g7 g8 r0 r1 r2 r3 r4 r5 r6 r7 r8 : Nat → Int} (h : tab (n - k) (row r0 r1 r2 r3 r4 r5 r6 r7 r8) = (tab n (row g0 g1 g2 g3 g4 g5 g6 g7 g8)).drop k) (j : Nat) (hj : j < n - k) : row r0 r1 r2 r3 r4 r5 r6 r7 r8 j = row g0 g1 g2 g3 g4 g5 g6 g7 g8 (k + j) := by
  have := congrArg (fun l => l[j]?) h
  simp only [List.getElem?_drop] at this
  rw [tab_get _ hj, tab_get _ (by omega)] at this
  exact Option.some.inj this
theorem ringParts_plain (n : Nat) (x1 x2 x3 x4 x5 x6 x7 x8 x9 : Nat → Int) (a b : Int) : f_astrolabelaw13_RingParts n x1 x2 x3 x4 x5 x6 x7 x8 x9 a b = some true := by
  unfold f_astrolabelaw13_RingParts
  generalize hl0 : @L_astrolabelaw13_RingParts_0 = l0
  unfold K_astrolabelaw13_RingParts
  rw [ring_awake, Option.bind_some, Bool.not_true, cond_false]
  by_cases h64 : Int.ofNat n > 64
  · rw [decide_eq_true h64, cond_true]
  rw [decide_eq_false h64, cond_false]
  by_cases hab : a > b
  · rw [decide_eq_true hab, cond_true]
  rw [decide_eq_false hab, cond_false]
  have hn : n ≤ 64 := by simp only [Int.ofNat_eq_natCast] at h64; omega
  subst hl0
  refine loopK_inv (fun t d => ∃ (i : Nat) (c0 c1 c2 : Int) (m : Nat) (g0 g1 g2 g3 g4 g5 g6 g7 g8 : Nat → Int), i + t = n ∧ Srt (tab m (row g0 g1 g2 g3 g4 g5 g6 g7 g8)) ∧ m ≤ i ∧
    d = (n, x1, x2, x3, x4, x5, x6, x7, x8, x9, a, b, Int.ofNat i, false, c0, c1, c2, 0, 0, 64, m, true, (-9223372036854775808), c0, c1, c2, 0, 0, 64, m, true, (-9223372036854775808), m, g0, g1, g2, g3, g4, g5, g6, g7, g8, m, g0, g1, g2, g3, g4, g5, g6, g7, g8)) ?_ 200 n _ (by omega) ⟨0, 0, 0, 0, 0, fun _ => 0, fun _ => 0, fun _ => 0, fun _ => 0, fun _ => 0, fun _ => 0, fun _ => 0, fun _ => 0, fun _ => 0, by omega, List.Pairwise.nil, by omega, rfl⟩
  rintro t _ c ⟨i, c0, c1, c2, m, g0, g1, g2, g3, g4, g5, g6, g7, g8, hi, hs, hm, rfl⟩ hc
  rcases Nat.eq_zero_or_pos t with h0 | h0
  · obtain rfl : i = n := by omega
    refine (parts_end i x1 x2 x3 x4 x5 x6 x7 x8 x9 a b c0 c1 c2 m g0 g1 g2 g3 g4 g5 g6 g7 g8 c _).trans ?_
    obtain ⟨k1, r0, r1, r2, r3, r4, r5, r6, r7, r8, hk1, u1, v1, w1, z1⟩ := pop_eq a c0 c1 c2 0 0 64 m (-9223372036854775808) g0 g1 g2 g3 g4 g5 g6 g7 g8 (by omega)
    obtain ⟨k2, p0, p1, p2, p3, p4, p5, p6, p7, p8, hk2, u2, v2, w2, z2⟩ := pop_eq b c0 c1 c2 0 (IntKind.wrap .i64 (0 + Int.ofNat k1)) 64 (m - k1) (if a > (-9223372036854775808) then a else (-9223372036854775808)) r0 r1 r2 r3 r4 r5 r6 r7 r8 (by omega)
    obtain ⟨k3, q0, q1, q2, q3, q4, q5, q6, q7, q8, hk3, u3, v3, w3, z3⟩ := pop_eq b c0 c1 c2 0 0 64 m (-9223372036854775808) g0 g1 g2 g3 g4 g5 g6 g7 g8 (by omega)
    have hr1 : ∀ j, j < m - k1 → row r0 r1 r2 r3 r4 r5 r6 r7 r8 j = row g0 g1 g2 g3 g4 g5 g6 g7 g8 (k1 + j) := fun j hj => drop_row w1 j hj
    have hr : ∀ j, j < m - k1 → r0 j = g0 (k1 + j) := fun j hj => congrArg Prod.fst (hr1 j hj)
    have ek : k3 = k1 + k2 := by
      have e1 : k1 ≤ k3 := by
        rcases Nat.lt_or_ge k3 k1 with h | h
        · have := u1 k3 h
          have := v3 (by omega)
          omega
        · exact h
      rcases Nat.lt_trichotomy (k3 - k1) k2 with h | h | h
      · have q1 := u2 (k3 - k1) h
        rw [hr _ (by omega), show k1 + (k3 - k1) = k3 by omega] at q1
        exact absurd q1 (v3 (by omega))
      · omega
      · have q1 := v2 (by omega)
        rw [hr _ (by omega)] at q1
        exact absurd (u3 (k1 + k2) (by omega)) q1
    subst ek
    have eout : IntKind.wrap .i64 (IntKind.wrap .i64 (0 + Int.ofNat k1) + Int.ofNat k2) = IntKind.wrap .i64 (0 + Int.ofNat (k1 + k2)) := by
      simp only [Int.ofNat_eq_natCast]
      rw [wrap_i64 (n := 0 + (k1 : Int)) (by omega) (by omega)]
      congr 1
      omega
    have ehor : (if b > (if a > (-9223372036854775808) then a else (-9223372036854775808)) then b else (if a > (-9223372036854775808) then a else (-9223372036854775808))) = (if b > (-9223372036854775808) then b else (-9223372036854775808)) := by
      split <;> split <;> omega
    have ebig : Nat.ble ((k1 + k2) * 72) 140737488355328 = true := Nat.ble_eq_true_of_le (by omega)
    have ene : (Int.ofNat (k1 + k2) != Int.ofNat (k1 + k2)) = false := by simp
    have hlook := fun u v => parts_look (k1 + k2) (by omega) (fun j => bif Nat.blt j k1 then g0 j else r0 (j - k1)) (fun j => bif Nat.blt j k1 then g1 j else r1 (j - k1)) (fun j => bif Nat.blt j k1 then g2 j else r2 (j - k1)) (fun j => bif Nat.blt j k1 then g3 j else r3 (j - k1)) (fun j => bif Nat.blt j k1 then g4 j else r4 (j - k1)) (fun j => bif Nat.blt j k1 then g5 j else r5 (j - k1)) (fun j => bif Nat.blt j k1 then g6 j else r6 (j - k1)) (fun j => bif Nat.blt j k1 then g7 j else r7 (j - k1)) (fun j => bif Nat.blt j k1 then g8 j else r8 (j - k1)) g0 g1 g2 g3 g4 g5 g6 g7 g8 (fun j hj => by
      by_cases hjk : j < k1
      · simp only [row, show Nat.blt j k1 = true from blt_iff.2 hjk, cond_true]
      · have := hr1 (j - k1) (by omega)
        rw [show k1 + (j - k1) = j by omega] at this
        simp only [row, show Nat.blt j k1 = false from blt_false (by omega), cond_false] at this ⊢
        exact this) u v
    simp only [Nat.beq_refl, cond_true, cond_false, Bool.and_true, z1, Option.bind_some, z2, z3, ebig, ene, eout, ehor, beq_self_eq_true, Bool.not_true, f___ring_Buffer__Horizon, K___ring_Buffer__Horizon, bne_self_eq_false]
    exact hlook _ _ fun _ => rfl
  · obtain ⟨c0', c1', c2', m', g0', g1', g2', g3', g4', g5', g6', g7', g8', h1, h2, h3⟩ := parts_go n x1 x2 x3 x4 x5 x6 x7 x8 x9 a b (i := i) (by omega) hn c0 c1 c2 m g0 g1 g2 g3 g4 g5 g6 g7 g8 hs hm
    refine (h3 c _).trans ?_
    exact hc (t - 1) _ (by omega) ⟨i + 1, c0', c1', c2', m', g0', g1', g2', g3', g4', g5', g6', g7', g8', by omega, h1, h2, rfl⟩
theorem ringParts_ev (f : (Nat) → (Nat → Int) → (Nat → Int) → (Nat → Int) → (Nat → Int) → (Nat → Int) → (Nat → Int) → (Nat → Int) → (Nat → Int) → (Nat → Int) → (Int) → (Int) → Option Bool) (n0 : Nat) (x0_0 : Nat → Int) (x0_1 : Nat → Int) (x0_2 : Nat → Int) (x0_3 : Nat → Int) (x0_4 : Nat → Int) (x0_5 : Nat → Int) (x0_6 : Nat → Int) (x0_7 : Nat → Int) (x0_8 : Nat → Int) (x1_0 : Int) (x2_0 : Int) : F_astrolabelaw13_RingParts f [.r (.c (.fs n0 9 [.i .i64 x0_0, .i .i64 x0_1, .i .i64 x0_2, .i .i64 x0_3, .i .i64 x0_4, .i .i64 x0_5, .i .i64 x0_6, .i .i64 x0_7, .i .i64 x0_8])), .r (.c (.f (.i .i64 x1_0))), .r (.c (.f (.i .i64 x2_0)))] [] = .opt (f n0 x0_0 x0_1 x0_2 x0_3 x0_4 x0_5 x0_6 x0_7 x0_8 x1_0 x2_0) fun d => .leaf ⟨.r (.c (.f (.b d))), [], []⟩ := by kernel_rfl
theorem ringParts_trues : Trues (F_astrolabelaw13_RingParts f_astrolabelaw13_RingParts) [.sl [.i .i64, .i .i64, .i .i64, .i .i64, .i .i64, .i .i64, .i .i64, .i .i64, .i .i64], .flat false [.c (.i .i64)], .flat false [.c (.i .i64)]] := fun ds h => by
  obtain ⟨n0, c0, _, rfl, m0, q0_0, g0⟩ := fit_sl h
  obtain ⟨x0_0, _, rfl, r0_0, q0_1⟩ := col_i q0_0
  obtain ⟨x0_1, _, rfl, r0_1, q0_2⟩ := col_i q0_1
  obtain ⟨x0_2, _, rfl, r0_2, q0_3⟩ := col_i q0_2
  obtain ⟨x0_3, _, rfl, r0_3, q0_4⟩ := col_i q0_3
  obtain ⟨x0_4, _, rfl, r0_4, q0_5⟩ := col_i q0_4
  obtain ⟨x0_5, _, rfl, r0_5, q0_6⟩ := col_i q0_5
  obtain ⟨x0_6, _, rfl, r0_6, q0_7⟩ := col_i q0_6
  obtain ⟨x0_7, _, rfl, r0_7, q0_8⟩ := col_i q0_7
  obtain ⟨x0_8, _, rfl, r0_8, q0_9⟩ := col_i q0_8
  obtain rfl := col_nil q0_9
  obtain ⟨_, _, rfl, q1_0, g1⟩ := fit_flat g0
  obtain ⟨x1_0, _, rfl, r1_0, q1_1⟩ := f1_i q1_0
  obtain rfl := f1_nil q1_1
  obtain ⟨_, _, rfl, q2_0, g2⟩ := fit_flat g1
  obtain ⟨x2_0, _, rfl, r2_0, q2_1⟩ := f1_i q2_0
  obtain rfl := f1_nil q2_1
  obtain rfl := fit_nil g2
  refine ⟨[], (congrArg T.eval (ringParts_ev f_astrolabelaw13_RingParts n0 x0_0 x0_1 x0_2 x0_3 x0_4 x0_5 x0_6 x0_7 x0_8 x1_0 x2_0)).trans ?_⟩
  rw [ringParts_plain n0 x0_0 x0_1 x0_2 x0_3 x0_4 x0_5 x0_6 x0_7 x0_8 x1_0 x2_0]
  rfl
set_option maxRecDepth 100000 in
theorem ringParts_lifted (os : Os) (started : os.Started) (H : Type) (enc : TypeId × Value → H) :
    ReturnsInHanded {} Try.checked os 8 .any (Rows.ringPartsSpec.pre6 enc Try.prog Try.f8 Rows.ringPartsRow.domain false) (Rows.ringPartsSpec.post enc Try.prog Try.f8 false true false false) :=
  law_lift (C := Try.checked) (tb := Try.f8.resultTypes.getD 0 0) own started (by kernel_rfl) Try.func8 laid (by kernel_rfl) (by kernel_rfl) (by kernel_rfl) rfl
    (fun ds h => by
      have h : ds.length = 3 := h.trans (by kernel_rfl)
      match ds, h with
      | [_, _, _], _ => rfl)
    (ChangeSpec.witness6 (enc := enc) (C := Try.checked) false ⟨#[], #[.slice none 0 0, .int .i64 0, .int .i64 0], []⟩ 8 (by kernel_rfl) (by kernel_rfl) (by kernel_rfl) (by kernel_rfl))
    (fun W base args ds ps _ hval ht _ _ _ => prm_calls (pr := [.sl [.i .i64, .i .i64, .i .i64, .i .i64, .i .i64, .i .i64, .i .i64, .i .i64, .i .i64], .flat false [.c (.i .i64)], .flat false [.c (.i .i64)]]) s_astrolabelaw13_RingParts (by kernel_rfl) (ts := Try.f8.params.toList) (by kernel_rfl) ringParts_trues hval ht)
theorem ringParts_over : Rows.ringPartsRow.holds Try.pinned (OpenSpec.ofChange Rows.ringPartsSpec) :=
  OpenClaim.holds_of_wide 8 Try.f8 rfl rfl rfl rfl rfl rfl rfl ⟨rfl, rfl, rfl, rfl, rfl⟩ rfl rfl rfl rfl rfl (by kernel_rfl) Try.func8 (by kernel_rfl)
    (of_decide_eq_true (by kernel_rfl)) (by unfold Func.isWrapper; first | (rw [if_pos (by decide +kernel)]; kernel_rfl) | (rw [if_neg (by decide +kernel)]; exact ⟨rfl, rfl⟩))
    (fun os started H enc _ => ringParts_lifted os started H enc)
/-- the statement -/
theorem ringParts_proved : Rows.RingPartsSaid := ringParts_over
#print axioms ringParts_proved
end Go.Proofs.Ythbnojedlbeglaa
