/-
  The document's sine, cosine, and a frame's scales are the program's. The document's place on the plane is the program's. What satellites tell, and what the document says of it, in plain arithmetic. Chapter 19: GnssExpected: the statement of astrolabelaw19.GnssExpected; no condition.
-/
import Derived.Test.YtdpenjncfmkbgaaZF
import Derived.Test.YtdpenjncfmkbgaaZC
import Derived.Test.YtdpenjncfmkbgaaAbLaw
set_option linter.unusedVariables false
set_option linter.unusedSimpArgs false
set_option maxRecDepth 100000
set_option maxHeartbeats 4000000
set_option linter.unusedVariables false
set_option linter.unusedSimpArgs false
namespace Go.Proofs.Ytdpenjncfmkbgaa
open Go.Ab
def stepV (k z s : Int) : Int := sat (sat k + sat (sat (rnd (sat z * sat s) 30)))
def serV (P : Nat → Int) (z : Int) : Nat → Int
  | 0 => P 0
  | i + 1 => stepV (P (i + 1)) z (serV P z i)
def PA : Nat → Int := fun (j : Nat) => bif Nat.beq j 5 then 1073741824 else bif Nat.beq j 4 then -178956971 else bif Nat.beq j 3 then 8947849 else bif Nat.beq j 2 then -213044 else bif Nat.beq j 1 then 2959 else bif Nat.beq j 0 then -27 else -27
def PB : Nat → Int := fun (j : Nat) => bif Nat.beq j 6 then 1073741824 else bif Nat.beq j 5 then -536870912 else bif Nat.beq j 4 then 44739243 else bif Nat.beq j 3 then -1491308 else bif Nat.beq j 2 then 26631 else bif Nat.beq j 1 then -296 else bif Nat.beq j 0 then 2 else 2
theorem series_val (x : Int) (n : Nat) (hit : Bool) (P : Nat → Int) (h1 : 1 ≤ n) (h2 : n ≤ 150) : ∃ u, f_AD x n hit P true = some (serV P x (n - 1), u) := by
  obtain ⟨⟨v, u⟩, e⟩ := t_series x n hit P true h1 h2
  have p := series_post x n hit P true (serV P x) (serV P x) h1 h2 ⟨Int.le_refl _, Int.le_refl _⟩ (fun i v _ l1 l2 => by
    have : v = serV P x i := Int.le_antisymm l2 l1
    subst this
    exact ⟨Int.le_refl _, Int.le_refl _⟩) _ e
  have : v = serV P x (n - 1) := Int.le_antisymm p.2 p.1
  exact ⟨u, this ▸ e⟩
theorem loopK_q {D X ρ : Type} {Q : Option ρ → Prop} {s : D → (D → Option ρ) → (X → Option ρ) → Option ρ} {k : X → Option ρ} (Inv : Nat → D → Prop)
    (h : ∀ t d c, Inv t d → (∀ t' d', t' < t → Inv t' d' → Q (c d')) → Q (s d c k)) : ∀ (fuel t : Nat) (d : D), t < fuel → Inv t d → Q (loopK s fuel d k)
  | 0, t, d, hf, hd => by omega
  | fuel + 1, t, d, hf, hd => by
    rw [loopK_succ]
    exact h t d _ hd fun t' d' ht hd' => loopK_q Inv h fuel t' d' (by omega) hd'
theorem add_M (k z s : Int) (hit : Bool) {ρ : Type} (c : Int × Bool → Option ρ) : ∃ u, (Option.bind (f_Ap z s hit) fun (d : Int × Bool) => Option.bind (f_BG k d.1 d.2) c) = c (stepV k z s, u) := by
  rw [ref_M, Option.bind_some]
  simp only [ref_add, Option.bind_some]
  exact ⟨_, rfl⟩
theorem ref_loopB {ρ : Type} (w z : Int) (hit : Bool) (k : _ → Option ρ) : ∃ u, L_BF_0 (w, z, 2, 0, hit) k = k (w, z, serV PB z 6, 6, false, u) := by
  unfold L_BF_0
  refine loopK_q (Q := fun o => ∃ u, o = k (w, z, serV PB z 6, 6, false, u)) (fun t d => ∃ (i : Nat) (u : Bool), i + t = 6 ∧ d = (w, z, serV PB z i, (i : Int), u)) ?_ 200 6 _ (by omega) ⟨0, hit, by omega, rfl⟩
  rintro t _ c ⟨i, u, hi, rfl⟩ hc
  have go : ∀ (m : Int) (j : Nat) (hj : j = i + 1) (h6 : j ≤ 6) (hm : stepV m z (serV PB z i) = serV PB z j) (e : S_BF_0 f_BE f_BL f_Ap f_BG f_BB w z (serV PB z i) (i : Int) u c k = Option.bind (f_Ap z (serV PB z i) u) fun (d : Int × Bool) => Option.bind (f_BG m d.1 d.2) fun (d : Int × Bool) => c (w, z, d.1, (j : Int), d.2)),
      ∃ u', S_BF_0 f_BE f_BL f_Ap f_BG f_BB w z (serV PB z i) (i : Int) u c k = k (w, z, serV PB z 6, 6, false, u') := by
    intro m j hj h6 hm e
    obtain ⟨u2, h2⟩ := add_M m z (serV PB z i) u fun (d : Int × Bool) => c (w, z, d.1, (j : Int), d.2)
    rw [e, h2, hm]
    exact hc (6 - j) _ (by omega) ⟨j, u2, by omega, rfl⟩
  have hcase : i = 0 ∨ i = 1 ∨ i = 2 ∨ i = 3 ∨ i = 4 ∨ i = 5 ∨ i = 6 := by omega
  rcases hcase with rfl | rfl | rfl | rfl | rfl | rfl | rfl
  · exact go (-296) 1 rfl (by omega) rfl (by kernel_rfl)
  · exact go 26631 2 rfl (by omega) rfl (by kernel_rfl)
  · exact go (-1491308) 3 rfl (by omega) rfl (by kernel_rfl)
  · exact go 44739243 4 rfl (by omega) rfl (by kernel_rfl)
  · exact go (-536870912) 5 rfl (by omega) rfl (by kernel_rfl)
  · exact go 1073741824 6 rfl (by omega) rfl (by kernel_rfl)
  · exact ⟨u, by kernel_rfl⟩
theorem ref_loopA {ρ : Type} (w z : Int) (hit : Bool) (k : _ → Option ρ) : ∃ u, L_BF_1 (w, z, -27, 0, hit) k = k (w, z, serV PA z 5, 5, false, u) := by
  unfold L_BF_1
  refine loopK_q (Q := fun o => ∃ u, o = k (w, z, serV PA z 5, 5, false, u)) (fun t d => ∃ (i : Nat) (u : Bool), i + t = 5 ∧ d = (w, z, serV PA z i, (i : Int), u)) ?_ 200 5 _ (by omega) ⟨0, hit, by omega, rfl⟩
  rintro t _ c ⟨i, u, hi, rfl⟩ hc
  have go : ∀ (m : Int) (j : Nat) (hj : j = i + 1) (h6 : j ≤ 5) (hm : stepV m z (serV PA z i) = serV PA z j) (e : S_BF_1 f_BE f_BL f_Ap f_BG f_BB w z (serV PA z i) (i : Int) u c k = Option.bind (f_Ap z (serV PA z i) u) fun (d : Int × Bool) => Option.bind (f_BG m d.1 d.2) fun (d : Int × Bool) => c (w, z, d.1, (j : Int), d.2)),
      ∃ u', S_BF_1 f_BE f_BL f_Ap f_BG f_BB w z (serV PA z i) (i : Int) u c k = k (w, z, serV PA z 5, 5, false, u') := by
    intro m j hj h6 hm e
    obtain ⟨u2, h2⟩ := add_M m z (serV PA z i) u fun (d : Int × Bool) => c (w, z, d.1, (j : Int), d.2)
    rw [e, h2, hm]
    exact hc (5 - j) _ (by omega) ⟨j, u2, by omega, rfl⟩
  have hcase : i = 0 ∨ i = 1 ∨ i = 2 ∨ i = 3 ∨ i = 4 ∨ i = 5 := by omega
  rcases hcase with rfl | rfl | rfl | rfl | rfl | rfl
  · exact go 2959 1 rfl (by omega) rfl (by kernel_rfl)
  · exact go (-213044) 2 rfl (by omega) rfl (by kernel_rfl)
  · exact go 8947849 3 rfl (by omega) rfl (by kernel_rfl)
  · exact go (-178956971) 4 rfl (by omega) rfl (by kernel_rfl)
  · exact go 1073741824 5 rfl (by omega) rfl (by kernel_rfl)
  · exact ⟨u, by kernel_rfl⟩
def clampV (v : Int) : Int := if 1073741824 < if -1073741824 > v then -1073741824 else v then 1073741824 else if -1073741824 > v then -1073741824 else v
theorem ref_clampV (v : Int) : ∃ u, f_BB v (-1073741824) 1073741824 false = some (clampV v, u) := by
  rw [ref_clamp v _ _ false (by decide)]
  refine ⟨_, congrArg some (Prod.ext ?_ rfl)⟩
  unfold clampV
  by_cases c : v < -1073741824
  · rw [if_pos c, if_pos (show -1073741824 > v from c)]; rfl
  · rw [if_neg c, if_neg (show ¬ -1073741824 > v from c)]
def sinV (y : Int) : Int :=
  if mgq y ≤ 843314857 then clampV (sat (rnd (sat y * sat (serV PA (sat (rnd (sat y * sat y) 30)) 5)) 30))
  else if y < 0 then clampV (-(serV PB (sat (rnd (sat (1686629713 - mgq y) * sat (1686629713 - mgq y)) 30)) 6))
  else clampV (serV PB (sat (rnd (sat (1686629713 - mgq y) * sat (1686629713 - mgq y)) 30)) 6)
theorem abs_eq (x : Int) (h1 : -1152921504606846976 < x) (h2 : x < 1152921504606846976) : f_Aq x = some (mgq x) := by
  unfold f_Aq K_Aq mgq
  rw [decide_eq_false (by omega), cond_false, decide_eq_false (by omega), cond_false]
  by_cases c : x < 0
  · rw [decide_eq_true c, cond_true, if_pos c, wrap_i64 (by omega) (by omega), Int.zero_sub]
  · rw [decide_eq_false c, cond_false, if_neg c]
def ptail (y : Int) (hit : Bool) : Option (Int × Bool) :=
  Option.bind (f_Aq y) fun (d_2 : Int) =>
    bif decide (d_2 ≤ 843314857) then
      Option.bind (f_AL y y hit) fun (d : Int × Bool) =>
        Option.bind (f_AD d.1 6 d.2 PA true) fun (d : Int × Bool) =>
          Option.bind (f_AL y d.1 d.2) fun (d : Int × Bool) => some (clampV d.1, d.2)
    else
      Option.bind (f_AL (IntKind.wrap IntKind.i64 (1686629713 - d_2)) (IntKind.wrap IntKind.i64 (1686629713 - d_2)) hit) fun (d : Int × Bool) =>
        Option.bind (f_AD d.1 7 d.2 PB true) fun (d : Int × Bool) =>
          bif decide (y < 0) then some (clampV (IntKind.wrap IntKind.i64 (0 - d.1)), d.2)
          else some (clampV d.1, d.2)
theorem serV_bd (P : Nat → Int) (z : Int) (i : Nat) : -1152921504606846976 ≤ serV P z (i + 1) ∧ serV P z (i + 1) ≤ 1152921504606846976 := sat_le _
theorem ptail_eq (y : Int) (hit : Bool) (h1 : -1686629713 ≤ y) (h2 : y ≤ 1686629713) : ∃ u, ptail y hit = some (sinV y, u) := by
  unfold ptail sinV
  have m0 : 0 ≤ mgq y ∧ mgq y ≤ 1686629713 := by unfold mgq; split <;> omega
  rw [abs_eq y (by omega) (by omega), Option.bind_some]
  by_cases c : mgq y ≤ 843314857
  · rw [decide_eq_true c, cond_true, if_pos c]
    obtain ⟨u1, e1⟩ := m_eq y y hit
    rw [e1, Option.bind_some]
    obtain ⟨u2, e2⟩ := series_val (sat (rnd (sat y * sat y) 30)) 6 u1 PA (by omega) (by omega)
    simp only [e2, Option.bind_some]
    obtain ⟨u3, e3⟩ := m_eq y (serV PA (sat (rnd (sat y * sat y) 30)) 5) u2
    refine ⟨u3, ?_⟩
    show Option.bind (f_AL y (serV PA (sat (rnd (sat y * sat y) 30)) 5) u2) _ = _
    rw [e3, Option.bind_some]
  · rw [decide_eq_false c, cond_false, if_neg c, wrap_i64 (n := 1686629713 - mgq y) (by omega) (by omega)]
    generalize (1686629713 : Int) - mgq y = q
    obtain ⟨u1, e1⟩ := m_eq q q hit
    rw [e1, Option.bind_some]
    obtain ⟨u2, e2⟩ := series_val (sat (rnd (sat q * sat q) 30)) 7 u1 PB (by omega) (by omega)
    simp only [e2, Option.bind_some]
    have b : -1152921504606846976 ≤ serV PB (sat (rnd (sat q * sat q) 30)) 6 ∧ serV PB (sat (rnd (sat q * sat q) 30)) 6 ≤ 1152921504606846976 := serV_bd PB (sat (rnd (sat q * sat q) 30)) 5
    refine ⟨u2, ?_⟩
    by_cases d : y < 0
    · rw [decide_eq_true d, cond_true, if_pos d]
      show some (clampV (IntKind.wrap .i64 (0 - serV PB (sat (rnd (sat q * sat q) 30)) 6)), u2) = _
      rw [wrap_i64 (by omega) (by omega), Int.zero_sub]
    · rw [decide_eq_false d, cond_false, if_neg d]
def rtail (y : Int) (hit : Bool) : Option (Int × Bool) :=
  bif decide (y < 0) then
    bif decide (IntKind.wrap IntKind.i64 (0 - y) > 843314857) then
      Option.bind (f_Ap (IntKind.wrap IntKind.i64 (1686629713 - IntKind.wrap IntKind.i64 (0 - y))) (IntKind.wrap IntKind.i64 (1686629713 - IntKind.wrap IntKind.i64 (0 - y))) hit) fun (d : Int × Bool) =>
        L_BF_0 (y, d.1, 2, 0, d.2) fun (d : Int × Int × Int × Int × Bool × Bool) =>
          bif decide (d.1 < 0) then Option.bind (f_BB (IntKind.wrap IntKind.i64 (0 - d.2.2.1)) (-1073741824) 1073741824 false) fun (d_2 : Int × Bool) => some (d_2.1, d.2.2.2.2.2)
          else Option.bind (f_BB d.2.2.1 (-1073741824) 1073741824 false) fun (d_2 : Int × Bool) => some (d_2.1, d.2.2.2.2.2)
    else
      Option.bind (f_Ap y y hit) fun (d : Int × Bool) =>
        L_BF_1 (y, d.1, -27, 0, d.2) fun (d : Int × Int × Int × Int × Bool × Bool) =>
          Option.bind (f_Ap d.1 d.2.2.1 d.2.2.2.2.2) fun (d : Int × Bool) =>
            Option.bind (f_BB d.1 (-1073741824) 1073741824 false) fun (d_2 : Int × Bool) => some (d_2.1, d.2)
  else
    bif decide (y > 843314857) then
      Option.bind (f_Ap (IntKind.wrap IntKind.i64 (1686629713 - y)) (IntKind.wrap IntKind.i64 (1686629713 - y)) hit) fun (d : Int × Bool) =>
        L_BF_0 (y, d.1, 2, 0, d.2) fun (d : Int × Int × Int × Int × Bool × Bool) =>
          bif decide (d.1 < 0) then Option.bind (f_BB (IntKind.wrap IntKind.i64 (0 - d.2.2.1)) (-1073741824) 1073741824 false) fun (d_2 : Int × Bool) => some (d_2.1, d.2.2.2.2.2)
          else Option.bind (f_BB d.2.2.1 (-1073741824) 1073741824 false) fun (d_2 : Int × Bool) => some (d_2.1, d.2.2.2.2.2)
    else
      Option.bind (f_Ap y y hit) fun (d : Int × Bool) =>
        L_BF_1 (y, d.1, -27, 0, d.2) fun (d : Int × Int × Int × Int × Bool × Bool) =>
          Option.bind (f_Ap d.1 d.2.2.1 d.2.2.2.2.2) fun (d : Int × Bool) =>
            Option.bind (f_BB d.1 (-1073741824) 1073741824 false) fun (d_2 : Int × Bool) => some (d_2.1, d.2)
theorem rA (y : Int) (hit : Bool) : ∃ u, (Option.bind (f_Ap y y hit) fun (d : Int × Bool) =>
        L_BF_1 (y, d.1, -27, 0, d.2) fun (d : Int × Int × Int × Int × Bool × Bool) =>
          Option.bind (f_Ap d.1 d.2.2.1 d.2.2.2.2.2) fun (d : Int × Bool) =>
            Option.bind (f_BB d.1 (-1073741824) 1073741824 false) fun (d_2 : Int × Bool) => some (d_2.1, d.2)) = some (clampV (sat (rnd (sat y * sat (serV PA (sat (rnd (sat y * sat y) 30)) 5)) 30)), u) := by
  rw [ref_M, Option.bind_some]
  obtain ⟨u2, e2⟩ := ref_loopA y (sat (rnd (sat y * sat y) 30)) (hit || over y || over y || over (rnd (sat y * sat y) 30)) fun (d : Int × Int × Int × Int × Bool × Bool) =>
          Option.bind (f_Ap d.1 d.2.2.1 d.2.2.2.2.2) fun (d : Int × Bool) =>
            Option.bind (f_BB d.1 (-1073741824) 1073741824 false) fun (d_2 : Int × Bool) => some (d_2.1, d.2)
  simp only
  rw [e2]
  simp only
  rw [ref_M, Option.bind_some]
  obtain ⟨u3, e3⟩ := ref_clampV (sat (rnd (sat y * sat (serV PA (sat (rnd (sat y * sat y) 30)) 5)) 30))
  simp only [e3, Option.bind_some]
  exact ⟨_, rfl⟩
theorem rB (y q : Int) (hit : Bool) : ∃ u, (Option.bind (f_Ap q q hit) fun (d : Int × Bool) =>
        L_BF_0 (y, d.1, 2, 0, d.2) fun (d : Int × Int × Int × Int × Bool × Bool) =>
          bif decide (d.1 < 0) then Option.bind (f_BB (IntKind.wrap IntKind.i64 (0 - d.2.2.1)) (-1073741824) 1073741824 false) fun (d_2 : Int × Bool) => some (d_2.1, d.2.2.2.2.2)
          else Option.bind (f_BB d.2.2.1 (-1073741824) 1073741824 false) fun (d_2 : Int × Bool) => some (d_2.1, d.2.2.2.2.2)) = some (if y < 0 then clampV (-(serV PB (sat (rnd (sat q * sat q) 30)) 6)) else clampV (serV PB (sat (rnd (sat q * sat q) 30)) 6), u) := by
  rw [ref_M, Option.bind_some]
  obtain ⟨u2, e2⟩ := ref_loopB y (sat (rnd (sat q * sat q) 30)) (hit || over q || over q || over (rnd (sat q * sat q) 30)) fun (d : Int × Int × Int × Int × Bool × Bool) =>
          bif decide (d.1 < 0) then Option.bind (f_BB (IntKind.wrap IntKind.i64 (0 - d.2.2.1)) (-1073741824) 1073741824 false) fun (d_2 : Int × Bool) => some (d_2.1, d.2.2.2.2.2)
          else Option.bind (f_BB d.2.2.1 (-1073741824) 1073741824 false) fun (d_2 : Int × Bool) => some (d_2.1, d.2.2.2.2.2)
  simp only
  rw [e2]
  simp only
  have b : -1152921504606846976 ≤ serV PB (sat (rnd (sat q * sat q) 30)) 6 ∧ serV PB (sat (rnd (sat q * sat q) 30)) 6 ≤ 1152921504606846976 := serV_bd PB (sat (rnd (sat q * sat q) 30)) 5
  refine ⟨u2, ?_⟩
  by_cases d : y < 0
  · rw [decide_eq_true d, cond_true, if_pos d, wrap_i64 (by omega) (by omega), Int.zero_sub]
    obtain ⟨u3, e3⟩ := ref_clampV (-(serV PB (sat (rnd (sat q * sat q) 30)) 6))
    rw [e3, Option.bind_some]
  · rw [decide_eq_false d, cond_false, if_neg d]
    obtain ⟨u3, e3⟩ := ref_clampV (serV PB (sat (rnd (sat q * sat q) 30)) 6)
    rw [e3, Option.bind_some]
theorem rtail_eq (y : Int) (hit : Bool) (h1 : -1686629713 ≤ y) (h2 : y ≤ 1686629713) : ∃ u, rtail y hit = some (sinV y, u) := by
  unfold rtail sinV
  by_cases c : y < 0
  · have g : mgq y = -y := by unfold mgq; rw [if_pos c]
    rw [decide_eq_true c, cond_true, wrap_i64 (n := 0 - y) (by omega) (by omega), Int.zero_sub, g, wrap_i64 (n := 1686629713 - -y) (by omega) (by omega)]
    by_cases d : -y ≤ 843314857
    · rw [decide_eq_false (show ¬ -y > 843314857 by omega), cond_false, if_pos d]
      exact rA y hit
    · rw [decide_eq_true (show -y > 843314857 by omega), cond_true, if_neg d]
      exact rB y (1686629713 - -y) hit
  · have g : mgq y = y := by unfold mgq; rw [if_neg c]
    rw [decide_eq_false c, cond_false, g, wrap_i64 (n := 1686629713 - y) (by omega) (by omega)]
    by_cases d : y ≤ 843314857
    · rw [decide_eq_false (show ¬ y > 843314857 by omega), cond_false, if_pos d]
      exact rA y hit
    · rw [decide_eq_true (show y > 843314857 by omega), cond_true, if_neg d]
      exact rB y (1686629713 - y) hit
theorem wrap_same (x : Int) : ∃ w, f_Ac x = some w ∧ f_BL x = some w ∧ -3373259426 < w ∧ w ≤ 3373259426 := by
  unfold f_Ac K_Ac f_BL K_BL
  have t1 : -6746518852 < Int.tmod x 6746518852 ∧ Int.tmod x 6746518852 < 6746518852 := by
    rcases Int.lt_or_le x 0 with c | c
    · have e : Int.tmod (-x) 6746518852 = -Int.tmod x 6746518852 := Int.neg_tmod ..
      have a1 := Int.tmod_lt_of_pos (-x) (show (0 : Int) < 6746518852 by omega)
      have a2 := Int.tmod_nonneg 6746518852 (show 0 ≤ -x by omega)
      omega
    · have a1 := Int.tmod_lt_of_pos x (show (0 : Int) < 6746518852 by omega)
      have a2 := Int.tmod_nonneg 6746518852 c
      omega
  generalize Int.tmod x 6746518852 = t at t1
  by_cases c : t > 3373259426
  · rw [decide_eq_true c, cond_true, cond_true, wrap_i64 (n := t - 6746518852) (by omega) (by omega), decide_eq_false (show ¬ t - 6746518852 ≤ -3373259426 by omega), cond_false]
    exact ⟨_, rfl, rfl, by omega, by omega⟩
  · rw [decide_eq_false c, cond_false, cond_false]
    by_cases d : t ≤ -3373259426
    · rw [decide_eq_true d, cond_true, wrap_i64 (n := t + 6746518852) (by omega) (by omega)]
      exact ⟨_, rfl, rfl, by omega, by omega⟩
    · rw [decide_eq_false d, cond_false]
      exact ⟨_, rfl, rfl, by omega, by omega⟩
theorem sin_same (x : Int) (hit hit' : Bool) : ∃ v u u', f_AZ x hit = some (v, u) ∧ f_BF x hit' = some (v, u') := by
  unfold f_AZ K_AZ f_BF K_BF
  obtain ⟨w, e1, e2, w1, w2⟩ := wrap_same (sat x)
  rw [acc_sat, Option.bind_some, ref_sat, Option.bind_some]
  simp only
  rw [e1, e2, Option.bind_some, Option.bind_some]
  by_cases c : w > 1686629713
  · rw [decide_eq_true c, cond_true, cond_true, wrap_i64 (n := 3373259426 - w) (by omega) (by omega)]
    obtain ⟨u, h⟩ := ptail_eq (3373259426 - w) (hit || over x) (by omega) (by omega)
    obtain ⟨u', h'⟩ := rtail_eq (3373259426 - w) (hit' || over x) (by omega) (by omega)
    exact ⟨_, u, u', h, h'⟩
  · rw [decide_eq_false c, cond_false, cond_false]
    by_cases d : w < -1686629713
    · rw [decide_eq_true d, cond_true, cond_true, wrap_i64 (n := -3373259426 - w) (by omega) (by omega)]
      obtain ⟨u, h⟩ := ptail_eq (-3373259426 - w) (hit || over x) (by omega) (by omega)
      obtain ⟨u', h'⟩ := rtail_eq (-3373259426 - w) (hit' || over x) (by omega) (by omega)
      exact ⟨_, u, u', h, h'⟩
    · rw [decide_eq_false d, cond_false, cond_false]
      obtain ⟨u, h⟩ := ptail_eq w (hit || over x) (by omega) (by omega)
      obtain ⟨u', h'⟩ := rtail_eq w (hit' || over x) (by omega) (by omega)
      exact ⟨_, u, u', h, h'⟩
theorem cos_same (x : Int) (hit hit' : Bool) : ∃ v u u', f_Ar x hit = some (v, u) ∧ f_BU x hit' = some (v, u') := by
  unfold f_Ar K_Ar f_BU K_BU
  obtain ⟨w, e1, e2, w1, w2⟩ := wrap_same x
  rw [e1, e2, Option.bind_some, Option.bind_some]
  obtain ⟨v, u, u', h, h'⟩ := sin_same (IntKind.wrap .i64 (1686629713 + w)) hit hit'
  exact ⟨v, u, u', by rw [h]; rfl, by rw [h']; rfl⟩
theorem scales_same (a b c : Int) (G : GoodP a b c) (A1 : -850000000 ≤ a) (A2 : a ≤ 850000000) :
    ∃ n e, f_AW a b c = some (Sum.inr (a, b, c, n, e)) ∧ f_BX a = some (n, e) ∧ 0 ≤ n ∧ n ≤ 13000000000 ∧ -13000000000 ≤ e ∧ e ≤ 13000000000 := by
  suffices H : ∃ n e, f_AW a b c = some (Sum.inr (a, b, c, n, e)) ∧ f_BX a = some (n, e) by
    obtain ⟨n, e, h1, h2⟩ := H
    rcases new_bd a b c _ h1 with h | ⟨_, n', e', h, b⟩
    · cases h
    · cases h; exact ⟨n, e, h1, h2, b⟩
  unfold f_AW K_AW f_BX K_BX
  rw [good_yes G, Option.bind_some, Bool.not_true, cond_false, decide_eq_false (by omega), cond_false, decide_eq_false (by omega), cond_false]
  obtain ⟨u0, h0⟩ := muldiv_eq a 3373259426 1800000000 false (by decide)
  rw [muldiv_same a 3373259426 1800000000 false (by decide), h0, Option.bind_some, Option.bind_some]
  simp only
  generalize sat (rdq (sat a * sat 3373259426) (sat 1800000000)) = g
  obtain ⟨s, us, us', hs, hs'⟩ := sin_same g u0 u0
  have bs : Unit1 s := sin_bd _ _ _ hs
  rw [hs, hs', Option.bind_some, Option.bind_some]
  obtain ⟨k, uk, uk', hk, hk'⟩ := cos_same g us us'
  have bk : Unit1 k := cos_bd _ _ _ hk
  simp only
  rw [hk, hk', Option.bind_some, Option.bind_some]
  unfold Unit1 at bs bk
  simp only
  obtain ⟨u1, h1⟩ := new1_eq s s uk
  have ss : sat s = s := satI (by omega)
  rw [h1, ref_M, Option.bind_some, Option.bind_some, ss]
  simp only
  have m1 := mulB s s 1073741824 1073741824 bs.1 bs.2 bs.1 bs.2
  have m1n : 0 ≤ s * s := by
    rcases Int.lt_or_le s 0 with z | z
    · have := Int.mul_nonneg (show 0 ≤ -s by omega) (show 0 ≤ -s by omega)
      rwa [Int.neg_mul_neg] at this
    · exact Int.mul_nonneg z z
  have b1 := rnd30_bd (s * s) 1073741824 m1.1 m1.2
  have b1n := rnd30_lo (s * s) 0 (by omega) (by omega)
  generalize rnd (s * s) 30 = p at b1 b1n
  rw [satI (x := p) (by omega)]
  obtain ⟨u2, h2⟩ := new1_eq 7188036 p u1
  rw [h2, ref_M, Option.bind_some, Option.bind_some, show sat 7188036 = 7188036 from rfl, satI (x := p) (by omega)]
  simp only
  have b2 := rnd30_bd (7188036 * p) 7188036 (by omega) (by omega)
  have b2n := rnd30_lo (7188036 * p) 0 (by omega) (by omega)
  generalize rnd (7188036 * p) 30 = t at b2 b2n
  rw [satI (x := t) (by omega), wrap_i64 (n := 1073741824 - t) (by omega) (by omega)]
  generalize hq : (1073741824 : Int) - t = q
  obtain ⟨w, u3, hw, h3⟩ := sqrt_eq q u2 (by omega) (by omega)
  have bw := isR_bd w q hw (by omega) (by omega)
  obtain ⟨u3', h3'⟩ := ref_sqrt q (uk' || over s || over s || over p || over 7188036 || over p || over t) (by omega) (by omega) w hw
  rw [h3, h3', Option.bind_some, Option.bind_some]
  simp only
  have sw : sat w = w := satI (by omega)
  obtain ⟨u4, h4⟩ := div30_eq 6531212288 (sat w) u3 (by rw [sw]; omega)
  rw [h4, ref_D _ _ _ (by rw [sw, sw]; omega), Option.bind_some, Option.bind_some]
  simp only
  obtain ⟨u5, h5⟩ := new1_eq 6531212288 1066553788 u4
  rw [h5, ref_M, Option.bind_some, Option.bind_some]
  simp only
  obtain ⟨u6, h6⟩ := new1_eq q (sat w) u5
  rw [h6, ref_M, Option.bind_some, Option.bind_some]
  simp only
  have m6 := mulB q w 1073741824 1073741824 (by omega) (by omega) (by omega) (by omega)
  have m6n : 1066553788 * 1066553788 ≤ q * w := by
    have x1 := Int.mul_nonneg (show 0 ≤ q - 1066553788 by omega) (show 0 ≤ w by omega)
    have x2 : (q - 1066553788) * w = q * w - 1066553788 * w := by grind
    omega
  have b6 := rnd30_bd (q * w) 1073741824 m6.1 m6.2
  have b6n := rnd30_lo (q * w) 1059000000 (by omega) (by omega)
  rw [sw, sw, satI (x := q) (by omega)]
  generalize rnd (q * w) 30 = z at b6 b6n
  have sz : sat z = z := satI (by omega)
  rw [sz]
  obtain ⟨u7, h7⟩ := div30_eq (sat (rnd (sat 6531212288 * sat 1066553788) 30)) z u6 (by rw [sz]; omega)
  rw [h7, ref_D _ _ _ (by rw [sz]; omega), Option.bind_some, Option.bind_some]
  simp only
  obtain ⟨u8, h8⟩ := muldiv_eq (sat (rdq (sat (sat (rnd (sat 6531212288 * sat 1066553788) 30)) * 1073741824) (sat z))) 3373259426 1800000000 u7 (by decide)
  rw [h8, ref_muldiv _ 3373259426 1800000000 _ (by decide), Option.bind_some, Option.bind_some]
  simp only
  obtain ⟨u9, h9⟩ := new1_eq (sat (rdq (sat 6531212288 * 1073741824) w)) k u8
  rw [h9, ref_M, Option.bind_some, Option.bind_some]
  simp only
  obtain ⟨u10, h10⟩ := muldiv_eq (sat (rnd (sat (sat (rdq (sat 6531212288 * 1073741824) w)) * sat k) 30)) 3373259426 1800000000 u9 (by decide)
  rw [h10, ref_muldiv _ 3373259426 1800000000 _ (by decide), Option.bind_some, Option.bind_some]
  exact ⟨_, _, rfl, rfl⟩
end Go.Proofs.Ytdpenjncfmkbgaa
set_option maxRecDepth 100000
set_option maxHeartbeats 4000000
set_option linter.unusedVariables false
set_option linter.unusedSimpArgs false
namespace Go.Proofs.Ytdpenjncfmkbgaa
open Go.Ab
def subV (a b : Int) : Int := sat (sat a - sat b)
def subF (a b : Int) (hit : Bool) : Bool := ((hit || over a) || over b) || over (sat a - sat b)
theorem fx_sub (a b : Int) (hit : Bool) : f_Az a b hit = some (subV a b, subF a b hit) := by
  unfold f_Az K_Az
  have sa := sat_le a
  have sb := sat_le b
  simp only [acc_sat, Option.bind_some]
  rw [wrap_i64 (n := sat a - sat b) (by omega) (by omega)]
  rfl
def pk (i : Nat) : Nat → Int := fun (j : Nat) => bif Nat.beq j i then 1073741824 else 0
theorem pick4 : f_AA 1 (fun (j : Nat) => bif Nat.beq j 0 then 4 else 4) true = some (pk 4) := by kernel_rfl
theorem straight4 (s : Nat → Int) (v r g : Int) (hit : Bool) : f_AJ s 4 v r g hit = some (pk 4, subV v (s 4), r, g, subF v (s 4) hit) := by
  unfold f_AJ K_AJ
  rw [pick4, Option.bind_some, show inR 4 24 = true from rfl, cond_true, show Int.toNat 4 = 4 from rfl, fx_sub, Option.bind_some]
theorem pick5 : f_AA 1 (fun (j : Nat) => bif Nat.beq j 0 then 5 else 5) true = some (pk 5) := by kernel_rfl
theorem straight5 (s : Nat → Int) (v r g : Int) (hit : Bool) : f_AJ s 5 v r g hit = some (pk 5, subV v (s 5), r, g, subF v (s 5) hit) := by
  unfold f_AJ K_AJ
  rw [pick5, Option.bind_some, show inR 5 24 = true from rfl, cond_true, show Int.toNat 5 = 5 from rfl, fx_sub, Option.bind_some]
theorem pick6 : f_AA 1 (fun (j : Nat) => bif Nat.beq j 0 then 6 else 6) true = some (pk 6) := by kernel_rfl
theorem straight6 (s : Nat → Int) (v r g : Int) (hit : Bool) : f_AJ s 6 v r g hit = some (pk 6, subV v (s 6), r, g, subF v (s 6) hit) := by
  unfold f_AJ K_AJ
  rw [pick6, Option.bind_some, show inR 6 24 = true from rfl, cond_true, show Int.toNat 6 = 6 from rfl, fx_sub, Option.bind_some]
theorem pick7 : f_AA 1 (fun (j : Nat) => bif Nat.beq j 0 then 7 else 7) true = some (pk 7) := by kernel_rfl
theorem straight7 (s : Nat → Int) (v r g : Int) (hit : Bool) : f_AJ s 7 v r g hit = some (pk 7, subV v (s 7), r, g, subF v (s 7) hit) := by
  unfold f_AJ K_AJ
  rw [pick7, Option.bind_some, show inR 7 24 = true from rfl, cond_true, show Int.toNat 7 = 7 from rfl, fx_sub, Option.bind_some]
theorem pick8 : f_AA 1 (fun (j : Nat) => bif Nat.beq j 0 then 8 else 8) true = some (pk 8) := by kernel_rfl
theorem straight8 (s : Nat → Int) (v r g : Int) (hit : Bool) : f_AJ s 8 v r g hit = some (pk 8, subV v (s 8), r, g, subF v (s 8) hit) := by
  unfold f_AJ K_AJ
  rw [pick8, Option.bind_some, show inR 8 24 = true from rfl, cond_true, show Int.toNat 8 = 8 from rfl, fx_sub, Option.bind_some]
theorem pick9 : f_AA 1 (fun (j : Nat) => bif Nat.beq j 0 then 9 else 9) true = some (pk 9) := by kernel_rfl
theorem straight9 (s : Nat → Int) (v r g : Int) (hit : Bool) : f_AJ s 9 v r g hit = some (pk 9, subV v (s 9), r, g, subF v (s 9) hit) := by
  unfold f_AJ K_AJ
  rw [pick9, Option.bind_some, show inR 9 24 = true from rfl, cond_true, show Int.toNat 9 = 9 from rfl, fx_sub, Option.bind_some]
theorem vel_eq (s : Nat → Int) (a b c v0 v1 v2 p r g : Int) (hit : Bool) : f_Al s a b c v0 v1 v2 p r g hit =
    some (subF v2 (s 6) (subF v1 (s 5) (subF v0 (s 4) hit)), pk 4, subV v0 (s 4), r, g, pk 5, subV v1 (s 5), r, g, pk 6, subV v2 (s 6), r, g) := by
  unfold f_Al K_Al
  simp only [straight4, straight5, straight6, Option.bind_some]
theorem hor_eq (s : Nat → Int) (a b c v0 v1 v2 p r g : Int) (hit : Bool) (f0 f1 f2 f3 f4 x y z : Int) (h : f_AQ a b c f0 f1 f2 f3 f4 hit = some (x, y, z, 0, hit)) :
    f_Am s a b c v0 v1 v2 p r g hit f0 f1 f2 f3 f4 = some (Sum.inr (subF y (s 8) (subF x (s 7) hit), pk 7, subV x (s 7), p, g, pk 8, subV y (s 8), p, g)) := by
  unfold f_Am K_Am
  rw [h, Option.bind_some]
  simp only [show ((0 : Int) != 0) = false from rfl, cond_false, straight7, straight8, Option.bind_some]
def four (p : Int) : Int := if 4 * sat p < 1 then 1 else if 72057594037927936 < 4 * sat p then 72057594037927936 else 4 * sat p
theorem fx_clampD (a : Int) (hit : Bool) : ∃ u, f_AP a 1 72057594037927936 hit = some (if a < 1 then 1 else if 72057594037927936 < a then 72057594037927936 else a, u) := by
  unfold f_AP K_AP
  rw [show decide ((1 : Int) > 72057594037927936) = false from rfl, cond_false]
  by_cases h1 : a < 1
  · rw [decide_eq_true h1, cond_true, if_pos h1]; exact ⟨_, rfl⟩
  · rw [decide_eq_false h1, cond_false, if_neg h1]
    by_cases h2 : a > 72057594037927936
    · rw [decide_eq_true h2, cond_true, if_pos h2]; exact ⟨_, rfl⟩
    · rw [decide_eq_false h2, cond_false, if_neg h2]; exact ⟨_, rfl⟩
theorem height_eq (s : Nat → Int) (a b c v0 v1 v2 p r g : Int) (hit : Bool) (f0 f1 f2 f3 f4 x y z : Int) (h : f_AQ a b c f0 f1 f2 f3 f4 hit = some (x, y, z, 0, hit)) :
    f_Ad s a b c v0 v1 v2 p r g hit f0 f1 f2 f3 f4 = some (pk 9, subV z (s 9), four p, g, 0, subF z (s 9) hit) := by
  unfold f_Ad K_Ad
  rw [h, Option.bind_some]
  simp only [show ((0 : Int) != 0) = false from rfl, cond_false]
  rw [acc_add 4 (by omega), Option.bind_some]
  have e : sumF (fun j => sat (bif Nat.beq j 3 then p else bif Nat.beq j 2 then p else bif Nat.beq j 1 then p else bif Nat.beq j 0 then p else p)) 4 = 4 * sat p := by
    have : (fun (j : Nat) => sat (bif Nat.beq j 3 then p else bif Nat.beq j 2 then p else bif Nat.beq j 1 then p else bif Nat.beq j 0 then p else p)) = fun _ => sat p := by
      funext j
      cases Nat.beq j 3 <;> cases Nat.beq j 2 <;> cases Nat.beq j 1 <;> cases Nat.beq j 0 <;> rfl
    rw [this]
    simp only [sumF]; omega
  simp only [e]
  obtain ⟨u, hu⟩ := fx_clampD (sat (4 * sat p)) ((false || anyF (fun j => over (bif Nat.beq j 3 then p else bif Nat.beq j 2 then p else bif Nat.beq j 1 then p else bif Nat.beq j 0 then p else p)) 4) || over (4 * sat p))
  rw [hu, Option.bind_some]
  simp only [straight9, Option.bind_some]
  have k : (if sat (4 * sat p) < 1 then (1 : Int) else if 72057594037927936 < sat (4 * sat p) then 72057594037927936 else sat (4 * sat p)) = four p := by
    unfold four
    have sp := sat_le p
    generalize sat p = q at sp
    unfold sat
    by_cases c1 : 4 * q < -1152921504606846976
    · rw [if_pos c1, if_pos (by omega), if_pos (by omega)]
    · rw [if_neg c1]
      by_cases c2 : 1152921504606846976 < 4 * q
      · rw [if_pos c2, if_neg (by omega), if_pos (by omega), if_neg (by omega), if_pos (by omega)]
      · rw [if_neg c2]
  rw [k]
theorem new_bad (a b c : Int) (h : f_AN a b c = some false ∨ (f_AN a b c = some true ∧ (a > 850000000 ∨ a < -850000000))) : f_AW a b c = some (Sum.inl ()) := by
  unfold f_AW K_AW
  rcases h with h | ⟨h, l⟩
  · rw [h]; rfl
  · rw [h, Option.bind_some, Bool.not_true, cond_false]
    by_cases c : a > 850000000
    · rw [decide_eq_true c, cond_true]
    · rw [decide_eq_false c, cond_false, decide_eq_true (by omega), cond_true]
theorem new_cases (a b c : Int) : f_AW a b c = some (Sum.inl ()) ∨ (GoodP a b c ∧ ∃ n e, f_AW a b c = some (Sum.inr (a, b, c, n, e)) ∧ f_BX a = some (n, e) ∧ 0 ≤ n ∧ n ≤ 13000000000 ∧ -13000000000 ≤ e ∧ e ≤ 13000000000) := by
  obtain ⟨g, hg⟩ := t_good a b c
  cases g with
  | false => exact Or.inl (new_bad a b c (Or.inl hg))
  | true =>
    by_cases l : -850000000 ≤ a ∧ a ≤ 850000000
    · obtain ⟨n, e, h1, h2, b⟩ := scales_same a b c (good_p hg) l.1 l.2
      exact Or.inr ⟨good_p hg, n, e, h1, h2, b⟩
    · exact Or.inl (new_bad a b c (Or.inr ⟨hg, by omega⟩))
theorem gnss_aw : f_BC = some true := by kernel_rfl
end Go.Proofs.Ytdpenjncfmkbgaa
set_option maxRecDepth 100000
set_option maxHeartbeats 4000000
set_option linter.unusedVariables false
set_option linter.unusedSimpArgs false
namespace Go.Proofs.Ytdpenjncfmkbgaa
open Go.Ab
def wi (x lo hi : Int) : Bool := decide (x ≥ lo) && decide (x ≤ hi)
theorem wif (x lo hi : Int) (r : Option Bool) : (bif decide (x < lo) then some false else bif decide (x > hi) then some false else r) = bif wi x lo hi then r else some false := by
  unfold wi
  by_cases h1 : x < lo
  · rw [decide_eq_true h1, cond_true, decide_eq_false (show ¬ x ≥ lo by omega)]; rfl
  · rw [decide_eq_false h1, cond_false, decide_eq_true (show x ≥ lo by omega)]
    by_cases h2 : x > hi
    · rw [decide_eq_true h2, cond_true, decide_eq_false (show ¬ x ≤ hi by omega)]; rfl
    · rw [decide_eq_false h2, cond_false, decide_eq_true (show x ≤ hi by omega)]; rfl
section
variable (t v0 v1 v2 v3 v4 v5 v6 v7 : Int)
def gB (g : Bool) (v3 v4 v5 v6 v7 : Int) : Bool := wi v3 (-1000000) 1000000 && (wi v4 (-1000000) 1000000 && (wi v5 (-1000000) 1000000 && (wi v6 1 1000000 && (wi v7 1 1000000 && g))))
theorem gnssGood_eq (g : Bool) (hg : f_AN v0 v1 v2 = some g) : f_AO t v0 v1 v2 v3 v4 v5 v6 v7 = some (gB g v3 v4 v5 v6 v7) := by
  unfold f_AO K_AO f_AR K_AR gB
  rw [Option.bind_some, hg, Option.bind_some, wif, wif, wif, wif, wif]
  cases wi v3 (-1000000) 1000000 <;> cases wi v4 (-1000000) 1000000 <;> cases wi v5 (-1000000) 1000000 <;> cases wi v6 1 1000000 <;> cases wi v7 1 1000000 <;> rfl
theorem read_loop (h : Bool) (p q r a b : Int) (k : _ → Option (Int × Int × Int × Int × Int × Int × Int × Int × Int × Bool)) : L_AB_0 (0, h, t, v0, v1, v2, v3, v4, v5, v6, v7, p, q, r, 0, 0, 0, a, b) k =
    Option.bind (f_S v3 1073741824 1000 h) fun (d : Int × Bool) => Option.bind (f_S v4 1073741824 1000 d.2) fun (d1 : Int × Bool) => Option.bind (f_S v5 1073741824 1000 d1.2) fun (d2 : Int × Bool) =>
    k (3, decide ((3 : Int) < 3), d2.2, t, v0, v1, v2, v3, v4, v5, v6, v7, p, q, r, d.1, d1.1, d2.1, a, b) := by kernel_rfl
end
theorem qdq_le (V D : Int) (hV : 0 ≤ V) (hD : 1 ≤ D) : 0 ≤ qdq V D ∧ qdq V D ≤ V + 1 := by
  unfold qdq
  have h1 := Int.ediv_nonneg hV (show (0 : Int) ≤ D by omega)
  have h2 := Int.ediv_le_self D hV
  split <;> omega
theorem rdq_le (V D B : Int) (hD : 1 ≤ D) (h1 : -B ≤ V) (h2 : V ≤ B) : -(B + 1) ≤ rdq V D ∧ rdq V D ≤ B + 1 := by
  unfold rdq
  have hm : mgq D = D := by unfold mgq; rw [if_neg (by omega)]
  have hv := qdq_le (mgq V) D (mgq_nn V) hD
  have hb : mgq V ≤ B := by unfold mgq; split <;> omega
  rw [hm]
  split <;> omega
theorem subV_self (x : Int) : subV x x = 0 := by unfold subV; rw [Int.sub_self]; rfl
theorem subF_self (x : Int) (hit : Bool) (h : over x = false) : subF x x hit = hit := by
  unfold subF; rw [h, Int.sub_self, show over 0 = false from rfl]; simp
theorem thouB (v : Int) (h1 : -1000000 ≤ v) (h2 : v ≤ 1000000) : ∃ m, over m = false ∧ ∀ hit, f_S v 1073741824 1000 hit = some (m, hit) := by
  have s1 := sat_id (x := v) (by omega)
  have s2 := sat_id (x := 1073741824) (by omega)
  have s3 := sat_id (x := 1000) (by omega)
  have hb := rdq_le (v * 1073741824) 1000 1073741824000000 (by omega) (by omega) (by omega)
  have s4 := sat_id (x := rdq (v * 1073741824) 1000) (by omega)
  refine ⟨rdq (v * 1073741824) 1000, s4.2, fun hit => ?_⟩
  rw [acc_muldiv v 1073741824 1000 hit (by rw [s3.1]; decide), s1.1, s2.1, s3.1, s1.2, s2.2, s3.2, s4.1, s4.2]
  simp
theorem var_tot (a : Int) : ∃ p, f_AY a = some p := by
  unfold f_AY K_AY
  rw [acc_muldiv _ _ 1000000 false (by decide), Option.bind_some]
  simp only
  obtain ⟨u, hu⟩ := fx_clampD (sat (rdq (sat (IntKind.wrap .i64 (a * a)) * sat 17592186044416) (sat 1000000))) ((((false || over (IntKind.wrap .i64 (a * a))) || over 17592186044416) || over 1000000) || over (rdq (sat (IntKind.wrap .i64 (a * a)) * sat 17592186044416) (sat 1000000)))
  rw [hu, Option.bind_some]
  exact ⟨_, rfl⟩
theorem var_val (a : Int) (h1 : 1 ≤ a) (h2 : a ≤ 60000) : f_AY a = some (qdq (a * a * 17592186044416) 1000000) ∧ 1 ≤ a * a ∧ a * a ≤ 3600000000 := by
  have m := mulB a a 60000 60000 (by omega) h2 (by omega) h2
  have m1 : 1 ≤ a * a := by
    have := Int.mul_nonneg (show 0 ≤ a - 1 by omega) (show 0 ≤ a by omega)
    have e : (a - 1) * a = a * a - a := by grind
    omega
  refine ⟨?_, m1, m.2⟩
  unfold f_AY K_AY
  rw [acc_muldiv _ _ 1000000 false (by decide), Option.bind_some]
  simp only
  rw [wrap_i64 (n := a * a) (by omega) (by omega), satI (x := a * a) (by omega), show sat 17592186044416 = 17592186044416 from rfl, show sat 1000000 = 1000000 from rfl]
  generalize a * a = A at m m1
  have e : rdq (A * 17592186044416) 1000000 = qdq (A * 17592186044416) 1000000 := by
    unfold rdq mgq
    rw [decide_eq_false (show ¬ A * 17592186044416 < 0 by omega), show decide ((1000000 : Int) < 0) = false from rfl, if_pos rfl, if_neg (by omega), if_neg (by omega)]
  have b : 1 ≤ qdq (A * 17592186044416) 1000000 ∧ qdq (A * 17592186044416) 1000000 ≤ 72057594037927936 := by
    unfold qdq
    split <;> omega
  rw [e, satI (x := qdq _ _) (by omega)]
  obtain ⟨u, hu⟩ := fx_clampD (qdq (A * 17592186044416) 1000000) ((((false || over A) || over 17592186044416) || over 1000000) || over (qdq (A * 17592186044416) 1000000))
  rw [hu, Option.bind_some]
  simp only [if_neg (show ¬ qdq (A * 17592186044416) 1000000 < 1 by omega), if_neg (show ¬ 72057594037927936 < qdq (A * 17592186044416) 1000000 by omega)]
theorem read_eq (t v0 v1 v2 v3 v4 v5 v6 v7 : Int) (hit : Bool) (e1 : f_AO t v0 v1 v2 v3 v4 v5 v6 v7 = some true) (m3 m4 m5 p6 p7 : Int)
    (h3 : ∀ hit, f_S v3 1073741824 1000 hit = some (m3, hit)) (h4 : ∀ hit, f_S v4 1073741824 1000 hit = some (m4, hit)) (h5 : ∀ hit, f_S v5 1073741824 1000 hit = some (m5, hit))
    (h6 : f_AY v6 = some p6) (h7 : f_AY v7 = some p7) : f_AB t v0 v1 v2 v3 v4 v5 v6 v7 hit = some (v0, v1, v2, m3, m4, m5, p6, p7, 0, hit) := by
  unfold f_AB K_AB
  rw [e1, Option.bind_some, Bool.not_true, cond_false]
  unfold f_AR K_AR
  rw [Option.bind_some, h6, Option.bind_some, h7, Option.bind_some, read_loop]
  simp only [h3, h4, h5, Option.bind_some]
theorem read_bad (t v0 v1 v2 v3 v4 v5 v6 v7 : Int) (hit : Bool) (e1 : f_AO t v0 v1 v2 v3 v4 v5 v6 v7 = some false) : f_AB t v0 v1 v2 v3 v4 v5 v6 v7 hit = some (0, 0, 0, 0, 0, 0, 0, 0, 1, hit) := by
  unfold f_AB K_AB
  rw [e1]; rfl
theorem gnssExpected_plain (x0 x1 x2 x3 x4 x5 x6 x7 x8 x9 x10 x11 x12 : Int) : f_BD x0 x1 x2 x3 x4 x5 x6 x7 x8 x9 x10 x11 x12 = some true := by
  unfold f_BD K_BD
  rw [gnss_aw, Option.bind_some, Bool.not_true, cond_false]
  obtain ⟨g, hg⟩ := t_good x1 x2 x3
  have e1 := gnssGood_eq x0 x1 x2 x3 x4 x5 x6 x7 x8 g hg
  have hn := new_cases x9 x10 x11
  cases hB : gB g x4 x5 x6 x7 x8 with
  | false =>
    rw [hB] at e1
    rw [read_bad x0 x1 x2 x3 x4 x5 x6 x7 x8 false e1, Option.bind_some]
    rcases hn with h | ⟨F, n, e, h, _⟩ <;> rw [h] <;> rfl
  | true =>
    rw [hB] at e1
    unfold gB at hB
    simp only [Bool.and_eq_true] at hB
    obtain ⟨b3, b4, b5, b6, b7, bg⟩ := hB
    subst bg
    unfold wi at b3 b4 b5 b6 b7
    simp only [Bool.and_eq_true, decide_eq_true_eq] at b3 b4 b5 b6 b7
    obtain ⟨m3, o3, h3⟩ := thouB x4 (by omega) (by omega)
    obtain ⟨m4, o4, h4⟩ := thouB x5 (by omega) (by omega)
    obtain ⟨m5, o5, h5⟩ := thouB x6 (by omega) (by omega)
    obtain ⟨p6, h6⟩ := var_tot x7
    obtain ⟨p7, h7⟩ := var_tot x8
    rw [read_eq x0 x1 x2 x3 x4 x5 x6 x7 x8 false e1 m3 m4 m5 p6 p7 h3 h4 h5 h6 h7, Option.bind_some]
    rcases hn with h | ⟨F, n, e, h, hs, n1, n2, m1, m2⟩
    · rw [h]; rfl
    rw [h]
    simp only [Option.bind_some, cond_false, show ((0 : Int) != 0) = false from rfl]
    by_cases c1 : x7 > 30000
    · rw [decide_eq_true c1, cond_true]
    rw [decide_eq_false c1, cond_false]
    by_cases c2 : x8 > 100000
    · rw [decide_eq_true c2, cond_true]
    rw [decide_eq_false c2, cond_false]
    have G := good_p hg
    have t := fun hit => to_full x1 x2 x3 x9 x10 x11 n e hit G F (by omega) n2 m1 m2
    obtain ⟨g1, g2, g3, g4, g5, g6⟩ := id G
    obtain ⟨k1, k2, k3, k4, k5, k6⟩ := id F
    have rb := redL_bd (x2 - x10) (by omega) (by omega)
    have op : over (rnd ((x1 - x9) * n) 10) = false := by
      have p := mulB (x1 - x9) n 1800000000 13000000000 (by omega) (by omega) (by omega) (by omega)
      have r := rnd10_bd ((x1 - x9) * n) 1000000000000000000 (by omega) (by omega)
      exact overI (by omega)
    have oq : over (rnd (redL (x2 - x10) * e) 10) = false := by
      have p := mulB (redL (x2 - x10)) e 1800000000 13000000000 rb.1 rb.2 (by omega) (by omega)
      have r := rnd10_bd (redL (x2 - x10) * e) 1000000000000000000 (by omega) (by omega)
      exact overI (by omega)
    have oz : over (rdq ((x11 - x3) * 1073741824) 1000) = false := by
      have r := rdq_bd ((x11 - x3) * 1073741824) 1000 1000000000000000000 (by omega) (by omega) (by omega)
      exact overI (by omega)
    generalize rnd ((x1 - x9) * n) 10 = p at t op
    generalize rnd (redL (x2 - x10) * e) 10 = q at t oq
    generalize rdq ((x11 - x3) * 1073741824) 1000 = z at t oz
    rw [t, Option.bind_some]
    simp only
    rw [vel_eq, Option.bind_some]
    simp only [show Nat.beq 4 9 = false from rfl, show Nat.beq 4 6 = false from rfl, show Nat.beq 4 8 = false from rfl, show Nat.beq 4 5 = false from rfl, show Nat.beq 4 7 = false from rfl, show Nat.beq 4 4 = true from rfl, show Nat.beq 5 9 = false from rfl, show Nat.beq 5 6 = false from rfl, show Nat.beq 5 8 = false from rfl, show Nat.beq 5 5 = true from rfl, show Nat.beq 5 7 = false from rfl, show Nat.beq 5 4 = false from rfl, show Nat.beq 6 9 = false from rfl, show Nat.beq 6 6 = true from rfl, show Nat.beq 6 8 = false from rfl, show Nat.beq 6 5 = false from rfl, show Nat.beq 6 7 = false from rfl, show Nat.beq 6 4 = false from rfl, show Nat.beq 7 9 = false from rfl, show Nat.beq 7 6 = false from rfl, show Nat.beq 7 8 = false from rfl, show Nat.beq 7 5 = false from rfl, show Nat.beq 7 7 = true from rfl, show Nat.beq 7 4 = false from rfl, show Nat.beq 8 9 = false from rfl, show Nat.beq 8 6 = false from rfl, show Nat.beq 8 8 = true from rfl, show Nat.beq 8 5 = false from rfl, show Nat.beq 8 7 = false from rfl, show Nat.beq 8 4 = false from rfl, show Nat.beq 9 9 = true from rfl, show Nat.beq 9 6 = false from rfl, show Nat.beq 9 8 = false from rfl, show Nat.beq 9 5 = false from rfl, show Nat.beq 9 7 = false from rfl, show Nat.beq 9 4 = false from rfl, cond_true, cond_false, subV_self, subF_self _ _ o3, subF_self _ _ o4, subF_self _ _ o5]
    rw [hor_eq _ x1 x2 x3 m3 m4 m5 p6 p7 x12 false x9 x10 x11 n e p q z (t false), Option.bind_some]
    simp only [show Nat.beq 4 9 = false from rfl, show Nat.beq 4 6 = false from rfl, show Nat.beq 4 8 = false from rfl, show Nat.beq 4 5 = false from rfl, show Nat.beq 4 7 = false from rfl, show Nat.beq 4 4 = true from rfl, show Nat.beq 5 9 = false from rfl, show Nat.beq 5 6 = false from rfl, show Nat.beq 5 8 = false from rfl, show Nat.beq 5 5 = true from rfl, show Nat.beq 5 7 = false from rfl, show Nat.beq 5 4 = false from rfl, show Nat.beq 6 9 = false from rfl, show Nat.beq 6 6 = true from rfl, show Nat.beq 6 8 = false from rfl, show Nat.beq 6 5 = false from rfl, show Nat.beq 6 7 = false from rfl, show Nat.beq 6 4 = false from rfl, show Nat.beq 7 9 = false from rfl, show Nat.beq 7 6 = false from rfl, show Nat.beq 7 8 = false from rfl, show Nat.beq 7 5 = false from rfl, show Nat.beq 7 7 = true from rfl, show Nat.beq 7 4 = false from rfl, show Nat.beq 8 9 = false from rfl, show Nat.beq 8 6 = false from rfl, show Nat.beq 8 8 = true from rfl, show Nat.beq 8 5 = false from rfl, show Nat.beq 8 7 = false from rfl, show Nat.beq 8 4 = false from rfl, show Nat.beq 9 9 = true from rfl, show Nat.beq 9 6 = false from rfl, show Nat.beq 9 8 = false from rfl, show Nat.beq 9 5 = false from rfl, show Nat.beq 9 7 = false from rfl, show Nat.beq 9 4 = false from rfl, cond_true, cond_false, subV_self, subF_self _ _ op, subF_self _ _ oq, Option.bind_some]
    rw [height_eq _ x1 x2 x3 m3 m4 m5 p6 p7 x12 false x9 x10 x11 n e p q z (t false), Option.bind_some]
    simp only [show Nat.beq 4 9 = false from rfl, show Nat.beq 4 6 = false from rfl, show Nat.beq 4 8 = false from rfl, show Nat.beq 4 5 = false from rfl, show Nat.beq 4 7 = false from rfl, show Nat.beq 4 4 = true from rfl, show Nat.beq 5 9 = false from rfl, show Nat.beq 5 6 = false from rfl, show Nat.beq 5 8 = false from rfl, show Nat.beq 5 5 = true from rfl, show Nat.beq 5 7 = false from rfl, show Nat.beq 5 4 = false from rfl, show Nat.beq 6 9 = false from rfl, show Nat.beq 6 6 = true from rfl, show Nat.beq 6 8 = false from rfl, show Nat.beq 6 5 = false from rfl, show Nat.beq 6 7 = false from rfl, show Nat.beq 6 4 = false from rfl, show Nat.beq 7 9 = false from rfl, show Nat.beq 7 6 = false from rfl, show Nat.beq 7 8 = false from rfl, show Nat.beq 7 5 = false from rfl, show Nat.beq 7 7 = true from rfl, show Nat.beq 7 4 = false from rfl, show Nat.beq 8 9 = false from rfl, show Nat.beq 8 6 = false from rfl, show Nat.beq 8 8 = true from rfl, show Nat.beq 8 5 = false from rfl, show Nat.beq 8 7 = false from rfl, show Nat.beq 8 4 = false from rfl, show Nat.beq 9 9 = true from rfl, show Nat.beq 9 6 = false from rfl, show Nat.beq 9 8 = false from rfl, show Nat.beq 9 5 = false from rfl, show Nat.beq 9 7 = false from rfl, show Nat.beq 9 4 = false from rfl, cond_true, cond_false, subV_self, subF_self _ _ oz, Option.bind_some, show ((0 : Int) != 0) = false from rfl]
    have e2 := gnssGood_eq x0 x1 x2 x3 x4 x5 x6 (2 * x7) x8 true hg
    have hB2 : gB true x4 x5 x6 (2 * x7) x8 = true := by
      unfold gB wi
      simp only [Bool.and_eq_true, decide_eq_true_eq]
      exact ⟨b3, b4, b5, ⟨by omega, by omega⟩, b7, by first | rfl | trivial⟩
    rw [hB2] at e2
    obtain ⟨w1, a1, a2⟩ := var_val x7 (by omega) (by omega)
    obtain ⟨w2, _, _⟩ := var_val (2 * x7) (by omega) (by omega)
    have hp : p6 = qdq (x7 * x7 * 17592186044416) 1000000 := Option.some.inj (h6.symm.trans w1)
    have h4a : 2 * x7 * (2 * x7) = 4 * (x7 * x7) := by grind
    rw [h4a] at w2
    rw [wrap_i64 (n := 2 * x7) (by omega) (by omega), read_eq x0 x1 x2 x3 x4 x5 x6 (2 * x7) x8 false e2 m3 m4 m5 _ p7 h3 h4 h5 w2 h7, Option.bind_some]
    simp only [hp]
    generalize x7 * x7 = A at a1 a2
    have d1 : qdq (4 * A * 17592186044416) 1000000 - 4 * qdq (A * 17592186044416) 1000000 ≤ 4 ∧ -4 ≤ qdq (4 * A * 17592186044416) 1000000 - 4 * qdq (A * 17592186044416) 1000000 ∧ 0 ≤ qdq (A * 17592186044416) 1000000 ∧ qdq (A * 17592186044416) 1000000 ≤ 100000000000000000 ∧ qdq (4 * A * 17592186044416) 1000000 ≤ 1000000000000000000 ∧ 0 ≤ qdq (4 * A * 17592186044416) 1000000 := by
      unfold qdq
      split <;> split <;> omega
    rw [wrap_i64 (n := 4 * qdq (A * 17592186044416) 1000000) (by omega) (by omega), wrap_i64 (by omega) (by omega), decide_eq_true d1.1, decide_eq_true (show qdq (4 * A * 17592186044416) 1000000 - 4 * qdq (A * 17592186044416) 1000000 ≥ -4 from d1.2.1)]
    simp only [cond_true, beq_self_eq_true, Bool.not_false]
theorem gnssExpected_ev (f : (Int) → (Int) → (Int) → (Int) → (Int) → (Int) → (Int) → (Int) → (Int) → (Int) → (Int) → (Int) → (Int) → Option Bool) (x0_0 : Int) (x0_1 : Int) (x0_2 : Int) (x0_3 : Int) (x0_4 : Int) (x0_5 : Int) (x0_6 : Int) (x0_7 : Int) (x0_8 : Int) (x1_0 : Int) (x1_1 : Int) (x1_2 : Int) (x2_0 : Int) : F_BD f [.r (.agg [.c (.f (.i .i64 x0_0)), .c (.f (.i .i64 x0_1)), .c (.f (.i .i64 x0_2)), .c (.f (.i .i64 x0_3)), .c (.f (.i .i64 x0_4)), .c (.f (.i .i64 x0_5)), .c (.f (.i .i64 x0_6)), .c (.f (.i .i64 x0_7)), .c (.f (.i .i64 x0_8))]), .r (.agg [.c (.f (.i .i64 x1_0)), .c (.f (.i .i64 x1_1)), .c (.f (.i .i64 x1_2))]), .r (.c (.f (.i .i64 x2_0)))] [] = .opt (f x0_0 x0_1 x0_2 x0_3 x0_4 x0_5 x0_6 x0_7 x0_8 x1_0 x1_1 x1_2 x2_0) fun d => .leaf ⟨.r (.c (.f (.b d))), [], []⟩ := by kernel_rfl
theorem gnssExpected_trues : Trues (F_BD f_BD) [.flat true [.c (.i .i64), .c (.i .i64), .c (.i .i64), .c (.i .i64), .c (.i .i64), .c (.i .i64), .c (.i .i64), .c (.i .i64), .c (.i .i64)], .flat true [.c (.i .i64), .c (.i .i64), .c (.i .i64)], .flat false [.c (.i .i64)]] := fun ds h => by
  obtain ⟨_, _, rfl, q0_0, g0⟩ := fit_flat h
  obtain ⟨x0_0, _, rfl, r0_0, q0_1⟩ := f1_i q0_0
  obtain ⟨x0_1, _, rfl, r0_1, q0_2⟩ := f1_i q0_1
  obtain ⟨x0_2, _, rfl, r0_2, q0_3⟩ := f1_i q0_2
  obtain ⟨x0_3, _, rfl, r0_3, q0_4⟩ := f1_i q0_3
  obtain ⟨x0_4, _, rfl, r0_4, q0_5⟩ := f1_i q0_4
  obtain ⟨x0_5, _, rfl, r0_5, q0_6⟩ := f1_i q0_5
  obtain ⟨x0_6, _, rfl, r0_6, q0_7⟩ := f1_i q0_6
  obtain ⟨x0_7, _, rfl, r0_7, q0_8⟩ := f1_i q0_7
  obtain ⟨x0_8, _, rfl, r0_8, q0_9⟩ := f1_i q0_8
  obtain rfl := f1_nil q0_9
  obtain ⟨_, _, rfl, q1_0, g1⟩ := fit_flat g0
  obtain ⟨x1_0, _, rfl, r1_0, q1_1⟩ := f1_i q1_0
  obtain ⟨x1_1, _, rfl, r1_1, q1_2⟩ := f1_i q1_1
  obtain ⟨x1_2, _, rfl, r1_2, q1_3⟩ := f1_i q1_2
  obtain rfl := f1_nil q1_3
  obtain ⟨_, _, rfl, q2_0, g2⟩ := fit_flat g1
  obtain ⟨x2_0, _, rfl, r2_0, q2_1⟩ := f1_i q2_0
  obtain rfl := f1_nil q2_1
  obtain rfl := fit_nil g2
  refine ⟨[], (congrArg T.eval (gnssExpected_ev f_BD x0_0 x0_1 x0_2 x0_3 x0_4 x0_5 x0_6 x0_7 x0_8 x1_0 x1_1 x1_2 x2_0)).trans ?_⟩
  rw [gnssExpected_plain x0_0 x0_1 x0_2 x0_3 x0_4 x0_5 x0_6 x0_7 x0_8 x1_0 x1_1 x1_2 x2_0]
  rfl
set_option maxRecDepth 100000 in
theorem gnssExpected_lifted (os : Os) (started : os.Started) (H : Type) (enc : TypeId × Value → H) :
    ReturnsInHanded {} Try.checked os 6 .any (Rows.gnssExpectedSpec.pre6 enc Try.prog Try.f6 Rows.gnssExpectedRow.domain false) (Rows.gnssExpectedSpec.post enc Try.prog Try.f6 false true false false) :=
  law_lift (C := Try.checked) (tb := Try.f6.resultTypes.getD 0 0) own started (by kernel_rfl) Try.func6 laid (by kernel_rfl) (by kernel_rfl) (by kernel_rfl) rfl
    (fun ds h => by
      have h : ds.length = 3 := h.trans (by kernel_rfl)
      match ds, h with
      | [_, _, _], _ => rfl)
    (ChangeSpec.witness6 (enc := enc) (C := Try.checked) false ⟨#[], #[.agg #[.int .i64 0, .int .i64 0, .int .i64 0, .int .i64 0, .int .i64 0, .int .i64 0, .int .i64 0, .int .i64 0, .int .i64 0], .agg #[.int .i64 0, .int .i64 0, .int .i64 0], .int .i64 0], []⟩ 8 (by kernel_rfl) (by kernel_rfl) (by kernel_rfl) (by kernel_rfl))
    (fun W base args ds ps _ hval ht _ _ _ => prm_calls (pr := [.flat true [.c (.i .i64), .c (.i .i64), .c (.i .i64), .c (.i .i64), .c (.i .i64), .c (.i .i64), .c (.i .i64), .c (.i .i64), .c (.i .i64)], .flat true [.c (.i .i64), .c (.i .i64), .c (.i .i64)], .flat false [.c (.i .i64)]]) s_BD (by kernel_rfl) (ts := Try.f6.params.toList) (by kernel_rfl) gnssExpected_trues hval ht)
theorem gnssExpected_over : Rows.gnssExpectedRow.holds Try.pinned (OpenSpec.ofChange Rows.gnssExpectedSpec) :=
  OpenClaim.holds_of_wide 6 Try.f6 rfl rfl rfl rfl rfl rfl rfl ⟨rfl, rfl, rfl, rfl, rfl⟩ rfl rfl rfl rfl rfl (by kernel_rfl) Try.func6 (by kernel_rfl)
    (of_decide_eq_true (by kernel_rfl)) (by unfold Func.isWrapper; first | (rw [if_pos (by decide +kernel)]; kernel_rfl) | (rw [if_neg (by decide +kernel)]; exact ⟨rfl, rfl⟩))
    (fun os started H enc _ => gnssExpected_lifted os started H enc)
theorem gnssExpected_proved : Rows.GnssExpectedSaid := gnssExpected_over
#print axioms gnssExpected_proved
end Go.Proofs.Ytdpenjncfmkbgaa
