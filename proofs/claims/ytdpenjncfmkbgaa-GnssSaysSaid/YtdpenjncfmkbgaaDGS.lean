/-
  The document's sine, cosine, and a frame's scales are the program's. The document's place on the plane is the program's. What satellites tell, and what the document says of it, in plain arithmetic. Chapter 19: GnssSays: the statement of astrolabelaw19.GnssSays; no condition.
-/
import Derived.Test.YtdpenjncfmkbgaaZF
import Derived.Test.YtdpenjncfmkbgaaZD
set_option linter.unusedVariables false
set_option linter.unusedSimpArgs false
set_option maxRecDepth 100000
set_option maxHeartbeats 4000000
set_option linter.unusedVariables false
set_option linter.unusedSimpArgs false
namespace Go.Proofs.Ytdpenjncfmkbgaa
open Go.Ab
def stepV (k z s : Int) : Int := sat (sat k + sat (sat (rnd (sat z * sat s) 30)))
def serV (P : Nat → Int) (z : Int) : Nat → Int
  | 0 => P 0
  | i + 1 => stepV (P (i + 1)) z (serV P z i)
def PA : Nat → Int := fun (j : Nat) => bif Nat.beq j 5 then 1073741824 else bif Nat.beq j 4 then -178956971 else bif Nat.beq j 3 then 8947849 else bif Nat.beq j 2 then -213044 else bif Nat.beq j 1 then 2959 else bif Nat.beq j 0 then -27 else -27
def PB : Nat → Int := fun (j : Nat) => bif Nat.beq j 6 then 1073741824 else bif Nat.beq j 5 then -536870912 else bif Nat.beq j 4 then 44739243 else bif Nat.beq j 3 then -1491308 else bif Nat.beq j 2 then 26631 else bif Nat.beq j 1 then -296 else bif Nat.beq j 0 then 2 else 2
theorem series_val (x : Int) (n : Nat) (hit : Bool) (P : Nat → Int) (h1 : 1 ≤ n) (h2 : n ≤ 150) : ∃ u, f_AJ x n hit P true = some (serV P x (n - 1), u) := by
  obtain ⟨⟨v, u⟩, e⟩ := t_series x n hit P true h1 h2
  have p := series_post x n hit P true (serV P x) (serV P x) h1 h2 ⟨Int.le_refl _, Int.le_refl _⟩ (fun i v _ l1 l2 => by
    have : v = serV P x i := Int.le_antisymm l2 l1
    subst this
    exact ⟨Int.le_refl _, Int.le_refl _⟩) _ e
  have : v = serV P x (n - 1) := Int.le_antisymm p.2 p.1
  exact ⟨u, this ▸ e⟩
theorem loopK_q {D X ρ : Type} {Q : Option ρ → Prop} {s : D → (D → Option ρ) → (X → Option ρ) → Option ρ} {k : X → Option ρ} (Inv : Nat → D → Prop)
    (h : ∀ t d c, Inv t d → (∀ t' d', t' < t → Inv t' d' → Q (c d')) → Q (s d c k)) : ∀ (fuel t : Nat) (d : D), t < fuel → Inv t d → Q (loopK s fuel d k)
  | 0, t, d, hf, hd => by omega
  | fuel + 1, t, d, hf, hd => by
    rw [loopK_succ]
    exact h t d _ hd fun t' d' ht hd' => loopK_q Inv h fuel t' d' (by omega) hd'
theorem add_M (k z s : Int) (hit : Bool) {ρ : Type} (c : Int × Bool → Option ρ) : ∃ u, (Option.bind (f_AC z s hit) fun (d : Int × Bool) => Option.bind (f_AZ k d.1 d.2) c) = c (stepV k z s, u) := by
  rw [ref_M, Option.bind_some]
  simp only [ref_add, Option.bind_some]
  exact ⟨_, rfl⟩
theorem ref_loopB {ρ : Type} (w z : Int) (hit : Bool) (k : _ → Option ρ) : ∃ u, L_O_0 (w, z, 2, 0, hit) k = k (w, z, serV PB z 6, 6, false, u) := by
  unfold L_O_0
  refine loopK_q (Q := fun o => ∃ u, o = k (w, z, serV PB z 6, 6, false, u)) (fun t d => ∃ (i : Nat) (u : Bool), i + t = 6 ∧ d = (w, z, serV PB z i, (i : Int), u)) ?_ 200 6 _ (by omega) ⟨0, hit, by omega, rfl⟩
  rintro t _ c ⟨i, u, hi, rfl⟩ hc
  have go : ∀ (m : Int) (j : Nat) (hj : j = i + 1) (h6 : j ≤ 6) (hm : stepV m z (serV PB z i) = serV PB z j) (e : S_O_0 f_S f_AR f_AC f_AZ f_AB w z (serV PB z i) (i : Int) u c k = Option.bind (f_AC z (serV PB z i) u) fun (d : Int × Bool) => Option.bind (f_AZ m d.1 d.2) fun (d : Int × Bool) => c (w, z, d.1, (j : Int), d.2)),
      ∃ u', S_O_0 f_S f_AR f_AC f_AZ f_AB w z (serV PB z i) (i : Int) u c k = k (w, z, serV PB z 6, 6, false, u') := by
    intro m j hj h6 hm e
    obtain ⟨u2, h2⟩ := add_M m z (serV PB z i) u fun (d : Int × Bool) => c (w, z, d.1, (j : Int), d.2)
    rw [e, h2, hm]
    exact hc (6 - j) _ (by omega) ⟨j, u2, by omega, rfl⟩
  have hcase : i = 0 ∨ i = 1 ∨ i = 2 ∨ i = 3 ∨ i = 4 ∨ i = 5 ∨ i = 6 := by omega
  rcases hcase with rfl | rfl | rfl | rfl | rfl | rfl | rfl
  · exact go (-296) 1 rfl (by omega) rfl (by kernel_rfl)
  · exact go 26631 2 rfl (by omega) rfl (by kernel_rfl)
  · exact go (-1491308) 3 rfl (by omega) rfl (by kernel_rfl)
  · exact go 44739243 4 rfl (by omega) rfl (by kernel_rfl)
  · exact go (-536870912) 5 rfl (by omega) rfl (by kernel_rfl)
  · exact go 1073741824 6 rfl (by omega) rfl (by kernel_rfl)
  · exact ⟨u, by kernel_rfl⟩
theorem ref_loopA {ρ : Type} (w z : Int) (hit : Bool) (k : _ → Option ρ) : ∃ u, L_O_1 (w, z, -27, 0, hit) k = k (w, z, serV PA z 5, 5, false, u) := by
  unfold L_O_1
  refine loopK_q (Q := fun o => ∃ u, o = k (w, z, serV PA z 5, 5, false, u)) (fun t d => ∃ (i : Nat) (u : Bool), i + t = 5 ∧ d = (w, z, serV PA z i, (i : Int), u)) ?_ 200 5 _ (by omega) ⟨0, hit, by omega, rfl⟩
  rintro t _ c ⟨i, u, hi, rfl⟩ hc
  have go : ∀ (m : Int) (j : Nat) (hj : j = i + 1) (h6 : j ≤ 5) (hm : stepV m z (serV PA z i) = serV PA z j) (e : S_O_1 f_S f_AR f_AC f_AZ f_AB w z (serV PA z i) (i : Int) u c k = Option.bind (f_AC z (serV PA z i) u) fun (d : Int × Bool) => Option.bind (f_AZ m d.1 d.2) fun (d : Int × Bool) => c (w, z, d.1, (j : Int), d.2)),
      ∃ u', S_O_1 f_S f_AR f_AC f_AZ f_AB w z (serV PA z i) (i : Int) u c k = k (w, z, serV PA z 5, 5, false, u') := by
    intro m j hj h6 hm e
    obtain ⟨u2, h2⟩ := add_M m z (serV PA z i) u fun (d : Int × Bool) => c (w, z, d.1, (j : Int), d.2)
    rw [e, h2, hm]
    exact hc (5 - j) _ (by omega) ⟨j, u2, by omega, rfl⟩
  have hcase : i = 0 ∨ i = 1 ∨ i = 2 ∨ i = 3 ∨ i = 4 ∨ i = 5 := by omega
  rcases hcase with rfl | rfl | rfl | rfl | rfl | rfl
  · exact go 2959 1 rfl (by omega) rfl (by kernel_rfl)
  · exact go (-213044) 2 rfl (by omega) rfl (by kernel_rfl)
  · exact go 8947849 3 rfl (by omega) rfl (by kernel_rfl)
  · exact go (-178956971) 4 rfl (by omega) rfl (by kernel_rfl)
  · exact go 1073741824 5 rfl (by omega) rfl (by kernel_rfl)
  · exact ⟨u, by kernel_rfl⟩
def clampV (v : Int) : Int := if 1073741824 < if -1073741824 > v then -1073741824 else v then 1073741824 else if -1073741824 > v then -1073741824 else v
theorem ref_clampV (v : Int) : ∃ u, f_AB v (-1073741824) 1073741824 false = some (clampV v, u) := by
  rw [ref_clamp v _ _ false (by decide)]
  refine ⟨_, congrArg some (Prod.ext ?_ rfl)⟩
  unfold clampV
  by_cases c : v < -1073741824
  · rw [if_pos c, if_pos (show -1073741824 > v from c)]; rfl
  · rw [if_neg c, if_neg (show ¬ -1073741824 > v from c)]
def sinV (y : Int) : Int :=
  if mgq y ≤ 843314857 then clampV (sat (rnd (sat y * sat (serV PA (sat (rnd (sat y * sat y) 30)) 5)) 30))
  else if y < 0 then clampV (-(serV PB (sat (rnd (sat (1686629713 - mgq y) * sat (1686629713 - mgq y)) 30)) 6))
  else clampV (serV PB (sat (rnd (sat (1686629713 - mgq y) * sat (1686629713 - mgq y)) 30)) 6)
theorem abs_eq (x : Int) (h1 : -1152921504606846976 < x) (h2 : x < 1152921504606846976) : f_BK x = some (mgq x) := by
  unfold f_BK K_BK mgq
  rw [decide_eq_false (by omega), cond_false, decide_eq_false (by omega), cond_false]
  by_cases c : x < 0
  · rw [decide_eq_true c, cond_true, if_pos c, wrap_i64 (by omega) (by omega), Int.zero_sub]
  · rw [decide_eq_false c, cond_false, if_neg c]
def ptail (y : Int) (hit : Bool) : Option (Int × Bool) :=
  Option.bind (f_BK y) fun (d_2 : Int) =>
    bif decide (d_2 ≤ 843314857) then
      Option.bind (f_Ac y y hit) fun (d : Int × Bool) =>
        Option.bind (f_AJ d.1 6 d.2 PA true) fun (d : Int × Bool) =>
          Option.bind (f_Ac y d.1 d.2) fun (d : Int × Bool) => some (clampV d.1, d.2)
    else
      Option.bind (f_Ac (IntKind.wrap IntKind.i64 (1686629713 - d_2)) (IntKind.wrap IntKind.i64 (1686629713 - d_2)) hit) fun (d : Int × Bool) =>
        Option.bind (f_AJ d.1 7 d.2 PB true) fun (d : Int × Bool) =>
          bif decide (y < 0) then some (clampV (IntKind.wrap IntKind.i64 (0 - d.1)), d.2)
          else some (clampV d.1, d.2)
theorem serV_bd (P : Nat → Int) (z : Int) (i : Nat) : -1152921504606846976 ≤ serV P z (i + 1) ∧ serV P z (i + 1) ≤ 1152921504606846976 := sat_le _
theorem ptail_eq (y : Int) (hit : Bool) (h1 : -1686629713 ≤ y) (h2 : y ≤ 1686629713) : ∃ u, ptail y hit = some (sinV y, u) := by
  unfold ptail sinV
  have m0 : 0 ≤ mgq y ∧ mgq y ≤ 1686629713 := by unfold mgq; split <;> omega
  rw [abs_eq y (by omega) (by omega), Option.bind_some]
  by_cases c : mgq y ≤ 843314857
  · rw [decide_eq_true c, cond_true, if_pos c]
    obtain ⟨u1, e1⟩ := m_eq y y hit
    rw [e1, Option.bind_some]
    obtain ⟨u2, e2⟩ := series_val (sat (rnd (sat y * sat y) 30)) 6 u1 PA (by omega) (by omega)
    simp only [e2, Option.bind_some]
    obtain ⟨u3, e3⟩ := m_eq y (serV PA (sat (rnd (sat y * sat y) 30)) 5) u2
    refine ⟨u3, ?_⟩
    show Option.bind (f_Ac y (serV PA (sat (rnd (sat y * sat y) 30)) 5) u2) _ = _
    rw [e3, Option.bind_some]
  · rw [decide_eq_false c, cond_false, if_neg c, wrap_i64 (n := 1686629713 - mgq y) (by omega) (by omega)]
    generalize (1686629713 : Int) - mgq y = q
    obtain ⟨u1, e1⟩ := m_eq q q hit
    rw [e1, Option.bind_some]
    obtain ⟨u2, e2⟩ := series_val (sat (rnd (sat q * sat q) 30)) 7 u1 PB (by omega) (by omega)
    simp only [e2, Option.bind_some]
    have b : -1152921504606846976 ≤ serV PB (sat (rnd (sat q * sat q) 30)) 6 ∧ serV PB (sat (rnd (sat q * sat q) 30)) 6 ≤ 1152921504606846976 := serV_bd PB (sat (rnd (sat q * sat q) 30)) 5
    refine ⟨u2, ?_⟩
    by_cases d : y < 0
    · rw [decide_eq_true d, cond_true, if_pos d]
      show some (clampV (IntKind.wrap .i64 (0 - serV PB (sat (rnd (sat q * sat q) 30)) 6)), u2) = _
      rw [wrap_i64 (by omega) (by omega), Int.zero_sub]
    · rw [decide_eq_false d, cond_false, if_neg d]
def rtail (y : Int) (hit : Bool) : Option (Int × Bool) :=
  bif decide (y < 0) then
    bif decide (IntKind.wrap IntKind.i64 (0 - y) > 843314857) then
      Option.bind (f_AC (IntKind.wrap IntKind.i64 (1686629713 - IntKind.wrap IntKind.i64 (0 - y))) (IntKind.wrap IntKind.i64 (1686629713 - IntKind.wrap IntKind.i64 (0 - y))) hit) fun (d : Int × Bool) =>
        L_O_0 (y, d.1, 2, 0, d.2) fun (d : Int × Int × Int × Int × Bool × Bool) =>
          bif decide (d.1 < 0) then Option.bind (f_AB (IntKind.wrap IntKind.i64 (0 - d.2.2.1)) (-1073741824) 1073741824 false) fun (d_2 : Int × Bool) => some (d_2.1, d.2.2.2.2.2)
          else Option.bind (f_AB d.2.2.1 (-1073741824) 1073741824 false) fun (d_2 : Int × Bool) => some (d_2.1, d.2.2.2.2.2)
    else
      Option.bind (f_AC y y hit) fun (d : Int × Bool) =>
        L_O_1 (y, d.1, -27, 0, d.2) fun (d : Int × Int × Int × Int × Bool × Bool) =>
          Option.bind (f_AC d.1 d.2.2.1 d.2.2.2.2.2) fun (d : Int × Bool) =>
            Option.bind (f_AB d.1 (-1073741824) 1073741824 false) fun (d_2 : Int × Bool) => some (d_2.1, d.2)
  else
    bif decide (y > 843314857) then
      Option.bind (f_AC (IntKind.wrap IntKind.i64 (1686629713 - y)) (IntKind.wrap IntKind.i64 (1686629713 - y)) hit) fun (d : Int × Bool) =>
        L_O_0 (y, d.1, 2, 0, d.2) fun (d : Int × Int × Int × Int × Bool × Bool) =>
          bif decide (d.1 < 0) then Option.bind (f_AB (IntKind.wrap IntKind.i64 (0 - d.2.2.1)) (-1073741824) 1073741824 false) fun (d_2 : Int × Bool) => some (d_2.1, d.2.2.2.2.2)
          else Option.bind (f_AB d.2.2.1 (-1073741824) 1073741824 false) fun (d_2 : Int × Bool) => some (d_2.1, d.2.2.2.2.2)
    else
      Option.bind (f_AC y y hit) fun (d : Int × Bool) =>
        L_O_1 (y, d.1, -27, 0, d.2) fun (d : Int × Int × Int × Int × Bool × Bool) =>
          Option.bind (f_AC d.1 d.2.2.1 d.2.2.2.2.2) fun (d : Int × Bool) =>
            Option.bind (f_AB d.1 (-1073741824) 1073741824 false) fun (d_2 : Int × Bool) => some (d_2.1, d.2)
theorem rA (y : Int) (hit : Bool) : ∃ u, (Option.bind (f_AC y y hit) fun (d : Int × Bool) =>
        L_O_1 (y, d.1, -27, 0, d.2) fun (d : Int × Int × Int × Int × Bool × Bool) =>
          Option.bind (f_AC d.1 d.2.2.1 d.2.2.2.2.2) fun (d : Int × Bool) =>
            Option.bind (f_AB d.1 (-1073741824) 1073741824 false) fun (d_2 : Int × Bool) => some (d_2.1, d.2)) = some (clampV (sat (rnd (sat y * sat (serV PA (sat (rnd (sat y * sat y) 30)) 5)) 30)), u) := by
  rw [ref_M, Option.bind_some]
  obtain ⟨u2, e2⟩ := ref_loopA y (sat (rnd (sat y * sat y) 30)) (hit || over y || over y || over (rnd (sat y * sat y) 30)) fun (d : Int × Int × Int × Int × Bool × Bool) =>
          Option.bind (f_AC d.1 d.2.2.1 d.2.2.2.2.2) fun (d : Int × Bool) =>
            Option.bind (f_AB d.1 (-1073741824) 1073741824 false) fun (d_2 : Int × Bool) => some (d_2.1, d.2)
  simp only
  rw [e2]
  simp only
  rw [ref_M, Option.bind_some]
  obtain ⟨u3, e3⟩ := ref_clampV (sat (rnd (sat y * sat (serV PA (sat (rnd (sat y * sat y) 30)) 5)) 30))
  simp only [e3, Option.bind_some]
  exact ⟨_, rfl⟩
theorem rB (y q : Int) (hit : Bool) : ∃ u, (Option.bind (f_AC q q hit) fun (d : Int × Bool) =>
        L_O_0 (y, d.1, 2, 0, d.2) fun (d : Int × Int × Int × Int × Bool × Bool) =>
          bif decide (d.1 < 0) then Option.bind (f_AB (IntKind.wrap IntKind.i64 (0 - d.2.2.1)) (-1073741824) 1073741824 false) fun (d_2 : Int × Bool) => some (d_2.1, d.2.2.2.2.2)
          else Option.bind (f_AB d.2.2.1 (-1073741824) 1073741824 false) fun (d_2 : Int × Bool) => some (d_2.1, d.2.2.2.2.2)) = some (if y < 0 then clampV (-(serV PB (sat (rnd (sat q * sat q) 30)) 6)) else clampV (serV PB (sat (rnd (sat q * sat q) 30)) 6), u) := by
  rw [ref_M, Option.bind_some]
  obtain ⟨u2, e2⟩ := ref_loopB y (sat (rnd (sat q * sat q) 30)) (hit || over q || over q || over (rnd (sat q * sat q) 30)) fun (d : Int × Int × Int × Int × Bool × Bool) =>
          bif decide (d.1 < 0) then Option.bind (f_AB (IntKind.wrap IntKind.i64 (0 - d.2.2.1)) (-1073741824) 1073741824 false) fun (d_2 : Int × Bool) => some (d_2.1, d.2.2.2.2.2)
          else Option.bind (f_AB d.2.2.1 (-1073741824) 1073741824 false) fun (d_2 : Int × Bool) => some (d_2.1, d.2.2.2.2.2)
  simp only
  rw [e2]
  simp only
  have b : -1152921504606846976 ≤ serV PB (sat (rnd (sat q * sat q) 30)) 6 ∧ serV PB (sat (rnd (sat q * sat q) 30)) 6 ≤ 1152921504606846976 := serV_bd PB (sat (rnd (sat q * sat q) 30)) 5
  refine ⟨u2, ?_⟩
  by_cases d : y < 0
  · rw [decide_eq_true d, cond_true, if_pos d, wrap_i64 (by omega) (by omega), Int.zero_sub]
    obtain ⟨u3, e3⟩ := ref_clampV (-(serV PB (sat (rnd (sat q * sat q) 30)) 6))
    rw [e3, Option.bind_some]
  · rw [decide_eq_false d, cond_false, if_neg d]
    obtain ⟨u3, e3⟩ := ref_clampV (serV PB (sat (rnd (sat q * sat q) 30)) 6)
    rw [e3, Option.bind_some]
theorem rtail_eq (y : Int) (hit : Bool) (h1 : -1686629713 ≤ y) (h2 : y ≤ 1686629713) : ∃ u, rtail y hit = some (sinV y, u) := by
  unfold rtail sinV
  by_cases c : y < 0
  · have g : mgq y = -y := by unfold mgq; rw [if_pos c]
    rw [decide_eq_true c, cond_true, wrap_i64 (n := 0 - y) (by omega) (by omega), Int.zero_sub, g, wrap_i64 (n := 1686629713 - -y) (by omega) (by omega)]
    by_cases d : -y ≤ 843314857
    · rw [decide_eq_false (show ¬ -y > 843314857 by omega), cond_false, if_pos d]
      exact rA y hit
    · rw [decide_eq_true (show -y > 843314857 by omega), cond_true, if_neg d]
      exact rB y (1686629713 - -y) hit
  · have g : mgq y = y := by unfold mgq; rw [if_neg c]
    rw [decide_eq_false c, cond_false, g, wrap_i64 (n := 1686629713 - y) (by omega) (by omega)]
    by_cases d : y ≤ 843314857
    · rw [decide_eq_false (show ¬ y > 843314857 by omega), cond_false, if_pos d]
      exact rA y hit
    · rw [decide_eq_true (show y > 843314857 by omega), cond_true, if_neg d]
      exact rB y (1686629713 - y) hit
theorem wrap_same (x : Int) : ∃ w, f_Aw x = some w ∧ f_AR x = some w ∧ -3373259426 < w ∧ w ≤ 3373259426 := by
  unfold f_Aw K_Aw f_AR K_AR
  have t1 : -6746518852 < Int.tmod x 6746518852 ∧ Int.tmod x 6746518852 < 6746518852 := by
    rcases Int.lt_or_le x 0 with c | c
    · have e : Int.tmod (-x) 6746518852 = -Int.tmod x 6746518852 := Int.neg_tmod ..
      have a1 := Int.tmod_lt_of_pos (-x) (show (0 : Int) < 6746518852 by omega)
      have a2 := Int.tmod_nonneg 6746518852 (show 0 ≤ -x by omega)
      omega
    · have a1 := Int.tmod_lt_of_pos x (show (0 : Int) < 6746518852 by omega)
      have a2 := Int.tmod_nonneg 6746518852 c
      omega
  generalize Int.tmod x 6746518852 = t at t1
  by_cases c : t > 3373259426
  · rw [decide_eq_true c, cond_true, cond_true, wrap_i64 (n := t - 6746518852) (by omega) (by omega), decide_eq_false (show ¬ t - 6746518852 ≤ -3373259426 by omega), cond_false]
    exact ⟨_, rfl, rfl, by omega, by omega⟩
  · rw [decide_eq_false c, cond_false, cond_false]
    by_cases d : t ≤ -3373259426
    · rw [decide_eq_true d, cond_true, wrap_i64 (n := t + 6746518852) (by omega) (by omega)]
      exact ⟨_, rfl, rfl, by omega, by omega⟩
    · rw [decide_eq_false d, cond_false]
      exact ⟨_, rfl, rfl, by omega, by omega⟩
theorem sin_same (x : Int) (hit hit' : Bool) : ∃ v u u', f_At x hit = some (v, u) ∧ f_O x hit' = some (v, u') := by
  unfold f_At K_At f_O K_O
  obtain ⟨w, e1, e2, w1, w2⟩ := wrap_same (sat x)
  rw [acc_sat, Option.bind_some, ref_sat, Option.bind_some]
  simp only
  rw [e1, e2, Option.bind_some, Option.bind_some]
  by_cases c : w > 1686629713
  · rw [decide_eq_true c, cond_true, cond_true, wrap_i64 (n := 3373259426 - w) (by omega) (by omega)]
    obtain ⟨u, h⟩ := ptail_eq (3373259426 - w) (hit || over x) (by omega) (by omega)
    obtain ⟨u', h'⟩ := rtail_eq (3373259426 - w) (hit' || over x) (by omega) (by omega)
    exact ⟨_, u, u', h, h'⟩
  · rw [decide_eq_false c, cond_false, cond_false]
    by_cases d : w < -1686629713
    · rw [decide_eq_true d, cond_true, cond_true, wrap_i64 (n := -3373259426 - w) (by omega) (by omega)]
      obtain ⟨u, h⟩ := ptail_eq (-3373259426 - w) (hit || over x) (by omega) (by omega)
      obtain ⟨u', h'⟩ := rtail_eq (-3373259426 - w) (hit' || over x) (by omega) (by omega)
      exact ⟨_, u, u', h, h'⟩
    · rw [decide_eq_false d, cond_false, cond_false]
      obtain ⟨u, h⟩ := ptail_eq w (hit || over x) (by omega) (by omega)
      obtain ⟨u', h'⟩ := rtail_eq w (hit' || over x) (by omega) (by omega)
      exact ⟨_, u, u', h, h'⟩
theorem cos_same (x : Int) (hit hit' : Bool) : ∃ v u u', f_BL x hit = some (v, u) ∧ f_BX x hit' = some (v, u') := by
  unfold f_BL K_BL f_BX K_BX
  obtain ⟨w, e1, e2, w1, w2⟩ := wrap_same x
  rw [e1, e2, Option.bind_some, Option.bind_some]
  obtain ⟨v, u, u', h, h'⟩ := sin_same (IntKind.wrap .i64 (1686629713 + w)) hit hit'
  exact ⟨v, u, u', by rw [h]; rfl, by rw [h']; rfl⟩
theorem scales_same (a b c : Int) (G : GoodP a b c) (A1 : -850000000 ≤ a) (A2 : a ≤ 850000000) :
    ∃ n e, f_Ar a b c = some (Sum.inr (a, b, c, n, e)) ∧ f_Ai a = some (n, e) ∧ 0 ≤ n ∧ n ≤ 13000000000 ∧ -13000000000 ≤ e ∧ e ≤ 13000000000 := by
  suffices H : ∃ n e, f_Ar a b c = some (Sum.inr (a, b, c, n, e)) ∧ f_Ai a = some (n, e) by
    obtain ⟨n, e, h1, h2⟩ := H
    rcases new_bd a b c _ h1 with h | ⟨_, n', e', h, b⟩
    · cases h
    · cases h; exact ⟨n, e, h1, h2, b⟩
  unfold f_Ar K_Ar f_Ai K_Ai
  rw [good_yes G, Option.bind_some, Bool.not_true, cond_false, decide_eq_false (by omega), cond_false, decide_eq_false (by omega), cond_false]
  obtain ⟨u0, h0⟩ := muldiv_eq a 3373259426 1800000000 false (by decide)
  rw [muldiv_same a 3373259426 1800000000 false (by decide), h0, Option.bind_some, Option.bind_some]
  simp only
  generalize sat (rdq (sat a * sat 3373259426) (sat 1800000000)) = g
  obtain ⟨s, us, us', hs, hs'⟩ := sin_same g u0 u0
  have bs : Unit1 s := sin_bd _ _ _ hs
  rw [hs, hs', Option.bind_some, Option.bind_some]
  obtain ⟨k, uk, uk', hk, hk'⟩ := cos_same g us us'
  have bk : Unit1 k := cos_bd _ _ _ hk
  simp only
  rw [hk, hk', Option.bind_some, Option.bind_some]
  unfold Unit1 at bs bk
  simp only
  obtain ⟨u1, h1⟩ := new1_eq s s uk
  have ss : sat s = s := satI (by omega)
  rw [h1, ref_M, Option.bind_some, Option.bind_some, ss]
  simp only
  have m1 := mulB s s 1073741824 1073741824 bs.1 bs.2 bs.1 bs.2
  have m1n : 0 ≤ s * s := by
    rcases Int.lt_or_le s 0 with z | z
    · have := Int.mul_nonneg (show 0 ≤ -s by omega) (show 0 ≤ -s by omega)
      rwa [Int.neg_mul_neg] at this
    · exact Int.mul_nonneg z z
  have b1 := rnd30_bd (s * s) 1073741824 m1.1 m1.2
  have b1n := rnd30_lo (s * s) 0 (by omega) (by omega)
  generalize rnd (s * s) 30 = p at b1 b1n
  rw [satI (x := p) (by omega)]
  obtain ⟨u2, h2⟩ := new1_eq 7188036 p u1
  rw [h2, ref_M, Option.bind_some, Option.bind_some, show sat 7188036 = 7188036 from rfl, satI (x := p) (by omega)]
  simp only
  have b2 := rnd30_bd (7188036 * p) 7188036 (by omega) (by omega)
  have b2n := rnd30_lo (7188036 * p) 0 (by omega) (by omega)
  generalize rnd (7188036 * p) 30 = t at b2 b2n
  rw [satI (x := t) (by omega), wrap_i64 (n := 1073741824 - t) (by omega) (by omega)]
  generalize hq : (1073741824 : Int) - t = q
  obtain ⟨w, u3, hw, h3⟩ := sqrt_eq q u2 (by omega) (by omega)
  have bw := isR_bd w q hw (by omega) (by omega)
  obtain ⟨u3', h3'⟩ := ref_sqrt q (uk' || over s || over s || over p || over 7188036 || over p || over t) (by omega) (by omega) w hw
  rw [h3, h3', Option.bind_some, Option.bind_some]
  simp only
  have sw : sat w = w := satI (by omega)
  obtain ⟨u4, h4⟩ := div30_eq 6531212288 (sat w) u3 (by rw [sw]; omega)
  rw [h4, ref_D _ _ _ (by rw [sw, sw]; omega), Option.bind_some, Option.bind_some]
  simp only
  obtain ⟨u5, h5⟩ := new1_eq 6531212288 1066553788 u4
  rw [h5, ref_M, Option.bind_some, Option.bind_some]
  simp only
  obtain ⟨u6, h6⟩ := new1_eq q (sat w) u5
  rw [h6, ref_M, Option.bind_some, Option.bind_some]
  simp only
  have m6 := mulB q w 1073741824 1073741824 (by omega) (by omega) (by omega) (by omega)
  have m6n : 1066553788 * 1066553788 ≤ q * w := by
    have x1 := Int.mul_nonneg (show 0 ≤ q - 1066553788 by omega) (show 0 ≤ w by omega)
    have x2 : (q - 1066553788) * w = q * w - 1066553788 * w := by grind
    omega
  have b6 := rnd30_bd (q * w) 1073741824 m6.1 m6.2
  have b6n := rnd30_lo (q * w) 1059000000 (by omega) (by omega)
  rw [sw, sw, satI (x := q) (by omega)]
  generalize rnd (q * w) 30 = z at b6 b6n
  have sz : sat z = z := satI (by omega)
  rw [sz]
  obtain ⟨u7, h7⟩ := div30_eq (sat (rnd (sat 6531212288 * sat 1066553788) 30)) z u6 (by rw [sz]; omega)
  rw [h7, ref_D _ _ _ (by rw [sz]; omega), Option.bind_some, Option.bind_some]
  simp only
  obtain ⟨u8, h8⟩ := muldiv_eq (sat (rdq (sat (sat (rnd (sat 6531212288 * sat 1066553788) 30)) * 1073741824) (sat z))) 3373259426 1800000000 u7 (by decide)
  rw [h8, ref_muldiv _ 3373259426 1800000000 _ (by decide), Option.bind_some, Option.bind_some]
  simp only
  obtain ⟨u9, h9⟩ := new1_eq (sat (rdq (sat 6531212288 * 1073741824) w)) k u8
  rw [h9, ref_M, Option.bind_some, Option.bind_some]
  simp only
  obtain ⟨u10, h10⟩ := muldiv_eq (sat (rnd (sat (sat (rdq (sat 6531212288 * 1073741824) w)) * sat k) 30)) 3373259426 1800000000 u9 (by decide)
  rw [h10, ref_muldiv _ 3373259426 1800000000 _ (by decide), Option.bind_some, Option.bind_some]
  exact ⟨_, _, rfl, rfl⟩
end Go.Proofs.Ytdpenjncfmkbgaa
set_option maxRecDepth 100000
set_option maxHeartbeats 4000000
set_option linter.unusedVariables false
set_option linter.unusedSimpArgs false
namespace Go.Proofs.Ytdpenjncfmkbgaa
open Go.Ab
theorem loopK_lit {D X ρ : Type} (s : D → (D → Option ρ) → (X → Option ρ) → Option ρ) (n m : Nat) (h : m = n + 1) (d : D) (k : X → Option ρ) : loopK s m d k = s d (fun d => loopK s n d k) k := by subst h; rfl
theorem toL0 {ρ : Type} (p0 p1 p2 p3 p4 p5 a : Int) (h : Bool) (k : _ → Option ρ) (h1 : -3600000000 ≤ a) (h2 : a ≤ 3600000000) :
    L_AA_0 (p0, p1, p2, p3, p4, p5, a, h) k = k (p0, p1, p2, p3, p4, p5, (if a > 1800000000 then a - 3600000000 else a), false, h) := by
  unfold L_AA_0
  rw [loopK_lit _ 199 200 rfl]
  unfold S_AA_0
  by_cases c : a > 1800000000
  · simp only [decide_eq_true c, cond_true, if_pos c, wrap_i64 (n := a - 3600000000) (by omega) (by omega)]
    rw [loopK_lit _ 198 199 rfl]
    simp only [decide_eq_false (show ¬ a - 3600000000 > 1800000000 by omega), cond_false]
  · simp only [decide_eq_false c, cond_false, if_neg c]
theorem toL1 {ρ : Type} (p0 p1 p2 p3 p4 p5 a : Int) (h : Bool) (k : _ → Option ρ) (h1 : -3600000000 ≤ a) (h2 : a ≤ 3600000000) :
    L_AA_1 (p0, p1, p2, p3, p4, p5, a, h) k = k (p0, p1, p2, p3, p4, p5, (if a ≤ -1800000000 then a + 3600000000 else a), false, h) := by
  unfold L_AA_1
  rw [loopK_lit _ 199 200 rfl]
  unfold S_AA_1
  by_cases c : a ≤ -1800000000
  · simp only [decide_eq_true c, cond_true, if_pos c, wrap_i64 (n := a + 3600000000) (by omega) (by omega)]
    rw [loopK_lit _ 198 199 rfl]
    simp only [decide_eq_false (show ¬ a + 3600000000 ≤ -1800000000 by omega), cond_false]
  · simp only [decide_eq_false c, cond_false, if_neg c]
theorem ref_To (o0 o1 o2 x0 x1 x2 n e : Int) (hit : Bool) (F : GoodP o0 o1 o2) (G : GoodP x0 x1 x2) (hs : f_Ai o0 = some (n, e)) (n1 : -13000000000 ≤ n) (n2 : n ≤ 13000000000) (e1 : -13000000000 ≤ e) (e2 : e ≤ 13000000000) :
    f_AA o0 o1 o2 x0 x1 x2 hit = some (rnd ((x0 - o0) * n) 10, rnd (redL (x1 - o1) * e) 10, rdq ((o2 - x2) * 1073741824) 1000, hit) := by
  unfold f_AA K_AA
  rw [hs, Option.bind_some]
  obtain ⟨g1, g2, g3, g4, g5, g6⟩ := G
  obtain ⟨k1, k2, k3, k4, k5, k6⟩ := F
  have w1 : IntKind.wrap .i64 (x1 - o1) = x1 - o1 := wrap_i64 (by omega) (by omega)
  have w4 : IntKind.wrap .i64 (x0 - o0) = x0 - o0 := wrap_i64 (by omega) (by omega)
  have w5 : IntKind.wrap .i64 (o2 - x2) = o2 - x2 := wrap_i64 (by omega) (by omega)
  have m : ∀ a b hit, -1800000000 ≤ a → a ≤ 1800000000 → -13000000000 ≤ b → b ≤ 13000000000 → f_AS a b 10 hit = some (rnd (a * b) 10, hit) := by
    intro a b hit a1 a2 b1 b2
    have q : f_AS a b 10 hit = some (sat (rnd (sat a * sat b) 10), hit || over a || over b || over (rnd (sat a * sat b) 10)) := ref_Mul a b 10 hit (by omega)
    have p := mulB a b 1800000000 13000000000 a1 a2 b1 b2
    have r := rnd10_bd (a * b) 1000000000000000000 (by omega) (by omega)
    rw [q, satI (x := a) (by omega), satI (x := b) (by omega), satI (by omega), overI (x := a) (by omega), overI (x := b) (by omega), overI (by omega)]
    simp
  have d : ∀ hit, f_AQ (o2 - x2) 1073741824 1000 hit = some (rdq ((o2 - x2) * 1073741824) 1000, hit) := by
    intro hit
    have r := rdq_bd ((o2 - x2) * 1073741824) 1000 1000000000000000000 (by omega) (by omega) (by omega)
    rw [ref_muldiv _ _ _ _ (by decide), satI (x := o2 - x2) (by omega), show sat 1073741824 = 1073741824 from rfl, show sat 1000 = 1000 from rfl, satI (by omega), overI (x := o2 - x2) (by omega), overI (x := rdq _ _) (by omega), show over 1073741824 = false from rfl, show over 1000 = false from rfl]
    simp
  have rb := redL_bd (x1 - o1) (by omega) (by omega)
  simp only
  rw [w1, toL0 _ _ _ _ _ _ _ _ _ (by omega) (by omega)]
  simp only
  rw [toL1 _ _ _ _ _ _ _ _ _ (by split <;> omega) (by split <;> omega)]
  have hr : (if (if x1 - o1 > 1800000000 then x1 - o1 - 3600000000 else x1 - o1) ≤ -1800000000 then (if x1 - o1 > 1800000000 then x1 - o1 - 3600000000 else x1 - o1) + 3600000000 else (if x1 - o1 > 1800000000 then x1 - o1 - 3600000000 else x1 - o1)) = redL (x1 - o1) := by
    unfold redL
    by_cases c : x1 - o1 > 1800000000
    · rw [if_pos c, if_neg (by omega), if_pos c]
    · rw [if_neg c, if_neg c]
  simp only [hr, w4, w5, m _ _ _ (show -1800000000 ≤ x0 - o0 by omega) (show x0 - o0 ≤ 1800000000 by omega) n1 n2, Option.bind_some, m _ _ _ rb.1 rb.2 e1 e2, d]
end Go.Proofs.Ytdpenjncfmkbgaa
set_option maxRecDepth 100000
set_option maxHeartbeats 4000000
set_option linter.unusedVariables false
set_option linter.unusedSimpArgs false
namespace Go.Proofs.Ytdpenjncfmkbgaa
open Go.Ab
def subV (a b : Int) : Int := sat (sat a - sat b)
def subF (a b : Int) (hit : Bool) : Bool := ((hit || over a) || over b) || over (sat a - sat b)
theorem fx_sub (a b : Int) (hit : Bool) : f_BV a b hit = some (subV a b, subF a b hit) := by
  unfold f_BV K_BV
  have sa := sat_le a
  have sb := sat_le b
  simp only [acc_sat, Option.bind_some]
  rw [wrap_i64 (n := sat a - sat b) (by omega) (by omega)]
  rfl
theorem doc_sub (a b : Int) (hit : Bool) : f_Ah a b hit = some (subV a b, subF a b hit) := ref_sub a b hit
def pk (i : Nat) : Nat → Int := fun (j : Nat) => bif Nat.beq j i then 1073741824 else 0
theorem pick4 : f_AF 1 (fun (j : Nat) => bif Nat.beq j 0 then 4 else 4) true = some (pk 4) := by kernel_rfl
theorem doc4 : f_Ag 4 = some (pk 4) := by kernel_rfl
theorem straight4 (s : Nat → Int) (v r g : Int) (hit : Bool) : f_AU s 4 v r g hit = some (pk 4, subV v (s 4), r, g, subF v (s 4) hit) := by
  unfold f_AU K_AU
  rw [pick4, Option.bind_some, show inR 4 24 = true from rfl, cond_true, show Int.toNat 4 = 4 from rfl, fx_sub, Option.bind_some]
theorem pick5 : f_AF 1 (fun (j : Nat) => bif Nat.beq j 0 then 5 else 5) true = some (pk 5) := by kernel_rfl
theorem doc5 : f_Ag 5 = some (pk 5) := by kernel_rfl
theorem straight5 (s : Nat → Int) (v r g : Int) (hit : Bool) : f_AU s 5 v r g hit = some (pk 5, subV v (s 5), r, g, subF v (s 5) hit) := by
  unfold f_AU K_AU
  rw [pick5, Option.bind_some, show inR 5 24 = true from rfl, cond_true, show Int.toNat 5 = 5 from rfl, fx_sub, Option.bind_some]
theorem pick6 : f_AF 1 (fun (j : Nat) => bif Nat.beq j 0 then 6 else 6) true = some (pk 6) := by kernel_rfl
theorem doc6 : f_Ag 6 = some (pk 6) := by kernel_rfl
theorem straight6 (s : Nat → Int) (v r g : Int) (hit : Bool) : f_AU s 6 v r g hit = some (pk 6, subV v (s 6), r, g, subF v (s 6) hit) := by
  unfold f_AU K_AU
  rw [pick6, Option.bind_some, show inR 6 24 = true from rfl, cond_true, show Int.toNat 6 = 6 from rfl, fx_sub, Option.bind_some]
theorem pick7 : f_AF 1 (fun (j : Nat) => bif Nat.beq j 0 then 7 else 7) true = some (pk 7) := by kernel_rfl
theorem doc7 : f_Ag 7 = some (pk 7) := by kernel_rfl
theorem straight7 (s : Nat → Int) (v r g : Int) (hit : Bool) : f_AU s 7 v r g hit = some (pk 7, subV v (s 7), r, g, subF v (s 7) hit) := by
  unfold f_AU K_AU
  rw [pick7, Option.bind_some, show inR 7 24 = true from rfl, cond_true, show Int.toNat 7 = 7 from rfl, fx_sub, Option.bind_some]
theorem pick8 : f_AF 1 (fun (j : Nat) => bif Nat.beq j 0 then 8 else 8) true = some (pk 8) := by kernel_rfl
theorem doc8 : f_Ag 8 = some (pk 8) := by kernel_rfl
theorem straight8 (s : Nat → Int) (v r g : Int) (hit : Bool) : f_AU s 8 v r g hit = some (pk 8, subV v (s 8), r, g, subF v (s 8) hit) := by
  unfold f_AU K_AU
  rw [pick8, Option.bind_some, show inR 8 24 = true from rfl, cond_true, show Int.toNat 8 = 8 from rfl, fx_sub, Option.bind_some]
theorem pick9 : f_AF 1 (fun (j : Nat) => bif Nat.beq j 0 then 9 else 9) true = some (pk 9) := by kernel_rfl
theorem doc9 : f_Ag 9 = some (pk 9) := by kernel_rfl
theorem straight9 (s : Nat → Int) (v r g : Int) (hit : Bool) : f_AU s 9 v r g hit = some (pk 9, subV v (s 9), r, g, subF v (s 9) hit) := by
  unfold f_AU K_AU
  rw [pick9, Option.bind_some, show inR 9 24 = true from rfl, cond_true, show Int.toNat 9 = 9 from rfl, fx_sub, Option.bind_some]
theorem vel_eq (s : Nat → Int) (a b c v0 v1 v2 p r g : Int) (hit : Bool) : f_BF s a b c v0 v1 v2 p r g hit =
    some (subF v2 (s 6) (subF v1 (s 5) (subF v0 (s 4) hit)), pk 4, subV v0 (s 4), r, g, pk 5, subV v1 (s 5), r, g, pk 6, subV v2 (s 6), r, g) := by
  unfold f_BF K_BF
  simp only [straight4, straight5, straight6, Option.bind_some]
theorem doc_vel (s : Nat → Int) (v0 v1 v2 r g : Int) (hit : Bool) : f_BZ s v0 v1 v2 r g hit =
    some (subF v2 (s 6) (subF v1 (s 5) (subF v0 (s 4) hit)), pk 4, subV v0 (s 4), r, g, pk 5, subV v1 (s 5), pk 6, subV v2 (s 6)) := by
  unfold f_BZ K_BZ
  simp only [doc4, doc5, doc6, doc_sub, Option.bind_some]
theorem hor_eq (s : Nat → Int) (a b c v0 v1 v2 p r g : Int) (hit : Bool) (f0 f1 f2 f3 f4 x y z : Int) (h : f_As a b c f0 f1 f2 f3 f4 hit = some (x, y, z, 0, hit)) :
    f_Ax s a b c v0 v1 v2 p r g hit f0 f1 f2 f3 f4 = some (Sum.inr (subF y (s 8) (subF x (s 7) hit), pk 7, subV x (s 7), p, g, pk 8, subV y (s 8), p, g)) := by
  unfold f_Ax K_Ax
  rw [h, Option.bind_some]
  simp only [show ((0 : Int) != 0) = false from rfl, cond_false, straight7, straight8, Option.bind_some]
theorem hor_bad (s : Nat → Int) (a b c v0 v1 v2 p r g : Int) (hit : Bool) (f0 f1 f2 f3 f4 : Int) (h : f_As a b c f0 f1 f2 f3 f4 hit = some (0, 0, 0, 1, hit)) :
    f_Ax s a b c v0 v1 v2 p r g hit f0 f1 f2 f3 f4 = some (Sum.inl (1, hit)) := by
  unfold f_Ax K_Ax
  rw [h, Option.bind_some]
  rfl
theorem doc_hor (s : Nat → Int) (x y z p g : Int) (hit : Bool) : f_BP s x y z p g hit = some (subF y (s 8) (subF x (s 7) hit), pk 7, subV x (s 7), p, g, pk 8, subV y (s 8)) := by
  unfold f_BP K_BP
  simp only [doc7, doc8, doc_sub, Option.bind_some]
def four (p : Int) : Int := if 4 * sat p < 1 then 1 else if 72057594037927936 < 4 * sat p then 72057594037927936 else 4 * sat p
theorem fx_clampD (a : Int) (hit : Bool) : ∃ u, f_Aj a 1 72057594037927936 hit = some (if a < 1 then 1 else if 72057594037927936 < a then 72057594037927936 else a, u) := by
  unfold f_Aj K_Aj
  rw [show decide ((1 : Int) > 72057594037927936) = false from rfl, cond_false]
  by_cases h1 : a < 1
  · rw [decide_eq_true h1, cond_true, if_pos h1]; exact ⟨_, rfl⟩
  · rw [decide_eq_false h1, cond_false, if_neg h1]
    by_cases h2 : a > 72057594037927936
    · rw [decide_eq_true h2, cond_true, if_pos h2]; exact ⟨_, rfl⟩
    · rw [decide_eq_false h2, cond_false, if_neg h2]; exact ⟨_, rfl⟩
theorem height_eq (s : Nat → Int) (a b c v0 v1 v2 p r g : Int) (hit : Bool) (f0 f1 f2 f3 f4 x y z : Int) (h : f_As a b c f0 f1 f2 f3 f4 hit = some (x, y, z, 0, hit)) :
    f_Au s a b c v0 v1 v2 p r g hit f0 f1 f2 f3 f4 = some (pk 9, subV z (s 9), four p, g, 0, subF z (s 9) hit) := by
  unfold f_Au K_Au
  rw [h, Option.bind_some]
  simp only [show ((0 : Int) != 0) = false from rfl, cond_false]
  rw [acc_add 4 (by omega), Option.bind_some]
  have e : sumF (fun j => sat (bif Nat.beq j 3 then p else bif Nat.beq j 2 then p else bif Nat.beq j 1 then p else bif Nat.beq j 0 then p else p)) 4 = 4 * sat p := by
    have : (fun (j : Nat) => sat (bif Nat.beq j 3 then p else bif Nat.beq j 2 then p else bif Nat.beq j 1 then p else bif Nat.beq j 0 then p else p)) = fun _ => sat p := by
      funext j
      cases Nat.beq j 3 <;> cases Nat.beq j 2 <;> cases Nat.beq j 1 <;> cases Nat.beq j 0 <;> rfl
    rw [this]
    simp only [sumF]; omega
  simp only [e]
  obtain ⟨u, hu⟩ := fx_clampD (sat (4 * sat p)) ((false || anyF (fun j => over (bif Nat.beq j 3 then p else bif Nat.beq j 2 then p else bif Nat.beq j 1 then p else bif Nat.beq j 0 then p else p)) 4) || over (4 * sat p))
  rw [hu, Option.bind_some]
  simp only [straight9, Option.bind_some]
  have k : (if sat (4 * sat p) < 1 then (1 : Int) else if 72057594037927936 < sat (4 * sat p) then 72057594037927936 else sat (4 * sat p)) = four p := by
    unfold four
    have sp := sat_le p
    generalize sat p = q at sp
    unfold sat
    by_cases c1 : 4 * q < -1152921504606846976
    · rw [if_pos c1, if_pos (by omega), if_pos (by omega)]
    · rw [if_neg c1]
      by_cases c2 : 1152921504606846976 < 4 * q
      · rw [if_pos c2, if_neg (by omega), if_pos (by omega), if_neg (by omega), if_pos (by omega)]
      · rw [if_neg c2]
  rw [k]
theorem height_bad (s : Nat → Int) (a b c v0 v1 v2 p r g : Int) (hit : Bool) (f0 f1 f2 f3 f4 : Int) (h : f_As a b c f0 f1 f2 f3 f4 hit = some (0, 0, 0, 1, hit)) :
    f_Au s a b c v0 v1 v2 p r g hit f0 f1 f2 f3 f4 = some (fun (_ : Nat) => 0, 0, 0, 0, 1, hit) := by
  unfold f_Au K_Au
  rw [h, Option.bind_some]
  rfl
theorem doc_height (s : Nat → Int) (x y z p g : Int) (hit : Bool) : f_Ba s x y z p g hit = some (pk 9, subV z (s 9), four p, g, subF z (s 9) hit) := by
  unfold f_Ba K_Ba
  rw [doc9, Option.bind_some, doc_sub, Option.bind_some, ref_clamp p _ _ _ (by decide), Option.bind_some]
  simp only
  rw [ref_clamp _ _ _ _ (by decide), Option.bind_some]
  have k : IntKind.wrap .i64 (4 * if p < -72057594037927936 then -72057594037927936 else if 72057594037927936 < p then 72057594037927936 else p) = 4 * if p < -72057594037927936 then -72057594037927936 else if 72057594037927936 < p then 72057594037927936 else p := by
    refine wrap_i64 ?_ ?_ <;> (repeat' split) <;> omega
  have e : (if (4 * if p < -72057594037927936 then -72057594037927936 else if 72057594037927936 < p then 72057594037927936 else p) < 1 then (1 : Int) else if 72057594037927936 < (4 * if p < -72057594037927936 then -72057594037927936 else if 72057594037927936 < p then 72057594037927936 else p) then 72057594037927936 else (4 * if p < -72057594037927936 then -72057594037927936 else if 72057594037927936 < p then 72057594037927936 else p)) = four p := by
    unfold four sat
    (repeat' split) <;> omega
  simp only [k, e]
theorem bind_eq {α β : Type} {x : Option α} {a : α} (h : x = some a) {K : α → Option β} {r : Option β} (hk : K a = r) : Option.bind x K = r := by rw [h]; exact hk
theorem new_bad (a b c : Int) (h : f_AK a b c = some false ∨ (f_AK a b c = some true ∧ (a > 850000000 ∨ a < -850000000))) : f_Ar a b c = some (Sum.inl ()) := by
  unfold f_Ar K_Ar
  rcases h with h | ⟨h, l⟩
  · rw [h]; rfl
  · rw [h, Option.bind_some, Bool.not_true, cond_false]
    by_cases c : a > 850000000
    · rw [decide_eq_true c, cond_true]
    · rw [decide_eq_false c, cond_false, decide_eq_true (by omega), cond_true]
theorem new_cases (a b c : Int) : f_Ar a b c = some (Sum.inl ()) ∨ (GoodP a b c ∧ ∃ n e, f_Ar a b c = some (Sum.inr (a, b, c, n, e)) ∧ f_Ai a = some (n, e) ∧ 0 ≤ n ∧ n ≤ 13000000000 ∧ -13000000000 ≤ e ∧ e ≤ 13000000000) := by
  obtain ⟨g, hg⟩ := t_good a b c
  cases g with
  | false => exact Or.inl (new_bad a b c (Or.inl hg))
  | true =>
    by_cases l : -850000000 ≤ a ∧ a ≤ 850000000
    · obtain ⟨n, e, h1, h2, b⟩ := scales_same a b c (good_p hg) l.1 l.2
      exact Or.inr ⟨good_p hg, n, e, h1, h2, b⟩
    · exact Or.inl (new_bad a b c (Or.inr ⟨hg, by omega⟩))
theorem to_bad (x y z f0 f1 f2 f3 f4 : Int) (hit : Bool) (h : f_AK x y z = some false) : f_As x y z f0 f1 f2 f3 f4 hit = some (0, 0, 0, 1, hit) := by
  unfold f_As K_As
  rw [h]; rfl
theorem gnss_aw : f_Bd = some true := by kernel_rfl
end Go.Proofs.Ytdpenjncfmkbgaa
set_option maxRecDepth 100000
set_option maxHeartbeats 4000000
set_option linter.unusedVariables false
set_option linter.unusedSimpArgs false
namespace Go.Proofs.Ytdpenjncfmkbgaa
open Go.Ab
theorem same_refl (n : Nat) (hn : n ≤ 100) (a0 a1 a2 a3 a4 a5 a6 a7 a8 a9 a10 a11 a12 a13 a14 a15 a16 a17 a18 a19 a20 a21 a22 a23 a24 a25 a26 : Nat → Int) : f_Ae n n a0 a1 a2 a3 a4 a5 a6 a7 a8 a9 a10 a11 a12 a13 a14 a15 a16 a17 a18 a19 a20 a21 a22 a23 a24 a25 a26 a0 a1 a2 a3 a4 a5 a6 a7 a8 a9 a10 a11 a12 a13 a14 a15 a16 a17 a18 a19 a20 a21 a22 a23 a24 a25 a26 true true = some true := by
  unfold f_Ae K_Ae
  rw [bne_self_eq_false, cond_false]
  unfold L_Ae_0
  refine loopK_inv (fun t d => ∃ i : Nat, i + t = n ∧ d = (n, true, n, true, (i : Int), n, a0, a1, a2, a3, a4, a5, a6, a7, a8, a9, a10, a11, a12, a13, a14, a15, a16, a17, a18, a19, a20, a21, a22, a23, a24, a25, a26, n, a0, a1, a2, a3, a4, a5, a6, a7, a8, a9, a10, a11, a12, a13, a14, a15, a16, a17, a18, a19, a20, a21, a22, a23, a24, a25, a26)) ?_ 200 n _ (by omega) ⟨0, by omega, rfl⟩
  rintro t _ c ⟨i, hi, rfl⟩ hc
  unfold S_Ae_0
  by_cases z : t = 0
  · have e : decide ((i : Int) < Int.ofNat n) = false := decide_eq_false (by simp only [Int.ofNat_eq_natCast]; omega)
    simp only [e, cond_false]
    rfl
  · have e : decide ((i : Int) < Int.ofNat n) = true := decide_eq_true (by simp only [Int.ofNat_eq_natCast]; omega)
    have e3 : inR (i : Int) n = true := by simp only [inR, Bool.and_eq_true, decide_eq_true_eq]; omega
    have e4 : IntKind.wrap .i64 ((i : Int) + 1) = ((i + 1 : Nat) : Int) := by
      rw [wrap_i64 (by omega) (by omega)]; rfl
    have ea : (allN 24 fun (_ : Nat) => true) = true := by kernel_rfl
    simp only [e, e3, e4, cond_true, cond_false, beq_self_eq_true, bne_self_eq_false, ea, Bool.not_true]
    exact hc (t - 1) _ (by omega) ⟨i + 1, by omega, rfl⟩
theorem gnssSays_plain (x0 : Nat → Int) (x1 x2 x3 x4 x5 x6 x7 x8 x9 x10 x11 x12 : Int) : f_Be x0 x1 x2 x3 x4 x5 x6 x7 x8 x9 x10 x11 x12 = some true := by
  unfold f_Be K_Be
  rw [gnss_aw, Option.bind_some, Bool.not_true, cond_false, vel_eq, Option.bind_some, doc_vel, Option.bind_some]
  refine bind_eq (same_refl 3 (by omega) _ _ _ _ _ _ _ _ _ _ _ _ _ _ _ _ _ _ _ _ _ _ _ _ _ _ _) ?_
  have bb : ∀ b : Bool, (!b == b) = false := fun b => by cases b <;> rfl
  simp only [Bool.not_true, cond_false, bb]
  rcases new_cases x9 x10 x11 with h | ⟨F, n, e, h, hs, n1, n2, e1, e2⟩
  · rw [h]; rfl
  rw [h]
  simp only [Option.bind_some, cond_false]
  obtain ⟨g, hg⟩ := t_good x1 x2 x3
  cases g with
  | false =>
    have t := to_bad x1 x2 x3 x9 x10 x11 n e false hg
    rw [hor_bad x0 x1 x2 x3 x4 x5 x6 x7 x8 x12 false x9 x10 x11 n e t, height_bad x0 x1 x2 x3 x4 x5 x6 x7 x8 x12 false x9 x10 x11 n e t, hg]
    rfl
  | true =>
    have t := to_full x1 x2 x3 x9 x10 x11 n e false (good_p hg) F (by omega) n2 e1 e2
    have t' := fun hit => ref_To x9 x10 x11 x1 x2 x3 n e hit F (good_p hg) hs (by omega) n2 e1 e2
    generalize rnd ((x1 - x9) * n) 10 = p at t t'
    generalize rnd (redL (x2 - x10) * e) 10 = q at t t'
    generalize rdq ((x11 - x3) * 1073741824) 1000 = r at t t'
    rw [hor_eq x0 x1 x2 x3 x4 x5 x6 x7 x8 x12 false x9 x10 x11 n e p q r t, height_eq x0 x1 x2 x3 x4 x5 x6 x7 x8 x12 false x9 x10 x11 n e p q r t, hg, t']
    simp only [Option.bind_some, cond_false, Bool.not_true, doc_hor, show ((0 : Int) != 0) = false from rfl]
    refine bind_eq (same_refl 2 (by omega) _ _ _ _ _ _ _ _ _ _ _ _ _ _ _ _ _ _ _ _ _ _ _ _ _ _ _) ?_
    simp only [Bool.not_true, cond_false, bb, t', Option.bind_some, doc_height]
    refine bind_eq (same_refl 1 (by omega) _ _ _ _ _ _ _ _ _ _ _ _ _ _ _ _ _ _ _ _ _ _ _ _ _ _ _) ?_
    simp only [cond_true, beq_self_eq_true]
theorem gnssSays_ev (f : (Nat → Int) → (Int) → (Int) → (Int) → (Int) → (Int) → (Int) → (Int) → (Int) → (Int) → (Int) → (Int) → (Int) → Option Bool) (x0_0_0 : Nat → Int) (x1_0 : Int) (x1_1 : Int) (x1_2 : Int) (x1_3 : Int) (x1_4 : Int) (x1_5 : Int) (x1_6 : Int) (x1_7 : Int) (x2_0 : Int) (x2_1 : Int) (x2_2 : Int) (x3_0 : Int) : F_Be f [.r (.agg [.a (.l 24) [.i .i64 x0_0_0]]), .r (.agg [.c (.f (.i .i64 x1_0)), .c (.f (.i .i64 x1_1)), .c (.f (.i .i64 x1_2)), .c (.f (.i .i64 x1_3)), .c (.f (.i .i64 x1_4)), .c (.f (.i .i64 x1_5)), .c (.f (.i .i64 x1_6)), .c (.f (.i .i64 x1_7))]), .r (.agg [.c (.f (.i .i64 x2_0)), .c (.f (.i .i64 x2_1)), .c (.f (.i .i64 x2_2))]), .r (.c (.f (.i .i64 x3_0)))] [] = .opt (f x0_0_0 x1_0 x1_1 x1_2 x1_3 x1_4 x1_5 x1_6 x1_7 x2_0 x2_1 x2_2 x3_0) fun d => .leaf ⟨.r (.c (.f (.b d))), [], []⟩ := by kernel_rfl
theorem gnssSays_trues : Trues (F_Be f_Be) [.flat true [.a 24 [.i .i64]], .flat true [.c (.i .i64), .c (.i .i64), .c (.i .i64), .c (.i .i64), .c (.i .i64), .c (.i .i64), .c (.i .i64), .c (.i .i64)], .flat true [.c (.i .i64), .c (.i .i64), .c (.i .i64)], .flat false [.c (.i .i64)]] := fun ds h => by
  obtain ⟨_, _, rfl, q0_0, g0⟩ := fit_flat h
  obtain ⟨_, _, rfl, p0_0_0, q0_1⟩ := f1_a q0_0
  obtain ⟨x0_0_0, _, rfl, r0_0_0, p0_0_1⟩ := col_i p0_0_0
  obtain rfl := col_nil p0_0_1
  obtain rfl := f1_nil q0_1
  obtain ⟨_, _, rfl, q1_0, g1⟩ := fit_flat g0
  obtain ⟨x1_0, _, rfl, r1_0, q1_1⟩ := f1_i q1_0
  obtain ⟨x1_1, _, rfl, r1_1, q1_2⟩ := f1_i q1_1
  obtain ⟨x1_2, _, rfl, r1_2, q1_3⟩ := f1_i q1_2
  obtain ⟨x1_3, _, rfl, r1_3, q1_4⟩ := f1_i q1_3
  obtain ⟨x1_4, _, rfl, r1_4, q1_5⟩ := f1_i q1_4
  obtain ⟨x1_5, _, rfl, r1_5, q1_6⟩ := f1_i q1_5
  obtain ⟨x1_6, _, rfl, r1_6, q1_7⟩ := f1_i q1_6
  obtain ⟨x1_7, _, rfl, r1_7, q1_8⟩ := f1_i q1_7
  obtain rfl := f1_nil q1_8
  obtain ⟨_, _, rfl, q2_0, g2⟩ := fit_flat g1
  obtain ⟨x2_0, _, rfl, r2_0, q2_1⟩ := f1_i q2_0
  obtain ⟨x2_1, _, rfl, r2_1, q2_2⟩ := f1_i q2_1
  obtain ⟨x2_2, _, rfl, r2_2, q2_3⟩ := f1_i q2_2
  obtain rfl := f1_nil q2_3
  obtain ⟨_, _, rfl, q3_0, g3⟩ := fit_flat g2
  obtain ⟨x3_0, _, rfl, r3_0, q3_1⟩ := f1_i q3_0
  obtain rfl := f1_nil q3_1
  obtain rfl := fit_nil g3
  refine ⟨[], (congrArg T.eval (gnssSays_ev f_Be x0_0_0 x1_0 x1_1 x1_2 x1_3 x1_4 x1_5 x1_6 x1_7 x2_0 x2_1 x2_2 x3_0)).trans ?_⟩
  rw [gnssSays_plain x0_0_0 x1_0 x1_1 x1_2 x1_3 x1_4 x1_5 x1_6 x1_7 x2_0 x2_1 x2_2 x3_0]
  rfl
set_option maxRecDepth 100000 in
theorem gnssSays_lifted (os : Os) (started : os.Started) (H : Type) (enc : TypeId × Value → H) :
    ReturnsInHanded {} Try.checked os 5 .any (Rows.gnssSaysSpec.pre6 enc Try.prog Try.f5 Rows.gnssSaysRow.domain false) (Rows.gnssSaysSpec.post enc Try.prog Try.f5 false true false false) :=
  law_lift (C := Try.checked) (tb := Try.f5.resultTypes.getD 0 0) own started (by kernel_rfl) Try.func5 laid (by kernel_rfl) (by kernel_rfl) (by kernel_rfl) rfl
    (fun ds h => by
      have h : ds.length = 4 := h.trans (by kernel_rfl)
      match ds, h with
      | [_, _, _, _], _ => rfl)
    (ChangeSpec.witness6 (enc := enc) (C := Try.checked) false ⟨#[], #[.agg #[.int .i64 0, .int .i64 0, .int .i64 0, .int .i64 0, .int .i64 0, .int .i64 0, .int .i64 0, .int .i64 0, .int .i64 0, .int .i64 0, .int .i64 0, .int .i64 0, .int .i64 0, .int .i64 0, .int .i64 0, .int .i64 0, .int .i64 0, .int .i64 0, .int .i64 0, .int .i64 0, .int .i64 0, .int .i64 0, .int .i64 0, .int .i64 0], .agg #[.int .i64 0, .int .i64 0, .int .i64 0, .int .i64 0, .int .i64 0, .int .i64 0, .int .i64 0, .int .i64 0], .agg #[.int .i64 0, .int .i64 0, .int .i64 0], .int .i64 0], []⟩ 8 (by kernel_rfl) (by kernel_rfl) (by kernel_rfl) (by kernel_rfl))
    (fun W base args ds ps _ hval ht _ _ _ => prm_calls (pr := [.flat true [.a 24 [.i .i64]], .flat true [.c (.i .i64), .c (.i .i64), .c (.i .i64), .c (.i .i64), .c (.i .i64), .c (.i .i64), .c (.i .i64), .c (.i .i64)], .flat true [.c (.i .i64), .c (.i .i64), .c (.i .i64)], .flat false [.c (.i .i64)]]) s_Be (by kernel_rfl) (ts := Try.f5.params.toList) (by kernel_rfl) gnssSays_trues hval ht)
theorem gnssSays_over : Rows.gnssSaysRow.holds Try.pinned (OpenSpec.ofChange Rows.gnssSaysSpec) :=
  OpenClaim.holds_of_wide 5 Try.f5 rfl rfl rfl rfl rfl rfl rfl ⟨rfl, rfl, rfl, rfl, rfl⟩ rfl rfl rfl rfl rfl (by kernel_rfl) Try.func5 (by kernel_rfl)
    (of_decide_eq_true (by kernel_rfl)) (by unfold Func.isWrapper; first | (rw [if_pos (by decide +kernel)]; kernel_rfl) | (rw [if_neg (by decide +kernel)]; exact ⟨rfl, rfl⟩))
    (fun os started H enc _ => gnssSays_lifted os started H enc)
theorem gnssSays_proved : Rows.GnssSaysSaid := gnssSays_over
#print axioms gnssSays_proved
end Go.Proofs.Ytdpenjncfmkbgaa
