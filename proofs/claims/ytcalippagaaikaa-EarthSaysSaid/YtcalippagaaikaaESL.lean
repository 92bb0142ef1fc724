/-
  The document's sine, cosine, and a frame's scales are the program's. The document's place on the plane is the program's. Chapter 8: EarthSays: the statement of astrolabelaw8.EarthSays.
-/
import Derived.Test.YtcalippagaaikaaZG
import Derived.Test.YtcalippagaaikaaZD
set_option maxRecDepth 100000
set_option maxHeartbeats 4000000
set_option linter.unusedVariables false
set_option linter.unusedSimpArgs false
namespace Go.Proofs.Ytcalippagaaikaa
open Go.Ab
def stepV (k z s : Int) : Int := sat (sat k + sat (sat (rnd (sat z * sat s) 30)))
def serV (P : Nat → Int) (z : Int) : Nat → Int
  | 0 => P 0
  | i + 1 => stepV (P (i + 1)) z (serV P z i)
def PA : Nat → Int := fun (j : Nat) => bif Nat.beq j 5 then 1073741824 else bif Nat.beq j 4 then -178956971 else bif Nat.beq j 3 then 8947849 else bif Nat.beq j 2 then -213044 else bif Nat.beq j 1 then 2959 else bif Nat.beq j 0 then -27 else -27
def PB : Nat → Int := fun (j : Nat) => bif Nat.beq j 6 then 1073741824 else bif Nat.beq j 5 then -536870912 else bif Nat.beq j 4 then 44739243 else bif Nat.beq j 3 then -1491308 else bif Nat.beq j 2 then 26631 else bif Nat.beq j 1 then -296 else bif Nat.beq j 0 then 2 else 2
theorem series_val (x : Int) (n : Nat) (hit : Bool) (P : Nat → Int) (h1 : 1 ≤ n) (h2 : n ≤ 150) : ∃ u, f_AP x n hit P true = some (serV P x (n - 1), u) := by
  obtain ⟨⟨v, u⟩, e⟩ := t_series x n hit P true h1 h2
  have p := series_post x n hit P true (serV P x) (serV P x) h1 h2 ⟨Int.le_refl _, Int.le_refl _⟩ (fun i v _ l1 l2 => by
    have : v = serV P x i := Int.le_antisymm l2 l1
    subst this
    exact ⟨Int.le_refl _, Int.le_refl _⟩) _ e
  have : v = serV P x (n - 1) := Int.le_antisymm p.2 p.1
  exact ⟨u, this ▸ e⟩
theorem loopK_q {D X ρ : Type} {Q : Option ρ → Prop} {s : D → (D → Option ρ) → (X → Option ρ) → Option ρ} {k : X → Option ρ} (Inv : Nat → D → Prop)
    (h : ∀ t d c, Inv t d → (∀ t' d', t' < t → Inv t' d' → Q (c d')) → Q (s d c k)) : ∀ (fuel t : Nat) (d : D), t < fuel → Inv t d → Q (loopK s fuel d k)
  | 0, t, d, hf, hd => by omega
  | fuel + 1, t, d, hf, hd => by
    rw [loopK_succ]
    exact h t d _ hd fun t' d' ht hd' => loopK_q Inv h fuel t' d' (by omega) hd'
theorem add_M (k z s : Int) (hit : Bool) {ρ : Type} (c : Int × Bool → Option ρ) : ∃ u, (Option.bind (f_AE z s hit) fun (d : Int × Bool) => Option.bind (f_AI k d.1 d.2) c) = c (stepV k z s, u) := by
  rw [ref_M, Option.bind_some]
  simp only [ref_add, Option.bind_some]
  exact ⟨_, rfl⟩
theorem ref_loopB {ρ : Type} (w z : Int) (hit : Bool) (k : _ → Option ρ) : ∃ u, L_Z_0 (w, z, 2, 0, hit) k = k (w, z, serV PB z 6, 6, false, u) := by
  unfold L_Z_0
  refine loopK_q (Q := fun o => ∃ u, o = k (w, z, serV PB z 6, 6, false, u)) (fun t d => ∃ (i : Nat) (u : Bool), i + t = 6 ∧ d = (w, z, serV PB z i, (i : Int), u)) ?_ 200 6 _ (by omega) ⟨0, hit, by omega, rfl⟩
  rintro t _ c ⟨i, u, hi, rfl⟩ hc
  have go : ∀ (m : Int) (j : Nat) (hj : j = i + 1) (h6 : j ≤ 6) (hm : stepV m z (serV PB z i) = serV PB z j) (e : S_Z_0 f_AA f_AU f_AE f_AI f_AJ w z (serV PB z i) (i : Int) u c k = Option.bind (f_AE z (serV PB z i) u) fun (d : Int × Bool) => Option.bind (f_AI m d.1 d.2) fun (d : Int × Bool) => c (w, z, d.1, (j : Int), d.2)),
      ∃ u', S_Z_0 f_AA f_AU f_AE f_AI f_AJ w z (serV PB z i) (i : Int) u c k = k (w, z, serV PB z 6, 6, false, u') := by
    intro m j hj h6 hm e
    obtain ⟨u2, h2⟩ := add_M m z (serV PB z i) u fun (d : Int × Bool) => c (w, z, d.1, (j : Int), d.2)
    rw [e, h2, hm]
    exact hc (6 - j) _ (by omega) ⟨j, u2, by omega, rfl⟩
  have hcase : i = 0 ∨ i = 1 ∨ i = 2 ∨ i = 3 ∨ i = 4 ∨ i = 5 ∨ i = 6 := by omega
  rcases hcase with rfl | rfl | rfl | rfl | rfl | rfl | rfl
  · exact go (-296) 1 rfl (by omega) rfl (by kernel_rfl)
  · exact go 26631 2 rfl (by omega) rfl (by kernel_rfl)
  · exact go (-1491308) 3 rfl (by omega) rfl (by kernel_rfl)
  · exact go 44739243 4 rfl (by omega) rfl (by kernel_rfl)
  · exact go (-536870912) 5 rfl (by omega) rfl (by kernel_rfl)
  · exact go 1073741824 6 rfl (by omega) rfl (by kernel_rfl)
  · exact ⟨u, by kernel_rfl⟩
theorem ref_loopA {ρ : Type} (w z : Int) (hit : Bool) (k : _ → Option ρ) : ∃ u, L_Z_1 (w, z, -27, 0, hit) k = k (w, z, serV PA z 5, 5, false, u) := by
  unfold L_Z_1
  refine loopK_q (Q := fun o => ∃ u, o = k (w, z, serV PA z 5, 5, false, u)) (fun t d => ∃ (i : Nat) (u : Bool), i + t = 5 ∧ d = (w, z, serV PA z i, (i : Int), u)) ?_ 200 5 _ (by omega) ⟨0, hit, by omega, rfl⟩
  rintro t _ c ⟨i, u, hi, rfl⟩ hc
  have go : ∀ (m : Int) (j : Nat) (hj : j = i + 1) (h6 : j ≤ 5) (hm : stepV m z (serV PA z i) = serV PA z j) (e : S_Z_1 f_AA f_AU f_AE f_AI f_AJ w z (serV PA z i) (i : Int) u c k = Option.bind (f_AE z (serV PA z i) u) fun (d : Int × Bool) => Option.bind (f_AI m d.1 d.2) fun (d : Int × Bool) => c (w, z, d.1, (j : Int), d.2)),
      ∃ u', S_Z_1 f_AA f_AU f_AE f_AI f_AJ w z (serV PA z i) (i : Int) u c k = k (w, z, serV PA z 5, 5, false, u') := by
    intro m j hj h6 hm e
    obtain ⟨u2, h2⟩ := add_M m z (serV PA z i) u fun (d : Int × Bool) => c (w, z, d.1, (j : Int), d.2)
    rw [e, h2, hm]
    exact hc (5 - j) _ (by omega) ⟨j, u2, by omega, rfl⟩
  have hcase : i = 0 ∨ i = 1 ∨ i = 2 ∨ i = 3 ∨ i = 4 ∨ i = 5 := by omega
  rcases hcase with rfl | rfl | rfl | rfl | rfl | rfl
  · exact go 2959 1 rfl (by omega) rfl (by kernel_rfl)
  · exact go (-213044) 2 rfl (by omega) rfl (by kernel_rfl)
  · exact go 8947849 3 rfl (by omega) rfl (by kernel_rfl)
  · exact go (-178956971) 4 rfl (by omega) rfl (by kernel_rfl)
  · exact go 1073741824 5 rfl (by omega) rfl (by kernel_rfl)
  · exact ⟨u, by kernel_rfl⟩
def clampV (v : Int) : Int := if 1073741824 < if -1073741824 > v then -1073741824 else v then 1073741824 else if -1073741824 > v then -1073741824 else v
theorem ref_clampV (v : Int) : ∃ u, f_AJ v (-1073741824) 1073741824 false = some (clampV v, u) := by
  rw [ref_clamp v _ _ false (by decide)]
  refine ⟨_, congrArg some (Prod.ext ?_ rfl)⟩
  unfold clampV
  by_cases c : v < -1073741824
  · rw [if_pos c, if_pos (show -1073741824 > v from c)]; rfl
  · rw [if_neg c, if_neg (show ¬ -1073741824 > v from c)]
def sinV (y : Int) : Int :=
  if mgq y ≤ 843314857 then clampV (sat (rnd (sat y * sat (serV PA (sat (rnd (sat y * sat y) 30)) 5)) 30))
  else if y < 0 then clampV (-(serV PB (sat (rnd (sat (1686629713 - mgq y) * sat (1686629713 - mgq y)) 30)) 6))
  else clampV (serV PB (sat (rnd (sat (1686629713 - mgq y) * sat (1686629713 - mgq y)) 30)) 6)
theorem abs_eq (x : Int) (h1 : -1152921504606846976 < x) (h2 : x < 1152921504606846976) : f_BJ x = some (mgq x) := by
  unfold f_BJ K_BJ mgq
  rw [decide_eq_false (by omega), cond_false, decide_eq_false (by omega), cond_false]
  by_cases c : x < 0
  · rw [decide_eq_true c, cond_true, if_pos c, wrap_i64 (by omega) (by omega), Int.zero_sub]
  · rw [decide_eq_false c, cond_false, if_neg c]
def ptail (y : Int) (hit : Bool) : Option (Int × Bool) :=
  Option.bind (f_BJ y) fun (d_2 : Int) =>
    bif decide (d_2 ≤ 843314857) then
      Option.bind (f_Af y y hit) fun (d : Int × Bool) =>
        Option.bind (f_AP d.1 6 d.2 PA true) fun (d : Int × Bool) =>
          Option.bind (f_Af y d.1 d.2) fun (d : Int × Bool) => some (clampV d.1, d.2)
    else
      Option.bind (f_Af (IntKind.wrap IntKind.i64 (1686629713 - d_2)) (IntKind.wrap IntKind.i64 (1686629713 - d_2)) hit) fun (d : Int × Bool) =>
        Option.bind (f_AP d.1 7 d.2 PB true) fun (d : Int × Bool) =>
          bif decide (y < 0) then some (clampV (IntKind.wrap IntKind.i64 (0 - d.1)), d.2)
          else some (clampV d.1, d.2)
theorem serV_bd (P : Nat → Int) (z : Int) (i : Nat) : -1152921504606846976 ≤ serV P z (i + 1) ∧ serV P z (i + 1) ≤ 1152921504606846976 := sat_le _
theorem ptail_eq (y : Int) (hit : Bool) (h1 : -1686629713 ≤ y) (h2 : y ≤ 1686629713) : ∃ u, ptail y hit = some (sinV y, u) := by
  unfold ptail sinV
  have m0 : 0 ≤ mgq y ∧ mgq y ≤ 1686629713 := by unfold mgq; split <;> omega
  rw [abs_eq y (by omega) (by omega), Option.bind_some]
  by_cases c : mgq y ≤ 843314857
  · rw [decide_eq_true c, cond_true, if_pos c]
    obtain ⟨u1, e1⟩ := m_eq y y hit
    rw [e1, Option.bind_some]
    obtain ⟨u2, e2⟩ := series_val (sat (rnd (sat y * sat y) 30)) 6 u1 PA (by omega) (by omega)
    simp only [e2, Option.bind_some]
    obtain ⟨u3, e3⟩ := m_eq y (serV PA (sat (rnd (sat y * sat y) 30)) 5) u2
    refine ⟨u3, ?_⟩
    show Option.bind (f_Af y (serV PA (sat (rnd (sat y * sat y) 30)) 5) u2) _ = _
    rw [e3, Option.bind_some]
  · rw [decide_eq_false c, cond_false, if_neg c, wrap_i64 (n := 1686629713 - mgq y) (by omega) (by omega)]
    generalize (1686629713 : Int) - mgq y = q
    obtain ⟨u1, e1⟩ := m_eq q q hit
    rw [e1, Option.bind_some]
    obtain ⟨u2, e2⟩ := series_val (sat (rnd (sat q * sat q) 30)) 7 u1 PB (by omega) (by omega)
    simp only [e2, Option.bind_some]
    have b : -1152921504606846976 ≤ serV PB (sat (rnd (sat q * sat q) 30)) 6 ∧ serV PB (sat (rnd (sat q * sat q) 30)) 6 ≤ 1152921504606846976 := serV_bd PB (sat (rnd (sat q * sat q) 30)) 5
    refine ⟨u2, ?_⟩
    by_cases d : y < 0
    · rw [decide_eq_true d, cond_true, if_pos d]
      show some (clampV (IntKind.wrap .i64 (0 - serV PB (sat (rnd (sat q * sat q) 30)) 6)), u2) = _
      rw [wrap_i64 (by omega) (by omega), Int.zero_sub]
    · rw [decide_eq_false d, cond_false, if_neg d]
def rtail (y : Int) (hit : Bool) : Option (Int × Bool) :=
  bif decide (y < 0) then
    bif decide (IntKind.wrap IntKind.i64 (0 - y) > 843314857) then
      Option.bind (f_AE (IntKind.wrap IntKind.i64 (1686629713 - IntKind.wrap IntKind.i64 (0 - y))) (IntKind.wrap IntKind.i64 (1686629713 - IntKind.wrap IntKind.i64 (0 - y))) hit) fun (d : Int × Bool) =>
        L_Z_0 (y, d.1, 2, 0, d.2) fun (d : Int × Int × Int × Int × Bool × Bool) =>
          bif decide (d.1 < 0) then Option.bind (f_AJ (IntKind.wrap IntKind.i64 (0 - d.2.2.1)) (-1073741824) 1073741824 false) fun (d_2 : Int × Bool) => some (d_2.1, d.2.2.2.2.2)
          else Option.bind (f_AJ d.2.2.1 (-1073741824) 1073741824 false) fun (d_2 : Int × Bool) => some (d_2.1, d.2.2.2.2.2)
    else
      Option.bind (f_AE y y hit) fun (d : Int × Bool) =>
        L_Z_1 (y, d.1, -27, 0, d.2) fun (d : Int × Int × Int × Int × Bool × Bool) =>
          Option.bind (f_AE d.1 d.2.2.1 d.2.2.2.2.2) fun (d : Int × Bool) =>
            Option.bind (f_AJ d.1 (-1073741824) 1073741824 false) fun (d_2 : Int × Bool) => some (d_2.1, d.2)
  else
    bif decide (y > 843314857) then
      Option.bind (f_AE (IntKind.wrap IntKind.i64 (1686629713 - y)) (IntKind.wrap IntKind.i64 (1686629713 - y)) hit) fun (d : Int × Bool) =>
        L_Z_0 (y, d.1, 2, 0, d.2) fun (d : Int × Int × Int × Int × Bool × Bool) =>
          bif decide (d.1 < 0) then Option.bind (f_AJ (IntKind.wrap IntKind.i64 (0 - d.2.2.1)) (-1073741824) 1073741824 false) fun (d_2 : Int × Bool) => some (d_2.1, d.2.2.2.2.2)
          else Option.bind (f_AJ d.2.2.1 (-1073741824) 1073741824 false) fun (d_2 : Int × Bool) => some (d_2.1, d.2.2.2.2.2)
    else
      Option.bind (f_AE y y hit) fun (d : Int × Bool) =>
        L_Z_1 (y, d.1, -27, 0, d.2) fun (d : Int × Int × Int × Int × Bool × Bool) =>
          Option.bind (f_AE d.1 d.2.2.1 d.2.2.2.2.2) fun (d : Int × Bool) =>
            Option.bind (f_AJ d.1 (-1073741824) 1073741824 false) fun (d_2 : Int × Bool) => some (d_2.1, d.2)
theorem rA (y : Int) (hit : Bool) : ∃ u, (Option.bind (f_AE y y hit) fun (d : Int × Bool) =>
        L_Z_1 (y, d.1, -27, 0, d.2) fun (d : Int × Int × Int × Int × Bool × Bool) =>
          Option.bind (f_AE d.1 d.2.2.1 d.2.2.2.2.2) fun (d : Int × Bool) =>
            Option.bind (f_AJ d.1 (-1073741824) 1073741824 false) fun (d_2 : Int × Bool) => some (d_2.1, d.2)) = some (clampV (sat (rnd (sat y * sat (serV PA (sat (rnd (sat y * sat y) 30)) 5)) 30)), u) := by
  rw [ref_M, Option.bind_some]
  obtain ⟨u2, e2⟩ := ref_loopA y (sat (rnd (sat y * sat y) 30)) (hit || over y || over y || over (rnd (sat y * sat y) 30)) fun (d : Int × Int × Int × Int × Bool × Bool) =>
          Option.bind (f_AE d.1 d.2.2.1 d.2.2.2.2.2) fun (d : Int × Bool) =>
            Option.bind (f_AJ d.1 (-1073741824) 1073741824 false) fun (d_2 : Int × Bool) => some (d_2.1, d.2)
  simp only
  rw [e2]
  simp only
  rw [ref_M, Option.bind_some]
  obtain ⟨u3, e3⟩ := ref_clampV (sat (rnd (sat y * sat (serV PA (sat (rnd (sat y * sat y) 30)) 5)) 30))
  simp only [e3, Option.bind_some]
  exact ⟨_, rfl⟩
theorem rB (y q : Int) (hit : Bool) : ∃ u, (Option.bind (f_AE q q hit) fun (d : Int × Bool) =>
        L_Z_0 (y, d.1, 2, 0, d.2) fun (d : Int × Int × Int × Int × Bool × Bool) =>
          bif decide (d.1 < 0) then Option.bind (f_AJ (IntKind.wrap IntKind.i64 (0 - d.2.2.1)) (-1073741824) 1073741824 false) fun (d_2 : Int × Bool) => some (d_2.1, d.2.2.2.2.2)
          else Option.bind (f_AJ d.2.2.1 (-1073741824) 1073741824 false) fun (d_2 : Int × Bool) => some (d_2.1, d.2.2.2.2.2)) = some (if y < 0 then clampV (-(serV PB (sat (rnd (sat q * sat q) 30)) 6)) else clampV (serV PB (sat (rnd (sat q * sat q) 30)) 6), u) := by
  rw [ref_M, Option.bind_some]
  obtain ⟨u2, e2⟩ := ref_loopB y (sat (rnd (sat q * sat q) 30)) (hit || over q || over q || over (rnd (sat q * sat q) 30)) fun (d : Int × Int × Int × Int × Bool × Bool) =>
          bif decide (d.1 < 0) then Option.bind (f_AJ (IntKind.wrap IntKind.i64 (0 - d.2.2.1)) (-1073741824) 1073741824 false) fun (d_2 : Int × Bool) => some (d_2.1, d.2.2.2.2.2)
          else Option.bind (f_AJ d.2.2.1 (-1073741824) 1073741824 false) fun (d_2 : Int × Bool) => some (d_2.1, d.2.2.2.2.2)
  simp only
  rw [e2]
  simp only
  have b : -1152921504606846976 ≤ serV PB (sat (rnd (sat q * sat q) 30)) 6 ∧ serV PB (sat (rnd (sat q * sat q) 30)) 6 ≤ 1152921504606846976 := serV_bd PB (sat (rnd (sat q * sat q) 30)) 5
  refine ⟨u2, ?_⟩
  by_cases d : y < 0
  · rw [decide_eq_true d, cond_true, if_pos d, wrap_i64 (by omega) (by omega), Int.zero_sub]
    obtain ⟨u3, e3⟩ := ref_clampV (-(serV PB (sat (rnd (sat q * sat q) 30)) 6))
    rw [e3, Option.bind_some]
  · rw [decide_eq_false d, cond_false, if_neg d]
    obtain ⟨u3, e3⟩ := ref_clampV (serV PB (sat (rnd (sat q * sat q) 30)) 6)
    rw [e3, Option.bind_some]
theorem rtail_eq (y : Int) (hit : Bool) (h1 : -1686629713 ≤ y) (h2 : y ≤ 1686629713) : ∃ u, rtail y hit = some (sinV y, u) := by
  unfold rtail sinV
  by_cases c : y < 0
  · have g : mgq y = -y := by unfold mgq; rw [if_pos c]
    rw [decide_eq_true c, cond_true, wrap_i64 (n := 0 - y) (by omega) (by omega), Int.zero_sub, g, wrap_i64 (n := 1686629713 - -y) (by omega) (by omega)]
    by_cases d : -y ≤ 843314857
    · rw [decide_eq_false (show ¬ -y > 843314857 by omega), cond_false, if_pos d]
      exact rA y hit
    · rw [decide_eq_true (show -y > 843314857 by omega), cond_true, if_neg d]
      exact rB y (1686629713 - -y) hit
  · have g : mgq y = y := by unfold mgq; rw [if_neg c]
    rw [decide_eq_false c, cond_false, g, wrap_i64 (n := 1686629713 - y) (by omega) (by omega)]
    by_cases d : y ≤ 843314857
    · rw [decide_eq_false (show ¬ y > 843314857 by omega), cond_false, if_pos d]
      exact rA y hit
    · rw [decide_eq_true (show y > 843314857 by omega), cond_true, if_neg d]
      exact rB y (1686629713 - y) hit
theorem wrap_same (x : Int) : ∃ w, f_At x = some w ∧ f_AU x = some w ∧ -3373259426 < w ∧ w ≤ 3373259426 := by
  unfold f_At K_At f_AU K_AU
  have t1 : -6746518852 < Int.tmod x 6746518852 ∧ Int.tmod x 6746518852 < 6746518852 := by
    rcases Int.lt_or_le x 0 with c | c
    · have e : Int.tmod (-x) 6746518852 = -Int.tmod x 6746518852 := Int.neg_tmod ..
      have a1 := Int.tmod_lt_of_pos (-x) (show (0 : Int) < 6746518852 by omega)
      have a2 := Int.tmod_nonneg 6746518852 (show 0 ≤ -x by omega)
      omega
    · have a1 := Int.tmod_lt_of_pos x (show (0 : Int) < 6746518852 by omega)
      have a2 := Int.tmod_nonneg 6746518852 c
      omega
  generalize Int.tmod x 6746518852 = t at t1
  by_cases c : t > 3373259426
  · rw [decide_eq_true c, cond_true, cond_true, wrap_i64 (n := t - 6746518852) (by omega) (by omega), decide_eq_false (show ¬ t - 6746518852 ≤ -3373259426 by omega), cond_false]
    exact ⟨_, rfl, rfl, by omega, by omega⟩
  · rw [decide_eq_false c, cond_false, cond_false]
    by_cases d : t ≤ -3373259426
    · rw [decide_eq_true d, cond_true, wrap_i64 (n := t + 6746518852) (by omega) (by omega)]
      exact ⟨_, rfl, rfl, by omega, by omega⟩
    · rw [decide_eq_false d, cond_false]
      exact ⟨_, rfl, rfl, by omega, by omega⟩
theorem sin_same (x : Int) (hit hit' : Bool) : ∃ v u u', f_Aq x hit = some (v, u) ∧ f_Z x hit' = some (v, u') := by
  unfold f_Aq K_Aq f_Z K_Z
  obtain ⟨w, e1, e2, w1, w2⟩ := wrap_same (sat x)
  rw [acc_sat, Option.bind_some, ref_sat, Option.bind_some]
  simp only
  rw [e1, e2, Option.bind_some, Option.bind_some]
  by_cases c : w > 1686629713
  · rw [decide_eq_true c, cond_true, cond_true, wrap_i64 (n := 3373259426 - w) (by omega) (by omega)]
    obtain ⟨u, h⟩ := ptail_eq (3373259426 - w) (hit || over x) (by omega) (by omega)
    obtain ⟨u', h'⟩ := rtail_eq (3373259426 - w) (hit' || over x) (by omega) (by omega)
    exact ⟨_, u, u', h, h'⟩
  · rw [decide_eq_false c, cond_false, cond_false]
    by_cases d : w < -1686629713
    · rw [decide_eq_true d, cond_true, cond_true, wrap_i64 (n := -3373259426 - w) (by omega) (by omega)]
      obtain ⟨u, h⟩ := ptail_eq (-3373259426 - w) (hit || over x) (by omega) (by omega)
      obtain ⟨u', h'⟩ := rtail_eq (-3373259426 - w) (hit' || over x) (by omega) (by omega)
      exact ⟨_, u, u', h, h'⟩
    · rw [decide_eq_false d, cond_false, cond_false]
      obtain ⟨u, h⟩ := ptail_eq w (hit || over x) (by omega) (by omega)
      obtain ⟨u', h'⟩ := rtail_eq w (hit' || over x) (by omega) (by omega)
      exact ⟨_, u, u', h, h'⟩
theorem cos_same (x : Int) (hit hit' : Bool) : ∃ v u u', f_BK x hit = some (v, u) ∧ f_BX x hit' = some (v, u') := by
  unfold f_BK K_BK f_BX K_BX
  obtain ⟨w, e1, e2, w1, w2⟩ := wrap_same x
  rw [e1, e2, Option.bind_some, Option.bind_some]
  obtain ⟨v, u, u', h, h'⟩ := sin_same (IntKind.wrap .i64 (1686629713 + w)) hit hit'
  exact ⟨v, u, u', by rw [h]; rfl, by rw [h']; rfl⟩
theorem scales_same (a b c : Int) (G : GoodP a b c) (A1 : -850000000 ≤ a) (A2 : a ≤ 850000000) :
    ∃ n e, f_Ap a b c = some (Sum.inr (a, b, c, n, e)) ∧ f_AZ a = some (n, e) ∧ 0 ≤ n ∧ n ≤ 13000000000 ∧ -13000000000 ≤ e ∧ e ≤ 13000000000 := by
  suffices H : ∃ n e, f_Ap a b c = some (Sum.inr (a, b, c, n, e)) ∧ f_AZ a = some (n, e) by
    obtain ⟨n, e, h1, h2⟩ := H
    rcases new_bd a b c _ h1 with h | ⟨_, n', e', h, b⟩
    · cases h
    · cases h; exact ⟨n, e, h1, h2, b⟩
  unfold f_Ap K_Ap f_AZ K_AZ
  rw [good_yes G, Option.bind_some, Bool.not_true, cond_false, decide_eq_false (by omega), cond_false, decide_eq_false (by omega), cond_false]
  obtain ⟨u0, h0⟩ := muldiv_eq a 3373259426 1800000000 false (by decide)
  rw [muldiv_same a 3373259426 1800000000 false (by decide), h0, Option.bind_some, Option.bind_some]
  simp only
  generalize sat (rdq (sat a * sat 3373259426) (sat 1800000000)) = g
  obtain ⟨s, us, us', hs, hs'⟩ := sin_same g u0 u0
  have bs : Unit1 s := sin_bd _ _ _ hs
  rw [hs, hs', Option.bind_some, Option.bind_some]
  obtain ⟨k, uk, uk', hk, hk'⟩ := cos_same g us us'
  have bk : Unit1 k := cos_bd _ _ _ hk
  simp only
  rw [hk, hk', Option.bind_some, Option.bind_some]
  unfold Unit1 at bs bk
  simp only
  obtain ⟨u1, h1⟩ := new1_eq s s uk
  have ss : sat s = s := satI (by omega)
  rw [h1, ref_M, Option.bind_some, Option.bind_some, ss]
  simp only
  have m1 := mulB s s 1073741824 1073741824 bs.1 bs.2 bs.1 bs.2
  have m1n : 0 ≤ s * s := by
    rcases Int.lt_or_le s 0 with z | z
    · have := Int.mul_nonneg (show 0 ≤ -s by omega) (show 0 ≤ -s by omega)
      rwa [Int.neg_mul_neg] at this
    · exact Int.mul_nonneg z z
  have b1 := rnd30_bd (s * s) 1073741824 m1.1 m1.2
  have b1n := rnd30_lo (s * s) 0 (by omega) (by omega)
  generalize rnd (s * s) 30 = p at b1 b1n
  rw [satI (x := p) (by omega)]
  obtain ⟨u2, h2⟩ := new1_eq 7188036 p u1
  rw [h2, ref_M, Option.bind_some, Option.bind_some, show sat 7188036 = 7188036 from rfl, satI (x := p) (by omega)]
  simp only
  have b2 := rnd30_bd (7188036 * p) 7188036 (by omega) (by omega)
  have b2n := rnd30_lo (7188036 * p) 0 (by omega) (by omega)
  generalize rnd (7188036 * p) 30 = t at b2 b2n
  rw [satI (x := t) (by omega), wrap_i64 (n := 1073741824 - t) (by omega) (by omega)]
  generalize hq : (1073741824 : Int) - t = q
  obtain ⟨w, u3, hw, h3⟩ := sqrt_eq q u2 (by omega) (by omega)
  have bw := isR_bd w q hw (by omega) (by omega)
  obtain ⟨u3', h3'⟩ := ref_sqrt q (uk' || over s || over s || over p || over 7188036 || over p || over t) (by omega) (by omega) w hw
  rw [h3, h3', Option.bind_some, Option.bind_some]
  simp only
  have sw : sat w = w := satI (by omega)
  obtain ⟨u4, h4⟩ := div30_eq 6531212288 (sat w) u3 (by rw [sw]; omega)
  rw [h4, ref_D _ _ _ (by rw [sw, sw]; omega), Option.bind_some, Option.bind_some]
  simp only
  obtain ⟨u5, h5⟩ := new1_eq 6531212288 1066553788 u4
  rw [h5, ref_M, Option.bind_some, Option.bind_some]
  simp only
  obtain ⟨u6, h6⟩ := new1_eq q (sat w) u5
  rw [h6, ref_M, Option.bind_some, Option.bind_some]
  simp only
  have m6 := mulB q w 1073741824 1073741824 (by omega) (by omega) (by omega) (by omega)
  have m6n : 1066553788 * 1066553788 ≤ q * w := by
    have x1 := Int.mul_nonneg (show 0 ≤ q - 1066553788 by omega) (show 0 ≤ w by omega)
    have x2 : (q - 1066553788) * w = q * w - 1066553788 * w := by grind
    omega
  have b6 := rnd30_bd (q * w) 1073741824 m6.1 m6.2
  have b6n := rnd30_lo (q * w) 1059000000 (by omega) (by omega)
  rw [sw, sw, satI (x := q) (by omega)]
  generalize rnd (q * w) 30 = z at b6 b6n
  have sz : sat z = z := satI (by omega)
  rw [sz]
  obtain ⟨u7, h7⟩ := div30_eq (sat (rnd (sat 6531212288 * sat 1066553788) 30)) z u6 (by rw [sz]; omega)
  rw [h7, ref_D _ _ _ (by rw [sz]; omega), Option.bind_some, Option.bind_some]
  simp only
  obtain ⟨u8, h8⟩ := muldiv_eq (sat (rdq (sat (sat (rnd (sat 6531212288 * sat 1066553788) 30)) * 1073741824) (sat z))) 3373259426 1800000000 u7 (by decide)
  rw [h8, ref_muldiv _ 3373259426 1800000000 _ (by decide), Option.bind_some, Option.bind_some]
  simp only
  obtain ⟨u9, h9⟩ := new1_eq (sat (rdq (sat 6531212288 * 1073741824) w)) k u8
  rw [h9, ref_M, Option.bind_some, Option.bind_some]
  simp only
  obtain ⟨u10, h10⟩ := muldiv_eq (sat (rnd (sat (sat (rdq (sat 6531212288 * 1073741824) w)) * sat k) 30)) 3373259426 1800000000 u9 (by decide)
  rw [h10, ref_muldiv _ 3373259426 1800000000 _ (by decide), Option.bind_some, Option.bind_some]
  exact ⟨_, _, rfl, rfl⟩
end Go.Proofs.Ytcalippagaaikaa
set_option maxRecDepth 100000
set_option maxHeartbeats 4000000
set_option linter.unusedVariables false
set_option linter.unusedSimpArgs false
namespace Go.Proofs.Ytcalippagaaikaa
open Go.Ab
theorem loopK_lit {D X ρ : Type} (s : D → (D → Option ρ) → (X → Option ρ) → Option ρ) (n m : Nat) (h : m = n + 1) (d : D) (k : X → Option ρ) : loopK s m d k = s d (fun d => loopK s n d k) k := by subst h; rfl
theorem toL0 {ρ : Type} (p0 p1 p2 p3 p4 p5 a : Int) (h : Bool) (k : _ → Option ρ) (h1 : -3600000000 ≤ a) (h2 : a ≤ 3600000000) :
    L_AD_0 (p0, p1, p2, p3, p4, p5, a, h) k = k (p0, p1, p2, p3, p4, p5, (if a > 1800000000 then a - 3600000000 else a), false, h) := by
  unfold L_AD_0
  rw [loopK_lit _ 199 200 rfl]
  unfold S_AD_0
  by_cases c : a > 1800000000
  · simp only [decide_eq_true c, cond_true, if_pos c, wrap_i64 (n := a - 3600000000) (by omega) (by omega)]
    rw [loopK_lit _ 198 199 rfl]
    simp only [decide_eq_false (show ¬ a - 3600000000 > 1800000000 by omega), cond_false]
  · simp only [decide_eq_false c, cond_false, if_neg c]
theorem toL1 {ρ : Type} (p0 p1 p2 p3 p4 p5 a : Int) (h : Bool) (k : _ → Option ρ) (h1 : -3600000000 ≤ a) (h2 : a ≤ 3600000000) :
    L_AD_1 (p0, p1, p2, p3, p4, p5, a, h) k = k (p0, p1, p2, p3, p4, p5, (if a ≤ -1800000000 then a + 3600000000 else a), false, h) := by
  unfold L_AD_1
  rw [loopK_lit _ 199 200 rfl]
  unfold S_AD_1
  by_cases c : a ≤ -1800000000
  · simp only [decide_eq_true c, cond_true, if_pos c, wrap_i64 (n := a + 3600000000) (by omega) (by omega)]
    rw [loopK_lit _ 198 199 rfl]
    simp only [decide_eq_false (show ¬ a + 3600000000 ≤ -1800000000 by omega), cond_false]
  · simp only [decide_eq_false c, cond_false, if_neg c]
theorem ref_To (o0 o1 o2 x0 x1 x2 n e : Int) (hit : Bool) (F : GoodP o0 o1 o2) (G : GoodP x0 x1 x2) (hs : f_AZ o0 = some (n, e)) (n1 : -13000000000 ≤ n) (n2 : n ≤ 13000000000) (e1 : -13000000000 ≤ e) (e2 : e ≤ 13000000000) :
    f_AD o0 o1 o2 x0 x1 x2 hit = some (rnd ((x0 - o0) * n) 10, rnd (redL (x1 - o1) * e) 10, rdq ((o2 - x2) * 1073741824) 1000, hit) := by
  unfold f_AD K_AD
  rw [hs, Option.bind_some]
  obtain ⟨g1, g2, g3, g4, g5, g6⟩ := G
  obtain ⟨k1, k2, k3, k4, k5, k6⟩ := F
  have w1 : IntKind.wrap .i64 (x1 - o1) = x1 - o1 := wrap_i64 (by omega) (by omega)
  have w4 : IntKind.wrap .i64 (x0 - o0) = x0 - o0 := wrap_i64 (by omega) (by omega)
  have w5 : IntKind.wrap .i64 (o2 - x2) = o2 - x2 := wrap_i64 (by omega) (by omega)
  have m : ∀ a b hit, -1800000000 ≤ a → a ≤ 1800000000 → -13000000000 ≤ b → b ≤ 13000000000 → f_AY a b 10 hit = some (rnd (a * b) 10, hit) := by
    intro a b hit a1 a2 b1 b2
    have q : f_AY a b 10 hit = some (sat (rnd (sat a * sat b) 10), hit || over a || over b || over (rnd (sat a * sat b) 10)) := ref_Mul a b 10 hit (by omega)
    have p := mulB a b 1800000000 13000000000 a1 a2 b1 b2
    have r := rnd10_bd (a * b) 1000000000000000000 (by omega) (by omega)
    rw [q, satI (x := a) (by omega), satI (x := b) (by omega), satI (by omega), overI (x := a) (by omega), overI (x := b) (by omega), overI (by omega)]
    simp
  have d : ∀ hit, f_AG (o2 - x2) 1073741824 1000 hit = some (rdq ((o2 - x2) * 1073741824) 1000, hit) := by
    intro hit
    have r := rdq_bd ((o2 - x2) * 1073741824) 1000 1000000000000000000 (by omega) (by omega) (by omega)
    rw [ref_muldiv _ _ _ _ (by decide), satI (x := o2 - x2) (by omega), show sat 1073741824 = 1073741824 from rfl, show sat 1000 = 1000 from rfl, satI (by omega), overI (x := o2 - x2) (by omega), overI (x := rdq _ _) (by omega), show over 1073741824 = false from rfl, show over 1000 = false from rfl]
    simp
  have rb := redL_bd (x1 - o1) (by omega) (by omega)
  simp only
  rw [w1, toL0 _ _ _ _ _ _ _ _ _ (by omega) (by omega)]
  simp only
  rw [toL1 _ _ _ _ _ _ _ _ _ (by split <;> omega) (by split <;> omega)]
  have hr : (if (if x1 - o1 > 1800000000 then x1 - o1 - 3600000000 else x1 - o1) ≤ -1800000000 then (if x1 - o1 > 1800000000 then x1 - o1 - 3600000000 else x1 - o1) + 3600000000 else (if x1 - o1 > 1800000000 then x1 - o1 - 3600000000 else x1 - o1)) = redL (x1 - o1) := by
    unfold redL
    by_cases c : x1 - o1 > 1800000000
    · rw [if_pos c, if_neg (by omega), if_pos c]
    · rw [if_neg c, if_neg c]
  simp only [hr, w4, w5, m _ _ _ (show -1800000000 ≤ x0 - o0 by omega) (show x0 - o0 ≤ 1800000000 by omega) n1 n2, Option.bind_some, m _ _ _ rb.1 rb.2 e1 e2, d]
end Go.Proofs.Ytcalippagaaikaa
set_option maxRecDepth 100000
set_option maxHeartbeats 4000000
set_option linter.unusedVariables false
set_option linter.unusedSimpArgs false
namespace Go.Proofs.Ytcalippagaaikaa
open Go.Ab
theorem btw (a b p d M : Int) (hit : Bool) (MM : M ≤ 100000000000000) (A : -M ≤ a ∧ a ≤ M) (B : -M ≤ b ∧ b ≤ M) (P : 0 ≤ p ∧ p ≤ d) (D : 0 < d ∧ d ≤ 1000000000) :
    ∃ r, (-M ≤ r ∧ r ≤ M) ∧ f_AF a b p d hit = some (r, hit) ∧
      ∀ {ρ : Type} (k : Int × Bool → Option ρ), (Option.bind (f_Au b a hit) fun (d_2 : Int × Bool) => Option.bind (f_AG d_2.1 p d d_2.2) fun (d_3 : Int × Bool) => Option.bind (f_AI a d_3.1 d_3.2) k) = k (r, hit) := by
  obtain ⟨r, hr, h⟩ := d1_bd a b p d M hit MM A B P D
  refine ⟨r, hr, h, ?_⟩
  intro ρ k
  unfold f_AF K_AF at h
  have e1 : IntKind.wrap .i64 (b - a) = b - a := wrap_i64 (by omega) (by omega)
  have s1 : sat (b - a) = b - a := satI (by omega)
  have s2 : sat d = d := satI (by omega)
  have s3 : sat p = p := satI (by omega)
  have s4 : sat b = b := satI (by omega)
  have s5 : sat a = a := satI (by omega)
  rw [e1, acc_muldiv _ _ _ _ (by rw [s2]; omega), s1, s2, s3, overI (x := b - a) (by omega), overI (x := p) (by omega), overI (x := d) (by omega), Option.bind_some] at h
  simp only [Bool.or_false, Option.some.injEq, Prod.mk.injEq] at h
  obtain ⟨h1, h2⟩ := h
  rw [ref_sub, Option.bind_some, s4, s5, s1, overI (x := a) (by omega), overI (x := b) (by omega), overI (x := b - a) (by omega)]
  simp only [Bool.or_false]
  rw [ref_muldiv _ _ _ _ (by rw [s2]; omega), Option.bind_some, s1, s2, s3, overI (x := b - a) (by omega), overI (x := p) (by omega), overI (x := d) (by omega)]
  simp only [Bool.or_false]
  have b1 := sat_le (rdq ((b - a) * p) d)
  rw [h2]
  generalize sat (rdq ((b - a) * p) d) = v at *
  rw [wrap_i64 (by omega) (by omega)] at h1
  rw [ref_add, Option.bind_some, s5, satI (x := v) (by omega), h1, overI (x := a) (by omega), overI (x := v) (by omega), overI (x := r) (by omega), satI (x := r) (by omega)]
  simp only [Bool.or_false]
theorem along_one (r i : Int) (a b q : Int) (hit : Bool) (h1 : f_BH r i = some (a * 1073741824)) (h2 : f_BH r (IntKind.wrap .i64 (i + 1)) = some (b * 1073741824)) (A : In9 a) (B : In9 b) (P : 0 ≤ q ∧ q ≤ 600000000) (o : Option (Int × Bool))
    (h : o = Option.bind (f_AF (IntKind.wrap .i64 (a * 1073741824)) (IntKind.wrap .i64 (b * 1073741824)) q 600000000 hit) fun d => some (d.1, d.2)) :
    ∃ v, (-9663676416000 ≤ v ∧ v ≤ 9663676416000) ∧ o = some (v, hit) ∧ f_BI r i q hit = some (v, hit) := by
  unfold In9 at A B
  rw [h, wrap_i64 (n := a * 1073741824) (by omega) (by omega), wrap_i64 (n := b * 1073741824) (by omega) (by omega)]
  obtain ⟨v, hv, e1, e2⟩ := btw (a * 1073741824) (b * 1073741824) q 600000000 9663676416000 hit (by omega) (by omega) (by omega) P (by omega)
  refine ⟨v, hv, by rw [e1]; rfl, ?_⟩
  unfold f_BI K_BI
  rw [h1, Option.bind_some, h2, Option.bind_some]
  exact e2 _
theorem along_same (r a b c d e f g y : Int) (hit : Bool) (h1 : -1800000000 ≤ y) (h2 : y ≤ 1800000000) (A : In9 a) (B : In9 b) (C : In9 c) (D : In9 d) (E : In9 e) (F : In9 f) (G : In9 g)
    (t0 : f_BH r 0 = some (a * 1073741824)) (t1 : f_BH r 1 = some (b * 1073741824)) (t2 : f_BH r 2 = some (c * 1073741824)) (t3 : f_BH r 3 = some (d * 1073741824))
    (t4 : f_BH r 4 = some (e * 1073741824)) (t5 : f_BH r 5 = some (f * 1073741824)) (t6 : f_BH r 6 = some (g * 1073741824)) :
    ∃ v, (-9663676416000 ≤ v ∧ v ≤ 9663676416000) ∧ f_Ah a b c d e f g (colI y) (colP y) hit = some (v, hit) ∧ f_BI r (colI y) (colP y) hit = some (v, hit) := by
  obtain ⟨p, i⟩ := colI_cases y h1 h2
  generalize colP y = q at p
  rcases i with i | i | i | i | i | i
  · rw [i]; exact along_one r 0 a b q hit t0 t1 A B p _ (by kernel_rfl)
  · rw [i]; exact along_one r 1 b c q hit t1 t2 B C p _ (by kernel_rfl)
  · rw [i]; exact along_one r 2 c d q hit t2 t3 C D p _ (by kernel_rfl)
  · rw [i]; exact along_one r 3 d e q hit t3 t4 D E p _ (by kernel_rfl)
  · rw [i]; exact along_one r 4 e f q hit t4 t5 E F p _ (by kernel_rfl)
  · rw [i]; exact along_one r 5 f g q hit t5 t6 F G p _ (by kernel_rfl)
theorem row0 (y : Int) (hit : Bool) (h1 : -1800000000 ≤ y) (h2 : y ≤ 1800000000) : ∃ v, (-9663676416000 ≤ v ∧ v ≤ 9663676416000) ∧ f_Ah 3000 6000 (-2000) (-1500) (-6000) (-9000) 3000 (colI y) (colP y) hit = some (v, hit) ∧ f_BI 0 (colI y) (colP y) hit = some (v, hit) :=
  along_same 0 3000 6000 (-2000) (-1500) (-6000) (-9000) 3000 y hit h1 h2 (by unfold In9; omega) (by unfold In9; omega) (by unfold In9; omega) (by unfold In9; omega) (by unfold In9; omega) (by unfold In9; omega) (by unfold In9; omega) (by kernel_rfl) (by kernel_rfl) (by kernel_rfl) (by kernel_rfl) (by kernel_rfl) (by kernel_rfl) (by kernel_rfl)
theorem row1 (y : Int) (hit : Bool) (h1 : -1800000000 ≤ y) (h2 : y ≤ 1800000000) : ∃ v, (-9663676416000 ≤ v ∧ v ≤ 9663676416000) ∧ f_Ah 2200 2500 500 (-2200) (-3800) 0 2200 (colI y) (colP y) hit = some (v, hit) ∧ f_BI 1 (colI y) (colP y) hit = some (v, hit) :=
  along_same 1 2200 2500 500 (-2200) (-3800) 0 2200 y hit h1 h2 (by unfold In9; omega) (by unfold In9; omega) (by unfold In9; omega) (by unfold In9; omega) (by unfold In9; omega) (by unfold In9; omega) (by unfold In9; omega) (by kernel_rfl) (by kernel_rfl) (by kernel_rfl) (by kernel_rfl) (by kernel_rfl) (by kernel_rfl) (by kernel_rfl)
theorem row2 (y : Int) (hit : Bool) (h1 : -1800000000 ≤ y) (h2 : y ≤ 1800000000) : ∃ v, (-9663676416000 ≤ v ∧ v ≤ 9663676416000) ∧ f_Ah 950 900 (-1400) (-500) (-300) 100 950 (colI y) (colP y) hit = some (v, hit) ∧ f_BI 2 (colI y) (colP y) hit = some (v, hit) :=
  along_same 2 950 900 (-1400) (-500) (-300) 100 950 y hit h1 h2 (by unfold In9; omega) (by unfold In9; omega) (by unfold In9; omega) (by unfold In9; omega) (by unfold In9; omega) (by unfold In9; omega) (by unfold In9; omega) (by kernel_rfl) (by kernel_rfl) (by kernel_rfl) (by kernel_rfl) (by kernel_rfl) (by kernel_rfl) (by kernel_rfl)
theorem row3 (y : Int) (hit : Bool) (h1 : -1800000000 ≤ y) (h2 : y ≤ 1800000000) : ∃ v, (-9663676416000 ≤ v ∧ v ≤ 9663676416000) ∧ f_Ah 500 1500 (-1700) 100 700 (-800) 500 (colI y) (colP y) hit = some (v, hit) ∧ f_BI 3 (colI y) (colP y) hit = some (v, hit) :=
  along_same 3 500 1500 (-1700) 100 700 (-800) 500 y hit h1 h2 (by unfold In9; omega) (by unfold In9; omega) (by unfold In9; omega) (by unfold In9; omega) (by unfold In9; omega) (by unfold In9; omega) (by unfold In9; omega) (by kernel_rfl) (by kernel_rfl) (by kernel_rfl) (by kernel_rfl) (by kernel_rfl) (by kernel_rfl) (by kernel_rfl)
theorem row4 (y : Int) (hit : Bool) (h1 : -1800000000 ≤ y) (h2 : y ≤ 1800000000) : ∃ v, (-9663676416000 ≤ v ∧ v ≤ 9663676416000) ∧ f_Ah 1000 4000 (-3000) 500 3500 (-1200) 1000 (colI y) (colP y) hit = some (v, hit) ∧ f_BI 4 (colI y) (colP y) hit = some (v, hit) :=
  along_same 4 1000 4000 (-3000) 500 3500 (-1200) 1000 y hit h1 h2 (by unfold In9; omega) (by unfold In9; omega) (by unfold In9; omega) (by unfold In9; omega) (by unfold In9; omega) (by unfold In9; omega) (by unfold In9; omega) (by kernel_rfl) (by kernel_rfl) (by kernel_rfl) (by kernel_rfl) (by kernel_rfl) (by kernel_rfl) (by kernel_rfl)
theorem cell_row (x : Int) (h1 : -900000000 ≤ x) (h2 : x ≤ 900000000) : f_BM (IntKind.wrap .i64 (x + 900000000)) 450000000 4 = some (rowI x, partI x (rowI x)) := by
  unfold f_BM K_BM
  rw [show (!decide ((450000000 : Int) = 0)) = true from rfl, cond_true]
  unfold partI rowI
  by_cases c : IntKind.wrap .i64 (Int.tdiv (IntKind.wrap .i64 (x + 900000000)) 450000000) ≥ 4
  · rw [decide_eq_true c, cond_true, if_pos (by omega), show IntKind.wrap .i64 (4 - 1) = 3 by decide]
  · rw [decide_eq_false c, cond_false, if_neg (by omega)]
theorem cell_col (y : Int) : f_BM (IntKind.wrap .i64 (y + 1800000000)) 600000000 6 = some (colI y, colP y) := by
  unfold f_BM K_BM
  rw [show (!decide ((600000000 : Int) = 0)) = true from rfl, cond_true]
  unfold colP colI
  by_cases c : IntKind.wrap .i64 (Int.tdiv (IntKind.wrap .i64 (y + 1800000000)) 600000000) ≥ 6
  · rw [decide_eq_true c, cond_true, if_pos (by omega), show IntKind.wrap .i64 (6 - 1) = 5 by decide]
  · rw [decide_eq_false c, cond_false, if_neg (by omega)]
theorem tail_same (a b p : Int) (hit : Bool) (A : -9663676416000 ≤ a ∧ a ≤ 9663676416000) (B : -9663676416000 ≤ b ∧ b ≤ 9663676416000) (P : 0 ≤ p ∧ p ≤ 450000000) :
    ∃ r, tailD a b p hit = some (r, 0, hit) ∧ (Option.bind (f_Au b a hit) fun (d_4 : Int × Bool) => Option.bind (f_AG d_4.1 p 450000000 d_4.2) fun (d : Int × Bool) => Option.bind (f_AI a d.1 d.2) fun (d : Int × Bool) => Option.bind (f_AG d.1 3373259426 19327352832000 d.2) fun (d : Int × Bool) => some (d.1, d.2)) = some (r, hit) := by
  obtain ⟨v, hv, e1, e2⟩ := btw a b p 450000000 9663676416000 hit (by omega) A B P (by omega)
  obtain ⟨r, _, hr⟩ := tailD_bd a b p hit A B P
  refine ⟨r, hr, ?_⟩
  rw [e2]
  simp only
  unfold tailD at hr
  rw [e1, Option.bind_some] at hr
  simp only at hr
  rw [muldiv_same v 3373259426 19327352832000 hit (by decide)]
  rw [acc_muldiv _ _ _ _ (by decide), Option.bind_some] at hr ⊢
  simp only [Option.some.injEq, Prod.mk.injEq] at hr ⊢
  exact ⟨hr.1, hr.2.2⟩
theorem decl_same (x y z : Int) (hit : Bool) (G : GoodP x y z) : ∃ r, f_Ao x y z hit = some (r, 0, hit) ∧ f_BV x y hit = some (r, hit) := by
  have P := partI_bd x G.1 G.2.1
  have y1 := G.2.2.1
  have y2 := G.2.2.2.1
  unfold f_BV K_BV
  rw [cell_row x G.1 G.2.1, Option.bind_some, cell_col, Option.bind_some]
  simp only
  rcases rowI_cases x G.1 G.2.1 with h | h | h | h
  · obtain ⟨a, ha, e1, f1⟩ := row0 y hit y1 y2
    obtain ⟨b, hb, e2, f2⟩ := row1 y hit y1 y2
    rw [h] at P ⊢
    obtain ⟨r, t1, t2⟩ := tail_same a b (partI x 0) hit ha hb P
    rw [f1, Option.bind_some, show IntKind.wrap .i64 (0 + 1) = 1 by decide]
    simp only [f2, Option.bind_some]
    refine ⟨r, ?_, t2⟩
    rw [decl_r0 x y z hit G h, e1, Option.bind_some, e2, Option.bind_some]; exact t1
  · obtain ⟨a, ha, e1, f1⟩ := row1 y hit y1 y2
    obtain ⟨b, hb, e2, f2⟩ := row2 y hit y1 y2
    rw [h] at P ⊢
    obtain ⟨r, t1, t2⟩ := tail_same a b (partI x 1) hit ha hb P
    rw [f1, Option.bind_some, show IntKind.wrap .i64 (1 + 1) = 2 by decide]
    simp only [f2, Option.bind_some]
    refine ⟨r, ?_, t2⟩
    rw [decl_r1 x y z hit G h, e1, Option.bind_some, e2, Option.bind_some]; exact t1
  · obtain ⟨a, ha, e1, f1⟩ := row2 y hit y1 y2
    obtain ⟨b, hb, e2, f2⟩ := row3 y hit y1 y2
    rw [h] at P ⊢
    obtain ⟨r, t1, t2⟩ := tail_same a b (partI x 2) hit ha hb P
    rw [f1, Option.bind_some, show IntKind.wrap .i64 (2 + 1) = 3 by decide]
    simp only [f2, Option.bind_some]
    refine ⟨r, ?_, t2⟩
    rw [decl_r2 x y z hit G h, e1, Option.bind_some, e2, Option.bind_some]; exact t1
  · obtain ⟨a, ha, e1, f1⟩ := row3 y hit y1 y2
    obtain ⟨b, hb, e2, f2⟩ := row4 y hit y1 y2
    rw [h] at P ⊢
    obtain ⟨r, t1, t2⟩ := tail_same a b (partI x 3) hit ha hb P
    rw [f1, Option.bind_some, show IntKind.wrap .i64 (3 + 1) = 4 by decide]
    simp only [f2, Option.bind_some]
    refine ⟨r, ?_, t2⟩
    rw [decl_r3 x y z hit G h, e1, Option.bind_some, e2, Option.bind_some]; exact t1
theorem good_same (a b c : Int) : f_BP a b c = f_AH a b c := by
  unfold f_BP K_BP f_AH K_AH
  rfl
theorem decl_bad (x y z : Int) (hit : Bool) (h : f_AH x y z = some false) : f_Ao x y z hit = some (0, 1, hit) := by
  unfold f_Ao K_Ao
  rw [h]; rfl
theorem new_bad (a b c : Int) (h : f_AH a b c = some false ∨ (f_AH a b c = some true ∧ (a > 850000000 ∨ a < -850000000))) : f_Ap a b c = some (Sum.inl ()) := by
  unfold f_Ap K_Ap
  rcases h with h | ⟨h, l⟩
  · rw [h]; rfl
  · rw [h, Option.bind_some, Bool.not_true, cond_false]
    by_cases c : a > 850000000
    · rw [decide_eq_true c, cond_true]
    · rw [decide_eq_false c, cond_false, decide_eq_true (by omega), cond_true]
theorem to_bad (x y z f0 f1 f2 f3 f4 : Int) (hit : Bool) (h : f_AH x y z = some false) : f_As x y z f0 f1 f2 f3 f4 hit = some (0, 0, 0, 1, hit) := by
  unfold f_As K_As
  rw [h]; rfl
theorem beqI (x : Int) : (x == x) = true := beq_self_eq_true x
theorem bneI (x : Int) : (x != x) = false := by simp
theorem earthSays_plain (x0 x1 x2 x3 x4 x5 : Int) : f_Bd x0 x1 x2 x3 x4 x5 = some true := by
  unfold f_Bd K_Bd
  have aw : f_Bb = some true := by kernel_rfl
  rw [aw, Option.bind_some, Bool.not_true, cond_false]
  obtain ⟨g, hg⟩ := t_good x3 x4 x5
  obtain ⟨o, ho⟩ := t_good x0 x1 x2
  have b1 : (!g == g) = false := by cases g <;> rfl
  have b2 : (!o == o) = false := by cases o <;> rfl
  have sc : ∀ a b c n e, f_BE a b c n e = some (n, e) := fun _ _ _ _ _ => rfl
  rw [good_same, good_same, hg, Option.bind_some, Option.bind_some, b1, cond_false, ho, Option.bind_some, Option.bind_some, b2, cond_false]
  have hcase : (o = false ∨ (o = true ∧ (x0 > 850000000 ∨ x0 < -850000000))) ∨ (o = true ∧ -850000000 ≤ x0 ∧ x0 ≤ 850000000) := by
    cases o with
    | false => exact Or.inl (Or.inl rfl)
    | true =>
      by_cases c : -850000000 ≤ x0 ∧ x0 ≤ 850000000
      · exact Or.inr ⟨rfl, c⟩
      · exact Or.inl (Or.inr ⟨rfl, by omega⟩)
  rcases hcase with hc | ⟨rfl, l1, l2⟩
  · have hn : f_Ap x0 x1 x2 = some (Sum.inl ()) := new_bad x0 x1 x2 (by
      rcases hc with rfl | ⟨rfl, h⟩
      · exact Or.inl ho
      · exact Or.inr ⟨ho, h⟩)
    have fin : (bif !o then some true else bif decide (x0 > 850000000) then some true else bif decide (x0 < -850000000) then some true else some false) = some true := by
      rcases hc with rfl | ⟨rfl, h⟩
      · rfl
      · by_cases c : x0 > 850000000
        · rw [decide_eq_true c]; rfl
        · rw [decide_eq_false c, decide_eq_true (show x0 < -850000000 by omega)]; rfl
    cases g with
    | false =>
      rw [decl_bad x3 x4 x5 false hg, hn]
      simp only [Option.bind_some, Bool.not_false, cond_true, cond_false, bneI, fin]
    | true =>
      obtain ⟨r, e1, e2⟩ := decl_same x3 x4 x5 false (good_p hg)
      rw [e1, hn]
      simp only [Option.bind_some, Bool.not_true, cond_true, cond_false, bneI, fin, e2]
      rfl
  · obtain ⟨n, e, h1, h2, n1, n2, m1, m2⟩ := scales_same x0 x1 x2 (good_p ho) l1 l2
    rw [h1]
    cases g with
    | false =>
      rw [decl_bad x3 x4 x5 false hg]
      simp only [Option.bind_some, Bool.not_false, Bool.not_true, cond_true, cond_false, bneI, sc, h2, to_bad x3 x4 x5 x0 x1 x2 n e false hg, decide_eq_false (show ¬ x0 > 850000000 by omega), decide_eq_false (show ¬ x0 < -850000000 by omega)]
      rfl
    | true =>
      obtain ⟨r, e1, e2⟩ := decl_same x3 x4 x5 false (good_p hg)
      rw [e1]
      simp only [Option.bind_some, Bool.not_false, Bool.not_true, cond_true, cond_false, bneI, sc, h2, e2, to_full x3 x4 x5 x0 x1 x2 n e false (good_p hg) (good_p ho) (by omega) n2 m1 m2, ref_To x0 x1 x2 x3 x4 x5 n e false (good_p ho) (good_p hg) h2 (by omega) n2 m1 m2, decide_eq_false (show ¬ x0 > 850000000 by omega), decide_eq_false (show ¬ x0 < -850000000 by omega), beqI, Bool.and_true, Bool.not_false, Bool.and_self]
      rfl
theorem earthSays_ev (f : (Int) → (Int) → (Int) → (Int) → (Int) → (Int) → Option Bool) (x0_0 : Int) (x0_1 : Int) (x0_2 : Int) (x1_0 : Int) (x1_1 : Int) (x1_2 : Int) : F_Bd f [.r (.agg [.c (.f (.i .i64 x0_0)), .c (.f (.i .i64 x0_1)), .c (.f (.i .i64 x0_2))]), .r (.agg [.c (.f (.i .i64 x1_0)), .c (.f (.i .i64 x1_1)), .c (.f (.i .i64 x1_2))])] [] = .opt (f x0_0 x0_1 x0_2 x1_0 x1_1 x1_2) fun d => .leaf ⟨.r (.c (.f (.b d))), [], []⟩ := by kernel_rfl
theorem earthSays_trues : Trues (F_Bd f_Bd) [.flat true [.c (.i .i64), .c (.i .i64), .c (.i .i64)], .flat true [.c (.i .i64), .c (.i .i64), .c (.i .i64)]] := fun ds h => by
  obtain ⟨_, _, rfl, q0_0, g0⟩ := fit_flat h
  obtain ⟨x0_0, _, rfl, r0_0, q0_1⟩ := f1_i q0_0
  obtain ⟨x0_1, _, rfl, r0_1, q0_2⟩ := f1_i q0_1
  obtain ⟨x0_2, _, rfl, r0_2, q0_3⟩ := f1_i q0_2
  obtain rfl := f1_nil q0_3
  obtain ⟨_, _, rfl, q1_0, g1⟩ := fit_flat g0
  obtain ⟨x1_0, _, rfl, r1_0, q1_1⟩ := f1_i q1_0
  obtain ⟨x1_1, _, rfl, r1_1, q1_2⟩ := f1_i q1_1
  obtain ⟨x1_2, _, rfl, r1_2, q1_3⟩ := f1_i q1_2
  obtain rfl := f1_nil q1_3
  obtain rfl := fit_nil g1
  refine ⟨[], (congrArg T.eval (earthSays_ev f_Bd x0_0 x0_1 x0_2 x1_0 x1_1 x1_2)).trans ?_⟩
  rw [earthSays_plain x0_0 x0_1 x0_2 x1_0 x1_1 x1_2]
  rfl
set_option maxRecDepth 100000 in
theorem earthSays_lifted (os : Os) (started : os.Started) (H : Type) (enc : TypeId × Value → H) :
    ReturnsInHanded {} Try.checked os 10 .any (Rows.earthSaysSpec.pre6 enc Try.prog Try.f10 Rows.earthSaysRow.domain false) (Rows.earthSaysSpec.post enc Try.prog Try.f10 false true false false) :=
  law_lift (C := Try.checked) (tb := Try.f10.resultTypes.getD 0 0) own started (by kernel_rfl) Try.func10 laid (by kernel_rfl) (by kernel_rfl) (by kernel_rfl) rfl
    (fun ds h => by
      have h : ds.length = 2 := h.trans (by kernel_rfl)
      match ds, h with
      | [_, _], _ => rfl)
    (ChangeSpec.witness6 (enc := enc) (C := Try.checked) false ⟨#[], #[.agg #[.int .i64 0, .int .i64 0, .int .i64 0], .agg #[.int .i64 0, .int .i64 0, .int .i64 0]], []⟩ 8 (by kernel_rfl) (by kernel_rfl) (by kernel_rfl) (by kernel_rfl))
    (fun W base args ds ps _ hval ht _ _ _ => prm_calls (pr := [.flat true [.c (.i .i64), .c (.i .i64), .c (.i .i64)], .flat true [.c (.i .i64), .c (.i .i64), .c (.i .i64)]]) s_Bd (by kernel_rfl) (ts := Try.f10.params.toList) (by kernel_rfl) earthSays_trues hval ht)
theorem earthSays_over : Rows.earthSaysRow.holds Try.pinned (OpenSpec.ofChange Rows.earthSaysSpec) :=
  OpenClaim.holds_of_wide 10 Try.f10 rfl rfl rfl rfl rfl rfl rfl ⟨rfl, rfl, rfl, rfl, rfl⟩ rfl rfl rfl rfl rfl (by kernel_rfl) Try.func10 (by kernel_rfl)
    (of_decide_eq_true (by kernel_rfl)) (by unfold Func.isWrapper; first | (rw [if_pos (by decide +kernel)]; kernel_rfl) | (rw [if_neg (by decide +kernel)]; exact ⟨rfl, rfl⟩))
    (fun os started H enc _ => earthSays_lifted os started H enc)
theorem earthSays_proved : Rows.EarthSaysSaid := earthSays_over
#print axioms earthSays_proved
end Go.Proofs.Ytcalippagaaikaa
