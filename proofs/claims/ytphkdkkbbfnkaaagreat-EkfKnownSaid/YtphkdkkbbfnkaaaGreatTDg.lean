/-
  Plain helps: thornton.rows of a covariance that is diagonal
-/
import Derived.Test.YtphkdkkbbfnkaaaGreatZA
import Derived.Test.YtphkdkkbbfnkaaaGreatQ2
import Derived.Test.YtphkdkkbbfnkaaaGreatZD
set_option maxRecDepth 100000
set_option maxHeartbeats 4000000
set_option linter.unusedVariables false
set_option linter.unusedSimpArgs false
namespace Go.Proofs.YtphkdkkbbfnkaaaGreat
open Go.Ab Go.Ab.Pg
theorem upd_at {α : Type} (f : Nat → α) (y j : Nat) (v : α) : (bif Nat.beq j y then v else f j) = if j = y then v else f j := by
  by_cases h : j = y
  · rw [if_pos h, h, Nat.beq_refl]; rfl
  · rw [if_neg h]
    cases e : Nat.beq j y
    · rfl
    · exact absurd (Nat.eq_of_beq_eq_true e) h
theorem upd_if {α : Type} (i y : Nat) (a b : α) : (bif Nat.beq i y then a else b) = if i = y then a else b := by
  exact upd_at (fun _ => b) y i a
def okV (d : Int) : Prop := d = 17592186044416 ∨ d = 68719476736 ∨ d = 67108864 ∨ d = 4294967296 ∨ d = 17179869184
theorem okV.le {d : Int} (h : okV d) : 1 ≤ d ∧ d ≤ 72057594037927936 := by
  rcases h with rfl | rfl | rfl | rfl | rfl <;> decide
theorem clamp_id (x lo hi : Int) (b : Bool) (h : lo ≤ x) (k : x ≤ hi) : f_AC x lo hi b = some (x, b) := by
  have h1 : decide (lo > hi) = false := decide_eq_false (by omega)
  have h2 : decide (x < lo) = false := decide_eq_false (by omega)
  have h3 : decide (x > hi) = false := decide_eq_false (by omega)
  unfold f_AC B_AC
  rw [h1, h2, h3]; rfl
theorem sat_eq {x : Int} (h : -1152921504606846976 ≤ x ∧ x ≤ 1152921504606846976) : sat x = x := (sat_id h).1
theorem over_no {x : Int} (h : -1152921504606846976 ≤ x ∧ x ≤ 1152921504606846976) : over x = false := (sat_id h).2
theorem mul_F (w x : Int) (b : Bool) (hw : w = 0 ∨ w = 1073741824) (hx : -1152921504606846976 ≤ x ∧ x ≤ 1152921504606846976) : f_AF w x 30 b = some (if w = 0 then 0 else x, b) := by
  have h := acc_mul w x 30 b (by decide)
  have e1 : sat w = w := sat_eq (by omega)
  have e2 : over w = false := over_no (by omega)
  have r : rnd (w * x) 30 = (if w = 0 then 0 else x) := by
    rcases hw with rfl | rfl
    · rw [Int.zero_mul, if_pos rfl]; rfl
    · rw [if_neg (by decide), Int.mul_comm]; exact rnd_one x
  have hr : -1152921504606846976 ≤ (if w = 0 then 0 else x) ∧ (if w = 0 then 0 else x) ≤ 1152921504606846976 := by split <;> omega
  rw [e1, e2, sat_eq hx, over_no hx, r, sat_eq hr, over_no hr, Bool.or_false, Bool.or_false, Bool.or_false] at h
  exact h
theorem div_zero (d : Int) (b : Bool) (h : okV d) : f_AL 0 d 30 b = some (0, b) := by
  rcases h with rfl | rfl | rfl | rfl | rfl <;> cases b <;> kernel_rfl
theorem sub_zero (x : Int) (b : Bool) (h : -1152921504606846976 ≤ x ∧ x ≤ 1152921504606846976) : f_Ae x 0 b = some (x, b) := by
  have z : sat 0 = 0 := sat_eq (by decide)
  have zo : over 0 = false := over_no (by decide)
  simp only [f_Ae, B_Ae, Pg.val_opt, Pg.val_ret, acc_sat, Option.bind_some, sat_eq h, over_no h, z, zo, Bool.or_false, Int.sub_zero]
  rw [wI_id (by omega) (by omega), sat_eq h, over_no h, Bool.or_false]
theorem sumF_congr {f g : Nat → Int} : ∀ n, (∀ j, j < n → f j = g j) → sumF f n = sumF g n
  | 0, _ => rfl
  | n + 1, h => by
    show sumF f n + f n = sumF g n + g n
    rw [sumF_congr n (fun j hj => h j (by omega)), h n (by omega)]
theorem anyF_no {f : Nat → Bool} : ∀ n, (∀ j, j < n → f j = false) → anyF f n = false
  | 0, _ => rfl
  | n + 1, h => by
    show (anyF f n || f n) = false
    rw [anyF_no n (fun j hj => h j (by omega)), h n (by omega)]; rfl
theorem sumF_one {f : Nat → Int} (k : Nat) : ∀ n, (∀ j, j < n → j ≠ k → f j = 0) → sumF f n = if k < n then f k else 0
  | 0, _ => by rw [if_neg (by omega)]; rfl
  | n + 1, h => by
    show sumF f n + f n = _
    rw [sumF_one k n (fun j hj => h j (by omega))]
    by_cases e : n = k
    · subst e; rw [if_neg (by omega), if_pos (by omega), Int.zero_add]
    · rw [h n (by omega) e, Int.add_zero]
      by_cases c : k < n
      · rw [if_pos c, if_pos (by omega)]
      · rw [if_neg c, if_neg (by omega)]
theorem dot_one (n k : Nat) (hn : n ≤ 100) (hk : k < n) (V : Int) (b w w' : Bool) (f g : Nat → Int) (hf : ∀ j, j < n → -1152921504606846976 ≤ f j ∧ f j ≤ 1152921504606846976) (hg : ∀ j, j < n → -1152921504606846976 ≤ g j ∧ g j ≤ 1152921504606846976)
    (hz : ∀ j, j < n → j ≠ k → f j * g j = 0) (hV : f k * g k = V * 1073741824) (r : -1152921504606846976 ≤ V ∧ V ≤ 1152921504606846976) : f_AE 30 n n b f g w w' = some (V, b) := by
  have h := acc_dot 30 (by decide) n hn b f g w w'
  have e : sumF (fun j => sat (f j) * sat (g j)) n = V * 1073741824 := by
    rw [sumF_congr n (fun j hj => by show sat (f j) * sat (g j) = f j * g j; rw [sat_eq (hf j hj), sat_eq (hg j hj)] : ∀ j, j < n → (fun j => sat (f j) * sat (g j)) j = (fun j => f j * g j) j), sumF_one k n hz, if_pos hk, hV]
  have a : anyF (fun j => over (f j) || over (g j)) n = false := anyF_no n fun j hj => by
    show (over (f j) || over (g j)) = false
    rw [over_no (hf j hj), over_no (hg j hj)]; rfl
  rw [e, a, rnd_one, sat_eq r, over_no r, Bool.or_false, Bool.or_false] at h
  exact h
theorem tri_var (x : Int) (b : Bool) (h : 1 ≤ x) (k : x ≤ 72057594037927936) : f_BZ x b = some (x, b) := by
  unfold f_BZ B_BZ
  rw [Pg.val_opt, clamp_id x 1 72057594037927936 b h k]; rfl
theorem blk_var (x : Int) (b : Bool) (h : 1 ≤ x) (k : x ≤ 72057594037927936) : f_Cb x b = some (x, b) := by
  unfold f_Cb B_Cb
  rw [Pg.val_opt, clamp_id x 1 72057594037927936 b h k]; rfl
theorem blk_is (x : Int) (h : 0 ≤ x) (k : x < 24) : f_Ca x = some true := by
  have h1 : decide (x ≥ 0) = true := decide_eq_true h
  have h2 : decide (x < 24) = true := decide_eq_true k
  unfold f_Ca B_Ca
  rw [h1, h2]; rfl
theorem dg_lit : ∀ j : Nat, j < 24 → 0 ≤ wI (Int.tdiv (wI ((j : Int) * wI ((j : Int) - 1))) 2) ∧ wI (Int.tdiv (wI ((j : Int) * wI ((j : Int) - 1))) 2) + (j : Int) ≤ 276 + (if j = 0 then 1 else 0) := by decide
theorem dg_place {i j : Int} {d : D_Bj} (h : f_Bj i j = some d) (ok : d.2 = true) : 0 ≤ d.1 ∧ d.1 < 276 := by
  simp only [f_Bj, B_Bj, val_ret, val_cnd] at h
  by_cases h0 : 0 ≤ i
  · by_cases h1 : i < j
    · simp only [ge_iff_le, h0, h1, decide_true, cond_true, Option.some.injEq] at h
      subst h
      have h2 : j < 24 := of_decide_eq_true ok
      obtain ⟨n, rfl⟩ := Int.eq_ofNat_of_zero_le (by omega : 0 ≤ j)
      obtain ⟨k1, k2⟩ := dg_lit n (by omega)
      rw [if_neg (by omega)] at k2
      generalize wI (Int.tdiv (wI ((n : Int) * wI ((n : Int) - 1))) 2) = c at *
      show 0 ≤ wI (c + i) ∧ wI (c + i) < 276
      rw [wI_id (by omega) (by omega)]
      omega
    · simp only [ge_iff_le, h0, h1, decide_true, decide_false, cond_true, cond_false, Option.some.injEq] at h
      subst h; cases ok
  · simp only [ge_iff_le, h0, decide_false, cond_false, Option.some.injEq] at h
    subst h; cases ok
theorem place_ok (i j : Nat) (h : i < j) (k : j < 24) : ∃ p : Int, f_Bj i j = some (p, true) ∧ 0 ≤ p ∧ p < 276 := by
  have c1 : decide ((i : Int) ≥ 0) = true := decide_eq_true (by omega)
  have c2 : decide ((i : Int) < (j : Int)) = true := decide_eq_true (by omega)
  have c3 : decide ((j : Int) < 24) = true := decide_eq_true (by omega)
  have e : f_Bj i j = some (wI (wI (Int.tdiv (wI ((j : Int) * wI ((j : Int) - 1))) 2) + (i : Int)), true) := by
    unfold f_Bj B_Bj
    rw [c1, c2, c3]; rfl
  refine ⟨_, e, ?_⟩
  have := dg_place e rfl
  exact this
theorem tri_U_diag (U D : Nat → Int) (hU : ∀ p, p < 276 → U p = 0) (i j : Nat) (h : i ≤ j) (k : j < 24) : f_Bk U D i j = some (if i = j then 1073741824 else 0) := by
  unfold f_Bk B_Bk
  by_cases e : i = j
  · subst e
    have c0 : ((i : Int) == (i : Int)) = true := by simp
    have c1 : decide ((i : Int) ≥ 0) = true := decide_eq_true (by omega)
    have c2 : decide ((i : Int) < 24) = true := decide_eq_true (by omega)
    rw [c0, c1, c2, if_pos rfl]; rfl
  · have c0 : ((i : Int) == (j : Int)) = false := by simp; omega
    obtain ⟨p, hp, p0, p1⟩ := place_ok i j (by omega) k
    have c1 : inR p 276 = true := by rw [inR_iff]; omega
    have c2 : Nat.ble (0 + Int.toNat p * 1 + 1) 276 = true := by rw [nble_iff]; omega
    rw [c0, if_neg e, Pg.val_cnd, cond_false, Pg.val_opt, hp, Option.bind_some]
    simp only [Bool.not_true, c1, c2, Pg.val_cnd, cond_false, cond_true, Pg.val_ret]
    rw [hU _ (by omega)]
theorem tri_Set_zero (D : Nat → Int) (i j : Nat) (h : i < j) (k : j < 24) : f_BV (fun _ => 0) D i j 0 = some (fun _ => 0, D) := by
  obtain ⟨p, hp, p0, p1⟩ := place_ok i j h k
  have c1 : inR p 276 = true := by rw [inR_iff]; omega
  have c2 : (Nat.ble (0 + Int.toNat p * 1 + 1) 276 && Nat.ble (0 + Int.toNat p * 1 + 1) 300) = true := by rw [Bool.and_eq_true, nble_iff, nble_iff]; omega
  unfold f_BV B_BV
  rw [Pg.val_opt, hp, Option.bind_some]
  dsimp only
  rw [c1, c2]
  simp only [Pg.val_cnd, cond_true, Pg.val_ret]
  have e : (fun j : Nat => bif Nat.beq j (Int.toNat p) then (0 : Int) else 0) = fun _ => 0 := funext fun j => by cases Nat.beq j (Int.toNat p) <;> rfl
  exact congrArg some (Prod.ext e rfl)
theorem cond0 (b : Bool) (D : Nat → Int) (hD : ∀ i, i < 24 → 1 ≤ D i ∧ D i ≤ 72057594037927936) (d : QL_AI_0.B) (hd : 0 ≤ d.1 ∧ d.1 ≤ 24 ∧ d.2.1 = b ∧ (∀ p, p < 276 → d.2.2.1.1 p = 0) ∧ ∀ i, i < 24 → d.2.2.1.2 i = D i) : Ok (L_AI_0 d) (fun x : X_AI_0 => x.2.1 = b ∧ (∀ p, p < 276 → x.2.2.1.1 p = 0) ∧ ∀ i, i < 24 → x.2.2.1.2 i = D i) :=
  loop_ok (s := _) (fun d : QL_AI_0.B => 0 ≤ d.1 ∧ d.1 ≤ 24 ∧ d.2.1 = b ∧ (∀ p, p < 276 → d.2.2.1.1 p = 0) ∧ ∀ i, i < 24 → d.2.2.1.2 i = D i) (fun d : QL_AI_0.B => Int.toNat (24 - d.1)) (fun x : X_AI_0 => x.2.1 = b ∧ (∀ p, p < 276 → x.2.2.1.1 p = 0) ∧ ∀ i, i < 24 → x.2.2.1.2 i = D i) (fun d hd => by
    obtain ⟨i0, i1, i2, i3, i4⟩ := hd
    have hw : wI (d.1 + 1) = d.1 + 1 := wI_succ (by omega) (by omega)
    unfold S_AI_0
    dsimp only
    rw [pq_cnd]
    refine ⟨fun h => ?_, fun _ => by rw [pq_ret]; exact ⟨i2, i3, i4⟩⟩
    have h := of_decide_eq_true h
    have r0 : inR d.1 24 = true := by rw [inR_iff]; omega
    have r1 : (true && Nat.ble (276 + Int.toNat d.1 * 1 + 1) 300) = true := by rw [Bool.true_and, nble_iff]; omega
    have k := i4 (Int.toNat d.1) (by omega)
    have hd := hD (Int.toNat d.1) (by omega)
    rw [r0, pq_true, tri_var _ _ (by omega) (by omega), pq_some, pq_true, r1, pq_true, pq_ret, hw]
    refine ⟨⟨by show 0 ≤ d.1 + 1; omega, by show d.1 + 1 ≤ 24; omega, i2, i3, fun i hi => ?_⟩, by show Int.toNat (24 - (d.1 + 1)) < _; omega⟩
    show (bif Nat.beq i (Int.toNat d.1) then d.2.2.1.2 (Int.toNat d.1) else d.2.2.1.2 i) = D i
    rw [upd_at]
    split
    · rename_i e; rw [e, k]
    · exact i4 i hi) 2000 d hd (by omega)
theorem cond1 (b : Bool) (D : Nat → Int) (d : QL_AI_1.B) (hd : 0 ≤ d.1 ∧ d.1 ≤ 276 ∧ d.2.1 = b ∧ (∀ p, p < 276 → d.2.2.1.1 p = 0) ∧ ∀ i, i < 24 → d.2.2.1.2 i = D i) : Ok (L_AI_1 d) (fun x : X_AI_1 => x.2.1 = b ∧ (∀ p, p < 276 → x.2.2.1.1 p = 0) ∧ ∀ i, i < 24 → x.2.2.1.2 i = D i) :=
  loop_ok (s := _) (fun d : QL_AI_1.B => 0 ≤ d.1 ∧ d.1 ≤ 276 ∧ d.2.1 = b ∧ (∀ p, p < 276 → d.2.2.1.1 p = 0) ∧ ∀ i, i < 24 → d.2.2.1.2 i = D i) (fun d : QL_AI_1.B => Int.toNat (276 - d.1)) (fun x : X_AI_1 => x.2.1 = b ∧ (∀ p, p < 276 → x.2.2.1.1 p = 0) ∧ ∀ i, i < 24 → x.2.2.1.2 i = D i) (fun d hd => by
    obtain ⟨i0, i1, i2, i3, i4⟩ := hd
    have hw : wI (d.1 + 1) = d.1 + 1 := wI_succ (by omega) (by omega)
    unfold S_AI_1
    dsimp only
    rw [pq_cnd]
    refine ⟨fun h => ?_, fun _ => by rw [pq_ret]; exact ⟨i2, i3, i4⟩⟩
    have h := of_decide_eq_true h
    have r0 : inR d.1 276 = true := by rw [inR_iff]; omega
    have r1 : Nat.ble (0 + Int.toNat d.1 * 1 + 1) 276 = true := by rw [nble_iff]; omega
    have r2 : Nat.ble (0 + Int.toNat d.1 * 1 + 1) 300 = true := by rw [nble_iff]; omega
    rw [r0, r1, r2, i3 (Int.toNat d.1) (by omega), pq_true, pq_true, clamp_id 0 _ _ _ (by decide) (by decide), pq_some, pq_true, Bool.true_and, pq_true, pq_ret, hw]
    refine ⟨⟨by show 0 ≤ d.1 + 1; omega, by show d.1 + 1 ≤ 276; omega, i2, fun i hi => ?_, i4⟩, by show Int.toNat (276 - (d.1 + 1)) < _; omega⟩
    show (bif Nat.beq i (Int.toNat d.1) then 0 else d.2.2.1.1 i) = 0
    rw [upd_at]
    split
    · rfl
    · exact i3 i hi) 2000 d hd (by omega)
theorem cond_diag (U D : Nat → Int) (b : Bool) (hU : ∀ p, p < 276 → U p = 0) (hD : ∀ i, i < 24 → 1 ≤ D i ∧ D i ≤ 72057594037927936) : Ok (f_AI U D b) (fun r : D_AI => r.2 = b ∧ (∀ p, p < 276 → r.1.1 p = 0) ∧ ∀ i, i < 24 → r.1.2 i = D i) := by
  unfold f_AI B_AI
  show PQ _ _
  refine pq_opt' (cond0 b D hD _ ⟨Int.le_refl 0, (show (0 : Int) ≤ 24 by decide), rfl, hU, fun _ _ => rfl⟩) fun x _ hx => ?_
  refine pq_opt' (cond1 b D _ ⟨Int.le_refl 0, (show (0 : Int) ≤ 276 by decide), hx⟩) fun y _ hy => ?_
  rw [pq_ret]; exact hy
theorem rows1 (k : Nat) (hk : k < 24) (w d : QL_AA_1.B) (hU : ∀ p, p < 276 → w.2.2.2.1.1 p = 0) (hd : 0 ≤ d.1.2.2.2 ∧ d.1.2.2.2 ≤ d.1.2.2.1 ∧ d.1.2.2.1 = (k : Int) + 1 ∧ d.1.1 = k ∧ d.1.2.1 = k ∧ d.2.1 = w.2.1 ∧ d.2.2.1 = w.2.2.1 ∧ d.2.2.2.1 = w.2.2.2.1 ∧ d.2.2.2.2.1 = w.2.2.2.2.1 ∧ ∀ m : Nat, m < 24 → d.2.2.2.2.2 m = if m = k ∧ (m : Int) < d.1.2.2.2 then 1073741824 else 0) : Ok (L_AA_1 d) (fun x : X_AA_1 => x.1.1 = k ∧ x.1.2.1 = k ∧ x.2.1 = w.2.1 ∧ x.2.2.1 = w.2.2.1 ∧ x.2.2.2.1 = w.2.2.2.1 ∧ x.2.2.2.2.1 = w.2.2.2.2.1 ∧ ∀ m : Nat, m < 24 → x.2.2.2.2.2 m = if m = k then 1073741824 else 0) :=
  loop_ok (s := _) (fun d : QL_AA_1.B => 0 ≤ d.1.2.2.2 ∧ d.1.2.2.2 ≤ d.1.2.2.1 ∧ d.1.2.2.1 = (k : Int) + 1 ∧ d.1.1 = k ∧ d.1.2.1 = k ∧ d.2.1 = w.2.1 ∧ d.2.2.1 = w.2.2.1 ∧ d.2.2.2.1 = w.2.2.2.1 ∧ d.2.2.2.2.1 = w.2.2.2.2.1 ∧ ∀ m : Nat, m < 24 → d.2.2.2.2.2 m = if m = k ∧ (m : Int) < d.1.2.2.2 then 1073741824 else 0) (fun d : QL_AA_1.B => Int.toNat (d.1.2.2.1 - d.1.2.2.2)) (fun x : X_AA_1 => x.1.1 = k ∧ x.1.2.1 = k ∧ x.2.1 = w.2.1 ∧ x.2.2.1 = w.2.2.1 ∧ x.2.2.2.1 = w.2.2.2.1 ∧ x.2.2.2.2.1 = w.2.2.2.2.1 ∧ ∀ m : Nat, m < 24 → x.2.2.2.2.2 m = if m = k then 1073741824 else 0) (fun d hd => by
    obtain ⟨i0, i1, i2, i3, i3', i4, i5, i6, i7, i8⟩ := hd
    have hw : wI (d.1.2.2.2 + 1) = d.1.2.2.2 + 1 := wI_succ (by omega) (by omega)
    unfold S_AA_1
    dsimp only
    rw [pq_cnd]
    refine ⟨fun h => ?_, fun h => ?_⟩
    · have h := of_decide_eq_true h
      obtain ⟨m, hm⟩ : ∃ m : Nat, d.1.2.2.2 = (m : Int) := ⟨Int.toNat d.1.2.2.2, by omega⟩
      have r0 : inR d.1.2.2.2 24 = true := by rw [inR_iff]; omega
      have r1 : (true && Nat.ble (0 + Int.toNat d.1.2.2.2 * 1 + 1) 24) = true := by rw [Bool.true_and, nble_iff]; omega
      rw [r0, r1, i6, i3, hm, tri_U_diag _ _ hU m k (by omega) hk, pq_some, pq_true, pq_true, pq_ret]
      rw [hm] at hw
      rw [hw]
      refine ⟨⟨by show 0 ≤ (m : Int) + 1; omega, by show (m : Int) + 1 ≤ d.1.2.2.1; omega, i2, rfl, i3', i4, i5, rfl, i7, fun j hj => ?_⟩, by show Int.toNat (d.1.2.2.1 - ((m : Int) + 1)) < _; omega⟩
      show (bif Nat.beq j (Int.toNat (m : Int)) then (if m = k then 1073741824 else 0) else d.2.2.2.2.2 j) = if j = k ∧ (j : Int) < (m : Int) + 1 then 1073741824 else 0
      rw [upd_at, i8 j hj, hm, Int.toNat_natCast]
      by_cases e1 : j = m
      · subst e1
        rw [if_pos rfl]
        by_cases e2 : j = k
        · rw [if_pos e2, if_pos ⟨e2, by omega⟩]
        · rw [if_neg e2, if_neg (fun h => e2 h.1)]
      · rw [if_neg e1]
        by_cases e2 : j = k ∧ (j : Int) < (m : Int)
        · rw [if_pos e2, if_pos ⟨e2.1, by omega⟩]
        · rw [if_neg e2, if_neg (fun h => e2 ⟨h.1, by omega⟩)]
    · have h := of_decide_eq_false h
      rw [pq_ret]
      refine ⟨i3, i3', i4, i5, i6, i7, fun m hm => ?_⟩
      show d.2.2.2.2.2 m = _
      rw [i8 m hm]
      by_cases e : m = k
      · rw [if_pos e, if_pos ⟨e, by omega⟩]
      · rw [if_neg e, if_neg (fun h => e h.1)]) 2000 d hd (by omega)
theorem rows2 (F : Nat → Int) (hF : ∀ i, i < 24 → F i = 0 ∨ F i = 1073741824) (k : Nat) (hk : k < 24) (w d : QL_AA_2.B) (hf : ∀ i k, i < 24 → k < 24 → w.2.2.1 (i * 24 + k) = if i = k then F i else 0) (hc : ∀ m : Nat, m < 24 → w.2.2.2.2.2 m = if m = k then 1073741824 else 0) (hd : 0 ≤ d.1.2.2 ∧ d.1.2.2 ≤ 24 ∧ d.1.1 = k ∧ d.1.2.1 = k ∧ d.2.1 = w.2.1 ∧ d.2.2.1 = w.2.2.1 ∧ d.2.2.2.1 = w.2.2.2.1 ∧ d.2.2.2.2.2 = w.2.2.2.2.2 ∧ ∀ i j, i < 24 → j < 48 → d.2.2.2.2.1 (i * 48 + j) = if i = j ∧ (j < k ∨ (j = k ∧ (k : Int) < d.1.2.2)) then F i else 0) : Ok (L_AA_2 d) (fun x : X_AA_2 => x.1.2.1 = k ∧ x.2.1 = w.2.1 ∧ x.2.2.1 = w.2.2.1 ∧ x.2.2.2.1 = w.2.2.2.1 ∧ ∀ i j, i < 24 → j < 48 → x.2.2.2.2.1 (i * 48 + j) = if i = j ∧ j < k + 1 then F i else 0) :=
  loop_ok (s := _) (fun d : QL_AA_2.B => 0 ≤ d.1.2.2 ∧ d.1.2.2 ≤ 24 ∧ d.1.1 = k ∧ d.1.2.1 = k ∧ d.2.1 = w.2.1 ∧ d.2.2.1 = w.2.2.1 ∧ d.2.2.2.1 = w.2.2.2.1 ∧ d.2.2.2.2.2 = w.2.2.2.2.2 ∧ ∀ i j, i < 24 → j < 48 → d.2.2.2.2.1 (i * 48 + j) = if i = j ∧ (j < k ∨ (j = k ∧ (k : Int) < d.1.2.2)) then F i else 0) (fun d : QL_AA_2.B => Int.toNat (24 - d.1.2.2)) (fun x : X_AA_2 => x.1.2.1 = k ∧ x.2.1 = w.2.1 ∧ x.2.2.1 = w.2.2.1 ∧ x.2.2.2.1 = w.2.2.2.1 ∧ ∀ i j, i < 24 → j < 48 → x.2.2.2.2.1 (i * 48 + j) = if i = j ∧ j < k + 1 then F i else 0) (fun d hd => by
    obtain ⟨i0, i1, i2, i3, i4, i5, i6, i7, i8⟩ := hd
    have hw : wI (d.1.2.2 + 1) = d.1.2.2 + 1 := wI_succ (by omega) (by omega)
    unfold S_AA_2
    dsimp only
    rw [pq_cnd]
    refine ⟨fun h => ?_, fun h => ?_⟩
    · have h := of_decide_eq_true h
      obtain ⟨m, hm⟩ : ∃ m : Nat, d.1.2.2 = (m : Int) := ⟨Int.toNat d.1.2.2, by omega⟩
      have hm24 : m < 24 := by omega
      have r0 : inR d.1.2.2 24 = true := by rw [inR_iff]; omega
      have r1 : inR d.1.1 48 = true := by rw [inR_iff]; omega
      have r2 : (true && Nat.ble (0 + (Int.toNat d.1.2.2 * 48 + Int.toNat d.1.1) * 1 + 1) 1152) = true := by rw [Bool.true_and, nble_iff]; omega
      have bF : ∀ j, j < 24 → -1152921504606846976 ≤ F j ∧ F j ≤ 1152921504606846976 := fun j hj => by have := hF j hj; omega
      have dot : f_AE 30 24 24 d.2.1 (fun j => d.2.2.1 (0 + Int.toNat d.1.2.2 * 24 + j)) d.2.2.2.2.2 false false = some (if m = k then F k else 0, d.2.1) := by
        have fj : ∀ j, j < 24 → d.2.2.1 (0 + Int.toNat d.1.2.2 * 24 + j) = if m = j then F m else 0 := fun j hj => by
          rw [i5, hm, Int.toNat_natCast, Nat.zero_add]; exact hf m j hm24 hj
        have gj : ∀ j, j < 24 → d.2.2.2.2.2 j = if j = k then 1073741824 else 0 := fun j hj => by rw [i7]; exact hc j hj
        refine dot_one 24 k (by decide) hk _ _ _ _ _ _ (fun j hj => ?_) (fun j hj => ?_) (fun j hj e => ?_) ?_ ?_
        · show -1152921504606846976 ≤ d.2.2.1 (0 + Int.toNat d.1.2.2 * 24 + j) ∧ d.2.2.1 (0 + Int.toNat d.1.2.2 * 24 + j) ≤ 1152921504606846976
          rw [fj j hj]
          have := bF m hm24
          split <;> omega
        · rw [gj j hj]
          split <;> omega
        · show d.2.2.1 (0 + Int.toNat d.1.2.2 * 24 + j) * d.2.2.2.2.2 j = 0
          rw [gj j hj, if_neg e, Int.mul_zero]
        · show d.2.2.1 (0 + Int.toNat d.1.2.2 * 24 + k) * d.2.2.2.2.2 k = _
          rw [fj k hk, gj k hk, if_pos rfl]
          by_cases e : m = k
          · subst e; rw [if_pos rfl]
          · rw [if_neg e, if_neg e]
        · have := bF k hk
          split <;> omega
      rw [r0, pq_true, dot, pq_some, pq_true, r1, pq_true, r2, pq_true, pq_ret, hw]
      refine ⟨⟨by show 0 ≤ d.1.2.2 + 1; omega, by show d.1.2.2 + 1 ≤ 24; omega, i2, i3, i4, i5, i6, i7, fun i j hi hj => ?_⟩, by show Int.toNat (24 - (d.1.2.2 + 1)) < _; omega⟩
      show (bif Nat.beq (i * 48 + j) (Int.toNat d.1.2.2 * 48 + Int.toNat d.1.1) then (if m = k then F k else 0) else d.2.2.2.2.1 (i * 48 + j)) = if i = j ∧ (j < k ∨ (j = k ∧ (k : Int) < d.1.2.2 + 1)) then F i else 0
      rw [upd_at, i8 i j hi hj, hm, i2, Int.toNat_natCast, Int.toNat_natCast]
      by_cases e1 : i * 48 + j = m * 48 + k
      · have ei : i = m := by omega
        have ej : j = k := by omega
        subst ei
        subst ej
        rw [if_pos e1]
        by_cases e2 : i = j
        · subst e2; rw [if_pos rfl, if_pos ⟨rfl, Or.inr ⟨rfl, by omega⟩⟩]
        · rw [if_neg e2, if_neg (fun h => e2 h.1)]
      · rw [if_neg e1]
        by_cases e2 : i = j ∧ (j < k ∨ (j = k ∧ (k : Int) < (m : Int)))
        · rw [if_pos e2, if_pos (by omega)]
        · rw [if_neg e2, if_neg (by omega)]
    · have h := of_decide_eq_false h
      rw [pq_ret]
      refine ⟨i3, i4, i5, i6, fun i j hi hj => ?_⟩
      show d.2.2.2.2.1 (i * 48 + j) = _
      rw [i8 i j hi hj]
      by_cases e : i = j ∧ (j < k ∨ (j = k ∧ (k : Int) < d.1.2.2))
      · rw [if_pos e, if_pos (by omega)]
      · rw [if_neg e, if_neg (by omega)]) 2000 d hd (by omega)
theorem rows0 (F : Nat → Int) (hF : ∀ i, i < 24 → F i = 0 ∨ F i = 1073741824) (w d : QL_AA_0.B) (hU : ∀ p, p < 276 → w.2.2.2.1.1 p = 0) (hf : ∀ i k, i < 24 → k < 24 → w.2.2.1 (i * 24 + k) = if i = k then F i else 0) (hd : 0 ≤ d.1 ∧ d.1 ≤ 24 ∧ d.2.1 = w.2.1 ∧ d.2.2.1 = w.2.2.1 ∧ d.2.2.2.1 = w.2.2.2.1 ∧ ∀ i j, i < 24 → j < 48 → d.2.2.2.2 (i * 48 + j) = if i = j ∧ (j : Int) < d.1 then F i else 0) : Ok (L_AA_0 d) (fun x : X_AA_0 => x.2.1 = w.2.1 ∧ x.2.2.1 = w.2.2.1 ∧ ∀ i j, i < 24 → j < 48 → x.2.2.2.2 (i * 48 + j) = if i = j ∧ j < 24 then F i else 0) :=
  loop_ok (s := _) (fun d : QL_AA_0.B => 0 ≤ d.1 ∧ d.1 ≤ 24 ∧ d.2.1 = w.2.1 ∧ d.2.2.1 = w.2.2.1 ∧ d.2.2.2.1 = w.2.2.2.1 ∧ ∀ i j, i < 24 → j < 48 → d.2.2.2.2 (i * 48 + j) = if i = j ∧ (j : Int) < d.1 then F i else 0) (fun d : QL_AA_0.B => Int.toNat (24 - d.1)) (fun x : X_AA_0 => x.2.1 = w.2.1 ∧ x.2.2.1 = w.2.2.1 ∧ ∀ i j, i < 24 → j < 48 → x.2.2.2.2 (i * 48 + j) = if i = j ∧ j < 24 then F i else 0) (fun d hd => by
    obtain ⟨i0, i1, i2, i3, i4, i5⟩ := hd
    unfold S_AA_0
    dsimp only
    rw [pq_cnd]
    refine ⟨fun h => ?_, fun h => ?_⟩
    · have h := of_decide_eq_true h
      obtain ⟨k, hk⟩ : ∃ m : Nat, d.1 = (m : Int) := ⟨Int.toNat d.1, by omega⟩
      have hk24 : k < 24 := by omega
      have hw : wI (d.1 + 1) = (k : Int) + 1 := by rw [hk]; exact wI_succ (by omega) (by omega)
      refine pq_opt' (rows1 k hk24 ((d.1, d.1, wI (d.1 + 1), 0), d.2.1, d.2.2.1, d.2.2.2.1, d.2.2.2.2, fun x => 0) _ (by show ∀ p, p < 276 → d.2.2.2.1.1 p = 0; rw [i4]; exact hU) ⟨Int.le_refl 0, by show 0 ≤ wI (d.1 + 1); omega, hw, hk, hk, rfl, rfl, rfl, rfl, fun m hm => by show (0 : Int) = _; rw [if_neg (by show ¬ (m = k ∧ (m : Int) < 0); omega)]⟩) fun x _ hx => ?_
      obtain ⟨a0, a1, a2, a3, a4, a5, a6⟩ := hx
      have a2 : x.2.1 = d.2.1 := a2
      have a3 : x.2.2.1 = d.2.2.1 := a3
      have a4 : x.2.2.2.1 = d.2.2.2.1 := a4
      have a5 : x.2.2.2.2.1 = d.2.2.2.2 := a5
      refine pq_opt' (rows2 F hF k hk24 ((x.1.1, x.1.2.1, 0), x.2) _ (by show ∀ i k, i < 24 → k < 24 → x.2.2.1 (i * 24 + k) = _; rw [a3, i3]; exact hf) a6 ⟨Int.le_refl 0, (show (0 : Int) ≤ 24 by decide), a0, a1, rfl, rfl, rfl, rfl, fun i j hi hj => ?_⟩) fun y _ hy => ?_
      · show x.2.2.2.2.1 (i * 48 + j) = if i = j ∧ (j < k ∨ (j = k ∧ (k : Int) < 0)) then F i else 0
        rw [a5, i5 i j hi hj]
        by_cases e : i = j ∧ (j : Int) < d.1
        · rw [if_pos e, if_pos (by omega)]
        · rw [if_neg e, if_neg (by omega)]
      obtain ⟨b1, b2, b3, b4, b5⟩ := hy
      have b2 : y.2.1 = x.2.1 := b2
      have b3 : y.2.2.1 = x.2.2.1 := b3
      have b4 : y.2.2.2.1 = x.2.2.2.1 := b4
      have hw2 : wI (y.1.2.1 + 1) = d.1 + 1 := by rw [b1, hk]; exact wI_succ (by omega) (by omega)
      rw [pq_ret, hw2]
      refine ⟨⟨by show 0 ≤ d.1 + 1; omega, by show d.1 + 1 ≤ 24; omega, b2.trans (a2.trans i2), b3.trans (a3.trans i3), b4.trans (a4.trans i4), fun i j hi hj => ?_⟩, by show Int.toNat (24 - (d.1 + 1)) < _; omega⟩
      show y.2.2.2.2.1 (i * 48 + j) = if i = j ∧ (j : Int) < d.1 + 1 then F i else 0
      rw [b5 i j hi hj]
      by_cases e : i = j ∧ j < k + 1
      · rw [if_pos e, if_pos (by omega)]
      · rw [if_neg e, if_neg (by omega)]
    · have h := of_decide_eq_false h
      rw [pq_ret]
      refine ⟨i2, i3, fun i j hi hj => ?_⟩
      show d.2.2.2.2 (i * 48 + j) = _
      rw [i5 i j hi hj]
      by_cases e : i = j ∧ j < 24
      · rw [if_pos e, if_pos (by omega)]
      · rw [if_neg e, if_neg (by omega)]) 2000 d hd (by omega)
theorem rows3 (F : Nat → Int) (b : Bool) (d : QL_AA_3.B) (hd : 0 ≤ d.1 ∧ d.1 ≤ 24 ∧ d.2.1 = b ∧ ∀ i k : Nat, i < 24 → k < 48 → d.2.2.2 (i * 48 + k) = if i = k then F i else if k = 24 + i ∧ (i : Int) < d.1 then 1073741824 else 0) : Ok (L_AA_3 d) (fun x : X_AA_3 => x.2.1 = b ∧ ∀ i k, i < 24 → k < 48 → x.2.2.2 (i * 48 + k) = if i = k then F i else if k = 24 + i then 1073741824 else 0) :=
  loop_ok (s := _) (fun d : QL_AA_3.B => 0 ≤ d.1 ∧ d.1 ≤ 24 ∧ d.2.1 = b ∧ ∀ i k : Nat, i < 24 → k < 48 → d.2.2.2 (i * 48 + k) = if i = k then F i else if k = 24 + i ∧ (i : Int) < d.1 then 1073741824 else 0) (fun d : QL_AA_3.B => Int.toNat (24 - d.1)) (fun x : X_AA_3 => x.2.1 = b ∧ ∀ i k, i < 24 → k < 48 → x.2.2.2 (i * 48 + k) = if i = k then F i else if k = 24 + i then 1073741824 else 0) (fun d hd => by
    obtain ⟨i0, i1, i2, i3⟩ := hd
    have hw : wI (d.1 + 1) = d.1 + 1 := wI_succ (by omega) (by omega)
    unfold S_AA_3
    dsimp only
    rw [pq_cnd]
    refine ⟨fun h => ?_, fun h => ?_⟩
    · have h := of_decide_eq_true h
      have h1 : wI (24 + d.1) = 24 + d.1 := wI_id (by omega) (by omega)
      have r0 : inR d.1 24 = true := by rw [inR_iff]; omega
      have r1 : inR (24 + d.1) 48 = true := by rw [inR_iff]; omega
      have r2 : (true && Nat.ble (0 + (Int.toNat d.1 * 48 + Int.toNat (24 + d.1)) * 1 + 1) 1152) = true := by rw [Bool.true_and, nble_iff]; omega
      rw [h1, r0, r1, r2, hw, pq_true, pq_true, pq_true, pq_ret]
      refine ⟨⟨by show 0 ≤ d.1 + 1; omega, by show d.1 + 1 ≤ 24; omega, i2, fun i k hi hk => ?_⟩, by show Int.toNat (24 - (d.1 + 1)) < _; omega⟩
      show (bif Nat.beq (i * 48 + k) (Int.toNat d.1 * 48 + Int.toNat (24 + d.1)) then 1073741824 else d.2.2.2 (i * 48 + k)) = if i = k then F i else if k = 24 + i ∧ (i : Int) < d.1 + 1 then 1073741824 else 0
      rw [upd_at, i3 i k hi hk]
      by_cases e1 : i * 48 + k = Int.toNat d.1 * 48 + Int.toNat (24 + d.1)
      · rw [if_pos e1, if_neg (by omega), if_pos (by omega)]
      · rw [if_neg e1]
        by_cases e2 : i = k
        · rw [if_pos e2, if_pos e2]
        · rw [if_neg e2, if_neg e2]
          by_cases e3 : k = 24 + i ∧ (i : Int) < d.1
          · rw [if_pos e3, if_pos (by omega)]
          · rw [if_neg e3, if_neg (by omega)]
    · have h := of_decide_eq_false h
      rw [pq_ret]
      refine ⟨i2, fun i k hi hk => ?_⟩
      show d.2.2.2 (i * 48 + k) = _
      rw [i3 i k hi hk]
      by_cases e2 : i = k
      · rw [if_pos e2, if_pos e2]
      · rw [if_neg e2, if_neg e2]
        by_cases e3 : k = 24 + i
        · rw [if_pos e3, if_pos (by omega)]
        · rw [if_neg e3, if_neg (by omega)]) 2000 d hd (by omega)
theorem rows_diag (F U D Fm : Nat → Int) (b : Bool) (hF : ∀ i, i < 24 → F i = 0 ∨ F i = 1073741824) (hU : ∀ p, p < 276 → U p = 0) (hf : ∀ i k, i < 24 → k < 24 → Fm (i * 24 + k) = if i = k then F i else 0) : Ok (f_AA U D b Fm) (fun r : D_AA => r.1 = b ∧ ∀ i k, i < 24 → k < 48 → r.2 (i * 48 + k) = if i = k then F i else if k = 24 + i then 1073741824 else 0) := by
  unfold f_AA B_AA
  show PQ _ _
  refine pq_opt' (rows0 F hF (0, b, Fm, (U, D), fun x => 0) _ hU hf ⟨Int.le_refl 0, (show (0 : Int) ≤ 24 by decide), rfl, rfl, rfl, fun i j hi hj => by show (0 : Int) = _; rw [if_neg (by show ¬ (i = j ∧ (j : Int) < 0); omega)]⟩) fun x _ hx => ?_
  obtain ⟨a1, a2, a3⟩ := hx
  refine pq_opt' (rows3 F b _ ⟨Int.le_refl 0, (show (0 : Int) ≤ 24 by decide), a1, fun i k hi hk => ?_⟩) fun y _ hy => ?_
  · show x.2.2.2.2 (i * 48 + k) = _
    rw [a3 i k hi hk]
    by_cases e : i = k
    · rw [if_pos ⟨e, by omega⟩, if_pos e]
    · rw [if_neg (fun h => e h.1), if_neg e, if_neg (by show ¬ (k = 24 + i ∧ (i : Int) < 0); omega)]
  · rw [pq_ret]; exact hy
end Go.Proofs.YtphkdkkbbfnkaaaGreat
