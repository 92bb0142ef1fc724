/-
  Plain helps: block.Reset of a covariance that is diagonal
-/
import Derived.Test.YtphkdkkbbfnkaaaGreatTDg
set_option maxRecDepth 100000
set_option maxHeartbeats 4000000
set_option linter.unusedVariables false
set_option linter.unusedSimpArgs false
namespace Go.Proofs.YtphkdkkbbfnkaaaGreat
open Go.Ab Go.Ab.Pg
theorem stp1 (F : Nat → Int) (hF : ∀ i, i < 24 → F i = 0 ∨ F i = 1073741824) (w d : QL_O_1.B) (hi : 0 ≤ w.1.1 ∧ w.1.1 < 24) (hd : 0 ≤ d.1.2.2 ∧ d.1.2.2 ≤ 24 ∧ d.1.1 = w.1.1 ∧ d.1.2.1 = w.1.2.1 ∧ d.2.1 = w.2.1 ∧ d.2.2.1 = w.2.2.1 ∧ (∀ i k, i < 24 → k < 24 → d.2.2.2.1 (i * 24 + k) = if i = k then F i else 0) ∧ d.2.2.2.2 = w.2.2.2.2) : Ok (L_O_1 d) (fun x : X_O_1 => x.1.2.1 = w.1.2.1 ∧ x.2.1 = w.2.1 ∧ x.2.2.1 = w.2.2.1 ∧ (∀ i k, i < 24 → k < 24 → x.2.2.2.1 (i * 24 + k) = if i = k then F i else 0) ∧ x.2.2.2.2 = w.2.2.2.2) :=
  loop_ok (s := _) (fun d : QL_O_1.B => 0 ≤ d.1.2.2 ∧ d.1.2.2 ≤ 24 ∧ d.1.1 = w.1.1 ∧ d.1.2.1 = w.1.2.1 ∧ d.2.1 = w.2.1 ∧ d.2.2.1 = w.2.2.1 ∧ (∀ i k, i < 24 → k < 24 → d.2.2.2.1 (i * 24 + k) = if i = k then F i else 0) ∧ d.2.2.2.2 = w.2.2.2.2) (fun d : QL_O_1.B => Int.toNat (24 - d.1.2.2)) (fun x : X_O_1 => x.1.2.1 = w.1.2.1 ∧ x.2.1 = w.2.1 ∧ x.2.2.1 = w.2.2.1 ∧ (∀ i k, i < 24 → k < 24 → x.2.2.2.1 (i * 24 + k) = if i = k then F i else 0) ∧ x.2.2.2.2 = w.2.2.2.2) (fun d hd => by
    obtain ⟨i0, i1, i2, i3, i4, i5, i6, i7⟩ := hd
    have hw : wI (d.1.2.2 + 1) = d.1.2.2 + 1 := wI_succ (by omega) (by omega)
    unfold S_O_1
    dsimp only
    rw [pq_cnd]
    refine ⟨fun h => ?_, fun h => by rw [pq_ret]; exact ⟨i3, i4, i5, i6, i7⟩⟩
    have h := of_decide_eq_true h
    have r0 : inR d.1.1 24 = true := by rw [inR_iff, i2]; omega
    have r1 : inR d.1.2.2 24 = true := by rw [inR_iff]; omega
    have r2 : (true && Nat.ble (0 + (Int.toNat d.1.1 * 24 + Int.toNat d.1.2.2) * 1 + 1) 576) = true := by rw [Bool.true_and, nble_iff, i2]; omega
    have v := i6 (Int.toNat d.1.1) (Int.toNat d.1.2.2) (by rw [i2]; omega) (by omega)
    have bF := hF (Int.toNat d.1.1) (by rw [i2]; omega)
    have s : f_Z (d.2.2.2.1 (Int.toNat d.1.1 * 24 + Int.toNat d.1.2.2)) d.2.1 = some (d.2.2.2.1 (Int.toNat d.1.1 * 24 + Int.toNat d.1.2.2), d.2.1) := by
      have r : -1152921504606846976 ≤ d.2.2.2.1 (Int.toNat d.1.1 * 24 + Int.toNat d.1.2.2) ∧ d.2.2.2.1 (Int.toNat d.1.1 * 24 + Int.toNat d.1.2.2) ≤ 1152921504606846976 := by rw [v]; split <;> omega
      rw [acc_sat, sat_eq r, over_no r, Bool.or_false]
    rw [r0, r1, r2, pq_true, pq_true, s, pq_some, pq_true, pq_true, pq_true, pq_ret, hw]
    refine ⟨⟨by show 0 ≤ d.1.2.2 + 1; omega, by show d.1.2.2 + 1 ≤ 24; omega, i2, i3, i4, i5, fun i k hi hk => ?_, i7⟩, by show Int.toNat (24 - (d.1.2.2 + 1)) < _; omega⟩
    show (bif Nat.beq (i * 24 + k) (Int.toNat d.1.1 * 24 + Int.toNat d.1.2.2) then d.2.2.2.1 (Int.toNat d.1.1 * 24 + Int.toNat d.1.2.2) else d.2.2.2.1 (i * 24 + k)) = _
    rw [upd_at]
    split
    · rename_i e; rw [← e]; exact i6 i k hi hk
    · exact i6 i k hi hk) 2000 d hd (by omega)
theorem stp0 (F D q : Nat → Int) (b : Bool) (hF : ∀ i, i < 24 → F i = 0 ∨ F i = 1073741824) (w d : QL_O_0.B) (hD : ∀ i, i < 24 → w.2.2.1.2 i = D i) (hq : ∀ i, i < 24 → w.2.2.2.2.1 i = q i ∧ 0 ≤ q i ∧ q i ≤ 72057594037927936) (hd : 0 ≤ d.1 ∧ d.1 ≤ 24 ∧ d.2.1 = b ∧ d.2.2.1 = w.2.2.1 ∧ (∀ i k, i < 24 → k < 24 → d.2.2.2.1 (i * 24 + k) = if i = k then F i else 0) ∧ d.2.2.2.2.1 = w.2.2.2.2.1 ∧ d.2.2.2.2.2.1 = w.2.2.2.2.2.1 ∧ ∀ i : Nat, i < 24 → (i : Int) < d.1 → d.2.2.2.2.2.2 i = D i ∧ d.2.2.2.2.2.2 (24 + i) = q i) : Ok (L_O_0 d) (fun x : X_O_0 => x.2.1 = b ∧ x.2.2.1 = w.2.2.1 ∧ (∀ i k, i < 24 → k < 24 → x.2.2.2.1 (i * 24 + k) = if i = k then F i else 0) ∧ x.2.2.2.2.2.1 = w.2.2.2.2.2.1 ∧ ∀ i : Nat, i < 24 → (i : Int) < 24 → x.2.2.2.2.2.2 i = D i ∧ x.2.2.2.2.2.2 (24 + i) = q i) :=
  loop_ok (s := _) (fun d : QL_O_0.B => 0 ≤ d.1 ∧ d.1 ≤ 24 ∧ d.2.1 = b ∧ d.2.2.1 = w.2.2.1 ∧ (∀ i k, i < 24 → k < 24 → d.2.2.2.1 (i * 24 + k) = if i = k then F i else 0) ∧ d.2.2.2.2.1 = w.2.2.2.2.1 ∧ d.2.2.2.2.2.1 = w.2.2.2.2.2.1 ∧ ∀ i : Nat, i < 24 → (i : Int) < d.1 → d.2.2.2.2.2.2 i = D i ∧ d.2.2.2.2.2.2 (24 + i) = q i) (fun d : QL_O_0.B => Int.toNat (24 - d.1)) (fun x : X_O_0 => x.2.1 = b ∧ x.2.2.1 = w.2.2.1 ∧ (∀ i k, i < 24 → k < 24 → x.2.2.2.1 (i * 24 + k) = if i = k then F i else 0) ∧ x.2.2.2.2.2.1 = w.2.2.2.2.2.1 ∧ ∀ i : Nat, i < 24 → (i : Int) < 24 → x.2.2.2.2.2.2 i = D i ∧ x.2.2.2.2.2.2 (24 + i) = q i) (fun d hd => by
    obtain ⟨i0, i1, i2, i3, i4, i5, i6, i7⟩ := hd
    have hw : wI (d.1 + 1) = d.1 + 1 := wI_succ (by omega) (by omega)
    unfold S_O_0
    dsimp only
    rw [pq_cnd]
    refine ⟨fun h => ?_, fun h => ?_⟩
    · have h := of_decide_eq_true h
      have h1 : wI (24 + d.1) = 24 + d.1 := wI_id (by omega) (by omega)
      have r0 : inR d.1 24 = true := by rw [inR_iff]; omega
      have r1 : inR d.1 48 = true := by rw [inR_iff]; omega
      have r2 : (true && Nat.ble (0 + Int.toNat d.1 * 1 + 1) 48) = true := by rw [Bool.true_and, nble_iff]; omega
      have r3 : inR (24 + d.1) 48 = true := by rw [inR_iff]; omega
      have r4 : (true && Nat.ble (0 + Int.toNat (24 + d.1) * 1 + 1) 48) = true := by rw [Bool.true_and, nble_iff]; omega
      obtain ⟨m, hm⟩ : ∃ m : Nat, d.1 = (m : Int) := ⟨Int.toNat d.1, by omega⟩
      have hm24 : m < 24 := by omega
      have vq := hq m hm24
      have c : f_AC (d.2.2.2.2.1 (Int.toNat d.1)) 0 72057594037927936 d.2.1 = some (q m, b) := by
        rw [i5, hm, Int.toNat_natCast, vq.1, i2]; exact clamp_id _ _ _ _ vq.2.1 vq.2.2
      rw [h1, r0, r1, r2, r3, r4, pq_true, pq_true, c, pq_some, pq_true, pq_true, pq_true, pq_true]
      refine pq_opt' (stp1 F hF _ _ ⟨i0, h⟩ ⟨Int.le_refl 0, (show (0 : Int) ≤ 24 by decide), rfl, rfl, rfl, rfl, i4, rfl⟩) fun x _ hx => ?_
      obtain ⟨a0, a1, a2, a3, a4⟩ := hx
      have a0 : x.1.2.1 = d.1 := a0
      have a1 : x.2.1 = b := a1
      have a2 : x.2.2.1 = d.2.2.1 := a2
      rw [pq_ret, a0, hw]
      refine ⟨⟨by show 0 ≤ d.1 + 1; omega, by show d.1 + 1 ≤ 24; omega, a1, a2.trans i3, a3, (congrArg (fun z => z.1) a4).trans i5, (congrArg (fun z => z.2.1) a4).trans i6, fun i hi hj => ?_⟩, by show Int.toNat (24 - (d.1 + 1)) < _; omega⟩
      have a6 : x.2.2.2.2.2.2 = fun j => bif Nat.beq j (Int.toNat (24 + d.1)) then q m else bif Nat.beq j (Int.toNat d.1) then d.2.2.1.2 (Int.toNat d.1) else d.2.2.2.2.2.2 j := congrArg (fun z => z.2.2) a4
      show x.2.2.2.2.2.2 i = D i ∧ x.2.2.2.2.2.2 (24 + i) = q i
      have hj : (i : Int) < d.1 + 1 := hj
      rw [a6]
      show (bif Nat.beq i (Int.toNat (24 + d.1)) then q m else bif Nat.beq i (Int.toNat d.1) then d.2.2.1.2 (Int.toNat d.1) else d.2.2.2.2.2.2 i) = D i ∧ (bif Nat.beq (24 + i) (Int.toNat (24 + d.1)) then q m else bif Nat.beq (24 + i) (Int.toNat d.1) then d.2.2.1.2 (Int.toNat d.1) else d.2.2.2.2.2.2 (24 + i)) = q i
      rw [upd_if, upd_if, upd_if, upd_if, if_neg (by omega : ¬ i = Int.toNat (24 + d.1)), if_neg (by omega : ¬ 24 + i = Int.toNat d.1)]
      by_cases e : i = m
      · subst e
        rw [if_pos (by omega : i = Int.toNat d.1), if_pos (by omega : 24 + i = Int.toNat (24 + d.1)), hm, Int.toNat_natCast, i3]
        exact ⟨hD i hi, rfl⟩
      · rw [if_neg (by omega : ¬ i = Int.toNat d.1), if_neg (by omega : ¬ 24 + i = Int.toNat (24 + d.1))]
        exact i7 i hi (by omega)
    · have h := of_decide_eq_false h
      rw [pq_ret]
      exact ⟨i2, i3, i4, i6, fun i hi hj => i7 i hi (by omega)⟩) 2000 d hd (by omega)
def Keeps (F D q : Nat → Int) : Prop := ∀ i, i < 24 → okV (D i) ∧ ((F i = 1073741824 ∧ q i = 0) ∨ (F i = 0 ∧ okV (q i)))
def kept (F D q : Nat → Int) (i : Nat) : Int := if F i = 0 then q i else D i
theorem Keeps.F {F D q : Nat → Int} (h : Keeps F D q) : ∀ i, i < 24 → F i = 0 ∨ F i = 1073741824 := fun i hi => by
  rcases (h i hi).2 with a | a
  · exact Or.inr a.1
  · exact Or.inl a.1
theorem Keeps.q {F D q : Nat → Int} (h : Keeps F D q) : ∀ i, i < 24 → 0 ≤ q i ∧ q i ≤ 72057594037927936 := fun i hi => by
  rcases (h i hi).2 with a | a
  · have := a.2; omega
  · have := a.2.le; omega
theorem Keeps.z {F D q : Nat → Int} (h : Keeps F D q) : ∀ i, i < 24 → ¬ F i = 0 → q i = 0 ∧ F i = 1073741824 := fun i hi n => by
  rcases (h i hi).2 with a | a
  · exact ⟨a.2, a.1⟩
  · exact absurd a.1 n
theorem Keeps.k {F D q : Nat → Int} (h : Keeps F D q) : ∀ i, i < 24 → okV (kept F D q i) := fun i hi => by
  unfold kept
  rcases (h i hi).2 with a | a
  · rw [if_neg (by omega)]; exact (h i hi).1
  · rw [if_pos a.1]; exact a.2
def yv (F D q : Nat → Int) (j k : Nat) : Int := if k = j then (if F j = 0 then 0 else D j) else if k = 24 + j then q j else 0
theorem yv_le {F D q : Nat → Int} (h : Keeps F D q) (j k : Nat) (hj : j < 24) : -1152921504606846976 ≤ yv F D q j k ∧ yv F D q j k ≤ 1152921504606846976 := by
  have := (h j hj).1.le
  have := h.q j hj
  unfold yv
  split
  · split <;> omega
  · split <;> omega
theorem stp3 (F D q : Nat → Int) (hk : Keeps F D q) (j : Nat) (hj : j < 24) (w d : QL_O_3.B) (he : ∀ i : Nat, i < 24 → w.2.2.2.1 i = D i ∧ w.2.2.2.1 (24 + i) = q i) (hW : (∀ i k, i < 24 → k < 48 → w.2.2.2.2.1 (i * 48 + k) = if i = k then F i else if k = 24 + i then 1073741824 else 0)) (hd : 0 ≤ d.1.2 ∧ d.1.2 ≤ 48 ∧ d.1.1 = (j : Int) ∧ d.2.1 = w.2.1 ∧ d.2.2.1 = w.2.2.1 ∧ d.2.2.2.1 = w.2.2.2.1 ∧ d.2.2.2.2.1 = w.2.2.2.2.1 ∧ d.2.2.2.2.2.1 = w.2.2.2.2.2.1 ∧ ∀ k : Nat, k < 48 → (k : Int) < d.1.2 → d.2.2.2.2.2.2 k = yv F D q j k) : Ok (L_O_3 d) (fun x : X_O_3 => x.1.1 = (j : Int) ∧ x.2.1 = w.2.1 ∧ x.2.2.1 = w.2.2.1 ∧ x.2.2.2.1 = w.2.2.2.1 ∧ x.2.2.2.2.1 = w.2.2.2.2.1 ∧ x.2.2.2.2.2.1 = w.2.2.2.2.2.1 ∧ ∀ k : Nat, k < 48 → x.2.2.2.2.2.2 k = yv F D q j k) :=
  loop_ok (s := _) (fun d : QL_O_3.B => 0 ≤ d.1.2 ∧ d.1.2 ≤ 48 ∧ d.1.1 = (j : Int) ∧ d.2.1 = w.2.1 ∧ d.2.2.1 = w.2.2.1 ∧ d.2.2.2.1 = w.2.2.2.1 ∧ d.2.2.2.2.1 = w.2.2.2.2.1 ∧ d.2.2.2.2.2.1 = w.2.2.2.2.2.1 ∧ ∀ k : Nat, k < 48 → (k : Int) < d.1.2 → d.2.2.2.2.2.2 k = yv F D q j k) (fun d : QL_O_3.B => Int.toNat (48 - d.1.2)) (fun x : X_O_3 => x.1.1 = (j : Int) ∧ x.2.1 = w.2.1 ∧ x.2.2.1 = w.2.2.1 ∧ x.2.2.2.1 = w.2.2.2.1 ∧ x.2.2.2.2.1 = w.2.2.2.2.1 ∧ x.2.2.2.2.2.1 = w.2.2.2.2.2.1 ∧ ∀ k : Nat, k < 48 → x.2.2.2.2.2.2 k = yv F D q j k) (fun d hd => by
    obtain ⟨i0, i1, i2, i3, i4, i5, i6, i7, i8⟩ := hd
    have hw : wI (d.1.2 + 1) = d.1.2 + 1 := wI_succ (by omega) (by omega)
    unfold S_O_3
    dsimp only
    rw [pq_cnd]
    refine ⟨fun h => ?_, fun h => ?_⟩
    · have h := of_decide_eq_true h
      obtain ⟨m, hm⟩ : ∃ m : Nat, d.1.2 = (m : Int) := ⟨Int.toNat d.1.2, by omega⟩
      have hm48 : m < 48 := by omega
      have r0 : inR d.1.1 24 = true := by rw [inR_iff, i2]; omega
      have r1 : inR d.1.2 48 = true := by rw [inR_iff]; omega
      have r2 : (true && Nat.ble (0 + Int.toNat d.1.2 * 1 + 1) 48) = true := by rw [Bool.true_and, nble_iff]; omega
      have wv : d.2.2.2.2.1 (Int.toNat d.1.1 * 48 + Int.toNat d.1.2) = if j = m then F j else if m = 24 + j then 1073741824 else 0 := by
        rw [i6, i2, hm, Int.toNat_natCast, Int.toNat_natCast]; exact hW j m hj hm48
      have e3 : d.2.2.2.1 (Int.toNat d.1.2) = w.2.2.2.1 m := by rw [i5, hm, Int.toNat_natCast]
      have em : -1152921504606846976 ≤ w.2.2.2.1 m ∧ w.2.2.2.1 m ≤ 1152921504606846976 := by
        by_cases c : m < 24
        · have := (he m c).1; have := (hk m c).1.le; omega
        · have e := (he (m - 24) (by omega)).2
          rw [(by omega : 24 + (m - 24) = m)] at e
          have := hk.q (m - 24) (by omega); omega
      have mul : f_AF (d.2.2.2.2.1 (Int.toNat d.1.1 * 48 + Int.toNat d.1.2)) (d.2.2.2.1 (Int.toNat d.1.2)) 30 d.2.1 = some (yv F D q j m, d.2.1) := by
        have hF := hk.F j hj
        by_cases c1 : m = j
        · have wv' : d.2.2.2.2.1 (Int.toNat d.1.1 * 48 + Int.toNat d.1.2) = F j := by rw [wv, if_pos c1.symm]
          rw [wv', e3, mul_F _ _ _ hF em]
          refine congrArg (fun z => some (z, d.2.1)) ?_
          unfold yv
          rw [if_pos c1, c1, (he j hj).1]
        · by_cases c2 : m = 24 + j
          · have wv' : d.2.2.2.2.1 (Int.toNat d.1.1 * 48 + Int.toNat d.1.2) = 1073741824 := by rw [wv, if_neg (fun h => c1 h.symm), if_pos c2]
            rw [wv', e3, mul_F _ _ _ (Or.inr rfl) em, if_neg (by decide)]
            refine congrArg (fun z => some (z, d.2.1)) ?_
            unfold yv
            rw [if_neg c1, if_pos c2, c2, (he j hj).2]
          · have wv' : d.2.2.2.2.1 (Int.toNat d.1.1 * 48 + Int.toNat d.1.2) = 0 := by rw [wv, if_neg (fun h => c1 h.symm), if_neg c2]
            rw [wv', e3, mul_F _ _ _ (Or.inl rfl) em, if_pos rfl]
            refine congrArg (fun z => some (z, d.2.1)) ?_
            unfold yv
            rw [if_neg c1, if_neg c2]
      rw [r0, r1, r2, pq_true, pq_true, pq_true, mul, pq_some, pq_true, pq_true, pq_ret, hw]
      refine ⟨⟨by show 0 ≤ d.1.2 + 1; omega, by show d.1.2 + 1 ≤ 48; omega, i2, i3, i4, i5, i6, i7, fun k hk48 hkc => ?_⟩, by show Int.toNat (48 - (d.1.2 + 1)) < _; omega⟩
      have hkc : (k : Int) < d.1.2 + 1 := hkc
      show (bif Nat.beq k (Int.toNat d.1.2) then yv F D q j m else d.2.2.2.2.2.2 k) = yv F D q j k
      rw [upd_at]
      split
      · rename_i e
        have : k = m := by omega
        rw [this]
      · exact i8 k hk48 (by omega)
    · have h := of_decide_eq_false h
      rw [pq_ret]
      exact ⟨i2, i3, i4, i5, i6, i7, fun k hk48 => i8 k hk48 (by omega)⟩) 2000 d hd (by omega)
theorem stp5 (F : Nat → Int) (hF : ∀ i, i < 24 → F i = 0 ∨ F i = 1073741824) (w d : QL_O_5.B) (h0 : 0 ≤ w.1.1 ∧ w.1.1 < 24) (h2 : 0 ≤ w.1.2.2.1 ∧ w.1.2.2.1 < 24) (hd : 0 ≤ d.1.2.2.2.2.2.2 ∧ d.1.2.2.2.2.2.2 ≤ 48 ∧ d.1.1 = w.1.1 ∧ d.1.2.1 = w.1.2.1 ∧ d.1.2.2.1 = w.1.2.2.1 ∧ d.1.2.2.2.1 = 0 ∧ d.1.2.2.2.2.1 = w.1.2.2.2.2.1 ∧ d.1.2.2.2.2.2.1 = w.1.2.2.2.2.2.1 ∧ d.2.1 = w.2.1 ∧ d.2.2.1 = w.2.2.1 ∧ d.2.2.2.1 = w.2.2.2.1 ∧ (∀ i k, i < 24 → k < 48 → d.2.2.2.2.1 (i * 48 + k) = if i = k then F i else if k = 24 + i then 1073741824 else 0) ∧ d.2.2.2.2.2 = w.2.2.2.2.2) : Ok (L_O_5 d) (fun x : X_O_5 => x.1.1 = w.1.1 ∧ x.1.2.1 = w.1.2.1 ∧ x.1.2.2.2.2.1 = w.1.2.2.2.2.1 ∧ x.1.2.2.2.2.2.1 = w.1.2.2.2.2.2.1 ∧ x.2.1 = w.2.1 ∧ x.2.2.1 = w.2.2.1 ∧ x.2.2.2.1 = w.2.2.2.1 ∧ (∀ i k, i < 24 → k < 48 → x.2.2.2.2.1 (i * 48 + k) = if i = k then F i else if k = 24 + i then 1073741824 else 0) ∧ x.2.2.2.2.2 = w.2.2.2.2.2) :=
  loop_ok (s := _) (fun d : QL_O_5.B => 0 ≤ d.1.2.2.2.2.2.2 ∧ d.1.2.2.2.2.2.2 ≤ 48 ∧ d.1.1 = w.1.1 ∧ d.1.2.1 = w.1.2.1 ∧ d.1.2.2.1 = w.1.2.2.1 ∧ d.1.2.2.2.1 = 0 ∧ d.1.2.2.2.2.1 = w.1.2.2.2.2.1 ∧ d.1.2.2.2.2.2.1 = w.1.2.2.2.2.2.1 ∧ d.2.1 = w.2.1 ∧ d.2.2.1 = w.2.2.1 ∧ d.2.2.2.1 = w.2.2.2.1 ∧ (∀ i k, i < 24 → k < 48 → d.2.2.2.2.1 (i * 48 + k) = if i = k then F i else if k = 24 + i then 1073741824 else 0) ∧ d.2.2.2.2.2 = w.2.2.2.2.2) (fun d : QL_O_5.B => Int.toNat (48 - d.1.2.2.2.2.2.2)) (fun x : X_O_5 => x.1.1 = w.1.1 ∧ x.1.2.1 = w.1.2.1 ∧ x.1.2.2.2.2.1 = w.1.2.2.2.2.1 ∧ x.1.2.2.2.2.2.1 = w.1.2.2.2.2.2.1 ∧ x.2.1 = w.2.1 ∧ x.2.2.1 = w.2.2.1 ∧ x.2.2.2.1 = w.2.2.2.1 ∧ (∀ i k, i < 24 → k < 48 → x.2.2.2.2.1 (i * 48 + k) = if i = k then F i else if k = 24 + i then 1073741824 else 0) ∧ x.2.2.2.2.2 = w.2.2.2.2.2) (fun d hd => by
    obtain ⟨i0, i1, j0, j1, j2, j3, j4, j5, i3, i4, i5, i6, i7⟩ := hd
    have hw : wI (d.1.2.2.2.2.2.2 + 1) = d.1.2.2.2.2.2.2 + 1 := wI_succ (by omega) (by omega)
    unfold S_O_5
    dsimp only
    rw [pq_cnd]
    refine ⟨fun h => ?_, fun h => by rw [pq_ret]; exact ⟨j0, j1, j4, j5, i3, i4, i5, i6, i7⟩⟩
    have h := of_decide_eq_true h
    have r0 : inR d.1.2.2.1 24 = true := by rw [inR_iff, j2]; omega
    have r1 : inR d.1.2.2.2.2.2.2 48 = true := by rw [inR_iff]; omega
    have r2 : inR d.1.1 24 = true := by rw [inR_iff, j0]; omega
    have r3 : (true && Nat.ble (0 + (Int.toNat d.1.2.2.1 * 48 + Int.toNat d.1.2.2.2.2.2.2) * 1 + 1) 1152) = true := by rw [Bool.true_and, nble_iff, j2]; omega
    have bw : ∀ i, i < 24 → -1152921504606846976 ≤ d.2.2.2.2.1 (i * 48 + Int.toNat d.1.2.2.2.2.2.2) ∧ d.2.2.2.2.1 (i * 48 + Int.toNat d.1.2.2.2.2.2.2) ≤ 1152921504606846976 := fun i hi => by
      rw [i6 i (Int.toNat d.1.2.2.2.2.2.2) hi (by omega)]
      have := hF i hi
      split
      · omega
      · split <;> omega
    have mul : f_AF d.1.2.2.2.1 (d.2.2.2.2.1 (Int.toNat d.1.1 * 48 + Int.toNat d.1.2.2.2.2.2.2)) 30 d.2.1 = some (0, d.2.1) := by
      rw [j3, mul_F 0 _ _ (Or.inl rfl) (bw (Int.toNat d.1.1) (by rw [j0]; omega)), if_pos rfl]
    rw [r0, r1, r2, r3, pq_true, pq_true, pq_true, pq_true, mul, pq_some, sub_zero _ _ (bw (Int.toNat d.1.2.2.1) (by rw [j2]; omega)), pq_some, pq_true, pq_true, pq_true, pq_ret, hw]
    refine ⟨⟨by show 0 ≤ d.1.2.2.2.2.2.2 + 1; omega, by show d.1.2.2.2.2.2.2 + 1 ≤ 48; omega, j0, j1, j2, j3, j4, j5, i3, i4, i5, fun i k hi hk => ?_, i7⟩, by show Int.toNat (48 - (d.1.2.2.2.2.2.2 + 1)) < _; omega⟩
    show (bif Nat.beq (i * 48 + k) (Int.toNat d.1.2.2.1 * 48 + Int.toNat d.1.2.2.2.2.2.2) then d.2.2.2.2.1 (Int.toNat d.1.2.2.1 * 48 + Int.toNat d.1.2.2.2.2.2.2) else d.2.2.2.2.1 (i * 48 + k)) = _
    rw [upd_at]
    split
    · rename_i e; rw [← e]; exact i6 i k hi hk
    · exact i6 i k hi hk) 2000 d hd (by omega)
theorem stp4 (F D q G : Nat → Int) (hk : Keeps F D q) (j : Nat) (hj : j < 24) (v : Int) (hv : okV v) (w d : QL_O_4.B) (hd : 0 ≤ d.1.2.2.2 ∧ d.1.2.2.2 ≤ d.1.2.2.1 ∧ d.1.2.2.1 = (j : Int) ∧ d.1.1 = (j : Int) ∧ d.1.2.1 = v ∧ d.2.1 = w.2.1 ∧ d.2.2.1 = w.2.2.1 ∧ d.2.2.2.1 = w.2.2.2.1 ∧ (∀ i k, i < 24 → k < 48 → d.2.2.2.2.1 (i * 48 + k) = if i = k then F i else if k = 24 + i then 1073741824 else 0) ∧ d.2.2.2.2.2.1 = (fun _ => 0, G) ∧ ∀ k : Nat, k < 48 → d.2.2.2.2.2.2 k = yv F D q j k) : Ok (L_O_4 d) (fun x : X_O_4 => x.1.1 = (j : Int) ∧ x.2.1 = w.2.1 ∧ x.2.2.1 = w.2.2.1 ∧ x.2.2.2.1 = w.2.2.2.1 ∧ (∀ i k, i < 24 → k < 48 → x.2.2.2.2.1 (i * 48 + k) = if i = k then F i else if k = 24 + i then 1073741824 else 0) ∧ x.2.2.2.2.2.1 = (fun _ => 0, G)) :=
  loop_ok (s := _) (fun d : QL_O_4.B => 0 ≤ d.1.2.2.2 ∧ d.1.2.2.2 ≤ d.1.2.2.1 ∧ d.1.2.2.1 = (j : Int) ∧ d.1.1 = (j : Int) ∧ d.1.2.1 = v ∧ d.2.1 = w.2.1 ∧ d.2.2.1 = w.2.2.1 ∧ d.2.2.2.1 = w.2.2.2.1 ∧ (∀ i k, i < 24 → k < 48 → d.2.2.2.2.1 (i * 48 + k) = if i = k then F i else if k = 24 + i then 1073741824 else 0) ∧ d.2.2.2.2.2.1 = (fun _ => 0, G) ∧ ∀ k : Nat, k < 48 → d.2.2.2.2.2.2 k = yv F D q j k) (fun d : QL_O_4.B => Int.toNat (d.1.2.2.1 - d.1.2.2.2)) (fun x : X_O_4 => x.1.1 = (j : Int) ∧ x.2.1 = w.2.1 ∧ x.2.2.1 = w.2.2.1 ∧ x.2.2.2.1 = w.2.2.2.1 ∧ (∀ i k, i < 24 → k < 48 → x.2.2.2.2.1 (i * 48 + k) = if i = k then F i else if k = 24 + i then 1073741824 else 0) ∧ x.2.2.2.2.2.1 = (fun _ => 0, G)) (fun d hd => by
    obtain ⟨i0, i1, j2, j0, j1, i3, i4, i5, i6, i7, i8⟩ := hd
    have hw : wI (d.1.2.2.2 + 1) = d.1.2.2.2 + 1 := wI_succ (by omega) (by omega)
    unfold S_O_4
    dsimp only
    rw [pq_cnd]
    refine ⟨fun h => ?_, fun h => by rw [pq_ret]; exact ⟨j0, i3, i4, i5, i6, i7⟩⟩
    have h := of_decide_eq_true h
    obtain ⟨m, hm⟩ : ∃ m : Nat, d.1.2.2.2 = (m : Int) := ⟨Int.toNat d.1.2.2.2, by omega⟩
    have hmj : m < j := by omega
    have r0 : inR d.1.2.2.2 24 = true := by rw [inR_iff]; omega
    have wv : ∀ k, k < 48 → d.2.2.2.2.1 (0 + Int.toNat d.1.2.2.2 * 48 + k) = if m = k then F m else if k = 24 + m then 1073741824 else 0 := fun k hk => by
      rw [hm, Int.toNat_natCast, Nat.zero_add]; exact i6 m k (by omega) hk
    have dot : f_AE 30 48 48 d.2.1 (fun k => d.2.2.2.2.1 (0 + Int.toNat d.1.2.2.2 * 48 + k)) d.2.2.2.2.2.2 false false = some (0, d.2.1) := by
      have z : ∀ k, k < 48 → d.2.2.2.2.1 (0 + Int.toNat d.1.2.2.2 * 48 + k) * d.2.2.2.2.2.2 k = 0 := fun k hk48 => by
        rw [wv k hk48, i8 k hk48]
        unfold yv
        by_cases c : m = k
        · rw [if_neg (by omega : ¬ k = j), if_neg (by omega : ¬ k = 24 + j), Int.mul_zero]
        · rw [if_neg c]
          by_cases c2 : k = 24 + m
          · rw [if_neg (by omega : ¬ k = j), if_neg (by omega : ¬ k = 24 + j), Int.mul_zero]
          · rw [if_neg c2, Int.zero_mul]
      refine dot_one 48 0 (by decide) (by decide) _ _ _ _ _ _ (fun k hk48 => ?_) (fun k hk48 => ?_) (fun k hk48 _ => z k hk48) (by rw [z 0 (by decide)]; rfl) (by decide)
      · show -1152921504606846976 ≤ d.2.2.2.2.1 (0 + Int.toNat d.1.2.2.2 * 48 + k) ∧ d.2.2.2.2.1 (0 + Int.toNat d.1.2.2.2 * 48 + k) ≤ 1152921504606846976
        rw [wv k hk48]
        have := hk.F m (by omega)
        split
        · omega
        · split <;> omega
      · rw [i8 k hk48]; exact yv_le hk j k hj
    have st : f_BV d.2.2.2.2.2.1.1 d.2.2.2.2.2.1.2 d.1.2.2.2 d.1.1 0 = some (fun _ => 0, G) := by
      rw [i7, hm, j0]; exact tri_Set_zero G m j hmj hj
    rw [r0, pq_true, dot, pq_some, j1, div_zero v _ hv, pq_some, st, pq_some]
    refine pq_opt' (stp5 F hk.F _ _ (by show 0 ≤ d.1.1 ∧ d.1.1 < 24; omega) (by show 0 ≤ d.1.2.2.2 ∧ d.1.2.2.2 < 24; omega) ⟨Int.le_refl 0, (show (0 : Int) ≤ 48 by decide), rfl, rfl, rfl, rfl, rfl, rfl, rfl, rfl, rfl, i6, rfl⟩) fun x _ hx => ?_
    obtain ⟨a0, a1, a4, a5, b1, b2, b3, b4, b5⟩ := hx
    have a4 : x.1.2.2.2.2.1 = d.1.2.2.1 := a4
    have a5 : x.1.2.2.2.2.2.1 = d.1.2.2.2 := a5
    have a0 : x.1.1 = d.1.1 := a0
    rw [pq_ret, a5, hw]
    refine ⟨⟨by show 0 ≤ d.1.2.2.2 + 1; omega, by show d.1.2.2.2 + 1 ≤ x.1.2.2.2.2.1; omega, by show x.1.2.2.2.2.1 = (j : Int); omega, by show x.1.1 = (j : Int); omega, a1, b1.trans i3, b2.trans i4, b3.trans i5, b4, congrArg (fun z => z.1) b5, fun k hk48 => (congrFun (congrArg (fun z => z.2) b5) k).trans (i8 k hk48)⟩, by show Int.toNat (x.1.2.2.2.2.1 - (d.1.2.2.2 + 1)) < _; omega⟩) 2000 d hd (by omega)
theorem stp2 (F D q : Nat → Int) (b : Bool) (e : Nat → Int) (hk : Keeps F D q) (he : ∀ i : Nat, i < 24 → e i = D i ∧ e (24 + i) = q i) (d : QL_O_2.B) (hd : -1 ≤ d.1 ∧ d.1 ≤ 23 ∧ d.2.1 = b ∧ d.2.2.2.1 = e ∧ (∀ i k, i < 24 → k < 48 → d.2.2.2.2.1 (i * 48 + k) = if i = k then F i else if k = 24 + i then 1073741824 else 0) ∧ d.2.2.2.2.2 = (fun _ => 0, fun i : Nat => if d.1 < (i : Int) ∧ i < 24 then kept F D q i else 0)) : Ok (L_O_2 d) (fun x : X_O_2 => x.2.1 = b ∧ x.2.2.2.2.2 = (fun _ => 0, fun i => if i < 24 then kept F D q i else 0)) :=
  loop_ok (s := _) (fun d : QL_O_2.B => -1 ≤ d.1 ∧ d.1 ≤ 23 ∧ d.2.1 = b ∧ d.2.2.2.1 = e ∧ (∀ i k, i < 24 → k < 48 → d.2.2.2.2.1 (i * 48 + k) = if i = k then F i else if k = 24 + i then 1073741824 else 0) ∧ d.2.2.2.2.2 = (fun _ => 0, fun i : Nat => if d.1 < (i : Int) ∧ i < 24 then kept F D q i else 0)) (fun d : QL_O_2.B => Int.toNat (d.1 + 1)) (fun x : X_O_2 => x.2.1 = b ∧ x.2.2.2.2.2 = (fun _ => 0, fun i => if i < 24 then kept F D q i else 0)) (fun d hd => by
    obtain ⟨i0, i1, i2, i3, i4, i5⟩ := hd
    unfold S_O_2
    dsimp only
    rw [pq_cnd]
    refine ⟨fun h => ?_, fun h => ?_⟩
    · have h := of_decide_eq_true h
      obtain ⟨j, hj⟩ : ∃ m : Nat, d.1 = (m : Int) := ⟨Int.toNat d.1, by omega⟩
      have hj24 : j < 24 := by omega
      refine pq_opt' (stp3 F D q hk j hj24 ((d.1, 0), d.2.1, d.2.2.1, d.2.2.2.1, d.2.2.2.2.1, d.2.2.2.2.2, fun x => 0) _ (by show ∀ i : Nat, i < 24 → d.2.2.2.1 i = D i ∧ d.2.2.2.1 (24 + i) = q i; rw [i3]; exact he) i4 ⟨Int.le_refl 0, (show (0 : Int) ≤ 48 by decide), hj, rfl, rfl, rfl, rfl, rfl, fun k _ hk0 => absurd hk0 (by show ¬ (k : Int) < 0; omega)⟩) fun x _ hx => ?_
      obtain ⟨a0, a1, a2, a3, a4, a5, a6⟩ := hx
      have a1 : x.2.1 = d.2.1 := a1
      have a4 : x.2.2.2.2.1 = d.2.2.2.2.1 := a4
      have a3 : x.2.2.2.1 = d.2.2.2.1 := a3
      have a5 : x.2.2.2.2.2.1 = d.2.2.2.2.2 := a5
      have r0 : inR x.1.1 24 = true := by rw [inR_iff, a0]; omega
      have r1 : (true && Nat.ble (276 + Int.toNat x.1.1 * 1 + 1) 300) = true := by rw [Bool.true_and, nble_iff, a0]; omega
      have wv : ∀ k, k < 48 → x.2.2.2.2.1 (0 + Int.toNat x.1.1 * 48 + k) = if j = k then F j else if k = 24 + j then 1073741824 else 0 := fun k hk48 => by
        rw [a4, a0, Int.toNat_natCast, Nat.zero_add]; exact i4 j k hj24 hk48
      have K := (hk j hj24).1.le
      have kp := (hk.k j hj24).le
      have kz := hk.z j hj24
      have dot : f_AE 30 48 48 x.2.1 (fun k => x.2.2.2.2.1 (0 + Int.toNat x.1.1 * 48 + k)) x.2.2.2.2.2.2 false false = some (kept F D q j, x.2.1) := by
        refine dot_one 48 (if F j = 0 then 24 + j else j) (by decide) (by split <;> omega) _ _ _ _ _ _ (fun k hk48 => ?_) (fun k hk48 => ?_) (fun k hk48 hne => ?_) ?_ (by omega)
        · show -1152921504606846976 ≤ x.2.2.2.2.1 (0 + Int.toNat x.1.1 * 48 + k) ∧ x.2.2.2.2.1 (0 + Int.toNat x.1.1 * 48 + k) ≤ 1152921504606846976
          rw [wv k hk48]
          split
          · omega
          · split <;> omega
        · rw [a6 k hk48]; exact yv_le hk j k hj24
        · show x.2.2.2.2.1 (0 + Int.toNat x.1.1 * 48 + k) * x.2.2.2.2.2.2 k = 0
          rw [wv k hk48, a6 k hk48]
          unfold yv
          by_cases c : k = j
          · subst c
            by_cases f0 : F k = 0
            · rw [if_pos rfl, f0, Int.zero_mul]
            · rw [if_neg f0] at hne; exact absurd rfl hne
          · rw [if_neg (fun h => c h.symm), if_neg c]
            by_cases c2 : k = 24 + j
            · by_cases f0 : F j = 0
              · rw [if_pos f0] at hne; exact absurd c2 hne
              · rw [if_pos c2, if_pos c2]
                rw [(kz f0).1, Int.mul_zero]
            · rw [if_neg c2, if_neg c2, Int.zero_mul]
        · show x.2.2.2.2.1 (0 + Int.toNat x.1.1 * 48 + (if F j = 0 then 24 + j else j)) * x.2.2.2.2.2.2 (if F j = 0 then 24 + j else j) = kept F D q j * 1073741824
          rw [wv _ (by split <;> omega), a6 _ (by split <;> omega)]
          unfold yv kept
          by_cases f0 : F j = 0
          · rw [if_pos f0, if_pos f0, if_neg (by omega : ¬ j = 24 + j), if_pos rfl, if_neg (by omega : ¬ 24 + j = j), if_pos rfl, Int.mul_comm, if_pos f0]
          · rw [if_neg f0, if_neg f0, if_pos rfl, if_pos rfl, (kz f0).2, Int.mul_comm, if_neg (by decide)]
      rw [r0, pq_true, dot, pq_some, clamp_id _ _ _ _ kp.1 kp.2, pq_some, pq_true, r1, pq_true]
      refine pq_opt' (stp4 F D q (fun i : Nat => if d.1 - 1 < (i : Int) ∧ i < 24 then kept F D q i else 0) hk j hj24 (kept F D q j) (hk.k j hj24) ((x.1.1, kept F D q j, x.1.1, 0), x.2.1, x.2.2.1, x.2.2.2.1, x.2.2.2.2.1, (x.2.2.2.2.2.1.1, fun i => bif Nat.beq i (Int.toNat x.1.1) then kept F D q j else x.2.2.2.2.2.1.2 i), x.2.2.2.2.2.2) _ ⟨Int.le_refl 0, by show 0 ≤ x.1.1; omega, a0, a0, rfl, rfl, rfl, rfl, by show ∀ i k, i < 24 → k < 48 → x.2.2.2.2.1 (i * 48 + k) = _; rw [a4]; exact i4, ?_, a6⟩) fun y _ hy => ?_
      · refine Prod.ext (by show x.2.2.2.2.2.1.1 = _; rw [a5, i5]) (funext fun i => ?_)
        show (bif Nat.beq i (Int.toNat x.1.1) then kept F D q j else x.2.2.2.2.2.1.2 i) = if d.1 - 1 < (i : Int) ∧ i < 24 then kept F D q i else 0
        rw [upd_at, a0, a5, i5, Int.toNat_natCast]
        show (if i = j then kept F D q j else if d.1 < (i : Int) ∧ i < 24 then kept F D q i else 0) = _
        by_cases c : i = j
        · subst c; rw [if_pos rfl, if_pos (by omega)]
        · rw [if_neg c]
          by_cases c2 : d.1 < (i : Int) ∧ i < 24
          · rw [if_pos c2, if_pos (by omega)]
          · rw [if_neg c2, if_neg (by omega)]
      obtain ⟨b0, b1, b2, b3, b4, b5⟩ := hy
      have b1 : y.2.1 = x.2.1 := b1
      have b3 : y.2.2.2.1 = x.2.2.2.1 := b3
      have hw : wI (y.1.1 - 1) = d.1 - 1 := by rw [b0, ← hj]; exact wI_id (by omega) (by omega)
      rw [pq_ret, hw]
      exact ⟨⟨by show -1 ≤ d.1 - 1; omega, by show d.1 - 1 ≤ 23; omega, b1.trans (a1.trans i2), b3.trans (a3.trans i3), b4, b5⟩, by show Int.toNat (d.1 - 1 + 1) < _; omega⟩
    · have h := of_decide_eq_false h
      rw [pq_ret]
      refine ⟨i2, i5.trans (Prod.ext rfl (funext fun i => ?_))⟩
      show (if d.1 < (i : Int) ∧ i < 24 then kept F D q i else 0) = if i < 24 then kept F D q i else 0
      by_cases c : i < 24
      · rw [if_pos c, if_pos (by omega)]
      · rw [if_neg c, if_neg (by omega)]) 2000 d hd (by omega)
theorem step_diag (F U D Fm Q q : Nat → Int) (b : Bool) (hk : Keeps F D q) (hU : ∀ p, p < 276 → U p = 0) (hf : (∀ i k, i < 24 → k < 24 → Fm (i * 24 + k) = if i = k then F i else 0)) (hq : ∀ i, i < 24 → Q i = q i) : f_O U D Fm Q b = some ((fun _ => 0, fun i => if i < 24 then kept F D q i else 0), b) := by
  have h : Ok (f_O U D Fm Q b) (fun r : D_O => r = ((fun _ => 0, fun i => if i < 24 then kept F D q i else 0), b)) := by
    unfold f_O B_O
    show PQ _ _
    refine pq_opt' (cond_diag U D b hU (fun i hi => (hk i hi).1.le)) fun c _ hc => ?_
    obtain ⟨c0, c1, c2⟩ := hc
    refine pq_opt' (stp0 F D q c.2 hk.F (0, c.2, c.1, Fm, Q, (fun x => 0, fun x => 0), fun x => 0) _ c2 (fun i hi => ⟨hq i hi, hk.q i hi⟩) ⟨Int.le_refl 0, (show (0 : Int) ≤ 24 by decide), rfl, rfl, hf, rfl, rfl, fun i _ hi => absurd hi (by show ¬ (i : Int) < 0; omega)⟩) fun x _ hx => ?_
    obtain ⟨a1, a2, a3, a4, a5⟩ := hx
    have a2 : x.2.2.1 = c.1 := a2
    refine pq_opt' (rows_diag F _ _ x.2.2.2.1 x.2.1 hk.F (by rw [a2]; exact c1) a3) fun w _ hw => ?_
    refine pq_opt' (stp2 F D q b x.2.2.2.2.2.2 hk (fun i hi => a5 i hi (by omega)) _ ⟨(show (-1 : Int) ≤ 23 by decide), (show (23 : Int) ≤ 23 by decide), hw.1.trans (a1.trans c0), rfl, hw.2, ?_⟩) fun y _ hy => ?_
    · refine Prod.ext rfl (funext fun i => ?_)
      show (0 : Int) = if (23 : Int) < (i : Int) ∧ i < 24 then kept F D q i else 0
      rw [if_neg (by omega)]
    · rw [pq_ret]
      exact Prod.ext hy.2 hy.1
  obtain ⟨r, h1, h2⟩ := h
  rw [h1, h2]
theorem one0 (d : QL_Ag_0.B) (hd : 0 ≤ d.1 ∧ d.1 ≤ 24 ∧ ∀ i k : Nat, i < 24 → k < 24 → d.2.2 (i * 24 + k) = if i = k ∧ (i : Int) < d.1 then 1073741824 else 0) : Ok (L_Ag_0 d) (fun x : X_Ag_0 => ∀ i k : Nat, i < 24 → k < 24 → x.2.2 (i * 24 + k) = if i = k then 1073741824 else 0) :=
  loop_ok (s := _) (fun d : QL_Ag_0.B => 0 ≤ d.1 ∧ d.1 ≤ 24 ∧ ∀ i k : Nat, i < 24 → k < 24 → d.2.2 (i * 24 + k) = if i = k ∧ (i : Int) < d.1 then 1073741824 else 0) (fun d : QL_Ag_0.B => Int.toNat (24 - d.1)) (fun x : X_Ag_0 => ∀ i k : Nat, i < 24 → k < 24 → x.2.2 (i * 24 + k) = if i = k then 1073741824 else 0) (fun d hd => by
    obtain ⟨i0, i1, i2⟩ := hd
    have hw : wI (d.1 + 1) = d.1 + 1 := wI_succ (by omega) (by omega)
    unfold S_Ag_0
    dsimp only
    rw [pq_cnd]
    refine ⟨fun h => ?_, fun h => ?_⟩
    · have h := of_decide_eq_true h
      have r0 : inR d.1 24 = true := by rw [inR_iff]; omega
      have r1 : (true && Nat.ble (0 + (Int.toNat d.1 * 24 + Int.toNat d.1) * 1 + 1) 576) = true := by rw [Bool.true_and, nble_iff]; omega
      rw [r0, r1, pq_true, pq_true, pq_true, pq_ret, hw]
      refine ⟨⟨by show 0 ≤ d.1 + 1; omega, by show d.1 + 1 ≤ 24; omega, fun i k hi hk => ?_⟩, by show Int.toNat (24 - (d.1 + 1)) < _; omega⟩
      show (bif Nat.beq (i * 24 + k) (Int.toNat d.1 * 24 + Int.toNat d.1) then 1073741824 else d.2.2 (i * 24 + k)) = if i = k ∧ (i : Int) < d.1 + 1 then 1073741824 else 0
      rw [upd_at, i2 i k hi hk]
      by_cases e : i * 24 + k = Int.toNat d.1 * 24 + Int.toNat d.1
      · rw [if_pos e, if_pos (by omega)]
      · rw [if_neg e]
        by_cases e2 : i = k ∧ (i : Int) < d.1
        · rw [if_pos e2, if_pos (by omega)]
        · rw [if_neg e2, if_neg (by omega)]
    · have h := of_decide_eq_false h
      rw [pq_ret]
      intro i k hi hk
      show d.2.2 (i * 24 + k) = _
      rw [i2 i k hi hk]
      by_cases e : i = k
      · rw [if_pos e, if_pos (by omega)]
      · rw [if_neg e, if_neg (by omega)]) 2000 d hd (by omega)
theorem one_diag : Ok f_Ag (fun r : D_Ag => ∀ i k : Nat, i < 24 → k < 24 → r (i * 24 + k) = if i = k then 1073741824 else 0) := by
  unfold f_Ag B_Ag
  show PQ _ _
  refine pq_opt' (one0 _ ⟨Int.le_refl 0, (show (0 : Int) ≤ 24 by decide), fun i k hi hk => by show (0 : Int) = _; rw [if_neg (by show ¬ (i = k ∧ (i : Int) < 0); omega)]⟩) fun x _ hx => ?_
  rw [pq_ret]; exact hx
theorem res0 (w d : QL_AZ_0.B) (hv : ∀ j : Nat, j < 4 → okV (w.2.2.1 j)) (hd : 0 ≤ d.1.2.2.2 ∧ d.1.2.2.2 ≤ 4 ∧ d.1.1 = 0 ∧ d.1.2.1.1 = 4 ∧ d.1.2.2.1 = 4 ∧ d.2.1 = w.2.1 ∧ d.2.2.1 = w.2.2.1 ∧ d.2.2.2.1 = w.2.2.2.1 ∧ (∀ i k : Nat, i < 24 → k < 24 → d.2.2.2.2.2.1 (i * 24 + k) = if i = k ∧ ¬ (i : Int) < d.1.2.2.2 then 1073741824 else 0) ∧ ∀ i : Nat, i < 24 → d.2.2.2.2.2.2 i = if (i : Int) < d.1.2.2.2 then w.2.2.1 i else 0) : Ok (L_AZ_0 d) (fun x : X_AZ_0 => x.2.1 = w.2.1 ∧ x.2.2.2.1 = w.2.2.2.1 ∧ (∀ i k : Nat, i < 24 → k < 24 → x.2.2.2.2.2.1 (i * 24 + k) = if i = k ∧ ¬ i < 4 then 1073741824 else 0) ∧ ∀ i : Nat, i < 24 → x.2.2.2.2.2.2 i = if i < 4 then w.2.2.1 i else 0) :=
  loop_ok (s := _) (fun d : QL_AZ_0.B => 0 ≤ d.1.2.2.2 ∧ d.1.2.2.2 ≤ 4 ∧ d.1.1 = 0 ∧ d.1.2.1.1 = 4 ∧ d.1.2.2.1 = 4 ∧ d.2.1 = w.2.1 ∧ d.2.2.1 = w.2.2.1 ∧ d.2.2.2.1 = w.2.2.2.1 ∧ (∀ i k : Nat, i < 24 → k < 24 → d.2.2.2.2.2.1 (i * 24 + k) = if i = k ∧ ¬ (i : Int) < d.1.2.2.2 then 1073741824 else 0) ∧ ∀ i : Nat, i < 24 → d.2.2.2.2.2.2 i = if (i : Int) < d.1.2.2.2 then w.2.2.1 i else 0) (fun d : QL_AZ_0.B => Int.toNat (4 - d.1.2.2.2)) (fun x : X_AZ_0 => x.2.1 = w.2.1 ∧ x.2.2.2.1 = w.2.2.2.1 ∧ (∀ i k : Nat, i < 24 → k < 24 → x.2.2.2.2.2.1 (i * 24 + k) = if i = k ∧ ¬ i < 4 then 1073741824 else 0) ∧ ∀ i : Nat, i < 24 → x.2.2.2.2.2.2 i = if i < 4 then w.2.2.1 i else 0) (fun d hd => by
    obtain ⟨i0, i1, i2, i3, i4, i5, i6, i7, i8, i9⟩ := hd
    have hw : wI (d.1.2.2.2 + 1) = d.1.2.2.2 + 1 := wI_succ (by omega) (by omega)
    have hy : wI (d.1.1 + d.1.2.2.2) = d.1.2.2.2 := by rw [i2, Int.zero_add]; exact wI_id (by omega) (by omega)
    unfold S_AZ_0
    dsimp only
    rw [pq_cnd]
    refine ⟨fun h => ?_, fun h => ?_⟩
    · have h := of_decide_eq_true h
      have r0 : inR d.1.2.2.2 d.1.2.1.1 = true := by rw [inR_iff, i3]; omega
      have r1 : inR d.1.2.2.2 24 = true := by rw [inR_iff]; omega
      have r2 : (true && Nat.ble (0 + (Int.toNat d.1.2.2.2 * 24 + Int.toNat d.1.2.2.2) * 1 + 1) 576) = true := by rw [Bool.true_and, nble_iff]; omega
      have r3 : (true && Nat.ble (0 + Int.toNat d.1.2.2.2 * 1 + 1) 24) = true := by rw [Bool.true_and, nble_iff]; omega
      have v := (hv (Int.toNat d.1.2.2.2) (by omega)).le
      rw [← i6] at v
      rw [hy, r0, pq_true, blk_is _ i0 (by omega), pq_some, pq_true, blk_var _ _ v.1 v.2, pq_some, r1, r2, r3, pq_true, pq_true, pq_true, pq_true, pq_true, pq_ret, hw]
      refine ⟨⟨by show 0 ≤ d.1.2.2.2 + 1; omega, by show d.1.2.2.2 + 1 ≤ 4; omega, i2, i3, i4, i5, i6, i7, fun i k hi hk => ?_, fun i hi => ?_⟩, by show Int.toNat (4 - (d.1.2.2.2 + 1)) < _; omega⟩
      · show (bif Nat.beq (i * 24 + k) (Int.toNat d.1.2.2.2 * 24 + Int.toNat d.1.2.2.2) then 0 else d.2.2.2.2.2.1 (i * 24 + k)) = if i = k ∧ ¬ (i : Int) < d.1.2.2.2 + 1 then 1073741824 else 0
        rw [upd_at, i8 i k hi hk]
        by_cases e : i * 24 + k = Int.toNat d.1.2.2.2 * 24 + Int.toNat d.1.2.2.2
        · rw [if_pos e, if_neg (by omega)]
        · rw [if_neg e]
          by_cases e2 : i = k ∧ ¬ (i : Int) < d.1.2.2.2
          · rw [if_pos e2, if_pos (by omega)]
          · rw [if_neg e2, if_neg (by omega)]
      · show (bif Nat.beq i (Int.toNat d.1.2.2.2) then d.2.2.1 (Int.toNat d.1.2.2.2) else d.2.2.2.2.2.2 i) = if (i : Int) < d.1.2.2.2 + 1 then w.2.2.1 i else 0
        rw [upd_at, i9 i hi, i6]
        by_cases e : i = Int.toNat d.1.2.2.2
        · rw [if_pos e, if_pos (by omega), e]
        · rw [if_neg e]
          by_cases e2 : (i : Int) < d.1.2.2.2
          · rw [if_pos e2, if_pos (by omega)]
          · rw [if_neg e2, if_neg (by omega)]
    · have h := of_decide_eq_false h
      rw [pq_ret]
      refine ⟨i5, i7, fun i k hi hk => ?_, fun i hi => ?_⟩
      · show d.2.2.2.2.2.1 (i * 24 + k) = _
        rw [i8 i k hi hk]
        by_cases e : i = k ∧ ¬ i < 4
        · rw [if_pos e, if_pos (by omega)]
        · rw [if_neg e, if_neg (by omega)]
      · show d.2.2.2.2.2.2 i = _
        rw [i9 i hi]
        by_cases e : i < 4
        · rw [if_pos e, if_pos (by omega)]
        · rw [if_neg e, if_neg (by omega)]) 2000 d hd (by omega)
theorem reset_diag (U D V : Nat → Int) (b w : Bool) (hU : ∀ p, p < 276 → U p = 0) (hD : ∀ i, i < 24 → okV (D i)) (hV : ∀ j, j < 4 → okV (V j)) :
    f_AZ U D 0 4 b V w = some ((fun _ => 0, fun i => if i < 24 then (if i < 4 then V i else D i) else 0), b) := by
  have h : Ok (f_AZ U D 0 4 b V w) (fun r : D_AZ => r = ((fun _ => 0, fun i => if i < 24 then (if i < 4 then V i else D i) else 0), b)) := by
    unfold f_AZ B_AZ
    show PQ _ _
    refine pq_opt' one_diag fun m _ hm => ?_
    rw [nbeq_refl, pq_true]
    refine pq_opt' (res0 ((0, (4, w), Int.ofNat 4, 0), b, V, (U, D), (fun x => 0, fun x => 0), m, fun x => 0) _ hV ⟨Int.le_refl 0, (show (0 : Int) ≤ 4 by decide), rfl, rfl, rfl, rfl, rfl, rfl, fun i k hi hk => ?_, fun i hi => ?_⟩) fun x _ hx => ?_
    · show m (i * 24 + k) = if i = k ∧ ¬ (i : Int) < 0 then 1073741824 else 0
      rw [hm i k hi hk]
      by_cases e : i = k
      · rw [if_pos e, if_pos ⟨e, by omega⟩]
      · rw [if_neg e, if_neg (fun h => e h.1)]
    · show (0 : Int) = if (i : Int) < 0 then V i else 0
      rw [if_neg (by omega)]
    obtain ⟨a1, a3, a5, a6⟩ := hx
    have a1 : x.2.1 = b := a1
    have a3 : x.2.2.2.1 = (U, D) := a3
    have s := step_diag (fun i => if i < 4 then 0 else 1073741824) U D x.2.2.2.2.2.1 x.2.2.2.2.2.2 (fun i => if i < 4 then V i else 0) b (fun i hi => ⟨hD i hi, by
        show ((if i < 4 then (0 : Int) else 1073741824) = 1073741824 ∧ (if i < 4 then V i else 0) = 0) ∨ ((if i < 4 then (0 : Int) else 1073741824) = 0 ∧ okV (if i < 4 then V i else 0))
        by_cases c : i < 4
        · rw [if_pos c, if_pos c]; exact Or.inr ⟨rfl, hV i c⟩
        · rw [if_neg c, if_neg c]; exact Or.inl ⟨rfl, rfl⟩⟩) hU (fun i k hi hk => by
        rw [a5 i k hi hk]
        by_cases c : i = k
        · subst c
          by_cases c2 : i < 4
          · rw [if_neg (fun h => h.2 c2), if_pos rfl, if_pos c2]
          · rw [if_pos ⟨rfl, c2⟩, if_pos rfl, if_neg c2]
        · rw [if_neg (fun h => c h.1), if_neg c]) a6
    rw [a3, a1, s, pq_some, pq_ret]
    refine Prod.ext (Prod.ext rfl (funext fun i => ?_)) rfl
    show (if i < 24 then kept _ D _ i else 0) = if i < 24 then (if i < 4 then V i else D i) else 0
    unfold kept
    by_cases c : i < 4
    · simp [c]
    · simp [c]
  obtain ⟨r, h1, h2⟩ := h
  rw [h1, h2]
end Go.Proofs.YtphkdkkbbfnkaaaGreat
