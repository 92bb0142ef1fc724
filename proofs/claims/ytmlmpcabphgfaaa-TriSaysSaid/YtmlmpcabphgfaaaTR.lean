/-
  The document's own factors (astrolaberef9) in plain arithmetic: the same words as the program's.
-/
import Derived.Test.YtmlmpcabphgfaaaTS
import Derived.Test.YtmlmpcabphgfaaaT4
import Derived.Test.YtmlmpcabphgfaaaR2
set_option maxRecDepth 100000
set_option maxHeartbeats 4000000
set_option linter.unusedVariables false
set_option linter.unusedSimpArgs false
namespace Go.Proofs.Ytmlmpcabphgfaaa
open Go.Ab
theorem refU_eq (f g : Nat → Int) (i j : Int) : f_astrolaberef9_U i j f g = some (uV f i j) := by
  unfold f_astrolaberef9_U K_astrolaberef9_U uV
  by_cases a1 : i < 0
  · rw [decide_eq_true a1, cond_true, if_neg (by omega), if_neg (by omega)]
  rw [decide_eq_false a1, cond_false]
  by_cases a2 : j < 0
  · rw [decide_eq_true a2, cond_true, if_neg (by omega), if_neg (by omega)]
  rw [decide_eq_false a2, cond_false]
  by_cases a3 : i ≥ 24
  · rw [decide_eq_true a3, cond_true, if_neg (by omega), if_neg (by omega)]
  rw [decide_eq_false a3, cond_false]
  by_cases a4 : j ≥ 24
  · rw [decide_eq_true a4, cond_true, if_neg (by omega), if_neg (by omega)]
  rw [decide_eq_false a4, cond_false]
  by_cases a5 : i > j
  · rw [decide_eq_true a5, cond_true, if_neg (by omega), if_neg (by omega)]
  rw [decide_eq_false a5, cond_false]
  by_cases a6 : i = j
  · have e : (i == j) = true := by rw [beq_iff_eq]; exact a6
    rw [e, cond_true, if_pos (by omega)]
  have e : (i == j) = false := by rw [beq_eq_false_iff_ne]; exact a6
  rw [e, cond_false, if_neg (by omega), if_pos (by omega)]
  obtain ⟨a, rfl⟩ : ∃ a : Nat, i = (a : Int) := ⟨i.toNat, by omega⟩
  obtain ⟨b, rfl⟩ : ∃ b : Nat, j = (b : Int) := ⟨j.toNat, by omega⟩
  have h1 : a < b := by omega
  have h2 : b < 24 := by omega
  have p := place_yes a b h1 h2
  unfold f_tri_place K_tri_place at p
  rw [decide_eq_true (show (a : Int) ≥ 0 by omega), cond_true, decide_eq_true (show (a : Int) < b by omega), cond_true] at p
  have p2 := (Prod.mk.inj (Option.some.inj p)).1
  unfold f_astrolaberef9_place K_astrolaberef9_place
  rw [Option.bind_some, p2]
  have e : inR ((pos a b : Nat) : Int) 276 = true := idx_in (pos_lt h1 h2)
  simp only [e, cond_true, Int.toNat_natCast, ble1 (pos_lt h1 h2)]
theorem refAt_eq (f g : Nat → Int) (i j : Int) (m : Nat) (hit : Bool) (h0 : 0 ≤ i) (h1 : 0 ≤ j) (h2 : (if j > i then j else i) = (m : Int)) (h3 : m < 24) :
    f_astrolaberef9_At i j hit f g = some (sat (rnd (atS f g i j m (24 - m)) 30), ((hit || anyF (fun k => xO f g j (m + k)) (24 - m)) || atO f g i j m (24 - m)) || over (rnd (atS f g i j m (24 - m)) 30)) := by
  unfold f_astrolaberef9_At K_astrolaberef9_At
  have hi : i < 24 ∧ j < 24 := by split at h2 <;> omega
  rw [decide_eq_false (show ¬ i < 0 by omega), cond_false, decide_eq_false (show ¬ j < 0 by omega), cond_false, decide_eq_false (show ¬ i ≥ 24 by omega), cond_false, decide_eq_false (show ¬ j ≥ 24 by omega), cond_false]
  have key : L_astrolaberef9_At_0 (i, j, (m : Int), 0, 0, hit, f, g, 0, fun (x : Nat) => 0, 0, fun (x : Nat) => 0)
              (fun (d : Int × Int × Int × Nat × Nat × Bool × Bool × (Nat → Int) × (Nat → Int) × Nat × (Nat → Int) × Nat × (Nat → Int)) =>
              bif Nat.beq d.2.2.2.1 d.2.2.2.1 then
                bif Nat.beq d.2.2.2.2.1 d.2.2.2.2.1 then
                  Option.bind
                    (f___astrolaberef2_Acc__Dot 30 d.2.2.2.1 d.2.2.2.2.1 d.2.2.2.2.2.2.1 d.2.2.2.2.2.2.2.2.2.2.1
                      d.2.2.2.2.2.2.2.2.2.2.2.2 true true)
                    fun (d : Int × Bool) => some (d.1, d.2)
                else none
              else none) = some (sat (rnd (atS f g i j m (24 - m)) 30), ((hit || anyF (fun k => xO f g j (m + k)) (24 - m)) || atO f g i j m (24 - m)) || over (rnd (atS f g i j m (24 - m)) 30)) := by
    unfold L_astrolaberef9_At_0
    refine loopK_inv (fun t d => ∃ (n : Nat) (u x : Nat → Int), m + n + t = 24 ∧ (∀ k, k < n → u k = uV f i ((m + k : Nat) : Int)) ∧ (∀ k, k < n → x k = sat (xV f g j (m + k))) ∧
        d = (i, j, ((m + n : Nat) : Int), n, n, (hit || anyF (fun k => xO f g j (m + k)) n), f, g, n, u, n, x)) ?_ 1000 (24 - m) _ (by omega)
      ⟨0, fun _ => 0, fun _ => 0, by omega, (fun k hk => by omega), (fun k hk => by omega), by simp only [anyF, Bool.or_false]; rfl⟩
    rintro t _ c ⟨n, u, x, hn, hu, hx, rfl⟩ hc
    rcases Nat.eq_zero_or_pos t with t0 | t0
    · have e : n = 24 - m := by omega
      have z : decide (((m + n : Nat) : Int) < 24) = false := decide_eq_false (by omega)
      simp only [S_astrolaberef9_At_0, z, cond_false, Nat.beq_refl, cond_true]
      rw [show (30 : Int) = Int.ofNat 30 from rfl, ref_dot 30 (by omega) n (by omega), Option.bind_some]
      have s1 : sumF (fun k => sat (u k) * sat (x k)) n = atS f g i j m n := sumF_ext fun k hk => by rw [hu k hk, hx k hk]
      have s2 : anyF (fun k => over (u k) || over (x k)) n = atO f g i j m n := anyF_ext fun k hk => by rw [hu k hk, hx k hk]
      rw [s1, s2, e]
    · have z : decide (((m + n : Nat) : Int) < 24) = true := decide_eq_true (by omega)
      have b1 : Nat.ble ((n + 1) * 8) 140737488355328 = true := Nat.ble_eq_true_of_le (by omega)
      have b2 : inR ((m + n : Nat) : Int) 24 = true := idx_in (show m + n < 24 by omega)
      have b3 : IntKind.wrap .i64 (((m + n : Nat) : Int) + 1) = ((m + (n + 1) : Nat) : Int) := (wrap_i64 (by omega) (by omega)).trans (by omega)
      have b4 : Int.toNat ((m + n : Nat) : Int) = m + n := Int.toNat_natCast _
      have mu := ref_M (uV f j ((m + n : Nat) : Int)) (g (m + n)) (hit || anyF (fun k => xO f g j (m + k)) n)
      simp only [S_astrolaberef9_At_0, z, cond_true, refU_eq, Option.bind_some, b1, b2, b3, b4, mu]
      refine hc (t - 1) _ (by omega) ⟨n + 1, (fun k => bif Nat.beq k n then uV f i ((m + n : Nat) : Int) else u k), (fun k => bif Nat.beq k n then sat (rnd (sat (uV f j ((m + n : Nat) : Int)) * sat (g (m + n))) 30) else x k), by omega, ?_, ?_, ?_⟩
      · intro k hk
        simp only
        rcases Nat.lt_or_ge k n with c | c
        · rw [nbeq_no (show k ≠ n by omega), cond_false]; exact hu k c
        · obtain rfl : k = n := by omega
          rw [Nat.beq_refl, cond_true]
      · intro k hk
        simp only
        rcases Nat.lt_or_ge k n with c | c
        · rw [nbeq_no (show k ≠ n by omega), cond_false]; exact hx k c
        · obtain rfl : k = n := by omega
          rw [Nat.beq_refl, cond_true]; rfl
      · have e : (hit || anyF (fun k => xO f g j (m + k)) n || over (uV f j ((m + n : Nat) : Int)) || over (g (m + n)) || over (rnd (sat (uV f j ((m + n : Nat) : Int)) * sat (g (m + n))) 30)) = (hit || anyF (fun k => xO f g j (m + k)) (n + 1)) := by
          simp only [anyF, xO, xV, Bool.or_assoc]
        rw [e]
  by_cases c : j > i
  · rw [if_pos c] at h2
    rw [decide_eq_true c, cond_true]
    exact h2 ▸ key
  · rw [if_neg c] at h2
    rw [decide_eq_false c, cond_false]
    exact h2 ▸ key
theorem at_both (f g : Nat → Int) (i j : Int) (hit : Bool) : ∃ a h, f_tri_At f g i j hit = some (a, h) ∧ f_astrolaberef9_At i j hit f g = some (a, h) := by
  by_cases c : i < 0 ∨ j < 0 ∨ 24 ≤ i ∨ 24 ≤ j
  · refine ⟨0, hit, tri_At_out f g i j hit c, ?_⟩
    unfold f_astrolaberef9_At K_astrolaberef9_At
    by_cases a1 : i < 0
    · rw [decide_eq_true a1, cond_true]
    rw [decide_eq_false a1, cond_false]
    by_cases a2 : j < 0
    · rw [decide_eq_true a2, cond_true]
    rw [decide_eq_false a2, cond_false]
    by_cases a3 : i ≥ 24
    · rw [decide_eq_true a3, cond_true]
    rw [decide_eq_false a3, cond_false]
    by_cases a4 : j ≥ 24
    · rw [decide_eq_true a4, cond_true]
    omega
  · obtain ⟨m, hm⟩ : ∃ m : Nat, (if j > i then j else i) = (m : Int) := ⟨(if j > i then j else i).toNat, by split <;> omega⟩
    have h3 : m < 24 := by split at hm <;> omega
    exact ⟨_, _, tri_At_eq f g i j m hit (by omega) (by omega) hm h3, refAt_eq f g i j m hit (by omega) (by omega) hm h3⟩
theorem refCondition_eq (f g : Nat → Int) (hit : Bool) : f_astrolaberef9_Condition f g hit = some (putAll (fun k => sat (f k)) f 276, putAll (fun k => vclamp (g k)) g 24, (hit || anyF (fun k => vout (g k)) 24) || anyF (fun k => over (f k)) 276) := by
  unfold f_astrolaberef9_Condition K_astrolaberef9_Condition L_astrolaberef9_Condition_0
  refine loopK_inv (fun t d => ∃ (n : Nat), n + t = 24 ∧ d = ((n : Int), (hit || anyF (fun k => vout (g k)) n), f, putAll (fun k => vclamp (g k)) g n, (fun _ => 0), (fun _ => 0))) ?_ 1000 24 _ (by omega)
    ⟨0, by omega, by simp only [anyF, Bool.or_false]; rfl⟩
  rintro t _ c ⟨n, hn, rfl⟩ hc
  rcases Nat.eq_zero_or_pos t with t0 | t0
  · obtain rfl : n = 24 := by omega
    have z : decide (((24 : Nat) : Int) < 24) = false := by decide
    simp only [S_astrolaberef9_Condition_0, z, cond_false]
    generalize hh : (hit || anyF (fun k => vout (g k)) 24) = hit2
    generalize putAll (fun k => vclamp (g k)) g 24 = g'
    unfold L_astrolaberef9_Condition_1
    refine loopK_inv (fun t d => ∃ (n : Nat), n + t = 276 ∧ d = ((n : Int), (hit2 || anyF (fun k => over (f k)) n), putAll (fun k => sat (f k)) f n, g', (fun _ => 0), (fun _ => 0))) ?_ 1000 276 _ (by omega)
      ⟨0, by omega, by simp only [anyF, Bool.or_false]; rfl⟩
    rintro t _ c ⟨n, hn, rfl⟩ hc
    rcases Nat.eq_zero_or_pos t with t0 | t0
    · obtain rfl : n = 276 := by omega
      have z : decide (((276 : Nat) : Int) < 276) = false := by decide
      simp only [S_astrolaberef9_Condition_1, z, cond_false]
    · have z : decide ((n : Int) < 276) = true := decide_eq_true (by omega)
      have b2 : inR (n : Int) 276 = true := idx_in (show n < 276 by omega)
      have b3 : IntKind.wrap .i64 ((n : Int) + 1) = ((n + 1 : Nat) : Int) := (wrap_i64 (by omega) (by omega)).trans (by omega)
      have b4 : Nat.ble (0 + n * 1 + 1) 276 = true := ble1 (by omega)
      have b5 : Nat.ble (0 + n * 1 + 1) 300 = true := Nat.ble_eq_true_of_le (by omega)
      have cl := ref_clamp (f n) (-1152921504606846976) 1152921504606846976 (hit2 || anyF (fun k => over (f k)) n) (by omega)
      simp only [S_astrolaberef9_Condition_1, z, cond_true, b2, Int.toNat_natCast, putAll_ge (fun k => sat (f k)) f (Nat.le_refl n), cl, Option.bind_some, b3, b4, b5, Bool.and_self]
      refine hc (t - 1) _ (by omega) ⟨n + 1, by omega, ?_⟩
      simp only [anyF, over, Bool.or_assoc]
      rfl
  · have z : decide ((n : Int) < 24) = true := decide_eq_true (by omega)
    have b2 : inR (n : Int) 24 = true := idx_in (show n < 24 by omega)
    have b3 : IntKind.wrap .i64 ((n : Int) + 1) = ((n + 1 : Nat) : Int) := (wrap_i64 (by omega) (by omega)).trans (by omega)
    have b5 : Nat.ble (276 + n * 1 + 1) 300 = true := Nat.ble_eq_true_of_le (by omega)
    have cl := ref_clamp (g n) 1 72057594037927936 (hit || anyF (fun k => vout (g k)) n) (by omega)
    simp only [S_astrolaberef9_Condition_0, z, cond_true, b2, Int.toNat_natCast, putAll_ge (fun k => vclamp (g k)) g (Nat.le_refl n), cl, Option.bind_some, b3, b5, Bool.and_self]
    refine hc (t - 1) _ (by omega) ⟨n + 1, by omega, ?_⟩
    simp only [anyF, vout, Bool.or_assoc]
    rfl
theorem anyF_hit {f : Nat → Bool} {n k : Nat} (hk : k < n) (h : f k = true) : anyF f n = true := by
  induction n with
  | zero => omega
  | succ n ih =>
    rw [anyF]
    rcases Nat.lt_or_ge k n with c | c
    · rw [ih c, Bool.true_or]
    · obtain rfl : k = n := by omega
      rw [h, Bool.or_true]
theorem refGood_eq (f g : Nat → Int) : f_astrolaberef9_Good f g = some (!(anyF (fun k => vout (g k)) 24 || anyF (fun k => over (f k)) 276)) := by
  unfold f_astrolaberef9_Good K_astrolaberef9_Good L_astrolaberef9_Good_0
  refine loopK_inv (fun t d => ∃ (n : Nat), n + t = 24 ∧ anyF (fun k => vout (g k)) n = false ∧ d = ((n : Int), f, g)) ?_ 1000 24 _ (by omega) ⟨0, by omega, rfl, rfl⟩
  rintro t _ c ⟨n, hn, hv, rfl⟩ hc
  rcases Nat.eq_zero_or_pos t with t0 | t0
  · obtain rfl : n = 24 := by omega
    have z : decide (((24 : Nat) : Int) < 24) = false := by decide
    simp only [S_astrolaberef9_Good_0, z, cond_false, Sum.elim_inr]
    rw [hv, Bool.false_or]
    unfold L_astrolaberef9_Good_1
    refine loopK_inv (fun t d => ∃ (n : Nat), n + t = 276 ∧ anyF (fun k => over (f k)) n = false ∧ d = ((n : Int), f, g)) ?_ 1000 276 _ (by omega) ⟨0, by omega, rfl, rfl⟩
    rintro t _ c ⟨n, hn, hv, rfl⟩ hc
    rcases Nat.eq_zero_or_pos t with t0 | t0
    · obtain rfl : n = 276 := by omega
      have z : decide (((276 : Nat) : Int) < 276) = false := by decide
      simp only [S_astrolaberef9_Good_1, z, cond_false, Sum.elim_inr]
      rw [hv]; rfl
    · have z : decide ((n : Int) < 276) = true := decide_eq_true (by omega)
      have b2 : inR (n : Int) 276 = true := idx_in (show n < 276 by omega)
      have b3 : IntKind.wrap .i64 ((n : Int) + 1) = ((n + 1 : Nat) : Int) := (wrap_i64 (by omega) (by omega)).trans (by omega)
      have b4 : Nat.ble (0 + n * 1 + 1) 276 = true := ble1 (by omega)
      simp only [S_astrolaberef9_Good_1, z, cond_true, b2, Int.toNat_natCast, b3, b4]
      by_cases c1 : f n < -1152921504606846976
      · rw [decide_eq_true c1, cond_true, Sum.elim_inl, anyF_hit (k := n) (by omega) (by unfold over; rw [decide_eq_true c1]; rfl)]; rfl
      rw [decide_eq_false c1, cond_false]
      by_cases c2 : f n > 1152921504606846976
      · rw [decide_eq_true c2, cond_true, Sum.elim_inl, anyF_hit (k := n) (by omega) (by unfold over; rw [decide_eq_true (show 1152921504606846976 < f n from c2), Bool.or_true])]; rfl
      rw [decide_eq_false c2, cond_false]
      refine hc (t - 1) _ (by omega) ⟨n + 1, by omega, ?_, rfl⟩
      rw [anyF, hv, Bool.false_or]
      unfold over
      rw [decide_eq_false c1, decide_eq_false (show ¬ 1152921504606846976 < f n from c2)]; rfl
  · have z : decide ((n : Int) < 24) = true := decide_eq_true (by omega)
    have b2 : inR (n : Int) 24 = true := idx_in (show n < 24 by omega)
    have b3 : IntKind.wrap .i64 ((n : Int) + 1) = ((n + 1 : Nat) : Int) := (wrap_i64 (by omega) (by omega)).trans (by omega)
    simp only [S_astrolaberef9_Good_0, z, cond_true, b2, Int.toNat_natCast, b3]
    by_cases c1 : g n < 1
    · rw [decide_eq_true c1, cond_true, Sum.elim_inl, anyF_hit (k := n) (by omega) (by unfold vout; rw [decide_eq_true c1]; rfl)]; rfl
    rw [decide_eq_false c1, cond_false]
    by_cases c2 : g n > 72057594037927936
    · rw [decide_eq_true c2, cond_true, Sum.elim_inl, anyF_hit (f := fun k => vout (g k)) (k := n) (by omega) (by simp only [vout]; rw [decide_eq_true (show 72057594037927936 < g n from c2), Bool.or_true])]; rfl
    rw [decide_eq_false c2, cond_false]
    refine hc (t - 1) _ (by omega) ⟨n + 1, by omega, ?_, rfl⟩
    rw [anyF, hv, Bool.false_or]
    unfold vout
    rw [decide_eq_false c1, decide_eq_false (show ¬ 72057594037927936 < g n from c2)]; rfl
theorem triGood_eq (f g : Nat → Int) : f_tri_Good f g = some (!(anyF (fun k => vout (g k)) 24 || anyF (fun k => over (f k)) 276)) := by
  unfold f_tri_Good K_tri_Good
  rw [tri_Condition_eq, Option.bind_some, Bool.false_or]
theorem bif2 (b : Bool) (x y z : Int) : (bif b then x else bif b then y else z) = bif b then x else z := by cases b <;> rfl
/-- what New gives a place -/
def nV (n : Nat) (l : Nat → Int) (k : Nat) : Int := if k < n then vclamp (l k) else 1
def nO (n : Nat) (l : Nat → Int) (k : Nat) : Bool := if k < n then vout (l k) else false
theorem triNew_eq (n : Nat) (hit w : Bool) (l : Nat → Int) : f_tri_New n hit l w = some (fun _ => 0, putAll (nV n l) (fun _ => 0) 24, hit || anyF (nO n l) 24) := by
  unfold f_tri_New K_tri_New L_tri_New_0
  refine loopK_inv (fun t d => ∃ (i : Nat), i + t = 24 ∧ d = (n, w, (i : Int), (hit || anyF (nO n l) i), n, l, (fun _ => 0), (fun _ => 0), (fun _ => 0), putAll (nV n l) (fun _ => 0) i)) ?_ 200 24 _ (by omega)
    ⟨0, by omega, by simp only [anyF, Bool.or_false]; rfl⟩
  rintro t _ c ⟨i, hi, rfl⟩ hc
  rcases Nat.eq_zero_or_pos t with t0 | t0
  · obtain rfl : i = 24 := by omega
    have z : decide (((24 : Nat) : Int) < 24) = false := by decide
    simp only [S_tri_New_0, z, cond_false]
  · have z : decide ((i : Int) < 24) = true := decide_eq_true (by omega)
    have b2 : inR (i : Int) 24 = true := idx_in (show i < 24 by omega)
    have b3 : IntKind.wrap .i64 ((i : Int) + 1) = ((i + 1 : Nat) : Int) := (wrap_i64 (by omega) (by omega)).trans (by omega)
    have b5 : Nat.ble (276 + i * 1 + 1) 300 = true := Nat.ble_eq_true_of_le (by omega)
    by_cases q : i < n
    · have q1 : decide ((i : Int) < Int.ofNat n) = true := by simp only [Int.ofNat_eq_natCast]; exact decide_eq_true (by omega)
      have q2 : inR (i : Int) n = true := idx_in q
      simp only [S_tri_New_0, z, cond_true, b2, b3, b5, Int.toNat_natCast, Bool.and_self, q1, q2, tri_variance_eq, Option.bind_some, bif2]
      refine hc (t - 1) _ (by omega) ⟨i + 1, by omega, ?_⟩
      have e1 : nV n l i = vclamp (l i) := if_pos q
      have e2 : nO n l i = vout (l i) := if_pos q
      simp only [anyF, putAll, e1, e2, Bool.or_assoc]
    · have q1 : decide ((i : Int) < Int.ofNat n) = false := by simp only [Int.ofNat_eq_natCast]; exact decide_eq_false (by omega)
      simp only [S_tri_New_0, z, cond_true, b2, b3, b5, Int.toNat_natCast, Bool.and_self, q1, cond_false]
      refine hc (t - 1) _ (by omega) ⟨i + 1, by omega, ?_⟩
      have e1 : nV n l i = 1 := if_neg q
      have e2 : nO n l i = false := if_neg q
      simp only [anyF, putAll, e1, e2, Bool.or_false]
theorem allN_same (n : Nat) (g : Nat → Int) : allN n (fun j => g j == g j) = true := by
  unfold allN
  rw [List.all_eq_true]
  intro j _
  exact beq_self_eq_true _
theorem allN_true (n : Nat) : allN n (fun _ => true) = true := by
  unfold allN
  rw [List.all_eq_true]
  intro j _
  rfl
theorem made_eq (n : Nat) (hn : n ≤ 100) (l : Nat → Int) (w : Bool) : f_astrolabelaw9_made n l w = some true := by
  unfold f_astrolabelaw9_made K_astrolabelaw9_made
  have b : Nat.ble ((0 + n) * 8) 140737488355328 = true := Nat.ble_eq_true_of_le (by omega)
  rw [b, cond_true, Nat.beq_refl, cond_true, Nat.zero_add, triNew_eq, Option.bind_some]
  simp only [Bool.false_or]
  unfold L_astrolabelaw9_made_0
  refine loopK_inv (fun t d => ∃ (i : Nat), i + t = 24 ∧ d = (n, w, (i : Int), n, l, anyF (nO n l) 24, anyF (nO n l) i, (fun _ => 0), putAll (nV n l) (fun _ => 0) 24, (fun _ => 0), putAll (nV n l) (fun _ => 0) i)) ?_ 1000 24 _ (by omega)
    ⟨0, by omega, rfl⟩
  rintro t _ c ⟨i, hi, rfl⟩ hc
  rcases Nat.eq_zero_or_pos t with t0 | t0
  · obtain rfl : i = 24 := by omega
    have z : decide (((24 : Nat) : Int) < 24) = false := by decide
    simp only [S_astrolabelaw9_made_0, z, cond_false, allN_true, beq_self_eq_true, Bool.and_self, cond_true]
  · have z : decide ((i : Int) < 24) = true := decide_eq_true (by omega)
    have b2 : inR (i : Int) 24 = true := idx_in (show i < 24 by omega)
    have b3 : IntKind.wrap .i64 ((i : Int) + 1) = ((i + 1 : Nat) : Int) := (wrap_i64 (by omega) (by omega)).trans (by omega)
    have b5 : Nat.ble (276 + i * 1 + 1) 300 = true := Nat.ble_eq_true_of_le (by omega)
    by_cases q : i < n
    · have q1 : decide ((i : Int) < Int.ofNat n) = true := by simp only [Int.ofNat_eq_natCast]; exact decide_eq_true (by omega)
      have q2 : inR (i : Int) n = true := idx_in q
      have cl := ref_clamp (l i) 1 72057594037927936 (anyF (nO n l) i) (by omega)
      simp only [S_astrolabelaw9_made_0, z, cond_true, b2, b3, b5, Int.toNat_natCast, Bool.and_self, q1, q2, cl, Option.bind_some, bif2]
      refine hc (t - 1) _ (by omega) ⟨i + 1, by omega, ?_⟩
      have e1 : nV n l i = vclamp (l i) := if_pos q
      have e2 : nO n l i = vout (l i) := if_pos q
      simp only [anyF, putAll, e1, e2]
      rfl
    · have q1 : decide ((i : Int) < Int.ofNat n) = false := by simp only [Int.ofNat_eq_natCast]; exact decide_eq_false (by omega)
      simp only [S_astrolabelaw9_made_0, z, cond_true, b2, b3, b5, Int.toNat_natCast, Bool.and_self, q1, cond_false]
      refine hc (t - 1) _ (by omega) ⟨i + 1, by omega, ?_⟩
      have e1 : nV n l i = 1 := if_neg q
      have e2 : nO n l i = false := if_neg q
      simp only [anyF, putAll, e1, e2, Bool.or_false]
end Go.Proofs.Ytmlmpcabphgfaaa
