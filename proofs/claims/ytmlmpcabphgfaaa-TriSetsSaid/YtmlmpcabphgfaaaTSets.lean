/-
  What is set is told, and nothing else has changed; of factors without numbers the covariance is the variances alone: the statement of astrolabelaw9.TriSets; no condition.
-/
import Derived.Test.YtmlmpcabphgfaaaTS
import Derived.Test.YtmlmpcabphgfaaaT3
set_option maxRecDepth 100000
set_option maxHeartbeats 4000000
set_option linter.unusedVariables false
set_option linter.unusedSimpArgs false
namespace Go.Proofs.Ytmlmpcabphgfaaa
open Go.Ab
theorem tri_awake : f_astrolabelaw9_awake = some true := by kernel_rfl
theorem sumF_none {f : Nat → Int} {n : Nat} (h : ∀ j, j < n → f j = 0) : sumF f n = 0 := by
  induction n with
  | zero => rfl
  | succ n ih => rw [sumF, ih fun j hj => h j (by omega), h n (by omega)]; rfl
theorem anyF_none {f : Nat → Bool} {n : Nat} (h : ∀ j, j < n → f j = false) : anyF f n = false := by
  induction n with
  | zero => rfl
  | succ n ih => rw [anyF, ih fun j hj => h j (by omega), h n (by omega)]; rfl
theorem sumF_one {f : Nat → Int} {n : Nat} (h0 : 0 < n) (h : ∀ j, 0 < j → j < n → f j = 0) : sumF f n = f 0 := by
  induction n with
  | zero => omega
  | succ n ih =>
    rcases Nat.eq_zero_or_pos n with z | z
    · subst z; rw [sumF, sumF, Int.zero_add]
    · rw [sumF, ih z fun j hj hj2 => h j hj (by omega), h n z (by omega), Int.add_zero]
/-- no numbers above the diagonal -/
theorem uV_nil {f : Nat → Int} (hf : ∀ k, f k = 0) (i j : Int) : uV f i j = if i = j ∧ 0 ≤ i ∧ i < 24 then 1073741824 else 0 := by
  unfold uV
  rw [hf]
  split <;> simp
theorem sat0 : sat 0 = 0 ∧ over 0 = false := sat_id (by omega)
theorem rnd0 : rnd 0 30 = 0 := by decide
theorem at_nil {f g : Nat → Int} (hf : ∀ k, f k = 0) (hg : ∀ k, k < 24 → 1 ≤ g k ∧ g k ≤ 72057594037927936) (x y : Nat) (hx : x < 24) (hy : y < 24) :
    f_tri_At f g x y false = some (if x = y then g x else 0, false) := by
  obtain ⟨m, hm⟩ : ∃ m, m = if y > x then y else x := ⟨_, rfl⟩
  have m24 : m < 24 := by split at hm <;> omega
  have hmx : x ≤ m ∧ y ≤ m := by split at hm <;> omega
  have mi : (if (y : Int) > (x : Int) then (y : Int) else (x : Int)) = (m : Int) := by
    rw [hm]
    by_cases c : y > x
    · rw [if_pos c, if_pos (by omega)]
    · rw [if_neg c, if_neg (by omega)]
  rw [tri_At_eq f g x y m false (by omega) (by omega) mi m24]
  have one := sat_id (x := 1073741824) (by omega)
  have uO : ∀ i k : Int, over (uV f i k) = false := fun i k => by
    rw [uV_nil hf]; split
    · exact one.2
    · exact sat0.2
  -- a number of the second list
  have xv : ∀ k, k < 24 → xV f g y k = if y = k then g k else 0 := fun k hk => by
    unfold xV
    have gk := sat_id (x := g k) (by have := hg k hk; omega)
    rw [uV_nil hf, gk.1]
    by_cases c : y = k
    · rw [if_pos (by omega), if_pos c, one.1, Int.mul_comm, rnd_one]
    · rw [if_neg (by omega), if_neg c, sat0.1, Int.zero_mul]; exact rnd0
  have xvO : ∀ k, k < 24 → sat (xV f g y k) = xV f g y k ∧ over (xV f g y k) = false := fun k hk => by
    rw [xv k hk]
    refine sat_id ?_
    have := hg k hk
    split <;> omega
  have f1 : anyF (fun k => xO f g y (m + k)) (24 - m) = false := anyF_none fun k hk => by
    have gk := sat_id (x := g (m + k)) (by have := hg (m + k) (by omega); omega)
    simp only [xO, uO, gk.2, (xvO (m + k) (by omega)).2, Bool.or_false]
  have f2 : atO f g x y m (24 - m) = false := anyF_none fun k hk => by
    have q := xvO (m + k) (by omega)
    simp only [uO, q.1, q.2, Bool.or_false]
  have term : ∀ k, k < 24 - m → sat (uV f x ((m + k : Nat) : Int)) * sat (sat (xV f g y (m + k))) = if x = m + k ∧ y = m + k then g (m + k) * 1073741824 else 0 := fun k hk => by
    rw [(xvO (m + k) (by omega)).1, (xvO (m + k) (by omega)).1, xv (m + k) (by omega), uV_nil hf]
    by_cases c : x = m + k
    · rw [if_pos (by omega), one.1]
      by_cases d : y = m + k
      · rw [if_pos d, if_pos ⟨c, d⟩, Int.mul_comm]
      · rw [if_neg d, if_neg (fun h => d h.2), Int.mul_zero]
    · rw [if_neg (by omega), sat0.1, Int.zero_mul, if_neg (fun h => c h.1)]
  have s1 : atS f g x y m (24 - m) = if x = y then g x * 1073741824 else 0 := by
    unfold atS
    by_cases c : x = y
    · subst c
      have xm : x = m := by split at hm <;> omega
      rw [sumF_one (by omega) fun k hk hk2 => by rw [term k hk2, if_neg (by omega)], term 0 (by omega), if_pos ⟨by omega, by omega⟩, if_pos rfl, Nat.add_zero, xm]
    · rw [sumF_none fun k hk => by rw [term k hk, if_neg (by omega)], if_neg c]
  rw [f1, f2, s1]
  simp only [Bool.or_false, Bool.false_or]
  by_cases c : x = y
  · rw [if_pos c, if_pos c, rnd_one]
    have gk := sat_id (x := g x) (by have := hg x hx; omega)
    rw [gk.1, gk.2]
  · rw [if_neg c, if_neg c, rnd0, sat0.1, sat0.2]
def tri_tail (x1 : Nat → Int) (x5 x6 : Int) : Option Bool :=
  Option.bind (f_tri_Condition (fun (x : Nat) => 0) x1 false) fun (d : (Nat → Int) × (Nat → Int) × Bool) =>
    bif decide (x5 < 0) then Option.bind (f_tri_At d.1 d.2.1 x5 x6 false) fun (d : Int × Bool) => some (d.1 == 0)
    else
      bif decide (x5 > 23) then Option.bind (f_tri_At d.1 d.2.1 x5 x6 false) fun (d : Int × Bool) => some (d.1 == 0)
      else
        bif decide (x6 < 0) then Option.bind (f_tri_At d.1 d.2.1 x5 x6 false) fun (d : Int × Bool) => some (d.1 == 0)
        else
          bif decide (x6 > 23) then Option.bind (f_tri_At d.1 d.2.1 x5 x6 false) fun (d : Int × Bool) => some (d.1 == 0)
          else
            bif x5 == x6 then bif inR x5 24 then L_astrolabelaw9_TriSets_0 (x5, x6, d.2.1 (Int.toNat x5), d.1, d.2.1) fun (d : Bool) => some d else none
            else L_astrolabelaw9_TriSets_0 (x5, x6, 0, d.1, d.2.1) fun (d : Bool) => some d
theorem tri_tail_eq (x1 : Nat → Int) (x5 x6 : Int) : tri_tail x1 x5 x6 = some true := by
  unfold tri_tail
  rw [tri_Condition_eq, Option.bind_some]
  simp only
  have hF : ∀ k, putAll (fun k => sat ((fun (x : Nat) => (0 : Int)) k)) (fun (x : Nat) => 0) 276 k = 0 := fun k => by
    rcases Nat.lt_or_ge k 276 with c | c
    · rw [putAll_lt _ _ c]; exact sat0.1
    · rw [putAll_ge _ _ c]
  have hG : ∀ k, k < 24 → 1 ≤ putAll (fun k => vclamp (x1 k)) x1 24 k ∧ putAll (fun k => vclamp (x1 k)) x1 24 k ≤ 72057594037927936 := fun k hk => by
    rw [putAll_lt _ _ hk]
    unfold vclamp
    split <;> (try split) <;> omega
  generalize putAll (fun k => sat ((fun (x : Nat) => (0 : Int)) k)) (fun (x : Nat) => 0) 276 = F at *
  generalize putAll (fun k => vclamp (x1 k)) x1 24 = G at *
  have out : (x5 < 0 ∨ x6 < 0 ∨ 24 ≤ x5 ∨ 24 ≤ x6) → (Option.bind (f_tri_At F G x5 x6 false) fun (d : Int × Bool) => some (d.1 == 0)) = some true := fun h => by
    rw [tri_At_out F G x5 x6 false h]; rfl
  by_cases a1 : x5 < 0
  · rw [decide_eq_true a1, cond_true]; exact out (by omega)
  rw [decide_eq_false a1, cond_false]
  by_cases a2 : x5 > 23
  · rw [decide_eq_true a2, cond_true]; exact out (by omega)
  rw [decide_eq_false a2, cond_false]
  by_cases a3 : x6 < 0
  · rw [decide_eq_true a3, cond_true]; exact out (by omega)
  rw [decide_eq_false a3, cond_false]
  by_cases a4 : x6 > 23
  · rw [decide_eq_true a4, cond_true]; exact out (by omega)
  rw [decide_eq_false a4, cond_false]
  obtain ⟨x, rfl⟩ : ∃ x : Nat, x5 = (x : Int) := ⟨x5.toNat, by omega⟩
  obtain ⟨y, rfl⟩ : ∃ y : Nat, x6 = (y : Int) := ⟨x6.toNat, by omega⟩
  have e := at_nil hF hG x y (by omega) (by omega)
  by_cases c : x = y
  · subst c
    have r : inR ((x : Nat) : Int) 24 = true := idx_in (show x < 24 by omega)
    rw [beq_self_eq_true, cond_true, r, cond_true]
    unfold L_astrolabelaw9_TriSets_0 S_astrolabelaw9_TriSets_0
    rw [if_pos rfl] at e
    simp only [e, Option.bind_some, Int.toNat_natCast, beq_self_eq_true, cond_true, Bool.not_false]
  · have ne : ((x : Int) == (y : Int)) = false := by rw [beq_eq_false_iff_ne]; omega
    rw [ne, cond_false]
    unfold L_astrolabelaw9_TriSets_0 S_astrolabelaw9_TriSets_0
    rw [if_neg c] at e
    simp only [e, Option.bind_some, beq_self_eq_true, cond_true, Bool.not_false]
theorem allN_self (n : Nat) (g : Nat → Int) : allN n (fun j => g j == g j) = true := by
  unfold allN
  rw [List.all_eq_true]
  intro j _
  exact beq_self_eq_true _
theorem uV_other (f : Nat → Int) (i j : Nat) (v : Int) (h : i < j) (h2 : j < 24) (x y : Int) (ne : x ≠ i ∨ y ≠ j) : uV (fun k => bif Nat.beq k (pos i j) then v else f k) x y = uV f x y := by
  unfold uV
  by_cases c : x = y ∧ 0 ≤ x ∧ x < 24
  · rw [if_pos c, if_pos c]
  · rw [if_neg c, if_neg c]
    by_cases d : 0 ≤ x ∧ x < y ∧ y < 24
    · rw [if_pos d, if_pos d]
      have q : pos x.toNat y.toNat ≠ pos i j := fun e => by
        have := pos_inj (i := x.toNat) (j := y.toNat) (by omega) (by omega) h h2 e
        omega
      simp only [nbeq_no q, cond_false]
    · rw [if_neg d, if_neg d]
theorem uV_set (f : Nat → Int) (i j : Nat) (v : Int) (h : i < j) (h2 : j < 24) : uV (fun k => bif Nat.beq k (pos i j) then v else f k) i j = v := by
  unfold uV
  rw [if_neg (by omega), if_pos (by omega)]
  simp only [Int.toNat_natCast, Nat.beq_refl, cond_true]
theorem triSets_plain (x0 x1 : Nat → Int) (x2 x3 x4 x5 x6 : Int) : f_astrolabelaw9_TriSets x0 x1 x2 x3 x4 x5 x6 = some true := by
  unfold f_astrolabelaw9_TriSets K_astrolabelaw9_TriSets
  rw [tri_awake, Option.bind_some]
  simp only [Bool.not_true, cond_false]
  by_cases c : 0 ≤ x2 ∧ x2 < x3 ∧ x3 < 24
  · obtain ⟨i, rfl⟩ : ∃ i : Nat, x2 = (i : Int) := ⟨x2.toNat, by omega⟩
    obtain ⟨j, rfl⟩ : ∃ j : Nat, x3 = (j : Int) := ⟨x3.toNat, by omega⟩
    have h1 : i < j := by omega
    have h2 : j < 24 := by omega
    rw [tri_Set_yes x0 x1 i j x4 h1 h2, Option.bind_some]
    simp only [tri_U_eq, Option.bind_some, allN_self, Bool.not_true, cond_false]
    rw [decide_eq_true (show (i : Int) ≥ 0 by omega), cond_true, decide_eq_true (show (i : Int) < j by omega), cond_true, decide_eq_true (show (j : Int) < 24 by omega), cond_true, uV_set x0 i j x4 h1 h2, bne_self_eq_false, cond_false]
    by_cases e : x5 = i
    · have b : (x5 != (i : Int)) = false := by rw [e, bne_self_eq_false]
      rw [b, cond_false]
      by_cases e2 : x6 = j
      · have b2 : (x6 != (j : Int)) = false := by rw [e2, bne_self_eq_false]
        rw [b2, cond_false]
        exact tri_tail_eq x1 x5 x6
      · have b2 : (x6 != (j : Int)) = true := by rw [bne_iff_ne]; exact e2
        rw [b2, cond_true, uV_other x0 i j x4 h1 h2 x5 x6 (.inr e2), bne_self_eq_false, cond_false]
        exact tri_tail_eq x1 x5 x6
    · have b : (x5 != (i : Int)) = true := by rw [bne_iff_ne]; exact e
      rw [b, cond_true, uV_other x0 i j x4 h1 h2 x5 x6 (.inl e), bne_self_eq_false, cond_false]
      exact tri_tail_eq x1 x5 x6
  · rw [tri_Set_no x0 x1 x2 x3 x4 c, Option.bind_some]
    simp only [tri_U_eq, Option.bind_some, allN_self, Bool.not_true, cond_false, bne_self_eq_false]
    have b : ∀ p q : Bool, (bif p then tri_tail x1 x5 x6 else bif q then tri_tail x1 x5 x6 else tri_tail x1 x5 x6) = some true := fun p q => by
      rw [tri_tail_eq]; cases p <;> cases q <;> rfl
    by_cases a1 : x2 ≥ 0
    · rw [decide_eq_true a1, cond_true]
      by_cases a2 : x2 < x3
      · rw [decide_eq_true a2, cond_true, decide_eq_false (show ¬ x3 < 24 by omega), cond_false]
        exact b _ _
      · rw [decide_eq_false a2, cond_false]
        exact b _ _
    · rw [decide_eq_false a1, cond_false]
      exact b _ _
theorem triSets_ev (f : (Nat → Int) → (Nat → Int) → (Int) → (Int) → (Int) → (Int) → (Int) → Option Bool) (x0_0_0 : Nat → Int) (x0_1_0 : Nat → Int) (x1_0 : Int) (x2_0 : Int) (x3_0 : Int) (x4_0 : Int) (x5_0 : Int) : F_astrolabelaw9_TriSets f [.r (.agg [.a (.l 276) [.i .i64 x0_0_0], .a (.l 24) [.i .i64 x0_1_0]]), .r (.c (.f (.i .i64 x1_0))), .r (.c (.f (.i .i64 x2_0))), .r (.c (.f (.i .i64 x3_0))), .r (.c (.f (.i .i64 x4_0))), .r (.c (.f (.i .i64 x5_0)))] [] = .opt (f x0_0_0 x0_1_0 x1_0 x2_0 x3_0 x4_0 x5_0) fun d => .leaf ⟨.r (.c (.f (.b d))), [], []⟩ := by kernel_rfl
theorem triSets_trues : Trues (F_astrolabelaw9_TriSets f_astrolabelaw9_TriSets) [.flat true [.a 276 [.i .i64], .a 24 [.i .i64]], .flat false [.c (.i .i64)], .flat false [.c (.i .i64)], .flat false [.c (.i .i64)], .flat false [.c (.i .i64)], .flat false [.c (.i .i64)]] := fun ds h => by
  obtain ⟨_, _, rfl, q0_0, g0⟩ := fit_flat h
  obtain ⟨_, _, rfl, p0_0_0, q0_1⟩ := f1_a q0_0
  obtain ⟨x0_0_0, _, rfl, r0_0_0, p0_0_1⟩ := col_i p0_0_0
  obtain rfl := col_nil p0_0_1
  obtain ⟨_, _, rfl, p0_1_0, q0_2⟩ := f1_a q0_1
  obtain ⟨x0_1_0, _, rfl, r0_1_0, p0_1_1⟩ := col_i p0_1_0
  obtain rfl := col_nil p0_1_1
  obtain rfl := f1_nil q0_2
  obtain ⟨_, _, rfl, q1_0, g1⟩ := fit_flat g0
  obtain ⟨x1_0, _, rfl, r1_0, q1_1⟩ := f1_i q1_0
  obtain rfl := f1_nil q1_1
  obtain ⟨_, _, rfl, q2_0, g2⟩ := fit_flat g1
  obtain ⟨x2_0, _, rfl, r2_0, q2_1⟩ := f1_i q2_0
  obtain rfl := f1_nil q2_1
  obtain ⟨_, _, rfl, q3_0, g3⟩ := fit_flat g2
  obtain ⟨x3_0, _, rfl, r3_0, q3_1⟩ := f1_i q3_0
  obtain rfl := f1_nil q3_1
  obtain ⟨_, _, rfl, q4_0, g4⟩ := fit_flat g3
  obtain ⟨x4_0, _, rfl, r4_0, q4_1⟩ := f1_i q4_0
  obtain rfl := f1_nil q4_1
  obtain ⟨_, _, rfl, q5_0, g5⟩ := fit_flat g4
  obtain ⟨x5_0, _, rfl, r5_0, q5_1⟩ := f1_i q5_0
  obtain rfl := f1_nil q5_1
  obtain rfl := fit_nil g5
  refine ⟨[], (congrArg T.eval (triSets_ev f_astrolabelaw9_TriSets x0_0_0 x0_1_0 x1_0 x2_0 x3_0 x4_0 x5_0)).trans ?_⟩
  rw [triSets_plain x0_0_0 x0_1_0 x1_0 x2_0 x3_0 x4_0 x5_0]
  rfl
set_option maxRecDepth 100000 in
theorem triSets_lifted (os : Os) (started : os.Started) (H : Type) (enc : TypeId × Value → H) :
    ReturnsInHanded {} Try.checked os 13 .any (Rows.triSetsSpec.pre6 enc Try.prog Try.f13 Rows.triSetsRow.domain false) (Rows.triSetsSpec.post enc Try.prog Try.f13 false true false false) :=
  law_lift (C := Try.checked) (tb := Try.f13.resultTypes.getD 0 0) own started (by kernel_rfl) Try.func13 laid (by kernel_rfl) (by kernel_rfl) (by kernel_rfl) rfl
    (fun ds h => by
      have h : ds.length = 6 := h.trans (by kernel_rfl)
      match ds, h with
      | [_, _, _, _, _, _], _ => rfl)
    (ChangeSpec.witness6 (enc := enc) (C := Try.checked) false ⟨#[], #[.agg #[.int .i64 0, .int .i64 0, .int .i64 0, .int .i64 0, .int .i64 0, .int .i64 0, .int .i64 0, .int .i64 0, .int .i64 0, .int .i64 0, .int .i64 0, .int .i64 0, .int .i64 0, .int .i64 0, .int .i64 0, .int .i64 0, .int .i64 0, .int .i64 0, .int .i64 0, .int .i64 0, .int .i64 0, .int .i64 0, .int .i64 0, .int .i64 0, .int .i64 0, .int .i64 0, .int .i64 0, .int .i64 0, .int .i64 0, .int .i64 0, .int .i64 0, .int .i64 0, .int .i64 0, .int .i64 0, .int .i64 0, .int .i64 0, .int .i64 0, .int .i64 0, .int .i64 0, .int .i64 0, .int .i64 0, .int .i64 0, .int .i64 0, .int .i64 0, .int .i64 0, .int .i64 0, .int .i64 0, .int .i64 0, .int .i64 0, .int .i64 0, .int .i64 0, .int .i64 0, .int .i64 0, .int .i64 0, .int .i64 0, .int .i64 0, .int .i64 0, .int .i64 0, .int .i64 0, .int .i64 0, .int .i64 0, .int .i64 0, .int .i64 0, .int .i64 0, .int .i64 0, .int .i64 0, .int .i64 0, .int .i64 0, .int .i64 0, .int .i64 0, .int .i64 0, .int .i64 0, .int .i64 0, .int .i64 0, .int .i64 0, .int .i64 0, .int .i64 0, .int .i64 0, .int .i64 0, .int .i64 0, .int .i64 0, .int .i64 0, .int .i64 0, .int .i64 0, .int .i64 0, .int .i64 0, .int .i64 0, .int .i64 0, .int .i64 0, .int .i64 0, .int .i64 0, .int .i64 0, .int .i64 0, .int .i64 0, .int .i64 0, .int .i64 0, .int .i64 0, .int .i64 0, .int .i64 0, .int .i64 0, .int .i64 0, .int .i64 0, .int .i64 0, .int .i64 0, .int .i64 0, .int .i64 0, .int .i64 0, .int .i64 0, .int .i64 0, .int .i64 0, .int .i64 0, .int .i64 0, .int .i64 0, .int .i64 0, .int .i64 0, .int .i64 0, .int .i64 0, .int .i64 0, .int .i64 0, .int .i64 0, .int .i64 0, .int .i64 0, .int .i64 0, .int .i64 0, .int .i64 0, .int .i64 0, .int .i64 0, .int .i64 0, .int .i64 0, .int .i64 0, .int .i64 0, .int .i64 0, .int .i64 0, .int .i64 0, .int .i64 0, .int .i64 0, .int .i64 0, .int .i64 0, .int .i64 0, .int .i64 0, .int .i64 0, .int .i64 0, .int .i64 0, .int .i64 0, .int .i64 0, .int .i64 0, .int .i64 0, .int .i64 0, .int .i64 0, .int .i64 0, .int .i64 0, .int .i64 0, .int .i64 0, .int .i64 0, .int .i64 0, .int .i64 0, .int .i64 0, .int .i64 0, .int .i64 0, .int .i64 0, .int .i64 0, .int .i64 0, .int .i64 0, .int .i64 0, .int .i64 0, .int .i64 0, .int .i64 0, .int .i64 0, .int .i64 0, .int .i64 0, .int .i64 0, .int .i64 0, .int .i64 0, .int .i64 0, .int .i64 0, .int .i64 0, .int .i64 0, .int .i64 0, .int .i64 0, .int .i64 0, .int .i64 0, .int .i64 0, .int .i64 0, .int .i64 0, .int .i64 0, .int .i64 0, .int .i64 0, .int .i64 0, .int .i64 0, .int .i64 0, .int .i64 0, .int .i64 0, .int .i64 0, .int .i64 0, .int .i64 0, .int .i64 0, .int .i64 0, .int .i64 0, .int .i64 0, .int .i64 0, .int .i64 0, .int .i64 0, .int .i64 0, .int .i64 0, .int .i64 0, .int .i64 0, .int .i64 0, .int .i64 0, .int .i64 0, .int .i64 0, .int .i64 0, .int .i64 0, .int .i64 0, .int .i64 0, .int .i64 0, .int .i64 0, .int .i64 0, .int .i64 0, .int .i64 0, .int .i64 0, .int .i64 0, .int .i64 0, .int .i64 0, .int .i64 0, .int .i64 0, .int .i64 0, .int .i64 0, .int .i64 0, .int .i64 0, .int .i64 0, .int .i64 0, .int .i64 0, .int .i64 0, .int .i64 0, .int .i64 0, .int .i64 0, .int .i64 0, .int .i64 0, .int .i64 0, .int .i64 0, .int .i64 0, .int .i64 0, .int .i64 0, .int .i64 0, .int .i64 0, .int .i64 0, .int .i64 0, .int .i64 0, .int .i64 0, .int .i64 0, .int .i64 0, .int .i64 0, .int .i64 0, .int .i64 0, .int .i64 0, .int .i64 0, .int .i64 0, .int .i64 0, .int .i64 0, .int .i64 0, .int .i64 0, .int .i64 0, .int .i64 0, .int .i64 0, .int .i64 0, .int .i64 0, .int .i64 0, .int .i64 0, .int .i64 0, .int .i64 0, .int .i64 0, .int .i64 0, .int .i64 0, .int .i64 0, .int .i64 0, .int .i64 0, .int .i64 0, .int .i64 0, .int .i64 0, .int .i64 0, .int .i64 0, .int .i64 0, .int .i64 0, .int .i64 0, .int .i64 0, .int .i64 0, .int .i64 0, .int .i64 0, .int .i64 0, .int .i64 0, .int .i64 0, .int .i64 0, .int .i64 0, .int .i64 0, .int .i64 0, .int .i64 0, .int .i64 0, .int .i64 0, .int .i64 0, .int .i64 0], .int .i64 0, .int .i64 0, .int .i64 0, .int .i64 0, .int .i64 0], []⟩ 8 (by kernel_rfl) (by kernel_rfl) (by kernel_rfl) (by kernel_rfl))
    (fun W base args ds ps _ hval ht hz _ _ => prm_calls (pr := [.flat true [.a 276 [.i .i64], .a 24 [.i .i64]], .flat false [.c (.i .i64)], .flat false [.c (.i .i64)], .flat false [.c (.i .i64)], .flat false [.c (.i .i64)], .flat false [.c (.i .i64)]]) s_astrolabelaw9_TriSets (by kernel_rfl) (ts := Try.f13.params.toList) (by kernel_rfl) (by kernel_rfl) triSets_trues hval ht hz)
theorem triSets_over : Rows.triSetsRow.holds Try.pinned (OpenSpec.ofChange Rows.triSetsSpec) :=
  OpenClaim.holds_of_wide 13 Try.f13 rfl rfl rfl rfl rfl rfl rfl ⟨rfl, rfl, rfl, rfl, rfl⟩ rfl rfl rfl rfl rfl (by kernel_rfl) Try.func13 (by kernel_rfl)
    (of_decide_eq_true (by kernel_rfl)) (by unfold Func.isWrapper; first | (rw [if_pos (by decide +kernel)]; kernel_rfl) | (rw [if_neg (by decide +kernel)]; exact ⟨rfl, rfl⟩))
    (fun os started H enc _ => triSets_lifted os started H enc)
/-- the statement -/
theorem triSets_proved : Rows.TriSetsSaid := triSets_over
#print axioms triSets_proved
end Go.Proofs.Ytmlmpcabphgfaaa
