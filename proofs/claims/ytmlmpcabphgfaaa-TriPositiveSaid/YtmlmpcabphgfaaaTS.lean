/-
  A covariance's factors in plain arithmetic.
-/
import Derived.Test.YtmlmpcabphgfaaaT1
import Derived.Test.YtmlmpcabphgfaaaWV
set_option maxRecDepth 100000
set_option maxHeartbeats 4000000
set_option linter.unusedVariables false
set_option linter.unusedSimpArgs false
namespace Go.Proofs.Ytmlmpcabphgfaaa
open Go.Ab
theorem clamp_eq (a lo hi : Int) (hit : Bool) (h : lo ≤ hi) : f___fx_Acc__Clamp a lo hi hit = some (if a < lo then lo else if hi < a then hi else a, hit || (decide (a < lo) || decide (hi < a))) := by
  unfold f___fx_Acc__Clamp K___fx_Acc__Clamp
  rw [decide_eq_false (show ¬ lo > hi by omega), cond_false]
  by_cases c : a < lo
  · rw [decide_eq_true c, cond_true, if_pos c, Bool.true_or, Bool.or_true]
  · rw [decide_eq_false c, cond_false, if_neg c, Bool.false_or]
    by_cases d : hi < a
    · rw [decide_eq_true d, cond_true, if_pos d, Bool.or_true]
    · rw [decide_eq_false d, cond_false, if_neg d, Bool.or_false]
/-- a variance, clamped -/
def vclamp (d : Int) : Int := if d < 1 then 1 else if 72057594037927936 < d then 72057594037927936 else d
def vout (d : Int) : Bool := decide (d < 1) || decide (72057594037927936 < d)
theorem tri_variance_eq (d : Int) (hit : Bool) : f_tri_variance d hit = some (vclamp d, hit || vout d) := by
  unfold f_tri_variance K_tri_variance
  rw [clamp_eq d 1 72057594037927936 hit (by omega), Option.bind_some]
  rfl
def tn (j : Nat) : Nat := j * (j - 1) / 2
theorem tn_lt : ∀ j j' : Fin 25, j.val < j'.val → tn j.val + j.val ≤ tn j'.val := by decide
theorem tn_le {j j' : Nat} (h : j < j') (h2 : j' ≤ 24) : tn j + j ≤ tn j' := tn_lt ⟨j, by omega⟩ ⟨j', by omega⟩ h
theorem tn_24 : tn 24 = 276 := by decide
/-- where a number stands -/
def pos (i j : Nat) : Nat := tn j + i
theorem pos_lt {i j : Nat} (h : i < j) (h2 : j < 24) : pos i j < 276 := by
  have := tn_le h2 (by omega)
  rw [tn_24] at this
  unfold pos; omega
theorem pos_inj {i j i' j' : Nat} (h : i < j) (h2 : j < 24) (h' : i' < j') (h2' : j' < 24) (e : pos i j = pos i' j') : i = i' ∧ j = j' := by
  unfold pos at e
  rcases Nat.lt_trichotomy j j' with c | c | c
  · have := tn_le c (by omega); omega
  · subst c; omega
  · have := tn_le c (by omega); omega
theorem place_no (i j : Int) (h : ¬ (0 ≤ i ∧ i < j ∧ j < 24)) : ∃ a, f_tri_place i j = some (a, false) := by
  unfold f_tri_place K_tri_place
  by_cases a : i ≥ 0
  · rw [decide_eq_true a, cond_true]
    by_cases b : i < j
    · rw [decide_eq_true b, cond_true, decide_eq_false (show ¬ j < 24 by omega)]; exact ⟨_, rfl⟩
    · rw [decide_eq_false b, cond_false]; exact ⟨_, rfl⟩
  · rw [decide_eq_false a, cond_false]; exact ⟨_, rfl⟩
theorem place_yes (i j : Nat) (h : i < j) (h2 : j < 24) : f_tri_place (i : Int) (j : Int) = some ((pos i j : Int), true) := by
  have key : ∀ j : Fin 24, IntKind.wrap .i64 (Int.tdiv (IntKind.wrap .i64 ((j.val : Int) * IntKind.wrap .i64 ((j.val : Int) - 1))) 2) = (tn j.val : Int) := by decide +kernel
  unfold f_tri_place K_tri_place
  rw [decide_eq_true (show (i : Int) ≥ 0 by omega), cond_true, decide_eq_true (show (i : Int) < j by omega), cond_true, show IntKind.wrap .i64 (Int.tdiv (IntKind.wrap .i64 ((j : Int) * IntKind.wrap .i64 ((j : Int) - 1))) 2) = (tn j : Int) from key ⟨j, h2⟩, decide_eq_true (show (j : Int) < 24 by omega)]
  have := pos_lt h h2
  unfold pos at *
  rw [wrap_i64 (by omega) (by omega), Int.natCast_add]
/-- a number of U -/
def uV (f : Nat → Int) (i j : Int) : Int := if i = j ∧ 0 ≤ i ∧ i < 24 then 1073741824 else if 0 ≤ i ∧ i < j ∧ j < 24 then f (pos i.toNat j.toNat) else 0
theorem ble1 {n m : Nat} (h : n < m) : Nat.ble (0 + n * 1 + 1) m = true := Nat.ble_eq_true_of_le (by omega)
theorem tri_U_eq (f g : Nat → Int) (i j : Int) : f_tri_U f g i j = some (uV f i j) := by
  have rest : (Option.bind (f_tri_place i j) fun (d : Int × Bool) => bif !d.2 then some 0 else bif inR d.1 276 then bif Nat.ble (0 + Int.toNat d.1 * 1 + 1) 276 then some (f (Int.toNat d.1)) else none else none) = some (if 0 ≤ i ∧ i < j ∧ j < 24 then f (pos i.toNat j.toNat) else 0) := by
    by_cases c : 0 ≤ i ∧ i < j ∧ j < 24
    · obtain ⟨a, rfl⟩ : ∃ a : Nat, i = (a : Int) := ⟨i.toNat, by omega⟩
      obtain ⟨b, rfl⟩ : ∃ b : Nat, j = (b : Int) := ⟨j.toNat, by omega⟩
      have h1 : a < b := by omega
      have h2 : b < 24 := by omega
      rw [place_yes a b h1 h2, if_pos c, Option.bind_some]
      have e : inR ((pos a b : Nat) : Int) 276 = true := idx_in (pos_lt h1 h2)
      simp only [Bool.not_true, cond_false, e, cond_true, Int.toNat_natCast, ble1 (pos_lt h1 h2)]
    · obtain ⟨a, e⟩ := place_no i j c
      rw [e, if_neg c, Option.bind_some]; rfl
  unfold f_tri_U K_tri_U uV
  by_cases c : i = j
  · have e : (i == j) = true := by simp [c]
    rw [e, cond_true]
    by_cases d : i ≥ 0
    · rw [decide_eq_true d, cond_true]
      by_cases g : i < 24
      · rw [decide_eq_true g, cond_true, if_pos ⟨c, by omega, g⟩]
      · rw [decide_eq_false g, cond_false, if_neg (by omega)]; exact rest
    · rw [decide_eq_false d, cond_false, if_neg (by omega)]; exact rest
  · have e : (i == j) = false := by simp [c]
    rw [e, cond_false, if_neg (by omega)]; exact rest
/-- Set: what is put, and where -/
theorem tri_Set_yes (f g : Nat → Int) (i j : Nat) (v : Int) (h : i < j) (h2 : j < 24) : f_tri_Set f g i j v = some (fun k => bif Nat.beq k (pos i j) then v else f k, g) := by
  unfold f_tri_Set K_tri_Set
  rw [place_yes i j h h2, Option.bind_some]
  have e : inR ((pos i j : Nat) : Int) 276 = true := idx_in (pos_lt h h2)
  have p := pos_lt h h2
  have e2 : Nat.ble (0 + pos i j * 1 + 1) 300 = true := Nat.ble_eq_true_of_le (by omega)
  simp only [cond_true, e, Int.toNat_natCast, ble1 p, e2, Bool.and_self]
theorem tri_Set_no (f g : Nat → Int) (i j : Int) (v : Int) (h : ¬ (0 ≤ i ∧ i < j ∧ j < 24)) : f_tri_Set f g i j v = some (f, g) := by
  obtain ⟨a, e⟩ := place_no i j h
  unfold f_tri_Set K_tri_Set
  rw [e, Option.bind_some]; rfl
theorem nbeq_no {j m : Nat} (h : j ≠ m) : Nat.beq j m = false := by
  cases e : Nat.beq j m with
  | false => rfl
  | true => exact absurd (Nat.eq_of_beq_eq_true e) h
theorem sumF_ext {f g : Nat → Int} {n : Nat} (h : ∀ j, j < n → f j = g j) : sumF f n = sumF g n := by
  induction n with
  | zero => rfl
  | succ n ih => rw [sumF, sumF, ih fun j hj => h j (by omega), h n (by omega)]
theorem anyF_ext {f g : Nat → Bool} {n : Nat} (h : ∀ j, j < n → f j = g j) : anyF f n = anyF g n := by
  induction n with
  | zero => rfl
  | succ n ih => rw [anyF, anyF, ih fun j hj => h j (by omega), h n (by omega)]
/-- what stands in the k-th place of At's second list -/
def xV (f g : Nat → Int) (j : Int) (k : Nat) : Int := rnd (sat (uV f j k) * sat (g k)) 30
def xO (f g : Nat → Int) (j : Int) (k : Nat) : Bool := over (uV f j k) || over (g k) || over (xV f g j k)
def atS (f g : Nat → Int) (i j : Int) (m n : Nat) : Int := sumF (fun k => sat (uV f i ((m + k : Nat) : Int)) * sat (sat (xV f g j (m + k)))) n
def atO (f g : Nat → Int) (i j : Int) (m n : Nat) : Bool := anyF (fun k => over (uV f i ((m + k : Nat) : Int)) || over (sat (xV f g j (m + k)))) n
theorem tri_At_eq (f g : Nat → Int) (i j : Int) (m : Nat) (hit : Bool) (h0 : 0 ≤ i) (h1 : 0 ≤ j) (h2 : (if j > i then j else i) = (m : Int)) (h3 : m < 24) :
    f_tri_At f g i j hit = some (sat (rnd (atS f g i j m (24 - m)) 30), ((hit || anyF (fun k => xO f g j (m + k)) (24 - m)) || atO f g i j m (24 - m)) || over (rnd (atS f g i j m (24 - m)) 30)) := by
  unfold f_tri_At K_tri_At L_tri_At_0
  rw [decide_eq_false (show ¬ (if j < i then j else i) < 0 by split <;> omega), cond_false, h2, decide_eq_false (show ¬ (m : Int) ≥ 24 by omega), cond_false]
  refine loopK_inv (fun t d => ∃ (n : Nat) (u x : Nat → Int), m + n + t = 24 ∧ (∀ k, k < n → u k = uV f i ((m + k : Nat) : Int)) ∧ (∀ k, k < n → x k = sat (xV f g j (m + k))) ∧
      d = (i, j, n, n, ((m + n : Nat) : Int), (hit || anyF (fun k => xO f g j (m + k)) n), f, g, n, u, n, x)) ?_ 200 (24 - m) _ (by omega)
    ⟨0, fun _ => 0, fun _ => 0, by omega, (fun k hk => by omega), (fun k hk => by omega), by simp only [anyF, Bool.or_false]; rfl⟩
  rintro t _ c ⟨n, u, x, hn, hu, hx, rfl⟩ hc
  rcases Nat.eq_zero_or_pos t with t0 | t0
  · have e : n = 24 - m := by omega
    have z : decide (((m + n : Nat) : Int) < 24) = false := decide_eq_false (by omega)
    simp only [S_tri_At_0, z, cond_false, Nat.beq_refl, cond_true]
    rw [show (30 : Int) = Int.ofNat 30 from rfl, acc_dot 30 (by omega) n (by omega), Option.bind_some]
    have s1 : sumF (fun k => sat (u k) * sat (x k)) n = atS f g i j m n := sumF_ext fun k hk => by rw [hu k hk, hx k hk]
    have s2 : anyF (fun k => over (u k) || over (x k)) n = atO f g i j m n := anyF_ext fun k hk => by rw [hu k hk, hx k hk]
    rw [s1, s2, e]
  · have z : decide (((m + n : Nat) : Int) < 24) = true := decide_eq_true (by omega)
    have b1 : Nat.ble ((n + 1) * 8) 140737488355328 = true := Nat.ble_eq_true_of_le (by omega)
    have b2 : inR ((m + n : Nat) : Int) 24 = true := idx_in (show m + n < 24 by omega)
    have b3 : IntKind.wrap .i64 (((m + n : Nat) : Int) + 1) = ((m + (n + 1) : Nat) : Int) := (wrap_i64 (by omega) (by omega)).trans (by omega)
    have b4 : Int.toNat ((m + n : Nat) : Int) = m + n := Int.toNat_natCast _
    have mu := acc_mul (uV f j ((m + n : Nat) : Int)) (g (m + n)) 30 (hit || anyF (fun k => xO f g j (m + k)) n) (by omega)
    rw [show Int.ofNat 30 = 30 from rfl] at mu
    simp only [S_tri_At_0, z, cond_true, tri_U_eq, Option.bind_some, b1, b2, b3, b4, mu]
    refine hc (t - 1) _ (by omega) ⟨n + 1, (fun k => bif Nat.beq k n then uV f i ((m + n : Nat) : Int) else u k), (fun k => bif Nat.beq k n then sat (rnd (sat (uV f j ((m + n : Nat) : Int)) * sat (g (m + n))) 30) else x k), by omega, ?_, ?_, ?_⟩
    · intro k hk
      simp only
      rcases Nat.lt_or_ge k n with c | c
      · rw [nbeq_no (show k ≠ n by omega), cond_false]; exact hu k c
      · obtain rfl : k = n := by omega
        rw [Nat.beq_refl, cond_true]
    · intro k hk
      simp only
      rcases Nat.lt_or_ge k n with c | c
      · rw [nbeq_no (show k ≠ n by omega), cond_false]; exact hx k c
      · obtain rfl : k = n := by omega
        rw [Nat.beq_refl, cond_true]; rfl
    · have e : (hit || anyF (fun k => xO f g j (m + k)) n || over (uV f j ((m + n : Nat) : Int)) || over (g (m + n)) || over (rnd (sat (uV f j ((m + n : Nat) : Int)) * sat (g (m + n))) 30)) = (hit || anyF (fun k => xO f g j (m + k)) (n + 1)) := by
        simp only [anyF, xO, xV, Bool.or_assoc]
      rw [e]
theorem tri_At_out (f g : Nat → Int) (i j : Int) (hit : Bool) (h : i < 0 ∨ j < 0 ∨ 24 ≤ i ∨ 24 ≤ j) : f_tri_At f g i j hit = some (0, hit) := by
  unfold f_tri_At K_tri_At
  by_cases c : (if j < i then j else i) < 0
  · rw [decide_eq_true c, cond_true]
  · rw [decide_eq_false c, cond_false, decide_eq_true (show (if j > i then j else i) ≥ 24 by split at c <;> split <;> omega), cond_true]
/-- numbers put one by one -/
def putAll (h f : Nat → Int) : Nat → Nat → Int
  | 0 => f
  | n + 1 => fun j => bif Nat.beq j n then h n else putAll h f n j
theorem putAll_ge (h f : Nat → Int) : ∀ {n k : Nat}, n ≤ k → putAll h f n k = f k
  | 0, k, _ => rfl
  | n + 1, k, hk => by
    rw [putAll]
    simp only [nbeq_no (show k ≠ n by omega), cond_false]
    exact putAll_ge h f (by omega)
theorem putAll_lt (h f : Nat → Int) : ∀ {n k : Nat}, k < n → putAll h f n k = h k
  | n + 1, k, hk => by
    rw [putAll]
    rcases Nat.lt_or_ge k n with c | c
    · simp only [nbeq_no (show k ≠ n by omega), cond_false]
      exact putAll_lt h f c
    · obtain rfl : k = n := by omega
      simp only [Nat.beq_refl, cond_true]
/-- Condition: each number clamped -/
theorem tri_Condition_eq (f g : Nat → Int) (hit : Bool) : f_tri_Condition f g hit = some (putAll (fun k => sat (f k)) f 276, putAll (fun k => vclamp (g k)) g 24, (hit || anyF (fun k => vout (g k)) 24) || anyF (fun k => over (f k)) 276) := by
  unfold f_tri_Condition K_tri_Condition L_tri_Condition_0
  refine loopK_inv (fun t d => ∃ (n : Nat), n + t = 24 ∧ d = ((n : Int), (hit || anyF (fun k => vout (g k)) n), f, putAll (fun k => vclamp (g k)) g n, (fun _ => 0), (fun _ => 0))) ?_ 1000 24 _ (by omega)
    ⟨0, by omega, by simp only [anyF, Bool.or_false]; rfl⟩
  rintro t _ c ⟨n, hn, rfl⟩ hc
  rcases Nat.eq_zero_or_pos t with t0 | t0
  · obtain rfl : n = 24 := by omega
    have z : decide (((24 : Nat) : Int) < 24) = false := by decide
    simp only [S_tri_Condition_0, z, cond_false]
    generalize hh : (hit || anyF (fun k => vout (g k)) 24) = hit2
    generalize putAll (fun k => vclamp (g k)) g 24 = g'
    unfold L_tri_Condition_1
    refine loopK_inv (fun t d => ∃ (n : Nat), n + t = 276 ∧ d = ((n : Int), (hit2 || anyF (fun k => over (f k)) n), putAll (fun k => sat (f k)) f n, g', (fun _ => 0), (fun _ => 0))) ?_ 1000 276 _ (by omega)
      ⟨0, by omega, by simp only [anyF, Bool.or_false]; rfl⟩
    rintro t _ c ⟨n, hn, rfl⟩ hc
    rcases Nat.eq_zero_or_pos t with t0 | t0
    · obtain rfl : n = 276 := by omega
      have z : decide (((276 : Nat) : Int) < 276) = false := by decide
      simp only [S_tri_Condition_1, z, cond_false]
    · have z : decide ((n : Int) < 276) = true := decide_eq_true (by omega)
      have b2 : inR (n : Int) 276 = true := idx_in (show n < 276 by omega)
      have b3 : IntKind.wrap .i64 ((n : Int) + 1) = ((n + 1 : Nat) : Int) := (wrap_i64 (by omega) (by omega)).trans (by omega)
      have b4 : Nat.ble (0 + n * 1 + 1) 276 = true := ble1 (by omega)
      have b5 : Nat.ble (0 + n * 1 + 1) 300 = true := Nat.ble_eq_true_of_le (by omega)
      have cl := clamp_eq (f n) (-1152921504606846976) 1152921504606846976 (hit2 || anyF (fun k => over (f k)) n) (by omega)
      simp only [S_tri_Condition_1, z, cond_true, b2, Int.toNat_natCast, putAll_ge (fun k => sat (f k)) f (Nat.le_refl n), cl, Option.bind_some, b3, b4, b5, Bool.and_self]
      refine hc (t - 1) _ (by omega) ⟨n + 1, by omega, ?_⟩
      simp only [anyF, over, Bool.or_assoc]
      rfl
  · have z : decide ((n : Int) < 24) = true := decide_eq_true (by omega)
    have b2 : inR (n : Int) 24 = true := idx_in (show n < 24 by omega)
    have b3 : IntKind.wrap .i64 ((n : Int) + 1) = ((n + 1 : Nat) : Int) := (wrap_i64 (by omega) (by omega)).trans (by omega)
    have b5 : Nat.ble (276 + n * 1 + 1) 300 = true := Nat.ble_eq_true_of_le (by omega)
    simp only [S_tri_Condition_0, z, cond_true, b2, Int.toNat_natCast, putAll_ge (fun k => vclamp (g k)) g (Nat.le_refl n), tri_variance_eq, Option.bind_some, b3, b5, Bool.and_self]
    refine hc (t - 1) _ (by omega) ⟨n + 1, by omega, ?_⟩
    simp only [anyF, Bool.or_assoc]
    rfl
end Go.Proofs.Ytmlmpcabphgfaaa
