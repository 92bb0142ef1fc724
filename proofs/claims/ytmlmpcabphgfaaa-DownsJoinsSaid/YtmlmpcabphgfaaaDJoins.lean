/-
  What is told is Join of those that were taken since; no time is lost (P14.2): the statement of astrolabelaw14.DownsJoins; no condition.
-/
import Derived.Test.YtmlmpcabphgfaaaDPlays
import Derived.Test.YtmlmpcabphgfaaaD4
set_option maxRecDepth 100000
set_option maxHeartbeats 4000000
set_option linter.unusedVariables false
set_option linter.unusedSimpArgs false
namespace Go.Proofs.Ytmlmpcabphgfaaa
open Go.Ab
theorem sumF_congr {f g : Nat → Int} {n : Nat} (h : ∀ j, j < n → f j = g j) : sumF f n = sumF g n := by
  induction n with
  | zero => rfl
  | succ n ih => rw [sumF, sumF, ih fun j hj => h j (by omega), h n (by omega)]
theorem nbeq_ne {j m : Nat} (h : j ≠ m) : Nat.beq j m = false := by
  cases e : Nat.beq j m with
  | false => rfl
  | true => exact absurd (Nat.eq_of_beq_eq_true e) h
theorem sumF_put (f : Nat → Int) (m : Nat) (v : Int) : sumF (fun j => bif Nat.beq j m then v else f j) (m + 1) = sumF f m + v := by
  rw [sumF]
  have e : sumF (fun j => bif Nat.beq j m then v else f j) m = sumF f m := sumF_congr fun j hj => by
    simp only [nbeq_ne (show j ≠ m by omega), cond_false]
  rw [e]
  simp only [Nat.beq_refl, cond_true]
theorem sumF_mono {f : Nat → Int} {n : Nat} (h : ∀ j, j < n → 0 ≤ f j) : ∀ i, i ≤ n → 0 ≤ sumF f i ∧ sumF f i ≤ sumF f n := by
  induction n with
  | zero => intro i hi; obtain rfl : i = 0 := by omega
            exact ⟨by simp [sumF], Int.le_refl _⟩
  | succ n ih =>
    have q := ih fun j hj => h j (by omega)
    intro i hi
    have hn := h n (by omega)
    rcases Nat.lt_or_ge n i with c | c
    · obtain rfl : i = n + 1 := by omega
      have := q n (by omega)
      rw [sumF]; omega
    · have := q i c
      rw [show sumF f (n + 1) = sumF f n + f n from rfl]; omega
theorem join_eq (n : Nat) (h0 : 0 < n) (hn : n ≤ 150) (hit w : Bool) (c0 c1 c2 c3 c4 c5 c6 c7 : Nat → Int) (hg : ∀ j, j < n → f_downs_Good (c0 j) (c1 j) (c2 j) (c3 j) (c4 j) (c5 j) (c6 j) (c7 j) = some true)
    (ho : ∀ j, j < n → okG (c0 j) (c1 j) (c2 j) (c3 j) (c4 j) (c5 j) (c6 j) (c7 j)) (ht : ∀ j, j + 1 < n → c0 j < c0 (j + 1)) (hs : ∀ i, i < n → 0 ≤ sumF c1 i ∧ sumF c1 i ≤ 100000) :
    f_downs_Join n hit c0 c1 c2 c3 c4 c5 c6 c7 w = some (c0 (n - 1), sumF c1 n, sumF c2 n, sumF c3 n, sumF c4 n, sumF c5 n, sumF c6 n, sumF c7 n, 0, hit) := by
  unfold f_downs_Join K_downs_Join L_downs_Join_0
  refine loopK_inv (fun t d => ∃ (i : Nat) (T : Int), i + t = n ∧ (0 < i → T = c0 (i - 1)) ∧ d = (n, w, n, w, Int.ofNat n, Int.ofNat i, hit, n, c0, c1, c2, c3, c4, c5, c6, c7, T, sumF c1 i, sumF c2 i, sumF c3 i, sumF c4 i, sumF c5 i, sumF c6 i, sumF c7 i)) ?_ 200 n _ (by omega)
    ⟨0, 0, by omega, (fun h => by omega), rfl⟩
  rintro t _ c ⟨i, T, hi, hT, rfl⟩ hc
  rcases Nat.eq_zero_or_pos t with t0 | t0
  · have e : i = n := by omega
    subst e
    have z : (Int.ofNat i == 0) = false := by simp only [Int.ofNat_eq_natCast, beq_eq_false_iff_ne, ne_eq]; omega
    simp only [S_downs_Join_0, idx_ge (Nat.le_refl i), cond_false, Sum.elim_inr, z]
    rw [hT h0]
  have q : Int.toNat (Int.ofNat i) = i := rfl
  simp only [S_downs_Join_0, idx_lt hi t0, idx_in (show i < n by omega), cond_true, q, idx_up (show i < 9000000000000000000 by omega), hg i (by omega), Option.bind_some, Bool.not_true, cond_false]
  obtain ⟨o1, o2, o3, o4, o5, o6, o7, o8⟩ := ho i (by omega)
  have bd : ∀ f : Nat → Int, (∀ j, j < n → l35 (f j)) → mid (sumF f i) := fun f hf => by
    have := sumF_le f 34359738368 (by omega) i fun j hj => hf j (by omega)
    omega
  have P := plus_eq T (sumF c1 i) (sumF c2 i) (sumF c3 i) (sumF c4 i) (sumF c5 i) (sumF c6 i) (sumF c7 i) (c0 i) (c1 i) (c2 i) (c3 i) (c4 i) (c5 i) (c6 i) (c7 i) hit (hs i (by omega)) (by omega)
    (bd c2 fun j hj => (ho j hj).1) (bd c3 fun j hj => (ho j hj).2.1) (bd c4 fun j hj => (ho j hj).2.2.1) (bd c5 fun j hj => (ho j hj).2.2.2.1) (bd c6 fun j hj => (ho j hj).2.2.2.2.1) (bd c7 fun j hj => (ho j hj).2.2.2.2.2.1)
    (by omega) (by omega) (by omega) (by omega) (by omega) (by omega)
  have fin : c (n, w, n, w, Int.ofNat n, Int.ofNat (i + 1), hit, n, c0, c1, c2, c3, c4, c5, c6, c7, c0 i, sumF c1 i + c1 i, sumF c2 i + c2 i, sumF c3 i + c3 i, sumF c4 i + c4 i, sumF c5 i + c5 i, sumF c6 i + c6 i, sumF c7 i + c7 i) = some (c0 (n - 1), sumF c1 n, sumF c2 n, sumF c3 n, sumF c4 n, sumF c5 n, sumF c6 n, sumF c7 n, 0, hit) :=
    hc (t - 1) _ (by omega) ⟨i + 1, c0 i, by omega, (fun _ => by rw [Nat.add_sub_cancel]), rfl⟩
  rcases Nat.eq_zero_or_pos i with i0 | i0
  · have z : decide (Int.ofNat i > 0) = false := by simp only [Int.ofNat_eq_natCast]; exact decide_eq_false (by omega)
    rw [z, cond_false, P, Option.bind_some]
    exact fin
  · obtain ⟨m, rfl⟩ : ∃ m, i = m + 1 := ⟨i - 1, by omega⟩
    have z : decide (Int.ofNat (m + 1) > 0) = true := by simp only [Int.ofNat_eq_natCast]; exact decide_eq_true (by omega)
    have z2 : IntKind.wrap .i64 (Int.ofNat (m + 1) - 1) = Int.ofNat m := (wrap_i64 (by simp only [Int.ofNat_eq_natCast]; omega) (by simp only [Int.ofNat_eq_natCast]; omega)).trans (by simp only [Int.ofNat_eq_natCast]; omega)
    have z3 : Int.toNat (Int.ofNat m) = m := rfl
    rw [z, cond_true, z2, idx_in (show m < n by omega), cond_true, z3]
    have lt := ht m (by omega)
    rw [decide_eq_false (show ¬ c0 (m + 1) ≤ c0 m by omega), cond_false, P, Option.bind_some]
    exact fin
theorem downsJoins_plain (x0 : Int) (n : Nat) (x2 x3 x4 x5 x6 x7 x8 x9 : Nat → Int) (w0 : Bool) : f_astrolabelaw14_DownsJoins x0 n x2 x3 x4 x5 x6 x7 x8 x9 w0 = some true := by
  unfold f_astrolabelaw14_DownsJoins K_astrolabelaw14_DownsJoins
  rw [downs_awake, Option.bind_some]
  simp only [Bool.not_true, cond_false]
  by_cases c1 : x0 < 1000
  · have e : f_downs_New x0 = some (Sum.inl ()) := by
      unfold f_downs_New K_downs_New
      rw [decide_eq_true c1, cond_true]
    rw [e, Option.bind_some]
    simp only [cond_true, Option.bind_some]
  by_cases c2 : x0 > 100000
  · have e : f_downs_New x0 = some (Sum.inl ()) := by
      unfold f_downs_New K_downs_New
      rw [decide_eq_false c1, cond_false, decide_eq_true c2, cond_true]
    rw [e, Option.bind_some]
    simp only [cond_true, Option.bind_some]
  rw [downs_new x0 c1 c2, Option.bind_some]
  simp only [cond_false, Option.bind_some]
  by_cases c3 : Int.ofNat n > 100
  · rw [decide_eq_true c3, cond_true]
  rw [decide_eq_false c3, cond_false]
  have n100 : n ≤ 100 := by simp only [Int.ofNat_eq_natCast] at c3; omega
  unfold L_astrolabelaw14_DownsJoins_0
  refine loopK_inv (fun t d => ∃ (i m : Nat) (any : Bool) (st told : Int) (e0 e1 e2 e3 e4 e5 e6 e7 : Nat → Int), i + t = n ∧ m ≤ i ∧ (0 < m → any = true ∧ st = e0 (m - 1)) ∧ (0 ≤ told ∧ told ≤ 100000 * (i : Int) - sumF e1 m) ∧ sumF e1 m < x0 ∧
      (∀ j, j < m → f_downs_Good (e0 j) (e1 j) (e2 j) (e3 j) (e4 j) (e5 j) (e6 j) (e7 j) = some true) ∧ (∀ j, j < m → okG (e0 j) (e1 j) (e2 j) (e3 j) (e4 j) (e5 j) (e6 j) (e7 j)) ∧ (∀ j, j + 1 < m → e0 j < e0 (j + 1)) ∧
      d = (n, w0, m, told + sumF e1 m, told, Int.ofNat i, n, x2, x3, x4, x5, x6, x7, x8, x9, x0, st, sumF e1 m, sumF e2 m, sumF e3 m, sumF e4 m, sumF e5 m, sumF e6 m, sumF e7 m, any, false, m, e0, e1, e2, e3, e4, e5, e6, e7)) ?_ 200 n _ (by omega)
    ⟨0, 0, false, 0, 0, fun _ => 0, fun _ => 0, fun _ => 0, fun _ => 0, fun _ => 0, fun _ => 0, fun _ => 0, fun _ => 0, by omega, by omega, (fun h => by omega), by simp only [sumF]; omega, by simp only [sumF]; omega, (fun j h => by omega), (fun j h => by omega), (fun j h => by omega), rfl⟩
  rintro t _ c ⟨i, m, any, st, told, e0, e1, e2, e3, e4, e5, e6, e7, hi, hm, hany, htold, hsd, hg, ho, hT, rfl⟩ hc
  have mono := sumF_mono (f := e1) (n := m) fun j hj => by have := (ho j hj).2.2.2.2.2.2.1; omega
  have hs0 := (mono m (Nat.le_refl m)).1
  rcases Nat.eq_zero_or_pos t with t0 | t0
  · have e : i = n := by omega
    subst e
    simp only [S_astrolabelaw14_DownsJoins_0, idx_ge (Nat.le_refl i), cond_false, Sum.elim_inr, downs_pending, Option.bind_some]
    rw [wrap_i64 (by omega) (by omega)]
    simp only [beq_self_eq_true]
  have q : Int.toNat (Int.ofNat i) = i := rfl
  simp only [S_astrolabelaw14_DownsJoins_0, idx_lt hi t0, idx_in (show i < n by omega), cond_true, q, idx_up (show i < 9000000000000000000 by omega)]
  have bd : ∀ f : Nat → Int, (∀ j, j < m → l35 (f j)) → mid (sumF f m) := fun f hf => by
    have := sumF_le f 34359738368 (by omega) m fun j hj => hf j hj
    omega
  have m2 := bd e2 fun j hj => (ho j hj).1
  have m3 := bd e3 fun j hj => (ho j hj).2.1
  have m4 := bd e4 fun j hj => (ho j hj).2.2.1
  have m5 := bd e5 fun j hj => (ho j hj).2.2.2.1
  have m6 := bd e6 fun j hj => (ho j hj).2.2.2.2.1
  have m7 := bd e7 fun j hj => (ho j hj).2.2.2.2.2.1
  have refused : c (n, w0, m, told + sumF e1 m, told, Int.ofNat (i + 1), n, x2, x3, x4, x5, x6, x7, x8, x9, x0, st, sumF e1 m, sumF e2 m, sumF e3 m, sumF e4 m, sumF e5 m, sumF e6 m, sumF e7 m, any, false, m, e0, e1, e2, e3, e4, e5, e6, e7) = some true :=
    hc (t - 1) _ (by omega) ⟨i + 1, m, any, st, told, e0, e1, e2, e3, e4, e5, e6, e7, by omega, by omega, hany, by omega, hsd, hg, ho, hT, rfl⟩
  have one : ((1 : Int) != 0) = true := rfl
  have nil : ((0 : Int) != 0) = false := rfl
  rcases good_cases (x2 i) (x3 i) (x4 i) (x5 i) (x6 i) (x7 i) (x8 i) (x9 i) with g | ⟨g, ok⟩
  · rw [put_bad _ _ _ _ _ _ _ _ _ _ _ _ _ _ _ _ _ _ _ g, Option.bind_some]
    simp only [one, cond_true]
    exact refused
  obtain ⟨o1, o2, o3, o4, o5, o6, o7, o8⟩ := id ok
  by_cases late : any = true ∧ x2 i ≤ st
  · obtain ⟨rfl, l2⟩ := late
    rw [put_late _ _ _ _ _ _ _ _ _ _ _ _ _ _ _ _ _ _ g l2, Option.bind_some]
    simp only [one, cond_true]
    exact refused
  have ht : any = false ∨ st < x2 i := by
    cases any with
    | false => exact .inl rfl
    | true => right; rcases Int.lt_or_le st (x2 i) with l | l
              · exact l
              · exact absurd ⟨rfl, l⟩ late
  have P1 := put_eq (x2 i) (x3 i) (x4 i) (x5 i) (x6 i) (x7 i) (x8 i) (x9 i) x0 st (sumF e1 m) (sumF e2 m) (sumF e3 m) (sumF e4 m) (sumF e5 m) (sumF e6 m) (sumF e7 m) any false g ht (by omega) (by omega) (by omega) (by omega) (by omega) (by omega) (by omega) (by omega) m2 m3 m4 m5 m6 m7
  have big : Nat.ble ((m + 1) * 64) 140737488355328 = true := Nat.ble_eq_true_of_le (by omega)
  have at' : ∀ (f : Nat → Int) (v : Int) (j : Nat), j < m → (fun j => bif Nat.beq j m then v else f j) j = f j := fun f v j hj => by
    simp only [nbeq_ne (show j ≠ m by omega), cond_false]
  have at2 : ∀ (f : Nat → Int) (v : Int), (fun j => bif Nat.beq j m then v else f j) m = v := fun f v => by
    simp only [Nat.beq_refl, cond_true]
  have cases' : ∀ j, j < m + 1 → j < m ∨ j = m := fun j hj => by omega
  have hg' : ∀ j, j < m + 1 → f_downs_Good ((fun j => bif Nat.beq j m then x2 i else e0 j) j) ((fun j => bif Nat.beq j m then x3 i else e1 j) j) ((fun j => bif Nat.beq j m then x4 i else e2 j) j) ((fun j => bif Nat.beq j m then x5 i else e3 j) j)
      ((fun j => bif Nat.beq j m then x6 i else e4 j) j) ((fun j => bif Nat.beq j m then x7 i else e5 j) j) ((fun j => bif Nat.beq j m then x8 i else e6 j) j) ((fun j => bif Nat.beq j m then x9 i else e7 j) j) = some true := fun j hj => by
    rcases cases' j hj with h | h
    · rw [at' e0 _ j h, at' e1 _ j h, at' e2 _ j h, at' e3 _ j h, at' e4 _ j h, at' e5 _ j h, at' e6 _ j h, at' e7 _ j h]; exact hg j h
    · subst h; rw [at2 e0, at2 e1, at2 e2, at2 e3, at2 e4, at2 e5, at2 e6, at2 e7]; exact g
  have ho' : ∀ j, j < m + 1 → okG ((fun j => bif Nat.beq j m then x2 i else e0 j) j) ((fun j => bif Nat.beq j m then x3 i else e1 j) j) ((fun j => bif Nat.beq j m then x4 i else e2 j) j) ((fun j => bif Nat.beq j m then x5 i else e3 j) j)
      ((fun j => bif Nat.beq j m then x6 i else e4 j) j) ((fun j => bif Nat.beq j m then x7 i else e5 j) j) ((fun j => bif Nat.beq j m then x8 i else e6 j) j) ((fun j => bif Nat.beq j m then x9 i else e7 j) j) := fun j hj => by
    rcases cases' j hj with h | h
    · rw [at' e0 _ j h, at' e1 _ j h, at' e2 _ j h, at' e3 _ j h, at' e4 _ j h, at' e5 _ j h, at' e6 _ j h, at' e7 _ j h]; exact ho j h
    · subst h; rw [at2 e0, at2 e1, at2 e2, at2 e3, at2 e4, at2 e5, at2 e6, at2 e7]; exact ok
  have hT' : ∀ j, j + 1 < m + 1 → (fun j => bif Nat.beq j m then x2 i else e0 j) j < (fun j => bif Nat.beq j m then x2 i else e0 j) (j + 1) := fun j hj => by
    rcases cases' (j + 1) hj with h | h
    · rw [at' e0 _ j (by omega), at' e0 _ (j + 1) h]; exact hT j h
    · subst h
      rw [at' e0 _ j (by omega), at2 e0]
      obtain ⟨a1, a2⟩ := hany (by omega)
      rw [a1] at ht
      rw [Nat.add_sub_cancel] at a2
      rcases ht with k | k
      · cases k
      · omega
  have hs' : ∀ k, k < m + 1 → 0 ≤ sumF (fun j => bif Nat.beq j m then x3 i else e1 j) k ∧ sumF (fun j => bif Nat.beq j m then x3 i else e1 j) k ≤ 100000 := fun k hk => by
    have e : sumF (fun j => bif Nat.beq j m then x3 i else e1 j) k = sumF e1 k := sumF_congr fun j hj => at' e1 _ j (by omega)
    have := mono k (by omega)
    rw [e]; omega
  have J := join_eq (m + 1) (by omega) (by omega) false true _ _ _ _ _ _ _ _ hg' ho' hT' hs'
  rw [Nat.add_sub_cancel, Nat.beq_refl, cond_true, sumF_put, sumF_put, sumF_put, sumF_put, sumF_put, sumF_put, sumF_put] at J
  rw [P1, Option.bind_some]
  have w1 : IntKind.wrap .i64 (told + sumF e1 m + x3 i) = told + (sumF e1 m + x3 i) := (wrap_i64 (by omega) (by omega)).trans (by omega)
  have w2 : IntKind.wrap .i64 (told + (sumF e1 m + x3 i)) = told + (sumF e1 m + x3 i) := wrap_i64 (by omega) (by omega)
  unfold putF
  by_cases f : sumF e1 m + x3 i < x0
  · rw [if_pos f]
    simp only [nil, cond_false, big, cond_true, w1]
    refine hc (t - 1) _ (by omega) ⟨i + 1, m + 1, true, x2 i, told, _, _, _, _, _, _, _, _, by omega, by omega, (fun _ => ⟨rfl, by rw [Nat.add_sub_cancel, Nat.beq_refl, cond_true]⟩), ?_, ?_, hg', ho', hT', ?_⟩
    · rw [sumF_put]; omega
    · rw [sumF_put]; exact f
    · simp only [sumF_put]
  · rw [if_neg f]
    simp only [nil, cond_false, big, cond_true, w1, w2, Nat.beq_refl]
    rw [J, Option.bind_some]
    simp only [nil, cond_false, beq_self_eq_true, Bool.and_self, Bool.not_true]
    exact hc (t - 1) _ (by omega) ⟨i + 1, 0, true, x2 i, told + (sumF e1 m + x3 i), fun _ => 0, fun _ => 0, fun _ => 0, fun _ => 0, fun _ => 0, fun _ => 0, fun _ => 0, fun _ => 0, by omega, by omega, (fun h => by omega), by simp only [sumF]; omega, by simp only [sumF]; omega, (fun j h => by omega), (fun j h => by omega), (fun j h => by omega), by simp only [sumF, Int.add_zero]⟩
theorem downsJoins_ev (f : (Int) → (Nat) → (Nat → Int) → (Nat → Int) → (Nat → Int) → (Nat → Int) → (Nat → Int) → (Nat → Int) → (Nat → Int) → (Nat → Int) → Bool → Option Bool) (x0_0 : Int) (n1 : Nat) (x1_0 : Nat → Int) (x1_1 : Nat → Int) (x1_2 : Nat → Int) (x1_3 : Nat → Int) (x1_4 : Nat → Int) (x1_5 : Nat → Int) (x1_6 : Nat → Int) (x1_7 : Nat → Int) : F_astrolabelaw14_DownsJoins f [.r (.c (.f (.i .i64 x0_0))), .r (.c (.sl 0 (.k 0) (.s n1) 8 false))] [[.a (.s n1) [.i .i64 x1_0, .i .i64 x1_1, .i .i64 x1_2, .i .i64 x1_3, .i .i64 x1_4, .i .i64 x1_5, .i .i64 x1_6, .i .i64 x1_7]]] = .test (Nat.beq n1 n1) (.opt (f x0_0 n1 x1_0 x1_1 x1_2 x1_3 x1_4 x1_5 x1_6 x1_7 false) fun d => .leaf ⟨.r (.c (.f (.b d))), [.keep], []⟩) .fail := by kernel_rfl
theorem downsJoins_trues : Trues (F_astrolabelaw14_DownsJoins f_astrolabelaw14_DownsJoins) [.flat false [.c (.i .i64)], .sl [.i .i64, .i .i64, .i .i64, .i .i64, .i .i64, .i .i64, .i .i64, .i .i64]] := fun ds h => by
  obtain ⟨_, _, rfl, q0_0, g0⟩ := fit_flat h
  obtain ⟨x0_0, _, rfl, r0_0, q0_1⟩ := f1_i q0_0
  obtain rfl := f1_nil q0_1
  obtain ⟨n1, c1, _, rfl, m1, q1_0, g1⟩ := fit_sl g0
  obtain ⟨x1_0, _, rfl, r1_0, q1_1⟩ := col_i q1_0
  obtain ⟨x1_1, _, rfl, r1_1, q1_2⟩ := col_i q1_1
  obtain ⟨x1_2, _, rfl, r1_2, q1_3⟩ := col_i q1_2
  obtain ⟨x1_3, _, rfl, r1_3, q1_4⟩ := col_i q1_3
  obtain ⟨x1_4, _, rfl, r1_4, q1_5⟩ := col_i q1_4
  obtain ⟨x1_5, _, rfl, r1_5, q1_6⟩ := col_i q1_5
  obtain ⟨x1_6, _, rfl, r1_6, q1_7⟩ := col_i q1_6
  obtain ⟨x1_7, _, rfl, r1_7, q1_8⟩ := col_i q1_7
  obtain rfl := col_nil q1_8
  obtain rfl := fit_nil g1
  refine ⟨[], (congrArg T.eval (downsJoins_ev f_astrolabelaw14_DownsJoins x0_0 n1 x1_0 x1_1 x1_2 x1_3 x1_4 x1_5 x1_6 x1_7)).trans ?_⟩
  rw [nbeq_self n1]
  rw [downsJoins_plain x0_0 n1 x1_0 x1_1 x1_2 x1_3 x1_4 x1_5 x1_6 x1_7 false]
  rfl
set_option maxRecDepth 100000 in
theorem downsJoins_lifted (os : Os) (started : os.Started) (H : Type) (enc : TypeId × Value → H) :
    ReturnsInHanded {} Try.checked os 9 .any (Rows.downsJoinsSpec.pre6 enc Try.prog Try.f9 Rows.downsJoinsRow.domain false) (Rows.downsJoinsSpec.post enc Try.prog Try.f9 false true false false) :=
  law_lift (C := Try.checked) (tb := Try.f9.resultTypes.getD 0 0) own started (by kernel_rfl) Try.func9 laid (by kernel_rfl) (by kernel_rfl) (by kernel_rfl) rfl
    (fun ds h => by
      have h : ds.length = 2 := h.trans (by kernel_rfl)
      match ds, h with
      | [_, _], _ => rfl)
    (ChangeSpec.witness6 (enc := enc) (C := Try.checked) false ⟨#[], #[.int .i64 0, .slice none 0 0], []⟩ 8 (by kernel_rfl) (by kernel_rfl) (by kernel_rfl) (by kernel_rfl))
    (fun W base args ds ps _ hval ht hz _ _ => prm_calls (pr := [.flat false [.c (.i .i64)], .sl [.i .i64, .i .i64, .i .i64, .i .i64, .i .i64, .i .i64, .i .i64, .i .i64]]) s_astrolabelaw14_DownsJoins (by kernel_rfl) (ts := Try.f9.params.toList) (by kernel_rfl) (by kernel_rfl) downsJoins_trues hval ht hz)
theorem downsJoins_over : Rows.downsJoinsRow.holds Try.pinned (OpenSpec.ofChange Rows.downsJoinsSpec) :=
  OpenClaim.holds_of_wide 9 Try.f9 rfl rfl rfl rfl rfl rfl rfl ⟨rfl, rfl, rfl, rfl, rfl⟩ rfl rfl rfl rfl rfl (by kernel_rfl) Try.func9 (by kernel_rfl)
    (of_decide_eq_true (by kernel_rfl)) (by unfold Func.isWrapper; first | (rw [if_pos (by decide +kernel)]; kernel_rfl) | (rw [if_neg (by decide +kernel)]; exact ⟨rfl, rfl⟩))
    (fun os started H enc _ => downsJoins_lifted os started H enc)
/-- the statement -/
theorem downsJoins_proved : Rows.DownsJoinsSaid := downsJoins_over
#print axioms downsJoins_proved
end Go.Proofs.Ytmlmpcabphgfaaa
