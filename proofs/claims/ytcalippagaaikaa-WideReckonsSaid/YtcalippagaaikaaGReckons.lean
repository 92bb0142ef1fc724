/-
  Products, sums, signs, comparisons, shifts are exact, or refused where they don't fit (P1.1): the statement of astrolabelaw1.WideReckons; no condition.
-/
import Derived.Test.YtcalippagaaikaaGA
import Derived.Test.YtcalippagaaikaaG5
set_option maxRecDepth 100000
set_option maxHeartbeats 4000000
set_option linter.unusedVariables false
set_option linter.unusedSimpArgs false
namespace Go.Proofs.Ytcalippagaaikaa
open Go.Ab
abbrev in127 (x : Int) : Prop := -170141183460469231731687303715884105728 ≤ x ∧ x < 170141183460469231731687303715884105728
/-- the sum of the first ones -/
def wsum (f g : Nat → Int) : Nat → Int := sumF (fun j => vW (f j) (g j))
/-- do all sums up to there fit? -/
def wfit (f g : Nat → Int) : Nat → Bool
  | 0 => true
  | n + 1 => wfit f g n && decide (in127 (wsum f g (n + 1)))
theorem wfit_down {f g : Nat → Int} {n : Nat} (h : wfit f g n = true) : ∀ i, i ≤ n → wfit f g i = true := by
  induction n with
  | zero => intro i hi; obtain rfl : i = 0 := by omega
            rfl
  | succ n ih =>
    intro i hi
    rcases Nat.lt_or_ge n i with c | c
    · obtain rfl : i = n + 1 := by omega
      exact h
    · rw [wfit, Bool.and_eq_true] at h
      exact ih h.1 i c
theorem wide_AddN (n : Nat) (hn : n ≤ 150) (f g : Nat → Int) (w : Bool) (o : ∀ j, j < n → okW (f j) (g j)) :
    f_wide_Add n f g w = if wfit f g n = true then some (wsum f g n / 18446744073709551616, wsum f g n % 18446744073709551616, true) else some (0, 0, false) := by
  unfold f_wide_Add K_wide_Add L_wide_Add_0
  refine loopK_inv (fun t d => ∃ (i : Nat) (h l : Int), i + t = n ∧ okW h l ∧ vW h l = wsum f g i ∧ wfit f g i = true ∧ d = (n, w, Int.ofNat n, Int.ofNat i, n, f, g, h, l)) ?_ 200 n _ (by omega)
    ⟨0, 0, 0, by omega, ⟨by omega, by omega, by omega, by omega⟩, rfl, rfl, rfl⟩
  rintro t _ c ⟨i, h, l, hi, ho, hv, hf, rfl⟩ hc
  rcases Nat.eq_zero_or_pos t with t0 | t0
  · have e : i = n := by omega
    subst e
    simp only [S_wide_Add_0, idx_ge (Nat.le_refl i), cond_false, Sum.elim_inr]
    rw [if_pos hf, ← hv]
    obtain ⟨o1, o2, o3, o4⟩ := ho
    have e1 : vW h l / 18446744073709551616 = h := by simp only [vW]; omega
    have e2 : vW h l % 18446744073709551616 = l := by simp only [vW]; omega
    rw [e1, e2]
  · obtain ⟨h2, l2, b, e2, o2, f2, v2⟩ := wide_add h l (f i) (g i) ho (o i (by omega))
    have q : Int.toNat (Int.ofNat i) = i := rfl
    have sv : vW h l + vW (f i) (g i) = wsum f g (i + 1) := by rw [hv]; rfl
    rw [sv] at f2 v2
    simp only [S_wide_Add_0, idx_lt hi t0, idx_in (show i < n by omega), cond_true, q, e2, Option.bind_some, idx_up (show i < 9000000000000000000 by omega)]
    cases b with
    | false =>
      simp only [Bool.not_false, cond_true, Sum.elim_inl]
      have nf : ¬ wfit f g n = true := fun k => by
        have := wfit_down k (i + 1) (by omega)
        rw [wfit, Bool.and_eq_true] at this
        have := f2.2 (of_decide_eq_true this.2)
        cases this
      rw [if_neg nf]
    | true =>
      simp only [Bool.not_true, cond_false]
      refine hc (t - 1) _ (by omega) ⟨i + 1, h2, l2, by omega, o2, v2 rfl, ?_, rfl⟩
      rw [wfit, hf, decide_eq_true (f2.1 rfl)]; rfl
theorem sgn_nn {x : Int} (h : 0 ≤ x) : sg x = false ∧ mg x = x := by
  unfold sg mg
  rw [decide_eq_false (by omega), if_neg (by omega)]
  exact ⟨rfl, rfl⟩
/-- the part about shifts -/
theorem reckons_shift (x0 x3 : Int) (n : Nat) (w : Bool) (y : Int) (f g : Nat → Int) (h0 : -9223372036854775808 ≤ x0 ∧ x0 ≤ 9223372036854775807) :
    (Option.bind (f_wide_Shift x0 x3) fun (d_7 : Int × Int × Bool) => L_astrolabelaw1_WideReckons_1 (x0, n, w, x3, y, d_7.2.2, n, f, g, d_7.1, d_7.2.1) fun (d : Bool × Nat × (Nat → Int) × (Nat → Int)) => some d.1) = some true := by
  unfold L_astrolabelaw1_WideReckons_1 S_astrolabelaw1_WideReckons_1
  by_cases s0 : x3 < 0
  · have e : f_wide_Shift x0 x3 = some (0, 0, false) := by
      unfold f_wide_Shift K_wide_Shift
      rw [decide_eq_true s0, cond_true]
    rw [e, Option.bind_some]
    simp only
    rw [decide_eq_true s0, cond_true]; rfl
  by_cases s1 : x3 > 127
  · have e : f_wide_Shift x0 x3 = some (0, 0, false) := by
      unfold f_wide_Shift K_wide_Shift
      rw [decide_eq_false s0, cond_false, decide_eq_true s1, cond_true]
    rw [e, Option.bind_some]
    simp only
    rw [decide_eq_false s0, cond_false, decide_eq_true s1, cond_true]; rfl
  obtain ⟨s, rfl⟩ : ∃ s : Nat, x3 = Int.ofNat s := ⟨x3.toNat, by simp only [Int.ofNat_eq_natCast]; omega⟩
  have hs : s ≤ 127 := by simp only [Int.ofNat_eq_natCast] at s1; omega
  obtain ⟨h, l, b, e1, o1, f1, v1, z1⟩ := wide_shift x0 s hs h0.1 h0.2
  have P0 := pow_pos' s
  have PB : (2 : Int) ^ s ≤ 2 ^ 127 := pow_le_pow hs
  have PV : (2 : Int) ^ 127 = 170141183460469231731687303715884105728 := by decide
  have sp := sgn_nn (x := (2 : Int) ^ s) (by omega)
  have m0 : 0 ≤ mg x0 ∧ mg x0 ≤ 9223372036854775808 := by unfold mg; split <;> omega
  have mm : mg x0 * mg (2 ^ s) < 57896044618658097711785492504343953926634992332820282019728792003956564819968 := by
    rw [sp.2]
    have := Int.mul_le_mul m0.2 (show (2 : Int) ^ s ≤ 170141183460469231731687303715884105728 by omega) (Int.le_of_lt P0) (by omega)
    omega
  have pb := mul_in (x := x0) (y := 2 ^ s) (X := 9223372036854775808) (Y := 170141183460469231731687303715884105728) (by omega) (by omega)
  have pv : (9223372036854775808 : Int) * 170141183460469231731687303715884105728 = 1569275433846670190958947355801916604025588861116008628224 := by decide
  have E1 := Big_Of x0 h0.1 h0.2
  have E2 : f_astrolaberef1_Pow (Int.ofNat s) = some (dig (2 ^ s)) := Big_Pow s (by omega)
  have E3 := Big_Mul x0 (2 ^ s) mm (by omega) (by omega)
  rw [sp.1, sp.2] at E3
  have E4 := Big_Fits (x0 * 2 ^ s) 127 (by omega) (by omega)
  have E4' : f_astrolaberef1_Fits (sg (x0 * 2 ^ s)) (dig (mg (x0 * 2 ^ s))) 127 = some (decide (-(2 : Int) ^ 127 ≤ x0 * 2 ^ s ∧ x0 * 2 ^ s < 2 ^ 127)) := E4
  rw [PV] at E4'
  have E5 := law_same h l (x0 * 2 ^ s) o1 (by omega) (by have := vW_bd o1; omega)
  rw [e1, Option.bind_some]
  simp only
  rw [decide_eq_false s0, cond_false, decide_eq_false s1, cond_false, E1, Option.bind_some, E2, Option.bind_some]
  simp only
  rw [E3, Option.bind_some]
  simp only
  rw [E4', Option.bind_some]
  cases b with
  | true =>
    have k := f1.1 rfl
    rw [decide_eq_true k]
    simp only [beq_self_eq_true, cond_true]
    rw [E5, Option.bind_some, decide_eq_true (v1 rfl)]; rfl
  | false =>
    have k : ¬ (-170141183460469231731687303715884105728 ≤ x0 * 2 ^ s ∧ x0 * 2 ^ s < 170141183460469231731687303715884105728) := fun k => by
      have := f1.2 k
      cases this
    obtain ⟨rfl, rfl⟩ := z1 rfl
    rw [decide_eq_false k]; rfl
theorem wideReckons_plain (x0 x1 : Int) (n : Nat) (x3 : Int) (f g : Nat → Int) (w0 : Bool) (r0 : IntKind.min .i64 ≤ x0 ∧ x0 ≤ IntKind.max .i64) (r1 : IntKind.min .i64 ≤ x1 ∧ x1 ≤ IntKind.max .i64)
    (m : n ≤ maxLen) (rf : ∀ j, j < n → IntKind.min .i64 ≤ f j ∧ f j ≤ IntKind.max .i64) (rg : ∀ j, j < n → IntKind.min .u64 ≤ g j ∧ g j ≤ IntKind.max .u64) (r3 : IntKind.min .i64 ≤ x3 ∧ x3 ≤ IntKind.max .i64) :
    f_astrolabelaw1_WideReckons x0 x1 n x3 f g w0 = some true := by
  unfold f_astrolabelaw1_WideReckons K_astrolabelaw1_WideReckons
  rw [wide_awake, Option.bind_some]
  simp only [Bool.not_true, cond_false]
  have h0 : -9223372036854775808 ≤ x0 ∧ x0 ≤ 9223372036854775807 := r0
  have h1 : -9223372036854775808 ≤ x1 ∧ x1 ≤ 9223372036854775807 := r1
  have ok : ∀ j, j < n → okW (f j) (g j) := fun j hj => by
    have a : -9223372036854775808 ≤ f j ∧ f j ≤ 9223372036854775807 := rf j hj
    have b : 0 ≤ g j ∧ g j ≤ 18446744073709551615 := rg j hj
    exact ⟨by omega, by omega, by omega, by omega⟩
  by_cases c : Int.ofNat n > 40
  · rw [decide_eq_true c, cond_true]
  rw [decide_eq_false c, cond_false]
  have n40 : n ≤ 40 := by simp only [Int.ofNat_eq_natCast] at c; omega
  obtain ⟨p1, q1, e1, o1, v1⟩ := wide_of x0 h0.1 h0.2
  obtain ⟨p2, q2, e2, o2, v2⟩ := wide_mul x0 x1 h0.1 h0.2 h1.1 h1.2
  have pb := mul_in (x := x0) (y := x1) (X := 9223372036854775808) (Y := 9223372036854775808) (by omega) (by omega)
  have pv : (9223372036854775808 : Int) * 9223372036854775808 = 85070591730234615865843651857942052864 := by decide
  have mx0 : 0 ≤ mg x0 ∧ mg x0 ≤ 9223372036854775808 := by unfold mg; split <;> omega
  have mx1 : 0 ≤ mg x1 ∧ mg x1 ≤ 9223372036854775808 := by unfold mg; split <;> omega
  have mm := Int.mul_le_mul mx0.2 mx1.2 mx1.1 (by omega)
  have S1 := law_same p1 q1 x0 o1 (by omega) (by omega)
  rw [decide_eq_true v1] at S1
  have S2 := law_same p2 q2 (x0 * x1) o2 (by omega) (by omega)
  rw [decide_eq_true v2] at S2
  rw [e1, Option.bind_some, Big_Of x0 h0.1 h0.2, Option.bind_some]
  simp only
  rw [S1, Option.bind_some]
  simp only [Bool.not_true, cond_false]
  rw [e2, Option.bind_some, Option.bind_some, Big_Of x1 h1.1 h1.2, Option.bind_some]
  simp only
  rw [Big_Mul x0 x1 (by omega) (by omega) (by omega), Option.bind_some]
  simp only
  rw [S2, Option.bind_some]
  simp only [Bool.not_true, cond_false]
  rw [Big_Of 0 (by omega) (by omega), Option.bind_some]
  simp only
  unfold L_astrolabelaw1_WideReckons_0
  have p127 : (2 : Int) ^ 127 = 170141183460469231731687303715884105728 := by decide
  have bd : ∀ i, i ≤ n → -(170141183460469231731687303715884105728 * 40) ≤ wsum f g i ∧ wsum f g i ≤ 170141183460469231731687303715884105728 * 40 := fun i hi => by
    have := sumF_le (fun j => vW (f j) (g j)) 170141183460469231731687303715884105728 (by omega) i fun j hj => by
      have := vW_bd (ok j (by omega)); omega
    unfold wsum
    omega
  refine loopK_inv (fun t d => ∃ i : Nat, i + t = n ∧ d = (x0, x1, n, w0, x3, wfit f g i, Int.ofNat i, n, f, g, sg (wsum f g i), dig (mg (wsum f g i)))) ?_ 300 n _ (by omega) ⟨0, by omega, rfl⟩
  rintro t _ k ⟨i, hi, rfl⟩ hc
  rcases Nat.eq_zero_or_pos t with t0 | t0
  · have e : i = n := by omega
    subst e
    have b1 : Nat.ble (i * 16) 140737488355328 = true := Nat.ble_eq_true_of_le (by omega)
    simp only [S_astrolabelaw1_WideReckons_0, idx_ge (Nat.le_refl i), cond_false, Sum.elim_inr, b1, Nat.beq_refl, cond_true, Nat.zero_add, wide_AddN i (by omega) f g true ok]
    have sh := reckons_shift x0 x3 i w0 (Int.ofNat i) f g h0
    cases hw : wfit f g i with
    | true =>
      have oS : okW (wsum f g i / 18446744073709551616) (wsum f g i % 18446744073709551616) ∧ vW (wsum f g i / 18446744073709551616) (wsum f g i % 18446744073709551616) = wsum f g i := by
        have q : in127 (wsum f g i) := by
          rcases Nat.eq_zero_or_pos i with z | z
          · subst z
            have : wsum f g 0 = 0 := rfl
            rw [this]; omega
          · obtain ⟨j, rfl⟩ : ∃ j, i = j + 1 := ⟨i - 1, by omega⟩
            rw [wfit, Bool.and_eq_true] at hw
            exact of_decide_eq_true hw.2
        simp only [vW]
        refine ⟨⟨by omega, by omega, by omega, by omega⟩, by omega⟩
      have b := bd i (Nat.le_refl i)
      have S3 := law_same _ _ (wsum f g i) oS.1 (by omega) (by rw [oS.2]; omega)
      rw [decide_eq_true oS.2] at S3
      simp only [if_true, Option.bind_some, beq_self_eq_true, Bool.not_true, cond_false, cond_true, S3]
      exact sh
    | false =>
      simp only [Bool.false_eq_true, if_false, Option.bind_some, beq_self_eq_true, Bool.not_true, Bool.not_false, cond_false, cond_true, Bool.and_self]
      exact sh
  · have q : Int.toNat (Int.ofNat i) = i := rfl
    have i0 : inR 0 n = true := ix 0 n (by omega)
    have oi := ok i (by omega)
    have o0 := ok 0 (by omega)
    have vi := vW_bd oi
    have v0 := vW_bd o0
    have bi := bd i (by omega)
    have bi1 := bd (i + 1) (by omega)
    have sv : wsum f g i + vW (f i) (g i) = wsum f g (i + 1) := rfl
    have A1 := law_big (f i) (g i) oi
    have A0 := law_big (f 0) (g 0) o0
    have A2 := Big_Add (wsum f g i) (vW (f i) (g i)) (by omega) (by omega)
    rw [sv] at A2
    have A3 : f_astrolaberef1_Fits (sg (wsum f g (i + 1))) (dig (mg (wsum f g (i + 1)))) 127 = some (decide (-(2 : Int) ^ 127 ≤ wsum f g (i + 1) ∧ wsum f g (i + 1) < 2 ^ 127)) := Big_Fits (wsum f g (i + 1)) 127 (by omega) (by omega)
    rw [p127] at A3
    obtain ⟨h', l', b, A4, o4, f4, v4, z4⟩ := wide_neg (f i) (g i) oi
    have A5 := Big_Neg (vW (f i) (g i)) (by omega)
    have A6 : f_astrolaberef1_Fits (sg (-vW (f i) (g i))) (dig (mg (-vW (f i) (g i)))) 127 = some (decide (-(2 : Int) ^ 127 ≤ -vW (f i) (g i) ∧ -vW (f i) (g i) < 2 ^ 127)) := Big_Fits (-vW (f i) (g i)) 127 (by omega) (by omega)
    rw [p127] at A6
    have vb' := vW_bd o4
    have A7 := law_same h' l' (-vW (f i) (g i)) o4 (by omega) (by omega)
    have A8 := wide_cmp (f i) (g i) (f 0) (g 0) oi o0
    have A9 := Big_Cmp (vW (f i) (g i)) (vW (f 0) (g 0)) (by omega) (by omega) (by omega)
    have cc : cmpB (vW (f i) (g i)) (vW (f 0) (g 0)) = cmpI (vW (f i) (g i)) (vW (f 0) (g 0)) := rfl
    rw [cc] at A9
    have step : k (x0, x1, n, w0, x3, wfit f g (i + 1), Int.ofNat (i + 1), n, f, g, sg (wsum f g (i + 1)), dig (mg (wsum f g (i + 1)))) = some true := hc (t - 1) _ (by omega) ⟨i + 1, by omega, rfl⟩
    rw [wfit] at step
    simp only [S_astrolabelaw1_WideReckons_0, idx_lt hi t0, idx_in (show i < n by omega), cond_true, q, i0, idx_up (show i < 9000000000000000000 by omega), A0, A1, A2, A3, A4, A5, A6, A7, A8, A9, Option.bind_some, bne_self_eq_false, cond_false]
    cases b with
    | true =>
      have k1 := f4.1 rfl
      rw [decide_eq_true (show -170141183460469231731687303715884105728 ≤ -vW (f i) (g i) ∧ -vW (f i) (g i) < 170141183460469231731687303715884105728 by omega)]
      rw [decide_eq_true (v4 rfl)]
      cases hw : wfit f g i with
      | true =>
        rw [hw, Bool.true_and] at step
        simp only [beq_self_eq_true, Bool.not_true, cond_false, cond_true]
        exact step
      | false =>
        rw [hw, Bool.false_and] at step
        simp only [beq_self_eq_true, Bool.not_true, cond_false, cond_true]
        exact step
    | false =>
      have k1 : ¬ -vW (f i) (g i) < 170141183460469231731687303715884105728 := fun k1 => by
        have := f4.2 k1
        cases this
      obtain ⟨rfl, rfl⟩ := z4 rfl
      rw [decide_eq_false (show ¬ (-170141183460469231731687303715884105728 ≤ -vW (f i) (g i) ∧ -vW (f i) (g i) < 170141183460469231731687303715884105728) by omega)]
      cases hw : wfit f g i with
      | true =>
        rw [hw, Bool.true_and] at step
        simp only [beq_self_eq_true, Bool.not_true, Bool.not_false, Bool.and_self, cond_false, cond_true]
        exact step
      | false =>
        rw [hw, Bool.false_and] at step
        simp only [beq_self_eq_true, Bool.not_true, Bool.not_false, Bool.and_self, cond_false, cond_true]
        exact step
theorem wideReckons_ev (f : (Int) → (Int) → (Nat) → (Int) → (Nat → Int) → (Nat → Int) → Bool → Option Bool) (x0_0 : Int) (x1_0 : Int) (n2 : Nat) (x3_0 : Int) (x2_0 : Nat → Int) (x2_1 : Nat → Int) : F_astrolabelaw1_WideReckons f [.r (.c (.f (.i .i64 x0_0))), .r (.c (.f (.i .i64 x1_0))), .r (.c (.sl 0 (.k 0) (.s n2) 2 false)), .r (.c (.f (.i .i64 x3_0)))] [[.a (.s n2) [.i .i64 x2_0, .i .u64 x2_1]]] = .test (Nat.beq n2 n2) (.opt (f x0_0 x1_0 n2 x3_0 x2_0 x2_1 false) fun d => .leaf ⟨.r (.c (.f (.b d))), [.keep], []⟩) .fail := by kernel_rfl
theorem wideReckons_trues : Trues (F_astrolabelaw1_WideReckons f_astrolabelaw1_WideReckons) [.flat false [.c (.i .i64)], .flat false [.c (.i .i64)], .sl [.i .i64, .i .u64], .flat false [.c (.i .i64)]] := fun ds h => by
  obtain ⟨_, _, rfl, q0_0, g0⟩ := fit_flat h
  obtain ⟨x0_0, _, rfl, r0_0, q0_1⟩ := f1_i q0_0
  obtain rfl := f1_nil q0_1
  obtain ⟨_, _, rfl, q1_0, g1⟩ := fit_flat g0
  obtain ⟨x1_0, _, rfl, r1_0, q1_1⟩ := f1_i q1_0
  obtain rfl := f1_nil q1_1
  obtain ⟨n2, c2, _, rfl, m2, q2_0, g2⟩ := fit_sl g1
  obtain ⟨x2_0, _, rfl, r2_0, q2_1⟩ := col_i q2_0
  obtain ⟨x2_1, _, rfl, r2_1, q2_2⟩ := col_i q2_1
  obtain rfl := col_nil q2_2
  obtain ⟨_, _, rfl, q3_0, g3⟩ := fit_flat g2
  obtain ⟨x3_0, _, rfl, r3_0, q3_1⟩ := f1_i q3_0
  obtain rfl := f1_nil q3_1
  obtain rfl := fit_nil g3
  refine ⟨[], (congrArg T.eval (wideReckons_ev f_astrolabelaw1_WideReckons x0_0 x1_0 n2 x3_0 x2_0 x2_1)).trans ?_⟩
  rw [nbeq_self n2]
  rw [wideReckons_plain x0_0 x1_0 n2 x3_0 x2_0 x2_1 false r0_0 r1_0 m2 r2_0 r2_1 r3_0]
  rfl
set_option maxRecDepth 100000 in
theorem wideReckons_lifted (os : Os) (started : os.Started) (H : Type) (enc : TypeId × Value → H) :
    ReturnsInHanded {} Try.checked os 4 .any (Rows.wideReckonsSpec.pre6 enc Try.prog Try.f4 Rows.wideReckonsRow.domain false) (Rows.wideReckonsSpec.post enc Try.prog Try.f4 false true false false) :=
  law_lift (C := Try.checked) (tb := Try.f4.resultTypes.getD 0 0) own started (by kernel_rfl) Try.func4 laid (by kernel_rfl) (by kernel_rfl) (by kernel_rfl) rfl
    (fun ds h => by
      have h : ds.length = 4 := h.trans (by kernel_rfl)
      match ds, h with
      | [_, _, _, _], _ => rfl)
    (ChangeSpec.witness6 (enc := enc) (C := Try.checked) false ⟨#[], #[.int .i64 0, .int .i64 0, .slice none 0 0, .int .i64 0], []⟩ 8 (by kernel_rfl) (by kernel_rfl) (by kernel_rfl) (by kernel_rfl))
    (fun W base args ds ps _ hval ht hz _ _ => prm_calls (pr := [.flat false [.c (.i .i64)], .flat false [.c (.i .i64)], .sl [.i .i64, .i .u64], .flat false [.c (.i .i64)]]) s_astrolabelaw1_WideReckons (by kernel_rfl) (ts := Try.f4.params.toList) (by kernel_rfl) (by kernel_rfl) wideReckons_trues hval ht hz)
theorem wideReckons_over : Rows.wideReckonsRow.holds Try.pinned (OpenSpec.ofChange Rows.wideReckonsSpec) :=
  OpenClaim.holds_of_wide 4 Try.f4 rfl rfl rfl rfl rfl rfl rfl ⟨rfl, rfl, rfl, rfl, rfl⟩ rfl rfl rfl rfl rfl (by kernel_rfl) Try.func4 (by kernel_rfl)
    (of_decide_eq_true (by kernel_rfl)) (by unfold Func.isWrapper; first | (rw [if_pos (by decide +kernel)]; kernel_rfl) | (rw [if_neg (by decide +kernel)]; exact ⟨rfl, rfl⟩))
    (fun os started H enc _ => wideReckons_lifted os started H enc)
/-- the statement -/
theorem wideReckons_proved : Rows.WideReckonsSaid := wideReckons_over
#print axioms wideReckons_proved
end Go.Proofs.Ytcalippagaaikaa
