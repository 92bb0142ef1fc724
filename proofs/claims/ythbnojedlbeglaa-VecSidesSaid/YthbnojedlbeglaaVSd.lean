/-
  Two sides of a triangle are together no shorter than the third (within a rounding); a vector scaled is as much longer (vectors up to 2^40, scales up to 16): the statement of astrolabelaw5.VecSides; no condition.
-/
import Derived.Test.YthbnojedlbeglaaVL
import Derived.Test.YthbnojedlbeglaaRH
import Derived.Test.YthbnojedlbeglaaVAdd2
set_option maxRecDepth 100000
set_option maxHeartbeats 4000000
set_option linter.unusedVariables false
set_option linter.unusedSimpArgs false
namespace Go.Proofs.Ythbnojedlbeglaa
open Go.Ab
/-- a vector's square and its length, of numbers up to 2^B -/
theorem norm_small (B x y z : Int) (hit : Bool) (hB : B ≤ 70368744177664) (hx : -B ≤ x ∧ x ≤ B) (hy : -B ≤ y ∧ y ≤ B) (hz : -B ≤ z ∧ z ≤ B) :
    ∃ r, f_vec_Norm x y z hit = some (r, hit) ∧ isR r (x * x + y * y + z * z) ∧ r ≤ 2 * B + 1 := by
  have zx := sat_id (x := x) (by omega)
  have zy := sat_id (x := y) (by omega)
  have zz := sat_id (x := z) (by omega)
  have px := sq_nn x
  have py := sq_nn y
  have pz := sq_nn z
  obtain ⟨r, hr⟩ := isR_ex (x * x + y * y + z * z) (by omega)
  have mx := mul_abs hx hx
  have my := mul_abs hy hy
  have mz := mul_abs hz hz
  have rb : r ≤ 2 * B + 1 := by
    obtain ⟨r0, r1, r2⟩ := hr
    rcases Int.lt_or_le (2 * B + 1) r with c | c
    · exfalso
      have p := mul_nn (a := r - (2 * B + 2)) (b := r + (2 * B + 1)) (by omega) (by omega)
      have e : (r - (2 * B + 2)) * (r + (2 * B + 1)) = r * r - r - (4 * (B * B) + 6 * B + 2) := by grind
      have q := sq_nn B
      omega
    · exact c
  have zr := sat_id (x := r) (by have := hr.1; omega)
  have e := norm3 x y z hit r (by rw [zx.1, zy.1, zz.1]; exact hr)
  rw [zr.1, zr.2, zx.2, zy.2, zz.2] at e
  simp only [Bool.or_false] at e
  exact ⟨r, e, hr, rb⟩
theorem mul30 (a k : Int) (hit : Bool) (ha : -4398046511104 ≤ a ∧ a ≤ 4398046511104) (hk : 0 ≤ k ∧ k ≤ 17179869184) :
    ∃ p f, f___fx_Acc__Mul a k 30 hit = some (p, hit) ∧ p * 1073741824 - a * k = f ∧ (-536870912 ≤ f ∧ f ≤ 536870912) ∧ -70368744177664 ≤ p ∧ p ≤ 70368744177664 := by
  have za := sat_id (x := a) (by omega)
  have zk := sat_id (x := k) (by omega)
  have h := rnd30 (a * k)
  have m := mul_abs (x := a) (y := k) (X := 4398046511104) (Y := 17179869184) ha (by omega)
  have v : (4398046511104 : Int) * 17179869184 = 75557863725914323419136 := by decide
  have e := acc_mul a k 30 hit (by omega)
  rw [show Int.ofNat 30 = 30 from rfl, za.1, zk.1, za.2, zk.2] at e
  generalize a * k = P at *
  have zr := sat_id (x := rnd P 30) (by omega)
  rw [zr.1, zr.2] at e
  simp only [Bool.or_false] at e
  exact ⟨_, _, e, rfl, h, by omega, by omega⟩
theorem vecSides_plain (x0 x1 x2 x3 x4 x5 x6 : Int) : f_astrolabelaw5_VecSides x0 x1 x2 x3 x4 x5 x6 = some true := by
  unfold f_astrolabelaw5_VecSides K_astrolabelaw5_VecSides
  rw [vec_awake', Option.bind_some]
  simp only [Bool.not_true, cond_false]
  by_cases c1 : x0 < -1099511627776
  · rw [decide_eq_true c1, cond_true]
  by_cases c2 : x0 > 1099511627776
  · rw [decide_eq_false c1, cond_false, decide_eq_true c2, cond_true]
  rw [decide_eq_false c1, cond_false, decide_eq_false c2, cond_false]
  by_cases c3 : x3 < -1099511627776
  · rw [decide_eq_true c3, cond_true]
  by_cases c4 : x3 > 1099511627776
  · rw [decide_eq_false c3, cond_false, decide_eq_true c4, cond_true]
  rw [decide_eq_false c3, cond_false, decide_eq_false c4, cond_false]
  by_cases c5 : x1 < -1099511627776
  · rw [decide_eq_true c5, cond_true]
  by_cases c6 : x1 > 1099511627776
  · rw [decide_eq_false c5, cond_false, decide_eq_true c6, cond_true]
  rw [decide_eq_false c5, cond_false, decide_eq_false c6, cond_false]
  by_cases c7 : x4 < -1099511627776
  · rw [decide_eq_true c7, cond_true]
  by_cases c8 : x4 > 1099511627776
  · rw [decide_eq_false c7, cond_false, decide_eq_true c8, cond_true]
  rw [decide_eq_false c7, cond_false, decide_eq_false c8, cond_false]
  by_cases c9 : x2 < -1099511627776
  · rw [decide_eq_true c9, cond_true]
  by_cases d1 : x2 > 1099511627776
  · rw [decide_eq_false c9, cond_false, decide_eq_true d1, cond_true]
  rw [decide_eq_false c9, cond_false, decide_eq_false d1, cond_false]
  by_cases d2 : x5 < -1099511627776
  · rw [decide_eq_true d2, cond_true]
  by_cases d3 : x5 > 1099511627776
  · rw [decide_eq_false d2, cond_false, decide_eq_true d3, cond_true]
  rw [decide_eq_false d2, cond_false, decide_eq_false d3, cond_false]
  by_cases d4 : x6 < 0
  · rw [decide_eq_true d4, cond_true]
  by_cases d5 : x6 > 17179869184
  · rw [decide_eq_false d4, cond_false, decide_eq_true d5, cond_true]
  rw [decide_eq_false d4, cond_false, decide_eq_false d5, cond_false]
  have h0 : b40 x0 := by omega
  have h1 : b40 x1 := by omega
  have h2 : b40 x2 := by omega
  have h3 : b40 x3 := by omega
  have h4 : b40 x4 := by omega
  have h5 : b40 x5 := by omega
  have hk : 0 ≤ x6 ∧ x6 ≤ 17179869184 := by omega
  clear c1 c2 c3 c4 c5 c6 c7 c8 c9 d1 d2 d3 d4 d5
  have ad := vec_add2 false true (fun j => bif Nat.beq j 1 then x3 else bif Nat.beq j 0 then x0 else x0) (fun j => bif Nat.beq j 1 then x4 else bif Nat.beq j 0 then x1 else x1) (fun j => bif Nat.beq j 1 then x5 else bif Nat.beq j 0 then x2 else x2)
    x0 x1 x2 x3 x4 x5 rfl rfl rfl rfl rfl rfl (by omega) (by omega) (by omega) (by omega) (by omega) (by omega)
  rw [ad, Option.bind_some]
  simp only
  obtain ⟨s, es, hs, bs⟩ := norm_small 2199023255552 (x0 + x3) (x1 + x4) (x2 + x5) false (by omega) (by omega) (by omega) (by omega)
  obtain ⟨n, en, hn, bn⟩ := norm_small 1099511627776 x0 x1 x2 false (by omega) (by omega) (by omega) (by omega)
  obtain ⟨m, em, hm, bm⟩ := norm_small 1099511627776 x3 x4 x5 false (by omega) (by omega) (by omega) (by omega)
  obtain ⟨t0, f0, g0, i0, j0, k0⟩ := mul30 x0 x6 false (by omega) hk
  obtain ⟨t1, f1, g1, i1, j1, k1⟩ := mul30 x1 x6 false (by omega) hk
  obtain ⟨t2, f2, g2, i2, j2, k2⟩ := mul30 x2 x6 false (by omega) hk
  have hn0 := hn.1
  have hm0 := hm.1
  obtain ⟨p, f, gp, ip, jp, kp⟩ := mul30 n x6 false (by omega) hk
  obtain ⟨t, et, ht, bt⟩ := norm_small 70368744177664 t0 t1 t2 false (by omega) k0 k1 k2
  have sc : f_vec_Scale x0 x1 x2 x6 false = some (t0, t1, t2, false) := by
    unfold f_vec_Scale K_vec_Scale
    rw [g0, Option.bind_some, g1, Option.bind_some, g2, Option.bind_some]
  rw [es, Option.bind_some]
  simp only
  rw [en, Option.bind_some]
  simp only
  rw [sc, Option.bind_some]
  simp only
  rw [et, Option.bind_some]
  simp only
  rw [gp, Option.bind_some]
  simp only
  rw [em, Option.bind_some]
  simp only [Bool.not_false]
  have ht0 := ht.1
  have hs0 := hs.1
  have w1 : IntKind.wrap .i64 (n + m) = n + m := wrap_i64 (by omega) (by omega)
  have w2 : IntKind.wrap .i64 (n + m + 2) = n + m + 2 := wrap_i64 (by omega) (by omega)
  have w3 : IntKind.wrap .i64 (t - p) = t - p := wrap_i64 (by omega) (by omega)
  have pA := sq_nn x0
  have pB := sq_nn x1
  have pC := sq_nn x2
  have pD := sq_nn x3
  have pE := sq_nn x4
  have pF := sq_nn x5
  have qA := sq_nn t0
  have qB := sq_nn t1
  have qC := sq_nn t2
  have rA := sq_nn f0
  have rB := sq_nn f1
  have rC := sq_nn f2
  have A1 : s ≤ n + m + 2 := by
    refine isR_sides (A := x0 * x0 + x1 * x1 + x2 * x2) (B := x3 * x3 + x4 * x4 + x5 * x5) (C := x0 * x3 + x1 * x4 + x2 * x5) (by omega) (by omega) hn hm ?_ (cauchy3 x0 x1 x2 x3 x4 x5)
    have e : x0 * x0 + x1 * x1 + x2 * x2 + (x3 * x3 + x4 * x4 + x5 * x5) + 2 * (x0 * x3 + x1 * x4 + x2 * x5) = (x0 + x3) * (x0 + x3) + (x1 + x4) * (x1 + x4) + (x2 + x5) * (x2 + x5) := by grind
    rw [e]; exact hs
  have b0 := mul_abs j0 j0
  have b1 := mul_abs j1 j1
  have b2 := mul_abs j2 j2
  have v : (536870912 : Int) * 536870912 = 288230376151711744 := by decide
  have v2 : (1073741824 : Int) * 1073741824 = 1152921504606846976 := by decide
  have E2 : f0 * f0 + f1 * f1 + f2 * f2 ≤ 1073741824 * 1073741824 := by omega
  have A2 : t ≤ p + 20 := by
    refine scale_up (c := x0 * f0 + x1 * f1 + x2 * f2) (A := x0 * x0 + x1 * x1 + x2 * x2) (E := f0 * f0 + f1 * f1 + f2 * f2) (by omega) (by omega) hn ht hk jp ip E2 (cauchy3 x0 x1 x2 f0 f1 f2) ?_
    rw [← i0, ← i1, ← i2]
    grind
  have A3 : p - 20 ≤ t := by
    refine scale_lo (c := t0 * f0 + t1 * f1 + t2 * f2) (A := x0 * x0 + x1 * x1 + x2 * x2) (E := f0 * f0 + f1 * f1 + f2 * f2) (by omega) (by omega) (by omega) hn ht hk jp ip E2 (cauchy3 t0 t1 t2 f0 f1 f2) ?_
    rw [← i0, ← i1, ← i2]
    grind
  rw [w1, w2, w3, decide_eq_true A1, cond_true, decide_eq_true (show t - p ≤ 20 by omega), cond_true, decide_eq_true (show t - p ≥ -20 by omega), cond_true]
theorem vecSides_ev (f : (Int) → (Int) → (Int) → (Int) → (Int) → (Int) → (Int) → Option Bool) (x0_0 : Int) (x0_1 : Int) (x0_2 : Int) (x1_0 : Int) (x1_1 : Int) (x1_2 : Int) (x2_0 : Int) : F_astrolabelaw5_VecSides f [.r (.agg [.c (.f (.i .i64 x0_0)), .c (.f (.i .i64 x0_1)), .c (.f (.i .i64 x0_2))]), .r (.agg [.c (.f (.i .i64 x1_0)), .c (.f (.i .i64 x1_1)), .c (.f (.i .i64 x1_2))]), .r (.c (.f (.i .i64 x2_0)))] [] = .opt (f x0_0 x0_1 x0_2 x1_0 x1_1 x1_2 x2_0) fun d => .leaf ⟨.r (.c (.f (.b d))), [], []⟩ := by kernel_rfl
theorem vecSides_trues : Trues (F_astrolabelaw5_VecSides f_astrolabelaw5_VecSides) [.flat true [.c (.i .i64), .c (.i .i64), .c (.i .i64)], .flat true [.c (.i .i64), .c (.i .i64), .c (.i .i64)], .flat false [.c (.i .i64)]] := fun ds h => by
  obtain ⟨_, _, rfl, q0_0, g0⟩ := fit_flat h
  obtain ⟨x0_0, _, rfl, r0_0, q0_1⟩ := f1_i q0_0
  obtain ⟨x0_1, _, rfl, r0_1, q0_2⟩ := f1_i q0_1
  obtain ⟨x0_2, _, rfl, r0_2, q0_3⟩ := f1_i q0_2
  obtain rfl := f1_nil q0_3
  obtain ⟨_, _, rfl, q1_0, g1⟩ := fit_flat g0
  obtain ⟨x1_0, _, rfl, r1_0, q1_1⟩ := f1_i q1_0
  obtain ⟨x1_1, _, rfl, r1_1, q1_2⟩ := f1_i q1_1
  obtain ⟨x1_2, _, rfl, r1_2, q1_3⟩ := f1_i q1_2
  obtain rfl := f1_nil q1_3
  obtain ⟨_, _, rfl, q2_0, g2⟩ := fit_flat g1
  obtain ⟨x2_0, _, rfl, r2_0, q2_1⟩ := f1_i q2_0
  obtain rfl := f1_nil q2_1
  obtain rfl := fit_nil g2
  refine ⟨[], (congrArg T.eval (vecSides_ev f_astrolabelaw5_VecSides x0_0 x0_1 x0_2 x1_0 x1_1 x1_2 x2_0)).trans ?_⟩
  rw [vecSides_plain x0_0 x0_1 x0_2 x1_0 x1_1 x1_2 x2_0]
  rfl
set_option maxRecDepth 100000 in
theorem vecSides_lifted (os : Os) (started : os.Started) (H : Type) (enc : TypeId × Value → H) :
    ReturnsInHanded {} Try.checked os 13 .any (Rows.vecSidesSpec.pre6 enc Try.prog Try.f13 Rows.vecSidesRow.domain false) (Rows.vecSidesSpec.post enc Try.prog Try.f13 false true false false) :=
  law_lift (C := Try.checked) (tb := Try.f13.resultTypes.getD 0 0) own started (by kernel_rfl) Try.func13 laid (by kernel_rfl) (by kernel_rfl) (by kernel_rfl) rfl
    (fun ds h => by
      have h : ds.length = 3 := h.trans (by kernel_rfl)
      match ds, h with
      | [_, _, _], _ => rfl)
    (ChangeSpec.witness6 (enc := enc) (C := Try.checked) false ⟨#[], #[.agg #[.int .i64 0, .int .i64 0, .int .i64 0], .agg #[.int .i64 0, .int .i64 0, .int .i64 0], .int .i64 0], []⟩ 8 (by kernel_rfl) (by kernel_rfl) (by kernel_rfl) (by kernel_rfl))
    (fun W base args ds ps _ hval ht hz _ _ => prm_calls (pr := [.flat true [.c (.i .i64), .c (.i .i64), .c (.i .i64)], .flat true [.c (.i .i64), .c (.i .i64), .c (.i .i64)], .flat false [.c (.i .i64)]]) s_astrolabelaw5_VecSides (by kernel_rfl) (ts := Try.f13.params.toList) (by kernel_rfl) (by kernel_rfl) vecSides_trues hval ht hz)
theorem vecSides_over : Rows.vecSidesRow.holds Try.pinned (OpenSpec.ofChange Rows.vecSidesSpec) :=
  OpenClaim.holds_of_wide 13 Try.f13 rfl rfl rfl rfl rfl rfl rfl ⟨rfl, rfl, rfl, rfl, rfl⟩ rfl rfl rfl rfl rfl (by kernel_rfl) Try.func13 (by kernel_rfl)
    (of_decide_eq_true (by kernel_rfl)) (by unfold Func.isWrapper; first | (rw [if_pos (by decide +kernel)]; kernel_rfl) | (rw [if_neg (by decide +kernel)]; exact ⟨rfl, rfl⟩))
    (fun os started H enc _ => vecSides_lifted os started H enc)
/-- the statement -/
theorem vecSides_proved : Rows.VecSidesSaid := vecSides_over
#print axioms vecSides_proved
end Go.Proofs.Ythbnojedlbeglaa
