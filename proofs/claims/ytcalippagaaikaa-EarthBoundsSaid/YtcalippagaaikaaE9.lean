/-
  Chapter 8: EarthBounds: the statement of astrolabelaw8.EarthBounds.
-/
import Derived.Test.YtcalippagaaikaaE8
import Derived.Test.YtcalippagaaikaaE6
set_option maxRecDepth 100000
set_option maxHeartbeats 4000000
set_option linter.unusedVariables false
set_option linter.unusedSimpArgs false
namespace Go.Proofs.Ytcalippagaaikaa
open Go.Ab
theorem overI {x : Int} (h : -1152921504606846976 ≤ x ∧ x ≤ 1152921504606846976) : over x = false := by
  unfold over; rw [decide_eq_false (by omega), decide_eq_false (by omega)]; rfl
theorem redL_bd (d : Int) (h1 : -3600000000 ≤ d) (h2 : d ≤ 3600000000) : -1800000000 ≤ redL d ∧ redL d ≤ 1800000000 := by
  unfold redL; split <;> (try split) <;> omega
theorem to_full (x0 x1 x2 f0 f1 f2 f3 f4 : Int) (hit : Bool) (G : GoodP x0 x1 x2) (F : GoodP f0 f1 f2) (n1 : -13000000000 ≤ f3) (n2 : f3 ≤ 13000000000) (e1 : -13000000000 ≤ f4) (e2 : f4 ≤ 13000000000) :
    f___earth_Frame__To x0 x1 x2 f0 f1 f2 f3 f4 hit = some (rnd ((x0 - f0) * f3) 10, rnd (redL (x1 - f1) * f4) 10, rdq ((f2 - x2) * 1073741824) 1000, 0, hit) := by
  unfold f___earth_Frame__To K___earth_Frame__To
  rw [good_yes G, Option.bind_some, Bool.not_true, cond_false]
  obtain ⟨g1, g2, g3, g4, g5, g6⟩ := G
  obtain ⟨k1, k2, k3, k4, k5, k6⟩ := F
  have w1 : IntKind.wrap .i64 (x1 - f1) = x1 - f1 := wrap_i64 (by omega) (by omega)
  have w2 : IntKind.wrap .i64 (x1 - f1 - 3600000000) = x1 - f1 - 3600000000 := wrap_i64 (by omega) (by omega)
  have w3 : IntKind.wrap .i64 (x1 - f1 + 3600000000) = x1 - f1 + 3600000000 := wrap_i64 (by omega) (by omega)
  have w4 : IntKind.wrap .i64 (x0 - f0) = x0 - f0 := wrap_i64 (by omega) (by omega)
  have w5 : IntKind.wrap .i64 (f2 - x2) = f2 - x2 := wrap_i64 (by omega) (by omega)
  have m : ∀ a b hit, -1800000000 ≤ a → a ≤ 1800000000 → -13000000000 ≤ b → b ≤ 13000000000 → f___fx_Acc__Mul a b 10 hit = some (rnd (a * b) 10, hit) := by
    intro a b hit a1 a2 b1 b2
    have q : f___fx_Acc__Mul a b 10 hit = some (sat (rnd (sat a * sat b) 10), hit || over a || over b || over (rnd (sat a * sat b) 10)) := acc_mul a b 10 hit (by omega)
    have p := mulB a b 1800000000 13000000000 a1 a2 b1 b2
    have r := rnd10_bd (a * b) 1000000000000000000 (by omega) (by omega)
    rw [q, satI (x := a) (by omega), satI (x := b) (by omega), satI (by omega), overI (x := a) (by omega), overI (x := b) (by omega), overI (by omega)]
    simp
  have d : ∀ hit, f___fx_Acc__MulDiv (f2 - x2) 1073741824 1000 hit = some (rdq ((f2 - x2) * 1073741824) 1000, hit) := by
    intro hit
    have r := rdq_bd ((f2 - x2) * 1073741824) 1000 1000000000000000000 (by omega) (by omega) (by omega)
    rw [acc_muldiv _ _ _ _ (by decide), satI (x := f2 - x2) (by omega), show sat 1073741824 = 1073741824 from rfl, show sat 1000 = 1000 from rfl, satI (by omega), overI (x := f2 - x2) (by omega), overI (x := rdq _ _) (by omega), show over 1073741824 = false from rfl, show over 1000 = false from rfl]
    simp
  have rb := redL_bd (x1 - f1) (by omega) (by omega)
  rw [w1, w2, w3, w4, w5]
  unfold redL at rb ⊢
  by_cases c : x1 - f1 > 1800000000
  · rw [if_pos c] at rb
    rw [if_pos c, decide_eq_true c, cond_true, m _ _ _ (by omega) (by omega) n1 n2, Option.bind_some]
    simp only [m _ _ _ rb.1 rb.2 e1 e2, Option.bind_some, d]
  · rw [if_neg c] at rb
    rw [if_neg c, decide_eq_false c, cond_false]
    by_cases z : x1 - f1 ≤ -1800000000
    · rw [if_pos z] at rb
      rw [if_pos z, decide_eq_true z, cond_true, m _ _ _ (by omega) (by omega) n1 n2, Option.bind_some]
      simp only [m _ _ _ rb.1 rb.2 e1 e2, Option.bind_some, d]
    · rw [if_neg z] at rb
      rw [if_neg z, decide_eq_false z, cond_false, m _ _ _ (by omega) (by omega) n1 n2, Option.bind_some]
      simp only [m _ _ _ rb.1 rb.2 e1 e2, Option.bind_some, d]
theorem rdq_np (a d : Int) (h : 0 < d) (a0 : a ≤ 0) : rdq a d ≤ 0 := by
  rcases Int.lt_or_le a 0 with c | c
  · refine (rdq_sign a d (by omega)).2 ?_
    rw [decide_eq_true c, decide_eq_false (by omega)]; decide
  · have : a = 0 := by omega
    rw [this, rdq_none d h]; omega
theorem d1_bd (a b p d M : Int) (hit : Bool) (MM : M ≤ 100000000000000) (A : -M ≤ a ∧ a ≤ M) (B : -M ≤ b ∧ b ≤ M) (P : 0 ≤ p ∧ p ≤ d) (D : 0 < d ∧ d ≤ 1000000000) :
    ∃ r, (-M ≤ r ∧ r ≤ M) ∧ f_earth_Declination_1 a b p d hit = some (r, hit) := by
  unfold f_earth_Declination_1 K_earth_Declination_1
  have e1 : IntKind.wrap .i64 (b - a) = b - a := wrap_i64 (by omega) (by omega)
  have s1 : sat (b - a) = b - a := satI (by omega)
  have s2 : sat d = d := satI (by omega)
  have s3 : sat p = p := satI (by omega)
  rw [e1, acc_muldiv _ _ _ _ (by rw [s2]; omega), s1, s2, s3, overI (x := b - a) (by omega), overI (x := p) (by omega), overI (x := d) (by omega)]
  have key : (-M ≤ a + rdq ((b - a) * p) d ∧ a + rdq ((b - a) * p) d ≤ M) ∧ (-1152921504606846976 ≤ rdq ((b - a) * p) d ∧ rdq ((b - a) * p) d ≤ 1152921504606846976) := by
    rcases Int.lt_or_le b a with c | c
    · have x1 := Int.mul_nonneg (show 0 ≤ a - b by omega) (show 0 ≤ d - p by omega)
      have x2 := Int.mul_nonneg (show 0 ≤ a - b by omega) P.1
      have x3 : (a - b) * (d - p) = (a - b) * d - (a - b) * p := by grind
      have x4 : (b - a) * p = -((a - b) * p) := by grind
      have r := rdq_bd ((b - a) * p) d (a - b) D.1 (by omega) (by omega)
      have n := rdq_np ((b - a) * p) d D.1 (by omega)
      omega
    · have x1 := Int.mul_nonneg (show 0 ≤ b - a by omega) (show 0 ≤ d - p by omega)
      have x2 := Int.mul_nonneg (show 0 ≤ b - a by omega) P.1
      have x3 : (b - a) * (d - p) = (b - a) * d - (b - a) * p := by grind
      have r := rdq_bd ((b - a) * p) d (b - a) D.1 (by omega) (by omega)
      have n := rdq_nn ((b - a) * p) d D.1 (by omega)
      omega
  rw [satI key.2, overI key.2, Option.bind_some]
  simp only [Bool.or_false]
  rw [wrap_i64 (by omega) (by omega)]
  exact ⟨_, key.1, rfl⟩
def colI (y : Int) : Int := (if 5 < IntKind.wrap IntKind.i64 (Int.tdiv (IntKind.wrap IntKind.i64 (y + 1800000000)) 600000000) then 5 else IntKind.wrap IntKind.i64 (Int.tdiv (IntKind.wrap IntKind.i64 (y + 1800000000)) 600000000))
def colP (y : Int) : Int := IntKind.wrap IntKind.i64 (IntKind.wrap IntKind.i64 (y + 1800000000) - IntKind.wrap IntKind.i64 (colI y * 600000000))
theorem colI_cases (y : Int) (h1 : -1800000000 ≤ y) (h2 : y ≤ 1800000000) : (0 ≤ colP y ∧ colP y ≤ 600000000) ∧ (colI y = 0 ∨ colI y = 1 ∨ colI y = 2 ∨ colI y = 3 ∨ colI y = 4 ∨ colI y = 5) := by
  unfold colP
  have e : IntKind.wrap .i64 (y + 1800000000) = y + 1800000000 := wrap_i64 (by omega) (by omega)
  have t : Int.tdiv (y + 1800000000) 600000000 = (y + 1800000000) / 600000000 := Int.tdiv_eq_ediv_of_nonneg (by omega)
  have c : colI y = if 5 < (y + 1800000000) / 600000000 then 5 else (y + 1800000000) / 600000000 := by
    unfold colI
    rw [e, t, wrap_i64 (by omega) (by omega)]
  have b : 0 ≤ colI y ∧ colI y ≤ 5 ∧ colI y * 600000000 ≤ y + 1800000000 ∧ y + 1800000000 - colI y * 600000000 ≤ 600000000 := by
    rw [c]; split <;> omega
  rw [e, wrap_i64 (n := colI y * 600000000) (by omega) (by omega), wrap_i64 (by omega) (by omega)]
  omega
theorem partI_bd (x : Int) (h1 : -900000000 ≤ x) (h2 : x ≤ 900000000) : 0 ≤ partI x (rowI x) ∧ partI x (rowI x) ≤ 450000000 := by
  unfold partI
  have e : IntKind.wrap .i64 (x + 900000000) = x + 900000000 := wrap_i64 (by omega) (by omega)
  have t : Int.tdiv (x + 900000000) 450000000 = (x + 900000000) / 450000000 := Int.tdiv_eq_ediv_of_nonneg (by omega)
  have c : rowI x = if 3 < (x + 900000000) / 450000000 then 3 else (x + 900000000) / 450000000 := by
    unfold rowI
    rw [e, t, wrap_i64 (by omega) (by omega)]
  have b : 0 ≤ rowI x ∧ rowI x ≤ 3 ∧ rowI x * 450000000 ≤ x + 900000000 ∧ x + 900000000 - rowI x * 450000000 ≤ 450000000 := by
    rw [c]; split <;> omega
  rw [e, wrap_i64 (n := rowI x * 450000000) (by omega) (by omega), wrap_i64 (by omega) (by omega)]
  omega
def In9 (a : Int) : Prop := -9000 ≤ a ∧ a ≤ 9000
theorem d2_bd (a b c d e f g y : Int) (hit : Bool) (h1 : -1800000000 ≤ y) (h2 : y ≤ 1800000000) (A : In9 a) (B : In9 b) (C : In9 c) (D : In9 d) (E : In9 e) (F : In9 f) (G : In9 g) :
    ∃ r, (-9663676416000 ≤ r ∧ r ≤ 9663676416000) ∧ f_earth_Declination_2 a b c d e f g (colI y) (colP y) hit = some (r, hit) := by
  obtain ⟨p, i⟩ := colI_cases y h1 h2
  generalize colP y = q at p
  unfold In9 at A B C D E F G
  rcases i with i | i | i | i | i | i
  · rw [i]
    have h : f_earth_Declination_2 a b c d e f g 0 q hit = Option.bind (f_earth_Declination_1 (IntKind.wrap .i64 (a * 1073741824)) (IntKind.wrap .i64 (b * 1073741824)) q 600000000 hit) fun d => some (d.1, d.2) := by kernel_rfl
    rw [h, wrap_i64 (n := a * 1073741824) (by omega) (by omega), wrap_i64 (n := b * 1073741824) (by omega) (by omega)]
    obtain ⟨r, hr, hu⟩ := d1_bd (a * 1073741824) (b * 1073741824) q 600000000 9663676416000 hit (by omega) (by omega) (by omega) p (by omega)
    exact ⟨r, hr, by rw [hu]; rfl⟩
  · rw [i]
    have h : f_earth_Declination_2 a b c d e f g 1 q hit = Option.bind (f_earth_Declination_1 (IntKind.wrap .i64 (b * 1073741824)) (IntKind.wrap .i64 (c * 1073741824)) q 600000000 hit) fun d => some (d.1, d.2) := by kernel_rfl
    rw [h, wrap_i64 (n := b * 1073741824) (by omega) (by omega), wrap_i64 (n := c * 1073741824) (by omega) (by omega)]
    obtain ⟨r, hr, hu⟩ := d1_bd (b * 1073741824) (c * 1073741824) q 600000000 9663676416000 hit (by omega) (by omega) (by omega) p (by omega)
    exact ⟨r, hr, by rw [hu]; rfl⟩
  · rw [i]
    have h : f_earth_Declination_2 a b c d e f g 2 q hit = Option.bind (f_earth_Declination_1 (IntKind.wrap .i64 (c * 1073741824)) (IntKind.wrap .i64 (d * 1073741824)) q 600000000 hit) fun d => some (d.1, d.2) := by kernel_rfl
    rw [h, wrap_i64 (n := c * 1073741824) (by omega) (by omega), wrap_i64 (n := d * 1073741824) (by omega) (by omega)]
    obtain ⟨r, hr, hu⟩ := d1_bd (c * 1073741824) (d * 1073741824) q 600000000 9663676416000 hit (by omega) (by omega) (by omega) p (by omega)
    exact ⟨r, hr, by rw [hu]; rfl⟩
  · rw [i]
    have h : f_earth_Declination_2 a b c d e f g 3 q hit = Option.bind (f_earth_Declination_1 (IntKind.wrap .i64 (d * 1073741824)) (IntKind.wrap .i64 (e * 1073741824)) q 600000000 hit) fun d => some (d.1, d.2) := by kernel_rfl
    rw [h, wrap_i64 (n := d * 1073741824) (by omega) (by omega), wrap_i64 (n := e * 1073741824) (by omega) (by omega)]
    obtain ⟨r, hr, hu⟩ := d1_bd (d * 1073741824) (e * 1073741824) q 600000000 9663676416000 hit (by omega) (by omega) (by omega) p (by omega)
    exact ⟨r, hr, by rw [hu]; rfl⟩
  · rw [i]
    have h : f_earth_Declination_2 a b c d e f g 4 q hit = Option.bind (f_earth_Declination_1 (IntKind.wrap .i64 (e * 1073741824)) (IntKind.wrap .i64 (f * 1073741824)) q 600000000 hit) fun d => some (d.1, d.2) := by kernel_rfl
    rw [h, wrap_i64 (n := e * 1073741824) (by omega) (by omega), wrap_i64 (n := f * 1073741824) (by omega) (by omega)]
    obtain ⟨r, hr, hu⟩ := d1_bd (e * 1073741824) (f * 1073741824) q 600000000 9663676416000 hit (by omega) (by omega) (by omega) p (by omega)
    exact ⟨r, hr, by rw [hu]; rfl⟩
  · rw [i]
    have h : f_earth_Declination_2 a b c d e f g 5 q hit = Option.bind (f_earth_Declination_1 (IntKind.wrap .i64 (f * 1073741824)) (IntKind.wrap .i64 (g * 1073741824)) q 600000000 hit) fun d => some (d.1, d.2) := by kernel_rfl
    rw [h, wrap_i64 (n := f * 1073741824) (by omega) (by omega), wrap_i64 (n := g * 1073741824) (by omega) (by omega)]
    obtain ⟨r, hr, hu⟩ := d1_bd (f * 1073741824) (g * 1073741824) q 600000000 9663676416000 hit (by omega) (by omega) (by omega) p (by omega)
    exact ⟨r, hr, by rw [hu]; rfl⟩
theorem decl_r0 (x y z : Int) (hit : Bool) (G : GoodP x y z) (hE : rowI x = 0) :
    f_earth_Declination x y z hit = Option.bind (f_earth_Declination_2 3000 6000 (-2000) (-1500) (-6000) (-9000) 3000 (colI y) (colP y) hit) fun d => Option.bind (f_earth_Declination_2 2200 2500 500 (-2200) (-3800) 0 2200 (colI y) (colP y) d.2) fun d_1 => tailD d.1 d_1.1 (partI x 0) d_1.2 := by
  unfold rowI at hE
  have hi : IntKind.wrap IntKind.i64 (0 + 1) = 1 := by decide
  have q1 : inR 0 5 = true := by decide
  have q2 : inR 1 5 = true := by decide
  unfold f_earth_Declination K_earth_Declination
  rw [good_yes G, Option.bind_some, Bool.not_true, cond_false]
  simp only [hE, hi, q1, q2, cond_true, cond_false, show ((0 : Int) == 0) = true from rfl, show ((0 : Int) == 1) = false from rfl, show ((0 : Int) == 2) = false from rfl, show ((0 : Int) == 3) = false from rfl, show ((0 : Int) == 4) = false from rfl, show ((1 : Int) == 0) = false from rfl, show ((1 : Int) == 1) = true from rfl, show ((1 : Int) == 2) = false from rfl, show ((1 : Int) == 3) = false from rfl, show ((1 : Int) == 4) = false from rfl, show ((2 : Int) == 0) = false from rfl, show ((2 : Int) == 1) = false from rfl, show ((2 : Int) == 2) = true from rfl, show ((2 : Int) == 3) = false from rfl, show ((2 : Int) == 4) = false from rfl, show ((3 : Int) == 0) = false from rfl, show ((3 : Int) == 1) = false from rfl, show ((3 : Int) == 2) = false from rfl, show ((3 : Int) == 3) = true from rfl, show ((3 : Int) == 4) = false from rfl, show ((4 : Int) == 0) = false from rfl, show ((4 : Int) == 1) = false from rfl, show ((4 : Int) == 2) = false from rfl, show ((4 : Int) == 3) = false from rfl, show ((4 : Int) == 4) = true from rfl]
  rfl
theorem decl_r1 (x y z : Int) (hit : Bool) (G : GoodP x y z) (hE : rowI x = 1) :
    f_earth_Declination x y z hit = Option.bind (f_earth_Declination_2 2200 2500 500 (-2200) (-3800) 0 2200 (colI y) (colP y) hit) fun d => Option.bind (f_earth_Declination_2 950 900 (-1400) (-500) (-300) 100 950 (colI y) (colP y) d.2) fun d_1 => tailD d.1 d_1.1 (partI x 1) d_1.2 := by
  unfold rowI at hE
  have hi : IntKind.wrap IntKind.i64 (1 + 1) = 2 := by decide
  have q1 : inR 1 5 = true := by decide
  have q2 : inR 2 5 = true := by decide
  unfold f_earth_Declination K_earth_Declination
  rw [good_yes G, Option.bind_some, Bool.not_true, cond_false]
  simp only [hE, hi, q1, q2, cond_true, cond_false, show ((0 : Int) == 0) = true from rfl, show ((0 : Int) == 1) = false from rfl, show ((0 : Int) == 2) = false from rfl, show ((0 : Int) == 3) = false from rfl, show ((0 : Int) == 4) = false from rfl, show ((1 : Int) == 0) = false from rfl, show ((1 : Int) == 1) = true from rfl, show ((1 : Int) == 2) = false from rfl, show ((1 : Int) == 3) = false from rfl, show ((1 : Int) == 4) = false from rfl, show ((2 : Int) == 0) = false from rfl, show ((2 : Int) == 1) = false from rfl, show ((2 : Int) == 2) = true from rfl, show ((2 : Int) == 3) = false from rfl, show ((2 : Int) == 4) = false from rfl, show ((3 : Int) == 0) = false from rfl, show ((3 : Int) == 1) = false from rfl, show ((3 : Int) == 2) = false from rfl, show ((3 : Int) == 3) = true from rfl, show ((3 : Int) == 4) = false from rfl, show ((4 : Int) == 0) = false from rfl, show ((4 : Int) == 1) = false from rfl, show ((4 : Int) == 2) = false from rfl, show ((4 : Int) == 3) = false from rfl, show ((4 : Int) == 4) = true from rfl]
  rfl
theorem decl_r2 (x y z : Int) (hit : Bool) (G : GoodP x y z) (hE : rowI x = 2) :
    f_earth_Declination x y z hit = Option.bind (f_earth_Declination_2 950 900 (-1400) (-500) (-300) 100 950 (colI y) (colP y) hit) fun d => Option.bind (f_earth_Declination_2 500 1500 (-1700) 100 700 (-800) 500 (colI y) (colP y) d.2) fun d_1 => tailD d.1 d_1.1 (partI x 2) d_1.2 := by
  unfold rowI at hE
  have hi : IntKind.wrap IntKind.i64 (2 + 1) = 3 := by decide
  have q1 : inR 2 5 = true := by decide
  have q2 : inR 3 5 = true := by decide
  unfold f_earth_Declination K_earth_Declination
  rw [good_yes G, Option.bind_some, Bool.not_true, cond_false]
  simp only [hE, hi, q1, q2, cond_true, cond_false, show ((0 : Int) == 0) = true from rfl, show ((0 : Int) == 1) = false from rfl, show ((0 : Int) == 2) = false from rfl, show ((0 : Int) == 3) = false from rfl, show ((0 : Int) == 4) = false from rfl, show ((1 : Int) == 0) = false from rfl, show ((1 : Int) == 1) = true from rfl, show ((1 : Int) == 2) = false from rfl, show ((1 : Int) == 3) = false from rfl, show ((1 : Int) == 4) = false from rfl, show ((2 : Int) == 0) = false from rfl, show ((2 : Int) == 1) = false from rfl, show ((2 : Int) == 2) = true from rfl, show ((2 : Int) == 3) = false from rfl, show ((2 : Int) == 4) = false from rfl, show ((3 : Int) == 0) = false from rfl, show ((3 : Int) == 1) = false from rfl, show ((3 : Int) == 2) = false from rfl, show ((3 : Int) == 3) = true from rfl, show ((3 : Int) == 4) = false from rfl, show ((4 : Int) == 0) = false from rfl, show ((4 : Int) == 1) = false from rfl, show ((4 : Int) == 2) = false from rfl, show ((4 : Int) == 3) = false from rfl, show ((4 : Int) == 4) = true from rfl]
  rfl
theorem decl_r3 (x y z : Int) (hit : Bool) (G : GoodP x y z) (hE : rowI x = 3) :
    f_earth_Declination x y z hit = Option.bind (f_earth_Declination_2 500 1500 (-1700) 100 700 (-800) 500 (colI y) (colP y) hit) fun d => Option.bind (f_earth_Declination_2 1000 4000 (-3000) 500 3500 (-1200) 1000 (colI y) (colP y) d.2) fun d_1 => tailD d.1 d_1.1 (partI x 3) d_1.2 := by
  unfold rowI at hE
  have hi : IntKind.wrap IntKind.i64 (3 + 1) = 4 := by decide
  have q1 : inR 3 5 = true := by decide
  have q2 : inR 4 5 = true := by decide
  unfold f_earth_Declination K_earth_Declination
  rw [good_yes G, Option.bind_some, Bool.not_true, cond_false]
  simp only [hE, hi, q1, q2, cond_true, cond_false, show ((0 : Int) == 0) = true from rfl, show ((0 : Int) == 1) = false from rfl, show ((0 : Int) == 2) = false from rfl, show ((0 : Int) == 3) = false from rfl, show ((0 : Int) == 4) = false from rfl, show ((1 : Int) == 0) = false from rfl, show ((1 : Int) == 1) = true from rfl, show ((1 : Int) == 2) = false from rfl, show ((1 : Int) == 3) = false from rfl, show ((1 : Int) == 4) = false from rfl, show ((2 : Int) == 0) = false from rfl, show ((2 : Int) == 1) = false from rfl, show ((2 : Int) == 2) = true from rfl, show ((2 : Int) == 3) = false from rfl, show ((2 : Int) == 4) = false from rfl, show ((3 : Int) == 0) = false from rfl, show ((3 : Int) == 1) = false from rfl, show ((3 : Int) == 2) = false from rfl, show ((3 : Int) == 3) = true from rfl, show ((3 : Int) == 4) = false from rfl, show ((4 : Int) == 0) = false from rfl, show ((4 : Int) == 1) = false from rfl, show ((4 : Int) == 2) = false from rfl, show ((4 : Int) == 3) = false from rfl, show ((4 : Int) == 4) = true from rfl]
  rfl
theorem tailD_bd (a b p : Int) (hit : Bool) (A : -9663676416000 ≤ a ∧ a ≤ 9663676416000) (B : -9663676416000 ≤ b ∧ b ≤ 9663676416000) (P : 0 ≤ p ∧ p ≤ 450000000) :
    ∃ r, (-3373259426 ≤ r ∧ r ≤ 3373259426) ∧ tailD a b p hit = some (r, 0, hit) := by
  unfold tailD
  obtain ⟨r, hr, hu⟩ := d1_bd a b p 450000000 9663676416000 hit (by omega) A B P (by omega)
  have k := rdq_bd (r * 3373259426) 19327352832000 3373259426 (by omega) (by omega) (by omega)
  rw [hu, Option.bind_some, acc_muldiv _ _ _ _ (by decide), satI (x := r) (by omega), show sat 3373259426 = 3373259426 from rfl, show sat 19327352832000 = 19327352832000 from rfl, overI (x := r) (by omega), show over 3373259426 = false from rfl, show over 19327352832000 = false from rfl, satI (x := rdq _ _) (by omega), overI (x := rdq _ _) (by omega), Option.bind_some]
  simp only [Bool.or_false]
  exact ⟨_, k, rfl⟩
theorem decl_bd (x y z : Int) (hit : Bool) (G : GoodP x y z) : ∃ r, (-3373259426 ≤ r ∧ r ≤ 3373259426) ∧ f_earth_Declination x y z hit = some (r, 0, hit) := by
  have P := partI_bd x G.1 G.2.1
  have y1 := G.2.2.1
  have y2 := G.2.2.2.1
  rcases rowI_cases x G.1 G.2.1 with h | h | h | h
  · obtain ⟨a, ha, e1⟩ := d2_bd 3000 6000 (-2000) (-1500) (-6000) (-9000) 3000 y hit y1 y2 (by unfold In9; omega) (by unfold In9; omega) (by unfold In9; omega) (by unfold In9; omega) (by unfold In9; omega) (by unfold In9; omega) (by unfold In9; omega)
    obtain ⟨b, hb, e2⟩ := d2_bd 2200 2500 500 (-2200) (-3800) 0 2200 y hit y1 y2 (by unfold In9; omega) (by unfold In9; omega) (by unfold In9; omega) (by unfold In9; omega) (by unfold In9; omega) (by unfold In9; omega) (by unfold In9; omega)
    obtain ⟨c, hc, e3⟩ := tailD_bd a b (partI x 0) hit ha hb (h ▸ P)
    refine ⟨c, hc, ?_⟩
    rw [decl_r0 x y z hit G h, e1, Option.bind_some, e2, Option.bind_some]; exact e3
  · obtain ⟨a, ha, e1⟩ := d2_bd 2200 2500 500 (-2200) (-3800) 0 2200 y hit y1 y2 (by unfold In9; omega) (by unfold In9; omega) (by unfold In9; omega) (by unfold In9; omega) (by unfold In9; omega) (by unfold In9; omega) (by unfold In9; omega)
    obtain ⟨b, hb, e2⟩ := d2_bd 950 900 (-1400) (-500) (-300) 100 950 y hit y1 y2 (by unfold In9; omega) (by unfold In9; omega) (by unfold In9; omega) (by unfold In9; omega) (by unfold In9; omega) (by unfold In9; omega) (by unfold In9; omega)
    obtain ⟨c, hc, e3⟩ := tailD_bd a b (partI x 1) hit ha hb (h ▸ P)
    refine ⟨c, hc, ?_⟩
    rw [decl_r1 x y z hit G h, e1, Option.bind_some, e2, Option.bind_some]; exact e3
  · obtain ⟨a, ha, e1⟩ := d2_bd 950 900 (-1400) (-500) (-300) 100 950 y hit y1 y2 (by unfold In9; omega) (by unfold In9; omega) (by unfold In9; omega) (by unfold In9; omega) (by unfold In9; omega) (by unfold In9; omega) (by unfold In9; omega)
    obtain ⟨b, hb, e2⟩ := d2_bd 500 1500 (-1700) 100 700 (-800) 500 y hit y1 y2 (by unfold In9; omega) (by unfold In9; omega) (by unfold In9; omega) (by unfold In9; omega) (by unfold In9; omega) (by unfold In9; omega) (by unfold In9; omega)
    obtain ⟨c, hc, e3⟩ := tailD_bd a b (partI x 2) hit ha hb (h ▸ P)
    refine ⟨c, hc, ?_⟩
    rw [decl_r2 x y z hit G h, e1, Option.bind_some, e2, Option.bind_some]; exact e3
  · obtain ⟨a, ha, e1⟩ := d2_bd 500 1500 (-1700) 100 700 (-800) 500 y hit y1 y2 (by unfold In9; omega) (by unfold In9; omega) (by unfold In9; omega) (by unfold In9; omega) (by unfold In9; omega) (by unfold In9; omega) (by unfold In9; omega)
    obtain ⟨b, hb, e2⟩ := d2_bd 1000 4000 (-3000) 500 3500 (-1200) 1000 y hit y1 y2 (by unfold In9; omega) (by unfold In9; omega) (by unfold In9; omega) (by unfold In9; omega) (by unfold In9; omega) (by unfold In9; omega) (by unfold In9; omega)
    obtain ⟨c, hc, e3⟩ := tailD_bd a b (partI x 3) hit ha hb (h ▸ P)
    refine ⟨c, hc, ?_⟩
    rw [decl_r3 x y z hit G h, e1, Option.bind_some, e2, Option.bind_some]; exact e3
theorem earthBounds_plain (x0 x1 x2 x3 x4 x5 x6 x7 x8 : Int) : f_astrolabelaw8_EarthBounds x0 x1 x2 x3 x4 x5 x6 x7 x8 = some true := by
  unfold f_astrolabelaw8_EarthBounds K_astrolabelaw8_EarthBounds
  have aw : f_astrolabelaw8_awake = some true := by kernel_rfl
  rw [aw, Option.bind_some, Bool.not_true, cond_false]
  obtain ⟨r, hr⟩ := t_new x0 x1 x2
  rw [hr, Option.bind_some]
  rcases new_bd x0 x1 x2 r hr with rfl | ⟨F, n, e, rfl, n1, n2, e1, e2⟩
  · rfl
  simp only [cond_false, Option.bind_some]
  obtain ⟨g, hg⟩ := t_good x3 x4 x5
  rw [hg, Option.bind_some]
  cases g with
  | false => rfl
  | true =>
    have G := good_p hg
    rw [Bool.not_true, cond_false]
    obtain ⟨g', hg'⟩ := t_good x6 x7 x8
    rw [hg', Option.bind_some]
    cases g' with
    | false => rfl
    | true =>
      have H := good_p hg'
      rw [Bool.not_true, cond_false]
      have G1 : GoodP x3 x7 x8 := ⟨G.1, G.2.1, H.2.2⟩
      have G2 : GoodP x6 x4 x5 := ⟨H.1, H.2.1, G.2.2⟩
      obtain ⟨v, hv, hd⟩ := decl_bd x3 x4 x5 false G
      rw [hd, Option.bind_some]
      simp only [to_full x3 x4 x5 x0 x1 x2 n e _ G F (by omega) n2 e1 e2, to_full x3 x7 x8 x0 x1 x2 n e _ G1 F (by omega) n2 e1 e2, to_full x6 x4 x5 x0 x1 x2 n e _ G2 F (by omega) n2 e1 e2, Option.bind_some,
        decide_eq_false (show ¬ v > 3373259426 by omega), decide_eq_false (show ¬ v < -3373259426 by omega)]
      simp
theorem earthBounds_ev (f : (Int) → (Int) → (Int) → (Int) → (Int) → (Int) → (Int) → (Int) → (Int) → Option Bool) (x0_0 : Int) (x0_1 : Int) (x0_2 : Int) (x1_0 : Int) (x1_1 : Int) (x1_2 : Int) (x2_0 : Int) (x2_1 : Int) (x2_2 : Int) : F_astrolabelaw8_EarthBounds f [.r (.agg [.c (.f (.i .i64 x0_0)), .c (.f (.i .i64 x0_1)), .c (.f (.i .i64 x0_2))]), .r (.agg [.c (.f (.i .i64 x1_0)), .c (.f (.i .i64 x1_1)), .c (.f (.i .i64 x1_2))]), .r (.agg [.c (.f (.i .i64 x2_0)), .c (.f (.i .i64 x2_1)), .c (.f (.i .i64 x2_2))])] [] = .opt (f x0_0 x0_1 x0_2 x1_0 x1_1 x1_2 x2_0 x2_1 x2_2) fun d => .leaf ⟨.r (.c (.f (.b d))), [], []⟩ := by kernel_rfl
theorem earthBounds_trues : Trues (F_astrolabelaw8_EarthBounds f_astrolabelaw8_EarthBounds) [.flat true [.c (.i .i64), .c (.i .i64), .c (.i .i64)], .flat true [.c (.i .i64), .c (.i .i64), .c (.i .i64)], .flat true [.c (.i .i64), .c (.i .i64), .c (.i .i64)]] := fun ds h => by
  obtain ⟨_, _, rfl, q0_0, g0⟩ := fit_flat h
  obtain ⟨x0_0, _, rfl, r0_0, q0_1⟩ := f1_i q0_0
  obtain ⟨x0_1, _, rfl, r0_1, q0_2⟩ := f1_i q0_1
  obtain ⟨x0_2, _, rfl, r0_2, q0_3⟩ := f1_i q0_2
  obtain rfl := f1_nil q0_3
  obtain ⟨_, _, rfl, q1_0, g1⟩ := fit_flat g0
  obtain ⟨x1_0, _, rfl, r1_0, q1_1⟩ := f1_i q1_0
  obtain ⟨x1_1, _, rfl, r1_1, q1_2⟩ := f1_i q1_1
  obtain ⟨x1_2, _, rfl, r1_2, q1_3⟩ := f1_i q1_2
  obtain rfl := f1_nil q1_3
  obtain ⟨_, _, rfl, q2_0, g2⟩ := fit_flat g1
  obtain ⟨x2_0, _, rfl, r2_0, q2_1⟩ := f1_i q2_0
  obtain ⟨x2_1, _, rfl, r2_1, q2_2⟩ := f1_i q2_1
  obtain ⟨x2_2, _, rfl, r2_2, q2_3⟩ := f1_i q2_2
  obtain rfl := f1_nil q2_3
  obtain rfl := fit_nil g2
  refine ⟨[], (congrArg T.eval (earthBounds_ev f_astrolabelaw8_EarthBounds x0_0 x0_1 x0_2 x1_0 x1_1 x1_2 x2_0 x2_1 x2_2)).trans ?_⟩
  rw [earthBounds_plain x0_0 x0_1 x0_2 x1_0 x1_1 x1_2 x2_0 x2_1 x2_2]
  rfl
set_option maxRecDepth 100000 in
theorem earthBounds_lifted (os : Os) (started : os.Started) (H : Type) (enc : TypeId × Value → H) :
    ReturnsInHanded {} Try.checked os 13 .any (Rows.earthBoundsSpec.pre6 enc Try.prog Try.f13 Rows.earthBoundsRow.domain false) (Rows.earthBoundsSpec.post enc Try.prog Try.f13 false true false false) :=
  law_lift (C := Try.checked) (tb := Try.f13.resultTypes.getD 0 0) own started (by kernel_rfl) Try.func13 laid (by kernel_rfl) (by kernel_rfl) (by kernel_rfl) rfl
    (fun ds h => by
      have h : ds.length = 3 := h.trans (by kernel_rfl)
      match ds, h with
      | [_, _, _], _ => rfl)
    (ChangeSpec.witness6 (enc := enc) (C := Try.checked) false ⟨#[], #[.agg #[.int .i64 0, .int .i64 0, .int .i64 0], .agg #[.int .i64 0, .int .i64 0, .int .i64 0], .agg #[.int .i64 0, .int .i64 0, .int .i64 0]], []⟩ 8 (by kernel_rfl) (by kernel_rfl) (by kernel_rfl) (by kernel_rfl))
    (fun W base args ds ps _ hval ht hz _ _ => prm_calls (pr := [.flat true [.c (.i .i64), .c (.i .i64), .c (.i .i64)], .flat true [.c (.i .i64), .c (.i .i64), .c (.i .i64)], .flat true [.c (.i .i64), .c (.i .i64), .c (.i .i64)]]) s_astrolabelaw8_EarthBounds (by kernel_rfl) (ts := Try.f13.params.toList) (by kernel_rfl) (by kernel_rfl) earthBounds_trues hval ht hz)
theorem earthBounds_over : Rows.earthBoundsRow.holds Try.pinned (OpenSpec.ofChange Rows.earthBoundsSpec) :=
  OpenClaim.holds_of_wide 13 Try.f13 rfl rfl rfl rfl rfl rfl rfl ⟨rfl, rfl, rfl, rfl, rfl⟩ rfl rfl rfl rfl rfl (by kernel_rfl) Try.func13 (by kernel_rfl)
    (of_decide_eq_true (by kernel_rfl)) (by unfold Func.isWrapper; first | (rw [if_pos (by decide +kernel)]; kernel_rfl) | (rw [if_neg (by decide +kernel)]; exact ⟨rfl, rfl⟩))
    (fun os started H enc _ => earthBounds_lifted os started H enc)
/-- the statement -/
theorem earthBounds_proved : Rows.EarthBoundsSaid := earthBounds_over
#print axioms earthBounds_proved
end Go.Proofs.Ytcalippagaaikaa
