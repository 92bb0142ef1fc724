/-
  Chapter 8: EarthRound: the statement of astrolabelaw8.EarthRound.
-/
import Derived.Test.YtcalippagaaikaaE5
import Derived.Test.YtcalippagaaikaaAbLaw
set_option maxRecDepth 100000
set_option maxHeartbeats 4000000
set_option linter.unusedVariables false
set_option linter.unusedSimpArgs false
namespace Go.Proofs.Ytcalippagaaikaa
open Go.Ab
theorem d1_eq (a b p d : Int) (hit : Bool) (nz : sat d ≠ 0) : ∃ u, f_earth_Declination_1 a b p d hit = some (IntKind.wrap .i64 (a + sat (rdq (sat (IntKind.wrap .i64 (b - a)) * sat p) (sat d))), u) := by
  unfold f_earth_Declination_1 K_earth_Declination_1
  rw [acc_muldiv _ _ _ _ nz, Option.bind_some]
  exact ⟨_, rfl⟩
def tailD (a b p : Int) (hit : Bool) : Option (Int × Int × Bool) :=
  Option.bind (f_earth_Declination_1 a b p 450000000 hit) fun (d : Int × Bool) => Option.bind (f___fx_Acc__MulDiv d.1 3373259426 19327352832000 d.2) fun (d : Int × Bool) => some (d.1, 0, d.2)
def tailV (a b p : Int) : Int := sat (rdq (sat (IntKind.wrap .i64 (a + sat (rdq (sat (IntKind.wrap .i64 (b - a)) * sat p) (sat 450000000)))) * sat 3373259426) (sat 19327352832000))
theorem tailD_eq (a b p : Int) (hit : Bool) : ∃ u, tailD a b p hit = some (tailV a b p, 0, u) := by
  unfold tailD
  obtain ⟨u, hu⟩ := d1_eq a b p 450000000 hit (by decide)
  rw [hu, Option.bind_some, acc_muldiv _ _ _ _ (by decide), Option.bind_some]
  exact ⟨_, rfl⟩
def rowI (x : Int) : Int := (if 3 < IntKind.wrap IntKind.i64 (Int.tdiv (IntKind.wrap IntKind.i64 (x + 900000000)) 450000000) then 3 else IntKind.wrap IntKind.i64 (Int.tdiv (IntKind.wrap IntKind.i64 (x + 900000000)) 450000000))
theorem rowI_cases (x : Int) (h1 : -900000000 ≤ x) (h2 : x ≤ 900000000) : rowI x = 0 ∨ rowI x = 1 ∨ rowI x = 2 ∨ rowI x = 3 := by
  unfold rowI
  have e : IntKind.wrap .i64 (x + 900000000) = x + 900000000 := wrap_i64 (by omega) (by omega)
  have t : Int.tdiv (x + 900000000) 450000000 = (x + 900000000) / 450000000 := Int.tdiv_eq_ediv_of_nonneg (by omega)
  rw [e, t, wrap_i64 (by omega) (by omega)]
  split <;> omega
def partI (x i : Int) : Int := IntKind.wrap IntKind.i64 (IntKind.wrap IntKind.i64 (x + 900000000) - IntKind.wrap IntKind.i64 (i * 450000000))
theorem decl_p0 (x z : Int) (hit : Bool) (G : GoodP x (1800000000) z) (hE : rowI x = 0) :
    f_earth_Declination x (1800000000) z hit = Option.bind (f_earth_Declination_2 3000 6000 (-2000) (-1500) (-6000) (-9000) 3000 5 600000000 hit) fun d => Option.bind (f_earth_Declination_2 2200 2500 500 (-2200) (-3800) 0 2200 5 600000000 d.2) fun d_1 => tailD d.1 d_1.1 (partI x 0) d_1.2 := by
  unfold rowI at hE
  have hc : (if 5 < IntKind.wrap IntKind.i64 (Int.tdiv (IntKind.wrap IntKind.i64 ((1800000000) + 1800000000)) 600000000) then 5 else IntKind.wrap IntKind.i64 (Int.tdiv (IntKind.wrap IntKind.i64 ((1800000000) + 1800000000)) 600000000)) = 5 := by decide
  have hp : IntKind.wrap IntKind.i64 (IntKind.wrap IntKind.i64 ((1800000000) + 1800000000) - IntKind.wrap IntKind.i64 (5 * 600000000)) = 600000000 := by decide
  have hi : IntKind.wrap IntKind.i64 (0 + 1) = 1 := by decide
  have q1 : inR 0 5 = true := by decide
  have q2 : inR 1 5 = true := by decide
  unfold f_earth_Declination K_earth_Declination
  rw [good_yes G, Option.bind_some, Bool.not_true, cond_false]
  simp only [hE, hc, hp, hi, q1, q2, cond_true, cond_false, show ((0 : Int) == 0) = true from rfl, show ((0 : Int) == 1) = false from rfl, show ((0 : Int) == 2) = false from rfl, show ((0 : Int) == 3) = false from rfl, show ((0 : Int) == 4) = false from rfl, show ((1 : Int) == 0) = false from rfl, show ((1 : Int) == 1) = true from rfl, show ((1 : Int) == 2) = false from rfl, show ((1 : Int) == 3) = false from rfl, show ((1 : Int) == 4) = false from rfl, show ((2 : Int) == 0) = false from rfl, show ((2 : Int) == 1) = false from rfl, show ((2 : Int) == 2) = true from rfl, show ((2 : Int) == 3) = false from rfl, show ((2 : Int) == 4) = false from rfl, show ((3 : Int) == 0) = false from rfl, show ((3 : Int) == 1) = false from rfl, show ((3 : Int) == 2) = false from rfl, show ((3 : Int) == 3) = true from rfl, show ((3 : Int) == 4) = false from rfl, show ((4 : Int) == 0) = false from rfl, show ((4 : Int) == 1) = false from rfl, show ((4 : Int) == 2) = false from rfl, show ((4 : Int) == 3) = false from rfl, show ((4 : Int) == 4) = true from rfl]
  rfl
theorem decl_p1 (x z : Int) (hit : Bool) (G : GoodP x (1800000000) z) (hE : rowI x = 1) :
    f_earth_Declination x (1800000000) z hit = Option.bind (f_earth_Declination_2 2200 2500 500 (-2200) (-3800) 0 2200 5 600000000 hit) fun d => Option.bind (f_earth_Declination_2 950 900 (-1400) (-500) (-300) 100 950 5 600000000 d.2) fun d_1 => tailD d.1 d_1.1 (partI x 1) d_1.2 := by
  unfold rowI at hE
  have hc : (if 5 < IntKind.wrap IntKind.i64 (Int.tdiv (IntKind.wrap IntKind.i64 ((1800000000) + 1800000000)) 600000000) then 5 else IntKind.wrap IntKind.i64 (Int.tdiv (IntKind.wrap IntKind.i64 ((1800000000) + 1800000000)) 600000000)) = 5 := by decide
  have hp : IntKind.wrap IntKind.i64 (IntKind.wrap IntKind.i64 ((1800000000) + 1800000000) - IntKind.wrap IntKind.i64 (5 * 600000000)) = 600000000 := by decide
  have hi : IntKind.wrap IntKind.i64 (1 + 1) = 2 := by decide
  have q1 : inR 1 5 = true := by decide
  have q2 : inR 2 5 = true := by decide
  unfold f_earth_Declination K_earth_Declination
  rw [good_yes G, Option.bind_some, Bool.not_true, cond_false]
  simp only [hE, hc, hp, hi, q1, q2, cond_true, cond_false, show ((0 : Int) == 0) = true from rfl, show ((0 : Int) == 1) = false from rfl, show ((0 : Int) == 2) = false from rfl, show ((0 : Int) == 3) = false from rfl, show ((0 : Int) == 4) = false from rfl, show ((1 : Int) == 0) = false from rfl, show ((1 : Int) == 1) = true from rfl, show ((1 : Int) == 2) = false from rfl, show ((1 : Int) == 3) = false from rfl, show ((1 : Int) == 4) = false from rfl, show ((2 : Int) == 0) = false from rfl, show ((2 : Int) == 1) = false from rfl, show ((2 : Int) == 2) = true from rfl, show ((2 : Int) == 3) = false from rfl, show ((2 : Int) == 4) = false from rfl, show ((3 : Int) == 0) = false from rfl, show ((3 : Int) == 1) = false from rfl, show ((3 : Int) == 2) = false from rfl, show ((3 : Int) == 3) = true from rfl, show ((3 : Int) == 4) = false from rfl, show ((4 : Int) == 0) = false from rfl, show ((4 : Int) == 1) = false from rfl, show ((4 : Int) == 2) = false from rfl, show ((4 : Int) == 3) = false from rfl, show ((4 : Int) == 4) = true from rfl]
  rfl
theorem decl_p2 (x z : Int) (hit : Bool) (G : GoodP x (1800000000) z) (hE : rowI x = 2) :
    f_earth_Declination x (1800000000) z hit = Option.bind (f_earth_Declination_2 950 900 (-1400) (-500) (-300) 100 950 5 600000000 hit) fun d => Option.bind (f_earth_Declination_2 500 1500 (-1700) 100 700 (-800) 500 5 600000000 d.2) fun d_1 => tailD d.1 d_1.1 (partI x 2) d_1.2 := by
  unfold rowI at hE
  have hc : (if 5 < IntKind.wrap IntKind.i64 (Int.tdiv (IntKind.wrap IntKind.i64 ((1800000000) + 1800000000)) 600000000) then 5 else IntKind.wrap IntKind.i64 (Int.tdiv (IntKind.wrap IntKind.i64 ((1800000000) + 1800000000)) 600000000)) = 5 := by decide
  have hp : IntKind.wrap IntKind.i64 (IntKind.wrap IntKind.i64 ((1800000000) + 1800000000) - IntKind.wrap IntKind.i64 (5 * 600000000)) = 600000000 := by decide
  have hi : IntKind.wrap IntKind.i64 (2 + 1) = 3 := by decide
  have q1 : inR 2 5 = true := by decide
  have q2 : inR 3 5 = true := by decide
  unfold f_earth_Declination K_earth_Declination
  rw [good_yes G, Option.bind_some, Bool.not_true, cond_false]
  simp only [hE, hc, hp, hi, q1, q2, cond_true, cond_false, show ((0 : Int) == 0) = true from rfl, show ((0 : Int) == 1) = false from rfl, show ((0 : Int) == 2) = false from rfl, show ((0 : Int) == 3) = false from rfl, show ((0 : Int) == 4) = false from rfl, show ((1 : Int) == 0) = false from rfl, show ((1 : Int) == 1) = true from rfl, show ((1 : Int) == 2) = false from rfl, show ((1 : Int) == 3) = false from rfl, show ((1 : Int) == 4) = false from rfl, show ((2 : Int) == 0) = false from rfl, show ((2 : Int) == 1) = false from rfl, show ((2 : Int) == 2) = true from rfl, show ((2 : Int) == 3) = false from rfl, show ((2 : Int) == 4) = false from rfl, show ((3 : Int) == 0) = false from rfl, show ((3 : Int) == 1) = false from rfl, show ((3 : Int) == 2) = false from rfl, show ((3 : Int) == 3) = true from rfl, show ((3 : Int) == 4) = false from rfl, show ((4 : Int) == 0) = false from rfl, show ((4 : Int) == 1) = false from rfl, show ((4 : Int) == 2) = false from rfl, show ((4 : Int) == 3) = false from rfl, show ((4 : Int) == 4) = true from rfl]
  rfl
theorem decl_p3 (x z : Int) (hit : Bool) (G : GoodP x (1800000000) z) (hE : rowI x = 3) :
    f_earth_Declination x (1800000000) z hit = Option.bind (f_earth_Declination_2 500 1500 (-1700) 100 700 (-800) 500 5 600000000 hit) fun d => Option.bind (f_earth_Declination_2 1000 4000 (-3000) 500 3500 (-1200) 1000 5 600000000 d.2) fun d_1 => tailD d.1 d_1.1 (partI x 3) d_1.2 := by
  unfold rowI at hE
  have hc : (if 5 < IntKind.wrap IntKind.i64 (Int.tdiv (IntKind.wrap IntKind.i64 ((1800000000) + 1800000000)) 600000000) then 5 else IntKind.wrap IntKind.i64 (Int.tdiv (IntKind.wrap IntKind.i64 ((1800000000) + 1800000000)) 600000000)) = 5 := by decide
  have hp : IntKind.wrap IntKind.i64 (IntKind.wrap IntKind.i64 ((1800000000) + 1800000000) - IntKind.wrap IntKind.i64 (5 * 600000000)) = 600000000 := by decide
  have hi : IntKind.wrap IntKind.i64 (3 + 1) = 4 := by decide
  have q1 : inR 3 5 = true := by decide
  have q2 : inR 4 5 = true := by decide
  unfold f_earth_Declination K_earth_Declination
  rw [good_yes G, Option.bind_some, Bool.not_true, cond_false]
  simp only [hE, hc, hp, hi, q1, q2, cond_true, cond_false, show ((0 : Int) == 0) = true from rfl, show ((0 : Int) == 1) = false from rfl, show ((0 : Int) == 2) = false from rfl, show ((0 : Int) == 3) = false from rfl, show ((0 : Int) == 4) = false from rfl, show ((1 : Int) == 0) = false from rfl, show ((1 : Int) == 1) = true from rfl, show ((1 : Int) == 2) = false from rfl, show ((1 : Int) == 3) = false from rfl, show ((1 : Int) == 4) = false from rfl, show ((2 : Int) == 0) = false from rfl, show ((2 : Int) == 1) = false from rfl, show ((2 : Int) == 2) = true from rfl, show ((2 : Int) == 3) = false from rfl, show ((2 : Int) == 4) = false from rfl, show ((3 : Int) == 0) = false from rfl, show ((3 : Int) == 1) = false from rfl, show ((3 : Int) == 2) = false from rfl, show ((3 : Int) == 3) = true from rfl, show ((3 : Int) == 4) = false from rfl, show ((4 : Int) == 0) = false from rfl, show ((4 : Int) == 1) = false from rfl, show ((4 : Int) == 2) = false from rfl, show ((4 : Int) == 3) = false from rfl, show ((4 : Int) == 4) = true from rfl]
  rfl
theorem decl_n0 (x z : Int) (hit : Bool) (G : GoodP x (-1800000000) z) (hE : rowI x = 0) :
    f_earth_Declination x (-1800000000) z hit = Option.bind (f_earth_Declination_2 3000 6000 (-2000) (-1500) (-6000) (-9000) 3000 0 0 hit) fun d => Option.bind (f_earth_Declination_2 2200 2500 500 (-2200) (-3800) 0 2200 0 0 d.2) fun d_1 => tailD d.1 d_1.1 (partI x 0) d_1.2 := by
  unfold rowI at hE
  have hc : (if 5 < IntKind.wrap IntKind.i64 (Int.tdiv (IntKind.wrap IntKind.i64 ((-1800000000) + 1800000000)) 600000000) then 5 else IntKind.wrap IntKind.i64 (Int.tdiv (IntKind.wrap IntKind.i64 ((-1800000000) + 1800000000)) 600000000)) = 0 := by decide
  have hp : IntKind.wrap IntKind.i64 (IntKind.wrap IntKind.i64 ((-1800000000) + 1800000000) - IntKind.wrap IntKind.i64 (0 * 600000000)) = 0 := by decide
  have hi : IntKind.wrap IntKind.i64 (0 + 1) = 1 := by decide
  have q1 : inR 0 5 = true := by decide
  have q2 : inR 1 5 = true := by decide
  unfold f_earth_Declination K_earth_Declination
  rw [good_yes G, Option.bind_some, Bool.not_true, cond_false]
  simp only [hE, hc, hp, hi, q1, q2, cond_true, cond_false, show ((0 : Int) == 0) = true from rfl, show ((0 : Int) == 1) = false from rfl, show ((0 : Int) == 2) = false from rfl, show ((0 : Int) == 3) = false from rfl, show ((0 : Int) == 4) = false from rfl, show ((1 : Int) == 0) = false from rfl, show ((1 : Int) == 1) = true from rfl, show ((1 : Int) == 2) = false from rfl, show ((1 : Int) == 3) = false from rfl, show ((1 : Int) == 4) = false from rfl, show ((2 : Int) == 0) = false from rfl, show ((2 : Int) == 1) = false from rfl, show ((2 : Int) == 2) = true from rfl, show ((2 : Int) == 3) = false from rfl, show ((2 : Int) == 4) = false from rfl, show ((3 : Int) == 0) = false from rfl, show ((3 : Int) == 1) = false from rfl, show ((3 : Int) == 2) = false from rfl, show ((3 : Int) == 3) = true from rfl, show ((3 : Int) == 4) = false from rfl, show ((4 : Int) == 0) = false from rfl, show ((4 : Int) == 1) = false from rfl, show ((4 : Int) == 2) = false from rfl, show ((4 : Int) == 3) = false from rfl, show ((4 : Int) == 4) = true from rfl]
  rfl
theorem decl_n1 (x z : Int) (hit : Bool) (G : GoodP x (-1800000000) z) (hE : rowI x = 1) :
    f_earth_Declination x (-1800000000) z hit = Option.bind (f_earth_Declination_2 2200 2500 500 (-2200) (-3800) 0 2200 0 0 hit) fun d => Option.bind (f_earth_Declination_2 950 900 (-1400) (-500) (-300) 100 950 0 0 d.2) fun d_1 => tailD d.1 d_1.1 (partI x 1) d_1.2 := by
  unfold rowI at hE
  have hc : (if 5 < IntKind.wrap IntKind.i64 (Int.tdiv (IntKind.wrap IntKind.i64 ((-1800000000) + 1800000000)) 600000000) then 5 else IntKind.wrap IntKind.i64 (Int.tdiv (IntKind.wrap IntKind.i64 ((-1800000000) + 1800000000)) 600000000)) = 0 := by decide
  have hp : IntKind.wrap IntKind.i64 (IntKind.wrap IntKind.i64 ((-1800000000) + 1800000000) - IntKind.wrap IntKind.i64 (0 * 600000000)) = 0 := by decide
  have hi : IntKind.wrap IntKind.i64 (1 + 1) = 2 := by decide
  have q1 : inR 1 5 = true := by decide
  have q2 : inR 2 5 = true := by decide
  unfold f_earth_Declination K_earth_Declination
  rw [good_yes G, Option.bind_some, Bool.not_true, cond_false]
  simp only [hE, hc, hp, hi, q1, q2, cond_true, cond_false, show ((0 : Int) == 0) = true from rfl, show ((0 : Int) == 1) = false from rfl, show ((0 : Int) == 2) = false from rfl, show ((0 : Int) == 3) = false from rfl, show ((0 : Int) == 4) = false from rfl, show ((1 : Int) == 0) = false from rfl, show ((1 : Int) == 1) = true from rfl, show ((1 : Int) == 2) = false from rfl, show ((1 : Int) == 3) = false from rfl, show ((1 : Int) == 4) = false from rfl, show ((2 : Int) == 0) = false from rfl, show ((2 : Int) == 1) = false from rfl, show ((2 : Int) == 2) = true from rfl, show ((2 : Int) == 3) = false from rfl, show ((2 : Int) == 4) = false from rfl, show ((3 : Int) == 0) = false from rfl, show ((3 : Int) == 1) = false from rfl, show ((3 : Int) == 2) = false from rfl, show ((3 : Int) == 3) = true from rfl, show ((3 : Int) == 4) = false from rfl, show ((4 : Int) == 0) = false from rfl, show ((4 : Int) == 1) = false from rfl, show ((4 : Int) == 2) = false from rfl, show ((4 : Int) == 3) = false from rfl, show ((4 : Int) == 4) = true from rfl]
  rfl
theorem decl_n2 (x z : Int) (hit : Bool) (G : GoodP x (-1800000000) z) (hE : rowI x = 2) :
    f_earth_Declination x (-1800000000) z hit = Option.bind (f_earth_Declination_2 950 900 (-1400) (-500) (-300) 100 950 0 0 hit) fun d => Option.bind (f_earth_Declination_2 500 1500 (-1700) 100 700 (-800) 500 0 0 d.2) fun d_1 => tailD d.1 d_1.1 (partI x 2) d_1.2 := by
  unfold rowI at hE
  have hc : (if 5 < IntKind.wrap IntKind.i64 (Int.tdiv (IntKind.wrap IntKind.i64 ((-1800000000) + 1800000000)) 600000000) then 5 else IntKind.wrap IntKind.i64 (Int.tdiv (IntKind.wrap IntKind.i64 ((-1800000000) + 1800000000)) 600000000)) = 0 := by decide
  have hp : IntKind.wrap IntKind.i64 (IntKind.wrap IntKind.i64 ((-1800000000) + 1800000000) - IntKind.wrap IntKind.i64 (0 * 600000000)) = 0 := by decide
  have hi : IntKind.wrap IntKind.i64 (2 + 1) = 3 := by decide
  have q1 : inR 2 5 = true := by decide
  have q2 : inR 3 5 = true := by decide
  unfold f_earth_Declination K_earth_Declination
  rw [good_yes G, Option.bind_some, Bool.not_true, cond_false]
  simp only [hE, hc, hp, hi, q1, q2, cond_true, cond_false, show ((0 : Int) == 0) = true from rfl, show ((0 : Int) == 1) = false from rfl, show ((0 : Int) == 2) = false from rfl, show ((0 : Int) == 3) = false from rfl, show ((0 : Int) == 4) = false from rfl, show ((1 : Int) == 0) = false from rfl, show ((1 : Int) == 1) = true from rfl, show ((1 : Int) == 2) = false from rfl, show ((1 : Int) == 3) = false from rfl, show ((1 : Int) == 4) = false from rfl, show ((2 : Int) == 0) = false from rfl, show ((2 : Int) == 1) = false from rfl, show ((2 : Int) == 2) = true from rfl, show ((2 : Int) == 3) = false from rfl, show ((2 : Int) == 4) = false from rfl, show ((3 : Int) == 0) = false from rfl, show ((3 : Int) == 1) = false from rfl, show ((3 : Int) == 2) = false from rfl, show ((3 : Int) == 3) = true from rfl, show ((3 : Int) == 4) = false from rfl, show ((4 : Int) == 0) = false from rfl, show ((4 : Int) == 1) = false from rfl, show ((4 : Int) == 2) = false from rfl, show ((4 : Int) == 3) = false from rfl, show ((4 : Int) == 4) = true from rfl]
  rfl
theorem decl_n3 (x z : Int) (hit : Bool) (G : GoodP x (-1800000000) z) (hE : rowI x = 3) :
    f_earth_Declination x (-1800000000) z hit = Option.bind (f_earth_Declination_2 500 1500 (-1700) 100 700 (-800) 500 0 0 hit) fun d => Option.bind (f_earth_Declination_2 1000 4000 (-3000) 500 3500 (-1200) 1000 0 0 d.2) fun d_1 => tailD d.1 d_1.1 (partI x 3) d_1.2 := by
  unfold rowI at hE
  have hc : (if 5 < IntKind.wrap IntKind.i64 (Int.tdiv (IntKind.wrap IntKind.i64 ((-1800000000) + 1800000000)) 600000000) then 5 else IntKind.wrap IntKind.i64 (Int.tdiv (IntKind.wrap IntKind.i64 ((-1800000000) + 1800000000)) 600000000)) = 0 := by decide
  have hp : IntKind.wrap IntKind.i64 (IntKind.wrap IntKind.i64 ((-1800000000) + 1800000000) - IntKind.wrap IntKind.i64 (0 * 600000000)) = 0 := by decide
  have hi : IntKind.wrap IntKind.i64 (3 + 1) = 4 := by decide
  have q1 : inR 3 5 = true := by decide
  have q2 : inR 4 5 = true := by decide
  unfold f_earth_Declination K_earth_Declination
  rw [good_yes G, Option.bind_some, Bool.not_true, cond_false]
  simp only [hE, hc, hp, hi, q1, q2, cond_true, cond_false, show ((0 : Int) == 0) = true from rfl, show ((0 : Int) == 1) = false from rfl, show ((0 : Int) == 2) = false from rfl, show ((0 : Int) == 3) = false from rfl, show ((0 : Int) == 4) = false from rfl, show ((1 : Int) == 0) = false from rfl, show ((1 : Int) == 1) = true from rfl, show ((1 : Int) == 2) = false from rfl, show ((1 : Int) == 3) = false from rfl, show ((1 : Int) == 4) = false from rfl, show ((2 : Int) == 0) = false from rfl, show ((2 : Int) == 1) = false from rfl, show ((2 : Int) == 2) = true from rfl, show ((2 : Int) == 3) = false from rfl, show ((2 : Int) == 4) = false from rfl, show ((3 : Int) == 0) = false from rfl, show ((3 : Int) == 1) = false from rfl, show ((3 : Int) == 2) = false from rfl, show ((3 : Int) == 3) = true from rfl, show ((3 : Int) == 4) = false from rfl, show ((4 : Int) == 0) = false from rfl, show ((4 : Int) == 1) = false from rfl, show ((4 : Int) == 2) = false from rfl, show ((4 : Int) == 3) = false from rfl, show ((4 : Int) == 4) = true from rfl]
  rfl
theorem decl_ends (x z : Int) (hit hit' : Bool) (G : GoodP x 1800000000 z) : ∃ v u u', f_earth_Declination x 1800000000 z hit = some (v, 0, u) ∧ f_earth_Declination x (-1800000000) z hit' = some (v, 0, u') := by
  have G' : GoodP x (-1800000000) z := by
    obtain ⟨g1, g2, g3, g4, g5, g6⟩ := G
    exact ⟨g1, g2, by omega, by omega, g5, g6⟩
  rcases rowI_cases x G.1 G.2.1 with h | h | h | h
  · obtain ⟨u1, e1⟩ := d2_end 3000 6000 (-2000) (-1500) (-6000) (-9000) 3000 hit (by omega) (by omega)
    obtain ⟨u2, e2⟩ := d2_end 2200 2500 500 (-2200) (-3800) 0 2200 u1 (by omega) (by omega)
    obtain ⟨u3, e3⟩ := d2_start 3000 6000 (-2000) (-1500) (-6000) (-9000) 3000 hit' (by omega) (by omega)
    obtain ⟨u4, e4⟩ := d2_start 2200 2500 500 (-2200) (-3800) 0 2200 u3 (by omega) (by omega)
    obtain ⟨u5, e5⟩ := tailD_eq (3000 * 1073741824) (2200 * 1073741824) (partI x 0) u2
    obtain ⟨u6, e6⟩ := tailD_eq (3000 * 1073741824) (2200 * 1073741824) (partI x 0) u4
    refine ⟨tailV (3000 * 1073741824) (2200 * 1073741824) (partI x 0), u5, u6, ?_, ?_⟩
    · rw [decl_p0 x z hit G h, e1, Option.bind_some, e2, Option.bind_some]; exact e5
    · rw [decl_n0 x z hit' G' h, e3, Option.bind_some, e4, Option.bind_some]; exact e6
  · obtain ⟨u1, e1⟩ := d2_end 2200 2500 500 (-2200) (-3800) 0 2200 hit (by omega) (by omega)
    obtain ⟨u2, e2⟩ := d2_end 950 900 (-1400) (-500) (-300) 100 950 u1 (by omega) (by omega)
    obtain ⟨u3, e3⟩ := d2_start 2200 2500 500 (-2200) (-3800) 0 2200 hit' (by omega) (by omega)
    obtain ⟨u4, e4⟩ := d2_start 950 900 (-1400) (-500) (-300) 100 950 u3 (by omega) (by omega)
    obtain ⟨u5, e5⟩ := tailD_eq (2200 * 1073741824) (950 * 1073741824) (partI x 1) u2
    obtain ⟨u6, e6⟩ := tailD_eq (2200 * 1073741824) (950 * 1073741824) (partI x 1) u4
    refine ⟨tailV (2200 * 1073741824) (950 * 1073741824) (partI x 1), u5, u6, ?_, ?_⟩
    · rw [decl_p1 x z hit G h, e1, Option.bind_some, e2, Option.bind_some]; exact e5
    · rw [decl_n1 x z hit' G' h, e3, Option.bind_some, e4, Option.bind_some]; exact e6
  · obtain ⟨u1, e1⟩ := d2_end 950 900 (-1400) (-500) (-300) 100 950 hit (by omega) (by omega)
    obtain ⟨u2, e2⟩ := d2_end 500 1500 (-1700) 100 700 (-800) 500 u1 (by omega) (by omega)
    obtain ⟨u3, e3⟩ := d2_start 950 900 (-1400) (-500) (-300) 100 950 hit' (by omega) (by omega)
    obtain ⟨u4, e4⟩ := d2_start 500 1500 (-1700) 100 700 (-800) 500 u3 (by omega) (by omega)
    obtain ⟨u5, e5⟩ := tailD_eq (950 * 1073741824) (500 * 1073741824) (partI x 2) u2
    obtain ⟨u6, e6⟩ := tailD_eq (950 * 1073741824) (500 * 1073741824) (partI x 2) u4
    refine ⟨tailV (950 * 1073741824) (500 * 1073741824) (partI x 2), u5, u6, ?_, ?_⟩
    · rw [decl_p2 x z hit G h, e1, Option.bind_some, e2, Option.bind_some]; exact e5
    · rw [decl_n2 x z hit' G' h, e3, Option.bind_some, e4, Option.bind_some]; exact e6
  · obtain ⟨u1, e1⟩ := d2_end 500 1500 (-1700) 100 700 (-800) 500 hit (by omega) (by omega)
    obtain ⟨u2, e2⟩ := d2_end 1000 4000 (-3000) 500 3500 (-1200) 1000 u1 (by omega) (by omega)
    obtain ⟨u3, e3⟩ := d2_start 500 1500 (-1700) 100 700 (-800) 500 hit' (by omega) (by omega)
    obtain ⟨u4, e4⟩ := d2_start 1000 4000 (-3000) 500 3500 (-1200) 1000 u3 (by omega) (by omega)
    obtain ⟨u5, e5⟩ := tailD_eq (500 * 1073741824) (1000 * 1073741824) (partI x 3) u2
    obtain ⟨u6, e6⟩ := tailD_eq (500 * 1073741824) (1000 * 1073741824) (partI x 3) u4
    refine ⟨tailV (500 * 1073741824) (1000 * 1073741824) (partI x 3), u5, u6, ?_, ?_⟩
    · rw [decl_p3 x z hit G h, e1, Option.bind_some, e2, Option.bind_some]; exact e5
    · rw [decl_n3 x z hit' G' h, e3, Option.bind_some, e4, Option.bind_some]; exact e6
theorem earthRound_plain (x0 x1 x2 x3 x4 : Int) : f_astrolabelaw8_EarthRound x0 x1 x2 x3 x4 = some true := by
  unfold f_astrolabelaw8_EarthRound K_astrolabelaw8_EarthRound
  have aw : f_astrolabelaw8_awake = some true := by kernel_rfl
  rw [aw, Option.bind_some, Bool.not_true, cond_false]
  obtain ⟨r, hr⟩ := t_new x0 x1 x2
  rw [hr, Option.bind_some]
  rcases new_sh x0 x1 x2 r hr with rfl | ⟨F, n, e, rfl⟩
  · rfl
  simp only [cond_false, Option.bind_some]
  obtain ⟨g, hg⟩ := t_good x3 1800000000 x4
  rw [hg, Option.bind_some]
  cases g with
  | false => rfl
  | true =>
    have G := good_p hg
    have G' : GoodP x3 (-1800000000) x4 := by
      obtain ⟨g1, g2, g3, g4, g5, g6⟩ := G
      exact ⟨g1, g2, by omega, by omega, g5, g6⟩
    obtain ⟨f1, f2, f3, f4, f5, f6⟩ := F
    rw [Bool.not_true, cond_false]
    obtain ⟨v, u, u', e1, _⟩ := decl_ends x3 x4 false false G
    obtain ⟨v', w, u'', e2, e3⟩ := decl_ends x3 x4 false u G
    rw [e2] at e1
    cases e1
    rw [e2, Option.bind_some, e3, Option.bind_some]
    obtain ⟨a, ha⟩ := to_eq x3 1800000000 x4 x0 x1 x2 n e u'' G f3 f4
    simp only [ha, Option.bind_some]
    obtain ⟨b, hb⟩ := to_eq x3 (-1800000000) x4 x0 x1 x2 n e a G' f3 f4
    rw [hb, Option.bind_some, red_ends x1 f3 f4]
    simp
theorem earthRound_ev (f : (Int) → (Int) → (Int) → (Int) → (Int) → Option Bool) (x0_0 : Int) (x0_1 : Int) (x0_2 : Int) (x1_0 : Int) (x2_0 : Int) : F_astrolabelaw8_EarthRound f [.r (.agg [.c (.f (.i .i64 x0_0)), .c (.f (.i .i64 x0_1)), .c (.f (.i .i64 x0_2))]), .r (.c (.f (.i .i64 x1_0))), .r (.c (.f (.i .i64 x2_0)))] [] = .opt (f x0_0 x0_1 x0_2 x1_0 x2_0) fun d => .leaf ⟨.r (.c (.f (.b d))), [], []⟩ := by kernel_rfl
theorem earthRound_trues : Trues (F_astrolabelaw8_EarthRound f_astrolabelaw8_EarthRound) [.flat true [.c (.i .i64), .c (.i .i64), .c (.i .i64)], .flat false [.c (.i .i64)], .flat false [.c (.i .i64)]] := fun ds h => by
  obtain ⟨_, _, rfl, q0_0, g0⟩ := fit_flat h
  obtain ⟨x0_0, _, rfl, r0_0, q0_1⟩ := f1_i q0_0
  obtain ⟨x0_1, _, rfl, r0_1, q0_2⟩ := f1_i q0_1
  obtain ⟨x0_2, _, rfl, r0_2, q0_3⟩ := f1_i q0_2
  obtain rfl := f1_nil q0_3
  obtain ⟨_, _, rfl, q1_0, g1⟩ := fit_flat g0
  obtain ⟨x1_0, _, rfl, r1_0, q1_1⟩ := f1_i q1_0
  obtain rfl := f1_nil q1_1
  obtain ⟨_, _, rfl, q2_0, g2⟩ := fit_flat g1
  obtain ⟨x2_0, _, rfl, r2_0, q2_1⟩ := f1_i q2_0
  obtain rfl := f1_nil q2_1
  obtain rfl := fit_nil g2
  refine ⟨[], (congrArg T.eval (earthRound_ev f_astrolabelaw8_EarthRound x0_0 x0_1 x0_2 x1_0 x2_0)).trans ?_⟩
  rw [earthRound_plain x0_0 x0_1 x0_2 x1_0 x2_0]
  rfl
set_option maxRecDepth 100000 in
theorem earthRound_lifted (os : Os) (started : os.Started) (H : Type) (enc : TypeId × Value → H) :
    ReturnsInHanded {} Try.checked os 12 .any (Rows.earthRoundSpec.pre6 enc Try.prog Try.f12 Rows.earthRoundRow.domain false) (Rows.earthRoundSpec.post enc Try.prog Try.f12 false true false false) :=
  law_lift (C := Try.checked) (tb := Try.f12.resultTypes.getD 0 0) own started (by kernel_rfl) Try.func12 laid (by kernel_rfl) (by kernel_rfl) (by kernel_rfl) rfl
    (fun ds h => by
      have h : ds.length = 3 := h.trans (by kernel_rfl)
      match ds, h with
      | [_, _, _], _ => rfl)
    (ChangeSpec.witness6 (enc := enc) (C := Try.checked) false ⟨#[], #[.agg #[.int .i64 0, .int .i64 0, .int .i64 0], .int .i64 0, .int .i64 0], []⟩ 8 (by kernel_rfl) (by kernel_rfl) (by kernel_rfl) (by kernel_rfl))
    (fun W base args ds ps _ hval ht hz _ _ => prm_calls (pr := [.flat true [.c (.i .i64), .c (.i .i64), .c (.i .i64)], .flat false [.c (.i .i64)], .flat false [.c (.i .i64)]]) s_astrolabelaw8_EarthRound (by kernel_rfl) (ts := Try.f12.params.toList) (by kernel_rfl) (by kernel_rfl) earthRound_trues hval ht hz)
theorem earthRound_over : Rows.earthRoundRow.holds Try.pinned (OpenSpec.ofChange Rows.earthRoundSpec) :=
  OpenClaim.holds_of_wide 12 Try.f12 rfl rfl rfl rfl rfl rfl rfl ⟨rfl, rfl, rfl, rfl, rfl⟩ rfl rfl rfl rfl rfl (by kernel_rfl) Try.func12 (by kernel_rfl)
    (of_decide_eq_true (by kernel_rfl)) (by unfold Func.isWrapper; first | (rw [if_pos (by decide +kernel)]; kernel_rfl) | (rw [if_neg (by decide +kernel)]; exact ⟨rfl, rfl⟩))
    (fun os started H enc _ => earthRound_lifted os started H enc)
/-- the statement -/
theorem earthRound_proved : Rows.EarthRoundSaid := earthRound_over
#print axioms earthRound_proved
end Go.Proofs.Ytcalippagaaikaa
