/-
  Chapter 8: the frame's two lengths lie within bounds; To does not saturate.
-/
import Derived.Test.YtcalippagaaikaaE7
set_option maxRecDepth 100000
set_option maxHeartbeats 4000000
set_option linter.unusedVariables false
set_option linter.unusedSimpArgs false
namespace Go.Proofs.Ytcalippagaaikaa
open Go.Ab
theorem new1_eq (a b : Int) (hit : Bool) : ∃ u, f_earth_New_1 a b hit = some (sat (rnd (sat a * sat b) 30), u) := by
  unfold f_earth_New_1 K_earth_New_1
  have m : f___fx_Acc__Mul a b 30 hit = _ := acc_mul a b 30 hit (by omega)
  rw [m, Option.bind_some]
  exact ⟨_, rfl⟩
theorem div30_eq (a b : Int) (hit : Bool) (nz : sat b ≠ 0) : ∃ u, f___fx_Acc__Div a b 30 hit = some (sat (rdq (sat a * 1073741824) (sat b)), u) := by
  have m : f___fx_Acc__Div a b 30 hit = _ := acc_div a b 30 hit (by omega) nz
  exact ⟨_, m⟩
theorem muldiv_eq (a b d : Int) (hit : Bool) (nz : sat d ≠ 0) : ∃ u, f___fx_Acc__MulDiv a b d hit = some (sat (rdq (sat a * sat b) (sat d)), u) := ⟨_, acc_muldiv a b d hit nz⟩
theorem new_bd (a b c : Int) : Post (fun r => r = Sum.inl () ∨ (GoodP a b c ∧ ∃ n e, r = Sum.inr (a, b, c, n, e) ∧ 0 ≤ n ∧ n ≤ 13000000000 ∧ -13000000000 ≤ e ∧ e ≤ 13000000000)) (f_earth_New a b c) := by
  unfold f_earth_New K_earth_New
  obtain ⟨g, hg⟩ := t_good a b c
  rw [hg, Option.bind_some]
  cases g with
  | false => exact post_some (Or.inl rfl)
  | true =>
    have G := good_p hg
    rw [Bool.not_true, cond_false]
    refine post_cond _ (post_some (Or.inl rfl)) (post_cond _ (post_some (Or.inl rfl)) ?_)
    refine post_bind fun d => ?_
    obtain ⟨⟨s, us⟩, hs⟩ := t_sin d.1 d.2
    have bs : Unit1 s := sin_bd _ _ _ hs
    rw [hs, Option.bind_some]
    obtain ⟨⟨k, uk⟩, hk⟩ := t_cos d.1 us
    have bk : Unit1 k := cos_bd _ _ _ hk
    rw [hk, Option.bind_some]
    unfold Unit1 at bs bk
    simp only
    -- the sine's square
    obtain ⟨u1, h1⟩ := new1_eq s s uk
    have ss : sat s = s := satI (by omega)
    rw [h1, Option.bind_some, ss]
    simp only
    have m1 := mulB s s 1073741824 1073741824 bs.1 bs.2 bs.1 bs.2
    have m1n : 0 ≤ s * s := by
      rcases Int.lt_or_le s 0 with z | z
      · have := Int.mul_nonneg (show 0 ≤ -s by omega) (show 0 ≤ -s by omega)
        rwa [Int.neg_mul_neg] at this
      · exact Int.mul_nonneg z z
    have b1 := rnd30_bd (s * s) 1073741824 m1.1 m1.2
    have b1n := rnd30_lo (s * s) 0 (by omega) (by omega)
    generalize rnd (s * s) 30 = p at b1 b1n
    rw [satI (x := p) (by omega)]
    -- times e2
    obtain ⟨u2, h2⟩ := new1_eq 7188036 p u1
    rw [h2, Option.bind_some, show sat 7188036 = 7188036 from rfl, satI (x := p) (by omega)]
    simp only
    have b2 := rnd30_bd (7188036 * p) 7188036 (by omega) (by omega)
    have b2n := rnd30_lo (7188036 * p) 0 (by omega) (by omega)
    generalize rnd (7188036 * p) 30 = t at b2 b2n
    rw [satI (x := t) (by omega), wrap_i64 (n := 1073741824 - t) (by omega) (by omega)]
    generalize hq : (1073741824 : Int) - t = q
    -- the root
    obtain ⟨w, u3, hw, h3⟩ := sqrt_eq q u2 (by omega) (by omega)
    have bw := isR_bd w q hw (by omega) (by omega)
    rw [h3, Option.bind_some, satI (x := w) (by omega)]
    simp only
    -- across
    have sw : sat w = w := satI (by omega)
    obtain ⟨u4, h4⟩ := div30_eq 6531212288 w u3 (by omega)
    rw [h4, Option.bind_some, show sat 6531212288 = 6531212288 from rfl, sw]
    simp only
    have b4 := rdq_bd (6531212288 * 1073741824) w 6600000000 (by omega) (by omega) (by omega)
    have b4n := rdq_nn (6531212288 * 1073741824) w (by omega) (by omega)
    generalize rdq (6531212288 * 1073741824) w = e at b4 b4n
    rw [satI (x := e) (by omega)]
    -- along
    obtain ⟨u5, h5⟩ := new1_eq 6531212288 1066553788 u4
    rw [h5, Option.bind_some, show sat 6531212288 = 6531212288 from rfl, show sat 1066553788 = 1066553788 from rfl]
    simp only
    have b5 := rnd30_bd (6531212288 * 1066553788) 6531212288 (by omega) (by omega)
    have b5n := rnd30_lo (6531212288 * 1066553788) 0 (by omega) (by omega)
    generalize rnd (6531212288 * 1066553788) 30 = y at b5 b5n
    rw [satI (x := y) (by omega)]
    obtain ⟨u6, h6⟩ := new1_eq q w u5
    rw [h6, Option.bind_some, satI (x := q) (by omega), sw]
    simp only
    have m6 := mulB q w 1073741824 1073741824 (by omega) (by omega) (by omega) (by omega)
    have m6n : 1066553788 * 1066553788 ≤ q * w := by
      have x1 := Int.mul_nonneg (show 0 ≤ q - 1066553788 by omega) (show 0 ≤ w by omega)
      have x2 : (q - 1066553788) * w = q * w - 1066553788 * w := by grind
      omega
    have b6 := rnd30_bd (q * w) 1073741824 m6.1 m6.2
    have b6n := rnd30_lo (q * w) 1059000000 (by omega) (by omega)
    generalize rnd (q * w) 30 = z at b6 b6n
    rw [satI (x := z) (by omega)]
    have sz : sat z = z := satI (by omega)
    obtain ⟨u7, h7⟩ := div30_eq y z u6 (by omega)
    rw [h7, Option.bind_some, satI (x := y) (by omega), sz]
    simp only
    have b7 := rdq_bd (y * 1073741824) z 6700000000 (by omega) (by omega) (by omega)
    have b7n := rdq_nn (y * 1073741824) z (by omega) (by omega)
    generalize rdq (y * 1073741824) z = o at b7 b7n
    rw [satI (x := o) (by omega)]
    obtain ⟨u8, h8⟩ := muldiv_eq o 3373259426 1800000000 u7 (by decide)
    rw [h8, Option.bind_some, satI (x := o) (by omega), show sat 3373259426 = 3373259426 from rfl, show sat 1800000000 = 1800000000 from rfl]
    simp only
    have b8 := rdq_bd (o * 3373259426) 1800000000 13000000000 (by omega) (by omega) (by omega)
    have b8n := rdq_nn (o * 3373259426) 1800000000 (by omega) (by omega)
    generalize rdq (o * 3373259426) 1800000000 = no at b8 b8n
    rw [satI (x := no) (by omega)]
    obtain ⟨u9, h9⟩ := new1_eq e k u8
    rw [h9, Option.bind_some, satI (x := e) (by omega), satI (x := k) (by omega)]
    simp only
    have m9 := mulB e k 6600000000 1073741824 (by omega) (by omega) (by omega) (by omega)
    have b9 := rnd30_bd (e * k) 6600000000 m9.1 m9.2
    generalize rnd (e * k) 30 = ek at b9
    rw [satI (x := ek) (by omega)]
    obtain ⟨u10, h10⟩ := muldiv_eq ek 3373259426 1800000000 u9 (by decide)
    rw [h10, Option.bind_some, satI (x := ek) (by omega), show sat 3373259426 = 3373259426 from rfl, show sat 1800000000 = 1800000000 from rfl]
    have b10 := rdq_bd (ek * 3373259426) 1800000000 13000000000 (by omega) (by omega) (by omega)
    generalize rdq (ek * 3373259426) 1800000000 = ea at b10
    refine post_some (Or.inr ⟨G, no, ea, ?_, b8n, b8.2, b10.1, b10.2⟩)
    rw [satI (x := ea) (by omega)]
end Go.Proofs.Ytcalippagaaikaa
