/-
  Helps for the laws of chapter 1.
-/
import Derived.Test.YtcalippagaaikaaG3
import Derived.Test.YtcalippagaaikaaBH
import Derived.Test.YtcalippagaaikaaWU
set_option maxRecDepth 100000
set_option maxHeartbeats 4000000
set_option linter.unusedVariables false
set_option linter.unusedSimpArgs false
namespace Go.Proofs.Ytcalippagaaikaa
open Go.Ab
theorem wide_awake : f_astrolabelaw1_awake = some true := by kernel_rfl
theorem vW_inj {h l h' l' : Int} (o : okW h l) (o' : okW h' l') (e : vW h l = vW h' l') : h = h' ∧ l = l' := by
  obtain ⟨a1, a2, a3, a4⟩ := o
  obtain ⟨b1, b2, b3, b4⟩ := o'
  simp only [vW] at e
  omega
theorem vW_bd {h l : Int} (o : okW h l) : -170141183460469231731687303715884105728 ≤ vW h l ∧ vW h l < 170141183460469231731687303715884105728 := by
  obtain ⟨a1, a2, a3, a4⟩ := o
  simp only [vW]; omega
theorem tdiv4 (x : Int) (h : IntKind.min .i64 ≤ x ∧ x ≤ IntKind.max .i64) : -2305843009213693952 ≤ IntKind.wrap .i64 (Int.tdiv x 4) ∧ IntKind.wrap .i64 (Int.tdiv x 4) ≤ 2305843009213693952 := by
  have h1 : -9223372036854775808 ≤ x ∧ x ≤ 9223372036854775807 := h
  have k : -2305843009213693952 ≤ Int.tdiv x 4 ∧ Int.tdiv x 4 ≤ 2305843009213693952 := by
    rcases Int.le_total 0 x with hx | hx
    · rw [Int.tdiv_eq_ediv_of_nonneg hx]; omega
    · have e : Int.tdiv x 4 = -(Int.tdiv (-x) 4) := by rw [Int.neg_tdiv, Int.neg_neg]
      rw [e, Int.tdiv_eq_ediv_of_nonneg (by omega)]; omega
  rw [wrap_i64 (by omega) (by omega)]; exact k
theorem mul_in {x y X Y : Int} (hx : -X ≤ x ∧ x ≤ X) (hy : -Y ≤ y ∧ y ≤ Y) : -(X * Y) ≤ x * y ∧ x * y ≤ X * Y := by
  have h1 := mul_nn (a := X - x) (b := Y + y) (by omega) (by omega)
  have h2 := mul_nn (a := X + x) (b := Y - y) (by omega) (by omega)
  have h3 := mul_nn (a := X + x) (b := Y + y) (by omega) (by omega)
  have h4 := mul_nn (a := X - x) (b := Y - y) (by omega) (by omega)
  have e1 : (X - x) * (Y + y) = X * Y + X * y - x * Y - x * y := by grind
  have e2 : (X + x) * (Y - y) = X * Y - X * y + x * Y - x * y := by grind
  have e3 : (X + x) * (Y + y) = X * Y + X * y + x * Y + x * y := by grind
  have e4 : (X - x) * (Y - y) = X * Y - X * y - x * Y + x * y := by grind
  omega
/-- what a rounding comes to, doubled -/
theorem rnd_near (v : Int) (s : Nat) : -(2 : Int) ^ s ≤ 2 * (rnd v s * 2 ^ s - v) ∧ 2 * (rnd v s * 2 ^ s - v) ≤ 2 ^ s := by
  have P0 := pow_pos' s
  have hh : 2 * half s ≤ 2 ^ s ∧ 0 ≤ half s ∧ (2 * half s = 2 ^ s ∨ (2 : Int) ^ s = 1) := by
    unfold half
    split
    · rename_i z; subst z
      have : (2 : Int) ^ 0 = 1 := rfl
      omega
    · rename_i z
      have e : (2 : Int) ^ s = 2 ^ (s - 1) * 2 := by rw [← Int.pow_succ]; congr 1; omega
      have := pow_pos' (s - 1)
      omega
  have key : ∀ u : Int, -(2 : Int) ^ s ≤ 2 * ((u + half s) / 2 ^ s * 2 ^ s - u) ∧ 2 * ((u + half s) / 2 ^ s * 2 ^ s - u) ≤ 2 ^ s := fun u => by
    have e1 := Int.ediv_mul_add_emod (u + half s) (2 ^ s)
    have e2 := Int.emod_nonneg (u + half s) (show (2 : Int) ^ s ≠ 0 by omega)
    have e3 := Int.emod_lt_of_pos (u + half s) P0
    omega
  unfold rnd
  split
  · have k := key (-v)
    rw [Int.neg_mul]
    omega
  · exact key v
theorem rnd_self (x : Int) (s : Nat) : rnd (x * 2 ^ s) s = x := by
  have k := rnd_near (x * 2 ^ s) s
  have P0 := pow_pos' s
  generalize rnd (x * 2 ^ s) s = r at *
  generalize (2 : Int) ^ s = P at *
  rcases Int.lt_trichotomy r x with c | c | c
  · exfalso
    have := Int.mul_le_mul_of_nonneg_right (show r + 1 ≤ x by omega) (Int.le_of_lt P0)
    rw [Int.add_mul] at this; omega
  · exact c
  · exfalso
    have := Int.mul_le_mul_of_nonneg_right (show x + 1 ≤ r by omega) (Int.le_of_lt P0)
    rw [Int.add_mul] at this; omega
theorem rnd_le (a : Int) (s : Nat) (B : Int) (hB : 0 ≤ B) (h : -B ≤ a ∧ a ≤ B) : -B ≤ rnd a s ∧ rnd a s ≤ B := by
  rcases Nat.eq_zero_or_pos s with z | z
  · subst z; rw [rnd_zero]; exact h
  · have k := rnd_near a s
    have P2 : (2 : Int) ≤ 2 ^ s := by
      have := pow_le_pow (m := 1) (n := s) z
      have e : (2 : Int) ^ 1 = 2 := rfl
      omega
    generalize rnd a s = r at *
    generalize (2 : Int) ^ s = P at *
    constructor
    · rcases Int.lt_or_le r (-B) with c | c
      · exfalso
        have q := mul_nn (a := -B - 1 - r) (b := P - 2) (by omega) (by omega)
        have e : (-B - 1 - r) * (P - 2) = -(B * P) - P - r * P + 2 * B + 2 + 2 * r := by grind
        have q2 := mul_nn (a := B) (b := P - 2) hB (by omega)
        have e2 : B * (P - 2) = B * P - 2 * B := by grind
        omega
      · exact c
    · rcases Int.lt_or_le B r with c | c
      · exfalso
        have q := mul_nn (a := r - B - 1) (b := P - 2) (by omega) (by omega)
        have e : (r - B - 1) * (P - 2) = r * P - B * P - P - 2 * r + 2 * B + 2 := by grind
        have q2 := mul_nn (a := B) (b := P - 2) hB (by omega)
        have e2 : B * (P - 2) = B * P - 2 * B := by grind
        omega
      · exact c
theorem rnd_twice (a : Int) (s t : Nat) : rnd (rnd a s) t - rnd a (s + t) ≤ 1 ∧ rnd a (s + t) - rnd (rnd a s) t ≤ 1 := by
  have k1 := rnd_near a s
  have k2 := rnd_near (rnd a s) t
  have k3 := rnd_near a (s + t)
  have P0 := pow_pos' s
  have Q0 := pow_pos' t
  have pe : (2 : Int) ^ (s + t) = 2 ^ s * 2 ^ t := Int.pow_add _ _ _
  rw [pe] at k3
  generalize rnd (rnd a s) t = d at *
  generalize rnd a (s + t) = e at *
  generalize rnd a s = c at *
  generalize (2 : Int) ^ s = P at *
  generalize (2 : Int) ^ t = Q at *
  have m1 : 2 * (d * (P * Q) - a) = P * (2 * (d * Q - c)) + 2 * (c * P - a) := by grind
  have m2 := Int.mul_le_mul_of_nonneg_left k2.1 (Int.le_of_lt P0)
  have m3 := Int.mul_le_mul_of_nonneg_left k2.2 (Int.le_of_lt P0)
  have m4 : P * -Q = -(P * Q) := Int.mul_neg _ _
  have m5 : P ≤ P * Q := by
    have := Int.mul_le_mul_of_nonneg_left (show 1 ≤ Q by omega) (Int.le_of_lt P0)
    omega
  have PQ : 0 < P * Q := Int.mul_pos P0 Q0
  constructor
  · rcases Int.lt_or_le 1 (d - e) with c1 | c1
    · exfalso
      have := Int.mul_le_mul_of_nonneg_right (show e + 2 ≤ d by omega) (Int.le_of_lt PQ)
      rw [Int.add_mul] at this; omega
    · exact c1
  · rcases Int.lt_or_le 1 (e - d) with c1 | c1
    · exfalso
      have := Int.mul_le_mul_of_nonneg_right (show d + 2 ≤ e by omega) (Int.le_of_lt PQ)
      rw [Int.add_mul] at this; omega
    · exact c1
end Go.Proofs.Ytcalippagaaikaa
