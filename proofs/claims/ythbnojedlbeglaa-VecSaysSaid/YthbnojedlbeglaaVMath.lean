/-
  Plain arithmetic about rounded products, roots, and inner products.
-/
import Derived.Test.YthbnojedlbeglaaRTB
import Derived.Test.YthbnojedlbeglaaWV
set_option maxRecDepth 100000
set_option maxHeartbeats 4000000
set_option linter.unusedVariables false
set_option linter.unusedSimpArgs false
namespace Go.Proofs.Ythbnojedlbeglaa
open Go.Ab
theorem rnd30 (v : Int) : -536870912 ≤ rnd v 30 * 1073741824 - v ∧ rnd v 30 * 1073741824 - v ≤ 536870912 := by
  unfold rnd half
  rw [if_neg (by omega : ¬ (30 : Nat) = 0), show (2 : Int) ^ (30 - 1) = 536870912 from rfl, show (2 : Int) ^ 30 = 1073741824 from rfl]
  split <;> omega
theorem rnd_neg (v : Int) (s : Nat) : rnd (-v) s = -rnd v s := by
  unfold rnd
  by_cases a : v < 0
  · rw [if_neg (by omega), if_pos a, Int.neg_neg]
  · by_cases b : v = 0
    · subst b
      have h0 : (0:Int) ≤ half s := by
        unfold half; split
        · omega
        · exact Int.le_of_lt (Int.pow_pos (by decide))
      simp only [Int.neg_zero, Int.lt_irrefl, if_false, Int.zero_add]
      have : half s / 2 ^ s = 0 := by
        refine Int.ediv_eq_zero_of_lt h0 ?_
        unfold half
        split
        · exact Int.pow_pos (by decide)
        · rename_i c
          have e : (2 : Int) ^ s = 2 ^ (s - 1) * 2 := by rw [← Int.pow_succ]; congr 1; omega
          have p : (0 : Int) < 2 ^ (s - 1) := Int.pow_pos (by decide)
          omega
      omega
    · rw [if_pos (by omega), if_neg a, Int.neg_neg]
/-- a product within bounds -/
theorem mul_abs {x y X Y : Int} (hx : -X ≤ x ∧ x ≤ X) (hy : -Y ≤ y ∧ y ≤ Y) : -(X * Y) ≤ x * y ∧ x * y ≤ X * Y := by
  have h1 := mul_nn (a := X - x) (b := Y + y) (by omega) (by omega)
  have h2 := mul_nn (a := X + x) (b := Y - y) (by omega) (by omega)
  have h3 := mul_nn (a := X + x) (b := Y + y) (by omega) (by omega)
  have h4 := mul_nn (a := X - x) (b := Y - y) (by omega) (by omega)
  have e1 : (X - x) * (Y + y) = X * Y + X * y - x * Y - x * y := by grind
  have e2 : (X + x) * (Y - y) = X * Y - X * y + x * Y - x * y := by grind
  have e3 : (X + x) * (Y + y) = X * Y + X * y + x * Y + x * y := by grind
  have e4 : (X - x) * (Y - y) = X * Y - X * y - x * Y + x * y := by grind
  omega
theorem sq_nn (x : Int) : 0 ≤ x * x := by
  rcases Int.le_total 0 x with h | h
  · exact mul_nn h h
  · have := mul_nn (a := -x) (b := -x) (by omega) (by omega)
    rw [Int.neg_mul_neg] at this
    exact this
theorem cauchy3 (a b c x y z : Int) : (a * x + b * y + c * z) * (a * x + b * y + c * z) ≤ (a * a + b * b + c * c) * (x * x + y * y + z * z) := by
  have h1 := sq_nn (a * y - b * x)
  have h2 := sq_nn (a * z - c * x)
  have h3 := sq_nn (b * z - c * y)
  have e : (a * a + b * b + c * c) * (x * x + y * y + z * z) = (a * x + b * y + c * z) * (a * x + b * y + c * z) + (a * y - b * x) * (a * y - b * x) + (a * z - c * x) * (a * z - c * x) + (b * z - c * y) * (b * z - c * y) := by grind
  omega
/-- an inner product is within the product of bounds of the lengths -/
theorem cauchy_le {C A B X Y : Int} (h : C * C ≤ A * B) (hA : 0 ≤ A ∧ A ≤ X * X) (hB : 0 ≤ B ∧ B ≤ Y * Y) (hX : 0 ≤ X) (hY : 0 ≤ Y) : -(X * Y) ≤ C ∧ C ≤ X * Y := by
  have h1 : A * B ≤ (X * X) * (Y * Y) := Int.mul_le_mul hA.2 hB.2 hB.1 (sq_nn X)
  have h2 : (X * X) * (Y * Y) = (X * Y) * (X * Y) := by grind
  have p := mul_nn hX hY
  constructor
  · rcases Int.le_total 0 C with c | c
    · omega
    · have := sq_le (a := -C) (b := X * Y) (by omega) p (by rw [Int.neg_mul_neg]; omega)
      omega
  · rcases Int.le_total 0 C with c | c
    · exact sq_le c p (by omega)
    · omega
theorem isR_lt {r V : Int} (h : isR r V) : V < (r + 1) * (r + 1) := by
  obtain ⟨h0, h1, h2⟩ := h
  have : (r + 1) * (r + 1) = r * r + 2 * r + 1 := by grind
  omega
theorem isR_sides {n m s A B C : Int} (hA : 0 ≤ A) (hB : 0 ≤ B) (hn : isR n A) (hm : isR m B) (hs : isR s (A + B + 2 * C)) (hc : C * C ≤ A * B) : s ≤ n + m + 2 := by
  have a := isR_lt hn
  have b := isR_lt hm
  obtain ⟨n0, n1, n2⟩ := hn
  obtain ⟨m0, m1, m2⟩ := hm
  obtain ⟨s0, s1, s2⟩ := hs
  have c := (cauchy_le hc ⟨hA, Int.le_of_lt a⟩ ⟨hB, Int.le_of_lt b⟩ (by omega) (by omega)).2
  rcases Int.lt_or_le (n + m + 2) s with h | h
  · exfalso
    have p := mul_nn (a := s - (n + m + 3)) (b := s + (n + m + 2)) (by omega) (by omega)
    have e : (s - (n + m + 3)) * (s + (n + m + 2)) = s * s - s - (n * n + m * m + 2 * (n * m) + 5 * n + 5 * m + 6) := by grind
    have e2 : (n + 1) * (m + 1) = n * m + n + m + 1 := by grind
    have q := mul_nn n0 m0
    omega
  · exact h
theorem scale_up {t p n k f A T c E : Int} (hA : 0 ≤ A) (hE : 0 ≤ E) (hn : isR n A) (ht : isR t T) (hk : 0 ≤ k ∧ k ≤ 17179869184) (hf : -536870912 ≤ f ∧ f ≤ 536870912) (hp : p * 1073741824 - n * k = f)
    (hE2 : E ≤ 1073741824 * 1073741824) (hc : c * c ≤ A * E) (hT : T * (1073741824 * 1073741824) = k * k * A + 2 * (k * c) + E) : t ≤ p + 20 := by
  have a := isR_lt hn
  obtain ⟨n0, n1, n2⟩ := hn
  obtain ⟨t0, t1, t2⟩ := ht
  have b := (cauchy_le hc ⟨hA, Int.le_of_lt a⟩ ⟨hE, hE2⟩ (by omega) (by omega)).2
  have h1 : k * k * A ≤ k * k * ((n + 1) * (n + 1)) := Int.mul_le_mul_of_nonneg_left (by omega) (sq_nn k)
  have h2 : k * c ≤ k * ((n + 1) * 1073741824) := Int.mul_le_mul_of_nonneg_left b hk.1
  have e1 : (k * (n + 1) + 1073741824) * (k * (n + 1) + 1073741824) = k * k * ((n + 1) * (n + 1)) + 2 * (k * ((n + 1) * 1073741824)) + 1073741824 * 1073741824 := by grind
  have e2 : k * (n + 1) = n * k + k := by grind
  have h3 : 0 ≤ n * k := mul_nn n0 hk.1
  have h4 : k * (n + 1) + 1073741824 ≤ 1073741824 * (p + 18) := by omega
  have h5 : (k * (n + 1) + 1073741824) * (k * (n + 1) + 1073741824) ≤ (1073741824 * (p + 18)) * (1073741824 * (p + 18)) := Int.mul_le_mul h4 h4 (by omega) (by omega)
  have e3 : (1073741824 * (p + 18)) * (1073741824 * (p + 18)) = (p + 18) * (p + 18) * (1073741824 * 1073741824) := by grind
  have h6 : T ≤ (p + 18) * (p + 18) := by omega
  rcases Int.lt_or_le (p + 20) t with h | h
  · exfalso
    have p0 : 0 ≤ p + 18 := by omega
    have q := mul_nn (a := t - 1 - (p + 18)) (b := t - 1 + (p + 18)) (by omega) (by omega)
    have e : (t - 1 - (p + 18)) * (t - 1 + (p + 18)) = t * t - 2 * t + 1 - (p + 18) * (p + 18) := by grind
    omega
  · exact h
theorem scale_lo {t p n k f A T c E : Int} (hA : 0 ≤ A) (hE : 0 ≤ E) (hT0 : 0 ≤ T) (hn : isR n A) (ht : isR t T) (hk : 0 ≤ k ∧ k ≤ 17179869184) (hf : -536870912 ≤ f ∧ f ≤ 536870912) (hp : p * 1073741824 - n * k = f)
    (hE2 : E ≤ 1073741824 * 1073741824) (hc : c * c ≤ T * E) (hT : k * k * A = T * (1073741824 * 1073741824) - 2 * (1073741824 * c) + E) : p - 20 ≤ t := by
  have a := isR_lt ht
  obtain ⟨n0, n1, n2⟩ := hn
  obtain ⟨t0, t1, t2⟩ := ht
  rcases n2 with n2 | n2
  · subst n2; omega
  have b := (cauchy_le hc ⟨hT0, Int.le_of_lt a⟩ ⟨hE, hE2⟩ (by omega) (by omega)).1
  have e1 : (1073741824 * (t + 2)) * (1073741824 * (t + 2)) = (t + 1) * (t + 1) * (1073741824 * 1073741824) + 2 * (1073741824 * ((t + 1) * 1073741824)) + 1073741824 * 1073741824 := by grind
  have h1 : k * k * A ≤ (1073741824 * (t + 2)) * (1073741824 * (t + 2)) := by
    have : T * (1073741824 * 1073741824) ≤ (t + 1) * (t + 1) * (1073741824 * 1073741824) := by omega
    omega
  have h2 : (n - 1) * (n - 1) ≤ A := by
    have : (n - 1) * (n - 1) = n * n - 2 * n + 1 := by grind
    have q : n ≠ 0 ∨ n = 0 := by omega
    rcases Int.lt_or_le 0 n with c1 | c1
    · omega
    · have : n = 0 := by omega
      subst this
      exfalso; omega
  have hn1 : 1 ≤ n := by
    rcases Int.lt_or_le 0 n with c1 | c1
    · omega
    · have : n = 0 := by omega
      subst this
      exfalso; omega
  have h3 : k * k * ((n - 1) * (n - 1)) ≤ k * k * A := Int.mul_le_mul_of_nonneg_left h2 (sq_nn k)
  have e2 : k * k * ((n - 1) * (n - 1)) = (k * (n - 1)) * (k * (n - 1)) := by grind
  have h4 := sq_le (a := k * (n - 1)) (b := 1073741824 * (t + 2)) (mul_nn hk.1 (by omega)) (by omega) (by omega)
  have e3 : k * (n - 1) = n * k - k := by grind
  omega
end Go.Proofs.Ythbnojedlbeglaa
