/-
  Numbers of 256 bits in eight parts (astrolaberef1) in plain arithmetic.
-/
import Derived.Test.YtcalippagaaikaaG1
import Derived.Test.YtcalippagaaikaaWYC
set_option maxRecDepth 100000
set_option maxHeartbeats 4000000
set_option linter.unusedVariables false
set_option linter.unusedSimpArgs false
namespace Go.Proofs.Ytcalippagaaikaa
open Go.Ab
theorem idx_in' {i n : Nat} (h : i < n) : inR (i : Int) n = true := by unfold inR; simp only [Bool.and_eq_true, decide_eq_true_eq]; omega
def val (p : Nat → Int) : Nat → Int
  | 0 => 0
  | n + 1 => val p n + p n * 4294967296 ^ n
theorem bpos (n : Nat) : (0 : Int) < 4294967296 ^ n := Int.pow_pos (by decide)
theorem bsucc (n : Nat) : (4294967296 : Int) ^ (n + 1) = 4294967296 ^ n * 4294967296 := Int.pow_succ _ _
def okN (p : Nat → Int) (n : Nat) : Prop := ∀ j, j < n → 0 ≤ p j ∧ p j < 4294967296
theorem val_bd {p : Nat → Int} {n : Nat} (h : okN p n) : 0 ≤ val p n ∧ val p n < 4294967296 ^ n := by
  induction n with
  | zero => exact ⟨Int.le_refl _, by rw [Int.pow_zero, val]; omega⟩
  | succ n ih =>
    have a := ih fun j hj => h j (by omega)
    have b := h n (by omega)
    have c := bpos n
    rw [val, bsucc]
    have d := Int.mul_le_mul_of_nonneg_right (show p n ≤ 4294967295 by omega) (Int.le_of_lt c)
    have e := Int.mul_nonneg b.1 (Int.le_of_lt c)
    omega
theorem val_congr {p q : Nat → Int} {n : Nat} (h : ∀ j, j < n → p j = q j) : val p n = val q n := by
  induction n with
  | zero => rfl
  | succ n ih => rw [val, val, ih fun j hj => h j (by omega), h n (by omega)]
/-- what stands above -/
theorem val_up {p : Nat → Int} {n : Nat} (h : okN p n) : ∀ j, j < n → ∃ t, 0 ≤ t ∧ val p n = val p j + 4294967296 ^ j * (p j + 4294967296 * t) := by
  induction n with
  | zero => intro j hj; omega
  | succ n ih =>
    intro j hj
    have b := h n (by omega)
    rcases Nat.lt_or_ge j n with c | c
    · obtain ⟨t, t0, e⟩ := ih (fun j hj => h j (by omega)) j c
      have pe : (4294967296 : Int) ^ n = 4294967296 ^ j * 4294967296 * 4294967296 ^ (n - j - 1) := by
        rw [← bsucc, ← Int.pow_add]; congr 1; omega
      refine ⟨t + p n * 4294967296 ^ (n - j - 1), ?_, ?_⟩
      · have := Int.mul_nonneg b.1 (Int.le_of_lt (bpos (n - j - 1)))
        omega
      · rw [val, e, pe]; grind
    · obtain rfl : j = n := by omega
      exact ⟨0, by omega, by rw [val]; grind⟩
theorem val_dig {p : Nat → Int} {n j : Nat} (h : okN p n) (hj : j < n) : val p n / 4294967296 ^ j % 4294967296 = p j := by
  obtain ⟨t, t0, e⟩ := val_up h j hj
  have a := val_bd (p := p) (n := j) fun i hi => h i (by omega)
  have b := h j hj
  rw [e, Int.add_mul_ediv_left _ _ (by have := bpos j; omega), Int.ediv_eq_zero_of_lt a.1 a.2, Int.zero_add]
  omega
/-- the parts of a size -/
def dig (v : Int) : Nat → Int := fun j => if j < 8 then v / 4294967296 ^ j % 4294967296 else 0
theorem dig_ok (v : Int) : okN (dig v) 8 := fun j hj => by
  unfold dig
  rw [if_pos hj]
  omega
theorem dig_hi (v : Int) {j : Nat} (hj : 8 ≤ j) : dig v j = 0 := by
  unfold dig
  rw [if_neg (by omega)]
theorem val_mod (v : Int) (h0 : 0 ≤ v) : ∀ n, n ≤ 8 → val (dig v) n = v % 4294967296 ^ n := by
  intro n
  induction n with
  | zero => intro _; rw [val, Int.pow_zero, Int.emod_one]
  | succ n ih =>
    intro hn
    rw [val, ih (by omega), bsucc]
    unfold dig
    rw [if_pos (by omega)]
    have c := bpos n
    have e1 := Int.mul_ediv_add_emod v (4294967296 ^ n)
    have e2 := Int.mul_ediv_add_emod (v / 4294967296 ^ n) 4294967296
    have e3 := Int.emod_nonneg v (show (4294967296 : Int) ^ n ≠ 0 by omega)
    have e4 := Int.emod_lt_of_pos v c
    have e5 : 0 ≤ v / 4294967296 ^ n % 4294967296 ∧ v / 4294967296 ^ n % 4294967296 < 4294967296 := by omega
    generalize v / 4294967296 ^ n % 4294967296 = d at *
    generalize v / 4294967296 ^ n / 4294967296 = q at *
    generalize v / 4294967296 ^ n = u at *
    generalize v % 4294967296 ^ n = m at *
    generalize (4294967296 : Int) ^ n = P at *
    have e6 : v = (m + d * P) + P * 4294967296 * q := by rw [← e1, ← e2]; grind
    have e7 : d * P ≤ 4294967295 * P := Int.mul_le_mul_of_nonneg_right (by omega) (by omega)
    have e8 := Int.mul_nonneg e5.1 (Int.le_of_lt c)
    rw [e6, Int.add_mul_emod_self_left, Int.emod_eq_of_lt (by omega) (by omega)]
theorem b8 : (4294967296 : Int) ^ 8 = 115792089237316195423570985008687907853269984665640564039457584007913129639936 := by decide
theorem val_self (v : Int) (h0 : 0 ≤ v) (h1 : v < 115792089237316195423570985008687907853269984665640564039457584007913129639936) : val (dig v) 8 = v := by
  rw [val_mod v h0 8 (by omega), b8, Int.emod_eq_of_lt h0 h1]
theorem dig_uniq {p : Nat → Int} {v : Int} (h : okN p 8) (hi : ∀ j, 8 ≤ j → p j = 0) (e : val p 8 = v) : p = dig v := by
  funext j
  unfold dig
  by_cases c : j < 8
  · rw [if_pos c, ← e, val_dig h c]
  · rw [if_neg c, hi j (by omega)]
theorem val_put {p : Nat → Int} {m n : Nat} (h : m < n) (v : Int) : val (fun j => bif Nat.beq j m then v else p j) n = val p n + (v - p m) * 4294967296 ^ m := by
  induction n with
  | zero => omega
  | succ n ih =>
    rw [val, val]
    rcases Nat.lt_or_ge m n with c | c
    · have ne : Nat.beq n m = false := by
        cases e : Nat.beq n m with
        | false => rfl
        | true => exact absurd (Nat.eq_of_beq_eq_true e) (by omega)
      rw [ih c]
      simp only [ne, cond_false]
      omega
    · obtain rfl : m = n := by omega
      simp only [Nat.beq_refl, cond_true]
      have e : val (fun j => bif Nat.beq j m then v else p j) m = val p m := val_congr fun j hj => by
        have ne : Nat.beq j m = false := by
          cases e : Nat.beq j m with
          | false => rfl
          | true => exact absurd (Nat.eq_of_beq_eq_true e) (by omega)
        simp only [ne, cond_false]
      rw [e]; grind
theorem val_none {p : Nat → Int} {n : Nat} (h : ∀ j, j < n → p j = 0) : val p n = 0 := by
  induction n with
  | zero => rfl
  | succ n ih => rw [val, ih fun j hj => h j (by omega), h n (by omega), Int.zero_mul]; rfl
/-- the greatest part in which two differ tells which is less -/
theorem val_lt {p q : Nat → Int} {n i : Nat} (hp : okN p n) (hq : okN q n) (hi : i < n) (e : ∀ j, i < j → j < n → p j = q j) (h : p i < q i) : val p n < val q n := by
  induction n with
  | zero => omega
  | succ n ih =>
    rcases Nat.lt_or_ge i n with c | c
    · have := ih (fun j hj => hp j (by omega)) (fun j hj => hq j (by omega)) c fun j h1 h2 => e j h1 (by omega)
      rw [val, val, e n c (by omega)]
      omega
    · obtain rfl : i = n := by omega
      have a := val_bd (p := p) (n := i) fun j hj => hp j (by omega)
      have b := val_bd (p := q) (n := i) fun j hj => hq j (by omega)
      have c := bpos i
      have d := Int.mul_le_mul_of_nonneg_right (show p i + 1 ≤ q i by omega) (Int.le_of_lt c)
      rw [val, val]
      rw [Int.add_mul] at d
      omega

theorem nbq {j m : Nat} (h : j ≠ m) : Nat.beq j m = false := by
  cases e : Nat.beq j m with
  | false => rfl
  | true => exact absurd (Nat.eq_of_beq_eq_true e) h
theorem pw8 (n : Nat) (h : n ≤ 8) : (4294967296 : Int) ^ n ≤ 115792089237316195423570985008687907853269984665640564039457584007913129639936 := by
  have h2 : (4294967296 : Nat) ^ n ≤ 4294967296 ^ 8 := Nat.pow_le_pow_right (by decide) h
  have h3 : ((4294967296 ^ n : Nat) : Int) ≤ ((4294967296 ^ 8 : Nat) : Int) := by exact_mod_cast h2
  have h4 : ((4294967296 ^ 8 : Nat) : Int) = 115792089237316195423570985008687907853269984665640564039457584007913129639936 := by decide
  rw [h4] at h3
  simpa using h3
theorem ix (n m : Nat) (h : n < m) : inR (n : Int) m = true := idx_in' h
theorem up1 {i : Nat} (h : i < 1000000) : IntKind.wrap .i64 ((i : Int) + 1) = ((i + 1 : Nat) : Int) := (wrap_i64 (by omega) (by omega)).trans (by omega)
theorem bl8 {n : Nat} (h : n < 8) : Nat.ble (0 + n * 1 + 1) 8 = true := Nat.ble_eq_true_of_le (by omega)
/-- put where the old part stood -/
theorem put_ok {p : Nat → Int} {m : Nat} {v : Int} (h : okN p 8) (v0 : 0 ≤ v) (v1 : v < 4294967296) : okN (fun j => bif Nat.beq j m then v else p j) 8 := fun j hj => by
  simp only
  by_cases c : j = m
  · subst c; rw [Nat.beq_refl, cond_true]; exact ⟨v0, v1⟩
  · rw [nbq c, cond_false]; exact h j hj
theorem put_hi {p : Nat → Int} {m : Nat} {v : Int} (hm : m < 8) (h : ∀ j, 8 ≤ j → p j = 0) : ∀ j, 8 ≤ j → (fun j => bif Nat.beq j m then v else p j) j = 0 := fun j hj => by
  simp only
  rw [nbq (show j ≠ m by omega), cond_false]; exact h j hj
theorem big_zero (v : Int) (h0 : 0 ≤ v) (h1 : v < 115792089237316195423570985008687907853269984665640564039457584007913129639936) : f_astrolaberef1_zero (dig v) = some (decide (v = 0)) := by
  unfold f_astrolaberef1_zero K_astrolaberef1_zero L_astrolaberef1_zero_0
  refine loopK_inv (fun t d => ∃ n : Nat, n + t = 8 ∧ (∀ j, j < n → dig v j = 0) ∧ d = ((n : Int), dig v)) ?_ 300 8 _ (by omega) ⟨0, by omega, (fun j hj => by omega), rfl⟩
  rintro t _ c ⟨n, hn, hz, rfl⟩ hc
  have vs := val_self v h0 h1
  rcases Nat.eq_zero_or_pos t with t0 | t0
  · obtain rfl : n = 8 := by omega
    have z : decide (((8 : Nat) : Int) < 8) = false := by decide
    simp only [S_astrolaberef1_zero_0, z, cond_false, Sum.elim_inr]
    rw [val_none hz] at vs
    rw [decide_eq_true vs.symm]
  · have z : decide ((n : Int) < 8) = true := decide_eq_true (by omega)
    simp only [S_astrolaberef1_zero_0, z, cond_true, ix n 8 (by omega), Int.toNat_natCast, up1 (show n < 1000000 by omega)]
    by_cases e : dig v n = 0
    · have e' : (dig v n != 0) = false := by rw [e]; rfl
      rw [e', cond_false]
      exact hc (t - 1) _ (by omega) ⟨n + 1, by omega, (fun j hj => by
        rcases Nat.lt_or_ge j n with q | q
        · exact hz j q
        · obtain rfl : j = n := by omega
          exact e), rfl⟩
    · have e' : (dig v n != 0) = true := by rw [bne_iff_ne]; exact e
      rw [e', cond_true, Sum.elim_inl]
      have ne : v ≠ 0 := fun h => by
        subst h
        apply e
        unfold dig
        split
        · rw [Int.zero_ediv]; rfl
        · rfl
      rw [decide_eq_false ne]
theorem big_made (n : Bool) (v : Int) (h0 : 0 ≤ v) (h1 : v < 115792089237316195423570985008687907853269984665640564039457584007913129639936) : f_astrolaberef1_made n (dig v) = some (n && !decide (v = 0), dig v) := by
  unfold f_astrolaberef1_made K_astrolaberef1_made
  cases n
  · rfl
  · rw [cond_true, big_zero v h0 h1, Option.bind_some]; rfl
theorem big_plus8 (x y : Int) (x0 : 0 ≤ x) (y0 : 0 ≤ y) (h : x + y < 115792089237316195423570985008687907853269984665640564039457584007913129639936) : f_astrolaberef1_plus (dig x) (dig y) = some (dig (x + y)) := by
  unfold f_astrolaberef1_plus K_astrolaberef1_plus L_astrolaberef1_plus_0
  refine loopK_inv (fun t d => ∃ (n : Nat) (c : Int) (p : Nat → Int), n + t = 8 ∧ okN p 8 ∧ (∀ j, 8 ≤ j → p j = 0) ∧ (∀ j, n ≤ j → p j = dig x j) ∧ 0 ≤ c ∧ c ≤ 1 ∧ val p n + c * 4294967296 ^ n = val (dig x) n + val (dig y) n ∧ d = (c, (n : Int), p, dig y, fun _ => 0)) ?_ 300 8 _ (by omega)
    ⟨0, 0, dig x, by omega, dig_ok x, (fun j hj => dig_hi x hj), (fun _ _ => rfl), by omega, by omega, by simp only [val]; omega, rfl⟩
  rintro t _ k ⟨n, c, p, hn, ok, hi, same, c0, c1, hv, rfl⟩ hc
  rcases Nat.eq_zero_or_pos t with t0 | t0
  · obtain rfl : n = 8 := by omega
    have z : decide (((8 : Nat) : Int) < 8) = false := by decide
    simp only [S_astrolaberef1_plus_0, z, cond_false]
    rw [val_self x x0 (by omega), val_self y y0 (by omega), b8] at hv
    have bd := val_bd ok
    rw [b8] at bd
    rw [dig_uniq ok hi (show val p 8 = x + y by omega)]
  · have z : decide ((n : Int) < 8) = true := decide_eq_true (by omega)
    have a := dig_ok x n (by omega)
    have b := dig_ok y n (by omega)
    have s := same n (Nat.le_refl n)
    have w1 : IntKind.wrap .u64 (IntKind.wrap .u64 (c + p n) + dig y n) = c + p n + dig y n := by rw [wrap_u64, wrap_u64]; omega
    have w2 := and_mask (c + p n + dig y n) (by omega) (by omega)
    have w3 : IntKind.wrap .u64 ((c + p n + dig y n) % 4294967296) = (c + p n + dig y n) % 4294967296 := by rw [wrap_u64]; omega
    simp only [S_astrolaberef1_plus_0, z, cond_true, ix n 8 (by omega), Int.toNat_natCast, up1 (show n < 1000000 by omega), bl8 (show n < 8 by omega), Bool.and_self, w1, w2, w3, fdiv_pos _ 4294967296 (show (0 : Int) ≤ 4294967296 by decide)]
    refine hc (t - 1) _ (by omega) ⟨n + 1, (c + p n + dig y n) / 4294967296, (fun j => bif Nat.beq j n then (c + p n + dig y n) % 4294967296 else p j), by omega, put_ok ok (by omega) (by omega), put_hi (by omega) hi, ?_, by omega, by omega, ?_, rfl⟩
    · intro j hj
      simp only
      rw [nbq (show j ≠ n by omega), cond_false]; exact same j (by omega)
    · rw [val, val, val]
      have e : val (fun j => bif Nat.beq j n then (c + p n + dig y n) % 4294967296 else p j) n = val p n := val_congr fun j hj => by
        rw [nbq (show j ≠ n by omega), cond_false]
      rw [e, Nat.beq_refl, cond_true, bsucc, ← s]
      generalize (4294967296 : Int) ^ n = P at *
      have q := Int.mul_ediv_add_emod (c + p n + dig y n) 4294967296
      generalize (c + p n + dig y n) % 4294967296 = d at *
      generalize (c + p n + dig y n) / 4294967296 = f at *
      have g : (4294967296 * f + d) * P = (c + p n + dig y n) * P := by rw [q]
      grind
theorem big_minus8 (x y : Int) (y0 : 0 ≤ y) (h : y ≤ x) (x1 : x < 115792089237316195423570985008687907853269984665640564039457584007913129639936) : f_astrolaberef1_minus (dig x) (dig y) = some (dig (x - y)) := by
  unfold f_astrolaberef1_minus K_astrolaberef1_minus L_astrolaberef1_minus_0
  refine loopK_inv (fun t d => ∃ (n : Nat) (c : Int) (p : Nat → Int), n + t = 8 ∧ okN p 8 ∧ (∀ j, 8 ≤ j → p j = 0) ∧ (∀ j, n ≤ j → p j = dig x j) ∧ 0 ≤ c ∧ c ≤ 1 ∧ val p n = val (dig x) n - val (dig y) n + c * 4294967296 ^ n ∧ d = (c, (n : Int), p, dig y, fun _ => 0)) ?_ 300 8 _ (by omega)
    ⟨0, 0, dig x, by omega, dig_ok x, (fun j hj => dig_hi x hj), (fun _ _ => rfl), by omega, by omega, by simp only [val]; omega, rfl⟩
  rintro t _ k ⟨n, c, p, hn, ok, hi, same, c0, c1, hv, rfl⟩ hc
  rcases Nat.eq_zero_or_pos t with t0 | t0
  · obtain rfl : n = 8 := by omega
    have z : decide (((8 : Nat) : Int) < 8) = false := by decide
    simp only [S_astrolaberef1_minus_0, z, cond_false]
    rw [val_self x (by omega) x1, val_self y y0 (by omega), b8] at hv
    have bd := val_bd ok
    rw [b8] at bd
    rw [dig_uniq ok hi (show val p 8 = x - y by omega)]
  · have z : decide ((n : Int) < 8) = true := decide_eq_true (by omega)
    have a := dig_ok x n (by omega)
    have b := dig_ok y n (by omega)
    have s := same n (Nat.le_refl n)
    have w1 : IntKind.wrap .u64 (IntKind.wrap .u64 (p n - dig y n) - c) = (p n - dig y n - c) % 18446744073709551616 := by rw [wrap_u64, wrap_u64]; omega
    have w2 := and_mask ((p n - dig y n - c) % 18446744073709551616) (by omega) (by omega)
    have w3 : IntKind.wrap .u64 ((p n - dig y n - c) % 18446744073709551616 % 4294967296) = (p n - dig y n - c) % 4294967296 := by rw [wrap_u64]; omega
    simp only [S_astrolaberef1_minus_0, z, cond_true, ix n 8 (by omega), Int.toNat_natCast, up1 (show n < 1000000 by omega), bl8 (show n < 8 by omega), Bool.and_self, w1, w2, w3, fdiv_pos _ 9223372036854775808 (show (0 : Int) ≤ 9223372036854775808 by decide)]
    refine hc (t - 1) _ (by omega) ⟨n + 1, (p n - dig y n - c) % 18446744073709551616 / 9223372036854775808, (fun j => bif Nat.beq j n then (p n - dig y n - c) % 4294967296 else p j), by omega, put_ok ok (by omega) (by omega), put_hi (by omega) hi, ?_, by omega, by omega, ?_, rfl⟩
    · intro j hj
      simp only
      rw [nbq (show j ≠ n by omega), cond_false]; exact same j (by omega)
    · rw [val, val, val]
      have e : val (fun j => bif Nat.beq j n then (p n - dig y n - c) % 4294967296 else p j) n = val p n := val_congr fun j hj => by
        rw [nbq (show j ≠ n by omega), cond_false]
      rw [e, Nat.beq_refl, cond_true, bsucc, ← s]
      generalize (4294967296 : Int) ^ n = P at *
      have q : (p n - dig y n - c) % 18446744073709551616 / 9223372036854775808 * 4294967296 = (p n - dig y n - c) % 4294967296 - (p n - dig y n - c) := by omega
      generalize (p n - dig y n - c) % 4294967296 = d at *
      generalize (p n - dig y n - c) % 18446744073709551616 / 9223372036854775808 = f at *
      have g : f * 4294967296 * P = (d - (p n - dig y n - c)) * P := by rw [q]
      grind
theorem big_less8 (x y : Int) (x0 : 0 ≤ x) (x1 : x < 115792089237316195423570985008687907853269984665640564039457584007913129639936) (y0 : 0 ≤ y) (y1 : y < 115792089237316195423570985008687907853269984665640564039457584007913129639936) : f_astrolaberef1_less (dig x) (dig y) = some (decide (x < y)) := by
  unfold f_astrolaberef1_less K_astrolaberef1_less L_astrolaberef1_less_0
  have vx := val_self x x0 x1
  have vy := val_self y y0 y1
  refine loopK_inv (fun t d => ∃ (n : Nat), n = t ∧ n ≤ 8 ∧ (∀ j, n ≤ j → j < 8 → dig x j = dig y j) ∧ d = ((n : Int) - 1, dig x, dig y)) ?_ 300 8 _ (by omega) ⟨8, rfl, by omega, (fun j h1 h2 => by omega), rfl⟩
  rintro t _ c ⟨n, rfl, n8, same, rfl⟩ hc
  rcases Nat.eq_zero_or_pos n with t0 | t0
  · subst t0
    have z : decide (((0 : Nat) : Int) - 1 ≥ 0) = false := by decide
    simp only [S_astrolaberef1_less_0, z, cond_false, Sum.elim_inr]
    have e : val (dig x) 8 = val (dig y) 8 := val_congr fun j hj => same j (by omega) hj
    rw [vx, vy] at e
    rw [decide_eq_false (by omega)]
  · obtain ⟨m, rfl⟩ : ∃ m, n = m + 1 := ⟨n - 1, by omega⟩
    have e0 : ((m + 1 : Nat) : Int) - 1 = (m : Int) := by omega
    have z : decide ((m : Int) ≥ 0) = true := decide_eq_true (by omega)
    have w : IntKind.wrap .i64 ((m : Int) - 1) = (m : Int) - 1 := wrap_i64 (by omega) (by omega)
    rw [e0]
    simp only [S_astrolaberef1_less_0, z, cond_true, ix m 8 (by omega), Int.toNat_natCast, w]
    by_cases e : dig x m = dig y m
    · have e' : (dig x m != dig y m) = false := by rw [e, bne_self_eq_false]
      rw [e', cond_false]
      exact hc m _ (by omega) ⟨m, rfl, by omega, (fun j h1 h2 => by
        rcases Nat.lt_or_ge m j with q | q
        · exact same j (by omega) h2
        · obtain rfl : j = m := by omega
          exact e), rfl⟩
    · have e' : (dig x m != dig y m) = true := by rw [bne_iff_ne]; exact e
      rw [e', cond_true, Sum.elim_inl]
      rcases Int.lt_or_le (dig x m) (dig y m) with l | l
      · have := val_lt (dig_ok x) (dig_ok y) (show m < 8 by omega) (fun j h1 h2 => same j (by omega) h2) l
        rw [vx, vy] at this
        rw [decide_eq_true l, decide_eq_true this]
      · have := val_lt (dig_ok y) (dig_ok x) (show m < 8 by omega) (fun j h1 h2 => (same j (by omega) h2).symm) (show dig y m < dig x m by omega)
        rw [vx, vy] at this
        rw [decide_eq_false (by omega), decide_eq_false (by omega)]
/-! numbers with a sign -/
def sg (x : Int) : Bool := decide (x < 0)
def mg (x : Int) : Int := if x < 0 then -x else x
theorem mg_nn (x : Int) : 0 ≤ mg x := by unfold mg; split <;> omega
/-- within 255 bits -/
abbrev low255 (x : Int) : Prop := -57896044618658097711785492504343953926634992332820282019728792003956564819968 < x ∧ x < 57896044618658097711785492504343953926634992332820282019728792003956564819968
theorem mg_lt {x : Int} (h : low255 x) : mg x < 57896044618658097711785492504343953926634992332820282019728792003956564819968 := by unfold mg; split <;> omega
theorem made_sg (x : Int) (n : Bool) (h : mg x < 115792089237316195423570985008687907853269984665640564039457584007913129639936) (hn : n = sg x ∨ x = 0) : f_astrolaberef1_made n (dig (mg x)) = some (sg x, dig (mg x)) := by
  rw [big_made n (mg x) (mg_nn x) h]
  refine congrArg some (Prod.ext ?_ rfl)
  simp only
  rcases hn with rfl | rfl
  · unfold sg mg
    by_cases c : x < 0
    · rw [decide_eq_true c, if_pos c, decide_eq_false (by omega)]; rfl
    · rw [decide_eq_false c]; rfl
  · cases n <;> rfl
theorem Big_Add (x y : Int) (hx : low255 x) (hy : low255 y) : f_astrolaberef1_Add (sg x) (dig (mg x)) (sg y) (dig (mg y)) = some (sg (x + y), dig (mg (x + y))) := by
  unfold f_astrolaberef1_Add K_astrolaberef1_Add
  have hx' := mg_lt hx
  have hy' := mg_lt hy
  have ax := mg_nn x
  have ay := mg_nn y
  have hs : mg (x + y) < 115792089237316195423570985008687907853269984665640564039457584007913129639936 := by unfold mg; split <;> omega
  by_cases c : sg x = sg y
  · have e : (sg x == sg y) = true := by rw [beq_iff_eq]; exact c
    have m : mg x + mg y = mg (x + y) := by
      unfold sg at c
      unfold mg
      by_cases p : x < 0 <;> by_cases q : y < 0 <;> simp only [p, q, decide_true, decide_false] at c <;> simp_all <;> split <;> omega
    rw [e, cond_true, big_plus8 _ _ ax ay (by omega), Option.bind_some, m, made_sg (x + y) (sg x) hs, Option.bind_some]
    unfold sg at c ⊢
    by_cases p : x < 0
    · rw [decide_eq_true p] at c ⊢
      have q : y < 0 := of_decide_eq_true c.symm
      left; exact (decide_eq_true (by omega)).symm
    · rw [decide_eq_false p] at c ⊢
      have q : ¬ y < 0 := of_decide_eq_false c.symm
      left; exact (decide_eq_false (by omega)).symm
  · have e : (sg x == sg y) = false := by rw [beq_eq_false_iff_ne]; exact c
    rw [e, cond_false, big_less8 _ _ ax (by omega) ay (by omega), Option.bind_some]
    by_cases l : mg x < mg y
    · have m : mg y - mg x = mg (x + y) ∧ sg y = sg (x + y) := by
        unfold sg at c
        unfold mg at l ⊢
        unfold sg
        by_cases p : x < 0 <;> by_cases q : y < 0 <;> simp only [p, q, decide_true, decide_false, not_true] at c <;> simp only [p, q, if_true, if_false] at l ⊢
        · have : ¬ x + y < 0 := by omega
          simp only [this, if_false, decide_false]; exact ⟨by omega, trivial⟩
        · have : x + y < 0 := by omega
          simp only [this, if_true, decide_true]; exact ⟨by omega, trivial⟩
      rw [decide_eq_true l, cond_true, big_minus8 _ _ ax (by omega) (by omega), Option.bind_some, m.1, made_sg (x + y) (sg y) hs (.inl m.2), Option.bind_some]
    · have m : mg x - mg y = mg (x + y) ∧ (sg x = sg (x + y) ∨ x + y = 0) := by
        unfold sg at c
        unfold mg at l ⊢
        unfold sg
        by_cases p : x < 0 <;> by_cases q : y < 0 <;> simp only [p, q, decide_true, decide_false, not_true] at c <;> simp only [p, q, if_true, if_false] at l ⊢
        · by_cases r : x + y < 0
          · simp only [r, if_true, decide_true]; exact ⟨by omega, .inl trivial⟩
          · simp only [r, if_false, decide_false]; exact ⟨by omega, .inr (by omega)⟩
        · have r : ¬ x + y < 0 := by omega
          simp only [r, if_false, decide_false]; exact ⟨by omega, .inl trivial⟩
      rw [decide_eq_false l, cond_false, big_minus8 _ _ ay (by omega) (by omega), Option.bind_some, m.1, made_sg (x + y) (sg x) hs m.2, Option.bind_some]
theorem Big_Neg (x : Int) (hx : low255 x) : f_astrolaberef1_Neg (sg x) (dig (mg x)) = some (sg (-x), dig (mg (-x))) := by
  unfold f_astrolaberef1_Neg K_astrolaberef1_Neg
  have m : mg x = mg (-x) := by unfold mg; split <;> split <;> omega
  have hx' := mg_lt hx
  rw [m] at hx' ⊢
  rw [made_sg (-x) (!sg x) (by omega), Option.bind_some]
  unfold sg
  by_cases p : x < 0
  · left; rw [decide_eq_true p, decide_eq_false (by omega)]; rfl
  · by_cases q : x = 0
    · right; omega
    · left; rw [decide_eq_false p, decide_eq_true (by omega)]; rfl
def cmpB (x y : Int) : Int := if x = y then 0 else if x < y then -1 else 1
theorem Big_Cmp (x y : Int) (hx : low255 x) (hy : low255 y) (hd : low255 (x - y)) : f_astrolaberef1_Cmp (sg x) (dig (mg x)) (sg y) (dig (mg y)) = some (cmpB x y) := by
  unfold f_astrolaberef1_Cmp K_astrolaberef1_Cmp
  have hy2 : low255 (-y) := by omega
  rw [Big_Neg y hy, Option.bind_some]
  simp only
  rw [Big_Add x (-y) hx hy2, Option.bind_some]
  simp only
  have e : x + -y = x - y := by omega
  have hd' := mg_lt hd
  rw [e, big_zero _ (mg_nn _) (by omega), Option.bind_some]
  unfold cmpB
  by_cases z : x = y
  · have q : mg (x - y) = 0 := by unfold mg; split <;> omega
    rw [decide_eq_true q, cond_true, if_pos z]
  · have q : ¬ mg (x - y) = 0 := by unfold mg; split <;> omega
    rw [decide_eq_false q, cond_false, if_neg z]
    unfold sg
    by_cases l : x < y
    · rw [decide_eq_true (by omega), cond_true, if_pos l]
    · rw [decide_eq_false (by omega), cond_false, if_neg l]
end Go.Proofs.Ytcalippagaaikaa
