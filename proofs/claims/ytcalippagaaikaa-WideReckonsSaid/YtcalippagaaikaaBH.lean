/-
  Numbers of 256 bits (astrolaberef1) in plain arithmetic: made, multiplied, powers of two, bounds.
-/
import Derived.Test.YtcalippagaaikaaBG
set_option maxRecDepth 100000
set_option maxHeartbeats 4000000
set_option linter.unusedVariables false
set_option linter.unusedSimpArgs false
namespace Go.Proofs.Ytcalippagaaikaa
open Go.Ab
theorem val_2 (p : Nat → Int) (h : ∀ j, 2 ≤ j → p j = 0) : val p 8 = p 0 + p 1 * 4294967296 := by
  have e : val p 8 = 0 + p 0 * 4294967296 ^ 0 + p 1 * 4294967296 ^ 1 + p 2 * 4294967296 ^ 2 + p 3 * 4294967296 ^ 3 + p 4 * 4294967296 ^ 4 + p 5 * 4294967296 ^ 5 + p 6 * 4294967296 ^ 6 + p 7 * 4294967296 ^ 7 := rfl
  rw [e, h 2 (by omega), h 3 (by omega), h 4 (by omega), h 5 (by omega), h 6 (by omega), h 7 (by omega)]
  have e0 : (4294967296 : Int) ^ 0 = 1 := rfl
  have e1 : (4294967296 : Int) ^ 1 = 4294967296 := rfl
  rw [e0, e1]; omega
theorem dig_small (d : Int) (h0 : 0 ≤ d) (h1 : d < 18446744073709551616) : (fun (j : Nat) => bif Nat.beq j 1 then Int.fdiv d 4294967296 else bif Nat.beq j 0 then IntKind.wrap IntKind.u64 (Int.ofNat (BitVec.toNat (BitVec.ofInt 64 d &&& BitVec.ofInt 64 4294967295))) else 0) = dig d := by
  rw [and_mask d h0 h1, fdiv_pos _ _ (by omega), wrap_u64]
  have hj : ∀ j, 2 ≤ j → (fun (j : Nat) => bif Nat.beq j 1 then d / 4294967296 else bif Nat.beq j 0 then d % 4294967296 % 18446744073709551616 else 0) j = 0 := fun j hj => by
    simp only [nbq (show j ≠ 1 by omega), nbq (show j ≠ 0 by omega), cond_false]
  refine dig_uniq (fun j hj8 => ?_) (fun j hj8 => hj j (by omega)) ?_
  · rcases Nat.lt_or_ge j 2 with c | c
    · rcases Nat.eq_zero_or_pos j with z | z
      · subst z
        show 0 ≤ d % 4294967296 % 18446744073709551616 ∧ d % 4294967296 % 18446744073709551616 < 4294967296
        omega
      · obtain rfl : j = 1 := by omega
        show 0 ≤ d / 4294967296 ∧ d / 4294967296 < 4294967296
        omega
    · have q := hj j c
      simp only at q
      rw [q]; omega
  · rw [val_2 _ hj]
    show d % 4294967296 % 18446744073709551616 + d / 4294967296 * 4294967296 = d
    omega
theorem Big_size (a : Int) (h0 : -9223372036854775808 ≤ a) (h1 : a ≤ 9223372036854775807) : f_astrolaberef1_size a = some (mg a) := by
  unfold f_astrolaberef1_size K_astrolaberef1_size mg
  by_cases c : a < 0
  · rw [decide_eq_true c, cond_true, if_pos c, wrap_i64 (n := a + 1) (by omega) (by omega), wrap_i64 (by omega) (by omega), wrap_u64, wrap_u64]
    congr 1; omega
  · rw [decide_eq_false c, cond_false, if_neg c, wrap_u64]
    congr 1; omega
theorem Big_Of (a : Int) (h0 : -9223372036854775808 ≤ a) (h1 : a ≤ 9223372036854775807) : f_astrolaberef1_Of a = some (sg a, dig (mg a)) := by
  unfold f_astrolaberef1_Of K_astrolaberef1_Of
  have b : 0 ≤ mg a ∧ mg a < 18446744073709551616 := by unfold mg; split <;> omega
  rw [Big_size a h0 h1, Option.bind_some, dig_small _ b.1 b.2]
  have e : decide (a < 0) = sg a := rfl
  rw [e, made_sg a (sg a) (by omega) (.inl rfl), Option.bind_some]
theorem dig_move (x : Int) (h0 : 0 ≤ x) (h1 : x < 18446744073709551616) : (fun (j : Nat) => bif Nat.beq j 3 then dig x 1 else bif Nat.beq j 2 then dig x 0 else 0) = dig (x * 18446744073709551616) := by
  have d0 := dig_ok x 0 (by omega)
  have d1 := dig_ok x 1 (by omega)
  have hj : ∀ j, 4 ≤ j → (fun (j : Nat) => bif Nat.beq j 3 then dig x 1 else bif Nat.beq j 2 then dig x 0 else 0) j = 0 := fun j hj => by
    simp only [nbq (show j ≠ 3 by omega), nbq (show j ≠ 2 by omega), cond_false]
  refine dig_uniq (fun j hj8 => ?_) (fun j hj8 => hj j (by omega)) ?_
  · rcases Nat.lt_or_ge j 4 with c | c
    · rcases (show j = 0 ∨ j = 1 ∨ j = 2 ∨ j = 3 by omega) with z | z | z | z <;> subst z
      · show 0 ≤ (0 : Int) ∧ (0 : Int) < 4294967296
        omega
      · show 0 ≤ (0 : Int) ∧ (0 : Int) < 4294967296
        omega
      · exact d0
      · exact d1
    · have q := hj j c
      simp only at q
      rw [q]; omega
  · have e : val (fun (j : Nat) => bif Nat.beq j 3 then dig x 1 else bif Nat.beq j 2 then dig x 0 else 0) 8 = 0 + 0 * 4294967296 ^ 0 + 0 * 4294967296 ^ 1 + dig x 0 * 4294967296 ^ 2 + dig x 1 * 4294967296 ^ 3 + 0 * 4294967296 ^ 4 + 0 * 4294967296 ^ 5 + 0 * 4294967296 ^ 6 + 0 * 4294967296 ^ 7 := rfl
    have e2 : (4294967296 : Int) ^ 2 = 18446744073709551616 := rfl
    have e3 : (4294967296 : Int) ^ 3 = 79228162514264337593543950336 := rfl
    have f0 : dig x 0 = x % 4294967296 := by
      unfold dig
      rw [if_pos (by omega), show (4294967296 : Int) ^ 0 = 1 from rfl, Int.ediv_one]
    have f1 : dig x 1 = x / 4294967296 := by
      unfold dig
      rw [if_pos (by omega), show (4294967296 : Int) ^ 1 = 4294967296 from rfl]; omega
    rw [e, e2, e3, f0, f1]
    simp only [Int.zero_mul, Int.add_zero, Int.zero_add]
    omega
theorem Big_Wide (h l : Int) (o : okW h l) : f_astrolaberef1_Wide h l = some (sg (vW h l), dig (mg (vW h l))) := by
  obtain ⟨o1, o2, o3, o4⟩ := o
  unfold f_astrolaberef1_Wide K_astrolaberef1_Wide
  have b : 0 ≤ mg h ∧ mg h < 18446744073709551616 := by unfold mg; split <;> omega
  rw [Big_Of h o1 o2, Option.bind_some]
  simp only
  rw [dig_move (mg h) b.1 b.2]
  have m : mg h * 18446744073709551616 = mg (h * 18446744073709551616) := by unfold mg; split <;> split <;> omega
  have s : sg h = sg (h * 18446744073709551616) := by
    unfold sg
    by_cases c : h < 0
    · rw [decide_eq_true c, decide_eq_true (by omega)]
    · rw [decide_eq_false c, decide_eq_false (by omega)]
  rw [m, s, made_sg (h * 18446744073709551616) _ (by rw [← m]; omega) (.inl rfl), Option.bind_some, dig_small l o3 o4]
  have ml : l = mg l := by unfold mg; rw [if_neg (by omega)]
  have sl : false = sg l := by unfold sg; rw [decide_eq_false (by omega)]
  have e : f_astrolaberef1_made false (dig l) = some (sg l, dig (mg l)) := by
    have := made_sg l false (by omega) (.inl sl)
    rw [← ml] at this ⊢; exact this
  rw [e, Option.bind_some]
  simp only
  rw [Big_Add (h * 18446744073709551616) l (by omega) (by omega), Option.bind_some]
theorem law_big (h l : Int) (o : okW h l) : f_astrolabelaw1_big h l = some (sg (vW h l), dig (mg (vW h l))) := by
  unfold f_astrolabelaw1_big K_astrolabelaw1_big
  rw [Big_Wide h l o, Option.bind_some]
theorem law_same (h l y : Int) (o : okW h l) (hy : low255 y) (hd : low255 (vW h l - y)) : f_astrolabelaw1_same h l (sg y) (dig (mg y)) = some (decide (vW h l = y)) := by
  unfold f_astrolabelaw1_same K_astrolabelaw1_same
  rw [law_big h l o, Option.bind_some]
  have hx : low255 (vW h l) := by obtain ⟨o1, o2, o3, o4⟩ := o; simp only [vW]; omega
  simp only
  rw [Big_Cmp (vW h l) y hx hy hd, Option.bind_some]
  unfold cmpB
  by_cases c : vW h l = y
  · rw [if_pos c, decide_eq_true c]; rfl
  · rw [if_neg c, decide_eq_false c]
    split <;> rfl
/-! products -/
theorem mul_inner {ρ : Type} (i : Nat) (hi : i < 8) (s1 s2 : Bool) (a b z p : Nat → Int) (oa : okN a 8) (ob : okN b 8) (op : okN p 8) (hp : ∀ j, 8 ≤ j → p j = 0) (K : _ → Option ρ) (r : Option ρ)
    (h : ∀ p' c k e f, okN p' 8 → (∀ j, 8 ≤ j → p' j = 0) → (∃ c, val p' 8 + c * 4294967296 ^ 8 = val p 8 + a i * 4294967296 ^ i * val b (8 - i)) → K ((i : Int), c, k, e, f, s1, a, s2, b, z, p') = r) :
    L_astrolaberef1_Mul_1 ((i : Int), 0, 0, s1, a, s2, b, z, p) K = r := by
  unfold L_astrolaberef1_Mul_1
  refine loopK_inv (fun t d => ∃ (k : Nat) (c : Int) (p' : Nat → Int), i + k + t = 8 ∧ okN p' 8 ∧ (∀ j, 8 ≤ j → p' j = 0) ∧ 0 ≤ c ∧ c < 4294967296 ∧ val p' 8 + c * 4294967296 ^ (i + k) = val p 8 + a i * 4294967296 ^ i * val b k ∧ d = ((i : Int), c, (k : Int), s1, a, s2, b, z, p')) ?_ 300 (8 - i) _ (by omega)
    ⟨0, 0, p, by omega, op, hp, by omega, by omega, by simp only [val]; omega, rfl⟩
  rintro t _ kk ⟨k, c, p', hk, ok, hi', c0, c1, hv, rfl⟩ hc
  have w0 : IntKind.wrap .i64 ((i : Int) + (k : Int)) = ((i + k : Nat) : Int) := (wrap_i64 (by omega) (by omega)).trans (by omega)
  rcases Nat.eq_zero_or_pos t with t0 | t0
  · have e8 : i + k = 8 := by omega
    have zz : decide (((i + k : Nat) : Int) < 8) = false := decide_eq_false (by omega)
    simp only [S_astrolaberef1_Mul_1, w0, zz, cond_false]
    refine h p' _ _ _ _ ok hi' ⟨c, ?_⟩
    rw [e8] at hv
    rw [hv, show k = 8 - i by omega]
  · have zz : decide (((i + k : Nat) : Int) < 8) = true := decide_eq_true (by omega)
    have a1 := oa i hi
    have b1 := ob k (by omega)
    have p1 := ok (i + k) (by omega)
    have pr : 0 ≤ a i * b k ∧ a i * b k ≤ 18446744065119617025 := mul_lt32 a1.1 (by omega) b1.1 (by omega)
    have w1 : IntKind.wrap .u64 (IntKind.wrap .u64 (c + p' (i + k)) + IntKind.wrap .u64 (a i * b k)) = c + p' (i + k) + a i * b k := by rw [wrap_u64, wrap_u64, wrap_u64]; omega
    have w2 := and_mask (c + p' (i + k) + a i * b k) (by omega) (by omega)
    have w3 : IntKind.wrap .u64 ((c + p' (i + k) + a i * b k) % 4294967296) = (c + p' (i + k) + a i * b k) % 4294967296 := by rw [wrap_u64]; omega
    simp only [S_astrolaberef1_Mul_1, w0, zz, cond_true, ix (i + k) 8 (by omega), ix i 8 hi, ix k 8 (by omega), Int.toNat_natCast, up1 (show k < 1000000 by omega), bl8 (show i + k < 8 by omega), Bool.and_self, w1, w2, w3, fdiv_pos _ 4294967296 (show (0 : Int) ≤ 4294967296 by decide)]
    refine hc (t - 1) _ (by omega) ⟨k + 1, (c + p' (i + k) + a i * b k) / 4294967296, (fun j => bif Nat.beq j (i + k) then (c + p' (i + k) + a i * b k) % 4294967296 else p' j), by omega, put_ok ok (by omega) (by omega), put_hi (by omega) hi', by omega, by omega, ?_, rfl⟩
    rw [val_put (show i + k < 8 by omega), show val b (k + 1) = val b k + b k * 4294967296 ^ k from rfl, show i + (k + 1) = i + k + 1 by omega, bsucc (i + k)]
    have pe : (4294967296 : Int) ^ (i + k) = 4294967296 ^ i * 4294967296 ^ k := Int.pow_add _ _ _
    have q := Int.mul_ediv_add_emod (c + p' (i + k) + a i * b k) 4294967296
    generalize (c + p' (i + k) + a i * b k) % 4294967296 = d at *
    generalize (c + p' (i + k) + a i * b k) / 4294967296 = f at *
    have g : (4294967296 * f + d) * 4294967296 ^ (i + k) = (c + p' (i + k) + a i * b k) * 4294967296 ^ (i + k) := by rw [q]
    have g2 : a i * 4294967296 ^ i * (val b k + b k * 4294967296 ^ k) = a i * 4294967296 ^ i * val b k + a i * b k * 4294967296 ^ (i + k) := by rw [pe]; grind
    rw [g2]
    generalize (4294967296 : Int) ^ (i + k) = P at *
    generalize a i * 4294967296 ^ i * val b k = Q at *
    generalize a i * b k = R at *
    grind
theorem big_mul8 (x y : Int) (s1 s2 : Bool) (x0 : 0 ≤ x) (x1 : x < 115792089237316195423570985008687907853269984665640564039457584007913129639936) (y0 : 0 ≤ y) (y1 : y < 115792089237316195423570985008687907853269984665640564039457584007913129639936)
    (h : x * y < 115792089237316195423570985008687907853269984665640564039457584007913129639936) : f_astrolaberef1_Mul s1 (dig x) s2 (dig y) = (f_astrolaberef1_made (!s1 == s2) (dig (x * y))).bind fun d => some (d.1, d.2) := by
  unfold f_astrolaberef1_Mul K_astrolaberef1_Mul L_astrolaberef1_Mul_0
  have oa := dig_ok x
  have ob := dig_ok y
  have vx := val_self x x0 x1
  have vy := val_self y y0 y1
  refine loopK_inv (fun t d => ∃ (i : Nat) (m : Int) (p : Nat → Int), i + t = 8 ∧ okN p 8 ∧ (∀ j, 8 ≤ j → p j = 0) ∧ val p 8 + m * 4294967296 ^ 8 = val (dig x) i * y ∧ d = ((i : Int), s1, dig x, s2, dig y, (fun _ => 0), p)) ?_ 300 8 _ (by omega)
    ⟨0, 0, fun _ => 0, by omega, (fun j hj => by simp only; omega), (fun _ _ => rfl), by
      have e : val (fun _ => 0) 8 = 0 := val_none fun _ _ => rfl
      rw [e]; simp only [val]; omega, rfl⟩
  rintro t _ c ⟨i, m, p, hi, op, hp, hv, rfl⟩ hc
  rcases Nat.eq_zero_or_pos t with t0 | t0
  · obtain rfl : i = 8 := by omega
    have z : decide (((8 : Nat) : Int) < 8) = false := by decide
    simp only [S_astrolaberef1_Mul_0, z, cond_false]
    rw [vx, b8] at hv
    have bd := val_bd op
    rw [b8] at bd
    have pr := Int.mul_nonneg x0 y0
    rw [dig_uniq op hp (show val p 8 = x * y by omega)]
  · have z : decide ((i : Int) < 8) = true := decide_eq_true (by omega)
    simp only [S_astrolaberef1_Mul_0, z, cond_true]
    refine mul_inner i (by omega) s1 s2 (dig x) (dig y) _ p oa ob op hp _ _ ?_
    rintro p' c' k e f ok' hp' ⟨cc, hv'⟩
    simp only [up1 (show i < 1000000 by omega)]
    obtain ⟨T, hT⟩ : ∃ T, y = val (dig y) (8 - i) + 4294967296 ^ (8 - i) * T := by
      rcases Nat.eq_zero_or_pos i with q | q
      · subst q; exact ⟨0, by rw [vy]; omega⟩
      · obtain ⟨t', _, e'⟩ := val_up ob (8 - i) (by omega)
        exact ⟨_, by rw [← e', vy]⟩
    refine hc (t - 1) _ (by omega) ⟨i + 1, m + dig x i * T + cc, p', by omega, ok', hp', ?_, rfl⟩
    rw [show val (dig x) (i + 1) = val (dig x) i + dig x i * 4294967296 ^ i from rfl]
    have pe : (4294967296 : Int) ^ 8 = 4294967296 ^ i * 4294967296 ^ (8 - i) := by rw [← Int.pow_add]; congr 1; omega
    have e1 : (val (dig x) i + dig x i * 4294967296 ^ i) * y = val (dig x) i * y + dig x i * 4294967296 ^ i * val (dig y) (8 - i) + dig x i * T * 4294967296 ^ 8 := by
      rw [pe]
      conv => lhs; rw [Int.add_mul]
      have : dig x i * 4294967296 ^ i * y = dig x i * 4294967296 ^ i * (val (dig y) (8 - i) + 4294967296 ^ (8 - i) * T) := by rw [← hT]
      rw [this]; grind
    rw [e1, ← hv]
    have e2 : (m + dig x i * T + cc) * 4294967296 ^ 8 = m * 4294967296 ^ 8 + dig x i * T * 4294967296 ^ 8 + cc * 4294967296 ^ 8 := by grind
    rw [e2]
    omega
theorem Big_Mul (x y : Int) (h : mg x * mg y < 57896044618658097711785492504343953926634992332820282019728792003956564819968) (hx : low255 x) (hy : low255 y) : f_astrolaberef1_Mul (sg x) (dig (mg x)) (sg y) (dig (mg y)) = some (sg (x * y), dig (mg (x * y))) := by
  have ax := mg_nn x
  have ay := mg_nn y
  have bx := mg_lt hx
  have bv := mg_lt hy
  rw [big_mul8 (mg x) (mg y) _ _ ax (by omega) ay (by omega) (by omega)]
  have pr := Int.mul_nonneg ax ay
  have both : mg x * mg y = mg (x * y) ∧ ((!sg x == sg y) = sg (x * y) ∨ x * y = 0) := by
    have e1 : x < 0 → y < 0 → mg x * mg y = x * y := fun p q => by unfold mg; rw [if_pos p, if_pos q, Int.neg_mul_neg]
    have e2 : x < 0 → ¬ y < 0 → mg x * mg y = -(x * y) := fun p q => by unfold mg; rw [if_pos p, if_neg q, Int.neg_mul]
    have e3 : ¬ x < 0 → y < 0 → mg x * mg y = -(x * y) := fun p q => by unfold mg; rw [if_neg p, if_pos q, Int.mul_neg]
    have e4 : ¬ x < 0 → ¬ y < 0 → mg x * mg y = x * y := fun p q => by unfold mg; rw [if_neg p, if_neg q]
    unfold sg
    by_cases p : x < 0
    · by_cases q : y < 0
      · have e := e1 p q
        rw [e] at pr ⊢
        rw [decide_eq_true p, decide_eq_true q, decide_eq_false (by omega)]
        refine ⟨?_, .inl rfl⟩
        unfold mg; rw [if_neg (by omega)]
      · have e := e2 p q
        rw [e] at pr ⊢
        rw [decide_eq_true p, decide_eq_false q]
        by_cases z : x * y = 0
        · rw [z]; exact ⟨rfl, .inr rfl⟩
        · rw [decide_eq_true (by omega)]
          refine ⟨?_, .inl rfl⟩
          unfold mg; rw [if_pos (by omega)]
    · by_cases q : y < 0
      · have e := e3 p q
        rw [e] at pr ⊢
        rw [decide_eq_false p, decide_eq_true q]
        by_cases z : x * y = 0
        · rw [z]; exact ⟨rfl, .inr rfl⟩
        · rw [decide_eq_true (by omega)]
          refine ⟨?_, .inl rfl⟩
          unfold mg; rw [if_pos (by omega)]
      · have e := e4 p q
        rw [e] at pr ⊢
        rw [decide_eq_false p, decide_eq_false q, decide_eq_false (by omega)]
        refine ⟨?_, .inl rfl⟩
        unfold mg; rw [if_neg (by omega)]
  rw [both.1] at h ⊢
  rw [made_sg (x * y) _ (by omega) both.2, Option.bind_some]
/-! powers of two, bounds, small ones -/
theorem Big_Pow (s : Nat) (hs : s ≤ 250) : f_astrolaberef1_Pow (s : Int) = some (dig (2 ^ s)) := by
  have key : ∀ s : Fin 251, (!decide (IntKind.wrap IntKind.u64 (Int.tmod (s.val : Int) 32) < 0)) = true ∧ IntKind.wrap IntKind.i64 (Int.tdiv (s.val : Int) 32) = ((s.val / 32 : Nat) : Int) ∧
      IntKind.wrap IntKind.u64 (1 * 2 ^ min (Int.toNat (IntKind.wrap IntKind.u64 (Int.tmod (s.val : Int) 32))) 64) = 2 ^ (s.val % 32) := by decide +kernel
  obtain ⟨k1, k2, k3⟩ := key ⟨s, by omega⟩
  simp only at k1 k2 k3
  unfold f_astrolaberef1_Pow K_astrolaberef1_Pow
  have m8 : s / 32 < 8 := by omega
  simp only [k1, k2, k3, cond_true, ix (s / 32) 8 m8, Int.toNat_natCast, bl8 m8, Bool.and_self]
  congr 1
  have P0 : (0 : Int) < 2 ^ (s % 32) := pow_pos' _
  have P1 : (2 : Int) ^ (s % 32) < 4294967296 := by
    have : (2 : Int) ^ (s % 32) ≤ 2 ^ 31 := pow_le_pow (by omega)
    have e : (2 : Int) ^ 31 = 2147483648 := rfl
    omega
  have zok : okN (fun _ => 0) 8 := fun j _ => by simp only; omega
  refine dig_uniq (put_ok zok (by omega) P1) (put_hi m8 fun _ _ => rfl) ?_
  rw [val_put m8, val_none fun _ _ => rfl, Int.zero_add, Int.sub_zero]
  have e : (4294967296 : Int) = 2 ^ 32 := rfl
  rw [e, ← Int.pow_mul, ← Int.pow_add]
  congr 1
  omega
theorem pow2_lt (s : Nat) (hs : s ≤ 250) : (0 : Int) < 2 ^ s ∧ (2 : Int) ^ s < 57896044618658097711785492504343953926634992332820282019728792003956564819968 := by
  refine ⟨pow_pos' _, ?_⟩
  have : (2 : Int) ^ s ≤ 2 ^ 250 := pow_le_pow hs
  have e : (2 : Int) ^ 250 = 1809251394333065553493296640760748560207343510400633813116524750123642650624 := by decide
  omega
theorem Big_Fits (x : Int) (n : Nat) (hn : n ≤ 250) (hx : low255 x) : f_astrolaberef1_Fits (sg x) (dig (mg x)) (n : Int) = some (decide (-(2 : Int) ^ n ≤ x ∧ x < 2 ^ n)) := by
  have p := pow2_lt n hn
  have a := mg_nn x
  have b := mg_lt hx
  unfold f_astrolaberef1_Fits K_astrolaberef1_Fits
  rw [Big_Pow n hn]
  unfold sg
  by_cases c : x < 0
  · rw [decide_eq_true c, cond_true, Option.bind_some, big_less8 _ _ (by omega) (by omega) a (by omega), Option.bind_some]
    congr 1
    have e : mg x = -x := if_pos c
    by_cases d : (2 : Int) ^ n < mg x
    · rw [decide_eq_true d, decide_eq_false (by omega)]; rfl
    · rw [decide_eq_false d, decide_eq_true (by omega)]; rfl
  · rw [decide_eq_false c, cond_false, Option.bind_some, big_less8 _ _ a (by omega) (by omega) (by omega), Option.bind_some]
    congr 1
    have e : mg x = x := if_neg c
    by_cases d : mg x < (2 : Int) ^ n
    · rw [decide_eq_true d, decide_eq_true (by omega)]
    · rw [decide_eq_false d, decide_eq_false (by omega)]
theorem Big_Small (x : Int) (h0 : -9223372036854775808 ≤ x) (h1 : x ≤ 9223372036854775807) : f_astrolaberef1_Small (sg x) (dig (mg x)) = some x := by
  have m : 0 ≤ mg x ∧ mg x ≤ 9223372036854775808 := by unfold mg; split <;> omega
  have f0 : dig (mg x) 0 = mg x % 4294967296 := by
    unfold dig
    rw [if_pos (by omega), show (4294967296 : Int) ^ 0 = 1 from rfl, Int.ediv_one]
  have f1 : dig (mg x) 1 = mg x / 4294967296 := by
    unfold dig
    rw [if_pos (by omega), show (4294967296 : Int) ^ 1 = 4294967296 from rfl]; omega
  have orr : IntKind.wrap .u64 (Int.ofNat (BitVec.toNat (BitVec.ofInt 64 (IntKind.wrap IntKind.u64 (dig (mg x) 1 * 4294967296)) ||| BitVec.ofInt 64 (dig (mg x) 0)))) = mg x := by
    rw [f0, f1]
    have w : IntKind.wrap .u64 (mg x / 4294967296 * 4294967296) = mg x / 4294967296 * 4294967296 := by rw [wrap_u64]; omega
    rw [w, BitVec.or_comm, or_apart _ _ 32 (by omega) (by rw [show (2 : Int) ^ 32 = 4294967296 from rfl]; omega) (by omega) (by omega) (by omega) (by rw [show (2 : Int) ^ 32 = 4294967296 from rfl]; omega), wrap_u64]
    omega
  unfold f_astrolaberef1_Small K_astrolaberef1_Small
  rw [orr]
  unfold sg
  by_cases c : x < 0
  · have e : mg x = -x := if_pos c
    rw [decide_eq_true c, cond_true, e]
    have w1 : IntKind.wrap .u64 (-x - 1) = -x - 1 := by rw [wrap_u64]; omega
    rw [w1, wrap_i64 (n := -x - 1) (by omega) (by omega), wrap_i64 (n := 0 - (-x - 1)) (by omega) (by omega), wrap_i64 (by omega) (by omega)]
    congr 1; omega
  · have e : mg x = x := if_neg c
    rw [decide_eq_false c, cond_false, e, wrap_i64 (by omega) (by omega)]
end Go.Proofs.Ytcalippagaaikaa
