/-
  A sample that is cut in two comes to the same as the whole one: the statement of astrolabelaw14.DownsSplits; no condition.
-/
import Derived.Test.YtmlmpcabphgfaaaD3
import Derived.Test.YtmlmpcabphgfaaaVAdd2
import Derived.Test.YtmlmpcabphgfaaaAbLaw
set_option maxRecDepth 100000
set_option maxHeartbeats 4000000
set_option linter.unusedVariables false
set_option linter.unusedSimpArgs false
namespace Go.Proofs.Ytmlmpcabphgfaaa
open Go.Ab
abbrev l35 (x : Int) : Prop := -34359738368 ≤ x ∧ x ≤ 34359738368
theorem abs_35 (x : Int) : ∃ y, f_fx_Abs x = some y ∧ (y > 34359738368 ↔ ¬ l35 x) := by
  unfold f_fx_Abs K_fx_Abs
  by_cases h1 : x ≥ 1152921504606846976
  · rw [decide_eq_true h1, cond_true]; exact ⟨_, rfl, by omega⟩
  · rw [decide_eq_false h1, cond_false]
    by_cases h2 : x ≤ -1152921504606846976
    · rw [decide_eq_true h2, cond_true]; exact ⟨_, rfl, by omega⟩
    · rw [decide_eq_false h2, cond_false]
      by_cases h3 : x < 0
      · rw [decide_eq_true h3, cond_true, wrap_i64 (by omega) (by omega)]; exact ⟨_, rfl, by omega⟩
      · rw [decide_eq_false h3, cond_false]; exact ⟨_, rfl, by omega⟩
abbrev okG (t d a0 a1 a2 v0 v1 v2 : Int) : Prop := l35 a0 ∧ l35 a1 ∧ l35 a2 ∧ l35 v0 ∧ l35 v1 ∧ l35 v2 ∧ (1 ≤ d ∧ d ≤ 100000) ∧ (0 ≤ t ∧ t ≤ 1125899906842624)
theorem good_cases (t d a0 a1 a2 v0 v1 v2 : Int) : f_downs_Good t d a0 a1 a2 v0 v1 v2 = some false ∨ (f_downs_Good t d a0 a1 a2 v0 v1 v2 = some true ∧ okG t d a0 a1 a2 v0 v1 v2) := by
  unfold f_downs_Good K_downs_Good
  obtain ⟨y0, e0, h0⟩ := abs_35 a0
  obtain ⟨y1, e1, h1⟩ := abs_35 a1
  obtain ⟨y2, e2, h2⟩ := abs_35 a2
  obtain ⟨z0, g0, k0⟩ := abs_35 v0
  obtain ⟨z1, g1, k1⟩ := abs_35 v1
  obtain ⟨z2, g2, k2⟩ := abs_35 v2
  simp only [e0, e1, e2, g0, g1, g2, Option.bind_some]
  by_cases p0 : y0 > 34359738368
  · left; rw [decide_eq_true p0, cond_true]
  rw [decide_eq_false p0, cond_false]
  by_cases q0 : z0 > 34359738368
  · left; rw [decide_eq_true q0, cond_true]
  rw [decide_eq_false q0, cond_false]
  by_cases p1 : y1 > 34359738368
  · left; rw [decide_eq_true p1, cond_true]
  rw [decide_eq_false p1, cond_false]
  by_cases q1 : z1 > 34359738368
  · left; rw [decide_eq_true q1, cond_true]
  rw [decide_eq_false q1, cond_false]
  by_cases p2 : y2 > 34359738368
  · left; rw [decide_eq_true p2, cond_true]
  rw [decide_eq_false p2, cond_false]
  by_cases q2 : z2 > 34359738368
  · left; rw [decide_eq_true q2, cond_true]
  rw [decide_eq_false q2, cond_false]
  by_cases c1 : d ≥ 1
  · rw [decide_eq_true c1, cond_true]
    by_cases c2 : d ≤ 100000
    · rw [decide_eq_true c2, cond_true]
      by_cases c3 : t ≥ 0
      · rw [decide_eq_true c3, cond_true]
        by_cases c4 : t ≤ 1125899906842624
        · right
          rw [decide_eq_true c4]
          exact ⟨rfl, by omega, by omega, by omega, by omega, by omega, by omega, by omega, by omega⟩
        · left; rw [decide_eq_false c4]
      · left; rw [decide_eq_false c3, cond_false]
    · left; rw [decide_eq_false c2, cond_false]
  · left; rw [decide_eq_false c1, cond_false]
abbrev mid (x : Int) : Prop := -576460752303423488 ≤ x ∧ x ≤ 576460752303423488
theorem plus_eq (t d a0 a1 a2 v0 v1 v2 t' d' b0 b1 b2 w0 w1 w2 : Int) (hit : Bool) (hd : 0 ≤ d ∧ d ≤ 100000) (hd' : 0 ≤ d' ∧ d' ≤ 100000)
    (ha0 : mid a0) (ha1 : mid a1) (ha2 : mid a2) (hv0 : mid v0) (hv1 : mid v1) (hv2 : mid v2) (hb0 : mid b0) (hb1 : mid b1) (hb2 : mid b2) (hw0 : mid w0) (hw1 : mid w1) (hw2 : mid w2) :
    f_downs_plus t d a0 a1 a2 v0 v1 v2 t' d' b0 b1 b2 w0 w1 w2 hit = some (t', d + d', a0 + b0, a1 + b1, a2 + b2, v0 + w0, v1 + w1, v2 + w2, hit) := by
  unfold f_downs_plus K_downs_plus
  have e1 := vec_add2 hit true (fun j => bif Nat.beq j 1 then b0 else bif Nat.beq j 0 then a0 else a0) (fun j => bif Nat.beq j 1 then b1 else bif Nat.beq j 0 then a1 else a1) (fun j => bif Nat.beq j 1 then b2 else bif Nat.beq j 0 then a2 else a2)
    a0 a1 a2 b0 b1 b2 rfl rfl rfl rfl rfl rfl ha0 ha1 ha2 hb0 hb1 hb2
  have e2 := vec_add2 hit true (fun j => bif Nat.beq j 1 then w0 else bif Nat.beq j 0 then v0 else v0) (fun j => bif Nat.beq j 1 then w1 else bif Nat.beq j 0 then v1 else v1) (fun j => bif Nat.beq j 1 then w2 else bif Nat.beq j 0 then v2 else v2)
    v0 v1 v2 w0 w1 w2 rfl rfl rfl rfl rfl rfl hv0 hv1 hv2 hw0 hw1 hw2
  rw [e1, Option.bind_some]
  simp only
  rw [e2, Option.bind_some]
  simp only
  rw [wrap_i64 (by omega) (by omega)]
/-- what a sampler's Put comes to -/
def putF (t d a0 a1 a2 v0 v1 v2 target : Int) (hit : Bool) : Int × Int × Int × Int × Int × Int × Int × Int × Bool × Int × Int × Int × Int × Int × Int × Int × Int × Int × Int × Bool × Bool :=
  if d < target then (0, 0, 0, 0, 0, 0, 0, 0, false, 0, target, t, d, a0, a1, a2, v0, v1, v2, true, hit)
  else (t, d, a0, a1, a2, v0, v1, v2, true, 0, target, t, 0, 0, 0, 0, 0, 0, 0, true, hit)
theorem put_eq (t d a0 a1 a2 v0 v1 v2 target st sd s0 s1 s2 r0 r1 r2 : Int) (any hit : Bool) (hg : f_downs_Good t d a0 a1 a2 v0 v1 v2 = some true) (ht : any = false ∨ st < t) (hd : 0 ≤ d ∧ d ≤ 100000) (hd' : 0 ≤ sd ∧ sd ≤ 100000)
    (ha0 : mid a0) (ha1 : mid a1) (ha2 : mid a2) (hv0 : mid v0) (hv1 : mid v1) (hv2 : mid v2) (hb0 : mid s0) (hb1 : mid s1) (hb2 : mid s2) (hw0 : mid r0) (hw1 : mid r1) (hw2 : mid r2) :
    f___downs_Sampler__Put t d a0 a1 a2 v0 v1 v2 target st sd s0 s1 s2 r0 r1 r2 any hit = some (putF t (sd + d) (s0 + a0) (s1 + a1) (s2 + a2) (r0 + v0) (r1 + v1) (r2 + v2) target hit) := by
  unfold f___downs_Sampler__Put K___downs_Sampler__Put
  rw [hg, Option.bind_some]
  have p := plus_eq st sd s0 s1 s2 r0 r1 r2 t d a0 a1 a2 v0 v1 v2 hit hd' hd hb0 hb1 hb2 hw0 hw1 hw2 ha0 ha1 ha2 hv0 hv1 hv2
  unfold putF
  have fin : (bif decide (sd + d < target) then
        some ((0 : Int), (0 : Int), (0 : Int), (0 : Int), (0 : Int), (0 : Int), (0 : Int), (0 : Int), false, (0 : Int), target, t, sd + d, s0 + a0, s1 + a1, s2 + a2, r0 + v0, r1 + v1, r2 + v2, true, hit)
      else some (t, sd + d, s0 + a0, s1 + a1, s2 + a2, r0 + v0, r1 + v1, r2 + v2, true, 0, target, t, 0, 0, 0, 0, 0, 0, 0, true, hit)) =
      some (if sd + d < target then (0, 0, 0, 0, 0, 0, 0, 0, false, 0, target, t, sd + d, s0 + a0, s1 + a1, s2 + a2, r0 + v0, r1 + v1, r2 + v2, true, hit)
  else (t, sd + d, s0 + a0, s1 + a1, s2 + a2, r0 + v0, r1 + v1, r2 + v2, true, 0, target, t, 0, 0, 0, 0, 0, 0, 0, true, hit)) := by
    by_cases c : sd + d < target
    · rw [decide_eq_true c, cond_true, if_pos c]
    · rw [decide_eq_false c, cond_false, if_neg c]
  cases any with
  | false =>
    simp only [Bool.not_true, cond_false]
    rw [p, Option.bind_some]
    exact fin
  | true =>
    have c : ¬ t ≤ st := by rcases ht with h | h <;> first | (cases h; done) | omega
    simp only [Bool.not_true, cond_false, cond_true]
    rw [decide_eq_false c, cond_false, p, Option.bind_some]
    exact fin
theorem downs_awake : f_astrolabelaw14_awake = some true := by kernel_rfl
theorem downs_new (x : Int) (h0 : ¬ x < 1000) (h1 : ¬ x > 100000) : f_downs_New x = some (Sum.inr x) := by
  unfold f_downs_New K_downs_New
  rw [decide_eq_false h0, cond_false, decide_eq_false h1, cond_false]
theorem downs_pending (a b c d e f g h i : Int) (j : Bool) : f___downs_Sampler__Pending a b c d e f g h i j = some c := rfl
theorem downsSplits_plain (x0 x1 x2 x3 x4 x5 x6 x7 x8 x9 x10 x11 x12 : Int) : f_astrolabelaw14_DownsSplits x0 x1 x2 x3 x4 x5 x6 x7 x8 x9 x10 x11 x12 = some true := by
  unfold f_astrolabelaw14_DownsSplits K_astrolabelaw14_DownsSplits
  rw [downs_awake, Option.bind_some]
  simp only [Bool.not_true, cond_false]
  rcases good_cases x1 x2 x3 x4 x5 x6 x7 x8 with hg | ⟨hg, ok⟩
  · rw [hg, Option.bind_some]; rfl
  rw [hg, Option.bind_some]
  simp only [Bool.not_true, cond_false]
  by_cases c1 : x0 < 1000
  · rw [decide_eq_true c1, cond_true]
  rw [decide_eq_false c1, cond_false]
  by_cases c2 : x0 > 100000
  · rw [decide_eq_true c2, cond_true]
  rw [decide_eq_false c2, cond_false]
  by_cases c3 : x9 < 1
  · rw [decide_eq_true c3, cond_true]
  rw [decide_eq_false c3, cond_false]
  by_cases c4 : x9 ≥ x2
  · rw [decide_eq_true c4, cond_true]
  rw [decide_eq_false c4, cond_false]
  by_cases c5 : x9 ≥ x0
  · rw [decide_eq_true c5, cond_true]
  rw [decide_eq_false c5, cond_false]
  by_cases c6 : x1 < x2
  · rw [decide_eq_true c6, cond_true]
  rw [decide_eq_false c6, cond_false]
  generalize IntKind.wrap .i64 (Int.tdiv x3 2) = q0
  generalize IntKind.wrap .i64 (Int.tdiv x4 2) = q1
  generalize IntKind.wrap .i64 (Int.tdiv x5 2) = q2
  generalize Int.tmod x10 17179869184 = p0
  generalize Int.tmod x11 17179869184 = p1
  generalize Int.tmod x12 17179869184 = p2
  obtain ⟨k3, k4, k5, k6, k7, k8, kd, kt⟩ := ok
  rw [show IntKind.wrap .i64 (x1 - x9) = x1 - x9 from wrap_i64 (by omega) (by omega)]
  rcases good_cases (x1 - x9) x9 q0 q1 q2 p0 p1 p2 with ha | ⟨ha, oka⟩
  · rw [ha, Option.bind_some]; rfl
  rw [ha, Option.bind_some]
  simp only [Bool.not_true, cond_false]
  obtain ⟨a3, a4, a5, a6, a7, a8, ad, at'⟩ := oka
  rw [show IntKind.wrap .i64 (x2 - x9) = x2 - x9 from wrap_i64 (by omega) (by omega), show IntKind.wrap .i64 (x3 - q0) = x3 - q0 from wrap_i64 (by omega) (by omega), show IntKind.wrap .i64 (x4 - q1) = x4 - q1 from wrap_i64 (by omega) (by omega),
    show IntKind.wrap .i64 (x5 - q2) = x5 - q2 from wrap_i64 (by omega) (by omega), show IntKind.wrap .i64 (x6 - p0) = x6 - p0 from wrap_i64 (by omega) (by omega), show IntKind.wrap .i64 (x7 - p1) = x7 - p1 from wrap_i64 (by omega) (by omega),
    show IntKind.wrap .i64 (x8 - p2) = x8 - p2 from wrap_i64 (by omega) (by omega)]
  rcases good_cases x1 (x2 - x9) (x3 - q0) (x4 - q1) (x5 - q2) (x6 - p0) (x7 - p1) (x8 - p2) with hb | ⟨hb, okb⟩
  · rw [hb, Option.bind_some]; rfl
  rw [hb, Option.bind_some]
  simp only [Bool.not_true, cond_false]
  rw [downs_new x0 c1 c2, Option.bind_some]
  simp only [cond_false, Option.bind_some]
  obtain ⟨b3, b4, b5, b6, b7, b8, bd, bt⟩ := okb
  have P1 := put_eq x1 x2 x3 x4 x5 x6 x7 x8 x0 0 0 0 0 0 0 0 0 false false hg (.inl rfl) (by omega) (by omega) (by omega) (by omega) (by omega) (by omega) (by omega) (by omega) (by omega) (by omega) (by omega) (by omega) (by omega) (by omega)
  have P2 := put_eq (x1 - x9) x9 q0 q1 q2 p0 p1 p2 x0 0 0 0 0 0 0 0 0 false false ha (.inl rfl) (by omega) (by omega) (by omega) (by omega) (by omega) (by omega) (by omega) (by omega) (by omega) (by omega) (by omega) (by omega) (by omega) (by omega)
  have P3 := put_eq x1 (x2 - x9) (x3 - q0) (x4 - q1) (x5 - q2) (x6 - p0) (x7 - p1) (x8 - p2) x0 (x1 - x9) x9 q0 q1 q2 p0 p1 p2 true false hb (.inr (by omega)) (by omega) (by omega) (by omega) (by omega) (by omega) (by omega) (by omega) (by omega) (by omega) (by omega) (by omega) (by omega) (by omega) (by omega)
  simp only [Int.zero_add] at P1 P2
  rw [show x9 + (x2 - x9) = x2 by omega, show q0 + (x3 - q0) = x3 by omega, show q1 + (x4 - q1) = x4 by omega, show q2 + (x5 - q2) = x5 by omega, show p0 + (x6 - p0) = x6 by omega, show p1 + (x7 - p1) = x7 by omega, show p2 + (x8 - p2) = x8 by omega] at P3
  have E2 : putF (x1 - x9) x9 q0 q1 q2 p0 p1 p2 x0 false = (0, 0, 0, 0, 0, 0, 0, 0, false, 0, x0, x1 - x9, x9, q0, q1, q2, p0, p1, p2, true, false) := by
    unfold putF; rw [if_pos (by omega)]
  rw [E2] at P2
  rw [P1, Option.bind_some]
  have hl : (putF x1 x2 x3 x4 x5 x6 x7 x8 x0 false).2.2.2.2.2.2.2.2.2.2.2.2.2.2.2.2.2.2.2.2 = false := by
    unfold putF; split <;> rfl
  simp only [hl]
  rw [P2, Option.bind_some]
  simp only
  rw [P3, Option.bind_some]
  simp only [downs_pending, Option.bind_some, Bool.not_false, cond_true, beq_self_eq_true, Bool.and_self]
theorem downsSplits_ev (f : (Int) → (Int) → (Int) → (Int) → (Int) → (Int) → (Int) → (Int) → (Int) → (Int) → (Int) → (Int) → (Int) → Option Bool) (x0_0 : Int) (x1_0 : Int) (x1_1 : Int) (x1_2 : Int) (x1_3 : Int) (x1_4 : Int) (x1_5 : Int) (x1_6 : Int) (x1_7 : Int) (x2_0 : Int) (x3_0 : Int) (x3_1 : Int) (x3_2 : Int) : F_astrolabelaw14_DownsSplits f [.r (.c (.f (.i .i64 x0_0))), .r (.agg [.c (.f (.i .i64 x1_0)), .c (.f (.i .i64 x1_1)), .c (.f (.i .i64 x1_2)), .c (.f (.i .i64 x1_3)), .c (.f (.i .i64 x1_4)), .c (.f (.i .i64 x1_5)), .c (.f (.i .i64 x1_6)), .c (.f (.i .i64 x1_7))]), .r (.c (.f (.i .i64 x2_0))), .r (.agg [.c (.f (.i .i64 x3_0)), .c (.f (.i .i64 x3_1)), .c (.f (.i .i64 x3_2))])] [] = .opt (f x0_0 x1_0 x1_1 x1_2 x1_3 x1_4 x1_5 x1_6 x1_7 x2_0 x3_0 x3_1 x3_2) fun d => .leaf ⟨.r (.c (.f (.b d))), [], []⟩ := by kernel_rfl
theorem downsSplits_trues : Trues (F_astrolabelaw14_DownsSplits f_astrolabelaw14_DownsSplits) [.flat false [.c (.i .i64)], .flat true [.c (.i .i64), .c (.i .i64), .c (.i .i64), .c (.i .i64), .c (.i .i64), .c (.i .i64), .c (.i .i64), .c (.i .i64)], .flat false [.c (.i .i64)], .flat true [.c (.i .i64), .c (.i .i64), .c (.i .i64)]] := fun ds h => by
  obtain ⟨_, _, rfl, q0_0, g0⟩ := fit_flat h
  obtain ⟨x0_0, _, rfl, r0_0, q0_1⟩ := f1_i q0_0
  obtain rfl := f1_nil q0_1
  obtain ⟨_, _, rfl, q1_0, g1⟩ := fit_flat g0
  obtain ⟨x1_0, _, rfl, r1_0, q1_1⟩ := f1_i q1_0
  obtain ⟨x1_1, _, rfl, r1_1, q1_2⟩ := f1_i q1_1
  obtain ⟨x1_2, _, rfl, r1_2, q1_3⟩ := f1_i q1_2
  obtain ⟨x1_3, _, rfl, r1_3, q1_4⟩ := f1_i q1_3
  obtain ⟨x1_4, _, rfl, r1_4, q1_5⟩ := f1_i q1_4
  obtain ⟨x1_5, _, rfl, r1_5, q1_6⟩ := f1_i q1_5
  obtain ⟨x1_6, _, rfl, r1_6, q1_7⟩ := f1_i q1_6
  obtain ⟨x1_7, _, rfl, r1_7, q1_8⟩ := f1_i q1_7
  obtain rfl := f1_nil q1_8
  obtain ⟨_, _, rfl, q2_0, g2⟩ := fit_flat g1
  obtain ⟨x2_0, _, rfl, r2_0, q2_1⟩ := f1_i q2_0
  obtain rfl := f1_nil q2_1
  obtain ⟨_, _, rfl, q3_0, g3⟩ := fit_flat g2
  obtain ⟨x3_0, _, rfl, r3_0, q3_1⟩ := f1_i q3_0
  obtain ⟨x3_1, _, rfl, r3_1, q3_2⟩ := f1_i q3_1
  obtain ⟨x3_2, _, rfl, r3_2, q3_3⟩ := f1_i q3_2
  obtain rfl := f1_nil q3_3
  obtain rfl := fit_nil g3
  refine ⟨[], (congrArg T.eval (downsSplits_ev f_astrolabelaw14_DownsSplits x0_0 x1_0 x1_1 x1_2 x1_3 x1_4 x1_5 x1_6 x1_7 x2_0 x3_0 x3_1 x3_2)).trans ?_⟩
  rw [downsSplits_plain x0_0 x1_0 x1_1 x1_2 x1_3 x1_4 x1_5 x1_6 x1_7 x2_0 x3_0 x3_1 x3_2]
  rfl
set_option maxRecDepth 100000 in
theorem downsSplits_lifted (os : Os) (started : os.Started) (H : Type) (enc : TypeId × Value → H) :
    ReturnsInHanded {} Try.checked os 10 .any (Rows.downsSplitsSpec.pre6 enc Try.prog Try.f10 Rows.downsSplitsRow.domain false) (Rows.downsSplitsSpec.post enc Try.prog Try.f10 false true false false) :=
  law_lift (C := Try.checked) (tb := Try.f10.resultTypes.getD 0 0) own started (by kernel_rfl) Try.func10 laid (by kernel_rfl) (by kernel_rfl) (by kernel_rfl) rfl
    (fun ds h => by
      have h : ds.length = 4 := h.trans (by kernel_rfl)
      match ds, h with
      | [_, _, _, _], _ => rfl)
    (ChangeSpec.witness6 (enc := enc) (C := Try.checked) false ⟨#[], #[.int .i64 0, .agg #[.int .i64 0, .int .i64 0, .int .i64 0, .int .i64 0, .int .i64 0, .int .i64 0, .int .i64 0, .int .i64 0], .int .i64 0, .agg #[.int .i64 0, .int .i64 0, .int .i64 0]], []⟩ 8 (by kernel_rfl) (by kernel_rfl) (by kernel_rfl) (by kernel_rfl))
    (fun W base args ds ps _ hval ht hz _ _ => prm_calls (pr := [.flat false [.c (.i .i64)], .flat true [.c (.i .i64), .c (.i .i64), .c (.i .i64), .c (.i .i64), .c (.i .i64), .c (.i .i64), .c (.i .i64), .c (.i .i64)], .flat false [.c (.i .i64)], .flat true [.c (.i .i64), .c (.i .i64), .c (.i .i64)]]) s_astrolabelaw14_DownsSplits (by kernel_rfl) (ts := Try.f10.params.toList) (by kernel_rfl) (by kernel_rfl) downsSplits_trues hval ht hz)
theorem downsSplits_over : Rows.downsSplitsRow.holds Try.pinned (OpenSpec.ofChange Rows.downsSplitsSpec) :=
  OpenClaim.holds_of_wide 10 Try.f10 rfl rfl rfl rfl rfl rfl rfl ⟨rfl, rfl, rfl, rfl, rfl⟩ rfl rfl rfl rfl rfl (by kernel_rfl) Try.func10 (by kernel_rfl)
    (of_decide_eq_true (by kernel_rfl)) (by unfold Func.isWrapper; first | (rw [if_pos (by decide +kernel)]; kernel_rfl) | (rw [if_neg (by decide +kernel)]; exact ⟨rfl, rfl⟩))
    (fun os started H enc _ => downsSplits_lifted os started H enc)
/-- the statement -/
theorem downsSplits_proved : Rows.DownsSplitsSaid := downsSplits_over
#print axioms downsSplits_proved
end Go.Proofs.Ytmlmpcabphgfaaa
