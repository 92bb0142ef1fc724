/-
  Samples are put together as the document says; those that may not be change nothing (P14.1): the statement of astrolabelaw14.DownsPlays; no condition.
-/
import Derived.Test.YtmlmpcabphgfaaaDGood
import Derived.Test.YtmlmpcabphgfaaaWU
set_option maxRecDepth 100000
set_option maxHeartbeats 4000000
set_option linter.unusedVariables false
set_option linter.unusedSimpArgs false
namespace Go.Proofs.Ytmlmpcabphgfaaa
open Go.Ab
theorem put_bad (t d a0 a1 a2 v0 v1 v2 target st sd s0 s1 s2 r0 r1 r2 : Int) (any hit : Bool) (hg : f_downs_Good t d a0 a1 a2 v0 v1 v2 = some false) :
    f___downs_Sampler__Put t d a0 a1 a2 v0 v1 v2 target st sd s0 s1 s2 r0 r1 r2 any hit = some (0, 0, 0, 0, 0, 0, 0, 0, false, 1, target, st, sd, s0, s1, s2, r0, r1, r2, any, hit) := by
  unfold f___downs_Sampler__Put K___downs_Sampler__Put
  rw [hg, Option.bind_some]; rfl
theorem put_late (t d a0 a1 a2 v0 v1 v2 target st sd s0 s1 s2 r0 r1 r2 : Int) (hit : Bool) (hg : f_downs_Good t d a0 a1 a2 v0 v1 v2 = some true) (h : t ≤ st) :
    f___downs_Sampler__Put t d a0 a1 a2 v0 v1 v2 target st sd s0 s1 s2 r0 r1 r2 true hit = some (0, 0, 0, 0, 0, 0, 0, 0, false, 1, target, st, sd, s0, s1, s2, r0, r1, r2, true, hit) := by
  unfold f___downs_Sampler__Put K___downs_Sampler__Put
  rw [hg, Option.bind_some]
  simp only [Bool.not_true, cond_false, cond_true]
  rw [decide_eq_true h, cond_true]
theorem putR_bad (t d a0 a1 a2 v0 v1 v2 target st T sd s0 s1 s2 r0 r1 r2 : Int) (hg : f_astrolaberef13_Good t d a0 a1 a2 v0 v1 v2 = some false) :
    f___astrolaberef13_Sampler__Put t d a0 a1 a2 v0 v1 v2 target st T sd s0 s1 s2 r0 r1 r2 = some (0, 0, 0, 0, 0, 0, 0, 0, false, 1, target, st, T, sd, s0, s1, s2, r0, r1, r2) := by
  unfold f___astrolaberef13_Sampler__Put K___astrolaberef13_Sampler__Put
  rw [hg, Option.bind_some]; rfl
theorem putR_late (t d a0 a1 a2 v0 v1 v2 target st T sd s0 s1 s2 r0 r1 r2 : Int) (hg : f_astrolaberef13_Good t d a0 a1 a2 v0 v1 v2 = some true) (h : t ≤ st) :
    f___astrolaberef13_Sampler__Put t d a0 a1 a2 v0 v1 v2 target st T sd s0 s1 s2 r0 r1 r2 = some (0, 0, 0, 0, 0, 0, 0, 0, false, 1, target, st, T, sd, s0, s1, s2, r0, r1, r2) := by
  unfold f___astrolaberef13_Sampler__Put K___astrolaberef13_Sampler__Put
  rw [hg, Option.bind_some]
  simp only [Bool.not_true, cond_false]
  rw [decide_eq_true h, cond_true]
def putG (t d a0 a1 a2 v0 v1 v2 target : Int) : Int × Int × Int × Int × Int × Int × Int × Int × Bool × Int × Int × Int × Int × Int × Int × Int × Int × Int × Int × Int :=
  if d < target then (0, 0, 0, 0, 0, 0, 0, 0, false, 0, target, t, t, d, a0, a1, a2, v0, v1, v2)
  else (t, d, a0, a1, a2, v0, v1, v2, true, 0, target, t, 0, 0, 0, 0, 0, 0, 0, 0)
theorem putR_eq (t d a0 a1 a2 v0 v1 v2 target st T sd s0 s1 s2 r0 r1 r2 : Int) (hg : f_astrolaberef13_Good t d a0 a1 a2 v0 v1 v2 = some true) (ht : st < t) (hd : 0 ≤ d ∧ d ≤ 100000) (hd' : 0 ≤ sd ∧ sd ≤ 100000)
    (ha0 : mid a0) (ha1 : mid a1) (ha2 : mid a2) (hv0 : mid v0) (hv1 : mid v1) (hv2 : mid v2) (hb0 : mid s0) (hb1 : mid s1) (hb2 : mid s2) (hw0 : mid r0) (hw1 : mid r1) (hw2 : mid r2) :
    f___astrolaberef13_Sampler__Put t d a0 a1 a2 v0 v1 v2 target st T sd s0 s1 s2 r0 r1 r2 = some (putG t (sd + d) (s0 + a0) (s1 + a1) (s2 + a2) (r0 + v0) (r1 + v1) (r2 + v2) target) := by
  unfold f___astrolaberef13_Sampler__Put K___astrolaberef13_Sampler__Put putG
  rw [hg, Option.bind_some]
  simp only [Bool.not_true, cond_false]
  rw [decide_eq_false (show ¬ t ≤ st by omega), cond_false]
  rw [show IntKind.wrap .i64 (sd + d) = sd + d from wrap_i64 (by omega) (by omega), show IntKind.wrap .i64 (s0 + a0) = s0 + a0 from wrap_i64 (by omega) (by omega), show IntKind.wrap .i64 (s1 + a1) = s1 + a1 from wrap_i64 (by omega) (by omega),
    show IntKind.wrap .i64 (s2 + a2) = s2 + a2 from wrap_i64 (by omega) (by omega), show IntKind.wrap .i64 (r0 + v0) = r0 + v0 from wrap_i64 (by omega) (by omega), show IntKind.wrap .i64 (r1 + v1) = r1 + v1 from wrap_i64 (by omega) (by omega),
    show IntKind.wrap .i64 (r2 + v2) = r2 + v2 from wrap_i64 (by omega) (by omega)]
  by_cases c : sd + d < target
  · rw [decide_eq_true c, cond_true, if_pos c]
  · rw [decide_eq_false c, cond_false, if_neg c]
abbrev upto (i : Nat) (x : Int) : Prop := -((i : Int) * 34359738368) ≤ x ∧ x ≤ (i : Int) * 34359738368
theorem downsPlays_plain (x0 : Int) (n : Nat) (x2 x3 x4 x5 x6 x7 x8 x9 : Nat → Int) (w0 : Bool) : f_astrolabelaw14_DownsPlays x0 n x2 x3 x4 x5 x6 x7 x8 x9 w0 = some true := by
  unfold f_astrolabelaw14_DownsPlays K_astrolabelaw14_DownsPlays
  rw [downs_awake, Option.bind_some]
  simp only [Bool.not_true, cond_false]
  by_cases c1 : x0 < 1000
  · have e : f_downs_New x0 = some (Sum.inl ()) := by
      unfold f_downs_New K_downs_New
      rw [decide_eq_true c1, cond_true]
    rw [e, Option.bind_some]
    simp only [cond_true, Option.bind_some]
    rw [decide_eq_true c1, cond_true]
  by_cases c2 : x0 > 100000
  · have e : f_downs_New x0 = some (Sum.inl ()) := by
      unfold f_downs_New K_downs_New
      rw [decide_eq_false c1, cond_false, decide_eq_true c2, cond_true]
    rw [e, Option.bind_some]
    simp only [cond_true, Option.bind_some]
    rw [decide_eq_false c1, cond_false, decide_eq_true c2, cond_true]
  rw [downs_new x0 c1 c2, Option.bind_some]
  simp only [cond_false, Option.bind_some]
  rw [decide_eq_false c1, cond_false, decide_eq_false c2, cond_false]
  by_cases c3 : Int.ofNat n > 100
  · rw [decide_eq_true c3, cond_true]
  rw [decide_eq_false c3, cond_false]
  have n100 : n ≤ 100 := by simp only [Int.ofNat_eq_natCast] at c3; omega
  rw [show f_astrolabelaw14_own x0 = some x0 from rfl, Option.bind_some]
  unfold L_astrolabelaw14_DownsPlays_0
  refine loopK_inv (fun t d => ∃ (i : Nat) (any : Bool) (st last T sd s0 s1 s2 r0 r1 r2 : Int), i + t = n ∧ (any = true → st = last) ∧ (any = false → last = -1) ∧ (0 ≤ sd ∧ sd < x0) ∧ upto i s0 ∧ upto i s1 ∧ upto i s2 ∧ upto i r0 ∧ upto i r1 ∧ upto i r2 ∧
      d = (n, w0, Int.ofNat i, x0, n, x2, x3, x4, x5, x6, x7, x8, x9, x0, st, sd, s0, s1, s2, r0, r1, r2, any, x0, last, T, sd, s0, s1, s2, r0, r1, r2, false)) ?_ 200 n _ (by omega)
    ⟨0, false, 0, -1, 0, 0, 0, 0, 0, 0, 0, 0, by omega, (fun h => by cases h), (fun _ => rfl), by omega, by omega, by omega, by omega, by omega, by omega, by omega, rfl⟩
  rintro t _ c ⟨i, any, st, last, T, sd, s0, s1, s2, r0, r1, r2, hi, hany, hany', hsd, hs0, hs1, hs2, hr0, hr1, hr2, rfl⟩ hc
  rcases Nat.eq_zero_or_pos t with t0 | t0
  · have e : i = n := by omega
    subst e
    simp only [S_astrolabelaw14_DownsPlays_0, idx_ge (Nat.le_refl i), cond_false, Sum.elim_inr, Bool.not_false]
  have q : Int.toNat (Int.ofNat i) = i := rfl
  simp only [S_astrolabelaw14_DownsPlays_0, idx_lt hi t0, idx_in (show i < n by omega), cond_true, q, idx_up (show i < 9000000000000000000 by omega)]
  have refused : ∀ (b : Bool), f_downs_Good (x2 i) (x3 i) (x4 i) (x5 i) (x6 i) (x7 i) (x8 i) (x9 i) = some b → f_astrolaberef13_Good (x2 i) (x3 i) (x4 i) (x5 i) (x6 i) (x7 i) (x8 i) (x9 i) = some b → c (n, w0, Int.ofNat (i + 1), x0, n, x2, x3, x4, x5, x6, x7, x8, x9, x0, st, sd, s0, s1, s2, r0, r1, r2, any, x0, last, T, sd, s0, s1, s2, r0, r1, r2, false) = some true := fun b _ _ =>
    hc (t - 1) _ (by omega) ⟨i + 1, any, st, last, T, sd, s0, s1, s2, r0, r1, r2, by omega, hany, hany', hsd, by omega, by omega, by omega, by omega, by omega, by omega, rfl⟩
  rcases good_both (x2 i) (x3 i) (x4 i) (x5 i) (x6 i) (x7 i) (x8 i) (x9 i) with ⟨g, g', ok⟩ | ⟨g, g'⟩
  · obtain ⟨o1, o2, o3, o4, o5, o6, o7, o8⟩ := ok
    by_cases late : x2 i ≤ last
    · cases any with
      | false =>
        have := hany' rfl
        omega
      | true =>
        have := hany rfl
        rw [put_late _ _ _ _ _ _ _ _ _ _ _ _ _ _ _ _ _ _ g (by omega), Option.bind_some, putR_late _ _ _ _ _ _ _ _ _ _ _ _ _ _ _ _ _ _ g' late]
        simp only [Option.bind_some, beq_self_eq_true, Bool.and_self, Bool.not_true, cond_false, bne_self_eq_false, downs_pending, g, g', cond_true]
        exact refused true g g'
    · have ht : any = false ∨ st < x2 i := by
        cases any with
        | false => exact .inl rfl
        | true => have := hany rfl; exact .inr (by omega)
      have P1 := put_eq (x2 i) (x3 i) (x4 i) (x5 i) (x6 i) (x7 i) (x8 i) (x9 i) x0 st sd s0 s1 s2 r0 r1 r2 any false g ht (by omega) (by omega) (by omega) (by omega) (by omega) (by omega) (by omega) (by omega) (by omega) (by omega) (by omega) (by omega) (by omega) (by omega)
      have P2 := putR_eq (x2 i) (x3 i) (x4 i) (x5 i) (x6 i) (x7 i) (x8 i) (x9 i) x0 last T sd s0 s1 s2 r0 r1 r2 g' (by omega) (by omega) (by omega) (by omega) (by omega) (by omega) (by omega) (by omega) (by omega) (by omega) (by omega) (by omega) (by omega) (by omega) (by omega)
      rw [P1, Option.bind_some, P2, Option.bind_some]
      unfold putF putG
      by_cases f : sd + x3 i < x0
      · rw [if_pos f, if_pos f]
        simp only [Option.bind_some, beq_self_eq_true, Bool.and_self, Bool.not_true, cond_false, bne_self_eq_false, downs_pending, g, g', cond_true, Bool.not_false]
        exact hc (t - 1) _ (by omega) ⟨i + 1, true, x2 i, x2 i, x2 i, sd + x3 i, s0 + x4 i, s1 + x5 i, s2 + x6 i, r0 + x7 i, r1 + x8 i, r2 + x9 i, by omega, (fun _ => rfl), (fun h => by cases h), by omega, by omega, by omega, by omega, by omega, by omega, by omega, rfl⟩
      · rw [if_neg f, if_neg f]
        simp only [Option.bind_some, beq_self_eq_true, Bool.and_self, Bool.not_true, cond_false, bne_self_eq_false, downs_pending, g, g', cond_true, Bool.not_false]
        exact hc (t - 1) _ (by omega) ⟨i + 1, true, x2 i, x2 i, 0, 0, 0, 0, 0, 0, 0, 0, by omega, (fun _ => rfl), (fun h => by cases h), by omega, by omega, by omega, by omega, by omega, by omega, by omega, rfl⟩
  · rw [put_bad _ _ _ _ _ _ _ _ _ _ _ _ _ _ _ _ _ _ _ g, Option.bind_some, putR_bad _ _ _ _ _ _ _ _ _ _ _ _ _ _ _ _ _ _ g']
    simp only [Option.bind_some, beq_self_eq_true, Bool.and_self, Bool.not_true, cond_false, bne_self_eq_false, downs_pending, g, g', cond_true, Bool.not_false]
    exact refused false g g'
theorem downsPlays_ev (f : (Int) → (Nat) → (Nat → Int) → (Nat → Int) → (Nat → Int) → (Nat → Int) → (Nat → Int) → (Nat → Int) → (Nat → Int) → (Nat → Int) → Bool → Option Bool) (x0_0 : Int) (n1 : Nat) (x1_0 : Nat → Int) (x1_1 : Nat → Int) (x1_2 : Nat → Int) (x1_3 : Nat → Int) (x1_4 : Nat → Int) (x1_5 : Nat → Int) (x1_6 : Nat → Int) (x1_7 : Nat → Int) : F_astrolabelaw14_DownsPlays f [.r (.c (.f (.i .i64 x0_0))), .r (.c (.sl 0 (.k 0) (.s n1) 8 false))] [[.a (.s n1) [.i .i64 x1_0, .i .i64 x1_1, .i .i64 x1_2, .i .i64 x1_3, .i .i64 x1_4, .i .i64 x1_5, .i .i64 x1_6, .i .i64 x1_7]]] = .test (Nat.beq n1 n1) (.opt (f x0_0 n1 x1_0 x1_1 x1_2 x1_3 x1_4 x1_5 x1_6 x1_7 false) fun d => .leaf ⟨.r (.c (.f (.b d))), [.keep], []⟩) .fail := by kernel_rfl
theorem downsPlays_trues : Trues (F_astrolabelaw14_DownsPlays f_astrolabelaw14_DownsPlays) [.flat false [.c (.i .i64)], .sl [.i .i64, .i .i64, .i .i64, .i .i64, .i .i64, .i .i64, .i .i64, .i .i64]] := fun ds h => by
  obtain ⟨_, _, rfl, q0_0, g0⟩ := fit_flat h
  obtain ⟨x0_0, _, rfl, r0_0, q0_1⟩ := f1_i q0_0
  obtain rfl := f1_nil q0_1
  obtain ⟨n1, c1, _, rfl, m1, q1_0, g1⟩ := fit_sl g0
  obtain ⟨x1_0, _, rfl, r1_0, q1_1⟩ := col_i q1_0
  obtain ⟨x1_1, _, rfl, r1_1, q1_2⟩ := col_i q1_1
  obtain ⟨x1_2, _, rfl, r1_2, q1_3⟩ := col_i q1_2
  obtain ⟨x1_3, _, rfl, r1_3, q1_4⟩ := col_i q1_3
  obtain ⟨x1_4, _, rfl, r1_4, q1_5⟩ := col_i q1_4
  obtain ⟨x1_5, _, rfl, r1_5, q1_6⟩ := col_i q1_5
  obtain ⟨x1_6, _, rfl, r1_6, q1_7⟩ := col_i q1_6
  obtain ⟨x1_7, _, rfl, r1_7, q1_8⟩ := col_i q1_7
  obtain rfl := col_nil q1_8
  obtain rfl := fit_nil g1
  refine ⟨[], (congrArg T.eval (downsPlays_ev f_astrolabelaw14_DownsPlays x0_0 n1 x1_0 x1_1 x1_2 x1_3 x1_4 x1_5 x1_6 x1_7)).trans ?_⟩
  rw [nbeq_self n1]
  rw [downsPlays_plain x0_0 n1 x1_0 x1_1 x1_2 x1_3 x1_4 x1_5 x1_6 x1_7 false]
  rfl
set_option maxRecDepth 100000 in
theorem downsPlays_lifted (os : Os) (started : os.Started) (H : Type) (enc : TypeId × Value → H) :
    ReturnsInHanded {} Try.checked os 8 .any (Rows.downsPlaysSpec.pre6 enc Try.prog Try.f8 Rows.downsPlaysRow.domain false) (Rows.downsPlaysSpec.post enc Try.prog Try.f8 false true false false) :=
  law_lift (C := Try.checked) (tb := Try.f8.resultTypes.getD 0 0) own started (by kernel_rfl) Try.func8 laid (by kernel_rfl) (by kernel_rfl) (by kernel_rfl) rfl
    (fun ds h => by
      have h : ds.length = 2 := h.trans (by kernel_rfl)
      match ds, h with
      | [_, _], _ => rfl)
    (ChangeSpec.witness6 (enc := enc) (C := Try.checked) false ⟨#[], #[.int .i64 0, .slice none 0 0], []⟩ 8 (by kernel_rfl) (by kernel_rfl) (by kernel_rfl) (by kernel_rfl))
    (fun W base args ds ps _ hval ht hz _ _ => prm_calls (pr := [.flat false [.c (.i .i64)], .sl [.i .i64, .i .i64, .i .i64, .i .i64, .i .i64, .i .i64, .i .i64, .i .i64]]) s_astrolabelaw14_DownsPlays (by kernel_rfl) (ts := Try.f8.params.toList) (by kernel_rfl) (by kernel_rfl) downsPlays_trues hval ht hz)
theorem downsPlays_over : Rows.downsPlaysRow.holds Try.pinned (OpenSpec.ofChange Rows.downsPlaysSpec) :=
  OpenClaim.holds_of_wide 8 Try.f8 rfl rfl rfl rfl rfl rfl rfl ⟨rfl, rfl, rfl, rfl, rfl⟩ rfl rfl rfl rfl rfl (by kernel_rfl) Try.func8 (by kernel_rfl)
    (of_decide_eq_true (by kernel_rfl)) (by unfold Func.isWrapper; first | (rw [if_pos (by decide +kernel)]; kernel_rfl) | (rw [if_neg (by decide +kernel)]; exact ⟨rfl, rfl⟩))
    (fun os started H enc _ => downsPlays_lifted os started H enc)
/-- the statement -/
theorem downsPlays_proved : Rows.DownsPlaysSaid := downsPlays_over
#print axioms downsPlays_proved
end Go.Proofs.Ytmlmpcabphgfaaa
