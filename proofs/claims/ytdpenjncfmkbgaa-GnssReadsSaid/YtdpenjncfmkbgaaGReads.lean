/-
  A sample is a fix, or refused, as the document says: the statement of astrolabelaw19.GnssReads; no condition.
-/
import Derived.Test.YtdpenjncfmkbgaaDM
import Derived.Test.YtdpenjncfmkbgaaAbLaw
import Derived.Test.YtdpenjncfmkbgaaAbInv
set_option maxRecDepth 100000
set_option maxHeartbeats 4000000
set_option linter.unusedVariables false
set_option linter.unusedSimpArgs false
namespace Go.Proofs.Ytdpenjncfmkbgaa
open Go.Ab
theorem gnss_awake : f_astrolabelaw19_awake = some true := by kernel_rfl
def wi (x lo hi : Int) : Bool := decide (x ≥ lo) && decide (x ≤ hi)
theorem within_eq (x lo hi : Int) : f_astrolaberef16_within x lo hi = some (wi x lo hi) := by
  unfold f_astrolaberef16_within K_astrolaberef16_within wi
  cases decide (x ≥ lo) <;> rfl
theorem wif (x lo hi : Int) (r : Option Bool) : (bif decide (x < lo) then some false else bif decide (x > hi) then some false else r) = bif wi x lo hi then r else some false := by
  unfold wi
  by_cases h1 : x < lo
  · rw [decide_eq_true h1, cond_true, decide_eq_false (show ¬ x ≥ lo by omega)]; rfl
  · rw [decide_eq_false h1, cond_false, decide_eq_true (show x ≥ lo by omega)]
    by_cases h2 : x > hi
    · rw [decide_eq_true h2, cond_true, decide_eq_false (show ¬ x ≤ hi by omega)]; rfl
    · rw [decide_eq_false h2, cond_false, decide_eq_true (show x ≤ hi by omega)]; rfl
theorem good_same (a b c : Int) : f_astrolaberef4_Good a b c = f_earth_Good a b c := by
  unfold f_astrolaberef4_Good K_astrolaberef4_Good f_earth_Good K_earth_Good
  rfl
theorem good_tot (a b c : Int) : ∃ g, f_earth_Good a b c = some g := by
  unfold f_earth_Good K_earth_Good
  cases decide (a ≥ -900000000) <;> cases decide (a ≤ 900000000) <;> cases decide (b ≥ -1800000000) <;> cases decide (b ≤ 1800000000) <;> cases decide (c ≥ -100000000) <;> exact ⟨_, rfl⟩
section
variable (t v0 v1 v2 v3 v4 v5 v6 v7 : Int)
def gB (g : Bool) (v3 v4 v5 v6 v7 : Int) : Bool := wi v3 (-1000000) 1000000 && (wi v4 (-1000000) 1000000 && (wi v5 (-1000000) 1000000 && (wi v6 1 1000000 && (wi v7 1 1000000 && g))))
theorem gnssGood_eq (g : Bool) (hg : f_earth_Good v0 v1 v2 = some g) : f_gnss_Good t v0 v1 v2 v3 v4 v5 v6 v7 = some (gB g v3 v4 v5 v6 v7) := by
  unfold f_gnss_Good K_gnss_Good f_gnss_place K_gnss_place gB
  rw [Option.bind_some, hg, Option.bind_some, wif, wif, wif, wif, wif]
  cases wi v3 (-1000000) 1000000 <;> cases wi v4 (-1000000) 1000000 <;> cases wi v5 (-1000000) 1000000 <;> cases wi v6 1 1000000 <;> cases wi v7 1 1000000 <;> rfl
theorem spoilt_loop (k : _ → Option Bool) : L_astrolaberef16_Spoilt_0 (3, v0, v1, v2, v3, v4, v5, v6, v7, t, v0, v1, v2, v3, v4, v5, v6, v7) k =
    Option.bind (f_astrolaberef16_within v3 (-1000000) 1000000) fun (d : Bool) => bif !d then k (.inl ()) else
    Option.bind (f_astrolaberef16_within v4 (-1000000) 1000000) fun (d : Bool) => bif !d then k (.inl ()) else
    Option.bind (f_astrolaberef16_within v5 (-1000000) 1000000) fun (d : Bool) => bif !d then k (.inl ()) else
    k (.inr (6, decide ((6 : Int) < 6), v0, v1, v2, v3, v4, v5, v6, v7, t, v0, v1, v2, v3, v4, v5, v6, v7)) := by kernel_rfl
theorem read_loop (h : Bool) (p q r a b : Int) (k : _ → Option (Int × Int × Int × Int × Int × Int × Int × Int × Int × Bool)) : L_gnss_Read_0 (0, h, t, v0, v1, v2, v3, v4, v5, v6, v7, p, q, r, 0, 0, 0, a, b) k =
    Option.bind (f___fx_Acc__MulDiv v3 1073741824 1000 h) fun (d : Int × Bool) => Option.bind (f___fx_Acc__MulDiv v4 1073741824 1000 d.2) fun (d1 : Int × Bool) => Option.bind (f___fx_Acc__MulDiv v5 1073741824 1000 d1.2) fun (d2 : Int × Bool) =>
    k (3, decide ((3 : Int) < 3), d2.2, t, v0, v1, v2, v3, v4, v5, v6, v7, p, q, r, d.1, d1.1, d2.1, a, b) := by kernel_rfl
end
theorem spoilt_eq (t v0 v1 v2 v3 v4 v5 v6 v7 : Int) (g : Bool) (hg : f_earth_Good v0 v1 v2 = some g) : f_astrolaberef16_Spoilt 0 t v0 v1 v2 v3 v4 v5 v6 v7 = some (!gB g v3 v4 v5 v6 v7) := by
  unfold f_astrolaberef16_Spoilt K_astrolaberef16_Spoilt gB
  rw [show ((0 : Int) == 0) = true from rfl, cond_true, spoilt_loop]
  simp only [within_eq, good_same, hg, Option.bind_some, Sum.elim_inl, Sum.elim_inr]
  cases wi v3 (-1000000) 1000000 <;> cases wi v4 (-1000000) 1000000 <;> cases wi v5 (-1000000) 1000000 <;> cases wi v6 1 1000000 <;> cases wi v7 1 1000000 <;> cases g <;> rfl
theorem qdq_le (V D : Int) (hV : 0 ≤ V) (hD : 1 ≤ D) : 0 ≤ qdq V D ∧ qdq V D ≤ V + 1 := by
  unfold qdq
  have h1 := Int.ediv_nonneg hV (show (0 : Int) ≤ D by omega)
  have h2 := Int.ediv_le_self D hV
  split <;> omega
theorem rdq_le (V D B : Int) (hD : 1 ≤ D) (h1 : -B ≤ V) (h2 : V ≤ B) : -(B + 1) ≤ rdq V D ∧ rdq V D ≤ B + 1 := by
  unfold rdq
  have hm : mgq D = D := by unfold mgq; rw [if_neg (by omega)]
  have hv := qdq_le (mgq V) D (mgq_nn V) hD
  have hb : mgq V ≤ B := by unfold mgq; split <;> omega
  rw [hm]
  split <;> omega
/-- a number by a thousandth: no flag -/
theorem thou (v : Int) (h1 : -1000000 ≤ v) (h2 : v ≤ 1000000) : ∃ m, f___fx_Acc__MulDiv v 1073741824 1000 false = some (m, false) := by
  have s1 := sat_id (x := v) (by omega)
  have s2 := sat_id (x := 1073741824) (by omega)
  have s3 := sat_id (x := 1000) (by omega)
  rw [acc_muldiv v 1073741824 1000 false (by rw [s3.1]; decide), s1.1, s2.1, s3.1, s1.2, s2.2, s3.2]
  have hb := rdq_le (v * 1073741824) 1000 1073741824000000 (by omega) (by omega) (by omega)
  have s4 := sat_id (x := rdq (v * 1073741824) 1000) (by omega)
  rw [s4.1, s4.2]
  exact ⟨_, rfl⟩
theorem var_same (a : Int) : ∃ p, f_gnss_variance a = some p ∧ f_astrolaberef16_Var a 1000000 = some p := by
  unfold f_gnss_variance K_gnss_variance f_astrolaberef16_Var K_astrolaberef16_Var
  have s3 := sat_id (x := 1000000) (by omega)
  rw [muldiv_same _ _ 1000000 false (by rw [s3.1]; omega), acc_muldiv _ _ 1000000 false (by rw [s3.1]; omega), Option.bind_some, Option.bind_some, ref_clamp _ _ _ _ (by omega), Option.bind_some]
  refine ⟨_, ?_, rfl⟩
  unfold f___fx_Acc__Clamp K___fx_Acc__Clamp
  generalize sat _ = m
  rw [show decide ((1 : Int) > 72057594037927936) = false from rfl, cond_false]
  by_cases h1 : m < 1
  · rw [decide_eq_true h1, cond_true, if_pos h1]; rfl
  · rw [decide_eq_false h1, cond_false, if_neg h1]
    by_cases h2 : m > 72057594037927936
    · rw [decide_eq_true h2, cond_true, if_pos h2]; rfl
    · rw [decide_eq_false h2, cond_false, if_neg h2]; rfl
theorem gnssReads_plain (t v0 v1 v2 v3 v4 v5 v6 v7 : Int) : f_astrolabelaw19_GnssReads t v0 v1 v2 v3 v4 v5 v6 v7 = some true := by
  obtain ⟨g, hg⟩ := good_tot v0 v1 v2
  have e1 := gnssGood_eq t v0 v1 v2 v3 v4 v5 v6 v7 g hg
  have e2 := spoilt_eq t v0 v1 v2 v3 v4 v5 v6 v7 g hg
  unfold f_astrolabelaw19_GnssReads K_astrolabelaw19_GnssReads
  rw [gnss_awake, Option.bind_some, Bool.not_true, cond_false, e1, e2]
  cases hB : gB g v3 v4 v5 v6 v7
  · have hr : f_gnss_Read t v0 v1 v2 v3 v4 v5 v6 v7 false = some (0, 0, 0, 0, 0, 0, 0, 0, 1, false) := by
      unfold f_gnss_Read K_gnss_Read
      rw [e1, hB]; rfl
    rw [hr]
    rfl
  · unfold gB at hB
    simp only [Bool.and_eq_true] at hB
    obtain ⟨b3, b4, b5, b6, b7, _⟩ := hB
    unfold wi at b3 b4 b5
    simp only [Bool.and_eq_true, decide_eq_true_eq] at b3 b4 b5
    obtain ⟨m3, h3⟩ := thou v3 (by omega) (by omega)
    obtain ⟨m4, h4⟩ := thou v4 (by omega) (by omega)
    obtain ⟨m5, h5⟩ := thou v5 (by omega) (by omega)
    obtain ⟨p6, h6, r6⟩ := var_same v6
    obtain ⟨p7, h7, r7⟩ := var_same v7
    have s3 := sat_id (x := 1000) (by omega)
    have ms : ∀ v, f___astrolaberef2_Acc__MulDiv v 1073741824 1000 false = f___fx_Acc__MulDiv v 1073741824 1000 false := fun v => muldiv_same v 1073741824 1000 false (by rw [s3.1]; omega)
    have hgb : gB g v3 v4 v5 v6 v7 = true := by
      unfold gB wi
      simp only [Bool.and_eq_true, decide_eq_true_eq]
      unfold wi at b6 b7
      simp only [Bool.and_eq_true, decide_eq_true_eq] at b6 b7
      exact ⟨b3, b4, b5, b6, b7, by assumption⟩
    have hr : f_gnss_Read t v0 v1 v2 v3 v4 v5 v6 v7 false = some (v0, v1, v2, m3, m4, m5, p6, p7, 0, false) := by
      unfold f_gnss_Read K_gnss_Read
      rw [e1, hgb, Option.bind_some, Bool.not_true, cond_false]
      unfold f_gnss_place K_gnss_place
      rw [Option.bind_some, h6, Option.bind_some, h7, Option.bind_some, read_loop]
      simp only [h3, h4, h5, Option.bind_some]
    rw [hr]
    simp only [Option.bind_some, ms, h3, h4, h5, r6, r7, beq_self_eq_true, Bool.and_true, Bool.not_true, Bool.not_false, cond_true, cond_false]
    rfl
theorem gnssReads_ev (f : (Int) → (Int) → (Int) → (Int) → (Int) → (Int) → (Int) → (Int) → (Int) → Option Bool) (x0_0 : Int) (x0_1 : Int) (x0_2 : Int) (x0_3 : Int) (x0_4 : Int) (x0_5 : Int) (x0_6 : Int) (x0_7 : Int) (x0_8 : Int) : F_astrolabelaw19_GnssReads f [.r (.agg [.c (.f (.i .i64 x0_0)), .c (.f (.i .i64 x0_1)), .c (.f (.i .i64 x0_2)), .c (.f (.i .i64 x0_3)), .c (.f (.i .i64 x0_4)), .c (.f (.i .i64 x0_5)), .c (.f (.i .i64 x0_6)), .c (.f (.i .i64 x0_7)), .c (.f (.i .i64 x0_8))])] [] = .opt (f x0_0 x0_1 x0_2 x0_3 x0_4 x0_5 x0_6 x0_7 x0_8) fun d => .leaf ⟨.r (.c (.f (.b d))), [], []⟩ := by kernel_rfl
theorem gnssReads_trues : Trues (F_astrolabelaw19_GnssReads f_astrolabelaw19_GnssReads) [.flat true [.c (.i .i64), .c (.i .i64), .c (.i .i64), .c (.i .i64), .c (.i .i64), .c (.i .i64), .c (.i .i64), .c (.i .i64), .c (.i .i64)]] := fun ds h => by
  obtain ⟨_, _, rfl, q0_0, g0⟩ := fit_flat h
  obtain ⟨x0_0, _, rfl, r0_0, q0_1⟩ := f1_i q0_0
  obtain ⟨x0_1, _, rfl, r0_1, q0_2⟩ := f1_i q0_1
  obtain ⟨x0_2, _, rfl, r0_2, q0_3⟩ := f1_i q0_2
  obtain ⟨x0_3, _, rfl, r0_3, q0_4⟩ := f1_i q0_3
  obtain ⟨x0_4, _, rfl, r0_4, q0_5⟩ := f1_i q0_4
  obtain ⟨x0_5, _, rfl, r0_5, q0_6⟩ := f1_i q0_5
  obtain ⟨x0_6, _, rfl, r0_6, q0_7⟩ := f1_i q0_6
  obtain ⟨x0_7, _, rfl, r0_7, q0_8⟩ := f1_i q0_7
  obtain ⟨x0_8, _, rfl, r0_8, q0_9⟩ := f1_i q0_8
  obtain rfl := f1_nil q0_9
  obtain rfl := fit_nil g0
  refine ⟨[], (congrArg T.eval (gnssReads_ev f_astrolabelaw19_GnssReads x0_0 x0_1 x0_2 x0_3 x0_4 x0_5 x0_6 x0_7 x0_8)).trans ?_⟩
  rw [gnssReads_plain x0_0 x0_1 x0_2 x0_3 x0_4 x0_5 x0_6 x0_7 x0_8]
  rfl
set_option maxRecDepth 100000 in
theorem gnssReads_lifted (os : Os) (started : os.Started) (H : Type) (enc : TypeId × Value → H) :
    ReturnsInHanded {} Try.checked os 4 .any (Rows.gnssReadsSpec.pre6 enc Try.prog Try.f4 Rows.gnssReadsRow.domain false) (Rows.gnssReadsSpec.post enc Try.prog Try.f4 false true false false) :=
  law_lift (C := Try.checked) (tb := Try.f4.resultTypes.getD 0 0) own started (by kernel_rfl) Try.func4 laid (by kernel_rfl) (by kernel_rfl) (by kernel_rfl) rfl
    (fun ds h => by
      have h : ds.length = 1 := h.trans (by kernel_rfl)
      match ds, h with
      | [_], _ => rfl)
    (ChangeSpec.witness6 (enc := enc) (C := Try.checked) false ⟨#[], #[.agg #[.int .i64 0, .int .i64 0, .int .i64 0, .int .i64 0, .int .i64 0, .int .i64 0, .int .i64 0, .int .i64 0, .int .i64 0]], []⟩ 8 (by kernel_rfl) (by kernel_rfl) (by kernel_rfl) (by kernel_rfl))
    (fun W base args ds ps _ hval ht _ _ _ => prm_calls (pr := [.flat true [.c (.i .i64), .c (.i .i64), .c (.i .i64), .c (.i .i64), .c (.i .i64), .c (.i .i64), .c (.i .i64), .c (.i .i64), .c (.i .i64)]]) s_astrolabelaw19_GnssReads (by kernel_rfl) (ts := Try.f4.params.toList) (by kernel_rfl) gnssReads_trues hval ht)
theorem gnssReads_over : Rows.gnssReadsRow.holds Try.pinned (OpenSpec.ofChange Rows.gnssReadsSpec) :=
  OpenClaim.holds_of_wide 4 Try.f4 rfl rfl rfl rfl rfl rfl rfl ⟨rfl, rfl, rfl, rfl, rfl⟩ rfl rfl rfl rfl rfl (by kernel_rfl) Try.func4 (by kernel_rfl)
    (of_decide_eq_true (by kernel_rfl)) (by unfold Func.isWrapper; first | (rw [if_pos (by decide +kernel)]; kernel_rfl) | (rw [if_neg (by decide +kernel)]; exact ⟨rfl, rfl⟩))
    (fun os started H enc _ => gnssReads_lifted os started H enc)
/-- the statement -/
theorem gnssReads_proved : Rows.GnssReadsSaid := gnssReads_over
#print axioms gnssReads_proved
end Go.Proofs.Ytdpenjncfmkbgaa
