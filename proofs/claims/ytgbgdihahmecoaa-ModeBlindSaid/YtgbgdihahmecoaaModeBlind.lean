/-
  What the table does not name makes no difference: the statement of astrolabelaw25.ModeBlind; no condition.
-/
import Derived.Test.YtgbgdihahmecoaaModeT
namespace Go.Proofs.Ytgbgdihahmecoaa
open Go.Ab
theorem t7 (m s : Int) (v h : Bool) (ti he u0 u1 u2 u3 u4 u5 : Bool) (si li pr : Int) (a b : Bool) : den Try.prog (envOf E3) [] 20 7 [mac m s v h, inp ti he u0 u1 u2 u3 u4 u5 si li pr, bv a, bv b] [] =
  (match stM m s v h ti he u0 u5 == stM m s v h ti he u0 u5 &&
    (stS m s v h ti he u0 u1 u2 u5 pr == stS m s v h ti he u0 u1 u2 u5 pr &&
      (stV m s v h ti he u0 u5 si li == stV m s v h ti he u0 u5 si li && (stH m s v h ti he u0 u1 u2 u5 pr == stH m s v h ti he u0 u1 u2 u5 pr && true))) with
  | true => some
      {
        val :=
          AV.r
            (RV.c
              (CV.f
                (FV.b
                  (stM m s v h ti he u0 u5 == stM m s v h ti he u0 u5 &&
                      (stS m s v h ti he u0 u1 u2 u5 pr == stS m s v h ti he u0 u1 u2 u5 pr &&
                        (stV m s v h ti he u0 u5 si li == stV m s v h ti he u0 u5 si li &&
                          (stH m s v h ti he u0 u1 u2 u5 pr == stH m s v h ti he u0 u1 u2 u5 pr && true))) &&
                    (gm m s v h == gm m s v h && (gs m s v h == gs m s v h && true)))))),
        chg := [], news := [] }
  | false => some { val := AV.r (RV.c (CV.f (FV.b false))), chg := [], news := [] }) := by kernel_rfl
theorem c7 (m s : Int) (v h : Bool) (ti he u0 u1 u2 u3 u4 u5 : Bool) (si li pr : Int) (a b : Bool) : den Try.prog (envOf E3) [] 20 7 [mac m s v h, inp ti he u0 u1 u2 u3 u4 u5 si li pr, bv a, bv b] [] = some ⟨bv true, [], []⟩ := by
  rw [t7]; simp
theorem modeBlind_trues : Trues (inl Try.prog E3 [] 20 7) [(true, [.i .i64, .i .i64, .b, .b]), (true, [.b, .b, .b, .b, .b, .b, .b, .b, .i .i64, .i .i64, .i .i64]), (false, [.b]), (false, [.b])] := fun fss h => by
  obtain ⟨_, _, rfl, h0_0, g0⟩ := fits_cons h
  obtain ⟨_, _, rfl, h1_0, g1⟩ := fits_cons g0
  obtain ⟨_, _, rfl, h2_0, g2⟩ := fits_cons g1
  obtain ⟨_, _, rfl, h3_0, g3⟩ := fits_cons g2
  obtain rfl := fits_nil g3
  obtain ⟨x0_0, _, rfl, w0_0, h0_1⟩ := has_i h0_0
  obtain ⟨x0_1, _, rfl, w0_1, h0_2⟩ := has_i h0_1
  obtain ⟨x0_2, _, rfl, h0_3⟩ := has_b h0_2
  obtain ⟨x0_3, _, rfl, h0_4⟩ := has_b h0_3
  obtain rfl := has_nil h0_4
  obtain ⟨x1_0, _, rfl, h1_1⟩ := has_b h1_0
  obtain ⟨x1_1, _, rfl, h1_2⟩ := has_b h1_1
  obtain ⟨x1_2, _, rfl, h1_3⟩ := has_b h1_2
  obtain ⟨x1_3, _, rfl, h1_4⟩ := has_b h1_3
  obtain ⟨x1_4, _, rfl, h1_5⟩ := has_b h1_4
  obtain ⟨x1_5, _, rfl, h1_6⟩ := has_b h1_5
  obtain ⟨x1_6, _, rfl, h1_7⟩ := has_b h1_6
  obtain ⟨x1_7, _, rfl, h1_8⟩ := has_b h1_7
  obtain ⟨x1_8, _, rfl, w1_8, h1_9⟩ := has_i h1_8
  obtain ⟨x1_9, _, rfl, w1_9, h1_10⟩ := has_i h1_9
  obtain ⟨x1_10, _, rfl, w1_10, h1_11⟩ := has_i h1_10
  obtain rfl := has_nil h1_11
  obtain ⟨x2_0, _, rfl, h2_1⟩ := has_b h2_0
  obtain rfl := has_nil h2_1
  obtain ⟨x3_0, _, rfl, h3_1⟩ := has_b h3_0
  obtain rfl := has_nil h3_1
  exact ⟨[], inl_eval (c7 x0_0 x0_1 x0_2 x0_3 x1_0 x1_1 x1_2 x1_3 x1_4 x1_5 x1_6 x1_7 x1_8 x1_9 x1_10 x2_0 x3_0)⟩
set_option maxRecDepth 100000 in
theorem modeBlind_lifted (os : Os) (started : os.Started) (H : Type) (enc : TypeId × Value → H) :
    ReturnsInHanded {} Try.checked os 7 .any (Rows.modeBlindSpec.pre6 enc Try.prog Try.f7 Rows.modeBlindRow.domain false) (Rows.modeBlindSpec.post enc Try.prog Try.f7 false true false false) :=
  law_lift (C := Try.checked) (tb := Try.f7.resultTypes.getD 0 0) own started (by kernel_rfl) Try.func7 laid (by kernel_rfl) (by kernel_rfl) (by kernel_rfl) rfl
    (fun ds h => by
      have h : ds.length = 4 := h.trans (by kernel_rfl)
      match ds, h with
      | [_, _, _, _], _ => rfl)
    (ChangeSpec.witness6 (enc := enc) (C := Try.checked) false ⟨#[], #[.agg #[.int .i64 0, .int .i64 0, .bool false, .bool false], .agg #[.bool false, .bool false, .bool false, .bool false, .bool false, .bool false, .bool false, .bool false, .int .i64 0, .int .i64 0, .int .i64 0], .bool false, .bool false], []⟩ 8 (by kernel_rfl) (by kernel_rfl) (by kernel_rfl) (by kernel_rfl))
    (fun W base args ds ps hsz hval _ _ _ _ => flat_calls (ts := Try.f7.params.toList) (inl_sound E3_ok mixed [] 20 (by kernel_rfl)) (by kernel_rfl) (by kernel_rfl) modeBlind_trues hsz hval)
theorem modeBlind_over : Rows.modeBlindRow.holds Try.pinned (OpenSpec.ofChange Rows.modeBlindSpec) :=
  OpenClaim.holds_of_wide 7 Try.f7 rfl rfl rfl rfl rfl rfl rfl ⟨rfl, rfl, rfl, rfl, rfl⟩ rfl rfl rfl rfl rfl (by kernel_rfl) Try.func7 (by kernel_rfl)
    (of_decide_eq_true (by kernel_rfl)) (by unfold Func.isWrapper; first | (rw [if_pos (by decide +kernel)]; kernel_rfl) | (rw [if_neg (by decide +kernel)]; exact ⟨rfl, rfl⟩))
    (fun os started H enc _ => modeBlind_lifted os started H enc)
/-- the statement -/
theorem modeBlind_proved : Rows.ModeBlindSaid := modeBlind_over
#print axioms modeBlind_proved
end Go.Proofs.Ytgbgdihahmecoaa
