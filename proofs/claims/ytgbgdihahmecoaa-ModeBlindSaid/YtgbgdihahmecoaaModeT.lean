/-
  A step of the mode machine, and the document's own step: what they compute.
-/
import Derived.Test.YtgbgdihahmecoaaModeS
namespace Go.Proofs.Ytgbgdihahmecoaa
open Go.Ab
def gm (m s : Int) (v h : Bool) : Int := match goodV m s v h with
  | true => m
  | false => 0
def gs (m s : Int) (v h : Bool) : Int := match goodV m s v h with
  | true => s
  | false => 0
def stM (m s : Int) (v h ti he u0 u5 : Bool) : Int := nextV (gm m s v h) ti he u0 u5
def stS (m s : Int) (v h ti he u0 u1 u2 u5 : Bool) (pr : Int) : Int := match decide (stM m s v h ti he u0 u5 ≥ 2) with
  | true => (srcV (gs m s v h) pr u0 u1 u2).1
  | false => 0
def stV (m s : Int) (v h ti he u0 u5 : Bool) (si li : Int) : Bool := match decide (stM m s v h ti he u0 u5 ≥ 2) with
  | true => match stM m s v h ti he u0 u5 == 3 with
    | true => true
    | false => match decide (si ≥ 0) with
      | true => decide (si ≤ li)
      | false => false
  | false => false
def stH (m s : Int) (v h ti he u0 u1 u2 u5 : Bool) (pr : Int) : Bool := match decide (stM m s v h ti he u0 u5 ≥ 2) with
  | true => !(srcV (gs m s v h) pr u0 u1 u2).2
  | false => false
abbrev stC (m s : Int) (v h ti he u0 u1 u2 u5 : Bool) (si li pr : Int) : List CV := [ic (stM m s v h ti he u0 u5), ic (stS m s v h ti he u0 u1 u2 u5 pr), bc (stV m s v h ti he u0 u5 si li), bc (stH m s v h ti he u0 u1 u2 u5 pr)]
abbrev stR (m s : Int) (v h ti he u0 u1 u2 u5 : Bool) (si li pr : Int) : AV := .tup [.agg (stC m s v h ti he u0 u1 u2 u5 si li pr), .agg (stC m s v h ti he u0 u1 u2 u5 si li pr ++ [ic (gm m s v h), ic (gs m s v h)])]

abbrev E10 : List (Nat × Sem1) := [(17, F17), (13, F13), (18, F18)]
theorem E10_ok : EnvOK Try.prog E10 := .cons s17 (.cons s13 (.cons s18 (.nil _)))
theorem t10 (m s : Int) (v h : Bool) (ti he u0 u1 u2 u3 u4 u5 : Bool) (si li pr : Int) : den Try.prog (envOf E10) [] 20 10 [mac m s v h, inp ti he u0 u1 u2 u3 u4 u5 si li pr] [] =
  (match !goodV m s v h with
  | true => (match decide (nextV 0 ti he u0 u5 ≥ 2) with
    | true => (match nextV 0 ti he u0 u5 == 3 with
      | true => some
          {
            val :=
              AV.tup
                [RV.agg
                    [CV.f (FV.i IntKind.i64 (nextV 0 ti he u0 u5)), CV.f (FV.i IntKind.i64 (srcV 0 pr u0 u1 u2).fst), CV.f (FV.b true),
                      CV.f (FV.b !(srcV 0 pr u0 u1 u2).snd)],
                  RV.agg
                    [CV.f (FV.i IntKind.i64 (nextV 0 ti he u0 u5)), CV.f (FV.i IntKind.i64 (srcV 0 pr u0 u1 u2).fst), CV.f (FV.b true),
                      CV.f (FV.b !(srcV 0 pr u0 u1 u2).snd), CV.f (FV.i IntKind.i64 0), CV.f (FV.i IntKind.i64 0)]],
            chg := [], news := [] }
      | false => (match decide (si ≥ 0) with
        | true => some
            {
              val :=
                AV.tup
                  [RV.agg
                      [CV.f (FV.i IntKind.i64 (nextV 0 ti he u0 u5)), CV.f (FV.i IntKind.i64 (srcV 0 pr u0 u1 u2).fst), CV.f (FV.b (decide (si ≤ li))),
                        CV.f (FV.b !(srcV 0 pr u0 u1 u2).snd)],
                    RV.agg
                      [CV.f (FV.i IntKind.i64 (nextV 0 ti he u0 u5)), CV.f (FV.i IntKind.i64 (srcV 0 pr u0 u1 u2).fst), CV.f (FV.b (decide (si ≤ li))),
                        CV.f (FV.b !(srcV 0 pr u0 u1 u2).snd), CV.f (FV.i IntKind.i64 0), CV.f (FV.i IntKind.i64 0)]],
              chg := [], news := [] }
        | false => some
            {
              val :=
                AV.tup
                  [RV.agg
                      [CV.f (FV.i IntKind.i64 (nextV 0 ti he u0 u5)), CV.f (FV.i IntKind.i64 (srcV 0 pr u0 u1 u2).fst), CV.f (FV.b false),
                        CV.f (FV.b !(srcV 0 pr u0 u1 u2).snd)],
                    RV.agg
                      [CV.f (FV.i IntKind.i64 (nextV 0 ti he u0 u5)), CV.f (FV.i IntKind.i64 (srcV 0 pr u0 u1 u2).fst), CV.f (FV.b false),
                        CV.f (FV.b !(srcV 0 pr u0 u1 u2).snd), CV.f (FV.i IntKind.i64 0), CV.f (FV.i IntKind.i64 0)]],
              chg := [], news := [] }))
    | false => some
        {
          val :=
            AV.tup
              [RV.agg [CV.f (FV.i IntKind.i64 (nextV 0 ti he u0 u5)), CV.f (FV.i IntKind.i64 0), CV.f (FV.b false), CV.f (FV.b false)],
                RV.agg
                  [CV.f (FV.i IntKind.i64 (nextV 0 ti he u0 u5)), CV.f (FV.i IntKind.i64 0), CV.f (FV.b false), CV.f (FV.b false), CV.f (FV.i IntKind.i64 0),
                    CV.f (FV.i IntKind.i64 0)]],
          chg := [], news := [] })
  | false => (match decide (nextV m ti he u0 u5 ≥ 2) with
    | true => (match nextV m ti he u0 u5 == 3 with
      | true => some
          {
            val :=
              AV.tup
                [RV.agg
                    [CV.f (FV.i IntKind.i64 (nextV m ti he u0 u5)), CV.f (FV.i IntKind.i64 (srcV s pr u0 u1 u2).fst), CV.f (FV.b true),
                      CV.f (FV.b !(srcV s pr u0 u1 u2).snd)],
                  RV.agg
                    [CV.f (FV.i IntKind.i64 (nextV m ti he u0 u5)), CV.f (FV.i IntKind.i64 (srcV s pr u0 u1 u2).fst), CV.f (FV.b true),
                      CV.f (FV.b !(srcV s pr u0 u1 u2).snd), CV.f (FV.i IntKind.i64 m), CV.f (FV.i IntKind.i64 s)]],
            chg := [], news := [] }
      | false => (match decide (si ≥ 0) with
        | true => some
            {
              val :=
                AV.tup
                  [RV.agg
                      [CV.f (FV.i IntKind.i64 (nextV m ti he u0 u5)), CV.f (FV.i IntKind.i64 (srcV s pr u0 u1 u2).fst), CV.f (FV.b (decide (si ≤ li))),
                        CV.f (FV.b !(srcV s pr u0 u1 u2).snd)],
                    RV.agg
                      [CV.f (FV.i IntKind.i64 (nextV m ti he u0 u5)), CV.f (FV.i IntKind.i64 (srcV s pr u0 u1 u2).fst), CV.f (FV.b (decide (si ≤ li))),
                        CV.f (FV.b !(srcV s pr u0 u1 u2).snd), CV.f (FV.i IntKind.i64 m), CV.f (FV.i IntKind.i64 s)]],
              chg := [], news := [] }
        | false => some
            {
              val :=
                AV.tup
                  [RV.agg
                      [CV.f (FV.i IntKind.i64 (nextV m ti he u0 u5)), CV.f (FV.i IntKind.i64 (srcV s pr u0 u1 u2).fst), CV.f (FV.b false),
                        CV.f (FV.b !(srcV s pr u0 u1 u2).snd)],
                    RV.agg
                      [CV.f (FV.i IntKind.i64 (nextV m ti he u0 u5)), CV.f (FV.i IntKind.i64 (srcV s pr u0 u1 u2).fst), CV.f (FV.b false),
                        CV.f (FV.b !(srcV s pr u0 u1 u2).snd), CV.f (FV.i IntKind.i64 m), CV.f (FV.i IntKind.i64 s)]],
              chg := [], news := [] }))
    | false => some
        {
          val :=
            AV.tup
              [RV.agg [CV.f (FV.i IntKind.i64 (nextV m ti he u0 u5)), CV.f (FV.i IntKind.i64 0), CV.f (FV.b false), CV.f (FV.b false)],
                RV.agg
                  [CV.f (FV.i IntKind.i64 (nextV m ti he u0 u5)), CV.f (FV.i IntKind.i64 0), CV.f (FV.b false), CV.f (FV.b false), CV.f (FV.i IntKind.i64 m),
                    CV.f (FV.i IntKind.i64 s)]],
          chg := [], news := [] })) := by kernel_rfl
theorem c10 (m s : Int) (v h : Bool) (ti he u0 u1 u2 u3 u4 u5 : Bool) (si li pr : Int) : den Try.prog (envOf E10) [] 20 10 [mac m s v h, inp ti he u0 u1 u2 u3 u4 u5 si li pr] [] = some ⟨stR m s v h ti he u0 u1 u2 u5 si li pr, [], []⟩ := by
  rw [t10]; unfold stR stC stS stV stH stM gm gs
  cases goodV m s v h
  · dsimp only [Bool.not_false, Bool.not_true]
    cases decide (nextV 0 ti he u0 u5 ≥ 2) <;> cases (nextV 0 ti he u0 u5 == 3) <;> cases decide (si ≥ 0) <;> rfl
  · dsimp only [Bool.not_false, Bool.not_true]
    cases decide (nextV m ti he u0 u5 ≥ 2) <;> cases (nextV m ti he u0 u5 == 3) <;> cases decide (si ≥ 0) <;> rfl
def F10 : Sem1
  | [.r (.agg [.f (.i .i64 m), .f (.i .i64 s), .f (.b v), .f (.b h)]), .r (.agg [.f (.b ti), .f (.b he), .f (.b u0), .f (.b u1), .f (.b u2), .f (.b _), .f (.b _), .f (.b u5), .f (.i .i64 si), .f (.i .i64 li), .f (.i .i64 pr)])], [] =>
    .leaf ⟨stR m s v h ti he u0 u1 u2 u5 si li pr, [], []⟩
  | _, _ => .fail
theorem s10 : Sound Try.prog 10 F10 := (inl_sound E10_ok mixed [] 20 (by kernel_rfl)).by fun args b r hr => by
  unfold F10 at hr
  split at hr
  · cases hr; exact inl_eval (c10 ..)
  · cases hr

theorem t14 (m s : Int) (v h : Bool) : den Try.prog (envOf []) [] 20 14 [mac m s v h] [] =
  (match decide (m < 0) with
  | true => some { val := AV.r (RV.c (CV.f (FV.b false))), chg := [], news := [] }
  | false => (match decide (m > 3) with
    | true => some { val := AV.r (RV.c (CV.f (FV.b false))), chg := [], news := [] }
    | false => (match decide (m < 2) with
      | true => (match s == 0 with
        | true => (match !v with
          | true => some { val := AV.r (RV.c (CV.f (FV.b !h))), chg := [], news := [] }
          | false => some { val := AV.r (RV.c (CV.f (FV.b false))), chg := [], news := [] })
        | false => some { val := AV.r (RV.c (CV.f (FV.b false))), chg := [], news := [] })
      | false => (match decide (s ≥ 1) with
        | true => (match decide (s ≤ 3) with
          | true => (match m != 3 with
            | true => some { val := AV.r (RV.c (CV.f (FV.b true))), chg := [], news := [] }
            | false => some { val := AV.r (RV.c (CV.f (FV.b v))), chg := [], news := [] })
          | false => some { val := AV.r (RV.c (CV.f (FV.b false))), chg := [], news := [] })
        | false => some { val := AV.r (RV.c (CV.f (FV.b false))), chg := [], news := [] })))) := by kernel_rfl
theorem c14 (m s : Int) (v h : Bool) : den Try.prog (envOf []) [] 20 14 [mac m s v h] [] = some ⟨bv (goodV m s v h), [], []⟩ := by
  rw [t14]
  have h0 : m < 0 ∨ m = 0 ∨ m = 1 ∨ m = 2 ∨ m = 3 ∨ m > 3 := by omega
  rcases h0 with h0 | rfl | rfl | rfl | rfl | h0
  · have e0 : (m == 0) = false := by rw [beq_eq_false_iff_ne]; omega
    have e1 : (m == 1) = false := by rw [beq_eq_false_iff_ne]; omega
    have e2 : (m == 2) = false := by rw [beq_eq_false_iff_ne]; omega
    have e3 : (m == 3) = false := by rw [beq_eq_false_iff_ne]; omega
    unfold goodV; rw [e0, e1, e2, e3, decide_eq_true h0]; rfl
  · unfold goodV; cases v <;> cases h <;> cases (s == 0) <;> rfl
  · unfold goodV; cases v <;> cases h <;> cases (s == 0) <;> rfl
  · unfold goodV; cases v <;> cases h <;> cases decide (s ≥ 1) <;> cases decide (s ≤ 3) <;> rfl
  · unfold goodV; cases v <;> cases h <;> cases decide (s ≥ 1) <;> cases decide (s ≤ 3) <;> rfl
  · have e0 : (m == 0) = false := by rw [beq_eq_false_iff_ne]; omega
    have e1 : (m == 1) = false := by rw [beq_eq_false_iff_ne]; omega
    have e2 : (m == 2) = false := by rw [beq_eq_false_iff_ne]; omega
    have e3 : (m == 3) = false := by rw [beq_eq_false_iff_ne]; omega
    have e4 : decide (m < 0) = false := decide_eq_false (by omega)
    unfold goodV; rw [e0, e1, e2, e3, e4, decide_eq_true h0]; rfl
theorem s14 : Sound Try.prog 14 F13 := (inl_sound (.nil _) mixed [] 20 (by kernel_rfl)).by fun args b r hr => by
  unfold F13 at hr
  split at hr
  · cases hr; exact inl_eval (c14 ..)
  · cases hr

theorem c9 : den Try.prog (envOf M4) [] 20 9 [] [] = some ⟨bv true, [], []⟩ := by kernel_rfl
def F9 : Sem1
  | [], [] => .leaf ⟨bv true, [], []⟩
  | _, _ => .fail
theorem s9 : Sound Try.prog 9 F9 := (inl_sound M4_ok mixed [] 20 (by kernel_rfl)).by fun args b r hr => by
  unfold F9 at hr
  split at hr
  · cases hr; exact inl_eval c9
  · cases hr
abbrev E3 : List (Nat × Sem1) := [(10, F10), (9, F9), (13, F13), (14, F13)]
theorem E3_ok : EnvOK Try.prog E3 := .cons s10 (.cons s9 (.cons s13 (.cons s14 (.nil _))))
theorem t11 (m s : Int) (v h : Bool) (om os : Int) : den Try.prog (envOf []) [] 20 11 [.r (.agg [ic m, ic s, bc v, bc h, ic om, ic os])] [] =
  (match m != om with
  | true => some { val := AV.r (RV.c (CV.f (FV.b true))), chg := [], news := [] }
  | false => some { val := AV.r (RV.c (CV.f (FV.b (s != os)))), chg := [], news := [] }) := by kernel_rfl
theorem c11 (m s : Int) (v h : Bool) (om os : Int) : den Try.prog (envOf []) [] 20 11 [.r (.agg [ic m, ic s, bc v, bc h, ic om, ic os])] [] = some ⟨bv (m != om || s != os), [], []⟩ := by
  rw [t11]; cases m != om <;> rfl
def F11 : Sem1
  | [.r (.agg [.f (.i .i64 m), .f (.i .i64 s), .f (.b _), .f (.b _), .f (.i .i64 om), .f (.i .i64 os)])], [] => .leaf ⟨bv (m != om || s != os), [], []⟩
  | _, _ => .fail
theorem s11 : Sound Try.prog 11 F11 := (inl_sound (.nil _) mixed [] 20 (by kernel_rfl)).by fun args b r hr => by
  unfold F11 at hr
  split at hr
  · cases hr; exact inl_eval (c11 ..)
  · cases hr
end Go.Proofs.Ytgbgdihahmecoaa
