/-
  The mode package's functions, as plain functions of numbers and truth values: what they compute, and that the code computes it.
-/
import Derived.Test.YtgbgdihahmecoaaModeC
namespace Go.Proofs.Ytgbgdihahmecoaa
open Go.Ab

abbrev ic (n : Int) : CV := .f (.i .i64 n)
abbrev bc (n : Bool) : CV := .f (.b n)
abbrev iv (n : Int) : AV := .r (.c (.f (.i .i64 n)))
abbrev bv (n : Bool) : AV := .r (.c (.f (.b n)))
abbrev inp (ti he u0 u1 u2 u3 u4 u5 : Bool) (si li pr : Int) : AV := .r (.agg [bc ti, bc he, bc u0, bc u1, bc u2, bc u3, bc u4, bc u5, ic si, ic li, ic pr])
abbrev mac (m s : Int) (v h : Bool) : AV := .r (.agg [ic m, ic s, bc v, bc h])
def goodV (m s : Int) (v h : Bool) : Bool := match m == 0 || m == 1 with
  | true => s == 0 && (!v && !h)
  | false => (m == 2 || m == 3) && (decide (s ≥ 1) && (decide (s ≤ 3) && (v || m == 2)))
def nextV (m : Int) (ti he u0 u5 : Bool) : Int := match m == 0 && ti with
  | true => 1
  | false => match m == 0 || (m == 1 && !he) with
    | true => m
    | false => match u0 || u5 with
      | true => 3
      | false => 2
def firstV (s : Int) (u0 u1 u2 : Bool) : Int × Bool := match u1 with
  | true => (1, true)
  | false => match u0 with
    | true => (2, true)
    | false => match u2 with
      | true => (3, true)
      | false => (if 1 > s then 1 else s, false)
def srcV (s pr : Int) (u0 u1 u2 : Bool) : Int × Bool := match (decide (pr ≥ 1) && decide (pr ≤ 3)) && (match pr == 1 with | true => u1 | false => match pr == 2 with | true => u0 | false => u2) with
  | true => (pr, true)
  | false => firstV s u0 u1 u2

theorem t17 (m : Int) (ti he u0 u1 u2 u3 u4 u5 : Bool) (si li pr : Int) : den Try.prog (envOf []) [] 20 17 [iv m, inp ti he u0 u1 u2 u3 u4 u5 si li pr] [] =
  (match u0 with
  | true => (match m == 0 with
    | true => (match ti with
      | true => some { val := AV.r (RV.c (CV.f (FV.i IntKind.i64 1))), chg := [], news := [] }
      | false => (match m == 0 with
        | true => some { val := AV.r (RV.c (CV.f (FV.i IntKind.i64 m))), chg := [], news := [] }
        | false => (match m == 1 with
          | true => (match !he with
            | true => some { val := AV.r (RV.c (CV.f (FV.i IntKind.i64 m))), chg := [], news := [] }
            | false => some { val := AV.r (RV.c (CV.f (FV.i IntKind.i64 3))), chg := [], news := [] })
          | false => some { val := AV.r (RV.c (CV.f (FV.i IntKind.i64 3))), chg := [], news := [] })))
    | false => (match m == 0 with
      | true => some { val := AV.r (RV.c (CV.f (FV.i IntKind.i64 m))), chg := [], news := [] }
      | false => (match m == 1 with
        | true => (match !he with
          | true => some { val := AV.r (RV.c (CV.f (FV.i IntKind.i64 m))), chg := [], news := [] }
          | false => some { val := AV.r (RV.c (CV.f (FV.i IntKind.i64 3))), chg := [], news := [] })
        | false => some { val := AV.r (RV.c (CV.f (FV.i IntKind.i64 3))), chg := [], news := [] })))
  | false => (match m == 0 with
    | true => (match ti with
      | true => some { val := AV.r (RV.c (CV.f (FV.i IntKind.i64 1))), chg := [], news := [] }
      | false => (match m == 0 with
        | true => some { val := AV.r (RV.c (CV.f (FV.i IntKind.i64 m))), chg := [], news := [] }
        | false => (match m == 1 with
          | true => (match !he with
            | true => some { val := AV.r (RV.c (CV.f (FV.i IntKind.i64 m))), chg := [], news := [] }
            | false => (match u5 with
              | true => some { val := AV.r (RV.c (CV.f (FV.i IntKind.i64 3))), chg := [], news := [] }
              | false => some { val := AV.r (RV.c (CV.f (FV.i IntKind.i64 2))), chg := [], news := [] }))
          | false => (match u5 with
            | true => some { val := AV.r (RV.c (CV.f (FV.i IntKind.i64 3))), chg := [], news := [] }
            | false => some { val := AV.r (RV.c (CV.f (FV.i IntKind.i64 2))), chg := [], news := [] }))))
    | false => (match m == 0 with
      | true => some { val := AV.r (RV.c (CV.f (FV.i IntKind.i64 m))), chg := [], news := [] }
      | false => (match m == 1 with
        | true => (match !he with
          | true => some { val := AV.r (RV.c (CV.f (FV.i IntKind.i64 m))), chg := [], news := [] }
          | false => (match u5 with
            | true => some { val := AV.r (RV.c (CV.f (FV.i IntKind.i64 3))), chg := [], news := [] }
            | false => some { val := AV.r (RV.c (CV.f (FV.i IntKind.i64 2))), chg := [], news := [] }))
        | false => (match u5 with
          | true => some { val := AV.r (RV.c (CV.f (FV.i IntKind.i64 3))), chg := [], news := [] }
          | false => some { val := AV.r (RV.c (CV.f (FV.i IntKind.i64 2))), chg := [], news := [] }))))) := by kernel_rfl
theorem c17 (m : Int) (ti he u0 u1 u2 u3 u4 u5 : Bool) (si li pr : Int) : den Try.prog (envOf []) [] 20 17 [iv m, inp ti he u0 u1 u2 u3 u4 u5 si li pr] [] = some ⟨iv (nextV m ti he u0 u5), [], []⟩ := by
  rw [t17]; unfold nextV
  cases ti <;> cases he <;> cases u0 <;> cases u5 <;> cases (m == 0) <;> cases (m == 1) <;> rfl
def F17 : Sem1
  | [.r (.c (.f (.i .i64 m))), .r (.agg [.f (.b ti), .f (.b he), .f (.b u0), .f (.b _), .f (.b _), .f (.b _), .f (.b _), .f (.b u5), .f (.i .i64 _), .f (.i .i64 _), .f (.i .i64 _)])], [] => .leaf ⟨iv (nextV m ti he u0 u5), [], []⟩
  | _, _ => .fail
theorem s17 : Sound Try.prog 17 F17 := (inl_sound (.nil _) mixed [] 20 (by kernel_rfl)).by fun args b r hr => by
  unfold F17 at hr
  split at hr
  · cases hr; exact inl_eval (c17 ..)
  · cases hr

theorem t13 (m s : Int) (v h : Bool) : den Try.prog (envOf []) [] 20 13 [mac m s v h] [] =
  (match m == 0 with
  | true => (match m == 0 with
    | true => (match s == 0 with
      | true => (match !v with
        | true => some { val := AV.r (RV.c (CV.f (FV.b !h))), chg := [], news := [] }
        | false => some { val := AV.r (RV.c (CV.f (FV.b false))), chg := [], news := [] })
      | false => some { val := AV.r (RV.c (CV.f (FV.b false))), chg := [], news := [] })
    | false => (match m == 2 with
      | true => (match m == 2 with
        | true => (match decide (s ≥ 1) with
          | true => (match decide (s ≤ 3) with
            | true => (match v with
              | true => some { val := AV.r (RV.c (CV.f (FV.b true))), chg := [], news := [] }
              | false => some { val := AV.r (RV.c (CV.f (FV.b (m == 2)))), chg := [], news := [] })
            | false => some { val := AV.r (RV.c (CV.f (FV.b false))), chg := [], news := [] })
          | false => some { val := AV.r (RV.c (CV.f (FV.b false))), chg := [], news := [] })
        | false => some { val := AV.r (RV.c (CV.f (FV.b false))), chg := [], news := [] })
      | false => (match m == 3 with
        | true => (match decide (s ≥ 1) with
          | true => (match decide (s ≤ 3) with
            | true => (match v with
              | true => some { val := AV.r (RV.c (CV.f (FV.b true))), chg := [], news := [] }
              | false => some { val := AV.r (RV.c (CV.f (FV.b (m == 2)))), chg := [], news := [] })
            | false => some { val := AV.r (RV.c (CV.f (FV.b false))), chg := [], news := [] })
          | false => some { val := AV.r (RV.c (CV.f (FV.b false))), chg := [], news := [] })
        | false => some { val := AV.r (RV.c (CV.f (FV.b false))), chg := [], news := [] })))
  | false => (match m == 1 with
    | true => (match s == 0 with
      | true => (match !v with
        | true => some { val := AV.r (RV.c (CV.f (FV.b !h))), chg := [], news := [] }
        | false => some { val := AV.r (RV.c (CV.f (FV.b false))), chg := [], news := [] })
      | false => some { val := AV.r (RV.c (CV.f (FV.b false))), chg := [], news := [] })
    | false => (match m == 2 with
      | true => (match m == 2 with
        | true => (match decide (s ≥ 1) with
          | true => (match decide (s ≤ 3) with
            | true => (match v with
              | true => some { val := AV.r (RV.c (CV.f (FV.b true))), chg := [], news := [] }
              | false => some { val := AV.r (RV.c (CV.f (FV.b (m == 2)))), chg := [], news := [] })
            | false => some { val := AV.r (RV.c (CV.f (FV.b false))), chg := [], news := [] })
          | false => some { val := AV.r (RV.c (CV.f (FV.b false))), chg := [], news := [] })
        | false => some { val := AV.r (RV.c (CV.f (FV.b false))), chg := [], news := [] })
      | false => (match m == 3 with
        | true => (match decide (s ≥ 1) with
          | true => (match decide (s ≤ 3) with
            | true => (match v with
              | true => some { val := AV.r (RV.c (CV.f (FV.b true))), chg := [], news := [] }
              | false => some { val := AV.r (RV.c (CV.f (FV.b (m == 2)))), chg := [], news := [] })
            | false => some { val := AV.r (RV.c (CV.f (FV.b false))), chg := [], news := [] })
          | false => some { val := AV.r (RV.c (CV.f (FV.b false))), chg := [], news := [] })
        | false => some { val := AV.r (RV.c (CV.f (FV.b false))), chg := [], news := [] })))) := by kernel_rfl
theorem c13 (m s : Int) (v h : Bool) : den Try.prog (envOf []) [] 20 13 [mac m s v h] [] = some ⟨bv (goodV m s v h), [], []⟩ := by
  rw [t13]; unfold goodV
  cases v <;> cases h <;> cases (m == 0) <;> cases (m == 1) <;> cases (m == 2) <;> cases (m == 3) <;> cases (s == 0) <;> cases (decide (s ≥ 1)) <;> cases (decide (s ≤ 3)) <;> rfl
def F13 : Sem1
  | [.r (.agg [.f (.i .i64 m), .f (.i .i64 s), .f (.b v), .f (.b h)])], [] => .leaf ⟨bv (goodV m s v h), [], []⟩
  | _, _ => .fail
theorem s13 : Sound Try.prog 13 F13 := (inl_sound (.nil _) mixed [] 20 (by kernel_rfl)).by fun args b r hr => by
  unfold F13 at hr
  split at hr
  · cases hr; exact inl_eval (c13 ..)
  · cases hr

theorem t19 (s : Int) : den Try.prog (envOf []) [] 20 19 [iv s] [] =
  (match s == 1 with
  | true => some { val := AV.r (RV.c (CV.f (FV.i IntKind.i64 1))), chg := [], news := [] }
  | false => (match s == 2 with
    | true => some { val := AV.r (RV.c (CV.f (FV.i IntKind.i64 0))), chg := [], news := [] }
    | false => some { val := AV.r (RV.c (CV.f (FV.i IntKind.i64 2))), chg := [], news := [] })) := by kernel_rfl
def F19 : Sem1
  | [.r (.c (.f (.i .i64 s)))], [] => .test (s == 1) (.leaf ⟨iv 1, [], []⟩) (.test (s == 2) (.leaf ⟨iv 0, [], []⟩) (.leaf ⟨iv 2, [], []⟩))
  | _, _ => .fail
theorem s19 : Sound Try.prog 19 F19 := (inl_sound (.nil _) mixed [] 20 (by kernel_rfl)).by fun args b r hr => by
  unfold F19 at hr
  split at hr
  · rename_i s
    have := t19 s
    rw [← hr]
    unfold inl
    rw [this]
    cases (s == 1) <;> cases (s == 2) <;> rfl
  · cases hr

theorem t18 (s : Int) (ti he u0 u1 u2 u3 u4 u5 : Bool) (si li pr : Int) : den Try.prog (envOf [(19, F19)]) [] 20 18 [iv s, inp ti he u0 u1 u2 u3 u4 u5 si li pr] [] =
  (match decide (pr ≥ 1) with
  | true => (match decide (pr ≤ 3) with
    | true => (match pr == 1 with
      | true => (match u1 with
        | true => some { val := AV.tup [RV.c (CV.f (FV.i IntKind.i64 pr)), RV.c (CV.f (FV.b true))], chg := [], news := [] }
        | false => (match u1 with
          | true => some { val := AV.tup [RV.c (CV.f (FV.i IntKind.i64 1)), RV.c (CV.f (FV.b true))], chg := [], news := [] }
          | false => (match u0 with
            | true => some { val := AV.tup [RV.c (CV.f (FV.i IntKind.i64 2)), RV.c (CV.f (FV.b true))], chg := [], news := [] }
            | false => (match u2 with
              | true => some { val := AV.tup [RV.c (CV.f (FV.i IntKind.i64 3)), RV.c (CV.f (FV.b true))], chg := [], news := [] }
              | false => some { val := AV.tup [RV.c (CV.f (FV.i IntKind.i64 (if 1 > s then 1 else s))), RV.c (CV.f (FV.b false))], chg := [], news := [] }))))
      | false => (match pr == 2 with
        | true => (match u0 with
          | true => some { val := AV.tup [RV.c (CV.f (FV.i IntKind.i64 pr)), RV.c (CV.f (FV.b true))], chg := [], news := [] }
          | false => (match u1 with
            | true => some { val := AV.tup [RV.c (CV.f (FV.i IntKind.i64 1)), RV.c (CV.f (FV.b true))], chg := [], news := [] }
            | false => (match u0 with
              | true => some { val := AV.tup [RV.c (CV.f (FV.i IntKind.i64 2)), RV.c (CV.f (FV.b true))], chg := [], news := [] }
              | false => (match u2 with
                | true => some { val := AV.tup [RV.c (CV.f (FV.i IntKind.i64 3)), RV.c (CV.f (FV.b true))], chg := [], news := [] }
                | false => some { val := AV.tup [RV.c (CV.f (FV.i IntKind.i64 (if 1 > s then 1 else s))), RV.c (CV.f (FV.b false))], chg := [], news := [] }))))
        | false => (match u2 with
          | true => some { val := AV.tup [RV.c (CV.f (FV.i IntKind.i64 pr)), RV.c (CV.f (FV.b true))], chg := [], news := [] }
          | false => (match u1 with
            | true => some { val := AV.tup [RV.c (CV.f (FV.i IntKind.i64 1)), RV.c (CV.f (FV.b true))], chg := [], news := [] }
            | false => (match u0 with
              | true => some { val := AV.tup [RV.c (CV.f (FV.i IntKind.i64 2)), RV.c (CV.f (FV.b true))], chg := [], news := [] }
              | false => (match u2 with
                | true => some { val := AV.tup [RV.c (CV.f (FV.i IntKind.i64 3)), RV.c (CV.f (FV.b true))], chg := [], news := [] }
                | false => some { val := AV.tup [RV.c (CV.f (FV.i IntKind.i64 (if 1 > s then 1 else s))), RV.c (CV.f (FV.b false))], chg := [], news := [] }))))))
    | false => (match u1 with
      | true => some { val := AV.tup [RV.c (CV.f (FV.i IntKind.i64 1)), RV.c (CV.f (FV.b true))], chg := [], news := [] }
      | false => (match u0 with
        | true => some { val := AV.tup [RV.c (CV.f (FV.i IntKind.i64 2)), RV.c (CV.f (FV.b true))], chg := [], news := [] }
        | false => (match u2 with
          | true => some { val := AV.tup [RV.c (CV.f (FV.i IntKind.i64 3)), RV.c (CV.f (FV.b true))], chg := [], news := [] }
          | false => some { val := AV.tup [RV.c (CV.f (FV.i IntKind.i64 (if 1 > s then 1 else s))), RV.c (CV.f (FV.b false))], chg := [], news := [] }))))
  | false => (match u1 with
    | true => some { val := AV.tup [RV.c (CV.f (FV.i IntKind.i64 1)), RV.c (CV.f (FV.b true))], chg := [], news := [] }
    | false => (match u0 with
      | true => some { val := AV.tup [RV.c (CV.f (FV.i IntKind.i64 2)), RV.c (CV.f (FV.b true))], chg := [], news := [] }
      | false => (match u2 with
        | true => some { val := AV.tup [RV.c (CV.f (FV.i IntKind.i64 3)), RV.c (CV.f (FV.b true))], chg := [], news := [] }
        | false => some { val := AV.tup [RV.c (CV.f (FV.i IntKind.i64 (if 1 > s then 1 else s))), RV.c (CV.f (FV.b false))], chg := [], news := [] })))) := by kernel_rfl
theorem c18 (s : Int) (ti he u0 u1 u2 u3 u4 u5 : Bool) (si li pr : Int) : den Try.prog (envOf [(19, F19)]) [] 20 18 [iv s, inp ti he u0 u1 u2 u3 u4 u5 si li pr] [] = some ⟨.tup [.c (ic (srcV s pr u0 u1 u2).1), .c (bc (srcV s pr u0 u1 u2).2)], [], []⟩ := by
  rw [t18]; unfold srcV firstV
  cases u0 <;> cases u1 <;> cases u2 <;> cases (decide (pr ≥ 1)) <;> cases (decide (pr ≤ 3)) <;> cases (pr == 1) <;> cases (pr == 2) <;> rfl
def F18 : Sem1
  | [.r (.c (.f (.i .i64 s))), .r (.agg [.f (.b _), .f (.b _), .f (.b u0), .f (.b u1), .f (.b u2), .f (.b _), .f (.b _), .f (.b _), .f (.i .i64 _), .f (.i .i64 _), .f (.i .i64 pr)])], [] => .leaf ⟨.tup [.c (ic (srcV s pr u0 u1 u2).1), .c (bc (srcV s pr u0 u1 u2).2)], [], []⟩
  | _, _ => .fail
theorem s18 : Sound Try.prog 18 F18 := (inl_sound (.cons s19 (.nil _)) mixed [] 20 (by kernel_rfl)).by fun args b r hr => by
  unfold F18 at hr
  split at hr
  · cases hr; exact inl_eval (c18 ..)
  · cases hr
end Go.Proofs.Ytgbgdihahmecoaa
