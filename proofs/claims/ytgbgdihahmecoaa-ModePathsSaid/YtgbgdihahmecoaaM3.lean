/-
  Contracts by plain functions: mode.Path
-/
import Derived.Test.YtgbgdihahmecoaaM1
set_option maxRecDepth 100000
set_option maxHeartbeats 4000000
set_option linter.unusedVariables false
namespace Go.Proofs.Ytgbgdihahmecoaa
open Go.Ab
def S_mode_Path_0 {ρ : Type} (g_mode_Step : Int → Int → Bool → Bool → Bool → Bool → Bool → Bool → Bool → Bool → Bool → Bool → Int → Int → Int → Option (Int × Int × Bool × Bool × Int × Int))  (x0 : Nat) (x1 : Nat) (x2 : Bool) (x3 : Int) (x4 : Int) (x5 : Nat) (x6 : Nat → Bool) (x7 : Nat → Bool) (x8 : Nat → Bool) (x9 : Nat → Bool) (x10 : Nat → Bool) (x11 : Nat → Bool) (x12 : Nat → Bool) (x13 : Nat → Bool) (x14 : Nat → Int) (x15 : Nat → Int) (x16 : Nat → Int) (x17 : Int) (x18 : Int) (x19 : Bool) (x20 : Bool) (x21 : Nat) (x22 : Nat → Int) (x23 : Nat → Int) (x24 : Nat → Bool) (x25 : Nat → Bool) (c : (Nat ×
  Nat ×
    Bool ×
      Int ×
        Int ×
          Nat ×
            (Nat → Bool) ×
              (Nat → Bool) ×
                (Nat → Bool) ×
                  (Nat → Bool) ×
                    (Nat → Bool) ×
                      (Nat → Bool) × (Nat → Bool) × (Nat → Bool) × (Nat → Int) × (Nat → Int) × (Nat → Int) × Int × Int × Bool × Bool × Nat × (Nat → Int) × (Nat → Int) × (Nat → Bool) × (Nat → Bool)) → Option ρ) (x : (Nat ×
  Nat ×
    Bool ×
      Int ×
        Int ×
          Bool ×
            Nat ×
              (Nat → Bool) ×
                (Nat → Bool) ×
                  (Nat → Bool) ×
                    (Nat → Bool) ×
                      (Nat → Bool) ×
                        (Nat → Bool) × (Nat → Bool) × (Nat → Bool) × (Nat → Int) × (Nat → Int) × (Nat → Int) × Int × Int × Bool × Bool × Nat × (Nat → Int) × (Nat → Int) × (Nat → Bool) × (Nat → Bool)) → Option ρ) : Option ρ :=
  bif decide (x4 < x3) then
    bif inR x4 x1 then
      Option.bind
        (g_mode_Step x17 x18 x19 x20 (x6 (Int.toNat x4)) (x7 (Int.toNat x4)) (x8 (Int.toNat x4)) (x9 (Int.toNat x4)) (x10 (Int.toNat x4)) (x11 (Int.toNat x4)) (x12 (Int.toNat x4)) (x13 (Int.toNat x4))
          (x14 (Int.toNat x4)) (x15 (Int.toNat x4)) (x16 (Int.toNat x4)))
        fun (d : Int × Int × Bool × Bool × Int × Int) =>
        bif Nat.ble ((x0 + 1) * 24) 140737488355328 then
          c
            (x0 + 1, x1, x2, x3, IntKind.wrap IntKind.i64 (x4 + 1), x5, x6, x7, x8, x9, x10, x11, x12, x13, x14, x15, x16, d.fst, d.snd.fst, d.snd.snd.fst, d.snd.snd.snd.fst, x0 + 1, fun (j : Nat) =>
              bif Nat.beq j x0 then d.fst else x22 j, fun (j : Nat) => bif Nat.beq j x0 then d.snd.fst else x23 j, fun (j : Nat) => bif Nat.beq j x0 then d.snd.snd.fst else x24 j, fun (j : Nat) =>
              bif Nat.beq j x0 then d.snd.snd.snd.fst else x25 j)
        else none
    else none
  else x (x0, x1, x2, x3, x4, decide (x4 < x3), x5, x6, x7, x8, x9, x10, x11, x12, x13, x14, x15, x16, x17, x18, x19, x20, x21, x22, x23, x24, x25)
section
open Go.Ab.Rdr
def Q_mode_Path_0 := (st (cons aund (cons aund (cons (ar (rc (cptr (nat 1) (ok' (nat 0)) (nat 4)))) (cons aund (cons aund (cons (ar (rc (csl (nat 2) (ok' (nat 0)) (szs hole) (nat 4) (bool true)))) (cons aund (cons aund (cons (ar (rc (csl (nat 0) (ok' (nat 0)) (szs hole) (nat 11) hole))) (cons (ar (rc (cf (fi .i64 hole)))) (cons (ar (rc (cf (fi .i64 hole)))) (cons aund (cons aund (cons aund (cons aund (cons aund (cons aund (cons aund (cons aund (cons aund (cons aund (cons aund (cons aund (cons aund (cons aund (cons aund nil)))))))))))))))))))))))))) (cons (some' (cons (ga (szs hole) (cons (kb hole) (cons (kb hole) (cons (kb hole) (cons (kb hole) (cons (kb hole) (cons (kb hole) (cons (kb hole) (cons (kb hole) (cons (ki .i64 hole) (cons (ki .i64 hole) (cons (ki .i64 hole) nil)))))))))))) nil)) (cons (some' (cons (gc (cf (fi .i64 hole))) (cons (gc (cf (fi .i64 hole))) (cons (gc (cf (fb hole))) (cons (gc (cf (fb hole))) nil))))) (cons (some' (cons (ga (szs hole) (cons (ki .i64 hole) (cons (ki .i64 hole) (cons (kb hole) (cons (kb hole) nil))))) nil)) nil))) nil)
end
theorem q_mode_Path_0 : ∀ b, (Q_mode_Path_0).em b = St.mk
    [AV.und, AV.und, AV.r (RV.c (CV.ptr 1 (Off.k 0) 4)), AV.und, AV.und, AV.r (RV.c (CV.sl 2 (Off.k 0) (Sz.s b.1.2.2.2.2.2.1.2.2.1) 4 true)), AV.und, AV.und, AV.r (RV.c (CV.sl 0 (Off.k 0) (Sz.s b.1.2.2.2.2.2.2.2.2.1.2.2.1) 11 b.1.2.2.2.2.2.2.2.2.1.2.2.2.2)),
      AV.r (RV.c (CV.f (FV.i IntKind.i64 b.1.2.2.2.2.2.2.2.2.2.1))), AV.r (RV.c (CV.f (FV.i IntKind.i64 b.1.2.2.2.2.2.2.2.2.2.2.1))), AV.und, AV.und, AV.und, AV.und, AV.und, AV.und, AV.und, AV.und, AV.und, AV.und, AV.und, AV.und, AV.und, AV.und,
      AV.und]
    [some [Sg.a (Sz.s b.2.1.1.1.1) [Col.b b.2.1.1.1.2.1, Col.b b.2.1.1.1.2.2.1, Col.b b.2.1.1.1.2.2.2.1, Col.b b.2.1.1.1.2.2.2.2.1, Col.b b.2.1.1.1.2.2.2.2.2.1, Col.b b.2.1.1.1.2.2.2.2.2.2.1, Col.b b.2.1.1.1.2.2.2.2.2.2.2.1, Col.b b.2.1.1.1.2.2.2.2.2.2.2.2.1, Col.i IntKind.i64 b.2.1.1.1.2.2.2.2.2.2.2.2.2.1, Col.i IntKind.i64 b.2.1.1.1.2.2.2.2.2.2.2.2.2.2.1, Col.i IntKind.i64 b.2.1.1.1.2.2.2.2.2.2.2.2.2.2.2.1]],
      some [Sg.c (CV.f (FV.i IntKind.i64 b.2.1.2.1.1)), Sg.c (CV.f (FV.i IntKind.i64 b.2.1.2.1.2.1)), Sg.c (CV.f (FV.b b.2.1.2.1.2.2.1)), Sg.c (CV.f (FV.b b.2.1.2.1.2.2.2.1))],
      some [Sg.a (Sz.s b.2.1.2.2.1.1.1) [Col.i IntKind.i64 b.2.1.2.2.1.1.2.1, Col.i IntKind.i64 b.2.1.2.2.1.1.2.2.1, Col.b b.2.1.2.2.1.1.2.2.2.1, Col.b b.2.1.2.2.1.1.2.2.2.2.1]]]
    [] := fun b => by kernel_rfl
def R_mode_Path_0 (l : ∀ {ρ : Type}, (Nat ×
  Nat ×
    Bool ×
      Int ×
        Int ×
          Nat ×
            (Nat → Bool) ×
              (Nat → Bool) ×
                (Nat → Bool) ×
                  (Nat → Bool) ×
                    (Nat → Bool) ×
                      (Nat → Bool) × (Nat → Bool) × (Nat → Bool) × (Nat → Int) × (Nat → Int) × (Nat → Int) × Int × Int × Bool × Bool × Nat × (Nat → Int) × (Nat → Int) × (Nat → Bool) × (Nat → Bool)) → ((Nat ×
  Nat ×
    Bool ×
      Int ×
        Int ×
          Bool ×
            Nat ×
              (Nat → Bool) ×
                (Nat → Bool) ×
                  (Nat → Bool) ×
                    (Nat → Bool) ×
                      (Nat → Bool) ×
                        (Nat → Bool) × (Nat → Bool) × (Nat → Bool) × (Nat → Int) × (Nat → Int) × (Nat → Int) × Int × Int × Bool × Bool × Nat × (Nat → Int) × (Nat → Int) × (Nat → Bool) × (Nat → Bool)) → Option ρ) → Option ρ) {ρ : Type} (s : St) (K : AX → St → Option ρ) : Option ρ := ((Q_mode_Path_0).rd s).bind fun b => l (b.1.2.2.2.2.2.1.2.2.1, b.1.2.2.2.2.2.2.2.2.1.2.2.1, b.1.2.2.2.2.2.2.2.2.1.2.2.2.2, b.1.2.2.2.2.2.2.2.2.2.1, b.1.2.2.2.2.2.2.2.2.2.2.1, b.2.1.1.1.1, b.2.1.1.1.2.1, b.2.1.1.1.2.2.1, b.2.1.1.1.2.2.2.1, b.2.1.1.1.2.2.2.2.1, b.2.1.1.1.2.2.2.2.2.1, b.2.1.1.1.2.2.2.2.2.2.1, b.2.1.1.1.2.2.2.2.2.2.2.1, b.2.1.1.1.2.2.2.2.2.2.2.2.1, b.2.1.1.1.2.2.2.2.2.2.2.2.2.1, b.2.1.1.1.2.2.2.2.2.2.2.2.2.2.1, b.2.1.1.1.2.2.2.2.2.2.2.2.2.2.2.1, b.2.1.2.1.1, b.2.1.2.1.2.1, b.2.1.2.1.2.2.1, b.2.1.2.1.2.2.2.1, b.2.1.2.2.1.1.1, b.2.1.2.2.1.1.2.1, b.2.1.2.2.1.1.2.2.1, b.2.1.2.2.1.1.2.2.2.1, b.2.1.2.2.1.1.2.2.2.2.1) (fun d => K (AX.ex 0) (St.mk
  [AV.und, AV.und, AV.r (RV.c (CV.ptr 1 (Off.k 0) 4)), AV.und, AV.und, AV.r (RV.c (CV.sl 2 (Off.k 0) (Sz.s d.fst) 4 true)), AV.und, AV.und,
    AV.r (RV.c (CV.sl 0 (Off.k 0) (Sz.s d.snd.fst) 11 d.snd.snd.fst)), AV.r (RV.c (CV.f (FV.i IntKind.i64 d.snd.snd.snd.fst))), AV.r (RV.c (CV.f (FV.i IntKind.i64 d.snd.snd.snd.snd.fst))),
    AV.r (RV.c (CV.f (FV.b d.snd.snd.snd.snd.snd.fst))), AV.und, AV.und, AV.und, AV.und, AV.und, AV.und, AV.und, AV.und, AV.und, AV.und, AV.und, AV.und, AV.und, AV.und]
  [some
      [Sg.a (Sz.s d.snd.snd.snd.snd.snd.snd.fst)
          [Col.b d.snd.snd.snd.snd.snd.snd.snd.fst, Col.b d.snd.snd.snd.snd.snd.snd.snd.snd.fst, Col.b d.snd.snd.snd.snd.snd.snd.snd.snd.snd.fst, Col.b d.snd.snd.snd.snd.snd.snd.snd.snd.snd.snd.fst,
            Col.b d.snd.snd.snd.snd.snd.snd.snd.snd.snd.snd.snd.fst, Col.b d.snd.snd.snd.snd.snd.snd.snd.snd.snd.snd.snd.snd.fst, Col.b d.snd.snd.snd.snd.snd.snd.snd.snd.snd.snd.snd.snd.snd.fst,
            Col.b d.snd.snd.snd.snd.snd.snd.snd.snd.snd.snd.snd.snd.snd.snd.fst, Col.i IntKind.i64 d.snd.snd.snd.snd.snd.snd.snd.snd.snd.snd.snd.snd.snd.snd.snd.fst,
            Col.i IntKind.i64 d.snd.snd.snd.snd.snd.snd.snd.snd.snd.snd.snd.snd.snd.snd.snd.snd.fst, Col.i IntKind.i64 d.snd.snd.snd.snd.snd.snd.snd.snd.snd.snd.snd.snd.snd.snd.snd.snd.snd.fst]],
    some
      [Sg.c (CV.f (FV.i IntKind.i64 d.snd.snd.snd.snd.snd.snd.snd.snd.snd.snd.snd.snd.snd.snd.snd.snd.snd.snd.fst)),
        Sg.c (CV.f (FV.i IntKind.i64 d.snd.snd.snd.snd.snd.snd.snd.snd.snd.snd.snd.snd.snd.snd.snd.snd.snd.snd.snd.fst)),
        Sg.c (CV.f (FV.b d.snd.snd.snd.snd.snd.snd.snd.snd.snd.snd.snd.snd.snd.snd.snd.snd.snd.snd.snd.snd.fst)),
        Sg.c (CV.f (FV.b d.snd.snd.snd.snd.snd.snd.snd.snd.snd.snd.snd.snd.snd.snd.snd.snd.snd.snd.snd.snd.snd.fst))],
    some
      [Sg.a (Sz.s d.snd.snd.snd.snd.snd.snd.snd.snd.snd.snd.snd.snd.snd.snd.snd.snd.snd.snd.snd.snd.snd.snd.fst)
          [Col.i IntKind.i64 d.snd.snd.snd.snd.snd.snd.snd.snd.snd.snd.snd.snd.snd.snd.snd.snd.snd.snd.snd.snd.snd.snd.snd.fst,
            Col.i IntKind.i64 d.snd.snd.snd.snd.snd.snd.snd.snd.snd.snd.snd.snd.snd.snd.snd.snd.snd.snd.snd.snd.snd.snd.snd.snd.fst,
            Col.b d.snd.snd.snd.snd.snd.snd.snd.snd.snd.snd.snd.snd.snd.snd.snd.snd.snd.snd.snd.snd.snd.snd.snd.snd.snd.fst,
            Col.b d.snd.snd.snd.snd.snd.snd.snd.snd.snd.snd.snd.snd.snd.snd.snd.snd.snd.snd.snd.snd.snd.snd.snd.snd.snd.snd]]]
  []))
theorem ms_mode_Path_0 {ρ σ : Type} (g_mode_Step : Int → Int → Bool → Bool → Bool → Bool → Bool → Bool → Bool → Bool → Bool → Bool → Int → Int → Int → Option (Int × Int × Bool × Bool × Int × Int))   (q : ρ → Option σ) (x0 : Nat) (x1 : Nat) (x2 : Bool) (x3 : Int) (x4 : Int) (x5 : Nat) (x6 : Nat → Bool) (x7 : Nat → Bool) (x8 : Nat → Bool) (x9 : Nat → Bool) (x10 : Nat → Bool) (x11 : Nat → Bool) (x12 : Nat → Bool) (x13 : Nat → Bool) (x14 : Nat → Int) (x15 : Nat → Int) (x16 : Nat → Int) (x17 : Int) (x18 : Int) (x19 : Bool) (x20 : Bool) (x21 : Nat) (x22 : Nat → Int) (x23 : Nat → Int) (x24 : Nat → Bool) (x25 : Nat → Bool) (c : (Nat ×
  Nat ×
    Bool ×
      Int ×
        Int ×
          Nat ×
            (Nat → Bool) ×
              (Nat → Bool) ×
                (Nat → Bool) ×
                  (Nat → Bool) ×
                    (Nat → Bool) ×
                      (Nat → Bool) × (Nat → Bool) × (Nat → Bool) × (Nat → Int) × (Nat → Int) × (Nat → Int) × Int × Int × Bool × Bool × Nat × (Nat → Int) × (Nat → Int) × (Nat → Bool) × (Nat → Bool)) → Option ρ) (x : (Nat ×
  Nat ×
    Bool ×
      Int ×
        Int ×
          Bool ×
            Nat ×
              (Nat → Bool) ×
                (Nat → Bool) ×
                  (Nat → Bool) ×
                    (Nat → Bool) ×
                      (Nat → Bool) ×
                        (Nat → Bool) × (Nat → Bool) × (Nat → Bool) × (Nat → Int) × (Nat → Int) × (Nat → Int) × Int × Int × Bool × Bool × Nat × (Nat → Int) × (Nat → Int) × (Nat → Bool) × (Nat → Bool)) → Option ρ) : (S_mode_Path_0 g_mode_Step  x0 x1 x2 x3 x4 x5 x6 x7 x8 x9 x10 x11 x12 x13 x14 x15 x16 x17 x18 x19 x20 x21 x22 x23 x24 x25 c x).bind q = S_mode_Path_0 g_mode_Step  x0 x1 x2 x3 x4 x5 x6 x7 x8 x9 x10 x11 x12 x13 x14 x15 x16 x17 x18 x19 x20 x21 x22 x23 x24 x25 (fun d => (c d).bind q) (fun d => (x d).bind q) := by
  simp only [S_mode_Path_0, bnd_cond, bnd_bind, bnd_none, bnd_sum]
def L_mode_Path_0 {ρ : Type} (d : Nat ×
  Nat ×
    Bool ×
      Int ×
        Int ×
          Nat ×
            (Nat → Bool) ×
              (Nat → Bool) ×
                (Nat → Bool) ×
                  (Nat → Bool) ×
                    (Nat → Bool) ×
                      (Nat → Bool) × (Nat → Bool) × (Nat → Bool) × (Nat → Int) × (Nat → Int) × (Nat → Int) × Int × Int × Bool × Bool × Nat × (Nat → Int) × (Nat → Int) × (Nat → Bool) × (Nat → Bool)) (k : (Nat ×
  Nat ×
    Bool ×
      Int ×
        Int ×
          Bool ×
            Nat ×
              (Nat → Bool) ×
                (Nat → Bool) ×
                  (Nat → Bool) ×
                    (Nat → Bool) ×
                      (Nat → Bool) ×
                        (Nat → Bool) × (Nat → Bool) × (Nat → Bool) × (Nat → Int) × (Nat → Int) × (Nat → Int) × Int × Int × Bool × Bool × Nat × (Nat → Int) × (Nat → Int) × (Nat → Bool) × (Nat → Bool)) → Option ρ) : Option ρ := loopK (fun d c x => S_mode_Path_0 f_mode_Step  d.1 d.2.1 d.2.2.1 d.2.2.2.1 d.2.2.2.2.1 d.2.2.2.2.2.1 d.2.2.2.2.2.2.1 d.2.2.2.2.2.2.2.1 d.2.2.2.2.2.2.2.2.1 d.2.2.2.2.2.2.2.2.2.1 d.2.2.2.2.2.2.2.2.2.2.1 d.2.2.2.2.2.2.2.2.2.2.2.1 d.2.2.2.2.2.2.2.2.2.2.2.2.1 d.2.2.2.2.2.2.2.2.2.2.2.2.2.1 d.2.2.2.2.2.2.2.2.2.2.2.2.2.2.1 d.2.2.2.2.2.2.2.2.2.2.2.2.2.2.2.1 d.2.2.2.2.2.2.2.2.2.2.2.2.2.2.2.2.1 d.2.2.2.2.2.2.2.2.2.2.2.2.2.2.2.2.2.1 d.2.2.2.2.2.2.2.2.2.2.2.2.2.2.2.2.2.2.1 d.2.2.2.2.2.2.2.2.2.2.2.2.2.2.2.2.2.2.2.1 d.2.2.2.2.2.2.2.2.2.2.2.2.2.2.2.2.2.2.2.2.1 d.2.2.2.2.2.2.2.2.2.2.2.2.2.2.2.2.2.2.2.2.2.1 d.2.2.2.2.2.2.2.2.2.2.2.2.2.2.2.2.2.2.2.2.2.2.1 d.2.2.2.2.2.2.2.2.2.2.2.2.2.2.2.2.2.2.2.2.2.2.2.1 d.2.2.2.2.2.2.2.2.2.2.2.2.2.2.2.2.2.2.2.2.2.2.2.2.1 d.2.2.2.2.2.2.2.2.2.2.2.2.2.2.2.2.2.2.2.2.2.2.2.2.2 c x) 200 d k
theorem mL_mode_Path_0 {ρ σ : Type} (q : ρ → Option σ) (d : Nat ×
  Nat ×
    Bool ×
      Int ×
        Int ×
          Nat ×
            (Nat → Bool) ×
              (Nat → Bool) ×
                (Nat → Bool) ×
                  (Nat → Bool) ×
                    (Nat → Bool) ×
                      (Nat → Bool) × (Nat → Bool) × (Nat → Bool) × (Nat → Int) × (Nat → Int) × (Nat → Int) × Int × Int × Bool × Bool × Nat × (Nat → Int) × (Nat → Int) × (Nat → Bool) × (Nat → Bool)) (k : (Nat ×
  Nat ×
    Bool ×
      Int ×
        Int ×
          Bool ×
            Nat ×
              (Nat → Bool) ×
                (Nat → Bool) ×
                  (Nat → Bool) ×
                    (Nat → Bool) ×
                      (Nat → Bool) ×
                        (Nat → Bool) × (Nat → Bool) × (Nat → Bool) × (Nat → Int) × (Nat → Int) × (Nat → Int) × Int × Int × Bool × Bool × Nat × (Nat → Int) × (Nat → Int) × (Nat → Bool) × (Nat → Bool)) → Option ρ) : (L_mode_Path_0 d k).bind q = L_mode_Path_0 d fun x => (k x).bind q :=
  loopK_bind q (fun d c x => ms_mode_Path_0 f_mode_Step   q d.1 d.2.1 d.2.2.1 d.2.2.2.1 d.2.2.2.2.1 d.2.2.2.2.2.1 d.2.2.2.2.2.2.1 d.2.2.2.2.2.2.2.1 d.2.2.2.2.2.2.2.2.1 d.2.2.2.2.2.2.2.2.2.1 d.2.2.2.2.2.2.2.2.2.2.1 d.2.2.2.2.2.2.2.2.2.2.2.1 d.2.2.2.2.2.2.2.2.2.2.2.2.1 d.2.2.2.2.2.2.2.2.2.2.2.2.2.1 d.2.2.2.2.2.2.2.2.2.2.2.2.2.2.1 d.2.2.2.2.2.2.2.2.2.2.2.2.2.2.2.1 d.2.2.2.2.2.2.2.2.2.2.2.2.2.2.2.2.1 d.2.2.2.2.2.2.2.2.2.2.2.2.2.2.2.2.2.1 d.2.2.2.2.2.2.2.2.2.2.2.2.2.2.2.2.2.2.1 d.2.2.2.2.2.2.2.2.2.2.2.2.2.2.2.2.2.2.2.1 d.2.2.2.2.2.2.2.2.2.2.2.2.2.2.2.2.2.2.2.2.1 d.2.2.2.2.2.2.2.2.2.2.2.2.2.2.2.2.2.2.2.2.2.1 d.2.2.2.2.2.2.2.2.2.2.2.2.2.2.2.2.2.2.2.2.2.2.1 d.2.2.2.2.2.2.2.2.2.2.2.2.2.2.2.2.2.2.2.2.2.2.2.1 d.2.2.2.2.2.2.2.2.2.2.2.2.2.2.2.2.2.2.2.2.2.2.2.2.1 d.2.2.2.2.2.2.2.2.2.2.2.2.2.2.2.2.2.2.2.2.2.2.2.2.2 c x) k _ d
theorem ds_mode_Path_0 {ρ : Type} (g_mode_Step : Int → Int → Bool → Bool → Bool → Bool → Bool → Bool → Bool → Bool → Bool → Bool → Int → Int → Int → Option (Int × Int × Bool × Bool × Int × Int)) (l_0 : ∀ {ρ : Type}, (Nat ×
  Nat ×
    Bool ×
      Int ×
        Int ×
          Nat ×
            (Nat → Bool) ×
              (Nat → Bool) ×
                (Nat → Bool) ×
                  (Nat → Bool) ×
                    (Nat → Bool) ×
                      (Nat → Bool) × (Nat → Bool) × (Nat → Bool) × (Nat → Int) × (Nat → Int) × (Nat → Int) × Int × Int × Bool × Bool × Nat × (Nat → Int) × (Nat → Int) × (Nat → Bool) × (Nat → Bool)) → ((Nat ×
  Nat ×
    Bool ×
      Int ×
        Int ×
          Bool ×
            Nat ×
              (Nat → Bool) ×
                (Nat → Bool) ×
                  (Nat → Bool) ×
                    (Nat → Bool) ×
                      (Nat → Bool) ×
                        (Nat → Bool) × (Nat → Bool) × (Nat → Bool) × (Nat → Int) × (Nat → Int) × (Nat → Int) × Int × Int × Bool × Bool × Nat × (Nat → Int) × (Nat → Int) × (Nat → Bool) × (Nat → Bool)) → Option ρ) → Option ρ) (x0 : Nat) (x1 : Nat) (x2 : Bool) (x3 : Int) (x4 : Int) (x5 : Nat) (x6 : Nat → Bool) (x7 : Nat → Bool) (x8 : Nat → Bool) (x9 : Nat → Bool) (x10 : Nat → Bool) (x11 : Nat → Bool) (x12 : Nat → Bool) (x13 : Nat → Bool) (x14 : Nat → Int) (x15 : Nat → Int) (x16 : Nat → Int) (x17 : Int) (x18 : Int) (x19 : Bool) (x20 : Bool) (x21 : Nat) (x22 : Nat → Int) (x23 : Nat → Int) (x24 : Nat → Bool) (x25 : Nat → Bool) (c : St → Option ρ) (K : AX → St → Option ρ) :
    runC Try.prog (envOf [(10, F_mode_Step g_mode_Step)]) ⟨[⟨3, [0, 1, 3, 4, 6, 7, 11, 12, 13, 14, 15, 16, 17, 18, 19, 20, 21, 22, 23, 24, 25], [(5, [.i .i64, .i .i64, .b, .b])]⟩], [⟨3, 1, @R_mode_Path_0 (@l_0)⟩], [], [], none⟩ (tmpsOf Try.prog 12) 1 200 (loopIn Try.prog 12 3)
      (St.mk
    [AV.und, AV.und, AV.r (RV.c (CV.ptr 1 (Off.k 0) 4)), AV.und, AV.und, AV.r (RV.c (CV.sl 2 (Off.k 0) (Sz.s x0) 4 true)), AV.und, AV.und, AV.r (RV.c (CV.sl 0 (Off.k 0) (Sz.s x1) 11 x2)),
      AV.r (RV.c (CV.f (FV.i IntKind.i64 x3))), AV.r (RV.c (CV.f (FV.i IntKind.i64 x4))), AV.und, AV.und, AV.und, AV.und, AV.und, AV.und, AV.und, AV.und, AV.und, AV.und, AV.und, AV.und, AV.und, AV.und,
      AV.und]
    [some [Sg.a (Sz.s x5) [Col.b x6, Col.b x7, Col.b x8, Col.b x9, Col.b x10, Col.b x11, Col.b x12, Col.b x13, Col.i IntKind.i64 x14, Col.i IntKind.i64 x15, Col.i IntKind.i64 x16]],
      some [Sg.c (CV.f (FV.i IntKind.i64 x17)), Sg.c (CV.f (FV.i IntKind.i64 x18)), Sg.c (CV.f (FV.b x19)), Sg.c (CV.f (FV.b x20))],
      some [Sg.a (Sz.s x21) [Col.i IntKind.i64 x22, Col.i IntKind.i64 x23, Col.b x24, Col.b x25]]]
    [])
      (next (fun t => t.head 1 ⟨[⟨3, [0, 1, 3, 4, 6, 7, 11, 12, 13, 14, 15, 16, 17, 18, 19, 20, 21, 22, 23, 24, 25], [(5, [.i .i64, .i .i64, .b, .b])]⟩], [⟨3, 1, @R_mode_Path_0 (@l_0)⟩], [], [], none⟩ (loopIn Try.prog 12 3)) c K) =
    S_mode_Path_0 g_mode_Step  x0 x1 x2 x3 x4 x5 x6 x7 x8 x9 x10 x11 x12 x13 x14 x15 x16 x17 x18 x19 x20 x21 x22 x23 x24 x25 (fun d => c (St.mk
  [AV.und, AV.und, AV.r (RV.c (CV.ptr 1 (Off.k 0) 4)), AV.und, AV.und, AV.r (RV.c (CV.sl 2 (Off.k 0) (Sz.s d.fst) 4 true)), AV.und, AV.und,
    AV.r (RV.c (CV.sl 0 (Off.k 0) (Sz.s d.snd.fst) 11 d.snd.snd.fst)), AV.r (RV.c (CV.f (FV.i IntKind.i64 d.snd.snd.snd.fst))), AV.r (RV.c (CV.f (FV.i IntKind.i64 d.snd.snd.snd.snd.fst))), AV.und,
    AV.und, AV.und, AV.und, AV.und, AV.und, AV.und, AV.und, AV.und, AV.und, AV.und, AV.und, AV.und, AV.und, AV.und]
  [some
      [Sg.a (Sz.s d.snd.snd.snd.snd.snd.fst)
          [Col.b d.snd.snd.snd.snd.snd.snd.fst, Col.b d.snd.snd.snd.snd.snd.snd.snd.fst, Col.b d.snd.snd.snd.snd.snd.snd.snd.snd.fst, Col.b d.snd.snd.snd.snd.snd.snd.snd.snd.snd.fst,
            Col.b d.snd.snd.snd.snd.snd.snd.snd.snd.snd.snd.fst, Col.b d.snd.snd.snd.snd.snd.snd.snd.snd.snd.snd.snd.fst, Col.b d.snd.snd.snd.snd.snd.snd.snd.snd.snd.snd.snd.snd.fst,
            Col.b d.snd.snd.snd.snd.snd.snd.snd.snd.snd.snd.snd.snd.snd.fst, Col.i IntKind.i64 d.snd.snd.snd.snd.snd.snd.snd.snd.snd.snd.snd.snd.snd.snd.fst,
            Col.i IntKind.i64 d.snd.snd.snd.snd.snd.snd.snd.snd.snd.snd.snd.snd.snd.snd.snd.fst, Col.i IntKind.i64 d.snd.snd.snd.snd.snd.snd.snd.snd.snd.snd.snd.snd.snd.snd.snd.snd.fst]],
    some
      [Sg.c (CV.f (FV.i IntKind.i64 d.snd.snd.snd.snd.snd.snd.snd.snd.snd.snd.snd.snd.snd.snd.snd.snd.snd.fst)),
        Sg.c (CV.f (FV.i IntKind.i64 d.snd.snd.snd.snd.snd.snd.snd.snd.snd.snd.snd.snd.snd.snd.snd.snd.snd.snd.fst)),
        Sg.c (CV.f (FV.b d.snd.snd.snd.snd.snd.snd.snd.snd.snd.snd.snd.snd.snd.snd.snd.snd.snd.snd.snd.fst)),
        Sg.c (CV.f (FV.b d.snd.snd.snd.snd.snd.snd.snd.snd.snd.snd.snd.snd.snd.snd.snd.snd.snd.snd.snd.snd.fst))],
    some
      [Sg.a (Sz.s d.snd.snd.snd.snd.snd.snd.snd.snd.snd.snd.snd.snd.snd.snd.snd.snd.snd.snd.snd.snd.snd.fst)
          [Col.i IntKind.i64 d.snd.snd.snd.snd.snd.snd.snd.snd.snd.snd.snd.snd.snd.snd.snd.snd.snd.snd.snd.snd.snd.snd.fst,
            Col.i IntKind.i64 d.snd.snd.snd.snd.snd.snd.snd.snd.snd.snd.snd.snd.snd.snd.snd.snd.snd.snd.snd.snd.snd.snd.snd.fst,
            Col.b d.snd.snd.snd.snd.snd.snd.snd.snd.snd.snd.snd.snd.snd.snd.snd.snd.snd.snd.snd.snd.snd.snd.snd.snd.fst,
            Col.b d.snd.snd.snd.snd.snd.snd.snd.snd.snd.snd.snd.snd.snd.snd.snd.snd.snd.snd.snd.snd.snd.snd.snd.snd.snd]]]
  [])) (fun d => K (AX.ex 0) (St.mk
  [AV.und, AV.und, AV.r (RV.c (CV.ptr 1 (Off.k 0) 4)), AV.und, AV.und, AV.r (RV.c (CV.sl 2 (Off.k 0) (Sz.s d.fst) 4 true)), AV.und, AV.und,
    AV.r (RV.c (CV.sl 0 (Off.k 0) (Sz.s d.snd.fst) 11 d.snd.snd.fst)), AV.r (RV.c (CV.f (FV.i IntKind.i64 d.snd.snd.snd.fst))), AV.r (RV.c (CV.f (FV.i IntKind.i64 d.snd.snd.snd.snd.fst))),
    AV.r (RV.c (CV.f (FV.b d.snd.snd.snd.snd.snd.fst))), AV.und, AV.und, AV.und, AV.und, AV.und, AV.und, AV.und, AV.und, AV.und, AV.und, AV.und, AV.und, AV.und, AV.und]
  [some
      [Sg.a (Sz.s d.snd.snd.snd.snd.snd.snd.fst)
          [Col.b d.snd.snd.snd.snd.snd.snd.snd.fst, Col.b d.snd.snd.snd.snd.snd.snd.snd.snd.fst, Col.b d.snd.snd.snd.snd.snd.snd.snd.snd.snd.fst, Col.b d.snd.snd.snd.snd.snd.snd.snd.snd.snd.snd.fst,
            Col.b d.snd.snd.snd.snd.snd.snd.snd.snd.snd.snd.snd.fst, Col.b d.snd.snd.snd.snd.snd.snd.snd.snd.snd.snd.snd.snd.fst, Col.b d.snd.snd.snd.snd.snd.snd.snd.snd.snd.snd.snd.snd.snd.fst,
            Col.b d.snd.snd.snd.snd.snd.snd.snd.snd.snd.snd.snd.snd.snd.snd.fst, Col.i IntKind.i64 d.snd.snd.snd.snd.snd.snd.snd.snd.snd.snd.snd.snd.snd.snd.snd.fst,
            Col.i IntKind.i64 d.snd.snd.snd.snd.snd.snd.snd.snd.snd.snd.snd.snd.snd.snd.snd.snd.fst, Col.i IntKind.i64 d.snd.snd.snd.snd.snd.snd.snd.snd.snd.snd.snd.snd.snd.snd.snd.snd.snd.fst]],
    some
      [Sg.c (CV.f (FV.i IntKind.i64 d.snd.snd.snd.snd.snd.snd.snd.snd.snd.snd.snd.snd.snd.snd.snd.snd.snd.snd.fst)),
        Sg.c (CV.f (FV.i IntKind.i64 d.snd.snd.snd.snd.snd.snd.snd.snd.snd.snd.snd.snd.snd.snd.snd.snd.snd.snd.snd.fst)),
        Sg.c (CV.f (FV.b d.snd.snd.snd.snd.snd.snd.snd.snd.snd.snd.snd.snd.snd.snd.snd.snd.snd.snd.snd.snd.fst)),
        Sg.c (CV.f (FV.b d.snd.snd.snd.snd.snd.snd.snd.snd.snd.snd.snd.snd.snd.snd.snd.snd.snd.snd.snd.snd.snd.fst))],
    some
      [Sg.a (Sz.s d.snd.snd.snd.snd.snd.snd.snd.snd.snd.snd.snd.snd.snd.snd.snd.snd.snd.snd.snd.snd.snd.snd.fst)
          [Col.i IntKind.i64 d.snd.snd.snd.snd.snd.snd.snd.snd.snd.snd.snd.snd.snd.snd.snd.snd.snd.snd.snd.snd.snd.snd.snd.fst,
            Col.i IntKind.i64 d.snd.snd.snd.snd.snd.snd.snd.snd.snd.snd.snd.snd.snd.snd.snd.snd.snd.snd.snd.snd.snd.snd.snd.snd.fst,
            Col.b d.snd.snd.snd.snd.snd.snd.snd.snd.snd.snd.snd.snd.snd.snd.snd.snd.snd.snd.snd.snd.snd.snd.snd.snd.snd.fst,
            Col.b d.snd.snd.snd.snd.snd.snd.snd.snd.snd.snd.snd.snd.snd.snd.snd.snd.snd.snd.snd.snd.snd.snd.snd.snd.snd.snd]]]
  [])) := by kernel_rfl
theorem it_mode_Path_0 {ρ : Type} (x0 : Nat) (x1 : Nat) (x2 : Bool) (x3 : Int) (x4 : Int) (x5 : Nat) (x6 : Nat → Bool) (x7 : Nat → Bool) (x8 : Nat → Bool) (x9 : Nat → Bool) (x10 : Nat → Bool) (x11 : Nat → Bool) (x12 : Nat → Bool) (x13 : Nat → Bool) (x14 : Nat → Int) (x15 : Nat → Int) (x16 : Nat → Int) (x17 : Int) (x18 : Int) (x19 : Bool) (x20 : Bool) (x21 : Nat) (x22 : Nat → Int) (x23 : Nat → Int) (x24 : Nat → Bool) (x25 : Nat → Bool) (K : AX → St → Option ρ) :
    iter (fun t => t.head 1 ⟨[⟨3, [0, 1, 3, 4, 6, 7, 11, 12, 13, 14, 15, 16, 17, 18, 19, 20, 21, 22, 23, 24, 25], [(5, [.i .i64, .i .i64, .b, .b])]⟩], [⟨3, 1, @R_mode_Path_0 (@L_mode_Path_0)⟩], [], [], none⟩ (loopIn Try.prog 12 3)) (runC Try.prog (envOf [(10, F_mode_Step f_mode_Step)]) ⟨[⟨3, [0, 1, 3, 4, 6, 7, 11, 12, 13, 14, 15, 16, 17, 18, 19, 20, 21, 22, 23, 24, 25], [(5, [.i .i64, .i .i64, .b, .b])]⟩], [⟨3, 1, @R_mode_Path_0 (@L_mode_Path_0)⟩], [], [], none⟩ (tmpsOf Try.prog 12) 1 200 (loopIn Try.prog 12 3)) K 200
      (St.mk
    [AV.und, AV.und, AV.r (RV.c (CV.ptr 1 (Off.k 0) 4)), AV.und, AV.und, AV.r (RV.c (CV.sl 2 (Off.k 0) (Sz.s x0) 4 true)), AV.und, AV.und, AV.r (RV.c (CV.sl 0 (Off.k 0) (Sz.s x1) 11 x2)),
      AV.r (RV.c (CV.f (FV.i IntKind.i64 x3))), AV.r (RV.c (CV.f (FV.i IntKind.i64 x4))), AV.und, AV.und, AV.und, AV.und, AV.und, AV.und, AV.und, AV.und, AV.und, AV.und, AV.und, AV.und, AV.und, AV.und,
      AV.und]
    [some [Sg.a (Sz.s x5) [Col.b x6, Col.b x7, Col.b x8, Col.b x9, Col.b x10, Col.b x11, Col.b x12, Col.b x13, Col.i IntKind.i64 x14, Col.i IntKind.i64 x15, Col.i IntKind.i64 x16]],
      some [Sg.c (CV.f (FV.i IntKind.i64 x17)), Sg.c (CV.f (FV.i IntKind.i64 x18)), Sg.c (CV.f (FV.b x19)), Sg.c (CV.f (FV.b x20))],
      some [Sg.a (Sz.s x21) [Col.i IntKind.i64 x22, Col.i IntKind.i64 x23, Col.b x24, Col.b x25]]]
    []) = L_mode_Path_0 (x0, x1, x2, x3, x4, x5, x6, x7, x8, x9, x10, x11, x12, x13, x14, x15, x16, x17, x18, x19, x20, x21, x22, x23, x24, x25) (fun d => K (AX.ex 0) (St.mk
  [AV.und, AV.und, AV.r (RV.c (CV.ptr 1 (Off.k 0) 4)), AV.und, AV.und, AV.r (RV.c (CV.sl 2 (Off.k 0) (Sz.s d.fst) 4 true)), AV.und, AV.und,
    AV.r (RV.c (CV.sl 0 (Off.k 0) (Sz.s d.snd.fst) 11 d.snd.snd.fst)), AV.r (RV.c (CV.f (FV.i IntKind.i64 d.snd.snd.snd.fst))), AV.r (RV.c (CV.f (FV.i IntKind.i64 d.snd.snd.snd.snd.fst))),
    AV.r (RV.c (CV.f (FV.b d.snd.snd.snd.snd.snd.fst))), AV.und, AV.und, AV.und, AV.und, AV.und, AV.und, AV.und, AV.und, AV.und, AV.und, AV.und, AV.und, AV.und, AV.und]
  [some
      [Sg.a (Sz.s d.snd.snd.snd.snd.snd.snd.fst)
          [Col.b d.snd.snd.snd.snd.snd.snd.snd.fst, Col.b d.snd.snd.snd.snd.snd.snd.snd.snd.fst, Col.b d.snd.snd.snd.snd.snd.snd.snd.snd.snd.fst, Col.b d.snd.snd.snd.snd.snd.snd.snd.snd.snd.snd.fst,
            Col.b d.snd.snd.snd.snd.snd.snd.snd.snd.snd.snd.snd.fst, Col.b d.snd.snd.snd.snd.snd.snd.snd.snd.snd.snd.snd.snd.fst, Col.b d.snd.snd.snd.snd.snd.snd.snd.snd.snd.snd.snd.snd.snd.fst,
            Col.b d.snd.snd.snd.snd.snd.snd.snd.snd.snd.snd.snd.snd.snd.snd.fst, Col.i IntKind.i64 d.snd.snd.snd.snd.snd.snd.snd.snd.snd.snd.snd.snd.snd.snd.snd.fst,
            Col.i IntKind.i64 d.snd.snd.snd.snd.snd.snd.snd.snd.snd.snd.snd.snd.snd.snd.snd.snd.fst, Col.i IntKind.i64 d.snd.snd.snd.snd.snd.snd.snd.snd.snd.snd.snd.snd.snd.snd.snd.snd.snd.fst]],
    some
      [Sg.c (CV.f (FV.i IntKind.i64 d.snd.snd.snd.snd.snd.snd.snd.snd.snd.snd.snd.snd.snd.snd.snd.snd.snd.snd.fst)),
        Sg.c (CV.f (FV.i IntKind.i64 d.snd.snd.snd.snd.snd.snd.snd.snd.snd.snd.snd.snd.snd.snd.snd.snd.snd.snd.snd.fst)),
        Sg.c (CV.f (FV.b d.snd.snd.snd.snd.snd.snd.snd.snd.snd.snd.snd.snd.snd.snd.snd.snd.snd.snd.snd.snd.fst)),
        Sg.c (CV.f (FV.b d.snd.snd.snd.snd.snd.snd.snd.snd.snd.snd.snd.snd.snd.snd.snd.snd.snd.snd.snd.snd.snd.fst))],
    some
      [Sg.a (Sz.s d.snd.snd.snd.snd.snd.snd.snd.snd.snd.snd.snd.snd.snd.snd.snd.snd.snd.snd.snd.snd.snd.snd.fst)
          [Col.i IntKind.i64 d.snd.snd.snd.snd.snd.snd.snd.snd.snd.snd.snd.snd.snd.snd.snd.snd.snd.snd.snd.snd.snd.snd.snd.fst,
            Col.i IntKind.i64 d.snd.snd.snd.snd.snd.snd.snd.snd.snd.snd.snd.snd.snd.snd.snd.snd.snd.snd.snd.snd.snd.snd.snd.snd.fst,
            Col.b d.snd.snd.snd.snd.snd.snd.snd.snd.snd.snd.snd.snd.snd.snd.snd.snd.snd.snd.snd.snd.snd.snd.snd.snd.snd.fst,
            Col.b d.snd.snd.snd.snd.snd.snd.snd.snd.snd.snd.snd.snd.snd.snd.snd.snd.snd.snd.snd.snd.snd.snd.snd.snd.snd.snd]]]
  [])) :=
  iter_loopX (emb := fun (d : Nat ×
  Nat ×
    Bool ×
      Int ×
        Int ×
          Nat ×
            (Nat → Bool) ×
              (Nat → Bool) ×
                (Nat → Bool) ×
                  (Nat → Bool) ×
                    (Nat → Bool) ×
                      (Nat → Bool) × (Nat → Bool) × (Nat → Bool) × (Nat → Int) × (Nat → Int) × (Nat → Int) × Int × Int × Bool × Bool × Nat × (Nat → Int) × (Nat → Int) × (Nat → Bool) × (Nat → Bool)) => St.mk
  [AV.und, AV.und, AV.r (RV.c (CV.ptr 1 (Off.k 0) 4)), AV.und, AV.und, AV.r (RV.c (CV.sl 2 (Off.k 0) (Sz.s d.fst) 4 true)), AV.und, AV.und,
    AV.r (RV.c (CV.sl 0 (Off.k 0) (Sz.s d.snd.fst) 11 d.snd.snd.fst)), AV.r (RV.c (CV.f (FV.i IntKind.i64 d.snd.snd.snd.fst))), AV.r (RV.c (CV.f (FV.i IntKind.i64 d.snd.snd.snd.snd.fst))), AV.und,
    AV.und, AV.und, AV.und, AV.und, AV.und, AV.und, AV.und, AV.und, AV.und, AV.und, AV.und, AV.und, AV.und, AV.und]
  [some
      [Sg.a (Sz.s d.snd.snd.snd.snd.snd.fst)
          [Col.b d.snd.snd.snd.snd.snd.snd.fst, Col.b d.snd.snd.snd.snd.snd.snd.snd.fst, Col.b d.snd.snd.snd.snd.snd.snd.snd.snd.fst, Col.b d.snd.snd.snd.snd.snd.snd.snd.snd.snd.fst,
            Col.b d.snd.snd.snd.snd.snd.snd.snd.snd.snd.snd.fst, Col.b d.snd.snd.snd.snd.snd.snd.snd.snd.snd.snd.snd.fst, Col.b d.snd.snd.snd.snd.snd.snd.snd.snd.snd.snd.snd.snd.fst,
            Col.b d.snd.snd.snd.snd.snd.snd.snd.snd.snd.snd.snd.snd.snd.fst, Col.i IntKind.i64 d.snd.snd.snd.snd.snd.snd.snd.snd.snd.snd.snd.snd.snd.snd.fst,
            Col.i IntKind.i64 d.snd.snd.snd.snd.snd.snd.snd.snd.snd.snd.snd.snd.snd.snd.snd.fst, Col.i IntKind.i64 d.snd.snd.snd.snd.snd.snd.snd.snd.snd.snd.snd.snd.snd.snd.snd.snd.fst]],
    some
      [Sg.c (CV.f (FV.i IntKind.i64 d.snd.snd.snd.snd.snd.snd.snd.snd.snd.snd.snd.snd.snd.snd.snd.snd.snd.fst)),
        Sg.c (CV.f (FV.i IntKind.i64 d.snd.snd.snd.snd.snd.snd.snd.snd.snd.snd.snd.snd.snd.snd.snd.snd.snd.snd.fst)),
        Sg.c (CV.f (FV.b d.snd.snd.snd.snd.snd.snd.snd.snd.snd.snd.snd.snd.snd.snd.snd.snd.snd.snd.snd.fst)),
        Sg.c (CV.f (FV.b d.snd.snd.snd.snd.snd.snd.snd.snd.snd.snd.snd.snd.snd.snd.snd.snd.snd.snd.snd.snd.fst))],
    some
      [Sg.a (Sz.s d.snd.snd.snd.snd.snd.snd.snd.snd.snd.snd.snd.snd.snd.snd.snd.snd.snd.snd.snd.snd.snd.fst)
          [Col.i IntKind.i64 d.snd.snd.snd.snd.snd.snd.snd.snd.snd.snd.snd.snd.snd.snd.snd.snd.snd.snd.snd.snd.snd.snd.fst,
            Col.i IntKind.i64 d.snd.snd.snd.snd.snd.snd.snd.snd.snd.snd.snd.snd.snd.snd.snd.snd.snd.snd.snd.snd.snd.snd.snd.fst,
            Col.b d.snd.snd.snd.snd.snd.snd.snd.snd.snd.snd.snd.snd.snd.snd.snd.snd.snd.snd.snd.snd.snd.snd.snd.snd.fst,
            Col.b d.snd.snd.snd.snd.snd.snd.snd.snd.snd.snd.snd.snd.snd.snd.snd.snd.snd.snd.snd.snd.snd.snd.snd.snd.snd]]]
  []) (step := fun d c x => S_mode_Path_0 f_mode_Step  d.1 d.2.1 d.2.2.1 d.2.2.2.1 d.2.2.2.2.1 d.2.2.2.2.2.1 d.2.2.2.2.2.2.1 d.2.2.2.2.2.2.2.1 d.2.2.2.2.2.2.2.2.1 d.2.2.2.2.2.2.2.2.2.1 d.2.2.2.2.2.2.2.2.2.2.1 d.2.2.2.2.2.2.2.2.2.2.2.1 d.2.2.2.2.2.2.2.2.2.2.2.2.1 d.2.2.2.2.2.2.2.2.2.2.2.2.2.1 d.2.2.2.2.2.2.2.2.2.2.2.2.2.2.1 d.2.2.2.2.2.2.2.2.2.2.2.2.2.2.2.1 d.2.2.2.2.2.2.2.2.2.2.2.2.2.2.2.2.1 d.2.2.2.2.2.2.2.2.2.2.2.2.2.2.2.2.2.1 d.2.2.2.2.2.2.2.2.2.2.2.2.2.2.2.2.2.2.1 d.2.2.2.2.2.2.2.2.2.2.2.2.2.2.2.2.2.2.2.1 d.2.2.2.2.2.2.2.2.2.2.2.2.2.2.2.2.2.2.2.2.1 d.2.2.2.2.2.2.2.2.2.2.2.2.2.2.2.2.2.2.2.2.2.1 d.2.2.2.2.2.2.2.2.2.2.2.2.2.2.2.2.2.2.2.2.2.2.1 d.2.2.2.2.2.2.2.2.2.2.2.2.2.2.2.2.2.2.2.2.2.2.2.1 d.2.2.2.2.2.2.2.2.2.2.2.2.2.2.2.2.2.2.2.2.2.2.2.2.1 d.2.2.2.2.2.2.2.2.2.2.2.2.2.2.2.2.2.2.2.2.2.2.2.2.2 c x) (kx := (fun d => K (AX.ex 0) (St.mk
  [AV.und, AV.und, AV.r (RV.c (CV.ptr 1 (Off.k 0) 4)), AV.und, AV.und, AV.r (RV.c (CV.sl 2 (Off.k 0) (Sz.s d.fst) 4 true)), AV.und, AV.und,
    AV.r (RV.c (CV.sl 0 (Off.k 0) (Sz.s d.snd.fst) 11 d.snd.snd.fst)), AV.r (RV.c (CV.f (FV.i IntKind.i64 d.snd.snd.snd.fst))), AV.r (RV.c (CV.f (FV.i IntKind.i64 d.snd.snd.snd.snd.fst))),
    AV.r (RV.c (CV.f (FV.b d.snd.snd.snd.snd.snd.fst))), AV.und, AV.und, AV.und, AV.und, AV.und, AV.und, AV.und, AV.und, AV.und, AV.und, AV.und, AV.und, AV.und, AV.und]
  [some
      [Sg.a (Sz.s d.snd.snd.snd.snd.snd.snd.fst)
          [Col.b d.snd.snd.snd.snd.snd.snd.snd.fst, Col.b d.snd.snd.snd.snd.snd.snd.snd.snd.fst, Col.b d.snd.snd.snd.snd.snd.snd.snd.snd.snd.fst, Col.b d.snd.snd.snd.snd.snd.snd.snd.snd.snd.snd.fst,
            Col.b d.snd.snd.snd.snd.snd.snd.snd.snd.snd.snd.snd.fst, Col.b d.snd.snd.snd.snd.snd.snd.snd.snd.snd.snd.snd.snd.fst, Col.b d.snd.snd.snd.snd.snd.snd.snd.snd.snd.snd.snd.snd.snd.fst,
            Col.b d.snd.snd.snd.snd.snd.snd.snd.snd.snd.snd.snd.snd.snd.snd.fst, Col.i IntKind.i64 d.snd.snd.snd.snd.snd.snd.snd.snd.snd.snd.snd.snd.snd.snd.snd.fst,
            Col.i IntKind.i64 d.snd.snd.snd.snd.snd.snd.snd.snd.snd.snd.snd.snd.snd.snd.snd.snd.fst, Col.i IntKind.i64 d.snd.snd.snd.snd.snd.snd.snd.snd.snd.snd.snd.snd.snd.snd.snd.snd.snd.fst]],
    some
      [Sg.c (CV.f (FV.i IntKind.i64 d.snd.snd.snd.snd.snd.snd.snd.snd.snd.snd.snd.snd.snd.snd.snd.snd.snd.snd.fst)),
        Sg.c (CV.f (FV.i IntKind.i64 d.snd.snd.snd.snd.snd.snd.snd.snd.snd.snd.snd.snd.snd.snd.snd.snd.snd.snd.snd.fst)),
        Sg.c (CV.f (FV.b d.snd.snd.snd.snd.snd.snd.snd.snd.snd.snd.snd.snd.snd.snd.snd.snd.snd.snd.snd.snd.fst)),
        Sg.c (CV.f (FV.b d.snd.snd.snd.snd.snd.snd.snd.snd.snd.snd.snd.snd.snd.snd.snd.snd.snd.snd.snd.snd.snd.fst))],
    some
      [Sg.a (Sz.s d.snd.snd.snd.snd.snd.snd.snd.snd.snd.snd.snd.snd.snd.snd.snd.snd.snd.snd.snd.snd.snd.snd.fst)
          [Col.i IntKind.i64 d.snd.snd.snd.snd.snd.snd.snd.snd.snd.snd.snd.snd.snd.snd.snd.snd.snd.snd.snd.snd.snd.snd.snd.fst,
            Col.i IntKind.i64 d.snd.snd.snd.snd.snd.snd.snd.snd.snd.snd.snd.snd.snd.snd.snd.snd.snd.snd.snd.snd.snd.snd.snd.snd.fst,
            Col.b d.snd.snd.snd.snd.snd.snd.snd.snd.snd.snd.snd.snd.snd.snd.snd.snd.snd.snd.snd.snd.snd.snd.snd.snd.snd.fst,
            Col.b d.snd.snd.snd.snd.snd.snd.snd.snd.snd.snd.snd.snd.snd.snd.snd.snd.snd.snd.snd.snd.snd.snd.snd.snd.snd.snd]]]
  [])))
    (fun d c => ds_mode_Path_0 f_mode_Step (@L_mode_Path_0) d.1 d.2.1 d.2.2.1 d.2.2.2.1 d.2.2.2.2.1 d.2.2.2.2.2.1 d.2.2.2.2.2.2.1 d.2.2.2.2.2.2.2.1 d.2.2.2.2.2.2.2.2.1 d.2.2.2.2.2.2.2.2.2.1 d.2.2.2.2.2.2.2.2.2.2.1 d.2.2.2.2.2.2.2.2.2.2.2.1 d.2.2.2.2.2.2.2.2.2.2.2.2.1 d.2.2.2.2.2.2.2.2.2.2.2.2.2.1 d.2.2.2.2.2.2.2.2.2.2.2.2.2.2.1 d.2.2.2.2.2.2.2.2.2.2.2.2.2.2.2.1 d.2.2.2.2.2.2.2.2.2.2.2.2.2.2.2.2.1 d.2.2.2.2.2.2.2.2.2.2.2.2.2.2.2.2.2.1 d.2.2.2.2.2.2.2.2.2.2.2.2.2.2.2.2.2.2.1 d.2.2.2.2.2.2.2.2.2.2.2.2.2.2.2.2.2.2.2.1 d.2.2.2.2.2.2.2.2.2.2.2.2.2.2.2.2.2.2.2.2.1 d.2.2.2.2.2.2.2.2.2.2.2.2.2.2.2.2.2.2.2.2.2.1 d.2.2.2.2.2.2.2.2.2.2.2.2.2.2.2.2.2.2.2.2.2.2.1 d.2.2.2.2.2.2.2.2.2.2.2.2.2.2.2.2.2.2.2.2.2.2.2.1 d.2.2.2.2.2.2.2.2.2.2.2.2.2.2.2.2.2.2.2.2.2.2.2.2.1 d.2.2.2.2.2.2.2.2.2.2.2.2.2.2.2.2.2.2.2.2.2.2.2.2.2 c K) 200 (x0, x1, x2, x3, x4, x5, x6, x7, x8, x9, x10, x11, x12, x13, x14, x15, x16, x17, x18, x19, x20, x21, x22, x23, x24, x25)
theorem so_mode_Path_0 : ∀ kk, SumOK Try.prog (envOf [(10, F_mode_Step f_mode_Step)]) ⟨[⟨3, [0, 1, 3, 4, 6, 7, 11, 12, 13, 14, 15, 16, 17, 18, 19, 20, 21, 22, 23, 24, 25], [(5, [.i .i64, .i .i64, .b, .b])]⟩], [⟨3, 1, @R_mode_Path_0 (@L_mode_Path_0)⟩], [], [], none⟩ (tmpsOf Try.prog 12) kk 200 (loopIn Try.prog 12 3) :=
  SumOK.of (id := 3) (k0 := 1) (run := @R_mode_Path_0 (@L_mode_Path_0)) (by kernel_rfl) fun s K r hr => by
    unfold R_mode_Path_0 at hr
    obtain ⟨b, hb, hr1⟩ := Option.bind_eq_some_iff.1 hr
    have e := ((Q_mode_Path_0).ok s b hb).trans (q_mode_Path_0 b)
    subst e
    exact ⟨200, (it_mode_Path_0 b.1.2.2.2.2.2.1.2.2.1 b.1.2.2.2.2.2.2.2.2.1.2.2.1 b.1.2.2.2.2.2.2.2.2.1.2.2.2.2 b.1.2.2.2.2.2.2.2.2.2.1 b.1.2.2.2.2.2.2.2.2.2.2.1 b.2.1.1.1.1 b.2.1.1.1.2.1 b.2.1.1.1.2.2.1 b.2.1.1.1.2.2.2.1 b.2.1.1.1.2.2.2.2.1 b.2.1.1.1.2.2.2.2.2.1 b.2.1.1.1.2.2.2.2.2.2.1 b.2.1.1.1.2.2.2.2.2.2.2.1 b.2.1.1.1.2.2.2.2.2.2.2.2.1 b.2.1.1.1.2.2.2.2.2.2.2.2.2.1 b.2.1.1.1.2.2.2.2.2.2.2.2.2.2.1 b.2.1.1.1.2.2.2.2.2.2.2.2.2.2.2.1 b.2.1.2.1.1 b.2.1.2.1.2.1 b.2.1.2.1.2.2.1 b.2.1.2.1.2.2.2.1 b.2.1.2.2.1.1.1 b.2.1.2.2.1.1.2.1 b.2.1.2.2.1.1.2.2.1 b.2.1.2.2.1.1.2.2.2.1 b.2.1.2.2.1.1.2.2.2.2.1 K).trans hr1⟩
def K_mode_Path {ρ : Type} (g_mode_Step : Int → Int → Bool → Bool → Bool → Bool → Bool → Bool → Bool → Bool → Bool → Bool → Int → Int → Int → Option (Int × Int × Bool × Bool × Int × Int)) (l_0 : ∀ {ρ : Type}, (Nat ×
  Nat ×
    Bool ×
      Int ×
        Int ×
          Nat ×
            (Nat → Bool) ×
              (Nat → Bool) ×
                (Nat → Bool) ×
                  (Nat → Bool) ×
                    (Nat → Bool) ×
                      (Nat → Bool) × (Nat → Bool) × (Nat → Bool) × (Nat → Int) × (Nat → Int) × (Nat → Int) × Int × Int × Bool × Bool × Nat × (Nat → Int) × (Nat → Int) × (Nat → Bool) × (Nat → Bool)) → ((Nat ×
  Nat ×
    Bool ×
      Int ×
        Int ×
          Bool ×
            Nat ×
              (Nat → Bool) ×
                (Nat → Bool) ×
                  (Nat → Bool) ×
                    (Nat → Bool) ×
                      (Nat → Bool) ×
                        (Nat → Bool) × (Nat → Bool) × (Nat → Bool) × (Nat → Int) × (Nat → Int) × (Nat → Int) × Int × Int × Bool × Bool × Nat × (Nat → Int) × (Nat → Int) × (Nat → Bool) × (Nat → Bool)) → Option ρ) → Option ρ) (x0 : Int) (x1 : Int) (x2 : Bool) (x3 : Bool) (x4 : Nat) (x5 : Nat → Bool) (x6 : Nat → Bool) (x7 : Nat → Bool) (x8 : Nat → Bool) (x9 : Nat → Bool) (x10 : Nat → Bool) (x11 : Nat → Bool) (x12 : Nat → Bool) (x13 : Nat → Int) (x14 : Nat → Int) (x15 : Nat → Int) (w0 : Bool) (k : (Nat × Nat × (Nat → Int) × (Nat → Int) × (Nat → Bool) × (Nat → Bool)) → Option ρ) : Option ρ :=
  l_0 (0, x4, w0, Int.ofNat x4, 0, x4, x5, x6, x7, x8, x9, x10, x11, x12, x13, x14, x15, x0, x1, x2, x3, 0, fun (x : Nat) => 0, fun (x : Nat) => 0, fun (x : Nat) => false, fun (x : Nat) => false)
    fun
      (d :
        Nat ×
          Nat ×
            Bool ×
              Int ×
                Int ×
                  Bool ×
                    Nat ×
                      (Nat → Bool) ×
                        (Nat → Bool) ×
                          (Nat → Bool) ×
                            (Nat → Bool) ×
                              (Nat → Bool) ×
                                (Nat → Bool) ×
                                  (Nat → Bool) × (Nat → Bool) × (Nat → Int) × (Nat → Int) × (Nat → Int) × Int × Int × Bool × Bool × Nat × (Nat → Int) × (Nat → Int) × (Nat → Bool) × (Nat → Bool)) =>
    k
      (d.fst, d.snd.snd.snd.snd.snd.snd.snd.snd.snd.snd.snd.snd.snd.snd.snd.snd.snd.snd.snd.snd.snd.snd.fst,
        d.snd.snd.snd.snd.snd.snd.snd.snd.snd.snd.snd.snd.snd.snd.snd.snd.snd.snd.snd.snd.snd.snd.snd.1,
        d.snd.snd.snd.snd.snd.snd.snd.snd.snd.snd.snd.snd.snd.snd.snd.snd.snd.snd.snd.snd.snd.snd.snd.snd.1,
        d.snd.snd.snd.snd.snd.snd.snd.snd.snd.snd.snd.snd.snd.snd.snd.snd.snd.snd.snd.snd.snd.snd.snd.snd.snd.1,
        d.snd.snd.snd.snd.snd.snd.snd.snd.snd.snd.snd.snd.snd.snd.snd.snd.snd.snd.snd.snd.snd.snd.snd.snd.snd.2)
def f_mode_Path (x0 : Int) (x1 : Int) (x2 : Bool) (x3 : Bool) (x4 : Nat) (x5 : Nat → Bool) (x6 : Nat → Bool) (x7 : Nat → Bool) (x8 : Nat → Bool) (x9 : Nat → Bool) (x10 : Nat → Bool) (x11 : Nat → Bool) (x12 : Nat → Bool) (x13 : Nat → Int) (x14 : Nat → Int) (x15 : Nat → Int) (w0 : Bool) : Option (Nat × Nat × (Nat → Int) × (Nat → Int) × (Nat → Bool) × (Nat → Bool)) := K_mode_Path f_mode_Step (@L_mode_Path_0) x0 x1 x2 x3 x4 x5 x6 x7 x8 x9 x10 x11 x12 x13 x14 x15 w0 some
section
open Go.Ab.Rdr
def QA_mode_Path := ((pair (cons (ar (ra (cons (gc (cf (fi .i64 hole))) (cons (gc (cf (fi .i64 hole))) (cons (gc (cf (fb hole))) (cons (gc (cf (fb hole))) nil)))))) (cons (ar (rc (csl (nat 0) (ok' (nat 0)) (szs hole) (nat 11) hole))) nil)) (cons (cons (ga (szs hole) (cons (kb hole) (cons (kb hole) (cons (kb hole) (cons (kb hole) (cons (kb hole) (cons (kb hole) (cons (kb hole) (cons (kb hole) (cons (ki .i64 hole) (cons (ki .i64 hole) (cons (ki .i64 hole) nil)))))))))))) nil) nil)) : Rdr (List AV × List Blk) _)
end
def F0_mode_Path (f : (Int) → (Int) → (Bool) → (Bool) → (Nat) → (Nat → Bool) → (Nat → Bool) → (Nat → Bool) → (Nat → Bool) → (Nat → Bool) → (Nat → Bool) → (Nat → Bool) → (Nat → Bool) → (Nat → Int) → (Nat → Int) → (Nat → Int) → (Bool) → Option (Nat × Nat × (Nat → Int) × (Nat → Int) × (Nat → Bool) × (Nat → Bool))) : Sem1 := fun args h => match (QA_mode_Path).rd (args, h) with
  | some b => .test (Nat.beq b.2.1.1.1 b.1.2.1.2.2.1) (.opt (f b.1.1.1 b.1.1.2.1 b.1.1.2.2.1 b.1.1.2.2.2.1 b.1.2.1.2.2.1 b.2.1.1.2.1 b.2.1.1.2.2.1 b.2.1.1.2.2.2.1 b.2.1.1.2.2.2.2.1 b.2.1.1.2.2.2.2.2.1 b.2.1.1.2.2.2.2.2.2.1 b.2.1.1.2.2.2.2.2.2.2.1 b.2.1.1.2.2.2.2.2.2.2.2.1 b.2.1.1.2.2.2.2.2.2.2.2.2.1 b.2.1.1.2.2.2.2.2.2.2.2.2.2.1 b.2.1.1.2.2.2.2.2.2.2.2.2.2.2.1 b.1.2.1.2.2.2.2) fun (d : Nat × Nat × (Nat → Int) × (Nat → Int) × (Nat → Bool) × (Nat → Bool)) => .leaf (Res.mk (AV.r (RV.c (CV.sl 1 (Off.k 0) (Sz.s d.fst) 4 true))) [Ch.keep]
    [[Sg.a (Sz.s d.snd.fst) [Col.i IntKind.i64 d.snd.snd.fst, Col.i IntKind.i64 d.snd.snd.snd.fst, Col.b d.snd.snd.snd.snd.fst, Col.b d.snd.snd.snd.snd.snd]]])) .fail
  | none => .fail
def F_mode_Path (f : (Int) → (Int) → (Bool) → (Bool) → (Nat) → (Nat → Bool) → (Nat → Bool) → (Nat → Bool) → (Nat → Bool) → (Nat → Bool) → (Nat → Bool) → (Nat → Bool) → (Nat → Bool) → (Nat → Int) → (Nat → Int) → (Nat → Int) → (Bool) → Option (Nat × Nat × (Nat → Int) × (Nat → Int) × (Nat → Bool) × (Nat → Bool))) : Sem1 := (nilF 1 [.b, .b, .b, .b, .b, .b, .b, .b, .i .i64, .i .i64, .i .i64] (F0_mode_Path f))
theorem d_mode_Path (g_mode_Step : Int → Int → Bool → Bool → Bool → Bool → Bool → Bool → Bool → Bool → Bool → Bool → Int → Int → Int → Option (Int × Int × Bool × Bool × Int × Int)) (l_0 : ∀ {ρ : Type}, (Nat ×
  Nat ×
    Bool ×
      Int ×
        Int ×
          Nat ×
            (Nat → Bool) ×
              (Nat → Bool) ×
                (Nat → Bool) ×
                  (Nat → Bool) ×
                    (Nat → Bool) ×
                      (Nat → Bool) × (Nat → Bool) × (Nat → Bool) × (Nat → Int) × (Nat → Int) × (Nat → Int) × Int × Int × Bool × Bool × Nat × (Nat → Int) × (Nat → Int) × (Nat → Bool) × (Nat → Bool)) → ((Nat ×
  Nat ×
    Bool ×
      Int ×
        Int ×
          Bool ×
            Nat ×
              (Nat → Bool) ×
                (Nat → Bool) ×
                  (Nat → Bool) ×
                    (Nat → Bool) ×
                      (Nat → Bool) ×
                        (Nat → Bool) × (Nat → Bool) × (Nat → Bool) × (Nat → Int) × (Nat → Int) × (Nat → Int) × Int × Int × Bool × Bool × Nat × (Nat → Int) × (Nat → Int) × (Nat → Bool) × (Nat → Bool)) → Option ρ) → Option ρ) (x0 : Int) (x1 : Int) (x2 : Bool) (x3 : Bool) (x4 : Nat) (x5 : Nat → Bool) (x6 : Nat → Bool) (x7 : Nat → Bool) (x8 : Nat → Bool) (x9 : Nat → Bool) (x10 : Nat → Bool) (x11 : Nat → Bool) (x12 : Nat → Bool) (x13 : Nat → Int) (x14 : Nat → Int) (x15 : Nat → Int) (w0 : Bool) : den Try.prog (envOf [(10, F_mode_Step g_mode_Step)]) ⟨[⟨3, [0, 1, 3, 4, 6, 7, 11, 12, 13, 14, 15, 16, 17, 18, 19, 20, 21, 22, 23, 24, 25], [(5, [.i .i64, .i .i64, .b, .b])]⟩], [⟨3, 1, @R_mode_Path_0 (@l_0)⟩], [], [], none⟩ 200 12 [.r (.agg [.c (.f (.i .i64 x0)), .c (.f (.i .i64 x1)), .c (.f (.b x2)), .c (.f (.b x3))]), .r (.c (.sl 0 (.k 0) (.s x4) 11 w0))] [[.a (.s x4) [.b x5, .b x6, .b x7, .b x8, .b x9, .b x10, .b x11, .b x12, .i .i64 x13, .i .i64 x14, .i .i64 x15]]] =
    K_mode_Path g_mode_Step (@l_0) x0 x1 x2 x3 x4 x5 x6 x7 x8 x9 x10 x11 x12 x13 x14 x15 w0 (fun (d : Nat × Nat × (Nat → Int) × (Nat → Int) × (Nat → Bool) × (Nat → Bool)) => some (Res.mk (AV.r (RV.c (CV.sl 1 (Off.k 0) (Sz.s d.fst) 4 true))) [Ch.keep]
    [[Sg.a (Sz.s d.snd.fst) [Col.i IntKind.i64 d.snd.snd.fst, Col.i IntKind.i64 d.snd.snd.snd.fst, Col.b d.snd.snd.snd.snd.fst, Col.b d.snd.snd.snd.snd.snd]]])) := by kernel_rfl
theorem m_mode_Path {ρ σ : Type} (q : ρ → Option σ) (g_mode_Step : Int → Int → Bool → Bool → Bool → Bool → Bool → Bool → Bool → Bool → Bool → Bool → Int → Int → Int → Option (Int × Int × Bool × Bool × Int × Int)) (l_0 : ∀ {ρ : Type}, (Nat ×
  Nat ×
    Bool ×
      Int ×
        Int ×
          Nat ×
            (Nat → Bool) ×
              (Nat → Bool) ×
                (Nat → Bool) ×
                  (Nat → Bool) ×
                    (Nat → Bool) ×
                      (Nat → Bool) × (Nat → Bool) × (Nat → Bool) × (Nat → Int) × (Nat → Int) × (Nat → Int) × Int × Int × Bool × Bool × Nat × (Nat → Int) × (Nat → Int) × (Nat → Bool) × (Nat → Bool)) → ((Nat ×
  Nat ×
    Bool ×
      Int ×
        Int ×
          Bool ×
            Nat ×
              (Nat → Bool) ×
                (Nat → Bool) ×
                  (Nat → Bool) ×
                    (Nat → Bool) ×
                      (Nat → Bool) ×
                        (Nat → Bool) × (Nat → Bool) × (Nat → Bool) × (Nat → Int) × (Nat → Int) × (Nat → Int) × Int × Int × Bool × Bool × Nat × (Nat → Int) × (Nat → Int) × (Nat → Bool) × (Nat → Bool)) → Option ρ) → Option ρ) (hl_0 : ∀ {ρ σ : Type} (q : ρ → Option σ) (d : Nat ×
  Nat ×
    Bool ×
      Int ×
        Int ×
          Nat ×
            (Nat → Bool) ×
              (Nat → Bool) ×
                (Nat → Bool) ×
                  (Nat → Bool) ×
                    (Nat → Bool) ×
                      (Nat → Bool) × (Nat → Bool) × (Nat → Bool) × (Nat → Int) × (Nat → Int) × (Nat → Int) × Int × Int × Bool × Bool × Nat × (Nat → Int) × (Nat → Int) × (Nat → Bool) × (Nat → Bool)) (k : (Nat ×
  Nat ×
    Bool ×
      Int ×
        Int ×
          Bool ×
            Nat ×
              (Nat → Bool) ×
                (Nat → Bool) ×
                  (Nat → Bool) ×
                    (Nat → Bool) ×
                      (Nat → Bool) ×
                        (Nat → Bool) × (Nat → Bool) × (Nat → Bool) × (Nat → Int) × (Nat → Int) × (Nat → Int) × Int × Int × Bool × Bool × Nat × (Nat → Int) × (Nat → Int) × (Nat → Bool) × (Nat → Bool)) → Option ρ), (l_0 d k).bind q = l_0 d fun x => (k x).bind q) (x0 : Int) (x1 : Int) (x2 : Bool) (x3 : Bool) (x4 : Nat) (x5 : Nat → Bool) (x6 : Nat → Bool) (x7 : Nat → Bool) (x8 : Nat → Bool) (x9 : Nat → Bool) (x10 : Nat → Bool) (x11 : Nat → Bool) (x12 : Nat → Bool) (x13 : Nat → Int) (x14 : Nat → Int) (x15 : Nat → Int) (w0 : Bool) (k : (Nat × Nat × (Nat → Int) × (Nat → Int) × (Nat → Bool) × (Nat → Bool)) → Option ρ) : (K_mode_Path g_mode_Step (@l_0) x0 x1 x2 x3 x4 x5 x6 x7 x8 x9 x10 x11 x12 x13 x14 x15 w0 k).bind q = K_mode_Path g_mode_Step (@l_0) x0 x1 x2 x3 x4 x5 x6 x7 x8 x9 x10 x11 x12 x13 x14 x15 w0 (fun d => (k d).bind q) := by
  simp only [K_mode_Path, bnd_cond, bnd_bind, bnd_none, bnd_sum, hl_0]
theorem qa_mode_Path : ∀ b, (QA_mode_Path).em b = ([.r (.agg [.c (.f (.i .i64 b.1.1.1)), .c (.f (.i .i64 b.1.1.2.1)), .c (.f (.b b.1.1.2.2.1)), .c (.f (.b b.1.1.2.2.2.1))]), .r (.c (.sl 0 (.k 0) (.s b.1.2.1.2.2.1) 11 b.1.2.1.2.2.2.2))], [[.a (.s b.2.1.1.1) [.b b.2.1.1.2.1, .b b.2.1.1.2.2.1, .b b.2.1.1.2.2.2.1, .b b.2.1.1.2.2.2.2.1, .b b.2.1.1.2.2.2.2.2.1, .b b.2.1.1.2.2.2.2.2.2.1, .b b.2.1.1.2.2.2.2.2.2.2.1, .b b.2.1.1.2.2.2.2.2.2.2.2.1, .i .i64 b.2.1.1.2.2.2.2.2.2.2.2.2.1, .i .i64 b.2.1.1.2.2.2.2.2.2.2.2.2.2.1, .i .i64 b.2.1.1.2.2.2.2.2.2.2.2.2.2.2.1]]]) := fun b => by kernel_rfl
theorem e_mode_Path {f : (Int) → (Int) → (Bool) → (Bool) → (Nat) → (Nat → Bool) → (Nat → Bool) → (Nat → Bool) → (Nat → Bool) → (Nat → Bool) → (Nat → Bool) → (Nat → Bool) → (Nat → Bool) → (Nat → Int) → (Nat → Int) → (Nat → Int) → (Bool) → Option (Nat × Nat × (Nat → Int) × (Nat → Int) × (Nat → Bool) × (Nat → Bool))} {args : List AV} {h : List Blk} {r : Res} (hr : (F0_mode_Path f args h).eval = some r) : ∃ x0 x1 x2 x3 x4 x5 x6 x7 x8 x9 x10 x11 x12 x13 x14 x15 w0, args = [.r (.agg [.c (.f (.i .i64 x0)), .c (.f (.i .i64 x1)), .c (.f (.b x2)), .c (.f (.b x3))]), .r (.c (.sl 0 (.k 0) (.s x4) 11 w0))] ∧ h = [[.a (.s x4) [.b x5, .b x6, .b x7, .b x8, .b x9, .b x10, .b x11, .b x12, .i .i64 x13, .i .i64 x14, .i .i64 x15]]] ∧ (f x0 x1 x2 x3 x4 x5 x6 x7 x8 x9 x10 x11 x12 x13 x14 x15 w0).bind (fun (d : Nat × Nat × (Nat → Int) × (Nat → Int) × (Nat → Bool) × (Nat → Bool)) => some (Res.mk (AV.r (RV.c (CV.sl 1 (Off.k 0) (Sz.s d.fst) 4 true))) [Ch.keep]
    [[Sg.a (Sz.s d.snd.fst) [Col.i IntKind.i64 d.snd.snd.fst, Col.i IntKind.i64 d.snd.snd.snd.fst, Col.b d.snd.snd.snd.snd.fst, Col.b d.snd.snd.snd.snd.snd]]])) = some r := by
  unfold F0_mode_Path at hr
  split at hr
  · rename_i b hb
    have e := ((QA_mode_Path).ok _ _ hb).trans (qa_mode_Path b)
    obtain ⟨he, hr1⟩ := test_eval hr
    clear hr
    have hr := hr1
    clear hr1
    rw [Nat.eq_of_beq_eq_true he] at e
    clear he
    rw [opt_eval2] at hr
    exact ⟨b.1.1.1, b.1.1.2.1, b.1.1.2.2.1, b.1.1.2.2.2.1, b.1.2.1.2.2.1, b.2.1.1.2.1, b.2.1.1.2.2.1, b.2.1.1.2.2.2.1, b.2.1.1.2.2.2.2.1, b.2.1.1.2.2.2.2.2.1, b.2.1.1.2.2.2.2.2.2.1, b.2.1.1.2.2.2.2.2.2.2.1, b.2.1.1.2.2.2.2.2.2.2.2.1, b.2.1.1.2.2.2.2.2.2.2.2.2.1, b.2.1.1.2.2.2.2.2.2.2.2.2.2.1, b.2.1.1.2.2.2.2.2.2.2.2.2.2.2.1, b.1.2.1.2.2.2.2, (Prod.mk.inj e).1, (Prod.mk.inj e).2, hr⟩
  · cases hr
theorem n_mode_Path {σ : Type} (q : (Nat × Nat × (Nat → Int) × (Nat → Int) × (Nat → Bool) × (Nat → Bool)) → Option σ) (x0 : Int) (x1 : Int) (x2 : Bool) (x3 : Bool) (x4 : Nat) (x5 : Nat → Bool) (x6 : Nat → Bool) (x7 : Nat → Bool) (x8 : Nat → Bool) (x9 : Nat → Bool) (x10 : Nat → Bool) (x11 : Nat → Bool) (x12 : Nat → Bool) (x13 : Nat → Int) (x14 : Nat → Int) (x15 : Nat → Int) (w0 : Bool) : (f_mode_Path x0 x1 x2 x3 x4 x5 x6 x7 x8 x9 x10 x11 x12 x13 x14 x15 w0).bind q = K_mode_Path f_mode_Step (@L_mode_Path_0) x0 x1 x2 x3 x4 x5 x6 x7 x8 x9 x10 x11 x12 x13 x14 x15 w0 q := by
  unfold f_mode_Path
  exact m_mode_Path q f_mode_Step (@L_mode_Path_0) (fun q d k => mL_mode_Path_0 q d k) x0 x1 x2 x3 x4 x5 x6 x7 x8 x9 x10 x11 x12 x13 x14 x15 w0 some
theorem s_mode_Path : Sound Try.prog 12 (F_mode_Path f_mode_Path) :=
  Sound.nil 1 [.b, .b, .b, .b, .b, .b, .b, .b, .i .i64, .i .i64, .i .i64] <| (inl_sums (l := [(10, F_mode_Step f_mode_Step)]) (.cons s_mode_Step (.nil _)) mixed (hs := ⟨[⟨3, [0, 1, 3, 4, 6, 7, 11, 12, 13, 14, 15, 16, 17, 18, 19, 20, 21, 22, 23, 24, 25], [(5, [.i .i64, .i .i64, .b, .b])]⟩], [⟨3, 1, @R_mode_Path_0 (@L_mode_Path_0)⟩], [], [], none⟩) (lf := 200) (Sums.by (l := [loopIn Try.prog 12 3]) (lj := []) (by kernel_rfl) ⟨so_mode_Path_0, trivial⟩ (by kernel_rfl) trivial) (by kernel_rfl)).by (F := F0_mode_Path f_mode_Path) fun args b r hr => by
  obtain ⟨x0, x1, x2, x3, x4, x5, x6, x7, x8, x9, x10, x11, x12, x13, x14, x15, w0, rfl, rfl, hr1⟩ := e_mode_Path hr
  exact inl_eval ((d_mode_Path f_mode_Step (@L_mode_Path_0) x0 x1 x2 x3 x4 x5 x6 x7 x8 x9 x10 x11 x12 x13 x14 x15 w0).trans ((n_mode_Path (fun (d : Nat × Nat × (Nat → Int) × (Nat → Int) × (Nat → Bool) × (Nat → Bool)) => some (Res.mk (AV.r (RV.c (CV.sl 1 (Off.k 0) (Sz.s d.fst) 4 true))) [Ch.keep]
    [[Sg.a (Sz.s d.snd.fst) [Col.i IntKind.i64 d.snd.snd.fst, Col.i IntKind.i64 d.snd.snd.snd.fst, Col.b d.snd.snd.snd.snd.fst, Col.b d.snd.snd.snd.snd.snd]]])) x0 x1 x2 x3 x4 x5 x6 x7 x8 x9 x10 x11 x12 x13 x14 x15 w0).symm.trans hr1))

end Go.Proofs.Ytgbgdihahmecoaa
