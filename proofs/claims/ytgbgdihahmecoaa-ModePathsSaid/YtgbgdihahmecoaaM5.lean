/-
  Contracts by plain functions: astrolabelaw25.ModePaths
-/
import Derived.Test.YtgbgdihahmecoaaM2
set_option maxRecDepth 100000
set_option maxHeartbeats 4000000
set_option linter.unusedVariables false
namespace Go.Proofs.Ytgbgdihahmecoaa
open Go.Ab
def S_astrolabelaw25_ModePaths_0 {ρ : Type} (g_astrolabelaw25_awake : Option Bool) (g_mode_Path : Int →
  Int →
    Bool →
      Bool →
        Nat →
          (Nat → Bool) →
            (Nat → Bool) →
              (Nat → Bool) →
                (Nat → Bool) →
                  (Nat → Bool) →
                    (Nat → Bool) → (Nat → Bool) → (Nat → Bool) → (Nat → Int) → (Nat → Int) → (Nat → Int) → Bool → Option (Nat × Nat × (Nat → Int) × (Nat → Int) × (Nat → Bool) × (Nat → Bool))) (g_mode_Step : Int → Int → Bool → Bool → Bool → Bool → Bool → Bool → Bool → Bool → Bool → Bool → Int → Int → Int → Option (Int × Int × Bool × Bool × Int × Int)) (g_mode_Good : Int → Int → Bool → Bool → Option Bool)  (x0 : Nat) (x1 : Bool) (x2 : Nat) (x3 : Int) (x4 : Int) (x5 : Bool) (x6 : Nat) (x7 : Nat) (x8 : Nat → Bool) (x9 : Nat → Bool) (x10 : Nat → Bool) (x11 : Nat → Bool) (x12 : Nat → Bool) (x13 : Nat → Bool) (x14 : Nat → Bool) (x15 : Nat → Bool) (x16 : Nat → Int) (x17 : Nat → Int) (x18 : Nat → Int) (x19 : Int) (x20 : Int) (x21 : Bool) (x22 : Bool) (x23 : Nat) (x24 : Nat → Int) (x25 : Nat → Int) (x26 : Nat → Bool) (x27 : Nat → Bool) (c : (Nat ×
  Bool ×
    Nat ×
      Int ×
        Int ×
          Bool ×
            Nat ×
              Nat ×
                (Nat → Bool) ×
                  (Nat → Bool) ×
                    (Nat → Bool) ×
                      (Nat → Bool) ×
                        (Nat → Bool) ×
                          (Nat → Bool) × (Nat → Bool) × (Nat → Bool) × (Nat → Int) × (Nat → Int) × (Nat → Int) × Int × Int × Bool × Bool × Nat × (Nat → Int) × (Nat → Int) × (Nat → Bool) × (Nat → Bool)) → Option ρ) (x : (Nat × (Nat → Bool) × (Nat → Bool) × (Nat → Bool) × (Nat → Bool) × (Nat → Bool) × (Nat → Bool) × (Nat → Bool) × (Nat → Bool) × (Nat → Int) × (Nat → Int) × (Nat → Int) ⊕
  Nat ×
    Bool ×
      Nat ×
        Int ×
          Int ×
            Bool ×
              Nat ×
                Int ×
                  Bool ×
                    Nat ×
                      (Nat → Bool) ×
                        (Nat → Bool) ×
                          (Nat → Bool) ×
                            (Nat → Bool) ×
                              (Nat → Bool) ×
                                (Nat → Bool) ×
                                  (Nat → Bool) × (Nat → Bool) × (Nat → Int) × (Nat → Int) × (Nat → Int) × Int × Int × Bool × Bool × Nat × (Nat → Int) × (Nat → Int) × (Nat → Bool) × (Nat → Bool)) → Option ρ) : Option ρ :=
  bif decide (x4 < Int.ofNat x0) then
    bif inR x4 x0 then
      Option.bind
        (g_mode_Step x19 x20 x21 x22 (x8 (Int.toNat x4)) (x9 (Int.toNat x4)) (x10 (Int.toNat x4)) (x11 (Int.toNat x4)) (x12 (Int.toNat x4)) (x13 (Int.toNat x4)) (x14 (Int.toNat x4)) (x15 (Int.toNat x4))
          (x16 (Int.toNat x4)) (x17 (Int.toNat x4)) (x18 (Int.toNat x4)))
        fun (d : Int × Int × Bool × Bool × Int × Int) =>
        bif inR x4 x2 then
          bif !(d.1 == x24 (Int.toNat x4) && (d.2.1 == x25 (Int.toNat x4) && (d.2.2.1 == x26 (Int.toNat x4) && (d.2.2.2.1 == x27 (Int.toNat x4) && true)))) then
            x (Sum.inl (x7, x8, x9, x10, x11, x12, x13, x14, x15, x16, x17, x18))
          else
            Option.bind (g_mode_Good d.1 d.2.1 d.2.2.1 d.2.2.2.1) fun (d_1 : Bool) =>
              bif !d_1 then x (Sum.inl (x7, x8, x9, x10, x11, x12, x13, x14, x15, x16, x17, x18))
              else
                bif !(d.2.1 == 0) == decide (d.1 < 2) then x (Sum.inl (x7, x8, x9, x10, x11, x12, x13, x14, x15, x16, x17, x18))
                else
                  bif decide (d.1 < x3) then
                    bif decide (x3 < 2) then x (Sum.inl (x7, x8, x9, x10, x11, x12, x13, x14, x15, x16, x17, x18))
                    else
                      bif decide (d.1 < 2) then
                        bif decide (x3 ≥ 2) then x (Sum.inl (x7, x8, x9, x10, x11, x12, x13, x14, x15, x16, x17, x18))
                        else
                          c
                            (x0, x1, x2, d.1, IntKind.wrap IntKind.i64 (x4 + 1), x5, x6, x7, x8, x9, x10, x11, x12, x13, x14, x15, x16, x17, x18, d.1, d.2.1, d.2.2.1, d.2.2.2.1,
                              x23, x24, x25, x26, x27)
                      else
                        c
                          (x0, x1, x2, d.1, IntKind.wrap IntKind.i64 (x4 + 1), x5, x6, x7, x8, x9, x10, x11, x12, x13, x14, x15, x16, x17, x18, d.1, d.2.1, d.2.2.1, d.2.2.2.1, x23,
                            x24, x25, x26, x27)
                  else
                    bif decide (d.1 < 2) then
                      bif decide (x3 ≥ 2) then x (Sum.inl (x7, x8, x9, x10, x11, x12, x13, x14, x15, x16, x17, x18))
                      else
                        c
                          (x0, x1, x2, d.1, IntKind.wrap IntKind.i64 (x4 + 1), x5, x6, x7, x8, x9, x10, x11, x12, x13, x14, x15, x16, x17, x18, d.1, d.2.1, d.2.2.1, d.2.2.2.1, x23,
                            x24, x25, x26, x27)
                    else
                      c
                        (x0, x1, x2, d.1, IntKind.wrap IntKind.i64 (x4 + 1), x5, x6, x7, x8, x9, x10, x11, x12, x13, x14, x15, x16, x17, x18, d.1, d.2.1, d.2.2.1, d.2.2.2.1, x23,
                          x24, x25, x26, x27)
        else none
    else none
  else x (Sum.inr (x0, x1, x2, x3, x4, x5, x6, Int.ofNat x0, decide (x4 < Int.ofNat x0), x7, x8, x9, x10, x11, x12, x13, x14, x15, x16, x17, x18, x19, x20, x21, x22, x23, x24, x25, x26, x27))
section
open Go.Ab.Rdr
def Q_astrolabelaw25_ModePaths_0 := (st (cons aund (cons (ar (rc (csl (nat 0) (ok' (nat 0)) (szs hole) (nat 11) hole))) (cons (ar (rc (cptr (nat 1) (ok' (nat 0)) (nat 4)))) (cons aund (cons aund (cons (ar (rc (csl (nat 2) (ok' (nat 0)) (szs hole) (nat 4) (bool true)))) (cons (ar (rc (cf (fi .i64 hole)))) (cons (ar (rc (cf (fi .i64 hole)))) (cons aund (cons aund (cons aund (cons (ar (rc (cf (fb hole)))) (cons aund (cons aund (cons aund (cons aund (cons aund (cons aund (cons aund (cons aund (cons (ar (rc (csl (nat 2) (ok' (nat 0)) (szs hole) (nat 4) (bool true)))) (cons aund (cons aund (cons aund (cons aund (cons aund (cons aund (cons aund (cons aund (cons aund (cons aund (cons aund (cons aund (cons aund (cons aund (cons aund (cons aund (cons aund (cons aund (cons aund (cons aund (cons aund (cons aund (cons aund (cons aund (cons aund (cons aund (cons aund (cons aund (cons aund (cons aund (cons aund (cons aund (cons aund (cons aund (cons aund (cons aund (cons aund (cons aund (cons aund (cons aund (cons aund (cons aund (cons aund (cons aund (cons aund (cons aund (cons aund (cons aund (cons aund (cons aund (cons aund (cons aund (cons aund (cons aund (cons aund (cons aund (cons aund (cons aund (cons aund (cons aund (cons aund nil)))))))))))))))))))))))))))))))))))))))))))))))))))))))))))))))))))))))))))))))))) (cons (some' (cons (ga (szs hole) (cons (kb hole) (cons (kb hole) (cons (kb hole) (cons (kb hole) (cons (kb hole) (cons (kb hole) (cons (kb hole) (cons (kb hole) (cons (ki .i64 hole) (cons (ki .i64 hole) (cons (ki .i64 hole) nil)))))))))))) nil)) (cons (some' (cons (gc (cf (fi .i64 hole))) (cons (gc (cf (fi .i64 hole))) (cons (gc (cf (fb hole))) (cons (gc (cf (fb hole))) nil))))) (cons (some' (cons (ga (szs hole) (cons (ki .i64 hole) (cons (ki .i64 hole) (cons (kb hole) (cons (kb hole) nil))))) nil)) nil))) nil)
end
theorem q_astrolabelaw25_ModePaths_0 : ∀ b, (Q_astrolabelaw25_ModePaths_0).em b = St.mk
    [AV.und, AV.r (RV.c (CV.sl 0 (Off.k 0) (Sz.s b.1.2.1.2.2.1) 11 b.1.2.1.2.2.2.2)), AV.r (RV.c (CV.ptr 1 (Off.k 0) 4)), AV.und, AV.und, AV.r (RV.c (CV.sl 2 (Off.k 0) (Sz.s b.1.2.2.2.2.2.1.2.2.1) 4 true)),
      AV.r (RV.c (CV.f (FV.i IntKind.i64 b.1.2.2.2.2.2.2.1))), AV.r (RV.c (CV.f (FV.i IntKind.i64 b.1.2.2.2.2.2.2.2.1))), AV.und, AV.und, AV.und, AV.r (RV.c (CV.f (FV.b b.1.2.2.2.2.2.2.2.2.2.2.2.1))), AV.und, AV.und, AV.und, AV.und, AV.und, AV.und, AV.und,
      AV.und, AV.r (RV.c (CV.sl 2 (Off.k 0) (Sz.s b.1.2.2.2.2.2.2.2.2.2.2.2.2.2.2.2.2.2.2.2.2.1.2.2.1) 4 true)), AV.und, AV.und, AV.und, AV.und, AV.und, AV.und, AV.und, AV.und, AV.und, AV.und, AV.und, AV.und, AV.und, AV.und, AV.und, AV.und, AV.und,
      AV.und, AV.und, AV.und, AV.und, AV.und, AV.und, AV.und, AV.und, AV.und, AV.und, AV.und, AV.und, AV.und, AV.und, AV.und, AV.und, AV.und, AV.und, AV.und, AV.und, AV.und, AV.und, AV.und, AV.und,
      AV.und, AV.und, AV.und, AV.und, AV.und, AV.und, AV.und, AV.und, AV.und, AV.und, AV.und, AV.und, AV.und, AV.und, AV.und, AV.und, AV.und, AV.und, AV.und, AV.und]
    [some [Sg.a (Sz.s b.2.1.1.1.1) [Col.b b.2.1.1.1.2.1, Col.b b.2.1.1.1.2.2.1, Col.b b.2.1.1.1.2.2.2.1, Col.b b.2.1.1.1.2.2.2.2.1, Col.b b.2.1.1.1.2.2.2.2.2.1, Col.b b.2.1.1.1.2.2.2.2.2.2.1, Col.b b.2.1.1.1.2.2.2.2.2.2.2.1, Col.b b.2.1.1.1.2.2.2.2.2.2.2.2.1, Col.i IntKind.i64 b.2.1.1.1.2.2.2.2.2.2.2.2.2.1, Col.i IntKind.i64 b.2.1.1.1.2.2.2.2.2.2.2.2.2.2.1, Col.i IntKind.i64 b.2.1.1.1.2.2.2.2.2.2.2.2.2.2.2.1]],
      some [Sg.c (CV.f (FV.i IntKind.i64 b.2.1.2.1.1)), Sg.c (CV.f (FV.i IntKind.i64 b.2.1.2.1.2.1)), Sg.c (CV.f (FV.b b.2.1.2.1.2.2.1)), Sg.c (CV.f (FV.b b.2.1.2.1.2.2.2.1))],
      some [Sg.a (Sz.s b.2.1.2.2.1.1.1) [Col.i IntKind.i64 b.2.1.2.2.1.1.2.1, Col.i IntKind.i64 b.2.1.2.2.1.1.2.2.1, Col.b b.2.1.2.2.1.1.2.2.2.1, Col.b b.2.1.2.2.1.1.2.2.2.2.1]]]
    [] := fun b => by kernel_rfl
def R_astrolabelaw25_ModePaths_0 (l : ∀ {ρ : Type}, (Nat ×
  Bool ×
    Nat ×
      Int ×
        Int ×
          Bool ×
            Nat ×
              Nat ×
                (Nat → Bool) ×
                  (Nat → Bool) ×
                    (Nat → Bool) ×
                      (Nat → Bool) ×
                        (Nat → Bool) ×
                          (Nat → Bool) × (Nat → Bool) × (Nat → Bool) × (Nat → Int) × (Nat → Int) × (Nat → Int) × Int × Int × Bool × Bool × Nat × (Nat → Int) × (Nat → Int) × (Nat → Bool) × (Nat → Bool)) → ((Nat × (Nat → Bool) × (Nat → Bool) × (Nat → Bool) × (Nat → Bool) × (Nat → Bool) × (Nat → Bool) × (Nat → Bool) × (Nat → Bool) × (Nat → Int) × (Nat → Int) × (Nat → Int) ⊕
  Nat ×
    Bool ×
      Nat ×
        Int ×
          Int ×
            Bool ×
              Nat ×
                Int ×
                  Bool ×
                    Nat ×
                      (Nat → Bool) ×
                        (Nat → Bool) ×
                          (Nat → Bool) ×
                            (Nat → Bool) ×
                              (Nat → Bool) ×
                                (Nat → Bool) ×
                                  (Nat → Bool) × (Nat → Bool) × (Nat → Int) × (Nat → Int) × (Nat → Int) × Int × Int × Bool × Bool × Nat × (Nat → Int) × (Nat → Int) × (Nat → Bool) × (Nat → Bool)) → Option ρ) → Option ρ) {ρ : Type} (s : St) (K : AX → St → Option ρ) : Option ρ := ((Q_astrolabelaw25_ModePaths_0).rd s).bind fun b => l (b.1.2.1.2.2.1, b.1.2.1.2.2.2.2, b.1.2.2.2.2.2.1.2.2.1, b.1.2.2.2.2.2.2.1, b.1.2.2.2.2.2.2.2.1, b.1.2.2.2.2.2.2.2.2.2.2.2.1, b.1.2.2.2.2.2.2.2.2.2.2.2.2.2.2.2.2.2.2.2.2.1.2.2.1, b.2.1.1.1.1, b.2.1.1.1.2.1, b.2.1.1.1.2.2.1, b.2.1.1.1.2.2.2.1, b.2.1.1.1.2.2.2.2.1, b.2.1.1.1.2.2.2.2.2.1, b.2.1.1.1.2.2.2.2.2.2.1, b.2.1.1.1.2.2.2.2.2.2.2.1, b.2.1.1.1.2.2.2.2.2.2.2.2.1, b.2.1.1.1.2.2.2.2.2.2.2.2.2.1, b.2.1.1.1.2.2.2.2.2.2.2.2.2.2.1, b.2.1.1.1.2.2.2.2.2.2.2.2.2.2.2.1, b.2.1.2.1.1, b.2.1.2.1.2.1, b.2.1.2.1.2.2.1, b.2.1.2.1.2.2.2.1, b.2.1.2.2.1.1.1, b.2.1.2.2.1.1.2.1, b.2.1.2.2.1.1.2.2.1, b.2.1.2.2.1.1.2.2.2.1, b.2.1.2.2.1.1.2.2.2.2.1) (Sum.elim (fun d => K (AX.ret) (St.mk
  [AV.und, AV.und, AV.und, AV.und, AV.r (RV.c (CV.f (FV.b false))), AV.und, AV.und, AV.und, AV.und, AV.und, AV.und, AV.und, AV.und, AV.und, AV.und, AV.und, AV.und, AV.und, AV.und, AV.und, AV.und,
    AV.und, AV.und, AV.und, AV.und, AV.und, AV.und, AV.und, AV.und, AV.und, AV.und, AV.und, AV.und, AV.und, AV.und, AV.und, AV.und, AV.und, AV.und, AV.und, AV.und, AV.und, AV.und, AV.und, AV.und,
    AV.und, AV.und, AV.und, AV.und, AV.und, AV.und, AV.und, AV.und, AV.und, AV.und, AV.und, AV.und, AV.und, AV.und, AV.und, AV.und, AV.und, AV.und, AV.und, AV.und, AV.und, AV.und, AV.und, AV.und,
    AV.und, AV.und, AV.und, AV.und, AV.und, AV.und, AV.und, AV.und, AV.und, AV.und, AV.und, AV.und, AV.und]
  [some
      [Sg.a (Sz.s d.1)
          [Col.b d.2.1, Col.b d.2.2.1, Col.b d.2.2.2.1, Col.b d.2.2.2.2.1, Col.b d.2.2.2.2.2.1, Col.b d.2.2.2.2.2.2.1,
            Col.b d.2.2.2.2.2.2.2.1, Col.b d.2.2.2.2.2.2.2.2.1, Col.i IntKind.i64 d.2.2.2.2.2.2.2.2.2.1,
            Col.i IntKind.i64 d.2.2.2.2.2.2.2.2.2.2.1, Col.i IntKind.i64 d.2.2.2.2.2.2.2.2.2.2.2]]]
  [])) (fun d => K (AX.ex 0) (St.mk
  [AV.und, AV.r (RV.c (CV.sl 0 (Off.k 0) (Sz.s d.1) 11 d.2.1)), AV.r (RV.c (CV.ptr 1 (Off.k 0) 4)), AV.und, AV.und, AV.r (RV.c (CV.sl 2 (Off.k 0) (Sz.s d.2.2.1) 4 true)),
    AV.r (RV.c (CV.f (FV.i IntKind.i64 d.2.2.2.1))), AV.r (RV.c (CV.f (FV.i IntKind.i64 d.2.2.2.2.1))), AV.und, AV.und, AV.und, AV.r (RV.c (CV.f (FV.b d.2.2.2.2.2.1))),
    AV.und, AV.und, AV.und, AV.und, AV.und, AV.und, AV.und, AV.und, AV.r (RV.c (CV.sl 2 (Off.k 0) (Sz.s d.2.2.2.2.2.2.1) 4 true)), AV.und, AV.und, AV.und, AV.und,
    AV.r (RV.c (CV.f (FV.i IntKind.i64 d.2.2.2.2.1))), AV.r (RV.c (CV.sl 0 (Off.k 0) (Sz.s d.1) 11 d.2.1)), AV.r (RV.c (CV.f (FV.i IntKind.i64 d.2.2.2.2.2.2.2.1))),
    AV.r (RV.c (CV.f (FV.b d.2.2.2.2.2.2.2.2.1))), AV.und, AV.und, AV.und, AV.und, AV.und, AV.und, AV.und, AV.und, AV.und, AV.und, AV.und, AV.und, AV.und, AV.und, AV.und, AV.und,
    AV.und, AV.und, AV.und, AV.und, AV.und, AV.und, AV.und, AV.und, AV.und, AV.und, AV.und, AV.und, AV.und, AV.und, AV.und, AV.und, AV.und, AV.und, AV.und, AV.und, AV.und, AV.und, AV.und, AV.und,
    AV.und, AV.und, AV.und, AV.und, AV.und, AV.und, AV.und, AV.und, AV.und, AV.und, AV.und, AV.und, AV.und]
  [some
      [Sg.a (Sz.s d.2.2.2.2.2.2.2.2.2.1)
          [Col.b d.2.2.2.2.2.2.2.2.2.2.1, Col.b d.2.2.2.2.2.2.2.2.2.2.2.1, Col.b d.2.2.2.2.2.2.2.2.2.2.2.2.1,
            Col.b d.2.2.2.2.2.2.2.2.2.2.2.2.2.1, Col.b d.2.2.2.2.2.2.2.2.2.2.2.2.2.2.1,
            Col.b d.2.2.2.2.2.2.2.2.2.2.2.2.2.2.2.1, Col.b d.2.2.2.2.2.2.2.2.2.2.2.2.2.2.2.2.1,
            Col.b d.2.2.2.2.2.2.2.2.2.2.2.2.2.2.2.2.2.1, Col.i IntKind.i64 d.2.2.2.2.2.2.2.2.2.2.2.2.2.2.2.2.2.2.1,
            Col.i IntKind.i64 d.2.2.2.2.2.2.2.2.2.2.2.2.2.2.2.2.2.2.2.1,
            Col.i IntKind.i64 d.2.2.2.2.2.2.2.2.2.2.2.2.2.2.2.2.2.2.2.2.1]],
    some
      [Sg.c (CV.f (FV.i IntKind.i64 d.2.2.2.2.2.2.2.2.2.2.2.2.2.2.2.2.2.2.2.2.2.1)),
        Sg.c (CV.f (FV.i IntKind.i64 d.2.2.2.2.2.2.2.2.2.2.2.2.2.2.2.2.2.2.2.2.2.2.1)),
        Sg.c (CV.f (FV.b d.2.2.2.2.2.2.2.2.2.2.2.2.2.2.2.2.2.2.2.2.2.2.2.1)),
        Sg.c (CV.f (FV.b d.2.2.2.2.2.2.2.2.2.2.2.2.2.2.2.2.2.2.2.2.2.2.2.2.1))],
    some
      [Sg.a (Sz.s d.2.2.2.2.2.2.2.2.2.2.2.2.2.2.2.2.2.2.2.2.2.2.2.2.2.1)
          [Col.i IntKind.i64 d.2.2.2.2.2.2.2.2.2.2.2.2.2.2.2.2.2.2.2.2.2.2.2.2.2.2.1,
            Col.i IntKind.i64 d.2.2.2.2.2.2.2.2.2.2.2.2.2.2.2.2.2.2.2.2.2.2.2.2.2.2.2.1,
            Col.b d.2.2.2.2.2.2.2.2.2.2.2.2.2.2.2.2.2.2.2.2.2.2.2.2.2.2.2.2.1,
            Col.b d.2.2.2.2.2.2.2.2.2.2.2.2.2.2.2.2.2.2.2.2.2.2.2.2.2.2.2.2.2]]]
  [])))
theorem ms_astrolabelaw25_ModePaths_0 {ρ σ : Type} (g_astrolabelaw25_awake : Option Bool) (g_mode_Path : Int →
  Int →
    Bool →
      Bool →
        Nat →
          (Nat → Bool) →
            (Nat → Bool) →
              (Nat → Bool) →
                (Nat → Bool) →
                  (Nat → Bool) →
                    (Nat → Bool) → (Nat → Bool) → (Nat → Bool) → (Nat → Int) → (Nat → Int) → (Nat → Int) → Bool → Option (Nat × Nat × (Nat → Int) × (Nat → Int) × (Nat → Bool) × (Nat → Bool))) (g_mode_Step : Int → Int → Bool → Bool → Bool → Bool → Bool → Bool → Bool → Bool → Bool → Bool → Int → Int → Int → Option (Int × Int × Bool × Bool × Int × Int)) (g_mode_Good : Int → Int → Bool → Bool → Option Bool)   (q : ρ → Option σ) (x0 : Nat) (x1 : Bool) (x2 : Nat) (x3 : Int) (x4 : Int) (x5 : Bool) (x6 : Nat) (x7 : Nat) (x8 : Nat → Bool) (x9 : Nat → Bool) (x10 : Nat → Bool) (x11 : Nat → Bool) (x12 : Nat → Bool) (x13 : Nat → Bool) (x14 : Nat → Bool) (x15 : Nat → Bool) (x16 : Nat → Int) (x17 : Nat → Int) (x18 : Nat → Int) (x19 : Int) (x20 : Int) (x21 : Bool) (x22 : Bool) (x23 : Nat) (x24 : Nat → Int) (x25 : Nat → Int) (x26 : Nat → Bool) (x27 : Nat → Bool) (c : (Nat ×
  Bool ×
    Nat ×
      Int ×
        Int ×
          Bool ×
            Nat ×
              Nat ×
                (Nat → Bool) ×
                  (Nat → Bool) ×
                    (Nat → Bool) ×
                      (Nat → Bool) ×
                        (Nat → Bool) ×
                          (Nat → Bool) × (Nat → Bool) × (Nat → Bool) × (Nat → Int) × (Nat → Int) × (Nat → Int) × Int × Int × Bool × Bool × Nat × (Nat → Int) × (Nat → Int) × (Nat → Bool) × (Nat → Bool)) → Option ρ) (x : (Nat × (Nat → Bool) × (Nat → Bool) × (Nat → Bool) × (Nat → Bool) × (Nat → Bool) × (Nat → Bool) × (Nat → Bool) × (Nat → Bool) × (Nat → Int) × (Nat → Int) × (Nat → Int) ⊕
  Nat ×
    Bool ×
      Nat ×
        Int ×
          Int ×
            Bool ×
              Nat ×
                Int ×
                  Bool ×
                    Nat ×
                      (Nat → Bool) ×
                        (Nat → Bool) ×
                          (Nat → Bool) ×
                            (Nat → Bool) ×
                              (Nat → Bool) ×
                                (Nat → Bool) ×
                                  (Nat → Bool) × (Nat → Bool) × (Nat → Int) × (Nat → Int) × (Nat → Int) × Int × Int × Bool × Bool × Nat × (Nat → Int) × (Nat → Int) × (Nat → Bool) × (Nat → Bool)) → Option ρ) : (S_astrolabelaw25_ModePaths_0 g_astrolabelaw25_awake g_mode_Path g_mode_Step g_mode_Good  x0 x1 x2 x3 x4 x5 x6 x7 x8 x9 x10 x11 x12 x13 x14 x15 x16 x17 x18 x19 x20 x21 x22 x23 x24 x25 x26 x27 c x).bind q = S_astrolabelaw25_ModePaths_0 g_astrolabelaw25_awake g_mode_Path g_mode_Step g_mode_Good  x0 x1 x2 x3 x4 x5 x6 x7 x8 x9 x10 x11 x12 x13 x14 x15 x16 x17 x18 x19 x20 x21 x22 x23 x24 x25 x26 x27 (fun d => (c d).bind q) (fun d => (x d).bind q) := by
  simp only [S_astrolabelaw25_ModePaths_0, bnd_cond, bnd_bind, bnd_none, bnd_sum]
def L_astrolabelaw25_ModePaths_0 {ρ : Type} (d : Nat ×
  Bool ×
    Nat ×
      Int ×
        Int ×
          Bool ×
            Nat ×
              Nat ×
                (Nat → Bool) ×
                  (Nat → Bool) ×
                    (Nat → Bool) ×
                      (Nat → Bool) ×
                        (Nat → Bool) ×
                          (Nat → Bool) × (Nat → Bool) × (Nat → Bool) × (Nat → Int) × (Nat → Int) × (Nat → Int) × Int × Int × Bool × Bool × Nat × (Nat → Int) × (Nat → Int) × (Nat → Bool) × (Nat → Bool)) (k : (Nat × (Nat → Bool) × (Nat → Bool) × (Nat → Bool) × (Nat → Bool) × (Nat → Bool) × (Nat → Bool) × (Nat → Bool) × (Nat → Bool) × (Nat → Int) × (Nat → Int) × (Nat → Int) ⊕
  Nat ×
    Bool ×
      Nat ×
        Int ×
          Int ×
            Bool ×
              Nat ×
                Int ×
                  Bool ×
                    Nat ×
                      (Nat → Bool) ×
                        (Nat → Bool) ×
                          (Nat → Bool) ×
                            (Nat → Bool) ×
                              (Nat → Bool) ×
                                (Nat → Bool) ×
                                  (Nat → Bool) × (Nat → Bool) × (Nat → Int) × (Nat → Int) × (Nat → Int) × Int × Int × Bool × Bool × Nat × (Nat → Int) × (Nat → Int) × (Nat → Bool) × (Nat → Bool)) → Option ρ) : Option ρ := loopK (fun d c x => S_astrolabelaw25_ModePaths_0 f_astrolabelaw25_awake f_mode_Path f_mode_Step f_mode_Good  d.1 d.2.1 d.2.2.1 d.2.2.2.1 d.2.2.2.2.1 d.2.2.2.2.2.1 d.2.2.2.2.2.2.1 d.2.2.2.2.2.2.2.1 d.2.2.2.2.2.2.2.2.1 d.2.2.2.2.2.2.2.2.2.1 d.2.2.2.2.2.2.2.2.2.2.1 d.2.2.2.2.2.2.2.2.2.2.2.1 d.2.2.2.2.2.2.2.2.2.2.2.2.1 d.2.2.2.2.2.2.2.2.2.2.2.2.2.1 d.2.2.2.2.2.2.2.2.2.2.2.2.2.2.1 d.2.2.2.2.2.2.2.2.2.2.2.2.2.2.2.1 d.2.2.2.2.2.2.2.2.2.2.2.2.2.2.2.2.1 d.2.2.2.2.2.2.2.2.2.2.2.2.2.2.2.2.2.1 d.2.2.2.2.2.2.2.2.2.2.2.2.2.2.2.2.2.2.1 d.2.2.2.2.2.2.2.2.2.2.2.2.2.2.2.2.2.2.2.1 d.2.2.2.2.2.2.2.2.2.2.2.2.2.2.2.2.2.2.2.2.1 d.2.2.2.2.2.2.2.2.2.2.2.2.2.2.2.2.2.2.2.2.2.1 d.2.2.2.2.2.2.2.2.2.2.2.2.2.2.2.2.2.2.2.2.2.2.1 d.2.2.2.2.2.2.2.2.2.2.2.2.2.2.2.2.2.2.2.2.2.2.2.1 d.2.2.2.2.2.2.2.2.2.2.2.2.2.2.2.2.2.2.2.2.2.2.2.2.1 d.2.2.2.2.2.2.2.2.2.2.2.2.2.2.2.2.2.2.2.2.2.2.2.2.2.1 d.2.2.2.2.2.2.2.2.2.2.2.2.2.2.2.2.2.2.2.2.2.2.2.2.2.2.1 d.2.2.2.2.2.2.2.2.2.2.2.2.2.2.2.2.2.2.2.2.2.2.2.2.2.2.2 c x) 200 d k
theorem mL_astrolabelaw25_ModePaths_0 {ρ σ : Type} (q : ρ → Option σ) (d : Nat ×
  Bool ×
    Nat ×
      Int ×
        Int ×
          Bool ×
            Nat ×
              Nat ×
                (Nat → Bool) ×
                  (Nat → Bool) ×
                    (Nat → Bool) ×
                      (Nat → Bool) ×
                        (Nat → Bool) ×
                          (Nat → Bool) × (Nat → Bool) × (Nat → Bool) × (Nat → Int) × (Nat → Int) × (Nat → Int) × Int × Int × Bool × Bool × Nat × (Nat → Int) × (Nat → Int) × (Nat → Bool) × (Nat → Bool)) (k : (Nat × (Nat → Bool) × (Nat → Bool) × (Nat → Bool) × (Nat → Bool) × (Nat → Bool) × (Nat → Bool) × (Nat → Bool) × (Nat → Bool) × (Nat → Int) × (Nat → Int) × (Nat → Int) ⊕
  Nat ×
    Bool ×
      Nat ×
        Int ×
          Int ×
            Bool ×
              Nat ×
                Int ×
                  Bool ×
                    Nat ×
                      (Nat → Bool) ×
                        (Nat → Bool) ×
                          (Nat → Bool) ×
                            (Nat → Bool) ×
                              (Nat → Bool) ×
                                (Nat → Bool) ×
                                  (Nat → Bool) × (Nat → Bool) × (Nat → Int) × (Nat → Int) × (Nat → Int) × Int × Int × Bool × Bool × Nat × (Nat → Int) × (Nat → Int) × (Nat → Bool) × (Nat → Bool)) → Option ρ) : (L_astrolabelaw25_ModePaths_0 d k).bind q = L_astrolabelaw25_ModePaths_0 d fun x => (k x).bind q :=
  loopK_bind q (fun d c x => ms_astrolabelaw25_ModePaths_0 f_astrolabelaw25_awake f_mode_Path f_mode_Step f_mode_Good   q d.1 d.2.1 d.2.2.1 d.2.2.2.1 d.2.2.2.2.1 d.2.2.2.2.2.1 d.2.2.2.2.2.2.1 d.2.2.2.2.2.2.2.1 d.2.2.2.2.2.2.2.2.1 d.2.2.2.2.2.2.2.2.2.1 d.2.2.2.2.2.2.2.2.2.2.1 d.2.2.2.2.2.2.2.2.2.2.2.1 d.2.2.2.2.2.2.2.2.2.2.2.2.1 d.2.2.2.2.2.2.2.2.2.2.2.2.2.1 d.2.2.2.2.2.2.2.2.2.2.2.2.2.2.1 d.2.2.2.2.2.2.2.2.2.2.2.2.2.2.2.1 d.2.2.2.2.2.2.2.2.2.2.2.2.2.2.2.2.1 d.2.2.2.2.2.2.2.2.2.2.2.2.2.2.2.2.2.1 d.2.2.2.2.2.2.2.2.2.2.2.2.2.2.2.2.2.2.1 d.2.2.2.2.2.2.2.2.2.2.2.2.2.2.2.2.2.2.2.1 d.2.2.2.2.2.2.2.2.2.2.2.2.2.2.2.2.2.2.2.2.1 d.2.2.2.2.2.2.2.2.2.2.2.2.2.2.2.2.2.2.2.2.2.1 d.2.2.2.2.2.2.2.2.2.2.2.2.2.2.2.2.2.2.2.2.2.2.1 d.2.2.2.2.2.2.2.2.2.2.2.2.2.2.2.2.2.2.2.2.2.2.2.1 d.2.2.2.2.2.2.2.2.2.2.2.2.2.2.2.2.2.2.2.2.2.2.2.2.1 d.2.2.2.2.2.2.2.2.2.2.2.2.2.2.2.2.2.2.2.2.2.2.2.2.2.1 d.2.2.2.2.2.2.2.2.2.2.2.2.2.2.2.2.2.2.2.2.2.2.2.2.2.2.1 d.2.2.2.2.2.2.2.2.2.2.2.2.2.2.2.2.2.2.2.2.2.2.2.2.2.2.2 c x) k _ d
theorem ds_astrolabelaw25_ModePaths_0 {ρ : Type} (g_astrolabelaw25_awake : Option Bool) (g_mode_Path : Int →
  Int →
    Bool →
      Bool →
        Nat →
          (Nat → Bool) →
            (Nat → Bool) →
              (Nat → Bool) →
                (Nat → Bool) →
                  (Nat → Bool) →
                    (Nat → Bool) → (Nat → Bool) → (Nat → Bool) → (Nat → Int) → (Nat → Int) → (Nat → Int) → Bool → Option (Nat × Nat × (Nat → Int) × (Nat → Int) × (Nat → Bool) × (Nat → Bool))) (g_mode_Step : Int → Int → Bool → Bool → Bool → Bool → Bool → Bool → Bool → Bool → Bool → Bool → Int → Int → Int → Option (Int × Int × Bool × Bool × Int × Int)) (g_mode_Good : Int → Int → Bool → Bool → Option Bool) (l_0 : ∀ {ρ : Type}, (Nat ×
  Bool ×
    Nat ×
      Int ×
        Int ×
          Bool ×
            Nat ×
              Nat ×
                (Nat → Bool) ×
                  (Nat → Bool) ×
                    (Nat → Bool) ×
                      (Nat → Bool) ×
                        (Nat → Bool) ×
                          (Nat → Bool) × (Nat → Bool) × (Nat → Bool) × (Nat → Int) × (Nat → Int) × (Nat → Int) × Int × Int × Bool × Bool × Nat × (Nat → Int) × (Nat → Int) × (Nat → Bool) × (Nat → Bool)) → ((Nat × (Nat → Bool) × (Nat → Bool) × (Nat → Bool) × (Nat → Bool) × (Nat → Bool) × (Nat → Bool) × (Nat → Bool) × (Nat → Bool) × (Nat → Int) × (Nat → Int) × (Nat → Int) ⊕
  Nat ×
    Bool ×
      Nat ×
        Int ×
          Int ×
            Bool ×
              Nat ×
                Int ×
                  Bool ×
                    Nat ×
                      (Nat → Bool) ×
                        (Nat → Bool) ×
                          (Nat → Bool) ×
                            (Nat → Bool) ×
                              (Nat → Bool) ×
                                (Nat → Bool) ×
                                  (Nat → Bool) × (Nat → Bool) × (Nat → Int) × (Nat → Int) × (Nat → Int) × Int × Int × Bool × Bool × Nat × (Nat → Int) × (Nat → Int) × (Nat → Bool) × (Nat → Bool)) → Option ρ) → Option ρ) (x0 : Nat) (x1 : Bool) (x2 : Nat) (x3 : Int) (x4 : Int) (x5 : Bool) (x6 : Nat) (x7 : Nat) (x8 : Nat → Bool) (x9 : Nat → Bool) (x10 : Nat → Bool) (x11 : Nat → Bool) (x12 : Nat → Bool) (x13 : Nat → Bool) (x14 : Nat → Bool) (x15 : Nat → Bool) (x16 : Nat → Int) (x17 : Nat → Int) (x18 : Nat → Int) (x19 : Int) (x20 : Int) (x21 : Bool) (x22 : Bool) (x23 : Nat) (x24 : Nat → Int) (x25 : Nat → Int) (x26 : Nat → Bool) (x27 : Nat → Bool) (c : St → Option ρ) (K : AX → St → Option ρ) :
    runC Try.prog (envOf [(9, F_astrolabelaw25_awake g_astrolabelaw25_awake), (12, F_mode_Path g_mode_Path), (10, F_mode_Step g_mode_Step), (13, F_mode_Good g_mode_Good)]) ⟨[⟨10, [0, 3, 4, 8, 9, 10, 12, 13, 14, 15, 16, 17, 18, 19, 21, 22, 23, 24, 25, 26, 27, 28, 29, 31, 32, 33, 34, 35, 36, 37, 38, 39, 40, 41, 42, 43, 44, 45, 46, 50, 51, 59, 60, 69, 70, 78, 79, 80, 81, 30, 47, 48, 49, 52, 53, 54, 55, 56, 57, 58, 61, 62, 63, 64, 65, 68, 71, 72, 73, 74, 75, 76, 77, 66, 67], []⟩], [⟨10, 1, @R_astrolabelaw25_ModePaths_0 (@l_0)⟩], [], [], (some ⟨0, [0, 1, 2, 3, 5, 6, 7, 8, 9, 10, 11, 12, 13, 14, 15, 16, 17, 18, 19, 20, 21, 22, 23, 24, 25, 26, 27, 28, 29, 30, 31, 32, 33, 34, 35, 36, 37, 38, 39, 40, 41, 42, 43, 44, 45, 46, 47, 48, 49, 50, 51, 52, 53, 54, 55, 56, 57, 58, 59, 60, 61, 62, 63, 64, 65, 66, 67, 68, 69, 70, 71, 72, 73, 74, 75, 76, 77, 78, 79, 80, 81], []⟩)⟩ (tmpsOf Try.prog 5) 1 200 (loopIn Try.prog 5 10)
      (St.mk
    [AV.und, AV.r (RV.c (CV.sl 0 (Off.k 0) (Sz.s x0) 11 x1)), AV.r (RV.c (CV.ptr 1 (Off.k 0) 4)), AV.und, AV.und, AV.r (RV.c (CV.sl 2 (Off.k 0) (Sz.s x2) 4 true)),
      AV.r (RV.c (CV.f (FV.i IntKind.i64 x3))), AV.r (RV.c (CV.f (FV.i IntKind.i64 x4))), AV.und, AV.und, AV.und, AV.r (RV.c (CV.f (FV.b x5))), AV.und, AV.und, AV.und, AV.und, AV.und, AV.und, AV.und,
      AV.und, AV.r (RV.c (CV.sl 2 (Off.k 0) (Sz.s x6) 4 true)), AV.und, AV.und, AV.und, AV.und, AV.und, AV.und, AV.und, AV.und, AV.und, AV.und, AV.und, AV.und, AV.und, AV.und, AV.und, AV.und, AV.und,
      AV.und, AV.und, AV.und, AV.und, AV.und, AV.und, AV.und, AV.und, AV.und, AV.und, AV.und, AV.und, AV.und, AV.und, AV.und, AV.und, AV.und, AV.und, AV.und, AV.und, AV.und, AV.und, AV.und, AV.und,
      AV.und, AV.und, AV.und, AV.und, AV.und, AV.und, AV.und, AV.und, AV.und, AV.und, AV.und, AV.und, AV.und, AV.und, AV.und, AV.und, AV.und, AV.und, AV.und, AV.und]
    [some [Sg.a (Sz.s x7) [Col.b x8, Col.b x9, Col.b x10, Col.b x11, Col.b x12, Col.b x13, Col.b x14, Col.b x15, Col.i IntKind.i64 x16, Col.i IntKind.i64 x17, Col.i IntKind.i64 x18]],
      some [Sg.c (CV.f (FV.i IntKind.i64 x19)), Sg.c (CV.f (FV.i IntKind.i64 x20)), Sg.c (CV.f (FV.b x21)), Sg.c (CV.f (FV.b x22))],
      some [Sg.a (Sz.s x23) [Col.i IntKind.i64 x24, Col.i IntKind.i64 x25, Col.b x26, Col.b x27]]]
    [])
      (next (fun t => t.head 1 ⟨[⟨10, [0, 3, 4, 8, 9, 10, 12, 13, 14, 15, 16, 17, 18, 19, 21, 22, 23, 24, 25, 26, 27, 28, 29, 31, 32, 33, 34, 35, 36, 37, 38, 39, 40, 41, 42, 43, 44, 45, 46, 50, 51, 59, 60, 69, 70, 78, 79, 80, 81, 30, 47, 48, 49, 52, 53, 54, 55, 56, 57, 58, 61, 62, 63, 64, 65, 68, 71, 72, 73, 74, 75, 76, 77, 66, 67], []⟩], [⟨10, 1, @R_astrolabelaw25_ModePaths_0 (@l_0)⟩], [], [], (some ⟨0, [0, 1, 2, 3, 5, 6, 7, 8, 9, 10, 11, 12, 13, 14, 15, 16, 17, 18, 19, 20, 21, 22, 23, 24, 25, 26, 27, 28, 29, 30, 31, 32, 33, 34, 35, 36, 37, 38, 39, 40, 41, 42, 43, 44, 45, 46, 47, 48, 49, 50, 51, 52, 53, 54, 55, 56, 57, 58, 59, 60, 61, 62, 63, 64, 65, 66, 67, 68, 69, 70, 71, 72, 73, 74, 75, 76, 77, 78, 79, 80, 81], []⟩)⟩ (loopIn Try.prog 5 10)) c K) =
    S_astrolabelaw25_ModePaths_0 g_astrolabelaw25_awake g_mode_Path g_mode_Step g_mode_Good  x0 x1 x2 x3 x4 x5 x6 x7 x8 x9 x10 x11 x12 x13 x14 x15 x16 x17 x18 x19 x20 x21 x22 x23 x24 x25 x26 x27 (fun d => c (St.mk
  [AV.und, AV.r (RV.c (CV.sl 0 (Off.k 0) (Sz.s d.1) 11 d.2.1)), AV.r (RV.c (CV.ptr 1 (Off.k 0) 4)), AV.und, AV.und, AV.r (RV.c (CV.sl 2 (Off.k 0) (Sz.s d.2.2.1) 4 true)),
    AV.r (RV.c (CV.f (FV.i IntKind.i64 d.2.2.2.1))), AV.r (RV.c (CV.f (FV.i IntKind.i64 d.2.2.2.2.1))), AV.und, AV.und, AV.und, AV.r (RV.c (CV.f (FV.b d.2.2.2.2.2.1))),
    AV.und, AV.und, AV.und, AV.und, AV.und, AV.und, AV.und, AV.und, AV.r (RV.c (CV.sl 2 (Off.k 0) (Sz.s d.2.2.2.2.2.2.1) 4 true)), AV.und, AV.und, AV.und, AV.und, AV.und, AV.und, AV.und,
    AV.und, AV.und, AV.und, AV.und, AV.und, AV.und, AV.und, AV.und, AV.und, AV.und, AV.und, AV.und, AV.und, AV.und, AV.und, AV.und, AV.und, AV.und, AV.und, AV.und, AV.und, AV.und, AV.und, AV.und,
    AV.und, AV.und, AV.und, AV.und, AV.und, AV.und, AV.und, AV.und, AV.und, AV.und, AV.und, AV.und, AV.und, AV.und, AV.und, AV.und, AV.und, AV.und, AV.und, AV.und, AV.und, AV.und, AV.und, AV.und,
    AV.und, AV.und, AV.und, AV.und, AV.und, AV.und]
  [some
      [Sg.a (Sz.s d.2.2.2.2.2.2.2.1)
          [Col.b d.2.2.2.2.2.2.2.2.1, Col.b d.2.2.2.2.2.2.2.2.2.1, Col.b d.2.2.2.2.2.2.2.2.2.2.1,
            Col.b d.2.2.2.2.2.2.2.2.2.2.2.1, Col.b d.2.2.2.2.2.2.2.2.2.2.2.2.1, Col.b d.2.2.2.2.2.2.2.2.2.2.2.2.2.1,
            Col.b d.2.2.2.2.2.2.2.2.2.2.2.2.2.2.1, Col.b d.2.2.2.2.2.2.2.2.2.2.2.2.2.2.2.1,
            Col.i IntKind.i64 d.2.2.2.2.2.2.2.2.2.2.2.2.2.2.2.2.1, Col.i IntKind.i64 d.2.2.2.2.2.2.2.2.2.2.2.2.2.2.2.2.2.1,
            Col.i IntKind.i64 d.2.2.2.2.2.2.2.2.2.2.2.2.2.2.2.2.2.2.1]],
    some
      [Sg.c (CV.f (FV.i IntKind.i64 d.2.2.2.2.2.2.2.2.2.2.2.2.2.2.2.2.2.2.2.1)),
        Sg.c (CV.f (FV.i IntKind.i64 d.2.2.2.2.2.2.2.2.2.2.2.2.2.2.2.2.2.2.2.2.1)),
        Sg.c (CV.f (FV.b d.2.2.2.2.2.2.2.2.2.2.2.2.2.2.2.2.2.2.2.2.2.1)),
        Sg.c (CV.f (FV.b d.2.2.2.2.2.2.2.2.2.2.2.2.2.2.2.2.2.2.2.2.2.2.1))],
    some
      [Sg.a (Sz.s d.2.2.2.2.2.2.2.2.2.2.2.2.2.2.2.2.2.2.2.2.2.2.2.1)
          [Col.i IntKind.i64 d.2.2.2.2.2.2.2.2.2.2.2.2.2.2.2.2.2.2.2.2.2.2.2.2.1,
            Col.i IntKind.i64 d.2.2.2.2.2.2.2.2.2.2.2.2.2.2.2.2.2.2.2.2.2.2.2.2.2.1,
            Col.b d.2.2.2.2.2.2.2.2.2.2.2.2.2.2.2.2.2.2.2.2.2.2.2.2.2.2.1,
            Col.b d.2.2.2.2.2.2.2.2.2.2.2.2.2.2.2.2.2.2.2.2.2.2.2.2.2.2.2]]]
  [])) (Sum.elim (fun d => K (AX.ret) (St.mk
  [AV.und, AV.und, AV.und, AV.und, AV.r (RV.c (CV.f (FV.b false))), AV.und, AV.und, AV.und, AV.und, AV.und, AV.und, AV.und, AV.und, AV.und, AV.und, AV.und, AV.und, AV.und, AV.und, AV.und, AV.und,
    AV.und, AV.und, AV.und, AV.und, AV.und, AV.und, AV.und, AV.und, AV.und, AV.und, AV.und, AV.und, AV.und, AV.und, AV.und, AV.und, AV.und, AV.und, AV.und, AV.und, AV.und, AV.und, AV.und, AV.und,
    AV.und, AV.und, AV.und, AV.und, AV.und, AV.und, AV.und, AV.und, AV.und, AV.und, AV.und, AV.und, AV.und, AV.und, AV.und, AV.und, AV.und, AV.und, AV.und, AV.und, AV.und, AV.und, AV.und, AV.und,
    AV.und, AV.und, AV.und, AV.und, AV.und, AV.und, AV.und, AV.und, AV.und, AV.und, AV.und, AV.und, AV.und]
  [some
      [Sg.a (Sz.s d.1)
          [Col.b d.2.1, Col.b d.2.2.1, Col.b d.2.2.2.1, Col.b d.2.2.2.2.1, Col.b d.2.2.2.2.2.1, Col.b d.2.2.2.2.2.2.1,
            Col.b d.2.2.2.2.2.2.2.1, Col.b d.2.2.2.2.2.2.2.2.1, Col.i IntKind.i64 d.2.2.2.2.2.2.2.2.2.1,
            Col.i IntKind.i64 d.2.2.2.2.2.2.2.2.2.2.1, Col.i IntKind.i64 d.2.2.2.2.2.2.2.2.2.2.2]]]
  [])) (fun d => K (AX.ex 0) (St.mk
  [AV.und, AV.r (RV.c (CV.sl 0 (Off.k 0) (Sz.s d.1) 11 d.2.1)), AV.r (RV.c (CV.ptr 1 (Off.k 0) 4)), AV.und, AV.und, AV.r (RV.c (CV.sl 2 (Off.k 0) (Sz.s d.2.2.1) 4 true)),
    AV.r (RV.c (CV.f (FV.i IntKind.i64 d.2.2.2.1))), AV.r (RV.c (CV.f (FV.i IntKind.i64 d.2.2.2.2.1))), AV.und, AV.und, AV.und, AV.r (RV.c (CV.f (FV.b d.2.2.2.2.2.1))),
    AV.und, AV.und, AV.und, AV.und, AV.und, AV.und, AV.und, AV.und, AV.r (RV.c (CV.sl 2 (Off.k 0) (Sz.s d.2.2.2.2.2.2.1) 4 true)), AV.und, AV.und, AV.und, AV.und,
    AV.r (RV.c (CV.f (FV.i IntKind.i64 d.2.2.2.2.1))), AV.r (RV.c (CV.sl 0 (Off.k 0) (Sz.s d.1) 11 d.2.1)), AV.r (RV.c (CV.f (FV.i IntKind.i64 d.2.2.2.2.2.2.2.1))),
    AV.r (RV.c (CV.f (FV.b d.2.2.2.2.2.2.2.2.1))), AV.und, AV.und, AV.und, AV.und, AV.und, AV.und, AV.und, AV.und, AV.und, AV.und, AV.und, AV.und, AV.und, AV.und, AV.und, AV.und,
    AV.und, AV.und, AV.und, AV.und, AV.und, AV.und, AV.und, AV.und, AV.und, AV.und, AV.und, AV.und, AV.und, AV.und, AV.und, AV.und, AV.und, AV.und, AV.und, AV.und, AV.und, AV.und, AV.und, AV.und,
    AV.und, AV.und, AV.und, AV.und, AV.und, AV.und, AV.und, AV.und, AV.und, AV.und, AV.und, AV.und, AV.und]
  [some
      [Sg.a (Sz.s d.2.2.2.2.2.2.2.2.2.1)
          [Col.b d.2.2.2.2.2.2.2.2.2.2.1, Col.b d.2.2.2.2.2.2.2.2.2.2.2.1, Col.b d.2.2.2.2.2.2.2.2.2.2.2.2.1,
            Col.b d.2.2.2.2.2.2.2.2.2.2.2.2.2.1, Col.b d.2.2.2.2.2.2.2.2.2.2.2.2.2.2.1,
            Col.b d.2.2.2.2.2.2.2.2.2.2.2.2.2.2.2.1, Col.b d.2.2.2.2.2.2.2.2.2.2.2.2.2.2.2.2.1,
            Col.b d.2.2.2.2.2.2.2.2.2.2.2.2.2.2.2.2.2.1, Col.i IntKind.i64 d.2.2.2.2.2.2.2.2.2.2.2.2.2.2.2.2.2.2.1,
            Col.i IntKind.i64 d.2.2.2.2.2.2.2.2.2.2.2.2.2.2.2.2.2.2.2.1,
            Col.i IntKind.i64 d.2.2.2.2.2.2.2.2.2.2.2.2.2.2.2.2.2.2.2.2.1]],
    some
      [Sg.c (CV.f (FV.i IntKind.i64 d.2.2.2.2.2.2.2.2.2.2.2.2.2.2.2.2.2.2.2.2.2.1)),
        Sg.c (CV.f (FV.i IntKind.i64 d.2.2.2.2.2.2.2.2.2.2.2.2.2.2.2.2.2.2.2.2.2.2.1)),
        Sg.c (CV.f (FV.b d.2.2.2.2.2.2.2.2.2.2.2.2.2.2.2.2.2.2.2.2.2.2.2.1)),
        Sg.c (CV.f (FV.b d.2.2.2.2.2.2.2.2.2.2.2.2.2.2.2.2.2.2.2.2.2.2.2.2.1))],
    some
      [Sg.a (Sz.s d.2.2.2.2.2.2.2.2.2.2.2.2.2.2.2.2.2.2.2.2.2.2.2.2.2.1)
          [Col.i IntKind.i64 d.2.2.2.2.2.2.2.2.2.2.2.2.2.2.2.2.2.2.2.2.2.2.2.2.2.2.1,
            Col.i IntKind.i64 d.2.2.2.2.2.2.2.2.2.2.2.2.2.2.2.2.2.2.2.2.2.2.2.2.2.2.2.1,
            Col.b d.2.2.2.2.2.2.2.2.2.2.2.2.2.2.2.2.2.2.2.2.2.2.2.2.2.2.2.2.1,
            Col.b d.2.2.2.2.2.2.2.2.2.2.2.2.2.2.2.2.2.2.2.2.2.2.2.2.2.2.2.2.2]]]
  []))) := by kernel_rfl
theorem it_astrolabelaw25_ModePaths_0 {ρ : Type} (x0 : Nat) (x1 : Bool) (x2 : Nat) (x3 : Int) (x4 : Int) (x5 : Bool) (x6 : Nat) (x7 : Nat) (x8 : Nat → Bool) (x9 : Nat → Bool) (x10 : Nat → Bool) (x11 : Nat → Bool) (x12 : Nat → Bool) (x13 : Nat → Bool) (x14 : Nat → Bool) (x15 : Nat → Bool) (x16 : Nat → Int) (x17 : Nat → Int) (x18 : Nat → Int) (x19 : Int) (x20 : Int) (x21 : Bool) (x22 : Bool) (x23 : Nat) (x24 : Nat → Int) (x25 : Nat → Int) (x26 : Nat → Bool) (x27 : Nat → Bool) (K : AX → St → Option ρ) :
    iter (fun t => t.head 1 ⟨[⟨10, [0, 3, 4, 8, 9, 10, 12, 13, 14, 15, 16, 17, 18, 19, 21, 22, 23, 24, 25, 26, 27, 28, 29, 31, 32, 33, 34, 35, 36, 37, 38, 39, 40, 41, 42, 43, 44, 45, 46, 50, 51, 59, 60, 69, 70, 78, 79, 80, 81, 30, 47, 48, 49, 52, 53, 54, 55, 56, 57, 58, 61, 62, 63, 64, 65, 68, 71, 72, 73, 74, 75, 76, 77, 66, 67], []⟩], [⟨10, 1, @R_astrolabelaw25_ModePaths_0 (@L_astrolabelaw25_ModePaths_0)⟩], [], [], (some ⟨0, [0, 1, 2, 3, 5, 6, 7, 8, 9, 10, 11, 12, 13, 14, 15, 16, 17, 18, 19, 20, 21, 22, 23, 24, 25, 26, 27, 28, 29, 30, 31, 32, 33, 34, 35, 36, 37, 38, 39, 40, 41, 42, 43, 44, 45, 46, 47, 48, 49, 50, 51, 52, 53, 54, 55, 56, 57, 58, 59, 60, 61, 62, 63, 64, 65, 66, 67, 68, 69, 70, 71, 72, 73, 74, 75, 76, 77, 78, 79, 80, 81], []⟩)⟩ (loopIn Try.prog 5 10)) (runC Try.prog (envOf [(9, F_astrolabelaw25_awake f_astrolabelaw25_awake), (12, F_mode_Path f_mode_Path), (10, F_mode_Step f_mode_Step), (13, F_mode_Good f_mode_Good)]) ⟨[⟨10, [0, 3, 4, 8, 9, 10, 12, 13, 14, 15, 16, 17, 18, 19, 21, 22, 23, 24, 25, 26, 27, 28, 29, 31, 32, 33, 34, 35, 36, 37, 38, 39, 40, 41, 42, 43, 44, 45, 46, 50, 51, 59, 60, 69, 70, 78, 79, 80, 81, 30, 47, 48, 49, 52, 53, 54, 55, 56, 57, 58, 61, 62, 63, 64, 65, 68, 71, 72, 73, 74, 75, 76, 77, 66, 67], []⟩], [⟨10, 1, @R_astrolabelaw25_ModePaths_0 (@L_astrolabelaw25_ModePaths_0)⟩], [], [], (some ⟨0, [0, 1, 2, 3, 5, 6, 7, 8, 9, 10, 11, 12, 13, 14, 15, 16, 17, 18, 19, 20, 21, 22, 23, 24, 25, 26, 27, 28, 29, 30, 31, 32, 33, 34, 35, 36, 37, 38, 39, 40, 41, 42, 43, 44, 45, 46, 47, 48, 49, 50, 51, 52, 53, 54, 55, 56, 57, 58, 59, 60, 61, 62, 63, 64, 65, 66, 67, 68, 69, 70, 71, 72, 73, 74, 75, 76, 77, 78, 79, 80, 81], []⟩)⟩ (tmpsOf Try.prog 5) 1 200 (loopIn Try.prog 5 10)) K 200
      (St.mk
    [AV.und, AV.r (RV.c (CV.sl 0 (Off.k 0) (Sz.s x0) 11 x1)), AV.r (RV.c (CV.ptr 1 (Off.k 0) 4)), AV.und, AV.und, AV.r (RV.c (CV.sl 2 (Off.k 0) (Sz.s x2) 4 true)),
      AV.r (RV.c (CV.f (FV.i IntKind.i64 x3))), AV.r (RV.c (CV.f (FV.i IntKind.i64 x4))), AV.und, AV.und, AV.und, AV.r (RV.c (CV.f (FV.b x5))), AV.und, AV.und, AV.und, AV.und, AV.und, AV.und, AV.und,
      AV.und, AV.r (RV.c (CV.sl 2 (Off.k 0) (Sz.s x6) 4 true)), AV.und, AV.und, AV.und, AV.und, AV.und, AV.und, AV.und, AV.und, AV.und, AV.und, AV.und, AV.und, AV.und, AV.und, AV.und, AV.und, AV.und,
      AV.und, AV.und, AV.und, AV.und, AV.und, AV.und, AV.und, AV.und, AV.und, AV.und, AV.und, AV.und, AV.und, AV.und, AV.und, AV.und, AV.und, AV.und, AV.und, AV.und, AV.und, AV.und, AV.und, AV.und,
      AV.und, AV.und, AV.und, AV.und, AV.und, AV.und, AV.und, AV.und, AV.und, AV.und, AV.und, AV.und, AV.und, AV.und, AV.und, AV.und, AV.und, AV.und, AV.und, AV.und]
    [some [Sg.a (Sz.s x7) [Col.b x8, Col.b x9, Col.b x10, Col.b x11, Col.b x12, Col.b x13, Col.b x14, Col.b x15, Col.i IntKind.i64 x16, Col.i IntKind.i64 x17, Col.i IntKind.i64 x18]],
      some [Sg.c (CV.f (FV.i IntKind.i64 x19)), Sg.c (CV.f (FV.i IntKind.i64 x20)), Sg.c (CV.f (FV.b x21)), Sg.c (CV.f (FV.b x22))],
      some [Sg.a (Sz.s x23) [Col.i IntKind.i64 x24, Col.i IntKind.i64 x25, Col.b x26, Col.b x27]]]
    []) = L_astrolabelaw25_ModePaths_0 (x0, x1, x2, x3, x4, x5, x6, x7, x8, x9, x10, x11, x12, x13, x14, x15, x16, x17, x18, x19, x20, x21, x22, x23, x24, x25, x26, x27) (Sum.elim (fun d => K (AX.ret) (St.mk
  [AV.und, AV.und, AV.und, AV.und, AV.r (RV.c (CV.f (FV.b false))), AV.und, AV.und, AV.und, AV.und, AV.und, AV.und, AV.und, AV.und, AV.und, AV.und, AV.und, AV.und, AV.und, AV.und, AV.und, AV.und,
    AV.und, AV.und, AV.und, AV.und, AV.und, AV.und, AV.und, AV.und, AV.und, AV.und, AV.und, AV.und, AV.und, AV.und, AV.und, AV.und, AV.und, AV.und, AV.und, AV.und, AV.und, AV.und, AV.und, AV.und,
    AV.und, AV.und, AV.und, AV.und, AV.und, AV.und, AV.und, AV.und, AV.und, AV.und, AV.und, AV.und, AV.und, AV.und, AV.und, AV.und, AV.und, AV.und, AV.und, AV.und, AV.und, AV.und, AV.und, AV.und,
    AV.und, AV.und, AV.und, AV.und, AV.und, AV.und, AV.und, AV.und, AV.und, AV.und, AV.und, AV.und, AV.und]
  [some
      [Sg.a (Sz.s d.1)
          [Col.b d.2.1, Col.b d.2.2.1, Col.b d.2.2.2.1, Col.b d.2.2.2.2.1, Col.b d.2.2.2.2.2.1, Col.b d.2.2.2.2.2.2.1,
            Col.b d.2.2.2.2.2.2.2.1, Col.b d.2.2.2.2.2.2.2.2.1, Col.i IntKind.i64 d.2.2.2.2.2.2.2.2.2.1,
            Col.i IntKind.i64 d.2.2.2.2.2.2.2.2.2.2.1, Col.i IntKind.i64 d.2.2.2.2.2.2.2.2.2.2.2]]]
  [])) (fun d => K (AX.ex 0) (St.mk
  [AV.und, AV.r (RV.c (CV.sl 0 (Off.k 0) (Sz.s d.1) 11 d.2.1)), AV.r (RV.c (CV.ptr 1 (Off.k 0) 4)), AV.und, AV.und, AV.r (RV.c (CV.sl 2 (Off.k 0) (Sz.s d.2.2.1) 4 true)),
    AV.r (RV.c (CV.f (FV.i IntKind.i64 d.2.2.2.1))), AV.r (RV.c (CV.f (FV.i IntKind.i64 d.2.2.2.2.1))), AV.und, AV.und, AV.und, AV.r (RV.c (CV.f (FV.b d.2.2.2.2.2.1))),
    AV.und, AV.und, AV.und, AV.und, AV.und, AV.und, AV.und, AV.und, AV.r (RV.c (CV.sl 2 (Off.k 0) (Sz.s d.2.2.2.2.2.2.1) 4 true)), AV.und, AV.und, AV.und, AV.und,
    AV.r (RV.c (CV.f (FV.i IntKind.i64 d.2.2.2.2.1))), AV.r (RV.c (CV.sl 0 (Off.k 0) (Sz.s d.1) 11 d.2.1)), AV.r (RV.c (CV.f (FV.i IntKind.i64 d.2.2.2.2.2.2.2.1))),
    AV.r (RV.c (CV.f (FV.b d.2.2.2.2.2.2.2.2.1))), AV.und, AV.und, AV.und, AV.und, AV.und, AV.und, AV.und, AV.und, AV.und, AV.und, AV.und, AV.und, AV.und, AV.und, AV.und, AV.und,
    AV.und, AV.und, AV.und, AV.und, AV.und, AV.und, AV.und, AV.und, AV.und, AV.und, AV.und, AV.und, AV.und, AV.und, AV.und, AV.und, AV.und, AV.und, AV.und, AV.und, AV.und, AV.und, AV.und, AV.und,
    AV.und, AV.und, AV.und, AV.und, AV.und, AV.und, AV.und, AV.und, AV.und, AV.und, AV.und, AV.und, AV.und]
  [some
      [Sg.a (Sz.s d.2.2.2.2.2.2.2.2.2.1)
          [Col.b d.2.2.2.2.2.2.2.2.2.2.1, Col.b d.2.2.2.2.2.2.2.2.2.2.2.1, Col.b d.2.2.2.2.2.2.2.2.2.2.2.2.1,
            Col.b d.2.2.2.2.2.2.2.2.2.2.2.2.2.1, Col.b d.2.2.2.2.2.2.2.2.2.2.2.2.2.2.1,
            Col.b d.2.2.2.2.2.2.2.2.2.2.2.2.2.2.2.1, Col.b d.2.2.2.2.2.2.2.2.2.2.2.2.2.2.2.2.1,
            Col.b d.2.2.2.2.2.2.2.2.2.2.2.2.2.2.2.2.2.1, Col.i IntKind.i64 d.2.2.2.2.2.2.2.2.2.2.2.2.2.2.2.2.2.2.1,
            Col.i IntKind.i64 d.2.2.2.2.2.2.2.2.2.2.2.2.2.2.2.2.2.2.2.1,
            Col.i IntKind.i64 d.2.2.2.2.2.2.2.2.2.2.2.2.2.2.2.2.2.2.2.2.1]],
    some
      [Sg.c (CV.f (FV.i IntKind.i64 d.2.2.2.2.2.2.2.2.2.2.2.2.2.2.2.2.2.2.2.2.2.1)),
        Sg.c (CV.f (FV.i IntKind.i64 d.2.2.2.2.2.2.2.2.2.2.2.2.2.2.2.2.2.2.2.2.2.2.1)),
        Sg.c (CV.f (FV.b d.2.2.2.2.2.2.2.2.2.2.2.2.2.2.2.2.2.2.2.2.2.2.2.1)),
        Sg.c (CV.f (FV.b d.2.2.2.2.2.2.2.2.2.2.2.2.2.2.2.2.2.2.2.2.2.2.2.2.1))],
    some
      [Sg.a (Sz.s d.2.2.2.2.2.2.2.2.2.2.2.2.2.2.2.2.2.2.2.2.2.2.2.2.2.1)
          [Col.i IntKind.i64 d.2.2.2.2.2.2.2.2.2.2.2.2.2.2.2.2.2.2.2.2.2.2.2.2.2.2.1,
            Col.i IntKind.i64 d.2.2.2.2.2.2.2.2.2.2.2.2.2.2.2.2.2.2.2.2.2.2.2.2.2.2.2.1,
            Col.b d.2.2.2.2.2.2.2.2.2.2.2.2.2.2.2.2.2.2.2.2.2.2.2.2.2.2.2.2.1,
            Col.b d.2.2.2.2.2.2.2.2.2.2.2.2.2.2.2.2.2.2.2.2.2.2.2.2.2.2.2.2.2]]]
  []))) :=
  iter_loopX (emb := fun (d : Nat ×
  Bool ×
    Nat ×
      Int ×
        Int ×
          Bool ×
            Nat ×
              Nat ×
                (Nat → Bool) ×
                  (Nat → Bool) ×
                    (Nat → Bool) ×
                      (Nat → Bool) ×
                        (Nat → Bool) ×
                          (Nat → Bool) × (Nat → Bool) × (Nat → Bool) × (Nat → Int) × (Nat → Int) × (Nat → Int) × Int × Int × Bool × Bool × Nat × (Nat → Int) × (Nat → Int) × (Nat → Bool) × (Nat → Bool)) => St.mk
  [AV.und, AV.r (RV.c (CV.sl 0 (Off.k 0) (Sz.s d.1) 11 d.2.1)), AV.r (RV.c (CV.ptr 1 (Off.k 0) 4)), AV.und, AV.und, AV.r (RV.c (CV.sl 2 (Off.k 0) (Sz.s d.2.2.1) 4 true)),
    AV.r (RV.c (CV.f (FV.i IntKind.i64 d.2.2.2.1))), AV.r (RV.c (CV.f (FV.i IntKind.i64 d.2.2.2.2.1))), AV.und, AV.und, AV.und, AV.r (RV.c (CV.f (FV.b d.2.2.2.2.2.1))),
    AV.und, AV.und, AV.und, AV.und, AV.und, AV.und, AV.und, AV.und, AV.r (RV.c (CV.sl 2 (Off.k 0) (Sz.s d.2.2.2.2.2.2.1) 4 true)), AV.und, AV.und, AV.und, AV.und, AV.und, AV.und, AV.und,
    AV.und, AV.und, AV.und, AV.und, AV.und, AV.und, AV.und, AV.und, AV.und, AV.und, AV.und, AV.und, AV.und, AV.und, AV.und, AV.und, AV.und, AV.und, AV.und, AV.und, AV.und, AV.und, AV.und, AV.und,
    AV.und, AV.und, AV.und, AV.und, AV.und, AV.und, AV.und, AV.und, AV.und, AV.und, AV.und, AV.und, AV.und, AV.und, AV.und, AV.und, AV.und, AV.und, AV.und, AV.und, AV.und, AV.und, AV.und, AV.und,
    AV.und, AV.und, AV.und, AV.und, AV.und, AV.und]
  [some
      [Sg.a (Sz.s d.2.2.2.2.2.2.2.1)
          [Col.b d.2.2.2.2.2.2.2.2.1, Col.b d.2.2.2.2.2.2.2.2.2.1, Col.b d.2.2.2.2.2.2.2.2.2.2.1,
            Col.b d.2.2.2.2.2.2.2.2.2.2.2.1, Col.b d.2.2.2.2.2.2.2.2.2.2.2.2.1, Col.b d.2.2.2.2.2.2.2.2.2.2.2.2.2.1,
            Col.b d.2.2.2.2.2.2.2.2.2.2.2.2.2.2.1, Col.b d.2.2.2.2.2.2.2.2.2.2.2.2.2.2.2.1,
            Col.i IntKind.i64 d.2.2.2.2.2.2.2.2.2.2.2.2.2.2.2.2.1, Col.i IntKind.i64 d.2.2.2.2.2.2.2.2.2.2.2.2.2.2.2.2.2.1,
            Col.i IntKind.i64 d.2.2.2.2.2.2.2.2.2.2.2.2.2.2.2.2.2.2.1]],
    some
      [Sg.c (CV.f (FV.i IntKind.i64 d.2.2.2.2.2.2.2.2.2.2.2.2.2.2.2.2.2.2.2.1)),
        Sg.c (CV.f (FV.i IntKind.i64 d.2.2.2.2.2.2.2.2.2.2.2.2.2.2.2.2.2.2.2.2.1)),
        Sg.c (CV.f (FV.b d.2.2.2.2.2.2.2.2.2.2.2.2.2.2.2.2.2.2.2.2.2.1)),
        Sg.c (CV.f (FV.b d.2.2.2.2.2.2.2.2.2.2.2.2.2.2.2.2.2.2.2.2.2.2.1))],
    some
      [Sg.a (Sz.s d.2.2.2.2.2.2.2.2.2.2.2.2.2.2.2.2.2.2.2.2.2.2.2.1)
          [Col.i IntKind.i64 d.2.2.2.2.2.2.2.2.2.2.2.2.2.2.2.2.2.2.2.2.2.2.2.2.1,
            Col.i IntKind.i64 d.2.2.2.2.2.2.2.2.2.2.2.2.2.2.2.2.2.2.2.2.2.2.2.2.2.1,
            Col.b d.2.2.2.2.2.2.2.2.2.2.2.2.2.2.2.2.2.2.2.2.2.2.2.2.2.2.1,
            Col.b d.2.2.2.2.2.2.2.2.2.2.2.2.2.2.2.2.2.2.2.2.2.2.2.2.2.2.2]]]
  []) (step := fun d c x => S_astrolabelaw25_ModePaths_0 f_astrolabelaw25_awake f_mode_Path f_mode_Step f_mode_Good  d.1 d.2.1 d.2.2.1 d.2.2.2.1 d.2.2.2.2.1 d.2.2.2.2.2.1 d.2.2.2.2.2.2.1 d.2.2.2.2.2.2.2.1 d.2.2.2.2.2.2.2.2.1 d.2.2.2.2.2.2.2.2.2.1 d.2.2.2.2.2.2.2.2.2.2.1 d.2.2.2.2.2.2.2.2.2.2.2.1 d.2.2.2.2.2.2.2.2.2.2.2.2.1 d.2.2.2.2.2.2.2.2.2.2.2.2.2.1 d.2.2.2.2.2.2.2.2.2.2.2.2.2.2.1 d.2.2.2.2.2.2.2.2.2.2.2.2.2.2.2.1 d.2.2.2.2.2.2.2.2.2.2.2.2.2.2.2.2.1 d.2.2.2.2.2.2.2.2.2.2.2.2.2.2.2.2.2.1 d.2.2.2.2.2.2.2.2.2.2.2.2.2.2.2.2.2.2.1 d.2.2.2.2.2.2.2.2.2.2.2.2.2.2.2.2.2.2.2.1 d.2.2.2.2.2.2.2.2.2.2.2.2.2.2.2.2.2.2.2.2.1 d.2.2.2.2.2.2.2.2.2.2.2.2.2.2.2.2.2.2.2.2.2.1 d.2.2.2.2.2.2.2.2.2.2.2.2.2.2.2.2.2.2.2.2.2.2.1 d.2.2.2.2.2.2.2.2.2.2.2.2.2.2.2.2.2.2.2.2.2.2.2.1 d.2.2.2.2.2.2.2.2.2.2.2.2.2.2.2.2.2.2.2.2.2.2.2.2.1 d.2.2.2.2.2.2.2.2.2.2.2.2.2.2.2.2.2.2.2.2.2.2.2.2.2.1 d.2.2.2.2.2.2.2.2.2.2.2.2.2.2.2.2.2.2.2.2.2.2.2.2.2.2.1 d.2.2.2.2.2.2.2.2.2.2.2.2.2.2.2.2.2.2.2.2.2.2.2.2.2.2.2 c x) (kx := (Sum.elim (fun d => K (AX.ret) (St.mk
  [AV.und, AV.und, AV.und, AV.und, AV.r (RV.c (CV.f (FV.b false))), AV.und, AV.und, AV.und, AV.und, AV.und, AV.und, AV.und, AV.und, AV.und, AV.und, AV.und, AV.und, AV.und, AV.und, AV.und, AV.und,
    AV.und, AV.und, AV.und, AV.und, AV.und, AV.und, AV.und, AV.und, AV.und, AV.und, AV.und, AV.und, AV.und, AV.und, AV.und, AV.und, AV.und, AV.und, AV.und, AV.und, AV.und, AV.und, AV.und, AV.und,
    AV.und, AV.und, AV.und, AV.und, AV.und, AV.und, AV.und, AV.und, AV.und, AV.und, AV.und, AV.und, AV.und, AV.und, AV.und, AV.und, AV.und, AV.und, AV.und, AV.und, AV.und, AV.und, AV.und, AV.und,
    AV.und, AV.und, AV.und, AV.und, AV.und, AV.und, AV.und, AV.und, AV.und, AV.und, AV.und, AV.und, AV.und]
  [some
      [Sg.a (Sz.s d.1)
          [Col.b d.2.1, Col.b d.2.2.1, Col.b d.2.2.2.1, Col.b d.2.2.2.2.1, Col.b d.2.2.2.2.2.1, Col.b d.2.2.2.2.2.2.1,
            Col.b d.2.2.2.2.2.2.2.1, Col.b d.2.2.2.2.2.2.2.2.1, Col.i IntKind.i64 d.2.2.2.2.2.2.2.2.2.1,
            Col.i IntKind.i64 d.2.2.2.2.2.2.2.2.2.2.1, Col.i IntKind.i64 d.2.2.2.2.2.2.2.2.2.2.2]]]
  [])) (fun d => K (AX.ex 0) (St.mk
  [AV.und, AV.r (RV.c (CV.sl 0 (Off.k 0) (Sz.s d.1) 11 d.2.1)), AV.r (RV.c (CV.ptr 1 (Off.k 0) 4)), AV.und, AV.und, AV.r (RV.c (CV.sl 2 (Off.k 0) (Sz.s d.2.2.1) 4 true)),
    AV.r (RV.c (CV.f (FV.i IntKind.i64 d.2.2.2.1))), AV.r (RV.c (CV.f (FV.i IntKind.i64 d.2.2.2.2.1))), AV.und, AV.und, AV.und, AV.r (RV.c (CV.f (FV.b d.2.2.2.2.2.1))),
    AV.und, AV.und, AV.und, AV.und, AV.und, AV.und, AV.und, AV.und, AV.r (RV.c (CV.sl 2 (Off.k 0) (Sz.s d.2.2.2.2.2.2.1) 4 true)), AV.und, AV.und, AV.und, AV.und,
    AV.r (RV.c (CV.f (FV.i IntKind.i64 d.2.2.2.2.1))), AV.r (RV.c (CV.sl 0 (Off.k 0) (Sz.s d.1) 11 d.2.1)), AV.r (RV.c (CV.f (FV.i IntKind.i64 d.2.2.2.2.2.2.2.1))),
    AV.r (RV.c (CV.f (FV.b d.2.2.2.2.2.2.2.2.1))), AV.und, AV.und, AV.und, AV.und, AV.und, AV.und, AV.und, AV.und, AV.und, AV.und, AV.und, AV.und, AV.und, AV.und, AV.und, AV.und,
    AV.und, AV.und, AV.und, AV.und, AV.und, AV.und, AV.und, AV.und, AV.und, AV.und, AV.und, AV.und, AV.und, AV.und, AV.und, AV.und, AV.und, AV.und, AV.und, AV.und, AV.und, AV.und, AV.und, AV.und,
    AV.und, AV.und, AV.und, AV.und, AV.und, AV.und, AV.und, AV.und, AV.und, AV.und, AV.und, AV.und, AV.und]
  [some
      [Sg.a (Sz.s d.2.2.2.2.2.2.2.2.2.1)
          [Col.b d.2.2.2.2.2.2.2.2.2.2.1, Col.b d.2.2.2.2.2.2.2.2.2.2.2.1, Col.b d.2.2.2.2.2.2.2.2.2.2.2.2.1,
            Col.b d.2.2.2.2.2.2.2.2.2.2.2.2.2.1, Col.b d.2.2.2.2.2.2.2.2.2.2.2.2.2.2.1,
            Col.b d.2.2.2.2.2.2.2.2.2.2.2.2.2.2.2.1, Col.b d.2.2.2.2.2.2.2.2.2.2.2.2.2.2.2.2.1,
            Col.b d.2.2.2.2.2.2.2.2.2.2.2.2.2.2.2.2.2.1, Col.i IntKind.i64 d.2.2.2.2.2.2.2.2.2.2.2.2.2.2.2.2.2.2.1,
            Col.i IntKind.i64 d.2.2.2.2.2.2.2.2.2.2.2.2.2.2.2.2.2.2.2.1,
            Col.i IntKind.i64 d.2.2.2.2.2.2.2.2.2.2.2.2.2.2.2.2.2.2.2.2.1]],
    some
      [Sg.c (CV.f (FV.i IntKind.i64 d.2.2.2.2.2.2.2.2.2.2.2.2.2.2.2.2.2.2.2.2.2.1)),
        Sg.c (CV.f (FV.i IntKind.i64 d.2.2.2.2.2.2.2.2.2.2.2.2.2.2.2.2.2.2.2.2.2.2.1)),
        Sg.c (CV.f (FV.b d.2.2.2.2.2.2.2.2.2.2.2.2.2.2.2.2.2.2.2.2.2.2.2.1)),
        Sg.c (CV.f (FV.b d.2.2.2.2.2.2.2.2.2.2.2.2.2.2.2.2.2.2.2.2.2.2.2.2.1))],
    some
      [Sg.a (Sz.s d.2.2.2.2.2.2.2.2.2.2.2.2.2.2.2.2.2.2.2.2.2.2.2.2.2.1)
          [Col.i IntKind.i64 d.2.2.2.2.2.2.2.2.2.2.2.2.2.2.2.2.2.2.2.2.2.2.2.2.2.2.1,
            Col.i IntKind.i64 d.2.2.2.2.2.2.2.2.2.2.2.2.2.2.2.2.2.2.2.2.2.2.2.2.2.2.2.1,
            Col.b d.2.2.2.2.2.2.2.2.2.2.2.2.2.2.2.2.2.2.2.2.2.2.2.2.2.2.2.2.1,
            Col.b d.2.2.2.2.2.2.2.2.2.2.2.2.2.2.2.2.2.2.2.2.2.2.2.2.2.2.2.2.2]]]
  []))))
    (fun d c => ds_astrolabelaw25_ModePaths_0 f_astrolabelaw25_awake f_mode_Path f_mode_Step f_mode_Good (@L_astrolabelaw25_ModePaths_0) d.1 d.2.1 d.2.2.1 d.2.2.2.1 d.2.2.2.2.1 d.2.2.2.2.2.1 d.2.2.2.2.2.2.1 d.2.2.2.2.2.2.2.1 d.2.2.2.2.2.2.2.2.1 d.2.2.2.2.2.2.2.2.2.1 d.2.2.2.2.2.2.2.2.2.2.1 d.2.2.2.2.2.2.2.2.2.2.2.1 d.2.2.2.2.2.2.2.2.2.2.2.2.1 d.2.2.2.2.2.2.2.2.2.2.2.2.2.1 d.2.2.2.2.2.2.2.2.2.2.2.2.2.2.1 d.2.2.2.2.2.2.2.2.2.2.2.2.2.2.2.1 d.2.2.2.2.2.2.2.2.2.2.2.2.2.2.2.2.1 d.2.2.2.2.2.2.2.2.2.2.2.2.2.2.2.2.2.1 d.2.2.2.2.2.2.2.2.2.2.2.2.2.2.2.2.2.2.1 d.2.2.2.2.2.2.2.2.2.2.2.2.2.2.2.2.2.2.2.1 d.2.2.2.2.2.2.2.2.2.2.2.2.2.2.2.2.2.2.2.2.1 d.2.2.2.2.2.2.2.2.2.2.2.2.2.2.2.2.2.2.2.2.2.1 d.2.2.2.2.2.2.2.2.2.2.2.2.2.2.2.2.2.2.2.2.2.2.1 d.2.2.2.2.2.2.2.2.2.2.2.2.2.2.2.2.2.2.2.2.2.2.2.1 d.2.2.2.2.2.2.2.2.2.2.2.2.2.2.2.2.2.2.2.2.2.2.2.2.1 d.2.2.2.2.2.2.2.2.2.2.2.2.2.2.2.2.2.2.2.2.2.2.2.2.2.1 d.2.2.2.2.2.2.2.2.2.2.2.2.2.2.2.2.2.2.2.2.2.2.2.2.2.2.1 d.2.2.2.2.2.2.2.2.2.2.2.2.2.2.2.2.2.2.2.2.2.2.2.2.2.2.2 c K) 200 (x0, x1, x2, x3, x4, x5, x6, x7, x8, x9, x10, x11, x12, x13, x14, x15, x16, x17, x18, x19, x20, x21, x22, x23, x24, x25, x26, x27)
theorem so_astrolabelaw25_ModePaths_0 : ∀ kk, SumOK Try.prog (envOf [(9, F_astrolabelaw25_awake f_astrolabelaw25_awake), (12, F_mode_Path f_mode_Path), (10, F_mode_Step f_mode_Step), (13, F_mode_Good f_mode_Good)]) ⟨[⟨10, [0, 3, 4, 8, 9, 10, 12, 13, 14, 15, 16, 17, 18, 19, 21, 22, 23, 24, 25, 26, 27, 28, 29, 31, 32, 33, 34, 35, 36, 37, 38, 39, 40, 41, 42, 43, 44, 45, 46, 50, 51, 59, 60, 69, 70, 78, 79, 80, 81, 30, 47, 48, 49, 52, 53, 54, 55, 56, 57, 58, 61, 62, 63, 64, 65, 68, 71, 72, 73, 74, 75, 76, 77, 66, 67], []⟩], [⟨10, 1, @R_astrolabelaw25_ModePaths_0 (@L_astrolabelaw25_ModePaths_0)⟩], [], [], (some ⟨0, [0, 1, 2, 3, 5, 6, 7, 8, 9, 10, 11, 12, 13, 14, 15, 16, 17, 18, 19, 20, 21, 22, 23, 24, 25, 26, 27, 28, 29, 30, 31, 32, 33, 34, 35, 36, 37, 38, 39, 40, 41, 42, 43, 44, 45, 46, 47, 48, 49, 50, 51, 52, 53, 54, 55, 56, 57, 58, 59, 60, 61, 62, 63, 64, 65, 66, 67, 68, 69, 70, 71, 72, 73, 74, 75, 76, 77, 78, 79, 80, 81], []⟩)⟩ (tmpsOf Try.prog 5) kk 200 (loopIn Try.prog 5 10) :=
  SumOK.of (id := 10) (k0 := 1) (run := @R_astrolabelaw25_ModePaths_0 (@L_astrolabelaw25_ModePaths_0)) (by kernel_rfl) fun s K r hr => by
    unfold R_astrolabelaw25_ModePaths_0 at hr
    obtain ⟨b, hb, hr1⟩ := Option.bind_eq_some_iff.1 hr
    have e := ((Q_astrolabelaw25_ModePaths_0).ok s b hb).trans (q_astrolabelaw25_ModePaths_0 b)
    subst e
    exact ⟨200, (it_astrolabelaw25_ModePaths_0 b.1.2.1.2.2.1 b.1.2.1.2.2.2.2 b.1.2.2.2.2.2.1.2.2.1 b.1.2.2.2.2.2.2.1 b.1.2.2.2.2.2.2.2.1 b.1.2.2.2.2.2.2.2.2.2.2.2.1 b.1.2.2.2.2.2.2.2.2.2.2.2.2.2.2.2.2.2.2.2.2.1.2.2.1 b.2.1.1.1.1 b.2.1.1.1.2.1 b.2.1.1.1.2.2.1 b.2.1.1.1.2.2.2.1 b.2.1.1.1.2.2.2.2.1 b.2.1.1.1.2.2.2.2.2.1 b.2.1.1.1.2.2.2.2.2.2.1 b.2.1.1.1.2.2.2.2.2.2.2.1 b.2.1.1.1.2.2.2.2.2.2.2.2.1 b.2.1.1.1.2.2.2.2.2.2.2.2.2.1 b.2.1.1.1.2.2.2.2.2.2.2.2.2.2.1 b.2.1.1.1.2.2.2.2.2.2.2.2.2.2.2.1 b.2.1.2.1.1 b.2.1.2.1.2.1 b.2.1.2.1.2.2.1 b.2.1.2.1.2.2.2.1 b.2.1.2.2.1.1.1 b.2.1.2.2.1.1.2.1 b.2.1.2.2.1.1.2.2.1 b.2.1.2.2.1.1.2.2.2.1 b.2.1.2.2.1.1.2.2.2.2.1 K).trans hr1⟩
def K_astrolabelaw25_ModePaths {ρ : Type} (g_astrolabelaw25_awake : Option Bool) (g_mode_Path : Int →
  Int →
    Bool →
      Bool →
        Nat →
          (Nat → Bool) →
            (Nat → Bool) →
              (Nat → Bool) →
                (Nat → Bool) →
                  (Nat → Bool) →
                    (Nat → Bool) → (Nat → Bool) → (Nat → Bool) → (Nat → Int) → (Nat → Int) → (Nat → Int) → Bool → Option (Nat × Nat × (Nat → Int) × (Nat → Int) × (Nat → Bool) × (Nat → Bool))) (g_mode_Step : Int → Int → Bool → Bool → Bool → Bool → Bool → Bool → Bool → Bool → Bool → Bool → Int → Int → Int → Option (Int × Int × Bool × Bool × Int × Int)) (g_mode_Good : Int → Int → Bool → Bool → Option Bool) (l_0 : ∀ {ρ : Type}, (Nat ×
  Bool ×
    Nat ×
      Int ×
        Int ×
          Bool ×
            Nat ×
              Nat ×
                (Nat → Bool) ×
                  (Nat → Bool) ×
                    (Nat → Bool) ×
                      (Nat → Bool) ×
                        (Nat → Bool) ×
                          (Nat → Bool) × (Nat → Bool) × (Nat → Bool) × (Nat → Int) × (Nat → Int) × (Nat → Int) × Int × Int × Bool × Bool × Nat × (Nat → Int) × (Nat → Int) × (Nat → Bool) × (Nat → Bool)) → ((Nat × (Nat → Bool) × (Nat → Bool) × (Nat → Bool) × (Nat → Bool) × (Nat → Bool) × (Nat → Bool) × (Nat → Bool) × (Nat → Bool) × (Nat → Int) × (Nat → Int) × (Nat → Int) ⊕
  Nat ×
    Bool ×
      Nat ×
        Int ×
          Int ×
            Bool ×
              Nat ×
                Int ×
                  Bool ×
                    Nat ×
                      (Nat → Bool) ×
                        (Nat → Bool) ×
                          (Nat → Bool) ×
                            (Nat → Bool) ×
                              (Nat → Bool) ×
                                (Nat → Bool) ×
                                  (Nat → Bool) × (Nat → Bool) × (Nat → Int) × (Nat → Int) × (Nat → Int) × Int × Int × Bool × Bool × Nat × (Nat → Int) × (Nat → Int) × (Nat → Bool) × (Nat → Bool)) → Option ρ) → Option ρ) (x0 : Int) (x1 : Int) (x2 : Bool) (x3 : Bool) (x4 : Nat) (x5 : Nat → Bool) (x6 : Nat → Bool) (x7 : Nat → Bool) (x8 : Nat → Bool) (x9 : Nat → Bool) (x10 : Nat → Bool) (x11 : Nat → Bool) (x12 : Nat → Bool) (x13 : Nat → Int) (x14 : Nat → Int) (x15 : Nat → Int) (w0 : Bool) (k : (Bool) → Option ρ) : Option ρ :=
  Option.bind g_astrolabelaw25_awake fun (d : Bool) =>
    bif !d then k false
    else
      bif decide (Int.ofNat x4 > 60) then k true
      else
        bif Nat.ble ((0 + x4) * 32) 140737488355328 then
          bif Nat.beq (0 + x4) (0 + x4) then
            Option.bind (g_mode_Path x0 x1 x2 x3 (0 + x4) x5 x6 x7 x8 x9 x10 x11 x12 x13 x14 x15 true) fun (d_1 : Nat × Nat × (Nat → Int) × (Nat → Int) × (Nat → Bool) × (Nat → Bool)) =>
              bif Int.ofNat d_1.1 != Int.ofNat x4 then k false
              else
                l_0
                  (x4, w0, d_1.1, 0, 0, !d, d_1.1, x4, x5, x6, x7, x8, x9, x10, x11, x12, x13, x14, x15, x0, x1, x2, x3, d_1.2.1, d_1.2.2.1, d_1.2.2.2.1, d_1.2.2.2.2.1,
                    d_1.2.2.2.2.2)
                  (Sum.elim
                    (fun (d : Nat × (Nat → Bool) × (Nat → Bool) × (Nat → Bool) × (Nat → Bool) × (Nat → Bool) × (Nat → Bool) × (Nat → Bool) × (Nat → Bool) × (Nat → Int) × (Nat → Int) × (Nat → Int)) =>
                      k false)
                    fun
                      (d :
                        Nat ×
                          Bool ×
                            Nat ×
                              Int ×
                                Int ×
                                  Bool ×
                                    Nat ×
                                      Int ×
                                        Bool ×
                                          Nat ×
                                            (Nat → Bool) ×
                                              (Nat → Bool) ×
                                                (Nat → Bool) ×
                                                  (Nat → Bool) ×
                                                    (Nat → Bool) ×
                                                      (Nat → Bool) ×
                                                        (Nat → Bool) ×
                                                          (Nat → Bool) ×
                                                            (Nat → Int) × (Nat → Int) × (Nat → Int) × Int × Int × Bool × Bool × Nat × (Nat → Int) × (Nat → Int) × (Nat → Bool) × (Nat → Bool)) =>
                    k true)
          else none
        else none
def f_astrolabelaw25_ModePaths (x0 : Int) (x1 : Int) (x2 : Bool) (x3 : Bool) (x4 : Nat) (x5 : Nat → Bool) (x6 : Nat → Bool) (x7 : Nat → Bool) (x8 : Nat → Bool) (x9 : Nat → Bool) (x10 : Nat → Bool) (x11 : Nat → Bool) (x12 : Nat → Bool) (x13 : Nat → Int) (x14 : Nat → Int) (x15 : Nat → Int) (w0 : Bool) : Option (Bool) := K_astrolabelaw25_ModePaths f_astrolabelaw25_awake f_mode_Path f_mode_Step f_mode_Good (@L_astrolabelaw25_ModePaths_0) x0 x1 x2 x3 x4 x5 x6 x7 x8 x9 x10 x11 x12 x13 x14 x15 w0 some
section
open Go.Ab.Rdr
def QA_astrolabelaw25_ModePaths := ((pair (cons (ar (ra (cons (gc (cf (fi .i64 hole))) (cons (gc (cf (fi .i64 hole))) (cons (gc (cf (fb hole))) (cons (gc (cf (fb hole))) nil)))))) (cons (ar (rc (csl (nat 0) (ok' (nat 0)) (szs hole) (nat 11) hole))) nil)) (cons (cons (ga (szs hole) (cons (kb hole) (cons (kb hole) (cons (kb hole) (cons (kb hole) (cons (kb hole) (cons (kb hole) (cons (kb hole) (cons (kb hole) (cons (ki .i64 hole) (cons (ki .i64 hole) (cons (ki .i64 hole) nil)))))))))))) nil) nil)) : Rdr (List AV × List Blk) _)
end
def F0_astrolabelaw25_ModePaths (f : (Int) → (Int) → (Bool) → (Bool) → (Nat) → (Nat → Bool) → (Nat → Bool) → (Nat → Bool) → (Nat → Bool) → (Nat → Bool) → (Nat → Bool) → (Nat → Bool) → (Nat → Bool) → (Nat → Int) → (Nat → Int) → (Nat → Int) → (Bool) → Option (Bool)) : Sem1 := fun args h => match (QA_astrolabelaw25_ModePaths).rd (args, h) with
  | some b => .test (Nat.beq b.2.1.1.1 b.1.2.1.2.2.1) (.opt (f b.1.1.1 b.1.1.2.1 b.1.1.2.2.1 b.1.1.2.2.2.1 b.1.2.1.2.2.1 b.2.1.1.2.1 b.2.1.1.2.2.1 b.2.1.1.2.2.2.1 b.2.1.1.2.2.2.2.1 b.2.1.1.2.2.2.2.2.1 b.2.1.1.2.2.2.2.2.2.1 b.2.1.1.2.2.2.2.2.2.2.1 b.2.1.1.2.2.2.2.2.2.2.2.1 b.2.1.1.2.2.2.2.2.2.2.2.2.1 b.2.1.1.2.2.2.2.2.2.2.2.2.2.1 b.2.1.1.2.2.2.2.2.2.2.2.2.2.2.1 b.1.2.1.2.2.2.2) fun (d : Bool) => .leaf (Res.mk (AV.r (RV.c (CV.f (FV.b d)))) [Ch.keep] [])) .fail
  | none => .fail
def F_astrolabelaw25_ModePaths (f : (Int) → (Int) → (Bool) → (Bool) → (Nat) → (Nat → Bool) → (Nat → Bool) → (Nat → Bool) → (Nat → Bool) → (Nat → Bool) → (Nat → Bool) → (Nat → Bool) → (Nat → Bool) → (Nat → Int) → (Nat → Int) → (Nat → Int) → (Bool) → Option (Bool)) : Sem1 := (nilF 1 [.b, .b, .b, .b, .b, .b, .b, .b, .i .i64, .i .i64, .i .i64] (F0_astrolabelaw25_ModePaths f))
theorem d_astrolabelaw25_ModePaths (g_astrolabelaw25_awake : Option Bool) (g_mode_Path : Int →
  Int →
    Bool →
      Bool →
        Nat →
          (Nat → Bool) →
            (Nat → Bool) →
              (Nat → Bool) →
                (Nat → Bool) →
                  (Nat → Bool) →
                    (Nat → Bool) → (Nat → Bool) → (Nat → Bool) → (Nat → Int) → (Nat → Int) → (Nat → Int) → Bool → Option (Nat × Nat × (Nat → Int) × (Nat → Int) × (Nat → Bool) × (Nat → Bool))) (g_mode_Step : Int → Int → Bool → Bool → Bool → Bool → Bool → Bool → Bool → Bool → Bool → Bool → Int → Int → Int → Option (Int × Int × Bool × Bool × Int × Int)) (g_mode_Good : Int → Int → Bool → Bool → Option Bool) (l_0 : ∀ {ρ : Type}, (Nat ×
  Bool ×
    Nat ×
      Int ×
        Int ×
          Bool ×
            Nat ×
              Nat ×
                (Nat → Bool) ×
                  (Nat → Bool) ×
                    (Nat → Bool) ×
                      (Nat → Bool) ×
                        (Nat → Bool) ×
                          (Nat → Bool) × (Nat → Bool) × (Nat → Bool) × (Nat → Int) × (Nat → Int) × (Nat → Int) × Int × Int × Bool × Bool × Nat × (Nat → Int) × (Nat → Int) × (Nat → Bool) × (Nat → Bool)) → ((Nat × (Nat → Bool) × (Nat → Bool) × (Nat → Bool) × (Nat → Bool) × (Nat → Bool) × (Nat → Bool) × (Nat → Bool) × (Nat → Bool) × (Nat → Int) × (Nat → Int) × (Nat → Int) ⊕
  Nat ×
    Bool ×
      Nat ×
        Int ×
          Int ×
            Bool ×
              Nat ×
                Int ×
                  Bool ×
                    Nat ×
                      (Nat → Bool) ×
                        (Nat → Bool) ×
                          (Nat → Bool) ×
                            (Nat → Bool) ×
                              (Nat → Bool) ×
                                (Nat → Bool) ×
                                  (Nat → Bool) × (Nat → Bool) × (Nat → Int) × (Nat → Int) × (Nat → Int) × Int × Int × Bool × Bool × Nat × (Nat → Int) × (Nat → Int) × (Nat → Bool) × (Nat → Bool)) → Option ρ) → Option ρ) (x0 : Int) (x1 : Int) (x2 : Bool) (x3 : Bool) (x4 : Nat) (x5 : Nat → Bool) (x6 : Nat → Bool) (x7 : Nat → Bool) (x8 : Nat → Bool) (x9 : Nat → Bool) (x10 : Nat → Bool) (x11 : Nat → Bool) (x12 : Nat → Bool) (x13 : Nat → Int) (x14 : Nat → Int) (x15 : Nat → Int) (w0 : Bool) : den Try.prog (envOf [(9, F_astrolabelaw25_awake g_astrolabelaw25_awake), (12, F_mode_Path g_mode_Path), (10, F_mode_Step g_mode_Step), (13, F_mode_Good g_mode_Good)]) ⟨[⟨10, [0, 3, 4, 8, 9, 10, 12, 13, 14, 15, 16, 17, 18, 19, 21, 22, 23, 24, 25, 26, 27, 28, 29, 31, 32, 33, 34, 35, 36, 37, 38, 39, 40, 41, 42, 43, 44, 45, 46, 50, 51, 59, 60, 69, 70, 78, 79, 80, 81, 30, 47, 48, 49, 52, 53, 54, 55, 56, 57, 58, 61, 62, 63, 64, 65, 68, 71, 72, 73, 74, 75, 76, 77, 66, 67], []⟩], [⟨10, 1, @R_astrolabelaw25_ModePaths_0 (@l_0)⟩], [], [], (some ⟨0, [0, 1, 2, 3, 5, 6, 7, 8, 9, 10, 11, 12, 13, 14, 15, 16, 17, 18, 19, 20, 21, 22, 23, 24, 25, 26, 27, 28, 29, 30, 31, 32, 33, 34, 35, 36, 37, 38, 39, 40, 41, 42, 43, 44, 45, 46, 47, 48, 49, 50, 51, 52, 53, 54, 55, 56, 57, 58, 59, 60, 61, 62, 63, 64, 65, 66, 67, 68, 69, 70, 71, 72, 73, 74, 75, 76, 77, 78, 79, 80, 81], []⟩)⟩ 200 5 [.r (.agg [.c (.f (.i .i64 x0)), .c (.f (.i .i64 x1)), .c (.f (.b x2)), .c (.f (.b x3))]), .r (.c (.sl 0 (.k 0) (.s x4) 11 w0))] [[.a (.s x4) [.b x5, .b x6, .b x7, .b x8, .b x9, .b x10, .b x11, .b x12, .i .i64 x13, .i .i64 x14, .i .i64 x15]]] =
    K_astrolabelaw25_ModePaths g_astrolabelaw25_awake g_mode_Path g_mode_Step g_mode_Good (@l_0) x0 x1 x2 x3 x4 x5 x6 x7 x8 x9 x10 x11 x12 x13 x14 x15 w0 (fun (d : Bool) => some (Res.mk (AV.r (RV.c (CV.f (FV.b d)))) [Ch.keep] [])) := by kernel_rfl
theorem m_astrolabelaw25_ModePaths {ρ σ : Type} (q : ρ → Option σ) (g_astrolabelaw25_awake : Option Bool) (g_mode_Path : Int →
  Int →
    Bool →
      Bool →
        Nat →
          (Nat → Bool) →
            (Nat → Bool) →
              (Nat → Bool) →
                (Nat → Bool) →
                  (Nat → Bool) →
                    (Nat → Bool) → (Nat → Bool) → (Nat → Bool) → (Nat → Int) → (Nat → Int) → (Nat → Int) → Bool → Option (Nat × Nat × (Nat → Int) × (Nat → Int) × (Nat → Bool) × (Nat → Bool))) (g_mode_Step : Int → Int → Bool → Bool → Bool → Bool → Bool → Bool → Bool → Bool → Bool → Bool → Int → Int → Int → Option (Int × Int × Bool × Bool × Int × Int)) (g_mode_Good : Int → Int → Bool → Bool → Option Bool) (l_0 : ∀ {ρ : Type}, (Nat ×
  Bool ×
    Nat ×
      Int ×
        Int ×
          Bool ×
            Nat ×
              Nat ×
                (Nat → Bool) ×
                  (Nat → Bool) ×
                    (Nat → Bool) ×
                      (Nat → Bool) ×
                        (Nat → Bool) ×
                          (Nat → Bool) × (Nat → Bool) × (Nat → Bool) × (Nat → Int) × (Nat → Int) × (Nat → Int) × Int × Int × Bool × Bool × Nat × (Nat → Int) × (Nat → Int) × (Nat → Bool) × (Nat → Bool)) → ((Nat × (Nat → Bool) × (Nat → Bool) × (Nat → Bool) × (Nat → Bool) × (Nat → Bool) × (Nat → Bool) × (Nat → Bool) × (Nat → Bool) × (Nat → Int) × (Nat → Int) × (Nat → Int) ⊕
  Nat ×
    Bool ×
      Nat ×
        Int ×
          Int ×
            Bool ×
              Nat ×
                Int ×
                  Bool ×
                    Nat ×
                      (Nat → Bool) ×
                        (Nat → Bool) ×
                          (Nat → Bool) ×
                            (Nat → Bool) ×
                              (Nat → Bool) ×
                                (Nat → Bool) ×
                                  (Nat → Bool) × (Nat → Bool) × (Nat → Int) × (Nat → Int) × (Nat → Int) × Int × Int × Bool × Bool × Nat × (Nat → Int) × (Nat → Int) × (Nat → Bool) × (Nat → Bool)) → Option ρ) → Option ρ) (hl_0 : ∀ {ρ σ : Type} (q : ρ → Option σ) (d : Nat ×
  Bool ×
    Nat ×
      Int ×
        Int ×
          Bool ×
            Nat ×
              Nat ×
                (Nat → Bool) ×
                  (Nat → Bool) ×
                    (Nat → Bool) ×
                      (Nat → Bool) ×
                        (Nat → Bool) ×
                          (Nat → Bool) × (Nat → Bool) × (Nat → Bool) × (Nat → Int) × (Nat → Int) × (Nat → Int) × Int × Int × Bool × Bool × Nat × (Nat → Int) × (Nat → Int) × (Nat → Bool) × (Nat → Bool)) (k : (Nat × (Nat → Bool) × (Nat → Bool) × (Nat → Bool) × (Nat → Bool) × (Nat → Bool) × (Nat → Bool) × (Nat → Bool) × (Nat → Bool) × (Nat → Int) × (Nat → Int) × (Nat → Int) ⊕
  Nat ×
    Bool ×
      Nat ×
        Int ×
          Int ×
            Bool ×
              Nat ×
                Int ×
                  Bool ×
                    Nat ×
                      (Nat → Bool) ×
                        (Nat → Bool) ×
                          (Nat → Bool) ×
                            (Nat → Bool) ×
                              (Nat → Bool) ×
                                (Nat → Bool) ×
                                  (Nat → Bool) × (Nat → Bool) × (Nat → Int) × (Nat → Int) × (Nat → Int) × Int × Int × Bool × Bool × Nat × (Nat → Int) × (Nat → Int) × (Nat → Bool) × (Nat → Bool)) → Option ρ), (l_0 d k).bind q = l_0 d fun x => (k x).bind q) (x0 : Int) (x1 : Int) (x2 : Bool) (x3 : Bool) (x4 : Nat) (x5 : Nat → Bool) (x6 : Nat → Bool) (x7 : Nat → Bool) (x8 : Nat → Bool) (x9 : Nat → Bool) (x10 : Nat → Bool) (x11 : Nat → Bool) (x12 : Nat → Bool) (x13 : Nat → Int) (x14 : Nat → Int) (x15 : Nat → Int) (w0 : Bool) (k : (Bool) → Option ρ) : (K_astrolabelaw25_ModePaths g_astrolabelaw25_awake g_mode_Path g_mode_Step g_mode_Good (@l_0) x0 x1 x2 x3 x4 x5 x6 x7 x8 x9 x10 x11 x12 x13 x14 x15 w0 k).bind q = K_astrolabelaw25_ModePaths g_astrolabelaw25_awake g_mode_Path g_mode_Step g_mode_Good (@l_0) x0 x1 x2 x3 x4 x5 x6 x7 x8 x9 x10 x11 x12 x13 x14 x15 w0 (fun d => (k d).bind q) := by
  simp only [K_astrolabelaw25_ModePaths, bnd_cond, bnd_bind, bnd_none, bnd_sum, hl_0]
theorem qa_astrolabelaw25_ModePaths : ∀ b, (QA_astrolabelaw25_ModePaths).em b = ([.r (.agg [.c (.f (.i .i64 b.1.1.1)), .c (.f (.i .i64 b.1.1.2.1)), .c (.f (.b b.1.1.2.2.1)), .c (.f (.b b.1.1.2.2.2.1))]), .r (.c (.sl 0 (.k 0) (.s b.1.2.1.2.2.1) 11 b.1.2.1.2.2.2.2))], [[.a (.s b.2.1.1.1) [.b b.2.1.1.2.1, .b b.2.1.1.2.2.1, .b b.2.1.1.2.2.2.1, .b b.2.1.1.2.2.2.2.1, .b b.2.1.1.2.2.2.2.2.1, .b b.2.1.1.2.2.2.2.2.2.1, .b b.2.1.1.2.2.2.2.2.2.2.1, .b b.2.1.1.2.2.2.2.2.2.2.2.1, .i .i64 b.2.1.1.2.2.2.2.2.2.2.2.2.1, .i .i64 b.2.1.1.2.2.2.2.2.2.2.2.2.2.1, .i .i64 b.2.1.1.2.2.2.2.2.2.2.2.2.2.2.1]]]) := fun b => by kernel_rfl
theorem e_astrolabelaw25_ModePaths {f : (Int) → (Int) → (Bool) → (Bool) → (Nat) → (Nat → Bool) → (Nat → Bool) → (Nat → Bool) → (Nat → Bool) → (Nat → Bool) → (Nat → Bool) → (Nat → Bool) → (Nat → Bool) → (Nat → Int) → (Nat → Int) → (Nat → Int) → (Bool) → Option (Bool)} {args : List AV} {h : List Blk} {r : Res} (hr : (F0_astrolabelaw25_ModePaths f args h).eval = some r) : ∃ x0 x1 x2 x3 x4 x5 x6 x7 x8 x9 x10 x11 x12 x13 x14 x15 w0, args = [.r (.agg [.c (.f (.i .i64 x0)), .c (.f (.i .i64 x1)), .c (.f (.b x2)), .c (.f (.b x3))]), .r (.c (.sl 0 (.k 0) (.s x4) 11 w0))] ∧ h = [[.a (.s x4) [.b x5, .b x6, .b x7, .b x8, .b x9, .b x10, .b x11, .b x12, .i .i64 x13, .i .i64 x14, .i .i64 x15]]] ∧ (f x0 x1 x2 x3 x4 x5 x6 x7 x8 x9 x10 x11 x12 x13 x14 x15 w0).bind (fun (d : Bool) => some (Res.mk (AV.r (RV.c (CV.f (FV.b d)))) [Ch.keep] [])) = some r := by
  unfold F0_astrolabelaw25_ModePaths at hr
  split at hr
  · rename_i b hb
    have e := ((QA_astrolabelaw25_ModePaths).ok _ _ hb).trans (qa_astrolabelaw25_ModePaths b)
    obtain ⟨he, hr1⟩ := test_eval hr
    clear hr
    have hr := hr1
    clear hr1
    rw [Nat.eq_of_beq_eq_true he] at e
    clear he
    rw [opt_eval2] at hr
    exact ⟨b.1.1.1, b.1.1.2.1, b.1.1.2.2.1, b.1.1.2.2.2.1, b.1.2.1.2.2.1, b.2.1.1.2.1, b.2.1.1.2.2.1, b.2.1.1.2.2.2.1, b.2.1.1.2.2.2.2.1, b.2.1.1.2.2.2.2.2.1, b.2.1.1.2.2.2.2.2.2.1, b.2.1.1.2.2.2.2.2.2.2.1, b.2.1.1.2.2.2.2.2.2.2.2.1, b.2.1.1.2.2.2.2.2.2.2.2.2.1, b.2.1.1.2.2.2.2.2.2.2.2.2.2.1, b.2.1.1.2.2.2.2.2.2.2.2.2.2.2.1, b.1.2.1.2.2.2.2, (Prod.mk.inj e).1, (Prod.mk.inj e).2, hr⟩
  · cases hr
theorem n_astrolabelaw25_ModePaths {σ : Type} (q : (Bool) → Option σ) (x0 : Int) (x1 : Int) (x2 : Bool) (x3 : Bool) (x4 : Nat) (x5 : Nat → Bool) (x6 : Nat → Bool) (x7 : Nat → Bool) (x8 : Nat → Bool) (x9 : Nat → Bool) (x10 : Nat → Bool) (x11 : Nat → Bool) (x12 : Nat → Bool) (x13 : Nat → Int) (x14 : Nat → Int) (x15 : Nat → Int) (w0 : Bool) : (f_astrolabelaw25_ModePaths x0 x1 x2 x3 x4 x5 x6 x7 x8 x9 x10 x11 x12 x13 x14 x15 w0).bind q = K_astrolabelaw25_ModePaths f_astrolabelaw25_awake f_mode_Path f_mode_Step f_mode_Good (@L_astrolabelaw25_ModePaths_0) x0 x1 x2 x3 x4 x5 x6 x7 x8 x9 x10 x11 x12 x13 x14 x15 w0 q := by
  unfold f_astrolabelaw25_ModePaths
  exact m_astrolabelaw25_ModePaths q f_astrolabelaw25_awake f_mode_Path f_mode_Step f_mode_Good (@L_astrolabelaw25_ModePaths_0) (fun q d k => mL_astrolabelaw25_ModePaths_0 q d k) x0 x1 x2 x3 x4 x5 x6 x7 x8 x9 x10 x11 x12 x13 x14 x15 w0 some
theorem s_astrolabelaw25_ModePaths : Sound Try.prog 5 (F_astrolabelaw25_ModePaths f_astrolabelaw25_ModePaths) :=
  Sound.nil 1 [.b, .b, .b, .b, .b, .b, .b, .b, .i .i64, .i .i64, .i .i64] <| (inl_sums (l := [(9, F_astrolabelaw25_awake f_astrolabelaw25_awake), (12, F_mode_Path f_mode_Path), (10, F_mode_Step f_mode_Step), (13, F_mode_Good f_mode_Good)]) (.cons s_astrolabelaw25_awake (.cons s_mode_Path (.cons s_mode_Step (.cons s_mode_Good (.nil _))))) mixed (hs := ⟨[⟨10, [0, 3, 4, 8, 9, 10, 12, 13, 14, 15, 16, 17, 18, 19, 21, 22, 23, 24, 25, 26, 27, 28, 29, 31, 32, 33, 34, 35, 36, 37, 38, 39, 40, 41, 42, 43, 44, 45, 46, 50, 51, 59, 60, 69, 70, 78, 79, 80, 81, 30, 47, 48, 49, 52, 53, 54, 55, 56, 57, 58, 61, 62, 63, 64, 65, 68, 71, 72, 73, 74, 75, 76, 77, 66, 67], []⟩], [⟨10, 1, @R_astrolabelaw25_ModePaths_0 (@L_astrolabelaw25_ModePaths_0)⟩], [], [], (some ⟨0, [0, 1, 2, 3, 5, 6, 7, 8, 9, 10, 11, 12, 13, 14, 15, 16, 17, 18, 19, 20, 21, 22, 23, 24, 25, 26, 27, 28, 29, 30, 31, 32, 33, 34, 35, 36, 37, 38, 39, 40, 41, 42, 43, 44, 45, 46, 47, 48, 49, 50, 51, 52, 53, 54, 55, 56, 57, 58, 59, 60, 61, 62, 63, 64, 65, 66, 67, 68, 69, 70, 71, 72, 73, 74, 75, 76, 77, 78, 79, 80, 81], []⟩)⟩) (lf := 200) (Sums.by (l := [loopIn Try.prog 5 10]) (lj := []) (by kernel_rfl) ⟨so_astrolabelaw25_ModePaths_0, trivial⟩ (by kernel_rfl) trivial) (by kernel_rfl)).by (F := F0_astrolabelaw25_ModePaths f_astrolabelaw25_ModePaths) fun args b r hr => by
  obtain ⟨x0, x1, x2, x3, x4, x5, x6, x7, x8, x9, x10, x11, x12, x13, x14, x15, w0, rfl, rfl, hr1⟩ := e_astrolabelaw25_ModePaths hr
  exact inl_eval ((d_astrolabelaw25_ModePaths f_astrolabelaw25_awake f_mode_Path f_mode_Step f_mode_Good (@L_astrolabelaw25_ModePaths_0) x0 x1 x2 x3 x4 x5 x6 x7 x8 x9 x10 x11 x12 x13 x14 x15 w0).trans ((n_astrolabelaw25_ModePaths (fun (d : Bool) => some (Res.mk (AV.r (RV.c (CV.f (FV.b d)))) [Ch.keep] [])) x0 x1 x2 x3 x4 x5 x6 x7 x8 x9 x10 x11 x12 x13 x14 x15 w0).symm.trans hr1))

end Go.Proofs.Ytgbgdihahmecoaa
