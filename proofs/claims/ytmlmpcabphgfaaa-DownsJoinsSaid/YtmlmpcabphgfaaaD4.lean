/-
  Contracts by plain functions: astrolabelaw14.DownsJoins
-/
import Derived.Test.YtmlmpcabphgfaaaD2
set_option maxRecDepth 100000
set_option maxHeartbeats 4000000
set_option linter.unusedVariables false
namespace Go.Proofs.Ytmlmpcabphgfaaa
open Go.Ab
def S_astrolabelaw14_DownsJoins_0 {ρ : Type} (g_astrolabelaw14_awake : Option Bool) (g_downs_New : Int → Option (Unit ⊕ Int)) (g___downs_Sampler__Put : Int →
  Int →
    Int →
      Int →
        Int →
          Int →
            Int →
              Int →
                Int →
                  Int →
                    Int →
                      Int →
                        Int →
                          Int → Int → Int → Int → Bool → Bool → Option (Int × Int × Int × Int × Int × Int × Int × Int × Bool × Int × Int × Int × Int × Int × Int × Int × Int × Int × Int × Bool × Bool)) (g_downs_Join : Nat → Bool → (Nat → Int) → (Nat → Int) → (Nat → Int) → (Nat → Int) → (Nat → Int) → (Nat → Int) → (Nat → Int) → (Nat → Int) → Bool → Option (Int × Int × Int × Int × Int × Int × Int × Int × Int × Bool)) (g___downs_Sampler__Pending : Int → Int → Int → Int → Int → Int → Int → Int → Int → Bool → Option Int)  (x0 : Nat) (x1 : Bool) (x2 : Nat) (x3 : Int) (x4 : Int) (x5 : Int) (x6 : Nat) (x7 : Nat → Int) (x8 : Nat → Int) (x9 : Nat → Int) (x10 : Nat → Int) (x11 : Nat → Int) (x12 : Nat → Int) (x13 : Nat → Int) (x14 : Nat → Int) (x15 : Int) (x16 : Int) (x17 : Int) (x18 : Int) (x19 : Int) (x20 : Int) (x21 : Int) (x22 : Int) (x23 : Int) (x24 : Bool) (x25 : Bool) (x26 : Nat) (x27 : Nat → Int) (x28 : Nat → Int) (x29 : Nat → Int) (x30 : Nat → Int) (x31 : Nat → Int) (x32 : Nat → Int) (x33 : Nat → Int) (x34 : Nat → Int) (c : (Nat ×
  Bool ×
    Nat ×
      Int ×
        Int ×
          Int ×
            Nat ×
              (Nat → Int) ×
                (Nat → Int) ×
                  (Nat → Int) ×
                    (Nat → Int) ×
                      (Nat → Int) ×
                        (Nat → Int) ×
                          (Nat → Int) ×
                            (Nat → Int) ×
                              Int ×
                                Int ×
                                  Int ×
                                    Int ×
                                      Int × Int × Int × Int × Int × Bool × Bool × Nat × (Nat → Int) × (Nat → Int) × (Nat → Int) × (Nat → Int) × (Nat → Int) × (Nat → Int) × (Nat → Int) × (Nat → Int)) → Option ρ) (x : (Nat × (Nat → Int) × (Nat → Int) × (Nat → Int) × (Nat → Int) × (Nat → Int) × (Nat → Int) × (Nat → Int) × (Nat → Int) ⊕
  Nat ×
    Bool ×
      Nat ×
        Int ×
          Int ×
            Int ×
              Int ×
                Bool ×
                  Nat ×
                    (Nat → Int) ×
                      (Nat → Int) ×
                        (Nat → Int) ×
                          (Nat → Int) ×
                            (Nat → Int) ×
                              (Nat → Int) ×
                                (Nat → Int) ×
                                  (Nat → Int) ×
                                    Int ×
                                      Int ×
                                        Int ×
                                          Int ×
                                            Int ×
                                              Int × Int × Int × Int × Bool × Bool × Nat × (Nat → Int) × (Nat → Int) × (Nat → Int) × (Nat → Int) × (Nat → Int) × (Nat → Int) × (Nat → Int) × (Nat → Int)) → Option ρ) : Option ρ :=
  bif decide (x5 < Int.ofNat x0) then
    bif inR x5 x0 then
      Option.bind
        (g___downs_Sampler__Put (x7 (Int.toNat x5)) (x8 (Int.toNat x5)) (x9 (Int.toNat x5)) (x10 (Int.toNat x5)) (x11 (Int.toNat x5)) (x12 (Int.toNat x5)) (x13 (Int.toNat x5)) (x14 (Int.toNat x5)) x15
          x16 x17 x18 x19 x20 x21 x22 x23 x24 x25)
        fun (d : Int × Int × Int × Int × Int × Int × Int × Int × Bool × Int × Int × Int × Int × Int × Int × Int × Int × Int × Int × Bool × Bool) =>
        bif d.2.2.2.2.2.2.2.2.2.1 != 0 then
          c
            (x0, x1, x2, x3, x4, IntKind.wrap IntKind.i64 (x5 + 1), x6, x7, x8, x9, x10, x11, x12, x13, x14, d.2.2.2.2.2.2.2.2.2.2.1,
              d.2.2.2.2.2.2.2.2.2.2.2.1, d.2.2.2.2.2.2.2.2.2.2.2.2.1, d.2.2.2.2.2.2.2.2.2.2.2.2.2.1,
              d.2.2.2.2.2.2.2.2.2.2.2.2.2.2.1, d.2.2.2.2.2.2.2.2.2.2.2.2.2.2.2.1,
              d.2.2.2.2.2.2.2.2.2.2.2.2.2.2.2.2.1, d.2.2.2.2.2.2.2.2.2.2.2.2.2.2.2.2.2.1,
              d.2.2.2.2.2.2.2.2.2.2.2.2.2.2.2.2.2.2.1, d.2.2.2.2.2.2.2.2.2.2.2.2.2.2.2.2.2.2.2.1,
              d.2.2.2.2.2.2.2.2.2.2.2.2.2.2.2.2.2.2.2.2, x26, x27, x28, x29, x30, x31, x32, x33, x34)
        else
          bif inR x5 x0 then
            bif Nat.ble ((x2 + 1) * 64) 140737488355328 then
              bif inR x5 x0 then
                bif d.2.2.2.2.2.2.2.2.1 then
                  bif Nat.beq (x2 + 1) (x2 + 1) then
                    Option.bind
                      (g_downs_Join (x2 + 1) d.2.2.2.2.2.2.2.2.2.2.2.2.2.2.2.2.2.2.2.2 (fun (j : Nat) => bif Nat.beq j x2 then x7 (Int.toNat x5) else x27 j)
                        (fun (j : Nat) => bif Nat.beq j x2 then x8 (Int.toNat x5) else x28 j) (fun (j : Nat) => bif Nat.beq j x2 then x9 (Int.toNat x5) else x29 j)
                        (fun (j : Nat) => bif Nat.beq j x2 then x10 (Int.toNat x5) else x30 j) (fun (j : Nat) => bif Nat.beq j x2 then x11 (Int.toNat x5) else x31 j)
                        (fun (j : Nat) => bif Nat.beq j x2 then x12 (Int.toNat x5) else x32 j) (fun (j : Nat) => bif Nat.beq j x2 then x13 (Int.toNat x5) else x33 j)
                        (fun (j : Nat) => bif Nat.beq j x2 then x14 (Int.toNat x5) else x34 j) true)
                      fun (d_1 : Int × Int × Int × Int × Int × Int × Int × Int × Int × Bool) =>
                      bif d_1.2.2.2.2.2.2.2.2.1 != 0 then x (Sum.inl (x6, x7, x8, x9, x10, x11, x12, x13, x14))
                      else
                        bif
                            !(d.1 == d_1.1 &&
                                (d.2.1 == d_1.2.1 &&
                                  (d.2.2.1 == d_1.2.2.1 && (d.2.2.2.1 == d_1.2.2.2.1 && (d.2.2.2.2.1 == d_1.2.2.2.2.1 && true)) &&
                                    (d.2.2.2.2.2.1 == d_1.2.2.2.2.2.1 &&
                                        (d.2.2.2.2.2.2.1 == d_1.2.2.2.2.2.2.1 && (d.2.2.2.2.2.2.2.1 == d_1.2.2.2.2.2.2.2.1 && true)) &&
                                      true)))) then
                          x (Sum.inl (x6, x7, x8, x9, x10, x11, x12, x13, x14))
                        else
                          c
                            (x0, x1, 0, IntKind.wrap IntKind.i64 (x3 + x8 (Int.toNat x5)), IntKind.wrap IntKind.i64 (x4 + d.2.1), IntKind.wrap IntKind.i64 (x5 + 1), x6, x7, x8, x9, x10, x11, x12,
                              x13, x14, d.2.2.2.2.2.2.2.2.2.2.1, d.2.2.2.2.2.2.2.2.2.2.2.1, d.2.2.2.2.2.2.2.2.2.2.2.2.1,
                              d.2.2.2.2.2.2.2.2.2.2.2.2.2.1, d.2.2.2.2.2.2.2.2.2.2.2.2.2.2.1,
                              d.2.2.2.2.2.2.2.2.2.2.2.2.2.2.2.1, d.2.2.2.2.2.2.2.2.2.2.2.2.2.2.2.2.1,
                              d.2.2.2.2.2.2.2.2.2.2.2.2.2.2.2.2.2.1, d.2.2.2.2.2.2.2.2.2.2.2.2.2.2.2.2.2.2.1,
                              d.2.2.2.2.2.2.2.2.2.2.2.2.2.2.2.2.2.2.2.1, d_1.2.2.2.2.2.2.2.2.2, 0, fun (x : Nat) => 0, fun (x : Nat) => 0,
                              fun (x : Nat) => 0, fun (x : Nat) => 0, fun (x : Nat) => 0, fun (x : Nat) => 0, fun (x : Nat) => 0, fun (x : Nat) => 0)
                  else none
                else
                  c
                    (x0, x1, x2 + 1, IntKind.wrap IntKind.i64 (x3 + x8 (Int.toNat x5)), x4, IntKind.wrap IntKind.i64 (x5 + 1), x6, x7, x8, x9, x10, x11, x12, x13, x14,
                      d.2.2.2.2.2.2.2.2.2.2.1, d.2.2.2.2.2.2.2.2.2.2.2.1, d.2.2.2.2.2.2.2.2.2.2.2.2.1,
                      d.2.2.2.2.2.2.2.2.2.2.2.2.2.1, d.2.2.2.2.2.2.2.2.2.2.2.2.2.2.1,
                      d.2.2.2.2.2.2.2.2.2.2.2.2.2.2.2.1, d.2.2.2.2.2.2.2.2.2.2.2.2.2.2.2.2.1,
                      d.2.2.2.2.2.2.2.2.2.2.2.2.2.2.2.2.2.1, d.2.2.2.2.2.2.2.2.2.2.2.2.2.2.2.2.2.2.1,
                      d.2.2.2.2.2.2.2.2.2.2.2.2.2.2.2.2.2.2.2.1, d.2.2.2.2.2.2.2.2.2.2.2.2.2.2.2.2.2.2.2.2, x2 + 1,
                      fun (j : Nat) => bif Nat.beq j x2 then x7 (Int.toNat x5) else x27 j, fun (j : Nat) => bif Nat.beq j x2 then x8 (Int.toNat x5) else x28 j, fun (j : Nat) =>
                      bif Nat.beq j x2 then x9 (Int.toNat x5) else x29 j, fun (j : Nat) => bif Nat.beq j x2 then x10 (Int.toNat x5) else x30 j, fun (j : Nat) =>
                      bif Nat.beq j x2 then x11 (Int.toNat x5) else x31 j, fun (j : Nat) => bif Nat.beq j x2 then x12 (Int.toNat x5) else x32 j, fun (j : Nat) =>
                      bif Nat.beq j x2 then x13 (Int.toNat x5) else x33 j, fun (j : Nat) => bif Nat.beq j x2 then x14 (Int.toNat x5) else x34 j)
              else none
            else none
          else none
    else none
  else
    x
      (Sum.inr
        (x0, x1, x2, x3, x4, x5, Int.ofNat x0, decide (x5 < Int.ofNat x0), x6, x7, x8, x9, x10, x11, x12, x13, x14, x15, x16, x17, x18, x19, x20, x21, x22, x23, x24, x25, x26, x27, x28, x29, x30, x31,
          x32, x33, x34))
section
open Go.Ab.Rdr
def Q_astrolabelaw14_DownsJoins_0 := (st (cons aund (cons (ar (rc (csl (nat 0) (ok' (nat 0)) (szs hole) (nat 8) hole))) (cons (atup nil) (cons aund (cons aund (cons (ar (rc (cptr (nat 1) (ok' (nat 0)) (nat 10)))) (cons aund (cons (ar (rc (cptr (nat 2) (ok' (nat 0)) (nat 1)))) (cons (ar (rc (csl (nat 3) (ok' (nat 0)) (szs hole) (nat 8) (bool true)))) (cons (ar (rc (cf (fi .i64 hole)))) (cons (ar (rc (cf (fi .i64 hole)))) (cons (ar (rc (cf (fi .i64 hole)))) (cons aund (cons aund (cons aund (cons aund (cons aund (cons aund (cons aund (cons aund (cons aund (cons aund (cons aund (cons aund (cons aund (cons aund (cons aund (cons aund (cons aund (cons aund (cons aund (cons aund (cons aund (cons aund (cons aund (cons aund (cons aund (cons aund (cons aund (cons aund (cons aund (cons aund (cons aund (cons aund (cons aund (cons aund (cons aund (cons aund (cons aund (cons aund (cons aund (cons aund (cons aund (cons aund (cons aund (cons aund (cons aund (cons aund (cons aund (cons aund (cons aund (cons aund (cons aund (cons aund (cons aund (cons aund (cons aund (cons aund (cons aund (cons aund (cons aund (cons aund (cons aund (cons aund (cons aund (cons aund (cons aund (cons aund (cons aund (cons aund (cons aund (cons aund (cons aund (cons aund (cons aund (cons aund (cons aund (cons aund (cons aund (cons aund nil)))))))))))))))))))))))))))))))))))))))))))))))))))))))))))))))))))))))))))))))))))))))))) (cons (some' (cons (ga (szs hole) (cons (ki .i64 hole) (cons (ki .i64 hole) (cons (ki .i64 hole) (cons (ki .i64 hole) (cons (ki .i64 hole) (cons (ki .i64 hole) (cons (ki .i64 hole) (cons (ki .i64 hole) nil))))))))) nil)) (cons (some' (cons (gc (cf (fi .i64 hole))) (cons (gc (cf (fi .i64 hole))) (cons (gc (cf (fi .i64 hole))) (cons (gc (cf (fi .i64 hole))) (cons (gc (cf (fi .i64 hole))) (cons (gc (cf (fi .i64 hole))) (cons (gc (cf (fi .i64 hole))) (cons (gc (cf (fi .i64 hole))) (cons (gc (cf (fi .i64 hole))) (cons (gc (cf (fb hole))) nil))))))))))) (cons (some' (cons (gc (cf (fb hole))) nil)) (cons (some' (cons (ga (szs hole) (cons (ki .i64 hole) (cons (ki .i64 hole) (cons (ki .i64 hole) (cons (ki .i64 hole) (cons (ki .i64 hole) (cons (ki .i64 hole) (cons (ki .i64 hole) (cons (ki .i64 hole) nil))))))))) nil)) nil)))) nil)
end
theorem q_astrolabelaw14_DownsJoins_0 : ∀ b, (Q_astrolabelaw14_DownsJoins_0).em b = St.mk
    [AV.und, AV.r (RV.c (CV.sl 0 (Off.k 0) (Sz.s b.1.2.1.2.2.1) 8 b.1.2.1.2.2.2.2)), AV.tup [], AV.und, AV.und, AV.r (RV.c (CV.ptr 1 (Off.k 0) 10)), AV.und, AV.r (RV.c (CV.ptr 2 (Off.k 0) 1)),
      AV.r (RV.c (CV.sl 3 (Off.k 0) (Sz.s b.1.2.2.2.2.2.2.2.2.1.2.2.1) 8 true)), AV.r (RV.c (CV.f (FV.i IntKind.i64 b.1.2.2.2.2.2.2.2.2.2.1))), AV.r (RV.c (CV.f (FV.i IntKind.i64 b.1.2.2.2.2.2.2.2.2.2.2.1))), AV.r (RV.c (CV.f (FV.i IntKind.i64 b.1.2.2.2.2.2.2.2.2.2.2.2.1))), AV.und, AV.und,
      AV.und, AV.und, AV.und, AV.und, AV.und, AV.und, AV.und, AV.und, AV.und, AV.und, AV.und, AV.und, AV.und, AV.und, AV.und, AV.und, AV.und, AV.und, AV.und, AV.und, AV.und, AV.und, AV.und, AV.und,
      AV.und, AV.und, AV.und, AV.und, AV.und, AV.und, AV.und, AV.und, AV.und, AV.und, AV.und, AV.und, AV.und, AV.und, AV.und, AV.und, AV.und, AV.und, AV.und, AV.und, AV.und, AV.und, AV.und, AV.und,
      AV.und, AV.und, AV.und, AV.und, AV.und, AV.und, AV.und, AV.und, AV.und, AV.und, AV.und, AV.und, AV.und, AV.und, AV.und, AV.und, AV.und, AV.und, AV.und, AV.und, AV.und, AV.und, AV.und, AV.und,
      AV.und, AV.und, AV.und, AV.und]
    [some
        [Sg.a (Sz.s b.2.1.1.1.1)
            [Col.i IntKind.i64 b.2.1.1.1.2.1, Col.i IntKind.i64 b.2.1.1.1.2.2.1, Col.i IntKind.i64 b.2.1.1.1.2.2.2.1, Col.i IntKind.i64 b.2.1.1.1.2.2.2.2.1, Col.i IntKind.i64 b.2.1.1.1.2.2.2.2.2.1, Col.i IntKind.i64 b.2.1.1.1.2.2.2.2.2.2.1, Col.i IntKind.i64 b.2.1.1.1.2.2.2.2.2.2.2.1, Col.i IntKind.i64 b.2.1.1.1.2.2.2.2.2.2.2.2.1]],
      some
        [Sg.c (CV.f (FV.i IntKind.i64 b.2.1.2.1.1)), Sg.c (CV.f (FV.i IntKind.i64 b.2.1.2.1.2.1)), Sg.c (CV.f (FV.i IntKind.i64 b.2.1.2.1.2.2.1)), Sg.c (CV.f (FV.i IntKind.i64 b.2.1.2.1.2.2.2.1)), Sg.c (CV.f (FV.i IntKind.i64 b.2.1.2.1.2.2.2.2.1)),
          Sg.c (CV.f (FV.i IntKind.i64 b.2.1.2.1.2.2.2.2.2.1)), Sg.c (CV.f (FV.i IntKind.i64 b.2.1.2.1.2.2.2.2.2.2.1)), Sg.c (CV.f (FV.i IntKind.i64 b.2.1.2.1.2.2.2.2.2.2.2.1)), Sg.c (CV.f (FV.i IntKind.i64 b.2.1.2.1.2.2.2.2.2.2.2.2.1)), Sg.c (CV.f (FV.b b.2.1.2.1.2.2.2.2.2.2.2.2.2.1))],
      some [Sg.c (CV.f (FV.b b.2.1.2.2.1.1))],
      some
        [Sg.a (Sz.s b.2.1.2.2.2.1.1.1)
            [Col.i IntKind.i64 b.2.1.2.2.2.1.1.2.1, Col.i IntKind.i64 b.2.1.2.2.2.1.1.2.2.1, Col.i IntKind.i64 b.2.1.2.2.2.1.1.2.2.2.1, Col.i IntKind.i64 b.2.1.2.2.2.1.1.2.2.2.2.1, Col.i IntKind.i64 b.2.1.2.2.2.1.1.2.2.2.2.2.1, Col.i IntKind.i64 b.2.1.2.2.2.1.1.2.2.2.2.2.2.1, Col.i IntKind.i64 b.2.1.2.2.2.1.1.2.2.2.2.2.2.2.1, Col.i IntKind.i64 b.2.1.2.2.2.1.1.2.2.2.2.2.2.2.2.1]]]
    [] := fun b => by kernel_rfl
def R_astrolabelaw14_DownsJoins_0 (l : ∀ {ρ : Type}, (Nat ×
  Bool ×
    Nat ×
      Int ×
        Int ×
          Int ×
            Nat ×
              (Nat → Int) ×
                (Nat → Int) ×
                  (Nat → Int) ×
                    (Nat → Int) ×
                      (Nat → Int) ×
                        (Nat → Int) ×
                          (Nat → Int) ×
                            (Nat → Int) ×
                              Int ×
                                Int ×
                                  Int ×
                                    Int ×
                                      Int × Int × Int × Int × Int × Bool × Bool × Nat × (Nat → Int) × (Nat → Int) × (Nat → Int) × (Nat → Int) × (Nat → Int) × (Nat → Int) × (Nat → Int) × (Nat → Int)) → ((Nat × (Nat → Int) × (Nat → Int) × (Nat → Int) × (Nat → Int) × (Nat → Int) × (Nat → Int) × (Nat → Int) × (Nat → Int) ⊕
  Nat ×
    Bool ×
      Nat ×
        Int ×
          Int ×
            Int ×
              Int ×
                Bool ×
                  Nat ×
                    (Nat → Int) ×
                      (Nat → Int) ×
                        (Nat → Int) ×
                          (Nat → Int) ×
                            (Nat → Int) ×
                              (Nat → Int) ×
                                (Nat → Int) ×
                                  (Nat → Int) ×
                                    Int ×
                                      Int ×
                                        Int ×
                                          Int ×
                                            Int ×
                                              Int × Int × Int × Int × Bool × Bool × Nat × (Nat → Int) × (Nat → Int) × (Nat → Int) × (Nat → Int) × (Nat → Int) × (Nat → Int) × (Nat → Int) × (Nat → Int)) → Option ρ) → Option ρ) {ρ : Type} (s : St) (K : AX → St → Option ρ) : Option ρ := ((Q_astrolabelaw14_DownsJoins_0).rd s).bind fun b => l (b.1.2.1.2.2.1, b.1.2.1.2.2.2.2, b.1.2.2.2.2.2.2.2.2.1.2.2.1, b.1.2.2.2.2.2.2.2.2.2.1, b.1.2.2.2.2.2.2.2.2.2.2.1, b.1.2.2.2.2.2.2.2.2.2.2.2.1, b.2.1.1.1.1, b.2.1.1.1.2.1, b.2.1.1.1.2.2.1, b.2.1.1.1.2.2.2.1, b.2.1.1.1.2.2.2.2.1, b.2.1.1.1.2.2.2.2.2.1, b.2.1.1.1.2.2.2.2.2.2.1, b.2.1.1.1.2.2.2.2.2.2.2.1, b.2.1.1.1.2.2.2.2.2.2.2.2.1, b.2.1.2.1.1, b.2.1.2.1.2.1, b.2.1.2.1.2.2.1, b.2.1.2.1.2.2.2.1, b.2.1.2.1.2.2.2.2.1, b.2.1.2.1.2.2.2.2.2.1, b.2.1.2.1.2.2.2.2.2.2.1, b.2.1.2.1.2.2.2.2.2.2.2.1, b.2.1.2.1.2.2.2.2.2.2.2.2.1, b.2.1.2.1.2.2.2.2.2.2.2.2.2.1, b.2.1.2.2.1.1, b.2.1.2.2.2.1.1.1, b.2.1.2.2.2.1.1.2.1, b.2.1.2.2.2.1.1.2.2.1, b.2.1.2.2.2.1.1.2.2.2.1, b.2.1.2.2.2.1.1.2.2.2.2.1, b.2.1.2.2.2.1.1.2.2.2.2.2.1, b.2.1.2.2.2.1.1.2.2.2.2.2.2.1, b.2.1.2.2.2.1.1.2.2.2.2.2.2.2.1, b.2.1.2.2.2.1.1.2.2.2.2.2.2.2.2.1) (Sum.elim (fun d => K (AX.ret) (St.mk
  [AV.und, AV.und, AV.und, AV.und, AV.r (RV.c (CV.f (FV.b false))), AV.und, AV.und, AV.und, AV.und, AV.und, AV.und, AV.und, AV.und, AV.und, AV.und, AV.und, AV.und, AV.und, AV.und, AV.und, AV.und,
    AV.und, AV.und, AV.und, AV.und, AV.und, AV.und, AV.und, AV.und, AV.und, AV.und, AV.und, AV.und, AV.und, AV.und, AV.und, AV.und, AV.und, AV.und, AV.und, AV.und, AV.und, AV.und, AV.und, AV.und,
    AV.und, AV.und, AV.und, AV.und, AV.und, AV.und, AV.und, AV.und, AV.und, AV.und, AV.und, AV.und, AV.und, AV.und, AV.und, AV.und, AV.und, AV.und, AV.und, AV.und, AV.und, AV.und, AV.und, AV.und,
    AV.und, AV.und, AV.und, AV.und, AV.und, AV.und, AV.und, AV.und, AV.und, AV.und, AV.und, AV.und, AV.und, AV.und, AV.und, AV.und, AV.und, AV.und, AV.und, AV.und, AV.und]
  [some
      [Sg.a (Sz.s d.1)
          [Col.i IntKind.i64 d.2.1, Col.i IntKind.i64 d.2.2.1, Col.i IntKind.i64 d.2.2.2.1, Col.i IntKind.i64 d.2.2.2.2.1, Col.i IntKind.i64 d.2.2.2.2.2.1,
            Col.i IntKind.i64 d.2.2.2.2.2.2.1, Col.i IntKind.i64 d.2.2.2.2.2.2.2.1, Col.i IntKind.i64 d.2.2.2.2.2.2.2.2]]]
  [])) (fun d => K (AX.ex 0) (St.mk
  [AV.und, AV.r (RV.c (CV.sl 0 (Off.k 0) (Sz.s d.1) 8 d.2.1)), AV.tup [], AV.und, AV.und, AV.r (RV.c (CV.ptr 1 (Off.k 0) 10)), AV.und, AV.r (RV.c (CV.ptr 2 (Off.k 0) 1)),
    AV.r (RV.c (CV.sl 3 (Off.k 0) (Sz.s d.2.2.1) 8 true)), AV.r (RV.c (CV.f (FV.i IntKind.i64 d.2.2.2.1))), AV.r (RV.c (CV.f (FV.i IntKind.i64 d.2.2.2.2.1))),
    AV.r (RV.c (CV.f (FV.i IntKind.i64 d.2.2.2.2.2.1))), AV.und, AV.und, AV.und, AV.und, AV.und, AV.und, AV.und, AV.und, AV.und, AV.und, AV.und, AV.und, AV.und, AV.und, AV.und, AV.und,
    AV.und, AV.und, AV.und, AV.und, AV.und, AV.r (RV.c (CV.f (FV.i IntKind.i64 d.2.2.2.2.2.1))), AV.r (RV.c (CV.sl 0 (Off.k 0) (Sz.s d.1) 8 d.2.1)),
    AV.r (RV.c (CV.f (FV.i IntKind.i64 d.2.2.2.2.2.2.1))), AV.r (RV.c (CV.f (FV.b d.2.2.2.2.2.2.2.1))), AV.und, AV.und, AV.und, AV.und, AV.und, AV.und, AV.und, AV.und,
    AV.und, AV.und, AV.und, AV.und, AV.und, AV.und, AV.und, AV.und, AV.und, AV.und, AV.und, AV.und, AV.und, AV.und, AV.und, AV.und, AV.und, AV.und, AV.und, AV.und, AV.und, AV.und, AV.und, AV.und,
    AV.und, AV.und, AV.und, AV.und, AV.und, AV.und, AV.und, AV.und, AV.und, AV.und, AV.und, AV.und, AV.und, AV.und, AV.und, AV.und, AV.und, AV.und, AV.und, AV.und, AV.und]
  [some
      [Sg.a (Sz.s d.2.2.2.2.2.2.2.2.1)
          [Col.i IntKind.i64 d.2.2.2.2.2.2.2.2.2.1, Col.i IntKind.i64 d.2.2.2.2.2.2.2.2.2.2.1,
            Col.i IntKind.i64 d.2.2.2.2.2.2.2.2.2.2.2.1, Col.i IntKind.i64 d.2.2.2.2.2.2.2.2.2.2.2.2.1,
            Col.i IntKind.i64 d.2.2.2.2.2.2.2.2.2.2.2.2.2.1, Col.i IntKind.i64 d.2.2.2.2.2.2.2.2.2.2.2.2.2.2.1,
            Col.i IntKind.i64 d.2.2.2.2.2.2.2.2.2.2.2.2.2.2.2.1, Col.i IntKind.i64 d.2.2.2.2.2.2.2.2.2.2.2.2.2.2.2.2.1]],
    some
      [Sg.c (CV.f (FV.i IntKind.i64 d.2.2.2.2.2.2.2.2.2.2.2.2.2.2.2.2.2.1)),
        Sg.c (CV.f (FV.i IntKind.i64 d.2.2.2.2.2.2.2.2.2.2.2.2.2.2.2.2.2.2.1)),
        Sg.c (CV.f (FV.i IntKind.i64 d.2.2.2.2.2.2.2.2.2.2.2.2.2.2.2.2.2.2.2.1)),
        Sg.c (CV.f (FV.i IntKind.i64 d.2.2.2.2.2.2.2.2.2.2.2.2.2.2.2.2.2.2.2.2.1)),
        Sg.c (CV.f (FV.i IntKind.i64 d.2.2.2.2.2.2.2.2.2.2.2.2.2.2.2.2.2.2.2.2.2.1)),
        Sg.c (CV.f (FV.i IntKind.i64 d.2.2.2.2.2.2.2.2.2.2.2.2.2.2.2.2.2.2.2.2.2.2.1)),
        Sg.c (CV.f (FV.i IntKind.i64 d.2.2.2.2.2.2.2.2.2.2.2.2.2.2.2.2.2.2.2.2.2.2.2.1)),
        Sg.c (CV.f (FV.i IntKind.i64 d.2.2.2.2.2.2.2.2.2.2.2.2.2.2.2.2.2.2.2.2.2.2.2.2.1)),
        Sg.c (CV.f (FV.i IntKind.i64 d.2.2.2.2.2.2.2.2.2.2.2.2.2.2.2.2.2.2.2.2.2.2.2.2.2.1)),
        Sg.c (CV.f (FV.b d.2.2.2.2.2.2.2.2.2.2.2.2.2.2.2.2.2.2.2.2.2.2.2.2.2.2.1))],
    some [Sg.c (CV.f (FV.b d.2.2.2.2.2.2.2.2.2.2.2.2.2.2.2.2.2.2.2.2.2.2.2.2.2.2.2.1))],
    some
      [Sg.a (Sz.s d.2.2.2.2.2.2.2.2.2.2.2.2.2.2.2.2.2.2.2.2.2.2.2.2.2.2.2.2.1)
          [Col.i IntKind.i64 d.2.2.2.2.2.2.2.2.2.2.2.2.2.2.2.2.2.2.2.2.2.2.2.2.2.2.2.2.2.1,
            Col.i IntKind.i64 d.2.2.2.2.2.2.2.2.2.2.2.2.2.2.2.2.2.2.2.2.2.2.2.2.2.2.2.2.2.2.1,
            Col.i IntKind.i64 d.2.2.2.2.2.2.2.2.2.2.2.2.2.2.2.2.2.2.2.2.2.2.2.2.2.2.2.2.2.2.2.1,
            Col.i IntKind.i64 d.2.2.2.2.2.2.2.2.2.2.2.2.2.2.2.2.2.2.2.2.2.2.2.2.2.2.2.2.2.2.2.2.1,
            Col.i IntKind.i64 d.2.2.2.2.2.2.2.2.2.2.2.2.2.2.2.2.2.2.2.2.2.2.2.2.2.2.2.2.2.2.2.2.2.1,
            Col.i IntKind.i64 d.2.2.2.2.2.2.2.2.2.2.2.2.2.2.2.2.2.2.2.2.2.2.2.2.2.2.2.2.2.2.2.2.2.2.1,
            Col.i IntKind.i64 d.2.2.2.2.2.2.2.2.2.2.2.2.2.2.2.2.2.2.2.2.2.2.2.2.2.2.2.2.2.2.2.2.2.2.2.1,
            Col.i IntKind.i64 d.2.2.2.2.2.2.2.2.2.2.2.2.2.2.2.2.2.2.2.2.2.2.2.2.2.2.2.2.2.2.2.2.2.2.2.2]]]
  [])))
theorem ms_astrolabelaw14_DownsJoins_0 {ρ σ : Type} (g_astrolabelaw14_awake : Option Bool) (g_downs_New : Int → Option (Unit ⊕ Int)) (g___downs_Sampler__Put : Int →
  Int →
    Int →
      Int →
        Int →
          Int →
            Int →
              Int →
                Int →
                  Int →
                    Int →
                      Int →
                        Int →
                          Int → Int → Int → Int → Bool → Bool → Option (Int × Int × Int × Int × Int × Int × Int × Int × Bool × Int × Int × Int × Int × Int × Int × Int × Int × Int × Int × Bool × Bool)) (g_downs_Join : Nat → Bool → (Nat → Int) → (Nat → Int) → (Nat → Int) → (Nat → Int) → (Nat → Int) → (Nat → Int) → (Nat → Int) → (Nat → Int) → Bool → Option (Int × Int × Int × Int × Int × Int × Int × Int × Int × Bool)) (g___downs_Sampler__Pending : Int → Int → Int → Int → Int → Int → Int → Int → Int → Bool → Option Int)   (q : ρ → Option σ) (x0 : Nat) (x1 : Bool) (x2 : Nat) (x3 : Int) (x4 : Int) (x5 : Int) (x6 : Nat) (x7 : Nat → Int) (x8 : Nat → Int) (x9 : Nat → Int) (x10 : Nat → Int) (x11 : Nat → Int) (x12 : Nat → Int) (x13 : Nat → Int) (x14 : Nat → Int) (x15 : Int) (x16 : Int) (x17 : Int) (x18 : Int) (x19 : Int) (x20 : Int) (x21 : Int) (x22 : Int) (x23 : Int) (x24 : Bool) (x25 : Bool) (x26 : Nat) (x27 : Nat → Int) (x28 : Nat → Int) (x29 : Nat → Int) (x30 : Nat → Int) (x31 : Nat → Int) (x32 : Nat → Int) (x33 : Nat → Int) (x34 : Nat → Int) (c : (Nat ×
  Bool ×
    Nat ×
      Int ×
        Int ×
          Int ×
            Nat ×
              (Nat → Int) ×
                (Nat → Int) ×
                  (Nat → Int) ×
                    (Nat → Int) ×
                      (Nat → Int) ×
                        (Nat → Int) ×
                          (Nat → Int) ×
                            (Nat → Int) ×
                              Int ×
                                Int ×
                                  Int ×
                                    Int ×
                                      Int × Int × Int × Int × Int × Bool × Bool × Nat × (Nat → Int) × (Nat → Int) × (Nat → Int) × (Nat → Int) × (Nat → Int) × (Nat → Int) × (Nat → Int) × (Nat → Int)) → Option ρ) (x : (Nat × (Nat → Int) × (Nat → Int) × (Nat → Int) × (Nat → Int) × (Nat → Int) × (Nat → Int) × (Nat → Int) × (Nat → Int) ⊕
  Nat ×
    Bool ×
      Nat ×
        Int ×
          Int ×
            Int ×
              Int ×
                Bool ×
                  Nat ×
                    (Nat → Int) ×
                      (Nat → Int) ×
                        (Nat → Int) ×
                          (Nat → Int) ×
                            (Nat → Int) ×
                              (Nat → Int) ×
                                (Nat → Int) ×
                                  (Nat → Int) ×
                                    Int ×
                                      Int ×
                                        Int ×
                                          Int ×
                                            Int ×
                                              Int × Int × Int × Int × Bool × Bool × Nat × (Nat → Int) × (Nat → Int) × (Nat → Int) × (Nat → Int) × (Nat → Int) × (Nat → Int) × (Nat → Int) × (Nat → Int)) → Option ρ) : (S_astrolabelaw14_DownsJoins_0 g_astrolabelaw14_awake g_downs_New g___downs_Sampler__Put g_downs_Join g___downs_Sampler__Pending  x0 x1 x2 x3 x4 x5 x6 x7 x8 x9 x10 x11 x12 x13 x14 x15 x16 x17 x18 x19 x20 x21 x22 x23 x24 x25 x26 x27 x28 x29 x30 x31 x32 x33 x34 c x).bind q = S_astrolabelaw14_DownsJoins_0 g_astrolabelaw14_awake g_downs_New g___downs_Sampler__Put g_downs_Join g___downs_Sampler__Pending  x0 x1 x2 x3 x4 x5 x6 x7 x8 x9 x10 x11 x12 x13 x14 x15 x16 x17 x18 x19 x20 x21 x22 x23 x24 x25 x26 x27 x28 x29 x30 x31 x32 x33 x34 (fun d => (c d).bind q) (fun d => (x d).bind q) := by
  simp only [S_astrolabelaw14_DownsJoins_0, bnd_cond, bnd_bind, bnd_none, bnd_sum]
def L_astrolabelaw14_DownsJoins_0 {ρ : Type} (d : Nat ×
  Bool ×
    Nat ×
      Int ×
        Int ×
          Int ×
            Nat ×
              (Nat → Int) ×
                (Nat → Int) ×
                  (Nat → Int) ×
                    (Nat → Int) ×
                      (Nat → Int) ×
                        (Nat → Int) ×
                          (Nat → Int) ×
                            (Nat → Int) ×
                              Int ×
                                Int ×
                                  Int ×
                                    Int ×
                                      Int × Int × Int × Int × Int × Bool × Bool × Nat × (Nat → Int) × (Nat → Int) × (Nat → Int) × (Nat → Int) × (Nat → Int) × (Nat → Int) × (Nat → Int) × (Nat → Int)) (k : (Nat × (Nat → Int) × (Nat → Int) × (Nat → Int) × (Nat → Int) × (Nat → Int) × (Nat → Int) × (Nat → Int) × (Nat → Int) ⊕
  Nat ×
    Bool ×
      Nat ×
        Int ×
          Int ×
            Int ×
              Int ×
                Bool ×
                  Nat ×
                    (Nat → Int) ×
                      (Nat → Int) ×
                        (Nat → Int) ×
                          (Nat → Int) ×
                            (Nat → Int) ×
                              (Nat → Int) ×
                                (Nat → Int) ×
                                  (Nat → Int) ×
                                    Int ×
                                      Int ×
                                        Int ×
                                          Int ×
                                            Int ×
                                              Int × Int × Int × Int × Bool × Bool × Nat × (Nat → Int) × (Nat → Int) × (Nat → Int) × (Nat → Int) × (Nat → Int) × (Nat → Int) × (Nat → Int) × (Nat → Int)) → Option ρ) : Option ρ := loopK (fun d c x => S_astrolabelaw14_DownsJoins_0 f_astrolabelaw14_awake f_downs_New f___downs_Sampler__Put f_downs_Join f___downs_Sampler__Pending  d.1 d.2.1 d.2.2.1 d.2.2.2.1 d.2.2.2.2.1 d.2.2.2.2.2.1 d.2.2.2.2.2.2.1 d.2.2.2.2.2.2.2.1 d.2.2.2.2.2.2.2.2.1 d.2.2.2.2.2.2.2.2.2.1 d.2.2.2.2.2.2.2.2.2.2.1 d.2.2.2.2.2.2.2.2.2.2.2.1 d.2.2.2.2.2.2.2.2.2.2.2.2.1 d.2.2.2.2.2.2.2.2.2.2.2.2.2.1 d.2.2.2.2.2.2.2.2.2.2.2.2.2.2.1 d.2.2.2.2.2.2.2.2.2.2.2.2.2.2.2.1 d.2.2.2.2.2.2.2.2.2.2.2.2.2.2.2.2.1 d.2.2.2.2.2.2.2.2.2.2.2.2.2.2.2.2.2.1 d.2.2.2.2.2.2.2.2.2.2.2.2.2.2.2.2.2.2.1 d.2.2.2.2.2.2.2.2.2.2.2.2.2.2.2.2.2.2.2.1 d.2.2.2.2.2.2.2.2.2.2.2.2.2.2.2.2.2.2.2.2.1 d.2.2.2.2.2.2.2.2.2.2.2.2.2.2.2.2.2.2.2.2.2.1 d.2.2.2.2.2.2.2.2.2.2.2.2.2.2.2.2.2.2.2.2.2.2.1 d.2.2.2.2.2.2.2.2.2.2.2.2.2.2.2.2.2.2.2.2.2.2.2.1 d.2.2.2.2.2.2.2.2.2.2.2.2.2.2.2.2.2.2.2.2.2.2.2.2.1 d.2.2.2.2.2.2.2.2.2.2.2.2.2.2.2.2.2.2.2.2.2.2.2.2.2.1 d.2.2.2.2.2.2.2.2.2.2.2.2.2.2.2.2.2.2.2.2.2.2.2.2.2.2.1 d.2.2.2.2.2.2.2.2.2.2.2.2.2.2.2.2.2.2.2.2.2.2.2.2.2.2.2.1 d.2.2.2.2.2.2.2.2.2.2.2.2.2.2.2.2.2.2.2.2.2.2.2.2.2.2.2.2.1 d.2.2.2.2.2.2.2.2.2.2.2.2.2.2.2.2.2.2.2.2.2.2.2.2.2.2.2.2.2.1 d.2.2.2.2.2.2.2.2.2.2.2.2.2.2.2.2.2.2.2.2.2.2.2.2.2.2.2.2.2.2.1 d.2.2.2.2.2.2.2.2.2.2.2.2.2.2.2.2.2.2.2.2.2.2.2.2.2.2.2.2.2.2.2.1 d.2.2.2.2.2.2.2.2.2.2.2.2.2.2.2.2.2.2.2.2.2.2.2.2.2.2.2.2.2.2.2.2.1 d.2.2.2.2.2.2.2.2.2.2.2.2.2.2.2.2.2.2.2.2.2.2.2.2.2.2.2.2.2.2.2.2.2.1 d.2.2.2.2.2.2.2.2.2.2.2.2.2.2.2.2.2.2.2.2.2.2.2.2.2.2.2.2.2.2.2.2.2.2 c x) 200 d k
theorem mL_astrolabelaw14_DownsJoins_0 {ρ σ : Type} (q : ρ → Option σ) (d : Nat ×
  Bool ×
    Nat ×
      Int ×
        Int ×
          Int ×
            Nat ×
              (Nat → Int) ×
                (Nat → Int) ×
                  (Nat → Int) ×
                    (Nat → Int) ×
                      (Nat → Int) ×
                        (Nat → Int) ×
                          (Nat → Int) ×
                            (Nat → Int) ×
                              Int ×
                                Int ×
                                  Int ×
                                    Int ×
                                      Int × Int × Int × Int × Int × Bool × Bool × Nat × (Nat → Int) × (Nat → Int) × (Nat → Int) × (Nat → Int) × (Nat → Int) × (Nat → Int) × (Nat → Int) × (Nat → Int)) (k : (Nat × (Nat → Int) × (Nat → Int) × (Nat → Int) × (Nat → Int) × (Nat → Int) × (Nat → Int) × (Nat → Int) × (Nat → Int) ⊕
  Nat ×
    Bool ×
      Nat ×
        Int ×
          Int ×
            Int ×
              Int ×
                Bool ×
                  Nat ×
                    (Nat → Int) ×
                      (Nat → Int) ×
                        (Nat → Int) ×
                          (Nat → Int) ×
                            (Nat → Int) ×
                              (Nat → Int) ×
                                (Nat → Int) ×
                                  (Nat → Int) ×
                                    Int ×
                                      Int ×
                                        Int ×
                                          Int ×
                                            Int ×
                                              Int × Int × Int × Int × Bool × Bool × Nat × (Nat → Int) × (Nat → Int) × (Nat → Int) × (Nat → Int) × (Nat → Int) × (Nat → Int) × (Nat → Int) × (Nat → Int)) → Option ρ) : (L_astrolabelaw14_DownsJoins_0 d k).bind q = L_astrolabelaw14_DownsJoins_0 d fun x => (k x).bind q :=
  loopK_bind q (fun d c x => ms_astrolabelaw14_DownsJoins_0 f_astrolabelaw14_awake f_downs_New f___downs_Sampler__Put f_downs_Join f___downs_Sampler__Pending   q d.1 d.2.1 d.2.2.1 d.2.2.2.1 d.2.2.2.2.1 d.2.2.2.2.2.1 d.2.2.2.2.2.2.1 d.2.2.2.2.2.2.2.1 d.2.2.2.2.2.2.2.2.1 d.2.2.2.2.2.2.2.2.2.1 d.2.2.2.2.2.2.2.2.2.2.1 d.2.2.2.2.2.2.2.2.2.2.2.1 d.2.2.2.2.2.2.2.2.2.2.2.2.1 d.2.2.2.2.2.2.2.2.2.2.2.2.2.1 d.2.2.2.2.2.2.2.2.2.2.2.2.2.2.1 d.2.2.2.2.2.2.2.2.2.2.2.2.2.2.2.1 d.2.2.2.2.2.2.2.2.2.2.2.2.2.2.2.2.1 d.2.2.2.2.2.2.2.2.2.2.2.2.2.2.2.2.2.1 d.2.2.2.2.2.2.2.2.2.2.2.2.2.2.2.2.2.2.1 d.2.2.2.2.2.2.2.2.2.2.2.2.2.2.2.2.2.2.2.1 d.2.2.2.2.2.2.2.2.2.2.2.2.2.2.2.2.2.2.2.2.1 d.2.2.2.2.2.2.2.2.2.2.2.2.2.2.2.2.2.2.2.2.2.1 d.2.2.2.2.2.2.2.2.2.2.2.2.2.2.2.2.2.2.2.2.2.2.1 d.2.2.2.2.2.2.2.2.2.2.2.2.2.2.2.2.2.2.2.2.2.2.2.1 d.2.2.2.2.2.2.2.2.2.2.2.2.2.2.2.2.2.2.2.2.2.2.2.2.1 d.2.2.2.2.2.2.2.2.2.2.2.2.2.2.2.2.2.2.2.2.2.2.2.2.2.1 d.2.2.2.2.2.2.2.2.2.2.2.2.2.2.2.2.2.2.2.2.2.2.2.2.2.2.1 d.2.2.2.2.2.2.2.2.2.2.2.2.2.2.2.2.2.2.2.2.2.2.2.2.2.2.2.1 d.2.2.2.2.2.2.2.2.2.2.2.2.2.2.2.2.2.2.2.2.2.2.2.2.2.2.2.2.1 d.2.2.2.2.2.2.2.2.2.2.2.2.2.2.2.2.2.2.2.2.2.2.2.2.2.2.2.2.2.1 d.2.2.2.2.2.2.2.2.2.2.2.2.2.2.2.2.2.2.2.2.2.2.2.2.2.2.2.2.2.2.1 d.2.2.2.2.2.2.2.2.2.2.2.2.2.2.2.2.2.2.2.2.2.2.2.2.2.2.2.2.2.2.2.1 d.2.2.2.2.2.2.2.2.2.2.2.2.2.2.2.2.2.2.2.2.2.2.2.2.2.2.2.2.2.2.2.2.1 d.2.2.2.2.2.2.2.2.2.2.2.2.2.2.2.2.2.2.2.2.2.2.2.2.2.2.2.2.2.2.2.2.2.1 d.2.2.2.2.2.2.2.2.2.2.2.2.2.2.2.2.2.2.2.2.2.2.2.2.2.2.2.2.2.2.2.2.2.2 c x) k _ d
theorem ds_astrolabelaw14_DownsJoins_0 {ρ : Type} (g_astrolabelaw14_awake : Option Bool) (g_downs_New : Int → Option (Unit ⊕ Int)) (g___downs_Sampler__Put : Int →
  Int →
    Int →
      Int →
        Int →
          Int →
            Int →
              Int →
                Int →
                  Int →
                    Int →
                      Int →
                        Int →
                          Int → Int → Int → Int → Bool → Bool → Option (Int × Int × Int × Int × Int × Int × Int × Int × Bool × Int × Int × Int × Int × Int × Int × Int × Int × Int × Int × Bool × Bool)) (g_downs_Join : Nat → Bool → (Nat → Int) → (Nat → Int) → (Nat → Int) → (Nat → Int) → (Nat → Int) → (Nat → Int) → (Nat → Int) → (Nat → Int) → Bool → Option (Int × Int × Int × Int × Int × Int × Int × Int × Int × Bool)) (g___downs_Sampler__Pending : Int → Int → Int → Int → Int → Int → Int → Int → Int → Bool → Option Int) (l_0 : ∀ {ρ : Type}, (Nat ×
  Bool ×
    Nat ×
      Int ×
        Int ×
          Int ×
            Nat ×
              (Nat → Int) ×
                (Nat → Int) ×
                  (Nat → Int) ×
                    (Nat → Int) ×
                      (Nat → Int) ×
                        (Nat → Int) ×
                          (Nat → Int) ×
                            (Nat → Int) ×
                              Int ×
                                Int ×
                                  Int ×
                                    Int ×
                                      Int × Int × Int × Int × Int × Bool × Bool × Nat × (Nat → Int) × (Nat → Int) × (Nat → Int) × (Nat → Int) × (Nat → Int) × (Nat → Int) × (Nat → Int) × (Nat → Int)) → ((Nat × (Nat → Int) × (Nat → Int) × (Nat → Int) × (Nat → Int) × (Nat → Int) × (Nat → Int) × (Nat → Int) × (Nat → Int) ⊕
  Nat ×
    Bool ×
      Nat ×
        Int ×
          Int ×
            Int ×
              Int ×
                Bool ×
                  Nat ×
                    (Nat → Int) ×
                      (Nat → Int) ×
                        (Nat → Int) ×
                          (Nat → Int) ×
                            (Nat → Int) ×
                              (Nat → Int) ×
                                (Nat → Int) ×
                                  (Nat → Int) ×
                                    Int ×
                                      Int ×
                                        Int ×
                                          Int ×
                                            Int ×
                                              Int × Int × Int × Int × Bool × Bool × Nat × (Nat → Int) × (Nat → Int) × (Nat → Int) × (Nat → Int) × (Nat → Int) × (Nat → Int) × (Nat → Int) × (Nat → Int)) → Option ρ) → Option ρ) (x0 : Nat) (x1 : Bool) (x2 : Nat) (x3 : Int) (x4 : Int) (x5 : Int) (x6 : Nat) (x7 : Nat → Int) (x8 : Nat → Int) (x9 : Nat → Int) (x10 : Nat → Int) (x11 : Nat → Int) (x12 : Nat → Int) (x13 : Nat → Int) (x14 : Nat → Int) (x15 : Int) (x16 : Int) (x17 : Int) (x18 : Int) (x19 : Int) (x20 : Int) (x21 : Int) (x22 : Int) (x23 : Int) (x24 : Bool) (x25 : Bool) (x26 : Nat) (x27 : Nat → Int) (x28 : Nat → Int) (x29 : Nat → Int) (x30 : Nat → Int) (x31 : Nat → Int) (x32 : Nat → Int) (x33 : Nat → Int) (x34 : Nat → Int) (c : St → Option ρ) (K : AX → St → Option ρ) :
    runC Try.prog (envOf [(30, F_astrolabelaw14_awake g_astrolabelaw14_awake), (31, F_downs_New g_downs_New), (32, F___downs_Sampler__Put g___downs_Sampler__Put), (33, F_downs_Join g_downs_Join), (35, F___downs_Sampler__Pending g___downs_Sampler__Pending)]) ⟨[⟨11, [0, 3, 4, 6, 12, 13, 14, 15, 16, 17, 18, 19, 20, 21, 22, 23, 24, 25, 26, 27, 28, 29, 30, 31, 32, 33, 34, 35, 36, 37, 38, 39, 40, 41, 42, 43, 44, 45, 46, 47, 48, 49, 50, 51, 52, 53, 54, 55, 56, 57, 58, 59, 60, 61, 62, 63, 64, 65, 66, 67, 68, 69, 70, 71, 72, 73, 74, 75, 79, 80, 81, 82, 83, 84, 85, 86, 87, 88, 89, 76, 77, 78], [(8, [.i .i64, .i .i64, .i .i64, .i .i64, .i .i64, .i .i64, .i .i64, .i .i64])]⟩], [⟨11, 1, @R_astrolabelaw14_DownsJoins_0 (@l_0)⟩], [], [], (some ⟨0, [0, 1, 2, 3, 5, 6, 7, 8, 9, 10, 11, 12, 13, 14, 15, 16, 17, 18, 19, 20, 21, 22, 23, 24, 25, 26, 27, 28, 29, 30, 31, 32, 33, 34, 35, 36, 37, 38, 39, 40, 41, 42, 43, 44, 45, 46, 47, 48, 49, 50, 51, 52, 53, 54, 55, 56, 57, 58, 59, 60, 61, 62, 63, 64, 65, 66, 67, 68, 69, 70, 71, 72, 73, 74, 75, 76, 77, 78, 79, 80, 81, 82, 83, 84, 85, 86, 87, 88, 89], []⟩)⟩ (tmpsOf Try.prog 9) 1 200 (loopIn Try.prog 9 11)
      (St.mk
    [AV.und, AV.r (RV.c (CV.sl 0 (Off.k 0) (Sz.s x0) 8 x1)), AV.tup [], AV.und, AV.und, AV.r (RV.c (CV.ptr 1 (Off.k 0) 10)), AV.und, AV.r (RV.c (CV.ptr 2 (Off.k 0) 1)),
      AV.r (RV.c (CV.sl 3 (Off.k 0) (Sz.s x2) 8 true)), AV.r (RV.c (CV.f (FV.i IntKind.i64 x3))), AV.r (RV.c (CV.f (FV.i IntKind.i64 x4))), AV.r (RV.c (CV.f (FV.i IntKind.i64 x5))), AV.und, AV.und,
      AV.und, AV.und, AV.und, AV.und, AV.und, AV.und, AV.und, AV.und, AV.und, AV.und, AV.und, AV.und, AV.und, AV.und, AV.und, AV.und, AV.und, AV.und, AV.und, AV.und, AV.und, AV.und, AV.und, AV.und,
      AV.und, AV.und, AV.und, AV.und, AV.und, AV.und, AV.und, AV.und, AV.und, AV.und, AV.und, AV.und, AV.und, AV.und, AV.und, AV.und, AV.und, AV.und, AV.und, AV.und, AV.und, AV.und, AV.und, AV.und,
      AV.und, AV.und, AV.und, AV.und, AV.und, AV.und, AV.und, AV.und, AV.und, AV.und, AV.und, AV.und, AV.und, AV.und, AV.und, AV.und, AV.und, AV.und, AV.und, AV.und, AV.und, AV.und, AV.und, AV.und,
      AV.und, AV.und, AV.und, AV.und]
    [some
        [Sg.a (Sz.s x6)
            [Col.i IntKind.i64 x7, Col.i IntKind.i64 x8, Col.i IntKind.i64 x9, Col.i IntKind.i64 x10, Col.i IntKind.i64 x11, Col.i IntKind.i64 x12, Col.i IntKind.i64 x13, Col.i IntKind.i64 x14]],
      some
        [Sg.c (CV.f (FV.i IntKind.i64 x15)), Sg.c (CV.f (FV.i IntKind.i64 x16)), Sg.c (CV.f (FV.i IntKind.i64 x17)), Sg.c (CV.f (FV.i IntKind.i64 x18)), Sg.c (CV.f (FV.i IntKind.i64 x19)),
          Sg.c (CV.f (FV.i IntKind.i64 x20)), Sg.c (CV.f (FV.i IntKind.i64 x21)), Sg.c (CV.f (FV.i IntKind.i64 x22)), Sg.c (CV.f (FV.i IntKind.i64 x23)), Sg.c (CV.f (FV.b x24))],
      some [Sg.c (CV.f (FV.b x25))],
      some
        [Sg.a (Sz.s x26)
            [Col.i IntKind.i64 x27, Col.i IntKind.i64 x28, Col.i IntKind.i64 x29, Col.i IntKind.i64 x30, Col.i IntKind.i64 x31, Col.i IntKind.i64 x32, Col.i IntKind.i64 x33, Col.i IntKind.i64 x34]]]
    [])
      (next (fun t => t.head 1 ⟨[⟨11, [0, 3, 4, 6, 12, 13, 14, 15, 16, 17, 18, 19, 20, 21, 22, 23, 24, 25, 26, 27, 28, 29, 30, 31, 32, 33, 34, 35, 36, 37, 38, 39, 40, 41, 42, 43, 44, 45, 46, 47, 48, 49, 50, 51, 52, 53, 54, 55, 56, 57, 58, 59, 60, 61, 62, 63, 64, 65, 66, 67, 68, 69, 70, 71, 72, 73, 74, 75, 79, 80, 81, 82, 83, 84, 85, 86, 87, 88, 89, 76, 77, 78], [(8, [.i .i64, .i .i64, .i .i64, .i .i64, .i .i64, .i .i64, .i .i64, .i .i64])]⟩], [⟨11, 1, @R_astrolabelaw14_DownsJoins_0 (@l_0)⟩], [], [], (some ⟨0, [0, 1, 2, 3, 5, 6, 7, 8, 9, 10, 11, 12, 13, 14, 15, 16, 17, 18, 19, 20, 21, 22, 23, 24, 25, 26, 27, 28, 29, 30, 31, 32, 33, 34, 35, 36, 37, 38, 39, 40, 41, 42, 43, 44, 45, 46, 47, 48, 49, 50, 51, 52, 53, 54, 55, 56, 57, 58, 59, 60, 61, 62, 63, 64, 65, 66, 67, 68, 69, 70, 71, 72, 73, 74, 75, 76, 77, 78, 79, 80, 81, 82, 83, 84, 85, 86, 87, 88, 89], []⟩)⟩ (loopIn Try.prog 9 11)) c K) =
    S_astrolabelaw14_DownsJoins_0 g_astrolabelaw14_awake g_downs_New g___downs_Sampler__Put g_downs_Join g___downs_Sampler__Pending  x0 x1 x2 x3 x4 x5 x6 x7 x8 x9 x10 x11 x12 x13 x14 x15 x16 x17 x18 x19 x20 x21 x22 x23 x24 x25 x26 x27 x28 x29 x30 x31 x32 x33 x34 (fun d => c (St.mk
  [AV.und, AV.r (RV.c (CV.sl 0 (Off.k 0) (Sz.s d.1) 8 d.2.1)), AV.tup [], AV.und, AV.und, AV.r (RV.c (CV.ptr 1 (Off.k 0) 10)), AV.und, AV.r (RV.c (CV.ptr 2 (Off.k 0) 1)),
    AV.r (RV.c (CV.sl 3 (Off.k 0) (Sz.s d.2.2.1) 8 true)), AV.r (RV.c (CV.f (FV.i IntKind.i64 d.2.2.2.1))), AV.r (RV.c (CV.f (FV.i IntKind.i64 d.2.2.2.2.1))),
    AV.r (RV.c (CV.f (FV.i IntKind.i64 d.2.2.2.2.2.1))), AV.und, AV.und, AV.und, AV.und, AV.und, AV.und, AV.und, AV.und, AV.und, AV.und, AV.und, AV.und, AV.und, AV.und, AV.und, AV.und,
    AV.und, AV.und, AV.und, AV.und, AV.und, AV.und, AV.und, AV.und, AV.und, AV.und, AV.und, AV.und, AV.und, AV.und, AV.und, AV.und, AV.und, AV.und, AV.und, AV.und, AV.und, AV.und, AV.und, AV.und,
    AV.und, AV.und, AV.und, AV.und, AV.und, AV.und, AV.und, AV.und, AV.und, AV.und, AV.und, AV.und, AV.und, AV.und, AV.und, AV.und, AV.und, AV.und, AV.und, AV.und, AV.und, AV.und, AV.und, AV.und,
    AV.und, AV.und, AV.und, AV.und, AV.und, AV.und, AV.und, AV.und, AV.und, AV.und, AV.und, AV.und, AV.und, AV.und]
  [some
      [Sg.a (Sz.s d.2.2.2.2.2.2.1)
          [Col.i IntKind.i64 d.2.2.2.2.2.2.2.1, Col.i IntKind.i64 d.2.2.2.2.2.2.2.2.1, Col.i IntKind.i64 d.2.2.2.2.2.2.2.2.2.1,
            Col.i IntKind.i64 d.2.2.2.2.2.2.2.2.2.2.1, Col.i IntKind.i64 d.2.2.2.2.2.2.2.2.2.2.2.1,
            Col.i IntKind.i64 d.2.2.2.2.2.2.2.2.2.2.2.2.1, Col.i IntKind.i64 d.2.2.2.2.2.2.2.2.2.2.2.2.2.1,
            Col.i IntKind.i64 d.2.2.2.2.2.2.2.2.2.2.2.2.2.2.1]],
    some
      [Sg.c (CV.f (FV.i IntKind.i64 d.2.2.2.2.2.2.2.2.2.2.2.2.2.2.2.1)),
        Sg.c (CV.f (FV.i IntKind.i64 d.2.2.2.2.2.2.2.2.2.2.2.2.2.2.2.2.1)),
        Sg.c (CV.f (FV.i IntKind.i64 d.2.2.2.2.2.2.2.2.2.2.2.2.2.2.2.2.2.1)),
        Sg.c (CV.f (FV.i IntKind.i64 d.2.2.2.2.2.2.2.2.2.2.2.2.2.2.2.2.2.2.1)),
        Sg.c (CV.f (FV.i IntKind.i64 d.2.2.2.2.2.2.2.2.2.2.2.2.2.2.2.2.2.2.2.1)),
        Sg.c (CV.f (FV.i IntKind.i64 d.2.2.2.2.2.2.2.2.2.2.2.2.2.2.2.2.2.2.2.2.1)),
        Sg.c (CV.f (FV.i IntKind.i64 d.2.2.2.2.2.2.2.2.2.2.2.2.2.2.2.2.2.2.2.2.2.1)),
        Sg.c (CV.f (FV.i IntKind.i64 d.2.2.2.2.2.2.2.2.2.2.2.2.2.2.2.2.2.2.2.2.2.2.1)),
        Sg.c (CV.f (FV.i IntKind.i64 d.2.2.2.2.2.2.2.2.2.2.2.2.2.2.2.2.2.2.2.2.2.2.2.1)),
        Sg.c (CV.f (FV.b d.2.2.2.2.2.2.2.2.2.2.2.2.2.2.2.2.2.2.2.2.2.2.2.2.1))],
    some [Sg.c (CV.f (FV.b d.2.2.2.2.2.2.2.2.2.2.2.2.2.2.2.2.2.2.2.2.2.2.2.2.2.1))],
    some
      [Sg.a (Sz.s d.2.2.2.2.2.2.2.2.2.2.2.2.2.2.2.2.2.2.2.2.2.2.2.2.2.2.1)
          [Col.i IntKind.i64 d.2.2.2.2.2.2.2.2.2.2.2.2.2.2.2.2.2.2.2.2.2.2.2.2.2.2.2.1,
            Col.i IntKind.i64 d.2.2.2.2.2.2.2.2.2.2.2.2.2.2.2.2.2.2.2.2.2.2.2.2.2.2.2.2.1,
            Col.i IntKind.i64 d.2.2.2.2.2.2.2.2.2.2.2.2.2.2.2.2.2.2.2.2.2.2.2.2.2.2.2.2.2.1,
            Col.i IntKind.i64 d.2.2.2.2.2.2.2.2.2.2.2.2.2.2.2.2.2.2.2.2.2.2.2.2.2.2.2.2.2.2.1,
            Col.i IntKind.i64 d.2.2.2.2.2.2.2.2.2.2.2.2.2.2.2.2.2.2.2.2.2.2.2.2.2.2.2.2.2.2.2.1,
            Col.i IntKind.i64 d.2.2.2.2.2.2.2.2.2.2.2.2.2.2.2.2.2.2.2.2.2.2.2.2.2.2.2.2.2.2.2.2.1,
            Col.i IntKind.i64 d.2.2.2.2.2.2.2.2.2.2.2.2.2.2.2.2.2.2.2.2.2.2.2.2.2.2.2.2.2.2.2.2.2.1,
            Col.i IntKind.i64 d.2.2.2.2.2.2.2.2.2.2.2.2.2.2.2.2.2.2.2.2.2.2.2.2.2.2.2.2.2.2.2.2.2.2]]]
  [])) (Sum.elim (fun d => K (AX.ret) (St.mk
  [AV.und, AV.und, AV.und, AV.und, AV.r (RV.c (CV.f (FV.b false))), AV.und, AV.und, AV.und, AV.und, AV.und, AV.und, AV.und, AV.und, AV.und, AV.und, AV.und, AV.und, AV.und, AV.und, AV.und, AV.und,
    AV.und, AV.und, AV.und, AV.und, AV.und, AV.und, AV.und, AV.und, AV.und, AV.und, AV.und, AV.und, AV.und, AV.und, AV.und, AV.und, AV.und, AV.und, AV.und, AV.und, AV.und, AV.und, AV.und, AV.und,
    AV.und, AV.und, AV.und, AV.und, AV.und, AV.und, AV.und, AV.und, AV.und, AV.und, AV.und, AV.und, AV.und, AV.und, AV.und, AV.und, AV.und, AV.und, AV.und, AV.und, AV.und, AV.und, AV.und, AV.und,
    AV.und, AV.und, AV.und, AV.und, AV.und, AV.und, AV.und, AV.und, AV.und, AV.und, AV.und, AV.und, AV.und, AV.und, AV.und, AV.und, AV.und, AV.und, AV.und, AV.und, AV.und]
  [some
      [Sg.a (Sz.s d.1)
          [Col.i IntKind.i64 d.2.1, Col.i IntKind.i64 d.2.2.1, Col.i IntKind.i64 d.2.2.2.1, Col.i IntKind.i64 d.2.2.2.2.1, Col.i IntKind.i64 d.2.2.2.2.2.1,
            Col.i IntKind.i64 d.2.2.2.2.2.2.1, Col.i IntKind.i64 d.2.2.2.2.2.2.2.1, Col.i IntKind.i64 d.2.2.2.2.2.2.2.2]]]
  [])) (fun d => K (AX.ex 0) (St.mk
  [AV.und, AV.r (RV.c (CV.sl 0 (Off.k 0) (Sz.s d.1) 8 d.2.1)), AV.tup [], AV.und, AV.und, AV.r (RV.c (CV.ptr 1 (Off.k 0) 10)), AV.und, AV.r (RV.c (CV.ptr 2 (Off.k 0) 1)),
    AV.r (RV.c (CV.sl 3 (Off.k 0) (Sz.s d.2.2.1) 8 true)), AV.r (RV.c (CV.f (FV.i IntKind.i64 d.2.2.2.1))), AV.r (RV.c (CV.f (FV.i IntKind.i64 d.2.2.2.2.1))),
    AV.r (RV.c (CV.f (FV.i IntKind.i64 d.2.2.2.2.2.1))), AV.und, AV.und, AV.und, AV.und, AV.und, AV.und, AV.und, AV.und, AV.und, AV.und, AV.und, AV.und, AV.und, AV.und, AV.und, AV.und,
    AV.und, AV.und, AV.und, AV.und, AV.und, AV.r (RV.c (CV.f (FV.i IntKind.i64 d.2.2.2.2.2.1))), AV.r (RV.c (CV.sl 0 (Off.k 0) (Sz.s d.1) 8 d.2.1)),
    AV.r (RV.c (CV.f (FV.i IntKind.i64 d.2.2.2.2.2.2.1))), AV.r (RV.c (CV.f (FV.b d.2.2.2.2.2.2.2.1))), AV.und, AV.und, AV.und, AV.und, AV.und, AV.und, AV.und, AV.und,
    AV.und, AV.und, AV.und, AV.und, AV.und, AV.und, AV.und, AV.und, AV.und, AV.und, AV.und, AV.und, AV.und, AV.und, AV.und, AV.und, AV.und, AV.und, AV.und, AV.und, AV.und, AV.und, AV.und, AV.und,
    AV.und, AV.und, AV.und, AV.und, AV.und, AV.und, AV.und, AV.und, AV.und, AV.und, AV.und, AV.und, AV.und, AV.und, AV.und, AV.und, AV.und, AV.und, AV.und, AV.und, AV.und]
  [some
      [Sg.a (Sz.s d.2.2.2.2.2.2.2.2.1)
          [Col.i IntKind.i64 d.2.2.2.2.2.2.2.2.2.1, Col.i IntKind.i64 d.2.2.2.2.2.2.2.2.2.2.1,
            Col.i IntKind.i64 d.2.2.2.2.2.2.2.2.2.2.2.1, Col.i IntKind.i64 d.2.2.2.2.2.2.2.2.2.2.2.2.1,
            Col.i IntKind.i64 d.2.2.2.2.2.2.2.2.2.2.2.2.2.1, Col.i IntKind.i64 d.2.2.2.2.2.2.2.2.2.2.2.2.2.2.1,
            Col.i IntKind.i64 d.2.2.2.2.2.2.2.2.2.2.2.2.2.2.2.1, Col.i IntKind.i64 d.2.2.2.2.2.2.2.2.2.2.2.2.2.2.2.2.1]],
    some
      [Sg.c (CV.f (FV.i IntKind.i64 d.2.2.2.2.2.2.2.2.2.2.2.2.2.2.2.2.2.1)),
        Sg.c (CV.f (FV.i IntKind.i64 d.2.2.2.2.2.2.2.2.2.2.2.2.2.2.2.2.2.2.1)),
        Sg.c (CV.f (FV.i IntKind.i64 d.2.2.2.2.2.2.2.2.2.2.2.2.2.2.2.2.2.2.2.1)),
        Sg.c (CV.f (FV.i IntKind.i64 d.2.2.2.2.2.2.2.2.2.2.2.2.2.2.2.2.2.2.2.2.1)),
        Sg.c (CV.f (FV.i IntKind.i64 d.2.2.2.2.2.2.2.2.2.2.2.2.2.2.2.2.2.2.2.2.2.1)),
        Sg.c (CV.f (FV.i IntKind.i64 d.2.2.2.2.2.2.2.2.2.2.2.2.2.2.2.2.2.2.2.2.2.2.1)),
        Sg.c (CV.f (FV.i IntKind.i64 d.2.2.2.2.2.2.2.2.2.2.2.2.2.2.2.2.2.2.2.2.2.2.2.1)),
        Sg.c (CV.f (FV.i IntKind.i64 d.2.2.2.2.2.2.2.2.2.2.2.2.2.2.2.2.2.2.2.2.2.2.2.2.1)),
        Sg.c (CV.f (FV.i IntKind.i64 d.2.2.2.2.2.2.2.2.2.2.2.2.2.2.2.2.2.2.2.2.2.2.2.2.2.1)),
        Sg.c (CV.f (FV.b d.2.2.2.2.2.2.2.2.2.2.2.2.2.2.2.2.2.2.2.2.2.2.2.2.2.2.1))],
    some [Sg.c (CV.f (FV.b d.2.2.2.2.2.2.2.2.2.2.2.2.2.2.2.2.2.2.2.2.2.2.2.2.2.2.2.1))],
    some
      [Sg.a (Sz.s d.2.2.2.2.2.2.2.2.2.2.2.2.2.2.2.2.2.2.2.2.2.2.2.2.2.2.2.2.1)
          [Col.i IntKind.i64 d.2.2.2.2.2.2.2.2.2.2.2.2.2.2.2.2.2.2.2.2.2.2.2.2.2.2.2.2.2.1,
            Col.i IntKind.i64 d.2.2.2.2.2.2.2.2.2.2.2.2.2.2.2.2.2.2.2.2.2.2.2.2.2.2.2.2.2.2.1,
            Col.i IntKind.i64 d.2.2.2.2.2.2.2.2.2.2.2.2.2.2.2.2.2.2.2.2.2.2.2.2.2.2.2.2.2.2.2.1,
            Col.i IntKind.i64 d.2.2.2.2.2.2.2.2.2.2.2.2.2.2.2.2.2.2.2.2.2.2.2.2.2.2.2.2.2.2.2.2.1,
            Col.i IntKind.i64 d.2.2.2.2.2.2.2.2.2.2.2.2.2.2.2.2.2.2.2.2.2.2.2.2.2.2.2.2.2.2.2.2.2.1,
            Col.i IntKind.i64 d.2.2.2.2.2.2.2.2.2.2.2.2.2.2.2.2.2.2.2.2.2.2.2.2.2.2.2.2.2.2.2.2.2.2.1,
            Col.i IntKind.i64 d.2.2.2.2.2.2.2.2.2.2.2.2.2.2.2.2.2.2.2.2.2.2.2.2.2.2.2.2.2.2.2.2.2.2.2.1,
            Col.i IntKind.i64 d.2.2.2.2.2.2.2.2.2.2.2.2.2.2.2.2.2.2.2.2.2.2.2.2.2.2.2.2.2.2.2.2.2.2.2.2]]]
  []))) := by kernel_rfl
theorem it_astrolabelaw14_DownsJoins_0 {ρ : Type} (x0 : Nat) (x1 : Bool) (x2 : Nat) (x3 : Int) (x4 : Int) (x5 : Int) (x6 : Nat) (x7 : Nat → Int) (x8 : Nat → Int) (x9 : Nat → Int) (x10 : Nat → Int) (x11 : Nat → Int) (x12 : Nat → Int) (x13 : Nat → Int) (x14 : Nat → Int) (x15 : Int) (x16 : Int) (x17 : Int) (x18 : Int) (x19 : Int) (x20 : Int) (x21 : Int) (x22 : Int) (x23 : Int) (x24 : Bool) (x25 : Bool) (x26 : Nat) (x27 : Nat → Int) (x28 : Nat → Int) (x29 : Nat → Int) (x30 : Nat → Int) (x31 : Nat → Int) (x32 : Nat → Int) (x33 : Nat → Int) (x34 : Nat → Int) (K : AX → St → Option ρ) :
    iter (fun t => t.head 1 ⟨[⟨11, [0, 3, 4, 6, 12, 13, 14, 15, 16, 17, 18, 19, 20, 21, 22, 23, 24, 25, 26, 27, 28, 29, 30, 31, 32, 33, 34, 35, 36, 37, 38, 39, 40, 41, 42, 43, 44, 45, 46, 47, 48, 49, 50, 51, 52, 53, 54, 55, 56, 57, 58, 59, 60, 61, 62, 63, 64, 65, 66, 67, 68, 69, 70, 71, 72, 73, 74, 75, 79, 80, 81, 82, 83, 84, 85, 86, 87, 88, 89, 76, 77, 78], [(8, [.i .i64, .i .i64, .i .i64, .i .i64, .i .i64, .i .i64, .i .i64, .i .i64])]⟩], [⟨11, 1, @R_astrolabelaw14_DownsJoins_0 (@L_astrolabelaw14_DownsJoins_0)⟩], [], [], (some ⟨0, [0, 1, 2, 3, 5, 6, 7, 8, 9, 10, 11, 12, 13, 14, 15, 16, 17, 18, 19, 20, 21, 22, 23, 24, 25, 26, 27, 28, 29, 30, 31, 32, 33, 34, 35, 36, 37, 38, 39, 40, 41, 42, 43, 44, 45, 46, 47, 48, 49, 50, 51, 52, 53, 54, 55, 56, 57, 58, 59, 60, 61, 62, 63, 64, 65, 66, 67, 68, 69, 70, 71, 72, 73, 74, 75, 76, 77, 78, 79, 80, 81, 82, 83, 84, 85, 86, 87, 88, 89], []⟩)⟩ (loopIn Try.prog 9 11)) (runC Try.prog (envOf [(30, F_astrolabelaw14_awake f_astrolabelaw14_awake), (31, F_downs_New f_downs_New), (32, F___downs_Sampler__Put f___downs_Sampler__Put), (33, F_downs_Join f_downs_Join), (35, F___downs_Sampler__Pending f___downs_Sampler__Pending)]) ⟨[⟨11, [0, 3, 4, 6, 12, 13, 14, 15, 16, 17, 18, 19, 20, 21, 22, 23, 24, 25, 26, 27, 28, 29, 30, 31, 32, 33, 34, 35, 36, 37, 38, 39, 40, 41, 42, 43, 44, 45, 46, 47, 48, 49, 50, 51, 52, 53, 54, 55, 56, 57, 58, 59, 60, 61, 62, 63, 64, 65, 66, 67, 68, 69, 70, 71, 72, 73, 74, 75, 79, 80, 81, 82, 83, 84, 85, 86, 87, 88, 89, 76, 77, 78], [(8, [.i .i64, .i .i64, .i .i64, .i .i64, .i .i64, .i .i64, .i .i64, .i .i64])]⟩], [⟨11, 1, @R_astrolabelaw14_DownsJoins_0 (@L_astrolabelaw14_DownsJoins_0)⟩], [], [], (some ⟨0, [0, 1, 2, 3, 5, 6, 7, 8, 9, 10, 11, 12, 13, 14, 15, 16, 17, 18, 19, 20, 21, 22, 23, 24, 25, 26, 27, 28, 29, 30, 31, 32, 33, 34, 35, 36, 37, 38, 39, 40, 41, 42, 43, 44, 45, 46, 47, 48, 49, 50, 51, 52, 53, 54, 55, 56, 57, 58, 59, 60, 61, 62, 63, 64, 65, 66, 67, 68, 69, 70, 71, 72, 73, 74, 75, 76, 77, 78, 79, 80, 81, 82, 83, 84, 85, 86, 87, 88, 89], []⟩)⟩ (tmpsOf Try.prog 9) 1 200 (loopIn Try.prog 9 11)) K 200
      (St.mk
    [AV.und, AV.r (RV.c (CV.sl 0 (Off.k 0) (Sz.s x0) 8 x1)), AV.tup [], AV.und, AV.und, AV.r (RV.c (CV.ptr 1 (Off.k 0) 10)), AV.und, AV.r (RV.c (CV.ptr 2 (Off.k 0) 1)),
      AV.r (RV.c (CV.sl 3 (Off.k 0) (Sz.s x2) 8 true)), AV.r (RV.c (CV.f (FV.i IntKind.i64 x3))), AV.r (RV.c (CV.f (FV.i IntKind.i64 x4))), AV.r (RV.c (CV.f (FV.i IntKind.i64 x5))), AV.und, AV.und,
      AV.und, AV.und, AV.und, AV.und, AV.und, AV.und, AV.und, AV.und, AV.und, AV.und, AV.und, AV.und, AV.und, AV.und, AV.und, AV.und, AV.und, AV.und, AV.und, AV.und, AV.und, AV.und, AV.und, AV.und,
      AV.und, AV.und, AV.und, AV.und, AV.und, AV.und, AV.und, AV.und, AV.und, AV.und, AV.und, AV.und, AV.und, AV.und, AV.und, AV.und, AV.und, AV.und, AV.und, AV.und, AV.und, AV.und, AV.und, AV.und,
      AV.und, AV.und, AV.und, AV.und, AV.und, AV.und, AV.und, AV.und, AV.und, AV.und, AV.und, AV.und, AV.und, AV.und, AV.und, AV.und, AV.und, AV.und, AV.und, AV.und, AV.und, AV.und, AV.und, AV.und,
      AV.und, AV.und, AV.und, AV.und]
    [some
        [Sg.a (Sz.s x6)
            [Col.i IntKind.i64 x7, Col.i IntKind.i64 x8, Col.i IntKind.i64 x9, Col.i IntKind.i64 x10, Col.i IntKind.i64 x11, Col.i IntKind.i64 x12, Col.i IntKind.i64 x13, Col.i IntKind.i64 x14]],
      some
        [Sg.c (CV.f (FV.i IntKind.i64 x15)), Sg.c (CV.f (FV.i IntKind.i64 x16)), Sg.c (CV.f (FV.i IntKind.i64 x17)), Sg.c (CV.f (FV.i IntKind.i64 x18)), Sg.c (CV.f (FV.i IntKind.i64 x19)),
          Sg.c (CV.f (FV.i IntKind.i64 x20)), Sg.c (CV.f (FV.i IntKind.i64 x21)), Sg.c (CV.f (FV.i IntKind.i64 x22)), Sg.c (CV.f (FV.i IntKind.i64 x23)), Sg.c (CV.f (FV.b x24))],
      some [Sg.c (CV.f (FV.b x25))],
      some
        [Sg.a (Sz.s x26)
            [Col.i IntKind.i64 x27, Col.i IntKind.i64 x28, Col.i IntKind.i64 x29, Col.i IntKind.i64 x30, Col.i IntKind.i64 x31, Col.i IntKind.i64 x32, Col.i IntKind.i64 x33, Col.i IntKind.i64 x34]]]
    []) = L_astrolabelaw14_DownsJoins_0 (x0, x1, x2, x3, x4, x5, x6, x7, x8, x9, x10, x11, x12, x13, x14, x15, x16, x17, x18, x19, x20, x21, x22, x23, x24, x25, x26, x27, x28, x29, x30, x31, x32, x33, x34) (Sum.elim (fun d => K (AX.ret) (St.mk
  [AV.und, AV.und, AV.und, AV.und, AV.r (RV.c (CV.f (FV.b false))), AV.und, AV.und, AV.und, AV.und, AV.und, AV.und, AV.und, AV.und, AV.und, AV.und, AV.und, AV.und, AV.und, AV.und, AV.und, AV.und,
    AV.und, AV.und, AV.und, AV.und, AV.und, AV.und, AV.und, AV.und, AV.und, AV.und, AV.und, AV.und, AV.und, AV.und, AV.und, AV.und, AV.und, AV.und, AV.und, AV.und, AV.und, AV.und, AV.und, AV.und,
    AV.und, AV.und, AV.und, AV.und, AV.und, AV.und, AV.und, AV.und, AV.und, AV.und, AV.und, AV.und, AV.und, AV.und, AV.und, AV.und, AV.und, AV.und, AV.und, AV.und, AV.und, AV.und, AV.und, AV.und,
    AV.und, AV.und, AV.und, AV.und, AV.und, AV.und, AV.und, AV.und, AV.und, AV.und, AV.und, AV.und, AV.und, AV.und, AV.und, AV.und, AV.und, AV.und, AV.und, AV.und, AV.und]
  [some
      [Sg.a (Sz.s d.1)
          [Col.i IntKind.i64 d.2.1, Col.i IntKind.i64 d.2.2.1, Col.i IntKind.i64 d.2.2.2.1, Col.i IntKind.i64 d.2.2.2.2.1, Col.i IntKind.i64 d.2.2.2.2.2.1,
            Col.i IntKind.i64 d.2.2.2.2.2.2.1, Col.i IntKind.i64 d.2.2.2.2.2.2.2.1, Col.i IntKind.i64 d.2.2.2.2.2.2.2.2]]]
  [])) (fun d => K (AX.ex 0) (St.mk
  [AV.und, AV.r (RV.c (CV.sl 0 (Off.k 0) (Sz.s d.1) 8 d.2.1)), AV.tup [], AV.und, AV.und, AV.r (RV.c (CV.ptr 1 (Off.k 0) 10)), AV.und, AV.r (RV.c (CV.ptr 2 (Off.k 0) 1)),
    AV.r (RV.c (CV.sl 3 (Off.k 0) (Sz.s d.2.2.1) 8 true)), AV.r (RV.c (CV.f (FV.i IntKind.i64 d.2.2.2.1))), AV.r (RV.c (CV.f (FV.i IntKind.i64 d.2.2.2.2.1))),
    AV.r (RV.c (CV.f (FV.i IntKind.i64 d.2.2.2.2.2.1))), AV.und, AV.und, AV.und, AV.und, AV.und, AV.und, AV.und, AV.und, AV.und, AV.und, AV.und, AV.und, AV.und, AV.und, AV.und, AV.und,
    AV.und, AV.und, AV.und, AV.und, AV.und, AV.r (RV.c (CV.f (FV.i IntKind.i64 d.2.2.2.2.2.1))), AV.r (RV.c (CV.sl 0 (Off.k 0) (Sz.s d.1) 8 d.2.1)),
    AV.r (RV.c (CV.f (FV.i IntKind.i64 d.2.2.2.2.2.2.1))), AV.r (RV.c (CV.f (FV.b d.2.2.2.2.2.2.2.1))), AV.und, AV.und, AV.und, AV.und, AV.und, AV.und, AV.und, AV.und,
    AV.und, AV.und, AV.und, AV.und, AV.und, AV.und, AV.und, AV.und, AV.und, AV.und, AV.und, AV.und, AV.und, AV.und, AV.und, AV.und, AV.und, AV.und, AV.und, AV.und, AV.und, AV.und, AV.und, AV.und,
    AV.und, AV.und, AV.und, AV.und, AV.und, AV.und, AV.und, AV.und, AV.und, AV.und, AV.und, AV.und, AV.und, AV.und, AV.und, AV.und, AV.und, AV.und, AV.und, AV.und, AV.und]
  [some
      [Sg.a (Sz.s d.2.2.2.2.2.2.2.2.1)
          [Col.i IntKind.i64 d.2.2.2.2.2.2.2.2.2.1, Col.i IntKind.i64 d.2.2.2.2.2.2.2.2.2.2.1,
            Col.i IntKind.i64 d.2.2.2.2.2.2.2.2.2.2.2.1, Col.i IntKind.i64 d.2.2.2.2.2.2.2.2.2.2.2.2.1,
            Col.i IntKind.i64 d.2.2.2.2.2.2.2.2.2.2.2.2.2.1, Col.i IntKind.i64 d.2.2.2.2.2.2.2.2.2.2.2.2.2.2.1,
            Col.i IntKind.i64 d.2.2.2.2.2.2.2.2.2.2.2.2.2.2.2.1, Col.i IntKind.i64 d.2.2.2.2.2.2.2.2.2.2.2.2.2.2.2.2.1]],
    some
      [Sg.c (CV.f (FV.i IntKind.i64 d.2.2.2.2.2.2.2.2.2.2.2.2.2.2.2.2.2.1)),
        Sg.c (CV.f (FV.i IntKind.i64 d.2.2.2.2.2.2.2.2.2.2.2.2.2.2.2.2.2.2.1)),
        Sg.c (CV.f (FV.i IntKind.i64 d.2.2.2.2.2.2.2.2.2.2.2.2.2.2.2.2.2.2.2.1)),
        Sg.c (CV.f (FV.i IntKind.i64 d.2.2.2.2.2.2.2.2.2.2.2.2.2.2.2.2.2.2.2.2.1)),
        Sg.c (CV.f (FV.i IntKind.i64 d.2.2.2.2.2.2.2.2.2.2.2.2.2.2.2.2.2.2.2.2.2.1)),
        Sg.c (CV.f (FV.i IntKind.i64 d.2.2.2.2.2.2.2.2.2.2.2.2.2.2.2.2.2.2.2.2.2.2.1)),
        Sg.c (CV.f (FV.i IntKind.i64 d.2.2.2.2.2.2.2.2.2.2.2.2.2.2.2.2.2.2.2.2.2.2.2.1)),
        Sg.c (CV.f (FV.i IntKind.i64 d.2.2.2.2.2.2.2.2.2.2.2.2.2.2.2.2.2.2.2.2.2.2.2.2.1)),
        Sg.c (CV.f (FV.i IntKind.i64 d.2.2.2.2.2.2.2.2.2.2.2.2.2.2.2.2.2.2.2.2.2.2.2.2.2.1)),
        Sg.c (CV.f (FV.b d.2.2.2.2.2.2.2.2.2.2.2.2.2.2.2.2.2.2.2.2.2.2.2.2.2.2.1))],
    some [Sg.c (CV.f (FV.b d.2.2.2.2.2.2.2.2.2.2.2.2.2.2.2.2.2.2.2.2.2.2.2.2.2.2.2.1))],
    some
      [Sg.a (Sz.s d.2.2.2.2.2.2.2.2.2.2.2.2.2.2.2.2.2.2.2.2.2.2.2.2.2.2.2.2.1)
          [Col.i IntKind.i64 d.2.2.2.2.2.2.2.2.2.2.2.2.2.2.2.2.2.2.2.2.2.2.2.2.2.2.2.2.2.1,
            Col.i IntKind.i64 d.2.2.2.2.2.2.2.2.2.2.2.2.2.2.2.2.2.2.2.2.2.2.2.2.2.2.2.2.2.2.1,
            Col.i IntKind.i64 d.2.2.2.2.2.2.2.2.2.2.2.2.2.2.2.2.2.2.2.2.2.2.2.2.2.2.2.2.2.2.2.1,
            Col.i IntKind.i64 d.2.2.2.2.2.2.2.2.2.2.2.2.2.2.2.2.2.2.2.2.2.2.2.2.2.2.2.2.2.2.2.2.1,
            Col.i IntKind.i64 d.2.2.2.2.2.2.2.2.2.2.2.2.2.2.2.2.2.2.2.2.2.2.2.2.2.2.2.2.2.2.2.2.2.1,
            Col.i IntKind.i64 d.2.2.2.2.2.2.2.2.2.2.2.2.2.2.2.2.2.2.2.2.2.2.2.2.2.2.2.2.2.2.2.2.2.2.1,
            Col.i IntKind.i64 d.2.2.2.2.2.2.2.2.2.2.2.2.2.2.2.2.2.2.2.2.2.2.2.2.2.2.2.2.2.2.2.2.2.2.2.1,
            Col.i IntKind.i64 d.2.2.2.2.2.2.2.2.2.2.2.2.2.2.2.2.2.2.2.2.2.2.2.2.2.2.2.2.2.2.2.2.2.2.2.2]]]
  []))) :=
  iter_loopX (emb := fun (d : Nat ×
  Bool ×
    Nat ×
      Int ×
        Int ×
          Int ×
            Nat ×
              (Nat → Int) ×
                (Nat → Int) ×
                  (Nat → Int) ×
                    (Nat → Int) ×
                      (Nat → Int) ×
                        (Nat → Int) ×
                          (Nat → Int) ×
                            (Nat → Int) ×
                              Int ×
                                Int ×
                                  Int ×
                                    Int ×
                                      Int × Int × Int × Int × Int × Bool × Bool × Nat × (Nat → Int) × (Nat → Int) × (Nat → Int) × (Nat → Int) × (Nat → Int) × (Nat → Int) × (Nat → Int) × (Nat → Int)) => St.mk
  [AV.und, AV.r (RV.c (CV.sl 0 (Off.k 0) (Sz.s d.1) 8 d.2.1)), AV.tup [], AV.und, AV.und, AV.r (RV.c (CV.ptr 1 (Off.k 0) 10)), AV.und, AV.r (RV.c (CV.ptr 2 (Off.k 0) 1)),
    AV.r (RV.c (CV.sl 3 (Off.k 0) (Sz.s d.2.2.1) 8 true)), AV.r (RV.c (CV.f (FV.i IntKind.i64 d.2.2.2.1))), AV.r (RV.c (CV.f (FV.i IntKind.i64 d.2.2.2.2.1))),
    AV.r (RV.c (CV.f (FV.i IntKind.i64 d.2.2.2.2.2.1))), AV.und, AV.und, AV.und, AV.und, AV.und, AV.und, AV.und, AV.und, AV.und, AV.und, AV.und, AV.und, AV.und, AV.und, AV.und, AV.und,
    AV.und, AV.und, AV.und, AV.und, AV.und, AV.und, AV.und, AV.und, AV.und, AV.und, AV.und, AV.und, AV.und, AV.und, AV.und, AV.und, AV.und, AV.und, AV.und, AV.und, AV.und, AV.und, AV.und, AV.und,
    AV.und, AV.und, AV.und, AV.und, AV.und, AV.und, AV.und, AV.und, AV.und, AV.und, AV.und, AV.und, AV.und, AV.und, AV.und, AV.und, AV.und, AV.und, AV.und, AV.und, AV.und, AV.und, AV.und, AV.und,
    AV.und, AV.und, AV.und, AV.und, AV.und, AV.und, AV.und, AV.und, AV.und, AV.und, AV.und, AV.und, AV.und, AV.und]
  [some
      [Sg.a (Sz.s d.2.2.2.2.2.2.1)
          [Col.i IntKind.i64 d.2.2.2.2.2.2.2.1, Col.i IntKind.i64 d.2.2.2.2.2.2.2.2.1, Col.i IntKind.i64 d.2.2.2.2.2.2.2.2.2.1,
            Col.i IntKind.i64 d.2.2.2.2.2.2.2.2.2.2.1, Col.i IntKind.i64 d.2.2.2.2.2.2.2.2.2.2.2.1,
            Col.i IntKind.i64 d.2.2.2.2.2.2.2.2.2.2.2.2.1, Col.i IntKind.i64 d.2.2.2.2.2.2.2.2.2.2.2.2.2.1,
            Col.i IntKind.i64 d.2.2.2.2.2.2.2.2.2.2.2.2.2.2.1]],
    some
      [Sg.c (CV.f (FV.i IntKind.i64 d.2.2.2.2.2.2.2.2.2.2.2.2.2.2.2.1)),
        Sg.c (CV.f (FV.i IntKind.i64 d.2.2.2.2.2.2.2.2.2.2.2.2.2.2.2.2.1)),
        Sg.c (CV.f (FV.i IntKind.i64 d.2.2.2.2.2.2.2.2.2.2.2.2.2.2.2.2.2.1)),
        Sg.c (CV.f (FV.i IntKind.i64 d.2.2.2.2.2.2.2.2.2.2.2.2.2.2.2.2.2.2.1)),
        Sg.c (CV.f (FV.i IntKind.i64 d.2.2.2.2.2.2.2.2.2.2.2.2.2.2.2.2.2.2.2.1)),
        Sg.c (CV.f (FV.i IntKind.i64 d.2.2.2.2.2.2.2.2.2.2.2.2.2.2.2.2.2.2.2.2.1)),
        Sg.c (CV.f (FV.i IntKind.i64 d.2.2.2.2.2.2.2.2.2.2.2.2.2.2.2.2.2.2.2.2.2.1)),
        Sg.c (CV.f (FV.i IntKind.i64 d.2.2.2.2.2.2.2.2.2.2.2.2.2.2.2.2.2.2.2.2.2.2.1)),
        Sg.c (CV.f (FV.i IntKind.i64 d.2.2.2.2.2.2.2.2.2.2.2.2.2.2.2.2.2.2.2.2.2.2.2.1)),
        Sg.c (CV.f (FV.b d.2.2.2.2.2.2.2.2.2.2.2.2.2.2.2.2.2.2.2.2.2.2.2.2.1))],
    some [Sg.c (CV.f (FV.b d.2.2.2.2.2.2.2.2.2.2.2.2.2.2.2.2.2.2.2.2.2.2.2.2.2.1))],
    some
      [Sg.a (Sz.s d.2.2.2.2.2.2.2.2.2.2.2.2.2.2.2.2.2.2.2.2.2.2.2.2.2.2.1)
          [Col.i IntKind.i64 d.2.2.2.2.2.2.2.2.2.2.2.2.2.2.2.2.2.2.2.2.2.2.2.2.2.2.2.1,
            Col.i IntKind.i64 d.2.2.2.2.2.2.2.2.2.2.2.2.2.2.2.2.2.2.2.2.2.2.2.2.2.2.2.2.1,
            Col.i IntKind.i64 d.2.2.2.2.2.2.2.2.2.2.2.2.2.2.2.2.2.2.2.2.2.2.2.2.2.2.2.2.2.1,
            Col.i IntKind.i64 d.2.2.2.2.2.2.2.2.2.2.2.2.2.2.2.2.2.2.2.2.2.2.2.2.2.2.2.2.2.2.1,
            Col.i IntKind.i64 d.2.2.2.2.2.2.2.2.2.2.2.2.2.2.2.2.2.2.2.2.2.2.2.2.2.2.2.2.2.2.2.1,
            Col.i IntKind.i64 d.2.2.2.2.2.2.2.2.2.2.2.2.2.2.2.2.2.2.2.2.2.2.2.2.2.2.2.2.2.2.2.2.1,
            Col.i IntKind.i64 d.2.2.2.2.2.2.2.2.2.2.2.2.2.2.2.2.2.2.2.2.2.2.2.2.2.2.2.2.2.2.2.2.2.1,
            Col.i IntKind.i64 d.2.2.2.2.2.2.2.2.2.2.2.2.2.2.2.2.2.2.2.2.2.2.2.2.2.2.2.2.2.2.2.2.2.2]]]
  []) (step := fun d c x => S_astrolabelaw14_DownsJoins_0 f_astrolabelaw14_awake f_downs_New f___downs_Sampler__Put f_downs_Join f___downs_Sampler__Pending  d.1 d.2.1 d.2.2.1 d.2.2.2.1 d.2.2.2.2.1 d.2.2.2.2.2.1 d.2.2.2.2.2.2.1 d.2.2.2.2.2.2.2.1 d.2.2.2.2.2.2.2.2.1 d.2.2.2.2.2.2.2.2.2.1 d.2.2.2.2.2.2.2.2.2.2.1 d.2.2.2.2.2.2.2.2.2.2.2.1 d.2.2.2.2.2.2.2.2.2.2.2.2.1 d.2.2.2.2.2.2.2.2.2.2.2.2.2.1 d.2.2.2.2.2.2.2.2.2.2.2.2.2.2.1 d.2.2.2.2.2.2.2.2.2.2.2.2.2.2.2.1 d.2.2.2.2.2.2.2.2.2.2.2.2.2.2.2.2.1 d.2.2.2.2.2.2.2.2.2.2.2.2.2.2.2.2.2.1 d.2.2.2.2.2.2.2.2.2.2.2.2.2.2.2.2.2.2.1 d.2.2.2.2.2.2.2.2.2.2.2.2.2.2.2.2.2.2.2.1 d.2.2.2.2.2.2.2.2.2.2.2.2.2.2.2.2.2.2.2.2.1 d.2.2.2.2.2.2.2.2.2.2.2.2.2.2.2.2.2.2.2.2.2.1 d.2.2.2.2.2.2.2.2.2.2.2.2.2.2.2.2.2.2.2.2.2.2.1 d.2.2.2.2.2.2.2.2.2.2.2.2.2.2.2.2.2.2.2.2.2.2.2.1 d.2.2.2.2.2.2.2.2.2.2.2.2.2.2.2.2.2.2.2.2.2.2.2.2.1 d.2.2.2.2.2.2.2.2.2.2.2.2.2.2.2.2.2.2.2.2.2.2.2.2.2.1 d.2.2.2.2.2.2.2.2.2.2.2.2.2.2.2.2.2.2.2.2.2.2.2.2.2.2.1 d.2.2.2.2.2.2.2.2.2.2.2.2.2.2.2.2.2.2.2.2.2.2.2.2.2.2.2.1 d.2.2.2.2.2.2.2.2.2.2.2.2.2.2.2.2.2.2.2.2.2.2.2.2.2.2.2.2.1 d.2.2.2.2.2.2.2.2.2.2.2.2.2.2.2.2.2.2.2.2.2.2.2.2.2.2.2.2.2.1 d.2.2.2.2.2.2.2.2.2.2.2.2.2.2.2.2.2.2.2.2.2.2.2.2.2.2.2.2.2.2.1 d.2.2.2.2.2.2.2.2.2.2.2.2.2.2.2.2.2.2.2.2.2.2.2.2.2.2.2.2.2.2.2.1 d.2.2.2.2.2.2.2.2.2.2.2.2.2.2.2.2.2.2.2.2.2.2.2.2.2.2.2.2.2.2.2.2.1 d.2.2.2.2.2.2.2.2.2.2.2.2.2.2.2.2.2.2.2.2.2.2.2.2.2.2.2.2.2.2.2.2.2.1 d.2.2.2.2.2.2.2.2.2.2.2.2.2.2.2.2.2.2.2.2.2.2.2.2.2.2.2.2.2.2.2.2.2.2 c x) (kx := (Sum.elim (fun d => K (AX.ret) (St.mk
  [AV.und, AV.und, AV.und, AV.und, AV.r (RV.c (CV.f (FV.b false))), AV.und, AV.und, AV.und, AV.und, AV.und, AV.und, AV.und, AV.und, AV.und, AV.und, AV.und, AV.und, AV.und, AV.und, AV.und, AV.und,
    AV.und, AV.und, AV.und, AV.und, AV.und, AV.und, AV.und, AV.und, AV.und, AV.und, AV.und, AV.und, AV.und, AV.und, AV.und, AV.und, AV.und, AV.und, AV.und, AV.und, AV.und, AV.und, AV.und, AV.und,
    AV.und, AV.und, AV.und, AV.und, AV.und, AV.und, AV.und, AV.und, AV.und, AV.und, AV.und, AV.und, AV.und, AV.und, AV.und, AV.und, AV.und, AV.und, AV.und, AV.und, AV.und, AV.und, AV.und, AV.und,
    AV.und, AV.und, AV.und, AV.und, AV.und, AV.und, AV.und, AV.und, AV.und, AV.und, AV.und, AV.und, AV.und, AV.und, AV.und, AV.und, AV.und, AV.und, AV.und, AV.und, AV.und]
  [some
      [Sg.a (Sz.s d.1)
          [Col.i IntKind.i64 d.2.1, Col.i IntKind.i64 d.2.2.1, Col.i IntKind.i64 d.2.2.2.1, Col.i IntKind.i64 d.2.2.2.2.1, Col.i IntKind.i64 d.2.2.2.2.2.1,
            Col.i IntKind.i64 d.2.2.2.2.2.2.1, Col.i IntKind.i64 d.2.2.2.2.2.2.2.1, Col.i IntKind.i64 d.2.2.2.2.2.2.2.2]]]
  [])) (fun d => K (AX.ex 0) (St.mk
  [AV.und, AV.r (RV.c (CV.sl 0 (Off.k 0) (Sz.s d.1) 8 d.2.1)), AV.tup [], AV.und, AV.und, AV.r (RV.c (CV.ptr 1 (Off.k 0) 10)), AV.und, AV.r (RV.c (CV.ptr 2 (Off.k 0) 1)),
    AV.r (RV.c (CV.sl 3 (Off.k 0) (Sz.s d.2.2.1) 8 true)), AV.r (RV.c (CV.f (FV.i IntKind.i64 d.2.2.2.1))), AV.r (RV.c (CV.f (FV.i IntKind.i64 d.2.2.2.2.1))),
    AV.r (RV.c (CV.f (FV.i IntKind.i64 d.2.2.2.2.2.1))), AV.und, AV.und, AV.und, AV.und, AV.und, AV.und, AV.und, AV.und, AV.und, AV.und, AV.und, AV.und, AV.und, AV.und, AV.und, AV.und,
    AV.und, AV.und, AV.und, AV.und, AV.und, AV.r (RV.c (CV.f (FV.i IntKind.i64 d.2.2.2.2.2.1))), AV.r (RV.c (CV.sl 0 (Off.k 0) (Sz.s d.1) 8 d.2.1)),
    AV.r (RV.c (CV.f (FV.i IntKind.i64 d.2.2.2.2.2.2.1))), AV.r (RV.c (CV.f (FV.b d.2.2.2.2.2.2.2.1))), AV.und, AV.und, AV.und, AV.und, AV.und, AV.und, AV.und, AV.und,
    AV.und, AV.und, AV.und, AV.und, AV.und, AV.und, AV.und, AV.und, AV.und, AV.und, AV.und, AV.und, AV.und, AV.und, AV.und, AV.und, AV.und, AV.und, AV.und, AV.und, AV.und, AV.und, AV.und, AV.und,
    AV.und, AV.und, AV.und, AV.und, AV.und, AV.und, AV.und, AV.und, AV.und, AV.und, AV.und, AV.und, AV.und, AV.und, AV.und, AV.und, AV.und, AV.und, AV.und, AV.und, AV.und]
  [some
      [Sg.a (Sz.s d.2.2.2.2.2.2.2.2.1)
          [Col.i IntKind.i64 d.2.2.2.2.2.2.2.2.2.1, Col.i IntKind.i64 d.2.2.2.2.2.2.2.2.2.2.1,
            Col.i IntKind.i64 d.2.2.2.2.2.2.2.2.2.2.2.1, Col.i IntKind.i64 d.2.2.2.2.2.2.2.2.2.2.2.2.1,
            Col.i IntKind.i64 d.2.2.2.2.2.2.2.2.2.2.2.2.2.1, Col.i IntKind.i64 d.2.2.2.2.2.2.2.2.2.2.2.2.2.2.1,
            Col.i IntKind.i64 d.2.2.2.2.2.2.2.2.2.2.2.2.2.2.2.1, Col.i IntKind.i64 d.2.2.2.2.2.2.2.2.2.2.2.2.2.2.2.2.1]],
    some
      [Sg.c (CV.f (FV.i IntKind.i64 d.2.2.2.2.2.2.2.2.2.2.2.2.2.2.2.2.2.1)),
        Sg.c (CV.f (FV.i IntKind.i64 d.2.2.2.2.2.2.2.2.2.2.2.2.2.2.2.2.2.2.1)),
        Sg.c (CV.f (FV.i IntKind.i64 d.2.2.2.2.2.2.2.2.2.2.2.2.2.2.2.2.2.2.2.1)),
        Sg.c (CV.f (FV.i IntKind.i64 d.2.2.2.2.2.2.2.2.2.2.2.2.2.2.2.2.2.2.2.2.1)),
        Sg.c (CV.f (FV.i IntKind.i64 d.2.2.2.2.2.2.2.2.2.2.2.2.2.2.2.2.2.2.2.2.2.1)),
        Sg.c (CV.f (FV.i IntKind.i64 d.2.2.2.2.2.2.2.2.2.2.2.2.2.2.2.2.2.2.2.2.2.2.1)),
        Sg.c (CV.f (FV.i IntKind.i64 d.2.2.2.2.2.2.2.2.2.2.2.2.2.2.2.2.2.2.2.2.2.2.2.1)),
        Sg.c (CV.f (FV.i IntKind.i64 d.2.2.2.2.2.2.2.2.2.2.2.2.2.2.2.2.2.2.2.2.2.2.2.2.1)),
        Sg.c (CV.f (FV.i IntKind.i64 d.2.2.2.2.2.2.2.2.2.2.2.2.2.2.2.2.2.2.2.2.2.2.2.2.2.1)),
        Sg.c (CV.f (FV.b d.2.2.2.2.2.2.2.2.2.2.2.2.2.2.2.2.2.2.2.2.2.2.2.2.2.2.1))],
    some [Sg.c (CV.f (FV.b d.2.2.2.2.2.2.2.2.2.2.2.2.2.2.2.2.2.2.2.2.2.2.2.2.2.2.2.1))],
    some
      [Sg.a (Sz.s d.2.2.2.2.2.2.2.2.2.2.2.2.2.2.2.2.2.2.2.2.2.2.2.2.2.2.2.2.1)
          [Col.i IntKind.i64 d.2.2.2.2.2.2.2.2.2.2.2.2.2.2.2.2.2.2.2.2.2.2.2.2.2.2.2.2.2.1,
            Col.i IntKind.i64 d.2.2.2.2.2.2.2.2.2.2.2.2.2.2.2.2.2.2.2.2.2.2.2.2.2.2.2.2.2.2.1,
            Col.i IntKind.i64 d.2.2.2.2.2.2.2.2.2.2.2.2.2.2.2.2.2.2.2.2.2.2.2.2.2.2.2.2.2.2.2.1,
            Col.i IntKind.i64 d.2.2.2.2.2.2.2.2.2.2.2.2.2.2.2.2.2.2.2.2.2.2.2.2.2.2.2.2.2.2.2.2.1,
            Col.i IntKind.i64 d.2.2.2.2.2.2.2.2.2.2.2.2.2.2.2.2.2.2.2.2.2.2.2.2.2.2.2.2.2.2.2.2.2.1,
            Col.i IntKind.i64 d.2.2.2.2.2.2.2.2.2.2.2.2.2.2.2.2.2.2.2.2.2.2.2.2.2.2.2.2.2.2.2.2.2.2.1,
            Col.i IntKind.i64 d.2.2.2.2.2.2.2.2.2.2.2.2.2.2.2.2.2.2.2.2.2.2.2.2.2.2.2.2.2.2.2.2.2.2.2.1,
            Col.i IntKind.i64 d.2.2.2.2.2.2.2.2.2.2.2.2.2.2.2.2.2.2.2.2.2.2.2.2.2.2.2.2.2.2.2.2.2.2.2.2]]]
  []))))
    (fun d c => ds_astrolabelaw14_DownsJoins_0 f_astrolabelaw14_awake f_downs_New f___downs_Sampler__Put f_downs_Join f___downs_Sampler__Pending (@L_astrolabelaw14_DownsJoins_0) d.1 d.2.1 d.2.2.1 d.2.2.2.1 d.2.2.2.2.1 d.2.2.2.2.2.1 d.2.2.2.2.2.2.1 d.2.2.2.2.2.2.2.1 d.2.2.2.2.2.2.2.2.1 d.2.2.2.2.2.2.2.2.2.1 d.2.2.2.2.2.2.2.2.2.2.1 d.2.2.2.2.2.2.2.2.2.2.2.1 d.2.2.2.2.2.2.2.2.2.2.2.2.1 d.2.2.2.2.2.2.2.2.2.2.2.2.2.1 d.2.2.2.2.2.2.2.2.2.2.2.2.2.2.1 d.2.2.2.2.2.2.2.2.2.2.2.2.2.2.2.1 d.2.2.2.2.2.2.2.2.2.2.2.2.2.2.2.2.1 d.2.2.2.2.2.2.2.2.2.2.2.2.2.2.2.2.2.1 d.2.2.2.2.2.2.2.2.2.2.2.2.2.2.2.2.2.2.1 d.2.2.2.2.2.2.2.2.2.2.2.2.2.2.2.2.2.2.2.1 d.2.2.2.2.2.2.2.2.2.2.2.2.2.2.2.2.2.2.2.2.1 d.2.2.2.2.2.2.2.2.2.2.2.2.2.2.2.2.2.2.2.2.2.1 d.2.2.2.2.2.2.2.2.2.2.2.2.2.2.2.2.2.2.2.2.2.2.1 d.2.2.2.2.2.2.2.2.2.2.2.2.2.2.2.2.2.2.2.2.2.2.2.1 d.2.2.2.2.2.2.2.2.2.2.2.2.2.2.2.2.2.2.2.2.2.2.2.2.1 d.2.2.2.2.2.2.2.2.2.2.2.2.2.2.2.2.2.2.2.2.2.2.2.2.2.1 d.2.2.2.2.2.2.2.2.2.2.2.2.2.2.2.2.2.2.2.2.2.2.2.2.2.2.1 d.2.2.2.2.2.2.2.2.2.2.2.2.2.2.2.2.2.2.2.2.2.2.2.2.2.2.2.1 d.2.2.2.2.2.2.2.2.2.2.2.2.2.2.2.2.2.2.2.2.2.2.2.2.2.2.2.2.1 d.2.2.2.2.2.2.2.2.2.2.2.2.2.2.2.2.2.2.2.2.2.2.2.2.2.2.2.2.2.1 d.2.2.2.2.2.2.2.2.2.2.2.2.2.2.2.2.2.2.2.2.2.2.2.2.2.2.2.2.2.2.1 d.2.2.2.2.2.2.2.2.2.2.2.2.2.2.2.2.2.2.2.2.2.2.2.2.2.2.2.2.2.2.2.1 d.2.2.2.2.2.2.2.2.2.2.2.2.2.2.2.2.2.2.2.2.2.2.2.2.2.2.2.2.2.2.2.2.1 d.2.2.2.2.2.2.2.2.2.2.2.2.2.2.2.2.2.2.2.2.2.2.2.2.2.2.2.2.2.2.2.2.2.1 d.2.2.2.2.2.2.2.2.2.2.2.2.2.2.2.2.2.2.2.2.2.2.2.2.2.2.2.2.2.2.2.2.2.2 c K) 200 (x0, x1, x2, x3, x4, x5, x6, x7, x8, x9, x10, x11, x12, x13, x14, x15, x16, x17, x18, x19, x20, x21, x22, x23, x24, x25, x26, x27, x28, x29, x30, x31, x32, x33, x34)
theorem so_astrolabelaw14_DownsJoins_0 : ∀ kk, SumOK Try.prog (envOf [(30, F_astrolabelaw14_awake f_astrolabelaw14_awake), (31, F_downs_New f_downs_New), (32, F___downs_Sampler__Put f___downs_Sampler__Put), (33, F_downs_Join f_downs_Join), (35, F___downs_Sampler__Pending f___downs_Sampler__Pending)]) ⟨[⟨11, [0, 3, 4, 6, 12, 13, 14, 15, 16, 17, 18, 19, 20, 21, 22, 23, 24, 25, 26, 27, 28, 29, 30, 31, 32, 33, 34, 35, 36, 37, 38, 39, 40, 41, 42, 43, 44, 45, 46, 47, 48, 49, 50, 51, 52, 53, 54, 55, 56, 57, 58, 59, 60, 61, 62, 63, 64, 65, 66, 67, 68, 69, 70, 71, 72, 73, 74, 75, 79, 80, 81, 82, 83, 84, 85, 86, 87, 88, 89, 76, 77, 78], [(8, [.i .i64, .i .i64, .i .i64, .i .i64, .i .i64, .i .i64, .i .i64, .i .i64])]⟩], [⟨11, 1, @R_astrolabelaw14_DownsJoins_0 (@L_astrolabelaw14_DownsJoins_0)⟩], [], [], (some ⟨0, [0, 1, 2, 3, 5, 6, 7, 8, 9, 10, 11, 12, 13, 14, 15, 16, 17, 18, 19, 20, 21, 22, 23, 24, 25, 26, 27, 28, 29, 30, 31, 32, 33, 34, 35, 36, 37, 38, 39, 40, 41, 42, 43, 44, 45, 46, 47, 48, 49, 50, 51, 52, 53, 54, 55, 56, 57, 58, 59, 60, 61, 62, 63, 64, 65, 66, 67, 68, 69, 70, 71, 72, 73, 74, 75, 76, 77, 78, 79, 80, 81, 82, 83, 84, 85, 86, 87, 88, 89], []⟩)⟩ (tmpsOf Try.prog 9) kk 200 (loopIn Try.prog 9 11) :=
  SumOK.of (id := 11) (k0 := 1) (run := @R_astrolabelaw14_DownsJoins_0 (@L_astrolabelaw14_DownsJoins_0)) (by kernel_rfl) fun s K r hr => by
    unfold R_astrolabelaw14_DownsJoins_0 at hr
    obtain ⟨b, hb, hr1⟩ := Option.bind_eq_some_iff.1 hr
    have e := ((Q_astrolabelaw14_DownsJoins_0).ok s b hb).trans (q_astrolabelaw14_DownsJoins_0 b)
    subst e
    exact ⟨200, (it_astrolabelaw14_DownsJoins_0 b.1.2.1.2.2.1 b.1.2.1.2.2.2.2 b.1.2.2.2.2.2.2.2.2.1.2.2.1 b.1.2.2.2.2.2.2.2.2.2.1 b.1.2.2.2.2.2.2.2.2.2.2.1 b.1.2.2.2.2.2.2.2.2.2.2.2.1 b.2.1.1.1.1 b.2.1.1.1.2.1 b.2.1.1.1.2.2.1 b.2.1.1.1.2.2.2.1 b.2.1.1.1.2.2.2.2.1 b.2.1.1.1.2.2.2.2.2.1 b.2.1.1.1.2.2.2.2.2.2.1 b.2.1.1.1.2.2.2.2.2.2.2.1 b.2.1.1.1.2.2.2.2.2.2.2.2.1 b.2.1.2.1.1 b.2.1.2.1.2.1 b.2.1.2.1.2.2.1 b.2.1.2.1.2.2.2.1 b.2.1.2.1.2.2.2.2.1 b.2.1.2.1.2.2.2.2.2.1 b.2.1.2.1.2.2.2.2.2.2.1 b.2.1.2.1.2.2.2.2.2.2.2.1 b.2.1.2.1.2.2.2.2.2.2.2.2.1 b.2.1.2.1.2.2.2.2.2.2.2.2.2.1 b.2.1.2.2.1.1 b.2.1.2.2.2.1.1.1 b.2.1.2.2.2.1.1.2.1 b.2.1.2.2.2.1.1.2.2.1 b.2.1.2.2.2.1.1.2.2.2.1 b.2.1.2.2.2.1.1.2.2.2.2.1 b.2.1.2.2.2.1.1.2.2.2.2.2.1 b.2.1.2.2.2.1.1.2.2.2.2.2.2.1 b.2.1.2.2.2.1.1.2.2.2.2.2.2.2.1 b.2.1.2.2.2.1.1.2.2.2.2.2.2.2.2.1 K).trans hr1⟩
def K_astrolabelaw14_DownsJoins {ρ : Type} (g_astrolabelaw14_awake : Option Bool) (g_downs_New : Int → Option (Unit ⊕ Int)) (g___downs_Sampler__Put : Int →
  Int →
    Int →
      Int →
        Int →
          Int →
            Int →
              Int →
                Int →
                  Int →
                    Int →
                      Int →
                        Int →
                          Int → Int → Int → Int → Bool → Bool → Option (Int × Int × Int × Int × Int × Int × Int × Int × Bool × Int × Int × Int × Int × Int × Int × Int × Int × Int × Int × Bool × Bool)) (g_downs_Join : Nat → Bool → (Nat → Int) → (Nat → Int) → (Nat → Int) → (Nat → Int) → (Nat → Int) → (Nat → Int) → (Nat → Int) → (Nat → Int) → Bool → Option (Int × Int × Int × Int × Int × Int × Int × Int × Int × Bool)) (g___downs_Sampler__Pending : Int → Int → Int → Int → Int → Int → Int → Int → Int → Bool → Option Int) (l_0 : ∀ {ρ : Type}, (Nat ×
  Bool ×
    Nat ×
      Int ×
        Int ×
          Int ×
            Nat ×
              (Nat → Int) ×
                (Nat → Int) ×
                  (Nat → Int) ×
                    (Nat → Int) ×
                      (Nat → Int) ×
                        (Nat → Int) ×
                          (Nat → Int) ×
                            (Nat → Int) ×
                              Int ×
                                Int ×
                                  Int ×
                                    Int ×
                                      Int × Int × Int × Int × Int × Bool × Bool × Nat × (Nat → Int) × (Nat → Int) × (Nat → Int) × (Nat → Int) × (Nat → Int) × (Nat → Int) × (Nat → Int) × (Nat → Int)) → ((Nat × (Nat → Int) × (Nat → Int) × (Nat → Int) × (Nat → Int) × (Nat → Int) × (Nat → Int) × (Nat → Int) × (Nat → Int) ⊕
  Nat ×
    Bool ×
      Nat ×
        Int ×
          Int ×
            Int ×
              Int ×
                Bool ×
                  Nat ×
                    (Nat → Int) ×
                      (Nat → Int) ×
                        (Nat → Int) ×
                          (Nat → Int) ×
                            (Nat → Int) ×
                              (Nat → Int) ×
                                (Nat → Int) ×
                                  (Nat → Int) ×
                                    Int ×
                                      Int ×
                                        Int ×
                                          Int ×
                                            Int ×
                                              Int × Int × Int × Int × Bool × Bool × Nat × (Nat → Int) × (Nat → Int) × (Nat → Int) × (Nat → Int) × (Nat → Int) × (Nat → Int) × (Nat → Int) × (Nat → Int)) → Option ρ) → Option ρ) (x0 : Int) (x1 : Nat) (x2 : Nat → Int) (x3 : Nat → Int) (x4 : Nat → Int) (x5 : Nat → Int) (x6 : Nat → Int) (x7 : Nat → Int) (x8 : Nat → Int) (x9 : Nat → Int) (w0 : Bool) (k : (Bool) → Option ρ) : Option ρ :=
  Option.bind g_astrolabelaw14_awake fun (d : Bool) =>
    bif !d then k false
    else
      Option.bind (g_downs_New x0) fun (d : Unit ⊕ Int) =>
        bif
            match d with
            | Sum.inl val => true
            | Sum.inr val => false then
          Option.bind
            (match d with
            | Sum.inl a => some a
            | Sum.inr val => none)
            fun (d : Unit) => k true
        else
          Option.bind
            (match d with
            | Sum.inr b => some b
            | Sum.inl val => none)
            fun (d : Int) =>
            bif decide (Int.ofNat x1 > 100) then k true
            else
              l_0
                (x1, w0, 0, 0, 0, 0, x1, x2, x3, x4, x5, x6, x7, x8, x9, d, 0, 0, 0, 0, 0, 0, 0, 0, false, false, 0, fun (x : Nat) => 0, fun (x : Nat) => 0, fun (x : Nat) => 0, fun (x : Nat) => 0,
                  fun (x : Nat) => 0, fun (x : Nat) => 0, fun (x : Nat) => 0, fun (x : Nat) => 0)
                (Sum.elim (fun (d : Nat × (Nat → Int) × (Nat → Int) × (Nat → Int) × (Nat → Int) × (Nat → Int) × (Nat → Int) × (Nat → Int) × (Nat → Int)) => k false)
                  fun
                    (d :
                      Nat ×
                        Bool ×
                          Nat ×
                            Int ×
                              Int ×
                                Int ×
                                  Int ×
                                    Bool ×
                                      Nat ×
                                        (Nat → Int) ×
                                          (Nat → Int) ×
                                            (Nat → Int) ×
                                              (Nat → Int) ×
                                                (Nat → Int) ×
                                                  (Nat → Int) ×
                                                    (Nat → Int) ×
                                                      (Nat → Int) ×
                                                        Int ×
                                                          Int ×
                                                            Int ×
                                                              Int ×
                                                                Int ×
                                                                  Int ×
                                                                    Int ×
                                                                      Int ×
                                                                        Int ×
                                                                          Bool ×
                                                                            Bool × Nat × (Nat → Int) × (Nat → Int) × (Nat → Int) × (Nat → Int) × (Nat → Int) × (Nat → Int) × (Nat → Int) × (Nat → Int)) =>
                  Option.bind
                    (g___downs_Sampler__Pending d.2.2.2.2.2.2.2.2.2.2.2.2.2.2.2.2.2.1 d.2.2.2.2.2.2.2.2.2.2.2.2.2.2.2.2.2.2.1
                      d.2.2.2.2.2.2.2.2.2.2.2.2.2.2.2.2.2.2.2.1 d.2.2.2.2.2.2.2.2.2.2.2.2.2.2.2.2.2.2.2.2.1
                      d.2.2.2.2.2.2.2.2.2.2.2.2.2.2.2.2.2.2.2.2.2.1
                      d.2.2.2.2.2.2.2.2.2.2.2.2.2.2.2.2.2.2.2.2.2.2.1
                      d.2.2.2.2.2.2.2.2.2.2.2.2.2.2.2.2.2.2.2.2.2.2.2.1
                      d.2.2.2.2.2.2.2.2.2.2.2.2.2.2.2.2.2.2.2.2.2.2.2.2.1
                      d.2.2.2.2.2.2.2.2.2.2.2.2.2.2.2.2.2.2.2.2.2.2.2.2.2.1
                      d.2.2.2.2.2.2.2.2.2.2.2.2.2.2.2.2.2.2.2.2.2.2.2.2.2.2.1)
                    fun (d_1 : Int) => k (IntKind.wrap IntKind.i64 (d.2.2.2.2.1 + d_1) == d.2.2.2.1))
def f_astrolabelaw14_DownsJoins (x0 : Int) (x1 : Nat) (x2 : Nat → Int) (x3 : Nat → Int) (x4 : Nat → Int) (x5 : Nat → Int) (x6 : Nat → Int) (x7 : Nat → Int) (x8 : Nat → Int) (x9 : Nat → Int) (w0 : Bool) : Option (Bool) := K_astrolabelaw14_DownsJoins f_astrolabelaw14_awake f_downs_New f___downs_Sampler__Put f_downs_Join f___downs_Sampler__Pending (@L_astrolabelaw14_DownsJoins_0) x0 x1 x2 x3 x4 x5 x6 x7 x8 x9 w0 some
section
open Go.Ab.Rdr
def QA_astrolabelaw14_DownsJoins := ((pair (cons (ar (rc (cf (fi .i64 hole)))) (cons (ar (rc (csl (nat 0) (ok' (nat 0)) (szs hole) (nat 8) hole))) nil)) (cons (cons (ga (szs hole) (cons (ki .i64 hole) (cons (ki .i64 hole) (cons (ki .i64 hole) (cons (ki .i64 hole) (cons (ki .i64 hole) (cons (ki .i64 hole) (cons (ki .i64 hole) (cons (ki .i64 hole) nil))))))))) nil) nil)) : Rdr (List AV × List Blk) _)
end
def F0_astrolabelaw14_DownsJoins (f : (Int) → (Nat) → (Nat → Int) → (Nat → Int) → (Nat → Int) → (Nat → Int) → (Nat → Int) → (Nat → Int) → (Nat → Int) → (Nat → Int) → (Bool) → Option (Bool)) : Sem1 := fun args h => match (QA_astrolabelaw14_DownsJoins).rd (args, h) with
  | some b => .test (Nat.beq b.2.1.1.1 b.1.2.1.2.2.1) (.opt (f b.1.1 b.1.2.1.2.2.1 b.2.1.1.2.1 b.2.1.1.2.2.1 b.2.1.1.2.2.2.1 b.2.1.1.2.2.2.2.1 b.2.1.1.2.2.2.2.2.1 b.2.1.1.2.2.2.2.2.2.1 b.2.1.1.2.2.2.2.2.2.2.1 b.2.1.1.2.2.2.2.2.2.2.2.1 b.1.2.1.2.2.2.2) fun (d : Bool) => .leaf (Res.mk (AV.r (RV.c (CV.f (FV.b d)))) [Ch.keep] [])) .fail
  | none => .fail
def F_astrolabelaw14_DownsJoins (f : (Int) → (Nat) → (Nat → Int) → (Nat → Int) → (Nat → Int) → (Nat → Int) → (Nat → Int) → (Nat → Int) → (Nat → Int) → (Nat → Int) → (Bool) → Option (Bool)) : Sem1 := (nilF 1 [.i .i64, .i .i64, .i .i64, .i .i64, .i .i64, .i .i64, .i .i64, .i .i64] (F0_astrolabelaw14_DownsJoins f))
theorem d_astrolabelaw14_DownsJoins (g_astrolabelaw14_awake : Option Bool) (g_downs_New : Int → Option (Unit ⊕ Int)) (g___downs_Sampler__Put : Int →
  Int →
    Int →
      Int →
        Int →
          Int →
            Int →
              Int →
                Int →
                  Int →
                    Int →
                      Int →
                        Int →
                          Int → Int → Int → Int → Bool → Bool → Option (Int × Int × Int × Int × Int × Int × Int × Int × Bool × Int × Int × Int × Int × Int × Int × Int × Int × Int × Int × Bool × Bool)) (g_downs_Join : Nat → Bool → (Nat → Int) → (Nat → Int) → (Nat → Int) → (Nat → Int) → (Nat → Int) → (Nat → Int) → (Nat → Int) → (Nat → Int) → Bool → Option (Int × Int × Int × Int × Int × Int × Int × Int × Int × Bool)) (g___downs_Sampler__Pending : Int → Int → Int → Int → Int → Int → Int → Int → Int → Bool → Option Int) (l_0 : ∀ {ρ : Type}, (Nat ×
  Bool ×
    Nat ×
      Int ×
        Int ×
          Int ×
            Nat ×
              (Nat → Int) ×
                (Nat → Int) ×
                  (Nat → Int) ×
                    (Nat → Int) ×
                      (Nat → Int) ×
                        (Nat → Int) ×
                          (Nat → Int) ×
                            (Nat → Int) ×
                              Int ×
                                Int ×
                                  Int ×
                                    Int ×
                                      Int × Int × Int × Int × Int × Bool × Bool × Nat × (Nat → Int) × (Nat → Int) × (Nat → Int) × (Nat → Int) × (Nat → Int) × (Nat → Int) × (Nat → Int) × (Nat → Int)) → ((Nat × (Nat → Int) × (Nat → Int) × (Nat → Int) × (Nat → Int) × (Nat → Int) × (Nat → Int) × (Nat → Int) × (Nat → Int) ⊕
  Nat ×
    Bool ×
      Nat ×
        Int ×
          Int ×
            Int ×
              Int ×
                Bool ×
                  Nat ×
                    (Nat → Int) ×
                      (Nat → Int) ×
                        (Nat → Int) ×
                          (Nat → Int) ×
                            (Nat → Int) ×
                              (Nat → Int) ×
                                (Nat → Int) ×
                                  (Nat → Int) ×
                                    Int ×
                                      Int ×
                                        Int ×
                                          Int ×
                                            Int ×
                                              Int × Int × Int × Int × Bool × Bool × Nat × (Nat → Int) × (Nat → Int) × (Nat → Int) × (Nat → Int) × (Nat → Int) × (Nat → Int) × (Nat → Int) × (Nat → Int)) → Option ρ) → Option ρ) (x0 : Int) (x1 : Nat) (x2 : Nat → Int) (x3 : Nat → Int) (x4 : Nat → Int) (x5 : Nat → Int) (x6 : Nat → Int) (x7 : Nat → Int) (x8 : Nat → Int) (x9 : Nat → Int) (w0 : Bool) : den Try.prog (envOf [(30, F_astrolabelaw14_awake g_astrolabelaw14_awake), (31, F_downs_New g_downs_New), (32, F___downs_Sampler__Put g___downs_Sampler__Put), (33, F_downs_Join g_downs_Join), (35, F___downs_Sampler__Pending g___downs_Sampler__Pending)]) ⟨[⟨11, [0, 3, 4, 6, 12, 13, 14, 15, 16, 17, 18, 19, 20, 21, 22, 23, 24, 25, 26, 27, 28, 29, 30, 31, 32, 33, 34, 35, 36, 37, 38, 39, 40, 41, 42, 43, 44, 45, 46, 47, 48, 49, 50, 51, 52, 53, 54, 55, 56, 57, 58, 59, 60, 61, 62, 63, 64, 65, 66, 67, 68, 69, 70, 71, 72, 73, 74, 75, 79, 80, 81, 82, 83, 84, 85, 86, 87, 88, 89, 76, 77, 78], [(8, [.i .i64, .i .i64, .i .i64, .i .i64, .i .i64, .i .i64, .i .i64, .i .i64])]⟩], [⟨11, 1, @R_astrolabelaw14_DownsJoins_0 (@l_0)⟩], [], [], (some ⟨0, [0, 1, 2, 3, 5, 6, 7, 8, 9, 10, 11, 12, 13, 14, 15, 16, 17, 18, 19, 20, 21, 22, 23, 24, 25, 26, 27, 28, 29, 30, 31, 32, 33, 34, 35, 36, 37, 38, 39, 40, 41, 42, 43, 44, 45, 46, 47, 48, 49, 50, 51, 52, 53, 54, 55, 56, 57, 58, 59, 60, 61, 62, 63, 64, 65, 66, 67, 68, 69, 70, 71, 72, 73, 74, 75, 76, 77, 78, 79, 80, 81, 82, 83, 84, 85, 86, 87, 88, 89], []⟩)⟩ 200 9 [.r (.c (.f (.i .i64 x0))), .r (.c (.sl 0 (.k 0) (.s x1) 8 w0))] [[.a (.s x1) [.i .i64 x2, .i .i64 x3, .i .i64 x4, .i .i64 x5, .i .i64 x6, .i .i64 x7, .i .i64 x8, .i .i64 x9]]] =
    K_astrolabelaw14_DownsJoins g_astrolabelaw14_awake g_downs_New g___downs_Sampler__Put g_downs_Join g___downs_Sampler__Pending (@l_0) x0 x1 x2 x3 x4 x5 x6 x7 x8 x9 w0 (fun (d : Bool) => some (Res.mk (AV.r (RV.c (CV.f (FV.b d)))) [Ch.keep] [])) := by kernel_rfl
theorem m_astrolabelaw14_DownsJoins {ρ σ : Type} (q : ρ → Option σ) (g_astrolabelaw14_awake : Option Bool) (g_downs_New : Int → Option (Unit ⊕ Int)) (g___downs_Sampler__Put : Int →
  Int →
    Int →
      Int →
        Int →
          Int →
            Int →
              Int →
                Int →
                  Int →
                    Int →
                      Int →
                        Int →
                          Int → Int → Int → Int → Bool → Bool → Option (Int × Int × Int × Int × Int × Int × Int × Int × Bool × Int × Int × Int × Int × Int × Int × Int × Int × Int × Int × Bool × Bool)) (g_downs_Join : Nat → Bool → (Nat → Int) → (Nat → Int) → (Nat → Int) → (Nat → Int) → (Nat → Int) → (Nat → Int) → (Nat → Int) → (Nat → Int) → Bool → Option (Int × Int × Int × Int × Int × Int × Int × Int × Int × Bool)) (g___downs_Sampler__Pending : Int → Int → Int → Int → Int → Int → Int → Int → Int → Bool → Option Int) (l_0 : ∀ {ρ : Type}, (Nat ×
  Bool ×
    Nat ×
      Int ×
        Int ×
          Int ×
            Nat ×
              (Nat → Int) ×
                (Nat → Int) ×
                  (Nat → Int) ×
                    (Nat → Int) ×
                      (Nat → Int) ×
                        (Nat → Int) ×
                          (Nat → Int) ×
                            (Nat → Int) ×
                              Int ×
                                Int ×
                                  Int ×
                                    Int ×
                                      Int × Int × Int × Int × Int × Bool × Bool × Nat × (Nat → Int) × (Nat → Int) × (Nat → Int) × (Nat → Int) × (Nat → Int) × (Nat → Int) × (Nat → Int) × (Nat → Int)) → ((Nat × (Nat → Int) × (Nat → Int) × (Nat → Int) × (Nat → Int) × (Nat → Int) × (Nat → Int) × (Nat → Int) × (Nat → Int) ⊕
  Nat ×
    Bool ×
      Nat ×
        Int ×
          Int ×
            Int ×
              Int ×
                Bool ×
                  Nat ×
                    (Nat → Int) ×
                      (Nat → Int) ×
                        (Nat → Int) ×
                          (Nat → Int) ×
                            (Nat → Int) ×
                              (Nat → Int) ×
                                (Nat → Int) ×
                                  (Nat → Int) ×
                                    Int ×
                                      Int ×
                                        Int ×
                                          Int ×
                                            Int ×
                                              Int × Int × Int × Int × Bool × Bool × Nat × (Nat → Int) × (Nat → Int) × (Nat → Int) × (Nat → Int) × (Nat → Int) × (Nat → Int) × (Nat → Int) × (Nat → Int)) → Option ρ) → Option ρ) (hl_0 : ∀ {ρ σ : Type} (q : ρ → Option σ) (d : Nat ×
  Bool ×
    Nat ×
      Int ×
        Int ×
          Int ×
            Nat ×
              (Nat → Int) ×
                (Nat → Int) ×
                  (Nat → Int) ×
                    (Nat → Int) ×
                      (Nat → Int) ×
                        (Nat → Int) ×
                          (Nat → Int) ×
                            (Nat → Int) ×
                              Int ×
                                Int ×
                                  Int ×
                                    Int ×
                                      Int × Int × Int × Int × Int × Bool × Bool × Nat × (Nat → Int) × (Nat → Int) × (Nat → Int) × (Nat → Int) × (Nat → Int) × (Nat → Int) × (Nat → Int) × (Nat → Int)) (k : (Nat × (Nat → Int) × (Nat → Int) × (Nat → Int) × (Nat → Int) × (Nat → Int) × (Nat → Int) × (Nat → Int) × (Nat → Int) ⊕
  Nat ×
    Bool ×
      Nat ×
        Int ×
          Int ×
            Int ×
              Int ×
                Bool ×
                  Nat ×
                    (Nat → Int) ×
                      (Nat → Int) ×
                        (Nat → Int) ×
                          (Nat → Int) ×
                            (Nat → Int) ×
                              (Nat → Int) ×
                                (Nat → Int) ×
                                  (Nat → Int) ×
                                    Int ×
                                      Int ×
                                        Int ×
                                          Int ×
                                            Int ×
                                              Int × Int × Int × Int × Bool × Bool × Nat × (Nat → Int) × (Nat → Int) × (Nat → Int) × (Nat → Int) × (Nat → Int) × (Nat → Int) × (Nat → Int) × (Nat → Int)) → Option ρ), (l_0 d k).bind q = l_0 d fun x => (k x).bind q) (x0 : Int) (x1 : Nat) (x2 : Nat → Int) (x3 : Nat → Int) (x4 : Nat → Int) (x5 : Nat → Int) (x6 : Nat → Int) (x7 : Nat → Int) (x8 : Nat → Int) (x9 : Nat → Int) (w0 : Bool) (k : (Bool) → Option ρ) : (K_astrolabelaw14_DownsJoins g_astrolabelaw14_awake g_downs_New g___downs_Sampler__Put g_downs_Join g___downs_Sampler__Pending (@l_0) x0 x1 x2 x3 x4 x5 x6 x7 x8 x9 w0 k).bind q = K_astrolabelaw14_DownsJoins g_astrolabelaw14_awake g_downs_New g___downs_Sampler__Put g_downs_Join g___downs_Sampler__Pending (@l_0) x0 x1 x2 x3 x4 x5 x6 x7 x8 x9 w0 (fun d => (k d).bind q) := by
  simp only [K_astrolabelaw14_DownsJoins, bnd_cond, bnd_bind, bnd_none, bnd_sum, hl_0]
theorem qa_astrolabelaw14_DownsJoins : ∀ b, (QA_astrolabelaw14_DownsJoins).em b = ([.r (.c (.f (.i .i64 b.1.1))), .r (.c (.sl 0 (.k 0) (.s b.1.2.1.2.2.1) 8 b.1.2.1.2.2.2.2))], [[.a (.s b.2.1.1.1) [.i .i64 b.2.1.1.2.1, .i .i64 b.2.1.1.2.2.1, .i .i64 b.2.1.1.2.2.2.1, .i .i64 b.2.1.1.2.2.2.2.1, .i .i64 b.2.1.1.2.2.2.2.2.1, .i .i64 b.2.1.1.2.2.2.2.2.2.1, .i .i64 b.2.1.1.2.2.2.2.2.2.2.1, .i .i64 b.2.1.1.2.2.2.2.2.2.2.2.1]]]) := fun b => by kernel_rfl
theorem e_astrolabelaw14_DownsJoins {f : (Int) → (Nat) → (Nat → Int) → (Nat → Int) → (Nat → Int) → (Nat → Int) → (Nat → Int) → (Nat → Int) → (Nat → Int) → (Nat → Int) → (Bool) → Option (Bool)} {args : List AV} {h : List Blk} {r : Res} (hr : (F0_astrolabelaw14_DownsJoins f args h).eval = some r) : ∃ x0 x1 x2 x3 x4 x5 x6 x7 x8 x9 w0, args = [.r (.c (.f (.i .i64 x0))), .r (.c (.sl 0 (.k 0) (.s x1) 8 w0))] ∧ h = [[.a (.s x1) [.i .i64 x2, .i .i64 x3, .i .i64 x4, .i .i64 x5, .i .i64 x6, .i .i64 x7, .i .i64 x8, .i .i64 x9]]] ∧ (f x0 x1 x2 x3 x4 x5 x6 x7 x8 x9 w0).bind (fun (d : Bool) => some (Res.mk (AV.r (RV.c (CV.f (FV.b d)))) [Ch.keep] [])) = some r := by
  unfold F0_astrolabelaw14_DownsJoins at hr
  split at hr
  · rename_i b hb
    have e := ((QA_astrolabelaw14_DownsJoins).ok _ _ hb).trans (qa_astrolabelaw14_DownsJoins b)
    obtain ⟨he, hr1⟩ := test_eval hr
    clear hr
    have hr := hr1
    clear hr1
    rw [Nat.eq_of_beq_eq_true he] at e
    clear he
    rw [opt_eval2] at hr
    exact ⟨b.1.1, b.1.2.1.2.2.1, b.2.1.1.2.1, b.2.1.1.2.2.1, b.2.1.1.2.2.2.1, b.2.1.1.2.2.2.2.1, b.2.1.1.2.2.2.2.2.1, b.2.1.1.2.2.2.2.2.2.1, b.2.1.1.2.2.2.2.2.2.2.1, b.2.1.1.2.2.2.2.2.2.2.2.1, b.1.2.1.2.2.2.2, (Prod.mk.inj e).1, (Prod.mk.inj e).2, hr⟩
  · cases hr
theorem n_astrolabelaw14_DownsJoins {σ : Type} (q : (Bool) → Option σ) (x0 : Int) (x1 : Nat) (x2 : Nat → Int) (x3 : Nat → Int) (x4 : Nat → Int) (x5 : Nat → Int) (x6 : Nat → Int) (x7 : Nat → Int) (x8 : Nat → Int) (x9 : Nat → Int) (w0 : Bool) : (f_astrolabelaw14_DownsJoins x0 x1 x2 x3 x4 x5 x6 x7 x8 x9 w0).bind q = K_astrolabelaw14_DownsJoins f_astrolabelaw14_awake f_downs_New f___downs_Sampler__Put f_downs_Join f___downs_Sampler__Pending (@L_astrolabelaw14_DownsJoins_0) x0 x1 x2 x3 x4 x5 x6 x7 x8 x9 w0 q := by
  unfold f_astrolabelaw14_DownsJoins
  exact m_astrolabelaw14_DownsJoins q f_astrolabelaw14_awake f_downs_New f___downs_Sampler__Put f_downs_Join f___downs_Sampler__Pending (@L_astrolabelaw14_DownsJoins_0) (fun q d k => mL_astrolabelaw14_DownsJoins_0 q d k) x0 x1 x2 x3 x4 x5 x6 x7 x8 x9 w0 some
theorem s_astrolabelaw14_DownsJoins : Sound Try.prog 9 (F_astrolabelaw14_DownsJoins f_astrolabelaw14_DownsJoins) :=
  Sound.nil 1 [.i .i64, .i .i64, .i .i64, .i .i64, .i .i64, .i .i64, .i .i64, .i .i64] <| (inl_sums (l := [(30, F_astrolabelaw14_awake f_astrolabelaw14_awake), (31, F_downs_New f_downs_New), (32, F___downs_Sampler__Put f___downs_Sampler__Put), (33, F_downs_Join f_downs_Join), (35, F___downs_Sampler__Pending f___downs_Sampler__Pending)]) (.cons s_astrolabelaw14_awake (.cons s_downs_New (.cons s___downs_Sampler__Put (.cons s_downs_Join (.cons s___downs_Sampler__Pending (.nil _)))))) mixed (hs := ⟨[⟨11, [0, 3, 4, 6, 12, 13, 14, 15, 16, 17, 18, 19, 20, 21, 22, 23, 24, 25, 26, 27, 28, 29, 30, 31, 32, 33, 34, 35, 36, 37, 38, 39, 40, 41, 42, 43, 44, 45, 46, 47, 48, 49, 50, 51, 52, 53, 54, 55, 56, 57, 58, 59, 60, 61, 62, 63, 64, 65, 66, 67, 68, 69, 70, 71, 72, 73, 74, 75, 79, 80, 81, 82, 83, 84, 85, 86, 87, 88, 89, 76, 77, 78], [(8, [.i .i64, .i .i64, .i .i64, .i .i64, .i .i64, .i .i64, .i .i64, .i .i64])]⟩], [⟨11, 1, @R_astrolabelaw14_DownsJoins_0 (@L_astrolabelaw14_DownsJoins_0)⟩], [], [], (some ⟨0, [0, 1, 2, 3, 5, 6, 7, 8, 9, 10, 11, 12, 13, 14, 15, 16, 17, 18, 19, 20, 21, 22, 23, 24, 25, 26, 27, 28, 29, 30, 31, 32, 33, 34, 35, 36, 37, 38, 39, 40, 41, 42, 43, 44, 45, 46, 47, 48, 49, 50, 51, 52, 53, 54, 55, 56, 57, 58, 59, 60, 61, 62, 63, 64, 65, 66, 67, 68, 69, 70, 71, 72, 73, 74, 75, 76, 77, 78, 79, 80, 81, 82, 83, 84, 85, 86, 87, 88, 89], []⟩)⟩) (lf := 200) (Sums.by (l := [loopIn Try.prog 9 11]) (lj := []) (by kernel_rfl) ⟨so_astrolabelaw14_DownsJoins_0, trivial⟩ (by kernel_rfl) trivial) (by kernel_rfl)).by (F := F0_astrolabelaw14_DownsJoins f_astrolabelaw14_DownsJoins) fun args b r hr => by
  obtain ⟨x0, x1, x2, x3, x4, x5, x6, x7, x8, x9, w0, rfl, rfl, hr1⟩ := e_astrolabelaw14_DownsJoins hr
  exact inl_eval ((d_astrolabelaw14_DownsJoins f_astrolabelaw14_awake f_downs_New f___downs_Sampler__Put f_downs_Join f___downs_Sampler__Pending (@L_astrolabelaw14_DownsJoins_0) x0 x1 x2 x3 x4 x5 x6 x7 x8 x9 w0).trans ((n_astrolabelaw14_DownsJoins (fun (d : Bool) => some (Res.mk (AV.r (RV.c (CV.f (FV.b d)))) [Ch.keep] [])) x0 x1 x2 x3 x4 x5 x6 x7 x8 x9 w0).symm.trans hr1))

end Go.Proofs.Ytmlmpcabphgfaaa
