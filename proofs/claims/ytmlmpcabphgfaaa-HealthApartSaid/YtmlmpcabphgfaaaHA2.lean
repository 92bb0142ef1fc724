/-
  Contracts by plain functions: astrolabelaw24.HealthApart
-/
import Derived.Test.YtmlmpcabphgfaaaHA1
set_option maxRecDepth 100000
set_option maxHeartbeats 4000000
set_option linter.unusedVariables false
namespace Go.Proofs.Ytmlmpcabphgfaaa
open Go.Ab
def S_astrolabelaw24_HealthApart_0 {ρ : Type} (g_astrolabelaw24_awake : Option Bool) (g_health_New : Int → Nat → (Nat → Int) → Bool → Option (Unit ⊕ (Nat → Int) × (Nat → Int) × (Nat → Bool) × (Nat → Int) × (Nat → Int) × (Nat → Int))) (g___health_Monitor__Result : Int →
  Int →
    Nat →
      (Nat → Int) →
        (Nat → Int) →
          (Nat → Bool) →
            (Nat → Int) →
              (Nat → Int) → (Nat → Int) → Int → (Nat → Bool) → (Nat → Int) → (Nat → Int) → Bool → Option ((Nat → Int) × (Nat → Int) × (Nat → Bool) × (Nat → Int) × (Nat → Int) × (Nat → Int) × Int)) (g___health_Monitor__Sensor : Int → (Nat → Int) → (Nat → Int) → (Nat → Bool) → (Nat → Int) → (Nat → Int) → (Nat → Int) → Int → Option (Int × Int × Bool × Int × Int × Int)) (g___health_Monitor__Usable : Int → Int → (Nat → Int) → (Nat → Int) → (Nat → Bool) → (Nat → Int) → (Nat → Int) → (Nat → Int) → Int → Option Bool) (g___health_Monitor__Bad : (Nat → Int) → (Nat → Int) → (Nat → Bool) → (Nat → Int) → (Nat → Int) → (Nat → Int) → Int → Option Bool)  (x0 : Nat) (x1 : Nat → Int) (x2 : Nat → Int) (x3 : Nat → Int) (x4 : Nat → Int) (x5 : Nat → Int) (x6 : Nat → Bool) (x7 : Nat → Bool) (x8 : Int) (x9 : Int) (x10 : Int) (x11 : Nat) (x12 : Nat → Int) (x13 : Nat → Int) (x14 : Nat → Int) (x15 : Nat → Int) (x16 : Nat → Int) (x17 : Nat → Bool) (x18 : Nat → Bool) (x19 : Nat → Int) (x20 : Nat → Int) (x21 : Nat → Bool) (x22 : Nat → Int) (x23 : Nat → Int) (x24 : Nat → Int) (x25 : Int) (x26 : Nat → Int) (x27 : Nat → Int) (x28 : Nat → Bool) (x29 : Nat → Int) (x30 : Nat → Int) (x31 : Nat → Int) (x32 : Int) (c : (Nat ×
  (Nat → Int) ×
    (Nat → Int) ×
      (Nat → Int) ×
        (Nat → Int) ×
          (Nat → Int) ×
            (Nat → Bool) ×
              (Nat → Bool) ×
                Int ×
                  Int ×
                    Int ×
                      Nat ×
                        (Nat → Int) ×
                          (Nat → Int) ×
                            (Nat → Int) ×
                              (Nat → Int) ×
                                (Nat → Int) ×
                                  (Nat → Bool) ×
                                    (Nat → Bool) ×
                                      (Nat → Int) ×
                                        (Nat → Int) ×
                                          (Nat → Bool) × (Nat → Int) × (Nat → Int) × (Nat → Int) × Int × (Nat → Int) × (Nat → Int) × (Nat → Bool) × (Nat → Int) × (Nat → Int) × (Nat → Int) × Int) → Option ρ) (x : (Nat ×
  (Nat → Int) ×
    (Nat → Int) ×
      (Nat → Int) ×
        (Nat → Int) ×
          (Nat → Int) ×
            (Nat → Bool) ×
              (Nat → Bool) ×
                Int ×
                  Int ×
                    Int ×
                      Nat ×
                        (Nat → Int) ×
                          (Nat → Int) ×
                            (Nat → Int) ×
                              (Nat → Int) ×
                                (Nat → Int) ×
                                  (Nat → Bool) ×
                                    (Nat → Bool) ×
                                      Int ×
                                        Bool ×
                                          (Nat → Int) ×
                                            (Nat → Int) ×
                                              (Nat → Bool) × (Nat → Int) × (Nat → Int) × (Nat → Int) × Int × (Nat → Int) × (Nat → Int) × (Nat → Bool) × (Nat → Int) × (Nat → Int) × (Nat → Int) × Int) → Option ρ) : Option ρ :=
  bif decide (x10 < Int.ofNat x0) then
    bif inR x10 x0 then
      bif inR x10 x0 then
        bif inR x10 x0 then
          Option.bind
            (g___health_Monitor__Result (x2 (Int.toNat x10)) (x3 (Int.toNat x10)) 1 x19 x20 x21 x22 x23 x24 x25 (fun (j : Nat) => bif Nat.beq j 0 then x6 (Int.toNat x10) else x6 (Int.toNat x10))
              (fun (j : Nat) => bif Nat.beq j 0 then 0 else 0) (fun (j : Nat) => bif Nat.beq j 0 then 0 else 0) true)
            fun (d : (Nat → Int) × (Nat → Int) × (Nat → Bool) × (Nat → Int) × (Nat → Int) × (Nat → Int) × Int) =>
            bif inR x10 x0 then
              bif x2 (Int.toNat x10) != x8 then
                bif inR x10 x0 then
                  bif inR x10 x0 then
                    Option.bind
                      (g___health_Monitor__Result (x2 (Int.toNat x10)) (x3 (Int.toNat x10)) 1 x26 x27 x28 x29 x30 x31 x32
                        (fun (j : Nat) => bif Nat.beq j 0 then x6 (Int.toNat x10) else x6 (Int.toNat x10)) (fun (j : Nat) => bif Nat.beq j 0 then 0 else 0)
                        (fun (j : Nat) => bif Nat.beq j 0 then 0 else 0) true)
                      fun (d_1 : (Nat → Int) × (Nat → Int) × (Nat → Bool) × (Nat → Int) × (Nat → Int) × (Nat → Int) × Int) =>
                      c
                        (x0, x1, x2, x3, x4, x5, x6, x7, x8, x9, IntKind.wrap IntKind.i64 (x10 + 1), x11, x12, x13, x14, x15, x16, x17, x18, d.1, d.2.1, d.2.2.1, d.2.2.2.1,
                          d.2.2.2.2.1, d.2.2.2.2.2.1, d.2.2.2.2.2.2, d_1.1, d_1.2.1, d_1.2.2.1, d_1.2.2.2.1, d_1.2.2.2.2.1, d_1.2.2.2.2.2.1,
                          d_1.2.2.2.2.2.2)
                  else none
                else none
              else
                c
                  (x0, x1, x2, x3, x4, x5, x6, x7, x8, x9, IntKind.wrap IntKind.i64 (x10 + 1), x11, x12, x13, x14, x15, x16, x17, x18, d.1, d.2.1, d.2.2.1, d.2.2.2.1, d.2.2.2.2.1,
                    d.2.2.2.2.2.1, d.2.2.2.2.2.2, x26, x27, x28, x29, x30, x31, x32)
            else none
        else none
      else none
    else none
  else
    x
      (x0, x1, x2, x3, x4, x5, x6, x7, x8, x9, x10, x11, x12, x13, x14, x15, x16, x17, x18, Int.ofNat x0, decide (x10 < Int.ofNat x0), x19, x20, x21, x22, x23, x24, x25, x26, x27, x28, x29, x30, x31,
        x32)
section
open Go.Ab.Rdr
def Q_astrolabelaw24_HealthApart_0 := (st (cons (ar (rc (cfs hole (nat 8) (cons (ki .i64 hole) (cons (ki .i64 hole) (cons (ki .i64 hole) (cons ku (cons (ki .i64 hole) (cons (ki .i64 hole) (cons (kb hole) (cons (kb hole) nil))))))))))) (cons (ar (rc (cf (fi .i64 hole)))) (cons (ar (rc (cf (fi .i64 hole)))) (cons aund (cons aund (cons (atup nil) (cons (ar (rc (cf (fb (bool false))))) (cons (ar (rc (cptr (nat 0) (ok' (nat 0)) (nat 37)))) (cons aund (cons (ar (rc (cptr (nat 1) (ok' (nat 0)) (nat 37)))) (cons (ar (rc (cf (fi .i64 (int 0))))) (cons (ar (rc (cf (fi .i64 hole)))) (cons aund (cons aund (cons aund (cons aund (cons aund (cons aund (cons (ar (rc (cfs hole (nat 8) (cons (ki .i64 hole) (cons (ki .i64 hole) (cons (ki .i64 hole) (cons ku (cons (ki .i64 hole) (cons (ki .i64 hole) (cons (kb hole) (cons (kb hole) nil))))))))))) (cons aund (cons aund (cons aund (cons aund (cons aund (cons aund (cons aund (cons aund (cons aund (cons aund (cons aund (cons aund (cons aund (cons aund (cons aund (cons aund (cons aund (cons aund (cons aund (cons aund (cons aund (cons aund (cons aund (cons aund (cons aund (cons aund (cons aund (cons aund (cons aund (cons aund (cons aund (cons aund (cons aund (cons aund (cons aund (cons aund (cons aund (cons aund (cons aund (cons aund (cons aund (cons aund (cons aund (cons aund (cons aund (cons aund (cons aund (cons aund (cons aund (cons aund (cons aund (cons aund (cons aund (cons aund (cons aund (cons aund (cons aund (cons aund (cons aund (cons aund (cons aund (cons aund (cons aund (cons aund (cons aund (cons aund (cons aund (cons aund (cons aund (cons aund (cons aund (cons aund (cons aund (cons aund (cons aund (cons aund (cons aund (cons aund (cons aund (cons aund (cons aund (cons aund (cons aund (cons aund (cons aund (cons aund (cons (atup nil) (cons (atup nil) (cons aund (cons aund (cons (atup nil) (cons (atup nil) (cons (atup nil) (cons (atup nil) (cons (atup nil) (cons (atup nil) (cons (atup nil) (cons (atup nil) (cons (atup nil) (cons (atup nil) (cons (atup nil) (cons (atup nil) (cons (atup nil) (cons (atup nil) (cons (atup nil) (cons (atup nil) (cons (atup nil) (cons (atup nil) (cons (atup nil) (cons (atup nil) (cons (atup nil) (cons (atup nil) (cons (atup nil) (cons aund (cons aund (cons aund (cons aund (cons aund (cons aund (cons aund (cons (atup nil) (cons (atup nil) (cons (atup nil) (cons (atup nil) (cons (atup nil) (cons aund nil))))))))))))))))))))))))))))))))))))))))))))))))))))))))))))))))))))))))))))))))))))))))))))))))))))))))))))))))))))))))))))))))))))))))))))))))) (cons (some' (cons (ga (szl (nat 6)) (cons (ki .i64 hole) (cons (ki .i64 hole) (cons (kb hole) (cons (ki .i64 hole) (cons (ki .i64 hole) (cons (ki .i64 hole) nil))))))) (cons (gc (cf (fi .i64 hole))) nil))) (cons (some' (cons (ga (szl (nat 6)) (cons (ki .i64 hole) (cons (ki .i64 hole) (cons (kb hole) (cons (ki .i64 hole) (cons (ki .i64 hole) (cons (ki .i64 hole) nil))))))) (cons (gc (cf (fi .i64 hole))) nil))) nil)) nil)
end
theorem q_astrolabelaw24_HealthApart_0 : ∀ b, (Q_astrolabelaw24_HealthApart_0).em b = St.mk
    [AV.r (RV.c (CV.fs b.1.1.1 8 [Col.i IntKind.i64 b.1.1.2.2.1, Col.i IntKind.i64 b.1.1.2.2.2.1, Col.i IntKind.i64 b.1.1.2.2.2.2.1, Col.u, Col.i IntKind.i64 b.1.1.2.2.2.2.2.2.1, Col.i IntKind.i64 b.1.1.2.2.2.2.2.2.2.1, Col.b b.1.1.2.2.2.2.2.2.2.2.1, Col.b b.1.1.2.2.2.2.2.2.2.2.2.1])),
      AV.r (RV.c (CV.f (FV.i IntKind.i64 b.1.2.1))), AV.r (RV.c (CV.f (FV.i IntKind.i64 b.1.2.2.1))), AV.und, AV.und, AV.tup [], AV.r (RV.c (CV.f (FV.b false))), AV.r (RV.c (CV.ptr 0 (Off.k 0) 37)), AV.und,
      AV.r (RV.c (CV.ptr 1 (Off.k 0) 37)), AV.r (RV.c (CV.f (FV.i IntKind.i64 0))), AV.r (RV.c (CV.f (FV.i IntKind.i64 b.1.2.2.2.2.2.2.2.2.2.2.2.1))), AV.und, AV.und, AV.und, AV.und, AV.und, AV.und,
      AV.r (RV.c (CV.fs b.1.2.2.2.2.2.2.2.2.2.2.2.2.2.2.2.2.2.2.1.1 8 [Col.i IntKind.i64 b.1.2.2.2.2.2.2.2.2.2.2.2.2.2.2.2.2.2.2.1.2.2.1, Col.i IntKind.i64 b.1.2.2.2.2.2.2.2.2.2.2.2.2.2.2.2.2.2.2.1.2.2.2.1, Col.i IntKind.i64 b.1.2.2.2.2.2.2.2.2.2.2.2.2.2.2.2.2.2.2.1.2.2.2.2.1, Col.u, Col.i IntKind.i64 b.1.2.2.2.2.2.2.2.2.2.2.2.2.2.2.2.2.2.2.1.2.2.2.2.2.2.1, Col.i IntKind.i64 b.1.2.2.2.2.2.2.2.2.2.2.2.2.2.2.2.2.2.2.1.2.2.2.2.2.2.2.1, Col.b b.1.2.2.2.2.2.2.2.2.2.2.2.2.2.2.2.2.2.2.1.2.2.2.2.2.2.2.2.1, Col.b b.1.2.2.2.2.2.2.2.2.2.2.2.2.2.2.2.2.2.2.1.2.2.2.2.2.2.2.2.2.1])), AV.und, AV.und, AV.und,
      AV.und, AV.und, AV.und, AV.und, AV.und, AV.und, AV.und, AV.und, AV.und, AV.und, AV.und, AV.und, AV.und, AV.und, AV.und, AV.und, AV.und, AV.und, AV.und, AV.und, AV.und, AV.und, AV.und, AV.und,
      AV.und, AV.und, AV.und, AV.und, AV.und, AV.und, AV.und, AV.und, AV.und, AV.und, AV.und, AV.und, AV.und, AV.und, AV.und, AV.und, AV.und, AV.und, AV.und, AV.und, AV.und, AV.und, AV.und, AV.und,
      AV.und, AV.und, AV.und, AV.und, AV.und, AV.und, AV.und, AV.und, AV.und, AV.und, AV.und, AV.und, AV.und, AV.und, AV.und, AV.und, AV.und, AV.und, AV.und, AV.und, AV.und, AV.und, AV.und, AV.und,
      AV.und, AV.und, AV.und, AV.und, AV.und, AV.und, AV.und, AV.und, AV.und, AV.und, AV.und, AV.tup [], AV.tup [], AV.und, AV.und, AV.tup [], AV.tup [], AV.tup [], AV.tup [], AV.tup [], AV.tup [],
      AV.tup [], AV.tup [], AV.tup [], AV.tup [], AV.tup [], AV.tup [], AV.tup [], AV.tup [], AV.tup [], AV.tup [], AV.tup [], AV.tup [], AV.tup [], AV.tup [], AV.tup [], AV.tup [], AV.tup [], AV.und,
      AV.und, AV.und, AV.und, AV.und, AV.und, AV.und, AV.tup [], AV.tup [], AV.tup [], AV.tup [], AV.tup [], AV.und]
    [some [Sg.a (Sz.l 6) [Col.i IntKind.i64 b.2.1.1.1.2.1, Col.i IntKind.i64 b.2.1.1.1.2.2.1, Col.b b.2.1.1.1.2.2.2.1, Col.i IntKind.i64 b.2.1.1.1.2.2.2.2.1, Col.i IntKind.i64 b.2.1.1.1.2.2.2.2.2.1, Col.i IntKind.i64 b.2.1.1.1.2.2.2.2.2.2.1], Sg.c (CV.f (FV.i IntKind.i64 b.2.1.1.2.1))],
      some [Sg.a (Sz.l 6) [Col.i IntKind.i64 b.2.1.2.1.1.2.1, Col.i IntKind.i64 b.2.1.2.1.1.2.2.1, Col.b b.2.1.2.1.1.2.2.2.1, Col.i IntKind.i64 b.2.1.2.1.1.2.2.2.2.1, Col.i IntKind.i64 b.2.1.2.1.1.2.2.2.2.2.1, Col.i IntKind.i64 b.2.1.2.1.1.2.2.2.2.2.2.1], Sg.c (CV.f (FV.i IntKind.i64 b.2.1.2.1.2.1))]]
    [] := fun b => by kernel_rfl
def R_astrolabelaw24_HealthApart_0 (l : ∀ {ρ : Type}, (Nat ×
  (Nat → Int) ×
    (Nat → Int) ×
      (Nat → Int) ×
        (Nat → Int) ×
          (Nat → Int) ×
            (Nat → Bool) ×
              (Nat → Bool) ×
                Int ×
                  Int ×
                    Int ×
                      Nat ×
                        (Nat → Int) ×
                          (Nat → Int) ×
                            (Nat → Int) ×
                              (Nat → Int) ×
                                (Nat → Int) ×
                                  (Nat → Bool) ×
                                    (Nat → Bool) ×
                                      (Nat → Int) ×
                                        (Nat → Int) ×
                                          (Nat → Bool) × (Nat → Int) × (Nat → Int) × (Nat → Int) × Int × (Nat → Int) × (Nat → Int) × (Nat → Bool) × (Nat → Int) × (Nat → Int) × (Nat → Int) × Int) → ((Nat ×
  (Nat → Int) ×
    (Nat → Int) ×
      (Nat → Int) ×
        (Nat → Int) ×
          (Nat → Int) ×
            (Nat → Bool) ×
              (Nat → Bool) ×
                Int ×
                  Int ×
                    Int ×
                      Nat ×
                        (Nat → Int) ×
                          (Nat → Int) ×
                            (Nat → Int) ×
                              (Nat → Int) ×
                                (Nat → Int) ×
                                  (Nat → Bool) ×
                                    (Nat → Bool) ×
                                      Int ×
                                        Bool ×
                                          (Nat → Int) ×
                                            (Nat → Int) ×
                                              (Nat → Bool) × (Nat → Int) × (Nat → Int) × (Nat → Int) × Int × (Nat → Int) × (Nat → Int) × (Nat → Bool) × (Nat → Int) × (Nat → Int) × (Nat → Int) × Int) → Option ρ) → Option ρ) {ρ : Type} (s : St) (K : AX → St → Option ρ) : Option ρ := ((Q_astrolabelaw24_HealthApart_0).rd s).bind fun b => l (b.1.1.1, b.1.1.2.2.1, b.1.1.2.2.2.1, b.1.1.2.2.2.2.1, b.1.1.2.2.2.2.2.2.1, b.1.1.2.2.2.2.2.2.2.1, b.1.1.2.2.2.2.2.2.2.2.1, b.1.1.2.2.2.2.2.2.2.2.2.1, b.1.2.1, b.1.2.2.1, b.1.2.2.2.2.2.2.2.2.2.2.2.1, b.1.2.2.2.2.2.2.2.2.2.2.2.2.2.2.2.2.2.2.1.1, b.1.2.2.2.2.2.2.2.2.2.2.2.2.2.2.2.2.2.2.1.2.2.1, b.1.2.2.2.2.2.2.2.2.2.2.2.2.2.2.2.2.2.2.1.2.2.2.1, b.1.2.2.2.2.2.2.2.2.2.2.2.2.2.2.2.2.2.2.1.2.2.2.2.1, b.1.2.2.2.2.2.2.2.2.2.2.2.2.2.2.2.2.2.2.1.2.2.2.2.2.2.1, b.1.2.2.2.2.2.2.2.2.2.2.2.2.2.2.2.2.2.2.1.2.2.2.2.2.2.2.1, b.1.2.2.2.2.2.2.2.2.2.2.2.2.2.2.2.2.2.2.1.2.2.2.2.2.2.2.2.1, b.1.2.2.2.2.2.2.2.2.2.2.2.2.2.2.2.2.2.2.1.2.2.2.2.2.2.2.2.2.1, b.2.1.1.1.2.1, b.2.1.1.1.2.2.1, b.2.1.1.1.2.2.2.1, b.2.1.1.1.2.2.2.2.1, b.2.1.1.1.2.2.2.2.2.1, b.2.1.1.1.2.2.2.2.2.2.1, b.2.1.1.2.1, b.2.1.2.1.1.2.1, b.2.1.2.1.1.2.2.1, b.2.1.2.1.1.2.2.2.1, b.2.1.2.1.1.2.2.2.2.1, b.2.1.2.1.1.2.2.2.2.2.1, b.2.1.2.1.1.2.2.2.2.2.2.1, b.2.1.2.1.2.1) (fun d => K (AX.ex 0) (St.mk
  [AV.r
      (RV.c
        (CV.fs d.1 8
          [Col.i IntKind.i64 d.2.1, Col.i IntKind.i64 d.2.2.1, Col.i IntKind.i64 d.2.2.2.1, Col.u, Col.i IntKind.i64 d.2.2.2.2.1,
            Col.i IntKind.i64 d.2.2.2.2.2.1, Col.b d.2.2.2.2.2.2.1, Col.b d.2.2.2.2.2.2.2.1])),
    AV.r (RV.c (CV.f (FV.i IntKind.i64 d.2.2.2.2.2.2.2.2.1))), AV.r (RV.c (CV.f (FV.i IntKind.i64 d.2.2.2.2.2.2.2.2.2.1))), AV.und, AV.und, AV.tup [],
    AV.r (RV.c (CV.f (FV.b false))), AV.r (RV.c (CV.ptr 0 (Off.k 0) 37)), AV.und, AV.r (RV.c (CV.ptr 1 (Off.k 0) 37)), AV.r (RV.c (CV.f (FV.i IntKind.i64 0))),
    AV.r (RV.c (CV.f (FV.i IntKind.i64 d.2.2.2.2.2.2.2.2.2.2.1))), AV.und, AV.und, AV.und, AV.und, AV.und, AV.und,
    AV.r
      (RV.c
        (CV.fs d.2.2.2.2.2.2.2.2.2.2.2.1 8
          [Col.i IntKind.i64 d.2.2.2.2.2.2.2.2.2.2.2.2.1, Col.i IntKind.i64 d.2.2.2.2.2.2.2.2.2.2.2.2.2.1,
            Col.i IntKind.i64 d.2.2.2.2.2.2.2.2.2.2.2.2.2.2.1, Col.u, Col.i IntKind.i64 d.2.2.2.2.2.2.2.2.2.2.2.2.2.2.2.1,
            Col.i IntKind.i64 d.2.2.2.2.2.2.2.2.2.2.2.2.2.2.2.2.1, Col.b d.2.2.2.2.2.2.2.2.2.2.2.2.2.2.2.2.2.1,
            Col.b d.2.2.2.2.2.2.2.2.2.2.2.2.2.2.2.2.2.2.1])),
    AV.und, AV.und, AV.und, AV.und, AV.und, AV.und, AV.und, AV.und, AV.und, AV.und, AV.und, AV.und, AV.und, AV.und, AV.und, AV.und, AV.und, AV.und, AV.und, AV.und, AV.und, AV.und, AV.und, AV.und,
    AV.und, AV.und, AV.r (RV.c (CV.f (FV.i IntKind.i64 d.2.2.2.2.2.2.2.2.2.2.1))),
    AV.r
      (RV.c
        (CV.fs d.1 8
          [Col.i IntKind.i64 d.2.1, Col.i IntKind.i64 d.2.2.1, Col.i IntKind.i64 d.2.2.2.1, Col.u, Col.i IntKind.i64 d.2.2.2.2.1,
            Col.i IntKind.i64 d.2.2.2.2.2.1, Col.b d.2.2.2.2.2.2.1, Col.b d.2.2.2.2.2.2.2.1])),
    AV.r (RV.c (CV.f (FV.i IntKind.i64 d.2.2.2.2.2.2.2.2.2.2.2.2.2.2.2.2.2.2.2.1))),
    AV.r (RV.c (CV.f (FV.b d.2.2.2.2.2.2.2.2.2.2.2.2.2.2.2.2.2.2.2.2.1))), AV.und, AV.und, AV.und, AV.und, AV.und, AV.und, AV.und, AV.und, AV.und, AV.und,
    AV.und, AV.und, AV.und, AV.und, AV.und, AV.und, AV.und, AV.und, AV.und, AV.und, AV.und, AV.und, AV.und, AV.und, AV.und, AV.und, AV.und, AV.und, AV.und, AV.und, AV.und, AV.und, AV.und, AV.und,
    AV.und, AV.und, AV.und, AV.und, AV.und, AV.und, AV.und, AV.und, AV.und, AV.und, AV.und, AV.und, AV.und, AV.und, AV.und, AV.und, AV.und, AV.und, AV.und, AV.und, AV.und, AV.und, AV.tup [],
    AV.tup [], AV.und, AV.und, AV.tup [], AV.tup [], AV.tup [], AV.tup [], AV.tup [], AV.tup [], AV.tup [], AV.tup [], AV.tup [], AV.tup [], AV.tup [], AV.tup [], AV.tup [], AV.tup [], AV.tup [],
    AV.tup [], AV.tup [], AV.tup [], AV.tup [], AV.tup [], AV.tup [], AV.tup [], AV.tup [], AV.und, AV.und, AV.und, AV.und, AV.und, AV.und, AV.und, AV.tup [], AV.tup [], AV.tup [], AV.tup [],
    AV.tup [], AV.und]
  [some
      [Sg.a (Sz.l 6)
          [Col.i IntKind.i64 d.2.2.2.2.2.2.2.2.2.2.2.2.2.2.2.2.2.2.2.2.2.1,
            Col.i IntKind.i64 d.2.2.2.2.2.2.2.2.2.2.2.2.2.2.2.2.2.2.2.2.2.2.1,
            Col.b d.2.2.2.2.2.2.2.2.2.2.2.2.2.2.2.2.2.2.2.2.2.2.2.1,
            Col.i IntKind.i64 d.2.2.2.2.2.2.2.2.2.2.2.2.2.2.2.2.2.2.2.2.2.2.2.2.1,
            Col.i IntKind.i64 d.2.2.2.2.2.2.2.2.2.2.2.2.2.2.2.2.2.2.2.2.2.2.2.2.2.1,
            Col.i IntKind.i64 d.2.2.2.2.2.2.2.2.2.2.2.2.2.2.2.2.2.2.2.2.2.2.2.2.2.2.1],
        Sg.c (CV.f (FV.i IntKind.i64 d.2.2.2.2.2.2.2.2.2.2.2.2.2.2.2.2.2.2.2.2.2.2.2.2.2.2.2.1))],
    some
      [Sg.a (Sz.l 6)
          [Col.i IntKind.i64 d.2.2.2.2.2.2.2.2.2.2.2.2.2.2.2.2.2.2.2.2.2.2.2.2.2.2.2.2.1,
            Col.i IntKind.i64 d.2.2.2.2.2.2.2.2.2.2.2.2.2.2.2.2.2.2.2.2.2.2.2.2.2.2.2.2.2.1,
            Col.b d.2.2.2.2.2.2.2.2.2.2.2.2.2.2.2.2.2.2.2.2.2.2.2.2.2.2.2.2.2.2.1,
            Col.i IntKind.i64 d.2.2.2.2.2.2.2.2.2.2.2.2.2.2.2.2.2.2.2.2.2.2.2.2.2.2.2.2.2.2.2.1,
            Col.i IntKind.i64 d.2.2.2.2.2.2.2.2.2.2.2.2.2.2.2.2.2.2.2.2.2.2.2.2.2.2.2.2.2.2.2.2.1,
            Col.i IntKind.i64 d.2.2.2.2.2.2.2.2.2.2.2.2.2.2.2.2.2.2.2.2.2.2.2.2.2.2.2.2.2.2.2.2.2.1],
        Sg.c (CV.f (FV.i IntKind.i64 d.2.2.2.2.2.2.2.2.2.2.2.2.2.2.2.2.2.2.2.2.2.2.2.2.2.2.2.2.2.2.2.2.2.2))]]
  []))
theorem ms_astrolabelaw24_HealthApart_0 {ρ σ : Type} (g_astrolabelaw24_awake : Option Bool) (g_health_New : Int → Nat → (Nat → Int) → Bool → Option (Unit ⊕ (Nat → Int) × (Nat → Int) × (Nat → Bool) × (Nat → Int) × (Nat → Int) × (Nat → Int))) (g___health_Monitor__Result : Int →
  Int →
    Nat →
      (Nat → Int) →
        (Nat → Int) →
          (Nat → Bool) →
            (Nat → Int) →
              (Nat → Int) → (Nat → Int) → Int → (Nat → Bool) → (Nat → Int) → (Nat → Int) → Bool → Option ((Nat → Int) × (Nat → Int) × (Nat → Bool) × (Nat → Int) × (Nat → Int) × (Nat → Int) × Int)) (g___health_Monitor__Sensor : Int → (Nat → Int) → (Nat → Int) → (Nat → Bool) → (Nat → Int) → (Nat → Int) → (Nat → Int) → Int → Option (Int × Int × Bool × Int × Int × Int)) (g___health_Monitor__Usable : Int → Int → (Nat → Int) → (Nat → Int) → (Nat → Bool) → (Nat → Int) → (Nat → Int) → (Nat → Int) → Int → Option Bool) (g___health_Monitor__Bad : (Nat → Int) → (Nat → Int) → (Nat → Bool) → (Nat → Int) → (Nat → Int) → (Nat → Int) → Int → Option Bool)   (q : ρ → Option σ) (x0 : Nat) (x1 : Nat → Int) (x2 : Nat → Int) (x3 : Nat → Int) (x4 : Nat → Int) (x5 : Nat → Int) (x6 : Nat → Bool) (x7 : Nat → Bool) (x8 : Int) (x9 : Int) (x10 : Int) (x11 : Nat) (x12 : Nat → Int) (x13 : Nat → Int) (x14 : Nat → Int) (x15 : Nat → Int) (x16 : Nat → Int) (x17 : Nat → Bool) (x18 : Nat → Bool) (x19 : Nat → Int) (x20 : Nat → Int) (x21 : Nat → Bool) (x22 : Nat → Int) (x23 : Nat → Int) (x24 : Nat → Int) (x25 : Int) (x26 : Nat → Int) (x27 : Nat → Int) (x28 : Nat → Bool) (x29 : Nat → Int) (x30 : Nat → Int) (x31 : Nat → Int) (x32 : Int) (c : (Nat ×
  (Nat → Int) ×
    (Nat → Int) ×
      (Nat → Int) ×
        (Nat → Int) ×
          (Nat → Int) ×
            (Nat → Bool) ×
              (Nat → Bool) ×
                Int ×
                  Int ×
                    Int ×
                      Nat ×
                        (Nat → Int) ×
                          (Nat → Int) ×
                            (Nat → Int) ×
                              (Nat → Int) ×
                                (Nat → Int) ×
                                  (Nat → Bool) ×
                                    (Nat → Bool) ×
                                      (Nat → Int) ×
                                        (Nat → Int) ×
                                          (Nat → Bool) × (Nat → Int) × (Nat → Int) × (Nat → Int) × Int × (Nat → Int) × (Nat → Int) × (Nat → Bool) × (Nat → Int) × (Nat → Int) × (Nat → Int) × Int) → Option ρ) (x : (Nat ×
  (Nat → Int) ×
    (Nat → Int) ×
      (Nat → Int) ×
        (Nat → Int) ×
          (Nat → Int) ×
            (Nat → Bool) ×
              (Nat → Bool) ×
                Int ×
                  Int ×
                    Int ×
                      Nat ×
                        (Nat → Int) ×
                          (Nat → Int) ×
                            (Nat → Int) ×
                              (Nat → Int) ×
                                (Nat → Int) ×
                                  (Nat → Bool) ×
                                    (Nat → Bool) ×
                                      Int ×
                                        Bool ×
                                          (Nat → Int) ×
                                            (Nat → Int) ×
                                              (Nat → Bool) × (Nat → Int) × (Nat → Int) × (Nat → Int) × Int × (Nat → Int) × (Nat → Int) × (Nat → Bool) × (Nat → Int) × (Nat → Int) × (Nat → Int) × Int) → Option ρ) : (S_astrolabelaw24_HealthApart_0 g_astrolabelaw24_awake g_health_New g___health_Monitor__Result g___health_Monitor__Sensor g___health_Monitor__Usable g___health_Monitor__Bad  x0 x1 x2 x3 x4 x5 x6 x7 x8 x9 x10 x11 x12 x13 x14 x15 x16 x17 x18 x19 x20 x21 x22 x23 x24 x25 x26 x27 x28 x29 x30 x31 x32 c x).bind q = S_astrolabelaw24_HealthApart_0 g_astrolabelaw24_awake g_health_New g___health_Monitor__Result g___health_Monitor__Sensor g___health_Monitor__Usable g___health_Monitor__Bad  x0 x1 x2 x3 x4 x5 x6 x7 x8 x9 x10 x11 x12 x13 x14 x15 x16 x17 x18 x19 x20 x21 x22 x23 x24 x25 x26 x27 x28 x29 x30 x31 x32 (fun d => (c d).bind q) (fun d => (x d).bind q) := by
  simp only [S_astrolabelaw24_HealthApart_0, bnd_cond, bnd_bind, bnd_none, bnd_sum]
def L_astrolabelaw24_HealthApart_0 {ρ : Type} (d : Nat ×
  (Nat → Int) ×
    (Nat → Int) ×
      (Nat → Int) ×
        (Nat → Int) ×
          (Nat → Int) ×
            (Nat → Bool) ×
              (Nat → Bool) ×
                Int ×
                  Int ×
                    Int ×
                      Nat ×
                        (Nat → Int) ×
                          (Nat → Int) ×
                            (Nat → Int) ×
                              (Nat → Int) ×
                                (Nat → Int) ×
                                  (Nat → Bool) ×
                                    (Nat → Bool) ×
                                      (Nat → Int) ×
                                        (Nat → Int) ×
                                          (Nat → Bool) × (Nat → Int) × (Nat → Int) × (Nat → Int) × Int × (Nat → Int) × (Nat → Int) × (Nat → Bool) × (Nat → Int) × (Nat → Int) × (Nat → Int) × Int) (k : (Nat ×
  (Nat → Int) ×
    (Nat → Int) ×
      (Nat → Int) ×
        (Nat → Int) ×
          (Nat → Int) ×
            (Nat → Bool) ×
              (Nat → Bool) ×
                Int ×
                  Int ×
                    Int ×
                      Nat ×
                        (Nat → Int) ×
                          (Nat → Int) ×
                            (Nat → Int) ×
                              (Nat → Int) ×
                                (Nat → Int) ×
                                  (Nat → Bool) ×
                                    (Nat → Bool) ×
                                      Int ×
                                        Bool ×
                                          (Nat → Int) ×
                                            (Nat → Int) ×
                                              (Nat → Bool) × (Nat → Int) × (Nat → Int) × (Nat → Int) × Int × (Nat → Int) × (Nat → Int) × (Nat → Bool) × (Nat → Int) × (Nat → Int) × (Nat → Int) × Int) → Option ρ) : Option ρ := loopK (fun d c x => S_astrolabelaw24_HealthApart_0 f_astrolabelaw24_awake f_health_New f___health_Monitor__Result f___health_Monitor__Sensor f___health_Monitor__Usable f___health_Monitor__Bad  d.1 d.2.1 d.2.2.1 d.2.2.2.1 d.2.2.2.2.1 d.2.2.2.2.2.1 d.2.2.2.2.2.2.1 d.2.2.2.2.2.2.2.1 d.2.2.2.2.2.2.2.2.1 d.2.2.2.2.2.2.2.2.2.1 d.2.2.2.2.2.2.2.2.2.2.1 d.2.2.2.2.2.2.2.2.2.2.2.1 d.2.2.2.2.2.2.2.2.2.2.2.2.1 d.2.2.2.2.2.2.2.2.2.2.2.2.2.1 d.2.2.2.2.2.2.2.2.2.2.2.2.2.2.1 d.2.2.2.2.2.2.2.2.2.2.2.2.2.2.2.1 d.2.2.2.2.2.2.2.2.2.2.2.2.2.2.2.2.1 d.2.2.2.2.2.2.2.2.2.2.2.2.2.2.2.2.2.1 d.2.2.2.2.2.2.2.2.2.2.2.2.2.2.2.2.2.2.1 d.2.2.2.2.2.2.2.2.2.2.2.2.2.2.2.2.2.2.2.1 d.2.2.2.2.2.2.2.2.2.2.2.2.2.2.2.2.2.2.2.2.1 d.2.2.2.2.2.2.2.2.2.2.2.2.2.2.2.2.2.2.2.2.2.1 d.2.2.2.2.2.2.2.2.2.2.2.2.2.2.2.2.2.2.2.2.2.2.1 d.2.2.2.2.2.2.2.2.2.2.2.2.2.2.2.2.2.2.2.2.2.2.2.1 d.2.2.2.2.2.2.2.2.2.2.2.2.2.2.2.2.2.2.2.2.2.2.2.2.1 d.2.2.2.2.2.2.2.2.2.2.2.2.2.2.2.2.2.2.2.2.2.2.2.2.2.1 d.2.2.2.2.2.2.2.2.2.2.2.2.2.2.2.2.2.2.2.2.2.2.2.2.2.2.1 d.2.2.2.2.2.2.2.2.2.2.2.2.2.2.2.2.2.2.2.2.2.2.2.2.2.2.2.1 d.2.2.2.2.2.2.2.2.2.2.2.2.2.2.2.2.2.2.2.2.2.2.2.2.2.2.2.2.1 d.2.2.2.2.2.2.2.2.2.2.2.2.2.2.2.2.2.2.2.2.2.2.2.2.2.2.2.2.2.1 d.2.2.2.2.2.2.2.2.2.2.2.2.2.2.2.2.2.2.2.2.2.2.2.2.2.2.2.2.2.2.1 d.2.2.2.2.2.2.2.2.2.2.2.2.2.2.2.2.2.2.2.2.2.2.2.2.2.2.2.2.2.2.2.1 d.2.2.2.2.2.2.2.2.2.2.2.2.2.2.2.2.2.2.2.2.2.2.2.2.2.2.2.2.2.2.2.2 c x) 200 d k
theorem mL_astrolabelaw24_HealthApart_0 {ρ σ : Type} (q : ρ → Option σ) (d : Nat ×
  (Nat → Int) ×
    (Nat → Int) ×
      (Nat → Int) ×
        (Nat → Int) ×
          (Nat → Int) ×
            (Nat → Bool) ×
              (Nat → Bool) ×
                Int ×
                  Int ×
                    Int ×
                      Nat ×
                        (Nat → Int) ×
                          (Nat → Int) ×
                            (Nat → Int) ×
                              (Nat → Int) ×
                                (Nat → Int) ×
                                  (Nat → Bool) ×
                                    (Nat → Bool) ×
                                      (Nat → Int) ×
                                        (Nat → Int) ×
                                          (Nat → Bool) × (Nat → Int) × (Nat → Int) × (Nat → Int) × Int × (Nat → Int) × (Nat → Int) × (Nat → Bool) × (Nat → Int) × (Nat → Int) × (Nat → Int) × Int) (k : (Nat ×
  (Nat → Int) ×
    (Nat → Int) ×
      (Nat → Int) ×
        (Nat → Int) ×
          (Nat → Int) ×
            (Nat → Bool) ×
              (Nat → Bool) ×
                Int ×
                  Int ×
                    Int ×
                      Nat ×
                        (Nat → Int) ×
                          (Nat → Int) ×
                            (Nat → Int) ×
                              (Nat → Int) ×
                                (Nat → Int) ×
                                  (Nat → Bool) ×
                                    (Nat → Bool) ×
                                      Int ×
                                        Bool ×
                                          (Nat → Int) ×
                                            (Nat → Int) ×
                                              (Nat → Bool) × (Nat → Int) × (Nat → Int) × (Nat → Int) × Int × (Nat → Int) × (Nat → Int) × (Nat → Bool) × (Nat → Int) × (Nat → Int) × (Nat → Int) × Int) → Option ρ) : (L_astrolabelaw24_HealthApart_0 d k).bind q = L_astrolabelaw24_HealthApart_0 d fun x => (k x).bind q :=
  loopK_bind q (fun d c x => ms_astrolabelaw24_HealthApart_0 f_astrolabelaw24_awake f_health_New f___health_Monitor__Result f___health_Monitor__Sensor f___health_Monitor__Usable f___health_Monitor__Bad   q d.1 d.2.1 d.2.2.1 d.2.2.2.1 d.2.2.2.2.1 d.2.2.2.2.2.1 d.2.2.2.2.2.2.1 d.2.2.2.2.2.2.2.1 d.2.2.2.2.2.2.2.2.1 d.2.2.2.2.2.2.2.2.2.1 d.2.2.2.2.2.2.2.2.2.2.1 d.2.2.2.2.2.2.2.2.2.2.2.1 d.2.2.2.2.2.2.2.2.2.2.2.2.1 d.2.2.2.2.2.2.2.2.2.2.2.2.2.1 d.2.2.2.2.2.2.2.2.2.2.2.2.2.2.1 d.2.2.2.2.2.2.2.2.2.2.2.2.2.2.2.1 d.2.2.2.2.2.2.2.2.2.2.2.2.2.2.2.2.1 d.2.2.2.2.2.2.2.2.2.2.2.2.2.2.2.2.2.1 d.2.2.2.2.2.2.2.2.2.2.2.2.2.2.2.2.2.2.1 d.2.2.2.2.2.2.2.2.2.2.2.2.2.2.2.2.2.2.2.1 d.2.2.2.2.2.2.2.2.2.2.2.2.2.2.2.2.2.2.2.2.1 d.2.2.2.2.2.2.2.2.2.2.2.2.2.2.2.2.2.2.2.2.2.1 d.2.2.2.2.2.2.2.2.2.2.2.2.2.2.2.2.2.2.2.2.2.2.1 d.2.2.2.2.2.2.2.2.2.2.2.2.2.2.2.2.2.2.2.2.2.2.2.1 d.2.2.2.2.2.2.2.2.2.2.2.2.2.2.2.2.2.2.2.2.2.2.2.2.1 d.2.2.2.2.2.2.2.2.2.2.2.2.2.2.2.2.2.2.2.2.2.2.2.2.2.1 d.2.2.2.2.2.2.2.2.2.2.2.2.2.2.2.2.2.2.2.2.2.2.2.2.2.2.1 d.2.2.2.2.2.2.2.2.2.2.2.2.2.2.2.2.2.2.2.2.2.2.2.2.2.2.2.1 d.2.2.2.2.2.2.2.2.2.2.2.2.2.2.2.2.2.2.2.2.2.2.2.2.2.2.2.2.1 d.2.2.2.2.2.2.2.2.2.2.2.2.2.2.2.2.2.2.2.2.2.2.2.2.2.2.2.2.2.1 d.2.2.2.2.2.2.2.2.2.2.2.2.2.2.2.2.2.2.2.2.2.2.2.2.2.2.2.2.2.2.1 d.2.2.2.2.2.2.2.2.2.2.2.2.2.2.2.2.2.2.2.2.2.2.2.2.2.2.2.2.2.2.2.1 d.2.2.2.2.2.2.2.2.2.2.2.2.2.2.2.2.2.2.2.2.2.2.2.2.2.2.2.2.2.2.2.2 c x) k _ d
def S_astrolabelaw24_HealthApart_1 {ρ : Type} (g_astrolabelaw24_awake : Option Bool) (g_health_New : Int → Nat → (Nat → Int) → Bool → Option (Unit ⊕ (Nat → Int) × (Nat → Int) × (Nat → Bool) × (Nat → Int) × (Nat → Int) × (Nat → Int))) (g___health_Monitor__Result : Int →
  Int →
    Nat →
      (Nat → Int) →
        (Nat → Int) →
          (Nat → Bool) →
            (Nat → Int) →
              (Nat → Int) → (Nat → Int) → Int → (Nat → Bool) → (Nat → Int) → (Nat → Int) → Bool → Option ((Nat → Int) × (Nat → Int) × (Nat → Bool) × (Nat → Int) × (Nat → Int) × (Nat → Int) × Int)) (g___health_Monitor__Sensor : Int → (Nat → Int) → (Nat → Int) → (Nat → Bool) → (Nat → Int) → (Nat → Int) → (Nat → Int) → Int → Option (Int × Int × Bool × Int × Int × Int)) (g___health_Monitor__Usable : Int → Int → (Nat → Int) → (Nat → Int) → (Nat → Bool) → (Nat → Int) → (Nat → Int) → (Nat → Int) → Int → Option Bool) (g___health_Monitor__Bad : (Nat → Int) → (Nat → Int) → (Nat → Bool) → (Nat → Int) → (Nat → Int) → (Nat → Int) → Int → Option Bool)  (x0 : Int) (x1 : Int) (x2 : Int) (x3 : Nat) (x4 : Nat → Int) (x5 : Nat → Int) (x6 : Nat → Int) (x7 : Nat → Int) (x8 : Nat → Int) (x9 : Nat → Bool) (x10 : Nat → Bool) (x11 : Nat → Int) (x12 : Nat → Int) (x13 : Nat → Bool) (x14 : Nat → Int) (x15 : Nat → Int) (x16 : Nat → Int) (x17 : Int) (x18 : Nat → Int) (x19 : Nat → Int) (x20 : Nat → Bool) (x21 : Nat → Int) (x22 : Nat → Int) (x23 : Nat → Int) (x24 : Int) (c : (Int ×
  Int ×
    Int ×
      Nat ×
        (Nat → Int) ×
          (Nat → Int) ×
            (Nat → Int) ×
              (Nat → Int) ×
                (Nat → Int) ×
                  (Nat → Bool) ×
                    (Nat → Bool) ×
                      (Nat → Int) ×
                        (Nat → Int) × (Nat → Bool) × (Nat → Int) × (Nat → Int) × (Nat → Int) × Int × (Nat → Int) × (Nat → Int) × (Nat → Bool) × (Nat → Int) × (Nat → Int) × (Nat → Int) × Int) → Option ρ) (x : (Unit ⊕
  Int ×
    Int ×
      Int ×
        Nat ×
          (Nat → Int) ×
            (Nat → Int) ×
              (Nat → Int) ×
                (Nat → Int) ×
                  (Nat → Int) ×
                    (Nat → Bool) ×
                      (Nat → Bool) ×
                        Bool ×
                          (Nat → Int) ×
                            (Nat → Int) × (Nat → Bool) × (Nat → Int) × (Nat → Int) × (Nat → Int) × Int × (Nat → Int) × (Nat → Int) × (Nat → Bool) × (Nat → Int) × (Nat → Int) × (Nat → Int) × Int) → Option ρ) : Option ρ :=
  bif decide (x2 < 6) then
    Option.bind (g___health_Monitor__Sensor x2 x11 x12 x13 x14 x15 x16 x17) fun (d : Int × Int × Bool × Int × Int × Int) =>
      Option.bind (g___health_Monitor__Sensor x2 x18 x19 x20 x21 x22 x23 x24) fun (d_1 : Int × Int × Bool × Int × Int × Int) =>
        bif x2 != x0 then
          bif
              !(d.1 == d_1.1 && (d.2.1 == d_1.2.1 && (d.2.2.1 == d_1.2.2.1 && true)) &&
                  (d.2.2.2.1 == d_1.2.2.2.1 && (d.2.2.2.2.1 == d_1.2.2.2.2.1 && (d.2.2.2.2.2 == d_1.2.2.2.2.2 && true)))) then
            x (Sum.inl ())
          else
            Option.bind (g___health_Monitor__Usable x2 x1 x11 x12 x13 x14 x15 x16 x17) fun (d : Bool) =>
              Option.bind (g___health_Monitor__Usable x2 x1 x18 x19 x20 x21 x22 x23 x24) fun (d_2 : Bool) =>
                bif !d == d_2 then x (Sum.inl ())
                else c (x0, x1, IntKind.wrap IntKind.i64 (x2 + 1), x3, x4, x5, x6, x7, x8, x9, x10, x11, x12, x13, x14, x15, x16, x17, x18, x19, x20, x21, x22, x23, x24)
        else c (x0, x1, IntKind.wrap IntKind.i64 (x2 + 1), x3, x4, x5, x6, x7, x8, x9, x10, x11, x12, x13, x14, x15, x16, x17, x18, x19, x20, x21, x22, x23, x24)
  else x (Sum.inr (x0, x1, x2, x3, x4, x5, x6, x7, x8, x9, x10, decide (x2 < 6), x11, x12, x13, x14, x15, x16, x17, x18, x19, x20, x21, x22, x23, x24))
section
open Go.Ab.Rdr
def Q_astrolabelaw24_HealthApart_1 := (st (cons aund (cons (ar (rc (cf (fi .i64 hole)))) (cons (ar (rc (cf (fi .i64 hole)))) (cons aund (cons aund (cons (atup nil) (cons (ar (rc (cf (fb (bool false))))) (cons (ar (rc (cptr (nat 0) (ok' (nat 0)) (nat 37)))) (cons aund (cons (ar (rc (cptr (nat 1) (ok' (nat 0)) (nat 37)))) (cons (ar (rc (cf (fi .i64 (int 0))))) (cons aund (cons aund (cons (ar (rc (cf (fi .i64 hole)))) (cons aund (cons aund (cons aund (cons aund (cons (ar (rc (cfs hole (nat 8) (cons (ki .i64 hole) (cons (ki .i64 hole) (cons (ki .i64 hole) (cons ku (cons (ki .i64 hole) (cons (ki .i64 hole) (cons (kb hole) (cons (kb hole) nil))))))))))) (cons aund (cons aund (cons aund (cons aund (cons aund (cons aund (cons aund (cons aund (cons aund (cons aund (cons aund (cons aund (cons aund (cons aund (cons aund (cons aund (cons aund (cons aund (cons aund (cons aund (cons aund (cons aund (cons aund (cons aund (cons aund (cons aund (cons aund (cons aund (cons aund (cons aund (cons aund (cons aund (cons aund (cons aund (cons aund (cons aund (cons aund (cons aund (cons aund (cons aund (cons aund (cons aund (cons aund (cons aund (cons aund (cons aund (cons aund (cons aund (cons aund (cons aund (cons aund (cons aund (cons aund (cons aund (cons aund (cons aund (cons aund (cons aund (cons aund (cons aund (cons aund (cons aund (cons aund (cons aund (cons aund (cons aund (cons aund (cons aund (cons aund (cons aund (cons aund (cons aund (cons aund (cons aund (cons aund (cons aund (cons aund (cons aund (cons aund (cons aund (cons aund (cons aund (cons aund (cons aund (cons aund (cons aund (cons aund (cons aund (cons aund (cons aund (cons aund (cons aund (cons aund (cons aund (cons aund (cons aund (cons aund (cons aund (cons aund (cons aund (cons aund (cons aund (cons aund (cons aund (cons aund (cons aund (cons aund (cons aund (cons aund (cons aund (cons aund (cons aund (cons aund (cons aund (cons aund (cons aund (cons aund (cons aund (cons aund (cons aund (cons (atup nil) (cons (atup nil) (cons (atup nil) (cons (atup nil) (cons (atup nil) (cons aund nil))))))))))))))))))))))))))))))))))))))))))))))))))))))))))))))))))))))))))))))))))))))))))))))))))))))))))))))))))))))))))))))))))))))))))))))))) (cons (some' (cons (ga (szl (nat 6)) (cons (ki .i64 hole) (cons (ki .i64 hole) (cons (kb hole) (cons (ki .i64 hole) (cons (ki .i64 hole) (cons (ki .i64 hole) nil))))))) (cons (gc (cf (fi .i64 hole))) nil))) (cons (some' (cons (ga (szl (nat 6)) (cons (ki .i64 hole) (cons (ki .i64 hole) (cons (kb hole) (cons (ki .i64 hole) (cons (ki .i64 hole) (cons (ki .i64 hole) nil))))))) (cons (gc (cf (fi .i64 hole))) nil))) nil)) nil)
end
theorem q_astrolabelaw24_HealthApart_1 : ∀ b, (Q_astrolabelaw24_HealthApart_1).em b = St.mk
    [AV.und, AV.r (RV.c (CV.f (FV.i IntKind.i64 b.1.2.1))), AV.r (RV.c (CV.f (FV.i IntKind.i64 b.1.2.2.1))), AV.und, AV.und, AV.tup [], AV.r (RV.c (CV.f (FV.b false))), AV.r (RV.c (CV.ptr 0 (Off.k 0) 37)), AV.und,
      AV.r (RV.c (CV.ptr 1 (Off.k 0) 37)), AV.r (RV.c (CV.f (FV.i IntKind.i64 0))), AV.und, AV.und, AV.r (RV.c (CV.f (FV.i IntKind.i64 b.1.2.2.2.2.2.2.2.2.2.2.2.2.2.1))), AV.und, AV.und, AV.und, AV.und,
      AV.r (RV.c (CV.fs b.1.2.2.2.2.2.2.2.2.2.2.2.2.2.2.2.2.2.2.1.1 8 [Col.i IntKind.i64 b.1.2.2.2.2.2.2.2.2.2.2.2.2.2.2.2.2.2.2.1.2.2.1, Col.i IntKind.i64 b.1.2.2.2.2.2.2.2.2.2.2.2.2.2.2.2.2.2.2.1.2.2.2.1, Col.i IntKind.i64 b.1.2.2.2.2.2.2.2.2.2.2.2.2.2.2.2.2.2.2.1.2.2.2.2.1, Col.u, Col.i IntKind.i64 b.1.2.2.2.2.2.2.2.2.2.2.2.2.2.2.2.2.2.2.1.2.2.2.2.2.2.1, Col.i IntKind.i64 b.1.2.2.2.2.2.2.2.2.2.2.2.2.2.2.2.2.2.2.1.2.2.2.2.2.2.2.1, Col.b b.1.2.2.2.2.2.2.2.2.2.2.2.2.2.2.2.2.2.2.1.2.2.2.2.2.2.2.2.1, Col.b b.1.2.2.2.2.2.2.2.2.2.2.2.2.2.2.2.2.2.2.1.2.2.2.2.2.2.2.2.2.1])), AV.und, AV.und, AV.und, AV.und,
      AV.und, AV.und, AV.und, AV.und, AV.und, AV.und, AV.und, AV.und, AV.und, AV.und, AV.und, AV.und, AV.und, AV.und, AV.und, AV.und, AV.und, AV.und, AV.und, AV.und, AV.und, AV.und, AV.und, AV.und,
      AV.und, AV.und, AV.und, AV.und, AV.und, AV.und, AV.und, AV.und, AV.und, AV.und, AV.und, AV.und, AV.und, AV.und, AV.und, AV.und, AV.und, AV.und, AV.und, AV.und, AV.und, AV.und, AV.und, AV.und,
      AV.und, AV.und, AV.und, AV.und, AV.und, AV.und, AV.und, AV.und, AV.und, AV.und, AV.und, AV.und, AV.und, AV.und, AV.und, AV.und, AV.und, AV.und, AV.und, AV.und, AV.und, AV.und, AV.und, AV.und,
      AV.und, AV.und, AV.und, AV.und, AV.und, AV.und, AV.und, AV.und, AV.und, AV.und, AV.und, AV.und, AV.und, AV.und, AV.und, AV.und, AV.und, AV.und, AV.und, AV.und, AV.und, AV.und, AV.und, AV.und,
      AV.und, AV.und, AV.und, AV.und, AV.und, AV.und, AV.und, AV.und, AV.und, AV.und, AV.und, AV.und, AV.und, AV.und, AV.und, AV.und, AV.und, AV.und, AV.und, AV.und, AV.tup [], AV.tup [], AV.tup [],
      AV.tup [], AV.tup [], AV.und]
    [some [Sg.a (Sz.l 6) [Col.i IntKind.i64 b.2.1.1.1.2.1, Col.i IntKind.i64 b.2.1.1.1.2.2.1, Col.b b.2.1.1.1.2.2.2.1, Col.i IntKind.i64 b.2.1.1.1.2.2.2.2.1, Col.i IntKind.i64 b.2.1.1.1.2.2.2.2.2.1, Col.i IntKind.i64 b.2.1.1.1.2.2.2.2.2.2.1], Sg.c (CV.f (FV.i IntKind.i64 b.2.1.1.2.1))],
      some [Sg.a (Sz.l 6) [Col.i IntKind.i64 b.2.1.2.1.1.2.1, Col.i IntKind.i64 b.2.1.2.1.1.2.2.1, Col.b b.2.1.2.1.1.2.2.2.1, Col.i IntKind.i64 b.2.1.2.1.1.2.2.2.2.1, Col.i IntKind.i64 b.2.1.2.1.1.2.2.2.2.2.1, Col.i IntKind.i64 b.2.1.2.1.1.2.2.2.2.2.2.1], Sg.c (CV.f (FV.i IntKind.i64 b.2.1.2.1.2.1))]]
    [] := fun b => by kernel_rfl
def R_astrolabelaw24_HealthApart_1 (l : ∀ {ρ : Type}, (Int ×
  Int ×
    Int ×
      Nat ×
        (Nat → Int) ×
          (Nat → Int) ×
            (Nat → Int) ×
              (Nat → Int) ×
                (Nat → Int) ×
                  (Nat → Bool) ×
                    (Nat → Bool) ×
                      (Nat → Int) ×
                        (Nat → Int) × (Nat → Bool) × (Nat → Int) × (Nat → Int) × (Nat → Int) × Int × (Nat → Int) × (Nat → Int) × (Nat → Bool) × (Nat → Int) × (Nat → Int) × (Nat → Int) × Int) → ((Unit ⊕
  Int ×
    Int ×
      Int ×
        Nat ×
          (Nat → Int) ×
            (Nat → Int) ×
              (Nat → Int) ×
                (Nat → Int) ×
                  (Nat → Int) ×
                    (Nat → Bool) ×
                      (Nat → Bool) ×
                        Bool ×
                          (Nat → Int) ×
                            (Nat → Int) × (Nat → Bool) × (Nat → Int) × (Nat → Int) × (Nat → Int) × Int × (Nat → Int) × (Nat → Int) × (Nat → Bool) × (Nat → Int) × (Nat → Int) × (Nat → Int) × Int) → Option ρ) → Option ρ) {ρ : Type} (s : St) (K : AX → St → Option ρ) : Option ρ := ((Q_astrolabelaw24_HealthApart_1).rd s).bind fun b => l (b.1.2.1, b.1.2.2.1, b.1.2.2.2.2.2.2.2.2.2.2.2.2.2.1, b.1.2.2.2.2.2.2.2.2.2.2.2.2.2.2.2.2.2.2.1.1, b.1.2.2.2.2.2.2.2.2.2.2.2.2.2.2.2.2.2.2.1.2.2.1, b.1.2.2.2.2.2.2.2.2.2.2.2.2.2.2.2.2.2.2.1.2.2.2.1, b.1.2.2.2.2.2.2.2.2.2.2.2.2.2.2.2.2.2.2.1.2.2.2.2.1, b.1.2.2.2.2.2.2.2.2.2.2.2.2.2.2.2.2.2.2.1.2.2.2.2.2.2.1, b.1.2.2.2.2.2.2.2.2.2.2.2.2.2.2.2.2.2.2.1.2.2.2.2.2.2.2.1, b.1.2.2.2.2.2.2.2.2.2.2.2.2.2.2.2.2.2.2.1.2.2.2.2.2.2.2.2.1, b.1.2.2.2.2.2.2.2.2.2.2.2.2.2.2.2.2.2.2.1.2.2.2.2.2.2.2.2.2.1, b.2.1.1.1.2.1, b.2.1.1.1.2.2.1, b.2.1.1.1.2.2.2.1, b.2.1.1.1.2.2.2.2.1, b.2.1.1.1.2.2.2.2.2.1, b.2.1.1.1.2.2.2.2.2.2.1, b.2.1.1.2.1, b.2.1.2.1.1.2.1, b.2.1.2.1.1.2.2.1, b.2.1.2.1.1.2.2.2.1, b.2.1.2.1.1.2.2.2.2.1, b.2.1.2.1.1.2.2.2.2.2.1, b.2.1.2.1.1.2.2.2.2.2.2.1, b.2.1.2.1.2.1) (Sum.elim (fun d => K (AX.ret) (St.mk
  [AV.und, AV.und, AV.und, AV.und, AV.und, AV.und, AV.r (RV.c (CV.f (FV.b false))), AV.und, AV.und, AV.und, AV.und, AV.und, AV.und, AV.und, AV.und, AV.und, AV.und, AV.und, AV.und, AV.und, AV.und,
    AV.und, AV.und, AV.und, AV.und, AV.und, AV.und, AV.und, AV.und, AV.und, AV.und, AV.und, AV.und, AV.und, AV.und, AV.und, AV.und, AV.und, AV.und, AV.und, AV.und, AV.und, AV.und, AV.und, AV.und,
    AV.und, AV.und, AV.und, AV.und, AV.und, AV.und, AV.und, AV.und, AV.und, AV.und, AV.und, AV.und, AV.und, AV.und, AV.und, AV.und, AV.und, AV.und, AV.und, AV.und, AV.und, AV.und, AV.und, AV.und,
    AV.und, AV.und, AV.und, AV.und, AV.und, AV.und, AV.und, AV.und, AV.und, AV.und, AV.und, AV.und, AV.und, AV.und, AV.und, AV.und, AV.und, AV.und, AV.und, AV.und, AV.und, AV.und, AV.und, AV.und,
    AV.und, AV.und, AV.und, AV.und, AV.und, AV.und, AV.und, AV.und, AV.und, AV.und, AV.und, AV.und, AV.und, AV.und, AV.und, AV.und, AV.und, AV.und, AV.und, AV.und, AV.und, AV.und, AV.und, AV.und,
    AV.und, AV.und, AV.und, AV.und, AV.und, AV.und, AV.und, AV.und, AV.und, AV.und, AV.und, AV.und, AV.und, AV.und, AV.und, AV.und, AV.und, AV.und, AV.und, AV.und, AV.und, AV.und, AV.und, AV.und,
    AV.und, AV.und, AV.und, AV.und]
  [] [])) (fun d => K (AX.ex 2) (St.mk
  [AV.und, AV.r (RV.c (CV.f (FV.i IntKind.i64 d.1))), AV.r (RV.c (CV.f (FV.i IntKind.i64 d.2.1))), AV.und, AV.und, AV.tup [], AV.r (RV.c (CV.f (FV.b false))),
    AV.r (RV.c (CV.ptr 0 (Off.k 0) 37)), AV.und, AV.r (RV.c (CV.ptr 1 (Off.k 0) 37)), AV.r (RV.c (CV.f (FV.i IntKind.i64 0))), AV.und, AV.und, AV.r (RV.c (CV.f (FV.i IntKind.i64 d.2.2.1))),
    AV.und, AV.und, AV.und, AV.und,
    AV.r
      (RV.c
        (CV.fs d.2.2.2.1 8
          [Col.i IntKind.i64 d.2.2.2.2.1, Col.i IntKind.i64 d.2.2.2.2.2.1, Col.i IntKind.i64 d.2.2.2.2.2.2.1, Col.u,
            Col.i IntKind.i64 d.2.2.2.2.2.2.2.1, Col.i IntKind.i64 d.2.2.2.2.2.2.2.2.1, Col.b d.2.2.2.2.2.2.2.2.2.1,
            Col.b d.2.2.2.2.2.2.2.2.2.2.1])),
    AV.und, AV.und, AV.und, AV.und, AV.und, AV.und, AV.und, AV.und, AV.und, AV.und, AV.und, AV.und, AV.und, AV.und, AV.und, AV.und, AV.und, AV.und, AV.und, AV.und, AV.und, AV.und, AV.und, AV.und,
    AV.und, AV.und, AV.und, AV.und, AV.und, AV.und, AV.und, AV.und, AV.und, AV.und, AV.und, AV.und, AV.und, AV.und, AV.und, AV.und, AV.und, AV.und, AV.und, AV.und, AV.und, AV.und, AV.und, AV.und,
    AV.und, AV.und, AV.und, AV.und, AV.und, AV.und, AV.und, AV.und, AV.und, AV.und, AV.und, AV.und, AV.und, AV.und, AV.und, AV.und, AV.und, AV.und, AV.und, AV.und, AV.und, AV.und, AV.und, AV.und,
    AV.und, AV.r (RV.c (CV.f (FV.i IntKind.i64 d.2.2.1))), AV.r (RV.c (CV.f (FV.b d.2.2.2.2.2.2.2.2.2.2.2.1))), AV.und, AV.und, AV.und, AV.und, AV.und, AV.und, AV.und,
    AV.und, AV.und, AV.und, AV.und, AV.und, AV.und, AV.und, AV.und, AV.und, AV.und, AV.und, AV.und, AV.und, AV.und, AV.und, AV.und, AV.und, AV.und, AV.und, AV.und, AV.und, AV.und, AV.und, AV.und,
    AV.und, AV.und, AV.und, AV.und, AV.und, AV.und, AV.und, AV.und, AV.und, AV.und, AV.und, AV.und, AV.und, AV.und, AV.tup [], AV.tup [], AV.tup [], AV.tup [], AV.tup [], AV.und]
  [some
      [Sg.a (Sz.l 6)
          [Col.i IntKind.i64 d.2.2.2.2.2.2.2.2.2.2.2.2.1, Col.i IntKind.i64 d.2.2.2.2.2.2.2.2.2.2.2.2.2.1,
            Col.b d.2.2.2.2.2.2.2.2.2.2.2.2.2.2.1, Col.i IntKind.i64 d.2.2.2.2.2.2.2.2.2.2.2.2.2.2.2.1,
            Col.i IntKind.i64 d.2.2.2.2.2.2.2.2.2.2.2.2.2.2.2.2.1, Col.i IntKind.i64 d.2.2.2.2.2.2.2.2.2.2.2.2.2.2.2.2.2.1],
        Sg.c (CV.f (FV.i IntKind.i64 d.2.2.2.2.2.2.2.2.2.2.2.2.2.2.2.2.2.2.1))],
    some
      [Sg.a (Sz.l 6)
          [Col.i IntKind.i64 d.2.2.2.2.2.2.2.2.2.2.2.2.2.2.2.2.2.2.2.1,
            Col.i IntKind.i64 d.2.2.2.2.2.2.2.2.2.2.2.2.2.2.2.2.2.2.2.2.1,
            Col.b d.2.2.2.2.2.2.2.2.2.2.2.2.2.2.2.2.2.2.2.2.2.1,
            Col.i IntKind.i64 d.2.2.2.2.2.2.2.2.2.2.2.2.2.2.2.2.2.2.2.2.2.2.1,
            Col.i IntKind.i64 d.2.2.2.2.2.2.2.2.2.2.2.2.2.2.2.2.2.2.2.2.2.2.2.1,
            Col.i IntKind.i64 d.2.2.2.2.2.2.2.2.2.2.2.2.2.2.2.2.2.2.2.2.2.2.2.2.1],
        Sg.c (CV.f (FV.i IntKind.i64 d.2.2.2.2.2.2.2.2.2.2.2.2.2.2.2.2.2.2.2.2.2.2.2.2.2))]]
  [])))
theorem ms_astrolabelaw24_HealthApart_1 {ρ σ : Type} (g_astrolabelaw24_awake : Option Bool) (g_health_New : Int → Nat → (Nat → Int) → Bool → Option (Unit ⊕ (Nat → Int) × (Nat → Int) × (Nat → Bool) × (Nat → Int) × (Nat → Int) × (Nat → Int))) (g___health_Monitor__Result : Int →
  Int →
    Nat →
      (Nat → Int) →
        (Nat → Int) →
          (Nat → Bool) →
            (Nat → Int) →
              (Nat → Int) → (Nat → Int) → Int → (Nat → Bool) → (Nat → Int) → (Nat → Int) → Bool → Option ((Nat → Int) × (Nat → Int) × (Nat → Bool) × (Nat → Int) × (Nat → Int) × (Nat → Int) × Int)) (g___health_Monitor__Sensor : Int → (Nat → Int) → (Nat → Int) → (Nat → Bool) → (Nat → Int) → (Nat → Int) → (Nat → Int) → Int → Option (Int × Int × Bool × Int × Int × Int)) (g___health_Monitor__Usable : Int → Int → (Nat → Int) → (Nat → Int) → (Nat → Bool) → (Nat → Int) → (Nat → Int) → (Nat → Int) → Int → Option Bool) (g___health_Monitor__Bad : (Nat → Int) → (Nat → Int) → (Nat → Bool) → (Nat → Int) → (Nat → Int) → (Nat → Int) → Int → Option Bool)   (q : ρ → Option σ) (x0 : Int) (x1 : Int) (x2 : Int) (x3 : Nat) (x4 : Nat → Int) (x5 : Nat → Int) (x6 : Nat → Int) (x7 : Nat → Int) (x8 : Nat → Int) (x9 : Nat → Bool) (x10 : Nat → Bool) (x11 : Nat → Int) (x12 : Nat → Int) (x13 : Nat → Bool) (x14 : Nat → Int) (x15 : Nat → Int) (x16 : Nat → Int) (x17 : Int) (x18 : Nat → Int) (x19 : Nat → Int) (x20 : Nat → Bool) (x21 : Nat → Int) (x22 : Nat → Int) (x23 : Nat → Int) (x24 : Int) (c : (Int ×
  Int ×
    Int ×
      Nat ×
        (Nat → Int) ×
          (Nat → Int) ×
            (Nat → Int) ×
              (Nat → Int) ×
                (Nat → Int) ×
                  (Nat → Bool) ×
                    (Nat → Bool) ×
                      (Nat → Int) ×
                        (Nat → Int) × (Nat → Bool) × (Nat → Int) × (Nat → Int) × (Nat → Int) × Int × (Nat → Int) × (Nat → Int) × (Nat → Bool) × (Nat → Int) × (Nat → Int) × (Nat → Int) × Int) → Option ρ) (x : (Unit ⊕
  Int ×
    Int ×
      Int ×
        Nat ×
          (Nat → Int) ×
            (Nat → Int) ×
              (Nat → Int) ×
                (Nat → Int) ×
                  (Nat → Int) ×
                    (Nat → Bool) ×
                      (Nat → Bool) ×
                        Bool ×
                          (Nat → Int) ×
                            (Nat → Int) × (Nat → Bool) × (Nat → Int) × (Nat → Int) × (Nat → Int) × Int × (Nat → Int) × (Nat → Int) × (Nat → Bool) × (Nat → Int) × (Nat → Int) × (Nat → Int) × Int) → Option ρ) : (S_astrolabelaw24_HealthApart_1 g_astrolabelaw24_awake g_health_New g___health_Monitor__Result g___health_Monitor__Sensor g___health_Monitor__Usable g___health_Monitor__Bad  x0 x1 x2 x3 x4 x5 x6 x7 x8 x9 x10 x11 x12 x13 x14 x15 x16 x17 x18 x19 x20 x21 x22 x23 x24 c x).bind q = S_astrolabelaw24_HealthApart_1 g_astrolabelaw24_awake g_health_New g___health_Monitor__Result g___health_Monitor__Sensor g___health_Monitor__Usable g___health_Monitor__Bad  x0 x1 x2 x3 x4 x5 x6 x7 x8 x9 x10 x11 x12 x13 x14 x15 x16 x17 x18 x19 x20 x21 x22 x23 x24 (fun d => (c d).bind q) (fun d => (x d).bind q) := by
  simp only [S_astrolabelaw24_HealthApart_1, bnd_cond, bnd_bind, bnd_none, bnd_sum]
def L_astrolabelaw24_HealthApart_1 {ρ : Type} (d : Int ×
  Int ×
    Int ×
      Nat ×
        (Nat → Int) ×
          (Nat → Int) ×
            (Nat → Int) ×
              (Nat → Int) ×
                (Nat → Int) ×
                  (Nat → Bool) ×
                    (Nat → Bool) ×
                      (Nat → Int) ×
                        (Nat → Int) × (Nat → Bool) × (Nat → Int) × (Nat → Int) × (Nat → Int) × Int × (Nat → Int) × (Nat → Int) × (Nat → Bool) × (Nat → Int) × (Nat → Int) × (Nat → Int) × Int) (k : (Unit ⊕
  Int ×
    Int ×
      Int ×
        Nat ×
          (Nat → Int) ×
            (Nat → Int) ×
              (Nat → Int) ×
                (Nat → Int) ×
                  (Nat → Int) ×
                    (Nat → Bool) ×
                      (Nat → Bool) ×
                        Bool ×
                          (Nat → Int) ×
                            (Nat → Int) × (Nat → Bool) × (Nat → Int) × (Nat → Int) × (Nat → Int) × Int × (Nat → Int) × (Nat → Int) × (Nat → Bool) × (Nat → Int) × (Nat → Int) × (Nat → Int) × Int) → Option ρ) : Option ρ := loopK (fun d c x => S_astrolabelaw24_HealthApart_1 f_astrolabelaw24_awake f_health_New f___health_Monitor__Result f___health_Monitor__Sensor f___health_Monitor__Usable f___health_Monitor__Bad  d.1 d.2.1 d.2.2.1 d.2.2.2.1 d.2.2.2.2.1 d.2.2.2.2.2.1 d.2.2.2.2.2.2.1 d.2.2.2.2.2.2.2.1 d.2.2.2.2.2.2.2.2.1 d.2.2.2.2.2.2.2.2.2.1 d.2.2.2.2.2.2.2.2.2.2.1 d.2.2.2.2.2.2.2.2.2.2.2.1 d.2.2.2.2.2.2.2.2.2.2.2.2.1 d.2.2.2.2.2.2.2.2.2.2.2.2.2.1 d.2.2.2.2.2.2.2.2.2.2.2.2.2.2.1 d.2.2.2.2.2.2.2.2.2.2.2.2.2.2.2.1 d.2.2.2.2.2.2.2.2.2.2.2.2.2.2.2.2.1 d.2.2.2.2.2.2.2.2.2.2.2.2.2.2.2.2.2.1 d.2.2.2.2.2.2.2.2.2.2.2.2.2.2.2.2.2.2.1 d.2.2.2.2.2.2.2.2.2.2.2.2.2.2.2.2.2.2.2.1 d.2.2.2.2.2.2.2.2.2.2.2.2.2.2.2.2.2.2.2.2.1 d.2.2.2.2.2.2.2.2.2.2.2.2.2.2.2.2.2.2.2.2.2.1 d.2.2.2.2.2.2.2.2.2.2.2.2.2.2.2.2.2.2.2.2.2.2.1 d.2.2.2.2.2.2.2.2.2.2.2.2.2.2.2.2.2.2.2.2.2.2.2.1 d.2.2.2.2.2.2.2.2.2.2.2.2.2.2.2.2.2.2.2.2.2.2.2.2 c x) 200 d k
theorem mL_astrolabelaw24_HealthApart_1 {ρ σ : Type} (q : ρ → Option σ) (d : Int ×
  Int ×
    Int ×
      Nat ×
        (Nat → Int) ×
          (Nat → Int) ×
            (Nat → Int) ×
              (Nat → Int) ×
                (Nat → Int) ×
                  (Nat → Bool) ×
                    (Nat → Bool) ×
                      (Nat → Int) ×
                        (Nat → Int) × (Nat → Bool) × (Nat → Int) × (Nat → Int) × (Nat → Int) × Int × (Nat → Int) × (Nat → Int) × (Nat → Bool) × (Nat → Int) × (Nat → Int) × (Nat → Int) × Int) (k : (Unit ⊕
  Int ×
    Int ×
      Int ×
        Nat ×
          (Nat → Int) ×
            (Nat → Int) ×
              (Nat → Int) ×
                (Nat → Int) ×
                  (Nat → Int) ×
                    (Nat → Bool) ×
                      (Nat → Bool) ×
                        Bool ×
                          (Nat → Int) ×
                            (Nat → Int) × (Nat → Bool) × (Nat → Int) × (Nat → Int) × (Nat → Int) × Int × (Nat → Int) × (Nat → Int) × (Nat → Bool) × (Nat → Int) × (Nat → Int) × (Nat → Int) × Int) → Option ρ) : (L_astrolabelaw24_HealthApart_1 d k).bind q = L_astrolabelaw24_HealthApart_1 d fun x => (k x).bind q :=
  loopK_bind q (fun d c x => ms_astrolabelaw24_HealthApart_1 f_astrolabelaw24_awake f_health_New f___health_Monitor__Result f___health_Monitor__Sensor f___health_Monitor__Usable f___health_Monitor__Bad   q d.1 d.2.1 d.2.2.1 d.2.2.2.1 d.2.2.2.2.1 d.2.2.2.2.2.1 d.2.2.2.2.2.2.1 d.2.2.2.2.2.2.2.1 d.2.2.2.2.2.2.2.2.1 d.2.2.2.2.2.2.2.2.2.1 d.2.2.2.2.2.2.2.2.2.2.1 d.2.2.2.2.2.2.2.2.2.2.2.1 d.2.2.2.2.2.2.2.2.2.2.2.2.1 d.2.2.2.2.2.2.2.2.2.2.2.2.2.1 d.2.2.2.2.2.2.2.2.2.2.2.2.2.2.1 d.2.2.2.2.2.2.2.2.2.2.2.2.2.2.2.1 d.2.2.2.2.2.2.2.2.2.2.2.2.2.2.2.2.1 d.2.2.2.2.2.2.2.2.2.2.2.2.2.2.2.2.2.1 d.2.2.2.2.2.2.2.2.2.2.2.2.2.2.2.2.2.2.1 d.2.2.2.2.2.2.2.2.2.2.2.2.2.2.2.2.2.2.2.1 d.2.2.2.2.2.2.2.2.2.2.2.2.2.2.2.2.2.2.2.2.1 d.2.2.2.2.2.2.2.2.2.2.2.2.2.2.2.2.2.2.2.2.2.1 d.2.2.2.2.2.2.2.2.2.2.2.2.2.2.2.2.2.2.2.2.2.2.1 d.2.2.2.2.2.2.2.2.2.2.2.2.2.2.2.2.2.2.2.2.2.2.2.1 d.2.2.2.2.2.2.2.2.2.2.2.2.2.2.2.2.2.2.2.2.2.2.2.2 c x) k _ d
theorem ds_astrolabelaw24_HealthApart_0 {ρ : Type} (g_astrolabelaw24_awake : Option Bool) (g_health_New : Int → Nat → (Nat → Int) → Bool → Option (Unit ⊕ (Nat → Int) × (Nat → Int) × (Nat → Bool) × (Nat → Int) × (Nat → Int) × (Nat → Int))) (g___health_Monitor__Result : Int →
  Int →
    Nat →
      (Nat → Int) →
        (Nat → Int) →
          (Nat → Bool) →
            (Nat → Int) →
              (Nat → Int) → (Nat → Int) → Int → (Nat → Bool) → (Nat → Int) → (Nat → Int) → Bool → Option ((Nat → Int) × (Nat → Int) × (Nat → Bool) × (Nat → Int) × (Nat → Int) × (Nat → Int) × Int)) (g___health_Monitor__Sensor : Int → (Nat → Int) → (Nat → Int) → (Nat → Bool) → (Nat → Int) → (Nat → Int) → (Nat → Int) → Int → Option (Int × Int × Bool × Int × Int × Int)) (g___health_Monitor__Usable : Int → Int → (Nat → Int) → (Nat → Int) → (Nat → Bool) → (Nat → Int) → (Nat → Int) → (Nat → Int) → Int → Option Bool) (g___health_Monitor__Bad : (Nat → Int) → (Nat → Int) → (Nat → Bool) → (Nat → Int) → (Nat → Int) → (Nat → Int) → Int → Option Bool) (l_0 : ∀ {ρ : Type}, (Nat ×
  (Nat → Int) ×
    (Nat → Int) ×
      (Nat → Int) ×
        (Nat → Int) ×
          (Nat → Int) ×
            (Nat → Bool) ×
              (Nat → Bool) ×
                Int ×
                  Int ×
                    Int ×
                      Nat ×
                        (Nat → Int) ×
                          (Nat → Int) ×
                            (Nat → Int) ×
                              (Nat → Int) ×
                                (Nat → Int) ×
                                  (Nat → Bool) ×
                                    (Nat → Bool) ×
                                      (Nat → Int) ×
                                        (Nat → Int) ×
                                          (Nat → Bool) × (Nat → Int) × (Nat → Int) × (Nat → Int) × Int × (Nat → Int) × (Nat → Int) × (Nat → Bool) × (Nat → Int) × (Nat → Int) × (Nat → Int) × Int) → ((Nat ×
  (Nat → Int) ×
    (Nat → Int) ×
      (Nat → Int) ×
        (Nat → Int) ×
          (Nat → Int) ×
            (Nat → Bool) ×
              (Nat → Bool) ×
                Int ×
                  Int ×
                    Int ×
                      Nat ×
                        (Nat → Int) ×
                          (Nat → Int) ×
                            (Nat → Int) ×
                              (Nat → Int) ×
                                (Nat → Int) ×
                                  (Nat → Bool) ×
                                    (Nat → Bool) ×
                                      Int ×
                                        Bool ×
                                          (Nat → Int) ×
                                            (Nat → Int) ×
                                              (Nat → Bool) × (Nat → Int) × (Nat → Int) × (Nat → Int) × Int × (Nat → Int) × (Nat → Int) × (Nat → Bool) × (Nat → Int) × (Nat → Int) × (Nat → Int) × Int) → Option ρ) → Option ρ) (l_1 : ∀ {ρ : Type}, (Int ×
  Int ×
    Int ×
      Nat ×
        (Nat → Int) ×
          (Nat → Int) ×
            (Nat → Int) ×
              (Nat → Int) ×
                (Nat → Int) ×
                  (Nat → Bool) ×
                    (Nat → Bool) ×
                      (Nat → Int) ×
                        (Nat → Int) × (Nat → Bool) × (Nat → Int) × (Nat → Int) × (Nat → Int) × Int × (Nat → Int) × (Nat → Int) × (Nat → Bool) × (Nat → Int) × (Nat → Int) × (Nat → Int) × Int) → ((Unit ⊕
  Int ×
    Int ×
      Int ×
        Nat ×
          (Nat → Int) ×
            (Nat → Int) ×
              (Nat → Int) ×
                (Nat → Int) ×
                  (Nat → Int) ×
                    (Nat → Bool) ×
                      (Nat → Bool) ×
                        Bool ×
                          (Nat → Int) ×
                            (Nat → Int) × (Nat → Bool) × (Nat → Int) × (Nat → Int) × (Nat → Int) × Int × (Nat → Int) × (Nat → Int) × (Nat → Bool) × (Nat → Int) × (Nat → Int) × (Nat → Int) × Int) → Option ρ) → Option ρ) (x0 : Nat) (x1 : Nat → Int) (x2 : Nat → Int) (x3 : Nat → Int) (x4 : Nat → Int) (x5 : Nat → Int) (x6 : Nat → Bool) (x7 : Nat → Bool) (x8 : Int) (x9 : Int) (x10 : Int) (x11 : Nat) (x12 : Nat → Int) (x13 : Nat → Int) (x14 : Nat → Int) (x15 : Nat → Int) (x16 : Nat → Int) (x17 : Nat → Bool) (x18 : Nat → Bool) (x19 : Nat → Int) (x20 : Nat → Int) (x21 : Nat → Bool) (x22 : Nat → Int) (x23 : Nat → Int) (x24 : Nat → Int) (x25 : Int) (x26 : Nat → Int) (x27 : Nat → Int) (x28 : Nat → Bool) (x29 : Nat → Int) (x30 : Nat → Int) (x31 : Nat → Int) (x32 : Int) (c : St → Option ρ) (K : AX → St → Option ρ) :
    runC Try.prog (envOf [(15, F_astrolabelaw24_awake g_astrolabelaw24_awake), (16, F_health_New g_health_New), (21, F___health_Monitor__Result g___health_Monitor__Result), (17, F___health_Monitor__Sensor g___health_Monitor__Sensor), (18, F___health_Monitor__Usable g___health_Monitor__Usable), (20, F___health_Monitor__Bad g___health_Monitor__Bad)]) ⟨[⟨10, [3, 4, 8, 12, 13, 14, 15, 16, 17, 19, 20, 21, 22, 23, 24, 25, 26, 27, 28, 29, 30, 31, 32, 33, 34, 35, 36, 37, 38, 39, 40, 41, 42, 43, 44, 45, 46, 47, 48, 49, 50, 51, 52, 53, 54, 55, 56, 57, 58, 59, 60, 61, 62, 63, 64, 65, 66, 67, 68, 69, 70, 71, 72, 73, 74, 75, 76, 77, 78, 79, 80, 81, 82, 83, 84, 85, 86, 87, 88, 89, 90, 91, 92, 93, 94, 95, 96, 97, 98, 99, 100, 101, 102, 103, 104, 107, 108, 132, 133, 134, 135, 136, 137, 138, 144], []⟩, ⟨17, [0, 3, 4, 8, 11, 12, 14, 15, 16, 17, 19, 20, 21, 22, 23, 24, 25, 26, 27, 28, 29, 30, 31, 32, 33, 34, 35, 36, 37, 38, 39, 40, 41, 42, 43, 44, 45, 46, 47, 48, 49, 50, 51, 52, 53, 54, 55, 56, 57, 58, 59, 60, 61, 62, 63, 64, 65, 66, 67, 68, 69, 70, 71, 72, 73, 74, 75, 76, 77, 78, 79, 80, 81, 82, 83, 84, 85, 86, 87, 88, 89, 90, 91, 92, 93, 94, 95, 96, 97, 98, 99, 100, 101, 102, 103, 104, 107, 108, 132, 133, 134, 135, 136, 137, 138, 144, 105, 106, 109, 110, 111, 112, 113, 114, 115, 116, 117, 118, 119, 120, 121, 122, 123, 124, 125, 126, 127, 128, 129, 130, 131], []⟩], [⟨10, 0, @R_astrolabelaw24_HealthApart_0 (@l_0)⟩, ⟨17, 0, @R_astrolabelaw24_HealthApart_1 (@l_1)⟩], [], [], (some ⟨0, [0, 1, 2, 3, 4, 5, 7, 8, 9, 10, 11, 12, 13, 14, 15, 16, 17, 18, 19, 20, 21, 22, 23, 24, 25, 26, 27, 28, 29, 30, 31, 32, 33, 34, 35, 36, 37, 38, 39, 40, 41, 42, 43, 44, 45, 46, 47, 48, 49, 50, 51, 52, 53, 54, 55, 56, 57, 58, 59, 60, 61, 62, 63, 64, 65, 66, 67, 68, 69, 70, 71, 72, 73, 74, 75, 76, 77, 78, 79, 80, 81, 82, 83, 84, 85, 86, 87, 88, 89, 90, 91, 92, 93, 94, 95, 96, 97, 98, 99, 100, 101, 102, 103, 104, 105, 106, 107, 108, 109, 110, 111, 112, 113, 114, 115, 116, 117, 118, 119, 120, 121, 122, 123, 124, 125, 126, 127, 128, 129, 130, 131, 132, 133, 134, 135, 136, 137, 138, 139, 140, 141, 142, 143, 144], []⟩)⟩ (tmpsOf Try.prog 6) 0 200 (loopIn Try.prog 6 10)
      (St.mk
    [AV.r (RV.c (CV.fs x0 8 [Col.i IntKind.i64 x1, Col.i IntKind.i64 x2, Col.i IntKind.i64 x3, Col.u, Col.i IntKind.i64 x4, Col.i IntKind.i64 x5, Col.b x6, Col.b x7])),
      AV.r (RV.c (CV.f (FV.i IntKind.i64 x8))), AV.r (RV.c (CV.f (FV.i IntKind.i64 x9))), AV.und, AV.und, AV.tup [], AV.r (RV.c (CV.f (FV.b false))), AV.r (RV.c (CV.ptr 0 (Off.k 0) 37)), AV.und,
      AV.r (RV.c (CV.ptr 1 (Off.k 0) 37)), AV.r (RV.c (CV.f (FV.i IntKind.i64 0))), AV.r (RV.c (CV.f (FV.i IntKind.i64 x10))), AV.und, AV.und, AV.und, AV.und, AV.und, AV.und,
      AV.r (RV.c (CV.fs x11 8 [Col.i IntKind.i64 x12, Col.i IntKind.i64 x13, Col.i IntKind.i64 x14, Col.u, Col.i IntKind.i64 x15, Col.i IntKind.i64 x16, Col.b x17, Col.b x18])), AV.und, AV.und, AV.und,
      AV.und, AV.und, AV.und, AV.und, AV.und, AV.und, AV.und, AV.und, AV.und, AV.und, AV.und, AV.und, AV.und, AV.und, AV.und, AV.und, AV.und, AV.und, AV.und, AV.und, AV.und, AV.und, AV.und, AV.und,
      AV.und, AV.und, AV.und, AV.und, AV.und, AV.und, AV.und, AV.und, AV.und, AV.und, AV.und, AV.und, AV.und, AV.und, AV.und, AV.und, AV.und, AV.und, AV.und, AV.und, AV.und, AV.und, AV.und, AV.und,
      AV.und, AV.und, AV.und, AV.und, AV.und, AV.und, AV.und, AV.und, AV.und, AV.und, AV.und, AV.und, AV.und, AV.und, AV.und, AV.und, AV.und, AV.und, AV.und, AV.und, AV.und, AV.und, AV.und, AV.und,
      AV.und, AV.und, AV.und, AV.und, AV.und, AV.und, AV.und, AV.und, AV.und, AV.und, AV.und, AV.tup [], AV.tup [], AV.und, AV.und, AV.tup [], AV.tup [], AV.tup [], AV.tup [], AV.tup [], AV.tup [],
      AV.tup [], AV.tup [], AV.tup [], AV.tup [], AV.tup [], AV.tup [], AV.tup [], AV.tup [], AV.tup [], AV.tup [], AV.tup [], AV.tup [], AV.tup [], AV.tup [], AV.tup [], AV.tup [], AV.tup [], AV.und,
      AV.und, AV.und, AV.und, AV.und, AV.und, AV.und, AV.tup [], AV.tup [], AV.tup [], AV.tup [], AV.tup [], AV.und]
    [some [Sg.a (Sz.l 6) [Col.i IntKind.i64 x19, Col.i IntKind.i64 x20, Col.b x21, Col.i IntKind.i64 x22, Col.i IntKind.i64 x23, Col.i IntKind.i64 x24], Sg.c (CV.f (FV.i IntKind.i64 x25))],
      some [Sg.a (Sz.l 6) [Col.i IntKind.i64 x26, Col.i IntKind.i64 x27, Col.b x28, Col.i IntKind.i64 x29, Col.i IntKind.i64 x30, Col.i IntKind.i64 x31], Sg.c (CV.f (FV.i IntKind.i64 x32))]]
    [])
      (next (fun t => t.head 0 ⟨[⟨10, [3, 4, 8, 12, 13, 14, 15, 16, 17, 19, 20, 21, 22, 23, 24, 25, 26, 27, 28, 29, 30, 31, 32, 33, 34, 35, 36, 37, 38, 39, 40, 41, 42, 43, 44, 45, 46, 47, 48, 49, 50, 51, 52, 53, 54, 55, 56, 57, 58, 59, 60, 61, 62, 63, 64, 65, 66, 67, 68, 69, 70, 71, 72, 73, 74, 75, 76, 77, 78, 79, 80, 81, 82, 83, 84, 85, 86, 87, 88, 89, 90, 91, 92, 93, 94, 95, 96, 97, 98, 99, 100, 101, 102, 103, 104, 107, 108, 132, 133, 134, 135, 136, 137, 138, 144], []⟩, ⟨17, [0, 3, 4, 8, 11, 12, 14, 15, 16, 17, 19, 20, 21, 22, 23, 24, 25, 26, 27, 28, 29, 30, 31, 32, 33, 34, 35, 36, 37, 38, 39, 40, 41, 42, 43, 44, 45, 46, 47, 48, 49, 50, 51, 52, 53, 54, 55, 56, 57, 58, 59, 60, 61, 62, 63, 64, 65, 66, 67, 68, 69, 70, 71, 72, 73, 74, 75, 76, 77, 78, 79, 80, 81, 82, 83, 84, 85, 86, 87, 88, 89, 90, 91, 92, 93, 94, 95, 96, 97, 98, 99, 100, 101, 102, 103, 104, 107, 108, 132, 133, 134, 135, 136, 137, 138, 144, 105, 106, 109, 110, 111, 112, 113, 114, 115, 116, 117, 118, 119, 120, 121, 122, 123, 124, 125, 126, 127, 128, 129, 130, 131], []⟩], [⟨10, 0, @R_astrolabelaw24_HealthApart_0 (@l_0)⟩, ⟨17, 0, @R_astrolabelaw24_HealthApart_1 (@l_1)⟩], [], [], (some ⟨0, [0, 1, 2, 3, 4, 5, 7, 8, 9, 10, 11, 12, 13, 14, 15, 16, 17, 18, 19, 20, 21, 22, 23, 24, 25, 26, 27, 28, 29, 30, 31, 32, 33, 34, 35, 36, 37, 38, 39, 40, 41, 42, 43, 44, 45, 46, 47, 48, 49, 50, 51, 52, 53, 54, 55, 56, 57, 58, 59, 60, 61, 62, 63, 64, 65, 66, 67, 68, 69, 70, 71, 72, 73, 74, 75, 76, 77, 78, 79, 80, 81, 82, 83, 84, 85, 86, 87, 88, 89, 90, 91, 92, 93, 94, 95, 96, 97, 98, 99, 100, 101, 102, 103, 104, 105, 106, 107, 108, 109, 110, 111, 112, 113, 114, 115, 116, 117, 118, 119, 120, 121, 122, 123, 124, 125, 126, 127, 128, 129, 130, 131, 132, 133, 134, 135, 136, 137, 138, 139, 140, 141, 142, 143, 144], []⟩)⟩ (loopIn Try.prog 6 10)) c K) =
    S_astrolabelaw24_HealthApart_0 g_astrolabelaw24_awake g_health_New g___health_Monitor__Result g___health_Monitor__Sensor g___health_Monitor__Usable g___health_Monitor__Bad  x0 x1 x2 x3 x4 x5 x6 x7 x8 x9 x10 x11 x12 x13 x14 x15 x16 x17 x18 x19 x20 x21 x22 x23 x24 x25 x26 x27 x28 x29 x30 x31 x32 (fun d => c (St.mk
  [AV.r
      (RV.c
        (CV.fs d.1 8
          [Col.i IntKind.i64 d.2.1, Col.i IntKind.i64 d.2.2.1, Col.i IntKind.i64 d.2.2.2.1, Col.u, Col.i IntKind.i64 d.2.2.2.2.1,
            Col.i IntKind.i64 d.2.2.2.2.2.1, Col.b d.2.2.2.2.2.2.1, Col.b d.2.2.2.2.2.2.2.1])),
    AV.r (RV.c (CV.f (FV.i IntKind.i64 d.2.2.2.2.2.2.2.2.1))), AV.r (RV.c (CV.f (FV.i IntKind.i64 d.2.2.2.2.2.2.2.2.2.1))), AV.und, AV.und, AV.tup [],
    AV.r (RV.c (CV.f (FV.b false))), AV.r (RV.c (CV.ptr 0 (Off.k 0) 37)), AV.und, AV.r (RV.c (CV.ptr 1 (Off.k 0) 37)), AV.r (RV.c (CV.f (FV.i IntKind.i64 0))),
    AV.r (RV.c (CV.f (FV.i IntKind.i64 d.2.2.2.2.2.2.2.2.2.2.1))), AV.und, AV.und, AV.und, AV.und, AV.und, AV.und,
    AV.r
      (RV.c
        (CV.fs d.2.2.2.2.2.2.2.2.2.2.2.1 8
          [Col.i IntKind.i64 d.2.2.2.2.2.2.2.2.2.2.2.2.1, Col.i IntKind.i64 d.2.2.2.2.2.2.2.2.2.2.2.2.2.1,
            Col.i IntKind.i64 d.2.2.2.2.2.2.2.2.2.2.2.2.2.2.1, Col.u, Col.i IntKind.i64 d.2.2.2.2.2.2.2.2.2.2.2.2.2.2.2.1,
            Col.i IntKind.i64 d.2.2.2.2.2.2.2.2.2.2.2.2.2.2.2.2.1, Col.b d.2.2.2.2.2.2.2.2.2.2.2.2.2.2.2.2.2.1,
            Col.b d.2.2.2.2.2.2.2.2.2.2.2.2.2.2.2.2.2.2.1])),
    AV.und, AV.und, AV.und, AV.und, AV.und, AV.und, AV.und, AV.und, AV.und, AV.und, AV.und, AV.und, AV.und, AV.und, AV.und, AV.und, AV.und, AV.und, AV.und, AV.und, AV.und, AV.und, AV.und, AV.und,
    AV.und, AV.und, AV.und, AV.und, AV.und, AV.und, AV.und, AV.und, AV.und, AV.und, AV.und, AV.und, AV.und, AV.und, AV.und, AV.und, AV.und, AV.und, AV.und, AV.und, AV.und, AV.und, AV.und, AV.und,
    AV.und, AV.und, AV.und, AV.und, AV.und, AV.und, AV.und, AV.und, AV.und, AV.und, AV.und, AV.und, AV.und, AV.und, AV.und, AV.und, AV.und, AV.und, AV.und, AV.und, AV.und, AV.und, AV.und, AV.und,
    AV.und, AV.und, AV.und, AV.und, AV.und, AV.und, AV.und, AV.und, AV.und, AV.und, AV.und, AV.und, AV.und, AV.und, AV.tup [], AV.tup [], AV.und, AV.und, AV.tup [], AV.tup [], AV.tup [], AV.tup [],
    AV.tup [], AV.tup [], AV.tup [], AV.tup [], AV.tup [], AV.tup [], AV.tup [], AV.tup [], AV.tup [], AV.tup [], AV.tup [], AV.tup [], AV.tup [], AV.tup [], AV.tup [], AV.tup [], AV.tup [],
    AV.tup [], AV.tup [], AV.und, AV.und, AV.und, AV.und, AV.und, AV.und, AV.und, AV.tup [], AV.tup [], AV.tup [], AV.tup [], AV.tup [], AV.und]
  [some
      [Sg.a (Sz.l 6)
          [Col.i IntKind.i64 d.2.2.2.2.2.2.2.2.2.2.2.2.2.2.2.2.2.2.2.1,
            Col.i IntKind.i64 d.2.2.2.2.2.2.2.2.2.2.2.2.2.2.2.2.2.2.2.2.1,
            Col.b d.2.2.2.2.2.2.2.2.2.2.2.2.2.2.2.2.2.2.2.2.2.1,
            Col.i IntKind.i64 d.2.2.2.2.2.2.2.2.2.2.2.2.2.2.2.2.2.2.2.2.2.2.1,
            Col.i IntKind.i64 d.2.2.2.2.2.2.2.2.2.2.2.2.2.2.2.2.2.2.2.2.2.2.2.1,
            Col.i IntKind.i64 d.2.2.2.2.2.2.2.2.2.2.2.2.2.2.2.2.2.2.2.2.2.2.2.2.1],
        Sg.c (CV.f (FV.i IntKind.i64 d.2.2.2.2.2.2.2.2.2.2.2.2.2.2.2.2.2.2.2.2.2.2.2.2.2.1))],
    some
      [Sg.a (Sz.l 6)
          [Col.i IntKind.i64 d.2.2.2.2.2.2.2.2.2.2.2.2.2.2.2.2.2.2.2.2.2.2.2.2.2.2.1,
            Col.i IntKind.i64 d.2.2.2.2.2.2.2.2.2.2.2.2.2.2.2.2.2.2.2.2.2.2.2.2.2.2.2.1,
            Col.b d.2.2.2.2.2.2.2.2.2.2.2.2.2.2.2.2.2.2.2.2.2.2.2.2.2.2.2.2.1,
            Col.i IntKind.i64 d.2.2.2.2.2.2.2.2.2.2.2.2.2.2.2.2.2.2.2.2.2.2.2.2.2.2.2.2.2.1,
            Col.i IntKind.i64 d.2.2.2.2.2.2.2.2.2.2.2.2.2.2.2.2.2.2.2.2.2.2.2.2.2.2.2.2.2.2.1,
            Col.i IntKind.i64 d.2.2.2.2.2.2.2.2.2.2.2.2.2.2.2.2.2.2.2.2.2.2.2.2.2.2.2.2.2.2.2.1],
        Sg.c (CV.f (FV.i IntKind.i64 d.2.2.2.2.2.2.2.2.2.2.2.2.2.2.2.2.2.2.2.2.2.2.2.2.2.2.2.2.2.2.2.2))]]
  [])) (fun d => K (AX.ex 0) (St.mk
  [AV.r
      (RV.c
        (CV.fs d.1 8
          [Col.i IntKind.i64 d.2.1, Col.i IntKind.i64 d.2.2.1, Col.i IntKind.i64 d.2.2.2.1, Col.u, Col.i IntKind.i64 d.2.2.2.2.1,
            Col.i IntKind.i64 d.2.2.2.2.2.1, Col.b d.2.2.2.2.2.2.1, Col.b d.2.2.2.2.2.2.2.1])),
    AV.r (RV.c (CV.f (FV.i IntKind.i64 d.2.2.2.2.2.2.2.2.1))), AV.r (RV.c (CV.f (FV.i IntKind.i64 d.2.2.2.2.2.2.2.2.2.1))), AV.und, AV.und, AV.tup [],
    AV.r (RV.c (CV.f (FV.b false))), AV.r (RV.c (CV.ptr 0 (Off.k 0) 37)), AV.und, AV.r (RV.c (CV.ptr 1 (Off.k 0) 37)), AV.r (RV.c (CV.f (FV.i IntKind.i64 0))),
    AV.r (RV.c (CV.f (FV.i IntKind.i64 d.2.2.2.2.2.2.2.2.2.2.1))), AV.und, AV.und, AV.und, AV.und, AV.und, AV.und,
    AV.r
      (RV.c
        (CV.fs d.2.2.2.2.2.2.2.2.2.2.2.1 8
          [Col.i IntKind.i64 d.2.2.2.2.2.2.2.2.2.2.2.2.1, Col.i IntKind.i64 d.2.2.2.2.2.2.2.2.2.2.2.2.2.1,
            Col.i IntKind.i64 d.2.2.2.2.2.2.2.2.2.2.2.2.2.2.1, Col.u, Col.i IntKind.i64 d.2.2.2.2.2.2.2.2.2.2.2.2.2.2.2.1,
            Col.i IntKind.i64 d.2.2.2.2.2.2.2.2.2.2.2.2.2.2.2.2.1, Col.b d.2.2.2.2.2.2.2.2.2.2.2.2.2.2.2.2.2.1,
            Col.b d.2.2.2.2.2.2.2.2.2.2.2.2.2.2.2.2.2.2.1])),
    AV.und, AV.und, AV.und, AV.und, AV.und, AV.und, AV.und, AV.und, AV.und, AV.und, AV.und, AV.und, AV.und, AV.und, AV.und, AV.und, AV.und, AV.und, AV.und, AV.und, AV.und, AV.und, AV.und, AV.und,
    AV.und, AV.und, AV.r (RV.c (CV.f (FV.i IntKind.i64 d.2.2.2.2.2.2.2.2.2.2.1))),
    AV.r
      (RV.c
        (CV.fs d.1 8
          [Col.i IntKind.i64 d.2.1, Col.i IntKind.i64 d.2.2.1, Col.i IntKind.i64 d.2.2.2.1, Col.u, Col.i IntKind.i64 d.2.2.2.2.1,
            Col.i IntKind.i64 d.2.2.2.2.2.1, Col.b d.2.2.2.2.2.2.1, Col.b d.2.2.2.2.2.2.2.1])),
    AV.r (RV.c (CV.f (FV.i IntKind.i64 d.2.2.2.2.2.2.2.2.2.2.2.2.2.2.2.2.2.2.2.1))),
    AV.r (RV.c (CV.f (FV.b d.2.2.2.2.2.2.2.2.2.2.2.2.2.2.2.2.2.2.2.2.1))), AV.und, AV.und, AV.und, AV.und, AV.und, AV.und, AV.und, AV.und, AV.und, AV.und,
    AV.und, AV.und, AV.und, AV.und, AV.und, AV.und, AV.und, AV.und, AV.und, AV.und, AV.und, AV.und, AV.und, AV.und, AV.und, AV.und, AV.und, AV.und, AV.und, AV.und, AV.und, AV.und, AV.und, AV.und,
    AV.und, AV.und, AV.und, AV.und, AV.und, AV.und, AV.und, AV.und, AV.und, AV.und, AV.und, AV.und, AV.und, AV.und, AV.und, AV.und, AV.und, AV.und, AV.und, AV.und, AV.und, AV.und, AV.tup [],
    AV.tup [], AV.und, AV.und, AV.tup [], AV.tup [], AV.tup [], AV.tup [], AV.tup [], AV.tup [], AV.tup [], AV.tup [], AV.tup [], AV.tup [], AV.tup [], AV.tup [], AV.tup [], AV.tup [], AV.tup [],
    AV.tup [], AV.tup [], AV.tup [], AV.tup [], AV.tup [], AV.tup [], AV.tup [], AV.tup [], AV.und, AV.und, AV.und, AV.und, AV.und, AV.und, AV.und, AV.tup [], AV.tup [], AV.tup [], AV.tup [],
    AV.tup [], AV.und]
  [some
      [Sg.a (Sz.l 6)
          [Col.i IntKind.i64 d.2.2.2.2.2.2.2.2.2.2.2.2.2.2.2.2.2.2.2.2.2.1,
            Col.i IntKind.i64 d.2.2.2.2.2.2.2.2.2.2.2.2.2.2.2.2.2.2.2.2.2.2.1,
            Col.b d.2.2.2.2.2.2.2.2.2.2.2.2.2.2.2.2.2.2.2.2.2.2.2.1,
            Col.i IntKind.i64 d.2.2.2.2.2.2.2.2.2.2.2.2.2.2.2.2.2.2.2.2.2.2.2.2.1,
            Col.i IntKind.i64 d.2.2.2.2.2.2.2.2.2.2.2.2.2.2.2.2.2.2.2.2.2.2.2.2.2.1,
            Col.i IntKind.i64 d.2.2.2.2.2.2.2.2.2.2.2.2.2.2.2.2.2.2.2.2.2.2.2.2.2.2.1],
        Sg.c (CV.f (FV.i IntKind.i64 d.2.2.2.2.2.2.2.2.2.2.2.2.2.2.2.2.2.2.2.2.2.2.2.2.2.2.2.1))],
    some
      [Sg.a (Sz.l 6)
          [Col.i IntKind.i64 d.2.2.2.2.2.2.2.2.2.2.2.2.2.2.2.2.2.2.2.2.2.2.2.2.2.2.2.2.1,
            Col.i IntKind.i64 d.2.2.2.2.2.2.2.2.2.2.2.2.2.2.2.2.2.2.2.2.2.2.2.2.2.2.2.2.2.1,
            Col.b d.2.2.2.2.2.2.2.2.2.2.2.2.2.2.2.2.2.2.2.2.2.2.2.2.2.2.2.2.2.2.1,
            Col.i IntKind.i64 d.2.2.2.2.2.2.2.2.2.2.2.2.2.2.2.2.2.2.2.2.2.2.2.2.2.2.2.2.2.2.2.1,
            Col.i IntKind.i64 d.2.2.2.2.2.2.2.2.2.2.2.2.2.2.2.2.2.2.2.2.2.2.2.2.2.2.2.2.2.2.2.2.1,
            Col.i IntKind.i64 d.2.2.2.2.2.2.2.2.2.2.2.2.2.2.2.2.2.2.2.2.2.2.2.2.2.2.2.2.2.2.2.2.2.1],
        Sg.c (CV.f (FV.i IntKind.i64 d.2.2.2.2.2.2.2.2.2.2.2.2.2.2.2.2.2.2.2.2.2.2.2.2.2.2.2.2.2.2.2.2.2.2))]]
  [])) := by kernel_rfl
theorem it_astrolabelaw24_HealthApart_0 {ρ : Type} (x0 : Nat) (x1 : Nat → Int) (x2 : Nat → Int) (x3 : Nat → Int) (x4 : Nat → Int) (x5 : Nat → Int) (x6 : Nat → Bool) (x7 : Nat → Bool) (x8 : Int) (x9 : Int) (x10 : Int) (x11 : Nat) (x12 : Nat → Int) (x13 : Nat → Int) (x14 : Nat → Int) (x15 : Nat → Int) (x16 : Nat → Int) (x17 : Nat → Bool) (x18 : Nat → Bool) (x19 : Nat → Int) (x20 : Nat → Int) (x21 : Nat → Bool) (x22 : Nat → Int) (x23 : Nat → Int) (x24 : Nat → Int) (x25 : Int) (x26 : Nat → Int) (x27 : Nat → Int) (x28 : Nat → Bool) (x29 : Nat → Int) (x30 : Nat → Int) (x31 : Nat → Int) (x32 : Int) (K : AX → St → Option ρ) :
    iter (fun t => t.head 0 ⟨[⟨10, [3, 4, 8, 12, 13, 14, 15, 16, 17, 19, 20, 21, 22, 23, 24, 25, 26, 27, 28, 29, 30, 31, 32, 33, 34, 35, 36, 37, 38, 39, 40, 41, 42, 43, 44, 45, 46, 47, 48, 49, 50, 51, 52, 53, 54, 55, 56, 57, 58, 59, 60, 61, 62, 63, 64, 65, 66, 67, 68, 69, 70, 71, 72, 73, 74, 75, 76, 77, 78, 79, 80, 81, 82, 83, 84, 85, 86, 87, 88, 89, 90, 91, 92, 93, 94, 95, 96, 97, 98, 99, 100, 101, 102, 103, 104, 107, 108, 132, 133, 134, 135, 136, 137, 138, 144], []⟩, ⟨17, [0, 3, 4, 8, 11, 12, 14, 15, 16, 17, 19, 20, 21, 22, 23, 24, 25, 26, 27, 28, 29, 30, 31, 32, 33, 34, 35, 36, 37, 38, 39, 40, 41, 42, 43, 44, 45, 46, 47, 48, 49, 50, 51, 52, 53, 54, 55, 56, 57, 58, 59, 60, 61, 62, 63, 64, 65, 66, 67, 68, 69, 70, 71, 72, 73, 74, 75, 76, 77, 78, 79, 80, 81, 82, 83, 84, 85, 86, 87, 88, 89, 90, 91, 92, 93, 94, 95, 96, 97, 98, 99, 100, 101, 102, 103, 104, 107, 108, 132, 133, 134, 135, 136, 137, 138, 144, 105, 106, 109, 110, 111, 112, 113, 114, 115, 116, 117, 118, 119, 120, 121, 122, 123, 124, 125, 126, 127, 128, 129, 130, 131], []⟩], [⟨10, 0, @R_astrolabelaw24_HealthApart_0 (@L_astrolabelaw24_HealthApart_0)⟩, ⟨17, 0, @R_astrolabelaw24_HealthApart_1 (@L_astrolabelaw24_HealthApart_1)⟩], [], [], (some ⟨0, [0, 1, 2, 3, 4, 5, 7, 8, 9, 10, 11, 12, 13, 14, 15, 16, 17, 18, 19, 20, 21, 22, 23, 24, 25, 26, 27, 28, 29, 30, 31, 32, 33, 34, 35, 36, 37, 38, 39, 40, 41, 42, 43, 44, 45, 46, 47, 48, 49, 50, 51, 52, 53, 54, 55, 56, 57, 58, 59, 60, 61, 62, 63, 64, 65, 66, 67, 68, 69, 70, 71, 72, 73, 74, 75, 76, 77, 78, 79, 80, 81, 82, 83, 84, 85, 86, 87, 88, 89, 90, 91, 92, 93, 94, 95, 96, 97, 98, 99, 100, 101, 102, 103, 104, 105, 106, 107, 108, 109, 110, 111, 112, 113, 114, 115, 116, 117, 118, 119, 120, 121, 122, 123, 124, 125, 126, 127, 128, 129, 130, 131, 132, 133, 134, 135, 136, 137, 138, 139, 140, 141, 142, 143, 144], []⟩)⟩ (loopIn Try.prog 6 10)) (runC Try.prog (envOf [(15, F_astrolabelaw24_awake f_astrolabelaw24_awake), (16, F_health_New f_health_New), (21, F___health_Monitor__Result f___health_Monitor__Result), (17, F___health_Monitor__Sensor f___health_Monitor__Sensor), (18, F___health_Monitor__Usable f___health_Monitor__Usable), (20, F___health_Monitor__Bad f___health_Monitor__Bad)]) ⟨[⟨10, [3, 4, 8, 12, 13, 14, 15, 16, 17, 19, 20, 21, 22, 23, 24, 25, 26, 27, 28, 29, 30, 31, 32, 33, 34, 35, 36, 37, 38, 39, 40, 41, 42, 43, 44, 45, 46, 47, 48, 49, 50, 51, 52, 53, 54, 55, 56, 57, 58, 59, 60, 61, 62, 63, 64, 65, 66, 67, 68, 69, 70, 71, 72, 73, 74, 75, 76, 77, 78, 79, 80, 81, 82, 83, 84, 85, 86, 87, 88, 89, 90, 91, 92, 93, 94, 95, 96, 97, 98, 99, 100, 101, 102, 103, 104, 107, 108, 132, 133, 134, 135, 136, 137, 138, 144], []⟩, ⟨17, [0, 3, 4, 8, 11, 12, 14, 15, 16, 17, 19, 20, 21, 22, 23, 24, 25, 26, 27, 28, 29, 30, 31, 32, 33, 34, 35, 36, 37, 38, 39, 40, 41, 42, 43, 44, 45, 46, 47, 48, 49, 50, 51, 52, 53, 54, 55, 56, 57, 58, 59, 60, 61, 62, 63, 64, 65, 66, 67, 68, 69, 70, 71, 72, 73, 74, 75, 76, 77, 78, 79, 80, 81, 82, 83, 84, 85, 86, 87, 88, 89, 90, 91, 92, 93, 94, 95, 96, 97, 98, 99, 100, 101, 102, 103, 104, 107, 108, 132, 133, 134, 135, 136, 137, 138, 144, 105, 106, 109, 110, 111, 112, 113, 114, 115, 116, 117, 118, 119, 120, 121, 122, 123, 124, 125, 126, 127, 128, 129, 130, 131], []⟩], [⟨10, 0, @R_astrolabelaw24_HealthApart_0 (@L_astrolabelaw24_HealthApart_0)⟩, ⟨17, 0, @R_astrolabelaw24_HealthApart_1 (@L_astrolabelaw24_HealthApart_1)⟩], [], [], (some ⟨0, [0, 1, 2, 3, 4, 5, 7, 8, 9, 10, 11, 12, 13, 14, 15, 16, 17, 18, 19, 20, 21, 22, 23, 24, 25, 26, 27, 28, 29, 30, 31, 32, 33, 34, 35, 36, 37, 38, 39, 40, 41, 42, 43, 44, 45, 46, 47, 48, 49, 50, 51, 52, 53, 54, 55, 56, 57, 58, 59, 60, 61, 62, 63, 64, 65, 66, 67, 68, 69, 70, 71, 72, 73, 74, 75, 76, 77, 78, 79, 80, 81, 82, 83, 84, 85, 86, 87, 88, 89, 90, 91, 92, 93, 94, 95, 96, 97, 98, 99, 100, 101, 102, 103, 104, 105, 106, 107, 108, 109, 110, 111, 112, 113, 114, 115, 116, 117, 118, 119, 120, 121, 122, 123, 124, 125, 126, 127, 128, 129, 130, 131, 132, 133, 134, 135, 136, 137, 138, 139, 140, 141, 142, 143, 144], []⟩)⟩ (tmpsOf Try.prog 6) 0 200 (loopIn Try.prog 6 10)) K 200
      (St.mk
    [AV.r (RV.c (CV.fs x0 8 [Col.i IntKind.i64 x1, Col.i IntKind.i64 x2, Col.i IntKind.i64 x3, Col.u, Col.i IntKind.i64 x4, Col.i IntKind.i64 x5, Col.b x6, Col.b x7])),
      AV.r (RV.c (CV.f (FV.i IntKind.i64 x8))), AV.r (RV.c (CV.f (FV.i IntKind.i64 x9))), AV.und, AV.und, AV.tup [], AV.r (RV.c (CV.f (FV.b false))), AV.r (RV.c (CV.ptr 0 (Off.k 0) 37)), AV.und,
      AV.r (RV.c (CV.ptr 1 (Off.k 0) 37)), AV.r (RV.c (CV.f (FV.i IntKind.i64 0))), AV.r (RV.c (CV.f (FV.i IntKind.i64 x10))), AV.und, AV.und, AV.und, AV.und, AV.und, AV.und,
      AV.r (RV.c (CV.fs x11 8 [Col.i IntKind.i64 x12, Col.i IntKind.i64 x13, Col.i IntKind.i64 x14, Col.u, Col.i IntKind.i64 x15, Col.i IntKind.i64 x16, Col.b x17, Col.b x18])), AV.und, AV.und, AV.und,
      AV.und, AV.und, AV.und, AV.und, AV.und, AV.und, AV.und, AV.und, AV.und, AV.und, AV.und, AV.und, AV.und, AV.und, AV.und, AV.und, AV.und, AV.und, AV.und, AV.und, AV.und, AV.und, AV.und, AV.und,
      AV.und, AV.und, AV.und, AV.und, AV.und, AV.und, AV.und, AV.und, AV.und, AV.und, AV.und, AV.und, AV.und, AV.und, AV.und, AV.und, AV.und, AV.und, AV.und, AV.und, AV.und, AV.und, AV.und, AV.und,
      AV.und, AV.und, AV.und, AV.und, AV.und, AV.und, AV.und, AV.und, AV.und, AV.und, AV.und, AV.und, AV.und, AV.und, AV.und, AV.und, AV.und, AV.und, AV.und, AV.und, AV.und, AV.und, AV.und, AV.und,
      AV.und, AV.und, AV.und, AV.und, AV.und, AV.und, AV.und, AV.und, AV.und, AV.und, AV.und, AV.tup [], AV.tup [], AV.und, AV.und, AV.tup [], AV.tup [], AV.tup [], AV.tup [], AV.tup [], AV.tup [],
      AV.tup [], AV.tup [], AV.tup [], AV.tup [], AV.tup [], AV.tup [], AV.tup [], AV.tup [], AV.tup [], AV.tup [], AV.tup [], AV.tup [], AV.tup [], AV.tup [], AV.tup [], AV.tup [], AV.tup [], AV.und,
      AV.und, AV.und, AV.und, AV.und, AV.und, AV.und, AV.tup [], AV.tup [], AV.tup [], AV.tup [], AV.tup [], AV.und]
    [some [Sg.a (Sz.l 6) [Col.i IntKind.i64 x19, Col.i IntKind.i64 x20, Col.b x21, Col.i IntKind.i64 x22, Col.i IntKind.i64 x23, Col.i IntKind.i64 x24], Sg.c (CV.f (FV.i IntKind.i64 x25))],
      some [Sg.a (Sz.l 6) [Col.i IntKind.i64 x26, Col.i IntKind.i64 x27, Col.b x28, Col.i IntKind.i64 x29, Col.i IntKind.i64 x30, Col.i IntKind.i64 x31], Sg.c (CV.f (FV.i IntKind.i64 x32))]]
    []) = L_astrolabelaw24_HealthApart_0 (x0, x1, x2, x3, x4, x5, x6, x7, x8, x9, x10, x11, x12, x13, x14, x15, x16, x17, x18, x19, x20, x21, x22, x23, x24, x25, x26, x27, x28, x29, x30, x31, x32) (fun d => K (AX.ex 0) (St.mk
  [AV.r
      (RV.c
        (CV.fs d.1 8
          [Col.i IntKind.i64 d.2.1, Col.i IntKind.i64 d.2.2.1, Col.i IntKind.i64 d.2.2.2.1, Col.u, Col.i IntKind.i64 d.2.2.2.2.1,
            Col.i IntKind.i64 d.2.2.2.2.2.1, Col.b d.2.2.2.2.2.2.1, Col.b d.2.2.2.2.2.2.2.1])),
    AV.r (RV.c (CV.f (FV.i IntKind.i64 d.2.2.2.2.2.2.2.2.1))), AV.r (RV.c (CV.f (FV.i IntKind.i64 d.2.2.2.2.2.2.2.2.2.1))), AV.und, AV.und, AV.tup [],
    AV.r (RV.c (CV.f (FV.b false))), AV.r (RV.c (CV.ptr 0 (Off.k 0) 37)), AV.und, AV.r (RV.c (CV.ptr 1 (Off.k 0) 37)), AV.r (RV.c (CV.f (FV.i IntKind.i64 0))),
    AV.r (RV.c (CV.f (FV.i IntKind.i64 d.2.2.2.2.2.2.2.2.2.2.1))), AV.und, AV.und, AV.und, AV.und, AV.und, AV.und,
    AV.r
      (RV.c
        (CV.fs d.2.2.2.2.2.2.2.2.2.2.2.1 8
          [Col.i IntKind.i64 d.2.2.2.2.2.2.2.2.2.2.2.2.1, Col.i IntKind.i64 d.2.2.2.2.2.2.2.2.2.2.2.2.2.1,
            Col.i IntKind.i64 d.2.2.2.2.2.2.2.2.2.2.2.2.2.2.1, Col.u, Col.i IntKind.i64 d.2.2.2.2.2.2.2.2.2.2.2.2.2.2.2.1,
            Col.i IntKind.i64 d.2.2.2.2.2.2.2.2.2.2.2.2.2.2.2.2.1, Col.b d.2.2.2.2.2.2.2.2.2.2.2.2.2.2.2.2.2.1,
            Col.b d.2.2.2.2.2.2.2.2.2.2.2.2.2.2.2.2.2.2.1])),
    AV.und, AV.und, AV.und, AV.und, AV.und, AV.und, AV.und, AV.und, AV.und, AV.und, AV.und, AV.und, AV.und, AV.und, AV.und, AV.und, AV.und, AV.und, AV.und, AV.und, AV.und, AV.und, AV.und, AV.und,
    AV.und, AV.und, AV.r (RV.c (CV.f (FV.i IntKind.i64 d.2.2.2.2.2.2.2.2.2.2.1))),
    AV.r
      (RV.c
        (CV.fs d.1 8
          [Col.i IntKind.i64 d.2.1, Col.i IntKind.i64 d.2.2.1, Col.i IntKind.i64 d.2.2.2.1, Col.u, Col.i IntKind.i64 d.2.2.2.2.1,
            Col.i IntKind.i64 d.2.2.2.2.2.1, Col.b d.2.2.2.2.2.2.1, Col.b d.2.2.2.2.2.2.2.1])),
    AV.r (RV.c (CV.f (FV.i IntKind.i64 d.2.2.2.2.2.2.2.2.2.2.2.2.2.2.2.2.2.2.2.1))),
    AV.r (RV.c (CV.f (FV.b d.2.2.2.2.2.2.2.2.2.2.2.2.2.2.2.2.2.2.2.2.1))), AV.und, AV.und, AV.und, AV.und, AV.und, AV.und, AV.und, AV.und, AV.und, AV.und,
    AV.und, AV.und, AV.und, AV.und, AV.und, AV.und, AV.und, AV.und, AV.und, AV.und, AV.und, AV.und, AV.und, AV.und, AV.und, AV.und, AV.und, AV.und, AV.und, AV.und, AV.und, AV.und, AV.und, AV.und,
    AV.und, AV.und, AV.und, AV.und, AV.und, AV.und, AV.und, AV.und, AV.und, AV.und, AV.und, AV.und, AV.und, AV.und, AV.und, AV.und, AV.und, AV.und, AV.und, AV.und, AV.und, AV.und, AV.tup [],
    AV.tup [], AV.und, AV.und, AV.tup [], AV.tup [], AV.tup [], AV.tup [], AV.tup [], AV.tup [], AV.tup [], AV.tup [], AV.tup [], AV.tup [], AV.tup [], AV.tup [], AV.tup [], AV.tup [], AV.tup [],
    AV.tup [], AV.tup [], AV.tup [], AV.tup [], AV.tup [], AV.tup [], AV.tup [], AV.tup [], AV.und, AV.und, AV.und, AV.und, AV.und, AV.und, AV.und, AV.tup [], AV.tup [], AV.tup [], AV.tup [],
    AV.tup [], AV.und]
  [some
      [Sg.a (Sz.l 6)
          [Col.i IntKind.i64 d.2.2.2.2.2.2.2.2.2.2.2.2.2.2.2.2.2.2.2.2.2.1,
            Col.i IntKind.i64 d.2.2.2.2.2.2.2.2.2.2.2.2.2.2.2.2.2.2.2.2.2.2.1,
            Col.b d.2.2.2.2.2.2.2.2.2.2.2.2.2.2.2.2.2.2.2.2.2.2.2.1,
            Col.i IntKind.i64 d.2.2.2.2.2.2.2.2.2.2.2.2.2.2.2.2.2.2.2.2.2.2.2.2.1,
            Col.i IntKind.i64 d.2.2.2.2.2.2.2.2.2.2.2.2.2.2.2.2.2.2.2.2.2.2.2.2.2.1,
            Col.i IntKind.i64 d.2.2.2.2.2.2.2.2.2.2.2.2.2.2.2.2.2.2.2.2.2.2.2.2.2.2.1],
        Sg.c (CV.f (FV.i IntKind.i64 d.2.2.2.2.2.2.2.2.2.2.2.2.2.2.2.2.2.2.2.2.2.2.2.2.2.2.2.1))],
    some
      [Sg.a (Sz.l 6)
          [Col.i IntKind.i64 d.2.2.2.2.2.2.2.2.2.2.2.2.2.2.2.2.2.2.2.2.2.2.2.2.2.2.2.2.1,
            Col.i IntKind.i64 d.2.2.2.2.2.2.2.2.2.2.2.2.2.2.2.2.2.2.2.2.2.2.2.2.2.2.2.2.2.1,
            Col.b d.2.2.2.2.2.2.2.2.2.2.2.2.2.2.2.2.2.2.2.2.2.2.2.2.2.2.2.2.2.2.1,
            Col.i IntKind.i64 d.2.2.2.2.2.2.2.2.2.2.2.2.2.2.2.2.2.2.2.2.2.2.2.2.2.2.2.2.2.2.2.1,
            Col.i IntKind.i64 d.2.2.2.2.2.2.2.2.2.2.2.2.2.2.2.2.2.2.2.2.2.2.2.2.2.2.2.2.2.2.2.2.1,
            Col.i IntKind.i64 d.2.2.2.2.2.2.2.2.2.2.2.2.2.2.2.2.2.2.2.2.2.2.2.2.2.2.2.2.2.2.2.2.2.1],
        Sg.c (CV.f (FV.i IntKind.i64 d.2.2.2.2.2.2.2.2.2.2.2.2.2.2.2.2.2.2.2.2.2.2.2.2.2.2.2.2.2.2.2.2.2.2))]]
  [])) :=
  iter_loopX (emb := fun (d : Nat ×
  (Nat → Int) ×
    (Nat → Int) ×
      (Nat → Int) ×
        (Nat → Int) ×
          (Nat → Int) ×
            (Nat → Bool) ×
              (Nat → Bool) ×
                Int ×
                  Int ×
                    Int ×
                      Nat ×
                        (Nat → Int) ×
                          (Nat → Int) ×
                            (Nat → Int) ×
                              (Nat → Int) ×
                                (Nat → Int) ×
                                  (Nat → Bool) ×
                                    (Nat → Bool) ×
                                      (Nat → Int) ×
                                        (Nat → Int) ×
                                          (Nat → Bool) × (Nat → Int) × (Nat → Int) × (Nat → Int) × Int × (Nat → Int) × (Nat → Int) × (Nat → Bool) × (Nat → Int) × (Nat → Int) × (Nat → Int) × Int) => St.mk
  [AV.r
      (RV.c
        (CV.fs d.1 8
          [Col.i IntKind.i64 d.2.1, Col.i IntKind.i64 d.2.2.1, Col.i IntKind.i64 d.2.2.2.1, Col.u, Col.i IntKind.i64 d.2.2.2.2.1,
            Col.i IntKind.i64 d.2.2.2.2.2.1, Col.b d.2.2.2.2.2.2.1, Col.b d.2.2.2.2.2.2.2.1])),
    AV.r (RV.c (CV.f (FV.i IntKind.i64 d.2.2.2.2.2.2.2.2.1))), AV.r (RV.c (CV.f (FV.i IntKind.i64 d.2.2.2.2.2.2.2.2.2.1))), AV.und, AV.und, AV.tup [],
    AV.r (RV.c (CV.f (FV.b false))), AV.r (RV.c (CV.ptr 0 (Off.k 0) 37)), AV.und, AV.r (RV.c (CV.ptr 1 (Off.k 0) 37)), AV.r (RV.c (CV.f (FV.i IntKind.i64 0))),
    AV.r (RV.c (CV.f (FV.i IntKind.i64 d.2.2.2.2.2.2.2.2.2.2.1))), AV.und, AV.und, AV.und, AV.und, AV.und, AV.und,
    AV.r
      (RV.c
        (CV.fs d.2.2.2.2.2.2.2.2.2.2.2.1 8
          [Col.i IntKind.i64 d.2.2.2.2.2.2.2.2.2.2.2.2.1, Col.i IntKind.i64 d.2.2.2.2.2.2.2.2.2.2.2.2.2.1,
            Col.i IntKind.i64 d.2.2.2.2.2.2.2.2.2.2.2.2.2.2.1, Col.u, Col.i IntKind.i64 d.2.2.2.2.2.2.2.2.2.2.2.2.2.2.2.1,
            Col.i IntKind.i64 d.2.2.2.2.2.2.2.2.2.2.2.2.2.2.2.2.1, Col.b d.2.2.2.2.2.2.2.2.2.2.2.2.2.2.2.2.2.1,
            Col.b d.2.2.2.2.2.2.2.2.2.2.2.2.2.2.2.2.2.2.1])),
    AV.und, AV.und, AV.und, AV.und, AV.und, AV.und, AV.und, AV.und, AV.und, AV.und, AV.und, AV.und, AV.und, AV.und, AV.und, AV.und, AV.und, AV.und, AV.und, AV.und, AV.und, AV.und, AV.und, AV.und,
    AV.und, AV.und, AV.und, AV.und, AV.und, AV.und, AV.und, AV.und, AV.und, AV.und, AV.und, AV.und, AV.und, AV.und, AV.und, AV.und, AV.und, AV.und, AV.und, AV.und, AV.und, AV.und, AV.und, AV.und,
    AV.und, AV.und, AV.und, AV.und, AV.und, AV.und, AV.und, AV.und, AV.und, AV.und, AV.und, AV.und, AV.und, AV.und, AV.und, AV.und, AV.und, AV.und, AV.und, AV.und, AV.und, AV.und, AV.und, AV.und,
    AV.und, AV.und, AV.und, AV.und, AV.und, AV.und, AV.und, AV.und, AV.und, AV.und, AV.und, AV.und, AV.und, AV.und, AV.tup [], AV.tup [], AV.und, AV.und, AV.tup [], AV.tup [], AV.tup [], AV.tup [],
    AV.tup [], AV.tup [], AV.tup [], AV.tup [], AV.tup [], AV.tup [], AV.tup [], AV.tup [], AV.tup [], AV.tup [], AV.tup [], AV.tup [], AV.tup [], AV.tup [], AV.tup [], AV.tup [], AV.tup [],
    AV.tup [], AV.tup [], AV.und, AV.und, AV.und, AV.und, AV.und, AV.und, AV.und, AV.tup [], AV.tup [], AV.tup [], AV.tup [], AV.tup [], AV.und]
  [some
      [Sg.a (Sz.l 6)
          [Col.i IntKind.i64 d.2.2.2.2.2.2.2.2.2.2.2.2.2.2.2.2.2.2.2.1,
            Col.i IntKind.i64 d.2.2.2.2.2.2.2.2.2.2.2.2.2.2.2.2.2.2.2.2.1,
            Col.b d.2.2.2.2.2.2.2.2.2.2.2.2.2.2.2.2.2.2.2.2.2.1,
            Col.i IntKind.i64 d.2.2.2.2.2.2.2.2.2.2.2.2.2.2.2.2.2.2.2.2.2.2.1,
            Col.i IntKind.i64 d.2.2.2.2.2.2.2.2.2.2.2.2.2.2.2.2.2.2.2.2.2.2.2.1,
            Col.i IntKind.i64 d.2.2.2.2.2.2.2.2.2.2.2.2.2.2.2.2.2.2.2.2.2.2.2.2.1],
        Sg.c (CV.f (FV.i IntKind.i64 d.2.2.2.2.2.2.2.2.2.2.2.2.2.2.2.2.2.2.2.2.2.2.2.2.2.1))],
    some
      [Sg.a (Sz.l 6)
          [Col.i IntKind.i64 d.2.2.2.2.2.2.2.2.2.2.2.2.2.2.2.2.2.2.2.2.2.2.2.2.2.2.1,
            Col.i IntKind.i64 d.2.2.2.2.2.2.2.2.2.2.2.2.2.2.2.2.2.2.2.2.2.2.2.2.2.2.2.1,
            Col.b d.2.2.2.2.2.2.2.2.2.2.2.2.2.2.2.2.2.2.2.2.2.2.2.2.2.2.2.2.1,
            Col.i IntKind.i64 d.2.2.2.2.2.2.2.2.2.2.2.2.2.2.2.2.2.2.2.2.2.2.2.2.2.2.2.2.2.1,
            Col.i IntKind.i64 d.2.2.2.2.2.2.2.2.2.2.2.2.2.2.2.2.2.2.2.2.2.2.2.2.2.2.2.2.2.2.1,
            Col.i IntKind.i64 d.2.2.2.2.2.2.2.2.2.2.2.2.2.2.2.2.2.2.2.2.2.2.2.2.2.2.2.2.2.2.2.1],
        Sg.c (CV.f (FV.i IntKind.i64 d.2.2.2.2.2.2.2.2.2.2.2.2.2.2.2.2.2.2.2.2.2.2.2.2.2.2.2.2.2.2.2.2))]]
  []) (step := fun d c x => S_astrolabelaw24_HealthApart_0 f_astrolabelaw24_awake f_health_New f___health_Monitor__Result f___health_Monitor__Sensor f___health_Monitor__Usable f___health_Monitor__Bad  d.1 d.2.1 d.2.2.1 d.2.2.2.1 d.2.2.2.2.1 d.2.2.2.2.2.1 d.2.2.2.2.2.2.1 d.2.2.2.2.2.2.2.1 d.2.2.2.2.2.2.2.2.1 d.2.2.2.2.2.2.2.2.2.1 d.2.2.2.2.2.2.2.2.2.2.1 d.2.2.2.2.2.2.2.2.2.2.2.1 d.2.2.2.2.2.2.2.2.2.2.2.2.1 d.2.2.2.2.2.2.2.2.2.2.2.2.2.1 d.2.2.2.2.2.2.2.2.2.2.2.2.2.2.1 d.2.2.2.2.2.2.2.2.2.2.2.2.2.2.2.1 d.2.2.2.2.2.2.2.2.2.2.2.2.2.2.2.2.1 d.2.2.2.2.2.2.2.2.2.2.2.2.2.2.2.2.2.1 d.2.2.2.2.2.2.2.2.2.2.2.2.2.2.2.2.2.2.1 d.2.2.2.2.2.2.2.2.2.2.2.2.2.2.2.2.2.2.2.1 d.2.2.2.2.2.2.2.2.2.2.2.2.2.2.2.2.2.2.2.2.1 d.2.2.2.2.2.2.2.2.2.2.2.2.2.2.2.2.2.2.2.2.2.1 d.2.2.2.2.2.2.2.2.2.2.2.2.2.2.2.2.2.2.2.2.2.2.1 d.2.2.2.2.2.2.2.2.2.2.2.2.2.2.2.2.2.2.2.2.2.2.2.1 d.2.2.2.2.2.2.2.2.2.2.2.2.2.2.2.2.2.2.2.2.2.2.2.2.1 d.2.2.2.2.2.2.2.2.2.2.2.2.2.2.2.2.2.2.2.2.2.2.2.2.2.1 d.2.2.2.2.2.2.2.2.2.2.2.2.2.2.2.2.2.2.2.2.2.2.2.2.2.2.1 d.2.2.2.2.2.2.2.2.2.2.2.2.2.2.2.2.2.2.2.2.2.2.2.2.2.2.2.1 d.2.2.2.2.2.2.2.2.2.2.2.2.2.2.2.2.2.2.2.2.2.2.2.2.2.2.2.2.1 d.2.2.2.2.2.2.2.2.2.2.2.2.2.2.2.2.2.2.2.2.2.2.2.2.2.2.2.2.2.1 d.2.2.2.2.2.2.2.2.2.2.2.2.2.2.2.2.2.2.2.2.2.2.2.2.2.2.2.2.2.2.1 d.2.2.2.2.2.2.2.2.2.2.2.2.2.2.2.2.2.2.2.2.2.2.2.2.2.2.2.2.2.2.2.1 d.2.2.2.2.2.2.2.2.2.2.2.2.2.2.2.2.2.2.2.2.2.2.2.2.2.2.2.2.2.2.2.2 c x) (kx := (fun d => K (AX.ex 0) (St.mk
  [AV.r
      (RV.c
        (CV.fs d.1 8
          [Col.i IntKind.i64 d.2.1, Col.i IntKind.i64 d.2.2.1, Col.i IntKind.i64 d.2.2.2.1, Col.u, Col.i IntKind.i64 d.2.2.2.2.1,
            Col.i IntKind.i64 d.2.2.2.2.2.1, Col.b d.2.2.2.2.2.2.1, Col.b d.2.2.2.2.2.2.2.1])),
    AV.r (RV.c (CV.f (FV.i IntKind.i64 d.2.2.2.2.2.2.2.2.1))), AV.r (RV.c (CV.f (FV.i IntKind.i64 d.2.2.2.2.2.2.2.2.2.1))), AV.und, AV.und, AV.tup [],
    AV.r (RV.c (CV.f (FV.b false))), AV.r (RV.c (CV.ptr 0 (Off.k 0) 37)), AV.und, AV.r (RV.c (CV.ptr 1 (Off.k 0) 37)), AV.r (RV.c (CV.f (FV.i IntKind.i64 0))),
    AV.r (RV.c (CV.f (FV.i IntKind.i64 d.2.2.2.2.2.2.2.2.2.2.1))), AV.und, AV.und, AV.und, AV.und, AV.und, AV.und,
    AV.r
      (RV.c
        (CV.fs d.2.2.2.2.2.2.2.2.2.2.2.1 8
          [Col.i IntKind.i64 d.2.2.2.2.2.2.2.2.2.2.2.2.1, Col.i IntKind.i64 d.2.2.2.2.2.2.2.2.2.2.2.2.2.1,
            Col.i IntKind.i64 d.2.2.2.2.2.2.2.2.2.2.2.2.2.2.1, Col.u, Col.i IntKind.i64 d.2.2.2.2.2.2.2.2.2.2.2.2.2.2.2.1,
            Col.i IntKind.i64 d.2.2.2.2.2.2.2.2.2.2.2.2.2.2.2.2.1, Col.b d.2.2.2.2.2.2.2.2.2.2.2.2.2.2.2.2.2.1,
            Col.b d.2.2.2.2.2.2.2.2.2.2.2.2.2.2.2.2.2.2.1])),
    AV.und, AV.und, AV.und, AV.und, AV.und, AV.und, AV.und, AV.und, AV.und, AV.und, AV.und, AV.und, AV.und, AV.und, AV.und, AV.und, AV.und, AV.und, AV.und, AV.und, AV.und, AV.und, AV.und, AV.und,
    AV.und, AV.und, AV.r (RV.c (CV.f (FV.i IntKind.i64 d.2.2.2.2.2.2.2.2.2.2.1))),
    AV.r
      (RV.c
        (CV.fs d.1 8
          [Col.i IntKind.i64 d.2.1, Col.i IntKind.i64 d.2.2.1, Col.i IntKind.i64 d.2.2.2.1, Col.u, Col.i IntKind.i64 d.2.2.2.2.1,
            Col.i IntKind.i64 d.2.2.2.2.2.1, Col.b d.2.2.2.2.2.2.1, Col.b d.2.2.2.2.2.2.2.1])),
    AV.r (RV.c (CV.f (FV.i IntKind.i64 d.2.2.2.2.2.2.2.2.2.2.2.2.2.2.2.2.2.2.2.1))),
    AV.r (RV.c (CV.f (FV.b d.2.2.2.2.2.2.2.2.2.2.2.2.2.2.2.2.2.2.2.2.1))), AV.und, AV.und, AV.und, AV.und, AV.und, AV.und, AV.und, AV.und, AV.und, AV.und,
    AV.und, AV.und, AV.und, AV.und, AV.und, AV.und, AV.und, AV.und, AV.und, AV.und, AV.und, AV.und, AV.und, AV.und, AV.und, AV.und, AV.und, AV.und, AV.und, AV.und, AV.und, AV.und, AV.und, AV.und,
    AV.und, AV.und, AV.und, AV.und, AV.und, AV.und, AV.und, AV.und, AV.und, AV.und, AV.und, AV.und, AV.und, AV.und, AV.und, AV.und, AV.und, AV.und, AV.und, AV.und, AV.und, AV.und, AV.tup [],
    AV.tup [], AV.und, AV.und, AV.tup [], AV.tup [], AV.tup [], AV.tup [], AV.tup [], AV.tup [], AV.tup [], AV.tup [], AV.tup [], AV.tup [], AV.tup [], AV.tup [], AV.tup [], AV.tup [], AV.tup [],
    AV.tup [], AV.tup [], AV.tup [], AV.tup [], AV.tup [], AV.tup [], AV.tup [], AV.tup [], AV.und, AV.und, AV.und, AV.und, AV.und, AV.und, AV.und, AV.tup [], AV.tup [], AV.tup [], AV.tup [],
    AV.tup [], AV.und]
  [some
      [Sg.a (Sz.l 6)
          [Col.i IntKind.i64 d.2.2.2.2.2.2.2.2.2.2.2.2.2.2.2.2.2.2.2.2.2.1,
            Col.i IntKind.i64 d.2.2.2.2.2.2.2.2.2.2.2.2.2.2.2.2.2.2.2.2.2.2.1,
            Col.b d.2.2.2.2.2.2.2.2.2.2.2.2.2.2.2.2.2.2.2.2.2.2.2.1,
            Col.i IntKind.i64 d.2.2.2.2.2.2.2.2.2.2.2.2.2.2.2.2.2.2.2.2.2.2.2.2.1,
            Col.i IntKind.i64 d.2.2.2.2.2.2.2.2.2.2.2.2.2.2.2.2.2.2.2.2.2.2.2.2.2.1,
            Col.i IntKind.i64 d.2.2.2.2.2.2.2.2.2.2.2.2.2.2.2.2.2.2.2.2.2.2.2.2.2.2.1],
        Sg.c (CV.f (FV.i IntKind.i64 d.2.2.2.2.2.2.2.2.2.2.2.2.2.2.2.2.2.2.2.2.2.2.2.2.2.2.2.1))],
    some
      [Sg.a (Sz.l 6)
          [Col.i IntKind.i64 d.2.2.2.2.2.2.2.2.2.2.2.2.2.2.2.2.2.2.2.2.2.2.2.2.2.2.2.2.1,
            Col.i IntKind.i64 d.2.2.2.2.2.2.2.2.2.2.2.2.2.2.2.2.2.2.2.2.2.2.2.2.2.2.2.2.2.1,
            Col.b d.2.2.2.2.2.2.2.2.2.2.2.2.2.2.2.2.2.2.2.2.2.2.2.2.2.2.2.2.2.2.1,
            Col.i IntKind.i64 d.2.2.2.2.2.2.2.2.2.2.2.2.2.2.2.2.2.2.2.2.2.2.2.2.2.2.2.2.2.2.2.1,
            Col.i IntKind.i64 d.2.2.2.2.2.2.2.2.2.2.2.2.2.2.2.2.2.2.2.2.2.2.2.2.2.2.2.2.2.2.2.2.1,
            Col.i IntKind.i64 d.2.2.2.2.2.2.2.2.2.2.2.2.2.2.2.2.2.2.2.2.2.2.2.2.2.2.2.2.2.2.2.2.2.1],
        Sg.c (CV.f (FV.i IntKind.i64 d.2.2.2.2.2.2.2.2.2.2.2.2.2.2.2.2.2.2.2.2.2.2.2.2.2.2.2.2.2.2.2.2.2.2))]]
  [])))
    (fun d c => ds_astrolabelaw24_HealthApart_0 f_astrolabelaw24_awake f_health_New f___health_Monitor__Result f___health_Monitor__Sensor f___health_Monitor__Usable f___health_Monitor__Bad (@L_astrolabelaw24_HealthApart_0) (@L_astrolabelaw24_HealthApart_1) d.1 d.2.1 d.2.2.1 d.2.2.2.1 d.2.2.2.2.1 d.2.2.2.2.2.1 d.2.2.2.2.2.2.1 d.2.2.2.2.2.2.2.1 d.2.2.2.2.2.2.2.2.1 d.2.2.2.2.2.2.2.2.2.1 d.2.2.2.2.2.2.2.2.2.2.1 d.2.2.2.2.2.2.2.2.2.2.2.1 d.2.2.2.2.2.2.2.2.2.2.2.2.1 d.2.2.2.2.2.2.2.2.2.2.2.2.2.1 d.2.2.2.2.2.2.2.2.2.2.2.2.2.2.1 d.2.2.2.2.2.2.2.2.2.2.2.2.2.2.2.1 d.2.2.2.2.2.2.2.2.2.2.2.2.2.2.2.2.1 d.2.2.2.2.2.2.2.2.2.2.2.2.2.2.2.2.2.1 d.2.2.2.2.2.2.2.2.2.2.2.2.2.2.2.2.2.2.1 d.2.2.2.2.2.2.2.2.2.2.2.2.2.2.2.2.2.2.2.1 d.2.2.2.2.2.2.2.2.2.2.2.2.2.2.2.2.2.2.2.2.1 d.2.2.2.2.2.2.2.2.2.2.2.2.2.2.2.2.2.2.2.2.2.1 d.2.2.2.2.2.2.2.2.2.2.2.2.2.2.2.2.2.2.2.2.2.2.1 d.2.2.2.2.2.2.2.2.2.2.2.2.2.2.2.2.2.2.2.2.2.2.2.1 d.2.2.2.2.2.2.2.2.2.2.2.2.2.2.2.2.2.2.2.2.2.2.2.2.1 d.2.2.2.2.2.2.2.2.2.2.2.2.2.2.2.2.2.2.2.2.2.2.2.2.2.1 d.2.2.2.2.2.2.2.2.2.2.2.2.2.2.2.2.2.2.2.2.2.2.2.2.2.2.1 d.2.2.2.2.2.2.2.2.2.2.2.2.2.2.2.2.2.2.2.2.2.2.2.2.2.2.2.1 d.2.2.2.2.2.2.2.2.2.2.2.2.2.2.2.2.2.2.2.2.2.2.2.2.2.2.2.2.1 d.2.2.2.2.2.2.2.2.2.2.2.2.2.2.2.2.2.2.2.2.2.2.2.2.2.2.2.2.2.1 d.2.2.2.2.2.2.2.2.2.2.2.2.2.2.2.2.2.2.2.2.2.2.2.2.2.2.2.2.2.2.1 d.2.2.2.2.2.2.2.2.2.2.2.2.2.2.2.2.2.2.2.2.2.2.2.2.2.2.2.2.2.2.2.1 d.2.2.2.2.2.2.2.2.2.2.2.2.2.2.2.2.2.2.2.2.2.2.2.2.2.2.2.2.2.2.2.2 c K) 200 (x0, x1, x2, x3, x4, x5, x6, x7, x8, x9, x10, x11, x12, x13, x14, x15, x16, x17, x18, x19, x20, x21, x22, x23, x24, x25, x26, x27, x28, x29, x30, x31, x32)
theorem so_astrolabelaw24_HealthApart_0 [Amb] : ∀ kk, SumOK Try.prog (envOf [(15, F_astrolabelaw24_awake f_astrolabelaw24_awake), (16, F_health_New f_health_New), (21, F___health_Monitor__Result f___health_Monitor__Result), (17, F___health_Monitor__Sensor f___health_Monitor__Sensor), (18, F___health_Monitor__Usable f___health_Monitor__Usable), (20, F___health_Monitor__Bad f___health_Monitor__Bad)]) ⟨[⟨10, [3, 4, 8, 12, 13, 14, 15, 16, 17, 19, 20, 21, 22, 23, 24, 25, 26, 27, 28, 29, 30, 31, 32, 33, 34, 35, 36, 37, 38, 39, 40, 41, 42, 43, 44, 45, 46, 47, 48, 49, 50, 51, 52, 53, 54, 55, 56, 57, 58, 59, 60, 61, 62, 63, 64, 65, 66, 67, 68, 69, 70, 71, 72, 73, 74, 75, 76, 77, 78, 79, 80, 81, 82, 83, 84, 85, 86, 87, 88, 89, 90, 91, 92, 93, 94, 95, 96, 97, 98, 99, 100, 101, 102, 103, 104, 107, 108, 132, 133, 134, 135, 136, 137, 138, 144], []⟩, ⟨17, [0, 3, 4, 8, 11, 12, 14, 15, 16, 17, 19, 20, 21, 22, 23, 24, 25, 26, 27, 28, 29, 30, 31, 32, 33, 34, 35, 36, 37, 38, 39, 40, 41, 42, 43, 44, 45, 46, 47, 48, 49, 50, 51, 52, 53, 54, 55, 56, 57, 58, 59, 60, 61, 62, 63, 64, 65, 66, 67, 68, 69, 70, 71, 72, 73, 74, 75, 76, 77, 78, 79, 80, 81, 82, 83, 84, 85, 86, 87, 88, 89, 90, 91, 92, 93, 94, 95, 96, 97, 98, 99, 100, 101, 102, 103, 104, 107, 108, 132, 133, 134, 135, 136, 137, 138, 144, 105, 106, 109, 110, 111, 112, 113, 114, 115, 116, 117, 118, 119, 120, 121, 122, 123, 124, 125, 126, 127, 128, 129, 130, 131], []⟩], [⟨10, 0, @R_astrolabelaw24_HealthApart_0 (@L_astrolabelaw24_HealthApart_0)⟩, ⟨17, 0, @R_astrolabelaw24_HealthApart_1 (@L_astrolabelaw24_HealthApart_1)⟩], [], [], (some ⟨0, [0, 1, 2, 3, 4, 5, 7, 8, 9, 10, 11, 12, 13, 14, 15, 16, 17, 18, 19, 20, 21, 22, 23, 24, 25, 26, 27, 28, 29, 30, 31, 32, 33, 34, 35, 36, 37, 38, 39, 40, 41, 42, 43, 44, 45, 46, 47, 48, 49, 50, 51, 52, 53, 54, 55, 56, 57, 58, 59, 60, 61, 62, 63, 64, 65, 66, 67, 68, 69, 70, 71, 72, 73, 74, 75, 76, 77, 78, 79, 80, 81, 82, 83, 84, 85, 86, 87, 88, 89, 90, 91, 92, 93, 94, 95, 96, 97, 98, 99, 100, 101, 102, 103, 104, 105, 106, 107, 108, 109, 110, 111, 112, 113, 114, 115, 116, 117, 118, 119, 120, 121, 122, 123, 124, 125, 126, 127, 128, 129, 130, 131, 132, 133, 134, 135, 136, 137, 138, 139, 140, 141, 142, 143, 144], []⟩)⟩ (tmpsOf Try.prog 6) kk 200 (loopIn Try.prog 6 10) :=
  SumOK.of (id := 10) (k0 := 0) (run := @R_astrolabelaw24_HealthApart_0 (@L_astrolabelaw24_HealthApart_0)) (by kernel_rfl) fun s K r hr => by
    unfold R_astrolabelaw24_HealthApart_0 at hr
    obtain ⟨b, hb, hr1⟩ := Option.bind_eq_some_iff.1 hr
    have e := ((Q_astrolabelaw24_HealthApart_0).ok s b hb).trans (q_astrolabelaw24_HealthApart_0 b)
    subst e
    exact ⟨200, (it_astrolabelaw24_HealthApart_0 b.1.1.1 b.1.1.2.2.1 b.1.1.2.2.2.1 b.1.1.2.2.2.2.1 b.1.1.2.2.2.2.2.2.1 b.1.1.2.2.2.2.2.2.2.1 b.1.1.2.2.2.2.2.2.2.2.1 b.1.1.2.2.2.2.2.2.2.2.2.1 b.1.2.1 b.1.2.2.1 b.1.2.2.2.2.2.2.2.2.2.2.2.1 b.1.2.2.2.2.2.2.2.2.2.2.2.2.2.2.2.2.2.2.1.1 b.1.2.2.2.2.2.2.2.2.2.2.2.2.2.2.2.2.2.2.1.2.2.1 b.1.2.2.2.2.2.2.2.2.2.2.2.2.2.2.2.2.2.2.1.2.2.2.1 b.1.2.2.2.2.2.2.2.2.2.2.2.2.2.2.2.2.2.2.1.2.2.2.2.1 b.1.2.2.2.2.2.2.2.2.2.2.2.2.2.2.2.2.2.2.1.2.2.2.2.2.2.1 b.1.2.2.2.2.2.2.2.2.2.2.2.2.2.2.2.2.2.2.1.2.2.2.2.2.2.2.1 b.1.2.2.2.2.2.2.2.2.2.2.2.2.2.2.2.2.2.2.1.2.2.2.2.2.2.2.2.1 b.1.2.2.2.2.2.2.2.2.2.2.2.2.2.2.2.2.2.2.1.2.2.2.2.2.2.2.2.2.1 b.2.1.1.1.2.1 b.2.1.1.1.2.2.1 b.2.1.1.1.2.2.2.1 b.2.1.1.1.2.2.2.2.1 b.2.1.1.1.2.2.2.2.2.1 b.2.1.1.1.2.2.2.2.2.2.1 b.2.1.1.2.1 b.2.1.2.1.1.2.1 b.2.1.2.1.1.2.2.1 b.2.1.2.1.1.2.2.2.1 b.2.1.2.1.1.2.2.2.2.1 b.2.1.2.1.1.2.2.2.2.2.1 b.2.1.2.1.1.2.2.2.2.2.2.1 b.2.1.2.1.2.1 K).trans hr1⟩
theorem ds_astrolabelaw24_HealthApart_1 {ρ : Type} (g_astrolabelaw24_awake : Option Bool) (g_health_New : Int → Nat → (Nat → Int) → Bool → Option (Unit ⊕ (Nat → Int) × (Nat → Int) × (Nat → Bool) × (Nat → Int) × (Nat → Int) × (Nat → Int))) (g___health_Monitor__Result : Int →
  Int →
    Nat →
      (Nat → Int) →
        (Nat → Int) →
          (Nat → Bool) →
            (Nat → Int) →
              (Nat → Int) → (Nat → Int) → Int → (Nat → Bool) → (Nat → Int) → (Nat → Int) → Bool → Option ((Nat → Int) × (Nat → Int) × (Nat → Bool) × (Nat → Int) × (Nat → Int) × (Nat → Int) × Int)) (g___health_Monitor__Sensor : Int → (Nat → Int) → (Nat → Int) → (Nat → Bool) → (Nat → Int) → (Nat → Int) → (Nat → Int) → Int → Option (Int × Int × Bool × Int × Int × Int)) (g___health_Monitor__Usable : Int → Int → (Nat → Int) → (Nat → Int) → (Nat → Bool) → (Nat → Int) → (Nat → Int) → (Nat → Int) → Int → Option Bool) (g___health_Monitor__Bad : (Nat → Int) → (Nat → Int) → (Nat → Bool) → (Nat → Int) → (Nat → Int) → (Nat → Int) → Int → Option Bool) (l_0 : ∀ {ρ : Type}, (Nat ×
  (Nat → Int) ×
    (Nat → Int) ×
      (Nat → Int) ×
        (Nat → Int) ×
          (Nat → Int) ×
            (Nat → Bool) ×
              (Nat → Bool) ×
                Int ×
                  Int ×
                    Int ×
                      Nat ×
                        (Nat → Int) ×
                          (Nat → Int) ×
                            (Nat → Int) ×
                              (Nat → Int) ×
                                (Nat → Int) ×
                                  (Nat → Bool) ×
                                    (Nat → Bool) ×
                                      (Nat → Int) ×
                                        (Nat → Int) ×
                                          (Nat → Bool) × (Nat → Int) × (Nat → Int) × (Nat → Int) × Int × (Nat → Int) × (Nat → Int) × (Nat → Bool) × (Nat → Int) × (Nat → Int) × (Nat → Int) × Int) → ((Nat ×
  (Nat → Int) ×
    (Nat → Int) ×
      (Nat → Int) ×
        (Nat → Int) ×
          (Nat → Int) ×
            (Nat → Bool) ×
              (Nat → Bool) ×
                Int ×
                  Int ×
                    Int ×
                      Nat ×
                        (Nat → Int) ×
                          (Nat → Int) ×
                            (Nat → Int) ×
                              (Nat → Int) ×
                                (Nat → Int) ×
                                  (Nat → Bool) ×
                                    (Nat → Bool) ×
                                      Int ×
                                        Bool ×
                                          (Nat → Int) ×
                                            (Nat → Int) ×
                                              (Nat → Bool) × (Nat → Int) × (Nat → Int) × (Nat → Int) × Int × (Nat → Int) × (Nat → Int) × (Nat → Bool) × (Nat → Int) × (Nat → Int) × (Nat → Int) × Int) → Option ρ) → Option ρ) (l_1 : ∀ {ρ : Type}, (Int ×
  Int ×
    Int ×
      Nat ×
        (Nat → Int) ×
          (Nat → Int) ×
            (Nat → Int) ×
              (Nat → Int) ×
                (Nat → Int) ×
                  (Nat → Bool) ×
                    (Nat → Bool) ×
                      (Nat → Int) ×
                        (Nat → Int) × (Nat → Bool) × (Nat → Int) × (Nat → Int) × (Nat → Int) × Int × (Nat → Int) × (Nat → Int) × (Nat → Bool) × (Nat → Int) × (Nat → Int) × (Nat → Int) × Int) → ((Unit ⊕
  Int ×
    Int ×
      Int ×
        Nat ×
          (Nat → Int) ×
            (Nat → Int) ×
              (Nat → Int) ×
                (Nat → Int) ×
                  (Nat → Int) ×
                    (Nat → Bool) ×
                      (Nat → Bool) ×
                        Bool ×
                          (Nat → Int) ×
                            (Nat → Int) × (Nat → Bool) × (Nat → Int) × (Nat → Int) × (Nat → Int) × Int × (Nat → Int) × (Nat → Int) × (Nat → Bool) × (Nat → Int) × (Nat → Int) × (Nat → Int) × Int) → Option ρ) → Option ρ) (x0 : Int) (x1 : Int) (x2 : Int) (x3 : Nat) (x4 : Nat → Int) (x5 : Nat → Int) (x6 : Nat → Int) (x7 : Nat → Int) (x8 : Nat → Int) (x9 : Nat → Bool) (x10 : Nat → Bool) (x11 : Nat → Int) (x12 : Nat → Int) (x13 : Nat → Bool) (x14 : Nat → Int) (x15 : Nat → Int) (x16 : Nat → Int) (x17 : Int) (x18 : Nat → Int) (x19 : Nat → Int) (x20 : Nat → Bool) (x21 : Nat → Int) (x22 : Nat → Int) (x23 : Nat → Int) (x24 : Int) (c : St → Option ρ) (K : AX → St → Option ρ) :
    runC Try.prog (envOf [(15, F_astrolabelaw24_awake g_astrolabelaw24_awake), (16, F_health_New g_health_New), (21, F___health_Monitor__Result g___health_Monitor__Result), (17, F___health_Monitor__Sensor g___health_Monitor__Sensor), (18, F___health_Monitor__Usable g___health_Monitor__Usable), (20, F___health_Monitor__Bad g___health_Monitor__Bad)]) ⟨[⟨10, [3, 4, 8, 12, 13, 14, 15, 16, 17, 19, 20, 21, 22, 23, 24, 25, 26, 27, 28, 29, 30, 31, 32, 33, 34, 35, 36, 37, 38, 39, 40, 41, 42, 43, 44, 45, 46, 47, 48, 49, 50, 51, 52, 53, 54, 55, 56, 57, 58, 59, 60, 61, 62, 63, 64, 65, 66, 67, 68, 69, 70, 71, 72, 73, 74, 75, 76, 77, 78, 79, 80, 81, 82, 83, 84, 85, 86, 87, 88, 89, 90, 91, 92, 93, 94, 95, 96, 97, 98, 99, 100, 101, 102, 103, 104, 107, 108, 132, 133, 134, 135, 136, 137, 138, 144], []⟩, ⟨17, [0, 3, 4, 8, 11, 12, 14, 15, 16, 17, 19, 20, 21, 22, 23, 24, 25, 26, 27, 28, 29, 30, 31, 32, 33, 34, 35, 36, 37, 38, 39, 40, 41, 42, 43, 44, 45, 46, 47, 48, 49, 50, 51, 52, 53, 54, 55, 56, 57, 58, 59, 60, 61, 62, 63, 64, 65, 66, 67, 68, 69, 70, 71, 72, 73, 74, 75, 76, 77, 78, 79, 80, 81, 82, 83, 84, 85, 86, 87, 88, 89, 90, 91, 92, 93, 94, 95, 96, 97, 98, 99, 100, 101, 102, 103, 104, 107, 108, 132, 133, 134, 135, 136, 137, 138, 144, 105, 106, 109, 110, 111, 112, 113, 114, 115, 116, 117, 118, 119, 120, 121, 122, 123, 124, 125, 126, 127, 128, 129, 130, 131], []⟩], [⟨10, 0, @R_astrolabelaw24_HealthApart_0 (@l_0)⟩, ⟨17, 0, @R_astrolabelaw24_HealthApart_1 (@l_1)⟩], [], [], (some ⟨0, [0, 1, 2, 3, 4, 5, 7, 8, 9, 10, 11, 12, 13, 14, 15, 16, 17, 18, 19, 20, 21, 22, 23, 24, 25, 26, 27, 28, 29, 30, 31, 32, 33, 34, 35, 36, 37, 38, 39, 40, 41, 42, 43, 44, 45, 46, 47, 48, 49, 50, 51, 52, 53, 54, 55, 56, 57, 58, 59, 60, 61, 62, 63, 64, 65, 66, 67, 68, 69, 70, 71, 72, 73, 74, 75, 76, 77, 78, 79, 80, 81, 82, 83, 84, 85, 86, 87, 88, 89, 90, 91, 92, 93, 94, 95, 96, 97, 98, 99, 100, 101, 102, 103, 104, 105, 106, 107, 108, 109, 110, 111, 112, 113, 114, 115, 116, 117, 118, 119, 120, 121, 122, 123, 124, 125, 126, 127, 128, 129, 130, 131, 132, 133, 134, 135, 136, 137, 138, 139, 140, 141, 142, 143, 144], []⟩)⟩ (tmpsOf Try.prog 6) 0 200 (loopIn Try.prog 6 17)
      (St.mk
    [AV.und, AV.r (RV.c (CV.f (FV.i IntKind.i64 x0))), AV.r (RV.c (CV.f (FV.i IntKind.i64 x1))), AV.und, AV.und, AV.tup [], AV.r (RV.c (CV.f (FV.b false))), AV.r (RV.c (CV.ptr 0 (Off.k 0) 37)), AV.und,
      AV.r (RV.c (CV.ptr 1 (Off.k 0) 37)), AV.r (RV.c (CV.f (FV.i IntKind.i64 0))), AV.und, AV.und, AV.r (RV.c (CV.f (FV.i IntKind.i64 x2))), AV.und, AV.und, AV.und, AV.und,
      AV.r (RV.c (CV.fs x3 8 [Col.i IntKind.i64 x4, Col.i IntKind.i64 x5, Col.i IntKind.i64 x6, Col.u, Col.i IntKind.i64 x7, Col.i IntKind.i64 x8, Col.b x9, Col.b x10])), AV.und, AV.und, AV.und, AV.und,
      AV.und, AV.und, AV.und, AV.und, AV.und, AV.und, AV.und, AV.und, AV.und, AV.und, AV.und, AV.und, AV.und, AV.und, AV.und, AV.und, AV.und, AV.und, AV.und, AV.und, AV.und, AV.und, AV.und, AV.und,
      AV.und, AV.und, AV.und, AV.und, AV.und, AV.und, AV.und, AV.und, AV.und, AV.und, AV.und, AV.und, AV.und, AV.und, AV.und, AV.und, AV.und, AV.und, AV.und, AV.und, AV.und, AV.und, AV.und, AV.und,
      AV.und, AV.und, AV.und, AV.und, AV.und, AV.und, AV.und, AV.und, AV.und, AV.und, AV.und, AV.und, AV.und, AV.und, AV.und, AV.und, AV.und, AV.und, AV.und, AV.und, AV.und, AV.und, AV.und, AV.und,
      AV.und, AV.und, AV.und, AV.und, AV.und, AV.und, AV.und, AV.und, AV.und, AV.und, AV.und, AV.und, AV.und, AV.und, AV.und, AV.und, AV.und, AV.und, AV.und, AV.und, AV.und, AV.und, AV.und, AV.und,
      AV.und, AV.und, AV.und, AV.und, AV.und, AV.und, AV.und, AV.und, AV.und, AV.und, AV.und, AV.und, AV.und, AV.und, AV.und, AV.und, AV.und, AV.und, AV.und, AV.und, AV.tup [], AV.tup [], AV.tup [],
      AV.tup [], AV.tup [], AV.und]
    [some [Sg.a (Sz.l 6) [Col.i IntKind.i64 x11, Col.i IntKind.i64 x12, Col.b x13, Col.i IntKind.i64 x14, Col.i IntKind.i64 x15, Col.i IntKind.i64 x16], Sg.c (CV.f (FV.i IntKind.i64 x17))],
      some [Sg.a (Sz.l 6) [Col.i IntKind.i64 x18, Col.i IntKind.i64 x19, Col.b x20, Col.i IntKind.i64 x21, Col.i IntKind.i64 x22, Col.i IntKind.i64 x23], Sg.c (CV.f (FV.i IntKind.i64 x24))]]
    [])
      (next (fun t => t.head 0 ⟨[⟨10, [3, 4, 8, 12, 13, 14, 15, 16, 17, 19, 20, 21, 22, 23, 24, 25, 26, 27, 28, 29, 30, 31, 32, 33, 34, 35, 36, 37, 38, 39, 40, 41, 42, 43, 44, 45, 46, 47, 48, 49, 50, 51, 52, 53, 54, 55, 56, 57, 58, 59, 60, 61, 62, 63, 64, 65, 66, 67, 68, 69, 70, 71, 72, 73, 74, 75, 76, 77, 78, 79, 80, 81, 82, 83, 84, 85, 86, 87, 88, 89, 90, 91, 92, 93, 94, 95, 96, 97, 98, 99, 100, 101, 102, 103, 104, 107, 108, 132, 133, 134, 135, 136, 137, 138, 144], []⟩, ⟨17, [0, 3, 4, 8, 11, 12, 14, 15, 16, 17, 19, 20, 21, 22, 23, 24, 25, 26, 27, 28, 29, 30, 31, 32, 33, 34, 35, 36, 37, 38, 39, 40, 41, 42, 43, 44, 45, 46, 47, 48, 49, 50, 51, 52, 53, 54, 55, 56, 57, 58, 59, 60, 61, 62, 63, 64, 65, 66, 67, 68, 69, 70, 71, 72, 73, 74, 75, 76, 77, 78, 79, 80, 81, 82, 83, 84, 85, 86, 87, 88, 89, 90, 91, 92, 93, 94, 95, 96, 97, 98, 99, 100, 101, 102, 103, 104, 107, 108, 132, 133, 134, 135, 136, 137, 138, 144, 105, 106, 109, 110, 111, 112, 113, 114, 115, 116, 117, 118, 119, 120, 121, 122, 123, 124, 125, 126, 127, 128, 129, 130, 131], []⟩], [⟨10, 0, @R_astrolabelaw24_HealthApart_0 (@l_0)⟩, ⟨17, 0, @R_astrolabelaw24_HealthApart_1 (@l_1)⟩], [], [], (some ⟨0, [0, 1, 2, 3, 4, 5, 7, 8, 9, 10, 11, 12, 13, 14, 15, 16, 17, 18, 19, 20, 21, 22, 23, 24, 25, 26, 27, 28, 29, 30, 31, 32, 33, 34, 35, 36, 37, 38, 39, 40, 41, 42, 43, 44, 45, 46, 47, 48, 49, 50, 51, 52, 53, 54, 55, 56, 57, 58, 59, 60, 61, 62, 63, 64, 65, 66, 67, 68, 69, 70, 71, 72, 73, 74, 75, 76, 77, 78, 79, 80, 81, 82, 83, 84, 85, 86, 87, 88, 89, 90, 91, 92, 93, 94, 95, 96, 97, 98, 99, 100, 101, 102, 103, 104, 105, 106, 107, 108, 109, 110, 111, 112, 113, 114, 115, 116, 117, 118, 119, 120, 121, 122, 123, 124, 125, 126, 127, 128, 129, 130, 131, 132, 133, 134, 135, 136, 137, 138, 139, 140, 141, 142, 143, 144], []⟩)⟩ (loopIn Try.prog 6 17)) c K) =
    S_astrolabelaw24_HealthApart_1 g_astrolabelaw24_awake g_health_New g___health_Monitor__Result g___health_Monitor__Sensor g___health_Monitor__Usable g___health_Monitor__Bad  x0 x1 x2 x3 x4 x5 x6 x7 x8 x9 x10 x11 x12 x13 x14 x15 x16 x17 x18 x19 x20 x21 x22 x23 x24 (fun d => c (St.mk
  [AV.und, AV.r (RV.c (CV.f (FV.i IntKind.i64 d.1))), AV.r (RV.c (CV.f (FV.i IntKind.i64 d.2.1))), AV.und, AV.und, AV.tup [], AV.r (RV.c (CV.f (FV.b false))),
    AV.r (RV.c (CV.ptr 0 (Off.k 0) 37)), AV.und, AV.r (RV.c (CV.ptr 1 (Off.k 0) 37)), AV.r (RV.c (CV.f (FV.i IntKind.i64 0))), AV.und, AV.und, AV.r (RV.c (CV.f (FV.i IntKind.i64 d.2.2.1))),
    AV.und, AV.und, AV.und, AV.und,
    AV.r
      (RV.c
        (CV.fs d.2.2.2.1 8
          [Col.i IntKind.i64 d.2.2.2.2.1, Col.i IntKind.i64 d.2.2.2.2.2.1, Col.i IntKind.i64 d.2.2.2.2.2.2.1, Col.u,
            Col.i IntKind.i64 d.2.2.2.2.2.2.2.1, Col.i IntKind.i64 d.2.2.2.2.2.2.2.2.1, Col.b d.2.2.2.2.2.2.2.2.2.1,
            Col.b d.2.2.2.2.2.2.2.2.2.2.1])),
    AV.und, AV.und, AV.und, AV.und, AV.und, AV.und, AV.und, AV.und, AV.und, AV.und, AV.und, AV.und, AV.und, AV.und, AV.und, AV.und, AV.und, AV.und, AV.und, AV.und, AV.und, AV.und, AV.und, AV.und,
    AV.und, AV.und, AV.und, AV.und, AV.und, AV.und, AV.und, AV.und, AV.und, AV.und, AV.und, AV.und, AV.und, AV.und, AV.und, AV.und, AV.und, AV.und, AV.und, AV.und, AV.und, AV.und, AV.und, AV.und,
    AV.und, AV.und, AV.und, AV.und, AV.und, AV.und, AV.und, AV.und, AV.und, AV.und, AV.und, AV.und, AV.und, AV.und, AV.und, AV.und, AV.und, AV.und, AV.und, AV.und, AV.und, AV.und, AV.und, AV.und,
    AV.und, AV.und, AV.und, AV.und, AV.und, AV.und, AV.und, AV.und, AV.und, AV.und, AV.und, AV.und, AV.und, AV.und, AV.und, AV.und, AV.und, AV.und, AV.und, AV.und, AV.und, AV.und, AV.und, AV.und,
    AV.und, AV.und, AV.und, AV.und, AV.und, AV.und, AV.und, AV.und, AV.und, AV.und, AV.und, AV.und, AV.und, AV.und, AV.und, AV.und, AV.und, AV.und, AV.und, AV.und, AV.und, AV.und, AV.und, AV.und,
    AV.tup [], AV.tup [], AV.tup [], AV.tup [], AV.tup [], AV.und]
  [some
      [Sg.a (Sz.l 6)
          [Col.i IntKind.i64 d.2.2.2.2.2.2.2.2.2.2.2.1, Col.i IntKind.i64 d.2.2.2.2.2.2.2.2.2.2.2.2.1,
            Col.b d.2.2.2.2.2.2.2.2.2.2.2.2.2.1, Col.i IntKind.i64 d.2.2.2.2.2.2.2.2.2.2.2.2.2.2.1,
            Col.i IntKind.i64 d.2.2.2.2.2.2.2.2.2.2.2.2.2.2.2.1, Col.i IntKind.i64 d.2.2.2.2.2.2.2.2.2.2.2.2.2.2.2.2.1],
        Sg.c (CV.f (FV.i IntKind.i64 d.2.2.2.2.2.2.2.2.2.2.2.2.2.2.2.2.2.1))],
    some
      [Sg.a (Sz.l 6)
          [Col.i IntKind.i64 d.2.2.2.2.2.2.2.2.2.2.2.2.2.2.2.2.2.2.1,
            Col.i IntKind.i64 d.2.2.2.2.2.2.2.2.2.2.2.2.2.2.2.2.2.2.2.1,
            Col.b d.2.2.2.2.2.2.2.2.2.2.2.2.2.2.2.2.2.2.2.2.1,
            Col.i IntKind.i64 d.2.2.2.2.2.2.2.2.2.2.2.2.2.2.2.2.2.2.2.2.2.1,
            Col.i IntKind.i64 d.2.2.2.2.2.2.2.2.2.2.2.2.2.2.2.2.2.2.2.2.2.2.1,
            Col.i IntKind.i64 d.2.2.2.2.2.2.2.2.2.2.2.2.2.2.2.2.2.2.2.2.2.2.2.1],
        Sg.c (CV.f (FV.i IntKind.i64 d.2.2.2.2.2.2.2.2.2.2.2.2.2.2.2.2.2.2.2.2.2.2.2.2))]]
  [])) (Sum.elim (fun d => K (AX.ret) (St.mk
  [AV.und, AV.und, AV.und, AV.und, AV.und, AV.und, AV.r (RV.c (CV.f (FV.b false))), AV.und, AV.und, AV.und, AV.und, AV.und, AV.und, AV.und, AV.und, AV.und, AV.und, AV.und, AV.und, AV.und, AV.und,
    AV.und, AV.und, AV.und, AV.und, AV.und, AV.und, AV.und, AV.und, AV.und, AV.und, AV.und, AV.und, AV.und, AV.und, AV.und, AV.und, AV.und, AV.und, AV.und, AV.und, AV.und, AV.und, AV.und, AV.und,
    AV.und, AV.und, AV.und, AV.und, AV.und, AV.und, AV.und, AV.und, AV.und, AV.und, AV.und, AV.und, AV.und, AV.und, AV.und, AV.und, AV.und, AV.und, AV.und, AV.und, AV.und, AV.und, AV.und, AV.und,
    AV.und, AV.und, AV.und, AV.und, AV.und, AV.und, AV.und, AV.und, AV.und, AV.und, AV.und, AV.und, AV.und, AV.und, AV.und, AV.und, AV.und, AV.und, AV.und, AV.und, AV.und, AV.und, AV.und, AV.und,
    AV.und, AV.und, AV.und, AV.und, AV.und, AV.und, AV.und, AV.und, AV.und, AV.und, AV.und, AV.und, AV.und, AV.und, AV.und, AV.und, AV.und, AV.und, AV.und, AV.und, AV.und, AV.und, AV.und, AV.und,
    AV.und, AV.und, AV.und, AV.und, AV.und, AV.und, AV.und, AV.und, AV.und, AV.und, AV.und, AV.und, AV.und, AV.und, AV.und, AV.und, AV.und, AV.und, AV.und, AV.und, AV.und, AV.und, AV.und, AV.und,
    AV.und, AV.und, AV.und, AV.und]
  [] [])) (fun d => K (AX.ex 2) (St.mk
  [AV.und, AV.r (RV.c (CV.f (FV.i IntKind.i64 d.1))), AV.r (RV.c (CV.f (FV.i IntKind.i64 d.2.1))), AV.und, AV.und, AV.tup [], AV.r (RV.c (CV.f (FV.b false))),
    AV.r (RV.c (CV.ptr 0 (Off.k 0) 37)), AV.und, AV.r (RV.c (CV.ptr 1 (Off.k 0) 37)), AV.r (RV.c (CV.f (FV.i IntKind.i64 0))), AV.und, AV.und, AV.r (RV.c (CV.f (FV.i IntKind.i64 d.2.2.1))),
    AV.und, AV.und, AV.und, AV.und,
    AV.r
      (RV.c
        (CV.fs d.2.2.2.1 8
          [Col.i IntKind.i64 d.2.2.2.2.1, Col.i IntKind.i64 d.2.2.2.2.2.1, Col.i IntKind.i64 d.2.2.2.2.2.2.1, Col.u,
            Col.i IntKind.i64 d.2.2.2.2.2.2.2.1, Col.i IntKind.i64 d.2.2.2.2.2.2.2.2.1, Col.b d.2.2.2.2.2.2.2.2.2.1,
            Col.b d.2.2.2.2.2.2.2.2.2.2.1])),
    AV.und, AV.und, AV.und, AV.und, AV.und, AV.und, AV.und, AV.und, AV.und, AV.und, AV.und, AV.und, AV.und, AV.und, AV.und, AV.und, AV.und, AV.und, AV.und, AV.und, AV.und, AV.und, AV.und, AV.und,
    AV.und, AV.und, AV.und, AV.und, AV.und, AV.und, AV.und, AV.und, AV.und, AV.und, AV.und, AV.und, AV.und, AV.und, AV.und, AV.und, AV.und, AV.und, AV.und, AV.und, AV.und, AV.und, AV.und, AV.und,
    AV.und, AV.und, AV.und, AV.und, AV.und, AV.und, AV.und, AV.und, AV.und, AV.und, AV.und, AV.und, AV.und, AV.und, AV.und, AV.und, AV.und, AV.und, AV.und, AV.und, AV.und, AV.und, AV.und, AV.und,
    AV.und, AV.r (RV.c (CV.f (FV.i IntKind.i64 d.2.2.1))), AV.r (RV.c (CV.f (FV.b d.2.2.2.2.2.2.2.2.2.2.2.1))), AV.und, AV.und, AV.und, AV.und, AV.und, AV.und, AV.und,
    AV.und, AV.und, AV.und, AV.und, AV.und, AV.und, AV.und, AV.und, AV.und, AV.und, AV.und, AV.und, AV.und, AV.und, AV.und, AV.und, AV.und, AV.und, AV.und, AV.und, AV.und, AV.und, AV.und, AV.und,
    AV.und, AV.und, AV.und, AV.und, AV.und, AV.und, AV.und, AV.und, AV.und, AV.und, AV.und, AV.und, AV.und, AV.und, AV.tup [], AV.tup [], AV.tup [], AV.tup [], AV.tup [], AV.und]
  [some
      [Sg.a (Sz.l 6)
          [Col.i IntKind.i64 d.2.2.2.2.2.2.2.2.2.2.2.2.1, Col.i IntKind.i64 d.2.2.2.2.2.2.2.2.2.2.2.2.2.1,
            Col.b d.2.2.2.2.2.2.2.2.2.2.2.2.2.2.1, Col.i IntKind.i64 d.2.2.2.2.2.2.2.2.2.2.2.2.2.2.2.1,
            Col.i IntKind.i64 d.2.2.2.2.2.2.2.2.2.2.2.2.2.2.2.2.1, Col.i IntKind.i64 d.2.2.2.2.2.2.2.2.2.2.2.2.2.2.2.2.2.1],
        Sg.c (CV.f (FV.i IntKind.i64 d.2.2.2.2.2.2.2.2.2.2.2.2.2.2.2.2.2.2.1))],
    some
      [Sg.a (Sz.l 6)
          [Col.i IntKind.i64 d.2.2.2.2.2.2.2.2.2.2.2.2.2.2.2.2.2.2.2.1,
            Col.i IntKind.i64 d.2.2.2.2.2.2.2.2.2.2.2.2.2.2.2.2.2.2.2.2.1,
            Col.b d.2.2.2.2.2.2.2.2.2.2.2.2.2.2.2.2.2.2.2.2.2.1,
            Col.i IntKind.i64 d.2.2.2.2.2.2.2.2.2.2.2.2.2.2.2.2.2.2.2.2.2.2.1,
            Col.i IntKind.i64 d.2.2.2.2.2.2.2.2.2.2.2.2.2.2.2.2.2.2.2.2.2.2.2.1,
            Col.i IntKind.i64 d.2.2.2.2.2.2.2.2.2.2.2.2.2.2.2.2.2.2.2.2.2.2.2.2.1],
        Sg.c (CV.f (FV.i IntKind.i64 d.2.2.2.2.2.2.2.2.2.2.2.2.2.2.2.2.2.2.2.2.2.2.2.2.2))]]
  []))) := by kernel_rfl
theorem it_astrolabelaw24_HealthApart_1 {ρ : Type} (x0 : Int) (x1 : Int) (x2 : Int) (x3 : Nat) (x4 : Nat → Int) (x5 : Nat → Int) (x6 : Nat → Int) (x7 : Nat → Int) (x8 : Nat → Int) (x9 : Nat → Bool) (x10 : Nat → Bool) (x11 : Nat → Int) (x12 : Nat → Int) (x13 : Nat → Bool) (x14 : Nat → Int) (x15 : Nat → Int) (x16 : Nat → Int) (x17 : Int) (x18 : Nat → Int) (x19 : Nat → Int) (x20 : Nat → Bool) (x21 : Nat → Int) (x22 : Nat → Int) (x23 : Nat → Int) (x24 : Int) (K : AX → St → Option ρ) :
    iter (fun t => t.head 0 ⟨[⟨10, [3, 4, 8, 12, 13, 14, 15, 16, 17, 19, 20, 21, 22, 23, 24, 25, 26, 27, 28, 29, 30, 31, 32, 33, 34, 35, 36, 37, 38, 39, 40, 41, 42, 43, 44, 45, 46, 47, 48, 49, 50, 51, 52, 53, 54, 55, 56, 57, 58, 59, 60, 61, 62, 63, 64, 65, 66, 67, 68, 69, 70, 71, 72, 73, 74, 75, 76, 77, 78, 79, 80, 81, 82, 83, 84, 85, 86, 87, 88, 89, 90, 91, 92, 93, 94, 95, 96, 97, 98, 99, 100, 101, 102, 103, 104, 107, 108, 132, 133, 134, 135, 136, 137, 138, 144], []⟩, ⟨17, [0, 3, 4, 8, 11, 12, 14, 15, 16, 17, 19, 20, 21, 22, 23, 24, 25, 26, 27, 28, 29, 30, 31, 32, 33, 34, 35, 36, 37, 38, 39, 40, 41, 42, 43, 44, 45, 46, 47, 48, 49, 50, 51, 52, 53, 54, 55, 56, 57, 58, 59, 60, 61, 62, 63, 64, 65, 66, 67, 68, 69, 70, 71, 72, 73, 74, 75, 76, 77, 78, 79, 80, 81, 82, 83, 84, 85, 86, 87, 88, 89, 90, 91, 92, 93, 94, 95, 96, 97, 98, 99, 100, 101, 102, 103, 104, 107, 108, 132, 133, 134, 135, 136, 137, 138, 144, 105, 106, 109, 110, 111, 112, 113, 114, 115, 116, 117, 118, 119, 120, 121, 122, 123, 124, 125, 126, 127, 128, 129, 130, 131], []⟩], [⟨10, 0, @R_astrolabelaw24_HealthApart_0 (@L_astrolabelaw24_HealthApart_0)⟩, ⟨17, 0, @R_astrolabelaw24_HealthApart_1 (@L_astrolabelaw24_HealthApart_1)⟩], [], [], (some ⟨0, [0, 1, 2, 3, 4, 5, 7, 8, 9, 10, 11, 12, 13, 14, 15, 16, 17, 18, 19, 20, 21, 22, 23, 24, 25, 26, 27, 28, 29, 30, 31, 32, 33, 34, 35, 36, 37, 38, 39, 40, 41, 42, 43, 44, 45, 46, 47, 48, 49, 50, 51, 52, 53, 54, 55, 56, 57, 58, 59, 60, 61, 62, 63, 64, 65, 66, 67, 68, 69, 70, 71, 72, 73, 74, 75, 76, 77, 78, 79, 80, 81, 82, 83, 84, 85, 86, 87, 88, 89, 90, 91, 92, 93, 94, 95, 96, 97, 98, 99, 100, 101, 102, 103, 104, 105, 106, 107, 108, 109, 110, 111, 112, 113, 114, 115, 116, 117, 118, 119, 120, 121, 122, 123, 124, 125, 126, 127, 128, 129, 130, 131, 132, 133, 134, 135, 136, 137, 138, 139, 140, 141, 142, 143, 144], []⟩)⟩ (loopIn Try.prog 6 17)) (runC Try.prog (envOf [(15, F_astrolabelaw24_awake f_astrolabelaw24_awake), (16, F_health_New f_health_New), (21, F___health_Monitor__Result f___health_Monitor__Result), (17, F___health_Monitor__Sensor f___health_Monitor__Sensor), (18, F___health_Monitor__Usable f___health_Monitor__Usable), (20, F___health_Monitor__Bad f___health_Monitor__Bad)]) ⟨[⟨10, [3, 4, 8, 12, 13, 14, 15, 16, 17, 19, 20, 21, 22, 23, 24, 25, 26, 27, 28, 29, 30, 31, 32, 33, 34, 35, 36, 37, 38, 39, 40, 41, 42, 43, 44, 45, 46, 47, 48, 49, 50, 51, 52, 53, 54, 55, 56, 57, 58, 59, 60, 61, 62, 63, 64, 65, 66, 67, 68, 69, 70, 71, 72, 73, 74, 75, 76, 77, 78, 79, 80, 81, 82, 83, 84, 85, 86, 87, 88, 89, 90, 91, 92, 93, 94, 95, 96, 97, 98, 99, 100, 101, 102, 103, 104, 107, 108, 132, 133, 134, 135, 136, 137, 138, 144], []⟩, ⟨17, [0, 3, 4, 8, 11, 12, 14, 15, 16, 17, 19, 20, 21, 22, 23, 24, 25, 26, 27, 28, 29, 30, 31, 32, 33, 34, 35, 36, 37, 38, 39, 40, 41, 42, 43, 44, 45, 46, 47, 48, 49, 50, 51, 52, 53, 54, 55, 56, 57, 58, 59, 60, 61, 62, 63, 64, 65, 66, 67, 68, 69, 70, 71, 72, 73, 74, 75, 76, 77, 78, 79, 80, 81, 82, 83, 84, 85, 86, 87, 88, 89, 90, 91, 92, 93, 94, 95, 96, 97, 98, 99, 100, 101, 102, 103, 104, 107, 108, 132, 133, 134, 135, 136, 137, 138, 144, 105, 106, 109, 110, 111, 112, 113, 114, 115, 116, 117, 118, 119, 120, 121, 122, 123, 124, 125, 126, 127, 128, 129, 130, 131], []⟩], [⟨10, 0, @R_astrolabelaw24_HealthApart_0 (@L_astrolabelaw24_HealthApart_0)⟩, ⟨17, 0, @R_astrolabelaw24_HealthApart_1 (@L_astrolabelaw24_HealthApart_1)⟩], [], [], (some ⟨0, [0, 1, 2, 3, 4, 5, 7, 8, 9, 10, 11, 12, 13, 14, 15, 16, 17, 18, 19, 20, 21, 22, 23, 24, 25, 26, 27, 28, 29, 30, 31, 32, 33, 34, 35, 36, 37, 38, 39, 40, 41, 42, 43, 44, 45, 46, 47, 48, 49, 50, 51, 52, 53, 54, 55, 56, 57, 58, 59, 60, 61, 62, 63, 64, 65, 66, 67, 68, 69, 70, 71, 72, 73, 74, 75, 76, 77, 78, 79, 80, 81, 82, 83, 84, 85, 86, 87, 88, 89, 90, 91, 92, 93, 94, 95, 96, 97, 98, 99, 100, 101, 102, 103, 104, 105, 106, 107, 108, 109, 110, 111, 112, 113, 114, 115, 116, 117, 118, 119, 120, 121, 122, 123, 124, 125, 126, 127, 128, 129, 130, 131, 132, 133, 134, 135, 136, 137, 138, 139, 140, 141, 142, 143, 144], []⟩)⟩ (tmpsOf Try.prog 6) 0 200 (loopIn Try.prog 6 17)) K 200
      (St.mk
    [AV.und, AV.r (RV.c (CV.f (FV.i IntKind.i64 x0))), AV.r (RV.c (CV.f (FV.i IntKind.i64 x1))), AV.und, AV.und, AV.tup [], AV.r (RV.c (CV.f (FV.b false))), AV.r (RV.c (CV.ptr 0 (Off.k 0) 37)), AV.und,
      AV.r (RV.c (CV.ptr 1 (Off.k 0) 37)), AV.r (RV.c (CV.f (FV.i IntKind.i64 0))), AV.und, AV.und, AV.r (RV.c (CV.f (FV.i IntKind.i64 x2))), AV.und, AV.und, AV.und, AV.und,
      AV.r (RV.c (CV.fs x3 8 [Col.i IntKind.i64 x4, Col.i IntKind.i64 x5, Col.i IntKind.i64 x6, Col.u, Col.i IntKind.i64 x7, Col.i IntKind.i64 x8, Col.b x9, Col.b x10])), AV.und, AV.und, AV.und, AV.und,
      AV.und, AV.und, AV.und, AV.und, AV.und, AV.und, AV.und, AV.und, AV.und, AV.und, AV.und, AV.und, AV.und, AV.und, AV.und, AV.und, AV.und, AV.und, AV.und, AV.und, AV.und, AV.und, AV.und, AV.und,
      AV.und, AV.und, AV.und, AV.und, AV.und, AV.und, AV.und, AV.und, AV.und, AV.und, AV.und, AV.und, AV.und, AV.und, AV.und, AV.und, AV.und, AV.und, AV.und, AV.und, AV.und, AV.und, AV.und, AV.und,
      AV.und, AV.und, AV.und, AV.und, AV.und, AV.und, AV.und, AV.und, AV.und, AV.und, AV.und, AV.und, AV.und, AV.und, AV.und, AV.und, AV.und, AV.und, AV.und, AV.und, AV.und, AV.und, AV.und, AV.und,
      AV.und, AV.und, AV.und, AV.und, AV.und, AV.und, AV.und, AV.und, AV.und, AV.und, AV.und, AV.und, AV.und, AV.und, AV.und, AV.und, AV.und, AV.und, AV.und, AV.und, AV.und, AV.und, AV.und, AV.und,
      AV.und, AV.und, AV.und, AV.und, AV.und, AV.und, AV.und, AV.und, AV.und, AV.und, AV.und, AV.und, AV.und, AV.und, AV.und, AV.und, AV.und, AV.und, AV.und, AV.und, AV.tup [], AV.tup [], AV.tup [],
      AV.tup [], AV.tup [], AV.und]
    [some [Sg.a (Sz.l 6) [Col.i IntKind.i64 x11, Col.i IntKind.i64 x12, Col.b x13, Col.i IntKind.i64 x14, Col.i IntKind.i64 x15, Col.i IntKind.i64 x16], Sg.c (CV.f (FV.i IntKind.i64 x17))],
      some [Sg.a (Sz.l 6) [Col.i IntKind.i64 x18, Col.i IntKind.i64 x19, Col.b x20, Col.i IntKind.i64 x21, Col.i IntKind.i64 x22, Col.i IntKind.i64 x23], Sg.c (CV.f (FV.i IntKind.i64 x24))]]
    []) = L_astrolabelaw24_HealthApart_1 (x0, x1, x2, x3, x4, x5, x6, x7, x8, x9, x10, x11, x12, x13, x14, x15, x16, x17, x18, x19, x20, x21, x22, x23, x24) (Sum.elim (fun d => K (AX.ret) (St.mk
  [AV.und, AV.und, AV.und, AV.und, AV.und, AV.und, AV.r (RV.c (CV.f (FV.b false))), AV.und, AV.und, AV.und, AV.und, AV.und, AV.und, AV.und, AV.und, AV.und, AV.und, AV.und, AV.und, AV.und, AV.und,
    AV.und, AV.und, AV.und, AV.und, AV.und, AV.und, AV.und, AV.und, AV.und, AV.und, AV.und, AV.und, AV.und, AV.und, AV.und, AV.und, AV.und, AV.und, AV.und, AV.und, AV.und, AV.und, AV.und, AV.und,
    AV.und, AV.und, AV.und, AV.und, AV.und, AV.und, AV.und, AV.und, AV.und, AV.und, AV.und, AV.und, AV.und, AV.und, AV.und, AV.und, AV.und, AV.und, AV.und, AV.und, AV.und, AV.und, AV.und, AV.und,
    AV.und, AV.und, AV.und, AV.und, AV.und, AV.und, AV.und, AV.und, AV.und, AV.und, AV.und, AV.und, AV.und, AV.und, AV.und, AV.und, AV.und, AV.und, AV.und, AV.und, AV.und, AV.und, AV.und, AV.und,
    AV.und, AV.und, AV.und, AV.und, AV.und, AV.und, AV.und, AV.und, AV.und, AV.und, AV.und, AV.und, AV.und, AV.und, AV.und, AV.und, AV.und, AV.und, AV.und, AV.und, AV.und, AV.und, AV.und, AV.und,
    AV.und, AV.und, AV.und, AV.und, AV.und, AV.und, AV.und, AV.und, AV.und, AV.und, AV.und, AV.und, AV.und, AV.und, AV.und, AV.und, AV.und, AV.und, AV.und, AV.und, AV.und, AV.und, AV.und, AV.und,
    AV.und, AV.und, AV.und, AV.und]
  [] [])) (fun d => K (AX.ex 2) (St.mk
  [AV.und, AV.r (RV.c (CV.f (FV.i IntKind.i64 d.1))), AV.r (RV.c (CV.f (FV.i IntKind.i64 d.2.1))), AV.und, AV.und, AV.tup [], AV.r (RV.c (CV.f (FV.b false))),
    AV.r (RV.c (CV.ptr 0 (Off.k 0) 37)), AV.und, AV.r (RV.c (CV.ptr 1 (Off.k 0) 37)), AV.r (RV.c (CV.f (FV.i IntKind.i64 0))), AV.und, AV.und, AV.r (RV.c (CV.f (FV.i IntKind.i64 d.2.2.1))),
    AV.und, AV.und, AV.und, AV.und,
    AV.r
      (RV.c
        (CV.fs d.2.2.2.1 8
          [Col.i IntKind.i64 d.2.2.2.2.1, Col.i IntKind.i64 d.2.2.2.2.2.1, Col.i IntKind.i64 d.2.2.2.2.2.2.1, Col.u,
            Col.i IntKind.i64 d.2.2.2.2.2.2.2.1, Col.i IntKind.i64 d.2.2.2.2.2.2.2.2.1, Col.b d.2.2.2.2.2.2.2.2.2.1,
            Col.b d.2.2.2.2.2.2.2.2.2.2.1])),
    AV.und, AV.und, AV.und, AV.und, AV.und, AV.und, AV.und, AV.und, AV.und, AV.und, AV.und, AV.und, AV.und, AV.und, AV.und, AV.und, AV.und, AV.und, AV.und, AV.und, AV.und, AV.und, AV.und, AV.und,
    AV.und, AV.und, AV.und, AV.und, AV.und, AV.und, AV.und, AV.und, AV.und, AV.und, AV.und, AV.und, AV.und, AV.und, AV.und, AV.und, AV.und, AV.und, AV.und, AV.und, AV.und, AV.und, AV.und, AV.und,
    AV.und, AV.und, AV.und, AV.und, AV.und, AV.und, AV.und, AV.und, AV.und, AV.und, AV.und, AV.und, AV.und, AV.und, AV.und, AV.und, AV.und, AV.und, AV.und, AV.und, AV.und, AV.und, AV.und, AV.und,
    AV.und, AV.r (RV.c (CV.f (FV.i IntKind.i64 d.2.2.1))), AV.r (RV.c (CV.f (FV.b d.2.2.2.2.2.2.2.2.2.2.2.1))), AV.und, AV.und, AV.und, AV.und, AV.und, AV.und, AV.und,
    AV.und, AV.und, AV.und, AV.und, AV.und, AV.und, AV.und, AV.und, AV.und, AV.und, AV.und, AV.und, AV.und, AV.und, AV.und, AV.und, AV.und, AV.und, AV.und, AV.und, AV.und, AV.und, AV.und, AV.und,
    AV.und, AV.und, AV.und, AV.und, AV.und, AV.und, AV.und, AV.und, AV.und, AV.und, AV.und, AV.und, AV.und, AV.und, AV.tup [], AV.tup [], AV.tup [], AV.tup [], AV.tup [], AV.und]
  [some
      [Sg.a (Sz.l 6)
          [Col.i IntKind.i64 d.2.2.2.2.2.2.2.2.2.2.2.2.1, Col.i IntKind.i64 d.2.2.2.2.2.2.2.2.2.2.2.2.2.1,
            Col.b d.2.2.2.2.2.2.2.2.2.2.2.2.2.2.1, Col.i IntKind.i64 d.2.2.2.2.2.2.2.2.2.2.2.2.2.2.2.1,
            Col.i IntKind.i64 d.2.2.2.2.2.2.2.2.2.2.2.2.2.2.2.2.1, Col.i IntKind.i64 d.2.2.2.2.2.2.2.2.2.2.2.2.2.2.2.2.2.1],
        Sg.c (CV.f (FV.i IntKind.i64 d.2.2.2.2.2.2.2.2.2.2.2.2.2.2.2.2.2.2.1))],
    some
      [Sg.a (Sz.l 6)
          [Col.i IntKind.i64 d.2.2.2.2.2.2.2.2.2.2.2.2.2.2.2.2.2.2.2.1,
            Col.i IntKind.i64 d.2.2.2.2.2.2.2.2.2.2.2.2.2.2.2.2.2.2.2.2.1,
            Col.b d.2.2.2.2.2.2.2.2.2.2.2.2.2.2.2.2.2.2.2.2.2.1,
            Col.i IntKind.i64 d.2.2.2.2.2.2.2.2.2.2.2.2.2.2.2.2.2.2.2.2.2.2.1,
            Col.i IntKind.i64 d.2.2.2.2.2.2.2.2.2.2.2.2.2.2.2.2.2.2.2.2.2.2.2.1,
            Col.i IntKind.i64 d.2.2.2.2.2.2.2.2.2.2.2.2.2.2.2.2.2.2.2.2.2.2.2.2.1],
        Sg.c (CV.f (FV.i IntKind.i64 d.2.2.2.2.2.2.2.2.2.2.2.2.2.2.2.2.2.2.2.2.2.2.2.2.2))]]
  []))) :=
  iter_loopX (emb := fun (d : Int ×
  Int ×
    Int ×
      Nat ×
        (Nat → Int) ×
          (Nat → Int) ×
            (Nat → Int) ×
              (Nat → Int) ×
                (Nat → Int) ×
                  (Nat → Bool) ×
                    (Nat → Bool) ×
                      (Nat → Int) ×
                        (Nat → Int) × (Nat → Bool) × (Nat → Int) × (Nat → Int) × (Nat → Int) × Int × (Nat → Int) × (Nat → Int) × (Nat → Bool) × (Nat → Int) × (Nat → Int) × (Nat → Int) × Int) => St.mk
  [AV.und, AV.r (RV.c (CV.f (FV.i IntKind.i64 d.1))), AV.r (RV.c (CV.f (FV.i IntKind.i64 d.2.1))), AV.und, AV.und, AV.tup [], AV.r (RV.c (CV.f (FV.b false))),
    AV.r (RV.c (CV.ptr 0 (Off.k 0) 37)), AV.und, AV.r (RV.c (CV.ptr 1 (Off.k 0) 37)), AV.r (RV.c (CV.f (FV.i IntKind.i64 0))), AV.und, AV.und, AV.r (RV.c (CV.f (FV.i IntKind.i64 d.2.2.1))),
    AV.und, AV.und, AV.und, AV.und,
    AV.r
      (RV.c
        (CV.fs d.2.2.2.1 8
          [Col.i IntKind.i64 d.2.2.2.2.1, Col.i IntKind.i64 d.2.2.2.2.2.1, Col.i IntKind.i64 d.2.2.2.2.2.2.1, Col.u,
            Col.i IntKind.i64 d.2.2.2.2.2.2.2.1, Col.i IntKind.i64 d.2.2.2.2.2.2.2.2.1, Col.b d.2.2.2.2.2.2.2.2.2.1,
            Col.b d.2.2.2.2.2.2.2.2.2.2.1])),
    AV.und, AV.und, AV.und, AV.und, AV.und, AV.und, AV.und, AV.und, AV.und, AV.und, AV.und, AV.und, AV.und, AV.und, AV.und, AV.und, AV.und, AV.und, AV.und, AV.und, AV.und, AV.und, AV.und, AV.und,
    AV.und, AV.und, AV.und, AV.und, AV.und, AV.und, AV.und, AV.und, AV.und, AV.und, AV.und, AV.und, AV.und, AV.und, AV.und, AV.und, AV.und, AV.und, AV.und, AV.und, AV.und, AV.und, AV.und, AV.und,
    AV.und, AV.und, AV.und, AV.und, AV.und, AV.und, AV.und, AV.und, AV.und, AV.und, AV.und, AV.und, AV.und, AV.und, AV.und, AV.und, AV.und, AV.und, AV.und, AV.und, AV.und, AV.und, AV.und, AV.und,
    AV.und, AV.und, AV.und, AV.und, AV.und, AV.und, AV.und, AV.und, AV.und, AV.und, AV.und, AV.und, AV.und, AV.und, AV.und, AV.und, AV.und, AV.und, AV.und, AV.und, AV.und, AV.und, AV.und, AV.und,
    AV.und, AV.und, AV.und, AV.und, AV.und, AV.und, AV.und, AV.und, AV.und, AV.und, AV.und, AV.und, AV.und, AV.und, AV.und, AV.und, AV.und, AV.und, AV.und, AV.und, AV.und, AV.und, AV.und, AV.und,
    AV.tup [], AV.tup [], AV.tup [], AV.tup [], AV.tup [], AV.und]
  [some
      [Sg.a (Sz.l 6)
          [Col.i IntKind.i64 d.2.2.2.2.2.2.2.2.2.2.2.1, Col.i IntKind.i64 d.2.2.2.2.2.2.2.2.2.2.2.2.1,
            Col.b d.2.2.2.2.2.2.2.2.2.2.2.2.2.1, Col.i IntKind.i64 d.2.2.2.2.2.2.2.2.2.2.2.2.2.2.1,
            Col.i IntKind.i64 d.2.2.2.2.2.2.2.2.2.2.2.2.2.2.2.1, Col.i IntKind.i64 d.2.2.2.2.2.2.2.2.2.2.2.2.2.2.2.2.1],
        Sg.c (CV.f (FV.i IntKind.i64 d.2.2.2.2.2.2.2.2.2.2.2.2.2.2.2.2.2.1))],
    some
      [Sg.a (Sz.l 6)
          [Col.i IntKind.i64 d.2.2.2.2.2.2.2.2.2.2.2.2.2.2.2.2.2.2.1,
            Col.i IntKind.i64 d.2.2.2.2.2.2.2.2.2.2.2.2.2.2.2.2.2.2.2.1,
            Col.b d.2.2.2.2.2.2.2.2.2.2.2.2.2.2.2.2.2.2.2.2.1,
            Col.i IntKind.i64 d.2.2.2.2.2.2.2.2.2.2.2.2.2.2.2.2.2.2.2.2.2.1,
            Col.i IntKind.i64 d.2.2.2.2.2.2.2.2.2.2.2.2.2.2.2.2.2.2.2.2.2.2.1,
            Col.i IntKind.i64 d.2.2.2.2.2.2.2.2.2.2.2.2.2.2.2.2.2.2.2.2.2.2.2.1],
        Sg.c (CV.f (FV.i IntKind.i64 d.2.2.2.2.2.2.2.2.2.2.2.2.2.2.2.2.2.2.2.2.2.2.2.2))]]
  []) (step := fun d c x => S_astrolabelaw24_HealthApart_1 f_astrolabelaw24_awake f_health_New f___health_Monitor__Result f___health_Monitor__Sensor f___health_Monitor__Usable f___health_Monitor__Bad  d.1 d.2.1 d.2.2.1 d.2.2.2.1 d.2.2.2.2.1 d.2.2.2.2.2.1 d.2.2.2.2.2.2.1 d.2.2.2.2.2.2.2.1 d.2.2.2.2.2.2.2.2.1 d.2.2.2.2.2.2.2.2.2.1 d.2.2.2.2.2.2.2.2.2.2.1 d.2.2.2.2.2.2.2.2.2.2.2.1 d.2.2.2.2.2.2.2.2.2.2.2.2.1 d.2.2.2.2.2.2.2.2.2.2.2.2.2.1 d.2.2.2.2.2.2.2.2.2.2.2.2.2.2.1 d.2.2.2.2.2.2.2.2.2.2.2.2.2.2.2.1 d.2.2.2.2.2.2.2.2.2.2.2.2.2.2.2.2.1 d.2.2.2.2.2.2.2.2.2.2.2.2.2.2.2.2.2.1 d.2.2.2.2.2.2.2.2.2.2.2.2.2.2.2.2.2.2.1 d.2.2.2.2.2.2.2.2.2.2.2.2.2.2.2.2.2.2.2.1 d.2.2.2.2.2.2.2.2.2.2.2.2.2.2.2.2.2.2.2.2.1 d.2.2.2.2.2.2.2.2.2.2.2.2.2.2.2.2.2.2.2.2.2.1 d.2.2.2.2.2.2.2.2.2.2.2.2.2.2.2.2.2.2.2.2.2.2.1 d.2.2.2.2.2.2.2.2.2.2.2.2.2.2.2.2.2.2.2.2.2.2.2.1 d.2.2.2.2.2.2.2.2.2.2.2.2.2.2.2.2.2.2.2.2.2.2.2.2 c x) (kx := (Sum.elim (fun d => K (AX.ret) (St.mk
  [AV.und, AV.und, AV.und, AV.und, AV.und, AV.und, AV.r (RV.c (CV.f (FV.b false))), AV.und, AV.und, AV.und, AV.und, AV.und, AV.und, AV.und, AV.und, AV.und, AV.und, AV.und, AV.und, AV.und, AV.und,
    AV.und, AV.und, AV.und, AV.und, AV.und, AV.und, AV.und, AV.und, AV.und, AV.und, AV.und, AV.und, AV.und, AV.und, AV.und, AV.und, AV.und, AV.und, AV.und, AV.und, AV.und, AV.und, AV.und, AV.und,
    AV.und, AV.und, AV.und, AV.und, AV.und, AV.und, AV.und, AV.und, AV.und, AV.und, AV.und, AV.und, AV.und, AV.und, AV.und, AV.und, AV.und, AV.und, AV.und, AV.und, AV.und, AV.und, AV.und, AV.und,
    AV.und, AV.und, AV.und, AV.und, AV.und, AV.und, AV.und, AV.und, AV.und, AV.und, AV.und, AV.und, AV.und, AV.und, AV.und, AV.und, AV.und, AV.und, AV.und, AV.und, AV.und, AV.und, AV.und, AV.und,
    AV.und, AV.und, AV.und, AV.und, AV.und, AV.und, AV.und, AV.und, AV.und, AV.und, AV.und, AV.und, AV.und, AV.und, AV.und, AV.und, AV.und, AV.und, AV.und, AV.und, AV.und, AV.und, AV.und, AV.und,
    AV.und, AV.und, AV.und, AV.und, AV.und, AV.und, AV.und, AV.und, AV.und, AV.und, AV.und, AV.und, AV.und, AV.und, AV.und, AV.und, AV.und, AV.und, AV.und, AV.und, AV.und, AV.und, AV.und, AV.und,
    AV.und, AV.und, AV.und, AV.und]
  [] [])) (fun d => K (AX.ex 2) (St.mk
  [AV.und, AV.r (RV.c (CV.f (FV.i IntKind.i64 d.1))), AV.r (RV.c (CV.f (FV.i IntKind.i64 d.2.1))), AV.und, AV.und, AV.tup [], AV.r (RV.c (CV.f (FV.b false))),
    AV.r (RV.c (CV.ptr 0 (Off.k 0) 37)), AV.und, AV.r (RV.c (CV.ptr 1 (Off.k 0) 37)), AV.r (RV.c (CV.f (FV.i IntKind.i64 0))), AV.und, AV.und, AV.r (RV.c (CV.f (FV.i IntKind.i64 d.2.2.1))),
    AV.und, AV.und, AV.und, AV.und,
    AV.r
      (RV.c
        (CV.fs d.2.2.2.1 8
          [Col.i IntKind.i64 d.2.2.2.2.1, Col.i IntKind.i64 d.2.2.2.2.2.1, Col.i IntKind.i64 d.2.2.2.2.2.2.1, Col.u,
            Col.i IntKind.i64 d.2.2.2.2.2.2.2.1, Col.i IntKind.i64 d.2.2.2.2.2.2.2.2.1, Col.b d.2.2.2.2.2.2.2.2.2.1,
            Col.b d.2.2.2.2.2.2.2.2.2.2.1])),
    AV.und, AV.und, AV.und, AV.und, AV.und, AV.und, AV.und, AV.und, AV.und, AV.und, AV.und, AV.und, AV.und, AV.und, AV.und, AV.und, AV.und, AV.und, AV.und, AV.und, AV.und, AV.und, AV.und, AV.und,
    AV.und, AV.und, AV.und, AV.und, AV.und, AV.und, AV.und, AV.und, AV.und, AV.und, AV.und, AV.und, AV.und, AV.und, AV.und, AV.und, AV.und, AV.und, AV.und, AV.und, AV.und, AV.und, AV.und, AV.und,
    AV.und, AV.und, AV.und, AV.und, AV.und, AV.und, AV.und, AV.und, AV.und, AV.und, AV.und, AV.und, AV.und, AV.und, AV.und, AV.und, AV.und, AV.und, AV.und, AV.und, AV.und, AV.und, AV.und, AV.und,
    AV.und, AV.r (RV.c (CV.f (FV.i IntKind.i64 d.2.2.1))), AV.r (RV.c (CV.f (FV.b d.2.2.2.2.2.2.2.2.2.2.2.1))), AV.und, AV.und, AV.und, AV.und, AV.und, AV.und, AV.und,
    AV.und, AV.und, AV.und, AV.und, AV.und, AV.und, AV.und, AV.und, AV.und, AV.und, AV.und, AV.und, AV.und, AV.und, AV.und, AV.und, AV.und, AV.und, AV.und, AV.und, AV.und, AV.und, AV.und, AV.und,
    AV.und, AV.und, AV.und, AV.und, AV.und, AV.und, AV.und, AV.und, AV.und, AV.und, AV.und, AV.und, AV.und, AV.und, AV.tup [], AV.tup [], AV.tup [], AV.tup [], AV.tup [], AV.und]
  [some
      [Sg.a (Sz.l 6)
          [Col.i IntKind.i64 d.2.2.2.2.2.2.2.2.2.2.2.2.1, Col.i IntKind.i64 d.2.2.2.2.2.2.2.2.2.2.2.2.2.1,
            Col.b d.2.2.2.2.2.2.2.2.2.2.2.2.2.2.1, Col.i IntKind.i64 d.2.2.2.2.2.2.2.2.2.2.2.2.2.2.2.1,
            Col.i IntKind.i64 d.2.2.2.2.2.2.2.2.2.2.2.2.2.2.2.2.1, Col.i IntKind.i64 d.2.2.2.2.2.2.2.2.2.2.2.2.2.2.2.2.2.1],
        Sg.c (CV.f (FV.i IntKind.i64 d.2.2.2.2.2.2.2.2.2.2.2.2.2.2.2.2.2.2.1))],
    some
      [Sg.a (Sz.l 6)
          [Col.i IntKind.i64 d.2.2.2.2.2.2.2.2.2.2.2.2.2.2.2.2.2.2.2.1,
            Col.i IntKind.i64 d.2.2.2.2.2.2.2.2.2.2.2.2.2.2.2.2.2.2.2.2.1,
            Col.b d.2.2.2.2.2.2.2.2.2.2.2.2.2.2.2.2.2.2.2.2.2.1,
            Col.i IntKind.i64 d.2.2.2.2.2.2.2.2.2.2.2.2.2.2.2.2.2.2.2.2.2.2.1,
            Col.i IntKind.i64 d.2.2.2.2.2.2.2.2.2.2.2.2.2.2.2.2.2.2.2.2.2.2.2.1,
            Col.i IntKind.i64 d.2.2.2.2.2.2.2.2.2.2.2.2.2.2.2.2.2.2.2.2.2.2.2.2.1],
        Sg.c (CV.f (FV.i IntKind.i64 d.2.2.2.2.2.2.2.2.2.2.2.2.2.2.2.2.2.2.2.2.2.2.2.2.2))]]
  []))))
    (fun d c => ds_astrolabelaw24_HealthApart_1 f_astrolabelaw24_awake f_health_New f___health_Monitor__Result f___health_Monitor__Sensor f___health_Monitor__Usable f___health_Monitor__Bad (@L_astrolabelaw24_HealthApart_0) (@L_astrolabelaw24_HealthApart_1) d.1 d.2.1 d.2.2.1 d.2.2.2.1 d.2.2.2.2.1 d.2.2.2.2.2.1 d.2.2.2.2.2.2.1 d.2.2.2.2.2.2.2.1 d.2.2.2.2.2.2.2.2.1 d.2.2.2.2.2.2.2.2.2.1 d.2.2.2.2.2.2.2.2.2.2.1 d.2.2.2.2.2.2.2.2.2.2.2.1 d.2.2.2.2.2.2.2.2.2.2.2.2.1 d.2.2.2.2.2.2.2.2.2.2.2.2.2.1 d.2.2.2.2.2.2.2.2.2.2.2.2.2.2.1 d.2.2.2.2.2.2.2.2.2.2.2.2.2.2.2.1 d.2.2.2.2.2.2.2.2.2.2.2.2.2.2.2.2.1 d.2.2.2.2.2.2.2.2.2.2.2.2.2.2.2.2.2.1 d.2.2.2.2.2.2.2.2.2.2.2.2.2.2.2.2.2.2.1 d.2.2.2.2.2.2.2.2.2.2.2.2.2.2.2.2.2.2.2.1 d.2.2.2.2.2.2.2.2.2.2.2.2.2.2.2.2.2.2.2.2.1 d.2.2.2.2.2.2.2.2.2.2.2.2.2.2.2.2.2.2.2.2.2.1 d.2.2.2.2.2.2.2.2.2.2.2.2.2.2.2.2.2.2.2.2.2.2.1 d.2.2.2.2.2.2.2.2.2.2.2.2.2.2.2.2.2.2.2.2.2.2.2.1 d.2.2.2.2.2.2.2.2.2.2.2.2.2.2.2.2.2.2.2.2.2.2.2.2 c K) 200 (x0, x1, x2, x3, x4, x5, x6, x7, x8, x9, x10, x11, x12, x13, x14, x15, x16, x17, x18, x19, x20, x21, x22, x23, x24)
theorem so_astrolabelaw24_HealthApart_1 [Amb] : ∀ kk, SumOK Try.prog (envOf [(15, F_astrolabelaw24_awake f_astrolabelaw24_awake), (16, F_health_New f_health_New), (21, F___health_Monitor__Result f___health_Monitor__Result), (17, F___health_Monitor__Sensor f___health_Monitor__Sensor), (18, F___health_Monitor__Usable f___health_Monitor__Usable), (20, F___health_Monitor__Bad f___health_Monitor__Bad)]) ⟨[⟨10, [3, 4, 8, 12, 13, 14, 15, 16, 17, 19, 20, 21, 22, 23, 24, 25, 26, 27, 28, 29, 30, 31, 32, 33, 34, 35, 36, 37, 38, 39, 40, 41, 42, 43, 44, 45, 46, 47, 48, 49, 50, 51, 52, 53, 54, 55, 56, 57, 58, 59, 60, 61, 62, 63, 64, 65, 66, 67, 68, 69, 70, 71, 72, 73, 74, 75, 76, 77, 78, 79, 80, 81, 82, 83, 84, 85, 86, 87, 88, 89, 90, 91, 92, 93, 94, 95, 96, 97, 98, 99, 100, 101, 102, 103, 104, 107, 108, 132, 133, 134, 135, 136, 137, 138, 144], []⟩, ⟨17, [0, 3, 4, 8, 11, 12, 14, 15, 16, 17, 19, 20, 21, 22, 23, 24, 25, 26, 27, 28, 29, 30, 31, 32, 33, 34, 35, 36, 37, 38, 39, 40, 41, 42, 43, 44, 45, 46, 47, 48, 49, 50, 51, 52, 53, 54, 55, 56, 57, 58, 59, 60, 61, 62, 63, 64, 65, 66, 67, 68, 69, 70, 71, 72, 73, 74, 75, 76, 77, 78, 79, 80, 81, 82, 83, 84, 85, 86, 87, 88, 89, 90, 91, 92, 93, 94, 95, 96, 97, 98, 99, 100, 101, 102, 103, 104, 107, 108, 132, 133, 134, 135, 136, 137, 138, 144, 105, 106, 109, 110, 111, 112, 113, 114, 115, 116, 117, 118, 119, 120, 121, 122, 123, 124, 125, 126, 127, 128, 129, 130, 131], []⟩], [⟨10, 0, @R_astrolabelaw24_HealthApart_0 (@L_astrolabelaw24_HealthApart_0)⟩, ⟨17, 0, @R_astrolabelaw24_HealthApart_1 (@L_astrolabelaw24_HealthApart_1)⟩], [], [], (some ⟨0, [0, 1, 2, 3, 4, 5, 7, 8, 9, 10, 11, 12, 13, 14, 15, 16, 17, 18, 19, 20, 21, 22, 23, 24, 25, 26, 27, 28, 29, 30, 31, 32, 33, 34, 35, 36, 37, 38, 39, 40, 41, 42, 43, 44, 45, 46, 47, 48, 49, 50, 51, 52, 53, 54, 55, 56, 57, 58, 59, 60, 61, 62, 63, 64, 65, 66, 67, 68, 69, 70, 71, 72, 73, 74, 75, 76, 77, 78, 79, 80, 81, 82, 83, 84, 85, 86, 87, 88, 89, 90, 91, 92, 93, 94, 95, 96, 97, 98, 99, 100, 101, 102, 103, 104, 105, 106, 107, 108, 109, 110, 111, 112, 113, 114, 115, 116, 117, 118, 119, 120, 121, 122, 123, 124, 125, 126, 127, 128, 129, 130, 131, 132, 133, 134, 135, 136, 137, 138, 139, 140, 141, 142, 143, 144], []⟩)⟩ (tmpsOf Try.prog 6) kk 200 (loopIn Try.prog 6 17) :=
  SumOK.of (id := 17) (k0 := 0) (run := @R_astrolabelaw24_HealthApart_1 (@L_astrolabelaw24_HealthApart_1)) (by kernel_rfl) fun s K r hr => by
    unfold R_astrolabelaw24_HealthApart_1 at hr
    obtain ⟨b, hb, hr1⟩ := Option.bind_eq_some_iff.1 hr
    have e := ((Q_astrolabelaw24_HealthApart_1).ok s b hb).trans (q_astrolabelaw24_HealthApart_1 b)
    subst e
    exact ⟨200, (it_astrolabelaw24_HealthApart_1 b.1.2.1 b.1.2.2.1 b.1.2.2.2.2.2.2.2.2.2.2.2.2.2.1 b.1.2.2.2.2.2.2.2.2.2.2.2.2.2.2.2.2.2.2.1.1 b.1.2.2.2.2.2.2.2.2.2.2.2.2.2.2.2.2.2.2.1.2.2.1 b.1.2.2.2.2.2.2.2.2.2.2.2.2.2.2.2.2.2.2.1.2.2.2.1 b.1.2.2.2.2.2.2.2.2.2.2.2.2.2.2.2.2.2.2.1.2.2.2.2.1 b.1.2.2.2.2.2.2.2.2.2.2.2.2.2.2.2.2.2.2.1.2.2.2.2.2.2.1 b.1.2.2.2.2.2.2.2.2.2.2.2.2.2.2.2.2.2.2.1.2.2.2.2.2.2.2.1 b.1.2.2.2.2.2.2.2.2.2.2.2.2.2.2.2.2.2.2.1.2.2.2.2.2.2.2.2.1 b.1.2.2.2.2.2.2.2.2.2.2.2.2.2.2.2.2.2.2.1.2.2.2.2.2.2.2.2.2.1 b.2.1.1.1.2.1 b.2.1.1.1.2.2.1 b.2.1.1.1.2.2.2.1 b.2.1.1.1.2.2.2.2.1 b.2.1.1.1.2.2.2.2.2.1 b.2.1.1.1.2.2.2.2.2.2.1 b.2.1.1.2.1 b.2.1.2.1.1.2.1 b.2.1.2.1.1.2.2.1 b.2.1.2.1.1.2.2.2.1 b.2.1.2.1.1.2.2.2.2.1 b.2.1.2.1.1.2.2.2.2.2.1 b.2.1.2.1.1.2.2.2.2.2.2.1 b.2.1.2.1.2.1 K).trans hr1⟩
def K_astrolabelaw24_HealthApart {ρ : Type} (g_astrolabelaw24_awake : Option Bool) (g_health_New : Int → Nat → (Nat → Int) → Bool → Option (Unit ⊕ (Nat → Int) × (Nat → Int) × (Nat → Bool) × (Nat → Int) × (Nat → Int) × (Nat → Int))) (g___health_Monitor__Result : Int →
  Int →
    Nat →
      (Nat → Int) →
        (Nat → Int) →
          (Nat → Bool) →
            (Nat → Int) →
              (Nat → Int) → (Nat → Int) → Int → (Nat → Bool) → (Nat → Int) → (Nat → Int) → Bool → Option ((Nat → Int) × (Nat → Int) × (Nat → Bool) × (Nat → Int) × (Nat → Int) × (Nat → Int) × Int)) (g___health_Monitor__Sensor : Int → (Nat → Int) → (Nat → Int) → (Nat → Bool) → (Nat → Int) → (Nat → Int) → (Nat → Int) → Int → Option (Int × Int × Bool × Int × Int × Int)) (g___health_Monitor__Usable : Int → Int → (Nat → Int) → (Nat → Int) → (Nat → Bool) → (Nat → Int) → (Nat → Int) → (Nat → Int) → Int → Option Bool) (g___health_Monitor__Bad : (Nat → Int) → (Nat → Int) → (Nat → Bool) → (Nat → Int) → (Nat → Int) → (Nat → Int) → Int → Option Bool) (l_0 : ∀ {ρ : Type}, (Nat ×
  (Nat → Int) ×
    (Nat → Int) ×
      (Nat → Int) ×
        (Nat → Int) ×
          (Nat → Int) ×
            (Nat → Bool) ×
              (Nat → Bool) ×
                Int ×
                  Int ×
                    Int ×
                      Nat ×
                        (Nat → Int) ×
                          (Nat → Int) ×
                            (Nat → Int) ×
                              (Nat → Int) ×
                                (Nat → Int) ×
                                  (Nat → Bool) ×
                                    (Nat → Bool) ×
                                      (Nat → Int) ×
                                        (Nat → Int) ×
                                          (Nat → Bool) × (Nat → Int) × (Nat → Int) × (Nat → Int) × Int × (Nat → Int) × (Nat → Int) × (Nat → Bool) × (Nat → Int) × (Nat → Int) × (Nat → Int) × Int) → ((Nat ×
  (Nat → Int) ×
    (Nat → Int) ×
      (Nat → Int) ×
        (Nat → Int) ×
          (Nat → Int) ×
            (Nat → Bool) ×
              (Nat → Bool) ×
                Int ×
                  Int ×
                    Int ×
                      Nat ×
                        (Nat → Int) ×
                          (Nat → Int) ×
                            (Nat → Int) ×
                              (Nat → Int) ×
                                (Nat → Int) ×
                                  (Nat → Bool) ×
                                    (Nat → Bool) ×
                                      Int ×
                                        Bool ×
                                          (Nat → Int) ×
                                            (Nat → Int) ×
                                              (Nat → Bool) × (Nat → Int) × (Nat → Int) × (Nat → Int) × Int × (Nat → Int) × (Nat → Int) × (Nat → Bool) × (Nat → Int) × (Nat → Int) × (Nat → Int) × Int) → Option ρ) → Option ρ) (l_1 : ∀ {ρ : Type}, (Int ×
  Int ×
    Int ×
      Nat ×
        (Nat → Int) ×
          (Nat → Int) ×
            (Nat → Int) ×
              (Nat → Int) ×
                (Nat → Int) ×
                  (Nat → Bool) ×
                    (Nat → Bool) ×
                      (Nat → Int) ×
                        (Nat → Int) × (Nat → Bool) × (Nat → Int) × (Nat → Int) × (Nat → Int) × Int × (Nat → Int) × (Nat → Int) × (Nat → Bool) × (Nat → Int) × (Nat → Int) × (Nat → Int) × Int) → ((Unit ⊕
  Int ×
    Int ×
      Int ×
        Nat ×
          (Nat → Int) ×
            (Nat → Int) ×
              (Nat → Int) ×
                (Nat → Int) ×
                  (Nat → Int) ×
                    (Nat → Bool) ×
                      (Nat → Bool) ×
                        Bool ×
                          (Nat → Int) ×
                            (Nat → Int) × (Nat → Bool) × (Nat → Int) × (Nat → Int) × (Nat → Int) × Int × (Nat → Int) × (Nat → Int) × (Nat → Bool) × (Nat → Int) × (Nat → Int) × (Nat → Int) × Int) → Option ρ) → Option ρ) (x0 : Nat) (x1 : Nat → Int) (x2 : Nat → Int) (x3 : Nat → Int) (x4 : Nat → Int) (x5 : Nat → Int) (x6 : Nat → Bool) (x7 : Nat → Bool) (x8 : Int) (x9 : Int) (k : (Bool) → Option ρ) : Option ρ :=
  Option.bind g_astrolabelaw24_awake fun (d : Bool) =>
    bif !d then k false
    else
      bif decide (Int.ofNat x0 > 100) then k true
      else
        bif decide (x8 < 0) then k true
        else
          bif decide (x8 > 5) then k true
          else
            Option.bind
              (g_health_New 3 6
                (fun (j : Nat) =>
                  bif Nat.beq j 5 then 9 else bif Nat.beq j 4 then 9 else bif Nat.beq j 3 then 9 else bif Nat.beq j 2 then 9 else bif Nat.beq j 1 then 9 else bif Nat.beq j 0 then 9 else 9)
                true)
              fun (d : Unit ⊕ (Nat → Int) × (Nat → Int) × (Nat → Bool) × (Nat → Int) × (Nat → Int) × (Nat → Int)) =>
              bif
                  match d with
                  | Sum.inl val => true
                  | Sum.inr val => false then
                Option.bind
                  (match d with
                  | Sum.inl a => some a
                  | Sum.inr val => none)
                  fun (d : Unit) =>
                  Option.bind
                    (g_health_New 3 6
                      (fun (j : Nat) =>
                        bif Nat.beq j 5 then 9 else bif Nat.beq j 4 then 9 else bif Nat.beq j 3 then 9 else bif Nat.beq j 2 then 9 else bif Nat.beq j 1 then 9 else bif Nat.beq j 0 then 9 else 9)
                      true)
                    fun (d : Unit ⊕ (Nat → Int) × (Nat → Int) × (Nat → Bool) × (Nat → Int) × (Nat → Int) × (Nat → Int)) =>
                    bif
                        match d with
                        | Sum.inl val => true
                        | Sum.inr val => false then
                      Option.bind
                        (match d with
                        | Sum.inl a => some a
                        | Sum.inr val => none)
                        fun (d : Unit) => k false
                    else
                      Option.bind
                        (match d with
                        | Sum.inr b => some b
                        | Sum.inl val => none)
                        fun (d : (Nat → Int) × (Nat → Int) × (Nat → Bool) × (Nat → Int) × (Nat → Int) × (Nat → Int)) => k false
              else
                Option.bind
                  (match d with
                  | Sum.inr b => some b
                  | Sum.inl val => none)
                  fun (d : (Nat → Int) × (Nat → Int) × (Nat → Bool) × (Nat → Int) × (Nat → Int) × (Nat → Int)) =>
                  Option.bind
                    (g_health_New 3 6
                      (fun (j : Nat) =>
                        bif Nat.beq j 5 then 9 else bif Nat.beq j 4 then 9 else bif Nat.beq j 3 then 9 else bif Nat.beq j 2 then 9 else bif Nat.beq j 1 then 9 else bif Nat.beq j 0 then 9 else 9)
                      true)
                    fun (d_1 : Unit ⊕ (Nat → Int) × (Nat → Int) × (Nat → Bool) × (Nat → Int) × (Nat → Int) × (Nat → Int)) =>
                    bif
                        match d_1 with
                        | Sum.inl val => true
                        | Sum.inr val => false then
                      Option.bind
                        (match d_1 with
                        | Sum.inl a => some a
                        | Sum.inr val => none)
                        fun (d : Unit) => k false
                    else
                      Option.bind
                        (match d_1 with
                        | Sum.inr b => some b
                        | Sum.inl val => none)
                        fun (d_2 : (Nat → Int) × (Nat → Int) × (Nat → Bool) × (Nat → Int) × (Nat → Int) × (Nat → Int)) =>
                        l_0
                          (x0, x1, x2, x3, x4, x5, x6, x7, x8, x9, 0, x0, x1, x2, x3, x4, x5, x6, x7, d.1, d.2.1, d.2.2.1, d.2.2.2.1, d.2.2.2.2.1, d.2.2.2.2.2, 0, d_2.1,
                            d_2.2.1, d_2.2.2.1, d_2.2.2.2.1, d_2.2.2.2.2.1, d_2.2.2.2.2.2, 0)
                          fun
                            (d :
                              Nat ×
                                (Nat → Int) ×
                                  (Nat → Int) ×
                                    (Nat → Int) ×
                                      (Nat → Int) ×
                                        (Nat → Int) ×
                                          (Nat → Bool) ×
                                            (Nat → Bool) ×
                                              Int ×
                                                Int ×
                                                  Int ×
                                                    Nat ×
                                                      (Nat → Int) ×
                                                        (Nat → Int) ×
                                                          (Nat → Int) ×
                                                            (Nat → Int) ×
                                                              (Nat → Int) ×
                                                                (Nat → Bool) ×
                                                                  (Nat → Bool) ×
                                                                    Int ×
                                                                      Bool ×
                                                                        (Nat → Int) ×
                                                                          (Nat → Int) ×
                                                                            (Nat → Bool) ×
                                                                              (Nat → Int) ×
                                                                                (Nat → Int) ×
                                                                                  (Nat → Int) × Int × (Nat → Int) × (Nat → Int) × (Nat → Bool) × (Nat → Int) × (Nat → Int) × (Nat → Int) × Int) =>
                          l_1
                            (d.2.2.2.2.2.2.2.2.1, d.2.2.2.2.2.2.2.2.2.1, 0, d.2.2.2.2.2.2.2.2.2.2.2.1,
                              d.2.2.2.2.2.2.2.2.2.2.2.2.1, d.2.2.2.2.2.2.2.2.2.2.2.2.2.1, d.2.2.2.2.2.2.2.2.2.2.2.2.2.2.1,
                              d.2.2.2.2.2.2.2.2.2.2.2.2.2.2.2.1, d.2.2.2.2.2.2.2.2.2.2.2.2.2.2.2.2.1,
                              d.2.2.2.2.2.2.2.2.2.2.2.2.2.2.2.2.2.1, d.2.2.2.2.2.2.2.2.2.2.2.2.2.2.2.2.2.2.1,
                              d.2.2.2.2.2.2.2.2.2.2.2.2.2.2.2.2.2.2.2.2.2.1,
                              d.2.2.2.2.2.2.2.2.2.2.2.2.2.2.2.2.2.2.2.2.2.2.1,
                              d.2.2.2.2.2.2.2.2.2.2.2.2.2.2.2.2.2.2.2.2.2.2.2.1,
                              d.2.2.2.2.2.2.2.2.2.2.2.2.2.2.2.2.2.2.2.2.2.2.2.2.1,
                              d.2.2.2.2.2.2.2.2.2.2.2.2.2.2.2.2.2.2.2.2.2.2.2.2.2.1,
                              d.2.2.2.2.2.2.2.2.2.2.2.2.2.2.2.2.2.2.2.2.2.2.2.2.2.2.1,
                              d.2.2.2.2.2.2.2.2.2.2.2.2.2.2.2.2.2.2.2.2.2.2.2.2.2.2.2.1,
                              d.2.2.2.2.2.2.2.2.2.2.2.2.2.2.2.2.2.2.2.2.2.2.2.2.2.2.2.2.1,
                              d.2.2.2.2.2.2.2.2.2.2.2.2.2.2.2.2.2.2.2.2.2.2.2.2.2.2.2.2.2.1,
                              d.2.2.2.2.2.2.2.2.2.2.2.2.2.2.2.2.2.2.2.2.2.2.2.2.2.2.2.2.2.2.1,
                              d.2.2.2.2.2.2.2.2.2.2.2.2.2.2.2.2.2.2.2.2.2.2.2.2.2.2.2.2.2.2.2.1,
                              d.2.2.2.2.2.2.2.2.2.2.2.2.2.2.2.2.2.2.2.2.2.2.2.2.2.2.2.2.2.2.2.2.1,
                              d.2.2.2.2.2.2.2.2.2.2.2.2.2.2.2.2.2.2.2.2.2.2.2.2.2.2.2.2.2.2.2.2.2.1,
                              d.2.2.2.2.2.2.2.2.2.2.2.2.2.2.2.2.2.2.2.2.2.2.2.2.2.2.2.2.2.2.2.2.2.2)
                            (Sum.elim (fun (d : Unit) => k false)
                              fun
                                (d :
                                  Int ×
                                    Int ×
                                      Int ×
                                        Nat ×
                                          (Nat → Int) ×
                                            (Nat → Int) ×
                                              (Nat → Int) ×
                                                (Nat → Int) ×
                                                  (Nat → Int) ×
                                                    (Nat → Bool) ×
                                                      (Nat → Bool) ×
                                                        Bool ×
                                                          (Nat → Int) ×
                                                            (Nat → Int) ×
                                                              (Nat → Bool) ×
                                                                (Nat → Int) ×
                                                                  (Nat → Int) × (Nat → Int) × Int × (Nat → Int) × (Nat → Int) × (Nat → Bool) × (Nat → Int) × (Nat → Int) × (Nat → Int) × Int) =>
                              Option.bind
                                (g___health_Monitor__Usable d.1 d.2.1 d.2.2.2.2.2.2.2.2.2.2.2.2.2.2.2.2.2.2.2.1
                                  d.2.2.2.2.2.2.2.2.2.2.2.2.2.2.2.2.2.2.2.2.1
                                  d.2.2.2.2.2.2.2.2.2.2.2.2.2.2.2.2.2.2.2.2.2.1
                                  d.2.2.2.2.2.2.2.2.2.2.2.2.2.2.2.2.2.2.2.2.2.2.1
                                  d.2.2.2.2.2.2.2.2.2.2.2.2.2.2.2.2.2.2.2.2.2.2.2.1
                                  d.2.2.2.2.2.2.2.2.2.2.2.2.2.2.2.2.2.2.2.2.2.2.2.2.1
                                  d.2.2.2.2.2.2.2.2.2.2.2.2.2.2.2.2.2.2.2.2.2.2.2.2.2)
                                fun (d_3 : Bool) =>
                                bif !d_3 then
                                  Option.bind
                                    (g___health_Monitor__Bad d.2.2.2.2.2.2.2.2.2.2.2.2.1 d.2.2.2.2.2.2.2.2.2.2.2.2.2.1
                                      d.2.2.2.2.2.2.2.2.2.2.2.2.2.2.1 d.2.2.2.2.2.2.2.2.2.2.2.2.2.2.2.1
                                      d.2.2.2.2.2.2.2.2.2.2.2.2.2.2.2.2.1 d.2.2.2.2.2.2.2.2.2.2.2.2.2.2.2.2.2.1
                                      d.2.2.2.2.2.2.2.2.2.2.2.2.2.2.2.2.2.2.1)
                                    fun (d_4 : Bool) =>
                                    Option.bind
                                      (g___health_Monitor__Bad d.2.2.2.2.2.2.2.2.2.2.2.2.2.2.2.2.2.2.2.1
                                        d.2.2.2.2.2.2.2.2.2.2.2.2.2.2.2.2.2.2.2.2.1
                                        d.2.2.2.2.2.2.2.2.2.2.2.2.2.2.2.2.2.2.2.2.2.1
                                        d.2.2.2.2.2.2.2.2.2.2.2.2.2.2.2.2.2.2.2.2.2.2.1
                                        d.2.2.2.2.2.2.2.2.2.2.2.2.2.2.2.2.2.2.2.2.2.2.2.1
                                        d.2.2.2.2.2.2.2.2.2.2.2.2.2.2.2.2.2.2.2.2.2.2.2.2.1
                                        d.2.2.2.2.2.2.2.2.2.2.2.2.2.2.2.2.2.2.2.2.2.2.2.2.2)
                                      fun (d : Bool) => k (d_4 == d)
                                else k false)
def f_astrolabelaw24_HealthApart (x0 : Nat) (x1 : Nat → Int) (x2 : Nat → Int) (x3 : Nat → Int) (x4 : Nat → Int) (x5 : Nat → Int) (x6 : Nat → Bool) (x7 : Nat → Bool) (x8 : Int) (x9 : Int) : Option (Bool) := K_astrolabelaw24_HealthApart f_astrolabelaw24_awake f_health_New f___health_Monitor__Result f___health_Monitor__Sensor f___health_Monitor__Usable f___health_Monitor__Bad (@L_astrolabelaw24_HealthApart_0) (@L_astrolabelaw24_HealthApart_1) x0 x1 x2 x3 x4 x5 x6 x7 x8 x9 some
section
open Go.Ab.Rdr
def QA_astrolabelaw24_HealthApart := ((pair (cons (ar (rc (cfs hole (nat 8) (cons (ki .i64 hole) (cons (ki .i64 hole) (cons (ki .i64 hole) (cons ku (cons (ki .i64 hole) (cons (ki .i64 hole) (cons (kb hole) (cons (kb hole) nil))))))))))) (cons (ar (rc (cf (fi .i64 hole)))) (cons (ar (rc (cf (fi .i64 hole)))) nil))) nil) : Rdr (List AV × List Blk) _)
end
def F_astrolabelaw24_HealthApart (f : (Nat) → (Nat → Int) → (Nat → Int) → (Nat → Int) → (Nat → Int) → (Nat → Int) → (Nat → Bool) → (Nat → Bool) → (Int) → (Int) → Option (Bool)) : Sem1 := fun args h => match (QA_astrolabelaw24_HealthApart).rd (args, h) with
  | some b => .opt (f b.1.1.1 b.1.1.2.2.1 b.1.1.2.2.2.1 b.1.1.2.2.2.2.1 b.1.1.2.2.2.2.2.2.1 b.1.1.2.2.2.2.2.2.2.1 b.1.1.2.2.2.2.2.2.2.2.1 b.1.1.2.2.2.2.2.2.2.2.2.1 b.1.2.1 b.1.2.2.1) fun (d : Bool) => .leaf (Res.mk (AV.r (RV.c (CV.f (FV.b d)))) [] [])
  | none => .fail
theorem d_astrolabelaw24_HealthApart (g_astrolabelaw24_awake : Option Bool) (g_health_New : Int → Nat → (Nat → Int) → Bool → Option (Unit ⊕ (Nat → Int) × (Nat → Int) × (Nat → Bool) × (Nat → Int) × (Nat → Int) × (Nat → Int))) (g___health_Monitor__Result : Int →
  Int →
    Nat →
      (Nat → Int) →
        (Nat → Int) →
          (Nat → Bool) →
            (Nat → Int) →
              (Nat → Int) → (Nat → Int) → Int → (Nat → Bool) → (Nat → Int) → (Nat → Int) → Bool → Option ((Nat → Int) × (Nat → Int) × (Nat → Bool) × (Nat → Int) × (Nat → Int) × (Nat → Int) × Int)) (g___health_Monitor__Sensor : Int → (Nat → Int) → (Nat → Int) → (Nat → Bool) → (Nat → Int) → (Nat → Int) → (Nat → Int) → Int → Option (Int × Int × Bool × Int × Int × Int)) (g___health_Monitor__Usable : Int → Int → (Nat → Int) → (Nat → Int) → (Nat → Bool) → (Nat → Int) → (Nat → Int) → (Nat → Int) → Int → Option Bool) (g___health_Monitor__Bad : (Nat → Int) → (Nat → Int) → (Nat → Bool) → (Nat → Int) → (Nat → Int) → (Nat → Int) → Int → Option Bool) (l_0 : ∀ {ρ : Type}, (Nat ×
  (Nat → Int) ×
    (Nat → Int) ×
      (Nat → Int) ×
        (Nat → Int) ×
          (Nat → Int) ×
            (Nat → Bool) ×
              (Nat → Bool) ×
                Int ×
                  Int ×
                    Int ×
                      Nat ×
                        (Nat → Int) ×
                          (Nat → Int) ×
                            (Nat → Int) ×
                              (Nat → Int) ×
                                (Nat → Int) ×
                                  (Nat → Bool) ×
                                    (Nat → Bool) ×
                                      (Nat → Int) ×
                                        (Nat → Int) ×
                                          (Nat → Bool) × (Nat → Int) × (Nat → Int) × (Nat → Int) × Int × (Nat → Int) × (Nat → Int) × (Nat → Bool) × (Nat → Int) × (Nat → Int) × (Nat → Int) × Int) → ((Nat ×
  (Nat → Int) ×
    (Nat → Int) ×
      (Nat → Int) ×
        (Nat → Int) ×
          (Nat → Int) ×
            (Nat → Bool) ×
              (Nat → Bool) ×
                Int ×
                  Int ×
                    Int ×
                      Nat ×
                        (Nat → Int) ×
                          (Nat → Int) ×
                            (Nat → Int) ×
                              (Nat → Int) ×
                                (Nat → Int) ×
                                  (Nat → Bool) ×
                                    (Nat → Bool) ×
                                      Int ×
                                        Bool ×
                                          (Nat → Int) ×
                                            (Nat → Int) ×
                                              (Nat → Bool) × (Nat → Int) × (Nat → Int) × (Nat → Int) × Int × (Nat → Int) × (Nat → Int) × (Nat → Bool) × (Nat → Int) × (Nat → Int) × (Nat → Int) × Int) → Option ρ) → Option ρ) (l_1 : ∀ {ρ : Type}, (Int ×
  Int ×
    Int ×
      Nat ×
        (Nat → Int) ×
          (Nat → Int) ×
            (Nat → Int) ×
              (Nat → Int) ×
                (Nat → Int) ×
                  (Nat → Bool) ×
                    (Nat → Bool) ×
                      (Nat → Int) ×
                        (Nat → Int) × (Nat → Bool) × (Nat → Int) × (Nat → Int) × (Nat → Int) × Int × (Nat → Int) × (Nat → Int) × (Nat → Bool) × (Nat → Int) × (Nat → Int) × (Nat → Int) × Int) → ((Unit ⊕
  Int ×
    Int ×
      Int ×
        Nat ×
          (Nat → Int) ×
            (Nat → Int) ×
              (Nat → Int) ×
                (Nat → Int) ×
                  (Nat → Int) ×
                    (Nat → Bool) ×
                      (Nat → Bool) ×
                        Bool ×
                          (Nat → Int) ×
                            (Nat → Int) × (Nat → Bool) × (Nat → Int) × (Nat → Int) × (Nat → Int) × Int × (Nat → Int) × (Nat → Int) × (Nat → Bool) × (Nat → Int) × (Nat → Int) × (Nat → Int) × Int) → Option ρ) → Option ρ) (x0 : Nat) (x1 : Nat → Int) (x2 : Nat → Int) (x3 : Nat → Int) (x4 : Nat → Int) (x5 : Nat → Int) (x6 : Nat → Bool) (x7 : Nat → Bool) (x8 : Int) (x9 : Int) : den Try.prog (envOf [(15, F_astrolabelaw24_awake g_astrolabelaw24_awake), (16, F_health_New g_health_New), (21, F___health_Monitor__Result g___health_Monitor__Result), (17, F___health_Monitor__Sensor g___health_Monitor__Sensor), (18, F___health_Monitor__Usable g___health_Monitor__Usable), (20, F___health_Monitor__Bad g___health_Monitor__Bad)]) ⟨[⟨10, [3, 4, 8, 12, 13, 14, 15, 16, 17, 19, 20, 21, 22, 23, 24, 25, 26, 27, 28, 29, 30, 31, 32, 33, 34, 35, 36, 37, 38, 39, 40, 41, 42, 43, 44, 45, 46, 47, 48, 49, 50, 51, 52, 53, 54, 55, 56, 57, 58, 59, 60, 61, 62, 63, 64, 65, 66, 67, 68, 69, 70, 71, 72, 73, 74, 75, 76, 77, 78, 79, 80, 81, 82, 83, 84, 85, 86, 87, 88, 89, 90, 91, 92, 93, 94, 95, 96, 97, 98, 99, 100, 101, 102, 103, 104, 107, 108, 132, 133, 134, 135, 136, 137, 138, 144], []⟩, ⟨17, [0, 3, 4, 8, 11, 12, 14, 15, 16, 17, 19, 20, 21, 22, 23, 24, 25, 26, 27, 28, 29, 30, 31, 32, 33, 34, 35, 36, 37, 38, 39, 40, 41, 42, 43, 44, 45, 46, 47, 48, 49, 50, 51, 52, 53, 54, 55, 56, 57, 58, 59, 60, 61, 62, 63, 64, 65, 66, 67, 68, 69, 70, 71, 72, 73, 74, 75, 76, 77, 78, 79, 80, 81, 82, 83, 84, 85, 86, 87, 88, 89, 90, 91, 92, 93, 94, 95, 96, 97, 98, 99, 100, 101, 102, 103, 104, 107, 108, 132, 133, 134, 135, 136, 137, 138, 144, 105, 106, 109, 110, 111, 112, 113, 114, 115, 116, 117, 118, 119, 120, 121, 122, 123, 124, 125, 126, 127, 128, 129, 130, 131], []⟩], [⟨10, 0, @R_astrolabelaw24_HealthApart_0 (@l_0)⟩, ⟨17, 0, @R_astrolabelaw24_HealthApart_1 (@l_1)⟩], [], [], (some ⟨0, [0, 1, 2, 3, 4, 5, 7, 8, 9, 10, 11, 12, 13, 14, 15, 16, 17, 18, 19, 20, 21, 22, 23, 24, 25, 26, 27, 28, 29, 30, 31, 32, 33, 34, 35, 36, 37, 38, 39, 40, 41, 42, 43, 44, 45, 46, 47, 48, 49, 50, 51, 52, 53, 54, 55, 56, 57, 58, 59, 60, 61, 62, 63, 64, 65, 66, 67, 68, 69, 70, 71, 72, 73, 74, 75, 76, 77, 78, 79, 80, 81, 82, 83, 84, 85, 86, 87, 88, 89, 90, 91, 92, 93, 94, 95, 96, 97, 98, 99, 100, 101, 102, 103, 104, 105, 106, 107, 108, 109, 110, 111, 112, 113, 114, 115, 116, 117, 118, 119, 120, 121, 122, 123, 124, 125, 126, 127, 128, 129, 130, 131, 132, 133, 134, 135, 136, 137, 138, 139, 140, 141, 142, 143, 144], []⟩)⟩ 200 6 [.r (.c (.fs x0 8 [.i .i64 x1, .i .i64 x2, .i .i64 x3, .u, .i .i64 x4, .i .i64 x5, .b x6, .b x7])), .r (.c (.f (.i .i64 x8))), .r (.c (.f (.i .i64 x9)))] [] =
    K_astrolabelaw24_HealthApart g_astrolabelaw24_awake g_health_New g___health_Monitor__Result g___health_Monitor__Sensor g___health_Monitor__Usable g___health_Monitor__Bad (@l_0) (@l_1) x0 x1 x2 x3 x4 x5 x6 x7 x8 x9 (fun (d : Bool) => some (Res.mk (AV.r (RV.c (CV.f (FV.b d)))) [] [])) := by kernel_rfl
theorem m_astrolabelaw24_HealthApart {ρ σ : Type} (q : ρ → Option σ) (g_astrolabelaw24_awake : Option Bool) (g_health_New : Int → Nat → (Nat → Int) → Bool → Option (Unit ⊕ (Nat → Int) × (Nat → Int) × (Nat → Bool) × (Nat → Int) × (Nat → Int) × (Nat → Int))) (g___health_Monitor__Result : Int →
  Int →
    Nat →
      (Nat → Int) →
        (Nat → Int) →
          (Nat → Bool) →
            (Nat → Int) →
              (Nat → Int) → (Nat → Int) → Int → (Nat → Bool) → (Nat → Int) → (Nat → Int) → Bool → Option ((Nat → Int) × (Nat → Int) × (Nat → Bool) × (Nat → Int) × (Nat → Int) × (Nat → Int) × Int)) (g___health_Monitor__Sensor : Int → (Nat → Int) → (Nat → Int) → (Nat → Bool) → (Nat → Int) → (Nat → Int) → (Nat → Int) → Int → Option (Int × Int × Bool × Int × Int × Int)) (g___health_Monitor__Usable : Int → Int → (Nat → Int) → (Nat → Int) → (Nat → Bool) → (Nat → Int) → (Nat → Int) → (Nat → Int) → Int → Option Bool) (g___health_Monitor__Bad : (Nat → Int) → (Nat → Int) → (Nat → Bool) → (Nat → Int) → (Nat → Int) → (Nat → Int) → Int → Option Bool) (l_0 : ∀ {ρ : Type}, (Nat ×
  (Nat → Int) ×
    (Nat → Int) ×
      (Nat → Int) ×
        (Nat → Int) ×
          (Nat → Int) ×
            (Nat → Bool) ×
              (Nat → Bool) ×
                Int ×
                  Int ×
                    Int ×
                      Nat ×
                        (Nat → Int) ×
                          (Nat → Int) ×
                            (Nat → Int) ×
                              (Nat → Int) ×
                                (Nat → Int) ×
                                  (Nat → Bool) ×
                                    (Nat → Bool) ×
                                      (Nat → Int) ×
                                        (Nat → Int) ×
                                          (Nat → Bool) × (Nat → Int) × (Nat → Int) × (Nat → Int) × Int × (Nat → Int) × (Nat → Int) × (Nat → Bool) × (Nat → Int) × (Nat → Int) × (Nat → Int) × Int) → ((Nat ×
  (Nat → Int) ×
    (Nat → Int) ×
      (Nat → Int) ×
        (Nat → Int) ×
          (Nat → Int) ×
            (Nat → Bool) ×
              (Nat → Bool) ×
                Int ×
                  Int ×
                    Int ×
                      Nat ×
                        (Nat → Int) ×
                          (Nat → Int) ×
                            (Nat → Int) ×
                              (Nat → Int) ×
                                (Nat → Int) ×
                                  (Nat → Bool) ×
                                    (Nat → Bool) ×
                                      Int ×
                                        Bool ×
                                          (Nat → Int) ×
                                            (Nat → Int) ×
                                              (Nat → Bool) × (Nat → Int) × (Nat → Int) × (Nat → Int) × Int × (Nat → Int) × (Nat → Int) × (Nat → Bool) × (Nat → Int) × (Nat → Int) × (Nat → Int) × Int) → Option ρ) → Option ρ) (l_1 : ∀ {ρ : Type}, (Int ×
  Int ×
    Int ×
      Nat ×
        (Nat → Int) ×
          (Nat → Int) ×
            (Nat → Int) ×
              (Nat → Int) ×
                (Nat → Int) ×
                  (Nat → Bool) ×
                    (Nat → Bool) ×
                      (Nat → Int) ×
                        (Nat → Int) × (Nat → Bool) × (Nat → Int) × (Nat → Int) × (Nat → Int) × Int × (Nat → Int) × (Nat → Int) × (Nat → Bool) × (Nat → Int) × (Nat → Int) × (Nat → Int) × Int) → ((Unit ⊕
  Int ×
    Int ×
      Int ×
        Nat ×
          (Nat → Int) ×
            (Nat → Int) ×
              (Nat → Int) ×
                (Nat → Int) ×
                  (Nat → Int) ×
                    (Nat → Bool) ×
                      (Nat → Bool) ×
                        Bool ×
                          (Nat → Int) ×
                            (Nat → Int) × (Nat → Bool) × (Nat → Int) × (Nat → Int) × (Nat → Int) × Int × (Nat → Int) × (Nat → Int) × (Nat → Bool) × (Nat → Int) × (Nat → Int) × (Nat → Int) × Int) → Option ρ) → Option ρ) (hl_0 : ∀ {ρ σ : Type} (q : ρ → Option σ) (d : Nat ×
  (Nat → Int) ×
    (Nat → Int) ×
      (Nat → Int) ×
        (Nat → Int) ×
          (Nat → Int) ×
            (Nat → Bool) ×
              (Nat → Bool) ×
                Int ×
                  Int ×
                    Int ×
                      Nat ×
                        (Nat → Int) ×
                          (Nat → Int) ×
                            (Nat → Int) ×
                              (Nat → Int) ×
                                (Nat → Int) ×
                                  (Nat → Bool) ×
                                    (Nat → Bool) ×
                                      (Nat → Int) ×
                                        (Nat → Int) ×
                                          (Nat → Bool) × (Nat → Int) × (Nat → Int) × (Nat → Int) × Int × (Nat → Int) × (Nat → Int) × (Nat → Bool) × (Nat → Int) × (Nat → Int) × (Nat → Int) × Int) (k : (Nat ×
  (Nat → Int) ×
    (Nat → Int) ×
      (Nat → Int) ×
        (Nat → Int) ×
          (Nat → Int) ×
            (Nat → Bool) ×
              (Nat → Bool) ×
                Int ×
                  Int ×
                    Int ×
                      Nat ×
                        (Nat → Int) ×
                          (Nat → Int) ×
                            (Nat → Int) ×
                              (Nat → Int) ×
                                (Nat → Int) ×
                                  (Nat → Bool) ×
                                    (Nat → Bool) ×
                                      Int ×
                                        Bool ×
                                          (Nat → Int) ×
                                            (Nat → Int) ×
                                              (Nat → Bool) × (Nat → Int) × (Nat → Int) × (Nat → Int) × Int × (Nat → Int) × (Nat → Int) × (Nat → Bool) × (Nat → Int) × (Nat → Int) × (Nat → Int) × Int) → Option ρ), (l_0 d k).bind q = l_0 d fun x => (k x).bind q) (hl_1 : ∀ {ρ σ : Type} (q : ρ → Option σ) (d : Int ×
  Int ×
    Int ×
      Nat ×
        (Nat → Int) ×
          (Nat → Int) ×
            (Nat → Int) ×
              (Nat → Int) ×
                (Nat → Int) ×
                  (Nat → Bool) ×
                    (Nat → Bool) ×
                      (Nat → Int) ×
                        (Nat → Int) × (Nat → Bool) × (Nat → Int) × (Nat → Int) × (Nat → Int) × Int × (Nat → Int) × (Nat → Int) × (Nat → Bool) × (Nat → Int) × (Nat → Int) × (Nat → Int) × Int) (k : (Unit ⊕
  Int ×
    Int ×
      Int ×
        Nat ×
          (Nat → Int) ×
            (Nat → Int) ×
              (Nat → Int) ×
                (Nat → Int) ×
                  (Nat → Int) ×
                    (Nat → Bool) ×
                      (Nat → Bool) ×
                        Bool ×
                          (Nat → Int) ×
                            (Nat → Int) × (Nat → Bool) × (Nat → Int) × (Nat → Int) × (Nat → Int) × Int × (Nat → Int) × (Nat → Int) × (Nat → Bool) × (Nat → Int) × (Nat → Int) × (Nat → Int) × Int) → Option ρ), (l_1 d k).bind q = l_1 d fun x => (k x).bind q) (x0 : Nat) (x1 : Nat → Int) (x2 : Nat → Int) (x3 : Nat → Int) (x4 : Nat → Int) (x5 : Nat → Int) (x6 : Nat → Bool) (x7 : Nat → Bool) (x8 : Int) (x9 : Int) (k : (Bool) → Option ρ) : (K_astrolabelaw24_HealthApart g_astrolabelaw24_awake g_health_New g___health_Monitor__Result g___health_Monitor__Sensor g___health_Monitor__Usable g___health_Monitor__Bad (@l_0) (@l_1) x0 x1 x2 x3 x4 x5 x6 x7 x8 x9 k).bind q = K_astrolabelaw24_HealthApart g_astrolabelaw24_awake g_health_New g___health_Monitor__Result g___health_Monitor__Sensor g___health_Monitor__Usable g___health_Monitor__Bad (@l_0) (@l_1) x0 x1 x2 x3 x4 x5 x6 x7 x8 x9 (fun d => (k d).bind q) := by
  simp only [K_astrolabelaw24_HealthApart, bnd_cond, bnd_bind, bnd_none, bnd_sum, hl_0, hl_1]
theorem qa_astrolabelaw24_HealthApart : ∀ b, (QA_astrolabelaw24_HealthApart).em b = ([.r (.c (.fs b.1.1.1 8 [.i .i64 b.1.1.2.2.1, .i .i64 b.1.1.2.2.2.1, .i .i64 b.1.1.2.2.2.2.1, .u, .i .i64 b.1.1.2.2.2.2.2.2.1, .i .i64 b.1.1.2.2.2.2.2.2.2.1, .b b.1.1.2.2.2.2.2.2.2.2.1, .b b.1.1.2.2.2.2.2.2.2.2.2.1])), .r (.c (.f (.i .i64 b.1.2.1))), .r (.c (.f (.i .i64 b.1.2.2.1)))], []) := fun b => by kernel_rfl
theorem e_astrolabelaw24_HealthApart {f : (Nat) → (Nat → Int) → (Nat → Int) → (Nat → Int) → (Nat → Int) → (Nat → Int) → (Nat → Bool) → (Nat → Bool) → (Int) → (Int) → Option (Bool)} {args : List AV} {h : List Blk} {r : Res} (hr : (F_astrolabelaw24_HealthApart f args h).eval = some r) : ∃ x0 x1 x2 x3 x4 x5 x6 x7 x8 x9, args = [.r (.c (.fs x0 8 [.i .i64 x1, .i .i64 x2, .i .i64 x3, .u, .i .i64 x4, .i .i64 x5, .b x6, .b x7])), .r (.c (.f (.i .i64 x8))), .r (.c (.f (.i .i64 x9)))] ∧ h = [] ∧ (f x0 x1 x2 x3 x4 x5 x6 x7 x8 x9).bind (fun (d : Bool) => some (Res.mk (AV.r (RV.c (CV.f (FV.b d)))) [] [])) = some r := by
  unfold F_astrolabelaw24_HealthApart at hr
  split at hr
  · rename_i b hb
    have e := ((QA_astrolabelaw24_HealthApart).ok _ _ hb).trans (qa_astrolabelaw24_HealthApart b)
    rw [opt_eval2] at hr
    exact ⟨b.1.1.1, b.1.1.2.2.1, b.1.1.2.2.2.1, b.1.1.2.2.2.2.1, b.1.1.2.2.2.2.2.2.1, b.1.1.2.2.2.2.2.2.2.1, b.1.1.2.2.2.2.2.2.2.2.1, b.1.1.2.2.2.2.2.2.2.2.2.1, b.1.2.1, b.1.2.2.1, (Prod.mk.inj e).1, (Prod.mk.inj e).2, hr⟩
  · cases hr
theorem n_astrolabelaw24_HealthApart {σ : Type} (q : (Bool) → Option σ) (x0 : Nat) (x1 : Nat → Int) (x2 : Nat → Int) (x3 : Nat → Int) (x4 : Nat → Int) (x5 : Nat → Int) (x6 : Nat → Bool) (x7 : Nat → Bool) (x8 : Int) (x9 : Int) : (f_astrolabelaw24_HealthApart x0 x1 x2 x3 x4 x5 x6 x7 x8 x9).bind q = K_astrolabelaw24_HealthApart f_astrolabelaw24_awake f_health_New f___health_Monitor__Result f___health_Monitor__Sensor f___health_Monitor__Usable f___health_Monitor__Bad (@L_astrolabelaw24_HealthApart_0) (@L_astrolabelaw24_HealthApart_1) x0 x1 x2 x3 x4 x5 x6 x7 x8 x9 q := by
  unfold f_astrolabelaw24_HealthApart
  exact m_astrolabelaw24_HealthApart q f_astrolabelaw24_awake f_health_New f___health_Monitor__Result f___health_Monitor__Sensor f___health_Monitor__Usable f___health_Monitor__Bad (@L_astrolabelaw24_HealthApart_0) (@L_astrolabelaw24_HealthApart_1) (fun q d k => mL_astrolabelaw24_HealthApart_0 q d k) (fun q d k => mL_astrolabelaw24_HealthApart_1 q d k) x0 x1 x2 x3 x4 x5 x6 x7 x8 x9 some
theorem s_astrolabelaw24_HealthApart [Amb] : Sound Try.prog 6 (F_astrolabelaw24_HealthApart f_astrolabelaw24_HealthApart) :=
  (inl_sums (l := [(15, F_astrolabelaw24_awake f_astrolabelaw24_awake), (16, F_health_New f_health_New), (21, F___health_Monitor__Result f___health_Monitor__Result), (17, F___health_Monitor__Sensor f___health_Monitor__Sensor), (18, F___health_Monitor__Usable f___health_Monitor__Usable), (20, F___health_Monitor__Bad f___health_Monitor__Bad)]) (.cons s_astrolabelaw24_awake (.cons s_health_New (.cons s___health_Monitor__Result (.cons s___health_Monitor__Sensor (.cons s___health_Monitor__Usable (.cons s___health_Monitor__Bad (.nil _))))))) mixed (hs := ⟨[⟨10, [3, 4, 8, 12, 13, 14, 15, 16, 17, 19, 20, 21, 22, 23, 24, 25, 26, 27, 28, 29, 30, 31, 32, 33, 34, 35, 36, 37, 38, 39, 40, 41, 42, 43, 44, 45, 46, 47, 48, 49, 50, 51, 52, 53, 54, 55, 56, 57, 58, 59, 60, 61, 62, 63, 64, 65, 66, 67, 68, 69, 70, 71, 72, 73, 74, 75, 76, 77, 78, 79, 80, 81, 82, 83, 84, 85, 86, 87, 88, 89, 90, 91, 92, 93, 94, 95, 96, 97, 98, 99, 100, 101, 102, 103, 104, 107, 108, 132, 133, 134, 135, 136, 137, 138, 144], []⟩, ⟨17, [0, 3, 4, 8, 11, 12, 14, 15, 16, 17, 19, 20, 21, 22, 23, 24, 25, 26, 27, 28, 29, 30, 31, 32, 33, 34, 35, 36, 37, 38, 39, 40, 41, 42, 43, 44, 45, 46, 47, 48, 49, 50, 51, 52, 53, 54, 55, 56, 57, 58, 59, 60, 61, 62, 63, 64, 65, 66, 67, 68, 69, 70, 71, 72, 73, 74, 75, 76, 77, 78, 79, 80, 81, 82, 83, 84, 85, 86, 87, 88, 89, 90, 91, 92, 93, 94, 95, 96, 97, 98, 99, 100, 101, 102, 103, 104, 107, 108, 132, 133, 134, 135, 136, 137, 138, 144, 105, 106, 109, 110, 111, 112, 113, 114, 115, 116, 117, 118, 119, 120, 121, 122, 123, 124, 125, 126, 127, 128, 129, 130, 131], []⟩], [⟨10, 0, @R_astrolabelaw24_HealthApart_0 (@L_astrolabelaw24_HealthApart_0)⟩, ⟨17, 0, @R_astrolabelaw24_HealthApart_1 (@L_astrolabelaw24_HealthApart_1)⟩], [], [], (some ⟨0, [0, 1, 2, 3, 4, 5, 7, 8, 9, 10, 11, 12, 13, 14, 15, 16, 17, 18, 19, 20, 21, 22, 23, 24, 25, 26, 27, 28, 29, 30, 31, 32, 33, 34, 35, 36, 37, 38, 39, 40, 41, 42, 43, 44, 45, 46, 47, 48, 49, 50, 51, 52, 53, 54, 55, 56, 57, 58, 59, 60, 61, 62, 63, 64, 65, 66, 67, 68, 69, 70, 71, 72, 73, 74, 75, 76, 77, 78, 79, 80, 81, 82, 83, 84, 85, 86, 87, 88, 89, 90, 91, 92, 93, 94, 95, 96, 97, 98, 99, 100, 101, 102, 103, 104, 105, 106, 107, 108, 109, 110, 111, 112, 113, 114, 115, 116, 117, 118, 119, 120, 121, 122, 123, 124, 125, 126, 127, 128, 129, 130, 131, 132, 133, 134, 135, 136, 137, 138, 139, 140, 141, 142, 143, 144], []⟩)⟩) (lf := 200) (Sums.by (l := [loopIn Try.prog 6 10, loopIn Try.prog 6 17]) (lj := []) (by kernel_rfl) ⟨so_astrolabelaw24_HealthApart_0, ⟨so_astrolabelaw24_HealthApart_1, trivial⟩⟩ (by kernel_rfl) trivial) (by kernel_rfl)).by (F := F_astrolabelaw24_HealthApart f_astrolabelaw24_HealthApart) fun args b r hr => by
  obtain ⟨x0, x1, x2, x3, x4, x5, x6, x7, x8, x9, rfl, rfl, hr1⟩ := e_astrolabelaw24_HealthApart hr
  exact inl_eval ((d_astrolabelaw24_HealthApart f_astrolabelaw24_awake f_health_New f___health_Monitor__Result f___health_Monitor__Sensor f___health_Monitor__Usable f___health_Monitor__Bad (@L_astrolabelaw24_HealthApart_0) (@L_astrolabelaw24_HealthApart_1) x0 x1 x2 x3 x4 x5 x6 x7 x8 x9).trans ((n_astrolabelaw24_HealthApart (fun (d : Bool) => some (Res.mk (AV.r (RV.c (CV.f (FV.b d)))) [] [])) x0 x1 x2 x3 x4 x5 x6 x7 x8 x9).symm.trans hr1))

end Go.Proofs.Ytmlmpcabphgfaaa
