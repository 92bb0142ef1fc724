/-
  Contracts by plain functions: health.New, (*health.Monitor).Faults, astrolabelaw24.awake
-/
import Derived.Test.YtmlmpcabphgfaaaH1
set_option maxRecDepth 100000
set_option maxHeartbeats 4000000
set_option linter.unusedVariables false
namespace Go.Proofs.Ytmlmpcabphgfaaa
open Go.Ab
def S_health_New_0 {ρ : Type}   (x0 : Int) (x1 : Nat) (x2 : Bool) (x3 : Int) (x4 : Int) (x5 : Nat) (x6 : Nat → Int) (x7 : Nat → Int) (x8 : Nat → Int) (x9 : Nat → Bool) (x10 : Nat → Int) (x11 : Nat → Int) (x12 : Nat → Int) (c : (Int × Nat × Bool × Int × Int × Nat × (Nat → Int) × (Nat → Int) × (Nat → Int) × (Nat → Bool) × (Nat → Int) × (Nat → Int) × (Nat → Int)) → Option ρ) (x : (Int × Int × Int × Nat × Bool × Int × Bool × Nat × Bool × Nat × (Nat → Int) × (Nat → Int) × (Nat → Int) × (Nat → Bool) × (Nat → Int) × (Nat → Int) × (Nat → Int) ⊕
  Int × Int × Int × Nat × Bool × Int × Bool × Nat × Bool × Bool × Nat × (Nat → Int) × (Nat → Int) × (Nat → Int) × (Nat → Bool) × (Nat → Int) × (Nat → Int) × (Nat → Int) ⊕
    Int × Nat × Bool × Int × Int × Bool × Nat × (Nat → Int) × (Nat → Int) × (Nat → Int) × (Nat → Bool) × (Nat → Int) × (Nat → Int) × (Nat → Int)) → Option ρ) : Option ρ :=
  bif decide (x4 < x3) then
    bif inR x4 x1 then
      bif decide (x6 (Int.toNat x4) < 1) then x (Sum.inl (x0, x4, x6 (Int.toNat x4), x1, x2, x3, decide (x4 < x3), Int.toNat x4, decide (x6 (Int.toNat x4) < 1), x5, x6, x7, x8, x9, x10, x11, x12))
      else
        bif decide (x6 (Int.toNat x4) > 1099511627776) then
          x
            (Sum.inr
              (Sum.inl
                (x0, x4, x6 (Int.toNat x4), x1, x2, x3, decide (x4 < x3), Int.toNat x4, decide (x6 (Int.toNat x4) < 1), decide (x6 (Int.toNat x4) > 1099511627776), x5, x6, x7, x8, x9, x10, x11, x12)))
        else
          bif inR x4 6 then
            bif Nat.ble (0 + Int.toNat x4 * 6 + 6) 36 && Nat.ble (0 + Int.toNat x4 * 6 + 6) 37 then
              c
                (x0, x1, x2, x3, IntKind.wrap IntKind.i64 (x4 + 1), x5, x6, fun (j : Nat) => bif Nat.beq j (Int.toNat x4) then 0 else x7 j, fun (j : Nat) =>
                  bif Nat.beq j (Int.toNat x4) then 0 else x8 j, fun (j : Nat) => bif Nat.beq j (Int.toNat x4) then false else x9 j, fun (j : Nat) => bif Nat.beq j (Int.toNat x4) then x4 else x10 j,
                  fun (j : Nat) => bif Nat.beq j (Int.toNat x4) then x6 (Int.toNat x4) else x11 j, fun (j : Nat) => bif Nat.beq j (Int.toNat x4) then x0 else x12 j)
            else none
          else none
    else none
  else x (Sum.inr (Sum.inr (x0, x1, x2, x3, x4, decide (x4 < x3), x5, x6, x7, x8, x9, x10, x11, x12)))
section
open Go.Ab.Rdr
def Q_health_New_0 := (st (cons (ar (rc (cf (fi .i64 hole)))) (cons aund (cons (atup nil) (cons aund (cons aund (cons aund (cons (ar (rc (cptr (nat 1) (ok' (nat 0)) (nat 37)))) (cons aund (cons aund (cons aund (cons aund (cons aund (cons aund (cons aund (cons aund (cons aund (cons aund (cons aund (cons aund (cons aund (cons aund (cons aund (cons (ar (rc (csl (nat 0) (ok' (nat 0)) (szs hole) (nat 1) hole))) (cons (ar (rc (cf (fi .i64 hole)))) (cons (ar (rc (cf (fi .i64 hole)))) (cons aund (cons aund (cons aund (cons aund (cons aund (cons aund (cons aund (cons aund (cons aund (cons aund (cons aund (cons aund (cons aund (cons aund (cons aund (cons aund (cons aund (cons aund (cons aund (cons aund (cons aund nil)))))))))))))))))))))))))))))))))))))))))))))) (cons (some' (cons (ga (szs hole) (cons (ki .i64 hole) nil)) nil)) (cons (some' (cons (ga (szl (nat 6)) (cons (ki .i64 hole) (cons (ki .i64 hole) (cons (kb hole) (cons (ki .i64 hole) (cons (ki .i64 hole) (cons (ki .i64 hole) nil))))))) (cons (gc (cf (fi .i64 (int 0)))) nil))) nil)) nil)
end
theorem q_health_New_0 : ∀ b, (Q_health_New_0).em b = St.mk
    [AV.r (RV.c (CV.f (FV.i IntKind.i64 b.1.1))), AV.und, AV.tup [], AV.und, AV.und, AV.und, AV.r (RV.c (CV.ptr 1 (Off.k 0) 37)), AV.und, AV.und, AV.und, AV.und, AV.und, AV.und, AV.und, AV.und, AV.und,
      AV.und, AV.und, AV.und, AV.und, AV.und, AV.und, AV.r (RV.c (CV.sl 0 (Off.k 0) (Sz.s b.1.2.2.2.2.2.2.2.2.2.2.2.2.2.2.2.2.2.2.2.2.2.2.1.2.2.1) 1 b.1.2.2.2.2.2.2.2.2.2.2.2.2.2.2.2.2.2.2.2.2.2.2.1.2.2.2.2)), AV.r (RV.c (CV.f (FV.i IntKind.i64 b.1.2.2.2.2.2.2.2.2.2.2.2.2.2.2.2.2.2.2.2.2.2.2.2.1))), AV.r (RV.c (CV.f (FV.i IntKind.i64 b.1.2.2.2.2.2.2.2.2.2.2.2.2.2.2.2.2.2.2.2.2.2.2.2.2.1))), AV.und, AV.und,
      AV.und, AV.und, AV.und, AV.und, AV.und, AV.und, AV.und, AV.und, AV.und, AV.und, AV.und, AV.und, AV.und, AV.und, AV.und, AV.und, AV.und, AV.und, AV.und]
    [some [Sg.a (Sz.s b.2.1.1.1.1) [Col.i IntKind.i64 b.2.1.1.1.2.1]],
      some [Sg.a (Sz.l 6) [Col.i IntKind.i64 b.2.1.2.1.1.2.1, Col.i IntKind.i64 b.2.1.2.1.1.2.2.1, Col.b b.2.1.2.1.1.2.2.2.1, Col.i IntKind.i64 b.2.1.2.1.1.2.2.2.2.1, Col.i IntKind.i64 b.2.1.2.1.1.2.2.2.2.2.1, Col.i IntKind.i64 b.2.1.2.1.1.2.2.2.2.2.2.1], Sg.c (CV.f (FV.i IntKind.i64 0))]]
    [] := fun b => by kernel_rfl
def R_health_New_0 (l : ∀ {ρ : Type}, (Int × Nat × Bool × Int × Int × Nat × (Nat → Int) × (Nat → Int) × (Nat → Int) × (Nat → Bool) × (Nat → Int) × (Nat → Int) × (Nat → Int)) → ((Int × Int × Int × Nat × Bool × Int × Bool × Nat × Bool × Nat × (Nat → Int) × (Nat → Int) × (Nat → Int) × (Nat → Bool) × (Nat → Int) × (Nat → Int) × (Nat → Int) ⊕
  Int × Int × Int × Nat × Bool × Int × Bool × Nat × Bool × Bool × Nat × (Nat → Int) × (Nat → Int) × (Nat → Int) × (Nat → Bool) × (Nat → Int) × (Nat → Int) × (Nat → Int) ⊕
    Int × Nat × Bool × Int × Int × Bool × Nat × (Nat → Int) × (Nat → Int) × (Nat → Int) × (Nat → Bool) × (Nat → Int) × (Nat → Int) × (Nat → Int)) → Option ρ) → Option ρ) {ρ : Type} (s : St) (K : AX → St → Option ρ) : Option ρ := ((Q_health_New_0).rd s).bind fun b => l (b.1.1, b.1.2.2.2.2.2.2.2.2.2.2.2.2.2.2.2.2.2.2.2.2.2.2.1.2.2.1, b.1.2.2.2.2.2.2.2.2.2.2.2.2.2.2.2.2.2.2.2.2.2.2.1.2.2.2.2, b.1.2.2.2.2.2.2.2.2.2.2.2.2.2.2.2.2.2.2.2.2.2.2.2.1, b.1.2.2.2.2.2.2.2.2.2.2.2.2.2.2.2.2.2.2.2.2.2.2.2.2.1, b.2.1.1.1.1, b.2.1.1.1.2.1, b.2.1.2.1.1.2.1, b.2.1.2.1.1.2.2.1, b.2.1.2.1.1.2.2.2.1, b.2.1.2.1.1.2.2.2.2.1, b.2.1.2.1.1.2.2.2.2.2.1, b.2.1.2.1.1.2.2.2.2.2.2.1) (Sum.elim (fun d => K (AX.ret) (St.mk
  [AV.r (RV.c (CV.f (FV.i IntKind.i64 d.fst))), AV.und, AV.tup [], AV.und, AV.r (RV.c CV.nilp), AV.r (RV.c (CV.f (FV.i IntKind.i64 1))), AV.r (RV.c (CV.ptr 1 (Off.k 0) 37)),
    AV.r (RV.c (CV.f (FV.i IntKind.i64 d.snd.fst))), AV.r (RV.c (CV.f (FV.i IntKind.i64 d.snd.snd.fst))), AV.und, AV.und, AV.und, AV.und, AV.und, AV.und, AV.und, AV.und, AV.und, AV.und, AV.und,
    AV.und, AV.und, AV.r (RV.c (CV.sl 0 (Off.k 0) (Sz.s d.snd.snd.snd.fst) 1 d.snd.snd.snd.snd.fst)), AV.r (RV.c (CV.f (FV.i IntKind.i64 d.snd.snd.snd.snd.snd.fst))),
    AV.r (RV.c (CV.f (FV.i IntKind.i64 d.snd.fst))), AV.r (RV.c (CV.f (FV.b d.snd.snd.snd.snd.snd.snd.fst))), AV.r (RV.c (CV.f (FV.i IntKind.i64 d.snd.fst))),
    AV.r (RV.c (CV.ptr 0 (Off.x 0 d.snd.snd.snd.snd.snd.snd.snd.fst 1) 1)), AV.r (RV.c (CV.f (FV.i IntKind.i64 d.snd.snd.fst))), AV.r (RV.c (CV.f (FV.i IntKind.i64 d.snd.snd.fst))),
    AV.r (RV.c (CV.f (FV.b d.snd.snd.snd.snd.snd.snd.snd.snd.fst))), AV.r (RV.c (CV.f (FV.b true))), AV.tup [], AV.tup [], AV.r (RV.c (CV.f (FV.b true))), AV.und, AV.und, AV.und, AV.und, AV.und,
    AV.und, AV.und, AV.und, AV.und, AV.und, AV.und]
  [some [Sg.a (Sz.s d.snd.snd.snd.snd.snd.snd.snd.snd.snd.fst) [Col.i IntKind.i64 d.snd.snd.snd.snd.snd.snd.snd.snd.snd.snd.fst]],
    some
      [Sg.a (Sz.l 6)
          [Col.i IntKind.i64 d.snd.snd.snd.snd.snd.snd.snd.snd.snd.snd.snd.fst, Col.i IntKind.i64 d.snd.snd.snd.snd.snd.snd.snd.snd.snd.snd.snd.snd.fst,
            Col.b d.snd.snd.snd.snd.snd.snd.snd.snd.snd.snd.snd.snd.snd.fst, Col.i IntKind.i64 d.snd.snd.snd.snd.snd.snd.snd.snd.snd.snd.snd.snd.snd.snd.fst,
            Col.i IntKind.i64 d.snd.snd.snd.snd.snd.snd.snd.snd.snd.snd.snd.snd.snd.snd.snd.fst, Col.i IntKind.i64 d.snd.snd.snd.snd.snd.snd.snd.snd.snd.snd.snd.snd.snd.snd.snd.snd],
        Sg.c (CV.f (FV.i IntKind.i64 0))]]
  [])) (Sum.elim (fun d => K (AX.ret) (St.mk
  [AV.r (RV.c (CV.f (FV.i IntKind.i64 d.fst))), AV.und, AV.tup [], AV.und, AV.r (RV.c CV.nilp), AV.r (RV.c (CV.f (FV.i IntKind.i64 1))), AV.r (RV.c (CV.ptr 1 (Off.k 0) 37)),
    AV.r (RV.c (CV.f (FV.i IntKind.i64 d.snd.fst))), AV.r (RV.c (CV.f (FV.i IntKind.i64 d.snd.snd.fst))), AV.und, AV.und, AV.und, AV.und, AV.und, AV.und, AV.und, AV.und, AV.und, AV.und, AV.und,
    AV.und, AV.und, AV.r (RV.c (CV.sl 0 (Off.k 0) (Sz.s d.snd.snd.snd.fst) 1 d.snd.snd.snd.snd.fst)), AV.r (RV.c (CV.f (FV.i IntKind.i64 d.snd.snd.snd.snd.snd.fst))),
    AV.r (RV.c (CV.f (FV.i IntKind.i64 d.snd.fst))), AV.r (RV.c (CV.f (FV.b d.snd.snd.snd.snd.snd.snd.fst))), AV.r (RV.c (CV.f (FV.i IntKind.i64 d.snd.fst))),
    AV.r (RV.c (CV.ptr 0 (Off.x 0 d.snd.snd.snd.snd.snd.snd.snd.fst 1) 1)), AV.r (RV.c (CV.f (FV.i IntKind.i64 d.snd.snd.fst))), AV.r (RV.c (CV.f (FV.i IntKind.i64 d.snd.snd.fst))),
    AV.r (RV.c (CV.f (FV.b d.snd.snd.snd.snd.snd.snd.snd.snd.fst))), AV.r (RV.c (CV.f (FV.b false))), AV.r (RV.c (CV.f (FV.i IntKind.i64 d.snd.snd.fst))),
    AV.r (RV.c (CV.f (FV.b d.snd.snd.snd.snd.snd.snd.snd.snd.snd.fst))), AV.r (RV.c (CV.f (FV.b d.snd.snd.snd.snd.snd.snd.snd.snd.snd.fst))), AV.und, AV.und, AV.und, AV.und, AV.und, AV.und, AV.und,
    AV.und, AV.und, AV.und, AV.und]
  [some [Sg.a (Sz.s d.snd.snd.snd.snd.snd.snd.snd.snd.snd.snd.fst) [Col.i IntKind.i64 d.snd.snd.snd.snd.snd.snd.snd.snd.snd.snd.snd.fst]],
    some
      [Sg.a (Sz.l 6)
          [Col.i IntKind.i64 d.snd.snd.snd.snd.snd.snd.snd.snd.snd.snd.snd.snd.fst, Col.i IntKind.i64 d.snd.snd.snd.snd.snd.snd.snd.snd.snd.snd.snd.snd.snd.fst,
            Col.b d.snd.snd.snd.snd.snd.snd.snd.snd.snd.snd.snd.snd.snd.snd.fst, Col.i IntKind.i64 d.snd.snd.snd.snd.snd.snd.snd.snd.snd.snd.snd.snd.snd.snd.snd.fst,
            Col.i IntKind.i64 d.snd.snd.snd.snd.snd.snd.snd.snd.snd.snd.snd.snd.snd.snd.snd.snd.fst, Col.i IntKind.i64 d.snd.snd.snd.snd.snd.snd.snd.snd.snd.snd.snd.snd.snd.snd.snd.snd.snd],
        Sg.c (CV.f (FV.i IntKind.i64 0))]]
  [])) (fun d => K (AX.ex 0) (St.mk
  [AV.r (RV.c (CV.f (FV.i IntKind.i64 d.fst))), AV.und, AV.tup [], AV.und, AV.und, AV.und, AV.r (RV.c (CV.ptr 1 (Off.k 0) 37)), AV.und, AV.und, AV.und, AV.und, AV.und, AV.und, AV.und, AV.und, AV.und,
    AV.und, AV.und, AV.und, AV.und, AV.und, AV.und, AV.r (RV.c (CV.sl 0 (Off.k 0) (Sz.s d.snd.fst) 1 d.snd.snd.fst)), AV.r (RV.c (CV.f (FV.i IntKind.i64 d.snd.snd.snd.fst))),
    AV.r (RV.c (CV.f (FV.i IntKind.i64 d.snd.snd.snd.snd.fst))), AV.r (RV.c (CV.f (FV.b d.snd.snd.snd.snd.snd.fst))), AV.und, AV.und, AV.und, AV.und, AV.und, AV.und, AV.und, AV.und, AV.und, AV.und,
    AV.und, AV.und, AV.und, AV.und, AV.und, AV.und, AV.und, AV.und, AV.und, AV.und]
  [some [Sg.a (Sz.s d.snd.snd.snd.snd.snd.snd.fst) [Col.i IntKind.i64 d.snd.snd.snd.snd.snd.snd.snd.fst]],
    some
      [Sg.a (Sz.l 6)
          [Col.i IntKind.i64 d.snd.snd.snd.snd.snd.snd.snd.snd.fst, Col.i IntKind.i64 d.snd.snd.snd.snd.snd.snd.snd.snd.snd.fst, Col.b d.snd.snd.snd.snd.snd.snd.snd.snd.snd.snd.fst,
            Col.i IntKind.i64 d.snd.snd.snd.snd.snd.snd.snd.snd.snd.snd.snd.fst, Col.i IntKind.i64 d.snd.snd.snd.snd.snd.snd.snd.snd.snd.snd.snd.snd.fst,
            Col.i IntKind.i64 d.snd.snd.snd.snd.snd.snd.snd.snd.snd.snd.snd.snd.snd],
        Sg.c (CV.f (FV.i IntKind.i64 0))]]
  []))))
theorem ms_health_New_0 {ρ σ : Type}    (q : ρ → Option σ) (x0 : Int) (x1 : Nat) (x2 : Bool) (x3 : Int) (x4 : Int) (x5 : Nat) (x6 : Nat → Int) (x7 : Nat → Int) (x8 : Nat → Int) (x9 : Nat → Bool) (x10 : Nat → Int) (x11 : Nat → Int) (x12 : Nat → Int) (c : (Int × Nat × Bool × Int × Int × Nat × (Nat → Int) × (Nat → Int) × (Nat → Int) × (Nat → Bool) × (Nat → Int) × (Nat → Int) × (Nat → Int)) → Option ρ) (x : (Int × Int × Int × Nat × Bool × Int × Bool × Nat × Bool × Nat × (Nat → Int) × (Nat → Int) × (Nat → Int) × (Nat → Bool) × (Nat → Int) × (Nat → Int) × (Nat → Int) ⊕
  Int × Int × Int × Nat × Bool × Int × Bool × Nat × Bool × Bool × Nat × (Nat → Int) × (Nat → Int) × (Nat → Int) × (Nat → Bool) × (Nat → Int) × (Nat → Int) × (Nat → Int) ⊕
    Int × Nat × Bool × Int × Int × Bool × Nat × (Nat → Int) × (Nat → Int) × (Nat → Int) × (Nat → Bool) × (Nat → Int) × (Nat → Int) × (Nat → Int)) → Option ρ) : (S_health_New_0   x0 x1 x2 x3 x4 x5 x6 x7 x8 x9 x10 x11 x12 c x).bind q = S_health_New_0   x0 x1 x2 x3 x4 x5 x6 x7 x8 x9 x10 x11 x12 (fun d => (c d).bind q) (fun d => (x d).bind q) := by
  simp only [S_health_New_0, bnd_cond, bnd_bind, bnd_none, bnd_sum]
def L_health_New_0 {ρ : Type} (d : Int × Nat × Bool × Int × Int × Nat × (Nat → Int) × (Nat → Int) × (Nat → Int) × (Nat → Bool) × (Nat → Int) × (Nat → Int) × (Nat → Int)) (k : (Int × Int × Int × Nat × Bool × Int × Bool × Nat × Bool × Nat × (Nat → Int) × (Nat → Int) × (Nat → Int) × (Nat → Bool) × (Nat → Int) × (Nat → Int) × (Nat → Int) ⊕
  Int × Int × Int × Nat × Bool × Int × Bool × Nat × Bool × Bool × Nat × (Nat → Int) × (Nat → Int) × (Nat → Int) × (Nat → Bool) × (Nat → Int) × (Nat → Int) × (Nat → Int) ⊕
    Int × Nat × Bool × Int × Int × Bool × Nat × (Nat → Int) × (Nat → Int) × (Nat → Int) × (Nat → Bool) × (Nat → Int) × (Nat → Int) × (Nat → Int)) → Option ρ) : Option ρ := loopK (fun d c x => S_health_New_0   d.1 d.2.1 d.2.2.1 d.2.2.2.1 d.2.2.2.2.1 d.2.2.2.2.2.1 d.2.2.2.2.2.2.1 d.2.2.2.2.2.2.2.1 d.2.2.2.2.2.2.2.2.1 d.2.2.2.2.2.2.2.2.2.1 d.2.2.2.2.2.2.2.2.2.2.1 d.2.2.2.2.2.2.2.2.2.2.2.1 d.2.2.2.2.2.2.2.2.2.2.2.2 c x) 200 d k
theorem mL_health_New_0 {ρ σ : Type} (q : ρ → Option σ) (d : Int × Nat × Bool × Int × Int × Nat × (Nat → Int) × (Nat → Int) × (Nat → Int) × (Nat → Bool) × (Nat → Int) × (Nat → Int) × (Nat → Int)) (k : (Int × Int × Int × Nat × Bool × Int × Bool × Nat × Bool × Nat × (Nat → Int) × (Nat → Int) × (Nat → Int) × (Nat → Bool) × (Nat → Int) × (Nat → Int) × (Nat → Int) ⊕
  Int × Int × Int × Nat × Bool × Int × Bool × Nat × Bool × Bool × Nat × (Nat → Int) × (Nat → Int) × (Nat → Int) × (Nat → Bool) × (Nat → Int) × (Nat → Int) × (Nat → Int) ⊕
    Int × Nat × Bool × Int × Int × Bool × Nat × (Nat → Int) × (Nat → Int) × (Nat → Int) × (Nat → Bool) × (Nat → Int) × (Nat → Int) × (Nat → Int)) → Option ρ) : (L_health_New_0 d k).bind q = L_health_New_0 d fun x => (k x).bind q :=
  loopK_bind q (fun d c x => ms_health_New_0    q d.1 d.2.1 d.2.2.1 d.2.2.2.1 d.2.2.2.2.1 d.2.2.2.2.2.1 d.2.2.2.2.2.2.1 d.2.2.2.2.2.2.2.1 d.2.2.2.2.2.2.2.2.1 d.2.2.2.2.2.2.2.2.2.1 d.2.2.2.2.2.2.2.2.2.2.1 d.2.2.2.2.2.2.2.2.2.2.2.1 d.2.2.2.2.2.2.2.2.2.2.2.2 c x) k _ d
theorem ds_health_New_0 {ρ : Type}  (l_0 : ∀ {ρ : Type}, (Int × Nat × Bool × Int × Int × Nat × (Nat → Int) × (Nat → Int) × (Nat → Int) × (Nat → Bool) × (Nat → Int) × (Nat → Int) × (Nat → Int)) → ((Int × Int × Int × Nat × Bool × Int × Bool × Nat × Bool × Nat × (Nat → Int) × (Nat → Int) × (Nat → Int) × (Nat → Bool) × (Nat → Int) × (Nat → Int) × (Nat → Int) ⊕
  Int × Int × Int × Nat × Bool × Int × Bool × Nat × Bool × Bool × Nat × (Nat → Int) × (Nat → Int) × (Nat → Int) × (Nat → Bool) × (Nat → Int) × (Nat → Int) × (Nat → Int) ⊕
    Int × Nat × Bool × Int × Int × Bool × Nat × (Nat → Int) × (Nat → Int) × (Nat → Int) × (Nat → Bool) × (Nat → Int) × (Nat → Int) × (Nat → Int)) → Option ρ) → Option ρ) (x0 : Int) (x1 : Nat) (x2 : Bool) (x3 : Int) (x4 : Int) (x5 : Nat) (x6 : Nat → Int) (x7 : Nat → Int) (x8 : Nat → Int) (x9 : Nat → Bool) (x10 : Nat → Int) (x11 : Nat → Int) (x12 : Nat → Int) (c : St → Option ρ) (K : AX → St → Option ρ) :
    runC Try.prog (envOf []) ⟨[⟨5, [1, 3, 4, 5, 7, 8, 9, 10, 11, 12, 13, 14, 15, 16, 17, 18, 19, 20, 21, 25, 26, 27, 28, 29, 30, 31, 34, 35, 36, 37, 38, 39, 40, 41, 42, 43, 44, 45, 32, 33], []⟩], [⟨5, 1, @R_health_New_0 (@l_0)⟩], []⟩ (tmpsOf Try.prog 16) 1 200 (loopIn Try.prog 16 5)
      (St.mk
    [AV.r (RV.c (CV.f (FV.i IntKind.i64 x0))), AV.und, AV.tup [], AV.und, AV.und, AV.und, AV.r (RV.c (CV.ptr 1 (Off.k 0) 37)), AV.und, AV.und, AV.und, AV.und, AV.und, AV.und, AV.und, AV.und, AV.und,
      AV.und, AV.und, AV.und, AV.und, AV.und, AV.und, AV.r (RV.c (CV.sl 0 (Off.k 0) (Sz.s x1) 1 x2)), AV.r (RV.c (CV.f (FV.i IntKind.i64 x3))), AV.r (RV.c (CV.f (FV.i IntKind.i64 x4))), AV.und, AV.und,
      AV.und, AV.und, AV.und, AV.und, AV.und, AV.und, AV.und, AV.und, AV.und, AV.und, AV.und, AV.und, AV.und, AV.und, AV.und, AV.und, AV.und, AV.und, AV.und]
    [some [Sg.a (Sz.s x5) [Col.i IntKind.i64 x6]],
      some [Sg.a (Sz.l 6) [Col.i IntKind.i64 x7, Col.i IntKind.i64 x8, Col.b x9, Col.i IntKind.i64 x10, Col.i IntKind.i64 x11, Col.i IntKind.i64 x12], Sg.c (CV.f (FV.i IntKind.i64 0))]]
    [])
      (next (fun t => t.head 1 ⟨[⟨5, [1, 3, 4, 5, 7, 8, 9, 10, 11, 12, 13, 14, 15, 16, 17, 18, 19, 20, 21, 25, 26, 27, 28, 29, 30, 31, 34, 35, 36, 37, 38, 39, 40, 41, 42, 43, 44, 45, 32, 33], []⟩], [⟨5, 1, @R_health_New_0 (@l_0)⟩], []⟩ (loopIn Try.prog 16 5)) c K) =
    S_health_New_0   x0 x1 x2 x3 x4 x5 x6 x7 x8 x9 x10 x11 x12 (fun d => c (St.mk
  [AV.r (RV.c (CV.f (FV.i IntKind.i64 d.fst))), AV.und, AV.tup [], AV.und, AV.und, AV.und, AV.r (RV.c (CV.ptr 1 (Off.k 0) 37)), AV.und, AV.und, AV.und, AV.und, AV.und, AV.und, AV.und, AV.und, AV.und,
    AV.und, AV.und, AV.und, AV.und, AV.und, AV.und, AV.r (RV.c (CV.sl 0 (Off.k 0) (Sz.s d.snd.fst) 1 d.snd.snd.fst)), AV.r (RV.c (CV.f (FV.i IntKind.i64 d.snd.snd.snd.fst))),
    AV.r (RV.c (CV.f (FV.i IntKind.i64 d.snd.snd.snd.snd.fst))), AV.und, AV.und, AV.und, AV.und, AV.und, AV.und, AV.und, AV.und, AV.und, AV.und, AV.und, AV.und, AV.und, AV.und, AV.und, AV.und, AV.und,
    AV.und, AV.und, AV.und, AV.und]
  [some [Sg.a (Sz.s d.snd.snd.snd.snd.snd.fst) [Col.i IntKind.i64 d.snd.snd.snd.snd.snd.snd.fst]],
    some
      [Sg.a (Sz.l 6)
          [Col.i IntKind.i64 d.snd.snd.snd.snd.snd.snd.snd.fst, Col.i IntKind.i64 d.snd.snd.snd.snd.snd.snd.snd.snd.fst, Col.b d.snd.snd.snd.snd.snd.snd.snd.snd.snd.fst,
            Col.i IntKind.i64 d.snd.snd.snd.snd.snd.snd.snd.snd.snd.snd.fst, Col.i IntKind.i64 d.snd.snd.snd.snd.snd.snd.snd.snd.snd.snd.snd.fst,
            Col.i IntKind.i64 d.snd.snd.snd.snd.snd.snd.snd.snd.snd.snd.snd.snd],
        Sg.c (CV.f (FV.i IntKind.i64 0))]]
  [])) (Sum.elim (fun d => K (AX.ret) (St.mk
  [AV.r (RV.c (CV.f (FV.i IntKind.i64 d.fst))), AV.und, AV.tup [], AV.und, AV.r (RV.c CV.nilp), AV.r (RV.c (CV.f (FV.i IntKind.i64 1))), AV.r (RV.c (CV.ptr 1 (Off.k 0) 37)),
    AV.r (RV.c (CV.f (FV.i IntKind.i64 d.snd.fst))), AV.r (RV.c (CV.f (FV.i IntKind.i64 d.snd.snd.fst))), AV.und, AV.und, AV.und, AV.und, AV.und, AV.und, AV.und, AV.und, AV.und, AV.und, AV.und,
    AV.und, AV.und, AV.r (RV.c (CV.sl 0 (Off.k 0) (Sz.s d.snd.snd.snd.fst) 1 d.snd.snd.snd.snd.fst)), AV.r (RV.c (CV.f (FV.i IntKind.i64 d.snd.snd.snd.snd.snd.fst))),
    AV.r (RV.c (CV.f (FV.i IntKind.i64 d.snd.fst))), AV.r (RV.c (CV.f (FV.b d.snd.snd.snd.snd.snd.snd.fst))), AV.r (RV.c (CV.f (FV.i IntKind.i64 d.snd.fst))),
    AV.r (RV.c (CV.ptr 0 (Off.x 0 d.snd.snd.snd.snd.snd.snd.snd.fst 1) 1)), AV.r (RV.c (CV.f (FV.i IntKind.i64 d.snd.snd.fst))), AV.r (RV.c (CV.f (FV.i IntKind.i64 d.snd.snd.fst))),
    AV.r (RV.c (CV.f (FV.b d.snd.snd.snd.snd.snd.snd.snd.snd.fst))), AV.r (RV.c (CV.f (FV.b true))), AV.tup [], AV.tup [], AV.r (RV.c (CV.f (FV.b true))), AV.und, AV.und, AV.und, AV.und, AV.und,
    AV.und, AV.und, AV.und, AV.und, AV.und, AV.und]
  [some [Sg.a (Sz.s d.snd.snd.snd.snd.snd.snd.snd.snd.snd.fst) [Col.i IntKind.i64 d.snd.snd.snd.snd.snd.snd.snd.snd.snd.snd.fst]],
    some
      [Sg.a (Sz.l 6)
          [Col.i IntKind.i64 d.snd.snd.snd.snd.snd.snd.snd.snd.snd.snd.snd.fst, Col.i IntKind.i64 d.snd.snd.snd.snd.snd.snd.snd.snd.snd.snd.snd.snd.fst,
            Col.b d.snd.snd.snd.snd.snd.snd.snd.snd.snd.snd.snd.snd.snd.fst, Col.i IntKind.i64 d.snd.snd.snd.snd.snd.snd.snd.snd.snd.snd.snd.snd.snd.snd.fst,
            Col.i IntKind.i64 d.snd.snd.snd.snd.snd.snd.snd.snd.snd.snd.snd.snd.snd.snd.snd.fst, Col.i IntKind.i64 d.snd.snd.snd.snd.snd.snd.snd.snd.snd.snd.snd.snd.snd.snd.snd.snd],
        Sg.c (CV.f (FV.i IntKind.i64 0))]]
  [])) (Sum.elim (fun d => K (AX.ret) (St.mk
  [AV.r (RV.c (CV.f (FV.i IntKind.i64 d.fst))), AV.und, AV.tup [], AV.und, AV.r (RV.c CV.nilp), AV.r (RV.c (CV.f (FV.i IntKind.i64 1))), AV.r (RV.c (CV.ptr 1 (Off.k 0) 37)),
    AV.r (RV.c (CV.f (FV.i IntKind.i64 d.snd.fst))), AV.r (RV.c (CV.f (FV.i IntKind.i64 d.snd.snd.fst))), AV.und, AV.und, AV.und, AV.und, AV.und, AV.und, AV.und, AV.und, AV.und, AV.und, AV.und,
    AV.und, AV.und, AV.r (RV.c (CV.sl 0 (Off.k 0) (Sz.s d.snd.snd.snd.fst) 1 d.snd.snd.snd.snd.fst)), AV.r (RV.c (CV.f (FV.i IntKind.i64 d.snd.snd.snd.snd.snd.fst))),
    AV.r (RV.c (CV.f (FV.i IntKind.i64 d.snd.fst))), AV.r (RV.c (CV.f (FV.b d.snd.snd.snd.snd.snd.snd.fst))), AV.r (RV.c (CV.f (FV.i IntKind.i64 d.snd.fst))),
    AV.r (RV.c (CV.ptr 0 (Off.x 0 d.snd.snd.snd.snd.snd.snd.snd.fst 1) 1)), AV.r (RV.c (CV.f (FV.i IntKind.i64 d.snd.snd.fst))), AV.r (RV.c (CV.f (FV.i IntKind.i64 d.snd.snd.fst))),
    AV.r (RV.c (CV.f (FV.b d.snd.snd.snd.snd.snd.snd.snd.snd.fst))), AV.r (RV.c (CV.f (FV.b false))), AV.r (RV.c (CV.f (FV.i IntKind.i64 d.snd.snd.fst))),
    AV.r (RV.c (CV.f (FV.b d.snd.snd.snd.snd.snd.snd.snd.snd.snd.fst))), AV.r (RV.c (CV.f (FV.b d.snd.snd.snd.snd.snd.snd.snd.snd.snd.fst))), AV.und, AV.und, AV.und, AV.und, AV.und, AV.und, AV.und,
    AV.und, AV.und, AV.und, AV.und]
  [some [Sg.a (Sz.s d.snd.snd.snd.snd.snd.snd.snd.snd.snd.snd.fst) [Col.i IntKind.i64 d.snd.snd.snd.snd.snd.snd.snd.snd.snd.snd.snd.fst]],
    some
      [Sg.a (Sz.l 6)
          [Col.i IntKind.i64 d.snd.snd.snd.snd.snd.snd.snd.snd.snd.snd.snd.snd.fst, Col.i IntKind.i64 d.snd.snd.snd.snd.snd.snd.snd.snd.snd.snd.snd.snd.snd.fst,
            Col.b d.snd.snd.snd.snd.snd.snd.snd.snd.snd.snd.snd.snd.snd.snd.fst, Col.i IntKind.i64 d.snd.snd.snd.snd.snd.snd.snd.snd.snd.snd.snd.snd.snd.snd.snd.fst,
            Col.i IntKind.i64 d.snd.snd.snd.snd.snd.snd.snd.snd.snd.snd.snd.snd.snd.snd.snd.snd.fst, Col.i IntKind.i64 d.snd.snd.snd.snd.snd.snd.snd.snd.snd.snd.snd.snd.snd.snd.snd.snd.snd],
        Sg.c (CV.f (FV.i IntKind.i64 0))]]
  [])) (fun d => K (AX.ex 0) (St.mk
  [AV.r (RV.c (CV.f (FV.i IntKind.i64 d.fst))), AV.und, AV.tup [], AV.und, AV.und, AV.und, AV.r (RV.c (CV.ptr 1 (Off.k 0) 37)), AV.und, AV.und, AV.und, AV.und, AV.und, AV.und, AV.und, AV.und, AV.und,
    AV.und, AV.und, AV.und, AV.und, AV.und, AV.und, AV.r (RV.c (CV.sl 0 (Off.k 0) (Sz.s d.snd.fst) 1 d.snd.snd.fst)), AV.r (RV.c (CV.f (FV.i IntKind.i64 d.snd.snd.snd.fst))),
    AV.r (RV.c (CV.f (FV.i IntKind.i64 d.snd.snd.snd.snd.fst))), AV.r (RV.c (CV.f (FV.b d.snd.snd.snd.snd.snd.fst))), AV.und, AV.und, AV.und, AV.und, AV.und, AV.und, AV.und, AV.und, AV.und, AV.und,
    AV.und, AV.und, AV.und, AV.und, AV.und, AV.und, AV.und, AV.und, AV.und, AV.und]
  [some [Sg.a (Sz.s d.snd.snd.snd.snd.snd.snd.fst) [Col.i IntKind.i64 d.snd.snd.snd.snd.snd.snd.snd.fst]],
    some
      [Sg.a (Sz.l 6)
          [Col.i IntKind.i64 d.snd.snd.snd.snd.snd.snd.snd.snd.fst, Col.i IntKind.i64 d.snd.snd.snd.snd.snd.snd.snd.snd.snd.fst, Col.b d.snd.snd.snd.snd.snd.snd.snd.snd.snd.snd.fst,
            Col.i IntKind.i64 d.snd.snd.snd.snd.snd.snd.snd.snd.snd.snd.snd.fst, Col.i IntKind.i64 d.snd.snd.snd.snd.snd.snd.snd.snd.snd.snd.snd.snd.fst,
            Col.i IntKind.i64 d.snd.snd.snd.snd.snd.snd.snd.snd.snd.snd.snd.snd.snd],
        Sg.c (CV.f (FV.i IntKind.i64 0))]]
  [])))) := by kernel_rfl
theorem it_health_New_0 {ρ : Type} (x0 : Int) (x1 : Nat) (x2 : Bool) (x3 : Int) (x4 : Int) (x5 : Nat) (x6 : Nat → Int) (x7 : Nat → Int) (x8 : Nat → Int) (x9 : Nat → Bool) (x10 : Nat → Int) (x11 : Nat → Int) (x12 : Nat → Int) (K : AX → St → Option ρ) :
    iter (fun t => t.head 1 ⟨[⟨5, [1, 3, 4, 5, 7, 8, 9, 10, 11, 12, 13, 14, 15, 16, 17, 18, 19, 20, 21, 25, 26, 27, 28, 29, 30, 31, 34, 35, 36, 37, 38, 39, 40, 41, 42, 43, 44, 45, 32, 33], []⟩], [⟨5, 1, @R_health_New_0 (@L_health_New_0)⟩], []⟩ (loopIn Try.prog 16 5)) (runC Try.prog (envOf []) ⟨[⟨5, [1, 3, 4, 5, 7, 8, 9, 10, 11, 12, 13, 14, 15, 16, 17, 18, 19, 20, 21, 25, 26, 27, 28, 29, 30, 31, 34, 35, 36, 37, 38, 39, 40, 41, 42, 43, 44, 45, 32, 33], []⟩], [⟨5, 1, @R_health_New_0 (@L_health_New_0)⟩], []⟩ (tmpsOf Try.prog 16) 1 200 (loopIn Try.prog 16 5)) K 200
      (St.mk
    [AV.r (RV.c (CV.f (FV.i IntKind.i64 x0))), AV.und, AV.tup [], AV.und, AV.und, AV.und, AV.r (RV.c (CV.ptr 1 (Off.k 0) 37)), AV.und, AV.und, AV.und, AV.und, AV.und, AV.und, AV.und, AV.und, AV.und,
      AV.und, AV.und, AV.und, AV.und, AV.und, AV.und, AV.r (RV.c (CV.sl 0 (Off.k 0) (Sz.s x1) 1 x2)), AV.r (RV.c (CV.f (FV.i IntKind.i64 x3))), AV.r (RV.c (CV.f (FV.i IntKind.i64 x4))), AV.und, AV.und,
      AV.und, AV.und, AV.und, AV.und, AV.und, AV.und, AV.und, AV.und, AV.und, AV.und, AV.und, AV.und, AV.und, AV.und, AV.und, AV.und, AV.und, AV.und, AV.und]
    [some [Sg.a (Sz.s x5) [Col.i IntKind.i64 x6]],
      some [Sg.a (Sz.l 6) [Col.i IntKind.i64 x7, Col.i IntKind.i64 x8, Col.b x9, Col.i IntKind.i64 x10, Col.i IntKind.i64 x11, Col.i IntKind.i64 x12], Sg.c (CV.f (FV.i IntKind.i64 0))]]
    []) = L_health_New_0 (x0, x1, x2, x3, x4, x5, x6, x7, x8, x9, x10, x11, x12) (Sum.elim (fun d => K (AX.ret) (St.mk
  [AV.r (RV.c (CV.f (FV.i IntKind.i64 d.fst))), AV.und, AV.tup [], AV.und, AV.r (RV.c CV.nilp), AV.r (RV.c (CV.f (FV.i IntKind.i64 1))), AV.r (RV.c (CV.ptr 1 (Off.k 0) 37)),
    AV.r (RV.c (CV.f (FV.i IntKind.i64 d.snd.fst))), AV.r (RV.c (CV.f (FV.i IntKind.i64 d.snd.snd.fst))), AV.und, AV.und, AV.und, AV.und, AV.und, AV.und, AV.und, AV.und, AV.und, AV.und, AV.und,
    AV.und, AV.und, AV.r (RV.c (CV.sl 0 (Off.k 0) (Sz.s d.snd.snd.snd.fst) 1 d.snd.snd.snd.snd.fst)), AV.r (RV.c (CV.f (FV.i IntKind.i64 d.snd.snd.snd.snd.snd.fst))),
    AV.r (RV.c (CV.f (FV.i IntKind.i64 d.snd.fst))), AV.r (RV.c (CV.f (FV.b d.snd.snd.snd.snd.snd.snd.fst))), AV.r (RV.c (CV.f (FV.i IntKind.i64 d.snd.fst))),
    AV.r (RV.c (CV.ptr 0 (Off.x 0 d.snd.snd.snd.snd.snd.snd.snd.fst 1) 1)), AV.r (RV.c (CV.f (FV.i IntKind.i64 d.snd.snd.fst))), AV.r (RV.c (CV.f (FV.i IntKind.i64 d.snd.snd.fst))),
    AV.r (RV.c (CV.f (FV.b d.snd.snd.snd.snd.snd.snd.snd.snd.fst))), AV.r (RV.c (CV.f (FV.b true))), AV.tup [], AV.tup [], AV.r (RV.c (CV.f (FV.b true))), AV.und, AV.und, AV.und, AV.und, AV.und,
    AV.und, AV.und, AV.und, AV.und, AV.und, AV.und]
  [some [Sg.a (Sz.s d.snd.snd.snd.snd.snd.snd.snd.snd.snd.fst) [Col.i IntKind.i64 d.snd.snd.snd.snd.snd.snd.snd.snd.snd.snd.fst]],
    some
      [Sg.a (Sz.l 6)
          [Col.i IntKind.i64 d.snd.snd.snd.snd.snd.snd.snd.snd.snd.snd.snd.fst, Col.i IntKind.i64 d.snd.snd.snd.snd.snd.snd.snd.snd.snd.snd.snd.snd.fst,
            Col.b d.snd.snd.snd.snd.snd.snd.snd.snd.snd.snd.snd.snd.snd.fst, Col.i IntKind.i64 d.snd.snd.snd.snd.snd.snd.snd.snd.snd.snd.snd.snd.snd.snd.fst,
            Col.i IntKind.i64 d.snd.snd.snd.snd.snd.snd.snd.snd.snd.snd.snd.snd.snd.snd.snd.fst, Col.i IntKind.i64 d.snd.snd.snd.snd.snd.snd.snd.snd.snd.snd.snd.snd.snd.snd.snd.snd],
        Sg.c (CV.f (FV.i IntKind.i64 0))]]
  [])) (Sum.elim (fun d => K (AX.ret) (St.mk
  [AV.r (RV.c (CV.f (FV.i IntKind.i64 d.fst))), AV.und, AV.tup [], AV.und, AV.r (RV.c CV.nilp), AV.r (RV.c (CV.f (FV.i IntKind.i64 1))), AV.r (RV.c (CV.ptr 1 (Off.k 0) 37)),
    AV.r (RV.c (CV.f (FV.i IntKind.i64 d.snd.fst))), AV.r (RV.c (CV.f (FV.i IntKind.i64 d.snd.snd.fst))), AV.und, AV.und, AV.und, AV.und, AV.und, AV.und, AV.und, AV.und, AV.und, AV.und, AV.und,
    AV.und, AV.und, AV.r (RV.c (CV.sl 0 (Off.k 0) (Sz.s d.snd.snd.snd.fst) 1 d.snd.snd.snd.snd.fst)), AV.r (RV.c (CV.f (FV.i IntKind.i64 d.snd.snd.snd.snd.snd.fst))),
    AV.r (RV.c (CV.f (FV.i IntKind.i64 d.snd.fst))), AV.r (RV.c (CV.f (FV.b d.snd.snd.snd.snd.snd.snd.fst))), AV.r (RV.c (CV.f (FV.i IntKind.i64 d.snd.fst))),
    AV.r (RV.c (CV.ptr 0 (Off.x 0 d.snd.snd.snd.snd.snd.snd.snd.fst 1) 1)), AV.r (RV.c (CV.f (FV.i IntKind.i64 d.snd.snd.fst))), AV.r (RV.c (CV.f (FV.i IntKind.i64 d.snd.snd.fst))),
    AV.r (RV.c (CV.f (FV.b d.snd.snd.snd.snd.snd.snd.snd.snd.fst))), AV.r (RV.c (CV.f (FV.b false))), AV.r (RV.c (CV.f (FV.i IntKind.i64 d.snd.snd.fst))),
    AV.r (RV.c (CV.f (FV.b d.snd.snd.snd.snd.snd.snd.snd.snd.snd.fst))), AV.r (RV.c (CV.f (FV.b d.snd.snd.snd.snd.snd.snd.snd.snd.snd.fst))), AV.und, AV.und, AV.und, AV.und, AV.und, AV.und, AV.und,
    AV.und, AV.und, AV.und, AV.und]
  [some [Sg.a (Sz.s d.snd.snd.snd.snd.snd.snd.snd.snd.snd.snd.fst) [Col.i IntKind.i64 d.snd.snd.snd.snd.snd.snd.snd.snd.snd.snd.snd.fst]],
    some
      [Sg.a (Sz.l 6)
          [Col.i IntKind.i64 d.snd.snd.snd.snd.snd.snd.snd.snd.snd.snd.snd.snd.fst, Col.i IntKind.i64 d.snd.snd.snd.snd.snd.snd.snd.snd.snd.snd.snd.snd.snd.fst,
            Col.b d.snd.snd.snd.snd.snd.snd.snd.snd.snd.snd.snd.snd.snd.snd.fst, Col.i IntKind.i64 d.snd.snd.snd.snd.snd.snd.snd.snd.snd.snd.snd.snd.snd.snd.snd.fst,
            Col.i IntKind.i64 d.snd.snd.snd.snd.snd.snd.snd.snd.snd.snd.snd.snd.snd.snd.snd.snd.fst, Col.i IntKind.i64 d.snd.snd.snd.snd.snd.snd.snd.snd.snd.snd.snd.snd.snd.snd.snd.snd.snd],
        Sg.c (CV.f (FV.i IntKind.i64 0))]]
  [])) (fun d => K (AX.ex 0) (St.mk
  [AV.r (RV.c (CV.f (FV.i IntKind.i64 d.fst))), AV.und, AV.tup [], AV.und, AV.und, AV.und, AV.r (RV.c (CV.ptr 1 (Off.k 0) 37)), AV.und, AV.und, AV.und, AV.und, AV.und, AV.und, AV.und, AV.und, AV.und,
    AV.und, AV.und, AV.und, AV.und, AV.und, AV.und, AV.r (RV.c (CV.sl 0 (Off.k 0) (Sz.s d.snd.fst) 1 d.snd.snd.fst)), AV.r (RV.c (CV.f (FV.i IntKind.i64 d.snd.snd.snd.fst))),
    AV.r (RV.c (CV.f (FV.i IntKind.i64 d.snd.snd.snd.snd.fst))), AV.r (RV.c (CV.f (FV.b d.snd.snd.snd.snd.snd.fst))), AV.und, AV.und, AV.und, AV.und, AV.und, AV.und, AV.und, AV.und, AV.und, AV.und,
    AV.und, AV.und, AV.und, AV.und, AV.und, AV.und, AV.und, AV.und, AV.und, AV.und]
  [some [Sg.a (Sz.s d.snd.snd.snd.snd.snd.snd.fst) [Col.i IntKind.i64 d.snd.snd.snd.snd.snd.snd.snd.fst]],
    some
      [Sg.a (Sz.l 6)
          [Col.i IntKind.i64 d.snd.snd.snd.snd.snd.snd.snd.snd.fst, Col.i IntKind.i64 d.snd.snd.snd.snd.snd.snd.snd.snd.snd.fst, Col.b d.snd.snd.snd.snd.snd.snd.snd.snd.snd.snd.fst,
            Col.i IntKind.i64 d.snd.snd.snd.snd.snd.snd.snd.snd.snd.snd.snd.fst, Col.i IntKind.i64 d.snd.snd.snd.snd.snd.snd.snd.snd.snd.snd.snd.snd.fst,
            Col.i IntKind.i64 d.snd.snd.snd.snd.snd.snd.snd.snd.snd.snd.snd.snd.snd],
        Sg.c (CV.f (FV.i IntKind.i64 0))]]
  [])))) :=
  iter_loopX (emb := fun (d : Int × Nat × Bool × Int × Int × Nat × (Nat → Int) × (Nat → Int) × (Nat → Int) × (Nat → Bool) × (Nat → Int) × (Nat → Int) × (Nat → Int)) => St.mk
  [AV.r (RV.c (CV.f (FV.i IntKind.i64 d.fst))), AV.und, AV.tup [], AV.und, AV.und, AV.und, AV.r (RV.c (CV.ptr 1 (Off.k 0) 37)), AV.und, AV.und, AV.und, AV.und, AV.und, AV.und, AV.und, AV.und, AV.und,
    AV.und, AV.und, AV.und, AV.und, AV.und, AV.und, AV.r (RV.c (CV.sl 0 (Off.k 0) (Sz.s d.snd.fst) 1 d.snd.snd.fst)), AV.r (RV.c (CV.f (FV.i IntKind.i64 d.snd.snd.snd.fst))),
    AV.r (RV.c (CV.f (FV.i IntKind.i64 d.snd.snd.snd.snd.fst))), AV.und, AV.und, AV.und, AV.und, AV.und, AV.und, AV.und, AV.und, AV.und, AV.und, AV.und, AV.und, AV.und, AV.und, AV.und, AV.und, AV.und,
    AV.und, AV.und, AV.und, AV.und]
  [some [Sg.a (Sz.s d.snd.snd.snd.snd.snd.fst) [Col.i IntKind.i64 d.snd.snd.snd.snd.snd.snd.fst]],
    some
      [Sg.a (Sz.l 6)
          [Col.i IntKind.i64 d.snd.snd.snd.snd.snd.snd.snd.fst, Col.i IntKind.i64 d.snd.snd.snd.snd.snd.snd.snd.snd.fst, Col.b d.snd.snd.snd.snd.snd.snd.snd.snd.snd.fst,
            Col.i IntKind.i64 d.snd.snd.snd.snd.snd.snd.snd.snd.snd.snd.fst, Col.i IntKind.i64 d.snd.snd.snd.snd.snd.snd.snd.snd.snd.snd.snd.fst,
            Col.i IntKind.i64 d.snd.snd.snd.snd.snd.snd.snd.snd.snd.snd.snd.snd],
        Sg.c (CV.f (FV.i IntKind.i64 0))]]
  []) (step := fun d c x => S_health_New_0   d.1 d.2.1 d.2.2.1 d.2.2.2.1 d.2.2.2.2.1 d.2.2.2.2.2.1 d.2.2.2.2.2.2.1 d.2.2.2.2.2.2.2.1 d.2.2.2.2.2.2.2.2.1 d.2.2.2.2.2.2.2.2.2.1 d.2.2.2.2.2.2.2.2.2.2.1 d.2.2.2.2.2.2.2.2.2.2.2.1 d.2.2.2.2.2.2.2.2.2.2.2.2 c x) (kx := (Sum.elim (fun d => K (AX.ret) (St.mk
  [AV.r (RV.c (CV.f (FV.i IntKind.i64 d.fst))), AV.und, AV.tup [], AV.und, AV.r (RV.c CV.nilp), AV.r (RV.c (CV.f (FV.i IntKind.i64 1))), AV.r (RV.c (CV.ptr 1 (Off.k 0) 37)),
    AV.r (RV.c (CV.f (FV.i IntKind.i64 d.snd.fst))), AV.r (RV.c (CV.f (FV.i IntKind.i64 d.snd.snd.fst))), AV.und, AV.und, AV.und, AV.und, AV.und, AV.und, AV.und, AV.und, AV.und, AV.und, AV.und,
    AV.und, AV.und, AV.r (RV.c (CV.sl 0 (Off.k 0) (Sz.s d.snd.snd.snd.fst) 1 d.snd.snd.snd.snd.fst)), AV.r (RV.c (CV.f (FV.i IntKind.i64 d.snd.snd.snd.snd.snd.fst))),
    AV.r (RV.c (CV.f (FV.i IntKind.i64 d.snd.fst))), AV.r (RV.c (CV.f (FV.b d.snd.snd.snd.snd.snd.snd.fst))), AV.r (RV.c (CV.f (FV.i IntKind.i64 d.snd.fst))),
    AV.r (RV.c (CV.ptr 0 (Off.x 0 d.snd.snd.snd.snd.snd.snd.snd.fst 1) 1)), AV.r (RV.c (CV.f (FV.i IntKind.i64 d.snd.snd.fst))), AV.r (RV.c (CV.f (FV.i IntKind.i64 d.snd.snd.fst))),
    AV.r (RV.c (CV.f (FV.b d.snd.snd.snd.snd.snd.snd.snd.snd.fst))), AV.r (RV.c (CV.f (FV.b true))), AV.tup [], AV.tup [], AV.r (RV.c (CV.f (FV.b true))), AV.und, AV.und, AV.und, AV.und, AV.und,
    AV.und, AV.und, AV.und, AV.und, AV.und, AV.und]
  [some [Sg.a (Sz.s d.snd.snd.snd.snd.snd.snd.snd.snd.snd.fst) [Col.i IntKind.i64 d.snd.snd.snd.snd.snd.snd.snd.snd.snd.snd.fst]],
    some
      [Sg.a (Sz.l 6)
          [Col.i IntKind.i64 d.snd.snd.snd.snd.snd.snd.snd.snd.snd.snd.snd.fst, Col.i IntKind.i64 d.snd.snd.snd.snd.snd.snd.snd.snd.snd.snd.snd.snd.fst,
            Col.b d.snd.snd.snd.snd.snd.snd.snd.snd.snd.snd.snd.snd.snd.fst, Col.i IntKind.i64 d.snd.snd.snd.snd.snd.snd.snd.snd.snd.snd.snd.snd.snd.snd.fst,
            Col.i IntKind.i64 d.snd.snd.snd.snd.snd.snd.snd.snd.snd.snd.snd.snd.snd.snd.snd.fst, Col.i IntKind.i64 d.snd.snd.snd.snd.snd.snd.snd.snd.snd.snd.snd.snd.snd.snd.snd.snd],
        Sg.c (CV.f (FV.i IntKind.i64 0))]]
  [])) (Sum.elim (fun d => K (AX.ret) (St.mk
  [AV.r (RV.c (CV.f (FV.i IntKind.i64 d.fst))), AV.und, AV.tup [], AV.und, AV.r (RV.c CV.nilp), AV.r (RV.c (CV.f (FV.i IntKind.i64 1))), AV.r (RV.c (CV.ptr 1 (Off.k 0) 37)),
    AV.r (RV.c (CV.f (FV.i IntKind.i64 d.snd.fst))), AV.r (RV.c (CV.f (FV.i IntKind.i64 d.snd.snd.fst))), AV.und, AV.und, AV.und, AV.und, AV.und, AV.und, AV.und, AV.und, AV.und, AV.und, AV.und,
    AV.und, AV.und, AV.r (RV.c (CV.sl 0 (Off.k 0) (Sz.s d.snd.snd.snd.fst) 1 d.snd.snd.snd.snd.fst)), AV.r (RV.c (CV.f (FV.i IntKind.i64 d.snd.snd.snd.snd.snd.fst))),
    AV.r (RV.c (CV.f (FV.i IntKind.i64 d.snd.fst))), AV.r (RV.c (CV.f (FV.b d.snd.snd.snd.snd.snd.snd.fst))), AV.r (RV.c (CV.f (FV.i IntKind.i64 d.snd.fst))),
    AV.r (RV.c (CV.ptr 0 (Off.x 0 d.snd.snd.snd.snd.snd.snd.snd.fst 1) 1)), AV.r (RV.c (CV.f (FV.i IntKind.i64 d.snd.snd.fst))), AV.r (RV.c (CV.f (FV.i IntKind.i64 d.snd.snd.fst))),
    AV.r (RV.c (CV.f (FV.b d.snd.snd.snd.snd.snd.snd.snd.snd.fst))), AV.r (RV.c (CV.f (FV.b false))), AV.r (RV.c (CV.f (FV.i IntKind.i64 d.snd.snd.fst))),
    AV.r (RV.c (CV.f (FV.b d.snd.snd.snd.snd.snd.snd.snd.snd.snd.fst))), AV.r (RV.c (CV.f (FV.b d.snd.snd.snd.snd.snd.snd.snd.snd.snd.fst))), AV.und, AV.und, AV.und, AV.und, AV.und, AV.und, AV.und,
    AV.und, AV.und, AV.und, AV.und]
  [some [Sg.a (Sz.s d.snd.snd.snd.snd.snd.snd.snd.snd.snd.snd.fst) [Col.i IntKind.i64 d.snd.snd.snd.snd.snd.snd.snd.snd.snd.snd.snd.fst]],
    some
      [Sg.a (Sz.l 6)
          [Col.i IntKind.i64 d.snd.snd.snd.snd.snd.snd.snd.snd.snd.snd.snd.snd.fst, Col.i IntKind.i64 d.snd.snd.snd.snd.snd.snd.snd.snd.snd.snd.snd.snd.snd.fst,
            Col.b d.snd.snd.snd.snd.snd.snd.snd.snd.snd.snd.snd.snd.snd.snd.fst, Col.i IntKind.i64 d.snd.snd.snd.snd.snd.snd.snd.snd.snd.snd.snd.snd.snd.snd.snd.fst,
            Col.i IntKind.i64 d.snd.snd.snd.snd.snd.snd.snd.snd.snd.snd.snd.snd.snd.snd.snd.snd.fst, Col.i IntKind.i64 d.snd.snd.snd.snd.snd.snd.snd.snd.snd.snd.snd.snd.snd.snd.snd.snd.snd],
        Sg.c (CV.f (FV.i IntKind.i64 0))]]
  [])) (fun d => K (AX.ex 0) (St.mk
  [AV.r (RV.c (CV.f (FV.i IntKind.i64 d.fst))), AV.und, AV.tup [], AV.und, AV.und, AV.und, AV.r (RV.c (CV.ptr 1 (Off.k 0) 37)), AV.und, AV.und, AV.und, AV.und, AV.und, AV.und, AV.und, AV.und, AV.und,
    AV.und, AV.und, AV.und, AV.und, AV.und, AV.und, AV.r (RV.c (CV.sl 0 (Off.k 0) (Sz.s d.snd.fst) 1 d.snd.snd.fst)), AV.r (RV.c (CV.f (FV.i IntKind.i64 d.snd.snd.snd.fst))),
    AV.r (RV.c (CV.f (FV.i IntKind.i64 d.snd.snd.snd.snd.fst))), AV.r (RV.c (CV.f (FV.b d.snd.snd.snd.snd.snd.fst))), AV.und, AV.und, AV.und, AV.und, AV.und, AV.und, AV.und, AV.und, AV.und, AV.und,
    AV.und, AV.und, AV.und, AV.und, AV.und, AV.und, AV.und, AV.und, AV.und, AV.und]
  [some [Sg.a (Sz.s d.snd.snd.snd.snd.snd.snd.fst) [Col.i IntKind.i64 d.snd.snd.snd.snd.snd.snd.snd.fst]],
    some
      [Sg.a (Sz.l 6)
          [Col.i IntKind.i64 d.snd.snd.snd.snd.snd.snd.snd.snd.fst, Col.i IntKind.i64 d.snd.snd.snd.snd.snd.snd.snd.snd.snd.fst, Col.b d.snd.snd.snd.snd.snd.snd.snd.snd.snd.snd.fst,
            Col.i IntKind.i64 d.snd.snd.snd.snd.snd.snd.snd.snd.snd.snd.snd.fst, Col.i IntKind.i64 d.snd.snd.snd.snd.snd.snd.snd.snd.snd.snd.snd.snd.fst,
            Col.i IntKind.i64 d.snd.snd.snd.snd.snd.snd.snd.snd.snd.snd.snd.snd.snd],
        Sg.c (CV.f (FV.i IntKind.i64 0))]]
  [])))))
    (fun d c => ds_health_New_0  (@L_health_New_0) d.1 d.2.1 d.2.2.1 d.2.2.2.1 d.2.2.2.2.1 d.2.2.2.2.2.1 d.2.2.2.2.2.2.1 d.2.2.2.2.2.2.2.1 d.2.2.2.2.2.2.2.2.1 d.2.2.2.2.2.2.2.2.2.1 d.2.2.2.2.2.2.2.2.2.2.1 d.2.2.2.2.2.2.2.2.2.2.2.1 d.2.2.2.2.2.2.2.2.2.2.2.2 c K) 200 (x0, x1, x2, x3, x4, x5, x6, x7, x8, x9, x10, x11, x12)
theorem so_health_New_0 : ∀ kk, SumOK Try.prog (envOf []) ⟨[⟨5, [1, 3, 4, 5, 7, 8, 9, 10, 11, 12, 13, 14, 15, 16, 17, 18, 19, 20, 21, 25, 26, 27, 28, 29, 30, 31, 34, 35, 36, 37, 38, 39, 40, 41, 42, 43, 44, 45, 32, 33], []⟩], [⟨5, 1, @R_health_New_0 (@L_health_New_0)⟩], []⟩ (tmpsOf Try.prog 16) kk 200 (loopIn Try.prog 16 5) :=
  SumOK.of (id := 5) (k0 := 1) (run := @R_health_New_0 (@L_health_New_0)) (by kernel_rfl) fun s K r hr => by
    unfold R_health_New_0 at hr
    obtain ⟨b, hb, hr1⟩ := Option.bind_eq_some_iff.1 hr
    have e := ((Q_health_New_0).ok s b hb).trans (q_health_New_0 b)
    subst e
    exact ⟨200, (it_health_New_0 b.1.1 b.1.2.2.2.2.2.2.2.2.2.2.2.2.2.2.2.2.2.2.2.2.2.2.1.2.2.1 b.1.2.2.2.2.2.2.2.2.2.2.2.2.2.2.2.2.2.2.2.2.2.2.1.2.2.2.2 b.1.2.2.2.2.2.2.2.2.2.2.2.2.2.2.2.2.2.2.2.2.2.2.2.1 b.1.2.2.2.2.2.2.2.2.2.2.2.2.2.2.2.2.2.2.2.2.2.2.2.2.1 b.2.1.1.1.1 b.2.1.1.1.2.1 b.2.1.2.1.1.2.1 b.2.1.2.1.1.2.2.1 b.2.1.2.1.1.2.2.2.1 b.2.1.2.1.1.2.2.2.2.1 b.2.1.2.1.1.2.2.2.2.2.1 b.2.1.2.1.1.2.2.2.2.2.2.1 K).trans hr1⟩
def K_health_New {ρ : Type}  (l_0 : ∀ {ρ : Type}, (Int × Nat × Bool × Int × Int × Nat × (Nat → Int) × (Nat → Int) × (Nat → Int) × (Nat → Bool) × (Nat → Int) × (Nat → Int) × (Nat → Int)) → ((Int × Int × Int × Nat × Bool × Int × Bool × Nat × Bool × Nat × (Nat → Int) × (Nat → Int) × (Nat → Int) × (Nat → Bool) × (Nat → Int) × (Nat → Int) × (Nat → Int) ⊕
  Int × Int × Int × Nat × Bool × Int × Bool × Nat × Bool × Bool × Nat × (Nat → Int) × (Nat → Int) × (Nat → Int) × (Nat → Bool) × (Nat → Int) × (Nat → Int) × (Nat → Int) ⊕
    Int × Nat × Bool × Int × Int × Bool × Nat × (Nat → Int) × (Nat → Int) × (Nat → Int) × (Nat → Bool) × (Nat → Int) × (Nat → Int) × (Nat → Int)) → Option ρ) → Option ρ) (x0 : Int) (x1 : Nat) (x2 : Nat → Int) (w0 : Bool) (k : (Unit ⊕ (Nat → Int) × (Nat → Int) × (Nat → Bool) × (Nat → Int) × (Nat → Int) × (Nat → Int)) → Option ρ) : Option ρ :=
  bif decide (x0 < 0) then k (Sum.inl ())
  else
    bif decide (x0 > 100) then k (Sum.inl ())
    else
      bif Int.ofNat x1 != 6 then k (Sum.inl ())
      else
        l_0 (x0, x1, w0, Int.ofNat x1, 0, x1, x2, fun (x : Nat) => 0, fun (x : Nat) => 0, fun (x : Nat) => false, fun (x : Nat) => 0, fun (x : Nat) => 0, fun (x : Nat) => 0)
          (Sum.elim
            (fun (d : Int × Int × Int × Nat × Bool × Int × Bool × Nat × Bool × Nat × (Nat → Int) × (Nat → Int) × (Nat → Int) × (Nat → Bool) × (Nat → Int) × (Nat → Int) × (Nat → Int)) => k (Sum.inl ()))
            (Sum.elim
              (fun (d : Int × Int × Int × Nat × Bool × Int × Bool × Nat × Bool × Bool × Nat × (Nat → Int) × (Nat → Int) × (Nat → Int) × (Nat → Bool) × (Nat → Int) × (Nat → Int) × (Nat → Int)) =>
                k (Sum.inl ()))
              fun (d : Int × Nat × Bool × Int × Int × Bool × Nat × (Nat → Int) × (Nat → Int) × (Nat → Int) × (Nat → Bool) × (Nat → Int) × (Nat → Int) × (Nat → Int)) =>
              k
                (Sum.inr
                  (d.snd.snd.snd.snd.snd.snd.snd.snd.1, d.snd.snd.snd.snd.snd.snd.snd.snd.snd.1, d.snd.snd.snd.snd.snd.snd.snd.snd.snd.snd.1, d.snd.snd.snd.snd.snd.snd.snd.snd.snd.snd.snd.1,
                    d.snd.snd.snd.snd.snd.snd.snd.snd.snd.snd.snd.snd.1, d.snd.snd.snd.snd.snd.snd.snd.snd.snd.snd.snd.snd.2))))
def f_health_New (x0 : Int) (x1 : Nat) (x2 : Nat → Int) (w0 : Bool) : Option (Unit ⊕ (Nat → Int) × (Nat → Int) × (Nat → Bool) × (Nat → Int) × (Nat → Int) × (Nat → Int)) := K_health_New  (@L_health_New_0) x0 x1 x2 w0 some
section
open Go.Ab.Rdr
def QA_health_New := ((pair (cons (ar (rc (cf (fi .i64 hole)))) (cons (ar (rc (csl (nat 0) (ok' (nat 0)) (szs hole) (nat 1) hole))) nil)) (cons (cons (ga (szs hole) (cons (ki .i64 hole) nil)) nil) nil)) : Rdr (List AV × List Blk) _)
end
def F_health_New (f : (Int) → (Nat) → (Nat → Int) → (Bool) → Option (Unit ⊕ (Nat → Int) × (Nat → Int) × (Nat → Bool) × (Nat → Int) × (Nat → Int) × (Nat → Int))) : Sem1 := fun args h => match (QA_health_New).rd (args, h) with
  | some b => .test (Nat.beq b.2.1.1.1 b.1.2.1.2.2.1) (.opt (f b.1.1 b.1.2.1.2.2.1 b.2.1.1.2.1 b.1.2.1.2.2.2.2) fun d0 => T.sum d0 (fun (d : Unit) => .leaf (Res.mk (AV.tup [RV.c CV.nilp, RV.c (CV.f (FV.i IntKind.i64 1))]) [Ch.keep] [])) (fun (d : (Nat → Int) × (Nat → Int) × (Nat → Bool) × (Nat → Int) × (Nat → Int) × (Nat → Int)) => .leaf (Res.mk (AV.tup [RV.c (CV.ptr 1 (Off.k 0) 37), RV.c (CV.f (FV.i IntKind.i64 0))]) [Ch.keep]
    [[Sg.a (Sz.l 6)
          [Col.i IntKind.i64 d.fst, Col.i IntKind.i64 d.snd.fst, Col.b d.snd.snd.fst, Col.i IntKind.i64 d.snd.snd.snd.fst, Col.i IntKind.i64 d.snd.snd.snd.snd.fst,
            Col.i IntKind.i64 d.snd.snd.snd.snd.snd],
        Sg.c (CV.f (FV.i IntKind.i64 0))]]))) .fail
  | none => .fail
theorem d_health_New  (l_0 : ∀ {ρ : Type}, (Int × Nat × Bool × Int × Int × Nat × (Nat → Int) × (Nat → Int) × (Nat → Int) × (Nat → Bool) × (Nat → Int) × (Nat → Int) × (Nat → Int)) → ((Int × Int × Int × Nat × Bool × Int × Bool × Nat × Bool × Nat × (Nat → Int) × (Nat → Int) × (Nat → Int) × (Nat → Bool) × (Nat → Int) × (Nat → Int) × (Nat → Int) ⊕
  Int × Int × Int × Nat × Bool × Int × Bool × Nat × Bool × Bool × Nat × (Nat → Int) × (Nat → Int) × (Nat → Int) × (Nat → Bool) × (Nat → Int) × (Nat → Int) × (Nat → Int) ⊕
    Int × Nat × Bool × Int × Int × Bool × Nat × (Nat → Int) × (Nat → Int) × (Nat → Int) × (Nat → Bool) × (Nat → Int) × (Nat → Int) × (Nat → Int)) → Option ρ) → Option ρ) (x0 : Int) (x1 : Nat) (x2 : Nat → Int) (w0 : Bool) : den Try.prog (envOf []) ⟨[⟨5, [1, 3, 4, 5, 7, 8, 9, 10, 11, 12, 13, 14, 15, 16, 17, 18, 19, 20, 21, 25, 26, 27, 28, 29, 30, 31, 34, 35, 36, 37, 38, 39, 40, 41, 42, 43, 44, 45, 32, 33], []⟩], [⟨5, 1, @R_health_New_0 (@l_0)⟩], []⟩ 200 16 [.r (.c (.f (.i .i64 x0))), .r (.c (.sl 0 (.k 0) (.s x1) 1 w0))] [[.a (.s x1) [.i .i64 x2]]] =
    K_health_New  (@l_0) x0 x1 x2 w0 ((Sum.elim (fun (d : Unit) => some (Res.mk (AV.tup [RV.c CV.nilp, RV.c (CV.f (FV.i IntKind.i64 1))]) [Ch.keep] [])) (fun (d : (Nat → Int) × (Nat → Int) × (Nat → Bool) × (Nat → Int) × (Nat → Int) × (Nat → Int)) => some (Res.mk (AV.tup [RV.c (CV.ptr 1 (Off.k 0) 37), RV.c (CV.f (FV.i IntKind.i64 0))]) [Ch.keep]
    [[Sg.a (Sz.l 6)
          [Col.i IntKind.i64 d.fst, Col.i IntKind.i64 d.snd.fst, Col.b d.snd.snd.fst, Col.i IntKind.i64 d.snd.snd.snd.fst, Col.i IntKind.i64 d.snd.snd.snd.snd.fst,
            Col.i IntKind.i64 d.snd.snd.snd.snd.snd],
        Sg.c (CV.f (FV.i IntKind.i64 0))]])))) := by kernel_rfl
theorem m_health_New {ρ σ : Type} (q : ρ → Option σ)  (l_0 : ∀ {ρ : Type}, (Int × Nat × Bool × Int × Int × Nat × (Nat → Int) × (Nat → Int) × (Nat → Int) × (Nat → Bool) × (Nat → Int) × (Nat → Int) × (Nat → Int)) → ((Int × Int × Int × Nat × Bool × Int × Bool × Nat × Bool × Nat × (Nat → Int) × (Nat → Int) × (Nat → Int) × (Nat → Bool) × (Nat → Int) × (Nat → Int) × (Nat → Int) ⊕
  Int × Int × Int × Nat × Bool × Int × Bool × Nat × Bool × Bool × Nat × (Nat → Int) × (Nat → Int) × (Nat → Int) × (Nat → Bool) × (Nat → Int) × (Nat → Int) × (Nat → Int) ⊕
    Int × Nat × Bool × Int × Int × Bool × Nat × (Nat → Int) × (Nat → Int) × (Nat → Int) × (Nat → Bool) × (Nat → Int) × (Nat → Int) × (Nat → Int)) → Option ρ) → Option ρ) (hl_0 : ∀ {ρ σ : Type} (q : ρ → Option σ) (d : Int × Nat × Bool × Int × Int × Nat × (Nat → Int) × (Nat → Int) × (Nat → Int) × (Nat → Bool) × (Nat → Int) × (Nat → Int) × (Nat → Int)) (k : (Int × Int × Int × Nat × Bool × Int × Bool × Nat × Bool × Nat × (Nat → Int) × (Nat → Int) × (Nat → Int) × (Nat → Bool) × (Nat → Int) × (Nat → Int) × (Nat → Int) ⊕
  Int × Int × Int × Nat × Bool × Int × Bool × Nat × Bool × Bool × Nat × (Nat → Int) × (Nat → Int) × (Nat → Int) × (Nat → Bool) × (Nat → Int) × (Nat → Int) × (Nat → Int) ⊕
    Int × Nat × Bool × Int × Int × Bool × Nat × (Nat → Int) × (Nat → Int) × (Nat → Int) × (Nat → Bool) × (Nat → Int) × (Nat → Int) × (Nat → Int)) → Option ρ), (l_0 d k).bind q = l_0 d fun x => (k x).bind q) (x0 : Int) (x1 : Nat) (x2 : Nat → Int) (w0 : Bool) (k : (Unit ⊕ (Nat → Int) × (Nat → Int) × (Nat → Bool) × (Nat → Int) × (Nat → Int) × (Nat → Int)) → Option ρ) : (K_health_New  (@l_0) x0 x1 x2 w0 k).bind q = K_health_New  (@l_0) x0 x1 x2 w0 (fun d => (k d).bind q) := by
  simp only [K_health_New, bnd_cond, bnd_bind, bnd_none, bnd_sum, hl_0]
theorem qa_health_New : ∀ b, (QA_health_New).em b = ([.r (.c (.f (.i .i64 b.1.1))), .r (.c (.sl 0 (.k 0) (.s b.1.2.1.2.2.1) 1 b.1.2.1.2.2.2.2))], [[.a (.s b.2.1.1.1) [.i .i64 b.2.1.1.2.1]]]) := fun b => by kernel_rfl
theorem e_health_New {f : (Int) → (Nat) → (Nat → Int) → (Bool) → Option (Unit ⊕ (Nat → Int) × (Nat → Int) × (Nat → Bool) × (Nat → Int) × (Nat → Int) × (Nat → Int))} {args : List AV} {h : List Blk} {r : Res} (hr : (F_health_New f args h).eval = some r) : ∃ x0 x1 x2 w0, args = [.r (.c (.f (.i .i64 x0))), .r (.c (.sl 0 (.k 0) (.s x1) 1 w0))] ∧ h = [[.a (.s x1) [.i .i64 x2]]] ∧ (f x0 x1 x2 w0).bind ((Sum.elim (fun (d : Unit) => some (Res.mk (AV.tup [RV.c CV.nilp, RV.c (CV.f (FV.i IntKind.i64 1))]) [Ch.keep] [])) (fun (d : (Nat → Int) × (Nat → Int) × (Nat → Bool) × (Nat → Int) × (Nat → Int) × (Nat → Int)) => some (Res.mk (AV.tup [RV.c (CV.ptr 1 (Off.k 0) 37), RV.c (CV.f (FV.i IntKind.i64 0))]) [Ch.keep]
    [[Sg.a (Sz.l 6)
          [Col.i IntKind.i64 d.fst, Col.i IntKind.i64 d.snd.fst, Col.b d.snd.snd.fst, Col.i IntKind.i64 d.snd.snd.snd.fst, Col.i IntKind.i64 d.snd.snd.snd.snd.fst,
            Col.i IntKind.i64 d.snd.snd.snd.snd.snd],
        Sg.c (CV.f (FV.i IntKind.i64 0))]])))) = some r := by
  unfold F_health_New at hr
  split at hr
  · rename_i b hb
    have e := ((QA_health_New).ok _ _ hb).trans (qa_health_New b)
    obtain ⟨he, hr1⟩ := test_eval hr
    clear hr
    have hr := hr1
    clear hr1
    rw [Nat.eq_of_beq_eq_true he] at e
    clear he
    rw [opt_eval2] at hr
    simp only [sum_eval, leaf_eval] at hr
    exact ⟨b.1.1, b.1.2.1.2.2.1, b.2.1.1.2.1, b.1.2.1.2.2.2.2, (Prod.mk.inj e).1, (Prod.mk.inj e).2, hr⟩
  · cases hr
theorem n_health_New {σ : Type} (q : (Unit ⊕ (Nat → Int) × (Nat → Int) × (Nat → Bool) × (Nat → Int) × (Nat → Int) × (Nat → Int)) → Option σ) (x0 : Int) (x1 : Nat) (x2 : Nat → Int) (w0 : Bool) : (f_health_New x0 x1 x2 w0).bind q = K_health_New  (@L_health_New_0) x0 x1 x2 w0 q := by
  unfold f_health_New
  exact m_health_New q  (@L_health_New_0) (fun q d k => mL_health_New_0 q d k) x0 x1 x2 w0 some
theorem s_health_New : Sound Try.prog 16 (F_health_New f_health_New) :=
  (inl_sums (l := []) (.nil _) mixed (hs := ⟨[⟨5, [1, 3, 4, 5, 7, 8, 9, 10, 11, 12, 13, 14, 15, 16, 17, 18, 19, 20, 21, 25, 26, 27, 28, 29, 30, 31, 34, 35, 36, 37, 38, 39, 40, 41, 42, 43, 44, 45, 32, 33], []⟩], [⟨5, 1, @R_health_New_0 (@L_health_New_0)⟩], []⟩) (lf := 200) (Sums.by (l := [loopIn Try.prog 16 5]) (by kernel_rfl) ⟨so_health_New_0, trivial⟩) (by kernel_rfl)).by fun args b r hr => by
  obtain ⟨x0, x1, x2, w0, rfl, rfl, hr1⟩ := e_health_New hr
  exact inl_eval ((d_health_New  (@L_health_New_0) x0 x1 x2 w0).trans ((n_health_New ((Sum.elim (fun (d : Unit) => some (Res.mk (AV.tup [RV.c CV.nilp, RV.c (CV.f (FV.i IntKind.i64 1))]) [Ch.keep] [])) (fun (d : (Nat → Int) × (Nat → Int) × (Nat → Bool) × (Nat → Int) × (Nat → Int) × (Nat → Int)) => some (Res.mk (AV.tup [RV.c (CV.ptr 1 (Off.k 0) 37), RV.c (CV.f (FV.i IntKind.i64 0))]) [Ch.keep]
    [[Sg.a (Sz.l 6)
          [Col.i IntKind.i64 d.fst, Col.i IntKind.i64 d.snd.fst, Col.b d.snd.snd.fst, Col.i IntKind.i64 d.snd.snd.snd.fst, Col.i IntKind.i64 d.snd.snd.snd.snd.fst,
            Col.i IntKind.i64 d.snd.snd.snd.snd.snd],
        Sg.c (CV.f (FV.i IntKind.i64 0))]])))) x0 x1 x2 w0).symm.trans hr1))

def S___health_Monitor__Faults_0 {ρ : Type} (g___health_Sensor__Usable : Int → Int → Int → Bool → Int → Int → Int → Option Bool)  (x0 : Int) (x1 : Int) (x2 : Int) (x3 : Nat → Int) (x4 : Nat → Int) (x5 : Nat → Bool) (x6 : Nat → Int) (x7 : Nat → Int) (x8 : Nat → Int) (x9 : Int) (c : (Int × Int × Int × (Nat → Int) × (Nat → Int) × (Nat → Bool) × (Nat → Int) × (Nat → Int) × (Nat → Int) × Int) → Option ρ) (x : (Int × Int × Int × Bool × (Nat → Int) × (Nat → Int) × (Nat → Bool) × (Nat → Int) × (Nat → Int) × (Nat → Int) × Int) → Option ρ) : Option ρ :=
  bif decide (x2 < 6) then
    bif inR x2 6 then
      bif Nat.ble (2 + Int.toNat x2 * 6 + 1) 36 then
        bif x5 (Int.toNat x2) then
          bif Nat.ble (0 + Int.toNat x2 * 6 + 6) 36 then
            Option.bind (g___health_Sensor__Usable x0 (x3 (Int.toNat x2)) (x4 (Int.toNat x2)) (x5 (Int.toNat x2)) (x6 (Int.toNat x2)) (x7 (Int.toNat x2)) (x8 (Int.toNat x2))) fun (d : Bool) =>
              bif !d then
                bif !decide (x2 < 0) then c (x0, IntKind.wrap IntKind.i64 (x1 + IntKind.wrap IntKind.i64 (1 * 2 ^ min (Int.toNat x2) 64)), IntKind.wrap IntKind.i64 (x2 + 1), x3, x4, x5, x6, x7, x8, x9)
                else none
              else c (x0, x1, IntKind.wrap IntKind.i64 (x2 + 1), x3, x4, x5, x6, x7, x8, x9)
          else none
        else c (x0, x1, IntKind.wrap IntKind.i64 (x2 + 1), x3, x4, x5, x6, x7, x8, x9)
      else none
    else none
  else x (x0, x1, x2, decide (x2 < 6), x3, x4, x5, x6, x7, x8, x9)
section
open Go.Ab.Rdr
def Q___health_Monitor__Faults_0 := (st (cons (ar (rc (cptr (nat 0) (ok' (nat 0)) (nat 37)))) (cons (ar (rc (cf (fi .i64 hole)))) (cons aund (cons aund (cons aund (cons (ar (rc (cf (fi .i64 hole)))) (cons aund (cons aund (cons (ar (rc (cf (fi .i64 hole)))) (cons aund (cons aund (cons aund (cons aund (cons aund (cons aund (cons aund (cons aund (cons aund (cons aund (cons aund (cons aund (cons aund (cons aund (cons aund (cons aund (cons aund (cons aund (cons aund (cons aund (cons aund (cons aund (cons aund (cons aund nil))))))))))))))))))))))))))))))))) (cons (some' (cons (ga (szl (nat 6)) (cons (ki .i64 hole) (cons (ki .i64 hole) (cons (kb hole) (cons (ki .i64 hole) (cons (ki .i64 hole) (cons (ki .i64 hole) nil))))))) (cons (gc (cf (fi .i64 hole))) nil))) nil) nil)
end
theorem q___health_Monitor__Faults_0 : ∀ b, (Q___health_Monitor__Faults_0).em b = St.mk
    [AV.r (RV.c (CV.ptr 0 (Off.k 0) 37)), AV.r (RV.c (CV.f (FV.i IntKind.i64 b.1.2.1))), AV.und, AV.und, AV.und, AV.r (RV.c (CV.f (FV.i IntKind.i64 b.1.2.2.2.2.2.1))), AV.und, AV.und,
      AV.r (RV.c (CV.f (FV.i IntKind.i64 b.1.2.2.2.2.2.2.2.2.1))), AV.und, AV.und, AV.und, AV.und, AV.und, AV.und, AV.und, AV.und, AV.und, AV.und, AV.und, AV.und, AV.und, AV.und, AV.und, AV.und, AV.und, AV.und, AV.und,
      AV.und, AV.und, AV.und, AV.und, AV.und]
    [some [Sg.a (Sz.l 6) [Col.i IntKind.i64 b.2.1.1.1.2.1, Col.i IntKind.i64 b.2.1.1.1.2.2.1, Col.b b.2.1.1.1.2.2.2.1, Col.i IntKind.i64 b.2.1.1.1.2.2.2.2.1, Col.i IntKind.i64 b.2.1.1.1.2.2.2.2.2.1, Col.i IntKind.i64 b.2.1.1.1.2.2.2.2.2.2.1], Sg.c (CV.f (FV.i IntKind.i64 b.2.1.1.2.1))]] [] := fun b => by kernel_rfl
def R___health_Monitor__Faults_0 (l : ∀ {ρ : Type}, (Int × Int × Int × (Nat → Int) × (Nat → Int) × (Nat → Bool) × (Nat → Int) × (Nat → Int) × (Nat → Int) × Int) → ((Int × Int × Int × Bool × (Nat → Int) × (Nat → Int) × (Nat → Bool) × (Nat → Int) × (Nat → Int) × (Nat → Int) × Int) → Option ρ) → Option ρ) {ρ : Type} (s : St) (K : AX → St → Option ρ) : Option ρ := ((Q___health_Monitor__Faults_0).rd s).bind fun b => l (b.1.2.1, b.1.2.2.2.2.2.1, b.1.2.2.2.2.2.2.2.2.1, b.2.1.1.1.2.1, b.2.1.1.1.2.2.1, b.2.1.1.1.2.2.2.1, b.2.1.1.1.2.2.2.2.1, b.2.1.1.1.2.2.2.2.2.1, b.2.1.1.1.2.2.2.2.2.2.1, b.2.1.1.2.1) (fun d => K (AX.ex 0) (St.mk
  [AV.r (RV.c (CV.ptr 0 (Off.k 0) 37)), AV.r (RV.c (CV.f (FV.i IntKind.i64 d.fst))), AV.und, AV.und, AV.und, AV.r (RV.c (CV.f (FV.i IntKind.i64 d.snd.fst))), AV.und, AV.und,
    AV.r (RV.c (CV.f (FV.i IntKind.i64 d.snd.snd.fst))), AV.r (RV.c (CV.f (FV.b d.snd.snd.snd.fst))), AV.und, AV.und, AV.und, AV.und, AV.und, AV.und, AV.und, AV.und, AV.und, AV.und, AV.und, AV.und,
    AV.und, AV.und, AV.und, AV.und, AV.und, AV.und, AV.und, AV.und, AV.und, AV.und, AV.und]
  [some
      [Sg.a (Sz.l 6)
          [Col.i IntKind.i64 d.snd.snd.snd.snd.fst, Col.i IntKind.i64 d.snd.snd.snd.snd.snd.fst, Col.b d.snd.snd.snd.snd.snd.snd.fst, Col.i IntKind.i64 d.snd.snd.snd.snd.snd.snd.snd.fst,
            Col.i IntKind.i64 d.snd.snd.snd.snd.snd.snd.snd.snd.fst, Col.i IntKind.i64 d.snd.snd.snd.snd.snd.snd.snd.snd.snd.fst],
        Sg.c (CV.f (FV.i IntKind.i64 d.snd.snd.snd.snd.snd.snd.snd.snd.snd.snd))]]
  []))
theorem ms___health_Monitor__Faults_0 {ρ σ : Type} (g___health_Sensor__Usable : Int → Int → Int → Bool → Int → Int → Int → Option Bool)   (q : ρ → Option σ) (x0 : Int) (x1 : Int) (x2 : Int) (x3 : Nat → Int) (x4 : Nat → Int) (x5 : Nat → Bool) (x6 : Nat → Int) (x7 : Nat → Int) (x8 : Nat → Int) (x9 : Int) (c : (Int × Int × Int × (Nat → Int) × (Nat → Int) × (Nat → Bool) × (Nat → Int) × (Nat → Int) × (Nat → Int) × Int) → Option ρ) (x : (Int × Int × Int × Bool × (Nat → Int) × (Nat → Int) × (Nat → Bool) × (Nat → Int) × (Nat → Int) × (Nat → Int) × Int) → Option ρ) : (S___health_Monitor__Faults_0 g___health_Sensor__Usable  x0 x1 x2 x3 x4 x5 x6 x7 x8 x9 c x).bind q = S___health_Monitor__Faults_0 g___health_Sensor__Usable  x0 x1 x2 x3 x4 x5 x6 x7 x8 x9 (fun d => (c d).bind q) (fun d => (x d).bind q) := by
  simp only [S___health_Monitor__Faults_0, bnd_cond, bnd_bind, bnd_none, bnd_sum]
def L___health_Monitor__Faults_0 {ρ : Type} (d : Int × Int × Int × (Nat → Int) × (Nat → Int) × (Nat → Bool) × (Nat → Int) × (Nat → Int) × (Nat → Int) × Int) (k : (Int × Int × Int × Bool × (Nat → Int) × (Nat → Int) × (Nat → Bool) × (Nat → Int) × (Nat → Int) × (Nat → Int) × Int) → Option ρ) : Option ρ := loopK (fun d c x => S___health_Monitor__Faults_0 f___health_Sensor__Usable  d.1 d.2.1 d.2.2.1 d.2.2.2.1 d.2.2.2.2.1 d.2.2.2.2.2.1 d.2.2.2.2.2.2.1 d.2.2.2.2.2.2.2.1 d.2.2.2.2.2.2.2.2.1 d.2.2.2.2.2.2.2.2.2 c x) 200 d k
theorem mL___health_Monitor__Faults_0 {ρ σ : Type} (q : ρ → Option σ) (d : Int × Int × Int × (Nat → Int) × (Nat → Int) × (Nat → Bool) × (Nat → Int) × (Nat → Int) × (Nat → Int) × Int) (k : (Int × Int × Int × Bool × (Nat → Int) × (Nat → Int) × (Nat → Bool) × (Nat → Int) × (Nat → Int) × (Nat → Int) × Int) → Option ρ) : (L___health_Monitor__Faults_0 d k).bind q = L___health_Monitor__Faults_0 d fun x => (k x).bind q :=
  loopK_bind q (fun d c x => ms___health_Monitor__Faults_0 f___health_Sensor__Usable   q d.1 d.2.1 d.2.2.1 d.2.2.2.1 d.2.2.2.2.1 d.2.2.2.2.2.1 d.2.2.2.2.2.2.1 d.2.2.2.2.2.2.2.1 d.2.2.2.2.2.2.2.2.1 d.2.2.2.2.2.2.2.2.2 c x) k _ d
theorem ds___health_Monitor__Faults_0 {ρ : Type} (g___health_Sensor__Usable : Int → Int → Int → Bool → Int → Int → Int → Option Bool) (l_0 : ∀ {ρ : Type}, (Int × Int × Int × (Nat → Int) × (Nat → Int) × (Nat → Bool) × (Nat → Int) × (Nat → Int) × (Nat → Int) × Int) → ((Int × Int × Int × Bool × (Nat → Int) × (Nat → Int) × (Nat → Bool) × (Nat → Int) × (Nat → Int) × (Nat → Int) × Int) → Option ρ) → Option ρ) (x0 : Int) (x1 : Int) (x2 : Int) (x3 : Nat → Int) (x4 : Nat → Int) (x5 : Nat → Bool) (x6 : Nat → Int) (x7 : Nat → Int) (x8 : Nat → Int) (x9 : Int) (c : St → Option ρ) (K : AX → St → Option ρ) :
    runC Try.prog (envOf [(27, F___health_Sensor__Usable g___health_Sensor__Usable)]) ⟨[⟨3, [2, 3, 4, 6, 7, 9, 10, 11, 12, 13, 14, 15, 16, 17, 18, 19, 20, 21, 26, 27, 28, 29, 30, 31, 32, 22, 23, 24, 25], []⟩], [⟨3, 1, @R___health_Monitor__Faults_0 (@l_0)⟩], []⟩ (tmpsOf Try.prog 19) 1 200 (loopIn Try.prog 19 3)
      (St.mk
    [AV.r (RV.c (CV.ptr 0 (Off.k 0) 37)), AV.r (RV.c (CV.f (FV.i IntKind.i64 x0))), AV.und, AV.und, AV.und, AV.r (RV.c (CV.f (FV.i IntKind.i64 x1))), AV.und, AV.und,
      AV.r (RV.c (CV.f (FV.i IntKind.i64 x2))), AV.und, AV.und, AV.und, AV.und, AV.und, AV.und, AV.und, AV.und, AV.und, AV.und, AV.und, AV.und, AV.und, AV.und, AV.und, AV.und, AV.und, AV.und, AV.und,
      AV.und, AV.und, AV.und, AV.und, AV.und]
    [some [Sg.a (Sz.l 6) [Col.i IntKind.i64 x3, Col.i IntKind.i64 x4, Col.b x5, Col.i IntKind.i64 x6, Col.i IntKind.i64 x7, Col.i IntKind.i64 x8], Sg.c (CV.f (FV.i IntKind.i64 x9))]] [])
      (next (fun t => t.head 1 ⟨[⟨3, [2, 3, 4, 6, 7, 9, 10, 11, 12, 13, 14, 15, 16, 17, 18, 19, 20, 21, 26, 27, 28, 29, 30, 31, 32, 22, 23, 24, 25], []⟩], [⟨3, 1, @R___health_Monitor__Faults_0 (@l_0)⟩], []⟩ (loopIn Try.prog 19 3)) c K) =
    S___health_Monitor__Faults_0 g___health_Sensor__Usable  x0 x1 x2 x3 x4 x5 x6 x7 x8 x9 (fun d => c (St.mk
  [AV.r (RV.c (CV.ptr 0 (Off.k 0) 37)), AV.r (RV.c (CV.f (FV.i IntKind.i64 d.fst))), AV.und, AV.und, AV.und, AV.r (RV.c (CV.f (FV.i IntKind.i64 d.snd.fst))), AV.und, AV.und,
    AV.r (RV.c (CV.f (FV.i IntKind.i64 d.snd.snd.fst))), AV.und, AV.und, AV.und, AV.und, AV.und, AV.und, AV.und, AV.und, AV.und, AV.und, AV.und, AV.und, AV.und, AV.und, AV.und, AV.und, AV.und, AV.und,
    AV.und, AV.und, AV.und, AV.und, AV.und, AV.und]
  [some
      [Sg.a (Sz.l 6)
          [Col.i IntKind.i64 d.snd.snd.snd.fst, Col.i IntKind.i64 d.snd.snd.snd.snd.fst, Col.b d.snd.snd.snd.snd.snd.fst, Col.i IntKind.i64 d.snd.snd.snd.snd.snd.snd.fst,
            Col.i IntKind.i64 d.snd.snd.snd.snd.snd.snd.snd.fst, Col.i IntKind.i64 d.snd.snd.snd.snd.snd.snd.snd.snd.fst],
        Sg.c (CV.f (FV.i IntKind.i64 d.snd.snd.snd.snd.snd.snd.snd.snd.snd))]]
  [])) (fun d => K (AX.ex 0) (St.mk
  [AV.r (RV.c (CV.ptr 0 (Off.k 0) 37)), AV.r (RV.c (CV.f (FV.i IntKind.i64 d.fst))), AV.und, AV.und, AV.und, AV.r (RV.c (CV.f (FV.i IntKind.i64 d.snd.fst))), AV.und, AV.und,
    AV.r (RV.c (CV.f (FV.i IntKind.i64 d.snd.snd.fst))), AV.r (RV.c (CV.f (FV.b d.snd.snd.snd.fst))), AV.und, AV.und, AV.und, AV.und, AV.und, AV.und, AV.und, AV.und, AV.und, AV.und, AV.und, AV.und,
    AV.und, AV.und, AV.und, AV.und, AV.und, AV.und, AV.und, AV.und, AV.und, AV.und, AV.und]
  [some
      [Sg.a (Sz.l 6)
          [Col.i IntKind.i64 d.snd.snd.snd.snd.fst, Col.i IntKind.i64 d.snd.snd.snd.snd.snd.fst, Col.b d.snd.snd.snd.snd.snd.snd.fst, Col.i IntKind.i64 d.snd.snd.snd.snd.snd.snd.snd.fst,
            Col.i IntKind.i64 d.snd.snd.snd.snd.snd.snd.snd.snd.fst, Col.i IntKind.i64 d.snd.snd.snd.snd.snd.snd.snd.snd.snd.fst],
        Sg.c (CV.f (FV.i IntKind.i64 d.snd.snd.snd.snd.snd.snd.snd.snd.snd.snd))]]
  [])) := by kernel_rfl
theorem it___health_Monitor__Faults_0 {ρ : Type} (x0 : Int) (x1 : Int) (x2 : Int) (x3 : Nat → Int) (x4 : Nat → Int) (x5 : Nat → Bool) (x6 : Nat → Int) (x7 : Nat → Int) (x8 : Nat → Int) (x9 : Int) (K : AX → St → Option ρ) :
    iter (fun t => t.head 1 ⟨[⟨3, [2, 3, 4, 6, 7, 9, 10, 11, 12, 13, 14, 15, 16, 17, 18, 19, 20, 21, 26, 27, 28, 29, 30, 31, 32, 22, 23, 24, 25], []⟩], [⟨3, 1, @R___health_Monitor__Faults_0 (@L___health_Monitor__Faults_0)⟩], []⟩ (loopIn Try.prog 19 3)) (runC Try.prog (envOf [(27, F___health_Sensor__Usable f___health_Sensor__Usable)]) ⟨[⟨3, [2, 3, 4, 6, 7, 9, 10, 11, 12, 13, 14, 15, 16, 17, 18, 19, 20, 21, 26, 27, 28, 29, 30, 31, 32, 22, 23, 24, 25], []⟩], [⟨3, 1, @R___health_Monitor__Faults_0 (@L___health_Monitor__Faults_0)⟩], []⟩ (tmpsOf Try.prog 19) 1 200 (loopIn Try.prog 19 3)) K 200
      (St.mk
    [AV.r (RV.c (CV.ptr 0 (Off.k 0) 37)), AV.r (RV.c (CV.f (FV.i IntKind.i64 x0))), AV.und, AV.und, AV.und, AV.r (RV.c (CV.f (FV.i IntKind.i64 x1))), AV.und, AV.und,
      AV.r (RV.c (CV.f (FV.i IntKind.i64 x2))), AV.und, AV.und, AV.und, AV.und, AV.und, AV.und, AV.und, AV.und, AV.und, AV.und, AV.und, AV.und, AV.und, AV.und, AV.und, AV.und, AV.und, AV.und, AV.und,
      AV.und, AV.und, AV.und, AV.und, AV.und]
    [some [Sg.a (Sz.l 6) [Col.i IntKind.i64 x3, Col.i IntKind.i64 x4, Col.b x5, Col.i IntKind.i64 x6, Col.i IntKind.i64 x7, Col.i IntKind.i64 x8], Sg.c (CV.f (FV.i IntKind.i64 x9))]] []) = L___health_Monitor__Faults_0 (x0, x1, x2, x3, x4, x5, x6, x7, x8, x9) (fun d => K (AX.ex 0) (St.mk
  [AV.r (RV.c (CV.ptr 0 (Off.k 0) 37)), AV.r (RV.c (CV.f (FV.i IntKind.i64 d.fst))), AV.und, AV.und, AV.und, AV.r (RV.c (CV.f (FV.i IntKind.i64 d.snd.fst))), AV.und, AV.und,
    AV.r (RV.c (CV.f (FV.i IntKind.i64 d.snd.snd.fst))), AV.r (RV.c (CV.f (FV.b d.snd.snd.snd.fst))), AV.und, AV.und, AV.und, AV.und, AV.und, AV.und, AV.und, AV.und, AV.und, AV.und, AV.und, AV.und,
    AV.und, AV.und, AV.und, AV.und, AV.und, AV.und, AV.und, AV.und, AV.und, AV.und, AV.und]
  [some
      [Sg.a (Sz.l 6)
          [Col.i IntKind.i64 d.snd.snd.snd.snd.fst, Col.i IntKind.i64 d.snd.snd.snd.snd.snd.fst, Col.b d.snd.snd.snd.snd.snd.snd.fst, Col.i IntKind.i64 d.snd.snd.snd.snd.snd.snd.snd.fst,
            Col.i IntKind.i64 d.snd.snd.snd.snd.snd.snd.snd.snd.fst, Col.i IntKind.i64 d.snd.snd.snd.snd.snd.snd.snd.snd.snd.fst],
        Sg.c (CV.f (FV.i IntKind.i64 d.snd.snd.snd.snd.snd.snd.snd.snd.snd.snd))]]
  [])) :=
  iter_loopX (emb := fun (d : Int × Int × Int × (Nat → Int) × (Nat → Int) × (Nat → Bool) × (Nat → Int) × (Nat → Int) × (Nat → Int) × Int) => St.mk
  [AV.r (RV.c (CV.ptr 0 (Off.k 0) 37)), AV.r (RV.c (CV.f (FV.i IntKind.i64 d.fst))), AV.und, AV.und, AV.und, AV.r (RV.c (CV.f (FV.i IntKind.i64 d.snd.fst))), AV.und, AV.und,
    AV.r (RV.c (CV.f (FV.i IntKind.i64 d.snd.snd.fst))), AV.und, AV.und, AV.und, AV.und, AV.und, AV.und, AV.und, AV.und, AV.und, AV.und, AV.und, AV.und, AV.und, AV.und, AV.und, AV.und, AV.und, AV.und,
    AV.und, AV.und, AV.und, AV.und, AV.und, AV.und]
  [some
      [Sg.a (Sz.l 6)
          [Col.i IntKind.i64 d.snd.snd.snd.fst, Col.i IntKind.i64 d.snd.snd.snd.snd.fst, Col.b d.snd.snd.snd.snd.snd.fst, Col.i IntKind.i64 d.snd.snd.snd.snd.snd.snd.fst,
            Col.i IntKind.i64 d.snd.snd.snd.snd.snd.snd.snd.fst, Col.i IntKind.i64 d.snd.snd.snd.snd.snd.snd.snd.snd.fst],
        Sg.c (CV.f (FV.i IntKind.i64 d.snd.snd.snd.snd.snd.snd.snd.snd.snd))]]
  []) (step := fun d c x => S___health_Monitor__Faults_0 f___health_Sensor__Usable  d.1 d.2.1 d.2.2.1 d.2.2.2.1 d.2.2.2.2.1 d.2.2.2.2.2.1 d.2.2.2.2.2.2.1 d.2.2.2.2.2.2.2.1 d.2.2.2.2.2.2.2.2.1 d.2.2.2.2.2.2.2.2.2 c x) (kx := (fun d => K (AX.ex 0) (St.mk
  [AV.r (RV.c (CV.ptr 0 (Off.k 0) 37)), AV.r (RV.c (CV.f (FV.i IntKind.i64 d.fst))), AV.und, AV.und, AV.und, AV.r (RV.c (CV.f (FV.i IntKind.i64 d.snd.fst))), AV.und, AV.und,
    AV.r (RV.c (CV.f (FV.i IntKind.i64 d.snd.snd.fst))), AV.r (RV.c (CV.f (FV.b d.snd.snd.snd.fst))), AV.und, AV.und, AV.und, AV.und, AV.und, AV.und, AV.und, AV.und, AV.und, AV.und, AV.und, AV.und,
    AV.und, AV.und, AV.und, AV.und, AV.und, AV.und, AV.und, AV.und, AV.und, AV.und, AV.und]
  [some
      [Sg.a (Sz.l 6)
          [Col.i IntKind.i64 d.snd.snd.snd.snd.fst, Col.i IntKind.i64 d.snd.snd.snd.snd.snd.fst, Col.b d.snd.snd.snd.snd.snd.snd.fst, Col.i IntKind.i64 d.snd.snd.snd.snd.snd.snd.snd.fst,
            Col.i IntKind.i64 d.snd.snd.snd.snd.snd.snd.snd.snd.fst, Col.i IntKind.i64 d.snd.snd.snd.snd.snd.snd.snd.snd.snd.fst],
        Sg.c (CV.f (FV.i IntKind.i64 d.snd.snd.snd.snd.snd.snd.snd.snd.snd.snd))]]
  [])))
    (fun d c => ds___health_Monitor__Faults_0 f___health_Sensor__Usable (@L___health_Monitor__Faults_0) d.1 d.2.1 d.2.2.1 d.2.2.2.1 d.2.2.2.2.1 d.2.2.2.2.2.1 d.2.2.2.2.2.2.1 d.2.2.2.2.2.2.2.1 d.2.2.2.2.2.2.2.2.1 d.2.2.2.2.2.2.2.2.2 c K) 200 (x0, x1, x2, x3, x4, x5, x6, x7, x8, x9)
theorem so___health_Monitor__Faults_0 : ∀ kk, SumOK Try.prog (envOf [(27, F___health_Sensor__Usable f___health_Sensor__Usable)]) ⟨[⟨3, [2, 3, 4, 6, 7, 9, 10, 11, 12, 13, 14, 15, 16, 17, 18, 19, 20, 21, 26, 27, 28, 29, 30, 31, 32, 22, 23, 24, 25], []⟩], [⟨3, 1, @R___health_Monitor__Faults_0 (@L___health_Monitor__Faults_0)⟩], []⟩ (tmpsOf Try.prog 19) kk 200 (loopIn Try.prog 19 3) :=
  SumOK.of (id := 3) (k0 := 1) (run := @R___health_Monitor__Faults_0 (@L___health_Monitor__Faults_0)) (by kernel_rfl) fun s K r hr => by
    unfold R___health_Monitor__Faults_0 at hr
    obtain ⟨b, hb, hr1⟩ := Option.bind_eq_some_iff.1 hr
    have e := ((Q___health_Monitor__Faults_0).ok s b hb).trans (q___health_Monitor__Faults_0 b)
    subst e
    exact ⟨200, (it___health_Monitor__Faults_0 b.1.2.1 b.1.2.2.2.2.2.1 b.1.2.2.2.2.2.2.2.2.1 b.2.1.1.1.2.1 b.2.1.1.1.2.2.1 b.2.1.1.1.2.2.2.1 b.2.1.1.1.2.2.2.2.1 b.2.1.1.1.2.2.2.2.2.1 b.2.1.1.1.2.2.2.2.2.2.1 b.2.1.1.2.1 K).trans hr1⟩
def K___health_Monitor__Faults {ρ : Type} (g___health_Sensor__Usable : Int → Int → Int → Bool → Int → Int → Int → Option Bool) (l_0 : ∀ {ρ : Type}, (Int × Int × Int × (Nat → Int) × (Nat → Int) × (Nat → Bool) × (Nat → Int) × (Nat → Int) × (Nat → Int) × Int) → ((Int × Int × Int × Bool × (Nat → Int) × (Nat → Int) × (Nat → Bool) × (Nat → Int) × (Nat → Int) × (Nat → Int) × Int) → Option ρ) → Option ρ) (x0 : Int) (x1 : Nat → Int) (x2 : Nat → Int) (x3 : Nat → Bool) (x4 : Nat → Int) (x5 : Nat → Int) (x6 : Nat → Int) (x7 : Int) (k : (Int) → Option ρ) : Option ρ :=
  l_0 (x0, 0, 0, x1, x2, x3, x4, x5, x6, x7) fun (d : Int × Int × Int × Bool × (Nat → Int) × (Nat → Int) × (Nat → Bool) × (Nat → Int) × (Nat → Int) × (Nat → Int) × Int) => k d.snd.fst
def f___health_Monitor__Faults (x0 : Int) (x1 : Nat → Int) (x2 : Nat → Int) (x3 : Nat → Bool) (x4 : Nat → Int) (x5 : Nat → Int) (x6 : Nat → Int) (x7 : Int) : Option (Int) := K___health_Monitor__Faults f___health_Sensor__Usable (@L___health_Monitor__Faults_0) x0 x1 x2 x3 x4 x5 x6 x7 some
section
open Go.Ab.Rdr
def QA___health_Monitor__Faults := ((pair (cons (ar (rc (cptr (nat 0) (ok' (nat 0)) (nat 37)))) (cons (ar (rc (cf (fi .i64 hole)))) nil)) (cons (cons (ga (szl (nat 6)) (cons (ki .i64 hole) (cons (ki .i64 hole) (cons (kb hole) (cons (ki .i64 hole) (cons (ki .i64 hole) (cons (ki .i64 hole) nil))))))) (cons (gc (cf (fi .i64 hole))) nil)) nil)) : Rdr (List AV × List Blk) _)
end
def F___health_Monitor__Faults (f : (Int) → (Nat → Int) → (Nat → Int) → (Nat → Bool) → (Nat → Int) → (Nat → Int) → (Nat → Int) → (Int) → Option (Int)) : Sem1 := fun args h => match (QA___health_Monitor__Faults).rd (args, h) with
  | some b => .opt (f b.1.2.1 b.2.1.1.2.1 b.2.1.1.2.2.1 b.2.1.1.2.2.2.1 b.2.1.1.2.2.2.2.1 b.2.1.1.2.2.2.2.2.1 b.2.1.1.2.2.2.2.2.2.1 b.2.1.2.1) fun (d : Int) => .leaf (Res.mk (AV.r (RV.c (CV.f (FV.i IntKind.i64 d)))) [Ch.keep] [])
  | none => .fail
theorem d___health_Monitor__Faults (g___health_Sensor__Usable : Int → Int → Int → Bool → Int → Int → Int → Option Bool) (l_0 : ∀ {ρ : Type}, (Int × Int × Int × (Nat → Int) × (Nat → Int) × (Nat → Bool) × (Nat → Int) × (Nat → Int) × (Nat → Int) × Int) → ((Int × Int × Int × Bool × (Nat → Int) × (Nat → Int) × (Nat → Bool) × (Nat → Int) × (Nat → Int) × (Nat → Int) × Int) → Option ρ) → Option ρ) (x0 : Int) (x1 : Nat → Int) (x2 : Nat → Int) (x3 : Nat → Bool) (x4 : Nat → Int) (x5 : Nat → Int) (x6 : Nat → Int) (x7 : Int) : den Try.prog (envOf [(27, F___health_Sensor__Usable g___health_Sensor__Usable)]) ⟨[⟨3, [2, 3, 4, 6, 7, 9, 10, 11, 12, 13, 14, 15, 16, 17, 18, 19, 20, 21, 26, 27, 28, 29, 30, 31, 32, 22, 23, 24, 25], []⟩], [⟨3, 1, @R___health_Monitor__Faults_0 (@l_0)⟩], []⟩ 200 19 [.r (.c (.ptr 0 (.k 0) 37)), .r (.c (.f (.i .i64 x0)))] [[.a (.l 6) [.i .i64 x1, .i .i64 x2, .b x3, .i .i64 x4, .i .i64 x5, .i .i64 x6], .c (.f (.i .i64 x7))]] =
    K___health_Monitor__Faults g___health_Sensor__Usable (@l_0) x0 x1 x2 x3 x4 x5 x6 x7 (fun (d : Int) => some (Res.mk (AV.r (RV.c (CV.f (FV.i IntKind.i64 d)))) [Ch.keep] [])) := by kernel_rfl
theorem m___health_Monitor__Faults {ρ σ : Type} (q : ρ → Option σ) (g___health_Sensor__Usable : Int → Int → Int → Bool → Int → Int → Int → Option Bool) (l_0 : ∀ {ρ : Type}, (Int × Int × Int × (Nat → Int) × (Nat → Int) × (Nat → Bool) × (Nat → Int) × (Nat → Int) × (Nat → Int) × Int) → ((Int × Int × Int × Bool × (Nat → Int) × (Nat → Int) × (Nat → Bool) × (Nat → Int) × (Nat → Int) × (Nat → Int) × Int) → Option ρ) → Option ρ) (hl_0 : ∀ {ρ σ : Type} (q : ρ → Option σ) (d : Int × Int × Int × (Nat → Int) × (Nat → Int) × (Nat → Bool) × (Nat → Int) × (Nat → Int) × (Nat → Int) × Int) (k : (Int × Int × Int × Bool × (Nat → Int) × (Nat → Int) × (Nat → Bool) × (Nat → Int) × (Nat → Int) × (Nat → Int) × Int) → Option ρ), (l_0 d k).bind q = l_0 d fun x => (k x).bind q) (x0 : Int) (x1 : Nat → Int) (x2 : Nat → Int) (x3 : Nat → Bool) (x4 : Nat → Int) (x5 : Nat → Int) (x6 : Nat → Int) (x7 : Int) (k : (Int) → Option ρ) : (K___health_Monitor__Faults g___health_Sensor__Usable (@l_0) x0 x1 x2 x3 x4 x5 x6 x7 k).bind q = K___health_Monitor__Faults g___health_Sensor__Usable (@l_0) x0 x1 x2 x3 x4 x5 x6 x7 (fun d => (k d).bind q) := by
  simp only [K___health_Monitor__Faults, bnd_cond, bnd_bind, bnd_none, bnd_sum, hl_0]
theorem qa___health_Monitor__Faults : ∀ b, (QA___health_Monitor__Faults).em b = ([.r (.c (.ptr 0 (.k 0) 37)), .r (.c (.f (.i .i64 b.1.2.1)))], [[.a (.l 6) [.i .i64 b.2.1.1.2.1, .i .i64 b.2.1.1.2.2.1, .b b.2.1.1.2.2.2.1, .i .i64 b.2.1.1.2.2.2.2.1, .i .i64 b.2.1.1.2.2.2.2.2.1, .i .i64 b.2.1.1.2.2.2.2.2.2.1], .c (.f (.i .i64 b.2.1.2.1))]]) := fun b => by kernel_rfl
theorem e___health_Monitor__Faults {f : (Int) → (Nat → Int) → (Nat → Int) → (Nat → Bool) → (Nat → Int) → (Nat → Int) → (Nat → Int) → (Int) → Option (Int)} {args : List AV} {h : List Blk} {r : Res} (hr : (F___health_Monitor__Faults f args h).eval = some r) : ∃ x0 x1 x2 x3 x4 x5 x6 x7, args = [.r (.c (.ptr 0 (.k 0) 37)), .r (.c (.f (.i .i64 x0)))] ∧ h = [[.a (.l 6) [.i .i64 x1, .i .i64 x2, .b x3, .i .i64 x4, .i .i64 x5, .i .i64 x6], .c (.f (.i .i64 x7))]] ∧ (f x0 x1 x2 x3 x4 x5 x6 x7).bind (fun (d : Int) => some (Res.mk (AV.r (RV.c (CV.f (FV.i IntKind.i64 d)))) [Ch.keep] [])) = some r := by
  unfold F___health_Monitor__Faults at hr
  split at hr
  · rename_i b hb
    have e := ((QA___health_Monitor__Faults).ok _ _ hb).trans (qa___health_Monitor__Faults b)
    rw [opt_eval2] at hr
    exact ⟨b.1.2.1, b.2.1.1.2.1, b.2.1.1.2.2.1, b.2.1.1.2.2.2.1, b.2.1.1.2.2.2.2.1, b.2.1.1.2.2.2.2.2.1, b.2.1.1.2.2.2.2.2.2.1, b.2.1.2.1, (Prod.mk.inj e).1, (Prod.mk.inj e).2, hr⟩
  · cases hr
theorem n___health_Monitor__Faults {σ : Type} (q : (Int) → Option σ) (x0 : Int) (x1 : Nat → Int) (x2 : Nat → Int) (x3 : Nat → Bool) (x4 : Nat → Int) (x5 : Nat → Int) (x6 : Nat → Int) (x7 : Int) : (f___health_Monitor__Faults x0 x1 x2 x3 x4 x5 x6 x7).bind q = K___health_Monitor__Faults f___health_Sensor__Usable (@L___health_Monitor__Faults_0) x0 x1 x2 x3 x4 x5 x6 x7 q := by
  unfold f___health_Monitor__Faults
  exact m___health_Monitor__Faults q f___health_Sensor__Usable (@L___health_Monitor__Faults_0) (fun q d k => mL___health_Monitor__Faults_0 q d k) x0 x1 x2 x3 x4 x5 x6 x7 some
theorem s___health_Monitor__Faults : Sound Try.prog 19 (F___health_Monitor__Faults f___health_Monitor__Faults) :=
  (inl_sums (l := [(27, F___health_Sensor__Usable f___health_Sensor__Usable)]) (.cons s___health_Sensor__Usable (.nil _)) mixed (hs := ⟨[⟨3, [2, 3, 4, 6, 7, 9, 10, 11, 12, 13, 14, 15, 16, 17, 18, 19, 20, 21, 26, 27, 28, 29, 30, 31, 32, 22, 23, 24, 25], []⟩], [⟨3, 1, @R___health_Monitor__Faults_0 (@L___health_Monitor__Faults_0)⟩], []⟩) (lf := 200) (Sums.by (l := [loopIn Try.prog 19 3]) (by kernel_rfl) ⟨so___health_Monitor__Faults_0, trivial⟩) (by kernel_rfl)).by fun args b r hr => by
  obtain ⟨x0, x1, x2, x3, x4, x5, x6, x7, rfl, rfl, hr1⟩ := e___health_Monitor__Faults hr
  exact inl_eval ((d___health_Monitor__Faults f___health_Sensor__Usable (@L___health_Monitor__Faults_0) x0 x1 x2 x3 x4 x5 x6 x7).trans ((n___health_Monitor__Faults (fun (d : Int) => some (Res.mk (AV.r (RV.c (CV.f (FV.i IntKind.i64 d)))) [Ch.keep] [])) x0 x1 x2 x3 x4 x5 x6 x7).symm.trans hr1))

def S_astrolabelaw24_awake_0 {ρ : Type} (g_health_New : Int → Nat → (Nat → Int) → Bool → Option (Unit ⊕ (Nat → Int) × (Nat → Int) × (Nat → Bool) × (Nat → Int) × (Nat → Int) × (Nat → Int))) (g___health_Monitor__Result : Int →
  Int →
    Nat →
      (Nat → Int) →
        (Nat → Int) →
          (Nat → Bool) →
            (Nat → Int) →
              (Nat → Int) → (Nat → Int) → Int → (Nat → Bool) → (Nat → Int) → (Nat → Int) → Bool → Option ((Nat → Int) × (Nat → Int) × (Nat → Bool) × (Nat → Int) × (Nat → Int) × (Nat → Int) × Int)) (g___health_Watch__Mark : Int → Int → Int → Bool → Option Int) (g___health_Watch__Miss : Int → Int → Bool → Option (Int × Int × Bool)) (g___health_Monitor__Sensor : Int → (Nat → Int) → (Nat → Int) → (Nat → Bool) → (Nat → Int) → (Nat → Int) → (Nat → Int) → Int → Option (Int × Int × Bool × Int × Int × Int)) (g___health_Monitor__Vertical : Bool →
  Int →
    Int →
      Bool →
        Int →
          Int →
            (Nat → Int) → (Nat → Int) → (Nat → Bool) → (Nat → Int) → (Nat → Int) → (Nat → Int) → Int → Option ((Nat → Int) × (Nat → Int) × (Nat → Bool) × (Nat → Int) × (Nat → Int) × (Nat → Int) × Int)) (g___health_Monitor__Usable : Int → Int → (Nat → Int) → (Nat → Int) → (Nat → Bool) → (Nat → Int) → (Nat → Int) → (Nat → Int) → Int → Option Bool) (g___health_Monitor__Faults : Int → (Nat → Int) → (Nat → Int) → (Nat → Bool) → (Nat → Int) → (Nat → Int) → (Nat → Int) → Int → Option Int) (g___health_Watch__Fresh : Int → Int → Int → Int → Bool → Option Bool) (g___health_Sensor__Usable : Int → Int → Int → Bool → Int → Int → Int → Option Bool) (g___health_Monitor__Bad : (Nat → Int) → (Nat → Int) → (Nat → Bool) → (Nat → Int) → (Nat → Int) → (Nat → Int) → Int → Option Bool)  (x0 : Int) (x1 : Int) (x2 : Int) (x3 : Bool) (x4 : Nat → Int) (x5 : Nat → Int) (x6 : Nat → Bool) (x7 : Nat → Int) (x8 : Nat → Int) (x9 : Nat → Int) (x10 : Int) (x11 : Int) (x12 : Int) (x13 : Bool) (x14 : Int) (x15 : Int) (x16 : Bool) (x17 : Int) (x18 : Int) (x19 : Bool) (x20 : Int) (x21 : Int) (x22 : Int) (c : (Int × Int × Int × Bool × (Nat → Int) × (Nat → Int) × (Nat → Bool) × (Nat → Int) × (Nat → Int) × (Nat → Int) × Int × Int × Int × Bool × Int × Int × Bool × Int × Int × Bool × Int × Int × Int) → Option ρ) (x : (Int × Int × Int × Bool × Bool × (Nat → Int) × (Nat → Int) × (Nat → Bool) × (Nat → Int) × (Nat → Int) × (Nat → Int) × Int × Int × Int × Bool × Int × Int × Bool × Int × Int × Bool × Int × Int × Int) → Option ρ) : Option ρ :=
  bif decide (x0 < 10) then
    Option.bind (g___health_Monitor__Vertical false 1 0 false 2 0 x4 x5 x6 x7 x8 x9 x10) fun (d : (Nat → Int) × (Nat → Int) × (Nat → Bool) × (Nat → Int) × (Nat → Int) × (Nat → Int) × Int) =>
      c
        (IntKind.wrap IntKind.i64 (x0 + 1), x1, x2, x3, d.1, d.snd.1, d.snd.snd.1, d.snd.snd.snd.1, d.snd.snd.snd.snd.1, d.snd.snd.snd.snd.snd.1, d.snd.snd.snd.snd.snd.snd, x11, x12, x13, x14, x15, x16,
          x17, x18, x19, x20, x21, x22)
  else x (x0, x1, x2, x3, decide (x0 < 10), x4, x5, x6, x7, x8, x9, x10, x11, x12, x13, x14, x15, x16, x17, x18, x19, x20, x21, x22)
section
open Go.Ab.Rdr
def Q_astrolabelaw24_awake_0 := (st (cons aund (cons (ar (rc (cptr (nat 0) (ok' (nat 0)) (nat 37)))) (cons (ar (rc (cf (fi .i64 (int 0))))) (cons (ar (rc (cptr (nat 1) (ok' (nat 0)) (nat 3)))) (cons (ar (rc (cptr (nat 2) (ok' (nat 0)) (nat 6)))) (cons (ar (rc (cptr (nat 3) (ok' (nat 0)) (nat 6)))) (cons (ar (rc (cf (fi .i64 hole)))) (cons (atup (cons (rc (cptr (nat 0) (ok' (nat 0)) (nat 37))) (cons (rc (cf (fi .i64 (int 0)))) nil))) (cons aund (cons aund (cons aund (cons aund (cons (ar (rc (cf (fi .i64 (int 0))))) (cons aund (cons aund (cons aund (cons aund (cons (ar (rc (cf (fb (bool false))))) (cons aund (cons aund (cons aund (cons aund (cons aund (cons (ar (rc (cptr (nat 1) (ok' (nat 0)) (nat 3)))) (cons aund (cons aund (cons aund (cons aund (cons aund (cons aund (cons (ar (ra (cons (gc (cf (fi .i64 hole))) (cons (gc (cf (fi .i64 hole))) (cons (gc (cf (fb hole))) nil))))) (cons aund (cons aund (cons aund (cons aund (cons aund (cons aund (cons aund (cons aund (cons aund (cons aund (cons aund (cons aund (cons aund (cons aund (cons aund (cons aund (cons (atup nil) (cons (atup nil) (cons (atup nil) (cons aund (cons aund (cons (atup nil) (cons (atup nil) (cons (atup nil) (cons aund (cons aund (cons (atup nil) (cons (atup nil) (cons (atup nil) (cons aund (cons aund (cons (atup nil) (cons (atup nil) (cons (atup nil) (cons (atup nil) (cons aund (cons aund (cons (atup nil) (cons (atup nil) (cons (atup nil) (cons (atup nil) (cons (atup nil) (cons aund (cons aund (cons (atup nil) (cons (atup nil) (cons (atup nil) (cons (atup nil) (cons (atup nil) (cons aund (cons aund (cons (atup nil) (cons (atup nil) (cons aund (cons aund (cons (atup nil) (cons (atup nil) (cons aund (cons aund (cons (atup nil) (cons (atup nil) (cons (atup nil) (cons (atup nil) (cons (atup nil) (cons (atup nil) (cons aund (cons aund (cons (atup nil) (cons (atup nil) (cons (atup nil) (cons (atup nil) (cons (atup nil) (cons aund (cons aund (cons (atup nil) (cons (atup nil) (cons (atup nil) (cons (atup nil) (cons (atup nil) (cons aund (cons aund (cons (atup nil) (cons (atup nil) (cons aund nil))))))))))))))))))))))))))))))))))))))))))))))))))))))))))))))))))))))))))))))))))))))))))))))))))))))))))))))))))) (cons (some' (cons (ga (szl (nat 6)) (cons (ki .i64 hole) (cons (ki .i64 hole) (cons (kb hole) (cons (ki .i64 hole) (cons (ki .i64 hole) (cons (ki .i64 hole) nil))))))) (cons (gc (cf (fi .i64 hole))) nil))) (cons (some' (cons (gc (cf (fi .i64 hole))) (cons (gc (cf (fi .i64 hole))) (cons (gc (cf (fb hole))) nil)))) (cons (some' (cons (gc (cf (fi .i64 hole))) (cons (gc (cf (fi .i64 hole))) (cons (gc (cf (fb hole))) (cons (gc (cf (fi .i64 (int 0)))) (cons (gc (cf (fi .i64 (int 9)))) (cons (gc (cf (fi .i64 (int 0)))) nil))))))) (cons (some' (cons (gc (cf (fi .i64 hole))) (cons (gc (cf (fi .i64 hole))) (cons (gc (cf (fb hole))) (cons (gc (cf (fi .i64 hole))) (cons (gc (cf (fi .i64 hole))) (cons (gc (cf (fi .i64 hole))) nil))))))) nil)))) nil)
end
theorem q_astrolabelaw24_awake_0 : ∀ b, (Q_astrolabelaw24_awake_0).em b = St.mk
    [AV.und, AV.r (RV.c (CV.ptr 0 (Off.k 0) 37)), AV.r (RV.c (CV.f (FV.i IntKind.i64 0))), AV.r (RV.c (CV.ptr 1 (Off.k 0) 3)), AV.r (RV.c (CV.ptr 2 (Off.k 0) 6)), AV.r (RV.c (CV.ptr 3 (Off.k 0) 6)),
      AV.r (RV.c (CV.f (FV.i IntKind.i64 b.1.2.2.2.2.2.2.1))), AV.tup [RV.c (CV.ptr 0 (Off.k 0) 37), RV.c (CV.f (FV.i IntKind.i64 0))], AV.und, AV.und, AV.und, AV.und, AV.r (RV.c (CV.f (FV.i IntKind.i64 0))), AV.und,
      AV.und, AV.und, AV.und, AV.r (RV.c (CV.f (FV.b false))), AV.und, AV.und, AV.und, AV.und, AV.und, AV.r (RV.c (CV.ptr 1 (Off.k 0) 3)), AV.und, AV.und, AV.und, AV.und, AV.und, AV.und,
      AV.r (RV.agg [Sg.c (CV.f (FV.i IntKind.i64 b.1.2.2.2.2.2.2.2.2.2.2.2.2.2.2.2.2.2.2.2.2.2.2.2.2.2.2.2.2.2.2.1.1)), Sg.c (CV.f (FV.i IntKind.i64 b.1.2.2.2.2.2.2.2.2.2.2.2.2.2.2.2.2.2.2.2.2.2.2.2.2.2.2.2.2.2.2.1.2.1)), Sg.c (CV.f (FV.b b.1.2.2.2.2.2.2.2.2.2.2.2.2.2.2.2.2.2.2.2.2.2.2.2.2.2.2.2.2.2.2.1.2.2.1))]), AV.und, AV.und, AV.und, AV.und, AV.und, AV.und, AV.und, AV.und, AV.und, AV.und, AV.und,
      AV.und, AV.und, AV.und, AV.und, AV.und, AV.tup [], AV.tup [], AV.tup [], AV.und, AV.und, AV.tup [], AV.tup [], AV.tup [], AV.und, AV.und, AV.tup [], AV.tup [], AV.tup [], AV.und, AV.und,
      AV.tup [], AV.tup [], AV.tup [], AV.tup [], AV.und, AV.und, AV.tup [], AV.tup [], AV.tup [], AV.tup [], AV.tup [], AV.und, AV.und, AV.tup [], AV.tup [], AV.tup [], AV.tup [], AV.tup [], AV.und,
      AV.und, AV.tup [], AV.tup [], AV.und, AV.und, AV.tup [], AV.tup [], AV.und, AV.und, AV.tup [], AV.tup [], AV.tup [], AV.tup [], AV.tup [], AV.tup [], AV.und, AV.und, AV.tup [], AV.tup [],
      AV.tup [], AV.tup [], AV.tup [], AV.und, AV.und, AV.tup [], AV.tup [], AV.tup [], AV.tup [], AV.tup [], AV.und, AV.und, AV.tup [], AV.tup [], AV.und]
    [some [Sg.a (Sz.l 6) [Col.i IntKind.i64 b.2.1.1.1.2.1, Col.i IntKind.i64 b.2.1.1.1.2.2.1, Col.b b.2.1.1.1.2.2.2.1, Col.i IntKind.i64 b.2.1.1.1.2.2.2.2.1, Col.i IntKind.i64 b.2.1.1.1.2.2.2.2.2.1, Col.i IntKind.i64 b.2.1.1.1.2.2.2.2.2.2.1], Sg.c (CV.f (FV.i IntKind.i64 b.2.1.1.2.1))],
      some [Sg.c (CV.f (FV.i IntKind.i64 b.2.1.2.1.1)), Sg.c (CV.f (FV.i IntKind.i64 b.2.1.2.1.2.1)), Sg.c (CV.f (FV.b b.2.1.2.1.2.2.1))],
      some
        [Sg.c (CV.f (FV.i IntKind.i64 b.2.1.2.2.1.1)), Sg.c (CV.f (FV.i IntKind.i64 b.2.1.2.2.1.2.1)), Sg.c (CV.f (FV.b b.2.1.2.2.1.2.2.1)), Sg.c (CV.f (FV.i IntKind.i64 0)), Sg.c (CV.f (FV.i IntKind.i64 9)),
          Sg.c (CV.f (FV.i IntKind.i64 0))],
      some
        [Sg.c (CV.f (FV.i IntKind.i64 b.2.1.2.2.2.1.1)), Sg.c (CV.f (FV.i IntKind.i64 b.2.1.2.2.2.1.2.1)), Sg.c (CV.f (FV.b b.2.1.2.2.2.1.2.2.1)), Sg.c (CV.f (FV.i IntKind.i64 b.2.1.2.2.2.1.2.2.2.1)), Sg.c (CV.f (FV.i IntKind.i64 b.2.1.2.2.2.1.2.2.2.2.1)),
          Sg.c (CV.f (FV.i IntKind.i64 b.2.1.2.2.2.1.2.2.2.2.2.1))]]
    [] := fun b => by kernel_rfl
def R_astrolabelaw24_awake_0 (l : ∀ {ρ : Type}, (Int × Int × Int × Bool × (Nat → Int) × (Nat → Int) × (Nat → Bool) × (Nat → Int) × (Nat → Int) × (Nat → Int) × Int × Int × Int × Bool × Int × Int × Bool × Int × Int × Bool × Int × Int × Int) → ((Int × Int × Int × Bool × Bool × (Nat → Int) × (Nat → Int) × (Nat → Bool) × (Nat → Int) × (Nat → Int) × (Nat → Int) × Int × Int × Int × Bool × Int × Int × Bool × Int × Int × Bool × Int × Int × Int) → Option ρ) → Option ρ) {ρ : Type} (s : St) (K : AX → St → Option ρ) : Option ρ := ((Q_astrolabelaw24_awake_0).rd s).bind fun b => l (b.1.2.2.2.2.2.2.1, b.1.2.2.2.2.2.2.2.2.2.2.2.2.2.2.2.2.2.2.2.2.2.2.2.2.2.2.2.2.2.2.1.1, b.1.2.2.2.2.2.2.2.2.2.2.2.2.2.2.2.2.2.2.2.2.2.2.2.2.2.2.2.2.2.2.1.2.1, b.1.2.2.2.2.2.2.2.2.2.2.2.2.2.2.2.2.2.2.2.2.2.2.2.2.2.2.2.2.2.2.1.2.2.1, b.2.1.1.1.2.1, b.2.1.1.1.2.2.1, b.2.1.1.1.2.2.2.1, b.2.1.1.1.2.2.2.2.1, b.2.1.1.1.2.2.2.2.2.1, b.2.1.1.1.2.2.2.2.2.2.1, b.2.1.1.2.1, b.2.1.2.1.1, b.2.1.2.1.2.1, b.2.1.2.1.2.2.1, b.2.1.2.2.1.1, b.2.1.2.2.1.2.1, b.2.1.2.2.1.2.2.1, b.2.1.2.2.2.1.1, b.2.1.2.2.2.1.2.1, b.2.1.2.2.2.1.2.2.1, b.2.1.2.2.2.1.2.2.2.1, b.2.1.2.2.2.1.2.2.2.2.1, b.2.1.2.2.2.1.2.2.2.2.2.1) (fun d => K (AX.ex 0) (St.mk
  [AV.und, AV.r (RV.c (CV.ptr 0 (Off.k 0) 37)), AV.r (RV.c (CV.f (FV.i IntKind.i64 0))), AV.r (RV.c (CV.ptr 1 (Off.k 0) 3)), AV.r (RV.c (CV.ptr 2 (Off.k 0) 6)), AV.r (RV.c (CV.ptr 3 (Off.k 0) 6)),
    AV.r (RV.c (CV.f (FV.i IntKind.i64 d.fst))), AV.tup [RV.c (CV.ptr 0 (Off.k 0) 37), RV.c (CV.f (FV.i IntKind.i64 0))], AV.und, AV.und, AV.und, AV.und, AV.r (RV.c (CV.f (FV.i IntKind.i64 0))),
    AV.und, AV.und, AV.und, AV.und, AV.r (RV.c (CV.f (FV.b false))), AV.und, AV.und, AV.und, AV.und, AV.und, AV.r (RV.c (CV.ptr 1 (Off.k 0) 3)), AV.und, AV.und, AV.und, AV.und, AV.und, AV.und,
    AV.r (RV.agg [Sg.c (CV.f (FV.i IntKind.i64 d.snd.fst)), Sg.c (CV.f (FV.i IntKind.i64 d.snd.snd.fst)), Sg.c (CV.f (FV.b d.snd.snd.snd.fst))]), AV.und, AV.und, AV.und, AV.und, AV.und,
    AV.r (RV.c (CV.f (FV.i IntKind.i64 d.fst))), AV.r (RV.c (CV.f (FV.b d.snd.snd.snd.snd.fst))), AV.und, AV.und, AV.und, AV.und, AV.und, AV.und, AV.und, AV.und, AV.und, AV.tup [], AV.tup [],
    AV.tup [], AV.und, AV.und, AV.tup [], AV.tup [], AV.tup [], AV.und, AV.und, AV.tup [], AV.tup [], AV.tup [], AV.und, AV.und, AV.tup [], AV.tup [], AV.tup [], AV.tup [], AV.und, AV.und, AV.tup [],
    AV.tup [], AV.tup [], AV.tup [], AV.tup [], AV.und, AV.und, AV.tup [], AV.tup [], AV.tup [], AV.tup [], AV.tup [], AV.und, AV.und, AV.tup [], AV.tup [], AV.und, AV.und, AV.tup [], AV.tup [],
    AV.und, AV.und, AV.tup [], AV.tup [], AV.tup [], AV.tup [], AV.tup [], AV.tup [], AV.und, AV.und, AV.tup [], AV.tup [], AV.tup [], AV.tup [], AV.tup [], AV.und, AV.und, AV.tup [], AV.tup [],
    AV.tup [], AV.tup [], AV.tup [], AV.und, AV.und, AV.tup [], AV.tup [], AV.und]
  [some
      [Sg.a (Sz.l 6)
          [Col.i IntKind.i64 d.snd.snd.snd.snd.snd.fst, Col.i IntKind.i64 d.snd.snd.snd.snd.snd.snd.fst, Col.b d.snd.snd.snd.snd.snd.snd.snd.fst,
            Col.i IntKind.i64 d.snd.snd.snd.snd.snd.snd.snd.snd.fst, Col.i IntKind.i64 d.snd.snd.snd.snd.snd.snd.snd.snd.snd.fst, Col.i IntKind.i64 d.snd.snd.snd.snd.snd.snd.snd.snd.snd.snd.fst],
        Sg.c (CV.f (FV.i IntKind.i64 d.snd.snd.snd.snd.snd.snd.snd.snd.snd.snd.snd.fst))],
    some
      [Sg.c (CV.f (FV.i IntKind.i64 d.snd.snd.snd.snd.snd.snd.snd.snd.snd.snd.snd.snd.fst)), Sg.c (CV.f (FV.i IntKind.i64 d.snd.snd.snd.snd.snd.snd.snd.snd.snd.snd.snd.snd.snd.fst)),
        Sg.c (CV.f (FV.b d.snd.snd.snd.snd.snd.snd.snd.snd.snd.snd.snd.snd.snd.snd.fst))],
    some
      [Sg.c (CV.f (FV.i IntKind.i64 d.snd.snd.snd.snd.snd.snd.snd.snd.snd.snd.snd.snd.snd.snd.snd.fst)),
        Sg.c (CV.f (FV.i IntKind.i64 d.snd.snd.snd.snd.snd.snd.snd.snd.snd.snd.snd.snd.snd.snd.snd.snd.fst)),
        Sg.c (CV.f (FV.b d.snd.snd.snd.snd.snd.snd.snd.snd.snd.snd.snd.snd.snd.snd.snd.snd.snd.fst)), Sg.c (CV.f (FV.i IntKind.i64 0)), Sg.c (CV.f (FV.i IntKind.i64 9)),
        Sg.c (CV.f (FV.i IntKind.i64 0))],
    some
      [Sg.c (CV.f (FV.i IntKind.i64 d.snd.snd.snd.snd.snd.snd.snd.snd.snd.snd.snd.snd.snd.snd.snd.snd.snd.snd.fst)),
        Sg.c (CV.f (FV.i IntKind.i64 d.snd.snd.snd.snd.snd.snd.snd.snd.snd.snd.snd.snd.snd.snd.snd.snd.snd.snd.snd.fst)),
        Sg.c (CV.f (FV.b d.snd.snd.snd.snd.snd.snd.snd.snd.snd.snd.snd.snd.snd.snd.snd.snd.snd.snd.snd.snd.fst)),
        Sg.c (CV.f (FV.i IntKind.i64 d.snd.snd.snd.snd.snd.snd.snd.snd.snd.snd.snd.snd.snd.snd.snd.snd.snd.snd.snd.snd.snd.fst)),
        Sg.c (CV.f (FV.i IntKind.i64 d.snd.snd.snd.snd.snd.snd.snd.snd.snd.snd.snd.snd.snd.snd.snd.snd.snd.snd.snd.snd.snd.snd.fst)),
        Sg.c (CV.f (FV.i IntKind.i64 d.snd.snd.snd.snd.snd.snd.snd.snd.snd.snd.snd.snd.snd.snd.snd.snd.snd.snd.snd.snd.snd.snd.snd))]]
  []))
theorem ms_astrolabelaw24_awake_0 {ρ σ : Type} (g_health_New : Int → Nat → (Nat → Int) → Bool → Option (Unit ⊕ (Nat → Int) × (Nat → Int) × (Nat → Bool) × (Nat → Int) × (Nat → Int) × (Nat → Int))) (g___health_Monitor__Result : Int →
  Int →
    Nat →
      (Nat → Int) →
        (Nat → Int) →
          (Nat → Bool) →
            (Nat → Int) →
              (Nat → Int) → (Nat → Int) → Int → (Nat → Bool) → (Nat → Int) → (Nat → Int) → Bool → Option ((Nat → Int) × (Nat → Int) × (Nat → Bool) × (Nat → Int) × (Nat → Int) × (Nat → Int) × Int)) (g___health_Watch__Mark : Int → Int → Int → Bool → Option Int) (g___health_Watch__Miss : Int → Int → Bool → Option (Int × Int × Bool)) (g___health_Monitor__Sensor : Int → (Nat → Int) → (Nat → Int) → (Nat → Bool) → (Nat → Int) → (Nat → Int) → (Nat → Int) → Int → Option (Int × Int × Bool × Int × Int × Int)) (g___health_Monitor__Vertical : Bool →
  Int →
    Int →
      Bool →
        Int →
          Int →
            (Nat → Int) → (Nat → Int) → (Nat → Bool) → (Nat → Int) → (Nat → Int) → (Nat → Int) → Int → Option ((Nat → Int) × (Nat → Int) × (Nat → Bool) × (Nat → Int) × (Nat → Int) × (Nat → Int) × Int)) (g___health_Monitor__Usable : Int → Int → (Nat → Int) → (Nat → Int) → (Nat → Bool) → (Nat → Int) → (Nat → Int) → (Nat → Int) → Int → Option Bool) (g___health_Monitor__Faults : Int → (Nat → Int) → (Nat → Int) → (Nat → Bool) → (Nat → Int) → (Nat → Int) → (Nat → Int) → Int → Option Int) (g___health_Watch__Fresh : Int → Int → Int → Int → Bool → Option Bool) (g___health_Sensor__Usable : Int → Int → Int → Bool → Int → Int → Int → Option Bool) (g___health_Monitor__Bad : (Nat → Int) → (Nat → Int) → (Nat → Bool) → (Nat → Int) → (Nat → Int) → (Nat → Int) → Int → Option Bool)   (q : ρ → Option σ) (x0 : Int) (x1 : Int) (x2 : Int) (x3 : Bool) (x4 : Nat → Int) (x5 : Nat → Int) (x6 : Nat → Bool) (x7 : Nat → Int) (x8 : Nat → Int) (x9 : Nat → Int) (x10 : Int) (x11 : Int) (x12 : Int) (x13 : Bool) (x14 : Int) (x15 : Int) (x16 : Bool) (x17 : Int) (x18 : Int) (x19 : Bool) (x20 : Int) (x21 : Int) (x22 : Int) (c : (Int × Int × Int × Bool × (Nat → Int) × (Nat → Int) × (Nat → Bool) × (Nat → Int) × (Nat → Int) × (Nat → Int) × Int × Int × Int × Bool × Int × Int × Bool × Int × Int × Bool × Int × Int × Int) → Option ρ) (x : (Int × Int × Int × Bool × Bool × (Nat → Int) × (Nat → Int) × (Nat → Bool) × (Nat → Int) × (Nat → Int) × (Nat → Int) × Int × Int × Int × Bool × Int × Int × Bool × Int × Int × Bool × Int × Int × Int) → Option ρ) : (S_astrolabelaw24_awake_0 g_health_New g___health_Monitor__Result g___health_Watch__Mark g___health_Watch__Miss g___health_Monitor__Sensor g___health_Monitor__Vertical g___health_Monitor__Usable g___health_Monitor__Faults g___health_Watch__Fresh g___health_Sensor__Usable g___health_Monitor__Bad  x0 x1 x2 x3 x4 x5 x6 x7 x8 x9 x10 x11 x12 x13 x14 x15 x16 x17 x18 x19 x20 x21 x22 c x).bind q = S_astrolabelaw24_awake_0 g_health_New g___health_Monitor__Result g___health_Watch__Mark g___health_Watch__Miss g___health_Monitor__Sensor g___health_Monitor__Vertical g___health_Monitor__Usable g___health_Monitor__Faults g___health_Watch__Fresh g___health_Sensor__Usable g___health_Monitor__Bad  x0 x1 x2 x3 x4 x5 x6 x7 x8 x9 x10 x11 x12 x13 x14 x15 x16 x17 x18 x19 x20 x21 x22 (fun d => (c d).bind q) (fun d => (x d).bind q) := by
  simp only [S_astrolabelaw24_awake_0, bnd_cond, bnd_bind, bnd_none, bnd_sum]
def L_astrolabelaw24_awake_0 {ρ : Type} (d : Int × Int × Int × Bool × (Nat → Int) × (Nat → Int) × (Nat → Bool) × (Nat → Int) × (Nat → Int) × (Nat → Int) × Int × Int × Int × Bool × Int × Int × Bool × Int × Int × Bool × Int × Int × Int) (k : (Int × Int × Int × Bool × Bool × (Nat → Int) × (Nat → Int) × (Nat → Bool) × (Nat → Int) × (Nat → Int) × (Nat → Int) × Int × Int × Int × Bool × Int × Int × Bool × Int × Int × Bool × Int × Int × Int) → Option ρ) : Option ρ := loopK (fun d c x => S_astrolabelaw24_awake_0 f_health_New f___health_Monitor__Result f___health_Watch__Mark f___health_Watch__Miss f___health_Monitor__Sensor f___health_Monitor__Vertical f___health_Monitor__Usable f___health_Monitor__Faults f___health_Watch__Fresh f___health_Sensor__Usable f___health_Monitor__Bad  d.1 d.2.1 d.2.2.1 d.2.2.2.1 d.2.2.2.2.1 d.2.2.2.2.2.1 d.2.2.2.2.2.2.1 d.2.2.2.2.2.2.2.1 d.2.2.2.2.2.2.2.2.1 d.2.2.2.2.2.2.2.2.2.1 d.2.2.2.2.2.2.2.2.2.2.1 d.2.2.2.2.2.2.2.2.2.2.2.1 d.2.2.2.2.2.2.2.2.2.2.2.2.1 d.2.2.2.2.2.2.2.2.2.2.2.2.2.1 d.2.2.2.2.2.2.2.2.2.2.2.2.2.2.1 d.2.2.2.2.2.2.2.2.2.2.2.2.2.2.2.1 d.2.2.2.2.2.2.2.2.2.2.2.2.2.2.2.2.1 d.2.2.2.2.2.2.2.2.2.2.2.2.2.2.2.2.2.1 d.2.2.2.2.2.2.2.2.2.2.2.2.2.2.2.2.2.2.1 d.2.2.2.2.2.2.2.2.2.2.2.2.2.2.2.2.2.2.2.1 d.2.2.2.2.2.2.2.2.2.2.2.2.2.2.2.2.2.2.2.2.1 d.2.2.2.2.2.2.2.2.2.2.2.2.2.2.2.2.2.2.2.2.2.1 d.2.2.2.2.2.2.2.2.2.2.2.2.2.2.2.2.2.2.2.2.2.2 c x) 200 d k
theorem mL_astrolabelaw24_awake_0 {ρ σ : Type} (q : ρ → Option σ) (d : Int × Int × Int × Bool × (Nat → Int) × (Nat → Int) × (Nat → Bool) × (Nat → Int) × (Nat → Int) × (Nat → Int) × Int × Int × Int × Bool × Int × Int × Bool × Int × Int × Bool × Int × Int × Int) (k : (Int × Int × Int × Bool × Bool × (Nat → Int) × (Nat → Int) × (Nat → Bool) × (Nat → Int) × (Nat → Int) × (Nat → Int) × Int × Int × Int × Bool × Int × Int × Bool × Int × Int × Bool × Int × Int × Int) → Option ρ) : (L_astrolabelaw24_awake_0 d k).bind q = L_astrolabelaw24_awake_0 d fun x => (k x).bind q :=
  loopK_bind q (fun d c x => ms_astrolabelaw24_awake_0 f_health_New f___health_Monitor__Result f___health_Watch__Mark f___health_Watch__Miss f___health_Monitor__Sensor f___health_Monitor__Vertical f___health_Monitor__Usable f___health_Monitor__Faults f___health_Watch__Fresh f___health_Sensor__Usable f___health_Monitor__Bad   q d.1 d.2.1 d.2.2.1 d.2.2.2.1 d.2.2.2.2.1 d.2.2.2.2.2.1 d.2.2.2.2.2.2.1 d.2.2.2.2.2.2.2.1 d.2.2.2.2.2.2.2.2.1 d.2.2.2.2.2.2.2.2.2.1 d.2.2.2.2.2.2.2.2.2.2.1 d.2.2.2.2.2.2.2.2.2.2.2.1 d.2.2.2.2.2.2.2.2.2.2.2.2.1 d.2.2.2.2.2.2.2.2.2.2.2.2.2.1 d.2.2.2.2.2.2.2.2.2.2.2.2.2.2.1 d.2.2.2.2.2.2.2.2.2.2.2.2.2.2.2.1 d.2.2.2.2.2.2.2.2.2.2.2.2.2.2.2.2.1 d.2.2.2.2.2.2.2.2.2.2.2.2.2.2.2.2.2.1 d.2.2.2.2.2.2.2.2.2.2.2.2.2.2.2.2.2.2.1 d.2.2.2.2.2.2.2.2.2.2.2.2.2.2.2.2.2.2.2.1 d.2.2.2.2.2.2.2.2.2.2.2.2.2.2.2.2.2.2.2.2.1 d.2.2.2.2.2.2.2.2.2.2.2.2.2.2.2.2.2.2.2.2.2.1 d.2.2.2.2.2.2.2.2.2.2.2.2.2.2.2.2.2.2.2.2.2.2 c x) k _ d
theorem ds_astrolabelaw24_awake_0 {ρ : Type} (g_health_New : Int → Nat → (Nat → Int) → Bool → Option (Unit ⊕ (Nat → Int) × (Nat → Int) × (Nat → Bool) × (Nat → Int) × (Nat → Int) × (Nat → Int))) (g___health_Monitor__Result : Int →
  Int →
    Nat →
      (Nat → Int) →
        (Nat → Int) →
          (Nat → Bool) →
            (Nat → Int) →
              (Nat → Int) → (Nat → Int) → Int → (Nat → Bool) → (Nat → Int) → (Nat → Int) → Bool → Option ((Nat → Int) × (Nat → Int) × (Nat → Bool) × (Nat → Int) × (Nat → Int) × (Nat → Int) × Int)) (g___health_Watch__Mark : Int → Int → Int → Bool → Option Int) (g___health_Watch__Miss : Int → Int → Bool → Option (Int × Int × Bool)) (g___health_Monitor__Sensor : Int → (Nat → Int) → (Nat → Int) → (Nat → Bool) → (Nat → Int) → (Nat → Int) → (Nat → Int) → Int → Option (Int × Int × Bool × Int × Int × Int)) (g___health_Monitor__Vertical : Bool →
  Int →
    Int →
      Bool →
        Int →
          Int →
            (Nat → Int) → (Nat → Int) → (Nat → Bool) → (Nat → Int) → (Nat → Int) → (Nat → Int) → Int → Option ((Nat → Int) × (Nat → Int) × (Nat → Bool) × (Nat → Int) × (Nat → Int) × (Nat → Int) × Int)) (g___health_Monitor__Usable : Int → Int → (Nat → Int) → (Nat → Int) → (Nat → Bool) → (Nat → Int) → (Nat → Int) → (Nat → Int) → Int → Option Bool) (g___health_Monitor__Faults : Int → (Nat → Int) → (Nat → Int) → (Nat → Bool) → (Nat → Int) → (Nat → Int) → (Nat → Int) → Int → Option Int) (g___health_Watch__Fresh : Int → Int → Int → Int → Bool → Option Bool) (g___health_Sensor__Usable : Int → Int → Int → Bool → Int → Int → Int → Option Bool) (g___health_Monitor__Bad : (Nat → Int) → (Nat → Int) → (Nat → Bool) → (Nat → Int) → (Nat → Int) → (Nat → Int) → Int → Option Bool) (l_0 : ∀ {ρ : Type}, (Int × Int × Int × Bool × (Nat → Int) × (Nat → Int) × (Nat → Bool) × (Nat → Int) × (Nat → Int) × (Nat → Int) × Int × Int × Int × Bool × Int × Int × Bool × Int × Int × Bool × Int × Int × Int) → ((Int × Int × Int × Bool × Bool × (Nat → Int) × (Nat → Int) × (Nat → Bool) × (Nat → Int) × (Nat → Int) × (Nat → Int) × Int × Int × Int × Bool × Int × Int × Bool × Int × Int × Bool × Int × Int × Int) → Option ρ) → Option ρ) (x0 : Int) (x1 : Int) (x2 : Int) (x3 : Bool) (x4 : Nat → Int) (x5 : Nat → Int) (x6 : Nat → Bool) (x7 : Nat → Int) (x8 : Nat → Int) (x9 : Nat → Int) (x10 : Int) (x11 : Int) (x12 : Int) (x13 : Bool) (x14 : Int) (x15 : Int) (x16 : Bool) (x17 : Int) (x18 : Int) (x19 : Bool) (x20 : Int) (x21 : Int) (x22 : Int) (c : St → Option ρ) (K : AX → St → Option ρ) :
    runC Try.prog (envOf [(16, F_health_New g_health_New), (21, F___health_Monitor__Result g___health_Monitor__Result), (25, F___health_Watch__Mark g___health_Watch__Mark), (28, F___health_Watch__Miss g___health_Watch__Miss), (17, F___health_Monitor__Sensor g___health_Monitor__Sensor), (24, F___health_Monitor__Vertical g___health_Monitor__Vertical), (18, F___health_Monitor__Usable g___health_Monitor__Usable), (19, F___health_Monitor__Faults g___health_Monitor__Faults), (29, F___health_Watch__Fresh g___health_Watch__Fresh), (27, F___health_Sensor__Usable g___health_Sensor__Usable), (20, F___health_Monitor__Bad g___health_Monitor__Bad)]) ⟨[⟨13, [0, 8, 9, 10, 11, 13, 14, 15, 16, 18, 19, 20, 21, 22, 24, 25, 26, 27, 28, 29, 31, 32, 33, 34, 35, 36, 37, 38, 39, 40, 42, 43, 44, 45, 46, 50, 51, 55, 56, 60, 61, 66, 67, 73, 74, 80, 81, 84, 85, 88, 89, 96, 97, 103, 104, 110, 111, 114, 41], []⟩], [⟨13, 0, @R_astrolabelaw24_awake_0 (@l_0)⟩], []⟩ (tmpsOf Try.prog 15) 0 200 (loopIn Try.prog 15 13)
      (St.mk
    [AV.und, AV.r (RV.c (CV.ptr 0 (Off.k 0) 37)), AV.r (RV.c (CV.f (FV.i IntKind.i64 0))), AV.r (RV.c (CV.ptr 1 (Off.k 0) 3)), AV.r (RV.c (CV.ptr 2 (Off.k 0) 6)), AV.r (RV.c (CV.ptr 3 (Off.k 0) 6)),
      AV.r (RV.c (CV.f (FV.i IntKind.i64 x0))), AV.tup [RV.c (CV.ptr 0 (Off.k 0) 37), RV.c (CV.f (FV.i IntKind.i64 0))], AV.und, AV.und, AV.und, AV.und, AV.r (RV.c (CV.f (FV.i IntKind.i64 0))), AV.und,
      AV.und, AV.und, AV.und, AV.r (RV.c (CV.f (FV.b false))), AV.und, AV.und, AV.und, AV.und, AV.und, AV.r (RV.c (CV.ptr 1 (Off.k 0) 3)), AV.und, AV.und, AV.und, AV.und, AV.und, AV.und,
      AV.r (RV.agg [Sg.c (CV.f (FV.i IntKind.i64 x1)), Sg.c (CV.f (FV.i IntKind.i64 x2)), Sg.c (CV.f (FV.b x3))]), AV.und, AV.und, AV.und, AV.und, AV.und, AV.und, AV.und, AV.und, AV.und, AV.und, AV.und,
      AV.und, AV.und, AV.und, AV.und, AV.und, AV.tup [], AV.tup [], AV.tup [], AV.und, AV.und, AV.tup [], AV.tup [], AV.tup [], AV.und, AV.und, AV.tup [], AV.tup [], AV.tup [], AV.und, AV.und,
      AV.tup [], AV.tup [], AV.tup [], AV.tup [], AV.und, AV.und, AV.tup [], AV.tup [], AV.tup [], AV.tup [], AV.tup [], AV.und, AV.und, AV.tup [], AV.tup [], AV.tup [], AV.tup [], AV.tup [], AV.und,
      AV.und, AV.tup [], AV.tup [], AV.und, AV.und, AV.tup [], AV.tup [], AV.und, AV.und, AV.tup [], AV.tup [], AV.tup [], AV.tup [], AV.tup [], AV.tup [], AV.und, AV.und, AV.tup [], AV.tup [],
      AV.tup [], AV.tup [], AV.tup [], AV.und, AV.und, AV.tup [], AV.tup [], AV.tup [], AV.tup [], AV.tup [], AV.und, AV.und, AV.tup [], AV.tup [], AV.und]
    [some [Sg.a (Sz.l 6) [Col.i IntKind.i64 x4, Col.i IntKind.i64 x5, Col.b x6, Col.i IntKind.i64 x7, Col.i IntKind.i64 x8, Col.i IntKind.i64 x9], Sg.c (CV.f (FV.i IntKind.i64 x10))],
      some [Sg.c (CV.f (FV.i IntKind.i64 x11)), Sg.c (CV.f (FV.i IntKind.i64 x12)), Sg.c (CV.f (FV.b x13))],
      some
        [Sg.c (CV.f (FV.i IntKind.i64 x14)), Sg.c (CV.f (FV.i IntKind.i64 x15)), Sg.c (CV.f (FV.b x16)), Sg.c (CV.f (FV.i IntKind.i64 0)), Sg.c (CV.f (FV.i IntKind.i64 9)),
          Sg.c (CV.f (FV.i IntKind.i64 0))],
      some
        [Sg.c (CV.f (FV.i IntKind.i64 x17)), Sg.c (CV.f (FV.i IntKind.i64 x18)), Sg.c (CV.f (FV.b x19)), Sg.c (CV.f (FV.i IntKind.i64 x20)), Sg.c (CV.f (FV.i IntKind.i64 x21)),
          Sg.c (CV.f (FV.i IntKind.i64 x22))]]
    [])
      (next (fun t => t.head 0 ⟨[⟨13, [0, 8, 9, 10, 11, 13, 14, 15, 16, 18, 19, 20, 21, 22, 24, 25, 26, 27, 28, 29, 31, 32, 33, 34, 35, 36, 37, 38, 39, 40, 42, 43, 44, 45, 46, 50, 51, 55, 56, 60, 61, 66, 67, 73, 74, 80, 81, 84, 85, 88, 89, 96, 97, 103, 104, 110, 111, 114, 41], []⟩], [⟨13, 0, @R_astrolabelaw24_awake_0 (@l_0)⟩], []⟩ (loopIn Try.prog 15 13)) c K) =
    S_astrolabelaw24_awake_0 g_health_New g___health_Monitor__Result g___health_Watch__Mark g___health_Watch__Miss g___health_Monitor__Sensor g___health_Monitor__Vertical g___health_Monitor__Usable g___health_Monitor__Faults g___health_Watch__Fresh g___health_Sensor__Usable g___health_Monitor__Bad  x0 x1 x2 x3 x4 x5 x6 x7 x8 x9 x10 x11 x12 x13 x14 x15 x16 x17 x18 x19 x20 x21 x22 (fun d => c (St.mk
  [AV.und, AV.r (RV.c (CV.ptr 0 (Off.k 0) 37)), AV.r (RV.c (CV.f (FV.i IntKind.i64 0))), AV.r (RV.c (CV.ptr 1 (Off.k 0) 3)), AV.r (RV.c (CV.ptr 2 (Off.k 0) 6)), AV.r (RV.c (CV.ptr 3 (Off.k 0) 6)),
    AV.r (RV.c (CV.f (FV.i IntKind.i64 d.fst))), AV.tup [RV.c (CV.ptr 0 (Off.k 0) 37), RV.c (CV.f (FV.i IntKind.i64 0))], AV.und, AV.und, AV.und, AV.und, AV.r (RV.c (CV.f (FV.i IntKind.i64 0))),
    AV.und, AV.und, AV.und, AV.und, AV.r (RV.c (CV.f (FV.b false))), AV.und, AV.und, AV.und, AV.und, AV.und, AV.r (RV.c (CV.ptr 1 (Off.k 0) 3)), AV.und, AV.und, AV.und, AV.und, AV.und, AV.und,
    AV.r (RV.agg [Sg.c (CV.f (FV.i IntKind.i64 d.snd.fst)), Sg.c (CV.f (FV.i IntKind.i64 d.snd.snd.fst)), Sg.c (CV.f (FV.b d.snd.snd.snd.fst))]), AV.und, AV.und, AV.und, AV.und, AV.und, AV.und,
    AV.und, AV.und, AV.und, AV.und, AV.und, AV.und, AV.und, AV.und, AV.und, AV.und, AV.tup [], AV.tup [], AV.tup [], AV.und, AV.und, AV.tup [], AV.tup [], AV.tup [], AV.und, AV.und, AV.tup [],
    AV.tup [], AV.tup [], AV.und, AV.und, AV.tup [], AV.tup [], AV.tup [], AV.tup [], AV.und, AV.und, AV.tup [], AV.tup [], AV.tup [], AV.tup [], AV.tup [], AV.und, AV.und, AV.tup [], AV.tup [],
    AV.tup [], AV.tup [], AV.tup [], AV.und, AV.und, AV.tup [], AV.tup [], AV.und, AV.und, AV.tup [], AV.tup [], AV.und, AV.und, AV.tup [], AV.tup [], AV.tup [], AV.tup [], AV.tup [], AV.tup [],
    AV.und, AV.und, AV.tup [], AV.tup [], AV.tup [], AV.tup [], AV.tup [], AV.und, AV.und, AV.tup [], AV.tup [], AV.tup [], AV.tup [], AV.tup [], AV.und, AV.und, AV.tup [], AV.tup [], AV.und]
  [some
      [Sg.a (Sz.l 6)
          [Col.i IntKind.i64 d.snd.snd.snd.snd.fst, Col.i IntKind.i64 d.snd.snd.snd.snd.snd.fst, Col.b d.snd.snd.snd.snd.snd.snd.fst, Col.i IntKind.i64 d.snd.snd.snd.snd.snd.snd.snd.fst,
            Col.i IntKind.i64 d.snd.snd.snd.snd.snd.snd.snd.snd.fst, Col.i IntKind.i64 d.snd.snd.snd.snd.snd.snd.snd.snd.snd.fst],
        Sg.c (CV.f (FV.i IntKind.i64 d.snd.snd.snd.snd.snd.snd.snd.snd.snd.snd.fst))],
    some
      [Sg.c (CV.f (FV.i IntKind.i64 d.snd.snd.snd.snd.snd.snd.snd.snd.snd.snd.snd.fst)), Sg.c (CV.f (FV.i IntKind.i64 d.snd.snd.snd.snd.snd.snd.snd.snd.snd.snd.snd.snd.fst)),
        Sg.c (CV.f (FV.b d.snd.snd.snd.snd.snd.snd.snd.snd.snd.snd.snd.snd.snd.fst))],
    some
      [Sg.c (CV.f (FV.i IntKind.i64 d.snd.snd.snd.snd.snd.snd.snd.snd.snd.snd.snd.snd.snd.snd.fst)), Sg.c (CV.f (FV.i IntKind.i64 d.snd.snd.snd.snd.snd.snd.snd.snd.snd.snd.snd.snd.snd.snd.snd.fst)),
        Sg.c (CV.f (FV.b d.snd.snd.snd.snd.snd.snd.snd.snd.snd.snd.snd.snd.snd.snd.snd.snd.fst)), Sg.c (CV.f (FV.i IntKind.i64 0)), Sg.c (CV.f (FV.i IntKind.i64 9)), Sg.c (CV.f (FV.i IntKind.i64 0))],
    some
      [Sg.c (CV.f (FV.i IntKind.i64 d.snd.snd.snd.snd.snd.snd.snd.snd.snd.snd.snd.snd.snd.snd.snd.snd.snd.fst)),
        Sg.c (CV.f (FV.i IntKind.i64 d.snd.snd.snd.snd.snd.snd.snd.snd.snd.snd.snd.snd.snd.snd.snd.snd.snd.snd.fst)),
        Sg.c (CV.f (FV.b d.snd.snd.snd.snd.snd.snd.snd.snd.snd.snd.snd.snd.snd.snd.snd.snd.snd.snd.snd.fst)),
        Sg.c (CV.f (FV.i IntKind.i64 d.snd.snd.snd.snd.snd.snd.snd.snd.snd.snd.snd.snd.snd.snd.snd.snd.snd.snd.snd.snd.fst)),
        Sg.c (CV.f (FV.i IntKind.i64 d.snd.snd.snd.snd.snd.snd.snd.snd.snd.snd.snd.snd.snd.snd.snd.snd.snd.snd.snd.snd.snd.fst)),
        Sg.c (CV.f (FV.i IntKind.i64 d.snd.snd.snd.snd.snd.snd.snd.snd.snd.snd.snd.snd.snd.snd.snd.snd.snd.snd.snd.snd.snd.snd))]]
  [])) (fun d => K (AX.ex 0) (St.mk
  [AV.und, AV.r (RV.c (CV.ptr 0 (Off.k 0) 37)), AV.r (RV.c (CV.f (FV.i IntKind.i64 0))), AV.r (RV.c (CV.ptr 1 (Off.k 0) 3)), AV.r (RV.c (CV.ptr 2 (Off.k 0) 6)), AV.r (RV.c (CV.ptr 3 (Off.k 0) 6)),
    AV.r (RV.c (CV.f (FV.i IntKind.i64 d.fst))), AV.tup [RV.c (CV.ptr 0 (Off.k 0) 37), RV.c (CV.f (FV.i IntKind.i64 0))], AV.und, AV.und, AV.und, AV.und, AV.r (RV.c (CV.f (FV.i IntKind.i64 0))),
    AV.und, AV.und, AV.und, AV.und, AV.r (RV.c (CV.f (FV.b false))), AV.und, AV.und, AV.und, AV.und, AV.und, AV.r (RV.c (CV.ptr 1 (Off.k 0) 3)), AV.und, AV.und, AV.und, AV.und, AV.und, AV.und,
    AV.r (RV.agg [Sg.c (CV.f (FV.i IntKind.i64 d.snd.fst)), Sg.c (CV.f (FV.i IntKind.i64 d.snd.snd.fst)), Sg.c (CV.f (FV.b d.snd.snd.snd.fst))]), AV.und, AV.und, AV.und, AV.und, AV.und,
    AV.r (RV.c (CV.f (FV.i IntKind.i64 d.fst))), AV.r (RV.c (CV.f (FV.b d.snd.snd.snd.snd.fst))), AV.und, AV.und, AV.und, AV.und, AV.und, AV.und, AV.und, AV.und, AV.und, AV.tup [], AV.tup [],
    AV.tup [], AV.und, AV.und, AV.tup [], AV.tup [], AV.tup [], AV.und, AV.und, AV.tup [], AV.tup [], AV.tup [], AV.und, AV.und, AV.tup [], AV.tup [], AV.tup [], AV.tup [], AV.und, AV.und, AV.tup [],
    AV.tup [], AV.tup [], AV.tup [], AV.tup [], AV.und, AV.und, AV.tup [], AV.tup [], AV.tup [], AV.tup [], AV.tup [], AV.und, AV.und, AV.tup [], AV.tup [], AV.und, AV.und, AV.tup [], AV.tup [],
    AV.und, AV.und, AV.tup [], AV.tup [], AV.tup [], AV.tup [], AV.tup [], AV.tup [], AV.und, AV.und, AV.tup [], AV.tup [], AV.tup [], AV.tup [], AV.tup [], AV.und, AV.und, AV.tup [], AV.tup [],
    AV.tup [], AV.tup [], AV.tup [], AV.und, AV.und, AV.tup [], AV.tup [], AV.und]
  [some
      [Sg.a (Sz.l 6)
          [Col.i IntKind.i64 d.snd.snd.snd.snd.snd.fst, Col.i IntKind.i64 d.snd.snd.snd.snd.snd.snd.fst, Col.b d.snd.snd.snd.snd.snd.snd.snd.fst,
            Col.i IntKind.i64 d.snd.snd.snd.snd.snd.snd.snd.snd.fst, Col.i IntKind.i64 d.snd.snd.snd.snd.snd.snd.snd.snd.snd.fst, Col.i IntKind.i64 d.snd.snd.snd.snd.snd.snd.snd.snd.snd.snd.fst],
        Sg.c (CV.f (FV.i IntKind.i64 d.snd.snd.snd.snd.snd.snd.snd.snd.snd.snd.snd.fst))],
    some
      [Sg.c (CV.f (FV.i IntKind.i64 d.snd.snd.snd.snd.snd.snd.snd.snd.snd.snd.snd.snd.fst)), Sg.c (CV.f (FV.i IntKind.i64 d.snd.snd.snd.snd.snd.snd.snd.snd.snd.snd.snd.snd.snd.fst)),
        Sg.c (CV.f (FV.b d.snd.snd.snd.snd.snd.snd.snd.snd.snd.snd.snd.snd.snd.snd.fst))],
    some
      [Sg.c (CV.f (FV.i IntKind.i64 d.snd.snd.snd.snd.snd.snd.snd.snd.snd.snd.snd.snd.snd.snd.snd.fst)),
        Sg.c (CV.f (FV.i IntKind.i64 d.snd.snd.snd.snd.snd.snd.snd.snd.snd.snd.snd.snd.snd.snd.snd.snd.fst)),
        Sg.c (CV.f (FV.b d.snd.snd.snd.snd.snd.snd.snd.snd.snd.snd.snd.snd.snd.snd.snd.snd.snd.fst)), Sg.c (CV.f (FV.i IntKind.i64 0)), Sg.c (CV.f (FV.i IntKind.i64 9)),
        Sg.c (CV.f (FV.i IntKind.i64 0))],
    some
      [Sg.c (CV.f (FV.i IntKind.i64 d.snd.snd.snd.snd.snd.snd.snd.snd.snd.snd.snd.snd.snd.snd.snd.snd.snd.snd.fst)),
        Sg.c (CV.f (FV.i IntKind.i64 d.snd.snd.snd.snd.snd.snd.snd.snd.snd.snd.snd.snd.snd.snd.snd.snd.snd.snd.snd.fst)),
        Sg.c (CV.f (FV.b d.snd.snd.snd.snd.snd.snd.snd.snd.snd.snd.snd.snd.snd.snd.snd.snd.snd.snd.snd.snd.fst)),
        Sg.c (CV.f (FV.i IntKind.i64 d.snd.snd.snd.snd.snd.snd.snd.snd.snd.snd.snd.snd.snd.snd.snd.snd.snd.snd.snd.snd.snd.fst)),
        Sg.c (CV.f (FV.i IntKind.i64 d.snd.snd.snd.snd.snd.snd.snd.snd.snd.snd.snd.snd.snd.snd.snd.snd.snd.snd.snd.snd.snd.snd.fst)),
        Sg.c (CV.f (FV.i IntKind.i64 d.snd.snd.snd.snd.snd.snd.snd.snd.snd.snd.snd.snd.snd.snd.snd.snd.snd.snd.snd.snd.snd.snd.snd))]]
  [])) := by kernel_rfl
theorem it_astrolabelaw24_awake_0 {ρ : Type} (x0 : Int) (x1 : Int) (x2 : Int) (x3 : Bool) (x4 : Nat → Int) (x5 : Nat → Int) (x6 : Nat → Bool) (x7 : Nat → Int) (x8 : Nat → Int) (x9 : Nat → Int) (x10 : Int) (x11 : Int) (x12 : Int) (x13 : Bool) (x14 : Int) (x15 : Int) (x16 : Bool) (x17 : Int) (x18 : Int) (x19 : Bool) (x20 : Int) (x21 : Int) (x22 : Int) (K : AX → St → Option ρ) :
    iter (fun t => t.head 0 ⟨[⟨13, [0, 8, 9, 10, 11, 13, 14, 15, 16, 18, 19, 20, 21, 22, 24, 25, 26, 27, 28, 29, 31, 32, 33, 34, 35, 36, 37, 38, 39, 40, 42, 43, 44, 45, 46, 50, 51, 55, 56, 60, 61, 66, 67, 73, 74, 80, 81, 84, 85, 88, 89, 96, 97, 103, 104, 110, 111, 114, 41], []⟩], [⟨13, 0, @R_astrolabelaw24_awake_0 (@L_astrolabelaw24_awake_0)⟩], []⟩ (loopIn Try.prog 15 13)) (runC Try.prog (envOf [(16, F_health_New f_health_New), (21, F___health_Monitor__Result f___health_Monitor__Result), (25, F___health_Watch__Mark f___health_Watch__Mark), (28, F___health_Watch__Miss f___health_Watch__Miss), (17, F___health_Monitor__Sensor f___health_Monitor__Sensor), (24, F___health_Monitor__Vertical f___health_Monitor__Vertical), (18, F___health_Monitor__Usable f___health_Monitor__Usable), (19, F___health_Monitor__Faults f___health_Monitor__Faults), (29, F___health_Watch__Fresh f___health_Watch__Fresh), (27, F___health_Sensor__Usable f___health_Sensor__Usable), (20, F___health_Monitor__Bad f___health_Monitor__Bad)]) ⟨[⟨13, [0, 8, 9, 10, 11, 13, 14, 15, 16, 18, 19, 20, 21, 22, 24, 25, 26, 27, 28, 29, 31, 32, 33, 34, 35, 36, 37, 38, 39, 40, 42, 43, 44, 45, 46, 50, 51, 55, 56, 60, 61, 66, 67, 73, 74, 80, 81, 84, 85, 88, 89, 96, 97, 103, 104, 110, 111, 114, 41], []⟩], [⟨13, 0, @R_astrolabelaw24_awake_0 (@L_astrolabelaw24_awake_0)⟩], []⟩ (tmpsOf Try.prog 15) 0 200 (loopIn Try.prog 15 13)) K 200
      (St.mk
    [AV.und, AV.r (RV.c (CV.ptr 0 (Off.k 0) 37)), AV.r (RV.c (CV.f (FV.i IntKind.i64 0))), AV.r (RV.c (CV.ptr 1 (Off.k 0) 3)), AV.r (RV.c (CV.ptr 2 (Off.k 0) 6)), AV.r (RV.c (CV.ptr 3 (Off.k 0) 6)),
      AV.r (RV.c (CV.f (FV.i IntKind.i64 x0))), AV.tup [RV.c (CV.ptr 0 (Off.k 0) 37), RV.c (CV.f (FV.i IntKind.i64 0))], AV.und, AV.und, AV.und, AV.und, AV.r (RV.c (CV.f (FV.i IntKind.i64 0))), AV.und,
      AV.und, AV.und, AV.und, AV.r (RV.c (CV.f (FV.b false))), AV.und, AV.und, AV.und, AV.und, AV.und, AV.r (RV.c (CV.ptr 1 (Off.k 0) 3)), AV.und, AV.und, AV.und, AV.und, AV.und, AV.und,
      AV.r (RV.agg [Sg.c (CV.f (FV.i IntKind.i64 x1)), Sg.c (CV.f (FV.i IntKind.i64 x2)), Sg.c (CV.f (FV.b x3))]), AV.und, AV.und, AV.und, AV.und, AV.und, AV.und, AV.und, AV.und, AV.und, AV.und, AV.und,
      AV.und, AV.und, AV.und, AV.und, AV.und, AV.tup [], AV.tup [], AV.tup [], AV.und, AV.und, AV.tup [], AV.tup [], AV.tup [], AV.und, AV.und, AV.tup [], AV.tup [], AV.tup [], AV.und, AV.und,
      AV.tup [], AV.tup [], AV.tup [], AV.tup [], AV.und, AV.und, AV.tup [], AV.tup [], AV.tup [], AV.tup [], AV.tup [], AV.und, AV.und, AV.tup [], AV.tup [], AV.tup [], AV.tup [], AV.tup [], AV.und,
      AV.und, AV.tup [], AV.tup [], AV.und, AV.und, AV.tup [], AV.tup [], AV.und, AV.und, AV.tup [], AV.tup [], AV.tup [], AV.tup [], AV.tup [], AV.tup [], AV.und, AV.und, AV.tup [], AV.tup [],
      AV.tup [], AV.tup [], AV.tup [], AV.und, AV.und, AV.tup [], AV.tup [], AV.tup [], AV.tup [], AV.tup [], AV.und, AV.und, AV.tup [], AV.tup [], AV.und]
    [some [Sg.a (Sz.l 6) [Col.i IntKind.i64 x4, Col.i IntKind.i64 x5, Col.b x6, Col.i IntKind.i64 x7, Col.i IntKind.i64 x8, Col.i IntKind.i64 x9], Sg.c (CV.f (FV.i IntKind.i64 x10))],
      some [Sg.c (CV.f (FV.i IntKind.i64 x11)), Sg.c (CV.f (FV.i IntKind.i64 x12)), Sg.c (CV.f (FV.b x13))],
      some
        [Sg.c (CV.f (FV.i IntKind.i64 x14)), Sg.c (CV.f (FV.i IntKind.i64 x15)), Sg.c (CV.f (FV.b x16)), Sg.c (CV.f (FV.i IntKind.i64 0)), Sg.c (CV.f (FV.i IntKind.i64 9)),
          Sg.c (CV.f (FV.i IntKind.i64 0))],
      some
        [Sg.c (CV.f (FV.i IntKind.i64 x17)), Sg.c (CV.f (FV.i IntKind.i64 x18)), Sg.c (CV.f (FV.b x19)), Sg.c (CV.f (FV.i IntKind.i64 x20)), Sg.c (CV.f (FV.i IntKind.i64 x21)),
          Sg.c (CV.f (FV.i IntKind.i64 x22))]]
    []) = L_astrolabelaw24_awake_0 (x0, x1, x2, x3, x4, x5, x6, x7, x8, x9, x10, x11, x12, x13, x14, x15, x16, x17, x18, x19, x20, x21, x22) (fun d => K (AX.ex 0) (St.mk
  [AV.und, AV.r (RV.c (CV.ptr 0 (Off.k 0) 37)), AV.r (RV.c (CV.f (FV.i IntKind.i64 0))), AV.r (RV.c (CV.ptr 1 (Off.k 0) 3)), AV.r (RV.c (CV.ptr 2 (Off.k 0) 6)), AV.r (RV.c (CV.ptr 3 (Off.k 0) 6)),
    AV.r (RV.c (CV.f (FV.i IntKind.i64 d.fst))), AV.tup [RV.c (CV.ptr 0 (Off.k 0) 37), RV.c (CV.f (FV.i IntKind.i64 0))], AV.und, AV.und, AV.und, AV.und, AV.r (RV.c (CV.f (FV.i IntKind.i64 0))),
    AV.und, AV.und, AV.und, AV.und, AV.r (RV.c (CV.f (FV.b false))), AV.und, AV.und, AV.und, AV.und, AV.und, AV.r (RV.c (CV.ptr 1 (Off.k 0) 3)), AV.und, AV.und, AV.und, AV.und, AV.und, AV.und,
    AV.r (RV.agg [Sg.c (CV.f (FV.i IntKind.i64 d.snd.fst)), Sg.c (CV.f (FV.i IntKind.i64 d.snd.snd.fst)), Sg.c (CV.f (FV.b d.snd.snd.snd.fst))]), AV.und, AV.und, AV.und, AV.und, AV.und,
    AV.r (RV.c (CV.f (FV.i IntKind.i64 d.fst))), AV.r (RV.c (CV.f (FV.b d.snd.snd.snd.snd.fst))), AV.und, AV.und, AV.und, AV.und, AV.und, AV.und, AV.und, AV.und, AV.und, AV.tup [], AV.tup [],
    AV.tup [], AV.und, AV.und, AV.tup [], AV.tup [], AV.tup [], AV.und, AV.und, AV.tup [], AV.tup [], AV.tup [], AV.und, AV.und, AV.tup [], AV.tup [], AV.tup [], AV.tup [], AV.und, AV.und, AV.tup [],
    AV.tup [], AV.tup [], AV.tup [], AV.tup [], AV.und, AV.und, AV.tup [], AV.tup [], AV.tup [], AV.tup [], AV.tup [], AV.und, AV.und, AV.tup [], AV.tup [], AV.und, AV.und, AV.tup [], AV.tup [],
    AV.und, AV.und, AV.tup [], AV.tup [], AV.tup [], AV.tup [], AV.tup [], AV.tup [], AV.und, AV.und, AV.tup [], AV.tup [], AV.tup [], AV.tup [], AV.tup [], AV.und, AV.und, AV.tup [], AV.tup [],
    AV.tup [], AV.tup [], AV.tup [], AV.und, AV.und, AV.tup [], AV.tup [], AV.und]
  [some
      [Sg.a (Sz.l 6)
          [Col.i IntKind.i64 d.snd.snd.snd.snd.snd.fst, Col.i IntKind.i64 d.snd.snd.snd.snd.snd.snd.fst, Col.b d.snd.snd.snd.snd.snd.snd.snd.fst,
            Col.i IntKind.i64 d.snd.snd.snd.snd.snd.snd.snd.snd.fst, Col.i IntKind.i64 d.snd.snd.snd.snd.snd.snd.snd.snd.snd.fst, Col.i IntKind.i64 d.snd.snd.snd.snd.snd.snd.snd.snd.snd.snd.fst],
        Sg.c (CV.f (FV.i IntKind.i64 d.snd.snd.snd.snd.snd.snd.snd.snd.snd.snd.snd.fst))],
    some
      [Sg.c (CV.f (FV.i IntKind.i64 d.snd.snd.snd.snd.snd.snd.snd.snd.snd.snd.snd.snd.fst)), Sg.c (CV.f (FV.i IntKind.i64 d.snd.snd.snd.snd.snd.snd.snd.snd.snd.snd.snd.snd.snd.fst)),
        Sg.c (CV.f (FV.b d.snd.snd.snd.snd.snd.snd.snd.snd.snd.snd.snd.snd.snd.snd.fst))],
    some
      [Sg.c (CV.f (FV.i IntKind.i64 d.snd.snd.snd.snd.snd.snd.snd.snd.snd.snd.snd.snd.snd.snd.snd.fst)),
        Sg.c (CV.f (FV.i IntKind.i64 d.snd.snd.snd.snd.snd.snd.snd.snd.snd.snd.snd.snd.snd.snd.snd.snd.fst)),
        Sg.c (CV.f (FV.b d.snd.snd.snd.snd.snd.snd.snd.snd.snd.snd.snd.snd.snd.snd.snd.snd.snd.fst)), Sg.c (CV.f (FV.i IntKind.i64 0)), Sg.c (CV.f (FV.i IntKind.i64 9)),
        Sg.c (CV.f (FV.i IntKind.i64 0))],
    some
      [Sg.c (CV.f (FV.i IntKind.i64 d.snd.snd.snd.snd.snd.snd.snd.snd.snd.snd.snd.snd.snd.snd.snd.snd.snd.snd.fst)),
        Sg.c (CV.f (FV.i IntKind.i64 d.snd.snd.snd.snd.snd.snd.snd.snd.snd.snd.snd.snd.snd.snd.snd.snd.snd.snd.snd.fst)),
        Sg.c (CV.f (FV.b d.snd.snd.snd.snd.snd.snd.snd.snd.snd.snd.snd.snd.snd.snd.snd.snd.snd.snd.snd.snd.fst)),
        Sg.c (CV.f (FV.i IntKind.i64 d.snd.snd.snd.snd.snd.snd.snd.snd.snd.snd.snd.snd.snd.snd.snd.snd.snd.snd.snd.snd.snd.fst)),
        Sg.c (CV.f (FV.i IntKind.i64 d.snd.snd.snd.snd.snd.snd.snd.snd.snd.snd.snd.snd.snd.snd.snd.snd.snd.snd.snd.snd.snd.snd.fst)),
        Sg.c (CV.f (FV.i IntKind.i64 d.snd.snd.snd.snd.snd.snd.snd.snd.snd.snd.snd.snd.snd.snd.snd.snd.snd.snd.snd.snd.snd.snd.snd))]]
  [])) :=
  iter_loopX (emb := fun (d : Int × Int × Int × Bool × (Nat → Int) × (Nat → Int) × (Nat → Bool) × (Nat → Int) × (Nat → Int) × (Nat → Int) × Int × Int × Int × Bool × Int × Int × Bool × Int × Int × Bool × Int × Int × Int) => St.mk
  [AV.und, AV.r (RV.c (CV.ptr 0 (Off.k 0) 37)), AV.r (RV.c (CV.f (FV.i IntKind.i64 0))), AV.r (RV.c (CV.ptr 1 (Off.k 0) 3)), AV.r (RV.c (CV.ptr 2 (Off.k 0) 6)), AV.r (RV.c (CV.ptr 3 (Off.k 0) 6)),
    AV.r (RV.c (CV.f (FV.i IntKind.i64 d.fst))), AV.tup [RV.c (CV.ptr 0 (Off.k 0) 37), RV.c (CV.f (FV.i IntKind.i64 0))], AV.und, AV.und, AV.und, AV.und, AV.r (RV.c (CV.f (FV.i IntKind.i64 0))),
    AV.und, AV.und, AV.und, AV.und, AV.r (RV.c (CV.f (FV.b false))), AV.und, AV.und, AV.und, AV.und, AV.und, AV.r (RV.c (CV.ptr 1 (Off.k 0) 3)), AV.und, AV.und, AV.und, AV.und, AV.und, AV.und,
    AV.r (RV.agg [Sg.c (CV.f (FV.i IntKind.i64 d.snd.fst)), Sg.c (CV.f (FV.i IntKind.i64 d.snd.snd.fst)), Sg.c (CV.f (FV.b d.snd.snd.snd.fst))]), AV.und, AV.und, AV.und, AV.und, AV.und, AV.und,
    AV.und, AV.und, AV.und, AV.und, AV.und, AV.und, AV.und, AV.und, AV.und, AV.und, AV.tup [], AV.tup [], AV.tup [], AV.und, AV.und, AV.tup [], AV.tup [], AV.tup [], AV.und, AV.und, AV.tup [],
    AV.tup [], AV.tup [], AV.und, AV.und, AV.tup [], AV.tup [], AV.tup [], AV.tup [], AV.und, AV.und, AV.tup [], AV.tup [], AV.tup [], AV.tup [], AV.tup [], AV.und, AV.und, AV.tup [], AV.tup [],
    AV.tup [], AV.tup [], AV.tup [], AV.und, AV.und, AV.tup [], AV.tup [], AV.und, AV.und, AV.tup [], AV.tup [], AV.und, AV.und, AV.tup [], AV.tup [], AV.tup [], AV.tup [], AV.tup [], AV.tup [],
    AV.und, AV.und, AV.tup [], AV.tup [], AV.tup [], AV.tup [], AV.tup [], AV.und, AV.und, AV.tup [], AV.tup [], AV.tup [], AV.tup [], AV.tup [], AV.und, AV.und, AV.tup [], AV.tup [], AV.und]
  [some
      [Sg.a (Sz.l 6)
          [Col.i IntKind.i64 d.snd.snd.snd.snd.fst, Col.i IntKind.i64 d.snd.snd.snd.snd.snd.fst, Col.b d.snd.snd.snd.snd.snd.snd.fst, Col.i IntKind.i64 d.snd.snd.snd.snd.snd.snd.snd.fst,
            Col.i IntKind.i64 d.snd.snd.snd.snd.snd.snd.snd.snd.fst, Col.i IntKind.i64 d.snd.snd.snd.snd.snd.snd.snd.snd.snd.fst],
        Sg.c (CV.f (FV.i IntKind.i64 d.snd.snd.snd.snd.snd.snd.snd.snd.snd.snd.fst))],
    some
      [Sg.c (CV.f (FV.i IntKind.i64 d.snd.snd.snd.snd.snd.snd.snd.snd.snd.snd.snd.fst)), Sg.c (CV.f (FV.i IntKind.i64 d.snd.snd.snd.snd.snd.snd.snd.snd.snd.snd.snd.snd.fst)),
        Sg.c (CV.f (FV.b d.snd.snd.snd.snd.snd.snd.snd.snd.snd.snd.snd.snd.snd.fst))],
    some
      [Sg.c (CV.f (FV.i IntKind.i64 d.snd.snd.snd.snd.snd.snd.snd.snd.snd.snd.snd.snd.snd.snd.fst)), Sg.c (CV.f (FV.i IntKind.i64 d.snd.snd.snd.snd.snd.snd.snd.snd.snd.snd.snd.snd.snd.snd.snd.fst)),
        Sg.c (CV.f (FV.b d.snd.snd.snd.snd.snd.snd.snd.snd.snd.snd.snd.snd.snd.snd.snd.snd.fst)), Sg.c (CV.f (FV.i IntKind.i64 0)), Sg.c (CV.f (FV.i IntKind.i64 9)), Sg.c (CV.f (FV.i IntKind.i64 0))],
    some
      [Sg.c (CV.f (FV.i IntKind.i64 d.snd.snd.snd.snd.snd.snd.snd.snd.snd.snd.snd.snd.snd.snd.snd.snd.snd.fst)),
        Sg.c (CV.f (FV.i IntKind.i64 d.snd.snd.snd.snd.snd.snd.snd.snd.snd.snd.snd.snd.snd.snd.snd.snd.snd.snd.fst)),
        Sg.c (CV.f (FV.b d.snd.snd.snd.snd.snd.snd.snd.snd.snd.snd.snd.snd.snd.snd.snd.snd.snd.snd.snd.fst)),
        Sg.c (CV.f (FV.i IntKind.i64 d.snd.snd.snd.snd.snd.snd.snd.snd.snd.snd.snd.snd.snd.snd.snd.snd.snd.snd.snd.snd.fst)),
        Sg.c (CV.f (FV.i IntKind.i64 d.snd.snd.snd.snd.snd.snd.snd.snd.snd.snd.snd.snd.snd.snd.snd.snd.snd.snd.snd.snd.snd.fst)),
        Sg.c (CV.f (FV.i IntKind.i64 d.snd.snd.snd.snd.snd.snd.snd.snd.snd.snd.snd.snd.snd.snd.snd.snd.snd.snd.snd.snd.snd.snd))]]
  []) (step := fun d c x => S_astrolabelaw24_awake_0 f_health_New f___health_Monitor__Result f___health_Watch__Mark f___health_Watch__Miss f___health_Monitor__Sensor f___health_Monitor__Vertical f___health_Monitor__Usable f___health_Monitor__Faults f___health_Watch__Fresh f___health_Sensor__Usable f___health_Monitor__Bad  d.1 d.2.1 d.2.2.1 d.2.2.2.1 d.2.2.2.2.1 d.2.2.2.2.2.1 d.2.2.2.2.2.2.1 d.2.2.2.2.2.2.2.1 d.2.2.2.2.2.2.2.2.1 d.2.2.2.2.2.2.2.2.2.1 d.2.2.2.2.2.2.2.2.2.2.1 d.2.2.2.2.2.2.2.2.2.2.2.1 d.2.2.2.2.2.2.2.2.2.2.2.2.1 d.2.2.2.2.2.2.2.2.2.2.2.2.2.1 d.2.2.2.2.2.2.2.2.2.2.2.2.2.2.1 d.2.2.2.2.2.2.2.2.2.2.2.2.2.2.2.1 d.2.2.2.2.2.2.2.2.2.2.2.2.2.2.2.2.1 d.2.2.2.2.2.2.2.2.2.2.2.2.2.2.2.2.2.1 d.2.2.2.2.2.2.2.2.2.2.2.2.2.2.2.2.2.2.1 d.2.2.2.2.2.2.2.2.2.2.2.2.2.2.2.2.2.2.2.1 d.2.2.2.2.2.2.2.2.2.2.2.2.2.2.2.2.2.2.2.2.1 d.2.2.2.2.2.2.2.2.2.2.2.2.2.2.2.2.2.2.2.2.2.1 d.2.2.2.2.2.2.2.2.2.2.2.2.2.2.2.2.2.2.2.2.2.2 c x) (kx := (fun d => K (AX.ex 0) (St.mk
  [AV.und, AV.r (RV.c (CV.ptr 0 (Off.k 0) 37)), AV.r (RV.c (CV.f (FV.i IntKind.i64 0))), AV.r (RV.c (CV.ptr 1 (Off.k 0) 3)), AV.r (RV.c (CV.ptr 2 (Off.k 0) 6)), AV.r (RV.c (CV.ptr 3 (Off.k 0) 6)),
    AV.r (RV.c (CV.f (FV.i IntKind.i64 d.fst))), AV.tup [RV.c (CV.ptr 0 (Off.k 0) 37), RV.c (CV.f (FV.i IntKind.i64 0))], AV.und, AV.und, AV.und, AV.und, AV.r (RV.c (CV.f (FV.i IntKind.i64 0))),
    AV.und, AV.und, AV.und, AV.und, AV.r (RV.c (CV.f (FV.b false))), AV.und, AV.und, AV.und, AV.und, AV.und, AV.r (RV.c (CV.ptr 1 (Off.k 0) 3)), AV.und, AV.und, AV.und, AV.und, AV.und, AV.und,
    AV.r (RV.agg [Sg.c (CV.f (FV.i IntKind.i64 d.snd.fst)), Sg.c (CV.f (FV.i IntKind.i64 d.snd.snd.fst)), Sg.c (CV.f (FV.b d.snd.snd.snd.fst))]), AV.und, AV.und, AV.und, AV.und, AV.und,
    AV.r (RV.c (CV.f (FV.i IntKind.i64 d.fst))), AV.r (RV.c (CV.f (FV.b d.snd.snd.snd.snd.fst))), AV.und, AV.und, AV.und, AV.und, AV.und, AV.und, AV.und, AV.und, AV.und, AV.tup [], AV.tup [],
    AV.tup [], AV.und, AV.und, AV.tup [], AV.tup [], AV.tup [], AV.und, AV.und, AV.tup [], AV.tup [], AV.tup [], AV.und, AV.und, AV.tup [], AV.tup [], AV.tup [], AV.tup [], AV.und, AV.und, AV.tup [],
    AV.tup [], AV.tup [], AV.tup [], AV.tup [], AV.und, AV.und, AV.tup [], AV.tup [], AV.tup [], AV.tup [], AV.tup [], AV.und, AV.und, AV.tup [], AV.tup [], AV.und, AV.und, AV.tup [], AV.tup [],
    AV.und, AV.und, AV.tup [], AV.tup [], AV.tup [], AV.tup [], AV.tup [], AV.tup [], AV.und, AV.und, AV.tup [], AV.tup [], AV.tup [], AV.tup [], AV.tup [], AV.und, AV.und, AV.tup [], AV.tup [],
    AV.tup [], AV.tup [], AV.tup [], AV.und, AV.und, AV.tup [], AV.tup [], AV.und]
  [some
      [Sg.a (Sz.l 6)
          [Col.i IntKind.i64 d.snd.snd.snd.snd.snd.fst, Col.i IntKind.i64 d.snd.snd.snd.snd.snd.snd.fst, Col.b d.snd.snd.snd.snd.snd.snd.snd.fst,
            Col.i IntKind.i64 d.snd.snd.snd.snd.snd.snd.snd.snd.fst, Col.i IntKind.i64 d.snd.snd.snd.snd.snd.snd.snd.snd.snd.fst, Col.i IntKind.i64 d.snd.snd.snd.snd.snd.snd.snd.snd.snd.snd.fst],
        Sg.c (CV.f (FV.i IntKind.i64 d.snd.snd.snd.snd.snd.snd.snd.snd.snd.snd.snd.fst))],
    some
      [Sg.c (CV.f (FV.i IntKind.i64 d.snd.snd.snd.snd.snd.snd.snd.snd.snd.snd.snd.snd.fst)), Sg.c (CV.f (FV.i IntKind.i64 d.snd.snd.snd.snd.snd.snd.snd.snd.snd.snd.snd.snd.snd.fst)),
        Sg.c (CV.f (FV.b d.snd.snd.snd.snd.snd.snd.snd.snd.snd.snd.snd.snd.snd.snd.fst))],
    some
      [Sg.c (CV.f (FV.i IntKind.i64 d.snd.snd.snd.snd.snd.snd.snd.snd.snd.snd.snd.snd.snd.snd.snd.fst)),
        Sg.c (CV.f (FV.i IntKind.i64 d.snd.snd.snd.snd.snd.snd.snd.snd.snd.snd.snd.snd.snd.snd.snd.snd.fst)),
        Sg.c (CV.f (FV.b d.snd.snd.snd.snd.snd.snd.snd.snd.snd.snd.snd.snd.snd.snd.snd.snd.snd.fst)), Sg.c (CV.f (FV.i IntKind.i64 0)), Sg.c (CV.f (FV.i IntKind.i64 9)),
        Sg.c (CV.f (FV.i IntKind.i64 0))],
    some
      [Sg.c (CV.f (FV.i IntKind.i64 d.snd.snd.snd.snd.snd.snd.snd.snd.snd.snd.snd.snd.snd.snd.snd.snd.snd.snd.fst)),
        Sg.c (CV.f (FV.i IntKind.i64 d.snd.snd.snd.snd.snd.snd.snd.snd.snd.snd.snd.snd.snd.snd.snd.snd.snd.snd.snd.fst)),
        Sg.c (CV.f (FV.b d.snd.snd.snd.snd.snd.snd.snd.snd.snd.snd.snd.snd.snd.snd.snd.snd.snd.snd.snd.snd.fst)),
        Sg.c (CV.f (FV.i IntKind.i64 d.snd.snd.snd.snd.snd.snd.snd.snd.snd.snd.snd.snd.snd.snd.snd.snd.snd.snd.snd.snd.snd.fst)),
        Sg.c (CV.f (FV.i IntKind.i64 d.snd.snd.snd.snd.snd.snd.snd.snd.snd.snd.snd.snd.snd.snd.snd.snd.snd.snd.snd.snd.snd.snd.fst)),
        Sg.c (CV.f (FV.i IntKind.i64 d.snd.snd.snd.snd.snd.snd.snd.snd.snd.snd.snd.snd.snd.snd.snd.snd.snd.snd.snd.snd.snd.snd.snd))]]
  [])))
    (fun d c => ds_astrolabelaw24_awake_0 f_health_New f___health_Monitor__Result f___health_Watch__Mark f___health_Watch__Miss f___health_Monitor__Sensor f___health_Monitor__Vertical f___health_Monitor__Usable f___health_Monitor__Faults f___health_Watch__Fresh f___health_Sensor__Usable f___health_Monitor__Bad (@L_astrolabelaw24_awake_0) d.1 d.2.1 d.2.2.1 d.2.2.2.1 d.2.2.2.2.1 d.2.2.2.2.2.1 d.2.2.2.2.2.2.1 d.2.2.2.2.2.2.2.1 d.2.2.2.2.2.2.2.2.1 d.2.2.2.2.2.2.2.2.2.1 d.2.2.2.2.2.2.2.2.2.2.1 d.2.2.2.2.2.2.2.2.2.2.2.1 d.2.2.2.2.2.2.2.2.2.2.2.2.1 d.2.2.2.2.2.2.2.2.2.2.2.2.2.1 d.2.2.2.2.2.2.2.2.2.2.2.2.2.2.1 d.2.2.2.2.2.2.2.2.2.2.2.2.2.2.2.1 d.2.2.2.2.2.2.2.2.2.2.2.2.2.2.2.2.1 d.2.2.2.2.2.2.2.2.2.2.2.2.2.2.2.2.2.1 d.2.2.2.2.2.2.2.2.2.2.2.2.2.2.2.2.2.2.1 d.2.2.2.2.2.2.2.2.2.2.2.2.2.2.2.2.2.2.2.1 d.2.2.2.2.2.2.2.2.2.2.2.2.2.2.2.2.2.2.2.2.1 d.2.2.2.2.2.2.2.2.2.2.2.2.2.2.2.2.2.2.2.2.2.1 d.2.2.2.2.2.2.2.2.2.2.2.2.2.2.2.2.2.2.2.2.2.2 c K) 200 (x0, x1, x2, x3, x4, x5, x6, x7, x8, x9, x10, x11, x12, x13, x14, x15, x16, x17, x18, x19, x20, x21, x22)
theorem so_astrolabelaw24_awake_0 : ∀ kk, SumOK Try.prog (envOf [(16, F_health_New f_health_New), (21, F___health_Monitor__Result f___health_Monitor__Result), (25, F___health_Watch__Mark f___health_Watch__Mark), (28, F___health_Watch__Miss f___health_Watch__Miss), (17, F___health_Monitor__Sensor f___health_Monitor__Sensor), (24, F___health_Monitor__Vertical f___health_Monitor__Vertical), (18, F___health_Monitor__Usable f___health_Monitor__Usable), (19, F___health_Monitor__Faults f___health_Monitor__Faults), (29, F___health_Watch__Fresh f___health_Watch__Fresh), (27, F___health_Sensor__Usable f___health_Sensor__Usable), (20, F___health_Monitor__Bad f___health_Monitor__Bad)]) ⟨[⟨13, [0, 8, 9, 10, 11, 13, 14, 15, 16, 18, 19, 20, 21, 22, 24, 25, 26, 27, 28, 29, 31, 32, 33, 34, 35, 36, 37, 38, 39, 40, 42, 43, 44, 45, 46, 50, 51, 55, 56, 60, 61, 66, 67, 73, 74, 80, 81, 84, 85, 88, 89, 96, 97, 103, 104, 110, 111, 114, 41], []⟩], [⟨13, 0, @R_astrolabelaw24_awake_0 (@L_astrolabelaw24_awake_0)⟩], []⟩ (tmpsOf Try.prog 15) kk 200 (loopIn Try.prog 15 13) :=
  SumOK.of (id := 13) (k0 := 0) (run := @R_astrolabelaw24_awake_0 (@L_astrolabelaw24_awake_0)) (by kernel_rfl) fun s K r hr => by
    unfold R_astrolabelaw24_awake_0 at hr
    obtain ⟨b, hb, hr1⟩ := Option.bind_eq_some_iff.1 hr
    have e := ((Q_astrolabelaw24_awake_0).ok s b hb).trans (q_astrolabelaw24_awake_0 b)
    subst e
    exact ⟨200, (it_astrolabelaw24_awake_0 b.1.2.2.2.2.2.2.1 b.1.2.2.2.2.2.2.2.2.2.2.2.2.2.2.2.2.2.2.2.2.2.2.2.2.2.2.2.2.2.2.1.1 b.1.2.2.2.2.2.2.2.2.2.2.2.2.2.2.2.2.2.2.2.2.2.2.2.2.2.2.2.2.2.2.1.2.1 b.1.2.2.2.2.2.2.2.2.2.2.2.2.2.2.2.2.2.2.2.2.2.2.2.2.2.2.2.2.2.2.1.2.2.1 b.2.1.1.1.2.1 b.2.1.1.1.2.2.1 b.2.1.1.1.2.2.2.1 b.2.1.1.1.2.2.2.2.1 b.2.1.1.1.2.2.2.2.2.1 b.2.1.1.1.2.2.2.2.2.2.1 b.2.1.1.2.1 b.2.1.2.1.1 b.2.1.2.1.2.1 b.2.1.2.1.2.2.1 b.2.1.2.2.1.1 b.2.1.2.2.1.2.1 b.2.1.2.2.1.2.2.1 b.2.1.2.2.2.1.1 b.2.1.2.2.2.1.2.1 b.2.1.2.2.2.1.2.2.1 b.2.1.2.2.2.1.2.2.2.1 b.2.1.2.2.2.1.2.2.2.2.1 b.2.1.2.2.2.1.2.2.2.2.2.1 K).trans hr1⟩
def K_astrolabelaw24_awake {ρ : Type} (g_health_New : Int → Nat → (Nat → Int) → Bool → Option (Unit ⊕ (Nat → Int) × (Nat → Int) × (Nat → Bool) × (Nat → Int) × (Nat → Int) × (Nat → Int))) (g___health_Monitor__Result : Int →
  Int →
    Nat →
      (Nat → Int) →
        (Nat → Int) →
          (Nat → Bool) →
            (Nat → Int) →
              (Nat → Int) → (Nat → Int) → Int → (Nat → Bool) → (Nat → Int) → (Nat → Int) → Bool → Option ((Nat → Int) × (Nat → Int) × (Nat → Bool) × (Nat → Int) × (Nat → Int) × (Nat → Int) × Int)) (g___health_Watch__Mark : Int → Int → Int → Bool → Option Int) (g___health_Watch__Miss : Int → Int → Bool → Option (Int × Int × Bool)) (g___health_Monitor__Sensor : Int → (Nat → Int) → (Nat → Int) → (Nat → Bool) → (Nat → Int) → (Nat → Int) → (Nat → Int) → Int → Option (Int × Int × Bool × Int × Int × Int)) (g___health_Monitor__Vertical : Bool →
  Int →
    Int →
      Bool →
        Int →
          Int →
            (Nat → Int) → (Nat → Int) → (Nat → Bool) → (Nat → Int) → (Nat → Int) → (Nat → Int) → Int → Option ((Nat → Int) × (Nat → Int) × (Nat → Bool) × (Nat → Int) × (Nat → Int) × (Nat → Int) × Int)) (g___health_Monitor__Usable : Int → Int → (Nat → Int) → (Nat → Int) → (Nat → Bool) → (Nat → Int) → (Nat → Int) → (Nat → Int) → Int → Option Bool) (g___health_Monitor__Faults : Int → (Nat → Int) → (Nat → Int) → (Nat → Bool) → (Nat → Int) → (Nat → Int) → (Nat → Int) → Int → Option Int) (g___health_Watch__Fresh : Int → Int → Int → Int → Bool → Option Bool) (g___health_Sensor__Usable : Int → Int → Int → Bool → Int → Int → Int → Option Bool) (g___health_Monitor__Bad : (Nat → Int) → (Nat → Int) → (Nat → Bool) → (Nat → Int) → (Nat → Int) → (Nat → Int) → Int → Option Bool) (l_0 : ∀ {ρ : Type}, (Int × Int × Int × Bool × (Nat → Int) × (Nat → Int) × (Nat → Bool) × (Nat → Int) × (Nat → Int) × (Nat → Int) × Int × Int × Int × Bool × Int × Int × Bool × Int × Int × Bool × Int × Int × Int) → ((Int × Int × Int × Bool × Bool × (Nat → Int) × (Nat → Int) × (Nat → Bool) × (Nat → Int) × (Nat → Int) × (Nat → Int) × Int × Int × Int × Bool × Int × Int × Bool × Int × Int × Bool × Int × Int × Int) → Option ρ) → Option ρ)  (k : (Bool) → Option ρ) : Option ρ :=
  Option.bind
    (g_health_New 3 6
      (fun (j : Nat) =>
        bif Nat.beq j 5 then 100 else bif Nat.beq j 4 then 100 else bif Nat.beq j 3 then 100 else bif Nat.beq j 2 then 100 else bif Nat.beq j 1 then 100 else bif Nat.beq j 0 then 100 else 100)
      true)
    fun (d : Unit ⊕ (Nat → Int) × (Nat → Int) × (Nat → Bool) × (Nat → Int) × (Nat → Int) × (Nat → Int)) =>
    bif
        match d with
        | Sum.inl val => true
        | Sum.inr val => false then
      Option.bind
        (match d with
        | Sum.inl a => some a
        | Sum.inr val => none)
        fun (d : Unit) => k false
    else
      Option.bind
        (match d with
        | Sum.inr b => some b
        | Sum.inl val => none)
        fun (d : (Nat → Int) × (Nat → Int) × (Nat → Bool) × (Nat → Int) × (Nat → Int) × (Nat → Int)) =>
        Option.bind
          (g___health_Monitor__Result 0 5 1 d.1 d.snd.1 d.snd.snd.1 d.snd.snd.snd.1 d.snd.snd.snd.snd.1 d.snd.snd.snd.snd.2 0 (fun (j : Nat) => bif Nat.beq j 0 then true else true)
            (fun (j : Nat) => bif Nat.beq j 0 then 0 else 0) (fun (j : Nat) => bif Nat.beq j 0 then 0 else 0) true)
          fun (d : (Nat → Int) × (Nat → Int) × (Nat → Bool) × (Nat → Int) × (Nat → Int) × (Nat → Int) × Int) =>
          Option.bind (g___health_Watch__Mark 7 0 0 false) fun (d_1 : Int) =>
            Option.bind (g___health_Watch__Miss d_1 0 true) fun (d_2 : Int × Int × Bool) =>
              Option.bind (g___health_Monitor__Sensor 0 d.1 d.snd.1 d.snd.snd.1 d.snd.snd.snd.1 d.snd.snd.snd.snd.1 d.snd.snd.snd.snd.snd.1 d.snd.snd.snd.snd.snd.snd)
                fun (d_3 : Int × Int × Bool × Int × Int × Int) =>
                l_0
                  (0, d_2.fst, d_2.snd.fst, d_2.snd.snd, d.1, d.snd.1, d.snd.snd.1, d.snd.snd.snd.1, d.snd.snd.snd.snd.1, d.snd.snd.snd.snd.snd.1, d.snd.snd.snd.snd.snd.snd, d_2.fst, d_2.snd.fst,
                    d_2.snd.snd, d_2.fst, d_2.snd.fst, d_2.snd.snd, d_3.fst, d_3.snd.fst, d_3.snd.snd.fst, d_3.snd.snd.snd.fst, d_3.snd.snd.snd.snd.fst, d_3.snd.snd.snd.snd.snd)
                  fun
                    (d :
                      Int ×
                        Int ×
                          Int ×
                            Bool ×
                              Bool ×
                                (Nat → Int) × (Nat → Int) × (Nat → Bool) × (Nat → Int) × (Nat → Int) × (Nat → Int) × Int × Int × Int × Bool × Int × Int × Bool × Int × Int × Bool × Int × Int × Int) =>
                  Option.bind
                    (g___health_Monitor__Usable 0 105 d.snd.snd.snd.snd.snd.1 d.snd.snd.snd.snd.snd.snd.1 d.snd.snd.snd.snd.snd.snd.snd.1 d.snd.snd.snd.snd.snd.snd.snd.snd.1
                      d.snd.snd.snd.snd.snd.snd.snd.snd.snd.1 d.snd.snd.snd.snd.snd.snd.snd.snd.snd.snd.1 d.snd.snd.snd.snd.snd.snd.snd.snd.snd.snd.snd.fst)
                    fun (d_4 : Bool) =>
                    bif d_4 then
                      Option.bind
                        (g___health_Monitor__Usable 0 106 d.snd.snd.snd.snd.snd.1 d.snd.snd.snd.snd.snd.snd.1 d.snd.snd.snd.snd.snd.snd.snd.1 d.snd.snd.snd.snd.snd.snd.snd.snd.1
                          d.snd.snd.snd.snd.snd.snd.snd.snd.snd.1 d.snd.snd.snd.snd.snd.snd.snd.snd.snd.snd.1 d.snd.snd.snd.snd.snd.snd.snd.snd.snd.snd.snd.fst)
                        fun (d_5 : Bool) =>
                        bif !d_5 then
                          Option.bind
                            (g___health_Monitor__Faults 106 d.snd.snd.snd.snd.snd.1 d.snd.snd.snd.snd.snd.snd.1 d.snd.snd.snd.snd.snd.snd.snd.1 d.snd.snd.snd.snd.snd.snd.snd.snd.1
                              d.snd.snd.snd.snd.snd.snd.snd.snd.snd.1 d.snd.snd.snd.snd.snd.snd.snd.snd.snd.snd.1 d.snd.snd.snd.snd.snd.snd.snd.snd.snd.snd.snd.fst)
                            fun (d_6 : Int) =>
                            bif d_6 == 1 then
                              Option.bind
                                (g___health_Monitor__Faults 105 d.snd.snd.snd.snd.snd.1 d.snd.snd.snd.snd.snd.snd.1 d.snd.snd.snd.snd.snd.snd.snd.1 d.snd.snd.snd.snd.snd.snd.snd.snd.1
                                  d.snd.snd.snd.snd.snd.snd.snd.snd.snd.1 d.snd.snd.snd.snd.snd.snd.snd.snd.snd.snd.1 d.snd.snd.snd.snd.snd.snd.snd.snd.snd.snd.snd.fst)
                                fun (d_7 : Int) =>
                                bif d_7 == 0 then
                                  bif d.snd.snd.snd.snd.snd.snd.snd.snd.snd.snd.snd.snd.snd.snd.fst then
                                    bif d.snd.snd.snd.snd.snd.snd.snd.snd.snd.snd.snd.snd.fst == 7 then
                                      bif d.snd.snd.snd.snd.snd.snd.snd.snd.snd.snd.snd.snd.snd.fst == 1 then
                                        Option.bind
                                          (g___health_Watch__Fresh 16 9 d.snd.snd.snd.snd.snd.snd.snd.snd.snd.snd.snd.snd.snd.snd.snd.fst
                                            d.snd.snd.snd.snd.snd.snd.snd.snd.snd.snd.snd.snd.snd.snd.snd.snd.fst d.snd.snd.snd.snd.snd.snd.snd.snd.snd.snd.snd.snd.snd.snd.snd.snd.snd.fst)
                                          fun (d_8 : Bool) =>
                                          bif d_8 then
                                            Option.bind
                                              (g___health_Sensor__Usable 16 d.snd.snd.snd.snd.snd.snd.snd.snd.snd.snd.snd.snd.snd.snd.snd.fst
                                                d.snd.snd.snd.snd.snd.snd.snd.snd.snd.snd.snd.snd.snd.snd.snd.snd.fst d.snd.snd.snd.snd.snd.snd.snd.snd.snd.snd.snd.snd.snd.snd.snd.snd.snd.fst 0 9 0)
                                              fun (d_9 : Bool) =>
                                              bif !d_9 then
                                                bif d.snd.snd.snd.snd.snd.snd.snd.snd.snd.snd.snd.snd.snd.snd.snd.snd.snd.snd.fst == 5 then
                                                  bif d.snd.snd.snd.snd.snd.snd.snd.snd.snd.snd.snd.snd.snd.snd.snd.snd.snd.snd.snd.snd.snd.snd.fst == 100 then
                                                    bif d.snd.snd.snd.snd.snd.snd.snd.snd.snd.snd.snd.snd.snd.snd.snd.snd.snd.snd.snd.snd.snd.snd.snd == 3 then
                                                      Option.bind
                                                        (g___health_Monitor__Bad d.snd.snd.snd.snd.snd.1 d.snd.snd.snd.snd.snd.snd.1 d.snd.snd.snd.snd.snd.snd.snd.1 d.snd.snd.snd.snd.snd.snd.snd.snd.1
                                                          d.snd.snd.snd.snd.snd.snd.snd.snd.snd.1 d.snd.snd.snd.snd.snd.snd.snd.snd.snd.snd.1 d.snd.snd.snd.snd.snd.snd.snd.snd.snd.snd.snd.fst)
                                                        fun (d : Bool) => k d
                                                    else k false
                                                  else k false
                                                else k false
                                              else k false
                                          else k false
                                      else k false
                                    else k false
                                  else k false
                                else k false
                            else k false
                        else k false
                    else k false
def f_astrolabelaw24_awake  : Option (Bool) := K_astrolabelaw24_awake f_health_New f___health_Monitor__Result f___health_Watch__Mark f___health_Watch__Miss f___health_Monitor__Sensor f___health_Monitor__Vertical f___health_Monitor__Usable f___health_Monitor__Faults f___health_Watch__Fresh f___health_Sensor__Usable f___health_Monitor__Bad (@L_astrolabelaw24_awake_0)  some
section
open Go.Ab.Rdr
def QA_astrolabelaw24_awake := ((pair nil nil) : Rdr (List AV × List Blk) _)
end
def F_astrolabelaw24_awake (f : Option (Bool)) : Sem1 := fun args h => match (QA_astrolabelaw24_awake).rd (args, h) with
  | some b => .opt (f ) fun (d : Bool) => .leaf (Res.mk (AV.r (RV.c (CV.f (FV.b d)))) [] [])
  | none => .fail
theorem d_astrolabelaw24_awake (g_health_New : Int → Nat → (Nat → Int) → Bool → Option (Unit ⊕ (Nat → Int) × (Nat → Int) × (Nat → Bool) × (Nat → Int) × (Nat → Int) × (Nat → Int))) (g___health_Monitor__Result : Int →
  Int →
    Nat →
      (Nat → Int) →
        (Nat → Int) →
          (Nat → Bool) →
            (Nat → Int) →
              (Nat → Int) → (Nat → Int) → Int → (Nat → Bool) → (Nat → Int) → (Nat → Int) → Bool → Option ((Nat → Int) × (Nat → Int) × (Nat → Bool) × (Nat → Int) × (Nat → Int) × (Nat → Int) × Int)) (g___health_Watch__Mark : Int → Int → Int → Bool → Option Int) (g___health_Watch__Miss : Int → Int → Bool → Option (Int × Int × Bool)) (g___health_Monitor__Sensor : Int → (Nat → Int) → (Nat → Int) → (Nat → Bool) → (Nat → Int) → (Nat → Int) → (Nat → Int) → Int → Option (Int × Int × Bool × Int × Int × Int)) (g___health_Monitor__Vertical : Bool →
  Int →
    Int →
      Bool →
        Int →
          Int →
            (Nat → Int) → (Nat → Int) → (Nat → Bool) → (Nat → Int) → (Nat → Int) → (Nat → Int) → Int → Option ((Nat → Int) × (Nat → Int) × (Nat → Bool) × (Nat → Int) × (Nat → Int) × (Nat → Int) × Int)) (g___health_Monitor__Usable : Int → Int → (Nat → Int) → (Nat → Int) → (Nat → Bool) → (Nat → Int) → (Nat → Int) → (Nat → Int) → Int → Option Bool) (g___health_Monitor__Faults : Int → (Nat → Int) → (Nat → Int) → (Nat → Bool) → (Nat → Int) → (Nat → Int) → (Nat → Int) → Int → Option Int) (g___health_Watch__Fresh : Int → Int → Int → Int → Bool → Option Bool) (g___health_Sensor__Usable : Int → Int → Int → Bool → Int → Int → Int → Option Bool) (g___health_Monitor__Bad : (Nat → Int) → (Nat → Int) → (Nat → Bool) → (Nat → Int) → (Nat → Int) → (Nat → Int) → Int → Option Bool) (l_0 : ∀ {ρ : Type}, (Int × Int × Int × Bool × (Nat → Int) × (Nat → Int) × (Nat → Bool) × (Nat → Int) × (Nat → Int) × (Nat → Int) × Int × Int × Int × Bool × Int × Int × Bool × Int × Int × Bool × Int × Int × Int) → ((Int × Int × Int × Bool × Bool × (Nat → Int) × (Nat → Int) × (Nat → Bool) × (Nat → Int) × (Nat → Int) × (Nat → Int) × Int × Int × Int × Bool × Int × Int × Bool × Int × Int × Bool × Int × Int × Int) → Option ρ) → Option ρ)  : den Try.prog (envOf [(16, F_health_New g_health_New), (21, F___health_Monitor__Result g___health_Monitor__Result), (25, F___health_Watch__Mark g___health_Watch__Mark), (28, F___health_Watch__Miss g___health_Watch__Miss), (17, F___health_Monitor__Sensor g___health_Monitor__Sensor), (24, F___health_Monitor__Vertical g___health_Monitor__Vertical), (18, F___health_Monitor__Usable g___health_Monitor__Usable), (19, F___health_Monitor__Faults g___health_Monitor__Faults), (29, F___health_Watch__Fresh g___health_Watch__Fresh), (27, F___health_Sensor__Usable g___health_Sensor__Usable), (20, F___health_Monitor__Bad g___health_Monitor__Bad)]) ⟨[⟨13, [0, 8, 9, 10, 11, 13, 14, 15, 16, 18, 19, 20, 21, 22, 24, 25, 26, 27, 28, 29, 31, 32, 33, 34, 35, 36, 37, 38, 39, 40, 42, 43, 44, 45, 46, 50, 51, 55, 56, 60, 61, 66, 67, 73, 74, 80, 81, 84, 85, 88, 89, 96, 97, 103, 104, 110, 111, 114, 41], []⟩], [⟨13, 0, @R_astrolabelaw24_awake_0 (@l_0)⟩], []⟩ 200 15 [] [] =
    K_astrolabelaw24_awake g_health_New g___health_Monitor__Result g___health_Watch__Mark g___health_Watch__Miss g___health_Monitor__Sensor g___health_Monitor__Vertical g___health_Monitor__Usable g___health_Monitor__Faults g___health_Watch__Fresh g___health_Sensor__Usable g___health_Monitor__Bad (@l_0)  (fun (d : Bool) => some (Res.mk (AV.r (RV.c (CV.f (FV.b d)))) [] [])) := by kernel_rfl
theorem m_astrolabelaw24_awake {ρ σ : Type} (q : ρ → Option σ) (g_health_New : Int → Nat → (Nat → Int) → Bool → Option (Unit ⊕ (Nat → Int) × (Nat → Int) × (Nat → Bool) × (Nat → Int) × (Nat → Int) × (Nat → Int))) (g___health_Monitor__Result : Int →
  Int →
    Nat →
      (Nat → Int) →
        (Nat → Int) →
          (Nat → Bool) →
            (Nat → Int) →
              (Nat → Int) → (Nat → Int) → Int → (Nat → Bool) → (Nat → Int) → (Nat → Int) → Bool → Option ((Nat → Int) × (Nat → Int) × (Nat → Bool) × (Nat → Int) × (Nat → Int) × (Nat → Int) × Int)) (g___health_Watch__Mark : Int → Int → Int → Bool → Option Int) (g___health_Watch__Miss : Int → Int → Bool → Option (Int × Int × Bool)) (g___health_Monitor__Sensor : Int → (Nat → Int) → (Nat → Int) → (Nat → Bool) → (Nat → Int) → (Nat → Int) → (Nat → Int) → Int → Option (Int × Int × Bool × Int × Int × Int)) (g___health_Monitor__Vertical : Bool →
  Int →
    Int →
      Bool →
        Int →
          Int →
            (Nat → Int) → (Nat → Int) → (Nat → Bool) → (Nat → Int) → (Nat → Int) → (Nat → Int) → Int → Option ((Nat → Int) × (Nat → Int) × (Nat → Bool) × (Nat → Int) × (Nat → Int) × (Nat → Int) × Int)) (g___health_Monitor__Usable : Int → Int → (Nat → Int) → (Nat → Int) → (Nat → Bool) → (Nat → Int) → (Nat → Int) → (Nat → Int) → Int → Option Bool) (g___health_Monitor__Faults : Int → (Nat → Int) → (Nat → Int) → (Nat → Bool) → (Nat → Int) → (Nat → Int) → (Nat → Int) → Int → Option Int) (g___health_Watch__Fresh : Int → Int → Int → Int → Bool → Option Bool) (g___health_Sensor__Usable : Int → Int → Int → Bool → Int → Int → Int → Option Bool) (g___health_Monitor__Bad : (Nat → Int) → (Nat → Int) → (Nat → Bool) → (Nat → Int) → (Nat → Int) → (Nat → Int) → Int → Option Bool) (l_0 : ∀ {ρ : Type}, (Int × Int × Int × Bool × (Nat → Int) × (Nat → Int) × (Nat → Bool) × (Nat → Int) × (Nat → Int) × (Nat → Int) × Int × Int × Int × Bool × Int × Int × Bool × Int × Int × Bool × Int × Int × Int) → ((Int × Int × Int × Bool × Bool × (Nat → Int) × (Nat → Int) × (Nat → Bool) × (Nat → Int) × (Nat → Int) × (Nat → Int) × Int × Int × Int × Bool × Int × Int × Bool × Int × Int × Bool × Int × Int × Int) → Option ρ) → Option ρ) (hl_0 : ∀ {ρ σ : Type} (q : ρ → Option σ) (d : Int × Int × Int × Bool × (Nat → Int) × (Nat → Int) × (Nat → Bool) × (Nat → Int) × (Nat → Int) × (Nat → Int) × Int × Int × Int × Bool × Int × Int × Bool × Int × Int × Bool × Int × Int × Int) (k : (Int × Int × Int × Bool × Bool × (Nat → Int) × (Nat → Int) × (Nat → Bool) × (Nat → Int) × (Nat → Int) × (Nat → Int) × Int × Int × Int × Bool × Int × Int × Bool × Int × Int × Bool × Int × Int × Int) → Option ρ), (l_0 d k).bind q = l_0 d fun x => (k x).bind q)  (k : (Bool) → Option ρ) : (K_astrolabelaw24_awake g_health_New g___health_Monitor__Result g___health_Watch__Mark g___health_Watch__Miss g___health_Monitor__Sensor g___health_Monitor__Vertical g___health_Monitor__Usable g___health_Monitor__Faults g___health_Watch__Fresh g___health_Sensor__Usable g___health_Monitor__Bad (@l_0)  k).bind q = K_astrolabelaw24_awake g_health_New g___health_Monitor__Result g___health_Watch__Mark g___health_Watch__Miss g___health_Monitor__Sensor g___health_Monitor__Vertical g___health_Monitor__Usable g___health_Monitor__Faults g___health_Watch__Fresh g___health_Sensor__Usable g___health_Monitor__Bad (@l_0)  (fun d => (k d).bind q) := by
  simp only [K_astrolabelaw24_awake, bnd_cond, bnd_bind, bnd_none, bnd_sum, hl_0]
theorem qa_astrolabelaw24_awake : ∀ b, (QA_astrolabelaw24_awake).em b = ([], []) := fun b => by kernel_rfl
theorem e_astrolabelaw24_awake {f : Option (Bool)} {args : List AV} {h : List Blk} {r : Res} (hr : (F_astrolabelaw24_awake f args h).eval = some r) : args = [] ∧ h = [] ∧ (f ).bind (fun (d : Bool) => some (Res.mk (AV.r (RV.c (CV.f (FV.b d)))) [] [])) = some r := by
  unfold F_astrolabelaw24_awake at hr
  split at hr
  · rename_i b hb
    have e := ((QA_astrolabelaw24_awake).ok _ _ hb).trans (qa_astrolabelaw24_awake b)
    rw [opt_eval2] at hr
    exact ⟨(Prod.mk.inj e).1, (Prod.mk.inj e).2, hr⟩
  · cases hr
theorem n_astrolabelaw24_awake {σ : Type} (q : (Bool) → Option σ)  : (f_astrolabelaw24_awake ).bind q = K_astrolabelaw24_awake f_health_New f___health_Monitor__Result f___health_Watch__Mark f___health_Watch__Miss f___health_Monitor__Sensor f___health_Monitor__Vertical f___health_Monitor__Usable f___health_Monitor__Faults f___health_Watch__Fresh f___health_Sensor__Usable f___health_Monitor__Bad (@L_astrolabelaw24_awake_0)  q := by
  unfold f_astrolabelaw24_awake
  exact m_astrolabelaw24_awake q f_health_New f___health_Monitor__Result f___health_Watch__Mark f___health_Watch__Miss f___health_Monitor__Sensor f___health_Monitor__Vertical f___health_Monitor__Usable f___health_Monitor__Faults f___health_Watch__Fresh f___health_Sensor__Usable f___health_Monitor__Bad (@L_astrolabelaw24_awake_0) (fun q d k => mL_astrolabelaw24_awake_0 q d k)  some
theorem s_astrolabelaw24_awake : Sound Try.prog 15 (F_astrolabelaw24_awake f_astrolabelaw24_awake) :=
  (inl_sums (l := [(16, F_health_New f_health_New), (21, F___health_Monitor__Result f___health_Monitor__Result), (25, F___health_Watch__Mark f___health_Watch__Mark), (28, F___health_Watch__Miss f___health_Watch__Miss), (17, F___health_Monitor__Sensor f___health_Monitor__Sensor), (24, F___health_Monitor__Vertical f___health_Monitor__Vertical), (18, F___health_Monitor__Usable f___health_Monitor__Usable), (19, F___health_Monitor__Faults f___health_Monitor__Faults), (29, F___health_Watch__Fresh f___health_Watch__Fresh), (27, F___health_Sensor__Usable f___health_Sensor__Usable), (20, F___health_Monitor__Bad f___health_Monitor__Bad)]) (.cons s_health_New (.cons s___health_Monitor__Result (.cons s___health_Watch__Mark (.cons s___health_Watch__Miss (.cons s___health_Monitor__Sensor (.cons s___health_Monitor__Vertical (.cons s___health_Monitor__Usable (.cons s___health_Monitor__Faults (.cons s___health_Watch__Fresh (.cons s___health_Sensor__Usable (.cons s___health_Monitor__Bad (.nil _)))))))))))) mixed (hs := ⟨[⟨13, [0, 8, 9, 10, 11, 13, 14, 15, 16, 18, 19, 20, 21, 22, 24, 25, 26, 27, 28, 29, 31, 32, 33, 34, 35, 36, 37, 38, 39, 40, 42, 43, 44, 45, 46, 50, 51, 55, 56, 60, 61, 66, 67, 73, 74, 80, 81, 84, 85, 88, 89, 96, 97, 103, 104, 110, 111, 114, 41], []⟩], [⟨13, 0, @R_astrolabelaw24_awake_0 (@L_astrolabelaw24_awake_0)⟩], []⟩) (lf := 200) (Sums.by (l := [loopIn Try.prog 15 13]) (by kernel_rfl) ⟨so_astrolabelaw24_awake_0, trivial⟩) (by kernel_rfl)).by fun args b r hr => by
  obtain ⟨rfl, rfl, hr1⟩ := e_astrolabelaw24_awake hr
  exact inl_eval ((d_astrolabelaw24_awake f_health_New f___health_Monitor__Result f___health_Watch__Mark f___health_Watch__Miss f___health_Monitor__Sensor f___health_Monitor__Vertical f___health_Monitor__Usable f___health_Monitor__Faults f___health_Watch__Fresh f___health_Sensor__Usable f___health_Monitor__Bad (@L_astrolabelaw24_awake_0) ).trans ((n_astrolabelaw24_awake (fun (d : Bool) => some (Res.mk (AV.r (RV.c (CV.f (FV.b d)))) [] [])) ).symm.trans hr1))

end Go.Proofs.Ytmlmpcabphgfaaa
