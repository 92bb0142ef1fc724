/-
  Contracts by plain functions: vec.Add
-/
import Derived.Test.YthbnojedlbeglaaW1
set_option maxRecDepth 100000
set_option maxHeartbeats 4000000
set_option linter.unusedVariables false
namespace Go.Proofs.Ythbnojedlbeglaa
open Go.Ab
def S_vec_Add_1 {ρ : Type} (g___fx_Acc__Add : Nat → Bool → (Nat → Int) → Bool → Option (Int × Bool))  (x0 : Nat) (x1 : Bool) (x2 : Int) (x3 : Nat) (x4 : Int) (x5 : Nat) (x6 : Bool) (x7 : Int) (x8 : Int) (x9 : Bool) (x10 : Nat) (x11 : Nat → Int) (x12 : Nat → Int) (x13 : Nat → Int) (x14 : Int) (x15 : Int) (x16 : Int) (x17 : Nat) (x18 : Nat → Int) (c : (Nat × Bool × Int × Nat × Int × Nat × Bool × Int × Int × Bool × Nat × (Nat → Int) × (Nat → Int) × (Nat → Int) × Int × Int × Int × Nat × (Nat → Int)) → Option ρ) (x : (Nat × Bool × Int × Nat × Int × Nat × Bool × Int × Int × Bool × Bool × Nat × (Nat → Int) × (Nat → Int) × (Nat → Int) × Int × Int × Int × Nat × (Nat → Int)) → Option ρ) : Option ρ :=
  bif decide (x8 < x7) then
    bif inR x8 x5 then
      bif inR x2 3 then
        bif x2 == 2 then
          bif Nat.ble ((x3 + 1) * 8) 140737488355328 then
            c (x0, x1, x2, x3 + 1, x4, x5, x6, x7, IntKind.wrap IntKind.i64 (x8 + 1), x9, x10, x11, x12, x13, x14, x15, x16, x3 + 1, fun (j : Nat) => bif Nat.beq j x3 then x13 (Int.toNat x8) else x18 j)
          else none
        else
          bif x2 == 1 then
            bif Nat.ble ((x3 + 1) * 8) 140737488355328 then
              c
                (x0, x1, x2, x3 + 1, x4, x5, x6, x7, IntKind.wrap IntKind.i64 (x8 + 1), x9, x10, x11, x12, x13, x14, x15, x16, x3 + 1, fun (j : Nat) =>
                  bif Nat.beq j x3 then x12 (Int.toNat x8) else x18 j)
            else none
          else
            bif Nat.ble ((x3 + 1) * 8) 140737488355328 then
              c
                (x0, x1, x2, x3 + 1, x4, x5, x6, x7, IntKind.wrap IntKind.i64 (x8 + 1), x9, x10, x11, x12, x13, x14, x15, x16, x3 + 1, fun (j : Nat) =>
                  bif Nat.beq j x3 then x11 (Int.toNat x8) else x18 j)
            else none
      else none
    else none
  else x (x0, x1, x2, x3, x4, x5, x6, x7, x8, decide (x8 < x7), x9, x10, x11, x12, x13, x14, x15, x16, x17, x18)
section
open Go.Ab.Rdr
def Q_vec_Add_1 := (st (cons (ar (rc (cptr (nat 0) (ok' (nat 0)) (nat 1)))) (cons (ar (rc (csl (nat 1) (ok' (nat 0)) (szs hole) (nat 3) hole))) (cons aund (cons aund (cons (ar (rc (cptr (nat 2) (ok' (nat 0)) (nat 3)))) (cons (ar (rc (cptr (nat 3) (ok' (nat 0)) (nat 3)))) (cons (ar (rc (cf (fi .i64 hole)))) (cons (ar (rc (csl (nat 4) (ok' (nat 0)) (szs hole) (nat 1) (bool true)))) (cons aund (cons aund (cons (ar (rc (cf (fi .i64 hole)))) (cons aund (cons aund (cons (ar (rc (csl (nat 1) (ok' (nat 0)) (szs hole) (nat 3) hole))) (cons (ar (rc (cf (fi .i64 hole)))) (cons (ar (rc (cf (fi .i64 hole)))) (cons aund (cons aund (cons aund (cons aund (cons aund (cons aund (cons aund (cons aund (cons aund (cons aund (cons aund (cons aund (cons aund (cons aund (cons aund (cons aund (cons aund nil))))))))))))))))))))))))))))))))) (cons (some' (cons (gc (cf (fb hole))) nil)) (cons (some' (cons (ga (szs hole) (cons (ki .i64 hole) (cons (ki .i64 hole) (cons (ki .i64 hole) nil)))) nil)) (cons (some' (cons (gc (cf (fi .i64 (int 0)))) (cons (gc (cf (fi .i64 (int 0)))) (cons (gc (cf (fi .i64 (int 0)))) nil)))) (cons (some' (cons (gc (cf (fi .i64 hole))) (cons (gc (cf (fi .i64 hole))) (cons (gc (cf (fi .i64 hole))) nil)))) (cons (some' (cons (ga (szs hole) (cons (ki .i64 hole) nil)) nil)) nil))))) (cons (nat 0) nil))
end
theorem q_vec_Add_1 : ∀ b, (Q_vec_Add_1).em b = St.mk
    [AV.r (RV.c (CV.ptr 0 (Off.k 0) 1)), AV.r (RV.c (CV.sl 1 (Off.k 0) (Sz.s b.1.2.1.2.2.1) 3 b.1.2.1.2.2.2.2)), AV.und, AV.und, AV.r (RV.c (CV.ptr 2 (Off.k 0) 3)), AV.r (RV.c (CV.ptr 3 (Off.k 0) 3)),
      AV.r (RV.c (CV.f (FV.i IntKind.i64 b.1.2.2.2.2.2.2.1))), AV.r (RV.c (CV.sl 4 (Off.k 0) (Sz.s b.1.2.2.2.2.2.2.2.1.2.2.1) 1 true)), AV.und, AV.und, AV.r (RV.c (CV.f (FV.i IntKind.i64 b.1.2.2.2.2.2.2.2.2.2.2.1))), AV.und, AV.und,
      AV.r (RV.c (CV.sl 1 (Off.k 0) (Sz.s b.1.2.2.2.2.2.2.2.2.2.2.2.2.2.1.2.2.1) 3 b.1.2.2.2.2.2.2.2.2.2.2.2.2.2.1.2.2.2.2)), AV.r (RV.c (CV.f (FV.i IntKind.i64 b.1.2.2.2.2.2.2.2.2.2.2.2.2.2.2.1))), AV.r (RV.c (CV.f (FV.i IntKind.i64 b.1.2.2.2.2.2.2.2.2.2.2.2.2.2.2.2.1))), AV.und, AV.und, AV.und, AV.und, AV.und, AV.und, AV.und, AV.und,
      AV.und, AV.und, AV.und, AV.und, AV.und, AV.und, AV.und, AV.und, AV.und]
    [some [Sg.c (CV.f (FV.b b.2.1.1.1))], some [Sg.a (Sz.s b.2.1.2.1.1.1) [Col.i IntKind.i64 b.2.1.2.1.1.2.1, Col.i IntKind.i64 b.2.1.2.1.1.2.2.1, Col.i IntKind.i64 b.2.1.2.1.1.2.2.2.1]],
      some [Sg.c (CV.f (FV.i IntKind.i64 0)), Sg.c (CV.f (FV.i IntKind.i64 0)), Sg.c (CV.f (FV.i IntKind.i64 0))],
      some [Sg.c (CV.f (FV.i IntKind.i64 b.2.1.2.2.2.1.1)), Sg.c (CV.f (FV.i IntKind.i64 b.2.1.2.2.2.1.2.1)), Sg.c (CV.f (FV.i IntKind.i64 b.2.1.2.2.2.1.2.2.1))], some [Sg.a (Sz.s b.2.1.2.2.2.2.1.1.1) [Col.i IntKind.i64 b.2.1.2.2.2.2.1.1.2.1]]]
    [0] := fun b => by kernel_rfl
def R_vec_Add_1 (l : ∀ {ρ : Type}, (Nat × Bool × Int × Nat × Int × Nat × Bool × Int × Int × Bool × Nat × (Nat → Int) × (Nat → Int) × (Nat → Int) × Int × Int × Int × Nat × (Nat → Int)) → ((Nat × Bool × Int × Nat × Int × Nat × Bool × Int × Int × Bool × Bool × Nat × (Nat → Int) × (Nat → Int) × (Nat → Int) × Int × Int × Int × Nat × (Nat → Int)) → Option ρ) → Option ρ) {ρ : Type} (s : St) (K : AX → St → Option ρ) : Option ρ := ((Q_vec_Add_1).rd s).bind fun b => l (b.1.2.1.2.2.1, b.1.2.1.2.2.2.2, b.1.2.2.2.2.2.2.1, b.1.2.2.2.2.2.2.2.1.2.2.1, b.1.2.2.2.2.2.2.2.2.2.2.1, b.1.2.2.2.2.2.2.2.2.2.2.2.2.2.1.2.2.1, b.1.2.2.2.2.2.2.2.2.2.2.2.2.2.1.2.2.2.2, b.1.2.2.2.2.2.2.2.2.2.2.2.2.2.2.1, b.1.2.2.2.2.2.2.2.2.2.2.2.2.2.2.2.1, b.2.1.1.1, b.2.1.2.1.1.1, b.2.1.2.1.1.2.1, b.2.1.2.1.1.2.2.1, b.2.1.2.1.1.2.2.2.1, b.2.1.2.2.2.1.1, b.2.1.2.2.2.1.2.1, b.2.1.2.2.2.1.2.2.1, b.2.1.2.2.2.2.1.1.1, b.2.1.2.2.2.2.1.1.2.1) (fun d => K (AX.ex 2) (St.mk
  [AV.r (RV.c (CV.ptr 0 (Off.k 0) 1)), AV.r (RV.c (CV.sl 1 (Off.k 0) (Sz.s d.1) 3 d.2.1)), AV.und, AV.und, AV.r (RV.c (CV.ptr 2 (Off.k 0) 3)), AV.r (RV.c (CV.ptr 3 (Off.k 0) 3)),
    AV.r (RV.c (CV.f (FV.i IntKind.i64 d.2.2.1))), AV.r (RV.c (CV.sl 4 (Off.k 0) (Sz.s d.2.2.2.1) 1 true)), AV.und, AV.und, AV.r (RV.c (CV.f (FV.i IntKind.i64 d.2.2.2.2.1))),
    AV.und, AV.und, AV.r (RV.c (CV.sl 1 (Off.k 0) (Sz.s d.2.2.2.2.2.1) 3 d.2.2.2.2.2.2.1)), AV.r (RV.c (CV.f (FV.i IntKind.i64 d.2.2.2.2.2.2.2.1))),
    AV.r (RV.c (CV.f (FV.i IntKind.i64 d.2.2.2.2.2.2.2.2.1))), AV.r (RV.c (CV.f (FV.b d.2.2.2.2.2.2.2.2.2.1))), AV.und, AV.und, AV.und, AV.und, AV.und, AV.und,
    AV.und, AV.und, AV.und, AV.und, AV.und, AV.und, AV.und, AV.und, AV.und, AV.und]
  [some [Sg.c (CV.f (FV.b d.2.2.2.2.2.2.2.2.2.2.1))],
    some
      [Sg.a (Sz.s d.2.2.2.2.2.2.2.2.2.2.2.1)
          [Col.i IntKind.i64 d.2.2.2.2.2.2.2.2.2.2.2.2.1, Col.i IntKind.i64 d.2.2.2.2.2.2.2.2.2.2.2.2.2.1,
            Col.i IntKind.i64 d.2.2.2.2.2.2.2.2.2.2.2.2.2.2.1]],
    some [Sg.c (CV.f (FV.i IntKind.i64 0)), Sg.c (CV.f (FV.i IntKind.i64 0)), Sg.c (CV.f (FV.i IntKind.i64 0))],
    some
      [Sg.c (CV.f (FV.i IntKind.i64 d.2.2.2.2.2.2.2.2.2.2.2.2.2.2.2.1)),
        Sg.c (CV.f (FV.i IntKind.i64 d.2.2.2.2.2.2.2.2.2.2.2.2.2.2.2.2.1)),
        Sg.c (CV.f (FV.i IntKind.i64 d.2.2.2.2.2.2.2.2.2.2.2.2.2.2.2.2.2.1))],
    some [Sg.a (Sz.s d.2.2.2.2.2.2.2.2.2.2.2.2.2.2.2.2.2.2.1) [Col.i IntKind.i64 d.2.2.2.2.2.2.2.2.2.2.2.2.2.2.2.2.2.2.2]]]
  [0]))
theorem ms_vec_Add_1 {ρ σ : Type} (g___fx_Acc__Add : Nat → Bool → (Nat → Int) → Bool → Option (Int × Bool))   (q : ρ → Option σ) (x0 : Nat) (x1 : Bool) (x2 : Int) (x3 : Nat) (x4 : Int) (x5 : Nat) (x6 : Bool) (x7 : Int) (x8 : Int) (x9 : Bool) (x10 : Nat) (x11 : Nat → Int) (x12 : Nat → Int) (x13 : Nat → Int) (x14 : Int) (x15 : Int) (x16 : Int) (x17 : Nat) (x18 : Nat → Int) (c : (Nat × Bool × Int × Nat × Int × Nat × Bool × Int × Int × Bool × Nat × (Nat → Int) × (Nat → Int) × (Nat → Int) × Int × Int × Int × Nat × (Nat → Int)) → Option ρ) (x : (Nat × Bool × Int × Nat × Int × Nat × Bool × Int × Int × Bool × Bool × Nat × (Nat → Int) × (Nat → Int) × (Nat → Int) × Int × Int × Int × Nat × (Nat → Int)) → Option ρ) : (S_vec_Add_1 g___fx_Acc__Add  x0 x1 x2 x3 x4 x5 x6 x7 x8 x9 x10 x11 x12 x13 x14 x15 x16 x17 x18 c x).bind q = S_vec_Add_1 g___fx_Acc__Add  x0 x1 x2 x3 x4 x5 x6 x7 x8 x9 x10 x11 x12 x13 x14 x15 x16 x17 x18 (fun d => (c d).bind q) (fun d => (x d).bind q) := by
  simp only [S_vec_Add_1, bnd_cond, bnd_bind, bnd_none, bnd_sum]
def L_vec_Add_1 {ρ : Type} (d : Nat × Bool × Int × Nat × Int × Nat × Bool × Int × Int × Bool × Nat × (Nat → Int) × (Nat → Int) × (Nat → Int) × Int × Int × Int × Nat × (Nat → Int)) (k : (Nat × Bool × Int × Nat × Int × Nat × Bool × Int × Int × Bool × Bool × Nat × (Nat → Int) × (Nat → Int) × (Nat → Int) × Int × Int × Int × Nat × (Nat → Int)) → Option ρ) : Option ρ := loopK (fun d c x => S_vec_Add_1 f___fx_Acc__Add  d.1 d.2.1 d.2.2.1 d.2.2.2.1 d.2.2.2.2.1 d.2.2.2.2.2.1 d.2.2.2.2.2.2.1 d.2.2.2.2.2.2.2.1 d.2.2.2.2.2.2.2.2.1 d.2.2.2.2.2.2.2.2.2.1 d.2.2.2.2.2.2.2.2.2.2.1 d.2.2.2.2.2.2.2.2.2.2.2.1 d.2.2.2.2.2.2.2.2.2.2.2.2.1 d.2.2.2.2.2.2.2.2.2.2.2.2.2.1 d.2.2.2.2.2.2.2.2.2.2.2.2.2.2.1 d.2.2.2.2.2.2.2.2.2.2.2.2.2.2.2.1 d.2.2.2.2.2.2.2.2.2.2.2.2.2.2.2.2.1 d.2.2.2.2.2.2.2.2.2.2.2.2.2.2.2.2.2.1 d.2.2.2.2.2.2.2.2.2.2.2.2.2.2.2.2.2.2 c x) 200 d k
theorem mL_vec_Add_1 {ρ σ : Type} (q : ρ → Option σ) (d : Nat × Bool × Int × Nat × Int × Nat × Bool × Int × Int × Bool × Nat × (Nat → Int) × (Nat → Int) × (Nat → Int) × Int × Int × Int × Nat × (Nat → Int)) (k : (Nat × Bool × Int × Nat × Int × Nat × Bool × Int × Int × Bool × Bool × Nat × (Nat → Int) × (Nat → Int) × (Nat → Int) × Int × Int × Int × Nat × (Nat → Int)) → Option ρ) : (L_vec_Add_1 d k).bind q = L_vec_Add_1 d fun x => (k x).bind q :=
  loopK_bind q (fun d c x => ms_vec_Add_1 f___fx_Acc__Add   q d.1 d.2.1 d.2.2.1 d.2.2.2.1 d.2.2.2.2.1 d.2.2.2.2.2.1 d.2.2.2.2.2.2.1 d.2.2.2.2.2.2.2.1 d.2.2.2.2.2.2.2.2.1 d.2.2.2.2.2.2.2.2.2.1 d.2.2.2.2.2.2.2.2.2.2.1 d.2.2.2.2.2.2.2.2.2.2.2.1 d.2.2.2.2.2.2.2.2.2.2.2.2.1 d.2.2.2.2.2.2.2.2.2.2.2.2.2.1 d.2.2.2.2.2.2.2.2.2.2.2.2.2.2.1 d.2.2.2.2.2.2.2.2.2.2.2.2.2.2.2.1 d.2.2.2.2.2.2.2.2.2.2.2.2.2.2.2.2.1 d.2.2.2.2.2.2.2.2.2.2.2.2.2.2.2.2.2.1 d.2.2.2.2.2.2.2.2.2.2.2.2.2.2.2.2.2.2 c x) k _ d
def S_vec_Add_0 {ρ : Type} (g___fx_Acc__Add : Nat → Bool → (Nat → Int) → Bool → Option (Int × Bool)) (l_1 : ∀ {ρ : Type}, (Nat × Bool × Int × Nat × Int × Nat × Bool × Int × Int × Bool × Nat × (Nat → Int) × (Nat → Int) × (Nat → Int) × Int × Int × Int × Nat × (Nat → Int)) → ((Nat × Bool × Int × Nat × Int × Nat × Bool × Int × Int × Bool × Bool × Nat × (Nat → Int) × (Nat → Int) × (Nat → Int) × Int × Int × Int × Nat × (Nat → Int)) → Option ρ) → Option ρ) (x0 : Nat) (x1 : Bool) (x2 : Int) (x3 : Bool) (x4 : Nat) (x5 : Nat → Int) (x6 : Nat → Int) (x7 : Nat → Int) (x8 : Int) (x9 : Int) (x10 : Int) (c : (Nat × Bool × Int × Bool × Nat × (Nat → Int) × (Nat → Int) × (Nat → Int) × Int × Int × Int) → Option ρ) (x : (Nat × Bool × Int × Bool × Bool × Nat × (Nat → Int) × (Nat → Int) × (Nat → Int) × Int × Int × Int) → Option ρ) : Option ρ :=
  bif decide (x2 < 3) then
    l_1 (x0, x1, x2, 0, x2, x0, x1, Int.ofNat x0, 0, x3, x4, x5, x6, x7, x8, x9, x10, 0, fun (x : Nat) => 0)
      fun (d : Nat × Bool × Int × Nat × Int × Nat × Bool × Int × Int × Bool × Bool × Nat × (Nat → Int) × (Nat → Int) × (Nat → Int) × Int × Int × Int × Nat × (Nat → Int)) =>
      bif Nat.beq d.2.2.2.1 d.2.2.2.1 then
        Option.bind (g___fx_Acc__Add d.2.2.2.1 d.2.2.2.2.2.2.2.2.2.2.1 d.2.2.2.2.2.2.2.2.2.2.2.2.2.2.2.2.2.2.2 true)
          fun (d_1 : Int × Bool) =>
          bif inR d.2.2.1 3 then
            bif d.2.2.1 == 2 then
              c
                (d.1, d.2.1, IntKind.wrap IntKind.i64 (d.2.2.2.2.1 + 1), d_1.2, d.2.2.2.2.2.2.2.2.2.2.2.1, d.2.2.2.2.2.2.2.2.2.2.2.2.1,
                  d.2.2.2.2.2.2.2.2.2.2.2.2.2.1, d.2.2.2.2.2.2.2.2.2.2.2.2.2.2.1, d.2.2.2.2.2.2.2.2.2.2.2.2.2.2.2.1,
                  d.2.2.2.2.2.2.2.2.2.2.2.2.2.2.2.2.1, d_1.1)
            else
              bif d.2.2.1 == 1 then
                c
                  (d.1, d.2.1, IntKind.wrap IntKind.i64 (d.2.2.2.2.1 + 1), d_1.2, d.2.2.2.2.2.2.2.2.2.2.2.1,
                    d.2.2.2.2.2.2.2.2.2.2.2.2.1, d.2.2.2.2.2.2.2.2.2.2.2.2.2.1, d.2.2.2.2.2.2.2.2.2.2.2.2.2.2.1,
                    d.2.2.2.2.2.2.2.2.2.2.2.2.2.2.2.1, d_1.1, d.2.2.2.2.2.2.2.2.2.2.2.2.2.2.2.2.2.1)
              else
                c
                  (d.1, d.2.1, IntKind.wrap IntKind.i64 (d.2.2.2.2.1 + 1), d_1.2, d.2.2.2.2.2.2.2.2.2.2.2.1,
                    d.2.2.2.2.2.2.2.2.2.2.2.2.1, d.2.2.2.2.2.2.2.2.2.2.2.2.2.1, d.2.2.2.2.2.2.2.2.2.2.2.2.2.2.1, d_1.1,
                    d.2.2.2.2.2.2.2.2.2.2.2.2.2.2.2.2.1, d.2.2.2.2.2.2.2.2.2.2.2.2.2.2.2.2.2.1)
          else none
      else none
  else x (x0, x1, x2, decide (x2 < 3), x3, x4, x5, x6, x7, x8, x9, x10)
section
open Go.Ab.Rdr
def Q_vec_Add_0 := (st (cons (ar (rc (cptr (nat 0) (ok' (nat 0)) (nat 1)))) (cons (ar (rc (csl (nat 1) (ok' (nat 0)) (szs hole) (nat 3) hole))) (cons aund (cons aund (cons (ar (rc (cptr (nat 2) (ok' (nat 0)) (nat 3)))) (cons (ar (rc (cptr (nat 3) (ok' (nat 0)) (nat 3)))) (cons aund (cons aund (cons aund (cons aund (cons (ar (rc (cf (fi .i64 hole)))) (cons aund (cons aund (cons aund (cons aund (cons aund (cons aund (cons aund (cons aund (cons aund (cons aund (cons aund (cons aund (cons aund (cons aund (cons aund (cons aund (cons aund (cons aund (cons aund (cons aund (cons aund (cons aund nil))))))))))))))))))))))))))))))))) (cons (some' (cons (gc (cf (fb hole))) nil)) (cons (some' (cons (ga (szs hole) (cons (ki .i64 hole) (cons (ki .i64 hole) (cons (ki .i64 hole) nil)))) nil)) (cons (some' (cons (gc (cf (fi .i64 (int 0)))) (cons (gc (cf (fi .i64 (int 0)))) (cons (gc (cf (fi .i64 (int 0)))) nil)))) (cons (some' (cons (gc (cf (fi .i64 hole))) (cons (gc (cf (fi .i64 hole))) (cons (gc (cf (fi .i64 hole))) nil)))) nil)))) (cons (nat 0) nil))
end
theorem q_vec_Add_0 : ∀ b, (Q_vec_Add_0).em b = St.mk
    [AV.r (RV.c (CV.ptr 0 (Off.k 0) 1)), AV.r (RV.c (CV.sl 1 (Off.k 0) (Sz.s b.1.2.1.2.2.1) 3 b.1.2.1.2.2.2.2)), AV.und, AV.und, AV.r (RV.c (CV.ptr 2 (Off.k 0) 3)), AV.r (RV.c (CV.ptr 3 (Off.k 0) 3)), AV.und, AV.und, AV.und,
      AV.und, AV.r (RV.c (CV.f (FV.i IntKind.i64 b.1.2.2.2.2.2.2.2.2.2.2.1))), AV.und, AV.und, AV.und, AV.und, AV.und, AV.und, AV.und, AV.und, AV.und, AV.und, AV.und, AV.und, AV.und, AV.und, AV.und, AV.und, AV.und, AV.und,
      AV.und, AV.und, AV.und, AV.und]
    [some [Sg.c (CV.f (FV.b b.2.1.1.1))], some [Sg.a (Sz.s b.2.1.2.1.1.1) [Col.i IntKind.i64 b.2.1.2.1.1.2.1, Col.i IntKind.i64 b.2.1.2.1.1.2.2.1, Col.i IntKind.i64 b.2.1.2.1.1.2.2.2.1]],
      some [Sg.c (CV.f (FV.i IntKind.i64 0)), Sg.c (CV.f (FV.i IntKind.i64 0)), Sg.c (CV.f (FV.i IntKind.i64 0))],
      some [Sg.c (CV.f (FV.i IntKind.i64 b.2.1.2.2.2.1.1)), Sg.c (CV.f (FV.i IntKind.i64 b.2.1.2.2.2.1.2.1)), Sg.c (CV.f (FV.i IntKind.i64 b.2.1.2.2.2.1.2.2.1))]]
    [0] := fun b => by kernel_rfl
def R_vec_Add_0 (l : ∀ {ρ : Type}, (Nat × Bool × Int × Bool × Nat × (Nat → Int) × (Nat → Int) × (Nat → Int) × Int × Int × Int) → ((Nat × Bool × Int × Bool × Bool × Nat × (Nat → Int) × (Nat → Int) × (Nat → Int) × Int × Int × Int) → Option ρ) → Option ρ) {ρ : Type} (s : St) (K : AX → St → Option ρ) : Option ρ := ((Q_vec_Add_0).rd s).bind fun b => l (b.1.2.1.2.2.1, b.1.2.1.2.2.2.2, b.1.2.2.2.2.2.2.2.2.2.2.1, b.2.1.1.1, b.2.1.2.1.1.1, b.2.1.2.1.1.2.1, b.2.1.2.1.1.2.2.1, b.2.1.2.1.1.2.2.2.1, b.2.1.2.2.2.1.1, b.2.1.2.2.2.1.2.1, b.2.1.2.2.2.1.2.2.1) (fun d => K (AX.ex 0) (St.mk
  [AV.r (RV.c (CV.ptr 0 (Off.k 0) 1)), AV.r (RV.c (CV.sl 1 (Off.k 0) (Sz.s d.1) 3 d.2.1)), AV.und, AV.und, AV.r (RV.c (CV.ptr 2 (Off.k 0) 3)), AV.r (RV.c (CV.ptr 3 (Off.k 0) 3)), AV.und, AV.und,
    AV.und, AV.und, AV.r (RV.c (CV.f (FV.i IntKind.i64 d.2.2.1))), AV.r (RV.c (CV.f (FV.b d.2.2.2.1))), AV.und, AV.und, AV.und, AV.und, AV.und, AV.und, AV.und, AV.und, AV.und, AV.und,
    AV.und, AV.und, AV.und, AV.und, AV.und, AV.und, AV.und, AV.und, AV.und, AV.und, AV.und]
  [some [Sg.c (CV.f (FV.b d.2.2.2.2.1))],
    some
      [Sg.a (Sz.s d.2.2.2.2.2.1)
          [Col.i IntKind.i64 d.2.2.2.2.2.2.1, Col.i IntKind.i64 d.2.2.2.2.2.2.2.1, Col.i IntKind.i64 d.2.2.2.2.2.2.2.2.1]],
    some [Sg.c (CV.f (FV.i IntKind.i64 0)), Sg.c (CV.f (FV.i IntKind.i64 0)), Sg.c (CV.f (FV.i IntKind.i64 0))],
    some
      [Sg.c (CV.f (FV.i IntKind.i64 d.2.2.2.2.2.2.2.2.2.1)), Sg.c (CV.f (FV.i IntKind.i64 d.2.2.2.2.2.2.2.2.2.2.1)),
        Sg.c (CV.f (FV.i IntKind.i64 d.2.2.2.2.2.2.2.2.2.2.2))]]
  [0]))
theorem ms_vec_Add_0 {ρ σ : Type} (g___fx_Acc__Add : Nat → Bool → (Nat → Int) → Bool → Option (Int × Bool)) (l_1 : ∀ {ρ : Type}, (Nat × Bool × Int × Nat × Int × Nat × Bool × Int × Int × Bool × Nat × (Nat → Int) × (Nat → Int) × (Nat → Int) × Int × Int × Int × Nat × (Nat → Int)) → ((Nat × Bool × Int × Nat × Int × Nat × Bool × Int × Int × Bool × Bool × Nat × (Nat → Int) × (Nat → Int) × (Nat → Int) × Int × Int × Int × Nat × (Nat → Int)) → Option ρ) → Option ρ) (hl_1 : ∀ {ρ σ : Type} (q : ρ → Option σ) (d : Nat × Bool × Int × Nat × Int × Nat × Bool × Int × Int × Bool × Nat × (Nat → Int) × (Nat → Int) × (Nat → Int) × Int × Int × Int × Nat × (Nat → Int)) (k : (Nat × Bool × Int × Nat × Int × Nat × Bool × Int × Int × Bool × Bool × Nat × (Nat → Int) × (Nat → Int) × (Nat → Int) × Int × Int × Int × Nat × (Nat → Int)) → Option ρ), (l_1 d k).bind q = l_1 d fun x => (k x).bind q) (q : ρ → Option σ) (x0 : Nat) (x1 : Bool) (x2 : Int) (x3 : Bool) (x4 : Nat) (x5 : Nat → Int) (x6 : Nat → Int) (x7 : Nat → Int) (x8 : Int) (x9 : Int) (x10 : Int) (c : (Nat × Bool × Int × Bool × Nat × (Nat → Int) × (Nat → Int) × (Nat → Int) × Int × Int × Int) → Option ρ) (x : (Nat × Bool × Int × Bool × Bool × Nat × (Nat → Int) × (Nat → Int) × (Nat → Int) × Int × Int × Int) → Option ρ) : (S_vec_Add_0 g___fx_Acc__Add (@l_1) x0 x1 x2 x3 x4 x5 x6 x7 x8 x9 x10 c x).bind q = S_vec_Add_0 g___fx_Acc__Add (@l_1) x0 x1 x2 x3 x4 x5 x6 x7 x8 x9 x10 (fun d => (c d).bind q) (fun d => (x d).bind q) := by
  simp only [S_vec_Add_0, bnd_cond, bnd_bind, bnd_none, bnd_sum, hl_1]
def L_vec_Add_0 {ρ : Type} (d : Nat × Bool × Int × Bool × Nat × (Nat → Int) × (Nat → Int) × (Nat → Int) × Int × Int × Int) (k : (Nat × Bool × Int × Bool × Bool × Nat × (Nat → Int) × (Nat → Int) × (Nat → Int) × Int × Int × Int) → Option ρ) : Option ρ := loopK (fun d c x => S_vec_Add_0 f___fx_Acc__Add (@L_vec_Add_1) d.1 d.2.1 d.2.2.1 d.2.2.2.1 d.2.2.2.2.1 d.2.2.2.2.2.1 d.2.2.2.2.2.2.1 d.2.2.2.2.2.2.2.1 d.2.2.2.2.2.2.2.2.1 d.2.2.2.2.2.2.2.2.2.1 d.2.2.2.2.2.2.2.2.2.2 c x) 200 d k
theorem mL_vec_Add_0 {ρ σ : Type} (q : ρ → Option σ) (d : Nat × Bool × Int × Bool × Nat × (Nat → Int) × (Nat → Int) × (Nat → Int) × Int × Int × Int) (k : (Nat × Bool × Int × Bool × Bool × Nat × (Nat → Int) × (Nat → Int) × (Nat → Int) × Int × Int × Int) → Option ρ) : (L_vec_Add_0 d k).bind q = L_vec_Add_0 d fun x => (k x).bind q :=
  loopK_bind q (fun d c x => ms_vec_Add_0 f___fx_Acc__Add (@L_vec_Add_1) (fun q d k => mL_vec_Add_1 q d k) q d.1 d.2.1 d.2.2.1 d.2.2.2.1 d.2.2.2.2.1 d.2.2.2.2.2.1 d.2.2.2.2.2.2.1 d.2.2.2.2.2.2.2.1 d.2.2.2.2.2.2.2.2.1 d.2.2.2.2.2.2.2.2.2.1 d.2.2.2.2.2.2.2.2.2.2 c x) k _ d
theorem ds_vec_Add_1 {ρ : Type} (g___fx_Acc__Add : Nat → Bool → (Nat → Int) → Bool → Option (Int × Bool)) (l_1 : ∀ {ρ : Type}, (Nat × Bool × Int × Nat × Int × Nat × Bool × Int × Int × Bool × Nat × (Nat → Int) × (Nat → Int) × (Nat → Int) × Int × Int × Int × Nat × (Nat → Int)) → ((Nat × Bool × Int × Nat × Int × Nat × Bool × Int × Int × Bool × Bool × Nat × (Nat → Int) × (Nat → Int) × (Nat → Int) × Int × Int × Int × Nat × (Nat → Int)) → Option ρ) → Option ρ) (l_0 : ∀ {ρ : Type}, (Nat × Bool × Int × Bool × Nat × (Nat → Int) × (Nat → Int) × (Nat → Int) × Int × Int × Int) → ((Nat × Bool × Int × Bool × Bool × Nat × (Nat → Int) × (Nat → Int) × (Nat → Int) × Int × Int × Int) → Option ρ) → Option ρ) (x0 : Nat) (x1 : Bool) (x2 : Int) (x3 : Nat) (x4 : Int) (x5 : Nat) (x6 : Bool) (x7 : Int) (x8 : Int) (x9 : Bool) (x10 : Nat) (x11 : Nat → Int) (x12 : Nat → Int) (x13 : Nat → Int) (x14 : Int) (x15 : Int) (x16 : Int) (x17 : Nat) (x18 : Nat → Int) (c : St → Option ρ) (K : AX → St → Option ρ) :
    runC Try.prog (envOf [(45, F___fx_Acc__Add g___fx_Acc__Add)]) ⟨[⟨3, [2, 3, 6, 7, 8, 9, 11, 12, 13, 14, 15, 16, 17, 18, 19, 20, 21, 22, 23, 24, 25, 26, 27, 28, 29, 30, 31, 32], []⟩, ⟨7, [2, 3, 8, 9, 11, 12, 16, 17, 18, 19, 20, 21, 22, 23, 24, 25, 26, 27, 28, 29, 30, 31, 32], [(7, [.i .i64])]⟩], [⟨7, 2, @R_vec_Add_1 (@l_1)⟩, ⟨3, 2, @R_vec_Add_0 (@l_0)⟩], [0], [], none⟩ (tmpsOf Try.prog 31) 2 200 (loopIn Try.prog 31 7)
      (St.mk
    [AV.r (RV.c (CV.ptr 0 (Off.k 0) 1)), AV.r (RV.c (CV.sl 1 (Off.k 0) (Sz.s x0) 3 x1)), AV.und, AV.und, AV.r (RV.c (CV.ptr 2 (Off.k 0) 3)), AV.r (RV.c (CV.ptr 3 (Off.k 0) 3)),
      AV.r (RV.c (CV.f (FV.i IntKind.i64 x2))), AV.r (RV.c (CV.sl 4 (Off.k 0) (Sz.s x3) 1 true)), AV.und, AV.und, AV.r (RV.c (CV.f (FV.i IntKind.i64 x4))), AV.und, AV.und,
      AV.r (RV.c (CV.sl 1 (Off.k 0) (Sz.s x5) 3 x6)), AV.r (RV.c (CV.f (FV.i IntKind.i64 x7))), AV.r (RV.c (CV.f (FV.i IntKind.i64 x8))), AV.und, AV.und, AV.und, AV.und, AV.und, AV.und, AV.und, AV.und,
      AV.und, AV.und, AV.und, AV.und, AV.und, AV.und, AV.und, AV.und, AV.und]
    [some [Sg.c (CV.f (FV.b x9))], some [Sg.a (Sz.s x10) [Col.i IntKind.i64 x11, Col.i IntKind.i64 x12, Col.i IntKind.i64 x13]],
      some [Sg.c (CV.f (FV.i IntKind.i64 0)), Sg.c (CV.f (FV.i IntKind.i64 0)), Sg.c (CV.f (FV.i IntKind.i64 0))],
      some [Sg.c (CV.f (FV.i IntKind.i64 x14)), Sg.c (CV.f (FV.i IntKind.i64 x15)), Sg.c (CV.f (FV.i IntKind.i64 x16))], some [Sg.a (Sz.s x17) [Col.i IntKind.i64 x18]]]
    [0])
      (next (fun t => t.head 2 ⟨[⟨3, [2, 3, 6, 7, 8, 9, 11, 12, 13, 14, 15, 16, 17, 18, 19, 20, 21, 22, 23, 24, 25, 26, 27, 28, 29, 30, 31, 32], []⟩, ⟨7, [2, 3, 8, 9, 11, 12, 16, 17, 18, 19, 20, 21, 22, 23, 24, 25, 26, 27, 28, 29, 30, 31, 32], [(7, [.i .i64])]⟩], [⟨7, 2, @R_vec_Add_1 (@l_1)⟩, ⟨3, 2, @R_vec_Add_0 (@l_0)⟩], [0], [], none⟩ (loopIn Try.prog 31 7)) c K) =
    S_vec_Add_1 g___fx_Acc__Add  x0 x1 x2 x3 x4 x5 x6 x7 x8 x9 x10 x11 x12 x13 x14 x15 x16 x17 x18 (fun d => c (St.mk
  [AV.r (RV.c (CV.ptr 0 (Off.k 0) 1)), AV.r (RV.c (CV.sl 1 (Off.k 0) (Sz.s d.1) 3 d.2.1)), AV.und, AV.und, AV.r (RV.c (CV.ptr 2 (Off.k 0) 3)), AV.r (RV.c (CV.ptr 3 (Off.k 0) 3)),
    AV.r (RV.c (CV.f (FV.i IntKind.i64 d.2.2.1))), AV.r (RV.c (CV.sl 4 (Off.k 0) (Sz.s d.2.2.2.1) 1 true)), AV.und, AV.und, AV.r (RV.c (CV.f (FV.i IntKind.i64 d.2.2.2.2.1))),
    AV.und, AV.und, AV.r (RV.c (CV.sl 1 (Off.k 0) (Sz.s d.2.2.2.2.2.1) 3 d.2.2.2.2.2.2.1)), AV.r (RV.c (CV.f (FV.i IntKind.i64 d.2.2.2.2.2.2.2.1))),
    AV.r (RV.c (CV.f (FV.i IntKind.i64 d.2.2.2.2.2.2.2.2.1))), AV.und, AV.und, AV.und, AV.und, AV.und, AV.und, AV.und, AV.und, AV.und, AV.und, AV.und, AV.und, AV.und, AV.und, AV.und,
    AV.und, AV.und]
  [some [Sg.c (CV.f (FV.b d.2.2.2.2.2.2.2.2.2.1))],
    some
      [Sg.a (Sz.s d.2.2.2.2.2.2.2.2.2.2.1)
          [Col.i IntKind.i64 d.2.2.2.2.2.2.2.2.2.2.2.1, Col.i IntKind.i64 d.2.2.2.2.2.2.2.2.2.2.2.2.1,
            Col.i IntKind.i64 d.2.2.2.2.2.2.2.2.2.2.2.2.2.1]],
    some [Sg.c (CV.f (FV.i IntKind.i64 0)), Sg.c (CV.f (FV.i IntKind.i64 0)), Sg.c (CV.f (FV.i IntKind.i64 0))],
    some
      [Sg.c (CV.f (FV.i IntKind.i64 d.2.2.2.2.2.2.2.2.2.2.2.2.2.2.1)), Sg.c (CV.f (FV.i IntKind.i64 d.2.2.2.2.2.2.2.2.2.2.2.2.2.2.2.1)),
        Sg.c (CV.f (FV.i IntKind.i64 d.2.2.2.2.2.2.2.2.2.2.2.2.2.2.2.2.1))],
    some [Sg.a (Sz.s d.2.2.2.2.2.2.2.2.2.2.2.2.2.2.2.2.2.1) [Col.i IntKind.i64 d.2.2.2.2.2.2.2.2.2.2.2.2.2.2.2.2.2.2]]]
  [0])) (fun d => K (AX.ex 2) (St.mk
  [AV.r (RV.c (CV.ptr 0 (Off.k 0) 1)), AV.r (RV.c (CV.sl 1 (Off.k 0) (Sz.s d.1) 3 d.2.1)), AV.und, AV.und, AV.r (RV.c (CV.ptr 2 (Off.k 0) 3)), AV.r (RV.c (CV.ptr 3 (Off.k 0) 3)),
    AV.r (RV.c (CV.f (FV.i IntKind.i64 d.2.2.1))), AV.r (RV.c (CV.sl 4 (Off.k 0) (Sz.s d.2.2.2.1) 1 true)), AV.und, AV.und, AV.r (RV.c (CV.f (FV.i IntKind.i64 d.2.2.2.2.1))),
    AV.und, AV.und, AV.r (RV.c (CV.sl 1 (Off.k 0) (Sz.s d.2.2.2.2.2.1) 3 d.2.2.2.2.2.2.1)), AV.r (RV.c (CV.f (FV.i IntKind.i64 d.2.2.2.2.2.2.2.1))),
    AV.r (RV.c (CV.f (FV.i IntKind.i64 d.2.2.2.2.2.2.2.2.1))), AV.r (RV.c (CV.f (FV.b d.2.2.2.2.2.2.2.2.2.1))), AV.und, AV.und, AV.und, AV.und, AV.und, AV.und,
    AV.und, AV.und, AV.und, AV.und, AV.und, AV.und, AV.und, AV.und, AV.und, AV.und]
  [some [Sg.c (CV.f (FV.b d.2.2.2.2.2.2.2.2.2.2.1))],
    some
      [Sg.a (Sz.s d.2.2.2.2.2.2.2.2.2.2.2.1)
          [Col.i IntKind.i64 d.2.2.2.2.2.2.2.2.2.2.2.2.1, Col.i IntKind.i64 d.2.2.2.2.2.2.2.2.2.2.2.2.2.1,
            Col.i IntKind.i64 d.2.2.2.2.2.2.2.2.2.2.2.2.2.2.1]],
    some [Sg.c (CV.f (FV.i IntKind.i64 0)), Sg.c (CV.f (FV.i IntKind.i64 0)), Sg.c (CV.f (FV.i IntKind.i64 0))],
    some
      [Sg.c (CV.f (FV.i IntKind.i64 d.2.2.2.2.2.2.2.2.2.2.2.2.2.2.2.1)),
        Sg.c (CV.f (FV.i IntKind.i64 d.2.2.2.2.2.2.2.2.2.2.2.2.2.2.2.2.1)),
        Sg.c (CV.f (FV.i IntKind.i64 d.2.2.2.2.2.2.2.2.2.2.2.2.2.2.2.2.2.1))],
    some [Sg.a (Sz.s d.2.2.2.2.2.2.2.2.2.2.2.2.2.2.2.2.2.2.1) [Col.i IntKind.i64 d.2.2.2.2.2.2.2.2.2.2.2.2.2.2.2.2.2.2.2]]]
  [0])) := by kernel_rfl
theorem it_vec_Add_1 {ρ : Type} (x0 : Nat) (x1 : Bool) (x2 : Int) (x3 : Nat) (x4 : Int) (x5 : Nat) (x6 : Bool) (x7 : Int) (x8 : Int) (x9 : Bool) (x10 : Nat) (x11 : Nat → Int) (x12 : Nat → Int) (x13 : Nat → Int) (x14 : Int) (x15 : Int) (x16 : Int) (x17 : Nat) (x18 : Nat → Int) (K : AX → St → Option ρ) :
    iter (fun t => t.head 2 ⟨[⟨3, [2, 3, 6, 7, 8, 9, 11, 12, 13, 14, 15, 16, 17, 18, 19, 20, 21, 22, 23, 24, 25, 26, 27, 28, 29, 30, 31, 32], []⟩, ⟨7, [2, 3, 8, 9, 11, 12, 16, 17, 18, 19, 20, 21, 22, 23, 24, 25, 26, 27, 28, 29, 30, 31, 32], [(7, [.i .i64])]⟩], [⟨7, 2, @R_vec_Add_1 (@L_vec_Add_1)⟩, ⟨3, 2, @R_vec_Add_0 (@L_vec_Add_0)⟩], [0], [], none⟩ (loopIn Try.prog 31 7)) (runC Try.prog (envOf [(45, F___fx_Acc__Add f___fx_Acc__Add)]) ⟨[⟨3, [2, 3, 6, 7, 8, 9, 11, 12, 13, 14, 15, 16, 17, 18, 19, 20, 21, 22, 23, 24, 25, 26, 27, 28, 29, 30, 31, 32], []⟩, ⟨7, [2, 3, 8, 9, 11, 12, 16, 17, 18, 19, 20, 21, 22, 23, 24, 25, 26, 27, 28, 29, 30, 31, 32], [(7, [.i .i64])]⟩], [⟨7, 2, @R_vec_Add_1 (@L_vec_Add_1)⟩, ⟨3, 2, @R_vec_Add_0 (@L_vec_Add_0)⟩], [0], [], none⟩ (tmpsOf Try.prog 31) 2 200 (loopIn Try.prog 31 7)) K 200
      (St.mk
    [AV.r (RV.c (CV.ptr 0 (Off.k 0) 1)), AV.r (RV.c (CV.sl 1 (Off.k 0) (Sz.s x0) 3 x1)), AV.und, AV.und, AV.r (RV.c (CV.ptr 2 (Off.k 0) 3)), AV.r (RV.c (CV.ptr 3 (Off.k 0) 3)),
      AV.r (RV.c (CV.f (FV.i IntKind.i64 x2))), AV.r (RV.c (CV.sl 4 (Off.k 0) (Sz.s x3) 1 true)), AV.und, AV.und, AV.r (RV.c (CV.f (FV.i IntKind.i64 x4))), AV.und, AV.und,
      AV.r (RV.c (CV.sl 1 (Off.k 0) (Sz.s x5) 3 x6)), AV.r (RV.c (CV.f (FV.i IntKind.i64 x7))), AV.r (RV.c (CV.f (FV.i IntKind.i64 x8))), AV.und, AV.und, AV.und, AV.und, AV.und, AV.und, AV.und, AV.und,
      AV.und, AV.und, AV.und, AV.und, AV.und, AV.und, AV.und, AV.und, AV.und]
    [some [Sg.c (CV.f (FV.b x9))], some [Sg.a (Sz.s x10) [Col.i IntKind.i64 x11, Col.i IntKind.i64 x12, Col.i IntKind.i64 x13]],
      some [Sg.c (CV.f (FV.i IntKind.i64 0)), Sg.c (CV.f (FV.i IntKind.i64 0)), Sg.c (CV.f (FV.i IntKind.i64 0))],
      some [Sg.c (CV.f (FV.i IntKind.i64 x14)), Sg.c (CV.f (FV.i IntKind.i64 x15)), Sg.c (CV.f (FV.i IntKind.i64 x16))], some [Sg.a (Sz.s x17) [Col.i IntKind.i64 x18]]]
    [0]) = L_vec_Add_1 (x0, x1, x2, x3, x4, x5, x6, x7, x8, x9, x10, x11, x12, x13, x14, x15, x16, x17, x18) (fun d => K (AX.ex 2) (St.mk
  [AV.r (RV.c (CV.ptr 0 (Off.k 0) 1)), AV.r (RV.c (CV.sl 1 (Off.k 0) (Sz.s d.1) 3 d.2.1)), AV.und, AV.und, AV.r (RV.c (CV.ptr 2 (Off.k 0) 3)), AV.r (RV.c (CV.ptr 3 (Off.k 0) 3)),
    AV.r (RV.c (CV.f (FV.i IntKind.i64 d.2.2.1))), AV.r (RV.c (CV.sl 4 (Off.k 0) (Sz.s d.2.2.2.1) 1 true)), AV.und, AV.und, AV.r (RV.c (CV.f (FV.i IntKind.i64 d.2.2.2.2.1))),
    AV.und, AV.und, AV.r (RV.c (CV.sl 1 (Off.k 0) (Sz.s d.2.2.2.2.2.1) 3 d.2.2.2.2.2.2.1)), AV.r (RV.c (CV.f (FV.i IntKind.i64 d.2.2.2.2.2.2.2.1))),
    AV.r (RV.c (CV.f (FV.i IntKind.i64 d.2.2.2.2.2.2.2.2.1))), AV.r (RV.c (CV.f (FV.b d.2.2.2.2.2.2.2.2.2.1))), AV.und, AV.und, AV.und, AV.und, AV.und, AV.und,
    AV.und, AV.und, AV.und, AV.und, AV.und, AV.und, AV.und, AV.und, AV.und, AV.und]
  [some [Sg.c (CV.f (FV.b d.2.2.2.2.2.2.2.2.2.2.1))],
    some
      [Sg.a (Sz.s d.2.2.2.2.2.2.2.2.2.2.2.1)
          [Col.i IntKind.i64 d.2.2.2.2.2.2.2.2.2.2.2.2.1, Col.i IntKind.i64 d.2.2.2.2.2.2.2.2.2.2.2.2.2.1,
            Col.i IntKind.i64 d.2.2.2.2.2.2.2.2.2.2.2.2.2.2.1]],
    some [Sg.c (CV.f (FV.i IntKind.i64 0)), Sg.c (CV.f (FV.i IntKind.i64 0)), Sg.c (CV.f (FV.i IntKind.i64 0))],
    some
      [Sg.c (CV.f (FV.i IntKind.i64 d.2.2.2.2.2.2.2.2.2.2.2.2.2.2.2.1)),
        Sg.c (CV.f (FV.i IntKind.i64 d.2.2.2.2.2.2.2.2.2.2.2.2.2.2.2.2.1)),
        Sg.c (CV.f (FV.i IntKind.i64 d.2.2.2.2.2.2.2.2.2.2.2.2.2.2.2.2.2.1))],
    some [Sg.a (Sz.s d.2.2.2.2.2.2.2.2.2.2.2.2.2.2.2.2.2.2.1) [Col.i IntKind.i64 d.2.2.2.2.2.2.2.2.2.2.2.2.2.2.2.2.2.2.2]]]
  [0])) :=
  iter_loopX (emb := fun (d : Nat × Bool × Int × Nat × Int × Nat × Bool × Int × Int × Bool × Nat × (Nat → Int) × (Nat → Int) × (Nat → Int) × Int × Int × Int × Nat × (Nat → Int)) => St.mk
  [AV.r (RV.c (CV.ptr 0 (Off.k 0) 1)), AV.r (RV.c (CV.sl 1 (Off.k 0) (Sz.s d.1) 3 d.2.1)), AV.und, AV.und, AV.r (RV.c (CV.ptr 2 (Off.k 0) 3)), AV.r (RV.c (CV.ptr 3 (Off.k 0) 3)),
    AV.r (RV.c (CV.f (FV.i IntKind.i64 d.2.2.1))), AV.r (RV.c (CV.sl 4 (Off.k 0) (Sz.s d.2.2.2.1) 1 true)), AV.und, AV.und, AV.r (RV.c (CV.f (FV.i IntKind.i64 d.2.2.2.2.1))),
    AV.und, AV.und, AV.r (RV.c (CV.sl 1 (Off.k 0) (Sz.s d.2.2.2.2.2.1) 3 d.2.2.2.2.2.2.1)), AV.r (RV.c (CV.f (FV.i IntKind.i64 d.2.2.2.2.2.2.2.1))),
    AV.r (RV.c (CV.f (FV.i IntKind.i64 d.2.2.2.2.2.2.2.2.1))), AV.und, AV.und, AV.und, AV.und, AV.und, AV.und, AV.und, AV.und, AV.und, AV.und, AV.und, AV.und, AV.und, AV.und, AV.und,
    AV.und, AV.und]
  [some [Sg.c (CV.f (FV.b d.2.2.2.2.2.2.2.2.2.1))],
    some
      [Sg.a (Sz.s d.2.2.2.2.2.2.2.2.2.2.1)
          [Col.i IntKind.i64 d.2.2.2.2.2.2.2.2.2.2.2.1, Col.i IntKind.i64 d.2.2.2.2.2.2.2.2.2.2.2.2.1,
            Col.i IntKind.i64 d.2.2.2.2.2.2.2.2.2.2.2.2.2.1]],
    some [Sg.c (CV.f (FV.i IntKind.i64 0)), Sg.c (CV.f (FV.i IntKind.i64 0)), Sg.c (CV.f (FV.i IntKind.i64 0))],
    some
      [Sg.c (CV.f (FV.i IntKind.i64 d.2.2.2.2.2.2.2.2.2.2.2.2.2.2.1)), Sg.c (CV.f (FV.i IntKind.i64 d.2.2.2.2.2.2.2.2.2.2.2.2.2.2.2.1)),
        Sg.c (CV.f (FV.i IntKind.i64 d.2.2.2.2.2.2.2.2.2.2.2.2.2.2.2.2.1))],
    some [Sg.a (Sz.s d.2.2.2.2.2.2.2.2.2.2.2.2.2.2.2.2.2.1) [Col.i IntKind.i64 d.2.2.2.2.2.2.2.2.2.2.2.2.2.2.2.2.2.2]]]
  [0]) (step := fun d c x => S_vec_Add_1 f___fx_Acc__Add  d.1 d.2.1 d.2.2.1 d.2.2.2.1 d.2.2.2.2.1 d.2.2.2.2.2.1 d.2.2.2.2.2.2.1 d.2.2.2.2.2.2.2.1 d.2.2.2.2.2.2.2.2.1 d.2.2.2.2.2.2.2.2.2.1 d.2.2.2.2.2.2.2.2.2.2.1 d.2.2.2.2.2.2.2.2.2.2.2.1 d.2.2.2.2.2.2.2.2.2.2.2.2.1 d.2.2.2.2.2.2.2.2.2.2.2.2.2.1 d.2.2.2.2.2.2.2.2.2.2.2.2.2.2.1 d.2.2.2.2.2.2.2.2.2.2.2.2.2.2.2.1 d.2.2.2.2.2.2.2.2.2.2.2.2.2.2.2.2.1 d.2.2.2.2.2.2.2.2.2.2.2.2.2.2.2.2.2.1 d.2.2.2.2.2.2.2.2.2.2.2.2.2.2.2.2.2.2 c x) (kx := (fun d => K (AX.ex 2) (St.mk
  [AV.r (RV.c (CV.ptr 0 (Off.k 0) 1)), AV.r (RV.c (CV.sl 1 (Off.k 0) (Sz.s d.1) 3 d.2.1)), AV.und, AV.und, AV.r (RV.c (CV.ptr 2 (Off.k 0) 3)), AV.r (RV.c (CV.ptr 3 (Off.k 0) 3)),
    AV.r (RV.c (CV.f (FV.i IntKind.i64 d.2.2.1))), AV.r (RV.c (CV.sl 4 (Off.k 0) (Sz.s d.2.2.2.1) 1 true)), AV.und, AV.und, AV.r (RV.c (CV.f (FV.i IntKind.i64 d.2.2.2.2.1))),
    AV.und, AV.und, AV.r (RV.c (CV.sl 1 (Off.k 0) (Sz.s d.2.2.2.2.2.1) 3 d.2.2.2.2.2.2.1)), AV.r (RV.c (CV.f (FV.i IntKind.i64 d.2.2.2.2.2.2.2.1))),
    AV.r (RV.c (CV.f (FV.i IntKind.i64 d.2.2.2.2.2.2.2.2.1))), AV.r (RV.c (CV.f (FV.b d.2.2.2.2.2.2.2.2.2.1))), AV.und, AV.und, AV.und, AV.und, AV.und, AV.und,
    AV.und, AV.und, AV.und, AV.und, AV.und, AV.und, AV.und, AV.und, AV.und, AV.und]
  [some [Sg.c (CV.f (FV.b d.2.2.2.2.2.2.2.2.2.2.1))],
    some
      [Sg.a (Sz.s d.2.2.2.2.2.2.2.2.2.2.2.1)
          [Col.i IntKind.i64 d.2.2.2.2.2.2.2.2.2.2.2.2.1, Col.i IntKind.i64 d.2.2.2.2.2.2.2.2.2.2.2.2.2.1,
            Col.i IntKind.i64 d.2.2.2.2.2.2.2.2.2.2.2.2.2.2.1]],
    some [Sg.c (CV.f (FV.i IntKind.i64 0)), Sg.c (CV.f (FV.i IntKind.i64 0)), Sg.c (CV.f (FV.i IntKind.i64 0))],
    some
      [Sg.c (CV.f (FV.i IntKind.i64 d.2.2.2.2.2.2.2.2.2.2.2.2.2.2.2.1)),
        Sg.c (CV.f (FV.i IntKind.i64 d.2.2.2.2.2.2.2.2.2.2.2.2.2.2.2.2.1)),
        Sg.c (CV.f (FV.i IntKind.i64 d.2.2.2.2.2.2.2.2.2.2.2.2.2.2.2.2.2.1))],
    some [Sg.a (Sz.s d.2.2.2.2.2.2.2.2.2.2.2.2.2.2.2.2.2.2.1) [Col.i IntKind.i64 d.2.2.2.2.2.2.2.2.2.2.2.2.2.2.2.2.2.2.2]]]
  [0])))
    (fun d c => ds_vec_Add_1 f___fx_Acc__Add (@L_vec_Add_1) (@L_vec_Add_0) d.1 d.2.1 d.2.2.1 d.2.2.2.1 d.2.2.2.2.1 d.2.2.2.2.2.1 d.2.2.2.2.2.2.1 d.2.2.2.2.2.2.2.1 d.2.2.2.2.2.2.2.2.1 d.2.2.2.2.2.2.2.2.2.1 d.2.2.2.2.2.2.2.2.2.2.1 d.2.2.2.2.2.2.2.2.2.2.2.1 d.2.2.2.2.2.2.2.2.2.2.2.2.1 d.2.2.2.2.2.2.2.2.2.2.2.2.2.1 d.2.2.2.2.2.2.2.2.2.2.2.2.2.2.1 d.2.2.2.2.2.2.2.2.2.2.2.2.2.2.2.1 d.2.2.2.2.2.2.2.2.2.2.2.2.2.2.2.2.1 d.2.2.2.2.2.2.2.2.2.2.2.2.2.2.2.2.2.1 d.2.2.2.2.2.2.2.2.2.2.2.2.2.2.2.2.2.2 c K) 200 (x0, x1, x2, x3, x4, x5, x6, x7, x8, x9, x10, x11, x12, x13, x14, x15, x16, x17, x18)
theorem so_vec_Add_1 : ∀ kk, SumOK Try.prog (envOf [(45, F___fx_Acc__Add f___fx_Acc__Add)]) ⟨[⟨3, [2, 3, 6, 7, 8, 9, 11, 12, 13, 14, 15, 16, 17, 18, 19, 20, 21, 22, 23, 24, 25, 26, 27, 28, 29, 30, 31, 32], []⟩, ⟨7, [2, 3, 8, 9, 11, 12, 16, 17, 18, 19, 20, 21, 22, 23, 24, 25, 26, 27, 28, 29, 30, 31, 32], [(7, [.i .i64])]⟩], [⟨7, 2, @R_vec_Add_1 (@L_vec_Add_1)⟩, ⟨3, 2, @R_vec_Add_0 (@L_vec_Add_0)⟩], [0], [], none⟩ (tmpsOf Try.prog 31) kk 200 (loopIn Try.prog 31 7) :=
  SumOK.of (id := 7) (k0 := 2) (run := @R_vec_Add_1 (@L_vec_Add_1)) (by kernel_rfl) fun s K r hr => by
    unfold R_vec_Add_1 at hr
    obtain ⟨b, hb, hr1⟩ := Option.bind_eq_some_iff.1 hr
    have e := ((Q_vec_Add_1).ok s b hb).trans (q_vec_Add_1 b)
    subst e
    exact ⟨200, (it_vec_Add_1 b.1.2.1.2.2.1 b.1.2.1.2.2.2.2 b.1.2.2.2.2.2.2.1 b.1.2.2.2.2.2.2.2.1.2.2.1 b.1.2.2.2.2.2.2.2.2.2.2.1 b.1.2.2.2.2.2.2.2.2.2.2.2.2.2.1.2.2.1 b.1.2.2.2.2.2.2.2.2.2.2.2.2.2.1.2.2.2.2 b.1.2.2.2.2.2.2.2.2.2.2.2.2.2.2.1 b.1.2.2.2.2.2.2.2.2.2.2.2.2.2.2.2.1 b.2.1.1.1 b.2.1.2.1.1.1 b.2.1.2.1.1.2.1 b.2.1.2.1.1.2.2.1 b.2.1.2.1.1.2.2.2.1 b.2.1.2.2.2.1.1 b.2.1.2.2.2.1.2.1 b.2.1.2.2.2.1.2.2.1 b.2.1.2.2.2.2.1.1.1 b.2.1.2.2.2.2.1.1.2.1 K).trans hr1⟩
theorem ds_vec_Add_0 {ρ : Type} (g___fx_Acc__Add : Nat → Bool → (Nat → Int) → Bool → Option (Int × Bool)) (l_1 : ∀ {ρ : Type}, (Nat × Bool × Int × Nat × Int × Nat × Bool × Int × Int × Bool × Nat × (Nat → Int) × (Nat → Int) × (Nat → Int) × Int × Int × Int × Nat × (Nat → Int)) → ((Nat × Bool × Int × Nat × Int × Nat × Bool × Int × Int × Bool × Bool × Nat × (Nat → Int) × (Nat → Int) × (Nat → Int) × Int × Int × Int × Nat × (Nat → Int)) → Option ρ) → Option ρ) (l_0 : ∀ {ρ : Type}, (Nat × Bool × Int × Bool × Nat × (Nat → Int) × (Nat → Int) × (Nat → Int) × Int × Int × Int) → ((Nat × Bool × Int × Bool × Bool × Nat × (Nat → Int) × (Nat → Int) × (Nat → Int) × Int × Int × Int) → Option ρ) → Option ρ) (x0 : Nat) (x1 : Bool) (x2 : Int) (x3 : Bool) (x4 : Nat) (x5 : Nat → Int) (x6 : Nat → Int) (x7 : Nat → Int) (x8 : Int) (x9 : Int) (x10 : Int) (c : St → Option ρ) (K : AX → St → Option ρ) :
    runC Try.prog (envOf [(45, F___fx_Acc__Add g___fx_Acc__Add)]) ⟨[⟨3, [2, 3, 6, 7, 8, 9, 11, 12, 13, 14, 15, 16, 17, 18, 19, 20, 21, 22, 23, 24, 25, 26, 27, 28, 29, 30, 31, 32], []⟩, ⟨7, [2, 3, 8, 9, 11, 12, 16, 17, 18, 19, 20, 21, 22, 23, 24, 25, 26, 27, 28, 29, 30, 31, 32], [(7, [.i .i64])]⟩], [⟨7, 2, @R_vec_Add_1 (@l_1)⟩, ⟨3, 2, @R_vec_Add_0 (@l_0)⟩], [0], [], none⟩ (tmpsOf Try.prog 31) 2 200 (loopIn Try.prog 31 3)
      (St.mk
    [AV.r (RV.c (CV.ptr 0 (Off.k 0) 1)), AV.r (RV.c (CV.sl 1 (Off.k 0) (Sz.s x0) 3 x1)), AV.und, AV.und, AV.r (RV.c (CV.ptr 2 (Off.k 0) 3)), AV.r (RV.c (CV.ptr 3 (Off.k 0) 3)), AV.und, AV.und, AV.und,
      AV.und, AV.r (RV.c (CV.f (FV.i IntKind.i64 x2))), AV.und, AV.und, AV.und, AV.und, AV.und, AV.und, AV.und, AV.und, AV.und, AV.und, AV.und, AV.und, AV.und, AV.und, AV.und, AV.und, AV.und, AV.und,
      AV.und, AV.und, AV.und, AV.und]
    [some [Sg.c (CV.f (FV.b x3))], some [Sg.a (Sz.s x4) [Col.i IntKind.i64 x5, Col.i IntKind.i64 x6, Col.i IntKind.i64 x7]],
      some [Sg.c (CV.f (FV.i IntKind.i64 0)), Sg.c (CV.f (FV.i IntKind.i64 0)), Sg.c (CV.f (FV.i IntKind.i64 0))],
      some [Sg.c (CV.f (FV.i IntKind.i64 x8)), Sg.c (CV.f (FV.i IntKind.i64 x9)), Sg.c (CV.f (FV.i IntKind.i64 x10))]]
    [0])
      (next (fun t => t.head 2 ⟨[⟨3, [2, 3, 6, 7, 8, 9, 11, 12, 13, 14, 15, 16, 17, 18, 19, 20, 21, 22, 23, 24, 25, 26, 27, 28, 29, 30, 31, 32], []⟩, ⟨7, [2, 3, 8, 9, 11, 12, 16, 17, 18, 19, 20, 21, 22, 23, 24, 25, 26, 27, 28, 29, 30, 31, 32], [(7, [.i .i64])]⟩], [⟨7, 2, @R_vec_Add_1 (@l_1)⟩, ⟨3, 2, @R_vec_Add_0 (@l_0)⟩], [0], [], none⟩ (loopIn Try.prog 31 3)) c K) =
    S_vec_Add_0 g___fx_Acc__Add (@l_1) x0 x1 x2 x3 x4 x5 x6 x7 x8 x9 x10 (fun d => c (St.mk
  [AV.r (RV.c (CV.ptr 0 (Off.k 0) 1)), AV.r (RV.c (CV.sl 1 (Off.k 0) (Sz.s d.1) 3 d.2.1)), AV.und, AV.und, AV.r (RV.c (CV.ptr 2 (Off.k 0) 3)), AV.r (RV.c (CV.ptr 3 (Off.k 0) 3)), AV.und, AV.und,
    AV.und, AV.und, AV.r (RV.c (CV.f (FV.i IntKind.i64 d.2.2.1))), AV.und, AV.und, AV.und, AV.und, AV.und, AV.und, AV.und, AV.und, AV.und, AV.und, AV.und, AV.und, AV.und, AV.und, AV.und, AV.und,
    AV.und, AV.und, AV.und, AV.und, AV.und, AV.und]
  [some [Sg.c (CV.f (FV.b d.2.2.2.1))],
    some [Sg.a (Sz.s d.2.2.2.2.1) [Col.i IntKind.i64 d.2.2.2.2.2.1, Col.i IntKind.i64 d.2.2.2.2.2.2.1, Col.i IntKind.i64 d.2.2.2.2.2.2.2.1]],
    some [Sg.c (CV.f (FV.i IntKind.i64 0)), Sg.c (CV.f (FV.i IntKind.i64 0)), Sg.c (CV.f (FV.i IntKind.i64 0))],
    some
      [Sg.c (CV.f (FV.i IntKind.i64 d.2.2.2.2.2.2.2.2.1)), Sg.c (CV.f (FV.i IntKind.i64 d.2.2.2.2.2.2.2.2.2.1)),
        Sg.c (CV.f (FV.i IntKind.i64 d.2.2.2.2.2.2.2.2.2.2))]]
  [0])) (fun d => K (AX.ex 0) (St.mk
  [AV.r (RV.c (CV.ptr 0 (Off.k 0) 1)), AV.r (RV.c (CV.sl 1 (Off.k 0) (Sz.s d.1) 3 d.2.1)), AV.und, AV.und, AV.r (RV.c (CV.ptr 2 (Off.k 0) 3)), AV.r (RV.c (CV.ptr 3 (Off.k 0) 3)), AV.und, AV.und,
    AV.und, AV.und, AV.r (RV.c (CV.f (FV.i IntKind.i64 d.2.2.1))), AV.r (RV.c (CV.f (FV.b d.2.2.2.1))), AV.und, AV.und, AV.und, AV.und, AV.und, AV.und, AV.und, AV.und, AV.und, AV.und,
    AV.und, AV.und, AV.und, AV.und, AV.und, AV.und, AV.und, AV.und, AV.und, AV.und, AV.und]
  [some [Sg.c (CV.f (FV.b d.2.2.2.2.1))],
    some
      [Sg.a (Sz.s d.2.2.2.2.2.1)
          [Col.i IntKind.i64 d.2.2.2.2.2.2.1, Col.i IntKind.i64 d.2.2.2.2.2.2.2.1, Col.i IntKind.i64 d.2.2.2.2.2.2.2.2.1]],
    some [Sg.c (CV.f (FV.i IntKind.i64 0)), Sg.c (CV.f (FV.i IntKind.i64 0)), Sg.c (CV.f (FV.i IntKind.i64 0))],
    some
      [Sg.c (CV.f (FV.i IntKind.i64 d.2.2.2.2.2.2.2.2.2.1)), Sg.c (CV.f (FV.i IntKind.i64 d.2.2.2.2.2.2.2.2.2.2.1)),
        Sg.c (CV.f (FV.i IntKind.i64 d.2.2.2.2.2.2.2.2.2.2.2))]]
  [0])) := by kernel_rfl
theorem it_vec_Add_0 {ρ : Type} (x0 : Nat) (x1 : Bool) (x2 : Int) (x3 : Bool) (x4 : Nat) (x5 : Nat → Int) (x6 : Nat → Int) (x7 : Nat → Int) (x8 : Int) (x9 : Int) (x10 : Int) (K : AX → St → Option ρ) :
    iter (fun t => t.head 2 ⟨[⟨3, [2, 3, 6, 7, 8, 9, 11, 12, 13, 14, 15, 16, 17, 18, 19, 20, 21, 22, 23, 24, 25, 26, 27, 28, 29, 30, 31, 32], []⟩, ⟨7, [2, 3, 8, 9, 11, 12, 16, 17, 18, 19, 20, 21, 22, 23, 24, 25, 26, 27, 28, 29, 30, 31, 32], [(7, [.i .i64])]⟩], [⟨7, 2, @R_vec_Add_1 (@L_vec_Add_1)⟩, ⟨3, 2, @R_vec_Add_0 (@L_vec_Add_0)⟩], [0], [], none⟩ (loopIn Try.prog 31 3)) (runC Try.prog (envOf [(45, F___fx_Acc__Add f___fx_Acc__Add)]) ⟨[⟨3, [2, 3, 6, 7, 8, 9, 11, 12, 13, 14, 15, 16, 17, 18, 19, 20, 21, 22, 23, 24, 25, 26, 27, 28, 29, 30, 31, 32], []⟩, ⟨7, [2, 3, 8, 9, 11, 12, 16, 17, 18, 19, 20, 21, 22, 23, 24, 25, 26, 27, 28, 29, 30, 31, 32], [(7, [.i .i64])]⟩], [⟨7, 2, @R_vec_Add_1 (@L_vec_Add_1)⟩, ⟨3, 2, @R_vec_Add_0 (@L_vec_Add_0)⟩], [0], [], none⟩ (tmpsOf Try.prog 31) 2 200 (loopIn Try.prog 31 3)) K 200
      (St.mk
    [AV.r (RV.c (CV.ptr 0 (Off.k 0) 1)), AV.r (RV.c (CV.sl 1 (Off.k 0) (Sz.s x0) 3 x1)), AV.und, AV.und, AV.r (RV.c (CV.ptr 2 (Off.k 0) 3)), AV.r (RV.c (CV.ptr 3 (Off.k 0) 3)), AV.und, AV.und, AV.und,
      AV.und, AV.r (RV.c (CV.f (FV.i IntKind.i64 x2))), AV.und, AV.und, AV.und, AV.und, AV.und, AV.und, AV.und, AV.und, AV.und, AV.und, AV.und, AV.und, AV.und, AV.und, AV.und, AV.und, AV.und, AV.und,
      AV.und, AV.und, AV.und, AV.und]
    [some [Sg.c (CV.f (FV.b x3))], some [Sg.a (Sz.s x4) [Col.i IntKind.i64 x5, Col.i IntKind.i64 x6, Col.i IntKind.i64 x7]],
      some [Sg.c (CV.f (FV.i IntKind.i64 0)), Sg.c (CV.f (FV.i IntKind.i64 0)), Sg.c (CV.f (FV.i IntKind.i64 0))],
      some [Sg.c (CV.f (FV.i IntKind.i64 x8)), Sg.c (CV.f (FV.i IntKind.i64 x9)), Sg.c (CV.f (FV.i IntKind.i64 x10))]]
    [0]) = L_vec_Add_0 (x0, x1, x2, x3, x4, x5, x6, x7, x8, x9, x10) (fun d => K (AX.ex 0) (St.mk
  [AV.r (RV.c (CV.ptr 0 (Off.k 0) 1)), AV.r (RV.c (CV.sl 1 (Off.k 0) (Sz.s d.1) 3 d.2.1)), AV.und, AV.und, AV.r (RV.c (CV.ptr 2 (Off.k 0) 3)), AV.r (RV.c (CV.ptr 3 (Off.k 0) 3)), AV.und, AV.und,
    AV.und, AV.und, AV.r (RV.c (CV.f (FV.i IntKind.i64 d.2.2.1))), AV.r (RV.c (CV.f (FV.b d.2.2.2.1))), AV.und, AV.und, AV.und, AV.und, AV.und, AV.und, AV.und, AV.und, AV.und, AV.und,
    AV.und, AV.und, AV.und, AV.und, AV.und, AV.und, AV.und, AV.und, AV.und, AV.und, AV.und]
  [some [Sg.c (CV.f (FV.b d.2.2.2.2.1))],
    some
      [Sg.a (Sz.s d.2.2.2.2.2.1)
          [Col.i IntKind.i64 d.2.2.2.2.2.2.1, Col.i IntKind.i64 d.2.2.2.2.2.2.2.1, Col.i IntKind.i64 d.2.2.2.2.2.2.2.2.1]],
    some [Sg.c (CV.f (FV.i IntKind.i64 0)), Sg.c (CV.f (FV.i IntKind.i64 0)), Sg.c (CV.f (FV.i IntKind.i64 0))],
    some
      [Sg.c (CV.f (FV.i IntKind.i64 d.2.2.2.2.2.2.2.2.2.1)), Sg.c (CV.f (FV.i IntKind.i64 d.2.2.2.2.2.2.2.2.2.2.1)),
        Sg.c (CV.f (FV.i IntKind.i64 d.2.2.2.2.2.2.2.2.2.2.2))]]
  [0])) :=
  iter_loopX (emb := fun (d : Nat × Bool × Int × Bool × Nat × (Nat → Int) × (Nat → Int) × (Nat → Int) × Int × Int × Int) => St.mk
  [AV.r (RV.c (CV.ptr 0 (Off.k 0) 1)), AV.r (RV.c (CV.sl 1 (Off.k 0) (Sz.s d.1) 3 d.2.1)), AV.und, AV.und, AV.r (RV.c (CV.ptr 2 (Off.k 0) 3)), AV.r (RV.c (CV.ptr 3 (Off.k 0) 3)), AV.und, AV.und,
    AV.und, AV.und, AV.r (RV.c (CV.f (FV.i IntKind.i64 d.2.2.1))), AV.und, AV.und, AV.und, AV.und, AV.und, AV.und, AV.und, AV.und, AV.und, AV.und, AV.und, AV.und, AV.und, AV.und, AV.und, AV.und,
    AV.und, AV.und, AV.und, AV.und, AV.und, AV.und]
  [some [Sg.c (CV.f (FV.b d.2.2.2.1))],
    some [Sg.a (Sz.s d.2.2.2.2.1) [Col.i IntKind.i64 d.2.2.2.2.2.1, Col.i IntKind.i64 d.2.2.2.2.2.2.1, Col.i IntKind.i64 d.2.2.2.2.2.2.2.1]],
    some [Sg.c (CV.f (FV.i IntKind.i64 0)), Sg.c (CV.f (FV.i IntKind.i64 0)), Sg.c (CV.f (FV.i IntKind.i64 0))],
    some
      [Sg.c (CV.f (FV.i IntKind.i64 d.2.2.2.2.2.2.2.2.1)), Sg.c (CV.f (FV.i IntKind.i64 d.2.2.2.2.2.2.2.2.2.1)),
        Sg.c (CV.f (FV.i IntKind.i64 d.2.2.2.2.2.2.2.2.2.2))]]
  [0]) (step := fun d c x => S_vec_Add_0 f___fx_Acc__Add (@L_vec_Add_1) d.1 d.2.1 d.2.2.1 d.2.2.2.1 d.2.2.2.2.1 d.2.2.2.2.2.1 d.2.2.2.2.2.2.1 d.2.2.2.2.2.2.2.1 d.2.2.2.2.2.2.2.2.1 d.2.2.2.2.2.2.2.2.2.1 d.2.2.2.2.2.2.2.2.2.2 c x) (kx := (fun d => K (AX.ex 0) (St.mk
  [AV.r (RV.c (CV.ptr 0 (Off.k 0) 1)), AV.r (RV.c (CV.sl 1 (Off.k 0) (Sz.s d.1) 3 d.2.1)), AV.und, AV.und, AV.r (RV.c (CV.ptr 2 (Off.k 0) 3)), AV.r (RV.c (CV.ptr 3 (Off.k 0) 3)), AV.und, AV.und,
    AV.und, AV.und, AV.r (RV.c (CV.f (FV.i IntKind.i64 d.2.2.1))), AV.r (RV.c (CV.f (FV.b d.2.2.2.1))), AV.und, AV.und, AV.und, AV.und, AV.und, AV.und, AV.und, AV.und, AV.und, AV.und,
    AV.und, AV.und, AV.und, AV.und, AV.und, AV.und, AV.und, AV.und, AV.und, AV.und, AV.und]
  [some [Sg.c (CV.f (FV.b d.2.2.2.2.1))],
    some
      [Sg.a (Sz.s d.2.2.2.2.2.1)
          [Col.i IntKind.i64 d.2.2.2.2.2.2.1, Col.i IntKind.i64 d.2.2.2.2.2.2.2.1, Col.i IntKind.i64 d.2.2.2.2.2.2.2.2.1]],
    some [Sg.c (CV.f (FV.i IntKind.i64 0)), Sg.c (CV.f (FV.i IntKind.i64 0)), Sg.c (CV.f (FV.i IntKind.i64 0))],
    some
      [Sg.c (CV.f (FV.i IntKind.i64 d.2.2.2.2.2.2.2.2.2.1)), Sg.c (CV.f (FV.i IntKind.i64 d.2.2.2.2.2.2.2.2.2.2.1)),
        Sg.c (CV.f (FV.i IntKind.i64 d.2.2.2.2.2.2.2.2.2.2.2))]]
  [0])))
    (fun d c => ds_vec_Add_0 f___fx_Acc__Add (@L_vec_Add_1) (@L_vec_Add_0) d.1 d.2.1 d.2.2.1 d.2.2.2.1 d.2.2.2.2.1 d.2.2.2.2.2.1 d.2.2.2.2.2.2.1 d.2.2.2.2.2.2.2.1 d.2.2.2.2.2.2.2.2.1 d.2.2.2.2.2.2.2.2.2.1 d.2.2.2.2.2.2.2.2.2.2 c K) 200 (x0, x1, x2, x3, x4, x5, x6, x7, x8, x9, x10)
theorem so_vec_Add_0 : ∀ kk, SumOK Try.prog (envOf [(45, F___fx_Acc__Add f___fx_Acc__Add)]) ⟨[⟨3, [2, 3, 6, 7, 8, 9, 11, 12, 13, 14, 15, 16, 17, 18, 19, 20, 21, 22, 23, 24, 25, 26, 27, 28, 29, 30, 31, 32], []⟩, ⟨7, [2, 3, 8, 9, 11, 12, 16, 17, 18, 19, 20, 21, 22, 23, 24, 25, 26, 27, 28, 29, 30, 31, 32], [(7, [.i .i64])]⟩], [⟨7, 2, @R_vec_Add_1 (@L_vec_Add_1)⟩, ⟨3, 2, @R_vec_Add_0 (@L_vec_Add_0)⟩], [0], [], none⟩ (tmpsOf Try.prog 31) kk 200 (loopIn Try.prog 31 3) :=
  SumOK.of (id := 3) (k0 := 2) (run := @R_vec_Add_0 (@L_vec_Add_0)) (by kernel_rfl) fun s K r hr => by
    unfold R_vec_Add_0 at hr
    obtain ⟨b, hb, hr1⟩ := Option.bind_eq_some_iff.1 hr
    have e := ((Q_vec_Add_0).ok s b hb).trans (q_vec_Add_0 b)
    subst e
    exact ⟨200, (it_vec_Add_0 b.1.2.1.2.2.1 b.1.2.1.2.2.2.2 b.1.2.2.2.2.2.2.2.2.2.2.1 b.2.1.1.1 b.2.1.2.1.1.1 b.2.1.2.1.1.2.1 b.2.1.2.1.1.2.2.1 b.2.1.2.1.1.2.2.2.1 b.2.1.2.2.2.1.1 b.2.1.2.2.2.1.2.1 b.2.1.2.2.2.1.2.2.1 K).trans hr1⟩
def K_vec_Add {ρ : Type} (g___fx_Acc__Add : Nat → Bool → (Nat → Int) → Bool → Option (Int × Bool)) (l_1 : ∀ {ρ : Type}, (Nat × Bool × Int × Nat × Int × Nat × Bool × Int × Int × Bool × Nat × (Nat → Int) × (Nat → Int) × (Nat → Int) × Int × Int × Int × Nat × (Nat → Int)) → ((Nat × Bool × Int × Nat × Int × Nat × Bool × Int × Int × Bool × Bool × Nat × (Nat → Int) × (Nat → Int) × (Nat → Int) × Int × Int × Int × Nat × (Nat → Int)) → Option ρ) → Option ρ) (l_0 : ∀ {ρ : Type}, (Nat × Bool × Int × Bool × Nat × (Nat → Int) × (Nat → Int) × (Nat → Int) × Int × Int × Int) → ((Nat × Bool × Int × Bool × Bool × Nat × (Nat → Int) × (Nat → Int) × (Nat → Int) × Int × Int × Int) → Option ρ) → Option ρ) (x0 : Nat) (x1 : Bool) (x2 : Nat → Int) (x3 : Nat → Int) (x4 : Nat → Int) (w0 : Bool) (k : (Int × Int × Int × Bool) → Option ρ) : Option ρ :=
  l_0 (x0, w0, 0, x1, x0, x2, x3, x4, 0, 0, 0) fun (d : Nat × Bool × Int × Bool × Bool × Nat × (Nat → Int) × (Nat → Int) × (Nat → Int) × Int × Int × Int) =>
    k (d.2.2.2.2.2.2.2.2.2.1, d.2.2.2.2.2.2.2.2.2.2.1, d.2.2.2.2.2.2.2.2.2.2.2, d.2.2.2.2.1)
def f_vec_Add (x0 : Nat) (x1 : Bool) (x2 : Nat → Int) (x3 : Nat → Int) (x4 : Nat → Int) (w0 : Bool) : Option (Int × Int × Int × Bool) := K_vec_Add f___fx_Acc__Add (@L_vec_Add_1) (@L_vec_Add_0) x0 x1 x2 x3 x4 w0 some
section
open Go.Ab.Rdr
def QA_vec_Add := ((pair (cons (ar (rc (cptr (nat 0) (ok' (nat 0)) (nat 1)))) (cons (ar (rc (csl (nat 1) (ok' (nat 0)) (szs hole) (nat 3) hole))) nil)) (cons (cons (gc (cf (fb hole))) nil) (cons (cons (ga (szs hole) (cons (ki .i64 hole) (cons (ki .i64 hole) (cons (ki .i64 hole) nil)))) nil) nil))) : Rdr (List AV × List Blk) _)
end
def F0_vec_Add (f : (Nat) → (Bool) → (Nat → Int) → (Nat → Int) → (Nat → Int) → (Bool) → Option (Int × Int × Int × Bool)) : Sem1 := fun args h => match (QA_vec_Add).rd (args, h) with
  | some b => .test (Nat.beq b.2.2.1.1.1 b.1.2.1.2.2.1) (.opt (f b.1.2.1.2.2.1 b.2.1.1 b.2.2.1.1.2.1 b.2.2.1.1.2.2.1 b.2.2.1.1.2.2.2.1 b.1.2.1.2.2.2.2) fun (d : Int × Int × Int × Bool) => .leaf (Res.mk (AV.r (RV.agg [Sg.c (CV.f (FV.i IntKind.i64 d.1)), Sg.c (CV.f (FV.i IntKind.i64 d.2.1)), Sg.c (CV.f (FV.i IntKind.i64 d.2.2.1))]))
    [Ch.set [Sg.c (CV.f (FV.b d.2.2.2))], Ch.keep] [])) .fail
  | none => .fail
def F_vec_Add (f : (Nat) → (Bool) → (Nat → Int) → (Nat → Int) → (Nat → Int) → (Bool) → Option (Int × Int × Int × Bool)) : Sem1 := (nilF 1 [.i .i64, .i .i64, .i .i64] (F0_vec_Add f))
theorem d_vec_Add (g___fx_Acc__Add : Nat → Bool → (Nat → Int) → Bool → Option (Int × Bool)) (l_1 : ∀ {ρ : Type}, (Nat × Bool × Int × Nat × Int × Nat × Bool × Int × Int × Bool × Nat × (Nat → Int) × (Nat → Int) × (Nat → Int) × Int × Int × Int × Nat × (Nat → Int)) → ((Nat × Bool × Int × Nat × Int × Nat × Bool × Int × Int × Bool × Bool × Nat × (Nat → Int) × (Nat → Int) × (Nat → Int) × Int × Int × Int × Nat × (Nat → Int)) → Option ρ) → Option ρ) (l_0 : ∀ {ρ : Type}, (Nat × Bool × Int × Bool × Nat × (Nat → Int) × (Nat → Int) × (Nat → Int) × Int × Int × Int) → ((Nat × Bool × Int × Bool × Bool × Nat × (Nat → Int) × (Nat → Int) × (Nat → Int) × Int × Int × Int) → Option ρ) → Option ρ) (x0 : Nat) (x1 : Bool) (x2 : Nat → Int) (x3 : Nat → Int) (x4 : Nat → Int) (w0 : Bool) : den Try.prog (envOf [(45, F___fx_Acc__Add g___fx_Acc__Add)]) ⟨[⟨3, [2, 3, 6, 7, 8, 9, 11, 12, 13, 14, 15, 16, 17, 18, 19, 20, 21, 22, 23, 24, 25, 26, 27, 28, 29, 30, 31, 32], []⟩, ⟨7, [2, 3, 8, 9, 11, 12, 16, 17, 18, 19, 20, 21, 22, 23, 24, 25, 26, 27, 28, 29, 30, 31, 32], [(7, [.i .i64])]⟩], [⟨7, 2, @R_vec_Add_1 (@l_1)⟩, ⟨3, 2, @R_vec_Add_0 (@l_0)⟩], [0], [], none⟩ 200 31 [.r (.c (.ptr 0 (.k 0) 1)), .r (.c (.sl 1 (.k 0) (.s x0) 3 w0))] [[.c (.f (.b x1))], [.a (.s x0) [.i .i64 x2, .i .i64 x3, .i .i64 x4]]] =
    K_vec_Add g___fx_Acc__Add (@l_1) (@l_0) x0 x1 x2 x3 x4 w0 (fun (d : Int × Int × Int × Bool) => some (Res.mk (AV.r (RV.agg [Sg.c (CV.f (FV.i IntKind.i64 d.1)), Sg.c (CV.f (FV.i IntKind.i64 d.2.1)), Sg.c (CV.f (FV.i IntKind.i64 d.2.2.1))]))
    [Ch.set [Sg.c (CV.f (FV.b d.2.2.2))], Ch.keep] [])) := by kernel_rfl
theorem m_vec_Add {ρ σ : Type} (q : ρ → Option σ) (g___fx_Acc__Add : Nat → Bool → (Nat → Int) → Bool → Option (Int × Bool)) (l_1 : ∀ {ρ : Type}, (Nat × Bool × Int × Nat × Int × Nat × Bool × Int × Int × Bool × Nat × (Nat → Int) × (Nat → Int) × (Nat → Int) × Int × Int × Int × Nat × (Nat → Int)) → ((Nat × Bool × Int × Nat × Int × Nat × Bool × Int × Int × Bool × Bool × Nat × (Nat → Int) × (Nat → Int) × (Nat → Int) × Int × Int × Int × Nat × (Nat → Int)) → Option ρ) → Option ρ) (l_0 : ∀ {ρ : Type}, (Nat × Bool × Int × Bool × Nat × (Nat → Int) × (Nat → Int) × (Nat → Int) × Int × Int × Int) → ((Nat × Bool × Int × Bool × Bool × Nat × (Nat → Int) × (Nat → Int) × (Nat → Int) × Int × Int × Int) → Option ρ) → Option ρ) (hl_1 : ∀ {ρ σ : Type} (q : ρ → Option σ) (d : Nat × Bool × Int × Nat × Int × Nat × Bool × Int × Int × Bool × Nat × (Nat → Int) × (Nat → Int) × (Nat → Int) × Int × Int × Int × Nat × (Nat → Int)) (k : (Nat × Bool × Int × Nat × Int × Nat × Bool × Int × Int × Bool × Bool × Nat × (Nat → Int) × (Nat → Int) × (Nat → Int) × Int × Int × Int × Nat × (Nat → Int)) → Option ρ), (l_1 d k).bind q = l_1 d fun x => (k x).bind q) (hl_0 : ∀ {ρ σ : Type} (q : ρ → Option σ) (d : Nat × Bool × Int × Bool × Nat × (Nat → Int) × (Nat → Int) × (Nat → Int) × Int × Int × Int) (k : (Nat × Bool × Int × Bool × Bool × Nat × (Nat → Int) × (Nat → Int) × (Nat → Int) × Int × Int × Int) → Option ρ), (l_0 d k).bind q = l_0 d fun x => (k x).bind q) (x0 : Nat) (x1 : Bool) (x2 : Nat → Int) (x3 : Nat → Int) (x4 : Nat → Int) (w0 : Bool) (k : (Int × Int × Int × Bool) → Option ρ) : (K_vec_Add g___fx_Acc__Add (@l_1) (@l_0) x0 x1 x2 x3 x4 w0 k).bind q = K_vec_Add g___fx_Acc__Add (@l_1) (@l_0) x0 x1 x2 x3 x4 w0 (fun d => (k d).bind q) := by
  simp only [K_vec_Add, bnd_cond, bnd_bind, bnd_none, bnd_sum, hl_1, hl_0]
theorem qa_vec_Add : ∀ b, (QA_vec_Add).em b = ([.r (.c (.ptr 0 (.k 0) 1)), .r (.c (.sl 1 (.k 0) (.s b.1.2.1.2.2.1) 3 b.1.2.1.2.2.2.2))], [[.c (.f (.b b.2.1.1))], [.a (.s b.2.2.1.1.1) [.i .i64 b.2.2.1.1.2.1, .i .i64 b.2.2.1.1.2.2.1, .i .i64 b.2.2.1.1.2.2.2.1]]]) := fun b => by kernel_rfl
theorem e_vec_Add {f : (Nat) → (Bool) → (Nat → Int) → (Nat → Int) → (Nat → Int) → (Bool) → Option (Int × Int × Int × Bool)} {args : List AV} {h : List Blk} {r : Res} (hr : (F0_vec_Add f args h).eval = some r) : ∃ x0 x1 x2 x3 x4 w0, args = [.r (.c (.ptr 0 (.k 0) 1)), .r (.c (.sl 1 (.k 0) (.s x0) 3 w0))] ∧ h = [[.c (.f (.b x1))], [.a (.s x0) [.i .i64 x2, .i .i64 x3, .i .i64 x4]]] ∧ (f x0 x1 x2 x3 x4 w0).bind (fun (d : Int × Int × Int × Bool) => some (Res.mk (AV.r (RV.agg [Sg.c (CV.f (FV.i IntKind.i64 d.1)), Sg.c (CV.f (FV.i IntKind.i64 d.2.1)), Sg.c (CV.f (FV.i IntKind.i64 d.2.2.1))]))
    [Ch.set [Sg.c (CV.f (FV.b d.2.2.2))], Ch.keep] [])) = some r := by
  unfold F0_vec_Add at hr
  split at hr
  · rename_i b hb
    have e := ((QA_vec_Add).ok _ _ hb).trans (qa_vec_Add b)
    obtain ⟨he, hr1⟩ := test_eval hr
    clear hr
    have hr := hr1
    clear hr1
    rw [Nat.eq_of_beq_eq_true he] at e
    clear he
    rw [opt_eval2] at hr
    exact ⟨b.1.2.1.2.2.1, b.2.1.1, b.2.2.1.1.2.1, b.2.2.1.1.2.2.1, b.2.2.1.1.2.2.2.1, b.1.2.1.2.2.2.2, (Prod.mk.inj e).1, (Prod.mk.inj e).2, hr⟩
  · cases hr
theorem n_vec_Add {σ : Type} (q : (Int × Int × Int × Bool) → Option σ) (x0 : Nat) (x1 : Bool) (x2 : Nat → Int) (x3 : Nat → Int) (x4 : Nat → Int) (w0 : Bool) : (f_vec_Add x0 x1 x2 x3 x4 w0).bind q = K_vec_Add f___fx_Acc__Add (@L_vec_Add_1) (@L_vec_Add_0) x0 x1 x2 x3 x4 w0 q := by
  unfold f_vec_Add
  exact m_vec_Add q f___fx_Acc__Add (@L_vec_Add_1) (@L_vec_Add_0) (fun q d k => mL_vec_Add_1 q d k) (fun q d k => mL_vec_Add_0 q d k) x0 x1 x2 x3 x4 w0 some
theorem s_vec_Add : Sound Try.prog 31 (F_vec_Add f_vec_Add) :=
  Sound.nil 1 [.i .i64, .i .i64, .i .i64] <| (inl_sums (l := [(45, F___fx_Acc__Add f___fx_Acc__Add)]) (.cons s___fx_Acc__Add (.nil _)) mixed (hs := ⟨[⟨3, [2, 3, 6, 7, 8, 9, 11, 12, 13, 14, 15, 16, 17, 18, 19, 20, 21, 22, 23, 24, 25, 26, 27, 28, 29, 30, 31, 32], []⟩, ⟨7, [2, 3, 8, 9, 11, 12, 16, 17, 18, 19, 20, 21, 22, 23, 24, 25, 26, 27, 28, 29, 30, 31, 32], [(7, [.i .i64])]⟩], [⟨7, 2, @R_vec_Add_1 (@L_vec_Add_1)⟩, ⟨3, 2, @R_vec_Add_0 (@L_vec_Add_0)⟩], [0], [], none⟩) (lf := 200) (Sums.by (l := [loopIn Try.prog 31 3, loopIn Try.prog 31 7]) (lj := []) (by kernel_rfl) ⟨so_vec_Add_0, ⟨so_vec_Add_1, trivial⟩⟩ (by kernel_rfl) trivial) (by kernel_rfl)).by (F := F0_vec_Add f_vec_Add) fun args b r hr => by
  obtain ⟨x0, x1, x2, x3, x4, w0, rfl, rfl, hr1⟩ := e_vec_Add hr
  exact inl_eval ((d_vec_Add f___fx_Acc__Add (@L_vec_Add_1) (@L_vec_Add_0) x0 x1 x2 x3 x4 w0).trans ((n_vec_Add (fun (d : Int × Int × Int × Bool) => some (Res.mk (AV.r (RV.agg [Sg.c (CV.f (FV.i IntKind.i64 d.1)), Sg.c (CV.f (FV.i IntKind.i64 d.2.1)), Sg.c (CV.f (FV.i IntKind.i64 d.2.2.1))]))
    [Ch.set [Sg.c (CV.f (FV.b d.2.2.2))], Ch.keep] [])) x0 x1 x2 x3 x4 w0).symm.trans hr1))

end Go.Proofs.Ythbnojedlbeglaa
