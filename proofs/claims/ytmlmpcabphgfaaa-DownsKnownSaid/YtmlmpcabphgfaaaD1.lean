/-
  Contracts by plain functions: vec.Add, downs.plus, downs.New, downs.Good, (*downs.Sampler).Put, (*downs.Sampler).Pending
-/
import Derived.Test.YtmlmpcabphgfaaaW1
set_option maxRecDepth 100000
set_option maxHeartbeats 4000000
set_option linter.unusedVariables false
namespace Go.Proofs.Ytmlmpcabphgfaaa
open Go.Ab
def S_vec_Add_1 {ρ : Type} (g___fx_Acc__Add : Nat → Bool → (Nat → Int) → Bool → Option (Int × Bool))  (x0 : Nat) (x1 : Bool) (x2 : Int) (x3 : Nat) (x4 : Int) (x5 : Nat) (x6 : Bool) (x7 : Int) (x8 : Int) (x9 : Bool) (x10 : Nat) (x11 : Nat → Int) (x12 : Nat → Int) (x13 : Nat → Int) (x14 : Int) (x15 : Int) (x16 : Int) (x17 : Nat) (x18 : Nat → Int) (c : (Nat × Bool × Int × Nat × Int × Nat × Bool × Int × Int × Bool × Nat × (Nat → Int) × (Nat → Int) × (Nat → Int) × Int × Int × Int × Nat × (Nat → Int)) → Option ρ) (x : (Nat × Bool × Int × Nat × Int × Nat × Bool × Int × Int × Bool × Bool × Nat × (Nat → Int) × (Nat → Int) × (Nat → Int) × Int × Int × Int × Nat × (Nat → Int)) → Option ρ) : Option ρ :=
  bif decide (x8 < x7) then
    bif inR x8 x5 then
      bif inR x2 3 then
        bif x2 == 2 then
          bif Nat.ble ((x3 + 1) * 8) 140737488355328 then
            c (x0, x1, x2, x3 + 1, x4, x5, x6, x7, IntKind.wrap IntKind.i64 (x8 + 1), x9, x10, x11, x12, x13, x14, x15, x16, x3 + 1, fun (j : Nat) => bif Nat.beq j x3 then x13 (Int.toNat x8) else x18 j)
          else none
        else
          bif x2 == 1 then
            bif Nat.ble ((x3 + 1) * 8) 140737488355328 then
              c
                (x0, x1, x2, x3 + 1, x4, x5, x6, x7, IntKind.wrap IntKind.i64 (x8 + 1), x9, x10, x11, x12, x13, x14, x15, x16, x3 + 1, fun (j : Nat) =>
                  bif Nat.beq j x3 then x12 (Int.toNat x8) else x18 j)
            else none
          else
            bif Nat.ble ((x3 + 1) * 8) 140737488355328 then
              c
                (x0, x1, x2, x3 + 1, x4, x5, x6, x7, IntKind.wrap IntKind.i64 (x8 + 1), x9, x10, x11, x12, x13, x14, x15, x16, x3 + 1, fun (j : Nat) =>
                  bif Nat.beq j x3 then x11 (Int.toNat x8) else x18 j)
            else none
      else none
    else none
  else x (x0, x1, x2, x3, x4, x5, x6, x7, x8, decide (x8 < x7), x9, x10, x11, x12, x13, x14, x15, x16, x17, x18)
section
open Go.Ab.Rdr
def Q_vec_Add_1 := (st (cons (ar (rc (cptr (nat 0) (ok' (nat 0)) (nat 1)))) (cons (ar (rc (csl (nat 1) (ok' (nat 0)) (szs hole) (nat 3) hole))) (cons aund (cons aund (cons (ar (rc (cptr (nat 2) (ok' (nat 0)) (nat 3)))) (cons (ar (rc (cptr (nat 3) (ok' (nat 0)) (nat 3)))) (cons (ar (rc (cf (fi .i64 hole)))) (cons (ar (rc (csl (nat 4) (ok' (nat 0)) (szs hole) (nat 1) (bool true)))) (cons aund (cons aund (cons (ar (rc (cf (fi .i64 hole)))) (cons aund (cons aund (cons (ar (rc (csl (nat 1) (ok' (nat 0)) (szs hole) (nat 3) hole))) (cons (ar (rc (cf (fi .i64 hole)))) (cons (ar (rc (cf (fi .i64 hole)))) (cons aund (cons aund (cons aund (cons aund (cons aund (cons aund (cons aund (cons aund (cons aund (cons aund (cons aund (cons aund (cons aund (cons aund (cons aund (cons aund (cons aund nil))))))))))))))))))))))))))))))))) (cons (some' (cons (gc (cf (fb hole))) nil)) (cons (some' (cons (ga (szs hole) (cons (ki .i64 hole) (cons (ki .i64 hole) (cons (ki .i64 hole) nil)))) nil)) (cons (some' (cons (gc (cf (fi .i64 (int 0)))) (cons (gc (cf (fi .i64 (int 0)))) (cons (gc (cf (fi .i64 (int 0)))) nil)))) (cons (some' (cons (gc (cf (fi .i64 hole))) (cons (gc (cf (fi .i64 hole))) (cons (gc (cf (fi .i64 hole))) nil)))) (cons (some' (cons (ga (szs hole) (cons (ki .i64 hole) nil)) nil)) nil))))) (cons (nat 0) nil))
end
theorem q_vec_Add_1 : ∀ b, (Q_vec_Add_1).em b = St.mk
    [AV.r (RV.c (CV.ptr 0 (Off.k 0) 1)), AV.r (RV.c (CV.sl 1 (Off.k 0) (Sz.s b.1.2.1.2.2.1) 3 b.1.2.1.2.2.2.2)), AV.und, AV.und, AV.r (RV.c (CV.ptr 2 (Off.k 0) 3)), AV.r (RV.c (CV.ptr 3 (Off.k 0) 3)),
      AV.r (RV.c (CV.f (FV.i IntKind.i64 b.1.2.2.2.2.2.2.1))), AV.r (RV.c (CV.sl 4 (Off.k 0) (Sz.s b.1.2.2.2.2.2.2.2.1.2.2.1) 1 true)), AV.und, AV.und, AV.r (RV.c (CV.f (FV.i IntKind.i64 b.1.2.2.2.2.2.2.2.2.2.2.1))), AV.und, AV.und,
      AV.r (RV.c (CV.sl 1 (Off.k 0) (Sz.s b.1.2.2.2.2.2.2.2.2.2.2.2.2.2.1.2.2.1) 3 b.1.2.2.2.2.2.2.2.2.2.2.2.2.2.1.2.2.2.2)), AV.r (RV.c (CV.f (FV.i IntKind.i64 b.1.2.2.2.2.2.2.2.2.2.2.2.2.2.2.1))), AV.r (RV.c (CV.f (FV.i IntKind.i64 b.1.2.2.2.2.2.2.2.2.2.2.2.2.2.2.2.1))), AV.und, AV.und, AV.und, AV.und, AV.und, AV.und, AV.und, AV.und,
      AV.und, AV.und, AV.und, AV.und, AV.und, AV.und, AV.und, AV.und, AV.und]
    [some [Sg.c (CV.f (FV.b b.2.1.1.1))], some [Sg.a (Sz.s b.2.1.2.1.1.1) [Col.i IntKind.i64 b.2.1.2.1.1.2.1, Col.i IntKind.i64 b.2.1.2.1.1.2.2.1, Col.i IntKind.i64 b.2.1.2.1.1.2.2.2.1]],
      some [Sg.c (CV.f (FV.i IntKind.i64 0)), Sg.c (CV.f (FV.i IntKind.i64 0)), Sg.c (CV.f (FV.i IntKind.i64 0))],
      some [Sg.c (CV.f (FV.i IntKind.i64 b.2.1.2.2.2.1.1)), Sg.c (CV.f (FV.i IntKind.i64 b.2.1.2.2.2.1.2.1)), Sg.c (CV.f (FV.i IntKind.i64 b.2.1.2.2.2.1.2.2.1))], some [Sg.a (Sz.s b.2.1.2.2.2.2.1.1.1) [Col.i IntKind.i64 b.2.1.2.2.2.2.1.1.2.1]]]
    [0] := fun b => by kernel_rfl
def R_vec_Add_1 (l : ∀ {ρ : Type}, (Nat × Bool × Int × Nat × Int × Nat × Bool × Int × Int × Bool × Nat × (Nat → Int) × (Nat → Int) × (Nat → Int) × Int × Int × Int × Nat × (Nat → Int)) → ((Nat × Bool × Int × Nat × Int × Nat × Bool × Int × Int × Bool × Bool × Nat × (Nat → Int) × (Nat → Int) × (Nat → Int) × Int × Int × Int × Nat × (Nat → Int)) → Option ρ) → Option ρ) {ρ : Type} (s : St) (K : AX → St → Option ρ) : Option ρ := ((Q_vec_Add_1).rd s).bind fun b => l (b.1.2.1.2.2.1, b.1.2.1.2.2.2.2, b.1.2.2.2.2.2.2.1, b.1.2.2.2.2.2.2.2.1.2.2.1, b.1.2.2.2.2.2.2.2.2.2.2.1, b.1.2.2.2.2.2.2.2.2.2.2.2.2.2.1.2.2.1, b.1.2.2.2.2.2.2.2.2.2.2.2.2.2.1.2.2.2.2, b.1.2.2.2.2.2.2.2.2.2.2.2.2.2.2.1, b.1.2.2.2.2.2.2.2.2.2.2.2.2.2.2.2.1, b.2.1.1.1, b.2.1.2.1.1.1, b.2.1.2.1.1.2.1, b.2.1.2.1.1.2.2.1, b.2.1.2.1.1.2.2.2.1, b.2.1.2.2.2.1.1, b.2.1.2.2.2.1.2.1, b.2.1.2.2.2.1.2.2.1, b.2.1.2.2.2.2.1.1.1, b.2.1.2.2.2.2.1.1.2.1) (fun d => K (AX.ex 2) (St.mk
  [AV.r (RV.c (CV.ptr 0 (Off.k 0) 1)), AV.r (RV.c (CV.sl 1 (Off.k 0) (Sz.s d.fst) 3 d.snd.fst)), AV.und, AV.und, AV.r (RV.c (CV.ptr 2 (Off.k 0) 3)), AV.r (RV.c (CV.ptr 3 (Off.k 0) 3)),
    AV.r (RV.c (CV.f (FV.i IntKind.i64 d.snd.snd.fst))), AV.r (RV.c (CV.sl 4 (Off.k 0) (Sz.s d.snd.snd.snd.fst) 1 true)), AV.und, AV.und, AV.r (RV.c (CV.f (FV.i IntKind.i64 d.snd.snd.snd.snd.fst))),
    AV.und, AV.und, AV.r (RV.c (CV.sl 1 (Off.k 0) (Sz.s d.snd.snd.snd.snd.snd.fst) 3 d.snd.snd.snd.snd.snd.snd.fst)), AV.r (RV.c (CV.f (FV.i IntKind.i64 d.snd.snd.snd.snd.snd.snd.snd.fst))),
    AV.r (RV.c (CV.f (FV.i IntKind.i64 d.snd.snd.snd.snd.snd.snd.snd.snd.fst))), AV.r (RV.c (CV.f (FV.b d.snd.snd.snd.snd.snd.snd.snd.snd.snd.fst))), AV.und, AV.und, AV.und, AV.und, AV.und, AV.und,
    AV.und, AV.und, AV.und, AV.und, AV.und, AV.und, AV.und, AV.und, AV.und, AV.und]
  [some [Sg.c (CV.f (FV.b d.snd.snd.snd.snd.snd.snd.snd.snd.snd.snd.fst))],
    some
      [Sg.a (Sz.s d.snd.snd.snd.snd.snd.snd.snd.snd.snd.snd.snd.fst)
          [Col.i IntKind.i64 d.snd.snd.snd.snd.snd.snd.snd.snd.snd.snd.snd.snd.fst, Col.i IntKind.i64 d.snd.snd.snd.snd.snd.snd.snd.snd.snd.snd.snd.snd.snd.fst,
            Col.i IntKind.i64 d.snd.snd.snd.snd.snd.snd.snd.snd.snd.snd.snd.snd.snd.snd.fst]],
    some [Sg.c (CV.f (FV.i IntKind.i64 0)), Sg.c (CV.f (FV.i IntKind.i64 0)), Sg.c (CV.f (FV.i IntKind.i64 0))],
    some
      [Sg.c (CV.f (FV.i IntKind.i64 d.snd.snd.snd.snd.snd.snd.snd.snd.snd.snd.snd.snd.snd.snd.snd.fst)),
        Sg.c (CV.f (FV.i IntKind.i64 d.snd.snd.snd.snd.snd.snd.snd.snd.snd.snd.snd.snd.snd.snd.snd.snd.fst)),
        Sg.c (CV.f (FV.i IntKind.i64 d.snd.snd.snd.snd.snd.snd.snd.snd.snd.snd.snd.snd.snd.snd.snd.snd.snd.fst))],
    some [Sg.a (Sz.s d.snd.snd.snd.snd.snd.snd.snd.snd.snd.snd.snd.snd.snd.snd.snd.snd.snd.snd.fst) [Col.i IntKind.i64 d.snd.snd.snd.snd.snd.snd.snd.snd.snd.snd.snd.snd.snd.snd.snd.snd.snd.snd.snd]]]
  [0]))
theorem ms_vec_Add_1 {ρ σ : Type} (g___fx_Acc__Add : Nat → Bool → (Nat → Int) → Bool → Option (Int × Bool))   (q : ρ → Option σ) (x0 : Nat) (x1 : Bool) (x2 : Int) (x3 : Nat) (x4 : Int) (x5 : Nat) (x6 : Bool) (x7 : Int) (x8 : Int) (x9 : Bool) (x10 : Nat) (x11 : Nat → Int) (x12 : Nat → Int) (x13 : Nat → Int) (x14 : Int) (x15 : Int) (x16 : Int) (x17 : Nat) (x18 : Nat → Int) (c : (Nat × Bool × Int × Nat × Int × Nat × Bool × Int × Int × Bool × Nat × (Nat → Int) × (Nat → Int) × (Nat → Int) × Int × Int × Int × Nat × (Nat → Int)) → Option ρ) (x : (Nat × Bool × Int × Nat × Int × Nat × Bool × Int × Int × Bool × Bool × Nat × (Nat → Int) × (Nat → Int) × (Nat → Int) × Int × Int × Int × Nat × (Nat → Int)) → Option ρ) : (S_vec_Add_1 g___fx_Acc__Add  x0 x1 x2 x3 x4 x5 x6 x7 x8 x9 x10 x11 x12 x13 x14 x15 x16 x17 x18 c x).bind q = S_vec_Add_1 g___fx_Acc__Add  x0 x1 x2 x3 x4 x5 x6 x7 x8 x9 x10 x11 x12 x13 x14 x15 x16 x17 x18 (fun d => (c d).bind q) (fun d => (x d).bind q) := by
  simp only [S_vec_Add_1, bnd_cond, bnd_bind, bnd_none, bnd_sum]
def L_vec_Add_1 {ρ : Type} (d : Nat × Bool × Int × Nat × Int × Nat × Bool × Int × Int × Bool × Nat × (Nat → Int) × (Nat → Int) × (Nat → Int) × Int × Int × Int × Nat × (Nat → Int)) (k : (Nat × Bool × Int × Nat × Int × Nat × Bool × Int × Int × Bool × Bool × Nat × (Nat → Int) × (Nat → Int) × (Nat → Int) × Int × Int × Int × Nat × (Nat → Int)) → Option ρ) : Option ρ := loopK (fun d c x => S_vec_Add_1 f___fx_Acc__Add  d.1 d.2.1 d.2.2.1 d.2.2.2.1 d.2.2.2.2.1 d.2.2.2.2.2.1 d.2.2.2.2.2.2.1 d.2.2.2.2.2.2.2.1 d.2.2.2.2.2.2.2.2.1 d.2.2.2.2.2.2.2.2.2.1 d.2.2.2.2.2.2.2.2.2.2.1 d.2.2.2.2.2.2.2.2.2.2.2.1 d.2.2.2.2.2.2.2.2.2.2.2.2.1 d.2.2.2.2.2.2.2.2.2.2.2.2.2.1 d.2.2.2.2.2.2.2.2.2.2.2.2.2.2.1 d.2.2.2.2.2.2.2.2.2.2.2.2.2.2.2.1 d.2.2.2.2.2.2.2.2.2.2.2.2.2.2.2.2.1 d.2.2.2.2.2.2.2.2.2.2.2.2.2.2.2.2.2.1 d.2.2.2.2.2.2.2.2.2.2.2.2.2.2.2.2.2.2 c x) 200 d k
theorem mL_vec_Add_1 {ρ σ : Type} (q : ρ → Option σ) (d : Nat × Bool × Int × Nat × Int × Nat × Bool × Int × Int × Bool × Nat × (Nat → Int) × (Nat → Int) × (Nat → Int) × Int × Int × Int × Nat × (Nat → Int)) (k : (Nat × Bool × Int × Nat × Int × Nat × Bool × Int × Int × Bool × Bool × Nat × (Nat → Int) × (Nat → Int) × (Nat → Int) × Int × Int × Int × Nat × (Nat → Int)) → Option ρ) : (L_vec_Add_1 d k).bind q = L_vec_Add_1 d fun x => (k x).bind q :=
  loopK_bind q (fun d c x => ms_vec_Add_1 f___fx_Acc__Add   q d.1 d.2.1 d.2.2.1 d.2.2.2.1 d.2.2.2.2.1 d.2.2.2.2.2.1 d.2.2.2.2.2.2.1 d.2.2.2.2.2.2.2.1 d.2.2.2.2.2.2.2.2.1 d.2.2.2.2.2.2.2.2.2.1 d.2.2.2.2.2.2.2.2.2.2.1 d.2.2.2.2.2.2.2.2.2.2.2.1 d.2.2.2.2.2.2.2.2.2.2.2.2.1 d.2.2.2.2.2.2.2.2.2.2.2.2.2.1 d.2.2.2.2.2.2.2.2.2.2.2.2.2.2.1 d.2.2.2.2.2.2.2.2.2.2.2.2.2.2.2.1 d.2.2.2.2.2.2.2.2.2.2.2.2.2.2.2.2.1 d.2.2.2.2.2.2.2.2.2.2.2.2.2.2.2.2.2.1 d.2.2.2.2.2.2.2.2.2.2.2.2.2.2.2.2.2.2 c x) k _ d
def S_vec_Add_0 {ρ : Type} (g___fx_Acc__Add : Nat → Bool → (Nat → Int) → Bool → Option (Int × Bool)) (l_1 : ∀ {ρ : Type}, (Nat × Bool × Int × Nat × Int × Nat × Bool × Int × Int × Bool × Nat × (Nat → Int) × (Nat → Int) × (Nat → Int) × Int × Int × Int × Nat × (Nat → Int)) → ((Nat × Bool × Int × Nat × Int × Nat × Bool × Int × Int × Bool × Bool × Nat × (Nat → Int) × (Nat → Int) × (Nat → Int) × Int × Int × Int × Nat × (Nat → Int)) → Option ρ) → Option ρ) (x0 : Nat) (x1 : Bool) (x2 : Int) (x3 : Bool) (x4 : Nat) (x5 : Nat → Int) (x6 : Nat → Int) (x7 : Nat → Int) (x8 : Int) (x9 : Int) (x10 : Int) (c : (Nat × Bool × Int × Bool × Nat × (Nat → Int) × (Nat → Int) × (Nat → Int) × Int × Int × Int) → Option ρ) (x : (Nat × Bool × Int × Bool × Bool × Nat × (Nat → Int) × (Nat → Int) × (Nat → Int) × Int × Int × Int) → Option ρ) : Option ρ :=
  bif decide (x2 < 3) then
    l_1 (x0, x1, x2, 0, x2, x0, x1, Int.ofNat x0, 0, x3, x4, x5, x6, x7, x8, x9, x10, 0, fun (x : Nat) => 0)
      fun (d : Nat × Bool × Int × Nat × Int × Nat × Bool × Int × Int × Bool × Bool × Nat × (Nat → Int) × (Nat → Int) × (Nat → Int) × Int × Int × Int × Nat × (Nat → Int)) =>
      bif Nat.beq d.snd.snd.snd.fst d.snd.snd.snd.fst then
        Option.bind (g___fx_Acc__Add d.snd.snd.snd.fst d.snd.snd.snd.snd.snd.snd.snd.snd.snd.snd.fst d.snd.snd.snd.snd.snd.snd.snd.snd.snd.snd.snd.snd.snd.snd.snd.snd.snd.snd.2 true)
          fun (d_1 : Int × Bool) =>
          bif inR d.snd.snd.fst 3 then
            bif d.snd.snd.fst == 2 then
              c
                (d.fst, d.snd.fst, IntKind.wrap IntKind.i64 (d.snd.snd.snd.snd.fst + 1), d_1.snd, d.snd.snd.snd.snd.snd.snd.snd.snd.snd.snd.snd.fst, d.snd.snd.snd.snd.snd.snd.snd.snd.snd.snd.snd.snd.1,
                  d.snd.snd.snd.snd.snd.snd.snd.snd.snd.snd.snd.snd.snd.1, d.snd.snd.snd.snd.snd.snd.snd.snd.snd.snd.snd.snd.snd.snd.1, d.snd.snd.snd.snd.snd.snd.snd.snd.snd.snd.snd.snd.snd.snd.snd.fst,
                  d.snd.snd.snd.snd.snd.snd.snd.snd.snd.snd.snd.snd.snd.snd.snd.snd.fst, d_1.fst)
            else
              bif d.snd.snd.fst == 1 then
                c
                  (d.fst, d.snd.fst, IntKind.wrap IntKind.i64 (d.snd.snd.snd.snd.fst + 1), d_1.snd, d.snd.snd.snd.snd.snd.snd.snd.snd.snd.snd.snd.fst,
                    d.snd.snd.snd.snd.snd.snd.snd.snd.snd.snd.snd.snd.1, d.snd.snd.snd.snd.snd.snd.snd.snd.snd.snd.snd.snd.snd.1, d.snd.snd.snd.snd.snd.snd.snd.snd.snd.snd.snd.snd.snd.snd.1,
                    d.snd.snd.snd.snd.snd.snd.snd.snd.snd.snd.snd.snd.snd.snd.snd.fst, d_1.fst, d.snd.snd.snd.snd.snd.snd.snd.snd.snd.snd.snd.snd.snd.snd.snd.snd.snd.fst)
              else
                c
                  (d.fst, d.snd.fst, IntKind.wrap IntKind.i64 (d.snd.snd.snd.snd.fst + 1), d_1.snd, d.snd.snd.snd.snd.snd.snd.snd.snd.snd.snd.snd.fst,
                    d.snd.snd.snd.snd.snd.snd.snd.snd.snd.snd.snd.snd.1, d.snd.snd.snd.snd.snd.snd.snd.snd.snd.snd.snd.snd.snd.1, d.snd.snd.snd.snd.snd.snd.snd.snd.snd.snd.snd.snd.snd.snd.1, d_1.fst,
                    d.snd.snd.snd.snd.snd.snd.snd.snd.snd.snd.snd.snd.snd.snd.snd.snd.fst, d.snd.snd.snd.snd.snd.snd.snd.snd.snd.snd.snd.snd.snd.snd.snd.snd.snd.fst)
          else none
      else none
  else x (x0, x1, x2, decide (x2 < 3), x3, x4, x5, x6, x7, x8, x9, x10)
section
open Go.Ab.Rdr
def Q_vec_Add_0 := (st (cons (ar (rc (cptr (nat 0) (ok' (nat 0)) (nat 1)))) (cons (ar (rc (csl (nat 1) (ok' (nat 0)) (szs hole) (nat 3) hole))) (cons aund (cons aund (cons (ar (rc (cptr (nat 2) (ok' (nat 0)) (nat 3)))) (cons (ar (rc (cptr (nat 3) (ok' (nat 0)) (nat 3)))) (cons aund (cons aund (cons aund (cons aund (cons (ar (rc (cf (fi .i64 hole)))) (cons aund (cons aund (cons aund (cons aund (cons aund (cons aund (cons aund (cons aund (cons aund (cons aund (cons aund (cons aund (cons aund (cons aund (cons aund (cons aund (cons aund (cons aund (cons aund (cons aund (cons aund (cons aund nil))))))))))))))))))))))))))))))))) (cons (some' (cons (gc (cf (fb hole))) nil)) (cons (some' (cons (ga (szs hole) (cons (ki .i64 hole) (cons (ki .i64 hole) (cons (ki .i64 hole) nil)))) nil)) (cons (some' (cons (gc (cf (fi .i64 (int 0)))) (cons (gc (cf (fi .i64 (int 0)))) (cons (gc (cf (fi .i64 (int 0)))) nil)))) (cons (some' (cons (gc (cf (fi .i64 hole))) (cons (gc (cf (fi .i64 hole))) (cons (gc (cf (fi .i64 hole))) nil)))) nil)))) (cons (nat 0) nil))
end
theorem q_vec_Add_0 : ∀ b, (Q_vec_Add_0).em b = St.mk
    [AV.r (RV.c (CV.ptr 0 (Off.k 0) 1)), AV.r (RV.c (CV.sl 1 (Off.k 0) (Sz.s b.1.2.1.2.2.1) 3 b.1.2.1.2.2.2.2)), AV.und, AV.und, AV.r (RV.c (CV.ptr 2 (Off.k 0) 3)), AV.r (RV.c (CV.ptr 3 (Off.k 0) 3)), AV.und, AV.und, AV.und,
      AV.und, AV.r (RV.c (CV.f (FV.i IntKind.i64 b.1.2.2.2.2.2.2.2.2.2.2.1))), AV.und, AV.und, AV.und, AV.und, AV.und, AV.und, AV.und, AV.und, AV.und, AV.und, AV.und, AV.und, AV.und, AV.und, AV.und, AV.und, AV.und, AV.und,
      AV.und, AV.und, AV.und, AV.und]
    [some [Sg.c (CV.f (FV.b b.2.1.1.1))], some [Sg.a (Sz.s b.2.1.2.1.1.1) [Col.i IntKind.i64 b.2.1.2.1.1.2.1, Col.i IntKind.i64 b.2.1.2.1.1.2.2.1, Col.i IntKind.i64 b.2.1.2.1.1.2.2.2.1]],
      some [Sg.c (CV.f (FV.i IntKind.i64 0)), Sg.c (CV.f (FV.i IntKind.i64 0)), Sg.c (CV.f (FV.i IntKind.i64 0))],
      some [Sg.c (CV.f (FV.i IntKind.i64 b.2.1.2.2.2.1.1)), Sg.c (CV.f (FV.i IntKind.i64 b.2.1.2.2.2.1.2.1)), Sg.c (CV.f (FV.i IntKind.i64 b.2.1.2.2.2.1.2.2.1))]]
    [0] := fun b => by kernel_rfl
def R_vec_Add_0 (l : ∀ {ρ : Type}, (Nat × Bool × Int × Bool × Nat × (Nat → Int) × (Nat → Int) × (Nat → Int) × Int × Int × Int) → ((Nat × Bool × Int × Bool × Bool × Nat × (Nat → Int) × (Nat → Int) × (Nat → Int) × Int × Int × Int) → Option ρ) → Option ρ) {ρ : Type} (s : St) (K : AX → St → Option ρ) : Option ρ := ((Q_vec_Add_0).rd s).bind fun b => l (b.1.2.1.2.2.1, b.1.2.1.2.2.2.2, b.1.2.2.2.2.2.2.2.2.2.2.1, b.2.1.1.1, b.2.1.2.1.1.1, b.2.1.2.1.1.2.1, b.2.1.2.1.1.2.2.1, b.2.1.2.1.1.2.2.2.1, b.2.1.2.2.2.1.1, b.2.1.2.2.2.1.2.1, b.2.1.2.2.2.1.2.2.1) (fun d => K (AX.ex 0) (St.mk
  [AV.r (RV.c (CV.ptr 0 (Off.k 0) 1)), AV.r (RV.c (CV.sl 1 (Off.k 0) (Sz.s d.fst) 3 d.snd.fst)), AV.und, AV.und, AV.r (RV.c (CV.ptr 2 (Off.k 0) 3)), AV.r (RV.c (CV.ptr 3 (Off.k 0) 3)), AV.und, AV.und,
    AV.und, AV.und, AV.r (RV.c (CV.f (FV.i IntKind.i64 d.snd.snd.fst))), AV.r (RV.c (CV.f (FV.b d.snd.snd.snd.fst))), AV.und, AV.und, AV.und, AV.und, AV.und, AV.und, AV.und, AV.und, AV.und, AV.und,
    AV.und, AV.und, AV.und, AV.und, AV.und, AV.und, AV.und, AV.und, AV.und, AV.und, AV.und]
  [some [Sg.c (CV.f (FV.b d.snd.snd.snd.snd.fst))],
    some
      [Sg.a (Sz.s d.snd.snd.snd.snd.snd.fst)
          [Col.i IntKind.i64 d.snd.snd.snd.snd.snd.snd.fst, Col.i IntKind.i64 d.snd.snd.snd.snd.snd.snd.snd.fst, Col.i IntKind.i64 d.snd.snd.snd.snd.snd.snd.snd.snd.fst]],
    some [Sg.c (CV.f (FV.i IntKind.i64 0)), Sg.c (CV.f (FV.i IntKind.i64 0)), Sg.c (CV.f (FV.i IntKind.i64 0))],
    some
      [Sg.c (CV.f (FV.i IntKind.i64 d.snd.snd.snd.snd.snd.snd.snd.snd.snd.fst)), Sg.c (CV.f (FV.i IntKind.i64 d.snd.snd.snd.snd.snd.snd.snd.snd.snd.snd.fst)),
        Sg.c (CV.f (FV.i IntKind.i64 d.snd.snd.snd.snd.snd.snd.snd.snd.snd.snd.snd))]]
  [0]))
theorem ms_vec_Add_0 {ρ σ : Type} (g___fx_Acc__Add : Nat → Bool → (Nat → Int) → Bool → Option (Int × Bool)) (l_1 : ∀ {ρ : Type}, (Nat × Bool × Int × Nat × Int × Nat × Bool × Int × Int × Bool × Nat × (Nat → Int) × (Nat → Int) × (Nat → Int) × Int × Int × Int × Nat × (Nat → Int)) → ((Nat × Bool × Int × Nat × Int × Nat × Bool × Int × Int × Bool × Bool × Nat × (Nat → Int) × (Nat → Int) × (Nat → Int) × Int × Int × Int × Nat × (Nat → Int)) → Option ρ) → Option ρ) (hl_1 : ∀ {ρ σ : Type} (q : ρ → Option σ) (d : Nat × Bool × Int × Nat × Int × Nat × Bool × Int × Int × Bool × Nat × (Nat → Int) × (Nat → Int) × (Nat → Int) × Int × Int × Int × Nat × (Nat → Int)) (k : (Nat × Bool × Int × Nat × Int × Nat × Bool × Int × Int × Bool × Bool × Nat × (Nat → Int) × (Nat → Int) × (Nat → Int) × Int × Int × Int × Nat × (Nat → Int)) → Option ρ), (l_1 d k).bind q = l_1 d fun x => (k x).bind q) (q : ρ → Option σ) (x0 : Nat) (x1 : Bool) (x2 : Int) (x3 : Bool) (x4 : Nat) (x5 : Nat → Int) (x6 : Nat → Int) (x7 : Nat → Int) (x8 : Int) (x9 : Int) (x10 : Int) (c : (Nat × Bool × Int × Bool × Nat × (Nat → Int) × (Nat → Int) × (Nat → Int) × Int × Int × Int) → Option ρ) (x : (Nat × Bool × Int × Bool × Bool × Nat × (Nat → Int) × (Nat → Int) × (Nat → Int) × Int × Int × Int) → Option ρ) : (S_vec_Add_0 g___fx_Acc__Add (@l_1) x0 x1 x2 x3 x4 x5 x6 x7 x8 x9 x10 c x).bind q = S_vec_Add_0 g___fx_Acc__Add (@l_1) x0 x1 x2 x3 x4 x5 x6 x7 x8 x9 x10 (fun d => (c d).bind q) (fun d => (x d).bind q) := by
  simp only [S_vec_Add_0, bnd_cond, bnd_bind, bnd_none, bnd_sum, hl_1]
def L_vec_Add_0 {ρ : Type} (d : Nat × Bool × Int × Bool × Nat × (Nat → Int) × (Nat → Int) × (Nat → Int) × Int × Int × Int) (k : (Nat × Bool × Int × Bool × Bool × Nat × (Nat → Int) × (Nat → Int) × (Nat → Int) × Int × Int × Int) → Option ρ) : Option ρ := loopK (fun d c x => S_vec_Add_0 f___fx_Acc__Add (@L_vec_Add_1) d.1 d.2.1 d.2.2.1 d.2.2.2.1 d.2.2.2.2.1 d.2.2.2.2.2.1 d.2.2.2.2.2.2.1 d.2.2.2.2.2.2.2.1 d.2.2.2.2.2.2.2.2.1 d.2.2.2.2.2.2.2.2.2.1 d.2.2.2.2.2.2.2.2.2.2 c x) 200 d k
theorem mL_vec_Add_0 {ρ σ : Type} (q : ρ → Option σ) (d : Nat × Bool × Int × Bool × Nat × (Nat → Int) × (Nat → Int) × (Nat → Int) × Int × Int × Int) (k : (Nat × Bool × Int × Bool × Bool × Nat × (Nat → Int) × (Nat → Int) × (Nat → Int) × Int × Int × Int) → Option ρ) : (L_vec_Add_0 d k).bind q = L_vec_Add_0 d fun x => (k x).bind q :=
  loopK_bind q (fun d c x => ms_vec_Add_0 f___fx_Acc__Add (@L_vec_Add_1) (fun q d k => mL_vec_Add_1 q d k) q d.1 d.2.1 d.2.2.1 d.2.2.2.1 d.2.2.2.2.1 d.2.2.2.2.2.1 d.2.2.2.2.2.2.1 d.2.2.2.2.2.2.2.1 d.2.2.2.2.2.2.2.2.1 d.2.2.2.2.2.2.2.2.2.1 d.2.2.2.2.2.2.2.2.2.2 c x) k _ d
theorem ds_vec_Add_1 {ρ : Type} (g___fx_Acc__Add : Nat → Bool → (Nat → Int) → Bool → Option (Int × Bool)) (l_1 : ∀ {ρ : Type}, (Nat × Bool × Int × Nat × Int × Nat × Bool × Int × Int × Bool × Nat × (Nat → Int) × (Nat → Int) × (Nat → Int) × Int × Int × Int × Nat × (Nat → Int)) → ((Nat × Bool × Int × Nat × Int × Nat × Bool × Int × Int × Bool × Bool × Nat × (Nat → Int) × (Nat → Int) × (Nat → Int) × Int × Int × Int × Nat × (Nat → Int)) → Option ρ) → Option ρ) (l_0 : ∀ {ρ : Type}, (Nat × Bool × Int × Bool × Nat × (Nat → Int) × (Nat → Int) × (Nat → Int) × Int × Int × Int) → ((Nat × Bool × Int × Bool × Bool × Nat × (Nat → Int) × (Nat → Int) × (Nat → Int) × Int × Int × Int) → Option ρ) → Option ρ) (x0 : Nat) (x1 : Bool) (x2 : Int) (x3 : Nat) (x4 : Int) (x5 : Nat) (x6 : Bool) (x7 : Int) (x8 : Int) (x9 : Bool) (x10 : Nat) (x11 : Nat → Int) (x12 : Nat → Int) (x13 : Nat → Int) (x14 : Int) (x15 : Int) (x16 : Int) (x17 : Nat) (x18 : Nat → Int) (c : St → Option ρ) (K : AX → St → Option ρ) :
    runC Try.prog (envOf [(77, F___fx_Acc__Add g___fx_Acc__Add)]) ⟨[⟨3, [2, 3, 6, 7, 8, 9, 11, 12, 13, 14, 15, 16, 17, 18, 19, 20, 21, 22, 23, 24, 25, 26, 27, 28, 29, 30, 31, 32], []⟩, ⟨7, [2, 3, 8, 9, 11, 12, 16, 17, 18, 19, 20, 21, 22, 23, 24, 25, 26, 27, 28, 29, 30, 31, 32], [(7, [.i .i64])]⟩], [⟨7, 2, @R_vec_Add_1 (@l_1)⟩, ⟨3, 2, @R_vec_Add_0 (@l_0)⟩], [0]⟩ (tmpsOf Try.prog 66) 2 200 (loopIn Try.prog 66 7)
      (St.mk
    [AV.r (RV.c (CV.ptr 0 (Off.k 0) 1)), AV.r (RV.c (CV.sl 1 (Off.k 0) (Sz.s x0) 3 x1)), AV.und, AV.und, AV.r (RV.c (CV.ptr 2 (Off.k 0) 3)), AV.r (RV.c (CV.ptr 3 (Off.k 0) 3)),
      AV.r (RV.c (CV.f (FV.i IntKind.i64 x2))), AV.r (RV.c (CV.sl 4 (Off.k 0) (Sz.s x3) 1 true)), AV.und, AV.und, AV.r (RV.c (CV.f (FV.i IntKind.i64 x4))), AV.und, AV.und,
      AV.r (RV.c (CV.sl 1 (Off.k 0) (Sz.s x5) 3 x6)), AV.r (RV.c (CV.f (FV.i IntKind.i64 x7))), AV.r (RV.c (CV.f (FV.i IntKind.i64 x8))), AV.und, AV.und, AV.und, AV.und, AV.und, AV.und, AV.und, AV.und,
      AV.und, AV.und, AV.und, AV.und, AV.und, AV.und, AV.und, AV.und, AV.und]
    [some [Sg.c (CV.f (FV.b x9))], some [Sg.a (Sz.s x10) [Col.i IntKind.i64 x11, Col.i IntKind.i64 x12, Col.i IntKind.i64 x13]],
      some [Sg.c (CV.f (FV.i IntKind.i64 0)), Sg.c (CV.f (FV.i IntKind.i64 0)), Sg.c (CV.f (FV.i IntKind.i64 0))],
      some [Sg.c (CV.f (FV.i IntKind.i64 x14)), Sg.c (CV.f (FV.i IntKind.i64 x15)), Sg.c (CV.f (FV.i IntKind.i64 x16))], some [Sg.a (Sz.s x17) [Col.i IntKind.i64 x18]]]
    [0])
      (next (fun t => t.head 2 ⟨[⟨3, [2, 3, 6, 7, 8, 9, 11, 12, 13, 14, 15, 16, 17, 18, 19, 20, 21, 22, 23, 24, 25, 26, 27, 28, 29, 30, 31, 32], []⟩, ⟨7, [2, 3, 8, 9, 11, 12, 16, 17, 18, 19, 20, 21, 22, 23, 24, 25, 26, 27, 28, 29, 30, 31, 32], [(7, [.i .i64])]⟩], [⟨7, 2, @R_vec_Add_1 (@l_1)⟩, ⟨3, 2, @R_vec_Add_0 (@l_0)⟩], [0]⟩ (loopIn Try.prog 66 7)) c K) =
    S_vec_Add_1 g___fx_Acc__Add  x0 x1 x2 x3 x4 x5 x6 x7 x8 x9 x10 x11 x12 x13 x14 x15 x16 x17 x18 (fun d => c (St.mk
  [AV.r (RV.c (CV.ptr 0 (Off.k 0) 1)), AV.r (RV.c (CV.sl 1 (Off.k 0) (Sz.s d.fst) 3 d.snd.fst)), AV.und, AV.und, AV.r (RV.c (CV.ptr 2 (Off.k 0) 3)), AV.r (RV.c (CV.ptr 3 (Off.k 0) 3)),
    AV.r (RV.c (CV.f (FV.i IntKind.i64 d.snd.snd.fst))), AV.r (RV.c (CV.sl 4 (Off.k 0) (Sz.s d.snd.snd.snd.fst) 1 true)), AV.und, AV.und, AV.r (RV.c (CV.f (FV.i IntKind.i64 d.snd.snd.snd.snd.fst))),
    AV.und, AV.und, AV.r (RV.c (CV.sl 1 (Off.k 0) (Sz.s d.snd.snd.snd.snd.snd.fst) 3 d.snd.snd.snd.snd.snd.snd.fst)), AV.r (RV.c (CV.f (FV.i IntKind.i64 d.snd.snd.snd.snd.snd.snd.snd.fst))),
    AV.r (RV.c (CV.f (FV.i IntKind.i64 d.snd.snd.snd.snd.snd.snd.snd.snd.fst))), AV.und, AV.und, AV.und, AV.und, AV.und, AV.und, AV.und, AV.und, AV.und, AV.und, AV.und, AV.und, AV.und, AV.und, AV.und,
    AV.und, AV.und]
  [some [Sg.c (CV.f (FV.b d.snd.snd.snd.snd.snd.snd.snd.snd.snd.fst))],
    some
      [Sg.a (Sz.s d.snd.snd.snd.snd.snd.snd.snd.snd.snd.snd.fst)
          [Col.i IntKind.i64 d.snd.snd.snd.snd.snd.snd.snd.snd.snd.snd.snd.fst, Col.i IntKind.i64 d.snd.snd.snd.snd.snd.snd.snd.snd.snd.snd.snd.snd.fst,
            Col.i IntKind.i64 d.snd.snd.snd.snd.snd.snd.snd.snd.snd.snd.snd.snd.snd.fst]],
    some [Sg.c (CV.f (FV.i IntKind.i64 0)), Sg.c (CV.f (FV.i IntKind.i64 0)), Sg.c (CV.f (FV.i IntKind.i64 0))],
    some
      [Sg.c (CV.f (FV.i IntKind.i64 d.snd.snd.snd.snd.snd.snd.snd.snd.snd.snd.snd.snd.snd.snd.fst)), Sg.c (CV.f (FV.i IntKind.i64 d.snd.snd.snd.snd.snd.snd.snd.snd.snd.snd.snd.snd.snd.snd.snd.fst)),
        Sg.c (CV.f (FV.i IntKind.i64 d.snd.snd.snd.snd.snd.snd.snd.snd.snd.snd.snd.snd.snd.snd.snd.snd.fst))],
    some [Sg.a (Sz.s d.snd.snd.snd.snd.snd.snd.snd.snd.snd.snd.snd.snd.snd.snd.snd.snd.snd.fst) [Col.i IntKind.i64 d.snd.snd.snd.snd.snd.snd.snd.snd.snd.snd.snd.snd.snd.snd.snd.snd.snd.snd]]]
  [0])) (fun d => K (AX.ex 2) (St.mk
  [AV.r (RV.c (CV.ptr 0 (Off.k 0) 1)), AV.r (RV.c (CV.sl 1 (Off.k 0) (Sz.s d.fst) 3 d.snd.fst)), AV.und, AV.und, AV.r (RV.c (CV.ptr 2 (Off.k 0) 3)), AV.r (RV.c (CV.ptr 3 (Off.k 0) 3)),
    AV.r (RV.c (CV.f (FV.i IntKind.i64 d.snd.snd.fst))), AV.r (RV.c (CV.sl 4 (Off.k 0) (Sz.s d.snd.snd.snd.fst) 1 true)), AV.und, AV.und, AV.r (RV.c (CV.f (FV.i IntKind.i64 d.snd.snd.snd.snd.fst))),
    AV.und, AV.und, AV.r (RV.c (CV.sl 1 (Off.k 0) (Sz.s d.snd.snd.snd.snd.snd.fst) 3 d.snd.snd.snd.snd.snd.snd.fst)), AV.r (RV.c (CV.f (FV.i IntKind.i64 d.snd.snd.snd.snd.snd.snd.snd.fst))),
    AV.r (RV.c (CV.f (FV.i IntKind.i64 d.snd.snd.snd.snd.snd.snd.snd.snd.fst))), AV.r (RV.c (CV.f (FV.b d.snd.snd.snd.snd.snd.snd.snd.snd.snd.fst))), AV.und, AV.und, AV.und, AV.und, AV.und, AV.und,
    AV.und, AV.und, AV.und, AV.und, AV.und, AV.und, AV.und, AV.und, AV.und, AV.und]
  [some [Sg.c (CV.f (FV.b d.snd.snd.snd.snd.snd.snd.snd.snd.snd.snd.fst))],
    some
      [Sg.a (Sz.s d.snd.snd.snd.snd.snd.snd.snd.snd.snd.snd.snd.fst)
          [Col.i IntKind.i64 d.snd.snd.snd.snd.snd.snd.snd.snd.snd.snd.snd.snd.fst, Col.i IntKind.i64 d.snd.snd.snd.snd.snd.snd.snd.snd.snd.snd.snd.snd.snd.fst,
            Col.i IntKind.i64 d.snd.snd.snd.snd.snd.snd.snd.snd.snd.snd.snd.snd.snd.snd.fst]],
    some [Sg.c (CV.f (FV.i IntKind.i64 0)), Sg.c (CV.f (FV.i IntKind.i64 0)), Sg.c (CV.f (FV.i IntKind.i64 0))],
    some
      [Sg.c (CV.f (FV.i IntKind.i64 d.snd.snd.snd.snd.snd.snd.snd.snd.snd.snd.snd.snd.snd.snd.snd.fst)),
        Sg.c (CV.f (FV.i IntKind.i64 d.snd.snd.snd.snd.snd.snd.snd.snd.snd.snd.snd.snd.snd.snd.snd.snd.fst)),
        Sg.c (CV.f (FV.i IntKind.i64 d.snd.snd.snd.snd.snd.snd.snd.snd.snd.snd.snd.snd.snd.snd.snd.snd.snd.fst))],
    some [Sg.a (Sz.s d.snd.snd.snd.snd.snd.snd.snd.snd.snd.snd.snd.snd.snd.snd.snd.snd.snd.snd.fst) [Col.i IntKind.i64 d.snd.snd.snd.snd.snd.snd.snd.snd.snd.snd.snd.snd.snd.snd.snd.snd.snd.snd.snd]]]
  [0])) := by kernel_rfl
theorem it_vec_Add_1 {ρ : Type} (x0 : Nat) (x1 : Bool) (x2 : Int) (x3 : Nat) (x4 : Int) (x5 : Nat) (x6 : Bool) (x7 : Int) (x8 : Int) (x9 : Bool) (x10 : Nat) (x11 : Nat → Int) (x12 : Nat → Int) (x13 : Nat → Int) (x14 : Int) (x15 : Int) (x16 : Int) (x17 : Nat) (x18 : Nat → Int) (K : AX → St → Option ρ) :
    iter (fun t => t.head 2 ⟨[⟨3, [2, 3, 6, 7, 8, 9, 11, 12, 13, 14, 15, 16, 17, 18, 19, 20, 21, 22, 23, 24, 25, 26, 27, 28, 29, 30, 31, 32], []⟩, ⟨7, [2, 3, 8, 9, 11, 12, 16, 17, 18, 19, 20, 21, 22, 23, 24, 25, 26, 27, 28, 29, 30, 31, 32], [(7, [.i .i64])]⟩], [⟨7, 2, @R_vec_Add_1 (@L_vec_Add_1)⟩, ⟨3, 2, @R_vec_Add_0 (@L_vec_Add_0)⟩], [0]⟩ (loopIn Try.prog 66 7)) (runC Try.prog (envOf [(77, F___fx_Acc__Add f___fx_Acc__Add)]) ⟨[⟨3, [2, 3, 6, 7, 8, 9, 11, 12, 13, 14, 15, 16, 17, 18, 19, 20, 21, 22, 23, 24, 25, 26, 27, 28, 29, 30, 31, 32], []⟩, ⟨7, [2, 3, 8, 9, 11, 12, 16, 17, 18, 19, 20, 21, 22, 23, 24, 25, 26, 27, 28, 29, 30, 31, 32], [(7, [.i .i64])]⟩], [⟨7, 2, @R_vec_Add_1 (@L_vec_Add_1)⟩, ⟨3, 2, @R_vec_Add_0 (@L_vec_Add_0)⟩], [0]⟩ (tmpsOf Try.prog 66) 2 200 (loopIn Try.prog 66 7)) K 200
      (St.mk
    [AV.r (RV.c (CV.ptr 0 (Off.k 0) 1)), AV.r (RV.c (CV.sl 1 (Off.k 0) (Sz.s x0) 3 x1)), AV.und, AV.und, AV.r (RV.c (CV.ptr 2 (Off.k 0) 3)), AV.r (RV.c (CV.ptr 3 (Off.k 0) 3)),
      AV.r (RV.c (CV.f (FV.i IntKind.i64 x2))), AV.r (RV.c (CV.sl 4 (Off.k 0) (Sz.s x3) 1 true)), AV.und, AV.und, AV.r (RV.c (CV.f (FV.i IntKind.i64 x4))), AV.und, AV.und,
      AV.r (RV.c (CV.sl 1 (Off.k 0) (Sz.s x5) 3 x6)), AV.r (RV.c (CV.f (FV.i IntKind.i64 x7))), AV.r (RV.c (CV.f (FV.i IntKind.i64 x8))), AV.und, AV.und, AV.und, AV.und, AV.und, AV.und, AV.und, AV.und,
      AV.und, AV.und, AV.und, AV.und, AV.und, AV.und, AV.und, AV.und, AV.und]
    [some [Sg.c (CV.f (FV.b x9))], some [Sg.a (Sz.s x10) [Col.i IntKind.i64 x11, Col.i IntKind.i64 x12, Col.i IntKind.i64 x13]],
      some [Sg.c (CV.f (FV.i IntKind.i64 0)), Sg.c (CV.f (FV.i IntKind.i64 0)), Sg.c (CV.f (FV.i IntKind.i64 0))],
      some [Sg.c (CV.f (FV.i IntKind.i64 x14)), Sg.c (CV.f (FV.i IntKind.i64 x15)), Sg.c (CV.f (FV.i IntKind.i64 x16))], some [Sg.a (Sz.s x17) [Col.i IntKind.i64 x18]]]
    [0]) = L_vec_Add_1 (x0, x1, x2, x3, x4, x5, x6, x7, x8, x9, x10, x11, x12, x13, x14, x15, x16, x17, x18) (fun d => K (AX.ex 2) (St.mk
  [AV.r (RV.c (CV.ptr 0 (Off.k 0) 1)), AV.r (RV.c (CV.sl 1 (Off.k 0) (Sz.s d.fst) 3 d.snd.fst)), AV.und, AV.und, AV.r (RV.c (CV.ptr 2 (Off.k 0) 3)), AV.r (RV.c (CV.ptr 3 (Off.k 0) 3)),
    AV.r (RV.c (CV.f (FV.i IntKind.i64 d.snd.snd.fst))), AV.r (RV.c (CV.sl 4 (Off.k 0) (Sz.s d.snd.snd.snd.fst) 1 true)), AV.und, AV.und, AV.r (RV.c (CV.f (FV.i IntKind.i64 d.snd.snd.snd.snd.fst))),
    AV.und, AV.und, AV.r (RV.c (CV.sl 1 (Off.k 0) (Sz.s d.snd.snd.snd.snd.snd.fst) 3 d.snd.snd.snd.snd.snd.snd.fst)), AV.r (RV.c (CV.f (FV.i IntKind.i64 d.snd.snd.snd.snd.snd.snd.snd.fst))),
    AV.r (RV.c (CV.f (FV.i IntKind.i64 d.snd.snd.snd.snd.snd.snd.snd.snd.fst))), AV.r (RV.c (CV.f (FV.b d.snd.snd.snd.snd.snd.snd.snd.snd.snd.fst))), AV.und, AV.und, AV.und, AV.und, AV.und, AV.und,
    AV.und, AV.und, AV.und, AV.und, AV.und, AV.und, AV.und, AV.und, AV.und, AV.und]
  [some [Sg.c (CV.f (FV.b d.snd.snd.snd.snd.snd.snd.snd.snd.snd.snd.fst))],
    some
      [Sg.a (Sz.s d.snd.snd.snd.snd.snd.snd.snd.snd.snd.snd.snd.fst)
          [Col.i IntKind.i64 d.snd.snd.snd.snd.snd.snd.snd.snd.snd.snd.snd.snd.fst, Col.i IntKind.i64 d.snd.snd.snd.snd.snd.snd.snd.snd.snd.snd.snd.snd.snd.fst,
            Col.i IntKind.i64 d.snd.snd.snd.snd.snd.snd.snd.snd.snd.snd.snd.snd.snd.snd.fst]],
    some [Sg.c (CV.f (FV.i IntKind.i64 0)), Sg.c (CV.f (FV.i IntKind.i64 0)), Sg.c (CV.f (FV.i IntKind.i64 0))],
    some
      [Sg.c (CV.f (FV.i IntKind.i64 d.snd.snd.snd.snd.snd.snd.snd.snd.snd.snd.snd.snd.snd.snd.snd.fst)),
        Sg.c (CV.f (FV.i IntKind.i64 d.snd.snd.snd.snd.snd.snd.snd.snd.snd.snd.snd.snd.snd.snd.snd.snd.fst)),
        Sg.c (CV.f (FV.i IntKind.i64 d.snd.snd.snd.snd.snd.snd.snd.snd.snd.snd.snd.snd.snd.snd.snd.snd.snd.fst))],
    some [Sg.a (Sz.s d.snd.snd.snd.snd.snd.snd.snd.snd.snd.snd.snd.snd.snd.snd.snd.snd.snd.snd.fst) [Col.i IntKind.i64 d.snd.snd.snd.snd.snd.snd.snd.snd.snd.snd.snd.snd.snd.snd.snd.snd.snd.snd.snd]]]
  [0])) :=
  iter_loopX (emb := fun (d : Nat × Bool × Int × Nat × Int × Nat × Bool × Int × Int × Bool × Nat × (Nat → Int) × (Nat → Int) × (Nat → Int) × Int × Int × Int × Nat × (Nat → Int)) => St.mk
  [AV.r (RV.c (CV.ptr 0 (Off.k 0) 1)), AV.r (RV.c (CV.sl 1 (Off.k 0) (Sz.s d.fst) 3 d.snd.fst)), AV.und, AV.und, AV.r (RV.c (CV.ptr 2 (Off.k 0) 3)), AV.r (RV.c (CV.ptr 3 (Off.k 0) 3)),
    AV.r (RV.c (CV.f (FV.i IntKind.i64 d.snd.snd.fst))), AV.r (RV.c (CV.sl 4 (Off.k 0) (Sz.s d.snd.snd.snd.fst) 1 true)), AV.und, AV.und, AV.r (RV.c (CV.f (FV.i IntKind.i64 d.snd.snd.snd.snd.fst))),
    AV.und, AV.und, AV.r (RV.c (CV.sl 1 (Off.k 0) (Sz.s d.snd.snd.snd.snd.snd.fst) 3 d.snd.snd.snd.snd.snd.snd.fst)), AV.r (RV.c (CV.f (FV.i IntKind.i64 d.snd.snd.snd.snd.snd.snd.snd.fst))),
    AV.r (RV.c (CV.f (FV.i IntKind.i64 d.snd.snd.snd.snd.snd.snd.snd.snd.fst))), AV.und, AV.und, AV.und, AV.und, AV.und, AV.und, AV.und, AV.und, AV.und, AV.und, AV.und, AV.und, AV.und, AV.und, AV.und,
    AV.und, AV.und]
  [some [Sg.c (CV.f (FV.b d.snd.snd.snd.snd.snd.snd.snd.snd.snd.fst))],
    some
      [Sg.a (Sz.s d.snd.snd.snd.snd.snd.snd.snd.snd.snd.snd.fst)
          [Col.i IntKind.i64 d.snd.snd.snd.snd.snd.snd.snd.snd.snd.snd.snd.fst, Col.i IntKind.i64 d.snd.snd.snd.snd.snd.snd.snd.snd.snd.snd.snd.snd.fst,
            Col.i IntKind.i64 d.snd.snd.snd.snd.snd.snd.snd.snd.snd.snd.snd.snd.snd.fst]],
    some [Sg.c (CV.f (FV.i IntKind.i64 0)), Sg.c (CV.f (FV.i IntKind.i64 0)), Sg.c (CV.f (FV.i IntKind.i64 0))],
    some
      [Sg.c (CV.f (FV.i IntKind.i64 d.snd.snd.snd.snd.snd.snd.snd.snd.snd.snd.snd.snd.snd.snd.fst)), Sg.c (CV.f (FV.i IntKind.i64 d.snd.snd.snd.snd.snd.snd.snd.snd.snd.snd.snd.snd.snd.snd.snd.fst)),
        Sg.c (CV.f (FV.i IntKind.i64 d.snd.snd.snd.snd.snd.snd.snd.snd.snd.snd.snd.snd.snd.snd.snd.snd.fst))],
    some [Sg.a (Sz.s d.snd.snd.snd.snd.snd.snd.snd.snd.snd.snd.snd.snd.snd.snd.snd.snd.snd.fst) [Col.i IntKind.i64 d.snd.snd.snd.snd.snd.snd.snd.snd.snd.snd.snd.snd.snd.snd.snd.snd.snd.snd]]]
  [0]) (step := fun d c x => S_vec_Add_1 f___fx_Acc__Add  d.1 d.2.1 d.2.2.1 d.2.2.2.1 d.2.2.2.2.1 d.2.2.2.2.2.1 d.2.2.2.2.2.2.1 d.2.2.2.2.2.2.2.1 d.2.2.2.2.2.2.2.2.1 d.2.2.2.2.2.2.2.2.2.1 d.2.2.2.2.2.2.2.2.2.2.1 d.2.2.2.2.2.2.2.2.2.2.2.1 d.2.2.2.2.2.2.2.2.2.2.2.2.1 d.2.2.2.2.2.2.2.2.2.2.2.2.2.1 d.2.2.2.2.2.2.2.2.2.2.2.2.2.2.1 d.2.2.2.2.2.2.2.2.2.2.2.2.2.2.2.1 d.2.2.2.2.2.2.2.2.2.2.2.2.2.2.2.2.1 d.2.2.2.2.2.2.2.2.2.2.2.2.2.2.2.2.2.1 d.2.2.2.2.2.2.2.2.2.2.2.2.2.2.2.2.2.2 c x) (kx := (fun d => K (AX.ex 2) (St.mk
  [AV.r (RV.c (CV.ptr 0 (Off.k 0) 1)), AV.r (RV.c (CV.sl 1 (Off.k 0) (Sz.s d.fst) 3 d.snd.fst)), AV.und, AV.und, AV.r (RV.c (CV.ptr 2 (Off.k 0) 3)), AV.r (RV.c (CV.ptr 3 (Off.k 0) 3)),
    AV.r (RV.c (CV.f (FV.i IntKind.i64 d.snd.snd.fst))), AV.r (RV.c (CV.sl 4 (Off.k 0) (Sz.s d.snd.snd.snd.fst) 1 true)), AV.und, AV.und, AV.r (RV.c (CV.f (FV.i IntKind.i64 d.snd.snd.snd.snd.fst))),
    AV.und, AV.und, AV.r (RV.c (CV.sl 1 (Off.k 0) (Sz.s d.snd.snd.snd.snd.snd.fst) 3 d.snd.snd.snd.snd.snd.snd.fst)), AV.r (RV.c (CV.f (FV.i IntKind.i64 d.snd.snd.snd.snd.snd.snd.snd.fst))),
    AV.r (RV.c (CV.f (FV.i IntKind.i64 d.snd.snd.snd.snd.snd.snd.snd.snd.fst))), AV.r (RV.c (CV.f (FV.b d.snd.snd.snd.snd.snd.snd.snd.snd.snd.fst))), AV.und, AV.und, AV.und, AV.und, AV.und, AV.und,
    AV.und, AV.und, AV.und, AV.und, AV.und, AV.und, AV.und, AV.und, AV.und, AV.und]
  [some [Sg.c (CV.f (FV.b d.snd.snd.snd.snd.snd.snd.snd.snd.snd.snd.fst))],
    some
      [Sg.a (Sz.s d.snd.snd.snd.snd.snd.snd.snd.snd.snd.snd.snd.fst)
          [Col.i IntKind.i64 d.snd.snd.snd.snd.snd.snd.snd.snd.snd.snd.snd.snd.fst, Col.i IntKind.i64 d.snd.snd.snd.snd.snd.snd.snd.snd.snd.snd.snd.snd.snd.fst,
            Col.i IntKind.i64 d.snd.snd.snd.snd.snd.snd.snd.snd.snd.snd.snd.snd.snd.snd.fst]],
    some [Sg.c (CV.f (FV.i IntKind.i64 0)), Sg.c (CV.f (FV.i IntKind.i64 0)), Sg.c (CV.f (FV.i IntKind.i64 0))],
    some
      [Sg.c (CV.f (FV.i IntKind.i64 d.snd.snd.snd.snd.snd.snd.snd.snd.snd.snd.snd.snd.snd.snd.snd.fst)),
        Sg.c (CV.f (FV.i IntKind.i64 d.snd.snd.snd.snd.snd.snd.snd.snd.snd.snd.snd.snd.snd.snd.snd.snd.fst)),
        Sg.c (CV.f (FV.i IntKind.i64 d.snd.snd.snd.snd.snd.snd.snd.snd.snd.snd.snd.snd.snd.snd.snd.snd.snd.fst))],
    some [Sg.a (Sz.s d.snd.snd.snd.snd.snd.snd.snd.snd.snd.snd.snd.snd.snd.snd.snd.snd.snd.snd.fst) [Col.i IntKind.i64 d.snd.snd.snd.snd.snd.snd.snd.snd.snd.snd.snd.snd.snd.snd.snd.snd.snd.snd.snd]]]
  [0])))
    (fun d c => ds_vec_Add_1 f___fx_Acc__Add (@L_vec_Add_1) (@L_vec_Add_0) d.1 d.2.1 d.2.2.1 d.2.2.2.1 d.2.2.2.2.1 d.2.2.2.2.2.1 d.2.2.2.2.2.2.1 d.2.2.2.2.2.2.2.1 d.2.2.2.2.2.2.2.2.1 d.2.2.2.2.2.2.2.2.2.1 d.2.2.2.2.2.2.2.2.2.2.1 d.2.2.2.2.2.2.2.2.2.2.2.1 d.2.2.2.2.2.2.2.2.2.2.2.2.1 d.2.2.2.2.2.2.2.2.2.2.2.2.2.1 d.2.2.2.2.2.2.2.2.2.2.2.2.2.2.1 d.2.2.2.2.2.2.2.2.2.2.2.2.2.2.2.1 d.2.2.2.2.2.2.2.2.2.2.2.2.2.2.2.2.1 d.2.2.2.2.2.2.2.2.2.2.2.2.2.2.2.2.2.1 d.2.2.2.2.2.2.2.2.2.2.2.2.2.2.2.2.2.2 c K) 200 (x0, x1, x2, x3, x4, x5, x6, x7, x8, x9, x10, x11, x12, x13, x14, x15, x16, x17, x18)
theorem so_vec_Add_1 : ∀ kk, SumOK Try.prog (envOf [(77, F___fx_Acc__Add f___fx_Acc__Add)]) ⟨[⟨3, [2, 3, 6, 7, 8, 9, 11, 12, 13, 14, 15, 16, 17, 18, 19, 20, 21, 22, 23, 24, 25, 26, 27, 28, 29, 30, 31, 32], []⟩, ⟨7, [2, 3, 8, 9, 11, 12, 16, 17, 18, 19, 20, 21, 22, 23, 24, 25, 26, 27, 28, 29, 30, 31, 32], [(7, [.i .i64])]⟩], [⟨7, 2, @R_vec_Add_1 (@L_vec_Add_1)⟩, ⟨3, 2, @R_vec_Add_0 (@L_vec_Add_0)⟩], [0]⟩ (tmpsOf Try.prog 66) kk 200 (loopIn Try.prog 66 7) :=
  SumOK.of (id := 7) (k0 := 2) (run := @R_vec_Add_1 (@L_vec_Add_1)) (by kernel_rfl) fun s K r hr => by
    unfold R_vec_Add_1 at hr
    obtain ⟨b, hb, hr1⟩ := Option.bind_eq_some_iff.1 hr
    have e := ((Q_vec_Add_1).ok s b hb).trans (q_vec_Add_1 b)
    subst e
    exact ⟨200, (it_vec_Add_1 b.1.2.1.2.2.1 b.1.2.1.2.2.2.2 b.1.2.2.2.2.2.2.1 b.1.2.2.2.2.2.2.2.1.2.2.1 b.1.2.2.2.2.2.2.2.2.2.2.1 b.1.2.2.2.2.2.2.2.2.2.2.2.2.2.1.2.2.1 b.1.2.2.2.2.2.2.2.2.2.2.2.2.2.1.2.2.2.2 b.1.2.2.2.2.2.2.2.2.2.2.2.2.2.2.1 b.1.2.2.2.2.2.2.2.2.2.2.2.2.2.2.2.1 b.2.1.1.1 b.2.1.2.1.1.1 b.2.1.2.1.1.2.1 b.2.1.2.1.1.2.2.1 b.2.1.2.1.1.2.2.2.1 b.2.1.2.2.2.1.1 b.2.1.2.2.2.1.2.1 b.2.1.2.2.2.1.2.2.1 b.2.1.2.2.2.2.1.1.1 b.2.1.2.2.2.2.1.1.2.1 K).trans hr1⟩
theorem ds_vec_Add_0 {ρ : Type} (g___fx_Acc__Add : Nat → Bool → (Nat → Int) → Bool → Option (Int × Bool)) (l_1 : ∀ {ρ : Type}, (Nat × Bool × Int × Nat × Int × Nat × Bool × Int × Int × Bool × Nat × (Nat → Int) × (Nat → Int) × (Nat → Int) × Int × Int × Int × Nat × (Nat → Int)) → ((Nat × Bool × Int × Nat × Int × Nat × Bool × Int × Int × Bool × Bool × Nat × (Nat → Int) × (Nat → Int) × (Nat → Int) × Int × Int × Int × Nat × (Nat → Int)) → Option ρ) → Option ρ) (l_0 : ∀ {ρ : Type}, (Nat × Bool × Int × Bool × Nat × (Nat → Int) × (Nat → Int) × (Nat → Int) × Int × Int × Int) → ((Nat × Bool × Int × Bool × Bool × Nat × (Nat → Int) × (Nat → Int) × (Nat → Int) × Int × Int × Int) → Option ρ) → Option ρ) (x0 : Nat) (x1 : Bool) (x2 : Int) (x3 : Bool) (x4 : Nat) (x5 : Nat → Int) (x6 : Nat → Int) (x7 : Nat → Int) (x8 : Int) (x9 : Int) (x10 : Int) (c : St → Option ρ) (K : AX → St → Option ρ) :
    runC Try.prog (envOf [(77, F___fx_Acc__Add g___fx_Acc__Add)]) ⟨[⟨3, [2, 3, 6, 7, 8, 9, 11, 12, 13, 14, 15, 16, 17, 18, 19, 20, 21, 22, 23, 24, 25, 26, 27, 28, 29, 30, 31, 32], []⟩, ⟨7, [2, 3, 8, 9, 11, 12, 16, 17, 18, 19, 20, 21, 22, 23, 24, 25, 26, 27, 28, 29, 30, 31, 32], [(7, [.i .i64])]⟩], [⟨7, 2, @R_vec_Add_1 (@l_1)⟩, ⟨3, 2, @R_vec_Add_0 (@l_0)⟩], [0]⟩ (tmpsOf Try.prog 66) 2 200 (loopIn Try.prog 66 3)
      (St.mk
    [AV.r (RV.c (CV.ptr 0 (Off.k 0) 1)), AV.r (RV.c (CV.sl 1 (Off.k 0) (Sz.s x0) 3 x1)), AV.und, AV.und, AV.r (RV.c (CV.ptr 2 (Off.k 0) 3)), AV.r (RV.c (CV.ptr 3 (Off.k 0) 3)), AV.und, AV.und, AV.und,
      AV.und, AV.r (RV.c (CV.f (FV.i IntKind.i64 x2))), AV.und, AV.und, AV.und, AV.und, AV.und, AV.und, AV.und, AV.und, AV.und, AV.und, AV.und, AV.und, AV.und, AV.und, AV.und, AV.und, AV.und, AV.und,
      AV.und, AV.und, AV.und, AV.und]
    [some [Sg.c (CV.f (FV.b x3))], some [Sg.a (Sz.s x4) [Col.i IntKind.i64 x5, Col.i IntKind.i64 x6, Col.i IntKind.i64 x7]],
      some [Sg.c (CV.f (FV.i IntKind.i64 0)), Sg.c (CV.f (FV.i IntKind.i64 0)), Sg.c (CV.f (FV.i IntKind.i64 0))],
      some [Sg.c (CV.f (FV.i IntKind.i64 x8)), Sg.c (CV.f (FV.i IntKind.i64 x9)), Sg.c (CV.f (FV.i IntKind.i64 x10))]]
    [0])
      (next (fun t => t.head 2 ⟨[⟨3, [2, 3, 6, 7, 8, 9, 11, 12, 13, 14, 15, 16, 17, 18, 19, 20, 21, 22, 23, 24, 25, 26, 27, 28, 29, 30, 31, 32], []⟩, ⟨7, [2, 3, 8, 9, 11, 12, 16, 17, 18, 19, 20, 21, 22, 23, 24, 25, 26, 27, 28, 29, 30, 31, 32], [(7, [.i .i64])]⟩], [⟨7, 2, @R_vec_Add_1 (@l_1)⟩, ⟨3, 2, @R_vec_Add_0 (@l_0)⟩], [0]⟩ (loopIn Try.prog 66 3)) c K) =
    S_vec_Add_0 g___fx_Acc__Add (@l_1) x0 x1 x2 x3 x4 x5 x6 x7 x8 x9 x10 (fun d => c (St.mk
  [AV.r (RV.c (CV.ptr 0 (Off.k 0) 1)), AV.r (RV.c (CV.sl 1 (Off.k 0) (Sz.s d.fst) 3 d.snd.fst)), AV.und, AV.und, AV.r (RV.c (CV.ptr 2 (Off.k 0) 3)), AV.r (RV.c (CV.ptr 3 (Off.k 0) 3)), AV.und, AV.und,
    AV.und, AV.und, AV.r (RV.c (CV.f (FV.i IntKind.i64 d.snd.snd.fst))), AV.und, AV.und, AV.und, AV.und, AV.und, AV.und, AV.und, AV.und, AV.und, AV.und, AV.und, AV.und, AV.und, AV.und, AV.und, AV.und,
    AV.und, AV.und, AV.und, AV.und, AV.und, AV.und]
  [some [Sg.c (CV.f (FV.b d.snd.snd.snd.fst))],
    some [Sg.a (Sz.s d.snd.snd.snd.snd.fst) [Col.i IntKind.i64 d.snd.snd.snd.snd.snd.fst, Col.i IntKind.i64 d.snd.snd.snd.snd.snd.snd.fst, Col.i IntKind.i64 d.snd.snd.snd.snd.snd.snd.snd.fst]],
    some [Sg.c (CV.f (FV.i IntKind.i64 0)), Sg.c (CV.f (FV.i IntKind.i64 0)), Sg.c (CV.f (FV.i IntKind.i64 0))],
    some
      [Sg.c (CV.f (FV.i IntKind.i64 d.snd.snd.snd.snd.snd.snd.snd.snd.fst)), Sg.c (CV.f (FV.i IntKind.i64 d.snd.snd.snd.snd.snd.snd.snd.snd.snd.fst)),
        Sg.c (CV.f (FV.i IntKind.i64 d.snd.snd.snd.snd.snd.snd.snd.snd.snd.snd))]]
  [0])) (fun d => K (AX.ex 0) (St.mk
  [AV.r (RV.c (CV.ptr 0 (Off.k 0) 1)), AV.r (RV.c (CV.sl 1 (Off.k 0) (Sz.s d.fst) 3 d.snd.fst)), AV.und, AV.und, AV.r (RV.c (CV.ptr 2 (Off.k 0) 3)), AV.r (RV.c (CV.ptr 3 (Off.k 0) 3)), AV.und, AV.und,
    AV.und, AV.und, AV.r (RV.c (CV.f (FV.i IntKind.i64 d.snd.snd.fst))), AV.r (RV.c (CV.f (FV.b d.snd.snd.snd.fst))), AV.und, AV.und, AV.und, AV.und, AV.und, AV.und, AV.und, AV.und, AV.und, AV.und,
    AV.und, AV.und, AV.und, AV.und, AV.und, AV.und, AV.und, AV.und, AV.und, AV.und, AV.und]
  [some [Sg.c (CV.f (FV.b d.snd.snd.snd.snd.fst))],
    some
      [Sg.a (Sz.s d.snd.snd.snd.snd.snd.fst)
          [Col.i IntKind.i64 d.snd.snd.snd.snd.snd.snd.fst, Col.i IntKind.i64 d.snd.snd.snd.snd.snd.snd.snd.fst, Col.i IntKind.i64 d.snd.snd.snd.snd.snd.snd.snd.snd.fst]],
    some [Sg.c (CV.f (FV.i IntKind.i64 0)), Sg.c (CV.f (FV.i IntKind.i64 0)), Sg.c (CV.f (FV.i IntKind.i64 0))],
    some
      [Sg.c (CV.f (FV.i IntKind.i64 d.snd.snd.snd.snd.snd.snd.snd.snd.snd.fst)), Sg.c (CV.f (FV.i IntKind.i64 d.snd.snd.snd.snd.snd.snd.snd.snd.snd.snd.fst)),
        Sg.c (CV.f (FV.i IntKind.i64 d.snd.snd.snd.snd.snd.snd.snd.snd.snd.snd.snd))]]
  [0])) := by kernel_rfl
theorem it_vec_Add_0 {ρ : Type} (x0 : Nat) (x1 : Bool) (x2 : Int) (x3 : Bool) (x4 : Nat) (x5 : Nat → Int) (x6 : Nat → Int) (x7 : Nat → Int) (x8 : Int) (x9 : Int) (x10 : Int) (K : AX → St → Option ρ) :
    iter (fun t => t.head 2 ⟨[⟨3, [2, 3, 6, 7, 8, 9, 11, 12, 13, 14, 15, 16, 17, 18, 19, 20, 21, 22, 23, 24, 25, 26, 27, 28, 29, 30, 31, 32], []⟩, ⟨7, [2, 3, 8, 9, 11, 12, 16, 17, 18, 19, 20, 21, 22, 23, 24, 25, 26, 27, 28, 29, 30, 31, 32], [(7, [.i .i64])]⟩], [⟨7, 2, @R_vec_Add_1 (@L_vec_Add_1)⟩, ⟨3, 2, @R_vec_Add_0 (@L_vec_Add_0)⟩], [0]⟩ (loopIn Try.prog 66 3)) (runC Try.prog (envOf [(77, F___fx_Acc__Add f___fx_Acc__Add)]) ⟨[⟨3, [2, 3, 6, 7, 8, 9, 11, 12, 13, 14, 15, 16, 17, 18, 19, 20, 21, 22, 23, 24, 25, 26, 27, 28, 29, 30, 31, 32], []⟩, ⟨7, [2, 3, 8, 9, 11, 12, 16, 17, 18, 19, 20, 21, 22, 23, 24, 25, 26, 27, 28, 29, 30, 31, 32], [(7, [.i .i64])]⟩], [⟨7, 2, @R_vec_Add_1 (@L_vec_Add_1)⟩, ⟨3, 2, @R_vec_Add_0 (@L_vec_Add_0)⟩], [0]⟩ (tmpsOf Try.prog 66) 2 200 (loopIn Try.prog 66 3)) K 200
      (St.mk
    [AV.r (RV.c (CV.ptr 0 (Off.k 0) 1)), AV.r (RV.c (CV.sl 1 (Off.k 0) (Sz.s x0) 3 x1)), AV.und, AV.und, AV.r (RV.c (CV.ptr 2 (Off.k 0) 3)), AV.r (RV.c (CV.ptr 3 (Off.k 0) 3)), AV.und, AV.und, AV.und,
      AV.und, AV.r (RV.c (CV.f (FV.i IntKind.i64 x2))), AV.und, AV.und, AV.und, AV.und, AV.und, AV.und, AV.und, AV.und, AV.und, AV.und, AV.und, AV.und, AV.und, AV.und, AV.und, AV.und, AV.und, AV.und,
      AV.und, AV.und, AV.und, AV.und]
    [some [Sg.c (CV.f (FV.b x3))], some [Sg.a (Sz.s x4) [Col.i IntKind.i64 x5, Col.i IntKind.i64 x6, Col.i IntKind.i64 x7]],
      some [Sg.c (CV.f (FV.i IntKind.i64 0)), Sg.c (CV.f (FV.i IntKind.i64 0)), Sg.c (CV.f (FV.i IntKind.i64 0))],
      some [Sg.c (CV.f (FV.i IntKind.i64 x8)), Sg.c (CV.f (FV.i IntKind.i64 x9)), Sg.c (CV.f (FV.i IntKind.i64 x10))]]
    [0]) = L_vec_Add_0 (x0, x1, x2, x3, x4, x5, x6, x7, x8, x9, x10) (fun d => K (AX.ex 0) (St.mk
  [AV.r (RV.c (CV.ptr 0 (Off.k 0) 1)), AV.r (RV.c (CV.sl 1 (Off.k 0) (Sz.s d.fst) 3 d.snd.fst)), AV.und, AV.und, AV.r (RV.c (CV.ptr 2 (Off.k 0) 3)), AV.r (RV.c (CV.ptr 3 (Off.k 0) 3)), AV.und, AV.und,
    AV.und, AV.und, AV.r (RV.c (CV.f (FV.i IntKind.i64 d.snd.snd.fst))), AV.r (RV.c (CV.f (FV.b d.snd.snd.snd.fst))), AV.und, AV.und, AV.und, AV.und, AV.und, AV.und, AV.und, AV.und, AV.und, AV.und,
    AV.und, AV.und, AV.und, AV.und, AV.und, AV.und, AV.und, AV.und, AV.und, AV.und, AV.und]
  [some [Sg.c (CV.f (FV.b d.snd.snd.snd.snd.fst))],
    some
      [Sg.a (Sz.s d.snd.snd.snd.snd.snd.fst)
          [Col.i IntKind.i64 d.snd.snd.snd.snd.snd.snd.fst, Col.i IntKind.i64 d.snd.snd.snd.snd.snd.snd.snd.fst, Col.i IntKind.i64 d.snd.snd.snd.snd.snd.snd.snd.snd.fst]],
    some [Sg.c (CV.f (FV.i IntKind.i64 0)), Sg.c (CV.f (FV.i IntKind.i64 0)), Sg.c (CV.f (FV.i IntKind.i64 0))],
    some
      [Sg.c (CV.f (FV.i IntKind.i64 d.snd.snd.snd.snd.snd.snd.snd.snd.snd.fst)), Sg.c (CV.f (FV.i IntKind.i64 d.snd.snd.snd.snd.snd.snd.snd.snd.snd.snd.fst)),
        Sg.c (CV.f (FV.i IntKind.i64 d.snd.snd.snd.snd.snd.snd.snd.snd.snd.snd.snd))]]
  [0])) :=
  iter_loopX (emb := fun (d : Nat × Bool × Int × Bool × Nat × (Nat → Int) × (Nat → Int) × (Nat → Int) × Int × Int × Int) => St.mk
  [AV.r (RV.c (CV.ptr 0 (Off.k 0) 1)), AV.r (RV.c (CV.sl 1 (Off.k 0) (Sz.s d.fst) 3 d.snd.fst)), AV.und, AV.und, AV.r (RV.c (CV.ptr 2 (Off.k 0) 3)), AV.r (RV.c (CV.ptr 3 (Off.k 0) 3)), AV.und, AV.und,
    AV.und, AV.und, AV.r (RV.c (CV.f (FV.i IntKind.i64 d.snd.snd.fst))), AV.und, AV.und, AV.und, AV.und, AV.und, AV.und, AV.und, AV.und, AV.und, AV.und, AV.und, AV.und, AV.und, AV.und, AV.und, AV.und,
    AV.und, AV.und, AV.und, AV.und, AV.und, AV.und]
  [some [Sg.c (CV.f (FV.b d.snd.snd.snd.fst))],
    some [Sg.a (Sz.s d.snd.snd.snd.snd.fst) [Col.i IntKind.i64 d.snd.snd.snd.snd.snd.fst, Col.i IntKind.i64 d.snd.snd.snd.snd.snd.snd.fst, Col.i IntKind.i64 d.snd.snd.snd.snd.snd.snd.snd.fst]],
    some [Sg.c (CV.f (FV.i IntKind.i64 0)), Sg.c (CV.f (FV.i IntKind.i64 0)), Sg.c (CV.f (FV.i IntKind.i64 0))],
    some
      [Sg.c (CV.f (FV.i IntKind.i64 d.snd.snd.snd.snd.snd.snd.snd.snd.fst)), Sg.c (CV.f (FV.i IntKind.i64 d.snd.snd.snd.snd.snd.snd.snd.snd.snd.fst)),
        Sg.c (CV.f (FV.i IntKind.i64 d.snd.snd.snd.snd.snd.snd.snd.snd.snd.snd))]]
  [0]) (step := fun d c x => S_vec_Add_0 f___fx_Acc__Add (@L_vec_Add_1) d.1 d.2.1 d.2.2.1 d.2.2.2.1 d.2.2.2.2.1 d.2.2.2.2.2.1 d.2.2.2.2.2.2.1 d.2.2.2.2.2.2.2.1 d.2.2.2.2.2.2.2.2.1 d.2.2.2.2.2.2.2.2.2.1 d.2.2.2.2.2.2.2.2.2.2 c x) (kx := (fun d => K (AX.ex 0) (St.mk
  [AV.r (RV.c (CV.ptr 0 (Off.k 0) 1)), AV.r (RV.c (CV.sl 1 (Off.k 0) (Sz.s d.fst) 3 d.snd.fst)), AV.und, AV.und, AV.r (RV.c (CV.ptr 2 (Off.k 0) 3)), AV.r (RV.c (CV.ptr 3 (Off.k 0) 3)), AV.und, AV.und,
    AV.und, AV.und, AV.r (RV.c (CV.f (FV.i IntKind.i64 d.snd.snd.fst))), AV.r (RV.c (CV.f (FV.b d.snd.snd.snd.fst))), AV.und, AV.und, AV.und, AV.und, AV.und, AV.und, AV.und, AV.und, AV.und, AV.und,
    AV.und, AV.und, AV.und, AV.und, AV.und, AV.und, AV.und, AV.und, AV.und, AV.und, AV.und]
  [some [Sg.c (CV.f (FV.b d.snd.snd.snd.snd.fst))],
    some
      [Sg.a (Sz.s d.snd.snd.snd.snd.snd.fst)
          [Col.i IntKind.i64 d.snd.snd.snd.snd.snd.snd.fst, Col.i IntKind.i64 d.snd.snd.snd.snd.snd.snd.snd.fst, Col.i IntKind.i64 d.snd.snd.snd.snd.snd.snd.snd.snd.fst]],
    some [Sg.c (CV.f (FV.i IntKind.i64 0)), Sg.c (CV.f (FV.i IntKind.i64 0)), Sg.c (CV.f (FV.i IntKind.i64 0))],
    some
      [Sg.c (CV.f (FV.i IntKind.i64 d.snd.snd.snd.snd.snd.snd.snd.snd.snd.fst)), Sg.c (CV.f (FV.i IntKind.i64 d.snd.snd.snd.snd.snd.snd.snd.snd.snd.snd.fst)),
        Sg.c (CV.f (FV.i IntKind.i64 d.snd.snd.snd.snd.snd.snd.snd.snd.snd.snd.snd))]]
  [0])))
    (fun d c => ds_vec_Add_0 f___fx_Acc__Add (@L_vec_Add_1) (@L_vec_Add_0) d.1 d.2.1 d.2.2.1 d.2.2.2.1 d.2.2.2.2.1 d.2.2.2.2.2.1 d.2.2.2.2.2.2.1 d.2.2.2.2.2.2.2.1 d.2.2.2.2.2.2.2.2.1 d.2.2.2.2.2.2.2.2.2.1 d.2.2.2.2.2.2.2.2.2.2 c K) 200 (x0, x1, x2, x3, x4, x5, x6, x7, x8, x9, x10)
theorem so_vec_Add_0 : ∀ kk, SumOK Try.prog (envOf [(77, F___fx_Acc__Add f___fx_Acc__Add)]) ⟨[⟨3, [2, 3, 6, 7, 8, 9, 11, 12, 13, 14, 15, 16, 17, 18, 19, 20, 21, 22, 23, 24, 25, 26, 27, 28, 29, 30, 31, 32], []⟩, ⟨7, [2, 3, 8, 9, 11, 12, 16, 17, 18, 19, 20, 21, 22, 23, 24, 25, 26, 27, 28, 29, 30, 31, 32], [(7, [.i .i64])]⟩], [⟨7, 2, @R_vec_Add_1 (@L_vec_Add_1)⟩, ⟨3, 2, @R_vec_Add_0 (@L_vec_Add_0)⟩], [0]⟩ (tmpsOf Try.prog 66) kk 200 (loopIn Try.prog 66 3) :=
  SumOK.of (id := 3) (k0 := 2) (run := @R_vec_Add_0 (@L_vec_Add_0)) (by kernel_rfl) fun s K r hr => by
    unfold R_vec_Add_0 at hr
    obtain ⟨b, hb, hr1⟩ := Option.bind_eq_some_iff.1 hr
    have e := ((Q_vec_Add_0).ok s b hb).trans (q_vec_Add_0 b)
    subst e
    exact ⟨200, (it_vec_Add_0 b.1.2.1.2.2.1 b.1.2.1.2.2.2.2 b.1.2.2.2.2.2.2.2.2.2.2.1 b.2.1.1.1 b.2.1.2.1.1.1 b.2.1.2.1.1.2.1 b.2.1.2.1.1.2.2.1 b.2.1.2.1.1.2.2.2.1 b.2.1.2.2.2.1.1 b.2.1.2.2.2.1.2.1 b.2.1.2.2.2.1.2.2.1 K).trans hr1⟩
def K_vec_Add {ρ : Type} (g___fx_Acc__Add : Nat → Bool → (Nat → Int) → Bool → Option (Int × Bool)) (l_1 : ∀ {ρ : Type}, (Nat × Bool × Int × Nat × Int × Nat × Bool × Int × Int × Bool × Nat × (Nat → Int) × (Nat → Int) × (Nat → Int) × Int × Int × Int × Nat × (Nat → Int)) → ((Nat × Bool × Int × Nat × Int × Nat × Bool × Int × Int × Bool × Bool × Nat × (Nat → Int) × (Nat → Int) × (Nat → Int) × Int × Int × Int × Nat × (Nat → Int)) → Option ρ) → Option ρ) (l_0 : ∀ {ρ : Type}, (Nat × Bool × Int × Bool × Nat × (Nat → Int) × (Nat → Int) × (Nat → Int) × Int × Int × Int) → ((Nat × Bool × Int × Bool × Bool × Nat × (Nat → Int) × (Nat → Int) × (Nat → Int) × Int × Int × Int) → Option ρ) → Option ρ) (x0 : Nat) (x1 : Bool) (x2 : Nat → Int) (x3 : Nat → Int) (x4 : Nat → Int) (w0 : Bool) (k : (Int × Int × Int × Bool) → Option ρ) : Option ρ :=
  l_0 (x0, w0, 0, x1, x0, x2, x3, x4, 0, 0, 0) fun (d : Nat × Bool × Int × Bool × Bool × Nat × (Nat → Int) × (Nat → Int) × (Nat → Int) × Int × Int × Int) =>
    k (d.snd.snd.snd.snd.snd.snd.snd.snd.snd.fst, d.snd.snd.snd.snd.snd.snd.snd.snd.snd.snd.fst, d.snd.snd.snd.snd.snd.snd.snd.snd.snd.snd.snd, d.snd.snd.snd.snd.fst)
def f_vec_Add (x0 : Nat) (x1 : Bool) (x2 : Nat → Int) (x3 : Nat → Int) (x4 : Nat → Int) (w0 : Bool) : Option (Int × Int × Int × Bool) := K_vec_Add f___fx_Acc__Add (@L_vec_Add_1) (@L_vec_Add_0) x0 x1 x2 x3 x4 w0 some
section
open Go.Ab.Rdr
def QA_vec_Add := ((pair (cons (ar (rc (cptr (nat 0) (ok' (nat 0)) (nat 1)))) (cons (ar (rc (csl (nat 1) (ok' (nat 0)) (szs hole) (nat 3) hole))) nil)) (cons (cons (gc (cf (fb hole))) nil) (cons (cons (ga (szs hole) (cons (ki .i64 hole) (cons (ki .i64 hole) (cons (ki .i64 hole) nil)))) nil) nil))) : Rdr (List AV × List Blk) _)
end
def F0_vec_Add (f : (Nat) → (Bool) → (Nat → Int) → (Nat → Int) → (Nat → Int) → (Bool) → Option (Int × Int × Int × Bool)) : Sem1 := fun args h => match (QA_vec_Add).rd (args, h) with
  | some b => .test (Nat.beq b.2.2.1.1.1 b.1.2.1.2.2.1) (.opt (f b.1.2.1.2.2.1 b.2.1.1 b.2.2.1.1.2.1 b.2.2.1.1.2.2.1 b.2.2.1.1.2.2.2.1 b.1.2.1.2.2.2.2) fun (d : Int × Int × Int × Bool) => .leaf (Res.mk (AV.r (RV.agg [Sg.c (CV.f (FV.i IntKind.i64 d.fst)), Sg.c (CV.f (FV.i IntKind.i64 d.snd.fst)), Sg.c (CV.f (FV.i IntKind.i64 d.snd.snd.fst))]))
    [Ch.set [Sg.c (CV.f (FV.b d.snd.snd.snd))], Ch.keep] [])) .fail
  | none => .fail
def F_vec_Add (f : (Nat) → (Bool) → (Nat → Int) → (Nat → Int) → (Nat → Int) → (Bool) → Option (Int × Int × Int × Bool)) : Sem1 := (nilF 1 [.i .i64, .i .i64, .i .i64] (F0_vec_Add f))
theorem d_vec_Add (g___fx_Acc__Add : Nat → Bool → (Nat → Int) → Bool → Option (Int × Bool)) (l_1 : ∀ {ρ : Type}, (Nat × Bool × Int × Nat × Int × Nat × Bool × Int × Int × Bool × Nat × (Nat → Int) × (Nat → Int) × (Nat → Int) × Int × Int × Int × Nat × (Nat → Int)) → ((Nat × Bool × Int × Nat × Int × Nat × Bool × Int × Int × Bool × Bool × Nat × (Nat → Int) × (Nat → Int) × (Nat → Int) × Int × Int × Int × Nat × (Nat → Int)) → Option ρ) → Option ρ) (l_0 : ∀ {ρ : Type}, (Nat × Bool × Int × Bool × Nat × (Nat → Int) × (Nat → Int) × (Nat → Int) × Int × Int × Int) → ((Nat × Bool × Int × Bool × Bool × Nat × (Nat → Int) × (Nat → Int) × (Nat → Int) × Int × Int × Int) → Option ρ) → Option ρ) (x0 : Nat) (x1 : Bool) (x2 : Nat → Int) (x3 : Nat → Int) (x4 : Nat → Int) (w0 : Bool) : den Try.prog (envOf [(77, F___fx_Acc__Add g___fx_Acc__Add)]) ⟨[⟨3, [2, 3, 6, 7, 8, 9, 11, 12, 13, 14, 15, 16, 17, 18, 19, 20, 21, 22, 23, 24, 25, 26, 27, 28, 29, 30, 31, 32], []⟩, ⟨7, [2, 3, 8, 9, 11, 12, 16, 17, 18, 19, 20, 21, 22, 23, 24, 25, 26, 27, 28, 29, 30, 31, 32], [(7, [.i .i64])]⟩], [⟨7, 2, @R_vec_Add_1 (@l_1)⟩, ⟨3, 2, @R_vec_Add_0 (@l_0)⟩], [0]⟩ 200 66 [.r (.c (.ptr 0 (.k 0) 1)), .r (.c (.sl 1 (.k 0) (.s x0) 3 w0))] [[.c (.f (.b x1))], [.a (.s x0) [.i .i64 x2, .i .i64 x3, .i .i64 x4]]] =
    K_vec_Add g___fx_Acc__Add (@l_1) (@l_0) x0 x1 x2 x3 x4 w0 (fun (d : Int × Int × Int × Bool) => some (Res.mk (AV.r (RV.agg [Sg.c (CV.f (FV.i IntKind.i64 d.fst)), Sg.c (CV.f (FV.i IntKind.i64 d.snd.fst)), Sg.c (CV.f (FV.i IntKind.i64 d.snd.snd.fst))]))
    [Ch.set [Sg.c (CV.f (FV.b d.snd.snd.snd))], Ch.keep] [])) := by kernel_rfl
theorem m_vec_Add {ρ σ : Type} (q : ρ → Option σ) (g___fx_Acc__Add : Nat → Bool → (Nat → Int) → Bool → Option (Int × Bool)) (l_1 : ∀ {ρ : Type}, (Nat × Bool × Int × Nat × Int × Nat × Bool × Int × Int × Bool × Nat × (Nat → Int) × (Nat → Int) × (Nat → Int) × Int × Int × Int × Nat × (Nat → Int)) → ((Nat × Bool × Int × Nat × Int × Nat × Bool × Int × Int × Bool × Bool × Nat × (Nat → Int) × (Nat → Int) × (Nat → Int) × Int × Int × Int × Nat × (Nat → Int)) → Option ρ) → Option ρ) (l_0 : ∀ {ρ : Type}, (Nat × Bool × Int × Bool × Nat × (Nat → Int) × (Nat → Int) × (Nat → Int) × Int × Int × Int) → ((Nat × Bool × Int × Bool × Bool × Nat × (Nat → Int) × (Nat → Int) × (Nat → Int) × Int × Int × Int) → Option ρ) → Option ρ) (hl_1 : ∀ {ρ σ : Type} (q : ρ → Option σ) (d : Nat × Bool × Int × Nat × Int × Nat × Bool × Int × Int × Bool × Nat × (Nat → Int) × (Nat → Int) × (Nat → Int) × Int × Int × Int × Nat × (Nat → Int)) (k : (Nat × Bool × Int × Nat × Int × Nat × Bool × Int × Int × Bool × Bool × Nat × (Nat → Int) × (Nat → Int) × (Nat → Int) × Int × Int × Int × Nat × (Nat → Int)) → Option ρ), (l_1 d k).bind q = l_1 d fun x => (k x).bind q) (hl_0 : ∀ {ρ σ : Type} (q : ρ → Option σ) (d : Nat × Bool × Int × Bool × Nat × (Nat → Int) × (Nat → Int) × (Nat → Int) × Int × Int × Int) (k : (Nat × Bool × Int × Bool × Bool × Nat × (Nat → Int) × (Nat → Int) × (Nat → Int) × Int × Int × Int) → Option ρ), (l_0 d k).bind q = l_0 d fun x => (k x).bind q) (x0 : Nat) (x1 : Bool) (x2 : Nat → Int) (x3 : Nat → Int) (x4 : Nat → Int) (w0 : Bool) (k : (Int × Int × Int × Bool) → Option ρ) : (K_vec_Add g___fx_Acc__Add (@l_1) (@l_0) x0 x1 x2 x3 x4 w0 k).bind q = K_vec_Add g___fx_Acc__Add (@l_1) (@l_0) x0 x1 x2 x3 x4 w0 (fun d => (k d).bind q) := by
  simp only [K_vec_Add, bnd_cond, bnd_bind, bnd_none, bnd_sum, hl_1, hl_0]
theorem qa_vec_Add : ∀ b, (QA_vec_Add).em b = ([.r (.c (.ptr 0 (.k 0) 1)), .r (.c (.sl 1 (.k 0) (.s b.1.2.1.2.2.1) 3 b.1.2.1.2.2.2.2))], [[.c (.f (.b b.2.1.1))], [.a (.s b.2.2.1.1.1) [.i .i64 b.2.2.1.1.2.1, .i .i64 b.2.2.1.1.2.2.1, .i .i64 b.2.2.1.1.2.2.2.1]]]) := fun b => by kernel_rfl
theorem e_vec_Add {f : (Nat) → (Bool) → (Nat → Int) → (Nat → Int) → (Nat → Int) → (Bool) → Option (Int × Int × Int × Bool)} {args : List AV} {h : List Blk} {r : Res} (hr : (F0_vec_Add f args h).eval = some r) : ∃ x0 x1 x2 x3 x4 w0, args = [.r (.c (.ptr 0 (.k 0) 1)), .r (.c (.sl 1 (.k 0) (.s x0) 3 w0))] ∧ h = [[.c (.f (.b x1))], [.a (.s x0) [.i .i64 x2, .i .i64 x3, .i .i64 x4]]] ∧ (f x0 x1 x2 x3 x4 w0).bind (fun (d : Int × Int × Int × Bool) => some (Res.mk (AV.r (RV.agg [Sg.c (CV.f (FV.i IntKind.i64 d.fst)), Sg.c (CV.f (FV.i IntKind.i64 d.snd.fst)), Sg.c (CV.f (FV.i IntKind.i64 d.snd.snd.fst))]))
    [Ch.set [Sg.c (CV.f (FV.b d.snd.snd.snd))], Ch.keep] [])) = some r := by
  unfold F0_vec_Add at hr
  split at hr
  · rename_i b hb
    have e := ((QA_vec_Add).ok _ _ hb).trans (qa_vec_Add b)
    obtain ⟨he, hr1⟩ := test_eval hr
    clear hr
    have hr := hr1
    clear hr1
    rw [Nat.eq_of_beq_eq_true he] at e
    clear he
    rw [opt_eval2] at hr
    exact ⟨b.1.2.1.2.2.1, b.2.1.1, b.2.2.1.1.2.1, b.2.2.1.1.2.2.1, b.2.2.1.1.2.2.2.1, b.1.2.1.2.2.2.2, (Prod.mk.inj e).1, (Prod.mk.inj e).2, hr⟩
  · cases hr
theorem n_vec_Add {σ : Type} (q : (Int × Int × Int × Bool) → Option σ) (x0 : Nat) (x1 : Bool) (x2 : Nat → Int) (x3 : Nat → Int) (x4 : Nat → Int) (w0 : Bool) : (f_vec_Add x0 x1 x2 x3 x4 w0).bind q = K_vec_Add f___fx_Acc__Add (@L_vec_Add_1) (@L_vec_Add_0) x0 x1 x2 x3 x4 w0 q := by
  unfold f_vec_Add
  exact m_vec_Add q f___fx_Acc__Add (@L_vec_Add_1) (@L_vec_Add_0) (fun q d k => mL_vec_Add_1 q d k) (fun q d k => mL_vec_Add_0 q d k) x0 x1 x2 x3 x4 w0 some
theorem s_vec_Add : Sound Try.prog 66 (F_vec_Add f_vec_Add) :=
  Sound.nil 1 [.i .i64, .i .i64, .i .i64] <| (inl_sums (l := [(77, F___fx_Acc__Add f___fx_Acc__Add)]) (.cons s___fx_Acc__Add (.nil _)) mixed (hs := ⟨[⟨3, [2, 3, 6, 7, 8, 9, 11, 12, 13, 14, 15, 16, 17, 18, 19, 20, 21, 22, 23, 24, 25, 26, 27, 28, 29, 30, 31, 32], []⟩, ⟨7, [2, 3, 8, 9, 11, 12, 16, 17, 18, 19, 20, 21, 22, 23, 24, 25, 26, 27, 28, 29, 30, 31, 32], [(7, [.i .i64])]⟩], [⟨7, 2, @R_vec_Add_1 (@L_vec_Add_1)⟩, ⟨3, 2, @R_vec_Add_0 (@L_vec_Add_0)⟩], [0]⟩) (lf := 200) (Sums.by (l := [loopIn Try.prog 66 3, loopIn Try.prog 66 7]) (by kernel_rfl) ⟨so_vec_Add_0, ⟨so_vec_Add_1, trivial⟩⟩) (by kernel_rfl)).by (F := F0_vec_Add f_vec_Add) fun args b r hr => by
  obtain ⟨x0, x1, x2, x3, x4, w0, rfl, rfl, hr1⟩ := e_vec_Add hr
  exact inl_eval ((d_vec_Add f___fx_Acc__Add (@L_vec_Add_1) (@L_vec_Add_0) x0 x1 x2 x3 x4 w0).trans ((n_vec_Add (fun (d : Int × Int × Int × Bool) => some (Res.mk (AV.r (RV.agg [Sg.c (CV.f (FV.i IntKind.i64 d.fst)), Sg.c (CV.f (FV.i IntKind.i64 d.snd.fst)), Sg.c (CV.f (FV.i IntKind.i64 d.snd.snd.fst))]))
    [Ch.set [Sg.c (CV.f (FV.b d.snd.snd.snd))], Ch.keep] [])) x0 x1 x2 x3 x4 w0).symm.trans hr1))

def K_downs_plus {ρ : Type} (g_vec_Add : Nat → Bool → (Nat → Int) → (Nat → Int) → (Nat → Int) → Bool → Option (Int × Int × Int × Bool))  (x0 : Int) (x1 : Int) (x2 : Int) (x3 : Int) (x4 : Int) (x5 : Int) (x6 : Int) (x7 : Int) (x8 : Int) (x9 : Int) (x10 : Int) (x11 : Int) (x12 : Int) (x13 : Int) (x14 : Int) (x15 : Int) (x16 : Bool) (k : (Int × Int × Int × Int × Int × Int × Int × Int × Bool) → Option ρ) : Option ρ :=
  Option.bind
    (g_vec_Add 2 x16 (fun (j : Nat) => bif Nat.beq j 1 then x10 else bif Nat.beq j 0 then x2 else x2) (fun (j : Nat) => bif Nat.beq j 1 then x11 else bif Nat.beq j 0 then x3 else x3)
      (fun (j : Nat) => bif Nat.beq j 1 then x12 else bif Nat.beq j 0 then x4 else x4) true)
    fun (d : Int × Int × Int × Bool) =>
    Option.bind
      (g_vec_Add 2 d.snd.snd.snd (fun (j : Nat) => bif Nat.beq j 1 then x13 else bif Nat.beq j 0 then x5 else x5) (fun (j : Nat) => bif Nat.beq j 1 then x14 else bif Nat.beq j 0 then x6 else x6)
        (fun (j : Nat) => bif Nat.beq j 1 then x15 else bif Nat.beq j 0 then x7 else x7) true)
      fun (d_1 : Int × Int × Int × Bool) => k (x8, IntKind.wrap IntKind.i64 (x1 + x9), d.fst, d.snd.fst, d.snd.snd.fst, d_1.fst, d_1.snd.fst, d_1.snd.snd.fst, d_1.snd.snd.snd)
def f_downs_plus (x0 : Int) (x1 : Int) (x2 : Int) (x3 : Int) (x4 : Int) (x5 : Int) (x6 : Int) (x7 : Int) (x8 : Int) (x9 : Int) (x10 : Int) (x11 : Int) (x12 : Int) (x13 : Int) (x14 : Int) (x15 : Int) (x16 : Bool) : Option (Int × Int × Int × Int × Int × Int × Int × Int × Bool) := K_downs_plus f_vec_Add  x0 x1 x2 x3 x4 x5 x6 x7 x8 x9 x10 x11 x12 x13 x14 x15 x16 some
section
open Go.Ab.Rdr
def QA_downs_plus := ((pair (cons (ar (rc (cptr (nat 0) (ok' (nat 0)) (nat 1)))) (cons (ar (ra (cons (gc (cf (fi .i64 hole))) (cons (gc (cf (fi .i64 hole))) (cons (gc (cf (fi .i64 hole))) (cons (gc (cf (fi .i64 hole))) (cons (gc (cf (fi .i64 hole))) (cons (gc (cf (fi .i64 hole))) (cons (gc (cf (fi .i64 hole))) (cons (gc (cf (fi .i64 hole))) nil)))))))))) (cons (ar (ra (cons (gc (cf (fi .i64 hole))) (cons (gc (cf (fi .i64 hole))) (cons (gc (cf (fi .i64 hole))) (cons (gc (cf (fi .i64 hole))) (cons (gc (cf (fi .i64 hole))) (cons (gc (cf (fi .i64 hole))) (cons (gc (cf (fi .i64 hole))) (cons (gc (cf (fi .i64 hole))) nil)))))))))) nil))) (cons (cons (gc (cf (fb hole))) nil) nil)) : Rdr (List AV × List Blk) _)
end
def F_downs_plus (f : (Int) → (Int) → (Int) → (Int) → (Int) → (Int) → (Int) → (Int) → (Int) → (Int) → (Int) → (Int) → (Int) → (Int) → (Int) → (Int) → (Bool) → Option (Int × Int × Int × Int × Int × Int × Int × Int × Bool)) : Sem1 := fun args h => match (QA_downs_plus).rd (args, h) with
  | some b => .opt (f b.1.2.1.1 b.1.2.1.2.1 b.1.2.1.2.2.1 b.1.2.1.2.2.2.1 b.1.2.1.2.2.2.2.1 b.1.2.1.2.2.2.2.2.1 b.1.2.1.2.2.2.2.2.2.1 b.1.2.1.2.2.2.2.2.2.2.1 b.1.2.2.1.1 b.1.2.2.1.2.1 b.1.2.2.1.2.2.1 b.1.2.2.1.2.2.2.1 b.1.2.2.1.2.2.2.2.1 b.1.2.2.1.2.2.2.2.2.1 b.1.2.2.1.2.2.2.2.2.2.1 b.1.2.2.1.2.2.2.2.2.2.2.1 b.2.1.1) fun (d : Int × Int × Int × Int × Int × Int × Int × Int × Bool) => .leaf (Res.mk
    (AV.r
      (RV.agg
        [Sg.c (CV.f (FV.i IntKind.i64 d.fst)), Sg.c (CV.f (FV.i IntKind.i64 d.snd.fst)), Sg.c (CV.f (FV.i IntKind.i64 d.snd.snd.fst)), Sg.c (CV.f (FV.i IntKind.i64 d.snd.snd.snd.fst)),
          Sg.c (CV.f (FV.i IntKind.i64 d.snd.snd.snd.snd.fst)), Sg.c (CV.f (FV.i IntKind.i64 d.snd.snd.snd.snd.snd.fst)), Sg.c (CV.f (FV.i IntKind.i64 d.snd.snd.snd.snd.snd.snd.fst)),
          Sg.c (CV.f (FV.i IntKind.i64 d.snd.snd.snd.snd.snd.snd.snd.fst))]))
    [Ch.set [Sg.c (CV.f (FV.b d.snd.snd.snd.snd.snd.snd.snd.snd))]] [])
  | none => .fail
theorem d_downs_plus (g_vec_Add : Nat → Bool → (Nat → Int) → (Nat → Int) → (Nat → Int) → Bool → Option (Int × Int × Int × Bool))  (x0 : Int) (x1 : Int) (x2 : Int) (x3 : Int) (x4 : Int) (x5 : Int) (x6 : Int) (x7 : Int) (x8 : Int) (x9 : Int) (x10 : Int) (x11 : Int) (x12 : Int) (x13 : Int) (x14 : Int) (x15 : Int) (x16 : Bool) : den Try.prog (envOf [(66, F_vec_Add g_vec_Add)]) ⟨[], [], []⟩ 200 56 [.r (.c (.ptr 0 (.k 0) 1)), .r (.agg [.c (.f (.i .i64 x0)), .c (.f (.i .i64 x1)), .c (.f (.i .i64 x2)), .c (.f (.i .i64 x3)), .c (.f (.i .i64 x4)), .c (.f (.i .i64 x5)), .c (.f (.i .i64 x6)), .c (.f (.i .i64 x7))]), .r (.agg [.c (.f (.i .i64 x8)), .c (.f (.i .i64 x9)), .c (.f (.i .i64 x10)), .c (.f (.i .i64 x11)), .c (.f (.i .i64 x12)), .c (.f (.i .i64 x13)), .c (.f (.i .i64 x14)), .c (.f (.i .i64 x15))])] [[.c (.f (.b x16))]] =
    K_downs_plus g_vec_Add  x0 x1 x2 x3 x4 x5 x6 x7 x8 x9 x10 x11 x12 x13 x14 x15 x16 (fun (d : Int × Int × Int × Int × Int × Int × Int × Int × Bool) => some (Res.mk
    (AV.r
      (RV.agg
        [Sg.c (CV.f (FV.i IntKind.i64 d.fst)), Sg.c (CV.f (FV.i IntKind.i64 d.snd.fst)), Sg.c (CV.f (FV.i IntKind.i64 d.snd.snd.fst)), Sg.c (CV.f (FV.i IntKind.i64 d.snd.snd.snd.fst)),
          Sg.c (CV.f (FV.i IntKind.i64 d.snd.snd.snd.snd.fst)), Sg.c (CV.f (FV.i IntKind.i64 d.snd.snd.snd.snd.snd.fst)), Sg.c (CV.f (FV.i IntKind.i64 d.snd.snd.snd.snd.snd.snd.fst)),
          Sg.c (CV.f (FV.i IntKind.i64 d.snd.snd.snd.snd.snd.snd.snd.fst))]))
    [Ch.set [Sg.c (CV.f (FV.b d.snd.snd.snd.snd.snd.snd.snd.snd))]] [])) := by kernel_rfl
theorem m_downs_plus {ρ σ : Type} (q : ρ → Option σ) (g_vec_Add : Nat → Bool → (Nat → Int) → (Nat → Int) → (Nat → Int) → Bool → Option (Int × Int × Int × Bool))   (x0 : Int) (x1 : Int) (x2 : Int) (x3 : Int) (x4 : Int) (x5 : Int) (x6 : Int) (x7 : Int) (x8 : Int) (x9 : Int) (x10 : Int) (x11 : Int) (x12 : Int) (x13 : Int) (x14 : Int) (x15 : Int) (x16 : Bool) (k : (Int × Int × Int × Int × Int × Int × Int × Int × Bool) → Option ρ) : (K_downs_plus g_vec_Add  x0 x1 x2 x3 x4 x5 x6 x7 x8 x9 x10 x11 x12 x13 x14 x15 x16 k).bind q = K_downs_plus g_vec_Add  x0 x1 x2 x3 x4 x5 x6 x7 x8 x9 x10 x11 x12 x13 x14 x15 x16 (fun d => (k d).bind q) := by
  simp only [K_downs_plus, bnd_cond, bnd_bind, bnd_none, bnd_sum]
theorem qa_downs_plus : ∀ b, (QA_downs_plus).em b = ([.r (.c (.ptr 0 (.k 0) 1)), .r (.agg [.c (.f (.i .i64 b.1.2.1.1)), .c (.f (.i .i64 b.1.2.1.2.1)), .c (.f (.i .i64 b.1.2.1.2.2.1)), .c (.f (.i .i64 b.1.2.1.2.2.2.1)), .c (.f (.i .i64 b.1.2.1.2.2.2.2.1)), .c (.f (.i .i64 b.1.2.1.2.2.2.2.2.1)), .c (.f (.i .i64 b.1.2.1.2.2.2.2.2.2.1)), .c (.f (.i .i64 b.1.2.1.2.2.2.2.2.2.2.1))]), .r (.agg [.c (.f (.i .i64 b.1.2.2.1.1)), .c (.f (.i .i64 b.1.2.2.1.2.1)), .c (.f (.i .i64 b.1.2.2.1.2.2.1)), .c (.f (.i .i64 b.1.2.2.1.2.2.2.1)), .c (.f (.i .i64 b.1.2.2.1.2.2.2.2.1)), .c (.f (.i .i64 b.1.2.2.1.2.2.2.2.2.1)), .c (.f (.i .i64 b.1.2.2.1.2.2.2.2.2.2.1)), .c (.f (.i .i64 b.1.2.2.1.2.2.2.2.2.2.2.1))])], [[.c (.f (.b b.2.1.1))]]) := fun b => by kernel_rfl
theorem e_downs_plus {f : (Int) → (Int) → (Int) → (Int) → (Int) → (Int) → (Int) → (Int) → (Int) → (Int) → (Int) → (Int) → (Int) → (Int) → (Int) → (Int) → (Bool) → Option (Int × Int × Int × Int × Int × Int × Int × Int × Bool)} {args : List AV} {h : List Blk} {r : Res} (hr : (F_downs_plus f args h).eval = some r) : ∃ x0 x1 x2 x3 x4 x5 x6 x7 x8 x9 x10 x11 x12 x13 x14 x15 x16, args = [.r (.c (.ptr 0 (.k 0) 1)), .r (.agg [.c (.f (.i .i64 x0)), .c (.f (.i .i64 x1)), .c (.f (.i .i64 x2)), .c (.f (.i .i64 x3)), .c (.f (.i .i64 x4)), .c (.f (.i .i64 x5)), .c (.f (.i .i64 x6)), .c (.f (.i .i64 x7))]), .r (.agg [.c (.f (.i .i64 x8)), .c (.f (.i .i64 x9)), .c (.f (.i .i64 x10)), .c (.f (.i .i64 x11)), .c (.f (.i .i64 x12)), .c (.f (.i .i64 x13)), .c (.f (.i .i64 x14)), .c (.f (.i .i64 x15))])] ∧ h = [[.c (.f (.b x16))]] ∧ (f x0 x1 x2 x3 x4 x5 x6 x7 x8 x9 x10 x11 x12 x13 x14 x15 x16).bind (fun (d : Int × Int × Int × Int × Int × Int × Int × Int × Bool) => some (Res.mk
    (AV.r
      (RV.agg
        [Sg.c (CV.f (FV.i IntKind.i64 d.fst)), Sg.c (CV.f (FV.i IntKind.i64 d.snd.fst)), Sg.c (CV.f (FV.i IntKind.i64 d.snd.snd.fst)), Sg.c (CV.f (FV.i IntKind.i64 d.snd.snd.snd.fst)),
          Sg.c (CV.f (FV.i IntKind.i64 d.snd.snd.snd.snd.fst)), Sg.c (CV.f (FV.i IntKind.i64 d.snd.snd.snd.snd.snd.fst)), Sg.c (CV.f (FV.i IntKind.i64 d.snd.snd.snd.snd.snd.snd.fst)),
          Sg.c (CV.f (FV.i IntKind.i64 d.snd.snd.snd.snd.snd.snd.snd.fst))]))
    [Ch.set [Sg.c (CV.f (FV.b d.snd.snd.snd.snd.snd.snd.snd.snd))]] [])) = some r := by
  unfold F_downs_plus at hr
  split at hr
  · rename_i b hb
    have e := ((QA_downs_plus).ok _ _ hb).trans (qa_downs_plus b)
    rw [opt_eval2] at hr
    exact ⟨b.1.2.1.1, b.1.2.1.2.1, b.1.2.1.2.2.1, b.1.2.1.2.2.2.1, b.1.2.1.2.2.2.2.1, b.1.2.1.2.2.2.2.2.1, b.1.2.1.2.2.2.2.2.2.1, b.1.2.1.2.2.2.2.2.2.2.1, b.1.2.2.1.1, b.1.2.2.1.2.1, b.1.2.2.1.2.2.1, b.1.2.2.1.2.2.2.1, b.1.2.2.1.2.2.2.2.1, b.1.2.2.1.2.2.2.2.2.1, b.1.2.2.1.2.2.2.2.2.2.1, b.1.2.2.1.2.2.2.2.2.2.2.1, b.2.1.1, (Prod.mk.inj e).1, (Prod.mk.inj e).2, hr⟩
  · cases hr
theorem n_downs_plus {σ : Type} (q : (Int × Int × Int × Int × Int × Int × Int × Int × Bool) → Option σ) (x0 : Int) (x1 : Int) (x2 : Int) (x3 : Int) (x4 : Int) (x5 : Int) (x6 : Int) (x7 : Int) (x8 : Int) (x9 : Int) (x10 : Int) (x11 : Int) (x12 : Int) (x13 : Int) (x14 : Int) (x15 : Int) (x16 : Bool) : (f_downs_plus x0 x1 x2 x3 x4 x5 x6 x7 x8 x9 x10 x11 x12 x13 x14 x15 x16).bind q = K_downs_plus f_vec_Add  x0 x1 x2 x3 x4 x5 x6 x7 x8 x9 x10 x11 x12 x13 x14 x15 x16 q := by
  unfold f_downs_plus
  exact m_downs_plus q f_vec_Add   x0 x1 x2 x3 x4 x5 x6 x7 x8 x9 x10 x11 x12 x13 x14 x15 x16 some
theorem s_downs_plus : Sound Try.prog 56 (F_downs_plus f_downs_plus) :=
  (inl_sound (l := [(66, F_vec_Add f_vec_Add)]) (.cons s_vec_Add (.nil _)) mixed [] [] 200 (by kernel_rfl)).by (F := F_downs_plus f_downs_plus) fun args b r hr => by
  obtain ⟨x0, x1, x2, x3, x4, x5, x6, x7, x8, x9, x10, x11, x12, x13, x14, x15, x16, rfl, rfl, hr1⟩ := e_downs_plus hr
  exact inl_eval ((d_downs_plus f_vec_Add  x0 x1 x2 x3 x4 x5 x6 x7 x8 x9 x10 x11 x12 x13 x14 x15 x16).trans ((n_downs_plus (fun (d : Int × Int × Int × Int × Int × Int × Int × Int × Bool) => some (Res.mk
    (AV.r
      (RV.agg
        [Sg.c (CV.f (FV.i IntKind.i64 d.fst)), Sg.c (CV.f (FV.i IntKind.i64 d.snd.fst)), Sg.c (CV.f (FV.i IntKind.i64 d.snd.snd.fst)), Sg.c (CV.f (FV.i IntKind.i64 d.snd.snd.snd.fst)),
          Sg.c (CV.f (FV.i IntKind.i64 d.snd.snd.snd.snd.fst)), Sg.c (CV.f (FV.i IntKind.i64 d.snd.snd.snd.snd.snd.fst)), Sg.c (CV.f (FV.i IntKind.i64 d.snd.snd.snd.snd.snd.snd.fst)),
          Sg.c (CV.f (FV.i IntKind.i64 d.snd.snd.snd.snd.snd.snd.snd.fst))]))
    [Ch.set [Sg.c (CV.f (FV.b d.snd.snd.snd.snd.snd.snd.snd.snd))]] [])) x0 x1 x2 x3 x4 x5 x6 x7 x8 x9 x10 x11 x12 x13 x14 x15 x16).symm.trans hr1))

def K_downs_New {ρ : Type}   (x0 : Int) (k : (Unit ⊕ Int) → Option ρ) : Option ρ :=
  bif decide (x0 < 1000) then k (Sum.inl ()) else bif decide (x0 > 100000) then k (Sum.inl ()) else k (Sum.inr x0)
def f_downs_New (x0 : Int) : Option (Unit ⊕ Int) := K_downs_New   x0 some
section
open Go.Ab.Rdr
def QA_downs_New := ((pair (cons (ar (rc (cf (fi .i64 hole)))) nil) nil) : Rdr (List AV × List Blk) _)
end
def F_downs_New (f : (Int) → Option (Unit ⊕ Int)) : Sem1 := fun args h => match (QA_downs_New).rd (args, h) with
  | some b => .opt (f b.1.1) fun d0 => T.sum d0 (fun (d : Unit) => .leaf (Res.mk (AV.tup [RV.c CV.nilp, RV.c (CV.f (FV.i IntKind.i64 1))]) [] [])) (fun (d : Int) => .leaf (Res.mk (AV.tup [RV.c (CV.ptr 0 (Off.k 0) 10), RV.c (CV.f (FV.i IntKind.i64 0))]) []
    [[Sg.c (CV.f (FV.i IntKind.i64 d)), Sg.c (CV.f (FV.i IntKind.i64 0)), Sg.c (CV.f (FV.i IntKind.i64 0)), Sg.c (CV.f (FV.i IntKind.i64 0)), Sg.c (CV.f (FV.i IntKind.i64 0)),
        Sg.c (CV.f (FV.i IntKind.i64 0)), Sg.c (CV.f (FV.i IntKind.i64 0)), Sg.c (CV.f (FV.i IntKind.i64 0)), Sg.c (CV.f (FV.i IntKind.i64 0)), Sg.c (CV.f (FV.b false))]]))
  | none => .fail
theorem d_downs_New   (x0 : Int) : den Try.prog (envOf []) ⟨[], [], []⟩ 200 31 [.r (.c (.f (.i .i64 x0)))] [] =
    K_downs_New   x0 ((Sum.elim (fun (d : Unit) => some (Res.mk (AV.tup [RV.c CV.nilp, RV.c (CV.f (FV.i IntKind.i64 1))]) [] [])) (fun (d : Int) => some (Res.mk (AV.tup [RV.c (CV.ptr 0 (Off.k 0) 10), RV.c (CV.f (FV.i IntKind.i64 0))]) []
    [[Sg.c (CV.f (FV.i IntKind.i64 d)), Sg.c (CV.f (FV.i IntKind.i64 0)), Sg.c (CV.f (FV.i IntKind.i64 0)), Sg.c (CV.f (FV.i IntKind.i64 0)), Sg.c (CV.f (FV.i IntKind.i64 0)),
        Sg.c (CV.f (FV.i IntKind.i64 0)), Sg.c (CV.f (FV.i IntKind.i64 0)), Sg.c (CV.f (FV.i IntKind.i64 0)), Sg.c (CV.f (FV.i IntKind.i64 0)), Sg.c (CV.f (FV.b false))]])))) := by kernel_rfl
theorem m_downs_New {ρ σ : Type} (q : ρ → Option σ)    (x0 : Int) (k : (Unit ⊕ Int) → Option ρ) : (K_downs_New   x0 k).bind q = K_downs_New   x0 (fun d => (k d).bind q) := by
  simp only [K_downs_New, bnd_cond, bnd_bind, bnd_none, bnd_sum]
theorem qa_downs_New : ∀ b, (QA_downs_New).em b = ([.r (.c (.f (.i .i64 b.1.1)))], []) := fun b => by kernel_rfl
theorem e_downs_New {f : (Int) → Option (Unit ⊕ Int)} {args : List AV} {h : List Blk} {r : Res} (hr : (F_downs_New f args h).eval = some r) : ∃ x0, args = [.r (.c (.f (.i .i64 x0)))] ∧ h = [] ∧ (f x0).bind ((Sum.elim (fun (d : Unit) => some (Res.mk (AV.tup [RV.c CV.nilp, RV.c (CV.f (FV.i IntKind.i64 1))]) [] [])) (fun (d : Int) => some (Res.mk (AV.tup [RV.c (CV.ptr 0 (Off.k 0) 10), RV.c (CV.f (FV.i IntKind.i64 0))]) []
    [[Sg.c (CV.f (FV.i IntKind.i64 d)), Sg.c (CV.f (FV.i IntKind.i64 0)), Sg.c (CV.f (FV.i IntKind.i64 0)), Sg.c (CV.f (FV.i IntKind.i64 0)), Sg.c (CV.f (FV.i IntKind.i64 0)),
        Sg.c (CV.f (FV.i IntKind.i64 0)), Sg.c (CV.f (FV.i IntKind.i64 0)), Sg.c (CV.f (FV.i IntKind.i64 0)), Sg.c (CV.f (FV.i IntKind.i64 0)), Sg.c (CV.f (FV.b false))]])))) = some r := by
  unfold F_downs_New at hr
  split at hr
  · rename_i b hb
    have e := ((QA_downs_New).ok _ _ hb).trans (qa_downs_New b)
    rw [opt_eval2] at hr
    simp only [sum_eval, leaf_eval] at hr
    exact ⟨b.1.1, (Prod.mk.inj e).1, (Prod.mk.inj e).2, hr⟩
  · cases hr
theorem n_downs_New {σ : Type} (q : (Unit ⊕ Int) → Option σ) (x0 : Int) : (f_downs_New x0).bind q = K_downs_New   x0 q := by
  unfold f_downs_New
  exact m_downs_New q    x0 some
theorem s_downs_New : Sound Try.prog 31 (F_downs_New f_downs_New) :=
  (inl_sound (l := []) (.nil _) mixed [] [] 200 (by kernel_rfl)).by (F := F_downs_New f_downs_New) fun args b r hr => by
  obtain ⟨x0, rfl, rfl, hr1⟩ := e_downs_New hr
  exact inl_eval ((d_downs_New   x0).trans ((n_downs_New ((Sum.elim (fun (d : Unit) => some (Res.mk (AV.tup [RV.c CV.nilp, RV.c (CV.f (FV.i IntKind.i64 1))]) [] [])) (fun (d : Int) => some (Res.mk (AV.tup [RV.c (CV.ptr 0 (Off.k 0) 10), RV.c (CV.f (FV.i IntKind.i64 0))]) []
    [[Sg.c (CV.f (FV.i IntKind.i64 d)), Sg.c (CV.f (FV.i IntKind.i64 0)), Sg.c (CV.f (FV.i IntKind.i64 0)), Sg.c (CV.f (FV.i IntKind.i64 0)), Sg.c (CV.f (FV.i IntKind.i64 0)),
        Sg.c (CV.f (FV.i IntKind.i64 0)), Sg.c (CV.f (FV.i IntKind.i64 0)), Sg.c (CV.f (FV.i IntKind.i64 0)), Sg.c (CV.f (FV.i IntKind.i64 0)), Sg.c (CV.f (FV.b false))]])))) x0).symm.trans hr1))

def S_downs_Good_0 {ρ : Type} (g_fx_Abs : Int → Option Int)  (x0 : Int) (x1 : Int) (x2 : Int) (x3 : Int) (x4 : Int) (x5 : Int) (x6 : Int) (x7 : Int) (x8 : Int) (c : (Int × Int × Int × Int × Int × Int × Int × Int × Int) → Option ρ) (x : (Int × Bool × Nat × Int × Int × Bool × Int × Int × Int × Int × Int × Int × Int × Int ⊕
  Int × Bool × Nat × Int × Int × Bool × Nat × Int × Int × Bool × Int × Int × Int × Int × Int × Int × Int × Int ⊕ Int × Bool × Int × Int × Int × Int × Int × Int × Int × Int) → Option ρ) : Option ρ :=
  bif decide (x0 < 3) then
    bif inR x0 3 then
      bif x0 == 2 then
        Option.bind (g_fx_Abs x5) fun (d : Int) =>
          bif decide (d > 34359738368) then x (Sum.inl (x0, decide (x0 < 3), 4, x5, d, decide (d > 34359738368), x1, x2, x3, x4, x5, x6, x7, x8))
          else
            bif inR x0 3 then
              bif x0 == 2 then
                Option.bind (g_fx_Abs x8) fun (d_1 : Int) =>
                  bif decide (d_1 > 34359738368) then
                    x (Sum.inr (Sum.inl (x0, decide (x0 < 3), 4, x5, d, decide (d > 34359738368), 7, x8, d_1, decide (d_1 > 34359738368), x1, x2, x3, x4, x5, x6, x7, x8)))
                  else c (IntKind.wrap IntKind.i64 (x0 + 1), x1, x2, x3, x4, x5, x6, x7, x8)
              else
                bif x0 == 1 then
                  Option.bind (g_fx_Abs x7) fun (d_1 : Int) =>
                    bif decide (d_1 > 34359738368) then
                      x (Sum.inr (Sum.inl (x0, decide (x0 < 3), 4, x5, d, decide (d > 34359738368), 6, x7, d_1, decide (d_1 > 34359738368), x1, x2, x3, x4, x5, x6, x7, x8)))
                    else c (IntKind.wrap IntKind.i64 (x0 + 1), x1, x2, x3, x4, x5, x6, x7, x8)
                else
                  Option.bind (g_fx_Abs x6) fun (d_1 : Int) =>
                    bif decide (d_1 > 34359738368) then
                      x (Sum.inr (Sum.inl (x0, decide (x0 < 3), 4, x5, d, decide (d > 34359738368), 5, x6, d_1, decide (d_1 > 34359738368), x1, x2, x3, x4, x5, x6, x7, x8)))
                    else c (IntKind.wrap IntKind.i64 (x0 + 1), x1, x2, x3, x4, x5, x6, x7, x8)
            else none
      else
        bif x0 == 1 then
          Option.bind (g_fx_Abs x4) fun (d : Int) =>
            bif decide (d > 34359738368) then x (Sum.inl (x0, decide (x0 < 3), 3, x4, d, decide (d > 34359738368), x1, x2, x3, x4, x5, x6, x7, x8))
            else
              bif inR x0 3 then
                bif x0 == 2 then
                  Option.bind (g_fx_Abs x8) fun (d_1 : Int) =>
                    bif decide (d_1 > 34359738368) then
                      x (Sum.inr (Sum.inl (x0, decide (x0 < 3), 3, x4, d, decide (d > 34359738368), 7, x8, d_1, decide (d_1 > 34359738368), x1, x2, x3, x4, x5, x6, x7, x8)))
                    else c (IntKind.wrap IntKind.i64 (x0 + 1), x1, x2, x3, x4, x5, x6, x7, x8)
                else
                  bif x0 == 1 then
                    Option.bind (g_fx_Abs x7) fun (d_1 : Int) =>
                      bif decide (d_1 > 34359738368) then
                        x (Sum.inr (Sum.inl (x0, decide (x0 < 3), 3, x4, d, decide (d > 34359738368), 6, x7, d_1, decide (d_1 > 34359738368), x1, x2, x3, x4, x5, x6, x7, x8)))
                      else c (IntKind.wrap IntKind.i64 (x0 + 1), x1, x2, x3, x4, x5, x6, x7, x8)
                  else
                    Option.bind (g_fx_Abs x6) fun (d_1 : Int) =>
                      bif decide (d_1 > 34359738368) then
                        x (Sum.inr (Sum.inl (x0, decide (x0 < 3), 3, x4, d, decide (d > 34359738368), 5, x6, d_1, decide (d_1 > 34359738368), x1, x2, x3, x4, x5, x6, x7, x8)))
                      else c (IntKind.wrap IntKind.i64 (x0 + 1), x1, x2, x3, x4, x5, x6, x7, x8)
              else none
        else
          Option.bind (g_fx_Abs x3) fun (d : Int) =>
            bif decide (d > 34359738368) then x (Sum.inl (x0, decide (x0 < 3), 2, x3, d, decide (d > 34359738368), x1, x2, x3, x4, x5, x6, x7, x8))
            else
              bif inR x0 3 then
                bif x0 == 2 then
                  Option.bind (g_fx_Abs x8) fun (d_1 : Int) =>
                    bif decide (d_1 > 34359738368) then
                      x (Sum.inr (Sum.inl (x0, decide (x0 < 3), 2, x3, d, decide (d > 34359738368), 7, x8, d_1, decide (d_1 > 34359738368), x1, x2, x3, x4, x5, x6, x7, x8)))
                    else c (IntKind.wrap IntKind.i64 (x0 + 1), x1, x2, x3, x4, x5, x6, x7, x8)
                else
                  bif x0 == 1 then
                    Option.bind (g_fx_Abs x7) fun (d_1 : Int) =>
                      bif decide (d_1 > 34359738368) then
                        x (Sum.inr (Sum.inl (x0, decide (x0 < 3), 2, x3, d, decide (d > 34359738368), 6, x7, d_1, decide (d_1 > 34359738368), x1, x2, x3, x4, x5, x6, x7, x8)))
                      else c (IntKind.wrap IntKind.i64 (x0 + 1), x1, x2, x3, x4, x5, x6, x7, x8)
                  else
                    Option.bind (g_fx_Abs x6) fun (d_1 : Int) =>
                      bif decide (d_1 > 34359738368) then
                        x (Sum.inr (Sum.inl (x0, decide (x0 < 3), 2, x3, d, decide (d > 34359738368), 5, x6, d_1, decide (d_1 > 34359738368), x1, x2, x3, x4, x5, x6, x7, x8)))
                      else c (IntKind.wrap IntKind.i64 (x0 + 1), x1, x2, x3, x4, x5, x6, x7, x8)
              else none
    else none
  else x (Sum.inr (Sum.inr (x0, decide (x0 < 3), x1, x2, x3, x4, x5, x6, x7, x8)))
section
open Go.Ab.Rdr
def Q_downs_Good_0 := (st (cons aund (cons (ar (rc (cptr (nat 0) (ok' (nat 0)) (nat 8)))) (cons aund (cons aund (cons (ar (rc (cf (fi .i64 hole)))) (cons aund (cons aund (cons aund (cons aund (cons aund (cons aund (cons aund (cons aund (cons aund (cons aund (cons aund (cons aund (cons aund (cons aund (cons aund (cons aund (cons aund (cons aund (cons aund (cons aund (cons aund (cons (atup nil) (cons (atup nil) (cons (atup nil) (cons aund (cons aund (cons (atup nil) (cons (atup nil) (cons (atup nil) (cons aund (cons aund (cons (atup nil) (cons (atup nil) (cons (atup nil) (cons aund nil)))))))))))))))))))))))))))))))))))))))) (cons (some' (cons (gc (cf (fi .i64 hole))) (cons (gc (cf (fi .i64 hole))) (cons (gc (cf (fi .i64 hole))) (cons (gc (cf (fi .i64 hole))) (cons (gc (cf (fi .i64 hole))) (cons (gc (cf (fi .i64 hole))) (cons (gc (cf (fi .i64 hole))) (cons (gc (cf (fi .i64 hole))) nil))))))))) nil) nil)
end
theorem q_downs_Good_0 : ∀ b, (Q_downs_Good_0).em b = St.mk
    [AV.und, AV.r (RV.c (CV.ptr 0 (Off.k 0) 8)), AV.und, AV.und, AV.r (RV.c (CV.f (FV.i IntKind.i64 b.1.2.2.2.2.1))), AV.und, AV.und, AV.und, AV.und, AV.und, AV.und, AV.und, AV.und, AV.und, AV.und, AV.und, AV.und,
      AV.und, AV.und, AV.und, AV.und, AV.und, AV.und, AV.und, AV.und, AV.und, AV.tup [], AV.tup [], AV.tup [], AV.und, AV.und, AV.tup [], AV.tup [], AV.tup [], AV.und, AV.und, AV.tup [], AV.tup [],
      AV.tup [], AV.und]
    [some
        [Sg.c (CV.f (FV.i IntKind.i64 b.2.1.1.1)), Sg.c (CV.f (FV.i IntKind.i64 b.2.1.1.2.1)), Sg.c (CV.f (FV.i IntKind.i64 b.2.1.1.2.2.1)), Sg.c (CV.f (FV.i IntKind.i64 b.2.1.1.2.2.2.1)), Sg.c (CV.f (FV.i IntKind.i64 b.2.1.1.2.2.2.2.1)),
          Sg.c (CV.f (FV.i IntKind.i64 b.2.1.1.2.2.2.2.2.1)), Sg.c (CV.f (FV.i IntKind.i64 b.2.1.1.2.2.2.2.2.2.1)), Sg.c (CV.f (FV.i IntKind.i64 b.2.1.1.2.2.2.2.2.2.2.1))]]
    [] := fun b => by kernel_rfl
def R_downs_Good_0 (l : ∀ {ρ : Type}, (Int × Int × Int × Int × Int × Int × Int × Int × Int) → ((Int × Bool × Nat × Int × Int × Bool × Int × Int × Int × Int × Int × Int × Int × Int ⊕
  Int × Bool × Nat × Int × Int × Bool × Nat × Int × Int × Bool × Int × Int × Int × Int × Int × Int × Int × Int ⊕ Int × Bool × Int × Int × Int × Int × Int × Int × Int × Int) → Option ρ) → Option ρ) {ρ : Type} (s : St) (K : AX → St → Option ρ) : Option ρ := ((Q_downs_Good_0).rd s).bind fun b => l (b.1.2.2.2.2.1, b.2.1.1.1, b.2.1.1.2.1, b.2.1.1.2.2.1, b.2.1.1.2.2.2.1, b.2.1.1.2.2.2.2.1, b.2.1.1.2.2.2.2.2.1, b.2.1.1.2.2.2.2.2.2.1, b.2.1.1.2.2.2.2.2.2.2.1) (Sum.elim (fun d => K (AX.ret) (St.mk
  [AV.und, AV.r (RV.c (CV.ptr 0 (Off.k 0) 8)), AV.r (RV.c (CV.f (FV.b false))), AV.r (RV.c (CV.f (FV.i IntKind.i64 d.fst))), AV.r (RV.c (CV.f (FV.i IntKind.i64 d.fst))),
    AV.r (RV.c (CV.f (FV.b d.snd.fst))), AV.r (RV.c (CV.f (FV.i IntKind.i64 d.fst))), AV.r (RV.c (CV.f (FV.i IntKind.i64 d.fst))), AV.r (RV.c (CV.ptr 0 (Off.k 2) 3)),
    AV.r (RV.c (CV.ptr 0 (Off.k d.snd.snd.fst) 1)), AV.r (RV.c (CV.f (FV.i IntKind.i64 d.snd.snd.snd.fst))), AV.r (RV.c (CV.f (FV.i IntKind.i64 d.snd.snd.snd.snd.fst))),
    AV.r (RV.c (CV.f (FV.b d.snd.snd.snd.snd.snd.fst))), AV.r (RV.c (CV.f (FV.b true))), AV.tup [], AV.tup [], AV.tup [], AV.tup [], AV.tup [], AV.tup [], AV.r (RV.c (CV.f (FV.b true))), AV.und,
    AV.und, AV.und, AV.und, AV.und, AV.tup [], AV.tup [], AV.tup [], AV.und, AV.und, AV.tup [], AV.tup [], AV.tup [], AV.und, AV.und, AV.tup [], AV.tup [], AV.tup [], AV.und]
  [some
      [Sg.c (CV.f (FV.i IntKind.i64 d.snd.snd.snd.snd.snd.snd.fst)), Sg.c (CV.f (FV.i IntKind.i64 d.snd.snd.snd.snd.snd.snd.snd.fst)),
        Sg.c (CV.f (FV.i IntKind.i64 d.snd.snd.snd.snd.snd.snd.snd.snd.fst)), Sg.c (CV.f (FV.i IntKind.i64 d.snd.snd.snd.snd.snd.snd.snd.snd.snd.fst)),
        Sg.c (CV.f (FV.i IntKind.i64 d.snd.snd.snd.snd.snd.snd.snd.snd.snd.snd.fst)), Sg.c (CV.f (FV.i IntKind.i64 d.snd.snd.snd.snd.snd.snd.snd.snd.snd.snd.snd.fst)),
        Sg.c (CV.f (FV.i IntKind.i64 d.snd.snd.snd.snd.snd.snd.snd.snd.snd.snd.snd.snd.fst)), Sg.c (CV.f (FV.i IntKind.i64 d.snd.snd.snd.snd.snd.snd.snd.snd.snd.snd.snd.snd.snd))]]
  [])) (Sum.elim (fun d => K (AX.ret) (St.mk
  [AV.und, AV.r (RV.c (CV.ptr 0 (Off.k 0) 8)), AV.r (RV.c (CV.f (FV.b false))), AV.r (RV.c (CV.f (FV.i IntKind.i64 d.fst))), AV.r (RV.c (CV.f (FV.i IntKind.i64 d.fst))),
    AV.r (RV.c (CV.f (FV.b d.snd.fst))), AV.r (RV.c (CV.f (FV.i IntKind.i64 d.fst))), AV.r (RV.c (CV.f (FV.i IntKind.i64 d.fst))), AV.r (RV.c (CV.ptr 0 (Off.k 2) 3)),
    AV.r (RV.c (CV.ptr 0 (Off.k d.snd.snd.fst) 1)), AV.r (RV.c (CV.f (FV.i IntKind.i64 d.snd.snd.snd.fst))), AV.r (RV.c (CV.f (FV.i IntKind.i64 d.snd.snd.snd.snd.fst))),
    AV.r (RV.c (CV.f (FV.b d.snd.snd.snd.snd.snd.fst))), AV.r (RV.c (CV.f (FV.b false))), AV.r (RV.c (CV.f (FV.i IntKind.i64 d.fst))), AV.r (RV.c (CV.ptr 0 (Off.k 5) 3)),
    AV.r (RV.c (CV.ptr 0 (Off.k d.snd.snd.snd.snd.snd.snd.fst) 1)), AV.r (RV.c (CV.f (FV.i IntKind.i64 d.snd.snd.snd.snd.snd.snd.snd.fst))),
    AV.r (RV.c (CV.f (FV.i IntKind.i64 d.snd.snd.snd.snd.snd.snd.snd.snd.fst))), AV.r (RV.c (CV.f (FV.b d.snd.snd.snd.snd.snd.snd.snd.snd.snd.fst))),
    AV.r (RV.c (CV.f (FV.b d.snd.snd.snd.snd.snd.snd.snd.snd.snd.fst))), AV.und, AV.und, AV.und, AV.und, AV.und, AV.tup [], AV.tup [], AV.tup [], AV.und, AV.und, AV.tup [], AV.tup [], AV.tup [],
    AV.und, AV.und, AV.tup [], AV.tup [], AV.tup [], AV.und]
  [some
      [Sg.c (CV.f (FV.i IntKind.i64 d.snd.snd.snd.snd.snd.snd.snd.snd.snd.snd.fst)), Sg.c (CV.f (FV.i IntKind.i64 d.snd.snd.snd.snd.snd.snd.snd.snd.snd.snd.snd.fst)),
        Sg.c (CV.f (FV.i IntKind.i64 d.snd.snd.snd.snd.snd.snd.snd.snd.snd.snd.snd.snd.fst)), Sg.c (CV.f (FV.i IntKind.i64 d.snd.snd.snd.snd.snd.snd.snd.snd.snd.snd.snd.snd.snd.fst)),
        Sg.c (CV.f (FV.i IntKind.i64 d.snd.snd.snd.snd.snd.snd.snd.snd.snd.snd.snd.snd.snd.snd.fst)), Sg.c (CV.f (FV.i IntKind.i64 d.snd.snd.snd.snd.snd.snd.snd.snd.snd.snd.snd.snd.snd.snd.snd.fst)),
        Sg.c (CV.f (FV.i IntKind.i64 d.snd.snd.snd.snd.snd.snd.snd.snd.snd.snd.snd.snd.snd.snd.snd.snd.fst)),
        Sg.c (CV.f (FV.i IntKind.i64 d.snd.snd.snd.snd.snd.snd.snd.snd.snd.snd.snd.snd.snd.snd.snd.snd.snd))]]
  [])) (fun d => K (AX.ex 0) (St.mk
  [AV.und, AV.r (RV.c (CV.ptr 0 (Off.k 0) 8)), AV.und, AV.und, AV.r (RV.c (CV.f (FV.i IntKind.i64 d.fst))), AV.r (RV.c (CV.f (FV.b d.snd.fst))), AV.und, AV.und, AV.und, AV.und, AV.und, AV.und, AV.und,
    AV.und, AV.und, AV.und, AV.und, AV.und, AV.und, AV.und, AV.und, AV.und, AV.und, AV.und, AV.und, AV.und, AV.tup [], AV.tup [], AV.tup [], AV.und, AV.und, AV.tup [], AV.tup [], AV.tup [], AV.und,
    AV.und, AV.tup [], AV.tup [], AV.tup [], AV.und]
  [some
      [Sg.c (CV.f (FV.i IntKind.i64 d.snd.snd.fst)), Sg.c (CV.f (FV.i IntKind.i64 d.snd.snd.snd.fst)), Sg.c (CV.f (FV.i IntKind.i64 d.snd.snd.snd.snd.fst)),
        Sg.c (CV.f (FV.i IntKind.i64 d.snd.snd.snd.snd.snd.fst)), Sg.c (CV.f (FV.i IntKind.i64 d.snd.snd.snd.snd.snd.snd.fst)), Sg.c (CV.f (FV.i IntKind.i64 d.snd.snd.snd.snd.snd.snd.snd.fst)),
        Sg.c (CV.f (FV.i IntKind.i64 d.snd.snd.snd.snd.snd.snd.snd.snd.fst)), Sg.c (CV.f (FV.i IntKind.i64 d.snd.snd.snd.snd.snd.snd.snd.snd.snd))]]
  []))))
theorem ms_downs_Good_0 {ρ σ : Type} (g_fx_Abs : Int → Option Int)   (q : ρ → Option σ) (x0 : Int) (x1 : Int) (x2 : Int) (x3 : Int) (x4 : Int) (x5 : Int) (x6 : Int) (x7 : Int) (x8 : Int) (c : (Int × Int × Int × Int × Int × Int × Int × Int × Int) → Option ρ) (x : (Int × Bool × Nat × Int × Int × Bool × Int × Int × Int × Int × Int × Int × Int × Int ⊕
  Int × Bool × Nat × Int × Int × Bool × Nat × Int × Int × Bool × Int × Int × Int × Int × Int × Int × Int × Int ⊕ Int × Bool × Int × Int × Int × Int × Int × Int × Int × Int) → Option ρ) : (S_downs_Good_0 g_fx_Abs  x0 x1 x2 x3 x4 x5 x6 x7 x8 c x).bind q = S_downs_Good_0 g_fx_Abs  x0 x1 x2 x3 x4 x5 x6 x7 x8 (fun d => (c d).bind q) (fun d => (x d).bind q) := by
  simp only [S_downs_Good_0, bnd_cond, bnd_bind, bnd_none, bnd_sum]
def L_downs_Good_0 {ρ : Type} (d : Int × Int × Int × Int × Int × Int × Int × Int × Int) (k : (Int × Bool × Nat × Int × Int × Bool × Int × Int × Int × Int × Int × Int × Int × Int ⊕
  Int × Bool × Nat × Int × Int × Bool × Nat × Int × Int × Bool × Int × Int × Int × Int × Int × Int × Int × Int ⊕ Int × Bool × Int × Int × Int × Int × Int × Int × Int × Int) → Option ρ) : Option ρ := loopK (fun d c x => S_downs_Good_0 f_fx_Abs  d.1 d.2.1 d.2.2.1 d.2.2.2.1 d.2.2.2.2.1 d.2.2.2.2.2.1 d.2.2.2.2.2.2.1 d.2.2.2.2.2.2.2.1 d.2.2.2.2.2.2.2.2 c x) 200 d k
theorem mL_downs_Good_0 {ρ σ : Type} (q : ρ → Option σ) (d : Int × Int × Int × Int × Int × Int × Int × Int × Int) (k : (Int × Bool × Nat × Int × Int × Bool × Int × Int × Int × Int × Int × Int × Int × Int ⊕
  Int × Bool × Nat × Int × Int × Bool × Nat × Int × Int × Bool × Int × Int × Int × Int × Int × Int × Int × Int ⊕ Int × Bool × Int × Int × Int × Int × Int × Int × Int × Int) → Option ρ) : (L_downs_Good_0 d k).bind q = L_downs_Good_0 d fun x => (k x).bind q :=
  loopK_bind q (fun d c x => ms_downs_Good_0 f_fx_Abs   q d.1 d.2.1 d.2.2.1 d.2.2.2.1 d.2.2.2.2.1 d.2.2.2.2.2.1 d.2.2.2.2.2.2.1 d.2.2.2.2.2.2.2.1 d.2.2.2.2.2.2.2.2 c x) k _ d
theorem ds_downs_Good_0 {ρ : Type} (g_fx_Abs : Int → Option Int) (l_0 : ∀ {ρ : Type}, (Int × Int × Int × Int × Int × Int × Int × Int × Int) → ((Int × Bool × Nat × Int × Int × Bool × Int × Int × Int × Int × Int × Int × Int × Int ⊕
  Int × Bool × Nat × Int × Int × Bool × Nat × Int × Int × Bool × Int × Int × Int × Int × Int × Int × Int × Int ⊕ Int × Bool × Int × Int × Int × Int × Int × Int × Int × Int) → Option ρ) → Option ρ) (x0 : Int) (x1 : Int) (x2 : Int) (x3 : Int) (x4 : Int) (x5 : Int) (x6 : Int) (x7 : Int) (x8 : Int) (c : St → Option ρ) (K : AX → St → Option ρ) :
    runC Try.prog (envOf [(53, F_fx_Abs g_fx_Abs)]) ⟨[⟨2, [0, 2, 5, 6, 7, 9, 10, 11, 12, 20, 21, 22, 23, 24, 25, 29, 30, 34, 35, 39, 3, 8, 13, 14, 15, 16, 17, 18, 19], []⟩], [⟨2, 0, @R_downs_Good_0 (@l_0)⟩], []⟩ (tmpsOf Try.prog 34) 0 200 (loopIn Try.prog 34 2)
      (St.mk
    [AV.und, AV.r (RV.c (CV.ptr 0 (Off.k 0) 8)), AV.und, AV.und, AV.r (RV.c (CV.f (FV.i IntKind.i64 x0))), AV.und, AV.und, AV.und, AV.und, AV.und, AV.und, AV.und, AV.und, AV.und, AV.und, AV.und, AV.und,
      AV.und, AV.und, AV.und, AV.und, AV.und, AV.und, AV.und, AV.und, AV.und, AV.tup [], AV.tup [], AV.tup [], AV.und, AV.und, AV.tup [], AV.tup [], AV.tup [], AV.und, AV.und, AV.tup [], AV.tup [],
      AV.tup [], AV.und]
    [some
        [Sg.c (CV.f (FV.i IntKind.i64 x1)), Sg.c (CV.f (FV.i IntKind.i64 x2)), Sg.c (CV.f (FV.i IntKind.i64 x3)), Sg.c (CV.f (FV.i IntKind.i64 x4)), Sg.c (CV.f (FV.i IntKind.i64 x5)),
          Sg.c (CV.f (FV.i IntKind.i64 x6)), Sg.c (CV.f (FV.i IntKind.i64 x7)), Sg.c (CV.f (FV.i IntKind.i64 x8))]]
    [])
      (next (fun t => t.head 0 ⟨[⟨2, [0, 2, 5, 6, 7, 9, 10, 11, 12, 20, 21, 22, 23, 24, 25, 29, 30, 34, 35, 39, 3, 8, 13, 14, 15, 16, 17, 18, 19], []⟩], [⟨2, 0, @R_downs_Good_0 (@l_0)⟩], []⟩ (loopIn Try.prog 34 2)) c K) =
    S_downs_Good_0 g_fx_Abs  x0 x1 x2 x3 x4 x5 x6 x7 x8 (fun d => c (St.mk
  [AV.und, AV.r (RV.c (CV.ptr 0 (Off.k 0) 8)), AV.und, AV.und, AV.r (RV.c (CV.f (FV.i IntKind.i64 d.fst))), AV.und, AV.und, AV.und, AV.und, AV.und, AV.und, AV.und, AV.und, AV.und, AV.und, AV.und,
    AV.und, AV.und, AV.und, AV.und, AV.und, AV.und, AV.und, AV.und, AV.und, AV.und, AV.tup [], AV.tup [], AV.tup [], AV.und, AV.und, AV.tup [], AV.tup [], AV.tup [], AV.und, AV.und, AV.tup [],
    AV.tup [], AV.tup [], AV.und]
  [some
      [Sg.c (CV.f (FV.i IntKind.i64 d.snd.fst)), Sg.c (CV.f (FV.i IntKind.i64 d.snd.snd.fst)), Sg.c (CV.f (FV.i IntKind.i64 d.snd.snd.snd.fst)), Sg.c (CV.f (FV.i IntKind.i64 d.snd.snd.snd.snd.fst)),
        Sg.c (CV.f (FV.i IntKind.i64 d.snd.snd.snd.snd.snd.fst)), Sg.c (CV.f (FV.i IntKind.i64 d.snd.snd.snd.snd.snd.snd.fst)), Sg.c (CV.f (FV.i IntKind.i64 d.snd.snd.snd.snd.snd.snd.snd.fst)),
        Sg.c (CV.f (FV.i IntKind.i64 d.snd.snd.snd.snd.snd.snd.snd.snd))]]
  [])) (Sum.elim (fun d => K (AX.ret) (St.mk
  [AV.und, AV.r (RV.c (CV.ptr 0 (Off.k 0) 8)), AV.r (RV.c (CV.f (FV.b false))), AV.r (RV.c (CV.f (FV.i IntKind.i64 d.fst))), AV.r (RV.c (CV.f (FV.i IntKind.i64 d.fst))),
    AV.r (RV.c (CV.f (FV.b d.snd.fst))), AV.r (RV.c (CV.f (FV.i IntKind.i64 d.fst))), AV.r (RV.c (CV.f (FV.i IntKind.i64 d.fst))), AV.r (RV.c (CV.ptr 0 (Off.k 2) 3)),
    AV.r (RV.c (CV.ptr 0 (Off.k d.snd.snd.fst) 1)), AV.r (RV.c (CV.f (FV.i IntKind.i64 d.snd.snd.snd.fst))), AV.r (RV.c (CV.f (FV.i IntKind.i64 d.snd.snd.snd.snd.fst))),
    AV.r (RV.c (CV.f (FV.b d.snd.snd.snd.snd.snd.fst))), AV.r (RV.c (CV.f (FV.b true))), AV.tup [], AV.tup [], AV.tup [], AV.tup [], AV.tup [], AV.tup [], AV.r (RV.c (CV.f (FV.b true))), AV.und,
    AV.und, AV.und, AV.und, AV.und, AV.tup [], AV.tup [], AV.tup [], AV.und, AV.und, AV.tup [], AV.tup [], AV.tup [], AV.und, AV.und, AV.tup [], AV.tup [], AV.tup [], AV.und]
  [some
      [Sg.c (CV.f (FV.i IntKind.i64 d.snd.snd.snd.snd.snd.snd.fst)), Sg.c (CV.f (FV.i IntKind.i64 d.snd.snd.snd.snd.snd.snd.snd.fst)),
        Sg.c (CV.f (FV.i IntKind.i64 d.snd.snd.snd.snd.snd.snd.snd.snd.fst)), Sg.c (CV.f (FV.i IntKind.i64 d.snd.snd.snd.snd.snd.snd.snd.snd.snd.fst)),
        Sg.c (CV.f (FV.i IntKind.i64 d.snd.snd.snd.snd.snd.snd.snd.snd.snd.snd.fst)), Sg.c (CV.f (FV.i IntKind.i64 d.snd.snd.snd.snd.snd.snd.snd.snd.snd.snd.snd.fst)),
        Sg.c (CV.f (FV.i IntKind.i64 d.snd.snd.snd.snd.snd.snd.snd.snd.snd.snd.snd.snd.fst)), Sg.c (CV.f (FV.i IntKind.i64 d.snd.snd.snd.snd.snd.snd.snd.snd.snd.snd.snd.snd.snd))]]
  [])) (Sum.elim (fun d => K (AX.ret) (St.mk
  [AV.und, AV.r (RV.c (CV.ptr 0 (Off.k 0) 8)), AV.r (RV.c (CV.f (FV.b false))), AV.r (RV.c (CV.f (FV.i IntKind.i64 d.fst))), AV.r (RV.c (CV.f (FV.i IntKind.i64 d.fst))),
    AV.r (RV.c (CV.f (FV.b d.snd.fst))), AV.r (RV.c (CV.f (FV.i IntKind.i64 d.fst))), AV.r (RV.c (CV.f (FV.i IntKind.i64 d.fst))), AV.r (RV.c (CV.ptr 0 (Off.k 2) 3)),
    AV.r (RV.c (CV.ptr 0 (Off.k d.snd.snd.fst) 1)), AV.r (RV.c (CV.f (FV.i IntKind.i64 d.snd.snd.snd.fst))), AV.r (RV.c (CV.f (FV.i IntKind.i64 d.snd.snd.snd.snd.fst))),
    AV.r (RV.c (CV.f (FV.b d.snd.snd.snd.snd.snd.fst))), AV.r (RV.c (CV.f (FV.b false))), AV.r (RV.c (CV.f (FV.i IntKind.i64 d.fst))), AV.r (RV.c (CV.ptr 0 (Off.k 5) 3)),
    AV.r (RV.c (CV.ptr 0 (Off.k d.snd.snd.snd.snd.snd.snd.fst) 1)), AV.r (RV.c (CV.f (FV.i IntKind.i64 d.snd.snd.snd.snd.snd.snd.snd.fst))),
    AV.r (RV.c (CV.f (FV.i IntKind.i64 d.snd.snd.snd.snd.snd.snd.snd.snd.fst))), AV.r (RV.c (CV.f (FV.b d.snd.snd.snd.snd.snd.snd.snd.snd.snd.fst))),
    AV.r (RV.c (CV.f (FV.b d.snd.snd.snd.snd.snd.snd.snd.snd.snd.fst))), AV.und, AV.und, AV.und, AV.und, AV.und, AV.tup [], AV.tup [], AV.tup [], AV.und, AV.und, AV.tup [], AV.tup [], AV.tup [],
    AV.und, AV.und, AV.tup [], AV.tup [], AV.tup [], AV.und]
  [some
      [Sg.c (CV.f (FV.i IntKind.i64 d.snd.snd.snd.snd.snd.snd.snd.snd.snd.snd.fst)), Sg.c (CV.f (FV.i IntKind.i64 d.snd.snd.snd.snd.snd.snd.snd.snd.snd.snd.snd.fst)),
        Sg.c (CV.f (FV.i IntKind.i64 d.snd.snd.snd.snd.snd.snd.snd.snd.snd.snd.snd.snd.fst)), Sg.c (CV.f (FV.i IntKind.i64 d.snd.snd.snd.snd.snd.snd.snd.snd.snd.snd.snd.snd.snd.fst)),
        Sg.c (CV.f (FV.i IntKind.i64 d.snd.snd.snd.snd.snd.snd.snd.snd.snd.snd.snd.snd.snd.snd.fst)), Sg.c (CV.f (FV.i IntKind.i64 d.snd.snd.snd.snd.snd.snd.snd.snd.snd.snd.snd.snd.snd.snd.snd.fst)),
        Sg.c (CV.f (FV.i IntKind.i64 d.snd.snd.snd.snd.snd.snd.snd.snd.snd.snd.snd.snd.snd.snd.snd.snd.fst)),
        Sg.c (CV.f (FV.i IntKind.i64 d.snd.snd.snd.snd.snd.snd.snd.snd.snd.snd.snd.snd.snd.snd.snd.snd.snd))]]
  [])) (fun d => K (AX.ex 0) (St.mk
  [AV.und, AV.r (RV.c (CV.ptr 0 (Off.k 0) 8)), AV.und, AV.und, AV.r (RV.c (CV.f (FV.i IntKind.i64 d.fst))), AV.r (RV.c (CV.f (FV.b d.snd.fst))), AV.und, AV.und, AV.und, AV.und, AV.und, AV.und, AV.und,
    AV.und, AV.und, AV.und, AV.und, AV.und, AV.und, AV.und, AV.und, AV.und, AV.und, AV.und, AV.und, AV.und, AV.tup [], AV.tup [], AV.tup [], AV.und, AV.und, AV.tup [], AV.tup [], AV.tup [], AV.und,
    AV.und, AV.tup [], AV.tup [], AV.tup [], AV.und]
  [some
      [Sg.c (CV.f (FV.i IntKind.i64 d.snd.snd.fst)), Sg.c (CV.f (FV.i IntKind.i64 d.snd.snd.snd.fst)), Sg.c (CV.f (FV.i IntKind.i64 d.snd.snd.snd.snd.fst)),
        Sg.c (CV.f (FV.i IntKind.i64 d.snd.snd.snd.snd.snd.fst)), Sg.c (CV.f (FV.i IntKind.i64 d.snd.snd.snd.snd.snd.snd.fst)), Sg.c (CV.f (FV.i IntKind.i64 d.snd.snd.snd.snd.snd.snd.snd.fst)),
        Sg.c (CV.f (FV.i IntKind.i64 d.snd.snd.snd.snd.snd.snd.snd.snd.fst)), Sg.c (CV.f (FV.i IntKind.i64 d.snd.snd.snd.snd.snd.snd.snd.snd.snd))]]
  [])))) := by kernel_rfl
theorem it_downs_Good_0 {ρ : Type} (x0 : Int) (x1 : Int) (x2 : Int) (x3 : Int) (x4 : Int) (x5 : Int) (x6 : Int) (x7 : Int) (x8 : Int) (K : AX → St → Option ρ) :
    iter (fun t => t.head 0 ⟨[⟨2, [0, 2, 5, 6, 7, 9, 10, 11, 12, 20, 21, 22, 23, 24, 25, 29, 30, 34, 35, 39, 3, 8, 13, 14, 15, 16, 17, 18, 19], []⟩], [⟨2, 0, @R_downs_Good_0 (@L_downs_Good_0)⟩], []⟩ (loopIn Try.prog 34 2)) (runC Try.prog (envOf [(53, F_fx_Abs f_fx_Abs)]) ⟨[⟨2, [0, 2, 5, 6, 7, 9, 10, 11, 12, 20, 21, 22, 23, 24, 25, 29, 30, 34, 35, 39, 3, 8, 13, 14, 15, 16, 17, 18, 19], []⟩], [⟨2, 0, @R_downs_Good_0 (@L_downs_Good_0)⟩], []⟩ (tmpsOf Try.prog 34) 0 200 (loopIn Try.prog 34 2)) K 200
      (St.mk
    [AV.und, AV.r (RV.c (CV.ptr 0 (Off.k 0) 8)), AV.und, AV.und, AV.r (RV.c (CV.f (FV.i IntKind.i64 x0))), AV.und, AV.und, AV.und, AV.und, AV.und, AV.und, AV.und, AV.und, AV.und, AV.und, AV.und, AV.und,
      AV.und, AV.und, AV.und, AV.und, AV.und, AV.und, AV.und, AV.und, AV.und, AV.tup [], AV.tup [], AV.tup [], AV.und, AV.und, AV.tup [], AV.tup [], AV.tup [], AV.und, AV.und, AV.tup [], AV.tup [],
      AV.tup [], AV.und]
    [some
        [Sg.c (CV.f (FV.i IntKind.i64 x1)), Sg.c (CV.f (FV.i IntKind.i64 x2)), Sg.c (CV.f (FV.i IntKind.i64 x3)), Sg.c (CV.f (FV.i IntKind.i64 x4)), Sg.c (CV.f (FV.i IntKind.i64 x5)),
          Sg.c (CV.f (FV.i IntKind.i64 x6)), Sg.c (CV.f (FV.i IntKind.i64 x7)), Sg.c (CV.f (FV.i IntKind.i64 x8))]]
    []) = L_downs_Good_0 (x0, x1, x2, x3, x4, x5, x6, x7, x8) (Sum.elim (fun d => K (AX.ret) (St.mk
  [AV.und, AV.r (RV.c (CV.ptr 0 (Off.k 0) 8)), AV.r (RV.c (CV.f (FV.b false))), AV.r (RV.c (CV.f (FV.i IntKind.i64 d.fst))), AV.r (RV.c (CV.f (FV.i IntKind.i64 d.fst))),
    AV.r (RV.c (CV.f (FV.b d.snd.fst))), AV.r (RV.c (CV.f (FV.i IntKind.i64 d.fst))), AV.r (RV.c (CV.f (FV.i IntKind.i64 d.fst))), AV.r (RV.c (CV.ptr 0 (Off.k 2) 3)),
    AV.r (RV.c (CV.ptr 0 (Off.k d.snd.snd.fst) 1)), AV.r (RV.c (CV.f (FV.i IntKind.i64 d.snd.snd.snd.fst))), AV.r (RV.c (CV.f (FV.i IntKind.i64 d.snd.snd.snd.snd.fst))),
    AV.r (RV.c (CV.f (FV.b d.snd.snd.snd.snd.snd.fst))), AV.r (RV.c (CV.f (FV.b true))), AV.tup [], AV.tup [], AV.tup [], AV.tup [], AV.tup [], AV.tup [], AV.r (RV.c (CV.f (FV.b true))), AV.und,
    AV.und, AV.und, AV.und, AV.und, AV.tup [], AV.tup [], AV.tup [], AV.und, AV.und, AV.tup [], AV.tup [], AV.tup [], AV.und, AV.und, AV.tup [], AV.tup [], AV.tup [], AV.und]
  [some
      [Sg.c (CV.f (FV.i IntKind.i64 d.snd.snd.snd.snd.snd.snd.fst)), Sg.c (CV.f (FV.i IntKind.i64 d.snd.snd.snd.snd.snd.snd.snd.fst)),
        Sg.c (CV.f (FV.i IntKind.i64 d.snd.snd.snd.snd.snd.snd.snd.snd.fst)), Sg.c (CV.f (FV.i IntKind.i64 d.snd.snd.snd.snd.snd.snd.snd.snd.snd.fst)),
        Sg.c (CV.f (FV.i IntKind.i64 d.snd.snd.snd.snd.snd.snd.snd.snd.snd.snd.fst)), Sg.c (CV.f (FV.i IntKind.i64 d.snd.snd.snd.snd.snd.snd.snd.snd.snd.snd.snd.fst)),
        Sg.c (CV.f (FV.i IntKind.i64 d.snd.snd.snd.snd.snd.snd.snd.snd.snd.snd.snd.snd.fst)), Sg.c (CV.f (FV.i IntKind.i64 d.snd.snd.snd.snd.snd.snd.snd.snd.snd.snd.snd.snd.snd))]]
  [])) (Sum.elim (fun d => K (AX.ret) (St.mk
  [AV.und, AV.r (RV.c (CV.ptr 0 (Off.k 0) 8)), AV.r (RV.c (CV.f (FV.b false))), AV.r (RV.c (CV.f (FV.i IntKind.i64 d.fst))), AV.r (RV.c (CV.f (FV.i IntKind.i64 d.fst))),
    AV.r (RV.c (CV.f (FV.b d.snd.fst))), AV.r (RV.c (CV.f (FV.i IntKind.i64 d.fst))), AV.r (RV.c (CV.f (FV.i IntKind.i64 d.fst))), AV.r (RV.c (CV.ptr 0 (Off.k 2) 3)),
    AV.r (RV.c (CV.ptr 0 (Off.k d.snd.snd.fst) 1)), AV.r (RV.c (CV.f (FV.i IntKind.i64 d.snd.snd.snd.fst))), AV.r (RV.c (CV.f (FV.i IntKind.i64 d.snd.snd.snd.snd.fst))),
    AV.r (RV.c (CV.f (FV.b d.snd.snd.snd.snd.snd.fst))), AV.r (RV.c (CV.f (FV.b false))), AV.r (RV.c (CV.f (FV.i IntKind.i64 d.fst))), AV.r (RV.c (CV.ptr 0 (Off.k 5) 3)),
    AV.r (RV.c (CV.ptr 0 (Off.k d.snd.snd.snd.snd.snd.snd.fst) 1)), AV.r (RV.c (CV.f (FV.i IntKind.i64 d.snd.snd.snd.snd.snd.snd.snd.fst))),
    AV.r (RV.c (CV.f (FV.i IntKind.i64 d.snd.snd.snd.snd.snd.snd.snd.snd.fst))), AV.r (RV.c (CV.f (FV.b d.snd.snd.snd.snd.snd.snd.snd.snd.snd.fst))),
    AV.r (RV.c (CV.f (FV.b d.snd.snd.snd.snd.snd.snd.snd.snd.snd.fst))), AV.und, AV.und, AV.und, AV.und, AV.und, AV.tup [], AV.tup [], AV.tup [], AV.und, AV.und, AV.tup [], AV.tup [], AV.tup [],
    AV.und, AV.und, AV.tup [], AV.tup [], AV.tup [], AV.und]
  [some
      [Sg.c (CV.f (FV.i IntKind.i64 d.snd.snd.snd.snd.snd.snd.snd.snd.snd.snd.fst)), Sg.c (CV.f (FV.i IntKind.i64 d.snd.snd.snd.snd.snd.snd.snd.snd.snd.snd.snd.fst)),
        Sg.c (CV.f (FV.i IntKind.i64 d.snd.snd.snd.snd.snd.snd.snd.snd.snd.snd.snd.snd.fst)), Sg.c (CV.f (FV.i IntKind.i64 d.snd.snd.snd.snd.snd.snd.snd.snd.snd.snd.snd.snd.snd.fst)),
        Sg.c (CV.f (FV.i IntKind.i64 d.snd.snd.snd.snd.snd.snd.snd.snd.snd.snd.snd.snd.snd.snd.fst)), Sg.c (CV.f (FV.i IntKind.i64 d.snd.snd.snd.snd.snd.snd.snd.snd.snd.snd.snd.snd.snd.snd.snd.fst)),
        Sg.c (CV.f (FV.i IntKind.i64 d.snd.snd.snd.snd.snd.snd.snd.snd.snd.snd.snd.snd.snd.snd.snd.snd.fst)),
        Sg.c (CV.f (FV.i IntKind.i64 d.snd.snd.snd.snd.snd.snd.snd.snd.snd.snd.snd.snd.snd.snd.snd.snd.snd))]]
  [])) (fun d => K (AX.ex 0) (St.mk
  [AV.und, AV.r (RV.c (CV.ptr 0 (Off.k 0) 8)), AV.und, AV.und, AV.r (RV.c (CV.f (FV.i IntKind.i64 d.fst))), AV.r (RV.c (CV.f (FV.b d.snd.fst))), AV.und, AV.und, AV.und, AV.und, AV.und, AV.und, AV.und,
    AV.und, AV.und, AV.und, AV.und, AV.und, AV.und, AV.und, AV.und, AV.und, AV.und, AV.und, AV.und, AV.und, AV.tup [], AV.tup [], AV.tup [], AV.und, AV.und, AV.tup [], AV.tup [], AV.tup [], AV.und,
    AV.und, AV.tup [], AV.tup [], AV.tup [], AV.und]
  [some
      [Sg.c (CV.f (FV.i IntKind.i64 d.snd.snd.fst)), Sg.c (CV.f (FV.i IntKind.i64 d.snd.snd.snd.fst)), Sg.c (CV.f (FV.i IntKind.i64 d.snd.snd.snd.snd.fst)),
        Sg.c (CV.f (FV.i IntKind.i64 d.snd.snd.snd.snd.snd.fst)), Sg.c (CV.f (FV.i IntKind.i64 d.snd.snd.snd.snd.snd.snd.fst)), Sg.c (CV.f (FV.i IntKind.i64 d.snd.snd.snd.snd.snd.snd.snd.fst)),
        Sg.c (CV.f (FV.i IntKind.i64 d.snd.snd.snd.snd.snd.snd.snd.snd.fst)), Sg.c (CV.f (FV.i IntKind.i64 d.snd.snd.snd.snd.snd.snd.snd.snd.snd))]]
  [])))) :=
  iter_loopX (emb := fun (d : Int × Int × Int × Int × Int × Int × Int × Int × Int) => St.mk
  [AV.und, AV.r (RV.c (CV.ptr 0 (Off.k 0) 8)), AV.und, AV.und, AV.r (RV.c (CV.f (FV.i IntKind.i64 d.fst))), AV.und, AV.und, AV.und, AV.und, AV.und, AV.und, AV.und, AV.und, AV.und, AV.und, AV.und,
    AV.und, AV.und, AV.und, AV.und, AV.und, AV.und, AV.und, AV.und, AV.und, AV.und, AV.tup [], AV.tup [], AV.tup [], AV.und, AV.und, AV.tup [], AV.tup [], AV.tup [], AV.und, AV.und, AV.tup [],
    AV.tup [], AV.tup [], AV.und]
  [some
      [Sg.c (CV.f (FV.i IntKind.i64 d.snd.fst)), Sg.c (CV.f (FV.i IntKind.i64 d.snd.snd.fst)), Sg.c (CV.f (FV.i IntKind.i64 d.snd.snd.snd.fst)), Sg.c (CV.f (FV.i IntKind.i64 d.snd.snd.snd.snd.fst)),
        Sg.c (CV.f (FV.i IntKind.i64 d.snd.snd.snd.snd.snd.fst)), Sg.c (CV.f (FV.i IntKind.i64 d.snd.snd.snd.snd.snd.snd.fst)), Sg.c (CV.f (FV.i IntKind.i64 d.snd.snd.snd.snd.snd.snd.snd.fst)),
        Sg.c (CV.f (FV.i IntKind.i64 d.snd.snd.snd.snd.snd.snd.snd.snd))]]
  []) (step := fun d c x => S_downs_Good_0 f_fx_Abs  d.1 d.2.1 d.2.2.1 d.2.2.2.1 d.2.2.2.2.1 d.2.2.2.2.2.1 d.2.2.2.2.2.2.1 d.2.2.2.2.2.2.2.1 d.2.2.2.2.2.2.2.2 c x) (kx := (Sum.elim (fun d => K (AX.ret) (St.mk
  [AV.und, AV.r (RV.c (CV.ptr 0 (Off.k 0) 8)), AV.r (RV.c (CV.f (FV.b false))), AV.r (RV.c (CV.f (FV.i IntKind.i64 d.fst))), AV.r (RV.c (CV.f (FV.i IntKind.i64 d.fst))),
    AV.r (RV.c (CV.f (FV.b d.snd.fst))), AV.r (RV.c (CV.f (FV.i IntKind.i64 d.fst))), AV.r (RV.c (CV.f (FV.i IntKind.i64 d.fst))), AV.r (RV.c (CV.ptr 0 (Off.k 2) 3)),
    AV.r (RV.c (CV.ptr 0 (Off.k d.snd.snd.fst) 1)), AV.r (RV.c (CV.f (FV.i IntKind.i64 d.snd.snd.snd.fst))), AV.r (RV.c (CV.f (FV.i IntKind.i64 d.snd.snd.snd.snd.fst))),
    AV.r (RV.c (CV.f (FV.b d.snd.snd.snd.snd.snd.fst))), AV.r (RV.c (CV.f (FV.b true))), AV.tup [], AV.tup [], AV.tup [], AV.tup [], AV.tup [], AV.tup [], AV.r (RV.c (CV.f (FV.b true))), AV.und,
    AV.und, AV.und, AV.und, AV.und, AV.tup [], AV.tup [], AV.tup [], AV.und, AV.und, AV.tup [], AV.tup [], AV.tup [], AV.und, AV.und, AV.tup [], AV.tup [], AV.tup [], AV.und]
  [some
      [Sg.c (CV.f (FV.i IntKind.i64 d.snd.snd.snd.snd.snd.snd.fst)), Sg.c (CV.f (FV.i IntKind.i64 d.snd.snd.snd.snd.snd.snd.snd.fst)),
        Sg.c (CV.f (FV.i IntKind.i64 d.snd.snd.snd.snd.snd.snd.snd.snd.fst)), Sg.c (CV.f (FV.i IntKind.i64 d.snd.snd.snd.snd.snd.snd.snd.snd.snd.fst)),
        Sg.c (CV.f (FV.i IntKind.i64 d.snd.snd.snd.snd.snd.snd.snd.snd.snd.snd.fst)), Sg.c (CV.f (FV.i IntKind.i64 d.snd.snd.snd.snd.snd.snd.snd.snd.snd.snd.snd.fst)),
        Sg.c (CV.f (FV.i IntKind.i64 d.snd.snd.snd.snd.snd.snd.snd.snd.snd.snd.snd.snd.fst)), Sg.c (CV.f (FV.i IntKind.i64 d.snd.snd.snd.snd.snd.snd.snd.snd.snd.snd.snd.snd.snd))]]
  [])) (Sum.elim (fun d => K (AX.ret) (St.mk
  [AV.und, AV.r (RV.c (CV.ptr 0 (Off.k 0) 8)), AV.r (RV.c (CV.f (FV.b false))), AV.r (RV.c (CV.f (FV.i IntKind.i64 d.fst))), AV.r (RV.c (CV.f (FV.i IntKind.i64 d.fst))),
    AV.r (RV.c (CV.f (FV.b d.snd.fst))), AV.r (RV.c (CV.f (FV.i IntKind.i64 d.fst))), AV.r (RV.c (CV.f (FV.i IntKind.i64 d.fst))), AV.r (RV.c (CV.ptr 0 (Off.k 2) 3)),
    AV.r (RV.c (CV.ptr 0 (Off.k d.snd.snd.fst) 1)), AV.r (RV.c (CV.f (FV.i IntKind.i64 d.snd.snd.snd.fst))), AV.r (RV.c (CV.f (FV.i IntKind.i64 d.snd.snd.snd.snd.fst))),
    AV.r (RV.c (CV.f (FV.b d.snd.snd.snd.snd.snd.fst))), AV.r (RV.c (CV.f (FV.b false))), AV.r (RV.c (CV.f (FV.i IntKind.i64 d.fst))), AV.r (RV.c (CV.ptr 0 (Off.k 5) 3)),
    AV.r (RV.c (CV.ptr 0 (Off.k d.snd.snd.snd.snd.snd.snd.fst) 1)), AV.r (RV.c (CV.f (FV.i IntKind.i64 d.snd.snd.snd.snd.snd.snd.snd.fst))),
    AV.r (RV.c (CV.f (FV.i IntKind.i64 d.snd.snd.snd.snd.snd.snd.snd.snd.fst))), AV.r (RV.c (CV.f (FV.b d.snd.snd.snd.snd.snd.snd.snd.snd.snd.fst))),
    AV.r (RV.c (CV.f (FV.b d.snd.snd.snd.snd.snd.snd.snd.snd.snd.fst))), AV.und, AV.und, AV.und, AV.und, AV.und, AV.tup [], AV.tup [], AV.tup [], AV.und, AV.und, AV.tup [], AV.tup [], AV.tup [],
    AV.und, AV.und, AV.tup [], AV.tup [], AV.tup [], AV.und]
  [some
      [Sg.c (CV.f (FV.i IntKind.i64 d.snd.snd.snd.snd.snd.snd.snd.snd.snd.snd.fst)), Sg.c (CV.f (FV.i IntKind.i64 d.snd.snd.snd.snd.snd.snd.snd.snd.snd.snd.snd.fst)),
        Sg.c (CV.f (FV.i IntKind.i64 d.snd.snd.snd.snd.snd.snd.snd.snd.snd.snd.snd.snd.fst)), Sg.c (CV.f (FV.i IntKind.i64 d.snd.snd.snd.snd.snd.snd.snd.snd.snd.snd.snd.snd.snd.fst)),
        Sg.c (CV.f (FV.i IntKind.i64 d.snd.snd.snd.snd.snd.snd.snd.snd.snd.snd.snd.snd.snd.snd.fst)), Sg.c (CV.f (FV.i IntKind.i64 d.snd.snd.snd.snd.snd.snd.snd.snd.snd.snd.snd.snd.snd.snd.snd.fst)),
        Sg.c (CV.f (FV.i IntKind.i64 d.snd.snd.snd.snd.snd.snd.snd.snd.snd.snd.snd.snd.snd.snd.snd.snd.fst)),
        Sg.c (CV.f (FV.i IntKind.i64 d.snd.snd.snd.snd.snd.snd.snd.snd.snd.snd.snd.snd.snd.snd.snd.snd.snd))]]
  [])) (fun d => K (AX.ex 0) (St.mk
  [AV.und, AV.r (RV.c (CV.ptr 0 (Off.k 0) 8)), AV.und, AV.und, AV.r (RV.c (CV.f (FV.i IntKind.i64 d.fst))), AV.r (RV.c (CV.f (FV.b d.snd.fst))), AV.und, AV.und, AV.und, AV.und, AV.und, AV.und, AV.und,
    AV.und, AV.und, AV.und, AV.und, AV.und, AV.und, AV.und, AV.und, AV.und, AV.und, AV.und, AV.und, AV.und, AV.tup [], AV.tup [], AV.tup [], AV.und, AV.und, AV.tup [], AV.tup [], AV.tup [], AV.und,
    AV.und, AV.tup [], AV.tup [], AV.tup [], AV.und]
  [some
      [Sg.c (CV.f (FV.i IntKind.i64 d.snd.snd.fst)), Sg.c (CV.f (FV.i IntKind.i64 d.snd.snd.snd.fst)), Sg.c (CV.f (FV.i IntKind.i64 d.snd.snd.snd.snd.fst)),
        Sg.c (CV.f (FV.i IntKind.i64 d.snd.snd.snd.snd.snd.fst)), Sg.c (CV.f (FV.i IntKind.i64 d.snd.snd.snd.snd.snd.snd.fst)), Sg.c (CV.f (FV.i IntKind.i64 d.snd.snd.snd.snd.snd.snd.snd.fst)),
        Sg.c (CV.f (FV.i IntKind.i64 d.snd.snd.snd.snd.snd.snd.snd.snd.fst)), Sg.c (CV.f (FV.i IntKind.i64 d.snd.snd.snd.snd.snd.snd.snd.snd.snd))]]
  [])))))
    (fun d c => ds_downs_Good_0 f_fx_Abs (@L_downs_Good_0) d.1 d.2.1 d.2.2.1 d.2.2.2.1 d.2.2.2.2.1 d.2.2.2.2.2.1 d.2.2.2.2.2.2.1 d.2.2.2.2.2.2.2.1 d.2.2.2.2.2.2.2.2 c K) 200 (x0, x1, x2, x3, x4, x5, x6, x7, x8)
theorem so_downs_Good_0 : ∀ kk, SumOK Try.prog (envOf [(53, F_fx_Abs f_fx_Abs)]) ⟨[⟨2, [0, 2, 5, 6, 7, 9, 10, 11, 12, 20, 21, 22, 23, 24, 25, 29, 30, 34, 35, 39, 3, 8, 13, 14, 15, 16, 17, 18, 19], []⟩], [⟨2, 0, @R_downs_Good_0 (@L_downs_Good_0)⟩], []⟩ (tmpsOf Try.prog 34) kk 200 (loopIn Try.prog 34 2) :=
  SumOK.of (id := 2) (k0 := 0) (run := @R_downs_Good_0 (@L_downs_Good_0)) (by kernel_rfl) fun s K r hr => by
    unfold R_downs_Good_0 at hr
    obtain ⟨b, hb, hr1⟩ := Option.bind_eq_some_iff.1 hr
    have e := ((Q_downs_Good_0).ok s b hb).trans (q_downs_Good_0 b)
    subst e
    exact ⟨200, (it_downs_Good_0 b.1.2.2.2.2.1 b.2.1.1.1 b.2.1.1.2.1 b.2.1.1.2.2.1 b.2.1.1.2.2.2.1 b.2.1.1.2.2.2.2.1 b.2.1.1.2.2.2.2.2.1 b.2.1.1.2.2.2.2.2.2.1 b.2.1.1.2.2.2.2.2.2.2.1 K).trans hr1⟩
def K_downs_Good {ρ : Type} (g_fx_Abs : Int → Option Int) (l_0 : ∀ {ρ : Type}, (Int × Int × Int × Int × Int × Int × Int × Int × Int) → ((Int × Bool × Nat × Int × Int × Bool × Int × Int × Int × Int × Int × Int × Int × Int ⊕
  Int × Bool × Nat × Int × Int × Bool × Nat × Int × Int × Bool × Int × Int × Int × Int × Int × Int × Int × Int ⊕ Int × Bool × Int × Int × Int × Int × Int × Int × Int × Int) → Option ρ) → Option ρ) (x0 : Int) (x1 : Int) (x2 : Int) (x3 : Int) (x4 : Int) (x5 : Int) (x6 : Int) (x7 : Int) (k : (Bool) → Option ρ) : Option ρ :=
  l_0 (0, x0, x1, x2, x3, x4, x5, x6, x7)
    (Sum.elim (fun (d : Int × Bool × Nat × Int × Int × Bool × Int × Int × Int × Int × Int × Int × Int × Int) => k false)
      (Sum.elim (fun (d : Int × Bool × Nat × Int × Int × Bool × Nat × Int × Int × Bool × Int × Int × Int × Int × Int × Int × Int × Int) => k false)
        fun (d : Int × Bool × Int × Int × Int × Int × Int × Int × Int × Int) =>
        bif decide (d.snd.snd.snd.fst ≥ 1) then bif decide (d.snd.snd.snd.fst ≤ 100000) then bif decide (d.snd.snd.fst ≥ 0) then k (decide (d.snd.snd.fst ≤ 1125899906842624)) else k false else k false
        else k false))
def f_downs_Good (x0 : Int) (x1 : Int) (x2 : Int) (x3 : Int) (x4 : Int) (x5 : Int) (x6 : Int) (x7 : Int) : Option (Bool) := K_downs_Good f_fx_Abs (@L_downs_Good_0) x0 x1 x2 x3 x4 x5 x6 x7 some
section
open Go.Ab.Rdr
def QA_downs_Good := ((pair (cons (ar (ra (cons (gc (cf (fi .i64 hole))) (cons (gc (cf (fi .i64 hole))) (cons (gc (cf (fi .i64 hole))) (cons (gc (cf (fi .i64 hole))) (cons (gc (cf (fi .i64 hole))) (cons (gc (cf (fi .i64 hole))) (cons (gc (cf (fi .i64 hole))) (cons (gc (cf (fi .i64 hole))) nil)))))))))) nil) nil) : Rdr (List AV × List Blk) _)
end
def F_downs_Good (f : (Int) → (Int) → (Int) → (Int) → (Int) → (Int) → (Int) → (Int) → Option (Bool)) : Sem1 := fun args h => match (QA_downs_Good).rd (args, h) with
  | some b => .opt (f b.1.1.1 b.1.1.2.1 b.1.1.2.2.1 b.1.1.2.2.2.1 b.1.1.2.2.2.2.1 b.1.1.2.2.2.2.2.1 b.1.1.2.2.2.2.2.2.1 b.1.1.2.2.2.2.2.2.2.1) fun (d : Bool) => .leaf (Res.mk (AV.r (RV.c (CV.f (FV.b d)))) [] [])
  | none => .fail
theorem d_downs_Good (g_fx_Abs : Int → Option Int) (l_0 : ∀ {ρ : Type}, (Int × Int × Int × Int × Int × Int × Int × Int × Int) → ((Int × Bool × Nat × Int × Int × Bool × Int × Int × Int × Int × Int × Int × Int × Int ⊕
  Int × Bool × Nat × Int × Int × Bool × Nat × Int × Int × Bool × Int × Int × Int × Int × Int × Int × Int × Int ⊕ Int × Bool × Int × Int × Int × Int × Int × Int × Int × Int) → Option ρ) → Option ρ) (x0 : Int) (x1 : Int) (x2 : Int) (x3 : Int) (x4 : Int) (x5 : Int) (x6 : Int) (x7 : Int) : den Try.prog (envOf [(53, F_fx_Abs g_fx_Abs)]) ⟨[⟨2, [0, 2, 5, 6, 7, 9, 10, 11, 12, 20, 21, 22, 23, 24, 25, 29, 30, 34, 35, 39, 3, 8, 13, 14, 15, 16, 17, 18, 19], []⟩], [⟨2, 0, @R_downs_Good_0 (@l_0)⟩], []⟩ 200 34 [.r (.agg [.c (.f (.i .i64 x0)), .c (.f (.i .i64 x1)), .c (.f (.i .i64 x2)), .c (.f (.i .i64 x3)), .c (.f (.i .i64 x4)), .c (.f (.i .i64 x5)), .c (.f (.i .i64 x6)), .c (.f (.i .i64 x7))])] [] =
    K_downs_Good g_fx_Abs (@l_0) x0 x1 x2 x3 x4 x5 x6 x7 (fun (d : Bool) => some (Res.mk (AV.r (RV.c (CV.f (FV.b d)))) [] [])) := by kernel_rfl
theorem m_downs_Good {ρ σ : Type} (q : ρ → Option σ) (g_fx_Abs : Int → Option Int) (l_0 : ∀ {ρ : Type}, (Int × Int × Int × Int × Int × Int × Int × Int × Int) → ((Int × Bool × Nat × Int × Int × Bool × Int × Int × Int × Int × Int × Int × Int × Int ⊕
  Int × Bool × Nat × Int × Int × Bool × Nat × Int × Int × Bool × Int × Int × Int × Int × Int × Int × Int × Int ⊕ Int × Bool × Int × Int × Int × Int × Int × Int × Int × Int) → Option ρ) → Option ρ) (hl_0 : ∀ {ρ σ : Type} (q : ρ → Option σ) (d : Int × Int × Int × Int × Int × Int × Int × Int × Int) (k : (Int × Bool × Nat × Int × Int × Bool × Int × Int × Int × Int × Int × Int × Int × Int ⊕
  Int × Bool × Nat × Int × Int × Bool × Nat × Int × Int × Bool × Int × Int × Int × Int × Int × Int × Int × Int ⊕ Int × Bool × Int × Int × Int × Int × Int × Int × Int × Int) → Option ρ), (l_0 d k).bind q = l_0 d fun x => (k x).bind q) (x0 : Int) (x1 : Int) (x2 : Int) (x3 : Int) (x4 : Int) (x5 : Int) (x6 : Int) (x7 : Int) (k : (Bool) → Option ρ) : (K_downs_Good g_fx_Abs (@l_0) x0 x1 x2 x3 x4 x5 x6 x7 k).bind q = K_downs_Good g_fx_Abs (@l_0) x0 x1 x2 x3 x4 x5 x6 x7 (fun d => (k d).bind q) := by
  simp only [K_downs_Good, bnd_cond, bnd_bind, bnd_none, bnd_sum, hl_0]
theorem qa_downs_Good : ∀ b, (QA_downs_Good).em b = ([.r (.agg [.c (.f (.i .i64 b.1.1.1)), .c (.f (.i .i64 b.1.1.2.1)), .c (.f (.i .i64 b.1.1.2.2.1)), .c (.f (.i .i64 b.1.1.2.2.2.1)), .c (.f (.i .i64 b.1.1.2.2.2.2.1)), .c (.f (.i .i64 b.1.1.2.2.2.2.2.1)), .c (.f (.i .i64 b.1.1.2.2.2.2.2.2.1)), .c (.f (.i .i64 b.1.1.2.2.2.2.2.2.2.1))])], []) := fun b => by kernel_rfl
theorem e_downs_Good {f : (Int) → (Int) → (Int) → (Int) → (Int) → (Int) → (Int) → (Int) → Option (Bool)} {args : List AV} {h : List Blk} {r : Res} (hr : (F_downs_Good f args h).eval = some r) : ∃ x0 x1 x2 x3 x4 x5 x6 x7, args = [.r (.agg [.c (.f (.i .i64 x0)), .c (.f (.i .i64 x1)), .c (.f (.i .i64 x2)), .c (.f (.i .i64 x3)), .c (.f (.i .i64 x4)), .c (.f (.i .i64 x5)), .c (.f (.i .i64 x6)), .c (.f (.i .i64 x7))])] ∧ h = [] ∧ (f x0 x1 x2 x3 x4 x5 x6 x7).bind (fun (d : Bool) => some (Res.mk (AV.r (RV.c (CV.f (FV.b d)))) [] [])) = some r := by
  unfold F_downs_Good at hr
  split at hr
  · rename_i b hb
    have e := ((QA_downs_Good).ok _ _ hb).trans (qa_downs_Good b)
    rw [opt_eval2] at hr
    exact ⟨b.1.1.1, b.1.1.2.1, b.1.1.2.2.1, b.1.1.2.2.2.1, b.1.1.2.2.2.2.1, b.1.1.2.2.2.2.2.1, b.1.1.2.2.2.2.2.2.1, b.1.1.2.2.2.2.2.2.2.1, (Prod.mk.inj e).1, (Prod.mk.inj e).2, hr⟩
  · cases hr
theorem n_downs_Good {σ : Type} (q : (Bool) → Option σ) (x0 : Int) (x1 : Int) (x2 : Int) (x3 : Int) (x4 : Int) (x5 : Int) (x6 : Int) (x7 : Int) : (f_downs_Good x0 x1 x2 x3 x4 x5 x6 x7).bind q = K_downs_Good f_fx_Abs (@L_downs_Good_0) x0 x1 x2 x3 x4 x5 x6 x7 q := by
  unfold f_downs_Good
  exact m_downs_Good q f_fx_Abs (@L_downs_Good_0) (fun q d k => mL_downs_Good_0 q d k) x0 x1 x2 x3 x4 x5 x6 x7 some
theorem s_downs_Good : Sound Try.prog 34 (F_downs_Good f_downs_Good) :=
  (inl_sums (l := [(53, F_fx_Abs f_fx_Abs)]) (.cons s_fx_Abs (.nil _)) mixed (hs := ⟨[⟨2, [0, 2, 5, 6, 7, 9, 10, 11, 12, 20, 21, 22, 23, 24, 25, 29, 30, 34, 35, 39, 3, 8, 13, 14, 15, 16, 17, 18, 19], []⟩], [⟨2, 0, @R_downs_Good_0 (@L_downs_Good_0)⟩], []⟩) (lf := 200) (Sums.by (l := [loopIn Try.prog 34 2]) (by kernel_rfl) ⟨so_downs_Good_0, trivial⟩) (by kernel_rfl)).by (F := F_downs_Good f_downs_Good) fun args b r hr => by
  obtain ⟨x0, x1, x2, x3, x4, x5, x6, x7, rfl, rfl, hr1⟩ := e_downs_Good hr
  exact inl_eval ((d_downs_Good f_fx_Abs (@L_downs_Good_0) x0 x1 x2 x3 x4 x5 x6 x7).trans ((n_downs_Good (fun (d : Bool) => some (Res.mk (AV.r (RV.c (CV.f (FV.b d)))) [] [])) x0 x1 x2 x3 x4 x5 x6 x7).symm.trans hr1))

def K___downs_Sampler__Put {ρ : Type} (g_downs_Good : Int → Int → Int → Int → Int → Int → Int → Int → Option Bool) (g_downs_plus : Int → Int → Int → Int → Int → Int → Int → Int → Int → Int → Int → Int → Int → Int → Int → Int → Bool → Option (Int × Int × Int × Int × Int × Int × Int × Int × Bool))  (x0 : Int) (x1 : Int) (x2 : Int) (x3 : Int) (x4 : Int) (x5 : Int) (x6 : Int) (x7 : Int) (x8 : Int) (x9 : Int) (x10 : Int) (x11 : Int) (x12 : Int) (x13 : Int) (x14 : Int) (x15 : Int) (x16 : Int) (x17 : Bool) (x18 : Bool) (k : (Int × Int × Int × Int × Int × Int × Int × Int × Bool × Int × Int × Int × Int × Int × Int × Int × Int × Int × Int × Bool × Bool) → Option ρ) : Option ρ :=
  Option.bind (g_downs_Good x0 x1 x2 x3 x4 x5 x6 x7) fun (d : Bool) =>
    bif !d then k (0, 0, 0, 0, 0, 0, 0, 0, false, 1, x8, x9, x10, x11, x12, x13, x14, x15, x16, x17, x18)
    else
      bif x17 then
        bif decide (x0 ≤ x9) then k (0, 0, 0, 0, 0, 0, 0, 0, false, 1, x8, x9, x10, x11, x12, x13, x14, x15, x16, x17, x18)
        else
          Option.bind (g_downs_plus x9 x10 x11 x12 x13 x14 x15 x16 x0 x1 x2 x3 x4 x5 x6 x7 x18) fun (d : Int × Int × Int × Int × Int × Int × Int × Int × Bool) =>
            bif decide (d.snd.fst < x8) then
              k
                (0, 0, 0, 0, 0, 0, 0, 0, false, 0, x8, d.fst, d.snd.fst, d.snd.snd.fst, d.snd.snd.snd.fst, d.snd.snd.snd.snd.fst, d.snd.snd.snd.snd.snd.fst, d.snd.snd.snd.snd.snd.snd.fst,
                  d.snd.snd.snd.snd.snd.snd.snd.fst, true, d.snd.snd.snd.snd.snd.snd.snd.snd)
            else
              k
                (d.fst, d.snd.fst, d.snd.snd.fst, d.snd.snd.snd.fst, d.snd.snd.snd.snd.fst, d.snd.snd.snd.snd.snd.fst, d.snd.snd.snd.snd.snd.snd.fst, d.snd.snd.snd.snd.snd.snd.snd.fst, true, 0, x8, x0,
                  0, 0, 0, 0, 0, 0, 0, true, d.snd.snd.snd.snd.snd.snd.snd.snd)
      else
        Option.bind (g_downs_plus x9 x10 x11 x12 x13 x14 x15 x16 x0 x1 x2 x3 x4 x5 x6 x7 x18) fun (d : Int × Int × Int × Int × Int × Int × Int × Int × Bool) =>
          bif decide (d.snd.fst < x8) then
            k
              (0, 0, 0, 0, 0, 0, 0, 0, false, 0, x8, d.fst, d.snd.fst, d.snd.snd.fst, d.snd.snd.snd.fst, d.snd.snd.snd.snd.fst, d.snd.snd.snd.snd.snd.fst, d.snd.snd.snd.snd.snd.snd.fst,
                d.snd.snd.snd.snd.snd.snd.snd.fst, true, d.snd.snd.snd.snd.snd.snd.snd.snd)
          else
            k
              (d.fst, d.snd.fst, d.snd.snd.fst, d.snd.snd.snd.fst, d.snd.snd.snd.snd.fst, d.snd.snd.snd.snd.snd.fst, d.snd.snd.snd.snd.snd.snd.fst, d.snd.snd.snd.snd.snd.snd.snd.fst, true, 0, x8, x0, 0,
                0, 0, 0, 0, 0, 0, true, d.snd.snd.snd.snd.snd.snd.snd.snd)
def f___downs_Sampler__Put (x0 : Int) (x1 : Int) (x2 : Int) (x3 : Int) (x4 : Int) (x5 : Int) (x6 : Int) (x7 : Int) (x8 : Int) (x9 : Int) (x10 : Int) (x11 : Int) (x12 : Int) (x13 : Int) (x14 : Int) (x15 : Int) (x16 : Int) (x17 : Bool) (x18 : Bool) : Option (Int × Int × Int × Int × Int × Int × Int × Int × Bool × Int × Int × Int × Int × Int × Int × Int × Int × Int × Int × Bool × Bool) := K___downs_Sampler__Put f_downs_Good f_downs_plus  x0 x1 x2 x3 x4 x5 x6 x7 x8 x9 x10 x11 x12 x13 x14 x15 x16 x17 x18 some
section
open Go.Ab.Rdr
def QA___downs_Sampler__Put := ((pair (cons (ar (rc (cptr (nat 0) (ok' (nat 0)) (nat 10)))) (cons (ar (rc (cptr (nat 1) (ok' (nat 0)) (nat 1)))) (cons (ar (ra (cons (gc (cf (fi .i64 hole))) (cons (gc (cf (fi .i64 hole))) (cons (gc (cf (fi .i64 hole))) (cons (gc (cf (fi .i64 hole))) (cons (gc (cf (fi .i64 hole))) (cons (gc (cf (fi .i64 hole))) (cons (gc (cf (fi .i64 hole))) (cons (gc (cf (fi .i64 hole))) nil)))))))))) nil))) (cons (cons (gc (cf (fi .i64 hole))) (cons (gc (cf (fi .i64 hole))) (cons (gc (cf (fi .i64 hole))) (cons (gc (cf (fi .i64 hole))) (cons (gc (cf (fi .i64 hole))) (cons (gc (cf (fi .i64 hole))) (cons (gc (cf (fi .i64 hole))) (cons (gc (cf (fi .i64 hole))) (cons (gc (cf (fi .i64 hole))) (cons (gc (cf (fb hole))) nil)))))))))) (cons (cons (gc (cf (fb hole))) nil) nil))) : Rdr (List AV × List Blk) _)
end
def F___downs_Sampler__Put (f : (Int) → (Int) → (Int) → (Int) → (Int) → (Int) → (Int) → (Int) → (Int) → (Int) → (Int) → (Int) → (Int) → (Int) → (Int) → (Int) → (Int) → (Bool) → (Bool) → Option (Int × Int × Int × Int × Int × Int × Int × Int × Bool × Int × Int × Int × Int × Int × Int × Int × Int × Int × Int × Bool × Bool)) : Sem1 := fun args h => match (QA___downs_Sampler__Put).rd (args, h) with
  | some b => .opt (f b.1.2.2.1.1 b.1.2.2.1.2.1 b.1.2.2.1.2.2.1 b.1.2.2.1.2.2.2.1 b.1.2.2.1.2.2.2.2.1 b.1.2.2.1.2.2.2.2.2.1 b.1.2.2.1.2.2.2.2.2.2.1 b.1.2.2.1.2.2.2.2.2.2.2.1 b.2.1.1 b.2.1.2.1 b.2.1.2.2.1 b.2.1.2.2.2.1 b.2.1.2.2.2.2.1 b.2.1.2.2.2.2.2.1 b.2.1.2.2.2.2.2.2.1 b.2.1.2.2.2.2.2.2.2.1 b.2.1.2.2.2.2.2.2.2.2.1 b.2.1.2.2.2.2.2.2.2.2.2.1 b.2.2.1.1) fun (d : Int × Int × Int × Int × Int × Int × Int × Int × Bool × Int × Int × Int × Int × Int × Int × Int × Int × Int × Int × Bool × Bool) => .leaf (Res.mk
    (AV.tup
      [RV.agg
          [Sg.c (CV.f (FV.i IntKind.i64 d.fst)), Sg.c (CV.f (FV.i IntKind.i64 d.snd.fst)), Sg.c (CV.f (FV.i IntKind.i64 d.snd.snd.fst)), Sg.c (CV.f (FV.i IntKind.i64 d.snd.snd.snd.fst)),
            Sg.c (CV.f (FV.i IntKind.i64 d.snd.snd.snd.snd.fst)), Sg.c (CV.f (FV.i IntKind.i64 d.snd.snd.snd.snd.snd.fst)), Sg.c (CV.f (FV.i IntKind.i64 d.snd.snd.snd.snd.snd.snd.fst)),
            Sg.c (CV.f (FV.i IntKind.i64 d.snd.snd.snd.snd.snd.snd.snd.fst))],
        RV.c (CV.f (FV.b d.snd.snd.snd.snd.snd.snd.snd.snd.fst)), RV.c (CV.f (FV.i IntKind.i64 d.snd.snd.snd.snd.snd.snd.snd.snd.snd.fst))])
    [Ch.set
        [Sg.c (CV.f (FV.i IntKind.i64 d.snd.snd.snd.snd.snd.snd.snd.snd.snd.snd.fst)), Sg.c (CV.f (FV.i IntKind.i64 d.snd.snd.snd.snd.snd.snd.snd.snd.snd.snd.snd.fst)),
          Sg.c (CV.f (FV.i IntKind.i64 d.snd.snd.snd.snd.snd.snd.snd.snd.snd.snd.snd.snd.fst)), Sg.c (CV.f (FV.i IntKind.i64 d.snd.snd.snd.snd.snd.snd.snd.snd.snd.snd.snd.snd.snd.fst)),
          Sg.c (CV.f (FV.i IntKind.i64 d.snd.snd.snd.snd.snd.snd.snd.snd.snd.snd.snd.snd.snd.snd.fst)),
          Sg.c (CV.f (FV.i IntKind.i64 d.snd.snd.snd.snd.snd.snd.snd.snd.snd.snd.snd.snd.snd.snd.snd.fst)),
          Sg.c (CV.f (FV.i IntKind.i64 d.snd.snd.snd.snd.snd.snd.snd.snd.snd.snd.snd.snd.snd.snd.snd.snd.fst)),
          Sg.c (CV.f (FV.i IntKind.i64 d.snd.snd.snd.snd.snd.snd.snd.snd.snd.snd.snd.snd.snd.snd.snd.snd.snd.fst)),
          Sg.c (CV.f (FV.i IntKind.i64 d.snd.snd.snd.snd.snd.snd.snd.snd.snd.snd.snd.snd.snd.snd.snd.snd.snd.snd.fst)),
          Sg.c (CV.f (FV.b d.snd.snd.snd.snd.snd.snd.snd.snd.snd.snd.snd.snd.snd.snd.snd.snd.snd.snd.snd.fst))],
      Ch.set [Sg.c (CV.f (FV.b d.snd.snd.snd.snd.snd.snd.snd.snd.snd.snd.snd.snd.snd.snd.snd.snd.snd.snd.snd.snd))]]
    [])
  | none => .fail
theorem d___downs_Sampler__Put (g_downs_Good : Int → Int → Int → Int → Int → Int → Int → Int → Option Bool) (g_downs_plus : Int → Int → Int → Int → Int → Int → Int → Int → Int → Int → Int → Int → Int → Int → Int → Int → Bool → Option (Int × Int × Int × Int × Int × Int × Int × Int × Bool))  (x0 : Int) (x1 : Int) (x2 : Int) (x3 : Int) (x4 : Int) (x5 : Int) (x6 : Int) (x7 : Int) (x8 : Int) (x9 : Int) (x10 : Int) (x11 : Int) (x12 : Int) (x13 : Int) (x14 : Int) (x15 : Int) (x16 : Int) (x17 : Bool) (x18 : Bool) : den Try.prog (envOf [(34, F_downs_Good g_downs_Good), (56, F_downs_plus g_downs_plus)]) ⟨[], [], [0, 1]⟩ 200 32 [.r (.c (.ptr 0 (.k 0) 10)), .r (.c (.ptr 1 (.k 0) 1)), .r (.agg [.c (.f (.i .i64 x0)), .c (.f (.i .i64 x1)), .c (.f (.i .i64 x2)), .c (.f (.i .i64 x3)), .c (.f (.i .i64 x4)), .c (.f (.i .i64 x5)), .c (.f (.i .i64 x6)), .c (.f (.i .i64 x7))])] [[.c (.f (.i .i64 x8)), .c (.f (.i .i64 x9)), .c (.f (.i .i64 x10)), .c (.f (.i .i64 x11)), .c (.f (.i .i64 x12)), .c (.f (.i .i64 x13)), .c (.f (.i .i64 x14)), .c (.f (.i .i64 x15)), .c (.f (.i .i64 x16)), .c (.f (.b x17))], [.c (.f (.b x18))]] =
    K___downs_Sampler__Put g_downs_Good g_downs_plus  x0 x1 x2 x3 x4 x5 x6 x7 x8 x9 x10 x11 x12 x13 x14 x15 x16 x17 x18 (fun (d : Int × Int × Int × Int × Int × Int × Int × Int × Bool × Int × Int × Int × Int × Int × Int × Int × Int × Int × Int × Bool × Bool) => some (Res.mk
    (AV.tup
      [RV.agg
          [Sg.c (CV.f (FV.i IntKind.i64 d.fst)), Sg.c (CV.f (FV.i IntKind.i64 d.snd.fst)), Sg.c (CV.f (FV.i IntKind.i64 d.snd.snd.fst)), Sg.c (CV.f (FV.i IntKind.i64 d.snd.snd.snd.fst)),
            Sg.c (CV.f (FV.i IntKind.i64 d.snd.snd.snd.snd.fst)), Sg.c (CV.f (FV.i IntKind.i64 d.snd.snd.snd.snd.snd.fst)), Sg.c (CV.f (FV.i IntKind.i64 d.snd.snd.snd.snd.snd.snd.fst)),
            Sg.c (CV.f (FV.i IntKind.i64 d.snd.snd.snd.snd.snd.snd.snd.fst))],
        RV.c (CV.f (FV.b d.snd.snd.snd.snd.snd.snd.snd.snd.fst)), RV.c (CV.f (FV.i IntKind.i64 d.snd.snd.snd.snd.snd.snd.snd.snd.snd.fst))])
    [Ch.set
        [Sg.c (CV.f (FV.i IntKind.i64 d.snd.snd.snd.snd.snd.snd.snd.snd.snd.snd.fst)), Sg.c (CV.f (FV.i IntKind.i64 d.snd.snd.snd.snd.snd.snd.snd.snd.snd.snd.snd.fst)),
          Sg.c (CV.f (FV.i IntKind.i64 d.snd.snd.snd.snd.snd.snd.snd.snd.snd.snd.snd.snd.fst)), Sg.c (CV.f (FV.i IntKind.i64 d.snd.snd.snd.snd.snd.snd.snd.snd.snd.snd.snd.snd.snd.fst)),
          Sg.c (CV.f (FV.i IntKind.i64 d.snd.snd.snd.snd.snd.snd.snd.snd.snd.snd.snd.snd.snd.snd.fst)),
          Sg.c (CV.f (FV.i IntKind.i64 d.snd.snd.snd.snd.snd.snd.snd.snd.snd.snd.snd.snd.snd.snd.snd.fst)),
          Sg.c (CV.f (FV.i IntKind.i64 d.snd.snd.snd.snd.snd.snd.snd.snd.snd.snd.snd.snd.snd.snd.snd.snd.fst)),
          Sg.c (CV.f (FV.i IntKind.i64 d.snd.snd.snd.snd.snd.snd.snd.snd.snd.snd.snd.snd.snd.snd.snd.snd.snd.fst)),
          Sg.c (CV.f (FV.i IntKind.i64 d.snd.snd.snd.snd.snd.snd.snd.snd.snd.snd.snd.snd.snd.snd.snd.snd.snd.snd.fst)),
          Sg.c (CV.f (FV.b d.snd.snd.snd.snd.snd.snd.snd.snd.snd.snd.snd.snd.snd.snd.snd.snd.snd.snd.snd.fst))],
      Ch.set [Sg.c (CV.f (FV.b d.snd.snd.snd.snd.snd.snd.snd.snd.snd.snd.snd.snd.snd.snd.snd.snd.snd.snd.snd.snd))]]
    [])) := by kernel_rfl
theorem m___downs_Sampler__Put {ρ σ : Type} (q : ρ → Option σ) (g_downs_Good : Int → Int → Int → Int → Int → Int → Int → Int → Option Bool) (g_downs_plus : Int → Int → Int → Int → Int → Int → Int → Int → Int → Int → Int → Int → Int → Int → Int → Int → Bool → Option (Int × Int × Int × Int × Int × Int × Int × Int × Bool))   (x0 : Int) (x1 : Int) (x2 : Int) (x3 : Int) (x4 : Int) (x5 : Int) (x6 : Int) (x7 : Int) (x8 : Int) (x9 : Int) (x10 : Int) (x11 : Int) (x12 : Int) (x13 : Int) (x14 : Int) (x15 : Int) (x16 : Int) (x17 : Bool) (x18 : Bool) (k : (Int × Int × Int × Int × Int × Int × Int × Int × Bool × Int × Int × Int × Int × Int × Int × Int × Int × Int × Int × Bool × Bool) → Option ρ) : (K___downs_Sampler__Put g_downs_Good g_downs_plus  x0 x1 x2 x3 x4 x5 x6 x7 x8 x9 x10 x11 x12 x13 x14 x15 x16 x17 x18 k).bind q = K___downs_Sampler__Put g_downs_Good g_downs_plus  x0 x1 x2 x3 x4 x5 x6 x7 x8 x9 x10 x11 x12 x13 x14 x15 x16 x17 x18 (fun d => (k d).bind q) := by
  simp only [K___downs_Sampler__Put, bnd_cond, bnd_bind, bnd_none, bnd_sum]
theorem qa___downs_Sampler__Put : ∀ b, (QA___downs_Sampler__Put).em b = ([.r (.c (.ptr 0 (.k 0) 10)), .r (.c (.ptr 1 (.k 0) 1)), .r (.agg [.c (.f (.i .i64 b.1.2.2.1.1)), .c (.f (.i .i64 b.1.2.2.1.2.1)), .c (.f (.i .i64 b.1.2.2.1.2.2.1)), .c (.f (.i .i64 b.1.2.2.1.2.2.2.1)), .c (.f (.i .i64 b.1.2.2.1.2.2.2.2.1)), .c (.f (.i .i64 b.1.2.2.1.2.2.2.2.2.1)), .c (.f (.i .i64 b.1.2.2.1.2.2.2.2.2.2.1)), .c (.f (.i .i64 b.1.2.2.1.2.2.2.2.2.2.2.1))])], [[.c (.f (.i .i64 b.2.1.1)), .c (.f (.i .i64 b.2.1.2.1)), .c (.f (.i .i64 b.2.1.2.2.1)), .c (.f (.i .i64 b.2.1.2.2.2.1)), .c (.f (.i .i64 b.2.1.2.2.2.2.1)), .c (.f (.i .i64 b.2.1.2.2.2.2.2.1)), .c (.f (.i .i64 b.2.1.2.2.2.2.2.2.1)), .c (.f (.i .i64 b.2.1.2.2.2.2.2.2.2.1)), .c (.f (.i .i64 b.2.1.2.2.2.2.2.2.2.2.1)), .c (.f (.b b.2.1.2.2.2.2.2.2.2.2.2.1))], [.c (.f (.b b.2.2.1.1))]]) := fun b => by kernel_rfl
theorem e___downs_Sampler__Put {f : (Int) → (Int) → (Int) → (Int) → (Int) → (Int) → (Int) → (Int) → (Int) → (Int) → (Int) → (Int) → (Int) → (Int) → (Int) → (Int) → (Int) → (Bool) → (Bool) → Option (Int × Int × Int × Int × Int × Int × Int × Int × Bool × Int × Int × Int × Int × Int × Int × Int × Int × Int × Int × Bool × Bool)} {args : List AV} {h : List Blk} {r : Res} (hr : (F___downs_Sampler__Put f args h).eval = some r) : ∃ x0 x1 x2 x3 x4 x5 x6 x7 x8 x9 x10 x11 x12 x13 x14 x15 x16 x17 x18, args = [.r (.c (.ptr 0 (.k 0) 10)), .r (.c (.ptr 1 (.k 0) 1)), .r (.agg [.c (.f (.i .i64 x0)), .c (.f (.i .i64 x1)), .c (.f (.i .i64 x2)), .c (.f (.i .i64 x3)), .c (.f (.i .i64 x4)), .c (.f (.i .i64 x5)), .c (.f (.i .i64 x6)), .c (.f (.i .i64 x7))])] ∧ h = [[.c (.f (.i .i64 x8)), .c (.f (.i .i64 x9)), .c (.f (.i .i64 x10)), .c (.f (.i .i64 x11)), .c (.f (.i .i64 x12)), .c (.f (.i .i64 x13)), .c (.f (.i .i64 x14)), .c (.f (.i .i64 x15)), .c (.f (.i .i64 x16)), .c (.f (.b x17))], [.c (.f (.b x18))]] ∧ (f x0 x1 x2 x3 x4 x5 x6 x7 x8 x9 x10 x11 x12 x13 x14 x15 x16 x17 x18).bind (fun (d : Int × Int × Int × Int × Int × Int × Int × Int × Bool × Int × Int × Int × Int × Int × Int × Int × Int × Int × Int × Bool × Bool) => some (Res.mk
    (AV.tup
      [RV.agg
          [Sg.c (CV.f (FV.i IntKind.i64 d.fst)), Sg.c (CV.f (FV.i IntKind.i64 d.snd.fst)), Sg.c (CV.f (FV.i IntKind.i64 d.snd.snd.fst)), Sg.c (CV.f (FV.i IntKind.i64 d.snd.snd.snd.fst)),
            Sg.c (CV.f (FV.i IntKind.i64 d.snd.snd.snd.snd.fst)), Sg.c (CV.f (FV.i IntKind.i64 d.snd.snd.snd.snd.snd.fst)), Sg.c (CV.f (FV.i IntKind.i64 d.snd.snd.snd.snd.snd.snd.fst)),
            Sg.c (CV.f (FV.i IntKind.i64 d.snd.snd.snd.snd.snd.snd.snd.fst))],
        RV.c (CV.f (FV.b d.snd.snd.snd.snd.snd.snd.snd.snd.fst)), RV.c (CV.f (FV.i IntKind.i64 d.snd.snd.snd.snd.snd.snd.snd.snd.snd.fst))])
    [Ch.set
        [Sg.c (CV.f (FV.i IntKind.i64 d.snd.snd.snd.snd.snd.snd.snd.snd.snd.snd.fst)), Sg.c (CV.f (FV.i IntKind.i64 d.snd.snd.snd.snd.snd.snd.snd.snd.snd.snd.snd.fst)),
          Sg.c (CV.f (FV.i IntKind.i64 d.snd.snd.snd.snd.snd.snd.snd.snd.snd.snd.snd.snd.fst)), Sg.c (CV.f (FV.i IntKind.i64 d.snd.snd.snd.snd.snd.snd.snd.snd.snd.snd.snd.snd.snd.fst)),
          Sg.c (CV.f (FV.i IntKind.i64 d.snd.snd.snd.snd.snd.snd.snd.snd.snd.snd.snd.snd.snd.snd.fst)),
          Sg.c (CV.f (FV.i IntKind.i64 d.snd.snd.snd.snd.snd.snd.snd.snd.snd.snd.snd.snd.snd.snd.snd.fst)),
          Sg.c (CV.f (FV.i IntKind.i64 d.snd.snd.snd.snd.snd.snd.snd.snd.snd.snd.snd.snd.snd.snd.snd.snd.fst)),
          Sg.c (CV.f (FV.i IntKind.i64 d.snd.snd.snd.snd.snd.snd.snd.snd.snd.snd.snd.snd.snd.snd.snd.snd.snd.fst)),
          Sg.c (CV.f (FV.i IntKind.i64 d.snd.snd.snd.snd.snd.snd.snd.snd.snd.snd.snd.snd.snd.snd.snd.snd.snd.snd.fst)),
          Sg.c (CV.f (FV.b d.snd.snd.snd.snd.snd.snd.snd.snd.snd.snd.snd.snd.snd.snd.snd.snd.snd.snd.snd.fst))],
      Ch.set [Sg.c (CV.f (FV.b d.snd.snd.snd.snd.snd.snd.snd.snd.snd.snd.snd.snd.snd.snd.snd.snd.snd.snd.snd.snd))]]
    [])) = some r := by
  unfold F___downs_Sampler__Put at hr
  split at hr
  · rename_i b hb
    have e := ((QA___downs_Sampler__Put).ok _ _ hb).trans (qa___downs_Sampler__Put b)
    rw [opt_eval2] at hr
    exact ⟨b.1.2.2.1.1, b.1.2.2.1.2.1, b.1.2.2.1.2.2.1, b.1.2.2.1.2.2.2.1, b.1.2.2.1.2.2.2.2.1, b.1.2.2.1.2.2.2.2.2.1, b.1.2.2.1.2.2.2.2.2.2.1, b.1.2.2.1.2.2.2.2.2.2.2.1, b.2.1.1, b.2.1.2.1, b.2.1.2.2.1, b.2.1.2.2.2.1, b.2.1.2.2.2.2.1, b.2.1.2.2.2.2.2.1, b.2.1.2.2.2.2.2.2.1, b.2.1.2.2.2.2.2.2.2.1, b.2.1.2.2.2.2.2.2.2.2.1, b.2.1.2.2.2.2.2.2.2.2.2.1, b.2.2.1.1, (Prod.mk.inj e).1, (Prod.mk.inj e).2, hr⟩
  · cases hr
theorem n___downs_Sampler__Put {σ : Type} (q : (Int × Int × Int × Int × Int × Int × Int × Int × Bool × Int × Int × Int × Int × Int × Int × Int × Int × Int × Int × Bool × Bool) → Option σ) (x0 : Int) (x1 : Int) (x2 : Int) (x3 : Int) (x4 : Int) (x5 : Int) (x6 : Int) (x7 : Int) (x8 : Int) (x9 : Int) (x10 : Int) (x11 : Int) (x12 : Int) (x13 : Int) (x14 : Int) (x15 : Int) (x16 : Int) (x17 : Bool) (x18 : Bool) : (f___downs_Sampler__Put x0 x1 x2 x3 x4 x5 x6 x7 x8 x9 x10 x11 x12 x13 x14 x15 x16 x17 x18).bind q = K___downs_Sampler__Put f_downs_Good f_downs_plus  x0 x1 x2 x3 x4 x5 x6 x7 x8 x9 x10 x11 x12 x13 x14 x15 x16 x17 x18 q := by
  unfold f___downs_Sampler__Put
  exact m___downs_Sampler__Put q f_downs_Good f_downs_plus   x0 x1 x2 x3 x4 x5 x6 x7 x8 x9 x10 x11 x12 x13 x14 x15 x16 x17 x18 some
theorem s___downs_Sampler__Put : Sound Try.prog 32 (F___downs_Sampler__Put f___downs_Sampler__Put) :=
  (inl_sound (l := [(34, F_downs_Good f_downs_Good), (56, F_downs_plus f_downs_plus)]) (.cons s_downs_Good (.cons s_downs_plus (.nil _))) mixed [] [0, 1] 200 (by kernel_rfl)).by (F := F___downs_Sampler__Put f___downs_Sampler__Put) fun args b r hr => by
  obtain ⟨x0, x1, x2, x3, x4, x5, x6, x7, x8, x9, x10, x11, x12, x13, x14, x15, x16, x17, x18, rfl, rfl, hr1⟩ := e___downs_Sampler__Put hr
  exact inl_eval ((d___downs_Sampler__Put f_downs_Good f_downs_plus  x0 x1 x2 x3 x4 x5 x6 x7 x8 x9 x10 x11 x12 x13 x14 x15 x16 x17 x18).trans ((n___downs_Sampler__Put (fun (d : Int × Int × Int × Int × Int × Int × Int × Int × Bool × Int × Int × Int × Int × Int × Int × Int × Int × Int × Int × Bool × Bool) => some (Res.mk
    (AV.tup
      [RV.agg
          [Sg.c (CV.f (FV.i IntKind.i64 d.fst)), Sg.c (CV.f (FV.i IntKind.i64 d.snd.fst)), Sg.c (CV.f (FV.i IntKind.i64 d.snd.snd.fst)), Sg.c (CV.f (FV.i IntKind.i64 d.snd.snd.snd.fst)),
            Sg.c (CV.f (FV.i IntKind.i64 d.snd.snd.snd.snd.fst)), Sg.c (CV.f (FV.i IntKind.i64 d.snd.snd.snd.snd.snd.fst)), Sg.c (CV.f (FV.i IntKind.i64 d.snd.snd.snd.snd.snd.snd.fst)),
            Sg.c (CV.f (FV.i IntKind.i64 d.snd.snd.snd.snd.snd.snd.snd.fst))],
        RV.c (CV.f (FV.b d.snd.snd.snd.snd.snd.snd.snd.snd.fst)), RV.c (CV.f (FV.i IntKind.i64 d.snd.snd.snd.snd.snd.snd.snd.snd.snd.fst))])
    [Ch.set
        [Sg.c (CV.f (FV.i IntKind.i64 d.snd.snd.snd.snd.snd.snd.snd.snd.snd.snd.fst)), Sg.c (CV.f (FV.i IntKind.i64 d.snd.snd.snd.snd.snd.snd.snd.snd.snd.snd.snd.fst)),
          Sg.c (CV.f (FV.i IntKind.i64 d.snd.snd.snd.snd.snd.snd.snd.snd.snd.snd.snd.snd.fst)), Sg.c (CV.f (FV.i IntKind.i64 d.snd.snd.snd.snd.snd.snd.snd.snd.snd.snd.snd.snd.snd.fst)),
          Sg.c (CV.f (FV.i IntKind.i64 d.snd.snd.snd.snd.snd.snd.snd.snd.snd.snd.snd.snd.snd.snd.fst)),
          Sg.c (CV.f (FV.i IntKind.i64 d.snd.snd.snd.snd.snd.snd.snd.snd.snd.snd.snd.snd.snd.snd.snd.fst)),
          Sg.c (CV.f (FV.i IntKind.i64 d.snd.snd.snd.snd.snd.snd.snd.snd.snd.snd.snd.snd.snd.snd.snd.snd.fst)),
          Sg.c (CV.f (FV.i IntKind.i64 d.snd.snd.snd.snd.snd.snd.snd.snd.snd.snd.snd.snd.snd.snd.snd.snd.snd.fst)),
          Sg.c (CV.f (FV.i IntKind.i64 d.snd.snd.snd.snd.snd.snd.snd.snd.snd.snd.snd.snd.snd.snd.snd.snd.snd.snd.fst)),
          Sg.c (CV.f (FV.b d.snd.snd.snd.snd.snd.snd.snd.snd.snd.snd.snd.snd.snd.snd.snd.snd.snd.snd.snd.fst))],
      Ch.set [Sg.c (CV.f (FV.b d.snd.snd.snd.snd.snd.snd.snd.snd.snd.snd.snd.snd.snd.snd.snd.snd.snd.snd.snd.snd))]]
    [])) x0 x1 x2 x3 x4 x5 x6 x7 x8 x9 x10 x11 x12 x13 x14 x15 x16 x17 x18).symm.trans hr1))

def K___downs_Sampler__Pending {ρ : Type}   (x0 : Int) (x1 : Int) (x2 : Int) (x3 : Int) (x4 : Int) (x5 : Int) (x6 : Int) (x7 : Int) (x8 : Int) (x9 : Bool) (k : (Int) → Option ρ) : Option ρ :=
  k x2
def f___downs_Sampler__Pending (x0 : Int) (x1 : Int) (x2 : Int) (x3 : Int) (x4 : Int) (x5 : Int) (x6 : Int) (x7 : Int) (x8 : Int) (x9 : Bool) : Option (Int) := K___downs_Sampler__Pending   x0 x1 x2 x3 x4 x5 x6 x7 x8 x9 some
section
open Go.Ab.Rdr
def QA___downs_Sampler__Pending := ((pair (cons (ar (rc (cptr (nat 0) (ok' (nat 0)) (nat 10)))) nil) (cons (cons (gc (cf (fi .i64 hole))) (cons (gc (cf (fi .i64 hole))) (cons (gc (cf (fi .i64 hole))) (cons (gc (cf (fi .i64 hole))) (cons (gc (cf (fi .i64 hole))) (cons (gc (cf (fi .i64 hole))) (cons (gc (cf (fi .i64 hole))) (cons (gc (cf (fi .i64 hole))) (cons (gc (cf (fi .i64 hole))) (cons (gc (cf (fb hole))) nil)))))))))) nil)) : Rdr (List AV × List Blk) _)
end
def F___downs_Sampler__Pending (f : (Int) → (Int) → (Int) → (Int) → (Int) → (Int) → (Int) → (Int) → (Int) → (Bool) → Option (Int)) : Sem1 := fun args h => match (QA___downs_Sampler__Pending).rd (args, h) with
  | some b => .opt (f b.2.1.1 b.2.1.2.1 b.2.1.2.2.1 b.2.1.2.2.2.1 b.2.1.2.2.2.2.1 b.2.1.2.2.2.2.2.1 b.2.1.2.2.2.2.2.2.1 b.2.1.2.2.2.2.2.2.2.1 b.2.1.2.2.2.2.2.2.2.2.1 b.2.1.2.2.2.2.2.2.2.2.2.1) fun (d : Int) => .leaf (Res.mk (AV.r (RV.c (CV.f (FV.i IntKind.i64 d)))) [Ch.keep] [])
  | none => .fail
theorem d___downs_Sampler__Pending   (x0 : Int) (x1 : Int) (x2 : Int) (x3 : Int) (x4 : Int) (x5 : Int) (x6 : Int) (x7 : Int) (x8 : Int) (x9 : Bool) : den Try.prog (envOf []) ⟨[], [], []⟩ 200 35 [.r (.c (.ptr 0 (.k 0) 10))] [[.c (.f (.i .i64 x0)), .c (.f (.i .i64 x1)), .c (.f (.i .i64 x2)), .c (.f (.i .i64 x3)), .c (.f (.i .i64 x4)), .c (.f (.i .i64 x5)), .c (.f (.i .i64 x6)), .c (.f (.i .i64 x7)), .c (.f (.i .i64 x8)), .c (.f (.b x9))]] =
    K___downs_Sampler__Pending   x0 x1 x2 x3 x4 x5 x6 x7 x8 x9 (fun (d : Int) => some (Res.mk (AV.r (RV.c (CV.f (FV.i IntKind.i64 d)))) [Ch.keep] [])) := by kernel_rfl
theorem m___downs_Sampler__Pending {ρ σ : Type} (q : ρ → Option σ)    (x0 : Int) (x1 : Int) (x2 : Int) (x3 : Int) (x4 : Int) (x5 : Int) (x6 : Int) (x7 : Int) (x8 : Int) (x9 : Bool) (k : (Int) → Option ρ) : (K___downs_Sampler__Pending   x0 x1 x2 x3 x4 x5 x6 x7 x8 x9 k).bind q = K___downs_Sampler__Pending   x0 x1 x2 x3 x4 x5 x6 x7 x8 x9 (fun d => (k d).bind q) := by
  simp only [K___downs_Sampler__Pending, bnd_cond, bnd_bind, bnd_none, bnd_sum]
theorem qa___downs_Sampler__Pending : ∀ b, (QA___downs_Sampler__Pending).em b = ([.r (.c (.ptr 0 (.k 0) 10))], [[.c (.f (.i .i64 b.2.1.1)), .c (.f (.i .i64 b.2.1.2.1)), .c (.f (.i .i64 b.2.1.2.2.1)), .c (.f (.i .i64 b.2.1.2.2.2.1)), .c (.f (.i .i64 b.2.1.2.2.2.2.1)), .c (.f (.i .i64 b.2.1.2.2.2.2.2.1)), .c (.f (.i .i64 b.2.1.2.2.2.2.2.2.1)), .c (.f (.i .i64 b.2.1.2.2.2.2.2.2.2.1)), .c (.f (.i .i64 b.2.1.2.2.2.2.2.2.2.2.1)), .c (.f (.b b.2.1.2.2.2.2.2.2.2.2.2.1))]]) := fun b => by kernel_rfl
theorem e___downs_Sampler__Pending {f : (Int) → (Int) → (Int) → (Int) → (Int) → (Int) → (Int) → (Int) → (Int) → (Bool) → Option (Int)} {args : List AV} {h : List Blk} {r : Res} (hr : (F___downs_Sampler__Pending f args h).eval = some r) : ∃ x0 x1 x2 x3 x4 x5 x6 x7 x8 x9, args = [.r (.c (.ptr 0 (.k 0) 10))] ∧ h = [[.c (.f (.i .i64 x0)), .c (.f (.i .i64 x1)), .c (.f (.i .i64 x2)), .c (.f (.i .i64 x3)), .c (.f (.i .i64 x4)), .c (.f (.i .i64 x5)), .c (.f (.i .i64 x6)), .c (.f (.i .i64 x7)), .c (.f (.i .i64 x8)), .c (.f (.b x9))]] ∧ (f x0 x1 x2 x3 x4 x5 x6 x7 x8 x9).bind (fun (d : Int) => some (Res.mk (AV.r (RV.c (CV.f (FV.i IntKind.i64 d)))) [Ch.keep] [])) = some r := by
  unfold F___downs_Sampler__Pending at hr
  split at hr
  · rename_i b hb
    have e := ((QA___downs_Sampler__Pending).ok _ _ hb).trans (qa___downs_Sampler__Pending b)
    rw [opt_eval2] at hr
    exact ⟨b.2.1.1, b.2.1.2.1, b.2.1.2.2.1, b.2.1.2.2.2.1, b.2.1.2.2.2.2.1, b.2.1.2.2.2.2.2.1, b.2.1.2.2.2.2.2.2.1, b.2.1.2.2.2.2.2.2.2.1, b.2.1.2.2.2.2.2.2.2.2.1, b.2.1.2.2.2.2.2.2.2.2.2.1, (Prod.mk.inj e).1, (Prod.mk.inj e).2, hr⟩
  · cases hr
theorem n___downs_Sampler__Pending {σ : Type} (q : (Int) → Option σ) (x0 : Int) (x1 : Int) (x2 : Int) (x3 : Int) (x4 : Int) (x5 : Int) (x6 : Int) (x7 : Int) (x8 : Int) (x9 : Bool) : (f___downs_Sampler__Pending x0 x1 x2 x3 x4 x5 x6 x7 x8 x9).bind q = K___downs_Sampler__Pending   x0 x1 x2 x3 x4 x5 x6 x7 x8 x9 q := by
  unfold f___downs_Sampler__Pending
  exact m___downs_Sampler__Pending q    x0 x1 x2 x3 x4 x5 x6 x7 x8 x9 some
theorem s___downs_Sampler__Pending : Sound Try.prog 35 (F___downs_Sampler__Pending f___downs_Sampler__Pending) :=
  (inl_sound (l := []) (.nil _) mixed [] [] 200 (by kernel_rfl)).by (F := F___downs_Sampler__Pending f___downs_Sampler__Pending) fun args b r hr => by
  obtain ⟨x0, x1, x2, x3, x4, x5, x6, x7, x8, x9, rfl, rfl, hr1⟩ := e___downs_Sampler__Pending hr
  exact inl_eval ((d___downs_Sampler__Pending   x0 x1 x2 x3 x4 x5 x6 x7 x8 x9).trans ((n___downs_Sampler__Pending (fun (d : Int) => some (Res.mk (AV.r (RV.c (CV.f (FV.i IntKind.i64 d)))) [Ch.keep] [])) x0 x1 x2 x3 x4 x5 x6 x7 x8 x9).symm.trans hr1))

end Go.Proofs.Ytmlmpcabphgfaaa
