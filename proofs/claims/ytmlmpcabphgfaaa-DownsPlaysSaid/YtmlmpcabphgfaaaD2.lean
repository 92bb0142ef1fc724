/-
  Contracts by plain functions: downs.Join, astrolabelaw14.awake, astrolabelaw14.DownsKnown
-/
import Derived.Test.YtmlmpcabphgfaaaD1
set_option maxRecDepth 100000
set_option maxHeartbeats 4000000
set_option linter.unusedVariables false
namespace Go.Proofs.Ytmlmpcabphgfaaa
open Go.Ab
def S_downs_Join_0 {ρ : Type} (g_downs_Good : Int → Int → Int → Int → Int → Int → Int → Int → Option Bool) (g_downs_plus : Int → Int → Int → Int → Int → Int → Int → Int → Int → Int → Int → Int → Int → Int → Int → Int → Bool → Option (Int × Int × Int × Int × Int × Int × Int × Int × Bool))  (x0 : Nat) (x1 : Bool) (x2 : Nat) (x3 : Bool) (x4 : Int) (x5 : Int) (x6 : Bool) (x7 : Nat) (x8 : Nat → Int) (x9 : Nat → Int) (x10 : Nat → Int) (x11 : Nat → Int) (x12 : Nat → Int) (x13 : Nat → Int) (x14 : Nat → Int) (x15 : Nat → Int) (x16 : Int) (x17 : Int) (x18 : Int) (x19 : Int) (x20 : Int) (x21 : Int) (x22 : Int) (x23 : Int) (c : (Nat ×
  Bool ×
    Nat × Bool × Int × Int × Bool × Nat × (Nat → Int) × (Nat → Int) × (Nat → Int) × (Nat → Int) × (Nat → Int) × (Nat → Int) × (Nat → Int) × (Nat → Int) × Int × Int × Int × Int × Int × Int × Int × Int) → Option ρ) (x : (Bool × Nat × (Nat → Int) × (Nat → Int) × (Nat → Int) × (Nat → Int) × (Nat → Int) × (Nat → Int) × (Nat → Int) × (Nat → Int) ⊕
  Nat ×
    Bool ×
      Nat ×
        Bool ×
          Int × Int × Bool × Bool × Nat × (Nat → Int) × (Nat → Int) × (Nat → Int) × (Nat → Int) × (Nat → Int) × (Nat → Int) × (Nat → Int) × (Nat → Int) × Int × Int × Int × Int × Int × Int × Int × Int) → Option ρ) : Option ρ :=
  bif decide (x5 < x4) then
    bif inR x5 x2 then
      Option.bind (g_downs_Good (x8 (Int.toNat x5)) (x9 (Int.toNat x5)) (x10 (Int.toNat x5)) (x11 (Int.toNat x5)) (x12 (Int.toNat x5)) (x13 (Int.toNat x5)) (x14 (Int.toNat x5)) (x15 (Int.toNat x5)))
        fun (d : Bool) =>
        bif !d then x (Sum.inl (x6, x7, x8, x9, x10, x11, x12, x13, x14, x15))
        else
          bif decide (x5 > 0) then
            bif inR (IntKind.wrap IntKind.i64 (x5 - 1)) x0 then
              bif decide (x8 (Int.toNat x5) ≤ x8 (Int.toNat (IntKind.wrap IntKind.i64 (x5 - 1)))) then x (Sum.inl (x6, x7, x8, x9, x10, x11, x12, x13, x14, x15))
              else
                Option.bind
                  (g_downs_plus x16 x17 x18 x19 x20 x21 x22 x23 (x8 (Int.toNat x5)) (x9 (Int.toNat x5)) (x10 (Int.toNat x5)) (x11 (Int.toNat x5)) (x12 (Int.toNat x5)) (x13 (Int.toNat x5))
                    (x14 (Int.toNat x5)) (x15 (Int.toNat x5)) x6)
                  fun (d : Int × Int × Int × Int × Int × Int × Int × Int × Bool) =>
                  c
                    (x0, x1, x2, x3, x4, IntKind.wrap IntKind.i64 (x5 + 1), d.2.2.2.2.2.2.2.2, x7, x8, x9, x10, x11, x12, x13, x14, x15, d.1, d.2.1, d.2.2.1,
                      d.2.2.2.1, d.2.2.2.2.1, d.2.2.2.2.2.1, d.2.2.2.2.2.2.1, d.2.2.2.2.2.2.2.1)
            else none
          else
            Option.bind
              (g_downs_plus x16 x17 x18 x19 x20 x21 x22 x23 (x8 (Int.toNat x5)) (x9 (Int.toNat x5)) (x10 (Int.toNat x5)) (x11 (Int.toNat x5)) (x12 (Int.toNat x5)) (x13 (Int.toNat x5))
                (x14 (Int.toNat x5)) (x15 (Int.toNat x5)) x6)
              fun (d : Int × Int × Int × Int × Int × Int × Int × Int × Bool) =>
              c
                (x0, x1, x2, x3, x4, IntKind.wrap IntKind.i64 (x5 + 1), d.2.2.2.2.2.2.2.2, x7, x8, x9, x10, x11, x12, x13, x14, x15, d.1, d.2.1, d.2.2.1, d.2.2.2.1,
                  d.2.2.2.2.1, d.2.2.2.2.2.1, d.2.2.2.2.2.2.1, d.2.2.2.2.2.2.2.1)
    else none
  else x (Sum.inr (x0, x1, x2, x3, x4, x5, decide (x5 < x4), x6, x7, x8, x9, x10, x11, x12, x13, x14, x15, x16, x17, x18, x19, x20, x21, x22, x23))
section
open Go.Ab.Rdr
def Q_downs_Join_0 := (st (cons (ar (rc (cptr (nat 0) (ok' (nat 0)) (nat 1)))) (cons (ar (rc (csl (nat 1) (ok' (nat 0)) (szs hole) (nat 8) hole))) (cons aund (cons (atup nil) (cons (ar (rc (cptr (nat 2) (ok' (nat 0)) (nat 8)))) (cons aund (cons (ar (rc (cptr (nat 3) (ok' (nat 0)) (nat 8)))) (cons aund (cons aund (cons (ar (rc (csl (nat 1) (ok' (nat 0)) (szs hole) (nat 8) hole))) (cons (ar (rc (cf (fi .i64 hole)))) (cons (ar (rc (cf (fi .i64 hole)))) (cons aund (cons aund (cons aund (cons aund (cons aund (cons aund (cons aund (cons aund (cons aund (cons aund (cons aund (cons aund (cons aund (cons aund (cons aund (cons aund (cons aund (cons aund (cons aund (cons aund (cons aund (cons aund (cons aund (cons aund (cons aund (cons aund (cons aund (cons aund (cons aund (cons aund (cons aund (cons aund (cons aund nil))))))))))))))))))))))))))))))))))))))))))))) (cons (some' (cons (gc (cf (fb hole))) nil)) (cons (some' (cons (ga (szs hole) (cons (ki .i64 hole) (cons (ki .i64 hole) (cons (ki .i64 hole) (cons (ki .i64 hole) (cons (ki .i64 hole) (cons (ki .i64 hole) (cons (ki .i64 hole) (cons (ki .i64 hole) nil))))))))) nil)) (cons (some' (cons (gc (cf (fi .i64 (int 0)))) (cons (gc (cf (fi .i64 (int 0)))) (cons (gc (cf (fi .i64 (int 0)))) (cons (gc (cf (fi .i64 (int 0)))) (cons (gc (cf (fi .i64 (int 0)))) (cons (gc (cf (fi .i64 (int 0)))) (cons (gc (cf (fi .i64 (int 0)))) (cons (gc (cf (fi .i64 (int 0)))) nil))))))))) (cons (some' (cons (gc (cf (fi .i64 hole))) (cons (gc (cf (fi .i64 hole))) (cons (gc (cf (fi .i64 hole))) (cons (gc (cf (fi .i64 hole))) (cons (gc (cf (fi .i64 hole))) (cons (gc (cf (fi .i64 hole))) (cons (gc (cf (fi .i64 hole))) (cons (gc (cf (fi .i64 hole))) nil))))))))) nil)))) (cons (nat 0) nil))
end
theorem q_downs_Join_0 : ∀ b, (Q_downs_Join_0).em b = St.mk
    [AV.r (RV.c (CV.ptr 0 (Off.k 0) 1)), AV.r (RV.c (CV.sl 1 (Off.k 0) (Sz.s b.1.2.1.2.2.1) 8 b.1.2.1.2.2.2.2)), AV.und, AV.tup [], AV.r (RV.c (CV.ptr 2 (Off.k 0) 8)), AV.und, AV.r (RV.c (CV.ptr 3 (Off.k 0) 8)), AV.und,
      AV.und, AV.r (RV.c (CV.sl 1 (Off.k 0) (Sz.s b.1.2.2.2.2.2.2.2.2.2.1.2.2.1) 8 b.1.2.2.2.2.2.2.2.2.2.1.2.2.2.2)), AV.r (RV.c (CV.f (FV.i IntKind.i64 b.1.2.2.2.2.2.2.2.2.2.2.1))), AV.r (RV.c (CV.f (FV.i IntKind.i64 b.1.2.2.2.2.2.2.2.2.2.2.2.1))), AV.und, AV.und, AV.und, AV.und, AV.und, AV.und, AV.und,
      AV.und, AV.und, AV.und, AV.und, AV.und, AV.und, AV.und, AV.und, AV.und, AV.und, AV.und, AV.und, AV.und, AV.und, AV.und, AV.und, AV.und, AV.und, AV.und, AV.und, AV.und, AV.und, AV.und, AV.und,
      AV.und, AV.und]
    [some [Sg.c (CV.f (FV.b b.2.1.1.1))],
      some
        [Sg.a (Sz.s b.2.1.2.1.1.1)
            [Col.i IntKind.i64 b.2.1.2.1.1.2.1, Col.i IntKind.i64 b.2.1.2.1.1.2.2.1, Col.i IntKind.i64 b.2.1.2.1.1.2.2.2.1, Col.i IntKind.i64 b.2.1.2.1.1.2.2.2.2.1, Col.i IntKind.i64 b.2.1.2.1.1.2.2.2.2.2.1, Col.i IntKind.i64 b.2.1.2.1.1.2.2.2.2.2.2.1, Col.i IntKind.i64 b.2.1.2.1.1.2.2.2.2.2.2.2.1, Col.i IntKind.i64 b.2.1.2.1.1.2.2.2.2.2.2.2.2.1]],
      some
        [Sg.c (CV.f (FV.i IntKind.i64 0)), Sg.c (CV.f (FV.i IntKind.i64 0)), Sg.c (CV.f (FV.i IntKind.i64 0)), Sg.c (CV.f (FV.i IntKind.i64 0)), Sg.c (CV.f (FV.i IntKind.i64 0)),
          Sg.c (CV.f (FV.i IntKind.i64 0)), Sg.c (CV.f (FV.i IntKind.i64 0)), Sg.c (CV.f (FV.i IntKind.i64 0))],
      some
        [Sg.c (CV.f (FV.i IntKind.i64 b.2.1.2.2.2.1.1)), Sg.c (CV.f (FV.i IntKind.i64 b.2.1.2.2.2.1.2.1)), Sg.c (CV.f (FV.i IntKind.i64 b.2.1.2.2.2.1.2.2.1)), Sg.c (CV.f (FV.i IntKind.i64 b.2.1.2.2.2.1.2.2.2.1)), Sg.c (CV.f (FV.i IntKind.i64 b.2.1.2.2.2.1.2.2.2.2.1)),
          Sg.c (CV.f (FV.i IntKind.i64 b.2.1.2.2.2.1.2.2.2.2.2.1)), Sg.c (CV.f (FV.i IntKind.i64 b.2.1.2.2.2.1.2.2.2.2.2.2.1)), Sg.c (CV.f (FV.i IntKind.i64 b.2.1.2.2.2.1.2.2.2.2.2.2.2.1))]]
    [0] := fun b => by kernel_rfl
def R_downs_Join_0 (l : ∀ {ρ : Type}, (Nat ×
  Bool ×
    Nat × Bool × Int × Int × Bool × Nat × (Nat → Int) × (Nat → Int) × (Nat → Int) × (Nat → Int) × (Nat → Int) × (Nat → Int) × (Nat → Int) × (Nat → Int) × Int × Int × Int × Int × Int × Int × Int × Int) → ((Bool × Nat × (Nat → Int) × (Nat → Int) × (Nat → Int) × (Nat → Int) × (Nat → Int) × (Nat → Int) × (Nat → Int) × (Nat → Int) ⊕
  Nat ×
    Bool ×
      Nat ×
        Bool ×
          Int × Int × Bool × Bool × Nat × (Nat → Int) × (Nat → Int) × (Nat → Int) × (Nat → Int) × (Nat → Int) × (Nat → Int) × (Nat → Int) × (Nat → Int) × Int × Int × Int × Int × Int × Int × Int × Int) → Option ρ) → Option ρ) {ρ : Type} (s : St) (K : AX → St → Option ρ) : Option ρ := ((Q_downs_Join_0).rd s).bind fun b => l (b.1.2.1.2.2.1, b.1.2.1.2.2.2.2, b.1.2.2.2.2.2.2.2.2.2.1.2.2.1, b.1.2.2.2.2.2.2.2.2.2.1.2.2.2.2, b.1.2.2.2.2.2.2.2.2.2.2.1, b.1.2.2.2.2.2.2.2.2.2.2.2.1, b.2.1.1.1, b.2.1.2.1.1.1, b.2.1.2.1.1.2.1, b.2.1.2.1.1.2.2.1, b.2.1.2.1.1.2.2.2.1, b.2.1.2.1.1.2.2.2.2.1, b.2.1.2.1.1.2.2.2.2.2.1, b.2.1.2.1.1.2.2.2.2.2.2.1, b.2.1.2.1.1.2.2.2.2.2.2.2.1, b.2.1.2.1.1.2.2.2.2.2.2.2.2.1, b.2.1.2.2.2.1.1, b.2.1.2.2.2.1.2.1, b.2.1.2.2.2.1.2.2.1, b.2.1.2.2.2.1.2.2.2.1, b.2.1.2.2.2.1.2.2.2.2.1, b.2.1.2.2.2.1.2.2.2.2.2.1, b.2.1.2.2.2.1.2.2.2.2.2.2.1, b.2.1.2.2.2.1.2.2.2.2.2.2.2.1) (Sum.elim (fun d => K (AX.ret) (St.mk
  [AV.und, AV.und, AV.und, AV.und, AV.r (RV.c (CV.ptr 2 (Off.k 0) 8)), AV.r (RV.c (CV.f (FV.i IntKind.i64 1))), AV.und, AV.und, AV.und, AV.und, AV.und, AV.und, AV.und, AV.und, AV.und, AV.und, AV.und,
    AV.und, AV.und, AV.und, AV.und, AV.und, AV.und, AV.und, AV.und, AV.und, AV.und, AV.und, AV.und, AV.und, AV.und, AV.und, AV.und, AV.und, AV.und, AV.und, AV.und, AV.und, AV.und, AV.und, AV.und,
    AV.und, AV.und, AV.und, AV.und]
  [some [Sg.c (CV.f (FV.b d.1))],
    some
      [Sg.a (Sz.s d.2.1)
          [Col.i IntKind.i64 d.2.2.1, Col.i IntKind.i64 d.2.2.2.1, Col.i IntKind.i64 d.2.2.2.2.1, Col.i IntKind.i64 d.2.2.2.2.2.1,
            Col.i IntKind.i64 d.2.2.2.2.2.2.1, Col.i IntKind.i64 d.2.2.2.2.2.2.2.1, Col.i IntKind.i64 d.2.2.2.2.2.2.2.2.1,
            Col.i IntKind.i64 d.2.2.2.2.2.2.2.2.2]],
    some
      [Sg.c (CV.f (FV.i IntKind.i64 0)), Sg.c (CV.f (FV.i IntKind.i64 0)), Sg.c (CV.f (FV.i IntKind.i64 0)), Sg.c (CV.f (FV.i IntKind.i64 0)), Sg.c (CV.f (FV.i IntKind.i64 0)),
        Sg.c (CV.f (FV.i IntKind.i64 0)), Sg.c (CV.f (FV.i IntKind.i64 0)), Sg.c (CV.f (FV.i IntKind.i64 0))]]
  [0])) (fun d => K (AX.ex 0) (St.mk
  [AV.r (RV.c (CV.ptr 0 (Off.k 0) 1)), AV.r (RV.c (CV.sl 1 (Off.k 0) (Sz.s d.1) 8 d.2.1)), AV.und, AV.tup [], AV.r (RV.c (CV.ptr 2 (Off.k 0) 8)), AV.und, AV.r (RV.c (CV.ptr 3 (Off.k 0) 8)),
    AV.und, AV.und, AV.r (RV.c (CV.sl 1 (Off.k 0) (Sz.s d.2.2.1) 8 d.2.2.2.1)), AV.r (RV.c (CV.f (FV.i IntKind.i64 d.2.2.2.2.1))),
    AV.r (RV.c (CV.f (FV.i IntKind.i64 d.2.2.2.2.2.1))), AV.r (RV.c (CV.f (FV.b d.2.2.2.2.2.2.1))), AV.und, AV.und, AV.und, AV.und, AV.und, AV.und, AV.und, AV.und, AV.und,
    AV.und, AV.und, AV.und, AV.und, AV.und, AV.und, AV.und, AV.und, AV.und, AV.und, AV.und, AV.und, AV.und, AV.und, AV.und, AV.und, AV.und, AV.und, AV.und, AV.und, AV.und, AV.und, AV.und]
  [some [Sg.c (CV.f (FV.b d.2.2.2.2.2.2.2.1))],
    some
      [Sg.a (Sz.s d.2.2.2.2.2.2.2.2.1)
          [Col.i IntKind.i64 d.2.2.2.2.2.2.2.2.2.1, Col.i IntKind.i64 d.2.2.2.2.2.2.2.2.2.2.1,
            Col.i IntKind.i64 d.2.2.2.2.2.2.2.2.2.2.2.1, Col.i IntKind.i64 d.2.2.2.2.2.2.2.2.2.2.2.2.1,
            Col.i IntKind.i64 d.2.2.2.2.2.2.2.2.2.2.2.2.2.1, Col.i IntKind.i64 d.2.2.2.2.2.2.2.2.2.2.2.2.2.2.1,
            Col.i IntKind.i64 d.2.2.2.2.2.2.2.2.2.2.2.2.2.2.2.1, Col.i IntKind.i64 d.2.2.2.2.2.2.2.2.2.2.2.2.2.2.2.2.1]],
    some
      [Sg.c (CV.f (FV.i IntKind.i64 0)), Sg.c (CV.f (FV.i IntKind.i64 0)), Sg.c (CV.f (FV.i IntKind.i64 0)), Sg.c (CV.f (FV.i IntKind.i64 0)), Sg.c (CV.f (FV.i IntKind.i64 0)),
        Sg.c (CV.f (FV.i IntKind.i64 0)), Sg.c (CV.f (FV.i IntKind.i64 0)), Sg.c (CV.f (FV.i IntKind.i64 0))],
    some
      [Sg.c (CV.f (FV.i IntKind.i64 d.2.2.2.2.2.2.2.2.2.2.2.2.2.2.2.2.2.1)),
        Sg.c (CV.f (FV.i IntKind.i64 d.2.2.2.2.2.2.2.2.2.2.2.2.2.2.2.2.2.2.1)),
        Sg.c (CV.f (FV.i IntKind.i64 d.2.2.2.2.2.2.2.2.2.2.2.2.2.2.2.2.2.2.2.1)),
        Sg.c (CV.f (FV.i IntKind.i64 d.2.2.2.2.2.2.2.2.2.2.2.2.2.2.2.2.2.2.2.2.1)),
        Sg.c (CV.f (FV.i IntKind.i64 d.2.2.2.2.2.2.2.2.2.2.2.2.2.2.2.2.2.2.2.2.2.1)),
        Sg.c (CV.f (FV.i IntKind.i64 d.2.2.2.2.2.2.2.2.2.2.2.2.2.2.2.2.2.2.2.2.2.2.1)),
        Sg.c (CV.f (FV.i IntKind.i64 d.2.2.2.2.2.2.2.2.2.2.2.2.2.2.2.2.2.2.2.2.2.2.2.1)),
        Sg.c (CV.f (FV.i IntKind.i64 d.2.2.2.2.2.2.2.2.2.2.2.2.2.2.2.2.2.2.2.2.2.2.2.2))]]
  [0])))
theorem ms_downs_Join_0 {ρ σ : Type} (g_downs_Good : Int → Int → Int → Int → Int → Int → Int → Int → Option Bool) (g_downs_plus : Int → Int → Int → Int → Int → Int → Int → Int → Int → Int → Int → Int → Int → Int → Int → Int → Bool → Option (Int × Int × Int × Int × Int × Int × Int × Int × Bool))   (q : ρ → Option σ) (x0 : Nat) (x1 : Bool) (x2 : Nat) (x3 : Bool) (x4 : Int) (x5 : Int) (x6 : Bool) (x7 : Nat) (x8 : Nat → Int) (x9 : Nat → Int) (x10 : Nat → Int) (x11 : Nat → Int) (x12 : Nat → Int) (x13 : Nat → Int) (x14 : Nat → Int) (x15 : Nat → Int) (x16 : Int) (x17 : Int) (x18 : Int) (x19 : Int) (x20 : Int) (x21 : Int) (x22 : Int) (x23 : Int) (c : (Nat ×
  Bool ×
    Nat × Bool × Int × Int × Bool × Nat × (Nat → Int) × (Nat → Int) × (Nat → Int) × (Nat → Int) × (Nat → Int) × (Nat → Int) × (Nat → Int) × (Nat → Int) × Int × Int × Int × Int × Int × Int × Int × Int) → Option ρ) (x : (Bool × Nat × (Nat → Int) × (Nat → Int) × (Nat → Int) × (Nat → Int) × (Nat → Int) × (Nat → Int) × (Nat → Int) × (Nat → Int) ⊕
  Nat ×
    Bool ×
      Nat ×
        Bool ×
          Int × Int × Bool × Bool × Nat × (Nat → Int) × (Nat → Int) × (Nat → Int) × (Nat → Int) × (Nat → Int) × (Nat → Int) × (Nat → Int) × (Nat → Int) × Int × Int × Int × Int × Int × Int × Int × Int) → Option ρ) : (S_downs_Join_0 g_downs_Good g_downs_plus  x0 x1 x2 x3 x4 x5 x6 x7 x8 x9 x10 x11 x12 x13 x14 x15 x16 x17 x18 x19 x20 x21 x22 x23 c x).bind q = S_downs_Join_0 g_downs_Good g_downs_plus  x0 x1 x2 x3 x4 x5 x6 x7 x8 x9 x10 x11 x12 x13 x14 x15 x16 x17 x18 x19 x20 x21 x22 x23 (fun d => (c d).bind q) (fun d => (x d).bind q) := by
  simp only [S_downs_Join_0, bnd_cond, bnd_bind, bnd_none, bnd_sum]
def L_downs_Join_0 {ρ : Type} (d : Nat ×
  Bool ×
    Nat × Bool × Int × Int × Bool × Nat × (Nat → Int) × (Nat → Int) × (Nat → Int) × (Nat → Int) × (Nat → Int) × (Nat → Int) × (Nat → Int) × (Nat → Int) × Int × Int × Int × Int × Int × Int × Int × Int) (k : (Bool × Nat × (Nat → Int) × (Nat → Int) × (Nat → Int) × (Nat → Int) × (Nat → Int) × (Nat → Int) × (Nat → Int) × (Nat → Int) ⊕
  Nat ×
    Bool ×
      Nat ×
        Bool ×
          Int × Int × Bool × Bool × Nat × (Nat → Int) × (Nat → Int) × (Nat → Int) × (Nat → Int) × (Nat → Int) × (Nat → Int) × (Nat → Int) × (Nat → Int) × Int × Int × Int × Int × Int × Int × Int × Int) → Option ρ) : Option ρ := loopK (fun d c x => S_downs_Join_0 f_downs_Good f_downs_plus  d.1 d.2.1 d.2.2.1 d.2.2.2.1 d.2.2.2.2.1 d.2.2.2.2.2.1 d.2.2.2.2.2.2.1 d.2.2.2.2.2.2.2.1 d.2.2.2.2.2.2.2.2.1 d.2.2.2.2.2.2.2.2.2.1 d.2.2.2.2.2.2.2.2.2.2.1 d.2.2.2.2.2.2.2.2.2.2.2.1 d.2.2.2.2.2.2.2.2.2.2.2.2.1 d.2.2.2.2.2.2.2.2.2.2.2.2.2.1 d.2.2.2.2.2.2.2.2.2.2.2.2.2.2.1 d.2.2.2.2.2.2.2.2.2.2.2.2.2.2.2.1 d.2.2.2.2.2.2.2.2.2.2.2.2.2.2.2.2.1 d.2.2.2.2.2.2.2.2.2.2.2.2.2.2.2.2.2.1 d.2.2.2.2.2.2.2.2.2.2.2.2.2.2.2.2.2.2.1 d.2.2.2.2.2.2.2.2.2.2.2.2.2.2.2.2.2.2.2.1 d.2.2.2.2.2.2.2.2.2.2.2.2.2.2.2.2.2.2.2.2.1 d.2.2.2.2.2.2.2.2.2.2.2.2.2.2.2.2.2.2.2.2.2.1 d.2.2.2.2.2.2.2.2.2.2.2.2.2.2.2.2.2.2.2.2.2.2.1 d.2.2.2.2.2.2.2.2.2.2.2.2.2.2.2.2.2.2.2.2.2.2.2 c x) 200 d k
theorem mL_downs_Join_0 {ρ σ : Type} (q : ρ → Option σ) (d : Nat ×
  Bool ×
    Nat × Bool × Int × Int × Bool × Nat × (Nat → Int) × (Nat → Int) × (Nat → Int) × (Nat → Int) × (Nat → Int) × (Nat → Int) × (Nat → Int) × (Nat → Int) × Int × Int × Int × Int × Int × Int × Int × Int) (k : (Bool × Nat × (Nat → Int) × (Nat → Int) × (Nat → Int) × (Nat → Int) × (Nat → Int) × (Nat → Int) × (Nat → Int) × (Nat → Int) ⊕
  Nat ×
    Bool ×
      Nat ×
        Bool ×
          Int × Int × Bool × Bool × Nat × (Nat → Int) × (Nat → Int) × (Nat → Int) × (Nat → Int) × (Nat → Int) × (Nat → Int) × (Nat → Int) × (Nat → Int) × Int × Int × Int × Int × Int × Int × Int × Int) → Option ρ) : (L_downs_Join_0 d k).bind q = L_downs_Join_0 d fun x => (k x).bind q :=
  loopK_bind q (fun d c x => ms_downs_Join_0 f_downs_Good f_downs_plus   q d.1 d.2.1 d.2.2.1 d.2.2.2.1 d.2.2.2.2.1 d.2.2.2.2.2.1 d.2.2.2.2.2.2.1 d.2.2.2.2.2.2.2.1 d.2.2.2.2.2.2.2.2.1 d.2.2.2.2.2.2.2.2.2.1 d.2.2.2.2.2.2.2.2.2.2.1 d.2.2.2.2.2.2.2.2.2.2.2.1 d.2.2.2.2.2.2.2.2.2.2.2.2.1 d.2.2.2.2.2.2.2.2.2.2.2.2.2.1 d.2.2.2.2.2.2.2.2.2.2.2.2.2.2.1 d.2.2.2.2.2.2.2.2.2.2.2.2.2.2.2.1 d.2.2.2.2.2.2.2.2.2.2.2.2.2.2.2.2.1 d.2.2.2.2.2.2.2.2.2.2.2.2.2.2.2.2.2.1 d.2.2.2.2.2.2.2.2.2.2.2.2.2.2.2.2.2.2.1 d.2.2.2.2.2.2.2.2.2.2.2.2.2.2.2.2.2.2.2.1 d.2.2.2.2.2.2.2.2.2.2.2.2.2.2.2.2.2.2.2.2.1 d.2.2.2.2.2.2.2.2.2.2.2.2.2.2.2.2.2.2.2.2.2.1 d.2.2.2.2.2.2.2.2.2.2.2.2.2.2.2.2.2.2.2.2.2.2.1 d.2.2.2.2.2.2.2.2.2.2.2.2.2.2.2.2.2.2.2.2.2.2.2 c x) k _ d
theorem ds_downs_Join_0 {ρ : Type} (g_downs_Good : Int → Int → Int → Int → Int → Int → Int → Int → Option Bool) (g_downs_plus : Int → Int → Int → Int → Int → Int → Int → Int → Int → Int → Int → Int → Int → Int → Int → Int → Bool → Option (Int × Int × Int × Int × Int × Int × Int × Int × Bool)) (l_0 : ∀ {ρ : Type}, (Nat ×
  Bool ×
    Nat × Bool × Int × Int × Bool × Nat × (Nat → Int) × (Nat → Int) × (Nat → Int) × (Nat → Int) × (Nat → Int) × (Nat → Int) × (Nat → Int) × (Nat → Int) × Int × Int × Int × Int × Int × Int × Int × Int) → ((Bool × Nat × (Nat → Int) × (Nat → Int) × (Nat → Int) × (Nat → Int) × (Nat → Int) × (Nat → Int) × (Nat → Int) × (Nat → Int) ⊕
  Nat ×
    Bool ×
      Nat ×
        Bool ×
          Int × Int × Bool × Bool × Nat × (Nat → Int) × (Nat → Int) × (Nat → Int) × (Nat → Int) × (Nat → Int) × (Nat → Int) × (Nat → Int) × (Nat → Int) × Int × Int × Int × Int × Int × Int × Int × Int) → Option ρ) → Option ρ) (x0 : Nat) (x1 : Bool) (x2 : Nat) (x3 : Bool) (x4 : Int) (x5 : Int) (x6 : Bool) (x7 : Nat) (x8 : Nat → Int) (x9 : Nat → Int) (x10 : Nat → Int) (x11 : Nat → Int) (x12 : Nat → Int) (x13 : Nat → Int) (x14 : Nat → Int) (x15 : Nat → Int) (x16 : Int) (x17 : Int) (x18 : Int) (x19 : Int) (x20 : Int) (x21 : Int) (x22 : Int) (x23 : Int) (c : St → Option ρ) (K : AX → St → Option ρ) :
    runC Try.prog (envOf [(34, F_downs_Good g_downs_Good), (56, F_downs_plus g_downs_plus)]) ⟨[⟨3, [2, 5, 7, 8, 12, 13, 14, 15, 16, 17, 18, 19, 33, 34, 35, 36, 37, 38, 39, 40, 41, 42, 43, 44, 20, 21, 22, 32, 23, 24, 25, 26, 27, 28, 29, 30, 31], []⟩], [⟨3, 2, @R_downs_Join_0 (@l_0)⟩], [0], [], (some ⟨0, [0, 1, 2, 3, 6, 7, 8, 9, 10, 11, 12, 13, 14, 15, 16, 17, 18, 19, 20, 21, 22, 23, 24, 25, 26, 27, 28, 29, 30, 31, 32, 33, 34, 35, 36, 37, 38, 39, 40, 41, 42, 43, 44], []⟩)⟩ (tmpsOf Try.prog 33) 2 200 (loopIn Try.prog 33 3)
      (St.mk
    [AV.r (RV.c (CV.ptr 0 (Off.k 0) 1)), AV.r (RV.c (CV.sl 1 (Off.k 0) (Sz.s x0) 8 x1)), AV.und, AV.tup [], AV.r (RV.c (CV.ptr 2 (Off.k 0) 8)), AV.und, AV.r (RV.c (CV.ptr 3 (Off.k 0) 8)), AV.und,
      AV.und, AV.r (RV.c (CV.sl 1 (Off.k 0) (Sz.s x2) 8 x3)), AV.r (RV.c (CV.f (FV.i IntKind.i64 x4))), AV.r (RV.c (CV.f (FV.i IntKind.i64 x5))), AV.und, AV.und, AV.und, AV.und, AV.und, AV.und, AV.und,
      AV.und, AV.und, AV.und, AV.und, AV.und, AV.und, AV.und, AV.und, AV.und, AV.und, AV.und, AV.und, AV.und, AV.und, AV.und, AV.und, AV.und, AV.und, AV.und, AV.und, AV.und, AV.und, AV.und, AV.und,
      AV.und, AV.und]
    [some [Sg.c (CV.f (FV.b x6))],
      some
        [Sg.a (Sz.s x7)
            [Col.i IntKind.i64 x8, Col.i IntKind.i64 x9, Col.i IntKind.i64 x10, Col.i IntKind.i64 x11, Col.i IntKind.i64 x12, Col.i IntKind.i64 x13, Col.i IntKind.i64 x14, Col.i IntKind.i64 x15]],
      some
        [Sg.c (CV.f (FV.i IntKind.i64 0)), Sg.c (CV.f (FV.i IntKind.i64 0)), Sg.c (CV.f (FV.i IntKind.i64 0)), Sg.c (CV.f (FV.i IntKind.i64 0)), Sg.c (CV.f (FV.i IntKind.i64 0)),
          Sg.c (CV.f (FV.i IntKind.i64 0)), Sg.c (CV.f (FV.i IntKind.i64 0)), Sg.c (CV.f (FV.i IntKind.i64 0))],
      some
        [Sg.c (CV.f (FV.i IntKind.i64 x16)), Sg.c (CV.f (FV.i IntKind.i64 x17)), Sg.c (CV.f (FV.i IntKind.i64 x18)), Sg.c (CV.f (FV.i IntKind.i64 x19)), Sg.c (CV.f (FV.i IntKind.i64 x20)),
          Sg.c (CV.f (FV.i IntKind.i64 x21)), Sg.c (CV.f (FV.i IntKind.i64 x22)), Sg.c (CV.f (FV.i IntKind.i64 x23))]]
    [0])
      (next (fun t => t.head 2 ⟨[⟨3, [2, 5, 7, 8, 12, 13, 14, 15, 16, 17, 18, 19, 33, 34, 35, 36, 37, 38, 39, 40, 41, 42, 43, 44, 20, 21, 22, 32, 23, 24, 25, 26, 27, 28, 29, 30, 31], []⟩], [⟨3, 2, @R_downs_Join_0 (@l_0)⟩], [0], [], (some ⟨0, [0, 1, 2, 3, 6, 7, 8, 9, 10, 11, 12, 13, 14, 15, 16, 17, 18, 19, 20, 21, 22, 23, 24, 25, 26, 27, 28, 29, 30, 31, 32, 33, 34, 35, 36, 37, 38, 39, 40, 41, 42, 43, 44], []⟩)⟩ (loopIn Try.prog 33 3)) c K) =
    S_downs_Join_0 g_downs_Good g_downs_plus  x0 x1 x2 x3 x4 x5 x6 x7 x8 x9 x10 x11 x12 x13 x14 x15 x16 x17 x18 x19 x20 x21 x22 x23 (fun d => c (St.mk
  [AV.r (RV.c (CV.ptr 0 (Off.k 0) 1)), AV.r (RV.c (CV.sl 1 (Off.k 0) (Sz.s d.1) 8 d.2.1)), AV.und, AV.tup [], AV.r (RV.c (CV.ptr 2 (Off.k 0) 8)), AV.und, AV.r (RV.c (CV.ptr 3 (Off.k 0) 8)),
    AV.und, AV.und, AV.r (RV.c (CV.sl 1 (Off.k 0) (Sz.s d.2.2.1) 8 d.2.2.2.1)), AV.r (RV.c (CV.f (FV.i IntKind.i64 d.2.2.2.2.1))),
    AV.r (RV.c (CV.f (FV.i IntKind.i64 d.2.2.2.2.2.1))), AV.und, AV.und, AV.und, AV.und, AV.und, AV.und, AV.und, AV.und, AV.und, AV.und, AV.und, AV.und, AV.und, AV.und, AV.und, AV.und,
    AV.und, AV.und, AV.und, AV.und, AV.und, AV.und, AV.und, AV.und, AV.und, AV.und, AV.und, AV.und, AV.und, AV.und, AV.und, AV.und, AV.und]
  [some [Sg.c (CV.f (FV.b d.2.2.2.2.2.2.1))],
    some
      [Sg.a (Sz.s d.2.2.2.2.2.2.2.1)
          [Col.i IntKind.i64 d.2.2.2.2.2.2.2.2.1, Col.i IntKind.i64 d.2.2.2.2.2.2.2.2.2.1, Col.i IntKind.i64 d.2.2.2.2.2.2.2.2.2.2.1,
            Col.i IntKind.i64 d.2.2.2.2.2.2.2.2.2.2.2.1, Col.i IntKind.i64 d.2.2.2.2.2.2.2.2.2.2.2.2.1,
            Col.i IntKind.i64 d.2.2.2.2.2.2.2.2.2.2.2.2.2.1, Col.i IntKind.i64 d.2.2.2.2.2.2.2.2.2.2.2.2.2.2.1,
            Col.i IntKind.i64 d.2.2.2.2.2.2.2.2.2.2.2.2.2.2.2.1]],
    some
      [Sg.c (CV.f (FV.i IntKind.i64 0)), Sg.c (CV.f (FV.i IntKind.i64 0)), Sg.c (CV.f (FV.i IntKind.i64 0)), Sg.c (CV.f (FV.i IntKind.i64 0)), Sg.c (CV.f (FV.i IntKind.i64 0)),
        Sg.c (CV.f (FV.i IntKind.i64 0)), Sg.c (CV.f (FV.i IntKind.i64 0)), Sg.c (CV.f (FV.i IntKind.i64 0))],
    some
      [Sg.c (CV.f (FV.i IntKind.i64 d.2.2.2.2.2.2.2.2.2.2.2.2.2.2.2.2.1)),
        Sg.c (CV.f (FV.i IntKind.i64 d.2.2.2.2.2.2.2.2.2.2.2.2.2.2.2.2.2.1)),
        Sg.c (CV.f (FV.i IntKind.i64 d.2.2.2.2.2.2.2.2.2.2.2.2.2.2.2.2.2.2.1)),
        Sg.c (CV.f (FV.i IntKind.i64 d.2.2.2.2.2.2.2.2.2.2.2.2.2.2.2.2.2.2.2.1)),
        Sg.c (CV.f (FV.i IntKind.i64 d.2.2.2.2.2.2.2.2.2.2.2.2.2.2.2.2.2.2.2.2.1)),
        Sg.c (CV.f (FV.i IntKind.i64 d.2.2.2.2.2.2.2.2.2.2.2.2.2.2.2.2.2.2.2.2.2.1)),
        Sg.c (CV.f (FV.i IntKind.i64 d.2.2.2.2.2.2.2.2.2.2.2.2.2.2.2.2.2.2.2.2.2.2.1)),
        Sg.c (CV.f (FV.i IntKind.i64 d.2.2.2.2.2.2.2.2.2.2.2.2.2.2.2.2.2.2.2.2.2.2.2))]]
  [0])) (Sum.elim (fun d => K (AX.ret) (St.mk
  [AV.und, AV.und, AV.und, AV.und, AV.r (RV.c (CV.ptr 2 (Off.k 0) 8)), AV.r (RV.c (CV.f (FV.i IntKind.i64 1))), AV.und, AV.und, AV.und, AV.und, AV.und, AV.und, AV.und, AV.und, AV.und, AV.und, AV.und,
    AV.und, AV.und, AV.und, AV.und, AV.und, AV.und, AV.und, AV.und, AV.und, AV.und, AV.und, AV.und, AV.und, AV.und, AV.und, AV.und, AV.und, AV.und, AV.und, AV.und, AV.und, AV.und, AV.und, AV.und,
    AV.und, AV.und, AV.und, AV.und]
  [some [Sg.c (CV.f (FV.b d.1))],
    some
      [Sg.a (Sz.s d.2.1)
          [Col.i IntKind.i64 d.2.2.1, Col.i IntKind.i64 d.2.2.2.1, Col.i IntKind.i64 d.2.2.2.2.1, Col.i IntKind.i64 d.2.2.2.2.2.1,
            Col.i IntKind.i64 d.2.2.2.2.2.2.1, Col.i IntKind.i64 d.2.2.2.2.2.2.2.1, Col.i IntKind.i64 d.2.2.2.2.2.2.2.2.1,
            Col.i IntKind.i64 d.2.2.2.2.2.2.2.2.2]],
    some
      [Sg.c (CV.f (FV.i IntKind.i64 0)), Sg.c (CV.f (FV.i IntKind.i64 0)), Sg.c (CV.f (FV.i IntKind.i64 0)), Sg.c (CV.f (FV.i IntKind.i64 0)), Sg.c (CV.f (FV.i IntKind.i64 0)),
        Sg.c (CV.f (FV.i IntKind.i64 0)), Sg.c (CV.f (FV.i IntKind.i64 0)), Sg.c (CV.f (FV.i IntKind.i64 0))]]
  [0])) (fun d => K (AX.ex 0) (St.mk
  [AV.r (RV.c (CV.ptr 0 (Off.k 0) 1)), AV.r (RV.c (CV.sl 1 (Off.k 0) (Sz.s d.1) 8 d.2.1)), AV.und, AV.tup [], AV.r (RV.c (CV.ptr 2 (Off.k 0) 8)), AV.und, AV.r (RV.c (CV.ptr 3 (Off.k 0) 8)),
    AV.und, AV.und, AV.r (RV.c (CV.sl 1 (Off.k 0) (Sz.s d.2.2.1) 8 d.2.2.2.1)), AV.r (RV.c (CV.f (FV.i IntKind.i64 d.2.2.2.2.1))),
    AV.r (RV.c (CV.f (FV.i IntKind.i64 d.2.2.2.2.2.1))), AV.r (RV.c (CV.f (FV.b d.2.2.2.2.2.2.1))), AV.und, AV.und, AV.und, AV.und, AV.und, AV.und, AV.und, AV.und, AV.und,
    AV.und, AV.und, AV.und, AV.und, AV.und, AV.und, AV.und, AV.und, AV.und, AV.und, AV.und, AV.und, AV.und, AV.und, AV.und, AV.und, AV.und, AV.und, AV.und, AV.und, AV.und, AV.und, AV.und]
  [some [Sg.c (CV.f (FV.b d.2.2.2.2.2.2.2.1))],
    some
      [Sg.a (Sz.s d.2.2.2.2.2.2.2.2.1)
          [Col.i IntKind.i64 d.2.2.2.2.2.2.2.2.2.1, Col.i IntKind.i64 d.2.2.2.2.2.2.2.2.2.2.1,
            Col.i IntKind.i64 d.2.2.2.2.2.2.2.2.2.2.2.1, Col.i IntKind.i64 d.2.2.2.2.2.2.2.2.2.2.2.2.1,
            Col.i IntKind.i64 d.2.2.2.2.2.2.2.2.2.2.2.2.2.1, Col.i IntKind.i64 d.2.2.2.2.2.2.2.2.2.2.2.2.2.2.1,
            Col.i IntKind.i64 d.2.2.2.2.2.2.2.2.2.2.2.2.2.2.2.1, Col.i IntKind.i64 d.2.2.2.2.2.2.2.2.2.2.2.2.2.2.2.2.1]],
    some
      [Sg.c (CV.f (FV.i IntKind.i64 0)), Sg.c (CV.f (FV.i IntKind.i64 0)), Sg.c (CV.f (FV.i IntKind.i64 0)), Sg.c (CV.f (FV.i IntKind.i64 0)), Sg.c (CV.f (FV.i IntKind.i64 0)),
        Sg.c (CV.f (FV.i IntKind.i64 0)), Sg.c (CV.f (FV.i IntKind.i64 0)), Sg.c (CV.f (FV.i IntKind.i64 0))],
    some
      [Sg.c (CV.f (FV.i IntKind.i64 d.2.2.2.2.2.2.2.2.2.2.2.2.2.2.2.2.2.1)),
        Sg.c (CV.f (FV.i IntKind.i64 d.2.2.2.2.2.2.2.2.2.2.2.2.2.2.2.2.2.2.1)),
        Sg.c (CV.f (FV.i IntKind.i64 d.2.2.2.2.2.2.2.2.2.2.2.2.2.2.2.2.2.2.2.1)),
        Sg.c (CV.f (FV.i IntKind.i64 d.2.2.2.2.2.2.2.2.2.2.2.2.2.2.2.2.2.2.2.2.1)),
        Sg.c (CV.f (FV.i IntKind.i64 d.2.2.2.2.2.2.2.2.2.2.2.2.2.2.2.2.2.2.2.2.2.1)),
        Sg.c (CV.f (FV.i IntKind.i64 d.2.2.2.2.2.2.2.2.2.2.2.2.2.2.2.2.2.2.2.2.2.2.1)),
        Sg.c (CV.f (FV.i IntKind.i64 d.2.2.2.2.2.2.2.2.2.2.2.2.2.2.2.2.2.2.2.2.2.2.2.1)),
        Sg.c (CV.f (FV.i IntKind.i64 d.2.2.2.2.2.2.2.2.2.2.2.2.2.2.2.2.2.2.2.2.2.2.2.2))]]
  [0]))) := by kernel_rfl
theorem it_downs_Join_0 {ρ : Type} (x0 : Nat) (x1 : Bool) (x2 : Nat) (x3 : Bool) (x4 : Int) (x5 : Int) (x6 : Bool) (x7 : Nat) (x8 : Nat → Int) (x9 : Nat → Int) (x10 : Nat → Int) (x11 : Nat → Int) (x12 : Nat → Int) (x13 : Nat → Int) (x14 : Nat → Int) (x15 : Nat → Int) (x16 : Int) (x17 : Int) (x18 : Int) (x19 : Int) (x20 : Int) (x21 : Int) (x22 : Int) (x23 : Int) (K : AX → St → Option ρ) :
    iter (fun t => t.head 2 ⟨[⟨3, [2, 5, 7, 8, 12, 13, 14, 15, 16, 17, 18, 19, 33, 34, 35, 36, 37, 38, 39, 40, 41, 42, 43, 44, 20, 21, 22, 32, 23, 24, 25, 26, 27, 28, 29, 30, 31], []⟩], [⟨3, 2, @R_downs_Join_0 (@L_downs_Join_0)⟩], [0], [], (some ⟨0, [0, 1, 2, 3, 6, 7, 8, 9, 10, 11, 12, 13, 14, 15, 16, 17, 18, 19, 20, 21, 22, 23, 24, 25, 26, 27, 28, 29, 30, 31, 32, 33, 34, 35, 36, 37, 38, 39, 40, 41, 42, 43, 44], []⟩)⟩ (loopIn Try.prog 33 3)) (runC Try.prog (envOf [(34, F_downs_Good f_downs_Good), (56, F_downs_plus f_downs_plus)]) ⟨[⟨3, [2, 5, 7, 8, 12, 13, 14, 15, 16, 17, 18, 19, 33, 34, 35, 36, 37, 38, 39, 40, 41, 42, 43, 44, 20, 21, 22, 32, 23, 24, 25, 26, 27, 28, 29, 30, 31], []⟩], [⟨3, 2, @R_downs_Join_0 (@L_downs_Join_0)⟩], [0], [], (some ⟨0, [0, 1, 2, 3, 6, 7, 8, 9, 10, 11, 12, 13, 14, 15, 16, 17, 18, 19, 20, 21, 22, 23, 24, 25, 26, 27, 28, 29, 30, 31, 32, 33, 34, 35, 36, 37, 38, 39, 40, 41, 42, 43, 44], []⟩)⟩ (tmpsOf Try.prog 33) 2 200 (loopIn Try.prog 33 3)) K 200
      (St.mk
    [AV.r (RV.c (CV.ptr 0 (Off.k 0) 1)), AV.r (RV.c (CV.sl 1 (Off.k 0) (Sz.s x0) 8 x1)), AV.und, AV.tup [], AV.r (RV.c (CV.ptr 2 (Off.k 0) 8)), AV.und, AV.r (RV.c (CV.ptr 3 (Off.k 0) 8)), AV.und,
      AV.und, AV.r (RV.c (CV.sl 1 (Off.k 0) (Sz.s x2) 8 x3)), AV.r (RV.c (CV.f (FV.i IntKind.i64 x4))), AV.r (RV.c (CV.f (FV.i IntKind.i64 x5))), AV.und, AV.und, AV.und, AV.und, AV.und, AV.und, AV.und,
      AV.und, AV.und, AV.und, AV.und, AV.und, AV.und, AV.und, AV.und, AV.und, AV.und, AV.und, AV.und, AV.und, AV.und, AV.und, AV.und, AV.und, AV.und, AV.und, AV.und, AV.und, AV.und, AV.und, AV.und,
      AV.und, AV.und]
    [some [Sg.c (CV.f (FV.b x6))],
      some
        [Sg.a (Sz.s x7)
            [Col.i IntKind.i64 x8, Col.i IntKind.i64 x9, Col.i IntKind.i64 x10, Col.i IntKind.i64 x11, Col.i IntKind.i64 x12, Col.i IntKind.i64 x13, Col.i IntKind.i64 x14, Col.i IntKind.i64 x15]],
      some
        [Sg.c (CV.f (FV.i IntKind.i64 0)), Sg.c (CV.f (FV.i IntKind.i64 0)), Sg.c (CV.f (FV.i IntKind.i64 0)), Sg.c (CV.f (FV.i IntKind.i64 0)), Sg.c (CV.f (FV.i IntKind.i64 0)),
          Sg.c (CV.f (FV.i IntKind.i64 0)), Sg.c (CV.f (FV.i IntKind.i64 0)), Sg.c (CV.f (FV.i IntKind.i64 0))],
      some
        [Sg.c (CV.f (FV.i IntKind.i64 x16)), Sg.c (CV.f (FV.i IntKind.i64 x17)), Sg.c (CV.f (FV.i IntKind.i64 x18)), Sg.c (CV.f (FV.i IntKind.i64 x19)), Sg.c (CV.f (FV.i IntKind.i64 x20)),
          Sg.c (CV.f (FV.i IntKind.i64 x21)), Sg.c (CV.f (FV.i IntKind.i64 x22)), Sg.c (CV.f (FV.i IntKind.i64 x23))]]
    [0]) = L_downs_Join_0 (x0, x1, x2, x3, x4, x5, x6, x7, x8, x9, x10, x11, x12, x13, x14, x15, x16, x17, x18, x19, x20, x21, x22, x23) (Sum.elim (fun d => K (AX.ret) (St.mk
  [AV.und, AV.und, AV.und, AV.und, AV.r (RV.c (CV.ptr 2 (Off.k 0) 8)), AV.r (RV.c (CV.f (FV.i IntKind.i64 1))), AV.und, AV.und, AV.und, AV.und, AV.und, AV.und, AV.und, AV.und, AV.und, AV.und, AV.und,
    AV.und, AV.und, AV.und, AV.und, AV.und, AV.und, AV.und, AV.und, AV.und, AV.und, AV.und, AV.und, AV.und, AV.und, AV.und, AV.und, AV.und, AV.und, AV.und, AV.und, AV.und, AV.und, AV.und, AV.und,
    AV.und, AV.und, AV.und, AV.und]
  [some [Sg.c (CV.f (FV.b d.1))],
    some
      [Sg.a (Sz.s d.2.1)
          [Col.i IntKind.i64 d.2.2.1, Col.i IntKind.i64 d.2.2.2.1, Col.i IntKind.i64 d.2.2.2.2.1, Col.i IntKind.i64 d.2.2.2.2.2.1,
            Col.i IntKind.i64 d.2.2.2.2.2.2.1, Col.i IntKind.i64 d.2.2.2.2.2.2.2.1, Col.i IntKind.i64 d.2.2.2.2.2.2.2.2.1,
            Col.i IntKind.i64 d.2.2.2.2.2.2.2.2.2]],
    some
      [Sg.c (CV.f (FV.i IntKind.i64 0)), Sg.c (CV.f (FV.i IntKind.i64 0)), Sg.c (CV.f (FV.i IntKind.i64 0)), Sg.c (CV.f (FV.i IntKind.i64 0)), Sg.c (CV.f (FV.i IntKind.i64 0)),
        Sg.c (CV.f (FV.i IntKind.i64 0)), Sg.c (CV.f (FV.i IntKind.i64 0)), Sg.c (CV.f (FV.i IntKind.i64 0))]]
  [0])) (fun d => K (AX.ex 0) (St.mk
  [AV.r (RV.c (CV.ptr 0 (Off.k 0) 1)), AV.r (RV.c (CV.sl 1 (Off.k 0) (Sz.s d.1) 8 d.2.1)), AV.und, AV.tup [], AV.r (RV.c (CV.ptr 2 (Off.k 0) 8)), AV.und, AV.r (RV.c (CV.ptr 3 (Off.k 0) 8)),
    AV.und, AV.und, AV.r (RV.c (CV.sl 1 (Off.k 0) (Sz.s d.2.2.1) 8 d.2.2.2.1)), AV.r (RV.c (CV.f (FV.i IntKind.i64 d.2.2.2.2.1))),
    AV.r (RV.c (CV.f (FV.i IntKind.i64 d.2.2.2.2.2.1))), AV.r (RV.c (CV.f (FV.b d.2.2.2.2.2.2.1))), AV.und, AV.und, AV.und, AV.und, AV.und, AV.und, AV.und, AV.und, AV.und,
    AV.und, AV.und, AV.und, AV.und, AV.und, AV.und, AV.und, AV.und, AV.und, AV.und, AV.und, AV.und, AV.und, AV.und, AV.und, AV.und, AV.und, AV.und, AV.und, AV.und, AV.und, AV.und, AV.und]
  [some [Sg.c (CV.f (FV.b d.2.2.2.2.2.2.2.1))],
    some
      [Sg.a (Sz.s d.2.2.2.2.2.2.2.2.1)
          [Col.i IntKind.i64 d.2.2.2.2.2.2.2.2.2.1, Col.i IntKind.i64 d.2.2.2.2.2.2.2.2.2.2.1,
            Col.i IntKind.i64 d.2.2.2.2.2.2.2.2.2.2.2.1, Col.i IntKind.i64 d.2.2.2.2.2.2.2.2.2.2.2.2.1,
            Col.i IntKind.i64 d.2.2.2.2.2.2.2.2.2.2.2.2.2.1, Col.i IntKind.i64 d.2.2.2.2.2.2.2.2.2.2.2.2.2.2.1,
            Col.i IntKind.i64 d.2.2.2.2.2.2.2.2.2.2.2.2.2.2.2.1, Col.i IntKind.i64 d.2.2.2.2.2.2.2.2.2.2.2.2.2.2.2.2.1]],
    some
      [Sg.c (CV.f (FV.i IntKind.i64 0)), Sg.c (CV.f (FV.i IntKind.i64 0)), Sg.c (CV.f (FV.i IntKind.i64 0)), Sg.c (CV.f (FV.i IntKind.i64 0)), Sg.c (CV.f (FV.i IntKind.i64 0)),
        Sg.c (CV.f (FV.i IntKind.i64 0)), Sg.c (CV.f (FV.i IntKind.i64 0)), Sg.c (CV.f (FV.i IntKind.i64 0))],
    some
      [Sg.c (CV.f (FV.i IntKind.i64 d.2.2.2.2.2.2.2.2.2.2.2.2.2.2.2.2.2.1)),
        Sg.c (CV.f (FV.i IntKind.i64 d.2.2.2.2.2.2.2.2.2.2.2.2.2.2.2.2.2.2.1)),
        Sg.c (CV.f (FV.i IntKind.i64 d.2.2.2.2.2.2.2.2.2.2.2.2.2.2.2.2.2.2.2.1)),
        Sg.c (CV.f (FV.i IntKind.i64 d.2.2.2.2.2.2.2.2.2.2.2.2.2.2.2.2.2.2.2.2.1)),
        Sg.c (CV.f (FV.i IntKind.i64 d.2.2.2.2.2.2.2.2.2.2.2.2.2.2.2.2.2.2.2.2.2.1)),
        Sg.c (CV.f (FV.i IntKind.i64 d.2.2.2.2.2.2.2.2.2.2.2.2.2.2.2.2.2.2.2.2.2.2.1)),
        Sg.c (CV.f (FV.i IntKind.i64 d.2.2.2.2.2.2.2.2.2.2.2.2.2.2.2.2.2.2.2.2.2.2.2.1)),
        Sg.c (CV.f (FV.i IntKind.i64 d.2.2.2.2.2.2.2.2.2.2.2.2.2.2.2.2.2.2.2.2.2.2.2.2))]]
  [0]))) :=
  iter_loopX (emb := fun (d : Nat ×
  Bool ×
    Nat × Bool × Int × Int × Bool × Nat × (Nat → Int) × (Nat → Int) × (Nat → Int) × (Nat → Int) × (Nat → Int) × (Nat → Int) × (Nat → Int) × (Nat → Int) × Int × Int × Int × Int × Int × Int × Int × Int) => St.mk
  [AV.r (RV.c (CV.ptr 0 (Off.k 0) 1)), AV.r (RV.c (CV.sl 1 (Off.k 0) (Sz.s d.1) 8 d.2.1)), AV.und, AV.tup [], AV.r (RV.c (CV.ptr 2 (Off.k 0) 8)), AV.und, AV.r (RV.c (CV.ptr 3 (Off.k 0) 8)),
    AV.und, AV.und, AV.r (RV.c (CV.sl 1 (Off.k 0) (Sz.s d.2.2.1) 8 d.2.2.2.1)), AV.r (RV.c (CV.f (FV.i IntKind.i64 d.2.2.2.2.1))),
    AV.r (RV.c (CV.f (FV.i IntKind.i64 d.2.2.2.2.2.1))), AV.und, AV.und, AV.und, AV.und, AV.und, AV.und, AV.und, AV.und, AV.und, AV.und, AV.und, AV.und, AV.und, AV.und, AV.und, AV.und,
    AV.und, AV.und, AV.und, AV.und, AV.und, AV.und, AV.und, AV.und, AV.und, AV.und, AV.und, AV.und, AV.und, AV.und, AV.und, AV.und, AV.und]
  [some [Sg.c (CV.f (FV.b d.2.2.2.2.2.2.1))],
    some
      [Sg.a (Sz.s d.2.2.2.2.2.2.2.1)
          [Col.i IntKind.i64 d.2.2.2.2.2.2.2.2.1, Col.i IntKind.i64 d.2.2.2.2.2.2.2.2.2.1, Col.i IntKind.i64 d.2.2.2.2.2.2.2.2.2.2.1,
            Col.i IntKind.i64 d.2.2.2.2.2.2.2.2.2.2.2.1, Col.i IntKind.i64 d.2.2.2.2.2.2.2.2.2.2.2.2.1,
            Col.i IntKind.i64 d.2.2.2.2.2.2.2.2.2.2.2.2.2.1, Col.i IntKind.i64 d.2.2.2.2.2.2.2.2.2.2.2.2.2.2.1,
            Col.i IntKind.i64 d.2.2.2.2.2.2.2.2.2.2.2.2.2.2.2.1]],
    some
      [Sg.c (CV.f (FV.i IntKind.i64 0)), Sg.c (CV.f (FV.i IntKind.i64 0)), Sg.c (CV.f (FV.i IntKind.i64 0)), Sg.c (CV.f (FV.i IntKind.i64 0)), Sg.c (CV.f (FV.i IntKind.i64 0)),
        Sg.c (CV.f (FV.i IntKind.i64 0)), Sg.c (CV.f (FV.i IntKind.i64 0)), Sg.c (CV.f (FV.i IntKind.i64 0))],
    some
      [Sg.c (CV.f (FV.i IntKind.i64 d.2.2.2.2.2.2.2.2.2.2.2.2.2.2.2.2.1)),
        Sg.c (CV.f (FV.i IntKind.i64 d.2.2.2.2.2.2.2.2.2.2.2.2.2.2.2.2.2.1)),
        Sg.c (CV.f (FV.i IntKind.i64 d.2.2.2.2.2.2.2.2.2.2.2.2.2.2.2.2.2.2.1)),
        Sg.c (CV.f (FV.i IntKind.i64 d.2.2.2.2.2.2.2.2.2.2.2.2.2.2.2.2.2.2.2.1)),
        Sg.c (CV.f (FV.i IntKind.i64 d.2.2.2.2.2.2.2.2.2.2.2.2.2.2.2.2.2.2.2.2.1)),
        Sg.c (CV.f (FV.i IntKind.i64 d.2.2.2.2.2.2.2.2.2.2.2.2.2.2.2.2.2.2.2.2.2.1)),
        Sg.c (CV.f (FV.i IntKind.i64 d.2.2.2.2.2.2.2.2.2.2.2.2.2.2.2.2.2.2.2.2.2.2.1)),
        Sg.c (CV.f (FV.i IntKind.i64 d.2.2.2.2.2.2.2.2.2.2.2.2.2.2.2.2.2.2.2.2.2.2.2))]]
  [0]) (step := fun d c x => S_downs_Join_0 f_downs_Good f_downs_plus  d.1 d.2.1 d.2.2.1 d.2.2.2.1 d.2.2.2.2.1 d.2.2.2.2.2.1 d.2.2.2.2.2.2.1 d.2.2.2.2.2.2.2.1 d.2.2.2.2.2.2.2.2.1 d.2.2.2.2.2.2.2.2.2.1 d.2.2.2.2.2.2.2.2.2.2.1 d.2.2.2.2.2.2.2.2.2.2.2.1 d.2.2.2.2.2.2.2.2.2.2.2.2.1 d.2.2.2.2.2.2.2.2.2.2.2.2.2.1 d.2.2.2.2.2.2.2.2.2.2.2.2.2.2.1 d.2.2.2.2.2.2.2.2.2.2.2.2.2.2.2.1 d.2.2.2.2.2.2.2.2.2.2.2.2.2.2.2.2.1 d.2.2.2.2.2.2.2.2.2.2.2.2.2.2.2.2.2.1 d.2.2.2.2.2.2.2.2.2.2.2.2.2.2.2.2.2.2.1 d.2.2.2.2.2.2.2.2.2.2.2.2.2.2.2.2.2.2.2.1 d.2.2.2.2.2.2.2.2.2.2.2.2.2.2.2.2.2.2.2.2.1 d.2.2.2.2.2.2.2.2.2.2.2.2.2.2.2.2.2.2.2.2.2.1 d.2.2.2.2.2.2.2.2.2.2.2.2.2.2.2.2.2.2.2.2.2.2.1 d.2.2.2.2.2.2.2.2.2.2.2.2.2.2.2.2.2.2.2.2.2.2.2 c x) (kx := (Sum.elim (fun d => K (AX.ret) (St.mk
  [AV.und, AV.und, AV.und, AV.und, AV.r (RV.c (CV.ptr 2 (Off.k 0) 8)), AV.r (RV.c (CV.f (FV.i IntKind.i64 1))), AV.und, AV.und, AV.und, AV.und, AV.und, AV.und, AV.und, AV.und, AV.und, AV.und, AV.und,
    AV.und, AV.und, AV.und, AV.und, AV.und, AV.und, AV.und, AV.und, AV.und, AV.und, AV.und, AV.und, AV.und, AV.und, AV.und, AV.und, AV.und, AV.und, AV.und, AV.und, AV.und, AV.und, AV.und, AV.und,
    AV.und, AV.und, AV.und, AV.und]
  [some [Sg.c (CV.f (FV.b d.1))],
    some
      [Sg.a (Sz.s d.2.1)
          [Col.i IntKind.i64 d.2.2.1, Col.i IntKind.i64 d.2.2.2.1, Col.i IntKind.i64 d.2.2.2.2.1, Col.i IntKind.i64 d.2.2.2.2.2.1,
            Col.i IntKind.i64 d.2.2.2.2.2.2.1, Col.i IntKind.i64 d.2.2.2.2.2.2.2.1, Col.i IntKind.i64 d.2.2.2.2.2.2.2.2.1,
            Col.i IntKind.i64 d.2.2.2.2.2.2.2.2.2]],
    some
      [Sg.c (CV.f (FV.i IntKind.i64 0)), Sg.c (CV.f (FV.i IntKind.i64 0)), Sg.c (CV.f (FV.i IntKind.i64 0)), Sg.c (CV.f (FV.i IntKind.i64 0)), Sg.c (CV.f (FV.i IntKind.i64 0)),
        Sg.c (CV.f (FV.i IntKind.i64 0)), Sg.c (CV.f (FV.i IntKind.i64 0)), Sg.c (CV.f (FV.i IntKind.i64 0))]]
  [0])) (fun d => K (AX.ex 0) (St.mk
  [AV.r (RV.c (CV.ptr 0 (Off.k 0) 1)), AV.r (RV.c (CV.sl 1 (Off.k 0) (Sz.s d.1) 8 d.2.1)), AV.und, AV.tup [], AV.r (RV.c (CV.ptr 2 (Off.k 0) 8)), AV.und, AV.r (RV.c (CV.ptr 3 (Off.k 0) 8)),
    AV.und, AV.und, AV.r (RV.c (CV.sl 1 (Off.k 0) (Sz.s d.2.2.1) 8 d.2.2.2.1)), AV.r (RV.c (CV.f (FV.i IntKind.i64 d.2.2.2.2.1))),
    AV.r (RV.c (CV.f (FV.i IntKind.i64 d.2.2.2.2.2.1))), AV.r (RV.c (CV.f (FV.b d.2.2.2.2.2.2.1))), AV.und, AV.und, AV.und, AV.und, AV.und, AV.und, AV.und, AV.und, AV.und,
    AV.und, AV.und, AV.und, AV.und, AV.und, AV.und, AV.und, AV.und, AV.und, AV.und, AV.und, AV.und, AV.und, AV.und, AV.und, AV.und, AV.und, AV.und, AV.und, AV.und, AV.und, AV.und, AV.und]
  [some [Sg.c (CV.f (FV.b d.2.2.2.2.2.2.2.1))],
    some
      [Sg.a (Sz.s d.2.2.2.2.2.2.2.2.1)
          [Col.i IntKind.i64 d.2.2.2.2.2.2.2.2.2.1, Col.i IntKind.i64 d.2.2.2.2.2.2.2.2.2.2.1,
            Col.i IntKind.i64 d.2.2.2.2.2.2.2.2.2.2.2.1, Col.i IntKind.i64 d.2.2.2.2.2.2.2.2.2.2.2.2.1,
            Col.i IntKind.i64 d.2.2.2.2.2.2.2.2.2.2.2.2.2.1, Col.i IntKind.i64 d.2.2.2.2.2.2.2.2.2.2.2.2.2.2.1,
            Col.i IntKind.i64 d.2.2.2.2.2.2.2.2.2.2.2.2.2.2.2.1, Col.i IntKind.i64 d.2.2.2.2.2.2.2.2.2.2.2.2.2.2.2.2.1]],
    some
      [Sg.c (CV.f (FV.i IntKind.i64 0)), Sg.c (CV.f (FV.i IntKind.i64 0)), Sg.c (CV.f (FV.i IntKind.i64 0)), Sg.c (CV.f (FV.i IntKind.i64 0)), Sg.c (CV.f (FV.i IntKind.i64 0)),
        Sg.c (CV.f (FV.i IntKind.i64 0)), Sg.c (CV.f (FV.i IntKind.i64 0)), Sg.c (CV.f (FV.i IntKind.i64 0))],
    some
      [Sg.c (CV.f (FV.i IntKind.i64 d.2.2.2.2.2.2.2.2.2.2.2.2.2.2.2.2.2.1)),
        Sg.c (CV.f (FV.i IntKind.i64 d.2.2.2.2.2.2.2.2.2.2.2.2.2.2.2.2.2.2.1)),
        Sg.c (CV.f (FV.i IntKind.i64 d.2.2.2.2.2.2.2.2.2.2.2.2.2.2.2.2.2.2.2.1)),
        Sg.c (CV.f (FV.i IntKind.i64 d.2.2.2.2.2.2.2.2.2.2.2.2.2.2.2.2.2.2.2.2.1)),
        Sg.c (CV.f (FV.i IntKind.i64 d.2.2.2.2.2.2.2.2.2.2.2.2.2.2.2.2.2.2.2.2.2.1)),
        Sg.c (CV.f (FV.i IntKind.i64 d.2.2.2.2.2.2.2.2.2.2.2.2.2.2.2.2.2.2.2.2.2.2.1)),
        Sg.c (CV.f (FV.i IntKind.i64 d.2.2.2.2.2.2.2.2.2.2.2.2.2.2.2.2.2.2.2.2.2.2.2.1)),
        Sg.c (CV.f (FV.i IntKind.i64 d.2.2.2.2.2.2.2.2.2.2.2.2.2.2.2.2.2.2.2.2.2.2.2.2))]]
  [0]))))
    (fun d c => ds_downs_Join_0 f_downs_Good f_downs_plus (@L_downs_Join_0) d.1 d.2.1 d.2.2.1 d.2.2.2.1 d.2.2.2.2.1 d.2.2.2.2.2.1 d.2.2.2.2.2.2.1 d.2.2.2.2.2.2.2.1 d.2.2.2.2.2.2.2.2.1 d.2.2.2.2.2.2.2.2.2.1 d.2.2.2.2.2.2.2.2.2.2.1 d.2.2.2.2.2.2.2.2.2.2.2.1 d.2.2.2.2.2.2.2.2.2.2.2.2.1 d.2.2.2.2.2.2.2.2.2.2.2.2.2.1 d.2.2.2.2.2.2.2.2.2.2.2.2.2.2.1 d.2.2.2.2.2.2.2.2.2.2.2.2.2.2.2.1 d.2.2.2.2.2.2.2.2.2.2.2.2.2.2.2.2.1 d.2.2.2.2.2.2.2.2.2.2.2.2.2.2.2.2.2.1 d.2.2.2.2.2.2.2.2.2.2.2.2.2.2.2.2.2.2.1 d.2.2.2.2.2.2.2.2.2.2.2.2.2.2.2.2.2.2.2.1 d.2.2.2.2.2.2.2.2.2.2.2.2.2.2.2.2.2.2.2.2.1 d.2.2.2.2.2.2.2.2.2.2.2.2.2.2.2.2.2.2.2.2.2.1 d.2.2.2.2.2.2.2.2.2.2.2.2.2.2.2.2.2.2.2.2.2.2.1 d.2.2.2.2.2.2.2.2.2.2.2.2.2.2.2.2.2.2.2.2.2.2.2 c K) 200 (x0, x1, x2, x3, x4, x5, x6, x7, x8, x9, x10, x11, x12, x13, x14, x15, x16, x17, x18, x19, x20, x21, x22, x23)
theorem so_downs_Join_0 : ∀ kk, SumOK Try.prog (envOf [(34, F_downs_Good f_downs_Good), (56, F_downs_plus f_downs_plus)]) ⟨[⟨3, [2, 5, 7, 8, 12, 13, 14, 15, 16, 17, 18, 19, 33, 34, 35, 36, 37, 38, 39, 40, 41, 42, 43, 44, 20, 21, 22, 32, 23, 24, 25, 26, 27, 28, 29, 30, 31], []⟩], [⟨3, 2, @R_downs_Join_0 (@L_downs_Join_0)⟩], [0], [], (some ⟨0, [0, 1, 2, 3, 6, 7, 8, 9, 10, 11, 12, 13, 14, 15, 16, 17, 18, 19, 20, 21, 22, 23, 24, 25, 26, 27, 28, 29, 30, 31, 32, 33, 34, 35, 36, 37, 38, 39, 40, 41, 42, 43, 44], []⟩)⟩ (tmpsOf Try.prog 33) kk 200 (loopIn Try.prog 33 3) :=
  SumOK.of (id := 3) (k0 := 2) (run := @R_downs_Join_0 (@L_downs_Join_0)) (by kernel_rfl) fun s K r hr => by
    unfold R_downs_Join_0 at hr
    obtain ⟨b, hb, hr1⟩ := Option.bind_eq_some_iff.1 hr
    have e := ((Q_downs_Join_0).ok s b hb).trans (q_downs_Join_0 b)
    subst e
    exact ⟨200, (it_downs_Join_0 b.1.2.1.2.2.1 b.1.2.1.2.2.2.2 b.1.2.2.2.2.2.2.2.2.2.1.2.2.1 b.1.2.2.2.2.2.2.2.2.2.1.2.2.2.2 b.1.2.2.2.2.2.2.2.2.2.2.1 b.1.2.2.2.2.2.2.2.2.2.2.2.1 b.2.1.1.1 b.2.1.2.1.1.1 b.2.1.2.1.1.2.1 b.2.1.2.1.1.2.2.1 b.2.1.2.1.1.2.2.2.1 b.2.1.2.1.1.2.2.2.2.1 b.2.1.2.1.1.2.2.2.2.2.1 b.2.1.2.1.1.2.2.2.2.2.2.1 b.2.1.2.1.1.2.2.2.2.2.2.2.1 b.2.1.2.1.1.2.2.2.2.2.2.2.2.1 b.2.1.2.2.2.1.1 b.2.1.2.2.2.1.2.1 b.2.1.2.2.2.1.2.2.1 b.2.1.2.2.2.1.2.2.2.1 b.2.1.2.2.2.1.2.2.2.2.1 b.2.1.2.2.2.1.2.2.2.2.2.1 b.2.1.2.2.2.1.2.2.2.2.2.2.1 b.2.1.2.2.2.1.2.2.2.2.2.2.2.1 K).trans hr1⟩
def K_downs_Join {ρ : Type} (g_downs_Good : Int → Int → Int → Int → Int → Int → Int → Int → Option Bool) (g_downs_plus : Int → Int → Int → Int → Int → Int → Int → Int → Int → Int → Int → Int → Int → Int → Int → Int → Bool → Option (Int × Int × Int × Int × Int × Int × Int × Int × Bool)) (l_0 : ∀ {ρ : Type}, (Nat ×
  Bool ×
    Nat × Bool × Int × Int × Bool × Nat × (Nat → Int) × (Nat → Int) × (Nat → Int) × (Nat → Int) × (Nat → Int) × (Nat → Int) × (Nat → Int) × (Nat → Int) × Int × Int × Int × Int × Int × Int × Int × Int) → ((Bool × Nat × (Nat → Int) × (Nat → Int) × (Nat → Int) × (Nat → Int) × (Nat → Int) × (Nat → Int) × (Nat → Int) × (Nat → Int) ⊕
  Nat ×
    Bool ×
      Nat ×
        Bool ×
          Int × Int × Bool × Bool × Nat × (Nat → Int) × (Nat → Int) × (Nat → Int) × (Nat → Int) × (Nat → Int) × (Nat → Int) × (Nat → Int) × (Nat → Int) × Int × Int × Int × Int × Int × Int × Int × Int) → Option ρ) → Option ρ) (x0 : Nat) (x1 : Bool) (x2 : Nat → Int) (x3 : Nat → Int) (x4 : Nat → Int) (x5 : Nat → Int) (x6 : Nat → Int) (x7 : Nat → Int) (x8 : Nat → Int) (x9 : Nat → Int) (w0 : Bool) (k : (Int × Int × Int × Int × Int × Int × Int × Int × Int × Bool) → Option ρ) : Option ρ :=
  l_0 (x0, w0, x0, w0, Int.ofNat x0, 0, x1, x0, x2, x3, x4, x5, x6, x7, x8, x9, 0, 0, 0, 0, 0, 0, 0, 0)
    (Sum.elim (fun (d : Bool × Nat × (Nat → Int) × (Nat → Int) × (Nat → Int) × (Nat → Int) × (Nat → Int) × (Nat → Int) × (Nat → Int) × (Nat → Int)) => k (0, 0, 0, 0, 0, 0, 0, 0, 1, d.1))
      fun
        (d :
          Nat ×
            Bool ×
              Nat ×
                Bool ×
                  Int ×
                    Int ×
                      Bool ×
                        Bool × Nat × (Nat → Int) × (Nat → Int) × (Nat → Int) × (Nat → Int) × (Nat → Int) × (Nat → Int) × (Nat → Int) × (Nat → Int) × Int × Int × Int × Int × Int × Int × Int × Int) =>
      bif Int.ofNat d.1 == 0 then k (0, 0, 0, 0, 0, 0, 0, 0, 1, d.2.2.2.2.2.2.2.1)
      else
        k
          (d.2.2.2.2.2.2.2.2.2.2.2.2.2.2.2.2.2.1, d.2.2.2.2.2.2.2.2.2.2.2.2.2.2.2.2.2.2.1,
            d.2.2.2.2.2.2.2.2.2.2.2.2.2.2.2.2.2.2.2.1, d.2.2.2.2.2.2.2.2.2.2.2.2.2.2.2.2.2.2.2.2.1,
            d.2.2.2.2.2.2.2.2.2.2.2.2.2.2.2.2.2.2.2.2.2.1, d.2.2.2.2.2.2.2.2.2.2.2.2.2.2.2.2.2.2.2.2.2.2.1,
            d.2.2.2.2.2.2.2.2.2.2.2.2.2.2.2.2.2.2.2.2.2.2.2.1,
            d.2.2.2.2.2.2.2.2.2.2.2.2.2.2.2.2.2.2.2.2.2.2.2.2, 0, d.2.2.2.2.2.2.2.1))
def f_downs_Join (x0 : Nat) (x1 : Bool) (x2 : Nat → Int) (x3 : Nat → Int) (x4 : Nat → Int) (x5 : Nat → Int) (x6 : Nat → Int) (x7 : Nat → Int) (x8 : Nat → Int) (x9 : Nat → Int) (w0 : Bool) : Option (Int × Int × Int × Int × Int × Int × Int × Int × Int × Bool) := K_downs_Join f_downs_Good f_downs_plus (@L_downs_Join_0) x0 x1 x2 x3 x4 x5 x6 x7 x8 x9 w0 some
section
open Go.Ab.Rdr
def QA_downs_Join := ((pair (cons (ar (rc (cptr (nat 0) (ok' (nat 0)) (nat 1)))) (cons (ar (rc (csl (nat 1) (ok' (nat 0)) (szs hole) (nat 8) hole))) nil)) (cons (cons (gc (cf (fb hole))) nil) (cons (cons (ga (szs hole) (cons (ki .i64 hole) (cons (ki .i64 hole) (cons (ki .i64 hole) (cons (ki .i64 hole) (cons (ki .i64 hole) (cons (ki .i64 hole) (cons (ki .i64 hole) (cons (ki .i64 hole) nil))))))))) nil) nil))) : Rdr (List AV × List Blk) _)
end
def F0_downs_Join (f : (Nat) → (Bool) → (Nat → Int) → (Nat → Int) → (Nat → Int) → (Nat → Int) → (Nat → Int) → (Nat → Int) → (Nat → Int) → (Nat → Int) → (Bool) → Option (Int × Int × Int × Int × Int × Int × Int × Int × Int × Bool)) : Sem1 := fun args h => match (QA_downs_Join).rd (args, h) with
  | some b => .test (Nat.beq b.2.2.1.1.1 b.1.2.1.2.2.1) (.opt (f b.1.2.1.2.2.1 b.2.1.1 b.2.2.1.1.2.1 b.2.2.1.1.2.2.1 b.2.2.1.1.2.2.2.1 b.2.2.1.1.2.2.2.2.1 b.2.2.1.1.2.2.2.2.2.1 b.2.2.1.1.2.2.2.2.2.2.1 b.2.2.1.1.2.2.2.2.2.2.2.1 b.2.2.1.1.2.2.2.2.2.2.2.2.1 b.1.2.1.2.2.2.2) fun (d : Int × Int × Int × Int × Int × Int × Int × Int × Int × Bool) => .leaf (Res.mk
    (AV.tup
      [RV.agg
          [Sg.c (CV.f (FV.i IntKind.i64 d.1)), Sg.c (CV.f (FV.i IntKind.i64 d.2.1)), Sg.c (CV.f (FV.i IntKind.i64 d.2.2.1)), Sg.c (CV.f (FV.i IntKind.i64 d.2.2.2.1)),
            Sg.c (CV.f (FV.i IntKind.i64 d.2.2.2.2.1)), Sg.c (CV.f (FV.i IntKind.i64 d.2.2.2.2.2.1)), Sg.c (CV.f (FV.i IntKind.i64 d.2.2.2.2.2.2.1)),
            Sg.c (CV.f (FV.i IntKind.i64 d.2.2.2.2.2.2.2.1))],
        RV.c (CV.f (FV.i IntKind.i64 d.2.2.2.2.2.2.2.2.1))])
    [Ch.set [Sg.c (CV.f (FV.b d.2.2.2.2.2.2.2.2.2))], Ch.keep] [])) .fail
  | none => .fail
def F_downs_Join (f : (Nat) → (Bool) → (Nat → Int) → (Nat → Int) → (Nat → Int) → (Nat → Int) → (Nat → Int) → (Nat → Int) → (Nat → Int) → (Nat → Int) → (Bool) → Option (Int × Int × Int × Int × Int × Int × Int × Int × Int × Bool)) : Sem1 := (nilF 1 [.i .i64, .i .i64, .i .i64, .i .i64, .i .i64, .i .i64, .i .i64, .i .i64] (F0_downs_Join f))
theorem d_downs_Join (g_downs_Good : Int → Int → Int → Int → Int → Int → Int → Int → Option Bool) (g_downs_plus : Int → Int → Int → Int → Int → Int → Int → Int → Int → Int → Int → Int → Int → Int → Int → Int → Bool → Option (Int × Int × Int × Int × Int × Int × Int × Int × Bool)) (l_0 : ∀ {ρ : Type}, (Nat ×
  Bool ×
    Nat × Bool × Int × Int × Bool × Nat × (Nat → Int) × (Nat → Int) × (Nat → Int) × (Nat → Int) × (Nat → Int) × (Nat → Int) × (Nat → Int) × (Nat → Int) × Int × Int × Int × Int × Int × Int × Int × Int) → ((Bool × Nat × (Nat → Int) × (Nat → Int) × (Nat → Int) × (Nat → Int) × (Nat → Int) × (Nat → Int) × (Nat → Int) × (Nat → Int) ⊕
  Nat ×
    Bool ×
      Nat ×
        Bool ×
          Int × Int × Bool × Bool × Nat × (Nat → Int) × (Nat → Int) × (Nat → Int) × (Nat → Int) × (Nat → Int) × (Nat → Int) × (Nat → Int) × (Nat → Int) × Int × Int × Int × Int × Int × Int × Int × Int) → Option ρ) → Option ρ) (x0 : Nat) (x1 : Bool) (x2 : Nat → Int) (x3 : Nat → Int) (x4 : Nat → Int) (x5 : Nat → Int) (x6 : Nat → Int) (x7 : Nat → Int) (x8 : Nat → Int) (x9 : Nat → Int) (w0 : Bool) : den Try.prog (envOf [(34, F_downs_Good g_downs_Good), (56, F_downs_plus g_downs_plus)]) ⟨[⟨3, [2, 5, 7, 8, 12, 13, 14, 15, 16, 17, 18, 19, 33, 34, 35, 36, 37, 38, 39, 40, 41, 42, 43, 44, 20, 21, 22, 32, 23, 24, 25, 26, 27, 28, 29, 30, 31], []⟩], [⟨3, 2, @R_downs_Join_0 (@l_0)⟩], [0], [], (some ⟨0, [0, 1, 2, 3, 6, 7, 8, 9, 10, 11, 12, 13, 14, 15, 16, 17, 18, 19, 20, 21, 22, 23, 24, 25, 26, 27, 28, 29, 30, 31, 32, 33, 34, 35, 36, 37, 38, 39, 40, 41, 42, 43, 44], []⟩)⟩ 200 33 [.r (.c (.ptr 0 (.k 0) 1)), .r (.c (.sl 1 (.k 0) (.s x0) 8 w0))] [[.c (.f (.b x1))], [.a (.s x0) [.i .i64 x2, .i .i64 x3, .i .i64 x4, .i .i64 x5, .i .i64 x6, .i .i64 x7, .i .i64 x8, .i .i64 x9]]] =
    K_downs_Join g_downs_Good g_downs_plus (@l_0) x0 x1 x2 x3 x4 x5 x6 x7 x8 x9 w0 (fun (d : Int × Int × Int × Int × Int × Int × Int × Int × Int × Bool) => some (Res.mk
    (AV.tup
      [RV.agg
          [Sg.c (CV.f (FV.i IntKind.i64 d.1)), Sg.c (CV.f (FV.i IntKind.i64 d.2.1)), Sg.c (CV.f (FV.i IntKind.i64 d.2.2.1)), Sg.c (CV.f (FV.i IntKind.i64 d.2.2.2.1)),
            Sg.c (CV.f (FV.i IntKind.i64 d.2.2.2.2.1)), Sg.c (CV.f (FV.i IntKind.i64 d.2.2.2.2.2.1)), Sg.c (CV.f (FV.i IntKind.i64 d.2.2.2.2.2.2.1)),
            Sg.c (CV.f (FV.i IntKind.i64 d.2.2.2.2.2.2.2.1))],
        RV.c (CV.f (FV.i IntKind.i64 d.2.2.2.2.2.2.2.2.1))])
    [Ch.set [Sg.c (CV.f (FV.b d.2.2.2.2.2.2.2.2.2))], Ch.keep] [])) := by kernel_rfl
theorem m_downs_Join {ρ σ : Type} (q : ρ → Option σ) (g_downs_Good : Int → Int → Int → Int → Int → Int → Int → Int → Option Bool) (g_downs_plus : Int → Int → Int → Int → Int → Int → Int → Int → Int → Int → Int → Int → Int → Int → Int → Int → Bool → Option (Int × Int × Int × Int × Int × Int × Int × Int × Bool)) (l_0 : ∀ {ρ : Type}, (Nat ×
  Bool ×
    Nat × Bool × Int × Int × Bool × Nat × (Nat → Int) × (Nat → Int) × (Nat → Int) × (Nat → Int) × (Nat → Int) × (Nat → Int) × (Nat → Int) × (Nat → Int) × Int × Int × Int × Int × Int × Int × Int × Int) → ((Bool × Nat × (Nat → Int) × (Nat → Int) × (Nat → Int) × (Nat → Int) × (Nat → Int) × (Nat → Int) × (Nat → Int) × (Nat → Int) ⊕
  Nat ×
    Bool ×
      Nat ×
        Bool ×
          Int × Int × Bool × Bool × Nat × (Nat → Int) × (Nat → Int) × (Nat → Int) × (Nat → Int) × (Nat → Int) × (Nat → Int) × (Nat → Int) × (Nat → Int) × Int × Int × Int × Int × Int × Int × Int × Int) → Option ρ) → Option ρ) (hl_0 : ∀ {ρ σ : Type} (q : ρ → Option σ) (d : Nat ×
  Bool ×
    Nat × Bool × Int × Int × Bool × Nat × (Nat → Int) × (Nat → Int) × (Nat → Int) × (Nat → Int) × (Nat → Int) × (Nat → Int) × (Nat → Int) × (Nat → Int) × Int × Int × Int × Int × Int × Int × Int × Int) (k : (Bool × Nat × (Nat → Int) × (Nat → Int) × (Nat → Int) × (Nat → Int) × (Nat → Int) × (Nat → Int) × (Nat → Int) × (Nat → Int) ⊕
  Nat ×
    Bool ×
      Nat ×
        Bool ×
          Int × Int × Bool × Bool × Nat × (Nat → Int) × (Nat → Int) × (Nat → Int) × (Nat → Int) × (Nat → Int) × (Nat → Int) × (Nat → Int) × (Nat → Int) × Int × Int × Int × Int × Int × Int × Int × Int) → Option ρ), (l_0 d k).bind q = l_0 d fun x => (k x).bind q) (x0 : Nat) (x1 : Bool) (x2 : Nat → Int) (x3 : Nat → Int) (x4 : Nat → Int) (x5 : Nat → Int) (x6 : Nat → Int) (x7 : Nat → Int) (x8 : Nat → Int) (x9 : Nat → Int) (w0 : Bool) (k : (Int × Int × Int × Int × Int × Int × Int × Int × Int × Bool) → Option ρ) : (K_downs_Join g_downs_Good g_downs_plus (@l_0) x0 x1 x2 x3 x4 x5 x6 x7 x8 x9 w0 k).bind q = K_downs_Join g_downs_Good g_downs_plus (@l_0) x0 x1 x2 x3 x4 x5 x6 x7 x8 x9 w0 (fun d => (k d).bind q) := by
  simp only [K_downs_Join, bnd_cond, bnd_bind, bnd_none, bnd_sum, hl_0]
theorem qa_downs_Join : ∀ b, (QA_downs_Join).em b = ([.r (.c (.ptr 0 (.k 0) 1)), .r (.c (.sl 1 (.k 0) (.s b.1.2.1.2.2.1) 8 b.1.2.1.2.2.2.2))], [[.c (.f (.b b.2.1.1))], [.a (.s b.2.2.1.1.1) [.i .i64 b.2.2.1.1.2.1, .i .i64 b.2.2.1.1.2.2.1, .i .i64 b.2.2.1.1.2.2.2.1, .i .i64 b.2.2.1.1.2.2.2.2.1, .i .i64 b.2.2.1.1.2.2.2.2.2.1, .i .i64 b.2.2.1.1.2.2.2.2.2.2.1, .i .i64 b.2.2.1.1.2.2.2.2.2.2.2.1, .i .i64 b.2.2.1.1.2.2.2.2.2.2.2.2.1]]]) := fun b => by kernel_rfl
theorem e_downs_Join {f : (Nat) → (Bool) → (Nat → Int) → (Nat → Int) → (Nat → Int) → (Nat → Int) → (Nat → Int) → (Nat → Int) → (Nat → Int) → (Nat → Int) → (Bool) → Option (Int × Int × Int × Int × Int × Int × Int × Int × Int × Bool)} {args : List AV} {h : List Blk} {r : Res} (hr : (F0_downs_Join f args h).eval = some r) : ∃ x0 x1 x2 x3 x4 x5 x6 x7 x8 x9 w0, args = [.r (.c (.ptr 0 (.k 0) 1)), .r (.c (.sl 1 (.k 0) (.s x0) 8 w0))] ∧ h = [[.c (.f (.b x1))], [.a (.s x0) [.i .i64 x2, .i .i64 x3, .i .i64 x4, .i .i64 x5, .i .i64 x6, .i .i64 x7, .i .i64 x8, .i .i64 x9]]] ∧ (f x0 x1 x2 x3 x4 x5 x6 x7 x8 x9 w0).bind (fun (d : Int × Int × Int × Int × Int × Int × Int × Int × Int × Bool) => some (Res.mk
    (AV.tup
      [RV.agg
          [Sg.c (CV.f (FV.i IntKind.i64 d.1)), Sg.c (CV.f (FV.i IntKind.i64 d.2.1)), Sg.c (CV.f (FV.i IntKind.i64 d.2.2.1)), Sg.c (CV.f (FV.i IntKind.i64 d.2.2.2.1)),
            Sg.c (CV.f (FV.i IntKind.i64 d.2.2.2.2.1)), Sg.c (CV.f (FV.i IntKind.i64 d.2.2.2.2.2.1)), Sg.c (CV.f (FV.i IntKind.i64 d.2.2.2.2.2.2.1)),
            Sg.c (CV.f (FV.i IntKind.i64 d.2.2.2.2.2.2.2.1))],
        RV.c (CV.f (FV.i IntKind.i64 d.2.2.2.2.2.2.2.2.1))])
    [Ch.set [Sg.c (CV.f (FV.b d.2.2.2.2.2.2.2.2.2))], Ch.keep] [])) = some r := by
  unfold F0_downs_Join at hr
  split at hr
  · rename_i b hb
    have e := ((QA_downs_Join).ok _ _ hb).trans (qa_downs_Join b)
    obtain ⟨he, hr1⟩ := test_eval hr
    clear hr
    have hr := hr1
    clear hr1
    rw [Nat.eq_of_beq_eq_true he] at e
    clear he
    rw [opt_eval2] at hr
    exact ⟨b.1.2.1.2.2.1, b.2.1.1, b.2.2.1.1.2.1, b.2.2.1.1.2.2.1, b.2.2.1.1.2.2.2.1, b.2.2.1.1.2.2.2.2.1, b.2.2.1.1.2.2.2.2.2.1, b.2.2.1.1.2.2.2.2.2.2.1, b.2.2.1.1.2.2.2.2.2.2.2.1, b.2.2.1.1.2.2.2.2.2.2.2.2.1, b.1.2.1.2.2.2.2, (Prod.mk.inj e).1, (Prod.mk.inj e).2, hr⟩
  · cases hr
theorem n_downs_Join {σ : Type} (q : (Int × Int × Int × Int × Int × Int × Int × Int × Int × Bool) → Option σ) (x0 : Nat) (x1 : Bool) (x2 : Nat → Int) (x3 : Nat → Int) (x4 : Nat → Int) (x5 : Nat → Int) (x6 : Nat → Int) (x7 : Nat → Int) (x8 : Nat → Int) (x9 : Nat → Int) (w0 : Bool) : (f_downs_Join x0 x1 x2 x3 x4 x5 x6 x7 x8 x9 w0).bind q = K_downs_Join f_downs_Good f_downs_plus (@L_downs_Join_0) x0 x1 x2 x3 x4 x5 x6 x7 x8 x9 w0 q := by
  unfold f_downs_Join
  exact m_downs_Join q f_downs_Good f_downs_plus (@L_downs_Join_0) (fun q d k => mL_downs_Join_0 q d k) x0 x1 x2 x3 x4 x5 x6 x7 x8 x9 w0 some
theorem s_downs_Join : Sound Try.prog 33 (F_downs_Join f_downs_Join) :=
  Sound.nil 1 [.i .i64, .i .i64, .i .i64, .i .i64, .i .i64, .i .i64, .i .i64, .i .i64] <| (inl_sums (l := [(34, F_downs_Good f_downs_Good), (56, F_downs_plus f_downs_plus)]) (.cons s_downs_Good (.cons s_downs_plus (.nil _))) mixed (hs := ⟨[⟨3, [2, 5, 7, 8, 12, 13, 14, 15, 16, 17, 18, 19, 33, 34, 35, 36, 37, 38, 39, 40, 41, 42, 43, 44, 20, 21, 22, 32, 23, 24, 25, 26, 27, 28, 29, 30, 31], []⟩], [⟨3, 2, @R_downs_Join_0 (@L_downs_Join_0)⟩], [0], [], (some ⟨0, [0, 1, 2, 3, 6, 7, 8, 9, 10, 11, 12, 13, 14, 15, 16, 17, 18, 19, 20, 21, 22, 23, 24, 25, 26, 27, 28, 29, 30, 31, 32, 33, 34, 35, 36, 37, 38, 39, 40, 41, 42, 43, 44], []⟩)⟩) (lf := 200) (Sums.by (l := [loopIn Try.prog 33 3]) (lj := []) (by kernel_rfl) ⟨so_downs_Join_0, trivial⟩ (by kernel_rfl) trivial) (by kernel_rfl)).by (F := F0_downs_Join f_downs_Join) fun args b r hr => by
  obtain ⟨x0, x1, x2, x3, x4, x5, x6, x7, x8, x9, w0, rfl, rfl, hr1⟩ := e_downs_Join hr
  exact inl_eval ((d_downs_Join f_downs_Good f_downs_plus (@L_downs_Join_0) x0 x1 x2 x3 x4 x5 x6 x7 x8 x9 w0).trans ((n_downs_Join (fun (d : Int × Int × Int × Int × Int × Int × Int × Int × Int × Bool) => some (Res.mk
    (AV.tup
      [RV.agg
          [Sg.c (CV.f (FV.i IntKind.i64 d.1)), Sg.c (CV.f (FV.i IntKind.i64 d.2.1)), Sg.c (CV.f (FV.i IntKind.i64 d.2.2.1)), Sg.c (CV.f (FV.i IntKind.i64 d.2.2.2.1)),
            Sg.c (CV.f (FV.i IntKind.i64 d.2.2.2.2.1)), Sg.c (CV.f (FV.i IntKind.i64 d.2.2.2.2.2.1)), Sg.c (CV.f (FV.i IntKind.i64 d.2.2.2.2.2.2.1)),
            Sg.c (CV.f (FV.i IntKind.i64 d.2.2.2.2.2.2.2.1))],
        RV.c (CV.f (FV.i IntKind.i64 d.2.2.2.2.2.2.2.2.1))])
    [Ch.set [Sg.c (CV.f (FV.b d.2.2.2.2.2.2.2.2.2))], Ch.keep] [])) x0 x1 x2 x3 x4 x5 x6 x7 x8 x9 w0).symm.trans hr1))

def K_astrolabelaw14_awake {ρ : Type} (g_downs_New : Int → Option (Unit ⊕ Int)) (g___downs_Sampler__Put : Int →
  Int →
    Int →
      Int →
        Int →
          Int →
            Int →
              Int →
                Int →
                  Int →
                    Int →
                      Int →
                        Int →
                          Int → Int → Int → Int → Bool → Bool → Option (Int × Int × Int × Int × Int × Int × Int × Int × Bool × Int × Int × Int × Int × Int × Int × Int × Int × Int × Int × Bool × Bool)) (g___downs_Sampler__Pending : Int → Int → Int → Int → Int → Int → Int → Int → Int → Bool → Option Int) (g_downs_Join : Nat → Bool → (Nat → Int) → (Nat → Int) → (Nat → Int) → (Nat → Int) → (Nat → Int) → (Nat → Int) → (Nat → Int) → (Nat → Int) → Bool → Option (Int × Int × Int × Int × Int × Int × Int × Int × Int × Bool)) (g_downs_Good : Int → Int → Int → Int → Int → Int → Int → Int → Option Bool)   (k : (Bool) → Option ρ) : Option ρ :=
  Option.bind (g_downs_New 8000) fun (d : Unit ⊕ Int) =>
    bif
        match d with
        | Sum.inl val => true
        | Sum.inr val => false then
      Option.bind
        (match d with
        | Sum.inl a => some a
        | Sum.inr val => none)
        fun (d : Unit) => k false
    else
      Option.bind
        (match d with
        | Sum.inr b => some b
        | Sum.inl val => none)
        fun (d : Int) =>
        Option.bind (g___downs_Sampler__Put 4000 4000 0 0 0 1 0 0 d 0 0 0 0 0 0 0 0 false false)
          fun (d : Int × Int × Int × Int × Int × Int × Int × Int × Bool × Int × Int × Int × Int × Int × Int × Int × Int × Int × Int × Bool × Bool) =>
          Option.bind
            (g___downs_Sampler__Pending d.2.2.2.2.2.2.2.2.2.2.1 d.2.2.2.2.2.2.2.2.2.2.2.1 d.2.2.2.2.2.2.2.2.2.2.2.2.1
              d.2.2.2.2.2.2.2.2.2.2.2.2.2.1 d.2.2.2.2.2.2.2.2.2.2.2.2.2.2.1 d.2.2.2.2.2.2.2.2.2.2.2.2.2.2.2.1
              d.2.2.2.2.2.2.2.2.2.2.2.2.2.2.2.2.1 d.2.2.2.2.2.2.2.2.2.2.2.2.2.2.2.2.2.1
              d.2.2.2.2.2.2.2.2.2.2.2.2.2.2.2.2.2.2.1 d.2.2.2.2.2.2.2.2.2.2.2.2.2.2.2.2.2.2.2.1)
            fun (d_1 : Int) =>
            Option.bind
              (g___downs_Sampler__Put 8000 4000 0 0 0 2 0 0 d.2.2.2.2.2.2.2.2.2.2.1 d.2.2.2.2.2.2.2.2.2.2.2.1
                d.2.2.2.2.2.2.2.2.2.2.2.2.1 d.2.2.2.2.2.2.2.2.2.2.2.2.2.1 d.2.2.2.2.2.2.2.2.2.2.2.2.2.2.1
                d.2.2.2.2.2.2.2.2.2.2.2.2.2.2.2.1 d.2.2.2.2.2.2.2.2.2.2.2.2.2.2.2.2.1
                d.2.2.2.2.2.2.2.2.2.2.2.2.2.2.2.2.2.1 d.2.2.2.2.2.2.2.2.2.2.2.2.2.2.2.2.2.2.1
                d.2.2.2.2.2.2.2.2.2.2.2.2.2.2.2.2.2.2.2.1 d.2.2.2.2.2.2.2.2.2.2.2.2.2.2.2.2.2.2.2.2)
              fun (d_2 : Int × Int × Int × Int × Int × Int × Int × Int × Bool × Int × Int × Int × Int × Int × Int × Int × Int × Int × Int × Bool × Bool) =>
              Option.bind
                (g_downs_Join 2 d_2.2.2.2.2.2.2.2.2.2.2.2.2.2.2.2.2.2.2.2.2 (fun (j : Nat) => bif Nat.beq j 1 then 2 else bif Nat.beq j 0 then 1 else 1)
                  (fun (j : Nat) => bif Nat.beq j 1 then 1 else bif Nat.beq j 0 then 1 else 1) (fun (j : Nat) => bif Nat.beq j 1 then 0 else bif Nat.beq j 0 then 0 else 0)
                  (fun (j : Nat) => bif Nat.beq j 1 then 0 else bif Nat.beq j 0 then 0 else 0) (fun (j : Nat) => bif Nat.beq j 1 then 0 else bif Nat.beq j 0 then 0 else 0)
                  (fun (j : Nat) => bif Nat.beq j 1 then 0 else bif Nat.beq j 0 then 0 else 0) (fun (j : Nat) => bif Nat.beq j 1 then 0 else bif Nat.beq j 0 then 0 else 0)
                  (fun (j : Nat) => bif Nat.beq j 1 then 0 else bif Nat.beq j 0 then 0 else 0) true)
                fun (d_3 : Int × Int × Int × Int × Int × Int × Int × Int × Int × Bool) =>
                bif !d.2.2.2.2.2.2.2.2.1 then
                  bif d.2.2.2.2.2.2.2.2.2.1 == 0 then
                    bif d_1 == 4000 then
                      bif d_2.2.2.2.2.2.2.2.2.1 then
                        bif d_2.2.2.2.2.2.2.2.2.2.1 == 0 then
                          bif d_2.2.1 == 8000 then
                            bif d_2.1 == 8000 then
                              bif d_2.2.2.2.2.2.1 == 3 then
                                bif d_3.2.2.2.2.2.2.2.2.1 == 0 then
                                  bif d_3.2.1 == 2 then
                                    bif d_3.1 == 2 then Option.bind (g_downs_Good 0 1 0 0 0 0 0 0) fun (d : Bool) => bif d then k !d_3.2.2.2.2.2.2.2.2.2 else k false else k false
                                  else k false
                                else k false
                              else k false
                            else k false
                          else k false
                        else k false
                      else k false
                    else k false
                  else k false
                else k false
def f_astrolabelaw14_awake  : Option (Bool) := K_astrolabelaw14_awake f_downs_New f___downs_Sampler__Put f___downs_Sampler__Pending f_downs_Join f_downs_Good   some
section
open Go.Ab.Rdr
def QA_astrolabelaw14_awake := ((pair nil nil) : Rdr (List AV × List Blk) _)
end
def F_astrolabelaw14_awake (f : Option (Bool)) : Sem1 := fun args h => match (QA_astrolabelaw14_awake).rd (args, h) with
  | some b => .opt (f ) fun (d : Bool) => .leaf (Res.mk (AV.r (RV.c (CV.f (FV.b d)))) [] [])
  | none => .fail
theorem d_astrolabelaw14_awake (g_downs_New : Int → Option (Unit ⊕ Int)) (g___downs_Sampler__Put : Int →
  Int →
    Int →
      Int →
        Int →
          Int →
            Int →
              Int →
                Int →
                  Int →
                    Int →
                      Int →
                        Int →
                          Int → Int → Int → Int → Bool → Bool → Option (Int × Int × Int × Int × Int × Int × Int × Int × Bool × Int × Int × Int × Int × Int × Int × Int × Int × Int × Int × Bool × Bool)) (g___downs_Sampler__Pending : Int → Int → Int → Int → Int → Int → Int → Int → Int → Bool → Option Int) (g_downs_Join : Nat → Bool → (Nat → Int) → (Nat → Int) → (Nat → Int) → (Nat → Int) → (Nat → Int) → (Nat → Int) → (Nat → Int) → (Nat → Int) → Bool → Option (Int × Int × Int × Int × Int × Int × Int × Int × Int × Bool)) (g_downs_Good : Int → Int → Int → Int → Int → Int → Int → Int → Option Bool)   : den Try.prog (envOf [(31, F_downs_New g_downs_New), (32, F___downs_Sampler__Put g___downs_Sampler__Put), (35, F___downs_Sampler__Pending g___downs_Sampler__Pending), (33, F_downs_Join g_downs_Join), (34, F_downs_Good g_downs_Good)]) ⟨[], [], [], [], none⟩ 200 30 [] [] =
    K_astrolabelaw14_awake g_downs_New g___downs_Sampler__Put g___downs_Sampler__Pending g_downs_Join g_downs_Good   (fun (d : Bool) => some (Res.mk (AV.r (RV.c (CV.f (FV.b d)))) [] [])) := by kernel_rfl
theorem m_astrolabelaw14_awake {ρ σ : Type} (q : ρ → Option σ) (g_downs_New : Int → Option (Unit ⊕ Int)) (g___downs_Sampler__Put : Int →
  Int →
    Int →
      Int →
        Int →
          Int →
            Int →
              Int →
                Int →
                  Int →
                    Int →
                      Int →
                        Int →
                          Int → Int → Int → Int → Bool → Bool → Option (Int × Int × Int × Int × Int × Int × Int × Int × Bool × Int × Int × Int × Int × Int × Int × Int × Int × Int × Int × Bool × Bool)) (g___downs_Sampler__Pending : Int → Int → Int → Int → Int → Int → Int → Int → Int → Bool → Option Int) (g_downs_Join : Nat → Bool → (Nat → Int) → (Nat → Int) → (Nat → Int) → (Nat → Int) → (Nat → Int) → (Nat → Int) → (Nat → Int) → (Nat → Int) → Bool → Option (Int × Int × Int × Int × Int × Int × Int × Int × Int × Bool)) (g_downs_Good : Int → Int → Int → Int → Int → Int → Int → Int → Option Bool)    (k : (Bool) → Option ρ) : (K_astrolabelaw14_awake g_downs_New g___downs_Sampler__Put g___downs_Sampler__Pending g_downs_Join g_downs_Good   k).bind q = K_astrolabelaw14_awake g_downs_New g___downs_Sampler__Put g___downs_Sampler__Pending g_downs_Join g_downs_Good   (fun d => (k d).bind q) := by
  simp only [K_astrolabelaw14_awake, bnd_cond, bnd_bind, bnd_none, bnd_sum]
theorem qa_astrolabelaw14_awake : ∀ b, (QA_astrolabelaw14_awake).em b = ([], []) := fun b => by kernel_rfl
theorem e_astrolabelaw14_awake {f : Option (Bool)} {args : List AV} {h : List Blk} {r : Res} (hr : (F_astrolabelaw14_awake f args h).eval = some r) : args = [] ∧ h = [] ∧ (f ).bind (fun (d : Bool) => some (Res.mk (AV.r (RV.c (CV.f (FV.b d)))) [] [])) = some r := by
  unfold F_astrolabelaw14_awake at hr
  split at hr
  · rename_i b hb
    have e := ((QA_astrolabelaw14_awake).ok _ _ hb).trans (qa_astrolabelaw14_awake b)
    rw [opt_eval2] at hr
    exact ⟨(Prod.mk.inj e).1, (Prod.mk.inj e).2, hr⟩
  · cases hr
theorem n_astrolabelaw14_awake {σ : Type} (q : (Bool) → Option σ)  : (f_astrolabelaw14_awake ).bind q = K_astrolabelaw14_awake f_downs_New f___downs_Sampler__Put f___downs_Sampler__Pending f_downs_Join f_downs_Good   q := by
  unfold f_astrolabelaw14_awake
  exact m_astrolabelaw14_awake q f_downs_New f___downs_Sampler__Put f___downs_Sampler__Pending f_downs_Join f_downs_Good    some
theorem s_astrolabelaw14_awake : Sound Try.prog 30 (F_astrolabelaw14_awake f_astrolabelaw14_awake) :=
  (inl_sound (l := [(31, F_downs_New f_downs_New), (32, F___downs_Sampler__Put f___downs_Sampler__Put), (35, F___downs_Sampler__Pending f___downs_Sampler__Pending), (33, F_downs_Join f_downs_Join), (34, F_downs_Good f_downs_Good)]) (.cons s_downs_New (.cons s___downs_Sampler__Put (.cons s___downs_Sampler__Pending (.cons s_downs_Join (.cons s_downs_Good (.nil _)))))) mixed [] [] 200 (by kernel_rfl)).by (F := F_astrolabelaw14_awake f_astrolabelaw14_awake) fun args b r hr => by
  obtain ⟨rfl, rfl, hr1⟩ := e_astrolabelaw14_awake hr
  exact inl_eval ((d_astrolabelaw14_awake f_downs_New f___downs_Sampler__Put f___downs_Sampler__Pending f_downs_Join f_downs_Good  ).trans ((n_astrolabelaw14_awake (fun (d : Bool) => some (Res.mk (AV.r (RV.c (CV.f (FV.b d)))) [] [])) ).symm.trans hr1))

def K_astrolabelaw14_DownsKnown {ρ : Type} (g_astrolabelaw14_awake : Option Bool) (g_downs_New : Int → Option (Unit ⊕ Int)) (g___downs_Sampler__Put : Int →
  Int →
    Int →
      Int →
        Int →
          Int →
            Int →
              Int →
                Int →
                  Int →
                    Int →
                      Int →
                        Int →
                          Int → Int → Int → Int → Bool → Bool → Option (Int × Int × Int × Int × Int × Int × Int × Int × Bool × Int × Int × Int × Int × Int × Int × Int × Int × Int × Int × Bool × Bool)) (g_downs_Join : Nat → Bool → (Nat → Int) → (Nat → Int) → (Nat → Int) → (Nat → Int) → (Nat → Int) → (Nat → Int) → (Nat → Int) → (Nat → Int) → Bool → Option (Int × Int × Int × Int × Int × Int × Int × Int × Int × Bool)) (g_downs_Good : Int → Int → Int → Int → Int → Int → Int → Int → Option Bool) (g___downs_Sampler__Pending : Int → Int → Int → Int → Int → Int → Int → Int → Int → Bool → Option Int)   (k : (Bool) → Option ρ) : Option ρ :=
  Option.bind g_astrolabelaw14_awake fun (d : Bool) =>
    bif !d then k false
    else
      Option.bind (g_downs_New 999) fun (d : Unit ⊕ Int) =>
        bif
            match d with
            | Sum.inl val => true
            | Sum.inr val => false then
          Option.bind
            (match d with
            | Sum.inl a => some a
            | Sum.inr val => none)
            fun (d : Unit) =>
            Option.bind (g_downs_New 1000) fun (d : Unit ⊕ Int) =>
              bif
                  match d with
                  | Sum.inl val => true
                  | Sum.inr val => false then
                Option.bind
                  (match d with
                  | Sum.inl a => some a
                  | Sum.inr val => none)
                  fun (d : Unit) => none
              else
                Option.bind
                  (match d with
                  | Sum.inr b => some b
                  | Sum.inl val => none)
                  fun (d : Int) =>
                  Option.bind (g___downs_Sampler__Put 5 0 0 0 0 0 0 0 d 0 0 0 0 0 0 0 0 false false)
                    fun (d : Int × Int × Int × Int × Int × Int × Int × Int × Bool × Int × Int × Int × Int × Int × Int × Int × Int × Int × Int × Bool × Bool) =>
                    Option.bind
                      (g_downs_Join 0 d.2.2.2.2.2.2.2.2.2.2.2.2.2.2.2.2.2.2.2.2 (fun (x : Nat) => 0) (fun (x : Nat) => 0) (fun (x : Nat) => 0)
                        (fun (x : Nat) => 0) (fun (x : Nat) => 0) (fun (x : Nat) => 0) (fun (x : Nat) => 0) (fun (x : Nat) => 0) true)
                      fun (d_1 : Int × Int × Int × Int × Int × Int × Int × Int × Int × Bool) =>
                      Option.bind
                        (g_downs_Join 2 d_1.2.2.2.2.2.2.2.2.2 (fun (j : Nat) => bif Nat.beq j 1 then 2 else bif Nat.beq j 0 then 2 else 2)
                          (fun (j : Nat) => bif Nat.beq j 1 then 1 else bif Nat.beq j 0 then 1 else 1) (fun (j : Nat) => bif Nat.beq j 1 then 0 else bif Nat.beq j 0 then 0 else 0)
                          (fun (j : Nat) => bif Nat.beq j 1 then 0 else bif Nat.beq j 0 then 0 else 0) (fun (j : Nat) => bif Nat.beq j 1 then 0 else bif Nat.beq j 0 then 0 else 0)
                          (fun (j : Nat) => bif Nat.beq j 1 then 0 else bif Nat.beq j 0 then 0 else 0) (fun (j : Nat) => bif Nat.beq j 1 then 0 else bif Nat.beq j 0 then 0 else 0)
                          (fun (j : Nat) => bif Nat.beq j 1 then 0 else bif Nat.beq j 0 then 0 else 0) true)
                        fun (d_2 : Int × Int × Int × Int × Int × Int × Int × Int × Int × Bool) =>
                        bif d.2.2.2.2.2.2.2.2.2.1 == 1 then
                          bif d_1.2.2.2.2.2.2.2.2.1 == 1 then
                            bif d_2.2.2.2.2.2.2.2.2.1 == 1 then
                              Option.bind (g_downs_Good 0 0 0 0 0 0 0 0) fun (d_3 : Bool) =>
                                bif !d_3 then
                                  Option.bind
                                    (g___downs_Sampler__Pending d.2.2.2.2.2.2.2.2.2.2.1 d.2.2.2.2.2.2.2.2.2.2.2.1
                                      d.2.2.2.2.2.2.2.2.2.2.2.2.1 d.2.2.2.2.2.2.2.2.2.2.2.2.2.1
                                      d.2.2.2.2.2.2.2.2.2.2.2.2.2.2.1 d.2.2.2.2.2.2.2.2.2.2.2.2.2.2.2.1
                                      d.2.2.2.2.2.2.2.2.2.2.2.2.2.2.2.2.1 d.2.2.2.2.2.2.2.2.2.2.2.2.2.2.2.2.2.1
                                      d.2.2.2.2.2.2.2.2.2.2.2.2.2.2.2.2.2.2.1 d.2.2.2.2.2.2.2.2.2.2.2.2.2.2.2.2.2.2.2.1)
                                    fun (d : Int) => k (d == 0)
                                else k false
                            else k false
                          else k false
                        else k false
        else
          Option.bind
            (match d with
            | Sum.inr b => some b
            | Sum.inl val => none)
            fun (d : Int) =>
            Option.bind (g_downs_New 1000) fun (d : Unit ⊕ Int) =>
              bif
                  match d with
                  | Sum.inl val => true
                  | Sum.inr val => false then
                Option.bind
                  (match d with
                  | Sum.inl a => some a
                  | Sum.inr val => none)
                  fun (d : Unit) => none
              else
                Option.bind
                  (match d with
                  | Sum.inr b => some b
                  | Sum.inl val => none)
                  fun (d : Int) =>
                  Option.bind (g___downs_Sampler__Put 5 0 0 0 0 0 0 0 d 0 0 0 0 0 0 0 0 false false)
                    fun (d : Int × Int × Int × Int × Int × Int × Int × Int × Bool × Int × Int × Int × Int × Int × Int × Int × Int × Int × Int × Bool × Bool) =>
                    Option.bind
                      (g_downs_Join 0 d.2.2.2.2.2.2.2.2.2.2.2.2.2.2.2.2.2.2.2.2 (fun (x : Nat) => 0) (fun (x : Nat) => 0) (fun (x : Nat) => 0)
                        (fun (x : Nat) => 0) (fun (x : Nat) => 0) (fun (x : Nat) => 0) (fun (x : Nat) => 0) (fun (x : Nat) => 0) true)
                      fun (d : Int × Int × Int × Int × Int × Int × Int × Int × Int × Bool) =>
                      Option.bind
                        (g_downs_Join 2 d.2.2.2.2.2.2.2.2.2 (fun (j : Nat) => bif Nat.beq j 1 then 2 else bif Nat.beq j 0 then 2 else 2)
                          (fun (j : Nat) => bif Nat.beq j 1 then 1 else bif Nat.beq j 0 then 1 else 1) (fun (j : Nat) => bif Nat.beq j 1 then 0 else bif Nat.beq j 0 then 0 else 0)
                          (fun (j : Nat) => bif Nat.beq j 1 then 0 else bif Nat.beq j 0 then 0 else 0) (fun (j : Nat) => bif Nat.beq j 1 then 0 else bif Nat.beq j 0 then 0 else 0)
                          (fun (j : Nat) => bif Nat.beq j 1 then 0 else bif Nat.beq j 0 then 0 else 0) (fun (j : Nat) => bif Nat.beq j 1 then 0 else bif Nat.beq j 0 then 0 else 0)
                          (fun (j : Nat) => bif Nat.beq j 1 then 0 else bif Nat.beq j 0 then 0 else 0) true)
                        fun (d : Int × Int × Int × Int × Int × Int × Int × Int × Int × Bool) => k false
def f_astrolabelaw14_DownsKnown  : Option (Bool) := K_astrolabelaw14_DownsKnown f_astrolabelaw14_awake f_downs_New f___downs_Sampler__Put f_downs_Join f_downs_Good f___downs_Sampler__Pending   some
section
open Go.Ab.Rdr
def QA_astrolabelaw14_DownsKnown := ((pair nil nil) : Rdr (List AV × List Blk) _)
end
def F_astrolabelaw14_DownsKnown (f : Option (Bool)) : Sem1 := fun args h => match (QA_astrolabelaw14_DownsKnown).rd (args, h) with
  | some b => .opt (f ) fun (d : Bool) => .leaf (Res.mk (AV.r (RV.c (CV.f (FV.b d)))) [] [])
  | none => .fail
theorem d_astrolabelaw14_DownsKnown (g_astrolabelaw14_awake : Option Bool) (g_downs_New : Int → Option (Unit ⊕ Int)) (g___downs_Sampler__Put : Int →
  Int →
    Int →
      Int →
        Int →
          Int →
            Int →
              Int →
                Int →
                  Int →
                    Int →
                      Int →
                        Int →
                          Int → Int → Int → Int → Bool → Bool → Option (Int × Int × Int × Int × Int × Int × Int × Int × Bool × Int × Int × Int × Int × Int × Int × Int × Int × Int × Int × Bool × Bool)) (g_downs_Join : Nat → Bool → (Nat → Int) → (Nat → Int) → (Nat → Int) → (Nat → Int) → (Nat → Int) → (Nat → Int) → (Nat → Int) → (Nat → Int) → Bool → Option (Int × Int × Int × Int × Int × Int × Int × Int × Int × Bool)) (g_downs_Good : Int → Int → Int → Int → Int → Int → Int → Int → Option Bool) (g___downs_Sampler__Pending : Int → Int → Int → Int → Int → Int → Int → Int → Int → Bool → Option Int)   : den Try.prog (envOf [(30, F_astrolabelaw14_awake g_astrolabelaw14_awake), (31, F_downs_New g_downs_New), (32, F___downs_Sampler__Put g___downs_Sampler__Put), (33, F_downs_Join g_downs_Join), (34, F_downs_Good g_downs_Good), (35, F___downs_Sampler__Pending g___downs_Sampler__Pending)]) ⟨[], [], [], [], none⟩ 200 7 [] [] =
    K_astrolabelaw14_DownsKnown g_astrolabelaw14_awake g_downs_New g___downs_Sampler__Put g_downs_Join g_downs_Good g___downs_Sampler__Pending   (fun (d : Bool) => some (Res.mk (AV.r (RV.c (CV.f (FV.b d)))) [] [])) := by kernel_rfl
theorem m_astrolabelaw14_DownsKnown {ρ σ : Type} (q : ρ → Option σ) (g_astrolabelaw14_awake : Option Bool) (g_downs_New : Int → Option (Unit ⊕ Int)) (g___downs_Sampler__Put : Int →
  Int →
    Int →
      Int →
        Int →
          Int →
            Int →
              Int →
                Int →
                  Int →
                    Int →
                      Int →
                        Int →
                          Int → Int → Int → Int → Bool → Bool → Option (Int × Int × Int × Int × Int × Int × Int × Int × Bool × Int × Int × Int × Int × Int × Int × Int × Int × Int × Int × Bool × Bool)) (g_downs_Join : Nat → Bool → (Nat → Int) → (Nat → Int) → (Nat → Int) → (Nat → Int) → (Nat → Int) → (Nat → Int) → (Nat → Int) → (Nat → Int) → Bool → Option (Int × Int × Int × Int × Int × Int × Int × Int × Int × Bool)) (g_downs_Good : Int → Int → Int → Int → Int → Int → Int → Int → Option Bool) (g___downs_Sampler__Pending : Int → Int → Int → Int → Int → Int → Int → Int → Int → Bool → Option Int)    (k : (Bool) → Option ρ) : (K_astrolabelaw14_DownsKnown g_astrolabelaw14_awake g_downs_New g___downs_Sampler__Put g_downs_Join g_downs_Good g___downs_Sampler__Pending   k).bind q = K_astrolabelaw14_DownsKnown g_astrolabelaw14_awake g_downs_New g___downs_Sampler__Put g_downs_Join g_downs_Good g___downs_Sampler__Pending   (fun d => (k d).bind q) := by
  simp only [K_astrolabelaw14_DownsKnown, bnd_cond, bnd_bind, bnd_none, bnd_sum]
theorem qa_astrolabelaw14_DownsKnown : ∀ b, (QA_astrolabelaw14_DownsKnown).em b = ([], []) := fun b => by kernel_rfl
theorem e_astrolabelaw14_DownsKnown {f : Option (Bool)} {args : List AV} {h : List Blk} {r : Res} (hr : (F_astrolabelaw14_DownsKnown f args h).eval = some r) : args = [] ∧ h = [] ∧ (f ).bind (fun (d : Bool) => some (Res.mk (AV.r (RV.c (CV.f (FV.b d)))) [] [])) = some r := by
  unfold F_astrolabelaw14_DownsKnown at hr
  split at hr
  · rename_i b hb
    have e := ((QA_astrolabelaw14_DownsKnown).ok _ _ hb).trans (qa_astrolabelaw14_DownsKnown b)
    rw [opt_eval2] at hr
    exact ⟨(Prod.mk.inj e).1, (Prod.mk.inj e).2, hr⟩
  · cases hr
theorem n_astrolabelaw14_DownsKnown {σ : Type} (q : (Bool) → Option σ)  : (f_astrolabelaw14_DownsKnown ).bind q = K_astrolabelaw14_DownsKnown f_astrolabelaw14_awake f_downs_New f___downs_Sampler__Put f_downs_Join f_downs_Good f___downs_Sampler__Pending   q := by
  unfold f_astrolabelaw14_DownsKnown
  exact m_astrolabelaw14_DownsKnown q f_astrolabelaw14_awake f_downs_New f___downs_Sampler__Put f_downs_Join f_downs_Good f___downs_Sampler__Pending    some
theorem s_astrolabelaw14_DownsKnown : Sound Try.prog 7 (F_astrolabelaw14_DownsKnown f_astrolabelaw14_DownsKnown) :=
  (inl_sound (l := [(30, F_astrolabelaw14_awake f_astrolabelaw14_awake), (31, F_downs_New f_downs_New), (32, F___downs_Sampler__Put f___downs_Sampler__Put), (33, F_downs_Join f_downs_Join), (34, F_downs_Good f_downs_Good), (35, F___downs_Sampler__Pending f___downs_Sampler__Pending)]) (.cons s_astrolabelaw14_awake (.cons s_downs_New (.cons s___downs_Sampler__Put (.cons s_downs_Join (.cons s_downs_Good (.cons s___downs_Sampler__Pending (.nil _))))))) mixed [] [] 200 (by kernel_rfl)).by (F := F_astrolabelaw14_DownsKnown f_astrolabelaw14_DownsKnown) fun args b r hr => by
  obtain ⟨rfl, rfl, hr1⟩ := e_astrolabelaw14_DownsKnown hr
  exact inl_eval ((d_astrolabelaw14_DownsKnown f_astrolabelaw14_awake f_downs_New f___downs_Sampler__Put f_downs_Join f_downs_Good f___downs_Sampler__Pending  ).trans ((n_astrolabelaw14_DownsKnown (fun (d : Bool) => some (Res.mk (AV.r (RV.c (CV.f (FV.b d)))) [] [])) ).symm.trans hr1))

end Go.Proofs.Ytmlmpcabphgfaaa
