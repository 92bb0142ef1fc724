/-
  Contracts by plain functions: (*fx.Acc).Dot
-/
import Derived.Test.YtmlmpcabphgfaaaW2
set_option maxRecDepth 100000
set_option maxHeartbeats 4000000
set_option linter.unusedVariables false
namespace Go.Proofs.Ytmlmpcabphgfaaa
open Go.Ab
def S___fx_Acc__Dot_0 {ρ : Type} (g___fx_Acc__round : Int → Int → Int → Bool → Option (Int × Bool)) (g___fx_Acc__Sat : Int → Bool → Option (Int × Bool)) (g_wide_Mul : Int → Int → Option (Int × Int)) (g_wide_Add : Nat → (Nat → Int) → (Nat → Int) → Bool → Option (Int × Int × Bool))  (x0 : Int) (x1 : Nat) (x2 : Bool) (x3 : Nat) (x4 : Bool) (x5 : Int) (x6 : Int) (x7 : Bool) (x8 : Nat) (x9 : Nat → Int) (x10 : Nat) (x11 : Nat → Int) (x12 : Int) (x13 : Int) (c : (Int × Nat × Bool × Nat × Bool × Int × Int × Bool × Nat × (Nat → Int) × Nat × (Nat → Int) × Int × Int) → Option ρ) (x : (Int × Nat × Bool × Nat × Bool × Int × Int × Bool × Bool × Nat × (Nat → Int) × Nat × (Nat → Int) × Int × Int) → Option ρ) : Option ρ :=
  bif decide (x6 < x5) then
    bif inR x6 x1 then
      Option.bind (g___fx_Acc__Sat (x9 (Int.toNat x6)) x7) fun (d : Int × Bool) =>
        bif inR x6 x3 then
          Option.bind (g___fx_Acc__Sat (x11 (Int.toNat x6)) d.snd) fun (d_1 : Int × Bool) =>
            Option.bind (g_wide_Mul d.fst d_1.fst) fun (d : Int × Int) =>
              Option.bind
                (g_wide_Add 2 (fun (j : Nat) => bif Nat.beq j 1 then d.fst else bif Nat.beq j 0 then x12 else x12) (fun (j : Nat) => bif Nat.beq j 1 then d.snd else bif Nat.beq j 0 then x13 else x13)
                  true)
                fun (d : Int × Int × Bool) => c (x0, x1, x2, x3, x4, x5, IntKind.wrap IntKind.i64 (x6 + 1), d_1.snd, x8, x9, x10, x11, d.fst, d.snd.fst)
        else none
    else none
  else x (x0, x1, x2, x3, x4, x5, x6, decide (x6 < x5), x7, x8, x9, x10, x11, x12, x13)
section
open Go.Ab.Rdr
def Q___fx_Acc__Dot_0 := (st (cons (ar (rc (cptr (nat 0) (ok' (nat 0)) (nat 1)))) (cons (ar (rc (cf (fi .i64 hole)))) (cons (ar (rc (csl (nat 1) (ok' (nat 0)) (szs hole) (nat 1) hole))) (cons (ar (rc (csl (nat 2) (ok' (nat 0)) (szs hole) (nat 1) hole))) (cons aund (cons aund (cons aund (cons aund (cons aund (cons (ar (rc (cptr (nat 3) (ok' (nat 0)) (nat 2)))) (cons aund (cons aund (cons aund (cons aund (cons aund (cons aund (cons aund (cons aund (cons aund (cons aund (cons aund (cons aund (cons aund (cons aund (cons aund (cons (ar (rc (cf (fi .i64 hole)))) (cons (ar (rc (cf (fi .i64 hole)))) (cons aund (cons aund (cons aund (cons aund (cons aund (cons aund (cons aund (cons aund (cons aund (cons aund (cons aund (cons aund (cons aund (cons aund (cons aund (cons aund (cons aund (cons aund (cons aund (cons aund (cons aund (cons aund (cons aund (cons aund (cons aund (cons aund nil))))))))))))))))))))))))))))))))))))))))))))))))))))) (cons (some' (cons (gc (cf (fb hole))) nil)) (cons (some' (cons (ga (szs hole) (cons (ki .i64 hole) nil)) nil)) (cons (some' (cons (ga (szs hole) (cons (ki .i64 hole) nil)) nil)) (cons (some' (cons (gc (cf (fi .i64 hole))) (cons (gc (cf (fi .u64 hole))) nil))) nil)))) (cons (nat 0) nil))
end
theorem q___fx_Acc__Dot_0 : ∀ b, (Q___fx_Acc__Dot_0).em b = St.mk
    [AV.r (RV.c (CV.ptr 0 (Off.k 0) 1)), AV.r (RV.c (CV.f (FV.i IntKind.i64 b.1.2.1))), AV.r (RV.c (CV.sl 1 (Off.k 0) (Sz.s b.1.2.2.1.2.2.1) 1 b.1.2.2.1.2.2.2.2)), AV.r (RV.c (CV.sl 2 (Off.k 0) (Sz.s b.1.2.2.2.1.2.2.1) 1 b.1.2.2.2.1.2.2.2.2)), AV.und, AV.und, AV.und,
      AV.und, AV.und, AV.r (RV.c (CV.ptr 3 (Off.k 0) 2)), AV.und, AV.und, AV.und, AV.und, AV.und, AV.und, AV.und, AV.und, AV.und, AV.und, AV.und, AV.und, AV.und, AV.und, AV.und,
      AV.r (RV.c (CV.f (FV.i IntKind.i64 b.1.2.2.2.2.2.2.2.2.2.2.2.2.2.2.2.2.2.2.2.2.2.2.2.2.2.1))), AV.r (RV.c (CV.f (FV.i IntKind.i64 b.1.2.2.2.2.2.2.2.2.2.2.2.2.2.2.2.2.2.2.2.2.2.2.2.2.2.2.1))), AV.und, AV.und, AV.und, AV.und, AV.und, AV.und, AV.und, AV.und, AV.und, AV.und, AV.und, AV.und, AV.und, AV.und,
      AV.und, AV.und, AV.und, AV.und, AV.und, AV.und, AV.und, AV.und, AV.und, AV.und, AV.und, AV.und]
    [some [Sg.c (CV.f (FV.b b.2.1.1.1))], some [Sg.a (Sz.s b.2.1.2.1.1.1) [Col.i IntKind.i64 b.2.1.2.1.1.2.1]], some [Sg.a (Sz.s b.2.1.2.2.1.1.1) [Col.i IntKind.i64 b.2.1.2.2.1.1.2.1]],
      some [Sg.c (CV.f (FV.i IntKind.i64 b.2.1.2.2.2.1.1)), Sg.c (CV.f (FV.i IntKind.u64 b.2.1.2.2.2.1.2.1))]]
    [0] := fun b => by kernel_rfl
def R___fx_Acc__Dot_0 (l : ∀ {ρ : Type}, (Int × Nat × Bool × Nat × Bool × Int × Int × Bool × Nat × (Nat → Int) × Nat × (Nat → Int) × Int × Int) → ((Int × Nat × Bool × Nat × Bool × Int × Int × Bool × Bool × Nat × (Nat → Int) × Nat × (Nat → Int) × Int × Int) → Option ρ) → Option ρ) {ρ : Type} (s : St) (K : AX → St → Option ρ) : Option ρ := ((Q___fx_Acc__Dot_0).rd s).bind fun b => l (b.1.2.1, b.1.2.2.1.2.2.1, b.1.2.2.1.2.2.2.2, b.1.2.2.2.1.2.2.1, b.1.2.2.2.1.2.2.2.2, b.1.2.2.2.2.2.2.2.2.2.2.2.2.2.2.2.2.2.2.2.2.2.2.2.2.2.1, b.1.2.2.2.2.2.2.2.2.2.2.2.2.2.2.2.2.2.2.2.2.2.2.2.2.2.2.1, b.2.1.1.1, b.2.1.2.1.1.1, b.2.1.2.1.1.2.1, b.2.1.2.2.1.1.1, b.2.1.2.2.1.1.2.1, b.2.1.2.2.2.1.1, b.2.1.2.2.2.1.2.1) (fun d => K (AX.ex 0) (St.mk
  [AV.r (RV.c (CV.ptr 0 (Off.k 0) 1)), AV.r (RV.c (CV.f (FV.i IntKind.i64 d.fst))), AV.r (RV.c (CV.sl 1 (Off.k 0) (Sz.s d.snd.fst) 1 d.snd.snd.fst)),
    AV.r (RV.c (CV.sl 2 (Off.k 0) (Sz.s d.snd.snd.snd.fst) 1 d.snd.snd.snd.snd.fst)), AV.und, AV.und, AV.und, AV.und, AV.und, AV.r (RV.c (CV.ptr 3 (Off.k 0) 2)), AV.und, AV.und, AV.und, AV.und,
    AV.und, AV.und, AV.und, AV.und, AV.und, AV.und, AV.und, AV.und, AV.und, AV.und, AV.und, AV.r (RV.c (CV.f (FV.i IntKind.i64 d.snd.snd.snd.snd.snd.fst))),
    AV.r (RV.c (CV.f (FV.i IntKind.i64 d.snd.snd.snd.snd.snd.snd.fst))), AV.r (RV.c (CV.f (FV.b d.snd.snd.snd.snd.snd.snd.snd.fst))), AV.und, AV.und, AV.und, AV.und, AV.und, AV.und, AV.und, AV.und,
    AV.und, AV.und, AV.und, AV.und, AV.und, AV.und, AV.und, AV.und, AV.und, AV.und, AV.und, AV.und, AV.und, AV.und, AV.und, AV.und, AV.und]
  [some [Sg.c (CV.f (FV.b d.snd.snd.snd.snd.snd.snd.snd.snd.fst))], some [Sg.a (Sz.s d.snd.snd.snd.snd.snd.snd.snd.snd.snd.fst) [Col.i IntKind.i64 d.snd.snd.snd.snd.snd.snd.snd.snd.snd.snd.fst]],
    some [Sg.a (Sz.s d.snd.snd.snd.snd.snd.snd.snd.snd.snd.snd.snd.fst) [Col.i IntKind.i64 d.snd.snd.snd.snd.snd.snd.snd.snd.snd.snd.snd.snd.fst]],
    some [Sg.c (CV.f (FV.i IntKind.i64 d.snd.snd.snd.snd.snd.snd.snd.snd.snd.snd.snd.snd.snd.fst)), Sg.c (CV.f (FV.i IntKind.u64 d.snd.snd.snd.snd.snd.snd.snd.snd.snd.snd.snd.snd.snd.snd))]]
  [0]))
theorem ms___fx_Acc__Dot_0 {ρ σ : Type} (g___fx_Acc__round : Int → Int → Int → Bool → Option (Int × Bool)) (g___fx_Acc__Sat : Int → Bool → Option (Int × Bool)) (g_wide_Mul : Int → Int → Option (Int × Int)) (g_wide_Add : Nat → (Nat → Int) → (Nat → Int) → Bool → Option (Int × Int × Bool))   (q : ρ → Option σ) (x0 : Int) (x1 : Nat) (x2 : Bool) (x3 : Nat) (x4 : Bool) (x5 : Int) (x6 : Int) (x7 : Bool) (x8 : Nat) (x9 : Nat → Int) (x10 : Nat) (x11 : Nat → Int) (x12 : Int) (x13 : Int) (c : (Int × Nat × Bool × Nat × Bool × Int × Int × Bool × Nat × (Nat → Int) × Nat × (Nat → Int) × Int × Int) → Option ρ) (x : (Int × Nat × Bool × Nat × Bool × Int × Int × Bool × Bool × Nat × (Nat → Int) × Nat × (Nat → Int) × Int × Int) → Option ρ) : (S___fx_Acc__Dot_0 g___fx_Acc__round g___fx_Acc__Sat g_wide_Mul g_wide_Add  x0 x1 x2 x3 x4 x5 x6 x7 x8 x9 x10 x11 x12 x13 c x).bind q = S___fx_Acc__Dot_0 g___fx_Acc__round g___fx_Acc__Sat g_wide_Mul g_wide_Add  x0 x1 x2 x3 x4 x5 x6 x7 x8 x9 x10 x11 x12 x13 (fun d => (c d).bind q) (fun d => (x d).bind q) := by
  simp only [S___fx_Acc__Dot_0, bnd_cond, bnd_bind, bnd_none, bnd_sum]
def L___fx_Acc__Dot_0 {ρ : Type} (d : Int × Nat × Bool × Nat × Bool × Int × Int × Bool × Nat × (Nat → Int) × Nat × (Nat → Int) × Int × Int) (k : (Int × Nat × Bool × Nat × Bool × Int × Int × Bool × Bool × Nat × (Nat → Int) × Nat × (Nat → Int) × Int × Int) → Option ρ) : Option ρ := loopK (fun d c x => S___fx_Acc__Dot_0 f___fx_Acc__round f___fx_Acc__Sat f_wide_Mul f_wide_Add  d.1 d.2.1 d.2.2.1 d.2.2.2.1 d.2.2.2.2.1 d.2.2.2.2.2.1 d.2.2.2.2.2.2.1 d.2.2.2.2.2.2.2.1 d.2.2.2.2.2.2.2.2.1 d.2.2.2.2.2.2.2.2.2.1 d.2.2.2.2.2.2.2.2.2.2.1 d.2.2.2.2.2.2.2.2.2.2.2.1 d.2.2.2.2.2.2.2.2.2.2.2.2.1 d.2.2.2.2.2.2.2.2.2.2.2.2.2 c x) 200 d k
theorem mL___fx_Acc__Dot_0 {ρ σ : Type} (q : ρ → Option σ) (d : Int × Nat × Bool × Nat × Bool × Int × Int × Bool × Nat × (Nat → Int) × Nat × (Nat → Int) × Int × Int) (k : (Int × Nat × Bool × Nat × Bool × Int × Int × Bool × Bool × Nat × (Nat → Int) × Nat × (Nat → Int) × Int × Int) → Option ρ) : (L___fx_Acc__Dot_0 d k).bind q = L___fx_Acc__Dot_0 d fun x => (k x).bind q :=
  loopK_bind q (fun d c x => ms___fx_Acc__Dot_0 f___fx_Acc__round f___fx_Acc__Sat f_wide_Mul f_wide_Add   q d.1 d.2.1 d.2.2.1 d.2.2.2.1 d.2.2.2.2.1 d.2.2.2.2.2.1 d.2.2.2.2.2.2.1 d.2.2.2.2.2.2.2.1 d.2.2.2.2.2.2.2.2.1 d.2.2.2.2.2.2.2.2.2.1 d.2.2.2.2.2.2.2.2.2.2.1 d.2.2.2.2.2.2.2.2.2.2.2.1 d.2.2.2.2.2.2.2.2.2.2.2.2.1 d.2.2.2.2.2.2.2.2.2.2.2.2.2 c x) k _ d
theorem ds___fx_Acc__Dot_0 {ρ : Type} (g___fx_Acc__round : Int → Int → Int → Bool → Option (Int × Bool)) (g___fx_Acc__Sat : Int → Bool → Option (Int × Bool)) (g_wide_Mul : Int → Int → Option (Int × Int)) (g_wide_Add : Nat → (Nat → Int) → (Nat → Int) → Bool → Option (Int × Int × Bool)) (l_0 : ∀ {ρ : Type}, (Int × Nat × Bool × Nat × Bool × Int × Int × Bool × Nat × (Nat → Int) × Nat × (Nat → Int) × Int × Int) → ((Int × Nat × Bool × Nat × Bool × Int × Int × Bool × Bool × Nat × (Nat → Int) × Nat × (Nat → Int) × Int × Int) → Option ρ) → Option ρ) (x0 : Int) (x1 : Nat) (x2 : Bool) (x3 : Nat) (x4 : Bool) (x5 : Int) (x6 : Int) (x7 : Bool) (x8 : Nat) (x9 : Nat → Int) (x10 : Nat) (x11 : Nat → Int) (x12 : Int) (x13 : Int) (c : St → Option ρ) (K : AX → St → Option ρ) :
    runC Try.prog (envOf [(69, F___fx_Acc__round g___fx_Acc__round), (68, F___fx_Acc__Sat g___fx_Acc__Sat), (67, F_wide_Mul g_wide_Mul), (70, F_wide_Add g_wide_Add)]) ⟨[⟨5, [4, 5, 6, 7, 8, 10, 11, 12, 13, 14, 15, 16, 17, 18, 19, 20, 21, 22, 23, 24, 27, 28, 29, 30, 31, 32, 33, 34, 35, 36, 37, 38, 39, 40, 41, 42, 43, 44, 45, 46, 47, 48, 49, 50, 51, 52], []⟩], [⟨5, 3, @R___fx_Acc__Dot_0 (@l_0)⟩], [0], [], none⟩ (tmpsOf Try.prog 61) 3 200 (loopIn Try.prog 61 5)
      (St.mk
    [AV.r (RV.c (CV.ptr 0 (Off.k 0) 1)), AV.r (RV.c (CV.f (FV.i IntKind.i64 x0))), AV.r (RV.c (CV.sl 1 (Off.k 0) (Sz.s x1) 1 x2)), AV.r (RV.c (CV.sl 2 (Off.k 0) (Sz.s x3) 1 x4)), AV.und, AV.und, AV.und,
      AV.und, AV.und, AV.r (RV.c (CV.ptr 3 (Off.k 0) 2)), AV.und, AV.und, AV.und, AV.und, AV.und, AV.und, AV.und, AV.und, AV.und, AV.und, AV.und, AV.und, AV.und, AV.und, AV.und,
      AV.r (RV.c (CV.f (FV.i IntKind.i64 x5))), AV.r (RV.c (CV.f (FV.i IntKind.i64 x6))), AV.und, AV.und, AV.und, AV.und, AV.und, AV.und, AV.und, AV.und, AV.und, AV.und, AV.und, AV.und, AV.und, AV.und,
      AV.und, AV.und, AV.und, AV.und, AV.und, AV.und, AV.und, AV.und, AV.und, AV.und, AV.und, AV.und]
    [some [Sg.c (CV.f (FV.b x7))], some [Sg.a (Sz.s x8) [Col.i IntKind.i64 x9]], some [Sg.a (Sz.s x10) [Col.i IntKind.i64 x11]],
      some [Sg.c (CV.f (FV.i IntKind.i64 x12)), Sg.c (CV.f (FV.i IntKind.u64 x13))]]
    [0])
      (next (fun t => t.head 3 ⟨[⟨5, [4, 5, 6, 7, 8, 10, 11, 12, 13, 14, 15, 16, 17, 18, 19, 20, 21, 22, 23, 24, 27, 28, 29, 30, 31, 32, 33, 34, 35, 36, 37, 38, 39, 40, 41, 42, 43, 44, 45, 46, 47, 48, 49, 50, 51, 52], []⟩], [⟨5, 3, @R___fx_Acc__Dot_0 (@l_0)⟩], [0], [], none⟩ (loopIn Try.prog 61 5)) c K) =
    S___fx_Acc__Dot_0 g___fx_Acc__round g___fx_Acc__Sat g_wide_Mul g_wide_Add  x0 x1 x2 x3 x4 x5 x6 x7 x8 x9 x10 x11 x12 x13 (fun d => c (St.mk
  [AV.r (RV.c (CV.ptr 0 (Off.k 0) 1)), AV.r (RV.c (CV.f (FV.i IntKind.i64 d.fst))), AV.r (RV.c (CV.sl 1 (Off.k 0) (Sz.s d.snd.fst) 1 d.snd.snd.fst)),
    AV.r (RV.c (CV.sl 2 (Off.k 0) (Sz.s d.snd.snd.snd.fst) 1 d.snd.snd.snd.snd.fst)), AV.und, AV.und, AV.und, AV.und, AV.und, AV.r (RV.c (CV.ptr 3 (Off.k 0) 2)), AV.und, AV.und, AV.und, AV.und,
    AV.und, AV.und, AV.und, AV.und, AV.und, AV.und, AV.und, AV.und, AV.und, AV.und, AV.und, AV.r (RV.c (CV.f (FV.i IntKind.i64 d.snd.snd.snd.snd.snd.fst))),
    AV.r (RV.c (CV.f (FV.i IntKind.i64 d.snd.snd.snd.snd.snd.snd.fst))), AV.und, AV.und, AV.und, AV.und, AV.und, AV.und, AV.und, AV.und, AV.und, AV.und, AV.und, AV.und, AV.und, AV.und, AV.und, AV.und,
    AV.und, AV.und, AV.und, AV.und, AV.und, AV.und, AV.und, AV.und, AV.und, AV.und]
  [some [Sg.c (CV.f (FV.b d.snd.snd.snd.snd.snd.snd.snd.fst))], some [Sg.a (Sz.s d.snd.snd.snd.snd.snd.snd.snd.snd.fst) [Col.i IntKind.i64 d.snd.snd.snd.snd.snd.snd.snd.snd.snd.fst]],
    some [Sg.a (Sz.s d.snd.snd.snd.snd.snd.snd.snd.snd.snd.snd.fst) [Col.i IntKind.i64 d.snd.snd.snd.snd.snd.snd.snd.snd.snd.snd.snd.fst]],
    some [Sg.c (CV.f (FV.i IntKind.i64 d.snd.snd.snd.snd.snd.snd.snd.snd.snd.snd.snd.snd.fst)), Sg.c (CV.f (FV.i IntKind.u64 d.snd.snd.snd.snd.snd.snd.snd.snd.snd.snd.snd.snd.snd))]]
  [0])) (fun d => K (AX.ex 0) (St.mk
  [AV.r (RV.c (CV.ptr 0 (Off.k 0) 1)), AV.r (RV.c (CV.f (FV.i IntKind.i64 d.fst))), AV.r (RV.c (CV.sl 1 (Off.k 0) (Sz.s d.snd.fst) 1 d.snd.snd.fst)),
    AV.r (RV.c (CV.sl 2 (Off.k 0) (Sz.s d.snd.snd.snd.fst) 1 d.snd.snd.snd.snd.fst)), AV.und, AV.und, AV.und, AV.und, AV.und, AV.r (RV.c (CV.ptr 3 (Off.k 0) 2)), AV.und, AV.und, AV.und, AV.und,
    AV.und, AV.und, AV.und, AV.und, AV.und, AV.und, AV.und, AV.und, AV.und, AV.und, AV.und, AV.r (RV.c (CV.f (FV.i IntKind.i64 d.snd.snd.snd.snd.snd.fst))),
    AV.r (RV.c (CV.f (FV.i IntKind.i64 d.snd.snd.snd.snd.snd.snd.fst))), AV.r (RV.c (CV.f (FV.b d.snd.snd.snd.snd.snd.snd.snd.fst))), AV.und, AV.und, AV.und, AV.und, AV.und, AV.und, AV.und, AV.und,
    AV.und, AV.und, AV.und, AV.und, AV.und, AV.und, AV.und, AV.und, AV.und, AV.und, AV.und, AV.und, AV.und, AV.und, AV.und, AV.und, AV.und]
  [some [Sg.c (CV.f (FV.b d.snd.snd.snd.snd.snd.snd.snd.snd.fst))], some [Sg.a (Sz.s d.snd.snd.snd.snd.snd.snd.snd.snd.snd.fst) [Col.i IntKind.i64 d.snd.snd.snd.snd.snd.snd.snd.snd.snd.snd.fst]],
    some [Sg.a (Sz.s d.snd.snd.snd.snd.snd.snd.snd.snd.snd.snd.snd.fst) [Col.i IntKind.i64 d.snd.snd.snd.snd.snd.snd.snd.snd.snd.snd.snd.snd.fst]],
    some [Sg.c (CV.f (FV.i IntKind.i64 d.snd.snd.snd.snd.snd.snd.snd.snd.snd.snd.snd.snd.snd.fst)), Sg.c (CV.f (FV.i IntKind.u64 d.snd.snd.snd.snd.snd.snd.snd.snd.snd.snd.snd.snd.snd.snd))]]
  [0])) := by kernel_rfl
theorem it___fx_Acc__Dot_0 {ρ : Type} (x0 : Int) (x1 : Nat) (x2 : Bool) (x3 : Nat) (x4 : Bool) (x5 : Int) (x6 : Int) (x7 : Bool) (x8 : Nat) (x9 : Nat → Int) (x10 : Nat) (x11 : Nat → Int) (x12 : Int) (x13 : Int) (K : AX → St → Option ρ) :
    iter (fun t => t.head 3 ⟨[⟨5, [4, 5, 6, 7, 8, 10, 11, 12, 13, 14, 15, 16, 17, 18, 19, 20, 21, 22, 23, 24, 27, 28, 29, 30, 31, 32, 33, 34, 35, 36, 37, 38, 39, 40, 41, 42, 43, 44, 45, 46, 47, 48, 49, 50, 51, 52], []⟩], [⟨5, 3, @R___fx_Acc__Dot_0 (@L___fx_Acc__Dot_0)⟩], [0], [], none⟩ (loopIn Try.prog 61 5)) (runC Try.prog (envOf [(69, F___fx_Acc__round f___fx_Acc__round), (68, F___fx_Acc__Sat f___fx_Acc__Sat), (67, F_wide_Mul f_wide_Mul), (70, F_wide_Add f_wide_Add)]) ⟨[⟨5, [4, 5, 6, 7, 8, 10, 11, 12, 13, 14, 15, 16, 17, 18, 19, 20, 21, 22, 23, 24, 27, 28, 29, 30, 31, 32, 33, 34, 35, 36, 37, 38, 39, 40, 41, 42, 43, 44, 45, 46, 47, 48, 49, 50, 51, 52], []⟩], [⟨5, 3, @R___fx_Acc__Dot_0 (@L___fx_Acc__Dot_0)⟩], [0], [], none⟩ (tmpsOf Try.prog 61) 3 200 (loopIn Try.prog 61 5)) K 200
      (St.mk
    [AV.r (RV.c (CV.ptr 0 (Off.k 0) 1)), AV.r (RV.c (CV.f (FV.i IntKind.i64 x0))), AV.r (RV.c (CV.sl 1 (Off.k 0) (Sz.s x1) 1 x2)), AV.r (RV.c (CV.sl 2 (Off.k 0) (Sz.s x3) 1 x4)), AV.und, AV.und, AV.und,
      AV.und, AV.und, AV.r (RV.c (CV.ptr 3 (Off.k 0) 2)), AV.und, AV.und, AV.und, AV.und, AV.und, AV.und, AV.und, AV.und, AV.und, AV.und, AV.und, AV.und, AV.und, AV.und, AV.und,
      AV.r (RV.c (CV.f (FV.i IntKind.i64 x5))), AV.r (RV.c (CV.f (FV.i IntKind.i64 x6))), AV.und, AV.und, AV.und, AV.und, AV.und, AV.und, AV.und, AV.und, AV.und, AV.und, AV.und, AV.und, AV.und, AV.und,
      AV.und, AV.und, AV.und, AV.und, AV.und, AV.und, AV.und, AV.und, AV.und, AV.und, AV.und, AV.und]
    [some [Sg.c (CV.f (FV.b x7))], some [Sg.a (Sz.s x8) [Col.i IntKind.i64 x9]], some [Sg.a (Sz.s x10) [Col.i IntKind.i64 x11]],
      some [Sg.c (CV.f (FV.i IntKind.i64 x12)), Sg.c (CV.f (FV.i IntKind.u64 x13))]]
    [0]) = L___fx_Acc__Dot_0 (x0, x1, x2, x3, x4, x5, x6, x7, x8, x9, x10, x11, x12, x13) (fun d => K (AX.ex 0) (St.mk
  [AV.r (RV.c (CV.ptr 0 (Off.k 0) 1)), AV.r (RV.c (CV.f (FV.i IntKind.i64 d.fst))), AV.r (RV.c (CV.sl 1 (Off.k 0) (Sz.s d.snd.fst) 1 d.snd.snd.fst)),
    AV.r (RV.c (CV.sl 2 (Off.k 0) (Sz.s d.snd.snd.snd.fst) 1 d.snd.snd.snd.snd.fst)), AV.und, AV.und, AV.und, AV.und, AV.und, AV.r (RV.c (CV.ptr 3 (Off.k 0) 2)), AV.und, AV.und, AV.und, AV.und,
    AV.und, AV.und, AV.und, AV.und, AV.und, AV.und, AV.und, AV.und, AV.und, AV.und, AV.und, AV.r (RV.c (CV.f (FV.i IntKind.i64 d.snd.snd.snd.snd.snd.fst))),
    AV.r (RV.c (CV.f (FV.i IntKind.i64 d.snd.snd.snd.snd.snd.snd.fst))), AV.r (RV.c (CV.f (FV.b d.snd.snd.snd.snd.snd.snd.snd.fst))), AV.und, AV.und, AV.und, AV.und, AV.und, AV.und, AV.und, AV.und,
    AV.und, AV.und, AV.und, AV.und, AV.und, AV.und, AV.und, AV.und, AV.und, AV.und, AV.und, AV.und, AV.und, AV.und, AV.und, AV.und, AV.und]
  [some [Sg.c (CV.f (FV.b d.snd.snd.snd.snd.snd.snd.snd.snd.fst))], some [Sg.a (Sz.s d.snd.snd.snd.snd.snd.snd.snd.snd.snd.fst) [Col.i IntKind.i64 d.snd.snd.snd.snd.snd.snd.snd.snd.snd.snd.fst]],
    some [Sg.a (Sz.s d.snd.snd.snd.snd.snd.snd.snd.snd.snd.snd.snd.fst) [Col.i IntKind.i64 d.snd.snd.snd.snd.snd.snd.snd.snd.snd.snd.snd.snd.fst]],
    some [Sg.c (CV.f (FV.i IntKind.i64 d.snd.snd.snd.snd.snd.snd.snd.snd.snd.snd.snd.snd.snd.fst)), Sg.c (CV.f (FV.i IntKind.u64 d.snd.snd.snd.snd.snd.snd.snd.snd.snd.snd.snd.snd.snd.snd))]]
  [0])) :=
  iter_loopX (emb := fun (d : Int × Nat × Bool × Nat × Bool × Int × Int × Bool × Nat × (Nat → Int) × Nat × (Nat → Int) × Int × Int) => St.mk
  [AV.r (RV.c (CV.ptr 0 (Off.k 0) 1)), AV.r (RV.c (CV.f (FV.i IntKind.i64 d.fst))), AV.r (RV.c (CV.sl 1 (Off.k 0) (Sz.s d.snd.fst) 1 d.snd.snd.fst)),
    AV.r (RV.c (CV.sl 2 (Off.k 0) (Sz.s d.snd.snd.snd.fst) 1 d.snd.snd.snd.snd.fst)), AV.und, AV.und, AV.und, AV.und, AV.und, AV.r (RV.c (CV.ptr 3 (Off.k 0) 2)), AV.und, AV.und, AV.und, AV.und,
    AV.und, AV.und, AV.und, AV.und, AV.und, AV.und, AV.und, AV.und, AV.und, AV.und, AV.und, AV.r (RV.c (CV.f (FV.i IntKind.i64 d.snd.snd.snd.snd.snd.fst))),
    AV.r (RV.c (CV.f (FV.i IntKind.i64 d.snd.snd.snd.snd.snd.snd.fst))), AV.und, AV.und, AV.und, AV.und, AV.und, AV.und, AV.und, AV.und, AV.und, AV.und, AV.und, AV.und, AV.und, AV.und, AV.und, AV.und,
    AV.und, AV.und, AV.und, AV.und, AV.und, AV.und, AV.und, AV.und, AV.und, AV.und]
  [some [Sg.c (CV.f (FV.b d.snd.snd.snd.snd.snd.snd.snd.fst))], some [Sg.a (Sz.s d.snd.snd.snd.snd.snd.snd.snd.snd.fst) [Col.i IntKind.i64 d.snd.snd.snd.snd.snd.snd.snd.snd.snd.fst]],
    some [Sg.a (Sz.s d.snd.snd.snd.snd.snd.snd.snd.snd.snd.snd.fst) [Col.i IntKind.i64 d.snd.snd.snd.snd.snd.snd.snd.snd.snd.snd.snd.fst]],
    some [Sg.c (CV.f (FV.i IntKind.i64 d.snd.snd.snd.snd.snd.snd.snd.snd.snd.snd.snd.snd.fst)), Sg.c (CV.f (FV.i IntKind.u64 d.snd.snd.snd.snd.snd.snd.snd.snd.snd.snd.snd.snd.snd))]]
  [0]) (step := fun d c x => S___fx_Acc__Dot_0 f___fx_Acc__round f___fx_Acc__Sat f_wide_Mul f_wide_Add  d.1 d.2.1 d.2.2.1 d.2.2.2.1 d.2.2.2.2.1 d.2.2.2.2.2.1 d.2.2.2.2.2.2.1 d.2.2.2.2.2.2.2.1 d.2.2.2.2.2.2.2.2.1 d.2.2.2.2.2.2.2.2.2.1 d.2.2.2.2.2.2.2.2.2.2.1 d.2.2.2.2.2.2.2.2.2.2.2.1 d.2.2.2.2.2.2.2.2.2.2.2.2.1 d.2.2.2.2.2.2.2.2.2.2.2.2.2 c x) (kx := (fun d => K (AX.ex 0) (St.mk
  [AV.r (RV.c (CV.ptr 0 (Off.k 0) 1)), AV.r (RV.c (CV.f (FV.i IntKind.i64 d.fst))), AV.r (RV.c (CV.sl 1 (Off.k 0) (Sz.s d.snd.fst) 1 d.snd.snd.fst)),
    AV.r (RV.c (CV.sl 2 (Off.k 0) (Sz.s d.snd.snd.snd.fst) 1 d.snd.snd.snd.snd.fst)), AV.und, AV.und, AV.und, AV.und, AV.und, AV.r (RV.c (CV.ptr 3 (Off.k 0) 2)), AV.und, AV.und, AV.und, AV.und,
    AV.und, AV.und, AV.und, AV.und, AV.und, AV.und, AV.und, AV.und, AV.und, AV.und, AV.und, AV.r (RV.c (CV.f (FV.i IntKind.i64 d.snd.snd.snd.snd.snd.fst))),
    AV.r (RV.c (CV.f (FV.i IntKind.i64 d.snd.snd.snd.snd.snd.snd.fst))), AV.r (RV.c (CV.f (FV.b d.snd.snd.snd.snd.snd.snd.snd.fst))), AV.und, AV.und, AV.und, AV.und, AV.und, AV.und, AV.und, AV.und,
    AV.und, AV.und, AV.und, AV.und, AV.und, AV.und, AV.und, AV.und, AV.und, AV.und, AV.und, AV.und, AV.und, AV.und, AV.und, AV.und, AV.und]
  [some [Sg.c (CV.f (FV.b d.snd.snd.snd.snd.snd.snd.snd.snd.fst))], some [Sg.a (Sz.s d.snd.snd.snd.snd.snd.snd.snd.snd.snd.fst) [Col.i IntKind.i64 d.snd.snd.snd.snd.snd.snd.snd.snd.snd.snd.fst]],
    some [Sg.a (Sz.s d.snd.snd.snd.snd.snd.snd.snd.snd.snd.snd.snd.fst) [Col.i IntKind.i64 d.snd.snd.snd.snd.snd.snd.snd.snd.snd.snd.snd.snd.fst]],
    some [Sg.c (CV.f (FV.i IntKind.i64 d.snd.snd.snd.snd.snd.snd.snd.snd.snd.snd.snd.snd.snd.fst)), Sg.c (CV.f (FV.i IntKind.u64 d.snd.snd.snd.snd.snd.snd.snd.snd.snd.snd.snd.snd.snd.snd))]]
  [0])))
    (fun d c => ds___fx_Acc__Dot_0 f___fx_Acc__round f___fx_Acc__Sat f_wide_Mul f_wide_Add (@L___fx_Acc__Dot_0) d.1 d.2.1 d.2.2.1 d.2.2.2.1 d.2.2.2.2.1 d.2.2.2.2.2.1 d.2.2.2.2.2.2.1 d.2.2.2.2.2.2.2.1 d.2.2.2.2.2.2.2.2.1 d.2.2.2.2.2.2.2.2.2.1 d.2.2.2.2.2.2.2.2.2.2.1 d.2.2.2.2.2.2.2.2.2.2.2.1 d.2.2.2.2.2.2.2.2.2.2.2.2.1 d.2.2.2.2.2.2.2.2.2.2.2.2.2 c K) 200 (x0, x1, x2, x3, x4, x5, x6, x7, x8, x9, x10, x11, x12, x13)
theorem so___fx_Acc__Dot_0 : ∀ kk, SumOK Try.prog (envOf [(69, F___fx_Acc__round f___fx_Acc__round), (68, F___fx_Acc__Sat f___fx_Acc__Sat), (67, F_wide_Mul f_wide_Mul), (70, F_wide_Add f_wide_Add)]) ⟨[⟨5, [4, 5, 6, 7, 8, 10, 11, 12, 13, 14, 15, 16, 17, 18, 19, 20, 21, 22, 23, 24, 27, 28, 29, 30, 31, 32, 33, 34, 35, 36, 37, 38, 39, 40, 41, 42, 43, 44, 45, 46, 47, 48, 49, 50, 51, 52], []⟩], [⟨5, 3, @R___fx_Acc__Dot_0 (@L___fx_Acc__Dot_0)⟩], [0], [], none⟩ (tmpsOf Try.prog 61) kk 200 (loopIn Try.prog 61 5) :=
  SumOK.of (id := 5) (k0 := 3) (run := @R___fx_Acc__Dot_0 (@L___fx_Acc__Dot_0)) (by kernel_rfl) fun s K r hr => by
    unfold R___fx_Acc__Dot_0 at hr
    obtain ⟨b, hb, hr1⟩ := Option.bind_eq_some_iff.1 hr
    have e := ((Q___fx_Acc__Dot_0).ok s b hb).trans (q___fx_Acc__Dot_0 b)
    subst e
    exact ⟨200, (it___fx_Acc__Dot_0 b.1.2.1 b.1.2.2.1.2.2.1 b.1.2.2.1.2.2.2.2 b.1.2.2.2.1.2.2.1 b.1.2.2.2.1.2.2.2.2 b.1.2.2.2.2.2.2.2.2.2.2.2.2.2.2.2.2.2.2.2.2.2.2.2.2.2.1 b.1.2.2.2.2.2.2.2.2.2.2.2.2.2.2.2.2.2.2.2.2.2.2.2.2.2.2.1 b.2.1.1.1 b.2.1.2.1.1.1 b.2.1.2.1.1.2.1 b.2.1.2.2.1.1.1 b.2.1.2.2.1.1.2.1 b.2.1.2.2.2.1.1 b.2.1.2.2.2.1.2.1 K).trans hr1⟩
def K___fx_Acc__Dot {ρ : Type} (g___fx_Acc__round : Int → Int → Int → Bool → Option (Int × Bool)) (g___fx_Acc__Sat : Int → Bool → Option (Int × Bool)) (g_wide_Mul : Int → Int → Option (Int × Int)) (g_wide_Add : Nat → (Nat → Int) → (Nat → Int) → Bool → Option (Int × Int × Bool)) (l_0 : ∀ {ρ : Type}, (Int × Nat × Bool × Nat × Bool × Int × Int × Bool × Nat × (Nat → Int) × Nat × (Nat → Int) × Int × Int) → ((Int × Nat × Bool × Nat × Bool × Int × Int × Bool × Bool × Nat × (Nat → Int) × Nat × (Nat → Int) × Int × Int) → Option ρ) → Option ρ) (x0 : Int) (x1 : Nat) (x2 : Nat) (x3 : Bool) (x4 : Nat → Int) (x5 : Nat → Int) (w0 : Bool) (w1 : Bool) (k : (Int × Bool) → Option ρ) : Option ρ :=
  bif decide (x0 < 0) then Option.bind (g___fx_Acc__round 0 0 x0 x3) fun (d : Int × Bool) => k (d.fst, d.snd)
  else
    bif decide (x0 > 120) then Option.bind (g___fx_Acc__round 0 0 x0 x3) fun (d : Int × Bool) => k (d.fst, d.snd)
    else
      l_0
        (x0, x1, w0, x2, w1, if 100 < if Int.ofNat x2 < Int.ofNat x1 then Int.ofNat x2 else Int.ofNat x1 then 100 else if Int.ofNat x2 < Int.ofNat x1 then Int.ofNat x2 else Int.ofNat x1, 0, x3, x1, x4,
          x2, x5, 0, 0)
        fun (d : Int × Nat × Bool × Nat × Bool × Int × Int × Bool × Bool × Nat × (Nat → Int) × Nat × (Nat → Int) × Int × Int) =>
        Option.bind (g___fx_Acc__round d.snd.snd.snd.snd.snd.snd.snd.snd.snd.snd.snd.snd.snd.fst d.snd.snd.snd.snd.snd.snd.snd.snd.snd.snd.snd.snd.snd.snd d.fst d.snd.snd.snd.snd.snd.snd.snd.snd.fst)
          fun (d : Int × Bool) => k (d.fst, d.snd)
def f___fx_Acc__Dot (x0 : Int) (x1 : Nat) (x2 : Nat) (x3 : Bool) (x4 : Nat → Int) (x5 : Nat → Int) (w0 : Bool) (w1 : Bool) : Option (Int × Bool) := K___fx_Acc__Dot f___fx_Acc__round f___fx_Acc__Sat f_wide_Mul f_wide_Add (@L___fx_Acc__Dot_0) x0 x1 x2 x3 x4 x5 w0 w1 some
section
open Go.Ab.Rdr
def QA___fx_Acc__Dot := ((pair (cons (ar (rc (cptr (nat 0) (ok' (nat 0)) (nat 1)))) (cons (ar (rc (cf (fi .i64 hole)))) (cons (ar (rc (csl (nat 1) (ok' (nat 0)) (szs hole) (nat 1) hole))) (cons (ar (rc (csl (nat 2) (ok' (nat 0)) (szs hole) (nat 1) hole))) nil)))) (cons (cons (gc (cf (fb hole))) nil) (cons (cons (ga (szs hole) (cons (ki .i64 hole) nil)) nil) (cons (cons (ga (szs hole) (cons (ki .i64 hole) nil)) nil) nil)))) : Rdr (List AV × List Blk) _)
end
def F0___fx_Acc__Dot (f : (Int) → (Nat) → (Nat) → (Bool) → (Nat → Int) → (Nat → Int) → (Bool) → (Bool) → Option (Int × Bool)) : Sem1 := fun args h => match (QA___fx_Acc__Dot).rd (args, h) with
  | some b => .test (Nat.beq b.2.2.1.1.1 b.1.2.2.1.2.2.1) (.test (Nat.beq b.2.2.2.1.1.1 b.1.2.2.2.1.2.2.1) (.opt (f b.1.2.1 b.1.2.2.1.2.2.1 b.1.2.2.2.1.2.2.1 b.2.1.1 b.2.2.1.1.2.1 b.2.2.2.1.1.2.1 b.1.2.2.1.2.2.2.2 b.1.2.2.2.1.2.2.2.2) fun (d : Int × Bool) => .leaf (Res.mk (AV.r (RV.c (CV.f (FV.i IntKind.i64 d.fst)))) [Ch.set [Sg.c (CV.f (FV.b d.snd))], Ch.keep, Ch.keep] [])) .fail) .fail
  | none => .fail
def F___fx_Acc__Dot (f : (Int) → (Nat) → (Nat) → (Bool) → (Nat → Int) → (Nat → Int) → (Bool) → (Bool) → Option (Int × Bool)) : Sem1 := (nilF 3 [.i .i64] (nilF 2 [.i .i64] (F0___fx_Acc__Dot f)))
theorem d___fx_Acc__Dot (g___fx_Acc__round : Int → Int → Int → Bool → Option (Int × Bool)) (g___fx_Acc__Sat : Int → Bool → Option (Int × Bool)) (g_wide_Mul : Int → Int → Option (Int × Int)) (g_wide_Add : Nat → (Nat → Int) → (Nat → Int) → Bool → Option (Int × Int × Bool)) (l_0 : ∀ {ρ : Type}, (Int × Nat × Bool × Nat × Bool × Int × Int × Bool × Nat × (Nat → Int) × Nat × (Nat → Int) × Int × Int) → ((Int × Nat × Bool × Nat × Bool × Int × Int × Bool × Bool × Nat × (Nat → Int) × Nat × (Nat → Int) × Int × Int) → Option ρ) → Option ρ) (x0 : Int) (x1 : Nat) (x2 : Nat) (x3 : Bool) (x4 : Nat → Int) (x5 : Nat → Int) (w0 : Bool) (w1 : Bool) : den Try.prog (envOf [(69, F___fx_Acc__round g___fx_Acc__round), (68, F___fx_Acc__Sat g___fx_Acc__Sat), (67, F_wide_Mul g_wide_Mul), (70, F_wide_Add g_wide_Add)]) ⟨[⟨5, [4, 5, 6, 7, 8, 10, 11, 12, 13, 14, 15, 16, 17, 18, 19, 20, 21, 22, 23, 24, 27, 28, 29, 30, 31, 32, 33, 34, 35, 36, 37, 38, 39, 40, 41, 42, 43, 44, 45, 46, 47, 48, 49, 50, 51, 52], []⟩], [⟨5, 3, @R___fx_Acc__Dot_0 (@l_0)⟩], [0], [], none⟩ 200 61 [.r (.c (.ptr 0 (.k 0) 1)), .r (.c (.f (.i .i64 x0))), .r (.c (.sl 1 (.k 0) (.s x1) 1 w0)), .r (.c (.sl 2 (.k 0) (.s x2) 1 w1))] [[.c (.f (.b x3))], [.a (.s x1) [.i .i64 x4]], [.a (.s x2) [.i .i64 x5]]] =
    K___fx_Acc__Dot g___fx_Acc__round g___fx_Acc__Sat g_wide_Mul g_wide_Add (@l_0) x0 x1 x2 x3 x4 x5 w0 w1 (fun (d : Int × Bool) => some (Res.mk (AV.r (RV.c (CV.f (FV.i IntKind.i64 d.fst)))) [Ch.set [Sg.c (CV.f (FV.b d.snd))], Ch.keep, Ch.keep] [])) := by kernel_rfl
theorem m___fx_Acc__Dot {ρ σ : Type} (q : ρ → Option σ) (g___fx_Acc__round : Int → Int → Int → Bool → Option (Int × Bool)) (g___fx_Acc__Sat : Int → Bool → Option (Int × Bool)) (g_wide_Mul : Int → Int → Option (Int × Int)) (g_wide_Add : Nat → (Nat → Int) → (Nat → Int) → Bool → Option (Int × Int × Bool)) (l_0 : ∀ {ρ : Type}, (Int × Nat × Bool × Nat × Bool × Int × Int × Bool × Nat × (Nat → Int) × Nat × (Nat → Int) × Int × Int) → ((Int × Nat × Bool × Nat × Bool × Int × Int × Bool × Bool × Nat × (Nat → Int) × Nat × (Nat → Int) × Int × Int) → Option ρ) → Option ρ) (hl_0 : ∀ {ρ σ : Type} (q : ρ → Option σ) (d : Int × Nat × Bool × Nat × Bool × Int × Int × Bool × Nat × (Nat → Int) × Nat × (Nat → Int) × Int × Int) (k : (Int × Nat × Bool × Nat × Bool × Int × Int × Bool × Bool × Nat × (Nat → Int) × Nat × (Nat → Int) × Int × Int) → Option ρ), (l_0 d k).bind q = l_0 d fun x => (k x).bind q) (x0 : Int) (x1 : Nat) (x2 : Nat) (x3 : Bool) (x4 : Nat → Int) (x5 : Nat → Int) (w0 : Bool) (w1 : Bool) (k : (Int × Bool) → Option ρ) : (K___fx_Acc__Dot g___fx_Acc__round g___fx_Acc__Sat g_wide_Mul g_wide_Add (@l_0) x0 x1 x2 x3 x4 x5 w0 w1 k).bind q = K___fx_Acc__Dot g___fx_Acc__round g___fx_Acc__Sat g_wide_Mul g_wide_Add (@l_0) x0 x1 x2 x3 x4 x5 w0 w1 (fun d => (k d).bind q) := by
  simp only [K___fx_Acc__Dot, bnd_cond, bnd_bind, bnd_none, bnd_sum, hl_0]
theorem qa___fx_Acc__Dot : ∀ b, (QA___fx_Acc__Dot).em b = ([.r (.c (.ptr 0 (.k 0) 1)), .r (.c (.f (.i .i64 b.1.2.1))), .r (.c (.sl 1 (.k 0) (.s b.1.2.2.1.2.2.1) 1 b.1.2.2.1.2.2.2.2)), .r (.c (.sl 2 (.k 0) (.s b.1.2.2.2.1.2.2.1) 1 b.1.2.2.2.1.2.2.2.2))], [[.c (.f (.b b.2.1.1))], [.a (.s b.2.2.1.1.1) [.i .i64 b.2.2.1.1.2.1]], [.a (.s b.2.2.2.1.1.1) [.i .i64 b.2.2.2.1.1.2.1]]]) := fun b => by kernel_rfl
theorem e___fx_Acc__Dot {f : (Int) → (Nat) → (Nat) → (Bool) → (Nat → Int) → (Nat → Int) → (Bool) → (Bool) → Option (Int × Bool)} {args : List AV} {h : List Blk} {r : Res} (hr : (F0___fx_Acc__Dot f args h).eval = some r) : ∃ x0 x1 x2 x3 x4 x5 w0 w1, args = [.r (.c (.ptr 0 (.k 0) 1)), .r (.c (.f (.i .i64 x0))), .r (.c (.sl 1 (.k 0) (.s x1) 1 w0)), .r (.c (.sl 2 (.k 0) (.s x2) 1 w1))] ∧ h = [[.c (.f (.b x3))], [.a (.s x1) [.i .i64 x4]], [.a (.s x2) [.i .i64 x5]]] ∧ (f x0 x1 x2 x3 x4 x5 w0 w1).bind (fun (d : Int × Bool) => some (Res.mk (AV.r (RV.c (CV.f (FV.i IntKind.i64 d.fst)))) [Ch.set [Sg.c (CV.f (FV.b d.snd))], Ch.keep, Ch.keep] [])) = some r := by
  unfold F0___fx_Acc__Dot at hr
  split at hr
  · rename_i b hb
    have e := ((QA___fx_Acc__Dot).ok _ _ hb).trans (qa___fx_Acc__Dot b)
    obtain ⟨he, hr1⟩ := test_eval hr
    clear hr
    have hr := hr1
    clear hr1
    rw [Nat.eq_of_beq_eq_true he] at e
    clear he
    obtain ⟨he, hr1⟩ := test_eval hr
    clear hr
    have hr := hr1
    clear hr1
    rw [Nat.eq_of_beq_eq_true he] at e
    clear he
    rw [opt_eval2] at hr
    exact ⟨b.1.2.1, b.1.2.2.1.2.2.1, b.1.2.2.2.1.2.2.1, b.2.1.1, b.2.2.1.1.2.1, b.2.2.2.1.1.2.1, b.1.2.2.1.2.2.2.2, b.1.2.2.2.1.2.2.2.2, (Prod.mk.inj e).1, (Prod.mk.inj e).2, hr⟩
  · cases hr
theorem n___fx_Acc__Dot {σ : Type} (q : (Int × Bool) → Option σ) (x0 : Int) (x1 : Nat) (x2 : Nat) (x3 : Bool) (x4 : Nat → Int) (x5 : Nat → Int) (w0 : Bool) (w1 : Bool) : (f___fx_Acc__Dot x0 x1 x2 x3 x4 x5 w0 w1).bind q = K___fx_Acc__Dot f___fx_Acc__round f___fx_Acc__Sat f_wide_Mul f_wide_Add (@L___fx_Acc__Dot_0) x0 x1 x2 x3 x4 x5 w0 w1 q := by
  unfold f___fx_Acc__Dot
  exact m___fx_Acc__Dot q f___fx_Acc__round f___fx_Acc__Sat f_wide_Mul f_wide_Add (@L___fx_Acc__Dot_0) (fun q d k => mL___fx_Acc__Dot_0 q d k) x0 x1 x2 x3 x4 x5 w0 w1 some
theorem s___fx_Acc__Dot : Sound Try.prog 61 (F___fx_Acc__Dot f___fx_Acc__Dot) :=
  Sound.nil 3 [.i .i64] <| Sound.nil 2 [.i .i64] <| (inl_sums (l := [(69, F___fx_Acc__round f___fx_Acc__round), (68, F___fx_Acc__Sat f___fx_Acc__Sat), (67, F_wide_Mul f_wide_Mul), (70, F_wide_Add f_wide_Add)]) (.cons s___fx_Acc__round (.cons s___fx_Acc__Sat (.cons s_wide_Mul (.cons s_wide_Add (.nil _))))) mixed (hs := ⟨[⟨5, [4, 5, 6, 7, 8, 10, 11, 12, 13, 14, 15, 16, 17, 18, 19, 20, 21, 22, 23, 24, 27, 28, 29, 30, 31, 32, 33, 34, 35, 36, 37, 38, 39, 40, 41, 42, 43, 44, 45, 46, 47, 48, 49, 50, 51, 52], []⟩], [⟨5, 3, @R___fx_Acc__Dot_0 (@L___fx_Acc__Dot_0)⟩], [0], [], none⟩) (lf := 200) (Sums.by (l := [loopIn Try.prog 61 5]) (lj := []) (by kernel_rfl) ⟨so___fx_Acc__Dot_0, trivial⟩ (by kernel_rfl) trivial) (by kernel_rfl)).by (F := F0___fx_Acc__Dot f___fx_Acc__Dot) fun args b r hr => by
  obtain ⟨x0, x1, x2, x3, x4, x5, w0, w1, rfl, rfl, hr1⟩ := e___fx_Acc__Dot hr
  exact inl_eval ((d___fx_Acc__Dot f___fx_Acc__round f___fx_Acc__Sat f_wide_Mul f_wide_Add (@L___fx_Acc__Dot_0) x0 x1 x2 x3 x4 x5 w0 w1).trans ((n___fx_Acc__Dot (fun (d : Int × Bool) => some (Res.mk (AV.r (RV.c (CV.f (FV.i IntKind.i64 d.fst)))) [Ch.set [Sg.c (CV.f (FV.b d.snd))], Ch.keep, Ch.keep] [])) x0 x1 x2 x3 x4 x5 w0 w1).symm.trans hr1))

end Go.Proofs.Ytmlmpcabphgfaaa
