/-
  Contracts by plain functions: gnss.Read, (wide.big).shl, (wide.big).shr, wide.Round, (*fx.Acc).round, (*fx.Acc).Mul, earth.New$1, trig.Wrap, fx.Abs, trig.m, wide.Of, wide.add, wide.Add, (*fx.Acc).Add, trig.series, trig.Sin, trig.Cos, wide.Shift, (wide.big).less, (wide.big).minus, wide.Root, root.end, root.Sqrt, (*fx.Acc).Div, earth.New, bierman.Pick, (*fx.Acc).Sub, gnss.straight, gnss.Velocity, (*earth.Frame).To
-/
import Derived.Test.YtdpenjncfmkbgaaGN1
set_option maxRecDepth 100000
set_option maxHeartbeats 4000000
set_option linter.unusedVariables false
namespace Go.Proofs.Ytdpenjncfmkbgaa
open Go.Ab
def S_gnss_Read_0 {ρ : Type} (g_gnss_Good : Int → Int → Int → Int → Int → Int → Int → Int → Int → Option Bool) (g_gnss_place : Int → Int → Int → Int → Int → Int → Int → Int → Int → Option (Int × Int × Int)) (g_gnss_variance : Int → Option Int) (g___fx_Acc__MulDiv : Int → Int → Int → Bool → Option (Int ×
  Bool)) (x0 : Int) (x1 : Bool) (x2 : Int) (x3 : Int) (x4 : Int) (x5 : Int) (x6 : Int) (x7 : Int) (x8 : Int) (x9 : Int) (x10 : Int) (x11 : Int) (x12 : Int) (x13 : Int) (x14 : Int) (x15 : Int) (x16 : Int) (x17 : Int) (x18 : Int) (c : (Int × Bool × Int × Int × Int × Int × Int × Int × Int × Int × Int × Int ×
  Int × Int × Int × Int × Int × Int × Int) → Option ρ) (x : (Int × Bool × Bool × Int × Int × Int × Int × Int × Int × Int × Int × Int × Int × Int × Int × Int × Int × Int × Int × Int) → Option ρ) : Option ρ := bif decide (x0 < 3) then bif inR (IntKind.wrap IntKind.i64 (3 + x0)) 8 then bif IntKind.wrap IntKind.i64 (3 + x0) == 7 then
  Option.bind (g___fx_Acc__MulDiv x10 1073741824 1000 x1) fun (d : Int × Bool) => bif inR x0 3 then bif x0 == 2 then c (IntKind.wrap IntKind.i64 (x0 + 1), d.2, x2, x3, x4, x5, x6, x7, x8, x9, x10, x11, x12, x13, x14, x15, d.1, x17, x18) else bif x0 == 1 then c (IntKind.wrap IntKind.i64 (x0 + 1), d.2,
  x2, x3, x4, x5, x6, x7, x8, x9, x10, x11, x12, x13, x14, d.1, x16, x17, x18) else c (IntKind.wrap IntKind.i64 (x0 + 1), d.2, x2, x3, x4, x5, x6, x7, x8, x9, x10, x11, x12, x13, d.1, x15, x16, x17, x18) else none else bif IntKind.wrap IntKind.i64 (3 + x0) == 6 then Option.bind (g___fx_Acc__MulDiv x9 1073741824 1000 x1) fun (d : Int ×
  Bool) => bif inR x0 3 then bif x0 == 2 then c (IntKind.wrap IntKind.i64 (x0 + 1), d.2, x2, x3, x4, x5, x6, x7, x8, x9, x10, x11, x12, x13, x14, x15, d.1, x17, x18) else bif x0 == 1 then c (IntKind.wrap IntKind.i64 (x0 + 1), d.2, x2, x3, x4, x5, x6, x7, x8, x9, x10, x11, x12, x13, x14, d.1, x16,
  x17, x18) else c (IntKind.wrap IntKind.i64 (x0 + 1), d.2, x2, x3, x4, x5, x6, x7, x8, x9, x10, x11, x12, x13, d.1, x15, x16, x17, x18) else none else bif IntKind.wrap IntKind.i64 (3 + x0) == 5 then Option.bind (g___fx_Acc__MulDiv x8 1073741824 1000 x1) fun (d : Int × Bool) => bif inR x0 3 then bif x0 == 2 then
  c (IntKind.wrap IntKind.i64 (x0 + 1), d.2, x2, x3, x4, x5, x6, x7, x8, x9, x10, x11, x12, x13, x14, x15, d.1, x17, x18) else bif x0 == 1 then c (IntKind.wrap IntKind.i64 (x0 + 1), d.2, x2, x3, x4, x5, x6, x7, x8, x9, x10, x11, x12, x13, x14, d.1, x16, x17, x18) else c (IntKind.wrap IntKind.i64 (x0 + 1),
  d.2, x2, x3, x4, x5, x6, x7, x8, x9, x10, x11, x12, x13, d.1, x15, x16, x17, x18) else none else bif IntKind.wrap IntKind.i64 (3 + x0) == 4 then Option.bind (g___fx_Acc__MulDiv x7 1073741824 1000 x1) fun (d : Int × Bool) => bif inR x0 3 then bif x0 == 2 then c (IntKind.wrap IntKind.i64 (x0 + 1),
  d.2, x2, x3, x4, x5, x6, x7, x8, x9, x10, x11, x12, x13, x14, x15, d.1, x17, x18) else bif x0 == 1 then c (IntKind.wrap IntKind.i64 (x0 + 1), d.2, x2, x3, x4, x5, x6, x7, x8, x9, x10, x11, x12, x13, x14, d.1, x16, x17, x18) else c (IntKind.wrap IntKind.i64 (x0 + 1), d.2, x2, x3, x4, x5, x6,
  x7, x8, x9, x10, x11, x12, x13, d.1, x15, x16, x17, x18) else none else bif IntKind.wrap IntKind.i64 (3 + x0) == 3 then Option.bind (g___fx_Acc__MulDiv x6 1073741824 1000 x1) fun (d : Int × Bool) => bif inR x0 3 then bif x0 == 2 then c (IntKind.wrap IntKind.i64 (x0 + 1), d.2, x2, x3, x4, x5, x6,
  x7, x8, x9, x10, x11, x12, x13, x14, x15, d.1, x17, x18) else bif x0 == 1 then c (IntKind.wrap IntKind.i64 (x0 + 1), d.2, x2, x3, x4, x5, x6, x7, x8, x9, x10, x11, x12, x13, x14, d.1, x16, x17, x18) else c (IntKind.wrap IntKind.i64 (x0 + 1), d.2, x2, x3, x4, x5, x6, x7, x8, x9, x10, x11, x12,
  x13, d.1, x15, x16, x17, x18) else none else bif IntKind.wrap IntKind.i64 (3 + x0) == 2 then Option.bind (g___fx_Acc__MulDiv x5 1073741824 1000 x1) fun (d : Int × Bool) => bif inR x0 3 then bif x0 == 2 then c (IntKind.wrap IntKind.i64 (x0 + 1), d.2, x2, x3, x4, x5, x6, x7, x8, x9, x10, x11, x12,
  x13, x14, x15, d.1, x17, x18) else bif x0 == 1 then c (IntKind.wrap IntKind.i64 (x0 + 1), d.2, x2, x3, x4, x5, x6, x7, x8, x9, x10, x11, x12, x13, x14, d.1, x16, x17, x18) else c (IntKind.wrap IntKind.i64 (x0 + 1), d.2, x2, x3, x4, x5, x6, x7, x8, x9, x10, x11, x12, x13, d.1, x15, x16, x17,
  x18) else none else bif IntKind.wrap IntKind.i64 (3 + x0) == 1 then Option.bind (g___fx_Acc__MulDiv x4 1073741824 1000 x1) fun (d : Int × Bool) => bif inR x0 3 then bif x0 == 2 then c (IntKind.wrap IntKind.i64 (x0 + 1), d.2, x2, x3, x4, x5, x6, x7, x8, x9, x10, x11, x12, x13, x14, x15, d.1, x17,
  x18) else bif x0 == 1 then c (IntKind.wrap IntKind.i64 (x0 + 1), d.2, x2, x3, x4, x5, x6, x7, x8, x9, x10, x11, x12, x13, x14, d.1, x16, x17, x18) else c (IntKind.wrap IntKind.i64 (x0 + 1), d.2, x2, x3, x4, x5, x6, x7, x8, x9, x10, x11, x12, x13, d.1, x15, x16, x17, x18) else none else Option.bind (g___fx_Acc__MulDiv x3 1073741824 1000 x1) fun (d : Int ×
  Bool) => bif inR x0 3 then bif x0 == 2 then c (IntKind.wrap IntKind.i64 (x0 + 1), d.2, x2, x3, x4, x5, x6, x7, x8, x9, x10, x11, x12, x13, x14, x15, d.1, x17, x18) else bif x0 == 1 then c (IntKind.wrap IntKind.i64 (x0 + 1), d.2, x2, x3, x4, x5, x6, x7, x8, x9, x10, x11, x12, x13, x14, d.1, x16,
  x17, x18) else c (IntKind.wrap IntKind.i64 (x0 + 1), d.2, x2, x3, x4, x5, x6, x7, x8, x9, x10, x11, x12, x13, d.1, x15, x16, x17, x18) else none else none else x (x0, decide (x0 < 3), x1, x2, x3, x4, x5, x6, x7, x8, x9, x10, x11, x12, x13, x14, x15, x16, x17, x18)
section
open Go.Ab.Rdr
def Q_gnss_Read_0 := (st (cons (ar (rc (cptr (nat 0) (ok' (nat 0)) (nat 1)))) (cons aund (cons aund (cons (ar (rc (cptr (nat 1) (ok' (nat 0)) (nat 9)))) (cons (ar (rc (cptr (nat 2) (ok' (nat 0)) (nat 8)))) (cons aund (cons (ar (rc (cptr (nat 3) (ok' (nat 0)) (nat 8)))) (cons aund (cons aund (cons aund (cons aund (cons aund (cons aund (cons aund (cons aund (cons aund (cons aund (cons aund (cons aund (cons aund (cons aund (cons aund (cons aund (cons (ar (rc (cf (fi .i64 hole)))) (cons aund (cons aund (cons aund (cons aund (cons aund (cons aund (cons aund (cons aund (cons aund (cons aund (cons aund (cons aund (cons aund (cons aund nil)))))))))))))))))))))))))))))))))))))) (cons (some' (cons (gc (cf (fb hole))) nil)) (cons (some' (cons (gc (cf (fi .i64 hole))) (cons (gc (cf (fi .i64 hole))) (cons (gc (cf (fi .i64 hole))) (cons (gc (cf (fi .i64 hole))) (cons (gc (cf (fi .i64 hole))) (cons (gc (cf (fi .i64 hole))) (cons (gc (cf (fi .i64 hole))) (cons (gc (cf (fi .i64 hole))) (cons (gc (cf (fi .i64 hole))) nil)))))))))) (cons (some' (cons (gc (cf (fi .i64 (int 0)))) (cons (gc (cf (fi .i64 (int 0)))) (cons (gc (cf (fi .i64 (int 0)))) (cons (gc (cf (fi .i64 (int 0)))) (cons (gc (cf (fi .i64 (int 0)))) (cons (gc (cf (fi .i64 (int 0)))) (cons (gc (cf (fi .i64 (int 0)))) (cons (gc (cf (fi .i64 (int 0)))) nil))))))))) (cons (some' (cons (gc (cf (fi .i64 hole))) (cons (gc (cf (fi .i64 hole))) (cons (gc (cf (fi .i64 hole))) (cons (gc (cf (fi .i64 hole))) (cons (gc (cf (fi .i64 hole))) (cons (gc (cf (fi .i64 hole))) (cons (gc (cf (fi .i64 hole))) (cons (gc (cf (fi .i64 hole))) nil))))))))) nil)))) (cons (nat 0) nil))
end
theorem q_gnss_Read_0 : ∀ b, (Q_gnss_Read_0).em b = St.mk [AV.r (RV.c (CV.ptr 0 (Off.k 0) 1)), AV.und, AV.und, AV.r (RV.c (CV.ptr 1 (Off.k 0) 9)), AV.r (RV.c (CV.ptr 2 (Off.k 0) 8)), AV.und, AV.r (RV.c (CV.ptr 3 (Off.k 0) 8)), AV.und, AV.und, AV.und, AV.und, AV.und, AV.und, AV.und, AV.und, AV.und, AV.und,
  AV.und, AV.und, AV.und, AV.und, AV.und, AV.und, AV.r (RV.c (CV.f (FV.i IntKind.i64 b.1.2.2.2.2.2.2.2.2.2.2.2.2.2.2.2.2.2.2.2.2.2.2.2.1))), AV.und, AV.und, AV.und, AV.und, AV.und, AV.und, AV.und, AV.und, AV.und, AV.und, AV.und, AV.und, AV.und, AV.und] [some [Sg.c (CV.f (FV.b b.2.1.1.1))], some [Sg.c (CV.f (FV.i IntKind.i64 b.2.1.2.1.1)),
  Sg.c (CV.f (FV.i IntKind.i64 b.2.1.2.1.2.1)), Sg.c (CV.f (FV.i IntKind.i64 b.2.1.2.1.2.2.1)), Sg.c (CV.f (FV.i IntKind.i64 b.2.1.2.1.2.2.2.1)), Sg.c (CV.f (FV.i IntKind.i64 b.2.1.2.1.2.2.2.2.1)), Sg.c (CV.f (FV.i IntKind.i64 b.2.1.2.1.2.2.2.2.2.1)), Sg.c (CV.f (FV.i IntKind.i64 b.2.1.2.1.2.2.2.2.2.2.1)),
  Sg.c (CV.f (FV.i IntKind.i64 b.2.1.2.1.2.2.2.2.2.2.2.1)), Sg.c (CV.f (FV.i IntKind.i64 b.2.1.2.1.2.2.2.2.2.2.2.2.1))], some [Sg.c (CV.f (FV.i IntKind.i64 0)), Sg.c (CV.f (FV.i IntKind.i64 0)), Sg.c (CV.f (FV.i IntKind.i64 0)), Sg.c (CV.f (FV.i IntKind.i64 0)), Sg.c (CV.f (FV.i IntKind.i64 0)), Sg.c (CV.f (FV.i IntKind.i64 0)),
  Sg.c (CV.f (FV.i IntKind.i64 0)), Sg.c (CV.f (FV.i IntKind.i64 0))], some [Sg.c (CV.f (FV.i IntKind.i64 b.2.1.2.2.2.1.1)), Sg.c (CV.f (FV.i IntKind.i64 b.2.1.2.2.2.1.2.1)), Sg.c (CV.f (FV.i IntKind.i64 b.2.1.2.2.2.1.2.2.1)), Sg.c (CV.f (FV.i IntKind.i64 b.2.1.2.2.2.1.2.2.2.1)), Sg.c (CV.f (FV.i IntKind.i64 b.2.1.2.2.2.1.2.2.2.2.1)),
  Sg.c (CV.f (FV.i IntKind.i64 b.2.1.2.2.2.1.2.2.2.2.2.1)), Sg.c (CV.f (FV.i IntKind.i64 b.2.1.2.2.2.1.2.2.2.2.2.2.1)), Sg.c (CV.f (FV.i IntKind.i64 b.2.1.2.2.2.1.2.2.2.2.2.2.2.1))]] [0] := fun b => by kernel_rfl
def R_gnss_Read_0 (l : ∀ {ρ : Type}, (Int × Bool × Int × Int × Int × Int × Int × Int × Int × Int × Int × Int × Int × Int × Int × Int × Int × Int × Int) → ((Int × Bool × Bool × Int × Int × Int × Int × Int × Int × Int × Int × Int × Int × Int × Int × Int × Int × Int × Int × Int) → Option ρ) → Option ρ) {ρ : Type} (s : St) (K : AX →
  St → Option ρ) : Option ρ := ((Q_gnss_Read_0).rd s).bind fun b => l (b.1.2.2.2.2.2.2.2.2.2.2.2.2.2.2.2.2.2.2.2.2.2.2.2.1, b.2.1.1.1, b.2.1.2.1.1, b.2.1.2.1.2.1, b.2.1.2.1.2.2.1, b.2.1.2.1.2.2.2.1, b.2.1.2.1.2.2.2.2.1, b.2.1.2.1.2.2.2.2.2.1, b.2.1.2.1.2.2.2.2.2.2.1, b.2.1.2.1.2.2.2.2.2.2.2.1, b.2.1.2.1.2.2.2.2.2.2.2.2.1,
  b.2.1.2.2.2.1.1, b.2.1.2.2.2.1.2.1, b.2.1.2.2.2.1.2.2.1, b.2.1.2.2.2.1.2.2.2.1, b.2.1.2.2.2.1.2.2.2.2.1, b.2.1.2.2.2.1.2.2.2.2.2.1, b.2.1.2.2.2.1.2.2.2.2.2.2.1, b.2.1.2.2.2.1.2.2.2.2.2.2.2.1) (fun d => K (AX.ex 0) (St.mk [AV.r (RV.c (CV.ptr 0 (Off.k 0) 1)), AV.und, AV.und, AV.r (RV.c (CV.ptr 1 (Off.k 0) 9)),
  AV.r (RV.c (CV.ptr 2 (Off.k 0) 8)), AV.und, AV.r (RV.c (CV.ptr 3 (Off.k 0) 8)), AV.und, AV.und, AV.und, AV.und, AV.und, AV.und, AV.und, AV.und, AV.und, AV.und, AV.und, AV.und, AV.und, AV.und, AV.und, AV.und, AV.r (RV.c (CV.f (FV.i IntKind.i64 d.1))), AV.r (RV.c (CV.f (FV.b d.2.1))), AV.und, AV.und,
  AV.und, AV.und, AV.und, AV.und, AV.und, AV.und, AV.und, AV.und, AV.und, AV.und, AV.und] [some [Sg.c (CV.f (FV.b d.2.2.1))], some [Sg.c (CV.f (FV.i IntKind.i64 d.2.2.2.1)), Sg.c (CV.f (FV.i IntKind.i64 d.2.2.2.2.1)), Sg.c (CV.f (FV.i IntKind.i64 d.2.2.2.2.2.1)), Sg.c (CV.f (FV.i IntKind.i64 d.2.2.2.2.2.2.1)),
  Sg.c (CV.f (FV.i IntKind.i64 d.2.2.2.2.2.2.2.1)), Sg.c (CV.f (FV.i IntKind.i64 d.2.2.2.2.2.2.2.2.1)), Sg.c (CV.f (FV.i IntKind.i64 d.2.2.2.2.2.2.2.2.2.1)), Sg.c (CV.f (FV.i IntKind.i64 d.2.2.2.2.2.2.2.2.2.2.1)), Sg.c (CV.f (FV.i IntKind.i64 d.2.2.2.2.2.2.2.2.2.2.2.1))],
  some [Sg.c (CV.f (FV.i IntKind.i64 0)), Sg.c (CV.f (FV.i IntKind.i64 0)), Sg.c (CV.f (FV.i IntKind.i64 0)), Sg.c (CV.f (FV.i IntKind.i64 0)), Sg.c (CV.f (FV.i IntKind.i64 0)), Sg.c (CV.f (FV.i IntKind.i64 0)), Sg.c (CV.f (FV.i IntKind.i64 0)), Sg.c (CV.f (FV.i IntKind.i64 0))], some [Sg.c (CV.f (FV.i IntKind.i64 d.2.2.2.2.2.2.2.2.2.2.2.2.1)),
  Sg.c (CV.f (FV.i IntKind.i64 d.2.2.2.2.2.2.2.2.2.2.2.2.2.1)), Sg.c (CV.f (FV.i IntKind.i64 d.2.2.2.2.2.2.2.2.2.2.2.2.2.2.1)), Sg.c (CV.f (FV.i IntKind.i64 d.2.2.2.2.2.2.2.2.2.2.2.2.2.2.2.1)), Sg.c (CV.f (FV.i IntKind.i64 d.2.2.2.2.2.2.2.2.2.2.2.2.2.2.2.2.1)),
  Sg.c (CV.f (FV.i IntKind.i64 d.2.2.2.2.2.2.2.2.2.2.2.2.2.2.2.2.2.1)), Sg.c (CV.f (FV.i IntKind.i64 d.2.2.2.2.2.2.2.2.2.2.2.2.2.2.2.2.2.2.1)), Sg.c (CV.f (FV.i IntKind.i64 d.2.2.2.2.2.2.2.2.2.2.2.2.2.2.2.2.2.2.2))]] [0]))
theorem ms_gnss_Read_0 {ρ σ : Type} (g_gnss_Good : Int → Int → Int → Int → Int → Int → Int → Int → Int → Option Bool) (g_gnss_place : Int → Int → Int → Int → Int → Int → Int → Int → Int → Option (Int × Int × Int)) (g_gnss_variance : Int → Option Int) (g___fx_Acc__MulDiv : Int → Int → Int → Bool → Option (Int × Bool))   (q : ρ → Option σ) (x0 : Int) (x1 : Bool) (x2 : Int) (x3 : Int) (x4 : Int) (x5 : Int) (x6 : Int) (x7 : Int) (x8 : Int) (x9 : Int) (x10 : Int) (x11 : Int) (x12 : Int) (x13 : Int) (x14 : Int) (x15 : Int) (x16 : Int) (x17 : Int) (x18 : Int) (c : (Int × Bool × Int × Int × Int × Int × Int × Int × Int × Int × Int × Int × Int × Int × Int × Int × Int × Int × Int) → Option ρ) (x : (Int × Bool × Bool × Int × Int × Int × Int × Int × Int × Int × Int × Int × Int × Int × Int × Int × Int × Int × Int × Int) → Option ρ) : (S_gnss_Read_0 g_gnss_Good g_gnss_place g_gnss_variance g___fx_Acc__MulDiv  x0 x1 x2 x3 x4 x5 x6 x7 x8 x9 x10 x11 x12 x13 x14 x15 x16 x17 x18 c x).bind q = S_gnss_Read_0 g_gnss_Good g_gnss_place g_gnss_variance g___fx_Acc__MulDiv  x0 x1 x2 x3 x4 x5 x6 x7 x8 x9 x10 x11 x12 x13 x14 x15 x16 x17 x18 (fun d => (c d).bind q) (fun d => (x d).bind q) := by
  simp only [S_gnss_Read_0, bnd_cond, bnd_bind, bnd_none, bnd_sum]
def L_gnss_Read_0 {ρ : Type} (d : Int × Bool × Int × Int × Int × Int × Int × Int × Int × Int × Int × Int × Int × Int × Int × Int × Int × Int × Int) (k : (Int × Bool × Bool × Int × Int × Int × Int × Int × Int × Int × Int × Int × Int × Int × Int × Int × Int × Int × Int × Int) → Option ρ) : Option ρ := loopK (fun d c x => S_gnss_Read_0 f_gnss_Good f_gnss_place f_gnss_variance f___fx_Acc__MulDiv  d.1 d.2.1 d.2.2.1 d.2.2.2.1 d.2.2.2.2.1 d.2.2.2.2.2.1 d.2.2.2.2.2.2.1 d.2.2.2.2.2.2.2.1 d.2.2.2.2.2.2.2.2.1 d.2.2.2.2.2.2.2.2.2.1 d.2.2.2.2.2.2.2.2.2.2.1 d.2.2.2.2.2.2.2.2.2.2.2.1 d.2.2.2.2.2.2.2.2.2.2.2.2.1 d.2.2.2.2.2.2.2.2.2.2.2.2.2.1 d.2.2.2.2.2.2.2.2.2.2.2.2.2.2.1 d.2.2.2.2.2.2.2.2.2.2.2.2.2.2.2.1 d.2.2.2.2.2.2.2.2.2.2.2.2.2.2.2.2.1 d.2.2.2.2.2.2.2.2.2.2.2.2.2.2.2.2.2.1 d.2.2.2.2.2.2.2.2.2.2.2.2.2.2.2.2.2.2 c x) 200 d k
theorem mL_gnss_Read_0 {ρ σ : Type} (q : ρ → Option σ) (d : Int × Bool × Int × Int × Int × Int × Int × Int × Int × Int × Int × Int × Int × Int × Int × Int × Int × Int × Int) (k : (Int × Bool × Bool × Int × Int × Int × Int × Int × Int × Int × Int × Int × Int × Int × Int × Int × Int × Int × Int × Int) →
  Option ρ) : (L_gnss_Read_0 d k).bind q = L_gnss_Read_0 d fun x => (k x).bind q := loopK_bind q (fun d c x => ms_gnss_Read_0 f_gnss_Good f_gnss_place f_gnss_variance f___fx_Acc__MulDiv q d.1 d.2.1 d.2.2.1 d.2.2.2.1 d.2.2.2.2.1 d.2.2.2.2.2.1 d.2.2.2.2.2.2.1 d.2.2.2.2.2.2.2.1 d.2.2.2.2.2.2.2.2.1 d.2.2.2.2.2.2.2.2.2.1 d.2.2.2.2.2.2.2.2.2.2.1 d.2.2.2.2.2.2.2.2.2.2.2.1 d.2.2.2.2.2.2.2.2.2.2.2.2.1 d.2.2.2.2.2.2.2.2.2.2.2.2.2.1 d.2.2.2.2.2.2.2.2.2.2.2.2.2.2.1 d.2.2.2.2.2.2.2.2.2.2.2.2.2.2.2.1 d.2.2.2.2.2.2.2.2.2.2.2.2.2.2.2.2.1 d.2.2.2.2.2.2.2.2.2.2.2.2.2.2.2.2.2.1 d.2.2.2.2.2.2.2.2.2.2.2.2.2.2.2.2.2.2 c x) k _ d
theorem ds_gnss_Read_0 {ρ : Type} (g_gnss_Good : Int → Int → Int → Int → Int → Int → Int → Int → Int → Option Bool) (g_gnss_place : Int → Int → Int → Int → Int → Int → Int → Int → Int → Option (Int × Int × Int)) (g_gnss_variance : Int → Option Int) (g___fx_Acc__MulDiv : Int → Int → Int → Bool → Option (Int ×
  Bool)) (l_0 : ∀ {ρ : Type}, (Int × Bool × Int × Int × Int × Int × Int × Int × Int × Int × Int × Int × Int × Int × Int × Int × Int × Int × Int) → ((Int × Bool × Bool × Int × Int × Int × Int × Int × Int × Int × Int × Int × Int × Int × Int × Int × Int × Int × Int × Int) → Option ρ) → Option ρ) (x0 : Int) (x1 : Bool) (x2 : Int) (x3 : Int) (x4 : Int) (x5 : Int) (x6 : Int) (x7 : Int) (x8 : Int) (x9 : Int) (x10 : Int) (x11 : Int) (x12 : Int) (x13 : Int) (x14 : Int) (x15 : Int) (x16 : Int) (x17 : Int) (x18 : Int) (c : St →
  Option ρ) (K : AX → St → Option ρ) : runC Try.prog (envOf [(13, F_gnss_Good g_gnss_Good), (26, F_gnss_place g_gnss_place), (27, F_gnss_variance g_gnss_variance), (28, F___fx_Acc__MulDiv g___fx_Acc__MulDiv)]) ⟨[⟨5, [1, 2, 5, 7, 8, 9, 10, 11, 12, 13, 14, 15, 16, 17, 18, 19, 20, 21,
  22, 24, 25, 26, 27, 28, 29, 30, 31, 32, 33, 34, 35, 36, 37], []⟩], [⟨5, 1, @R_gnss_Read_0 (@l_0)⟩], [0], [], (some ⟨0, [0, 1, 2, 3, 6, 7, 8, 9, 10, 11, 12, 13, 14, 15, 16, 17, 18, 19, 20, 21, 22, 23, 24, 25, 26, 27, 28, 29, 30, 31, 32, 33, 34, 35, 36, 37], []⟩)⟩ (tmpsOf Try.prog 9) 1 200 (loopIn Try.prog 9 5) (St.mk [AV.r (RV.c (CV.ptr 0 (Off.k 0) 1)),
  AV.und, AV.und, AV.r (RV.c (CV.ptr 1 (Off.k 0) 9)), AV.r (RV.c (CV.ptr 2 (Off.k 0) 8)), AV.und, AV.r (RV.c (CV.ptr 3 (Off.k 0) 8)), AV.und, AV.und, AV.und, AV.und, AV.und, AV.und, AV.und, AV.und, AV.und, AV.und, AV.und, AV.und, AV.und, AV.und, AV.und, AV.und, AV.r (RV.c (CV.f (FV.i IntKind.i64 x0))),
  AV.und, AV.und, AV.und, AV.und, AV.und, AV.und, AV.und, AV.und, AV.und, AV.und, AV.und, AV.und, AV.und, AV.und] [some [Sg.c (CV.f (FV.b x1))], some [Sg.c (CV.f (FV.i IntKind.i64 x2)), Sg.c (CV.f (FV.i IntKind.i64 x3)), Sg.c (CV.f (FV.i IntKind.i64 x4)), Sg.c (CV.f (FV.i IntKind.i64 x5)), Sg.c (CV.f (FV.i IntKind.i64 x6)),
  Sg.c (CV.f (FV.i IntKind.i64 x7)), Sg.c (CV.f (FV.i IntKind.i64 x8)), Sg.c (CV.f (FV.i IntKind.i64 x9)), Sg.c (CV.f (FV.i IntKind.i64 x10))], some [Sg.c (CV.f (FV.i IntKind.i64 0)), Sg.c (CV.f (FV.i IntKind.i64 0)), Sg.c (CV.f (FV.i IntKind.i64 0)), Sg.c (CV.f (FV.i IntKind.i64 0)), Sg.c (CV.f (FV.i IntKind.i64 0)),
  Sg.c (CV.f (FV.i IntKind.i64 0)), Sg.c (CV.f (FV.i IntKind.i64 0)), Sg.c (CV.f (FV.i IntKind.i64 0))], some [Sg.c (CV.f (FV.i IntKind.i64 x11)), Sg.c (CV.f (FV.i IntKind.i64 x12)), Sg.c (CV.f (FV.i IntKind.i64 x13)), Sg.c (CV.f (FV.i IntKind.i64 x14)), Sg.c (CV.f (FV.i IntKind.i64 x15)), Sg.c (CV.f (FV.i IntKind.i64 x16)),
  Sg.c (CV.f (FV.i IntKind.i64 x17)), Sg.c (CV.f (FV.i IntKind.i64 x18))]] [0]) (next (fun t => t.head 1 ⟨[⟨5, [1, 2, 5, 7, 8, 9, 10, 11, 12, 13, 14, 15, 16, 17, 18, 19, 20, 21, 22, 24, 25, 26, 27, 28, 29, 30, 31, 32, 33, 34, 35, 36, 37], []⟩], [⟨5, 1, @R_gnss_Read_0 (@l_0)⟩], [0], [], (some ⟨0, [0, 1,
  2, 3, 6, 7, 8, 9, 10, 11, 12, 13, 14, 15, 16, 17, 18, 19, 20, 21, 22, 23, 24, 25, 26, 27, 28, 29, 30, 31, 32, 33, 34, 35, 36, 37], []⟩)⟩ (loopIn Try.prog 9 5)) c K) = S_gnss_Read_0 g_gnss_Good g_gnss_place g_gnss_variance g___fx_Acc__MulDiv x0 x1 x2 x3 x4 x5 x6 x7 x8 x9 x10 x11 x12 x13 x14 x15 x16 x17 x18 (fun d => c (St.mk [AV.r (RV.c (CV.ptr 0 (Off.k 0) 1)),
  AV.und, AV.und, AV.r (RV.c (CV.ptr 1 (Off.k 0) 9)), AV.r (RV.c (CV.ptr 2 (Off.k 0) 8)), AV.und, AV.r (RV.c (CV.ptr 3 (Off.k 0) 8)), AV.und, AV.und, AV.und, AV.und, AV.und, AV.und, AV.und, AV.und, AV.und, AV.und, AV.und, AV.und, AV.und, AV.und, AV.und, AV.und, AV.r (RV.c (CV.f (FV.i IntKind.i64 d.1))),
  AV.und, AV.und, AV.und, AV.und, AV.und, AV.und, AV.und, AV.und, AV.und, AV.und, AV.und, AV.und, AV.und, AV.und] [some [Sg.c (CV.f (FV.b d.2.1))], some [Sg.c (CV.f (FV.i IntKind.i64 d.2.2.1)), Sg.c (CV.f (FV.i IntKind.i64 d.2.2.2.1)), Sg.c (CV.f (FV.i IntKind.i64 d.2.2.2.2.1)),
  Sg.c (CV.f (FV.i IntKind.i64 d.2.2.2.2.2.1)), Sg.c (CV.f (FV.i IntKind.i64 d.2.2.2.2.2.2.1)), Sg.c (CV.f (FV.i IntKind.i64 d.2.2.2.2.2.2.2.1)), Sg.c (CV.f (FV.i IntKind.i64 d.2.2.2.2.2.2.2.2.1)), Sg.c (CV.f (FV.i IntKind.i64 d.2.2.2.2.2.2.2.2.2.1)),
  Sg.c (CV.f (FV.i IntKind.i64 d.2.2.2.2.2.2.2.2.2.2.1))], some [Sg.c (CV.f (FV.i IntKind.i64 0)), Sg.c (CV.f (FV.i IntKind.i64 0)), Sg.c (CV.f (FV.i IntKind.i64 0)), Sg.c (CV.f (FV.i IntKind.i64 0)), Sg.c (CV.f (FV.i IntKind.i64 0)), Sg.c (CV.f (FV.i IntKind.i64 0)), Sg.c (CV.f (FV.i IntKind.i64 0)),
  Sg.c (CV.f (FV.i IntKind.i64 0))], some [Sg.c (CV.f (FV.i IntKind.i64 d.2.2.2.2.2.2.2.2.2.2.2.1)), Sg.c (CV.f (FV.i IntKind.i64 d.2.2.2.2.2.2.2.2.2.2.2.2.1)), Sg.c (CV.f (FV.i IntKind.i64 d.2.2.2.2.2.2.2.2.2.2.2.2.2.1)), Sg.c (CV.f (FV.i IntKind.i64 d.2.2.2.2.2.2.2.2.2.2.2.2.2.2.1)),
  Sg.c (CV.f (FV.i IntKind.i64 d.2.2.2.2.2.2.2.2.2.2.2.2.2.2.2.1)), Sg.c (CV.f (FV.i IntKind.i64 d.2.2.2.2.2.2.2.2.2.2.2.2.2.2.2.2.1)), Sg.c (CV.f (FV.i IntKind.i64 d.2.2.2.2.2.2.2.2.2.2.2.2.2.2.2.2.2.1)),
  Sg.c (CV.f (FV.i IntKind.i64 d.2.2.2.2.2.2.2.2.2.2.2.2.2.2.2.2.2.2))]] [0])) (fun d => K (AX.ex 0) (St.mk [AV.r (RV.c (CV.ptr 0 (Off.k 0) 1)), AV.und, AV.und, AV.r (RV.c (CV.ptr 1 (Off.k 0) 9)), AV.r (RV.c (CV.ptr 2 (Off.k 0) 8)), AV.und, AV.r (RV.c (CV.ptr 3 (Off.k 0) 8)),
  AV.und, AV.und, AV.und, AV.und, AV.und, AV.und, AV.und, AV.und, AV.und, AV.und, AV.und, AV.und, AV.und, AV.und, AV.und, AV.und, AV.r (RV.c (CV.f (FV.i IntKind.i64 d.1))), AV.r (RV.c (CV.f (FV.b d.2.1))), AV.und, AV.und, AV.und, AV.und, AV.und, AV.und, AV.und, AV.und, AV.und, AV.und, AV.und, AV.und,
  AV.und] [some [Sg.c (CV.f (FV.b d.2.2.1))], some [Sg.c (CV.f (FV.i IntKind.i64 d.2.2.2.1)), Sg.c (CV.f (FV.i IntKind.i64 d.2.2.2.2.1)), Sg.c (CV.f (FV.i IntKind.i64 d.2.2.2.2.2.1)), Sg.c (CV.f (FV.i IntKind.i64 d.2.2.2.2.2.2.1)), Sg.c (CV.f (FV.i IntKind.i64 d.2.2.2.2.2.2.2.1)),
  Sg.c (CV.f (FV.i IntKind.i64 d.2.2.2.2.2.2.2.2.1)), Sg.c (CV.f (FV.i IntKind.i64 d.2.2.2.2.2.2.2.2.2.1)), Sg.c (CV.f (FV.i IntKind.i64 d.2.2.2.2.2.2.2.2.2.2.1)), Sg.c (CV.f (FV.i IntKind.i64 d.2.2.2.2.2.2.2.2.2.2.2.1))],
  some [Sg.c (CV.f (FV.i IntKind.i64 0)), Sg.c (CV.f (FV.i IntKind.i64 0)), Sg.c (CV.f (FV.i IntKind.i64 0)), Sg.c (CV.f (FV.i IntKind.i64 0)), Sg.c (CV.f (FV.i IntKind.i64 0)), Sg.c (CV.f (FV.i IntKind.i64 0)), Sg.c (CV.f (FV.i IntKind.i64 0)), Sg.c (CV.f (FV.i IntKind.i64 0))], some [Sg.c (CV.f (FV.i IntKind.i64 d.2.2.2.2.2.2.2.2.2.2.2.2.1)),
  Sg.c (CV.f (FV.i IntKind.i64 d.2.2.2.2.2.2.2.2.2.2.2.2.2.1)), Sg.c (CV.f (FV.i IntKind.i64 d.2.2.2.2.2.2.2.2.2.2.2.2.2.2.1)), Sg.c (CV.f (FV.i IntKind.i64 d.2.2.2.2.2.2.2.2.2.2.2.2.2.2.2.1)), Sg.c (CV.f (FV.i IntKind.i64 d.2.2.2.2.2.2.2.2.2.2.2.2.2.2.2.2.1)),
  Sg.c (CV.f (FV.i IntKind.i64 d.2.2.2.2.2.2.2.2.2.2.2.2.2.2.2.2.2.1)), Sg.c (CV.f (FV.i IntKind.i64 d.2.2.2.2.2.2.2.2.2.2.2.2.2.2.2.2.2.2.1)), Sg.c (CV.f (FV.i IntKind.i64 d.2.2.2.2.2.2.2.2.2.2.2.2.2.2.2.2.2.2.2))]] [0])) := by kernel_rfl
theorem it_gnss_Read_0 {ρ : Type} (x0 : Int) (x1 : Bool) (x2 : Int) (x3 : Int) (x4 : Int) (x5 : Int) (x6 : Int) (x7 : Int) (x8 : Int) (x9 : Int) (x10 : Int) (x11 : Int) (x12 : Int) (x13 : Int) (x14 : Int) (x15 : Int) (x16 : Int) (x17 : Int) (x18 : Int) (K : AX → St → Option ρ) : iter (fun t => t.head 1 ⟨[⟨5,
  [1, 2, 5, 7, 8, 9, 10, 11, 12, 13, 14, 15, 16, 17, 18, 19, 20, 21, 22, 24, 25, 26, 27, 28, 29, 30, 31, 32, 33, 34, 35, 36, 37], []⟩], [⟨5, 1, @R_gnss_Read_0 (@L_gnss_Read_0)⟩], [0], [], (some ⟨0, [0, 1, 2, 3, 6, 7, 8, 9, 10, 11, 12, 13, 14, 15, 16, 17, 18, 19, 20, 21, 22, 23, 24, 25, 26, 27, 28, 29,
  30, 31, 32, 33, 34, 35, 36, 37], []⟩)⟩ (loopIn Try.prog 9 5)) (runC Try.prog (envOf [(13, F_gnss_Good f_gnss_Good), (26, F_gnss_place f_gnss_place), (27, F_gnss_variance f_gnss_variance), (28, F___fx_Acc__MulDiv f___fx_Acc__MulDiv)]) ⟨[⟨5, [1, 2, 5, 7, 8, 9, 10, 11, 12, 13, 14,
  15, 16, 17, 18, 19, 20, 21, 22, 24, 25, 26, 27, 28, 29, 30, 31, 32, 33, 34, 35, 36, 37], []⟩], [⟨5, 1, @R_gnss_Read_0 (@L_gnss_Read_0)⟩], [0], [], (some ⟨0, [0, 1, 2, 3, 6, 7, 8, 9, 10, 11, 12, 13, 14, 15, 16, 17, 18, 19, 20, 21, 22, 23, 24, 25, 26, 27, 28, 29, 30, 31, 32, 33, 34, 35, 36, 37], []⟩)⟩ (tmpsOf Try.prog 9) 1 200 (loopIn Try.prog 9 5)) K 200 (St.mk [AV.r (RV.c (CV.ptr 0 (Off.k 0) 1)),
  AV.und, AV.und, AV.r (RV.c (CV.ptr 1 (Off.k 0) 9)), AV.r (RV.c (CV.ptr 2 (Off.k 0) 8)), AV.und, AV.r (RV.c (CV.ptr 3 (Off.k 0) 8)), AV.und, AV.und, AV.und, AV.und, AV.und, AV.und, AV.und, AV.und, AV.und, AV.und, AV.und, AV.und, AV.und, AV.und, AV.und, AV.und, AV.r (RV.c (CV.f (FV.i IntKind.i64 x0))),
  AV.und, AV.und, AV.und, AV.und, AV.und, AV.und, AV.und, AV.und, AV.und, AV.und, AV.und, AV.und, AV.und, AV.und] [some [Sg.c (CV.f (FV.b x1))], some [Sg.c (CV.f (FV.i IntKind.i64 x2)), Sg.c (CV.f (FV.i IntKind.i64 x3)), Sg.c (CV.f (FV.i IntKind.i64 x4)), Sg.c (CV.f (FV.i IntKind.i64 x5)), Sg.c (CV.f (FV.i IntKind.i64 x6)),
  Sg.c (CV.f (FV.i IntKind.i64 x7)), Sg.c (CV.f (FV.i IntKind.i64 x8)), Sg.c (CV.f (FV.i IntKind.i64 x9)), Sg.c (CV.f (FV.i IntKind.i64 x10))], some [Sg.c (CV.f (FV.i IntKind.i64 0)), Sg.c (CV.f (FV.i IntKind.i64 0)), Sg.c (CV.f (FV.i IntKind.i64 0)), Sg.c (CV.f (FV.i IntKind.i64 0)), Sg.c (CV.f (FV.i IntKind.i64 0)),
  Sg.c (CV.f (FV.i IntKind.i64 0)), Sg.c (CV.f (FV.i IntKind.i64 0)), Sg.c (CV.f (FV.i IntKind.i64 0))], some [Sg.c (CV.f (FV.i IntKind.i64 x11)), Sg.c (CV.f (FV.i IntKind.i64 x12)), Sg.c (CV.f (FV.i IntKind.i64 x13)), Sg.c (CV.f (FV.i IntKind.i64 x14)), Sg.c (CV.f (FV.i IntKind.i64 x15)), Sg.c (CV.f (FV.i IntKind.i64 x16)),
  Sg.c (CV.f (FV.i IntKind.i64 x17)), Sg.c (CV.f (FV.i IntKind.i64 x18))]] [0]) = L_gnss_Read_0 (x0, x1, x2, x3, x4, x5, x6, x7, x8, x9, x10, x11, x12, x13, x14, x15, x16, x17, x18) (fun d => K (AX.ex 0) (St.mk [AV.r (RV.c (CV.ptr 0 (Off.k 0) 1)), AV.und, AV.und, AV.r (RV.c (CV.ptr 1 (Off.k 0) 9)), AV.r (RV.c (CV.ptr 2 (Off.k 0) 8)),
  AV.und, AV.r (RV.c (CV.ptr 3 (Off.k 0) 8)), AV.und, AV.und, AV.und, AV.und, AV.und, AV.und, AV.und, AV.und, AV.und, AV.und, AV.und, AV.und, AV.und, AV.und, AV.und, AV.und, AV.r (RV.c (CV.f (FV.i IntKind.i64 d.1))), AV.r (RV.c (CV.f (FV.b d.2.1))), AV.und, AV.und, AV.und, AV.und, AV.und, AV.und,
  AV.und, AV.und, AV.und, AV.und, AV.und, AV.und, AV.und] [some [Sg.c (CV.f (FV.b d.2.2.1))], some [Sg.c (CV.f (FV.i IntKind.i64 d.2.2.2.1)), Sg.c (CV.f (FV.i IntKind.i64 d.2.2.2.2.1)), Sg.c (CV.f (FV.i IntKind.i64 d.2.2.2.2.2.1)), Sg.c (CV.f (FV.i IntKind.i64 d.2.2.2.2.2.2.1)),
  Sg.c (CV.f (FV.i IntKind.i64 d.2.2.2.2.2.2.2.1)), Sg.c (CV.f (FV.i IntKind.i64 d.2.2.2.2.2.2.2.2.1)), Sg.c (CV.f (FV.i IntKind.i64 d.2.2.2.2.2.2.2.2.2.1)), Sg.c (CV.f (FV.i IntKind.i64 d.2.2.2.2.2.2.2.2.2.2.1)), Sg.c (CV.f (FV.i IntKind.i64 d.2.2.2.2.2.2.2.2.2.2.2.1))],
  some [Sg.c (CV.f (FV.i IntKind.i64 0)), Sg.c (CV.f (FV.i IntKind.i64 0)), Sg.c (CV.f (FV.i IntKind.i64 0)), Sg.c (CV.f (FV.i IntKind.i64 0)), Sg.c (CV.f (FV.i IntKind.i64 0)), Sg.c (CV.f (FV.i IntKind.i64 0)), Sg.c (CV.f (FV.i IntKind.i64 0)), Sg.c (CV.f (FV.i IntKind.i64 0))], some [Sg.c (CV.f (FV.i IntKind.i64 d.2.2.2.2.2.2.2.2.2.2.2.2.1)),
  Sg.c (CV.f (FV.i IntKind.i64 d.2.2.2.2.2.2.2.2.2.2.2.2.2.1)), Sg.c (CV.f (FV.i IntKind.i64 d.2.2.2.2.2.2.2.2.2.2.2.2.2.2.1)), Sg.c (CV.f (FV.i IntKind.i64 d.2.2.2.2.2.2.2.2.2.2.2.2.2.2.2.1)), Sg.c (CV.f (FV.i IntKind.i64 d.2.2.2.2.2.2.2.2.2.2.2.2.2.2.2.2.1)),
  Sg.c (CV.f (FV.i IntKind.i64 d.2.2.2.2.2.2.2.2.2.2.2.2.2.2.2.2.2.1)), Sg.c (CV.f (FV.i IntKind.i64 d.2.2.2.2.2.2.2.2.2.2.2.2.2.2.2.2.2.2.1)), Sg.c (CV.f (FV.i IntKind.i64 d.2.2.2.2.2.2.2.2.2.2.2.2.2.2.2.2.2.2.2))]] [0])) := iter_loopX (emb := fun (d : Int ×
  Bool × Int × Int × Int × Int × Int × Int × Int × Int × Int × Int × Int × Int × Int × Int × Int × Int × Int) => St.mk [AV.r (RV.c (CV.ptr 0 (Off.k 0) 1)), AV.und, AV.und, AV.r (RV.c (CV.ptr 1 (Off.k 0) 9)), AV.r (RV.c (CV.ptr 2 (Off.k 0) 8)), AV.und, AV.r (RV.c (CV.ptr 3 (Off.k 0) 8)), AV.und, AV.und,
  AV.und, AV.und, AV.und, AV.und, AV.und, AV.und, AV.und, AV.und, AV.und, AV.und, AV.und, AV.und, AV.und, AV.und, AV.r (RV.c (CV.f (FV.i IntKind.i64 d.1))), AV.und, AV.und, AV.und, AV.und, AV.und, AV.und, AV.und, AV.und, AV.und, AV.und, AV.und, AV.und, AV.und, AV.und] [some [Sg.c (CV.f (FV.b d.2.1))],
  some [Sg.c (CV.f (FV.i IntKind.i64 d.2.2.1)), Sg.c (CV.f (FV.i IntKind.i64 d.2.2.2.1)), Sg.c (CV.f (FV.i IntKind.i64 d.2.2.2.2.1)), Sg.c (CV.f (FV.i IntKind.i64 d.2.2.2.2.2.1)), Sg.c (CV.f (FV.i IntKind.i64 d.2.2.2.2.2.2.1)), Sg.c (CV.f (FV.i IntKind.i64 d.2.2.2.2.2.2.2.1)),
  Sg.c (CV.f (FV.i IntKind.i64 d.2.2.2.2.2.2.2.2.1)), Sg.c (CV.f (FV.i IntKind.i64 d.2.2.2.2.2.2.2.2.2.1)), Sg.c (CV.f (FV.i IntKind.i64 d.2.2.2.2.2.2.2.2.2.2.1))], some [Sg.c (CV.f (FV.i IntKind.i64 0)), Sg.c (CV.f (FV.i IntKind.i64 0)), Sg.c (CV.f (FV.i IntKind.i64 0)),
  Sg.c (CV.f (FV.i IntKind.i64 0)), Sg.c (CV.f (FV.i IntKind.i64 0)), Sg.c (CV.f (FV.i IntKind.i64 0)), Sg.c (CV.f (FV.i IntKind.i64 0)), Sg.c (CV.f (FV.i IntKind.i64 0))], some [Sg.c (CV.f (FV.i IntKind.i64 d.2.2.2.2.2.2.2.2.2.2.2.1)), Sg.c (CV.f (FV.i IntKind.i64 d.2.2.2.2.2.2.2.2.2.2.2.2.1)),
  Sg.c (CV.f (FV.i IntKind.i64 d.2.2.2.2.2.2.2.2.2.2.2.2.2.1)), Sg.c (CV.f (FV.i IntKind.i64 d.2.2.2.2.2.2.2.2.2.2.2.2.2.2.1)), Sg.c (CV.f (FV.i IntKind.i64 d.2.2.2.2.2.2.2.2.2.2.2.2.2.2.2.1)), Sg.c (CV.f (FV.i IntKind.i64 d.2.2.2.2.2.2.2.2.2.2.2.2.2.2.2.2.1)),
  Sg.c (CV.f (FV.i IntKind.i64 d.2.2.2.2.2.2.2.2.2.2.2.2.2.2.2.2.2.1)), Sg.c (CV.f (FV.i IntKind.i64 d.2.2.2.2.2.2.2.2.2.2.2.2.2.2.2.2.2.2))]] [0]) (step := fun d c x => S_gnss_Read_0 f_gnss_Good f_gnss_place f_gnss_variance f___fx_Acc__MulDiv d.1 d.2.1 d.2.2.1 d.2.2.2.1 d.2.2.2.2.1 d.2.2.2.2.2.1 d.2.2.2.2.2.2.1 d.2.2.2.2.2.2.2.1 d.2.2.2.2.2.2.2.2.1 d.2.2.2.2.2.2.2.2.2.1 d.2.2.2.2.2.2.2.2.2.2.1 d.2.2.2.2.2.2.2.2.2.2.2.1 d.2.2.2.2.2.2.2.2.2.2.2.2.1 d.2.2.2.2.2.2.2.2.2.2.2.2.2.1 d.2.2.2.2.2.2.2.2.2.2.2.2.2.2.1 d.2.2.2.2.2.2.2.2.2.2.2.2.2.2.2.1 d.2.2.2.2.2.2.2.2.2.2.2.2.2.2.2.2.1 d.2.2.2.2.2.2.2.2.2.2.2.2.2.2.2.2.2.1 d.2.2.2.2.2.2.2.2.2.2.2.2.2.2.2.2.2.2 c x) (kx := (fun d => K (AX.ex 0) (St.mk [AV.r (RV.c (CV.ptr 0 (Off.k 0) 1)),
  AV.und, AV.und, AV.r (RV.c (CV.ptr 1 (Off.k 0) 9)), AV.r (RV.c (CV.ptr 2 (Off.k 0) 8)), AV.und, AV.r (RV.c (CV.ptr 3 (Off.k 0) 8)), AV.und, AV.und, AV.und, AV.und, AV.und, AV.und, AV.und, AV.und, AV.und, AV.und, AV.und, AV.und, AV.und, AV.und, AV.und, AV.und, AV.r (RV.c (CV.f (FV.i IntKind.i64 d.1))),
  AV.r (RV.c (CV.f (FV.b d.2.1))), AV.und, AV.und, AV.und, AV.und, AV.und, AV.und, AV.und, AV.und, AV.und, AV.und, AV.und, AV.und, AV.und] [some [Sg.c (CV.f (FV.b d.2.2.1))], some [Sg.c (CV.f (FV.i IntKind.i64 d.2.2.2.1)), Sg.c (CV.f (FV.i IntKind.i64 d.2.2.2.2.1)), Sg.c (CV.f (FV.i IntKind.i64 d.2.2.2.2.2.1)),
  Sg.c (CV.f (FV.i IntKind.i64 d.2.2.2.2.2.2.1)), Sg.c (CV.f (FV.i IntKind.i64 d.2.2.2.2.2.2.2.1)), Sg.c (CV.f (FV.i IntKind.i64 d.2.2.2.2.2.2.2.2.1)), Sg.c (CV.f (FV.i IntKind.i64 d.2.2.2.2.2.2.2.2.2.1)), Sg.c (CV.f (FV.i IntKind.i64 d.2.2.2.2.2.2.2.2.2.2.1)),
  Sg.c (CV.f (FV.i IntKind.i64 d.2.2.2.2.2.2.2.2.2.2.2.1))], some [Sg.c (CV.f (FV.i IntKind.i64 0)), Sg.c (CV.f (FV.i IntKind.i64 0)), Sg.c (CV.f (FV.i IntKind.i64 0)), Sg.c (CV.f (FV.i IntKind.i64 0)), Sg.c (CV.f (FV.i IntKind.i64 0)), Sg.c (CV.f (FV.i IntKind.i64 0)), Sg.c (CV.f (FV.i IntKind.i64 0)),
  Sg.c (CV.f (FV.i IntKind.i64 0))], some [Sg.c (CV.f (FV.i IntKind.i64 d.2.2.2.2.2.2.2.2.2.2.2.2.1)), Sg.c (CV.f (FV.i IntKind.i64 d.2.2.2.2.2.2.2.2.2.2.2.2.2.1)), Sg.c (CV.f (FV.i IntKind.i64 d.2.2.2.2.2.2.2.2.2.2.2.2.2.2.1)),
  Sg.c (CV.f (FV.i IntKind.i64 d.2.2.2.2.2.2.2.2.2.2.2.2.2.2.2.1)), Sg.c (CV.f (FV.i IntKind.i64 d.2.2.2.2.2.2.2.2.2.2.2.2.2.2.2.2.1)), Sg.c (CV.f (FV.i IntKind.i64 d.2.2.2.2.2.2.2.2.2.2.2.2.2.2.2.2.2.1)),
  Sg.c (CV.f (FV.i IntKind.i64 d.2.2.2.2.2.2.2.2.2.2.2.2.2.2.2.2.2.2.1)), Sg.c (CV.f (FV.i IntKind.i64 d.2.2.2.2.2.2.2.2.2.2.2.2.2.2.2.2.2.2.2))]] [0]))) (fun d c => ds_gnss_Read_0 f_gnss_Good f_gnss_place f_gnss_variance f___fx_Acc__MulDiv (@L_gnss_Read_0) d.1 d.2.1 d.2.2.1 d.2.2.2.1 d.2.2.2.2.1 d.2.2.2.2.2.1 d.2.2.2.2.2.2.1 d.2.2.2.2.2.2.2.1 d.2.2.2.2.2.2.2.2.1 d.2.2.2.2.2.2.2.2.2.1 d.2.2.2.2.2.2.2.2.2.2.1 d.2.2.2.2.2.2.2.2.2.2.2.1 d.2.2.2.2.2.2.2.2.2.2.2.2.1 d.2.2.2.2.2.2.2.2.2.2.2.2.2.1 d.2.2.2.2.2.2.2.2.2.2.2.2.2.2.1 d.2.2.2.2.2.2.2.2.2.2.2.2.2.2.2.1 d.2.2.2.2.2.2.2.2.2.2.2.2.2.2.2.2.1 d.2.2.2.2.2.2.2.2.2.2.2.2.2.2.2.2.2.1 d.2.2.2.2.2.2.2.2.2.2.2.2.2.2.2.2.2.2 c K) 200 (x0,
  x1, x2, x3, x4, x5, x6, x7, x8, x9, x10, x11, x12, x13, x14, x15, x16, x17, x18)
theorem so_gnss_Read_0 [Amb] : ∀ kk, SumOK Try.prog (envOf [(13, F_gnss_Good f_gnss_Good), (26, F_gnss_place f_gnss_place), (27, F_gnss_variance f_gnss_variance), (28, F___fx_Acc__MulDiv f___fx_Acc__MulDiv)]) ⟨[⟨5, [1, 2, 5, 7, 8, 9, 10, 11, 12, 13, 14, 15, 16, 17, 18, 19, 20, 21,
  22, 24, 25, 26, 27, 28, 29, 30, 31, 32, 33, 34, 35, 36, 37], []⟩], [⟨5, 1, @R_gnss_Read_0 (@L_gnss_Read_0)⟩], [0], [], (some ⟨0, [0, 1, 2, 3, 6, 7, 8, 9, 10, 11, 12, 13, 14, 15, 16, 17, 18, 19, 20, 21, 22, 23, 24, 25, 26, 27, 28, 29, 30, 31, 32, 33, 34, 35, 36, 37], []⟩)⟩ (tmpsOf Try.prog 9) kk 200 (loopIn Try.prog 9 5) := SumOK.of (id := 5) (k0 := 1) (run := @R_gnss_Read_0 (@L_gnss_Read_0)) (by kernel_rfl) fun s K r hr => by
    unfold R_gnss_Read_0 at hr
    obtain ⟨b, hb, hr1⟩ := Option.bind_eq_some_iff.1 hr
    have e := ((Q_gnss_Read_0).ok s b hb).trans (q_gnss_Read_0 b)
    subst e
    exact ⟨200, (it_gnss_Read_0 b.1.2.2.2.2.2.2.2.2.2.2.2.2.2.2.2.2.2.2.2.2.2.2.2.1 b.2.1.1.1 b.2.1.2.1.1 b.2.1.2.1.2.1 b.2.1.2.1.2.2.1 b.2.1.2.1.2.2.2.1 b.2.1.2.1.2.2.2.2.1 b.2.1.2.1.2.2.2.2.2.1 b.2.1.2.1.2.2.2.2.2.2.1 b.2.1.2.1.2.2.2.2.2.2.2.1 b.2.1.2.1.2.2.2.2.2.2.2.2.1 b.2.1.2.2.2.1.1 b.2.1.2.2.2.1.2.1 b.2.1.2.2.2.1.2.2.1 b.2.1.2.2.2.1.2.2.2.1 b.2.1.2.2.2.1.2.2.2.2.1 b.2.1.2.2.2.1.2.2.2.2.2.1 b.2.1.2.2.2.1.2.2.2.2.2.2.1 b.2.1.2.2.2.1.2.2.2.2.2.2.2.1 K).trans hr1⟩
def K_gnss_Read {ρ : Type} (g_gnss_Good : Int → Int → Int → Int → Int → Int → Int → Int → Int → Option Bool) (g_gnss_place : Int → Int → Int → Int → Int → Int → Int → Int → Int → Option (Int × Int × Int)) (g_gnss_variance : Int → Option Int) (g___fx_Acc__MulDiv : Int → Int → Int → Bool → Option (Int ×
  Bool)) (l_0 : ∀ {ρ : Type}, (Int × Bool × Int × Int × Int × Int × Int × Int × Int × Int × Int × Int × Int × Int × Int × Int × Int × Int × Int) → ((Int × Bool × Bool × Int × Int × Int × Int × Int × Int × Int × Int × Int × Int × Int × Int × Int × Int × Int × Int × Int) → Option ρ) → Option ρ) (x0 : Int) (x1 : Int) (x2 : Int) (x3 : Int) (x4 : Int) (x5 : Int) (x6 : Int) (x7 : Int) (x8 : Int) (x9 : Bool) (k : (Int ×
  Int × Int × Int × Int × Int × Int × Int × Int × Bool) → Option ρ) : Option ρ := Option.bind (g_gnss_Good x0 x1 x2 x3 x4 x5 x6 x7 x8) fun (d : Bool) => bif !d then k (0, 0, 0, 0, 0, 0, 0, 0, 1, x9) else Option.bind (g_gnss_place x0 x1 x2 x3 x4 x5 x6 x7 x8) fun (d : Int × Int × Int) => Option.bind (g_gnss_variance x7) fun (d_1 : Int) => Option.bind (g_gnss_variance x8) fun (d_2 : Int) => l_0 (0,
  x9, x0, x1, x2, x3, x4, x5, x6, x7, x8, d.1, d.2.1, d.2.2, 0, 0, 0, d_1, d_2) fun (d : Int × Bool × Bool × Int × Int × Int × Int × Int × Int × Int × Int × Int × Int × Int × Int × Int × Int × Int × Int × Int) => k (d.2.2.2.2.2.2.2.2.2.2.2.2.1, d.2.2.2.2.2.2.2.2.2.2.2.2.2.1,
  d.2.2.2.2.2.2.2.2.2.2.2.2.2.2.1, d.2.2.2.2.2.2.2.2.2.2.2.2.2.2.2.1, d.2.2.2.2.2.2.2.2.2.2.2.2.2.2.2.2.1, d.2.2.2.2.2.2.2.2.2.2.2.2.2.2.2.2.2.1, d.2.2.2.2.2.2.2.2.2.2.2.2.2.2.2.2.2.2.1,
  d.2.2.2.2.2.2.2.2.2.2.2.2.2.2.2.2.2.2.2, 0, d.2.2.1)
def f_gnss_Read (x0 : Int) (x1 : Int) (x2 : Int) (x3 : Int) (x4 : Int) (x5 : Int) (x6 : Int) (x7 : Int) (x8 : Int) (x9 : Bool) : Option (Int × Int × Int × Int × Int × Int × Int × Int × Int × Bool) := K_gnss_Read f_gnss_Good f_gnss_place f_gnss_variance f___fx_Acc__MulDiv (@L_gnss_Read_0) x0 x1 x2 x3 x4 x5 x6 x7 x8 x9 some
section
open Go.Ab.Rdr
def QA_gnss_Read := ((pair (cons (ar (rc (cptr (nat 0) (ok' (nat 0)) (nat 1)))) (cons (ar (ra (cons (gc (cf (fi .i64 hole))) (cons (gc (cf (fi .i64 hole))) (cons (gc (cf (fi .i64 hole))) (cons (gc (cf (fi .i64 hole))) (cons (gc (cf (fi .i64 hole))) (cons (gc (cf (fi .i64 hole))) (cons (gc (cf (fi .i64 hole))) (cons (gc (cf (fi .i64 hole))) (cons (gc (cf (fi .i64 hole))) nil))))))))))) nil)) (cons (cons (gc (cf (fb hole))) nil) nil)) : Rdr (List AV × List Blk) _)
end
def F_gnss_Read (f : (Int) → (Int) → (Int) → (Int) → (Int) → (Int) → (Int) → (Int) → (Int) → (Bool) → Option (Int × Int × Int × Int × Int × Int × Int × Int × Int × Bool)) : Sem1 := fun args h => match (QA_gnss_Read).rd (args, h) with
  | some b => .opt (f b.1.2.1.1 b.1.2.1.2.1 b.1.2.1.2.2.1 b.1.2.1.2.2.2.1 b.1.2.1.2.2.2.2.1 b.1.2.1.2.2.2.2.2.1 b.1.2.1.2.2.2.2.2.2.1 b.1.2.1.2.2.2.2.2.2.2.1 b.1.2.1.2.2.2.2.2.2.2.2.1 b.2.1.1) fun (d : Int × Int × Int × Int × Int × Int × Int × Int × Int × Bool) => .leaf (Res.mk
    (AV.tup
      [RV.agg
          [Sg.c (CV.f (FV.i IntKind.i64 d.1)), Sg.c (CV.f (FV.i IntKind.i64 d.2.1)), Sg.c (CV.f (FV.i IntKind.i64 d.2.2.1)), Sg.c (CV.f (FV.i IntKind.i64 d.2.2.2.1)),
            Sg.c (CV.f (FV.i IntKind.i64 d.2.2.2.2.1)), Sg.c (CV.f (FV.i IntKind.i64 d.2.2.2.2.2.1)), Sg.c (CV.f (FV.i IntKind.i64 d.2.2.2.2.2.2.1)),
            Sg.c (CV.f (FV.i IntKind.i64 d.2.2.2.2.2.2.2.1))],
        RV.c (CV.f (FV.i IntKind.i64 d.2.2.2.2.2.2.2.2.1))])
    [Ch.set [Sg.c (CV.f (FV.b d.2.2.2.2.2.2.2.2.2))]] [])
  | none => .fail
theorem d_gnss_Read (g_gnss_Good : Int → Int → Int → Int → Int → Int → Int → Int → Int → Option Bool) (g_gnss_place : Int → Int → Int → Int → Int → Int → Int → Int → Int → Option (Int × Int × Int)) (g_gnss_variance : Int → Option Int) (g___fx_Acc__MulDiv : Int → Int → Int → Bool → Option (Int × Bool)) (l_0 : ∀ {ρ : Type},
  (Int × Bool × Int × Int × Int × Int × Int × Int × Int × Int × Int × Int × Int × Int × Int × Int × Int × Int × Int) → ((Int × Bool × Bool × Int × Int × Int × Int × Int × Int × Int × Int × Int × Int × Int × Int × Int × Int × Int × Int × Int) → Option ρ) → Option ρ) (x0 : Int) (x1 : Int) (x2 : Int) (x3 : Int) (x4 : Int) (x5 : Int) (x6 : Int) (x7 : Int) (x8 : Int) (x9 : Bool) : den Try.prog (envOf [(13,
  F_gnss_Good g_gnss_Good), (26, F_gnss_place g_gnss_place), (27, F_gnss_variance g_gnss_variance), (28, F___fx_Acc__MulDiv g___fx_Acc__MulDiv)]) ⟨[⟨5, [1, 2, 5, 7, 8, 9, 10, 11, 12, 13, 14, 15, 16, 17, 18, 19, 20, 21, 22, 24, 25, 26, 27, 28, 29, 30, 31, 32, 33, 34, 35, 36, 37], []⟩], [⟨5,
  1, @R_gnss_Read_0 (@l_0)⟩], [0], [], (some ⟨0, [0, 1, 2, 3, 6, 7, 8, 9, 10, 11, 12, 13, 14, 15, 16, 17, 18, 19, 20, 21, 22, 23, 24, 25, 26, 27, 28, 29, 30, 31, 32, 33, 34, 35, 36, 37], []⟩)⟩ 200 9 [.r (.c (.ptr 0 (.k 0) 1)), .r (.agg [.c (.f (.i .i64 x0)), .c (.f (.i .i64 x1)), .c (.f (.i .i64 x2)),
  .c (.f (.i .i64 x3)), .c (.f (.i .i64 x4)), .c (.f (.i .i64 x5)), .c (.f (.i .i64 x6)), .c (.f (.i .i64 x7)), .c (.f (.i .i64 x8))])] [[.c (.f (.b x9))]] = K_gnss_Read g_gnss_Good g_gnss_place g_gnss_variance g___fx_Acc__MulDiv (@l_0) x0 x1 x2 x3 x4 x5 x6 x7 x8 x9 (fun (d : Int × Int × Int × Int × Int ×
  Int × Int × Int × Int × Bool) => some (Res.mk (AV.tup [RV.agg [Sg.c (CV.f (FV.i IntKind.i64 d.1)), Sg.c (CV.f (FV.i IntKind.i64 d.2.1)), Sg.c (CV.f (FV.i IntKind.i64 d.2.2.1)), Sg.c (CV.f (FV.i IntKind.i64 d.2.2.2.1)), Sg.c (CV.f (FV.i IntKind.i64 d.2.2.2.2.1)), Sg.c (CV.f (FV.i IntKind.i64 d.2.2.2.2.2.1)),
  Sg.c (CV.f (FV.i IntKind.i64 d.2.2.2.2.2.2.1)), Sg.c (CV.f (FV.i IntKind.i64 d.2.2.2.2.2.2.2.1))], RV.c (CV.f (FV.i IntKind.i64 d.2.2.2.2.2.2.2.2.1))]) [Ch.set [Sg.c (CV.f (FV.b d.2.2.2.2.2.2.2.2.2))]] [])) := by kernel_rfl
theorem m_gnss_Read {ρ σ : Type} (q : ρ → Option σ) (g_gnss_Good : Int → Int → Int → Int → Int → Int → Int → Int → Int → Option Bool) (g_gnss_place : Int → Int → Int → Int → Int → Int → Int → Int → Int → Option (Int × Int × Int)) (g_gnss_variance : Int → Option Int) (g___fx_Acc__MulDiv : Int → Int → Int → Bool → Option (Int × Bool)) (l_0 : ∀ {ρ : Type}, (Int × Bool × Int × Int × Int × Int × Int × Int × Int × Int × Int × Int × Int × Int × Int × Int × Int × Int × Int) → ((Int × Bool × Bool × Int × Int × Int × Int × Int × Int × Int × Int × Int × Int × Int × Int × Int × Int × Int × Int × Int) → Option ρ) → Option ρ) (hl_0 : ∀ {ρ σ : Type} (q : ρ → Option σ) (d : Int × Bool × Int × Int × Int × Int × Int × Int × Int × Int × Int × Int × Int × Int × Int × Int × Int × Int × Int) (k : (Int × Bool × Bool × Int × Int × Int × Int × Int × Int × Int × Int × Int × Int × Int × Int × Int × Int × Int × Int × Int) → Option ρ), (l_0 d k).bind q = l_0 d fun x => (k x).bind q) (x0 : Int) (x1 : Int) (x2 : Int) (x3 : Int) (x4 : Int) (x5 : Int) (x6 : Int) (x7 : Int) (x8 : Int) (x9 : Bool) (k : (Int × Int × Int × Int × Int × Int × Int × Int × Int × Bool) → Option ρ) : (K_gnss_Read g_gnss_Good g_gnss_place g_gnss_variance g___fx_Acc__MulDiv (@l_0) x0 x1 x2 x3 x4 x5 x6 x7 x8 x9 k).bind q = K_gnss_Read g_gnss_Good g_gnss_place g_gnss_variance g___fx_Acc__MulDiv (@l_0) x0 x1 x2 x3 x4 x5 x6 x7 x8 x9 (fun d => (k d).bind q) := by
  simp only [K_gnss_Read, bnd_cond, bnd_bind, bnd_none, bnd_sum, hl_0]
theorem qa_gnss_Read : ∀ b, (QA_gnss_Read).em b = ([.r (.c (.ptr 0 (.k 0) 1)), .r (.agg [.c (.f (.i .i64 b.1.2.1.1)), .c (.f (.i .i64 b.1.2.1.2.1)), .c (.f (.i .i64 b.1.2.1.2.2.1)), .c (.f (.i .i64 b.1.2.1.2.2.2.1)), .c (.f (.i .i64 b.1.2.1.2.2.2.2.1)), .c (.f (.i .i64 b.1.2.1.2.2.2.2.2.1)), .c (.f (.i .i64 b.1.2.1.2.2.2.2.2.2.1)), .c (.f (.i .i64 b.1.2.1.2.2.2.2.2.2.2.1)), .c (.f (.i .i64 b.1.2.1.2.2.2.2.2.2.2.2.1))])], [[.c (.f (.b b.2.1.1))]]) := fun b => by kernel_rfl
theorem e_gnss_Read {f : (Int) → (Int) → (Int) → (Int) → (Int) → (Int) → (Int) → (Int) → (Int) → (Bool) → Option (Int × Int × Int × Int × Int × Int × Int × Int × Int × Bool)} {args : List AV} {h : List Blk} {r : Res} (hr : (F_gnss_Read f args h).eval = some r) : ∃ x0 x1 x2 x3 x4 x5 x6 x7 x8 x9, args = [.r (.c (.ptr 0 (.k 0) 1)),
  .r (.agg [.c (.f (.i .i64 x0)), .c (.f (.i .i64 x1)), .c (.f (.i .i64 x2)), .c (.f (.i .i64 x3)), .c (.f (.i .i64 x4)), .c (.f (.i .i64 x5)), .c (.f (.i .i64 x6)), .c (.f (.i .i64 x7)), .c (.f (.i .i64 x8))])] ∧ h = [[.c (.f (.b x9))]] ∧ (f x0 x1 x2 x3 x4 x5 x6 x7 x8 x9).bind (fun (d : Int × Int × Int ×
  Int × Int × Int × Int × Int × Int × Bool) => some (Res.mk (AV.tup [RV.agg [Sg.c (CV.f (FV.i IntKind.i64 d.1)), Sg.c (CV.f (FV.i IntKind.i64 d.2.1)), Sg.c (CV.f (FV.i IntKind.i64 d.2.2.1)), Sg.c (CV.f (FV.i IntKind.i64 d.2.2.2.1)), Sg.c (CV.f (FV.i IntKind.i64 d.2.2.2.2.1)),
  Sg.c (CV.f (FV.i IntKind.i64 d.2.2.2.2.2.1)), Sg.c (CV.f (FV.i IntKind.i64 d.2.2.2.2.2.2.1)), Sg.c (CV.f (FV.i IntKind.i64 d.2.2.2.2.2.2.2.1))], RV.c (CV.f (FV.i IntKind.i64 d.2.2.2.2.2.2.2.2.1))]) [Ch.set [Sg.c (CV.f (FV.b d.2.2.2.2.2.2.2.2.2))]] [])) = some r := by
  unfold F_gnss_Read at hr
  split at hr
  · rename_i b hb
    have e := ((QA_gnss_Read).ok _ _ hb).trans (qa_gnss_Read b)
    rw [opt_eval2] at hr
    exact ⟨b.1.2.1.1, b.1.2.1.2.1, b.1.2.1.2.2.1, b.1.2.1.2.2.2.1, b.1.2.1.2.2.2.2.1, b.1.2.1.2.2.2.2.2.1, b.1.2.1.2.2.2.2.2.2.1, b.1.2.1.2.2.2.2.2.2.2.1, b.1.2.1.2.2.2.2.2.2.2.2.1, b.2.1.1, (Prod.mk.inj e).1, (Prod.mk.inj e).2, hr⟩
  · cases hr
theorem n_gnss_Read {σ : Type} (q : (Int × Int × Int × Int × Int × Int × Int × Int × Int × Bool) → Option σ) (x0 : Int) (x1 : Int) (x2 : Int) (x3 : Int) (x4 : Int) (x5 : Int) (x6 : Int) (x7 : Int) (x8 : Int) (x9 : Bool) : (f_gnss_Read x0 x1 x2 x3 x4 x5 x6 x7 x8 x9).bind q = K_gnss_Read f_gnss_Good f_gnss_place f_gnss_variance f___fx_Acc__MulDiv (@L_gnss_Read_0) x0 x1 x2 x3 x4 x5 x6 x7 x8 x9 q := by
  unfold f_gnss_Read
  exact m_gnss_Read q f_gnss_Good f_gnss_place f_gnss_variance f___fx_Acc__MulDiv (@L_gnss_Read_0) (fun q d k => mL_gnss_Read_0 q d k) x0 x1 x2 x3 x4 x5 x6 x7 x8 x9 some
theorem s_gnss_Read [Amb] : Sound Try.prog 9 (F_gnss_Read f_gnss_Read) := (inl_sums (l := [(13, F_gnss_Good f_gnss_Good), (26, F_gnss_place f_gnss_place), (27, F_gnss_variance f_gnss_variance), (28, F___fx_Acc__MulDiv f___fx_Acc__MulDiv)]) (.cons s_gnss_Good (.cons s_gnss_place (.cons s_gnss_variance (.cons s___fx_Acc__MulDiv (.nil _))))) mixed (hs := ⟨[⟨5,
  [1, 2, 5, 7, 8, 9, 10, 11, 12, 13, 14, 15, 16, 17, 18, 19, 20, 21, 22, 24, 25, 26, 27, 28, 29, 30, 31, 32, 33, 34, 35, 36, 37], []⟩], [⟨5, 1, @R_gnss_Read_0 (@L_gnss_Read_0)⟩], [0], [], (some ⟨0, [0, 1, 2, 3, 6, 7, 8, 9, 10, 11, 12, 13, 14, 15, 16, 17, 18, 19, 20, 21, 22, 23, 24, 25, 26, 27, 28, 29,
  30, 31, 32, 33, 34, 35, 36, 37], []⟩)⟩) (lf := 200) (Sums.by (l := [loopIn Try.prog 9 5]) (lj := []) (by kernel_rfl) ⟨so_gnss_Read_0, trivial⟩ (by kernel_rfl) trivial) (by kernel_rfl)).by (F := F_gnss_Read f_gnss_Read) fun args b r hr => by
  obtain ⟨x0, x1, x2, x3, x4, x5, x6, x7, x8, x9, rfl, rfl, hr1⟩ := e_gnss_Read hr
  exact inl_eval ((d_gnss_Read f_gnss_Good f_gnss_place f_gnss_variance f___fx_Acc__MulDiv (@L_gnss_Read_0) x0 x1 x2 x3 x4 x5 x6 x7 x8 x9).trans ((n_gnss_Read (fun (d : Int × Int × Int × Int × Int × Int × Int × Int × Int × Bool) => some (Res.mk
    (AV.tup
      [RV.agg
          [Sg.c (CV.f (FV.i IntKind.i64 d.1)), Sg.c (CV.f (FV.i IntKind.i64 d.2.1)), Sg.c (CV.f (FV.i IntKind.i64 d.2.2.1)), Sg.c (CV.f (FV.i IntKind.i64 d.2.2.2.1)),
            Sg.c (CV.f (FV.i IntKind.i64 d.2.2.2.2.1)), Sg.c (CV.f (FV.i IntKind.i64 d.2.2.2.2.2.1)), Sg.c (CV.f (FV.i IntKind.i64 d.2.2.2.2.2.2.1)),
            Sg.c (CV.f (FV.i IntKind.i64 d.2.2.2.2.2.2.2.1))],
        RV.c (CV.f (FV.i IntKind.i64 d.2.2.2.2.2.2.2.2.1))])
    [Ch.set [Sg.c (CV.f (FV.b d.2.2.2.2.2.2.2.2.2))]] [])) x0 x1 x2 x3 x4 x5 x6 x7 x8 x9).symm.trans hr1))

def K__wide_big__shl {ρ : Type} (x0 : Int) (x1 : Int) (x2 : Int) (k : (Int × Int) → Option ρ) : Option ρ := bif decide (x2 ≥ 64) then bif !decide (IntKind.wrap IntKind.i64 (x2 - 64) < 0) then k (IntKind.wrap IntKind.u64 (x1 * 2 ^ min (Int.toNat (IntKind.wrap IntKind.i64 (x2 - 64))) 64), 0) else none else
  bif !decide (x2 < 0) then bif !decide (IntKind.wrap IntKind.i64 (64 - x2) < 0) then bif !decide (x2 < 0) then k (IntKind.wrap IntKind.u64 (Int.ofNat (BitVec.toNat (BitVec.ofInt 64 (IntKind.wrap IntKind.u64 (x0 * 2 ^ min (Int.toNat x2) 64)) ||| BitVec.ofInt 64 (Int.fdiv x1 (2 ^ min (Int.toNat (IntKind.wrap IntKind.i64 (64 - x2))) 64))))),
  IntKind.wrap IntKind.u64 (x1 * 2 ^ min (Int.toNat x2) 64)) else none else none else none
def f__wide_big__shl (x0 : Int) (x1 : Int) (x2 : Int) : Option (Int × Int) := K__wide_big__shl   x0 x1 x2 some
section
open Go.Ab.Rdr
def QA__wide_big__shl := ((pair (cons (ar (ra (cons (gc (cf (fi .u64 hole))) (cons (gc (cf (fi .u64 hole))) nil)))) (cons (ar (rc (cf (fi .i64 hole)))) nil)) nil) : Rdr (List AV × List Blk) _)
end
def F__wide_big__shl (f : (Int) → (Int) → (Int) → Option (Int × Int)) : Sem1 := fun args h => match (QA__wide_big__shl).rd (args, h) with
  | some b => .opt (f b.1.1.1 b.1.1.2.1 b.1.2.1) fun (d : Int × Int) => .leaf (Res.mk (AV.r (RV.agg [Sg.c (CV.f (FV.i IntKind.u64 d.1)), Sg.c (CV.f (FV.i IntKind.u64 d.2))])) [] [])
  | none => .fail
theorem d__wide_big__shl (x0 : Int) (x1 : Int) (x2 : Int) : den Try.prog (envOf []) ⟨[], [], [], [], none⟩ 200 78 [.r (.agg [.c (.f (.i .u64 x0)), .c (.f (.i .u64 x1))]), .r (.c (.f (.i .i64 x2)))] [] = K__wide_big__shl x0 x1 x2 (fun (d : Int × Int) => some (Res.mk (AV.r (RV.agg [Sg.c (CV.f (FV.i IntKind.u64 d.1)),
  Sg.c (CV.f (FV.i IntKind.u64 d.2))])) [] [])) := by kernel_rfl
theorem m__wide_big__shl {ρ σ : Type} (q : ρ → Option σ)    (x0 : Int) (x1 : Int) (x2 : Int) (k : (Int × Int) → Option ρ) : (K__wide_big__shl   x0 x1 x2 k).bind q = K__wide_big__shl   x0 x1 x2 (fun d => (k d).bind q) := by
  simp only [K__wide_big__shl, bnd_cond, bnd_bind, bnd_none, bnd_sum]
theorem qa__wide_big__shl : ∀ b, (QA__wide_big__shl).em b = ([.r (.agg [.c (.f (.i .u64 b.1.1.1)), .c (.f (.i .u64 b.1.1.2.1))]), .r (.c (.f (.i .i64 b.1.2.1)))], []) := fun b => by kernel_rfl
theorem e__wide_big__shl {f : (Int) → (Int) → (Int) → Option (Int × Int)} {args : List AV} {h : List Blk} {r : Res} (hr : (F__wide_big__shl f args h).eval = some r) : ∃ x0 x1 x2, args = [.r (.agg [.c (.f (.i .u64 x0)), .c (.f (.i .u64 x1))]), .r (.c (.f (.i .i64 x2)))] ∧ h = [] ∧ (f x0 x1 x2).bind (fun (d : Int × Int) => some (Res.mk (AV.r (RV.agg [Sg.c (CV.f (FV.i IntKind.u64 d.1)), Sg.c (CV.f (FV.i IntKind.u64 d.2))])) [] [])) = some r := by
  unfold F__wide_big__shl at hr
  split at hr
  · rename_i b hb
    have e := ((QA__wide_big__shl).ok _ _ hb).trans (qa__wide_big__shl b)
    rw [opt_eval2] at hr
    exact ⟨b.1.1.1, b.1.1.2.1, b.1.2.1, (Prod.mk.inj e).1, (Prod.mk.inj e).2, hr⟩
  · cases hr
theorem n__wide_big__shl {σ : Type} (q : (Int × Int) → Option σ) (x0 : Int) (x1 : Int) (x2 : Int) : (f__wide_big__shl x0 x1 x2).bind q = K__wide_big__shl   x0 x1 x2 q := by
  unfold f__wide_big__shl
  exact m__wide_big__shl q    x0 x1 x2 some
theorem s__wide_big__shl [Amb] : Sound Try.prog 78 (F__wide_big__shl f__wide_big__shl) := (inl_sound (l := []) (.nil _) mixed [] [] 200 (by kernel_rfl)).by (F := F__wide_big__shl f__wide_big__shl) fun args b r hr => by
  obtain ⟨x0, x1, x2, rfl, rfl, hr1⟩ := e__wide_big__shl hr
  exact inl_eval ((d__wide_big__shl   x0 x1 x2).trans ((n__wide_big__shl (fun (d : Int × Int) => some (Res.mk (AV.r (RV.agg [Sg.c (CV.f (FV.i IntKind.u64 d.1)), Sg.c (CV.f (FV.i IntKind.u64 d.2))])) [] [])) x0 x1 x2).symm.trans hr1))

def K__wide_big__shr {ρ : Type} (x0 : Int) (x1 : Int) (x2 : Int) (k : (Int × Int) → Option ρ) : Option ρ := bif decide (x2 ≥ 64) then bif !decide (IntKind.wrap IntKind.i64 (x2 - 64) < 0) then k (0, Int.fdiv x0 (2 ^ min (Int.toNat (IntKind.wrap IntKind.i64 (x2 - 64))) 64)) else none else bif !decide (x2 < 0) then
  bif !decide (x2 < 0) then bif !decide (IntKind.wrap IntKind.i64 (64 - x2) < 0) then k (Int.fdiv x0 (2 ^ min (Int.toNat x2) 64), IntKind.wrap IntKind.u64 (Int.ofNat (BitVec.toNat (BitVec.ofInt 64 (Int.fdiv x1 (2 ^ min (Int.toNat x2) 64)) ||| BitVec.ofInt 64 (IntKind.wrap IntKind.u64 (x0 * 2 ^ min (Int.toNat (IntKind.wrap IntKind.i64 (64 - x2))) 64)))))) else
  none else none else none
def f__wide_big__shr (x0 : Int) (x1 : Int) (x2 : Int) : Option (Int × Int) := K__wide_big__shr   x0 x1 x2 some
section
open Go.Ab.Rdr
def QA__wide_big__shr := ((pair (cons (ar (ra (cons (gc (cf (fi .u64 hole))) (cons (gc (cf (fi .u64 hole))) nil)))) (cons (ar (rc (cf (fi .i64 hole)))) nil)) nil) : Rdr (List AV × List Blk) _)
end
def F__wide_big__shr (f : (Int) → (Int) → (Int) → Option (Int × Int)) : Sem1 := fun args h => match (QA__wide_big__shr).rd (args, h) with
  | some b => .opt (f b.1.1.1 b.1.1.2.1 b.1.2.1) fun (d : Int × Int) => .leaf (Res.mk (AV.r (RV.agg [Sg.c (CV.f (FV.i IntKind.u64 d.1)), Sg.c (CV.f (FV.i IntKind.u64 d.2))])) [] [])
  | none => .fail
theorem d__wide_big__shr (x0 : Int) (x1 : Int) (x2 : Int) : den Try.prog (envOf []) ⟨[], [], [], [], none⟩ 200 79 [.r (.agg [.c (.f (.i .u64 x0)), .c (.f (.i .u64 x1))]), .r (.c (.f (.i .i64 x2)))] [] = K__wide_big__shr x0 x1 x2 (fun (d : Int × Int) => some (Res.mk (AV.r (RV.agg [Sg.c (CV.f (FV.i IntKind.u64 d.1)),
  Sg.c (CV.f (FV.i IntKind.u64 d.2))])) [] [])) := by kernel_rfl
theorem m__wide_big__shr {ρ σ : Type} (q : ρ → Option σ)    (x0 : Int) (x1 : Int) (x2 : Int) (k : (Int × Int) → Option ρ) : (K__wide_big__shr   x0 x1 x2 k).bind q = K__wide_big__shr   x0 x1 x2 (fun d => (k d).bind q) := by
  simp only [K__wide_big__shr, bnd_cond, bnd_bind, bnd_none, bnd_sum]
theorem qa__wide_big__shr : ∀ b, (QA__wide_big__shr).em b = ([.r (.agg [.c (.f (.i .u64 b.1.1.1)), .c (.f (.i .u64 b.1.1.2.1))]), .r (.c (.f (.i .i64 b.1.2.1)))], []) := fun b => by kernel_rfl
theorem e__wide_big__shr {f : (Int) → (Int) → (Int) → Option (Int × Int)} {args : List AV} {h : List Blk} {r : Res} (hr : (F__wide_big__shr f args h).eval = some r) : ∃ x0 x1 x2, args = [.r (.agg [.c (.f (.i .u64 x0)), .c (.f (.i .u64 x1))]), .r (.c (.f (.i .i64 x2)))] ∧ h = [] ∧ (f x0 x1 x2).bind (fun (d : Int × Int) => some (Res.mk (AV.r (RV.agg [Sg.c (CV.f (FV.i IntKind.u64 d.1)), Sg.c (CV.f (FV.i IntKind.u64 d.2))])) [] [])) = some r := by
  unfold F__wide_big__shr at hr
  split at hr
  · rename_i b hb
    have e := ((QA__wide_big__shr).ok _ _ hb).trans (qa__wide_big__shr b)
    rw [opt_eval2] at hr
    exact ⟨b.1.1.1, b.1.1.2.1, b.1.2.1, (Prod.mk.inj e).1, (Prod.mk.inj e).2, hr⟩
  · cases hr
theorem n__wide_big__shr {σ : Type} (q : (Int × Int) → Option σ) (x0 : Int) (x1 : Int) (x2 : Int) : (f__wide_big__shr x0 x1 x2).bind q = K__wide_big__shr   x0 x1 x2 q := by
  unfold f__wide_big__shr
  exact m__wide_big__shr q    x0 x1 x2 some
theorem s__wide_big__shr [Amb] : Sound Try.prog 79 (F__wide_big__shr f__wide_big__shr) := (inl_sound (l := []) (.nil _) mixed [] [] 200 (by kernel_rfl)).by (F := F__wide_big__shr f__wide_big__shr) fun args b r hr => by
  obtain ⟨x0, x1, x2, rfl, rfl, hr1⟩ := e__wide_big__shr hr
  exact inl_eval ((d__wide_big__shr   x0 x1 x2).trans ((n__wide_big__shr (fun (d : Int × Int) => some (Res.mk (AV.r (RV.agg [Sg.c (CV.f (FV.i IntKind.u64 d.1)), Sg.c (CV.f (FV.i IntKind.u64 d.2))])) [] [])) x0 x1 x2).symm.trans hr1))

def K_wide_Round {ρ : Type} (g_wide_abs : Int → Int → Option (Int × Int × Bool)) (g__wide_big__shl : Int → Int → Int → Option (Int × Int)) (g__wide_big__plus : Int → Int → Int → Int → Option (Int × Int)) (g__wide_big__shr : Int → Int → Int → Option (Int × Int)) (g_wide_signed64 : Int → Int → Bool → Option (Int ×
  Bool)) (x0 : Int) (x1 : Int) (x2 : Int) (k : (Int × Bool) → Option ρ) : Option ρ := bif decide (x2 < 0) then k (0, false) else bif decide (x2 > 126) then k (0, false) else Option.bind (g_wide_abs x0 x1) fun (d : Int × Int × Bool) => bif decide (x2 > 0) then Option.bind (g__wide_big__shl 0 1 (IntKind.wrap IntKind.i64 (x2 - 1))) fun (d_1 : Int ×
  Int) => Option.bind (g__wide_big__plus d.1 d.2.1 d_1.1 d_1.2) fun (d_2 : Int × Int) => Option.bind (g__wide_big__shr d_2.1 d_2.2 x2) fun (d_3 : Int × Int) => Option.bind (g_wide_signed64 d_3.1 d_3.2 d.2.2) fun (d : Int × Bool) => k (d.1, d.2) else Option.bind (g__wide_big__shr d.1 d.2.1 x2) fun (d_1 : Int ×
  Int) => Option.bind (g_wide_signed64 d_1.1 d_1.2 d.2.2) fun (d : Int × Bool) => k (d.1, d.2)
def f_wide_Round (x0 : Int) (x1 : Int) (x2 : Int) : Option (Int × Bool) := K_wide_Round f_wide_abs f__wide_big__shl f__wide_big__plus f__wide_big__shr f_wide_signed64  x0 x1 x2 some
section
open Go.Ab.Rdr
def QA_wide_Round := ((pair (cons (ar (ra (cons (gc (cf (fi .i64 hole))) (cons (gc (cf (fi .u64 hole))) nil)))) (cons (ar (rc (cf (fi .i64 hole)))) nil)) nil) : Rdr (List AV × List Blk) _)
end
def F_wide_Round (f : (Int) → (Int) → (Int) → Option (Int × Bool)) : Sem1 := fun args h => match (QA_wide_Round).rd (args, h) with
  | some b => .opt (f b.1.1.1 b.1.1.2.1 b.1.2.1) fun (d : Int × Bool) => .leaf (Res.mk (AV.tup [RV.c (CV.f (FV.i IntKind.i64 d.1)), RV.c (CV.f (FV.b d.2))]) [] [])
  | none => .fail
theorem d_wide_Round (g_wide_abs : Int → Int → Option (Int × Int × Bool)) (g__wide_big__shl : Int → Int → Int → Option (Int × Int)) (g__wide_big__plus : Int → Int → Int → Int → Option (Int × Int)) (g__wide_big__shr : Int → Int → Int → Option (Int × Int)) (g_wide_signed64 : Int → Int → Bool → Option (Int ×
  Bool)) (x0 : Int) (x1 : Int) (x2 : Int) : den Try.prog (envOf [(82, F_wide_abs g_wide_abs), (78, F__wide_big__shl g__wide_big__shl), (83, F__wide_big__plus g__wide_big__plus), (79, F__wide_big__shr g__wide_big__shr), (84, F_wide_signed64 g_wide_signed64)]) ⟨[], [], [], [], none⟩ 200 63 [.r (.agg [.c (.f (.i .i64 x0)),
  .c (.f (.i .u64 x1))]), .r (.c (.f (.i .i64 x2)))] [] = K_wide_Round g_wide_abs g__wide_big__shl g__wide_big__plus g__wide_big__shr g_wide_signed64 x0 x1 x2 (fun (d : Int × Bool) => some (Res.mk (AV.tup [RV.c (CV.f (FV.i IntKind.i64 d.1)), RV.c (CV.f (FV.b d.2))]) [] [])) := by kernel_rfl
theorem m_wide_Round {ρ σ : Type} (q : ρ → Option σ) (g_wide_abs : Int → Int → Option (Int × Int × Bool)) (g__wide_big__shl : Int → Int → Int → Option (Int × Int)) (g__wide_big__plus : Int → Int → Int → Int → Option (Int × Int)) (g__wide_big__shr : Int → Int → Int → Option (Int × Int)) (g_wide_signed64 : Int → Int → Bool → Option (Int × Bool))   (x0 : Int) (x1 : Int) (x2 : Int) (k : (Int × Bool) → Option ρ) : (K_wide_Round g_wide_abs g__wide_big__shl g__wide_big__plus g__wide_big__shr g_wide_signed64  x0 x1 x2 k).bind q = K_wide_Round g_wide_abs g__wide_big__shl g__wide_big__plus g__wide_big__shr g_wide_signed64  x0 x1 x2 (fun d => (k d).bind q) := by
  simp only [K_wide_Round, bnd_cond, bnd_bind, bnd_none, bnd_sum]
theorem qa_wide_Round : ∀ b, (QA_wide_Round).em b = ([.r (.agg [.c (.f (.i .i64 b.1.1.1)), .c (.f (.i .u64 b.1.1.2.1))]), .r (.c (.f (.i .i64 b.1.2.1)))], []) := fun b => by kernel_rfl
theorem e_wide_Round {f : (Int) → (Int) → (Int) → Option (Int × Bool)} {args : List AV} {h : List Blk} {r : Res} (hr : (F_wide_Round f args h).eval = some r) : ∃ x0 x1 x2, args = [.r (.agg [.c (.f (.i .i64 x0)), .c (.f (.i .u64 x1))]), .r (.c (.f (.i .i64 x2)))] ∧ h = [] ∧ (f x0 x1 x2).bind (fun (d : Int × Bool) => some (Res.mk (AV.tup [RV.c (CV.f (FV.i IntKind.i64 d.1)), RV.c (CV.f (FV.b d.2))]) [] [])) = some r := by
  unfold F_wide_Round at hr
  split at hr
  · rename_i b hb
    have e := ((QA_wide_Round).ok _ _ hb).trans (qa_wide_Round b)
    rw [opt_eval2] at hr
    exact ⟨b.1.1.1, b.1.1.2.1, b.1.2.1, (Prod.mk.inj e).1, (Prod.mk.inj e).2, hr⟩
  · cases hr
theorem n_wide_Round {σ : Type} (q : (Int × Bool) → Option σ) (x0 : Int) (x1 : Int) (x2 : Int) : (f_wide_Round x0 x1 x2).bind q = K_wide_Round f_wide_abs f__wide_big__shl f__wide_big__plus f__wide_big__shr f_wide_signed64  x0 x1 x2 q := by
  unfold f_wide_Round
  exact m_wide_Round q f_wide_abs f__wide_big__shl f__wide_big__plus f__wide_big__shr f_wide_signed64   x0 x1 x2 some
theorem s_wide_Round [Amb] : Sound Try.prog 63 (F_wide_Round f_wide_Round) := (inl_sound (l := [(82, F_wide_abs f_wide_abs), (78, F__wide_big__shl f__wide_big__shl), (83, F__wide_big__plus f__wide_big__plus), (79, F__wide_big__shr f__wide_big__shr), (84, F_wide_signed64 f_wide_signed64)]) (.cons s_wide_abs (.cons s__wide_big__shl (.cons s__wide_big__plus (.cons s__wide_big__shr (.cons s_wide_signed64 (.nil _)))))) mixed [] [] 200 (by kernel_rfl)).by (F := F_wide_Round f_wide_Round) fun args b r hr => by
  obtain ⟨x0, x1, x2, rfl, rfl, hr1⟩ := e_wide_Round hr
  exact inl_eval ((d_wide_Round f_wide_abs f__wide_big__shl f__wide_big__plus f__wide_big__shr f_wide_signed64  x0 x1 x2).trans ((n_wide_Round (fun (d : Int × Bool) => some (Res.mk (AV.tup [RV.c (CV.f (FV.i IntKind.i64 d.1)), RV.c (CV.f (FV.b d.2))]) [] [])) x0 x1 x2).symm.trans hr1))

def K___fx_Acc__round {ρ : Type} (g_wide_Round : Int → Int → Int → Option (Int × Bool)) (g___fx_Acc__end : Int → Bool → Bool → Bool → Option (Int × Bool)) (x0 : Int) (x1 : Int) (x2 : Int) (x3 : Bool) (k : (Int × Bool) → Option ρ) : Option ρ := bif decide (x2 < 0) then k (0, true) else bif decide (x2 > 120) then
  k (0, true) else Option.bind (g_wide_Round x0 x1 x2) fun (d : Int × Bool) => Option.bind (g___fx_Acc__end d.1 d.2 (decide (x0 < 0)) x3) fun (d : Int × Bool) => k (d.1, d.2)
def f___fx_Acc__round (x0 : Int) (x1 : Int) (x2 : Int) (x3 : Bool) : Option (Int × Bool) := K___fx_Acc__round f_wide_Round f___fx_Acc__end  x0 x1 x2 x3 some
section
open Go.Ab.Rdr
def QA___fx_Acc__round := ((pair (cons (ar (rc (cptr (nat 0) (ok' (nat 0)) (nat 1)))) (cons (ar (ra (cons (gc (cf (fi .i64 hole))) (cons (gc (cf (fi .u64 hole))) nil)))) (cons (ar (rc (cf (fi .i64 hole)))) nil))) (cons (cons (gc (cf (fb hole))) nil) nil)) : Rdr (List AV × List Blk) _)
end
def F___fx_Acc__round (f : (Int) → (Int) → (Int) → (Bool) → Option (Int × Bool)) : Sem1 := fun args h => match (QA___fx_Acc__round).rd (args, h) with
  | some b => .opt (f b.1.2.1.1 b.1.2.1.2.1 b.1.2.2.1 b.2.1.1) fun (d : Int × Bool) => .leaf (Res.mk (AV.r (RV.c (CV.f (FV.i IntKind.i64 d.1)))) [Ch.set [Sg.c (CV.f (FV.b d.2))]] [])
  | none => .fail
theorem d___fx_Acc__round (g_wide_Round : Int → Int → Int → Option (Int × Bool)) (g___fx_Acc__end : Int → Bool → Bool → Bool → Option (Int × Bool)) (x0 : Int) (x1 : Int) (x2 : Int) (x3 : Bool) : den Try.prog (envOf [(63, F_wide_Round g_wide_Round), (64, F___fx_Acc__end g___fx_Acc__end)]) ⟨[],
  [], [], [], none⟩ 200 53 [.r (.c (.ptr 0 (.k 0) 1)), .r (.agg [.c (.f (.i .i64 x0)), .c (.f (.i .u64 x1))]), .r (.c (.f (.i .i64 x2)))] [[.c (.f (.b x3))]] = K___fx_Acc__round g_wide_Round g___fx_Acc__end x0 x1 x2 x3 (fun (d : Int × Bool) => some (Res.mk (AV.r (RV.c (CV.f (FV.i IntKind.i64 d.1)))) [Ch.set [Sg.c (CV.f (FV.b d.2))]] [])) := by kernel_rfl
theorem m___fx_Acc__round {ρ σ : Type} (q : ρ → Option σ) (g_wide_Round : Int → Int → Int → Option (Int × Bool)) (g___fx_Acc__end : Int → Bool → Bool → Bool → Option (Int × Bool))   (x0 : Int) (x1 : Int) (x2 : Int) (x3 : Bool) (k : (Int × Bool) → Option ρ) : (K___fx_Acc__round g_wide_Round g___fx_Acc__end  x0 x1 x2 x3 k).bind q = K___fx_Acc__round g_wide_Round g___fx_Acc__end  x0 x1 x2 x3 (fun d => (k d).bind q) := by
  simp only [K___fx_Acc__round, bnd_cond, bnd_bind, bnd_none, bnd_sum]
theorem qa___fx_Acc__round : ∀ b, (QA___fx_Acc__round).em b = ([.r (.c (.ptr 0 (.k 0) 1)), .r (.agg [.c (.f (.i .i64 b.1.2.1.1)), .c (.f (.i .u64 b.1.2.1.2.1))]), .r (.c (.f (.i .i64 b.1.2.2.1)))], [[.c (.f (.b b.2.1.1))]]) := fun b => by kernel_rfl
theorem e___fx_Acc__round {f : (Int) → (Int) → (Int) → (Bool) → Option (Int × Bool)} {args : List AV} {h : List Blk} {r : Res} (hr : (F___fx_Acc__round f args h).eval = some r) : ∃ x0 x1 x2 x3, args = [.r (.c (.ptr 0 (.k 0) 1)), .r (.agg [.c (.f (.i .i64 x0)), .c (.f (.i .u64 x1))]), .r (.c (.f (.i .i64 x2)))] ∧ h = [[.c (.f (.b x3))]] ∧ (f x0 x1 x2 x3).bind (fun (d : Int × Bool) => some (Res.mk (AV.r (RV.c (CV.f (FV.i IntKind.i64 d.1)))) [Ch.set [Sg.c (CV.f (FV.b d.2))]] [])) = some r := by
  unfold F___fx_Acc__round at hr
  split at hr
  · rename_i b hb
    have e := ((QA___fx_Acc__round).ok _ _ hb).trans (qa___fx_Acc__round b)
    rw [opt_eval2] at hr
    exact ⟨b.1.2.1.1, b.1.2.1.2.1, b.1.2.2.1, b.2.1.1, (Prod.mk.inj e).1, (Prod.mk.inj e).2, hr⟩
  · cases hr
theorem n___fx_Acc__round {σ : Type} (q : (Int × Bool) → Option σ) (x0 : Int) (x1 : Int) (x2 : Int) (x3 : Bool) : (f___fx_Acc__round x0 x1 x2 x3).bind q = K___fx_Acc__round f_wide_Round f___fx_Acc__end  x0 x1 x2 x3 q := by
  unfold f___fx_Acc__round
  exact m___fx_Acc__round q f_wide_Round f___fx_Acc__end   x0 x1 x2 x3 some
theorem s___fx_Acc__round [Amb] : Sound Try.prog 53 (F___fx_Acc__round f___fx_Acc__round) := (inl_sound (l := [(63, F_wide_Round f_wide_Round), (64, F___fx_Acc__end f___fx_Acc__end)]) (.cons s_wide_Round (.cons s___fx_Acc__end (.nil _))) mixed [] [] 200 (by kernel_rfl)).by (F := F___fx_Acc__round f___fx_Acc__round) fun args b r hr => by
  obtain ⟨x0, x1, x2, x3, rfl, rfl, hr1⟩ := e___fx_Acc__round hr
  exact inl_eval ((d___fx_Acc__round f_wide_Round f___fx_Acc__end  x0 x1 x2 x3).trans ((n___fx_Acc__round (fun (d : Int × Bool) => some (Res.mk (AV.r (RV.c (CV.f (FV.i IntKind.i64 d.1)))) [Ch.set [Sg.c (CV.f (FV.b d.2))]] [])) x0 x1 x2 x3).symm.trans hr1))

def K___fx_Acc__Mul {ρ : Type} (g___fx_Acc__Sat : Int → Bool → Option (Int × Bool)) (g_wide_Mul : Int → Int → Option (Int × Int)) (g___fx_Acc__round : Int → Int → Int → Bool → Option (Int × Bool)) (x0 : Int) (x1 : Int) (x2 : Int) (x3 : Bool) (k : (Int × Bool) → Option ρ) : Option ρ := Option.bind (g___fx_Acc__Sat x0 x3) fun (d : Int ×
  Bool) => Option.bind (g___fx_Acc__Sat x1 d.2) fun (d_1 : Int × Bool) => Option.bind (g_wide_Mul d.1 d_1.1) fun (d : Int × Int) => Option.bind (g___fx_Acc__round d.1 d.2 x2 d_1.2) fun (d : Int × Bool) => k (d.1, d.2)
def f___fx_Acc__Mul (x0 : Int) (x1 : Int) (x2 : Int) (x3 : Bool) : Option (Int × Bool) := K___fx_Acc__Mul f___fx_Acc__Sat f_wide_Mul f___fx_Acc__round  x0 x1 x2 x3 some
section
open Go.Ab.Rdr
def QA___fx_Acc__Mul := ((pair (cons (ar (rc (cptr (nat 0) (ok' (nat 0)) (nat 1)))) (cons (ar (rc (cf (fi .i64 hole)))) (cons (ar (rc (cf (fi .i64 hole)))) (cons (ar (rc (cf (fi .i64 hole)))) nil)))) (cons (cons (gc (cf (fb hole))) nil) nil)) : Rdr (List AV × List Blk) _)
end
def F___fx_Acc__Mul (f : (Int) → (Int) → (Int) → (Bool) → Option (Int × Bool)) : Sem1 := fun args h => match (QA___fx_Acc__Mul).rd (args, h) with
  | some b => .opt (f b.1.2.1 b.1.2.2.1 b.1.2.2.2.1 b.2.1.1) fun (d : Int × Bool) => .leaf (Res.mk (AV.r (RV.c (CV.f (FV.i IntKind.i64 d.1)))) [Ch.set [Sg.c (CV.f (FV.b d.2))]] [])
  | none => .fail
theorem d___fx_Acc__Mul (g___fx_Acc__Sat : Int → Bool → Option (Int × Bool)) (g_wide_Mul : Int → Int → Option (Int × Int)) (g___fx_Acc__round : Int → Int → Int → Bool → Option (Int × Bool)) (x0 : Int) (x1 : Int) (x2 : Int) (x3 : Bool) : den Try.prog (envOf [(52, F___fx_Acc__Sat g___fx_Acc__Sat),
  (51, F_wide_Mul g_wide_Mul), (53, F___fx_Acc__round g___fx_Acc__round)]) ⟨[], [], [], [], none⟩ 200 30 [.r (.c (.ptr 0 (.k 0) 1)), .r (.c (.f (.i .i64 x0))), .r (.c (.f (.i .i64 x1))), .r (.c (.f (.i .i64 x2)))] [[.c (.f (.b x3))]] = K___fx_Acc__Mul g___fx_Acc__Sat g_wide_Mul g___fx_Acc__round x0 x1 x2 x3 (fun (d : Int ×
  Bool) => some (Res.mk (AV.r (RV.c (CV.f (FV.i IntKind.i64 d.1)))) [Ch.set [Sg.c (CV.f (FV.b d.2))]] [])) := by kernel_rfl
theorem m___fx_Acc__Mul {ρ σ : Type} (q : ρ → Option σ) (g___fx_Acc__Sat : Int → Bool → Option (Int × Bool)) (g_wide_Mul : Int → Int → Option (Int × Int)) (g___fx_Acc__round : Int → Int → Int → Bool → Option (Int × Bool))   (x0 : Int) (x1 : Int) (x2 : Int) (x3 : Bool) (k : (Int × Bool) → Option ρ) : (K___fx_Acc__Mul g___fx_Acc__Sat g_wide_Mul g___fx_Acc__round  x0 x1 x2 x3 k).bind q = K___fx_Acc__Mul g___fx_Acc__Sat g_wide_Mul g___fx_Acc__round  x0 x1 x2 x3 (fun d => (k d).bind q) := by
  simp only [K___fx_Acc__Mul, bnd_cond, bnd_bind, bnd_none, bnd_sum]
theorem qa___fx_Acc__Mul : ∀ b, (QA___fx_Acc__Mul).em b = ([.r (.c (.ptr 0 (.k 0) 1)), .r (.c (.f (.i .i64 b.1.2.1))), .r (.c (.f (.i .i64 b.1.2.2.1))), .r (.c (.f (.i .i64 b.1.2.2.2.1)))], [[.c (.f (.b b.2.1.1))]]) := fun b => by kernel_rfl
theorem e___fx_Acc__Mul {f : (Int) → (Int) → (Int) → (Bool) → Option (Int × Bool)} {args : List AV} {h : List Blk} {r : Res} (hr : (F___fx_Acc__Mul f args h).eval = some r) : ∃ x0 x1 x2 x3, args = [.r (.c (.ptr 0 (.k 0) 1)), .r (.c (.f (.i .i64 x0))), .r (.c (.f (.i .i64 x1))), .r (.c (.f (.i .i64 x2)))] ∧ h = [[.c (.f (.b x3))]] ∧ (f x0 x1 x2 x3).bind (fun (d : Int × Bool) => some (Res.mk (AV.r (RV.c (CV.f (FV.i IntKind.i64 d.1)))) [Ch.set [Sg.c (CV.f (FV.b d.2))]] [])) = some r := by
  unfold F___fx_Acc__Mul at hr
  split at hr
  · rename_i b hb
    have e := ((QA___fx_Acc__Mul).ok _ _ hb).trans (qa___fx_Acc__Mul b)
    rw [opt_eval2] at hr
    exact ⟨b.1.2.1, b.1.2.2.1, b.1.2.2.2.1, b.2.1.1, (Prod.mk.inj e).1, (Prod.mk.inj e).2, hr⟩
  · cases hr
theorem n___fx_Acc__Mul {σ : Type} (q : (Int × Bool) → Option σ) (x0 : Int) (x1 : Int) (x2 : Int) (x3 : Bool) : (f___fx_Acc__Mul x0 x1 x2 x3).bind q = K___fx_Acc__Mul f___fx_Acc__Sat f_wide_Mul f___fx_Acc__round  x0 x1 x2 x3 q := by
  unfold f___fx_Acc__Mul
  exact m___fx_Acc__Mul q f___fx_Acc__Sat f_wide_Mul f___fx_Acc__round   x0 x1 x2 x3 some
theorem s___fx_Acc__Mul [Amb] : Sound Try.prog 30 (F___fx_Acc__Mul f___fx_Acc__Mul) := (inl_sound (l := [(52, F___fx_Acc__Sat f___fx_Acc__Sat), (51, F_wide_Mul f_wide_Mul), (53, F___fx_Acc__round f___fx_Acc__round)]) (.cons s___fx_Acc__Sat (.cons s_wide_Mul (.cons s___fx_Acc__round (.nil _)))) mixed [] [] 200 (by kernel_rfl)).by (F := F___fx_Acc__Mul f___fx_Acc__Mul) fun args b r hr => by
  obtain ⟨x0, x1, x2, x3, rfl, rfl, hr1⟩ := e___fx_Acc__Mul hr
  exact inl_eval ((d___fx_Acc__Mul f___fx_Acc__Sat f_wide_Mul f___fx_Acc__round  x0 x1 x2 x3).trans ((n___fx_Acc__Mul (fun (d : Int × Bool) => some (Res.mk (AV.r (RV.c (CV.f (FV.i IntKind.i64 d.1)))) [Ch.set [Sg.c (CV.f (FV.b d.2))]] [])) x0 x1 x2 x3).symm.trans hr1))

def K_earth_New_1 {ρ : Type} (g___fx_Acc__Mul : Int → Int → Int → Bool → Option (Int × Bool)) (x0 : Int) (x1 : Int) (x2 : Bool) (k : (Int × Bool) → Option ρ) : Option ρ := Option.bind (g___fx_Acc__Mul x0 x1 30 x2) fun (d : Int × Bool) => k (d.1, d.2)
def f_earth_New_1 (x0 : Int) (x1 : Int) (x2 : Bool) : Option (Int × Bool) := K_earth_New_1 f___fx_Acc__Mul  x0 x1 x2 some
section
open Go.Ab.Rdr
def QA_earth_New_1 := ((pair (cons (ar (rc (cf (fi .i64 hole)))) (cons (ar (rc (cf (fi .i64 hole)))) (cons (ar (rc (cptr (nat 0) (ok' (nat 0)) (nat 1)))) nil))) (cons (cons (gc (cptr (nat 1) (ok' (nat 0)) (nat 1))) nil) (cons (cons (gc (cf (fb hole))) nil) nil))) : Rdr (List AV × List Blk) _)
end
def F_earth_New_1 (f : (Int) → (Int) → (Bool) → Option (Int × Bool)) : Sem1 := fun args h => match (QA_earth_New_1).rd (args, h) with
  | some b => .opt (f b.1.1 b.1.2.1 b.2.2.1.1) fun (d : Int × Bool) => .leaf (Res.mk (AV.r (RV.c (CV.f (FV.i IntKind.i64 d.1)))) [Ch.keep, Ch.set [Sg.c (CV.f (FV.b d.2))]] [])
  | none => .fail
theorem d_earth_New_1 (g___fx_Acc__Mul : Int → Int → Int → Bool → Option (Int × Bool)) (x0 : Int) (x1 : Int) (x2 : Bool) : den Try.prog (envOf [(30, F___fx_Acc__Mul g___fx_Acc__Mul)]) ⟨[], [], [], [], none⟩ 200 29 [.r (.c (.f (.i .i64 x0))), .r (.c (.f (.i .i64 x1))), .r (.c (.ptr 0 (.k 0) 1))] [[.c (.ptr 1 (.k 0) 1)],
  [.c (.f (.b x2))]] = K_earth_New_1 g___fx_Acc__Mul x0 x1 x2 (fun (d : Int × Bool) => some (Res.mk (AV.r (RV.c (CV.f (FV.i IntKind.i64 d.1)))) [Ch.keep, Ch.set [Sg.c (CV.f (FV.b d.2))]] [])) := by kernel_rfl
theorem m_earth_New_1 {ρ σ : Type} (q : ρ → Option σ) (g___fx_Acc__Mul : Int → Int → Int → Bool → Option (Int × Bool))   (x0 : Int) (x1 : Int) (x2 : Bool) (k : (Int × Bool) → Option ρ) : (K_earth_New_1 g___fx_Acc__Mul  x0 x1 x2 k).bind q = K_earth_New_1 g___fx_Acc__Mul  x0 x1 x2 (fun d => (k d).bind q) := by
  simp only [K_earth_New_1, bnd_cond, bnd_bind, bnd_none, bnd_sum]
theorem qa_earth_New_1 : ∀ b, (QA_earth_New_1).em b = ([.r (.c (.f (.i .i64 b.1.1))), .r (.c (.f (.i .i64 b.1.2.1))), .r (.c (.ptr 0 (.k 0) 1))], [[.c (.ptr 1 (.k 0) 1)], [.c (.f (.b b.2.2.1.1))]]) := fun b => by kernel_rfl
theorem e_earth_New_1 {f : (Int) → (Int) → (Bool) → Option (Int × Bool)} {args : List AV} {h : List Blk} {r : Res} (hr : (F_earth_New_1 f args h).eval = some r) : ∃ x0 x1 x2, args = [.r (.c (.f (.i .i64 x0))), .r (.c (.f (.i .i64 x1))), .r (.c (.ptr 0 (.k 0) 1))] ∧ h = [[.c (.ptr 1 (.k 0) 1)], [.c (.f (.b x2))]] ∧ (f x0 x1 x2).bind (fun (d : Int × Bool) => some (Res.mk (AV.r (RV.c (CV.f (FV.i IntKind.i64 d.1)))) [Ch.keep, Ch.set [Sg.c (CV.f (FV.b d.2))]] [])) = some r := by
  unfold F_earth_New_1 at hr
  split at hr
  · rename_i b hb
    have e := ((QA_earth_New_1).ok _ _ hb).trans (qa_earth_New_1 b)
    rw [opt_eval2] at hr
    exact ⟨b.1.1, b.1.2.1, b.2.2.1.1, (Prod.mk.inj e).1, (Prod.mk.inj e).2, hr⟩
  · cases hr
theorem n_earth_New_1 {σ : Type} (q : (Int × Bool) → Option σ) (x0 : Int) (x1 : Int) (x2 : Bool) : (f_earth_New_1 x0 x1 x2).bind q = K_earth_New_1 f___fx_Acc__Mul  x0 x1 x2 q := by
  unfold f_earth_New_1
  exact m_earth_New_1 q f___fx_Acc__Mul   x0 x1 x2 some
theorem s_earth_New_1 [Amb] : Sound Try.prog 29 (F_earth_New_1 f_earth_New_1) := (inl_sound (l := [(30, F___fx_Acc__Mul f___fx_Acc__Mul)]) (.cons s___fx_Acc__Mul (.nil _)) mixed [] [] 200 (by kernel_rfl)).by (F := F_earth_New_1 f_earth_New_1) fun args b r hr => by
  obtain ⟨x0, x1, x2, rfl, rfl, hr1⟩ := e_earth_New_1 hr
  exact inl_eval ((d_earth_New_1 f___fx_Acc__Mul  x0 x1 x2).trans ((n_earth_New_1 (fun (d : Int × Bool) => some (Res.mk (AV.r (RV.c (CV.f (FV.i IntKind.i64 d.1)))) [Ch.keep, Ch.set [Sg.c (CV.f (FV.b d.2))]] [])) x0 x1 x2).symm.trans hr1))

def K_trig_Wrap {ρ : Type} (x0 : Int) (k : (Int) → Option ρ) : Option ρ := bif decide (Int.tmod x0 6746518852 > 3373259426) then k (IntKind.wrap IntKind.i64 (Int.tmod x0 6746518852 - 6746518852)) else bif decide (Int.tmod x0 6746518852 ≤ -3373259426) then k (IntKind.wrap IntKind.i64 (Int.tmod x0 6746518852 + 6746518852)) else
  k (Int.tmod x0 6746518852)
def f_trig_Wrap (x0 : Int) : Option (Int) := K_trig_Wrap   x0 some
section
open Go.Ab.Rdr
def QA_trig_Wrap := ((pair (cons (ar (rc (cf (fi .i64 hole)))) nil) nil) : Rdr (List AV × List Blk) _)
end
def F_trig_Wrap (f : (Int) → Option (Int)) : Sem1 := fun args h => match (QA_trig_Wrap).rd (args, h) with
  | some b => .opt (f b.1.1) fun (d : Int) => .leaf (Res.mk (AV.r (RV.c (CV.f (FV.i IntKind.i64 d)))) [] [])
  | none => .fail
theorem d_trig_Wrap (x0 : Int) : den Try.prog (envOf []) ⟨[], [], [], [], none⟩ 200 54 [.r (.c (.f (.i .i64 x0)))] [] = K_trig_Wrap x0 (fun (d : Int) => some (Res.mk (AV.r (RV.c (CV.f (FV.i IntKind.i64 d)))) [] [])) := by kernel_rfl
theorem m_trig_Wrap {ρ σ : Type} (q : ρ → Option σ)    (x0 : Int) (k : (Int) → Option ρ) : (K_trig_Wrap   x0 k).bind q = K_trig_Wrap   x0 (fun d => (k d).bind q) := by
  simp only [K_trig_Wrap, bnd_cond, bnd_bind, bnd_none, bnd_sum]
theorem qa_trig_Wrap : ∀ b, (QA_trig_Wrap).em b = ([.r (.c (.f (.i .i64 b.1.1)))], []) := fun b => by kernel_rfl
theorem e_trig_Wrap {f : (Int) → Option (Int)} {args : List AV} {h : List Blk} {r : Res} (hr : (F_trig_Wrap f args h).eval = some r) : ∃ x0, args = [.r (.c (.f (.i .i64 x0)))] ∧ h = [] ∧ (f x0).bind (fun (d : Int) => some (Res.mk (AV.r (RV.c (CV.f (FV.i IntKind.i64 d)))) [] [])) = some r := by
  unfold F_trig_Wrap at hr
  split at hr
  · rename_i b hb
    have e := ((QA_trig_Wrap).ok _ _ hb).trans (qa_trig_Wrap b)
    rw [opt_eval2] at hr
    exact ⟨b.1.1, (Prod.mk.inj e).1, (Prod.mk.inj e).2, hr⟩
  · cases hr
theorem n_trig_Wrap {σ : Type} (q : (Int) → Option σ) (x0 : Int) : (f_trig_Wrap x0).bind q = K_trig_Wrap   x0 q := by
  unfold f_trig_Wrap
  exact m_trig_Wrap q    x0 some
theorem s_trig_Wrap [Amb] : Sound Try.prog 54 (F_trig_Wrap f_trig_Wrap) := (inl_sound (l := []) (.nil _) mixed [] [] 200 (by kernel_rfl)).by (F := F_trig_Wrap f_trig_Wrap) fun args b r hr => by
  obtain ⟨x0, rfl, rfl, hr1⟩ := e_trig_Wrap hr
  exact inl_eval ((d_trig_Wrap   x0).trans ((n_trig_Wrap (fun (d : Int) => some (Res.mk (AV.r (RV.c (CV.f (FV.i IntKind.i64 d)))) [] [])) x0).symm.trans hr1))

def K_fx_Abs {ρ : Type} (x0 : Int) (k : (Int) → Option ρ) : Option ρ := bif decide (x0 ≥ 1152921504606846976) then k 1152921504606846976 else bif decide (x0 ≤ -1152921504606846976) then k 1152921504606846976 else bif decide (x0 < 0) then k (IntKind.wrap IntKind.i64 (0 - x0)) else k x0
def f_fx_Abs (x0 : Int) : Option (Int) := K_fx_Abs   x0 some
section
open Go.Ab.Rdr
def QA_fx_Abs := ((pair (cons (ar (rc (cf (fi .i64 hole)))) nil) nil) : Rdr (List AV × List Blk) _)
end
def F_fx_Abs (f : (Int) → Option (Int)) : Sem1 := fun args h => match (QA_fx_Abs).rd (args, h) with
  | some b => .opt (f b.1.1) fun (d : Int) => .leaf (Res.mk (AV.r (RV.c (CV.f (FV.i IntKind.i64 d)))) [] [])
  | none => .fail
theorem d_fx_Abs (x0 : Int) : den Try.prog (envOf []) ⟨[], [], [], [], none⟩ 200 55 [.r (.c (.f (.i .i64 x0)))] [] = K_fx_Abs x0 (fun (d : Int) => some (Res.mk (AV.r (RV.c (CV.f (FV.i IntKind.i64 d)))) [] [])) := by kernel_rfl
theorem m_fx_Abs {ρ σ : Type} (q : ρ → Option σ)    (x0 : Int) (k : (Int) → Option ρ) : (K_fx_Abs   x0 k).bind q = K_fx_Abs   x0 (fun d => (k d).bind q) := by
  simp only [K_fx_Abs, bnd_cond, bnd_bind, bnd_none, bnd_sum]
theorem qa_fx_Abs : ∀ b, (QA_fx_Abs).em b = ([.r (.c (.f (.i .i64 b.1.1)))], []) := fun b => by kernel_rfl
theorem e_fx_Abs {f : (Int) → Option (Int)} {args : List AV} {h : List Blk} {r : Res} (hr : (F_fx_Abs f args h).eval = some r) : ∃ x0, args = [.r (.c (.f (.i .i64 x0)))] ∧ h = [] ∧ (f x0).bind (fun (d : Int) => some (Res.mk (AV.r (RV.c (CV.f (FV.i IntKind.i64 d)))) [] [])) = some r := by
  unfold F_fx_Abs at hr
  split at hr
  · rename_i b hb
    have e := ((QA_fx_Abs).ok _ _ hb).trans (qa_fx_Abs b)
    rw [opt_eval2] at hr
    exact ⟨b.1.1, (Prod.mk.inj e).1, (Prod.mk.inj e).2, hr⟩
  · cases hr
theorem n_fx_Abs {σ : Type} (q : (Int) → Option σ) (x0 : Int) : (f_fx_Abs x0).bind q = K_fx_Abs   x0 q := by
  unfold f_fx_Abs
  exact m_fx_Abs q    x0 some
theorem s_fx_Abs [Amb] : Sound Try.prog 55 (F_fx_Abs f_fx_Abs) := (inl_sound (l := []) (.nil _) mixed [] [] 200 (by kernel_rfl)).by (F := F_fx_Abs f_fx_Abs) fun args b r hr => by
  obtain ⟨x0, rfl, rfl, hr1⟩ := e_fx_Abs hr
  exact inl_eval ((d_fx_Abs   x0).trans ((n_fx_Abs (fun (d : Int) => some (Res.mk (AV.r (RV.c (CV.f (FV.i IntKind.i64 d)))) [] [])) x0).symm.trans hr1))

def K_trig_m {ρ : Type} (g___fx_Acc__Mul : Int → Int → Int → Bool → Option (Int × Bool)) (x0 : Int) (x1 : Int) (x2 : Bool) (k : (Int × Bool) → Option ρ) : Option ρ := Option.bind (g___fx_Acc__Mul x0 x1 30 x2) fun (d : Int × Bool) => k (d.1, d.2)
def f_trig_m (x0 : Int) (x1 : Int) (x2 : Bool) : Option (Int × Bool) := K_trig_m f___fx_Acc__Mul  x0 x1 x2 some
section
open Go.Ab.Rdr
def QA_trig_m := ((pair (cons (ar (rc (cptr (nat 0) (ok' (nat 0)) (nat 1)))) (cons (ar (rc (cf (fi .i64 hole)))) (cons (ar (rc (cf (fi .i64 hole)))) nil))) (cons (cons (gc (cf (fb hole))) nil) nil)) : Rdr (List AV × List Blk) _)
end
def F_trig_m (f : (Int) → (Int) → (Bool) → Option (Int × Bool)) : Sem1 := fun args h => match (QA_trig_m).rd (args, h) with
  | some b => .opt (f b.1.2.1 b.1.2.2.1 b.2.1.1) fun (d : Int × Bool) => .leaf (Res.mk (AV.r (RV.c (CV.f (FV.i IntKind.i64 d.1)))) [Ch.set [Sg.c (CV.f (FV.b d.2))]] [])
  | none => .fail
theorem d_trig_m (g___fx_Acc__Mul : Int → Int → Int → Bool → Option (Int × Bool)) (x0 : Int) (x1 : Int) (x2 : Bool) : den Try.prog (envOf [(30, F___fx_Acc__Mul g___fx_Acc__Mul)]) ⟨[], [], [], [], none⟩ 200 56 [.r (.c (.ptr 0 (.k 0) 1)), .r (.c (.f (.i .i64 x0))), .r (.c (.f (.i .i64 x1)))] [[.c (.f (.b x2))]] = K_trig_m g___fx_Acc__Mul x0 x1 x2 (fun (d : Int ×
  Bool) => some (Res.mk (AV.r (RV.c (CV.f (FV.i IntKind.i64 d.1)))) [Ch.set [Sg.c (CV.f (FV.b d.2))]] [])) := by kernel_rfl
theorem m_trig_m {ρ σ : Type} (q : ρ → Option σ) (g___fx_Acc__Mul : Int → Int → Int → Bool → Option (Int × Bool))   (x0 : Int) (x1 : Int) (x2 : Bool) (k : (Int × Bool) → Option ρ) : (K_trig_m g___fx_Acc__Mul  x0 x1 x2 k).bind q = K_trig_m g___fx_Acc__Mul  x0 x1 x2 (fun d => (k d).bind q) := by
  simp only [K_trig_m, bnd_cond, bnd_bind, bnd_none, bnd_sum]
theorem qa_trig_m : ∀ b, (QA_trig_m).em b = ([.r (.c (.ptr 0 (.k 0) 1)), .r (.c (.f (.i .i64 b.1.2.1))), .r (.c (.f (.i .i64 b.1.2.2.1)))], [[.c (.f (.b b.2.1.1))]]) := fun b => by kernel_rfl
theorem e_trig_m {f : (Int) → (Int) → (Bool) → Option (Int × Bool)} {args : List AV} {h : List Blk} {r : Res} (hr : (F_trig_m f args h).eval = some r) : ∃ x0 x1 x2, args = [.r (.c (.ptr 0 (.k 0) 1)), .r (.c (.f (.i .i64 x0))), .r (.c (.f (.i .i64 x1)))] ∧ h = [[.c (.f (.b x2))]] ∧ (f x0 x1 x2).bind (fun (d : Int × Bool) => some (Res.mk (AV.r (RV.c (CV.f (FV.i IntKind.i64 d.1)))) [Ch.set [Sg.c (CV.f (FV.b d.2))]] [])) = some r := by
  unfold F_trig_m at hr
  split at hr
  · rename_i b hb
    have e := ((QA_trig_m).ok _ _ hb).trans (qa_trig_m b)
    rw [opt_eval2] at hr
    exact ⟨b.1.2.1, b.1.2.2.1, b.2.1.1, (Prod.mk.inj e).1, (Prod.mk.inj e).2, hr⟩
  · cases hr
theorem n_trig_m {σ : Type} (q : (Int × Bool) → Option σ) (x0 : Int) (x1 : Int) (x2 : Bool) : (f_trig_m x0 x1 x2).bind q = K_trig_m f___fx_Acc__Mul  x0 x1 x2 q := by
  unfold f_trig_m
  exact m_trig_m q f___fx_Acc__Mul   x0 x1 x2 some
theorem s_trig_m [Amb] : Sound Try.prog 56 (F_trig_m f_trig_m) := (inl_sound (l := [(30, F___fx_Acc__Mul f___fx_Acc__Mul)]) (.cons s___fx_Acc__Mul (.nil _)) mixed [] [] 200 (by kernel_rfl)).by (F := F_trig_m f_trig_m) fun args b r hr => by
  obtain ⟨x0, x1, x2, rfl, rfl, hr1⟩ := e_trig_m hr
  exact inl_eval ((d_trig_m f___fx_Acc__Mul  x0 x1 x2).trans ((n_trig_m (fun (d : Int × Bool) => some (Res.mk (AV.r (RV.c (CV.f (FV.i IntKind.i64 d.1)))) [Ch.set [Sg.c (CV.f (FV.b d.2))]] [])) x0 x1 x2).symm.trans hr1))

def K_wide_Of {ρ : Type} (x0 : Int) (k : (Int × Int) → Option ρ) : Option ρ := k (Int.fdiv x0 9223372036854775808, IntKind.wrap IntKind.u64 x0)
def f_wide_Of (x0 : Int) : Option (Int × Int) := K_wide_Of   x0 some
section
open Go.Ab.Rdr
def QA_wide_Of := ((pair (cons (ar (rc (cf (fi .i64 hole)))) nil) nil) : Rdr (List AV × List Blk) _)
end
def F_wide_Of (f : (Int) → Option (Int × Int)) : Sem1 := fun args h => match (QA_wide_Of).rd (args, h) with
  | some b => .opt (f b.1.1) fun (d : Int × Int) => .leaf (Res.mk (AV.r (RV.agg [Sg.c (CV.f (FV.i IntKind.i64 d.1)), Sg.c (CV.f (FV.i IntKind.u64 d.2))])) [] [])
  | none => .fail
theorem d_wide_Of (x0 : Int) : den Try.prog (envOf []) ⟨[], [], [], [], none⟩ 200 62 [.r (.c (.f (.i .i64 x0)))] [] = K_wide_Of x0 (fun (d : Int × Int) => some (Res.mk (AV.r (RV.agg [Sg.c (CV.f (FV.i IntKind.i64 d.1)), Sg.c (CV.f (FV.i IntKind.u64 d.2))])) [] [])) := by kernel_rfl
theorem m_wide_Of {ρ σ : Type} (q : ρ → Option σ)    (x0 : Int) (k : (Int × Int) → Option ρ) : (K_wide_Of   x0 k).bind q = K_wide_Of   x0 (fun d => (k d).bind q) := by
  simp only [K_wide_Of, bnd_cond, bnd_bind, bnd_none, bnd_sum]
theorem qa_wide_Of : ∀ b, (QA_wide_Of).em b = ([.r (.c (.f (.i .i64 b.1.1)))], []) := fun b => by kernel_rfl
theorem e_wide_Of {f : (Int) → Option (Int × Int)} {args : List AV} {h : List Blk} {r : Res} (hr : (F_wide_Of f args h).eval = some r) : ∃ x0, args = [.r (.c (.f (.i .i64 x0)))] ∧ h = [] ∧ (f x0).bind (fun (d : Int × Int) => some (Res.mk (AV.r (RV.agg [Sg.c (CV.f (FV.i IntKind.i64 d.1)), Sg.c (CV.f (FV.i IntKind.u64 d.2))])) [] [])) = some r := by
  unfold F_wide_Of at hr
  split at hr
  · rename_i b hb
    have e := ((QA_wide_Of).ok _ _ hb).trans (qa_wide_Of b)
    rw [opt_eval2] at hr
    exact ⟨b.1.1, (Prod.mk.inj e).1, (Prod.mk.inj e).2, hr⟩
  · cases hr
theorem n_wide_Of {σ : Type} (q : (Int × Int) → Option σ) (x0 : Int) : (f_wide_Of x0).bind q = K_wide_Of   x0 q := by
  unfold f_wide_Of
  exact m_wide_Of q    x0 some
theorem s_wide_Of [Amb] : Sound Try.prog 62 (F_wide_Of f_wide_Of) := (inl_sound (l := []) (.nil _) mixed [] [] 200 (by kernel_rfl)).by (F := F_wide_Of f_wide_Of) fun args b r hr => by
  obtain ⟨x0, rfl, rfl, hr1⟩ := e_wide_Of hr
  exact inl_eval ((d_wide_Of   x0).trans ((n_wide_Of (fun (d : Int × Int) => some (Res.mk (AV.r (RV.agg [Sg.c (CV.f (FV.i IntKind.i64 d.1)), Sg.c (CV.f (FV.i IntKind.u64 d.2))])) [] [])) x0).symm.trans hr1))

def K_wide_add {ρ : Type} (g_Add64 : C3) (x0 : Int) (x1 : Int) (x2 : Int) (x3 : Int) (k : (Int × Int × Bool) → Option ρ) : Option ρ := Option.bind (g_Add64 x1 x3 0) fun (d : Int × Int) => Option.bind (g_Add64 (IntKind.wrap IntKind.u64 x0) (IntKind.wrap IntKind.u64 x2) d.2) fun (d_1 : Int × Int) => bif !decide (x0 < 0) == decide (x2 < 0) then
  k (IntKind.wrap IntKind.i64 d_1.1, d.1, true) else k (IntKind.wrap IntKind.i64 d_1.1, d.1, decide (IntKind.wrap IntKind.i64 d_1.1 < 0) == decide (x0 < 0))
def f_wide_add (x0 : Int) (x1 : Int) (x2 : Int) (x3 : Int) : Option (Int × Int × Bool) := K_wide_add f_Add64  x0 x1 x2 x3 some
section
open Go.Ab.Rdr
def QA_wide_add := ((pair (cons (ar (ra (cons (gc (cf (fi .i64 hole))) (cons (gc (cf (fi .u64 hole))) nil)))) (cons (ar (ra (cons (gc (cf (fi .i64 hole))) (cons (gc (cf (fi .u64 hole))) nil)))) nil)) nil) : Rdr (List AV × List Blk) _)
end
def F_wide_add (f : (Int) → (Int) → (Int) → (Int) → Option (Int × Int × Bool)) : Sem1 := fun args h => match (QA_wide_add).rd (args, h) with
  | some b => .opt (f b.1.1.1 b.1.1.2.1 b.1.2.1.1 b.1.2.1.2.1) fun (d : Int × Int × Bool) => .leaf (Res.mk (AV.tup [RV.agg [Sg.c (CV.f (FV.i IntKind.i64 d.1)), Sg.c (CV.f (FV.i IntKind.u64 d.2.1))], RV.c (CV.f (FV.b d.2.2))]) [] [])
  | none => .fail
theorem d_wide_add (g_Add64 : C3) (x0 : Int) (x1 : Int) (x2 : Int) (x3 : Int) : den Try.prog (envOf [(91, F_carry g_Add64)]) ⟨[], [], [], [], none⟩ 200 81 [.r (.agg [.c (.f (.i .i64 x0)), .c (.f (.i .u64 x1))]), .r (.agg [.c (.f (.i .i64 x2)), .c (.f (.i .u64 x3))])] [] = K_wide_add g_Add64 x0 x1 x2 x3 (fun (d : Int ×
  Int × Bool) => some (Res.mk (AV.tup [RV.agg [Sg.c (CV.f (FV.i IntKind.i64 d.1)), Sg.c (CV.f (FV.i IntKind.u64 d.2.1))], RV.c (CV.f (FV.b d.2.2))]) [] [])) := by kernel_rfl
theorem m_wide_add {ρ σ : Type} (q : ρ → Option σ) (g_Add64 : C3)   (x0 : Int) (x1 : Int) (x2 : Int) (x3 : Int) (k : (Int × Int × Bool) → Option ρ) : (K_wide_add g_Add64  x0 x1 x2 x3 k).bind q = K_wide_add g_Add64  x0 x1 x2 x3 (fun d => (k d).bind q) := by
  simp only [K_wide_add, bnd_cond, bnd_bind, bnd_none, bnd_sum]
theorem qa_wide_add : ∀ b, (QA_wide_add).em b = ([.r (.agg [.c (.f (.i .i64 b.1.1.1)), .c (.f (.i .u64 b.1.1.2.1))]), .r (.agg [.c (.f (.i .i64 b.1.2.1.1)), .c (.f (.i .u64 b.1.2.1.2.1))])], []) := fun b => by kernel_rfl
theorem e_wide_add {f : (Int) → (Int) → (Int) → (Int) → Option (Int × Int × Bool)} {args : List AV} {h : List Blk} {r : Res} (hr : (F_wide_add f args h).eval = some r) : ∃ x0 x1 x2 x3, args = [.r (.agg [.c (.f (.i .i64 x0)), .c (.f (.i .u64 x1))]), .r (.agg [.c (.f (.i .i64 x2)), .c (.f (.i .u64 x3))])] ∧ h = [] ∧ (f x0 x1 x2 x3).bind (fun (d : Int × Int × Bool) => some (Res.mk (AV.tup [RV.agg [Sg.c (CV.f (FV.i IntKind.i64 d.1)), Sg.c (CV.f (FV.i IntKind.u64 d.2.1))], RV.c (CV.f (FV.b d.2.2))]) [] [])) = some r := by
  unfold F_wide_add at hr
  split at hr
  · rename_i b hb
    have e := ((QA_wide_add).ok _ _ hb).trans (qa_wide_add b)
    rw [opt_eval2] at hr
    exact ⟨b.1.1.1, b.1.1.2.1, b.1.2.1.1, b.1.2.1.2.1, (Prod.mk.inj e).1, (Prod.mk.inj e).2, hr⟩
  · cases hr
theorem n_wide_add {σ : Type} (q : (Int × Int × Bool) → Option σ) (x0 : Int) (x1 : Int) (x2 : Int) (x3 : Int) : (f_wide_add x0 x1 x2 x3).bind q = K_wide_add f_Add64  x0 x1 x2 x3 q := by
  unfold f_wide_add
  exact m_wide_add q f_Add64   x0 x1 x2 x3 some
theorem s_wide_add [Amb] : Sound Try.prog 81 (F_wide_add f_wide_add) := (inl_sound (l := [(91, F_carry f_Add64)]) (.cons s_Add64 (.nil _)) mixed [] [] 200 (by kernel_rfl)).by (F := F_wide_add f_wide_add) fun args b r hr => by
  obtain ⟨x0, x1, x2, x3, rfl, rfl, hr1⟩ := e_wide_add hr
  exact inl_eval ((d_wide_add f_Add64  x0 x1 x2 x3).trans ((n_wide_add (fun (d : Int × Int × Bool) => some (Res.mk (AV.tup [RV.agg [Sg.c (CV.f (FV.i IntKind.i64 d.1)), Sg.c (CV.f (FV.i IntKind.u64 d.2.1))], RV.c (CV.f (FV.b d.2.2))]) [] [])) x0 x1 x2 x3).symm.trans hr1))

def S_wide_Add_0 {ρ : Type} (g_wide_add : Int → Int → Int → Int → Option (Int × Int × Bool)) (x0 : Nat) (x1 : Bool) (x2 : Int) (x3 : Int) (x4 : Nat) (x5 : Nat → Int) (x6 : Nat → Int) (x7 : Int) (x8 : Int) (c : (Nat × Bool × Int × Int × Nat × (Nat → Int) × (Nat → Int) × Int × Int) → Option ρ) (x : (Nat ×
  (Nat → Int) × (Nat → Int) ⊕ Nat × Bool × Int × Int × Bool × Nat × (Nat → Int) × (Nat → Int) × Int × Int) → Option ρ) : Option ρ := bif decide (x3 < x2) then bif inR x3 x0 then Option.bind (g_wide_add x7 x8 (x5 (Int.toNat x3)) (x6 (Int.toNat x3))) fun (d : Int × Int × Bool) => bif !d.2.2 then x (Sum.inl (x4,
  x5, x6)) else c (x0, x1, x2, IntKind.wrap IntKind.i64 (x3 + 1), x4, x5, x6, d.1, d.2.1) else none else x (Sum.inr (x0, x1, x2, x3, decide (x3 < x2), x4, x5, x6, x7, x8))
section
open Go.Ab.Rdr
def Q_wide_Add_0 := (st (cons aund (cons aund (cons (ar (rc (cptr (nat 1) (ok' (nat 0)) (nat 2)))) (cons aund (cons (ar (rc (cptr (nat 2) (ok' (nat 0)) (nat 2)))) (cons aund (cons aund (cons aund (cons aund (cons (ar (rc (csl (nat 0) (ok' (nat 0)) (szs hole) (nat 2) hole))) (cons (ar (rc (cf (fi .i64 hole)))) (cons (ar (rc (cf (fi .i64 hole)))) (cons aund (cons aund (cons aund (cons aund (cons aund (cons aund (cons aund (cons aund (cons aund (cons aund (cons aund (cons aund (cons aund (cons aund (cons aund nil))))))))))))))))))))))))))) (cons (some' (cons (ga (szs hole) (cons (ki .i64 hole) (cons (ki .u64 hole) nil))) nil)) (cons (some' (cons (gc (cf (fi .i64 (int 0)))) (cons (gc (cf (fi .u64 (int 0)))) nil))) (cons (some' (cons (gc (cf (fi .i64 hole))) (cons (gc (cf (fi .u64 hole))) nil))) nil))) nil)
end
theorem q_wide_Add_0 : ∀ b, (Q_wide_Add_0).em b = St.mk [AV.und, AV.und, AV.r (RV.c (CV.ptr 1 (Off.k 0) 2)), AV.und, AV.r (RV.c (CV.ptr 2 (Off.k 0) 2)), AV.und, AV.und, AV.und, AV.und, AV.r (RV.c (CV.sl 0 (Off.k 0) (Sz.s b.1.2.2.2.2.2.2.2.2.2.1.2.2.1) 2 b.1.2.2.2.2.2.2.2.2.2.1.2.2.2.2)), AV.r (RV.c (CV.f (FV.i IntKind.i64 b.1.2.2.2.2.2.2.2.2.2.2.1))),
  AV.r (RV.c (CV.f (FV.i IntKind.i64 b.1.2.2.2.2.2.2.2.2.2.2.2.1))), AV.und, AV.und, AV.und, AV.und, AV.und, AV.und, AV.und, AV.und, AV.und, AV.und, AV.und, AV.und, AV.und, AV.und, AV.und] [some [Sg.a (Sz.s b.2.1.1.1.1) [Col.i IntKind.i64 b.2.1.1.1.2.1, Col.i IntKind.u64 b.2.1.1.1.2.2.1]], some [Sg.c (CV.f (FV.i IntKind.i64 0)),
  Sg.c (CV.f (FV.i IntKind.u64 0))], some [Sg.c (CV.f (FV.i IntKind.i64 b.2.1.2.2.1.1)), Sg.c (CV.f (FV.i IntKind.u64 b.2.1.2.2.1.2.1))]] [] := fun b => by kernel_rfl
def R_wide_Add_0 (l : ∀ {ρ : Type}, (Nat × Bool × Int × Int × Nat × (Nat → Int) × (Nat → Int) × Int × Int) → ((Nat × (Nat → Int) × (Nat → Int) ⊕ Nat × Bool × Int × Int × Bool × Nat × (Nat → Int) × (Nat → Int) × Int × Int) → Option ρ) → Option ρ) {ρ : Type} (s : St) (K : AX → St → Option ρ) : Option ρ := ((Q_wide_Add_0).rd s).bind fun b => l (b.1.2.2.2.2.2.2.2.2.2.1.2.2.1,
  b.1.2.2.2.2.2.2.2.2.2.1.2.2.2.2, b.1.2.2.2.2.2.2.2.2.2.2.1, b.1.2.2.2.2.2.2.2.2.2.2.2.1, b.2.1.1.1.1, b.2.1.1.1.2.1, b.2.1.1.1.2.2.1, b.2.1.2.2.1.1, b.2.1.2.2.1.2.1) (Sum.elim (fun d => K (AX.ret) (St.mk [AV.und, AV.und, AV.r (RV.c (CV.ptr 1 (Off.k 0) 2)), AV.r (RV.c (CV.f (FV.b false))), AV.und, AV.und,
  AV.und, AV.und, AV.und, AV.und, AV.und, AV.und, AV.und, AV.und, AV.und, AV.und, AV.und, AV.und, AV.und, AV.und, AV.und, AV.und, AV.und, AV.und, AV.und, AV.und, AV.und] [some [Sg.a (Sz.s d.1) [Col.i IntKind.i64 d.2.1, Col.i IntKind.u64 d.2.2]], some [Sg.c (CV.f (FV.i IntKind.i64 0)), Sg.c (CV.f (FV.i IntKind.u64 0))]] [])) (fun d => K (AX.ex 0) (St.mk [AV.und,
  AV.und, AV.r (RV.c (CV.ptr 1 (Off.k 0) 2)), AV.und, AV.r (RV.c (CV.ptr 2 (Off.k 0) 2)), AV.und, AV.und, AV.und, AV.und, AV.r (RV.c (CV.sl 0 (Off.k 0) (Sz.s d.1) 2 d.2.1)), AV.r (RV.c (CV.f (FV.i IntKind.i64 d.2.2.1))), AV.r (RV.c (CV.f (FV.i IntKind.i64 d.2.2.2.1))), AV.r (RV.c (CV.f (FV.b d.2.2.2.2.1))),
  AV.und, AV.und, AV.und, AV.und, AV.und, AV.und, AV.und, AV.und, AV.und, AV.und, AV.und, AV.und, AV.und, AV.und] [some [Sg.a (Sz.s d.2.2.2.2.2.1) [Col.i IntKind.i64 d.2.2.2.2.2.2.1, Col.i IntKind.u64 d.2.2.2.2.2.2.2.1]], some [Sg.c (CV.f (FV.i IntKind.i64 0)),
  Sg.c (CV.f (FV.i IntKind.u64 0))], some [Sg.c (CV.f (FV.i IntKind.i64 d.2.2.2.2.2.2.2.2.1)), Sg.c (CV.f (FV.i IntKind.u64 d.2.2.2.2.2.2.2.2.2))]] [])))
theorem ms_wide_Add_0 {ρ σ : Type} (g_wide_add : Int → Int → Int → Int → Option (Int × Int × Bool))   (q : ρ → Option σ) (x0 : Nat) (x1 : Bool) (x2 : Int) (x3 : Int) (x4 : Nat) (x5 : Nat → Int) (x6 : Nat → Int) (x7 : Int) (x8 : Int) (c : (Nat × Bool × Int × Int × Nat × (Nat → Int) × (Nat → Int) × Int × Int) → Option ρ) (x : (Nat × (Nat → Int) × (Nat → Int) ⊕ Nat × Bool × Int × Int × Bool × Nat × (Nat → Int) × (Nat → Int) × Int × Int) → Option ρ) : (S_wide_Add_0 g_wide_add  x0 x1 x2 x3 x4 x5 x6 x7 x8 c x).bind q = S_wide_Add_0 g_wide_add  x0 x1 x2 x3 x4 x5 x6 x7 x8 (fun d => (c d).bind q) (fun d => (x d).bind q) := by
  simp only [S_wide_Add_0, bnd_cond, bnd_bind, bnd_none, bnd_sum]
def L_wide_Add_0 {ρ : Type} (d : Nat × Bool × Int × Int × Nat × (Nat → Int) × (Nat → Int) × Int × Int) (k : (Nat × (Nat → Int) × (Nat → Int) ⊕ Nat × Bool × Int × Int × Bool × Nat × (Nat → Int) × (Nat → Int) × Int × Int) → Option ρ) : Option ρ := loopK (fun d c x => S_wide_Add_0 f_wide_add  d.1 d.2.1 d.2.2.1 d.2.2.2.1 d.2.2.2.2.1 d.2.2.2.2.2.1 d.2.2.2.2.2.2.1 d.2.2.2.2.2.2.2.1 d.2.2.2.2.2.2.2.2 c x) 200 d k
theorem mL_wide_Add_0 {ρ σ : Type} (q : ρ → Option σ) (d : Nat × Bool × Int × Int × Nat × (Nat → Int) × (Nat → Int) × Int × Int) (k : (Nat × (Nat → Int) × (Nat → Int) ⊕ Nat × Bool × Int × Int × Bool × Nat × (Nat → Int) × (Nat → Int) × Int × Int) → Option ρ) : (L_wide_Add_0 d k).bind q = L_wide_Add_0 d fun x => (k x).bind q := loopK_bind q (fun d c x => ms_wide_Add_0 f_wide_add q d.1 d.2.1 d.2.2.1 d.2.2.2.1 d.2.2.2.2.1 d.2.2.2.2.2.1 d.2.2.2.2.2.2.1 d.2.2.2.2.2.2.2.1 d.2.2.2.2.2.2.2.2 c x) k _ d
theorem ds_wide_Add_0 {ρ : Type} (g_wide_add : Int → Int → Int → Int → Option (Int × Int × Bool)) (l_0 : ∀ {ρ : Type}, (Nat × Bool × Int × Int × Nat × (Nat → Int) × (Nat → Int) × Int × Int) → ((Nat × (Nat → Int) × (Nat → Int) ⊕ Nat × Bool × Int × Int × Bool × Nat × (Nat → Int) × (Nat → Int) × Int × Int) →
  Option ρ) → Option ρ) (x0 : Nat) (x1 : Bool) (x2 : Int) (x3 : Int) (x4 : Nat) (x5 : Nat → Int) (x6 : Nat → Int) (x7 : Int) (x8 : Int) (c : St → Option ρ) (K : AX → St → Option ρ) : runC Try.prog (envOf [(81, F_wide_add g_wide_add)]) ⟨[⟨3, [0, 1, 3, 5, 6, 7, 8, 12, 13, 14, 15, 16, 17, 18, 19, 20,
  21, 22, 23, 24, 25, 26], []⟩], [⟨3, 1, @R_wide_Add_0 (@l_0)⟩], [], [], (some ⟨0, [0, 1, 4, 5, 6, 7, 8, 9, 10, 11, 12, 13, 14, 15, 16, 17, 18, 19, 20, 21, 22, 23, 24, 25, 26], []⟩)⟩ (tmpsOf Try.prog 61) 1 200 (loopIn Try.prog 61 3) (St.mk [AV.und, AV.und, AV.r (RV.c (CV.ptr 1 (Off.k 0) 2)),
  AV.und, AV.r (RV.c (CV.ptr 2 (Off.k 0) 2)), AV.und, AV.und, AV.und, AV.und, AV.r (RV.c (CV.sl 0 (Off.k 0) (Sz.s x0) 2 x1)), AV.r (RV.c (CV.f (FV.i IntKind.i64 x2))), AV.r (RV.c (CV.f (FV.i IntKind.i64 x3))), AV.und, AV.und, AV.und, AV.und, AV.und, AV.und, AV.und, AV.und, AV.und, AV.und, AV.und, AV.und,
  AV.und, AV.und, AV.und] [some [Sg.a (Sz.s x4) [Col.i IntKind.i64 x5, Col.i IntKind.u64 x6]], some [Sg.c (CV.f (FV.i IntKind.i64 0)), Sg.c (CV.f (FV.i IntKind.u64 0))], some [Sg.c (CV.f (FV.i IntKind.i64 x7)), Sg.c (CV.f (FV.i IntKind.u64 x8))]] []) (next (fun t => t.head 1 ⟨[⟨3, [0, 1, 3, 5, 6, 7, 8,
  12, 13, 14, 15, 16, 17, 18, 19, 20, 21, 22, 23, 24, 25, 26], []⟩], [⟨3, 1, @R_wide_Add_0 (@l_0)⟩], [], [], (some ⟨0, [0, 1, 4, 5, 6, 7, 8, 9, 10, 11, 12, 13, 14, 15, 16, 17, 18, 19, 20, 21, 22, 23, 24, 25, 26], []⟩)⟩ (loopIn Try.prog 61 3)) c K) = S_wide_Add_0 g_wide_add x0 x1 x2 x3 x4 x5 x6 x7 x8 (fun d => c (St.mk [AV.und,
  AV.und, AV.r (RV.c (CV.ptr 1 (Off.k 0) 2)), AV.und, AV.r (RV.c (CV.ptr 2 (Off.k 0) 2)), AV.und, AV.und, AV.und, AV.und, AV.r (RV.c (CV.sl 0 (Off.k 0) (Sz.s d.1) 2 d.2.1)), AV.r (RV.c (CV.f (FV.i IntKind.i64 d.2.2.1))), AV.r (RV.c (CV.f (FV.i IntKind.i64 d.2.2.2.1))), AV.und, AV.und,
  AV.und, AV.und, AV.und, AV.und, AV.und, AV.und, AV.und, AV.und, AV.und, AV.und, AV.und, AV.und, AV.und] [some [Sg.a (Sz.s d.2.2.2.2.1) [Col.i IntKind.i64 d.2.2.2.2.2.1, Col.i IntKind.u64 d.2.2.2.2.2.2.1]], some [Sg.c (CV.f (FV.i IntKind.i64 0)), Sg.c (CV.f (FV.i IntKind.u64 0))],
  some [Sg.c (CV.f (FV.i IntKind.i64 d.2.2.2.2.2.2.2.1)), Sg.c (CV.f (FV.i IntKind.u64 d.2.2.2.2.2.2.2.2))]] [])) (Sum.elim (fun d => K (AX.ret) (St.mk [AV.und, AV.und, AV.r (RV.c (CV.ptr 1 (Off.k 0) 2)), AV.r (RV.c (CV.f (FV.b false))), AV.und, AV.und, AV.und, AV.und, AV.und,
  AV.und, AV.und, AV.und, AV.und, AV.und, AV.und, AV.und, AV.und, AV.und, AV.und, AV.und, AV.und, AV.und, AV.und, AV.und, AV.und, AV.und, AV.und] [some [Sg.a (Sz.s d.1) [Col.i IntKind.i64 d.2.1, Col.i IntKind.u64 d.2.2]], some [Sg.c (CV.f (FV.i IntKind.i64 0)), Sg.c (CV.f (FV.i IntKind.u64 0))]] [])) (fun d => K (AX.ex 0) (St.mk [AV.und,
  AV.und, AV.r (RV.c (CV.ptr 1 (Off.k 0) 2)), AV.und, AV.r (RV.c (CV.ptr 2 (Off.k 0) 2)), AV.und, AV.und, AV.und, AV.und, AV.r (RV.c (CV.sl 0 (Off.k 0) (Sz.s d.1) 2 d.2.1)), AV.r (RV.c (CV.f (FV.i IntKind.i64 d.2.2.1))), AV.r (RV.c (CV.f (FV.i IntKind.i64 d.2.2.2.1))), AV.r (RV.c (CV.f (FV.b d.2.2.2.2.1))),
  AV.und, AV.und, AV.und, AV.und, AV.und, AV.und, AV.und, AV.und, AV.und, AV.und, AV.und, AV.und, AV.und, AV.und] [some [Sg.a (Sz.s d.2.2.2.2.2.1) [Col.i IntKind.i64 d.2.2.2.2.2.2.1, Col.i IntKind.u64 d.2.2.2.2.2.2.2.1]], some [Sg.c (CV.f (FV.i IntKind.i64 0)),
  Sg.c (CV.f (FV.i IntKind.u64 0))], some [Sg.c (CV.f (FV.i IntKind.i64 d.2.2.2.2.2.2.2.2.1)), Sg.c (CV.f (FV.i IntKind.u64 d.2.2.2.2.2.2.2.2.2))]] []))) := by kernel_rfl
theorem it_wide_Add_0 {ρ : Type} (x0 : Nat) (x1 : Bool) (x2 : Int) (x3 : Int) (x4 : Nat) (x5 : Nat → Int) (x6 : Nat → Int) (x7 : Int) (x8 : Int) (K : AX → St → Option ρ) : iter (fun t => t.head 1 ⟨[⟨3, [0, 1, 3, 5, 6, 7, 8, 12, 13, 14, 15, 16, 17, 18, 19, 20, 21, 22, 23, 24, 25, 26], []⟩], [⟨3, 1, @R_wide_Add_0 (@L_wide_Add_0)⟩],
  [], [], (some ⟨0, [0, 1, 4, 5, 6, 7, 8, 9, 10, 11, 12, 13, 14, 15, 16, 17, 18, 19, 20, 21, 22, 23, 24, 25, 26], []⟩)⟩ (loopIn Try.prog 61 3)) (runC Try.prog (envOf [(81, F_wide_add f_wide_add)]) ⟨[⟨3, [0, 1, 3, 5, 6, 7, 8, 12, 13, 14, 15, 16, 17, 18, 19, 20, 21, 22, 23, 24, 25, 26], []⟩], [⟨3,
  1, @R_wide_Add_0 (@L_wide_Add_0)⟩], [], [], (some ⟨0, [0, 1, 4, 5, 6, 7, 8, 9, 10, 11, 12, 13, 14, 15, 16, 17, 18, 19, 20, 21, 22, 23, 24, 25, 26], []⟩)⟩ (tmpsOf Try.prog 61) 1 200 (loopIn Try.prog 61 3)) K 200 (St.mk [AV.und, AV.und, AV.r (RV.c (CV.ptr 1 (Off.k 0) 2)), AV.und, AV.r (RV.c (CV.ptr 2 (Off.k 0) 2)),
  AV.und, AV.und, AV.und, AV.und, AV.r (RV.c (CV.sl 0 (Off.k 0) (Sz.s x0) 2 x1)), AV.r (RV.c (CV.f (FV.i IntKind.i64 x2))), AV.r (RV.c (CV.f (FV.i IntKind.i64 x3))), AV.und, AV.und, AV.und, AV.und, AV.und, AV.und, AV.und, AV.und, AV.und, AV.und, AV.und, AV.und, AV.und, AV.und, AV.und] [some [Sg.a (Sz.s x4) [Col.i IntKind.i64 x5,
  Col.i IntKind.u64 x6]], some [Sg.c (CV.f (FV.i IntKind.i64 0)), Sg.c (CV.f (FV.i IntKind.u64 0))], some [Sg.c (CV.f (FV.i IntKind.i64 x7)), Sg.c (CV.f (FV.i IntKind.u64 x8))]] []) = L_wide_Add_0 (x0, x1, x2, x3, x4, x5, x6, x7, x8) (Sum.elim (fun d => K (AX.ret) (St.mk [AV.und, AV.und, AV.r (RV.c (CV.ptr 1 (Off.k 0) 2)),
  AV.r (RV.c (CV.f (FV.b false))), AV.und, AV.und, AV.und, AV.und, AV.und, AV.und, AV.und, AV.und, AV.und, AV.und, AV.und, AV.und, AV.und, AV.und, AV.und, AV.und, AV.und, AV.und, AV.und, AV.und, AV.und, AV.und, AV.und] [some [Sg.a (Sz.s d.1) [Col.i IntKind.i64 d.2.1, Col.i IntKind.u64 d.2.2]],
  some [Sg.c (CV.f (FV.i IntKind.i64 0)), Sg.c (CV.f (FV.i IntKind.u64 0))]] [])) (fun d => K (AX.ex 0) (St.mk [AV.und, AV.und, AV.r (RV.c (CV.ptr 1 (Off.k 0) 2)), AV.und, AV.r (RV.c (CV.ptr 2 (Off.k 0) 2)), AV.und, AV.und, AV.und, AV.und, AV.r (RV.c (CV.sl 0 (Off.k 0) (Sz.s d.1) 2 d.2.1)), AV.r (RV.c (CV.f (FV.i IntKind.i64 d.2.2.1))),
  AV.r (RV.c (CV.f (FV.i IntKind.i64 d.2.2.2.1))), AV.r (RV.c (CV.f (FV.b d.2.2.2.2.1))), AV.und, AV.und, AV.und, AV.und, AV.und, AV.und, AV.und, AV.und, AV.und, AV.und, AV.und, AV.und, AV.und, AV.und] [some [Sg.a (Sz.s d.2.2.2.2.2.1) [Col.i IntKind.i64 d.2.2.2.2.2.2.1,
  Col.i IntKind.u64 d.2.2.2.2.2.2.2.1]], some [Sg.c (CV.f (FV.i IntKind.i64 0)), Sg.c (CV.f (FV.i IntKind.u64 0))], some [Sg.c (CV.f (FV.i IntKind.i64 d.2.2.2.2.2.2.2.2.1)), Sg.c (CV.f (FV.i IntKind.u64 d.2.2.2.2.2.2.2.2.2))]] []))) := iter_loopX (emb := fun (d : Nat ×
  Bool × Int × Int × Nat × (Nat → Int) × (Nat → Int) × Int × Int) => St.mk [AV.und, AV.und, AV.r (RV.c (CV.ptr 1 (Off.k 0) 2)), AV.und, AV.r (RV.c (CV.ptr 2 (Off.k 0) 2)), AV.und, AV.und, AV.und, AV.und, AV.r (RV.c (CV.sl 0 (Off.k 0) (Sz.s d.1) 2 d.2.1)), AV.r (RV.c (CV.f (FV.i IntKind.i64 d.2.2.1))),
  AV.r (RV.c (CV.f (FV.i IntKind.i64 d.2.2.2.1))), AV.und, AV.und, AV.und, AV.und, AV.und, AV.und, AV.und, AV.und, AV.und, AV.und, AV.und, AV.und, AV.und, AV.und, AV.und] [some [Sg.a (Sz.s d.2.2.2.2.1) [Col.i IntKind.i64 d.2.2.2.2.2.1, Col.i IntKind.u64 d.2.2.2.2.2.2.1]],
  some [Sg.c (CV.f (FV.i IntKind.i64 0)), Sg.c (CV.f (FV.i IntKind.u64 0))], some [Sg.c (CV.f (FV.i IntKind.i64 d.2.2.2.2.2.2.2.1)), Sg.c (CV.f (FV.i IntKind.u64 d.2.2.2.2.2.2.2.2))]] []) (step := fun d c x => S_wide_Add_0 f_wide_add d.1 d.2.1 d.2.2.1 d.2.2.2.1 d.2.2.2.2.1 d.2.2.2.2.2.1 d.2.2.2.2.2.2.1 d.2.2.2.2.2.2.2.1 d.2.2.2.2.2.2.2.2 c x) (kx := (Sum.elim (fun d => K (AX.ret) (St.mk [AV.und,
  AV.und, AV.r (RV.c (CV.ptr 1 (Off.k 0) 2)), AV.r (RV.c (CV.f (FV.b false))), AV.und, AV.und, AV.und, AV.und, AV.und, AV.und, AV.und, AV.und, AV.und, AV.und, AV.und, AV.und, AV.und, AV.und, AV.und, AV.und, AV.und, AV.und, AV.und, AV.und, AV.und, AV.und, AV.und] [some [Sg.a (Sz.s d.1) [Col.i IntKind.i64 d.2.1,
  Col.i IntKind.u64 d.2.2]], some [Sg.c (CV.f (FV.i IntKind.i64 0)), Sg.c (CV.f (FV.i IntKind.u64 0))]] [])) (fun d => K (AX.ex 0) (St.mk [AV.und, AV.und, AV.r (RV.c (CV.ptr 1 (Off.k 0) 2)), AV.und, AV.r (RV.c (CV.ptr 2 (Off.k 0) 2)), AV.und, AV.und, AV.und, AV.und, AV.r (RV.c (CV.sl 0 (Off.k 0) (Sz.s d.1) 2 d.2.1)),
  AV.r (RV.c (CV.f (FV.i IntKind.i64 d.2.2.1))), AV.r (RV.c (CV.f (FV.i IntKind.i64 d.2.2.2.1))), AV.r (RV.c (CV.f (FV.b d.2.2.2.2.1))), AV.und, AV.und, AV.und, AV.und, AV.und, AV.und, AV.und, AV.und, AV.und, AV.und, AV.und, AV.und, AV.und, AV.und] [some [Sg.a (Sz.s d.2.2.2.2.2.1) [Col.i IntKind.i64 d.2.2.2.2.2.2.1,
  Col.i IntKind.u64 d.2.2.2.2.2.2.2.1]], some [Sg.c (CV.f (FV.i IntKind.i64 0)), Sg.c (CV.f (FV.i IntKind.u64 0))], some [Sg.c (CV.f (FV.i IntKind.i64 d.2.2.2.2.2.2.2.2.1)), Sg.c (CV.f (FV.i IntKind.u64 d.2.2.2.2.2.2.2.2.2))]] [])))) (fun d c => ds_wide_Add_0 f_wide_add (@L_wide_Add_0) d.1 d.2.1 d.2.2.1 d.2.2.2.1 d.2.2.2.2.1 d.2.2.2.2.2.1 d.2.2.2.2.2.2.1 d.2.2.2.2.2.2.2.1 d.2.2.2.2.2.2.2.2 c K) 200 (x0,
  x1, x2, x3, x4, x5, x6, x7, x8)
theorem so_wide_Add_0 [Amb] : ∀ kk, SumOK Try.prog (envOf [(81, F_wide_add f_wide_add)]) ⟨[⟨3, [0, 1, 3, 5, 6, 7, 8, 12, 13, 14, 15, 16, 17, 18, 19, 20, 21, 22, 23, 24, 25, 26], []⟩], [⟨3, 1, @R_wide_Add_0 (@L_wide_Add_0)⟩], [], [], (some ⟨0, [0, 1, 4, 5, 6, 7, 8, 9, 10, 11, 12, 13, 14, 15, 16,
  17, 18, 19, 20, 21, 22, 23, 24, 25, 26], []⟩)⟩ (tmpsOf Try.prog 61) kk 200 (loopIn Try.prog 61 3) := SumOK.of (id := 3) (k0 := 1) (run := @R_wide_Add_0 (@L_wide_Add_0)) (by kernel_rfl) fun s K r hr => by
    unfold R_wide_Add_0 at hr
    obtain ⟨b, hb, hr1⟩ := Option.bind_eq_some_iff.1 hr
    have e := ((Q_wide_Add_0).ok s b hb).trans (q_wide_Add_0 b)
    subst e
    exact ⟨200, (it_wide_Add_0 b.1.2.2.2.2.2.2.2.2.2.1.2.2.1 b.1.2.2.2.2.2.2.2.2.2.1.2.2.2.2 b.1.2.2.2.2.2.2.2.2.2.2.1 b.1.2.2.2.2.2.2.2.2.2.2.2.1 b.2.1.1.1.1 b.2.1.1.1.2.1 b.2.1.1.1.2.2.1 b.2.1.2.2.1.1 b.2.1.2.2.1.2.1 K).trans hr1⟩
def K_wide_Add {ρ : Type} (g_wide_add : Int → Int → Int → Int → Option (Int × Int × Bool)) (l_0 : ∀ {ρ : Type}, (Nat × Bool × Int × Int × Nat × (Nat → Int) × (Nat → Int) × Int × Int) → ((Nat × (Nat → Int) × (Nat → Int) ⊕ Nat × Bool × Int × Int × Bool × Nat × (Nat → Int) × (Nat → Int) × Int × Int) → Option ρ) →
  Option ρ) (x0 : Nat) (x1 : Nat → Int) (x2 : Nat → Int) (w0 : Bool) (k : (Int × Int × Bool) → Option ρ) : Option ρ := l_0 (x0, w0, Int.ofNat x0, 0, x0, x1, x2, 0, 0) (Sum.elim (fun (d : Nat × (Nat → Int) × (Nat → Int)) => k (0, 0, false)) fun (d : Nat × Bool × Int × Int × Bool × Nat × (Nat → Int) × (Nat →
  Int) × Int × Int) => k (d.2.2.2.2.2.2.2.2.1, d.2.2.2.2.2.2.2.2.2, true))
def f_wide_Add (x0 : Nat) (x1 : Nat → Int) (x2 : Nat → Int) (w0 : Bool) : Option (Int × Int × Bool) := K_wide_Add f_wide_add (@L_wide_Add_0) x0 x1 x2 w0 some
section
open Go.Ab.Rdr
def QA_wide_Add := ((pair (cons (ar (rc (csl (nat 0) (ok' (nat 0)) (szs hole) (nat 2) hole))) nil) (cons (cons (ga (szs hole) (cons (ki .i64 hole) (cons (ki .u64 hole) nil))) nil) nil)) : Rdr (List AV × List Blk) _)
end
def F0_wide_Add (f : (Nat) → (Nat → Int) → (Nat → Int) → (Bool) → Option (Int × Int × Bool)) : Sem1 := fun args h => match (QA_wide_Add).rd (args, h) with
  | some b => .test (Nat.beq b.2.1.1.1 b.1.1.2.2.1) (.opt (f b.1.1.2.2.1 b.2.1.1.2.1 b.2.1.1.2.2.1 b.1.1.2.2.2.2) fun (d : Int × Int × Bool) => .leaf (Res.mk (AV.tup [RV.agg [Sg.c (CV.f (FV.i IntKind.i64 d.1)), Sg.c (CV.f (FV.i IntKind.u64 d.2.1))], RV.c (CV.f (FV.b d.2.2))]) [Ch.keep] [])) .fail
  | none => .fail
def F_wide_Add (f : (Nat) → (Nat → Int) → (Nat → Int) → (Bool) → Option (Int × Int × Bool)) : Sem1 := (nilF 0 [.i .i64, .i .u64] (F0_wide_Add f))
theorem d_wide_Add (g_wide_add : Int → Int → Int → Int → Option (Int × Int × Bool)) (l_0 : ∀ {ρ : Type}, (Nat × Bool × Int × Int × Nat × (Nat → Int) × (Nat → Int) × Int × Int) → ((Nat × (Nat → Int) × (Nat → Int) ⊕ Nat × Bool × Int × Int × Bool × Nat × (Nat → Int) × (Nat → Int) × Int × Int) → Option ρ) →
  Option ρ) (x0 : Nat) (x1 : Nat → Int) (x2 : Nat → Int) (w0 : Bool) : den Try.prog (envOf [(81, F_wide_add g_wide_add)]) ⟨[⟨3, [0, 1, 3, 5, 6, 7, 8, 12, 13, 14, 15, 16, 17, 18, 19, 20, 21, 22, 23, 24, 25, 26], []⟩], [⟨3, 1, @R_wide_Add_0 (@l_0)⟩], [], [], (some ⟨0, [0, 1, 4, 5, 6, 7, 8, 9, 10, 11,
  12, 13, 14, 15, 16, 17, 18, 19, 20, 21, 22, 23, 24, 25, 26], []⟩)⟩ 200 61 [.r (.c (.sl 0 (.k 0) (.s x0) 2 w0))] [[.a (.s x0) [.i .i64 x1, .i .u64 x2]]] = K_wide_Add g_wide_add (@l_0) x0 x1 x2 w0 (fun (d : Int × Int × Bool) => some (Res.mk (AV.tup [RV.agg [Sg.c (CV.f (FV.i IntKind.i64 d.1)), Sg.c (CV.f (FV.i IntKind.u64 d.2.1))],
  RV.c (CV.f (FV.b d.2.2))]) [Ch.keep] [])) := by kernel_rfl
theorem m_wide_Add {ρ σ : Type} (q : ρ → Option σ) (g_wide_add : Int → Int → Int → Int → Option (Int × Int × Bool)) (l_0 : ∀ {ρ : Type}, (Nat × Bool × Int × Int × Nat × (Nat → Int) × (Nat → Int) × Int × Int) → ((Nat × (Nat → Int) × (Nat → Int) ⊕ Nat × Bool × Int × Int × Bool × Nat × (Nat → Int) × (Nat → Int) × Int × Int) → Option ρ) → Option ρ) (hl_0 : ∀ {ρ σ : Type} (q : ρ → Option σ) (d : Nat × Bool × Int × Int × Nat × (Nat → Int) × (Nat → Int) × Int × Int) (k : (Nat × (Nat → Int) × (Nat → Int) ⊕ Nat × Bool × Int × Int × Bool × Nat × (Nat → Int) × (Nat → Int) × Int × Int) → Option ρ), (l_0 d k).bind q = l_0 d fun x => (k x).bind q) (x0 : Nat) (x1 : Nat → Int) (x2 : Nat → Int) (w0 : Bool) (k : (Int × Int × Bool) → Option ρ) : (K_wide_Add g_wide_add (@l_0) x0 x1 x2 w0 k).bind q = K_wide_Add g_wide_add (@l_0) x0 x1 x2 w0 (fun d => (k d).bind q) := by
  simp only [K_wide_Add, bnd_cond, bnd_bind, bnd_none, bnd_sum, hl_0]
theorem qa_wide_Add : ∀ b, (QA_wide_Add).em b = ([.r (.c (.sl 0 (.k 0) (.s b.1.1.2.2.1) 2 b.1.1.2.2.2.2))], [[.a (.s b.2.1.1.1) [.i .i64 b.2.1.1.2.1, .i .u64 b.2.1.1.2.2.1]]]) := fun b => by kernel_rfl
theorem e_wide_Add {f : (Nat) → (Nat → Int) → (Nat → Int) → (Bool) → Option (Int × Int × Bool)} {args : List AV} {h : List Blk} {r : Res} (hr : (F0_wide_Add f args h).eval = some r) : ∃ x0 x1 x2 w0, args = [.r (.c (.sl 0 (.k 0) (.s x0) 2 w0))] ∧ h = [[.a (.s x0) [.i .i64 x1, .i .u64 x2]]] ∧ (f x0 x1 x2 w0).bind (fun (d : Int × Int × Bool) => some (Res.mk (AV.tup [RV.agg [Sg.c (CV.f (FV.i IntKind.i64 d.1)), Sg.c (CV.f (FV.i IntKind.u64 d.2.1))], RV.c (CV.f (FV.b d.2.2))]) [Ch.keep] [])) = some r := by
  unfold F0_wide_Add at hr
  split at hr
  · rename_i b hb
    have e := ((QA_wide_Add).ok _ _ hb).trans (qa_wide_Add b)
    obtain ⟨he, hr1⟩ := test_eval hr
    clear hr
    have hr := hr1
    clear hr1
    rw [Nat.eq_of_beq_eq_true he] at e
    clear he
    rw [opt_eval2] at hr
    exact ⟨b.1.1.2.2.1, b.2.1.1.2.1, b.2.1.1.2.2.1, b.1.1.2.2.2.2, (Prod.mk.inj e).1, (Prod.mk.inj e).2, hr⟩
  · cases hr
theorem n_wide_Add {σ : Type} (q : (Int × Int × Bool) → Option σ) (x0 : Nat) (x1 : Nat → Int) (x2 : Nat → Int) (w0 : Bool) : (f_wide_Add x0 x1 x2 w0).bind q = K_wide_Add f_wide_add (@L_wide_Add_0) x0 x1 x2 w0 q := by
  unfold f_wide_Add
  exact m_wide_Add q f_wide_add (@L_wide_Add_0) (fun q d k => mL_wide_Add_0 q d k) x0 x1 x2 w0 some
theorem s_wide_Add [Amb] : Sound Try.prog 61 (F_wide_Add f_wide_Add) := Sound.nil 0 [.i .i64, .i .u64] <| (inl_sums (l := [(81, F_wide_add f_wide_add)]) (.cons s_wide_add (.nil _)) mixed (hs := ⟨[⟨3, [0, 1, 3, 5, 6, 7, 8, 12, 13, 14, 15, 16, 17, 18, 19, 20, 21, 22, 23, 24, 25, 26], []⟩], [⟨3,
  1, @R_wide_Add_0 (@L_wide_Add_0)⟩], [], [], (some ⟨0, [0, 1, 4, 5, 6, 7, 8, 9, 10, 11, 12, 13, 14, 15, 16, 17, 18, 19, 20, 21, 22, 23, 24, 25, 26], []⟩)⟩) (lf := 200) (Sums.by (l := [loopIn Try.prog 61 3]) (lj := []) (by kernel_rfl) ⟨so_wide_Add_0, trivial⟩ (by kernel_rfl) trivial) (by kernel_rfl)).by (F := F0_wide_Add f_wide_Add) fun args b r hr => by
  obtain ⟨x0, x1, x2, w0, rfl, rfl, hr1⟩ := e_wide_Add hr
  exact inl_eval ((d_wide_Add f_wide_add (@L_wide_Add_0) x0 x1 x2 w0).trans ((n_wide_Add (fun (d : Int × Int × Bool) => some (Res.mk (AV.tup [RV.agg [Sg.c (CV.f (FV.i IntKind.i64 d.1)), Sg.c (CV.f (FV.i IntKind.u64 d.2.1))], RV.c (CV.f (FV.b d.2.2))]) [Ch.keep] [])) x0 x1 x2 w0).symm.trans hr1))

def S___fx_Acc__Add_0 {ρ : Type} (g___fx_Acc__Sat : Int → Bool → Option (Int × Bool)) (g_wide_Of : Int → Option (Int × Int)) (g_wide_Add : Nat → (Nat → Int) → (Nat → Int) → Bool → Option (Int × Int × Bool)) (g_wide_Round : Int → Int → Int → Option (Int × Bool)) (g___fx_Acc__end : Int → Bool → Bool →
  Bool → Option (Int × Bool)) (x0 : Nat) (x1 : Bool) (x2 : Int) (x3 : Int) (x4 : Bool) (x5 : Nat) (x6 : Nat → Int) (x7 : Int) (x8 : Int) (c : (Nat × Bool × Int × Int × Bool × Nat × (Nat → Int) × Int × Int) → Option ρ) (x : (Nat × Bool × Int × Int × Bool × Bool × Nat × (Nat → Int) × Int × Int) → Option ρ) : Option ρ := bif decide (x3 < x2) then
  bif inR x3 x0 then Option.bind (g___fx_Acc__Sat (x6 (Int.toNat x3)) x4) fun (d : Int × Bool) => Option.bind (g_wide_Of d.1) fun (d_1 : Int × Int) => Option.bind (g_wide_Add 2 (fun (j : Nat) => bif Nat.beq j 1 then d_1.1 else bif Nat.beq j 0 then x7 else x7) (fun (j : Nat) => bif Nat.beq j 1 then
  d_1.2 else bif Nat.beq j 0 then x8 else x8) true) fun (d_2 : Int × Int × Bool) => c (x0, x1, x2, IntKind.wrap IntKind.i64 (x3 + 1), d.2, x5, x6, d_2.1, d_2.2.1) else none else x (x0, x1, x2, x3, decide (x3 < x2), x4, x5, x6, x7, x8)
section
open Go.Ab.Rdr
def Q___fx_Acc__Add_0 := (st (cons (ar (rc (cptr (nat 0) (ok' (nat 0)) (nat 1)))) (cons aund (cons aund (cons aund (cons aund (cons (ar (rc (cptr (nat 2) (ok' (nat 0)) (nat 2)))) (cons aund (cons aund (cons aund (cons aund (cons (ar (rc (csl (nat 1) (ok' (nat 0)) (szs hole) (nat 1) hole))) (cons (ar (rc (cf (fi .i64 hole)))) (cons (ar (rc (cf (fi .i64 hole)))) (cons aund (cons aund (cons aund (cons aund (cons aund (cons aund (cons aund (cons aund (cons aund (cons aund (cons aund (cons aund (cons aund (cons aund (cons aund (cons aund (cons aund (cons aund (cons aund (cons aund (cons aund (cons aund (cons aund (cons aund (cons aund (cons aund nil))))))))))))))))))))))))))))))))))))))) (cons (some' (cons (gc (cf (fb hole))) nil)) (cons (some' (cons (ga (szs hole) (cons (ki .i64 hole) nil)) nil)) (cons (some' (cons (gc (cf (fi .i64 hole))) (cons (gc (cf (fi .u64 hole))) nil))) nil))) (cons (nat 0) nil))
end
theorem q___fx_Acc__Add_0 : ∀ b, (Q___fx_Acc__Add_0).em b = St.mk [AV.r (RV.c (CV.ptr 0 (Off.k 0) 1)), AV.und, AV.und, AV.und, AV.und, AV.r (RV.c (CV.ptr 2 (Off.k 0) 2)), AV.und, AV.und, AV.und, AV.und, AV.r (RV.c (CV.sl 1 (Off.k 0) (Sz.s b.1.2.2.2.2.2.2.2.2.2.2.1.2.2.1) 1 b.1.2.2.2.2.2.2.2.2.2.2.1.2.2.2.2)),
  AV.r (RV.c (CV.f (FV.i IntKind.i64 b.1.2.2.2.2.2.2.2.2.2.2.2.1))), AV.r (RV.c (CV.f (FV.i IntKind.i64 b.1.2.2.2.2.2.2.2.2.2.2.2.2.1))), AV.und, AV.und, AV.und, AV.und, AV.und, AV.und, AV.und, AV.und, AV.und, AV.und, AV.und, AV.und, AV.und, AV.und, AV.und, AV.und, AV.und, AV.und, AV.und, AV.und, AV.und,
  AV.und, AV.und, AV.und, AV.und, AV.und] [some [Sg.c (CV.f (FV.b b.2.1.1.1))], some [Sg.a (Sz.s b.2.1.2.1.1.1) [Col.i IntKind.i64 b.2.1.2.1.1.2.1]], some [Sg.c (CV.f (FV.i IntKind.i64 b.2.1.2.2.1.1)), Sg.c (CV.f (FV.i IntKind.u64 b.2.1.2.2.1.2.1))]] [0] := fun b => by kernel_rfl
def R___fx_Acc__Add_0 (l : ∀ {ρ : Type}, (Nat × Bool × Int × Int × Bool × Nat × (Nat → Int) × Int × Int) → ((Nat × Bool × Int × Int × Bool × Bool × Nat × (Nat → Int) × Int × Int) → Option ρ) → Option ρ) {ρ : Type} (s : St) (K : AX → St → Option ρ) : Option ρ := ((Q___fx_Acc__Add_0).rd s).bind fun b => l (b.1.2.2.2.2.2.2.2.2.2.2.1.2.2.1,
  b.1.2.2.2.2.2.2.2.2.2.2.1.2.2.2.2, b.1.2.2.2.2.2.2.2.2.2.2.2.1, b.1.2.2.2.2.2.2.2.2.2.2.2.2.1, b.2.1.1.1, b.2.1.2.1.1.1, b.2.1.2.1.1.2.1, b.2.1.2.2.1.1, b.2.1.2.2.1.2.1) (fun d => K (AX.ex 0) (St.mk [AV.r (RV.c (CV.ptr 0 (Off.k 0) 1)), AV.und, AV.und, AV.und, AV.und, AV.r (RV.c (CV.ptr 2 (Off.k 0) 2)),
  AV.und, AV.und, AV.und, AV.und, AV.r (RV.c (CV.sl 1 (Off.k 0) (Sz.s d.1) 1 d.2.1)), AV.r (RV.c (CV.f (FV.i IntKind.i64 d.2.2.1))), AV.r (RV.c (CV.f (FV.i IntKind.i64 d.2.2.2.1))), AV.r (RV.c (CV.f (FV.b d.2.2.2.2.1))), AV.und, AV.und, AV.und, AV.und, AV.und, AV.und, AV.und,
  AV.und, AV.und, AV.und, AV.und, AV.und, AV.und, AV.und, AV.und, AV.und, AV.und, AV.und, AV.und, AV.und, AV.und, AV.und, AV.und, AV.und, AV.und] [some [Sg.c (CV.f (FV.b d.2.2.2.2.2.1))], some [Sg.a (Sz.s d.2.2.2.2.2.2.1) [Col.i IntKind.i64 d.2.2.2.2.2.2.2.1]],
  some [Sg.c (CV.f (FV.i IntKind.i64 d.2.2.2.2.2.2.2.2.1)), Sg.c (CV.f (FV.i IntKind.u64 d.2.2.2.2.2.2.2.2.2))]] [0]))
theorem ms___fx_Acc__Add_0 {ρ σ : Type} (g___fx_Acc__Sat : Int → Bool → Option (Int × Bool)) (g_wide_Of : Int → Option (Int × Int)) (g_wide_Add : Nat → (Nat → Int) → (Nat → Int) → Bool → Option (Int × Int × Bool)) (g_wide_Round : Int → Int → Int → Option (Int × Bool)) (g___fx_Acc__end : Int → Bool → Bool → Bool → Option (Int × Bool))   (q : ρ → Option σ) (x0 : Nat) (x1 : Bool) (x2 : Int) (x3 : Int) (x4 : Bool) (x5 : Nat) (x6 : Nat → Int) (x7 : Int) (x8 : Int) (c : (Nat × Bool × Int × Int × Bool × Nat × (Nat → Int) × Int × Int) → Option ρ) (x : (Nat × Bool × Int × Int × Bool × Bool × Nat × (Nat → Int) × Int × Int) → Option ρ) : (S___fx_Acc__Add_0 g___fx_Acc__Sat g_wide_Of g_wide_Add g_wide_Round g___fx_Acc__end  x0 x1 x2 x3 x4 x5 x6 x7 x8 c x).bind q = S___fx_Acc__Add_0 g___fx_Acc__Sat g_wide_Of g_wide_Add g_wide_Round g___fx_Acc__end  x0 x1 x2 x3 x4 x5 x6 x7 x8 (fun d => (c d).bind q) (fun d => (x d).bind q) := by
  simp only [S___fx_Acc__Add_0, bnd_cond, bnd_bind, bnd_none, bnd_sum]
def L___fx_Acc__Add_0 {ρ : Type} (d : Nat × Bool × Int × Int × Bool × Nat × (Nat → Int) × Int × Int) (k : (Nat × Bool × Int × Int × Bool × Bool × Nat × (Nat → Int) × Int × Int) → Option ρ) : Option ρ := loopK (fun d c x => S___fx_Acc__Add_0 f___fx_Acc__Sat f_wide_Of f_wide_Add f_wide_Round f___fx_Acc__end  d.1 d.2.1 d.2.2.1 d.2.2.2.1 d.2.2.2.2.1 d.2.2.2.2.2.1 d.2.2.2.2.2.2.1 d.2.2.2.2.2.2.2.1 d.2.2.2.2.2.2.2.2 c x) 200 d k
theorem mL___fx_Acc__Add_0 {ρ σ : Type} (q : ρ → Option σ) (d : Nat × Bool × Int × Int × Bool × Nat × (Nat → Int) × Int × Int) (k : (Nat × Bool × Int × Int × Bool × Bool × Nat × (Nat → Int) × Int × Int) → Option ρ) : (L___fx_Acc__Add_0 d k).bind q = L___fx_Acc__Add_0 d fun x => (k x).bind q := loopK_bind q (fun d c x => ms___fx_Acc__Add_0 f___fx_Acc__Sat f_wide_Of f_wide_Add f_wide_Round f___fx_Acc__end q d.1 d.2.1 d.2.2.1 d.2.2.2.1 d.2.2.2.2.1 d.2.2.2.2.2.1 d.2.2.2.2.2.2.1 d.2.2.2.2.2.2.2.1 d.2.2.2.2.2.2.2.2 c x) k _ d
theorem ds___fx_Acc__Add_0 {ρ : Type} (g___fx_Acc__Sat : Int → Bool → Option (Int × Bool)) (g_wide_Of : Int → Option (Int × Int)) (g_wide_Add : Nat → (Nat → Int) → (Nat → Int) → Bool → Option (Int × Int × Bool)) (g_wide_Round : Int → Int → Int → Option (Int × Bool)) (g___fx_Acc__end : Int → Bool → Bool →
  Bool → Option (Int × Bool)) (l_0 : ∀ {ρ : Type}, (Nat × Bool × Int × Int × Bool × Nat × (Nat → Int) × Int × Int) → ((Nat × Bool × Int × Int × Bool × Bool × Nat × (Nat → Int) × Int × Int) → Option ρ) → Option ρ) (x0 : Nat) (x1 : Bool) (x2 : Int) (x3 : Int) (x4 : Bool) (x5 : Nat) (x6 : Nat → Int) (x7 : Int) (x8 : Int) (c : St →
  Option ρ) (K : AX → St → Option ρ) : runC Try.prog (envOf [(52, F___fx_Acc__Sat g___fx_Acc__Sat), (62, F_wide_Of g_wide_Of), (61, F_wide_Add g_wide_Add), (63, F_wide_Round g_wide_Round), (64, F___fx_Acc__end g___fx_Acc__end)]) ⟨[⟨3, [1, 2, 3, 4, 6, 7, 8, 9, 13, 14, 15, 16, 17,
  18, 19, 20, 21, 22, 23, 24, 25, 26, 27, 28, 29, 30, 31, 32, 33, 34, 35, 36, 37, 38], []⟩], [⟨3, 2, @R___fx_Acc__Add_0 (@l_0)⟩], [0], [], (some ⟨0, [0, 1, 2, 3, 5, 6, 7, 8, 9, 10, 11, 12, 13, 14, 15, 16, 17, 18, 19, 20, 21, 22, 23, 24, 25, 26, 27, 28, 29, 30, 31, 32, 33, 34, 35, 36, 37, 38], []⟩)⟩ (tmpsOf Try.prog 36) 2 200 (loopIn Try.prog 36 3) (St.mk [AV.r (RV.c (CV.ptr 0 (Off.k 0) 1)),
  AV.und, AV.und, AV.und, AV.und, AV.r (RV.c (CV.ptr 2 (Off.k 0) 2)), AV.und, AV.und, AV.und, AV.und, AV.r (RV.c (CV.sl 1 (Off.k 0) (Sz.s x0) 1 x1)), AV.r (RV.c (CV.f (FV.i IntKind.i64 x2))), AV.r (RV.c (CV.f (FV.i IntKind.i64 x3))), AV.und, AV.und, AV.und, AV.und, AV.und, AV.und, AV.und, AV.und, AV.und,
  AV.und, AV.und, AV.und, AV.und, AV.und, AV.und, AV.und, AV.und, AV.und, AV.und, AV.und, AV.und, AV.und, AV.und, AV.und, AV.und, AV.und] [some [Sg.c (CV.f (FV.b x4))], some [Sg.a (Sz.s x5) [Col.i IntKind.i64 x6]], some [Sg.c (CV.f (FV.i IntKind.i64 x7)), Sg.c (CV.f (FV.i IntKind.u64 x8))]] [0]) (next (fun t => t.head 2 ⟨[⟨3,
  [1, 2, 3, 4, 6, 7, 8, 9, 13, 14, 15, 16, 17, 18, 19, 20, 21, 22, 23, 24, 25, 26, 27, 28, 29, 30, 31, 32, 33, 34, 35, 36, 37, 38], []⟩], [⟨3, 2, @R___fx_Acc__Add_0 (@l_0)⟩], [0], [], (some ⟨0, [0, 1, 2, 3, 5, 6, 7, 8, 9, 10, 11, 12, 13, 14, 15, 16, 17, 18, 19, 20, 21, 22, 23, 24, 25, 26, 27, 28, 29, 30,
  31, 32, 33, 34, 35, 36, 37, 38], []⟩)⟩ (loopIn Try.prog 36 3)) c K) = S___fx_Acc__Add_0 g___fx_Acc__Sat g_wide_Of g_wide_Add g_wide_Round g___fx_Acc__end x0 x1 x2 x3 x4 x5 x6 x7 x8 (fun d => c (St.mk [AV.r (RV.c (CV.ptr 0 (Off.k 0) 1)), AV.und, AV.und, AV.und, AV.und, AV.r (RV.c (CV.ptr 2 (Off.k 0) 2)),
  AV.und, AV.und, AV.und, AV.und, AV.r (RV.c (CV.sl 1 (Off.k 0) (Sz.s d.1) 1 d.2.1)), AV.r (RV.c (CV.f (FV.i IntKind.i64 d.2.2.1))), AV.r (RV.c (CV.f (FV.i IntKind.i64 d.2.2.2.1))), AV.und, AV.und, AV.und, AV.und, AV.und, AV.und, AV.und, AV.und, AV.und, AV.und, AV.und, AV.und, AV.und,
  AV.und, AV.und, AV.und, AV.und, AV.und, AV.und, AV.und, AV.und, AV.und, AV.und, AV.und, AV.und, AV.und] [some [Sg.c (CV.f (FV.b d.2.2.2.2.1))], some [Sg.a (Sz.s d.2.2.2.2.2.1) [Col.i IntKind.i64 d.2.2.2.2.2.2.1]], some [Sg.c (CV.f (FV.i IntKind.i64 d.2.2.2.2.2.2.2.1)),
  Sg.c (CV.f (FV.i IntKind.u64 d.2.2.2.2.2.2.2.2))]] [0])) (fun d => K (AX.ex 0) (St.mk [AV.r (RV.c (CV.ptr 0 (Off.k 0) 1)), AV.und, AV.und, AV.und, AV.und, AV.r (RV.c (CV.ptr 2 (Off.k 0) 2)), AV.und, AV.und, AV.und, AV.und, AV.r (RV.c (CV.sl 1 (Off.k 0) (Sz.s d.1) 1 d.2.1)), AV.r (RV.c (CV.f (FV.i IntKind.i64 d.2.2.1))),
  AV.r (RV.c (CV.f (FV.i IntKind.i64 d.2.2.2.1))), AV.r (RV.c (CV.f (FV.b d.2.2.2.2.1))), AV.und, AV.und, AV.und, AV.und, AV.und, AV.und, AV.und, AV.und, AV.und, AV.und, AV.und, AV.und, AV.und, AV.und, AV.und, AV.und, AV.und, AV.und, AV.und, AV.und, AV.und, AV.und, AV.und, AV.und, AV.und] [some [Sg.c (CV.f (FV.b d.2.2.2.2.2.1))],
  some [Sg.a (Sz.s d.2.2.2.2.2.2.1) [Col.i IntKind.i64 d.2.2.2.2.2.2.2.1]], some [Sg.c (CV.f (FV.i IntKind.i64 d.2.2.2.2.2.2.2.2.1)), Sg.c (CV.f (FV.i IntKind.u64 d.2.2.2.2.2.2.2.2.2))]] [0])) := by kernel_rfl
theorem it___fx_Acc__Add_0 {ρ : Type} (x0 : Nat) (x1 : Bool) (x2 : Int) (x3 : Int) (x4 : Bool) (x5 : Nat) (x6 : Nat → Int) (x7 : Int) (x8 : Int) (K : AX → St → Option ρ) : iter (fun t => t.head 2 ⟨[⟨3, [1, 2, 3, 4, 6, 7, 8, 9, 13, 14, 15, 16, 17, 18, 19, 20, 21, 22, 23, 24, 25, 26, 27, 28, 29, 30, 31,
  32, 33, 34, 35, 36, 37, 38], []⟩], [⟨3, 2, @R___fx_Acc__Add_0 (@L___fx_Acc__Add_0)⟩], [0], [], (some ⟨0, [0, 1, 2, 3, 5, 6, 7, 8, 9, 10, 11, 12, 13, 14, 15, 16, 17, 18, 19, 20, 21, 22, 23, 24, 25, 26, 27, 28, 29, 30, 31, 32, 33, 34, 35, 36, 37, 38], []⟩)⟩ (loopIn Try.prog 36 3)) (runC Try.prog (envOf [(52,
  F___fx_Acc__Sat f___fx_Acc__Sat), (62, F_wide_Of f_wide_Of), (61, F_wide_Add f_wide_Add), (63, F_wide_Round f_wide_Round), (64, F___fx_Acc__end f___fx_Acc__end)]) ⟨[⟨3, [1, 2, 3, 4, 6, 7, 8, 9, 13, 14, 15, 16, 17, 18, 19, 20, 21, 22, 23, 24, 25, 26, 27, 28, 29, 30, 31, 32, 33, 34,
  35, 36, 37, 38], []⟩], [⟨3, 2, @R___fx_Acc__Add_0 (@L___fx_Acc__Add_0)⟩], [0], [], (some ⟨0, [0, 1, 2, 3, 5, 6, 7, 8, 9, 10, 11, 12, 13, 14, 15, 16, 17, 18, 19, 20, 21, 22, 23, 24, 25, 26, 27, 28, 29, 30, 31, 32, 33, 34, 35, 36, 37, 38], []⟩)⟩ (tmpsOf Try.prog 36) 2 200 (loopIn Try.prog 36 3)) K 200 (St.mk [AV.r (RV.c (CV.ptr 0 (Off.k 0) 1)),
  AV.und, AV.und, AV.und, AV.und, AV.r (RV.c (CV.ptr 2 (Off.k 0) 2)), AV.und, AV.und, AV.und, AV.und, AV.r (RV.c (CV.sl 1 (Off.k 0) (Sz.s x0) 1 x1)), AV.r (RV.c (CV.f (FV.i IntKind.i64 x2))), AV.r (RV.c (CV.f (FV.i IntKind.i64 x3))), AV.und, AV.und, AV.und, AV.und, AV.und, AV.und, AV.und, AV.und, AV.und,
  AV.und, AV.und, AV.und, AV.und, AV.und, AV.und, AV.und, AV.und, AV.und, AV.und, AV.und, AV.und, AV.und, AV.und, AV.und, AV.und, AV.und] [some [Sg.c (CV.f (FV.b x4))], some [Sg.a (Sz.s x5) [Col.i IntKind.i64 x6]], some [Sg.c (CV.f (FV.i IntKind.i64 x7)), Sg.c (CV.f (FV.i IntKind.u64 x8))]] [0]) = L___fx_Acc__Add_0 (x0,
  x1, x2, x3, x4, x5, x6, x7, x8) (fun d => K (AX.ex 0) (St.mk [AV.r (RV.c (CV.ptr 0 (Off.k 0) 1)), AV.und, AV.und, AV.und, AV.und, AV.r (RV.c (CV.ptr 2 (Off.k 0) 2)), AV.und, AV.und, AV.und, AV.und, AV.r (RV.c (CV.sl 1 (Off.k 0) (Sz.s d.1) 1 d.2.1)), AV.r (RV.c (CV.f (FV.i IntKind.i64 d.2.2.1))),
  AV.r (RV.c (CV.f (FV.i IntKind.i64 d.2.2.2.1))), AV.r (RV.c (CV.f (FV.b d.2.2.2.2.1))), AV.und, AV.und, AV.und, AV.und, AV.und, AV.und, AV.und, AV.und, AV.und, AV.und, AV.und, AV.und, AV.und, AV.und, AV.und, AV.und, AV.und, AV.und, AV.und, AV.und, AV.und, AV.und, AV.und, AV.und, AV.und] [some [Sg.c (CV.f (FV.b d.2.2.2.2.2.1))],
  some [Sg.a (Sz.s d.2.2.2.2.2.2.1) [Col.i IntKind.i64 d.2.2.2.2.2.2.2.1]], some [Sg.c (CV.f (FV.i IntKind.i64 d.2.2.2.2.2.2.2.2.1)), Sg.c (CV.f (FV.i IntKind.u64 d.2.2.2.2.2.2.2.2.2))]] [0])) := iter_loopX (emb := fun (d : Nat × Bool ×
  Int × Int × Bool × Nat × (Nat → Int) × Int × Int) => St.mk [AV.r (RV.c (CV.ptr 0 (Off.k 0) 1)), AV.und, AV.und, AV.und, AV.und, AV.r (RV.c (CV.ptr 2 (Off.k 0) 2)), AV.und, AV.und, AV.und, AV.und, AV.r (RV.c (CV.sl 1 (Off.k 0) (Sz.s d.1) 1 d.2.1)), AV.r (RV.c (CV.f (FV.i IntKind.i64 d.2.2.1))),
  AV.r (RV.c (CV.f (FV.i IntKind.i64 d.2.2.2.1))), AV.und, AV.und, AV.und, AV.und, AV.und, AV.und, AV.und, AV.und, AV.und, AV.und, AV.und, AV.und, AV.und, AV.und, AV.und, AV.und, AV.und, AV.und, AV.und, AV.und, AV.und, AV.und, AV.und, AV.und, AV.und, AV.und] [some [Sg.c (CV.f (FV.b d.2.2.2.2.1))],
  some [Sg.a (Sz.s d.2.2.2.2.2.1) [Col.i IntKind.i64 d.2.2.2.2.2.2.1]], some [Sg.c (CV.f (FV.i IntKind.i64 d.2.2.2.2.2.2.2.1)), Sg.c (CV.f (FV.i IntKind.u64 d.2.2.2.2.2.2.2.2))]] [0]) (step := fun d c x => S___fx_Acc__Add_0 f___fx_Acc__Sat f_wide_Of f_wide_Add f_wide_Round f___fx_Acc__end d.1 d.2.1 d.2.2.1 d.2.2.2.1 d.2.2.2.2.1 d.2.2.2.2.2.1 d.2.2.2.2.2.2.1 d.2.2.2.2.2.2.2.1 d.2.2.2.2.2.2.2.2 c x) (kx := (fun d => K (AX.ex 0) (St.mk [AV.r (RV.c (CV.ptr 0 (Off.k 0) 1)),
  AV.und, AV.und, AV.und, AV.und, AV.r (RV.c (CV.ptr 2 (Off.k 0) 2)), AV.und, AV.und, AV.und, AV.und, AV.r (RV.c (CV.sl 1 (Off.k 0) (Sz.s d.1) 1 d.2.1)), AV.r (RV.c (CV.f (FV.i IntKind.i64 d.2.2.1))), AV.r (RV.c (CV.f (FV.i IntKind.i64 d.2.2.2.1))), AV.r (RV.c (CV.f (FV.b d.2.2.2.2.1))),
  AV.und, AV.und, AV.und, AV.und, AV.und, AV.und, AV.und, AV.und, AV.und, AV.und, AV.und, AV.und, AV.und, AV.und, AV.und, AV.und, AV.und, AV.und, AV.und, AV.und, AV.und, AV.und, AV.und, AV.und, AV.und] [some [Sg.c (CV.f (FV.b d.2.2.2.2.2.1))], some [Sg.a (Sz.s d.2.2.2.2.2.2.1) [Col.i IntKind.i64 d.2.2.2.2.2.2.2.1]],
  some [Sg.c (CV.f (FV.i IntKind.i64 d.2.2.2.2.2.2.2.2.1)), Sg.c (CV.f (FV.i IntKind.u64 d.2.2.2.2.2.2.2.2.2))]] [0]))) (fun d c => ds___fx_Acc__Add_0 f___fx_Acc__Sat f_wide_Of f_wide_Add f_wide_Round f___fx_Acc__end (@L___fx_Acc__Add_0) d.1 d.2.1 d.2.2.1 d.2.2.2.1 d.2.2.2.2.1 d.2.2.2.2.2.1 d.2.2.2.2.2.2.1 d.2.2.2.2.2.2.2.1 d.2.2.2.2.2.2.2.2 c K) 200 (x0,
  x1, x2, x3, x4, x5, x6, x7, x8)
theorem so___fx_Acc__Add_0 [Amb] : ∀ kk, SumOK Try.prog (envOf [(52, F___fx_Acc__Sat f___fx_Acc__Sat), (62, F_wide_Of f_wide_Of), (61, F_wide_Add f_wide_Add), (63, F_wide_Round f_wide_Round), (64, F___fx_Acc__end f___fx_Acc__end)]) ⟨[⟨3, [1, 2, 3, 4, 6, 7, 8, 9, 13, 14, 15, 16,
  17, 18, 19, 20, 21, 22, 23, 24, 25, 26, 27, 28, 29, 30, 31, 32, 33, 34, 35, 36, 37, 38], []⟩], [⟨3, 2, @R___fx_Acc__Add_0 (@L___fx_Acc__Add_0)⟩], [0], [], (some ⟨0, [0, 1, 2, 3, 5, 6, 7, 8, 9, 10, 11, 12, 13, 14, 15, 16, 17, 18, 19, 20, 21, 22, 23, 24, 25, 26, 27, 28, 29, 30, 31, 32, 33, 34, 35, 36,
  37, 38], []⟩)⟩ (tmpsOf Try.prog 36) kk 200 (loopIn Try.prog 36 3) := SumOK.of (id := 3) (k0 := 2) (run := @R___fx_Acc__Add_0 (@L___fx_Acc__Add_0)) (by kernel_rfl) fun s K r hr => by
    unfold R___fx_Acc__Add_0 at hr
    obtain ⟨b, hb, hr1⟩ := Option.bind_eq_some_iff.1 hr
    have e := ((Q___fx_Acc__Add_0).ok s b hb).trans (q___fx_Acc__Add_0 b)
    subst e
    exact ⟨200, (it___fx_Acc__Add_0 b.1.2.2.2.2.2.2.2.2.2.2.1.2.2.1 b.1.2.2.2.2.2.2.2.2.2.2.1.2.2.2.2 b.1.2.2.2.2.2.2.2.2.2.2.2.1 b.1.2.2.2.2.2.2.2.2.2.2.2.2.1 b.2.1.1.1 b.2.1.2.1.1.1 b.2.1.2.1.1.2.1 b.2.1.2.2.1.1 b.2.1.2.2.1.2.1 K).trans hr1⟩
def K___fx_Acc__Add {ρ : Type} (g___fx_Acc__Sat : Int → Bool → Option (Int × Bool)) (g_wide_Of : Int → Option (Int × Int)) (g_wide_Add : Nat → (Nat → Int) → (Nat → Int) → Bool → Option (Int × Int × Bool)) (g_wide_Round : Int → Int → Int → Option (Int × Bool)) (g___fx_Acc__end : Int → Bool → Bool → Bool →
  Option (Int × Bool)) (l_0 : ∀ {ρ : Type}, (Nat × Bool × Int × Int × Bool × Nat × (Nat → Int) × Int × Int) → ((Nat × Bool × Int × Int × Bool × Bool × Nat × (Nat → Int) × Int × Int) → Option ρ) → Option ρ) (x0 : Nat) (x1 : Bool) (x2 : Nat → Int) (w0 : Bool) (k : (Int × Bool) → Option ρ) : Option ρ := l_0 (x0,
  w0, Int.ofNat x0, 0, x1, x0, x2, 0, 0) fun (d : Nat × Bool × Int × Int × Bool × Bool × Nat × (Nat → Int) × Int × Int) => Option.bind (g_wide_Round d.2.2.2.2.2.2.2.2.1 d.2.2.2.2.2.2.2.2.2 0) fun (d_1 : Int × Bool) => Option.bind (g___fx_Acc__end d_1.1 d_1.2 (decide (d.2.2.2.2.2.2.2.2.1 < 0)) d.2.2.2.2.2.1) fun (d : Int ×
  Bool) => k (d.1, d.2)
def f___fx_Acc__Add (x0 : Nat) (x1 : Bool) (x2 : Nat → Int) (w0 : Bool) : Option (Int × Bool) := K___fx_Acc__Add f___fx_Acc__Sat f_wide_Of f_wide_Add f_wide_Round f___fx_Acc__end (@L___fx_Acc__Add_0) x0 x1 x2 w0 some
section
open Go.Ab.Rdr
def QA___fx_Acc__Add := ((pair (cons (ar (rc (cptr (nat 0) (ok' (nat 0)) (nat 1)))) (cons (ar (rc (csl (nat 1) (ok' (nat 0)) (szs hole) (nat 1) hole))) nil)) (cons (cons (gc (cf (fb hole))) nil) (cons (cons (ga (szs hole) (cons (ki .i64 hole) nil)) nil) nil))) : Rdr (List AV × List Blk) _)
end
def F0___fx_Acc__Add (f : (Nat) → (Bool) → (Nat → Int) → (Bool) → Option (Int × Bool)) : Sem1 := fun args h => match (QA___fx_Acc__Add).rd (args, h) with
  | some b => .test (Nat.beq b.2.2.1.1.1 b.1.2.1.2.2.1) (.opt (f b.1.2.1.2.2.1 b.2.1.1 b.2.2.1.1.2.1 b.1.2.1.2.2.2.2) fun (d : Int × Bool) => .leaf (Res.mk (AV.r (RV.c (CV.f (FV.i IntKind.i64 d.1)))) [Ch.set [Sg.c (CV.f (FV.b d.2))], Ch.keep] [])) .fail
  | none => .fail
def F___fx_Acc__Add (f : (Nat) → (Bool) → (Nat → Int) → (Bool) → Option (Int × Bool)) : Sem1 := (nilF 1 [.i .i64] (F0___fx_Acc__Add f))
theorem d___fx_Acc__Add (g___fx_Acc__Sat : Int → Bool → Option (Int × Bool)) (g_wide_Of : Int → Option (Int × Int)) (g_wide_Add : Nat → (Nat → Int) → (Nat → Int) → Bool → Option (Int × Int × Bool)) (g_wide_Round : Int → Int → Int → Option (Int × Bool)) (g___fx_Acc__end : Int → Bool → Bool → Bool → Option (Int ×
  Bool)) (l_0 : ∀ {ρ : Type}, (Nat × Bool × Int × Int × Bool × Nat × (Nat → Int) × Int × Int) → ((Nat × Bool × Int × Int × Bool × Bool × Nat × (Nat → Int) × Int × Int) → Option ρ) → Option ρ) (x0 : Nat) (x1 : Bool) (x2 : Nat → Int) (w0 : Bool) : den Try.prog (envOf [(52, F___fx_Acc__Sat g___fx_Acc__Sat),
  (62, F_wide_Of g_wide_Of), (61, F_wide_Add g_wide_Add), (63, F_wide_Round g_wide_Round), (64, F___fx_Acc__end g___fx_Acc__end)]) ⟨[⟨3, [1, 2, 3, 4, 6, 7, 8, 9, 13, 14, 15, 16, 17, 18, 19, 20, 21, 22, 23, 24, 25, 26, 27, 28, 29, 30, 31, 32, 33, 34, 35, 36, 37, 38], []⟩], [⟨3, 2, @R___fx_Acc__Add_0 (@l_0)⟩],
  [0], [], (some ⟨0, [0, 1, 2, 3, 5, 6, 7, 8, 9, 10, 11, 12, 13, 14, 15, 16, 17, 18, 19, 20, 21, 22, 23, 24, 25, 26, 27, 28, 29, 30, 31, 32, 33, 34, 35, 36, 37, 38], []⟩)⟩ 200 36 [.r (.c (.ptr 0 (.k 0) 1)), .r (.c (.sl 1 (.k 0) (.s x0) 1 w0))] [[.c (.f (.b x1))], [.a (.s x0) [.i .i64 x2]]] = K___fx_Acc__Add g___fx_Acc__Sat g_wide_Of g_wide_Add g_wide_Round g___fx_Acc__end (@l_0) x0 x1 x2 w0 (fun (d : Int ×
  Bool) => some (Res.mk (AV.r (RV.c (CV.f (FV.i IntKind.i64 d.1)))) [Ch.set [Sg.c (CV.f (FV.b d.2))], Ch.keep] [])) := by kernel_rfl
theorem m___fx_Acc__Add {ρ σ : Type} (q : ρ → Option σ) (g___fx_Acc__Sat : Int → Bool → Option (Int × Bool)) (g_wide_Of : Int → Option (Int × Int)) (g_wide_Add : Nat → (Nat → Int) → (Nat → Int) → Bool → Option (Int × Int × Bool)) (g_wide_Round : Int → Int → Int → Option (Int × Bool)) (g___fx_Acc__end : Int → Bool → Bool → Bool → Option (Int × Bool)) (l_0 : ∀ {ρ : Type}, (Nat × Bool × Int × Int × Bool × Nat × (Nat → Int) × Int × Int) → ((Nat × Bool × Int × Int × Bool × Bool × Nat × (Nat → Int) × Int × Int) → Option ρ) → Option ρ) (hl_0 : ∀ {ρ σ : Type} (q : ρ → Option σ) (d : Nat × Bool × Int × Int × Bool × Nat × (Nat → Int) × Int × Int) (k : (Nat × Bool × Int × Int × Bool × Bool × Nat × (Nat → Int) × Int × Int) → Option ρ), (l_0 d k).bind q = l_0 d fun x => (k x).bind q) (x0 : Nat) (x1 : Bool) (x2 : Nat → Int) (w0 : Bool) (k : (Int × Bool) → Option ρ) : (K___fx_Acc__Add g___fx_Acc__Sat g_wide_Of g_wide_Add g_wide_Round g___fx_Acc__end (@l_0) x0 x1 x2 w0 k).bind q = K___fx_Acc__Add g___fx_Acc__Sat g_wide_Of g_wide_Add g_wide_Round g___fx_Acc__end (@l_0) x0 x1 x2 w0 (fun d => (k d).bind q) := by
  simp only [K___fx_Acc__Add, bnd_cond, bnd_bind, bnd_none, bnd_sum, hl_0]
theorem qa___fx_Acc__Add : ∀ b, (QA___fx_Acc__Add).em b = ([.r (.c (.ptr 0 (.k 0) 1)), .r (.c (.sl 1 (.k 0) (.s b.1.2.1.2.2.1) 1 b.1.2.1.2.2.2.2))], [[.c (.f (.b b.2.1.1))], [.a (.s b.2.2.1.1.1) [.i .i64 b.2.2.1.1.2.1]]]) := fun b => by kernel_rfl
theorem e___fx_Acc__Add {f : (Nat) → (Bool) → (Nat → Int) → (Bool) → Option (Int × Bool)} {args : List AV} {h : List Blk} {r : Res} (hr : (F0___fx_Acc__Add f args h).eval = some r) : ∃ x0 x1 x2 w0, args = [.r (.c (.ptr 0 (.k 0) 1)), .r (.c (.sl 1 (.k 0) (.s x0) 1 w0))] ∧ h = [[.c (.f (.b x1))], [.a (.s x0) [.i .i64 x2]]] ∧ (f x0 x1 x2 w0).bind (fun (d : Int × Bool) => some (Res.mk (AV.r (RV.c (CV.f (FV.i IntKind.i64 d.1)))) [Ch.set [Sg.c (CV.f (FV.b d.2))], Ch.keep] [])) = some r := by
  unfold F0___fx_Acc__Add at hr
  split at hr
  · rename_i b hb
    have e := ((QA___fx_Acc__Add).ok _ _ hb).trans (qa___fx_Acc__Add b)
    obtain ⟨he, hr1⟩ := test_eval hr
    clear hr
    have hr := hr1
    clear hr1
    rw [Nat.eq_of_beq_eq_true he] at e
    clear he
    rw [opt_eval2] at hr
    exact ⟨b.1.2.1.2.2.1, b.2.1.1, b.2.2.1.1.2.1, b.1.2.1.2.2.2.2, (Prod.mk.inj e).1, (Prod.mk.inj e).2, hr⟩
  · cases hr
theorem n___fx_Acc__Add {σ : Type} (q : (Int × Bool) → Option σ) (x0 : Nat) (x1 : Bool) (x2 : Nat → Int) (w0 : Bool) : (f___fx_Acc__Add x0 x1 x2 w0).bind q = K___fx_Acc__Add f___fx_Acc__Sat f_wide_Of f_wide_Add f_wide_Round f___fx_Acc__end (@L___fx_Acc__Add_0) x0 x1 x2 w0 q := by
  unfold f___fx_Acc__Add
  exact m___fx_Acc__Add q f___fx_Acc__Sat f_wide_Of f_wide_Add f_wide_Round f___fx_Acc__end (@L___fx_Acc__Add_0) (fun q d k => mL___fx_Acc__Add_0 q d k) x0 x1 x2 w0 some
theorem s___fx_Acc__Add [Amb] : Sound Try.prog 36 (F___fx_Acc__Add f___fx_Acc__Add) := Sound.nil 1 [.i .i64] <| (inl_sums (l := [(52, F___fx_Acc__Sat f___fx_Acc__Sat), (62, F_wide_Of f_wide_Of), (61, F_wide_Add f_wide_Add), (63, F_wide_Round f_wide_Round), (64, F___fx_Acc__end f___fx_Acc__end)]) (.cons s___fx_Acc__Sat (.cons s_wide_Of (.cons s_wide_Add (.cons s_wide_Round (.cons s___fx_Acc__end (.nil _)))))) mixed (hs := ⟨[⟨3,
  [1, 2, 3, 4, 6, 7, 8, 9, 13, 14, 15, 16, 17, 18, 19, 20, 21, 22, 23, 24, 25, 26, 27, 28, 29, 30, 31, 32, 33, 34, 35, 36, 37, 38], []⟩], [⟨3, 2, @R___fx_Acc__Add_0 (@L___fx_Acc__Add_0)⟩], [0], [], (some ⟨0, [0, 1, 2, 3, 5, 6, 7, 8, 9, 10, 11, 12, 13, 14, 15, 16, 17, 18, 19, 20, 21, 22, 23, 24, 25, 26,
  27, 28, 29, 30, 31, 32, 33, 34, 35, 36, 37, 38], []⟩)⟩) (lf := 200) (Sums.by (l := [loopIn Try.prog 36 3]) (lj := []) (by kernel_rfl) ⟨so___fx_Acc__Add_0, trivial⟩ (by kernel_rfl) trivial) (by kernel_rfl)).by (F := F0___fx_Acc__Add f___fx_Acc__Add) fun args b r hr => by
  obtain ⟨x0, x1, x2, w0, rfl, rfl, hr1⟩ := e___fx_Acc__Add hr
  exact inl_eval ((d___fx_Acc__Add f___fx_Acc__Sat f_wide_Of f_wide_Add f_wide_Round f___fx_Acc__end (@L___fx_Acc__Add_0) x0 x1 x2 w0).trans ((n___fx_Acc__Add (fun (d : Int × Bool) => some (Res.mk (AV.r (RV.c (CV.f (FV.i IntKind.i64 d.1)))) [Ch.set [Sg.c (CV.f (FV.b d.2))], Ch.keep] [])) x0 x1 x2 w0).symm.trans hr1))

def S_trig_series_0 {ρ : Type} (g_trig_m : Int → Int → Bool → Option (Int × Bool)) (g___fx_Acc__Add : Nat → Bool → (Nat → Int) → Bool → Option (Int × Bool)) (x0 : Int) (x1 : Int) (x2 : Nat) (x3 : Bool) (x4 : Int) (x5 : Int) (x6 : Bool) (x7 : Nat) (x8 : Nat → Int) (c : (Int × Int × Nat × Bool × Int ×
  Int × Bool × Nat × (Nat → Int)) → Option ρ) (x : (Int × Int × Nat × Bool × Int × Int × Bool × Bool × Nat × (Nat → Int)) → Option ρ) : Option ρ := bif decide (x5 < x4) then bif inR x5 x2 then Option.bind (g_trig_m x0 x1 x6) fun (d : Int × Bool) => Option.bind (g___fx_Acc__Add 2 d.2 (fun (j : Nat) => bif Nat.beq j 1 then
  d.1 else bif Nat.beq j 0 then x8 (1 + Int.toNat x5) else x8 (1 + Int.toNat x5)) true) fun (d : Int × Bool) => c (x0, d.1, x2, x3, x4, IntKind.wrap IntKind.i64 (x5 + 1), d.2, x7, x8) else none else x (x0, x1, x2, x3, x4, x5, decide (x5 < x4), x6, x7, x8)
section
open Go.Ab.Rdr
def Q_trig_series_0 := (st (cons (ar (rc (cptr (nat 0) (ok' (nat 0)) (nat 1)))) (cons (ar (rc (cf (fi .i64 hole)))) (cons aund (cons aund (cons aund (cons aund (cons aund (cons (ar (rc (cf (fi .i64 hole)))) (cons aund (cons aund (cons aund (cons aund (cons aund (cons aund (cons (ar (rc (csl (nat 1) (ox (nat 0) (nat 1) (nat 1)) (szs hole) (nat 1) hole))) (cons (ar (rc (cf (fi .i64 hole)))) (cons (ar (rc (cf (fi .i64 hole)))) (cons aund (cons aund (cons aund (cons aund (cons aund (cons aund (cons aund (cons aund (cons aund (cons aund (cons aund (cons aund (cons aund nil)))))))))))))))))))))))))))))) (cons (some' (cons (gc (cf (fb hole))) nil)) (cons (some' (cons (ga (szs hole) (cons (ki .i64 hole) nil)) nil)) nil)) (cons (nat 0) nil))
end
theorem q_trig_series_0 : ∀ b, (Q_trig_series_0).em b = St.mk [AV.r (RV.c (CV.ptr 0 (Off.k 0) 1)), AV.r (RV.c (CV.f (FV.i IntKind.i64 b.1.2.1))), AV.und, AV.und, AV.und, AV.und, AV.und, AV.r (RV.c (CV.f (FV.i IntKind.i64 b.1.2.2.2.2.2.2.2.1))), AV.und, AV.und, AV.und, AV.und, AV.und, AV.und, AV.r (RV.c (CV.sl 1 (Off.x 0 1 1) (Sz.s b.1.2.2.2.2.2.2.2.2.2.2.2.2.2.2.1.2.2.1) 1 b.1.2.2.2.2.2.2.2.2.2.2.2.2.2.2.1.2.2.2.2)),
  AV.r (RV.c (CV.f (FV.i IntKind.i64 b.1.2.2.2.2.2.2.2.2.2.2.2.2.2.2.2.1))), AV.r (RV.c (CV.f (FV.i IntKind.i64 b.1.2.2.2.2.2.2.2.2.2.2.2.2.2.2.2.2.1))), AV.und, AV.und, AV.und, AV.und, AV.und, AV.und, AV.und, AV.und, AV.und, AV.und, AV.und, AV.und, AV.und] [some [Sg.c (CV.f (FV.b b.2.1.1.1))], some [Sg.a (Sz.s b.2.1.2.1.1.1) [Col.i IntKind.i64 b.2.1.2.1.1.2.1]]] [0] := fun b => by kernel_rfl
def R_trig_series_0 (l : ∀ {ρ : Type}, (Int × Int × Nat × Bool × Int × Int × Bool × Nat × (Nat → Int)) → ((Int × Int × Nat × Bool × Int × Int × Bool × Bool × Nat × (Nat → Int)) → Option ρ) → Option ρ) {ρ : Type} (s : St) (K : AX → St → Option ρ) : Option ρ := ((Q_trig_series_0).rd s).bind fun b => l (b.1.2.1,
  b.1.2.2.2.2.2.2.2.1, b.1.2.2.2.2.2.2.2.2.2.2.2.2.2.2.1.2.2.1, b.1.2.2.2.2.2.2.2.2.2.2.2.2.2.2.1.2.2.2.2, b.1.2.2.2.2.2.2.2.2.2.2.2.2.2.2.2.1, b.1.2.2.2.2.2.2.2.2.2.2.2.2.2.2.2.2.1, b.2.1.1.1, b.2.1.2.1.1.1, b.2.1.2.1.1.2.1) (fun d => K (AX.ex 0) (St.mk [AV.r (RV.c (CV.ptr 0 (Off.k 0) 1)), AV.r (RV.c (CV.f (FV.i IntKind.i64 d.1))),
  AV.und, AV.und, AV.und, AV.und, AV.und, AV.r (RV.c (CV.f (FV.i IntKind.i64 d.2.1))), AV.und, AV.und, AV.und, AV.und, AV.und, AV.und, AV.r (RV.c (CV.sl 1 (Off.x 0 1 1) (Sz.s d.2.2.1) 1 d.2.2.2.1)), AV.r (RV.c (CV.f (FV.i IntKind.i64 d.2.2.2.2.1))), AV.r (RV.c (CV.f (FV.i IntKind.i64 d.2.2.2.2.2.1))),
  AV.r (RV.c (CV.f (FV.b d.2.2.2.2.2.2.1))), AV.und, AV.und, AV.und, AV.und, AV.und, AV.und, AV.und, AV.und, AV.und, AV.und, AV.und, AV.und] [some [Sg.c (CV.f (FV.b d.2.2.2.2.2.2.2.1))], some [Sg.a (Sz.s d.2.2.2.2.2.2.2.2.1) [Col.i IntKind.i64 d.2.2.2.2.2.2.2.2.2]]] [0]))
theorem ms_trig_series_0 {ρ σ : Type} (g_trig_m : Int → Int → Bool → Option (Int × Bool)) (g___fx_Acc__Add : Nat → Bool → (Nat → Int) → Bool → Option (Int × Bool))   (q : ρ → Option σ) (x0 : Int) (x1 : Int) (x2 : Nat) (x3 : Bool) (x4 : Int) (x5 : Int) (x6 : Bool) (x7 : Nat) (x8 : Nat → Int) (c : (Int × Int × Nat × Bool × Int × Int × Bool × Nat × (Nat → Int)) → Option ρ) (x : (Int × Int × Nat × Bool × Int × Int × Bool × Bool × Nat × (Nat → Int)) → Option ρ) : (S_trig_series_0 g_trig_m g___fx_Acc__Add  x0 x1 x2 x3 x4 x5 x6 x7 x8 c x).bind q = S_trig_series_0 g_trig_m g___fx_Acc__Add  x0 x1 x2 x3 x4 x5 x6 x7 x8 (fun d => (c d).bind q) (fun d => (x d).bind q) := by
  simp only [S_trig_series_0, bnd_cond, bnd_bind, bnd_none, bnd_sum]
def L_trig_series_0 {ρ : Type} (d : Int × Int × Nat × Bool × Int × Int × Bool × Nat × (Nat → Int)) (k : (Int × Int × Nat × Bool × Int × Int × Bool × Bool × Nat × (Nat → Int)) → Option ρ) : Option ρ := loopK (fun d c x => S_trig_series_0 f_trig_m f___fx_Acc__Add  d.1 d.2.1 d.2.2.1 d.2.2.2.1 d.2.2.2.2.1 d.2.2.2.2.2.1 d.2.2.2.2.2.2.1 d.2.2.2.2.2.2.2.1 d.2.2.2.2.2.2.2.2 c x) 200 d k
theorem mL_trig_series_0 {ρ σ : Type} (q : ρ → Option σ) (d : Int × Int × Nat × Bool × Int × Int × Bool × Nat × (Nat → Int)) (k : (Int × Int × Nat × Bool × Int × Int × Bool × Bool × Nat × (Nat → Int)) → Option ρ) : (L_trig_series_0 d k).bind q = L_trig_series_0 d fun x => (k x).bind q := loopK_bind q (fun d c x => ms_trig_series_0 f_trig_m f___fx_Acc__Add q d.1 d.2.1 d.2.2.1 d.2.2.2.1 d.2.2.2.2.1 d.2.2.2.2.2.1 d.2.2.2.2.2.2.1 d.2.2.2.2.2.2.2.1 d.2.2.2.2.2.2.2.2 c x) k _ d
theorem ds_trig_series_0 {ρ : Type} (g_trig_m : Int → Int → Bool → Option (Int × Bool)) (g___fx_Acc__Add : Nat → Bool → (Nat → Int) → Bool → Option (Int × Bool)) (l_0 : ∀ {ρ : Type}, (Int × Int × Nat × Bool × Int × Int × Bool × Nat × (Nat → Int)) → ((Int × Int × Nat × Bool × Int × Int × Bool × Bool ×
  Nat × (Nat → Int)) → Option ρ) → Option ρ) (x0 : Int) (x1 : Int) (x2 : Nat) (x3 : Bool) (x4 : Int) (x5 : Int) (x6 : Bool) (x7 : Nat) (x8 : Nat → Int) (c : St → Option ρ) (K : AX → St → Option ρ) : runC Try.prog (envOf [(56, F_trig_m g_trig_m), (36, F___fx_Acc__Add g___fx_Acc__Add)]) ⟨[⟨3, [2,
  3, 4, 5, 6, 8, 9, 10, 11, 12, 13, 17, 18, 19, 20, 21, 22, 23, 24, 25, 26, 27, 28, 29], []⟩], [⟨3, 2, @R_trig_series_0 (@l_0)⟩], [0], [], (some ⟨0, [0, 1, 2, 3, 4, 5, 7, 8, 9, 10, 11, 12, 13, 14, 15, 16, 17, 18, 19, 20, 21, 22, 23, 24, 25, 26, 27, 28, 29], []⟩)⟩ (tmpsOf Try.prog 57) 2 200 (loopIn Try.prog 57 3) (St.mk [AV.r (RV.c (CV.ptr 0 (Off.k 0) 1)),
  AV.r (RV.c (CV.f (FV.i IntKind.i64 x0))), AV.und, AV.und, AV.und, AV.und, AV.und, AV.r (RV.c (CV.f (FV.i IntKind.i64 x1))), AV.und, AV.und, AV.und, AV.und, AV.und, AV.und, AV.r (RV.c (CV.sl 1 (Off.x 0 1 1) (Sz.s x2) 1 x3)), AV.r (RV.c (CV.f (FV.i IntKind.i64 x4))), AV.r (RV.c (CV.f (FV.i IntKind.i64 x5))),
  AV.und, AV.und, AV.und, AV.und, AV.und, AV.und, AV.und, AV.und, AV.und, AV.und, AV.und, AV.und, AV.und] [some [Sg.c (CV.f (FV.b x6))], some [Sg.a (Sz.s x7) [Col.i IntKind.i64 x8]]] [0]) (next (fun t => t.head 2 ⟨[⟨3, [2, 3, 4, 5, 6, 8, 9, 10, 11, 12, 13, 17, 18, 19, 20, 21, 22, 23, 24, 25, 26, 27, 28,
  29], []⟩], [⟨3, 2, @R_trig_series_0 (@l_0)⟩], [0], [], (some ⟨0, [0, 1, 2, 3, 4, 5, 7, 8, 9, 10, 11, 12, 13, 14, 15, 16, 17, 18, 19, 20, 21, 22, 23, 24, 25, 26, 27, 28, 29], []⟩)⟩ (loopIn Try.prog 57 3)) c K) = S_trig_series_0 g_trig_m g___fx_Acc__Add x0 x1 x2 x3 x4 x5 x6 x7 x8 (fun d => c (St.mk [AV.r (RV.c (CV.ptr 0 (Off.k 0) 1)),
  AV.r (RV.c (CV.f (FV.i IntKind.i64 d.1))), AV.und, AV.und, AV.und, AV.und, AV.und, AV.r (RV.c (CV.f (FV.i IntKind.i64 d.2.1))), AV.und, AV.und, AV.und, AV.und, AV.und, AV.und, AV.r (RV.c (CV.sl 1 (Off.x 0 1 1) (Sz.s d.2.2.1) 1 d.2.2.2.1)), AV.r (RV.c (CV.f (FV.i IntKind.i64 d.2.2.2.2.1))),
  AV.r (RV.c (CV.f (FV.i IntKind.i64 d.2.2.2.2.2.1))), AV.und, AV.und, AV.und, AV.und, AV.und, AV.und, AV.und, AV.und, AV.und, AV.und, AV.und, AV.und, AV.und] [some [Sg.c (CV.f (FV.b d.2.2.2.2.2.2.1))], some [Sg.a (Sz.s d.2.2.2.2.2.2.2.1) [Col.i IntKind.i64 d.2.2.2.2.2.2.2.2]]] [0])) (fun d => K (AX.ex 0) (St.mk [AV.r (RV.c (CV.ptr 0 (Off.k 0) 1)),
  AV.r (RV.c (CV.f (FV.i IntKind.i64 d.1))), AV.und, AV.und, AV.und, AV.und, AV.und, AV.r (RV.c (CV.f (FV.i IntKind.i64 d.2.1))), AV.und, AV.und, AV.und, AV.und, AV.und, AV.und, AV.r (RV.c (CV.sl 1 (Off.x 0 1 1) (Sz.s d.2.2.1) 1 d.2.2.2.1)), AV.r (RV.c (CV.f (FV.i IntKind.i64 d.2.2.2.2.1))),
  AV.r (RV.c (CV.f (FV.i IntKind.i64 d.2.2.2.2.2.1))), AV.r (RV.c (CV.f (FV.b d.2.2.2.2.2.2.1))), AV.und, AV.und, AV.und, AV.und, AV.und, AV.und, AV.und, AV.und, AV.und, AV.und, AV.und, AV.und] [some [Sg.c (CV.f (FV.b d.2.2.2.2.2.2.2.1))], some [Sg.a (Sz.s d.2.2.2.2.2.2.2.2.1) [Col.i IntKind.i64 d.2.2.2.2.2.2.2.2.2]]] [0])) := by kernel_rfl
theorem it_trig_series_0 {ρ : Type} (x0 : Int) (x1 : Int) (x2 : Nat) (x3 : Bool) (x4 : Int) (x5 : Int) (x6 : Bool) (x7 : Nat) (x8 : Nat → Int) (K : AX → St → Option ρ) : iter (fun t => t.head 2 ⟨[⟨3, [2, 3, 4, 5, 6, 8, 9, 10, 11, 12, 13, 17, 18, 19, 20, 21, 22, 23, 24, 25, 26, 27, 28, 29], []⟩], [⟨3,
  2, @R_trig_series_0 (@L_trig_series_0)⟩], [0], [], (some ⟨0, [0, 1, 2, 3, 4, 5, 7, 8, 9, 10, 11, 12, 13, 14, 15, 16, 17, 18, 19, 20, 21, 22, 23, 24, 25, 26, 27, 28, 29], []⟩)⟩ (loopIn Try.prog 57 3)) (runC Try.prog (envOf [(56, F_trig_m f_trig_m), (36, F___fx_Acc__Add f___fx_Acc__Add)]) ⟨[⟨3,
  [2, 3, 4, 5, 6, 8, 9, 10, 11, 12, 13, 17, 18, 19, 20, 21, 22, 23, 24, 25, 26, 27, 28, 29], []⟩], [⟨3, 2, @R_trig_series_0 (@L_trig_series_0)⟩], [0], [], (some ⟨0, [0, 1, 2, 3, 4, 5, 7, 8, 9, 10, 11, 12, 13, 14, 15, 16, 17, 18, 19, 20, 21, 22, 23, 24, 25, 26, 27, 28, 29], []⟩)⟩ (tmpsOf Try.prog 57) 2 200 (loopIn Try.prog 57 3)) K 200 (St.mk [AV.r (RV.c (CV.ptr 0 (Off.k 0) 1)),
  AV.r (RV.c (CV.f (FV.i IntKind.i64 x0))), AV.und, AV.und, AV.und, AV.und, AV.und, AV.r (RV.c (CV.f (FV.i IntKind.i64 x1))), AV.und, AV.und, AV.und, AV.und, AV.und, AV.und, AV.r (RV.c (CV.sl 1 (Off.x 0 1 1) (Sz.s x2) 1 x3)), AV.r (RV.c (CV.f (FV.i IntKind.i64 x4))), AV.r (RV.c (CV.f (FV.i IntKind.i64 x5))),
  AV.und, AV.und, AV.und, AV.und, AV.und, AV.und, AV.und, AV.und, AV.und, AV.und, AV.und, AV.und, AV.und] [some [Sg.c (CV.f (FV.b x6))], some [Sg.a (Sz.s x7) [Col.i IntKind.i64 x8]]] [0]) = L_trig_series_0 (x0, x1, x2, x3, x4, x5, x6, x7, x8) (fun d => K (AX.ex 0) (St.mk [AV.r (RV.c (CV.ptr 0 (Off.k 0) 1)),
  AV.r (RV.c (CV.f (FV.i IntKind.i64 d.1))), AV.und, AV.und, AV.und, AV.und, AV.und, AV.r (RV.c (CV.f (FV.i IntKind.i64 d.2.1))), AV.und, AV.und, AV.und, AV.und, AV.und, AV.und, AV.r (RV.c (CV.sl 1 (Off.x 0 1 1) (Sz.s d.2.2.1) 1 d.2.2.2.1)), AV.r (RV.c (CV.f (FV.i IntKind.i64 d.2.2.2.2.1))),
  AV.r (RV.c (CV.f (FV.i IntKind.i64 d.2.2.2.2.2.1))), AV.r (RV.c (CV.f (FV.b d.2.2.2.2.2.2.1))), AV.und, AV.und, AV.und, AV.und, AV.und, AV.und, AV.und, AV.und, AV.und, AV.und, AV.und, AV.und] [some [Sg.c (CV.f (FV.b d.2.2.2.2.2.2.2.1))], some [Sg.a (Sz.s d.2.2.2.2.2.2.2.2.1) [Col.i IntKind.i64 d.2.2.2.2.2.2.2.2.2]]] [0])) := iter_loopX (emb := fun (d : Int ×
  Int × Nat × Bool × Int × Int × Bool × Nat × (Nat → Int)) => St.mk [AV.r (RV.c (CV.ptr 0 (Off.k 0) 1)), AV.r (RV.c (CV.f (FV.i IntKind.i64 d.1))), AV.und, AV.und, AV.und, AV.und, AV.und, AV.r (RV.c (CV.f (FV.i IntKind.i64 d.2.1))), AV.und, AV.und, AV.und, AV.und, AV.und, AV.und, AV.r (RV.c (CV.sl 1 (Off.x 0 1 1) (Sz.s d.2.2.1) 1 d.2.2.2.1)),
  AV.r (RV.c (CV.f (FV.i IntKind.i64 d.2.2.2.2.1))), AV.r (RV.c (CV.f (FV.i IntKind.i64 d.2.2.2.2.2.1))), AV.und, AV.und, AV.und, AV.und, AV.und, AV.und, AV.und, AV.und, AV.und, AV.und, AV.und, AV.und, AV.und] [some [Sg.c (CV.f (FV.b d.2.2.2.2.2.2.1))], some [Sg.a (Sz.s d.2.2.2.2.2.2.2.1) [Col.i IntKind.i64 d.2.2.2.2.2.2.2.2]]] [0]) (step := fun d c x => S_trig_series_0 f_trig_m f___fx_Acc__Add d.1 d.2.1 d.2.2.1 d.2.2.2.1 d.2.2.2.2.1 d.2.2.2.2.2.1 d.2.2.2.2.2.2.1 d.2.2.2.2.2.2.2.1 d.2.2.2.2.2.2.2.2 c x) (kx := (fun d => K (AX.ex 0) (St.mk [AV.r (RV.c (CV.ptr 0 (Off.k 0) 1)),
  AV.r (RV.c (CV.f (FV.i IntKind.i64 d.1))), AV.und, AV.und, AV.und, AV.und, AV.und, AV.r (RV.c (CV.f (FV.i IntKind.i64 d.2.1))), AV.und, AV.und, AV.und, AV.und, AV.und, AV.und, AV.r (RV.c (CV.sl 1 (Off.x 0 1 1) (Sz.s d.2.2.1) 1 d.2.2.2.1)), AV.r (RV.c (CV.f (FV.i IntKind.i64 d.2.2.2.2.1))),
  AV.r (RV.c (CV.f (FV.i IntKind.i64 d.2.2.2.2.2.1))), AV.r (RV.c (CV.f (FV.b d.2.2.2.2.2.2.1))), AV.und, AV.und, AV.und, AV.und, AV.und, AV.und, AV.und, AV.und, AV.und, AV.und, AV.und, AV.und] [some [Sg.c (CV.f (FV.b d.2.2.2.2.2.2.2.1))], some [Sg.a (Sz.s d.2.2.2.2.2.2.2.2.1) [Col.i IntKind.i64 d.2.2.2.2.2.2.2.2.2]]] [0]))) (fun d c => ds_trig_series_0 f_trig_m f___fx_Acc__Add (@L_trig_series_0) d.1 d.2.1 d.2.2.1 d.2.2.2.1 d.2.2.2.2.1 d.2.2.2.2.2.1 d.2.2.2.2.2.2.1 d.2.2.2.2.2.2.2.1 d.2.2.2.2.2.2.2.2 c K) 200 (x0,
  x1, x2, x3, x4, x5, x6, x7, x8)
theorem so_trig_series_0 [Amb] : ∀ kk, SumOK Try.prog (envOf [(56, F_trig_m f_trig_m), (36, F___fx_Acc__Add f___fx_Acc__Add)]) ⟨[⟨3, [2, 3, 4, 5, 6, 8, 9, 10, 11, 12, 13, 17, 18, 19, 20, 21, 22, 23, 24, 25, 26, 27, 28, 29], []⟩], [⟨3, 2, @R_trig_series_0 (@L_trig_series_0)⟩], [0], [], (some ⟨0,
  [0, 1, 2, 3, 4, 5, 7, 8, 9, 10, 11, 12, 13, 14, 15, 16, 17, 18, 19, 20, 21, 22, 23, 24, 25, 26, 27, 28, 29], []⟩)⟩ (tmpsOf Try.prog 57) kk 200 (loopIn Try.prog 57 3) := SumOK.of (id := 3) (k0 := 2) (run := @R_trig_series_0 (@L_trig_series_0)) (by kernel_rfl) fun s K r hr => by
    unfold R_trig_series_0 at hr
    obtain ⟨b, hb, hr1⟩ := Option.bind_eq_some_iff.1 hr
    have e := ((Q_trig_series_0).ok s b hb).trans (q_trig_series_0 b)
    subst e
    exact ⟨200, (it_trig_series_0 b.1.2.1 b.1.2.2.2.2.2.2.2.1 b.1.2.2.2.2.2.2.2.2.2.2.2.2.2.2.1.2.2.1 b.1.2.2.2.2.2.2.2.2.2.2.2.2.2.2.1.2.2.2.2 b.1.2.2.2.2.2.2.2.2.2.2.2.2.2.2.2.1 b.1.2.2.2.2.2.2.2.2.2.2.2.2.2.2.2.2.1 b.2.1.1.1 b.2.1.2.1.1.1 b.2.1.2.1.1.2.1 K).trans hr1⟩
def K_trig_series {ρ : Type} (g_trig_m : Int → Int → Bool → Option (Int × Bool)) (g___fx_Acc__Add : Nat → Bool → (Nat → Int) → Bool → Option (Int × Bool)) (l_0 : ∀ {ρ : Type}, (Int × Int × Nat × Bool × Int × Int × Bool × Nat × (Nat → Int)) → ((Int × Int × Nat × Bool × Int × Int × Bool × Bool × Nat ×
  (Nat → Int)) → Option ρ) → Option ρ) (x0 : Int) (x1 : Nat) (x2 : Bool) (x3 : Nat → Int) (w0 : Bool) (k : (Int × Bool) → Option ρ) : Option ρ := bif inR 0 x1 then bif inRe 1 x1 then l_0 (x0, x3 0, x1 - 1, w0 && true, Int.ofNat (x1 - 1), 0, x2, x1, x3) fun (d : Int × Int × Nat × Bool × Int × Int × Bool ×
  Bool × Nat × (Nat → Int)) => k (d.2.1, d.2.2.2.2.2.2.2.1) else none else none
def f_trig_series (x0 : Int) (x1 : Nat) (x2 : Bool) (x3 : Nat → Int) (w0 : Bool) : Option (Int × Bool) := K_trig_series f_trig_m f___fx_Acc__Add (@L_trig_series_0) x0 x1 x2 x3 w0 some
section
open Go.Ab.Rdr
def QA_trig_series := ((pair (cons (ar (rc (cptr (nat 0) (ok' (nat 0)) (nat 1)))) (cons (ar (rc (cf (fi .i64 hole)))) (cons (ar (rc (csl (nat 1) (ok' (nat 0)) (szs hole) (nat 1) hole))) nil))) (cons (cons (gc (cf (fb hole))) nil) (cons (cons (ga (szs hole) (cons (ki .i64 hole) nil)) nil) nil))) : Rdr (List AV × List Blk) _)
end
def F0_trig_series (f : (Int) → (Nat) → (Bool) → (Nat → Int) → (Bool) → Option (Int × Bool)) : Sem1 := fun args h => match (QA_trig_series).rd (args, h) with
  | some b => .test (Nat.beq b.2.2.1.1.1 b.1.2.2.1.2.2.1) (.opt (f b.1.2.1 b.1.2.2.1.2.2.1 b.2.1.1 b.2.2.1.1.2.1 b.1.2.2.1.2.2.2.2) fun (d : Int × Bool) => .leaf (Res.mk (AV.r (RV.c (CV.f (FV.i IntKind.i64 d.1)))) [Ch.set [Sg.c (CV.f (FV.b d.2))], Ch.keep] [])) .fail
  | none => .fail
def F_trig_series (f : (Int) → (Nat) → (Bool) → (Nat → Int) → (Bool) → Option (Int × Bool)) : Sem1 := (nilF 2 [.i .i64] (F0_trig_series f))
theorem d_trig_series (g_trig_m : Int → Int → Bool → Option (Int × Bool)) (g___fx_Acc__Add : Nat → Bool → (Nat → Int) → Bool → Option (Int × Bool)) (l_0 : ∀ {ρ : Type}, (Int × Int × Nat × Bool × Int × Int × Bool × Nat × (Nat → Int)) → ((Int × Int × Nat × Bool × Int × Int × Bool × Bool × Nat × (Nat →
  Int)) → Option ρ) → Option ρ) (x0 : Int) (x1 : Nat) (x2 : Bool) (x3 : Nat → Int) (w0 : Bool) : den Try.prog (envOf [(56, F_trig_m g_trig_m), (36, F___fx_Acc__Add g___fx_Acc__Add)]) ⟨[⟨3, [2, 3, 4, 5, 6, 8, 9, 10, 11, 12, 13, 17, 18, 19, 20, 21, 22, 23, 24, 25, 26, 27, 28, 29], []⟩], [⟨3, 2,
  @R_trig_series_0 (@l_0)⟩], [0], [], (some ⟨0, [0, 1, 2, 3, 4, 5, 7, 8, 9, 10, 11, 12, 13, 14, 15, 16, 17, 18, 19, 20, 21, 22, 23, 24, 25, 26, 27, 28, 29], []⟩)⟩ 200 57 [.r (.c (.ptr 0 (.k 0) 1)), .r (.c (.f (.i .i64 x0))), .r (.c (.sl 1 (.k 0) (.s x1) 1 w0))] [[.c (.f (.b x2))], [.a (.s x1) [.i .i64 x3]]] = K_trig_series g_trig_m g___fx_Acc__Add (@l_0) x0 x1 x2 x3 w0 (fun (d : Int ×
  Bool) => some (Res.mk (AV.r (RV.c (CV.f (FV.i IntKind.i64 d.1)))) [Ch.set [Sg.c (CV.f (FV.b d.2))], Ch.keep] [])) := by kernel_rfl
theorem m_trig_series {ρ σ : Type} (q : ρ → Option σ) (g_trig_m : Int → Int → Bool → Option (Int × Bool)) (g___fx_Acc__Add : Nat → Bool → (Nat → Int) → Bool → Option (Int × Bool)) (l_0 : ∀ {ρ : Type}, (Int × Int × Nat × Bool × Int × Int × Bool × Nat × (Nat → Int)) → ((Int × Int × Nat × Bool × Int × Int × Bool × Bool × Nat × (Nat → Int)) → Option ρ) → Option ρ) (hl_0 : ∀ {ρ σ : Type} (q : ρ → Option σ) (d : Int × Int × Nat × Bool × Int × Int × Bool × Nat × (Nat → Int)) (k : (Int × Int × Nat × Bool × Int × Int × Bool × Bool × Nat × (Nat → Int)) → Option ρ), (l_0 d k).bind q = l_0 d fun x => (k x).bind q) (x0 : Int) (x1 : Nat) (x2 : Bool) (x3 : Nat → Int) (w0 : Bool) (k : (Int × Bool) → Option ρ) : (K_trig_series g_trig_m g___fx_Acc__Add (@l_0) x0 x1 x2 x3 w0 k).bind q = K_trig_series g_trig_m g___fx_Acc__Add (@l_0) x0 x1 x2 x3 w0 (fun d => (k d).bind q) := by
  simp only [K_trig_series, bnd_cond, bnd_bind, bnd_none, bnd_sum, hl_0]
theorem qa_trig_series : ∀ b, (QA_trig_series).em b = ([.r (.c (.ptr 0 (.k 0) 1)), .r (.c (.f (.i .i64 b.1.2.1))), .r (.c (.sl 1 (.k 0) (.s b.1.2.2.1.2.2.1) 1 b.1.2.2.1.2.2.2.2))], [[.c (.f (.b b.2.1.1))], [.a (.s b.2.2.1.1.1) [.i .i64 b.2.2.1.1.2.1]]]) := fun b => by kernel_rfl
theorem e_trig_series {f : (Int) → (Nat) → (Bool) → (Nat → Int) → (Bool) → Option (Int × Bool)} {args : List AV} {h : List Blk} {r : Res} (hr : (F0_trig_series f args h).eval = some r) : ∃ x0 x1 x2 x3 w0, args = [.r (.c (.ptr 0 (.k 0) 1)), .r (.c (.f (.i .i64 x0))), .r (.c (.sl 1 (.k 0) (.s x1) 1 w0))] ∧ h = [[.c (.f (.b x2))], [.a (.s x1) [.i .i64 x3]]] ∧ (f x0 x1 x2 x3 w0).bind (fun (d : Int × Bool) => some (Res.mk (AV.r (RV.c (CV.f (FV.i IntKind.i64 d.1)))) [Ch.set [Sg.c (CV.f (FV.b d.2))], Ch.keep] [])) = some r := by
  unfold F0_trig_series at hr
  split at hr
  · rename_i b hb
    have e := ((QA_trig_series).ok _ _ hb).trans (qa_trig_series b)
    obtain ⟨he, hr1⟩ := test_eval hr
    clear hr
    have hr := hr1
    clear hr1
    rw [Nat.eq_of_beq_eq_true he] at e
    clear he
    rw [opt_eval2] at hr
    exact ⟨b.1.2.1, b.1.2.2.1.2.2.1, b.2.1.1, b.2.2.1.1.2.1, b.1.2.2.1.2.2.2.2, (Prod.mk.inj e).1, (Prod.mk.inj e).2, hr⟩
  · cases hr
theorem n_trig_series {σ : Type} (q : (Int × Bool) → Option σ) (x0 : Int) (x1 : Nat) (x2 : Bool) (x3 : Nat → Int) (w0 : Bool) : (f_trig_series x0 x1 x2 x3 w0).bind q = K_trig_series f_trig_m f___fx_Acc__Add (@L_trig_series_0) x0 x1 x2 x3 w0 q := by
  unfold f_trig_series
  exact m_trig_series q f_trig_m f___fx_Acc__Add (@L_trig_series_0) (fun q d k => mL_trig_series_0 q d k) x0 x1 x2 x3 w0 some
theorem s_trig_series [Amb] : Sound Try.prog 57 (F_trig_series f_trig_series) := Sound.nil 2 [.i .i64] <| (inl_sums (l := [(56, F_trig_m f_trig_m), (36, F___fx_Acc__Add f___fx_Acc__Add)]) (.cons s_trig_m (.cons s___fx_Acc__Add (.nil _))) mixed (hs := ⟨[⟨3, [2, 3, 4, 5, 6, 8, 9, 10, 11,
  12, 13, 17, 18, 19, 20, 21, 22, 23, 24, 25, 26, 27, 28, 29], []⟩], [⟨3, 2, @R_trig_series_0 (@L_trig_series_0)⟩], [0], [], (some ⟨0, [0, 1, 2, 3, 4, 5, 7, 8, 9, 10, 11, 12, 13, 14, 15, 16, 17, 18, 19, 20, 21, 22, 23, 24, 25, 26, 27, 28, 29], []⟩)⟩) (lf := 200) (Sums.by (l := [loopIn Try.prog 57 3]) (lj := []) (by kernel_rfl) ⟨so_trig_series_0,
  trivial⟩ (by kernel_rfl) trivial) (by kernel_rfl)).by (F := F0_trig_series f_trig_series) fun args b r hr => by
  obtain ⟨x0, x1, x2, x3, w0, rfl, rfl, hr1⟩ := e_trig_series hr
  exact inl_eval ((d_trig_series f_trig_m f___fx_Acc__Add (@L_trig_series_0) x0 x1 x2 x3 w0).trans ((n_trig_series (fun (d : Int × Bool) => some (Res.mk (AV.r (RV.c (CV.f (FV.i IntKind.i64 d.1)))) [Ch.set [Sg.c (CV.f (FV.b d.2))], Ch.keep] [])) x0 x1 x2 x3 w0).symm.trans hr1))

def K_trig_Sin {ρ : Type} (g___fx_Acc__Sat : Int → Bool → Option (Int × Bool)) (g_trig_Wrap : Int → Option Int) (g_fx_Abs : Int → Option Int) (g_trig_m : Int → Int → Bool → Option (Int × Bool)) (g_trig_series : Int → Nat → Bool → (Nat → Int) → Bool → Option (Int × Bool)) (x0 : Int) (x1 : Bool) (k : (Int ×
  Bool) → Option ρ) : Option ρ := Option.bind (g___fx_Acc__Sat x0 x1) fun (d : Int × Bool) => Option.bind (g_trig_Wrap d.1) fun (d_1 : Int) => bif decide (d_1 > 1686629713) then Option.bind (g_fx_Abs (IntKind.wrap IntKind.i64 (3373259426 - d_1))) fun (d_2 : Int) => bif decide (d_2 ≤ 843314857) then Option.bind (g_trig_m (IntKind.wrap IntKind.i64 (3373259426 - d_1)) (IntKind.wrap IntKind.i64 (3373259426 - d_1)) d.2) fun (d : Int ×
  Bool) => Option.bind (g_trig_series d.1 6 d.2 (fun (j : Nat) => bif Nat.beq j 5 then 1073741824 else bif Nat.beq j 4 then -178956971 else bif Nat.beq j 3 then 8947849 else bif Nat.beq j 2 then -213044 else bif Nat.beq j 1 then 2959 else bif Nat.beq j 0 then -27 else -27) true) fun (d : Int × Bool) => Option.bind (g_trig_m (IntKind.wrap IntKind.i64 (3373259426 - d_1)) d.1 d.2) fun (d : Int ×
  Bool) => k (if 1073741824 < if -1073741824 > d.1 then -1073741824 else d.1 then 1073741824 else if -1073741824 > d.1 then -1073741824 else d.1, d.2) else Option.bind (g_trig_m (IntKind.wrap IntKind.i64 (1686629713 - d_2)) (IntKind.wrap IntKind.i64 (1686629713 - d_2)) d.2) fun (d : Int × Bool) => Option.bind (g_trig_series d.1 7 d.2 (fun (j : Nat) => bif Nat.beq j 6 then
  1073741824 else bif Nat.beq j 5 then -536870912 else bif Nat.beq j 4 then 44739243 else bif Nat.beq j 3 then -1491308 else bif Nat.beq j 2 then 26631 else bif Nat.beq j 1 then -296 else bif Nat.beq j 0 then 2 else 2) true) fun (d : Int × Bool) => bif decide (IntKind.wrap IntKind.i64 (3373259426 - d_1) < 0) then
  k (if 1073741824 < if -1073741824 > IntKind.wrap IntKind.i64 (0 - d.1) then -1073741824 else IntKind.wrap IntKind.i64 (0 - d.1) then 1073741824 else if -1073741824 > IntKind.wrap IntKind.i64 (0 - d.1) then -1073741824 else IntKind.wrap IntKind.i64 (0 - d.1), d.2) else k (if 1073741824 < if -1073741824 > d.1 then
  -1073741824 else d.1 then 1073741824 else if -1073741824 > d.1 then -1073741824 else d.1, d.2) else bif decide (d_1 < -1686629713) then Option.bind (g_fx_Abs (IntKind.wrap IntKind.i64 (-3373259426 - d_1))) fun (d_2 : Int) => bif decide (d_2 ≤ 843314857) then Option.bind (g_trig_m (IntKind.wrap IntKind.i64 (-3373259426 - d_1)) (IntKind.wrap IntKind.i64 (-3373259426 - d_1)) d.2) fun (d : Int ×
  Bool) => Option.bind (g_trig_series d.1 6 d.2 (fun (j : Nat) => bif Nat.beq j 5 then 1073741824 else bif Nat.beq j 4 then -178956971 else bif Nat.beq j 3 then 8947849 else bif Nat.beq j 2 then -213044 else bif Nat.beq j 1 then 2959 else bif Nat.beq j 0 then -27 else -27) true) fun (d : Int × Bool) => Option.bind (g_trig_m (IntKind.wrap IntKind.i64 (-3373259426 - d_1)) d.1 d.2) fun (d : Int ×
  Bool) => k (if 1073741824 < if -1073741824 > d.1 then -1073741824 else d.1 then 1073741824 else if -1073741824 > d.1 then -1073741824 else d.1, d.2) else Option.bind (g_trig_m (IntKind.wrap IntKind.i64 (1686629713 - d_2)) (IntKind.wrap IntKind.i64 (1686629713 - d_2)) d.2) fun (d : Int × Bool) => Option.bind (g_trig_series d.1 7 d.2 (fun (j : Nat) => bif Nat.beq j 6 then
  1073741824 else bif Nat.beq j 5 then -536870912 else bif Nat.beq j 4 then 44739243 else bif Nat.beq j 3 then -1491308 else bif Nat.beq j 2 then 26631 else bif Nat.beq j 1 then -296 else bif Nat.beq j 0 then 2 else 2) true) fun (d : Int × Bool) => bif decide (IntKind.wrap IntKind.i64 (-3373259426 - d_1) < 0) then
  k (if 1073741824 < if -1073741824 > IntKind.wrap IntKind.i64 (0 - d.1) then -1073741824 else IntKind.wrap IntKind.i64 (0 - d.1) then 1073741824 else if -1073741824 > IntKind.wrap IntKind.i64 (0 - d.1) then -1073741824 else IntKind.wrap IntKind.i64 (0 - d.1), d.2) else k (if 1073741824 < if -1073741824 > d.1 then
  -1073741824 else d.1 then 1073741824 else if -1073741824 > d.1 then -1073741824 else d.1, d.2) else Option.bind (g_fx_Abs d_1) fun (d_2 : Int) => bif decide (d_2 ≤ 843314857) then Option.bind (g_trig_m d_1 d_1 d.2) fun (d : Int × Bool) => Option.bind (g_trig_series d.1 6 d.2 (fun (j : Nat) => bif Nat.beq j 5 then
  1073741824 else bif Nat.beq j 4 then -178956971 else bif Nat.beq j 3 then 8947849 else bif Nat.beq j 2 then -213044 else bif Nat.beq j 1 then 2959 else bif Nat.beq j 0 then -27 else -27) true) fun (d : Int × Bool) => Option.bind (g_trig_m d_1 d.1 d.2) fun (d : Int × Bool) => k (if 1073741824 < if -1073741824 > d.1 then
  -1073741824 else d.1 then 1073741824 else if -1073741824 > d.1 then -1073741824 else d.1, d.2) else Option.bind (g_trig_m (IntKind.wrap IntKind.i64 (1686629713 - d_2)) (IntKind.wrap IntKind.i64 (1686629713 - d_2)) d.2) fun (d : Int × Bool) => Option.bind (g_trig_series d.1 7 d.2 (fun (j : Nat) => bif Nat.beq j 6 then
  1073741824 else bif Nat.beq j 5 then -536870912 else bif Nat.beq j 4 then 44739243 else bif Nat.beq j 3 then -1491308 else bif Nat.beq j 2 then 26631 else bif Nat.beq j 1 then -296 else bif Nat.beq j 0 then 2 else 2) true) fun (d : Int × Bool) => bif decide (d_1 < 0) then k (if 1073741824 < if -1073741824 > IntKind.wrap IntKind.i64 (0 - d.1) then
  -1073741824 else IntKind.wrap IntKind.i64 (0 - d.1) then 1073741824 else if -1073741824 > IntKind.wrap IntKind.i64 (0 - d.1) then -1073741824 else IntKind.wrap IntKind.i64 (0 - d.1), d.2) else k (if 1073741824 < if -1073741824 > d.1 then -1073741824 else d.1 then 1073741824 else if -1073741824 > d.1 then
  -1073741824 else d.1, d.2)
def f_trig_Sin (x0 : Int) (x1 : Bool) : Option (Int × Bool) := K_trig_Sin f___fx_Acc__Sat f_trig_Wrap f_fx_Abs f_trig_m f_trig_series  x0 x1 some
section
open Go.Ab.Rdr
def QA_trig_Sin := ((pair (cons (ar (rc (cptr (nat 0) (ok' (nat 0)) (nat 1)))) (cons (ar (rc (cf (fi .i64 hole)))) nil)) (cons (cons (gc (cf (fb hole))) nil) nil)) : Rdr (List AV × List Blk) _)
end
def F_trig_Sin (f : (Int) → (Bool) → Option (Int × Bool)) : Sem1 := fun args h => match (QA_trig_Sin).rd (args, h) with
  | some b => .opt (f b.1.2.1 b.2.1.1) fun (d : Int × Bool) => .leaf (Res.mk (AV.r (RV.c (CV.f (FV.i IntKind.i64 d.1)))) [Ch.set [Sg.c (CV.f (FV.b d.2))]] [])
  | none => .fail
theorem d_trig_Sin (g___fx_Acc__Sat : Int → Bool → Option (Int × Bool)) (g_trig_Wrap : Int → Option Int) (g_fx_Abs : Int → Option Int) (g_trig_m : Int → Int → Bool → Option (Int × Bool)) (g_trig_series : Int → Nat → Bool → (Nat → Int) → Bool → Option (Int × Bool)) (x0 : Int) (x1 : Bool) : den Try.prog (envOf [(52,
  F___fx_Acc__Sat g___fx_Acc__Sat), (54, F_trig_Wrap g_trig_Wrap), (55, F_fx_Abs g_fx_Abs), (56, F_trig_m g_trig_m), (57, F_trig_series g_trig_series)]) ⟨[], [], [], [], none⟩ 200 31 [.r (.c (.ptr 0 (.k 0) 1)), .r (.c (.f (.i .i64 x0)))] [[.c (.f (.b x1))]] = K_trig_Sin g___fx_Acc__Sat g_trig_Wrap g_fx_Abs g_trig_m g_trig_series x0 x1 (fun (d : Int ×
  Bool) => some (Res.mk (AV.r (RV.c (CV.f (FV.i IntKind.i64 d.1)))) [Ch.set [Sg.c (CV.f (FV.b d.2))]] [])) := by kernel_rfl
theorem m_trig_Sin {ρ σ : Type} (q : ρ → Option σ) (g___fx_Acc__Sat : Int → Bool → Option (Int × Bool)) (g_trig_Wrap : Int → Option Int) (g_fx_Abs : Int → Option Int) (g_trig_m : Int → Int → Bool → Option (Int × Bool)) (g_trig_series : Int → Nat → Bool → (Nat → Int) → Bool → Option (Int × Bool))   (x0 : Int) (x1 : Bool) (k : (Int × Bool) → Option ρ) : (K_trig_Sin g___fx_Acc__Sat g_trig_Wrap g_fx_Abs g_trig_m g_trig_series  x0 x1 k).bind q = K_trig_Sin g___fx_Acc__Sat g_trig_Wrap g_fx_Abs g_trig_m g_trig_series  x0 x1 (fun d => (k d).bind q) := by
  simp only [K_trig_Sin, bnd_cond, bnd_bind, bnd_none, bnd_sum]
theorem qa_trig_Sin : ∀ b, (QA_trig_Sin).em b = ([.r (.c (.ptr 0 (.k 0) 1)), .r (.c (.f (.i .i64 b.1.2.1)))], [[.c (.f (.b b.2.1.1))]]) := fun b => by kernel_rfl
theorem e_trig_Sin {f : (Int) → (Bool) → Option (Int × Bool)} {args : List AV} {h : List Blk} {r : Res} (hr : (F_trig_Sin f args h).eval = some r) : ∃ x0 x1, args = [.r (.c (.ptr 0 (.k 0) 1)), .r (.c (.f (.i .i64 x0)))] ∧ h = [[.c (.f (.b x1))]] ∧ (f x0 x1).bind (fun (d : Int × Bool) => some (Res.mk (AV.r (RV.c (CV.f (FV.i IntKind.i64 d.1)))) [Ch.set [Sg.c (CV.f (FV.b d.2))]] [])) = some r := by
  unfold F_trig_Sin at hr
  split at hr
  · rename_i b hb
    have e := ((QA_trig_Sin).ok _ _ hb).trans (qa_trig_Sin b)
    rw [opt_eval2] at hr
    exact ⟨b.1.2.1, b.2.1.1, (Prod.mk.inj e).1, (Prod.mk.inj e).2, hr⟩
  · cases hr
theorem n_trig_Sin {σ : Type} (q : (Int × Bool) → Option σ) (x0 : Int) (x1 : Bool) : (f_trig_Sin x0 x1).bind q = K_trig_Sin f___fx_Acc__Sat f_trig_Wrap f_fx_Abs f_trig_m f_trig_series  x0 x1 q := by
  unfold f_trig_Sin
  exact m_trig_Sin q f___fx_Acc__Sat f_trig_Wrap f_fx_Abs f_trig_m f_trig_series   x0 x1 some
theorem s_trig_Sin [Amb] : Sound Try.prog 31 (F_trig_Sin f_trig_Sin) := (inl_sound (l := [(52, F___fx_Acc__Sat f___fx_Acc__Sat), (54, F_trig_Wrap f_trig_Wrap), (55, F_fx_Abs f_fx_Abs), (56, F_trig_m f_trig_m), (57, F_trig_series f_trig_series)]) (.cons s___fx_Acc__Sat (.cons s_trig_Wrap (.cons s_fx_Abs (.cons s_trig_m (.cons s_trig_series (.nil _)))))) mixed [] [] 200 (by kernel_rfl)).by (F := F_trig_Sin f_trig_Sin) fun args b r hr => by
  obtain ⟨x0, x1, rfl, rfl, hr1⟩ := e_trig_Sin hr
  exact inl_eval ((d_trig_Sin f___fx_Acc__Sat f_trig_Wrap f_fx_Abs f_trig_m f_trig_series  x0 x1).trans ((n_trig_Sin (fun (d : Int × Bool) => some (Res.mk (AV.r (RV.c (CV.f (FV.i IntKind.i64 d.1)))) [Ch.set [Sg.c (CV.f (FV.b d.2))]] [])) x0 x1).symm.trans hr1))

def K_trig_Cos {ρ : Type} (g_trig_Wrap : Int → Option Int) (g_trig_Sin : Int → Bool → Option (Int × Bool)) (x0 : Int) (x1 : Bool) (k : (Int × Bool) → Option ρ) : Option ρ := Option.bind (g_trig_Wrap x0) fun (d : Int) => Option.bind (g_trig_Sin (IntKind.wrap IntKind.i64 (1686629713 + d)) x1) fun (d : Int ×
  Bool) => k (d.1, d.2)
def f_trig_Cos (x0 : Int) (x1 : Bool) : Option (Int × Bool) := K_trig_Cos f_trig_Wrap f_trig_Sin  x0 x1 some
section
open Go.Ab.Rdr
def QA_trig_Cos := ((pair (cons (ar (rc (cptr (nat 0) (ok' (nat 0)) (nat 1)))) (cons (ar (rc (cf (fi .i64 hole)))) nil)) (cons (cons (gc (cf (fb hole))) nil) nil)) : Rdr (List AV × List Blk) _)
end
def F_trig_Cos (f : (Int) → (Bool) → Option (Int × Bool)) : Sem1 := fun args h => match (QA_trig_Cos).rd (args, h) with
  | some b => .opt (f b.1.2.1 b.2.1.1) fun (d : Int × Bool) => .leaf (Res.mk (AV.r (RV.c (CV.f (FV.i IntKind.i64 d.1)))) [Ch.set [Sg.c (CV.f (FV.b d.2))]] [])
  | none => .fail
theorem d_trig_Cos (g_trig_Wrap : Int → Option Int) (g_trig_Sin : Int → Bool → Option (Int × Bool)) (x0 : Int) (x1 : Bool) : den Try.prog (envOf [(54, F_trig_Wrap g_trig_Wrap), (31, F_trig_Sin g_trig_Sin)]) ⟨[], [], [], [], none⟩ 200 32 [.r (.c (.ptr 0 (.k 0) 1)), .r (.c (.f (.i .i64 x0)))] [[.c (.f (.b x1))]] = K_trig_Cos g_trig_Wrap g_trig_Sin x0 x1 (fun (d : Int ×
  Bool) => some (Res.mk (AV.r (RV.c (CV.f (FV.i IntKind.i64 d.1)))) [Ch.set [Sg.c (CV.f (FV.b d.2))]] [])) := by kernel_rfl
theorem m_trig_Cos {ρ σ : Type} (q : ρ → Option σ) (g_trig_Wrap : Int → Option Int) (g_trig_Sin : Int → Bool → Option (Int × Bool))   (x0 : Int) (x1 : Bool) (k : (Int × Bool) → Option ρ) : (K_trig_Cos g_trig_Wrap g_trig_Sin  x0 x1 k).bind q = K_trig_Cos g_trig_Wrap g_trig_Sin  x0 x1 (fun d => (k d).bind q) := by
  simp only [K_trig_Cos, bnd_cond, bnd_bind, bnd_none, bnd_sum]
theorem qa_trig_Cos : ∀ b, (QA_trig_Cos).em b = ([.r (.c (.ptr 0 (.k 0) 1)), .r (.c (.f (.i .i64 b.1.2.1)))], [[.c (.f (.b b.2.1.1))]]) := fun b => by kernel_rfl
theorem e_trig_Cos {f : (Int) → (Bool) → Option (Int × Bool)} {args : List AV} {h : List Blk} {r : Res} (hr : (F_trig_Cos f args h).eval = some r) : ∃ x0 x1, args = [.r (.c (.ptr 0 (.k 0) 1)), .r (.c (.f (.i .i64 x0)))] ∧ h = [[.c (.f (.b x1))]] ∧ (f x0 x1).bind (fun (d : Int × Bool) => some (Res.mk (AV.r (RV.c (CV.f (FV.i IntKind.i64 d.1)))) [Ch.set [Sg.c (CV.f (FV.b d.2))]] [])) = some r := by
  unfold F_trig_Cos at hr
  split at hr
  · rename_i b hb
    have e := ((QA_trig_Cos).ok _ _ hb).trans (qa_trig_Cos b)
    rw [opt_eval2] at hr
    exact ⟨b.1.2.1, b.2.1.1, (Prod.mk.inj e).1, (Prod.mk.inj e).2, hr⟩
  · cases hr
theorem n_trig_Cos {σ : Type} (q : (Int × Bool) → Option σ) (x0 : Int) (x1 : Bool) : (f_trig_Cos x0 x1).bind q = K_trig_Cos f_trig_Wrap f_trig_Sin  x0 x1 q := by
  unfold f_trig_Cos
  exact m_trig_Cos q f_trig_Wrap f_trig_Sin   x0 x1 some
theorem s_trig_Cos [Amb] : Sound Try.prog 32 (F_trig_Cos f_trig_Cos) := (inl_sound (l := [(54, F_trig_Wrap f_trig_Wrap), (31, F_trig_Sin f_trig_Sin)]) (.cons s_trig_Wrap (.cons s_trig_Sin (.nil _))) mixed [] [] 200 (by kernel_rfl)).by (F := F_trig_Cos f_trig_Cos) fun args b r hr => by
  obtain ⟨x0, x1, rfl, rfl, hr1⟩ := e_trig_Cos hr
  exact inl_eval ((d_trig_Cos f_trig_Wrap f_trig_Sin  x0 x1).trans ((n_trig_Cos (fun (d : Int × Bool) => some (Res.mk (AV.r (RV.c (CV.f (FV.i IntKind.i64 d.1)))) [Ch.set [Sg.c (CV.f (FV.b d.2))]] [])) x0 x1).symm.trans hr1))

def K_wide_Shift {ρ : Type} (g_wide_abs64 : Int → Option Int) (g__wide_big__shl : Int → Int → Int → Option (Int × Int)) (g__wide_big__shr : Int → Int → Int → Option (Int × Int)) (g_wide_signed : Int → Int → Bool → Option (Int × Int × Bool)) (x0 : Int) (x1 : Int) (k : (Int × Int × Bool) → Option ρ) : Option ρ := bif decide (x1 < 0) then
  k (0, 0, false) else bif decide (x1 > 127) then k (0, 0, false) else Option.bind (g_wide_abs64 x0) fun (d : Int) => Option.bind (g__wide_big__shl 0 d x1) fun (d_1 : Int × Int) => Option.bind (g__wide_big__shr d_1.1 d_1.2 x1) fun (d_2 : Int × Int) => bif !(d_2.1 == 0 && (d_2.2 == d && true)) then
  k (0, 0, false) else Option.bind (g_wide_signed d_1.1 d_1.2 (decide (x0 < 0))) fun (d : Int × Int × Bool) => bif !d.2.2 then k (0, 0, false) else k (d.1, d.2.1, true)
def f_wide_Shift (x0 : Int) (x1 : Int) : Option (Int × Int × Bool) := K_wide_Shift f_wide_abs64 f__wide_big__shl f__wide_big__shr f_wide_signed  x0 x1 some
section
open Go.Ab.Rdr
def QA_wide_Shift := ((pair (cons (ar (rc (cf (fi .i64 hole)))) (cons (ar (rc (cf (fi .i64 hole)))) nil)) nil) : Rdr (List AV × List Blk) _)
end
def F_wide_Shift (f : (Int) → (Int) → Option (Int × Int × Bool)) : Sem1 := fun args h => match (QA_wide_Shift).rd (args, h) with
  | some b => .opt (f b.1.1 b.1.2.1) fun (d : Int × Int × Bool) => .leaf (Res.mk (AV.tup [RV.agg [Sg.c (CV.f (FV.i IntKind.i64 d.1)), Sg.c (CV.f (FV.i IntKind.u64 d.2.1))], RV.c (CV.f (FV.b d.2.2))]) [] [])
  | none => .fail
theorem d_wide_Shift (g_wide_abs64 : Int → Option Int) (g__wide_big__shl : Int → Int → Int → Option (Int × Int)) (g__wide_big__shr : Int → Int → Int → Option (Int × Int)) (g_wide_signed : Int → Int → Bool → Option (Int × Int × Bool)) (x0 : Int) (x1 : Int) : den Try.prog (envOf [(76, F_wide_abs64 g_wide_abs64),
  (78, F__wide_big__shl g__wide_big__shl), (79, F__wide_big__shr g__wide_big__shr), (77, F_wide_signed g_wide_signed)]) ⟨[], [], [], [], none⟩ 200 58 [.r (.c (.f (.i .i64 x0))), .r (.c (.f (.i .i64 x1)))] [] = K_wide_Shift g_wide_abs64 g__wide_big__shl g__wide_big__shr g_wide_signed x0 x1 (fun (d : Int ×
  Int × Bool) => some (Res.mk (AV.tup [RV.agg [Sg.c (CV.f (FV.i IntKind.i64 d.1)), Sg.c (CV.f (FV.i IntKind.u64 d.2.1))], RV.c (CV.f (FV.b d.2.2))]) [] [])) := by kernel_rfl
theorem m_wide_Shift {ρ σ : Type} (q : ρ → Option σ) (g_wide_abs64 : Int → Option Int) (g__wide_big__shl : Int → Int → Int → Option (Int × Int)) (g__wide_big__shr : Int → Int → Int → Option (Int × Int)) (g_wide_signed : Int → Int → Bool → Option (Int × Int × Bool))   (x0 : Int) (x1 : Int) (k : (Int × Int × Bool) → Option ρ) : (K_wide_Shift g_wide_abs64 g__wide_big__shl g__wide_big__shr g_wide_signed  x0 x1 k).bind q = K_wide_Shift g_wide_abs64 g__wide_big__shl g__wide_big__shr g_wide_signed  x0 x1 (fun d => (k d).bind q) := by
  simp only [K_wide_Shift, bnd_cond, bnd_bind, bnd_none, bnd_sum]
theorem qa_wide_Shift : ∀ b, (QA_wide_Shift).em b = ([.r (.c (.f (.i .i64 b.1.1))), .r (.c (.f (.i .i64 b.1.2.1)))], []) := fun b => by kernel_rfl
theorem e_wide_Shift {f : (Int) → (Int) → Option (Int × Int × Bool)} {args : List AV} {h : List Blk} {r : Res} (hr : (F_wide_Shift f args h).eval = some r) : ∃ x0 x1, args = [.r (.c (.f (.i .i64 x0))), .r (.c (.f (.i .i64 x1)))] ∧ h = [] ∧ (f x0 x1).bind (fun (d : Int × Int × Bool) => some (Res.mk (AV.tup [RV.agg [Sg.c (CV.f (FV.i IntKind.i64 d.1)), Sg.c (CV.f (FV.i IntKind.u64 d.2.1))], RV.c (CV.f (FV.b d.2.2))]) [] [])) = some r := by
  unfold F_wide_Shift at hr
  split at hr
  · rename_i b hb
    have e := ((QA_wide_Shift).ok _ _ hb).trans (qa_wide_Shift b)
    rw [opt_eval2] at hr
    exact ⟨b.1.1, b.1.2.1, (Prod.mk.inj e).1, (Prod.mk.inj e).2, hr⟩
  · cases hr
theorem n_wide_Shift {σ : Type} (q : (Int × Int × Bool) → Option σ) (x0 : Int) (x1 : Int) : (f_wide_Shift x0 x1).bind q = K_wide_Shift f_wide_abs64 f__wide_big__shl f__wide_big__shr f_wide_signed  x0 x1 q := by
  unfold f_wide_Shift
  exact m_wide_Shift q f_wide_abs64 f__wide_big__shl f__wide_big__shr f_wide_signed   x0 x1 some
theorem s_wide_Shift [Amb] : Sound Try.prog 58 (F_wide_Shift f_wide_Shift) := (inl_sound (l := [(76, F_wide_abs64 f_wide_abs64), (78, F__wide_big__shl f__wide_big__shl), (79, F__wide_big__shr f__wide_big__shr), (77, F_wide_signed f_wide_signed)]) (.cons s_wide_abs64 (.cons s__wide_big__shl (.cons s__wide_big__shr (.cons s_wide_signed (.nil _))))) mixed [] [] 200 (by kernel_rfl)).by (F := F_wide_Shift f_wide_Shift) fun args b r hr => by
  obtain ⟨x0, x1, rfl, rfl, hr1⟩ := e_wide_Shift hr
  exact inl_eval ((d_wide_Shift f_wide_abs64 f__wide_big__shl f__wide_big__shr f_wide_signed  x0 x1).trans ((n_wide_Shift (fun (d : Int × Int × Bool) => some (Res.mk (AV.tup [RV.agg [Sg.c (CV.f (FV.i IntKind.i64 d.1)), Sg.c (CV.f (FV.i IntKind.u64 d.2.1))], RV.c (CV.f (FV.b d.2.2))]) [] [])) x0 x1).symm.trans hr1))

def K__wide_big__less {ρ : Type} (x0 : Int) (x1 : Int) (x2 : Int) (x3 : Int) (k : (Bool) → Option ρ) : Option ρ := bif decide (x0 < x2) then k true else bif x0 == x2 then k (decide (x1 < x3)) else k false
def f__wide_big__less (x0 : Int) (x1 : Int) (x2 : Int) (x3 : Int) : Option (Bool) := K__wide_big__less   x0 x1 x2 x3 some
section
open Go.Ab.Rdr
def QA__wide_big__less := ((pair (cons (ar (ra (cons (gc (cf (fi .u64 hole))) (cons (gc (cf (fi .u64 hole))) nil)))) (cons (ar (ra (cons (gc (cf (fi .u64 hole))) (cons (gc (cf (fi .u64 hole))) nil)))) nil)) nil) : Rdr (List AV × List Blk) _)
end
def F__wide_big__less (f : (Int) → (Int) → (Int) → (Int) → Option (Bool)) : Sem1 := fun args h => match (QA__wide_big__less).rd (args, h) with
  | some b => .opt (f b.1.1.1 b.1.1.2.1 b.1.2.1.1 b.1.2.1.2.1) fun (d : Bool) => .leaf (Res.mk (AV.r (RV.c (CV.f (FV.b d)))) [] [])
  | none => .fail
theorem d__wide_big__less (x0 : Int) (x1 : Int) (x2 : Int) (x3 : Int) : den Try.prog (envOf []) ⟨[], [], [], [], none⟩ 200 92 [.r (.agg [.c (.f (.i .u64 x0)), .c (.f (.i .u64 x1))]), .r (.agg [.c (.f (.i .u64 x2)), .c (.f (.i .u64 x3))])] [] = K__wide_big__less x0 x1 x2 x3 (fun (d : Bool) => some (Res.mk (AV.r (RV.c (CV.f (FV.b d)))) [] [])) := by kernel_rfl
theorem m__wide_big__less {ρ σ : Type} (q : ρ → Option σ)    (x0 : Int) (x1 : Int) (x2 : Int) (x3 : Int) (k : (Bool) → Option ρ) : (K__wide_big__less   x0 x1 x2 x3 k).bind q = K__wide_big__less   x0 x1 x2 x3 (fun d => (k d).bind q) := by
  simp only [K__wide_big__less, bnd_cond, bnd_bind, bnd_none, bnd_sum]
theorem qa__wide_big__less : ∀ b, (QA__wide_big__less).em b = ([.r (.agg [.c (.f (.i .u64 b.1.1.1)), .c (.f (.i .u64 b.1.1.2.1))]), .r (.agg [.c (.f (.i .u64 b.1.2.1.1)), .c (.f (.i .u64 b.1.2.1.2.1))])], []) := fun b => by kernel_rfl
theorem e__wide_big__less {f : (Int) → (Int) → (Int) → (Int) → Option (Bool)} {args : List AV} {h : List Blk} {r : Res} (hr : (F__wide_big__less f args h).eval = some r) : ∃ x0 x1 x2 x3, args = [.r (.agg [.c (.f (.i .u64 x0)), .c (.f (.i .u64 x1))]), .r (.agg [.c (.f (.i .u64 x2)), .c (.f (.i .u64 x3))])] ∧ h = [] ∧ (f x0 x1 x2 x3).bind (fun (d : Bool) => some (Res.mk (AV.r (RV.c (CV.f (FV.b d)))) [] [])) = some r := by
  unfold F__wide_big__less at hr
  split at hr
  · rename_i b hb
    have e := ((QA__wide_big__less).ok _ _ hb).trans (qa__wide_big__less b)
    rw [opt_eval2] at hr
    exact ⟨b.1.1.1, b.1.1.2.1, b.1.2.1.1, b.1.2.1.2.1, (Prod.mk.inj e).1, (Prod.mk.inj e).2, hr⟩
  · cases hr
theorem n__wide_big__less {σ : Type} (q : (Bool) → Option σ) (x0 : Int) (x1 : Int) (x2 : Int) (x3 : Int) : (f__wide_big__less x0 x1 x2 x3).bind q = K__wide_big__less   x0 x1 x2 x3 q := by
  unfold f__wide_big__less
  exact m__wide_big__less q    x0 x1 x2 x3 some
theorem s__wide_big__less [Amb] : Sound Try.prog 92 (F__wide_big__less f__wide_big__less) := (inl_sound (l := []) (.nil _) mixed [] [] 200 (by kernel_rfl)).by (F := F__wide_big__less f__wide_big__less) fun args b r hr => by
  obtain ⟨x0, x1, x2, x3, rfl, rfl, hr1⟩ := e__wide_big__less hr
  exact inl_eval ((d__wide_big__less   x0 x1 x2 x3).trans ((n__wide_big__less (fun (d : Bool) => some (Res.mk (AV.r (RV.c (CV.f (FV.b d)))) [] [])) x0 x1 x2 x3).symm.trans hr1))

def K__wide_big__minus {ρ : Type} (g_Sub64 : C3) (x0 : Int) (x1 : Int) (x2 : Int) (x3 : Int) (k : (Int × Int) → Option ρ) : Option ρ := Option.bind (g_Sub64 x1 x3 0) fun (d : Int × Int) => Option.bind (g_Sub64 x0 x2 d.2) fun (d_1 : Int × Int) => k (d_1.1, d.1)
def f__wide_big__minus (x0 : Int) (x1 : Int) (x2 : Int) (x3 : Int) : Option (Int × Int) := K__wide_big__minus f_Sub64  x0 x1 x2 x3 some
section
open Go.Ab.Rdr
def QA__wide_big__minus := ((pair (cons (ar (ra (cons (gc (cf (fi .u64 hole))) (cons (gc (cf (fi .u64 hole))) nil)))) (cons (ar (ra (cons (gc (cf (fi .u64 hole))) (cons (gc (cf (fi .u64 hole))) nil)))) nil)) nil) : Rdr (List AV × List Blk) _)
end
def F__wide_big__minus (f : (Int) → (Int) → (Int) → (Int) → Option (Int × Int)) : Sem1 := fun args h => match (QA__wide_big__minus).rd (args, h) with
  | some b => .opt (f b.1.1.1 b.1.1.2.1 b.1.2.1.1 b.1.2.1.2.1) fun (d : Int × Int) => .leaf (Res.mk (AV.r (RV.agg [Sg.c (CV.f (FV.i IntKind.u64 d.1)), Sg.c (CV.f (FV.i IntKind.u64 d.2))])) [] [])
  | none => .fail
theorem d__wide_big__minus (g_Sub64 : C3) (x0 : Int) (x1 : Int) (x2 : Int) (x3 : Int) : den Try.prog (envOf [(95, F_carry g_Sub64)]) ⟨[], [], [], [], none⟩ 200 93 [.r (.agg [.c (.f (.i .u64 x0)), .c (.f (.i .u64 x1))]), .r (.agg [.c (.f (.i .u64 x2)), .c (.f (.i .u64 x3))])] [] = K__wide_big__minus g_Sub64 x0 x1 x2 x3 (fun (d : Int ×
  Int) => some (Res.mk (AV.r (RV.agg [Sg.c (CV.f (FV.i IntKind.u64 d.1)), Sg.c (CV.f (FV.i IntKind.u64 d.2))])) [] [])) := by kernel_rfl
theorem m__wide_big__minus {ρ σ : Type} (q : ρ → Option σ) (g_Sub64 : C3)   (x0 : Int) (x1 : Int) (x2 : Int) (x3 : Int) (k : (Int × Int) → Option ρ) : (K__wide_big__minus g_Sub64  x0 x1 x2 x3 k).bind q = K__wide_big__minus g_Sub64  x0 x1 x2 x3 (fun d => (k d).bind q) := by
  simp only [K__wide_big__minus, bnd_cond, bnd_bind, bnd_none, bnd_sum]
theorem qa__wide_big__minus : ∀ b, (QA__wide_big__minus).em b = ([.r (.agg [.c (.f (.i .u64 b.1.1.1)), .c (.f (.i .u64 b.1.1.2.1))]), .r (.agg [.c (.f (.i .u64 b.1.2.1.1)), .c (.f (.i .u64 b.1.2.1.2.1))])], []) := fun b => by kernel_rfl
theorem e__wide_big__minus {f : (Int) → (Int) → (Int) → (Int) → Option (Int × Int)} {args : List AV} {h : List Blk} {r : Res} (hr : (F__wide_big__minus f args h).eval = some r) : ∃ x0 x1 x2 x3, args = [.r (.agg [.c (.f (.i .u64 x0)), .c (.f (.i .u64 x1))]), .r (.agg [.c (.f (.i .u64 x2)), .c (.f (.i .u64 x3))])] ∧ h = [] ∧ (f x0 x1 x2 x3).bind (fun (d : Int × Int) => some (Res.mk (AV.r (RV.agg [Sg.c (CV.f (FV.i IntKind.u64 d.1)), Sg.c (CV.f (FV.i IntKind.u64 d.2))])) [] [])) = some r := by
  unfold F__wide_big__minus at hr
  split at hr
  · rename_i b hb
    have e := ((QA__wide_big__minus).ok _ _ hb).trans (qa__wide_big__minus b)
    rw [opt_eval2] at hr
    exact ⟨b.1.1.1, b.1.1.2.1, b.1.2.1.1, b.1.2.1.2.1, (Prod.mk.inj e).1, (Prod.mk.inj e).2, hr⟩
  · cases hr
theorem n__wide_big__minus {σ : Type} (q : (Int × Int) → Option σ) (x0 : Int) (x1 : Int) (x2 : Int) (x3 : Int) : (f__wide_big__minus x0 x1 x2 x3).bind q = K__wide_big__minus f_Sub64  x0 x1 x2 x3 q := by
  unfold f__wide_big__minus
  exact m__wide_big__minus q f_Sub64   x0 x1 x2 x3 some
theorem s__wide_big__minus [Amb] : Sound Try.prog 93 (F__wide_big__minus f__wide_big__minus) := (inl_sound (l := [(95, F_carry f_Sub64)]) (.cons s_Sub64 (.nil _)) mixed [] [] 200 (by kernel_rfl)).by (F := F__wide_big__minus f__wide_big__minus) fun args b r hr => by
  obtain ⟨x0, x1, x2, x3, rfl, rfl, hr1⟩ := e__wide_big__minus hr
  exact inl_eval ((d__wide_big__minus f_Sub64  x0 x1 x2 x3).trans ((n__wide_big__minus (fun (d : Int × Int) => some (Res.mk (AV.r (RV.agg [Sg.c (CV.f (FV.i IntKind.u64 d.1)), Sg.c (CV.f (FV.i IntKind.u64 d.2))])) [] [])) x0 x1 x2 x3).symm.trans hr1))

def S_wide_Root_0 {ρ : Type} (g__wide_big__shl : Int → Int → Int → Option (Int × Int)) (g__wide_big__plus : Int → Int → Int → Int → Option (Int × Int)) (g__wide_big__shr : Int → Int → Int → Option (Int × Int)) (g__wide_big__less : Int → Int → Int → Int → Option Bool) (g__wide_big__minus : Int → Int →
  Int → Int → Option (Int × Int)) (g_wide_signed64 : Int → Int → Bool → Option (Int × Bool)) (x0 : Int) (x1 : Int) (x2 : Int) (x3 : Int) (x4 : Int) (c : (Int × Int × Int × Int × Int) → Option ρ) (x : (Int × Bool × Int × Int × Int × Int) → Option ρ) : Option ρ := bif decide (x0 ≥ 0) then Option.bind (g__wide_big__shl 0 1 x0) fun (d : Int ×
  Int) => Option.bind (g__wide_big__plus x3 x4 d.1 d.2) fun (d_1 : Int × Int) => Option.bind (g__wide_big__shr x3 x4 1) fun (d_2 : Int × Int) => Option.bind (g__wide_big__less x1 x2 d_1.1 d_1.2) fun (d_3 : Bool) => bif !d_3 then Option.bind (g__wide_big__minus x1 x2 d_1.1 d_1.2) fun (d_4 : Int ×
  Int) => Option.bind (g__wide_big__plus d_2.1 d_2.2 d.1 d.2) fun (d : Int × Int) => c (IntKind.wrap IntKind.i64 (x0 - 2), d_4.1, d_4.2, d.1, d.2) else c (IntKind.wrap IntKind.i64 (x0 - 2), x1, x2, d_2.1, d_2.2) else x (x0, decide (x0 ≥ 0), x1, x2, x3, x4)
section
open Go.Ab.Rdr
def Q_wide_Root_0 := (st (cons aund (cons aund (cons aund (cons aund (cons (ar (rc (cptr (nat 0) (ok' (nat 0)) (nat 2)))) (cons (ar (rc (cptr (nat 1) (ok' (nat 0)) (nat 2)))) (cons (ar (rc (cf (fi .i64 hole)))) (cons aund (cons aund (cons aund (cons aund (cons aund (cons aund (cons aund (cons aund (cons aund (cons aund (cons aund (cons aund (cons aund (cons aund (cons aund (cons aund (cons aund (cons aund (cons aund (cons aund (cons aund (cons aund (cons aund (cons aund (cons aund (cons aund (cons aund (cons aund (cons aund (cons aund (cons aund (cons aund (cons aund (cons aund (cons aund (cons aund (cons aund (cons aund (cons aund (cons aund (cons aund (cons aund (cons aund (cons aund nil))))))))))))))))))))))))))))))))))))))))))))))))))) (cons (some' (cons (gc (cf (fi .u64 hole))) (cons (gc (cf (fi .u64 hole))) nil))) (cons (some' (cons (gc (cf (fi .u64 hole))) (cons (gc (cf (fi .u64 hole))) nil))) nil)) nil)
end
theorem q_wide_Root_0 : ∀ b, (Q_wide_Root_0).em b = St.mk [AV.und, AV.und, AV.und, AV.und, AV.r (RV.c (CV.ptr 0 (Off.k 0) 2)), AV.r (RV.c (CV.ptr 1 (Off.k 0) 2)), AV.r (RV.c (CV.f (FV.i IntKind.i64 b.1.2.2.2.2.2.2.1))), AV.und, AV.und, AV.und, AV.und, AV.und, AV.und, AV.und, AV.und, AV.und, AV.und, AV.und,
  AV.und, AV.und, AV.und, AV.und, AV.und, AV.und, AV.und, AV.und, AV.und, AV.und, AV.und, AV.und, AV.und, AV.und, AV.und, AV.und, AV.und, AV.und, AV.und, AV.und, AV.und, AV.und, AV.und, AV.und, AV.und, AV.und, AV.und, AV.und, AV.und, AV.und, AV.und, AV.und, AV.und] [some [Sg.c (CV.f (FV.i IntKind.u64 b.2.1.1.1)),
  Sg.c (CV.f (FV.i IntKind.u64 b.2.1.1.2.1))], some [Sg.c (CV.f (FV.i IntKind.u64 b.2.1.2.1.1)), Sg.c (CV.f (FV.i IntKind.u64 b.2.1.2.1.2.1))]] [] := fun b => by kernel_rfl
def R_wide_Root_0 (l : ∀ {ρ : Type}, (Int × Int × Int × Int × Int) → ((Int × Bool × Int × Int × Int × Int) → Option ρ) → Option ρ) {ρ : Type} (s : St) (K : AX → St → Option ρ) : Option ρ := ((Q_wide_Root_0).rd s).bind fun b => l (b.1.2.2.2.2.2.2.1, b.2.1.1.1, b.2.1.1.2.1, b.2.1.2.1.1, b.2.1.2.1.2.1) (fun d => K (AX.ex 0) (St.mk [AV.und,
  AV.und, AV.und, AV.und, AV.r (RV.c (CV.ptr 0 (Off.k 0) 2)), AV.r (RV.c (CV.ptr 1 (Off.k 0) 2)), AV.r (RV.c (CV.f (FV.i IntKind.i64 d.1))), AV.und, AV.und, AV.und, AV.und, AV.und, AV.und, AV.und, AV.und, AV.und, AV.und, AV.und, AV.und, AV.r (RV.c (CV.f (FV.i IntKind.i64 d.1))), AV.r (RV.c (CV.f (FV.b d.2.1))),
  AV.und, AV.und, AV.und, AV.und, AV.und, AV.und, AV.und, AV.und, AV.und, AV.und, AV.und, AV.und, AV.und, AV.und, AV.und, AV.und, AV.und, AV.und, AV.und, AV.und, AV.und, AV.und, AV.und, AV.und, AV.und, AV.und, AV.und, AV.und, AV.und, AV.und] [some [Sg.c (CV.f (FV.i IntKind.u64 d.2.2.1)), Sg.c (CV.f (FV.i IntKind.u64 d.2.2.2.1))],
  some [Sg.c (CV.f (FV.i IntKind.u64 d.2.2.2.2.1)), Sg.c (CV.f (FV.i IntKind.u64 d.2.2.2.2.2))]] []))
theorem ms_wide_Root_0 {ρ σ : Type} (g__wide_big__shl : Int → Int → Int → Option (Int × Int)) (g__wide_big__plus : Int → Int → Int → Int → Option (Int × Int)) (g__wide_big__shr : Int → Int → Int → Option (Int × Int)) (g__wide_big__less : Int → Int → Int → Int → Option Bool) (g__wide_big__minus : Int → Int → Int → Int → Option (Int × Int)) (g_wide_signed64 : Int → Int → Bool → Option (Int × Bool))   (q : ρ → Option σ) (x0 : Int) (x1 : Int) (x2 : Int) (x3 : Int) (x4 : Int) (c : (Int × Int × Int × Int × Int) → Option ρ) (x : (Int × Bool × Int × Int × Int × Int) → Option ρ) : (S_wide_Root_0 g__wide_big__shl g__wide_big__plus g__wide_big__shr g__wide_big__less g__wide_big__minus g_wide_signed64  x0 x1 x2 x3 x4 c x).bind q = S_wide_Root_0 g__wide_big__shl g__wide_big__plus g__wide_big__shr g__wide_big__less g__wide_big__minus g_wide_signed64  x0 x1 x2 x3 x4 (fun d => (c d).bind q) (fun d => (x d).bind q) := by
  simp only [S_wide_Root_0, bnd_cond, bnd_bind, bnd_none, bnd_sum]
def L_wide_Root_0 {ρ : Type} (d : Int × Int × Int × Int × Int) (k : (Int × Bool × Int × Int × Int × Int) → Option ρ) : Option ρ := loopK (fun d c x => S_wide_Root_0 f__wide_big__shl f__wide_big__plus f__wide_big__shr f__wide_big__less f__wide_big__minus f_wide_signed64  d.1 d.2.1 d.2.2.1 d.2.2.2.1 d.2.2.2.2 c x) 200 d k
theorem mL_wide_Root_0 {ρ σ : Type} (q : ρ → Option σ) (d : Int × Int × Int × Int × Int) (k : (Int × Bool × Int × Int × Int × Int) → Option ρ) : (L_wide_Root_0 d k).bind q = L_wide_Root_0 d fun x => (k x).bind q := loopK_bind q (fun d c x => ms_wide_Root_0 f__wide_big__shl f__wide_big__plus f__wide_big__shr f__wide_big__less f__wide_big__minus f_wide_signed64 q d.1 d.2.1 d.2.2.1 d.2.2.2.1 d.2.2.2.2 c x) k _ d
theorem ds_wide_Root_0 {ρ : Type} (g__wide_big__shl : Int → Int → Int → Option (Int × Int)) (g__wide_big__plus : Int → Int → Int → Int → Option (Int × Int)) (g__wide_big__shr : Int → Int → Int → Option (Int × Int)) (g__wide_big__less : Int → Int → Int → Int → Option Bool) (g__wide_big__minus : Int →
  Int → Int → Int → Option (Int × Int)) (g_wide_signed64 : Int → Int → Bool → Option (Int × Bool)) (l_0 : ∀ {ρ : Type}, (Int × Int × Int × Int × Int) → ((Int × Bool × Int × Int × Int × Int) → Option ρ) → Option ρ) (x0 : Int) (x1 : Int) (x2 : Int) (x3 : Int) (x4 : Int) (c : St → Option ρ) (K : AX → St →
  Option ρ) : runC Try.prog (envOf [(78, F__wide_big__shl g__wide_big__shl), (83, F__wide_big__plus g__wide_big__plus), (79, F__wide_big__shr g__wide_big__shr), (92, F__wide_big__less g__wide_big__less), (93, F__wide_big__minus g__wide_big__minus), (84, F_wide_signed64 g_wide_signed64)]) ⟨[⟨5,
  [0, 1, 2, 3, 7, 8, 9, 10, 11, 12, 13, 14, 15, 16, 17, 18, 19, 20, 21, 22, 23, 24, 25, 26, 27, 28, 29, 30, 31, 32, 33, 34, 35, 36, 37, 38, 39, 40, 41, 42, 43, 44, 45, 46, 47, 48, 49, 50], []⟩], [⟨5, 0, @R_wide_Root_0 (@l_0)⟩], [], [], (some ⟨0, [0, 1, 4, 5, 6, 7, 8, 9, 10, 11, 12, 13, 14, 15, 16, 17,
  18, 19, 20, 21, 22, 23, 24, 25, 26, 27, 28, 29, 30, 31, 32, 33, 34, 35, 36, 37, 38, 39, 40, 41, 42, 43, 44, 45, 46, 47, 48, 49, 50], []⟩)⟩ (tmpsOf Try.prog 80) 0 200 (loopIn Try.prog 80 5) (St.mk [AV.und, AV.und, AV.und, AV.und, AV.r (RV.c (CV.ptr 0 (Off.k 0) 2)), AV.r (RV.c (CV.ptr 1 (Off.k 0) 2)),
  AV.r (RV.c (CV.f (FV.i IntKind.i64 x0))), AV.und, AV.und, AV.und, AV.und, AV.und, AV.und, AV.und, AV.und, AV.und, AV.und, AV.und, AV.und, AV.und, AV.und, AV.und, AV.und, AV.und, AV.und, AV.und, AV.und, AV.und, AV.und, AV.und, AV.und, AV.und, AV.und, AV.und, AV.und, AV.und, AV.und, AV.und, AV.und, AV.und,
  AV.und, AV.und, AV.und, AV.und, AV.und, AV.und, AV.und, AV.und, AV.und, AV.und, AV.und] [some [Sg.c (CV.f (FV.i IntKind.u64 x1)), Sg.c (CV.f (FV.i IntKind.u64 x2))], some [Sg.c (CV.f (FV.i IntKind.u64 x3)), Sg.c (CV.f (FV.i IntKind.u64 x4))]] []) (next (fun t => t.head 0 ⟨[⟨5, [0, 1, 2, 3, 7, 8, 9, 10,
  11, 12, 13, 14, 15, 16, 17, 18, 19, 20, 21, 22, 23, 24, 25, 26, 27, 28, 29, 30, 31, 32, 33, 34, 35, 36, 37, 38, 39, 40, 41, 42, 43, 44, 45, 46, 47, 48, 49, 50], []⟩], [⟨5, 0, @R_wide_Root_0 (@l_0)⟩], [], [], (some ⟨0, [0, 1, 4, 5, 6, 7, 8, 9, 10, 11, 12, 13, 14, 15, 16, 17, 18, 19, 20, 21, 22, 23, 24,
  25, 26, 27, 28, 29, 30, 31, 32, 33, 34, 35, 36, 37, 38, 39, 40, 41, 42, 43, 44, 45, 46, 47, 48, 49, 50], []⟩)⟩ (loopIn Try.prog 80 5)) c K) = S_wide_Root_0 g__wide_big__shl g__wide_big__plus g__wide_big__shr g__wide_big__less g__wide_big__minus g_wide_signed64 x0 x1 x2 x3 x4 (fun d => c (St.mk [AV.und,
  AV.und, AV.und, AV.und, AV.r (RV.c (CV.ptr 0 (Off.k 0) 2)), AV.r (RV.c (CV.ptr 1 (Off.k 0) 2)), AV.r (RV.c (CV.f (FV.i IntKind.i64 d.1))), AV.und, AV.und, AV.und, AV.und, AV.und, AV.und, AV.und, AV.und, AV.und, AV.und, AV.und, AV.und, AV.und, AV.und, AV.und, AV.und, AV.und, AV.und, AV.und, AV.und,
  AV.und, AV.und, AV.und, AV.und, AV.und, AV.und, AV.und, AV.und, AV.und, AV.und, AV.und, AV.und, AV.und, AV.und, AV.und, AV.und, AV.und, AV.und, AV.und, AV.und, AV.und, AV.und, AV.und, AV.und] [some [Sg.c (CV.f (FV.i IntKind.u64 d.2.1)), Sg.c (CV.f (FV.i IntKind.u64 d.2.2.1))], some [Sg.c (CV.f (FV.i IntKind.u64 d.2.2.2.1)),
  Sg.c (CV.f (FV.i IntKind.u64 d.2.2.2.2))]] [])) (fun d => K (AX.ex 0) (St.mk [AV.und, AV.und, AV.und, AV.und, AV.r (RV.c (CV.ptr 0 (Off.k 0) 2)), AV.r (RV.c (CV.ptr 1 (Off.k 0) 2)), AV.r (RV.c (CV.f (FV.i IntKind.i64 d.1))), AV.und, AV.und, AV.und, AV.und, AV.und, AV.und, AV.und, AV.und, AV.und,
  AV.und, AV.und, AV.und, AV.r (RV.c (CV.f (FV.i IntKind.i64 d.1))), AV.r (RV.c (CV.f (FV.b d.2.1))), AV.und, AV.und, AV.und, AV.und, AV.und, AV.und, AV.und, AV.und, AV.und, AV.und, AV.und, AV.und, AV.und, AV.und, AV.und, AV.und, AV.und, AV.und, AV.und, AV.und, AV.und, AV.und, AV.und, AV.und, AV.und,
  AV.und, AV.und, AV.und, AV.und, AV.und] [some [Sg.c (CV.f (FV.i IntKind.u64 d.2.2.1)), Sg.c (CV.f (FV.i IntKind.u64 d.2.2.2.1))], some [Sg.c (CV.f (FV.i IntKind.u64 d.2.2.2.2.1)), Sg.c (CV.f (FV.i IntKind.u64 d.2.2.2.2.2))]] [])) := by kernel_rfl
theorem it_wide_Root_0 {ρ : Type} (x0 : Int) (x1 : Int) (x2 : Int) (x3 : Int) (x4 : Int) (K : AX → St → Option ρ) : iter (fun t => t.head 0 ⟨[⟨5, [0, 1, 2, 3, 7, 8, 9, 10, 11, 12, 13, 14, 15, 16, 17, 18, 19, 20, 21, 22, 23, 24, 25, 26, 27, 28, 29, 30, 31, 32, 33, 34, 35, 36, 37, 38, 39, 40, 41, 42, 43,
  44, 45, 46, 47, 48, 49, 50], []⟩], [⟨5, 0, @R_wide_Root_0 (@L_wide_Root_0)⟩], [], [], (some ⟨0, [0, 1, 4, 5, 6, 7, 8, 9, 10, 11, 12, 13, 14, 15, 16, 17, 18, 19, 20, 21, 22, 23, 24, 25, 26, 27, 28, 29, 30, 31, 32, 33, 34, 35, 36, 37, 38, 39, 40, 41, 42, 43, 44, 45, 46, 47, 48, 49, 50], []⟩)⟩ (loopIn Try.prog 80 5)) (runC Try.prog (envOf [(78,
  F__wide_big__shl f__wide_big__shl), (83, F__wide_big__plus f__wide_big__plus), (79, F__wide_big__shr f__wide_big__shr), (92, F__wide_big__less f__wide_big__less), (93, F__wide_big__minus f__wide_big__minus), (84, F_wide_signed64 f_wide_signed64)]) ⟨[⟨5, [0, 1, 2, 3, 7, 8, 9,
  10, 11, 12, 13, 14, 15, 16, 17, 18, 19, 20, 21, 22, 23, 24, 25, 26, 27, 28, 29, 30, 31, 32, 33, 34, 35, 36, 37, 38, 39, 40, 41, 42, 43, 44, 45, 46, 47, 48, 49, 50], []⟩], [⟨5, 0, @R_wide_Root_0 (@L_wide_Root_0)⟩], [], [], (some ⟨0, [0, 1, 4, 5, 6, 7, 8, 9, 10, 11, 12, 13, 14, 15, 16, 17, 18, 19, 20,
  21, 22, 23, 24, 25, 26, 27, 28, 29, 30, 31, 32, 33, 34, 35, 36, 37, 38, 39, 40, 41, 42, 43, 44, 45, 46, 47, 48, 49, 50], []⟩)⟩ (tmpsOf Try.prog 80) 0 200 (loopIn Try.prog 80 5)) K 200 (St.mk [AV.und, AV.und, AV.und, AV.und, AV.r (RV.c (CV.ptr 0 (Off.k 0) 2)), AV.r (RV.c (CV.ptr 1 (Off.k 0) 2)),
  AV.r (RV.c (CV.f (FV.i IntKind.i64 x0))), AV.und, AV.und, AV.und, AV.und, AV.und, AV.und, AV.und, AV.und, AV.und, AV.und, AV.und, AV.und, AV.und, AV.und, AV.und, AV.und, AV.und, AV.und, AV.und, AV.und, AV.und, AV.und, AV.und, AV.und, AV.und, AV.und, AV.und, AV.und, AV.und, AV.und, AV.und, AV.und, AV.und,
  AV.und, AV.und, AV.und, AV.und, AV.und, AV.und, AV.und, AV.und, AV.und, AV.und, AV.und] [some [Sg.c (CV.f (FV.i IntKind.u64 x1)), Sg.c (CV.f (FV.i IntKind.u64 x2))], some [Sg.c (CV.f (FV.i IntKind.u64 x3)), Sg.c (CV.f (FV.i IntKind.u64 x4))]] []) = L_wide_Root_0 (x0, x1, x2, x3, x4) (fun d => K (AX.ex 0) (St.mk [AV.und,
  AV.und, AV.und, AV.und, AV.r (RV.c (CV.ptr 0 (Off.k 0) 2)), AV.r (RV.c (CV.ptr 1 (Off.k 0) 2)), AV.r (RV.c (CV.f (FV.i IntKind.i64 d.1))), AV.und, AV.und, AV.und, AV.und, AV.und, AV.und, AV.und, AV.und, AV.und, AV.und, AV.und, AV.und, AV.r (RV.c (CV.f (FV.i IntKind.i64 d.1))), AV.r (RV.c (CV.f (FV.b d.2.1))),
  AV.und, AV.und, AV.und, AV.und, AV.und, AV.und, AV.und, AV.und, AV.und, AV.und, AV.und, AV.und, AV.und, AV.und, AV.und, AV.und, AV.und, AV.und, AV.und, AV.und, AV.und, AV.und, AV.und, AV.und, AV.und, AV.und, AV.und, AV.und, AV.und, AV.und] [some [Sg.c (CV.f (FV.i IntKind.u64 d.2.2.1)), Sg.c (CV.f (FV.i IntKind.u64 d.2.2.2.1))],
  some [Sg.c (CV.f (FV.i IntKind.u64 d.2.2.2.2.1)), Sg.c (CV.f (FV.i IntKind.u64 d.2.2.2.2.2))]] [])) := iter_loopX (emb := fun (d : Int × Int × Int × Int × Int) => St.mk [AV.und, AV.und, AV.und, AV.und, AV.r (RV.c (CV.ptr 0 (Off.k 0) 2)), AV.r (RV.c (CV.ptr 1 (Off.k 0) 2)), AV.r (RV.c (CV.f (FV.i IntKind.i64 d.1))),
  AV.und, AV.und, AV.und, AV.und, AV.und, AV.und, AV.und, AV.und, AV.und, AV.und, AV.und, AV.und, AV.und, AV.und, AV.und, AV.und, AV.und, AV.und, AV.und, AV.und, AV.und, AV.und, AV.und, AV.und, AV.und, AV.und, AV.und, AV.und, AV.und, AV.und, AV.und, AV.und, AV.und, AV.und, AV.und, AV.und, AV.und, AV.und,
  AV.und, AV.und, AV.und, AV.und, AV.und, AV.und] [some [Sg.c (CV.f (FV.i IntKind.u64 d.2.1)), Sg.c (CV.f (FV.i IntKind.u64 d.2.2.1))], some [Sg.c (CV.f (FV.i IntKind.u64 d.2.2.2.1)), Sg.c (CV.f (FV.i IntKind.u64 d.2.2.2.2))]] []) (step := fun d c x => S_wide_Root_0 f__wide_big__shl f__wide_big__plus f__wide_big__shr f__wide_big__less f__wide_big__minus f_wide_signed64 d.1 d.2.1 d.2.2.1 d.2.2.2.1 d.2.2.2.2 c x) (kx := (fun d => K (AX.ex 0) (St.mk [AV.und,
  AV.und, AV.und, AV.und, AV.r (RV.c (CV.ptr 0 (Off.k 0) 2)), AV.r (RV.c (CV.ptr 1 (Off.k 0) 2)), AV.r (RV.c (CV.f (FV.i IntKind.i64 d.1))), AV.und, AV.und, AV.und, AV.und, AV.und, AV.und, AV.und, AV.und, AV.und, AV.und, AV.und, AV.und, AV.r (RV.c (CV.f (FV.i IntKind.i64 d.1))), AV.r (RV.c (CV.f (FV.b d.2.1))),
  AV.und, AV.und, AV.und, AV.und, AV.und, AV.und, AV.und, AV.und, AV.und, AV.und, AV.und, AV.und, AV.und, AV.und, AV.und, AV.und, AV.und, AV.und, AV.und, AV.und, AV.und, AV.und, AV.und, AV.und, AV.und, AV.und, AV.und, AV.und, AV.und, AV.und] [some [Sg.c (CV.f (FV.i IntKind.u64 d.2.2.1)), Sg.c (CV.f (FV.i IntKind.u64 d.2.2.2.1))],
  some [Sg.c (CV.f (FV.i IntKind.u64 d.2.2.2.2.1)), Sg.c (CV.f (FV.i IntKind.u64 d.2.2.2.2.2))]] []))) (fun d c => ds_wide_Root_0 f__wide_big__shl f__wide_big__plus f__wide_big__shr f__wide_big__less f__wide_big__minus f_wide_signed64 (@L_wide_Root_0) d.1 d.2.1 d.2.2.1 d.2.2.2.1 d.2.2.2.2 c K) 200 (x0,
  x1, x2, x3, x4)
theorem so_wide_Root_0 [Amb] : ∀ kk, SumOK Try.prog (envOf [(78, F__wide_big__shl f__wide_big__shl), (83, F__wide_big__plus f__wide_big__plus), (79, F__wide_big__shr f__wide_big__shr), (92, F__wide_big__less f__wide_big__less), (93, F__wide_big__minus f__wide_big__minus), (84,
  F_wide_signed64 f_wide_signed64)]) ⟨[⟨5, [0, 1, 2, 3, 7, 8, 9, 10, 11, 12, 13, 14, 15, 16, 17, 18, 19, 20, 21, 22, 23, 24, 25, 26, 27, 28, 29, 30, 31, 32, 33, 34, 35, 36, 37, 38, 39, 40, 41, 42, 43, 44, 45, 46, 47, 48, 49, 50], []⟩], [⟨5, 0, @R_wide_Root_0 (@L_wide_Root_0)⟩], [], [], (some ⟨0, [0, 1,
  4, 5, 6, 7, 8, 9, 10, 11, 12, 13, 14, 15, 16, 17, 18, 19, 20, 21, 22, 23, 24, 25, 26, 27, 28, 29, 30, 31, 32, 33, 34, 35, 36, 37, 38, 39, 40, 41, 42, 43, 44, 45, 46, 47, 48, 49, 50], []⟩)⟩ (tmpsOf Try.prog 80) kk 200 (loopIn Try.prog 80 5) := SumOK.of (id := 5) (k0 := 0) (run := @R_wide_Root_0 (@L_wide_Root_0)) (by kernel_rfl) fun s K r hr => by
    unfold R_wide_Root_0 at hr
    obtain ⟨b, hb, hr1⟩ := Option.bind_eq_some_iff.1 hr
    have e := ((Q_wide_Root_0).ok s b hb).trans (q_wide_Root_0 b)
    subst e
    exact ⟨200, (it_wide_Root_0 b.1.2.2.2.2.2.2.1 b.2.1.1.1 b.2.1.1.2.1 b.2.1.2.1.1 b.2.1.2.1.2.1 K).trans hr1⟩
def K_wide_Root {ρ : Type} (g__wide_big__shl : Int → Int → Int → Option (Int × Int)) (g__wide_big__plus : Int → Int → Int → Int → Option (Int × Int)) (g__wide_big__shr : Int → Int → Int → Option (Int × Int)) (g__wide_big__less : Int → Int → Int → Int → Option Bool) (g__wide_big__minus : Int → Int → Int →
  Int → Option (Int × Int)) (g_wide_signed64 : Int → Int → Bool → Option (Int × Bool)) (l_0 : ∀ {ρ : Type}, (Int × Int × Int × Int × Int) → ((Int × Bool × Int × Int × Int × Int) → Option ρ) → Option ρ) (x0 : Int) (x1 : Int) (k : (Int × Bool) → Option ρ) : Option ρ := bif decide (x0 < 0) then k (0, false) else
  l_0 (126, IntKind.wrap IntKind.u64 x0, x1, 0, 0) fun (d : Int × Bool × Int × Int × Int × Int) => Option.bind (g__wide_big__less d.2.2.2.2.1 d.2.2.2.2.2 d.2.2.1 d.2.2.2.1) fun (d_1 : Bool) => bif d_1 then Option.bind (g__wide_big__plus d.2.2.2.2.1 d.2.2.2.2.2 0 1) fun (d : Int ×
  Int) => Option.bind (g_wide_signed64 d.1 d.2 false) fun (d : Int × Bool) => k (d.1, d.2) else Option.bind (g_wide_signed64 d.2.2.2.2.1 d.2.2.2.2.2 false) fun (d : Int × Bool) => k (d.1, d.2)
def f_wide_Root (x0 : Int) (x1 : Int) : Option (Int × Bool) := K_wide_Root f__wide_big__shl f__wide_big__plus f__wide_big__shr f__wide_big__less f__wide_big__minus f_wide_signed64 (@L_wide_Root_0) x0 x1 some
section
open Go.Ab.Rdr
def QA_wide_Root := ((pair (cons (ar (ra (cons (gc (cf (fi .i64 hole))) (cons (gc (cf (fi .u64 hole))) nil)))) nil) nil) : Rdr (List AV × List Blk) _)
end
def F_wide_Root (f : (Int) → (Int) → Option (Int × Bool)) : Sem1 := fun args h => match (QA_wide_Root).rd (args, h) with
  | some b => .opt (f b.1.1.1 b.1.1.2.1) fun (d : Int × Bool) => .leaf (Res.mk (AV.tup [RV.c (CV.f (FV.i IntKind.i64 d.1)), RV.c (CV.f (FV.b d.2))]) [] [])
  | none => .fail
theorem d_wide_Root (g__wide_big__shl : Int → Int → Int → Option (Int × Int)) (g__wide_big__plus : Int → Int → Int → Int → Option (Int × Int)) (g__wide_big__shr : Int → Int → Int → Option (Int × Int)) (g__wide_big__less : Int → Int → Int → Int → Option Bool) (g__wide_big__minus : Int → Int → Int → Int →
  Option (Int × Int)) (g_wide_signed64 : Int → Int → Bool → Option (Int × Bool)) (l_0 : ∀ {ρ : Type}, (Int × Int × Int × Int × Int) → ((Int × Bool × Int × Int × Int × Int) → Option ρ) → Option ρ) (x0 : Int) (x1 : Int) : den Try.prog (envOf [(78, F__wide_big__shl g__wide_big__shl), (83, F__wide_big__plus g__wide_big__plus),
  (79, F__wide_big__shr g__wide_big__shr), (92, F__wide_big__less g__wide_big__less), (93, F__wide_big__minus g__wide_big__minus), (84, F_wide_signed64 g_wide_signed64)]) ⟨[⟨5, [0, 1, 2, 3, 7, 8, 9, 10, 11, 12, 13, 14, 15, 16, 17, 18, 19, 20, 21, 22, 23, 24, 25, 26, 27, 28, 29, 30,
  31, 32, 33, 34, 35, 36, 37, 38, 39, 40, 41, 42, 43, 44, 45, 46, 47, 48, 49, 50], []⟩], [⟨5, 0, @R_wide_Root_0 (@l_0)⟩], [], [], (some ⟨0, [0, 1, 4, 5, 6, 7, 8, 9, 10, 11, 12, 13, 14, 15, 16, 17, 18, 19, 20, 21, 22, 23, 24, 25, 26, 27, 28, 29, 30, 31, 32, 33, 34, 35, 36, 37, 38, 39, 40, 41, 42, 43, 44,
  45, 46, 47, 48, 49, 50], []⟩)⟩ 200 80 [.r (.agg [.c (.f (.i .i64 x0)), .c (.f (.i .u64 x1))])] [] = K_wide_Root g__wide_big__shl g__wide_big__plus g__wide_big__shr g__wide_big__less g__wide_big__minus g_wide_signed64 (@l_0) x0 x1 (fun (d : Int × Bool) => some (Res.mk (AV.tup [RV.c (CV.f (FV.i IntKind.i64 d.1)),
  RV.c (CV.f (FV.b d.2))]) [] [])) := by kernel_rfl
theorem m_wide_Root {ρ σ : Type} (q : ρ → Option σ) (g__wide_big__shl : Int → Int → Int → Option (Int × Int)) (g__wide_big__plus : Int → Int → Int → Int → Option (Int × Int)) (g__wide_big__shr : Int → Int → Int → Option (Int × Int)) (g__wide_big__less : Int → Int → Int → Int → Option Bool) (g__wide_big__minus : Int → Int → Int → Int → Option (Int × Int)) (g_wide_signed64 : Int → Int → Bool → Option (Int × Bool)) (l_0 : ∀ {ρ : Type}, (Int × Int × Int × Int × Int) → ((Int × Bool × Int × Int × Int × Int) → Option ρ) → Option ρ) (hl_0 : ∀ {ρ σ : Type} (q : ρ → Option σ) (d : Int × Int × Int × Int × Int) (k : (Int × Bool × Int × Int × Int × Int) → Option ρ), (l_0 d k).bind q = l_0 d fun x => (k x).bind q) (x0 : Int) (x1 : Int) (k : (Int × Bool) → Option ρ) : (K_wide_Root g__wide_big__shl g__wide_big__plus g__wide_big__shr g__wide_big__less g__wide_big__minus g_wide_signed64 (@l_0) x0 x1 k).bind q = K_wide_Root g__wide_big__shl g__wide_big__plus g__wide_big__shr g__wide_big__less g__wide_big__minus g_wide_signed64 (@l_0) x0 x1 (fun d => (k d).bind q) := by
  simp only [K_wide_Root, bnd_cond, bnd_bind, bnd_none, bnd_sum, hl_0]
theorem qa_wide_Root : ∀ b, (QA_wide_Root).em b = ([.r (.agg [.c (.f (.i .i64 b.1.1.1)), .c (.f (.i .u64 b.1.1.2.1))])], []) := fun b => by kernel_rfl
theorem e_wide_Root {f : (Int) → (Int) → Option (Int × Bool)} {args : List AV} {h : List Blk} {r : Res} (hr : (F_wide_Root f args h).eval = some r) : ∃ x0 x1, args = [.r (.agg [.c (.f (.i .i64 x0)), .c (.f (.i .u64 x1))])] ∧ h = [] ∧ (f x0 x1).bind (fun (d : Int × Bool) => some (Res.mk (AV.tup [RV.c (CV.f (FV.i IntKind.i64 d.1)), RV.c (CV.f (FV.b d.2))]) [] [])) = some r := by
  unfold F_wide_Root at hr
  split at hr
  · rename_i b hb
    have e := ((QA_wide_Root).ok _ _ hb).trans (qa_wide_Root b)
    rw [opt_eval2] at hr
    exact ⟨b.1.1.1, b.1.1.2.1, (Prod.mk.inj e).1, (Prod.mk.inj e).2, hr⟩
  · cases hr
theorem n_wide_Root {σ : Type} (q : (Int × Bool) → Option σ) (x0 : Int) (x1 : Int) : (f_wide_Root x0 x1).bind q = K_wide_Root f__wide_big__shl f__wide_big__plus f__wide_big__shr f__wide_big__less f__wide_big__minus f_wide_signed64 (@L_wide_Root_0) x0 x1 q := by
  unfold f_wide_Root
  exact m_wide_Root q f__wide_big__shl f__wide_big__plus f__wide_big__shr f__wide_big__less f__wide_big__minus f_wide_signed64 (@L_wide_Root_0) (fun q d k => mL_wide_Root_0 q d k) x0 x1 some
theorem s_wide_Root [Amb] : Sound Try.prog 80 (F_wide_Root f_wide_Root) := (inl_sums (l := [(78, F__wide_big__shl f__wide_big__shl), (83, F__wide_big__plus f__wide_big__plus), (79, F__wide_big__shr f__wide_big__shr), (92, F__wide_big__less f__wide_big__less), (93, F__wide_big__minus f__wide_big__minus),
  (84, F_wide_signed64 f_wide_signed64)]) (.cons s__wide_big__shl (.cons s__wide_big__plus (.cons s__wide_big__shr (.cons s__wide_big__less (.cons s__wide_big__minus (.cons s_wide_signed64 (.nil _))))))) mixed (hs := ⟨[⟨5, [0, 1, 2, 3, 7, 8, 9, 10, 11, 12, 13, 14, 15, 16, 17, 18, 19, 20, 21, 22, 23,
  24, 25, 26, 27, 28, 29, 30, 31, 32, 33, 34, 35, 36, 37, 38, 39, 40, 41, 42, 43, 44, 45, 46, 47, 48, 49, 50], []⟩], [⟨5, 0, @R_wide_Root_0 (@L_wide_Root_0)⟩], [], [], (some ⟨0, [0, 1, 4, 5, 6, 7, 8, 9, 10, 11, 12, 13, 14, 15, 16, 17, 18, 19, 20, 21, 22, 23, 24, 25, 26, 27, 28, 29, 30, 31, 32, 33, 34,
  35, 36, 37, 38, 39, 40, 41, 42, 43, 44, 45, 46, 47, 48, 49, 50], []⟩)⟩) (lf := 200) (Sums.by (l := [loopIn Try.prog 80 5]) (lj := []) (by kernel_rfl) ⟨so_wide_Root_0, trivial⟩ (by kernel_rfl) trivial) (by kernel_rfl)).by (F := F_wide_Root f_wide_Root) fun args b r hr => by
  obtain ⟨x0, x1, rfl, rfl, hr1⟩ := e_wide_Root hr
  exact inl_eval ((d_wide_Root f__wide_big__shl f__wide_big__plus f__wide_big__shr f__wide_big__less f__wide_big__minus f_wide_signed64 (@L_wide_Root_0) x0 x1).trans ((n_wide_Root (fun (d : Int × Bool) => some (Res.mk (AV.tup [RV.c (CV.f (FV.i IntKind.i64 d.1)), RV.c (CV.f (FV.b d.2))]) [] [])) x0 x1).symm.trans hr1))

def K_root_end {ρ : Type} (g_wide_Root : Int → Int → Option (Int × Bool)) (g___fx_Acc__Sat : Int → Bool → Option (Int × Bool)) (x0 : Int) (x1 : Int) (x2 : Bool) (k : (Int × Bool) → Option ρ) : Option ρ := Option.bind (g_wide_Root x0 x1) fun (d : Int × Bool) => bif !d.2 then Option.bind (g___fx_Acc__Sat 1152921504606846977 x2) fun (d : Int ×
  Bool) => k (d.1, d.2) else Option.bind (g___fx_Acc__Sat d.1 x2) fun (d : Int × Bool) => k (d.1, d.2)
def f_root_end (x0 : Int) (x1 : Int) (x2 : Bool) : Option (Int × Bool) := K_root_end f_wide_Root f___fx_Acc__Sat  x0 x1 x2 some
section
open Go.Ab.Rdr
def QA_root_end := ((pair (cons (ar (rc (cptr (nat 0) (ok' (nat 0)) (nat 1)))) (cons (ar (ra (cons (gc (cf (fi .i64 hole))) (cons (gc (cf (fi .u64 hole))) nil)))) nil)) (cons (cons (gc (cf (fb hole))) nil) nil)) : Rdr (List AV × List Blk) _)
end
def F_root_end (f : (Int) → (Int) → (Bool) → Option (Int × Bool)) : Sem1 := fun args h => match (QA_root_end).rd (args, h) with
  | some b => .opt (f b.1.2.1.1 b.1.2.1.2.1 b.2.1.1) fun (d : Int × Bool) => .leaf (Res.mk (AV.r (RV.c (CV.f (FV.i IntKind.i64 d.1)))) [Ch.set [Sg.c (CV.f (FV.b d.2))]] [])
  | none => .fail
theorem d_root_end (g_wide_Root : Int → Int → Option (Int × Bool)) (g___fx_Acc__Sat : Int → Bool → Option (Int × Bool)) (x0 : Int) (x1 : Int) (x2 : Bool) : den Try.prog (envOf [(80, F_wide_Root g_wide_Root), (52, F___fx_Acc__Sat g___fx_Acc__Sat)]) ⟨[], [], [], [], none⟩ 200 59 [.r (.c (.ptr 0 (.k 0) 1)),
  .r (.agg [.c (.f (.i .i64 x0)), .c (.f (.i .u64 x1))])] [[.c (.f (.b x2))]] = K_root_end g_wide_Root g___fx_Acc__Sat x0 x1 x2 (fun (d : Int × Bool) => some (Res.mk (AV.r (RV.c (CV.f (FV.i IntKind.i64 d.1)))) [Ch.set [Sg.c (CV.f (FV.b d.2))]] [])) := by kernel_rfl
theorem m_root_end {ρ σ : Type} (q : ρ → Option σ) (g_wide_Root : Int → Int → Option (Int × Bool)) (g___fx_Acc__Sat : Int → Bool → Option (Int × Bool))   (x0 : Int) (x1 : Int) (x2 : Bool) (k : (Int × Bool) → Option ρ) : (K_root_end g_wide_Root g___fx_Acc__Sat  x0 x1 x2 k).bind q = K_root_end g_wide_Root g___fx_Acc__Sat  x0 x1 x2 (fun d => (k d).bind q) := by
  simp only [K_root_end, bnd_cond, bnd_bind, bnd_none, bnd_sum]
theorem qa_root_end : ∀ b, (QA_root_end).em b = ([.r (.c (.ptr 0 (.k 0) 1)), .r (.agg [.c (.f (.i .i64 b.1.2.1.1)), .c (.f (.i .u64 b.1.2.1.2.1))])], [[.c (.f (.b b.2.1.1))]]) := fun b => by kernel_rfl
theorem e_root_end {f : (Int) → (Int) → (Bool) → Option (Int × Bool)} {args : List AV} {h : List Blk} {r : Res} (hr : (F_root_end f args h).eval = some r) : ∃ x0 x1 x2, args = [.r (.c (.ptr 0 (.k 0) 1)), .r (.agg [.c (.f (.i .i64 x0)), .c (.f (.i .u64 x1))])] ∧ h = [[.c (.f (.b x2))]] ∧ (f x0 x1 x2).bind (fun (d : Int × Bool) => some (Res.mk (AV.r (RV.c (CV.f (FV.i IntKind.i64 d.1)))) [Ch.set [Sg.c (CV.f (FV.b d.2))]] [])) = some r := by
  unfold F_root_end at hr
  split at hr
  · rename_i b hb
    have e := ((QA_root_end).ok _ _ hb).trans (qa_root_end b)
    rw [opt_eval2] at hr
    exact ⟨b.1.2.1.1, b.1.2.1.2.1, b.2.1.1, (Prod.mk.inj e).1, (Prod.mk.inj e).2, hr⟩
  · cases hr
theorem n_root_end {σ : Type} (q : (Int × Bool) → Option σ) (x0 : Int) (x1 : Int) (x2 : Bool) : (f_root_end x0 x1 x2).bind q = K_root_end f_wide_Root f___fx_Acc__Sat  x0 x1 x2 q := by
  unfold f_root_end
  exact m_root_end q f_wide_Root f___fx_Acc__Sat   x0 x1 x2 some
theorem s_root_end [Amb] : Sound Try.prog 59 (F_root_end f_root_end) := (inl_sound (l := [(80, F_wide_Root f_wide_Root), (52, F___fx_Acc__Sat f___fx_Acc__Sat)]) (.cons s_wide_Root (.cons s___fx_Acc__Sat (.nil _))) mixed [] [] 200 (by kernel_rfl)).by (F := F_root_end f_root_end) fun args b r hr => by
  obtain ⟨x0, x1, x2, rfl, rfl, hr1⟩ := e_root_end hr
  exact inl_eval ((d_root_end f_wide_Root f___fx_Acc__Sat  x0 x1 x2).trans ((n_root_end (fun (d : Int × Bool) => some (Res.mk (AV.r (RV.c (CV.f (FV.i IntKind.i64 d.1)))) [Ch.set [Sg.c (CV.f (FV.b d.2))]] [])) x0 x1 x2).symm.trans hr1))

def K_root_Sqrt {ρ : Type} (g___fx_Acc__Sat : Int → Bool → Option (Int × Bool)) (g_wide_Shift : Int → Int → Option (Int × Int × Bool)) (g_root_end : Int → Int → Bool → Option (Int × Bool)) (x0 : Int) (x1 : Bool) (k : (Int × Bool) → Option ρ) : Option ρ := Option.bind (g___fx_Acc__Sat x0 x1) fun (d : Int ×
  Bool) => bif decide (d.1 < 0) then k (0, true) else Option.bind (g_wide_Shift d.1 30) fun (d_1 : Int × Int × Bool) => Option.bind (g_root_end d_1.1 d_1.2.1 d.2) fun (d : Int × Bool) => k (d.1, d.2)
def f_root_Sqrt (x0 : Int) (x1 : Bool) : Option (Int × Bool) := K_root_Sqrt f___fx_Acc__Sat f_wide_Shift f_root_end  x0 x1 some
section
open Go.Ab.Rdr
def QA_root_Sqrt := ((pair (cons (ar (rc (cptr (nat 0) (ok' (nat 0)) (nat 1)))) (cons (ar (rc (cf (fi .i64 hole)))) nil)) (cons (cons (gc (cf (fb hole))) nil) nil)) : Rdr (List AV × List Blk) _)
end
def F_root_Sqrt (f : (Int) → (Bool) → Option (Int × Bool)) : Sem1 := fun args h => match (QA_root_Sqrt).rd (args, h) with
  | some b => .opt (f b.1.2.1 b.2.1.1) fun (d : Int × Bool) => .leaf (Res.mk (AV.r (RV.c (CV.f (FV.i IntKind.i64 d.1)))) [Ch.set [Sg.c (CV.f (FV.b d.2))]] [])
  | none => .fail
theorem d_root_Sqrt (g___fx_Acc__Sat : Int → Bool → Option (Int × Bool)) (g_wide_Shift : Int → Int → Option (Int × Int × Bool)) (g_root_end : Int → Int → Bool → Option (Int × Bool)) (x0 : Int) (x1 : Bool) : den Try.prog (envOf [(52, F___fx_Acc__Sat g___fx_Acc__Sat), (58, F_wide_Shift g_wide_Shift),
  (59, F_root_end g_root_end)]) ⟨[], [], [], [], none⟩ 200 33 [.r (.c (.ptr 0 (.k 0) 1)), .r (.c (.f (.i .i64 x0)))] [[.c (.f (.b x1))]] = K_root_Sqrt g___fx_Acc__Sat g_wide_Shift g_root_end x0 x1 (fun (d : Int × Bool) => some (Res.mk (AV.r (RV.c (CV.f (FV.i IntKind.i64 d.1)))) [Ch.set [Sg.c (CV.f (FV.b d.2))]] [])) := by kernel_rfl
theorem m_root_Sqrt {ρ σ : Type} (q : ρ → Option σ) (g___fx_Acc__Sat : Int → Bool → Option (Int × Bool)) (g_wide_Shift : Int → Int → Option (Int × Int × Bool)) (g_root_end : Int → Int → Bool → Option (Int × Bool))   (x0 : Int) (x1 : Bool) (k : (Int × Bool) → Option ρ) : (K_root_Sqrt g___fx_Acc__Sat g_wide_Shift g_root_end  x0 x1 k).bind q = K_root_Sqrt g___fx_Acc__Sat g_wide_Shift g_root_end  x0 x1 (fun d => (k d).bind q) := by
  simp only [K_root_Sqrt, bnd_cond, bnd_bind, bnd_none, bnd_sum]
theorem qa_root_Sqrt : ∀ b, (QA_root_Sqrt).em b = ([.r (.c (.ptr 0 (.k 0) 1)), .r (.c (.f (.i .i64 b.1.2.1)))], [[.c (.f (.b b.2.1.1))]]) := fun b => by kernel_rfl
theorem e_root_Sqrt {f : (Int) → (Bool) → Option (Int × Bool)} {args : List AV} {h : List Blk} {r : Res} (hr : (F_root_Sqrt f args h).eval = some r) : ∃ x0 x1, args = [.r (.c (.ptr 0 (.k 0) 1)), .r (.c (.f (.i .i64 x0)))] ∧ h = [[.c (.f (.b x1))]] ∧ (f x0 x1).bind (fun (d : Int × Bool) => some (Res.mk (AV.r (RV.c (CV.f (FV.i IntKind.i64 d.1)))) [Ch.set [Sg.c (CV.f (FV.b d.2))]] [])) = some r := by
  unfold F_root_Sqrt at hr
  split at hr
  · rename_i b hb
    have e := ((QA_root_Sqrt).ok _ _ hb).trans (qa_root_Sqrt b)
    rw [opt_eval2] at hr
    exact ⟨b.1.2.1, b.2.1.1, (Prod.mk.inj e).1, (Prod.mk.inj e).2, hr⟩
  · cases hr
theorem n_root_Sqrt {σ : Type} (q : (Int × Bool) → Option σ) (x0 : Int) (x1 : Bool) : (f_root_Sqrt x0 x1).bind q = K_root_Sqrt f___fx_Acc__Sat f_wide_Shift f_root_end  x0 x1 q := by
  unfold f_root_Sqrt
  exact m_root_Sqrt q f___fx_Acc__Sat f_wide_Shift f_root_end   x0 x1 some
theorem s_root_Sqrt [Amb] : Sound Try.prog 33 (F_root_Sqrt f_root_Sqrt) := (inl_sound (l := [(52, F___fx_Acc__Sat f___fx_Acc__Sat), (58, F_wide_Shift f_wide_Shift), (59, F_root_end f_root_end)]) (.cons s___fx_Acc__Sat (.cons s_wide_Shift (.cons s_root_end (.nil _)))) mixed [] [] 200 (by kernel_rfl)).by (F := F_root_Sqrt f_root_Sqrt) fun args b r hr => by
  obtain ⟨x0, x1, rfl, rfl, hr1⟩ := e_root_Sqrt hr
  exact inl_eval ((d_root_Sqrt f___fx_Acc__Sat f_wide_Shift f_root_end  x0 x1).trans ((n_root_Sqrt (fun (d : Int × Bool) => some (Res.mk (AV.r (RV.c (CV.f (FV.i IntKind.i64 d.1)))) [Ch.set [Sg.c (CV.f (FV.b d.2))]] [])) x0 x1).symm.trans hr1))

def K___fx_Acc__Div {ρ : Type} (g___fx_Acc__Sat : Int → Bool → Option (Int × Bool)) (g_wide_Shift : Int → Int → Option (Int × Int × Bool)) (g___fx_Acc__by : Int → Int → Int → Bool → Option (Int × Bool)) (x0 : Int) (x1 : Int) (x2 : Int) (x3 : Bool) (k : (Int × Bool) → Option ρ) : Option ρ := Option.bind (g___fx_Acc__Sat x0 x3) fun (d : Int ×
  Bool) => Option.bind (g___fx_Acc__Sat x1 d.2) fun (d_1 : Int × Bool) => bif decide (x2 < 0) then k (0, true) else bif decide (x2 > 66) then k (0, true) else Option.bind (g_wide_Shift d.1 x2) fun (d : Int × Int × Bool) => Option.bind (g___fx_Acc__by d.1 d.2.1 d_1.1 d_1.2) fun (d : Int ×
  Bool) => k (d.1, d.2)
def f___fx_Acc__Div (x0 : Int) (x1 : Int) (x2 : Int) (x3 : Bool) : Option (Int × Bool) := K___fx_Acc__Div f___fx_Acc__Sat f_wide_Shift f___fx_Acc__by  x0 x1 x2 x3 some
section
open Go.Ab.Rdr
def QA___fx_Acc__Div := ((pair (cons (ar (rc (cptr (nat 0) (ok' (nat 0)) (nat 1)))) (cons (ar (rc (cf (fi .i64 hole)))) (cons (ar (rc (cf (fi .i64 hole)))) (cons (ar (rc (cf (fi .i64 hole)))) nil)))) (cons (cons (gc (cf (fb hole))) nil) nil)) : Rdr (List AV × List Blk) _)
end
def F___fx_Acc__Div (f : (Int) → (Int) → (Int) → (Bool) → Option (Int × Bool)) : Sem1 := fun args h => match (QA___fx_Acc__Div).rd (args, h) with
  | some b => .opt (f b.1.2.1 b.1.2.2.1 b.1.2.2.2.1 b.2.1.1) fun (d : Int × Bool) => .leaf (Res.mk (AV.r (RV.c (CV.f (FV.i IntKind.i64 d.1)))) [Ch.set [Sg.c (CV.f (FV.b d.2))]] [])
  | none => .fail
theorem d___fx_Acc__Div (g___fx_Acc__Sat : Int → Bool → Option (Int × Bool)) (g_wide_Shift : Int → Int → Option (Int × Int × Bool)) (g___fx_Acc__by : Int → Int → Int → Bool → Option (Int × Bool)) (x0 : Int) (x1 : Int) (x2 : Int) (x3 : Bool) : den Try.prog (envOf [(52, F___fx_Acc__Sat g___fx_Acc__Sat),
  (58, F_wide_Shift g_wide_Shift), (50, F___fx_Acc__by g___fx_Acc__by)]) ⟨[], [], [], [], none⟩ 200 34 [.r (.c (.ptr 0 (.k 0) 1)), .r (.c (.f (.i .i64 x0))), .r (.c (.f (.i .i64 x1))), .r (.c (.f (.i .i64 x2)))] [[.c (.f (.b x3))]] = K___fx_Acc__Div g___fx_Acc__Sat g_wide_Shift g___fx_Acc__by x0 x1 x2 x3 (fun (d : Int ×
  Bool) => some (Res.mk (AV.r (RV.c (CV.f (FV.i IntKind.i64 d.1)))) [Ch.set [Sg.c (CV.f (FV.b d.2))]] [])) := by kernel_rfl
theorem m___fx_Acc__Div {ρ σ : Type} (q : ρ → Option σ) (g___fx_Acc__Sat : Int → Bool → Option (Int × Bool)) (g_wide_Shift : Int → Int → Option (Int × Int × Bool)) (g___fx_Acc__by : Int → Int → Int → Bool → Option (Int × Bool))   (x0 : Int) (x1 : Int) (x2 : Int) (x3 : Bool) (k : (Int × Bool) → Option ρ) : (K___fx_Acc__Div g___fx_Acc__Sat g_wide_Shift g___fx_Acc__by  x0 x1 x2 x3 k).bind q = K___fx_Acc__Div g___fx_Acc__Sat g_wide_Shift g___fx_Acc__by  x0 x1 x2 x3 (fun d => (k d).bind q) := by
  simp only [K___fx_Acc__Div, bnd_cond, bnd_bind, bnd_none, bnd_sum]
theorem qa___fx_Acc__Div : ∀ b, (QA___fx_Acc__Div).em b = ([.r (.c (.ptr 0 (.k 0) 1)), .r (.c (.f (.i .i64 b.1.2.1))), .r (.c (.f (.i .i64 b.1.2.2.1))), .r (.c (.f (.i .i64 b.1.2.2.2.1)))], [[.c (.f (.b b.2.1.1))]]) := fun b => by kernel_rfl
theorem e___fx_Acc__Div {f : (Int) → (Int) → (Int) → (Bool) → Option (Int × Bool)} {args : List AV} {h : List Blk} {r : Res} (hr : (F___fx_Acc__Div f args h).eval = some r) : ∃ x0 x1 x2 x3, args = [.r (.c (.ptr 0 (.k 0) 1)), .r (.c (.f (.i .i64 x0))), .r (.c (.f (.i .i64 x1))), .r (.c (.f (.i .i64 x2)))] ∧ h = [[.c (.f (.b x3))]] ∧ (f x0 x1 x2 x3).bind (fun (d : Int × Bool) => some (Res.mk (AV.r (RV.c (CV.f (FV.i IntKind.i64 d.1)))) [Ch.set [Sg.c (CV.f (FV.b d.2))]] [])) = some r := by
  unfold F___fx_Acc__Div at hr
  split at hr
  · rename_i b hb
    have e := ((QA___fx_Acc__Div).ok _ _ hb).trans (qa___fx_Acc__Div b)
    rw [opt_eval2] at hr
    exact ⟨b.1.2.1, b.1.2.2.1, b.1.2.2.2.1, b.2.1.1, (Prod.mk.inj e).1, (Prod.mk.inj e).2, hr⟩
  · cases hr
theorem n___fx_Acc__Div {σ : Type} (q : (Int × Bool) → Option σ) (x0 : Int) (x1 : Int) (x2 : Int) (x3 : Bool) : (f___fx_Acc__Div x0 x1 x2 x3).bind q = K___fx_Acc__Div f___fx_Acc__Sat f_wide_Shift f___fx_Acc__by  x0 x1 x2 x3 q := by
  unfold f___fx_Acc__Div
  exact m___fx_Acc__Div q f___fx_Acc__Sat f_wide_Shift f___fx_Acc__by   x0 x1 x2 x3 some
theorem s___fx_Acc__Div [Amb] : Sound Try.prog 34 (F___fx_Acc__Div f___fx_Acc__Div) := (inl_sound (l := [(52, F___fx_Acc__Sat f___fx_Acc__Sat), (58, F_wide_Shift f_wide_Shift), (50, F___fx_Acc__by f___fx_Acc__by)]) (.cons s___fx_Acc__Sat (.cons s_wide_Shift (.cons s___fx_Acc__by (.nil _)))) mixed [] [] 200 (by kernel_rfl)).by (F := F___fx_Acc__Div f___fx_Acc__Div) fun args b r hr => by
  obtain ⟨x0, x1, x2, x3, rfl, rfl, hr1⟩ := e___fx_Acc__Div hr
  exact inl_eval ((d___fx_Acc__Div f___fx_Acc__Sat f_wide_Shift f___fx_Acc__by  x0 x1 x2 x3).trans ((n___fx_Acc__Div (fun (d : Int × Bool) => some (Res.mk (AV.r (RV.c (CV.f (FV.i IntKind.i64 d.1)))) [Ch.set [Sg.c (CV.f (FV.b d.2))]] [])) x0 x1 x2 x3).symm.trans hr1))

def K_earth_New {ρ : Type} (g_earth_Good : Int → Int → Int → Option Bool) (g_earth_New_1 : Int → Int → Bool → Option (Int × Bool)) (g___fx_Acc__MulDiv : Int → Int → Int → Bool → Option (Int × Bool)) (g_trig_Sin : Int → Bool → Option (Int × Bool)) (g_trig_Cos : Int → Bool → Option (Int × Bool)) (g_root_Sqrt : Int →
  Bool → Option (Int × Bool)) (g___fx_Acc__Div : Int → Int → Int → Bool → Option (Int × Bool)) (x0 : Int) (x1 : Int) (x2 : Int) (k : (Unit ⊕ Int × Int × Int × Int × Int) → Option ρ) : Option ρ := Option.bind (g_earth_Good x0 x1 x2) fun (d : Bool) => bif !d then k (Sum.inl ()) else bif decide (x0 > 850000000) then
  k (Sum.inl ()) else bif decide (x0 < -850000000) then k (Sum.inl ()) else Option.bind (g___fx_Acc__MulDiv x0 3373259426 1800000000 false) fun (d : Int × Bool) => Option.bind (g_trig_Sin d.1 d.2) fun (d_1 : Int × Bool) => Option.bind (g_trig_Cos d.1 d_1.2) fun (d : Int × Bool) => Option.bind (g_earth_New_1 d_1.1 d_1.1 d.2) fun (d_2 : Int ×
  Bool) => Option.bind (g_earth_New_1 7188036 d_2.1 d_2.2) fun (d_3 : Int × Bool) => Option.bind (g_root_Sqrt (IntKind.wrap IntKind.i64 (1073741824 - d_3.1)) d_3.2) fun (d_4 : Int × Bool) => Option.bind (g___fx_Acc__Div 6531212288 d_4.1 30 d_4.2) fun (d_5 : Int × Bool) => Option.bind (g_earth_New_1 6531212288 1066553788 d_5.2) fun (d_6 : Int ×
  Bool) => Option.bind (g_earth_New_1 (IntKind.wrap IntKind.i64 (1073741824 - d_3.1)) d_4.1 d_6.2) fun (d_7 : Int × Bool) => Option.bind (g___fx_Acc__Div d_6.1 d_7.1 30 d_7.2) fun (d_8 : Int × Bool) => Option.bind (g___fx_Acc__MulDiv d_8.1 3373259426 1800000000 d_8.2) fun (d_9 : Int × Bool) => Option.bind (g_earth_New_1 d_5.1 d.1 d_9.2) fun (d : Int ×
  Bool) => Option.bind (g___fx_Acc__MulDiv d.1 3373259426 1800000000 d.2) fun (d : Int × Bool) => k (Sum.inr (x0, x1, x2, d_9.1, d.1))
def f_earth_New (x0 : Int) (x1 : Int) (x2 : Int) : Option (Unit ⊕ Int × Int × Int × Int × Int) := K_earth_New f_earth_Good f_earth_New_1 f___fx_Acc__MulDiv f_trig_Sin f_trig_Cos f_root_Sqrt f___fx_Acc__Div  x0 x1 x2 some
section
open Go.Ab.Rdr
def QA_earth_New := ((pair (cons (ar (ra (cons (gc (cf (fi .i64 hole))) (cons (gc (cf (fi .i64 hole))) (cons (gc (cf (fi .i64 hole))) nil))))) nil) nil) : Rdr (List AV × List Blk) _)
end
def F_earth_New (f : (Int) → (Int) → (Int) → Option (Unit ⊕ Int × Int × Int × Int × Int)) : Sem1 := fun args h => match (QA_earth_New).rd (args, h) with
  | some b => .opt (f b.1.1.1 b.1.1.2.1 b.1.1.2.2.1) fun d0 => T.sum d0 (fun (d : Unit) => .leaf (Res.mk (AV.tup [RV.c CV.nilp, RV.c (CV.f (FV.i IntKind.i64 1))]) [] [])) (fun (d : Int × Int × Int × Int × Int) => .leaf (Res.mk (AV.tup [RV.c (CV.ptr 0 (Off.k 0) 5), RV.c (CV.f (FV.i IntKind.i64 0))]) []
    [[Sg.c (CV.f (FV.i IntKind.i64 d.1)), Sg.c (CV.f (FV.i IntKind.i64 d.2.1)), Sg.c (CV.f (FV.i IntKind.i64 d.2.2.1)), Sg.c (CV.f (FV.i IntKind.i64 d.2.2.2.1)),
        Sg.c (CV.f (FV.i IntKind.i64 d.2.2.2.2))]]))
  | none => .fail
theorem d_earth_New (g_earth_Good : Int → Int → Int → Option Bool) (g_earth_New_1 : Int → Int → Bool → Option (Int × Bool)) (g___fx_Acc__MulDiv : Int → Int → Int → Bool → Option (Int × Bool)) (g_trig_Sin : Int → Bool → Option (Int × Bool)) (g_trig_Cos : Int → Bool → Option (Int × Bool)) (g_root_Sqrt : Int →
  Bool → Option (Int × Bool)) (g___fx_Acc__Div : Int → Int → Int → Bool → Option (Int × Bool)) (x0 : Int) (x1 : Int) (x2 : Int) : den Try.prog (envOf [(20, F_earth_Good g_earth_Good), (29, F_earth_New_1 g_earth_New_1), (28, F___fx_Acc__MulDiv g___fx_Acc__MulDiv), (31, F_trig_Sin g_trig_Sin),
  (32, F_trig_Cos g_trig_Cos), (33, F_root_Sqrt g_root_Sqrt), (34, F___fx_Acc__Div g___fx_Acc__Div)]) ⟨[], [], [], [], none⟩ 200 10 [.r (.agg [.c (.f (.i .i64 x0)), .c (.f (.i .i64 x1)), .c (.f (.i .i64 x2))])] [] = K_earth_New g_earth_Good g_earth_New_1 g___fx_Acc__MulDiv g_trig_Sin g_trig_Cos g_root_Sqrt g___fx_Acc__Div x0 x1 x2 ((Sum.elim (fun (d : Unit) => some (Res.mk (AV.tup [RV.c CV.nilp,
  RV.c (CV.f (FV.i IntKind.i64 1))]) [] [])) (fun (d : Int × Int × Int × Int × Int) => some (Res.mk (AV.tup [RV.c (CV.ptr 0 (Off.k 0) 5), RV.c (CV.f (FV.i IntKind.i64 0))]) [] [[Sg.c (CV.f (FV.i IntKind.i64 d.1)), Sg.c (CV.f (FV.i IntKind.i64 d.2.1)), Sg.c (CV.f (FV.i IntKind.i64 d.2.2.1)),
  Sg.c (CV.f (FV.i IntKind.i64 d.2.2.2.1)), Sg.c (CV.f (FV.i IntKind.i64 d.2.2.2.2))]])))) := by kernel_rfl
theorem m_earth_New {ρ σ : Type} (q : ρ → Option σ) (g_earth_Good : Int → Int → Int → Option Bool) (g_earth_New_1 : Int → Int → Bool → Option (Int × Bool)) (g___fx_Acc__MulDiv : Int → Int → Int → Bool → Option (Int × Bool)) (g_trig_Sin : Int → Bool → Option (Int × Bool)) (g_trig_Cos : Int → Bool → Option (Int × Bool)) (g_root_Sqrt : Int → Bool → Option (Int × Bool)) (g___fx_Acc__Div : Int → Int → Int → Bool → Option (Int × Bool))   (x0 : Int) (x1 : Int) (x2 : Int) (k : (Unit ⊕ Int × Int × Int × Int × Int) → Option ρ) : (K_earth_New g_earth_Good g_earth_New_1 g___fx_Acc__MulDiv g_trig_Sin g_trig_Cos g_root_Sqrt g___fx_Acc__Div  x0 x1 x2 k).bind q = K_earth_New g_earth_Good g_earth_New_1 g___fx_Acc__MulDiv g_trig_Sin g_trig_Cos g_root_Sqrt g___fx_Acc__Div  x0 x1 x2 (fun d => (k d).bind q) := by
  simp only [K_earth_New, bnd_cond, bnd_bind, bnd_none, bnd_sum]
theorem qa_earth_New : ∀ b, (QA_earth_New).em b = ([.r (.agg [.c (.f (.i .i64 b.1.1.1)), .c (.f (.i .i64 b.1.1.2.1)), .c (.f (.i .i64 b.1.1.2.2.1))])], []) := fun b => by kernel_rfl
theorem e_earth_New {f : (Int) → (Int) → (Int) → Option (Unit ⊕ Int × Int × Int × Int × Int)} {args : List AV} {h : List Blk} {r : Res} (hr : (F_earth_New f args h).eval = some r) : ∃ x0 x1 x2, args = [.r (.agg [.c (.f (.i .i64 x0)), .c (.f (.i .i64 x1)), .c (.f (.i .i64 x2))])] ∧ h = [] ∧ (f x0 x1 x2).bind ((Sum.elim (fun (d : Unit) => some (Res.mk (AV.tup [RV.c CV.nilp,
  RV.c (CV.f (FV.i IntKind.i64 1))]) [] [])) (fun (d : Int × Int × Int × Int × Int) => some (Res.mk (AV.tup [RV.c (CV.ptr 0 (Off.k 0) 5), RV.c (CV.f (FV.i IntKind.i64 0))]) [] [[Sg.c (CV.f (FV.i IntKind.i64 d.1)), Sg.c (CV.f (FV.i IntKind.i64 d.2.1)), Sg.c (CV.f (FV.i IntKind.i64 d.2.2.1)),
  Sg.c (CV.f (FV.i IntKind.i64 d.2.2.2.1)), Sg.c (CV.f (FV.i IntKind.i64 d.2.2.2.2))]])))) = some r := by
  unfold F_earth_New at hr
  split at hr
  · rename_i b hb
    have e := ((QA_earth_New).ok _ _ hb).trans (qa_earth_New b)
    rw [opt_eval2] at hr
    simp only [sum_eval, leaf_eval] at hr
    exact ⟨b.1.1.1, b.1.1.2.1, b.1.1.2.2.1, (Prod.mk.inj e).1, (Prod.mk.inj e).2, hr⟩
  · cases hr
theorem n_earth_New {σ : Type} (q : (Unit ⊕ Int × Int × Int × Int × Int) → Option σ) (x0 : Int) (x1 : Int) (x2 : Int) : (f_earth_New x0 x1 x2).bind q = K_earth_New f_earth_Good f_earth_New_1 f___fx_Acc__MulDiv f_trig_Sin f_trig_Cos f_root_Sqrt f___fx_Acc__Div  x0 x1 x2 q := by
  unfold f_earth_New
  exact m_earth_New q f_earth_Good f_earth_New_1 f___fx_Acc__MulDiv f_trig_Sin f_trig_Cos f_root_Sqrt f___fx_Acc__Div   x0 x1 x2 some
theorem s_earth_New [Amb] : Sound Try.prog 10 (F_earth_New f_earth_New) := (inl_sound (l := [(20, F_earth_Good f_earth_Good), (29, F_earth_New_1 f_earth_New_1), (28, F___fx_Acc__MulDiv f___fx_Acc__MulDiv), (31, F_trig_Sin f_trig_Sin), (32, F_trig_Cos f_trig_Cos), (33,
  F_root_Sqrt f_root_Sqrt), (34, F___fx_Acc__Div f___fx_Acc__Div)]) (.cons s_earth_Good (.cons s_earth_New_1 (.cons s___fx_Acc__MulDiv (.cons s_trig_Sin (.cons s_trig_Cos (.cons s_root_Sqrt (.cons s___fx_Acc__Div (.nil _)))))))) mixed [] [] 200 (by kernel_rfl)).by (F := F_earth_New f_earth_New) fun args b r hr => by
  obtain ⟨x0, x1, x2, rfl, rfl, hr1⟩ := e_earth_New hr
  exact inl_eval ((d_earth_New f_earth_Good f_earth_New_1 f___fx_Acc__MulDiv f_trig_Sin f_trig_Cos f_root_Sqrt f___fx_Acc__Div  x0 x1 x2).trans ((n_earth_New ((Sum.elim (fun (d : Unit) => some (Res.mk (AV.tup [RV.c CV.nilp, RV.c (CV.f (FV.i IntKind.i64 1))]) [] [])) (fun (d : Int × Int × Int × Int × Int) => some (Res.mk (AV.tup [RV.c (CV.ptr 0 (Off.k 0) 5), RV.c (CV.f (FV.i IntKind.i64 0))]) []
    [[Sg.c (CV.f (FV.i IntKind.i64 d.1)), Sg.c (CV.f (FV.i IntKind.i64 d.2.1)), Sg.c (CV.f (FV.i IntKind.i64 d.2.2.1)), Sg.c (CV.f (FV.i IntKind.i64 d.2.2.2.1)),
        Sg.c (CV.f (FV.i IntKind.i64 d.2.2.2.2))]])))) x0 x1 x2).symm.trans hr1))

def S_bierman_Pick_0 {ρ : Type} (x0 : Nat) (x1 : Bool) (x2 : Int) (x3 : Int) (x4 : Nat) (x5 : Nat → Int) (x6 : Nat → Int) (x7 : Nat → Int) (c : (Nat × Bool × Int × Int × Nat × (Nat → Int) × (Nat → Int) × (Nat → Int)) → Option ρ) (x : (Nat × Bool × Int × Int × Bool × Nat × (Nat → Int) × (Nat → Int) ×
  (Nat → Int)) → Option ρ) : Option ρ := bif decide (x3 < x2) then bif inR x3 x0 then bif decide (x5 (Int.toNat x3) ≥ 0) then bif decide (x5 (Int.toNat x3) < 24) then bif inR (x5 (Int.toNat x3)) 24 then bif true && Nat.ble (0 + Int.toNat (x5 (Int.toNat x3)) * 1 + 1) 24 then c (x0, x1, x2, IntKind.wrap IntKind.i64 (x3 + 1),
  x4, x5, x6, fun (j : Nat) => bif Nat.beq j (Int.toNat (x5 (Int.toNat x3))) then 1073741824 else x7 j) else none else none else c (x0, x1, x2, IntKind.wrap IntKind.i64 (x3 + 1), x4, x5, x6, x7) else c (x0, x1, x2, IntKind.wrap IntKind.i64 (x3 + 1), x4, x5, x6, x7) else none else x (x0, x1, x2, x3, decide (x3 < x2),
  x4, x5, x6, x7)
section
open Go.Ab.Rdr
def Q_bierman_Pick_0 := (st (cons aund (cons aund (cons (ar (rc (cptr (nat 1) (ok' (nat 0)) (nat 24)))) (cons (ar (rc (cptr (nat 2) (ok' (nat 0)) (nat 24)))) (cons aund (cons aund (cons (ar (rc (csl (nat 0) (ok' (nat 0)) (szs hole) (nat 1) hole))) (cons (ar (rc (cf (fi .i64 hole)))) (cons (ar (rc (cf (fi .i64 hole)))) (cons aund (cons aund (cons aund (cons aund (cons aund (cons aund (cons aund (cons aund (cons aund (cons aund (cons aund (cons aund (cons aund nil)))))))))))))))))))))) (cons (some' (cons (ga (szs hole) (cons (ki .i64 hole) nil)) nil)) (cons (some' (cons (ga (szl (nat 24)) (cons (ki .i64 hole) nil)) nil)) (cons (some' (cons (ga (szl (nat 24)) (cons (ki .i64 hole) nil)) nil)) nil))) nil)
end
theorem q_bierman_Pick_0 : ∀ b, (Q_bierman_Pick_0).em b = St.mk [AV.und, AV.und, AV.r (RV.c (CV.ptr 1 (Off.k 0) 24)), AV.r (RV.c (CV.ptr 2 (Off.k 0) 24)), AV.und, AV.und, AV.r (RV.c (CV.sl 0 (Off.k 0) (Sz.s b.1.2.2.2.2.2.2.1.2.2.1) 1 b.1.2.2.2.2.2.2.1.2.2.2.2)), AV.r (RV.c (CV.f (FV.i IntKind.i64 b.1.2.2.2.2.2.2.2.1))),
  AV.r (RV.c (CV.f (FV.i IntKind.i64 b.1.2.2.2.2.2.2.2.2.1))), AV.und, AV.und, AV.und, AV.und, AV.und, AV.und, AV.und, AV.und, AV.und, AV.und, AV.und, AV.und, AV.und] [some [Sg.a (Sz.s b.2.1.1.1.1) [Col.i IntKind.i64 b.2.1.1.1.2.1]], some [Sg.a (Sz.l 24) [Col.i IntKind.i64 b.2.1.2.1.1.2.1]], some [Sg.a (Sz.l 24) [Col.i IntKind.i64 b.2.1.2.2.1.1.2.1]]] [] := fun b => by kernel_rfl
def R_bierman_Pick_0 (l : ∀ {ρ : Type}, (Nat × Bool × Int × Int × Nat × (Nat → Int) × (Nat → Int) × (Nat → Int)) → ((Nat × Bool × Int × Int × Bool × Nat × (Nat → Int) × (Nat → Int) × (Nat → Int)) → Option ρ) → Option ρ) {ρ : Type} (s : St) (K : AX → St → Option ρ) : Option ρ := ((Q_bierman_Pick_0).rd s).bind fun b => l (b.1.2.2.2.2.2.2.1.2.2.1,
  b.1.2.2.2.2.2.2.1.2.2.2.2, b.1.2.2.2.2.2.2.2.1, b.1.2.2.2.2.2.2.2.2.1, b.2.1.1.1.1, b.2.1.1.1.2.1, b.2.1.2.1.1.2.1, b.2.1.2.2.1.1.2.1) (fun d => K (AX.ex 0) (St.mk [AV.und, AV.und, AV.r (RV.c (CV.ptr 1 (Off.k 0) 24)), AV.r (RV.c (CV.ptr 2 (Off.k 0) 24)), AV.und, AV.und, AV.r (RV.c (CV.sl 0 (Off.k 0) (Sz.s d.1) 1 d.2.1)),
  AV.r (RV.c (CV.f (FV.i IntKind.i64 d.2.2.1))), AV.r (RV.c (CV.f (FV.i IntKind.i64 d.2.2.2.1))), AV.r (RV.c (CV.f (FV.b d.2.2.2.2.1))), AV.und, AV.und, AV.und, AV.und, AV.und, AV.und, AV.und, AV.und, AV.und, AV.und, AV.und, AV.und] [some [Sg.a (Sz.s d.2.2.2.2.2.1) [Col.i IntKind.i64 d.2.2.2.2.2.2.1]],
  some [Sg.a (Sz.l 24) [Col.i IntKind.i64 d.2.2.2.2.2.2.2.1]], some [Sg.a (Sz.l 24) [Col.i IntKind.i64 d.2.2.2.2.2.2.2.2]]] []))
theorem ms_bierman_Pick_0 {ρ σ : Type}    (q : ρ → Option σ) (x0 : Nat) (x1 : Bool) (x2 : Int) (x3 : Int) (x4 : Nat) (x5 : Nat → Int) (x6 : Nat → Int) (x7 : Nat → Int) (c : (Nat × Bool × Int × Int × Nat × (Nat → Int) × (Nat → Int) × (Nat → Int)) → Option ρ) (x : (Nat × Bool × Int × Int × Bool × Nat × (Nat → Int) × (Nat → Int) × (Nat → Int)) → Option ρ) : (S_bierman_Pick_0   x0 x1 x2 x3 x4 x5 x6 x7 c x).bind q = S_bierman_Pick_0   x0 x1 x2 x3 x4 x5 x6 x7 (fun d => (c d).bind q) (fun d => (x d).bind q) := by
  simp only [S_bierman_Pick_0, bnd_cond, bnd_bind, bnd_none, bnd_sum]
def L_bierman_Pick_0 {ρ : Type} (d : Nat × Bool × Int × Int × Nat × (Nat → Int) × (Nat → Int) × (Nat → Int)) (k : (Nat × Bool × Int × Int × Bool × Nat × (Nat → Int) × (Nat → Int) × (Nat → Int)) → Option ρ) : Option ρ := loopK (fun d c x => S_bierman_Pick_0   d.1 d.2.1 d.2.2.1 d.2.2.2.1 d.2.2.2.2.1 d.2.2.2.2.2.1 d.2.2.2.2.2.2.1 d.2.2.2.2.2.2.2 c x) 200 d k
theorem mL_bierman_Pick_0 {ρ σ : Type} (q : ρ → Option σ) (d : Nat × Bool × Int × Int × Nat × (Nat → Int) × (Nat → Int) × (Nat → Int)) (k : (Nat × Bool × Int × Int × Bool × Nat × (Nat → Int) × (Nat → Int) × (Nat → Int)) → Option ρ) : (L_bierman_Pick_0 d k).bind q = L_bierman_Pick_0 d fun x => (k x).bind q := loopK_bind q (fun d c x => ms_bierman_Pick_0 q d.1 d.2.1 d.2.2.1 d.2.2.2.1 d.2.2.2.2.1 d.2.2.2.2.2.1 d.2.2.2.2.2.2.1 d.2.2.2.2.2.2.2 c x) k _ d
theorem ds_bierman_Pick_0 {ρ : Type} (l_0 : ∀ {ρ : Type}, (Nat × Bool × Int × Int × Nat × (Nat → Int) × (Nat → Int) × (Nat → Int)) → ((Nat × Bool × Int × Int × Bool × Nat × (Nat → Int) × (Nat → Int) × (Nat → Int)) → Option ρ) → Option ρ) (x0 : Nat) (x1 : Bool) (x2 : Int) (x3 : Int) (x4 : Nat) (x5 : Nat →
  Int) (x6 : Nat → Int) (x7 : Nat → Int) (c : St → Option ρ) (K : AX → St → Option ρ) : runC Try.prog (envOf []) ⟨[⟨3, [0, 1, 4, 5, 9, 10, 11, 12, 13, 14, 17, 18, 19, 20, 21, 15, 16], []⟩], [⟨3, 1, @R_bierman_Pick_0 (@l_0)⟩], [], [], (some ⟨0, [0, 1, 3, 4, 5, 6, 7, 8, 9, 10, 11, 12, 13, 14, 15, 16, 17,
  18, 19, 20, 21], []⟩)⟩ (tmpsOf Try.prog 25) 1 200 (loopIn Try.prog 25 3) (St.mk [AV.und, AV.und, AV.r (RV.c (CV.ptr 1 (Off.k 0) 24)), AV.r (RV.c (CV.ptr 2 (Off.k 0) 24)), AV.und, AV.und, AV.r (RV.c (CV.sl 0 (Off.k 0) (Sz.s x0) 1 x1)), AV.r (RV.c (CV.f (FV.i IntKind.i64 x2))), AV.r (RV.c (CV.f (FV.i IntKind.i64 x3))),
  AV.und, AV.und, AV.und, AV.und, AV.und, AV.und, AV.und, AV.und, AV.und, AV.und, AV.und, AV.und, AV.und] [some [Sg.a (Sz.s x4) [Col.i IntKind.i64 x5]], some [Sg.a (Sz.l 24) [Col.i IntKind.i64 x6]], some [Sg.a (Sz.l 24) [Col.i IntKind.i64 x7]]] []) (next (fun t => t.head 1 ⟨[⟨3, [0, 1, 4, 5, 9, 10, 11,
  12, 13, 14, 17, 18, 19, 20, 21, 15, 16], []⟩], [⟨3, 1, @R_bierman_Pick_0 (@l_0)⟩], [], [], (some ⟨0, [0, 1, 3, 4, 5, 6, 7, 8, 9, 10, 11, 12, 13, 14, 15, 16, 17, 18, 19, 20, 21], []⟩)⟩ (loopIn Try.prog 25 3)) c K) = S_bierman_Pick_0 x0 x1 x2 x3 x4 x5 x6 x7 (fun d => c (St.mk [AV.und, AV.und, AV.r (RV.c (CV.ptr 1 (Off.k 0) 24)),
  AV.r (RV.c (CV.ptr 2 (Off.k 0) 24)), AV.und, AV.und, AV.r (RV.c (CV.sl 0 (Off.k 0) (Sz.s d.1) 1 d.2.1)), AV.r (RV.c (CV.f (FV.i IntKind.i64 d.2.2.1))), AV.r (RV.c (CV.f (FV.i IntKind.i64 d.2.2.2.1))), AV.und, AV.und, AV.und, AV.und, AV.und, AV.und, AV.und, AV.und, AV.und, AV.und,
  AV.und, AV.und, AV.und] [some [Sg.a (Sz.s d.2.2.2.2.1) [Col.i IntKind.i64 d.2.2.2.2.2.1]], some [Sg.a (Sz.l 24) [Col.i IntKind.i64 d.2.2.2.2.2.2.1]], some [Sg.a (Sz.l 24) [Col.i IntKind.i64 d.2.2.2.2.2.2.2]]] [])) (fun d => K (AX.ex 0) (St.mk [AV.und,
  AV.und, AV.r (RV.c (CV.ptr 1 (Off.k 0) 24)), AV.r (RV.c (CV.ptr 2 (Off.k 0) 24)), AV.und, AV.und, AV.r (RV.c (CV.sl 0 (Off.k 0) (Sz.s d.1) 1 d.2.1)), AV.r (RV.c (CV.f (FV.i IntKind.i64 d.2.2.1))), AV.r (RV.c (CV.f (FV.i IntKind.i64 d.2.2.2.1))), AV.r (RV.c (CV.f (FV.b d.2.2.2.2.1))),
  AV.und, AV.und, AV.und, AV.und, AV.und, AV.und, AV.und, AV.und, AV.und, AV.und, AV.und, AV.und] [some [Sg.a (Sz.s d.2.2.2.2.2.1) [Col.i IntKind.i64 d.2.2.2.2.2.2.1]], some [Sg.a (Sz.l 24) [Col.i IntKind.i64 d.2.2.2.2.2.2.2.1]], some [Sg.a (Sz.l 24) [Col.i IntKind.i64 d.2.2.2.2.2.2.2.2]]] [])) := by kernel_rfl
theorem it_bierman_Pick_0 {ρ : Type} (x0 : Nat) (x1 : Bool) (x2 : Int) (x3 : Int) (x4 : Nat) (x5 : Nat → Int) (x6 : Nat → Int) (x7 : Nat → Int) (K : AX → St → Option ρ) : iter (fun t => t.head 1 ⟨[⟨3, [0, 1, 4, 5, 9, 10, 11, 12, 13, 14, 17, 18, 19, 20, 21, 15, 16], []⟩], [⟨3, 1, @R_bierman_Pick_0 (@L_bierman_Pick_0)⟩],
  [], [], (some ⟨0, [0, 1, 3, 4, 5, 6, 7, 8, 9, 10, 11, 12, 13, 14, 15, 16, 17, 18, 19, 20, 21], []⟩)⟩ (loopIn Try.prog 25 3)) (runC Try.prog (envOf []) ⟨[⟨3, [0, 1, 4, 5, 9, 10, 11, 12, 13, 14, 17, 18, 19, 20, 21, 15, 16], []⟩], [⟨3, 1, @R_bierman_Pick_0 (@L_bierman_Pick_0)⟩], [], [], (some ⟨0, [0,
  1, 3, 4, 5, 6, 7, 8, 9, 10, 11, 12, 13, 14, 15, 16, 17, 18, 19, 20, 21], []⟩)⟩ (tmpsOf Try.prog 25) 1 200 (loopIn Try.prog 25 3)) K 200 (St.mk [AV.und, AV.und, AV.r (RV.c (CV.ptr 1 (Off.k 0) 24)), AV.r (RV.c (CV.ptr 2 (Off.k 0) 24)), AV.und, AV.und, AV.r (RV.c (CV.sl 0 (Off.k 0) (Sz.s x0) 1 x1)),
  AV.r (RV.c (CV.f (FV.i IntKind.i64 x2))), AV.r (RV.c (CV.f (FV.i IntKind.i64 x3))), AV.und, AV.und, AV.und, AV.und, AV.und, AV.und, AV.und, AV.und, AV.und, AV.und, AV.und, AV.und, AV.und] [some [Sg.a (Sz.s x4) [Col.i IntKind.i64 x5]], some [Sg.a (Sz.l 24) [Col.i IntKind.i64 x6]], some [Sg.a (Sz.l 24) [Col.i IntKind.i64 x7]]] []) = L_bierman_Pick_0 (x0,
  x1, x2, x3, x4, x5, x6, x7) (fun d => K (AX.ex 0) (St.mk [AV.und, AV.und, AV.r (RV.c (CV.ptr 1 (Off.k 0) 24)), AV.r (RV.c (CV.ptr 2 (Off.k 0) 24)), AV.und, AV.und, AV.r (RV.c (CV.sl 0 (Off.k 0) (Sz.s d.1) 1 d.2.1)), AV.r (RV.c (CV.f (FV.i IntKind.i64 d.2.2.1))), AV.r (RV.c (CV.f (FV.i IntKind.i64 d.2.2.2.1))),
  AV.r (RV.c (CV.f (FV.b d.2.2.2.2.1))), AV.und, AV.und, AV.und, AV.und, AV.und, AV.und, AV.und, AV.und, AV.und, AV.und, AV.und, AV.und] [some [Sg.a (Sz.s d.2.2.2.2.2.1) [Col.i IntKind.i64 d.2.2.2.2.2.2.1]], some [Sg.a (Sz.l 24) [Col.i IntKind.i64 d.2.2.2.2.2.2.2.1]],
  some [Sg.a (Sz.l 24) [Col.i IntKind.i64 d.2.2.2.2.2.2.2.2]]] [])) := iter_loopX (emb := fun (d : Nat × Bool × Int × Int × Nat × (Nat → Int) × (Nat → Int) × (Nat → Int)) => St.mk [AV.und, AV.und, AV.r (RV.c (CV.ptr 1 (Off.k 0) 24)), AV.r (RV.c (CV.ptr 2 (Off.k 0) 24)), AV.und, AV.und,
  AV.r (RV.c (CV.sl 0 (Off.k 0) (Sz.s d.1) 1 d.2.1)), AV.r (RV.c (CV.f (FV.i IntKind.i64 d.2.2.1))), AV.r (RV.c (CV.f (FV.i IntKind.i64 d.2.2.2.1))), AV.und, AV.und, AV.und, AV.und, AV.und, AV.und, AV.und, AV.und, AV.und, AV.und, AV.und, AV.und, AV.und] [some [Sg.a (Sz.s d.2.2.2.2.1) [Col.i IntKind.i64 d.2.2.2.2.2.1]],
  some [Sg.a (Sz.l 24) [Col.i IntKind.i64 d.2.2.2.2.2.2.1]], some [Sg.a (Sz.l 24) [Col.i IntKind.i64 d.2.2.2.2.2.2.2]]] []) (step := fun d c x => S_bierman_Pick_0 d.1 d.2.1 d.2.2.1 d.2.2.2.1 d.2.2.2.2.1 d.2.2.2.2.2.1 d.2.2.2.2.2.2.1 d.2.2.2.2.2.2.2 c x) (kx := (fun d => K (AX.ex 0) (St.mk [AV.und,
  AV.und, AV.r (RV.c (CV.ptr 1 (Off.k 0) 24)), AV.r (RV.c (CV.ptr 2 (Off.k 0) 24)), AV.und, AV.und, AV.r (RV.c (CV.sl 0 (Off.k 0) (Sz.s d.1) 1 d.2.1)), AV.r (RV.c (CV.f (FV.i IntKind.i64 d.2.2.1))), AV.r (RV.c (CV.f (FV.i IntKind.i64 d.2.2.2.1))), AV.r (RV.c (CV.f (FV.b d.2.2.2.2.1))),
  AV.und, AV.und, AV.und, AV.und, AV.und, AV.und, AV.und, AV.und, AV.und, AV.und, AV.und, AV.und] [some [Sg.a (Sz.s d.2.2.2.2.2.1) [Col.i IntKind.i64 d.2.2.2.2.2.2.1]], some [Sg.a (Sz.l 24) [Col.i IntKind.i64 d.2.2.2.2.2.2.2.1]], some [Sg.a (Sz.l 24) [Col.i IntKind.i64 d.2.2.2.2.2.2.2.2]]] []))) (fun d c => ds_bierman_Pick_0 (@L_bierman_Pick_0) d.1 d.2.1 d.2.2.1 d.2.2.2.1 d.2.2.2.2.1 d.2.2.2.2.2.1 d.2.2.2.2.2.2.1 d.2.2.2.2.2.2.2 c K) 200 (x0,
  x1, x2, x3, x4, x5, x6, x7)
theorem so_bierman_Pick_0 [Amb] : ∀ kk, SumOK Try.prog (envOf []) ⟨[⟨3, [0, 1, 4, 5, 9, 10, 11, 12, 13, 14, 17, 18, 19, 20, 21, 15, 16], []⟩], [⟨3, 1, @R_bierman_Pick_0 (@L_bierman_Pick_0)⟩], [], [], (some ⟨0, [0, 1, 3, 4, 5, 6, 7, 8, 9, 10, 11, 12, 13, 14, 15, 16, 17, 18, 19, 20, 21], []⟩)⟩ (tmpsOf Try.prog 25) kk 200 (loopIn Try.prog 25 3) := SumOK.of (id := 3) (k0 := 1) (run := @R_bierman_Pick_0 (@L_bierman_Pick_0)) (by kernel_rfl) fun s K r hr => by
    unfold R_bierman_Pick_0 at hr
    obtain ⟨b, hb, hr1⟩ := Option.bind_eq_some_iff.1 hr
    have e := ((Q_bierman_Pick_0).ok s b hb).trans (q_bierman_Pick_0 b)
    subst e
    exact ⟨200, (it_bierman_Pick_0 b.1.2.2.2.2.2.2.1.2.2.1 b.1.2.2.2.2.2.2.1.2.2.2.2 b.1.2.2.2.2.2.2.2.1 b.1.2.2.2.2.2.2.2.2.1 b.2.1.1.1.1 b.2.1.1.1.2.1 b.2.1.2.1.1.2.1 b.2.1.2.2.1.1.2.1 K).trans hr1⟩
def K_bierman_Pick {ρ : Type} (l_0 : ∀ {ρ : Type}, (Nat × Bool × Int × Int × Nat × (Nat → Int) × (Nat → Int) × (Nat → Int)) → ((Nat × Bool × Int × Int × Bool × Nat × (Nat → Int) × (Nat → Int) × (Nat → Int)) → Option ρ) → Option ρ) (x0 : Nat) (x1 : Nat → Int) (w0 : Bool) (k : (Nat → Int) → Option ρ) : Option ρ := l_0 (x0,
  w0, Int.ofNat x0, 0, x0, x1, fun (x : Nat) => 0, fun (x : Nat) => 0) fun (d : Nat × Bool × Int × Int × Bool × Nat × (Nat → Int) × (Nat → Int) × (Nat → Int)) => k d.2.2.2.2.2.2.2.2
def f_bierman_Pick (x0 : Nat) (x1 : Nat → Int) (w0 : Bool) : Option (Nat → Int) := K_bierman_Pick  (@L_bierman_Pick_0) x0 x1 w0 some
section
open Go.Ab.Rdr
def QA_bierman_Pick := ((pair (cons (ar (rc (csl (nat 0) (ok' (nat 0)) (szs hole) (nat 1) hole))) nil) (cons (cons (ga (szs hole) (cons (ki .i64 hole) nil)) nil) nil)) : Rdr (List AV × List Blk) _)
end
def F0_bierman_Pick (f : (Nat) → (Nat → Int) → (Bool) → Option (Nat → Int)) : Sem1 := fun args h => match (QA_bierman_Pick).rd (args, h) with
  | some b => .test (Nat.beq b.2.1.1.1 b.1.1.2.2.1) (.opt (f b.1.1.2.2.1 b.2.1.1.2.1 b.1.1.2.2.2.2) fun (d : Nat → Int) => .leaf (Res.mk (AV.r (RV.agg [Sg.a (Sz.l 24) [Col.i IntKind.i64 d]])) [Ch.keep] [])) .fail
  | none => .fail
def F_bierman_Pick (f : (Nat) → (Nat → Int) → (Bool) → Option (Nat → Int)) : Sem1 := (nilF 0 [.i .i64] (F0_bierman_Pick f))
theorem d_bierman_Pick (l_0 : ∀ {ρ : Type}, (Nat × Bool × Int × Int × Nat × (Nat → Int) × (Nat → Int) × (Nat → Int)) → ((Nat × Bool × Int × Int × Bool × Nat × (Nat → Int) × (Nat → Int) × (Nat → Int)) → Option ρ) → Option ρ) (x0 : Nat) (x1 : Nat → Int) (w0 : Bool) : den Try.prog (envOf []) ⟨[⟨3, [0, 1,
  4, 5, 9, 10, 11, 12, 13, 14, 17, 18, 19, 20, 21, 15, 16], []⟩], [⟨3, 1, @R_bierman_Pick_0 (@l_0)⟩], [], [], (some ⟨0, [0, 1, 3, 4, 5, 6, 7, 8, 9, 10, 11, 12, 13, 14, 15, 16, 17, 18, 19, 20, 21], []⟩)⟩ 200 25 [.r (.c (.sl 0 (.k 0) (.s x0) 1 w0))] [[.a (.s x0) [.i .i64 x1]]] = K_bierman_Pick (@l_0) x0 x1 w0 (fun (d : Nat →
  Int) => some (Res.mk (AV.r (RV.agg [Sg.a (Sz.l 24) [Col.i IntKind.i64 d]])) [Ch.keep] [])) := by kernel_rfl
theorem m_bierman_Pick {ρ σ : Type} (q : ρ → Option σ)  (l_0 : ∀ {ρ : Type}, (Nat × Bool × Int × Int × Nat × (Nat → Int) × (Nat → Int) × (Nat → Int)) → ((Nat × Bool × Int × Int × Bool × Nat × (Nat → Int) × (Nat → Int) × (Nat → Int)) → Option ρ) → Option ρ) (hl_0 : ∀ {ρ σ : Type} (q : ρ → Option σ) (d : Nat × Bool × Int × Int × Nat × (Nat → Int) × (Nat → Int) × (Nat → Int)) (k : (Nat × Bool × Int × Int × Bool × Nat × (Nat → Int) × (Nat → Int) × (Nat → Int)) → Option ρ), (l_0 d k).bind q = l_0 d fun x => (k x).bind q) (x0 : Nat) (x1 : Nat → Int) (w0 : Bool) (k : (Nat → Int) → Option ρ) : (K_bierman_Pick  (@l_0) x0 x1 w0 k).bind q = K_bierman_Pick  (@l_0) x0 x1 w0 (fun d => (k d).bind q) := by
  simp only [K_bierman_Pick, bnd_cond, bnd_bind, bnd_none, bnd_sum, hl_0]
theorem qa_bierman_Pick : ∀ b, (QA_bierman_Pick).em b = ([.r (.c (.sl 0 (.k 0) (.s b.1.1.2.2.1) 1 b.1.1.2.2.2.2))], [[.a (.s b.2.1.1.1) [.i .i64 b.2.1.1.2.1]]]) := fun b => by kernel_rfl
theorem e_bierman_Pick {f : (Nat) → (Nat → Int) → (Bool) → Option (Nat → Int)} {args : List AV} {h : List Blk} {r : Res} (hr : (F0_bierman_Pick f args h).eval = some r) : ∃ x0 x1 w0, args = [.r (.c (.sl 0 (.k 0) (.s x0) 1 w0))] ∧ h = [[.a (.s x0) [.i .i64 x1]]] ∧ (f x0 x1 w0).bind (fun (d : Nat → Int) => some (Res.mk (AV.r (RV.agg [Sg.a (Sz.l 24) [Col.i IntKind.i64 d]])) [Ch.keep] [])) = some r := by
  unfold F0_bierman_Pick at hr
  split at hr
  · rename_i b hb
    have e := ((QA_bierman_Pick).ok _ _ hb).trans (qa_bierman_Pick b)
    obtain ⟨he, hr1⟩ := test_eval hr
    clear hr
    have hr := hr1
    clear hr1
    rw [Nat.eq_of_beq_eq_true he] at e
    clear he
    rw [opt_eval2] at hr
    exact ⟨b.1.1.2.2.1, b.2.1.1.2.1, b.1.1.2.2.2.2, (Prod.mk.inj e).1, (Prod.mk.inj e).2, hr⟩
  · cases hr
theorem n_bierman_Pick {σ : Type} (q : (Nat → Int) → Option σ) (x0 : Nat) (x1 : Nat → Int) (w0 : Bool) : (f_bierman_Pick x0 x1 w0).bind q = K_bierman_Pick  (@L_bierman_Pick_0) x0 x1 w0 q := by
  unfold f_bierman_Pick
  exact m_bierman_Pick q  (@L_bierman_Pick_0) (fun q d k => mL_bierman_Pick_0 q d k) x0 x1 w0 some
theorem s_bierman_Pick [Amb] : Sound Try.prog 25 (F_bierman_Pick f_bierman_Pick) := Sound.nil 0 [.i .i64] <| (inl_sums (l := []) (.nil _) mixed (hs := ⟨[⟨3, [0, 1, 4, 5, 9, 10, 11, 12, 13, 14, 17, 18, 19, 20, 21, 15, 16], []⟩], [⟨3, 1, @R_bierman_Pick_0 (@L_bierman_Pick_0)⟩], [], [], (some ⟨0, [0,
  1, 3, 4, 5, 6, 7, 8, 9, 10, 11, 12, 13, 14, 15, 16, 17, 18, 19, 20, 21], []⟩)⟩) (lf := 200) (Sums.by (l := [loopIn Try.prog 25 3]) (lj := []) (by kernel_rfl) ⟨so_bierman_Pick_0, trivial⟩ (by kernel_rfl) trivial) (by kernel_rfl)).by (F := F0_bierman_Pick f_bierman_Pick) fun args b r hr => by
  obtain ⟨x0, x1, w0, rfl, rfl, hr1⟩ := e_bierman_Pick hr
  exact inl_eval ((d_bierman_Pick  (@L_bierman_Pick_0) x0 x1 w0).trans ((n_bierman_Pick (fun (d : Nat → Int) => some (Res.mk (AV.r (RV.agg [Sg.a (Sz.l 24) [Col.i IntKind.i64 d]])) [Ch.keep] [])) x0 x1 w0).symm.trans hr1))

def K___fx_Acc__Sub {ρ : Type} (g___fx_Acc__Sat : Int → Bool → Option (Int × Bool)) (x0 : Int) (x1 : Int) (x2 : Bool) (k : (Int × Bool) → Option ρ) : Option ρ := Option.bind (g___fx_Acc__Sat x0 x2) fun (d : Int × Bool) => Option.bind (g___fx_Acc__Sat x1 d.2) fun (d_1 : Int × Bool) => Option.bind (g___fx_Acc__Sat (IntKind.wrap IntKind.i64 (d.1 - d_1.1)) d_1.2) fun (d : Int ×
  Bool) => k (d.1, d.2)
def f___fx_Acc__Sub (x0 : Int) (x1 : Int) (x2 : Bool) : Option (Int × Bool) := K___fx_Acc__Sub f___fx_Acc__Sat  x0 x1 x2 some
section
open Go.Ab.Rdr
def QA___fx_Acc__Sub := ((pair (cons (ar (rc (cptr (nat 0) (ok' (nat 0)) (nat 1)))) (cons (ar (rc (cf (fi .i64 hole)))) (cons (ar (rc (cf (fi .i64 hole)))) nil))) (cons (cons (gc (cf (fb hole))) nil) nil)) : Rdr (List AV × List Blk) _)
end
def F___fx_Acc__Sub (f : (Int) → (Int) → (Bool) → Option (Int × Bool)) : Sem1 := fun args h => match (QA___fx_Acc__Sub).rd (args, h) with
  | some b => .opt (f b.1.2.1 b.1.2.2.1 b.2.1.1) fun (d : Int × Bool) => .leaf (Res.mk (AV.r (RV.c (CV.f (FV.i IntKind.i64 d.1)))) [Ch.set [Sg.c (CV.f (FV.b d.2))]] [])
  | none => .fail
theorem d___fx_Acc__Sub (g___fx_Acc__Sat : Int → Bool → Option (Int × Bool)) (x0 : Int) (x1 : Int) (x2 : Bool) : den Try.prog (envOf [(52, F___fx_Acc__Sat g___fx_Acc__Sat)]) ⟨[], [], [], [], none⟩ 200 60 [.r (.c (.ptr 0 (.k 0) 1)), .r (.c (.f (.i .i64 x0))), .r (.c (.f (.i .i64 x1)))] [[.c (.f (.b x2))]] = K___fx_Acc__Sub g___fx_Acc__Sat x0 x1 x2 (fun (d : Int ×
  Bool) => some (Res.mk (AV.r (RV.c (CV.f (FV.i IntKind.i64 d.1)))) [Ch.set [Sg.c (CV.f (FV.b d.2))]] [])) := by kernel_rfl
theorem m___fx_Acc__Sub {ρ σ : Type} (q : ρ → Option σ) (g___fx_Acc__Sat : Int → Bool → Option (Int × Bool))   (x0 : Int) (x1 : Int) (x2 : Bool) (k : (Int × Bool) → Option ρ) : (K___fx_Acc__Sub g___fx_Acc__Sat  x0 x1 x2 k).bind q = K___fx_Acc__Sub g___fx_Acc__Sat  x0 x1 x2 (fun d => (k d).bind q) := by
  simp only [K___fx_Acc__Sub, bnd_cond, bnd_bind, bnd_none, bnd_sum]
theorem qa___fx_Acc__Sub : ∀ b, (QA___fx_Acc__Sub).em b = ([.r (.c (.ptr 0 (.k 0) 1)), .r (.c (.f (.i .i64 b.1.2.1))), .r (.c (.f (.i .i64 b.1.2.2.1)))], [[.c (.f (.b b.2.1.1))]]) := fun b => by kernel_rfl
theorem e___fx_Acc__Sub {f : (Int) → (Int) → (Bool) → Option (Int × Bool)} {args : List AV} {h : List Blk} {r : Res} (hr : (F___fx_Acc__Sub f args h).eval = some r) : ∃ x0 x1 x2, args = [.r (.c (.ptr 0 (.k 0) 1)), .r (.c (.f (.i .i64 x0))), .r (.c (.f (.i .i64 x1)))] ∧ h = [[.c (.f (.b x2))]] ∧ (f x0 x1 x2).bind (fun (d : Int × Bool) => some (Res.mk (AV.r (RV.c (CV.f (FV.i IntKind.i64 d.1)))) [Ch.set [Sg.c (CV.f (FV.b d.2))]] [])) = some r := by
  unfold F___fx_Acc__Sub at hr
  split at hr
  · rename_i b hb
    have e := ((QA___fx_Acc__Sub).ok _ _ hb).trans (qa___fx_Acc__Sub b)
    rw [opt_eval2] at hr
    exact ⟨b.1.2.1, b.1.2.2.1, b.2.1.1, (Prod.mk.inj e).1, (Prod.mk.inj e).2, hr⟩
  · cases hr
theorem n___fx_Acc__Sub {σ : Type} (q : (Int × Bool) → Option σ) (x0 : Int) (x1 : Int) (x2 : Bool) : (f___fx_Acc__Sub x0 x1 x2).bind q = K___fx_Acc__Sub f___fx_Acc__Sat  x0 x1 x2 q := by
  unfold f___fx_Acc__Sub
  exact m___fx_Acc__Sub q f___fx_Acc__Sat   x0 x1 x2 some
theorem s___fx_Acc__Sub [Amb] : Sound Try.prog 60 (F___fx_Acc__Sub f___fx_Acc__Sub) := (inl_sound (l := [(52, F___fx_Acc__Sat f___fx_Acc__Sat)]) (.cons s___fx_Acc__Sat (.nil _)) mixed [] [] 200 (by kernel_rfl)).by (F := F___fx_Acc__Sub f___fx_Acc__Sub) fun args b r hr => by
  obtain ⟨x0, x1, x2, rfl, rfl, hr1⟩ := e___fx_Acc__Sub hr
  exact inl_eval ((d___fx_Acc__Sub f___fx_Acc__Sat  x0 x1 x2).trans ((n___fx_Acc__Sub (fun (d : Int × Bool) => some (Res.mk (AV.r (RV.c (CV.f (FV.i IntKind.i64 d.1)))) [Ch.set [Sg.c (CV.f (FV.b d.2))]] [])) x0 x1 x2).symm.trans hr1))

def K_gnss_straight {ρ : Type} (g_bierman_Pick : Nat → (Nat → Int) → Bool → Option (Nat → Int)) (g___fx_Acc__Sub : Int → Int → Bool → Option (Int × Bool)) (x0 : Nat → Int) (x1 : Int) (x2 : Int) (x3 : Int) (x4 : Int) (x5 : Bool) (k : ((Nat → Int) × Int × Int × Int × Bool) → Option ρ) : Option ρ := Option.bind (g_bierman_Pick 1 (fun (j : Nat) => bif Nat.beq j 0 then
  x1 else x1) true) fun (d : Nat → Int) => bif inR x1 24 then Option.bind (g___fx_Acc__Sub x2 (x0 (Int.toNat x1)) x5) fun (d_1 : Int × Bool) => k (d, d_1.1, x3, x4, d_1.2) else none
def f_gnss_straight (x0 : Nat → Int) (x1 : Int) (x2 : Int) (x3 : Int) (x4 : Int) (x5 : Bool) : Option ((Nat → Int) × Int × Int × Int × Bool) := K_gnss_straight f_bierman_Pick f___fx_Acc__Sub  x0 x1 x2 x3 x4 x5 some
section
open Go.Ab.Rdr
def QA_gnss_straight := ((pair (cons (ar (rc (cptr (nat 0) (ok' (nat 0)) (nat 1)))) (cons (ar (ra (cons (ga (szl (nat 24)) (cons (ki .i64 hole) nil)) nil))) (cons (ar (rc (cf (fi .i64 hole)))) (cons (ar (rc (cf (fi .i64 hole)))) (cons (ar (rc (cf (fi .i64 hole)))) (cons (ar (rc (cf (fi .i64 hole)))) nil)))))) (cons (cons (gc (cf (fb hole))) nil) nil)) : Rdr (List AV × List Blk) _)
end
def F_gnss_straight (f : (Nat → Int) → (Int) → (Int) → (Int) → (Int) → (Bool) → Option ((Nat → Int) × Int × Int × Int × Bool)) : Sem1 := fun args h => match (QA_gnss_straight).rd (args, h) with
  | some b => .opt (f b.1.2.1.1.2.1 b.1.2.2.1 b.1.2.2.2.1 b.1.2.2.2.2.1 b.1.2.2.2.2.2.1 b.2.1.1) fun (d : (Nat → Int) × Int × Int × Int × Bool) => .leaf (Res.mk
    (AV.r (RV.agg [Sg.a (Sz.l 24) [Col.i IntKind.i64 d.1], Sg.c (CV.f (FV.i IntKind.i64 d.2.1)), Sg.c (CV.f (FV.i IntKind.i64 d.2.2.1)), Sg.c (CV.f (FV.i IntKind.i64 d.2.2.2.1))]))
    [Ch.set [Sg.c (CV.f (FV.b d.2.2.2.2))]] [])
  | none => .fail
theorem d_gnss_straight (g_bierman_Pick : Nat → (Nat → Int) → Bool → Option (Nat → Int)) (g___fx_Acc__Sub : Int → Int → Bool → Option (Int × Bool)) (x0 : Nat → Int) (x1 : Int) (x2 : Int) (x3 : Int) (x4 : Int) (x5 : Bool) : den Try.prog (envOf [(25, F_bierman_Pick g_bierman_Pick), (60, F___fx_Acc__Sub g___fx_Acc__Sub)]) ⟨[],
  [], [], [], none⟩ 200 35 [.r (.c (.ptr 0 (.k 0) 1)), .r (.agg [.a (.l 24) [.i .i64 x0]]), .r (.c (.f (.i .i64 x1))), .r (.c (.f (.i .i64 x2))), .r (.c (.f (.i .i64 x3))), .r (.c (.f (.i .i64 x4)))] [[.c (.f (.b x5))]] = K_gnss_straight g_bierman_Pick g___fx_Acc__Sub x0 x1 x2 x3 x4 x5 (fun (d : (Nat →
  Int) × Int × Int × Int × Bool) => some (Res.mk (AV.r (RV.agg [Sg.a (Sz.l 24) [Col.i IntKind.i64 d.1], Sg.c (CV.f (FV.i IntKind.i64 d.2.1)), Sg.c (CV.f (FV.i IntKind.i64 d.2.2.1)), Sg.c (CV.f (FV.i IntKind.i64 d.2.2.2.1))])) [Ch.set [Sg.c (CV.f (FV.b d.2.2.2.2))]] [])) := by kernel_rfl
theorem m_gnss_straight {ρ σ : Type} (q : ρ → Option σ) (g_bierman_Pick : Nat → (Nat → Int) → Bool → Option (Nat → Int)) (g___fx_Acc__Sub : Int → Int → Bool → Option (Int × Bool))   (x0 : Nat → Int) (x1 : Int) (x2 : Int) (x3 : Int) (x4 : Int) (x5 : Bool) (k : ((Nat → Int) × Int × Int × Int × Bool) → Option ρ) : (K_gnss_straight g_bierman_Pick g___fx_Acc__Sub  x0 x1 x2 x3 x4 x5 k).bind q = K_gnss_straight g_bierman_Pick g___fx_Acc__Sub  x0 x1 x2 x3 x4 x5 (fun d => (k d).bind q) := by
  simp only [K_gnss_straight, bnd_cond, bnd_bind, bnd_none, bnd_sum]
theorem qa_gnss_straight : ∀ b, (QA_gnss_straight).em b = ([.r (.c (.ptr 0 (.k 0) 1)), .r (.agg [.a (.l 24) [.i .i64 b.1.2.1.1.2.1]]), .r (.c (.f (.i .i64 b.1.2.2.1))), .r (.c (.f (.i .i64 b.1.2.2.2.1))), .r (.c (.f (.i .i64 b.1.2.2.2.2.1))), .r (.c (.f (.i .i64 b.1.2.2.2.2.2.1)))], [[.c (.f (.b b.2.1.1))]]) := fun b => by kernel_rfl
theorem e_gnss_straight {f : (Nat → Int) → (Int) → (Int) → (Int) → (Int) → (Bool) → Option ((Nat → Int) × Int × Int × Int × Bool)} {args : List AV} {h : List Blk} {r : Res} (hr : (F_gnss_straight f args h).eval = some r) : ∃ x0 x1 x2 x3 x4 x5, args = [.r (.c (.ptr 0 (.k 0) 1)), .r (.agg [.a (.l 24) [.i .i64 x0]]),
  .r (.c (.f (.i .i64 x1))), .r (.c (.f (.i .i64 x2))), .r (.c (.f (.i .i64 x3))), .r (.c (.f (.i .i64 x4)))] ∧ h = [[.c (.f (.b x5))]] ∧ (f x0 x1 x2 x3 x4 x5).bind (fun (d : (Nat → Int) × Int × Int × Int × Bool) => some (Res.mk (AV.r (RV.agg [Sg.a (Sz.l 24) [Col.i IntKind.i64 d.1], Sg.c (CV.f (FV.i IntKind.i64 d.2.1)),
  Sg.c (CV.f (FV.i IntKind.i64 d.2.2.1)), Sg.c (CV.f (FV.i IntKind.i64 d.2.2.2.1))])) [Ch.set [Sg.c (CV.f (FV.b d.2.2.2.2))]] [])) = some r := by
  unfold F_gnss_straight at hr
  split at hr
  · rename_i b hb
    have e := ((QA_gnss_straight).ok _ _ hb).trans (qa_gnss_straight b)
    rw [opt_eval2] at hr
    exact ⟨b.1.2.1.1.2.1, b.1.2.2.1, b.1.2.2.2.1, b.1.2.2.2.2.1, b.1.2.2.2.2.2.1, b.2.1.1, (Prod.mk.inj e).1, (Prod.mk.inj e).2, hr⟩
  · cases hr
theorem n_gnss_straight {σ : Type} (q : ((Nat → Int) × Int × Int × Int × Bool) → Option σ) (x0 : Nat → Int) (x1 : Int) (x2 : Int) (x3 : Int) (x4 : Int) (x5 : Bool) : (f_gnss_straight x0 x1 x2 x3 x4 x5).bind q = K_gnss_straight f_bierman_Pick f___fx_Acc__Sub  x0 x1 x2 x3 x4 x5 q := by
  unfold f_gnss_straight
  exact m_gnss_straight q f_bierman_Pick f___fx_Acc__Sub   x0 x1 x2 x3 x4 x5 some
theorem s_gnss_straight [Amb] : Sound Try.prog 35 (F_gnss_straight f_gnss_straight) := (inl_sound (l := [(25, F_bierman_Pick f_bierman_Pick), (60, F___fx_Acc__Sub f___fx_Acc__Sub)]) (.cons s_bierman_Pick (.cons s___fx_Acc__Sub (.nil _))) mixed [] [] 200 (by kernel_rfl)).by (F := F_gnss_straight f_gnss_straight) fun args b r hr => by
  obtain ⟨x0, x1, x2, x3, x4, x5, rfl, rfl, hr1⟩ := e_gnss_straight hr
  exact inl_eval ((d_gnss_straight f_bierman_Pick f___fx_Acc__Sub  x0 x1 x2 x3 x4 x5).trans ((n_gnss_straight (fun (d : (Nat → Int) × Int × Int × Int × Bool) => some (Res.mk
    (AV.r (RV.agg [Sg.a (Sz.l 24) [Col.i IntKind.i64 d.1], Sg.c (CV.f (FV.i IntKind.i64 d.2.1)), Sg.c (CV.f (FV.i IntKind.i64 d.2.2.1)), Sg.c (CV.f (FV.i IntKind.i64 d.2.2.2.1))]))
    [Ch.set [Sg.c (CV.f (FV.b d.2.2.2.2))]] [])) x0 x1 x2 x3 x4 x5).symm.trans hr1))

def K_gnss_Velocity {ρ : Type} (g_gnss_straight : (Nat → Int) → Int → Int → Int → Int → Bool → Option ((Nat → Int) × Int × Int × Int × Bool)) (x0 : Nat → Int) (x1 : Int) (x2 : Int) (x3 : Int) (x4 : Int) (x5 : Int) (x6 : Int) (x7 : Int) (x8 : Int) (x9 : Int) (x10 : Bool) (k : (Bool × (Nat → Int) × Int ×
  Int × Int × (Nat → Int) × Int × Int × Int × (Nat → Int) × Int × Int × Int) → Option ρ) : Option ρ := Option.bind (g_gnss_straight x0 4 x4 x8 x9 x10) fun (d : (Nat → Int) × Int × Int × Int × Bool) => Option.bind (g_gnss_straight x0 5 x5 x8 x9 d.2.2.2.2) fun (d_1 : (Nat → Int) × Int × Int × Int ×
  Bool) => Option.bind (g_gnss_straight x0 6 x6 x8 x9 d_1.2.2.2.2) fun (d_2 : (Nat → Int) × Int × Int × Int × Bool) => k (d_2.2.2.2.2, d.1, d.2.1, d.2.2.1, d.2.2.2.1, d_1.1, d_1.2.1, d_1.2.2.1, d_1.2.2.2.1, d_2.1, d_2.2.1, d_2.2.2.1, d_2.2.2.2.1)
def f_gnss_Velocity (x0 : Nat → Int) (x1 : Int) (x2 : Int) (x3 : Int) (x4 : Int) (x5 : Int) (x6 : Int) (x7 : Int) (x8 : Int) (x9 : Int) (x10 : Bool) : Option (Bool × (Nat → Int) × Int × Int × Int × (Nat → Int) × Int × Int × Int × (Nat → Int) × Int × Int × Int) := K_gnss_Velocity f_gnss_straight  x0 x1 x2 x3 x4 x5 x6 x7 x8 x9 x10 some
section
open Go.Ab.Rdr
def QA_gnss_Velocity := ((pair (cons (ar (rc (cptr (nat 0) (ok' (nat 0)) (nat 1)))) (cons (ar (ra (cons (ga (szl (nat 24)) (cons (ki .i64 hole) nil)) nil))) (cons (ar (ra (cons (gc (cf (fi .i64 hole))) (cons (gc (cf (fi .i64 hole))) (cons (gc (cf (fi .i64 hole))) (cons (gc (cf (fi .i64 hole))) (cons (gc (cf (fi .i64 hole))) (cons (gc (cf (fi .i64 hole))) (cons (gc (cf (fi .i64 hole))) (cons (gc (cf (fi .i64 hole))) nil)))))))))) (cons (ar (rc (cf (fi .i64 hole)))) nil)))) (cons (cons (gc (cf (fb hole))) nil) nil)) : Rdr (List AV × List Blk) _)
end
def F_gnss_Velocity (f : (Nat → Int) → (Int) → (Int) → (Int) → (Int) → (Int) → (Int) → (Int) → (Int) → (Int) → (Bool) → Option (Bool × (Nat → Int) × Int × Int × Int × (Nat → Int) × Int × Int × Int × (Nat → Int) × Int × Int × Int)) : Sem1 := fun args h => match (QA_gnss_Velocity).rd (args, h) with
  | some b => .opt (f b.1.2.1.1.2.1 b.1.2.2.1.1 b.1.2.2.1.2.1 b.1.2.2.1.2.2.1 b.1.2.2.1.2.2.2.1 b.1.2.2.1.2.2.2.2.1 b.1.2.2.1.2.2.2.2.2.1 b.1.2.2.1.2.2.2.2.2.2.1 b.1.2.2.1.2.2.2.2.2.2.2.1 b.1.2.2.2.1 b.2.1.1) fun (d : Bool × (Nat → Int) × Int × Int × Int × (Nat → Int) × Int × Int × Int × (Nat → Int) × Int × Int × Int) => .leaf (Res.mk (AV.r (RV.c (CV.sl 1 (Off.k 0) (Sz.l 3) 27 true))) [Ch.set [Sg.c (CV.f (FV.b d.1))]]
    [[Sg.a (Sz.l 24) [Col.i IntKind.i64 d.2.1], Sg.c (CV.f (FV.i IntKind.i64 d.2.2.1)), Sg.c (CV.f (FV.i IntKind.i64 d.2.2.2.1)),
        Sg.c (CV.f (FV.i IntKind.i64 d.2.2.2.2.1)), Sg.a (Sz.l 24) [Col.i IntKind.i64 d.2.2.2.2.2.1], Sg.c (CV.f (FV.i IntKind.i64 d.2.2.2.2.2.2.1)),
        Sg.c (CV.f (FV.i IntKind.i64 d.2.2.2.2.2.2.2.1)), Sg.c (CV.f (FV.i IntKind.i64 d.2.2.2.2.2.2.2.2.1)),
        Sg.a (Sz.l 24) [Col.i IntKind.i64 d.2.2.2.2.2.2.2.2.2.1], Sg.c (CV.f (FV.i IntKind.i64 d.2.2.2.2.2.2.2.2.2.2.1)),
        Sg.c (CV.f (FV.i IntKind.i64 d.2.2.2.2.2.2.2.2.2.2.2.1)), Sg.c (CV.f (FV.i IntKind.i64 d.2.2.2.2.2.2.2.2.2.2.2.2))]])
  | none => .fail
theorem d_gnss_Velocity (g_gnss_straight : (Nat → Int) → Int → Int → Int → Int → Bool → Option ((Nat → Int) × Int × Int × Int × Bool)) (x0 : Nat → Int) (x1 : Int) (x2 : Int) (x3 : Int) (x4 : Int) (x5 : Int) (x6 : Int) (x7 : Int) (x8 : Int) (x9 : Int) (x10 : Bool) : den Try.prog (envOf [(35, F_gnss_straight g_gnss_straight)]) ⟨[⟨3,
  [1, 2, 4, 7, 8, 10, 11, 12, 15, 16, 17, 18, 19, 20, 21, 22, 23, 24, 25, 26, 27, 28, 29, 30, 31], []⟩], [], [], [], (some ⟨0, [0, 1, 2, 3, 4, 5, 6, 7, 9, 10, 11, 12, 13, 14, 15, 16, 17, 18, 19, 20, 21, 22, 23, 24, 25, 26, 27, 28, 29, 30, 31], []⟩)⟩ 200 18 [.r (.c (.ptr 0 (.k 0) 1)), .r (.agg [.a (.l 24) [.i .i64 x0]]),
  .r (.agg [.c (.f (.i .i64 x1)), .c (.f (.i .i64 x2)), .c (.f (.i .i64 x3)), .c (.f (.i .i64 x4)), .c (.f (.i .i64 x5)), .c (.f (.i .i64 x6)), .c (.f (.i .i64 x7)), .c (.f (.i .i64 x8))]), .r (.c (.f (.i .i64 x9)))] [[.c (.f (.b x10))]] = K_gnss_Velocity g_gnss_straight x0 x1 x2 x3 x4 x5 x6 x7 x8 x9 x10 (fun (d : Bool ×
  (Nat → Int) × Int × Int × Int × (Nat → Int) × Int × Int × Int × (Nat → Int) × Int × Int × Int) => some (Res.mk (AV.r (RV.c (CV.sl 1 (Off.k 0) (Sz.l 3) 27 true))) [Ch.set [Sg.c (CV.f (FV.b d.1))]] [[Sg.a (Sz.l 24) [Col.i IntKind.i64 d.2.1], Sg.c (CV.f (FV.i IntKind.i64 d.2.2.1)), Sg.c (CV.f (FV.i IntKind.i64 d.2.2.2.1)),
  Sg.c (CV.f (FV.i IntKind.i64 d.2.2.2.2.1)), Sg.a (Sz.l 24) [Col.i IntKind.i64 d.2.2.2.2.2.1], Sg.c (CV.f (FV.i IntKind.i64 d.2.2.2.2.2.2.1)), Sg.c (CV.f (FV.i IntKind.i64 d.2.2.2.2.2.2.2.1)), Sg.c (CV.f (FV.i IntKind.i64 d.2.2.2.2.2.2.2.2.1)),
  Sg.a (Sz.l 24) [Col.i IntKind.i64 d.2.2.2.2.2.2.2.2.2.1], Sg.c (CV.f (FV.i IntKind.i64 d.2.2.2.2.2.2.2.2.2.2.1)), Sg.c (CV.f (FV.i IntKind.i64 d.2.2.2.2.2.2.2.2.2.2.2.1)), Sg.c (CV.f (FV.i IntKind.i64 d.2.2.2.2.2.2.2.2.2.2.2.2))]])) := by kernel_rfl
theorem m_gnss_Velocity {ρ σ : Type} (q : ρ → Option σ) (g_gnss_straight : (Nat → Int) → Int → Int → Int → Int → Bool → Option ((Nat → Int) × Int × Int × Int × Bool))   (x0 : Nat → Int) (x1 : Int) (x2 : Int) (x3 : Int) (x4 : Int) (x5 : Int) (x6 : Int) (x7 : Int) (x8 : Int) (x9 : Int) (x10 : Bool) (k : (Bool × (Nat → Int) × Int × Int × Int × (Nat → Int) × Int × Int × Int × (Nat → Int) × Int × Int × Int) → Option ρ) : (K_gnss_Velocity g_gnss_straight  x0 x1 x2 x3 x4 x5 x6 x7 x8 x9 x10 k).bind q = K_gnss_Velocity g_gnss_straight  x0 x1 x2 x3 x4 x5 x6 x7 x8 x9 x10 (fun d => (k d).bind q) := by
  simp only [K_gnss_Velocity, bnd_cond, bnd_bind, bnd_none, bnd_sum]
theorem qa_gnss_Velocity : ∀ b, (QA_gnss_Velocity).em b = ([.r (.c (.ptr 0 (.k 0) 1)), .r (.agg [.a (.l 24) [.i .i64 b.1.2.1.1.2.1]]), .r (.agg [.c (.f (.i .i64 b.1.2.2.1.1)), .c (.f (.i .i64 b.1.2.2.1.2.1)), .c (.f (.i .i64 b.1.2.2.1.2.2.1)), .c (.f (.i .i64 b.1.2.2.1.2.2.2.1)), .c (.f (.i .i64 b.1.2.2.1.2.2.2.2.1)), .c (.f (.i .i64 b.1.2.2.1.2.2.2.2.2.1)), .c (.f (.i .i64 b.1.2.2.1.2.2.2.2.2.2.1)), .c (.f (.i .i64 b.1.2.2.1.2.2.2.2.2.2.2.1))]), .r (.c (.f (.i .i64 b.1.2.2.2.1)))], [[.c (.f (.b b.2.1.1))]]) := fun b => by kernel_rfl
theorem e_gnss_Velocity {f : (Nat → Int) → (Int) → (Int) → (Int) → (Int) → (Int) → (Int) → (Int) → (Int) → (Int) → (Bool) → Option (Bool × (Nat → Int) × Int × Int × Int × (Nat → Int) × Int × Int × Int × (Nat → Int) × Int × Int × Int)} {args : List AV} {h : List Blk} {r : Res} (hr : (F_gnss_Velocity f args h).eval = some r) : ∃ x0 x1 x2 x3 x4 x5 x6 x7 x8 x9 x10,
  args = [.r (.c (.ptr 0 (.k 0) 1)), .r (.agg [.a (.l 24) [.i .i64 x0]]), .r (.agg [.c (.f (.i .i64 x1)), .c (.f (.i .i64 x2)), .c (.f (.i .i64 x3)), .c (.f (.i .i64 x4)), .c (.f (.i .i64 x5)), .c (.f (.i .i64 x6)), .c (.f (.i .i64 x7)), .c (.f (.i .i64 x8))]), .r (.c (.f (.i .i64 x9)))] ∧ h = [[.c (.f (.b x10))]] ∧ (f x0 x1 x2 x3 x4 x5 x6 x7 x8 x9 x10).bind (fun (d : Bool ×
  (Nat → Int) × Int × Int × Int × (Nat → Int) × Int × Int × Int × (Nat → Int) × Int × Int × Int) => some (Res.mk (AV.r (RV.c (CV.sl 1 (Off.k 0) (Sz.l 3) 27 true))) [Ch.set [Sg.c (CV.f (FV.b d.1))]] [[Sg.a (Sz.l 24) [Col.i IntKind.i64 d.2.1], Sg.c (CV.f (FV.i IntKind.i64 d.2.2.1)), Sg.c (CV.f (FV.i IntKind.i64 d.2.2.2.1)),
  Sg.c (CV.f (FV.i IntKind.i64 d.2.2.2.2.1)), Sg.a (Sz.l 24) [Col.i IntKind.i64 d.2.2.2.2.2.1], Sg.c (CV.f (FV.i IntKind.i64 d.2.2.2.2.2.2.1)), Sg.c (CV.f (FV.i IntKind.i64 d.2.2.2.2.2.2.2.1)), Sg.c (CV.f (FV.i IntKind.i64 d.2.2.2.2.2.2.2.2.1)),
  Sg.a (Sz.l 24) [Col.i IntKind.i64 d.2.2.2.2.2.2.2.2.2.1], Sg.c (CV.f (FV.i IntKind.i64 d.2.2.2.2.2.2.2.2.2.2.1)), Sg.c (CV.f (FV.i IntKind.i64 d.2.2.2.2.2.2.2.2.2.2.2.1)), Sg.c (CV.f (FV.i IntKind.i64 d.2.2.2.2.2.2.2.2.2.2.2.2))]])) = some r := by
  unfold F_gnss_Velocity at hr
  split at hr
  · rename_i b hb
    have e := ((QA_gnss_Velocity).ok _ _ hb).trans (qa_gnss_Velocity b)
    rw [opt_eval2] at hr
    exact ⟨b.1.2.1.1.2.1, b.1.2.2.1.1, b.1.2.2.1.2.1, b.1.2.2.1.2.2.1, b.1.2.2.1.2.2.2.1, b.1.2.2.1.2.2.2.2.1, b.1.2.2.1.2.2.2.2.2.1, b.1.2.2.1.2.2.2.2.2.2.1, b.1.2.2.1.2.2.2.2.2.2.2.1, b.1.2.2.2.1, b.2.1.1, (Prod.mk.inj e).1, (Prod.mk.inj e).2, hr⟩
  · cases hr
theorem n_gnss_Velocity {σ : Type} (q : (Bool × (Nat → Int) × Int × Int × Int × (Nat → Int) × Int × Int × Int × (Nat → Int) × Int × Int × Int) → Option σ) (x0 : Nat → Int) (x1 : Int) (x2 : Int) (x3 : Int) (x4 : Int) (x5 : Int) (x6 : Int) (x7 : Int) (x8 : Int) (x9 : Int) (x10 : Bool) : (f_gnss_Velocity x0 x1 x2 x3 x4 x5 x6 x7 x8 x9 x10).bind q = K_gnss_Velocity f_gnss_straight  x0 x1 x2 x3 x4 x5 x6 x7 x8 x9 x10 q := by
  unfold f_gnss_Velocity
  exact m_gnss_Velocity q f_gnss_straight   x0 x1 x2 x3 x4 x5 x6 x7 x8 x9 x10 some
theorem s_gnss_Velocity [Amb] : Sound Try.prog 18 (F_gnss_Velocity f_gnss_Velocity) := (inl_sums (l := [(35, F_gnss_straight f_gnss_straight)]) (.cons s_gnss_straight (.nil _)) mixed (hs := ⟨[⟨3, [1, 2, 4, 7, 8, 10, 11, 12, 15, 16, 17, 18, 19, 20, 21, 22, 23, 24, 25, 26, 27, 28, 29, 30, 31],
  []⟩], [], [], [], (some ⟨0, [0, 1, 2, 3, 4, 5, 6, 7, 9, 10, 11, 12, 13, 14, 15, 16, 17, 18, 19, 20, 21, 22, 23, 24, 25, 26, 27, 28, 29, 30, 31], []⟩)⟩) (lf := 200) (Sums.by (l := [loopIn Try.prog 18 3]) (lj := []) (by kernel_rfl) ⟨SumOK.no (by kernel_rfl), trivial⟩ (by kernel_rfl) trivial) (by kernel_rfl)).by (F := F_gnss_Velocity f_gnss_Velocity) fun args b r hr => by
  obtain ⟨x0, x1, x2, x3, x4, x5, x6, x7, x8, x9, x10, rfl, rfl, hr1⟩ := e_gnss_Velocity hr
  exact inl_eval ((d_gnss_Velocity f_gnss_straight  x0 x1 x2 x3 x4 x5 x6 x7 x8 x9 x10).trans ((n_gnss_Velocity (fun (d : Bool × (Nat → Int) × Int × Int × Int × (Nat → Int) × Int × Int × Int × (Nat → Int) × Int × Int × Int) => some (Res.mk (AV.r (RV.c (CV.sl 1 (Off.k 0) (Sz.l 3) 27 true))) [Ch.set [Sg.c (CV.f (FV.b d.1))]]
    [[Sg.a (Sz.l 24) [Col.i IntKind.i64 d.2.1], Sg.c (CV.f (FV.i IntKind.i64 d.2.2.1)), Sg.c (CV.f (FV.i IntKind.i64 d.2.2.2.1)),
        Sg.c (CV.f (FV.i IntKind.i64 d.2.2.2.2.1)), Sg.a (Sz.l 24) [Col.i IntKind.i64 d.2.2.2.2.2.1], Sg.c (CV.f (FV.i IntKind.i64 d.2.2.2.2.2.2.1)),
        Sg.c (CV.f (FV.i IntKind.i64 d.2.2.2.2.2.2.2.1)), Sg.c (CV.f (FV.i IntKind.i64 d.2.2.2.2.2.2.2.2.1)),
        Sg.a (Sz.l 24) [Col.i IntKind.i64 d.2.2.2.2.2.2.2.2.2.1], Sg.c (CV.f (FV.i IntKind.i64 d.2.2.2.2.2.2.2.2.2.2.1)),
        Sg.c (CV.f (FV.i IntKind.i64 d.2.2.2.2.2.2.2.2.2.2.2.1)), Sg.c (CV.f (FV.i IntKind.i64 d.2.2.2.2.2.2.2.2.2.2.2.2))]])) x0 x1 x2 x3 x4 x5 x6 x7 x8 x9 x10).symm.trans hr1))

def K___earth_Frame__To {ρ : Type} (g_earth_Good : Int → Int → Int → Option Bool) (g___fx_Acc__Mul : Int → Int → Int → Bool → Option (Int × Bool)) (g___fx_Acc__MulDiv : Int → Int → Int → Bool → Option (Int × Bool)) (x0 : Int) (x1 : Int) (x2 : Int) (x3 : Int) (x4 : Int) (x5 : Int) (x6 : Int) (x7 : Int) (x8 : Bool) (k : (Int ×
  Int × Int × Int × Bool) → Option ρ) : Option ρ := Option.bind (g_earth_Good x0 x1 x2) fun (d : Bool) => bif !d then k (0, 0, 0, 1, x8) else bif decide (IntKind.wrap IntKind.i64 (x1 - x4) > 1800000000) then Option.bind (g___fx_Acc__Mul (IntKind.wrap IntKind.i64 (x0 - x3)) x6 10 x8) fun (d : Int × Bool) => Option.bind (g___fx_Acc__Mul (IntKind.wrap IntKind.i64 (IntKind.wrap IntKind.i64 (x1 - x4) - 3600000000)) x7 10 d.2) fun (d_1 : Int ×
  Bool) => Option.bind (g___fx_Acc__MulDiv (IntKind.wrap IntKind.i64 (x5 - x2)) 1073741824 1000 d_1.2) fun (d_2 : Int × Bool) => k (d.1, d_1.1, d_2.1, 0, d_2.2) else bif decide (IntKind.wrap IntKind.i64 (x1 - x4) ≤ -1800000000) then Option.bind (g___fx_Acc__Mul (IntKind.wrap IntKind.i64 (x0 - x3)) x6 10 x8) fun (d : Int ×
  Bool) => Option.bind (g___fx_Acc__Mul (IntKind.wrap IntKind.i64 (IntKind.wrap IntKind.i64 (x1 - x4) + 3600000000)) x7 10 d.2) fun (d_1 : Int × Bool) => Option.bind (g___fx_Acc__MulDiv (IntKind.wrap IntKind.i64 (x5 - x2)) 1073741824 1000 d_1.2) fun (d_2 : Int × Bool) => k (d.1, d_1.1, d_2.1,
  0, d_2.2) else Option.bind (g___fx_Acc__Mul (IntKind.wrap IntKind.i64 (x0 - x3)) x6 10 x8) fun (d : Int × Bool) => Option.bind (g___fx_Acc__Mul (IntKind.wrap IntKind.i64 (x1 - x4)) x7 10 d.2) fun (d_1 : Int × Bool) => Option.bind (g___fx_Acc__MulDiv (IntKind.wrap IntKind.i64 (x5 - x2)) 1073741824 1000 d_1.2) fun (d_2 : Int ×
  Bool) => k (d.1, d_1.1, d_2.1, 0, d_2.2)
def f___earth_Frame__To (x0 : Int) (x1 : Int) (x2 : Int) (x3 : Int) (x4 : Int) (x5 : Int) (x6 : Int) (x7 : Int) (x8 : Bool) : Option (Int × Int × Int × Int × Bool) := K___earth_Frame__To f_earth_Good f___fx_Acc__Mul f___fx_Acc__MulDiv  x0 x1 x2 x3 x4 x5 x6 x7 x8 some
section
open Go.Ab.Rdr
def QA___earth_Frame__To := ((pair (cons (ar (rc (cptr (nat 0) (ok' (nat 0)) (nat 5)))) (cons (ar (rc (cptr (nat 1) (ok' (nat 0)) (nat 1)))) (cons (ar (ra (cons (gc (cf (fi .i64 hole))) (cons (gc (cf (fi .i64 hole))) (cons (gc (cf (fi .i64 hole))) nil))))) nil))) (cons (cons (gc (cf (fi .i64 hole))) (cons (gc (cf (fi .i64 hole))) (cons (gc (cf (fi .i64 hole))) (cons (gc (cf (fi .i64 hole))) (cons (gc (cf (fi .i64 hole))) nil))))) (cons (cons (gc (cf (fb hole))) nil) nil))) : Rdr (List AV × List Blk) _)
end
def F___earth_Frame__To (f : (Int) → (Int) → (Int) → (Int) → (Int) → (Int) → (Int) → (Int) → (Bool) → Option (Int × Int × Int × Int × Bool)) : Sem1 := fun args h => match (QA___earth_Frame__To).rd (args, h) with
  | some b => .opt (f b.1.2.2.1.1 b.1.2.2.1.2.1 b.1.2.2.1.2.2.1 b.2.1.1 b.2.1.2.1 b.2.1.2.2.1 b.2.1.2.2.2.1 b.2.1.2.2.2.2.1 b.2.2.1.1) fun (d : Int × Int × Int × Int × Bool) => .leaf (Res.mk
    (AV.tup [RV.agg [Sg.c (CV.f (FV.i IntKind.i64 d.1)), Sg.c (CV.f (FV.i IntKind.i64 d.2.1)), Sg.c (CV.f (FV.i IntKind.i64 d.2.2.1))], RV.c (CV.f (FV.i IntKind.i64 d.2.2.2.1))])
    [Ch.keep, Ch.set [Sg.c (CV.f (FV.b d.2.2.2.2))]] [])
  | none => .fail
theorem d___earth_Frame__To (g_earth_Good : Int → Int → Int → Option Bool) (g___fx_Acc__Mul : Int → Int → Int → Bool → Option (Int × Bool)) (g___fx_Acc__MulDiv : Int → Int → Int → Bool → Option (Int × Bool)) (x0 : Int) (x1 : Int) (x2 : Int) (x3 : Int) (x4 : Int) (x5 : Int) (x6 : Int) (x7 : Int) (x8 : Bool) : den Try.prog (envOf [(20,
  F_earth_Good g_earth_Good), (30, F___fx_Acc__Mul g___fx_Acc__Mul), (28, F___fx_Acc__MulDiv g___fx_Acc__MulDiv)]) ⟨[], [], [1], [], none⟩ 200 24 [.r (.c (.ptr 0 (.k 0) 5)), .r (.c (.ptr 1 (.k 0) 1)), .r (.agg [.c (.f (.i .i64 x0)), .c (.f (.i .i64 x1)), .c (.f (.i .i64 x2))])] [[.c (.f (.i .i64 x3)),
  .c (.f (.i .i64 x4)), .c (.f (.i .i64 x5)), .c (.f (.i .i64 x6)), .c (.f (.i .i64 x7))], [.c (.f (.b x8))]] = K___earth_Frame__To g_earth_Good g___fx_Acc__Mul g___fx_Acc__MulDiv x0 x1 x2 x3 x4 x5 x6 x7 x8 (fun (d : Int × Int × Int × Int × Bool) => some (Res.mk (AV.tup [RV.agg [Sg.c (CV.f (FV.i IntKind.i64 d.1)),
  Sg.c (CV.f (FV.i IntKind.i64 d.2.1)), Sg.c (CV.f (FV.i IntKind.i64 d.2.2.1))], RV.c (CV.f (FV.i IntKind.i64 d.2.2.2.1))]) [Ch.keep, Ch.set [Sg.c (CV.f (FV.b d.2.2.2.2))]] [])) := by kernel_rfl
theorem m___earth_Frame__To {ρ σ : Type} (q : ρ → Option σ) (g_earth_Good : Int → Int → Int → Option Bool) (g___fx_Acc__Mul : Int → Int → Int → Bool → Option (Int × Bool)) (g___fx_Acc__MulDiv : Int → Int → Int → Bool → Option (Int × Bool))   (x0 : Int) (x1 : Int) (x2 : Int) (x3 : Int) (x4 : Int) (x5 : Int) (x6 : Int) (x7 : Int) (x8 : Bool) (k : (Int × Int × Int × Int × Bool) → Option ρ) : (K___earth_Frame__To g_earth_Good g___fx_Acc__Mul g___fx_Acc__MulDiv  x0 x1 x2 x3 x4 x5 x6 x7 x8 k).bind q = K___earth_Frame__To g_earth_Good g___fx_Acc__Mul g___fx_Acc__MulDiv  x0 x1 x2 x3 x4 x5 x6 x7 x8 (fun d => (k d).bind q) := by
  simp only [K___earth_Frame__To, bnd_cond, bnd_bind, bnd_none, bnd_sum]
theorem qa___earth_Frame__To : ∀ b, (QA___earth_Frame__To).em b = ([.r (.c (.ptr 0 (.k 0) 5)), .r (.c (.ptr 1 (.k 0) 1)), .r (.agg [.c (.f (.i .i64 b.1.2.2.1.1)), .c (.f (.i .i64 b.1.2.2.1.2.1)), .c (.f (.i .i64 b.1.2.2.1.2.2.1))])], [[.c (.f (.i .i64 b.2.1.1)), .c (.f (.i .i64 b.2.1.2.1)), .c (.f (.i .i64 b.2.1.2.2.1)), .c (.f (.i .i64 b.2.1.2.2.2.1)), .c (.f (.i .i64 b.2.1.2.2.2.2.1))], [.c (.f (.b b.2.2.1.1))]]) := fun b => by kernel_rfl
theorem e___earth_Frame__To {f : (Int) → (Int) → (Int) → (Int) → (Int) → (Int) → (Int) → (Int) → (Bool) → Option (Int × Int × Int × Int × Bool)} {args : List AV} {h : List Blk} {r : Res} (hr : (F___earth_Frame__To f args h).eval = some r) : ∃ x0 x1 x2 x3 x4 x5 x6 x7 x8, args = [.r (.c (.ptr 0 (.k 0) 5)),
  .r (.c (.ptr 1 (.k 0) 1)), .r (.agg [.c (.f (.i .i64 x0)), .c (.f (.i .i64 x1)), .c (.f (.i .i64 x2))])] ∧ h = [[.c (.f (.i .i64 x3)), .c (.f (.i .i64 x4)), .c (.f (.i .i64 x5)), .c (.f (.i .i64 x6)), .c (.f (.i .i64 x7))], [.c (.f (.b x8))]] ∧ (f x0 x1 x2 x3 x4 x5 x6 x7 x8).bind (fun (d : Int × Int ×
  Int × Int × Bool) => some (Res.mk (AV.tup [RV.agg [Sg.c (CV.f (FV.i IntKind.i64 d.1)), Sg.c (CV.f (FV.i IntKind.i64 d.2.1)), Sg.c (CV.f (FV.i IntKind.i64 d.2.2.1))], RV.c (CV.f (FV.i IntKind.i64 d.2.2.2.1))]) [Ch.keep, Ch.set [Sg.c (CV.f (FV.b d.2.2.2.2))]] [])) = some r := by
  unfold F___earth_Frame__To at hr
  split at hr
  · rename_i b hb
    have e := ((QA___earth_Frame__To).ok _ _ hb).trans (qa___earth_Frame__To b)
    rw [opt_eval2] at hr
    exact ⟨b.1.2.2.1.1, b.1.2.2.1.2.1, b.1.2.2.1.2.2.1, b.2.1.1, b.2.1.2.1, b.2.1.2.2.1, b.2.1.2.2.2.1, b.2.1.2.2.2.2.1, b.2.2.1.1, (Prod.mk.inj e).1, (Prod.mk.inj e).2, hr⟩
  · cases hr
theorem n___earth_Frame__To {σ : Type} (q : (Int × Int × Int × Int × Bool) → Option σ) (x0 : Int) (x1 : Int) (x2 : Int) (x3 : Int) (x4 : Int) (x5 : Int) (x6 : Int) (x7 : Int) (x8 : Bool) : (f___earth_Frame__To x0 x1 x2 x3 x4 x5 x6 x7 x8).bind q = K___earth_Frame__To f_earth_Good f___fx_Acc__Mul f___fx_Acc__MulDiv  x0 x1 x2 x3 x4 x5 x6 x7 x8 q := by
  unfold f___earth_Frame__To
  exact m___earth_Frame__To q f_earth_Good f___fx_Acc__Mul f___fx_Acc__MulDiv   x0 x1 x2 x3 x4 x5 x6 x7 x8 some
theorem s___earth_Frame__To [Amb] : Sound Try.prog 24 (F___earth_Frame__To f___earth_Frame__To) := (inl_sound (l := [(20, F_earth_Good f_earth_Good), (30, F___fx_Acc__Mul f___fx_Acc__Mul), (28, F___fx_Acc__MulDiv f___fx_Acc__MulDiv)]) (.cons s_earth_Good (.cons s___fx_Acc__Mul (.cons s___fx_Acc__MulDiv (.nil _)))) mixed [] [1] 200 (by kernel_rfl)).by (F := F___earth_Frame__To f___earth_Frame__To) fun args b r hr => by
  obtain ⟨x0, x1, x2, x3, x4, x5, x6, x7, x8, rfl, rfl, hr1⟩ := e___earth_Frame__To hr
  exact inl_eval ((d___earth_Frame__To f_earth_Good f___fx_Acc__Mul f___fx_Acc__MulDiv  x0 x1 x2 x3 x4 x5 x6 x7 x8).trans ((n___earth_Frame__To (fun (d : Int × Int × Int × Int × Bool) => some (Res.mk
    (AV.tup [RV.agg [Sg.c (CV.f (FV.i IntKind.i64 d.1)), Sg.c (CV.f (FV.i IntKind.i64 d.2.1)), Sg.c (CV.f (FV.i IntKind.i64 d.2.2.1))], RV.c (CV.f (FV.i IntKind.i64 d.2.2.2.1))])
    [Ch.keep, Ch.set [Sg.c (CV.f (FV.b d.2.2.2.2))]] [])) x0 x1 x2 x3 x4 x5 x6 x7 x8).symm.trans hr1))

end Go.Proofs.Ytdpenjncfmkbgaa
