/-
  Contracts by plain functions: gnss.Read, (wide.big).shl, (wide.big).shr, wide.Round, (*fx.Acc).round, (*fx.Acc).Mul, earth.New$1, trig.Wrap, fx.Abs, trig.m, wide.Of, wide.add, wide.Add, (*fx.Acc).Add, trig.series, trig.Sin, trig.Cos, wide.Shift, (wide.big).less, (wide.big).minus, wide.Root, root.end, root.Sqrt, (*fx.Acc).Div, earth.New, bierman.Pick, (*fx.Acc).Sub, gnss.straight, gnss.Velocity, (*earth.Frame).To Contracts by plain functions: gnss.Horizontal, gnss.Height, astrolabelaw19.awake, astrolabelaw19.GnssKnown
-/
import Derived.Test.YtdpenjncfmkbgaaZA
set_option linter.unusedVariables false
set_option linter.unusedSimpArgs false
set_option maxRecDepth 100000
set_option maxHeartbeats 4000000
set_option linter.unusedVariables false
namespace Go.Proofs.Ytdpenjncfmkbgaa
open Go.Ab
abbrev u0GN2 : List Nat := [1, 2, 5, 7, 8, 9, 10, 11, 12, 13, 14, 15, 16, 17, 18, 19, 20, 21, 22, 24, 25, 26, 27, 28, 29, 30, 31, 32, 33, 34, 35, 36, 37]
abbrev u1GN2 : List Nat := [0, 1, 2, 3, 6, 7, 8, 9, 10, 11, 12, 13, 14, 15, 16, 17, 18, 19, 20, 21, 22, 23, 24, 25, 26, 27, 28, 29, 30, 31, 32, 33, 34, 35, 36, 37]
abbrev u2GN2 : List Nat := [0, 1, 3, 5, 6, 7, 8, 12, 13, 14, 15, 16, 17, 18, 19, 20, 21, 22, 23, 24, 25, 26]
abbrev u3GN2 : List Nat := [0, 1, 4, 5, 6, 7, 8, 9, 10, 11, 12, 13, 14, 15, 16, 17, 18, 19, 20, 21, 22, 23, 24, 25, 26]
abbrev u4GN2 : List Nat := [1, 2, 3, 4, 6, 7, 8, 9, 13, 14, 15, 16, 17, 18, 19, 20, 21, 22, 23, 24, 25, 26, 27, 28, 29, 30, 31, 32, 33, 34, 35, 36, 37, 38]
abbrev u5GN2 : List Nat := [0, 1, 2, 3, 5, 6, 7, 8, 9, 10, 11, 12, 13, 14, 15, 16, 17, 18, 19, 20, 21, 22, 23, 24, 25, 26, 27, 28, 29, 30, 31, 32, 33, 34, 35, 36, 37, 38]
abbrev u6GN2 : List Nat := [2, 3, 4, 5, 6, 8, 9, 10, 11, 12, 13, 17, 18, 19, 20, 21, 22, 23, 24, 25, 26, 27, 28, 29]
abbrev u7GN2 : List Nat := [0, 1, 2, 3, 4, 5, 7, 8, 9, 10, 11, 12, 13, 14, 15, 16, 17, 18, 19, 20, 21, 22, 23, 24, 25, 26, 27, 28, 29]
abbrev u8GN2 : List Nat := [0, 1, 2, 3, 7, 8, 9, 10, 11, 12, 13, 14, 15, 16, 17, 18, 19, 20, 21, 22, 23, 24, 25, 26, 27, 28, 29, 30, 31, 32, 33, 34, 35, 36, 37, 38, 39, 40, 41, 42, 43, 44, 45, 46, 47, 48, 49, 50]
abbrev u9GN2 : List Nat := [0, 1, 4, 5, 6, 7, 8, 9, 10, 11, 12, 13, 14, 15, 16, 17, 18, 19, 20, 21, 22, 23, 24, 25, 26, 27, 28, 29, 30, 31, 32, 33, 34, 35, 36, 37, 38, 39, 40, 41, 42, 43, 44, 45, 46, 47, 48, 49, 50]
abbrev u10GN2 : List Nat := [0, 1, 3, 4, 5, 6, 7, 8, 9, 10, 11, 12, 13, 14, 15, 16, 17, 18, 19, 20, 21]
abbrev u11GN2 : List Nat := [1, 2, 4, 7, 8, 10, 11, 12, 15, 16, 17, 18, 19, 20, 21, 22, 23, 24, 25, 26, 27, 28, 29, 30, 31]
abbrev u12GN2 : List Nat := [0, 1, 2, 3, 4, 5, 6, 7, 9, 10, 11, 12, 13, 14, 15, 16, 17, 18, 19, 20, 21, 22, 23, 24, 25, 26, 27, 28, 29, 30, 31]
abbrev t13GN2 := Int → Int → Int → Int → Int → Int → Int → Int → Int → Option Bool
abbrev t14GN2 := Int → Int → Int → Int → Int → Int → Int → Int → Int → Option (Int × Int × Int)
abbrev t15GN2 := Int → Option Int
abbrev t16GN2 := Int → Int → Int → Bool → Option (Int × Bool)
abbrev t17GN2 := Int → Int → Option (Int × Int × Bool)
abbrev t18GN2 := Int → Int → Int → Option (Int × Int)
abbrev t19GN2 := Int → Int → Int → Int → Option (Int × Int)
abbrev t20GN2 := Int → Int → Bool → Option (Int × Bool)
abbrev t21GN2 := Int → Int → Int → Option (Int × Bool)
abbrev t22GN2 := Int → Bool → Bool → Bool → Option (Int × Bool)
abbrev t23GN2 := Int → Bool → Option (Int × Bool)
abbrev t24GN2 := Int → Int → Option (Int × Int)
abbrev t25GN2 := Int → Int → Int → Int → Option (Int × Int × Bool)
abbrev t26GN2 := Int → Option (Int × Int)
abbrev t27GN2 := Nat → NI → NI → Bool → Option (Int × Int × Bool)
abbrev t28GN2 := Nat → Bool → NI → Bool → Option (Int × Bool)
abbrev t29GN2 := Int → Nat → Bool → NI → Bool → Option (Int × Bool)
abbrev t30GN2 := Int → Int → Bool → Option (Int × Int × Bool)
abbrev t31GN2 := Int → Int → Int → Int → Option Bool
abbrev t32GN2 := Int → Int → Option (Int × Bool)
abbrev t33GN2 := Int → Int → Int → Option Bool
abbrev t34GN2 := Nat → NI → Bool → Option NI
abbrev t35GN2 := NI → Int → Int → Int → Int → Bool → Option (NI × Int × Int × Int × Bool)
def S_AB_0 {ρ : Type} (g_AO : t13GN2) (g_AR : t14GN2) (g_AY : t15GN2) (g_S : t16GN2) (x0 : Int) (x1 : Bool) (x2 : Int) (x3 : Int) (x4 : Int) (x5 : Int) (x6 : Int) (x7 : Int) (x8 : Int) (x9 : Int) (x10 : Int) (x11 : Int) (x12 : Int) (x13 : Int) (x14 : Int) (x15 : Int) (x16 : Int) (x17 : Int) (x18 : Int) (c : (Int ×
 Bool × Int × Int × Int × Int × Int × Int × Int × Int × Int × Int × Int × Int × Int × Int × Int × Int × Int) → Option ρ) (x : (Int × Bool × Bool × Int × Int × Int × Int × Int × Int × Int × Int × Int × Int × Int × Int × Int × Int × Int × Int × Int) → Option ρ) : Option ρ := bif decide (x0 < 3) then bif inR (IntKind.wrap .i64 (3 + x0)) 8 then
 bif IntKind.wrap .i64 (3 + x0) == 7 then Option.bind (g_S x10 1073741824 1000 x1) fun (d : Int × Bool) => bif inR x0 3 then bif x0 == 2 then c (IntKind.wrap .i64 (x0 + 1), d.2, x2, x3, x4, x5, x6, x7, x8, x9, x10, x11, x12, x13, x14, x15, d.1, x17, x18) else bif x0 == 1 then c (IntKind.wrap .i64 (x0 + 1),
 d.2, x2, x3, x4, x5, x6, x7, x8, x9, x10, x11, x12, x13, x14, d.1, x16, x17, x18) else c (IntKind.wrap .i64 (x0 + 1), d.2, x2, x3, x4, x5, x6, x7, x8, x9, x10, x11, x12, x13, d.1, x15, x16, x17, x18) else none else bif IntKind.wrap .i64 (3 + x0) == 6 then Option.bind (g_S x9 1073741824 1000 x1) fun (d : Int ×
 Bool) => bif inR x0 3 then bif x0 == 2 then c (IntKind.wrap .i64 (x0 + 1), d.2, x2, x3, x4, x5, x6, x7, x8, x9, x10, x11, x12, x13, x14, x15, d.1, x17, x18) else bif x0 == 1 then c (IntKind.wrap .i64 (x0 + 1), d.2, x2, x3, x4, x5, x6, x7, x8, x9, x10, x11, x12, x13, x14, d.1, x16, x17,
 x18) else c (IntKind.wrap .i64 (x0 + 1), d.2, x2, x3, x4, x5, x6, x7, x8, x9, x10, x11, x12, x13, d.1, x15, x16, x17, x18) else none else bif IntKind.wrap .i64 (3 + x0) == 5 then Option.bind (g_S x8 1073741824 1000 x1) fun (d : Int × Bool) => bif inR x0 3 then bif x0 == 2 then c (IntKind.wrap .i64 (x0 + 1),
 d.2, x2, x3, x4, x5, x6, x7, x8, x9, x10, x11, x12, x13, x14, x15, d.1, x17, x18) else bif x0 == 1 then c (IntKind.wrap .i64 (x0 + 1), d.2, x2, x3, x4, x5, x6, x7, x8, x9, x10, x11, x12, x13, x14, d.1, x16, x17, x18) else c (IntKind.wrap .i64 (x0 + 1), d.2, x2, x3, x4, x5, x6, x7, x8, x9,
 x10, x11, x12, x13, d.1, x15, x16, x17, x18) else none else bif IntKind.wrap .i64 (3 + x0) == 4 then Option.bind (g_S x7 1073741824 1000 x1) fun (d : Int × Bool) => bif inR x0 3 then bif x0 == 2 then c (IntKind.wrap .i64 (x0 + 1), d.2, x2, x3, x4, x5, x6, x7, x8, x9, x10, x11, x12, x13,
 x14, x15, d.1, x17, x18) else bif x0 == 1 then c (IntKind.wrap .i64 (x0 + 1), d.2, x2, x3, x4, x5, x6, x7, x8, x9, x10, x11, x12, x13, x14, d.1, x16, x17, x18) else c (IntKind.wrap .i64 (x0 + 1), d.2, x2, x3, x4, x5, x6, x7, x8, x9, x10, x11, x12, x13, d.1, x15, x16, x17, x18) else none else
 bif IntKind.wrap .i64 (3 + x0) == 3 then Option.bind (g_S x6 1073741824 1000 x1) fun (d : Int × Bool) => bif inR x0 3 then bif x0 == 2 then c (IntKind.wrap .i64 (x0 + 1), d.2, x2, x3, x4, x5, x6, x7, x8, x9, x10, x11, x12, x13, x14, x15, d.1, x17, x18) else bif x0 == 1 then c (IntKind.wrap .i64 (x0 + 1),
 d.2, x2, x3, x4, x5, x6, x7, x8, x9, x10, x11, x12, x13, x14, d.1, x16, x17, x18) else c (IntKind.wrap .i64 (x0 + 1), d.2, x2, x3, x4, x5, x6, x7, x8, x9, x10, x11, x12, x13, d.1, x15, x16, x17, x18) else none else bif IntKind.wrap .i64 (3 + x0) == 2 then Option.bind (g_S x5 1073741824 1000 x1) fun (d : Int ×
 Bool) => bif inR x0 3 then bif x0 == 2 then c (IntKind.wrap .i64 (x0 + 1), d.2, x2, x3, x4, x5, x6, x7, x8, x9, x10, x11, x12, x13, x14, x15, d.1, x17, x18) else bif x0 == 1 then c (IntKind.wrap .i64 (x0 + 1), d.2, x2, x3, x4, x5, x6, x7, x8, x9, x10, x11, x12, x13, x14, d.1, x16, x17,
 x18) else c (IntKind.wrap .i64 (x0 + 1), d.2, x2, x3, x4, x5, x6, x7, x8, x9, x10, x11, x12, x13, d.1, x15, x16, x17, x18) else none else bif IntKind.wrap .i64 (3 + x0) == 1 then Option.bind (g_S x4 1073741824 1000 x1) fun (d : Int × Bool) => bif inR x0 3 then bif x0 == 2 then c (IntKind.wrap .i64 (x0 + 1),
 d.2, x2, x3, x4, x5, x6, x7, x8, x9, x10, x11, x12, x13, x14, x15, d.1, x17, x18) else bif x0 == 1 then c (IntKind.wrap .i64 (x0 + 1), d.2, x2, x3, x4, x5, x6, x7, x8, x9, x10, x11, x12, x13, x14, d.1, x16, x17, x18) else c (IntKind.wrap .i64 (x0 + 1), d.2, x2, x3, x4, x5, x6, x7, x8, x9,
 x10, x11, x12, x13, d.1, x15, x16, x17, x18) else none else Option.bind (g_S x3 1073741824 1000 x1) fun (d : Int × Bool) => bif inR x0 3 then bif x0 == 2 then c (IntKind.wrap .i64 (x0 + 1), d.2, x2, x3, x4, x5, x6, x7, x8, x9, x10, x11, x12, x13, x14, x15, d.1, x17, x18) else bif x0 == 1 then
 c (IntKind.wrap .i64 (x0 + 1), d.2, x2, x3, x4, x5, x6, x7, x8, x9, x10, x11, x12, x13, x14, d.1, x16, x17, x18) else c (IntKind.wrap .i64 (x0 + 1), d.2, x2, x3, x4, x5, x6, x7, x8, x9, x10, x11, x12, x13, d.1, x15, x16, x17, x18) else none else none else x (x0, decide (x0 < 3), x1, x2,
 x3, x4, x5, x6, x7, x8, x9, x10, x11, x12, x13, x14, x15, x16, x17, x18)
section
open Go.Ab.Rdr
def Q_AB_0 := (st (cons (ar (rc (cptr (nat 0) (ok' (nat 0)) (nat 1)))) (cons aund (cons aund (cons (ar (rc (cptr (nat 1) (ok' (nat 0)) (nat 9)))) (cons (ar (rc (cptr (nat 2) (ok' (nat 0)) (nat 8)))) (cons aund (cons (ar (rc (cptr (nat 3) (ok' (nat 0)) (nat 8)))) (cons aund (cons aund (cons aund (cons aund (cons aund (cons aund (cons aund (cons aund (cons aund (cons aund (cons aund (cons aund (cons aund (cons aund (cons aund (cons aund (cons (ar (rc (cf (fi .i64 hole)))) (cons aund (cons aund (cons aund (cons aund (cons aund (cons aund (cons aund (cons aund (cons aund (cons aund (cons aund (cons aund (cons aund (cons aund nil)))))))))))))))))))))))))))))))))))))) (cons (some' (cons (gc (cf (fb hole))) nil)) (cons (some' (cons (gc (cf (fi .i64 hole))) (cons (gc (cf (fi .i64 hole))) (cons (gc (cf (fi .i64 hole))) (cons (gc (cf (fi .i64 hole))) (cons (gc (cf (fi .i64 hole))) (cons (gc (cf (fi .i64 hole))) (cons (gc (cf (fi .i64 hole))) (cons (gc (cf (fi .i64 hole))) (cons (gc (cf (fi .i64 hole))) nil)))))))))) (cons (some' (cons (gc (cf (fi .i64 (int 0)))) (cons (gc (cf (fi .i64 (int 0)))) (cons (gc (cf (fi .i64 (int 0)))) (cons (gc (cf (fi .i64 (int 0)))) (cons (gc (cf (fi .i64 (int 0)))) (cons (gc (cf (fi .i64 (int 0)))) (cons (gc (cf (fi .i64 (int 0)))) (cons (gc (cf (fi .i64 (int 0)))) nil))))))))) (cons (some' (cons (gc (cf (fi .i64 hole))) (cons (gc (cf (fi .i64 hole))) (cons (gc (cf (fi .i64 hole))) (cons (gc (cf (fi .i64 hole))) (cons (gc (cf (fi .i64 hole))) (cons (gc (cf (fi .i64 hole))) (cons (gc (cf (fi .i64 hole))) (cons (gc (cf (fi .i64 hole))) nil))))))))) nil)))) (cons (nat 0) nil))
end
theorem q_AB_0 : ∀ b, (Q_AB_0).em b = St.mk [AV.r (RV.c (CV.ptr 0 (Off.k 0) 1)), un, un, AV.r (RV.c (CV.ptr 1 (Off.k 0) 9)), AV.r (RV.c (CV.ptr 2 (Off.k 0) 8)), un, AV.r (RV.c (CV.ptr 3 (Off.k 0) 8)), un, un, un, un, un, un, un, un, un, un, un,
 un, un, un, un, un, rI b.1.c16.c4.2.2.2.1, un, un, un, un, un, un, un, un, un, un, un, un, un, un] [some [sB b.2.1.1.1], some [sI b.2.1.2.1.1,
 sI b.2.1.2.1.2.1, sI b.2.1.2.1.2.2.1, sI b.2.1.2.1.2.2.2.1, sI b.2.1.2.1.c4.1, sI b.2.1.2.1.c4.2.1, sI b.2.1.2.1.c4.2.2.1,
 sI b.2.1.2.1.c4.2.2.2.1, sI b.2.1.2.1.c8.1], some [sI 0, sI 0, sI 0, sI 0, sI 0, sI 0,
 sI 0, sI 0], some [sI b.2.1.2.2.2.1.1, sI b.2.1.2.2.2.1.2.1, sI b.2.1.2.2.2.1.2.2.1, sI b.2.1.2.2.2.1.2.2.2.1, sI b.2.1.2.2.2.1.c4.1,
 sI b.2.1.2.2.2.1.c4.2.1, sI b.2.1.2.2.2.1.c4.2.2.1, sI b.2.1.2.2.2.1.c4.2.2.2.1]] [0] := fun b => by kernel_rfl
def R_AB_0 (l : ∀ {ρ : Type}, (Int × Bool × Int × Int × Int × Int × Int × Int × Int × Int × Int × Int × Int × Int × Int × Int × Int × Int × Int) → ((Int × Bool × Bool × Int × Int × Int × Int × Int × Int × Int × Int × Int × Int × Int × Int × Int × Int × Int × Int × Int) → Option ρ) → Option ρ) {ρ : Type} (s : St) (K : AX →
 St → Option ρ) : Option ρ := ((Q_AB_0).rd s).bind fun b => l (b.1.c16.c4.2.2.2.1, b.2.1.1.1, b.2.1.2.1.1, b.2.1.2.1.2.1, b.2.1.2.1.2.2.1, b.2.1.2.1.2.2.2.1, b.2.1.2.1.c4.1, b.2.1.2.1.c4.2.1, b.2.1.2.1.c4.2.2.1, b.2.1.2.1.c4.2.2.2.1, b.2.1.2.1.c8.1,
 b.2.1.2.2.2.1.1, b.2.1.2.2.2.1.2.1, b.2.1.2.2.2.1.2.2.1, b.2.1.2.2.2.1.2.2.2.1, b.2.1.2.2.2.1.c4.1, b.2.1.2.2.2.1.c4.2.1, b.2.1.2.2.2.1.c4.2.2.1, b.2.1.2.2.2.1.c4.2.2.2.1) (fun d => K (AX.ex 0) (St.mk [AV.r (RV.c (CV.ptr 0 (Off.k 0) 1)), un, un, AV.r (RV.c (CV.ptr 1 (Off.k 0) 9)),
 AV.r (RV.c (CV.ptr 2 (Off.k 0) 8)), un, AV.r (RV.c (CV.ptr 3 (Off.k 0) 8)), un, un, un, un, un, un, un, un, un, un, un, un, un, un, un, un, rI d.1, rB d.2.1, un, un, un,
 un, un, un, un, un, un, un, un, un, un] [some [sB d.2.2.1], some [sI d.2.2.2.1, sI d.c4.1, sI d.c4.2.1, sI d.c4.2.2.1,
 sI d.c4.2.2.2.1, sI d.c8.1, sI d.c8.2.1, sI d.c8.2.2.1, sI d.c8.2.2.2.1], some [sI 0,
 sI 0, sI 0, sI 0, sI 0, sI 0, sI 0, sI 0], some [sI d.c8.c4.1,
 sI d.c8.c4.2.1, sI d.c8.c4.2.2.1, sI d.c8.c4.2.2.2.1, sI d.c16.1, sI d.c16.2.1,
 sI d.c16.2.2.1, sI d.c16.2.2.2]] [0]))
theorem ms_AB_0 {ρ σ : Type} (g_AO : t13GN2) (g_AR : t14GN2) (g_AY : t15GN2) (g_S : t16GN2)   (q : ρ → Option σ) (x0 : Int) (x1 : Bool) (x2 : Int) (x3 : Int) (x4 : Int) (x5 : Int) (x6 : Int) (x7 : Int) (x8 : Int) (x9 : Int) (x10 : Int) (x11 : Int) (x12 : Int) (x13 : Int) (x14 : Int) (x15 : Int) (x16 : Int) (x17 : Int) (x18 : Int) (c : (Int × Bool × Int × Int × Int × Int × Int × Int × Int × Int × Int × Int × Int × Int × Int × Int × Int × Int × Int) → Option ρ) (x : (Int × Bool × Bool × Int × Int × Int × Int × Int × Int × Int × Int × Int × Int × Int × Int × Int × Int × Int × Int × Int) → Option ρ) : (S_AB_0 g_AO g_AR g_AY g_S  x0 x1 x2 x3 x4 x5 x6 x7 x8 x9 x10 x11 x12 x13 x14 x15 x16 x17 x18 c x).bind q = S_AB_0 g_AO g_AR g_AY g_S  x0 x1 x2 x3 x4 x5 x6 x7 x8 x9 x10 x11 x12 x13 x14 x15 x16 x17 x18 (fun d => (c d).bind q) (fun d => (x d).bind q) := by
  simp only [S_AB_0, bnd_cond, bnd_bind, bnd_none, bnd_sum]
def L_AB_0 {ρ : Type} (d : Int × Bool × Int × Int × Int × Int × Int × Int × Int × Int × Int × Int × Int × Int × Int × Int × Int × Int × Int) (k : (Int × Bool × Bool × Int × Int × Int × Int × Int × Int × Int × Int × Int × Int × Int × Int × Int × Int × Int × Int × Int) → Option ρ) : Option ρ := loopK (fun d c x => S_AB_0 f_AO f_AR f_AY f_S  d.1 d.2.1 d.2.2.1 d.2.2.2.1 d.c4.1 d.c4.2.1 d.c4.2.2.1 d.c4.2.2.2.1 d.c8.1 d.c8.2.1 d.c8.2.2.1 d.c8.2.2.2.1 d.c8.c4.1 d.c8.c4.2.1 d.c8.c4.2.2.1 d.c8.c4.2.2.2.1 d.c16.1 d.c16.2.1 d.c16.2.2 c x) 200 d k
theorem mL_AB_0 {ρ σ : Type} (q : ρ → Option σ) (d : Int × Bool × Int × Int × Int × Int × Int × Int × Int × Int × Int × Int × Int × Int × Int × Int × Int × Int × Int) (k : (Int × Bool × Bool × Int × Int × Int × Int × Int × Int × Int × Int × Int × Int × Int × Int × Int × Int × Int × Int × Int) → Option ρ) : (L_AB_0 d k).bind q = L_AB_0 d fun x => (k x).bind q := loopK_bind q (fun d c x => ms_AB_0 f_AO f_AR f_AY f_S q d.1 d.2.1 d.2.2.1 d.2.2.2.1 d.c4.1 d.c4.2.1 d.c4.2.2.1 d.c4.2.2.2.1 d.c8.1 d.c8.2.1 d.c8.2.2.1 d.c8.2.2.2.1 d.c8.c4.1 d.c8.c4.2.1 d.c8.c4.2.2.1 d.c8.c4.2.2.2.1 d.c16.1 d.c16.2.1 d.c16.2.2 c x) k _ d
theorem ds_AB_0 {ρ : Type} (g_AO : t13GN2) (g_AR : t14GN2) (g_AY : t15GN2) (g_S : t16GN2) (l_0 : ∀ {ρ : Type}, (Int × Bool ×
 Int × Int × Int × Int × Int × Int × Int × Int × Int × Int × Int × Int × Int × Int × Int × Int × Int) → ((Int × Bool × Bool × Int × Int × Int × Int × Int × Int × Int × Int × Int × Int × Int × Int × Int × Int × Int × Int × Int) → Option ρ) → Option ρ) (x0 : Int) (x1 : Bool) (x2 : Int) (x3 : Int) (x4 : Int) (x5 : Int) (x6 : Int) (x7 : Int) (x8 : Int) (x9 : Int) (x10 : Int) (x11 : Int) (x12 : Int) (x13 : Int) (x14 : Int) (x15 : Int) (x16 : Int) (x17 : Int) (x18 : Int) (c : St →
 Option ρ) (K : AX → St → Option ρ) : runC Try.prog (envOf [(13, F_AO g_AO), (26, F_AR g_AR), (27, F_AY g_AY), (28, F_S g_S)]) ⟨[⟨5, u0GN2, []⟩], [⟨5, 1, @R_AB_0 (@l_0)⟩], [0], [],
 (some ⟨0, u1GN2, []⟩)⟩ (tmpsOf Try.prog 9) 1 200 (loopIn Try.prog 9 5) (St.mk [AV.r (RV.c (CV.ptr 0 (Off.k 0) 1)), un, un, AV.r (RV.c (CV.ptr 1 (Off.k 0) 9)), AV.r (RV.c (CV.ptr 2 (Off.k 0) 8)),
 un, AV.r (RV.c (CV.ptr 3 (Off.k 0) 8)), un, un, un, un, un, un, un, un, un, un, un, un, un, un, un, un, rI x0, un, un, un, un, un, un, un, un, un, un, un,
 un, un, un] [some [sB x1], some [sI x2, sI x3, sI x4, sI x5, sI x6, sI x7, sI x8,
 sI x9, sI x10], some [sI 0, sI 0, sI 0, sI 0, sI 0, sI 0, sI 0,
 sI 0], some [sI x11, sI x12, sI x13, sI x14, sI x15, sI x16, sI x17, sI x18]] [0]) (next (fun t => t.head 1 ⟨[⟨5,
 u0GN2, []⟩], [⟨5, 1, @R_AB_0 (@l_0)⟩], [0], [], (some ⟨0, u1GN2, []⟩)⟩ (loopIn Try.prog 9 5)) c K) = S_AB_0 g_AO g_AR g_AY g_S x0 x1 x2 x3 x4 x5 x6 x7 x8 x9 x10 x11 x12 x13 x14 x15 x16 x17 x18 (fun d => c (St.mk [AV.r (RV.c (CV.ptr 0 (Off.k 0) 1)), un, un, AV.r (RV.c (CV.ptr 1 (Off.k 0) 9)), AV.r (RV.c (CV.ptr 2 (Off.k 0) 8)), un, AV.r (RV.c (CV.ptr 3 (Off.k 0) 8)),
 un, un, un, un, un, un, un, un, un, un, un, un, un, un, un, un, rI d.1, un, un, un, un, un, un, un, un, un, un, un, un, un, un] [some [sB d.2.1],
 some [sI d.2.2.1, sI d.2.2.2.1, sI d.c4.1, sI d.c4.2.1, sI d.c4.2.2.1, sI d.c4.2.2.2.1, sI d.c8.1,
 sI d.c8.2.1, sI d.c8.2.2.1], some [sI 0, sI 0, sI 0, sI 0, sI 0, sI 0,
 sI 0, sI 0], some [sI d.c8.2.2.2.1, sI d.c8.c4.1, sI d.c8.c4.2.1, sI d.c8.c4.2.2.1,
 sI d.c8.c4.2.2.2.1, sI d.c16.1, sI d.c16.2.1, sI d.c16.2.2]] [0])) (fun d => K (AX.ex 0) (St.mk [AV.r (RV.c (CV.ptr 0 (Off.k 0) 1)),
 un, un, AV.r (RV.c (CV.ptr 1 (Off.k 0) 9)), AV.r (RV.c (CV.ptr 2 (Off.k 0) 8)), un, AV.r (RV.c (CV.ptr 3 (Off.k 0) 8)), un, un, un, un, un, un, un, un, un, un, un, un, un, un, un, un, rI d.1,
 rB d.2.1, un, un, un, un, un, un, un, un, un, un, un, un, un] [some [sB d.2.2.1], some [sI d.2.2.2.1, sI d.c4.1, sI d.c4.2.1,
 sI d.c4.2.2.1, sI d.c4.2.2.2.1, sI d.c8.1, sI d.c8.2.1, sI d.c8.2.2.1, sI d.c8.2.2.2.1],
 some [sI 0, sI 0, sI 0, sI 0, sI 0, sI 0, sI 0, sI 0], some [sI d.c8.c4.1,
 sI d.c8.c4.2.1, sI d.c8.c4.2.2.1, sI d.c8.c4.2.2.2.1, sI d.c16.1, sI d.c16.2.1,
 sI d.c16.2.2.1, sI d.c16.2.2.2]] [0])) := by kernel_rfl
theorem it_AB_0 {ρ : Type} (x0 : Int) (x1 : Bool) (x2 : Int) (x3 : Int) (x4 : Int) (x5 : Int) (x6 : Int) (x7 : Int) (x8 : Int) (x9 : Int) (x10 : Int) (x11 : Int) (x12 : Int) (x13 : Int) (x14 : Int) (x15 : Int) (x16 : Int) (x17 : Int) (x18 : Int) (K : AX → St → Option ρ) : iter (fun t => t.head 1 ⟨[⟨5,
 u0GN2, []⟩], [⟨5, 1, @R_AB_0 (@L_AB_0)⟩], [0], [], (some ⟨0, u1GN2, []⟩)⟩ (loopIn Try.prog 9 5)) (runC Try.prog (envOf [(13, F_AO f_AO), (26, F_AR f_AR), (27, F_AY f_AY), (28, F_S f_S)]) ⟨[⟨5, u0GN2, []⟩], [⟨5, 1, @R_AB_0 (@L_AB_0)⟩],
 [0], [], (some ⟨0, u1GN2, []⟩)⟩ (tmpsOf Try.prog 9) 1 200 (loopIn Try.prog 9 5)) K 200 (St.mk [AV.r (RV.c (CV.ptr 0 (Off.k 0) 1)), un, un, AV.r (RV.c (CV.ptr 1 (Off.k 0) 9)),
 AV.r (RV.c (CV.ptr 2 (Off.k 0) 8)), un, AV.r (RV.c (CV.ptr 3 (Off.k 0) 8)), un, un, un, un, un, un, un, un, un, un, un, un, un, un, un, un, rI x0, un, un, un, un, un, un, un,
 un, un, un, un, un, un, un] [some [sB x1], some [sI x2, sI x3, sI x4, sI x5, sI x6, sI x7,
 sI x8, sI x9, sI x10], some [sI 0, sI 0, sI 0, sI 0, sI 0, sI 0,
 sI 0, sI 0], some [sI x11, sI x12, sI x13, sI x14, sI x15, sI x16, sI x17,
 sI x18]] [0]) = L_AB_0 (x0, x1, x2, x3, x4, x5, x6, x7, x8, x9, x10, x11, x12, x13, x14, x15, x16, x17, x18) (fun d => K (AX.ex 0) (St.mk [AV.r (RV.c (CV.ptr 0 (Off.k 0) 1)), un, un, AV.r (RV.c (CV.ptr 1 (Off.k 0) 9)), AV.r (RV.c (CV.ptr 2 (Off.k 0) 8)), un, AV.r (RV.c (CV.ptr 3 (Off.k 0) 8)),
 un, un, un, un, un, un, un, un, un, un, un, un, un, un, un, un, rI d.1, rB d.2.1, un, un, un, un, un, un, un, un, un, un, un, un, un] [some [sB d.2.2.1],
 some [sI d.2.2.2.1, sI d.c4.1, sI d.c4.2.1, sI d.c4.2.2.1, sI d.c4.2.2.2.1, sI d.c8.1, sI d.c8.2.1,
 sI d.c8.2.2.1, sI d.c8.2.2.2.1], some [sI 0, sI 0, sI 0, sI 0, sI 0, sI 0,
 sI 0, sI 0], some [sI d.c8.c4.1, sI d.c8.c4.2.1, sI d.c8.c4.2.2.1, sI d.c8.c4.2.2.2.1,
 sI d.c16.1, sI d.c16.2.1, sI d.c16.2.2.1, sI d.c16.2.2.2]] [0])) := iter_loopX (emb := fun (d : Int ×
 Bool × Int × Int × Int × Int × Int × Int × Int × Int × Int × Int × Int × Int × Int × Int × Int × Int × Int) => St.mk [AV.r (RV.c (CV.ptr 0 (Off.k 0) 1)), un, un, AV.r (RV.c (CV.ptr 1 (Off.k 0) 9)), AV.r (RV.c (CV.ptr 2 (Off.k 0) 8)), un, AV.r (RV.c (CV.ptr 3 (Off.k 0) 8)), un, un,
 un, un, un, un, un, un, un, un, un, un, un, un, un, un, rI d.1, un, un, un, un, un, un, un, un, un, un, un, un, un, un] [some [sB d.2.1],
 some [sI d.2.2.1, sI d.2.2.2.1, sI d.c4.1, sI d.c4.2.1, sI d.c4.2.2.1, sI d.c4.2.2.2.1, sI d.c8.1,
 sI d.c8.2.1, sI d.c8.2.2.1], some [sI 0, sI 0, sI 0, sI 0, sI 0, sI 0,
 sI 0, sI 0], some [sI d.c8.2.2.2.1, sI d.c8.c4.1, sI d.c8.c4.2.1, sI d.c8.c4.2.2.1,
 sI d.c8.c4.2.2.2.1, sI d.c16.1, sI d.c16.2.1, sI d.c16.2.2]] [0]) (step := fun d c x => S_AB_0 f_AO f_AR f_AY f_S d.1 d.2.1 d.2.2.1 d.2.2.2.1 d.c4.1 d.c4.2.1 d.c4.2.2.1 d.c4.2.2.2.1 d.c8.1 d.c8.2.1 d.c8.2.2.1 d.c8.2.2.2.1 d.c8.c4.1 d.c8.c4.2.1 d.c8.c4.2.2.1 d.c8.c4.2.2.2.1 d.c16.1 d.c16.2.1 d.c16.2.2 c x) (kx := (fun d => K (AX.ex 0) (St.mk [AV.r (RV.c (CV.ptr 0 (Off.k 0) 1)),
 un, un, AV.r (RV.c (CV.ptr 1 (Off.k 0) 9)), AV.r (RV.c (CV.ptr 2 (Off.k 0) 8)), un, AV.r (RV.c (CV.ptr 3 (Off.k 0) 8)), un, un, un, un, un, un, un, un, un, un, un, un, un, un, un, un, rI d.1,
 rB d.2.1, un, un, un, un, un, un, un, un, un, un, un, un, un] [some [sB d.2.2.1], some [sI d.2.2.2.1, sI d.c4.1, sI d.c4.2.1,
 sI d.c4.2.2.1, sI d.c4.2.2.2.1, sI d.c8.1, sI d.c8.2.1, sI d.c8.2.2.1, sI d.c8.2.2.2.1],
 some [sI 0, sI 0, sI 0, sI 0, sI 0, sI 0, sI 0, sI 0], some [sI d.c8.c4.1,
 sI d.c8.c4.2.1, sI d.c8.c4.2.2.1, sI d.c8.c4.2.2.2.1, sI d.c16.1, sI d.c16.2.1,
 sI d.c16.2.2.1, sI d.c16.2.2.2]] [0]))) (fun d c => ds_AB_0 f_AO f_AR f_AY f_S (@L_AB_0) d.1 d.2.1 d.2.2.1 d.2.2.2.1 d.c4.1 d.c4.2.1 d.c4.2.2.1 d.c4.2.2.2.1 d.c8.1 d.c8.2.1 d.c8.2.2.1 d.c8.2.2.2.1 d.c8.c4.1 d.c8.c4.2.1 d.c8.c4.2.2.1 d.c8.c4.2.2.2.1 d.c16.1 d.c16.2.1 d.c16.2.2 c K) 200 (x0,
 x1, x2, x3, x4, x5, x6, x7, x8, x9, x10, x11, x12, x13, x14, x15, x16, x17, x18)
theorem so_AB_0 [Amb] : ∀ kk, SumOK Try.prog (envOf [(13, F_AO f_AO), (26, F_AR f_AR), (27, F_AY f_AY), (28, F_S f_S)]) ⟨[⟨5, u0GN2, []⟩], [⟨5, 1, @R_AB_0 (@L_AB_0)⟩], [0], [], (some ⟨0,
 u1GN2, []⟩)⟩ (tmpsOf Try.prog 9) kk 200 (loopIn Try.prog 9 5) := SumOK.of (id := 5) (k0 := 1) (run := @R_AB_0 (@L_AB_0)) (by kernel_rfl) fun s K r hr => by
    unfold R_AB_0 at hr
    obtain ⟨b, hb, hr1⟩ := Option.bind_eq_some_iff.1 hr
    have e := ((Q_AB_0).ok s b hb).trans (q_AB_0 b)
    subst e
    exact ⟨200, (it_AB_0 b.1.c16.c4.2.2.2.1 b.2.1.1.1 b.2.1.2.1.1 b.2.1.2.1.2.1 b.2.1.2.1.2.2.1 b.2.1.2.1.2.2.2.1 b.2.1.2.1.c4.1 b.2.1.2.1.c4.2.1 b.2.1.2.1.c4.2.2.1 b.2.1.2.1.c4.2.2.2.1 b.2.1.2.1.c8.1 b.2.1.2.2.2.1.1 b.2.1.2.2.2.1.2.1 b.2.1.2.2.2.1.2.2.1 b.2.1.2.2.2.1.2.2.2.1 b.2.1.2.2.2.1.c4.1 b.2.1.2.2.2.1.c4.2.1 b.2.1.2.2.2.1.c4.2.2.1 b.2.1.2.2.2.1.c4.2.2.2.1 K).trans hr1⟩
def K_AB {ρ : Type} (g_AO : t13GN2) (g_AR : t14GN2) (g_AY : t15GN2) (g_S : t16GN2) (l_0 : ∀ {ρ : Type}, (Int × Bool × Int ×
 Int × Int × Int × Int × Int × Int × Int × Int × Int × Int × Int × Int × Int × Int × Int × Int) → ((Int × Bool × Bool × Int × Int × Int × Int × Int × Int × Int × Int × Int × Int × Int × Int × Int × Int × Int × Int × Int) → Option ρ) → Option ρ) (x0 : Int) (x1 : Int) (x2 : Int) (x3 : Int) (x4 : Int) (x5 : Int) (x6 : Int) (x7 : Int) (x8 : Int) (x9 : Bool) (k : (Int ×
 Int × Int × Int × Int × Int × Int × Int × Int × Bool) → Option ρ) : Option ρ := Option.bind (g_AO x0 x1 x2 x3 x4 x5 x6 x7 x8) fun (d : Bool) => bif !d then k (0, 0, 0, 0, 0, 0, 0, 0, 1, x9) else Option.bind (g_AR x0 x1 x2 x3 x4 x5 x6 x7 x8) fun (d : Int × Int × Int) => Option.bind (g_AY x7) fun (d_1 : Int) => Option.bind (g_AY x8) fun (d_2 : Int) => l_0 (0,
 x9, x0, x1, x2, x3, x4, x5, x6, x7, x8, d.1, d.2.1, d.2.2, 0, 0, 0, d_1, d_2) fun (d : Int × Bool × Bool × Int × Int × Int × Int × Int × Int × Int × Int × Int × Int × Int × Int × Int × Int × Int × Int × Int) => k (d.c8.c4.1, d.c8.c4.2.1, d.c8.c4.2.2.1,
 d.c8.c4.2.2.2.1, d.c16.1, d.c16.2.1, d.c16.2.2.1, d.c16.2.2.2, 0, d.2.2.1)
def f_AB (x0 : Int) (x1 : Int) (x2 : Int) (x3 : Int) (x4 : Int) (x5 : Int) (x6 : Int) (x7 : Int) (x8 : Int) (x9 : Bool) : Option (Int × Int × Int × Int × Int × Int × Int × Int × Int × Bool) := K_AB f_AO f_AR f_AY f_S (@L_AB_0) x0 x1 x2 x3 x4 x5 x6 x7 x8 x9 some
section
open Go.Ab.Rdr
def QA_AB := ((pair (cons (ar (rc (cptr (nat 0) (ok' (nat 0)) (nat 1)))) (cons (ar (ra (cons (gc (cf (fi .i64 hole))) (cons (gc (cf (fi .i64 hole))) (cons (gc (cf (fi .i64 hole))) (cons (gc (cf (fi .i64 hole))) (cons (gc (cf (fi .i64 hole))) (cons (gc (cf (fi .i64 hole))) (cons (gc (cf (fi .i64 hole))) (cons (gc (cf (fi .i64 hole))) (cons (gc (cf (fi .i64 hole))) nil))))))))))) nil)) (cons (cons (gc (cf (fb hole))) nil) nil)) : Rdr (List AV × List Blk) _)
end
def F_AB (f : (Int) → (Int) → (Int) → (Int) → (Int) → (Int) → (Int) → (Int) → (Int) → (Bool) → Option (Int × Int × Int × Int × Int × Int × Int × Int × Int × Bool)) : Sem1 := fun args h => match (QA_AB).rd (args, h) with
  | some b => .opt (f b.1.2.1.1 b.1.2.1.2.1 b.1.2.1.2.2.1 b.1.2.1.2.2.2.1 b.1.2.1.c4.1 b.1.2.1.c4.2.1 b.1.2.1.c4.2.2.1 b.1.2.1.c4.2.2.2.1 b.1.2.1.c8.1 b.2.1.1) fun (d : Int × Int × Int × Int × Int × Int × Int × Int × Int × Bool) => .leaf (Res.mk
    (AV.tup
      [RV.agg
          [sI d.1, sI d.2.1, sI d.2.2.1, sI d.2.2.2.1,
            sI d.c4.1, sI d.c4.2.1, sI d.c4.2.2.1,
            sI d.c4.2.2.2.1],
        RV.c (fI d.c8.1)])
    [Ch.set [sB d.c8.2]] [])
  | none => .fail
theorem d_AB (g_AO : t13GN2) (g_AR : t14GN2) (g_AY : t15GN2) (g_S : t16GN2) (l_0 : ∀ {ρ : Type}, (Int × Bool × Int × Int ×
 Int × Int × Int × Int × Int × Int × Int × Int × Int × Int × Int × Int × Int × Int × Int) → ((Int × Bool × Bool × Int × Int × Int × Int × Int × Int × Int × Int × Int × Int × Int × Int × Int × Int × Int × Int × Int) → Option ρ) → Option ρ) (x0 : Int) (x1 : Int) (x2 : Int) (x3 : Int) (x4 : Int) (x5 : Int) (x6 : Int) (x7 : Int) (x8 : Int) (x9 : Bool) : den Try.prog (envOf [(13,
 F_AO g_AO), (26, F_AR g_AR), (27, F_AY g_AY), (28, F_S g_S)]) ⟨[⟨5, u0GN2, []⟩], [⟨5, 1, @R_AB_0 (@l_0)⟩], [0], [], (some ⟨0, u1GN2, []⟩)⟩ 200 9 [.r (.c (.ptr 0 (.k 0) 1)), .r (.agg [.c (.f (.i .i64 x0)), .c (.f (.i .i64 x1)), .c (.f (.i .i64 x2)), .c (.f (.i .i64 x3)), .c (.f (.i .i64 x4)), .c (.f (.i .i64 x5)), .c (.f (.i .i64 x6)), .c (.f (.i .i64 x7)),
 .c (.f (.i .i64 x8))])] [[.c (.f (.b x9))]] = K_AB g_AO g_AR g_AY g_S (@l_0) x0 x1 x2 x3 x4 x5 x6 x7 x8 x9 (fun (d : Int × Int × Int × Int × Int × Int × Int × Int × Int × Bool) => some (Res.mk (AV.tup [RV.agg [sI d.1, sI d.2.1, sI d.2.2.1,
 sI d.2.2.2.1, sI d.c4.1, sI d.c4.2.1, sI d.c4.2.2.1, sI d.c4.2.2.2.1], RV.c (fI d.c8.1)]) [Ch.set [sB d.c8.2]] [])) := by kernel_rfl
theorem m_AB {ρ σ : Type} (q : ρ → Option σ) (g_AO : t13GN2) (g_AR : t14GN2) (g_AY : t15GN2) (g_S : t16GN2) (l_0 : ∀ {ρ : Type}, (Int × Bool × Int × Int × Int × Int × Int × Int × Int × Int × Int × Int × Int × Int × Int × Int × Int × Int × Int) → ((Int × Bool × Bool × Int × Int × Int × Int × Int × Int × Int × Int × Int × Int × Int × Int × Int × Int × Int × Int × Int) → Option ρ) → Option ρ) (hl_0 : ∀ {ρ σ : Type} (q : ρ → Option σ) (d : Int × Bool × Int × Int × Int × Int × Int × Int × Int × Int × Int × Int × Int × Int × Int × Int × Int × Int × Int) (k : (Int × Bool × Bool × Int × Int × Int × Int × Int × Int × Int × Int × Int × Int × Int × Int × Int × Int × Int × Int × Int) → Option ρ), (l_0 d k).bind q = l_0 d fun x => (k x).bind q) (x0 : Int) (x1 : Int) (x2 : Int) (x3 : Int) (x4 : Int) (x5 : Int) (x6 : Int) (x7 : Int) (x8 : Int) (x9 : Bool) (k : (Int × Int × Int × Int × Int × Int × Int × Int × Int × Bool) → Option ρ) : (K_AB g_AO g_AR g_AY g_S (@l_0) x0 x1 x2 x3 x4 x5 x6 x7 x8 x9 k).bind q = K_AB g_AO g_AR g_AY g_S (@l_0) x0 x1 x2 x3 x4 x5 x6 x7 x8 x9 (fun d => (k d).bind q) := by
  simp only [K_AB, bnd_cond, bnd_bind, bnd_none, bnd_sum, hl_0]
theorem qa_AB : ∀ b, (QA_AB).em b = ([.r (.c (.ptr 0 (.k 0) 1)), .r (.agg [.c (.f (.i .i64 b.1.2.1.1)), .c (.f (.i .i64 b.1.2.1.2.1)), .c (.f (.i .i64 b.1.2.1.2.2.1)), .c (.f (.i .i64 b.1.2.1.2.2.2.1)), .c (.f (.i .i64 b.1.2.1.c4.1)), .c (.f (.i .i64 b.1.2.1.c4.2.1)), .c (.f (.i .i64 b.1.2.1.c4.2.2.1)), .c (.f (.i .i64 b.1.2.1.c4.2.2.2.1)), .c (.f (.i .i64 b.1.2.1.c8.1))])], [[.c (.f (.b b.2.1.1))]]) := fun b => by kernel_rfl
theorem e_AB {f : (Int) → (Int) → (Int) → (Int) → (Int) → (Int) → (Int) → (Int) → (Int) → (Bool) → Option (Int × Int × Int × Int × Int × Int × Int × Int × Int × Bool)} {args : List AV} {h : List Blk} {r : Res} (hr : (F_AB f args h).eval = some r) : ∃ x0 x1 x2 x3 x4 x5 x6 x7 x8 x9, args = [.r (.c (.ptr 0 (.k 0) 1)),
 .r (.agg [.c (.f (.i .i64 x0)), .c (.f (.i .i64 x1)), .c (.f (.i .i64 x2)), .c (.f (.i .i64 x3)), .c (.f (.i .i64 x4)), .c (.f (.i .i64 x5)), .c (.f (.i .i64 x6)), .c (.f (.i .i64 x7)), .c (.f (.i .i64 x8))])] ∧ h = [[.c (.f (.b x9))]] ∧ (f x0 x1 x2 x3 x4 x5 x6 x7 x8 x9).bind (fun (d : Int × Int × Int ×
 Int × Int × Int × Int × Int × Int × Bool) => some (Res.mk (AV.tup [RV.agg [sI d.1, sI d.2.1, sI d.2.2.1, sI d.2.2.2.1, sI d.c4.1, sI d.c4.2.1,
 sI d.c4.2.2.1, sI d.c4.2.2.2.1], RV.c (fI d.c8.1)]) [Ch.set [sB d.c8.2]] [])) = some r := by
  unfold F_AB at hr
  split at hr
  · rename_i b hb
    have e := ((QA_AB).ok _ _ hb).trans (qa_AB b)
    rw [opt_eval2] at hr
    exact ⟨b.1.2.1.1, b.1.2.1.2.1, b.1.2.1.2.2.1, b.1.2.1.2.2.2.1, b.1.2.1.c4.1, b.1.2.1.c4.2.1, b.1.2.1.c4.2.2.1, b.1.2.1.c4.2.2.2.1, b.1.2.1.c8.1, b.2.1.1, (Prod.mk.inj e).1, (Prod.mk.inj e).2, hr⟩
  · cases hr
theorem n_AB {σ : Type} (q : (Int × Int × Int × Int × Int × Int × Int × Int × Int × Bool) → Option σ) (x0 : Int) (x1 : Int) (x2 : Int) (x3 : Int) (x4 : Int) (x5 : Int) (x6 : Int) (x7 : Int) (x8 : Int) (x9 : Bool) : (f_AB x0 x1 x2 x3 x4 x5 x6 x7 x8 x9).bind q = K_AB f_AO f_AR f_AY f_S (@L_AB_0) x0 x1 x2 x3 x4 x5 x6 x7 x8 x9 q := by
  unfold f_AB
  exact m_AB q f_AO f_AR f_AY f_S (@L_AB_0) (fun q d k => mL_AB_0 q d k) x0 x1 x2 x3 x4 x5 x6 x7 x8 x9 some
theorem s_AB [Amb] : Sound Try.prog 9 (F_AB f_AB) := (inl_sums (l := [(13, F_AO f_AO), (26, F_AR f_AR), (27, F_AY f_AY), (28, F_S f_S)]) (.cons s_AO (.cons s_AR (.cons s_AY (.cons s_S (.nil _))))) mixed (hs := ⟨[⟨5, u0GN2, []⟩], [⟨5, 1, @R_AB_0 (@L_AB_0)⟩], [0], [], (some ⟨0, u1GN2, []⟩)⟩) (lf := 200) (Sums.by (l := [loopIn Try.prog 9 5]) (lj := []) (by kernel_rfl) ⟨so_AB_0,
 trivial⟩ (by kernel_rfl) trivial) (by kernel_rfl)).by (F := F_AB f_AB) fun args b r hr => by
  obtain ⟨x0, x1, x2, x3, x4, x5, x6, x7, x8, x9, rfl, rfl, hr1⟩ := e_AB hr
  exact inl_eval ((d_AB f_AO f_AR f_AY f_S (@L_AB_0) x0 x1 x2 x3 x4 x5 x6 x7 x8 x9).trans ((n_AB (fun (d : Int × Int × Int × Int × Int × Int × Int × Int × Int × Bool) => some (Res.mk
    (AV.tup
      [RV.agg
          [sI d.1, sI d.2.1, sI d.2.2.1, sI d.2.2.2.1,
            sI d.c4.1, sI d.c4.2.1, sI d.c4.2.2.1,
            sI d.c4.2.2.2.1],
        RV.c (fI d.c8.1)])
    [Ch.set [sB d.c8.2]] [])) x0 x1 x2 x3 x4 x5 x6 x7 x8 x9).symm.trans hr1))

def K_AH {ρ : Type} (x0 : Int) (x1 : Int) (x2 : Int) (k : (Int × Int) → Option ρ) : Option ρ := bif decide (x2 ≥ 64) then bif !decide (IntKind.wrap .i64 (x2 - 64) < 0) then k (IntKind.wrap .u64 (x1 * 2 ^ min (Int.toNat (IntKind.wrap .i64 (x2 - 64))) 64), 0) else none else bif !decide (x2 < 0) then
 bif !decide (IntKind.wrap .i64 (64 - x2) < 0) then bif !decide (x2 < 0) then k (IntKind.wrap .u64 (Int.ofNat (BitVec.toNat (BitVec.ofInt 64 (IntKind.wrap .u64 (x0 * 2 ^ min (Int.toNat x2) 64)) ||| BitVec.ofInt 64 (Int.fdiv x1 (2 ^ min (Int.toNat (IntKind.wrap .i64 (64 - x2))) 64))))),
 IntKind.wrap .u64 (x1 * 2 ^ min (Int.toNat x2) 64)) else none else none else none
def f_AH (x0 : Int) (x1 : Int) (x2 : Int) : Option (Int × Int) := K_AH   x0 x1 x2 some
section
open Go.Ab.Rdr
def QA_AH := ((pair (cons (ar (ra (cons (gc (cf (fi .u64 hole))) (cons (gc (cf (fi .u64 hole))) nil)))) (cons (ar (rc (cf (fi .i64 hole)))) nil)) nil) : Rdr (List AV × List Blk) _)
end
def F_AH (f : (Int) → (Int) → (Int) → Option (Int × Int)) : Sem1 := fun args h => match (QA_AH).rd (args, h) with
  | some b => .opt (f b.1.1.1 b.1.1.2.1 b.1.2.1) fun (d : Int × Int) => .leaf (Res.mk (AV.r (RV.agg [sU d.1, sU d.2])) [] [])
  | none => .fail
theorem d_AH (x0 : Int) (x1 : Int) (x2 : Int) : den Try.prog (envOf []) ⟨[], [], [], [], none⟩ 200 78 [.r (.agg [.c (.f (.i .u64 x0)), .c (.f (.i .u64 x1))]), rI x2] [] = K_AH x0 x1 x2 (fun (d : Int × Int) => some (Res.mk (AV.r (RV.agg [sU d.1, sU d.2])) [] [])) := by kernel_rfl
theorem m_AH {ρ σ : Type} (q : ρ → Option σ)    (x0 : Int) (x1 : Int) (x2 : Int) (k : (Int × Int) → Option ρ) : (K_AH   x0 x1 x2 k).bind q = K_AH   x0 x1 x2 (fun d => (k d).bind q) := by
  simp only [K_AH, bnd_cond, bnd_bind, bnd_none, bnd_sum]
theorem qa_AH : ∀ b, (QA_AH).em b = ([.r (.agg [.c (.f (.i .u64 b.1.1.1)), .c (.f (.i .u64 b.1.1.2.1))]), rI b.1.2.1], []) := fun b => by kernel_rfl
theorem e_AH {f : (Int) → (Int) → (Int) → Option (Int × Int)} {args : List AV} {h : List Blk} {r : Res} (hr : (F_AH f args h).eval = some r) : ∃ x0 x1 x2, args = [.r (.agg [.c (.f (.i .u64 x0)), .c (.f (.i .u64 x1))]), rI x2] ∧ h = [] ∧ (f x0 x1 x2).bind (fun (d : Int × Int) => some (Res.mk (AV.r (RV.agg [sU d.1, sU d.2])) [] [])) = some r := by
  unfold F_AH at hr
  split at hr
  · rename_i b hb
    have e := ((QA_AH).ok _ _ hb).trans (qa_AH b)
    rw [opt_eval2] at hr
    exact ⟨b.1.1.1, b.1.1.2.1, b.1.2.1, (Prod.mk.inj e).1, (Prod.mk.inj e).2, hr⟩
  · cases hr
theorem n_AH {σ : Type} (q : (Int × Int) → Option σ) (x0 : Int) (x1 : Int) (x2 : Int) : (f_AH x0 x1 x2).bind q = K_AH   x0 x1 x2 q := by
  unfold f_AH
  exact m_AH q    x0 x1 x2 some
theorem s_AH [Amb] : Sound Try.prog 78 (F_AH f_AH) := (inl_sound (l := []) (.nil _) mixed [] [] 200 (by kernel_rfl)).by (F := F_AH f_AH) fun args b r hr => by
  obtain ⟨x0, x1, x2, rfl, rfl, hr1⟩ := e_AH hr
  exact inl_eval ((d_AH   x0 x1 x2).trans ((n_AH (fun (d : Int × Int) => some (Res.mk (AV.r (RV.agg [sU d.1, sU d.2])) [] [])) x0 x1 x2).symm.trans hr1))

def K_AF {ρ : Type} (x0 : Int) (x1 : Int) (x2 : Int) (k : (Int × Int) → Option ρ) : Option ρ := bif decide (x2 ≥ 64) then bif !decide (IntKind.wrap .i64 (x2 - 64) < 0) then k (0, Int.fdiv x0 (2 ^ min (Int.toNat (IntKind.wrap .i64 (x2 - 64))) 64)) else none else bif !decide (x2 < 0) then
 bif !decide (x2 < 0) then bif !decide (IntKind.wrap .i64 (64 - x2) < 0) then k (Int.fdiv x0 (2 ^ min (Int.toNat x2) 64), IntKind.wrap .u64 (Int.ofNat (BitVec.toNat (BitVec.ofInt 64 (Int.fdiv x1 (2 ^ min (Int.toNat x2) 64)) ||| BitVec.ofInt 64 (IntKind.wrap .u64 (x0 * 2 ^ min (Int.toNat (IntKind.wrap .i64 (64 - x2))) 64)))))) else
 none else none else none
def f_AF (x0 : Int) (x1 : Int) (x2 : Int) : Option (Int × Int) := K_AF   x0 x1 x2 some
section
open Go.Ab.Rdr
def QA_AF := ((pair (cons (ar (ra (cons (gc (cf (fi .u64 hole))) (cons (gc (cf (fi .u64 hole))) nil)))) (cons (ar (rc (cf (fi .i64 hole)))) nil)) nil) : Rdr (List AV × List Blk) _)
end
def F_AF (f : (Int) → (Int) → (Int) → Option (Int × Int)) : Sem1 := fun args h => match (QA_AF).rd (args, h) with
  | some b => .opt (f b.1.1.1 b.1.1.2.1 b.1.2.1) fun (d : Int × Int) => .leaf (Res.mk (AV.r (RV.agg [sU d.1, sU d.2])) [] [])
  | none => .fail
theorem d_AF (x0 : Int) (x1 : Int) (x2 : Int) : den Try.prog (envOf []) ⟨[], [], [], [], none⟩ 200 79 [.r (.agg [.c (.f (.i .u64 x0)), .c (.f (.i .u64 x1))]), rI x2] [] = K_AF x0 x1 x2 (fun (d : Int × Int) => some (Res.mk (AV.r (RV.agg [sU d.1, sU d.2])) [] [])) := by kernel_rfl
theorem m_AF {ρ σ : Type} (q : ρ → Option σ)    (x0 : Int) (x1 : Int) (x2 : Int) (k : (Int × Int) → Option ρ) : (K_AF   x0 x1 x2 k).bind q = K_AF   x0 x1 x2 (fun d => (k d).bind q) := by
  simp only [K_AF, bnd_cond, bnd_bind, bnd_none, bnd_sum]
theorem qa_AF : ∀ b, (QA_AF).em b = ([.r (.agg [.c (.f (.i .u64 b.1.1.1)), .c (.f (.i .u64 b.1.1.2.1))]), rI b.1.2.1], []) := fun b => by kernel_rfl
theorem e_AF {f : (Int) → (Int) → (Int) → Option (Int × Int)} {args : List AV} {h : List Blk} {r : Res} (hr : (F_AF f args h).eval = some r) : ∃ x0 x1 x2, args = [.r (.agg [.c (.f (.i .u64 x0)), .c (.f (.i .u64 x1))]), rI x2] ∧ h = [] ∧ (f x0 x1 x2).bind (fun (d : Int × Int) => some (Res.mk (AV.r (RV.agg [sU d.1, sU d.2])) [] [])) = some r := by
  unfold F_AF at hr
  split at hr
  · rename_i b hb
    have e := ((QA_AF).ok _ _ hb).trans (qa_AF b)
    rw [opt_eval2] at hr
    exact ⟨b.1.1.1, b.1.1.2.1, b.1.2.1, (Prod.mk.inj e).1, (Prod.mk.inj e).2, hr⟩
  · cases hr
theorem n_AF {σ : Type} (q : (Int × Int) → Option σ) (x0 : Int) (x1 : Int) (x2 : Int) : (f_AF x0 x1 x2).bind q = K_AF   x0 x1 x2 q := by
  unfold f_AF
  exact m_AF q    x0 x1 x2 some
theorem s_AF [Amb] : Sound Try.prog 79 (F_AF f_AF) := (inl_sound (l := []) (.nil _) mixed [] [] 200 (by kernel_rfl)).by (F := F_AF f_AF) fun args b r hr => by
  obtain ⟨x0, x1, x2, rfl, rfl, hr1⟩ := e_AF hr
  exact inl_eval ((d_AF   x0 x1 x2).trans ((n_AF (fun (d : Int × Int) => some (Res.mk (AV.r (RV.agg [sU d.1, sU d.2])) [] [])) x0 x1 x2).symm.trans hr1))

def K_AU {ρ : Type} (g_Ah : t17GN2) (g_AH : t18GN2) (g_AG : t19GN2) (g_AF : t18GN2) (g_AE : t20GN2) (x0 : Int) (x1 : Int) (x2 : Int) (k : (Int ×
 Bool) → Option ρ) : Option ρ := bif decide (x2 < 0) then k (0, false) else bif decide (x2 > 126) then k (0, false) else Option.bind (g_Ah x0 x1) fun (d : Int × Int × Bool) => bif decide (x2 > 0) then Option.bind (g_AH 0 1 (IntKind.wrap .i64 (x2 - 1))) fun (d_1 : Int × Int) => Option.bind (g_AG d.1 d.2.1 d_1.1 d_1.2) fun (d_2 : Int ×
 Int) => Option.bind (g_AF d_2.1 d_2.2 x2) fun (d_3 : Int × Int) => Option.bind (g_AE d_3.1 d_3.2 d.2.2) fun (d : Int × Bool) => k (d.1, d.2) else Option.bind (g_AF d.1 d.2.1 x2) fun (d_1 : Int × Int) => Option.bind (g_AE d_1.1 d_1.2 d.2.2) fun (d : Int × Bool) => k (d.1, d.2)
def f_AU (x0 : Int) (x1 : Int) (x2 : Int) : Option (Int × Bool) := K_AU f_Ah f_AH f_AG f_AF f_AE  x0 x1 x2 some
section
open Go.Ab.Rdr
def QA_AU := ((pair (cons (ar (ra (cons (gc (cf (fi .i64 hole))) (cons (gc (cf (fi .u64 hole))) nil)))) (cons (ar (rc (cf (fi .i64 hole)))) nil)) nil) : Rdr (List AV × List Blk) _)
end
def F_AU (f : (Int) → (Int) → (Int) → Option (Int × Bool)) : Sem1 := fun args h => match (QA_AU).rd (args, h) with
  | some b => .opt (f b.1.1.1 b.1.1.2.1 b.1.2.1) fun (d : Int × Bool) => .leaf (Res.mk (AV.tup [RV.c (fI d.1), RV.c (CV.f (FV.b d.2))]) [] [])
  | none => .fail
theorem d_AU (g_Ah : t17GN2) (g_AH : t18GN2) (g_AG : t19GN2) (g_AF : t18GN2) (g_AE : t20GN2) (x0 : Int) (x1 : Int) (x2 : Int) : den Try.prog (envOf [(82,
 F_Ah g_Ah), (78, F_AH g_AH), (83, F_AG g_AG), (79, F_AF g_AF), (84, F_AE g_AE)]) ⟨[], [], [], [], none⟩ 200 63 [.r (.agg [.c (.f (.i .i64 x0)), .c (.f (.i .u64 x1))]), rI x2] [] = K_AU g_Ah g_AH g_AG g_AF g_AE x0 x1 x2 (fun (d : Int × Bool) => some (Res.mk (AV.tup [RV.c (fI d.1),
 RV.c (CV.f (FV.b d.2))]) [] [])) := by kernel_rfl
theorem m_AU {ρ σ : Type} (q : ρ → Option σ) (g_Ah : t17GN2) (g_AH : t18GN2) (g_AG : t19GN2) (g_AF : t18GN2) (g_AE : t20GN2)   (x0 : Int) (x1 : Int) (x2 : Int) (k : (Int × Bool) → Option ρ) : (K_AU g_Ah g_AH g_AG g_AF g_AE  x0 x1 x2 k).bind q = K_AU g_Ah g_AH g_AG g_AF g_AE  x0 x1 x2 (fun d => (k d).bind q) := by
  simp only [K_AU, bnd_cond, bnd_bind, bnd_none, bnd_sum]
theorem qa_AU : ∀ b, (QA_AU).em b = ([.r (.agg [.c (.f (.i .i64 b.1.1.1)), .c (.f (.i .u64 b.1.1.2.1))]), rI b.1.2.1], []) := fun b => by kernel_rfl
theorem e_AU {f : (Int) → (Int) → (Int) → Option (Int × Bool)} {args : List AV} {h : List Blk} {r : Res} (hr : (F_AU f args h).eval = some r) : ∃ x0 x1 x2, args = [.r (.agg [.c (.f (.i .i64 x0)), .c (.f (.i .u64 x1))]), rI x2] ∧ h = [] ∧ (f x0 x1 x2).bind (fun (d : Int × Bool) => some (Res.mk (AV.tup [RV.c (fI d.1), RV.c (CV.f (FV.b d.2))]) [] [])) = some r := by
  unfold F_AU at hr
  split at hr
  · rename_i b hb
    have e := ((QA_AU).ok _ _ hb).trans (qa_AU b)
    rw [opt_eval2] at hr
    exact ⟨b.1.1.1, b.1.1.2.1, b.1.2.1, (Prod.mk.inj e).1, (Prod.mk.inj e).2, hr⟩
  · cases hr
theorem n_AU {σ : Type} (q : (Int × Bool) → Option σ) (x0 : Int) (x1 : Int) (x2 : Int) : (f_AU x0 x1 x2).bind q = K_AU f_Ah f_AH f_AG f_AF f_AE  x0 x1 x2 q := by
  unfold f_AU
  exact m_AU q f_Ah f_AH f_AG f_AF f_AE   x0 x1 x2 some
theorem s_AU [Amb] : Sound Try.prog 63 (F_AU f_AU) := (inl_sound (l := [(82, F_Ah f_Ah), (78, F_AH f_AH), (83, F_AG f_AG), (79, F_AF f_AF), (84, F_AE f_AE)]) (.cons s_Ah (.cons s_AH (.cons s_AG (.cons s_AF (.cons s_AE (.nil _)))))) mixed [] [] 200 (by kernel_rfl)).by (F := F_AU f_AU) fun args b r hr => by
  obtain ⟨x0, x1, x2, rfl, rfl, hr1⟩ := e_AU hr
  exact inl_eval ((d_AU f_Ah f_AH f_AG f_AF f_AE  x0 x1 x2).trans ((n_AU (fun (d : Int × Bool) => some (Res.mk (AV.tup [RV.c (fI d.1), RV.c (CV.f (FV.b d.2))]) [] [])) x0 x1 x2).symm.trans hr1))

def K_Aw {ρ : Type} (g_AU : t21GN2) (g_AK : t22GN2) (x0 : Int) (x1 : Int) (x2 : Int) (x3 : Bool) (k : (Int × Bool) → Option ρ) : Option ρ := bif decide (x2 < 0) then k (0, true) else bif decide (x2 > 120) then k (0, true) else Option.bind (g_AU x0 x1 x2) fun (d : Int ×
 Bool) => Option.bind (g_AK d.1 d.2 (decide (x0 < 0)) x3) fun (d : Int × Bool) => k (d.1, d.2)
def f_Aw (x0 : Int) (x1 : Int) (x2 : Int) (x3 : Bool) : Option (Int × Bool) := K_Aw f_AU f_AK  x0 x1 x2 x3 some
section
open Go.Ab.Rdr
def QA_Aw := ((pair (cons (ar (rc (cptr (nat 0) (ok' (nat 0)) (nat 1)))) (cons (ar (ra (cons (gc (cf (fi .i64 hole))) (cons (gc (cf (fi .u64 hole))) nil)))) (cons (ar (rc (cf (fi .i64 hole)))) nil))) (cons (cons (gc (cf (fb hole))) nil) nil)) : Rdr (List AV × List Blk) _)
end
def F_Aw (f : (Int) → (Int) → (Int) → (Bool) → Option (Int × Bool)) : Sem1 := fun args h => match (QA_Aw).rd (args, h) with
  | some b => .opt (f b.1.2.1.1 b.1.2.1.2.1 b.1.2.2.1 b.2.1.1) fun (d : Int × Bool) => .leaf (Res.mk (rI d.1) [Ch.set [sB d.2]] [])
  | none => .fail
theorem d_Aw (g_AU : t21GN2) (g_AK : t22GN2) (x0 : Int) (x1 : Int) (x2 : Int) (x3 : Bool) : den Try.prog (envOf [(63, F_AU g_AU), (64, F_AK g_AK)]) ⟨[], [], [], [], none⟩ 200 53 [.r (.c (.ptr 0 (.k 0) 1)), .r (.agg [.c (.f (.i .i64 x0)),
 .c (.f (.i .u64 x1))]), rI x2] [[.c (.f (.b x3))]] = K_Aw g_AU g_AK x0 x1 x2 x3 (fun (d : Int × Bool) => some (Res.mk (rI d.1) [Ch.set [sB d.2]] [])) := by kernel_rfl
theorem m_Aw {ρ σ : Type} (q : ρ → Option σ) (g_AU : t21GN2) (g_AK : t22GN2)   (x0 : Int) (x1 : Int) (x2 : Int) (x3 : Bool) (k : (Int × Bool) → Option ρ) : (K_Aw g_AU g_AK  x0 x1 x2 x3 k).bind q = K_Aw g_AU g_AK  x0 x1 x2 x3 (fun d => (k d).bind q) := by
  simp only [K_Aw, bnd_cond, bnd_bind, bnd_none, bnd_sum]
theorem qa_Aw : ∀ b, (QA_Aw).em b = ([.r (.c (.ptr 0 (.k 0) 1)), .r (.agg [.c (.f (.i .i64 b.1.2.1.1)), .c (.f (.i .u64 b.1.2.1.2.1))]), rI b.1.2.2.1], [[.c (.f (.b b.2.1.1))]]) := fun b => by kernel_rfl
theorem e_Aw {f : (Int) → (Int) → (Int) → (Bool) → Option (Int × Bool)} {args : List AV} {h : List Blk} {r : Res} (hr : (F_Aw f args h).eval = some r) : ∃ x0 x1 x2 x3, args = [.r (.c (.ptr 0 (.k 0) 1)), .r (.agg [.c (.f (.i .i64 x0)), .c (.f (.i .u64 x1))]), rI x2] ∧ h = [[.c (.f (.b x3))]] ∧ (f x0 x1 x2 x3).bind (fun (d : Int × Bool) => some (Res.mk (rI d.1) [Ch.set [sB d.2]] [])) = some r := by
  unfold F_Aw at hr
  split at hr
  · rename_i b hb
    have e := ((QA_Aw).ok _ _ hb).trans (qa_Aw b)
    rw [opt_eval2] at hr
    exact ⟨b.1.2.1.1, b.1.2.1.2.1, b.1.2.2.1, b.2.1.1, (Prod.mk.inj e).1, (Prod.mk.inj e).2, hr⟩
  · cases hr
theorem n_Aw {σ : Type} (q : (Int × Bool) → Option σ) (x0 : Int) (x1 : Int) (x2 : Int) (x3 : Bool) : (f_Aw x0 x1 x2 x3).bind q = K_Aw f_AU f_AK  x0 x1 x2 x3 q := by
  unfold f_Aw
  exact m_Aw q f_AU f_AK   x0 x1 x2 x3 some
theorem s_Aw [Amb] : Sound Try.prog 53 (F_Aw f_Aw) := (inl_sound (l := [(63, F_AU f_AU), (64, F_AK f_AK)]) (.cons s_AU (.cons s_AK (.nil _))) mixed [] [] 200 (by kernel_rfl)).by (F := F_Aw f_Aw) fun args b r hr => by
  obtain ⟨x0, x1, x2, x3, rfl, rfl, hr1⟩ := e_Aw hr
  exact inl_eval ((d_Aw f_AU f_AK  x0 x1 x2 x3).trans ((n_Aw (fun (d : Int × Bool) => some (Res.mk (rI d.1) [Ch.set [sB d.2]] [])) x0 x1 x2 x3).symm.trans hr1))

def K_AM {ρ : Type} (g_J : t23GN2) (g_Ag : t24GN2) (g_Aw : t16GN2) (x0 : Int) (x1 : Int) (x2 : Int) (x3 : Bool) (k : (Int × Bool) → Option ρ) : Option ρ := Option.bind (g_J x0 x3) fun (d : Int × Bool) => Option.bind (g_J x1 d.2) fun (d_1 : Int ×
 Bool) => Option.bind (g_Ag d.1 d_1.1) fun (d : Int × Int) => Option.bind (g_Aw d.1 d.2 x2 d_1.2) fun (d : Int × Bool) => k (d.1, d.2)
def f_AM (x0 : Int) (x1 : Int) (x2 : Int) (x3 : Bool) : Option (Int × Bool) := K_AM f_J f_Ag f_Aw  x0 x1 x2 x3 some
section
open Go.Ab.Rdr
def QA_AM := ((pair (cons (ar (rc (cptr (nat 0) (ok' (nat 0)) (nat 1)))) (cons (ar (rc (cf (fi .i64 hole)))) (cons (ar (rc (cf (fi .i64 hole)))) (cons (ar (rc (cf (fi .i64 hole)))) nil)))) (cons (cons (gc (cf (fb hole))) nil) nil)) : Rdr (List AV × List Blk) _)
end
def F_AM (f : (Int) → (Int) → (Int) → (Bool) → Option (Int × Bool)) : Sem1 := fun args h => match (QA_AM).rd (args, h) with
  | some b => .opt (f b.1.2.1 b.1.2.2.1 b.1.2.2.2.1 b.2.1.1) fun (d : Int × Bool) => .leaf (Res.mk (rI d.1) [Ch.set [sB d.2]] [])
  | none => .fail
theorem d_AM (g_J : t23GN2) (g_Ag : t24GN2) (g_Aw : t16GN2) (x0 : Int) (x1 : Int) (x2 : Int) (x3 : Bool) : den Try.prog (envOf [(52, F_J g_J), (51, F_Ag g_Ag), (53, F_Aw g_Aw)]) ⟨[], [], [], [], none⟩ 200 30 [.r (.c (.ptr 0 (.k 0) 1)),
 rI x0, rI x1, rI x2] [[.c (.f (.b x3))]] = K_AM g_J g_Ag g_Aw x0 x1 x2 x3 (fun (d : Int × Bool) => some (Res.mk (rI d.1) [Ch.set [sB d.2]] [])) := by kernel_rfl
theorem m_AM {ρ σ : Type} (q : ρ → Option σ) (g_J : t23GN2) (g_Ag : t24GN2) (g_Aw : t16GN2)   (x0 : Int) (x1 : Int) (x2 : Int) (x3 : Bool) (k : (Int × Bool) → Option ρ) : (K_AM g_J g_Ag g_Aw  x0 x1 x2 x3 k).bind q = K_AM g_J g_Ag g_Aw  x0 x1 x2 x3 (fun d => (k d).bind q) := by
  simp only [K_AM, bnd_cond, bnd_bind, bnd_none, bnd_sum]
theorem qa_AM : ∀ b, (QA_AM).em b = ([.r (.c (.ptr 0 (.k 0) 1)), rI b.1.2.1, rI b.1.2.2.1, rI b.1.2.2.2.1], [[.c (.f (.b b.2.1.1))]]) := fun b => by kernel_rfl
theorem e_AM {f : (Int) → (Int) → (Int) → (Bool) → Option (Int × Bool)} {args : List AV} {h : List Blk} {r : Res} (hr : (F_AM f args h).eval = some r) : ∃ x0 x1 x2 x3, args = [.r (.c (.ptr 0 (.k 0) 1)), rI x0, rI x1, rI x2] ∧ h = [[.c (.f (.b x3))]] ∧ (f x0 x1 x2 x3).bind (fun (d : Int × Bool) => some (Res.mk (rI d.1) [Ch.set [sB d.2]] [])) = some r := by
  unfold F_AM at hr
  split at hr
  · rename_i b hb
    have e := ((QA_AM).ok _ _ hb).trans (qa_AM b)
    rw [opt_eval2] at hr
    exact ⟨b.1.2.1, b.1.2.2.1, b.1.2.2.2.1, b.2.1.1, (Prod.mk.inj e).1, (Prod.mk.inj e).2, hr⟩
  · cases hr
theorem n_AM {σ : Type} (q : (Int × Bool) → Option σ) (x0 : Int) (x1 : Int) (x2 : Int) (x3 : Bool) : (f_AM x0 x1 x2 x3).bind q = K_AM f_J f_Ag f_Aw  x0 x1 x2 x3 q := by
  unfold f_AM
  exact m_AM q f_J f_Ag f_Aw   x0 x1 x2 x3 some
theorem s_AM [Amb] : Sound Try.prog 30 (F_AM f_AM) := (inl_sound (l := [(52, F_J f_J), (51, F_Ag f_Ag), (53, F_Aw f_Aw)]) (.cons s_J (.cons s_Ag (.cons s_Aw (.nil _)))) mixed [] [] 200 (by kernel_rfl)).by (F := F_AM f_AM) fun args b r hr => by
  obtain ⟨x0, x1, x2, x3, rfl, rfl, hr1⟩ := e_AM hr
  exact inl_eval ((d_AM f_J f_Ag f_Aw  x0 x1 x2 x3).trans ((n_AM (fun (d : Int × Bool) => some (Res.mk (rI d.1) [Ch.set [sB d.2]] [])) x0 x1 x2 x3).symm.trans hr1))

def K_As {ρ : Type} (g_AM : t16GN2) (x0 : Int) (x1 : Int) (x2 : Bool) (k : (Int × Bool) → Option ρ) : Option ρ := Option.bind (g_AM x0 x1 30 x2) fun (d : Int × Bool) => k (d.1, d.2)
def f_As (x0 : Int) (x1 : Int) (x2 : Bool) : Option (Int × Bool) := K_As f_AM  x0 x1 x2 some
section
open Go.Ab.Rdr
def QA_As := ((pair (cons (ar (rc (cf (fi .i64 hole)))) (cons (ar (rc (cf (fi .i64 hole)))) (cons (ar (rc (cptr (nat 0) (ok' (nat 0)) (nat 1)))) nil))) (cons (cons (gc (cptr (nat 1) (ok' (nat 0)) (nat 1))) nil) (cons (cons (gc (cf (fb hole))) nil) nil))) : Rdr (List AV × List Blk) _)
end
def F_As (f : (Int) → (Int) → (Bool) → Option (Int × Bool)) : Sem1 := fun args h => match (QA_As).rd (args, h) with
  | some b => .opt (f b.1.1 b.1.2.1 b.2.2.1.1) fun (d : Int × Bool) => .leaf (Res.mk (rI d.1) [Ch.keep, Ch.set [sB d.2]] [])
  | none => .fail
theorem d_As (g_AM : t16GN2) (x0 : Int) (x1 : Int) (x2 : Bool) : den Try.prog (envOf [(30, F_AM g_AM)]) ⟨[], [], [], [], none⟩ 200 29 [rI x0, rI x1, .r (.c (.ptr 0 (.k 0) 1))] [[.c (.ptr 1 (.k 0) 1)], [.c (.f (.b x2))]] = K_As g_AM x0 x1 x2 (fun (d : Int ×
 Bool) => some (Res.mk (rI d.1) [Ch.keep, Ch.set [sB d.2]] [])) := by kernel_rfl
theorem m_As {ρ σ : Type} (q : ρ → Option σ) (g_AM : t16GN2)   (x0 : Int) (x1 : Int) (x2 : Bool) (k : (Int × Bool) → Option ρ) : (K_As g_AM  x0 x1 x2 k).bind q = K_As g_AM  x0 x1 x2 (fun d => (k d).bind q) := by
  simp only [K_As, bnd_cond, bnd_bind, bnd_none, bnd_sum]
theorem qa_As : ∀ b, (QA_As).em b = ([rI b.1.1, rI b.1.2.1, .r (.c (.ptr 0 (.k 0) 1))], [[.c (.ptr 1 (.k 0) 1)], [.c (.f (.b b.2.2.1.1))]]) := fun b => by kernel_rfl
theorem e_As {f : (Int) → (Int) → (Bool) → Option (Int × Bool)} {args : List AV} {h : List Blk} {r : Res} (hr : (F_As f args h).eval = some r) : ∃ x0 x1 x2, args = [rI x0, rI x1, .r (.c (.ptr 0 (.k 0) 1))] ∧ h = [[.c (.ptr 1 (.k 0) 1)], [.c (.f (.b x2))]] ∧ (f x0 x1 x2).bind (fun (d : Int × Bool) => some (Res.mk (rI d.1) [Ch.keep, Ch.set [sB d.2]] [])) = some r := by
  unfold F_As at hr
  split at hr
  · rename_i b hb
    have e := ((QA_As).ok _ _ hb).trans (qa_As b)
    rw [opt_eval2] at hr
    exact ⟨b.1.1, b.1.2.1, b.2.2.1.1, (Prod.mk.inj e).1, (Prod.mk.inj e).2, hr⟩
  · cases hr
theorem n_As {σ : Type} (q : (Int × Bool) → Option σ) (x0 : Int) (x1 : Int) (x2 : Bool) : (f_As x0 x1 x2).bind q = K_As f_AM  x0 x1 x2 q := by
  unfold f_As
  exact m_As q f_AM   x0 x1 x2 some
theorem s_As [Amb] : Sound Try.prog 29 (F_As f_As) := (inl_sound (l := [(30, F_AM f_AM)]) (.cons s_AM (.nil _)) mixed [] [] 200 (by kernel_rfl)).by (F := F_As f_As) fun args b r hr => by
  obtain ⟨x0, x1, x2, rfl, rfl, hr1⟩ := e_As hr
  exact inl_eval ((d_As f_AM  x0 x1 x2).trans ((n_As (fun (d : Int × Bool) => some (Res.mk (rI d.1) [Ch.keep, Ch.set [sB d.2]] [])) x0 x1 x2).symm.trans hr1))

def K_Ac {ρ : Type} (x0 : Int) (k : (Int) → Option ρ) : Option ρ := bif decide (Int.tmod x0 6746518852 > 3373259426) then k (IntKind.wrap .i64 (Int.tmod x0 6746518852 - 6746518852)) else bif decide (Int.tmod x0 6746518852 ≤ -3373259426) then k (IntKind.wrap .i64 (Int.tmod x0 6746518852 + 6746518852)) else
 k (Int.tmod x0 6746518852)
def f_Ac (x0 : Int) : Option (Int) := K_Ac   x0 some
section
open Go.Ab.Rdr
def QA_Ac := ((pair (cons (ar (rc (cf (fi .i64 hole)))) nil) nil) : Rdr (List AV × List Blk) _)
end
def F_Ac (f : (Int) → Option (Int)) : Sem1 := fun args h => match (QA_Ac).rd (args, h) with
  | some b => .opt (f b.1.1) fun (d : Int) => .leaf (Res.mk (rI d) [] [])
  | none => .fail
theorem d_Ac (x0 : Int) : den Try.prog (envOf []) ⟨[], [], [], [], none⟩ 200 54 [rI x0] [] = K_Ac x0 (fun (d : Int) => some (Res.mk (rI d) [] [])) := by kernel_rfl
theorem m_Ac {ρ σ : Type} (q : ρ → Option σ)    (x0 : Int) (k : (Int) → Option ρ) : (K_Ac   x0 k).bind q = K_Ac   x0 (fun d => (k d).bind q) := by
  simp only [K_Ac, bnd_cond, bnd_bind, bnd_none, bnd_sum]
theorem qa_Ac : ∀ b, (QA_Ac).em b = ([rI b.1.1], []) := fun b => by kernel_rfl
theorem e_Ac {f : (Int) → Option (Int)} {args : List AV} {h : List Blk} {r : Res} (hr : (F_Ac f args h).eval = some r) : ∃ x0, args = [rI x0] ∧ h = [] ∧ (f x0).bind (fun (d : Int) => some (Res.mk (rI d) [] [])) = some r := by
  unfold F_Ac at hr
  split at hr
  · rename_i b hb
    have e := ((QA_Ac).ok _ _ hb).trans (qa_Ac b)
    rw [opt_eval2] at hr
    exact ⟨b.1.1, (Prod.mk.inj e).1, (Prod.mk.inj e).2, hr⟩
  · cases hr
theorem n_Ac {σ : Type} (q : (Int) → Option σ) (x0 : Int) : (f_Ac x0).bind q = K_Ac   x0 q := by
  unfold f_Ac
  exact m_Ac q    x0 some
theorem s_Ac [Amb] : Sound Try.prog 54 (F_Ac f_Ac) := (inl_sound (l := []) (.nil _) mixed [] [] 200 (by kernel_rfl)).by (F := F_Ac f_Ac) fun args b r hr => by
  obtain ⟨x0, rfl, rfl, hr1⟩ := e_Ac hr
  exact inl_eval ((d_Ac   x0).trans ((n_Ac (fun (d : Int) => some (Res.mk (rI d) [] [])) x0).symm.trans hr1))

def K_Aq {ρ : Type} (x0 : Int) (k : (Int) → Option ρ) : Option ρ := bif decide (x0 ≥ 1152921504606846976) then k 1152921504606846976 else bif decide (x0 ≤ -1152921504606846976) then k 1152921504606846976 else bif decide (x0 < 0) then k (IntKind.wrap .i64 (0 - x0)) else k x0
def f_Aq (x0 : Int) : Option (Int) := K_Aq   x0 some
section
open Go.Ab.Rdr
def QA_Aq := ((pair (cons (ar (rc (cf (fi .i64 hole)))) nil) nil) : Rdr (List AV × List Blk) _)
end
def F_Aq (f : (Int) → Option (Int)) : Sem1 := fun args h => match (QA_Aq).rd (args, h) with
  | some b => .opt (f b.1.1) fun (d : Int) => .leaf (Res.mk (rI d) [] [])
  | none => .fail
theorem d_Aq (x0 : Int) : den Try.prog (envOf []) ⟨[], [], [], [], none⟩ 200 55 [rI x0] [] = K_Aq x0 (fun (d : Int) => some (Res.mk (rI d) [] [])) := by kernel_rfl
theorem m_Aq {ρ σ : Type} (q : ρ → Option σ)    (x0 : Int) (k : (Int) → Option ρ) : (K_Aq   x0 k).bind q = K_Aq   x0 (fun d => (k d).bind q) := by
  simp only [K_Aq, bnd_cond, bnd_bind, bnd_none, bnd_sum]
theorem qa_Aq : ∀ b, (QA_Aq).em b = ([rI b.1.1], []) := fun b => by kernel_rfl
theorem e_Aq {f : (Int) → Option (Int)} {args : List AV} {h : List Blk} {r : Res} (hr : (F_Aq f args h).eval = some r) : ∃ x0, args = [rI x0] ∧ h = [] ∧ (f x0).bind (fun (d : Int) => some (Res.mk (rI d) [] [])) = some r := by
  unfold F_Aq at hr
  split at hr
  · rename_i b hb
    have e := ((QA_Aq).ok _ _ hb).trans (qa_Aq b)
    rw [opt_eval2] at hr
    exact ⟨b.1.1, (Prod.mk.inj e).1, (Prod.mk.inj e).2, hr⟩
  · cases hr
theorem n_Aq {σ : Type} (q : (Int) → Option σ) (x0 : Int) : (f_Aq x0).bind q = K_Aq   x0 q := by
  unfold f_Aq
  exact m_Aq q    x0 some
theorem s_Aq [Amb] : Sound Try.prog 55 (F_Aq f_Aq) := (inl_sound (l := []) (.nil _) mixed [] [] 200 (by kernel_rfl)).by (F := F_Aq f_Aq) fun args b r hr => by
  obtain ⟨x0, rfl, rfl, hr1⟩ := e_Aq hr
  exact inl_eval ((d_Aq   x0).trans ((n_Aq (fun (d : Int) => some (Res.mk (rI d) [] [])) x0).symm.trans hr1))

def K_AL {ρ : Type} (g_AM : t16GN2) (x0 : Int) (x1 : Int) (x2 : Bool) (k : (Int × Bool) → Option ρ) : Option ρ := Option.bind (g_AM x0 x1 30 x2) fun (d : Int × Bool) => k (d.1, d.2)
def f_AL (x0 : Int) (x1 : Int) (x2 : Bool) : Option (Int × Bool) := K_AL f_AM  x0 x1 x2 some
section
open Go.Ab.Rdr
def QA_AL := ((pair (cons (ar (rc (cptr (nat 0) (ok' (nat 0)) (nat 1)))) (cons (ar (rc (cf (fi .i64 hole)))) (cons (ar (rc (cf (fi .i64 hole)))) nil))) (cons (cons (gc (cf (fb hole))) nil) nil)) : Rdr (List AV × List Blk) _)
end
def F_AL (f : (Int) → (Int) → (Bool) → Option (Int × Bool)) : Sem1 := fun args h => match (QA_AL).rd (args, h) with
  | some b => .opt (f b.1.2.1 b.1.2.2.1 b.2.1.1) fun (d : Int × Bool) => .leaf (Res.mk (rI d.1) [Ch.set [sB d.2]] [])
  | none => .fail
theorem d_AL (g_AM : t16GN2) (x0 : Int) (x1 : Int) (x2 : Bool) : den Try.prog (envOf [(30, F_AM g_AM)]) ⟨[], [], [], [], none⟩ 200 56 [.r (.c (.ptr 0 (.k 0) 1)), rI x0, rI x1] [[.c (.f (.b x2))]] = K_AL g_AM x0 x1 x2 (fun (d : Int ×
 Bool) => some (Res.mk (rI d.1) [Ch.set [sB d.2]] [])) := by kernel_rfl
theorem m_AL {ρ σ : Type} (q : ρ → Option σ) (g_AM : t16GN2)   (x0 : Int) (x1 : Int) (x2 : Bool) (k : (Int × Bool) → Option ρ) : (K_AL g_AM  x0 x1 x2 k).bind q = K_AL g_AM  x0 x1 x2 (fun d => (k d).bind q) := by
  simp only [K_AL, bnd_cond, bnd_bind, bnd_none, bnd_sum]
theorem qa_AL : ∀ b, (QA_AL).em b = ([.r (.c (.ptr 0 (.k 0) 1)), rI b.1.2.1, rI b.1.2.2.1], [[.c (.f (.b b.2.1.1))]]) := fun b => by kernel_rfl
theorem e_AL {f : (Int) → (Int) → (Bool) → Option (Int × Bool)} {args : List AV} {h : List Blk} {r : Res} (hr : (F_AL f args h).eval = some r) : ∃ x0 x1 x2, args = [.r (.c (.ptr 0 (.k 0) 1)), rI x0, rI x1] ∧ h = [[.c (.f (.b x2))]] ∧ (f x0 x1 x2).bind (fun (d : Int × Bool) => some (Res.mk (rI d.1) [Ch.set [sB d.2]] [])) = some r := by
  unfold F_AL at hr
  split at hr
  · rename_i b hb
    have e := ((QA_AL).ok _ _ hb).trans (qa_AL b)
    rw [opt_eval2] at hr
    exact ⟨b.1.2.1, b.1.2.2.1, b.2.1.1, (Prod.mk.inj e).1, (Prod.mk.inj e).2, hr⟩
  · cases hr
theorem n_AL {σ : Type} (q : (Int × Bool) → Option σ) (x0 : Int) (x1 : Int) (x2 : Bool) : (f_AL x0 x1 x2).bind q = K_AL f_AM  x0 x1 x2 q := by
  unfold f_AL
  exact m_AL q f_AM   x0 x1 x2 some
theorem s_AL [Amb] : Sound Try.prog 56 (F_AL f_AL) := (inl_sound (l := [(30, F_AM f_AM)]) (.cons s_AM (.nil _)) mixed [] [] 200 (by kernel_rfl)).by (F := F_AL f_AL) fun args b r hr => by
  obtain ⟨x0, x1, x2, rfl, rfl, hr1⟩ := e_AL hr
  exact inl_eval ((d_AL f_AM  x0 x1 x2).trans ((n_AL (fun (d : Int × Bool) => some (Res.mk (rI d.1) [Ch.set [sB d.2]] [])) x0 x1 x2).symm.trans hr1))

def K_Ao {ρ : Type} (x0 : Int) (k : (Int × Int) → Option ρ) : Option ρ := k (Int.fdiv x0 9223372036854775808, IntKind.wrap .u64 x0)
def f_Ao (x0 : Int) : Option (Int × Int) := K_Ao   x0 some
section
open Go.Ab.Rdr
def QA_Ao := ((pair (cons (ar (rc (cf (fi .i64 hole)))) nil) nil) : Rdr (List AV × List Blk) _)
end
def F_Ao (f : (Int) → Option (Int × Int)) : Sem1 := fun args h => match (QA_Ao).rd (args, h) with
  | some b => .opt (f b.1.1) fun (d : Int × Int) => .leaf (Res.mk (AV.r (RV.agg [sI d.1, sU d.2])) [] [])
  | none => .fail
theorem d_Ao (x0 : Int) : den Try.prog (envOf []) ⟨[], [], [], [], none⟩ 200 62 [rI x0] [] = K_Ao x0 (fun (d : Int × Int) => some (Res.mk (AV.r (RV.agg [sI d.1, sU d.2])) [] [])) := by kernel_rfl
theorem m_Ao {ρ σ : Type} (q : ρ → Option σ)    (x0 : Int) (k : (Int × Int) → Option ρ) : (K_Ao   x0 k).bind q = K_Ao   x0 (fun d => (k d).bind q) := by
  simp only [K_Ao, bnd_cond, bnd_bind, bnd_none, bnd_sum]
theorem qa_Ao : ∀ b, (QA_Ao).em b = ([rI b.1.1], []) := fun b => by kernel_rfl
theorem e_Ao {f : (Int) → Option (Int × Int)} {args : List AV} {h : List Blk} {r : Res} (hr : (F_Ao f args h).eval = some r) : ∃ x0, args = [rI x0] ∧ h = [] ∧ (f x0).bind (fun (d : Int × Int) => some (Res.mk (AV.r (RV.agg [sI d.1, sU d.2])) [] [])) = some r := by
  unfold F_Ao at hr
  split at hr
  · rename_i b hb
    have e := ((QA_Ao).ok _ _ hb).trans (qa_Ao b)
    rw [opt_eval2] at hr
    exact ⟨b.1.1, (Prod.mk.inj e).1, (Prod.mk.inj e).2, hr⟩
  · cases hr
theorem n_Ao {σ : Type} (q : (Int × Int) → Option σ) (x0 : Int) : (f_Ao x0).bind q = K_Ao   x0 q := by
  unfold f_Ao
  exact m_Ao q    x0 some
theorem s_Ao [Amb] : Sound Try.prog 62 (F_Ao f_Ao) := (inl_sound (l := []) (.nil _) mixed [] [] 200 (by kernel_rfl)).by (F := F_Ao f_Ao) fun args b r hr => by
  obtain ⟨x0, rfl, rfl, hr1⟩ := e_Ao hr
  exact inl_eval ((d_Ao   x0).trans ((n_Ao (fun (d : Int × Int) => some (Res.mk (AV.r (RV.agg [sI d.1, sU d.2])) [] [])) x0).symm.trans hr1))

def K_Aj {ρ : Type} (g_Add64 : C3) (x0 : Int) (x1 : Int) (x2 : Int) (x3 : Int) (k : (Int × Int × Bool) → Option ρ) : Option ρ := Option.bind (g_Add64 x1 x3 0) fun (d : Int × Int) => Option.bind (g_Add64 (IntKind.wrap .u64 x0) (IntKind.wrap .u64 x2) d.2) fun (d_1 : Int × Int) => bif !decide (x0 < 0) == decide (x2 < 0) then
 k (IntKind.wrap .i64 d_1.1, d.1, true) else k (IntKind.wrap .i64 d_1.1, d.1, decide (IntKind.wrap .i64 d_1.1 < 0) == decide (x0 < 0))
def f_Aj (x0 : Int) (x1 : Int) (x2 : Int) (x3 : Int) : Option (Int × Int × Bool) := K_Aj f_Add64  x0 x1 x2 x3 some
section
open Go.Ab.Rdr
def QA_Aj := ((pair (cons (ar (ra (cons (gc (cf (fi .i64 hole))) (cons (gc (cf (fi .u64 hole))) nil)))) (cons (ar (ra (cons (gc (cf (fi .i64 hole))) (cons (gc (cf (fi .u64 hole))) nil)))) nil)) nil) : Rdr (List AV × List Blk) _)
end
def F_Aj (f : (Int) → (Int) → (Int) → (Int) → Option (Int × Int × Bool)) : Sem1 := fun args h => match (QA_Aj).rd (args, h) with
  | some b => .opt (f b.1.1.1 b.1.1.2.1 b.1.2.1.1 b.1.2.1.2.1) fun (d : Int × Int × Bool) => .leaf (Res.mk (AV.tup [RV.agg [sI d.1, sU d.2.1], RV.c (CV.f (FV.b d.2.2))]) [] [])
  | none => .fail
theorem d_Aj (g_Add64 : C3) (x0 : Int) (x1 : Int) (x2 : Int) (x3 : Int) : den Try.prog (envOf [(91, F_carry g_Add64)]) ⟨[], [], [], [], none⟩ 200 81 [.r (.agg [.c (.f (.i .i64 x0)), .c (.f (.i .u64 x1))]), .r (.agg [.c (.f (.i .i64 x2)), .c (.f (.i .u64 x3))])] [] = K_Aj g_Add64 x0 x1 x2 x3 (fun (d : Int ×
 Int × Bool) => some (Res.mk (AV.tup [RV.agg [sI d.1, sU d.2.1], RV.c (CV.f (FV.b d.2.2))]) [] [])) := by kernel_rfl
theorem m_Aj {ρ σ : Type} (q : ρ → Option σ) (g_Add64 : C3)   (x0 : Int) (x1 : Int) (x2 : Int) (x3 : Int) (k : (Int × Int × Bool) → Option ρ) : (K_Aj g_Add64  x0 x1 x2 x3 k).bind q = K_Aj g_Add64  x0 x1 x2 x3 (fun d => (k d).bind q) := by
  simp only [K_Aj, bnd_cond, bnd_bind, bnd_none, bnd_sum]
theorem qa_Aj : ∀ b, (QA_Aj).em b = ([.r (.agg [.c (.f (.i .i64 b.1.1.1)), .c (.f (.i .u64 b.1.1.2.1))]), .r (.agg [.c (.f (.i .i64 b.1.2.1.1)), .c (.f (.i .u64 b.1.2.1.2.1))])], []) := fun b => by kernel_rfl
theorem e_Aj {f : (Int) → (Int) → (Int) → (Int) → Option (Int × Int × Bool)} {args : List AV} {h : List Blk} {r : Res} (hr : (F_Aj f args h).eval = some r) : ∃ x0 x1 x2 x3, args = [.r (.agg [.c (.f (.i .i64 x0)), .c (.f (.i .u64 x1))]), .r (.agg [.c (.f (.i .i64 x2)), .c (.f (.i .u64 x3))])] ∧ h = [] ∧ (f x0 x1 x2 x3).bind (fun (d : Int × Int × Bool) => some (Res.mk (AV.tup [RV.agg [sI d.1, sU d.2.1], RV.c (CV.f (FV.b d.2.2))]) [] [])) = some r := by
  unfold F_Aj at hr
  split at hr
  · rename_i b hb
    have e := ((QA_Aj).ok _ _ hb).trans (qa_Aj b)
    rw [opt_eval2] at hr
    exact ⟨b.1.1.1, b.1.1.2.1, b.1.2.1.1, b.1.2.1.2.1, (Prod.mk.inj e).1, (Prod.mk.inj e).2, hr⟩
  · cases hr
theorem n_Aj {σ : Type} (q : (Int × Int × Bool) → Option σ) (x0 : Int) (x1 : Int) (x2 : Int) (x3 : Int) : (f_Aj x0 x1 x2 x3).bind q = K_Aj f_Add64  x0 x1 x2 x3 q := by
  unfold f_Aj
  exact m_Aj q f_Add64   x0 x1 x2 x3 some
theorem s_Aj [Amb] : Sound Try.prog 81 (F_Aj f_Aj) := (inl_sound (l := [(91, F_carry f_Add64)]) (.cons s_Add64 (.nil _)) mixed [] [] 200 (by kernel_rfl)).by (F := F_Aj f_Aj) fun args b r hr => by
  obtain ⟨x0, x1, x2, x3, rfl, rfl, hr1⟩ := e_Aj hr
  exact inl_eval ((d_Aj f_Add64  x0 x1 x2 x3).trans ((n_Aj (fun (d : Int × Int × Bool) => some (Res.mk (AV.tup [RV.agg [sI d.1, sU d.2.1], RV.c (CV.f (FV.b d.2.2))]) [] [])) x0 x1 x2 x3).symm.trans hr1))

def S_AC_0 {ρ : Type} (g_Aj : t25GN2) (x0 : Nat) (x1 : Bool) (x2 : Int) (x3 : Int) (x4 : Nat) (x5 : Nat → Int) (x6 : Nat → Int) (x7 : Int) (x8 : Int) (c : (Nat × Bool × Int × Int × Nat × NI × NI × Int × Int) → Option ρ) (x : (Nat × NI ×
 NI ⊕ Nat × Bool × Int × Int × Bool × Nat × NI × NI × Int × Int) → Option ρ) : Option ρ := bif decide (x3 < x2) then bif inR x3 x0 then Option.bind (g_Aj x7 x8 (x5 (Int.toNat x3)) (x6 (Int.toNat x3))) fun (d : Int × Int × Bool) => bif !d.2.2 then x (Sum.inl (x4, x5, x6)) else
 c (x0, x1, x2, IntKind.wrap .i64 (x3 + 1), x4, x5, x6, d.1, d.2.1) else none else x (Sum.inr (x0, x1, x2, x3, decide (x3 < x2), x4, x5, x6, x7, x8))
section
open Go.Ab.Rdr
def Q_AC_0 := (st (cons aund (cons aund (cons (ar (rc (cptr (nat 1) (ok' (nat 0)) (nat 2)))) (cons aund (cons (ar (rc (cptr (nat 2) (ok' (nat 0)) (nat 2)))) (cons aund (cons aund (cons aund (cons aund (cons (ar (rc (csl (nat 0) (ok' (nat 0)) (szs hole) (nat 2) hole))) (cons (ar (rc (cf (fi .i64 hole)))) (cons (ar (rc (cf (fi .i64 hole)))) (cons aund (cons aund (cons aund (cons aund (cons aund (cons aund (cons aund (cons aund (cons aund (cons aund (cons aund (cons aund (cons aund (cons aund (cons aund nil))))))))))))))))))))))))))) (cons (some' (cons (ga (szs hole) (cons (ki .i64 hole) (cons (ki .u64 hole) nil))) nil)) (cons (some' (cons (gc (cf (fi .i64 (int 0)))) (cons (gc (cf (fi .u64 (int 0)))) nil))) (cons (some' (cons (gc (cf (fi .i64 hole))) (cons (gc (cf (fi .u64 hole))) nil))) nil))) nil)
end
theorem q_AC_0 : ∀ b, (Q_AC_0).em b = St.mk [un, un, AV.r (RV.c (CV.ptr 1 (Off.k 0) 2)), un, AV.r (RV.c (CV.ptr 2 (Off.k 0) 2)), un, un, un, un, AV.r (RV.c (CV.sl 0 (Off.k 0) (Sz.s b.1.c8.2.1.2.2.1) 2 b.1.c8.2.1.c4)), rI b.1.c8.2.2.1,
 rI b.1.c8.2.2.2.1, un, un, un, un, un, un, un, un, un, un, un, un, un, un, un] [some [Sg.a (Sz.s b.2.1.1.1.1) [kI b.2.1.1.1.2.1, Col.i .u64 b.2.1.1.1.2.2.1]], some [sI 0,
 sU 0], some [sI b.2.1.2.2.1.1, sU b.2.1.2.2.1.2.1]] [] := fun b => by kernel_rfl
def R_AC_0 (l : ∀ {ρ : Type}, (Nat × Bool × Int × Int × Nat × NI × NI × Int × Int) → ((Nat × NI × NI ⊕ Nat × Bool × Int × Int × Bool × Nat × NI × NI × Int × Int) → Option ρ) → Option ρ) {ρ : Type} (s : St) (K : AX → St → Option ρ) : Option ρ := ((Q_AC_0).rd s).bind fun b => l (b.1.c8.2.1.2.2.1,
 b.1.c8.2.1.c4, b.1.c8.2.2.1, b.1.c8.2.2.2.1, b.2.1.1.1.1, b.2.1.1.1.2.1, b.2.1.1.1.2.2.1, b.2.1.2.2.1.1, b.2.1.2.2.1.2.1) (Sum.elim (fun d => K (AX.ret) (St.mk [un, un, AV.r (RV.c (CV.ptr 1 (Off.k 0) 2)), rB false, un, un,
 un, un, un, un, un, un, un, un, un, un, un, un, un, un, un, un, un, un, un, un, un] [some [Sg.a (Sz.s d.1) [kI d.2.1, Col.i .u64 d.2.2]], some [sI 0, sU 0]] [])) (fun d => K (AX.ex 0) (St.mk [un,
 un, AV.r (RV.c (CV.ptr 1 (Off.k 0) 2)), un, AV.r (RV.c (CV.ptr 2 (Off.k 0) 2)), un, un, un, un, AV.r (RV.c (CV.sl 0 (Off.k 0) (Sz.s d.1) 2 d.2.1)), rI d.2.2.1, rI d.2.2.2.1, rB d.c4.1,
 un, un, un, un, un, un, un, un, un, un, un, un, un, un] [some [Sg.a (Sz.s d.c4.2.1) [kI d.c4.2.2.1, Col.i .u64 d.c4.2.2.2.1]], some [sI 0, sU 0], some [sI d.c8.1,
 sU d.c8.2]] [])))
theorem ms_AC_0 {ρ σ : Type} (g_Aj : t25GN2)   (q : ρ → Option σ) (x0 : Nat) (x1 : Bool) (x2 : Int) (x3 : Int) (x4 : Nat) (x5 : Nat → Int) (x6 : Nat → Int) (x7 : Int) (x8 : Int) (c : (Nat × Bool × Int × Int × Nat × NI × NI × Int × Int) → Option ρ) (x : (Nat × NI × NI ⊕ Nat × Bool × Int × Int × Bool × Nat × NI × NI × Int × Int) → Option ρ) : (S_AC_0 g_Aj  x0 x1 x2 x3 x4 x5 x6 x7 x8 c x).bind q = S_AC_0 g_Aj  x0 x1 x2 x3 x4 x5 x6 x7 x8 (fun d => (c d).bind q) (fun d => (x d).bind q) := by
  simp only [S_AC_0, bnd_cond, bnd_bind, bnd_none, bnd_sum]
def L_AC_0 {ρ : Type} (d : Nat × Bool × Int × Int × Nat × NI × NI × Int × Int) (k : (Nat × NI × NI ⊕ Nat × Bool × Int × Int × Bool × Nat × NI × NI × Int × Int) → Option ρ) : Option ρ := loopK (fun d c x => S_AC_0 f_Aj  d.1 d.2.1 d.2.2.1 d.2.2.2.1 d.c4.1 d.c4.2.1 d.c4.2.2.1 d.c4.2.2.2.1 d.c8 c x) 200 d k
theorem mL_AC_0 {ρ σ : Type} (q : ρ → Option σ) (d : Nat × Bool × Int × Int × Nat × NI × NI × Int × Int) (k : (Nat × NI × NI ⊕ Nat × Bool × Int × Int × Bool × Nat × NI × NI × Int × Int) → Option ρ) : (L_AC_0 d k).bind q = L_AC_0 d fun x => (k x).bind q := loopK_bind q (fun d c x => ms_AC_0 f_Aj q d.1 d.2.1 d.2.2.1 d.2.2.2.1 d.c4.1 d.c4.2.1 d.c4.2.2.1 d.c4.2.2.2.1 d.c8 c x) k _ d
theorem ds_AC_0 {ρ : Type} (g_Aj : t25GN2) (l_0 : ∀ {ρ : Type}, (Nat × Bool × Int × Int × Nat × NI × NI × Int × Int) → ((Nat × NI × NI ⊕ Nat × Bool × Int × Int × Bool × Nat × NI × NI × Int × Int) → Option ρ) →
 Option ρ) (x0 : Nat) (x1 : Bool) (x2 : Int) (x3 : Int) (x4 : Nat) (x5 : Nat → Int) (x6 : Nat → Int) (x7 : Int) (x8 : Int) (c : St → Option ρ) (K : AX → St → Option ρ) : runC Try.prog (envOf [(81, F_Aj g_Aj)]) ⟨[⟨3, u2GN2, []⟩],
 [⟨3, 1, @R_AC_0 (@l_0)⟩], [], [], (some ⟨0, u3GN2, []⟩)⟩ (tmpsOf Try.prog 61) 1 200 (loopIn Try.prog 61 3) (St.mk [un, un, AV.r (RV.c (CV.ptr 1 (Off.k 0) 2)), un, AV.r (RV.c (CV.ptr 2 (Off.k 0) 2)), un,
 un, un, un, AV.r (RV.c (CV.sl 0 (Off.k 0) (Sz.s x0) 2 x1)), rI x2, rI x3, un, un, un, un, un, un, un, un, un, un, un, un, un, un, un] [some [Sg.a (Sz.s x4) [kI x5,
 Col.i .u64 x6]], some [sI 0, sU 0], some [sI x7, sU x8]] []) (next (fun t => t.head 1 ⟨[⟨3, u2GN2, []⟩], [⟨3,
 1, @R_AC_0 (@l_0)⟩], [], [], (some ⟨0, u3GN2, []⟩)⟩ (loopIn Try.prog 61 3)) c K) = S_AC_0 g_Aj x0 x1 x2 x3 x4 x5 x6 x7 x8 (fun d => c (St.mk [un, un, AV.r (RV.c (CV.ptr 1 (Off.k 0) 2)), un, AV.r (RV.c (CV.ptr 2 (Off.k 0) 2)),
 un, un, un, un, AV.r (RV.c (CV.sl 0 (Off.k 0) (Sz.s d.1) 2 d.2.1)), rI d.2.2.1, rI d.2.2.2.1, un, un, un, un, un, un, un, un, un, un, un, un, un, un, un] [some [Sg.a (Sz.s d.c4.1) [kI d.c4.2.1,
 Col.i .u64 d.c4.2.2.1]], some [sI 0, sU 0], some [sI d.c4.2.2.2.1, sU d.c8]] [])) (Sum.elim (fun d => K (AX.ret) (St.mk [un, un, AV.r (RV.c (CV.ptr 1 (Off.k 0) 2)),
 rB false, un, un, un, un, un, un, un, un, un, un, un, un, un, un, un, un, un, un, un, un, un, un, un] [some [Sg.a (Sz.s d.1) [kI d.2.1, Col.i .u64 d.2.2]], some [sI 0,
 sU 0]] [])) (fun d => K (AX.ex 0) (St.mk [un, un, AV.r (RV.c (CV.ptr 1 (Off.k 0) 2)), un, AV.r (RV.c (CV.ptr 2 (Off.k 0) 2)), un, un, un, un, AV.r (RV.c (CV.sl 0 (Off.k 0) (Sz.s d.1) 2 d.2.1)), rI d.2.2.1, rI d.2.2.2.1,
 rB d.c4.1, un, un, un, un, un, un, un, un, un, un, un, un, un, un] [some [Sg.a (Sz.s d.c4.2.1) [kI d.c4.2.2.1, Col.i .u64 d.c4.2.2.2.1]], some [sI 0, sU 0],
 some [sI d.c8.1, sU d.c8.2]] []))) := by kernel_rfl
theorem it_AC_0 {ρ : Type} (x0 : Nat) (x1 : Bool) (x2 : Int) (x3 : Int) (x4 : Nat) (x5 : Nat → Int) (x6 : Nat → Int) (x7 : Int) (x8 : Int) (K : AX → St → Option ρ) : iter (fun t => t.head 1 ⟨[⟨3, u2GN2, []⟩], [⟨3, 1, @R_AC_0 (@L_AC_0)⟩],
 [], [], (some ⟨0, u3GN2, []⟩)⟩ (loopIn Try.prog 61 3)) (runC Try.prog (envOf [(81, F_Aj f_Aj)]) ⟨[⟨3, u2GN2, []⟩], [⟨3, 1, @R_AC_0 (@L_AC_0)⟩],
 [], [], (some ⟨0, u3GN2, []⟩)⟩ (tmpsOf Try.prog 61) 1 200 (loopIn Try.prog 61 3)) K 200 (St.mk [un, un, AV.r (RV.c (CV.ptr 1 (Off.k 0) 2)), un, AV.r (RV.c (CV.ptr 2 (Off.k 0) 2)), un, un, un,
 un, AV.r (RV.c (CV.sl 0 (Off.k 0) (Sz.s x0) 2 x1)), rI x2, rI x3, un, un, un, un, un, un, un, un, un, un, un, un, un, un, un] [some [Sg.a (Sz.s x4) [kI x5,
 Col.i .u64 x6]], some [sI 0, sU 0], some [sI x7, sU x8]] []) = L_AC_0 (x0, x1, x2, x3, x4, x5, x6, x7, x8) (Sum.elim (fun d => K (AX.ret) (St.mk [un, un, AV.r (RV.c (CV.ptr 1 (Off.k 0) 2)),
 rB false, un, un, un, un, un, un, un, un, un, un, un, un, un, un, un, un, un, un, un, un, un, un, un] [some [Sg.a (Sz.s d.1) [kI d.2.1, Col.i .u64 d.2.2]], some [sI 0,
 sU 0]] [])) (fun d => K (AX.ex 0) (St.mk [un, un, AV.r (RV.c (CV.ptr 1 (Off.k 0) 2)), un, AV.r (RV.c (CV.ptr 2 (Off.k 0) 2)), un, un, un, un, AV.r (RV.c (CV.sl 0 (Off.k 0) (Sz.s d.1) 2 d.2.1)), rI d.2.2.1, rI d.2.2.2.1,
 rB d.c4.1, un, un, un, un, un, un, un, un, un, un, un, un, un, un] [some [Sg.a (Sz.s d.c4.2.1) [kI d.c4.2.2.1, Col.i .u64 d.c4.2.2.2.1]], some [sI 0, sU 0],
 some [sI d.c8.1, sU d.c8.2]] []))) := iter_loopX (emb := fun (d : Nat × Bool × Int × Int × Nat × NI × NI × Int × Int) => St.mk [un, un, AV.r (RV.c (CV.ptr 1 (Off.k 0) 2)), un, AV.r (RV.c (CV.ptr 2 (Off.k 0) 2)),
 un, un, un, un, AV.r (RV.c (CV.sl 0 (Off.k 0) (Sz.s d.1) 2 d.2.1)), rI d.2.2.1, rI d.2.2.2.1, un, un, un, un, un, un, un, un, un, un, un, un, un, un, un] [some [Sg.a (Sz.s d.c4.1) [kI d.c4.2.1,
 Col.i .u64 d.c4.2.2.1]], some [sI 0, sU 0], some [sI d.c4.2.2.2.1, sU d.c8]] []) (step := fun d c x => S_AC_0 f_Aj d.1 d.2.1 d.2.2.1 d.2.2.2.1 d.c4.1 d.c4.2.1 d.c4.2.2.1 d.c4.2.2.2.1 d.c8 c x) (kx := (Sum.elim (fun d => K (AX.ret) (St.mk [un,
 un, AV.r (RV.c (CV.ptr 1 (Off.k 0) 2)), rB false, un, un, un, un, un, un, un, un, un, un, un, un, un, un, un, un, un, un, un, un, un, un, un] [some [Sg.a (Sz.s d.1) [kI d.2.1,
 Col.i .u64 d.2.2]], some [sI 0, sU 0]] [])) (fun d => K (AX.ex 0) (St.mk [un, un, AV.r (RV.c (CV.ptr 1 (Off.k 0) 2)), un, AV.r (RV.c (CV.ptr 2 (Off.k 0) 2)), un, un, un, un, AV.r (RV.c (CV.sl 0 (Off.k 0) (Sz.s d.1) 2 d.2.1)),
 rI d.2.2.1, rI d.2.2.2.1, rB d.c4.1, un, un, un, un, un, un, un, un, un, un, un, un, un, un] [some [Sg.a (Sz.s d.c4.2.1) [kI d.c4.2.2.1,
 Col.i .u64 d.c4.2.2.2.1]], some [sI 0, sU 0], some [sI d.c8.1, sU d.c8.2]] [])))) (fun d c => ds_AC_0 f_Aj (@L_AC_0) d.1 d.2.1 d.2.2.1 d.2.2.2.1 d.c4.1 d.c4.2.1 d.c4.2.2.1 d.c4.2.2.2.1 d.c8 c K) 200 (x0,
 x1, x2, x3, x4, x5, x6, x7, x8)
theorem so_AC_0 [Amb] : ∀ kk, SumOK Try.prog (envOf [(81, F_Aj f_Aj)]) ⟨[⟨3, u2GN2, []⟩], [⟨3, 1, @R_AC_0 (@L_AC_0)⟩], [], [], (some ⟨0, u3GN2, []⟩)⟩ (tmpsOf Try.prog 61) kk 200 (loopIn Try.prog 61 3) := SumOK.of (id := 3) (k0 := 1) (run := @R_AC_0 (@L_AC_0)) (by kernel_rfl) fun s K r hr => by
    unfold R_AC_0 at hr
    obtain ⟨b, hb, hr1⟩ := Option.bind_eq_some_iff.1 hr
    have e := ((Q_AC_0).ok s b hb).trans (q_AC_0 b)
    subst e
    exact ⟨200, (it_AC_0 b.1.c8.2.1.2.2.1 b.1.c8.2.1.c4 b.1.c8.2.2.1 b.1.c8.2.2.2.1 b.2.1.1.1.1 b.2.1.1.1.2.1 b.2.1.1.1.2.2.1 b.2.1.2.2.1.1 b.2.1.2.2.1.2.1 K).trans hr1⟩
def K_AC {ρ : Type} (g_Aj : t25GN2) (l_0 : ∀ {ρ : Type}, (Nat × Bool × Int × Int × Nat × NI × NI × Int × Int) → ((Nat × NI × NI ⊕ Nat × Bool × Int × Int × Bool × Nat × NI × NI × Int × Int) → Option ρ) → Option ρ) (x0 : Nat) (x1 : Nat →
 Int) (x2 : Nat → Int) (w0 : Bool) (k : (Int × Int × Bool) → Option ρ) : Option ρ := l_0 (x0, w0, Int.ofNat x0, 0, x0, x1, x2, 0, 0) (Sum.elim (fun (d : Nat × NI × NI) => k (0, 0, false)) fun (d : Nat × Bool × Int × Int × Bool × Nat × NI × NI × Int × Int) => k (d.c8.1,
 d.c8.2, true))
def f_AC (x0 : Nat) (x1 : Nat → Int) (x2 : Nat → Int) (w0 : Bool) : Option (Int × Int × Bool) := K_AC f_Aj (@L_AC_0) x0 x1 x2 w0 some
section
open Go.Ab.Rdr
def QA_AC := ((pair (cons (ar (rc (csl (nat 0) (ok' (nat 0)) (szs hole) (nat 2) hole))) nil) (cons (cons (ga (szs hole) (cons (ki .i64 hole) (cons (ki .u64 hole) nil))) nil) nil)) : Rdr (List AV × List Blk) _)
end
def F0_AC (f : (Nat) → NI → NI → (Bool) → Option (Int × Int × Bool)) : Sem1 := fun args h => match (QA_AC).rd (args, h) with
  | some b => .test (Nat.beq b.2.1.1.1 b.1.1.2.2.1) (.opt (f b.1.1.2.2.1 b.2.1.1.2.1 b.2.1.1.2.2.1 b.1.1.c4) fun (d : Int × Int × Bool) => .leaf (Res.mk (AV.tup [RV.agg [sI d.1, sU d.2.1], RV.c (CV.f (FV.b d.2.2))]) [Ch.keep] [])) .fail
  | none => .fail
def F_AC (f : (Nat) → NI → NI → (Bool) → Option (Int × Int × Bool)) : Sem1 := (nilF 0 [.i .i64, .i .u64] (F0_AC f))
theorem d_AC (g_Aj : t25GN2) (l_0 : ∀ {ρ : Type}, (Nat × Bool × Int × Int × Nat × NI × NI × Int × Int) → ((Nat × NI × NI ⊕ Nat × Bool × Int × Int × Bool × Nat × NI × NI × Int × Int) → Option ρ) → Option ρ) (x0 : Nat) (x1 : Nat →
 Int) (x2 : Nat → Int) (w0 : Bool) : den Try.prog (envOf [(81, F_Aj g_Aj)]) ⟨[⟨3, u2GN2, []⟩], [⟨3, 1, @R_AC_0 (@l_0)⟩], [], [], (some ⟨0, u3GN2, []⟩)⟩ 200 61 [.r (.c (.sl 0 (.k 0) (.s x0) 2 w0))] [[.a (.s x0) [.i .i64 x1, .i .u64 x2]]] = K_AC g_Aj (@l_0) x0 x1 x2 w0 (fun (d : Int × Int × Bool) => some (Res.mk (AV.tup [RV.agg [sI d.1, sU d.2.1], RV.c (CV.f (FV.b d.2.2))]) [Ch.keep] [])) := by kernel_rfl
theorem m_AC {ρ σ : Type} (q : ρ → Option σ) (g_Aj : t25GN2) (l_0 : ∀ {ρ : Type}, (Nat × Bool × Int × Int × Nat × NI × NI × Int × Int) → ((Nat × NI × NI ⊕ Nat × Bool × Int × Int × Bool × Nat × NI × NI × Int × Int) → Option ρ) → Option ρ) (hl_0 : ∀ {ρ σ : Type} (q : ρ → Option σ) (d : Nat × Bool × Int × Int × Nat × NI × NI × Int × Int) (k : (Nat × NI × NI ⊕ Nat × Bool × Int × Int × Bool × Nat × NI × NI × Int × Int) → Option ρ), (l_0 d k).bind q = l_0 d fun x => (k x).bind q) (x0 : Nat) (x1 : Nat → Int) (x2 : Nat → Int) (w0 : Bool) (k : (Int × Int × Bool) → Option ρ) : (K_AC g_Aj (@l_0) x0 x1 x2 w0 k).bind q = K_AC g_Aj (@l_0) x0 x1 x2 w0 (fun d => (k d).bind q) := by
  simp only [K_AC, bnd_cond, bnd_bind, bnd_none, bnd_sum, hl_0]
theorem qa_AC : ∀ b, (QA_AC).em b = ([.r (.c (.sl 0 (.k 0) (.s b.1.1.2.2.1) 2 b.1.1.c4))], [[.a (.s b.2.1.1.1) [.i .i64 b.2.1.1.2.1, .i .u64 b.2.1.1.2.2.1]]]) := fun b => by kernel_rfl
theorem e_AC {f : (Nat) → NI → NI → (Bool) → Option (Int × Int × Bool)} {args : List AV} {h : List Blk} {r : Res} (hr : (F0_AC f args h).eval = some r) : ∃ x0 x1 x2 w0, args = [.r (.c (.sl 0 (.k 0) (.s x0) 2 w0))] ∧ h = [[.a (.s x0) [.i .i64 x1, .i .u64 x2]]] ∧ (f x0 x1 x2 w0).bind (fun (d : Int × Int × Bool) => some (Res.mk (AV.tup [RV.agg [sI d.1, sU d.2.1], RV.c (CV.f (FV.b d.2.2))]) [Ch.keep] [])) = some r := by
  unfold F0_AC at hr
  split at hr
  · rename_i b hb
    have e := ((QA_AC).ok _ _ hb).trans (qa_AC b)
    obtain ⟨he, hr1⟩ := test_eval hr
    clear hr
    have hr := hr1
    clear hr1
    rw [Nat.eq_of_beq_eq_true he] at e
    clear he
    rw [opt_eval2] at hr
    exact ⟨b.1.1.2.2.1, b.2.1.1.2.1, b.2.1.1.2.2.1, b.1.1.c4, (Prod.mk.inj e).1, (Prod.mk.inj e).2, hr⟩
  · cases hr
theorem n_AC {σ : Type} (q : (Int × Int × Bool) → Option σ) (x0 : Nat) (x1 : Nat → Int) (x2 : Nat → Int) (w0 : Bool) : (f_AC x0 x1 x2 w0).bind q = K_AC f_Aj (@L_AC_0) x0 x1 x2 w0 q := by
  unfold f_AC
  exact m_AC q f_Aj (@L_AC_0) (fun q d k => mL_AC_0 q d k) x0 x1 x2 w0 some
theorem s_AC [Amb] : Sound Try.prog 61 (F_AC f_AC) := Sound.nil 0 [.i .i64, .i .u64] <| (inl_sums (l := [(81, F_Aj f_Aj)]) (.cons s_Aj (.nil _)) mixed (hs := ⟨[⟨3, u2GN2, []⟩], [⟨3, 1, @R_AC_0 (@L_AC_0)⟩], [], [], (some ⟨0, u3GN2, []⟩)⟩) (lf := 200) (Sums.by (l := [loopIn Try.prog 61 3]) (lj := []) (by kernel_rfl) ⟨so_AC_0, trivial⟩ (by kernel_rfl) trivial) (by kernel_rfl)).by (F := F0_AC f_AC) fun args b r hr => by
  obtain ⟨x0, x1, x2, w0, rfl, rfl, hr1⟩ := e_AC hr
  exact inl_eval ((d_AC f_Aj (@L_AC_0) x0 x1 x2 w0).trans ((n_AC (fun (d : Int × Int × Bool) => some (Res.mk (AV.tup [RV.agg [sI d.1, sU d.2.1], RV.c (CV.f (FV.b d.2.2))]) [Ch.keep] [])) x0 x1 x2 w0).symm.trans hr1))

def S_Z_0 {ρ : Type} (g_J : t23GN2) (g_Ao : t26GN2) (g_AC : t27GN2) (g_AU : t21GN2) (g_AK : t22GN2) (x0 : Nat) (x1 : Bool) (x2 : Int) (x3 : Int) (x4 : Bool) (x5 : Nat) (x6 : Nat →
 Int) (x7 : Int) (x8 : Int) (c : (Nat × Bool × Int × Int × Bool × Nat × NI × Int × Int) → Option ρ) (x : (Nat × Bool × Int × Int × Bool × Bool × Nat × NI × Int × Int) → Option ρ) : Option ρ := bif decide (x3 < x2) then bif inR x3 x0 then Option.bind (g_J (x6 (Int.toNat x3)) x4) fun (d : Int ×
 Bool) => Option.bind (g_Ao d.1) fun (d_1 : Int × Int) => Option.bind (g_AC 2 (fun (j : Nat) => bif Nat.beq j 1 then d_1.1 else bif Nat.beq j 0 then x7 else x7) (fun (j : Nat) => bif Nat.beq j 1 then d_1.2 else bif Nat.beq j 0 then x8 else x8) true) fun (d_2 : Int × Int × Bool) => c (x0, x1, x2, IntKind.wrap .i64 (x3 + 1),
 d.2, x5, x6, d_2.1, d_2.2.1) else none else x (x0, x1, x2, x3, decide (x3 < x2), x4, x5, x6, x7, x8)
section
open Go.Ab.Rdr
def Q_Z_0 := (st (cons (ar (rc (cptr (nat 0) (ok' (nat 0)) (nat 1)))) (cons aund (cons aund (cons aund (cons aund (cons (ar (rc (cptr (nat 2) (ok' (nat 0)) (nat 2)))) (cons aund (cons aund (cons aund (cons aund (cons (ar (rc (csl (nat 1) (ok' (nat 0)) (szs hole) (nat 1) hole))) (cons (ar (rc (cf (fi .i64 hole)))) (cons (ar (rc (cf (fi .i64 hole)))) (cons aund (cons aund (cons aund (cons aund (cons aund (cons aund (cons aund (cons aund (cons aund (cons aund (cons aund (cons aund (cons aund (cons aund (cons aund (cons aund (cons aund (cons aund (cons aund (cons aund (cons aund (cons aund (cons aund (cons aund (cons aund (cons aund nil))))))))))))))))))))))))))))))))))))))) (cons (some' (cons (gc (cf (fb hole))) nil)) (cons (some' (cons (ga (szs hole) (cons (ki .i64 hole) nil)) nil)) (cons (some' (cons (gc (cf (fi .i64 hole))) (cons (gc (cf (fi .u64 hole))) nil))) nil))) (cons (nat 0) nil))
end
theorem q_Z_0 : ∀ b, (Q_Z_0).em b = St.mk [AV.r (RV.c (CV.ptr 0 (Off.k 0) 1)), un, un, un, un, AV.r (RV.c (CV.ptr 2 (Off.k 0) 2)), un, un, un, un, AV.r (RV.c (CV.sl 1 (Off.k 0) (Sz.s b.1.c8.2.2.1.2.2.1) 1 b.1.c8.2.2.1.c4)), rI b.1.c8.2.2.2.1,
 rI b.1.c8.c4.1, un, un, un, un, un, un, un, un, un, un, un, un, un, un, un, un, un, un, un, un, un, un, un, un, un, un] [some [sB b.2.1.1.1],
 some [Sg.a (Sz.s b.2.1.2.1.1.1) [kI b.2.1.2.1.1.2.1]], some [sI b.2.1.2.2.1.1, sU b.2.1.2.2.1.2.1]] [0] := fun b => by kernel_rfl
def R_Z_0 (l : ∀ {ρ : Type}, (Nat × Bool × Int × Int × Bool × Nat × NI × Int × Int) → ((Nat × Bool × Int × Int × Bool × Bool × Nat × NI × Int × Int) → Option ρ) → Option ρ) {ρ : Type} (s : St) (K : AX → St → Option ρ) : Option ρ := ((Q_Z_0).rd s).bind fun b => l (b.1.c8.2.2.1.2.2.1,
 b.1.c8.2.2.1.c4, b.1.c8.2.2.2.1, b.1.c8.c4.1, b.2.1.1.1, b.2.1.2.1.1.1, b.2.1.2.1.1.2.1, b.2.1.2.2.1.1, b.2.1.2.2.1.2.1) (fun d => K (AX.ex 0) (St.mk [AV.r (RV.c (CV.ptr 0 (Off.k 0) 1)), un, un, un, un, AV.r (RV.c (CV.ptr 2 (Off.k 0) 2)),
 un, un, un, un, AV.r (RV.c (CV.sl 1 (Off.k 0) (Sz.s d.1) 1 d.2.1)), rI d.2.2.1, rI d.2.2.2.1, rB d.c4.1, un, un, un, un, un, un, un, un, un, un, un,
 un, un, un, un, un, un, un, un, un, un, un, un, un, un] [some [sB d.c4.2.1], some [Sg.a (Sz.s d.c4.2.2.1) [kI d.c4.2.2.2.1]], some [sI d.c8.1, sU d.c8.2]] [0]))
theorem ms_Z_0 {ρ σ : Type} (g_J : t23GN2) (g_Ao : t26GN2) (g_AC : t27GN2) (g_AU : t21GN2) (g_AK : t22GN2)   (q : ρ → Option σ) (x0 : Nat) (x1 : Bool) (x2 : Int) (x3 : Int) (x4 : Bool) (x5 : Nat) (x6 : Nat → Int) (x7 : Int) (x8 : Int) (c : (Nat × Bool × Int × Int × Bool × Nat × NI × Int × Int) → Option ρ) (x : (Nat × Bool × Int × Int × Bool × Bool × Nat × NI × Int × Int) → Option ρ) : (S_Z_0 g_J g_Ao g_AC g_AU g_AK  x0 x1 x2 x3 x4 x5 x6 x7 x8 c x).bind q = S_Z_0 g_J g_Ao g_AC g_AU g_AK  x0 x1 x2 x3 x4 x5 x6 x7 x8 (fun d => (c d).bind q) (fun d => (x d).bind q) := by
  simp only [S_Z_0, bnd_cond, bnd_bind, bnd_none, bnd_sum]
def L_Z_0 {ρ : Type} (d : Nat × Bool × Int × Int × Bool × Nat × NI × Int × Int) (k : (Nat × Bool × Int × Int × Bool × Bool × Nat × NI × Int × Int) → Option ρ) : Option ρ := loopK (fun d c x => S_Z_0 f_J f_Ao f_AC f_AU f_AK  d.1 d.2.1 d.2.2.1 d.2.2.2.1 d.c4.1 d.c4.2.1 d.c4.2.2.1 d.c4.2.2.2.1 d.c8 c x) 200 d k
theorem mL_Z_0 {ρ σ : Type} (q : ρ → Option σ) (d : Nat × Bool × Int × Int × Bool × Nat × NI × Int × Int) (k : (Nat × Bool × Int × Int × Bool × Bool × Nat × NI × Int × Int) → Option ρ) : (L_Z_0 d k).bind q = L_Z_0 d fun x => (k x).bind q := loopK_bind q (fun d c x => ms_Z_0 f_J f_Ao f_AC f_AU f_AK q d.1 d.2.1 d.2.2.1 d.2.2.2.1 d.c4.1 d.c4.2.1 d.c4.2.2.1 d.c4.2.2.2.1 d.c8 c x) k _ d
theorem ds_Z_0 {ρ : Type} (g_J : t23GN2) (g_Ao : t26GN2) (g_AC : t27GN2) (g_AU : t21GN2) (g_AK : t22GN2) (l_0 : ∀ {ρ : Type},
 (Nat × Bool × Int × Int × Bool × Nat × NI × Int × Int) → ((Nat × Bool × Int × Int × Bool × Bool × Nat × NI × Int × Int) → Option ρ) → Option ρ) (x0 : Nat) (x1 : Bool) (x2 : Int) (x3 : Int) (x4 : Bool) (x5 : Nat) (x6 : Nat → Int) (x7 : Int) (x8 : Int) (c : St → Option ρ) (K : AX → St →
 Option ρ) : runC Try.prog (envOf [(52, F_J g_J), (62, F_Ao g_Ao), (61, F_AC g_AC), (63, F_AU g_AU), (64, F_AK g_AK)]) ⟨[⟨3, u4GN2, []⟩], [⟨3, 2, @R_Z_0 (@l_0)⟩], [0], [], (some ⟨0,
 u5GN2, []⟩)⟩ (tmpsOf Try.prog 36) 2 200 (loopIn Try.prog 36 3) (St.mk [AV.r (RV.c (CV.ptr 0 (Off.k 0) 1)), un, un, un, un, AV.r (RV.c (CV.ptr 2 (Off.k 0) 2)),
 un, un, un, un, AV.r (RV.c (CV.sl 1 (Off.k 0) (Sz.s x0) 1 x1)), rI x2, rI x3, un, un, un, un, un, un, un, un, un, un, un, un, un, un, un, un, un, un,
 un, un, un, un, un, un, un, un] [some [sB x4], some [Sg.a (Sz.s x5) [kI x6]], some [sI x7, sU x8]] [0]) (next (fun t => t.head 2 ⟨[⟨3, u4GN2, []⟩], [⟨3, 2, @R_Z_0 (@l_0)⟩], [0], [], (some ⟨0, u5GN2, []⟩)⟩ (loopIn Try.prog 36 3)) c K) = S_Z_0 g_J g_Ao g_AC g_AU g_AK x0 x1 x2 x3 x4 x5 x6 x7 x8 (fun d => c (St.mk [AV.r (RV.c (CV.ptr 0 (Off.k 0) 1)),
 un, un, un, un, AV.r (RV.c (CV.ptr 2 (Off.k 0) 2)), un, un, un, un, AV.r (RV.c (CV.sl 1 (Off.k 0) (Sz.s d.1) 1 d.2.1)), rI d.2.2.1, rI d.2.2.2.1, un, un, un, un, un, un, un,
 un, un, un, un, un, un, un, un, un, un, un, un, un, un, un, un, un, un, un] [some [sB d.c4.1], some [Sg.a (Sz.s d.c4.2.1) [kI d.c4.2.2.1]], some [sI d.c4.2.2.2.1,
 sU d.c8]] [0])) (fun d => K (AX.ex 0) (St.mk [AV.r (RV.c (CV.ptr 0 (Off.k 0) 1)), un, un, un, un, AV.r (RV.c (CV.ptr 2 (Off.k 0) 2)), un, un, un, un, AV.r (RV.c (CV.sl 1 (Off.k 0) (Sz.s d.1) 1 d.2.1)), rI d.2.2.1,
 rI d.2.2.2.1, rB d.c4.1, un, un, un, un, un, un, un, un, un, un, un, un, un, un, un, un, un, un, un, un, un, un, un, un, un] [some [sB d.c4.2.1],
 some [Sg.a (Sz.s d.c4.2.2.1) [kI d.c4.2.2.2.1]], some [sI d.c8.1, sU d.c8.2]] [0])) := by kernel_rfl
theorem it_Z_0 {ρ : Type} (x0 : Nat) (x1 : Bool) (x2 : Int) (x3 : Int) (x4 : Bool) (x5 : Nat) (x6 : Nat → Int) (x7 : Int) (x8 : Int) (K : AX → St → Option ρ) : iter (fun t => t.head 2 ⟨[⟨3, u4GN2, []⟩], [⟨3, 2, @R_Z_0 (@L_Z_0)⟩], [0], [], (some ⟨0, u5GN2, []⟩)⟩ (loopIn Try.prog 36 3)) (runC Try.prog (envOf [(52, F_J f_J), (62, F_Ao f_Ao), (61,
 F_AC f_AC), (63, F_AU f_AU), (64, F_AK f_AK)]) ⟨[⟨3, u4GN2, []⟩], [⟨3, 2, @R_Z_0 (@L_Z_0)⟩], [0], [], (some ⟨0, u5GN2, []⟩)⟩ (tmpsOf Try.prog 36) 2 200 (loopIn Try.prog 36 3)) K 200 (St.mk [AV.r (RV.c (CV.ptr 0 (Off.k 0) 1)), un, un, un, un, AV.r (RV.c (CV.ptr 2 (Off.k 0) 2)), un, un, un, un, AV.r (RV.c (CV.sl 1 (Off.k 0) (Sz.s x0) 1 x1)),
 rI x2, rI x3, un, un, un, un, un, un, un, un, un, un, un, un, un, un, un, un, un, un, un, un, un, un, un, un, un, un] [some [sB x4],
 some [Sg.a (Sz.s x5) [kI x6]], some [sI x7, sU x8]] [0]) = L_Z_0 (x0, x1, x2, x3, x4, x5, x6, x7, x8) (fun d => K (AX.ex 0) (St.mk [AV.r (RV.c (CV.ptr 0 (Off.k 0) 1)), un, un, un, un, AV.r (RV.c (CV.ptr 2 (Off.k 0) 2)),
 un, un, un, un, AV.r (RV.c (CV.sl 1 (Off.k 0) (Sz.s d.1) 1 d.2.1)), rI d.2.2.1, rI d.2.2.2.1, rB d.c4.1, un, un, un, un, un, un, un, un, un, un, un,
 un, un, un, un, un, un, un, un, un, un, un, un, un, un] [some [sB d.c4.2.1], some [Sg.a (Sz.s d.c4.2.2.1) [kI d.c4.2.2.2.1]], some [sI d.c8.1, sU d.c8.2]] [0])) := iter_loopX (emb := fun (d : Nat ×
 Bool × Int × Int × Bool × Nat × NI × Int × Int) => St.mk [AV.r (RV.c (CV.ptr 0 (Off.k 0) 1)), un, un, un, un, AV.r (RV.c (CV.ptr 2 (Off.k 0) 2)), un, un, un, un, AV.r (RV.c (CV.sl 1 (Off.k 0) (Sz.s d.1) 1 d.2.1)), rI d.2.2.1,
 rI d.2.2.2.1, un, un, un, un, un, un, un, un, un, un, un, un, un, un, un, un, un, un, un, un, un, un, un, un, un, un] [some [sB d.c4.1], some [Sg.a (Sz.s d.c4.2.1) [kI d.c4.2.2.1]],
 some [sI d.c4.2.2.2.1, sU d.c8]] [0]) (step := fun d c x => S_Z_0 f_J f_Ao f_AC f_AU f_AK d.1 d.2.1 d.2.2.1 d.2.2.2.1 d.c4.1 d.c4.2.1 d.c4.2.2.1 d.c4.2.2.2.1 d.c8 c x) (kx := (fun d => K (AX.ex 0) (St.mk [AV.r (RV.c (CV.ptr 0 (Off.k 0) 1)),
 un, un, un, un, AV.r (RV.c (CV.ptr 2 (Off.k 0) 2)), un, un, un, un, AV.r (RV.c (CV.sl 1 (Off.k 0) (Sz.s d.1) 1 d.2.1)), rI d.2.2.1, rI d.2.2.2.1, rB d.c4.1, un, un,
 un, un, un, un, un, un, un, un, un, un, un, un, un, un, un, un, un, un, un, un, un, un, un] [some [sB d.c4.2.1], some [Sg.a (Sz.s d.c4.2.2.1) [kI d.c4.2.2.2.1]], some [sI d.c8.1,
 sU d.c8.2]] [0]))) (fun d c => ds_Z_0 f_J f_Ao f_AC f_AU f_AK (@L_Z_0) d.1 d.2.1 d.2.2.1 d.2.2.2.1 d.c4.1 d.c4.2.1 d.c4.2.2.1 d.c4.2.2.2.1 d.c8 c K) 200 (x0, x1, x2, x3, x4, x5, x6, x7, x8)
theorem so_Z_0 [Amb] : ∀ kk, SumOK Try.prog (envOf [(52, F_J f_J), (62, F_Ao f_Ao), (61, F_AC f_AC), (63, F_AU f_AU), (64, F_AK f_AK)]) ⟨[⟨3, u4GN2, []⟩], [⟨3, 2, @R_Z_0 (@L_Z_0)⟩],
 [0], [], (some ⟨0, u5GN2, []⟩)⟩ (tmpsOf Try.prog 36) kk 200 (loopIn Try.prog 36 3) := SumOK.of (id := 3) (k0 := 2) (run := @R_Z_0 (@L_Z_0)) (by kernel_rfl) fun s K r hr => by
    unfold R_Z_0 at hr
    obtain ⟨b, hb, hr1⟩ := Option.bind_eq_some_iff.1 hr
    have e := ((Q_Z_0).ok s b hb).trans (q_Z_0 b)
    subst e
    exact ⟨200, (it_Z_0 b.1.c8.2.2.1.2.2.1 b.1.c8.2.2.1.c4 b.1.c8.2.2.2.1 b.1.c8.c4.1 b.2.1.1.1 b.2.1.2.1.1.1 b.2.1.2.1.1.2.1 b.2.1.2.2.1.1 b.2.1.2.2.1.2.1 K).trans hr1⟩
def K_Z {ρ : Type} (g_J : t23GN2) (g_Ao : t26GN2) (g_AC : t27GN2) (g_AU : t21GN2) (g_AK : t22GN2) (l_0 : ∀ {ρ : Type}, (Nat ×
 Bool × Int × Int × Bool × Nat × NI × Int × Int) → ((Nat × Bool × Int × Int × Bool × Bool × Nat × NI × Int × Int) → Option ρ) → Option ρ) (x0 : Nat) (x1 : Bool) (x2 : Nat → Int) (w0 : Bool) (k : (Int × Bool) → Option ρ) : Option ρ := l_0 (x0, w0, Int.ofNat x0, 0, x1, x0, x2, 0, 0) fun (d : Nat ×
 Bool × Int × Int × Bool × Bool × Nat × NI × Int × Int) => Option.bind (g_AU d.c8.1 d.c8.2 0) fun (d_1 : Int × Bool) => Option.bind (g_AK d_1.1 d_1.2 (decide (d.c8.1 < 0)) d.c4.2.1) fun (d : Int × Bool) => k (d.1, d.2)
def f_Z (x0 : Nat) (x1 : Bool) (x2 : Nat → Int) (w0 : Bool) : Option (Int × Bool) := K_Z f_J f_Ao f_AC f_AU f_AK (@L_Z_0) x0 x1 x2 w0 some
section
open Go.Ab.Rdr
def QA_Z := ((pair (cons (ar (rc (cptr (nat 0) (ok' (nat 0)) (nat 1)))) (cons (ar (rc (csl (nat 1) (ok' (nat 0)) (szs hole) (nat 1) hole))) nil)) (cons (cons (gc (cf (fb hole))) nil) (cons (cons (ga (szs hole) (cons (ki .i64 hole) nil)) nil) nil))) : Rdr (List AV × List Blk) _)
end
def F0_Z (f : (Nat) → (Bool) → NI → (Bool) → Option (Int × Bool)) : Sem1 := fun args h => match (QA_Z).rd (args, h) with
  | some b => .test (Nat.beq b.2.2.1.1.1 b.1.2.1.2.2.1) (.opt (f b.1.2.1.2.2.1 b.2.1.1 b.2.2.1.1.2.1 b.1.2.1.c4) fun (d : Int × Bool) => .leaf (Res.mk (rI d.1) [Ch.set [sB d.2], Ch.keep] [])) .fail
  | none => .fail
def F_Z (f : (Nat) → (Bool) → NI → (Bool) → Option (Int × Bool)) : Sem1 := (nilF 1 [.i .i64] (F0_Z f))
theorem d_Z (g_J : t23GN2) (g_Ao : t26GN2) (g_AC : t27GN2) (g_AU : t21GN2) (g_AK : t22GN2) (l_0 : ∀ {ρ : Type}, (Nat × Bool ×
 Int × Int × Bool × Nat × NI × Int × Int) → ((Nat × Bool × Int × Int × Bool × Bool × Nat × NI × Int × Int) → Option ρ) → Option ρ) (x0 : Nat) (x1 : Bool) (x2 : Nat → Int) (w0 : Bool) : den Try.prog (envOf [(52, F_J g_J), (62, F_Ao g_Ao), (61, F_AC g_AC), (63, F_AU g_AU), (64, F_AK g_AK)]) ⟨[⟨3,
 u4GN2, []⟩], [⟨3, 2, @R_Z_0 (@l_0)⟩], [0], [], (some ⟨0, u5GN2, []⟩)⟩ 200 36 [.r (.c (.ptr 0 (.k 0) 1)), .r (.c (.sl 1 (.k 0) (.s x0) 1 w0))] [[.c (.f (.b x1))], [.a (.s x0) [.i .i64 x2]]] = K_Z g_J g_Ao g_AC g_AU g_AK (@l_0) x0 x1 x2 w0 (fun (d : Int × Bool) => some (Res.mk (rI d.1) [Ch.set [sB d.2],
 Ch.keep] [])) := by kernel_rfl
theorem m_Z {ρ σ : Type} (q : ρ → Option σ) (g_J : t23GN2) (g_Ao : t26GN2) (g_AC : t27GN2) (g_AU : t21GN2) (g_AK : t22GN2) (l_0 : ∀ {ρ : Type}, (Nat × Bool × Int × Int × Bool × Nat × NI × Int × Int) → ((Nat × Bool × Int × Int × Bool × Bool × Nat × NI × Int × Int) → Option ρ) → Option ρ) (hl_0 : ∀ {ρ σ : Type} (q : ρ → Option σ) (d : Nat × Bool × Int × Int × Bool × Nat × NI × Int × Int) (k : (Nat × Bool × Int × Int × Bool × Bool × Nat × NI × Int × Int) → Option ρ), (l_0 d k).bind q = l_0 d fun x => (k x).bind q) (x0 : Nat) (x1 : Bool) (x2 : Nat → Int) (w0 : Bool) (k : (Int × Bool) → Option ρ) : (K_Z g_J g_Ao g_AC g_AU g_AK (@l_0) x0 x1 x2 w0 k).bind q = K_Z g_J g_Ao g_AC g_AU g_AK (@l_0) x0 x1 x2 w0 (fun d => (k d).bind q) := by
  simp only [K_Z, bnd_cond, bnd_bind, bnd_none, bnd_sum, hl_0]
theorem qa_Z : ∀ b, (QA_Z).em b = ([.r (.c (.ptr 0 (.k 0) 1)), .r (.c (.sl 1 (.k 0) (.s b.1.2.1.2.2.1) 1 b.1.2.1.c4))], [[.c (.f (.b b.2.1.1))], [.a (.s b.2.2.1.1.1) [.i .i64 b.2.2.1.1.2.1]]]) := fun b => by kernel_rfl
theorem e_Z {f : (Nat) → (Bool) → NI → (Bool) → Option (Int × Bool)} {args : List AV} {h : List Blk} {r : Res} (hr : (F0_Z f args h).eval = some r) : ∃ x0 x1 x2 w0, args = [.r (.c (.ptr 0 (.k 0) 1)), .r (.c (.sl 1 (.k 0) (.s x0) 1 w0))] ∧ h = [[.c (.f (.b x1))], [.a (.s x0) [.i .i64 x2]]] ∧ (f x0 x1 x2 w0).bind (fun (d : Int × Bool) => some (Res.mk (rI d.1) [Ch.set [sB d.2], Ch.keep] [])) = some r := by
  unfold F0_Z at hr
  split at hr
  · rename_i b hb
    have e := ((QA_Z).ok _ _ hb).trans (qa_Z b)
    obtain ⟨he, hr1⟩ := test_eval hr
    clear hr
    have hr := hr1
    clear hr1
    rw [Nat.eq_of_beq_eq_true he] at e
    clear he
    rw [opt_eval2] at hr
    exact ⟨b.1.2.1.2.2.1, b.2.1.1, b.2.2.1.1.2.1, b.1.2.1.c4, (Prod.mk.inj e).1, (Prod.mk.inj e).2, hr⟩
  · cases hr
theorem n_Z {σ : Type} (q : (Int × Bool) → Option σ) (x0 : Nat) (x1 : Bool) (x2 : Nat → Int) (w0 : Bool) : (f_Z x0 x1 x2 w0).bind q = K_Z f_J f_Ao f_AC f_AU f_AK (@L_Z_0) x0 x1 x2 w0 q := by
  unfold f_Z
  exact m_Z q f_J f_Ao f_AC f_AU f_AK (@L_Z_0) (fun q d k => mL_Z_0 q d k) x0 x1 x2 w0 some
theorem s_Z [Amb] : Sound Try.prog 36 (F_Z f_Z) := Sound.nil 1 [.i .i64] <| (inl_sums (l := [(52, F_J f_J), (62, F_Ao f_Ao), (61, F_AC f_AC), (63, F_AU f_AU), (64, F_AK f_AK)]) (.cons s_J (.cons s_Ao (.cons s_AC (.cons s_AU (.cons s_AK (.nil _)))))) mixed (hs := ⟨[⟨3, u4GN2, []⟩], [⟨3, 2, @R_Z_0 (@L_Z_0)⟩], [0], [], (some ⟨0, u5GN2, []⟩)⟩) (lf := 200) (Sums.by (l := [loopIn Try.prog 36 3]) (lj := []) (by kernel_rfl) ⟨so_Z_0,
 trivial⟩ (by kernel_rfl) trivial) (by kernel_rfl)).by (F := F0_Z f_Z) fun args b r hr => by
  obtain ⟨x0, x1, x2, w0, rfl, rfl, hr1⟩ := e_Z hr
  exact inl_eval ((d_Z f_J f_Ao f_AC f_AU f_AK (@L_Z_0) x0 x1 x2 w0).trans ((n_Z (fun (d : Int × Bool) => some (Res.mk (rI d.1) [Ch.set [sB d.2], Ch.keep] [])) x0 x1 x2 w0).symm.trans hr1))

def S_AD_0 {ρ : Type} (g_AL : t20GN2) (g_Z : t28GN2) (x0 : Int) (x1 : Int) (x2 : Nat) (x3 : Bool) (x4 : Int) (x5 : Int) (x6 : Bool) (x7 : Nat) (x8 : Nat → Int) (c : (Int × Int × Nat × Bool × Int × Int × Bool × Nat × NI) → Option ρ) (x : (Int × Int × Nat × Bool × Int × Int × Bool × Bool × Nat × NI) → Option ρ) : Option ρ := bif decide (x5 < x4) then bif inR x5 x2 then Option.bind (g_AL x0 x1 x6) fun (d : Int × Bool) => Option.bind (g_Z 2 d.2 (fun (j : Nat) => bif Nat.beq j 1 then d.1 else bif Nat.beq j 0 then
 x8 (1 + Int.toNat x5) else x8 (1 + Int.toNat x5)) true) fun (d : Int × Bool) => c (x0, d.1, x2, x3, x4, IntKind.wrap .i64 (x5 + 1), d.2, x7, x8) else none else x (x0, x1, x2, x3, x4, x5, decide (x5 < x4), x6, x7, x8)
section
open Go.Ab.Rdr
def Q_AD_0 := (st (cons (ar (rc (cptr (nat 0) (ok' (nat 0)) (nat 1)))) (cons (ar (rc (cf (fi .i64 hole)))) (cons aund (cons aund (cons aund (cons aund (cons aund (cons (ar (rc (cf (fi .i64 hole)))) (cons aund (cons aund (cons aund (cons aund (cons aund (cons aund (cons (ar (rc (csl (nat 1) (ox (nat 0) (nat 1) (nat 1)) (szs hole) (nat 1) hole))) (cons (ar (rc (cf (fi .i64 hole)))) (cons (ar (rc (cf (fi .i64 hole)))) (cons aund (cons aund (cons aund (cons aund (cons aund (cons aund (cons aund (cons aund (cons aund (cons aund (cons aund (cons aund (cons aund nil)))))))))))))))))))))))))))))) (cons (some' (cons (gc (cf (fb hole))) nil)) (cons (some' (cons (ga (szs hole) (cons (ki .i64 hole) nil)) nil)) nil)) (cons (nat 0) nil))
end
theorem q_AD_0 : ∀ b, (Q_AD_0).em b = St.mk [AV.r (RV.c (CV.ptr 0 (Off.k 0) 1)), rI b.1.2.1, un, un, un, un, un, rI b.1.c4.2.2.2.1, un, un, un, un, un, un, AV.r (RV.c (CV.sl 1 (Off.x 0 1 1) (Sz.s b.1.c8.c4.2.2.1.2.2.1) 1 b.1.c8.c4.2.2.1.c4)),
 rI b.1.c8.c4.2.2.2.1, rI b.1.c16.1, un, un, un, un, un, un, un, un, un, un, un, un, un] [some [sB b.2.1.1.1], some [Sg.a (Sz.s b.2.1.2.1.1.1) [kI b.2.1.2.1.1.2.1]]] [0] := fun b => by kernel_rfl
def R_AD_0 (l : ∀ {ρ : Type}, (Int × Int × Nat × Bool × Int × Int × Bool × Nat × NI) → ((Int × Int × Nat × Bool × Int × Int × Bool × Bool × Nat × NI) → Option ρ) → Option ρ) {ρ : Type} (s : St) (K : AX → St → Option ρ) : Option ρ := ((Q_AD_0).rd s).bind fun b => l (b.1.2.1, b.1.c4.2.2.2.1,
 b.1.c8.c4.2.2.1.2.2.1, b.1.c8.c4.2.2.1.c4, b.1.c8.c4.2.2.2.1, b.1.c16.1, b.2.1.1.1, b.2.1.2.1.1.1, b.2.1.2.1.1.2.1) (fun d => K (AX.ex 0) (St.mk [AV.r (RV.c (CV.ptr 0 (Off.k 0) 1)), rI d.1,
 un, un, un, un, un, rI d.2.1, un, un, un, un, un, un, AV.r (RV.c (CV.sl 1 (Off.x 0 1 1) (Sz.s d.2.2.1) 1 d.2.2.2.1)), rI d.c4.1, rI d.c4.2.1,
 rB d.c4.2.2.1, un, un, un, un, un, un, un, un, un, un, un, un] [some [sB d.c4.2.2.2.1], some [Sg.a (Sz.s d.c8.1) [kI d.c8.2]]] [0]))
theorem ms_AD_0 {ρ σ : Type} (g_AL : t20GN2) (g_Z : t28GN2)   (q : ρ → Option σ) (x0 : Int) (x1 : Int) (x2 : Nat) (x3 : Bool) (x4 : Int) (x5 : Int) (x6 : Bool) (x7 : Nat) (x8 : Nat → Int) (c : (Int × Int × Nat × Bool × Int × Int × Bool × Nat × NI) → Option ρ) (x : (Int × Int × Nat × Bool × Int × Int × Bool × Bool × Nat × NI) → Option ρ) : (S_AD_0 g_AL g_Z  x0 x1 x2 x3 x4 x5 x6 x7 x8 c x).bind q = S_AD_0 g_AL g_Z  x0 x1 x2 x3 x4 x5 x6 x7 x8 (fun d => (c d).bind q) (fun d => (x d).bind q) := by
  simp only [S_AD_0, bnd_cond, bnd_bind, bnd_none, bnd_sum]
def L_AD_0 {ρ : Type} (d : Int × Int × Nat × Bool × Int × Int × Bool × Nat × NI) (k : (Int × Int × Nat × Bool × Int × Int × Bool × Bool × Nat × NI) → Option ρ) : Option ρ := loopK (fun d c x => S_AD_0 f_AL f_Z  d.1 d.2.1 d.2.2.1 d.2.2.2.1 d.c4.1 d.c4.2.1 d.c4.2.2.1 d.c4.2.2.2.1 d.c8 c x) 200 d k
theorem mL_AD_0 {ρ σ : Type} (q : ρ → Option σ) (d : Int × Int × Nat × Bool × Int × Int × Bool × Nat × NI) (k : (Int × Int × Nat × Bool × Int × Int × Bool × Bool × Nat × NI) → Option ρ) : (L_AD_0 d k).bind q = L_AD_0 d fun x => (k x).bind q := loopK_bind q (fun d c x => ms_AD_0 f_AL f_Z q d.1 d.2.1 d.2.2.1 d.2.2.2.1 d.c4.1 d.c4.2.1 d.c4.2.2.1 d.c4.2.2.2.1 d.c8 c x) k _ d
theorem ds_AD_0 {ρ : Type} (g_AL : t20GN2) (g_Z : t28GN2) (l_0 : ∀ {ρ : Type}, (Int × Int × Nat × Bool × Int × Int × Bool × Nat × NI) → ((Int × Int × Nat × Bool × Int × Int × Bool × Bool × Nat × NI) → Option ρ) →
 Option ρ) (x0 : Int) (x1 : Int) (x2 : Nat) (x3 : Bool) (x4 : Int) (x5 : Int) (x6 : Bool) (x7 : Nat) (x8 : Nat → Int) (c : St → Option ρ) (K : AX → St → Option ρ) : runC Try.prog (envOf [(56, F_AL g_AL), (36, F_Z g_Z)]) ⟨[⟨3, u6GN2, []⟩], [⟨3, 2, @R_AD_0 (@l_0)⟩], [0], [], (some ⟨0, u7GN2, []⟩)⟩ (tmpsOf Try.prog 57) 2 200 (loopIn Try.prog 57 3) (St.mk [AV.r (RV.c (CV.ptr 0 (Off.k 0) 1)), rI x0,
 un, un, un, un, un, rI x1, un, un, un, un, un, un, AV.r (RV.c (CV.sl 1 (Off.x 0 1 1) (Sz.s x2) 1 x3)), rI x4, rI x5, un, un, un, un, un,
 un, un, un, un, un, un, un, un] [some [sB x6], some [Sg.a (Sz.s x7) [kI x8]]] [0]) (next (fun t => t.head 2 ⟨[⟨3, u6GN2, []⟩], [⟨3, 2, @R_AD_0 (@l_0)⟩], [0],
 [], (some ⟨0, u7GN2, []⟩)⟩ (loopIn Try.prog 57 3)) c K) = S_AD_0 g_AL g_Z x0 x1 x2 x3 x4 x5 x6 x7 x8 (fun d => c (St.mk [AV.r (RV.c (CV.ptr 0 (Off.k 0) 1)), rI d.1,
 un, un, un, un, un, rI d.2.1, un, un, un, un, un, un, AV.r (RV.c (CV.sl 1 (Off.x 0 1 1) (Sz.s d.2.2.1) 1 d.2.2.2.1)), rI d.c4.1, rI d.c4.2.1,
 un, un, un, un, un, un, un, un, un, un, un, un, un] [some [sB d.c4.2.2.1], some [Sg.a (Sz.s d.c4.2.2.2.1) [kI d.c8]]] [0])) (fun d => K (AX.ex 0) (St.mk [AV.r (RV.c (CV.ptr 0 (Off.k 0) 1)), rI d.1,
 un, un, un, un, un, rI d.2.1, un, un, un, un, un, un, AV.r (RV.c (CV.sl 1 (Off.x 0 1 1) (Sz.s d.2.2.1) 1 d.2.2.2.1)), rI d.c4.1, rI d.c4.2.1,
 rB d.c4.2.2.1, un, un, un, un, un, un, un, un, un, un, un, un] [some [sB d.c4.2.2.2.1], some [Sg.a (Sz.s d.c8.1) [kI d.c8.2]]] [0])) := by kernel_rfl
theorem it_AD_0 {ρ : Type} (x0 : Int) (x1 : Int) (x2 : Nat) (x3 : Bool) (x4 : Int) (x5 : Int) (x6 : Bool) (x7 : Nat) (x8 : Nat → Int) (K : AX → St → Option ρ) : iter (fun t => t.head 2 ⟨[⟨3, u6GN2, []⟩], [⟨3, 2, @R_AD_0 (@L_AD_0)⟩],
 [0], [], (some ⟨0, u7GN2, []⟩)⟩ (loopIn Try.prog 57 3)) (runC Try.prog (envOf [(56, F_AL f_AL), (36, F_Z f_Z)]) ⟨[⟨3, u6GN2, []⟩], [⟨3, 2, @R_AD_0 (@L_AD_0)⟩], [0], [], (some ⟨0, u7GN2, []⟩)⟩ (tmpsOf Try.prog 57) 2 200 (loopIn Try.prog 57 3)) K 200 (St.mk [AV.r (RV.c (CV.ptr 0 (Off.k 0) 1)), rI x0,
 un, un, un, un, un, rI x1, un, un, un, un, un, un, AV.r (RV.c (CV.sl 1 (Off.x 0 1 1) (Sz.s x2) 1 x3)), rI x4, rI x5, un, un, un, un, un,
 un, un, un, un, un, un, un, un] [some [sB x6], some [Sg.a (Sz.s x7) [kI x8]]] [0]) = L_AD_0 (x0, x1, x2, x3, x4, x5, x6, x7, x8) (fun d => K (AX.ex 0) (St.mk [AV.r (RV.c (CV.ptr 0 (Off.k 0) 1)), rI d.1,
 un, un, un, un, un, rI d.2.1, un, un, un, un, un, un, AV.r (RV.c (CV.sl 1 (Off.x 0 1 1) (Sz.s d.2.2.1) 1 d.2.2.2.1)), rI d.c4.1, rI d.c4.2.1,
 rB d.c4.2.2.1, un, un, un, un, un, un, un, un, un, un, un, un] [some [sB d.c4.2.2.2.1], some [Sg.a (Sz.s d.c8.1) [kI d.c8.2]]] [0])) := iter_loopX (emb := fun (d : Int ×
 Int × Nat × Bool × Int × Int × Bool × Nat × NI) => St.mk [AV.r (RV.c (CV.ptr 0 (Off.k 0) 1)), rI d.1, un, un, un, un, un, rI d.2.1, un, un, un, un, un, un, AV.r (RV.c (CV.sl 1 (Off.x 0 1 1) (Sz.s d.2.2.1) 1 d.2.2.2.1)),
 rI d.c4.1, rI d.c4.2.1, un, un, un, un, un, un, un, un, un, un, un, un, un] [some [sB d.c4.2.2.1], some [Sg.a (Sz.s d.c4.2.2.2.1) [kI d.c8]]] [0]) (step := fun d c x => S_AD_0 f_AL f_Z d.1 d.2.1 d.2.2.1 d.2.2.2.1 d.c4.1 d.c4.2.1 d.c4.2.2.1 d.c4.2.2.2.1 d.c8 c x) (kx := (fun d => K (AX.ex 0) (St.mk [AV.r (RV.c (CV.ptr 0 (Off.k 0) 1)),
 rI d.1, un, un, un, un, un, rI d.2.1, un, un, un, un, un, un, AV.r (RV.c (CV.sl 1 (Off.x 0 1 1) (Sz.s d.2.2.1) 1 d.2.2.2.1)), rI d.c4.1, rI d.c4.2.1,
 rB d.c4.2.2.1, un, un, un, un, un, un, un, un, un, un, un, un] [some [sB d.c4.2.2.2.1], some [Sg.a (Sz.s d.c8.1) [kI d.c8.2]]] [0]))) (fun d c => ds_AD_0 f_AL f_Z (@L_AD_0) d.1 d.2.1 d.2.2.1 d.2.2.2.1 d.c4.1 d.c4.2.1 d.c4.2.2.1 d.c4.2.2.2.1 d.c8 c K) 200 (x0,
 x1, x2, x3, x4, x5, x6, x7, x8)
theorem so_AD_0 [Amb] : ∀ kk, SumOK Try.prog (envOf [(56, F_AL f_AL), (36, F_Z f_Z)]) ⟨[⟨3, u6GN2, []⟩], [⟨3, 2, @R_AD_0 (@L_AD_0)⟩], [0], [], (some ⟨0, u7GN2, []⟩)⟩ (tmpsOf Try.prog 57) kk 200 (loopIn Try.prog 57 3) := SumOK.of (id := 3) (k0 := 2) (run := @R_AD_0 (@L_AD_0)) (by kernel_rfl) fun s K r hr => by
    unfold R_AD_0 at hr
    obtain ⟨b, hb, hr1⟩ := Option.bind_eq_some_iff.1 hr
    have e := ((Q_AD_0).ok s b hb).trans (q_AD_0 b)
    subst e
    exact ⟨200, (it_AD_0 b.1.2.1 b.1.c4.2.2.2.1 b.1.c8.c4.2.2.1.2.2.1 b.1.c8.c4.2.2.1.c4 b.1.c8.c4.2.2.2.1 b.1.c16.1 b.2.1.1.1 b.2.1.2.1.1.1 b.2.1.2.1.1.2.1 K).trans hr1⟩
def K_AD {ρ : Type} (g_AL : t20GN2) (g_Z : t28GN2) (l_0 : ∀ {ρ : Type}, (Int × Int × Nat × Bool × Int × Int × Bool × Nat × NI) → ((Int × Int × Nat × Bool × Int × Int × Bool × Bool × Nat × NI) → Option ρ) →
 Option ρ) (x0 : Int) (x1 : Nat) (x2 : Bool) (x3 : Nat → Int) (w0 : Bool) (k : (Int × Bool) → Option ρ) : Option ρ := bif inR 0 x1 then bif inRe 1 x1 then l_0 (x0, x3 0, x1 - 1, w0 && true, Int.ofNat (x1 - 1), 0, x2, x1, x3) fun (d : Int × Int × Nat × Bool × Int × Int × Bool × Bool × Nat × NI) => k (d.2.1,
 d.c4.2.2.2.1) else none else none
def f_AD (x0 : Int) (x1 : Nat) (x2 : Bool) (x3 : Nat → Int) (w0 : Bool) : Option (Int × Bool) := K_AD f_AL f_Z (@L_AD_0) x0 x1 x2 x3 w0 some
section
open Go.Ab.Rdr
def QA_AD := ((pair (cons (ar (rc (cptr (nat 0) (ok' (nat 0)) (nat 1)))) (cons (ar (rc (cf (fi .i64 hole)))) (cons (ar (rc (csl (nat 1) (ok' (nat 0)) (szs hole) (nat 1) hole))) nil))) (cons (cons (gc (cf (fb hole))) nil) (cons (cons (ga (szs hole) (cons (ki .i64 hole) nil)) nil) nil))) : Rdr (List AV × List Blk) _)
end
def F0_AD (f : (Int) → (Nat) → (Bool) → NI → (Bool) → Option (Int × Bool)) : Sem1 := fun args h => match (QA_AD).rd (args, h) with
  | some b => .test (Nat.beq b.2.2.1.1.1 b.1.2.2.1.2.2.1) (.opt (f b.1.2.1 b.1.2.2.1.2.2.1 b.2.1.1 b.2.2.1.1.2.1 b.1.2.2.1.c4) fun (d : Int × Bool) => .leaf (Res.mk (rI d.1) [Ch.set [sB d.2], Ch.keep] [])) .fail
  | none => .fail
def F_AD (f : (Int) → (Nat) → (Bool) → NI → (Bool) → Option (Int × Bool)) : Sem1 := (nilF 2 [.i .i64] (F0_AD f))
theorem d_AD (g_AL : t20GN2) (g_Z : t28GN2) (l_0 : ∀ {ρ : Type}, (Int × Int × Nat × Bool × Int × Int × Bool × Nat × NI) → ((Int × Int × Nat × Bool × Int × Int × Bool × Bool × Nat × NI) → Option ρ) → Option ρ) (x0 : Int) (x1 : Nat) (x2 : Bool) (x3 : Nat →
 Int) (w0 : Bool) : den Try.prog (envOf [(56, F_AL g_AL), (36, F_Z g_Z)]) ⟨[⟨3, u6GN2, []⟩], [⟨3, 2, @R_AD_0 (@l_0)⟩], [0], [], (some ⟨0, u7GN2, []⟩)⟩ 200 57 [.r (.c (.ptr 0 (.k 0) 1)), rI x0, .r (.c (.sl 1 (.k 0) (.s x1) 1 w0))] [[.c (.f (.b x2))], [.a (.s x1) [.i .i64 x3]]] = K_AD g_AL g_Z (@l_0) x0 x1 x2 x3 w0 (fun (d : Int × Bool) => some (Res.mk (rI d.1) [Ch.set [sB d.2],
 Ch.keep] [])) := by kernel_rfl
theorem m_AD {ρ σ : Type} (q : ρ → Option σ) (g_AL : t20GN2) (g_Z : t28GN2) (l_0 : ∀ {ρ : Type}, (Int × Int × Nat × Bool × Int × Int × Bool × Nat × NI) → ((Int × Int × Nat × Bool × Int × Int × Bool × Bool × Nat × NI) → Option ρ) → Option ρ) (hl_0 : ∀ {ρ σ : Type} (q : ρ → Option σ) (d : Int × Int × Nat × Bool × Int × Int × Bool × Nat × NI) (k : (Int × Int × Nat × Bool × Int × Int × Bool × Bool × Nat × NI) → Option ρ), (l_0 d k).bind q = l_0 d fun x => (k x).bind q) (x0 : Int) (x1 : Nat) (x2 : Bool) (x3 : Nat → Int) (w0 : Bool) (k : (Int × Bool) → Option ρ) : (K_AD g_AL g_Z (@l_0) x0 x1 x2 x3 w0 k).bind q = K_AD g_AL g_Z (@l_0) x0 x1 x2 x3 w0 (fun d => (k d).bind q) := by
  simp only [K_AD, bnd_cond, bnd_bind, bnd_none, bnd_sum, hl_0]
theorem qa_AD : ∀ b, (QA_AD).em b = ([.r (.c (.ptr 0 (.k 0) 1)), rI b.1.2.1, .r (.c (.sl 1 (.k 0) (.s b.1.2.2.1.2.2.1) 1 b.1.2.2.1.c4))], [[.c (.f (.b b.2.1.1))], [.a (.s b.2.2.1.1.1) [.i .i64 b.2.2.1.1.2.1]]]) := fun b => by kernel_rfl
theorem e_AD {f : (Int) → (Nat) → (Bool) → NI → (Bool) → Option (Int × Bool)} {args : List AV} {h : List Blk} {r : Res} (hr : (F0_AD f args h).eval = some r) : ∃ x0 x1 x2 x3 w0, args = [.r (.c (.ptr 0 (.k 0) 1)), rI x0, .r (.c (.sl 1 (.k 0) (.s x1) 1 w0))] ∧ h = [[.c (.f (.b x2))], [.a (.s x1) [.i .i64 x3]]] ∧ (f x0 x1 x2 x3 w0).bind (fun (d : Int × Bool) => some (Res.mk (rI d.1) [Ch.set [sB d.2], Ch.keep] [])) = some r := by
  unfold F0_AD at hr
  split at hr
  · rename_i b hb
    have e := ((QA_AD).ok _ _ hb).trans (qa_AD b)
    obtain ⟨he, hr1⟩ := test_eval hr
    clear hr
    have hr := hr1
    clear hr1
    rw [Nat.eq_of_beq_eq_true he] at e
    clear he
    rw [opt_eval2] at hr
    exact ⟨b.1.2.1, b.1.2.2.1.2.2.1, b.2.1.1, b.2.2.1.1.2.1, b.1.2.2.1.c4, (Prod.mk.inj e).1, (Prod.mk.inj e).2, hr⟩
  · cases hr
theorem n_AD {σ : Type} (q : (Int × Bool) → Option σ) (x0 : Int) (x1 : Nat) (x2 : Bool) (x3 : Nat → Int) (w0 : Bool) : (f_AD x0 x1 x2 x3 w0).bind q = K_AD f_AL f_Z (@L_AD_0) x0 x1 x2 x3 w0 q := by
  unfold f_AD
  exact m_AD q f_AL f_Z (@L_AD_0) (fun q d k => mL_AD_0 q d k) x0 x1 x2 x3 w0 some
theorem s_AD [Amb] : Sound Try.prog 57 (F_AD f_AD) := Sound.nil 2 [.i .i64] <| (inl_sums (l := [(56, F_AL f_AL), (36, F_Z f_Z)]) (.cons s_AL (.cons s_Z (.nil _))) mixed (hs := ⟨[⟨3, u6GN2, []⟩], [⟨3, 2, @R_AD_0 (@L_AD_0)⟩],
 [0], [], (some ⟨0, u7GN2, []⟩)⟩) (lf := 200) (Sums.by (l := [loopIn Try.prog 57 3]) (lj := []) (by kernel_rfl) ⟨so_AD_0, trivial⟩ (by kernel_rfl) trivial) (by kernel_rfl)).by (F := F0_AD f_AD) fun args b r hr => by
  obtain ⟨x0, x1, x2, x3, w0, rfl, rfl, hr1⟩ := e_AD hr
  exact inl_eval ((d_AD f_AL f_Z (@L_AD_0) x0 x1 x2 x3 w0).trans ((n_AD (fun (d : Int × Bool) => some (Res.mk (rI d.1) [Ch.set [sB d.2], Ch.keep] [])) x0 x1 x2 x3 w0).symm.trans hr1))

def K_AZ {ρ : Type} (g_J : t23GN2) (g_Ac : t15GN2) (g_Aq : t15GN2) (g_AL : t20GN2) (g_AD : t29GN2) (x0 : Int) (x1 : Bool) (k : (Int × Bool) → Option ρ) : Option ρ := Option.bind (g_J x0 x1) fun (d : Int ×
 Bool) => Option.bind (g_Ac d.1) fun (d_1 : Int) => bif decide (d_1 > 1686629713) then Option.bind (g_Aq (IntKind.wrap .i64 (3373259426 - d_1))) fun (d_2 : Int) => bif decide (d_2 ≤ 843314857) then Option.bind (g_AL (IntKind.wrap .i64 (3373259426 - d_1)) (IntKind.wrap .i64 (3373259426 - d_1)) d.2) fun (d : Int ×
 Bool) => Option.bind (g_AD d.1 6 d.2 (fun (j : Nat) => bif Nat.beq j 5 then 1073741824 else bif Nat.beq j 4 then -178956971 else bif Nat.beq j 3 then 8947849 else bif Nat.beq j 2 then -213044 else bif Nat.beq j 1 then 2959 else bif Nat.beq j 0 then -27 else -27) true) fun (d : Int × Bool) => Option.bind (g_AL (IntKind.wrap .i64 (3373259426 - d_1)) d.1 d.2) fun (d : Int ×
 Bool) => k (if 1073741824 < if -1073741824 > d.1 then -1073741824 else d.1 then 1073741824 else if -1073741824 > d.1 then -1073741824 else d.1, d.2) else Option.bind (g_AL (IntKind.wrap .i64 (1686629713 - d_2)) (IntKind.wrap .i64 (1686629713 - d_2)) d.2) fun (d : Int × Bool) => Option.bind (g_AD d.1 7 d.2 (fun (j : Nat) => bif Nat.beq j 6 then
 1073741824 else bif Nat.beq j 5 then -536870912 else bif Nat.beq j 4 then 44739243 else bif Nat.beq j 3 then -1491308 else bif Nat.beq j 2 then 26631 else bif Nat.beq j 1 then -296 else bif Nat.beq j 0 then 2 else 2) true) fun (d : Int × Bool) => bif decide (IntKind.wrap .i64 (3373259426 - d_1) < 0) then
 k (if 1073741824 < if -1073741824 > IntKind.wrap .i64 (0 - d.1) then -1073741824 else IntKind.wrap .i64 (0 - d.1) then 1073741824 else if -1073741824 > IntKind.wrap .i64 (0 - d.1) then -1073741824 else IntKind.wrap .i64 (0 - d.1), d.2) else k (if 1073741824 < if -1073741824 > d.1 then
 -1073741824 else d.1 then 1073741824 else if -1073741824 > d.1 then -1073741824 else d.1, d.2) else bif decide (d_1 < -1686629713) then Option.bind (g_Aq (IntKind.wrap .i64 (-3373259426 - d_1))) fun (d_2 : Int) => bif decide (d_2 ≤ 843314857) then Option.bind (g_AL (IntKind.wrap .i64 (-3373259426 - d_1)) (IntKind.wrap .i64 (-3373259426 - d_1)) d.2) fun (d : Int ×
 Bool) => Option.bind (g_AD d.1 6 d.2 (fun (j : Nat) => bif Nat.beq j 5 then 1073741824 else bif Nat.beq j 4 then -178956971 else bif Nat.beq j 3 then 8947849 else bif Nat.beq j 2 then -213044 else bif Nat.beq j 1 then 2959 else bif Nat.beq j 0 then -27 else -27) true) fun (d : Int × Bool) => Option.bind (g_AL (IntKind.wrap .i64 (-3373259426 - d_1)) d.1 d.2) fun (d : Int ×
 Bool) => k (if 1073741824 < if -1073741824 > d.1 then -1073741824 else d.1 then 1073741824 else if -1073741824 > d.1 then -1073741824 else d.1, d.2) else Option.bind (g_AL (IntKind.wrap .i64 (1686629713 - d_2)) (IntKind.wrap .i64 (1686629713 - d_2)) d.2) fun (d : Int × Bool) => Option.bind (g_AD d.1 7 d.2 (fun (j : Nat) => bif Nat.beq j 6 then
 1073741824 else bif Nat.beq j 5 then -536870912 else bif Nat.beq j 4 then 44739243 else bif Nat.beq j 3 then -1491308 else bif Nat.beq j 2 then 26631 else bif Nat.beq j 1 then -296 else bif Nat.beq j 0 then 2 else 2) true) fun (d : Int × Bool) => bif decide (IntKind.wrap .i64 (-3373259426 - d_1) < 0) then
 k (if 1073741824 < if -1073741824 > IntKind.wrap .i64 (0 - d.1) then -1073741824 else IntKind.wrap .i64 (0 - d.1) then 1073741824 else if -1073741824 > IntKind.wrap .i64 (0 - d.1) then -1073741824 else IntKind.wrap .i64 (0 - d.1), d.2) else k (if 1073741824 < if -1073741824 > d.1 then
 -1073741824 else d.1 then 1073741824 else if -1073741824 > d.1 then -1073741824 else d.1, d.2) else Option.bind (g_Aq d_1) fun (d_2 : Int) => bif decide (d_2 ≤ 843314857) then Option.bind (g_AL d_1 d_1 d.2) fun (d : Int × Bool) => Option.bind (g_AD d.1 6 d.2 (fun (j : Nat) => bif Nat.beq j 5 then 1073741824 else
 bif Nat.beq j 4 then -178956971 else bif Nat.beq j 3 then 8947849 else bif Nat.beq j 2 then -213044 else bif Nat.beq j 1 then 2959 else bif Nat.beq j 0 then -27 else -27) true) fun (d : Int × Bool) => Option.bind (g_AL d_1 d.1 d.2) fun (d : Int × Bool) => k (if 1073741824 < if -1073741824 > d.1 then
 -1073741824 else d.1 then 1073741824 else if -1073741824 > d.1 then -1073741824 else d.1, d.2) else Option.bind (g_AL (IntKind.wrap .i64 (1686629713 - d_2)) (IntKind.wrap .i64 (1686629713 - d_2)) d.2) fun (d : Int × Bool) => Option.bind (g_AD d.1 7 d.2 (fun (j : Nat) => bif Nat.beq j 6 then
 1073741824 else bif Nat.beq j 5 then -536870912 else bif Nat.beq j 4 then 44739243 else bif Nat.beq j 3 then -1491308 else bif Nat.beq j 2 then 26631 else bif Nat.beq j 1 then -296 else bif Nat.beq j 0 then 2 else 2) true) fun (d : Int × Bool) => bif decide (d_1 < 0) then k (if 1073741824 < if -1073741824 > IntKind.wrap .i64 (0 - d.1) then
 -1073741824 else IntKind.wrap .i64 (0 - d.1) then 1073741824 else if -1073741824 > IntKind.wrap .i64 (0 - d.1) then -1073741824 else IntKind.wrap .i64 (0 - d.1), d.2) else k (if 1073741824 < if -1073741824 > d.1 then -1073741824 else d.1 then 1073741824 else if -1073741824 > d.1 then
 -1073741824 else d.1, d.2)
def f_AZ (x0 : Int) (x1 : Bool) : Option (Int × Bool) := K_AZ f_J f_Ac f_Aq f_AL f_AD  x0 x1 some
section
open Go.Ab.Rdr
def QA_AZ := ((pair (cons (ar (rc (cptr (nat 0) (ok' (nat 0)) (nat 1)))) (cons (ar (rc (cf (fi .i64 hole)))) nil)) (cons (cons (gc (cf (fb hole))) nil) nil)) : Rdr (List AV × List Blk) _)
end
def F_AZ (f : (Int) → (Bool) → Option (Int × Bool)) : Sem1 := fun args h => match (QA_AZ).rd (args, h) with
  | some b => .opt (f b.1.2.1 b.2.1.1) fun (d : Int × Bool) => .leaf (Res.mk (rI d.1) [Ch.set [sB d.2]] [])
  | none => .fail
theorem d_AZ (g_J : t23GN2) (g_Ac : t15GN2) (g_Aq : t15GN2) (g_AL : t20GN2) (g_AD : t29GN2) (x0 : Int) (x1 : Bool) : den Try.prog (envOf [(52, F_J g_J), (54, F_Ac g_Ac),
 (55, F_Aq g_Aq), (56, F_AL g_AL), (57, F_AD g_AD)]) ⟨[], [], [], [], none⟩ 200 31 [.r (.c (.ptr 0 (.k 0) 1)), rI x0] [[.c (.f (.b x1))]] = K_AZ g_J g_Ac g_Aq g_AL g_AD x0 x1 (fun (d : Int × Bool) => some (Res.mk (rI d.1) [Ch.set [sB d.2]] [])) := by kernel_rfl
theorem m_AZ {ρ σ : Type} (q : ρ → Option σ) (g_J : t23GN2) (g_Ac : t15GN2) (g_Aq : t15GN2) (g_AL : t20GN2) (g_AD : t29GN2)   (x0 : Int) (x1 : Bool) (k : (Int × Bool) → Option ρ) : (K_AZ g_J g_Ac g_Aq g_AL g_AD  x0 x1 k).bind q = K_AZ g_J g_Ac g_Aq g_AL g_AD  x0 x1 (fun d => (k d).bind q) := by
  simp only [K_AZ, bnd_cond, bnd_bind, bnd_none, bnd_sum]
theorem qa_AZ : ∀ b, (QA_AZ).em b = ([.r (.c (.ptr 0 (.k 0) 1)), rI b.1.2.1], [[.c (.f (.b b.2.1.1))]]) := fun b => by kernel_rfl
theorem e_AZ {f : (Int) → (Bool) → Option (Int × Bool)} {args : List AV} {h : List Blk} {r : Res} (hr : (F_AZ f args h).eval = some r) : ∃ x0 x1, args = [.r (.c (.ptr 0 (.k 0) 1)), rI x0] ∧ h = [[.c (.f (.b x1))]] ∧ (f x0 x1).bind (fun (d : Int × Bool) => some (Res.mk (rI d.1) [Ch.set [sB d.2]] [])) = some r := by
  unfold F_AZ at hr
  split at hr
  · rename_i b hb
    have e := ((QA_AZ).ok _ _ hb).trans (qa_AZ b)
    rw [opt_eval2] at hr
    exact ⟨b.1.2.1, b.2.1.1, (Prod.mk.inj e).1, (Prod.mk.inj e).2, hr⟩
  · cases hr
theorem n_AZ {σ : Type} (q : (Int × Bool) → Option σ) (x0 : Int) (x1 : Bool) : (f_AZ x0 x1).bind q = K_AZ f_J f_Ac f_Aq f_AL f_AD  x0 x1 q := by
  unfold f_AZ
  exact m_AZ q f_J f_Ac f_Aq f_AL f_AD   x0 x1 some
theorem s_AZ [Amb] : Sound Try.prog 31 (F_AZ f_AZ) := (inl_sound (l := [(52, F_J f_J), (54, F_Ac f_Ac), (55, F_Aq f_Aq), (56, F_AL f_AL), (57, F_AD f_AD)]) (.cons s_J (.cons s_Ac (.cons s_Aq (.cons s_AL (.cons s_AD (.nil _)))))) mixed [] [] 200 (by kernel_rfl)).by (F := F_AZ f_AZ) fun args b r hr => by
  obtain ⟨x0, x1, rfl, rfl, hr1⟩ := e_AZ hr
  exact inl_eval ((d_AZ f_J f_Ac f_Aq f_AL f_AD  x0 x1).trans ((n_AZ (fun (d : Int × Bool) => some (Res.mk (rI d.1) [Ch.set [sB d.2]] [])) x0 x1).symm.trans hr1))

def K_Ar {ρ : Type} (g_Ac : t15GN2) (g_AZ : t23GN2) (x0 : Int) (x1 : Bool) (k : (Int × Bool) → Option ρ) : Option ρ := Option.bind (g_Ac x0) fun (d : Int) => Option.bind (g_AZ (IntKind.wrap .i64 (1686629713 + d)) x1) fun (d : Int × Bool) => k (d.1, d.2)
def f_Ar (x0 : Int) (x1 : Bool) : Option (Int × Bool) := K_Ar f_Ac f_AZ  x0 x1 some
section
open Go.Ab.Rdr
def QA_Ar := ((pair (cons (ar (rc (cptr (nat 0) (ok' (nat 0)) (nat 1)))) (cons (ar (rc (cf (fi .i64 hole)))) nil)) (cons (cons (gc (cf (fb hole))) nil) nil)) : Rdr (List AV × List Blk) _)
end
def F_Ar (f : (Int) → (Bool) → Option (Int × Bool)) : Sem1 := fun args h => match (QA_Ar).rd (args, h) with
  | some b => .opt (f b.1.2.1 b.2.1.1) fun (d : Int × Bool) => .leaf (Res.mk (rI d.1) [Ch.set [sB d.2]] [])
  | none => .fail
theorem d_Ar (g_Ac : t15GN2) (g_AZ : t23GN2) (x0 : Int) (x1 : Bool) : den Try.prog (envOf [(54, F_Ac g_Ac), (31, F_AZ g_AZ)]) ⟨[], [], [], [], none⟩ 200 32 [.r (.c (.ptr 0 (.k 0) 1)), rI x0] [[.c (.f (.b x1))]] = K_Ar g_Ac g_AZ x0 x1 (fun (d : Int ×
 Bool) => some (Res.mk (rI d.1) [Ch.set [sB d.2]] [])) := by kernel_rfl
theorem m_Ar {ρ σ : Type} (q : ρ → Option σ) (g_Ac : t15GN2) (g_AZ : t23GN2)   (x0 : Int) (x1 : Bool) (k : (Int × Bool) → Option ρ) : (K_Ar g_Ac g_AZ  x0 x1 k).bind q = K_Ar g_Ac g_AZ  x0 x1 (fun d => (k d).bind q) := by
  simp only [K_Ar, bnd_cond, bnd_bind, bnd_none, bnd_sum]
theorem qa_Ar : ∀ b, (QA_Ar).em b = ([.r (.c (.ptr 0 (.k 0) 1)), rI b.1.2.1], [[.c (.f (.b b.2.1.1))]]) := fun b => by kernel_rfl
theorem e_Ar {f : (Int) → (Bool) → Option (Int × Bool)} {args : List AV} {h : List Blk} {r : Res} (hr : (F_Ar f args h).eval = some r) : ∃ x0 x1, args = [.r (.c (.ptr 0 (.k 0) 1)), rI x0] ∧ h = [[.c (.f (.b x1))]] ∧ (f x0 x1).bind (fun (d : Int × Bool) => some (Res.mk (rI d.1) [Ch.set [sB d.2]] [])) = some r := by
  unfold F_Ar at hr
  split at hr
  · rename_i b hb
    have e := ((QA_Ar).ok _ _ hb).trans (qa_Ar b)
    rw [opt_eval2] at hr
    exact ⟨b.1.2.1, b.2.1.1, (Prod.mk.inj e).1, (Prod.mk.inj e).2, hr⟩
  · cases hr
theorem n_Ar {σ : Type} (q : (Int × Bool) → Option σ) (x0 : Int) (x1 : Bool) : (f_Ar x0 x1).bind q = K_Ar f_Ac f_AZ  x0 x1 q := by
  unfold f_Ar
  exact m_Ar q f_Ac f_AZ   x0 x1 some
theorem s_Ar [Amb] : Sound Try.prog 32 (F_Ar f_Ar) := (inl_sound (l := [(54, F_Ac f_Ac), (31, F_AZ f_AZ)]) (.cons s_Ac (.cons s_AZ (.nil _))) mixed [] [] 200 (by kernel_rfl)).by (F := F_Ar f_Ar) fun args b r hr => by
  obtain ⟨x0, x1, rfl, rfl, hr1⟩ := e_Ar hr
  exact inl_eval ((d_Ar f_Ac f_AZ  x0 x1).trans ((n_Ar (fun (d : Int × Bool) => some (Res.mk (rI d.1) [Ch.set [sB d.2]] [])) x0 x1).symm.trans hr1))

def K_Ae {ρ : Type} (g_AS : t15GN2) (g_AH : t18GN2) (g_AF : t18GN2) (g_Aa : t30GN2) (x0 : Int) (x1 : Int) (k : (Int × Int × Bool) → Option ρ) : Option ρ := bif decide (x1 < 0) then k (0, 0, false) else
 bif decide (x1 > 127) then k (0, 0, false) else Option.bind (g_AS x0) fun (d : Int) => Option.bind (g_AH 0 d x1) fun (d_1 : Int × Int) => Option.bind (g_AF d_1.1 d_1.2 x1) fun (d_2 : Int × Int) => bif !(d_2.1 == 0 && (d_2.2 == d && true)) then k (0, 0, false) else Option.bind (g_Aa d_1.1 d_1.2 (decide (x0 < 0))) fun (d : Int ×
 Int × Bool) => bif !d.2.2 then k (0, 0, false) else k (d.1, d.2.1, true)
def f_Ae (x0 : Int) (x1 : Int) : Option (Int × Int × Bool) := K_Ae f_AS f_AH f_AF f_Aa  x0 x1 some
section
open Go.Ab.Rdr
def QA_Ae := ((pair (cons (ar (rc (cf (fi .i64 hole)))) (cons (ar (rc (cf (fi .i64 hole)))) nil)) nil) : Rdr (List AV × List Blk) _)
end
def F_Ae (f : (Int) → (Int) → Option (Int × Int × Bool)) : Sem1 := fun args h => match (QA_Ae).rd (args, h) with
  | some b => .opt (f b.1.1 b.1.2.1) fun (d : Int × Int × Bool) => .leaf (Res.mk (AV.tup [RV.agg [sI d.1, sU d.2.1], RV.c (CV.f (FV.b d.2.2))]) [] [])
  | none => .fail
theorem d_Ae (g_AS : t15GN2) (g_AH : t18GN2) (g_AF : t18GN2) (g_Aa : t30GN2) (x0 : Int) (x1 : Int) : den Try.prog (envOf [(76, F_AS g_AS), (78, F_AH g_AH), (79, F_AF g_AF), (77, F_Aa g_Aa)]) ⟨[],
 [], [], [], none⟩ 200 58 [rI x0, rI x1] [] = K_Ae g_AS g_AH g_AF g_Aa x0 x1 (fun (d : Int × Int × Bool) => some (Res.mk (AV.tup [RV.agg [sI d.1, sU d.2.1], RV.c (CV.f (FV.b d.2.2))]) [] [])) := by kernel_rfl
theorem m_Ae {ρ σ : Type} (q : ρ → Option σ) (g_AS : t15GN2) (g_AH : t18GN2) (g_AF : t18GN2) (g_Aa : t30GN2)   (x0 : Int) (x1 : Int) (k : (Int × Int × Bool) → Option ρ) : (K_Ae g_AS g_AH g_AF g_Aa  x0 x1 k).bind q = K_Ae g_AS g_AH g_AF g_Aa  x0 x1 (fun d => (k d).bind q) := by
  simp only [K_Ae, bnd_cond, bnd_bind, bnd_none, bnd_sum]
theorem qa_Ae : ∀ b, (QA_Ae).em b = ([rI b.1.1, rI b.1.2.1], []) := fun b => by kernel_rfl
theorem e_Ae {f : (Int) → (Int) → Option (Int × Int × Bool)} {args : List AV} {h : List Blk} {r : Res} (hr : (F_Ae f args h).eval = some r) : ∃ x0 x1, args = [rI x0, rI x1] ∧ h = [] ∧ (f x0 x1).bind (fun (d : Int × Int × Bool) => some (Res.mk (AV.tup [RV.agg [sI d.1, sU d.2.1], RV.c (CV.f (FV.b d.2.2))]) [] [])) = some r := by
  unfold F_Ae at hr
  split at hr
  · rename_i b hb
    have e := ((QA_Ae).ok _ _ hb).trans (qa_Ae b)
    rw [opt_eval2] at hr
    exact ⟨b.1.1, b.1.2.1, (Prod.mk.inj e).1, (Prod.mk.inj e).2, hr⟩
  · cases hr
theorem n_Ae {σ : Type} (q : (Int × Int × Bool) → Option σ) (x0 : Int) (x1 : Int) : (f_Ae x0 x1).bind q = K_Ae f_AS f_AH f_AF f_Aa  x0 x1 q := by
  unfold f_Ae
  exact m_Ae q f_AS f_AH f_AF f_Aa   x0 x1 some
theorem s_Ae [Amb] : Sound Try.prog 58 (F_Ae f_Ae) := (inl_sound (l := [(76, F_AS f_AS), (78, F_AH f_AH), (79, F_AF f_AF), (77, F_Aa f_Aa)]) (.cons s_AS (.cons s_AH (.cons s_AF (.cons s_Aa (.nil _))))) mixed [] [] 200 (by kernel_rfl)).by (F := F_Ae f_Ae) fun args b r hr => by
  obtain ⟨x0, x1, rfl, rfl, hr1⟩ := e_Ae hr
  exact inl_eval ((d_Ae f_AS f_AH f_AF f_Aa  x0 x1).trans ((n_Ae (fun (d : Int × Int × Bool) => some (Res.mk (AV.tup [RV.agg [sI d.1, sU d.2.1], RV.c (CV.f (FV.b d.2.2))]) [] [])) x0 x1).symm.trans hr1))

def K_Af {ρ : Type} (x0 : Int) (x1 : Int) (x2 : Int) (x3 : Int) (k : (Bool) → Option ρ) : Option ρ := bif decide (x0 < x2) then k true else bif x0 == x2 then k (decide (x1 < x3)) else k false
def f_Af (x0 : Int) (x1 : Int) (x2 : Int) (x3 : Int) : Option (Bool) := K_Af   x0 x1 x2 x3 some
section
open Go.Ab.Rdr
def QA_Af := ((pair (cons (ar (ra (cons (gc (cf (fi .u64 hole))) (cons (gc (cf (fi .u64 hole))) nil)))) (cons (ar (ra (cons (gc (cf (fi .u64 hole))) (cons (gc (cf (fi .u64 hole))) nil)))) nil)) nil) : Rdr (List AV × List Blk) _)
end
def F_Af (f : (Int) → (Int) → (Int) → (Int) → Option (Bool)) : Sem1 := fun args h => match (QA_Af).rd (args, h) with
  | some b => .opt (f b.1.1.1 b.1.1.2.1 b.1.2.1.1 b.1.2.1.2.1) fun (d : Bool) => .leaf (Res.mk (rB d) [] [])
  | none => .fail
theorem d_Af (x0 : Int) (x1 : Int) (x2 : Int) (x3 : Int) : den Try.prog (envOf []) ⟨[], [], [], [], none⟩ 200 92 [.r (.agg [.c (.f (.i .u64 x0)), .c (.f (.i .u64 x1))]), .r (.agg [.c (.f (.i .u64 x2)), .c (.f (.i .u64 x3))])] [] = K_Af x0 x1 x2 x3 (fun (d : Bool) => some (Res.mk (rB d) [] [])) := by kernel_rfl
theorem m_Af {ρ σ : Type} (q : ρ → Option σ)    (x0 : Int) (x1 : Int) (x2 : Int) (x3 : Int) (k : (Bool) → Option ρ) : (K_Af   x0 x1 x2 x3 k).bind q = K_Af   x0 x1 x2 x3 (fun d => (k d).bind q) := by
  simp only [K_Af, bnd_cond, bnd_bind, bnd_none, bnd_sum]
theorem qa_Af : ∀ b, (QA_Af).em b = ([.r (.agg [.c (.f (.i .u64 b.1.1.1)), .c (.f (.i .u64 b.1.1.2.1))]), .r (.agg [.c (.f (.i .u64 b.1.2.1.1)), .c (.f (.i .u64 b.1.2.1.2.1))])], []) := fun b => by kernel_rfl
theorem e_Af {f : (Int) → (Int) → (Int) → (Int) → Option (Bool)} {args : List AV} {h : List Blk} {r : Res} (hr : (F_Af f args h).eval = some r) : ∃ x0 x1 x2 x3, args = [.r (.agg [.c (.f (.i .u64 x0)), .c (.f (.i .u64 x1))]), .r (.agg [.c (.f (.i .u64 x2)), .c (.f (.i .u64 x3))])] ∧ h = [] ∧ (f x0 x1 x2 x3).bind (fun (d : Bool) => some (Res.mk (rB d) [] [])) = some r := by
  unfold F_Af at hr
  split at hr
  · rename_i b hb
    have e := ((QA_Af).ok _ _ hb).trans (qa_Af b)
    rw [opt_eval2] at hr
    exact ⟨b.1.1.1, b.1.1.2.1, b.1.2.1.1, b.1.2.1.2.1, (Prod.mk.inj e).1, (Prod.mk.inj e).2, hr⟩
  · cases hr
theorem n_Af {σ : Type} (q : (Bool) → Option σ) (x0 : Int) (x1 : Int) (x2 : Int) (x3 : Int) : (f_Af x0 x1 x2 x3).bind q = K_Af   x0 x1 x2 x3 q := by
  unfold f_Af
  exact m_Af q    x0 x1 x2 x3 some
theorem s_Af [Amb] : Sound Try.prog 92 (F_Af f_Af) := (inl_sound (l := []) (.nil _) mixed [] [] 200 (by kernel_rfl)).by (F := F_Af f_Af) fun args b r hr => by
  obtain ⟨x0, x1, x2, x3, rfl, rfl, hr1⟩ := e_Af hr
  exact inl_eval ((d_Af   x0 x1 x2 x3).trans ((n_Af (fun (d : Bool) => some (Res.mk (rB d) [] [])) x0 x1 x2 x3).symm.trans hr1))

def K_Ak {ρ : Type} (g_Sub64 : C3) (x0 : Int) (x1 : Int) (x2 : Int) (x3 : Int) (k : (Int × Int) → Option ρ) : Option ρ := Option.bind (g_Sub64 x1 x3 0) fun (d : Int × Int) => Option.bind (g_Sub64 x0 x2 d.2) fun (d_1 : Int × Int) => k (d_1.1, d.1)
def f_Ak (x0 : Int) (x1 : Int) (x2 : Int) (x3 : Int) : Option (Int × Int) := K_Ak f_Sub64  x0 x1 x2 x3 some
section
open Go.Ab.Rdr
def QA_Ak := ((pair (cons (ar (ra (cons (gc (cf (fi .u64 hole))) (cons (gc (cf (fi .u64 hole))) nil)))) (cons (ar (ra (cons (gc (cf (fi .u64 hole))) (cons (gc (cf (fi .u64 hole))) nil)))) nil)) nil) : Rdr (List AV × List Blk) _)
end
def F_Ak (f : (Int) → (Int) → (Int) → (Int) → Option (Int × Int)) : Sem1 := fun args h => match (QA_Ak).rd (args, h) with
  | some b => .opt (f b.1.1.1 b.1.1.2.1 b.1.2.1.1 b.1.2.1.2.1) fun (d : Int × Int) => .leaf (Res.mk (AV.r (RV.agg [sU d.1, sU d.2])) [] [])
  | none => .fail
theorem d_Ak (g_Sub64 : C3) (x0 : Int) (x1 : Int) (x2 : Int) (x3 : Int) : den Try.prog (envOf [(95, F_carry g_Sub64)]) ⟨[], [], [], [], none⟩ 200 93 [.r (.agg [.c (.f (.i .u64 x0)), .c (.f (.i .u64 x1))]), .r (.agg [.c (.f (.i .u64 x2)), .c (.f (.i .u64 x3))])] [] = K_Ak g_Sub64 x0 x1 x2 x3 (fun (d : Int ×
 Int) => some (Res.mk (AV.r (RV.agg [sU d.1, sU d.2])) [] [])) := by kernel_rfl
theorem m_Ak {ρ σ : Type} (q : ρ → Option σ) (g_Sub64 : C3)   (x0 : Int) (x1 : Int) (x2 : Int) (x3 : Int) (k : (Int × Int) → Option ρ) : (K_Ak g_Sub64  x0 x1 x2 x3 k).bind q = K_Ak g_Sub64  x0 x1 x2 x3 (fun d => (k d).bind q) := by
  simp only [K_Ak, bnd_cond, bnd_bind, bnd_none, bnd_sum]
theorem qa_Ak : ∀ b, (QA_Ak).em b = ([.r (.agg [.c (.f (.i .u64 b.1.1.1)), .c (.f (.i .u64 b.1.1.2.1))]), .r (.agg [.c (.f (.i .u64 b.1.2.1.1)), .c (.f (.i .u64 b.1.2.1.2.1))])], []) := fun b => by kernel_rfl
theorem e_Ak {f : (Int) → (Int) → (Int) → (Int) → Option (Int × Int)} {args : List AV} {h : List Blk} {r : Res} (hr : (F_Ak f args h).eval = some r) : ∃ x0 x1 x2 x3, args = [.r (.agg [.c (.f (.i .u64 x0)), .c (.f (.i .u64 x1))]), .r (.agg [.c (.f (.i .u64 x2)), .c (.f (.i .u64 x3))])] ∧ h = [] ∧ (f x0 x1 x2 x3).bind (fun (d : Int × Int) => some (Res.mk (AV.r (RV.agg [sU d.1, sU d.2])) [] [])) = some r := by
  unfold F_Ak at hr
  split at hr
  · rename_i b hb
    have e := ((QA_Ak).ok _ _ hb).trans (qa_Ak b)
    rw [opt_eval2] at hr
    exact ⟨b.1.1.1, b.1.1.2.1, b.1.2.1.1, b.1.2.1.2.1, (Prod.mk.inj e).1, (Prod.mk.inj e).2, hr⟩
  · cases hr
theorem n_Ak {σ : Type} (q : (Int × Int) → Option σ) (x0 : Int) (x1 : Int) (x2 : Int) (x3 : Int) : (f_Ak x0 x1 x2 x3).bind q = K_Ak f_Sub64  x0 x1 x2 x3 q := by
  unfold f_Ak
  exact m_Ak q f_Sub64   x0 x1 x2 x3 some
theorem s_Ak [Amb] : Sound Try.prog 93 (F_Ak f_Ak) := (inl_sound (l := [(95, F_carry f_Sub64)]) (.cons s_Sub64 (.nil _)) mixed [] [] 200 (by kernel_rfl)).by (F := F_Ak f_Ak) fun args b r hr => by
  obtain ⟨x0, x1, x2, x3, rfl, rfl, hr1⟩ := e_Ak hr
  exact inl_eval ((d_Ak f_Sub64  x0 x1 x2 x3).trans ((n_Ak (fun (d : Int × Int) => some (Res.mk (AV.r (RV.agg [sU d.1, sU d.2])) [] [])) x0 x1 x2 x3).symm.trans hr1))

def S_AI_0 {ρ : Type} (g_AH : t18GN2) (g_AG : t19GN2) (g_AF : t18GN2) (g_Af : t31GN2) (g_Ak : t19GN2) (g_AE : t20GN2) (x0 : Int) (x1 : Int) (x2 : Int) (x3 : Int) (x4 : Int) (c : (Int × Int × Int × Int × Int) → Option ρ) (x : (Int × Bool × Int × Int × Int × Int) → Option ρ) : Option ρ := bif decide (x0 ≥ 0) then Option.bind (g_AH 0 1 x0) fun (d : Int × Int) => Option.bind (g_AG x3 x4 d.1 d.2) fun (d_1 : Int ×
 Int) => Option.bind (g_AF x3 x4 1) fun (d_2 : Int × Int) => Option.bind (g_Af x1 x2 d_1.1 d_1.2) fun (d_3 : Bool) => bif !d_3 then Option.bind (g_Ak x1 x2 d_1.1 d_1.2) fun (d_4 : Int × Int) => Option.bind (g_AG d_2.1 d_2.2 d.1 d.2) fun (d : Int × Int) => c (IntKind.wrap .i64 (x0 - 2), d_4.1, d_4.2,
 d.1, d.2) else c (IntKind.wrap .i64 (x0 - 2), x1, x2, d_2.1, d_2.2) else x (x0, decide (x0 ≥ 0), x1, x2, x3, x4)
section
open Go.Ab.Rdr
def Q_AI_0 := (st (cons aund (cons aund (cons aund (cons aund (cons (ar (rc (cptr (nat 0) (ok' (nat 0)) (nat 2)))) (cons (ar (rc (cptr (nat 1) (ok' (nat 0)) (nat 2)))) (cons (ar (rc (cf (fi .i64 hole)))) (cons aund (cons aund (cons aund (cons aund (cons aund (cons aund (cons aund (cons aund (cons aund (cons aund (cons aund (cons aund (cons aund (cons aund (cons aund (cons aund (cons aund (cons aund (cons aund (cons aund (cons aund (cons aund (cons aund (cons aund (cons aund (cons aund (cons aund (cons aund (cons aund (cons aund (cons aund (cons aund (cons aund (cons aund (cons aund (cons aund (cons aund (cons aund (cons aund (cons aund (cons aund (cons aund (cons aund (cons aund nil))))))))))))))))))))))))))))))))))))))))))))))))))) (cons (some' (cons (gc (cf (fi .u64 hole))) (cons (gc (cf (fi .u64 hole))) nil))) (cons (some' (cons (gc (cf (fi .u64 hole))) (cons (gc (cf (fi .u64 hole))) nil))) nil)) nil)
end
theorem q_AI_0 : ∀ b, (Q_AI_0).em b = St.mk [un, un, un, un, AV.r (RV.c (CV.ptr 0 (Off.k 0) 2)), AV.r (RV.c (CV.ptr 1 (Off.k 0) 2)), rI b.1.c4.2.2.1, un, un, un, un, un, un, un, un, un, un, un, un,
 un, un, un, un, un, un, un, un, un, un, un, un, un, un, un, un, un, un, un, un, un, un, un, un, un, un, un, un, un, un, un, un] [some [sU b.2.1.1.1,
 sU b.2.1.1.2.1], some [sU b.2.1.2.1.1, sU b.2.1.2.1.2.1]] [] := fun b => by kernel_rfl
def R_AI_0 (l : ∀ {ρ : Type}, (Int × Int × Int × Int × Int) → ((Int × Bool × Int × Int × Int × Int) → Option ρ) → Option ρ) {ρ : Type} (s : St) (K : AX → St → Option ρ) : Option ρ := ((Q_AI_0).rd s).bind fun b => l (b.1.c4.2.2.1, b.2.1.1.1, b.2.1.1.2.1, b.2.1.2.1.1, b.2.1.2.1.2.1) (fun d => K (AX.ex 0) (St.mk [un,
 un, un, un, AV.r (RV.c (CV.ptr 0 (Off.k 0) 2)), AV.r (RV.c (CV.ptr 1 (Off.k 0) 2)), rI d.1, un, un, un, un, un, un, un, un, un, un, un, un, rI d.1, rB d.2.1,
 un, un, un, un, un, un, un, un, un, un, un, un, un, un, un, un, un, un, un, un, un, un, un, un, un, un, un, un, un, un] [some [sU d.2.2.1, sU d.2.2.2.1],
 some [sU d.c4.1, sU d.c4.2]] []))
theorem ms_AI_0 {ρ σ : Type} (g_AH : t18GN2) (g_AG : t19GN2) (g_AF : t18GN2) (g_Af : t31GN2) (g_Ak : t19GN2) (g_AE : t20GN2)   (q : ρ → Option σ) (x0 : Int) (x1 : Int) (x2 : Int) (x3 : Int) (x4 : Int) (c : (Int × Int × Int × Int × Int) → Option ρ) (x : (Int × Bool × Int × Int × Int × Int) → Option ρ) : (S_AI_0 g_AH g_AG g_AF g_Af g_Ak g_AE  x0 x1 x2 x3 x4 c x).bind q = S_AI_0 g_AH g_AG g_AF g_Af g_Ak g_AE  x0 x1 x2 x3 x4 (fun d => (c d).bind q) (fun d => (x d).bind q) := by
  simp only [S_AI_0, bnd_cond, bnd_bind, bnd_none, bnd_sum]
def L_AI_0 {ρ : Type} (d : Int × Int × Int × Int × Int) (k : (Int × Bool × Int × Int × Int × Int) → Option ρ) : Option ρ := loopK (fun d c x => S_AI_0 f_AH f_AG f_AF f_Af f_Ak f_AE  d.1 d.2.1 d.2.2.1 d.2.2.2.1 d.c4 c x) 200 d k
theorem mL_AI_0 {ρ σ : Type} (q : ρ → Option σ) (d : Int × Int × Int × Int × Int) (k : (Int × Bool × Int × Int × Int × Int) → Option ρ) : (L_AI_0 d k).bind q = L_AI_0 d fun x => (k x).bind q := loopK_bind q (fun d c x => ms_AI_0 f_AH f_AG f_AF f_Af f_Ak f_AE q d.1 d.2.1 d.2.2.1 d.2.2.2.1 d.c4 c x) k _ d
theorem ds_AI_0 {ρ : Type} (g_AH : t18GN2) (g_AG : t19GN2) (g_AF : t18GN2) (g_Af : t31GN2) (g_Ak : t19GN2) (g_AE : t20GN2) (l_0 : ∀ {ρ : Type}, (Int × Int × Int × Int × Int) → ((Int × Bool × Int × Int × Int × Int) → Option ρ) → Option ρ) (x0 : Int) (x1 : Int) (x2 : Int) (x3 : Int) (x4 : Int) (c : St → Option ρ) (K : AX → St → Option ρ) : runC Try.prog (envOf [(78, F_AH g_AH), (83, F_AG g_AG), (79, F_AF g_AF), (92,
 F_Af g_Af), (93, F_Ak g_Ak), (84, F_AE g_AE)]) ⟨[⟨5, u8GN2, []⟩], [⟨5, 0, @R_AI_0 (@l_0)⟩], [], [], (some ⟨0, u9GN2, []⟩)⟩ (tmpsOf Try.prog 80) 0 200 (loopIn Try.prog 80 5) (St.mk [un, un, un, un, AV.r (RV.c (CV.ptr 0 (Off.k 0) 2)),
 AV.r (RV.c (CV.ptr 1 (Off.k 0) 2)), rI x0, un, un, un, un, un, un, un, un, un, un, un, un, un, un, un, un, un, un, un, un, un, un, un, un, un, un, un, un,
 un, un, un, un, un, un, un, un, un, un, un, un, un, un, un, un] [some [sU x1, sU x2], some [sU x3, sU x4]] []) (next (fun t => t.head 0 ⟨[⟨5,
 u8GN2, []⟩], [⟨5, 0, @R_AI_0 (@l_0)⟩], [], [], (some ⟨0, u9GN2, []⟩)⟩ (loopIn Try.prog 80 5)) c K) = S_AI_0 g_AH g_AG g_AF g_Af g_Ak g_AE x0 x1 x2 x3 x4 (fun d => c (St.mk [un, un, un, un, AV.r (RV.c (CV.ptr 0 (Off.k 0) 2)),
 AV.r (RV.c (CV.ptr 1 (Off.k 0) 2)), rI d.1, un, un, un, un, un, un, un, un, un, un, un, un, un, un, un, un, un, un, un, un, un, un, un, un, un, un, un, un,
 un, un, un, un, un, un, un, un, un, un, un, un, un, un, un, un] [some [sU d.2.1, sU d.2.2.1], some [sU d.2.2.2.1, sU d.c4]] [])) (fun d => K (AX.ex 0) (St.mk [un,
 un, un, un, AV.r (RV.c (CV.ptr 0 (Off.k 0) 2)), AV.r (RV.c (CV.ptr 1 (Off.k 0) 2)), rI d.1, un, un, un, un, un, un, un, un, un, un, un, un, rI d.1, rB d.2.1,
 un, un, un, un, un, un, un, un, un, un, un, un, un, un, un, un, un, un, un, un, un, un, un, un, un, un, un, un, un, un] [some [sU d.2.2.1, sU d.2.2.2.1],
 some [sU d.c4.1, sU d.c4.2]] [])) := by kernel_rfl
theorem it_AI_0 {ρ : Type} (x0 : Int) (x1 : Int) (x2 : Int) (x3 : Int) (x4 : Int) (K : AX → St → Option ρ) : iter (fun t => t.head 0 ⟨[⟨5, u8GN2, []⟩], [⟨5, 0, @R_AI_0 (@L_AI_0)⟩], [], [], (some ⟨0, u9GN2, []⟩)⟩ (loopIn Try.prog 80 5)) (runC Try.prog (envOf [(78,
 F_AH f_AH), (83, F_AG f_AG), (79, F_AF f_AF), (92, F_Af f_Af), (93, F_Ak f_Ak), (84, F_AE f_AE)]) ⟨[⟨5, u8GN2, []⟩], [⟨5,
 0, @R_AI_0 (@L_AI_0)⟩], [], [], (some ⟨0, u9GN2, []⟩)⟩ (tmpsOf Try.prog 80) 0 200 (loopIn Try.prog 80 5)) K 200 (St.mk [un,
 un, un, un, AV.r (RV.c (CV.ptr 0 (Off.k 0) 2)), AV.r (RV.c (CV.ptr 1 (Off.k 0) 2)), rI x0, un, un, un, un, un, un, un, un, un, un, un, un, un, un, un, un, un, un, un, un, un,
 un, un, un, un, un, un, un, un, un, un, un, un, un, un, un, un, un, un, un, un, un, un, un] [some [sU x1, sU x2], some [sU x3,
 sU x4]] []) = L_AI_0 (x0, x1, x2, x3, x4) (fun d => K (AX.ex 0) (St.mk [un, un, un, un, AV.r (RV.c (CV.ptr 0 (Off.k 0) 2)), AV.r (RV.c (CV.ptr 1 (Off.k 0) 2)), rI d.1, un, un, un, un, un, un, un,
 un, un, un, un, un, rI d.1, rB d.2.1, un, un, un, un, un, un, un, un, un, un, un, un, un, un, un, un, un, un, un, un, un, un, un, un,
 un, un, un, un, un, un] [some [sU d.2.2.1, sU d.2.2.2.1], some [sU d.c4.1, sU d.c4.2]] [])) := iter_loopX (emb := fun (d : Int × Int × Int × Int × Int) => St.mk [un,
 un, un, un, AV.r (RV.c (CV.ptr 0 (Off.k 0) 2)), AV.r (RV.c (CV.ptr 1 (Off.k 0) 2)), rI d.1, un, un, un, un, un, un, un, un, un, un, un, un, un, un, un, un, un, un, un, un, un,
 un, un, un, un, un, un, un, un, un, un, un, un, un, un, un, un, un, un, un, un, un, un, un] [some [sU d.2.1, sU d.2.2.1], some [sU d.2.2.2.1,
 sU d.c4]] []) (step := fun d c x => S_AI_0 f_AH f_AG f_AF f_Af f_Ak f_AE d.1 d.2.1 d.2.2.1 d.2.2.2.1 d.c4 c x) (kx := (fun d => K (AX.ex 0) (St.mk [un, un, un, un, AV.r (RV.c (CV.ptr 0 (Off.k 0) 2)), AV.r (RV.c (CV.ptr 1 (Off.k 0) 2)), rI d.1,
 un, un, un, un, un, un, un, un, un, un, un, un, rI d.1, rB d.2.1, un, un, un, un, un, un, un, un, un, un, un, un, un, un, un, un, un,
 un, un, un, un, un, un, un, un, un, un, un, un, un] [some [sU d.2.2.1, sU d.2.2.2.1], some [sU d.c4.1, sU d.c4.2]] []))) (fun d c => ds_AI_0 f_AH f_AG f_AF f_Af f_Ak f_AE (@L_AI_0) d.1 d.2.1 d.2.2.1 d.2.2.2.1 d.c4 c K) 200 (x0,
 x1, x2, x3, x4)
theorem so_AI_0 [Amb] : ∀ kk, SumOK Try.prog (envOf [(78, F_AH f_AH), (83, F_AG f_AG), (79, F_AF f_AF), (92, F_Af f_Af), (93, F_Ak f_Ak), (84, F_AE f_AE)]) ⟨[⟨5, u8GN2, []⟩], [⟨5, 0, @R_AI_0 (@L_AI_0)⟩], [], [], (some ⟨0, u9GN2, []⟩)⟩ (tmpsOf Try.prog 80) kk 200 (loopIn Try.prog 80 5) := SumOK.of (id := 5) (k0 := 0) (run := @R_AI_0 (@L_AI_0)) (by kernel_rfl) fun s K r hr => by
    unfold R_AI_0 at hr
    obtain ⟨b, hb, hr1⟩ := Option.bind_eq_some_iff.1 hr
    have e := ((Q_AI_0).ok s b hb).trans (q_AI_0 b)
    subst e
    exact ⟨200, (it_AI_0 b.1.c4.2.2.1 b.2.1.1.1 b.2.1.1.2.1 b.2.1.2.1.1 b.2.1.2.1.2.1 K).trans hr1⟩
def K_AI {ρ : Type} (g_AH : t18GN2) (g_AG : t19GN2) (g_AF : t18GN2) (g_Af : t31GN2) (g_Ak : t19GN2) (g_AE : t20GN2) (l_0 : ∀ {ρ : Type}, (Int × Int × Int × Int × Int) → ((Int × Bool × Int × Int × Int × Int) → Option ρ) → Option ρ) (x0 : Int) (x1 : Int) (k : (Int × Bool) → Option ρ) : Option ρ := bif decide (x0 < 0) then k (0, false) else l_0 (126, IntKind.wrap .u64 x0, x1, 0, 0) fun (d : Int × Bool ×
 Int × Int × Int × Int) => Option.bind (g_Af d.c4.1 d.c4.2 d.2.2.1 d.2.2.2.1) fun (d_1 : Bool) => bif d_1 then Option.bind (g_AG d.c4.1 d.c4.2 0 1) fun (d : Int × Int) => Option.bind (g_AE d.1 d.2 false) fun (d : Int × Bool) => k (d.1, d.2) else Option.bind (g_AE d.c4.1 d.c4.2 false) fun (d : Int ×
 Bool) => k (d.1, d.2)
def f_AI (x0 : Int) (x1 : Int) : Option (Int × Bool) := K_AI f_AH f_AG f_AF f_Af f_Ak f_AE (@L_AI_0) x0 x1 some
section
open Go.Ab.Rdr
def QA_AI := ((pair (cons (ar (ra (cons (gc (cf (fi .i64 hole))) (cons (gc (cf (fi .u64 hole))) nil)))) nil) nil) : Rdr (List AV × List Blk) _)
end
def F_AI (f : (Int) → (Int) → Option (Int × Bool)) : Sem1 := fun args h => match (QA_AI).rd (args, h) with
  | some b => .opt (f b.1.1.1 b.1.1.2.1) fun (d : Int × Bool) => .leaf (Res.mk (AV.tup [RV.c (fI d.1), RV.c (CV.f (FV.b d.2))]) [] [])
  | none => .fail
theorem d_AI (g_AH : t18GN2) (g_AG : t19GN2) (g_AF : t18GN2) (g_Af : t31GN2) (g_Ak : t19GN2) (g_AE : t20GN2) (l_0 : ∀ {ρ : Type},
 (Int × Int × Int × Int × Int) → ((Int × Bool × Int × Int × Int × Int) → Option ρ) → Option ρ) (x0 : Int) (x1 : Int) : den Try.prog (envOf [(78, F_AH g_AH), (83, F_AG g_AG), (79, F_AF g_AF), (92, F_Af g_Af), (93, F_Ak g_Ak), (84, F_AE g_AE)]) ⟨[⟨5, u8GN2, []⟩], [⟨5, 0, @R_AI_0 (@l_0)⟩], [], [], (some ⟨0, u9GN2, []⟩)⟩ 200 80 [.r (.agg [.c (.f (.i .i64 x0)), .c (.f (.i .u64 x1))])] [] = K_AI g_AH g_AG g_AF g_Af g_Ak g_AE (@l_0) x0 x1 (fun (d : Int × Bool) => some (Res.mk (AV.tup [RV.c (fI d.1), RV.c (CV.f (FV.b d.2))]) [] [])) := by kernel_rfl
theorem m_AI {ρ σ : Type} (q : ρ → Option σ) (g_AH : t18GN2) (g_AG : t19GN2) (g_AF : t18GN2) (g_Af : t31GN2) (g_Ak : t19GN2) (g_AE : t20GN2) (l_0 : ∀ {ρ : Type}, (Int × Int × Int × Int × Int) → ((Int × Bool × Int × Int × Int × Int) → Option ρ) → Option ρ) (hl_0 : ∀ {ρ σ : Type} (q : ρ → Option σ) (d : Int × Int × Int × Int × Int) (k : (Int × Bool × Int × Int × Int × Int) → Option ρ), (l_0 d k).bind q = l_0 d fun x => (k x).bind q) (x0 : Int) (x1 : Int) (k : (Int × Bool) → Option ρ) : (K_AI g_AH g_AG g_AF g_Af g_Ak g_AE (@l_0) x0 x1 k).bind q = K_AI g_AH g_AG g_AF g_Af g_Ak g_AE (@l_0) x0 x1 (fun d => (k d).bind q) := by
  simp only [K_AI, bnd_cond, bnd_bind, bnd_none, bnd_sum, hl_0]
theorem qa_AI : ∀ b, (QA_AI).em b = ([.r (.agg [.c (.f (.i .i64 b.1.1.1)), .c (.f (.i .u64 b.1.1.2.1))])], []) := fun b => by kernel_rfl
theorem e_AI {f : (Int) → (Int) → Option (Int × Bool)} {args : List AV} {h : List Blk} {r : Res} (hr : (F_AI f args h).eval = some r) : ∃ x0 x1, args = [.r (.agg [.c (.f (.i .i64 x0)), .c (.f (.i .u64 x1))])] ∧ h = [] ∧ (f x0 x1).bind (fun (d : Int × Bool) => some (Res.mk (AV.tup [RV.c (fI d.1), RV.c (CV.f (FV.b d.2))]) [] [])) = some r := by
  unfold F_AI at hr
  split at hr
  · rename_i b hb
    have e := ((QA_AI).ok _ _ hb).trans (qa_AI b)
    rw [opt_eval2] at hr
    exact ⟨b.1.1.1, b.1.1.2.1, (Prod.mk.inj e).1, (Prod.mk.inj e).2, hr⟩
  · cases hr
theorem n_AI {σ : Type} (q : (Int × Bool) → Option σ) (x0 : Int) (x1 : Int) : (f_AI x0 x1).bind q = K_AI f_AH f_AG f_AF f_Af f_Ak f_AE (@L_AI_0) x0 x1 q := by
  unfold f_AI
  exact m_AI q f_AH f_AG f_AF f_Af f_Ak f_AE (@L_AI_0) (fun q d k => mL_AI_0 q d k) x0 x1 some
theorem s_AI [Amb] : Sound Try.prog 80 (F_AI f_AI) := (inl_sums (l := [(78, F_AH f_AH), (83, F_AG f_AG), (79, F_AF f_AF), (92, F_Af f_Af), (93, F_Ak f_Ak), (84, F_AE f_AE)]) (.cons s_AH (.cons s_AG (.cons s_AF (.cons s_Af (.cons s_Ak (.cons s_AE (.nil _))))))) mixed (hs := ⟨[⟨5, u8GN2, []⟩], [⟨5, 0, @R_AI_0 (@L_AI_0)⟩], [], [], (some ⟨0, u9GN2, []⟩)⟩) (lf := 200) (Sums.by (l := [loopIn Try.prog 80 5]) (lj := []) (by kernel_rfl) ⟨so_AI_0, trivial⟩ (by kernel_rfl) trivial) (by kernel_rfl)).by (F := F_AI f_AI) fun args b r hr => by
  obtain ⟨x0, x1, rfl, rfl, hr1⟩ := e_AI hr
  exact inl_eval ((d_AI f_AH f_AG f_AF f_Af f_Ak f_AE (@L_AI_0) x0 x1).trans ((n_AI (fun (d : Int × Bool) => some (Res.mk (AV.tup [RV.c (fI d.1), RV.c (CV.f (FV.b d.2))]) [] [])) x0 x1).symm.trans hr1))

def K_Ax {ρ : Type} (g_AI : t32GN2) (g_J : t23GN2) (x0 : Int) (x1 : Int) (x2 : Bool) (k : (Int × Bool) → Option ρ) : Option ρ := Option.bind (g_AI x0 x1) fun (d : Int × Bool) => bif !d.2 then Option.bind (g_J 1152921504606846977 x2) fun (d : Int × Bool) => k (d.1,
 d.2) else Option.bind (g_J d.1 x2) fun (d : Int × Bool) => k (d.1, d.2)
def f_Ax (x0 : Int) (x1 : Int) (x2 : Bool) : Option (Int × Bool) := K_Ax f_AI f_J  x0 x1 x2 some
section
open Go.Ab.Rdr
def QA_Ax := ((pair (cons (ar (rc (cptr (nat 0) (ok' (nat 0)) (nat 1)))) (cons (ar (ra (cons (gc (cf (fi .i64 hole))) (cons (gc (cf (fi .u64 hole))) nil)))) nil)) (cons (cons (gc (cf (fb hole))) nil) nil)) : Rdr (List AV × List Blk) _)
end
def F_Ax (f : (Int) → (Int) → (Bool) → Option (Int × Bool)) : Sem1 := fun args h => match (QA_Ax).rd (args, h) with
  | some b => .opt (f b.1.2.1.1 b.1.2.1.2.1 b.2.1.1) fun (d : Int × Bool) => .leaf (Res.mk (rI d.1) [Ch.set [sB d.2]] [])
  | none => .fail
theorem d_Ax (g_AI : t32GN2) (g_J : t23GN2) (x0 : Int) (x1 : Int) (x2 : Bool) : den Try.prog (envOf [(80, F_AI g_AI), (52, F_J g_J)]) ⟨[], [], [], [], none⟩ 200 59 [.r (.c (.ptr 0 (.k 0) 1)), .r (.agg [.c (.f (.i .i64 x0)), .c (.f (.i .u64 x1))])] [[.c (.f (.b x2))]] = K_Ax g_AI g_J x0 x1 x2 (fun (d : Int ×
 Bool) => some (Res.mk (rI d.1) [Ch.set [sB d.2]] [])) := by kernel_rfl
theorem m_Ax {ρ σ : Type} (q : ρ → Option σ) (g_AI : t32GN2) (g_J : t23GN2)   (x0 : Int) (x1 : Int) (x2 : Bool) (k : (Int × Bool) → Option ρ) : (K_Ax g_AI g_J  x0 x1 x2 k).bind q = K_Ax g_AI g_J  x0 x1 x2 (fun d => (k d).bind q) := by
  simp only [K_Ax, bnd_cond, bnd_bind, bnd_none, bnd_sum]
theorem qa_Ax : ∀ b, (QA_Ax).em b = ([.r (.c (.ptr 0 (.k 0) 1)), .r (.agg [.c (.f (.i .i64 b.1.2.1.1)), .c (.f (.i .u64 b.1.2.1.2.1))])], [[.c (.f (.b b.2.1.1))]]) := fun b => by kernel_rfl
theorem e_Ax {f : (Int) → (Int) → (Bool) → Option (Int × Bool)} {args : List AV} {h : List Blk} {r : Res} (hr : (F_Ax f args h).eval = some r) : ∃ x0 x1 x2, args = [.r (.c (.ptr 0 (.k 0) 1)), .r (.agg [.c (.f (.i .i64 x0)), .c (.f (.i .u64 x1))])] ∧ h = [[.c (.f (.b x2))]] ∧ (f x0 x1 x2).bind (fun (d : Int × Bool) => some (Res.mk (rI d.1) [Ch.set [sB d.2]] [])) = some r := by
  unfold F_Ax at hr
  split at hr
  · rename_i b hb
    have e := ((QA_Ax).ok _ _ hb).trans (qa_Ax b)
    rw [opt_eval2] at hr
    exact ⟨b.1.2.1.1, b.1.2.1.2.1, b.2.1.1, (Prod.mk.inj e).1, (Prod.mk.inj e).2, hr⟩
  · cases hr
theorem n_Ax {σ : Type} (q : (Int × Bool) → Option σ) (x0 : Int) (x1 : Int) (x2 : Bool) : (f_Ax x0 x1 x2).bind q = K_Ax f_AI f_J  x0 x1 x2 q := by
  unfold f_Ax
  exact m_Ax q f_AI f_J   x0 x1 x2 some
theorem s_Ax [Amb] : Sound Try.prog 59 (F_Ax f_Ax) := (inl_sound (l := [(80, F_AI f_AI), (52, F_J f_J)]) (.cons s_AI (.cons s_J (.nil _))) mixed [] [] 200 (by kernel_rfl)).by (F := F_Ax f_Ax) fun args b r hr => by
  obtain ⟨x0, x1, x2, rfl, rfl, hr1⟩ := e_Ax hr
  exact inl_eval ((d_Ax f_AI f_J  x0 x1 x2).trans ((n_Ax (fun (d : Int × Bool) => some (Res.mk (rI d.1) [Ch.set [sB d.2]] [])) x0 x1 x2).symm.trans hr1))

def K_Ay {ρ : Type} (g_J : t23GN2) (g_Ae : t17GN2) (g_Ax : t20GN2) (x0 : Int) (x1 : Bool) (k : (Int × Bool) → Option ρ) : Option ρ := Option.bind (g_J x0 x1) fun (d : Int × Bool) => bif decide (d.1 < 0) then k (0,
 true) else Option.bind (g_Ae d.1 30) fun (d_1 : Int × Int × Bool) => Option.bind (g_Ax d_1.1 d_1.2.1 d.2) fun (d : Int × Bool) => k (d.1, d.2)
def f_Ay (x0 : Int) (x1 : Bool) : Option (Int × Bool) := K_Ay f_J f_Ae f_Ax  x0 x1 some
section
open Go.Ab.Rdr
def QA_Ay := ((pair (cons (ar (rc (cptr (nat 0) (ok' (nat 0)) (nat 1)))) (cons (ar (rc (cf (fi .i64 hole)))) nil)) (cons (cons (gc (cf (fb hole))) nil) nil)) : Rdr (List AV × List Blk) _)
end
def F_Ay (f : (Int) → (Bool) → Option (Int × Bool)) : Sem1 := fun args h => match (QA_Ay).rd (args, h) with
  | some b => .opt (f b.1.2.1 b.2.1.1) fun (d : Int × Bool) => .leaf (Res.mk (rI d.1) [Ch.set [sB d.2]] [])
  | none => .fail
theorem d_Ay (g_J : t23GN2) (g_Ae : t17GN2) (g_Ax : t20GN2) (x0 : Int) (x1 : Bool) : den Try.prog (envOf [(52, F_J g_J), (58, F_Ae g_Ae), (59, F_Ax g_Ax)]) ⟨[], [], [], [], none⟩ 200 33 [.r (.c (.ptr 0 (.k 0) 1)),
 rI x0] [[.c (.f (.b x1))]] = K_Ay g_J g_Ae g_Ax x0 x1 (fun (d : Int × Bool) => some (Res.mk (rI d.1) [Ch.set [sB d.2]] [])) := by kernel_rfl
theorem m_Ay {ρ σ : Type} (q : ρ → Option σ) (g_J : t23GN2) (g_Ae : t17GN2) (g_Ax : t20GN2)   (x0 : Int) (x1 : Bool) (k : (Int × Bool) → Option ρ) : (K_Ay g_J g_Ae g_Ax  x0 x1 k).bind q = K_Ay g_J g_Ae g_Ax  x0 x1 (fun d => (k d).bind q) := by
  simp only [K_Ay, bnd_cond, bnd_bind, bnd_none, bnd_sum]
theorem qa_Ay : ∀ b, (QA_Ay).em b = ([.r (.c (.ptr 0 (.k 0) 1)), rI b.1.2.1], [[.c (.f (.b b.2.1.1))]]) := fun b => by kernel_rfl
theorem e_Ay {f : (Int) → (Bool) → Option (Int × Bool)} {args : List AV} {h : List Blk} {r : Res} (hr : (F_Ay f args h).eval = some r) : ∃ x0 x1, args = [.r (.c (.ptr 0 (.k 0) 1)), rI x0] ∧ h = [[.c (.f (.b x1))]] ∧ (f x0 x1).bind (fun (d : Int × Bool) => some (Res.mk (rI d.1) [Ch.set [sB d.2]] [])) = some r := by
  unfold F_Ay at hr
  split at hr
  · rename_i b hb
    have e := ((QA_Ay).ok _ _ hb).trans (qa_Ay b)
    rw [opt_eval2] at hr
    exact ⟨b.1.2.1, b.2.1.1, (Prod.mk.inj e).1, (Prod.mk.inj e).2, hr⟩
  · cases hr
theorem n_Ay {σ : Type} (q : (Int × Bool) → Option σ) (x0 : Int) (x1 : Bool) : (f_Ay x0 x1).bind q = K_Ay f_J f_Ae f_Ax  x0 x1 q := by
  unfold f_Ay
  exact m_Ay q f_J f_Ae f_Ax   x0 x1 some
theorem s_Ay [Amb] : Sound Try.prog 33 (F_Ay f_Ay) := (inl_sound (l := [(52, F_J f_J), (58, F_Ae f_Ae), (59, F_Ax f_Ax)]) (.cons s_J (.cons s_Ae (.cons s_Ax (.nil _)))) mixed [] [] 200 (by kernel_rfl)).by (F := F_Ay f_Ay) fun args b r hr => by
  obtain ⟨x0, x1, rfl, rfl, hr1⟩ := e_Ay hr
  exact inl_eval ((d_Ay f_J f_Ae f_Ax  x0 x1).trans ((n_Ay (fun (d : Int × Bool) => some (Res.mk (rI d.1) [Ch.set [sB d.2]] [])) x0 x1).symm.trans hr1))

def K_At {ρ : Type} (g_J : t23GN2) (g_Ae : t17GN2) (g_Ai : t16GN2) (x0 : Int) (x1 : Int) (x2 : Int) (x3 : Bool) (k : (Int × Bool) → Option ρ) : Option ρ := Option.bind (g_J x0 x3) fun (d : Int × Bool) => Option.bind (g_J x1 d.2) fun (d_1 : Int ×
 Bool) => bif decide (x2 < 0) then k (0, true) else bif decide (x2 > 66) then k (0, true) else Option.bind (g_Ae d.1 x2) fun (d : Int × Int × Bool) => Option.bind (g_Ai d.1 d.2.1 d_1.1 d_1.2) fun (d : Int × Bool) => k (d.1, d.2)
def f_At (x0 : Int) (x1 : Int) (x2 : Int) (x3 : Bool) : Option (Int × Bool) := K_At f_J f_Ae f_Ai  x0 x1 x2 x3 some
section
open Go.Ab.Rdr
def QA_At := ((pair (cons (ar (rc (cptr (nat 0) (ok' (nat 0)) (nat 1)))) (cons (ar (rc (cf (fi .i64 hole)))) (cons (ar (rc (cf (fi .i64 hole)))) (cons (ar (rc (cf (fi .i64 hole)))) nil)))) (cons (cons (gc (cf (fb hole))) nil) nil)) : Rdr (List AV × List Blk) _)
end
def F_At (f : (Int) → (Int) → (Int) → (Bool) → Option (Int × Bool)) : Sem1 := fun args h => match (QA_At).rd (args, h) with
  | some b => .opt (f b.1.2.1 b.1.2.2.1 b.1.2.2.2.1 b.2.1.1) fun (d : Int × Bool) => .leaf (Res.mk (rI d.1) [Ch.set [sB d.2]] [])
  | none => .fail
theorem d_At (g_J : t23GN2) (g_Ae : t17GN2) (g_Ai : t16GN2) (x0 : Int) (x1 : Int) (x2 : Int) (x3 : Bool) : den Try.prog (envOf [(52, F_J g_J), (58, F_Ae g_Ae), (50, F_Ai g_Ai)]) ⟨[], [], [], [], none⟩ 200 34 [.r (.c (.ptr 0 (.k 0) 1)),
 rI x0, rI x1, rI x2] [[.c (.f (.b x3))]] = K_At g_J g_Ae g_Ai x0 x1 x2 x3 (fun (d : Int × Bool) => some (Res.mk (rI d.1) [Ch.set [sB d.2]] [])) := by kernel_rfl
theorem m_At {ρ σ : Type} (q : ρ → Option σ) (g_J : t23GN2) (g_Ae : t17GN2) (g_Ai : t16GN2)   (x0 : Int) (x1 : Int) (x2 : Int) (x3 : Bool) (k : (Int × Bool) → Option ρ) : (K_At g_J g_Ae g_Ai  x0 x1 x2 x3 k).bind q = K_At g_J g_Ae g_Ai  x0 x1 x2 x3 (fun d => (k d).bind q) := by
  simp only [K_At, bnd_cond, bnd_bind, bnd_none, bnd_sum]
theorem qa_At : ∀ b, (QA_At).em b = ([.r (.c (.ptr 0 (.k 0) 1)), rI b.1.2.1, rI b.1.2.2.1, rI b.1.2.2.2.1], [[.c (.f (.b b.2.1.1))]]) := fun b => by kernel_rfl
theorem e_At {f : (Int) → (Int) → (Int) → (Bool) → Option (Int × Bool)} {args : List AV} {h : List Blk} {r : Res} (hr : (F_At f args h).eval = some r) : ∃ x0 x1 x2 x3, args = [.r (.c (.ptr 0 (.k 0) 1)), rI x0, rI x1, rI x2] ∧ h = [[.c (.f (.b x3))]] ∧ (f x0 x1 x2 x3).bind (fun (d : Int × Bool) => some (Res.mk (rI d.1) [Ch.set [sB d.2]] [])) = some r := by
  unfold F_At at hr
  split at hr
  · rename_i b hb
    have e := ((QA_At).ok _ _ hb).trans (qa_At b)
    rw [opt_eval2] at hr
    exact ⟨b.1.2.1, b.1.2.2.1, b.1.2.2.2.1, b.2.1.1, (Prod.mk.inj e).1, (Prod.mk.inj e).2, hr⟩
  · cases hr
theorem n_At {σ : Type} (q : (Int × Bool) → Option σ) (x0 : Int) (x1 : Int) (x2 : Int) (x3 : Bool) : (f_At x0 x1 x2 x3).bind q = K_At f_J f_Ae f_Ai  x0 x1 x2 x3 q := by
  unfold f_At
  exact m_At q f_J f_Ae f_Ai   x0 x1 x2 x3 some
theorem s_At [Amb] : Sound Try.prog 34 (F_At f_At) := (inl_sound (l := [(52, F_J f_J), (58, F_Ae f_Ae), (50, F_Ai f_Ai)]) (.cons s_J (.cons s_Ae (.cons s_Ai (.nil _)))) mixed [] [] 200 (by kernel_rfl)).by (F := F_At f_At) fun args b r hr => by
  obtain ⟨x0, x1, x2, x3, rfl, rfl, hr1⟩ := e_At hr
  exact inl_eval ((d_At f_J f_Ae f_Ai  x0 x1 x2 x3).trans ((n_At (fun (d : Int × Bool) => some (Res.mk (rI d.1) [Ch.set [sB d.2]] [])) x0 x1 x2 x3).symm.trans hr1))

def K_AW {ρ : Type} (g_AN : t33GN2) (g_As : t20GN2) (g_S : t16GN2) (g_AZ : t23GN2) (g_Ar : t23GN2) (g_Ay : t23GN2) (g_At : t16GN2) (x0 : Int) (x1 : Int) (x2 : Int) (k : (Unit ⊕ Int × Int × Int × Int × Int) → Option ρ) : Option ρ := Option.bind (g_AN x0 x1 x2) fun (d : Bool) => bif !d then k (Sum.inl ()) else bif decide (x0 > 850000000) then k (Sum.inl ()) else bif decide (x0 < -850000000) then k (Sum.inl ()) else
 Option.bind (g_S x0 3373259426 1800000000 false) fun (d : Int × Bool) => Option.bind (g_AZ d.1 d.2) fun (d_1 : Int × Bool) => Option.bind (g_Ar d.1 d_1.2) fun (d : Int × Bool) => Option.bind (g_As d_1.1 d_1.1 d.2) fun (d_2 : Int × Bool) => Option.bind (g_As 7188036 d_2.1 d_2.2) fun (d_3 : Int × Bool) => Option.bind (g_Ay (IntKind.wrap .i64 (1073741824 - d_3.1)) d_3.2) fun (d_4 : Int ×
 Bool) => Option.bind (g_At 6531212288 d_4.1 30 d_4.2) fun (d_5 : Int × Bool) => Option.bind (g_As 6531212288 1066553788 d_5.2) fun (d_6 : Int × Bool) => Option.bind (g_As (IntKind.wrap .i64 (1073741824 - d_3.1)) d_4.1 d_6.2) fun (d_7 : Int × Bool) => Option.bind (g_At d_6.1 d_7.1 30 d_7.2) fun (d_8 : Int ×
 Bool) => Option.bind (g_S d_8.1 3373259426 1800000000 d_8.2) fun (d_9 : Int × Bool) => Option.bind (g_As d_5.1 d.1 d_9.2) fun (d : Int × Bool) => Option.bind (g_S d.1 3373259426 1800000000 d.2) fun (d : Int × Bool) => k (Sum.inr (x0, x1, x2, d_9.1, d.1))
def f_AW (x0 : Int) (x1 : Int) (x2 : Int) : Option (Unit ⊕ Int × Int × Int × Int × Int) := K_AW f_AN f_As f_S f_AZ f_Ar f_Ay f_At  x0 x1 x2 some
section
open Go.Ab.Rdr
def QA_AW := ((pair (cons (ar (ra (cons (gc (cf (fi .i64 hole))) (cons (gc (cf (fi .i64 hole))) (cons (gc (cf (fi .i64 hole))) nil))))) nil) nil) : Rdr (List AV × List Blk) _)
end
def F_AW (f : (Int) → (Int) → (Int) → Option (Unit ⊕ Int × Int × Int × Int × Int)) : Sem1 := fun args h => match (QA_AW).rd (args, h) with
  | some b => .opt (f b.1.1.1 b.1.1.2.1 b.1.1.2.2.1) fun d0 => T.sum d0 (fun (d : Unit) => .leaf (Res.mk (AV.tup [RV.c CV.nilp, RV.c (fI 1)]) [] [])) (fun (d : Int × Int × Int × Int × Int) => .leaf (Res.mk (AV.tup [RV.c (CV.ptr 0 (Off.k 0) 5), RV.c (fI 0)]) []
    [[sI d.1, sI d.2.1, sI d.2.2.1, sI d.2.2.2.1,
        sI d.c4]]))
  | none => .fail
theorem d_AW (g_AN : t33GN2) (g_As : t20GN2) (g_S : t16GN2) (g_AZ : t23GN2) (g_Ar : t23GN2) (g_Ay : t23GN2) (g_At : t16GN2) (x0 : Int) (x1 : Int) (x2 : Int) : den Try.prog (envOf [(20, F_AN g_AN), (29, F_As g_As), (28, F_S g_S), (31, F_AZ g_AZ), (32, F_Ar g_Ar), (33, F_Ay g_Ay), (34, F_At g_At)]) ⟨[], [], [], [], none⟩ 200 10 [.r (.agg [.c (.f (.i .i64 x0)), .c (.f (.i .i64 x1)), .c (.f (.i .i64 x2))])] [] = K_AW g_AN g_As g_S g_AZ g_Ar g_Ay g_At x0 x1 x2 ((Sum.elim (fun (d : Unit) => some (Res.mk (AV.tup [RV.c CV.nilp,
 RV.c (fI 1)]) [] [])) (fun (d : Int × Int × Int × Int × Int) => some (Res.mk (AV.tup [RV.c (CV.ptr 0 (Off.k 0) 5), RV.c (fI 0)]) [] [[sI d.1, sI d.2.1, sI d.2.2.1, sI d.2.2.2.1,
 sI d.c4]])))) := by kernel_rfl
theorem m_AW {ρ σ : Type} (q : ρ → Option σ) (g_AN : t33GN2) (g_As : t20GN2) (g_S : t16GN2) (g_AZ : t23GN2) (g_Ar : t23GN2) (g_Ay : t23GN2) (g_At : t16GN2)   (x0 : Int) (x1 : Int) (x2 : Int) (k : (Unit ⊕ Int × Int × Int × Int × Int) → Option ρ) : (K_AW g_AN g_As g_S g_AZ g_Ar g_Ay g_At  x0 x1 x2 k).bind q = K_AW g_AN g_As g_S g_AZ g_Ar g_Ay g_At  x0 x1 x2 (fun d => (k d).bind q) := by
  simp only [K_AW, bnd_cond, bnd_bind, bnd_none, bnd_sum]
theorem qa_AW : ∀ b, (QA_AW).em b = ([.r (.agg [.c (.f (.i .i64 b.1.1.1)), .c (.f (.i .i64 b.1.1.2.1)), .c (.f (.i .i64 b.1.1.2.2.1))])], []) := fun b => by kernel_rfl
theorem e_AW {f : (Int) → (Int) → (Int) → Option (Unit ⊕ Int × Int × Int × Int × Int)} {args : List AV} {h : List Blk} {r : Res} (hr : (F_AW f args h).eval = some r) : ∃ x0 x1 x2, args = [.r (.agg [.c (.f (.i .i64 x0)), .c (.f (.i .i64 x1)), .c (.f (.i .i64 x2))])] ∧ h = [] ∧ (f x0 x1 x2).bind ((Sum.elim (fun (d : Unit) => some (Res.mk (AV.tup [RV.c CV.nilp,
 RV.c (fI 1)]) [] [])) (fun (d : Int × Int × Int × Int × Int) => some (Res.mk (AV.tup [RV.c (CV.ptr 0 (Off.k 0) 5), RV.c (fI 0)]) [] [[sI d.1, sI d.2.1, sI d.2.2.1, sI d.2.2.2.1,
 sI d.c4]])))) = some r := by
  unfold F_AW at hr
  split at hr
  · rename_i b hb
    have e := ((QA_AW).ok _ _ hb).trans (qa_AW b)
    rw [opt_eval2] at hr
    simp only [sum_eval, leaf_eval] at hr
    exact ⟨b.1.1.1, b.1.1.2.1, b.1.1.2.2.1, (Prod.mk.inj e).1, (Prod.mk.inj e).2, hr⟩
  · cases hr
theorem n_AW {σ : Type} (q : (Unit ⊕ Int × Int × Int × Int × Int) → Option σ) (x0 : Int) (x1 : Int) (x2 : Int) : (f_AW x0 x1 x2).bind q = K_AW f_AN f_As f_S f_AZ f_Ar f_Ay f_At  x0 x1 x2 q := by
  unfold f_AW
  exact m_AW q f_AN f_As f_S f_AZ f_Ar f_Ay f_At   x0 x1 x2 some
theorem s_AW [Amb] : Sound Try.prog 10 (F_AW f_AW) := (inl_sound (l := [(20, F_AN f_AN), (29, F_As f_As), (28, F_S f_S), (31, F_AZ f_AZ), (32, F_Ar f_Ar), (33, F_Ay f_Ay), (34, F_At f_At)]) (.cons s_AN (.cons s_As (.cons s_S (.cons s_AZ (.cons s_Ar (.cons s_Ay (.cons s_At (.nil _)))))))) mixed [] [] 200 (by kernel_rfl)).by (F := F_AW f_AW) fun args b r hr => by
  obtain ⟨x0, x1, x2, rfl, rfl, hr1⟩ := e_AW hr
  exact inl_eval ((d_AW f_AN f_As f_S f_AZ f_Ar f_Ay f_At  x0 x1 x2).trans ((n_AW ((Sum.elim (fun (d : Unit) => some (Res.mk (AV.tup [RV.c CV.nilp, RV.c (fI 1)]) [] [])) (fun (d : Int × Int × Int × Int × Int) => some (Res.mk (AV.tup [RV.c (CV.ptr 0 (Off.k 0) 5), RV.c (fI 0)]) []
    [[sI d.1, sI d.2.1, sI d.2.2.1, sI d.2.2.2.1,
        sI d.c4]])))) x0 x1 x2).symm.trans hr1))

def S_AA_0 {ρ : Type} (x0 : Nat) (x1 : Bool) (x2 : Int) (x3 : Int) (x4 : Nat) (x5 : Nat → Int) (x6 : Nat → Int) (x7 : Nat → Int) (c : (Nat × Bool × Int × Int × Nat × NI × NI × NI) → Option ρ) (x : (Nat × Bool × Int × Int × Bool × Nat × NI × NI × NI) →
 Option ρ) : Option ρ := bif decide (x3 < x2) then bif inR x3 x0 then bif decide (x5 (Int.toNat x3) ≥ 0) then bif decide (x5 (Int.toNat x3) < 24) then bif inR (x5 (Int.toNat x3)) 24 then bif true && Nat.ble (0 + Int.toNat (x5 (Int.toNat x3)) * 1 + 1) 24 then c (x0, x1, x2, IntKind.wrap .i64 (x3 + 1),
 x4, x5, x6, fun (j : Nat) => bif Nat.beq j (Int.toNat (x5 (Int.toNat x3))) then 1073741824 else x7 j) else none else none else c (x0, x1, x2, IntKind.wrap .i64 (x3 + 1), x4, x5, x6, x7) else c (x0, x1, x2, IntKind.wrap .i64 (x3 + 1), x4, x5, x6, x7) else none else x (x0, x1, x2, x3, decide (x3 < x2),
 x4, x5, x6, x7)
section
open Go.Ab.Rdr
def Q_AA_0 := (st (cons aund (cons aund (cons (ar (rc (cptr (nat 1) (ok' (nat 0)) (nat 24)))) (cons (ar (rc (cptr (nat 2) (ok' (nat 0)) (nat 24)))) (cons aund (cons aund (cons (ar (rc (csl (nat 0) (ok' (nat 0)) (szs hole) (nat 1) hole))) (cons (ar (rc (cf (fi .i64 hole)))) (cons (ar (rc (cf (fi .i64 hole)))) (cons aund (cons aund (cons aund (cons aund (cons aund (cons aund (cons aund (cons aund (cons aund (cons aund (cons aund (cons aund (cons aund nil)))))))))))))))))))))) (cons (some' (cons (ga (szs hole) (cons (ki .i64 hole) nil)) nil)) (cons (some' (cons (ga (szl (nat 24)) (cons (ki .i64 hole) nil)) nil)) (cons (some' (cons (ga (szl (nat 24)) (cons (ki .i64 hole) nil)) nil)) nil))) nil)
end
theorem q_AA_0 : ∀ b, (Q_AA_0).em b = St.mk [un, un, AV.r (RV.c (CV.ptr 1 (Off.k 0) 24)), AV.r (RV.c (CV.ptr 2 (Off.k 0) 24)), un, un, AV.r (RV.c (CV.sl 0 (Off.k 0) (Sz.s b.1.c4.2.2.1.2.2.1) 1 b.1.c4.2.2.1.c4)), rI b.1.c4.2.2.2.1,
 rI b.1.c8.1, un, un, un, un, un, un, un, un, un, un, un, un, un] [some [Sg.a (Sz.s b.2.1.1.1.1) [kI b.2.1.1.1.2.1]], some [Sg.a (Sz.l 24) [kI b.2.1.2.1.1.2.1]], some [Sg.a (Sz.l 24) [kI b.2.1.2.2.1.1.2.1]]] [] := fun b => by kernel_rfl
def R_AA_0 (l : ∀ {ρ : Type}, (Nat × Bool × Int × Int × Nat × NI × NI × NI) → ((Nat × Bool × Int × Int × Bool × Nat × NI × NI × NI) → Option ρ) → Option ρ) {ρ : Type} (s : St) (K : AX → St → Option ρ) : Option ρ := ((Q_AA_0).rd s).bind fun b => l (b.1.c4.2.2.1.2.2.1,
 b.1.c4.2.2.1.c4, b.1.c4.2.2.2.1, b.1.c8.1, b.2.1.1.1.1, b.2.1.1.1.2.1, b.2.1.2.1.1.2.1, b.2.1.2.2.1.1.2.1) (fun d => K (AX.ex 0) (St.mk [un, un, AV.r (RV.c (CV.ptr 1 (Off.k 0) 24)), AV.r (RV.c (CV.ptr 2 (Off.k 0) 24)), un, un, AV.r (RV.c (CV.sl 0 (Off.k 0) (Sz.s d.1) 1 d.2.1)),
 rI d.2.2.1, rI d.2.2.2.1, rB d.c4.1, un, un, un, un, un, un, un, un, un, un, un, un] [some [Sg.a (Sz.s d.c4.2.1) [kI d.c4.2.2.1]],
 some [Sg.a (Sz.l 24) [kI d.c4.2.2.2.1]], some [Sg.a (Sz.l 24) [kI d.c8]]] []))
theorem ms_AA_0 {ρ σ : Type}    (q : ρ → Option σ) (x0 : Nat) (x1 : Bool) (x2 : Int) (x3 : Int) (x4 : Nat) (x5 : Nat → Int) (x6 : Nat → Int) (x7 : Nat → Int) (c : (Nat × Bool × Int × Int × Nat × NI × NI × NI) → Option ρ) (x : (Nat × Bool × Int × Int × Bool × Nat × NI × NI × NI) → Option ρ) : (S_AA_0   x0 x1 x2 x3 x4 x5 x6 x7 c x).bind q = S_AA_0   x0 x1 x2 x3 x4 x5 x6 x7 (fun d => (c d).bind q) (fun d => (x d).bind q) := by
  simp only [S_AA_0, bnd_cond, bnd_bind, bnd_none, bnd_sum]
def L_AA_0 {ρ : Type} (d : Nat × Bool × Int × Int × Nat × NI × NI × NI) (k : (Nat × Bool × Int × Int × Bool × Nat × NI × NI × NI) → Option ρ) : Option ρ := loopK (fun d c x => S_AA_0   d.1 d.2.1 d.2.2.1 d.2.2.2.1 d.c4.1 d.c4.2.1 d.c4.2.2.1 d.c4.2.2.2 c x) 200 d k
theorem mL_AA_0 {ρ σ : Type} (q : ρ → Option σ) (d : Nat × Bool × Int × Int × Nat × NI × NI × NI) (k : (Nat × Bool × Int × Int × Bool × Nat × NI × NI × NI) → Option ρ) : (L_AA_0 d k).bind q = L_AA_0 d fun x => (k x).bind q := loopK_bind q (fun d c x => ms_AA_0 q d.1 d.2.1 d.2.2.1 d.2.2.2.1 d.c4.1 d.c4.2.1 d.c4.2.2.1 d.c4.2.2.2 c x) k _ d
theorem ds_AA_0 {ρ : Type} (l_0 : ∀ {ρ : Type}, (Nat × Bool × Int × Int × Nat × NI × NI × NI) → ((Nat × Bool × Int × Int × Bool × Nat × NI × NI × NI) → Option ρ) → Option ρ) (x0 : Nat) (x1 : Bool) (x2 : Int) (x3 : Int) (x4 : Nat) (x5 : Nat → Int) (x6 : Nat →
 Int) (x7 : Nat → Int) (c : St → Option ρ) (K : AX → St → Option ρ) : runC Try.prog (envOf []) ⟨[⟨3, [0, 1, 4, 5, 9, 10, 11, 12, 13, 14, 17, 18, 19, 20, 21, 15, 16], []⟩], [⟨3, 1, @R_AA_0 (@l_0)⟩], [], [], (some ⟨0, u10GN2, []⟩)⟩ (tmpsOf Try.prog 25) 1 200 (loopIn Try.prog 25 3) (St.mk [un,
 un, AV.r (RV.c (CV.ptr 1 (Off.k 0) 24)), AV.r (RV.c (CV.ptr 2 (Off.k 0) 24)), un, un, AV.r (RV.c (CV.sl 0 (Off.k 0) (Sz.s x0) 1 x1)), rI x2, rI x3, un, un, un, un, un, un, un, un, un,
 un, un, un, un] [some [Sg.a (Sz.s x4) [kI x5]], some [Sg.a (Sz.l 24) [kI x6]], some [Sg.a (Sz.l 24) [kI x7]]] []) (next (fun t => t.head 1 ⟨[⟨3, [0, 1, 4, 5, 9, 10, 11, 12, 13, 14, 17, 18, 19, 20, 21, 15, 16], []⟩], [⟨3, 1, @R_AA_0 (@l_0)⟩],
 [], [], (some ⟨0, u10GN2, []⟩)⟩ (loopIn Try.prog 25 3)) c K) = S_AA_0 x0 x1 x2 x3 x4 x5 x6 x7 (fun d => c (St.mk [un, un, AV.r (RV.c (CV.ptr 1 (Off.k 0) 24)), AV.r (RV.c (CV.ptr 2 (Off.k 0) 24)), un, un, AV.r (RV.c (CV.sl 0 (Off.k 0) (Sz.s d.1) 1 d.2.1)),
 rI d.2.2.1, rI d.2.2.2.1, un, un, un, un, un, un, un, un, un, un, un, un, un] [some [Sg.a (Sz.s d.c4.1) [kI d.c4.2.1]], some [Sg.a (Sz.l 24) [kI d.c4.2.2.1]],
 some [Sg.a (Sz.l 24) [kI d.c4.2.2.2]]] [])) (fun d => K (AX.ex 0) (St.mk [un, un, AV.r (RV.c (CV.ptr 1 (Off.k 0) 24)), AV.r (RV.c (CV.ptr 2 (Off.k 0) 24)), un, un, AV.r (RV.c (CV.sl 0 (Off.k 0) (Sz.s d.1) 1 d.2.1)), rI d.2.2.1, rI d.2.2.2.1,
 rB d.c4.1, un, un, un, un, un, un, un, un, un, un, un, un] [some [Sg.a (Sz.s d.c4.2.1) [kI d.c4.2.2.1]], some [Sg.a (Sz.l 24) [kI d.c4.2.2.2.1]], some [Sg.a (Sz.l 24) [kI d.c8]]] [])) := by kernel_rfl
theorem it_AA_0 {ρ : Type} (x0 : Nat) (x1 : Bool) (x2 : Int) (x3 : Int) (x4 : Nat) (x5 : Nat → Int) (x6 : Nat → Int) (x7 : Nat → Int) (K : AX → St → Option ρ) : iter (fun t => t.head 1 ⟨[⟨3, [0, 1, 4, 5, 9, 10, 11, 12, 13, 14, 17, 18, 19, 20, 21, 15, 16], []⟩], [⟨3, 1, @R_AA_0 (@L_AA_0)⟩], [], [], (some ⟨0,
 u10GN2, []⟩)⟩ (loopIn Try.prog 25 3)) (runC Try.prog (envOf []) ⟨[⟨3, [0, 1, 4, 5, 9, 10, 11, 12, 13, 14, 17, 18, 19, 20, 21, 15, 16], []⟩], [⟨3, 1, @R_AA_0 (@L_AA_0)⟩], [], [], (some ⟨0, u10GN2, []⟩)⟩ (tmpsOf Try.prog 25) 1 200 (loopIn Try.prog 25 3)) K 200 (St.mk [un, un, AV.r (RV.c (CV.ptr 1 (Off.k 0) 24)), AV.r (RV.c (CV.ptr 2 (Off.k 0) 24)), un, un, AV.r (RV.c (CV.sl 0 (Off.k 0) (Sz.s x0) 1 x1)), rI x2, rI x3,
 un, un, un, un, un, un, un, un, un, un, un, un, un] [some [Sg.a (Sz.s x4) [kI x5]], some [Sg.a (Sz.l 24) [kI x6]], some [Sg.a (Sz.l 24) [kI x7]]] []) = L_AA_0 (x0, x1, x2, x3, x4, x5, x6, x7) (fun d => K (AX.ex 0) (St.mk [un,
 un, AV.r (RV.c (CV.ptr 1 (Off.k 0) 24)), AV.r (RV.c (CV.ptr 2 (Off.k 0) 24)), un, un, AV.r (RV.c (CV.sl 0 (Off.k 0) (Sz.s d.1) 1 d.2.1)), rI d.2.2.1, rI d.2.2.2.1, rB d.c4.1, un, un,
 un, un, un, un, un, un, un, un, un, un] [some [Sg.a (Sz.s d.c4.2.1) [kI d.c4.2.2.1]], some [Sg.a (Sz.l 24) [kI d.c4.2.2.2.1]], some [Sg.a (Sz.l 24) [kI d.c8]]] [])) := iter_loopX (emb := fun (d : Nat ×
 Bool × Int × Int × Nat × NI × NI × NI) => St.mk [un, un, AV.r (RV.c (CV.ptr 1 (Off.k 0) 24)), AV.r (RV.c (CV.ptr 2 (Off.k 0) 24)), un, un, AV.r (RV.c (CV.sl 0 (Off.k 0) (Sz.s d.1) 1 d.2.1)), rI d.2.2.1, rI d.2.2.2.1,
 un, un, un, un, un, un, un, un, un, un, un, un, un] [some [Sg.a (Sz.s d.c4.1) [kI d.c4.2.1]], some [Sg.a (Sz.l 24) [kI d.c4.2.2.1]], some [Sg.a (Sz.l 24) [kI d.c4.2.2.2]]] []) (step := fun d c x => S_AA_0 d.1 d.2.1 d.2.2.1 d.2.2.2.1 d.c4.1 d.c4.2.1 d.c4.2.2.1 d.c4.2.2.2 c x) (kx := (fun d => K (AX.ex 0) (St.mk [un,
 un, AV.r (RV.c (CV.ptr 1 (Off.k 0) 24)), AV.r (RV.c (CV.ptr 2 (Off.k 0) 24)), un, un, AV.r (RV.c (CV.sl 0 (Off.k 0) (Sz.s d.1) 1 d.2.1)), rI d.2.2.1, rI d.2.2.2.1, rB d.c4.1, un, un,
 un, un, un, un, un, un, un, un, un, un] [some [Sg.a (Sz.s d.c4.2.1) [kI d.c4.2.2.1]], some [Sg.a (Sz.l 24) [kI d.c4.2.2.2.1]], some [Sg.a (Sz.l 24) [kI d.c8]]] []))) (fun d c => ds_AA_0 (@L_AA_0) d.1 d.2.1 d.2.2.1 d.2.2.2.1 d.c4.1 d.c4.2.1 d.c4.2.2.1 d.c4.2.2.2 c K) 200 (x0,
 x1, x2, x3, x4, x5, x6, x7)
theorem so_AA_0 [Amb] : ∀ kk, SumOK Try.prog (envOf []) ⟨[⟨3, [0, 1, 4, 5, 9, 10, 11, 12, 13, 14, 17, 18, 19, 20, 21, 15, 16], []⟩], [⟨3, 1, @R_AA_0 (@L_AA_0)⟩], [], [], (some ⟨0, u10GN2, []⟩)⟩ (tmpsOf Try.prog 25) kk 200 (loopIn Try.prog 25 3) := SumOK.of (id := 3) (k0 := 1) (run := @R_AA_0 (@L_AA_0)) (by kernel_rfl) fun s K r hr => by
    unfold R_AA_0 at hr
    obtain ⟨b, hb, hr1⟩ := Option.bind_eq_some_iff.1 hr
    have e := ((Q_AA_0).ok s b hb).trans (q_AA_0 b)
    subst e
    exact ⟨200, (it_AA_0 b.1.c4.2.2.1.2.2.1 b.1.c4.2.2.1.c4 b.1.c4.2.2.2.1 b.1.c8.1 b.2.1.1.1.1 b.2.1.1.1.2.1 b.2.1.2.1.1.2.1 b.2.1.2.2.1.1.2.1 K).trans hr1⟩
def K_AA {ρ : Type} (l_0 : ∀ {ρ : Type}, (Nat × Bool × Int × Int × Nat × NI × NI × NI) → ((Nat × Bool × Int × Int × Bool × Nat × NI × NI × NI) → Option ρ) → Option ρ) (x0 : Nat) (x1 : Nat → Int) (w0 : Bool) (k : NI → Option ρ) : Option ρ := l_0 (x0,
 w0, Int.ofNat x0, 0, x0, x1, fun (x : Nat) => 0, fun (x : Nat) => 0) fun (d : Nat × Bool × Int × Int × Bool × Nat × NI × NI × NI) => k d.c8
def f_AA (x0 : Nat) (x1 : Nat → Int) (w0 : Bool) : Option NI := K_AA  (@L_AA_0) x0 x1 w0 some
section
open Go.Ab.Rdr
def QA_AA := ((pair (cons (ar (rc (csl (nat 0) (ok' (nat 0)) (szs hole) (nat 1) hole))) nil) (cons (cons (ga (szs hole) (cons (ki .i64 hole) nil)) nil) nil)) : Rdr (List AV × List Blk) _)
end
def F0_AA (f : (Nat) → NI → (Bool) → Option NI) : Sem1 := fun args h => match (QA_AA).rd (args, h) with
  | some b => .test (Nat.beq b.2.1.1.1 b.1.1.2.2.1) (.opt (f b.1.1.2.2.1 b.2.1.1.2.1 b.1.1.c4) fun (d : Nat → Int) => .leaf (Res.mk (AV.r (RV.agg [Sg.a (Sz.l 24) [kI d]])) [Ch.keep] [])) .fail
  | none => .fail
def F_AA (f : (Nat) → NI → (Bool) → Option NI) : Sem1 := (nilF 0 [.i .i64] (F0_AA f))
theorem d_AA (l_0 : ∀ {ρ : Type}, (Nat × Bool × Int × Int × Nat × NI × NI × NI) → ((Nat × Bool × Int × Int × Bool × Nat × NI × NI × NI) → Option ρ) → Option ρ) (x0 : Nat) (x1 : Nat → Int) (w0 : Bool) : den Try.prog (envOf []) ⟨[⟨3, [0, 1, 4, 5, 9,
 10, 11, 12, 13, 14, 17, 18, 19, 20, 21, 15, 16], []⟩], [⟨3, 1, @R_AA_0 (@l_0)⟩], [], [], (some ⟨0, u10GN2, []⟩)⟩ 200 25 [.r (.c (.sl 0 (.k 0) (.s x0) 1 w0))] [[.a (.s x0) [.i .i64 x1]]] = K_AA (@l_0) x0 x1 w0 (fun (d : Nat → Int) => some (Res.mk (AV.r (RV.agg [Sg.a (Sz.l 24) [kI d]])) [Ch.keep] [])) := by kernel_rfl
theorem m_AA {ρ σ : Type} (q : ρ → Option σ)  (l_0 : ∀ {ρ : Type}, (Nat × Bool × Int × Int × Nat × NI × NI × NI) → ((Nat × Bool × Int × Int × Bool × Nat × NI × NI × NI) → Option ρ) → Option ρ) (hl_0 : ∀ {ρ σ : Type} (q : ρ → Option σ) (d : Nat × Bool × Int × Int × Nat × NI × NI × NI) (k : (Nat × Bool × Int × Int × Bool × Nat × NI × NI × NI) → Option ρ), (l_0 d k).bind q = l_0 d fun x => (k x).bind q) (x0 : Nat) (x1 : Nat → Int) (w0 : Bool) (k : NI → Option ρ) : (K_AA  (@l_0) x0 x1 w0 k).bind q = K_AA  (@l_0) x0 x1 w0 (fun d => (k d).bind q) := by
  simp only [K_AA, bnd_cond, bnd_bind, bnd_none, bnd_sum, hl_0]
theorem qa_AA : ∀ b, (QA_AA).em b = ([.r (.c (.sl 0 (.k 0) (.s b.1.1.2.2.1) 1 b.1.1.c4))], [[.a (.s b.2.1.1.1) [.i .i64 b.2.1.1.2.1]]]) := fun b => by kernel_rfl
theorem e_AA {f : (Nat) → NI → (Bool) → Option NI} {args : List AV} {h : List Blk} {r : Res} (hr : (F0_AA f args h).eval = some r) : ∃ x0 x1 w0, args = [.r (.c (.sl 0 (.k 0) (.s x0) 1 w0))] ∧ h = [[.a (.s x0) [.i .i64 x1]]] ∧ (f x0 x1 w0).bind (fun (d : Nat → Int) => some (Res.mk (AV.r (RV.agg [Sg.a (Sz.l 24) [kI d]])) [Ch.keep] [])) = some r := by
  unfold F0_AA at hr
  split at hr
  · rename_i b hb
    have e := ((QA_AA).ok _ _ hb).trans (qa_AA b)
    obtain ⟨he, hr1⟩ := test_eval hr
    clear hr
    have hr := hr1
    clear hr1
    rw [Nat.eq_of_beq_eq_true he] at e
    clear he
    rw [opt_eval2] at hr
    exact ⟨b.1.1.2.2.1, b.2.1.1.2.1, b.1.1.c4, (Prod.mk.inj e).1, (Prod.mk.inj e).2, hr⟩
  · cases hr
theorem n_AA {σ : Type} (q : NI → Option σ) (x0 : Nat) (x1 : Nat → Int) (w0 : Bool) : (f_AA x0 x1 w0).bind q = K_AA  (@L_AA_0) x0 x1 w0 q := by
  unfold f_AA
  exact m_AA q  (@L_AA_0) (fun q d k => mL_AA_0 q d k) x0 x1 w0 some
theorem s_AA [Amb] : Sound Try.prog 25 (F_AA f_AA) := Sound.nil 0 [.i .i64] <| (inl_sums (l := []) (.nil _) mixed (hs := ⟨[⟨3, [0, 1, 4, 5, 9, 10, 11, 12, 13, 14, 17, 18, 19, 20, 21, 15, 16], []⟩], [⟨3, 1, @R_AA_0 (@L_AA_0)⟩], [], [], (some ⟨0, u10GN2, []⟩)⟩) (lf := 200) (Sums.by (l := [loopIn Try.prog 25 3]) (lj := []) (by kernel_rfl) ⟨so_AA_0, trivial⟩ (by kernel_rfl) trivial) (by kernel_rfl)).by (F := F0_AA f_AA) fun args b r hr => by
  obtain ⟨x0, x1, w0, rfl, rfl, hr1⟩ := e_AA hr
  exact inl_eval ((d_AA  (@L_AA_0) x0 x1 w0).trans ((n_AA (fun (d : Nat → Int) => some (Res.mk (AV.r (RV.agg [Sg.a (Sz.l 24) [kI d]])) [Ch.keep] [])) x0 x1 w0).symm.trans hr1))

def K_Az {ρ : Type} (g_J : t23GN2) (x0 : Int) (x1 : Int) (x2 : Bool) (k : (Int × Bool) → Option ρ) : Option ρ := Option.bind (g_J x0 x2) fun (d : Int × Bool) => Option.bind (g_J x1 d.2) fun (d_1 : Int × Bool) => Option.bind (g_J (IntKind.wrap .i64 (d.1 - d_1.1)) d_1.2) fun (d : Int ×
 Bool) => k (d.1, d.2)
def f_Az (x0 : Int) (x1 : Int) (x2 : Bool) : Option (Int × Bool) := K_Az f_J  x0 x1 x2 some
section
open Go.Ab.Rdr
def QA_Az := ((pair (cons (ar (rc (cptr (nat 0) (ok' (nat 0)) (nat 1)))) (cons (ar (rc (cf (fi .i64 hole)))) (cons (ar (rc (cf (fi .i64 hole)))) nil))) (cons (cons (gc (cf (fb hole))) nil) nil)) : Rdr (List AV × List Blk) _)
end
def F_Az (f : (Int) → (Int) → (Bool) → Option (Int × Bool)) : Sem1 := fun args h => match (QA_Az).rd (args, h) with
  | some b => .opt (f b.1.2.1 b.1.2.2.1 b.2.1.1) fun (d : Int × Bool) => .leaf (Res.mk (rI d.1) [Ch.set [sB d.2]] [])
  | none => .fail
theorem d_Az (g_J : t23GN2) (x0 : Int) (x1 : Int) (x2 : Bool) : den Try.prog (envOf [(52, F_J g_J)]) ⟨[], [], [], [], none⟩ 200 60 [.r (.c (.ptr 0 (.k 0) 1)), rI x0, rI x1] [[.c (.f (.b x2))]] = K_Az g_J x0 x1 x2 (fun (d : Int × Bool) => some (Res.mk (rI d.1) [Ch.set [sB d.2]] [])) := by kernel_rfl
theorem m_Az {ρ σ : Type} (q : ρ → Option σ) (g_J : t23GN2)   (x0 : Int) (x1 : Int) (x2 : Bool) (k : (Int × Bool) → Option ρ) : (K_Az g_J  x0 x1 x2 k).bind q = K_Az g_J  x0 x1 x2 (fun d => (k d).bind q) := by
  simp only [K_Az, bnd_cond, bnd_bind, bnd_none, bnd_sum]
theorem qa_Az : ∀ b, (QA_Az).em b = ([.r (.c (.ptr 0 (.k 0) 1)), rI b.1.2.1, rI b.1.2.2.1], [[.c (.f (.b b.2.1.1))]]) := fun b => by kernel_rfl
theorem e_Az {f : (Int) → (Int) → (Bool) → Option (Int × Bool)} {args : List AV} {h : List Blk} {r : Res} (hr : (F_Az f args h).eval = some r) : ∃ x0 x1 x2, args = [.r (.c (.ptr 0 (.k 0) 1)), rI x0, rI x1] ∧ h = [[.c (.f (.b x2))]] ∧ (f x0 x1 x2).bind (fun (d : Int × Bool) => some (Res.mk (rI d.1) [Ch.set [sB d.2]] [])) = some r := by
  unfold F_Az at hr
  split at hr
  · rename_i b hb
    have e := ((QA_Az).ok _ _ hb).trans (qa_Az b)
    rw [opt_eval2] at hr
    exact ⟨b.1.2.1, b.1.2.2.1, b.2.1.1, (Prod.mk.inj e).1, (Prod.mk.inj e).2, hr⟩
  · cases hr
theorem n_Az {σ : Type} (q : (Int × Bool) → Option σ) (x0 : Int) (x1 : Int) (x2 : Bool) : (f_Az x0 x1 x2).bind q = K_Az f_J  x0 x1 x2 q := by
  unfold f_Az
  exact m_Az q f_J   x0 x1 x2 some
theorem s_Az [Amb] : Sound Try.prog 60 (F_Az f_Az) := (inl_sound (l := [(52, F_J f_J)]) (.cons s_J (.nil _)) mixed [] [] 200 (by kernel_rfl)).by (F := F_Az f_Az) fun args b r hr => by
  obtain ⟨x0, x1, x2, rfl, rfl, hr1⟩ := e_Az hr
  exact inl_eval ((d_Az f_J  x0 x1 x2).trans ((n_Az (fun (d : Int × Bool) => some (Res.mk (rI d.1) [Ch.set [sB d.2]] [])) x0 x1 x2).symm.trans hr1))

def K_AJ {ρ : Type} (g_AA : t34GN2) (g_Az : t20GN2) (x0 : Nat → Int) (x1 : Int) (x2 : Int) (x3 : Int) (x4 : Int) (x5 : Bool) (k : (NI × Int × Int × Int × Bool) → Option ρ) : Option ρ := Option.bind (g_AA 1 (fun (j : Nat) => bif Nat.beq j 0 then
 x1 else x1) true) fun (d : Nat → Int) => bif inR x1 24 then Option.bind (g_Az x2 (x0 (Int.toNat x1)) x5) fun (d_1 : Int × Bool) => k (d, d_1.1, x3, x4, d_1.2) else none
def f_AJ (x0 : Nat → Int) (x1 : Int) (x2 : Int) (x3 : Int) (x4 : Int) (x5 : Bool) : Option (NI × Int × Int × Int × Bool) := K_AJ f_AA f_Az  x0 x1 x2 x3 x4 x5 some
section
open Go.Ab.Rdr
def QA_AJ := ((pair (cons (ar (rc (cptr (nat 0) (ok' (nat 0)) (nat 1)))) (cons (ar (ra (cons (ga (szl (nat 24)) (cons (ki .i64 hole) nil)) nil))) (cons (ar (rc (cf (fi .i64 hole)))) (cons (ar (rc (cf (fi .i64 hole)))) (cons (ar (rc (cf (fi .i64 hole)))) (cons (ar (rc (cf (fi .i64 hole)))) nil)))))) (cons (cons (gc (cf (fb hole))) nil) nil)) : Rdr (List AV × List Blk) _)
end
def F_AJ (f : NI → (Int) → (Int) → (Int) → (Int) → (Bool) → Option (NI × Int × Int × Int × Bool)) : Sem1 := fun args h => match (QA_AJ).rd (args, h) with
  | some b => .opt (f b.1.2.1.1.2.1 b.1.2.2.1 b.1.2.2.2.1 b.1.c4.1 b.1.c4.2.1 b.2.1.1) fun (d : NI × Int × Int × Int × Bool) => .leaf (Res.mk
    (AV.r (RV.agg [Sg.a (Sz.l 24) [kI d.1], sI d.2.1, sI d.2.2.1, sI d.2.2.2.1]))
    [Ch.set [sB d.c4]] [])
  | none => .fail
theorem d_AJ (g_AA : t34GN2) (g_Az : t20GN2) (x0 : Nat → Int) (x1 : Int) (x2 : Int) (x3 : Int) (x4 : Int) (x5 : Bool) : den Try.prog (envOf [(25, F_AA g_AA), (60, F_Az g_Az)]) ⟨[], [], [], [], none⟩ 200 35 [.r (.c (.ptr 0 (.k 0) 1)),
 .r (.agg [.a (.l 24) [.i .i64 x0]]), rI x1, rI x2, rI x3, rI x4] [[.c (.f (.b x5))]] = K_AJ g_AA g_Az x0 x1 x2 x3 x4 x5 (fun (d : NI × Int × Int × Int × Bool) => some (Res.mk (AV.r (RV.agg [Sg.a (Sz.l 24) [kI d.1],
 sI d.2.1, sI d.2.2.1, sI d.2.2.2.1])) [Ch.set [sB d.c4]] [])) := by kernel_rfl
theorem m_AJ {ρ σ : Type} (q : ρ → Option σ) (g_AA : t34GN2) (g_Az : t20GN2)   (x0 : Nat → Int) (x1 : Int) (x2 : Int) (x3 : Int) (x4 : Int) (x5 : Bool) (k : (NI × Int × Int × Int × Bool) → Option ρ) : (K_AJ g_AA g_Az  x0 x1 x2 x3 x4 x5 k).bind q = K_AJ g_AA g_Az  x0 x1 x2 x3 x4 x5 (fun d => (k d).bind q) := by
  simp only [K_AJ, bnd_cond, bnd_bind, bnd_none, bnd_sum]
theorem qa_AJ : ∀ b, (QA_AJ).em b = ([.r (.c (.ptr 0 (.k 0) 1)), .r (.agg [.a (.l 24) [.i .i64 b.1.2.1.1.2.1]]), rI b.1.2.2.1, rI b.1.2.2.2.1, rI b.1.c4.1, rI b.1.c4.2.1], [[.c (.f (.b b.2.1.1))]]) := fun b => by kernel_rfl
theorem e_AJ {f : NI → (Int) → (Int) → (Int) → (Int) → (Bool) → Option (NI × Int × Int × Int × Bool)} {args : List AV} {h : List Blk} {r : Res} (hr : (F_AJ f args h).eval = some r) : ∃ x0 x1 x2 x3 x4 x5, args = [.r (.c (.ptr 0 (.k 0) 1)), .r (.agg [.a (.l 24) [.i .i64 x0]]), rI x1,
 rI x2, rI x3, rI x4] ∧ h = [[.c (.f (.b x5))]] ∧ (f x0 x1 x2 x3 x4 x5).bind (fun (d : NI × Int × Int × Int × Bool) => some (Res.mk (AV.r (RV.agg [Sg.a (Sz.l 24) [kI d.1], sI d.2.1, sI d.2.2.1,
 sI d.2.2.2.1])) [Ch.set [sB d.c4]] [])) = some r := by
  unfold F_AJ at hr
  split at hr
  · rename_i b hb
    have e := ((QA_AJ).ok _ _ hb).trans (qa_AJ b)
    rw [opt_eval2] at hr
    exact ⟨b.1.2.1.1.2.1, b.1.2.2.1, b.1.2.2.2.1, b.1.c4.1, b.1.c4.2.1, b.2.1.1, (Prod.mk.inj e).1, (Prod.mk.inj e).2, hr⟩
  · cases hr
theorem n_AJ {σ : Type} (q : (NI × Int × Int × Int × Bool) → Option σ) (x0 : Nat → Int) (x1 : Int) (x2 : Int) (x3 : Int) (x4 : Int) (x5 : Bool) : (f_AJ x0 x1 x2 x3 x4 x5).bind q = K_AJ f_AA f_Az  x0 x1 x2 x3 x4 x5 q := by
  unfold f_AJ
  exact m_AJ q f_AA f_Az   x0 x1 x2 x3 x4 x5 some
theorem s_AJ [Amb] : Sound Try.prog 35 (F_AJ f_AJ) := (inl_sound (l := [(25, F_AA f_AA), (60, F_Az f_Az)]) (.cons s_AA (.cons s_Az (.nil _))) mixed [] [] 200 (by kernel_rfl)).by (F := F_AJ f_AJ) fun args b r hr => by
  obtain ⟨x0, x1, x2, x3, x4, x5, rfl, rfl, hr1⟩ := e_AJ hr
  exact inl_eval ((d_AJ f_AA f_Az  x0 x1 x2 x3 x4 x5).trans ((n_AJ (fun (d : NI × Int × Int × Int × Bool) => some (Res.mk
    (AV.r (RV.agg [Sg.a (Sz.l 24) [kI d.1], sI d.2.1, sI d.2.2.1, sI d.2.2.2.1]))
    [Ch.set [sB d.c4]] [])) x0 x1 x2 x3 x4 x5).symm.trans hr1))

def K_Al {ρ : Type} (g_AJ : t35GN2) (x0 : Nat → Int) (x1 : Int) (x2 : Int) (x3 : Int) (x4 : Int) (x5 : Int) (x6 : Int) (x7 : Int) (x8 : Int) (x9 : Int) (x10 : Bool) (k : (Bool × NI × Int × Int × Int × NI × Int × Int × Int × NI × Int × Int × Int) → Option ρ) : Option ρ := Option.bind (g_AJ x0 4 x4 x8 x9 x10) fun (d : NI × Int × Int × Int × Bool) => Option.bind (g_AJ x0 5 x5 x8 x9 d.c4) fun (d_1 : NI × Int × Int × Int × Bool) => Option.bind (g_AJ x0 6 x6 x8 x9 d_1.c4) fun (d_2 : NI × Int × Int × Int × Bool) => k (d_2.c4, d.1, d.2.1, d.2.2.1, d.2.2.2.1, d_1.1, d_1.2.1, d_1.2.2.1, d_1.2.2.2.1, d_2.1, d_2.2.1, d_2.2.2.1, d_2.2.2.2.1)
def f_Al (x0 : Nat → Int) (x1 : Int) (x2 : Int) (x3 : Int) (x4 : Int) (x5 : Int) (x6 : Int) (x7 : Int) (x8 : Int) (x9 : Int) (x10 : Bool) : Option (Bool × NI × Int × Int × Int × NI × Int × Int × Int × NI × Int × Int × Int) := K_Al f_AJ  x0 x1 x2 x3 x4 x5 x6 x7 x8 x9 x10 some
section
open Go.Ab.Rdr
def QA_Al := ((pair (cons (ar (rc (cptr (nat 0) (ok' (nat 0)) (nat 1)))) (cons (ar (ra (cons (ga (szl (nat 24)) (cons (ki .i64 hole) nil)) nil))) (cons (ar (ra (cons (gc (cf (fi .i64 hole))) (cons (gc (cf (fi .i64 hole))) (cons (gc (cf (fi .i64 hole))) (cons (gc (cf (fi .i64 hole))) (cons (gc (cf (fi .i64 hole))) (cons (gc (cf (fi .i64 hole))) (cons (gc (cf (fi .i64 hole))) (cons (gc (cf (fi .i64 hole))) nil)))))))))) (cons (ar (rc (cf (fi .i64 hole)))) nil)))) (cons (cons (gc (cf (fb hole))) nil) nil)) : Rdr (List AV × List Blk) _)
end
def F_Al (f : NI → (Int) → (Int) → (Int) → (Int) → (Int) → (Int) → (Int) → (Int) → (Int) → (Bool) → Option (Bool × NI × Int × Int × Int × NI × Int × Int × Int × NI × Int × Int × Int)) : Sem1 := fun args h => match (QA_Al).rd (args, h) with
  | some b => .opt (f b.1.2.1.1.2.1 b.1.2.2.1.1 b.1.2.2.1.2.1 b.1.2.2.1.2.2.1 b.1.2.2.1.2.2.2.1 b.1.2.2.1.c4.1 b.1.2.2.1.c4.2.1 b.1.2.2.1.c4.2.2.1 b.1.2.2.1.c4.2.2.2.1 b.1.2.2.2.1 b.2.1.1) fun (d : Bool × NI × Int × Int × Int × NI × Int × Int × Int × NI × Int × Int × Int) => .leaf (Res.mk (AV.r (RV.c (CV.sl 1 (Off.k 0) (Sz.l 3) 27 true))) [Ch.set [sB d.1]]
    [[Sg.a (Sz.l 24) [kI d.2.1], sI d.2.2.1, sI d.2.2.2.1,
        sI d.c4.1, Sg.a (Sz.l 24) [kI d.c4.2.1], sI d.c4.2.2.1,
        sI d.c4.2.2.2.1, sI d.c8.1,
        Sg.a (Sz.l 24) [kI d.c8.2.1], sI d.c8.2.2.1,
        sI d.c8.2.2.2.1, sI d.c8.c4]])
  | none => .fail
theorem d_Al (g_AJ : t35GN2) (x0 : Nat → Int) (x1 : Int) (x2 : Int) (x3 : Int) (x4 : Int) (x5 : Int) (x6 : Int) (x7 : Int) (x8 : Int) (x9 : Int) (x10 : Bool) : den Try.prog (envOf [(35, F_AJ g_AJ)]) ⟨[⟨3, u11GN2, []⟩], [], [], [], (some ⟨0, u12GN2, []⟩)⟩ 200 18 [.r (.c (.ptr 0 (.k 0) 1)), .r (.agg [.a (.l 24) [.i .i64 x0]]),
 .r (.agg [.c (.f (.i .i64 x1)), .c (.f (.i .i64 x2)), .c (.f (.i .i64 x3)), .c (.f (.i .i64 x4)), .c (.f (.i .i64 x5)), .c (.f (.i .i64 x6)), .c (.f (.i .i64 x7)), .c (.f (.i .i64 x8))]), rI x9] [[.c (.f (.b x10))]] = K_Al g_AJ x0 x1 x2 x3 x4 x5 x6 x7 x8 x9 x10 (fun (d : Bool × NI × Int × Int × Int × NI × Int × Int × Int × NI × Int × Int × Int) => some (Res.mk (AV.r (RV.c (CV.sl 1 (Off.k 0) (Sz.l 3) 27 true))) [Ch.set [sB d.1]] [[Sg.a (Sz.l 24) [kI d.2.1], sI d.2.2.1, sI d.2.2.2.1,
 sI d.c4.1, Sg.a (Sz.l 24) [kI d.c4.2.1], sI d.c4.2.2.1, sI d.c4.2.2.2.1, sI d.c8.1, Sg.a (Sz.l 24) [kI d.c8.2.1],
 sI d.c8.2.2.1, sI d.c8.2.2.2.1, sI d.c8.c4]])) := by kernel_rfl
theorem m_Al {ρ σ : Type} (q : ρ → Option σ) (g_AJ : t35GN2)   (x0 : Nat → Int) (x1 : Int) (x2 : Int) (x3 : Int) (x4 : Int) (x5 : Int) (x6 : Int) (x7 : Int) (x8 : Int) (x9 : Int) (x10 : Bool) (k : (Bool × NI × Int × Int × Int × NI × Int × Int × Int × NI × Int × Int × Int) → Option ρ) : (K_Al g_AJ  x0 x1 x2 x3 x4 x5 x6 x7 x8 x9 x10 k).bind q = K_Al g_AJ  x0 x1 x2 x3 x4 x5 x6 x7 x8 x9 x10 (fun d => (k d).bind q) := by
  simp only [K_Al, bnd_cond, bnd_bind, bnd_none, bnd_sum]
theorem qa_Al : ∀ b, (QA_Al).em b = ([.r (.c (.ptr 0 (.k 0) 1)), .r (.agg [.a (.l 24) [.i .i64 b.1.2.1.1.2.1]]), .r (.agg [.c (.f (.i .i64 b.1.2.2.1.1)), .c (.f (.i .i64 b.1.2.2.1.2.1)), .c (.f (.i .i64 b.1.2.2.1.2.2.1)), .c (.f (.i .i64 b.1.2.2.1.2.2.2.1)), .c (.f (.i .i64 b.1.2.2.1.c4.1)), .c (.f (.i .i64 b.1.2.2.1.c4.2.1)), .c (.f (.i .i64 b.1.2.2.1.c4.2.2.1)), .c (.f (.i .i64 b.1.2.2.1.c4.2.2.2.1))]), rI b.1.2.2.2.1], [[.c (.f (.b b.2.1.1))]]) := fun b => by kernel_rfl
theorem e_Al {f : NI → (Int) → (Int) → (Int) → (Int) → (Int) → (Int) → (Int) → (Int) → (Int) → (Bool) → Option (Bool × NI × Int × Int × Int × NI × Int × Int × Int × NI × Int × Int × Int)} {args : List AV} {h : List Blk} {r : Res} (hr : (F_Al f args h).eval = some r) : ∃ x0 x1 x2 x3 x4 x5 x6 x7 x8 x9 x10,
 args = [.r (.c (.ptr 0 (.k 0) 1)), .r (.agg [.a (.l 24) [.i .i64 x0]]), .r (.agg [.c (.f (.i .i64 x1)), .c (.f (.i .i64 x2)), .c (.f (.i .i64 x3)), .c (.f (.i .i64 x4)), .c (.f (.i .i64 x5)), .c (.f (.i .i64 x6)), .c (.f (.i .i64 x7)), .c (.f (.i .i64 x8))]), rI x9] ∧ h = [[.c (.f (.b x10))]] ∧ (f x0 x1 x2 x3 x4 x5 x6 x7 x8 x9 x10).bind (fun (d : Bool ×
 NI × Int × Int × Int × NI × Int × Int × Int × NI × Int × Int × Int) => some (Res.mk (AV.r (RV.c (CV.sl 1 (Off.k 0) (Sz.l 3) 27 true))) [Ch.set [sB d.1]] [[Sg.a (Sz.l 24) [kI d.2.1], sI d.2.2.1, sI d.2.2.2.1,
 sI d.c4.1, Sg.a (Sz.l 24) [kI d.c4.2.1], sI d.c4.2.2.1, sI d.c4.2.2.2.1, sI d.c8.1, Sg.a (Sz.l 24) [kI d.c8.2.1],
 sI d.c8.2.2.1, sI d.c8.2.2.2.1, sI d.c8.c4]])) = some r := by
  unfold F_Al at hr
  split at hr
  · rename_i b hb
    have e := ((QA_Al).ok _ _ hb).trans (qa_Al b)
    rw [opt_eval2] at hr
    exact ⟨b.1.2.1.1.2.1, b.1.2.2.1.1, b.1.2.2.1.2.1, b.1.2.2.1.2.2.1, b.1.2.2.1.2.2.2.1, b.1.2.2.1.c4.1, b.1.2.2.1.c4.2.1, b.1.2.2.1.c4.2.2.1, b.1.2.2.1.c4.2.2.2.1, b.1.2.2.2.1, b.2.1.1, (Prod.mk.inj e).1, (Prod.mk.inj e).2, hr⟩
  · cases hr
theorem n_Al {σ : Type} (q : (Bool × NI × Int × Int × Int × NI × Int × Int × Int × NI × Int × Int × Int) → Option σ) (x0 : Nat → Int) (x1 : Int) (x2 : Int) (x3 : Int) (x4 : Int) (x5 : Int) (x6 : Int) (x7 : Int) (x8 : Int) (x9 : Int) (x10 : Bool) : (f_Al x0 x1 x2 x3 x4 x5 x6 x7 x8 x9 x10).bind q = K_Al f_AJ  x0 x1 x2 x3 x4 x5 x6 x7 x8 x9 x10 q := by
  unfold f_Al
  exact m_Al q f_AJ   x0 x1 x2 x3 x4 x5 x6 x7 x8 x9 x10 some
theorem s_Al [Amb] : Sound Try.prog 18 (F_Al f_Al) := (inl_sums (l := [(35, F_AJ f_AJ)]) (.cons s_AJ (.nil _)) mixed (hs := ⟨[⟨3, u11GN2, []⟩], [], [], [], (some ⟨0, u12GN2, []⟩)⟩) (lf := 200) (Sums.by (l := [loopIn Try.prog 18 3]) (lj := []) (by kernel_rfl) ⟨SumOK.no (by kernel_rfl), trivial⟩ (by kernel_rfl) trivial) (by kernel_rfl)).by (F := F_Al f_Al) fun args b r hr => by
  obtain ⟨x0, x1, x2, x3, x4, x5, x6, x7, x8, x9, x10, rfl, rfl, hr1⟩ := e_Al hr
  exact inl_eval ((d_Al f_AJ  x0 x1 x2 x3 x4 x5 x6 x7 x8 x9 x10).trans ((n_Al (fun (d : Bool × NI × Int × Int × Int × NI × Int × Int × Int × NI × Int × Int × Int) => some (Res.mk (AV.r (RV.c (CV.sl 1 (Off.k 0) (Sz.l 3) 27 true))) [Ch.set [sB d.1]]
    [[Sg.a (Sz.l 24) [kI d.2.1], sI d.2.2.1, sI d.2.2.2.1,
        sI d.c4.1, Sg.a (Sz.l 24) [kI d.c4.2.1], sI d.c4.2.2.1,
        sI d.c4.2.2.2.1, sI d.c8.1,
        Sg.a (Sz.l 24) [kI d.c8.2.1], sI d.c8.2.2.1,
        sI d.c8.2.2.2.1, sI d.c8.c4]])) x0 x1 x2 x3 x4 x5 x6 x7 x8 x9 x10).symm.trans hr1))

def K_AQ {ρ : Type} (g_AN : t33GN2) (g_AM : t16GN2) (g_S : t16GN2) (x0 : Int) (x1 : Int) (x2 : Int) (x3 : Int) (x4 : Int) (x5 : Int) (x6 : Int) (x7 : Int) (x8 : Bool) (k : (Int × Int × Int × Int × Bool) →
 Option ρ) : Option ρ := Option.bind (g_AN x0 x1 x2) fun (d : Bool) => bif !d then k (0, 0, 0, 1, x8) else bif decide (IntKind.wrap .i64 (x1 - x4) > 1800000000) then Option.bind (g_AM (IntKind.wrap .i64 (x0 - x3)) x6 10 x8) fun (d : Int × Bool) => Option.bind (g_AM (IntKind.wrap .i64 (IntKind.wrap .i64 (x1 - x4) - 3600000000)) x7 10 d.2) fun (d_1 : Int ×
 Bool) => Option.bind (g_S (IntKind.wrap .i64 (x5 - x2)) 1073741824 1000 d_1.2) fun (d_2 : Int × Bool) => k (d.1, d_1.1, d_2.1, 0, d_2.2) else bif decide (IntKind.wrap .i64 (x1 - x4) ≤ -1800000000) then Option.bind (g_AM (IntKind.wrap .i64 (x0 - x3)) x6 10 x8) fun (d : Int × Bool) => Option.bind (g_AM (IntKind.wrap .i64 (IntKind.wrap .i64 (x1 - x4) + 3600000000)) x7 10 d.2) fun (d_1 : Int ×
 Bool) => Option.bind (g_S (IntKind.wrap .i64 (x5 - x2)) 1073741824 1000 d_1.2) fun (d_2 : Int × Bool) => k (d.1, d_1.1, d_2.1, 0, d_2.2) else Option.bind (g_AM (IntKind.wrap .i64 (x0 - x3)) x6 10 x8) fun (d : Int × Bool) => Option.bind (g_AM (IntKind.wrap .i64 (x1 - x4)) x7 10 d.2) fun (d_1 : Int ×
 Bool) => Option.bind (g_S (IntKind.wrap .i64 (x5 - x2)) 1073741824 1000 d_1.2) fun (d_2 : Int × Bool) => k (d.1, d_1.1, d_2.1, 0, d_2.2)
def f_AQ (x0 : Int) (x1 : Int) (x2 : Int) (x3 : Int) (x4 : Int) (x5 : Int) (x6 : Int) (x7 : Int) (x8 : Bool) : Option (Int × Int × Int × Int × Bool) := K_AQ f_AN f_AM f_S  x0 x1 x2 x3 x4 x5 x6 x7 x8 some
section
open Go.Ab.Rdr
def QA_AQ := ((pair (cons (ar (rc (cptr (nat 0) (ok' (nat 0)) (nat 5)))) (cons (ar (rc (cptr (nat 1) (ok' (nat 0)) (nat 1)))) (cons (ar (ra (cons (gc (cf (fi .i64 hole))) (cons (gc (cf (fi .i64 hole))) (cons (gc (cf (fi .i64 hole))) nil))))) nil))) (cons (cons (gc (cf (fi .i64 hole))) (cons (gc (cf (fi .i64 hole))) (cons (gc (cf (fi .i64 hole))) (cons (gc (cf (fi .i64 hole))) (cons (gc (cf (fi .i64 hole))) nil))))) (cons (cons (gc (cf (fb hole))) nil) nil))) : Rdr (List AV × List Blk) _)
end
def F_AQ (f : (Int) → (Int) → (Int) → (Int) → (Int) → (Int) → (Int) → (Int) → (Bool) → Option (Int × Int × Int × Int × Bool)) : Sem1 := fun args h => match (QA_AQ).rd (args, h) with
  | some b => .opt (f b.1.2.2.1.1 b.1.2.2.1.2.1 b.1.2.2.1.2.2.1 b.2.1.1 b.2.1.2.1 b.2.1.2.2.1 b.2.1.2.2.2.1 b.2.1.c4.1 b.2.2.1.1) fun (d : Int × Int × Int × Int × Bool) => .leaf (Res.mk
    (AV.tup [RV.agg [sI d.1, sI d.2.1, sI d.2.2.1], RV.c (fI d.2.2.2.1)])
    [Ch.keep, Ch.set [sB d.c4]] [])
  | none => .fail
theorem d_AQ (g_AN : t33GN2) (g_AM : t16GN2) (g_S : t16GN2) (x0 : Int) (x1 : Int) (x2 : Int) (x3 : Int) (x4 : Int) (x5 : Int) (x6 : Int) (x7 : Int) (x8 : Bool) : den Try.prog (envOf [(20, F_AN g_AN), (30,
 F_AM g_AM), (28, F_S g_S)]) ⟨[], [], [1], [], none⟩ 200 24 [.r (.c (.ptr 0 (.k 0) 5)), .r (.c (.ptr 1 (.k 0) 1)), .r (.agg [.c (.f (.i .i64 x0)), .c (.f (.i .i64 x1)), .c (.f (.i .i64 x2))])] [[.c (.f (.i .i64 x3)), .c (.f (.i .i64 x4)), .c (.f (.i .i64 x5)), .c (.f (.i .i64 x6)), .c (.f (.i .i64 x7))],
 [.c (.f (.b x8))]] = K_AQ g_AN g_AM g_S x0 x1 x2 x3 x4 x5 x6 x7 x8 (fun (d : Int × Int × Int × Int × Bool) => some (Res.mk (AV.tup [RV.agg [sI d.1, sI d.2.1, sI d.2.2.1], RV.c (fI d.2.2.2.1)]) [Ch.keep,
 Ch.set [sB d.c4]] [])) := by kernel_rfl
theorem m_AQ {ρ σ : Type} (q : ρ → Option σ) (g_AN : t33GN2) (g_AM : t16GN2) (g_S : t16GN2)   (x0 : Int) (x1 : Int) (x2 : Int) (x3 : Int) (x4 : Int) (x5 : Int) (x6 : Int) (x7 : Int) (x8 : Bool) (k : (Int × Int × Int × Int × Bool) → Option ρ) : (K_AQ g_AN g_AM g_S  x0 x1 x2 x3 x4 x5 x6 x7 x8 k).bind q = K_AQ g_AN g_AM g_S  x0 x1 x2 x3 x4 x5 x6 x7 x8 (fun d => (k d).bind q) := by
  simp only [K_AQ, bnd_cond, bnd_bind, bnd_none, bnd_sum]
theorem qa_AQ : ∀ b, (QA_AQ).em b = ([.r (.c (.ptr 0 (.k 0) 5)), .r (.c (.ptr 1 (.k 0) 1)), .r (.agg [.c (.f (.i .i64 b.1.2.2.1.1)), .c (.f (.i .i64 b.1.2.2.1.2.1)), .c (.f (.i .i64 b.1.2.2.1.2.2.1))])], [[.c (.f (.i .i64 b.2.1.1)), .c (.f (.i .i64 b.2.1.2.1)), .c (.f (.i .i64 b.2.1.2.2.1)), .c (.f (.i .i64 b.2.1.2.2.2.1)), .c (.f (.i .i64 b.2.1.c4.1))], [.c (.f (.b b.2.2.1.1))]]) := fun b => by kernel_rfl
theorem e_AQ {f : (Int) → (Int) → (Int) → (Int) → (Int) → (Int) → (Int) → (Int) → (Bool) → Option (Int × Int × Int × Int × Bool)} {args : List AV} {h : List Blk} {r : Res} (hr : (F_AQ f args h).eval = some r) : ∃ x0 x1 x2 x3 x4 x5 x6 x7 x8, args = [.r (.c (.ptr 0 (.k 0) 5)), .r (.c (.ptr 1 (.k 0) 1)),
 .r (.agg [.c (.f (.i .i64 x0)), .c (.f (.i .i64 x1)), .c (.f (.i .i64 x2))])] ∧ h = [[.c (.f (.i .i64 x3)), .c (.f (.i .i64 x4)), .c (.f (.i .i64 x5)), .c (.f (.i .i64 x6)), .c (.f (.i .i64 x7))], [.c (.f (.b x8))]] ∧ (f x0 x1 x2 x3 x4 x5 x6 x7 x8).bind (fun (d : Int × Int × Int × Int × Bool) => some (Res.mk (AV.tup [RV.agg [sI d.1,
 sI d.2.1, sI d.2.2.1], RV.c (fI d.2.2.2.1)]) [Ch.keep, Ch.set [sB d.c4]] [])) = some r := by
  unfold F_AQ at hr
  split at hr
  · rename_i b hb
    have e := ((QA_AQ).ok _ _ hb).trans (qa_AQ b)
    rw [opt_eval2] at hr
    exact ⟨b.1.2.2.1.1, b.1.2.2.1.2.1, b.1.2.2.1.2.2.1, b.2.1.1, b.2.1.2.1, b.2.1.2.2.1, b.2.1.2.2.2.1, b.2.1.c4.1, b.2.2.1.1, (Prod.mk.inj e).1, (Prod.mk.inj e).2, hr⟩
  · cases hr
theorem n_AQ {σ : Type} (q : (Int × Int × Int × Int × Bool) → Option σ) (x0 : Int) (x1 : Int) (x2 : Int) (x3 : Int) (x4 : Int) (x5 : Int) (x6 : Int) (x7 : Int) (x8 : Bool) : (f_AQ x0 x1 x2 x3 x4 x5 x6 x7 x8).bind q = K_AQ f_AN f_AM f_S  x0 x1 x2 x3 x4 x5 x6 x7 x8 q := by
  unfold f_AQ
  exact m_AQ q f_AN f_AM f_S   x0 x1 x2 x3 x4 x5 x6 x7 x8 some
theorem s_AQ [Amb] : Sound Try.prog 24 (F_AQ f_AQ) := (inl_sound (l := [(20, F_AN f_AN), (30, F_AM f_AM), (28, F_S f_S)]) (.cons s_AN (.cons s_AM (.cons s_S (.nil _)))) mixed [] [1] 200 (by kernel_rfl)).by (F := F_AQ f_AQ) fun args b r hr => by
  obtain ⟨x0, x1, x2, x3, x4, x5, x6, x7, x8, rfl, rfl, hr1⟩ := e_AQ hr
  exact inl_eval ((d_AQ f_AN f_AM f_S  x0 x1 x2 x3 x4 x5 x6 x7 x8).trans ((n_AQ (fun (d : Int × Int × Int × Int × Bool) => some (Res.mk
    (AV.tup [RV.agg [sI d.1, sI d.2.1, sI d.2.2.1], RV.c (fI d.2.2.2.1)])
    [Ch.keep, Ch.set [sB d.c4]] [])) x0 x1 x2 x3 x4 x5 x6 x7 x8).symm.trans hr1))

end Go.Proofs.Ytdpenjncfmkbgaa
set_option maxRecDepth 100000
set_option maxHeartbeats 4000000
set_option linter.unusedVariables false
namespace Go.Proofs.Ytdpenjncfmkbgaa
open Go.Ab
abbrev u0GN3 : List Nat := [1, 2, 3, 5, 8, 9, 10, 11, 12, 13, 15, 16, 17, 18, 19, 20, 21, 22, 23, 24, 25, 26, 27, 31, 32, 33, 34, 35, 36, 37, 38, 39, 40, 41, 42, 43, 44, 45, 46, 47, 48]
abbrev u1GN3 : List Nat := [0, 1, 2, 3, 4, 5, 6, 7, 8, 9, 12, 13, 14, 15, 16, 17, 18, 19, 20, 21, 22, 23, 24, 25, 26, 27, 28, 29, 30, 31, 32, 33, 34, 35, 36, 37, 38, 39, 40, 41, 42, 43, 44, 45, 46, 47, 48]
abbrev t2GN3 := Int → Int → Int → Int → Int → Int → Int → Int → Bool → Option (Int × Int × Int × Int × Bool)
abbrev t3GN3 := NI → Int → Int → Int → Int → Bool → Option (NI × Int × Int × Int × Bool)
abbrev t4GN3 := Nat → Bool → NI → Bool → Option (Int × Bool)
abbrev t5GN3 := Int → Int → Int → Bool → Option (Int × Bool)
abbrev t6GN3 := Int → Int → Int → Int → Int → Int → Int → Int → Int → Bool → Option (Int × Int × Int × Int × Int × Int × Int × Int × Int × Bool)
abbrev t7GN3 := Int → Int → Int → Option (Unit ⊕ Int × Int × Int × Int × Int)
abbrev t8GN3 := NI → Int → Int → Int → Int → Int → Int → Int → Int → Int → Bool → Option (Bool × NI × Int × Int × Int × NI × Int × Int × Int × NI × Int × Int × Int)
abbrev t9GN3 := NI → Int → Int → Int → Int → Int → Int → Int → Int → Int → Bool → Int → Int → Int → Int → Int → Option (Int × Bool ⊕ Bool × NI × Int × Int × Int × NI × Int × Int × Int)
abbrev t10GN3 := NI → Int → Int → Int → Int → Int → Int → Int → Int → Int → Bool → Int → Int → Int → Int → Int → Option (NI × Int × Int × Int × Int × Bool)
abbrev t11GN3 := Int → Int → Int → Int → Int → Int → Int → Int → Int → Option Bool
abbrev t12GN3 := Nat → NI → Bool → Option NI
def K_Am {ρ : Type} (g_AQ : t2GN3) (g_AJ : t3GN3) (x0 : Nat → Int) (x1 : Int) (x2 : Int) (x3 : Int) (x4 : Int) (x5 : Int) (x6 : Int) (x7 : Int) (x8 : Int) (x9 : Int) (x10 : Bool) (x11 : Int) (x12 : Int) (x13 : Int) (x14 : Int) (x15 : Int) (k : (Int ×
 Bool ⊕ Bool × NI × Int × Int × Int × NI × Int × Int × Int) → Option ρ) : Option ρ := Option.bind (g_AQ x1 x2 x3 x11 x12 x13 x14 x15 x10) fun (d : Int × Int × Int × Int × Bool) => bif d.2.2.2.1 != 0 then k (Sum.inl (d.2.2.2.1, d.c4)) else Option.bind (g_AJ x0 7 d.1 x7 x9 d.c4) fun (d_1 : NI × Int × Int × Int × Bool) => Option.bind (g_AJ x0 8 d.2.1 x7 x9 d_1.c4) fun (d : NI × Int × Int × Int × Bool) => k (Sum.inr (d.c4, d_1.1, d_1.2.1, d_1.2.2.1, d_1.2.2.2.1, d.1, d.2.1, d.2.2.1, d.2.2.2.1))
def f_Am (x0 : Nat → Int) (x1 : Int) (x2 : Int) (x3 : Int) (x4 : Int) (x5 : Int) (x6 : Int) (x7 : Int) (x8 : Int) (x9 : Int) (x10 : Bool) (x11 : Int) (x12 : Int) (x13 : Int) (x14 : Int) (x15 : Int) : Option (Int × Bool ⊕ Bool × NI × Int × Int × Int × NI × Int × Int × Int) := K_Am f_AQ f_AJ  x0 x1 x2 x3 x4 x5 x6 x7 x8 x9 x10 x11 x12 x13 x14 x15 some
section
open Go.Ab.Rdr
def QA_Am := ((pair (cons (ar (rc (cptr (nat 0) (ok' (nat 0)) (nat 1)))) (cons (ar (ra (cons (ga (szl (nat 24)) (cons (ki .i64 hole) nil)) nil))) (cons (ar (ra (cons (gc (cf (fi .i64 hole))) (cons (gc (cf (fi .i64 hole))) (cons (gc (cf (fi .i64 hole))) (cons (gc (cf (fi .i64 hole))) (cons (gc (cf (fi .i64 hole))) (cons (gc (cf (fi .i64 hole))) (cons (gc (cf (fi .i64 hole))) (cons (gc (cf (fi .i64 hole))) nil)))))))))) (cons (ar (rc (cptr (nat 1) (ok' (nat 0)) (nat 5)))) (cons (ar (rc (cf (fi .i64 hole)))) nil))))) (cons (cons (gc (cf (fb hole))) nil) (cons (cons (gc (cf (fi .i64 hole))) (cons (gc (cf (fi .i64 hole))) (cons (gc (cf (fi .i64 hole))) (cons (gc (cf (fi .i64 hole))) (cons (gc (cf (fi .i64 hole))) nil))))) nil))) : Rdr (List AV × List Blk) _)
end
def F_Am (f : NI → (Int) → (Int) → (Int) → (Int) → (Int) → (Int) → (Int) → (Int) → (Int) → (Bool) → (Int) → (Int) → (Int) → (Int) → (Int) → Option (Int × Bool ⊕ Bool × NI × Int × Int × Int × NI × Int × Int × Int)) : Sem1 := fun args h => match (QA_Am).rd (args, h) with
  | some b => .opt (f b.1.2.1.1.2.1 b.1.2.2.1.1 b.1.2.2.1.2.1 b.1.2.2.1.2.2.1 b.1.2.2.1.2.2.2.1 b.1.2.2.1.c4.1 b.1.2.2.1.c4.2.1 b.1.2.2.1.c4.2.2.1 b.1.2.2.1.c4.2.2.2.1 b.1.c4.1 b.2.1.1 b.2.2.1.1 b.2.2.1.2.1 b.2.2.1.2.2.1 b.2.2.1.2.2.2.1 b.2.2.1.c4.1) fun d0 => T.sum d0 (fun (d : Int × Bool) => .leaf (Res.mk (AV.tup [RV.c CV.nils, RV.c (fI d.1)]) [Ch.set [sB d.2], Ch.keep] [])) (fun (d : Bool × NI × Int × Int × Int × NI × Int × Int × Int) => .leaf (Res.mk (AV.tup [RV.c (CV.sl 2 (Off.k 0) (Sz.l 2) 27 true), RV.c (fI 0)]) [Ch.set [sB d.1], Ch.keep]
    [[Sg.a (Sz.l 24) [kI d.2.1], sI d.2.2.1, sI d.2.2.2.1,
        sI d.c4.1, Sg.a (Sz.l 24) [kI d.c4.2.1], sI d.c4.2.2.1,
        sI d.c4.2.2.2.1, sI d.c8]]))
  | none => .fail
theorem d_Am (g_AQ : t2GN3) (g_AJ : t3GN3) (x0 : Nat → Int) (x1 : Int) (x2 : Int) (x3 : Int) (x4 : Int) (x5 : Int) (x6 : Int) (x7 : Int) (x8 : Int) (x9 : Int) (x10 : Bool) (x11 : Int) (x12 : Int) (x13 : Int) (x14 : Int) (x15 : Int) : den Try.prog (envOf [(24,
 F_AQ g_AQ), (35, F_AJ g_AJ)]) ⟨[⟨6, u0GN3, []⟩], [], [], [], (some ⟨0, u1GN3, []⟩)⟩ 200 11 [.r (.c (.ptr 0 (.k 0) 1)), .r (.agg [.a (.l 24) [.i .i64 x0]]), .r (.agg [.c (.f (.i .i64 x1)), .c (.f (.i .i64 x2)), .c (.f (.i .i64 x3)), .c (.f (.i .i64 x4)), .c (.f (.i .i64 x5)), .c (.f (.i .i64 x6)),
 .c (.f (.i .i64 x7)), .c (.f (.i .i64 x8))]), .r (.c (.ptr 1 (.k 0) 5)), rI x9] [[.c (.f (.b x10))], [.c (.f (.i .i64 x11)), .c (.f (.i .i64 x12)), .c (.f (.i .i64 x13)), .c (.f (.i .i64 x14)), .c (.f (.i .i64 x15))]] = K_Am g_AQ g_AJ x0 x1 x2 x3 x4 x5 x6 x7 x8 x9 x10 x11 x12 x13 x14 x15 ((Sum.elim (fun (d : Int ×
 Bool) => some (Res.mk (AV.tup [RV.c CV.nils, RV.c (fI d.1)]) [Ch.set [sB d.2], Ch.keep] [])) (fun (d : Bool × NI × Int × Int × Int × NI × Int × Int × Int) => some (Res.mk (AV.tup [RV.c (CV.sl 2 (Off.k 0) (Sz.l 2) 27 true), RV.c (fI 0)]) [Ch.set [sB d.1],
 Ch.keep] [[Sg.a (Sz.l 24) [kI d.2.1], sI d.2.2.1, sI d.2.2.2.1, sI d.c4.1, Sg.a (Sz.l 24) [kI d.c4.2.1], sI d.c4.2.2.1, sI d.c4.2.2.2.1,
 sI d.c8]])))) := by kernel_rfl
theorem m_Am {ρ σ : Type} (q : ρ → Option σ) (g_AQ : t2GN3) (g_AJ : t3GN3)   (x0 : Nat → Int) (x1 : Int) (x2 : Int) (x3 : Int) (x4 : Int) (x5 : Int) (x6 : Int) (x7 : Int) (x8 : Int) (x9 : Int) (x10 : Bool) (x11 : Int) (x12 : Int) (x13 : Int) (x14 : Int) (x15 : Int) (k : (Int × Bool ⊕ Bool × NI × Int × Int × Int × NI × Int × Int × Int) → Option ρ) : (K_Am g_AQ g_AJ  x0 x1 x2 x3 x4 x5 x6 x7 x8 x9 x10 x11 x12 x13 x14 x15 k).bind q = K_Am g_AQ g_AJ  x0 x1 x2 x3 x4 x5 x6 x7 x8 x9 x10 x11 x12 x13 x14 x15 (fun d => (k d).bind q) := by
  simp only [K_Am, bnd_cond, bnd_bind, bnd_none, bnd_sum]
theorem qa_Am : ∀ b, (QA_Am).em b = ([.r (.c (.ptr 0 (.k 0) 1)), .r (.agg [.a (.l 24) [.i .i64 b.1.2.1.1.2.1]]), .r (.agg [.c (.f (.i .i64 b.1.2.2.1.1)), .c (.f (.i .i64 b.1.2.2.1.2.1)), .c (.f (.i .i64 b.1.2.2.1.2.2.1)), .c (.f (.i .i64 b.1.2.2.1.2.2.2.1)), .c (.f (.i .i64 b.1.2.2.1.c4.1)), .c (.f (.i .i64 b.1.2.2.1.c4.2.1)), .c (.f (.i .i64 b.1.2.2.1.c4.2.2.1)), .c (.f (.i .i64 b.1.2.2.1.c4.2.2.2.1))]), .r (.c (.ptr 1 (.k 0) 5)), rI b.1.c4.1], [[.c (.f (.b b.2.1.1))], [.c (.f (.i .i64 b.2.2.1.1)), .c (.f (.i .i64 b.2.2.1.2.1)), .c (.f (.i .i64 b.2.2.1.2.2.1)), .c (.f (.i .i64 b.2.2.1.2.2.2.1)), .c (.f (.i .i64 b.2.2.1.c4.1))]]) := fun b => by kernel_rfl
theorem e_Am {f : NI → (Int) → (Int) → (Int) → (Int) → (Int) → (Int) → (Int) → (Int) → (Int) → (Bool) → (Int) → (Int) → (Int) → (Int) → (Int) → Option (Int × Bool ⊕ Bool × NI × Int × Int × Int × NI × Int × Int × Int)} {args : List AV} {h : List Blk} {r : Res} (hr : (F_Am f args h).eval = some r) : ∃ x0 x1 x2 x3 x4 x5 x6 x7 x8 x9 x10 x11 x12 x13 x14 x15,
 args = [.r (.c (.ptr 0 (.k 0) 1)), .r (.agg [.a (.l 24) [.i .i64 x0]]), .r (.agg [.c (.f (.i .i64 x1)), .c (.f (.i .i64 x2)), .c (.f (.i .i64 x3)), .c (.f (.i .i64 x4)), .c (.f (.i .i64 x5)), .c (.f (.i .i64 x6)), .c (.f (.i .i64 x7)), .c (.f (.i .i64 x8))]), .r (.c (.ptr 1 (.k 0) 5)), rI x9] ∧ h = [[.c (.f (.b x10))],
 [.c (.f (.i .i64 x11)), .c (.f (.i .i64 x12)), .c (.f (.i .i64 x13)), .c (.f (.i .i64 x14)), .c (.f (.i .i64 x15))]] ∧ (f x0 x1 x2 x3 x4 x5 x6 x7 x8 x9 x10 x11 x12 x13 x14 x15).bind ((Sum.elim (fun (d : Int × Bool) => some (Res.mk (AV.tup [RV.c CV.nils, RV.c (fI d.1)]) [Ch.set [sB d.2],
 Ch.keep] [])) (fun (d : Bool × NI × Int × Int × Int × NI × Int × Int × Int) => some (Res.mk (AV.tup [RV.c (CV.sl 2 (Off.k 0) (Sz.l 2) 27 true), RV.c (fI 0)]) [Ch.set [sB d.1], Ch.keep] [[Sg.a (Sz.l 24) [kI d.2.1], sI d.2.2.1,
 sI d.2.2.2.1, sI d.c4.1, Sg.a (Sz.l 24) [kI d.c4.2.1], sI d.c4.2.2.1, sI d.c4.2.2.2.1, sI d.c8]])))) = some r := by
  unfold F_Am at hr
  split at hr
  · rename_i b hb
    have e := ((QA_Am).ok _ _ hb).trans (qa_Am b)
    rw [opt_eval2] at hr
    simp only [sum_eval, leaf_eval] at hr
    exact ⟨b.1.2.1.1.2.1, b.1.2.2.1.1, b.1.2.2.1.2.1, b.1.2.2.1.2.2.1, b.1.2.2.1.2.2.2.1, b.1.2.2.1.c4.1, b.1.2.2.1.c4.2.1, b.1.2.2.1.c4.2.2.1, b.1.2.2.1.c4.2.2.2.1, b.1.c4.1, b.2.1.1, b.2.2.1.1, b.2.2.1.2.1, b.2.2.1.2.2.1, b.2.2.1.2.2.2.1, b.2.2.1.c4.1, (Prod.mk.inj e).1, (Prod.mk.inj e).2, hr⟩
  · cases hr
theorem n_Am {σ : Type} (q : (Int × Bool ⊕ Bool × NI × Int × Int × Int × NI × Int × Int × Int) → Option σ) (x0 : Nat → Int) (x1 : Int) (x2 : Int) (x3 : Int) (x4 : Int) (x5 : Int) (x6 : Int) (x7 : Int) (x8 : Int) (x9 : Int) (x10 : Bool) (x11 : Int) (x12 : Int) (x13 : Int) (x14 : Int) (x15 : Int) : (f_Am x0 x1 x2 x3 x4 x5 x6 x7 x8 x9 x10 x11 x12 x13 x14 x15).bind q = K_Am f_AQ f_AJ  x0 x1 x2 x3 x4 x5 x6 x7 x8 x9 x10 x11 x12 x13 x14 x15 q := by
  unfold f_Am
  exact m_Am q f_AQ f_AJ   x0 x1 x2 x3 x4 x5 x6 x7 x8 x9 x10 x11 x12 x13 x14 x15 some
theorem s_Am [Amb] : Sound Try.prog 11 (F_Am f_Am) := (inl_sums (l := [(24, F_AQ f_AQ), (35, F_AJ f_AJ)]) (.cons s_AQ (.cons s_AJ (.nil _))) mixed (hs := ⟨[⟨6, u0GN3, []⟩], [], [], [], (some ⟨0, u1GN3, []⟩)⟩) (lf := 200) (Sums.by (l := [loopIn Try.prog 11 6]) (lj := []) (by kernel_rfl) ⟨SumOK.no (by kernel_rfl),
 trivial⟩ (by kernel_rfl) trivial) (by kernel_rfl)).by (F := F_Am f_Am) fun args b r hr => by
  obtain ⟨x0, x1, x2, x3, x4, x5, x6, x7, x8, x9, x10, x11, x12, x13, x14, x15, rfl, rfl, hr1⟩ := e_Am hr
  exact inl_eval ((d_Am f_AQ f_AJ  x0 x1 x2 x3 x4 x5 x6 x7 x8 x9 x10 x11 x12 x13 x14 x15).trans ((n_Am ((Sum.elim (fun (d : Int × Bool) => some (Res.mk (AV.tup [RV.c CV.nils, RV.c (fI d.1)]) [Ch.set [sB d.2], Ch.keep] [])) (fun (d : Bool × NI × Int × Int × Int × NI × Int × Int × Int) => some (Res.mk (AV.tup [RV.c (CV.sl 2 (Off.k 0) (Sz.l 2) 27 true), RV.c (fI 0)]) [Ch.set [sB d.1], Ch.keep]
    [[Sg.a (Sz.l 24) [kI d.2.1], sI d.2.2.1, sI d.2.2.2.1,
        sI d.c4.1, Sg.a (Sz.l 24) [kI d.c4.2.1], sI d.c4.2.2.1,
        sI d.c4.2.2.2.1, sI d.c8]])))) x0 x1 x2 x3 x4 x5 x6 x7 x8 x9 x10 x11 x12 x13 x14 x15).symm.trans hr1))

def K_Ad {ρ : Type} (g_AQ : t2GN3) (g_Z : t4GN3) (g_AP : t5GN3) (g_AJ : t3GN3) (x0 : Nat → Int) (x1 : Int) (x2 : Int) (x3 : Int) (x4 : Int) (x5 : Int) (x6 : Int) (x7 : Int) (x8 : Int) (x9 : Int) (x10 : Bool) (x11 : Int) (x12 : Int) (x13 : Int) (x14 : Int) (x15 : Int) (k : (NI × Int × Int × Int × Int × Bool) → Option ρ) : Option ρ := Option.bind (g_AQ x1 x2 x3 x11 x12 x13 x14 x15 x10) fun (d : Int ×
 Int × Int × Int × Bool) => bif d.2.2.2.1 != 0 then k (fun (x : Nat) => 0, 0, 0, 0, d.2.2.2.1, d.c4) else Option.bind (g_Z 4 false (fun (j : Nat) => bif Nat.beq j 3 then x7 else bif Nat.beq j 2 then x7 else bif Nat.beq j 1 then x7 else bif Nat.beq j 0 then x7 else x7) true) fun (d_1 : Int × Bool) => Option.bind (g_AP d_1.1 1 72057594037927936 d_1.2) fun (d_2 : Int ×
 Bool) => Option.bind (g_AJ x0 9 d.2.2.1 d_2.1 x9 d.c4) fun (d : NI × Int × Int × Int × Bool) => k (d.1, d.2.1, d.2.2.1, d.2.2.2.1, 0, d.c4)
def f_Ad (x0 : Nat → Int) (x1 : Int) (x2 : Int) (x3 : Int) (x4 : Int) (x5 : Int) (x6 : Int) (x7 : Int) (x8 : Int) (x9 : Int) (x10 : Bool) (x11 : Int) (x12 : Int) (x13 : Int) (x14 : Int) (x15 : Int) : Option (NI × Int × Int × Int × Int × Bool) := K_Ad f_AQ f_Z f_AP f_AJ  x0 x1 x2 x3 x4 x5 x6 x7 x8 x9 x10 x11 x12 x13 x14 x15 some
section
open Go.Ab.Rdr
def QA_Ad := ((pair (cons (ar (rc (cptr (nat 0) (ok' (nat 0)) (nat 1)))) (cons (ar (ra (cons (ga (szl (nat 24)) (cons (ki .i64 hole) nil)) nil))) (cons (ar (ra (cons (gc (cf (fi .i64 hole))) (cons (gc (cf (fi .i64 hole))) (cons (gc (cf (fi .i64 hole))) (cons (gc (cf (fi .i64 hole))) (cons (gc (cf (fi .i64 hole))) (cons (gc (cf (fi .i64 hole))) (cons (gc (cf (fi .i64 hole))) (cons (gc (cf (fi .i64 hole))) nil)))))))))) (cons (ar (rc (cptr (nat 1) (ok' (nat 0)) (nat 5)))) (cons (ar (rc (cf (fi .i64 hole)))) nil))))) (cons (cons (gc (cf (fb hole))) nil) (cons (cons (gc (cf (fi .i64 hole))) (cons (gc (cf (fi .i64 hole))) (cons (gc (cf (fi .i64 hole))) (cons (gc (cf (fi .i64 hole))) (cons (gc (cf (fi .i64 hole))) nil))))) nil))) : Rdr (List AV × List Blk) _)
end
def F_Ad (f : NI → (Int) → (Int) → (Int) → (Int) → (Int) → (Int) → (Int) → (Int) → (Int) → (Bool) → (Int) → (Int) → (Int) → (Int) → (Int) → Option (NI × Int × Int × Int × Int × Bool)) : Sem1 := fun args h => match (QA_Ad).rd (args, h) with
  | some b => .opt (f b.1.2.1.1.2.1 b.1.2.2.1.1 b.1.2.2.1.2.1 b.1.2.2.1.2.2.1 b.1.2.2.1.2.2.2.1 b.1.2.2.1.c4.1 b.1.2.2.1.c4.2.1 b.1.2.2.1.c4.2.2.1 b.1.2.2.1.c4.2.2.2.1 b.1.c4.1 b.2.1.1 b.2.2.1.1 b.2.2.1.2.1 b.2.2.1.2.2.1 b.2.2.1.2.2.2.1 b.2.2.1.c4.1) fun (d : NI × Int × Int × Int × Int × Bool) => .leaf (Res.mk
    (AV.tup
      [RV.agg [Sg.a (Sz.l 24) [kI d.1], sI d.2.1, sI d.2.2.1, sI d.2.2.2.1],
        RV.c (fI d.c4.1)])
    [Ch.set [sB d.c4.2], Ch.keep] [])
  | none => .fail
theorem d_Ad (g_AQ : t2GN3) (g_Z : t4GN3) (g_AP : t5GN3) (g_AJ : t3GN3) (x0 : Nat → Int) (x1 : Int) (x2 : Int) (x3 : Int) (x4 : Int) (x5 : Int) (x6 : Int) (x7 : Int) (x8 : Int) (x9 : Int) (x10 : Bool) (x11 : Int) (x12 : Int) (x13 : Int) (x14 : Int) (x15 : Int) : den Try.prog (envOf [(24, F_AQ g_AQ), (36, F_Z g_Z), (37, F_AP g_AP), (35, F_AJ g_AJ)]) ⟨[],
 [], [], [], none⟩ 200 12 [.r (.c (.ptr 0 (.k 0) 1)), .r (.agg [.a (.l 24) [.i .i64 x0]]), .r (.agg [.c (.f (.i .i64 x1)), .c (.f (.i .i64 x2)), .c (.f (.i .i64 x3)), .c (.f (.i .i64 x4)), .c (.f (.i .i64 x5)), .c (.f (.i .i64 x6)), .c (.f (.i .i64 x7)), .c (.f (.i .i64 x8))]), .r (.c (.ptr 1 (.k 0) 5)),
 rI x9] [[.c (.f (.b x10))], [.c (.f (.i .i64 x11)), .c (.f (.i .i64 x12)), .c (.f (.i .i64 x13)), .c (.f (.i .i64 x14)), .c (.f (.i .i64 x15))]] = K_Ad g_AQ g_Z g_AP g_AJ x0 x1 x2 x3 x4 x5 x6 x7 x8 x9 x10 x11 x12 x13 x14 x15 (fun (d : NI × Int × Int × Int × Int × Bool) => some (Res.mk (AV.tup [RV.agg [Sg.a (Sz.l 24) [kI d.1],
 sI d.2.1, sI d.2.2.1, sI d.2.2.2.1], RV.c (fI d.c4.1)]) [Ch.set [sB d.c4.2], Ch.keep] [])) := by kernel_rfl
theorem m_Ad {ρ σ : Type} (q : ρ → Option σ) (g_AQ : t2GN3) (g_Z : t4GN3) (g_AP : t5GN3) (g_AJ : t3GN3)   (x0 : Nat → Int) (x1 : Int) (x2 : Int) (x3 : Int) (x4 : Int) (x5 : Int) (x6 : Int) (x7 : Int) (x8 : Int) (x9 : Int) (x10 : Bool) (x11 : Int) (x12 : Int) (x13 : Int) (x14 : Int) (x15 : Int) (k : (NI × Int × Int × Int × Int × Bool) → Option ρ) : (K_Ad g_AQ g_Z g_AP g_AJ  x0 x1 x2 x3 x4 x5 x6 x7 x8 x9 x10 x11 x12 x13 x14 x15 k).bind q = K_Ad g_AQ g_Z g_AP g_AJ  x0 x1 x2 x3 x4 x5 x6 x7 x8 x9 x10 x11 x12 x13 x14 x15 (fun d => (k d).bind q) := by
  simp only [K_Ad, bnd_cond, bnd_bind, bnd_none, bnd_sum]
theorem qa_Ad : ∀ b, (QA_Ad).em b = ([.r (.c (.ptr 0 (.k 0) 1)), .r (.agg [.a (.l 24) [.i .i64 b.1.2.1.1.2.1]]), .r (.agg [.c (.f (.i .i64 b.1.2.2.1.1)), .c (.f (.i .i64 b.1.2.2.1.2.1)), .c (.f (.i .i64 b.1.2.2.1.2.2.1)), .c (.f (.i .i64 b.1.2.2.1.2.2.2.1)), .c (.f (.i .i64 b.1.2.2.1.c4.1)), .c (.f (.i .i64 b.1.2.2.1.c4.2.1)), .c (.f (.i .i64 b.1.2.2.1.c4.2.2.1)), .c (.f (.i .i64 b.1.2.2.1.c4.2.2.2.1))]), .r (.c (.ptr 1 (.k 0) 5)), rI b.1.c4.1], [[.c (.f (.b b.2.1.1))], [.c (.f (.i .i64 b.2.2.1.1)), .c (.f (.i .i64 b.2.2.1.2.1)), .c (.f (.i .i64 b.2.2.1.2.2.1)), .c (.f (.i .i64 b.2.2.1.2.2.2.1)), .c (.f (.i .i64 b.2.2.1.c4.1))]]) := fun b => by kernel_rfl
theorem e_Ad {f : NI → (Int) → (Int) → (Int) → (Int) → (Int) → (Int) → (Int) → (Int) → (Int) → (Bool) → (Int) → (Int) → (Int) → (Int) → (Int) → Option (NI × Int × Int × Int × Int × Bool)} {args : List AV} {h : List Blk} {r : Res} (hr : (F_Ad f args h).eval = some r) : ∃ x0 x1 x2 x3 x4 x5 x6 x7 x8 x9 x10 x11 x12 x13 x14 x15,
 args = [.r (.c (.ptr 0 (.k 0) 1)), .r (.agg [.a (.l 24) [.i .i64 x0]]), .r (.agg [.c (.f (.i .i64 x1)), .c (.f (.i .i64 x2)), .c (.f (.i .i64 x3)), .c (.f (.i .i64 x4)), .c (.f (.i .i64 x5)), .c (.f (.i .i64 x6)), .c (.f (.i .i64 x7)), .c (.f (.i .i64 x8))]), .r (.c (.ptr 1 (.k 0) 5)), rI x9] ∧ h = [[.c (.f (.b x10))],
 [.c (.f (.i .i64 x11)), .c (.f (.i .i64 x12)), .c (.f (.i .i64 x13)), .c (.f (.i .i64 x14)), .c (.f (.i .i64 x15))]] ∧ (f x0 x1 x2 x3 x4 x5 x6 x7 x8 x9 x10 x11 x12 x13 x14 x15).bind (fun (d : NI × Int × Int × Int × Int × Bool) => some (Res.mk (AV.tup [RV.agg [Sg.a (Sz.l 24) [kI d.1],
 sI d.2.1, sI d.2.2.1, sI d.2.2.2.1], RV.c (fI d.c4.1)]) [Ch.set [sB d.c4.2], Ch.keep] [])) = some r := by
  unfold F_Ad at hr
  split at hr
  · rename_i b hb
    have e := ((QA_Ad).ok _ _ hb).trans (qa_Ad b)
    rw [opt_eval2] at hr
    exact ⟨b.1.2.1.1.2.1, b.1.2.2.1.1, b.1.2.2.1.2.1, b.1.2.2.1.2.2.1, b.1.2.2.1.2.2.2.1, b.1.2.2.1.c4.1, b.1.2.2.1.c4.2.1, b.1.2.2.1.c4.2.2.1, b.1.2.2.1.c4.2.2.2.1, b.1.c4.1, b.2.1.1, b.2.2.1.1, b.2.2.1.2.1, b.2.2.1.2.2.1, b.2.2.1.2.2.2.1, b.2.2.1.c4.1, (Prod.mk.inj e).1, (Prod.mk.inj e).2, hr⟩
  · cases hr
theorem n_Ad {σ : Type} (q : (NI × Int × Int × Int × Int × Bool) → Option σ) (x0 : Nat → Int) (x1 : Int) (x2 : Int) (x3 : Int) (x4 : Int) (x5 : Int) (x6 : Int) (x7 : Int) (x8 : Int) (x9 : Int) (x10 : Bool) (x11 : Int) (x12 : Int) (x13 : Int) (x14 : Int) (x15 : Int) : (f_Ad x0 x1 x2 x3 x4 x5 x6 x7 x8 x9 x10 x11 x12 x13 x14 x15).bind q = K_Ad f_AQ f_Z f_AP f_AJ  x0 x1 x2 x3 x4 x5 x6 x7 x8 x9 x10 x11 x12 x13 x14 x15 q := by
  unfold f_Ad
  exact m_Ad q f_AQ f_Z f_AP f_AJ   x0 x1 x2 x3 x4 x5 x6 x7 x8 x9 x10 x11 x12 x13 x14 x15 some
theorem s_Ad [Amb] : Sound Try.prog 12 (F_Ad f_Ad) := (inl_sound (l := [(24, F_AQ f_AQ), (36, F_Z f_Z), (37, F_AP f_AP), (35, F_AJ f_AJ)]) (.cons s_AQ (.cons s_Z (.cons s_AP (.cons s_AJ (.nil _))))) mixed [] [] 200 (by kernel_rfl)).by (F := F_Ad f_Ad) fun args b r hr => by
  obtain ⟨x0, x1, x2, x3, x4, x5, x6, x7, x8, x9, x10, x11, x12, x13, x14, x15, rfl, rfl, hr1⟩ := e_Ad hr
  exact inl_eval ((d_Ad f_AQ f_Z f_AP f_AJ  x0 x1 x2 x3 x4 x5 x6 x7 x8 x9 x10 x11 x12 x13 x14 x15).trans ((n_Ad (fun (d : NI × Int × Int × Int × Int × Bool) => some (Res.mk
    (AV.tup
      [RV.agg [Sg.a (Sz.l 24) [kI d.1], sI d.2.1, sI d.2.2.1, sI d.2.2.2.1],
        RV.c (fI d.c4.1)])
    [Ch.set [sB d.c4.2], Ch.keep] [])) x0 x1 x2 x3 x4 x5 x6 x7 x8 x9 x10 x11 x12 x13 x14 x15).symm.trans hr1))

def K_BC {ρ : Type} (g_BA : Option Unit) (g_AB : t6GN3) (g_AW : t7GN3) (g_Al : t8GN3) (g_Am : t9GN3) (g_Ad : t10GN3) (g_AO : t11GN3) (g_AA : t12GN3) (k : (Bool) → Option ρ) : Option ρ := Option.bind g_BA fun (d : Unit) => Option.bind (g_AB 5 0 0 0 1000 0 0 1000 100 false) fun (d : Int × Int × Int × Int × Int × Int × Int × Int × Int × Bool) => Option.bind (g_AW 0 0 0) fun (d_1 : Unit ⊕ Int × Int × Int × Int × Int) => bif match d_1 with | Sum.inl val => true | Sum.inr val => false then
 Option.bind (match d_1 with | Sum.inl a => some a | Sum.inr val => none) fun (d_2 : Unit) => bif d.c8.1 != 0 then k false else k false else Option.bind (match d_1 with | Sum.inr b => some b | Sum.inl val => none) fun (d_2 : Int × Int × Int × Int × Int) => bif d.c8.1 != 0 then
 k false else Option.bind (g_Al (fun (j : Nat) => bif Nat.beq j 0 then 1073741824 else 0) d.1 d.2.1 d.2.2.1 d.2.2.2.1 d.c4.1 d.c4.2.1 d.c4.2.2.1 d.c4.2.2.2.1 5 d.c8.2) fun (d_3 : Bool × NI × Int × Int × Int × NI × Int × Int × Int × NI × Int ×
 Int × Int) => Option.bind (g_Am (fun (j : Nat) => bif Nat.beq j 0 then 1073741824 else 0) d.1 d.2.1 d.2.2.1 d.2.2.2.1 d.c4.1 d.c4.2.1 d.c4.2.2.1 d.c4.2.2.2.1 5 d_3.1 d_2.1 d_2.2.1 d_2.2.2.1 d_2.2.2.2.1 d_2.c4) fun (d_4 : Int × Bool ⊕ Bool × NI × Int × Int × Int × NI × Int × Int × Int) => bif match d_4 with | Sum.inl val => true | Sum.inr val => false then Option.bind (match d_4 with | Sum.inl a => some a | Sum.inr val => none) fun (d_5 : Int × Bool) => Option.bind (g_Ad (fun (j : Nat) => bif Nat.beq j 0 then 1073741824 else 0) d.1 d.2.1 d.2.2.1 d.2.2.2.1 d.c4.1 d.c4.2.1 d.c4.2.2.1 d.c4.2.2.2.1 5 d_5.2 d_2.1 d_2.2.1 d_2.2.2.1 d_2.2.2.2.1 d_2.c4) fun (d_6 : NI × Int × Int × Int × Int × Bool) => Option.bind g_BA fun (d_7 : Unit) => Option.bind (g_AO 5 0 0 0 1000 0 0 1000 100) fun (d_8 : Bool) => bif d_8 then bif d.2.2.2.1 == 1073741824 && (d.c4.1 == 0 && (d.c4.2.1 == 0 && true)) then bif d.c4.2.2.1 == 17592186044416 then bif d.c4.2.2.2.1 == 175921860444 then
 bif d.1 == 0 then bif d_3.2.2.1 == 1073741824 then Option.bind (g_AA 1 (fun (j : Nat) => bif Nat.beq j 0 then 4 else 4) true) fun (d : Nat → Int) => bif allN 24 fun (j : Nat) => d_3.2.1 j == d j then bif d_3.c4.1 == 5 then bif d_5.1 == 0 then k false else k false else k false else k false else k false else
 k false else k false else k false else k false else k false else Option.bind (match d_4 with | Sum.inr b => some b | Sum.inl val => none) fun (d_5 : Bool × NI × Int × Int × Int × NI × Int × Int × Int) => Option.bind (g_Ad (fun (j : Nat) => bif Nat.beq j 0 then 1073741824 else 0) d.1 d.2.1 d.2.2.1 d.2.2.2.1 d.c4.1 d.c4.2.1 d.c4.2.2.1 d.c4.2.2.2.1 5 d_5.1 d_2.1 d_2.2.1 d_2.2.2.1 d_2.2.2.2.1 d_2.c4) fun (d_6 : NI × Int × Int × Int × Int × Bool) => Option.bind g_BA fun (d_7 : Unit) => Option.bind (g_AO 5 0 0 0 1000 0 0 1000 100) fun (d_8 : Bool) => bif d_8 then bif d.2.2.2.1 == 1073741824 && (d.c4.1 == 0 && (d.c4.2.1 == 0 && true)) then bif d.c4.2.2.1 == 17592186044416 then bif d.c4.2.2.2.1 == 175921860444 then
 bif d.1 == 0 then bif d_3.2.2.1 == 1073741824 then Option.bind (g_AA 1 (fun (j : Nat) => bif Nat.beq j 0 then 4 else 4) true) fun (d : Nat → Int) => bif allN 24 fun (j : Nat) => d_3.2.1 j == d j then bif d_3.c4.1 == 5 then Option.bind (g_AA 1 (fun (j : Nat) => bif Nat.beq j 0 then 8 else 8) true) fun (d : Nat →
 Int) => bif allN 24 fun (j : Nat) => d_5.c4.2.1 j == d j then bif d_6.c4.1 == 0 then Option.bind (g_AA 1 (fun (j : Nat) => bif Nat.beq j 0 then 9 else 9) true) fun (d : Nat → Int) => bif allN 24 fun (j : Nat) => d_6.1 j == d j then bif d_6.2.2.1 == 70368744177664 then k !d_6.c4.2 else
 k false else k false else k false else k false else k false else k false else k false else k false else k false else k false else k false else k false
def f_BC  : Option (Bool) := K_BC f_BA f_AB f_AW f_Al f_Am f_Ad f_AO f_AA   some
section
open Go.Ab.Rdr
def QA_BC := ((pair nil nil) : Rdr (List AV × List Blk) _)
end
def F_BC (f : Option (Bool)) : Sem1 := fun args h => match (QA_BC).rd (args, h) with
  | some b => .opt (f ) fun (d : Bool) => .leaf (Res.mk (rB d) [] [])
  | none => .fail
theorem d_BC (g_BA : Option Unit) (g_AB : t6GN3) (g_AW : t7GN3) (g_Al : t8GN3) (g_Am : t9GN3) (g_Ad : t10GN3) (g_AO : t11GN3) (g_AA : t12GN3) : den Try.prog (envOf [(8, F_BA g_BA), (9, F_AB g_AB), (10, F_AW g_AW), (18, F_Al g_Al), (11, F_Am g_Am), (12, F_Ad g_Ad), (13, F_AO g_AO), (25, F_AA g_AA)]) ⟨[], [], [], [], none⟩ 200 7 [] [] = K_BC g_BA g_AB g_AW g_Al g_Am g_Ad g_AO g_AA (fun (d : Bool) => some (Res.mk (rB d) [] [])) := by kernel_rfl
theorem m_BC {ρ σ : Type} (q : ρ → Option σ) (g_BA : Option Unit) (g_AB : t6GN3) (g_AW : t7GN3) (g_Al : t8GN3) (g_Am : t9GN3) (g_Ad : t10GN3) (g_AO : t11GN3) (g_AA : t12GN3)    (k : (Bool) → Option ρ) : (K_BC g_BA g_AB g_AW g_Al g_Am g_Ad g_AO g_AA   k).bind q = K_BC g_BA g_AB g_AW g_Al g_Am g_Ad g_AO g_AA   (fun d => (k d).bind q) := by
  simp only [K_BC, bnd_cond, bnd_bind, bnd_none, bnd_sum]
theorem qa_BC : ∀ b, (QA_BC).em b = ([], []) := fun b => by kernel_rfl
theorem e_BC {f : Option (Bool)} {args : List AV} {h : List Blk} {r : Res} (hr : (F_BC f args h).eval = some r) : args = [] ∧ h = [] ∧ (f ).bind (fun (d : Bool) => some (Res.mk (rB d) [] [])) = some r := by
  unfold F_BC at hr
  split at hr
  · rename_i b hb
    have e := ((QA_BC).ok _ _ hb).trans (qa_BC b)
    rw [opt_eval2] at hr
    exact ⟨(Prod.mk.inj e).1, (Prod.mk.inj e).2, hr⟩
  · cases hr
theorem n_BC {σ : Type} (q : (Bool) → Option σ)  : (f_BC ).bind q = K_BC f_BA f_AB f_AW f_Al f_Am f_Ad f_AO f_AA   q := by
  unfold f_BC
  exact m_BC q f_BA f_AB f_AW f_Al f_Am f_Ad f_AO f_AA    some
theorem s_BC [Amb] : Sound Try.prog 7 (F_BC f_BC) := (inl_sound (l := [(8, F_BA f_BA), (9, F_AB f_AB), (10, F_AW f_AW), (18, F_Al f_Al), (11, F_Am f_Am), (12, F_Ad f_Ad), (13, F_AO f_AO), (25, F_AA f_AA)]) (.cons s_BA (.cons s_AB (.cons s_AW (.cons s_Al (.cons s_Am (.cons s_Ad (.cons s_AO (.cons s_AA (.nil _))))))))) mixed [] [] 200 (by kernel_rfl)).by (F := F_BC f_BC) fun args b r hr => by
  obtain ⟨rfl, rfl, hr1⟩ := e_BC hr
  exact inl_eval ((d_BC f_BA f_AB f_AW f_Al f_Am f_Ad f_AO f_AA  ).trans ((n_BC (fun (d : Bool) => some (Res.mk (rB d) [] [])) ).symm.trans hr1))

end Go.Proofs.Ytdpenjncfmkbgaa
