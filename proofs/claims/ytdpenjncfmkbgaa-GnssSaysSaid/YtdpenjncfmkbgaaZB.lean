/-
  Contracts by plain functions: gnss.Read, (wide.big).shl, (wide.big).shr, wide.Round, (*fx.Acc).round, (*fx.Acc).Mul, earth.New$1, trig.Wrap, fx.Abs, trig.m, wide.Of, wide.add, wide.Add, (*fx.Acc).Add, trig.series, trig.Sin, trig.Cos, wide.Shift, (wide.big).less, (wide.big).minus, wide.Root, root.end, root.Sqrt, (*fx.Acc).Div, earth.New, bierman.Pick, (*fx.Acc).Sub, gnss.straight, gnss.Velocity, (*earth.Frame).To Contracts by plain functions: gnss.Horizontal, gnss.Height, astrolabelaw19.awake, astrolabelaw19.GnssKnown
-/
import Derived.Test.YtdpenjncfmkbgaaZA
set_option linter.unusedVariables false
set_option linter.unusedSimpArgs false
set_option maxRecDepth 100000
set_option maxHeartbeats 4000000
set_option linter.unusedVariables false
namespace Go.Proofs.Ytdpenjncfmkbgaa
open Go.Ab
abbrev u0GN2 : List Nat := [1, 2, 5, 7, 8, 9, 10, 11, 12, 13, 14, 15, 16, 17, 18, 19, 20, 21, 22, 24, 25, 26, 27, 28, 29, 30, 31, 32, 33, 34, 35, 36, 37]
abbrev u1GN2 : List Nat := [0, 1, 2, 3, 6, 7, 8, 9, 10, 11, 12, 13, 14, 15, 16, 17, 18, 19, 20, 21, 22, 23, 24, 25, 26, 27, 28, 29, 30, 31, 32, 33, 34, 35, 36, 37]
abbrev u2GN2 : List Nat := [0, 1, 3, 5, 6, 7, 8, 12, 13, 14, 15, 16, 17, 18, 19, 20, 21, 22, 23, 24, 25, 26]
abbrev u3GN2 : List Nat := [0, 1, 4, 5, 6, 7, 8, 9, 10, 11, 12, 13, 14, 15, 16, 17, 18, 19, 20, 21, 22, 23, 24, 25, 26]
abbrev u4GN2 : List Nat := [1, 2, 3, 4, 6, 7, 8, 9, 13, 14, 15, 16, 17, 18, 19, 20, 21, 22, 23, 24, 25, 26, 27, 28, 29, 30, 31, 32, 33, 34, 35, 36, 37, 38]
abbrev u5GN2 : List Nat := [0, 1, 2, 3, 5, 6, 7, 8, 9, 10, 11, 12, 13, 14, 15, 16, 17, 18, 19, 20, 21, 22, 23, 24, 25, 26, 27, 28, 29, 30, 31, 32, 33, 34, 35, 36, 37, 38]
abbrev u6GN2 : List Nat := [2, 3, 4, 5, 6, 8, 9, 10, 11, 12, 13, 17, 18, 19, 20, 21, 22, 23, 24, 25, 26, 27, 28, 29]
abbrev u7GN2 : List Nat := [0, 1, 2, 3, 4, 5, 7, 8, 9, 10, 11, 12, 13, 14, 15, 16, 17, 18, 19, 20, 21, 22, 23, 24, 25, 26, 27, 28, 29]
abbrev u8GN2 : List Nat := [0, 1, 2, 3, 7, 8, 9, 10, 11, 12, 13, 14, 15, 16, 17, 18, 19, 20, 21, 22, 23, 24, 25, 26, 27, 28, 29, 30, 31, 32, 33, 34, 35, 36, 37, 38, 39, 40, 41, 42, 43, 44, 45, 46, 47, 48, 49, 50]
abbrev u9GN2 : List Nat := [0, 1, 4, 5, 6, 7, 8, 9, 10, 11, 12, 13, 14, 15, 16, 17, 18, 19, 20, 21, 22, 23, 24, 25, 26, 27, 28, 29, 30, 31, 32, 33, 34, 35, 36, 37, 38, 39, 40, 41, 42, 43, 44, 45, 46, 47, 48, 49, 50]
abbrev u10GN2 : List Nat := [0, 1, 3, 4, 5, 6, 7, 8, 9, 10, 11, 12, 13, 14, 15, 16, 17, 18, 19, 20, 21]
abbrev u11GN2 : List Nat := [1, 2, 4, 7, 8, 10, 11, 12, 15, 16, 17, 18, 19, 20, 21, 22, 23, 24, 25, 26, 27, 28, 29, 30, 31]
abbrev u12GN2 : List Nat := [0, 1, 2, 3, 4, 5, 6, 7, 9, 10, 11, 12, 13, 14, 15, 16, 17, 18, 19, 20, 21, 22, 23, 24, 25, 26, 27, 28, 29, 30, 31]
abbrev t13GN2 := Int → Int → Int → Int → Int → Int → Int → Int → Int → Option Bool
abbrev t14GN2 := Int → Int → Int → Int → Int → Int → Int → Int → Int → Option (Int × Int × Int)
abbrev t15GN2 := Int → Option Int
abbrev t16GN2 := Int → Int → Int → Bool → Option (Int × Bool)
abbrev t17GN2 := Int → Int → Option (Int × Int × Bool)
abbrev t18GN2 := Int → Int → Int → Option (Int × Int)
abbrev t19GN2 := Int → Int → Int → Int → Option (Int × Int)
abbrev t20GN2 := Int → Int → Bool → Option (Int × Bool)
abbrev t21GN2 := Int → Int → Int → Option (Int × Bool)
abbrev t22GN2 := Int → Bool → Bool → Bool → Option (Int × Bool)
abbrev t23GN2 := Int → Bool → Option (Int × Bool)
abbrev t24GN2 := Int → Int → Option (Int × Int)
abbrev t25GN2 := Int → Int → Int → Int → Option (Int × Int × Bool)
abbrev t26GN2 := Int → Option (Int × Int)
abbrev t27GN2 := Nat → NI → NI → Bool → Option (Int × Int × Bool)
abbrev t28GN2 := Nat → Bool → NI → Bool → Option (Int × Bool)
abbrev t29GN2 := Int → Nat → Bool → NI → Bool → Option (Int × Bool)
abbrev t30GN2 := Int → Int → Bool → Option (Int × Int × Bool)
abbrev t31GN2 := Int → Int → Int → Int → Option Bool
abbrev t32GN2 := Int → Int → Option (Int × Bool)
abbrev t33GN2 := Int → Int → Int → Option Bool
abbrev t34GN2 := Nat → NI → Bool → Option NI
abbrev t35GN2 := NI → Int → Int → Int → Int → Bool → Option (NI × Int × Int × Int × Bool)
def S_Ad_0 {ρ : Type} (g_Ap : t13GN2) (g_Aq : t14GN2) (g_BI : t15GN2) (g_AE : t16GN2) (x0 : Int) (x1 : Bool) (x2 : Int) (x3 : Int) (x4 : Int) (x5 : Int) (x6 : Int) (x7 : Int) (x8 : Int) (x9 : Int) (x10 : Int) (x11 : Int) (x12 : Int) (x13 : Int) (x14 : Int) (x15 : Int) (x16 : Int) (x17 : Int) (x18 : Int) (c : (Int ×
 Bool × Int × Int × Int × Int × Int × Int × Int × Int × Int × Int × Int × Int × Int × Int × Int × Int × Int) → Option ρ) (x : (Int × Bool × Bool × Int × Int × Int × Int × Int × Int × Int × Int × Int × Int × Int × Int × Int × Int × Int × Int × Int) → Option ρ) : Option ρ := bif decide (x0 < 3) then bif inR (IntKind.wrap .i64 (3 + x0)) 8 then
 bif IntKind.wrap .i64 (3 + x0) == 7 then Option.bind (g_AE x10 1073741824 1000 x1) fun (d : Int × Bool) => bif inR x0 3 then bif x0 == 2 then c (IntKind.wrap .i64 (x0 + 1), d.2, x2, x3, x4, x5, x6, x7, x8, x9, x10, x11, x12, x13, x14, x15, d.1, x17, x18) else bif x0 == 1 then c (IntKind.wrap .i64 (x0 + 1),
 d.2, x2, x3, x4, x5, x6, x7, x8, x9, x10, x11, x12, x13, x14, d.1, x16, x17, x18) else c (IntKind.wrap .i64 (x0 + 1), d.2, x2, x3, x4, x5, x6, x7, x8, x9, x10, x11, x12, x13, d.1, x15, x16, x17, x18) else none else bif IntKind.wrap .i64 (3 + x0) == 6 then Option.bind (g_AE x9 1073741824 1000 x1) fun (d : Int ×
 Bool) => bif inR x0 3 then bif x0 == 2 then c (IntKind.wrap .i64 (x0 + 1), d.2, x2, x3, x4, x5, x6, x7, x8, x9, x10, x11, x12, x13, x14, x15, d.1, x17, x18) else bif x0 == 1 then c (IntKind.wrap .i64 (x0 + 1), d.2, x2, x3, x4, x5, x6, x7, x8, x9, x10, x11, x12, x13, x14, d.1, x16, x17,
 x18) else c (IntKind.wrap .i64 (x0 + 1), d.2, x2, x3, x4, x5, x6, x7, x8, x9, x10, x11, x12, x13, d.1, x15, x16, x17, x18) else none else bif IntKind.wrap .i64 (3 + x0) == 5 then Option.bind (g_AE x8 1073741824 1000 x1) fun (d : Int × Bool) => bif inR x0 3 then bif x0 == 2 then c (IntKind.wrap .i64 (x0 + 1),
 d.2, x2, x3, x4, x5, x6, x7, x8, x9, x10, x11, x12, x13, x14, x15, d.1, x17, x18) else bif x0 == 1 then c (IntKind.wrap .i64 (x0 + 1), d.2, x2, x3, x4, x5, x6, x7, x8, x9, x10, x11, x12, x13, x14, d.1, x16, x17, x18) else c (IntKind.wrap .i64 (x0 + 1), d.2, x2, x3, x4, x5, x6, x7, x8, x9,
 x10, x11, x12, x13, d.1, x15, x16, x17, x18) else none else bif IntKind.wrap .i64 (3 + x0) == 4 then Option.bind (g_AE x7 1073741824 1000 x1) fun (d : Int × Bool) => bif inR x0 3 then bif x0 == 2 then c (IntKind.wrap .i64 (x0 + 1), d.2, x2, x3, x4, x5, x6, x7, x8, x9, x10, x11, x12, x13,
 x14, x15, d.1, x17, x18) else bif x0 == 1 then c (IntKind.wrap .i64 (x0 + 1), d.2, x2, x3, x4, x5, x6, x7, x8, x9, x10, x11, x12, x13, x14, d.1, x16, x17, x18) else c (IntKind.wrap .i64 (x0 + 1), d.2, x2, x3, x4, x5, x6, x7, x8, x9, x10, x11, x12, x13, d.1, x15, x16, x17, x18) else none else
 bif IntKind.wrap .i64 (3 + x0) == 3 then Option.bind (g_AE x6 1073741824 1000 x1) fun (d : Int × Bool) => bif inR x0 3 then bif x0 == 2 then c (IntKind.wrap .i64 (x0 + 1), d.2, x2, x3, x4, x5, x6, x7, x8, x9, x10, x11, x12, x13, x14, x15, d.1, x17, x18) else bif x0 == 1 then c (IntKind.wrap .i64 (x0 + 1),
 d.2, x2, x3, x4, x5, x6, x7, x8, x9, x10, x11, x12, x13, x14, d.1, x16, x17, x18) else c (IntKind.wrap .i64 (x0 + 1), d.2, x2, x3, x4, x5, x6, x7, x8, x9, x10, x11, x12, x13, d.1, x15, x16, x17, x18) else none else bif IntKind.wrap .i64 (3 + x0) == 2 then Option.bind (g_AE x5 1073741824 1000 x1) fun (d : Int ×
 Bool) => bif inR x0 3 then bif x0 == 2 then c (IntKind.wrap .i64 (x0 + 1), d.2, x2, x3, x4, x5, x6, x7, x8, x9, x10, x11, x12, x13, x14, x15, d.1, x17, x18) else bif x0 == 1 then c (IntKind.wrap .i64 (x0 + 1), d.2, x2, x3, x4, x5, x6, x7, x8, x9, x10, x11, x12, x13, x14, d.1, x16, x17,
 x18) else c (IntKind.wrap .i64 (x0 + 1), d.2, x2, x3, x4, x5, x6, x7, x8, x9, x10, x11, x12, x13, d.1, x15, x16, x17, x18) else none else bif IntKind.wrap .i64 (3 + x0) == 1 then Option.bind (g_AE x4 1073741824 1000 x1) fun (d : Int × Bool) => bif inR x0 3 then bif x0 == 2 then c (IntKind.wrap .i64 (x0 + 1),
 d.2, x2, x3, x4, x5, x6, x7, x8, x9, x10, x11, x12, x13, x14, x15, d.1, x17, x18) else bif x0 == 1 then c (IntKind.wrap .i64 (x0 + 1), d.2, x2, x3, x4, x5, x6, x7, x8, x9, x10, x11, x12, x13, x14, d.1, x16, x17, x18) else c (IntKind.wrap .i64 (x0 + 1), d.2, x2, x3, x4, x5, x6, x7, x8, x9,
 x10, x11, x12, x13, d.1, x15, x16, x17, x18) else none else Option.bind (g_AE x3 1073741824 1000 x1) fun (d : Int × Bool) => bif inR x0 3 then bif x0 == 2 then c (IntKind.wrap .i64 (x0 + 1), d.2, x2, x3, x4, x5, x6, x7, x8, x9, x10, x11, x12, x13, x14, x15, d.1, x17, x18) else bif x0 == 1 then
 c (IntKind.wrap .i64 (x0 + 1), d.2, x2, x3, x4, x5, x6, x7, x8, x9, x10, x11, x12, x13, x14, d.1, x16, x17, x18) else c (IntKind.wrap .i64 (x0 + 1), d.2, x2, x3, x4, x5, x6, x7, x8, x9, x10, x11, x12, x13, d.1, x15, x16, x17, x18) else none else none else x (x0, decide (x0 < 3), x1, x2,
 x3, x4, x5, x6, x7, x8, x9, x10, x11, x12, x13, x14, x15, x16, x17, x18)
section
open Go.Ab.Rdr
def Q_Ad_0 := (st (cons (ar (rc (cptr (nat 0) (ok' (nat 0)) (nat 1)))) (cons aund (cons aund (cons (ar (rc (cptr (nat 1) (ok' (nat 0)) (nat 9)))) (cons (ar (rc (cptr (nat 2) (ok' (nat 0)) (nat 8)))) (cons aund (cons (ar (rc (cptr (nat 3) (ok' (nat 0)) (nat 8)))) (cons aund (cons aund (cons aund (cons aund (cons aund (cons aund (cons aund (cons aund (cons aund (cons aund (cons aund (cons aund (cons aund (cons aund (cons aund (cons aund (cons (ar (rc (cf (fi .i64 hole)))) (cons aund (cons aund (cons aund (cons aund (cons aund (cons aund (cons aund (cons aund (cons aund (cons aund (cons aund (cons aund (cons aund (cons aund nil)))))))))))))))))))))))))))))))))))))) (cons (some' (cons (gc (cf (fb hole))) nil)) (cons (some' (cons (gc (cf (fi .i64 hole))) (cons (gc (cf (fi .i64 hole))) (cons (gc (cf (fi .i64 hole))) (cons (gc (cf (fi .i64 hole))) (cons (gc (cf (fi .i64 hole))) (cons (gc (cf (fi .i64 hole))) (cons (gc (cf (fi .i64 hole))) (cons (gc (cf (fi .i64 hole))) (cons (gc (cf (fi .i64 hole))) nil)))))))))) (cons (some' (cons (gc (cf (fi .i64 (int 0)))) (cons (gc (cf (fi .i64 (int 0)))) (cons (gc (cf (fi .i64 (int 0)))) (cons (gc (cf (fi .i64 (int 0)))) (cons (gc (cf (fi .i64 (int 0)))) (cons (gc (cf (fi .i64 (int 0)))) (cons (gc (cf (fi .i64 (int 0)))) (cons (gc (cf (fi .i64 (int 0)))) nil))))))))) (cons (some' (cons (gc (cf (fi .i64 hole))) (cons (gc (cf (fi .i64 hole))) (cons (gc (cf (fi .i64 hole))) (cons (gc (cf (fi .i64 hole))) (cons (gc (cf (fi .i64 hole))) (cons (gc (cf (fi .i64 hole))) (cons (gc (cf (fi .i64 hole))) (cons (gc (cf (fi .i64 hole))) nil))))))))) nil)))) (cons (nat 0) nil))
end
theorem q_Ad_0 : ∀ b, (Q_Ad_0).em b = St.mk [AV.r (RV.c (CV.ptr 0 (Off.k 0) 1)), un, un, AV.r (RV.c (CV.ptr 1 (Off.k 0) 9)), AV.r (RV.c (CV.ptr 2 (Off.k 0) 8)), un, AV.r (RV.c (CV.ptr 3 (Off.k 0) 8)), un, un, un, un, un, un, un, un, un, un, un,
 un, un, un, un, un, rI b.1.c16.c4.2.2.2.1, un, un, un, un, un, un, un, un, un, un, un, un, un, un] [some [sB b.2.1.1.1], some [sI b.2.1.2.1.1,
 sI b.2.1.2.1.2.1, sI b.2.1.2.1.2.2.1, sI b.2.1.2.1.2.2.2.1, sI b.2.1.2.1.c4.1, sI b.2.1.2.1.c4.2.1, sI b.2.1.2.1.c4.2.2.1,
 sI b.2.1.2.1.c4.2.2.2.1, sI b.2.1.2.1.c8.1], some [sI 0, sI 0, sI 0, sI 0, sI 0, sI 0,
 sI 0, sI 0], some [sI b.2.1.2.2.2.1.1, sI b.2.1.2.2.2.1.2.1, sI b.2.1.2.2.2.1.2.2.1, sI b.2.1.2.2.2.1.2.2.2.1, sI b.2.1.2.2.2.1.c4.1,
 sI b.2.1.2.2.2.1.c4.2.1, sI b.2.1.2.2.2.1.c4.2.2.1, sI b.2.1.2.2.2.1.c4.2.2.2.1]] [0] := fun b => by kernel_rfl
def R_Ad_0 (l : ∀ {ρ : Type}, (Int × Bool × Int × Int × Int × Int × Int × Int × Int × Int × Int × Int × Int × Int × Int × Int × Int × Int × Int) → ((Int × Bool × Bool × Int × Int × Int × Int × Int × Int × Int × Int × Int × Int × Int × Int × Int × Int × Int × Int × Int) → Option ρ) → Option ρ) {ρ : Type} (s : St) (K : AX →
 St → Option ρ) : Option ρ := ((Q_Ad_0).rd s).bind fun b => l (b.1.c16.c4.2.2.2.1, b.2.1.1.1, b.2.1.2.1.1, b.2.1.2.1.2.1, b.2.1.2.1.2.2.1, b.2.1.2.1.2.2.2.1, b.2.1.2.1.c4.1, b.2.1.2.1.c4.2.1, b.2.1.2.1.c4.2.2.1, b.2.1.2.1.c4.2.2.2.1, b.2.1.2.1.c8.1,
 b.2.1.2.2.2.1.1, b.2.1.2.2.2.1.2.1, b.2.1.2.2.2.1.2.2.1, b.2.1.2.2.2.1.2.2.2.1, b.2.1.2.2.2.1.c4.1, b.2.1.2.2.2.1.c4.2.1, b.2.1.2.2.2.1.c4.2.2.1, b.2.1.2.2.2.1.c4.2.2.2.1) (fun d => K (AX.ex 0) (St.mk [AV.r (RV.c (CV.ptr 0 (Off.k 0) 1)), un, un, AV.r (RV.c (CV.ptr 1 (Off.k 0) 9)),
 AV.r (RV.c (CV.ptr 2 (Off.k 0) 8)), un, AV.r (RV.c (CV.ptr 3 (Off.k 0) 8)), un, un, un, un, un, un, un, un, un, un, un, un, un, un, un, un, rI d.1, rB d.2.1, un, un, un,
 un, un, un, un, un, un, un, un, un, un] [some [sB d.2.2.1], some [sI d.2.2.2.1, sI d.c4.1, sI d.c4.2.1, sI d.c4.2.2.1,
 sI d.c4.2.2.2.1, sI d.c8.1, sI d.c8.2.1, sI d.c8.2.2.1, sI d.c8.2.2.2.1], some [sI 0,
 sI 0, sI 0, sI 0, sI 0, sI 0, sI 0, sI 0], some [sI d.c8.c4.1,
 sI d.c8.c4.2.1, sI d.c8.c4.2.2.1, sI d.c8.c4.2.2.2.1, sI d.c16.1, sI d.c16.2.1,
 sI d.c16.2.2.1, sI d.c16.2.2.2]] [0]))
theorem ms_Ad_0 {ρ σ : Type} (g_Ap : t13GN2) (g_Aq : t14GN2) (g_BI : t15GN2) (g_AE : t16GN2) (q : ρ → Option σ) (x0 : Int) (x1 : Bool) (x2 : Int) (x3 : Int) (x4 : Int) (x5 : Int) (x6 : Int) (x7 : Int) (x8 : Int) (x9 : Int) (x10 : Int) (x11 : Int) (x12 : Int) (x13 : Int) (x14 : Int) (x15 : Int) (x16 : Int) (x17 : Int) (x18 : Int) (c : (Int × Bool × Int × Int × Int × Int × Int × Int × Int × Int × Int × Int × Int × Int × Int × Int × Int × Int × Int) → Option ρ) (x : (Int × Bool × Bool × Int × Int × Int × Int × Int × Int × Int × Int × Int × Int × Int × Int × Int × Int × Int × Int × Int) → Option ρ) : (S_Ad_0 g_Ap g_Aq g_BI g_AE x0 x1 x2 x3 x4 x5 x6 x7 x8 x9 x10 x11 x12 x13 x14 x15 x16 x17 x18 c x).bind q = S_Ad_0 g_Ap g_Aq g_BI g_AE x0 x1 x2 x3 x4 x5 x6 x7 x8 x9 x10 x11 x12 x13 x14 x15 x16 x17 x18 (fun d => (c d).bind q) (fun d => (x d).bind q) := by
  simp only [S_Ad_0, bnd_cond, bnd_bind, bnd_none, bnd_sum]
def L_Ad_0 {ρ : Type} (d : Int × Bool × Int × Int × Int × Int × Int × Int × Int × Int × Int × Int × Int × Int × Int × Int × Int × Int × Int) (k : (Int × Bool × Bool × Int × Int × Int × Int × Int × Int × Int × Int × Int × Int × Int × Int × Int × Int × Int × Int × Int) → Option ρ) : Option ρ := loopK (fun d c x => S_Ad_0 f_Ap f_Aq f_BI f_AE d.1 d.2.1 d.2.2.1 d.2.2.2.1 d.c4.1 d.c4.2.1 d.c4.2.2.1 d.c4.2.2.2.1 d.c8.1 d.c8.2.1 d.c8.2.2.1 d.c8.2.2.2.1 d.c8.c4.1 d.c8.c4.2.1 d.c8.c4.2.2.1 d.c8.c4.2.2.2.1 d.c16.1 d.c16.2.1 d.c16.2.2 c x) 200 d k
theorem mL_Ad_0 {ρ σ : Type} (q : ρ → Option σ) (d : Int × Bool × Int × Int × Int × Int × Int × Int × Int × Int × Int × Int × Int × Int × Int × Int × Int × Int × Int) (k : (Int × Bool × Bool × Int × Int × Int × Int × Int × Int × Int × Int × Int × Int × Int × Int × Int × Int × Int × Int × Int) → Option ρ) : (L_Ad_0 d k).bind q = L_Ad_0 d fun x => (k x).bind q := loopK_bind q (fun d c x => ms_Ad_0 f_Ap f_Aq f_BI f_AE q d.1 d.2.1 d.2.2.1 d.2.2.2.1 d.c4.1 d.c4.2.1 d.c4.2.2.1 d.c4.2.2.2.1 d.c8.1 d.c8.2.1 d.c8.2.2.1 d.c8.2.2.2.1 d.c8.c4.1 d.c8.c4.2.1 d.c8.c4.2.2.1 d.c8.c4.2.2.2.1 d.c16.1 d.c16.2.1 d.c16.2.2 c x) k _ d
theorem ds_Ad_0 {ρ : Type} (g_Ap : t13GN2) (g_Aq : t14GN2) (g_BI : t15GN2) (g_AE : t16GN2) (l_0 : ∀ {ρ : Type}, (Int × Bool ×
 Int × Int × Int × Int × Int × Int × Int × Int × Int × Int × Int × Int × Int × Int × Int × Int × Int) → ((Int × Bool × Bool × Int × Int × Int × Int × Int × Int × Int × Int × Int × Int × Int × Int × Int × Int × Int × Int × Int) → Option ρ) → Option ρ) (x0 : Int) (x1 : Bool) (x2 : Int) (x3 : Int) (x4 : Int) (x5 : Int) (x6 : Int) (x7 : Int) (x8 : Int) (x9 : Int) (x10 : Int) (x11 : Int) (x12 : Int) (x13 : Int) (x14 : Int) (x15 : Int) (x16 : Int) (x17 : Int) (x18 : Int) (c : St →
 Option ρ) (K : AX → St → Option ρ) : runC Try.prog (envOf [(13, F_Ap g_Ap), (26, F_Aq g_Aq), (27, F_BI g_BI), (28, F_AE g_AE)]) ⟨[⟨5, u0GN2, []⟩], [⟨5, 1, @R_Ad_0 (@l_0)⟩], [0], [],
 (some ⟨0, u1GN2, []⟩)⟩ (tmpsOf Try.prog 9) 1 200 (loopIn Try.prog 9 5) (St.mk [AV.r (RV.c (CV.ptr 0 (Off.k 0) 1)), un, un, AV.r (RV.c (CV.ptr 1 (Off.k 0) 9)), AV.r (RV.c (CV.ptr 2 (Off.k 0) 8)),
 un, AV.r (RV.c (CV.ptr 3 (Off.k 0) 8)), un, un, un, un, un, un, un, un, un, un, un, un, un, un, un, un, rI x0, un, un, un, un, un, un, un, un, un, un, un,
 un, un, un] [some [sB x1], some [sI x2, sI x3, sI x4, sI x5, sI x6, sI x7, sI x8,
 sI x9, sI x10], some [sI 0, sI 0, sI 0, sI 0, sI 0, sI 0, sI 0,
 sI 0], some [sI x11, sI x12, sI x13, sI x14, sI x15, sI x16, sI x17, sI x18]] [0]) (next (fun t => t.head 1 ⟨[⟨5,
 u0GN2, []⟩], [⟨5, 1, @R_Ad_0 (@l_0)⟩], [0], [], (some ⟨0, u1GN2, []⟩)⟩ (loopIn Try.prog 9 5)) c K) = S_Ad_0 g_Ap g_Aq g_BI g_AE x0 x1 x2 x3 x4 x5 x6 x7 x8 x9 x10 x11 x12 x13 x14 x15 x16 x17 x18 (fun d => c (St.mk [AV.r (RV.c (CV.ptr 0 (Off.k 0) 1)), un, un, AV.r (RV.c (CV.ptr 1 (Off.k 0) 9)), AV.r (RV.c (CV.ptr 2 (Off.k 0) 8)), un, AV.r (RV.c (CV.ptr 3 (Off.k 0) 8)),
 un, un, un, un, un, un, un, un, un, un, un, un, un, un, un, un, rI d.1, un, un, un, un, un, un, un, un, un, un, un, un, un, un] [some [sB d.2.1],
 some [sI d.2.2.1, sI d.2.2.2.1, sI d.c4.1, sI d.c4.2.1, sI d.c4.2.2.1, sI d.c4.2.2.2.1, sI d.c8.1,
 sI d.c8.2.1, sI d.c8.2.2.1], some [sI 0, sI 0, sI 0, sI 0, sI 0, sI 0,
 sI 0, sI 0], some [sI d.c8.2.2.2.1, sI d.c8.c4.1, sI d.c8.c4.2.1, sI d.c8.c4.2.2.1,
 sI d.c8.c4.2.2.2.1, sI d.c16.1, sI d.c16.2.1, sI d.c16.2.2]] [0])) (fun d => K (AX.ex 0) (St.mk [AV.r (RV.c (CV.ptr 0 (Off.k 0) 1)),
 un, un, AV.r (RV.c (CV.ptr 1 (Off.k 0) 9)), AV.r (RV.c (CV.ptr 2 (Off.k 0) 8)), un, AV.r (RV.c (CV.ptr 3 (Off.k 0) 8)), un, un, un, un, un, un, un, un, un, un, un, un, un, un, un, un, rI d.1,
 rB d.2.1, un, un, un, un, un, un, un, un, un, un, un, un, un] [some [sB d.2.2.1], some [sI d.2.2.2.1, sI d.c4.1, sI d.c4.2.1,
 sI d.c4.2.2.1, sI d.c4.2.2.2.1, sI d.c8.1, sI d.c8.2.1, sI d.c8.2.2.1, sI d.c8.2.2.2.1],
 some [sI 0, sI 0, sI 0, sI 0, sI 0, sI 0, sI 0, sI 0], some [sI d.c8.c4.1,
 sI d.c8.c4.2.1, sI d.c8.c4.2.2.1, sI d.c8.c4.2.2.2.1, sI d.c16.1, sI d.c16.2.1,
 sI d.c16.2.2.1, sI d.c16.2.2.2]] [0])) := by kernel_rfl
theorem it_Ad_0 {ρ : Type} (x0 : Int) (x1 : Bool) (x2 : Int) (x3 : Int) (x4 : Int) (x5 : Int) (x6 : Int) (x7 : Int) (x8 : Int) (x9 : Int) (x10 : Int) (x11 : Int) (x12 : Int) (x13 : Int) (x14 : Int) (x15 : Int) (x16 : Int) (x17 : Int) (x18 : Int) (K : AX → St → Option ρ) : iter (fun t => t.head 1 ⟨[⟨5,
 u0GN2, []⟩], [⟨5, 1, @R_Ad_0 (@L_Ad_0)⟩], [0], [], (some ⟨0, u1GN2, []⟩)⟩ (loopIn Try.prog 9 5)) (runC Try.prog (envOf [(13, F_Ap f_Ap), (26, F_Aq f_Aq), (27, F_BI f_BI), (28, F_AE f_AE)]) ⟨[⟨5, u0GN2, []⟩], [⟨5, 1, @R_Ad_0 (@L_Ad_0)⟩],
 [0], [], (some ⟨0, u1GN2, []⟩)⟩ (tmpsOf Try.prog 9) 1 200 (loopIn Try.prog 9 5)) K 200 (St.mk [AV.r (RV.c (CV.ptr 0 (Off.k 0) 1)), un, un, AV.r (RV.c (CV.ptr 1 (Off.k 0) 9)),
 AV.r (RV.c (CV.ptr 2 (Off.k 0) 8)), un, AV.r (RV.c (CV.ptr 3 (Off.k 0) 8)), un, un, un, un, un, un, un, un, un, un, un, un, un, un, un, un, rI x0, un, un, un, un, un, un, un,
 un, un, un, un, un, un, un] [some [sB x1], some [sI x2, sI x3, sI x4, sI x5, sI x6, sI x7,
 sI x8, sI x9, sI x10], some [sI 0, sI 0, sI 0, sI 0, sI 0, sI 0,
 sI 0, sI 0], some [sI x11, sI x12, sI x13, sI x14, sI x15, sI x16, sI x17,
 sI x18]] [0]) = L_Ad_0 (x0, x1, x2, x3, x4, x5, x6, x7, x8, x9, x10, x11, x12, x13, x14, x15, x16, x17, x18) (fun d => K (AX.ex 0) (St.mk [AV.r (RV.c (CV.ptr 0 (Off.k 0) 1)), un, un, AV.r (RV.c (CV.ptr 1 (Off.k 0) 9)), AV.r (RV.c (CV.ptr 2 (Off.k 0) 8)), un, AV.r (RV.c (CV.ptr 3 (Off.k 0) 8)),
 un, un, un, un, un, un, un, un, un, un, un, un, un, un, un, un, rI d.1, rB d.2.1, un, un, un, un, un, un, un, un, un, un, un, un, un] [some [sB d.2.2.1],
 some [sI d.2.2.2.1, sI d.c4.1, sI d.c4.2.1, sI d.c4.2.2.1, sI d.c4.2.2.2.1, sI d.c8.1, sI d.c8.2.1,
 sI d.c8.2.2.1, sI d.c8.2.2.2.1], some [sI 0, sI 0, sI 0, sI 0, sI 0, sI 0,
 sI 0, sI 0], some [sI d.c8.c4.1, sI d.c8.c4.2.1, sI d.c8.c4.2.2.1, sI d.c8.c4.2.2.2.1,
 sI d.c16.1, sI d.c16.2.1, sI d.c16.2.2.1, sI d.c16.2.2.2]] [0])) := iter_loopX (emb := fun (d : Int ×
 Bool × Int × Int × Int × Int × Int × Int × Int × Int × Int × Int × Int × Int × Int × Int × Int × Int × Int) => St.mk [AV.r (RV.c (CV.ptr 0 (Off.k 0) 1)), un, un, AV.r (RV.c (CV.ptr 1 (Off.k 0) 9)), AV.r (RV.c (CV.ptr 2 (Off.k 0) 8)), un, AV.r (RV.c (CV.ptr 3 (Off.k 0) 8)), un, un,
 un, un, un, un, un, un, un, un, un, un, un, un, un, un, rI d.1, un, un, un, un, un, un, un, un, un, un, un, un, un, un] [some [sB d.2.1],
 some [sI d.2.2.1, sI d.2.2.2.1, sI d.c4.1, sI d.c4.2.1, sI d.c4.2.2.1, sI d.c4.2.2.2.1, sI d.c8.1,
 sI d.c8.2.1, sI d.c8.2.2.1], some [sI 0, sI 0, sI 0, sI 0, sI 0, sI 0,
 sI 0, sI 0], some [sI d.c8.2.2.2.1, sI d.c8.c4.1, sI d.c8.c4.2.1, sI d.c8.c4.2.2.1,
 sI d.c8.c4.2.2.2.1, sI d.c16.1, sI d.c16.2.1, sI d.c16.2.2]] [0]) (step := fun d c x => S_Ad_0 f_Ap f_Aq f_BI f_AE d.1 d.2.1 d.2.2.1 d.2.2.2.1 d.c4.1 d.c4.2.1 d.c4.2.2.1 d.c4.2.2.2.1 d.c8.1 d.c8.2.1 d.c8.2.2.1 d.c8.2.2.2.1 d.c8.c4.1 d.c8.c4.2.1 d.c8.c4.2.2.1 d.c8.c4.2.2.2.1 d.c16.1 d.c16.2.1 d.c16.2.2 c x) (kx := (fun d => K (AX.ex 0) (St.mk [AV.r (RV.c (CV.ptr 0 (Off.k 0) 1)),
 un, un, AV.r (RV.c (CV.ptr 1 (Off.k 0) 9)), AV.r (RV.c (CV.ptr 2 (Off.k 0) 8)), un, AV.r (RV.c (CV.ptr 3 (Off.k 0) 8)), un, un, un, un, un, un, un, un, un, un, un, un, un, un, un, un, rI d.1,
 rB d.2.1, un, un, un, un, un, un, un, un, un, un, un, un, un] [some [sB d.2.2.1], some [sI d.2.2.2.1, sI d.c4.1, sI d.c4.2.1,
 sI d.c4.2.2.1, sI d.c4.2.2.2.1, sI d.c8.1, sI d.c8.2.1, sI d.c8.2.2.1, sI d.c8.2.2.2.1],
 some [sI 0, sI 0, sI 0, sI 0, sI 0, sI 0, sI 0, sI 0], some [sI d.c8.c4.1,
 sI d.c8.c4.2.1, sI d.c8.c4.2.2.1, sI d.c8.c4.2.2.2.1, sI d.c16.1, sI d.c16.2.1,
 sI d.c16.2.2.1, sI d.c16.2.2.2]] [0]))) (fun d c => ds_Ad_0 f_Ap f_Aq f_BI f_AE (@L_Ad_0) d.1 d.2.1 d.2.2.1 d.2.2.2.1 d.c4.1 d.c4.2.1 d.c4.2.2.1 d.c4.2.2.2.1 d.c8.1 d.c8.2.1 d.c8.2.2.1 d.c8.2.2.2.1 d.c8.c4.1 d.c8.c4.2.1 d.c8.c4.2.2.1 d.c8.c4.2.2.2.1 d.c16.1 d.c16.2.1 d.c16.2.2 c K) 200 (x0,
 x1, x2, x3, x4, x5, x6, x7, x8, x9, x10, x11, x12, x13, x14, x15, x16, x17, x18)
theorem so_Ad_0 [Amb] : ∀ kk, SumOK Try.prog (envOf [(13, F_Ap f_Ap), (26, F_Aq f_Aq), (27, F_BI f_BI), (28, F_AE f_AE)]) ⟨[⟨5, u0GN2, []⟩], [⟨5, 1, @R_Ad_0 (@L_Ad_0)⟩], [0], [], (some ⟨0,
 u1GN2, []⟩)⟩ (tmpsOf Try.prog 9) kk 200 (loopIn Try.prog 9 5) := SumOK.of (id := 5) (k0 := 1) (run := @R_Ad_0 (@L_Ad_0)) (by kernel_rfl) fun s K r hr => by
    unfold R_Ad_0 at hr
    obtain ⟨b, hb, hr1⟩ := Option.bind_eq_some_iff.1 hr
    have e := ((Q_Ad_0).ok s b hb).trans (q_Ad_0 b)
    subst e
    exact ⟨200, (it_Ad_0 b.1.c16.c4.2.2.2.1 b.2.1.1.1 b.2.1.2.1.1 b.2.1.2.1.2.1 b.2.1.2.1.2.2.1 b.2.1.2.1.2.2.2.1 b.2.1.2.1.c4.1 b.2.1.2.1.c4.2.1 b.2.1.2.1.c4.2.2.1 b.2.1.2.1.c4.2.2.2.1 b.2.1.2.1.c8.1 b.2.1.2.2.2.1.1 b.2.1.2.2.2.1.2.1 b.2.1.2.2.2.1.2.2.1 b.2.1.2.2.2.1.2.2.2.1 b.2.1.2.2.2.1.c4.1 b.2.1.2.2.2.1.c4.2.1 b.2.1.2.2.2.1.c4.2.2.1 b.2.1.2.2.2.1.c4.2.2.2.1 K).trans hr1⟩
def K_Ad {ρ : Type} (g_Ap : t13GN2) (g_Aq : t14GN2) (g_BI : t15GN2) (g_AE : t16GN2) (l_0 : ∀ {ρ : Type}, (Int × Bool × Int ×
 Int × Int × Int × Int × Int × Int × Int × Int × Int × Int × Int × Int × Int × Int × Int × Int) → ((Int × Bool × Bool × Int × Int × Int × Int × Int × Int × Int × Int × Int × Int × Int × Int × Int × Int × Int × Int × Int) → Option ρ) → Option ρ) (x0 : Int) (x1 : Int) (x2 : Int) (x3 : Int) (x4 : Int) (x5 : Int) (x6 : Int) (x7 : Int) (x8 : Int) (x9 : Bool) (k : (Int ×
 Int × Int × Int × Int × Int × Int × Int × Int × Bool) → Option ρ) : Option ρ := Option.bind (g_Ap x0 x1 x2 x3 x4 x5 x6 x7 x8) fun (d : Bool) => bif !d then k (0, 0, 0, 0, 0, 0, 0, 0, 1, x9) else Option.bind (g_Aq x0 x1 x2 x3 x4 x5 x6 x7 x8) fun (d : Int × Int × Int) => Option.bind (g_BI x7) fun (d_1 : Int) => Option.bind (g_BI x8) fun (d_2 : Int) => l_0 (0,
 x9, x0, x1, x2, x3, x4, x5, x6, x7, x8, d.1, d.2.1, d.2.2, 0, 0, 0, d_1, d_2) fun (d : Int × Bool × Bool × Int × Int × Int × Int × Int × Int × Int × Int × Int × Int × Int × Int × Int × Int × Int × Int × Int) => k (d.c8.c4.1, d.c8.c4.2.1, d.c8.c4.2.2.1,
 d.c8.c4.2.2.2.1, d.c16.1, d.c16.2.1, d.c16.2.2.1, d.c16.2.2.2, 0, d.2.2.1)
def f_Ad (x0 : Int) (x1 : Int) (x2 : Int) (x3 : Int) (x4 : Int) (x5 : Int) (x6 : Int) (x7 : Int) (x8 : Int) (x9 : Bool) : Option (Int × Int × Int × Int × Int × Int × Int × Int × Int × Bool) := K_Ad f_Ap f_Aq f_BI f_AE (@L_Ad_0) x0 x1 x2 x3 x4 x5 x6 x7 x8 x9 some
section
open Go.Ab.Rdr
def QA_Ad := ((pair (cons (ar (rc (cptr (nat 0) (ok' (nat 0)) (nat 1)))) (cons (ar (ra (cons (gc (cf (fi .i64 hole))) (cons (gc (cf (fi .i64 hole))) (cons (gc (cf (fi .i64 hole))) (cons (gc (cf (fi .i64 hole))) (cons (gc (cf (fi .i64 hole))) (cons (gc (cf (fi .i64 hole))) (cons (gc (cf (fi .i64 hole))) (cons (gc (cf (fi .i64 hole))) (cons (gc (cf (fi .i64 hole))) nil))))))))))) nil)) (cons (cons (gc (cf (fb hole))) nil) nil)) : Rdr (List AV × List Blk) _)
end
def F_Ad (f : (Int) → (Int) → (Int) → (Int) → (Int) → (Int) → (Int) → (Int) → (Int) → (Bool) → Option (Int × Int × Int × Int × Int × Int × Int × Int × Int × Bool)) : Sem1 := fun args h => match (QA_Ad).rd (args, h) with
  | some b => .opt (f b.1.2.1.1 b.1.2.1.2.1 b.1.2.1.2.2.1 b.1.2.1.2.2.2.1 b.1.2.1.c4.1 b.1.2.1.c4.2.1 b.1.2.1.c4.2.2.1 b.1.2.1.c4.2.2.2.1 b.1.2.1.c8.1 b.2.1.1) fun (d : Int × Int × Int × Int × Int × Int × Int × Int × Int × Bool) => .leaf (Res.mk
    (AV.tup
      [RV.agg
          [sI d.1, sI d.2.1, sI d.2.2.1, sI d.2.2.2.1,
            sI d.c4.1, sI d.c4.2.1, sI d.c4.2.2.1,
            sI d.c4.2.2.2.1],
        RV.c (fI d.c8.1)])
    [Ch.set [sB d.c8.2]] [])
  | none => .fail
theorem d_Ad (g_Ap : t13GN2) (g_Aq : t14GN2) (g_BI : t15GN2) (g_AE : t16GN2) (l_0 : ∀ {ρ : Type}, (Int × Bool × Int × Int ×
 Int × Int × Int × Int × Int × Int × Int × Int × Int × Int × Int × Int × Int × Int × Int) → ((Int × Bool × Bool × Int × Int × Int × Int × Int × Int × Int × Int × Int × Int × Int × Int × Int × Int × Int × Int × Int) → Option ρ) → Option ρ) (x0 : Int) (x1 : Int) (x2 : Int) (x3 : Int) (x4 : Int) (x5 : Int) (x6 : Int) (x7 : Int) (x8 : Int) (x9 : Bool) : den Try.prog (envOf [(13,
 F_Ap g_Ap), (26, F_Aq g_Aq), (27, F_BI g_BI), (28, F_AE g_AE)]) ⟨[⟨5, u0GN2, []⟩], [⟨5, 1, @R_Ad_0 (@l_0)⟩], [0], [], (some ⟨0, u1GN2, []⟩)⟩ 200 9 [.r (.c (.ptr 0 (.k 0) 1)), .r (.agg [.c (.f (.i .i64 x0)), .c (.f (.i .i64 x1)), .c (.f (.i .i64 x2)), .c (.f (.i .i64 x3)), .c (.f (.i .i64 x4)), .c (.f (.i .i64 x5)), .c (.f (.i .i64 x6)), .c (.f (.i .i64 x7)),
 .c (.f (.i .i64 x8))])] [[.c (.f (.b x9))]] = K_Ad g_Ap g_Aq g_BI g_AE (@l_0) x0 x1 x2 x3 x4 x5 x6 x7 x8 x9 (fun (d : Int × Int × Int × Int × Int × Int × Int × Int × Int × Bool) => some (Res.mk (AV.tup [RV.agg [sI d.1, sI d.2.1, sI d.2.2.1,
 sI d.2.2.2.1, sI d.c4.1, sI d.c4.2.1, sI d.c4.2.2.1, sI d.c4.2.2.2.1], RV.c (fI d.c8.1)]) [Ch.set [sB d.c8.2]] [])) := by kernel_rfl
theorem m_Ad {ρ σ : Type} (q : ρ → Option σ) (g_Ap : t13GN2) (g_Aq : t14GN2) (g_BI : t15GN2) (g_AE : t16GN2) (l_0 : ∀ {ρ : Type}, (Int × Bool × Int × Int × Int × Int × Int × Int × Int × Int × Int × Int × Int × Int × Int × Int × Int × Int × Int) → ((Int × Bool × Bool × Int × Int × Int × Int × Int × Int × Int × Int × Int × Int × Int × Int × Int × Int × Int × Int × Int) → Option ρ) → Option ρ) (hl_0 : ∀ {ρ σ : Type} (q : ρ → Option σ) (d : Int × Bool × Int × Int × Int × Int × Int × Int × Int × Int × Int × Int × Int × Int × Int × Int × Int × Int × Int) (k : (Int × Bool × Bool × Int × Int × Int × Int × Int × Int × Int × Int × Int × Int × Int × Int × Int × Int × Int × Int × Int) → Option ρ), (l_0 d k).bind q = l_0 d fun x => (k x).bind q) (x0 : Int) (x1 : Int) (x2 : Int) (x3 : Int) (x4 : Int) (x5 : Int) (x6 : Int) (x7 : Int) (x8 : Int) (x9 : Bool) (k : (Int × Int × Int × Int × Int × Int × Int × Int × Int × Bool) → Option ρ) : (K_Ad g_Ap g_Aq g_BI g_AE (@l_0) x0 x1 x2 x3 x4 x5 x6 x7 x8 x9 k).bind q = K_Ad g_Ap g_Aq g_BI g_AE (@l_0) x0 x1 x2 x3 x4 x5 x6 x7 x8 x9 (fun d => (k d).bind q) := by
  simp only [K_Ad, bnd_cond, bnd_bind, bnd_none, bnd_sum, hl_0]
theorem qa_Ad : ∀ b, (QA_Ad).em b = ([.r (.c (.ptr 0 (.k 0) 1)), .r (.agg [.c (.f (.i .i64 b.1.2.1.1)), .c (.f (.i .i64 b.1.2.1.2.1)), .c (.f (.i .i64 b.1.2.1.2.2.1)), .c (.f (.i .i64 b.1.2.1.2.2.2.1)), .c (.f (.i .i64 b.1.2.1.c4.1)), .c (.f (.i .i64 b.1.2.1.c4.2.1)), .c (.f (.i .i64 b.1.2.1.c4.2.2.1)), .c (.f (.i .i64 b.1.2.1.c4.2.2.2.1)), .c (.f (.i .i64 b.1.2.1.c8.1))])], [[.c (.f (.b b.2.1.1))]]) := fun b => by kernel_rfl
theorem e_Ad {f : (Int) → (Int) → (Int) → (Int) → (Int) → (Int) → (Int) → (Int) → (Int) → (Bool) → Option (Int × Int × Int × Int × Int × Int × Int × Int × Int × Bool)} {args : List AV} {h : List Blk} {r : Res} (hr : (F_Ad f args h).eval = some r) : ∃ x0 x1 x2 x3 x4 x5 x6 x7 x8 x9, args = [.r (.c (.ptr 0 (.k 0) 1)),
 .r (.agg [.c (.f (.i .i64 x0)), .c (.f (.i .i64 x1)), .c (.f (.i .i64 x2)), .c (.f (.i .i64 x3)), .c (.f (.i .i64 x4)), .c (.f (.i .i64 x5)), .c (.f (.i .i64 x6)), .c (.f (.i .i64 x7)), .c (.f (.i .i64 x8))])] ∧ h = [[.c (.f (.b x9))]] ∧ (f x0 x1 x2 x3 x4 x5 x6 x7 x8 x9).bind (fun (d : Int × Int × Int ×
 Int × Int × Int × Int × Int × Int × Bool) => some (Res.mk (AV.tup [RV.agg [sI d.1, sI d.2.1, sI d.2.2.1, sI d.2.2.2.1, sI d.c4.1, sI d.c4.2.1,
 sI d.c4.2.2.1, sI d.c4.2.2.2.1], RV.c (fI d.c8.1)]) [Ch.set [sB d.c8.2]] [])) = some r := by
  unfold F_Ad at hr
  split at hr
  · rename_i b hb
    have e := ((QA_Ad).ok _ _ hb).trans (qa_Ad b)
    rw [opt_eval2] at hr
    exact ⟨b.1.2.1.1, b.1.2.1.2.1, b.1.2.1.2.2.1, b.1.2.1.2.2.2.1, b.1.2.1.c4.1, b.1.2.1.c4.2.1, b.1.2.1.c4.2.2.1, b.1.2.1.c4.2.2.2.1, b.1.2.1.c8.1, b.2.1.1, (Prod.mk.inj e).1, (Prod.mk.inj e).2, hr⟩
  · cases hr
theorem n_Ad {σ : Type} (q : (Int × Int × Int × Int × Int × Int × Int × Int × Int × Bool) → Option σ) (x0 : Int) (x1 : Int) (x2 : Int) (x3 : Int) (x4 : Int) (x5 : Int) (x6 : Int) (x7 : Int) (x8 : Int) (x9 : Bool) : (f_Ad x0 x1 x2 x3 x4 x5 x6 x7 x8 x9).bind q = K_Ad f_Ap f_Aq f_BI f_AE (@L_Ad_0) x0 x1 x2 x3 x4 x5 x6 x7 x8 x9 q := by
  unfold f_Ad
  exact m_Ad q f_Ap f_Aq f_BI f_AE (@L_Ad_0) (fun q d k => mL_Ad_0 q d k) x0 x1 x2 x3 x4 x5 x6 x7 x8 x9 some
theorem s_Ad [Amb] : Sound Try.prog 9 (F_Ad f_Ad) := (inl_sums (l := [(13, F_Ap f_Ap), (26, F_Aq f_Aq), (27, F_BI f_BI), (28, F_AE f_AE)]) (.cons s_Ap (.cons s_Aq (.cons s_BI (.cons s_AE (.nil _))))) mixed (hs := ⟨[⟨5, u0GN2, []⟩], [⟨5, 1, @R_Ad_0 (@L_Ad_0)⟩], [0], [], (some ⟨0, u1GN2, []⟩)⟩) (lf := 200) (Sums.by (l := [loopIn Try.prog 9 5]) (lj := []) (by kernel_rfl) ⟨so_Ad_0,
 trivial⟩ (by kernel_rfl) trivial) (by kernel_rfl)).by (F := F_Ad f_Ad) fun args b r hr => by
  obtain ⟨x0, x1, x2, x3, x4, x5, x6, x7, x8, x9, rfl, rfl, hr1⟩ := e_Ad hr
  exact inl_eval ((d_Ad f_Ap f_Aq f_BI f_AE (@L_Ad_0) x0 x1 x2 x3 x4 x5 x6 x7 x8 x9).trans ((n_Ad (fun (d : Int × Int × Int × Int × Int × Int × Int × Int × Int × Bool) => some (Res.mk
    (AV.tup
      [RV.agg
          [sI d.1, sI d.2.1, sI d.2.2.1, sI d.2.2.2.1,
            sI d.c4.1, sI d.c4.2.1, sI d.c4.2.2.1,
            sI d.c4.2.2.2.1],
        RV.c (fI d.c8.1)])
    [Ch.set [sB d.c8.2]] [])) x0 x1 x2 x3 x4 x5 x6 x7 x8 x9).symm.trans hr1))

def K_AO {ρ : Type} (x0 : Int) (x1 : Int) (x2 : Int) (k : (Int × Int) → Option ρ) : Option ρ := bif decide (x2 ≥ 64) then bif !decide (IntKind.wrap .i64 (x2 - 64) < 0) then k (IntKind.wrap .u64 (x1 * 2 ^ min (Int.toNat (IntKind.wrap .i64 (x2 - 64))) 64), 0) else none else bif !decide (x2 < 0) then
 bif !decide (IntKind.wrap .i64 (64 - x2) < 0) then bif !decide (x2 < 0) then k (IntKind.wrap .u64 (Int.ofNat (BitVec.toNat (BitVec.ofInt 64 (IntKind.wrap .u64 (x0 * 2 ^ min (Int.toNat x2) 64)) ||| BitVec.ofInt 64 (Int.fdiv x1 (2 ^ min (Int.toNat (IntKind.wrap .i64 (64 - x2))) 64))))),
 IntKind.wrap .u64 (x1 * 2 ^ min (Int.toNat x2) 64)) else none else none else none
def f_AO (x0 : Int) (x1 : Int) (x2 : Int) : Option (Int × Int) := K_AO x0 x1 x2 some
section
open Go.Ab.Rdr
def QA_AO := ((pair (cons (ar (ra (cons (gc (cf (fi .u64 hole))) (cons (gc (cf (fi .u64 hole))) nil)))) (cons (ar (rc (cf (fi .i64 hole)))) nil)) nil) : Rdr (List AV × List Blk) _)
end
def F_AO (f : (Int) → (Int) → (Int) → Option (Int × Int)) : Sem1 := fun args h => match (QA_AO).rd (args, h) with
  | some b => .opt (f b.1.1.1 b.1.1.2.1 b.1.2.1) fun (d : Int × Int) => .leaf (Res.mk (AV.r (RV.agg [sU d.1, sU d.2])) [] [])
  | none => .fail
theorem d_AO (x0 : Int) (x1 : Int) (x2 : Int) : den Try.prog (envOf []) ⟨[], [], [], [], none⟩ 200 78 [.r (.agg [.c (.f (.i .u64 x0)), .c (.f (.i .u64 x1))]), rI x2] [] = K_AO x0 x1 x2 (fun (d : Int × Int) => some (Res.mk (AV.r (RV.agg [sU d.1, sU d.2])) [] [])) := by kernel_rfl
theorem m_AO {ρ σ : Type} (q : ρ → Option σ) (x0 : Int) (x1 : Int) (x2 : Int) (k : (Int × Int) → Option ρ) : (K_AO x0 x1 x2 k).bind q = K_AO x0 x1 x2 (fun d => (k d).bind q) := by
  simp only [K_AO, bnd_cond, bnd_bind, bnd_none, bnd_sum]
theorem qa_AO : ∀ b, (QA_AO).em b = ([.r (.agg [.c (.f (.i .u64 b.1.1.1)), .c (.f (.i .u64 b.1.1.2.1))]), rI b.1.2.1], []) := fun b => by kernel_rfl
theorem e_AO {f : (Int) → (Int) → (Int) → Option (Int × Int)} {args : List AV} {h : List Blk} {r : Res} (hr : (F_AO f args h).eval = some r) : ∃ x0 x1 x2, args = [.r (.agg [.c (.f (.i .u64 x0)), .c (.f (.i .u64 x1))]), rI x2] ∧ h = [] ∧ (f x0 x1 x2).bind (fun (d : Int × Int) => some (Res.mk (AV.r (RV.agg [sU d.1, sU d.2])) [] [])) = some r := by
  unfold F_AO at hr
  split at hr
  · rename_i b hb
    have e := ((QA_AO).ok _ _ hb).trans (qa_AO b)
    rw [opt_eval2] at hr
    exact ⟨b.1.1.1, b.1.1.2.1, b.1.2.1, (Prod.mk.inj e).1, (Prod.mk.inj e).2, hr⟩
  · cases hr
theorem n_AO {σ : Type} (q : (Int × Int) → Option σ) (x0 : Int) (x1 : Int) (x2 : Int) : (f_AO x0 x1 x2).bind q = K_AO x0 x1 x2 q := by
  unfold f_AO
  exact m_AO q x0 x1 x2 some
theorem s_AO [Amb] : Sound Try.prog 78 (F_AO f_AO) := (inl_sound (l := []) (.nil _) mixed [] [] 200 (by kernel_rfl)).by (F := F_AO f_AO) fun args b r hr => by
  obtain ⟨x0, x1, x2, rfl, rfl, hr1⟩ := e_AO hr
  exact inl_eval ((d_AO x0 x1 x2).trans ((n_AO (fun (d : Int × Int) => some (Res.mk (AV.r (RV.agg [sU d.1, sU d.2])) [] [])) x0 x1 x2).symm.trans hr1))

def K_AM {ρ : Type} (x0 : Int) (x1 : Int) (x2 : Int) (k : (Int × Int) → Option ρ) : Option ρ := bif decide (x2 ≥ 64) then bif !decide (IntKind.wrap .i64 (x2 - 64) < 0) then k (0, Int.fdiv x0 (2 ^ min (Int.toNat (IntKind.wrap .i64 (x2 - 64))) 64)) else none else bif !decide (x2 < 0) then
 bif !decide (x2 < 0) then bif !decide (IntKind.wrap .i64 (64 - x2) < 0) then k (Int.fdiv x0 (2 ^ min (Int.toNat x2) 64), IntKind.wrap .u64 (Int.ofNat (BitVec.toNat (BitVec.ofInt 64 (Int.fdiv x1 (2 ^ min (Int.toNat x2) 64)) ||| BitVec.ofInt 64 (IntKind.wrap .u64 (x0 * 2 ^ min (Int.toNat (IntKind.wrap .i64 (64 - x2))) 64)))))) else
 none else none else none
def f_AM (x0 : Int) (x1 : Int) (x2 : Int) : Option (Int × Int) := K_AM x0 x1 x2 some
section
open Go.Ab.Rdr
def QA_AM := ((pair (cons (ar (ra (cons (gc (cf (fi .u64 hole))) (cons (gc (cf (fi .u64 hole))) nil)))) (cons (ar (rc (cf (fi .i64 hole)))) nil)) nil) : Rdr (List AV × List Blk) _)
end
def F_AM (f : (Int) → (Int) → (Int) → Option (Int × Int)) : Sem1 := fun args h => match (QA_AM).rd (args, h) with
  | some b => .opt (f b.1.1.1 b.1.1.2.1 b.1.2.1) fun (d : Int × Int) => .leaf (Res.mk (AV.r (RV.agg [sU d.1, sU d.2])) [] [])
  | none => .fail
theorem d_AM (x0 : Int) (x1 : Int) (x2 : Int) : den Try.prog (envOf []) ⟨[], [], [], [], none⟩ 200 79 [.r (.agg [.c (.f (.i .u64 x0)), .c (.f (.i .u64 x1))]), rI x2] [] = K_AM x0 x1 x2 (fun (d : Int × Int) => some (Res.mk (AV.r (RV.agg [sU d.1, sU d.2])) [] [])) := by kernel_rfl
theorem m_AM {ρ σ : Type} (q : ρ → Option σ) (x0 : Int) (x1 : Int) (x2 : Int) (k : (Int × Int) → Option ρ) : (K_AM x0 x1 x2 k).bind q = K_AM x0 x1 x2 (fun d => (k d).bind q) := by
  simp only [K_AM, bnd_cond, bnd_bind, bnd_none, bnd_sum]
theorem qa_AM : ∀ b, (QA_AM).em b = ([.r (.agg [.c (.f (.i .u64 b.1.1.1)), .c (.f (.i .u64 b.1.1.2.1))]), rI b.1.2.1], []) := fun b => by kernel_rfl
theorem e_AM {f : (Int) → (Int) → (Int) → Option (Int × Int)} {args : List AV} {h : List Blk} {r : Res} (hr : (F_AM f args h).eval = some r) : ∃ x0 x1 x2, args = [.r (.agg [.c (.f (.i .u64 x0)), .c (.f (.i .u64 x1))]), rI x2] ∧ h = [] ∧ (f x0 x1 x2).bind (fun (d : Int × Int) => some (Res.mk (AV.r (RV.agg [sU d.1, sU d.2])) [] [])) = some r := by
  unfold F_AM at hr
  split at hr
  · rename_i b hb
    have e := ((QA_AM).ok _ _ hb).trans (qa_AM b)
    rw [opt_eval2] at hr
    exact ⟨b.1.1.1, b.1.1.2.1, b.1.2.1, (Prod.mk.inj e).1, (Prod.mk.inj e).2, hr⟩
  · cases hr
theorem n_AM {σ : Type} (q : (Int × Int) → Option σ) (x0 : Int) (x1 : Int) (x2 : Int) : (f_AM x0 x1 x2).bind q = K_AM x0 x1 x2 q := by
  unfold f_AM
  exact m_AM q x0 x1 x2 some
theorem s_AM [Amb] : Sound Try.prog 79 (F_AM f_AM) := (inl_sound (l := []) (.nil _) mixed [] [] 200 (by kernel_rfl)).by (F := F_AM f_AM) fun args b r hr => by
  obtain ⟨x0, x1, x2, rfl, rfl, hr1⟩ := e_AM hr
  exact inl_eval ((d_AM x0 x1 x2).trans ((n_AM (fun (d : Int × Int) => some (Res.mk (AV.r (RV.agg [sU d.1, sU d.2])) [] [])) x0 x1 x2).symm.trans hr1))

def K_An {ρ : Type} (g_BB : t17GN2) (g_AO : t18GN2) (g_AN : t19GN2) (g_AM : t18GN2) (g_AL : t20GN2) (x0 : Int) (x1 : Int) (x2 : Int) (k : (Int ×
 Bool) → Option ρ) : Option ρ := bif decide (x2 < 0) then k (0, false) else bif decide (x2 > 126) then k (0, false) else Option.bind (g_BB x0 x1) fun (d : Int × Int × Bool) => bif decide (x2 > 0) then Option.bind (g_AO 0 1 (IntKind.wrap .i64 (x2 - 1))) fun (d_1 : Int × Int) => Option.bind (g_AN d.1 d.2.1 d_1.1 d_1.2) fun (d_2 : Int ×
 Int) => Option.bind (g_AM d_2.1 d_2.2 x2) fun (d_3 : Int × Int) => Option.bind (g_AL d_3.1 d_3.2 d.2.2) fun (d : Int × Bool) => k (d.1, d.2) else Option.bind (g_AM d.1 d.2.1 x2) fun (d_1 : Int × Int) => Option.bind (g_AL d_1.1 d_1.2 d.2.2) fun (d : Int × Bool) => k (d.1, d.2)
def f_An (x0 : Int) (x1 : Int) (x2 : Int) : Option (Int × Bool) := K_An f_BB f_AO f_AN f_AM f_AL x0 x1 x2 some
section
open Go.Ab.Rdr
def QA_An := ((pair (cons (ar (ra (cons (gc (cf (fi .i64 hole))) (cons (gc (cf (fi .u64 hole))) nil)))) (cons (ar (rc (cf (fi .i64 hole)))) nil)) nil) : Rdr (List AV × List Blk) _)
end
def F_An (f : (Int) → (Int) → (Int) → Option (Int × Bool)) : Sem1 := fun args h => match (QA_An).rd (args, h) with
  | some b => .opt (f b.1.1.1 b.1.1.2.1 b.1.2.1) fun (d : Int × Bool) => .leaf (Res.mk (AV.tup [RV.c (fI d.1), RV.c (CV.f (FV.b d.2))]) [] [])
  | none => .fail
theorem d_An (g_BB : t17GN2) (g_AO : t18GN2) (g_AN : t19GN2) (g_AM : t18GN2) (g_AL : t20GN2) (x0 : Int) (x1 : Int) (x2 : Int) : den Try.prog (envOf [(82,
 F_BB g_BB), (78, F_AO g_AO), (83, F_AN g_AN), (79, F_AM g_AM), (84, F_AL g_AL)]) ⟨[], [], [], [], none⟩ 200 63 [.r (.agg [.c (.f (.i .i64 x0)), .c (.f (.i .u64 x1))]), rI x2] [] = K_An g_BB g_AO g_AN g_AM g_AL x0 x1 x2 (fun (d : Int × Bool) => some (Res.mk (AV.tup [RV.c (fI d.1),
 RV.c (CV.f (FV.b d.2))]) [] [])) := by kernel_rfl
theorem m_An {ρ σ : Type} (q : ρ → Option σ) (g_BB : t17GN2) (g_AO : t18GN2) (g_AN : t19GN2) (g_AM : t18GN2) (g_AL : t20GN2) (x0 : Int) (x1 : Int) (x2 : Int) (k : (Int × Bool) → Option ρ) : (K_An g_BB g_AO g_AN g_AM g_AL x0 x1 x2 k).bind q = K_An g_BB g_AO g_AN g_AM g_AL x0 x1 x2 (fun d => (k d).bind q) := by
  simp only [K_An, bnd_cond, bnd_bind, bnd_none, bnd_sum]
theorem qa_An : ∀ b, (QA_An).em b = ([.r (.agg [.c (.f (.i .i64 b.1.1.1)), .c (.f (.i .u64 b.1.1.2.1))]), rI b.1.2.1], []) := fun b => by kernel_rfl
theorem e_An {f : (Int) → (Int) → (Int) → Option (Int × Bool)} {args : List AV} {h : List Blk} {r : Res} (hr : (F_An f args h).eval = some r) : ∃ x0 x1 x2, args = [.r (.agg [.c (.f (.i .i64 x0)), .c (.f (.i .u64 x1))]), rI x2] ∧ h = [] ∧ (f x0 x1 x2).bind (fun (d : Int × Bool) => some (Res.mk (AV.tup [RV.c (fI d.1), RV.c (CV.f (FV.b d.2))]) [] [])) = some r := by
  unfold F_An at hr
  split at hr
  · rename_i b hb
    have e := ((QA_An).ok _ _ hb).trans (qa_An b)
    rw [opt_eval2] at hr
    exact ⟨b.1.1.1, b.1.1.2.1, b.1.2.1, (Prod.mk.inj e).1, (Prod.mk.inj e).2, hr⟩
  · cases hr
theorem n_An {σ : Type} (q : (Int × Bool) → Option σ) (x0 : Int) (x1 : Int) (x2 : Int) : (f_An x0 x1 x2).bind q = K_An f_BB f_AO f_AN f_AM f_AL x0 x1 x2 q := by
  unfold f_An
  exact m_An q f_BB f_AO f_AN f_AM f_AL x0 x1 x2 some
theorem s_An [Amb] : Sound Try.prog 63 (F_An f_An) := (inl_sound (l := [(82, F_BB f_BB), (78, F_AO f_AO), (83, F_AN f_AN), (79, F_AM f_AM), (84, F_AL f_AL)]) (.cons s_BB (.cons s_AO (.cons s_AN (.cons s_AM (.cons s_AL (.nil _)))))) mixed [] [] 200 (by kernel_rfl)).by (F := F_An f_An) fun args b r hr => by
  obtain ⟨x0, x1, x2, rfl, rfl, hr1⟩ := e_An hr
  exact inl_eval ((d_An f_BB f_AO f_AN f_AM f_AL x0 x1 x2).trans ((n_An (fun (d : Int × Bool) => some (Res.mk (AV.tup [RV.c (fI d.1), RV.c (CV.f (FV.b d.2))]) [] [])) x0 x1 x2).symm.trans hr1))

def K_BS {ρ : Type} (g_An : t21GN2) (g_Aa : t22GN2) (x0 : Int) (x1 : Int) (x2 : Int) (x3 : Bool) (k : (Int × Bool) → Option ρ) : Option ρ := bif decide (x2 < 0) then k (0, true) else bif decide (x2 > 120) then k (0, true) else Option.bind (g_An x0 x1 x2) fun (d : Int ×
 Bool) => Option.bind (g_Aa d.1 d.2 (decide (x0 < 0)) x3) fun (d : Int × Bool) => k (d.1, d.2)
def f_BS (x0 : Int) (x1 : Int) (x2 : Int) (x3 : Bool) : Option (Int × Bool) := K_BS f_An f_Aa x0 x1 x2 x3 some
section
open Go.Ab.Rdr
def QA_BS := ((pair (cons (ar (rc (cptr (nat 0) (ok' (nat 0)) (nat 1)))) (cons (ar (ra (cons (gc (cf (fi .i64 hole))) (cons (gc (cf (fi .u64 hole))) nil)))) (cons (ar (rc (cf (fi .i64 hole)))) nil))) (cons (cons (gc (cf (fb hole))) nil) nil)) : Rdr (List AV × List Blk) _)
end
def F_BS (f : (Int) → (Int) → (Int) → (Bool) → Option (Int × Bool)) : Sem1 := fun args h => match (QA_BS).rd (args, h) with
  | some b => .opt (f b.1.2.1.1 b.1.2.1.2.1 b.1.2.2.1 b.2.1.1) fun (d : Int × Bool) => .leaf (Res.mk (rI d.1) [Ch.set [sB d.2]] [])
  | none => .fail
theorem d_BS (g_An : t21GN2) (g_Aa : t22GN2) (x0 : Int) (x1 : Int) (x2 : Int) (x3 : Bool) : den Try.prog (envOf [(63, F_An g_An), (64, F_Aa g_Aa)]) ⟨[], [], [], [], none⟩ 200 53 [.r (.c (.ptr 0 (.k 0) 1)), .r (.agg [.c (.f (.i .i64 x0)),
 .c (.f (.i .u64 x1))]), rI x2] [[.c (.f (.b x3))]] = K_BS g_An g_Aa x0 x1 x2 x3 (fun (d : Int × Bool) => some (Res.mk (rI d.1) [Ch.set [sB d.2]] [])) := by kernel_rfl
theorem m_BS {ρ σ : Type} (q : ρ → Option σ) (g_An : t21GN2) (g_Aa : t22GN2) (x0 : Int) (x1 : Int) (x2 : Int) (x3 : Bool) (k : (Int × Bool) → Option ρ) : (K_BS g_An g_Aa x0 x1 x2 x3 k).bind q = K_BS g_An g_Aa x0 x1 x2 x3 (fun d => (k d).bind q) := by
  simp only [K_BS, bnd_cond, bnd_bind, bnd_none, bnd_sum]
theorem qa_BS : ∀ b, (QA_BS).em b = ([.r (.c (.ptr 0 (.k 0) 1)), .r (.agg [.c (.f (.i .i64 b.1.2.1.1)), .c (.f (.i .u64 b.1.2.1.2.1))]), rI b.1.2.2.1], [[.c (.f (.b b.2.1.1))]]) := fun b => by kernel_rfl
theorem e_BS {f : (Int) → (Int) → (Int) → (Bool) → Option (Int × Bool)} {args : List AV} {h : List Blk} {r : Res} (hr : (F_BS f args h).eval = some r) : ∃ x0 x1 x2 x3, args = [.r (.c (.ptr 0 (.k 0) 1)), .r (.agg [.c (.f (.i .i64 x0)), .c (.f (.i .u64 x1))]), rI x2] ∧ h = [[.c (.f (.b x3))]] ∧ (f x0 x1 x2 x3).bind (fun (d : Int × Bool) => some (Res.mk (rI d.1) [Ch.set [sB d.2]] [])) = some r := by
  unfold F_BS at hr
  split at hr
  · rename_i b hb
    have e := ((QA_BS).ok _ _ hb).trans (qa_BS b)
    rw [opt_eval2] at hr
    exact ⟨b.1.2.1.1, b.1.2.1.2.1, b.1.2.2.1, b.2.1.1, (Prod.mk.inj e).1, (Prod.mk.inj e).2, hr⟩
  · cases hr
theorem n_BS {σ : Type} (q : (Int × Bool) → Option σ) (x0 : Int) (x1 : Int) (x2 : Int) (x3 : Bool) : (f_BS x0 x1 x2 x3).bind q = K_BS f_An f_Aa x0 x1 x2 x3 q := by
  unfold f_BS
  exact m_BS q f_An f_Aa x0 x1 x2 x3 some
theorem s_BS [Amb] : Sound Try.prog 53 (F_BS f_BS) := (inl_sound (l := [(63, F_An f_An), (64, F_Aa f_Aa)]) (.cons s_An (.cons s_Aa (.nil _))) mixed [] [] 200 (by kernel_rfl)).by (F := F_BS f_BS) fun args b r hr => by
  obtain ⟨x0, x1, x2, x3, rfl, rfl, hr1⟩ := e_BS hr
  exact inl_eval ((d_BS f_An f_Aa x0 x1 x2 x3).trans ((n_BS (fun (d : Int × Bool) => some (Res.mk (rI d.1) [Ch.set [sB d.2]] [])) x0 x1 x2 x3).symm.trans hr1))

def K_Af {ρ : Type} (g_J : t23GN2) (g_BA : t24GN2) (g_BS : t16GN2) (x0 : Int) (x1 : Int) (x2 : Int) (x3 : Bool) (k : (Int × Bool) → Option ρ) : Option ρ := Option.bind (g_J x0 x3) fun (d : Int × Bool) => Option.bind (g_J x1 d.2) fun (d_1 : Int ×
 Bool) => Option.bind (g_BA d.1 d_1.1) fun (d : Int × Int) => Option.bind (g_BS d.1 d.2 x2 d_1.2) fun (d : Int × Bool) => k (d.1, d.2)
def f_Af (x0 : Int) (x1 : Int) (x2 : Int) (x3 : Bool) : Option (Int × Bool) := K_Af f_J f_BA f_BS x0 x1 x2 x3 some
section
open Go.Ab.Rdr
def QA_Af := ((pair (cons (ar (rc (cptr (nat 0) (ok' (nat 0)) (nat 1)))) (cons (ar (rc (cf (fi .i64 hole)))) (cons (ar (rc (cf (fi .i64 hole)))) (cons (ar (rc (cf (fi .i64 hole)))) nil)))) (cons (cons (gc (cf (fb hole))) nil) nil)) : Rdr (List AV × List Blk) _)
end
def F_Af (f : (Int) → (Int) → (Int) → (Bool) → Option (Int × Bool)) : Sem1 := fun args h => match (QA_Af).rd (args, h) with
  | some b => .opt (f b.1.2.1 b.1.2.2.1 b.1.2.2.2.1 b.2.1.1) fun (d : Int × Bool) => .leaf (Res.mk (rI d.1) [Ch.set [sB d.2]] [])
  | none => .fail
theorem d_Af (g_J : t23GN2) (g_BA : t24GN2) (g_BS : t16GN2) (x0 : Int) (x1 : Int) (x2 : Int) (x3 : Bool) : den Try.prog (envOf [(52, F_J g_J), (51, F_BA g_BA), (53, F_BS g_BS)]) ⟨[], [], [], [], none⟩ 200 30 [.r (.c (.ptr 0 (.k 0) 1)),
 rI x0, rI x1, rI x2] [[.c (.f (.b x3))]] = K_Af g_J g_BA g_BS x0 x1 x2 x3 (fun (d : Int × Bool) => some (Res.mk (rI d.1) [Ch.set [sB d.2]] [])) := by kernel_rfl
theorem m_Af {ρ σ : Type} (q : ρ → Option σ) (g_J : t23GN2) (g_BA : t24GN2) (g_BS : t16GN2) (x0 : Int) (x1 : Int) (x2 : Int) (x3 : Bool) (k : (Int × Bool) → Option ρ) : (K_Af g_J g_BA g_BS x0 x1 x2 x3 k).bind q = K_Af g_J g_BA g_BS x0 x1 x2 x3 (fun d => (k d).bind q) := by
  simp only [K_Af, bnd_cond, bnd_bind, bnd_none, bnd_sum]
theorem qa_Af : ∀ b, (QA_Af).em b = ([.r (.c (.ptr 0 (.k 0) 1)), rI b.1.2.1, rI b.1.2.2.1, rI b.1.2.2.2.1], [[.c (.f (.b b.2.1.1))]]) := fun b => by kernel_rfl
theorem e_Af {f : (Int) → (Int) → (Int) → (Bool) → Option (Int × Bool)} {args : List AV} {h : List Blk} {r : Res} (hr : (F_Af f args h).eval = some r) : ∃ x0 x1 x2 x3, args = [.r (.c (.ptr 0 (.k 0) 1)), rI x0, rI x1, rI x2] ∧ h = [[.c (.f (.b x3))]] ∧ (f x0 x1 x2 x3).bind (fun (d : Int × Bool) => some (Res.mk (rI d.1) [Ch.set [sB d.2]] [])) = some r := by
  unfold F_Af at hr
  split at hr
  · rename_i b hb
    have e := ((QA_Af).ok _ _ hb).trans (qa_Af b)
    rw [opt_eval2] at hr
    exact ⟨b.1.2.1, b.1.2.2.1, b.1.2.2.2.1, b.2.1.1, (Prod.mk.inj e).1, (Prod.mk.inj e).2, hr⟩
  · cases hr
theorem n_Af {σ : Type} (q : (Int × Bool) → Option σ) (x0 : Int) (x1 : Int) (x2 : Int) (x3 : Bool) : (f_Af x0 x1 x2 x3).bind q = K_Af f_J f_BA f_BS x0 x1 x2 x3 q := by
  unfold f_Af
  exact m_Af q f_J f_BA f_BS x0 x1 x2 x3 some
theorem s_Af [Amb] : Sound Try.prog 30 (F_Af f_Af) := (inl_sound (l := [(52, F_J f_J), (51, F_BA f_BA), (53, F_BS f_BS)]) (.cons s_J (.cons s_BA (.cons s_BS (.nil _)))) mixed [] [] 200 (by kernel_rfl)).by (F := F_Af f_Af) fun args b r hr => by
  obtain ⟨x0, x1, x2, x3, rfl, rfl, hr1⟩ := e_Af hr
  exact inl_eval ((d_Af f_J f_BA f_BS x0 x1 x2 x3).trans ((n_Af (fun (d : Int × Bool) => some (Res.mk (rI d.1) [Ch.set [sB d.2]] [])) x0 x1 x2 x3).symm.trans hr1))

def K_BM {ρ : Type} (g_Af : t16GN2) (x0 : Int) (x1 : Int) (x2 : Bool) (k : (Int × Bool) → Option ρ) : Option ρ := Option.bind (g_Af x0 x1 30 x2) fun (d : Int × Bool) => k (d.1, d.2)
def f_BM (x0 : Int) (x1 : Int) (x2 : Bool) : Option (Int × Bool) := K_BM f_Af x0 x1 x2 some
section
open Go.Ab.Rdr
def QA_BM := ((pair (cons (ar (rc (cf (fi .i64 hole)))) (cons (ar (rc (cf (fi .i64 hole)))) (cons (ar (rc (cptr (nat 0) (ok' (nat 0)) (nat 1)))) nil))) (cons (cons (gc (cptr (nat 1) (ok' (nat 0)) (nat 1))) nil) (cons (cons (gc (cf (fb hole))) nil) nil))) : Rdr (List AV × List Blk) _)
end
def F_BM (f : (Int) → (Int) → (Bool) → Option (Int × Bool)) : Sem1 := fun args h => match (QA_BM).rd (args, h) with
  | some b => .opt (f b.1.1 b.1.2.1 b.2.2.1.1) fun (d : Int × Bool) => .leaf (Res.mk (rI d.1) [Ch.keep, Ch.set [sB d.2]] [])
  | none => .fail
theorem d_BM (g_Af : t16GN2) (x0 : Int) (x1 : Int) (x2 : Bool) : den Try.prog (envOf [(30, F_Af g_Af)]) ⟨[], [], [], [], none⟩ 200 29 [rI x0, rI x1, .r (.c (.ptr 0 (.k 0) 1))] [[.c (.ptr 1 (.k 0) 1)], [.c (.f (.b x2))]] = K_BM g_Af x0 x1 x2 (fun (d : Int ×
 Bool) => some (Res.mk (rI d.1) [Ch.keep, Ch.set [sB d.2]] [])) := by kernel_rfl
theorem m_BM {ρ σ : Type} (q : ρ → Option σ) (g_Af : t16GN2) (x0 : Int) (x1 : Int) (x2 : Bool) (k : (Int × Bool) → Option ρ) : (K_BM g_Af x0 x1 x2 k).bind q = K_BM g_Af x0 x1 x2 (fun d => (k d).bind q) := by
  simp only [K_BM, bnd_cond, bnd_bind, bnd_none, bnd_sum]
theorem qa_BM : ∀ b, (QA_BM).em b = ([rI b.1.1, rI b.1.2.1, .r (.c (.ptr 0 (.k 0) 1))], [[.c (.ptr 1 (.k 0) 1)], [.c (.f (.b b.2.2.1.1))]]) := fun b => by kernel_rfl
theorem e_BM {f : (Int) → (Int) → (Bool) → Option (Int × Bool)} {args : List AV} {h : List Blk} {r : Res} (hr : (F_BM f args h).eval = some r) : ∃ x0 x1 x2, args = [rI x0, rI x1, .r (.c (.ptr 0 (.k 0) 1))] ∧ h = [[.c (.ptr 1 (.k 0) 1)], [.c (.f (.b x2))]] ∧ (f x0 x1 x2).bind (fun (d : Int × Bool) => some (Res.mk (rI d.1) [Ch.keep, Ch.set [sB d.2]] [])) = some r := by
  unfold F_BM at hr
  split at hr
  · rename_i b hb
    have e := ((QA_BM).ok _ _ hb).trans (qa_BM b)
    rw [opt_eval2] at hr
    exact ⟨b.1.1, b.1.2.1, b.2.2.1.1, (Prod.mk.inj e).1, (Prod.mk.inj e).2, hr⟩
  · cases hr
theorem n_BM {σ : Type} (q : (Int × Bool) → Option σ) (x0 : Int) (x1 : Int) (x2 : Bool) : (f_BM x0 x1 x2).bind q = K_BM f_Af x0 x1 x2 q := by
  unfold f_BM
  exact m_BM q f_Af x0 x1 x2 some
theorem s_BM [Amb] : Sound Try.prog 29 (F_BM f_BM) := (inl_sound (l := [(30, F_Af f_Af)]) (.cons s_Af (.nil _)) mixed [] [] 200 (by kernel_rfl)).by (F := F_BM f_BM) fun args b r hr => by
  obtain ⟨x0, x1, x2, rfl, rfl, hr1⟩ := e_BM hr
  exact inl_eval ((d_BM f_Af x0 x1 x2).trans ((n_BM (fun (d : Int × Bool) => some (Res.mk (rI d.1) [Ch.keep, Ch.set [sB d.2]] [])) x0 x1 x2).symm.trans hr1))

def K_Aw {ρ : Type} (x0 : Int) (k : (Int) → Option ρ) : Option ρ := bif decide (Int.tmod x0 6746518852 > 3373259426) then k (IntKind.wrap .i64 (Int.tmod x0 6746518852 - 6746518852)) else bif decide (Int.tmod x0 6746518852 ≤ -3373259426) then k (IntKind.wrap .i64 (Int.tmod x0 6746518852 + 6746518852)) else
 k (Int.tmod x0 6746518852)
def f_Aw (x0 : Int) : Option (Int) := K_Aw x0 some
section
open Go.Ab.Rdr
def QA_Aw := ((pair (cons (ar (rc (cf (fi .i64 hole)))) nil) nil) : Rdr (List AV × List Blk) _)
end
def F_Aw (f : (Int) → Option (Int)) : Sem1 := fun args h => match (QA_Aw).rd (args, h) with
  | some b => .opt (f b.1.1) fun (d : Int) => .leaf (Res.mk (rI d) [] [])
  | none => .fail
theorem d_Aw (x0 : Int) : den Try.prog (envOf []) ⟨[], [], [], [], none⟩ 200 54 [rI x0] [] = K_Aw x0 (fun (d : Int) => some (Res.mk (rI d) [] [])) := by kernel_rfl
theorem m_Aw {ρ σ : Type} (q : ρ → Option σ) (x0 : Int) (k : (Int) → Option ρ) : (K_Aw x0 k).bind q = K_Aw x0 (fun d => (k d).bind q) := by
  simp only [K_Aw, bnd_cond, bnd_bind, bnd_none, bnd_sum]
theorem qa_Aw : ∀ b, (QA_Aw).em b = ([rI b.1.1], []) := fun b => by kernel_rfl
theorem e_Aw {f : (Int) → Option (Int)} {args : List AV} {h : List Blk} {r : Res} (hr : (F_Aw f args h).eval = some r) : ∃ x0, args = [rI x0] ∧ h = [] ∧ (f x0).bind (fun (d : Int) => some (Res.mk (rI d) [] [])) = some r := by
  unfold F_Aw at hr
  split at hr
  · rename_i b hb
    have e := ((QA_Aw).ok _ _ hb).trans (qa_Aw b)
    rw [opt_eval2] at hr
    exact ⟨b.1.1, (Prod.mk.inj e).1, (Prod.mk.inj e).2, hr⟩
  · cases hr
theorem n_Aw {σ : Type} (q : (Int) → Option σ) (x0 : Int) : (f_Aw x0).bind q = K_Aw x0 q := by
  unfold f_Aw
  exact m_Aw q x0 some
theorem s_Aw [Amb] : Sound Try.prog 54 (F_Aw f_Aw) := (inl_sound (l := []) (.nil _) mixed [] [] 200 (by kernel_rfl)).by (F := F_Aw f_Aw) fun args b r hr => by
  obtain ⟨x0, rfl, rfl, hr1⟩ := e_Aw hr
  exact inl_eval ((d_Aw x0).trans ((n_Aw (fun (d : Int) => some (Res.mk (rI d) [] [])) x0).symm.trans hr1))

def K_BK {ρ : Type} (x0 : Int) (k : (Int) → Option ρ) : Option ρ := bif decide (x0 ≥ 1152921504606846976) then k 1152921504606846976 else bif decide (x0 ≤ -1152921504606846976) then k 1152921504606846976 else bif decide (x0 < 0) then k (IntKind.wrap .i64 (0 - x0)) else k x0
def f_BK (x0 : Int) : Option (Int) := K_BK x0 some
section
open Go.Ab.Rdr
def QA_BK := ((pair (cons (ar (rc (cf (fi .i64 hole)))) nil) nil) : Rdr (List AV × List Blk) _)
end
def F_BK (f : (Int) → Option (Int)) : Sem1 := fun args h => match (QA_BK).rd (args, h) with
  | some b => .opt (f b.1.1) fun (d : Int) => .leaf (Res.mk (rI d) [] [])
  | none => .fail
theorem d_BK (x0 : Int) : den Try.prog (envOf []) ⟨[], [], [], [], none⟩ 200 55 [rI x0] [] = K_BK x0 (fun (d : Int) => some (Res.mk (rI d) [] [])) := by kernel_rfl
theorem m_BK {ρ σ : Type} (q : ρ → Option σ) (x0 : Int) (k : (Int) → Option ρ) : (K_BK x0 k).bind q = K_BK x0 (fun d => (k d).bind q) := by
  simp only [K_BK, bnd_cond, bnd_bind, bnd_none, bnd_sum]
theorem qa_BK : ∀ b, (QA_BK).em b = ([rI b.1.1], []) := fun b => by kernel_rfl
theorem e_BK {f : (Int) → Option (Int)} {args : List AV} {h : List Blk} {r : Res} (hr : (F_BK f args h).eval = some r) : ∃ x0, args = [rI x0] ∧ h = [] ∧ (f x0).bind (fun (d : Int) => some (Res.mk (rI d) [] [])) = some r := by
  unfold F_BK at hr
  split at hr
  · rename_i b hb
    have e := ((QA_BK).ok _ _ hb).trans (qa_BK b)
    rw [opt_eval2] at hr
    exact ⟨b.1.1, (Prod.mk.inj e).1, (Prod.mk.inj e).2, hr⟩
  · cases hr
theorem n_BK {σ : Type} (q : (Int) → Option σ) (x0 : Int) : (f_BK x0).bind q = K_BK x0 q := by
  unfold f_BK
  exact m_BK q x0 some
theorem s_BK [Amb] : Sound Try.prog 55 (F_BK f_BK) := (inl_sound (l := []) (.nil _) mixed [] [] 200 (by kernel_rfl)).by (F := F_BK f_BK) fun args b r hr => by
  obtain ⟨x0, rfl, rfl, hr1⟩ := e_BK hr
  exact inl_eval ((d_BK x0).trans ((n_BK (fun (d : Int) => some (Res.mk (rI d) [] [])) x0).symm.trans hr1))

def K_Ac {ρ : Type} (g_Af : t16GN2) (x0 : Int) (x1 : Int) (x2 : Bool) (k : (Int × Bool) → Option ρ) : Option ρ := Option.bind (g_Af x0 x1 30 x2) fun (d : Int × Bool) => k (d.1, d.2)
def f_Ac (x0 : Int) (x1 : Int) (x2 : Bool) : Option (Int × Bool) := K_Ac f_Af x0 x1 x2 some
section
open Go.Ab.Rdr
def QA_Ac := ((pair (cons (ar (rc (cptr (nat 0) (ok' (nat 0)) (nat 1)))) (cons (ar (rc (cf (fi .i64 hole)))) (cons (ar (rc (cf (fi .i64 hole)))) nil))) (cons (cons (gc (cf (fb hole))) nil) nil)) : Rdr (List AV × List Blk) _)
end
def F_Ac (f : (Int) → (Int) → (Bool) → Option (Int × Bool)) : Sem1 := fun args h => match (QA_Ac).rd (args, h) with
  | some b => .opt (f b.1.2.1 b.1.2.2.1 b.2.1.1) fun (d : Int × Bool) => .leaf (Res.mk (rI d.1) [Ch.set [sB d.2]] [])
  | none => .fail
theorem d_Ac (g_Af : t16GN2) (x0 : Int) (x1 : Int) (x2 : Bool) : den Try.prog (envOf [(30, F_Af g_Af)]) ⟨[], [], [], [], none⟩ 200 56 [.r (.c (.ptr 0 (.k 0) 1)), rI x0, rI x1] [[.c (.f (.b x2))]] = K_Ac g_Af x0 x1 x2 (fun (d : Int ×
 Bool) => some (Res.mk (rI d.1) [Ch.set [sB d.2]] [])) := by kernel_rfl
theorem m_Ac {ρ σ : Type} (q : ρ → Option σ) (g_Af : t16GN2) (x0 : Int) (x1 : Int) (x2 : Bool) (k : (Int × Bool) → Option ρ) : (K_Ac g_Af x0 x1 x2 k).bind q = K_Ac g_Af x0 x1 x2 (fun d => (k d).bind q) := by
  simp only [K_Ac, bnd_cond, bnd_bind, bnd_none, bnd_sum]
theorem qa_Ac : ∀ b, (QA_Ac).em b = ([.r (.c (.ptr 0 (.k 0) 1)), rI b.1.2.1, rI b.1.2.2.1], [[.c (.f (.b b.2.1.1))]]) := fun b => by kernel_rfl
theorem e_Ac {f : (Int) → (Int) → (Bool) → Option (Int × Bool)} {args : List AV} {h : List Blk} {r : Res} (hr : (F_Ac f args h).eval = some r) : ∃ x0 x1 x2, args = [.r (.c (.ptr 0 (.k 0) 1)), rI x0, rI x1] ∧ h = [[.c (.f (.b x2))]] ∧ (f x0 x1 x2).bind (fun (d : Int × Bool) => some (Res.mk (rI d.1) [Ch.set [sB d.2]] [])) = some r := by
  unfold F_Ac at hr
  split at hr
  · rename_i b hb
    have e := ((QA_Ac).ok _ _ hb).trans (qa_Ac b)
    rw [opt_eval2] at hr
    exact ⟨b.1.2.1, b.1.2.2.1, b.2.1.1, (Prod.mk.inj e).1, (Prod.mk.inj e).2, hr⟩
  · cases hr
theorem n_Ac {σ : Type} (q : (Int × Bool) → Option σ) (x0 : Int) (x1 : Int) (x2 : Bool) : (f_Ac x0 x1 x2).bind q = K_Ac f_Af x0 x1 x2 q := by
  unfold f_Ac
  exact m_Ac q f_Af x0 x1 x2 some
theorem s_Ac [Amb] : Sound Try.prog 56 (F_Ac f_Ac) := (inl_sound (l := [(30, F_Af f_Af)]) (.cons s_Af (.nil _)) mixed [] [] 200 (by kernel_rfl)).by (F := F_Ac f_Ac) fun args b r hr => by
  obtain ⟨x0, x1, x2, rfl, rfl, hr1⟩ := e_Ac hr
  exact inl_eval ((d_Ac f_Af x0 x1 x2).trans ((n_Ac (fun (d : Int × Bool) => some (Res.mk (rI d.1) [Ch.set [sB d.2]] [])) x0 x1 x2).symm.trans hr1))

def K_BJ {ρ : Type} (x0 : Int) (k : (Int × Int) → Option ρ) : Option ρ := k (Int.fdiv x0 9223372036854775808, IntKind.wrap .u64 x0)
def f_BJ (x0 : Int) : Option (Int × Int) := K_BJ x0 some
section
open Go.Ab.Rdr
def QA_BJ := ((pair (cons (ar (rc (cf (fi .i64 hole)))) nil) nil) : Rdr (List AV × List Blk) _)
end
def F_BJ (f : (Int) → Option (Int × Int)) : Sem1 := fun args h => match (QA_BJ).rd (args, h) with
  | some b => .opt (f b.1.1) fun (d : Int × Int) => .leaf (Res.mk (AV.r (RV.agg [sI d.1, sU d.2])) [] [])
  | none => .fail
theorem d_BJ (x0 : Int) : den Try.prog (envOf []) ⟨[], [], [], [], none⟩ 200 62 [rI x0] [] = K_BJ x0 (fun (d : Int × Int) => some (Res.mk (AV.r (RV.agg [sI d.1, sU d.2])) [] [])) := by kernel_rfl
theorem m_BJ {ρ σ : Type} (q : ρ → Option σ) (x0 : Int) (k : (Int × Int) → Option ρ) : (K_BJ x0 k).bind q = K_BJ x0 (fun d => (k d).bind q) := by
  simp only [K_BJ, bnd_cond, bnd_bind, bnd_none, bnd_sum]
theorem qa_BJ : ∀ b, (QA_BJ).em b = ([rI b.1.1], []) := fun b => by kernel_rfl
theorem e_BJ {f : (Int) → Option (Int × Int)} {args : List AV} {h : List Blk} {r : Res} (hr : (F_BJ f args h).eval = some r) : ∃ x0, args = [rI x0] ∧ h = [] ∧ (f x0).bind (fun (d : Int × Int) => some (Res.mk (AV.r (RV.agg [sI d.1, sU d.2])) [] [])) = some r := by
  unfold F_BJ at hr
  split at hr
  · rename_i b hb
    have e := ((QA_BJ).ok _ _ hb).trans (qa_BJ b)
    rw [opt_eval2] at hr
    exact ⟨b.1.1, (Prod.mk.inj e).1, (Prod.mk.inj e).2, hr⟩
  · cases hr
theorem n_BJ {σ : Type} (q : (Int × Int) → Option σ) (x0 : Int) : (f_BJ x0).bind q = K_BJ x0 q := by
  unfold f_BJ
  exact m_BJ q x0 some
theorem s_BJ [Amb] : Sound Try.prog 62 (F_BJ f_BJ) := (inl_sound (l := []) (.nil _) mixed [] [] 200 (by kernel_rfl)).by (F := F_BJ f_BJ) fun args b r hr => by
  obtain ⟨x0, rfl, rfl, hr1⟩ := e_BJ hr
  exact inl_eval ((d_BJ x0).trans ((n_BJ (fun (d : Int × Int) => some (Res.mk (AV.r (RV.agg [sI d.1, sU d.2])) [] [])) x0).symm.trans hr1))

def K_BD {ρ : Type} (g_Add64 : C3) (x0 : Int) (x1 : Int) (x2 : Int) (x3 : Int) (k : (Int × Int × Bool) → Option ρ) : Option ρ := Option.bind (g_Add64 x1 x3 0) fun (d : Int × Int) => Option.bind (g_Add64 (IntKind.wrap .u64 x0) (IntKind.wrap .u64 x2) d.2) fun (d_1 : Int × Int) => bif !decide (x0 < 0) == decide (x2 < 0) then
 k (IntKind.wrap .i64 d_1.1, d.1, true) else k (IntKind.wrap .i64 d_1.1, d.1, decide (IntKind.wrap .i64 d_1.1 < 0) == decide (x0 < 0))
def f_BD (x0 : Int) (x1 : Int) (x2 : Int) (x3 : Int) : Option (Int × Int × Bool) := K_BD f_Add64 x0 x1 x2 x3 some
section
open Go.Ab.Rdr
def QA_BD := ((pair (cons (ar (ra (cons (gc (cf (fi .i64 hole))) (cons (gc (cf (fi .u64 hole))) nil)))) (cons (ar (ra (cons (gc (cf (fi .i64 hole))) (cons (gc (cf (fi .u64 hole))) nil)))) nil)) nil) : Rdr (List AV × List Blk) _)
end
def F_BD (f : (Int) → (Int) → (Int) → (Int) → Option (Int × Int × Bool)) : Sem1 := fun args h => match (QA_BD).rd (args, h) with
  | some b => .opt (f b.1.1.1 b.1.1.2.1 b.1.2.1.1 b.1.2.1.2.1) fun (d : Int × Int × Bool) => .leaf (Res.mk (AV.tup [RV.agg [sI d.1, sU d.2.1], RV.c (CV.f (FV.b d.2.2))]) [] [])
  | none => .fail
theorem d_BD (g_Add64 : C3) (x0 : Int) (x1 : Int) (x2 : Int) (x3 : Int) : den Try.prog (envOf [(91, F_carry g_Add64)]) ⟨[], [], [], [], none⟩ 200 81 [.r (.agg [.c (.f (.i .i64 x0)), .c (.f (.i .u64 x1))]), .r (.agg [.c (.f (.i .i64 x2)), .c (.f (.i .u64 x3))])] [] = K_BD g_Add64 x0 x1 x2 x3 (fun (d : Int ×
 Int × Bool) => some (Res.mk (AV.tup [RV.agg [sI d.1, sU d.2.1], RV.c (CV.f (FV.b d.2.2))]) [] [])) := by kernel_rfl
theorem m_BD {ρ σ : Type} (q : ρ → Option σ) (g_Add64 : C3) (x0 : Int) (x1 : Int) (x2 : Int) (x3 : Int) (k : (Int × Int × Bool) → Option ρ) : (K_BD g_Add64 x0 x1 x2 x3 k).bind q = K_BD g_Add64 x0 x1 x2 x3 (fun d => (k d).bind q) := by
  simp only [K_BD, bnd_cond, bnd_bind, bnd_none, bnd_sum]
theorem qa_BD : ∀ b, (QA_BD).em b = ([.r (.agg [.c (.f (.i .i64 b.1.1.1)), .c (.f (.i .u64 b.1.1.2.1))]), .r (.agg [.c (.f (.i .i64 b.1.2.1.1)), .c (.f (.i .u64 b.1.2.1.2.1))])], []) := fun b => by kernel_rfl
theorem e_BD {f : (Int) → (Int) → (Int) → (Int) → Option (Int × Int × Bool)} {args : List AV} {h : List Blk} {r : Res} (hr : (F_BD f args h).eval = some r) : ∃ x0 x1 x2 x3, args = [.r (.agg [.c (.f (.i .i64 x0)), .c (.f (.i .u64 x1))]), .r (.agg [.c (.f (.i .i64 x2)), .c (.f (.i .u64 x3))])] ∧ h = [] ∧ (f x0 x1 x2 x3).bind (fun (d : Int × Int × Bool) => some (Res.mk (AV.tup [RV.agg [sI d.1, sU d.2.1], RV.c (CV.f (FV.b d.2.2))]) [] [])) = some r := by
  unfold F_BD at hr
  split at hr
  · rename_i b hb
    have e := ((QA_BD).ok _ _ hb).trans (qa_BD b)
    rw [opt_eval2] at hr
    exact ⟨b.1.1.1, b.1.1.2.1, b.1.2.1.1, b.1.2.1.2.1, (Prod.mk.inj e).1, (Prod.mk.inj e).2, hr⟩
  · cases hr
theorem n_BD {σ : Type} (q : (Int × Int × Bool) → Option σ) (x0 : Int) (x1 : Int) (x2 : Int) (x3 : Int) : (f_BD x0 x1 x2 x3).bind q = K_BD f_Add64 x0 x1 x2 x3 q := by
  unfold f_BD
  exact m_BD q f_Add64 x0 x1 x2 x3 some
theorem s_BD [Amb] : Sound Try.prog 81 (F_BD f_BD) := (inl_sound (l := [(91, F_carry f_Add64)]) (.cons s_Add64 (.nil _)) mixed [] [] 200 (by kernel_rfl)).by (F := F_BD f_BD) fun args b r hr => by
  obtain ⟨x0, x1, x2, x3, rfl, rfl, hr1⟩ := e_BD hr
  exact inl_eval ((d_BD f_Add64 x0 x1 x2 x3).trans ((n_BD (fun (d : Int × Int × Bool) => some (Res.mk (AV.tup [RV.agg [sI d.1, sU d.2.1], RV.c (CV.f (FV.b d.2.2))]) [] [])) x0 x1 x2 x3).symm.trans hr1))

def S_AI_0 {ρ : Type} (g_BD : t25GN2) (x0 : Nat) (x1 : Bool) (x2 : Int) (x3 : Int) (x4 : Nat) (x5 : NI) (x6 : NI) (x7 : Int) (x8 : Int) (c : (Nat × Bool × Int × Int × Nat × NI × NI × Int × Int) → Option ρ) (x : (Nat × NI ×
 NI ⊕ Nat × Bool × Int × Int × Bool × Nat × NI × NI × Int × Int) → Option ρ) : Option ρ := bif decide (x3 < x2) then bif inR x3 x0 then Option.bind (g_BD x7 x8 (x5 (Int.toNat x3)) (x6 (Int.toNat x3))) fun (d : Int × Int × Bool) => bif !d.2.2 then x (Sum.inl (x4, x5, x6)) else
 c (x0, x1, x2, IntKind.wrap .i64 (x3 + 1), x4, x5, x6, d.1, d.2.1) else none else x (Sum.inr (x0, x1, x2, x3, decide (x3 < x2), x4, x5, x6, x7, x8))
section
open Go.Ab.Rdr
def Q_AI_0 := (st (cons aund (cons aund (cons (ar (rc (cptr (nat 1) (ok' (nat 0)) (nat 2)))) (cons aund (cons (ar (rc (cptr (nat 2) (ok' (nat 0)) (nat 2)))) (cons aund (cons aund (cons aund (cons aund (cons (ar (rc (csl (nat 0) (ok' (nat 0)) (szs hole) (nat 2) hole))) (cons (ar (rc (cf (fi .i64 hole)))) (cons (ar (rc (cf (fi .i64 hole)))) (cons aund (cons aund (cons aund (cons aund (cons aund (cons aund (cons aund (cons aund (cons aund (cons aund (cons aund (cons aund (cons aund (cons aund (cons aund nil))))))))))))))))))))))))))) (cons (some' (cons (ga (szs hole) (cons (ki .i64 hole) (cons (ki .u64 hole) nil))) nil)) (cons (some' (cons (gc (cf (fi .i64 (int 0)))) (cons (gc (cf (fi .u64 (int 0)))) nil))) (cons (some' (cons (gc (cf (fi .i64 hole))) (cons (gc (cf (fi .u64 hole))) nil))) nil))) nil)
end
theorem q_AI_0 : ∀ b, (Q_AI_0).em b = St.mk [un, un, AV.r (RV.c (CV.ptr 1 (Off.k 0) 2)), un, AV.r (RV.c (CV.ptr 2 (Off.k 0) 2)), un, un, un, un, AV.r (RV.c (CV.sl 0 (Off.k 0) (Sz.s b.1.c8.2.1.2.2.1) 2 b.1.c8.2.1.c4)), rI b.1.c8.2.2.1,
 rI b.1.c8.2.2.2.1, un, un, un, un, un, un, un, un, un, un, un, un, un, un, un] [some [Sg.a (Sz.s b.2.1.1.1.1) [kI b.2.1.1.1.2.1, Col.i .u64 b.2.1.1.1.2.2.1]], some [sI 0,
 sU 0], some [sI b.2.1.2.2.1.1, sU b.2.1.2.2.1.2.1]] [] := fun b => by kernel_rfl
def R_AI_0 (l : ∀ {ρ : Type}, (Nat × Bool × Int × Int × Nat × NI × NI × Int × Int) → ((Nat × NI × NI ⊕ Nat × Bool × Int × Int × Bool × Nat × NI × NI × Int × Int) → Option ρ) → Option ρ) {ρ : Type} (s : St) (K : AX → St → Option ρ) : Option ρ := ((Q_AI_0).rd s).bind fun b => l (b.1.c8.2.1.2.2.1,
 b.1.c8.2.1.c4, b.1.c8.2.2.1, b.1.c8.2.2.2.1, b.2.1.1.1.1, b.2.1.1.1.2.1, b.2.1.1.1.2.2.1, b.2.1.2.2.1.1, b.2.1.2.2.1.2.1) (Sum.elim (fun d => K (AX.ret) (St.mk [un, un, AV.r (RV.c (CV.ptr 1 (Off.k 0) 2)), rB false, un, un,
 un, un, un, un, un, un, un, un, un, un, un, un, un, un, un, un, un, un, un, un, un] [some [Sg.a (Sz.s d.1) [kI d.2.1, Col.i .u64 d.2.2]], some [sI 0, sU 0]] [])) (fun d => K (AX.ex 0) (St.mk [un,
 un, AV.r (RV.c (CV.ptr 1 (Off.k 0) 2)), un, AV.r (RV.c (CV.ptr 2 (Off.k 0) 2)), un, un, un, un, AV.r (RV.c (CV.sl 0 (Off.k 0) (Sz.s d.1) 2 d.2.1)), rI d.2.2.1, rI d.2.2.2.1, rB d.c4.1,
 un, un, un, un, un, un, un, un, un, un, un, un, un, un] [some [Sg.a (Sz.s d.c4.2.1) [kI d.c4.2.2.1, Col.i .u64 d.c4.2.2.2.1]], some [sI 0, sU 0], some [sI d.c8.1,
 sU d.c8.2]] [])))
theorem ms_AI_0 {ρ σ : Type} (g_BD : t25GN2) (q : ρ → Option σ) (x0 : Nat) (x1 : Bool) (x2 : Int) (x3 : Int) (x4 : Nat) (x5 : NI) (x6 : NI) (x7 : Int) (x8 : Int) (c : (Nat × Bool × Int × Int × Nat × NI × NI × Int × Int) → Option ρ) (x : (Nat × NI × NI ⊕ Nat × Bool × Int × Int × Bool × Nat × NI × NI × Int × Int) → Option ρ) : (S_AI_0 g_BD x0 x1 x2 x3 x4 x5 x6 x7 x8 c x).bind q = S_AI_0 g_BD x0 x1 x2 x3 x4 x5 x6 x7 x8 (fun d => (c d).bind q) (fun d => (x d).bind q) := by
  simp only [S_AI_0, bnd_cond, bnd_bind, bnd_none, bnd_sum]
def L_AI_0 {ρ : Type} (d : Nat × Bool × Int × Int × Nat × NI × NI × Int × Int) (k : (Nat × NI × NI ⊕ Nat × Bool × Int × Int × Bool × Nat × NI × NI × Int × Int) → Option ρ) : Option ρ := loopK (fun d c x => S_AI_0 f_BD d.1 d.2.1 d.2.2.1 d.2.2.2.1 d.c4.1 d.c4.2.1 d.c4.2.2.1 d.c4.2.2.2.1 d.c8 c x) 200 d k
theorem mL_AI_0 {ρ σ : Type} (q : ρ → Option σ) (d : Nat × Bool × Int × Int × Nat × NI × NI × Int × Int) (k : (Nat × NI × NI ⊕ Nat × Bool × Int × Int × Bool × Nat × NI × NI × Int × Int) → Option ρ) : (L_AI_0 d k).bind q = L_AI_0 d fun x => (k x).bind q := loopK_bind q (fun d c x => ms_AI_0 f_BD q d.1 d.2.1 d.2.2.1 d.2.2.2.1 d.c4.1 d.c4.2.1 d.c4.2.2.1 d.c4.2.2.2.1 d.c8 c x) k _ d
theorem ds_AI_0 {ρ : Type} (g_BD : t25GN2) (l_0 : ∀ {ρ : Type}, (Nat × Bool × Int × Int × Nat × NI × NI × Int × Int) → ((Nat × NI × NI ⊕ Nat × Bool × Int × Int × Bool × Nat × NI × NI × Int × Int) → Option ρ) →
 Option ρ) (x0 : Nat) (x1 : Bool) (x2 : Int) (x3 : Int) (x4 : Nat) (x5 : NI) (x6 : NI) (x7 : Int) (x8 : Int) (c : St → Option ρ) (K : AX → St → Option ρ) : runC Try.prog (envOf [(81, F_BD g_BD)]) ⟨[⟨3, u2GN2, []⟩],
 [⟨3, 1, @R_AI_0 (@l_0)⟩], [], [], (some ⟨0, u3GN2, []⟩)⟩ (tmpsOf Try.prog 61) 1 200 (loopIn Try.prog 61 3) (St.mk [un, un, AV.r (RV.c (CV.ptr 1 (Off.k 0) 2)), un, AV.r (RV.c (CV.ptr 2 (Off.k 0) 2)), un,
 un, un, un, AV.r (RV.c (CV.sl 0 (Off.k 0) (Sz.s x0) 2 x1)), rI x2, rI x3, un, un, un, un, un, un, un, un, un, un, un, un, un, un, un] [some [Sg.a (Sz.s x4) [kI x5,
 Col.i .u64 x6]], some [sI 0, sU 0], some [sI x7, sU x8]] []) (next (fun t => t.head 1 ⟨[⟨3, u2GN2, []⟩], [⟨3,
 1, @R_AI_0 (@l_0)⟩], [], [], (some ⟨0, u3GN2, []⟩)⟩ (loopIn Try.prog 61 3)) c K) = S_AI_0 g_BD x0 x1 x2 x3 x4 x5 x6 x7 x8 (fun d => c (St.mk [un, un, AV.r (RV.c (CV.ptr 1 (Off.k 0) 2)), un, AV.r (RV.c (CV.ptr 2 (Off.k 0) 2)),
 un, un, un, un, AV.r (RV.c (CV.sl 0 (Off.k 0) (Sz.s d.1) 2 d.2.1)), rI d.2.2.1, rI d.2.2.2.1, un, un, un, un, un, un, un, un, un, un, un, un, un, un, un] [some [Sg.a (Sz.s d.c4.1) [kI d.c4.2.1,
 Col.i .u64 d.c4.2.2.1]], some [sI 0, sU 0], some [sI d.c4.2.2.2.1, sU d.c8]] [])) (Sum.elim (fun d => K (AX.ret) (St.mk [un, un, AV.r (RV.c (CV.ptr 1 (Off.k 0) 2)),
 rB false, un, un, un, un, un, un, un, un, un, un, un, un, un, un, un, un, un, un, un, un, un, un, un] [some [Sg.a (Sz.s d.1) [kI d.2.1, Col.i .u64 d.2.2]], some [sI 0,
 sU 0]] [])) (fun d => K (AX.ex 0) (St.mk [un, un, AV.r (RV.c (CV.ptr 1 (Off.k 0) 2)), un, AV.r (RV.c (CV.ptr 2 (Off.k 0) 2)), un, un, un, un, AV.r (RV.c (CV.sl 0 (Off.k 0) (Sz.s d.1) 2 d.2.1)), rI d.2.2.1, rI d.2.2.2.1,
 rB d.c4.1, un, un, un, un, un, un, un, un, un, un, un, un, un, un] [some [Sg.a (Sz.s d.c4.2.1) [kI d.c4.2.2.1, Col.i .u64 d.c4.2.2.2.1]], some [sI 0, sU 0],
 some [sI d.c8.1, sU d.c8.2]] []))) := by kernel_rfl
theorem it_AI_0 {ρ : Type} (x0 : Nat) (x1 : Bool) (x2 : Int) (x3 : Int) (x4 : Nat) (x5 : NI) (x6 : NI) (x7 : Int) (x8 : Int) (K : AX → St → Option ρ) : iter (fun t => t.head 1 ⟨[⟨3, u2GN2, []⟩], [⟨3, 1, @R_AI_0 (@L_AI_0)⟩],
 [], [], (some ⟨0, u3GN2, []⟩)⟩ (loopIn Try.prog 61 3)) (runC Try.prog (envOf [(81, F_BD f_BD)]) ⟨[⟨3, u2GN2, []⟩], [⟨3, 1, @R_AI_0 (@L_AI_0)⟩],
 [], [], (some ⟨0, u3GN2, []⟩)⟩ (tmpsOf Try.prog 61) 1 200 (loopIn Try.prog 61 3)) K 200 (St.mk [un, un, AV.r (RV.c (CV.ptr 1 (Off.k 0) 2)), un, AV.r (RV.c (CV.ptr 2 (Off.k 0) 2)), un, un, un,
 un, AV.r (RV.c (CV.sl 0 (Off.k 0) (Sz.s x0) 2 x1)), rI x2, rI x3, un, un, un, un, un, un, un, un, un, un, un, un, un, un, un] [some [Sg.a (Sz.s x4) [kI x5,
 Col.i .u64 x6]], some [sI 0, sU 0], some [sI x7, sU x8]] []) = L_AI_0 (x0, x1, x2, x3, x4, x5, x6, x7, x8) (Sum.elim (fun d => K (AX.ret) (St.mk [un, un, AV.r (RV.c (CV.ptr 1 (Off.k 0) 2)),
 rB false, un, un, un, un, un, un, un, un, un, un, un, un, un, un, un, un, un, un, un, un, un, un, un] [some [Sg.a (Sz.s d.1) [kI d.2.1, Col.i .u64 d.2.2]], some [sI 0,
 sU 0]] [])) (fun d => K (AX.ex 0) (St.mk [un, un, AV.r (RV.c (CV.ptr 1 (Off.k 0) 2)), un, AV.r (RV.c (CV.ptr 2 (Off.k 0) 2)), un, un, un, un, AV.r (RV.c (CV.sl 0 (Off.k 0) (Sz.s d.1) 2 d.2.1)), rI d.2.2.1, rI d.2.2.2.1,
 rB d.c4.1, un, un, un, un, un, un, un, un, un, un, un, un, un, un] [some [Sg.a (Sz.s d.c4.2.1) [kI d.c4.2.2.1, Col.i .u64 d.c4.2.2.2.1]], some [sI 0, sU 0],
 some [sI d.c8.1, sU d.c8.2]] []))) := iter_loopX (emb := fun (d : Nat × Bool × Int × Int × Nat × NI × NI × Int × Int) => St.mk [un, un, AV.r (RV.c (CV.ptr 1 (Off.k 0) 2)), un, AV.r (RV.c (CV.ptr 2 (Off.k 0) 2)),
 un, un, un, un, AV.r (RV.c (CV.sl 0 (Off.k 0) (Sz.s d.1) 2 d.2.1)), rI d.2.2.1, rI d.2.2.2.1, un, un, un, un, un, un, un, un, un, un, un, un, un, un, un] [some [Sg.a (Sz.s d.c4.1) [kI d.c4.2.1,
 Col.i .u64 d.c4.2.2.1]], some [sI 0, sU 0], some [sI d.c4.2.2.2.1, sU d.c8]] []) (step := fun d c x => S_AI_0 f_BD d.1 d.2.1 d.2.2.1 d.2.2.2.1 d.c4.1 d.c4.2.1 d.c4.2.2.1 d.c4.2.2.2.1 d.c8 c x) (kx := (Sum.elim (fun d => K (AX.ret) (St.mk [un,
 un, AV.r (RV.c (CV.ptr 1 (Off.k 0) 2)), rB false, un, un, un, un, un, un, un, un, un, un, un, un, un, un, un, un, un, un, un, un, un, un, un] [some [Sg.a (Sz.s d.1) [kI d.2.1,
 Col.i .u64 d.2.2]], some [sI 0, sU 0]] [])) (fun d => K (AX.ex 0) (St.mk [un, un, AV.r (RV.c (CV.ptr 1 (Off.k 0) 2)), un, AV.r (RV.c (CV.ptr 2 (Off.k 0) 2)), un, un, un, un, AV.r (RV.c (CV.sl 0 (Off.k 0) (Sz.s d.1) 2 d.2.1)),
 rI d.2.2.1, rI d.2.2.2.1, rB d.c4.1, un, un, un, un, un, un, un, un, un, un, un, un, un, un] [some [Sg.a (Sz.s d.c4.2.1) [kI d.c4.2.2.1,
 Col.i .u64 d.c4.2.2.2.1]], some [sI 0, sU 0], some [sI d.c8.1, sU d.c8.2]] [])))) (fun d c => ds_AI_0 f_BD (@L_AI_0) d.1 d.2.1 d.2.2.1 d.2.2.2.1 d.c4.1 d.c4.2.1 d.c4.2.2.1 d.c4.2.2.2.1 d.c8 c K) 200 (x0,
 x1, x2, x3, x4, x5, x6, x7, x8)
theorem so_AI_0 [Amb] : ∀ kk, SumOK Try.prog (envOf [(81, F_BD f_BD)]) ⟨[⟨3, u2GN2, []⟩], [⟨3, 1, @R_AI_0 (@L_AI_0)⟩], [], [], (some ⟨0, u3GN2, []⟩)⟩ (tmpsOf Try.prog 61) kk 200 (loopIn Try.prog 61 3) := SumOK.of (id := 3) (k0 := 1) (run := @R_AI_0 (@L_AI_0)) (by kernel_rfl) fun s K r hr => by
    unfold R_AI_0 at hr
    obtain ⟨b, hb, hr1⟩ := Option.bind_eq_some_iff.1 hr
    have e := ((Q_AI_0).ok s b hb).trans (q_AI_0 b)
    subst e
    exact ⟨200, (it_AI_0 b.1.c8.2.1.2.2.1 b.1.c8.2.1.c4 b.1.c8.2.2.1 b.1.c8.2.2.2.1 b.2.1.1.1.1 b.2.1.1.1.2.1 b.2.1.1.1.2.2.1 b.2.1.2.2.1.1 b.2.1.2.2.1.2.1 K).trans hr1⟩
def K_AI {ρ : Type} (g_BD : t25GN2) (l_0 : ∀ {ρ : Type}, (Nat × Bool × Int × Int × Nat × NI × NI × Int × Int) → ((Nat × NI × NI ⊕ Nat × Bool × Int × Int × Bool × Nat × NI × NI × Int × Int) → Option ρ) → Option ρ) (x0 : Nat) (x1 : Nat →
 Int) (x2 : NI) (w0 : Bool) (k : (Int × Int × Bool) → Option ρ) : Option ρ := l_0 (x0, w0, Int.ofNat x0, 0, x0, x1, x2, 0, 0) (Sum.elim (fun (d : Nat × NI × NI) => k (0, 0, false)) fun (d : Nat × Bool × Int × Int × Bool × Nat × NI × NI × Int × Int) => k (d.c8.1,
 d.c8.2, true))
def f_AI (x0 : Nat) (x1 : NI) (x2 : NI) (w0 : Bool) : Option (Int × Int × Bool) := K_AI f_BD (@L_AI_0) x0 x1 x2 w0 some
section
open Go.Ab.Rdr
def QA_AI := ((pair (cons (ar (rc (csl (nat 0) (ok' (nat 0)) (szs hole) (nat 2) hole))) nil) (cons (cons (ga (szs hole) (cons (ki .i64 hole) (cons (ki .u64 hole) nil))) nil) nil)) : Rdr (List AV × List Blk) _)
end
def F0_AI (f : (Nat) → NI → NI → (Bool) → Option (Int × Int × Bool)) : Sem1 := fun args h => match (QA_AI).rd (args, h) with
  | some b => .test (Nat.beq b.2.1.1.1 b.1.1.2.2.1) (.opt (f b.1.1.2.2.1 b.2.1.1.2.1 b.2.1.1.2.2.1 b.1.1.c4) fun (d : Int × Int × Bool) => .leaf (Res.mk (AV.tup [RV.agg [sI d.1, sU d.2.1], RV.c (CV.f (FV.b d.2.2))]) [Ch.keep] [])) .fail
  | none => .fail
def F_AI (f : (Nat) → NI → NI → (Bool) → Option (Int × Int × Bool)) : Sem1 := (nilF 0 [.i .i64, .i .u64] (F0_AI f))
theorem d_AI (g_BD : t25GN2) (l_0 : ∀ {ρ : Type}, (Nat × Bool × Int × Int × Nat × NI × NI × Int × Int) → ((Nat × NI × NI ⊕ Nat × Bool × Int × Int × Bool × Nat × NI × NI × Int × Int) → Option ρ) → Option ρ) (x0 : Nat) (x1 : Nat →
 Int) (x2 : NI) (w0 : Bool) : den Try.prog (envOf [(81, F_BD g_BD)]) ⟨[⟨3, u2GN2, []⟩], [⟨3, 1, @R_AI_0 (@l_0)⟩], [], [], (some ⟨0, u3GN2, []⟩)⟩ 200 61 [.r (.c (.sl 0 (.k 0) (.s x0) 2 w0))] [[.a (.s x0) [.i .i64 x1, .i .u64 x2]]] = K_AI g_BD (@l_0) x0 x1 x2 w0 (fun (d : Int × Int × Bool) => some (Res.mk (AV.tup [RV.agg [sI d.1, sU d.2.1], RV.c (CV.f (FV.b d.2.2))]) [Ch.keep] [])) := by kernel_rfl
theorem m_AI {ρ σ : Type} (q : ρ → Option σ) (g_BD : t25GN2) (l_0 : ∀ {ρ : Type}, (Nat × Bool × Int × Int × Nat × NI × NI × Int × Int) → ((Nat × NI × NI ⊕ Nat × Bool × Int × Int × Bool × Nat × NI × NI × Int × Int) → Option ρ) → Option ρ) (hl_0 : ∀ {ρ σ : Type} (q : ρ → Option σ) (d : Nat × Bool × Int × Int × Nat × NI × NI × Int × Int) (k : (Nat × NI × NI ⊕ Nat × Bool × Int × Int × Bool × Nat × NI × NI × Int × Int) → Option ρ), (l_0 d k).bind q = l_0 d fun x => (k x).bind q) (x0 : Nat) (x1 : NI) (x2 : NI) (w0 : Bool) (k : (Int × Int × Bool) → Option ρ) : (K_AI g_BD (@l_0) x0 x1 x2 w0 k).bind q = K_AI g_BD (@l_0) x0 x1 x2 w0 (fun d => (k d).bind q) := by
  simp only [K_AI, bnd_cond, bnd_bind, bnd_none, bnd_sum, hl_0]
theorem qa_AI : ∀ b, (QA_AI).em b = ([.r (.c (.sl 0 (.k 0) (.s b.1.1.2.2.1) 2 b.1.1.c4))], [[.a (.s b.2.1.1.1) [.i .i64 b.2.1.1.2.1, .i .u64 b.2.1.1.2.2.1]]]) := fun b => by kernel_rfl
theorem e_AI {f : (Nat) → NI → NI → (Bool) → Option (Int × Int × Bool)} {args : List AV} {h : List Blk} {r : Res} (hr : (F0_AI f args h).eval = some r) : ∃ x0 x1 x2 w0, args = [.r (.c (.sl 0 (.k 0) (.s x0) 2 w0))] ∧ h = [[.a (.s x0) [.i .i64 x1, .i .u64 x2]]] ∧ (f x0 x1 x2 w0).bind (fun (d : Int × Int × Bool) => some (Res.mk (AV.tup [RV.agg [sI d.1, sU d.2.1], RV.c (CV.f (FV.b d.2.2))]) [Ch.keep] [])) = some r := by
  unfold F0_AI at hr
  split at hr
  · rename_i b hb
    have e := ((QA_AI).ok _ _ hb).trans (qa_AI b)
    obtain ⟨he, hr1⟩ := test_eval hr
    clear hr
    have hr := hr1
    clear hr1
    rw [Nat.eq_of_beq_eq_true he] at e
    clear he
    rw [opt_eval2] at hr
    exact ⟨b.1.1.2.2.1, b.2.1.1.2.1, b.2.1.1.2.2.1, b.1.1.c4, (Prod.mk.inj e).1, (Prod.mk.inj e).2, hr⟩
  · cases hr
theorem n_AI {σ : Type} (q : (Int × Int × Bool) → Option σ) (x0 : Nat) (x1 : NI) (x2 : NI) (w0 : Bool) : (f_AI x0 x1 x2 w0).bind q = K_AI f_BD (@L_AI_0) x0 x1 x2 w0 q := by
  unfold f_AI
  exact m_AI q f_BD (@L_AI_0) (fun q d k => mL_AI_0 q d k) x0 x1 x2 w0 some
theorem s_AI [Amb] : Sound Try.prog 61 (F_AI f_AI) := Sound.nil 0 [.i .i64, .i .u64] <| (inl_sums (l := [(81, F_BD f_BD)]) (.cons s_BD (.nil _)) mixed (hs := ⟨[⟨3, u2GN2, []⟩], [⟨3, 1, @R_AI_0 (@L_AI_0)⟩], [], [], (some ⟨0, u3GN2, []⟩)⟩) (lf := 200) (Sums.by (l := [loopIn Try.prog 61 3]) (lj := []) (by kernel_rfl) ⟨so_AI_0, trivial⟩ (by kernel_rfl) trivial) (by kernel_rfl)).by (F := F0_AI f_AI) fun args b r hr => by
  obtain ⟨x0, x1, x2, w0, rfl, rfl, hr1⟩ := e_AI hr
  exact inl_eval ((d_AI f_BD (@L_AI_0) x0 x1 x2 w0).trans ((n_AI (fun (d : Int × Int × Bool) => some (Res.mk (AV.tup [RV.agg [sI d.1, sU d.2.1], RV.c (CV.f (FV.b d.2.2))]) [Ch.keep] [])) x0 x1 x2 w0).symm.trans hr1))

def S_AD_0 {ρ : Type} (g_J : t23GN2) (g_BJ : t26GN2) (g_AI : t27GN2) (g_An : t21GN2) (g_Aa : t22GN2) (x0 : Nat) (x1 : Bool) (x2 : Int) (x3 : Int) (x4 : Bool) (x5 : Nat) (x6 : Nat →
 Int) (x7 : Int) (x8 : Int) (c : (Nat × Bool × Int × Int × Bool × Nat × NI × Int × Int) → Option ρ) (x : (Nat × Bool × Int × Int × Bool × Bool × Nat × NI × Int × Int) → Option ρ) : Option ρ := bif decide (x3 < x2) then bif inR x3 x0 then Option.bind (g_J (x6 (Int.toNat x3)) x4) fun (d : Int ×
 Bool) => Option.bind (g_BJ d.1) fun (d_1 : Int × Int) => Option.bind (g_AI 2 (fun (j : Nat) => bif Nat.beq j 1 then d_1.1 else bif Nat.beq j 0 then x7 else x7) (fun (j : Nat) => bif Nat.beq j 1 then d_1.2 else bif Nat.beq j 0 then x8 else x8) true) fun (d_2 : Int × Int × Bool) => c (x0, x1, x2, IntKind.wrap .i64 (x3 + 1),
 d.2, x5, x6, d_2.1, d_2.2.1) else none else x (x0, x1, x2, x3, decide (x3 < x2), x4, x5, x6, x7, x8)
section
open Go.Ab.Rdr
def Q_AD_0 := (st (cons (ar (rc (cptr (nat 0) (ok' (nat 0)) (nat 1)))) (cons aund (cons aund (cons aund (cons aund (cons (ar (rc (cptr (nat 2) (ok' (nat 0)) (nat 2)))) (cons aund (cons aund (cons aund (cons aund (cons (ar (rc (csl (nat 1) (ok' (nat 0)) (szs hole) (nat 1) hole))) (cons (ar (rc (cf (fi .i64 hole)))) (cons (ar (rc (cf (fi .i64 hole)))) (cons aund (cons aund (cons aund (cons aund (cons aund (cons aund (cons aund (cons aund (cons aund (cons aund (cons aund (cons aund (cons aund (cons aund (cons aund (cons aund (cons aund (cons aund (cons aund (cons aund (cons aund (cons aund (cons aund (cons aund (cons aund (cons aund nil))))))))))))))))))))))))))))))))))))))) (cons (some' (cons (gc (cf (fb hole))) nil)) (cons (some' (cons (ga (szs hole) (cons (ki .i64 hole) nil)) nil)) (cons (some' (cons (gc (cf (fi .i64 hole))) (cons (gc (cf (fi .u64 hole))) nil))) nil))) (cons (nat 0) nil))
end
theorem q_AD_0 : ∀ b, (Q_AD_0).em b = St.mk [AV.r (RV.c (CV.ptr 0 (Off.k 0) 1)), un, un, un, un, AV.r (RV.c (CV.ptr 2 (Off.k 0) 2)), un, un, un, un, AV.r (RV.c (CV.sl 1 (Off.k 0) (Sz.s b.1.c8.2.2.1.2.2.1) 1 b.1.c8.2.2.1.c4)), rI b.1.c8.2.2.2.1,
 rI b.1.c8.c4.1, un, un, un, un, un, un, un, un, un, un, un, un, un, un, un, un, un, un, un, un, un, un, un, un, un, un] [some [sB b.2.1.1.1],
 some [Sg.a (Sz.s b.2.1.2.1.1.1) [kI b.2.1.2.1.1.2.1]], some [sI b.2.1.2.2.1.1, sU b.2.1.2.2.1.2.1]] [0] := fun b => by kernel_rfl
def R_AD_0 (l : ∀ {ρ : Type}, (Nat × Bool × Int × Int × Bool × Nat × NI × Int × Int) → ((Nat × Bool × Int × Int × Bool × Bool × Nat × NI × Int × Int) → Option ρ) → Option ρ) {ρ : Type} (s : St) (K : AX → St → Option ρ) : Option ρ := ((Q_AD_0).rd s).bind fun b => l (b.1.c8.2.2.1.2.2.1,
 b.1.c8.2.2.1.c4, b.1.c8.2.2.2.1, b.1.c8.c4.1, b.2.1.1.1, b.2.1.2.1.1.1, b.2.1.2.1.1.2.1, b.2.1.2.2.1.1, b.2.1.2.2.1.2.1) (fun d => K (AX.ex 0) (St.mk [AV.r (RV.c (CV.ptr 0 (Off.k 0) 1)), un, un, un, un, AV.r (RV.c (CV.ptr 2 (Off.k 0) 2)),
 un, un, un, un, AV.r (RV.c (CV.sl 1 (Off.k 0) (Sz.s d.1) 1 d.2.1)), rI d.2.2.1, rI d.2.2.2.1, rB d.c4.1, un, un, un, un, un, un, un, un, un, un, un,
 un, un, un, un, un, un, un, un, un, un, un, un, un, un] [some [sB d.c4.2.1], some [Sg.a (Sz.s d.c4.2.2.1) [kI d.c4.2.2.2.1]], some [sI d.c8.1, sU d.c8.2]] [0]))
theorem ms_AD_0 {ρ σ : Type} (g_J : t23GN2) (g_BJ : t26GN2) (g_AI : t27GN2) (g_An : t21GN2) (g_Aa : t22GN2) (q : ρ → Option σ) (x0 : Nat) (x1 : Bool) (x2 : Int) (x3 : Int) (x4 : Bool) (x5 : Nat) (x6 : NI) (x7 : Int) (x8 : Int) (c : (Nat × Bool × Int × Int × Bool × Nat × NI × Int × Int) → Option ρ) (x : (Nat × Bool × Int × Int × Bool × Bool × Nat × NI × Int × Int) → Option ρ) : (S_AD_0 g_J g_BJ g_AI g_An g_Aa x0 x1 x2 x3 x4 x5 x6 x7 x8 c x).bind q = S_AD_0 g_J g_BJ g_AI g_An g_Aa x0 x1 x2 x3 x4 x5 x6 x7 x8 (fun d => (c d).bind q) (fun d => (x d).bind q) := by
  simp only [S_AD_0, bnd_cond, bnd_bind, bnd_none, bnd_sum]
def L_AD_0 {ρ : Type} (d : Nat × Bool × Int × Int × Bool × Nat × NI × Int × Int) (k : (Nat × Bool × Int × Int × Bool × Bool × Nat × NI × Int × Int) → Option ρ) : Option ρ := loopK (fun d c x => S_AD_0 f_J f_BJ f_AI f_An f_Aa d.1 d.2.1 d.2.2.1 d.2.2.2.1 d.c4.1 d.c4.2.1 d.c4.2.2.1 d.c4.2.2.2.1 d.c8 c x) 200 d k
theorem mL_AD_0 {ρ σ : Type} (q : ρ → Option σ) (d : Nat × Bool × Int × Int × Bool × Nat × NI × Int × Int) (k : (Nat × Bool × Int × Int × Bool × Bool × Nat × NI × Int × Int) → Option ρ) : (L_AD_0 d k).bind q = L_AD_0 d fun x => (k x).bind q := loopK_bind q (fun d c x => ms_AD_0 f_J f_BJ f_AI f_An f_Aa q d.1 d.2.1 d.2.2.1 d.2.2.2.1 d.c4.1 d.c4.2.1 d.c4.2.2.1 d.c4.2.2.2.1 d.c8 c x) k _ d
theorem ds_AD_0 {ρ : Type} (g_J : t23GN2) (g_BJ : t26GN2) (g_AI : t27GN2) (g_An : t21GN2) (g_Aa : t22GN2) (l_0 : ∀ {ρ : Type},
 (Nat × Bool × Int × Int × Bool × Nat × NI × Int × Int) → ((Nat × Bool × Int × Int × Bool × Bool × Nat × NI × Int × Int) → Option ρ) → Option ρ) (x0 : Nat) (x1 : Bool) (x2 : Int) (x3 : Int) (x4 : Bool) (x5 : Nat) (x6 : NI) (x7 : Int) (x8 : Int) (c : St → Option ρ) (K : AX → St →
 Option ρ) : runC Try.prog (envOf [(52, F_J g_J), (62, F_BJ g_BJ), (61, F_AI g_AI), (63, F_An g_An), (64, F_Aa g_Aa)]) ⟨[⟨3, u4GN2, []⟩], [⟨3, 2, @R_AD_0 (@l_0)⟩], [0], [], (some ⟨0,
 u5GN2, []⟩)⟩ (tmpsOf Try.prog 36) 2 200 (loopIn Try.prog 36 3) (St.mk [AV.r (RV.c (CV.ptr 0 (Off.k 0) 1)), un, un, un, un, AV.r (RV.c (CV.ptr 2 (Off.k 0) 2)),
 un, un, un, un, AV.r (RV.c (CV.sl 1 (Off.k 0) (Sz.s x0) 1 x1)), rI x2, rI x3, un, un, un, un, un, un, un, un, un, un, un, un, un, un, un, un, un, un,
 un, un, un, un, un, un, un, un] [some [sB x4], some [Sg.a (Sz.s x5) [kI x6]], some [sI x7, sU x8]] [0]) (next (fun t => t.head 2 ⟨[⟨3, u4GN2, []⟩], [⟨3, 2, @R_AD_0 (@l_0)⟩], [0], [], (some ⟨0, u5GN2, []⟩)⟩ (loopIn Try.prog 36 3)) c K) = S_AD_0 g_J g_BJ g_AI g_An g_Aa x0 x1 x2 x3 x4 x5 x6 x7 x8 (fun d => c (St.mk [AV.r (RV.c (CV.ptr 0 (Off.k 0) 1)),
 un, un, un, un, AV.r (RV.c (CV.ptr 2 (Off.k 0) 2)), un, un, un, un, AV.r (RV.c (CV.sl 1 (Off.k 0) (Sz.s d.1) 1 d.2.1)), rI d.2.2.1, rI d.2.2.2.1, un, un, un, un, un, un, un,
 un, un, un, un, un, un, un, un, un, un, un, un, un, un, un, un, un, un, un] [some [sB d.c4.1], some [Sg.a (Sz.s d.c4.2.1) [kI d.c4.2.2.1]], some [sI d.c4.2.2.2.1,
 sU d.c8]] [0])) (fun d => K (AX.ex 0) (St.mk [AV.r (RV.c (CV.ptr 0 (Off.k 0) 1)), un, un, un, un, AV.r (RV.c (CV.ptr 2 (Off.k 0) 2)), un, un, un, un, AV.r (RV.c (CV.sl 1 (Off.k 0) (Sz.s d.1) 1 d.2.1)), rI d.2.2.1,
 rI d.2.2.2.1, rB d.c4.1, un, un, un, un, un, un, un, un, un, un, un, un, un, un, un, un, un, un, un, un, un, un, un, un, un] [some [sB d.c4.2.1],
 some [Sg.a (Sz.s d.c4.2.2.1) [kI d.c4.2.2.2.1]], some [sI d.c8.1, sU d.c8.2]] [0])) := by kernel_rfl
theorem it_AD_0 {ρ : Type} (x0 : Nat) (x1 : Bool) (x2 : Int) (x3 : Int) (x4 : Bool) (x5 : Nat) (x6 : NI) (x7 : Int) (x8 : Int) (K : AX → St → Option ρ) : iter (fun t => t.head 2 ⟨[⟨3, u4GN2, []⟩], [⟨3, 2, @R_AD_0 (@L_AD_0)⟩], [0], [], (some ⟨0, u5GN2, []⟩)⟩ (loopIn Try.prog 36 3)) (runC Try.prog (envOf [(52, F_J f_J), (62, F_BJ f_BJ),
 (61, F_AI f_AI), (63, F_An f_An), (64, F_Aa f_Aa)]) ⟨[⟨3, u4GN2, []⟩], [⟨3, 2, @R_AD_0 (@L_AD_0)⟩], [0], [], (some ⟨0, u5GN2, []⟩)⟩ (tmpsOf Try.prog 36) 2 200 (loopIn Try.prog 36 3)) K 200 (St.mk [AV.r (RV.c (CV.ptr 0 (Off.k 0) 1)), un, un, un, un, AV.r (RV.c (CV.ptr 2 (Off.k 0) 2)), un, un, un, un, AV.r (RV.c (CV.sl 1 (Off.k 0) (Sz.s x0) 1 x1)),
 rI x2, rI x3, un, un, un, un, un, un, un, un, un, un, un, un, un, un, un, un, un, un, un, un, un, un, un, un, un, un] [some [sB x4],
 some [Sg.a (Sz.s x5) [kI x6]], some [sI x7, sU x8]] [0]) = L_AD_0 (x0, x1, x2, x3, x4, x5, x6, x7, x8) (fun d => K (AX.ex 0) (St.mk [AV.r (RV.c (CV.ptr 0 (Off.k 0) 1)), un, un, un, un, AV.r (RV.c (CV.ptr 2 (Off.k 0) 2)),
 un, un, un, un, AV.r (RV.c (CV.sl 1 (Off.k 0) (Sz.s d.1) 1 d.2.1)), rI d.2.2.1, rI d.2.2.2.1, rB d.c4.1, un, un, un, un, un, un, un, un, un, un, un,
 un, un, un, un, un, un, un, un, un, un, un, un, un, un] [some [sB d.c4.2.1], some [Sg.a (Sz.s d.c4.2.2.1) [kI d.c4.2.2.2.1]], some [sI d.c8.1, sU d.c8.2]] [0])) := iter_loopX (emb := fun (d : Nat ×
 Bool × Int × Int × Bool × Nat × NI × Int × Int) => St.mk [AV.r (RV.c (CV.ptr 0 (Off.k 0) 1)), un, un, un, un, AV.r (RV.c (CV.ptr 2 (Off.k 0) 2)), un, un, un, un, AV.r (RV.c (CV.sl 1 (Off.k 0) (Sz.s d.1) 1 d.2.1)), rI d.2.2.1,
 rI d.2.2.2.1, un, un, un, un, un, un, un, un, un, un, un, un, un, un, un, un, un, un, un, un, un, un, un, un, un, un] [some [sB d.c4.1], some [Sg.a (Sz.s d.c4.2.1) [kI d.c4.2.2.1]],
 some [sI d.c4.2.2.2.1, sU d.c8]] [0]) (step := fun d c x => S_AD_0 f_J f_BJ f_AI f_An f_Aa d.1 d.2.1 d.2.2.1 d.2.2.2.1 d.c4.1 d.c4.2.1 d.c4.2.2.1 d.c4.2.2.2.1 d.c8 c x) (kx := (fun d => K (AX.ex 0) (St.mk [AV.r (RV.c (CV.ptr 0 (Off.k 0) 1)),
 un, un, un, un, AV.r (RV.c (CV.ptr 2 (Off.k 0) 2)), un, un, un, un, AV.r (RV.c (CV.sl 1 (Off.k 0) (Sz.s d.1) 1 d.2.1)), rI d.2.2.1, rI d.2.2.2.1, rB d.c4.1, un, un,
 un, un, un, un, un, un, un, un, un, un, un, un, un, un, un, un, un, un, un, un, un, un, un] [some [sB d.c4.2.1], some [Sg.a (Sz.s d.c4.2.2.1) [kI d.c4.2.2.2.1]], some [sI d.c8.1,
 sU d.c8.2]] [0]))) (fun d c => ds_AD_0 f_J f_BJ f_AI f_An f_Aa (@L_AD_0) d.1 d.2.1 d.2.2.1 d.2.2.2.1 d.c4.1 d.c4.2.1 d.c4.2.2.1 d.c4.2.2.2.1 d.c8 c K) 200 (x0, x1, x2, x3, x4, x5, x6, x7, x8)
theorem so_AD_0 [Amb] : ∀ kk, SumOK Try.prog (envOf [(52, F_J f_J), (62, F_BJ f_BJ), (61, F_AI f_AI), (63, F_An f_An), (64, F_Aa f_Aa)]) ⟨[⟨3, u4GN2, []⟩], [⟨3, 2, @R_AD_0 (@L_AD_0)⟩],
 [0], [], (some ⟨0, u5GN2, []⟩)⟩ (tmpsOf Try.prog 36) kk 200 (loopIn Try.prog 36 3) := SumOK.of (id := 3) (k0 := 2) (run := @R_AD_0 (@L_AD_0)) (by kernel_rfl) fun s K r hr => by
    unfold R_AD_0 at hr
    obtain ⟨b, hb, hr1⟩ := Option.bind_eq_some_iff.1 hr
    have e := ((Q_AD_0).ok s b hb).trans (q_AD_0 b)
    subst e
    exact ⟨200, (it_AD_0 b.1.c8.2.2.1.2.2.1 b.1.c8.2.2.1.c4 b.1.c8.2.2.2.1 b.1.c8.c4.1 b.2.1.1.1 b.2.1.2.1.1.1 b.2.1.2.1.1.2.1 b.2.1.2.2.1.1 b.2.1.2.2.1.2.1 K).trans hr1⟩
def K_AD {ρ : Type} (g_J : t23GN2) (g_BJ : t26GN2) (g_AI : t27GN2) (g_An : t21GN2) (g_Aa : t22GN2) (l_0 : ∀ {ρ : Type}, (Nat ×
 Bool × Int × Int × Bool × Nat × NI × Int × Int) → ((Nat × Bool × Int × Int × Bool × Bool × Nat × NI × Int × Int) → Option ρ) → Option ρ) (x0 : Nat) (x1 : Bool) (x2 : NI) (w0 : Bool) (k : (Int × Bool) → Option ρ) : Option ρ := l_0 (x0, w0, Int.ofNat x0, 0, x1, x0, x2, 0, 0) fun (d : Nat ×
 Bool × Int × Int × Bool × Bool × Nat × NI × Int × Int) => Option.bind (g_An d.c8.1 d.c8.2 0) fun (d_1 : Int × Bool) => Option.bind (g_Aa d_1.1 d_1.2 (decide (d.c8.1 < 0)) d.c4.2.1) fun (d : Int × Bool) => k (d.1, d.2)
def f_AD (x0 : Nat) (x1 : Bool) (x2 : NI) (w0 : Bool) : Option (Int × Bool) := K_AD f_J f_BJ f_AI f_An f_Aa (@L_AD_0) x0 x1 x2 w0 some
section
open Go.Ab.Rdr
def QA_AD := ((pair (cons (ar (rc (cptr (nat 0) (ok' (nat 0)) (nat 1)))) (cons (ar (rc (csl (nat 1) (ok' (nat 0)) (szs hole) (nat 1) hole))) nil)) (cons (cons (gc (cf (fb hole))) nil) (cons (cons (ga (szs hole) (cons (ki .i64 hole) nil)) nil) nil))) : Rdr (List AV × List Blk) _)
end
def F0_AD (f : (Nat) → (Bool) → NI → (Bool) → Option (Int × Bool)) : Sem1 := fun args h => match (QA_AD).rd (args, h) with
  | some b => .test (Nat.beq b.2.2.1.1.1 b.1.2.1.2.2.1) (.opt (f b.1.2.1.2.2.1 b.2.1.1 b.2.2.1.1.2.1 b.1.2.1.c4) fun (d : Int × Bool) => .leaf (Res.mk (rI d.1) [Ch.set [sB d.2], Ch.keep] [])) .fail
  | none => .fail
def F_AD (f : (Nat) → (Bool) → NI → (Bool) → Option (Int × Bool)) : Sem1 := (nilF 1 [.i .i64] (F0_AD f))
theorem d_AD (g_J : t23GN2) (g_BJ : t26GN2) (g_AI : t27GN2) (g_An : t21GN2) (g_Aa : t22GN2) (l_0 : ∀ {ρ : Type}, (Nat × Bool ×
 Int × Int × Bool × Nat × NI × Int × Int) → ((Nat × Bool × Int × Int × Bool × Bool × Nat × NI × Int × Int) → Option ρ) → Option ρ) (x0 : Nat) (x1 : Bool) (x2 : NI) (w0 : Bool) : den Try.prog (envOf [(52, F_J g_J), (62, F_BJ g_BJ), (61, F_AI g_AI), (63, F_An g_An), (64, F_Aa g_Aa)]) ⟨[⟨3,
 u4GN2, []⟩], [⟨3, 2, @R_AD_0 (@l_0)⟩], [0], [], (some ⟨0, u5GN2, []⟩)⟩ 200 36 [.r (.c (.ptr 0 (.k 0) 1)), .r (.c (.sl 1 (.k 0) (.s x0) 1 w0))] [[.c (.f (.b x1))], [.a (.s x0) [.i .i64 x2]]] = K_AD g_J g_BJ g_AI g_An g_Aa (@l_0) x0 x1 x2 w0 (fun (d : Int × Bool) => some (Res.mk (rI d.1) [Ch.set [sB d.2],
 Ch.keep] [])) := by kernel_rfl
theorem m_AD {ρ σ : Type} (q : ρ → Option σ) (g_J : t23GN2) (g_BJ : t26GN2) (g_AI : t27GN2) (g_An : t21GN2) (g_Aa : t22GN2) (l_0 : ∀ {ρ : Type}, (Nat × Bool × Int × Int × Bool × Nat × NI × Int × Int) → ((Nat × Bool × Int × Int × Bool × Bool × Nat × NI × Int × Int) → Option ρ) → Option ρ) (hl_0 : ∀ {ρ σ : Type} (q : ρ → Option σ) (d : Nat × Bool × Int × Int × Bool × Nat × NI × Int × Int) (k : (Nat × Bool × Int × Int × Bool × Bool × Nat × NI × Int × Int) → Option ρ), (l_0 d k).bind q = l_0 d fun x => (k x).bind q) (x0 : Nat) (x1 : Bool) (x2 : NI) (w0 : Bool) (k : (Int × Bool) → Option ρ) : (K_AD g_J g_BJ g_AI g_An g_Aa (@l_0) x0 x1 x2 w0 k).bind q = K_AD g_J g_BJ g_AI g_An g_Aa (@l_0) x0 x1 x2 w0 (fun d => (k d).bind q) := by
  simp only [K_AD, bnd_cond, bnd_bind, bnd_none, bnd_sum, hl_0]
theorem qa_AD : ∀ b, (QA_AD).em b = ([.r (.c (.ptr 0 (.k 0) 1)), .r (.c (.sl 1 (.k 0) (.s b.1.2.1.2.2.1) 1 b.1.2.1.c4))], [[.c (.f (.b b.2.1.1))], [.a (.s b.2.2.1.1.1) [.i .i64 b.2.2.1.1.2.1]]]) := fun b => by kernel_rfl
theorem e_AD {f : (Nat) → (Bool) → NI → (Bool) → Option (Int × Bool)} {args : List AV} {h : List Blk} {r : Res} (hr : (F0_AD f args h).eval = some r) : ∃ x0 x1 x2 w0, args = [.r (.c (.ptr 0 (.k 0) 1)), .r (.c (.sl 1 (.k 0) (.s x0) 1 w0))] ∧ h = [[.c (.f (.b x1))], [.a (.s x0) [.i .i64 x2]]] ∧ (f x0 x1 x2 w0).bind (fun (d : Int × Bool) => some (Res.mk (rI d.1) [Ch.set [sB d.2], Ch.keep] [])) = some r := by
  unfold F0_AD at hr
  split at hr
  · rename_i b hb
    have e := ((QA_AD).ok _ _ hb).trans (qa_AD b)
    obtain ⟨he, hr1⟩ := test_eval hr
    clear hr
    have hr := hr1
    clear hr1
    rw [Nat.eq_of_beq_eq_true he] at e
    clear he
    rw [opt_eval2] at hr
    exact ⟨b.1.2.1.2.2.1, b.2.1.1, b.2.2.1.1.2.1, b.1.2.1.c4, (Prod.mk.inj e).1, (Prod.mk.inj e).2, hr⟩
  · cases hr
theorem n_AD {σ : Type} (q : (Int × Bool) → Option σ) (x0 : Nat) (x1 : Bool) (x2 : NI) (w0 : Bool) : (f_AD x0 x1 x2 w0).bind q = K_AD f_J f_BJ f_AI f_An f_Aa (@L_AD_0) x0 x1 x2 w0 q := by
  unfold f_AD
  exact m_AD q f_J f_BJ f_AI f_An f_Aa (@L_AD_0) (fun q d k => mL_AD_0 q d k) x0 x1 x2 w0 some
theorem s_AD [Amb] : Sound Try.prog 36 (F_AD f_AD) := Sound.nil 1 [.i .i64] <| (inl_sums (l := [(52, F_J f_J), (62, F_BJ f_BJ), (61, F_AI f_AI), (63, F_An f_An), (64, F_Aa f_Aa)]) (.cons s_J (.cons s_BJ (.cons s_AI (.cons s_An (.cons s_Aa (.nil _)))))) mixed (hs := ⟨[⟨3, u4GN2, []⟩], [⟨3, 2, @R_AD_0 (@L_AD_0)⟩], [0], [], (some ⟨0, u5GN2, []⟩)⟩) (lf := 200) (Sums.by (l := [loopIn Try.prog 36 3]) (lj := []) (by kernel_rfl) ⟨so_AD_0,
 trivial⟩ (by kernel_rfl) trivial) (by kernel_rfl)).by (F := F0_AD f_AD) fun args b r hr => by
  obtain ⟨x0, x1, x2, w0, rfl, rfl, hr1⟩ := e_AD hr
  exact inl_eval ((d_AD f_J f_BJ f_AI f_An f_Aa (@L_AD_0) x0 x1 x2 w0).trans ((n_AD (fun (d : Int × Bool) => some (Res.mk (rI d.1) [Ch.set [sB d.2], Ch.keep] [])) x0 x1 x2 w0).symm.trans hr1))

def S_AJ_0 {ρ : Type} (g_Ac : t20GN2) (g_AD : t28GN2) (x0 : Int) (x1 : Int) (x2 : Nat) (x3 : Bool) (x4 : Int) (x5 : Int) (x6 : Bool) (x7 : Nat) (x8 : NI) (c : (Int × Int × Nat × Bool × Int × Int × Bool × Nat × NI) → Option ρ) (x : (Int × Int × Nat × Bool × Int × Int × Bool × Bool × Nat × NI) → Option ρ) : Option ρ := bif decide (x5 < x4) then bif inR x5 x2 then Option.bind (g_Ac x0 x1 x6) fun (d : Int × Bool) => Option.bind (g_AD 2 d.2 (fun (j : Nat) => bif Nat.beq j 1 then d.1 else bif Nat.beq j 0 then
 x8 (1 + Int.toNat x5) else x8 (1 + Int.toNat x5)) true) fun (d : Int × Bool) => c (x0, d.1, x2, x3, x4, IntKind.wrap .i64 (x5 + 1), d.2, x7, x8) else none else x (x0, x1, x2, x3, x4, x5, decide (x5 < x4), x6, x7, x8)
section
open Go.Ab.Rdr
def Q_AJ_0 := (st (cons (ar (rc (cptr (nat 0) (ok' (nat 0)) (nat 1)))) (cons (ar (rc (cf (fi .i64 hole)))) (cons aund (cons aund (cons aund (cons aund (cons aund (cons (ar (rc (cf (fi .i64 hole)))) (cons aund (cons aund (cons aund (cons aund (cons aund (cons aund (cons (ar (rc (csl (nat 1) (ox (nat 0) (nat 1) (nat 1)) (szs hole) (nat 1) hole))) (cons (ar (rc (cf (fi .i64 hole)))) (cons (ar (rc (cf (fi .i64 hole)))) (cons aund (cons aund (cons aund (cons aund (cons aund (cons aund (cons aund (cons aund (cons aund (cons aund (cons aund (cons aund (cons aund nil)))))))))))))))))))))))))))))) (cons (some' (cons (gc (cf (fb hole))) nil)) (cons (some' (cons (ga (szs hole) (cons (ki .i64 hole) nil)) nil)) nil)) (cons (nat 0) nil))
end
theorem q_AJ_0 : ∀ b, (Q_AJ_0).em b = St.mk [AV.r (RV.c (CV.ptr 0 (Off.k 0) 1)), rI b.1.2.1, un, un, un, un, un, rI b.1.c4.2.2.2.1, un, un, un, un, un, un, AV.r (RV.c (CV.sl 1 (Off.x 0 1 1) (Sz.s b.1.c8.c4.2.2.1.2.2.1) 1 b.1.c8.c4.2.2.1.c4)),
 rI b.1.c8.c4.2.2.2.1, rI b.1.c16.1, un, un, un, un, un, un, un, un, un, un, un, un, un] [some [sB b.2.1.1.1], some [Sg.a (Sz.s b.2.1.2.1.1.1) [kI b.2.1.2.1.1.2.1]]] [0] := fun b => by kernel_rfl
def R_AJ_0 (l : ∀ {ρ : Type}, (Int × Int × Nat × Bool × Int × Int × Bool × Nat × NI) → ((Int × Int × Nat × Bool × Int × Int × Bool × Bool × Nat × NI) → Option ρ) → Option ρ) {ρ : Type} (s : St) (K : AX → St → Option ρ) : Option ρ := ((Q_AJ_0).rd s).bind fun b => l (b.1.2.1, b.1.c4.2.2.2.1,
 b.1.c8.c4.2.2.1.2.2.1, b.1.c8.c4.2.2.1.c4, b.1.c8.c4.2.2.2.1, b.1.c16.1, b.2.1.1.1, b.2.1.2.1.1.1, b.2.1.2.1.1.2.1) (fun d => K (AX.ex 0) (St.mk [AV.r (RV.c (CV.ptr 0 (Off.k 0) 1)), rI d.1,
 un, un, un, un, un, rI d.2.1, un, un, un, un, un, un, AV.r (RV.c (CV.sl 1 (Off.x 0 1 1) (Sz.s d.2.2.1) 1 d.2.2.2.1)), rI d.c4.1, rI d.c4.2.1,
 rB d.c4.2.2.1, un, un, un, un, un, un, un, un, un, un, un, un] [some [sB d.c4.2.2.2.1], some [Sg.a (Sz.s d.c8.1) [kI d.c8.2]]] [0]))
theorem ms_AJ_0 {ρ σ : Type} (g_Ac : t20GN2) (g_AD : t28GN2) (q : ρ → Option σ) (x0 : Int) (x1 : Int) (x2 : Nat) (x3 : Bool) (x4 : Int) (x5 : Int) (x6 : Bool) (x7 : Nat) (x8 : NI) (c : (Int × Int × Nat × Bool × Int × Int × Bool × Nat × NI) → Option ρ) (x : (Int × Int × Nat × Bool × Int × Int × Bool × Bool × Nat × NI) → Option ρ) : (S_AJ_0 g_Ac g_AD x0 x1 x2 x3 x4 x5 x6 x7 x8 c x).bind q = S_AJ_0 g_Ac g_AD x0 x1 x2 x3 x4 x5 x6 x7 x8 (fun d => (c d).bind q) (fun d => (x d).bind q) := by
  simp only [S_AJ_0, bnd_cond, bnd_bind, bnd_none, bnd_sum]
def L_AJ_0 {ρ : Type} (d : Int × Int × Nat × Bool × Int × Int × Bool × Nat × NI) (k : (Int × Int × Nat × Bool × Int × Int × Bool × Bool × Nat × NI) → Option ρ) : Option ρ := loopK (fun d c x => S_AJ_0 f_Ac f_AD d.1 d.2.1 d.2.2.1 d.2.2.2.1 d.c4.1 d.c4.2.1 d.c4.2.2.1 d.c4.2.2.2.1 d.c8 c x) 200 d k
theorem mL_AJ_0 {ρ σ : Type} (q : ρ → Option σ) (d : Int × Int × Nat × Bool × Int × Int × Bool × Nat × NI) (k : (Int × Int × Nat × Bool × Int × Int × Bool × Bool × Nat × NI) → Option ρ) : (L_AJ_0 d k).bind q = L_AJ_0 d fun x => (k x).bind q := loopK_bind q (fun d c x => ms_AJ_0 f_Ac f_AD q d.1 d.2.1 d.2.2.1 d.2.2.2.1 d.c4.1 d.c4.2.1 d.c4.2.2.1 d.c4.2.2.2.1 d.c8 c x) k _ d
theorem ds_AJ_0 {ρ : Type} (g_Ac : t20GN2) (g_AD : t28GN2) (l_0 : ∀ {ρ : Type}, (Int × Int × Nat × Bool × Int × Int × Bool × Nat × NI) → ((Int × Int × Nat × Bool × Int × Int × Bool × Bool × Nat × NI) → Option ρ) →
 Option ρ) (x0 : Int) (x1 : Int) (x2 : Nat) (x3 : Bool) (x4 : Int) (x5 : Int) (x6 : Bool) (x7 : Nat) (x8 : NI) (c : St → Option ρ) (K : AX → St → Option ρ) : runC Try.prog (envOf [(56, F_Ac g_Ac), (36, F_AD g_AD)]) ⟨[⟨3, u6GN2, []⟩], [⟨3, 2, @R_AJ_0 (@l_0)⟩], [0], [], (some ⟨0, u7GN2, []⟩)⟩ (tmpsOf Try.prog 57) 2 200 (loopIn Try.prog 57 3) (St.mk [AV.r (RV.c (CV.ptr 0 (Off.k 0) 1)), rI x0,
 un, un, un, un, un, rI x1, un, un, un, un, un, un, AV.r (RV.c (CV.sl 1 (Off.x 0 1 1) (Sz.s x2) 1 x3)), rI x4, rI x5, un, un, un, un, un,
 un, un, un, un, un, un, un, un] [some [sB x6], some [Sg.a (Sz.s x7) [kI x8]]] [0]) (next (fun t => t.head 2 ⟨[⟨3, u6GN2, []⟩], [⟨3, 2, @R_AJ_0 (@l_0)⟩], [0],
 [], (some ⟨0, u7GN2, []⟩)⟩ (loopIn Try.prog 57 3)) c K) = S_AJ_0 g_Ac g_AD x0 x1 x2 x3 x4 x5 x6 x7 x8 (fun d => c (St.mk [AV.r (RV.c (CV.ptr 0 (Off.k 0) 1)), rI d.1,
 un, un, un, un, un, rI d.2.1, un, un, un, un, un, un, AV.r (RV.c (CV.sl 1 (Off.x 0 1 1) (Sz.s d.2.2.1) 1 d.2.2.2.1)), rI d.c4.1, rI d.c4.2.1,
 un, un, un, un, un, un, un, un, un, un, un, un, un] [some [sB d.c4.2.2.1], some [Sg.a (Sz.s d.c4.2.2.2.1) [kI d.c8]]] [0])) (fun d => K (AX.ex 0) (St.mk [AV.r (RV.c (CV.ptr 0 (Off.k 0) 1)), rI d.1,
 un, un, un, un, un, rI d.2.1, un, un, un, un, un, un, AV.r (RV.c (CV.sl 1 (Off.x 0 1 1) (Sz.s d.2.2.1) 1 d.2.2.2.1)), rI d.c4.1, rI d.c4.2.1,
 rB d.c4.2.2.1, un, un, un, un, un, un, un, un, un, un, un, un] [some [sB d.c4.2.2.2.1], some [Sg.a (Sz.s d.c8.1) [kI d.c8.2]]] [0])) := by kernel_rfl
theorem it_AJ_0 {ρ : Type} (x0 : Int) (x1 : Int) (x2 : Nat) (x3 : Bool) (x4 : Int) (x5 : Int) (x6 : Bool) (x7 : Nat) (x8 : NI) (K : AX → St → Option ρ) : iter (fun t => t.head 2 ⟨[⟨3, u6GN2, []⟩], [⟨3, 2, @R_AJ_0 (@L_AJ_0)⟩],
 [0], [], (some ⟨0, u7GN2, []⟩)⟩ (loopIn Try.prog 57 3)) (runC Try.prog (envOf [(56, F_Ac f_Ac), (36, F_AD f_AD)]) ⟨[⟨3, u6GN2, []⟩], [⟨3, 2, @R_AJ_0 (@L_AJ_0)⟩], [0], [], (some ⟨0, u7GN2, []⟩)⟩ (tmpsOf Try.prog 57) 2 200 (loopIn Try.prog 57 3)) K 200 (St.mk [AV.r (RV.c (CV.ptr 0 (Off.k 0) 1)), rI x0,
 un, un, un, un, un, rI x1, un, un, un, un, un, un, AV.r (RV.c (CV.sl 1 (Off.x 0 1 1) (Sz.s x2) 1 x3)), rI x4, rI x5, un, un, un, un, un,
 un, un, un, un, un, un, un, un] [some [sB x6], some [Sg.a (Sz.s x7) [kI x8]]] [0]) = L_AJ_0 (x0, x1, x2, x3, x4, x5, x6, x7, x8) (fun d => K (AX.ex 0) (St.mk [AV.r (RV.c (CV.ptr 0 (Off.k 0) 1)), rI d.1,
 un, un, un, un, un, rI d.2.1, un, un, un, un, un, un, AV.r (RV.c (CV.sl 1 (Off.x 0 1 1) (Sz.s d.2.2.1) 1 d.2.2.2.1)), rI d.c4.1, rI d.c4.2.1,
 rB d.c4.2.2.1, un, un, un, un, un, un, un, un, un, un, un, un] [some [sB d.c4.2.2.2.1], some [Sg.a (Sz.s d.c8.1) [kI d.c8.2]]] [0])) := iter_loopX (emb := fun (d : Int ×
 Int × Nat × Bool × Int × Int × Bool × Nat × NI) => St.mk [AV.r (RV.c (CV.ptr 0 (Off.k 0) 1)), rI d.1, un, un, un, un, un, rI d.2.1, un, un, un, un, un, un, AV.r (RV.c (CV.sl 1 (Off.x 0 1 1) (Sz.s d.2.2.1) 1 d.2.2.2.1)),
 rI d.c4.1, rI d.c4.2.1, un, un, un, un, un, un, un, un, un, un, un, un, un] [some [sB d.c4.2.2.1], some [Sg.a (Sz.s d.c4.2.2.2.1) [kI d.c8]]] [0]) (step := fun d c x => S_AJ_0 f_Ac f_AD d.1 d.2.1 d.2.2.1 d.2.2.2.1 d.c4.1 d.c4.2.1 d.c4.2.2.1 d.c4.2.2.2.1 d.c8 c x) (kx := (fun d => K (AX.ex 0) (St.mk [AV.r (RV.c (CV.ptr 0 (Off.k 0) 1)),
 rI d.1, un, un, un, un, un, rI d.2.1, un, un, un, un, un, un, AV.r (RV.c (CV.sl 1 (Off.x 0 1 1) (Sz.s d.2.2.1) 1 d.2.2.2.1)), rI d.c4.1, rI d.c4.2.1,
 rB d.c4.2.2.1, un, un, un, un, un, un, un, un, un, un, un, un] [some [sB d.c4.2.2.2.1], some [Sg.a (Sz.s d.c8.1) [kI d.c8.2]]] [0]))) (fun d c => ds_AJ_0 f_Ac f_AD (@L_AJ_0) d.1 d.2.1 d.2.2.1 d.2.2.2.1 d.c4.1 d.c4.2.1 d.c4.2.2.1 d.c4.2.2.2.1 d.c8 c K) 200 (x0,
 x1, x2, x3, x4, x5, x6, x7, x8)
theorem so_AJ_0 [Amb] : ∀ kk, SumOK Try.prog (envOf [(56, F_Ac f_Ac), (36, F_AD f_AD)]) ⟨[⟨3, u6GN2, []⟩], [⟨3, 2, @R_AJ_0 (@L_AJ_0)⟩], [0], [], (some ⟨0, u7GN2, []⟩)⟩ (tmpsOf Try.prog 57) kk 200 (loopIn Try.prog 57 3) := SumOK.of (id := 3) (k0 := 2) (run := @R_AJ_0 (@L_AJ_0)) (by kernel_rfl) fun s K r hr => by
    unfold R_AJ_0 at hr
    obtain ⟨b, hb, hr1⟩ := Option.bind_eq_some_iff.1 hr
    have e := ((Q_AJ_0).ok s b hb).trans (q_AJ_0 b)
    subst e
    exact ⟨200, (it_AJ_0 b.1.2.1 b.1.c4.2.2.2.1 b.1.c8.c4.2.2.1.2.2.1 b.1.c8.c4.2.2.1.c4 b.1.c8.c4.2.2.2.1 b.1.c16.1 b.2.1.1.1 b.2.1.2.1.1.1 b.2.1.2.1.1.2.1 K).trans hr1⟩
def K_AJ {ρ : Type} (g_Ac : t20GN2) (g_AD : t28GN2) (l_0 : ∀ {ρ : Type}, (Int × Int × Nat × Bool × Int × Int × Bool × Nat × NI) → ((Int × Int × Nat × Bool × Int × Int × Bool × Bool × Nat × NI) → Option ρ) →
 Option ρ) (x0 : Int) (x1 : Nat) (x2 : Bool) (x3 : NI) (w0 : Bool) (k : (Int × Bool) → Option ρ) : Option ρ := bif inR 0 x1 then bif inRe 1 x1 then l_0 (x0, x3 0, x1 - 1, w0 && true, Int.ofNat (x1 - 1), 0, x2, x1, x3) fun (d : Int × Int × Nat × Bool × Int × Int × Bool × Bool × Nat × NI) => k (d.2.1,
 d.c4.2.2.2.1) else none else none
def f_AJ (x0 : Int) (x1 : Nat) (x2 : Bool) (x3 : NI) (w0 : Bool) : Option (Int × Bool) := K_AJ f_Ac f_AD (@L_AJ_0) x0 x1 x2 x3 w0 some
section
open Go.Ab.Rdr
def QA_AJ := ((pair (cons (ar (rc (cptr (nat 0) (ok' (nat 0)) (nat 1)))) (cons (ar (rc (cf (fi .i64 hole)))) (cons (ar (rc (csl (nat 1) (ok' (nat 0)) (szs hole) (nat 1) hole))) nil))) (cons (cons (gc (cf (fb hole))) nil) (cons (cons (ga (szs hole) (cons (ki .i64 hole) nil)) nil) nil))) : Rdr (List AV × List Blk) _)
end
def F0_AJ (f : (Int) → (Nat) → (Bool) → NI → (Bool) → Option (Int × Bool)) : Sem1 := fun args h => match (QA_AJ).rd (args, h) with
  | some b => .test (Nat.beq b.2.2.1.1.1 b.1.2.2.1.2.2.1) (.opt (f b.1.2.1 b.1.2.2.1.2.2.1 b.2.1.1 b.2.2.1.1.2.1 b.1.2.2.1.c4) fun (d : Int × Bool) => .leaf (Res.mk (rI d.1) [Ch.set [sB d.2], Ch.keep] [])) .fail
  | none => .fail
def F_AJ (f : (Int) → (Nat) → (Bool) → NI → (Bool) → Option (Int × Bool)) : Sem1 := (nilF 2 [.i .i64] (F0_AJ f))
theorem d_AJ (g_Ac : t20GN2) (g_AD : t28GN2) (l_0 : ∀ {ρ : Type}, (Int × Int × Nat × Bool × Int × Int × Bool × Nat × NI) → ((Int × Int × Nat × Bool × Int × Int × Bool × Bool × Nat × NI) → Option ρ) → Option ρ) (x0 : Int) (x1 : Nat) (x2 : Bool) (x3 : Nat →
 Int) (w0 : Bool) : den Try.prog (envOf [(56, F_Ac g_Ac), (36, F_AD g_AD)]) ⟨[⟨3, u6GN2, []⟩], [⟨3, 2, @R_AJ_0 (@l_0)⟩], [0], [], (some ⟨0, u7GN2, []⟩)⟩ 200 57 [.r (.c (.ptr 0 (.k 0) 1)), rI x0, .r (.c (.sl 1 (.k 0) (.s x1) 1 w0))] [[.c (.f (.b x2))], [.a (.s x1) [.i .i64 x3]]] = K_AJ g_Ac g_AD (@l_0) x0 x1 x2 x3 w0 (fun (d : Int × Bool) => some (Res.mk (rI d.1) [Ch.set [sB d.2],
 Ch.keep] [])) := by kernel_rfl
theorem m_AJ {ρ σ : Type} (q : ρ → Option σ) (g_Ac : t20GN2) (g_AD : t28GN2) (l_0 : ∀ {ρ : Type}, (Int × Int × Nat × Bool × Int × Int × Bool × Nat × NI) → ((Int × Int × Nat × Bool × Int × Int × Bool × Bool × Nat × NI) → Option ρ) → Option ρ) (hl_0 : ∀ {ρ σ : Type} (q : ρ → Option σ) (d : Int × Int × Nat × Bool × Int × Int × Bool × Nat × NI) (k : (Int × Int × Nat × Bool × Int × Int × Bool × Bool × Nat × NI) → Option ρ), (l_0 d k).bind q = l_0 d fun x => (k x).bind q) (x0 : Int) (x1 : Nat) (x2 : Bool) (x3 : NI) (w0 : Bool) (k : (Int × Bool) → Option ρ) : (K_AJ g_Ac g_AD (@l_0) x0 x1 x2 x3 w0 k).bind q = K_AJ g_Ac g_AD (@l_0) x0 x1 x2 x3 w0 (fun d => (k d).bind q) := by
  simp only [K_AJ, bnd_cond, bnd_bind, bnd_none, bnd_sum, hl_0]
theorem qa_AJ : ∀ b, (QA_AJ).em b = ([.r (.c (.ptr 0 (.k 0) 1)), rI b.1.2.1, .r (.c (.sl 1 (.k 0) (.s b.1.2.2.1.2.2.1) 1 b.1.2.2.1.c4))], [[.c (.f (.b b.2.1.1))], [.a (.s b.2.2.1.1.1) [.i .i64 b.2.2.1.1.2.1]]]) := fun b => by kernel_rfl
theorem e_AJ {f : (Int) → (Nat) → (Bool) → NI → (Bool) → Option (Int × Bool)} {args : List AV} {h : List Blk} {r : Res} (hr : (F0_AJ f args h).eval = some r) : ∃ x0 x1 x2 x3 w0, args = [.r (.c (.ptr 0 (.k 0) 1)), rI x0, .r (.c (.sl 1 (.k 0) (.s x1) 1 w0))] ∧ h = [[.c (.f (.b x2))], [.a (.s x1) [.i .i64 x3]]] ∧ (f x0 x1 x2 x3 w0).bind (fun (d : Int × Bool) => some (Res.mk (rI d.1) [Ch.set [sB d.2], Ch.keep] [])) = some r := by
  unfold F0_AJ at hr
  split at hr
  · rename_i b hb
    have e := ((QA_AJ).ok _ _ hb).trans (qa_AJ b)
    obtain ⟨he, hr1⟩ := test_eval hr
    clear hr
    have hr := hr1
    clear hr1
    rw [Nat.eq_of_beq_eq_true he] at e
    clear he
    rw [opt_eval2] at hr
    exact ⟨b.1.2.1, b.1.2.2.1.2.2.1, b.2.1.1, b.2.2.1.1.2.1, b.1.2.2.1.c4, (Prod.mk.inj e).1, (Prod.mk.inj e).2, hr⟩
  · cases hr
theorem n_AJ {σ : Type} (q : (Int × Bool) → Option σ) (x0 : Int) (x1 : Nat) (x2 : Bool) (x3 : NI) (w0 : Bool) : (f_AJ x0 x1 x2 x3 w0).bind q = K_AJ f_Ac f_AD (@L_AJ_0) x0 x1 x2 x3 w0 q := by
  unfold f_AJ
  exact m_AJ q f_Ac f_AD (@L_AJ_0) (fun q d k => mL_AJ_0 q d k) x0 x1 x2 x3 w0 some
theorem s_AJ [Amb] : Sound Try.prog 57 (F_AJ f_AJ) := Sound.nil 2 [.i .i64] <| (inl_sums (l := [(56, F_Ac f_Ac), (36, F_AD f_AD)]) (.cons s_Ac (.cons s_AD (.nil _))) mixed (hs := ⟨[⟨3, u6GN2, []⟩], [⟨3, 2, @R_AJ_0 (@L_AJ_0)⟩],
 [0], [], (some ⟨0, u7GN2, []⟩)⟩) (lf := 200) (Sums.by (l := [loopIn Try.prog 57 3]) (lj := []) (by kernel_rfl) ⟨so_AJ_0, trivial⟩ (by kernel_rfl) trivial) (by kernel_rfl)).by (F := F0_AJ f_AJ) fun args b r hr => by
  obtain ⟨x0, x1, x2, x3, w0, rfl, rfl, hr1⟩ := e_AJ hr
  exact inl_eval ((d_AJ f_Ac f_AD (@L_AJ_0) x0 x1 x2 x3 w0).trans ((n_AJ (fun (d : Int × Bool) => some (Res.mk (rI d.1) [Ch.set [sB d.2], Ch.keep] [])) x0 x1 x2 x3 w0).symm.trans hr1))

def K_At {ρ : Type} (g_J : t23GN2) (g_Aw : t15GN2) (g_BK : t15GN2) (g_Ac : t20GN2) (g_AJ : t29GN2) (x0 : Int) (x1 : Bool) (k : (Int × Bool) → Option ρ) : Option ρ := Option.bind (g_J x0 x1) fun (d : Int ×
 Bool) => Option.bind (g_Aw d.1) fun (d_1 : Int) => bif decide (d_1 > 1686629713) then Option.bind (g_BK (IntKind.wrap .i64 (3373259426 - d_1))) fun (d_2 : Int) => bif decide (d_2 ≤ 843314857) then Option.bind (g_Ac (IntKind.wrap .i64 (3373259426 - d_1)) (IntKind.wrap .i64 (3373259426 - d_1)) d.2) fun (d : Int ×
 Bool) => Option.bind (g_AJ d.1 6 d.2 (fun (j : Nat) => bif Nat.beq j 5 then 1073741824 else bif Nat.beq j 4 then -178956971 else bif Nat.beq j 3 then 8947849 else bif Nat.beq j 2 then -213044 else bif Nat.beq j 1 then 2959 else bif Nat.beq j 0 then -27 else -27) true) fun (d : Int × Bool) => Option.bind (g_Ac (IntKind.wrap .i64 (3373259426 - d_1)) d.1 d.2) fun (d : Int ×
 Bool) => k (if 1073741824 < if -1073741824 > d.1 then -1073741824 else d.1 then 1073741824 else if -1073741824 > d.1 then -1073741824 else d.1, d.2) else Option.bind (g_Ac (IntKind.wrap .i64 (1686629713 - d_2)) (IntKind.wrap .i64 (1686629713 - d_2)) d.2) fun (d : Int × Bool) => Option.bind (g_AJ d.1 7 d.2 (fun (j : Nat) => bif Nat.beq j 6 then
 1073741824 else bif Nat.beq j 5 then -536870912 else bif Nat.beq j 4 then 44739243 else bif Nat.beq j 3 then -1491308 else bif Nat.beq j 2 then 26631 else bif Nat.beq j 1 then -296 else bif Nat.beq j 0 then 2 else 2) true) fun (d : Int × Bool) => bif decide (IntKind.wrap .i64 (3373259426 - d_1) < 0) then
 k (if 1073741824 < if -1073741824 > IntKind.wrap .i64 (0 - d.1) then -1073741824 else IntKind.wrap .i64 (0 - d.1) then 1073741824 else if -1073741824 > IntKind.wrap .i64 (0 - d.1) then -1073741824 else IntKind.wrap .i64 (0 - d.1), d.2) else k (if 1073741824 < if -1073741824 > d.1 then
 -1073741824 else d.1 then 1073741824 else if -1073741824 > d.1 then -1073741824 else d.1, d.2) else bif decide (d_1 < -1686629713) then Option.bind (g_BK (IntKind.wrap .i64 (-3373259426 - d_1))) fun (d_2 : Int) => bif decide (d_2 ≤ 843314857) then Option.bind (g_Ac (IntKind.wrap .i64 (-3373259426 - d_1)) (IntKind.wrap .i64 (-3373259426 - d_1)) d.2) fun (d : Int ×
 Bool) => Option.bind (g_AJ d.1 6 d.2 (fun (j : Nat) => bif Nat.beq j 5 then 1073741824 else bif Nat.beq j 4 then -178956971 else bif Nat.beq j 3 then 8947849 else bif Nat.beq j 2 then -213044 else bif Nat.beq j 1 then 2959 else bif Nat.beq j 0 then -27 else -27) true) fun (d : Int × Bool) => Option.bind (g_Ac (IntKind.wrap .i64 (-3373259426 - d_1)) d.1 d.2) fun (d : Int ×
 Bool) => k (if 1073741824 < if -1073741824 > d.1 then -1073741824 else d.1 then 1073741824 else if -1073741824 > d.1 then -1073741824 else d.1, d.2) else Option.bind (g_Ac (IntKind.wrap .i64 (1686629713 - d_2)) (IntKind.wrap .i64 (1686629713 - d_2)) d.2) fun (d : Int × Bool) => Option.bind (g_AJ d.1 7 d.2 (fun (j : Nat) => bif Nat.beq j 6 then
 1073741824 else bif Nat.beq j 5 then -536870912 else bif Nat.beq j 4 then 44739243 else bif Nat.beq j 3 then -1491308 else bif Nat.beq j 2 then 26631 else bif Nat.beq j 1 then -296 else bif Nat.beq j 0 then 2 else 2) true) fun (d : Int × Bool) => bif decide (IntKind.wrap .i64 (-3373259426 - d_1) < 0) then
 k (if 1073741824 < if -1073741824 > IntKind.wrap .i64 (0 - d.1) then -1073741824 else IntKind.wrap .i64 (0 - d.1) then 1073741824 else if -1073741824 > IntKind.wrap .i64 (0 - d.1) then -1073741824 else IntKind.wrap .i64 (0 - d.1), d.2) else k (if 1073741824 < if -1073741824 > d.1 then
 -1073741824 else d.1 then 1073741824 else if -1073741824 > d.1 then -1073741824 else d.1, d.2) else Option.bind (g_BK d_1) fun (d_2 : Int) => bif decide (d_2 ≤ 843314857) then Option.bind (g_Ac d_1 d_1 d.2) fun (d : Int × Bool) => Option.bind (g_AJ d.1 6 d.2 (fun (j : Nat) => bif Nat.beq j 5 then 1073741824 else
 bif Nat.beq j 4 then -178956971 else bif Nat.beq j 3 then 8947849 else bif Nat.beq j 2 then -213044 else bif Nat.beq j 1 then 2959 else bif Nat.beq j 0 then -27 else -27) true) fun (d : Int × Bool) => Option.bind (g_Ac d_1 d.1 d.2) fun (d : Int × Bool) => k (if 1073741824 < if -1073741824 > d.1 then
 -1073741824 else d.1 then 1073741824 else if -1073741824 > d.1 then -1073741824 else d.1, d.2) else Option.bind (g_Ac (IntKind.wrap .i64 (1686629713 - d_2)) (IntKind.wrap .i64 (1686629713 - d_2)) d.2) fun (d : Int × Bool) => Option.bind (g_AJ d.1 7 d.2 (fun (j : Nat) => bif Nat.beq j 6 then
 1073741824 else bif Nat.beq j 5 then -536870912 else bif Nat.beq j 4 then 44739243 else bif Nat.beq j 3 then -1491308 else bif Nat.beq j 2 then 26631 else bif Nat.beq j 1 then -296 else bif Nat.beq j 0 then 2 else 2) true) fun (d : Int × Bool) => bif decide (d_1 < 0) then k (if 1073741824 < if -1073741824 > IntKind.wrap .i64 (0 - d.1) then
 -1073741824 else IntKind.wrap .i64 (0 - d.1) then 1073741824 else if -1073741824 > IntKind.wrap .i64 (0 - d.1) then -1073741824 else IntKind.wrap .i64 (0 - d.1), d.2) else k (if 1073741824 < if -1073741824 > d.1 then -1073741824 else d.1 then 1073741824 else if -1073741824 > d.1 then
 -1073741824 else d.1, d.2)
def f_At (x0 : Int) (x1 : Bool) : Option (Int × Bool) := K_At f_J f_Aw f_BK f_Ac f_AJ x0 x1 some
section
open Go.Ab.Rdr
def QA_At := ((pair (cons (ar (rc (cptr (nat 0) (ok' (nat 0)) (nat 1)))) (cons (ar (rc (cf (fi .i64 hole)))) nil)) (cons (cons (gc (cf (fb hole))) nil) nil)) : Rdr (List AV × List Blk) _)
end
def F_At (f : (Int) → (Bool) → Option (Int × Bool)) : Sem1 := fun args h => match (QA_At).rd (args, h) with
  | some b => .opt (f b.1.2.1 b.2.1.1) fun (d : Int × Bool) => .leaf (Res.mk (rI d.1) [Ch.set [sB d.2]] [])
  | none => .fail
theorem d_At (g_J : t23GN2) (g_Aw : t15GN2) (g_BK : t15GN2) (g_Ac : t20GN2) (g_AJ : t29GN2) (x0 : Int) (x1 : Bool) : den Try.prog (envOf [(52, F_J g_J), (54, F_Aw g_Aw),
 (55, F_BK g_BK), (56, F_Ac g_Ac), (57, F_AJ g_AJ)]) ⟨[], [], [], [], none⟩ 200 31 [.r (.c (.ptr 0 (.k 0) 1)), rI x0] [[.c (.f (.b x1))]] = K_At g_J g_Aw g_BK g_Ac g_AJ x0 x1 (fun (d : Int × Bool) => some (Res.mk (rI d.1) [Ch.set [sB d.2]] [])) := by kernel_rfl
theorem m_At {ρ σ : Type} (q : ρ → Option σ) (g_J : t23GN2) (g_Aw : t15GN2) (g_BK : t15GN2) (g_Ac : t20GN2) (g_AJ : t29GN2) (x0 : Int) (x1 : Bool) (k : (Int × Bool) → Option ρ) : (K_At g_J g_Aw g_BK g_Ac g_AJ x0 x1 k).bind q = K_At g_J g_Aw g_BK g_Ac g_AJ x0 x1 (fun d => (k d).bind q) := by
  simp only [K_At, bnd_cond, bnd_bind, bnd_none, bnd_sum]
theorem qa_At : ∀ b, (QA_At).em b = ([.r (.c (.ptr 0 (.k 0) 1)), rI b.1.2.1], [[.c (.f (.b b.2.1.1))]]) := fun b => by kernel_rfl
theorem e_At {f : (Int) → (Bool) → Option (Int × Bool)} {args : List AV} {h : List Blk} {r : Res} (hr : (F_At f args h).eval = some r) : ∃ x0 x1, args = [.r (.c (.ptr 0 (.k 0) 1)), rI x0] ∧ h = [[.c (.f (.b x1))]] ∧ (f x0 x1).bind (fun (d : Int × Bool) => some (Res.mk (rI d.1) [Ch.set [sB d.2]] [])) = some r := by
  unfold F_At at hr
  split at hr
  · rename_i b hb
    have e := ((QA_At).ok _ _ hb).trans (qa_At b)
    rw [opt_eval2] at hr
    exact ⟨b.1.2.1, b.2.1.1, (Prod.mk.inj e).1, (Prod.mk.inj e).2, hr⟩
  · cases hr
theorem n_At {σ : Type} (q : (Int × Bool) → Option σ) (x0 : Int) (x1 : Bool) : (f_At x0 x1).bind q = K_At f_J f_Aw f_BK f_Ac f_AJ x0 x1 q := by
  unfold f_At
  exact m_At q f_J f_Aw f_BK f_Ac f_AJ x0 x1 some
theorem s_At [Amb] : Sound Try.prog 31 (F_At f_At) := (inl_sound (l := [(52, F_J f_J), (54, F_Aw f_Aw), (55, F_BK f_BK), (56, F_Ac f_Ac), (57, F_AJ f_AJ)]) (.cons s_J (.cons s_Aw (.cons s_BK (.cons s_Ac (.cons s_AJ (.nil _)))))) mixed [] [] 200 (by kernel_rfl)).by (F := F_At f_At) fun args b r hr => by
  obtain ⟨x0, x1, rfl, rfl, hr1⟩ := e_At hr
  exact inl_eval ((d_At f_J f_Aw f_BK f_Ac f_AJ x0 x1).trans ((n_At (fun (d : Int × Bool) => some (Res.mk (rI d.1) [Ch.set [sB d.2]] [])) x0 x1).symm.trans hr1))

def K_BL {ρ : Type} (g_Aw : t15GN2) (g_At : t23GN2) (x0 : Int) (x1 : Bool) (k : (Int × Bool) → Option ρ) : Option ρ := Option.bind (g_Aw x0) fun (d : Int) => Option.bind (g_At (IntKind.wrap .i64 (1686629713 + d)) x1) fun (d : Int × Bool) => k (d.1, d.2)
def f_BL (x0 : Int) (x1 : Bool) : Option (Int × Bool) := K_BL f_Aw f_At x0 x1 some
section
open Go.Ab.Rdr
def QA_BL := ((pair (cons (ar (rc (cptr (nat 0) (ok' (nat 0)) (nat 1)))) (cons (ar (rc (cf (fi .i64 hole)))) nil)) (cons (cons (gc (cf (fb hole))) nil) nil)) : Rdr (List AV × List Blk) _)
end
def F_BL (f : (Int) → (Bool) → Option (Int × Bool)) : Sem1 := fun args h => match (QA_BL).rd (args, h) with
  | some b => .opt (f b.1.2.1 b.2.1.1) fun (d : Int × Bool) => .leaf (Res.mk (rI d.1) [Ch.set [sB d.2]] [])
  | none => .fail
theorem d_BL (g_Aw : t15GN2) (g_At : t23GN2) (x0 : Int) (x1 : Bool) : den Try.prog (envOf [(54, F_Aw g_Aw), (31, F_At g_At)]) ⟨[], [], [], [], none⟩ 200 32 [.r (.c (.ptr 0 (.k 0) 1)), rI x0] [[.c (.f (.b x1))]] = K_BL g_Aw g_At x0 x1 (fun (d : Int ×
 Bool) => some (Res.mk (rI d.1) [Ch.set [sB d.2]] [])) := by kernel_rfl
theorem m_BL {ρ σ : Type} (q : ρ → Option σ) (g_Aw : t15GN2) (g_At : t23GN2) (x0 : Int) (x1 : Bool) (k : (Int × Bool) → Option ρ) : (K_BL g_Aw g_At x0 x1 k).bind q = K_BL g_Aw g_At x0 x1 (fun d => (k d).bind q) := by
  simp only [K_BL, bnd_cond, bnd_bind, bnd_none, bnd_sum]
theorem qa_BL : ∀ b, (QA_BL).em b = ([.r (.c (.ptr 0 (.k 0) 1)), rI b.1.2.1], [[.c (.f (.b b.2.1.1))]]) := fun b => by kernel_rfl
theorem e_BL {f : (Int) → (Bool) → Option (Int × Bool)} {args : List AV} {h : List Blk} {r : Res} (hr : (F_BL f args h).eval = some r) : ∃ x0 x1, args = [.r (.c (.ptr 0 (.k 0) 1)), rI x0] ∧ h = [[.c (.f (.b x1))]] ∧ (f x0 x1).bind (fun (d : Int × Bool) => some (Res.mk (rI d.1) [Ch.set [sB d.2]] [])) = some r := by
  unfold F_BL at hr
  split at hr
  · rename_i b hb
    have e := ((QA_BL).ok _ _ hb).trans (qa_BL b)
    rw [opt_eval2] at hr
    exact ⟨b.1.2.1, b.2.1.1, (Prod.mk.inj e).1, (Prod.mk.inj e).2, hr⟩
  · cases hr
theorem n_BL {σ : Type} (q : (Int × Bool) → Option σ) (x0 : Int) (x1 : Bool) : (f_BL x0 x1).bind q = K_BL f_Aw f_At x0 x1 q := by
  unfold f_BL
  exact m_BL q f_Aw f_At x0 x1 some
theorem s_BL [Amb] : Sound Try.prog 32 (F_BL f_BL) := (inl_sound (l := [(54, F_Aw f_Aw), (31, F_At f_At)]) (.cons s_Aw (.cons s_At (.nil _))) mixed [] [] 200 (by kernel_rfl)).by (F := F_BL f_BL) fun args b r hr => by
  obtain ⟨x0, x1, rfl, rfl, hr1⟩ := e_BL hr
  exact inl_eval ((d_BL f_Aw f_At x0 x1).trans ((n_BL (fun (d : Int × Bool) => some (Res.mk (rI d.1) [Ch.set [sB d.2]] [])) x0 x1).symm.trans hr1))

def K_Ay {ρ : Type} (g_Ak : t15GN2) (g_AO : t18GN2) (g_AM : t18GN2) (g_Av : t30GN2) (x0 : Int) (x1 : Int) (k : (Int × Int × Bool) → Option ρ) : Option ρ := bif decide (x1 < 0) then k (0, 0, false) else
 bif decide (x1 > 127) then k (0, 0, false) else Option.bind (g_Ak x0) fun (d : Int) => Option.bind (g_AO 0 d x1) fun (d_1 : Int × Int) => Option.bind (g_AM d_1.1 d_1.2 x1) fun (d_2 : Int × Int) => bif !(d_2.1 == 0 && (d_2.2 == d && true)) then k (0, 0, false) else Option.bind (g_Av d_1.1 d_1.2 (decide (x0 < 0))) fun (d : Int ×
 Int × Bool) => bif !d.2.2 then k (0, 0, false) else k (d.1, d.2.1, true)
def f_Ay (x0 : Int) (x1 : Int) : Option (Int × Int × Bool) := K_Ay f_Ak f_AO f_AM f_Av x0 x1 some
section
open Go.Ab.Rdr
def QA_Ay := ((pair (cons (ar (rc (cf (fi .i64 hole)))) (cons (ar (rc (cf (fi .i64 hole)))) nil)) nil) : Rdr (List AV × List Blk) _)
end
def F_Ay (f : (Int) → (Int) → Option (Int × Int × Bool)) : Sem1 := fun args h => match (QA_Ay).rd (args, h) with
  | some b => .opt (f b.1.1 b.1.2.1) fun (d : Int × Int × Bool) => .leaf (Res.mk (AV.tup [RV.agg [sI d.1, sU d.2.1], RV.c (CV.f (FV.b d.2.2))]) [] [])
  | none => .fail
theorem d_Ay (g_Ak : t15GN2) (g_AO : t18GN2) (g_AM : t18GN2) (g_Av : t30GN2) (x0 : Int) (x1 : Int) : den Try.prog (envOf [(76, F_Ak g_Ak), (78, F_AO g_AO), (79, F_AM g_AM), (77, F_Av g_Av)]) ⟨[],
 [], [], [], none⟩ 200 58 [rI x0, rI x1] [] = K_Ay g_Ak g_AO g_AM g_Av x0 x1 (fun (d : Int × Int × Bool) => some (Res.mk (AV.tup [RV.agg [sI d.1, sU d.2.1], RV.c (CV.f (FV.b d.2.2))]) [] [])) := by kernel_rfl
theorem m_Ay {ρ σ : Type} (q : ρ → Option σ) (g_Ak : t15GN2) (g_AO : t18GN2) (g_AM : t18GN2) (g_Av : t30GN2) (x0 : Int) (x1 : Int) (k : (Int × Int × Bool) → Option ρ) : (K_Ay g_Ak g_AO g_AM g_Av x0 x1 k).bind q = K_Ay g_Ak g_AO g_AM g_Av x0 x1 (fun d => (k d).bind q) := by
  simp only [K_Ay, bnd_cond, bnd_bind, bnd_none, bnd_sum]
theorem qa_Ay : ∀ b, (QA_Ay).em b = ([rI b.1.1, rI b.1.2.1], []) := fun b => by kernel_rfl
theorem e_Ay {f : (Int) → (Int) → Option (Int × Int × Bool)} {args : List AV} {h : List Blk} {r : Res} (hr : (F_Ay f args h).eval = some r) : ∃ x0 x1, args = [rI x0, rI x1] ∧ h = [] ∧ (f x0 x1).bind (fun (d : Int × Int × Bool) => some (Res.mk (AV.tup [RV.agg [sI d.1, sU d.2.1], RV.c (CV.f (FV.b d.2.2))]) [] [])) = some r := by
  unfold F_Ay at hr
  split at hr
  · rename_i b hb
    have e := ((QA_Ay).ok _ _ hb).trans (qa_Ay b)
    rw [opt_eval2] at hr
    exact ⟨b.1.1, b.1.2.1, (Prod.mk.inj e).1, (Prod.mk.inj e).2, hr⟩
  · cases hr
theorem n_Ay {σ : Type} (q : (Int × Int × Bool) → Option σ) (x0 : Int) (x1 : Int) : (f_Ay x0 x1).bind q = K_Ay f_Ak f_AO f_AM f_Av x0 x1 q := by
  unfold f_Ay
  exact m_Ay q f_Ak f_AO f_AM f_Av x0 x1 some
theorem s_Ay [Amb] : Sound Try.prog 58 (F_Ay f_Ay) := (inl_sound (l := [(76, F_Ak f_Ak), (78, F_AO f_AO), (79, F_AM f_AM), (77, F_Av f_Av)]) (.cons s_Ak (.cons s_AO (.cons s_AM (.cons s_Av (.nil _))))) mixed [] [] 200 (by kernel_rfl)).by (F := F_Ay f_Ay) fun args b r hr => by
  obtain ⟨x0, x1, rfl, rfl, hr1⟩ := e_Ay hr
  exact inl_eval ((d_Ay f_Ak f_AO f_AM f_Av x0 x1).trans ((n_Ay (fun (d : Int × Int × Bool) => some (Res.mk (AV.tup [RV.agg [sI d.1, sU d.2.1], RV.c (CV.f (FV.b d.2.2))]) [] [])) x0 x1).symm.trans hr1))

def K_Az {ρ : Type} (x0 : Int) (x1 : Int) (x2 : Int) (x3 : Int) (k : (Bool) → Option ρ) : Option ρ := bif decide (x0 < x2) then k true else bif x0 == x2 then k (decide (x1 < x3)) else k false
def f_Az (x0 : Int) (x1 : Int) (x2 : Int) (x3 : Int) : Option (Bool) := K_Az x0 x1 x2 x3 some
section
open Go.Ab.Rdr
def QA_Az := ((pair (cons (ar (ra (cons (gc (cf (fi .u64 hole))) (cons (gc (cf (fi .u64 hole))) nil)))) (cons (ar (ra (cons (gc (cf (fi .u64 hole))) (cons (gc (cf (fi .u64 hole))) nil)))) nil)) nil) : Rdr (List AV × List Blk) _)
end
def F_Az (f : (Int) → (Int) → (Int) → (Int) → Option (Bool)) : Sem1 := fun args h => match (QA_Az).rd (args, h) with
  | some b => .opt (f b.1.1.1 b.1.1.2.1 b.1.2.1.1 b.1.2.1.2.1) fun (d : Bool) => .leaf (Res.mk (rB d) [] [])
  | none => .fail
theorem d_Az (x0 : Int) (x1 : Int) (x2 : Int) (x3 : Int) : den Try.prog (envOf []) ⟨[], [], [], [], none⟩ 200 92 [.r (.agg [.c (.f (.i .u64 x0)), .c (.f (.i .u64 x1))]), .r (.agg [.c (.f (.i .u64 x2)), .c (.f (.i .u64 x3))])] [] = K_Az x0 x1 x2 x3 (fun (d : Bool) => some (Res.mk (rB d) [] [])) := by kernel_rfl
theorem m_Az {ρ σ : Type} (q : ρ → Option σ) (x0 : Int) (x1 : Int) (x2 : Int) (x3 : Int) (k : (Bool) → Option ρ) : (K_Az x0 x1 x2 x3 k).bind q = K_Az x0 x1 x2 x3 (fun d => (k d).bind q) := by
  simp only [K_Az, bnd_cond, bnd_bind, bnd_none, bnd_sum]
theorem qa_Az : ∀ b, (QA_Az).em b = ([.r (.agg [.c (.f (.i .u64 b.1.1.1)), .c (.f (.i .u64 b.1.1.2.1))]), .r (.agg [.c (.f (.i .u64 b.1.2.1.1)), .c (.f (.i .u64 b.1.2.1.2.1))])], []) := fun b => by kernel_rfl
theorem e_Az {f : (Int) → (Int) → (Int) → (Int) → Option (Bool)} {args : List AV} {h : List Blk} {r : Res} (hr : (F_Az f args h).eval = some r) : ∃ x0 x1 x2 x3, args = [.r (.agg [.c (.f (.i .u64 x0)), .c (.f (.i .u64 x1))]), .r (.agg [.c (.f (.i .u64 x2)), .c (.f (.i .u64 x3))])] ∧ h = [] ∧ (f x0 x1 x2 x3).bind (fun (d : Bool) => some (Res.mk (rB d) [] [])) = some r := by
  unfold F_Az at hr
  split at hr
  · rename_i b hb
    have e := ((QA_Az).ok _ _ hb).trans (qa_Az b)
    rw [opt_eval2] at hr
    exact ⟨b.1.1.1, b.1.1.2.1, b.1.2.1.1, b.1.2.1.2.1, (Prod.mk.inj e).1, (Prod.mk.inj e).2, hr⟩
  · cases hr
theorem n_Az {σ : Type} (q : (Bool) → Option σ) (x0 : Int) (x1 : Int) (x2 : Int) (x3 : Int) : (f_Az x0 x1 x2 x3).bind q = K_Az x0 x1 x2 x3 q := by
  unfold f_Az
  exact m_Az q x0 x1 x2 x3 some
theorem s_Az [Amb] : Sound Try.prog 92 (F_Az f_Az) := (inl_sound (l := []) (.nil _) mixed [] [] 200 (by kernel_rfl)).by (F := F_Az f_Az) fun args b r hr => by
  obtain ⟨x0, x1, x2, x3, rfl, rfl, hr1⟩ := e_Az hr
  exact inl_eval ((d_Az x0 x1 x2 x3).trans ((n_Az (fun (d : Bool) => some (Res.mk (rB d) [] [])) x0 x1 x2 x3).symm.trans hr1))

def K_BE {ρ : Type} (g_Sub64 : C3) (x0 : Int) (x1 : Int) (x2 : Int) (x3 : Int) (k : (Int × Int) → Option ρ) : Option ρ := Option.bind (g_Sub64 x1 x3 0) fun (d : Int × Int) => Option.bind (g_Sub64 x0 x2 d.2) fun (d_1 : Int × Int) => k (d_1.1, d.1)
def f_BE (x0 : Int) (x1 : Int) (x2 : Int) (x3 : Int) : Option (Int × Int) := K_BE f_Sub64 x0 x1 x2 x3 some
section
open Go.Ab.Rdr
def QA_BE := ((pair (cons (ar (ra (cons (gc (cf (fi .u64 hole))) (cons (gc (cf (fi .u64 hole))) nil)))) (cons (ar (ra (cons (gc (cf (fi .u64 hole))) (cons (gc (cf (fi .u64 hole))) nil)))) nil)) nil) : Rdr (List AV × List Blk) _)
end
def F_BE (f : (Int) → (Int) → (Int) → (Int) → Option (Int × Int)) : Sem1 := fun args h => match (QA_BE).rd (args, h) with
  | some b => .opt (f b.1.1.1 b.1.1.2.1 b.1.2.1.1 b.1.2.1.2.1) fun (d : Int × Int) => .leaf (Res.mk (AV.r (RV.agg [sU d.1, sU d.2])) [] [])
  | none => .fail
theorem d_BE (g_Sub64 : C3) (x0 : Int) (x1 : Int) (x2 : Int) (x3 : Int) : den Try.prog (envOf [(95, F_carry g_Sub64)]) ⟨[], [], [], [], none⟩ 200 93 [.r (.agg [.c (.f (.i .u64 x0)), .c (.f (.i .u64 x1))]), .r (.agg [.c (.f (.i .u64 x2)), .c (.f (.i .u64 x3))])] [] = K_BE g_Sub64 x0 x1 x2 x3 (fun (d : Int ×
 Int) => some (Res.mk (AV.r (RV.agg [sU d.1, sU d.2])) [] [])) := by kernel_rfl
theorem m_BE {ρ σ : Type} (q : ρ → Option σ) (g_Sub64 : C3) (x0 : Int) (x1 : Int) (x2 : Int) (x3 : Int) (k : (Int × Int) → Option ρ) : (K_BE g_Sub64 x0 x1 x2 x3 k).bind q = K_BE g_Sub64 x0 x1 x2 x3 (fun d => (k d).bind q) := by
  simp only [K_BE, bnd_cond, bnd_bind, bnd_none, bnd_sum]
theorem qa_BE : ∀ b, (QA_BE).em b = ([.r (.agg [.c (.f (.i .u64 b.1.1.1)), .c (.f (.i .u64 b.1.1.2.1))]), .r (.agg [.c (.f (.i .u64 b.1.2.1.1)), .c (.f (.i .u64 b.1.2.1.2.1))])], []) := fun b => by kernel_rfl
theorem e_BE {f : (Int) → (Int) → (Int) → (Int) → Option (Int × Int)} {args : List AV} {h : List Blk} {r : Res} (hr : (F_BE f args h).eval = some r) : ∃ x0 x1 x2 x3, args = [.r (.agg [.c (.f (.i .u64 x0)), .c (.f (.i .u64 x1))]), .r (.agg [.c (.f (.i .u64 x2)), .c (.f (.i .u64 x3))])] ∧ h = [] ∧ (f x0 x1 x2 x3).bind (fun (d : Int × Int) => some (Res.mk (AV.r (RV.agg [sU d.1, sU d.2])) [] [])) = some r := by
  unfold F_BE at hr
  split at hr
  · rename_i b hb
    have e := ((QA_BE).ok _ _ hb).trans (qa_BE b)
    rw [opt_eval2] at hr
    exact ⟨b.1.1.1, b.1.1.2.1, b.1.2.1.1, b.1.2.1.2.1, (Prod.mk.inj e).1, (Prod.mk.inj e).2, hr⟩
  · cases hr
theorem n_BE {σ : Type} (q : (Int × Int) → Option σ) (x0 : Int) (x1 : Int) (x2 : Int) (x3 : Int) : (f_BE x0 x1 x2 x3).bind q = K_BE f_Sub64 x0 x1 x2 x3 q := by
  unfold f_BE
  exact m_BE q f_Sub64 x0 x1 x2 x3 some
theorem s_BE [Amb] : Sound Try.prog 93 (F_BE f_BE) := (inl_sound (l := [(95, F_carry f_Sub64)]) (.cons s_Sub64 (.nil _)) mixed [] [] 200 (by kernel_rfl)).by (F := F_BE f_BE) fun args b r hr => by
  obtain ⟨x0, x1, x2, x3, rfl, rfl, hr1⟩ := e_BE hr
  exact inl_eval ((d_BE f_Sub64 x0 x1 x2 x3).trans ((n_BE (fun (d : Int × Int) => some (Res.mk (AV.r (RV.agg [sU d.1, sU d.2])) [] [])) x0 x1 x2 x3).symm.trans hr1))

def S_AT_0 {ρ : Type} (g_AO : t18GN2) (g_AN : t19GN2) (g_AM : t18GN2) (g_Az : t31GN2) (g_BE : t19GN2) (g_AL : t20GN2) (x0 : Int) (x1 : Int) (x2 : Int) (x3 : Int) (x4 : Int) (c : (Int × Int × Int × Int × Int) → Option ρ) (x : (Int × Bool × Int × Int × Int × Int) → Option ρ) : Option ρ := bif decide (x0 ≥ 0) then Option.bind (g_AO 0 1 x0) fun (d : Int × Int) => Option.bind (g_AN x3 x4 d.1 d.2) fun (d_1 : Int ×
 Int) => Option.bind (g_AM x3 x4 1) fun (d_2 : Int × Int) => Option.bind (g_Az x1 x2 d_1.1 d_1.2) fun (d_3 : Bool) => bif !d_3 then Option.bind (g_BE x1 x2 d_1.1 d_1.2) fun (d_4 : Int × Int) => Option.bind (g_AN d_2.1 d_2.2 d.1 d.2) fun (d : Int × Int) => c (IntKind.wrap .i64 (x0 - 2), d_4.1, d_4.2,
 d.1, d.2) else c (IntKind.wrap .i64 (x0 - 2), x1, x2, d_2.1, d_2.2) else x (x0, decide (x0 ≥ 0), x1, x2, x3, x4)
section
open Go.Ab.Rdr
def Q_AT_0 := (st (cons aund (cons aund (cons aund (cons aund (cons (ar (rc (cptr (nat 0) (ok' (nat 0)) (nat 2)))) (cons (ar (rc (cptr (nat 1) (ok' (nat 0)) (nat 2)))) (cons (ar (rc (cf (fi .i64 hole)))) (cons aund (cons aund (cons aund (cons aund (cons aund (cons aund (cons aund (cons aund (cons aund (cons aund (cons aund (cons aund (cons aund (cons aund (cons aund (cons aund (cons aund (cons aund (cons aund (cons aund (cons aund (cons aund (cons aund (cons aund (cons aund (cons aund (cons aund (cons aund (cons aund (cons aund (cons aund (cons aund (cons aund (cons aund (cons aund (cons aund (cons aund (cons aund (cons aund (cons aund (cons aund (cons aund (cons aund (cons aund nil))))))))))))))))))))))))))))))))))))))))))))))))))) (cons (some' (cons (gc (cf (fi .u64 hole))) (cons (gc (cf (fi .u64 hole))) nil))) (cons (some' (cons (gc (cf (fi .u64 hole))) (cons (gc (cf (fi .u64 hole))) nil))) nil)) nil)
end
theorem q_AT_0 : ∀ b, (Q_AT_0).em b = St.mk [un, un, un, un, AV.r (RV.c (CV.ptr 0 (Off.k 0) 2)), AV.r (RV.c (CV.ptr 1 (Off.k 0) 2)), rI b.1.c4.2.2.1, un, un, un, un, un, un, un, un, un, un, un, un,
 un, un, un, un, un, un, un, un, un, un, un, un, un, un, un, un, un, un, un, un, un, un, un, un, un, un, un, un, un, un, un, un] [some [sU b.2.1.1.1,
 sU b.2.1.1.2.1], some [sU b.2.1.2.1.1, sU b.2.1.2.1.2.1]] [] := fun b => by kernel_rfl
def R_AT_0 (l : ∀ {ρ : Type}, (Int × Int × Int × Int × Int) → ((Int × Bool × Int × Int × Int × Int) → Option ρ) → Option ρ) {ρ : Type} (s : St) (K : AX → St → Option ρ) : Option ρ := ((Q_AT_0).rd s).bind fun b => l (b.1.c4.2.2.1, b.2.1.1.1, b.2.1.1.2.1, b.2.1.2.1.1, b.2.1.2.1.2.1) (fun d => K (AX.ex 0) (St.mk [un,
 un, un, un, AV.r (RV.c (CV.ptr 0 (Off.k 0) 2)), AV.r (RV.c (CV.ptr 1 (Off.k 0) 2)), rI d.1, un, un, un, un, un, un, un, un, un, un, un, un, rI d.1, rB d.2.1,
 un, un, un, un, un, un, un, un, un, un, un, un, un, un, un, un, un, un, un, un, un, un, un, un, un, un, un, un, un, un] [some [sU d.2.2.1, sU d.2.2.2.1],
 some [sU d.c4.1, sU d.c4.2]] []))
theorem ms_AT_0 {ρ σ : Type} (g_AO : t18GN2) (g_AN : t19GN2) (g_AM : t18GN2) (g_Az : t31GN2) (g_BE : t19GN2) (g_AL : t20GN2) (q : ρ → Option σ) (x0 : Int) (x1 : Int) (x2 : Int) (x3 : Int) (x4 : Int) (c : (Int × Int × Int × Int × Int) → Option ρ) (x : (Int × Bool × Int × Int × Int × Int) → Option ρ) : (S_AT_0 g_AO g_AN g_AM g_Az g_BE g_AL x0 x1 x2 x3 x4 c x).bind q = S_AT_0 g_AO g_AN g_AM g_Az g_BE g_AL x0 x1 x2 x3 x4 (fun d => (c d).bind q) (fun d => (x d).bind q) := by
  simp only [S_AT_0, bnd_cond, bnd_bind, bnd_none, bnd_sum]
def L_AT_0 {ρ : Type} (d : Int × Int × Int × Int × Int) (k : (Int × Bool × Int × Int × Int × Int) → Option ρ) : Option ρ := loopK (fun d c x => S_AT_0 f_AO f_AN f_AM f_Az f_BE f_AL d.1 d.2.1 d.2.2.1 d.2.2.2.1 d.c4 c x) 200 d k
theorem mL_AT_0 {ρ σ : Type} (q : ρ → Option σ) (d : Int × Int × Int × Int × Int) (k : (Int × Bool × Int × Int × Int × Int) → Option ρ) : (L_AT_0 d k).bind q = L_AT_0 d fun x => (k x).bind q := loopK_bind q (fun d c x => ms_AT_0 f_AO f_AN f_AM f_Az f_BE f_AL q d.1 d.2.1 d.2.2.1 d.2.2.2.1 d.c4 c x) k _ d
theorem ds_AT_0 {ρ : Type} (g_AO : t18GN2) (g_AN : t19GN2) (g_AM : t18GN2) (g_Az : t31GN2) (g_BE : t19GN2) (g_AL : t20GN2) (l_0 : ∀ {ρ : Type}, (Int × Int × Int × Int × Int) → ((Int × Bool × Int × Int × Int × Int) → Option ρ) → Option ρ) (x0 : Int) (x1 : Int) (x2 : Int) (x3 : Int) (x4 : Int) (c : St → Option ρ) (K : AX → St → Option ρ) : runC Try.prog (envOf [(78, F_AO g_AO), (83, F_AN g_AN), (79, F_AM g_AM), (92,
 F_Az g_Az), (93, F_BE g_BE), (84, F_AL g_AL)]) ⟨[⟨5, u8GN2, []⟩], [⟨5, 0, @R_AT_0 (@l_0)⟩], [], [], (some ⟨0, u9GN2, []⟩)⟩ (tmpsOf Try.prog 80) 0 200 (loopIn Try.prog 80 5) (St.mk [un, un, un, un, AV.r (RV.c (CV.ptr 0 (Off.k 0) 2)),
 AV.r (RV.c (CV.ptr 1 (Off.k 0) 2)), rI x0, un, un, un, un, un, un, un, un, un, un, un, un, un, un, un, un, un, un, un, un, un, un, un, un, un, un, un, un,
 un, un, un, un, un, un, un, un, un, un, un, un, un, un, un, un] [some [sU x1, sU x2], some [sU x3, sU x4]] []) (next (fun t => t.head 0 ⟨[⟨5,
 u8GN2, []⟩], [⟨5, 0, @R_AT_0 (@l_0)⟩], [], [], (some ⟨0, u9GN2, []⟩)⟩ (loopIn Try.prog 80 5)) c K) = S_AT_0 g_AO g_AN g_AM g_Az g_BE g_AL x0 x1 x2 x3 x4 (fun d => c (St.mk [un, un, un, un, AV.r (RV.c (CV.ptr 0 (Off.k 0) 2)),
 AV.r (RV.c (CV.ptr 1 (Off.k 0) 2)), rI d.1, un, un, un, un, un, un, un, un, un, un, un, un, un, un, un, un, un, un, un, un, un, un, un, un, un, un, un, un,
 un, un, un, un, un, un, un, un, un, un, un, un, un, un, un, un] [some [sU d.2.1, sU d.2.2.1], some [sU d.2.2.2.1, sU d.c4]] [])) (fun d => K (AX.ex 0) (St.mk [un,
 un, un, un, AV.r (RV.c (CV.ptr 0 (Off.k 0) 2)), AV.r (RV.c (CV.ptr 1 (Off.k 0) 2)), rI d.1, un, un, un, un, un, un, un, un, un, un, un, un, rI d.1, rB d.2.1,
 un, un, un, un, un, un, un, un, un, un, un, un, un, un, un, un, un, un, un, un, un, un, un, un, un, un, un, un, un, un] [some [sU d.2.2.1, sU d.2.2.2.1],
 some [sU d.c4.1, sU d.c4.2]] [])) := by kernel_rfl
theorem it_AT_0 {ρ : Type} (x0 : Int) (x1 : Int) (x2 : Int) (x3 : Int) (x4 : Int) (K : AX → St → Option ρ) : iter (fun t => t.head 0 ⟨[⟨5, u8GN2, []⟩], [⟨5, 0, @R_AT_0 (@L_AT_0)⟩], [], [], (some ⟨0, u9GN2, []⟩)⟩ (loopIn Try.prog 80 5)) (runC Try.prog (envOf [(78,
 F_AO f_AO), (83, F_AN f_AN), (79, F_AM f_AM), (92, F_Az f_Az), (93, F_BE f_BE), (84, F_AL f_AL)]) ⟨[⟨5, u8GN2, []⟩], [⟨5,
 0, @R_AT_0 (@L_AT_0)⟩], [], [], (some ⟨0, u9GN2, []⟩)⟩ (tmpsOf Try.prog 80) 0 200 (loopIn Try.prog 80 5)) K 200 (St.mk [un,
 un, un, un, AV.r (RV.c (CV.ptr 0 (Off.k 0) 2)), AV.r (RV.c (CV.ptr 1 (Off.k 0) 2)), rI x0, un, un, un, un, un, un, un, un, un, un, un, un, un, un, un, un, un, un, un, un, un,
 un, un, un, un, un, un, un, un, un, un, un, un, un, un, un, un, un, un, un, un, un, un, un] [some [sU x1, sU x2], some [sU x3,
 sU x4]] []) = L_AT_0 (x0, x1, x2, x3, x4) (fun d => K (AX.ex 0) (St.mk [un, un, un, un, AV.r (RV.c (CV.ptr 0 (Off.k 0) 2)), AV.r (RV.c (CV.ptr 1 (Off.k 0) 2)), rI d.1, un, un, un, un, un, un, un,
 un, un, un, un, un, rI d.1, rB d.2.1, un, un, un, un, un, un, un, un, un, un, un, un, un, un, un, un, un, un, un, un, un, un, un, un,
 un, un, un, un, un, un] [some [sU d.2.2.1, sU d.2.2.2.1], some [sU d.c4.1, sU d.c4.2]] [])) := iter_loopX (emb := fun (d : Int × Int × Int × Int × Int) => St.mk [un,
 un, un, un, AV.r (RV.c (CV.ptr 0 (Off.k 0) 2)), AV.r (RV.c (CV.ptr 1 (Off.k 0) 2)), rI d.1, un, un, un, un, un, un, un, un, un, un, un, un, un, un, un, un, un, un, un, un, un,
 un, un, un, un, un, un, un, un, un, un, un, un, un, un, un, un, un, un, un, un, un, un, un] [some [sU d.2.1, sU d.2.2.1], some [sU d.2.2.2.1,
 sU d.c4]] []) (step := fun d c x => S_AT_0 f_AO f_AN f_AM f_Az f_BE f_AL d.1 d.2.1 d.2.2.1 d.2.2.2.1 d.c4 c x) (kx := (fun d => K (AX.ex 0) (St.mk [un, un, un, un, AV.r (RV.c (CV.ptr 0 (Off.k 0) 2)), AV.r (RV.c (CV.ptr 1 (Off.k 0) 2)), rI d.1,
 un, un, un, un, un, un, un, un, un, un, un, un, rI d.1, rB d.2.1, un, un, un, un, un, un, un, un, un, un, un, un, un, un, un, un, un,
 un, un, un, un, un, un, un, un, un, un, un, un, un] [some [sU d.2.2.1, sU d.2.2.2.1], some [sU d.c4.1, sU d.c4.2]] []))) (fun d c => ds_AT_0 f_AO f_AN f_AM f_Az f_BE f_AL (@L_AT_0) d.1 d.2.1 d.2.2.1 d.2.2.2.1 d.c4 c K) 200 (x0,
 x1, x2, x3, x4)
theorem so_AT_0 [Amb] : ∀ kk, SumOK Try.prog (envOf [(78, F_AO f_AO), (83, F_AN f_AN), (79, F_AM f_AM), (92, F_Az f_Az), (93, F_BE f_BE), (84, F_AL f_AL)]) ⟨[⟨5, u8GN2, []⟩], [⟨5, 0, @R_AT_0 (@L_AT_0)⟩], [], [], (some ⟨0, u9GN2, []⟩)⟩ (tmpsOf Try.prog 80) kk 200 (loopIn Try.prog 80 5) := SumOK.of (id := 5) (k0 := 0) (run := @R_AT_0 (@L_AT_0)) (by kernel_rfl) fun s K r hr => by
    unfold R_AT_0 at hr
    obtain ⟨b, hb, hr1⟩ := Option.bind_eq_some_iff.1 hr
    have e := ((Q_AT_0).ok s b hb).trans (q_AT_0 b)
    subst e
    exact ⟨200, (it_AT_0 b.1.c4.2.2.1 b.2.1.1.1 b.2.1.1.2.1 b.2.1.2.1.1 b.2.1.2.1.2.1 K).trans hr1⟩
def K_AT {ρ : Type} (g_AO : t18GN2) (g_AN : t19GN2) (g_AM : t18GN2) (g_Az : t31GN2) (g_BE : t19GN2) (g_AL : t20GN2) (l_0 : ∀ {ρ : Type}, (Int × Int × Int × Int × Int) → ((Int × Bool × Int × Int × Int × Int) → Option ρ) → Option ρ) (x0 : Int) (x1 : Int) (k : (Int × Bool) → Option ρ) : Option ρ := bif decide (x0 < 0) then k (0, false) else l_0 (126, IntKind.wrap .u64 x0, x1, 0, 0) fun (d : Int × Bool ×
 Int × Int × Int × Int) => Option.bind (g_Az d.c4.1 d.c4.2 d.2.2.1 d.2.2.2.1) fun (d_1 : Bool) => bif d_1 then Option.bind (g_AN d.c4.1 d.c4.2 0 1) fun (d : Int × Int) => Option.bind (g_AL d.1 d.2 false) fun (d : Int × Bool) => k (d.1, d.2) else Option.bind (g_AL d.c4.1 d.c4.2 false) fun (d : Int ×
 Bool) => k (d.1, d.2)
def f_AT (x0 : Int) (x1 : Int) : Option (Int × Bool) := K_AT f_AO f_AN f_AM f_Az f_BE f_AL (@L_AT_0) x0 x1 some
section
open Go.Ab.Rdr
def QA_AT := ((pair (cons (ar (ra (cons (gc (cf (fi .i64 hole))) (cons (gc (cf (fi .u64 hole))) nil)))) nil) nil) : Rdr (List AV × List Blk) _)
end
def F_AT (f : (Int) → (Int) → Option (Int × Bool)) : Sem1 := fun args h => match (QA_AT).rd (args, h) with
  | some b => .opt (f b.1.1.1 b.1.1.2.1) fun (d : Int × Bool) => .leaf (Res.mk (AV.tup [RV.c (fI d.1), RV.c (CV.f (FV.b d.2))]) [] [])
  | none => .fail
theorem d_AT (g_AO : t18GN2) (g_AN : t19GN2) (g_AM : t18GN2) (g_Az : t31GN2) (g_BE : t19GN2) (g_AL : t20GN2) (l_0 : ∀ {ρ : Type},
 (Int × Int × Int × Int × Int) → ((Int × Bool × Int × Int × Int × Int) → Option ρ) → Option ρ) (x0 : Int) (x1 : Int) : den Try.prog (envOf [(78, F_AO g_AO), (83, F_AN g_AN), (79, F_AM g_AM), (92, F_Az g_Az), (93, F_BE g_BE), (84, F_AL g_AL)]) ⟨[⟨5, u8GN2, []⟩], [⟨5, 0, @R_AT_0 (@l_0)⟩], [], [], (some ⟨0, u9GN2, []⟩)⟩ 200 80 [.r (.agg [.c (.f (.i .i64 x0)), .c (.f (.i .u64 x1))])] [] = K_AT g_AO g_AN g_AM g_Az g_BE g_AL (@l_0) x0 x1 (fun (d : Int × Bool) => some (Res.mk (AV.tup [RV.c (fI d.1), RV.c (CV.f (FV.b d.2))]) [] [])) := by kernel_rfl
theorem m_AT {ρ σ : Type} (q : ρ → Option σ) (g_AO : t18GN2) (g_AN : t19GN2) (g_AM : t18GN2) (g_Az : t31GN2) (g_BE : t19GN2) (g_AL : t20GN2) (l_0 : ∀ {ρ : Type}, (Int × Int × Int × Int × Int) → ((Int × Bool × Int × Int × Int × Int) → Option ρ) → Option ρ) (hl_0 : ∀ {ρ σ : Type} (q : ρ → Option σ) (d : Int × Int × Int × Int × Int) (k : (Int × Bool × Int × Int × Int × Int) → Option ρ), (l_0 d k).bind q = l_0 d fun x => (k x).bind q) (x0 : Int) (x1 : Int) (k : (Int × Bool) → Option ρ) : (K_AT g_AO g_AN g_AM g_Az g_BE g_AL (@l_0) x0 x1 k).bind q = K_AT g_AO g_AN g_AM g_Az g_BE g_AL (@l_0) x0 x1 (fun d => (k d).bind q) := by
  simp only [K_AT, bnd_cond, bnd_bind, bnd_none, bnd_sum, hl_0]
theorem qa_AT : ∀ b, (QA_AT).em b = ([.r (.agg [.c (.f (.i .i64 b.1.1.1)), .c (.f (.i .u64 b.1.1.2.1))])], []) := fun b => by kernel_rfl
theorem e_AT {f : (Int) → (Int) → Option (Int × Bool)} {args : List AV} {h : List Blk} {r : Res} (hr : (F_AT f args h).eval = some r) : ∃ x0 x1, args = [.r (.agg [.c (.f (.i .i64 x0)), .c (.f (.i .u64 x1))])] ∧ h = [] ∧ (f x0 x1).bind (fun (d : Int × Bool) => some (Res.mk (AV.tup [RV.c (fI d.1), RV.c (CV.f (FV.b d.2))]) [] [])) = some r := by
  unfold F_AT at hr
  split at hr
  · rename_i b hb
    have e := ((QA_AT).ok _ _ hb).trans (qa_AT b)
    rw [opt_eval2] at hr
    exact ⟨b.1.1.1, b.1.1.2.1, (Prod.mk.inj e).1, (Prod.mk.inj e).2, hr⟩
  · cases hr
theorem n_AT {σ : Type} (q : (Int × Bool) → Option σ) (x0 : Int) (x1 : Int) : (f_AT x0 x1).bind q = K_AT f_AO f_AN f_AM f_Az f_BE f_AL (@L_AT_0) x0 x1 q := by
  unfold f_AT
  exact m_AT q f_AO f_AN f_AM f_Az f_BE f_AL (@L_AT_0) (fun q d k => mL_AT_0 q d k) x0 x1 some
theorem s_AT [Amb] : Sound Try.prog 80 (F_AT f_AT) := (inl_sums (l := [(78, F_AO f_AO), (83, F_AN f_AN), (79, F_AM f_AM), (92, F_Az f_Az), (93, F_BE f_BE), (84, F_AL f_AL)]) (.cons s_AO (.cons s_AN (.cons s_AM (.cons s_Az (.cons s_BE (.cons s_AL (.nil _))))))) mixed (hs := ⟨[⟨5, u8GN2, []⟩], [⟨5, 0, @R_AT_0 (@L_AT_0)⟩], [], [], (some ⟨0, u9GN2, []⟩)⟩) (lf := 200) (Sums.by (l := [loopIn Try.prog 80 5]) (lj := []) (by kernel_rfl) ⟨so_AT_0, trivial⟩ (by kernel_rfl) trivial) (by kernel_rfl)).by (F := F_AT f_AT) fun args b r hr => by
  obtain ⟨x0, x1, rfl, rfl, hr1⟩ := e_AT hr
  exact inl_eval ((d_AT f_AO f_AN f_AM f_Az f_BE f_AL (@L_AT_0) x0 x1).trans ((n_AT (fun (d : Int × Bool) => some (Res.mk (AV.tup [RV.c (fI d.1), RV.c (CV.f (FV.b d.2))]) [] [])) x0 x1).symm.trans hr1))

def K_BT {ρ : Type} (g_AT : t32GN2) (g_J : t23GN2) (x0 : Int) (x1 : Int) (x2 : Bool) (k : (Int × Bool) → Option ρ) : Option ρ := Option.bind (g_AT x0 x1) fun (d : Int × Bool) => bif !d.2 then Option.bind (g_J 1152921504606846977 x2) fun (d : Int × Bool) => k (d.1,
 d.2) else Option.bind (g_J d.1 x2) fun (d : Int × Bool) => k (d.1, d.2)
def f_BT (x0 : Int) (x1 : Int) (x2 : Bool) : Option (Int × Bool) := K_BT f_AT f_J x0 x1 x2 some
section
open Go.Ab.Rdr
def QA_BT := ((pair (cons (ar (rc (cptr (nat 0) (ok' (nat 0)) (nat 1)))) (cons (ar (ra (cons (gc (cf (fi .i64 hole))) (cons (gc (cf (fi .u64 hole))) nil)))) nil)) (cons (cons (gc (cf (fb hole))) nil) nil)) : Rdr (List AV × List Blk) _)
end
def F_BT (f : (Int) → (Int) → (Bool) → Option (Int × Bool)) : Sem1 := fun args h => match (QA_BT).rd (args, h) with
  | some b => .opt (f b.1.2.1.1 b.1.2.1.2.1 b.2.1.1) fun (d : Int × Bool) => .leaf (Res.mk (rI d.1) [Ch.set [sB d.2]] [])
  | none => .fail
theorem d_BT (g_AT : t32GN2) (g_J : t23GN2) (x0 : Int) (x1 : Int) (x2 : Bool) : den Try.prog (envOf [(80, F_AT g_AT), (52, F_J g_J)]) ⟨[], [], [], [], none⟩ 200 59 [.r (.c (.ptr 0 (.k 0) 1)), .r (.agg [.c (.f (.i .i64 x0)), .c (.f (.i .u64 x1))])] [[.c (.f (.b x2))]] = K_BT g_AT g_J x0 x1 x2 (fun (d : Int ×
 Bool) => some (Res.mk (rI d.1) [Ch.set [sB d.2]] [])) := by kernel_rfl
theorem m_BT {ρ σ : Type} (q : ρ → Option σ) (g_AT : t32GN2) (g_J : t23GN2) (x0 : Int) (x1 : Int) (x2 : Bool) (k : (Int × Bool) → Option ρ) : (K_BT g_AT g_J x0 x1 x2 k).bind q = K_BT g_AT g_J x0 x1 x2 (fun d => (k d).bind q) := by
  simp only [K_BT, bnd_cond, bnd_bind, bnd_none, bnd_sum]
theorem qa_BT : ∀ b, (QA_BT).em b = ([.r (.c (.ptr 0 (.k 0) 1)), .r (.agg [.c (.f (.i .i64 b.1.2.1.1)), .c (.f (.i .u64 b.1.2.1.2.1))])], [[.c (.f (.b b.2.1.1))]]) := fun b => by kernel_rfl
theorem e_BT {f : (Int) → (Int) → (Bool) → Option (Int × Bool)} {args : List AV} {h : List Blk} {r : Res} (hr : (F_BT f args h).eval = some r) : ∃ x0 x1 x2, args = [.r (.c (.ptr 0 (.k 0) 1)), .r (.agg [.c (.f (.i .i64 x0)), .c (.f (.i .u64 x1))])] ∧ h = [[.c (.f (.b x2))]] ∧ (f x0 x1 x2).bind (fun (d : Int × Bool) => some (Res.mk (rI d.1) [Ch.set [sB d.2]] [])) = some r := by
  unfold F_BT at hr
  split at hr
  · rename_i b hb
    have e := ((QA_BT).ok _ _ hb).trans (qa_BT b)
    rw [opt_eval2] at hr
    exact ⟨b.1.2.1.1, b.1.2.1.2.1, b.2.1.1, (Prod.mk.inj e).1, (Prod.mk.inj e).2, hr⟩
  · cases hr
theorem n_BT {σ : Type} (q : (Int × Bool) → Option σ) (x0 : Int) (x1 : Int) (x2 : Bool) : (f_BT x0 x1 x2).bind q = K_BT f_AT f_J x0 x1 x2 q := by
  unfold f_BT
  exact m_BT q f_AT f_J x0 x1 x2 some
theorem s_BT [Amb] : Sound Try.prog 59 (F_BT f_BT) := (inl_sound (l := [(80, F_AT f_AT), (52, F_J f_J)]) (.cons s_AT (.cons s_J (.nil _))) mixed [] [] 200 (by kernel_rfl)).by (F := F_BT f_BT) fun args b r hr => by
  obtain ⟨x0, x1, x2, rfl, rfl, hr1⟩ := e_BT hr
  exact inl_eval ((d_BT f_AT f_J x0 x1 x2).trans ((n_BT (fun (d : Int × Bool) => some (Res.mk (rI d.1) [Ch.set [sB d.2]] [])) x0 x1 x2).symm.trans hr1))

def K_BU {ρ : Type} (g_J : t23GN2) (g_Ay : t17GN2) (g_BT : t20GN2) (x0 : Int) (x1 : Bool) (k : (Int × Bool) → Option ρ) : Option ρ := Option.bind (g_J x0 x1) fun (d : Int × Bool) => bif decide (d.1 < 0) then k (0,
 true) else Option.bind (g_Ay d.1 30) fun (d_1 : Int × Int × Bool) => Option.bind (g_BT d_1.1 d_1.2.1 d.2) fun (d : Int × Bool) => k (d.1, d.2)
def f_BU (x0 : Int) (x1 : Bool) : Option (Int × Bool) := K_BU f_J f_Ay f_BT x0 x1 some
section
open Go.Ab.Rdr
def QA_BU := ((pair (cons (ar (rc (cptr (nat 0) (ok' (nat 0)) (nat 1)))) (cons (ar (rc (cf (fi .i64 hole)))) nil)) (cons (cons (gc (cf (fb hole))) nil) nil)) : Rdr (List AV × List Blk) _)
end
def F_BU (f : (Int) → (Bool) → Option (Int × Bool)) : Sem1 := fun args h => match (QA_BU).rd (args, h) with
  | some b => .opt (f b.1.2.1 b.2.1.1) fun (d : Int × Bool) => .leaf (Res.mk (rI d.1) [Ch.set [sB d.2]] [])
  | none => .fail
theorem d_BU (g_J : t23GN2) (g_Ay : t17GN2) (g_BT : t20GN2) (x0 : Int) (x1 : Bool) : den Try.prog (envOf [(52, F_J g_J), (58, F_Ay g_Ay), (59, F_BT g_BT)]) ⟨[], [], [], [], none⟩ 200 33 [.r (.c (.ptr 0 (.k 0) 1)),
 rI x0] [[.c (.f (.b x1))]] = K_BU g_J g_Ay g_BT x0 x1 (fun (d : Int × Bool) => some (Res.mk (rI d.1) [Ch.set [sB d.2]] [])) := by kernel_rfl
theorem m_BU {ρ σ : Type} (q : ρ → Option σ) (g_J : t23GN2) (g_Ay : t17GN2) (g_BT : t20GN2) (x0 : Int) (x1 : Bool) (k : (Int × Bool) → Option ρ) : (K_BU g_J g_Ay g_BT x0 x1 k).bind q = K_BU g_J g_Ay g_BT x0 x1 (fun d => (k d).bind q) := by
  simp only [K_BU, bnd_cond, bnd_bind, bnd_none, bnd_sum]
theorem qa_BU : ∀ b, (QA_BU).em b = ([.r (.c (.ptr 0 (.k 0) 1)), rI b.1.2.1], [[.c (.f (.b b.2.1.1))]]) := fun b => by kernel_rfl
theorem e_BU {f : (Int) → (Bool) → Option (Int × Bool)} {args : List AV} {h : List Blk} {r : Res} (hr : (F_BU f args h).eval = some r) : ∃ x0 x1, args = [.r (.c (.ptr 0 (.k 0) 1)), rI x0] ∧ h = [[.c (.f (.b x1))]] ∧ (f x0 x1).bind (fun (d : Int × Bool) => some (Res.mk (rI d.1) [Ch.set [sB d.2]] [])) = some r := by
  unfold F_BU at hr
  split at hr
  · rename_i b hb
    have e := ((QA_BU).ok _ _ hb).trans (qa_BU b)
    rw [opt_eval2] at hr
    exact ⟨b.1.2.1, b.2.1.1, (Prod.mk.inj e).1, (Prod.mk.inj e).2, hr⟩
  · cases hr
theorem n_BU {σ : Type} (q : (Int × Bool) → Option σ) (x0 : Int) (x1 : Bool) : (f_BU x0 x1).bind q = K_BU f_J f_Ay f_BT x0 x1 q := by
  unfold f_BU
  exact m_BU q f_J f_Ay f_BT x0 x1 some
theorem s_BU [Amb] : Sound Try.prog 33 (F_BU f_BU) := (inl_sound (l := [(52, F_J f_J), (58, F_Ay f_Ay), (59, F_BT f_BT)]) (.cons s_J (.cons s_Ay (.cons s_BT (.nil _)))) mixed [] [] 200 (by kernel_rfl)).by (F := F_BU f_BU) fun args b r hr => by
  obtain ⟨x0, x1, rfl, rfl, hr1⟩ := e_BU hr
  exact inl_eval ((d_BU f_J f_Ay f_BT x0 x1).trans ((n_BU (fun (d : Int × Bool) => some (Res.mk (rI d.1) [Ch.set [sB d.2]] [])) x0 x1).symm.trans hr1))

def K_BN {ρ : Type} (g_J : t23GN2) (g_Ay : t17GN2) (g_BC : t16GN2) (x0 : Int) (x1 : Int) (x2 : Int) (x3 : Bool) (k : (Int × Bool) → Option ρ) : Option ρ := Option.bind (g_J x0 x3) fun (d : Int × Bool) => Option.bind (g_J x1 d.2) fun (d_1 : Int ×
 Bool) => bif decide (x2 < 0) then k (0, true) else bif decide (x2 > 66) then k (0, true) else Option.bind (g_Ay d.1 x2) fun (d : Int × Int × Bool) => Option.bind (g_BC d.1 d.2.1 d_1.1 d_1.2) fun (d : Int × Bool) => k (d.1, d.2)
def f_BN (x0 : Int) (x1 : Int) (x2 : Int) (x3 : Bool) : Option (Int × Bool) := K_BN f_J f_Ay f_BC x0 x1 x2 x3 some
section
open Go.Ab.Rdr
def QA_BN := ((pair (cons (ar (rc (cptr (nat 0) (ok' (nat 0)) (nat 1)))) (cons (ar (rc (cf (fi .i64 hole)))) (cons (ar (rc (cf (fi .i64 hole)))) (cons (ar (rc (cf (fi .i64 hole)))) nil)))) (cons (cons (gc (cf (fb hole))) nil) nil)) : Rdr (List AV × List Blk) _)
end
def F_BN (f : (Int) → (Int) → (Int) → (Bool) → Option (Int × Bool)) : Sem1 := fun args h => match (QA_BN).rd (args, h) with
  | some b => .opt (f b.1.2.1 b.1.2.2.1 b.1.2.2.2.1 b.2.1.1) fun (d : Int × Bool) => .leaf (Res.mk (rI d.1) [Ch.set [sB d.2]] [])
  | none => .fail
theorem d_BN (g_J : t23GN2) (g_Ay : t17GN2) (g_BC : t16GN2) (x0 : Int) (x1 : Int) (x2 : Int) (x3 : Bool) : den Try.prog (envOf [(52, F_J g_J), (58, F_Ay g_Ay), (50, F_BC g_BC)]) ⟨[], [], [], [], none⟩ 200 34 [.r (.c (.ptr 0 (.k 0) 1)),
 rI x0, rI x1, rI x2] [[.c (.f (.b x3))]] = K_BN g_J g_Ay g_BC x0 x1 x2 x3 (fun (d : Int × Bool) => some (Res.mk (rI d.1) [Ch.set [sB d.2]] [])) := by kernel_rfl
theorem m_BN {ρ σ : Type} (q : ρ → Option σ) (g_J : t23GN2) (g_Ay : t17GN2) (g_BC : t16GN2) (x0 : Int) (x1 : Int) (x2 : Int) (x3 : Bool) (k : (Int × Bool) → Option ρ) : (K_BN g_J g_Ay g_BC x0 x1 x2 x3 k).bind q = K_BN g_J g_Ay g_BC x0 x1 x2 x3 (fun d => (k d).bind q) := by
  simp only [K_BN, bnd_cond, bnd_bind, bnd_none, bnd_sum]
theorem qa_BN : ∀ b, (QA_BN).em b = ([.r (.c (.ptr 0 (.k 0) 1)), rI b.1.2.1, rI b.1.2.2.1, rI b.1.2.2.2.1], [[.c (.f (.b b.2.1.1))]]) := fun b => by kernel_rfl
theorem e_BN {f : (Int) → (Int) → (Int) → (Bool) → Option (Int × Bool)} {args : List AV} {h : List Blk} {r : Res} (hr : (F_BN f args h).eval = some r) : ∃ x0 x1 x2 x3, args = [.r (.c (.ptr 0 (.k 0) 1)), rI x0, rI x1, rI x2] ∧ h = [[.c (.f (.b x3))]] ∧ (f x0 x1 x2 x3).bind (fun (d : Int × Bool) => some (Res.mk (rI d.1) [Ch.set [sB d.2]] [])) = some r := by
  unfold F_BN at hr
  split at hr
  · rename_i b hb
    have e := ((QA_BN).ok _ _ hb).trans (qa_BN b)
    rw [opt_eval2] at hr
    exact ⟨b.1.2.1, b.1.2.2.1, b.1.2.2.2.1, b.2.1.1, (Prod.mk.inj e).1, (Prod.mk.inj e).2, hr⟩
  · cases hr
theorem n_BN {σ : Type} (q : (Int × Bool) → Option σ) (x0 : Int) (x1 : Int) (x2 : Int) (x3 : Bool) : (f_BN x0 x1 x2 x3).bind q = K_BN f_J f_Ay f_BC x0 x1 x2 x3 q := by
  unfold f_BN
  exact m_BN q f_J f_Ay f_BC x0 x1 x2 x3 some
theorem s_BN [Amb] : Sound Try.prog 34 (F_BN f_BN) := (inl_sound (l := [(52, F_J f_J), (58, F_Ay f_Ay), (50, F_BC f_BC)]) (.cons s_J (.cons s_Ay (.cons s_BC (.nil _)))) mixed [] [] 200 (by kernel_rfl)).by (F := F_BN f_BN) fun args b r hr => by
  obtain ⟨x0, x1, x2, x3, rfl, rfl, hr1⟩ := e_BN hr
  exact inl_eval ((d_BN f_J f_Ay f_BC x0 x1 x2 x3).trans ((n_BN (fun (d : Int × Bool) => some (Res.mk (rI d.1) [Ch.set [sB d.2]] [])) x0 x1 x2 x3).symm.trans hr1))

def K_Ar {ρ : Type} (g_AK : t33GN2) (g_BM : t20GN2) (g_AE : t16GN2) (g_At : t23GN2) (g_BL : t23GN2) (g_BU : t23GN2) (g_BN : t16GN2) (x0 : Int) (x1 : Int) (x2 : Int) (k : (Unit ⊕ Int × Int × Int × Int × Int) → Option ρ) : Option ρ := Option.bind (g_AK x0 x1 x2) fun (d : Bool) => bif !d then k (Sum.inl ()) else bif decide (x0 > 850000000) then k (Sum.inl ()) else bif decide (x0 < -850000000) then
 k (Sum.inl ()) else Option.bind (g_AE x0 3373259426 1800000000 false) fun (d : Int × Bool) => Option.bind (g_At d.1 d.2) fun (d_1 : Int × Bool) => Option.bind (g_BL d.1 d_1.2) fun (d : Int × Bool) => Option.bind (g_BM d_1.1 d_1.1 d.2) fun (d_2 : Int × Bool) => Option.bind (g_BM 7188036 d_2.1 d_2.2) fun (d_3 : Int ×
 Bool) => Option.bind (g_BU (IntKind.wrap .i64 (1073741824 - d_3.1)) d_3.2) fun (d_4 : Int × Bool) => Option.bind (g_BN 6531212288 d_4.1 30 d_4.2) fun (d_5 : Int × Bool) => Option.bind (g_BM 6531212288 1066553788 d_5.2) fun (d_6 : Int × Bool) => Option.bind (g_BM (IntKind.wrap .i64 (1073741824 - d_3.1)) d_4.1 d_6.2) fun (d_7 : Int ×
 Bool) => Option.bind (g_BN d_6.1 d_7.1 30 d_7.2) fun (d_8 : Int × Bool) => Option.bind (g_AE d_8.1 3373259426 1800000000 d_8.2) fun (d_9 : Int × Bool) => Option.bind (g_BM d_5.1 d.1 d_9.2) fun (d : Int × Bool) => Option.bind (g_AE d.1 3373259426 1800000000 d.2) fun (d : Int × Bool) => k (Sum.inr (x0,
 x1, x2, d_9.1, d.1))
def f_Ar (x0 : Int) (x1 : Int) (x2 : Int) : Option (Unit ⊕ Int × Int × Int × Int × Int) := K_Ar f_AK f_BM f_AE f_At f_BL f_BU f_BN x0 x1 x2 some
section
open Go.Ab.Rdr
def QA_Ar := ((pair (cons (ar (ra (cons (gc (cf (fi .i64 hole))) (cons (gc (cf (fi .i64 hole))) (cons (gc (cf (fi .i64 hole))) nil))))) nil) nil) : Rdr (List AV × List Blk) _)
end
def F_Ar (f : (Int) → (Int) → (Int) → Option (Unit ⊕ Int × Int × Int × Int × Int)) : Sem1 := fun args h => match (QA_Ar).rd (args, h) with
  | some b => .opt (f b.1.1.1 b.1.1.2.1 b.1.1.2.2.1) fun d0 => T.sum d0 (fun (d : Unit) => .leaf (Res.mk (AV.tup [RV.c CV.nilp, RV.c (fI 1)]) [] [])) (fun (d : Int × Int × Int × Int × Int) => .leaf (Res.mk (AV.tup [RV.c (CV.ptr 0 (Off.k 0) 5), RV.c (fI 0)]) []
    [[sI d.1, sI d.2.1, sI d.2.2.1, sI d.2.2.2.1,
        sI d.c4]]))
  | none => .fail
theorem d_Ar (g_AK : t33GN2) (g_BM : t20GN2) (g_AE : t16GN2) (g_At : t23GN2) (g_BL : t23GN2) (g_BU : t23GN2) (g_BN : t16GN2) (x0 : Int) (x1 : Int) (x2 : Int) : den Try.prog (envOf [(20, F_AK g_AK), (29, F_BM g_BM), (28, F_AE g_AE), (31, F_At g_At), (32, F_BL g_BL), (33, F_BU g_BU), (34, F_BN g_BN)]) ⟨[], [], [], [], none⟩ 200 10 [.r (.agg [.c (.f (.i .i64 x0)), .c (.f (.i .i64 x1)), .c (.f (.i .i64 x2))])] [] = K_Ar g_AK g_BM g_AE g_At g_BL g_BU g_BN x0 x1 x2 ((Sum.elim (fun (d : Unit) => some (Res.mk (AV.tup [RV.c CV.nilp,
 RV.c (fI 1)]) [] [])) (fun (d : Int × Int × Int × Int × Int) => some (Res.mk (AV.tup [RV.c (CV.ptr 0 (Off.k 0) 5), RV.c (fI 0)]) [] [[sI d.1, sI d.2.1, sI d.2.2.1, sI d.2.2.2.1,
 sI d.c4]])))) := by kernel_rfl
theorem m_Ar {ρ σ : Type} (q : ρ → Option σ) (g_AK : t33GN2) (g_BM : t20GN2) (g_AE : t16GN2) (g_At : t23GN2) (g_BL : t23GN2) (g_BU : t23GN2) (g_BN : t16GN2) (x0 : Int) (x1 : Int) (x2 : Int) (k : (Unit ⊕ Int × Int × Int × Int × Int) → Option ρ) : (K_Ar g_AK g_BM g_AE g_At g_BL g_BU g_BN x0 x1 x2 k).bind q = K_Ar g_AK g_BM g_AE g_At g_BL g_BU g_BN x0 x1 x2 (fun d => (k d).bind q) := by
  simp only [K_Ar, bnd_cond, bnd_bind, bnd_none, bnd_sum]
theorem qa_Ar : ∀ b, (QA_Ar).em b = ([.r (.agg [.c (.f (.i .i64 b.1.1.1)), .c (.f (.i .i64 b.1.1.2.1)), .c (.f (.i .i64 b.1.1.2.2.1))])], []) := fun b => by kernel_rfl
theorem e_Ar {f : (Int) → (Int) → (Int) → Option (Unit ⊕ Int × Int × Int × Int × Int)} {args : List AV} {h : List Blk} {r : Res} (hr : (F_Ar f args h).eval = some r) : ∃ x0 x1 x2, args = [.r (.agg [.c (.f (.i .i64 x0)), .c (.f (.i .i64 x1)), .c (.f (.i .i64 x2))])] ∧ h = [] ∧ (f x0 x1 x2).bind ((Sum.elim (fun (d : Unit) => some (Res.mk (AV.tup [RV.c CV.nilp,
 RV.c (fI 1)]) [] [])) (fun (d : Int × Int × Int × Int × Int) => some (Res.mk (AV.tup [RV.c (CV.ptr 0 (Off.k 0) 5), RV.c (fI 0)]) [] [[sI d.1, sI d.2.1, sI d.2.2.1, sI d.2.2.2.1,
 sI d.c4]])))) = some r := by
  unfold F_Ar at hr
  split at hr
  · rename_i b hb
    have e := ((QA_Ar).ok _ _ hb).trans (qa_Ar b)
    rw [opt_eval2] at hr
    simp only [sum_eval, leaf_eval] at hr
    exact ⟨b.1.1.1, b.1.1.2.1, b.1.1.2.2.1, (Prod.mk.inj e).1, (Prod.mk.inj e).2, hr⟩
  · cases hr
theorem n_Ar {σ : Type} (q : (Unit ⊕ Int × Int × Int × Int × Int) → Option σ) (x0 : Int) (x1 : Int) (x2 : Int) : (f_Ar x0 x1 x2).bind q = K_Ar f_AK f_BM f_AE f_At f_BL f_BU f_BN x0 x1 x2 q := by
  unfold f_Ar
  exact m_Ar q f_AK f_BM f_AE f_At f_BL f_BU f_BN x0 x1 x2 some
theorem s_Ar [Amb] : Sound Try.prog 10 (F_Ar f_Ar) := (inl_sound (l := [(20, F_AK f_AK), (29, F_BM f_BM), (28, F_AE f_AE), (31, F_At f_At), (32, F_BL f_BL), (33, F_BU f_BU), (34, F_BN f_BN)]) (.cons s_AK (.cons s_BM (.cons s_AE (.cons s_At (.cons s_BL (.cons s_BU (.cons s_BN (.nil _)))))))) mixed [] [] 200 (by kernel_rfl)).by (F := F_Ar f_Ar) fun args b r hr => by
  obtain ⟨x0, x1, x2, rfl, rfl, hr1⟩ := e_Ar hr
  exact inl_eval ((d_Ar f_AK f_BM f_AE f_At f_BL f_BU f_BN x0 x1 x2).trans ((n_Ar ((Sum.elim (fun (d : Unit) => some (Res.mk (AV.tup [RV.c CV.nilp, RV.c (fI 1)]) [] [])) (fun (d : Int × Int × Int × Int × Int) => some (Res.mk (AV.tup [RV.c (CV.ptr 0 (Off.k 0) 5), RV.c (fI 0)]) []
    [[sI d.1, sI d.2.1, sI d.2.2.1, sI d.2.2.2.1,
        sI d.c4]])))) x0 x1 x2).symm.trans hr1))

def S_AF_0 {ρ : Type} (x0 : Nat) (x1 : Bool) (x2 : Int) (x3 : Int) (x4 : Nat) (x5 : NI) (x6 : NI) (x7 : NI) (c : (Nat × Bool × Int × Int × Nat × NI × NI × NI) → Option ρ) (x : (Nat × Bool × Int × Int × Bool × Nat × NI × NI × NI) →
 Option ρ) : Option ρ := bif decide (x3 < x2) then bif inR x3 x0 then bif decide (x5 (Int.toNat x3) ≥ 0) then bif decide (x5 (Int.toNat x3) < 24) then bif inR (x5 (Int.toNat x3)) 24 then bif true && Nat.ble (0 + Int.toNat (x5 (Int.toNat x3)) * 1 + 1) 24 then c (x0, x1, x2, IntKind.wrap .i64 (x3 + 1),
 x4, x5, x6, fun (j : Nat) => bif Nat.beq j (Int.toNat (x5 (Int.toNat x3))) then 1073741824 else x7 j) else none else none else c (x0, x1, x2, IntKind.wrap .i64 (x3 + 1), x4, x5, x6, x7) else c (x0, x1, x2, IntKind.wrap .i64 (x3 + 1), x4, x5, x6, x7) else none else x (x0, x1, x2, x3, decide (x3 < x2),
 x4, x5, x6, x7)
section
open Go.Ab.Rdr
def Q_AF_0 := (st (cons aund (cons aund (cons (ar (rc (cptr (nat 1) (ok' (nat 0)) (nat 24)))) (cons (ar (rc (cptr (nat 2) (ok' (nat 0)) (nat 24)))) (cons aund (cons aund (cons (ar (rc (csl (nat 0) (ok' (nat 0)) (szs hole) (nat 1) hole))) (cons (ar (rc (cf (fi .i64 hole)))) (cons (ar (rc (cf (fi .i64 hole)))) (cons aund (cons aund (cons aund (cons aund (cons aund (cons aund (cons aund (cons aund (cons aund (cons aund (cons aund (cons aund (cons aund nil)))))))))))))))))))))) (cons (some' (cons (ga (szs hole) (cons (ki .i64 hole) nil)) nil)) (cons (some' (cons (ga (szl (nat 24)) (cons (ki .i64 hole) nil)) nil)) (cons (some' (cons (ga (szl (nat 24)) (cons (ki .i64 hole) nil)) nil)) nil))) nil)
end
theorem q_AF_0 : ∀ b, (Q_AF_0).em b = St.mk [un, un, AV.r (RV.c (CV.ptr 1 (Off.k 0) 24)), AV.r (RV.c (CV.ptr 2 (Off.k 0) 24)), un, un, AV.r (RV.c (CV.sl 0 (Off.k 0) (Sz.s b.1.c4.2.2.1.2.2.1) 1 b.1.c4.2.2.1.c4)), rI b.1.c4.2.2.2.1,
 rI b.1.c8.1, un, un, un, un, un, un, un, un, un, un, un, un, un] [some [Sg.a (Sz.s b.2.1.1.1.1) [kI b.2.1.1.1.2.1]], some [Sg.a (Sz.l 24) [kI b.2.1.2.1.1.2.1]], some [Sg.a (Sz.l 24) [kI b.2.1.2.2.1.1.2.1]]] [] := fun b => by kernel_rfl
def R_AF_0 (l : ∀ {ρ : Type}, (Nat × Bool × Int × Int × Nat × NI × NI × NI) → ((Nat × Bool × Int × Int × Bool × Nat × NI × NI × NI) → Option ρ) → Option ρ) {ρ : Type} (s : St) (K : AX → St → Option ρ) : Option ρ := ((Q_AF_0).rd s).bind fun b => l (b.1.c4.2.2.1.2.2.1,
 b.1.c4.2.2.1.c4, b.1.c4.2.2.2.1, b.1.c8.1, b.2.1.1.1.1, b.2.1.1.1.2.1, b.2.1.2.1.1.2.1, b.2.1.2.2.1.1.2.1) (fun d => K (AX.ex 0) (St.mk [un, un, AV.r (RV.c (CV.ptr 1 (Off.k 0) 24)), AV.r (RV.c (CV.ptr 2 (Off.k 0) 24)), un, un, AV.r (RV.c (CV.sl 0 (Off.k 0) (Sz.s d.1) 1 d.2.1)),
 rI d.2.2.1, rI d.2.2.2.1, rB d.c4.1, un, un, un, un, un, un, un, un, un, un, un, un] [some [Sg.a (Sz.s d.c4.2.1) [kI d.c4.2.2.1]],
 some [Sg.a (Sz.l 24) [kI d.c4.2.2.2.1]], some [Sg.a (Sz.l 24) [kI d.c8]]] []))
theorem ms_AF_0 {ρ σ : Type} (q : ρ → Option σ) (x0 : Nat) (x1 : Bool) (x2 : Int) (x3 : Int) (x4 : Nat) (x5 : NI) (x6 : NI) (x7 : NI) (c : (Nat × Bool × Int × Int × Nat × NI × NI × NI) → Option ρ) (x : (Nat × Bool × Int × Int × Bool × Nat × NI × NI × NI) → Option ρ) : (S_AF_0 x0 x1 x2 x3 x4 x5 x6 x7 c x).bind q = S_AF_0 x0 x1 x2 x3 x4 x5 x6 x7 (fun d => (c d).bind q) (fun d => (x d).bind q) := by
  simp only [S_AF_0, bnd_cond, bnd_bind, bnd_none, bnd_sum]
def L_AF_0 {ρ : Type} (d : Nat × Bool × Int × Int × Nat × NI × NI × NI) (k : (Nat × Bool × Int × Int × Bool × Nat × NI × NI × NI) → Option ρ) : Option ρ := loopK (fun d c x => S_AF_0 d.1 d.2.1 d.2.2.1 d.2.2.2.1 d.c4.1 d.c4.2.1 d.c4.2.2.1 d.c4.2.2.2 c x) 200 d k
theorem mL_AF_0 {ρ σ : Type} (q : ρ → Option σ) (d : Nat × Bool × Int × Int × Nat × NI × NI × NI) (k : (Nat × Bool × Int × Int × Bool × Nat × NI × NI × NI) → Option ρ) : (L_AF_0 d k).bind q = L_AF_0 d fun x => (k x).bind q := loopK_bind q (fun d c x => ms_AF_0 q d.1 d.2.1 d.2.2.1 d.2.2.2.1 d.c4.1 d.c4.2.1 d.c4.2.2.1 d.c4.2.2.2 c x) k _ d
theorem ds_AF_0 {ρ : Type} (l_0 : ∀ {ρ : Type}, (Nat × Bool × Int × Int × Nat × NI × NI × NI) → ((Nat × Bool × Int × Int × Bool × Nat × NI × NI × NI) → Option ρ) → Option ρ) (x0 : Nat) (x1 : Bool) (x2 : Int) (x3 : Int) (x4 : Nat) (x5 : NI) (x6 : Nat →
 Int) (x7 : NI) (c : St → Option ρ) (K : AX → St → Option ρ) : runC Try.prog (envOf []) ⟨[⟨3, [0, 1, 4, 5, 9, 10, 11, 12, 13, 14, 17, 18, 19, 20, 21, 15, 16], []⟩], [⟨3, 1, @R_AF_0 (@l_0)⟩], [], [], (some ⟨0, u10GN2, []⟩)⟩ (tmpsOf Try.prog 25) 1 200 (loopIn Try.prog 25 3) (St.mk [un,
 un, AV.r (RV.c (CV.ptr 1 (Off.k 0) 24)), AV.r (RV.c (CV.ptr 2 (Off.k 0) 24)), un, un, AV.r (RV.c (CV.sl 0 (Off.k 0) (Sz.s x0) 1 x1)), rI x2, rI x3, un, un, un, un, un, un, un, un, un,
 un, un, un, un] [some [Sg.a (Sz.s x4) [kI x5]], some [Sg.a (Sz.l 24) [kI x6]], some [Sg.a (Sz.l 24) [kI x7]]] []) (next (fun t => t.head 1 ⟨[⟨3, [0, 1, 4, 5, 9, 10, 11, 12, 13, 14, 17, 18, 19, 20, 21, 15, 16], []⟩], [⟨3, 1, @R_AF_0 (@l_0)⟩],
 [], [], (some ⟨0, u10GN2, []⟩)⟩ (loopIn Try.prog 25 3)) c K) = S_AF_0 x0 x1 x2 x3 x4 x5 x6 x7 (fun d => c (St.mk [un, un, AV.r (RV.c (CV.ptr 1 (Off.k 0) 24)), AV.r (RV.c (CV.ptr 2 (Off.k 0) 24)), un, un, AV.r (RV.c (CV.sl 0 (Off.k 0) (Sz.s d.1) 1 d.2.1)),
 rI d.2.2.1, rI d.2.2.2.1, un, un, un, un, un, un, un, un, un, un, un, un, un] [some [Sg.a (Sz.s d.c4.1) [kI d.c4.2.1]], some [Sg.a (Sz.l 24) [kI d.c4.2.2.1]],
 some [Sg.a (Sz.l 24) [kI d.c4.2.2.2]]] [])) (fun d => K (AX.ex 0) (St.mk [un, un, AV.r (RV.c (CV.ptr 1 (Off.k 0) 24)), AV.r (RV.c (CV.ptr 2 (Off.k 0) 24)), un, un, AV.r (RV.c (CV.sl 0 (Off.k 0) (Sz.s d.1) 1 d.2.1)), rI d.2.2.1, rI d.2.2.2.1,
 rB d.c4.1, un, un, un, un, un, un, un, un, un, un, un, un] [some [Sg.a (Sz.s d.c4.2.1) [kI d.c4.2.2.1]], some [Sg.a (Sz.l 24) [kI d.c4.2.2.2.1]], some [Sg.a (Sz.l 24) [kI d.c8]]] [])) := by kernel_rfl
theorem it_AF_0 {ρ : Type} (x0 : Nat) (x1 : Bool) (x2 : Int) (x3 : Int) (x4 : Nat) (x5 : NI) (x6 : NI) (x7 : NI) (K : AX → St → Option ρ) : iter (fun t => t.head 1 ⟨[⟨3, [0, 1, 4, 5, 9, 10, 11, 12, 13, 14, 17, 18, 19, 20, 21, 15, 16], []⟩], [⟨3, 1, @R_AF_0 (@L_AF_0)⟩], [], [], (some ⟨0,
 u10GN2, []⟩)⟩ (loopIn Try.prog 25 3)) (runC Try.prog (envOf []) ⟨[⟨3, [0, 1, 4, 5, 9, 10, 11, 12, 13, 14, 17, 18, 19, 20, 21, 15, 16], []⟩], [⟨3, 1, @R_AF_0 (@L_AF_0)⟩], [], [], (some ⟨0, u10GN2, []⟩)⟩ (tmpsOf Try.prog 25) 1 200 (loopIn Try.prog 25 3)) K 200 (St.mk [un, un, AV.r (RV.c (CV.ptr 1 (Off.k 0) 24)), AV.r (RV.c (CV.ptr 2 (Off.k 0) 24)), un, un, AV.r (RV.c (CV.sl 0 (Off.k 0) (Sz.s x0) 1 x1)), rI x2, rI x3,
 un, un, un, un, un, un, un, un, un, un, un, un, un] [some [Sg.a (Sz.s x4) [kI x5]], some [Sg.a (Sz.l 24) [kI x6]], some [Sg.a (Sz.l 24) [kI x7]]] []) = L_AF_0 (x0, x1, x2, x3, x4, x5, x6, x7) (fun d => K (AX.ex 0) (St.mk [un,
 un, AV.r (RV.c (CV.ptr 1 (Off.k 0) 24)), AV.r (RV.c (CV.ptr 2 (Off.k 0) 24)), un, un, AV.r (RV.c (CV.sl 0 (Off.k 0) (Sz.s d.1) 1 d.2.1)), rI d.2.2.1, rI d.2.2.2.1, rB d.c4.1, un, un,
 un, un, un, un, un, un, un, un, un, un] [some [Sg.a (Sz.s d.c4.2.1) [kI d.c4.2.2.1]], some [Sg.a (Sz.l 24) [kI d.c4.2.2.2.1]], some [Sg.a (Sz.l 24) [kI d.c8]]] [])) := iter_loopX (emb := fun (d : Nat ×
 Bool × Int × Int × Nat × NI × NI × NI) => St.mk [un, un, AV.r (RV.c (CV.ptr 1 (Off.k 0) 24)), AV.r (RV.c (CV.ptr 2 (Off.k 0) 24)), un, un, AV.r (RV.c (CV.sl 0 (Off.k 0) (Sz.s d.1) 1 d.2.1)), rI d.2.2.1, rI d.2.2.2.1,
 un, un, un, un, un, un, un, un, un, un, un, un, un] [some [Sg.a (Sz.s d.c4.1) [kI d.c4.2.1]], some [Sg.a (Sz.l 24) [kI d.c4.2.2.1]], some [Sg.a (Sz.l 24) [kI d.c4.2.2.2]]] []) (step := fun d c x => S_AF_0 d.1 d.2.1 d.2.2.1 d.2.2.2.1 d.c4.1 d.c4.2.1 d.c4.2.2.1 d.c4.2.2.2 c x) (kx := (fun d => K (AX.ex 0) (St.mk [un,
 un, AV.r (RV.c (CV.ptr 1 (Off.k 0) 24)), AV.r (RV.c (CV.ptr 2 (Off.k 0) 24)), un, un, AV.r (RV.c (CV.sl 0 (Off.k 0) (Sz.s d.1) 1 d.2.1)), rI d.2.2.1, rI d.2.2.2.1, rB d.c4.1, un, un,
 un, un, un, un, un, un, un, un, un, un] [some [Sg.a (Sz.s d.c4.2.1) [kI d.c4.2.2.1]], some [Sg.a (Sz.l 24) [kI d.c4.2.2.2.1]], some [Sg.a (Sz.l 24) [kI d.c8]]] []))) (fun d c => ds_AF_0 (@L_AF_0) d.1 d.2.1 d.2.2.1 d.2.2.2.1 d.c4.1 d.c4.2.1 d.c4.2.2.1 d.c4.2.2.2 c K) 200 (x0,
 x1, x2, x3, x4, x5, x6, x7)
theorem so_AF_0 [Amb] : ∀ kk, SumOK Try.prog (envOf []) ⟨[⟨3, [0, 1, 4, 5, 9, 10, 11, 12, 13, 14, 17, 18, 19, 20, 21, 15, 16], []⟩], [⟨3, 1, @R_AF_0 (@L_AF_0)⟩], [], [], (some ⟨0, u10GN2, []⟩)⟩ (tmpsOf Try.prog 25) kk 200 (loopIn Try.prog 25 3) := SumOK.of (id := 3) (k0 := 1) (run := @R_AF_0 (@L_AF_0)) (by kernel_rfl) fun s K r hr => by
    unfold R_AF_0 at hr
    obtain ⟨b, hb, hr1⟩ := Option.bind_eq_some_iff.1 hr
    have e := ((Q_AF_0).ok s b hb).trans (q_AF_0 b)
    subst e
    exact ⟨200, (it_AF_0 b.1.c4.2.2.1.2.2.1 b.1.c4.2.2.1.c4 b.1.c4.2.2.2.1 b.1.c8.1 b.2.1.1.1.1 b.2.1.1.1.2.1 b.2.1.2.1.1.2.1 b.2.1.2.2.1.1.2.1 K).trans hr1⟩
def K_AF {ρ : Type} (l_0 : ∀ {ρ : Type}, (Nat × Bool × Int × Int × Nat × NI × NI × NI) → ((Nat × Bool × Int × Int × Bool × Nat × NI × NI × NI) → Option ρ) → Option ρ) (x0 : Nat) (x1 : NI) (w0 : Bool) (k : NI → Option ρ) : Option ρ := l_0 (x0,
 w0, Int.ofNat x0, 0, x0, x1, fun (x : Nat) => 0, fun (x : Nat) => 0) fun (d : Nat × Bool × Int × Int × Bool × Nat × NI × NI × NI) => k d.c8
def f_AF (x0 : Nat) (x1 : NI) (w0 : Bool) : Option NI := K_AF (@L_AF_0) x0 x1 w0 some
section
open Go.Ab.Rdr
def QA_AF := ((pair (cons (ar (rc (csl (nat 0) (ok' (nat 0)) (szs hole) (nat 1) hole))) nil) (cons (cons (ga (szs hole) (cons (ki .i64 hole) nil)) nil) nil)) : Rdr (List AV × List Blk) _)
end
def F0_AF (f : (Nat) → NI → (Bool) → Option NI) : Sem1 := fun args h => match (QA_AF).rd (args, h) with
  | some b => .test (Nat.beq b.2.1.1.1 b.1.1.2.2.1) (.opt (f b.1.1.2.2.1 b.2.1.1.2.1 b.1.1.c4) fun (d : NI) => .leaf (Res.mk (AV.r (RV.agg [Sg.a (Sz.l 24) [kI d]])) [Ch.keep] [])) .fail
  | none => .fail
def F_AF (f : (Nat) → NI → (Bool) → Option NI) : Sem1 := (nilF 0 [.i .i64] (F0_AF f))
theorem d_AF (l_0 : ∀ {ρ : Type}, (Nat × Bool × Int × Int × Nat × NI × NI × NI) → ((Nat × Bool × Int × Int × Bool × Nat × NI × NI × NI) → Option ρ) → Option ρ) (x0 : Nat) (x1 : NI) (w0 : Bool) : den Try.prog (envOf []) ⟨[⟨3, [0, 1, 4, 5, 9,
 10, 11, 12, 13, 14, 17, 18, 19, 20, 21, 15, 16], []⟩], [⟨3, 1, @R_AF_0 (@l_0)⟩], [], [], (some ⟨0, u10GN2, []⟩)⟩ 200 25 [.r (.c (.sl 0 (.k 0) (.s x0) 1 w0))] [[.a (.s x0) [.i .i64 x1]]] = K_AF (@l_0) x0 x1 w0 (fun (d : NI) => some (Res.mk (AV.r (RV.agg [Sg.a (Sz.l 24) [kI d]])) [Ch.keep] [])) := by kernel_rfl
theorem m_AF {ρ σ : Type} (q : ρ → Option σ) (l_0 : ∀ {ρ : Type}, (Nat × Bool × Int × Int × Nat × NI × NI × NI) → ((Nat × Bool × Int × Int × Bool × Nat × NI × NI × NI) → Option ρ) → Option ρ) (hl_0 : ∀ {ρ σ : Type} (q : ρ → Option σ) (d : Nat × Bool × Int × Int × Nat × NI × NI × NI) (k : (Nat × Bool × Int × Int × Bool × Nat × NI × NI × NI) → Option ρ), (l_0 d k).bind q = l_0 d fun x => (k x).bind q) (x0 : Nat) (x1 : NI) (w0 : Bool) (k : NI → Option ρ) : (K_AF (@l_0) x0 x1 w0 k).bind q = K_AF (@l_0) x0 x1 w0 (fun d => (k d).bind q) := by
  simp only [K_AF, bnd_cond, bnd_bind, bnd_none, bnd_sum, hl_0]
theorem qa_AF : ∀ b, (QA_AF).em b = ([.r (.c (.sl 0 (.k 0) (.s b.1.1.2.2.1) 1 b.1.1.c4))], [[.a (.s b.2.1.1.1) [.i .i64 b.2.1.1.2.1]]]) := fun b => by kernel_rfl
theorem e_AF {f : (Nat) → NI → (Bool) → Option NI} {args : List AV} {h : List Blk} {r : Res} (hr : (F0_AF f args h).eval = some r) : ∃ x0 x1 w0, args = [.r (.c (.sl 0 (.k 0) (.s x0) 1 w0))] ∧ h = [[.a (.s x0) [.i .i64 x1]]] ∧ (f x0 x1 w0).bind (fun (d : NI) => some (Res.mk (AV.r (RV.agg [Sg.a (Sz.l 24) [kI d]])) [Ch.keep] [])) = some r := by
  unfold F0_AF at hr
  split at hr
  · rename_i b hb
    have e := ((QA_AF).ok _ _ hb).trans (qa_AF b)
    obtain ⟨he, hr1⟩ := test_eval hr
    clear hr
    have hr := hr1
    clear hr1
    rw [Nat.eq_of_beq_eq_true he] at e
    clear he
    rw [opt_eval2] at hr
    exact ⟨b.1.1.2.2.1, b.2.1.1.2.1, b.1.1.c4, (Prod.mk.inj e).1, (Prod.mk.inj e).2, hr⟩
  · cases hr
theorem n_AF {σ : Type} (q : NI → Option σ) (x0 : Nat) (x1 : NI) (w0 : Bool) : (f_AF x0 x1 w0).bind q = K_AF (@L_AF_0) x0 x1 w0 q := by
  unfold f_AF
  exact m_AF q (@L_AF_0) (fun q d k => mL_AF_0 q d k) x0 x1 w0 some
theorem s_AF [Amb] : Sound Try.prog 25 (F_AF f_AF) := Sound.nil 0 [.i .i64] <| (inl_sums (l := []) (.nil _) mixed (hs := ⟨[⟨3, [0, 1, 4, 5, 9, 10, 11, 12, 13, 14, 17, 18, 19, 20, 21, 15, 16], []⟩], [⟨3, 1, @R_AF_0 (@L_AF_0)⟩], [], [], (some ⟨0, u10GN2, []⟩)⟩) (lf := 200) (Sums.by (l := [loopIn Try.prog 25 3]) (lj := []) (by kernel_rfl) ⟨so_AF_0, trivial⟩ (by kernel_rfl) trivial) (by kernel_rfl)).by (F := F0_AF f_AF) fun args b r hr => by
  obtain ⟨x0, x1, w0, rfl, rfl, hr1⟩ := e_AF hr
  exact inl_eval ((d_AF (@L_AF_0) x0 x1 w0).trans ((n_AF (fun (d : NI) => some (Res.mk (AV.r (RV.agg [Sg.a (Sz.l 24) [kI d]])) [Ch.keep] [])) x0 x1 w0).symm.trans hr1))

def K_BV {ρ : Type} (g_J : t23GN2) (x0 : Int) (x1 : Int) (x2 : Bool) (k : (Int × Bool) → Option ρ) : Option ρ := Option.bind (g_J x0 x2) fun (d : Int × Bool) => Option.bind (g_J x1 d.2) fun (d_1 : Int × Bool) => Option.bind (g_J (IntKind.wrap .i64 (d.1 - d_1.1)) d_1.2) fun (d : Int ×
 Bool) => k (d.1, d.2)
def f_BV (x0 : Int) (x1 : Int) (x2 : Bool) : Option (Int × Bool) := K_BV f_J x0 x1 x2 some
section
open Go.Ab.Rdr
def QA_BV := ((pair (cons (ar (rc (cptr (nat 0) (ok' (nat 0)) (nat 1)))) (cons (ar (rc (cf (fi .i64 hole)))) (cons (ar (rc (cf (fi .i64 hole)))) nil))) (cons (cons (gc (cf (fb hole))) nil) nil)) : Rdr (List AV × List Blk) _)
end
def F_BV (f : (Int) → (Int) → (Bool) → Option (Int × Bool)) : Sem1 := fun args h => match (QA_BV).rd (args, h) with
  | some b => .opt (f b.1.2.1 b.1.2.2.1 b.2.1.1) fun (d : Int × Bool) => .leaf (Res.mk (rI d.1) [Ch.set [sB d.2]] [])
  | none => .fail
theorem d_BV (g_J : t23GN2) (x0 : Int) (x1 : Int) (x2 : Bool) : den Try.prog (envOf [(52, F_J g_J)]) ⟨[], [], [], [], none⟩ 200 60 [.r (.c (.ptr 0 (.k 0) 1)), rI x0, rI x1] [[.c (.f (.b x2))]] = K_BV g_J x0 x1 x2 (fun (d : Int × Bool) => some (Res.mk (rI d.1) [Ch.set [sB d.2]] [])) := by kernel_rfl
theorem m_BV {ρ σ : Type} (q : ρ → Option σ) (g_J : t23GN2) (x0 : Int) (x1 : Int) (x2 : Bool) (k : (Int × Bool) → Option ρ) : (K_BV g_J x0 x1 x2 k).bind q = K_BV g_J x0 x1 x2 (fun d => (k d).bind q) := by
  simp only [K_BV, bnd_cond, bnd_bind, bnd_none, bnd_sum]
theorem qa_BV : ∀ b, (QA_BV).em b = ([.r (.c (.ptr 0 (.k 0) 1)), rI b.1.2.1, rI b.1.2.2.1], [[.c (.f (.b b.2.1.1))]]) := fun b => by kernel_rfl
theorem e_BV {f : (Int) → (Int) → (Bool) → Option (Int × Bool)} {args : List AV} {h : List Blk} {r : Res} (hr : (F_BV f args h).eval = some r) : ∃ x0 x1 x2, args = [.r (.c (.ptr 0 (.k 0) 1)), rI x0, rI x1] ∧ h = [[.c (.f (.b x2))]] ∧ (f x0 x1 x2).bind (fun (d : Int × Bool) => some (Res.mk (rI d.1) [Ch.set [sB d.2]] [])) = some r := by
  unfold F_BV at hr
  split at hr
  · rename_i b hb
    have e := ((QA_BV).ok _ _ hb).trans (qa_BV b)
    rw [opt_eval2] at hr
    exact ⟨b.1.2.1, b.1.2.2.1, b.2.1.1, (Prod.mk.inj e).1, (Prod.mk.inj e).2, hr⟩
  · cases hr
theorem n_BV {σ : Type} (q : (Int × Bool) → Option σ) (x0 : Int) (x1 : Int) (x2 : Bool) : (f_BV x0 x1 x2).bind q = K_BV f_J x0 x1 x2 q := by
  unfold f_BV
  exact m_BV q f_J x0 x1 x2 some
theorem s_BV [Amb] : Sound Try.prog 60 (F_BV f_BV) := (inl_sound (l := [(52, F_J f_J)]) (.cons s_J (.nil _)) mixed [] [] 200 (by kernel_rfl)).by (F := F_BV f_BV) fun args b r hr => by
  obtain ⟨x0, x1, x2, rfl, rfl, hr1⟩ := e_BV hr
  exact inl_eval ((d_BV f_J x0 x1 x2).trans ((n_BV (fun (d : Int × Bool) => some (Res.mk (rI d.1) [Ch.set [sB d.2]] [])) x0 x1 x2).symm.trans hr1))

def K_AU {ρ : Type} (g_AF : t34GN2) (g_BV : t20GN2) (x0 : NI) (x1 : Int) (x2 : Int) (x3 : Int) (x4 : Int) (x5 : Bool) (k : (NI × Int × Int × Int × Bool) → Option ρ) : Option ρ := Option.bind (g_AF 1 (fun (j : Nat) => bif Nat.beq j 0 then
 x1 else x1) true) fun (d : NI) => bif inR x1 24 then Option.bind (g_BV x2 (x0 (Int.toNat x1)) x5) fun (d_1 : Int × Bool) => k (d, d_1.1, x3, x4, d_1.2) else none
def f_AU (x0 : NI) (x1 : Int) (x2 : Int) (x3 : Int) (x4 : Int) (x5 : Bool) : Option (NI × Int × Int × Int × Bool) := K_AU f_AF f_BV x0 x1 x2 x3 x4 x5 some
section
open Go.Ab.Rdr
def QA_AU := ((pair (cons (ar (rc (cptr (nat 0) (ok' (nat 0)) (nat 1)))) (cons (ar (ra (cons (ga (szl (nat 24)) (cons (ki .i64 hole) nil)) nil))) (cons (ar (rc (cf (fi .i64 hole)))) (cons (ar (rc (cf (fi .i64 hole)))) (cons (ar (rc (cf (fi .i64 hole)))) (cons (ar (rc (cf (fi .i64 hole)))) nil)))))) (cons (cons (gc (cf (fb hole))) nil) nil)) : Rdr (List AV × List Blk) _)
end
def F_AU (f : NI → (Int) → (Int) → (Int) → (Int) → (Bool) → Option (NI × Int × Int × Int × Bool)) : Sem1 := fun args h => match (QA_AU).rd (args, h) with
  | some b => .opt (f b.1.2.1.1.2.1 b.1.2.2.1 b.1.2.2.2.1 b.1.c4.1 b.1.c4.2.1 b.2.1.1) fun (d : NI × Int × Int × Int × Bool) => .leaf (Res.mk
    (AV.r (RV.agg [Sg.a (Sz.l 24) [kI d.1], sI d.2.1, sI d.2.2.1, sI d.2.2.2.1]))
    [Ch.set [sB d.c4]] [])
  | none => .fail
theorem d_AU (g_AF : t34GN2) (g_BV : t20GN2) (x0 : NI) (x1 : Int) (x2 : Int) (x3 : Int) (x4 : Int) (x5 : Bool) : den Try.prog (envOf [(25, F_AF g_AF), (60, F_BV g_BV)]) ⟨[], [], [], [], none⟩ 200 35 [.r (.c (.ptr 0 (.k 0) 1)),
 .r (.agg [.a (.l 24) [.i .i64 x0]]), rI x1, rI x2, rI x3, rI x4] [[.c (.f (.b x5))]] = K_AU g_AF g_BV x0 x1 x2 x3 x4 x5 (fun (d : NI × Int × Int × Int × Bool) => some (Res.mk (AV.r (RV.agg [Sg.a (Sz.l 24) [kI d.1],
 sI d.2.1, sI d.2.2.1, sI d.2.2.2.1])) [Ch.set [sB d.c4]] [])) := by kernel_rfl
theorem m_AU {ρ σ : Type} (q : ρ → Option σ) (g_AF : t34GN2) (g_BV : t20GN2) (x0 : NI) (x1 : Int) (x2 : Int) (x3 : Int) (x4 : Int) (x5 : Bool) (k : (NI × Int × Int × Int × Bool) → Option ρ) : (K_AU g_AF g_BV x0 x1 x2 x3 x4 x5 k).bind q = K_AU g_AF g_BV x0 x1 x2 x3 x4 x5 (fun d => (k d).bind q) := by
  simp only [K_AU, bnd_cond, bnd_bind, bnd_none, bnd_sum]
theorem qa_AU : ∀ b, (QA_AU).em b = ([.r (.c (.ptr 0 (.k 0) 1)), .r (.agg [.a (.l 24) [.i .i64 b.1.2.1.1.2.1]]), rI b.1.2.2.1, rI b.1.2.2.2.1, rI b.1.c4.1, rI b.1.c4.2.1], [[.c (.f (.b b.2.1.1))]]) := fun b => by kernel_rfl
theorem e_AU {f : NI → (Int) → (Int) → (Int) → (Int) → (Bool) → Option (NI × Int × Int × Int × Bool)} {args : List AV} {h : List Blk} {r : Res} (hr : (F_AU f args h).eval = some r) : ∃ x0 x1 x2 x3 x4 x5, args = [.r (.c (.ptr 0 (.k 0) 1)), .r (.agg [.a (.l 24) [.i .i64 x0]]), rI x1,
 rI x2, rI x3, rI x4] ∧ h = [[.c (.f (.b x5))]] ∧ (f x0 x1 x2 x3 x4 x5).bind (fun (d : NI × Int × Int × Int × Bool) => some (Res.mk (AV.r (RV.agg [Sg.a (Sz.l 24) [kI d.1], sI d.2.1, sI d.2.2.1,
 sI d.2.2.2.1])) [Ch.set [sB d.c4]] [])) = some r := by
  unfold F_AU at hr
  split at hr
  · rename_i b hb
    have e := ((QA_AU).ok _ _ hb).trans (qa_AU b)
    rw [opt_eval2] at hr
    exact ⟨b.1.2.1.1.2.1, b.1.2.2.1, b.1.2.2.2.1, b.1.c4.1, b.1.c4.2.1, b.2.1.1, (Prod.mk.inj e).1, (Prod.mk.inj e).2, hr⟩
  · cases hr
theorem n_AU {σ : Type} (q : (NI × Int × Int × Int × Bool) → Option σ) (x0 : NI) (x1 : Int) (x2 : Int) (x3 : Int) (x4 : Int) (x5 : Bool) : (f_AU x0 x1 x2 x3 x4 x5).bind q = K_AU f_AF f_BV x0 x1 x2 x3 x4 x5 q := by
  unfold f_AU
  exact m_AU q f_AF f_BV x0 x1 x2 x3 x4 x5 some
theorem s_AU [Amb] : Sound Try.prog 35 (F_AU f_AU) := (inl_sound (l := [(25, F_AF f_AF), (60, F_BV f_BV)]) (.cons s_AF (.cons s_BV (.nil _))) mixed [] [] 200 (by kernel_rfl)).by (F := F_AU f_AU) fun args b r hr => by
  obtain ⟨x0, x1, x2, x3, x4, x5, rfl, rfl, hr1⟩ := e_AU hr
  exact inl_eval ((d_AU f_AF f_BV x0 x1 x2 x3 x4 x5).trans ((n_AU (fun (d : NI × Int × Int × Int × Bool) => some (Res.mk
    (AV.r (RV.agg [Sg.a (Sz.l 24) [kI d.1], sI d.2.1, sI d.2.2.1, sI d.2.2.2.1]))
    [Ch.set [sB d.c4]] [])) x0 x1 x2 x3 x4 x5).symm.trans hr1))

def K_BF {ρ : Type} (g_AU : t35GN2) (x0 : NI) (x1 : Int) (x2 : Int) (x3 : Int) (x4 : Int) (x5 : Int) (x6 : Int) (x7 : Int) (x8 : Int) (x9 : Int) (x10 : Bool) (k : (Bool × NI × Int × Int × Int × NI × Int × Int × Int × NI × Int × Int × Int) → Option ρ) : Option ρ := Option.bind (g_AU x0 4 x4 x8 x9 x10) fun (d : NI × Int × Int × Int × Bool) => Option.bind (g_AU x0 5 x5 x8 x9 d.c4) fun (d_1 : NI × Int × Int × Int × Bool) => Option.bind (g_AU x0 6 x6 x8 x9 d_1.c4) fun (d_2 : NI × Int × Int × Int × Bool) => k (d_2.c4, d.1, d.2.1, d.2.2.1, d.2.2.2.1, d_1.1, d_1.2.1, d_1.2.2.1, d_1.2.2.2.1, d_2.1, d_2.2.1, d_2.2.2.1, d_2.2.2.2.1)
def f_BF (x0 : NI) (x1 : Int) (x2 : Int) (x3 : Int) (x4 : Int) (x5 : Int) (x6 : Int) (x7 : Int) (x8 : Int) (x9 : Int) (x10 : Bool) : Option (Bool × NI × Int × Int × Int × NI × Int × Int × Int × NI × Int × Int × Int) := K_BF f_AU x0 x1 x2 x3 x4 x5 x6 x7 x8 x9 x10 some
section
open Go.Ab.Rdr
def QA_BF := ((pair (cons (ar (rc (cptr (nat 0) (ok' (nat 0)) (nat 1)))) (cons (ar (ra (cons (ga (szl (nat 24)) (cons (ki .i64 hole) nil)) nil))) (cons (ar (ra (cons (gc (cf (fi .i64 hole))) (cons (gc (cf (fi .i64 hole))) (cons (gc (cf (fi .i64 hole))) (cons (gc (cf (fi .i64 hole))) (cons (gc (cf (fi .i64 hole))) (cons (gc (cf (fi .i64 hole))) (cons (gc (cf (fi .i64 hole))) (cons (gc (cf (fi .i64 hole))) nil)))))))))) (cons (ar (rc (cf (fi .i64 hole)))) nil)))) (cons (cons (gc (cf (fb hole))) nil) nil)) : Rdr (List AV × List Blk) _)
end
def F_BF (f : NI → (Int) → (Int) → (Int) → (Int) → (Int) → (Int) → (Int) → (Int) → (Int) → (Bool) → Option (Bool × NI × Int × Int × Int × NI × Int × Int × Int × NI × Int × Int × Int)) : Sem1 := fun args h => match (QA_BF).rd (args, h) with
  | some b => .opt (f b.1.2.1.1.2.1 b.1.2.2.1.1 b.1.2.2.1.2.1 b.1.2.2.1.2.2.1 b.1.2.2.1.2.2.2.1 b.1.2.2.1.c4.1 b.1.2.2.1.c4.2.1 b.1.2.2.1.c4.2.2.1 b.1.2.2.1.c4.2.2.2.1 b.1.2.2.2.1 b.2.1.1) fun (d : Bool × NI × Int × Int × Int × NI × Int × Int × Int × NI × Int × Int × Int) => .leaf (Res.mk (AV.r (RV.c (CV.sl 1 (Off.k 0) (Sz.l 3) 27 true))) [Ch.set [sB d.1]]
    [[Sg.a (Sz.l 24) [kI d.2.1], sI d.2.2.1, sI d.2.2.2.1,
        sI d.c4.1, Sg.a (Sz.l 24) [kI d.c4.2.1], sI d.c4.2.2.1,
        sI d.c4.2.2.2.1, sI d.c8.1,
        Sg.a (Sz.l 24) [kI d.c8.2.1], sI d.c8.2.2.1,
        sI d.c8.2.2.2.1, sI d.c8.c4]])
  | none => .fail
theorem d_BF (g_AU : t35GN2) (x0 : NI) (x1 : Int) (x2 : Int) (x3 : Int) (x4 : Int) (x5 : Int) (x6 : Int) (x7 : Int) (x8 : Int) (x9 : Int) (x10 : Bool) : den Try.prog (envOf [(35, F_AU g_AU)]) ⟨[⟨3, u11GN2, []⟩], [], [], [], (some ⟨0, u12GN2, []⟩)⟩ 200 18 [.r (.c (.ptr 0 (.k 0) 1)), .r (.agg [.a (.l 24) [.i .i64 x0]]),
 .r (.agg [.c (.f (.i .i64 x1)), .c (.f (.i .i64 x2)), .c (.f (.i .i64 x3)), .c (.f (.i .i64 x4)), .c (.f (.i .i64 x5)), .c (.f (.i .i64 x6)), .c (.f (.i .i64 x7)), .c (.f (.i .i64 x8))]), rI x9] [[.c (.f (.b x10))]] = K_BF g_AU x0 x1 x2 x3 x4 x5 x6 x7 x8 x9 x10 (fun (d : Bool × NI × Int × Int × Int × NI × Int × Int × Int × NI × Int × Int × Int) => some (Res.mk (AV.r (RV.c (CV.sl 1 (Off.k 0) (Sz.l 3) 27 true))) [Ch.set [sB d.1]] [[Sg.a (Sz.l 24) [kI d.2.1], sI d.2.2.1, sI d.2.2.2.1,
 sI d.c4.1, Sg.a (Sz.l 24) [kI d.c4.2.1], sI d.c4.2.2.1, sI d.c4.2.2.2.1, sI d.c8.1, Sg.a (Sz.l 24) [kI d.c8.2.1],
 sI d.c8.2.2.1, sI d.c8.2.2.2.1, sI d.c8.c4]])) := by kernel_rfl
theorem m_BF {ρ σ : Type} (q : ρ → Option σ) (g_AU : t35GN2) (x0 : NI) (x1 : Int) (x2 : Int) (x3 : Int) (x4 : Int) (x5 : Int) (x6 : Int) (x7 : Int) (x8 : Int) (x9 : Int) (x10 : Bool) (k : (Bool × NI × Int × Int × Int × NI × Int × Int × Int × NI × Int × Int × Int) → Option ρ) : (K_BF g_AU x0 x1 x2 x3 x4 x5 x6 x7 x8 x9 x10 k).bind q = K_BF g_AU x0 x1 x2 x3 x4 x5 x6 x7 x8 x9 x10 (fun d => (k d).bind q) := by
  simp only [K_BF, bnd_cond, bnd_bind, bnd_none, bnd_sum]
theorem qa_BF : ∀ b, (QA_BF).em b = ([.r (.c (.ptr 0 (.k 0) 1)), .r (.agg [.a (.l 24) [.i .i64 b.1.2.1.1.2.1]]), .r (.agg [.c (.f (.i .i64 b.1.2.2.1.1)), .c (.f (.i .i64 b.1.2.2.1.2.1)), .c (.f (.i .i64 b.1.2.2.1.2.2.1)), .c (.f (.i .i64 b.1.2.2.1.2.2.2.1)), .c (.f (.i .i64 b.1.2.2.1.c4.1)), .c (.f (.i .i64 b.1.2.2.1.c4.2.1)), .c (.f (.i .i64 b.1.2.2.1.c4.2.2.1)), .c (.f (.i .i64 b.1.2.2.1.c4.2.2.2.1))]), rI b.1.2.2.2.1], [[.c (.f (.b b.2.1.1))]]) := fun b => by kernel_rfl
theorem e_BF {f : NI → (Int) → (Int) → (Int) → (Int) → (Int) → (Int) → (Int) → (Int) → (Int) → (Bool) → Option (Bool × NI × Int × Int × Int × NI × Int × Int × Int × NI × Int × Int × Int)} {args : List AV} {h : List Blk} {r : Res} (hr : (F_BF f args h).eval = some r) : ∃ x0 x1 x2 x3 x4 x5 x6 x7 x8 x9 x10,
 args = [.r (.c (.ptr 0 (.k 0) 1)), .r (.agg [.a (.l 24) [.i .i64 x0]]), .r (.agg [.c (.f (.i .i64 x1)), .c (.f (.i .i64 x2)), .c (.f (.i .i64 x3)), .c (.f (.i .i64 x4)), .c (.f (.i .i64 x5)), .c (.f (.i .i64 x6)), .c (.f (.i .i64 x7)), .c (.f (.i .i64 x8))]), rI x9] ∧ h = [[.c (.f (.b x10))]] ∧ (f x0 x1 x2 x3 x4 x5 x6 x7 x8 x9 x10).bind (fun (d : Bool ×
 NI × Int × Int × Int × NI × Int × Int × Int × NI × Int × Int × Int) => some (Res.mk (AV.r (RV.c (CV.sl 1 (Off.k 0) (Sz.l 3) 27 true))) [Ch.set [sB d.1]] [[Sg.a (Sz.l 24) [kI d.2.1], sI d.2.2.1, sI d.2.2.2.1,
 sI d.c4.1, Sg.a (Sz.l 24) [kI d.c4.2.1], sI d.c4.2.2.1, sI d.c4.2.2.2.1, sI d.c8.1, Sg.a (Sz.l 24) [kI d.c8.2.1],
 sI d.c8.2.2.1, sI d.c8.2.2.2.1, sI d.c8.c4]])) = some r := by
  unfold F_BF at hr
  split at hr
  · rename_i b hb
    have e := ((QA_BF).ok _ _ hb).trans (qa_BF b)
    rw [opt_eval2] at hr
    exact ⟨b.1.2.1.1.2.1, b.1.2.2.1.1, b.1.2.2.1.2.1, b.1.2.2.1.2.2.1, b.1.2.2.1.2.2.2.1, b.1.2.2.1.c4.1, b.1.2.2.1.c4.2.1, b.1.2.2.1.c4.2.2.1, b.1.2.2.1.c4.2.2.2.1, b.1.2.2.2.1, b.2.1.1, (Prod.mk.inj e).1, (Prod.mk.inj e).2, hr⟩
  · cases hr
theorem n_BF {σ : Type} (q : (Bool × NI × Int × Int × Int × NI × Int × Int × Int × NI × Int × Int × Int) → Option σ) (x0 : NI) (x1 : Int) (x2 : Int) (x3 : Int) (x4 : Int) (x5 : Int) (x6 : Int) (x7 : Int) (x8 : Int) (x9 : Int) (x10 : Bool) : (f_BF x0 x1 x2 x3 x4 x5 x6 x7 x8 x9 x10).bind q = K_BF f_AU x0 x1 x2 x3 x4 x5 x6 x7 x8 x9 x10 q := by
  unfold f_BF
  exact m_BF q f_AU x0 x1 x2 x3 x4 x5 x6 x7 x8 x9 x10 some
theorem s_BF [Amb] : Sound Try.prog 18 (F_BF f_BF) := (inl_sums (l := [(35, F_AU f_AU)]) (.cons s_AU (.nil _)) mixed (hs := ⟨[⟨3, u11GN2, []⟩], [], [], [], (some ⟨0, u12GN2, []⟩)⟩) (lf := 200) (Sums.by (l := [loopIn Try.prog 18 3]) (lj := []) (by kernel_rfl) ⟨SumOK.no (by kernel_rfl), trivial⟩ (by kernel_rfl) trivial) (by kernel_rfl)).by (F := F_BF f_BF) fun args b r hr => by
  obtain ⟨x0, x1, x2, x3, x4, x5, x6, x7, x8, x9, x10, rfl, rfl, hr1⟩ := e_BF hr
  exact inl_eval ((d_BF f_AU x0 x1 x2 x3 x4 x5 x6 x7 x8 x9 x10).trans ((n_BF (fun (d : Bool × NI × Int × Int × Int × NI × Int × Int × Int × NI × Int × Int × Int) => some (Res.mk (AV.r (RV.c (CV.sl 1 (Off.k 0) (Sz.l 3) 27 true))) [Ch.set [sB d.1]]
    [[Sg.a (Sz.l 24) [kI d.2.1], sI d.2.2.1, sI d.2.2.2.1,
        sI d.c4.1, Sg.a (Sz.l 24) [kI d.c4.2.1], sI d.c4.2.2.1,
        sI d.c4.2.2.2.1, sI d.c8.1,
        Sg.a (Sz.l 24) [kI d.c8.2.1], sI d.c8.2.2.1,
        sI d.c8.2.2.2.1, sI d.c8.c4]])) x0 x1 x2 x3 x4 x5 x6 x7 x8 x9 x10).symm.trans hr1))

def K_As {ρ : Type} (g_AK : t33GN2) (g_Af : t16GN2) (g_AE : t16GN2) (x0 : Int) (x1 : Int) (x2 : Int) (x3 : Int) (x4 : Int) (x5 : Int) (x6 : Int) (x7 : Int) (x8 : Bool) (k : (Int × Int × Int × Int × Bool) →
 Option ρ) : Option ρ := Option.bind (g_AK x0 x1 x2) fun (d : Bool) => bif !d then k (0, 0, 0, 1, x8) else bif decide (IntKind.wrap .i64 (x1 - x4) > 1800000000) then Option.bind (g_Af (IntKind.wrap .i64 (x0 - x3)) x6 10 x8) fun (d : Int × Bool) => Option.bind (g_Af (IntKind.wrap .i64 (IntKind.wrap .i64 (x1 - x4) - 3600000000)) x7 10 d.2) fun (d_1 : Int ×
 Bool) => Option.bind (g_AE (IntKind.wrap .i64 (x5 - x2)) 1073741824 1000 d_1.2) fun (d_2 : Int × Bool) => k (d.1, d_1.1, d_2.1, 0, d_2.2) else bif decide (IntKind.wrap .i64 (x1 - x4) ≤ -1800000000) then Option.bind (g_Af (IntKind.wrap .i64 (x0 - x3)) x6 10 x8) fun (d : Int × Bool) => Option.bind (g_Af (IntKind.wrap .i64 (IntKind.wrap .i64 (x1 - x4) + 3600000000)) x7 10 d.2) fun (d_1 : Int ×
 Bool) => Option.bind (g_AE (IntKind.wrap .i64 (x5 - x2)) 1073741824 1000 d_1.2) fun (d_2 : Int × Bool) => k (d.1, d_1.1, d_2.1, 0, d_2.2) else Option.bind (g_Af (IntKind.wrap .i64 (x0 - x3)) x6 10 x8) fun (d : Int × Bool) => Option.bind (g_Af (IntKind.wrap .i64 (x1 - x4)) x7 10 d.2) fun (d_1 : Int ×
 Bool) => Option.bind (g_AE (IntKind.wrap .i64 (x5 - x2)) 1073741824 1000 d_1.2) fun (d_2 : Int × Bool) => k (d.1, d_1.1, d_2.1, 0, d_2.2)
def f_As (x0 : Int) (x1 : Int) (x2 : Int) (x3 : Int) (x4 : Int) (x5 : Int) (x6 : Int) (x7 : Int) (x8 : Bool) : Option (Int × Int × Int × Int × Bool) := K_As f_AK f_Af f_AE x0 x1 x2 x3 x4 x5 x6 x7 x8 some
section
open Go.Ab.Rdr
def QA_As := ((pair (cons (ar (rc (cptr (nat 0) (ok' (nat 0)) (nat 5)))) (cons (ar (rc (cptr (nat 1) (ok' (nat 0)) (nat 1)))) (cons (ar (ra (cons (gc (cf (fi .i64 hole))) (cons (gc (cf (fi .i64 hole))) (cons (gc (cf (fi .i64 hole))) nil))))) nil))) (cons (cons (gc (cf (fi .i64 hole))) (cons (gc (cf (fi .i64 hole))) (cons (gc (cf (fi .i64 hole))) (cons (gc (cf (fi .i64 hole))) (cons (gc (cf (fi .i64 hole))) nil))))) (cons (cons (gc (cf (fb hole))) nil) nil))) : Rdr (List AV × List Blk) _)
end
def F_As (f : (Int) → (Int) → (Int) → (Int) → (Int) → (Int) → (Int) → (Int) → (Bool) → Option (Int × Int × Int × Int × Bool)) : Sem1 := fun args h => match (QA_As).rd (args, h) with
  | some b => .opt (f b.1.2.2.1.1 b.1.2.2.1.2.1 b.1.2.2.1.2.2.1 b.2.1.1 b.2.1.2.1 b.2.1.2.2.1 b.2.1.2.2.2.1 b.2.1.c4.1 b.2.2.1.1) fun (d : Int × Int × Int × Int × Bool) => .leaf (Res.mk
    (AV.tup [RV.agg [sI d.1, sI d.2.1, sI d.2.2.1], RV.c (fI d.2.2.2.1)])
    [Ch.keep, Ch.set [sB d.c4]] [])
  | none => .fail
theorem d_As (g_AK : t33GN2) (g_Af : t16GN2) (g_AE : t16GN2) (x0 : Int) (x1 : Int) (x2 : Int) (x3 : Int) (x4 : Int) (x5 : Int) (x6 : Int) (x7 : Int) (x8 : Bool) : den Try.prog (envOf [(20, F_AK g_AK), (30,
 F_Af g_Af), (28, F_AE g_AE)]) ⟨[], [], [1], [], none⟩ 200 24 [.r (.c (.ptr 0 (.k 0) 5)), .r (.c (.ptr 1 (.k 0) 1)), .r (.agg [.c (.f (.i .i64 x0)), .c (.f (.i .i64 x1)), .c (.f (.i .i64 x2))])] [[.c (.f (.i .i64 x3)), .c (.f (.i .i64 x4)), .c (.f (.i .i64 x5)), .c (.f (.i .i64 x6)), .c (.f (.i .i64 x7))],
 [.c (.f (.b x8))]] = K_As g_AK g_Af g_AE x0 x1 x2 x3 x4 x5 x6 x7 x8 (fun (d : Int × Int × Int × Int × Bool) => some (Res.mk (AV.tup [RV.agg [sI d.1, sI d.2.1, sI d.2.2.1], RV.c (fI d.2.2.2.1)]) [Ch.keep,
 Ch.set [sB d.c4]] [])) := by kernel_rfl
theorem m_As {ρ σ : Type} (q : ρ → Option σ) (g_AK : t33GN2) (g_Af : t16GN2) (g_AE : t16GN2) (x0 : Int) (x1 : Int) (x2 : Int) (x3 : Int) (x4 : Int) (x5 : Int) (x6 : Int) (x7 : Int) (x8 : Bool) (k : (Int × Int × Int × Int × Bool) → Option ρ) : (K_As g_AK g_Af g_AE x0 x1 x2 x3 x4 x5 x6 x7 x8 k).bind q = K_As g_AK g_Af g_AE x0 x1 x2 x3 x4 x5 x6 x7 x8 (fun d => (k d).bind q) := by
  simp only [K_As, bnd_cond, bnd_bind, bnd_none, bnd_sum]
theorem qa_As : ∀ b, (QA_As).em b = ([.r (.c (.ptr 0 (.k 0) 5)), .r (.c (.ptr 1 (.k 0) 1)), .r (.agg [.c (.f (.i .i64 b.1.2.2.1.1)), .c (.f (.i .i64 b.1.2.2.1.2.1)), .c (.f (.i .i64 b.1.2.2.1.2.2.1))])], [[.c (.f (.i .i64 b.2.1.1)), .c (.f (.i .i64 b.2.1.2.1)), .c (.f (.i .i64 b.2.1.2.2.1)), .c (.f (.i .i64 b.2.1.2.2.2.1)), .c (.f (.i .i64 b.2.1.c4.1))], [.c (.f (.b b.2.2.1.1))]]) := fun b => by kernel_rfl
theorem e_As {f : (Int) → (Int) → (Int) → (Int) → (Int) → (Int) → (Int) → (Int) → (Bool) → Option (Int × Int × Int × Int × Bool)} {args : List AV} {h : List Blk} {r : Res} (hr : (F_As f args h).eval = some r) : ∃ x0 x1 x2 x3 x4 x5 x6 x7 x8, args = [.r (.c (.ptr 0 (.k 0) 5)), .r (.c (.ptr 1 (.k 0) 1)),
 .r (.agg [.c (.f (.i .i64 x0)), .c (.f (.i .i64 x1)), .c (.f (.i .i64 x2))])] ∧ h = [[.c (.f (.i .i64 x3)), .c (.f (.i .i64 x4)), .c (.f (.i .i64 x5)), .c (.f (.i .i64 x6)), .c (.f (.i .i64 x7))], [.c (.f (.b x8))]] ∧ (f x0 x1 x2 x3 x4 x5 x6 x7 x8).bind (fun (d : Int × Int × Int × Int × Bool) => some (Res.mk (AV.tup [RV.agg [sI d.1,
 sI d.2.1, sI d.2.2.1], RV.c (fI d.2.2.2.1)]) [Ch.keep, Ch.set [sB d.c4]] [])) = some r := by
  unfold F_As at hr
  split at hr
  · rename_i b hb
    have e := ((QA_As).ok _ _ hb).trans (qa_As b)
    rw [opt_eval2] at hr
    exact ⟨b.1.2.2.1.1, b.1.2.2.1.2.1, b.1.2.2.1.2.2.1, b.2.1.1, b.2.1.2.1, b.2.1.2.2.1, b.2.1.2.2.2.1, b.2.1.c4.1, b.2.2.1.1, (Prod.mk.inj e).1, (Prod.mk.inj e).2, hr⟩
  · cases hr
theorem n_As {σ : Type} (q : (Int × Int × Int × Int × Bool) → Option σ) (x0 : Int) (x1 : Int) (x2 : Int) (x3 : Int) (x4 : Int) (x5 : Int) (x6 : Int) (x7 : Int) (x8 : Bool) : (f_As x0 x1 x2 x3 x4 x5 x6 x7 x8).bind q = K_As f_AK f_Af f_AE x0 x1 x2 x3 x4 x5 x6 x7 x8 q := by
  unfold f_As
  exact m_As q f_AK f_Af f_AE x0 x1 x2 x3 x4 x5 x6 x7 x8 some
theorem s_As [Amb] : Sound Try.prog 24 (F_As f_As) := (inl_sound (l := [(20, F_AK f_AK), (30, F_Af f_Af), (28, F_AE f_AE)]) (.cons s_AK (.cons s_Af (.cons s_AE (.nil _)))) mixed [] [1] 200 (by kernel_rfl)).by (F := F_As f_As) fun args b r hr => by
  obtain ⟨x0, x1, x2, x3, x4, x5, x6, x7, x8, rfl, rfl, hr1⟩ := e_As hr
  exact inl_eval ((d_As f_AK f_Af f_AE x0 x1 x2 x3 x4 x5 x6 x7 x8).trans ((n_As (fun (d : Int × Int × Int × Int × Bool) => some (Res.mk
    (AV.tup [RV.agg [sI d.1, sI d.2.1, sI d.2.2.1], RV.c (fI d.2.2.2.1)])
    [Ch.keep, Ch.set [sB d.c4]] [])) x0 x1 x2 x3 x4 x5 x6 x7 x8).symm.trans hr1))

end Go.Proofs.Ytdpenjncfmkbgaa
set_option maxRecDepth 100000
set_option maxHeartbeats 4000000
set_option linter.unusedVariables false
namespace Go.Proofs.Ytdpenjncfmkbgaa
open Go.Ab
abbrev u0GN3 : List Nat := [1, 2, 3, 5, 8, 9, 10, 11, 12, 13, 15, 16, 17, 18, 19, 20, 21, 22, 23, 24, 25, 26, 27, 31, 32, 33, 34, 35, 36, 37, 38, 39, 40, 41, 42, 43, 44, 45, 46, 47, 48]
abbrev u1GN3 : List Nat := [0, 1, 2, 3, 4, 5, 6, 7, 8, 9, 12, 13, 14, 15, 16, 17, 18, 19, 20, 21, 22, 23, 24, 25, 26, 27, 28, 29, 30, 31, 32, 33, 34, 35, 36, 37, 38, 39, 40, 41, 42, 43, 44, 45, 46, 47, 48]
abbrev t2GN3 := Int → Int → Int → Int → Int → Int → Int → Int → Bool → Option (Int × Int × Int × Int × Bool)
abbrev t3GN3 := NI → Int → Int → Int → Int → Bool → Option (NI × Int × Int × Int × Bool)
abbrev t4GN3 := Nat → Bool → NI → Bool → Option (Int × Bool)
abbrev t5GN3 := Int → Int → Int → Bool → Option (Int × Bool)
abbrev t6GN3 := Int → Int → Int → Int → Int → Int → Int → Int → Int → Bool → Option (Int × Int × Int × Int × Int × Int × Int × Int × Int × Bool)
abbrev t7GN3 := Int → Int → Int → Option (Unit ⊕ Int × Int × Int × Int × Int)
abbrev t8GN3 := NI → Int → Int → Int → Int → Int → Int → Int → Int → Int → Bool → Option (Bool × NI × Int × Int × Int × NI × Int × Int × Int × NI × Int × Int × Int)
abbrev t9GN3 := NI → Int → Int → Int → Int → Int → Int → Int → Int → Int → Bool → Int → Int → Int → Int → Int → Option (Int × Bool ⊕ Bool × NI × Int × Int × Int × NI × Int × Int × Int)
abbrev t10GN3 := NI → Int → Int → Int → Int → Int → Int → Int → Int → Int → Bool → Int → Int → Int → Int → Int → Option (NI × Int × Int × Int × Int × Bool)
abbrev t11GN3 := Int → Int → Int → Int → Int → Int → Int → Int → Int → Option Bool
abbrev t12GN3 := Nat → NI → Bool → Option NI
def K_Ax {ρ : Type} (g_As : t2GN3) (g_AU : t3GN3) (x0 : NI) (x1 : Int) (x2 : Int) (x3 : Int) (x4 : Int) (x5 : Int) (x6 : Int) (x7 : Int) (x8 : Int) (x9 : Int) (x10 : Bool) (x11 : Int) (x12 : Int) (x13 : Int) (x14 : Int) (x15 : Int) (k : (Int ×
 Bool ⊕ Bool × NI × Int × Int × Int × NI × Int × Int × Int) → Option ρ) : Option ρ := Option.bind (g_As x1 x2 x3 x11 x12 x13 x14 x15 x10) fun (d : Int × Int × Int × Int × Bool) => bif d.2.2.2.1 != 0 then k (Sum.inl (d.2.2.2.1, d.c4)) else Option.bind (g_AU x0 7 d.1 x7 x9 d.c4) fun (d_1 : NI × Int × Int × Int × Bool) => Option.bind (g_AU x0 8 d.2.1 x7 x9 d_1.c4) fun (d : NI × Int × Int × Int × Bool) => k (Sum.inr (d.c4, d_1.1, d_1.2.1, d_1.2.2.1, d_1.2.2.2.1, d.1, d.2.1, d.2.2.1, d.2.2.2.1))
def f_Ax (x0 : NI) (x1 : Int) (x2 : Int) (x3 : Int) (x4 : Int) (x5 : Int) (x6 : Int) (x7 : Int) (x8 : Int) (x9 : Int) (x10 : Bool) (x11 : Int) (x12 : Int) (x13 : Int) (x14 : Int) (x15 : Int) : Option (Int × Bool ⊕ Bool × NI × Int × Int × Int × NI × Int × Int × Int) := K_Ax f_As f_AU x0 x1 x2 x3 x4 x5 x6 x7 x8 x9 x10 x11 x12 x13 x14 x15 some
section
open Go.Ab.Rdr
def QA_Ax := ((pair (cons (ar (rc (cptr (nat 0) (ok' (nat 0)) (nat 1)))) (cons (ar (ra (cons (ga (szl (nat 24)) (cons (ki .i64 hole) nil)) nil))) (cons (ar (ra (cons (gc (cf (fi .i64 hole))) (cons (gc (cf (fi .i64 hole))) (cons (gc (cf (fi .i64 hole))) (cons (gc (cf (fi .i64 hole))) (cons (gc (cf (fi .i64 hole))) (cons (gc (cf (fi .i64 hole))) (cons (gc (cf (fi .i64 hole))) (cons (gc (cf (fi .i64 hole))) nil)))))))))) (cons (ar (rc (cptr (nat 1) (ok' (nat 0)) (nat 5)))) (cons (ar (rc (cf (fi .i64 hole)))) nil))))) (cons (cons (gc (cf (fb hole))) nil) (cons (cons (gc (cf (fi .i64 hole))) (cons (gc (cf (fi .i64 hole))) (cons (gc (cf (fi .i64 hole))) (cons (gc (cf (fi .i64 hole))) (cons (gc (cf (fi .i64 hole))) nil))))) nil))) : Rdr (List AV × List Blk) _)
end
def F_Ax (f : NI → (Int) → (Int) → (Int) → (Int) → (Int) → (Int) → (Int) → (Int) → (Int) → (Bool) → (Int) → (Int) → (Int) → (Int) → (Int) → Option (Int × Bool ⊕ Bool × NI × Int × Int × Int × NI × Int × Int × Int)) : Sem1 := fun args h => match (QA_Ax).rd (args, h) with
  | some b => .opt (f b.1.2.1.1.2.1 b.1.2.2.1.1 b.1.2.2.1.2.1 b.1.2.2.1.2.2.1 b.1.2.2.1.2.2.2.1 b.1.2.2.1.c4.1 b.1.2.2.1.c4.2.1 b.1.2.2.1.c4.2.2.1 b.1.2.2.1.c4.2.2.2.1 b.1.c4.1 b.2.1.1 b.2.2.1.1 b.2.2.1.2.1 b.2.2.1.2.2.1 b.2.2.1.2.2.2.1 b.2.2.1.c4.1) fun d0 => T.sum d0 (fun (d : Int × Bool) => .leaf (Res.mk (AV.tup [RV.c CV.nils, RV.c (fI d.1)]) [Ch.set [sB d.2], Ch.keep] [])) (fun (d : Bool × NI × Int × Int × Int × NI × Int × Int × Int) => .leaf (Res.mk (AV.tup [RV.c (CV.sl 2 (Off.k 0) (Sz.l 2) 27 true), RV.c (fI 0)]) [Ch.set [sB d.1], Ch.keep]
    [[Sg.a (Sz.l 24) [kI d.2.1], sI d.2.2.1, sI d.2.2.2.1,
        sI d.c4.1, Sg.a (Sz.l 24) [kI d.c4.2.1], sI d.c4.2.2.1,
        sI d.c4.2.2.2.1, sI d.c8]]))
  | none => .fail
theorem d_Ax (g_As : t2GN3) (g_AU : t3GN3) (x0 : NI) (x1 : Int) (x2 : Int) (x3 : Int) (x4 : Int) (x5 : Int) (x6 : Int) (x7 : Int) (x8 : Int) (x9 : Int) (x10 : Bool) (x11 : Int) (x12 : Int) (x13 : Int) (x14 : Int) (x15 : Int) : den Try.prog (envOf [(24,
 F_As g_As), (35, F_AU g_AU)]) ⟨[⟨6, u0GN3, []⟩], [], [], [], (some ⟨0, u1GN3, []⟩)⟩ 200 11 [.r (.c (.ptr 0 (.k 0) 1)), .r (.agg [.a (.l 24) [.i .i64 x0]]), .r (.agg [.c (.f (.i .i64 x1)), .c (.f (.i .i64 x2)), .c (.f (.i .i64 x3)), .c (.f (.i .i64 x4)), .c (.f (.i .i64 x5)), .c (.f (.i .i64 x6)),
 .c (.f (.i .i64 x7)), .c (.f (.i .i64 x8))]), .r (.c (.ptr 1 (.k 0) 5)), rI x9] [[.c (.f (.b x10))], [.c (.f (.i .i64 x11)), .c (.f (.i .i64 x12)), .c (.f (.i .i64 x13)), .c (.f (.i .i64 x14)), .c (.f (.i .i64 x15))]] = K_Ax g_As g_AU x0 x1 x2 x3 x4 x5 x6 x7 x8 x9 x10 x11 x12 x13 x14 x15 ((Sum.elim (fun (d : Int ×
 Bool) => some (Res.mk (AV.tup [RV.c CV.nils, RV.c (fI d.1)]) [Ch.set [sB d.2], Ch.keep] [])) (fun (d : Bool × NI × Int × Int × Int × NI × Int × Int × Int) => some (Res.mk (AV.tup [RV.c (CV.sl 2 (Off.k 0) (Sz.l 2) 27 true), RV.c (fI 0)]) [Ch.set [sB d.1],
 Ch.keep] [[Sg.a (Sz.l 24) [kI d.2.1], sI d.2.2.1, sI d.2.2.2.1, sI d.c4.1, Sg.a (Sz.l 24) [kI d.c4.2.1], sI d.c4.2.2.1, sI d.c4.2.2.2.1,
 sI d.c8]])))) := by kernel_rfl
theorem m_Ax {ρ σ : Type} (q : ρ → Option σ) (g_As : t2GN3) (g_AU : t3GN3) (x0 : NI) (x1 : Int) (x2 : Int) (x3 : Int) (x4 : Int) (x5 : Int) (x6 : Int) (x7 : Int) (x8 : Int) (x9 : Int) (x10 : Bool) (x11 : Int) (x12 : Int) (x13 : Int) (x14 : Int) (x15 : Int) (k : (Int × Bool ⊕ Bool × NI × Int × Int × Int × NI × Int × Int × Int) → Option ρ) : (K_Ax g_As g_AU x0 x1 x2 x3 x4 x5 x6 x7 x8 x9 x10 x11 x12 x13 x14 x15 k).bind q = K_Ax g_As g_AU x0 x1 x2 x3 x4 x5 x6 x7 x8 x9 x10 x11 x12 x13 x14 x15 (fun d => (k d).bind q) := by
  simp only [K_Ax, bnd_cond, bnd_bind, bnd_none, bnd_sum]
theorem qa_Ax : ∀ b, (QA_Ax).em b = ([.r (.c (.ptr 0 (.k 0) 1)), .r (.agg [.a (.l 24) [.i .i64 b.1.2.1.1.2.1]]), .r (.agg [.c (.f (.i .i64 b.1.2.2.1.1)), .c (.f (.i .i64 b.1.2.2.1.2.1)), .c (.f (.i .i64 b.1.2.2.1.2.2.1)), .c (.f (.i .i64 b.1.2.2.1.2.2.2.1)), .c (.f (.i .i64 b.1.2.2.1.c4.1)), .c (.f (.i .i64 b.1.2.2.1.c4.2.1)), .c (.f (.i .i64 b.1.2.2.1.c4.2.2.1)), .c (.f (.i .i64 b.1.2.2.1.c4.2.2.2.1))]), .r (.c (.ptr 1 (.k 0) 5)), rI b.1.c4.1], [[.c (.f (.b b.2.1.1))], [.c (.f (.i .i64 b.2.2.1.1)), .c (.f (.i .i64 b.2.2.1.2.1)), .c (.f (.i .i64 b.2.2.1.2.2.1)), .c (.f (.i .i64 b.2.2.1.2.2.2.1)), .c (.f (.i .i64 b.2.2.1.c4.1))]]) := fun b => by kernel_rfl
theorem e_Ax {f : NI → (Int) → (Int) → (Int) → (Int) → (Int) → (Int) → (Int) → (Int) → (Int) → (Bool) → (Int) → (Int) → (Int) → (Int) → (Int) → Option (Int × Bool ⊕ Bool × NI × Int × Int × Int × NI × Int × Int × Int)} {args : List AV} {h : List Blk} {r : Res} (hr : (F_Ax f args h).eval = some r) : ∃ x0 x1 x2 x3 x4 x5 x6 x7 x8 x9 x10 x11 x12 x13 x14 x15,
 args = [.r (.c (.ptr 0 (.k 0) 1)), .r (.agg [.a (.l 24) [.i .i64 x0]]), .r (.agg [.c (.f (.i .i64 x1)), .c (.f (.i .i64 x2)), .c (.f (.i .i64 x3)), .c (.f (.i .i64 x4)), .c (.f (.i .i64 x5)), .c (.f (.i .i64 x6)), .c (.f (.i .i64 x7)), .c (.f (.i .i64 x8))]), .r (.c (.ptr 1 (.k 0) 5)), rI x9] ∧ h = [[.c (.f (.b x10))],
 [.c (.f (.i .i64 x11)), .c (.f (.i .i64 x12)), .c (.f (.i .i64 x13)), .c (.f (.i .i64 x14)), .c (.f (.i .i64 x15))]] ∧ (f x0 x1 x2 x3 x4 x5 x6 x7 x8 x9 x10 x11 x12 x13 x14 x15).bind ((Sum.elim (fun (d : Int × Bool) => some (Res.mk (AV.tup [RV.c CV.nils, RV.c (fI d.1)]) [Ch.set [sB d.2],
 Ch.keep] [])) (fun (d : Bool × NI × Int × Int × Int × NI × Int × Int × Int) => some (Res.mk (AV.tup [RV.c (CV.sl 2 (Off.k 0) (Sz.l 2) 27 true), RV.c (fI 0)]) [Ch.set [sB d.1], Ch.keep] [[Sg.a (Sz.l 24) [kI d.2.1], sI d.2.2.1,
 sI d.2.2.2.1, sI d.c4.1, Sg.a (Sz.l 24) [kI d.c4.2.1], sI d.c4.2.2.1, sI d.c4.2.2.2.1, sI d.c8]])))) = some r := by
  unfold F_Ax at hr
  split at hr
  · rename_i b hb
    have e := ((QA_Ax).ok _ _ hb).trans (qa_Ax b)
    rw [opt_eval2] at hr
    simp only [sum_eval, leaf_eval] at hr
    exact ⟨b.1.2.1.1.2.1, b.1.2.2.1.1, b.1.2.2.1.2.1, b.1.2.2.1.2.2.1, b.1.2.2.1.2.2.2.1, b.1.2.2.1.c4.1, b.1.2.2.1.c4.2.1, b.1.2.2.1.c4.2.2.1, b.1.2.2.1.c4.2.2.2.1, b.1.c4.1, b.2.1.1, b.2.2.1.1, b.2.2.1.2.1, b.2.2.1.2.2.1, b.2.2.1.2.2.2.1, b.2.2.1.c4.1, (Prod.mk.inj e).1, (Prod.mk.inj e).2, hr⟩
  · cases hr
theorem n_Ax {σ : Type} (q : (Int × Bool ⊕ Bool × NI × Int × Int × Int × NI × Int × Int × Int) → Option σ) (x0 : NI) (x1 : Int) (x2 : Int) (x3 : Int) (x4 : Int) (x5 : Int) (x6 : Int) (x7 : Int) (x8 : Int) (x9 : Int) (x10 : Bool) (x11 : Int) (x12 : Int) (x13 : Int) (x14 : Int) (x15 : Int) : (f_Ax x0 x1 x2 x3 x4 x5 x6 x7 x8 x9 x10 x11 x12 x13 x14 x15).bind q = K_Ax f_As f_AU x0 x1 x2 x3 x4 x5 x6 x7 x8 x9 x10 x11 x12 x13 x14 x15 q := by
  unfold f_Ax
  exact m_Ax q f_As f_AU x0 x1 x2 x3 x4 x5 x6 x7 x8 x9 x10 x11 x12 x13 x14 x15 some
theorem s_Ax [Amb] : Sound Try.prog 11 (F_Ax f_Ax) := (inl_sums (l := [(24, F_As f_As), (35, F_AU f_AU)]) (.cons s_As (.cons s_AU (.nil _))) mixed (hs := ⟨[⟨6, u0GN3, []⟩], [], [], [], (some ⟨0, u1GN3, []⟩)⟩) (lf := 200) (Sums.by (l := [loopIn Try.prog 11 6]) (lj := []) (by kernel_rfl) ⟨SumOK.no (by kernel_rfl),
 trivial⟩ (by kernel_rfl) trivial) (by kernel_rfl)).by (F := F_Ax f_Ax) fun args b r hr => by
  obtain ⟨x0, x1, x2, x3, x4, x5, x6, x7, x8, x9, x10, x11, x12, x13, x14, x15, rfl, rfl, hr1⟩ := e_Ax hr
  exact inl_eval ((d_Ax f_As f_AU x0 x1 x2 x3 x4 x5 x6 x7 x8 x9 x10 x11 x12 x13 x14 x15).trans ((n_Ax ((Sum.elim (fun (d : Int × Bool) => some (Res.mk (AV.tup [RV.c CV.nils, RV.c (fI d.1)]) [Ch.set [sB d.2], Ch.keep] [])) (fun (d : Bool × NI × Int × Int × Int × NI × Int × Int × Int) => some (Res.mk (AV.tup [RV.c (CV.sl 2 (Off.k 0) (Sz.l 2) 27 true), RV.c (fI 0)]) [Ch.set [sB d.1], Ch.keep]
    [[Sg.a (Sz.l 24) [kI d.2.1], sI d.2.2.1, sI d.2.2.2.1,
        sI d.c4.1, Sg.a (Sz.l 24) [kI d.c4.2.1], sI d.c4.2.2.1,
        sI d.c4.2.2.2.1, sI d.c8]])))) x0 x1 x2 x3 x4 x5 x6 x7 x8 x9 x10 x11 x12 x13 x14 x15).symm.trans hr1))

def K_Au {ρ : Type} (g_As : t2GN3) (g_AD : t4GN3) (g_Aj : t5GN3) (g_AU : t3GN3) (x0 : NI) (x1 : Int) (x2 : Int) (x3 : Int) (x4 : Int) (x5 : Int) (x6 : Int) (x7 : Int) (x8 : Int) (x9 : Int) (x10 : Bool) (x11 : Int) (x12 : Int) (x13 : Int) (x14 : Int) (x15 : Int) (k : (NI × Int × Int × Int × Int × Bool) → Option ρ) : Option ρ := Option.bind (g_As x1 x2 x3 x11 x12 x13 x14 x15 x10) fun (d : Int ×
 Int × Int × Int × Bool) => bif d.2.2.2.1 != 0 then k (fun (x : Nat) => 0, 0, 0, 0, d.2.2.2.1, d.c4) else Option.bind (g_AD 4 false (fun (j : Nat) => bif Nat.beq j 3 then x7 else bif Nat.beq j 2 then x7 else bif Nat.beq j 1 then x7 else bif Nat.beq j 0 then x7 else x7) true) fun (d_1 : Int × Bool) => Option.bind (g_Aj d_1.1 1 72057594037927936 d_1.2) fun (d_2 : Int ×
 Bool) => Option.bind (g_AU x0 9 d.2.2.1 d_2.1 x9 d.c4) fun (d : NI × Int × Int × Int × Bool) => k (d.1, d.2.1, d.2.2.1, d.2.2.2.1, 0, d.c4)
def f_Au (x0 : NI) (x1 : Int) (x2 : Int) (x3 : Int) (x4 : Int) (x5 : Int) (x6 : Int) (x7 : Int) (x8 : Int) (x9 : Int) (x10 : Bool) (x11 : Int) (x12 : Int) (x13 : Int) (x14 : Int) (x15 : Int) : Option (NI × Int × Int × Int × Int × Bool) := K_Au f_As f_AD f_Aj f_AU x0 x1 x2 x3 x4 x5 x6 x7 x8 x9 x10 x11 x12 x13 x14 x15 some
section
open Go.Ab.Rdr
def QA_Au := ((pair (cons (ar (rc (cptr (nat 0) (ok' (nat 0)) (nat 1)))) (cons (ar (ra (cons (ga (szl (nat 24)) (cons (ki .i64 hole) nil)) nil))) (cons (ar (ra (cons (gc (cf (fi .i64 hole))) (cons (gc (cf (fi .i64 hole))) (cons (gc (cf (fi .i64 hole))) (cons (gc (cf (fi .i64 hole))) (cons (gc (cf (fi .i64 hole))) (cons (gc (cf (fi .i64 hole))) (cons (gc (cf (fi .i64 hole))) (cons (gc (cf (fi .i64 hole))) nil)))))))))) (cons (ar (rc (cptr (nat 1) (ok' (nat 0)) (nat 5)))) (cons (ar (rc (cf (fi .i64 hole)))) nil))))) (cons (cons (gc (cf (fb hole))) nil) (cons (cons (gc (cf (fi .i64 hole))) (cons (gc (cf (fi .i64 hole))) (cons (gc (cf (fi .i64 hole))) (cons (gc (cf (fi .i64 hole))) (cons (gc (cf (fi .i64 hole))) nil))))) nil))) : Rdr (List AV × List Blk) _)
end
def F_Au (f : NI → (Int) → (Int) → (Int) → (Int) → (Int) → (Int) → (Int) → (Int) → (Int) → (Bool) → (Int) → (Int) → (Int) → (Int) → (Int) → Option (NI × Int × Int × Int × Int × Bool)) : Sem1 := fun args h => match (QA_Au).rd (args, h) with
  | some b => .opt (f b.1.2.1.1.2.1 b.1.2.2.1.1 b.1.2.2.1.2.1 b.1.2.2.1.2.2.1 b.1.2.2.1.2.2.2.1 b.1.2.2.1.c4.1 b.1.2.2.1.c4.2.1 b.1.2.2.1.c4.2.2.1 b.1.2.2.1.c4.2.2.2.1 b.1.c4.1 b.2.1.1 b.2.2.1.1 b.2.2.1.2.1 b.2.2.1.2.2.1 b.2.2.1.2.2.2.1 b.2.2.1.c4.1) fun (d : NI × Int × Int × Int × Int × Bool) => .leaf (Res.mk
    (AV.tup
      [RV.agg [Sg.a (Sz.l 24) [kI d.1], sI d.2.1, sI d.2.2.1, sI d.2.2.2.1],
        RV.c (fI d.c4.1)])
    [Ch.set [sB d.c4.2], Ch.keep] [])
  | none => .fail
theorem d_Au (g_As : t2GN3) (g_AD : t4GN3) (g_Aj : t5GN3) (g_AU : t3GN3) (x0 : NI) (x1 : Int) (x2 : Int) (x3 : Int) (x4 : Int) (x5 : Int) (x6 : Int) (x7 : Int) (x8 : Int) (x9 : Int) (x10 : Bool) (x11 : Int) (x12 : Int) (x13 : Int) (x14 : Int) (x15 : Int) : den Try.prog (envOf [(24, F_As g_As), (36, F_AD g_AD), (37, F_Aj g_Aj), (35, F_AU g_AU)]) ⟨[],
 [], [], [], none⟩ 200 12 [.r (.c (.ptr 0 (.k 0) 1)), .r (.agg [.a (.l 24) [.i .i64 x0]]), .r (.agg [.c (.f (.i .i64 x1)), .c (.f (.i .i64 x2)), .c (.f (.i .i64 x3)), .c (.f (.i .i64 x4)), .c (.f (.i .i64 x5)), .c (.f (.i .i64 x6)), .c (.f (.i .i64 x7)), .c (.f (.i .i64 x8))]), .r (.c (.ptr 1 (.k 0) 5)),
 rI x9] [[.c (.f (.b x10))], [.c (.f (.i .i64 x11)), .c (.f (.i .i64 x12)), .c (.f (.i .i64 x13)), .c (.f (.i .i64 x14)), .c (.f (.i .i64 x15))]] = K_Au g_As g_AD g_Aj g_AU x0 x1 x2 x3 x4 x5 x6 x7 x8 x9 x10 x11 x12 x13 x14 x15 (fun (d : NI × Int × Int × Int × Int × Bool) => some (Res.mk (AV.tup [RV.agg [Sg.a (Sz.l 24) [kI d.1],
 sI d.2.1, sI d.2.2.1, sI d.2.2.2.1], RV.c (fI d.c4.1)]) [Ch.set [sB d.c4.2], Ch.keep] [])) := by kernel_rfl
theorem m_Au {ρ σ : Type} (q : ρ → Option σ) (g_As : t2GN3) (g_AD : t4GN3) (g_Aj : t5GN3) (g_AU : t3GN3) (x0 : NI) (x1 : Int) (x2 : Int) (x3 : Int) (x4 : Int) (x5 : Int) (x6 : Int) (x7 : Int) (x8 : Int) (x9 : Int) (x10 : Bool) (x11 : Int) (x12 : Int) (x13 : Int) (x14 : Int) (x15 : Int) (k : (NI × Int × Int × Int × Int × Bool) → Option ρ) : (K_Au g_As g_AD g_Aj g_AU x0 x1 x2 x3 x4 x5 x6 x7 x8 x9 x10 x11 x12 x13 x14 x15 k).bind q = K_Au g_As g_AD g_Aj g_AU x0 x1 x2 x3 x4 x5 x6 x7 x8 x9 x10 x11 x12 x13 x14 x15 (fun d => (k d).bind q) := by
  simp only [K_Au, bnd_cond, bnd_bind, bnd_none, bnd_sum]
theorem qa_Au : ∀ b, (QA_Au).em b = ([.r (.c (.ptr 0 (.k 0) 1)), .r (.agg [.a (.l 24) [.i .i64 b.1.2.1.1.2.1]]), .r (.agg [.c (.f (.i .i64 b.1.2.2.1.1)), .c (.f (.i .i64 b.1.2.2.1.2.1)), .c (.f (.i .i64 b.1.2.2.1.2.2.1)), .c (.f (.i .i64 b.1.2.2.1.2.2.2.1)), .c (.f (.i .i64 b.1.2.2.1.c4.1)), .c (.f (.i .i64 b.1.2.2.1.c4.2.1)), .c (.f (.i .i64 b.1.2.2.1.c4.2.2.1)), .c (.f (.i .i64 b.1.2.2.1.c4.2.2.2.1))]), .r (.c (.ptr 1 (.k 0) 5)), rI b.1.c4.1], [[.c (.f (.b b.2.1.1))], [.c (.f (.i .i64 b.2.2.1.1)), .c (.f (.i .i64 b.2.2.1.2.1)), .c (.f (.i .i64 b.2.2.1.2.2.1)), .c (.f (.i .i64 b.2.2.1.2.2.2.1)), .c (.f (.i .i64 b.2.2.1.c4.1))]]) := fun b => by kernel_rfl
theorem e_Au {f : NI → (Int) → (Int) → (Int) → (Int) → (Int) → (Int) → (Int) → (Int) → (Int) → (Bool) → (Int) → (Int) → (Int) → (Int) → (Int) → Option (NI × Int × Int × Int × Int × Bool)} {args : List AV} {h : List Blk} {r : Res} (hr : (F_Au f args h).eval = some r) : ∃ x0 x1 x2 x3 x4 x5 x6 x7 x8 x9 x10 x11 x12 x13 x14 x15,
 args = [.r (.c (.ptr 0 (.k 0) 1)), .r (.agg [.a (.l 24) [.i .i64 x0]]), .r (.agg [.c (.f (.i .i64 x1)), .c (.f (.i .i64 x2)), .c (.f (.i .i64 x3)), .c (.f (.i .i64 x4)), .c (.f (.i .i64 x5)), .c (.f (.i .i64 x6)), .c (.f (.i .i64 x7)), .c (.f (.i .i64 x8))]), .r (.c (.ptr 1 (.k 0) 5)), rI x9] ∧ h = [[.c (.f (.b x10))],
 [.c (.f (.i .i64 x11)), .c (.f (.i .i64 x12)), .c (.f (.i .i64 x13)), .c (.f (.i .i64 x14)), .c (.f (.i .i64 x15))]] ∧ (f x0 x1 x2 x3 x4 x5 x6 x7 x8 x9 x10 x11 x12 x13 x14 x15).bind (fun (d : NI × Int × Int × Int × Int × Bool) => some (Res.mk (AV.tup [RV.agg [Sg.a (Sz.l 24) [kI d.1],
 sI d.2.1, sI d.2.2.1, sI d.2.2.2.1], RV.c (fI d.c4.1)]) [Ch.set [sB d.c4.2], Ch.keep] [])) = some r := by
  unfold F_Au at hr
  split at hr
  · rename_i b hb
    have e := ((QA_Au).ok _ _ hb).trans (qa_Au b)
    rw [opt_eval2] at hr
    exact ⟨b.1.2.1.1.2.1, b.1.2.2.1.1, b.1.2.2.1.2.1, b.1.2.2.1.2.2.1, b.1.2.2.1.2.2.2.1, b.1.2.2.1.c4.1, b.1.2.2.1.c4.2.1, b.1.2.2.1.c4.2.2.1, b.1.2.2.1.c4.2.2.2.1, b.1.c4.1, b.2.1.1, b.2.2.1.1, b.2.2.1.2.1, b.2.2.1.2.2.1, b.2.2.1.2.2.2.1, b.2.2.1.c4.1, (Prod.mk.inj e).1, (Prod.mk.inj e).2, hr⟩
  · cases hr
theorem n_Au {σ : Type} (q : (NI × Int × Int × Int × Int × Bool) → Option σ) (x0 : NI) (x1 : Int) (x2 : Int) (x3 : Int) (x4 : Int) (x5 : Int) (x6 : Int) (x7 : Int) (x8 : Int) (x9 : Int) (x10 : Bool) (x11 : Int) (x12 : Int) (x13 : Int) (x14 : Int) (x15 : Int) : (f_Au x0 x1 x2 x3 x4 x5 x6 x7 x8 x9 x10 x11 x12 x13 x14 x15).bind q = K_Au f_As f_AD f_Aj f_AU x0 x1 x2 x3 x4 x5 x6 x7 x8 x9 x10 x11 x12 x13 x14 x15 q := by
  unfold f_Au
  exact m_Au q f_As f_AD f_Aj f_AU x0 x1 x2 x3 x4 x5 x6 x7 x8 x9 x10 x11 x12 x13 x14 x15 some
theorem s_Au [Amb] : Sound Try.prog 12 (F_Au f_Au) := (inl_sound (l := [(24, F_As f_As), (36, F_AD f_AD), (37, F_Aj f_Aj), (35, F_AU f_AU)]) (.cons s_As (.cons s_AD (.cons s_Aj (.cons s_AU (.nil _))))) mixed [] [] 200 (by kernel_rfl)).by (F := F_Au f_Au) fun args b r hr => by
  obtain ⟨x0, x1, x2, x3, x4, x5, x6, x7, x8, x9, x10, x11, x12, x13, x14, x15, rfl, rfl, hr1⟩ := e_Au hr
  exact inl_eval ((d_Au f_As f_AD f_Aj f_AU x0 x1 x2 x3 x4 x5 x6 x7 x8 x9 x10 x11 x12 x13 x14 x15).trans ((n_Au (fun (d : NI × Int × Int × Int × Int × Bool) => some (Res.mk
    (AV.tup
      [RV.agg [Sg.a (Sz.l 24) [kI d.1], sI d.2.1, sI d.2.2.1, sI d.2.2.2.1],
        RV.c (fI d.c4.1)])
    [Ch.set [sB d.c4.2], Ch.keep] [])) x0 x1 x2 x3 x4 x5 x6 x7 x8 x9 x10 x11 x12 x13 x14 x15).symm.trans hr1))

def K_Bd {ρ : Type} (g_Bb : Option Unit) (g_Ad : t6GN3) (g_Ar : t7GN3) (g_BF : t8GN3) (g_Ax : t9GN3) (g_Au : t10GN3) (g_Ap : t11GN3) (g_AF : t12GN3) (k : (Bool) → Option ρ) : Option ρ := Option.bind g_Bb fun (d : Unit) => Option.bind (g_Ad 5 0 0 0 1000 0 0 1000 100 false) fun (d : Int × Int × Int × Int × Int × Int × Int × Int × Int × Bool) => Option.bind (g_Ar 0 0 0) fun (d_1 : Unit ⊕ Int × Int × Int × Int × Int) => bif match d_1 with | Sum.inl val => true | Sum.inr val => false then
 Option.bind (match d_1 with | Sum.inl a => some a | Sum.inr val => none) fun (d_2 : Unit) => bif d.c8.1 != 0 then k false else k false else Option.bind (match d_1 with | Sum.inr b => some b | Sum.inl val => none) fun (d_2 : Int × Int × Int × Int × Int) => bif d.c8.1 != 0 then
 k false else Option.bind (g_BF (fun (j : Nat) => bif Nat.beq j 0 then 1073741824 else 0) d.1 d.2.1 d.2.2.1 d.2.2.2.1 d.c4.1 d.c4.2.1 d.c4.2.2.1 d.c4.2.2.2.1 5 d.c8.2) fun (d_3 : Bool × NI × Int × Int × Int × NI × Int × Int × Int × NI × Int ×
 Int × Int) => Option.bind (g_Ax (fun (j : Nat) => bif Nat.beq j 0 then 1073741824 else 0) d.1 d.2.1 d.2.2.1 d.2.2.2.1 d.c4.1 d.c4.2.1 d.c4.2.2.1 d.c4.2.2.2.1 5 d_3.1 d_2.1 d_2.2.1 d_2.2.2.1 d_2.2.2.2.1 d_2.c4) fun (d_4 : Int × Bool ⊕ Bool × NI × Int × Int × Int × NI × Int × Int × Int) => bif match d_4 with | Sum.inl val => true | Sum.inr val => false then Option.bind (match d_4 with | Sum.inl a => some a | Sum.inr val => none) fun (d_5 : Int × Bool) => Option.bind (g_Au (fun (j : Nat) => bif Nat.beq j 0 then 1073741824 else 0) d.1 d.2.1 d.2.2.1 d.2.2.2.1 d.c4.1 d.c4.2.1 d.c4.2.2.1 d.c4.2.2.2.1 5 d_5.2 d_2.1 d_2.2.1 d_2.2.2.1 d_2.2.2.2.1 d_2.c4) fun (d_6 : NI × Int × Int × Int × Int × Bool) => Option.bind g_Bb fun (d_7 : Unit) => Option.bind (g_Ap 5 0 0 0 1000 0 0 1000 100) fun (d_8 : Bool) => bif d_8 then bif d.2.2.2.1 == 1073741824 && (d.c4.1 == 0 && (d.c4.2.1 == 0 && true)) then bif d.c4.2.2.1 == 17592186044416 then bif d.c4.2.2.2.1 == 175921860444 then
 bif d.1 == 0 then bif d_3.2.2.1 == 1073741824 then Option.bind (g_AF 1 (fun (j : Nat) => bif Nat.beq j 0 then 4 else 4) true) fun (d : NI) => bif allN 24 fun (j : Nat) => d_3.2.1 j == d j then bif d_3.c4.1 == 5 then bif d_5.1 == 0 then k false else k false else k false else k false else k false else
 k false else k false else k false else k false else k false else Option.bind (match d_4 with | Sum.inr b => some b | Sum.inl val => none) fun (d_5 : Bool × NI × Int × Int × Int × NI × Int × Int × Int) => Option.bind (g_Au (fun (j : Nat) => bif Nat.beq j 0 then 1073741824 else 0) d.1 d.2.1 d.2.2.1 d.2.2.2.1 d.c4.1 d.c4.2.1 d.c4.2.2.1 d.c4.2.2.2.1 5 d_5.1 d_2.1 d_2.2.1 d_2.2.2.1 d_2.2.2.2.1 d_2.c4) fun (d_6 : NI × Int × Int × Int × Int × Bool) => Option.bind g_Bb fun (d_7 : Unit) => Option.bind (g_Ap 5 0 0 0 1000 0 0 1000 100) fun (d_8 : Bool) => bif d_8 then bif d.2.2.2.1 == 1073741824 && (d.c4.1 == 0 && (d.c4.2.1 == 0 && true)) then bif d.c4.2.2.1 == 17592186044416 then bif d.c4.2.2.2.1 == 175921860444 then
 bif d.1 == 0 then bif d_3.2.2.1 == 1073741824 then Option.bind (g_AF 1 (fun (j : Nat) => bif Nat.beq j 0 then 4 else 4) true) fun (d : NI) => bif allN 24 fun (j : Nat) => d_3.2.1 j == d j then bif d_3.c4.1 == 5 then Option.bind (g_AF 1 (fun (j : Nat) => bif Nat.beq j 0 then 8 else 8) true) fun (d : Nat →
 Int) => bif allN 24 fun (j : Nat) => d_5.c4.2.1 j == d j then bif d_6.c4.1 == 0 then Option.bind (g_AF 1 (fun (j : Nat) => bif Nat.beq j 0 then 9 else 9) true) fun (d : NI) => bif allN 24 fun (j : Nat) => d_6.1 j == d j then bif d_6.2.2.1 == 70368744177664 then k !d_6.c4.2 else
 k false else k false else k false else k false else k false else k false else k false else k false else k false else k false else k false else k false
def f_Bd : Option (Bool) := K_Bd f_Bb f_Ad f_Ar f_BF f_Ax f_Au f_Ap f_AF some
section
open Go.Ab.Rdr
def QA_Bd := ((pair nil nil) : Rdr (List AV × List Blk) _)
end
def F_Bd (f : Option (Bool)) : Sem1 := fun args h => match (QA_Bd).rd (args, h) with
  | some b => .opt (f ) fun (d : Bool) => .leaf (Res.mk (rB d) [] [])
  | none => .fail
theorem d_Bd (g_Bb : Option Unit) (g_Ad : t6GN3) (g_Ar : t7GN3) (g_BF : t8GN3) (g_Ax : t9GN3) (g_Au : t10GN3) (g_Ap : t11GN3) (g_AF : t12GN3) : den Try.prog (envOf [(8, F_Bb g_Bb), (9, F_Ad g_Ad), (10, F_Ar g_Ar), (18, F_BF g_BF), (11, F_Ax g_Ax), (12, F_Au g_Au), (13, F_Ap g_Ap), (25, F_AF g_AF)]) ⟨[], [], [], [], none⟩ 200 7 [] [] = K_Bd g_Bb g_Ad g_Ar g_BF g_Ax g_Au g_Ap g_AF (fun (d : Bool) => some (Res.mk (rB d) [] [])) := by kernel_rfl
theorem m_Bd {ρ σ : Type} (q : ρ → Option σ) (g_Bb : Option Unit) (g_Ad : t6GN3) (g_Ar : t7GN3) (g_BF : t8GN3) (g_Ax : t9GN3) (g_Au : t10GN3) (g_Ap : t11GN3) (g_AF : t12GN3) (k : (Bool) → Option ρ) : (K_Bd g_Bb g_Ad g_Ar g_BF g_Ax g_Au g_Ap g_AF k).bind q = K_Bd g_Bb g_Ad g_Ar g_BF g_Ax g_Au g_Ap g_AF (fun d => (k d).bind q) := by
  simp only [K_Bd, bnd_cond, bnd_bind, bnd_none, bnd_sum]
theorem qa_Bd : ∀ b, (QA_Bd).em b = ([], []) := fun b => by kernel_rfl
theorem e_Bd {f : Option (Bool)} {args : List AV} {h : List Blk} {r : Res} (hr : (F_Bd f args h).eval = some r) : args = [] ∧ h = [] ∧ (f ).bind (fun (d : Bool) => some (Res.mk (rB d) [] [])) = some r := by
  unfold F_Bd at hr
  split at hr
  · rename_i b hb
    have e := ((QA_Bd).ok _ _ hb).trans (qa_Bd b)
    rw [opt_eval2] at hr
    exact ⟨(Prod.mk.inj e).1, (Prod.mk.inj e).2, hr⟩
  · cases hr
theorem n_Bd {σ : Type} (q : (Bool) → Option σ) : (f_Bd ).bind q = K_Bd f_Bb f_Ad f_Ar f_BF f_Ax f_Au f_Ap f_AF q := by
  unfold f_Bd
  exact m_Bd q f_Bb f_Ad f_Ar f_BF f_Ax f_Au f_Ap f_AF some
theorem s_Bd [Amb] : Sound Try.prog 7 (F_Bd f_Bd) := (inl_sound (l := [(8, F_Bb f_Bb), (9, F_Ad f_Ad), (10, F_Ar f_Ar), (18, F_BF f_BF), (11, F_Ax f_Ax), (12, F_Au f_Au), (13, F_Ap f_Ap), (25, F_AF f_AF)]) (.cons s_Bb (.cons s_Ad (.cons s_Ar (.cons s_BF (.cons s_Ax (.cons s_Au (.cons s_Ap (.cons s_AF (.nil _))))))))) mixed [] [] 200 (by kernel_rfl)).by (F := F_Bd f_Bd) fun args b r hr => by
  obtain ⟨rfl, rfl, hr1⟩ := e_Bd hr
  exact inl_eval ((d_Bd f_Bb f_Ad f_Ar f_BF f_Ax f_Au f_Ap f_AF ).trans ((n_Bd (fun (d : Bool) => some (Res.mk (rB d) [] [])) ).symm.trans hr1))

end Go.Proofs.Ytdpenjncfmkbgaa
