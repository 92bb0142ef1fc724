/-
  Contracts by plain functions: astrolaberef4.To, astrolabelaw8.EarthSays Contracts by plain functions: astrolaberef4.Good, astrolabelaw8.EarthSays
-/
import Derived.Test.YtcalippagaaikaaZA
import Derived.Test.YtcalippagaaikaaZC
set_option maxRecDepth 100000
set_option maxHeartbeats 4000000
set_option linter.unusedVariables false
namespace Go.Proofs.Ytcalippagaaikaa
open Go.Ab
abbrev u0ES2 : List Nat := [2, 5, 7, 8, 9, 10, 11, 12, 13, 18, 19, 20, 21, 22, 23, 24, 25, 26, 27, 28, 29, 30, 31, 32, 33, 34, 35, 36, 37, 38, 39, 40, 41, 42, 43, 44, 45, 46, 47, 48, 49, 50, 51, 52, 53, 54, 55]
abbrev u1ES2 : List Nat := [0, 1, 2, 3, 4, 5, 6, 7, 8, 9, 10, 11, 12, 13, 15, 16, 17, 18, 19, 20, 21, 22, 23, 24, 25, 26, 27, 28, 29, 30, 31, 32, 33, 34, 35, 36, 37, 38, 39, 40, 41, 42, 43, 44, 45, 46, 47, 48, 49, 50, 51, 52, 53, 54, 55]
abbrev t2ES2 := Int → Option (Int × Int)
abbrev t3ES2 := Int → Int → Int → Bool → Option (Int × Bool)
def S_AD_0 {ρ : Type} (g_AZ : t2ES2) (g_AY : t3ES2) (g_AG : t3ES2) (x0 : Int) (x1 : Int) (x2 : Int) (x3 : Int) (x4 : Int) (x5 : Int) (x6 : Int) (x7 : Bool) (c : (Int × Int × Int × Int × Int × Int × Int ×
 Bool) → Option ρ) (x : (Int × Int × Int × Int × Int × Int × Int × Bool × Bool) → Option ρ) : Option ρ := bif decide (x6 > 1800000000) then c (x0, x1, x2, x3, x4, x5, IntKind.wrap IntKind.i64 (x6 - 3600000000), x7) else x (x0, x1, x2, x3, x4, x5, x6, decide (x6 > 1800000000), x7)
section
open Go.Ab.Rdr
def Q_AD_0 := (st (cons (ar (rc (cptr (nat 0) (ok' (nat 0)) (nat 1)))) (cons (ar (rc (cf (fi .i64 hole)))) (cons aund (cons (ar (rc (cf (fi .i64 hole)))) (cons (ar (rc (cf (fi .i64 hole)))) (cons aund (cons (ar (rc (cf (fi .i64 hole)))) (cons aund (cons aund (cons aund (cons aund (cons aund (cons aund (cons aund (cons (ar (rc (cptr (nat 1) (ok' (nat 0)) (nat 3)))) (cons (ar (rc (cf (fi .i64 hole)))) (cons (ar (rc (cf (fi .i64 hole)))) (cons (ar (rc (cf (fi .i64 hole)))) (cons aund (cons aund (cons aund (cons aund (cons aund (cons aund (cons aund (cons aund (cons aund (cons aund (cons aund (cons aund (cons aund (cons aund (cons aund (cons aund (cons aund (cons aund (cons aund (cons aund (cons aund (cons aund (cons aund (cons aund (cons aund (cons aund (cons aund (cons aund (cons aund (cons aund (cons aund (cons aund (cons aund (cons aund (cons aund (cons aund (cons aund (cons aund nil)))))))))))))))))))))))))))))))))))))))))))))))))))))))) (cons (some' (cons (gc (cf (fb hole))) nil)) (cons (some' (cons (gc (cf (fi .i64 (int 0)))) (cons (gc (cf (fi .i64 (int 0)))) (cons (gc (cf (fi .i64 (int 0)))) nil)))) nil)) nil)
end
theorem q_AD_0 : ∀ b, (Q_AD_0).em b = St.mk [AV.r (RV.c (CV.ptr 0 (Off.k 0) 1)), rI b.1.2.1, un, rI b.1.2.2.2.1, rI b.1.c4.1, un, rI b.1.c4.2.2.1,
 un, un, un, un, un, un, un, AV.r (RV.c (CV.ptr 1 (Off.k 0) 3)), rI b.1.c8.c4.2.2.2.1, rI b.1.c16.1, rI b.1.c16.2.1,
 un, un, un, un, un, un, un, un, un, un, un, un, un, un, un, un, un, un, un, un, un, un, un, un, un, un, un, un, un, un, un, un, un, un, un, un, un, un] [some [sB b.2.1.1.1],
 some [sI 0, sI 0, sI 0]] [] := fun b => by kernel_rfl
def R_AD_0 (l : ∀ {ρ : Type}, (Int × Int × Int × Int × Int × Int × Int × Bool) → ((Int × Int × Int × Int × Int × Int × Int × Bool × Bool) → Option ρ) → Option ρ) {ρ : Type} (s : St) (K : AX → St → Option ρ) : Option ρ := ((Q_AD_0).rd s).bind fun b => l (b.1.2.1, b.1.2.2.2.1, b.1.c4.1, b.1.c4.2.2.1,
 b.1.c8.c4.2.2.2.1, b.1.c16.1, b.1.c16.2.1, b.2.1.1.1) (fun d => K (AX.ex 0) (St.mk [AV.r (RV.c (CV.ptr 0 (Off.k 0) 1)), rI d.1, un, rI d.2.1, rI d.2.2.1,
 un, rI d.2.2.2.1, un, un, un, un, un, un, un, AV.r (RV.c (CV.ptr 1 (Off.k 0) 3)), rI d.c4.1, rI d.c4.2.1, rI d.c4.2.2.1,
 un, un, un, un, un, un, un, un, rI d.c4.2.2.1, rB d.c4.2.2.2.1, un, un, un, un, un, un, un, un, un, un, un, un, un, un, un, un, un, un,
 un, un, un, un, un, un, un, un, un, un] [some [sB d.c8], some [sI 0, sI 0, sI 0]] []))
theorem ms_AD_0 {ρ σ : Type} (g_AZ : t2ES2) (g_AY : t3ES2) (g_AG : t3ES2)   (q : ρ → Option σ) (x0 : Int) (x1 : Int) (x2 : Int) (x3 : Int) (x4 : Int) (x5 : Int) (x6 : Int) (x7 : Bool) (c : (Int × Int × Int × Int × Int × Int × Int × Bool) → Option ρ) (x : (Int × Int × Int × Int × Int × Int × Int × Bool × Bool) → Option ρ) : (S_AD_0 g_AZ g_AY g_AG  x0 x1 x2 x3 x4 x5 x6 x7 c x).bind q = S_AD_0 g_AZ g_AY g_AG  x0 x1 x2 x3 x4 x5 x6 x7 (fun d => (c d).bind q) (fun d => (x d).bind q) := by
  simp only [S_AD_0, bnd_cond, bnd_bind, bnd_none, bnd_sum]
def L_AD_0 {ρ : Type} (d : Int × Int × Int × Int × Int × Int × Int × Bool) (k : (Int × Int × Int × Int × Int × Int × Int × Bool × Bool) → Option ρ) : Option ρ := loopK (fun d c x => S_AD_0 f_AZ f_AY f_AG  d.1 d.2.1 d.2.2.1 d.2.2.2.1 d.c4.1 d.c4.2.1 d.c4.2.2.1 d.c4.2.2.2 c x) 200 d k
theorem mL_AD_0 {ρ σ : Type} (q : ρ → Option σ) (d : Int × Int × Int × Int × Int × Int × Int × Bool) (k : (Int × Int × Int × Int × Int × Int × Int × Bool × Bool) → Option ρ) : (L_AD_0 d k).bind q = L_AD_0 d fun x => (k x).bind q := loopK_bind q (fun d c x => ms_AD_0 f_AZ f_AY f_AG q d.1 d.2.1 d.2.2.1 d.2.2.2.1 d.c4.1 d.c4.2.1 d.c4.2.2.1 d.c4.2.2.2 c x) k _ d
def S_AD_1 {ρ : Type} (g_AZ : t2ES2) (g_AY : t3ES2) (g_AG : t3ES2) (x0 : Int) (x1 : Int) (x2 : Int) (x3 : Int) (x4 : Int) (x5 : Int) (x6 : Int) (x7 : Bool) (c : (Int × Int × Int × Int × Int × Int × Int ×
 Bool) → Option ρ) (x : (Int × Int × Int × Int × Int × Int × Int × Bool × Bool) → Option ρ) : Option ρ := bif decide (x6 ≤ -1800000000) then c (x0, x1, x2, x3, x4, x5, IntKind.wrap IntKind.i64 (x6 + 3600000000), x7) else x (x0, x1, x2, x3, x4, x5, x6, decide (x6 ≤ -1800000000), x7)
section
open Go.Ab.Rdr
def Q_AD_1 := (st (cons (ar (rc (cptr (nat 0) (ok' (nat 0)) (nat 1)))) (cons (ar (rc (cf (fi .i64 hole)))) (cons aund (cons (ar (rc (cf (fi .i64 hole)))) (cons (ar (rc (cf (fi .i64 hole)))) (cons aund (cons (ar (rc (cf (fi .i64 hole)))) (cons aund (cons aund (cons aund (cons aund (cons aund (cons aund (cons aund (cons (ar (rc (cptr (nat 1) (ok' (nat 0)) (nat 3)))) (cons (ar (rc (cf (fi .i64 hole)))) (cons (ar (rc (cf (fi .i64 hole)))) (cons (ar (rc (cf (fi .i64 hole)))) (cons aund (cons aund (cons aund (cons aund (cons aund (cons aund (cons aund (cons aund (cons aund (cons aund (cons aund (cons aund (cons aund (cons aund (cons aund (cons aund (cons aund (cons aund (cons aund (cons aund (cons aund (cons aund (cons aund (cons aund (cons aund (cons aund (cons aund (cons aund (cons aund (cons aund (cons aund (cons aund (cons aund (cons aund (cons aund (cons aund (cons aund (cons aund nil)))))))))))))))))))))))))))))))))))))))))))))))))))))))) (cons (some' (cons (gc (cf (fb hole))) nil)) (cons (some' (cons (gc (cf (fi .i64 (int 0)))) (cons (gc (cf (fi .i64 (int 0)))) (cons (gc (cf (fi .i64 (int 0)))) nil)))) nil)) nil)
end
theorem q_AD_1 : ∀ b, (Q_AD_1).em b = St.mk [AV.r (RV.c (CV.ptr 0 (Off.k 0) 1)), rI b.1.2.1, un, rI b.1.2.2.2.1, rI b.1.c4.1, un, rI b.1.c4.2.2.1,
 un, un, un, un, un, un, un, AV.r (RV.c (CV.ptr 1 (Off.k 0) 3)), rI b.1.c8.c4.2.2.2.1, rI b.1.c16.1, rI b.1.c16.2.1,
 un, un, un, un, un, un, un, un, un, un, un, un, un, un, un, un, un, un, un, un, un, un, un, un, un, un, un, un, un, un, un, un, un, un, un, un, un, un] [some [sB b.2.1.1.1],
 some [sI 0, sI 0, sI 0]] [] := fun b => by kernel_rfl
def R_AD_1 (l : ∀ {ρ : Type}, (Int × Int × Int × Int × Int × Int × Int × Bool) → ((Int × Int × Int × Int × Int × Int × Int × Bool × Bool) → Option ρ) → Option ρ) {ρ : Type} (s : St) (K : AX → St → Option ρ) : Option ρ := ((Q_AD_1).rd s).bind fun b => l (b.1.2.1, b.1.2.2.2.1, b.1.c4.1, b.1.c4.2.2.1,
 b.1.c8.c4.2.2.2.1, b.1.c16.1, b.1.c16.2.1, b.2.1.1.1) (fun d => K (AX.ex 2) (St.mk [AV.r (RV.c (CV.ptr 0 (Off.k 0) 1)), rI d.1, un, rI d.2.1, rI d.2.2.1,
 un, rI d.2.2.2.1, un, un, un, un, un, un, un, AV.r (RV.c (CV.ptr 1 (Off.k 0) 3)), rI d.c4.1, rI d.c4.2.1, rI d.c4.2.2.1,
 un, un, un, un, un, un, un, un, un, un, un, un, rI d.c4.2.2.1, rB d.c4.2.2.2.1, un, un, un, un, un, un, un, un, un, un, un, un, un, un,
 un, un, un, un, un, un, un, un, un, un] [some [sB d.c8], some [sI 0, sI 0, sI 0]] []))
theorem ms_AD_1 {ρ σ : Type} (g_AZ : t2ES2) (g_AY : t3ES2) (g_AG : t3ES2)   (q : ρ → Option σ) (x0 : Int) (x1 : Int) (x2 : Int) (x3 : Int) (x4 : Int) (x5 : Int) (x6 : Int) (x7 : Bool) (c : (Int × Int × Int × Int × Int × Int × Int × Bool) → Option ρ) (x : (Int × Int × Int × Int × Int × Int × Int × Bool × Bool) → Option ρ) : (S_AD_1 g_AZ g_AY g_AG  x0 x1 x2 x3 x4 x5 x6 x7 c x).bind q = S_AD_1 g_AZ g_AY g_AG  x0 x1 x2 x3 x4 x5 x6 x7 (fun d => (c d).bind q) (fun d => (x d).bind q) := by
  simp only [S_AD_1, bnd_cond, bnd_bind, bnd_none, bnd_sum]
def L_AD_1 {ρ : Type} (d : Int × Int × Int × Int × Int × Int × Int × Bool) (k : (Int × Int × Int × Int × Int × Int × Int × Bool × Bool) → Option ρ) : Option ρ := loopK (fun d c x => S_AD_1 f_AZ f_AY f_AG  d.1 d.2.1 d.2.2.1 d.2.2.2.1 d.c4.1 d.c4.2.1 d.c4.2.2.1 d.c4.2.2.2 c x) 200 d k
theorem mL_AD_1 {ρ σ : Type} (q : ρ → Option σ) (d : Int × Int × Int × Int × Int × Int × Int × Bool) (k : (Int × Int × Int × Int × Int × Int × Int × Bool × Bool) → Option ρ) : (L_AD_1 d k).bind q = L_AD_1 d fun x => (k x).bind q := loopK_bind q (fun d c x => ms_AD_1 f_AZ f_AY f_AG q d.1 d.2.1 d.2.2.1 d.2.2.2.1 d.c4.1 d.c4.2.1 d.c4.2.2.1 d.c4.2.2.2 c x) k _ d
theorem ds_AD_0 {ρ : Type} (g_AZ : t2ES2) (g_AY : t3ES2) (g_AG : t3ES2) (l_0 : ∀ {ρ : Type}, (Int × Int × Int × Int × Int × Int × Int × Bool) → ((Int × Int × Int × Int × Int × Int × Int × Bool × Bool) → Option ρ) →
 Option ρ) (l_1 : ∀ {ρ : Type}, (Int × Int × Int × Int × Int × Int × Int × Bool) → ((Int × Int × Int × Int × Int × Int × Int × Bool × Bool) → Option ρ) → Option ρ) (x0 : Int) (x1 : Int) (x2 : Int) (x3 : Int) (x4 : Int) (x5 : Int) (x6 : Int) (x7 : Bool) (c : St → Option ρ) (K : AX → St → Option ρ) : runC Try.prog (envOf [(44,
 F_AZ g_AZ), (86, F_AY g_AY), (79, F_AG g_AG)]) ⟨[⟨3, u0ES2, []⟩, ⟨5, u0ES2, []⟩], [⟨3, 1, @R_AD_0 (@l_0)⟩, ⟨5, 1, @R_AD_1 (@l_1)⟩], [], [], (some ⟨0, u1ES2, []⟩)⟩ (tmpsOf Try.prog 45) 1 200 (loopIn Try.prog 45 3) (St.mk [AV.r (RV.c (CV.ptr 0 (Off.k 0) 1)), rI x0, un, rI x1,
 rI x2, un, rI x3, un, un, un, un, un, un, un, AV.r (RV.c (CV.ptr 1 (Off.k 0) 3)), rI x4, rI x5, rI x6,
 un, un, un, un, un, un, un, un, un, un, un, un, un, un, un, un, un, un, un, un, un, un, un, un, un, un, un, un, un, un, un, un, un, un, un, un, un, un] [some [sB x7],
 some [sI 0, sI 0, sI 0]] []) (next (fun t => t.head 1 ⟨[⟨3, u0ES2, []⟩, ⟨5, u0ES2, []⟩], [⟨3, 1, @R_AD_0 (@l_0)⟩, ⟨5, 1, @R_AD_1 (@l_1)⟩], [], [], (some ⟨0, u1ES2, []⟩)⟩ (loopIn Try.prog 45 3)) c K) = S_AD_0 g_AZ g_AY g_AG x0 x1 x2 x3 x4 x5 x6 x7 (fun d => c (St.mk [AV.r (RV.c (CV.ptr 0 (Off.k 0) 1)),
 rI d.1, un, rI d.2.1, rI d.2.2.1, un, rI d.2.2.2.1, un, un, un, un, un, un, un, AV.r (RV.c (CV.ptr 1 (Off.k 0) 3)), rI d.c4.1,
 rI d.c4.2.1, rI d.c4.2.2.1, un, un, un, un, un, un, un, un, un, un, un, un, un, un, un, un, un, un, un, un, un, un, un, un, un,
 un, un, un, un, un, un, un, un, un, un, un, un, un] [some [sB d.c4.2.2.2], some [sI 0, sI 0, sI 0]] [])) (fun d => K (AX.ex 0) (St.mk [AV.r (RV.c (CV.ptr 0 (Off.k 0) 1)),
 rI d.1, un, rI d.2.1, rI d.2.2.1, un, rI d.2.2.2.1, un, un, un, un, un, un, un, AV.r (RV.c (CV.ptr 1 (Off.k 0) 3)), rI d.c4.1,
 rI d.c4.2.1, rI d.c4.2.2.1, un, un, un, un, un, un, un, un, rI d.c4.2.2.1, rB d.c4.2.2.2.1, un, un, un, un,
 un, un, un, un, un, un, un, un, un, un, un, un, un, un, un, un, un, un, un, un, un, un, un, un] [some [sB d.c8], some [sI 0, sI 0,
 sI 0]] [])) := by kernel_rfl
theorem it_AD_0 {ρ : Type} (x0 : Int) (x1 : Int) (x2 : Int) (x3 : Int) (x4 : Int) (x5 : Int) (x6 : Int) (x7 : Bool) (K : AX → St → Option ρ) : iter (fun t => t.head 1 ⟨[⟨3, u0ES2, []⟩, ⟨5, u0ES2, []⟩], [⟨3, 1, @R_AD_0 (@L_AD_0)⟩, ⟨5, 1, @R_AD_1 (@L_AD_1)⟩],
 [], [], (some ⟨0, u1ES2, []⟩)⟩ (loopIn Try.prog 45 3)) (runC Try.prog (envOf [(44, F_AZ f_AZ), (86,
 F_AY f_AY), (79, F_AG f_AG)]) ⟨[⟨3, u0ES2, []⟩, ⟨5, u0ES2, []⟩], [⟨3, 1, @R_AD_0 (@L_AD_0)⟩, ⟨5, 1, @R_AD_1 (@L_AD_1)⟩], [], [], (some ⟨0, u1ES2, []⟩)⟩ (tmpsOf Try.prog 45) 1 200 (loopIn Try.prog 45 3)) K 200 (St.mk [AV.r (RV.c (CV.ptr 0 (Off.k 0) 1)), rI x0, un, rI x1, rI x2,
 un, rI x3, un, un, un, un, un, un, un, AV.r (RV.c (CV.ptr 1 (Off.k 0) 3)), rI x4, rI x5, rI x6, un, un, un, un, un,
 un, un, un, un, un, un, un, un, un, un, un, un, un, un, un, un, un, un, un, un, un, un, un, un, un, un, un, un, un, un, un, un, un] [some [sB x7], some [sI 0,
 sI 0, sI 0]] []) = L_AD_0 (x0, x1, x2, x3, x4, x5, x6, x7) (fun d => K (AX.ex 0) (St.mk [AV.r (RV.c (CV.ptr 0 (Off.k 0) 1)), rI d.1, un, rI d.2.1, rI d.2.2.1,
 un, rI d.2.2.2.1, un, un, un, un, un, un, un, AV.r (RV.c (CV.ptr 1 (Off.k 0) 3)), rI d.c4.1, rI d.c4.2.1, rI d.c4.2.2.1,
 un, un, un, un, un, un, un, un, rI d.c4.2.2.1, rB d.c4.2.2.2.1, un, un, un, un, un, un, un, un, un, un, un, un, un, un, un, un, un, un,
 un, un, un, un, un, un, un, un, un, un] [some [sB d.c8], some [sI 0, sI 0, sI 0]] [])) := iter_loopX (emb := fun (d : Int × Int × Int × Int × Int ×
 Int × Int × Bool) => St.mk [AV.r (RV.c (CV.ptr 0 (Off.k 0) 1)), rI d.1, un, rI d.2.1, rI d.2.2.1, un, rI d.2.2.2.1, un, un, un, un, un,
 un, un, AV.r (RV.c (CV.ptr 1 (Off.k 0) 3)), rI d.c4.1, rI d.c4.2.1, rI d.c4.2.2.1, un, un, un, un, un, un, un, un, un, un, un, un,
 un, un, un, un, un, un, un, un, un, un, un, un, un, un, un, un, un, un, un, un, un, un, un, un, un, un] [some [sB d.c4.2.2.2], some [sI 0, sI 0,
 sI 0]] []) (step := fun d c x => S_AD_0 f_AZ f_AY f_AG d.1 d.2.1 d.2.2.1 d.2.2.2.1 d.c4.1 d.c4.2.1 d.c4.2.2.1 d.c4.2.2.2 c x) (kx := (fun d => K (AX.ex 0) (St.mk [AV.r (RV.c (CV.ptr 0 (Off.k 0) 1)), rI d.1, un, rI d.2.1,
 rI d.2.2.1, un, rI d.2.2.2.1, un, un, un, un, un, un, un, AV.r (RV.c (CV.ptr 1 (Off.k 0) 3)), rI d.c4.1, rI d.c4.2.1, rI d.c4.2.2.1,
 un, un, un, un, un, un, un, un, rI d.c4.2.2.1, rB d.c4.2.2.2.1, un, un, un, un, un, un, un, un, un, un, un, un, un, un, un, un, un, un,
 un, un, un, un, un, un, un, un, un, un] [some [sB d.c8], some [sI 0, sI 0, sI 0]] []))) (fun d c => ds_AD_0 f_AZ f_AY f_AG (@L_AD_0) (@L_AD_1) d.1 d.2.1 d.2.2.1 d.2.2.2.1 d.c4.1 d.c4.2.1 d.c4.2.2.1 d.c4.2.2.2 c K) 200 (x0,
 x1, x2, x3, x4, x5, x6, x7)
theorem so_AD_0 [Amb] : ∀ kk, SumOK Try.prog (envOf [(44, F_AZ f_AZ), (86, F_AY f_AY), (79, F_AG f_AG)]) ⟨[⟨3, u0ES2, []⟩,
 ⟨5, u0ES2, []⟩], [⟨3, 1, @R_AD_0 (@L_AD_0)⟩, ⟨5, 1, @R_AD_1 (@L_AD_1)⟩], [], [], (some ⟨0, u1ES2, []⟩)⟩ (tmpsOf Try.prog 45) kk 200 (loopIn Try.prog 45 3) := SumOK.of (id := 3) (k0 := 1) (run := @R_AD_0 (@L_AD_0)) (by kernel_rfl) fun s K r hr => by
    unfold R_AD_0 at hr
    obtain ⟨b, hb, hr1⟩ := Option.bind_eq_some_iff.1 hr
    have e := ((Q_AD_0).ok s b hb).trans (q_AD_0 b)
    subst e
    exact ⟨200, (it_AD_0 b.1.2.1 b.1.2.2.2.1 b.1.c4.1 b.1.c4.2.2.1 b.1.c8.c4.2.2.2.1 b.1.c16.1 b.1.c16.2.1 b.2.1.1.1 K).trans hr1⟩
theorem ds_AD_1 {ρ : Type} (g_AZ : t2ES2) (g_AY : t3ES2) (g_AG : t3ES2) (l_0 : ∀ {ρ : Type}, (Int × Int × Int × Int × Int × Int × Int × Bool) → ((Int × Int × Int × Int × Int × Int × Int × Bool × Bool) → Option ρ) →
 Option ρ) (l_1 : ∀ {ρ : Type}, (Int × Int × Int × Int × Int × Int × Int × Bool) → ((Int × Int × Int × Int × Int × Int × Int × Bool × Bool) → Option ρ) → Option ρ) (x0 : Int) (x1 : Int) (x2 : Int) (x3 : Int) (x4 : Int) (x5 : Int) (x6 : Int) (x7 : Bool) (c : St → Option ρ) (K : AX → St → Option ρ) : runC Try.prog (envOf [(44,
 F_AZ g_AZ), (86, F_AY g_AY), (79, F_AG g_AG)]) ⟨[⟨3, u0ES2, []⟩, ⟨5, u0ES2, []⟩], [⟨3, 1, @R_AD_0 (@l_0)⟩, ⟨5, 1, @R_AD_1 (@l_1)⟩], [], [], (some ⟨0, u1ES2, []⟩)⟩ (tmpsOf Try.prog 45) 1 200 (loopIn Try.prog 45 5) (St.mk [AV.r (RV.c (CV.ptr 0 (Off.k 0) 1)), rI x0, un, rI x1,
 rI x2, un, rI x3, un, un, un, un, un, un, un, AV.r (RV.c (CV.ptr 1 (Off.k 0) 3)), rI x4, rI x5, rI x6,
 un, un, un, un, un, un, un, un, un, un, un, un, un, un, un, un, un, un, un, un, un, un, un, un, un, un, un, un, un, un, un, un, un, un, un, un, un, un] [some [sB x7],
 some [sI 0, sI 0, sI 0]] []) (next (fun t => t.head 1 ⟨[⟨3, u0ES2, []⟩, ⟨5, u0ES2, []⟩], [⟨3, 1, @R_AD_0 (@l_0)⟩, ⟨5, 1, @R_AD_1 (@l_1)⟩], [], [], (some ⟨0, u1ES2, []⟩)⟩ (loopIn Try.prog 45 5)) c K) = S_AD_1 g_AZ g_AY g_AG x0 x1 x2 x3 x4 x5 x6 x7 (fun d => c (St.mk [AV.r (RV.c (CV.ptr 0 (Off.k 0) 1)),
 rI d.1, un, rI d.2.1, rI d.2.2.1, un, rI d.2.2.2.1, un, un, un, un, un, un, un, AV.r (RV.c (CV.ptr 1 (Off.k 0) 3)), rI d.c4.1,
 rI d.c4.2.1, rI d.c4.2.2.1, un, un, un, un, un, un, un, un, un, un, un, un, un, un, un, un, un, un, un, un, un, un, un, un, un,
 un, un, un, un, un, un, un, un, un, un, un, un, un] [some [sB d.c4.2.2.2], some [sI 0, sI 0, sI 0]] [])) (fun d => K (AX.ex 2) (St.mk [AV.r (RV.c (CV.ptr 0 (Off.k 0) 1)),
 rI d.1, un, rI d.2.1, rI d.2.2.1, un, rI d.2.2.2.1, un, un, un, un, un, un, un, AV.r (RV.c (CV.ptr 1 (Off.k 0) 3)), rI d.c4.1,
 rI d.c4.2.1, rI d.c4.2.2.1, un, un, un, un, un, un, un, un, un, un, un, un, rI d.c4.2.2.1, rB d.c4.2.2.2.1,
 un, un, un, un, un, un, un, un, un, un, un, un, un, un, un, un, un, un, un, un, un, un, un, un] [some [sB d.c8], some [sI 0, sI 0,
 sI 0]] [])) := by kernel_rfl
theorem it_AD_1 {ρ : Type} (x0 : Int) (x1 : Int) (x2 : Int) (x3 : Int) (x4 : Int) (x5 : Int) (x6 : Int) (x7 : Bool) (K : AX → St → Option ρ) : iter (fun t => t.head 1 ⟨[⟨3, u0ES2, []⟩, ⟨5, u0ES2, []⟩], [⟨3, 1, @R_AD_0 (@L_AD_0)⟩, ⟨5, 1, @R_AD_1 (@L_AD_1)⟩],
 [], [], (some ⟨0, u1ES2, []⟩)⟩ (loopIn Try.prog 45 5)) (runC Try.prog (envOf [(44, F_AZ f_AZ), (86,
 F_AY f_AY), (79, F_AG f_AG)]) ⟨[⟨3, u0ES2, []⟩, ⟨5, u0ES2, []⟩], [⟨3, 1, @R_AD_0 (@L_AD_0)⟩, ⟨5, 1, @R_AD_1 (@L_AD_1)⟩], [], [], (some ⟨0, u1ES2, []⟩)⟩ (tmpsOf Try.prog 45) 1 200 (loopIn Try.prog 45 5)) K 200 (St.mk [AV.r (RV.c (CV.ptr 0 (Off.k 0) 1)), rI x0, un, rI x1, rI x2,
 un, rI x3, un, un, un, un, un, un, un, AV.r (RV.c (CV.ptr 1 (Off.k 0) 3)), rI x4, rI x5, rI x6, un, un, un, un, un,
 un, un, un, un, un, un, un, un, un, un, un, un, un, un, un, un, un, un, un, un, un, un, un, un, un, un, un, un, un, un, un, un, un] [some [sB x7], some [sI 0,
 sI 0, sI 0]] []) = L_AD_1 (x0, x1, x2, x3, x4, x5, x6, x7) (fun d => K (AX.ex 2) (St.mk [AV.r (RV.c (CV.ptr 0 (Off.k 0) 1)), rI d.1, un, rI d.2.1, rI d.2.2.1,
 un, rI d.2.2.2.1, un, un, un, un, un, un, un, AV.r (RV.c (CV.ptr 1 (Off.k 0) 3)), rI d.c4.1, rI d.c4.2.1, rI d.c4.2.2.1,
 un, un, un, un, un, un, un, un, un, un, un, un, rI d.c4.2.2.1, rB d.c4.2.2.2.1, un, un, un, un, un, un, un, un, un, un, un, un, un, un,
 un, un, un, un, un, un, un, un, un, un] [some [sB d.c8], some [sI 0, sI 0, sI 0]] [])) := iter_loopX (emb := fun (d : Int × Int × Int × Int × Int ×
 Int × Int × Bool) => St.mk [AV.r (RV.c (CV.ptr 0 (Off.k 0) 1)), rI d.1, un, rI d.2.1, rI d.2.2.1, un, rI d.2.2.2.1, un, un, un, un, un,
 un, un, AV.r (RV.c (CV.ptr 1 (Off.k 0) 3)), rI d.c4.1, rI d.c4.2.1, rI d.c4.2.2.1, un, un, un, un, un, un, un, un, un, un, un, un,
 un, un, un, un, un, un, un, un, un, un, un, un, un, un, un, un, un, un, un, un, un, un, un, un, un, un] [some [sB d.c4.2.2.2], some [sI 0, sI 0,
 sI 0]] []) (step := fun d c x => S_AD_1 f_AZ f_AY f_AG d.1 d.2.1 d.2.2.1 d.2.2.2.1 d.c4.1 d.c4.2.1 d.c4.2.2.1 d.c4.2.2.2 c x) (kx := (fun d => K (AX.ex 2) (St.mk [AV.r (RV.c (CV.ptr 0 (Off.k 0) 1)), rI d.1, un, rI d.2.1,
 rI d.2.2.1, un, rI d.2.2.2.1, un, un, un, un, un, un, un, AV.r (RV.c (CV.ptr 1 (Off.k 0) 3)), rI d.c4.1, rI d.c4.2.1, rI d.c4.2.2.1,
 un, un, un, un, un, un, un, un, un, un, un, un, rI d.c4.2.2.1, rB d.c4.2.2.2.1, un, un, un, un, un, un, un, un, un, un, un, un, un, un,
 un, un, un, un, un, un, un, un, un, un] [some [sB d.c8], some [sI 0, sI 0, sI 0]] []))) (fun d c => ds_AD_1 f_AZ f_AY f_AG (@L_AD_0) (@L_AD_1) d.1 d.2.1 d.2.2.1 d.2.2.2.1 d.c4.1 d.c4.2.1 d.c4.2.2.1 d.c4.2.2.2 c K) 200 (x0,
 x1, x2, x3, x4, x5, x6, x7)
theorem so_AD_1 [Amb] : ∀ kk, SumOK Try.prog (envOf [(44, F_AZ f_AZ), (86, F_AY f_AY), (79, F_AG f_AG)]) ⟨[⟨3, u0ES2, []⟩,
 ⟨5, u0ES2, []⟩], [⟨3, 1, @R_AD_0 (@L_AD_0)⟩, ⟨5, 1, @R_AD_1 (@L_AD_1)⟩], [], [], (some ⟨0, u1ES2, []⟩)⟩ (tmpsOf Try.prog 45) kk 200 (loopIn Try.prog 45 5) := SumOK.of (id := 5) (k0 := 1) (run := @R_AD_1 (@L_AD_1)) (by kernel_rfl) fun s K r hr => by
    unfold R_AD_1 at hr
    obtain ⟨b, hb, hr1⟩ := Option.bind_eq_some_iff.1 hr
    have e := ((Q_AD_1).ok s b hb).trans (q_AD_1 b)
    subst e
    exact ⟨200, (it_AD_1 b.1.2.1 b.1.2.2.2.1 b.1.c4.1 b.1.c4.2.2.1 b.1.c8.c4.2.2.2.1 b.1.c16.1 b.1.c16.2.1 b.2.1.1.1 K).trans hr1⟩
def K_AD {ρ : Type} (g_AZ : t2ES2) (g_AY : t3ES2) (g_AG : t3ES2) (l_0 : ∀ {ρ : Type}, (Int × Int × Int × Int × Int × Int × Int × Bool) → ((Int × Int × Int × Int × Int × Int × Int × Bool × Bool) → Option ρ) →
 Option ρ) (l_1 : ∀ {ρ : Type}, (Int × Int × Int × Int × Int × Int × Int × Bool) → ((Int × Int × Int × Int × Int × Int × Int × Bool × Bool) → Option ρ) → Option ρ) (x0 : Int) (x1 : Int) (x2 : Int) (x3 : Int) (x4 : Int) (x5 : Int) (x6 : Bool) (k : (Int × Int × Int × Bool) → Option ρ) : Option ρ := Option.bind (g_AZ x0) fun (d : Int ×
 Int) => l_0 (x0, x2, x3, x5, d.1, d.2, IntKind.wrap IntKind.i64 (x4 - x1), x6) fun (d : Int × Int × Int × Int × Int × Int × Int × Bool × Bool) => l_1 (d.1, d.2.1, d.2.2.1, d.2.2.2.1, d.c4.1, d.c4.2.1, d.c4.2.2.1, d.c8) fun (d : Int × Int × Int × Int × Int × Int × Int × Bool ×
 Bool) => Option.bind (g_AY (IntKind.wrap IntKind.i64 (d.2.2.1 - d.1)) d.c4.1 10 d.c8) fun (d_1 : Int × Bool) => Option.bind (g_AY d.c4.2.2.1 d.c4.2.1 10 d_1.2) fun (d_2 : Int × Bool) => Option.bind (g_AG (IntKind.wrap IntKind.i64 (d.2.1 - d.2.2.2.1)) 1073741824 1000 d_2.2) fun (d : Int ×
 Bool) => k (d_1.1, d_2.1, d.1, d.2)
def f_AD (x0 : Int) (x1 : Int) (x2 : Int) (x3 : Int) (x4 : Int) (x5 : Int) (x6 : Bool) : Option (Int × Int × Int × Bool) := K_AD f_AZ f_AY f_AG (@L_AD_0) (@L_AD_1) x0 x1 x2 x3 x4 x5 x6 some
section
open Go.Ab.Rdr
def QA_AD := ((pair (cons (ar (rc (cptr (nat 0) (ok' (nat 0)) (nat 1)))) (cons (ar (rc (cf (fi .i64 hole)))) (cons (ar (rc (cf (fi .i64 hole)))) (cons (ar (rc (cf (fi .i64 hole)))) (cons (ar (rc (cf (fi .i64 hole)))) (cons (ar (rc (cf (fi .i64 hole)))) (cons (ar (rc (cf (fi .i64 hole)))) nil))))))) (cons (cons (gc (cf (fb hole))) nil) nil)) : Rdr (List AV × List Blk) _)
end
def F_AD (f : (Int) → (Int) → (Int) → (Int) → (Int) → (Int) → (Bool) → Option (Int × Int × Int × Bool)) : Sem1 := fun args h => match (QA_AD).rd (args, h) with
  | some b => .opt (f b.1.2.1 b.1.2.2.1 b.1.2.2.2.1 b.1.c4.1 b.1.c4.2.1 b.1.c4.2.2.1 b.2.1.1) fun (d : Int × Int × Int × Bool) => .leaf (Res.mk (AV.r (RV.agg [sI d.1, sI d.2.1, sI d.2.2.1])) [Ch.set [sB d.2.2.2]] [])
  | none => .fail
theorem d_AD (g_AZ : t2ES2) (g_AY : t3ES2) (g_AG : t3ES2) (l_0 : ∀ {ρ : Type}, (Int × Int × Int × Int × Int × Int × Int × Bool) → ((Int × Int × Int × Int × Int × Int × Int × Bool × Bool) → Option ρ) → Option ρ) (l_1 : ∀ {ρ : Type},
 (Int × Int × Int × Int × Int × Int × Int × Bool) → ((Int × Int × Int × Int × Int × Int × Int × Bool × Bool) → Option ρ) → Option ρ) (x0 : Int) (x1 : Int) (x2 : Int) (x3 : Int) (x4 : Int) (x5 : Int) (x6 : Bool) : den Try.prog (envOf [(44, F_AZ g_AZ), (86, F_AY g_AY), (79, F_AG g_AG)]) ⟨[⟨3, u0ES2, []⟩, ⟨5, u0ES2, []⟩], [⟨3, 1, @R_AD_0 (@l_0)⟩, ⟨5, 1, @R_AD_1 (@l_1)⟩], [], [], (some ⟨0, u1ES2, []⟩)⟩ 200 45 [.r (.c (.ptr 0 (.k 0) 1)), rI x0, rI x1, rI x2, rI x3, rI x4, rI x5] [[.c (.f (.b x6))]] = K_AD g_AZ g_AY g_AG (@l_0) (@l_1) x0 x1 x2 x3 x4 x5 x6 (fun (d : Int ×
 Int × Int × Bool) => some (Res.mk (AV.r (RV.agg [sI d.1, sI d.2.1, sI d.2.2.1])) [Ch.set [sB d.2.2.2]] [])) := by kernel_rfl
theorem m_AD {ρ σ : Type} (q : ρ → Option σ) (g_AZ : t2ES2) (g_AY : t3ES2) (g_AG : t3ES2) (l_0 : ∀ {ρ : Type}, (Int × Int × Int × Int × Int × Int × Int × Bool) → ((Int × Int × Int × Int × Int × Int × Int × Bool × Bool) → Option ρ) → Option ρ) (l_1 : ∀ {ρ : Type}, (Int × Int × Int × Int × Int × Int × Int × Bool) → ((Int × Int × Int × Int × Int × Int × Int × Bool × Bool) → Option ρ) → Option ρ) (hl_0 : ∀ {ρ σ : Type} (q : ρ → Option σ) (d : Int × Int × Int × Int × Int × Int × Int × Bool) (k : (Int × Int × Int × Int × Int × Int × Int × Bool × Bool) → Option ρ), (l_0 d k).bind q = l_0 d fun x => (k x).bind q) (hl_1 : ∀ {ρ σ : Type} (q : ρ → Option σ) (d : Int × Int × Int × Int × Int × Int × Int × Bool) (k : (Int × Int × Int × Int × Int × Int × Int × Bool × Bool) → Option ρ), (l_1 d k).bind q = l_1 d fun x => (k x).bind q) (x0 : Int) (x1 : Int) (x2 : Int) (x3 : Int) (x4 : Int) (x5 : Int) (x6 : Bool) (k : (Int × Int × Int × Bool) → Option ρ) : (K_AD g_AZ g_AY g_AG (@l_0) (@l_1) x0 x1 x2 x3 x4 x5 x6 k).bind q = K_AD g_AZ g_AY g_AG (@l_0) (@l_1) x0 x1 x2 x3 x4 x5 x6 (fun d => (k d).bind q) := by
  simp only [K_AD, bnd_cond, bnd_bind, bnd_none, bnd_sum, hl_0, hl_1]
theorem qa_AD : ∀ b, (QA_AD).em b = ([.r (.c (.ptr 0 (.k 0) 1)), rI b.1.2.1, rI b.1.2.2.1, rI b.1.2.2.2.1, rI b.1.c4.1, rI b.1.c4.2.1, rI b.1.c4.2.2.1], [[.c (.f (.b b.2.1.1))]]) := fun b => by kernel_rfl
theorem e_AD {f : (Int) → (Int) → (Int) → (Int) → (Int) → (Int) → (Bool) → Option (Int × Int × Int × Bool)} {args : List AV} {h : List Blk} {r : Res} (hr : (F_AD f args h).eval = some r) : ∃ x0 x1 x2 x3 x4 x5 x6, args = [.r (.c (.ptr 0 (.k 0) 1)), rI x0, rI x1, rI x2, rI x3, rI x4, rI x5] ∧ h = [[.c (.f (.b x6))]] ∧ (f x0 x1 x2 x3 x4 x5 x6).bind (fun (d : Int × Int × Int × Bool) => some (Res.mk (AV.r (RV.agg [sI d.1, sI d.2.1, sI d.2.2.1])) [Ch.set [sB d.2.2.2]] [])) = some r := by
  unfold F_AD at hr
  split at hr
  · rename_i b hb
    have e := ((QA_AD).ok _ _ hb).trans (qa_AD b)
    rw [opt_eval2] at hr
    exact ⟨b.1.2.1, b.1.2.2.1, b.1.2.2.2.1, b.1.c4.1, b.1.c4.2.1, b.1.c4.2.2.1, b.2.1.1, (Prod.mk.inj e).1, (Prod.mk.inj e).2, hr⟩
  · cases hr
theorem n_AD {σ : Type} (q : (Int × Int × Int × Bool) → Option σ) (x0 : Int) (x1 : Int) (x2 : Int) (x3 : Int) (x4 : Int) (x5 : Int) (x6 : Bool) : (f_AD x0 x1 x2 x3 x4 x5 x6).bind q = K_AD f_AZ f_AY f_AG (@L_AD_0) (@L_AD_1) x0 x1 x2 x3 x4 x5 x6 q := by
  unfold f_AD
  exact m_AD q f_AZ f_AY f_AG (@L_AD_0) (@L_AD_1) (fun q d k => mL_AD_0 q d k) (fun q d k => mL_AD_1 q d k) x0 x1 x2 x3 x4 x5 x6 some
theorem s_AD [Amb] : Sound Try.prog 45 (F_AD f_AD) := (inl_sums (l := [(44, F_AZ f_AZ), (86, F_AY f_AY), (79, F_AG f_AG)]) (.cons s_AZ (.cons s_AY (.cons s_AG (.nil _)))) mixed (hs := ⟨[⟨3, u0ES2, []⟩, ⟨5, u0ES2, []⟩], [⟨3, 1, @R_AD_0 (@L_AD_0)⟩,
 ⟨5, 1, @R_AD_1 (@L_AD_1)⟩], [], [], (some ⟨0, u1ES2, []⟩)⟩) (lf := 200) (Sums.by (l := [loopIn Try.prog 45 3,
 loopIn Try.prog 45 5]) (lj := []) (by kernel_rfl) ⟨so_AD_0, ⟨so_AD_1, trivial⟩⟩ (by kernel_rfl) trivial) (by kernel_rfl)).by (F := F_AD f_AD) fun args b r hr => by
  obtain ⟨x0, x1, x2, x3, x4, x5, x6, rfl, rfl, hr1⟩ := e_AD hr
  exact inl_eval ((d_AD f_AZ f_AY f_AG (@L_AD_0) (@L_AD_1) x0 x1 x2 x3 x4 x5 x6).trans ((n_AD (fun (d : Int × Int × Int × Bool) => some (Res.mk (AV.r (RV.agg [sI d.1, sI d.2.1, sI d.2.2.1])) [Ch.set [sB d.2.2.2]] [])) x0 x1 x2 x3 x4 x5 x6).symm.trans hr1))

end Go.Proofs.Ytcalippagaaikaa
set_option maxRecDepth 100000
set_option maxHeartbeats 4000000
set_option linter.unusedVariables false
namespace Go.Proofs.Ytcalippagaaikaa
open Go.Ab
abbrev t0ES3 := Int → Int → Int → Option Bool
abbrev t1ES3 := Int → Int → Int → Bool → Option (Int × Int × Bool)
abbrev t2ES3 := Int → Int → Bool → Option (Int × Bool)
abbrev t3ES3 := Int → Int → Int → Int → Int → Option (Int × Int)
abbrev t4ES3 := Int → Option (Int × Int)
abbrev ES3g0 := Int → Int → Int → Option (Unit ⊕ Int × Int × Int × Int × Int)
abbrev ES3g1 := Int → Int → Int → Int → Int → Int → Int → Int → Bool → Option (Int × Int × Int × Int × Bool)
abbrev ES3g2 := Int → Int → Int → Int → Int → Int → Bool → Option (Int × Int × Int × Bool)
def K_BP {ρ : Type} (x0 : Int) (x1 : Int) (x2 : Int) (k : (Bool) → Option ρ) : Option ρ := bif decide (x0 ≥ -900000000) then bif decide (x0 ≤ 900000000) then bif decide (x1 ≥ -1800000000) then bif decide (x1 ≤ 1800000000) then bif decide (x2 ≥ -100000000) then k (decide (x2 ≤ 100000000)) else k false else
 k false else k false else k false else k false
def f_BP (x0 : Int) (x1 : Int) (x2 : Int) : Option (Bool) := K_BP   x0 x1 x2 some
section
open Go.Ab.Rdr
def QA_BP := ((pair (cons (ar (rc (cf (fi .i64 hole)))) (cons (ar (rc (cf (fi .i64 hole)))) (cons (ar (rc (cf (fi .i64 hole)))) nil))) nil) : Rdr (List AV × List Blk) _)
end
def F_BP (f : (Int) → (Int) → (Int) → Option (Bool)) : Sem1 := fun args h => match (QA_BP).rd (args, h) with
  | some b => .opt (f b.1.1 b.1.2.1 b.1.2.2.1) fun (d : Bool) => .leaf (Res.mk (rB d) [] [])
  | none => .fail
theorem d_BP (x0 : Int) (x1 : Int) (x2 : Int) : den Try.prog (envOf []) ⟨[], [], [], [], none⟩ 200 41 [rI x0, rI x1, rI x2] [] = K_BP x0 x1 x2 (fun (d : Bool) => some (Res.mk (rB d) [] [])) := by kernel_rfl
theorem m_BP {ρ σ : Type} (q : ρ → Option σ)    (x0 : Int) (x1 : Int) (x2 : Int) (k : (Bool) → Option ρ) : (K_BP   x0 x1 x2 k).bind q = K_BP   x0 x1 x2 (fun d => (k d).bind q) := by
  simp only [K_BP, bnd_cond, bnd_bind, bnd_none, bnd_sum]
theorem qa_BP : ∀ b, (QA_BP).em b = ([rI b.1.1, rI b.1.2.1, rI b.1.2.2.1], []) := fun b => by kernel_rfl
theorem e_BP {f : (Int) → (Int) → (Int) → Option (Bool)} {args : List AV} {h : List Blk} {r : Res} (hr : (F_BP f args h).eval = some r) : ∃ x0 x1 x2, args = [rI x0, rI x1, rI x2] ∧ h = [] ∧ (f x0 x1 x2).bind (fun (d : Bool) => some (Res.mk (rB d) [] [])) = some r := by
  unfold F_BP at hr
  split at hr
  · rename_i b hb
    have e := ((QA_BP).ok _ _ hb).trans (qa_BP b)
    rw [opt_eval2] at hr
    exact ⟨b.1.1, b.1.2.1, b.1.2.2.1, (Prod.mk.inj e).1, (Prod.mk.inj e).2, hr⟩
  · cases hr
theorem n_BP {σ : Type} (q : (Bool) → Option σ) (x0 : Int) (x1 : Int) (x2 : Int) : (f_BP x0 x1 x2).bind q = K_BP   x0 x1 x2 q := by
  unfold f_BP
  exact m_BP q    x0 x1 x2 some
theorem s_BP [Amb] : Sound Try.prog 41 (F_BP f_BP) := (inl_sound (l := []) (.nil _) mixed [] [] 200 (by kernel_rfl)).by (F := F_BP f_BP) fun args b r hr => by
  obtain ⟨x0, x1, x2, rfl, rfl, hr1⟩ := e_BP hr
  exact inl_eval ((d_BP   x0 x1 x2).trans ((n_BP (fun (d : Bool) => some (Res.mk (rB d) [] [])) x0 x1 x2).symm.trans hr1))

def K_Bd {ρ : Type} (g_Bb : Option Bool) (g_AH : t0ES3) (g_BP : t0ES3) (g_Ao : t1ES3) (g_BV : t2ES3) (g_Ap : ES3g0) (g_BE : t3ES3) (g_AZ : t4ES3) (g_As : ES3g1) (g_AD : ES3g2) (x0 : Int) (x1 : Int) (x2 : Int) (x3 : Int) (x4 : Int) (x5 : Int) (k : (Bool) → Option ρ) : Option ρ := Option.bind g_Bb fun (d : Bool) => bif !d then k false else Option.bind (g_AH x3 x4 x5) fun (d : Bool) => Option.bind (g_BP x3 x4 x5) fun (d_1 : Bool) => bif !d == d_1 then
 k false else Option.bind (g_AH x0 x1 x2) fun (d : Bool) => Option.bind (g_BP x0 x1 x2) fun (d_2 : Bool) => bif !d == d_2 then k false else Option.bind (g_Ao x3 x4 x5 false) fun (d : Int × Int × Bool) => Option.bind (g_AH x3 x4 x5) fun (d_3 : Bool) => bif !d_3 then bif d.2.1 != 1 then k false else bif d.1 != 0 then
 k false else Option.bind (g_Ap x0 x1 x2) fun (d : Unit ⊕ Int × Int × Int × Int × Int) => bif match d with | Sum.inl val => true | Sum.inr val => false then Option.bind (match d with | Sum.inl a => some a | Sum.inr val => none) fun (d : Unit) => Option.bind (g_AH x0 x1 x2) fun (d : Bool) => bif !d then
 k true else bif decide (x0 > 850000000) then k true else bif decide (x0 < -850000000) then k true else k false else Option.bind (match d with | Sum.inr b => some b | Sum.inl val => none) fun (d : Int × Int × Int × Int × Int) => Option.bind (g_AH x0 x1 x2) fun (d_4 : Bool) => bif !d_4 then k false else
 bif decide (x0 > 850000000) then k false else bif decide (x0 < -850000000) then k false else Option.bind (g_BE d.1 d.2.1 d.2.2.1 d.2.2.2.1 d.c4) fun (d_5 : Int × Int) => Option.bind (g_AZ x0) fun (d_6 : Int × Int) => Option.bind (g_As x3 x4 x5 d.1 d.2.1 d.2.2.1 d.2.2.2.1 d.c4 false) fun (d : Int × Int ×
 Int × Int × Bool) => bif d_5.1 != d_6.1 then k false else bif d_5.2 != d_6.2 then k false else Option.bind (g_AH x3 x4 x5) fun (d_7 : Bool) => bif !d_7 then bif d.2.2.2.1 == 1 then k (d.1 == 0 && (d.2.1 == 0 && (d.2.2.1 == 0 && true))) else k false else bif d.2.2.2.1 == 0 then Option.bind (g_AD x0 x1 x2 x3 x4 x5 false) fun (d_8 : Int ×
 Int × Int × Bool) => bif d.1 == d_8.1 && (d.2.1 == d_8.2.1 && (d.2.2.1 == d_8.2.2.1 && true)) then k (d.c4 == d_8.2.2.2) else k false else k false else bif d.2.1 != 0 then k false else Option.bind (g_BV x3 x4 false) fun (d_4 : Int × Bool) => bif d.1 != d_4.1 then k false else bif !d.2.2 == d_4.2 then
 k false else Option.bind (g_Ap x0 x1 x2) fun (d : Unit ⊕ Int × Int × Int × Int × Int) => bif match d with | Sum.inl val => true | Sum.inr val => false then Option.bind (match d with | Sum.inl a => some a | Sum.inr val => none) fun (d : Unit) => Option.bind (g_AH x0 x1 x2) fun (d : Bool) => bif !d then
 k true else bif decide (x0 > 850000000) then k true else bif decide (x0 < -850000000) then k true else k false else Option.bind (match d with | Sum.inr b => some b | Sum.inl val => none) fun (d : Int × Int × Int × Int × Int) => Option.bind (g_AH x0 x1 x2) fun (d_5 : Bool) => bif !d_5 then k false else
 bif decide (x0 > 850000000) then k false else bif decide (x0 < -850000000) then k false else Option.bind (g_BE d.1 d.2.1 d.2.2.1 d.2.2.2.1 d.c4) fun (d_6 : Int × Int) => Option.bind (g_AZ x0) fun (d_7 : Int × Int) => Option.bind (g_As x3 x4 x5 d.1 d.2.1 d.2.2.1 d.2.2.2.1 d.c4 false) fun (d : Int × Int ×
 Int × Int × Bool) => bif d_6.1 != d_7.1 then k false else bif d_6.2 != d_7.2 then k false else Option.bind (g_AH x3 x4 x5) fun (d_8 : Bool) => bif !d_8 then bif d.2.2.2.1 == 1 then k (d.1 == 0 && (d.2.1 == 0 && (d.2.2.1 == 0 && true))) else k false else bif d.2.2.2.1 == 0 then Option.bind (g_AD x0 x1 x2 x3 x4 x5 false) fun (d_9 : Int ×
 Int × Int × Bool) => bif d.1 == d_9.1 && (d.2.1 == d_9.2.1 && (d.2.2.1 == d_9.2.2.1 && true)) then k (d.c4 == d_9.2.2.2) else k false else k false
def f_Bd (x0 : Int) (x1 : Int) (x2 : Int) (x3 : Int) (x4 : Int) (x5 : Int) : Option (Bool) := K_Bd f_Bb f_AH f_BP f_Ao f_BV f_Ap f_BE f_AZ f_As f_AD  x0 x1 x2 x3 x4 x5 some
section
open Go.Ab.Rdr
def QA_Bd := ((pair (cons (ar (ra (cons (gc (cf (fi .i64 hole))) (cons (gc (cf (fi .i64 hole))) (cons (gc (cf (fi .i64 hole))) nil))))) (cons (ar (ra (cons (gc (cf (fi .i64 hole))) (cons (gc (cf (fi .i64 hole))) (cons (gc (cf (fi .i64 hole))) nil))))) nil)) nil) : Rdr (List AV × List Blk) _)
end
def F_Bd (f : (Int) → (Int) → (Int) → (Int) → (Int) → (Int) → Option (Bool)) : Sem1 := fun args h => match (QA_Bd).rd (args, h) with
  | some b => .opt (f b.1.1.1 b.1.1.2.1 b.1.1.2.2.1 b.1.2.1.1 b.1.2.1.2.1 b.1.2.1.2.2.1) fun (d : Bool) => .leaf (Res.mk (rB d) [] [])
  | none => .fail
theorem d_Bd (g_Bb : Option Bool) (g_AH : t0ES3) (g_BP : t0ES3) (g_Ao : t1ES3) (g_BV : t2ES3) (g_Ap : ES3g0) (g_BE : t3ES3) (g_AZ : t4ES3) (g_As : ES3g1) (g_AD : ES3g2) (x0 : Int) (x1 : Int) (x2 : Int) (x3 : Int) (x4 : Int) (x5 : Int) : den Try.prog (envOf [(36, F_Bb g_Bb), (40, F_AH g_AH), (41, F_BP g_BP), (38, F_Ao g_Ao), (42, F_BV g_BV), (37, F_Ap g_Ap), (43, F_BE g_BE), (44, F_AZ g_AZ), (39, F_As g_As), (45, F_AD g_AD)]) ⟨[],
 [], [], [], none⟩ 200 10 [.r (.agg [.c (.f (.i .i64 x0)), .c (.f (.i .i64 x1)), .c (.f (.i .i64 x2))]), .r (.agg [.c (.f (.i .i64 x3)), .c (.f (.i .i64 x4)), .c (.f (.i .i64 x5))])] [] = K_Bd g_Bb g_AH g_BP g_Ao g_BV g_Ap g_BE g_AZ g_As g_AD x0 x1 x2 x3 x4 x5 (fun (d : Bool) => some (Res.mk (rB d) [] [])) := by kernel_rfl
theorem m_Bd {ρ σ : Type} (q : ρ → Option σ) (g_Bb : Option Bool) (g_AH : t0ES3) (g_BP : t0ES3) (g_Ao : t1ES3) (g_BV : t2ES3) (g_Ap : ES3g0) (g_BE : t3ES3) (g_AZ : t4ES3) (g_As : ES3g1) (g_AD : ES3g2)   (x0 : Int) (x1 : Int) (x2 : Int) (x3 : Int) (x4 : Int) (x5 : Int) (k : (Bool) → Option ρ) : (K_Bd g_Bb g_AH g_BP g_Ao g_BV g_Ap g_BE g_AZ g_As g_AD  x0 x1 x2 x3 x4 x5 k).bind q = K_Bd g_Bb g_AH g_BP g_Ao g_BV g_Ap g_BE g_AZ g_As g_AD  x0 x1 x2 x3 x4 x5 (fun d => (k d).bind q) := by
  simp only [K_Bd, bnd_cond, bnd_bind, bnd_none, bnd_sum]
theorem qa_Bd : ∀ b, (QA_Bd).em b = ([.r (.agg [.c (.f (.i .i64 b.1.1.1)), .c (.f (.i .i64 b.1.1.2.1)), .c (.f (.i .i64 b.1.1.2.2.1))]), .r (.agg [.c (.f (.i .i64 b.1.2.1.1)), .c (.f (.i .i64 b.1.2.1.2.1)), .c (.f (.i .i64 b.1.2.1.2.2.1))])], []) := fun b => by kernel_rfl
theorem e_Bd {f : (Int) → (Int) → (Int) → (Int) → (Int) → (Int) → Option (Bool)} {args : List AV} {h : List Blk} {r : Res} (hr : (F_Bd f args h).eval = some r) : ∃ x0 x1 x2 x3 x4 x5, args = [.r (.agg [.c (.f (.i .i64 x0)), .c (.f (.i .i64 x1)), .c (.f (.i .i64 x2))]), .r (.agg [.c (.f (.i .i64 x3)), .c (.f (.i .i64 x4)), .c (.f (.i .i64 x5))])] ∧ h = [] ∧ (f x0 x1 x2 x3 x4 x5).bind (fun (d : Bool) => some (Res.mk (rB d) [] [])) = some r := by
  unfold F_Bd at hr
  split at hr
  · rename_i b hb
    have e := ((QA_Bd).ok _ _ hb).trans (qa_Bd b)
    rw [opt_eval2] at hr
    exact ⟨b.1.1.1, b.1.1.2.1, b.1.1.2.2.1, b.1.2.1.1, b.1.2.1.2.1, b.1.2.1.2.2.1, (Prod.mk.inj e).1, (Prod.mk.inj e).2, hr⟩
  · cases hr
theorem n_Bd {σ : Type} (q : (Bool) → Option σ) (x0 : Int) (x1 : Int) (x2 : Int) (x3 : Int) (x4 : Int) (x5 : Int) : (f_Bd x0 x1 x2 x3 x4 x5).bind q = K_Bd f_Bb f_AH f_BP f_Ao f_BV f_Ap f_BE f_AZ f_As f_AD  x0 x1 x2 x3 x4 x5 q := by
  unfold f_Bd
  exact m_Bd q f_Bb f_AH f_BP f_Ao f_BV f_Ap f_BE f_AZ f_As f_AD   x0 x1 x2 x3 x4 x5 some
theorem s_Bd [Amb] : Sound Try.prog 10 (F_Bd f_Bd) := (inl_sound (l := [(36, F_Bb f_Bb), (40, F_AH f_AH), (41, F_BP f_BP), (38, F_Ao f_Ao), (42, F_BV f_BV), (37, F_Ap f_Ap), (43, F_BE f_BE), (44, F_AZ f_AZ), (39, F_As f_As), (45, F_AD f_AD)]) (.cons s_Bb (.cons s_AH (.cons s_BP (.cons s_Ao (.cons s_BV (.cons s_Ap (.cons s_BE (.cons s_AZ (.cons s_As (.cons s_AD (.nil _))))))))))) mixed [] [] 200 (by kernel_rfl)).by (F := F_Bd f_Bd) fun args b r hr => by
  obtain ⟨x0, x1, x2, x3, x4, x5, rfl, rfl, hr1⟩ := e_Bd hr
  exact inl_eval ((d_Bd f_Bb f_AH f_BP f_Ao f_BV f_Ap f_BE f_AZ f_As f_AD  x0 x1 x2 x3 x4 x5).trans ((n_Bd (fun (d : Bool) => some (Res.mk (rB d) [] [])) x0 x1 x2 x3 x4 x5).symm.trans hr1))

end Go.Proofs.Ytcalippagaaikaa
