/-
  Contracts by plain functions: astrolaberef2.root, (*astrolaberef2.Acc).Hypot
-/
import Derived.Test.YthbnojedlbeglaaR1
set_option maxRecDepth 100000
set_option maxHeartbeats 4000000
set_option linter.unusedVariables false
namespace Go.Proofs.Ythbnojedlbeglaa
open Go.Ab
def S_astrolaberef2_root_0 {ρ : Type} (g_astrolaberef2_product : Int → Int → Option (Int × Int)) (g_astrolaberef2_less : Int → Int → Bool → Int → Int → Bool → Option Bool) (g_astrolaberef2_add : Int → Int → Bool → Int → Int → Bool → Option (Int × Int × Bool))  (x0 : Int) (x1 : Int) (x2 : Int) (x3 : Int) (x4 : Bool) (c : (Int × Int × Int × Int × Bool) → Option ρ) (x : (Int × Int × Bool × Int × Int × Bool) → Option ρ) : Option ρ :=
  bif decide (x1 ≥ 0) then
    bif !decide (IntKind.wrap IntKind.u64 x1 < 0) then
      Option.bind
        (g_astrolaberef2_product
          (IntKind.wrap IntKind.u64 (Int.ofNat (BitVec.toNat (BitVec.ofInt 64 x0 ||| BitVec.ofInt 64 (IntKind.wrap IntKind.u64 (1 * 2 ^ min (Int.toNat (IntKind.wrap IntKind.u64 x1)) 64))))))
          (IntKind.wrap IntKind.u64 (Int.ofNat (BitVec.toNat (BitVec.ofInt 64 x0 ||| BitVec.ofInt 64 (IntKind.wrap IntKind.u64 (1 * 2 ^ min (Int.toNat (IntKind.wrap IntKind.u64 x1)) 64)))))))
        fun (d : Int × Int) =>
        Option.bind (g_astrolaberef2_less x2 x3 false d.1 d.2 false) fun (d : Bool) =>
          bif !d then
            c
              (IntKind.wrap IntKind.u64 (Int.ofNat (BitVec.toNat (BitVec.ofInt 64 x0 ||| BitVec.ofInt 64 (IntKind.wrap IntKind.u64 (1 * 2 ^ min (Int.toNat (IntKind.wrap IntKind.u64 x1)) 64))))),
                IntKind.wrap IntKind.i64 (x1 - 1), x2, x3, x4)
          else c (x0, IntKind.wrap IntKind.i64 (x1 - 1), x2, x3, x4)
    else none
  else x (x0, x1, decide (x1 ≥ 0), x2, x3, x4)
section
open Go.Ab.Rdr
def Q_astrolaberef2_root_0 := (st (cons aund (cons (ar (rc (cptr (nat 0) (ok' (nat 0)) (nat 3)))) (cons (ar (rc (cptr (nat 1) (ok' (nat 0)) (nat 3)))) (cons (ar (rc (cf (fi .u64 hole)))) (cons (ar (rc (cf (fi .i64 hole)))) (cons aund (cons aund (cons aund (cons aund (cons aund (cons aund (cons aund (cons aund (cons aund (cons aund (cons aund (cons aund (cons aund (cons aund (cons aund (cons aund (cons aund (cons aund (cons aund (cons aund (cons aund (cons aund (cons aund (cons aund (cons aund (cons aund (cons aund (cons aund (cons aund (cons aund (cons aund (cons aund (cons aund (cons aund (cons aund (cons aund (cons aund (cons aund (cons aund (cons aund (cons aund (cons aund (cons aund (cons aund (cons aund (cons aund (cons aund (cons (atup nil) (cons (atup nil) (cons (atup nil) (cons (atup nil) (cons aund (cons aund (cons aund (cons aund (cons aund (cons aund (cons aund (cons aund nil)))))))))))))))))))))))))))))))))))))))))))))))))))))))))))))))) (cons (some' (cons (gc (cf (fi .u64 hole))) (cons (gc (cf (fi .u64 hole))) (cons (gc (cf (fb hole))) nil)))) (cons (some' (cons (gc (cf (fi .u64 (int 0)))) (cons (gc (cf (fi .u64 (int 0)))) (cons (gc (cf (fb (bool false)))) nil)))) nil)) nil)
end
theorem q_astrolaberef2_root_0 : ∀ b, (Q_astrolaberef2_root_0).em b = St.mk
    [AV.und, AV.r (RV.c (CV.ptr 0 (Off.k 0) 3)), AV.r (RV.c (CV.ptr 1 (Off.k 0) 3)), AV.r (RV.c (CV.f (FV.i IntKind.u64 b.1.2.2.2.1))), AV.r (RV.c (CV.f (FV.i IntKind.i64 b.1.2.2.2.2.1))), AV.und, AV.und, AV.und, AV.und,
      AV.und, AV.und, AV.und, AV.und, AV.und, AV.und, AV.und, AV.und, AV.und, AV.und, AV.und, AV.und, AV.und, AV.und, AV.und, AV.und, AV.und, AV.und, AV.und, AV.und, AV.und, AV.und, AV.und, AV.und,
      AV.und, AV.und, AV.und, AV.und, AV.und, AV.und, AV.und, AV.und, AV.und, AV.und, AV.und, AV.und, AV.und, AV.und, AV.und, AV.und, AV.und, AV.und, AV.und, AV.tup [], AV.tup [], AV.tup [], AV.tup [],
      AV.und, AV.und, AV.und, AV.und, AV.und, AV.und, AV.und, AV.und]
    [some [Sg.c (CV.f (FV.i IntKind.u64 b.2.1.1.1)), Sg.c (CV.f (FV.i IntKind.u64 b.2.1.1.2.1)), Sg.c (CV.f (FV.b b.2.1.1.2.2.1))],
      some [Sg.c (CV.f (FV.i IntKind.u64 0)), Sg.c (CV.f (FV.i IntKind.u64 0)), Sg.c (CV.f (FV.b false))]]
    [] := fun b => by kernel_rfl
def R_astrolaberef2_root_0 (l : ∀ {ρ : Type}, (Int × Int × Int × Int × Bool) → ((Int × Int × Bool × Int × Int × Bool) → Option ρ) → Option ρ) {ρ : Type} (s : St) (K : AX → St → Option ρ) : Option ρ := ((Q_astrolaberef2_root_0).rd s).bind fun b => l (b.1.2.2.2.1, b.1.2.2.2.2.1, b.2.1.1.1, b.2.1.1.2.1, b.2.1.1.2.2.1) (fun d => K (AX.ex 0) (St.mk
  [AV.und, AV.r (RV.c (CV.ptr 0 (Off.k 0) 3)), AV.r (RV.c (CV.ptr 1 (Off.k 0) 3)), AV.r (RV.c (CV.f (FV.i IntKind.u64 d.1))), AV.r (RV.c (CV.f (FV.i IntKind.i64 d.2.1))), AV.und, AV.und, AV.und,
    AV.und, AV.und, AV.und, AV.r (RV.c (CV.f (FV.i IntKind.i64 d.2.1))), AV.r (RV.c (CV.f (FV.b d.2.2.1))), AV.und, AV.und, AV.und, AV.und, AV.und, AV.und, AV.und, AV.und, AV.und, AV.und,
    AV.und, AV.und, AV.und, AV.und, AV.und, AV.und, AV.und, AV.und, AV.und, AV.und, AV.und, AV.und, AV.und, AV.und, AV.und, AV.und, AV.und, AV.und, AV.und, AV.und, AV.und, AV.und, AV.und, AV.und,
    AV.und, AV.und, AV.und, AV.und, AV.und, AV.tup [], AV.tup [], AV.tup [], AV.tup [], AV.und, AV.und, AV.und, AV.und, AV.und, AV.und, AV.und, AV.und]
  [some [Sg.c (CV.f (FV.i IntKind.u64 d.2.2.2.1)), Sg.c (CV.f (FV.i IntKind.u64 d.2.2.2.2.1)), Sg.c (CV.f (FV.b d.2.2.2.2.2))],
    some [Sg.c (CV.f (FV.i IntKind.u64 0)), Sg.c (CV.f (FV.i IntKind.u64 0)), Sg.c (CV.f (FV.b false))]]
  []))
theorem ms_astrolaberef2_root_0 {ρ σ : Type} (g_astrolaberef2_product : Int → Int → Option (Int × Int)) (g_astrolaberef2_less : Int → Int → Bool → Int → Int → Bool → Option Bool) (g_astrolaberef2_add : Int → Int → Bool → Int → Int → Bool → Option (Int × Int × Bool))   (q : ρ → Option σ) (x0 : Int) (x1 : Int) (x2 : Int) (x3 : Int) (x4 : Bool) (c : (Int × Int × Int × Int × Bool) → Option ρ) (x : (Int × Int × Bool × Int × Int × Bool) → Option ρ) : (S_astrolaberef2_root_0 g_astrolaberef2_product g_astrolaberef2_less g_astrolaberef2_add  x0 x1 x2 x3 x4 c x).bind q = S_astrolaberef2_root_0 g_astrolaberef2_product g_astrolaberef2_less g_astrolaberef2_add  x0 x1 x2 x3 x4 (fun d => (c d).bind q) (fun d => (x d).bind q) := by
  simp only [S_astrolaberef2_root_0, bnd_cond, bnd_bind, bnd_none, bnd_sum]
def L_astrolaberef2_root_0 {ρ : Type} (d : Int × Int × Int × Int × Bool) (k : (Int × Int × Bool × Int × Int × Bool) → Option ρ) : Option ρ := loopK (fun d c x => S_astrolaberef2_root_0 f_astrolaberef2_product f_astrolaberef2_less f_astrolaberef2_add  d.1 d.2.1 d.2.2.1 d.2.2.2.1 d.2.2.2.2 c x) 200 d k
theorem mL_astrolaberef2_root_0 {ρ σ : Type} (q : ρ → Option σ) (d : Int × Int × Int × Int × Bool) (k : (Int × Int × Bool × Int × Int × Bool) → Option ρ) : (L_astrolaberef2_root_0 d k).bind q = L_astrolaberef2_root_0 d fun x => (k x).bind q :=
  loopK_bind q (fun d c x => ms_astrolaberef2_root_0 f_astrolaberef2_product f_astrolaberef2_less f_astrolaberef2_add   q d.1 d.2.1 d.2.2.1 d.2.2.2.1 d.2.2.2.2 c x) k _ d
theorem ds_astrolaberef2_root_0 {ρ : Type} (g_astrolaberef2_product : Int → Int → Option (Int × Int)) (g_astrolaberef2_less : Int → Int → Bool → Int → Int → Bool → Option Bool) (g_astrolaberef2_add : Int → Int → Bool → Int → Int → Bool → Option (Int × Int × Bool)) (l_0 : ∀ {ρ : Type}, (Int × Int × Int × Int × Bool) → ((Int × Int × Bool × Int × Int × Bool) → Option ρ) → Option ρ) (x0 : Int) (x1 : Int) (x2 : Int) (x3 : Int) (x4 : Bool) (c : St → Option ρ) (K : AX → St → Option ρ) :
    runC Try.prog (envOf [(79, F_astrolaberef2_product g_astrolaberef2_product), (78, F_astrolaberef2_less g_astrolaberef2_less), (58, F_astrolaberef2_add g_astrolaberef2_add)]) ⟨[⟨3, [0, 5, 6, 7, 8, 9, 10, 11, 12, 13, 14, 15, 16, 17, 18, 19, 20, 21, 22, 23, 24, 25, 26, 27, 28, 29, 30, 31, 32, 33, 34, 35, 36, 37, 38, 39, 40, 41, 42, 43, 44, 45, 46, 47, 48, 49, 50, 51, 56, 57, 58, 59, 60, 61, 62, 63], []⟩], [⟨3, 0, @R_astrolaberef2_root_0 (@l_0)⟩], [], [], (some ⟨0, [0, 1, 3, 4, 5, 6, 7, 8, 9, 10, 11, 12, 13, 14, 15, 16, 17, 18, 19, 20, 21, 22, 23, 24, 25, 26, 27, 28, 29, 30, 31, 32, 33, 34, 35, 36, 37, 38, 39, 40, 41, 42, 43, 44, 45, 46, 47, 48, 49, 50, 51, 52, 53, 54, 55, 56, 57, 58, 59, 60, 61, 62, 63], []⟩)⟩ (tmpsOf Try.prog 83) 0 200 (loopIn Try.prog 83 3)
      (St.mk
    [AV.und, AV.r (RV.c (CV.ptr 0 (Off.k 0) 3)), AV.r (RV.c (CV.ptr 1 (Off.k 0) 3)), AV.r (RV.c (CV.f (FV.i IntKind.u64 x0))), AV.r (RV.c (CV.f (FV.i IntKind.i64 x1))), AV.und, AV.und, AV.und, AV.und,
      AV.und, AV.und, AV.und, AV.und, AV.und, AV.und, AV.und, AV.und, AV.und, AV.und, AV.und, AV.und, AV.und, AV.und, AV.und, AV.und, AV.und, AV.und, AV.und, AV.und, AV.und, AV.und, AV.und, AV.und,
      AV.und, AV.und, AV.und, AV.und, AV.und, AV.und, AV.und, AV.und, AV.und, AV.und, AV.und, AV.und, AV.und, AV.und, AV.und, AV.und, AV.und, AV.und, AV.und, AV.tup [], AV.tup [], AV.tup [], AV.tup [],
      AV.und, AV.und, AV.und, AV.und, AV.und, AV.und, AV.und, AV.und]
    [some [Sg.c (CV.f (FV.i IntKind.u64 x2)), Sg.c (CV.f (FV.i IntKind.u64 x3)), Sg.c (CV.f (FV.b x4))],
      some [Sg.c (CV.f (FV.i IntKind.u64 0)), Sg.c (CV.f (FV.i IntKind.u64 0)), Sg.c (CV.f (FV.b false))]]
    [])
      (next (fun t => t.head 0 ⟨[⟨3, [0, 5, 6, 7, 8, 9, 10, 11, 12, 13, 14, 15, 16, 17, 18, 19, 20, 21, 22, 23, 24, 25, 26, 27, 28, 29, 30, 31, 32, 33, 34, 35, 36, 37, 38, 39, 40, 41, 42, 43, 44, 45, 46, 47, 48, 49, 50, 51, 56, 57, 58, 59, 60, 61, 62, 63], []⟩], [⟨3, 0, @R_astrolaberef2_root_0 (@l_0)⟩], [], [], (some ⟨0, [0, 1, 3, 4, 5, 6, 7, 8, 9, 10, 11, 12, 13, 14, 15, 16, 17, 18, 19, 20, 21, 22, 23, 24, 25, 26, 27, 28, 29, 30, 31, 32, 33, 34, 35, 36, 37, 38, 39, 40, 41, 42, 43, 44, 45, 46, 47, 48, 49, 50, 51, 52, 53, 54, 55, 56, 57, 58, 59, 60, 61, 62, 63], []⟩)⟩ (loopIn Try.prog 83 3)) c K) =
    S_astrolaberef2_root_0 g_astrolaberef2_product g_astrolaberef2_less g_astrolaberef2_add  x0 x1 x2 x3 x4 (fun d => c (St.mk
  [AV.und, AV.r (RV.c (CV.ptr 0 (Off.k 0) 3)), AV.r (RV.c (CV.ptr 1 (Off.k 0) 3)), AV.r (RV.c (CV.f (FV.i IntKind.u64 d.1))), AV.r (RV.c (CV.f (FV.i IntKind.i64 d.2.1))), AV.und, AV.und, AV.und,
    AV.und, AV.und, AV.und, AV.und, AV.und, AV.und, AV.und, AV.und, AV.und, AV.und, AV.und, AV.und, AV.und, AV.und, AV.und, AV.und, AV.und, AV.und, AV.und, AV.und, AV.und, AV.und, AV.und, AV.und,
    AV.und, AV.und, AV.und, AV.und, AV.und, AV.und, AV.und, AV.und, AV.und, AV.und, AV.und, AV.und, AV.und, AV.und, AV.und, AV.und, AV.und, AV.und, AV.und, AV.und, AV.tup [], AV.tup [], AV.tup [],
    AV.tup [], AV.und, AV.und, AV.und, AV.und, AV.und, AV.und, AV.und, AV.und]
  [some [Sg.c (CV.f (FV.i IntKind.u64 d.2.2.1)), Sg.c (CV.f (FV.i IntKind.u64 d.2.2.2.1)), Sg.c (CV.f (FV.b d.2.2.2.2))],
    some [Sg.c (CV.f (FV.i IntKind.u64 0)), Sg.c (CV.f (FV.i IntKind.u64 0)), Sg.c (CV.f (FV.b false))]]
  [])) (fun d => K (AX.ex 0) (St.mk
  [AV.und, AV.r (RV.c (CV.ptr 0 (Off.k 0) 3)), AV.r (RV.c (CV.ptr 1 (Off.k 0) 3)), AV.r (RV.c (CV.f (FV.i IntKind.u64 d.1))), AV.r (RV.c (CV.f (FV.i IntKind.i64 d.2.1))), AV.und, AV.und, AV.und,
    AV.und, AV.und, AV.und, AV.r (RV.c (CV.f (FV.i IntKind.i64 d.2.1))), AV.r (RV.c (CV.f (FV.b d.2.2.1))), AV.und, AV.und, AV.und, AV.und, AV.und, AV.und, AV.und, AV.und, AV.und, AV.und,
    AV.und, AV.und, AV.und, AV.und, AV.und, AV.und, AV.und, AV.und, AV.und, AV.und, AV.und, AV.und, AV.und, AV.und, AV.und, AV.und, AV.und, AV.und, AV.und, AV.und, AV.und, AV.und, AV.und, AV.und,
    AV.und, AV.und, AV.und, AV.und, AV.und, AV.tup [], AV.tup [], AV.tup [], AV.tup [], AV.und, AV.und, AV.und, AV.und, AV.und, AV.und, AV.und, AV.und]
  [some [Sg.c (CV.f (FV.i IntKind.u64 d.2.2.2.1)), Sg.c (CV.f (FV.i IntKind.u64 d.2.2.2.2.1)), Sg.c (CV.f (FV.b d.2.2.2.2.2))],
    some [Sg.c (CV.f (FV.i IntKind.u64 0)), Sg.c (CV.f (FV.i IntKind.u64 0)), Sg.c (CV.f (FV.b false))]]
  [])) := by kernel_rfl
theorem it_astrolaberef2_root_0 {ρ : Type} (x0 : Int) (x1 : Int) (x2 : Int) (x3 : Int) (x4 : Bool) (K : AX → St → Option ρ) :
    iter (fun t => t.head 0 ⟨[⟨3, [0, 5, 6, 7, 8, 9, 10, 11, 12, 13, 14, 15, 16, 17, 18, 19, 20, 21, 22, 23, 24, 25, 26, 27, 28, 29, 30, 31, 32, 33, 34, 35, 36, 37, 38, 39, 40, 41, 42, 43, 44, 45, 46, 47, 48, 49, 50, 51, 56, 57, 58, 59, 60, 61, 62, 63], []⟩], [⟨3, 0, @R_astrolaberef2_root_0 (@L_astrolaberef2_root_0)⟩], [], [], (some ⟨0, [0, 1, 3, 4, 5, 6, 7, 8, 9, 10, 11, 12, 13, 14, 15, 16, 17, 18, 19, 20, 21, 22, 23, 24, 25, 26, 27, 28, 29, 30, 31, 32, 33, 34, 35, 36, 37, 38, 39, 40, 41, 42, 43, 44, 45, 46, 47, 48, 49, 50, 51, 52, 53, 54, 55, 56, 57, 58, 59, 60, 61, 62, 63], []⟩)⟩ (loopIn Try.prog 83 3)) (runC Try.prog (envOf [(79, F_astrolaberef2_product f_astrolaberef2_product), (78, F_astrolaberef2_less f_astrolaberef2_less), (58, F_astrolaberef2_add f_astrolaberef2_add)]) ⟨[⟨3, [0, 5, 6, 7, 8, 9, 10, 11, 12, 13, 14, 15, 16, 17, 18, 19, 20, 21, 22, 23, 24, 25, 26, 27, 28, 29, 30, 31, 32, 33, 34, 35, 36, 37, 38, 39, 40, 41, 42, 43, 44, 45, 46, 47, 48, 49, 50, 51, 56, 57, 58, 59, 60, 61, 62, 63], []⟩], [⟨3, 0, @R_astrolaberef2_root_0 (@L_astrolaberef2_root_0)⟩], [], [], (some ⟨0, [0, 1, 3, 4, 5, 6, 7, 8, 9, 10, 11, 12, 13, 14, 15, 16, 17, 18, 19, 20, 21, 22, 23, 24, 25, 26, 27, 28, 29, 30, 31, 32, 33, 34, 35, 36, 37, 38, 39, 40, 41, 42, 43, 44, 45, 46, 47, 48, 49, 50, 51, 52, 53, 54, 55, 56, 57, 58, 59, 60, 61, 62, 63], []⟩)⟩ (tmpsOf Try.prog 83) 0 200 (loopIn Try.prog 83 3)) K 200
      (St.mk
    [AV.und, AV.r (RV.c (CV.ptr 0 (Off.k 0) 3)), AV.r (RV.c (CV.ptr 1 (Off.k 0) 3)), AV.r (RV.c (CV.f (FV.i IntKind.u64 x0))), AV.r (RV.c (CV.f (FV.i IntKind.i64 x1))), AV.und, AV.und, AV.und, AV.und,
      AV.und, AV.und, AV.und, AV.und, AV.und, AV.und, AV.und, AV.und, AV.und, AV.und, AV.und, AV.und, AV.und, AV.und, AV.und, AV.und, AV.und, AV.und, AV.und, AV.und, AV.und, AV.und, AV.und, AV.und,
      AV.und, AV.und, AV.und, AV.und, AV.und, AV.und, AV.und, AV.und, AV.und, AV.und, AV.und, AV.und, AV.und, AV.und, AV.und, AV.und, AV.und, AV.und, AV.und, AV.tup [], AV.tup [], AV.tup [], AV.tup [],
      AV.und, AV.und, AV.und, AV.und, AV.und, AV.und, AV.und, AV.und]
    [some [Sg.c (CV.f (FV.i IntKind.u64 x2)), Sg.c (CV.f (FV.i IntKind.u64 x3)), Sg.c (CV.f (FV.b x4))],
      some [Sg.c (CV.f (FV.i IntKind.u64 0)), Sg.c (CV.f (FV.i IntKind.u64 0)), Sg.c (CV.f (FV.b false))]]
    []) = L_astrolaberef2_root_0 (x0, x1, x2, x3, x4) (fun d => K (AX.ex 0) (St.mk
  [AV.und, AV.r (RV.c (CV.ptr 0 (Off.k 0) 3)), AV.r (RV.c (CV.ptr 1 (Off.k 0) 3)), AV.r (RV.c (CV.f (FV.i IntKind.u64 d.1))), AV.r (RV.c (CV.f (FV.i IntKind.i64 d.2.1))), AV.und, AV.und, AV.und,
    AV.und, AV.und, AV.und, AV.r (RV.c (CV.f (FV.i IntKind.i64 d.2.1))), AV.r (RV.c (CV.f (FV.b d.2.2.1))), AV.und, AV.und, AV.und, AV.und, AV.und, AV.und, AV.und, AV.und, AV.und, AV.und,
    AV.und, AV.und, AV.und, AV.und, AV.und, AV.und, AV.und, AV.und, AV.und, AV.und, AV.und, AV.und, AV.und, AV.und, AV.und, AV.und, AV.und, AV.und, AV.und, AV.und, AV.und, AV.und, AV.und, AV.und,
    AV.und, AV.und, AV.und, AV.und, AV.und, AV.tup [], AV.tup [], AV.tup [], AV.tup [], AV.und, AV.und, AV.und, AV.und, AV.und, AV.und, AV.und, AV.und]
  [some [Sg.c (CV.f (FV.i IntKind.u64 d.2.2.2.1)), Sg.c (CV.f (FV.i IntKind.u64 d.2.2.2.2.1)), Sg.c (CV.f (FV.b d.2.2.2.2.2))],
    some [Sg.c (CV.f (FV.i IntKind.u64 0)), Sg.c (CV.f (FV.i IntKind.u64 0)), Sg.c (CV.f (FV.b false))]]
  [])) :=
  iter_loopX (emb := fun (d : Int × Int × Int × Int × Bool) => St.mk
  [AV.und, AV.r (RV.c (CV.ptr 0 (Off.k 0) 3)), AV.r (RV.c (CV.ptr 1 (Off.k 0) 3)), AV.r (RV.c (CV.f (FV.i IntKind.u64 d.1))), AV.r (RV.c (CV.f (FV.i IntKind.i64 d.2.1))), AV.und, AV.und, AV.und,
    AV.und, AV.und, AV.und, AV.und, AV.und, AV.und, AV.und, AV.und, AV.und, AV.und, AV.und, AV.und, AV.und, AV.und, AV.und, AV.und, AV.und, AV.und, AV.und, AV.und, AV.und, AV.und, AV.und, AV.und,
    AV.und, AV.und, AV.und, AV.und, AV.und, AV.und, AV.und, AV.und, AV.und, AV.und, AV.und, AV.und, AV.und, AV.und, AV.und, AV.und, AV.und, AV.und, AV.und, AV.und, AV.tup [], AV.tup [], AV.tup [],
    AV.tup [], AV.und, AV.und, AV.und, AV.und, AV.und, AV.und, AV.und, AV.und]
  [some [Sg.c (CV.f (FV.i IntKind.u64 d.2.2.1)), Sg.c (CV.f (FV.i IntKind.u64 d.2.2.2.1)), Sg.c (CV.f (FV.b d.2.2.2.2))],
    some [Sg.c (CV.f (FV.i IntKind.u64 0)), Sg.c (CV.f (FV.i IntKind.u64 0)), Sg.c (CV.f (FV.b false))]]
  []) (step := fun d c x => S_astrolaberef2_root_0 f_astrolaberef2_product f_astrolaberef2_less f_astrolaberef2_add  d.1 d.2.1 d.2.2.1 d.2.2.2.1 d.2.2.2.2 c x) (kx := (fun d => K (AX.ex 0) (St.mk
  [AV.und, AV.r (RV.c (CV.ptr 0 (Off.k 0) 3)), AV.r (RV.c (CV.ptr 1 (Off.k 0) 3)), AV.r (RV.c (CV.f (FV.i IntKind.u64 d.1))), AV.r (RV.c (CV.f (FV.i IntKind.i64 d.2.1))), AV.und, AV.und, AV.und,
    AV.und, AV.und, AV.und, AV.r (RV.c (CV.f (FV.i IntKind.i64 d.2.1))), AV.r (RV.c (CV.f (FV.b d.2.2.1))), AV.und, AV.und, AV.und, AV.und, AV.und, AV.und, AV.und, AV.und, AV.und, AV.und,
    AV.und, AV.und, AV.und, AV.und, AV.und, AV.und, AV.und, AV.und, AV.und, AV.und, AV.und, AV.und, AV.und, AV.und, AV.und, AV.und, AV.und, AV.und, AV.und, AV.und, AV.und, AV.und, AV.und, AV.und,
    AV.und, AV.und, AV.und, AV.und, AV.und, AV.tup [], AV.tup [], AV.tup [], AV.tup [], AV.und, AV.und, AV.und, AV.und, AV.und, AV.und, AV.und, AV.und]
  [some [Sg.c (CV.f (FV.i IntKind.u64 d.2.2.2.1)), Sg.c (CV.f (FV.i IntKind.u64 d.2.2.2.2.1)), Sg.c (CV.f (FV.b d.2.2.2.2.2))],
    some [Sg.c (CV.f (FV.i IntKind.u64 0)), Sg.c (CV.f (FV.i IntKind.u64 0)), Sg.c (CV.f (FV.b false))]]
  [])))
    (fun d c => ds_astrolaberef2_root_0 f_astrolaberef2_product f_astrolaberef2_less f_astrolaberef2_add (@L_astrolaberef2_root_0) d.1 d.2.1 d.2.2.1 d.2.2.2.1 d.2.2.2.2 c K) 200 (x0, x1, x2, x3, x4)
theorem so_astrolaberef2_root_0 : ∀ kk, SumOK Try.prog (envOf [(79, F_astrolaberef2_product f_astrolaberef2_product), (78, F_astrolaberef2_less f_astrolaberef2_less), (58, F_astrolaberef2_add f_astrolaberef2_add)]) ⟨[⟨3, [0, 5, 6, 7, 8, 9, 10, 11, 12, 13, 14, 15, 16, 17, 18, 19, 20, 21, 22, 23, 24, 25, 26, 27, 28, 29, 30, 31, 32, 33, 34, 35, 36, 37, 38, 39, 40, 41, 42, 43, 44, 45, 46, 47, 48, 49, 50, 51, 56, 57, 58, 59, 60, 61, 62, 63], []⟩], [⟨3, 0, @R_astrolaberef2_root_0 (@L_astrolaberef2_root_0)⟩], [], [], (some ⟨0, [0, 1, 3, 4, 5, 6, 7, 8, 9, 10, 11, 12, 13, 14, 15, 16, 17, 18, 19, 20, 21, 22, 23, 24, 25, 26, 27, 28, 29, 30, 31, 32, 33, 34, 35, 36, 37, 38, 39, 40, 41, 42, 43, 44, 45, 46, 47, 48, 49, 50, 51, 52, 53, 54, 55, 56, 57, 58, 59, 60, 61, 62, 63], []⟩)⟩ (tmpsOf Try.prog 83) kk 200 (loopIn Try.prog 83 3) :=
  SumOK.of (id := 3) (k0 := 0) (run := @R_astrolaberef2_root_0 (@L_astrolaberef2_root_0)) (by kernel_rfl) fun s K r hr => by
    unfold R_astrolaberef2_root_0 at hr
    obtain ⟨b, hb, hr1⟩ := Option.bind_eq_some_iff.1 hr
    have e := ((Q_astrolaberef2_root_0).ok s b hb).trans (q_astrolaberef2_root_0 b)
    subst e
    exact ⟨200, (it_astrolaberef2_root_0 b.1.2.2.2.1 b.1.2.2.2.2.1 b.2.1.1.1 b.2.1.1.2.1 b.2.1.1.2.2.1 K).trans hr1⟩
def K_astrolaberef2_root {ρ : Type} (g_astrolaberef2_product : Int → Int → Option (Int × Int)) (g_astrolaberef2_less : Int → Int → Bool → Int → Int → Bool → Option Bool) (g_astrolaberef2_add : Int → Int → Bool → Int → Int → Bool → Option (Int × Int × Bool)) (l_0 : ∀ {ρ : Type}, (Int × Int × Int × Int × Bool) → ((Int × Int × Bool × Int × Int × Bool) → Option ρ) → Option ρ) (x0 : Int) (x1 : Int) (x2 : Bool) (k : (Int × Int) → Option ρ) : Option ρ :=
  l_0 (0, 63, x0, x1, x2) fun (d : Int × Int × Bool × Int × Int × Bool) =>
    Option.bind (g_astrolaberef2_product d.1 d.1) fun (d_1 : Int × Int) =>
      Option.bind (g_astrolaberef2_add d.2.2.2.1 d.2.2.2.2.1 d.2.2.2.2.2 d_1.1 d_1.2 true) fun (d_2 : Int × Int × Bool) =>
        bif decide (d_2.1 > 0) then bif IntKind.wrap IntKind.u64 (d.1 + 1) == 0 then k (1, 0) else k (0, IntKind.wrap IntKind.u64 (d.1 + 1))
        else bif decide (d_2.2.1 > d.1) then bif IntKind.wrap IntKind.u64 (d.1 + 1) == 0 then k (1, 0) else k (0, IntKind.wrap IntKind.u64 (d.1 + 1)) else k (0, d.1)
def f_astrolaberef2_root (x0 : Int) (x1 : Int) (x2 : Bool) : Option (Int × Int) := K_astrolaberef2_root f_astrolaberef2_product f_astrolaberef2_less f_astrolaberef2_add (@L_astrolaberef2_root_0) x0 x1 x2 some
section
open Go.Ab.Rdr
def QA_astrolaberef2_root := ((pair (cons (ar (ra (cons (gc (cf (fi .u64 hole))) (cons (gc (cf (fi .u64 hole))) (cons (gc (cf (fb hole))) nil))))) nil) nil) : Rdr (List AV × List Blk) _)
end
def F_astrolaberef2_root (f : (Int) → (Int) → (Bool) → Option (Int × Int)) : Sem1 := fun args h => match (QA_astrolaberef2_root).rd (args, h) with
  | some b => .opt (f b.1.1.1 b.1.1.2.1 b.1.1.2.2.1) fun (d : Int × Int) => .leaf (Res.mk (AV.r (RV.agg [Sg.c (CV.f (FV.i IntKind.u64 d.1)), Sg.c (CV.f (FV.i IntKind.u64 d.2)), Sg.c (CV.f (FV.b false))])) [] [])
  | none => .fail
theorem d_astrolaberef2_root (g_astrolaberef2_product : Int → Int → Option (Int × Int)) (g_astrolaberef2_less : Int → Int → Bool → Int → Int → Bool → Option Bool) (g_astrolaberef2_add : Int → Int → Bool → Int → Int → Bool → Option (Int × Int × Bool)) (l_0 : ∀ {ρ : Type}, (Int × Int × Int × Int × Bool) → ((Int × Int × Bool × Int × Int × Bool) → Option ρ) → Option ρ) (x0 : Int) (x1 : Int) (x2 : Bool) : den Try.prog (envOf [(79, F_astrolaberef2_product g_astrolaberef2_product), (78, F_astrolaberef2_less g_astrolaberef2_less), (58, F_astrolaberef2_add g_astrolaberef2_add)]) ⟨[⟨3, [0, 5, 6, 7, 8, 9, 10, 11, 12, 13, 14, 15, 16, 17, 18, 19, 20, 21, 22, 23, 24, 25, 26, 27, 28, 29, 30, 31, 32, 33, 34, 35, 36, 37, 38, 39, 40, 41, 42, 43, 44, 45, 46, 47, 48, 49, 50, 51, 56, 57, 58, 59, 60, 61, 62, 63], []⟩], [⟨3, 0, @R_astrolaberef2_root_0 (@l_0)⟩], [], [], (some ⟨0, [0, 1, 3, 4, 5, 6, 7, 8, 9, 10, 11, 12, 13, 14, 15, 16, 17, 18, 19, 20, 21, 22, 23, 24, 25, 26, 27, 28, 29, 30, 31, 32, 33, 34, 35, 36, 37, 38, 39, 40, 41, 42, 43, 44, 45, 46, 47, 48, 49, 50, 51, 52, 53, 54, 55, 56, 57, 58, 59, 60, 61, 62, 63], []⟩)⟩ 200 83 [.r (.agg [.c (.f (.i .u64 x0)), .c (.f (.i .u64 x1)), .c (.f (.b x2))])] [] =
    K_astrolaberef2_root g_astrolaberef2_product g_astrolaberef2_less g_astrolaberef2_add (@l_0) x0 x1 x2 (fun (d : Int × Int) => some (Res.mk (AV.r (RV.agg [Sg.c (CV.f (FV.i IntKind.u64 d.1)), Sg.c (CV.f (FV.i IntKind.u64 d.2)), Sg.c (CV.f (FV.b false))])) [] [])) := by kernel_rfl
theorem m_astrolaberef2_root {ρ σ : Type} (q : ρ → Option σ) (g_astrolaberef2_product : Int → Int → Option (Int × Int)) (g_astrolaberef2_less : Int → Int → Bool → Int → Int → Bool → Option Bool) (g_astrolaberef2_add : Int → Int → Bool → Int → Int → Bool → Option (Int × Int × Bool)) (l_0 : ∀ {ρ : Type}, (Int × Int × Int × Int × Bool) → ((Int × Int × Bool × Int × Int × Bool) → Option ρ) → Option ρ) (hl_0 : ∀ {ρ σ : Type} (q : ρ → Option σ) (d : Int × Int × Int × Int × Bool) (k : (Int × Int × Bool × Int × Int × Bool) → Option ρ), (l_0 d k).bind q = l_0 d fun x => (k x).bind q) (x0 : Int) (x1 : Int) (x2 : Bool) (k : (Int × Int) → Option ρ) : (K_astrolaberef2_root g_astrolaberef2_product g_astrolaberef2_less g_astrolaberef2_add (@l_0) x0 x1 x2 k).bind q = K_astrolaberef2_root g_astrolaberef2_product g_astrolaberef2_less g_astrolaberef2_add (@l_0) x0 x1 x2 (fun d => (k d).bind q) := by
  simp only [K_astrolaberef2_root, bnd_cond, bnd_bind, bnd_none, bnd_sum, hl_0]
theorem qa_astrolaberef2_root : ∀ b, (QA_astrolaberef2_root).em b = ([.r (.agg [.c (.f (.i .u64 b.1.1.1)), .c (.f (.i .u64 b.1.1.2.1)), .c (.f (.b b.1.1.2.2.1))])], []) := fun b => by kernel_rfl
theorem e_astrolaberef2_root {f : (Int) → (Int) → (Bool) → Option (Int × Int)} {args : List AV} {h : List Blk} {r : Res} (hr : (F_astrolaberef2_root f args h).eval = some r) : ∃ x0 x1 x2, args = [.r (.agg [.c (.f (.i .u64 x0)), .c (.f (.i .u64 x1)), .c (.f (.b x2))])] ∧ h = [] ∧ (f x0 x1 x2).bind (fun (d : Int × Int) => some (Res.mk (AV.r (RV.agg [Sg.c (CV.f (FV.i IntKind.u64 d.1)), Sg.c (CV.f (FV.i IntKind.u64 d.2)), Sg.c (CV.f (FV.b false))])) [] [])) = some r := by
  unfold F_astrolaberef2_root at hr
  split at hr
  · rename_i b hb
    have e := ((QA_astrolaberef2_root).ok _ _ hb).trans (qa_astrolaberef2_root b)
    rw [opt_eval2] at hr
    exact ⟨b.1.1.1, b.1.1.2.1, b.1.1.2.2.1, (Prod.mk.inj e).1, (Prod.mk.inj e).2, hr⟩
  · cases hr
theorem n_astrolaberef2_root {σ : Type} (q : (Int × Int) → Option σ) (x0 : Int) (x1 : Int) (x2 : Bool) : (f_astrolaberef2_root x0 x1 x2).bind q = K_astrolaberef2_root f_astrolaberef2_product f_astrolaberef2_less f_astrolaberef2_add (@L_astrolaberef2_root_0) x0 x1 x2 q := by
  unfold f_astrolaberef2_root
  exact m_astrolaberef2_root q f_astrolaberef2_product f_astrolaberef2_less f_astrolaberef2_add (@L_astrolaberef2_root_0) (fun q d k => mL_astrolaberef2_root_0 q d k) x0 x1 x2 some
theorem s_astrolaberef2_root : Sound Try.prog 83 (F_astrolaberef2_root f_astrolaberef2_root) :=
  (inl_sums (l := [(79, F_astrolaberef2_product f_astrolaberef2_product), (78, F_astrolaberef2_less f_astrolaberef2_less), (58, F_astrolaberef2_add f_astrolaberef2_add)]) (.cons s_astrolaberef2_product (.cons s_astrolaberef2_less (.cons s_astrolaberef2_add (.nil _)))) mixed (hs := ⟨[⟨3, [0, 5, 6, 7, 8, 9, 10, 11, 12, 13, 14, 15, 16, 17, 18, 19, 20, 21, 22, 23, 24, 25, 26, 27, 28, 29, 30, 31, 32, 33, 34, 35, 36, 37, 38, 39, 40, 41, 42, 43, 44, 45, 46, 47, 48, 49, 50, 51, 56, 57, 58, 59, 60, 61, 62, 63], []⟩], [⟨3, 0, @R_astrolaberef2_root_0 (@L_astrolaberef2_root_0)⟩], [], [], (some ⟨0, [0, 1, 3, 4, 5, 6, 7, 8, 9, 10, 11, 12, 13, 14, 15, 16, 17, 18, 19, 20, 21, 22, 23, 24, 25, 26, 27, 28, 29, 30, 31, 32, 33, 34, 35, 36, 37, 38, 39, 40, 41, 42, 43, 44, 45, 46, 47, 48, 49, 50, 51, 52, 53, 54, 55, 56, 57, 58, 59, 60, 61, 62, 63], []⟩)⟩) (lf := 200) (Sums.by (l := [loopIn Try.prog 83 3]) (lj := []) (by kernel_rfl) ⟨so_astrolaberef2_root_0, trivial⟩ (by kernel_rfl) trivial) (by kernel_rfl)).by (F := F_astrolaberef2_root f_astrolaberef2_root) fun args b r hr => by
  obtain ⟨x0, x1, x2, rfl, rfl, hr1⟩ := e_astrolaberef2_root hr
  exact inl_eval ((d_astrolaberef2_root f_astrolaberef2_product f_astrolaberef2_less f_astrolaberef2_add (@L_astrolaberef2_root_0) x0 x1 x2).trans ((n_astrolaberef2_root (fun (d : Int × Int) => some (Res.mk (AV.r (RV.agg [Sg.c (CV.f (FV.i IntKind.u64 d.1)), Sg.c (CV.f (FV.i IntKind.u64 d.2)), Sg.c (CV.f (FV.b false))])) [] [])) x0 x1 x2).symm.trans hr1))

def S___astrolaberef2_Acc__Hypot_0 {ρ : Type} (g___astrolaberef2_Acc__Sat : Int → Bool → Option (Int × Bool)) (g_astrolaberef2_mul : Int → Int → Option (Int × Int × Bool)) (g_astrolaberef2_add : Int → Int → Bool → Int → Int → Bool → Option (Int × Int × Bool)) (g_astrolaberef2_root : Int → Int → Bool → Option (Int × Int)) (g___astrolaberef2_Acc__end : Int → Int → Bool → Bool → Option (Int × Bool))  (x0 : Nat) (x1 : Bool) (x2 : Int) (x3 : Bool) (x4 : Nat) (x5 : Nat → Int) (x6 : Int) (x7 : Int) (x8 : Bool) (c : (Nat × Bool × Int × Bool × Nat × (Nat → Int) × Int × Int × Bool) → Option ρ) (x : (Nat × Bool × Int × Int × Bool × Bool × Bool × Nat × (Nat → Int) × Int × Int × Bool ⊕ Nat × Bool × Int × Int × Bool × Bool × Nat × (Nat → Int) × Int × Int × Bool) → Option ρ) : Option ρ :=
  bif decide (x2 < Int.ofNat x0) then
    bif decide (x2 < 64) then
      bif inR x2 x0 then
        Option.bind (g___astrolaberef2_Acc__Sat (x5 (Int.toNat x2)) x3) fun (d : Int × Bool) =>
          Option.bind (g_astrolaberef2_mul d.1 d.1) fun (d_1 : Int × Int × Bool) =>
            Option.bind (g_astrolaberef2_add x6 x7 x8 d_1.1 d_1.2.1 d_1.2.2) fun (d_2 : Int × Int × Bool) =>
              c (x0, x1, IntKind.wrap IntKind.i64 (x2 + 1), d.2, x4, x5, d_2.1, d_2.2.1, d_2.2.2)
      else none
    else x (Sum.inl (x0, x1, x2, Int.ofNat x0, decide (x2 < Int.ofNat x0), decide (x2 < 64), x3, x4, x5, x6, x7, x8))
  else x (Sum.inr (x0, x1, x2, Int.ofNat x0, decide (x2 < Int.ofNat x0), x3, x4, x5, x6, x7, x8))
section
open Go.Ab.Rdr
def Q___astrolaberef2_Acc__Hypot_0 := (st (cons (ar (rc (cptr (nat 0) (ok' (nat 0)) (nat 1)))) (cons (ar (rc (csl (nat 1) (ok' (nat 0)) (szs hole) (nat 1) hole))) (cons aund (cons aund (cons (ar (rc (cf (fi .i64 (int 0))))) (cons (ar (rc (cptr (nat 2) (ok' (nat 0)) (nat 3)))) (cons (ar (rc (cf (fi .i64 hole)))) (cons aund (cons aund (cons aund (cons aund (cons aund (cons aund (cons aund (cons aund (cons aund (cons aund (cons aund (cons aund (cons aund (cons aund (cons aund (cons aund (cons aund (cons aund (cons aund (cons aund (cons aund (cons aund (cons aund (cons aund (cons aund (cons aund (cons aund nil)))))))))))))))))))))))))))))))))) (cons (some' (cons (gc (cf (fb hole))) nil)) (cons (some' (cons (ga (szs hole) (cons (ki .i64 hole) nil)) nil)) (cons (some' (cons (gc (cf (fi .u64 hole))) (cons (gc (cf (fi .u64 hole))) (cons (gc (cf (fb hole))) nil)))) nil))) (cons (nat 0) nil))
end
theorem q___astrolaberef2_Acc__Hypot_0 : ∀ b, (Q___astrolaberef2_Acc__Hypot_0).em b = St.mk
    [AV.r (RV.c (CV.ptr 0 (Off.k 0) 1)), AV.r (RV.c (CV.sl 1 (Off.k 0) (Sz.s b.1.2.1.2.2.1) 1 b.1.2.1.2.2.2.2)), AV.und, AV.und, AV.r (RV.c (CV.f (FV.i IntKind.i64 0))), AV.r (RV.c (CV.ptr 2 (Off.k 0) 3)),
      AV.r (RV.c (CV.f (FV.i IntKind.i64 b.1.2.2.2.2.2.2.1))), AV.und, AV.und, AV.und, AV.und, AV.und, AV.und, AV.und, AV.und, AV.und, AV.und, AV.und, AV.und, AV.und, AV.und, AV.und, AV.und, AV.und, AV.und, AV.und,
      AV.und, AV.und, AV.und, AV.und, AV.und, AV.und, AV.und, AV.und]
    [some [Sg.c (CV.f (FV.b b.2.1.1.1))], some [Sg.a (Sz.s b.2.1.2.1.1.1) [Col.i IntKind.i64 b.2.1.2.1.1.2.1]], some [Sg.c (CV.f (FV.i IntKind.u64 b.2.1.2.2.1.1)), Sg.c (CV.f (FV.i IntKind.u64 b.2.1.2.2.1.2.1)), Sg.c (CV.f (FV.b b.2.1.2.2.1.2.2.1))]] [0] := fun b => by kernel_rfl
def R___astrolaberef2_Acc__Hypot_0 (l : ∀ {ρ : Type}, (Nat × Bool × Int × Bool × Nat × (Nat → Int) × Int × Int × Bool) → ((Nat × Bool × Int × Int × Bool × Bool × Bool × Nat × (Nat → Int) × Int × Int × Bool ⊕ Nat × Bool × Int × Int × Bool × Bool × Nat × (Nat → Int) × Int × Int × Bool) → Option ρ) → Option ρ) {ρ : Type} (s : St) (K : AX → St → Option ρ) : Option ρ := ((Q___astrolaberef2_Acc__Hypot_0).rd s).bind fun b => l (b.1.2.1.2.2.1, b.1.2.1.2.2.2.2, b.1.2.2.2.2.2.2.1, b.2.1.1.1, b.2.1.2.1.1.1, b.2.1.2.1.1.2.1, b.2.1.2.2.1.1, b.2.1.2.2.1.2.1, b.2.1.2.2.1.2.2.1) (Sum.elim (fun d => K (AX.ex 0) (St.mk
  [AV.r (RV.c (CV.ptr 0 (Off.k 0) 1)), AV.r (RV.c (CV.sl 1 (Off.k 0) (Sz.s d.1) 1 d.2.1)), AV.und, AV.und, AV.r (RV.c (CV.f (FV.i IntKind.i64 0))), AV.r (RV.c (CV.ptr 2 (Off.k 0) 3)),
    AV.r (RV.c (CV.f (FV.i IntKind.i64 d.2.2.1))), AV.und, AV.und, AV.r (RV.c (CV.f (FV.i IntKind.i64 d.2.2.1))), AV.r (RV.c (CV.sl 1 (Off.k 0) (Sz.s d.1) 1 d.2.1)),
    AV.r (RV.c (CV.f (FV.i IntKind.i64 d.2.2.2.1))), AV.r (RV.c (CV.f (FV.b d.2.2.2.2.1))), AV.r (RV.c (CV.f (FV.b true))), AV.r (RV.c (CV.f (FV.i IntKind.i64 d.2.2.1))),
    AV.r (RV.c (CV.f (FV.b d.2.2.2.2.2.1))), AV.r (RV.c (CV.f (FV.b d.2.2.2.2.2.1))), AV.und, AV.und, AV.und, AV.und, AV.und, AV.und, AV.und, AV.und, AV.und, AV.und, AV.und,
    AV.und, AV.und, AV.und, AV.und, AV.und, AV.und]
  [some [Sg.c (CV.f (FV.b d.2.2.2.2.2.2.1))], some [Sg.a (Sz.s d.2.2.2.2.2.2.2.1) [Col.i IntKind.i64 d.2.2.2.2.2.2.2.2.1]],
    some
      [Sg.c (CV.f (FV.i IntKind.u64 d.2.2.2.2.2.2.2.2.2.1)), Sg.c (CV.f (FV.i IntKind.u64 d.2.2.2.2.2.2.2.2.2.2.1)),
        Sg.c (CV.f (FV.b d.2.2.2.2.2.2.2.2.2.2.2))]]
  [0])) (fun d => K (AX.ex 0) (St.mk
  [AV.r (RV.c (CV.ptr 0 (Off.k 0) 1)), AV.r (RV.c (CV.sl 1 (Off.k 0) (Sz.s d.1) 1 d.2.1)), AV.und, AV.und, AV.r (RV.c (CV.f (FV.i IntKind.i64 0))), AV.r (RV.c (CV.ptr 2 (Off.k 0) 3)),
    AV.r (RV.c (CV.f (FV.i IntKind.i64 d.2.2.1))), AV.und, AV.und, AV.r (RV.c (CV.f (FV.i IntKind.i64 d.2.2.1))), AV.r (RV.c (CV.sl 1 (Off.k 0) (Sz.s d.1) 1 d.2.1)),
    AV.r (RV.c (CV.f (FV.i IntKind.i64 d.2.2.2.1))), AV.r (RV.c (CV.f (FV.b d.2.2.2.2.1))), AV.r (RV.c (CV.f (FV.b false))), AV.tup [], AV.tup [], AV.r (RV.c (CV.f (FV.b false))),
    AV.und, AV.und, AV.und, AV.und, AV.und, AV.und, AV.und, AV.und, AV.und, AV.und, AV.und, AV.und, AV.und, AV.und, AV.und, AV.und, AV.und]
  [some [Sg.c (CV.f (FV.b d.2.2.2.2.2.1))], some [Sg.a (Sz.s d.2.2.2.2.2.2.1) [Col.i IntKind.i64 d.2.2.2.2.2.2.2.1]],
    some
      [Sg.c (CV.f (FV.i IntKind.u64 d.2.2.2.2.2.2.2.2.1)), Sg.c (CV.f (FV.i IntKind.u64 d.2.2.2.2.2.2.2.2.2.1)),
        Sg.c (CV.f (FV.b d.2.2.2.2.2.2.2.2.2.2))]]
  [0])))
theorem ms___astrolaberef2_Acc__Hypot_0 {ρ σ : Type} (g___astrolaberef2_Acc__Sat : Int → Bool → Option (Int × Bool)) (g_astrolaberef2_mul : Int → Int → Option (Int × Int × Bool)) (g_astrolaberef2_add : Int → Int → Bool → Int → Int → Bool → Option (Int × Int × Bool)) (g_astrolaberef2_root : Int → Int → Bool → Option (Int × Int)) (g___astrolaberef2_Acc__end : Int → Int → Bool → Bool → Option (Int × Bool))   (q : ρ → Option σ) (x0 : Nat) (x1 : Bool) (x2 : Int) (x3 : Bool) (x4 : Nat) (x5 : Nat → Int) (x6 : Int) (x7 : Int) (x8 : Bool) (c : (Nat × Bool × Int × Bool × Nat × (Nat → Int) × Int × Int × Bool) → Option ρ) (x : (Nat × Bool × Int × Int × Bool × Bool × Bool × Nat × (Nat → Int) × Int × Int × Bool ⊕ Nat × Bool × Int × Int × Bool × Bool × Nat × (Nat → Int) × Int × Int × Bool) → Option ρ) : (S___astrolaberef2_Acc__Hypot_0 g___astrolaberef2_Acc__Sat g_astrolaberef2_mul g_astrolaberef2_add g_astrolaberef2_root g___astrolaberef2_Acc__end  x0 x1 x2 x3 x4 x5 x6 x7 x8 c x).bind q = S___astrolaberef2_Acc__Hypot_0 g___astrolaberef2_Acc__Sat g_astrolaberef2_mul g_astrolaberef2_add g_astrolaberef2_root g___astrolaberef2_Acc__end  x0 x1 x2 x3 x4 x5 x6 x7 x8 (fun d => (c d).bind q) (fun d => (x d).bind q) := by
  simp only [S___astrolaberef2_Acc__Hypot_0, bnd_cond, bnd_bind, bnd_none, bnd_sum]
def L___astrolaberef2_Acc__Hypot_0 {ρ : Type} (d : Nat × Bool × Int × Bool × Nat × (Nat → Int) × Int × Int × Bool) (k : (Nat × Bool × Int × Int × Bool × Bool × Bool × Nat × (Nat → Int) × Int × Int × Bool ⊕ Nat × Bool × Int × Int × Bool × Bool × Nat × (Nat → Int) × Int × Int × Bool) → Option ρ) : Option ρ := loopK (fun d c x => S___astrolaberef2_Acc__Hypot_0 f___astrolaberef2_Acc__Sat f_astrolaberef2_mul f_astrolaberef2_add f_astrolaberef2_root f___astrolaberef2_Acc__end  d.1 d.2.1 d.2.2.1 d.2.2.2.1 d.2.2.2.2.1 d.2.2.2.2.2.1 d.2.2.2.2.2.2.1 d.2.2.2.2.2.2.2.1 d.2.2.2.2.2.2.2.2 c x) 200 d k
theorem mL___astrolaberef2_Acc__Hypot_0 {ρ σ : Type} (q : ρ → Option σ) (d : Nat × Bool × Int × Bool × Nat × (Nat → Int) × Int × Int × Bool) (k : (Nat × Bool × Int × Int × Bool × Bool × Bool × Nat × (Nat → Int) × Int × Int × Bool ⊕ Nat × Bool × Int × Int × Bool × Bool × Nat × (Nat → Int) × Int × Int × Bool) → Option ρ) : (L___astrolaberef2_Acc__Hypot_0 d k).bind q = L___astrolaberef2_Acc__Hypot_0 d fun x => (k x).bind q :=
  loopK_bind q (fun d c x => ms___astrolaberef2_Acc__Hypot_0 f___astrolaberef2_Acc__Sat f_astrolaberef2_mul f_astrolaberef2_add f_astrolaberef2_root f___astrolaberef2_Acc__end   q d.1 d.2.1 d.2.2.1 d.2.2.2.1 d.2.2.2.2.1 d.2.2.2.2.2.1 d.2.2.2.2.2.2.1 d.2.2.2.2.2.2.2.1 d.2.2.2.2.2.2.2.2 c x) k _ d
theorem ds___astrolaberef2_Acc__Hypot_0 {ρ : Type} (g___astrolaberef2_Acc__Sat : Int → Bool → Option (Int × Bool)) (g_astrolaberef2_mul : Int → Int → Option (Int × Int × Bool)) (g_astrolaberef2_add : Int → Int → Bool → Int → Int → Bool → Option (Int × Int × Bool)) (g_astrolaberef2_root : Int → Int → Bool → Option (Int × Int)) (g___astrolaberef2_Acc__end : Int → Int → Bool → Bool → Option (Int × Bool)) (l_0 : ∀ {ρ : Type}, (Nat × Bool × Int × Bool × Nat × (Nat → Int) × Int × Int × Bool) → ((Nat × Bool × Int × Int × Bool × Bool × Bool × Nat × (Nat → Int) × Int × Int × Bool ⊕ Nat × Bool × Int × Int × Bool × Bool × Nat × (Nat → Int) × Int × Int × Bool) → Option ρ) → Option ρ) (x0 : Nat) (x1 : Bool) (x2 : Int) (x3 : Bool) (x4 : Nat) (x5 : Nat → Int) (x6 : Int) (x7 : Int) (x8 : Bool) (c : St → Option ρ) (K : AX → St → Option ρ) :
    runC Try.prog (envOf [(60, F___astrolaberef2_Acc__Sat g___astrolaberef2_Acc__Sat), (59, F_astrolaberef2_mul g_astrolaberef2_mul), (58, F_astrolaberef2_add g_astrolaberef2_add), (83, F_astrolaberef2_root g_astrolaberef2_root), (61, F___astrolaberef2_Acc__end g___astrolaberef2_Acc__end)]) ⟨[⟨3, [2, 3, 7, 8, 9, 10, 11, 12, 13, 16, 17, 18, 19, 20, 21, 22, 23, 24, 25, 26, 27, 28, 29, 30, 31, 32, 33, 14, 15], []⟩], [⟨3, 2, @R___astrolaberef2_Acc__Hypot_0 (@l_0)⟩], [0], [], (some ⟨0, [0, 1, 2, 3, 5, 6, 7, 8, 9, 10, 11, 12, 13, 14, 15, 16, 17, 18, 19, 20, 21, 22, 23, 24, 25, 26, 27, 28, 29, 30, 31, 32, 33], []⟩)⟩ (tmpsOf Try.prog 65) 2 200 (loopIn Try.prog 65 3)
      (St.mk
    [AV.r (RV.c (CV.ptr 0 (Off.k 0) 1)), AV.r (RV.c (CV.sl 1 (Off.k 0) (Sz.s x0) 1 x1)), AV.und, AV.und, AV.r (RV.c (CV.f (FV.i IntKind.i64 0))), AV.r (RV.c (CV.ptr 2 (Off.k 0) 3)),
      AV.r (RV.c (CV.f (FV.i IntKind.i64 x2))), AV.und, AV.und, AV.und, AV.und, AV.und, AV.und, AV.und, AV.und, AV.und, AV.und, AV.und, AV.und, AV.und, AV.und, AV.und, AV.und, AV.und, AV.und, AV.und,
      AV.und, AV.und, AV.und, AV.und, AV.und, AV.und, AV.und, AV.und]
    [some [Sg.c (CV.f (FV.b x3))], some [Sg.a (Sz.s x4) [Col.i IntKind.i64 x5]], some [Sg.c (CV.f (FV.i IntKind.u64 x6)), Sg.c (CV.f (FV.i IntKind.u64 x7)), Sg.c (CV.f (FV.b x8))]] [0])
      (next (fun t => t.head 2 ⟨[⟨3, [2, 3, 7, 8, 9, 10, 11, 12, 13, 16, 17, 18, 19, 20, 21, 22, 23, 24, 25, 26, 27, 28, 29, 30, 31, 32, 33, 14, 15], []⟩], [⟨3, 2, @R___astrolaberef2_Acc__Hypot_0 (@l_0)⟩], [0], [], (some ⟨0, [0, 1, 2, 3, 5, 6, 7, 8, 9, 10, 11, 12, 13, 14, 15, 16, 17, 18, 19, 20, 21, 22, 23, 24, 25, 26, 27, 28, 29, 30, 31, 32, 33], []⟩)⟩ (loopIn Try.prog 65 3)) c K) =
    S___astrolaberef2_Acc__Hypot_0 g___astrolaberef2_Acc__Sat g_astrolaberef2_mul g_astrolaberef2_add g_astrolaberef2_root g___astrolaberef2_Acc__end  x0 x1 x2 x3 x4 x5 x6 x7 x8 (fun d => c (St.mk
  [AV.r (RV.c (CV.ptr 0 (Off.k 0) 1)), AV.r (RV.c (CV.sl 1 (Off.k 0) (Sz.s d.1) 1 d.2.1)), AV.und, AV.und, AV.r (RV.c (CV.f (FV.i IntKind.i64 0))), AV.r (RV.c (CV.ptr 2 (Off.k 0) 3)),
    AV.r (RV.c (CV.f (FV.i IntKind.i64 d.2.2.1))), AV.und, AV.und, AV.und, AV.und, AV.und, AV.und, AV.und, AV.und, AV.und, AV.und, AV.und, AV.und, AV.und, AV.und, AV.und, AV.und, AV.und, AV.und,
    AV.und, AV.und, AV.und, AV.und, AV.und, AV.und, AV.und, AV.und, AV.und]
  [some [Sg.c (CV.f (FV.b d.2.2.2.1))], some [Sg.a (Sz.s d.2.2.2.2.1) [Col.i IntKind.i64 d.2.2.2.2.2.1]],
    some [Sg.c (CV.f (FV.i IntKind.u64 d.2.2.2.2.2.2.1)), Sg.c (CV.f (FV.i IntKind.u64 d.2.2.2.2.2.2.2.1)), Sg.c (CV.f (FV.b d.2.2.2.2.2.2.2.2))]]
  [0])) (Sum.elim (fun d => K (AX.ex 0) (St.mk
  [AV.r (RV.c (CV.ptr 0 (Off.k 0) 1)), AV.r (RV.c (CV.sl 1 (Off.k 0) (Sz.s d.1) 1 d.2.1)), AV.und, AV.und, AV.r (RV.c (CV.f (FV.i IntKind.i64 0))), AV.r (RV.c (CV.ptr 2 (Off.k 0) 3)),
    AV.r (RV.c (CV.f (FV.i IntKind.i64 d.2.2.1))), AV.und, AV.und, AV.r (RV.c (CV.f (FV.i IntKind.i64 d.2.2.1))), AV.r (RV.c (CV.sl 1 (Off.k 0) (Sz.s d.1) 1 d.2.1)),
    AV.r (RV.c (CV.f (FV.i IntKind.i64 d.2.2.2.1))), AV.r (RV.c (CV.f (FV.b d.2.2.2.2.1))), AV.r (RV.c (CV.f (FV.b true))), AV.r (RV.c (CV.f (FV.i IntKind.i64 d.2.2.1))),
    AV.r (RV.c (CV.f (FV.b d.2.2.2.2.2.1))), AV.r (RV.c (CV.f (FV.b d.2.2.2.2.2.1))), AV.und, AV.und, AV.und, AV.und, AV.und, AV.und, AV.und, AV.und, AV.und, AV.und, AV.und,
    AV.und, AV.und, AV.und, AV.und, AV.und, AV.und]
  [some [Sg.c (CV.f (FV.b d.2.2.2.2.2.2.1))], some [Sg.a (Sz.s d.2.2.2.2.2.2.2.1) [Col.i IntKind.i64 d.2.2.2.2.2.2.2.2.1]],
    some
      [Sg.c (CV.f (FV.i IntKind.u64 d.2.2.2.2.2.2.2.2.2.1)), Sg.c (CV.f (FV.i IntKind.u64 d.2.2.2.2.2.2.2.2.2.2.1)),
        Sg.c (CV.f (FV.b d.2.2.2.2.2.2.2.2.2.2.2))]]
  [0])) (fun d => K (AX.ex 0) (St.mk
  [AV.r (RV.c (CV.ptr 0 (Off.k 0) 1)), AV.r (RV.c (CV.sl 1 (Off.k 0) (Sz.s d.1) 1 d.2.1)), AV.und, AV.und, AV.r (RV.c (CV.f (FV.i IntKind.i64 0))), AV.r (RV.c (CV.ptr 2 (Off.k 0) 3)),
    AV.r (RV.c (CV.f (FV.i IntKind.i64 d.2.2.1))), AV.und, AV.und, AV.r (RV.c (CV.f (FV.i IntKind.i64 d.2.2.1))), AV.r (RV.c (CV.sl 1 (Off.k 0) (Sz.s d.1) 1 d.2.1)),
    AV.r (RV.c (CV.f (FV.i IntKind.i64 d.2.2.2.1))), AV.r (RV.c (CV.f (FV.b d.2.2.2.2.1))), AV.r (RV.c (CV.f (FV.b false))), AV.tup [], AV.tup [], AV.r (RV.c (CV.f (FV.b false))),
    AV.und, AV.und, AV.und, AV.und, AV.und, AV.und, AV.und, AV.und, AV.und, AV.und, AV.und, AV.und, AV.und, AV.und, AV.und, AV.und, AV.und]
  [some [Sg.c (CV.f (FV.b d.2.2.2.2.2.1))], some [Sg.a (Sz.s d.2.2.2.2.2.2.1) [Col.i IntKind.i64 d.2.2.2.2.2.2.2.1]],
    some
      [Sg.c (CV.f (FV.i IntKind.u64 d.2.2.2.2.2.2.2.2.1)), Sg.c (CV.f (FV.i IntKind.u64 d.2.2.2.2.2.2.2.2.2.1)),
        Sg.c (CV.f (FV.b d.2.2.2.2.2.2.2.2.2.2))]]
  [0]))) := by kernel_rfl
theorem it___astrolaberef2_Acc__Hypot_0 {ρ : Type} (x0 : Nat) (x1 : Bool) (x2 : Int) (x3 : Bool) (x4 : Nat) (x5 : Nat → Int) (x6 : Int) (x7 : Int) (x8 : Bool) (K : AX → St → Option ρ) :
    iter (fun t => t.head 2 ⟨[⟨3, [2, 3, 7, 8, 9, 10, 11, 12, 13, 16, 17, 18, 19, 20, 21, 22, 23, 24, 25, 26, 27, 28, 29, 30, 31, 32, 33, 14, 15], []⟩], [⟨3, 2, @R___astrolaberef2_Acc__Hypot_0 (@L___astrolaberef2_Acc__Hypot_0)⟩], [0], [], (some ⟨0, [0, 1, 2, 3, 5, 6, 7, 8, 9, 10, 11, 12, 13, 14, 15, 16, 17, 18, 19, 20, 21, 22, 23, 24, 25, 26, 27, 28, 29, 30, 31, 32, 33], []⟩)⟩ (loopIn Try.prog 65 3)) (runC Try.prog (envOf [(60, F___astrolaberef2_Acc__Sat f___astrolaberef2_Acc__Sat), (59, F_astrolaberef2_mul f_astrolaberef2_mul), (58, F_astrolaberef2_add f_astrolaberef2_add), (83, F_astrolaberef2_root f_astrolaberef2_root), (61, F___astrolaberef2_Acc__end f___astrolaberef2_Acc__end)]) ⟨[⟨3, [2, 3, 7, 8, 9, 10, 11, 12, 13, 16, 17, 18, 19, 20, 21, 22, 23, 24, 25, 26, 27, 28, 29, 30, 31, 32, 33, 14, 15], []⟩], [⟨3, 2, @R___astrolaberef2_Acc__Hypot_0 (@L___astrolaberef2_Acc__Hypot_0)⟩], [0], [], (some ⟨0, [0, 1, 2, 3, 5, 6, 7, 8, 9, 10, 11, 12, 13, 14, 15, 16, 17, 18, 19, 20, 21, 22, 23, 24, 25, 26, 27, 28, 29, 30, 31, 32, 33], []⟩)⟩ (tmpsOf Try.prog 65) 2 200 (loopIn Try.prog 65 3)) K 200
      (St.mk
    [AV.r (RV.c (CV.ptr 0 (Off.k 0) 1)), AV.r (RV.c (CV.sl 1 (Off.k 0) (Sz.s x0) 1 x1)), AV.und, AV.und, AV.r (RV.c (CV.f (FV.i IntKind.i64 0))), AV.r (RV.c (CV.ptr 2 (Off.k 0) 3)),
      AV.r (RV.c (CV.f (FV.i IntKind.i64 x2))), AV.und, AV.und, AV.und, AV.und, AV.und, AV.und, AV.und, AV.und, AV.und, AV.und, AV.und, AV.und, AV.und, AV.und, AV.und, AV.und, AV.und, AV.und, AV.und,
      AV.und, AV.und, AV.und, AV.und, AV.und, AV.und, AV.und, AV.und]
    [some [Sg.c (CV.f (FV.b x3))], some [Sg.a (Sz.s x4) [Col.i IntKind.i64 x5]], some [Sg.c (CV.f (FV.i IntKind.u64 x6)), Sg.c (CV.f (FV.i IntKind.u64 x7)), Sg.c (CV.f (FV.b x8))]] [0]) = L___astrolaberef2_Acc__Hypot_0 (x0, x1, x2, x3, x4, x5, x6, x7, x8) (Sum.elim (fun d => K (AX.ex 0) (St.mk
  [AV.r (RV.c (CV.ptr 0 (Off.k 0) 1)), AV.r (RV.c (CV.sl 1 (Off.k 0) (Sz.s d.1) 1 d.2.1)), AV.und, AV.und, AV.r (RV.c (CV.f (FV.i IntKind.i64 0))), AV.r (RV.c (CV.ptr 2 (Off.k 0) 3)),
    AV.r (RV.c (CV.f (FV.i IntKind.i64 d.2.2.1))), AV.und, AV.und, AV.r (RV.c (CV.f (FV.i IntKind.i64 d.2.2.1))), AV.r (RV.c (CV.sl 1 (Off.k 0) (Sz.s d.1) 1 d.2.1)),
    AV.r (RV.c (CV.f (FV.i IntKind.i64 d.2.2.2.1))), AV.r (RV.c (CV.f (FV.b d.2.2.2.2.1))), AV.r (RV.c (CV.f (FV.b true))), AV.r (RV.c (CV.f (FV.i IntKind.i64 d.2.2.1))),
    AV.r (RV.c (CV.f (FV.b d.2.2.2.2.2.1))), AV.r (RV.c (CV.f (FV.b d.2.2.2.2.2.1))), AV.und, AV.und, AV.und, AV.und, AV.und, AV.und, AV.und, AV.und, AV.und, AV.und, AV.und,
    AV.und, AV.und, AV.und, AV.und, AV.und, AV.und]
  [some [Sg.c (CV.f (FV.b d.2.2.2.2.2.2.1))], some [Sg.a (Sz.s d.2.2.2.2.2.2.2.1) [Col.i IntKind.i64 d.2.2.2.2.2.2.2.2.1]],
    some
      [Sg.c (CV.f (FV.i IntKind.u64 d.2.2.2.2.2.2.2.2.2.1)), Sg.c (CV.f (FV.i IntKind.u64 d.2.2.2.2.2.2.2.2.2.2.1)),
        Sg.c (CV.f (FV.b d.2.2.2.2.2.2.2.2.2.2.2))]]
  [0])) (fun d => K (AX.ex 0) (St.mk
  [AV.r (RV.c (CV.ptr 0 (Off.k 0) 1)), AV.r (RV.c (CV.sl 1 (Off.k 0) (Sz.s d.1) 1 d.2.1)), AV.und, AV.und, AV.r (RV.c (CV.f (FV.i IntKind.i64 0))), AV.r (RV.c (CV.ptr 2 (Off.k 0) 3)),
    AV.r (RV.c (CV.f (FV.i IntKind.i64 d.2.2.1))), AV.und, AV.und, AV.r (RV.c (CV.f (FV.i IntKind.i64 d.2.2.1))), AV.r (RV.c (CV.sl 1 (Off.k 0) (Sz.s d.1) 1 d.2.1)),
    AV.r (RV.c (CV.f (FV.i IntKind.i64 d.2.2.2.1))), AV.r (RV.c (CV.f (FV.b d.2.2.2.2.1))), AV.r (RV.c (CV.f (FV.b false))), AV.tup [], AV.tup [], AV.r (RV.c (CV.f (FV.b false))),
    AV.und, AV.und, AV.und, AV.und, AV.und, AV.und, AV.und, AV.und, AV.und, AV.und, AV.und, AV.und, AV.und, AV.und, AV.und, AV.und, AV.und]
  [some [Sg.c (CV.f (FV.b d.2.2.2.2.2.1))], some [Sg.a (Sz.s d.2.2.2.2.2.2.1) [Col.i IntKind.i64 d.2.2.2.2.2.2.2.1]],
    some
      [Sg.c (CV.f (FV.i IntKind.u64 d.2.2.2.2.2.2.2.2.1)), Sg.c (CV.f (FV.i IntKind.u64 d.2.2.2.2.2.2.2.2.2.1)),
        Sg.c (CV.f (FV.b d.2.2.2.2.2.2.2.2.2.2))]]
  [0]))) :=
  iter_loopX (emb := fun (d : Nat × Bool × Int × Bool × Nat × (Nat → Int) × Int × Int × Bool) => St.mk
  [AV.r (RV.c (CV.ptr 0 (Off.k 0) 1)), AV.r (RV.c (CV.sl 1 (Off.k 0) (Sz.s d.1) 1 d.2.1)), AV.und, AV.und, AV.r (RV.c (CV.f (FV.i IntKind.i64 0))), AV.r (RV.c (CV.ptr 2 (Off.k 0) 3)),
    AV.r (RV.c (CV.f (FV.i IntKind.i64 d.2.2.1))), AV.und, AV.und, AV.und, AV.und, AV.und, AV.und, AV.und, AV.und, AV.und, AV.und, AV.und, AV.und, AV.und, AV.und, AV.und, AV.und, AV.und, AV.und,
    AV.und, AV.und, AV.und, AV.und, AV.und, AV.und, AV.und, AV.und, AV.und]
  [some [Sg.c (CV.f (FV.b d.2.2.2.1))], some [Sg.a (Sz.s d.2.2.2.2.1) [Col.i IntKind.i64 d.2.2.2.2.2.1]],
    some [Sg.c (CV.f (FV.i IntKind.u64 d.2.2.2.2.2.2.1)), Sg.c (CV.f (FV.i IntKind.u64 d.2.2.2.2.2.2.2.1)), Sg.c (CV.f (FV.b d.2.2.2.2.2.2.2.2))]]
  [0]) (step := fun d c x => S___astrolaberef2_Acc__Hypot_0 f___astrolaberef2_Acc__Sat f_astrolaberef2_mul f_astrolaberef2_add f_astrolaberef2_root f___astrolaberef2_Acc__end  d.1 d.2.1 d.2.2.1 d.2.2.2.1 d.2.2.2.2.1 d.2.2.2.2.2.1 d.2.2.2.2.2.2.1 d.2.2.2.2.2.2.2.1 d.2.2.2.2.2.2.2.2 c x) (kx := (Sum.elim (fun d => K (AX.ex 0) (St.mk
  [AV.r (RV.c (CV.ptr 0 (Off.k 0) 1)), AV.r (RV.c (CV.sl 1 (Off.k 0) (Sz.s d.1) 1 d.2.1)), AV.und, AV.und, AV.r (RV.c (CV.f (FV.i IntKind.i64 0))), AV.r (RV.c (CV.ptr 2 (Off.k 0) 3)),
    AV.r (RV.c (CV.f (FV.i IntKind.i64 d.2.2.1))), AV.und, AV.und, AV.r (RV.c (CV.f (FV.i IntKind.i64 d.2.2.1))), AV.r (RV.c (CV.sl 1 (Off.k 0) (Sz.s d.1) 1 d.2.1)),
    AV.r (RV.c (CV.f (FV.i IntKind.i64 d.2.2.2.1))), AV.r (RV.c (CV.f (FV.b d.2.2.2.2.1))), AV.r (RV.c (CV.f (FV.b true))), AV.r (RV.c (CV.f (FV.i IntKind.i64 d.2.2.1))),
    AV.r (RV.c (CV.f (FV.b d.2.2.2.2.2.1))), AV.r (RV.c (CV.f (FV.b d.2.2.2.2.2.1))), AV.und, AV.und, AV.und, AV.und, AV.und, AV.und, AV.und, AV.und, AV.und, AV.und, AV.und,
    AV.und, AV.und, AV.und, AV.und, AV.und, AV.und]
  [some [Sg.c (CV.f (FV.b d.2.2.2.2.2.2.1))], some [Sg.a (Sz.s d.2.2.2.2.2.2.2.1) [Col.i IntKind.i64 d.2.2.2.2.2.2.2.2.1]],
    some
      [Sg.c (CV.f (FV.i IntKind.u64 d.2.2.2.2.2.2.2.2.2.1)), Sg.c (CV.f (FV.i IntKind.u64 d.2.2.2.2.2.2.2.2.2.2.1)),
        Sg.c (CV.f (FV.b d.2.2.2.2.2.2.2.2.2.2.2))]]
  [0])) (fun d => K (AX.ex 0) (St.mk
  [AV.r (RV.c (CV.ptr 0 (Off.k 0) 1)), AV.r (RV.c (CV.sl 1 (Off.k 0) (Sz.s d.1) 1 d.2.1)), AV.und, AV.und, AV.r (RV.c (CV.f (FV.i IntKind.i64 0))), AV.r (RV.c (CV.ptr 2 (Off.k 0) 3)),
    AV.r (RV.c (CV.f (FV.i IntKind.i64 d.2.2.1))), AV.und, AV.und, AV.r (RV.c (CV.f (FV.i IntKind.i64 d.2.2.1))), AV.r (RV.c (CV.sl 1 (Off.k 0) (Sz.s d.1) 1 d.2.1)),
    AV.r (RV.c (CV.f (FV.i IntKind.i64 d.2.2.2.1))), AV.r (RV.c (CV.f (FV.b d.2.2.2.2.1))), AV.r (RV.c (CV.f (FV.b false))), AV.tup [], AV.tup [], AV.r (RV.c (CV.f (FV.b false))),
    AV.und, AV.und, AV.und, AV.und, AV.und, AV.und, AV.und, AV.und, AV.und, AV.und, AV.und, AV.und, AV.und, AV.und, AV.und, AV.und, AV.und]
  [some [Sg.c (CV.f (FV.b d.2.2.2.2.2.1))], some [Sg.a (Sz.s d.2.2.2.2.2.2.1) [Col.i IntKind.i64 d.2.2.2.2.2.2.2.1]],
    some
      [Sg.c (CV.f (FV.i IntKind.u64 d.2.2.2.2.2.2.2.2.1)), Sg.c (CV.f (FV.i IntKind.u64 d.2.2.2.2.2.2.2.2.2.1)),
        Sg.c (CV.f (FV.b d.2.2.2.2.2.2.2.2.2.2))]]
  [0]))))
    (fun d c => ds___astrolaberef2_Acc__Hypot_0 f___astrolaberef2_Acc__Sat f_astrolaberef2_mul f_astrolaberef2_add f_astrolaberef2_root f___astrolaberef2_Acc__end (@L___astrolaberef2_Acc__Hypot_0) d.1 d.2.1 d.2.2.1 d.2.2.2.1 d.2.2.2.2.1 d.2.2.2.2.2.1 d.2.2.2.2.2.2.1 d.2.2.2.2.2.2.2.1 d.2.2.2.2.2.2.2.2 c K) 200 (x0, x1, x2, x3, x4, x5, x6, x7, x8)
theorem so___astrolaberef2_Acc__Hypot_0 : ∀ kk, SumOK Try.prog (envOf [(60, F___astrolaberef2_Acc__Sat f___astrolaberef2_Acc__Sat), (59, F_astrolaberef2_mul f_astrolaberef2_mul), (58, F_astrolaberef2_add f_astrolaberef2_add), (83, F_astrolaberef2_root f_astrolaberef2_root), (61, F___astrolaberef2_Acc__end f___astrolaberef2_Acc__end)]) ⟨[⟨3, [2, 3, 7, 8, 9, 10, 11, 12, 13, 16, 17, 18, 19, 20, 21, 22, 23, 24, 25, 26, 27, 28, 29, 30, 31, 32, 33, 14, 15], []⟩], [⟨3, 2, @R___astrolaberef2_Acc__Hypot_0 (@L___astrolaberef2_Acc__Hypot_0)⟩], [0], [], (some ⟨0, [0, 1, 2, 3, 5, 6, 7, 8, 9, 10, 11, 12, 13, 14, 15, 16, 17, 18, 19, 20, 21, 22, 23, 24, 25, 26, 27, 28, 29, 30, 31, 32, 33], []⟩)⟩ (tmpsOf Try.prog 65) kk 200 (loopIn Try.prog 65 3) :=
  SumOK.of (id := 3) (k0 := 2) (run := @R___astrolaberef2_Acc__Hypot_0 (@L___astrolaberef2_Acc__Hypot_0)) (by kernel_rfl) fun s K r hr => by
    unfold R___astrolaberef2_Acc__Hypot_0 at hr
    obtain ⟨b, hb, hr1⟩ := Option.bind_eq_some_iff.1 hr
    have e := ((Q___astrolaberef2_Acc__Hypot_0).ok s b hb).trans (q___astrolaberef2_Acc__Hypot_0 b)
    subst e
    exact ⟨200, (it___astrolaberef2_Acc__Hypot_0 b.1.2.1.2.2.1 b.1.2.1.2.2.2.2 b.1.2.2.2.2.2.2.1 b.2.1.1.1 b.2.1.2.1.1.1 b.2.1.2.1.1.2.1 b.2.1.2.2.1.1 b.2.1.2.2.1.2.1 b.2.1.2.2.1.2.2.1 K).trans hr1⟩
def K___astrolaberef2_Acc__Hypot {ρ : Type} (g___astrolaberef2_Acc__Sat : Int → Bool → Option (Int × Bool)) (g_astrolaberef2_mul : Int → Int → Option (Int × Int × Bool)) (g_astrolaberef2_add : Int → Int → Bool → Int → Int → Bool → Option (Int × Int × Bool)) (g_astrolaberef2_root : Int → Int → Bool → Option (Int × Int)) (g___astrolaberef2_Acc__end : Int → Int → Bool → Bool → Option (Int × Bool)) (l_0 : ∀ {ρ : Type}, (Nat × Bool × Int × Bool × Nat × (Nat → Int) × Int × Int × Bool) → ((Nat × Bool × Int × Int × Bool × Bool × Bool × Nat × (Nat → Int) × Int × Int × Bool ⊕ Nat × Bool × Int × Int × Bool × Bool × Nat × (Nat → Int) × Int × Int × Bool) → Option ρ) → Option ρ) (x0 : Nat) (x1 : Bool) (x2 : Nat → Int) (w0 : Bool) (k : (Int × Bool) → Option ρ) : Option ρ :=
  l_0 (x0, w0, 0, x1, x0, x2, 0, 0, false)
    (Sum.elim
      (fun (d : Nat × Bool × Int × Int × Bool × Bool × Bool × Nat × (Nat → Int) × Int × Int × Bool) =>
        Option.bind (g_astrolaberef2_root d.2.2.2.2.2.2.2.2.2.1 d.2.2.2.2.2.2.2.2.2.2.1 d.2.2.2.2.2.2.2.2.2.2.2) fun (d_1 : Int × Int) =>
          Option.bind (g___astrolaberef2_Acc__end d_1.1 d_1.2 false d.2.2.2.2.2.2.1) fun (d : Int × Bool) => k (d.1, d.2))
      fun (d : Nat × Bool × Int × Int × Bool × Bool × Nat × (Nat → Int) × Int × Int × Bool) =>
      Option.bind (g_astrolaberef2_root d.2.2.2.2.2.2.2.2.1 d.2.2.2.2.2.2.2.2.2.1 d.2.2.2.2.2.2.2.2.2.2) fun (d_1 : Int × Int) =>
        Option.bind (g___astrolaberef2_Acc__end d_1.1 d_1.2 false d.2.2.2.2.2.1) fun (d : Int × Bool) => k (d.1, d.2))
def f___astrolaberef2_Acc__Hypot (x0 : Nat) (x1 : Bool) (x2 : Nat → Int) (w0 : Bool) : Option (Int × Bool) := K___astrolaberef2_Acc__Hypot f___astrolaberef2_Acc__Sat f_astrolaberef2_mul f_astrolaberef2_add f_astrolaberef2_root f___astrolaberef2_Acc__end (@L___astrolaberef2_Acc__Hypot_0) x0 x1 x2 w0 some
section
open Go.Ab.Rdr
def QA___astrolaberef2_Acc__Hypot := ((pair (cons (ar (rc (cptr (nat 0) (ok' (nat 0)) (nat 1)))) (cons (ar (rc (csl (nat 1) (ok' (nat 0)) (szs hole) (nat 1) hole))) nil)) (cons (cons (gc (cf (fb hole))) nil) (cons (cons (ga (szs hole) (cons (ki .i64 hole) nil)) nil) nil))) : Rdr (List AV × List Blk) _)
end
def F0___astrolaberef2_Acc__Hypot (f : (Nat) → (Bool) → (Nat → Int) → (Bool) → Option (Int × Bool)) : Sem1 := fun args h => match (QA___astrolaberef2_Acc__Hypot).rd (args, h) with
  | some b => .test (Nat.beq b.2.2.1.1.1 b.1.2.1.2.2.1) (.opt (f b.1.2.1.2.2.1 b.2.1.1 b.2.2.1.1.2.1 b.1.2.1.2.2.2.2) fun (d : Int × Bool) => .leaf (Res.mk (AV.r (RV.c (CV.f (FV.i IntKind.i64 d.1)))) [Ch.set [Sg.c (CV.f (FV.b d.2))], Ch.keep] [])) .fail
  | none => .fail
def F___astrolaberef2_Acc__Hypot (f : (Nat) → (Bool) → (Nat → Int) → (Bool) → Option (Int × Bool)) : Sem1 := (nilF 1 [.i .i64] (F0___astrolaberef2_Acc__Hypot f))
theorem d___astrolaberef2_Acc__Hypot (g___astrolaberef2_Acc__Sat : Int → Bool → Option (Int × Bool)) (g_astrolaberef2_mul : Int → Int → Option (Int × Int × Bool)) (g_astrolaberef2_add : Int → Int → Bool → Int → Int → Bool → Option (Int × Int × Bool)) (g_astrolaberef2_root : Int → Int → Bool → Option (Int × Int)) (g___astrolaberef2_Acc__end : Int → Int → Bool → Bool → Option (Int × Bool)) (l_0 : ∀ {ρ : Type}, (Nat × Bool × Int × Bool × Nat × (Nat → Int) × Int × Int × Bool) → ((Nat × Bool × Int × Int × Bool × Bool × Bool × Nat × (Nat → Int) × Int × Int × Bool ⊕ Nat × Bool × Int × Int × Bool × Bool × Nat × (Nat → Int) × Int × Int × Bool) → Option ρ) → Option ρ) (x0 : Nat) (x1 : Bool) (x2 : Nat → Int) (w0 : Bool) : den Try.prog (envOf [(60, F___astrolaberef2_Acc__Sat g___astrolaberef2_Acc__Sat), (59, F_astrolaberef2_mul g_astrolaberef2_mul), (58, F_astrolaberef2_add g_astrolaberef2_add), (83, F_astrolaberef2_root g_astrolaberef2_root), (61, F___astrolaberef2_Acc__end g___astrolaberef2_Acc__end)]) ⟨[⟨3, [2, 3, 7, 8, 9, 10, 11, 12, 13, 16, 17, 18, 19, 20, 21, 22, 23, 24, 25, 26, 27, 28, 29, 30, 31, 32, 33, 14, 15], []⟩], [⟨3, 2, @R___astrolaberef2_Acc__Hypot_0 (@l_0)⟩], [0], [], (some ⟨0, [0, 1, 2, 3, 5, 6, 7, 8, 9, 10, 11, 12, 13, 14, 15, 16, 17, 18, 19, 20, 21, 22, 23, 24, 25, 26, 27, 28, 29, 30, 31, 32, 33], []⟩)⟩ 200 65 [.r (.c (.ptr 0 (.k 0) 1)), .r (.c (.sl 1 (.k 0) (.s x0) 1 w0))] [[.c (.f (.b x1))], [.a (.s x0) [.i .i64 x2]]] =
    K___astrolaberef2_Acc__Hypot g___astrolaberef2_Acc__Sat g_astrolaberef2_mul g_astrolaberef2_add g_astrolaberef2_root g___astrolaberef2_Acc__end (@l_0) x0 x1 x2 w0 (fun (d : Int × Bool) => some (Res.mk (AV.r (RV.c (CV.f (FV.i IntKind.i64 d.1)))) [Ch.set [Sg.c (CV.f (FV.b d.2))], Ch.keep] [])) := by kernel_rfl
theorem m___astrolaberef2_Acc__Hypot {ρ σ : Type} (q : ρ → Option σ) (g___astrolaberef2_Acc__Sat : Int → Bool → Option (Int × Bool)) (g_astrolaberef2_mul : Int → Int → Option (Int × Int × Bool)) (g_astrolaberef2_add : Int → Int → Bool → Int → Int → Bool → Option (Int × Int × Bool)) (g_astrolaberef2_root : Int → Int → Bool → Option (Int × Int)) (g___astrolaberef2_Acc__end : Int → Int → Bool → Bool → Option (Int × Bool)) (l_0 : ∀ {ρ : Type}, (Nat × Bool × Int × Bool × Nat × (Nat → Int) × Int × Int × Bool) → ((Nat × Bool × Int × Int × Bool × Bool × Bool × Nat × (Nat → Int) × Int × Int × Bool ⊕ Nat × Bool × Int × Int × Bool × Bool × Nat × (Nat → Int) × Int × Int × Bool) → Option ρ) → Option ρ) (hl_0 : ∀ {ρ σ : Type} (q : ρ → Option σ) (d : Nat × Bool × Int × Bool × Nat × (Nat → Int) × Int × Int × Bool) (k : (Nat × Bool × Int × Int × Bool × Bool × Bool × Nat × (Nat → Int) × Int × Int × Bool ⊕ Nat × Bool × Int × Int × Bool × Bool × Nat × (Nat → Int) × Int × Int × Bool) → Option ρ), (l_0 d k).bind q = l_0 d fun x => (k x).bind q) (x0 : Nat) (x1 : Bool) (x2 : Nat → Int) (w0 : Bool) (k : (Int × Bool) → Option ρ) : (K___astrolaberef2_Acc__Hypot g___astrolaberef2_Acc__Sat g_astrolaberef2_mul g_astrolaberef2_add g_astrolaberef2_root g___astrolaberef2_Acc__end (@l_0) x0 x1 x2 w0 k).bind q = K___astrolaberef2_Acc__Hypot g___astrolaberef2_Acc__Sat g_astrolaberef2_mul g_astrolaberef2_add g_astrolaberef2_root g___astrolaberef2_Acc__end (@l_0) x0 x1 x2 w0 (fun d => (k d).bind q) := by
  simp only [K___astrolaberef2_Acc__Hypot, bnd_cond, bnd_bind, bnd_none, bnd_sum, hl_0]
theorem qa___astrolaberef2_Acc__Hypot : ∀ b, (QA___astrolaberef2_Acc__Hypot).em b = ([.r (.c (.ptr 0 (.k 0) 1)), .r (.c (.sl 1 (.k 0) (.s b.1.2.1.2.2.1) 1 b.1.2.1.2.2.2.2))], [[.c (.f (.b b.2.1.1))], [.a (.s b.2.2.1.1.1) [.i .i64 b.2.2.1.1.2.1]]]) := fun b => by kernel_rfl
theorem e___astrolaberef2_Acc__Hypot {f : (Nat) → (Bool) → (Nat → Int) → (Bool) → Option (Int × Bool)} {args : List AV} {h : List Blk} {r : Res} (hr : (F0___astrolaberef2_Acc__Hypot f args h).eval = some r) : ∃ x0 x1 x2 w0, args = [.r (.c (.ptr 0 (.k 0) 1)), .r (.c (.sl 1 (.k 0) (.s x0) 1 w0))] ∧ h = [[.c (.f (.b x1))], [.a (.s x0) [.i .i64 x2]]] ∧ (f x0 x1 x2 w0).bind (fun (d : Int × Bool) => some (Res.mk (AV.r (RV.c (CV.f (FV.i IntKind.i64 d.1)))) [Ch.set [Sg.c (CV.f (FV.b d.2))], Ch.keep] [])) = some r := by
  unfold F0___astrolaberef2_Acc__Hypot at hr
  split at hr
  · rename_i b hb
    have e := ((QA___astrolaberef2_Acc__Hypot).ok _ _ hb).trans (qa___astrolaberef2_Acc__Hypot b)
    obtain ⟨he, hr1⟩ := test_eval hr
    clear hr
    have hr := hr1
    clear hr1
    rw [Nat.eq_of_beq_eq_true he] at e
    clear he
    rw [opt_eval2] at hr
    exact ⟨b.1.2.1.2.2.1, b.2.1.1, b.2.2.1.1.2.1, b.1.2.1.2.2.2.2, (Prod.mk.inj e).1, (Prod.mk.inj e).2, hr⟩
  · cases hr
theorem n___astrolaberef2_Acc__Hypot {σ : Type} (q : (Int × Bool) → Option σ) (x0 : Nat) (x1 : Bool) (x2 : Nat → Int) (w0 : Bool) : (f___astrolaberef2_Acc__Hypot x0 x1 x2 w0).bind q = K___astrolaberef2_Acc__Hypot f___astrolaberef2_Acc__Sat f_astrolaberef2_mul f_astrolaberef2_add f_astrolaberef2_root f___astrolaberef2_Acc__end (@L___astrolaberef2_Acc__Hypot_0) x0 x1 x2 w0 q := by
  unfold f___astrolaberef2_Acc__Hypot
  exact m___astrolaberef2_Acc__Hypot q f___astrolaberef2_Acc__Sat f_astrolaberef2_mul f_astrolaberef2_add f_astrolaberef2_root f___astrolaberef2_Acc__end (@L___astrolaberef2_Acc__Hypot_0) (fun q d k => mL___astrolaberef2_Acc__Hypot_0 q d k) x0 x1 x2 w0 some
theorem s___astrolaberef2_Acc__Hypot : Sound Try.prog 65 (F___astrolaberef2_Acc__Hypot f___astrolaberef2_Acc__Hypot) :=
  Sound.nil 1 [.i .i64] <| (inl_sums (l := [(60, F___astrolaberef2_Acc__Sat f___astrolaberef2_Acc__Sat), (59, F_astrolaberef2_mul f_astrolaberef2_mul), (58, F_astrolaberef2_add f_astrolaberef2_add), (83, F_astrolaberef2_root f_astrolaberef2_root), (61, F___astrolaberef2_Acc__end f___astrolaberef2_Acc__end)]) (.cons s___astrolaberef2_Acc__Sat (.cons s_astrolaberef2_mul (.cons s_astrolaberef2_add (.cons s_astrolaberef2_root (.cons s___astrolaberef2_Acc__end (.nil _)))))) mixed (hs := ⟨[⟨3, [2, 3, 7, 8, 9, 10, 11, 12, 13, 16, 17, 18, 19, 20, 21, 22, 23, 24, 25, 26, 27, 28, 29, 30, 31, 32, 33, 14, 15], []⟩], [⟨3, 2, @R___astrolaberef2_Acc__Hypot_0 (@L___astrolaberef2_Acc__Hypot_0)⟩], [0], [], (some ⟨0, [0, 1, 2, 3, 5, 6, 7, 8, 9, 10, 11, 12, 13, 14, 15, 16, 17, 18, 19, 20, 21, 22, 23, 24, 25, 26, 27, 28, 29, 30, 31, 32, 33], []⟩)⟩) (lf := 200) (Sums.by (l := [loopIn Try.prog 65 3]) (lj := []) (by kernel_rfl) ⟨so___astrolaberef2_Acc__Hypot_0, trivial⟩ (by kernel_rfl) trivial) (by kernel_rfl)).by (F := F0___astrolaberef2_Acc__Hypot f___astrolaberef2_Acc__Hypot) fun args b r hr => by
  obtain ⟨x0, x1, x2, w0, rfl, rfl, hr1⟩ := e___astrolaberef2_Acc__Hypot hr
  exact inl_eval ((d___astrolaberef2_Acc__Hypot f___astrolaberef2_Acc__Sat f_astrolaberef2_mul f_astrolaberef2_add f_astrolaberef2_root f___astrolaberef2_Acc__end (@L___astrolaberef2_Acc__Hypot_0) x0 x1 x2 w0).trans ((n___astrolaberef2_Acc__Hypot (fun (d : Int × Bool) => some (Res.mk (AV.r (RV.c (CV.f (FV.i IntKind.i64 d.1)))) [Ch.set [Sg.c (CV.f (FV.b d.2))], Ch.keep] [])) x0 x1 x2 w0).symm.trans hr1))

end Go.Proofs.Ythbnojedlbeglaa
