/-
  Contracts by plain functions: astrolabelaw5.VecMany
-/
import Derived.Test.YthbnojedlbeglaaV2
set_option maxRecDepth 100000
set_option maxHeartbeats 4000000
set_option linter.unusedVariables false
namespace Go.Proofs.Ythbnojedlbeglaa
open Go.Ab
def S_astrolabelaw5_VecMany_1 {ρ : Type} (g_astrolabelaw5_awake : Option Bool) (g_vec_Add : Nat → Bool → (Nat → Int) → (Nat → Int) → (Nat → Int) → Bool → Option (Int × Int × Int × Bool)) (g___fx_Acc__Add : Nat → Bool → (Nat → Int) → Bool → Option (Int × Bool))  (x0 : Nat) (x1 : Bool) (x2 : Int) (x3 : Nat) (x4 : Int) (x5 : Nat) (x6 : Nat → Int) (x7 : Nat → Int) (x8 : Nat → Int) (x9 : Bool) (x10 : Int) (x11 : Int) (x12 : Int) (x13 : Bool) (x14 : Nat) (x15 : Nat → Int) (c : (Nat × Bool × Int × Nat × Int × Nat × (Nat → Int) × (Nat → Int) × (Nat → Int) × Bool × Int × Int × Int × Bool × Nat × (Nat → Int)) → Option ρ) (x : (Nat × Bool × Int × Nat × Int × Int × Bool × Nat × (Nat → Int) × (Nat → Int) × (Nat → Int) × Bool × Int × Int × Int × Bool × Nat × (Nat → Int)) → Option ρ) : Option ρ :=
  bif decide (x4 < Int.ofNat x0) then
    bif inR x4 x0 then
      bif inR x2 3 then
        bif x2 == 2 then
          bif Nat.ble ((x3 + 1) * 8) 140737488355328 then
            c (x0, x1, x2, x3 + 1, IntKind.wrap IntKind.i64 (x4 + 1), x5, x6, x7, x8, x9, x10, x11, x12, x13, x3 + 1, fun (j : Nat) => bif Nat.beq j x3 then x8 (Int.toNat x4) else x15 j)
          else none
        else
          bif x2 == 1 then
            bif Nat.ble ((x3 + 1) * 8) 140737488355328 then
              c (x0, x1, x2, x3 + 1, IntKind.wrap IntKind.i64 (x4 + 1), x5, x6, x7, x8, x9, x10, x11, x12, x13, x3 + 1, fun (j : Nat) => bif Nat.beq j x3 then x7 (Int.toNat x4) else x15 j)
            else none
          else
            bif Nat.ble ((x3 + 1) * 8) 140737488355328 then
              c (x0, x1, x2, x3 + 1, IntKind.wrap IntKind.i64 (x4 + 1), x5, x6, x7, x8, x9, x10, x11, x12, x13, x3 + 1, fun (j : Nat) => bif Nat.beq j x3 then x6 (Int.toNat x4) else x15 j)
            else none
      else none
    else none
  else x (x0, x1, x2, x3, x4, Int.ofNat x0, decide (x4 < Int.ofNat x0), x5, x6, x7, x8, x9, x10, x11, x12, x13, x14, x15)
section
open Go.Ab.Rdr
def Q_astrolabelaw5_VecMany_1 := (st (cons (ar (rc (csl (nat 0) (ok' (nat 0)) (szs hole) (nat 3) hole))) (cons aund (cons aund (cons (ar (rc (cptr (nat 1) (ok' (nat 0)) (nat 1)))) (cons (ar (rc (cptr (nat 2) (ok' (nat 0)) (nat 3)))) (cons (ar (rc (cptr (nat 3) (ok' (nat 0)) (nat 1)))) (cons (ar (rc (cf (fi .i64 hole)))) (cons (ar (rc (csl (nat 4) (ok' (nat 0)) (szs hole) (nat 1) (bool true)))) (cons (ar (rc (cf (fi .i64 hole)))) (cons aund (cons aund (cons aund (cons aund (cons aund (cons aund (cons aund (cons aund (cons aund (cons aund (cons aund (cons aund (cons aund (cons aund (cons aund (cons aund (cons aund (cons aund (cons aund (cons aund (cons aund (cons aund (cons aund (cons aund (cons aund (cons aund (cons aund (cons aund (cons aund (cons aund (cons aund (cons aund (cons aund (cons aund (cons aund (cons aund (cons aund (cons aund (cons aund (cons aund (cons aund (cons aund (cons aund (cons aund (cons aund (cons aund (cons aund (cons aund (cons aund nil)))))))))))))))))))))))))))))))))))))))))))))))))))))))))) (cons (some' (cons (ga (szs hole) (cons (ki .i64 hole) (cons (ki .i64 hole) (cons (ki .i64 hole) nil)))) nil)) (cons (some' (cons (gc (cf (fb hole))) nil)) (cons (some' (cons (gc (cf (fi .i64 hole))) (cons (gc (cf (fi .i64 hole))) (cons (gc (cf (fi .i64 hole))) nil)))) (cons (some' (cons (gc (cf (fb hole))) nil)) (cons (some' (cons (ga (szs hole) (cons (ki .i64 hole) nil)) nil)) nil))))) nil)
end
theorem q_astrolabelaw5_VecMany_1 : ∀ b, (Q_astrolabelaw5_VecMany_1).em b = St.mk
    [AV.r (RV.c (CV.sl 0 (Off.k 0) (Sz.s b.1.1.2.2.1) 3 b.1.1.2.2.2.2)), AV.und, AV.und, AV.r (RV.c (CV.ptr 1 (Off.k 0) 1)), AV.r (RV.c (CV.ptr 2 (Off.k 0) 3)), AV.r (RV.c (CV.ptr 3 (Off.k 0) 1)),
      AV.r (RV.c (CV.f (FV.i IntKind.i64 b.1.2.2.2.2.2.2.1))), AV.r (RV.c (CV.sl 4 (Off.k 0) (Sz.s b.1.2.2.2.2.2.2.2.1.2.2.1) 1 true)), AV.r (RV.c (CV.f (FV.i IntKind.i64 b.1.2.2.2.2.2.2.2.2.1))), AV.und, AV.und, AV.und, AV.und, AV.und, AV.und, AV.und,
      AV.und, AV.und, AV.und, AV.und, AV.und, AV.und, AV.und, AV.und, AV.und, AV.und, AV.und, AV.und, AV.und, AV.und, AV.und, AV.und, AV.und, AV.und, AV.und, AV.und, AV.und, AV.und, AV.und, AV.und,
      AV.und, AV.und, AV.und, AV.und, AV.und, AV.und, AV.und, AV.und, AV.und, AV.und, AV.und, AV.und, AV.und, AV.und, AV.und, AV.und, AV.und, AV.und]
    [some [Sg.a (Sz.s b.2.1.1.1.1) [Col.i IntKind.i64 b.2.1.1.1.2.1, Col.i IntKind.i64 b.2.1.1.1.2.2.1, Col.i IntKind.i64 b.2.1.1.1.2.2.2.1]], some [Sg.c (CV.f (FV.b b.2.1.2.1.1))],
      some [Sg.c (CV.f (FV.i IntKind.i64 b.2.1.2.2.1.1)), Sg.c (CV.f (FV.i IntKind.i64 b.2.1.2.2.1.2.1)), Sg.c (CV.f (FV.i IntKind.i64 b.2.1.2.2.1.2.2.1))], some [Sg.c (CV.f (FV.b b.2.1.2.2.2.1.1))], some [Sg.a (Sz.s b.2.1.2.2.2.2.1.1.1) [Col.i IntKind.i64 b.2.1.2.2.2.2.1.1.2.1]]]
    [] := fun b => by kernel_rfl
def R_astrolabelaw5_VecMany_1 (l : ∀ {ρ : Type}, (Nat × Bool × Int × Nat × Int × Nat × (Nat → Int) × (Nat → Int) × (Nat → Int) × Bool × Int × Int × Int × Bool × Nat × (Nat → Int)) → ((Nat × Bool × Int × Nat × Int × Int × Bool × Nat × (Nat → Int) × (Nat → Int) × (Nat → Int) × Bool × Int × Int × Int × Bool × Nat × (Nat → Int)) → Option ρ) → Option ρ) {ρ : Type} (s : St) (K : AX → St → Option ρ) : Option ρ := ((Q_astrolabelaw5_VecMany_1).rd s).bind fun b => l (b.1.1.2.2.1, b.1.1.2.2.2.2, b.1.2.2.2.2.2.2.1, b.1.2.2.2.2.2.2.2.1.2.2.1, b.1.2.2.2.2.2.2.2.2.1, b.2.1.1.1.1, b.2.1.1.1.2.1, b.2.1.1.1.2.2.1, b.2.1.1.1.2.2.2.1, b.2.1.2.1.1, b.2.1.2.2.1.1, b.2.1.2.2.1.2.1, b.2.1.2.2.1.2.2.1, b.2.1.2.2.2.1.1, b.2.1.2.2.2.2.1.1.1, b.2.1.2.2.2.2.1.1.2.1) (fun d => K (AX.ex 2) (St.mk
  [AV.r (RV.c (CV.sl 0 (Off.k 0) (Sz.s d.1) 3 d.2.1)), AV.und, AV.und, AV.r (RV.c (CV.ptr 1 (Off.k 0) 1)), AV.r (RV.c (CV.ptr 2 (Off.k 0) 3)), AV.r (RV.c (CV.ptr 3 (Off.k 0) 1)),
    AV.r (RV.c (CV.f (FV.i IntKind.i64 d.2.2.1))), AV.r (RV.c (CV.sl 4 (Off.k 0) (Sz.s d.2.2.2.1) 1 true)), AV.r (RV.c (CV.f (FV.i IntKind.i64 d.2.2.2.2.1))), AV.und, AV.und,
    AV.und, AV.und, AV.und, AV.und, AV.und, AV.und, AV.und, AV.und, AV.und, AV.und, AV.und, AV.und, AV.und, AV.und, AV.und, AV.und, AV.r (RV.c (CV.f (FV.i IntKind.i64 d.2.2.2.2.1))),
    AV.r (RV.c (CV.sl 0 (Off.k 0) (Sz.s d.1) 3 d.2.1)), AV.r (RV.c (CV.f (FV.i IntKind.i64 d.2.2.2.2.2.1))), AV.r (RV.c (CV.f (FV.b d.2.2.2.2.2.2.1))), AV.und, AV.und,
    AV.und, AV.und, AV.und, AV.und, AV.und, AV.und, AV.und, AV.und, AV.und, AV.und, AV.und, AV.und, AV.und, AV.und, AV.und, AV.und, AV.und, AV.und, AV.und, AV.und, AV.und, AV.und, AV.und, AV.und,
    AV.und]
  [some
      [Sg.a (Sz.s d.2.2.2.2.2.2.2.1)
          [Col.i IntKind.i64 d.2.2.2.2.2.2.2.2.1, Col.i IntKind.i64 d.2.2.2.2.2.2.2.2.2.1, Col.i IntKind.i64 d.2.2.2.2.2.2.2.2.2.2.1]],
    some [Sg.c (CV.f (FV.b d.2.2.2.2.2.2.2.2.2.2.2.1))],
    some
      [Sg.c (CV.f (FV.i IntKind.i64 d.2.2.2.2.2.2.2.2.2.2.2.2.1)), Sg.c (CV.f (FV.i IntKind.i64 d.2.2.2.2.2.2.2.2.2.2.2.2.2.1)),
        Sg.c (CV.f (FV.i IntKind.i64 d.2.2.2.2.2.2.2.2.2.2.2.2.2.2.1))],
    some [Sg.c (CV.f (FV.b d.2.2.2.2.2.2.2.2.2.2.2.2.2.2.2.1))],
    some [Sg.a (Sz.s d.2.2.2.2.2.2.2.2.2.2.2.2.2.2.2.2.1) [Col.i IntKind.i64 d.2.2.2.2.2.2.2.2.2.2.2.2.2.2.2.2.2]]]
  []))
theorem ms_astrolabelaw5_VecMany_1 {ρ σ : Type} (g_astrolabelaw5_awake : Option Bool) (g_vec_Add : Nat → Bool → (Nat → Int) → (Nat → Int) → (Nat → Int) → Bool → Option (Int × Int × Int × Bool)) (g___fx_Acc__Add : Nat → Bool → (Nat → Int) → Bool → Option (Int × Bool))   (q : ρ → Option σ) (x0 : Nat) (x1 : Bool) (x2 : Int) (x3 : Nat) (x4 : Int) (x5 : Nat) (x6 : Nat → Int) (x7 : Nat → Int) (x8 : Nat → Int) (x9 : Bool) (x10 : Int) (x11 : Int) (x12 : Int) (x13 : Bool) (x14 : Nat) (x15 : Nat → Int) (c : (Nat × Bool × Int × Nat × Int × Nat × (Nat → Int) × (Nat → Int) × (Nat → Int) × Bool × Int × Int × Int × Bool × Nat × (Nat → Int)) → Option ρ) (x : (Nat × Bool × Int × Nat × Int × Int × Bool × Nat × (Nat → Int) × (Nat → Int) × (Nat → Int) × Bool × Int × Int × Int × Bool × Nat × (Nat → Int)) → Option ρ) : (S_astrolabelaw5_VecMany_1 g_astrolabelaw5_awake g_vec_Add g___fx_Acc__Add  x0 x1 x2 x3 x4 x5 x6 x7 x8 x9 x10 x11 x12 x13 x14 x15 c x).bind q = S_astrolabelaw5_VecMany_1 g_astrolabelaw5_awake g_vec_Add g___fx_Acc__Add  x0 x1 x2 x3 x4 x5 x6 x7 x8 x9 x10 x11 x12 x13 x14 x15 (fun d => (c d).bind q) (fun d => (x d).bind q) := by
  simp only [S_astrolabelaw5_VecMany_1, bnd_cond, bnd_bind, bnd_none, bnd_sum]
def L_astrolabelaw5_VecMany_1 {ρ : Type} (d : Nat × Bool × Int × Nat × Int × Nat × (Nat → Int) × (Nat → Int) × (Nat → Int) × Bool × Int × Int × Int × Bool × Nat × (Nat → Int)) (k : (Nat × Bool × Int × Nat × Int × Int × Bool × Nat × (Nat → Int) × (Nat → Int) × (Nat → Int) × Bool × Int × Int × Int × Bool × Nat × (Nat → Int)) → Option ρ) : Option ρ := loopK (fun d c x => S_astrolabelaw5_VecMany_1 f_astrolabelaw5_awake f_vec_Add f___fx_Acc__Add  d.1 d.2.1 d.2.2.1 d.2.2.2.1 d.2.2.2.2.1 d.2.2.2.2.2.1 d.2.2.2.2.2.2.1 d.2.2.2.2.2.2.2.1 d.2.2.2.2.2.2.2.2.1 d.2.2.2.2.2.2.2.2.2.1 d.2.2.2.2.2.2.2.2.2.2.1 d.2.2.2.2.2.2.2.2.2.2.2.1 d.2.2.2.2.2.2.2.2.2.2.2.2.1 d.2.2.2.2.2.2.2.2.2.2.2.2.2.1 d.2.2.2.2.2.2.2.2.2.2.2.2.2.2.1 d.2.2.2.2.2.2.2.2.2.2.2.2.2.2.2 c x) 200 d k
theorem mL_astrolabelaw5_VecMany_1 {ρ σ : Type} (q : ρ → Option σ) (d : Nat × Bool × Int × Nat × Int × Nat × (Nat → Int) × (Nat → Int) × (Nat → Int) × Bool × Int × Int × Int × Bool × Nat × (Nat → Int)) (k : (Nat × Bool × Int × Nat × Int × Int × Bool × Nat × (Nat → Int) × (Nat → Int) × (Nat → Int) × Bool × Int × Int × Int × Bool × Nat × (Nat → Int)) → Option ρ) : (L_astrolabelaw5_VecMany_1 d k).bind q = L_astrolabelaw5_VecMany_1 d fun x => (k x).bind q :=
  loopK_bind q (fun d c x => ms_astrolabelaw5_VecMany_1 f_astrolabelaw5_awake f_vec_Add f___fx_Acc__Add   q d.1 d.2.1 d.2.2.1 d.2.2.2.1 d.2.2.2.2.1 d.2.2.2.2.2.1 d.2.2.2.2.2.2.1 d.2.2.2.2.2.2.2.1 d.2.2.2.2.2.2.2.2.1 d.2.2.2.2.2.2.2.2.2.1 d.2.2.2.2.2.2.2.2.2.2.1 d.2.2.2.2.2.2.2.2.2.2.2.1 d.2.2.2.2.2.2.2.2.2.2.2.2.1 d.2.2.2.2.2.2.2.2.2.2.2.2.2.1 d.2.2.2.2.2.2.2.2.2.2.2.2.2.2.1 d.2.2.2.2.2.2.2.2.2.2.2.2.2.2.2 c x) k _ d
def S_astrolabelaw5_VecMany_0 {ρ : Type} (g_astrolabelaw5_awake : Option Bool) (g_vec_Add : Nat → Bool → (Nat → Int) → (Nat → Int) → (Nat → Int) → Bool → Option (Int × Int × Int × Bool)) (g___fx_Acc__Add : Nat → Bool → (Nat → Int) → Bool → Option (Int × Bool)) (l_1 : ∀ {ρ : Type}, (Nat × Bool × Int × Nat × Int × Nat × (Nat → Int) × (Nat → Int) × (Nat → Int) × Bool × Int × Int × Int × Bool × Nat × (Nat → Int)) → ((Nat × Bool × Int × Nat × Int × Int × Bool × Nat × (Nat → Int) × (Nat → Int) × (Nat → Int) × Bool × Int × Int × Int × Bool × Nat × (Nat → Int)) → Option ρ) → Option ρ) (x0 : Nat) (x1 : Bool) (x2 : Int) (x3 : Nat) (x4 : Nat → Int) (x5 : Nat → Int) (x6 : Nat → Int) (x7 : Bool) (x8 : Int) (x9 : Int) (x10 : Int) (x11 : Bool) (c : (Nat × Bool × Int × Nat × (Nat → Int) × (Nat → Int) × (Nat → Int) × Bool × Int × Int × Int × Bool) → Option ρ) (x : (Nat × (Nat → Int) × (Nat → Int) × (Nat → Int) ⊕ Nat × Bool × Int × Bool × Nat × (Nat → Int) × (Nat → Int) × (Nat → Int) × Bool × Int × Int × Int × Bool) → Option ρ) : Option ρ :=
  bif decide (x2 < 3) then
    l_1 (x0, x1, x2, 0, 0, x3, x4, x5, x6, x7, x8, x9, x10, x11, 0, fun (x : Nat) => 0)
      fun (d : Nat × Bool × Int × Nat × Int × Int × Bool × Nat × (Nat → Int) × (Nat → Int) × (Nat → Int) × Bool × Int × Int × Int × Bool × Nat × (Nat → Int)) =>
      bif inR d.2.2.1 3 then
        bif d.2.2.1 == 2 then
          bif Nat.beq d.2.2.2.1 d.2.2.2.1 then
            Option.bind (g___fx_Acc__Add d.2.2.2.1 d.2.2.2.2.2.2.2.2.2.2.2.2.2.2.2.1 d.2.2.2.2.2.2.2.2.2.2.2.2.2.2.2.2.2 true)
              fun (d_1 : Int × Bool) =>
              bif d.2.2.2.2.2.2.2.2.2.2.2.2.2.2.1 != d_1.1 then
                x (Sum.inl (d.2.2.2.2.2.2.2.1, d.2.2.2.2.2.2.2.2.1, d.2.2.2.2.2.2.2.2.2.1, d.2.2.2.2.2.2.2.2.2.2.1))
              else
                c
                  (d.1, d.2.1, IntKind.wrap IntKind.i64 (d.2.2.1 + 1), d.2.2.2.2.2.2.2.1, d.2.2.2.2.2.2.2.2.1, d.2.2.2.2.2.2.2.2.2.1,
                    d.2.2.2.2.2.2.2.2.2.2.1, d.2.2.2.2.2.2.2.2.2.2.2.1, d.2.2.2.2.2.2.2.2.2.2.2.2.1,
                    d.2.2.2.2.2.2.2.2.2.2.2.2.2.1, d.2.2.2.2.2.2.2.2.2.2.2.2.2.2.1, d_1.2)
          else none
        else
          bif d.2.2.1 == 1 then
            bif Nat.beq d.2.2.2.1 d.2.2.2.1 then
              Option.bind (g___fx_Acc__Add d.2.2.2.1 d.2.2.2.2.2.2.2.2.2.2.2.2.2.2.2.1 d.2.2.2.2.2.2.2.2.2.2.2.2.2.2.2.2.2 true)
                fun (d_1 : Int × Bool) =>
                bif d.2.2.2.2.2.2.2.2.2.2.2.2.2.1 != d_1.1 then
                  x (Sum.inl (d.2.2.2.2.2.2.2.1, d.2.2.2.2.2.2.2.2.1, d.2.2.2.2.2.2.2.2.2.1, d.2.2.2.2.2.2.2.2.2.2.1))
                else
                  c
                    (d.1, d.2.1, IntKind.wrap IntKind.i64 (d.2.2.1 + 1), d.2.2.2.2.2.2.2.1, d.2.2.2.2.2.2.2.2.1, d.2.2.2.2.2.2.2.2.2.1,
                      d.2.2.2.2.2.2.2.2.2.2.1, d.2.2.2.2.2.2.2.2.2.2.2.1, d.2.2.2.2.2.2.2.2.2.2.2.2.1,
                      d.2.2.2.2.2.2.2.2.2.2.2.2.2.1, d.2.2.2.2.2.2.2.2.2.2.2.2.2.2.1, d_1.2)
            else none
          else
            bif Nat.beq d.2.2.2.1 d.2.2.2.1 then
              Option.bind (g___fx_Acc__Add d.2.2.2.1 d.2.2.2.2.2.2.2.2.2.2.2.2.2.2.2.1 d.2.2.2.2.2.2.2.2.2.2.2.2.2.2.2.2.2 true)
                fun (d_1 : Int × Bool) =>
                bif d.2.2.2.2.2.2.2.2.2.2.2.2.1 != d_1.1 then
                  x (Sum.inl (d.2.2.2.2.2.2.2.1, d.2.2.2.2.2.2.2.2.1, d.2.2.2.2.2.2.2.2.2.1, d.2.2.2.2.2.2.2.2.2.2.1))
                else
                  c
                    (d.1, d.2.1, IntKind.wrap IntKind.i64 (d.2.2.1 + 1), d.2.2.2.2.2.2.2.1, d.2.2.2.2.2.2.2.2.1, d.2.2.2.2.2.2.2.2.2.1,
                      d.2.2.2.2.2.2.2.2.2.2.1, d.2.2.2.2.2.2.2.2.2.2.2.1, d.2.2.2.2.2.2.2.2.2.2.2.2.1,
                      d.2.2.2.2.2.2.2.2.2.2.2.2.2.1, d.2.2.2.2.2.2.2.2.2.2.2.2.2.2.1, d_1.2)
            else none
      else none
  else x (Sum.inr (x0, x1, x2, decide (x2 < 3), x3, x4, x5, x6, x7, x8, x9, x10, x11))
section
open Go.Ab.Rdr
def Q_astrolabelaw5_VecMany_0 := (st (cons (ar (rc (csl (nat 0) (ok' (nat 0)) (szs hole) (nat 3) hole))) (cons aund (cons aund (cons (ar (rc (cptr (nat 1) (ok' (nat 0)) (nat 1)))) (cons (ar (rc (cptr (nat 2) (ok' (nat 0)) (nat 3)))) (cons (ar (rc (cptr (nat 3) (ok' (nat 0)) (nat 1)))) (cons (ar (rc (cf (fi .i64 hole)))) (cons aund (cons aund (cons aund (cons aund (cons aund (cons aund (cons aund (cons aund (cons aund (cons aund (cons aund (cons aund (cons aund (cons aund (cons aund (cons aund (cons aund (cons aund (cons aund (cons aund (cons aund (cons aund (cons aund (cons aund (cons aund (cons aund (cons aund (cons aund (cons aund (cons aund (cons aund (cons aund (cons aund (cons aund (cons aund (cons aund (cons aund (cons aund (cons aund (cons aund (cons aund (cons aund (cons aund (cons aund (cons aund (cons aund (cons aund (cons aund (cons aund (cons aund (cons aund nil)))))))))))))))))))))))))))))))))))))))))))))))))))))))))) (cons (some' (cons (ga (szs hole) (cons (ki .i64 hole) (cons (ki .i64 hole) (cons (ki .i64 hole) nil)))) nil)) (cons (some' (cons (gc (cf (fb hole))) nil)) (cons (some' (cons (gc (cf (fi .i64 hole))) (cons (gc (cf (fi .i64 hole))) (cons (gc (cf (fi .i64 hole))) nil)))) (cons (some' (cons (gc (cf (fb hole))) nil)) nil)))) nil)
end
theorem q_astrolabelaw5_VecMany_0 : ∀ b, (Q_astrolabelaw5_VecMany_0).em b = St.mk
    [AV.r (RV.c (CV.sl 0 (Off.k 0) (Sz.s b.1.1.2.2.1) 3 b.1.1.2.2.2.2)), AV.und, AV.und, AV.r (RV.c (CV.ptr 1 (Off.k 0) 1)), AV.r (RV.c (CV.ptr 2 (Off.k 0) 3)), AV.r (RV.c (CV.ptr 3 (Off.k 0) 1)),
      AV.r (RV.c (CV.f (FV.i IntKind.i64 b.1.2.2.2.2.2.2.1))), AV.und, AV.und, AV.und, AV.und, AV.und, AV.und, AV.und, AV.und, AV.und, AV.und, AV.und, AV.und, AV.und, AV.und, AV.und, AV.und, AV.und, AV.und, AV.und,
      AV.und, AV.und, AV.und, AV.und, AV.und, AV.und, AV.und, AV.und, AV.und, AV.und, AV.und, AV.und, AV.und, AV.und, AV.und, AV.und, AV.und, AV.und, AV.und, AV.und, AV.und, AV.und, AV.und, AV.und,
      AV.und, AV.und, AV.und, AV.und, AV.und, AV.und, AV.und, AV.und]
    [some [Sg.a (Sz.s b.2.1.1.1.1) [Col.i IntKind.i64 b.2.1.1.1.2.1, Col.i IntKind.i64 b.2.1.1.1.2.2.1, Col.i IntKind.i64 b.2.1.1.1.2.2.2.1]], some [Sg.c (CV.f (FV.b b.2.1.2.1.1))],
      some [Sg.c (CV.f (FV.i IntKind.i64 b.2.1.2.2.1.1)), Sg.c (CV.f (FV.i IntKind.i64 b.2.1.2.2.1.2.1)), Sg.c (CV.f (FV.i IntKind.i64 b.2.1.2.2.1.2.2.1))], some [Sg.c (CV.f (FV.b b.2.1.2.2.2.1.1))]]
    [] := fun b => by kernel_rfl
def R_astrolabelaw5_VecMany_0 (l : ∀ {ρ : Type}, (Nat × Bool × Int × Nat × (Nat → Int) × (Nat → Int) × (Nat → Int) × Bool × Int × Int × Int × Bool) → ((Nat × (Nat → Int) × (Nat → Int) × (Nat → Int) ⊕ Nat × Bool × Int × Bool × Nat × (Nat → Int) × (Nat → Int) × (Nat → Int) × Bool × Int × Int × Int × Bool) → Option ρ) → Option ρ) {ρ : Type} (s : St) (K : AX → St → Option ρ) : Option ρ := ((Q_astrolabelaw5_VecMany_0).rd s).bind fun b => l (b.1.1.2.2.1, b.1.1.2.2.2.2, b.1.2.2.2.2.2.2.1, b.2.1.1.1.1, b.2.1.1.1.2.1, b.2.1.1.1.2.2.1, b.2.1.1.1.2.2.2.1, b.2.1.2.1.1, b.2.1.2.2.1.1, b.2.1.2.2.1.2.1, b.2.1.2.2.1.2.2.1, b.2.1.2.2.2.1.1) (Sum.elim (fun d => K (AX.ret) (St.mk
  [AV.und, AV.und, AV.r (RV.c (CV.f (FV.b false))), AV.und, AV.und, AV.und, AV.und, AV.und, AV.und, AV.und, AV.und, AV.und, AV.und, AV.und, AV.und, AV.und, AV.und, AV.und, AV.und, AV.und, AV.und,
    AV.und, AV.und, AV.und, AV.und, AV.und, AV.und, AV.und, AV.und, AV.und, AV.und, AV.und, AV.und, AV.und, AV.und, AV.und, AV.und, AV.und, AV.und, AV.und, AV.und, AV.und, AV.und, AV.und, AV.und,
    AV.und, AV.und, AV.und, AV.und, AV.und, AV.und, AV.und, AV.und, AV.und, AV.und, AV.und, AV.und, AV.und]
  [some [Sg.a (Sz.s d.1) [Col.i IntKind.i64 d.2.1, Col.i IntKind.i64 d.2.2.1, Col.i IntKind.i64 d.2.2.2]]] [])) (fun d => K (AX.ex 0) (St.mk
  [AV.r (RV.c (CV.sl 0 (Off.k 0) (Sz.s d.1) 3 d.2.1)), AV.und, AV.und, AV.r (RV.c (CV.ptr 1 (Off.k 0) 1)), AV.r (RV.c (CV.ptr 2 (Off.k 0) 3)), AV.r (RV.c (CV.ptr 3 (Off.k 0) 1)),
    AV.r (RV.c (CV.f (FV.i IntKind.i64 d.2.2.1))), AV.und, AV.und, AV.und, AV.und, AV.und, AV.und, AV.und, AV.und, AV.und, AV.und, AV.und, AV.und, AV.und, AV.und, AV.und, AV.und,
    AV.r (RV.c (CV.f (FV.i IntKind.i64 d.2.2.1))), AV.r (RV.c (CV.f (FV.b d.2.2.2.1))), AV.und, AV.und, AV.und, AV.und, AV.und, AV.und, AV.und, AV.und, AV.und, AV.und, AV.und, AV.und,
    AV.und, AV.und, AV.und, AV.und, AV.und, AV.und, AV.und, AV.und, AV.und, AV.und, AV.und, AV.und, AV.und, AV.und, AV.und, AV.und, AV.und, AV.und, AV.und, AV.und, AV.und]
  [some [Sg.a (Sz.s d.2.2.2.2.1) [Col.i IntKind.i64 d.2.2.2.2.2.1, Col.i IntKind.i64 d.2.2.2.2.2.2.1, Col.i IntKind.i64 d.2.2.2.2.2.2.2.1]],
    some [Sg.c (CV.f (FV.b d.2.2.2.2.2.2.2.2.1))],
    some
      [Sg.c (CV.f (FV.i IntKind.i64 d.2.2.2.2.2.2.2.2.2.1)), Sg.c (CV.f (FV.i IntKind.i64 d.2.2.2.2.2.2.2.2.2.2.1)),
        Sg.c (CV.f (FV.i IntKind.i64 d.2.2.2.2.2.2.2.2.2.2.2.1))],
    some [Sg.c (CV.f (FV.b d.2.2.2.2.2.2.2.2.2.2.2.2))]]
  [])))
theorem ms_astrolabelaw5_VecMany_0 {ρ σ : Type} (g_astrolabelaw5_awake : Option Bool) (g_vec_Add : Nat → Bool → (Nat → Int) → (Nat → Int) → (Nat → Int) → Bool → Option (Int × Int × Int × Bool)) (g___fx_Acc__Add : Nat → Bool → (Nat → Int) → Bool → Option (Int × Bool)) (l_1 : ∀ {ρ : Type}, (Nat × Bool × Int × Nat × Int × Nat × (Nat → Int) × (Nat → Int) × (Nat → Int) × Bool × Int × Int × Int × Bool × Nat × (Nat → Int)) → ((Nat × Bool × Int × Nat × Int × Int × Bool × Nat × (Nat → Int) × (Nat → Int) × (Nat → Int) × Bool × Int × Int × Int × Bool × Nat × (Nat → Int)) → Option ρ) → Option ρ) (hl_1 : ∀ {ρ σ : Type} (q : ρ → Option σ) (d : Nat × Bool × Int × Nat × Int × Nat × (Nat → Int) × (Nat → Int) × (Nat → Int) × Bool × Int × Int × Int × Bool × Nat × (Nat → Int)) (k : (Nat × Bool × Int × Nat × Int × Int × Bool × Nat × (Nat → Int) × (Nat → Int) × (Nat → Int) × Bool × Int × Int × Int × Bool × Nat × (Nat → Int)) → Option ρ), (l_1 d k).bind q = l_1 d fun x => (k x).bind q) (q : ρ → Option σ) (x0 : Nat) (x1 : Bool) (x2 : Int) (x3 : Nat) (x4 : Nat → Int) (x5 : Nat → Int) (x6 : Nat → Int) (x7 : Bool) (x8 : Int) (x9 : Int) (x10 : Int) (x11 : Bool) (c : (Nat × Bool × Int × Nat × (Nat → Int) × (Nat → Int) × (Nat → Int) × Bool × Int × Int × Int × Bool) → Option ρ) (x : (Nat × (Nat → Int) × (Nat → Int) × (Nat → Int) ⊕ Nat × Bool × Int × Bool × Nat × (Nat → Int) × (Nat → Int) × (Nat → Int) × Bool × Int × Int × Int × Bool) → Option ρ) : (S_astrolabelaw5_VecMany_0 g_astrolabelaw5_awake g_vec_Add g___fx_Acc__Add (@l_1) x0 x1 x2 x3 x4 x5 x6 x7 x8 x9 x10 x11 c x).bind q = S_astrolabelaw5_VecMany_0 g_astrolabelaw5_awake g_vec_Add g___fx_Acc__Add (@l_1) x0 x1 x2 x3 x4 x5 x6 x7 x8 x9 x10 x11 (fun d => (c d).bind q) (fun d => (x d).bind q) := by
  simp only [S_astrolabelaw5_VecMany_0, bnd_cond, bnd_bind, bnd_none, bnd_sum, hl_1]
def L_astrolabelaw5_VecMany_0 {ρ : Type} (d : Nat × Bool × Int × Nat × (Nat → Int) × (Nat → Int) × (Nat → Int) × Bool × Int × Int × Int × Bool) (k : (Nat × (Nat → Int) × (Nat → Int) × (Nat → Int) ⊕ Nat × Bool × Int × Bool × Nat × (Nat → Int) × (Nat → Int) × (Nat → Int) × Bool × Int × Int × Int × Bool) → Option ρ) : Option ρ := loopK (fun d c x => S_astrolabelaw5_VecMany_0 f_astrolabelaw5_awake f_vec_Add f___fx_Acc__Add (@L_astrolabelaw5_VecMany_1) d.1 d.2.1 d.2.2.1 d.2.2.2.1 d.2.2.2.2.1 d.2.2.2.2.2.1 d.2.2.2.2.2.2.1 d.2.2.2.2.2.2.2.1 d.2.2.2.2.2.2.2.2.1 d.2.2.2.2.2.2.2.2.2.1 d.2.2.2.2.2.2.2.2.2.2.1 d.2.2.2.2.2.2.2.2.2.2.2 c x) 200 d k
theorem mL_astrolabelaw5_VecMany_0 {ρ σ : Type} (q : ρ → Option σ) (d : Nat × Bool × Int × Nat × (Nat → Int) × (Nat → Int) × (Nat → Int) × Bool × Int × Int × Int × Bool) (k : (Nat × (Nat → Int) × (Nat → Int) × (Nat → Int) ⊕ Nat × Bool × Int × Bool × Nat × (Nat → Int) × (Nat → Int) × (Nat → Int) × Bool × Int × Int × Int × Bool) → Option ρ) : (L_astrolabelaw5_VecMany_0 d k).bind q = L_astrolabelaw5_VecMany_0 d fun x => (k x).bind q :=
  loopK_bind q (fun d c x => ms_astrolabelaw5_VecMany_0 f_astrolabelaw5_awake f_vec_Add f___fx_Acc__Add (@L_astrolabelaw5_VecMany_1) (fun q d k => mL_astrolabelaw5_VecMany_1 q d k) q d.1 d.2.1 d.2.2.1 d.2.2.2.1 d.2.2.2.2.1 d.2.2.2.2.2.1 d.2.2.2.2.2.2.1 d.2.2.2.2.2.2.2.1 d.2.2.2.2.2.2.2.2.1 d.2.2.2.2.2.2.2.2.2.1 d.2.2.2.2.2.2.2.2.2.2.1 d.2.2.2.2.2.2.2.2.2.2.2 c x) k _ d
theorem ds_astrolabelaw5_VecMany_1 {ρ : Type} (g_astrolabelaw5_awake : Option Bool) (g_vec_Add : Nat → Bool → (Nat → Int) → (Nat → Int) → (Nat → Int) → Bool → Option (Int × Int × Int × Bool)) (g___fx_Acc__Add : Nat → Bool → (Nat → Int) → Bool → Option (Int × Bool)) (l_1 : ∀ {ρ : Type}, (Nat × Bool × Int × Nat × Int × Nat × (Nat → Int) × (Nat → Int) × (Nat → Int) × Bool × Int × Int × Int × Bool × Nat × (Nat → Int)) → ((Nat × Bool × Int × Nat × Int × Int × Bool × Nat × (Nat → Int) × (Nat → Int) × (Nat → Int) × Bool × Int × Int × Int × Bool × Nat × (Nat → Int)) → Option ρ) → Option ρ) (l_0 : ∀ {ρ : Type}, (Nat × Bool × Int × Nat × (Nat → Int) × (Nat → Int) × (Nat → Int) × Bool × Int × Int × Int × Bool) → ((Nat × (Nat → Int) × (Nat → Int) × (Nat → Int) ⊕ Nat × Bool × Int × Bool × Nat × (Nat → Int) × (Nat → Int) × (Nat → Int) × Bool × Int × Int × Int × Bool) → Option ρ) → Option ρ) (x0 : Nat) (x1 : Bool) (x2 : Int) (x3 : Nat) (x4 : Int) (x5 : Nat) (x6 : Nat → Int) (x7 : Nat → Int) (x8 : Nat → Int) (x9 : Bool) (x10 : Int) (x11 : Int) (x12 : Int) (x13 : Bool) (x14 : Nat) (x15 : Nat → Int) (c : St → Option ρ) (K : AX → St → Option ρ) :
    runC Try.prog (envOf [(30, F_astrolabelaw5_awake g_astrolabelaw5_awake), (31, F_vec_Add g_vec_Add), (45, F___fx_Acc__Add g___fx_Acc__Add)]) ⟨[⟨9, [1, 2, 7, 8, 9, 10, 11, 12, 13, 14, 15, 16, 17, 18, 19, 20, 21, 22, 23, 24, 25, 26, 27, 28, 29, 30, 31, 32, 33, 34, 35, 36, 37, 38, 39, 40, 41, 42, 43, 44, 45, 46, 47, 48, 49, 50, 51, 52, 53, 54, 55, 56, 57], []⟩, ⟨13, [1, 2, 9, 10, 11, 12, 13, 14, 15, 16, 17, 18, 19, 20, 21, 22, 23, 24, 25, 26, 27, 28, 29, 30, 31, 32, 33, 34, 35, 36, 37, 38, 39, 40, 41, 42, 43, 44, 45, 46, 47, 48, 49, 50, 51, 52, 53, 54, 55, 56, 57], [(7, [.i .i64])]⟩], [⟨13, 1, @R_astrolabelaw5_VecMany_1 (@l_1)⟩, ⟨9, 1, @R_astrolabelaw5_VecMany_0 (@l_0)⟩], [], [], (some ⟨0, [0, 1, 3, 4, 5, 6, 7, 8, 9, 10, 11, 12, 13, 14, 15, 16, 17, 18, 19, 20, 21, 22, 23, 24, 25, 26, 27, 28, 29, 30, 31, 32, 33, 34, 35, 36, 37, 38, 39, 40, 41, 42, 43, 44, 45, 46, 47, 48, 49, 50, 51, 52, 53, 54, 55, 56, 57], []⟩)⟩ (tmpsOf Try.prog 12) 1 200 (loopIn Try.prog 12 13)
      (St.mk
    [AV.r (RV.c (CV.sl 0 (Off.k 0) (Sz.s x0) 3 x1)), AV.und, AV.und, AV.r (RV.c (CV.ptr 1 (Off.k 0) 1)), AV.r (RV.c (CV.ptr 2 (Off.k 0) 3)), AV.r (RV.c (CV.ptr 3 (Off.k 0) 1)),
      AV.r (RV.c (CV.f (FV.i IntKind.i64 x2))), AV.r (RV.c (CV.sl 4 (Off.k 0) (Sz.s x3) 1 true)), AV.r (RV.c (CV.f (FV.i IntKind.i64 x4))), AV.und, AV.und, AV.und, AV.und, AV.und, AV.und, AV.und,
      AV.und, AV.und, AV.und, AV.und, AV.und, AV.und, AV.und, AV.und, AV.und, AV.und, AV.und, AV.und, AV.und, AV.und, AV.und, AV.und, AV.und, AV.und, AV.und, AV.und, AV.und, AV.und, AV.und, AV.und,
      AV.und, AV.und, AV.und, AV.und, AV.und, AV.und, AV.und, AV.und, AV.und, AV.und, AV.und, AV.und, AV.und, AV.und, AV.und, AV.und, AV.und, AV.und]
    [some [Sg.a (Sz.s x5) [Col.i IntKind.i64 x6, Col.i IntKind.i64 x7, Col.i IntKind.i64 x8]], some [Sg.c (CV.f (FV.b x9))],
      some [Sg.c (CV.f (FV.i IntKind.i64 x10)), Sg.c (CV.f (FV.i IntKind.i64 x11)), Sg.c (CV.f (FV.i IntKind.i64 x12))], some [Sg.c (CV.f (FV.b x13))], some [Sg.a (Sz.s x14) [Col.i IntKind.i64 x15]]]
    [])
      (next (fun t => t.head 1 ⟨[⟨9, [1, 2, 7, 8, 9, 10, 11, 12, 13, 14, 15, 16, 17, 18, 19, 20, 21, 22, 23, 24, 25, 26, 27, 28, 29, 30, 31, 32, 33, 34, 35, 36, 37, 38, 39, 40, 41, 42, 43, 44, 45, 46, 47, 48, 49, 50, 51, 52, 53, 54, 55, 56, 57], []⟩, ⟨13, [1, 2, 9, 10, 11, 12, 13, 14, 15, 16, 17, 18, 19, 20, 21, 22, 23, 24, 25, 26, 27, 28, 29, 30, 31, 32, 33, 34, 35, 36, 37, 38, 39, 40, 41, 42, 43, 44, 45, 46, 47, 48, 49, 50, 51, 52, 53, 54, 55, 56, 57], [(7, [.i .i64])]⟩], [⟨13, 1, @R_astrolabelaw5_VecMany_1 (@l_1)⟩, ⟨9, 1, @R_astrolabelaw5_VecMany_0 (@l_0)⟩], [], [], (some ⟨0, [0, 1, 3, 4, 5, 6, 7, 8, 9, 10, 11, 12, 13, 14, 15, 16, 17, 18, 19, 20, 21, 22, 23, 24, 25, 26, 27, 28, 29, 30, 31, 32, 33, 34, 35, 36, 37, 38, 39, 40, 41, 42, 43, 44, 45, 46, 47, 48, 49, 50, 51, 52, 53, 54, 55, 56, 57], []⟩)⟩ (loopIn Try.prog 12 13)) c K) =
    S_astrolabelaw5_VecMany_1 g_astrolabelaw5_awake g_vec_Add g___fx_Acc__Add  x0 x1 x2 x3 x4 x5 x6 x7 x8 x9 x10 x11 x12 x13 x14 x15 (fun d => c (St.mk
  [AV.r (RV.c (CV.sl 0 (Off.k 0) (Sz.s d.1) 3 d.2.1)), AV.und, AV.und, AV.r (RV.c (CV.ptr 1 (Off.k 0) 1)), AV.r (RV.c (CV.ptr 2 (Off.k 0) 3)), AV.r (RV.c (CV.ptr 3 (Off.k 0) 1)),
    AV.r (RV.c (CV.f (FV.i IntKind.i64 d.2.2.1))), AV.r (RV.c (CV.sl 4 (Off.k 0) (Sz.s d.2.2.2.1) 1 true)), AV.r (RV.c (CV.f (FV.i IntKind.i64 d.2.2.2.2.1))), AV.und, AV.und,
    AV.und, AV.und, AV.und, AV.und, AV.und, AV.und, AV.und, AV.und, AV.und, AV.und, AV.und, AV.und, AV.und, AV.und, AV.und, AV.und, AV.und, AV.und, AV.und, AV.und, AV.und, AV.und, AV.und, AV.und,
    AV.und, AV.und, AV.und, AV.und, AV.und, AV.und, AV.und, AV.und, AV.und, AV.und, AV.und, AV.und, AV.und, AV.und, AV.und, AV.und, AV.und, AV.und, AV.und, AV.und, AV.und, AV.und, AV.und]
  [some
      [Sg.a (Sz.s d.2.2.2.2.2.1)
          [Col.i IntKind.i64 d.2.2.2.2.2.2.1, Col.i IntKind.i64 d.2.2.2.2.2.2.2.1, Col.i IntKind.i64 d.2.2.2.2.2.2.2.2.1]],
    some [Sg.c (CV.f (FV.b d.2.2.2.2.2.2.2.2.2.1))],
    some
      [Sg.c (CV.f (FV.i IntKind.i64 d.2.2.2.2.2.2.2.2.2.2.1)), Sg.c (CV.f (FV.i IntKind.i64 d.2.2.2.2.2.2.2.2.2.2.2.1)),
        Sg.c (CV.f (FV.i IntKind.i64 d.2.2.2.2.2.2.2.2.2.2.2.2.1))],
    some [Sg.c (CV.f (FV.b d.2.2.2.2.2.2.2.2.2.2.2.2.2.1))],
    some [Sg.a (Sz.s d.2.2.2.2.2.2.2.2.2.2.2.2.2.2.1) [Col.i IntKind.i64 d.2.2.2.2.2.2.2.2.2.2.2.2.2.2.2]]]
  [])) (fun d => K (AX.ex 2) (St.mk
  [AV.r (RV.c (CV.sl 0 (Off.k 0) (Sz.s d.1) 3 d.2.1)), AV.und, AV.und, AV.r (RV.c (CV.ptr 1 (Off.k 0) 1)), AV.r (RV.c (CV.ptr 2 (Off.k 0) 3)), AV.r (RV.c (CV.ptr 3 (Off.k 0) 1)),
    AV.r (RV.c (CV.f (FV.i IntKind.i64 d.2.2.1))), AV.r (RV.c (CV.sl 4 (Off.k 0) (Sz.s d.2.2.2.1) 1 true)), AV.r (RV.c (CV.f (FV.i IntKind.i64 d.2.2.2.2.1))), AV.und, AV.und,
    AV.und, AV.und, AV.und, AV.und, AV.und, AV.und, AV.und, AV.und, AV.und, AV.und, AV.und, AV.und, AV.und, AV.und, AV.und, AV.und, AV.r (RV.c (CV.f (FV.i IntKind.i64 d.2.2.2.2.1))),
    AV.r (RV.c (CV.sl 0 (Off.k 0) (Sz.s d.1) 3 d.2.1)), AV.r (RV.c (CV.f (FV.i IntKind.i64 d.2.2.2.2.2.1))), AV.r (RV.c (CV.f (FV.b d.2.2.2.2.2.2.1))), AV.und, AV.und,
    AV.und, AV.und, AV.und, AV.und, AV.und, AV.und, AV.und, AV.und, AV.und, AV.und, AV.und, AV.und, AV.und, AV.und, AV.und, AV.und, AV.und, AV.und, AV.und, AV.und, AV.und, AV.und, AV.und, AV.und,
    AV.und]
  [some
      [Sg.a (Sz.s d.2.2.2.2.2.2.2.1)
          [Col.i IntKind.i64 d.2.2.2.2.2.2.2.2.1, Col.i IntKind.i64 d.2.2.2.2.2.2.2.2.2.1, Col.i IntKind.i64 d.2.2.2.2.2.2.2.2.2.2.1]],
    some [Sg.c (CV.f (FV.b d.2.2.2.2.2.2.2.2.2.2.2.1))],
    some
      [Sg.c (CV.f (FV.i IntKind.i64 d.2.2.2.2.2.2.2.2.2.2.2.2.1)), Sg.c (CV.f (FV.i IntKind.i64 d.2.2.2.2.2.2.2.2.2.2.2.2.2.1)),
        Sg.c (CV.f (FV.i IntKind.i64 d.2.2.2.2.2.2.2.2.2.2.2.2.2.2.1))],
    some [Sg.c (CV.f (FV.b d.2.2.2.2.2.2.2.2.2.2.2.2.2.2.2.1))],
    some [Sg.a (Sz.s d.2.2.2.2.2.2.2.2.2.2.2.2.2.2.2.2.1) [Col.i IntKind.i64 d.2.2.2.2.2.2.2.2.2.2.2.2.2.2.2.2.2]]]
  [])) := by kernel_rfl
theorem it_astrolabelaw5_VecMany_1 {ρ : Type} (x0 : Nat) (x1 : Bool) (x2 : Int) (x3 : Nat) (x4 : Int) (x5 : Nat) (x6 : Nat → Int) (x7 : Nat → Int) (x8 : Nat → Int) (x9 : Bool) (x10 : Int) (x11 : Int) (x12 : Int) (x13 : Bool) (x14 : Nat) (x15 : Nat → Int) (K : AX → St → Option ρ) :
    iter (fun t => t.head 1 ⟨[⟨9, [1, 2, 7, 8, 9, 10, 11, 12, 13, 14, 15, 16, 17, 18, 19, 20, 21, 22, 23, 24, 25, 26, 27, 28, 29, 30, 31, 32, 33, 34, 35, 36, 37, 38, 39, 40, 41, 42, 43, 44, 45, 46, 47, 48, 49, 50, 51, 52, 53, 54, 55, 56, 57], []⟩, ⟨13, [1, 2, 9, 10, 11, 12, 13, 14, 15, 16, 17, 18, 19, 20, 21, 22, 23, 24, 25, 26, 27, 28, 29, 30, 31, 32, 33, 34, 35, 36, 37, 38, 39, 40, 41, 42, 43, 44, 45, 46, 47, 48, 49, 50, 51, 52, 53, 54, 55, 56, 57], [(7, [.i .i64])]⟩], [⟨13, 1, @R_astrolabelaw5_VecMany_1 (@L_astrolabelaw5_VecMany_1)⟩, ⟨9, 1, @R_astrolabelaw5_VecMany_0 (@L_astrolabelaw5_VecMany_0)⟩], [], [], (some ⟨0, [0, 1, 3, 4, 5, 6, 7, 8, 9, 10, 11, 12, 13, 14, 15, 16, 17, 18, 19, 20, 21, 22, 23, 24, 25, 26, 27, 28, 29, 30, 31, 32, 33, 34, 35, 36, 37, 38, 39, 40, 41, 42, 43, 44, 45, 46, 47, 48, 49, 50, 51, 52, 53, 54, 55, 56, 57], []⟩)⟩ (loopIn Try.prog 12 13)) (runC Try.prog (envOf [(30, F_astrolabelaw5_awake f_astrolabelaw5_awake), (31, F_vec_Add f_vec_Add), (45, F___fx_Acc__Add f___fx_Acc__Add)]) ⟨[⟨9, [1, 2, 7, 8, 9, 10, 11, 12, 13, 14, 15, 16, 17, 18, 19, 20, 21, 22, 23, 24, 25, 26, 27, 28, 29, 30, 31, 32, 33, 34, 35, 36, 37, 38, 39, 40, 41, 42, 43, 44, 45, 46, 47, 48, 49, 50, 51, 52, 53, 54, 55, 56, 57], []⟩, ⟨13, [1, 2, 9, 10, 11, 12, 13, 14, 15, 16, 17, 18, 19, 20, 21, 22, 23, 24, 25, 26, 27, 28, 29, 30, 31, 32, 33, 34, 35, 36, 37, 38, 39, 40, 41, 42, 43, 44, 45, 46, 47, 48, 49, 50, 51, 52, 53, 54, 55, 56, 57], [(7, [.i .i64])]⟩], [⟨13, 1, @R_astrolabelaw5_VecMany_1 (@L_astrolabelaw5_VecMany_1)⟩, ⟨9, 1, @R_astrolabelaw5_VecMany_0 (@L_astrolabelaw5_VecMany_0)⟩], [], [], (some ⟨0, [0, 1, 3, 4, 5, 6, 7, 8, 9, 10, 11, 12, 13, 14, 15, 16, 17, 18, 19, 20, 21, 22, 23, 24, 25, 26, 27, 28, 29, 30, 31, 32, 33, 34, 35, 36, 37, 38, 39, 40, 41, 42, 43, 44, 45, 46, 47, 48, 49, 50, 51, 52, 53, 54, 55, 56, 57], []⟩)⟩ (tmpsOf Try.prog 12) 1 200 (loopIn Try.prog 12 13)) K 200
      (St.mk
    [AV.r (RV.c (CV.sl 0 (Off.k 0) (Sz.s x0) 3 x1)), AV.und, AV.und, AV.r (RV.c (CV.ptr 1 (Off.k 0) 1)), AV.r (RV.c (CV.ptr 2 (Off.k 0) 3)), AV.r (RV.c (CV.ptr 3 (Off.k 0) 1)),
      AV.r (RV.c (CV.f (FV.i IntKind.i64 x2))), AV.r (RV.c (CV.sl 4 (Off.k 0) (Sz.s x3) 1 true)), AV.r (RV.c (CV.f (FV.i IntKind.i64 x4))), AV.und, AV.und, AV.und, AV.und, AV.und, AV.und, AV.und,
      AV.und, AV.und, AV.und, AV.und, AV.und, AV.und, AV.und, AV.und, AV.und, AV.und, AV.und, AV.und, AV.und, AV.und, AV.und, AV.und, AV.und, AV.und, AV.und, AV.und, AV.und, AV.und, AV.und, AV.und,
      AV.und, AV.und, AV.und, AV.und, AV.und, AV.und, AV.und, AV.und, AV.und, AV.und, AV.und, AV.und, AV.und, AV.und, AV.und, AV.und, AV.und, AV.und]
    [some [Sg.a (Sz.s x5) [Col.i IntKind.i64 x6, Col.i IntKind.i64 x7, Col.i IntKind.i64 x8]], some [Sg.c (CV.f (FV.b x9))],
      some [Sg.c (CV.f (FV.i IntKind.i64 x10)), Sg.c (CV.f (FV.i IntKind.i64 x11)), Sg.c (CV.f (FV.i IntKind.i64 x12))], some [Sg.c (CV.f (FV.b x13))], some [Sg.a (Sz.s x14) [Col.i IntKind.i64 x15]]]
    []) = L_astrolabelaw5_VecMany_1 (x0, x1, x2, x3, x4, x5, x6, x7, x8, x9, x10, x11, x12, x13, x14, x15) (fun d => K (AX.ex 2) (St.mk
  [AV.r (RV.c (CV.sl 0 (Off.k 0) (Sz.s d.1) 3 d.2.1)), AV.und, AV.und, AV.r (RV.c (CV.ptr 1 (Off.k 0) 1)), AV.r (RV.c (CV.ptr 2 (Off.k 0) 3)), AV.r (RV.c (CV.ptr 3 (Off.k 0) 1)),
    AV.r (RV.c (CV.f (FV.i IntKind.i64 d.2.2.1))), AV.r (RV.c (CV.sl 4 (Off.k 0) (Sz.s d.2.2.2.1) 1 true)), AV.r (RV.c (CV.f (FV.i IntKind.i64 d.2.2.2.2.1))), AV.und, AV.und,
    AV.und, AV.und, AV.und, AV.und, AV.und, AV.und, AV.und, AV.und, AV.und, AV.und, AV.und, AV.und, AV.und, AV.und, AV.und, AV.und, AV.r (RV.c (CV.f (FV.i IntKind.i64 d.2.2.2.2.1))),
    AV.r (RV.c (CV.sl 0 (Off.k 0) (Sz.s d.1) 3 d.2.1)), AV.r (RV.c (CV.f (FV.i IntKind.i64 d.2.2.2.2.2.1))), AV.r (RV.c (CV.f (FV.b d.2.2.2.2.2.2.1))), AV.und, AV.und,
    AV.und, AV.und, AV.und, AV.und, AV.und, AV.und, AV.und, AV.und, AV.und, AV.und, AV.und, AV.und, AV.und, AV.und, AV.und, AV.und, AV.und, AV.und, AV.und, AV.und, AV.und, AV.und, AV.und, AV.und,
    AV.und]
  [some
      [Sg.a (Sz.s d.2.2.2.2.2.2.2.1)
          [Col.i IntKind.i64 d.2.2.2.2.2.2.2.2.1, Col.i IntKind.i64 d.2.2.2.2.2.2.2.2.2.1, Col.i IntKind.i64 d.2.2.2.2.2.2.2.2.2.2.1]],
    some [Sg.c (CV.f (FV.b d.2.2.2.2.2.2.2.2.2.2.2.1))],
    some
      [Sg.c (CV.f (FV.i IntKind.i64 d.2.2.2.2.2.2.2.2.2.2.2.2.1)), Sg.c (CV.f (FV.i IntKind.i64 d.2.2.2.2.2.2.2.2.2.2.2.2.2.1)),
        Sg.c (CV.f (FV.i IntKind.i64 d.2.2.2.2.2.2.2.2.2.2.2.2.2.2.1))],
    some [Sg.c (CV.f (FV.b d.2.2.2.2.2.2.2.2.2.2.2.2.2.2.2.1))],
    some [Sg.a (Sz.s d.2.2.2.2.2.2.2.2.2.2.2.2.2.2.2.2.1) [Col.i IntKind.i64 d.2.2.2.2.2.2.2.2.2.2.2.2.2.2.2.2.2]]]
  [])) :=
  iter_loopX (emb := fun (d : Nat × Bool × Int × Nat × Int × Nat × (Nat → Int) × (Nat → Int) × (Nat → Int) × Bool × Int × Int × Int × Bool × Nat × (Nat → Int)) => St.mk
  [AV.r (RV.c (CV.sl 0 (Off.k 0) (Sz.s d.1) 3 d.2.1)), AV.und, AV.und, AV.r (RV.c (CV.ptr 1 (Off.k 0) 1)), AV.r (RV.c (CV.ptr 2 (Off.k 0) 3)), AV.r (RV.c (CV.ptr 3 (Off.k 0) 1)),
    AV.r (RV.c (CV.f (FV.i IntKind.i64 d.2.2.1))), AV.r (RV.c (CV.sl 4 (Off.k 0) (Sz.s d.2.2.2.1) 1 true)), AV.r (RV.c (CV.f (FV.i IntKind.i64 d.2.2.2.2.1))), AV.und, AV.und,
    AV.und, AV.und, AV.und, AV.und, AV.und, AV.und, AV.und, AV.und, AV.und, AV.und, AV.und, AV.und, AV.und, AV.und, AV.und, AV.und, AV.und, AV.und, AV.und, AV.und, AV.und, AV.und, AV.und, AV.und,
    AV.und, AV.und, AV.und, AV.und, AV.und, AV.und, AV.und, AV.und, AV.und, AV.und, AV.und, AV.und, AV.und, AV.und, AV.und, AV.und, AV.und, AV.und, AV.und, AV.und, AV.und, AV.und, AV.und]
  [some
      [Sg.a (Sz.s d.2.2.2.2.2.1)
          [Col.i IntKind.i64 d.2.2.2.2.2.2.1, Col.i IntKind.i64 d.2.2.2.2.2.2.2.1, Col.i IntKind.i64 d.2.2.2.2.2.2.2.2.1]],
    some [Sg.c (CV.f (FV.b d.2.2.2.2.2.2.2.2.2.1))],
    some
      [Sg.c (CV.f (FV.i IntKind.i64 d.2.2.2.2.2.2.2.2.2.2.1)), Sg.c (CV.f (FV.i IntKind.i64 d.2.2.2.2.2.2.2.2.2.2.2.1)),
        Sg.c (CV.f (FV.i IntKind.i64 d.2.2.2.2.2.2.2.2.2.2.2.2.1))],
    some [Sg.c (CV.f (FV.b d.2.2.2.2.2.2.2.2.2.2.2.2.2.1))],
    some [Sg.a (Sz.s d.2.2.2.2.2.2.2.2.2.2.2.2.2.2.1) [Col.i IntKind.i64 d.2.2.2.2.2.2.2.2.2.2.2.2.2.2.2]]]
  []) (step := fun d c x => S_astrolabelaw5_VecMany_1 f_astrolabelaw5_awake f_vec_Add f___fx_Acc__Add  d.1 d.2.1 d.2.2.1 d.2.2.2.1 d.2.2.2.2.1 d.2.2.2.2.2.1 d.2.2.2.2.2.2.1 d.2.2.2.2.2.2.2.1 d.2.2.2.2.2.2.2.2.1 d.2.2.2.2.2.2.2.2.2.1 d.2.2.2.2.2.2.2.2.2.2.1 d.2.2.2.2.2.2.2.2.2.2.2.1 d.2.2.2.2.2.2.2.2.2.2.2.2.1 d.2.2.2.2.2.2.2.2.2.2.2.2.2.1 d.2.2.2.2.2.2.2.2.2.2.2.2.2.2.1 d.2.2.2.2.2.2.2.2.2.2.2.2.2.2.2 c x) (kx := (fun d => K (AX.ex 2) (St.mk
  [AV.r (RV.c (CV.sl 0 (Off.k 0) (Sz.s d.1) 3 d.2.1)), AV.und, AV.und, AV.r (RV.c (CV.ptr 1 (Off.k 0) 1)), AV.r (RV.c (CV.ptr 2 (Off.k 0) 3)), AV.r (RV.c (CV.ptr 3 (Off.k 0) 1)),
    AV.r (RV.c (CV.f (FV.i IntKind.i64 d.2.2.1))), AV.r (RV.c (CV.sl 4 (Off.k 0) (Sz.s d.2.2.2.1) 1 true)), AV.r (RV.c (CV.f (FV.i IntKind.i64 d.2.2.2.2.1))), AV.und, AV.und,
    AV.und, AV.und, AV.und, AV.und, AV.und, AV.und, AV.und, AV.und, AV.und, AV.und, AV.und, AV.und, AV.und, AV.und, AV.und, AV.und, AV.r (RV.c (CV.f (FV.i IntKind.i64 d.2.2.2.2.1))),
    AV.r (RV.c (CV.sl 0 (Off.k 0) (Sz.s d.1) 3 d.2.1)), AV.r (RV.c (CV.f (FV.i IntKind.i64 d.2.2.2.2.2.1))), AV.r (RV.c (CV.f (FV.b d.2.2.2.2.2.2.1))), AV.und, AV.und,
    AV.und, AV.und, AV.und, AV.und, AV.und, AV.und, AV.und, AV.und, AV.und, AV.und, AV.und, AV.und, AV.und, AV.und, AV.und, AV.und, AV.und, AV.und, AV.und, AV.und, AV.und, AV.und, AV.und, AV.und,
    AV.und]
  [some
      [Sg.a (Sz.s d.2.2.2.2.2.2.2.1)
          [Col.i IntKind.i64 d.2.2.2.2.2.2.2.2.1, Col.i IntKind.i64 d.2.2.2.2.2.2.2.2.2.1, Col.i IntKind.i64 d.2.2.2.2.2.2.2.2.2.2.1]],
    some [Sg.c (CV.f (FV.b d.2.2.2.2.2.2.2.2.2.2.2.1))],
    some
      [Sg.c (CV.f (FV.i IntKind.i64 d.2.2.2.2.2.2.2.2.2.2.2.2.1)), Sg.c (CV.f (FV.i IntKind.i64 d.2.2.2.2.2.2.2.2.2.2.2.2.2.1)),
        Sg.c (CV.f (FV.i IntKind.i64 d.2.2.2.2.2.2.2.2.2.2.2.2.2.2.1))],
    some [Sg.c (CV.f (FV.b d.2.2.2.2.2.2.2.2.2.2.2.2.2.2.2.1))],
    some [Sg.a (Sz.s d.2.2.2.2.2.2.2.2.2.2.2.2.2.2.2.2.1) [Col.i IntKind.i64 d.2.2.2.2.2.2.2.2.2.2.2.2.2.2.2.2.2]]]
  [])))
    (fun d c => ds_astrolabelaw5_VecMany_1 f_astrolabelaw5_awake f_vec_Add f___fx_Acc__Add (@L_astrolabelaw5_VecMany_1) (@L_astrolabelaw5_VecMany_0) d.1 d.2.1 d.2.2.1 d.2.2.2.1 d.2.2.2.2.1 d.2.2.2.2.2.1 d.2.2.2.2.2.2.1 d.2.2.2.2.2.2.2.1 d.2.2.2.2.2.2.2.2.1 d.2.2.2.2.2.2.2.2.2.1 d.2.2.2.2.2.2.2.2.2.2.1 d.2.2.2.2.2.2.2.2.2.2.2.1 d.2.2.2.2.2.2.2.2.2.2.2.2.1 d.2.2.2.2.2.2.2.2.2.2.2.2.2.1 d.2.2.2.2.2.2.2.2.2.2.2.2.2.2.1 d.2.2.2.2.2.2.2.2.2.2.2.2.2.2.2 c K) 200 (x0, x1, x2, x3, x4, x5, x6, x7, x8, x9, x10, x11, x12, x13, x14, x15)
theorem so_astrolabelaw5_VecMany_1 : ∀ kk, SumOK Try.prog (envOf [(30, F_astrolabelaw5_awake f_astrolabelaw5_awake), (31, F_vec_Add f_vec_Add), (45, F___fx_Acc__Add f___fx_Acc__Add)]) ⟨[⟨9, [1, 2, 7, 8, 9, 10, 11, 12, 13, 14, 15, 16, 17, 18, 19, 20, 21, 22, 23, 24, 25, 26, 27, 28, 29, 30, 31, 32, 33, 34, 35, 36, 37, 38, 39, 40, 41, 42, 43, 44, 45, 46, 47, 48, 49, 50, 51, 52, 53, 54, 55, 56, 57], []⟩, ⟨13, [1, 2, 9, 10, 11, 12, 13, 14, 15, 16, 17, 18, 19, 20, 21, 22, 23, 24, 25, 26, 27, 28, 29, 30, 31, 32, 33, 34, 35, 36, 37, 38, 39, 40, 41, 42, 43, 44, 45, 46, 47, 48, 49, 50, 51, 52, 53, 54, 55, 56, 57], [(7, [.i .i64])]⟩], [⟨13, 1, @R_astrolabelaw5_VecMany_1 (@L_astrolabelaw5_VecMany_1)⟩, ⟨9, 1, @R_astrolabelaw5_VecMany_0 (@L_astrolabelaw5_VecMany_0)⟩], [], [], (some ⟨0, [0, 1, 3, 4, 5, 6, 7, 8, 9, 10, 11, 12, 13, 14, 15, 16, 17, 18, 19, 20, 21, 22, 23, 24, 25, 26, 27, 28, 29, 30, 31, 32, 33, 34, 35, 36, 37, 38, 39, 40, 41, 42, 43, 44, 45, 46, 47, 48, 49, 50, 51, 52, 53, 54, 55, 56, 57], []⟩)⟩ (tmpsOf Try.prog 12) kk 200 (loopIn Try.prog 12 13) :=
  SumOK.of (id := 13) (k0 := 1) (run := @R_astrolabelaw5_VecMany_1 (@L_astrolabelaw5_VecMany_1)) (by kernel_rfl) fun s K r hr => by
    unfold R_astrolabelaw5_VecMany_1 at hr
    obtain ⟨b, hb, hr1⟩ := Option.bind_eq_some_iff.1 hr
    have e := ((Q_astrolabelaw5_VecMany_1).ok s b hb).trans (q_astrolabelaw5_VecMany_1 b)
    subst e
    exact ⟨200, (it_astrolabelaw5_VecMany_1 b.1.1.2.2.1 b.1.1.2.2.2.2 b.1.2.2.2.2.2.2.1 b.1.2.2.2.2.2.2.2.1.2.2.1 b.1.2.2.2.2.2.2.2.2.1 b.2.1.1.1.1 b.2.1.1.1.2.1 b.2.1.1.1.2.2.1 b.2.1.1.1.2.2.2.1 b.2.1.2.1.1 b.2.1.2.2.1.1 b.2.1.2.2.1.2.1 b.2.1.2.2.1.2.2.1 b.2.1.2.2.2.1.1 b.2.1.2.2.2.2.1.1.1 b.2.1.2.2.2.2.1.1.2.1 K).trans hr1⟩
theorem ds_astrolabelaw5_VecMany_0 {ρ : Type} (g_astrolabelaw5_awake : Option Bool) (g_vec_Add : Nat → Bool → (Nat → Int) → (Nat → Int) → (Nat → Int) → Bool → Option (Int × Int × Int × Bool)) (g___fx_Acc__Add : Nat → Bool → (Nat → Int) → Bool → Option (Int × Bool)) (l_1 : ∀ {ρ : Type}, (Nat × Bool × Int × Nat × Int × Nat × (Nat → Int) × (Nat → Int) × (Nat → Int) × Bool × Int × Int × Int × Bool × Nat × (Nat → Int)) → ((Nat × Bool × Int × Nat × Int × Int × Bool × Nat × (Nat → Int) × (Nat → Int) × (Nat → Int) × Bool × Int × Int × Int × Bool × Nat × (Nat → Int)) → Option ρ) → Option ρ) (l_0 : ∀ {ρ : Type}, (Nat × Bool × Int × Nat × (Nat → Int) × (Nat → Int) × (Nat → Int) × Bool × Int × Int × Int × Bool) → ((Nat × (Nat → Int) × (Nat → Int) × (Nat → Int) ⊕ Nat × Bool × Int × Bool × Nat × (Nat → Int) × (Nat → Int) × (Nat → Int) × Bool × Int × Int × Int × Bool) → Option ρ) → Option ρ) (x0 : Nat) (x1 : Bool) (x2 : Int) (x3 : Nat) (x4 : Nat → Int) (x5 : Nat → Int) (x6 : Nat → Int) (x7 : Bool) (x8 : Int) (x9 : Int) (x10 : Int) (x11 : Bool) (c : St → Option ρ) (K : AX → St → Option ρ) :
    runC Try.prog (envOf [(30, F_astrolabelaw5_awake g_astrolabelaw5_awake), (31, F_vec_Add g_vec_Add), (45, F___fx_Acc__Add g___fx_Acc__Add)]) ⟨[⟨9, [1, 2, 7, 8, 9, 10, 11, 12, 13, 14, 15, 16, 17, 18, 19, 20, 21, 22, 23, 24, 25, 26, 27, 28, 29, 30, 31, 32, 33, 34, 35, 36, 37, 38, 39, 40, 41, 42, 43, 44, 45, 46, 47, 48, 49, 50, 51, 52, 53, 54, 55, 56, 57], []⟩, ⟨13, [1, 2, 9, 10, 11, 12, 13, 14, 15, 16, 17, 18, 19, 20, 21, 22, 23, 24, 25, 26, 27, 28, 29, 30, 31, 32, 33, 34, 35, 36, 37, 38, 39, 40, 41, 42, 43, 44, 45, 46, 47, 48, 49, 50, 51, 52, 53, 54, 55, 56, 57], [(7, [.i .i64])]⟩], [⟨13, 1, @R_astrolabelaw5_VecMany_1 (@l_1)⟩, ⟨9, 1, @R_astrolabelaw5_VecMany_0 (@l_0)⟩], [], [], (some ⟨0, [0, 1, 3, 4, 5, 6, 7, 8, 9, 10, 11, 12, 13, 14, 15, 16, 17, 18, 19, 20, 21, 22, 23, 24, 25, 26, 27, 28, 29, 30, 31, 32, 33, 34, 35, 36, 37, 38, 39, 40, 41, 42, 43, 44, 45, 46, 47, 48, 49, 50, 51, 52, 53, 54, 55, 56, 57], []⟩)⟩ (tmpsOf Try.prog 12) 1 200 (loopIn Try.prog 12 9)
      (St.mk
    [AV.r (RV.c (CV.sl 0 (Off.k 0) (Sz.s x0) 3 x1)), AV.und, AV.und, AV.r (RV.c (CV.ptr 1 (Off.k 0) 1)), AV.r (RV.c (CV.ptr 2 (Off.k 0) 3)), AV.r (RV.c (CV.ptr 3 (Off.k 0) 1)),
      AV.r (RV.c (CV.f (FV.i IntKind.i64 x2))), AV.und, AV.und, AV.und, AV.und, AV.und, AV.und, AV.und, AV.und, AV.und, AV.und, AV.und, AV.und, AV.und, AV.und, AV.und, AV.und, AV.und, AV.und, AV.und,
      AV.und, AV.und, AV.und, AV.und, AV.und, AV.und, AV.und, AV.und, AV.und, AV.und, AV.und, AV.und, AV.und, AV.und, AV.und, AV.und, AV.und, AV.und, AV.und, AV.und, AV.und, AV.und, AV.und, AV.und,
      AV.und, AV.und, AV.und, AV.und, AV.und, AV.und, AV.und, AV.und]
    [some [Sg.a (Sz.s x3) [Col.i IntKind.i64 x4, Col.i IntKind.i64 x5, Col.i IntKind.i64 x6]], some [Sg.c (CV.f (FV.b x7))],
      some [Sg.c (CV.f (FV.i IntKind.i64 x8)), Sg.c (CV.f (FV.i IntKind.i64 x9)), Sg.c (CV.f (FV.i IntKind.i64 x10))], some [Sg.c (CV.f (FV.b x11))]]
    [])
      (next (fun t => t.head 1 ⟨[⟨9, [1, 2, 7, 8, 9, 10, 11, 12, 13, 14, 15, 16, 17, 18, 19, 20, 21, 22, 23, 24, 25, 26, 27, 28, 29, 30, 31, 32, 33, 34, 35, 36, 37, 38, 39, 40, 41, 42, 43, 44, 45, 46, 47, 48, 49, 50, 51, 52, 53, 54, 55, 56, 57], []⟩, ⟨13, [1, 2, 9, 10, 11, 12, 13, 14, 15, 16, 17, 18, 19, 20, 21, 22, 23, 24, 25, 26, 27, 28, 29, 30, 31, 32, 33, 34, 35, 36, 37, 38, 39, 40, 41, 42, 43, 44, 45, 46, 47, 48, 49, 50, 51, 52, 53, 54, 55, 56, 57], [(7, [.i .i64])]⟩], [⟨13, 1, @R_astrolabelaw5_VecMany_1 (@l_1)⟩, ⟨9, 1, @R_astrolabelaw5_VecMany_0 (@l_0)⟩], [], [], (some ⟨0, [0, 1, 3, 4, 5, 6, 7, 8, 9, 10, 11, 12, 13, 14, 15, 16, 17, 18, 19, 20, 21, 22, 23, 24, 25, 26, 27, 28, 29, 30, 31, 32, 33, 34, 35, 36, 37, 38, 39, 40, 41, 42, 43, 44, 45, 46, 47, 48, 49, 50, 51, 52, 53, 54, 55, 56, 57], []⟩)⟩ (loopIn Try.prog 12 9)) c K) =
    S_astrolabelaw5_VecMany_0 g_astrolabelaw5_awake g_vec_Add g___fx_Acc__Add (@l_1) x0 x1 x2 x3 x4 x5 x6 x7 x8 x9 x10 x11 (fun d => c (St.mk
  [AV.r (RV.c (CV.sl 0 (Off.k 0) (Sz.s d.1) 3 d.2.1)), AV.und, AV.und, AV.r (RV.c (CV.ptr 1 (Off.k 0) 1)), AV.r (RV.c (CV.ptr 2 (Off.k 0) 3)), AV.r (RV.c (CV.ptr 3 (Off.k 0) 1)),
    AV.r (RV.c (CV.f (FV.i IntKind.i64 d.2.2.1))), AV.und, AV.und, AV.und, AV.und, AV.und, AV.und, AV.und, AV.und, AV.und, AV.und, AV.und, AV.und, AV.und, AV.und, AV.und, AV.und, AV.und, AV.und,
    AV.und, AV.und, AV.und, AV.und, AV.und, AV.und, AV.und, AV.und, AV.und, AV.und, AV.und, AV.und, AV.und, AV.und, AV.und, AV.und, AV.und, AV.und, AV.und, AV.und, AV.und, AV.und, AV.und, AV.und,
    AV.und, AV.und, AV.und, AV.und, AV.und, AV.und, AV.und, AV.und, AV.und]
  [some [Sg.a (Sz.s d.2.2.2.1) [Col.i IntKind.i64 d.2.2.2.2.1, Col.i IntKind.i64 d.2.2.2.2.2.1, Col.i IntKind.i64 d.2.2.2.2.2.2.1]],
    some [Sg.c (CV.f (FV.b d.2.2.2.2.2.2.2.1))],
    some
      [Sg.c (CV.f (FV.i IntKind.i64 d.2.2.2.2.2.2.2.2.1)), Sg.c (CV.f (FV.i IntKind.i64 d.2.2.2.2.2.2.2.2.2.1)),
        Sg.c (CV.f (FV.i IntKind.i64 d.2.2.2.2.2.2.2.2.2.2.1))],
    some [Sg.c (CV.f (FV.b d.2.2.2.2.2.2.2.2.2.2.2))]]
  [])) (Sum.elim (fun d => K (AX.ret) (St.mk
  [AV.und, AV.und, AV.r (RV.c (CV.f (FV.b false))), AV.und, AV.und, AV.und, AV.und, AV.und, AV.und, AV.und, AV.und, AV.und, AV.und, AV.und, AV.und, AV.und, AV.und, AV.und, AV.und, AV.und, AV.und,
    AV.und, AV.und, AV.und, AV.und, AV.und, AV.und, AV.und, AV.und, AV.und, AV.und, AV.und, AV.und, AV.und, AV.und, AV.und, AV.und, AV.und, AV.und, AV.und, AV.und, AV.und, AV.und, AV.und, AV.und,
    AV.und, AV.und, AV.und, AV.und, AV.und, AV.und, AV.und, AV.und, AV.und, AV.und, AV.und, AV.und, AV.und]
  [some [Sg.a (Sz.s d.1) [Col.i IntKind.i64 d.2.1, Col.i IntKind.i64 d.2.2.1, Col.i IntKind.i64 d.2.2.2]]] [])) (fun d => K (AX.ex 0) (St.mk
  [AV.r (RV.c (CV.sl 0 (Off.k 0) (Sz.s d.1) 3 d.2.1)), AV.und, AV.und, AV.r (RV.c (CV.ptr 1 (Off.k 0) 1)), AV.r (RV.c (CV.ptr 2 (Off.k 0) 3)), AV.r (RV.c (CV.ptr 3 (Off.k 0) 1)),
    AV.r (RV.c (CV.f (FV.i IntKind.i64 d.2.2.1))), AV.und, AV.und, AV.und, AV.und, AV.und, AV.und, AV.und, AV.und, AV.und, AV.und, AV.und, AV.und, AV.und, AV.und, AV.und, AV.und,
    AV.r (RV.c (CV.f (FV.i IntKind.i64 d.2.2.1))), AV.r (RV.c (CV.f (FV.b d.2.2.2.1))), AV.und, AV.und, AV.und, AV.und, AV.und, AV.und, AV.und, AV.und, AV.und, AV.und, AV.und, AV.und,
    AV.und, AV.und, AV.und, AV.und, AV.und, AV.und, AV.und, AV.und, AV.und, AV.und, AV.und, AV.und, AV.und, AV.und, AV.und, AV.und, AV.und, AV.und, AV.und, AV.und, AV.und]
  [some [Sg.a (Sz.s d.2.2.2.2.1) [Col.i IntKind.i64 d.2.2.2.2.2.1, Col.i IntKind.i64 d.2.2.2.2.2.2.1, Col.i IntKind.i64 d.2.2.2.2.2.2.2.1]],
    some [Sg.c (CV.f (FV.b d.2.2.2.2.2.2.2.2.1))],
    some
      [Sg.c (CV.f (FV.i IntKind.i64 d.2.2.2.2.2.2.2.2.2.1)), Sg.c (CV.f (FV.i IntKind.i64 d.2.2.2.2.2.2.2.2.2.2.1)),
        Sg.c (CV.f (FV.i IntKind.i64 d.2.2.2.2.2.2.2.2.2.2.2.1))],
    some [Sg.c (CV.f (FV.b d.2.2.2.2.2.2.2.2.2.2.2.2))]]
  []))) := by kernel_rfl
theorem it_astrolabelaw5_VecMany_0 {ρ : Type} (x0 : Nat) (x1 : Bool) (x2 : Int) (x3 : Nat) (x4 : Nat → Int) (x5 : Nat → Int) (x6 : Nat → Int) (x7 : Bool) (x8 : Int) (x9 : Int) (x10 : Int) (x11 : Bool) (K : AX → St → Option ρ) :
    iter (fun t => t.head 1 ⟨[⟨9, [1, 2, 7, 8, 9, 10, 11, 12, 13, 14, 15, 16, 17, 18, 19, 20, 21, 22, 23, 24, 25, 26, 27, 28, 29, 30, 31, 32, 33, 34, 35, 36, 37, 38, 39, 40, 41, 42, 43, 44, 45, 46, 47, 48, 49, 50, 51, 52, 53, 54, 55, 56, 57], []⟩, ⟨13, [1, 2, 9, 10, 11, 12, 13, 14, 15, 16, 17, 18, 19, 20, 21, 22, 23, 24, 25, 26, 27, 28, 29, 30, 31, 32, 33, 34, 35, 36, 37, 38, 39, 40, 41, 42, 43, 44, 45, 46, 47, 48, 49, 50, 51, 52, 53, 54, 55, 56, 57], [(7, [.i .i64])]⟩], [⟨13, 1, @R_astrolabelaw5_VecMany_1 (@L_astrolabelaw5_VecMany_1)⟩, ⟨9, 1, @R_astrolabelaw5_VecMany_0 (@L_astrolabelaw5_VecMany_0)⟩], [], [], (some ⟨0, [0, 1, 3, 4, 5, 6, 7, 8, 9, 10, 11, 12, 13, 14, 15, 16, 17, 18, 19, 20, 21, 22, 23, 24, 25, 26, 27, 28, 29, 30, 31, 32, 33, 34, 35, 36, 37, 38, 39, 40, 41, 42, 43, 44, 45, 46, 47, 48, 49, 50, 51, 52, 53, 54, 55, 56, 57], []⟩)⟩ (loopIn Try.prog 12 9)) (runC Try.prog (envOf [(30, F_astrolabelaw5_awake f_astrolabelaw5_awake), (31, F_vec_Add f_vec_Add), (45, F___fx_Acc__Add f___fx_Acc__Add)]) ⟨[⟨9, [1, 2, 7, 8, 9, 10, 11, 12, 13, 14, 15, 16, 17, 18, 19, 20, 21, 22, 23, 24, 25, 26, 27, 28, 29, 30, 31, 32, 33, 34, 35, 36, 37, 38, 39, 40, 41, 42, 43, 44, 45, 46, 47, 48, 49, 50, 51, 52, 53, 54, 55, 56, 57], []⟩, ⟨13, [1, 2, 9, 10, 11, 12, 13, 14, 15, 16, 17, 18, 19, 20, 21, 22, 23, 24, 25, 26, 27, 28, 29, 30, 31, 32, 33, 34, 35, 36, 37, 38, 39, 40, 41, 42, 43, 44, 45, 46, 47, 48, 49, 50, 51, 52, 53, 54, 55, 56, 57], [(7, [.i .i64])]⟩], [⟨13, 1, @R_astrolabelaw5_VecMany_1 (@L_astrolabelaw5_VecMany_1)⟩, ⟨9, 1, @R_astrolabelaw5_VecMany_0 (@L_astrolabelaw5_VecMany_0)⟩], [], [], (some ⟨0, [0, 1, 3, 4, 5, 6, 7, 8, 9, 10, 11, 12, 13, 14, 15, 16, 17, 18, 19, 20, 21, 22, 23, 24, 25, 26, 27, 28, 29, 30, 31, 32, 33, 34, 35, 36, 37, 38, 39, 40, 41, 42, 43, 44, 45, 46, 47, 48, 49, 50, 51, 52, 53, 54, 55, 56, 57], []⟩)⟩ (tmpsOf Try.prog 12) 1 200 (loopIn Try.prog 12 9)) K 200
      (St.mk
    [AV.r (RV.c (CV.sl 0 (Off.k 0) (Sz.s x0) 3 x1)), AV.und, AV.und, AV.r (RV.c (CV.ptr 1 (Off.k 0) 1)), AV.r (RV.c (CV.ptr 2 (Off.k 0) 3)), AV.r (RV.c (CV.ptr 3 (Off.k 0) 1)),
      AV.r (RV.c (CV.f (FV.i IntKind.i64 x2))), AV.und, AV.und, AV.und, AV.und, AV.und, AV.und, AV.und, AV.und, AV.und, AV.und, AV.und, AV.und, AV.und, AV.und, AV.und, AV.und, AV.und, AV.und, AV.und,
      AV.und, AV.und, AV.und, AV.und, AV.und, AV.und, AV.und, AV.und, AV.und, AV.und, AV.und, AV.und, AV.und, AV.und, AV.und, AV.und, AV.und, AV.und, AV.und, AV.und, AV.und, AV.und, AV.und, AV.und,
      AV.und, AV.und, AV.und, AV.und, AV.und, AV.und, AV.und, AV.und]
    [some [Sg.a (Sz.s x3) [Col.i IntKind.i64 x4, Col.i IntKind.i64 x5, Col.i IntKind.i64 x6]], some [Sg.c (CV.f (FV.b x7))],
      some [Sg.c (CV.f (FV.i IntKind.i64 x8)), Sg.c (CV.f (FV.i IntKind.i64 x9)), Sg.c (CV.f (FV.i IntKind.i64 x10))], some [Sg.c (CV.f (FV.b x11))]]
    []) = L_astrolabelaw5_VecMany_0 (x0, x1, x2, x3, x4, x5, x6, x7, x8, x9, x10, x11) (Sum.elim (fun d => K (AX.ret) (St.mk
  [AV.und, AV.und, AV.r (RV.c (CV.f (FV.b false))), AV.und, AV.und, AV.und, AV.und, AV.und, AV.und, AV.und, AV.und, AV.und, AV.und, AV.und, AV.und, AV.und, AV.und, AV.und, AV.und, AV.und, AV.und,
    AV.und, AV.und, AV.und, AV.und, AV.und, AV.und, AV.und, AV.und, AV.und, AV.und, AV.und, AV.und, AV.und, AV.und, AV.und, AV.und, AV.und, AV.und, AV.und, AV.und, AV.und, AV.und, AV.und, AV.und,
    AV.und, AV.und, AV.und, AV.und, AV.und, AV.und, AV.und, AV.und, AV.und, AV.und, AV.und, AV.und, AV.und]
  [some [Sg.a (Sz.s d.1) [Col.i IntKind.i64 d.2.1, Col.i IntKind.i64 d.2.2.1, Col.i IntKind.i64 d.2.2.2]]] [])) (fun d => K (AX.ex 0) (St.mk
  [AV.r (RV.c (CV.sl 0 (Off.k 0) (Sz.s d.1) 3 d.2.1)), AV.und, AV.und, AV.r (RV.c (CV.ptr 1 (Off.k 0) 1)), AV.r (RV.c (CV.ptr 2 (Off.k 0) 3)), AV.r (RV.c (CV.ptr 3 (Off.k 0) 1)),
    AV.r (RV.c (CV.f (FV.i IntKind.i64 d.2.2.1))), AV.und, AV.und, AV.und, AV.und, AV.und, AV.und, AV.und, AV.und, AV.und, AV.und, AV.und, AV.und, AV.und, AV.und, AV.und, AV.und,
    AV.r (RV.c (CV.f (FV.i IntKind.i64 d.2.2.1))), AV.r (RV.c (CV.f (FV.b d.2.2.2.1))), AV.und, AV.und, AV.und, AV.und, AV.und, AV.und, AV.und, AV.und, AV.und, AV.und, AV.und, AV.und,
    AV.und, AV.und, AV.und, AV.und, AV.und, AV.und, AV.und, AV.und, AV.und, AV.und, AV.und, AV.und, AV.und, AV.und, AV.und, AV.und, AV.und, AV.und, AV.und, AV.und, AV.und]
  [some [Sg.a (Sz.s d.2.2.2.2.1) [Col.i IntKind.i64 d.2.2.2.2.2.1, Col.i IntKind.i64 d.2.2.2.2.2.2.1, Col.i IntKind.i64 d.2.2.2.2.2.2.2.1]],
    some [Sg.c (CV.f (FV.b d.2.2.2.2.2.2.2.2.1))],
    some
      [Sg.c (CV.f (FV.i IntKind.i64 d.2.2.2.2.2.2.2.2.2.1)), Sg.c (CV.f (FV.i IntKind.i64 d.2.2.2.2.2.2.2.2.2.2.1)),
        Sg.c (CV.f (FV.i IntKind.i64 d.2.2.2.2.2.2.2.2.2.2.2.1))],
    some [Sg.c (CV.f (FV.b d.2.2.2.2.2.2.2.2.2.2.2.2))]]
  []))) :=
  iter_loopX (emb := fun (d : Nat × Bool × Int × Nat × (Nat → Int) × (Nat → Int) × (Nat → Int) × Bool × Int × Int × Int × Bool) => St.mk
  [AV.r (RV.c (CV.sl 0 (Off.k 0) (Sz.s d.1) 3 d.2.1)), AV.und, AV.und, AV.r (RV.c (CV.ptr 1 (Off.k 0) 1)), AV.r (RV.c (CV.ptr 2 (Off.k 0) 3)), AV.r (RV.c (CV.ptr 3 (Off.k 0) 1)),
    AV.r (RV.c (CV.f (FV.i IntKind.i64 d.2.2.1))), AV.und, AV.und, AV.und, AV.und, AV.und, AV.und, AV.und, AV.und, AV.und, AV.und, AV.und, AV.und, AV.und, AV.und, AV.und, AV.und, AV.und, AV.und,
    AV.und, AV.und, AV.und, AV.und, AV.und, AV.und, AV.und, AV.und, AV.und, AV.und, AV.und, AV.und, AV.und, AV.und, AV.und, AV.und, AV.und, AV.und, AV.und, AV.und, AV.und, AV.und, AV.und, AV.und,
    AV.und, AV.und, AV.und, AV.und, AV.und, AV.und, AV.und, AV.und, AV.und]
  [some [Sg.a (Sz.s d.2.2.2.1) [Col.i IntKind.i64 d.2.2.2.2.1, Col.i IntKind.i64 d.2.2.2.2.2.1, Col.i IntKind.i64 d.2.2.2.2.2.2.1]],
    some [Sg.c (CV.f (FV.b d.2.2.2.2.2.2.2.1))],
    some
      [Sg.c (CV.f (FV.i IntKind.i64 d.2.2.2.2.2.2.2.2.1)), Sg.c (CV.f (FV.i IntKind.i64 d.2.2.2.2.2.2.2.2.2.1)),
        Sg.c (CV.f (FV.i IntKind.i64 d.2.2.2.2.2.2.2.2.2.2.1))],
    some [Sg.c (CV.f (FV.b d.2.2.2.2.2.2.2.2.2.2.2))]]
  []) (step := fun d c x => S_astrolabelaw5_VecMany_0 f_astrolabelaw5_awake f_vec_Add f___fx_Acc__Add (@L_astrolabelaw5_VecMany_1) d.1 d.2.1 d.2.2.1 d.2.2.2.1 d.2.2.2.2.1 d.2.2.2.2.2.1 d.2.2.2.2.2.2.1 d.2.2.2.2.2.2.2.1 d.2.2.2.2.2.2.2.2.1 d.2.2.2.2.2.2.2.2.2.1 d.2.2.2.2.2.2.2.2.2.2.1 d.2.2.2.2.2.2.2.2.2.2.2 c x) (kx := (Sum.elim (fun d => K (AX.ret) (St.mk
  [AV.und, AV.und, AV.r (RV.c (CV.f (FV.b false))), AV.und, AV.und, AV.und, AV.und, AV.und, AV.und, AV.und, AV.und, AV.und, AV.und, AV.und, AV.und, AV.und, AV.und, AV.und, AV.und, AV.und, AV.und,
    AV.und, AV.und, AV.und, AV.und, AV.und, AV.und, AV.und, AV.und, AV.und, AV.und, AV.und, AV.und, AV.und, AV.und, AV.und, AV.und, AV.und, AV.und, AV.und, AV.und, AV.und, AV.und, AV.und, AV.und,
    AV.und, AV.und, AV.und, AV.und, AV.und, AV.und, AV.und, AV.und, AV.und, AV.und, AV.und, AV.und, AV.und]
  [some [Sg.a (Sz.s d.1) [Col.i IntKind.i64 d.2.1, Col.i IntKind.i64 d.2.2.1, Col.i IntKind.i64 d.2.2.2]]] [])) (fun d => K (AX.ex 0) (St.mk
  [AV.r (RV.c (CV.sl 0 (Off.k 0) (Sz.s d.1) 3 d.2.1)), AV.und, AV.und, AV.r (RV.c (CV.ptr 1 (Off.k 0) 1)), AV.r (RV.c (CV.ptr 2 (Off.k 0) 3)), AV.r (RV.c (CV.ptr 3 (Off.k 0) 1)),
    AV.r (RV.c (CV.f (FV.i IntKind.i64 d.2.2.1))), AV.und, AV.und, AV.und, AV.und, AV.und, AV.und, AV.und, AV.und, AV.und, AV.und, AV.und, AV.und, AV.und, AV.und, AV.und, AV.und,
    AV.r (RV.c (CV.f (FV.i IntKind.i64 d.2.2.1))), AV.r (RV.c (CV.f (FV.b d.2.2.2.1))), AV.und, AV.und, AV.und, AV.und, AV.und, AV.und, AV.und, AV.und, AV.und, AV.und, AV.und, AV.und,
    AV.und, AV.und, AV.und, AV.und, AV.und, AV.und, AV.und, AV.und, AV.und, AV.und, AV.und, AV.und, AV.und, AV.und, AV.und, AV.und, AV.und, AV.und, AV.und, AV.und, AV.und]
  [some [Sg.a (Sz.s d.2.2.2.2.1) [Col.i IntKind.i64 d.2.2.2.2.2.1, Col.i IntKind.i64 d.2.2.2.2.2.2.1, Col.i IntKind.i64 d.2.2.2.2.2.2.2.1]],
    some [Sg.c (CV.f (FV.b d.2.2.2.2.2.2.2.2.1))],
    some
      [Sg.c (CV.f (FV.i IntKind.i64 d.2.2.2.2.2.2.2.2.2.1)), Sg.c (CV.f (FV.i IntKind.i64 d.2.2.2.2.2.2.2.2.2.2.1)),
        Sg.c (CV.f (FV.i IntKind.i64 d.2.2.2.2.2.2.2.2.2.2.2.1))],
    some [Sg.c (CV.f (FV.b d.2.2.2.2.2.2.2.2.2.2.2.2))]]
  []))))
    (fun d c => ds_astrolabelaw5_VecMany_0 f_astrolabelaw5_awake f_vec_Add f___fx_Acc__Add (@L_astrolabelaw5_VecMany_1) (@L_astrolabelaw5_VecMany_0) d.1 d.2.1 d.2.2.1 d.2.2.2.1 d.2.2.2.2.1 d.2.2.2.2.2.1 d.2.2.2.2.2.2.1 d.2.2.2.2.2.2.2.1 d.2.2.2.2.2.2.2.2.1 d.2.2.2.2.2.2.2.2.2.1 d.2.2.2.2.2.2.2.2.2.2.1 d.2.2.2.2.2.2.2.2.2.2.2 c K) 200 (x0, x1, x2, x3, x4, x5, x6, x7, x8, x9, x10, x11)
theorem so_astrolabelaw5_VecMany_0 : ∀ kk, SumOK Try.prog (envOf [(30, F_astrolabelaw5_awake f_astrolabelaw5_awake), (31, F_vec_Add f_vec_Add), (45, F___fx_Acc__Add f___fx_Acc__Add)]) ⟨[⟨9, [1, 2, 7, 8, 9, 10, 11, 12, 13, 14, 15, 16, 17, 18, 19, 20, 21, 22, 23, 24, 25, 26, 27, 28, 29, 30, 31, 32, 33, 34, 35, 36, 37, 38, 39, 40, 41, 42, 43, 44, 45, 46, 47, 48, 49, 50, 51, 52, 53, 54, 55, 56, 57], []⟩, ⟨13, [1, 2, 9, 10, 11, 12, 13, 14, 15, 16, 17, 18, 19, 20, 21, 22, 23, 24, 25, 26, 27, 28, 29, 30, 31, 32, 33, 34, 35, 36, 37, 38, 39, 40, 41, 42, 43, 44, 45, 46, 47, 48, 49, 50, 51, 52, 53, 54, 55, 56, 57], [(7, [.i .i64])]⟩], [⟨13, 1, @R_astrolabelaw5_VecMany_1 (@L_astrolabelaw5_VecMany_1)⟩, ⟨9, 1, @R_astrolabelaw5_VecMany_0 (@L_astrolabelaw5_VecMany_0)⟩], [], [], (some ⟨0, [0, 1, 3, 4, 5, 6, 7, 8, 9, 10, 11, 12, 13, 14, 15, 16, 17, 18, 19, 20, 21, 22, 23, 24, 25, 26, 27, 28, 29, 30, 31, 32, 33, 34, 35, 36, 37, 38, 39, 40, 41, 42, 43, 44, 45, 46, 47, 48, 49, 50, 51, 52, 53, 54, 55, 56, 57], []⟩)⟩ (tmpsOf Try.prog 12) kk 200 (loopIn Try.prog 12 9) :=
  SumOK.of (id := 9) (k0 := 1) (run := @R_astrolabelaw5_VecMany_0 (@L_astrolabelaw5_VecMany_0)) (by kernel_rfl) fun s K r hr => by
    unfold R_astrolabelaw5_VecMany_0 at hr
    obtain ⟨b, hb, hr1⟩ := Option.bind_eq_some_iff.1 hr
    have e := ((Q_astrolabelaw5_VecMany_0).ok s b hb).trans (q_astrolabelaw5_VecMany_0 b)
    subst e
    exact ⟨200, (it_astrolabelaw5_VecMany_0 b.1.1.2.2.1 b.1.1.2.2.2.2 b.1.2.2.2.2.2.2.1 b.2.1.1.1.1 b.2.1.1.1.2.1 b.2.1.1.1.2.2.1 b.2.1.1.1.2.2.2.1 b.2.1.2.1.1 b.2.1.2.2.1.1 b.2.1.2.2.1.2.1 b.2.1.2.2.1.2.2.1 b.2.1.2.2.2.1.1 K).trans hr1⟩
def K_astrolabelaw5_VecMany {ρ : Type} (g_astrolabelaw5_awake : Option Bool) (g_vec_Add : Nat → Bool → (Nat → Int) → (Nat → Int) → (Nat → Int) → Bool → Option (Int × Int × Int × Bool)) (g___fx_Acc__Add : Nat → Bool → (Nat → Int) → Bool → Option (Int × Bool)) (l_1 : ∀ {ρ : Type}, (Nat × Bool × Int × Nat × Int × Nat × (Nat → Int) × (Nat → Int) × (Nat → Int) × Bool × Int × Int × Int × Bool × Nat × (Nat → Int)) → ((Nat × Bool × Int × Nat × Int × Int × Bool × Nat × (Nat → Int) × (Nat → Int) × (Nat → Int) × Bool × Int × Int × Int × Bool × Nat × (Nat → Int)) → Option ρ) → Option ρ) (l_0 : ∀ {ρ : Type}, (Nat × Bool × Int × Nat × (Nat → Int) × (Nat → Int) × (Nat → Int) × Bool × Int × Int × Int × Bool) → ((Nat × (Nat → Int) × (Nat → Int) × (Nat → Int) ⊕ Nat × Bool × Int × Bool × Nat × (Nat → Int) × (Nat → Int) × (Nat → Int) × Bool × Int × Int × Int × Bool) → Option ρ) → Option ρ) (x0 : Nat) (x1 : Nat → Int) (x2 : Nat → Int) (x3 : Nat → Int) (w0 : Bool) (k : (Bool) → Option ρ) : Option ρ :=
  Option.bind g_astrolabelaw5_awake fun (d : Bool) =>
    bif !d then k false
    else
      bif decide (Int.ofNat x0 > 60) then k true
      else
        bif Nat.ble ((0 + x0) * 24) 140737488355328 then
          bif Nat.beq (0 + x0) (0 + x0) then
            Option.bind (g_vec_Add (0 + x0) false x1 x2 x3 true) fun (d : Int × Int × Int × Bool) =>
              l_0 (x0, w0, 0, x0, x1, x2, x3, d.2.2.2, d.1, d.2.1, d.2.2.1, false)
                (Sum.elim (fun (d : Nat × (Nat → Int) × (Nat → Int) × (Nat → Int)) => k false)
                  fun (d : Nat × Bool × Int × Bool × Nat × (Nat → Int) × (Nat → Int) × (Nat → Int) × Bool × Int × Int × Int × Bool) =>
                  k (d.2.2.2.2.2.2.2.2.1 == d.2.2.2.2.2.2.2.2.2.2.2.2))
          else none
        else none
def f_astrolabelaw5_VecMany (x0 : Nat) (x1 : Nat → Int) (x2 : Nat → Int) (x3 : Nat → Int) (w0 : Bool) : Option (Bool) := K_astrolabelaw5_VecMany f_astrolabelaw5_awake f_vec_Add f___fx_Acc__Add (@L_astrolabelaw5_VecMany_1) (@L_astrolabelaw5_VecMany_0) x0 x1 x2 x3 w0 some
section
open Go.Ab.Rdr
def QA_astrolabelaw5_VecMany := ((pair (cons (ar (rc (csl (nat 0) (ok' (nat 0)) (szs hole) (nat 3) hole))) nil) (cons (cons (ga (szs hole) (cons (ki .i64 hole) (cons (ki .i64 hole) (cons (ki .i64 hole) nil)))) nil) nil)) : Rdr (List AV × List Blk) _)
end
def F0_astrolabelaw5_VecMany (f : (Nat) → (Nat → Int) → (Nat → Int) → (Nat → Int) → (Bool) → Option (Bool)) : Sem1 := fun args h => match (QA_astrolabelaw5_VecMany).rd (args, h) with
  | some b => .test (Nat.beq b.2.1.1.1 b.1.1.2.2.1) (.opt (f b.1.1.2.2.1 b.2.1.1.2.1 b.2.1.1.2.2.1 b.2.1.1.2.2.2.1 b.1.1.2.2.2.2) fun (d : Bool) => .leaf (Res.mk (AV.r (RV.c (CV.f (FV.b d)))) [Ch.keep] [])) .fail
  | none => .fail
def F_astrolabelaw5_VecMany (f : (Nat) → (Nat → Int) → (Nat → Int) → (Nat → Int) → (Bool) → Option (Bool)) : Sem1 := (nilF 0 [.i .i64, .i .i64, .i .i64] (F0_astrolabelaw5_VecMany f))
theorem d_astrolabelaw5_VecMany (g_astrolabelaw5_awake : Option Bool) (g_vec_Add : Nat → Bool → (Nat → Int) → (Nat → Int) → (Nat → Int) → Bool → Option (Int × Int × Int × Bool)) (g___fx_Acc__Add : Nat → Bool → (Nat → Int) → Bool → Option (Int × Bool)) (l_1 : ∀ {ρ : Type}, (Nat × Bool × Int × Nat × Int × Nat × (Nat → Int) × (Nat → Int) × (Nat → Int) × Bool × Int × Int × Int × Bool × Nat × (Nat → Int)) → ((Nat × Bool × Int × Nat × Int × Int × Bool × Nat × (Nat → Int) × (Nat → Int) × (Nat → Int) × Bool × Int × Int × Int × Bool × Nat × (Nat → Int)) → Option ρ) → Option ρ) (l_0 : ∀ {ρ : Type}, (Nat × Bool × Int × Nat × (Nat → Int) × (Nat → Int) × (Nat → Int) × Bool × Int × Int × Int × Bool) → ((Nat × (Nat → Int) × (Nat → Int) × (Nat → Int) ⊕ Nat × Bool × Int × Bool × Nat × (Nat → Int) × (Nat → Int) × (Nat → Int) × Bool × Int × Int × Int × Bool) → Option ρ) → Option ρ) (x0 : Nat) (x1 : Nat → Int) (x2 : Nat → Int) (x3 : Nat → Int) (w0 : Bool) : den Try.prog (envOf [(30, F_astrolabelaw5_awake g_astrolabelaw5_awake), (31, F_vec_Add g_vec_Add), (45, F___fx_Acc__Add g___fx_Acc__Add)]) ⟨[⟨9, [1, 2, 7, 8, 9, 10, 11, 12, 13, 14, 15, 16, 17, 18, 19, 20, 21, 22, 23, 24, 25, 26, 27, 28, 29, 30, 31, 32, 33, 34, 35, 36, 37, 38, 39, 40, 41, 42, 43, 44, 45, 46, 47, 48, 49, 50, 51, 52, 53, 54, 55, 56, 57], []⟩, ⟨13, [1, 2, 9, 10, 11, 12, 13, 14, 15, 16, 17, 18, 19, 20, 21, 22, 23, 24, 25, 26, 27, 28, 29, 30, 31, 32, 33, 34, 35, 36, 37, 38, 39, 40, 41, 42, 43, 44, 45, 46, 47, 48, 49, 50, 51, 52, 53, 54, 55, 56, 57], [(7, [.i .i64])]⟩], [⟨13, 1, @R_astrolabelaw5_VecMany_1 (@l_1)⟩, ⟨9, 1, @R_astrolabelaw5_VecMany_0 (@l_0)⟩], [], [], (some ⟨0, [0, 1, 3, 4, 5, 6, 7, 8, 9, 10, 11, 12, 13, 14, 15, 16, 17, 18, 19, 20, 21, 22, 23, 24, 25, 26, 27, 28, 29, 30, 31, 32, 33, 34, 35, 36, 37, 38, 39, 40, 41, 42, 43, 44, 45, 46, 47, 48, 49, 50, 51, 52, 53, 54, 55, 56, 57], []⟩)⟩ 200 12 [.r (.c (.sl 0 (.k 0) (.s x0) 3 w0))] [[.a (.s x0) [.i .i64 x1, .i .i64 x2, .i .i64 x3]]] =
    K_astrolabelaw5_VecMany g_astrolabelaw5_awake g_vec_Add g___fx_Acc__Add (@l_1) (@l_0) x0 x1 x2 x3 w0 (fun (d : Bool) => some (Res.mk (AV.r (RV.c (CV.f (FV.b d)))) [Ch.keep] [])) := by kernel_rfl
theorem m_astrolabelaw5_VecMany {ρ σ : Type} (q : ρ → Option σ) (g_astrolabelaw5_awake : Option Bool) (g_vec_Add : Nat → Bool → (Nat → Int) → (Nat → Int) → (Nat → Int) → Bool → Option (Int × Int × Int × Bool)) (g___fx_Acc__Add : Nat → Bool → (Nat → Int) → Bool → Option (Int × Bool)) (l_1 : ∀ {ρ : Type}, (Nat × Bool × Int × Nat × Int × Nat × (Nat → Int) × (Nat → Int) × (Nat → Int) × Bool × Int × Int × Int × Bool × Nat × (Nat → Int)) → ((Nat × Bool × Int × Nat × Int × Int × Bool × Nat × (Nat → Int) × (Nat → Int) × (Nat → Int) × Bool × Int × Int × Int × Bool × Nat × (Nat → Int)) → Option ρ) → Option ρ) (l_0 : ∀ {ρ : Type}, (Nat × Bool × Int × Nat × (Nat → Int) × (Nat → Int) × (Nat → Int) × Bool × Int × Int × Int × Bool) → ((Nat × (Nat → Int) × (Nat → Int) × (Nat → Int) ⊕ Nat × Bool × Int × Bool × Nat × (Nat → Int) × (Nat → Int) × (Nat → Int) × Bool × Int × Int × Int × Bool) → Option ρ) → Option ρ) (hl_1 : ∀ {ρ σ : Type} (q : ρ → Option σ) (d : Nat × Bool × Int × Nat × Int × Nat × (Nat → Int) × (Nat → Int) × (Nat → Int) × Bool × Int × Int × Int × Bool × Nat × (Nat → Int)) (k : (Nat × Bool × Int × Nat × Int × Int × Bool × Nat × (Nat → Int) × (Nat → Int) × (Nat → Int) × Bool × Int × Int × Int × Bool × Nat × (Nat → Int)) → Option ρ), (l_1 d k).bind q = l_1 d fun x => (k x).bind q) (hl_0 : ∀ {ρ σ : Type} (q : ρ → Option σ) (d : Nat × Bool × Int × Nat × (Nat → Int) × (Nat → Int) × (Nat → Int) × Bool × Int × Int × Int × Bool) (k : (Nat × (Nat → Int) × (Nat → Int) × (Nat → Int) ⊕ Nat × Bool × Int × Bool × Nat × (Nat → Int) × (Nat → Int) × (Nat → Int) × Bool × Int × Int × Int × Bool) → Option ρ), (l_0 d k).bind q = l_0 d fun x => (k x).bind q) (x0 : Nat) (x1 : Nat → Int) (x2 : Nat → Int) (x3 : Nat → Int) (w0 : Bool) (k : (Bool) → Option ρ) : (K_astrolabelaw5_VecMany g_astrolabelaw5_awake g_vec_Add g___fx_Acc__Add (@l_1) (@l_0) x0 x1 x2 x3 w0 k).bind q = K_astrolabelaw5_VecMany g_astrolabelaw5_awake g_vec_Add g___fx_Acc__Add (@l_1) (@l_0) x0 x1 x2 x3 w0 (fun d => (k d).bind q) := by
  simp only [K_astrolabelaw5_VecMany, bnd_cond, bnd_bind, bnd_none, bnd_sum, hl_1, hl_0]
theorem qa_astrolabelaw5_VecMany : ∀ b, (QA_astrolabelaw5_VecMany).em b = ([.r (.c (.sl 0 (.k 0) (.s b.1.1.2.2.1) 3 b.1.1.2.2.2.2))], [[.a (.s b.2.1.1.1) [.i .i64 b.2.1.1.2.1, .i .i64 b.2.1.1.2.2.1, .i .i64 b.2.1.1.2.2.2.1]]]) := fun b => by kernel_rfl
theorem e_astrolabelaw5_VecMany {f : (Nat) → (Nat → Int) → (Nat → Int) → (Nat → Int) → (Bool) → Option (Bool)} {args : List AV} {h : List Blk} {r : Res} (hr : (F0_astrolabelaw5_VecMany f args h).eval = some r) : ∃ x0 x1 x2 x3 w0, args = [.r (.c (.sl 0 (.k 0) (.s x0) 3 w0))] ∧ h = [[.a (.s x0) [.i .i64 x1, .i .i64 x2, .i .i64 x3]]] ∧ (f x0 x1 x2 x3 w0).bind (fun (d : Bool) => some (Res.mk (AV.r (RV.c (CV.f (FV.b d)))) [Ch.keep] [])) = some r := by
  unfold F0_astrolabelaw5_VecMany at hr
  split at hr
  · rename_i b hb
    have e := ((QA_astrolabelaw5_VecMany).ok _ _ hb).trans (qa_astrolabelaw5_VecMany b)
    obtain ⟨he, hr1⟩ := test_eval hr
    clear hr
    have hr := hr1
    clear hr1
    rw [Nat.eq_of_beq_eq_true he] at e
    clear he
    rw [opt_eval2] at hr
    exact ⟨b.1.1.2.2.1, b.2.1.1.2.1, b.2.1.1.2.2.1, b.2.1.1.2.2.2.1, b.1.1.2.2.2.2, (Prod.mk.inj e).1, (Prod.mk.inj e).2, hr⟩
  · cases hr
theorem n_astrolabelaw5_VecMany {σ : Type} (q : (Bool) → Option σ) (x0 : Nat) (x1 : Nat → Int) (x2 : Nat → Int) (x3 : Nat → Int) (w0 : Bool) : (f_astrolabelaw5_VecMany x0 x1 x2 x3 w0).bind q = K_astrolabelaw5_VecMany f_astrolabelaw5_awake f_vec_Add f___fx_Acc__Add (@L_astrolabelaw5_VecMany_1) (@L_astrolabelaw5_VecMany_0) x0 x1 x2 x3 w0 q := by
  unfold f_astrolabelaw5_VecMany
  exact m_astrolabelaw5_VecMany q f_astrolabelaw5_awake f_vec_Add f___fx_Acc__Add (@L_astrolabelaw5_VecMany_1) (@L_astrolabelaw5_VecMany_0) (fun q d k => mL_astrolabelaw5_VecMany_1 q d k) (fun q d k => mL_astrolabelaw5_VecMany_0 q d k) x0 x1 x2 x3 w0 some
theorem s_astrolabelaw5_VecMany : Sound Try.prog 12 (F_astrolabelaw5_VecMany f_astrolabelaw5_VecMany) :=
  Sound.nil 0 [.i .i64, .i .i64, .i .i64] <| (inl_sums (l := [(30, F_astrolabelaw5_awake f_astrolabelaw5_awake), (31, F_vec_Add f_vec_Add), (45, F___fx_Acc__Add f___fx_Acc__Add)]) (.cons s_astrolabelaw5_awake (.cons s_vec_Add (.cons s___fx_Acc__Add (.nil _)))) mixed (hs := ⟨[⟨9, [1, 2, 7, 8, 9, 10, 11, 12, 13, 14, 15, 16, 17, 18, 19, 20, 21, 22, 23, 24, 25, 26, 27, 28, 29, 30, 31, 32, 33, 34, 35, 36, 37, 38, 39, 40, 41, 42, 43, 44, 45, 46, 47, 48, 49, 50, 51, 52, 53, 54, 55, 56, 57], []⟩, ⟨13, [1, 2, 9, 10, 11, 12, 13, 14, 15, 16, 17, 18, 19, 20, 21, 22, 23, 24, 25, 26, 27, 28, 29, 30, 31, 32, 33, 34, 35, 36, 37, 38, 39, 40, 41, 42, 43, 44, 45, 46, 47, 48, 49, 50, 51, 52, 53, 54, 55, 56, 57], [(7, [.i .i64])]⟩], [⟨13, 1, @R_astrolabelaw5_VecMany_1 (@L_astrolabelaw5_VecMany_1)⟩, ⟨9, 1, @R_astrolabelaw5_VecMany_0 (@L_astrolabelaw5_VecMany_0)⟩], [], [], (some ⟨0, [0, 1, 3, 4, 5, 6, 7, 8, 9, 10, 11, 12, 13, 14, 15, 16, 17, 18, 19, 20, 21, 22, 23, 24, 25, 26, 27, 28, 29, 30, 31, 32, 33, 34, 35, 36, 37, 38, 39, 40, 41, 42, 43, 44, 45, 46, 47, 48, 49, 50, 51, 52, 53, 54, 55, 56, 57], []⟩)⟩) (lf := 200) (Sums.by (l := [loopIn Try.prog 12 9, loopIn Try.prog 12 13]) (lj := []) (by kernel_rfl) ⟨so_astrolabelaw5_VecMany_0, ⟨so_astrolabelaw5_VecMany_1, trivial⟩⟩ (by kernel_rfl) trivial) (by kernel_rfl)).by (F := F0_astrolabelaw5_VecMany f_astrolabelaw5_VecMany) fun args b r hr => by
  obtain ⟨x0, x1, x2, x3, w0, rfl, rfl, hr1⟩ := e_astrolabelaw5_VecMany hr
  exact inl_eval ((d_astrolabelaw5_VecMany f_astrolabelaw5_awake f_vec_Add f___fx_Acc__Add (@L_astrolabelaw5_VecMany_1) (@L_astrolabelaw5_VecMany_0) x0 x1 x2 x3 w0).trans ((n_astrolabelaw5_VecMany (fun (d : Bool) => some (Res.mk (AV.r (RV.c (CV.f (FV.b d)))) [Ch.keep] [])) x0 x1 x2 x3 w0).symm.trans hr1))

end Go.Proofs.Ythbnojedlbeglaa
