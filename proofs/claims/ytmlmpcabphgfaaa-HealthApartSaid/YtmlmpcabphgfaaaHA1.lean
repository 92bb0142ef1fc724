/-
  Contracts by plain functions: health.New, health.is, fuse.Count, (*health.Watch).Mark, (*health.Watch).Miss, (*health.Monitor).Result, (*health.Monitor).Sensor, (*health.Monitor).Vertical, (*health.Watch).Fresh, (*health.Sensor).Usable, (*health.Monitor).Usable, (*health.Monitor).Faults, (*health.Monitor).Bad, astrolabelaw24.awake
-/
import Derived.Test.YtmlmpcabphgfaaaAbNil
import Derived.Test.YtmlmpcabphgfaaaBits
set_option maxRecDepth 100000
set_option maxHeartbeats 4000000
set_option linter.unusedVariables false
namespace Go.Proofs.Ytmlmpcabphgfaaa
open Go.Ab
def S_health_New_0 {ρ : Type}   (x0 : Int) (x1 : Nat) (x2 : Bool) (x3 : Int) (x4 : Int) (x5 : Nat) (x6 : Nat → Int) (x7 : Nat → Int) (x8 : Nat → Int) (x9 : Nat → Bool) (x10 : Nat → Int) (x11 : Nat → Int) (x12 : Nat → Int) (c : (Int × Nat × Bool × Int × Int × Nat × (Nat → Int) × (Nat → Int) × (Nat → Int) × (Nat → Bool) × (Nat → Int) × (Nat → Int) × (Nat → Int)) → Option ρ) (x : (Nat × (Nat → Int) ⊕ Int × Nat × Bool × Int × Int × Bool × Nat × (Nat → Int) × (Nat → Int) × (Nat → Int) × (Nat → Bool) × (Nat → Int) × (Nat → Int) × (Nat → Int)) → Option ρ) : Option ρ :=
  bif decide (x4 < x3) then
    bif inR x4 x1 then
      bif decide (x6 (Int.toNat x4) < 1) then x (Sum.inl (x5, x6))
      else
        bif decide (x6 (Int.toNat x4) > 1099511627776) then x (Sum.inl (x5, x6))
        else
          bif inR x4 6 then
            bif Nat.ble (0 + Int.toNat x4 * 6 + 6) 36 && Nat.ble (0 + Int.toNat x4 * 6 + 6) 37 then
              c
                (x0, x1, x2, x3, IntKind.wrap IntKind.i64 (x4 + 1), x5, x6, fun (j : Nat) => bif Nat.beq j (Int.toNat x4) then 0 else x7 j, fun (j : Nat) =>
                  bif Nat.beq j (Int.toNat x4) then 0 else x8 j, fun (j : Nat) => bif Nat.beq j (Int.toNat x4) then false else x9 j, fun (j : Nat) => bif Nat.beq j (Int.toNat x4) then x4 else x10 j,
                  fun (j : Nat) => bif Nat.beq j (Int.toNat x4) then x6 (Int.toNat x4) else x11 j, fun (j : Nat) => bif Nat.beq j (Int.toNat x4) then x0 else x12 j)
            else none
          else none
    else none
  else x (Sum.inr (x0, x1, x2, x3, x4, decide (x4 < x3), x5, x6, x7, x8, x9, x10, x11, x12))
section
open Go.Ab.Rdr
def Q_health_New_0 := (st (cons (ar (rc (cf (fi .i64 hole)))) (cons aund (cons (atup nil) (cons aund (cons aund (cons aund (cons (ar (rc (cptr (nat 1) (ok' (nat 0)) (nat 37)))) (cons aund (cons aund (cons aund (cons aund (cons aund (cons aund (cons aund (cons aund (cons aund (cons aund (cons aund (cons aund (cons aund (cons aund (cons aund (cons (ar (rc (csl (nat 0) (ok' (nat 0)) (szs hole) (nat 1) hole))) (cons (ar (rc (cf (fi .i64 hole)))) (cons (ar (rc (cf (fi .i64 hole)))) (cons aund (cons aund (cons aund (cons aund (cons aund (cons aund (cons aund (cons aund (cons aund (cons aund (cons aund (cons aund (cons aund (cons aund (cons aund (cons aund (cons aund (cons aund (cons aund (cons aund (cons aund nil)))))))))))))))))))))))))))))))))))))))))))))) (cons (some' (cons (ga (szs hole) (cons (ki .i64 hole) nil)) nil)) (cons (some' (cons (ga (szl (nat 6)) (cons (ki .i64 hole) (cons (ki .i64 hole) (cons (kb hole) (cons (ki .i64 hole) (cons (ki .i64 hole) (cons (ki .i64 hole) nil))))))) (cons (gc (cf (fi .i64 (int 0)))) nil))) nil)) nil)
end
theorem q_health_New_0 : ∀ b, (Q_health_New_0).em b = St.mk
    [AV.r (RV.c (CV.f (FV.i IntKind.i64 b.1.1))), AV.und, AV.tup [], AV.und, AV.und, AV.und, AV.r (RV.c (CV.ptr 1 (Off.k 0) 37)), AV.und, AV.und, AV.und, AV.und, AV.und, AV.und, AV.und, AV.und, AV.und,
      AV.und, AV.und, AV.und, AV.und, AV.und, AV.und, AV.r (RV.c (CV.sl 0 (Off.k 0) (Sz.s b.1.2.2.2.2.2.2.2.2.2.2.2.2.2.2.2.2.2.2.2.2.2.2.1.2.2.1) 1 b.1.2.2.2.2.2.2.2.2.2.2.2.2.2.2.2.2.2.2.2.2.2.2.1.2.2.2.2)), AV.r (RV.c (CV.f (FV.i IntKind.i64 b.1.2.2.2.2.2.2.2.2.2.2.2.2.2.2.2.2.2.2.2.2.2.2.2.1))), AV.r (RV.c (CV.f (FV.i IntKind.i64 b.1.2.2.2.2.2.2.2.2.2.2.2.2.2.2.2.2.2.2.2.2.2.2.2.2.1))), AV.und, AV.und,
      AV.und, AV.und, AV.und, AV.und, AV.und, AV.und, AV.und, AV.und, AV.und, AV.und, AV.und, AV.und, AV.und, AV.und, AV.und, AV.und, AV.und, AV.und, AV.und]
    [some [Sg.a (Sz.s b.2.1.1.1.1) [Col.i IntKind.i64 b.2.1.1.1.2.1]],
      some [Sg.a (Sz.l 6) [Col.i IntKind.i64 b.2.1.2.1.1.2.1, Col.i IntKind.i64 b.2.1.2.1.1.2.2.1, Col.b b.2.1.2.1.1.2.2.2.1, Col.i IntKind.i64 b.2.1.2.1.1.2.2.2.2.1, Col.i IntKind.i64 b.2.1.2.1.1.2.2.2.2.2.1, Col.i IntKind.i64 b.2.1.2.1.1.2.2.2.2.2.2.1], Sg.c (CV.f (FV.i IntKind.i64 0))]]
    [] := fun b => by kernel_rfl
def R_health_New_0 (l : ∀ {ρ : Type}, (Int × Nat × Bool × Int × Int × Nat × (Nat → Int) × (Nat → Int) × (Nat → Int) × (Nat → Bool) × (Nat → Int) × (Nat → Int) × (Nat → Int)) → ((Nat × (Nat → Int) ⊕ Int × Nat × Bool × Int × Int × Bool × Nat × (Nat → Int) × (Nat → Int) × (Nat → Int) × (Nat → Bool) × (Nat → Int) × (Nat → Int) × (Nat → Int)) → Option ρ) → Option ρ) {ρ : Type} (s : St) (K : AX → St → Option ρ) : Option ρ := ((Q_health_New_0).rd s).bind fun b => l (b.1.1, b.1.2.2.2.2.2.2.2.2.2.2.2.2.2.2.2.2.2.2.2.2.2.2.1.2.2.1, b.1.2.2.2.2.2.2.2.2.2.2.2.2.2.2.2.2.2.2.2.2.2.2.1.2.2.2.2, b.1.2.2.2.2.2.2.2.2.2.2.2.2.2.2.2.2.2.2.2.2.2.2.2.1, b.1.2.2.2.2.2.2.2.2.2.2.2.2.2.2.2.2.2.2.2.2.2.2.2.2.1, b.2.1.1.1.1, b.2.1.1.1.2.1, b.2.1.2.1.1.2.1, b.2.1.2.1.1.2.2.1, b.2.1.2.1.1.2.2.2.1, b.2.1.2.1.1.2.2.2.2.1, b.2.1.2.1.1.2.2.2.2.2.1, b.2.1.2.1.1.2.2.2.2.2.2.1) (Sum.elim (fun d => K (AX.ret) (St.mk
  [AV.und, AV.und, AV.und, AV.und, AV.r (RV.c CV.nilp), AV.r (RV.c (CV.f (FV.i IntKind.i64 1))), AV.und, AV.und, AV.und, AV.und, AV.und, AV.und, AV.und, AV.und, AV.und, AV.und, AV.und, AV.und, AV.und,
    AV.und, AV.und, AV.und, AV.und, AV.und, AV.und, AV.und, AV.und, AV.und, AV.und, AV.und, AV.und, AV.und, AV.und, AV.und, AV.und, AV.und, AV.und, AV.und, AV.und, AV.und, AV.und, AV.und, AV.und,
    AV.und, AV.und, AV.und]
  [some [Sg.a (Sz.s d.1) [Col.i IntKind.i64 d.2]]] [])) (fun d => K (AX.ex 0) (St.mk
  [AV.r (RV.c (CV.f (FV.i IntKind.i64 d.1))), AV.und, AV.tup [], AV.und, AV.und, AV.und, AV.r (RV.c (CV.ptr 1 (Off.k 0) 37)), AV.und, AV.und, AV.und, AV.und, AV.und, AV.und, AV.und, AV.und, AV.und,
    AV.und, AV.und, AV.und, AV.und, AV.und, AV.und, AV.r (RV.c (CV.sl 0 (Off.k 0) (Sz.s d.2.1) 1 d.2.2.1)), AV.r (RV.c (CV.f (FV.i IntKind.i64 d.2.2.2.1))),
    AV.r (RV.c (CV.f (FV.i IntKind.i64 d.2.2.2.2.1))), AV.r (RV.c (CV.f (FV.b d.2.2.2.2.2.1))), AV.und, AV.und, AV.und, AV.und, AV.und, AV.und, AV.und, AV.und, AV.und, AV.und,
    AV.und, AV.und, AV.und, AV.und, AV.und, AV.und, AV.und, AV.und, AV.und, AV.und]
  [some [Sg.a (Sz.s d.2.2.2.2.2.2.1) [Col.i IntKind.i64 d.2.2.2.2.2.2.2.1]],
    some
      [Sg.a (Sz.l 6)
          [Col.i IntKind.i64 d.2.2.2.2.2.2.2.2.1, Col.i IntKind.i64 d.2.2.2.2.2.2.2.2.2.1, Col.b d.2.2.2.2.2.2.2.2.2.2.1,
            Col.i IntKind.i64 d.2.2.2.2.2.2.2.2.2.2.2.1, Col.i IntKind.i64 d.2.2.2.2.2.2.2.2.2.2.2.2.1,
            Col.i IntKind.i64 d.2.2.2.2.2.2.2.2.2.2.2.2.2],
        Sg.c (CV.f (FV.i IntKind.i64 0))]]
  [])))
theorem ms_health_New_0 {ρ σ : Type}    (q : ρ → Option σ) (x0 : Int) (x1 : Nat) (x2 : Bool) (x3 : Int) (x4 : Int) (x5 : Nat) (x6 : Nat → Int) (x7 : Nat → Int) (x8 : Nat → Int) (x9 : Nat → Bool) (x10 : Nat → Int) (x11 : Nat → Int) (x12 : Nat → Int) (c : (Int × Nat × Bool × Int × Int × Nat × (Nat → Int) × (Nat → Int) × (Nat → Int) × (Nat → Bool) × (Nat → Int) × (Nat → Int) × (Nat → Int)) → Option ρ) (x : (Nat × (Nat → Int) ⊕ Int × Nat × Bool × Int × Int × Bool × Nat × (Nat → Int) × (Nat → Int) × (Nat → Int) × (Nat → Bool) × (Nat → Int) × (Nat → Int) × (Nat → Int)) → Option ρ) : (S_health_New_0   x0 x1 x2 x3 x4 x5 x6 x7 x8 x9 x10 x11 x12 c x).bind q = S_health_New_0   x0 x1 x2 x3 x4 x5 x6 x7 x8 x9 x10 x11 x12 (fun d => (c d).bind q) (fun d => (x d).bind q) := by
  simp only [S_health_New_0, bnd_cond, bnd_bind, bnd_none, bnd_sum]
def L_health_New_0 {ρ : Type} (d : Int × Nat × Bool × Int × Int × Nat × (Nat → Int) × (Nat → Int) × (Nat → Int) × (Nat → Bool) × (Nat → Int) × (Nat → Int) × (Nat → Int)) (k : (Nat × (Nat → Int) ⊕ Int × Nat × Bool × Int × Int × Bool × Nat × (Nat → Int) × (Nat → Int) × (Nat → Int) × (Nat → Bool) × (Nat → Int) × (Nat → Int) × (Nat → Int)) → Option ρ) : Option ρ := loopK (fun d c x => S_health_New_0   d.1 d.2.1 d.2.2.1 d.2.2.2.1 d.2.2.2.2.1 d.2.2.2.2.2.1 d.2.2.2.2.2.2.1 d.2.2.2.2.2.2.2.1 d.2.2.2.2.2.2.2.2.1 d.2.2.2.2.2.2.2.2.2.1 d.2.2.2.2.2.2.2.2.2.2.1 d.2.2.2.2.2.2.2.2.2.2.2.1 d.2.2.2.2.2.2.2.2.2.2.2.2 c x) 200 d k
theorem mL_health_New_0 {ρ σ : Type} (q : ρ → Option σ) (d : Int × Nat × Bool × Int × Int × Nat × (Nat → Int) × (Nat → Int) × (Nat → Int) × (Nat → Bool) × (Nat → Int) × (Nat → Int) × (Nat → Int)) (k : (Nat × (Nat → Int) ⊕ Int × Nat × Bool × Int × Int × Bool × Nat × (Nat → Int) × (Nat → Int) × (Nat → Int) × (Nat → Bool) × (Nat → Int) × (Nat → Int) × (Nat → Int)) → Option ρ) : (L_health_New_0 d k).bind q = L_health_New_0 d fun x => (k x).bind q :=
  loopK_bind q (fun d c x => ms_health_New_0    q d.1 d.2.1 d.2.2.1 d.2.2.2.1 d.2.2.2.2.1 d.2.2.2.2.2.1 d.2.2.2.2.2.2.1 d.2.2.2.2.2.2.2.1 d.2.2.2.2.2.2.2.2.1 d.2.2.2.2.2.2.2.2.2.1 d.2.2.2.2.2.2.2.2.2.2.1 d.2.2.2.2.2.2.2.2.2.2.2.1 d.2.2.2.2.2.2.2.2.2.2.2.2 c x) k _ d
theorem ds_health_New_0 {ρ : Type}  (l_0 : ∀ {ρ : Type}, (Int × Nat × Bool × Int × Int × Nat × (Nat → Int) × (Nat → Int) × (Nat → Int) × (Nat → Bool) × (Nat → Int) × (Nat → Int) × (Nat → Int)) → ((Nat × (Nat → Int) ⊕ Int × Nat × Bool × Int × Int × Bool × Nat × (Nat → Int) × (Nat → Int) × (Nat → Int) × (Nat → Bool) × (Nat → Int) × (Nat → Int) × (Nat → Int)) → Option ρ) → Option ρ) (x0 : Int) (x1 : Nat) (x2 : Bool) (x3 : Int) (x4 : Int) (x5 : Nat) (x6 : Nat → Int) (x7 : Nat → Int) (x8 : Nat → Int) (x9 : Nat → Bool) (x10 : Nat → Int) (x11 : Nat → Int) (x12 : Nat → Int) (c : St → Option ρ) (K : AX → St → Option ρ) :
    runC Try.prog (envOf []) ⟨[⟨5, [1, 3, 4, 5, 7, 8, 9, 10, 11, 12, 13, 14, 15, 16, 17, 18, 19, 20, 21, 25, 26, 27, 28, 29, 30, 31, 34, 35, 36, 37, 38, 39, 40, 41, 42, 43, 44, 45, 32, 33], []⟩], [⟨5, 1, @R_health_New_0 (@l_0)⟩], [], [], (some ⟨0, [0, 1, 2, 3, 6, 7, 8, 9, 10, 11, 12, 13, 14, 15, 16, 17, 18, 19, 20, 21, 22, 23, 24, 25, 26, 27, 28, 29, 30, 31, 32, 33, 34, 35, 36, 37, 38, 39, 40, 41, 42, 43, 44, 45], []⟩)⟩ (tmpsOf Try.prog 16) 1 200 (loopIn Try.prog 16 5)
      (St.mk
    [AV.r (RV.c (CV.f (FV.i IntKind.i64 x0))), AV.und, AV.tup [], AV.und, AV.und, AV.und, AV.r (RV.c (CV.ptr 1 (Off.k 0) 37)), AV.und, AV.und, AV.und, AV.und, AV.und, AV.und, AV.und, AV.und, AV.und,
      AV.und, AV.und, AV.und, AV.und, AV.und, AV.und, AV.r (RV.c (CV.sl 0 (Off.k 0) (Sz.s x1) 1 x2)), AV.r (RV.c (CV.f (FV.i IntKind.i64 x3))), AV.r (RV.c (CV.f (FV.i IntKind.i64 x4))), AV.und, AV.und,
      AV.und, AV.und, AV.und, AV.und, AV.und, AV.und, AV.und, AV.und, AV.und, AV.und, AV.und, AV.und, AV.und, AV.und, AV.und, AV.und, AV.und, AV.und, AV.und]
    [some [Sg.a (Sz.s x5) [Col.i IntKind.i64 x6]],
      some [Sg.a (Sz.l 6) [Col.i IntKind.i64 x7, Col.i IntKind.i64 x8, Col.b x9, Col.i IntKind.i64 x10, Col.i IntKind.i64 x11, Col.i IntKind.i64 x12], Sg.c (CV.f (FV.i IntKind.i64 0))]]
    [])
      (next (fun t => t.head 1 ⟨[⟨5, [1, 3, 4, 5, 7, 8, 9, 10, 11, 12, 13, 14, 15, 16, 17, 18, 19, 20, 21, 25, 26, 27, 28, 29, 30, 31, 34, 35, 36, 37, 38, 39, 40, 41, 42, 43, 44, 45, 32, 33], []⟩], [⟨5, 1, @R_health_New_0 (@l_0)⟩], [], [], (some ⟨0, [0, 1, 2, 3, 6, 7, 8, 9, 10, 11, 12, 13, 14, 15, 16, 17, 18, 19, 20, 21, 22, 23, 24, 25, 26, 27, 28, 29, 30, 31, 32, 33, 34, 35, 36, 37, 38, 39, 40, 41, 42, 43, 44, 45], []⟩)⟩ (loopIn Try.prog 16 5)) c K) =
    S_health_New_0   x0 x1 x2 x3 x4 x5 x6 x7 x8 x9 x10 x11 x12 (fun d => c (St.mk
  [AV.r (RV.c (CV.f (FV.i IntKind.i64 d.1))), AV.und, AV.tup [], AV.und, AV.und, AV.und, AV.r (RV.c (CV.ptr 1 (Off.k 0) 37)), AV.und, AV.und, AV.und, AV.und, AV.und, AV.und, AV.und, AV.und, AV.und,
    AV.und, AV.und, AV.und, AV.und, AV.und, AV.und, AV.r (RV.c (CV.sl 0 (Off.k 0) (Sz.s d.2.1) 1 d.2.2.1)), AV.r (RV.c (CV.f (FV.i IntKind.i64 d.2.2.2.1))),
    AV.r (RV.c (CV.f (FV.i IntKind.i64 d.2.2.2.2.1))), AV.und, AV.und, AV.und, AV.und, AV.und, AV.und, AV.und, AV.und, AV.und, AV.und, AV.und, AV.und, AV.und, AV.und, AV.und, AV.und, AV.und,
    AV.und, AV.und, AV.und, AV.und]
  [some [Sg.a (Sz.s d.2.2.2.2.2.1) [Col.i IntKind.i64 d.2.2.2.2.2.2.1]],
    some
      [Sg.a (Sz.l 6)
          [Col.i IntKind.i64 d.2.2.2.2.2.2.2.1, Col.i IntKind.i64 d.2.2.2.2.2.2.2.2.1, Col.b d.2.2.2.2.2.2.2.2.2.1,
            Col.i IntKind.i64 d.2.2.2.2.2.2.2.2.2.2.1, Col.i IntKind.i64 d.2.2.2.2.2.2.2.2.2.2.2.1,
            Col.i IntKind.i64 d.2.2.2.2.2.2.2.2.2.2.2.2],
        Sg.c (CV.f (FV.i IntKind.i64 0))]]
  [])) (Sum.elim (fun d => K (AX.ret) (St.mk
  [AV.und, AV.und, AV.und, AV.und, AV.r (RV.c CV.nilp), AV.r (RV.c (CV.f (FV.i IntKind.i64 1))), AV.und, AV.und, AV.und, AV.und, AV.und, AV.und, AV.und, AV.und, AV.und, AV.und, AV.und, AV.und, AV.und,
    AV.und, AV.und, AV.und, AV.und, AV.und, AV.und, AV.und, AV.und, AV.und, AV.und, AV.und, AV.und, AV.und, AV.und, AV.und, AV.und, AV.und, AV.und, AV.und, AV.und, AV.und, AV.und, AV.und, AV.und,
    AV.und, AV.und, AV.und]
  [some [Sg.a (Sz.s d.1) [Col.i IntKind.i64 d.2]]] [])) (fun d => K (AX.ex 0) (St.mk
  [AV.r (RV.c (CV.f (FV.i IntKind.i64 d.1))), AV.und, AV.tup [], AV.und, AV.und, AV.und, AV.r (RV.c (CV.ptr 1 (Off.k 0) 37)), AV.und, AV.und, AV.und, AV.und, AV.und, AV.und, AV.und, AV.und, AV.und,
    AV.und, AV.und, AV.und, AV.und, AV.und, AV.und, AV.r (RV.c (CV.sl 0 (Off.k 0) (Sz.s d.2.1) 1 d.2.2.1)), AV.r (RV.c (CV.f (FV.i IntKind.i64 d.2.2.2.1))),
    AV.r (RV.c (CV.f (FV.i IntKind.i64 d.2.2.2.2.1))), AV.r (RV.c (CV.f (FV.b d.2.2.2.2.2.1))), AV.und, AV.und, AV.und, AV.und, AV.und, AV.und, AV.und, AV.und, AV.und, AV.und,
    AV.und, AV.und, AV.und, AV.und, AV.und, AV.und, AV.und, AV.und, AV.und, AV.und]
  [some [Sg.a (Sz.s d.2.2.2.2.2.2.1) [Col.i IntKind.i64 d.2.2.2.2.2.2.2.1]],
    some
      [Sg.a (Sz.l 6)
          [Col.i IntKind.i64 d.2.2.2.2.2.2.2.2.1, Col.i IntKind.i64 d.2.2.2.2.2.2.2.2.2.1, Col.b d.2.2.2.2.2.2.2.2.2.2.1,
            Col.i IntKind.i64 d.2.2.2.2.2.2.2.2.2.2.2.1, Col.i IntKind.i64 d.2.2.2.2.2.2.2.2.2.2.2.2.1,
            Col.i IntKind.i64 d.2.2.2.2.2.2.2.2.2.2.2.2.2],
        Sg.c (CV.f (FV.i IntKind.i64 0))]]
  []))) := by kernel_rfl
theorem it_health_New_0 {ρ : Type} (x0 : Int) (x1 : Nat) (x2 : Bool) (x3 : Int) (x4 : Int) (x5 : Nat) (x6 : Nat → Int) (x7 : Nat → Int) (x8 : Nat → Int) (x9 : Nat → Bool) (x10 : Nat → Int) (x11 : Nat → Int) (x12 : Nat → Int) (K : AX → St → Option ρ) :
    iter (fun t => t.head 1 ⟨[⟨5, [1, 3, 4, 5, 7, 8, 9, 10, 11, 12, 13, 14, 15, 16, 17, 18, 19, 20, 21, 25, 26, 27, 28, 29, 30, 31, 34, 35, 36, 37, 38, 39, 40, 41, 42, 43, 44, 45, 32, 33], []⟩], [⟨5, 1, @R_health_New_0 (@L_health_New_0)⟩], [], [], (some ⟨0, [0, 1, 2, 3, 6, 7, 8, 9, 10, 11, 12, 13, 14, 15, 16, 17, 18, 19, 20, 21, 22, 23, 24, 25, 26, 27, 28, 29, 30, 31, 32, 33, 34, 35, 36, 37, 38, 39, 40, 41, 42, 43, 44, 45], []⟩)⟩ (loopIn Try.prog 16 5)) (runC Try.prog (envOf []) ⟨[⟨5, [1, 3, 4, 5, 7, 8, 9, 10, 11, 12, 13, 14, 15, 16, 17, 18, 19, 20, 21, 25, 26, 27, 28, 29, 30, 31, 34, 35, 36, 37, 38, 39, 40, 41, 42, 43, 44, 45, 32, 33], []⟩], [⟨5, 1, @R_health_New_0 (@L_health_New_0)⟩], [], [], (some ⟨0, [0, 1, 2, 3, 6, 7, 8, 9, 10, 11, 12, 13, 14, 15, 16, 17, 18, 19, 20, 21, 22, 23, 24, 25, 26, 27, 28, 29, 30, 31, 32, 33, 34, 35, 36, 37, 38, 39, 40, 41, 42, 43, 44, 45], []⟩)⟩ (tmpsOf Try.prog 16) 1 200 (loopIn Try.prog 16 5)) K 200
      (St.mk
    [AV.r (RV.c (CV.f (FV.i IntKind.i64 x0))), AV.und, AV.tup [], AV.und, AV.und, AV.und, AV.r (RV.c (CV.ptr 1 (Off.k 0) 37)), AV.und, AV.und, AV.und, AV.und, AV.und, AV.und, AV.und, AV.und, AV.und,
      AV.und, AV.und, AV.und, AV.und, AV.und, AV.und, AV.r (RV.c (CV.sl 0 (Off.k 0) (Sz.s x1) 1 x2)), AV.r (RV.c (CV.f (FV.i IntKind.i64 x3))), AV.r (RV.c (CV.f (FV.i IntKind.i64 x4))), AV.und, AV.und,
      AV.und, AV.und, AV.und, AV.und, AV.und, AV.und, AV.und, AV.und, AV.und, AV.und, AV.und, AV.und, AV.und, AV.und, AV.und, AV.und, AV.und, AV.und, AV.und]
    [some [Sg.a (Sz.s x5) [Col.i IntKind.i64 x6]],
      some [Sg.a (Sz.l 6) [Col.i IntKind.i64 x7, Col.i IntKind.i64 x8, Col.b x9, Col.i IntKind.i64 x10, Col.i IntKind.i64 x11, Col.i IntKind.i64 x12], Sg.c (CV.f (FV.i IntKind.i64 0))]]
    []) = L_health_New_0 (x0, x1, x2, x3, x4, x5, x6, x7, x8, x9, x10, x11, x12) (Sum.elim (fun d => K (AX.ret) (St.mk
  [AV.und, AV.und, AV.und, AV.und, AV.r (RV.c CV.nilp), AV.r (RV.c (CV.f (FV.i IntKind.i64 1))), AV.und, AV.und, AV.und, AV.und, AV.und, AV.und, AV.und, AV.und, AV.und, AV.und, AV.und, AV.und, AV.und,
    AV.und, AV.und, AV.und, AV.und, AV.und, AV.und, AV.und, AV.und, AV.und, AV.und, AV.und, AV.und, AV.und, AV.und, AV.und, AV.und, AV.und, AV.und, AV.und, AV.und, AV.und, AV.und, AV.und, AV.und,
    AV.und, AV.und, AV.und]
  [some [Sg.a (Sz.s d.1) [Col.i IntKind.i64 d.2]]] [])) (fun d => K (AX.ex 0) (St.mk
  [AV.r (RV.c (CV.f (FV.i IntKind.i64 d.1))), AV.und, AV.tup [], AV.und, AV.und, AV.und, AV.r (RV.c (CV.ptr 1 (Off.k 0) 37)), AV.und, AV.und, AV.und, AV.und, AV.und, AV.und, AV.und, AV.und, AV.und,
    AV.und, AV.und, AV.und, AV.und, AV.und, AV.und, AV.r (RV.c (CV.sl 0 (Off.k 0) (Sz.s d.2.1) 1 d.2.2.1)), AV.r (RV.c (CV.f (FV.i IntKind.i64 d.2.2.2.1))),
    AV.r (RV.c (CV.f (FV.i IntKind.i64 d.2.2.2.2.1))), AV.r (RV.c (CV.f (FV.b d.2.2.2.2.2.1))), AV.und, AV.und, AV.und, AV.und, AV.und, AV.und, AV.und, AV.und, AV.und, AV.und,
    AV.und, AV.und, AV.und, AV.und, AV.und, AV.und, AV.und, AV.und, AV.und, AV.und]
  [some [Sg.a (Sz.s d.2.2.2.2.2.2.1) [Col.i IntKind.i64 d.2.2.2.2.2.2.2.1]],
    some
      [Sg.a (Sz.l 6)
          [Col.i IntKind.i64 d.2.2.2.2.2.2.2.2.1, Col.i IntKind.i64 d.2.2.2.2.2.2.2.2.2.1, Col.b d.2.2.2.2.2.2.2.2.2.2.1,
            Col.i IntKind.i64 d.2.2.2.2.2.2.2.2.2.2.2.1, Col.i IntKind.i64 d.2.2.2.2.2.2.2.2.2.2.2.2.1,
            Col.i IntKind.i64 d.2.2.2.2.2.2.2.2.2.2.2.2.2],
        Sg.c (CV.f (FV.i IntKind.i64 0))]]
  []))) :=
  iter_loopX (emb := fun (d : Int × Nat × Bool × Int × Int × Nat × (Nat → Int) × (Nat → Int) × (Nat → Int) × (Nat → Bool) × (Nat → Int) × (Nat → Int) × (Nat → Int)) => St.mk
  [AV.r (RV.c (CV.f (FV.i IntKind.i64 d.1))), AV.und, AV.tup [], AV.und, AV.und, AV.und, AV.r (RV.c (CV.ptr 1 (Off.k 0) 37)), AV.und, AV.und, AV.und, AV.und, AV.und, AV.und, AV.und, AV.und, AV.und,
    AV.und, AV.und, AV.und, AV.und, AV.und, AV.und, AV.r (RV.c (CV.sl 0 (Off.k 0) (Sz.s d.2.1) 1 d.2.2.1)), AV.r (RV.c (CV.f (FV.i IntKind.i64 d.2.2.2.1))),
    AV.r (RV.c (CV.f (FV.i IntKind.i64 d.2.2.2.2.1))), AV.und, AV.und, AV.und, AV.und, AV.und, AV.und, AV.und, AV.und, AV.und, AV.und, AV.und, AV.und, AV.und, AV.und, AV.und, AV.und, AV.und,
    AV.und, AV.und, AV.und, AV.und]
  [some [Sg.a (Sz.s d.2.2.2.2.2.1) [Col.i IntKind.i64 d.2.2.2.2.2.2.1]],
    some
      [Sg.a (Sz.l 6)
          [Col.i IntKind.i64 d.2.2.2.2.2.2.2.1, Col.i IntKind.i64 d.2.2.2.2.2.2.2.2.1, Col.b d.2.2.2.2.2.2.2.2.2.1,
            Col.i IntKind.i64 d.2.2.2.2.2.2.2.2.2.2.1, Col.i IntKind.i64 d.2.2.2.2.2.2.2.2.2.2.2.1,
            Col.i IntKind.i64 d.2.2.2.2.2.2.2.2.2.2.2.2],
        Sg.c (CV.f (FV.i IntKind.i64 0))]]
  []) (step := fun d c x => S_health_New_0   d.1 d.2.1 d.2.2.1 d.2.2.2.1 d.2.2.2.2.1 d.2.2.2.2.2.1 d.2.2.2.2.2.2.1 d.2.2.2.2.2.2.2.1 d.2.2.2.2.2.2.2.2.1 d.2.2.2.2.2.2.2.2.2.1 d.2.2.2.2.2.2.2.2.2.2.1 d.2.2.2.2.2.2.2.2.2.2.2.1 d.2.2.2.2.2.2.2.2.2.2.2.2 c x) (kx := (Sum.elim (fun d => K (AX.ret) (St.mk
  [AV.und, AV.und, AV.und, AV.und, AV.r (RV.c CV.nilp), AV.r (RV.c (CV.f (FV.i IntKind.i64 1))), AV.und, AV.und, AV.und, AV.und, AV.und, AV.und, AV.und, AV.und, AV.und, AV.und, AV.und, AV.und, AV.und,
    AV.und, AV.und, AV.und, AV.und, AV.und, AV.und, AV.und, AV.und, AV.und, AV.und, AV.und, AV.und, AV.und, AV.und, AV.und, AV.und, AV.und, AV.und, AV.und, AV.und, AV.und, AV.und, AV.und, AV.und,
    AV.und, AV.und, AV.und]
  [some [Sg.a (Sz.s d.1) [Col.i IntKind.i64 d.2]]] [])) (fun d => K (AX.ex 0) (St.mk
  [AV.r (RV.c (CV.f (FV.i IntKind.i64 d.1))), AV.und, AV.tup [], AV.und, AV.und, AV.und, AV.r (RV.c (CV.ptr 1 (Off.k 0) 37)), AV.und, AV.und, AV.und, AV.und, AV.und, AV.und, AV.und, AV.und, AV.und,
    AV.und, AV.und, AV.und, AV.und, AV.und, AV.und, AV.r (RV.c (CV.sl 0 (Off.k 0) (Sz.s d.2.1) 1 d.2.2.1)), AV.r (RV.c (CV.f (FV.i IntKind.i64 d.2.2.2.1))),
    AV.r (RV.c (CV.f (FV.i IntKind.i64 d.2.2.2.2.1))), AV.r (RV.c (CV.f (FV.b d.2.2.2.2.2.1))), AV.und, AV.und, AV.und, AV.und, AV.und, AV.und, AV.und, AV.und, AV.und, AV.und,
    AV.und, AV.und, AV.und, AV.und, AV.und, AV.und, AV.und, AV.und, AV.und, AV.und]
  [some [Sg.a (Sz.s d.2.2.2.2.2.2.1) [Col.i IntKind.i64 d.2.2.2.2.2.2.2.1]],
    some
      [Sg.a (Sz.l 6)
          [Col.i IntKind.i64 d.2.2.2.2.2.2.2.2.1, Col.i IntKind.i64 d.2.2.2.2.2.2.2.2.2.1, Col.b d.2.2.2.2.2.2.2.2.2.2.1,
            Col.i IntKind.i64 d.2.2.2.2.2.2.2.2.2.2.2.1, Col.i IntKind.i64 d.2.2.2.2.2.2.2.2.2.2.2.2.1,
            Col.i IntKind.i64 d.2.2.2.2.2.2.2.2.2.2.2.2.2],
        Sg.c (CV.f (FV.i IntKind.i64 0))]]
  []))))
    (fun d c => ds_health_New_0  (@L_health_New_0) d.1 d.2.1 d.2.2.1 d.2.2.2.1 d.2.2.2.2.1 d.2.2.2.2.2.1 d.2.2.2.2.2.2.1 d.2.2.2.2.2.2.2.1 d.2.2.2.2.2.2.2.2.1 d.2.2.2.2.2.2.2.2.2.1 d.2.2.2.2.2.2.2.2.2.2.1 d.2.2.2.2.2.2.2.2.2.2.2.1 d.2.2.2.2.2.2.2.2.2.2.2.2 c K) 200 (x0, x1, x2, x3, x4, x5, x6, x7, x8, x9, x10, x11, x12)
theorem so_health_New_0 [Amb] : ∀ kk, SumOK Try.prog (envOf []) ⟨[⟨5, [1, 3, 4, 5, 7, 8, 9, 10, 11, 12, 13, 14, 15, 16, 17, 18, 19, 20, 21, 25, 26, 27, 28, 29, 30, 31, 34, 35, 36, 37, 38, 39, 40, 41, 42, 43, 44, 45, 32, 33], []⟩], [⟨5, 1, @R_health_New_0 (@L_health_New_0)⟩], [], [], (some ⟨0, [0, 1, 2, 3, 6, 7, 8, 9, 10, 11, 12, 13, 14, 15, 16, 17, 18, 19, 20, 21, 22, 23, 24, 25, 26, 27, 28, 29, 30, 31, 32, 33, 34, 35, 36, 37, 38, 39, 40, 41, 42, 43, 44, 45], []⟩)⟩ (tmpsOf Try.prog 16) kk 200 (loopIn Try.prog 16 5) :=
  SumOK.of (id := 5) (k0 := 1) (run := @R_health_New_0 (@L_health_New_0)) (by kernel_rfl) fun s K r hr => by
    unfold R_health_New_0 at hr
    obtain ⟨b, hb, hr1⟩ := Option.bind_eq_some_iff.1 hr
    have e := ((Q_health_New_0).ok s b hb).trans (q_health_New_0 b)
    subst e
    exact ⟨200, (it_health_New_0 b.1.1 b.1.2.2.2.2.2.2.2.2.2.2.2.2.2.2.2.2.2.2.2.2.2.2.1.2.2.1 b.1.2.2.2.2.2.2.2.2.2.2.2.2.2.2.2.2.2.2.2.2.2.2.1.2.2.2.2 b.1.2.2.2.2.2.2.2.2.2.2.2.2.2.2.2.2.2.2.2.2.2.2.2.1 b.1.2.2.2.2.2.2.2.2.2.2.2.2.2.2.2.2.2.2.2.2.2.2.2.2.1 b.2.1.1.1.1 b.2.1.1.1.2.1 b.2.1.2.1.1.2.1 b.2.1.2.1.1.2.2.1 b.2.1.2.1.1.2.2.2.1 b.2.1.2.1.1.2.2.2.2.1 b.2.1.2.1.1.2.2.2.2.2.1 b.2.1.2.1.1.2.2.2.2.2.2.1 K).trans hr1⟩
def K_health_New {ρ : Type}  (l_0 : ∀ {ρ : Type}, (Int × Nat × Bool × Int × Int × Nat × (Nat → Int) × (Nat → Int) × (Nat → Int) × (Nat → Bool) × (Nat → Int) × (Nat → Int) × (Nat → Int)) → ((Nat × (Nat → Int) ⊕ Int × Nat × Bool × Int × Int × Bool × Nat × (Nat → Int) × (Nat → Int) × (Nat → Int) × (Nat → Bool) × (Nat → Int) × (Nat → Int) × (Nat → Int)) → Option ρ) → Option ρ) (x0 : Int) (x1 : Nat) (x2 : Nat → Int) (w0 : Bool) (k : (Unit ⊕ (Nat → Int) × (Nat → Int) × (Nat → Bool) × (Nat → Int) × (Nat → Int) × (Nat → Int)) → Option ρ) : Option ρ :=
  bif decide (x0 < 0) then k (Sum.inl ())
  else
    bif decide (x0 > 100) then k (Sum.inl ())
    else
      bif Int.ofNat x1 != 6 then k (Sum.inl ())
      else
        l_0 (x0, x1, w0, Int.ofNat x1, 0, x1, x2, fun (x : Nat) => 0, fun (x : Nat) => 0, fun (x : Nat) => false, fun (x : Nat) => 0, fun (x : Nat) => 0, fun (x : Nat) => 0)
          (Sum.elim (fun (d : Nat × (Nat → Int)) => k (Sum.inl ()))
            fun (d : Int × Nat × Bool × Int × Int × Bool × Nat × (Nat → Int) × (Nat → Int) × (Nat → Int) × (Nat → Bool) × (Nat → Int) × (Nat → Int) × (Nat → Int)) =>
            k
              (Sum.inr
                (d.2.2.2.2.2.2.2.2.1, d.2.2.2.2.2.2.2.2.2.1, d.2.2.2.2.2.2.2.2.2.2.1, d.2.2.2.2.2.2.2.2.2.2.2.1,
                  d.2.2.2.2.2.2.2.2.2.2.2.2.1, d.2.2.2.2.2.2.2.2.2.2.2.2.2)))
def f_health_New (x0 : Int) (x1 : Nat) (x2 : Nat → Int) (w0 : Bool) : Option (Unit ⊕ (Nat → Int) × (Nat → Int) × (Nat → Bool) × (Nat → Int) × (Nat → Int) × (Nat → Int)) := K_health_New  (@L_health_New_0) x0 x1 x2 w0 some
section
open Go.Ab.Rdr
def QA_health_New := ((pair (cons (ar (rc (cf (fi .i64 hole)))) (cons (ar (rc (csl (nat 0) (ok' (nat 0)) (szs hole) (nat 1) hole))) nil)) (cons (cons (ga (szs hole) (cons (ki .i64 hole) nil)) nil) nil)) : Rdr (List AV × List Blk) _)
end
def F0_health_New (f : (Int) → (Nat) → (Nat → Int) → (Bool) → Option (Unit ⊕ (Nat → Int) × (Nat → Int) × (Nat → Bool) × (Nat → Int) × (Nat → Int) × (Nat → Int))) : Sem1 := fun args h => match (QA_health_New).rd (args, h) with
  | some b => .test (Nat.beq b.2.1.1.1 b.1.2.1.2.2.1) (.opt (f b.1.1 b.1.2.1.2.2.1 b.2.1.1.2.1 b.1.2.1.2.2.2.2) fun d0 => T.sum d0 (fun (d : Unit) => .leaf (Res.mk (AV.tup [RV.c CV.nilp, RV.c (CV.f (FV.i IntKind.i64 1))]) [Ch.keep] [])) (fun (d : (Nat → Int) × (Nat → Int) × (Nat → Bool) × (Nat → Int) × (Nat → Int) × (Nat → Int)) => .leaf (Res.mk (AV.tup [RV.c (CV.ptr 1 (Off.k 0) 37), RV.c (CV.f (FV.i IntKind.i64 0))]) [Ch.keep]
    [[Sg.a (Sz.l 6)
          [Col.i IntKind.i64 d.1, Col.i IntKind.i64 d.2.1, Col.b d.2.2.1, Col.i IntKind.i64 d.2.2.2.1, Col.i IntKind.i64 d.2.2.2.2.1,
            Col.i IntKind.i64 d.2.2.2.2.2],
        Sg.c (CV.f (FV.i IntKind.i64 0))]]))) .fail
  | none => .fail
def F_health_New (f : (Int) → (Nat) → (Nat → Int) → (Bool) → Option (Unit ⊕ (Nat → Int) × (Nat → Int) × (Nat → Bool) × (Nat → Int) × (Nat → Int) × (Nat → Int))) : Sem1 := (nilF 1 [.i .i64] (F0_health_New f))
theorem d_health_New  (l_0 : ∀ {ρ : Type}, (Int × Nat × Bool × Int × Int × Nat × (Nat → Int) × (Nat → Int) × (Nat → Int) × (Nat → Bool) × (Nat → Int) × (Nat → Int) × (Nat → Int)) → ((Nat × (Nat → Int) ⊕ Int × Nat × Bool × Int × Int × Bool × Nat × (Nat → Int) × (Nat → Int) × (Nat → Int) × (Nat → Bool) × (Nat → Int) × (Nat → Int) × (Nat → Int)) → Option ρ) → Option ρ) (x0 : Int) (x1 : Nat) (x2 : Nat → Int) (w0 : Bool) : den Try.prog (envOf []) ⟨[⟨5, [1, 3, 4, 5, 7, 8, 9, 10, 11, 12, 13, 14, 15, 16, 17, 18, 19, 20, 21, 25, 26, 27, 28, 29, 30, 31, 34, 35, 36, 37, 38, 39, 40, 41, 42, 43, 44, 45, 32, 33], []⟩], [⟨5, 1, @R_health_New_0 (@l_0)⟩], [], [], (some ⟨0, [0, 1, 2, 3, 6, 7, 8, 9, 10, 11, 12, 13, 14, 15, 16, 17, 18, 19, 20, 21, 22, 23, 24, 25, 26, 27, 28, 29, 30, 31, 32, 33, 34, 35, 36, 37, 38, 39, 40, 41, 42, 43, 44, 45], []⟩)⟩ 200 16 [.r (.c (.f (.i .i64 x0))), .r (.c (.sl 0 (.k 0) (.s x1) 1 w0))] [[.a (.s x1) [.i .i64 x2]]] =
    K_health_New  (@l_0) x0 x1 x2 w0 ((Sum.elim (fun (d : Unit) => some (Res.mk (AV.tup [RV.c CV.nilp, RV.c (CV.f (FV.i IntKind.i64 1))]) [Ch.keep] [])) (fun (d : (Nat → Int) × (Nat → Int) × (Nat → Bool) × (Nat → Int) × (Nat → Int) × (Nat → Int)) => some (Res.mk (AV.tup [RV.c (CV.ptr 1 (Off.k 0) 37), RV.c (CV.f (FV.i IntKind.i64 0))]) [Ch.keep]
    [[Sg.a (Sz.l 6)
          [Col.i IntKind.i64 d.1, Col.i IntKind.i64 d.2.1, Col.b d.2.2.1, Col.i IntKind.i64 d.2.2.2.1, Col.i IntKind.i64 d.2.2.2.2.1,
            Col.i IntKind.i64 d.2.2.2.2.2],
        Sg.c (CV.f (FV.i IntKind.i64 0))]])))) := by kernel_rfl
theorem m_health_New {ρ σ : Type} (q : ρ → Option σ)  (l_0 : ∀ {ρ : Type}, (Int × Nat × Bool × Int × Int × Nat × (Nat → Int) × (Nat → Int) × (Nat → Int) × (Nat → Bool) × (Nat → Int) × (Nat → Int) × (Nat → Int)) → ((Nat × (Nat → Int) ⊕ Int × Nat × Bool × Int × Int × Bool × Nat × (Nat → Int) × (Nat → Int) × (Nat → Int) × (Nat → Bool) × (Nat → Int) × (Nat → Int) × (Nat → Int)) → Option ρ) → Option ρ) (hl_0 : ∀ {ρ σ : Type} (q : ρ → Option σ) (d : Int × Nat × Bool × Int × Int × Nat × (Nat → Int) × (Nat → Int) × (Nat → Int) × (Nat → Bool) × (Nat → Int) × (Nat → Int) × (Nat → Int)) (k : (Nat × (Nat → Int) ⊕ Int × Nat × Bool × Int × Int × Bool × Nat × (Nat → Int) × (Nat → Int) × (Nat → Int) × (Nat → Bool) × (Nat → Int) × (Nat → Int) × (Nat → Int)) → Option ρ), (l_0 d k).bind q = l_0 d fun x => (k x).bind q) (x0 : Int) (x1 : Nat) (x2 : Nat → Int) (w0 : Bool) (k : (Unit ⊕ (Nat → Int) × (Nat → Int) × (Nat → Bool) × (Nat → Int) × (Nat → Int) × (Nat → Int)) → Option ρ) : (K_health_New  (@l_0) x0 x1 x2 w0 k).bind q = K_health_New  (@l_0) x0 x1 x2 w0 (fun d => (k d).bind q) := by
  simp only [K_health_New, bnd_cond, bnd_bind, bnd_none, bnd_sum, hl_0]
theorem qa_health_New : ∀ b, (QA_health_New).em b = ([.r (.c (.f (.i .i64 b.1.1))), .r (.c (.sl 0 (.k 0) (.s b.1.2.1.2.2.1) 1 b.1.2.1.2.2.2.2))], [[.a (.s b.2.1.1.1) [.i .i64 b.2.1.1.2.1]]]) := fun b => by kernel_rfl
theorem e_health_New {f : (Int) → (Nat) → (Nat → Int) → (Bool) → Option (Unit ⊕ (Nat → Int) × (Nat → Int) × (Nat → Bool) × (Nat → Int) × (Nat → Int) × (Nat → Int))} {args : List AV} {h : List Blk} {r : Res} (hr : (F0_health_New f args h).eval = some r) : ∃ x0 x1 x2 w0, args = [.r (.c (.f (.i .i64 x0))), .r (.c (.sl 0 (.k 0) (.s x1) 1 w0))] ∧ h = [[.a (.s x1) [.i .i64 x2]]] ∧ (f x0 x1 x2 w0).bind ((Sum.elim (fun (d : Unit) => some (Res.mk (AV.tup [RV.c CV.nilp, RV.c (CV.f (FV.i IntKind.i64 1))]) [Ch.keep] [])) (fun (d : (Nat → Int) × (Nat → Int) × (Nat → Bool) × (Nat → Int) × (Nat → Int) × (Nat → Int)) => some (Res.mk (AV.tup [RV.c (CV.ptr 1 (Off.k 0) 37), RV.c (CV.f (FV.i IntKind.i64 0))]) [Ch.keep]
    [[Sg.a (Sz.l 6)
          [Col.i IntKind.i64 d.1, Col.i IntKind.i64 d.2.1, Col.b d.2.2.1, Col.i IntKind.i64 d.2.2.2.1, Col.i IntKind.i64 d.2.2.2.2.1,
            Col.i IntKind.i64 d.2.2.2.2.2],
        Sg.c (CV.f (FV.i IntKind.i64 0))]])))) = some r := by
  unfold F0_health_New at hr
  split at hr
  · rename_i b hb
    have e := ((QA_health_New).ok _ _ hb).trans (qa_health_New b)
    obtain ⟨he, hr1⟩ := test_eval hr
    clear hr
    have hr := hr1
    clear hr1
    rw [Nat.eq_of_beq_eq_true he] at e
    clear he
    rw [opt_eval2] at hr
    simp only [sum_eval, leaf_eval] at hr
    exact ⟨b.1.1, b.1.2.1.2.2.1, b.2.1.1.2.1, b.1.2.1.2.2.2.2, (Prod.mk.inj e).1, (Prod.mk.inj e).2, hr⟩
  · cases hr
theorem n_health_New {σ : Type} (q : (Unit ⊕ (Nat → Int) × (Nat → Int) × (Nat → Bool) × (Nat → Int) × (Nat → Int) × (Nat → Int)) → Option σ) (x0 : Int) (x1 : Nat) (x2 : Nat → Int) (w0 : Bool) : (f_health_New x0 x1 x2 w0).bind q = K_health_New  (@L_health_New_0) x0 x1 x2 w0 q := by
  unfold f_health_New
  exact m_health_New q  (@L_health_New_0) (fun q d k => mL_health_New_0 q d k) x0 x1 x2 w0 some
theorem s_health_New [Amb] : Sound Try.prog 16 (F_health_New f_health_New) :=
  Sound.nil 1 [.i .i64] <| (inl_sums (l := []) (.nil _) mixed (hs := ⟨[⟨5, [1, 3, 4, 5, 7, 8, 9, 10, 11, 12, 13, 14, 15, 16, 17, 18, 19, 20, 21, 25, 26, 27, 28, 29, 30, 31, 34, 35, 36, 37, 38, 39, 40, 41, 42, 43, 44, 45, 32, 33], []⟩], [⟨5, 1, @R_health_New_0 (@L_health_New_0)⟩], [], [], (some ⟨0, [0, 1, 2, 3, 6, 7, 8, 9, 10, 11, 12, 13, 14, 15, 16, 17, 18, 19, 20, 21, 22, 23, 24, 25, 26, 27, 28, 29, 30, 31, 32, 33, 34, 35, 36, 37, 38, 39, 40, 41, 42, 43, 44, 45], []⟩)⟩) (lf := 200) (Sums.by (l := [loopIn Try.prog 16 5]) (lj := []) (by kernel_rfl) ⟨so_health_New_0, trivial⟩ (by kernel_rfl) trivial) (by kernel_rfl)).by (F := F0_health_New f_health_New) fun args b r hr => by
  obtain ⟨x0, x1, x2, w0, rfl, rfl, hr1⟩ := e_health_New hr
  exact inl_eval ((d_health_New  (@L_health_New_0) x0 x1 x2 w0).trans ((n_health_New ((Sum.elim (fun (d : Unit) => some (Res.mk (AV.tup [RV.c CV.nilp, RV.c (CV.f (FV.i IntKind.i64 1))]) [Ch.keep] [])) (fun (d : (Nat → Int) × (Nat → Int) × (Nat → Bool) × (Nat → Int) × (Nat → Int) × (Nat → Int)) => some (Res.mk (AV.tup [RV.c (CV.ptr 1 (Off.k 0) 37), RV.c (CV.f (FV.i IntKind.i64 0))]) [Ch.keep]
    [[Sg.a (Sz.l 6)
          [Col.i IntKind.i64 d.1, Col.i IntKind.i64 d.2.1, Col.b d.2.2.1, Col.i IntKind.i64 d.2.2.2.1, Col.i IntKind.i64 d.2.2.2.2.1,
            Col.i IntKind.i64 d.2.2.2.2.2],
        Sg.c (CV.f (FV.i IntKind.i64 0))]])))) x0 x1 x2 w0).symm.trans hr1))

def K_health_is {ρ : Type}   (x0 : Int) (k : (Bool) → Option ρ) : Option ρ :=
  bif decide (x0 ≥ 0) then k (decide (x0 < 6)) else k false
def f_health_is (x0 : Int) : Option (Bool) := K_health_is   x0 some
section
open Go.Ab.Rdr
def QA_health_is := ((pair (cons (ar (rc (cf (fi .i64 hole)))) nil) nil) : Rdr (List AV × List Blk) _)
end
def F_health_is (f : (Int) → Option (Bool)) : Sem1 := fun args h => match (QA_health_is).rd (args, h) with
  | some b => .opt (f b.1.1) fun (d : Bool) => .leaf (Res.mk (AV.r (RV.c (CV.f (FV.b d)))) [] [])
  | none => .fail
theorem d_health_is   (x0 : Int) : den Try.prog (envOf []) ⟨[], [], [], [], none⟩ 200 54 [.r (.c (.f (.i .i64 x0)))] [] =
    K_health_is   x0 (fun (d : Bool) => some (Res.mk (AV.r (RV.c (CV.f (FV.b d)))) [] [])) := by kernel_rfl
theorem m_health_is {ρ σ : Type} (q : ρ → Option σ)    (x0 : Int) (k : (Bool) → Option ρ) : (K_health_is   x0 k).bind q = K_health_is   x0 (fun d => (k d).bind q) := by
  simp only [K_health_is, bnd_cond, bnd_bind, bnd_none, bnd_sum]
theorem qa_health_is : ∀ b, (QA_health_is).em b = ([.r (.c (.f (.i .i64 b.1.1)))], []) := fun b => by kernel_rfl
theorem e_health_is {f : (Int) → Option (Bool)} {args : List AV} {h : List Blk} {r : Res} (hr : (F_health_is f args h).eval = some r) : ∃ x0, args = [.r (.c (.f (.i .i64 x0)))] ∧ h = [] ∧ (f x0).bind (fun (d : Bool) => some (Res.mk (AV.r (RV.c (CV.f (FV.b d)))) [] [])) = some r := by
  unfold F_health_is at hr
  split at hr
  · rename_i b hb
    have e := ((QA_health_is).ok _ _ hb).trans (qa_health_is b)
    rw [opt_eval2] at hr
    exact ⟨b.1.1, (Prod.mk.inj e).1, (Prod.mk.inj e).2, hr⟩
  · cases hr
theorem n_health_is {σ : Type} (q : (Bool) → Option σ) (x0 : Int) : (f_health_is x0).bind q = K_health_is   x0 q := by
  unfold f_health_is
  exact m_health_is q    x0 some
theorem s_health_is [Amb] : Sound Try.prog 54 (F_health_is f_health_is) :=
  (inl_sound (l := []) (.nil _) mixed [] [] 200 (by kernel_rfl)).by (F := F_health_is f_health_is) fun args b r hr => by
  obtain ⟨x0, rfl, rfl, hr1⟩ := e_health_is hr
  exact inl_eval ((d_health_is   x0).trans ((n_health_is (fun (d : Bool) => some (Res.mk (AV.r (RV.c (CV.f (FV.b d)))) [] [])) x0).symm.trans hr1))

def S_fuse_Count_0 {ρ : Type}   (x0 : Int) (x1 : Int) (x2 : Nat) (x3 : Bool) (x4 : Int) (x5 : Int) (x6 : Nat) (x7 : Nat → Bool) (x8 : Nat → Int) (x9 : Nat → Int) (c : (Int × Int × Nat × Bool × Int × Int × Nat × (Nat → Bool) × (Nat → Int) × (Nat → Int)) → Option ρ) (x : (Int × Int × Nat × Bool × Int × Int × Bool × Nat × (Nat → Bool) × (Nat → Int) × (Nat → Int)) → Option ρ) : Option ρ :=
  bif decide (x5 < x4) then
    bif inR x5 x2 then
      bif x7 (Int.toNat x5) then c (IntKind.wrap IntKind.i64 (x0 + 1), x1, x2, x3, x4, IntKind.wrap IntKind.i64 (x5 + 1), x6, x7, x8, x9)
      else c (x0, IntKind.wrap IntKind.i64 (x1 + 1), x2, x3, x4, IntKind.wrap IntKind.i64 (x5 + 1), x6, x7, x8, x9)
    else none
  else x (x0, x1, x2, x3, x4, x5, decide (x5 < x4), x6, x7, x8, x9)
section
open Go.Ab.Rdr
def Q_fuse_Count_0 := (st (cons aund (cons aund (cons (ar (rc (cf (fi .i64 hole)))) (cons (ar (rc (cf (fi .i64 hole)))) (cons aund (cons aund (cons (ar (rc (csl (nat 0) (ok' (nat 0)) (szs hole) (nat 3) hole))) (cons (ar (rc (cf (fi .i64 hole)))) (cons (ar (rc (cf (fi .i64 hole)))) (cons aund (cons aund (cons aund (cons aund (cons aund (cons aund (cons aund (cons aund (cons aund (cons aund (cons aund (cons aund nil))))))))))))))))))))) (cons (some' (cons (ga (szs hole) (cons (kb hole) (cons (ki .i64 hole) (cons (ki .i64 hole) nil)))) nil)) nil) nil)
end
theorem q_fuse_Count_0 : ∀ b, (Q_fuse_Count_0).em b = St.mk
    [AV.und, AV.und, AV.r (RV.c (CV.f (FV.i IntKind.i64 b.1.2.2.1))), AV.r (RV.c (CV.f (FV.i IntKind.i64 b.1.2.2.2.1))), AV.und, AV.und, AV.r (RV.c (CV.sl 0 (Off.k 0) (Sz.s b.1.2.2.2.2.2.2.1.2.2.1) 3 b.1.2.2.2.2.2.2.1.2.2.2.2)),
      AV.r (RV.c (CV.f (FV.i IntKind.i64 b.1.2.2.2.2.2.2.2.1))), AV.r (RV.c (CV.f (FV.i IntKind.i64 b.1.2.2.2.2.2.2.2.2.1))), AV.und, AV.und, AV.und, AV.und, AV.und, AV.und, AV.und, AV.und, AV.und, AV.und, AV.und, AV.und]
    [some [Sg.a (Sz.s b.2.1.1.1.1) [Col.b b.2.1.1.1.2.1, Col.i IntKind.i64 b.2.1.1.1.2.2.1, Col.i IntKind.i64 b.2.1.1.1.2.2.2.1]]] [] := fun b => by kernel_rfl
def R_fuse_Count_0 (l : ∀ {ρ : Type}, (Int × Int × Nat × Bool × Int × Int × Nat × (Nat → Bool) × (Nat → Int) × (Nat → Int)) → ((Int × Int × Nat × Bool × Int × Int × Bool × Nat × (Nat → Bool) × (Nat → Int) × (Nat → Int)) → Option ρ) → Option ρ) {ρ : Type} (s : St) (K : AX → St → Option ρ) : Option ρ := ((Q_fuse_Count_0).rd s).bind fun b => l (b.1.2.2.1, b.1.2.2.2.1, b.1.2.2.2.2.2.2.1.2.2.1, b.1.2.2.2.2.2.2.1.2.2.2.2, b.1.2.2.2.2.2.2.2.1, b.1.2.2.2.2.2.2.2.2.1, b.2.1.1.1.1, b.2.1.1.1.2.1, b.2.1.1.1.2.2.1, b.2.1.1.1.2.2.2.1) (fun d => K (AX.ex 0) (St.mk
  [AV.und, AV.und, AV.r (RV.c (CV.f (FV.i IntKind.i64 d.1))), AV.r (RV.c (CV.f (FV.i IntKind.i64 d.2.1))), AV.und, AV.und,
    AV.r (RV.c (CV.sl 0 (Off.k 0) (Sz.s d.2.2.1) 3 d.2.2.2.1)), AV.r (RV.c (CV.f (FV.i IntKind.i64 d.2.2.2.2.1))),
    AV.r (RV.c (CV.f (FV.i IntKind.i64 d.2.2.2.2.2.1))), AV.r (RV.c (CV.f (FV.b d.2.2.2.2.2.2.1))), AV.und, AV.und, AV.und, AV.und, AV.und, AV.und, AV.und, AV.und, AV.und,
    AV.und, AV.und]
  [some
      [Sg.a (Sz.s d.2.2.2.2.2.2.2.1)
          [Col.b d.2.2.2.2.2.2.2.2.1, Col.i IntKind.i64 d.2.2.2.2.2.2.2.2.2.1, Col.i IntKind.i64 d.2.2.2.2.2.2.2.2.2.2]]]
  []))
theorem ms_fuse_Count_0 {ρ σ : Type}    (q : ρ → Option σ) (x0 : Int) (x1 : Int) (x2 : Nat) (x3 : Bool) (x4 : Int) (x5 : Int) (x6 : Nat) (x7 : Nat → Bool) (x8 : Nat → Int) (x9 : Nat → Int) (c : (Int × Int × Nat × Bool × Int × Int × Nat × (Nat → Bool) × (Nat → Int) × (Nat → Int)) → Option ρ) (x : (Int × Int × Nat × Bool × Int × Int × Bool × Nat × (Nat → Bool) × (Nat → Int) × (Nat → Int)) → Option ρ) : (S_fuse_Count_0   x0 x1 x2 x3 x4 x5 x6 x7 x8 x9 c x).bind q = S_fuse_Count_0   x0 x1 x2 x3 x4 x5 x6 x7 x8 x9 (fun d => (c d).bind q) (fun d => (x d).bind q) := by
  simp only [S_fuse_Count_0, bnd_cond, bnd_bind, bnd_none, bnd_sum]
def L_fuse_Count_0 {ρ : Type} (d : Int × Int × Nat × Bool × Int × Int × Nat × (Nat → Bool) × (Nat → Int) × (Nat → Int)) (k : (Int × Int × Nat × Bool × Int × Int × Bool × Nat × (Nat → Bool) × (Nat → Int) × (Nat → Int)) → Option ρ) : Option ρ := loopK (fun d c x => S_fuse_Count_0   d.1 d.2.1 d.2.2.1 d.2.2.2.1 d.2.2.2.2.1 d.2.2.2.2.2.1 d.2.2.2.2.2.2.1 d.2.2.2.2.2.2.2.1 d.2.2.2.2.2.2.2.2.1 d.2.2.2.2.2.2.2.2.2 c x) 200 d k
theorem mL_fuse_Count_0 {ρ σ : Type} (q : ρ → Option σ) (d : Int × Int × Nat × Bool × Int × Int × Nat × (Nat → Bool) × (Nat → Int) × (Nat → Int)) (k : (Int × Int × Nat × Bool × Int × Int × Bool × Nat × (Nat → Bool) × (Nat → Int) × (Nat → Int)) → Option ρ) : (L_fuse_Count_0 d k).bind q = L_fuse_Count_0 d fun x => (k x).bind q :=
  loopK_bind q (fun d c x => ms_fuse_Count_0    q d.1 d.2.1 d.2.2.1 d.2.2.2.1 d.2.2.2.2.1 d.2.2.2.2.2.1 d.2.2.2.2.2.2.1 d.2.2.2.2.2.2.2.1 d.2.2.2.2.2.2.2.2.1 d.2.2.2.2.2.2.2.2.2 c x) k _ d
theorem ds_fuse_Count_0 {ρ : Type}  (l_0 : ∀ {ρ : Type}, (Int × Int × Nat × Bool × Int × Int × Nat × (Nat → Bool) × (Nat → Int) × (Nat → Int)) → ((Int × Int × Nat × Bool × Int × Int × Bool × Nat × (Nat → Bool) × (Nat → Int) × (Nat → Int)) → Option ρ) → Option ρ) (x0 : Int) (x1 : Int) (x2 : Nat) (x3 : Bool) (x4 : Int) (x5 : Int) (x6 : Nat) (x7 : Nat → Bool) (x8 : Nat → Int) (x9 : Nat → Int) (c : St → Option ρ) (K : AX → St → Option ρ) :
    runC Try.prog (envOf []) ⟨[⟨2, [0, 1, 4, 5, 9, 10, 11, 12, 13, 14, 15, 16, 17, 18, 19, 20], []⟩], [⟨2, 1, @R_fuse_Count_0 (@l_0)⟩], [], [], (some ⟨0, [0, 1, 4, 5, 6, 7, 8, 9, 10, 11, 12, 13, 14, 15, 16, 17, 18, 19, 20], []⟩)⟩ (tmpsOf Try.prog 55) 1 200 (loopIn Try.prog 55 2)
      (St.mk
    [AV.und, AV.und, AV.r (RV.c (CV.f (FV.i IntKind.i64 x0))), AV.r (RV.c (CV.f (FV.i IntKind.i64 x1))), AV.und, AV.und, AV.r (RV.c (CV.sl 0 (Off.k 0) (Sz.s x2) 3 x3)),
      AV.r (RV.c (CV.f (FV.i IntKind.i64 x4))), AV.r (RV.c (CV.f (FV.i IntKind.i64 x5))), AV.und, AV.und, AV.und, AV.und, AV.und, AV.und, AV.und, AV.und, AV.und, AV.und, AV.und, AV.und]
    [some [Sg.a (Sz.s x6) [Col.b x7, Col.i IntKind.i64 x8, Col.i IntKind.i64 x9]]] [])
      (next (fun t => t.head 1 ⟨[⟨2, [0, 1, 4, 5, 9, 10, 11, 12, 13, 14, 15, 16, 17, 18, 19, 20], []⟩], [⟨2, 1, @R_fuse_Count_0 (@l_0)⟩], [], [], (some ⟨0, [0, 1, 4, 5, 6, 7, 8, 9, 10, 11, 12, 13, 14, 15, 16, 17, 18, 19, 20], []⟩)⟩ (loopIn Try.prog 55 2)) c K) =
    S_fuse_Count_0   x0 x1 x2 x3 x4 x5 x6 x7 x8 x9 (fun d => c (St.mk
  [AV.und, AV.und, AV.r (RV.c (CV.f (FV.i IntKind.i64 d.1))), AV.r (RV.c (CV.f (FV.i IntKind.i64 d.2.1))), AV.und, AV.und,
    AV.r (RV.c (CV.sl 0 (Off.k 0) (Sz.s d.2.2.1) 3 d.2.2.2.1)), AV.r (RV.c (CV.f (FV.i IntKind.i64 d.2.2.2.2.1))),
    AV.r (RV.c (CV.f (FV.i IntKind.i64 d.2.2.2.2.2.1))), AV.und, AV.und, AV.und, AV.und, AV.und, AV.und, AV.und, AV.und, AV.und, AV.und, AV.und, AV.und]
  [some
      [Sg.a (Sz.s d.2.2.2.2.2.2.1)
          [Col.b d.2.2.2.2.2.2.2.1, Col.i IntKind.i64 d.2.2.2.2.2.2.2.2.1, Col.i IntKind.i64 d.2.2.2.2.2.2.2.2.2]]]
  [])) (fun d => K (AX.ex 0) (St.mk
  [AV.und, AV.und, AV.r (RV.c (CV.f (FV.i IntKind.i64 d.1))), AV.r (RV.c (CV.f (FV.i IntKind.i64 d.2.1))), AV.und, AV.und,
    AV.r (RV.c (CV.sl 0 (Off.k 0) (Sz.s d.2.2.1) 3 d.2.2.2.1)), AV.r (RV.c (CV.f (FV.i IntKind.i64 d.2.2.2.2.1))),
    AV.r (RV.c (CV.f (FV.i IntKind.i64 d.2.2.2.2.2.1))), AV.r (RV.c (CV.f (FV.b d.2.2.2.2.2.2.1))), AV.und, AV.und, AV.und, AV.und, AV.und, AV.und, AV.und, AV.und, AV.und,
    AV.und, AV.und]
  [some
      [Sg.a (Sz.s d.2.2.2.2.2.2.2.1)
          [Col.b d.2.2.2.2.2.2.2.2.1, Col.i IntKind.i64 d.2.2.2.2.2.2.2.2.2.1, Col.i IntKind.i64 d.2.2.2.2.2.2.2.2.2.2]]]
  [])) := by kernel_rfl
theorem it_fuse_Count_0 {ρ : Type} (x0 : Int) (x1 : Int) (x2 : Nat) (x3 : Bool) (x4 : Int) (x5 : Int) (x6 : Nat) (x7 : Nat → Bool) (x8 : Nat → Int) (x9 : Nat → Int) (K : AX → St → Option ρ) :
    iter (fun t => t.head 1 ⟨[⟨2, [0, 1, 4, 5, 9, 10, 11, 12, 13, 14, 15, 16, 17, 18, 19, 20], []⟩], [⟨2, 1, @R_fuse_Count_0 (@L_fuse_Count_0)⟩], [], [], (some ⟨0, [0, 1, 4, 5, 6, 7, 8, 9, 10, 11, 12, 13, 14, 15, 16, 17, 18, 19, 20], []⟩)⟩ (loopIn Try.prog 55 2)) (runC Try.prog (envOf []) ⟨[⟨2, [0, 1, 4, 5, 9, 10, 11, 12, 13, 14, 15, 16, 17, 18, 19, 20], []⟩], [⟨2, 1, @R_fuse_Count_0 (@L_fuse_Count_0)⟩], [], [], (some ⟨0, [0, 1, 4, 5, 6, 7, 8, 9, 10, 11, 12, 13, 14, 15, 16, 17, 18, 19, 20], []⟩)⟩ (tmpsOf Try.prog 55) 1 200 (loopIn Try.prog 55 2)) K 200
      (St.mk
    [AV.und, AV.und, AV.r (RV.c (CV.f (FV.i IntKind.i64 x0))), AV.r (RV.c (CV.f (FV.i IntKind.i64 x1))), AV.und, AV.und, AV.r (RV.c (CV.sl 0 (Off.k 0) (Sz.s x2) 3 x3)),
      AV.r (RV.c (CV.f (FV.i IntKind.i64 x4))), AV.r (RV.c (CV.f (FV.i IntKind.i64 x5))), AV.und, AV.und, AV.und, AV.und, AV.und, AV.und, AV.und, AV.und, AV.und, AV.und, AV.und, AV.und]
    [some [Sg.a (Sz.s x6) [Col.b x7, Col.i IntKind.i64 x8, Col.i IntKind.i64 x9]]] []) = L_fuse_Count_0 (x0, x1, x2, x3, x4, x5, x6, x7, x8, x9) (fun d => K (AX.ex 0) (St.mk
  [AV.und, AV.und, AV.r (RV.c (CV.f (FV.i IntKind.i64 d.1))), AV.r (RV.c (CV.f (FV.i IntKind.i64 d.2.1))), AV.und, AV.und,
    AV.r (RV.c (CV.sl 0 (Off.k 0) (Sz.s d.2.2.1) 3 d.2.2.2.1)), AV.r (RV.c (CV.f (FV.i IntKind.i64 d.2.2.2.2.1))),
    AV.r (RV.c (CV.f (FV.i IntKind.i64 d.2.2.2.2.2.1))), AV.r (RV.c (CV.f (FV.b d.2.2.2.2.2.2.1))), AV.und, AV.und, AV.und, AV.und, AV.und, AV.und, AV.und, AV.und, AV.und,
    AV.und, AV.und]
  [some
      [Sg.a (Sz.s d.2.2.2.2.2.2.2.1)
          [Col.b d.2.2.2.2.2.2.2.2.1, Col.i IntKind.i64 d.2.2.2.2.2.2.2.2.2.1, Col.i IntKind.i64 d.2.2.2.2.2.2.2.2.2.2]]]
  [])) :=
  iter_loopX (emb := fun (d : Int × Int × Nat × Bool × Int × Int × Nat × (Nat → Bool) × (Nat → Int) × (Nat → Int)) => St.mk
  [AV.und, AV.und, AV.r (RV.c (CV.f (FV.i IntKind.i64 d.1))), AV.r (RV.c (CV.f (FV.i IntKind.i64 d.2.1))), AV.und, AV.und,
    AV.r (RV.c (CV.sl 0 (Off.k 0) (Sz.s d.2.2.1) 3 d.2.2.2.1)), AV.r (RV.c (CV.f (FV.i IntKind.i64 d.2.2.2.2.1))),
    AV.r (RV.c (CV.f (FV.i IntKind.i64 d.2.2.2.2.2.1))), AV.und, AV.und, AV.und, AV.und, AV.und, AV.und, AV.und, AV.und, AV.und, AV.und, AV.und, AV.und]
  [some
      [Sg.a (Sz.s d.2.2.2.2.2.2.1)
          [Col.b d.2.2.2.2.2.2.2.1, Col.i IntKind.i64 d.2.2.2.2.2.2.2.2.1, Col.i IntKind.i64 d.2.2.2.2.2.2.2.2.2]]]
  []) (step := fun d c x => S_fuse_Count_0   d.1 d.2.1 d.2.2.1 d.2.2.2.1 d.2.2.2.2.1 d.2.2.2.2.2.1 d.2.2.2.2.2.2.1 d.2.2.2.2.2.2.2.1 d.2.2.2.2.2.2.2.2.1 d.2.2.2.2.2.2.2.2.2 c x) (kx := (fun d => K (AX.ex 0) (St.mk
  [AV.und, AV.und, AV.r (RV.c (CV.f (FV.i IntKind.i64 d.1))), AV.r (RV.c (CV.f (FV.i IntKind.i64 d.2.1))), AV.und, AV.und,
    AV.r (RV.c (CV.sl 0 (Off.k 0) (Sz.s d.2.2.1) 3 d.2.2.2.1)), AV.r (RV.c (CV.f (FV.i IntKind.i64 d.2.2.2.2.1))),
    AV.r (RV.c (CV.f (FV.i IntKind.i64 d.2.2.2.2.2.1))), AV.r (RV.c (CV.f (FV.b d.2.2.2.2.2.2.1))), AV.und, AV.und, AV.und, AV.und, AV.und, AV.und, AV.und, AV.und, AV.und,
    AV.und, AV.und]
  [some
      [Sg.a (Sz.s d.2.2.2.2.2.2.2.1)
          [Col.b d.2.2.2.2.2.2.2.2.1, Col.i IntKind.i64 d.2.2.2.2.2.2.2.2.2.1, Col.i IntKind.i64 d.2.2.2.2.2.2.2.2.2.2]]]
  [])))
    (fun d c => ds_fuse_Count_0  (@L_fuse_Count_0) d.1 d.2.1 d.2.2.1 d.2.2.2.1 d.2.2.2.2.1 d.2.2.2.2.2.1 d.2.2.2.2.2.2.1 d.2.2.2.2.2.2.2.1 d.2.2.2.2.2.2.2.2.1 d.2.2.2.2.2.2.2.2.2 c K) 200 (x0, x1, x2, x3, x4, x5, x6, x7, x8, x9)
theorem so_fuse_Count_0 [Amb] : ∀ kk, SumOK Try.prog (envOf []) ⟨[⟨2, [0, 1, 4, 5, 9, 10, 11, 12, 13, 14, 15, 16, 17, 18, 19, 20], []⟩], [⟨2, 1, @R_fuse_Count_0 (@L_fuse_Count_0)⟩], [], [], (some ⟨0, [0, 1, 4, 5, 6, 7, 8, 9, 10, 11, 12, 13, 14, 15, 16, 17, 18, 19, 20], []⟩)⟩ (tmpsOf Try.prog 55) kk 200 (loopIn Try.prog 55 2) :=
  SumOK.of (id := 2) (k0 := 1) (run := @R_fuse_Count_0 (@L_fuse_Count_0)) (by kernel_rfl) fun s K r hr => by
    unfold R_fuse_Count_0 at hr
    obtain ⟨b, hb, hr1⟩ := Option.bind_eq_some_iff.1 hr
    have e := ((Q_fuse_Count_0).ok s b hb).trans (q_fuse_Count_0 b)
    subst e
    exact ⟨200, (it_fuse_Count_0 b.1.2.2.1 b.1.2.2.2.1 b.1.2.2.2.2.2.2.1.2.2.1 b.1.2.2.2.2.2.2.1.2.2.2.2 b.1.2.2.2.2.2.2.2.1 b.1.2.2.2.2.2.2.2.2.1 b.2.1.1.1.1 b.2.1.1.1.2.1 b.2.1.1.1.2.2.1 b.2.1.1.1.2.2.2.1 K).trans hr1⟩
def K_fuse_Count {ρ : Type}  (l_0 : ∀ {ρ : Type}, (Int × Int × Nat × Bool × Int × Int × Nat × (Nat → Bool) × (Nat → Int) × (Nat → Int)) → ((Int × Int × Nat × Bool × Int × Int × Bool × Nat × (Nat → Bool) × (Nat → Int) × (Nat → Int)) → Option ρ) → Option ρ) (x0 : Nat) (x1 : Nat → Bool) (x2 : Nat → Int) (x3 : Nat → Int) (w0 : Bool) (k : (Int × Int) → Option ρ) : Option ρ :=
  l_0 (0, 0, x0, w0, Int.ofNat x0, 0, x0, x1, x2, x3) fun (d : Int × Int × Nat × Bool × Int × Int × Bool × Nat × (Nat → Bool) × (Nat → Int) × (Nat → Int)) => k (d.1, d.2.1)
def f_fuse_Count (x0 : Nat) (x1 : Nat → Bool) (x2 : Nat → Int) (x3 : Nat → Int) (w0 : Bool) : Option (Int × Int) := K_fuse_Count  (@L_fuse_Count_0) x0 x1 x2 x3 w0 some
section
open Go.Ab.Rdr
def QA_fuse_Count := ((pair (cons (ar (rc (csl (nat 0) (ok' (nat 0)) (szs hole) (nat 3) hole))) nil) (cons (cons (ga (szs hole) (cons (kb hole) (cons (ki .i64 hole) (cons (ki .i64 hole) nil)))) nil) nil)) : Rdr (List AV × List Blk) _)
end
def F0_fuse_Count (f : (Nat) → (Nat → Bool) → (Nat → Int) → (Nat → Int) → (Bool) → Option (Int × Int)) : Sem1 := fun args h => match (QA_fuse_Count).rd (args, h) with
  | some b => .test (Nat.beq b.2.1.1.1 b.1.1.2.2.1) (.opt (f b.1.1.2.2.1 b.2.1.1.2.1 b.2.1.1.2.2.1 b.2.1.1.2.2.2.1 b.1.1.2.2.2.2) fun (d : Int × Int) => .leaf (Res.mk (AV.tup [RV.c (CV.f (FV.i IntKind.i64 d.1)), RV.c (CV.f (FV.i IntKind.i64 d.2))]) [Ch.keep] [])) .fail
  | none => .fail
def F_fuse_Count (f : (Nat) → (Nat → Bool) → (Nat → Int) → (Nat → Int) → (Bool) → Option (Int × Int)) : Sem1 := (nilF 0 [.b, .i .i64, .i .i64] (F0_fuse_Count f))
theorem d_fuse_Count  (l_0 : ∀ {ρ : Type}, (Int × Int × Nat × Bool × Int × Int × Nat × (Nat → Bool) × (Nat → Int) × (Nat → Int)) → ((Int × Int × Nat × Bool × Int × Int × Bool × Nat × (Nat → Bool) × (Nat → Int) × (Nat → Int)) → Option ρ) → Option ρ) (x0 : Nat) (x1 : Nat → Bool) (x2 : Nat → Int) (x3 : Nat → Int) (w0 : Bool) : den Try.prog (envOf []) ⟨[⟨2, [0, 1, 4, 5, 9, 10, 11, 12, 13, 14, 15, 16, 17, 18, 19, 20], []⟩], [⟨2, 1, @R_fuse_Count_0 (@l_0)⟩], [], [], (some ⟨0, [0, 1, 4, 5, 6, 7, 8, 9, 10, 11, 12, 13, 14, 15, 16, 17, 18, 19, 20], []⟩)⟩ 200 55 [.r (.c (.sl 0 (.k 0) (.s x0) 3 w0))] [[.a (.s x0) [.b x1, .i .i64 x2, .i .i64 x3]]] =
    K_fuse_Count  (@l_0) x0 x1 x2 x3 w0 (fun (d : Int × Int) => some (Res.mk (AV.tup [RV.c (CV.f (FV.i IntKind.i64 d.1)), RV.c (CV.f (FV.i IntKind.i64 d.2))]) [Ch.keep] [])) := by kernel_rfl
theorem m_fuse_Count {ρ σ : Type} (q : ρ → Option σ)  (l_0 : ∀ {ρ : Type}, (Int × Int × Nat × Bool × Int × Int × Nat × (Nat → Bool) × (Nat → Int) × (Nat → Int)) → ((Int × Int × Nat × Bool × Int × Int × Bool × Nat × (Nat → Bool) × (Nat → Int) × (Nat → Int)) → Option ρ) → Option ρ) (hl_0 : ∀ {ρ σ : Type} (q : ρ → Option σ) (d : Int × Int × Nat × Bool × Int × Int × Nat × (Nat → Bool) × (Nat → Int) × (Nat → Int)) (k : (Int × Int × Nat × Bool × Int × Int × Bool × Nat × (Nat → Bool) × (Nat → Int) × (Nat → Int)) → Option ρ), (l_0 d k).bind q = l_0 d fun x => (k x).bind q) (x0 : Nat) (x1 : Nat → Bool) (x2 : Nat → Int) (x3 : Nat → Int) (w0 : Bool) (k : (Int × Int) → Option ρ) : (K_fuse_Count  (@l_0) x0 x1 x2 x3 w0 k).bind q = K_fuse_Count  (@l_0) x0 x1 x2 x3 w0 (fun d => (k d).bind q) := by
  simp only [K_fuse_Count, bnd_cond, bnd_bind, bnd_none, bnd_sum, hl_0]
theorem qa_fuse_Count : ∀ b, (QA_fuse_Count).em b = ([.r (.c (.sl 0 (.k 0) (.s b.1.1.2.2.1) 3 b.1.1.2.2.2.2))], [[.a (.s b.2.1.1.1) [.b b.2.1.1.2.1, .i .i64 b.2.1.1.2.2.1, .i .i64 b.2.1.1.2.2.2.1]]]) := fun b => by kernel_rfl
theorem e_fuse_Count {f : (Nat) → (Nat → Bool) → (Nat → Int) → (Nat → Int) → (Bool) → Option (Int × Int)} {args : List AV} {h : List Blk} {r : Res} (hr : (F0_fuse_Count f args h).eval = some r) : ∃ x0 x1 x2 x3 w0, args = [.r (.c (.sl 0 (.k 0) (.s x0) 3 w0))] ∧ h = [[.a (.s x0) [.b x1, .i .i64 x2, .i .i64 x3]]] ∧ (f x0 x1 x2 x3 w0).bind (fun (d : Int × Int) => some (Res.mk (AV.tup [RV.c (CV.f (FV.i IntKind.i64 d.1)), RV.c (CV.f (FV.i IntKind.i64 d.2))]) [Ch.keep] [])) = some r := by
  unfold F0_fuse_Count at hr
  split at hr
  · rename_i b hb
    have e := ((QA_fuse_Count).ok _ _ hb).trans (qa_fuse_Count b)
    obtain ⟨he, hr1⟩ := test_eval hr
    clear hr
    have hr := hr1
    clear hr1
    rw [Nat.eq_of_beq_eq_true he] at e
    clear he
    rw [opt_eval2] at hr
    exact ⟨b.1.1.2.2.1, b.2.1.1.2.1, b.2.1.1.2.2.1, b.2.1.1.2.2.2.1, b.1.1.2.2.2.2, (Prod.mk.inj e).1, (Prod.mk.inj e).2, hr⟩
  · cases hr
theorem n_fuse_Count {σ : Type} (q : (Int × Int) → Option σ) (x0 : Nat) (x1 : Nat → Bool) (x2 : Nat → Int) (x3 : Nat → Int) (w0 : Bool) : (f_fuse_Count x0 x1 x2 x3 w0).bind q = K_fuse_Count  (@L_fuse_Count_0) x0 x1 x2 x3 w0 q := by
  unfold f_fuse_Count
  exact m_fuse_Count q  (@L_fuse_Count_0) (fun q d k => mL_fuse_Count_0 q d k) x0 x1 x2 x3 w0 some
theorem s_fuse_Count [Amb] : Sound Try.prog 55 (F_fuse_Count f_fuse_Count) :=
  Sound.nil 0 [.b, .i .i64, .i .i64] <| (inl_sums (l := []) (.nil _) mixed (hs := ⟨[⟨2, [0, 1, 4, 5, 9, 10, 11, 12, 13, 14, 15, 16, 17, 18, 19, 20], []⟩], [⟨2, 1, @R_fuse_Count_0 (@L_fuse_Count_0)⟩], [], [], (some ⟨0, [0, 1, 4, 5, 6, 7, 8, 9, 10, 11, 12, 13, 14, 15, 16, 17, 18, 19, 20], []⟩)⟩) (lf := 200) (Sums.by (l := [loopIn Try.prog 55 2]) (lj := []) (by kernel_rfl) ⟨so_fuse_Count_0, trivial⟩ (by kernel_rfl) trivial) (by kernel_rfl)).by (F := F0_fuse_Count f_fuse_Count) fun args b r hr => by
  obtain ⟨x0, x1, x2, x3, w0, rfl, rfl, hr1⟩ := e_fuse_Count hr
  exact inl_eval ((d_fuse_Count  (@L_fuse_Count_0) x0 x1 x2 x3 w0).trans ((n_fuse_Count (fun (d : Int × Int) => some (Res.mk (AV.tup [RV.c (CV.f (FV.i IntKind.i64 d.1)), RV.c (CV.f (FV.i IntKind.i64 d.2))]) [Ch.keep] [])) x0 x1 x2 x3 w0).symm.trans hr1))

def K___health_Watch__Mark {ρ : Type}   (x0 : Int) (x1 : Int) (x2 : Int) (x3 : Bool) (k : (Int) → Option ρ) : Option ρ :=
  bif !x3 then k x0 else bif decide (x0 > x1) then k x0 else k x1
def f___health_Watch__Mark (x0 : Int) (x1 : Int) (x2 : Int) (x3 : Bool) : Option (Int) := K___health_Watch__Mark   x0 x1 x2 x3 some
section
open Go.Ab.Rdr
def QA___health_Watch__Mark := ((pair (cons (ar (rc (cptr (nat 0) (ok' (nat 0)) (nat 3)))) (cons (ar (rc (cf (fi .i64 hole)))) nil)) (cons (cons (gc (cf (fi .i64 hole))) (cons (gc (cf (fi .i64 hole))) (cons (gc (cf (fb hole))) nil))) nil)) : Rdr (List AV × List Blk) _)
end
def F___health_Watch__Mark (f : (Int) → (Int) → (Int) → (Bool) → Option (Int)) : Sem1 := fun args h => match (QA___health_Watch__Mark).rd (args, h) with
  | some b => .opt (f b.1.2.1 b.2.1.1 b.2.1.2.1 b.2.1.2.2.1) fun (d : Int) => .leaf (Res.mk (AV.tup []) [Ch.set [Sg.c (CV.f (FV.i IntKind.i64 d)), Sg.c (CV.f (FV.i IntKind.i64 0)), Sg.c (CV.f (FV.b true))]] [])
  | none => .fail
theorem d___health_Watch__Mark   (x0 : Int) (x1 : Int) (x2 : Int) (x3 : Bool) : den Try.prog (envOf []) ⟨[], [], [], [], none⟩ 200 25 [.r (.c (.ptr 0 (.k 0) 3)), .r (.c (.f (.i .i64 x0)))] [[.c (.f (.i .i64 x1)), .c (.f (.i .i64 x2)), .c (.f (.b x3))]] =
    K___health_Watch__Mark   x0 x1 x2 x3 (fun (d : Int) => some (Res.mk (AV.tup []) [Ch.set [Sg.c (CV.f (FV.i IntKind.i64 d)), Sg.c (CV.f (FV.i IntKind.i64 0)), Sg.c (CV.f (FV.b true))]] [])) := by kernel_rfl
theorem m___health_Watch__Mark {ρ σ : Type} (q : ρ → Option σ)    (x0 : Int) (x1 : Int) (x2 : Int) (x3 : Bool) (k : (Int) → Option ρ) : (K___health_Watch__Mark   x0 x1 x2 x3 k).bind q = K___health_Watch__Mark   x0 x1 x2 x3 (fun d => (k d).bind q) := by
  simp only [K___health_Watch__Mark, bnd_cond, bnd_bind, bnd_none, bnd_sum]
theorem qa___health_Watch__Mark : ∀ b, (QA___health_Watch__Mark).em b = ([.r (.c (.ptr 0 (.k 0) 3)), .r (.c (.f (.i .i64 b.1.2.1)))], [[.c (.f (.i .i64 b.2.1.1)), .c (.f (.i .i64 b.2.1.2.1)), .c (.f (.b b.2.1.2.2.1))]]) := fun b => by kernel_rfl
theorem e___health_Watch__Mark {f : (Int) → (Int) → (Int) → (Bool) → Option (Int)} {args : List AV} {h : List Blk} {r : Res} (hr : (F___health_Watch__Mark f args h).eval = some r) : ∃ x0 x1 x2 x3, args = [.r (.c (.ptr 0 (.k 0) 3)), .r (.c (.f (.i .i64 x0)))] ∧ h = [[.c (.f (.i .i64 x1)), .c (.f (.i .i64 x2)), .c (.f (.b x3))]] ∧ (f x0 x1 x2 x3).bind (fun (d : Int) => some (Res.mk (AV.tup []) [Ch.set [Sg.c (CV.f (FV.i IntKind.i64 d)), Sg.c (CV.f (FV.i IntKind.i64 0)), Sg.c (CV.f (FV.b true))]] [])) = some r := by
  unfold F___health_Watch__Mark at hr
  split at hr
  · rename_i b hb
    have e := ((QA___health_Watch__Mark).ok _ _ hb).trans (qa___health_Watch__Mark b)
    rw [opt_eval2] at hr
    exact ⟨b.1.2.1, b.2.1.1, b.2.1.2.1, b.2.1.2.2.1, (Prod.mk.inj e).1, (Prod.mk.inj e).2, hr⟩
  · cases hr
theorem n___health_Watch__Mark {σ : Type} (q : (Int) → Option σ) (x0 : Int) (x1 : Int) (x2 : Int) (x3 : Bool) : (f___health_Watch__Mark x0 x1 x2 x3).bind q = K___health_Watch__Mark   x0 x1 x2 x3 q := by
  unfold f___health_Watch__Mark
  exact m___health_Watch__Mark q    x0 x1 x2 x3 some
theorem s___health_Watch__Mark [Amb] : Sound Try.prog 25 (F___health_Watch__Mark f___health_Watch__Mark) :=
  (inl_sound (l := []) (.nil _) mixed [] [] 200 (by kernel_rfl)).by (F := F___health_Watch__Mark f___health_Watch__Mark) fun args b r hr => by
  obtain ⟨x0, x1, x2, x3, rfl, rfl, hr1⟩ := e___health_Watch__Mark hr
  exact inl_eval ((d___health_Watch__Mark   x0 x1 x2 x3).trans ((n___health_Watch__Mark (fun (d : Int) => some (Res.mk (AV.tup []) [Ch.set [Sg.c (CV.f (FV.i IntKind.i64 d)), Sg.c (CV.f (FV.i IntKind.i64 0)), Sg.c (CV.f (FV.b true))]] [])) x0 x1 x2 x3).symm.trans hr1))

def K___health_Watch__Miss {ρ : Type}   (x0 : Int) (x1 : Int) (x2 : Bool) (k : (Int × Int × Bool) → Option ρ) : Option ρ :=
  k (x0, if 1000 < IntKind.wrap IntKind.i64 (x1 + 1) then 1000 else IntKind.wrap IntKind.i64 (x1 + 1), x2)
def f___health_Watch__Miss (x0 : Int) (x1 : Int) (x2 : Bool) : Option (Int × Int × Bool) := K___health_Watch__Miss   x0 x1 x2 some
section
open Go.Ab.Rdr
def QA___health_Watch__Miss := ((pair (cons (ar (rc (cptr (nat 0) (ok' (nat 0)) (nat 3)))) nil) (cons (cons (gc (cf (fi .i64 hole))) (cons (gc (cf (fi .i64 hole))) (cons (gc (cf (fb hole))) nil))) nil)) : Rdr (List AV × List Blk) _)
end
def F___health_Watch__Miss (f : (Int) → (Int) → (Bool) → Option (Int × Int × Bool)) : Sem1 := fun args h => match (QA___health_Watch__Miss).rd (args, h) with
  | some b => .opt (f b.2.1.1 b.2.1.2.1 b.2.1.2.2.1) fun (d : Int × Int × Bool) => .leaf (Res.mk (AV.tup []) [Ch.set [Sg.c (CV.f (FV.i IntKind.i64 d.1)), Sg.c (CV.f (FV.i IntKind.i64 d.2.1)), Sg.c (CV.f (FV.b d.2.2))]] [])
  | none => .fail
theorem d___health_Watch__Miss   (x0 : Int) (x1 : Int) (x2 : Bool) : den Try.prog (envOf []) ⟨[], [], [], [], none⟩ 200 28 [.r (.c (.ptr 0 (.k 0) 3))] [[.c (.f (.i .i64 x0)), .c (.f (.i .i64 x1)), .c (.f (.b x2))]] =
    K___health_Watch__Miss   x0 x1 x2 (fun (d : Int × Int × Bool) => some (Res.mk (AV.tup []) [Ch.set [Sg.c (CV.f (FV.i IntKind.i64 d.1)), Sg.c (CV.f (FV.i IntKind.i64 d.2.1)), Sg.c (CV.f (FV.b d.2.2))]] [])) := by kernel_rfl
theorem m___health_Watch__Miss {ρ σ : Type} (q : ρ → Option σ)    (x0 : Int) (x1 : Int) (x2 : Bool) (k : (Int × Int × Bool) → Option ρ) : (K___health_Watch__Miss   x0 x1 x2 k).bind q = K___health_Watch__Miss   x0 x1 x2 (fun d => (k d).bind q) := by
  simp only [K___health_Watch__Miss, bnd_cond, bnd_bind, bnd_none, bnd_sum]
theorem qa___health_Watch__Miss : ∀ b, (QA___health_Watch__Miss).em b = ([.r (.c (.ptr 0 (.k 0) 3))], [[.c (.f (.i .i64 b.2.1.1)), .c (.f (.i .i64 b.2.1.2.1)), .c (.f (.b b.2.1.2.2.1))]]) := fun b => by kernel_rfl
theorem e___health_Watch__Miss {f : (Int) → (Int) → (Bool) → Option (Int × Int × Bool)} {args : List AV} {h : List Blk} {r : Res} (hr : (F___health_Watch__Miss f args h).eval = some r) : ∃ x0 x1 x2, args = [.r (.c (.ptr 0 (.k 0) 3))] ∧ h = [[.c (.f (.i .i64 x0)), .c (.f (.i .i64 x1)), .c (.f (.b x2))]] ∧ (f x0 x1 x2).bind (fun (d : Int × Int × Bool) => some (Res.mk (AV.tup []) [Ch.set [Sg.c (CV.f (FV.i IntKind.i64 d.1)), Sg.c (CV.f (FV.i IntKind.i64 d.2.1)), Sg.c (CV.f (FV.b d.2.2))]] [])) = some r := by
  unfold F___health_Watch__Miss at hr
  split at hr
  · rename_i b hb
    have e := ((QA___health_Watch__Miss).ok _ _ hb).trans (qa___health_Watch__Miss b)
    rw [opt_eval2] at hr
    exact ⟨b.2.1.1, b.2.1.2.1, b.2.1.2.2.1, (Prod.mk.inj e).1, (Prod.mk.inj e).2, hr⟩
  · cases hr
theorem n___health_Watch__Miss {σ : Type} (q : (Int × Int × Bool) → Option σ) (x0 : Int) (x1 : Int) (x2 : Bool) : (f___health_Watch__Miss x0 x1 x2).bind q = K___health_Watch__Miss   x0 x1 x2 q := by
  unfold f___health_Watch__Miss
  exact m___health_Watch__Miss q    x0 x1 x2 some
theorem s___health_Watch__Miss [Amb] : Sound Try.prog 28 (F___health_Watch__Miss f___health_Watch__Miss) :=
  (inl_sound (l := []) (.nil _) mixed [] [] 200 (by kernel_rfl)).by (F := F___health_Watch__Miss f___health_Watch__Miss) fun args b r hr => by
  obtain ⟨x0, x1, x2, rfl, rfl, hr1⟩ := e___health_Watch__Miss hr
  exact inl_eval ((d___health_Watch__Miss   x0 x1 x2).trans ((n___health_Watch__Miss (fun (d : Int × Int × Bool) => some (Res.mk (AV.tup []) [Ch.set [Sg.c (CV.f (FV.i IntKind.i64 d.1)), Sg.c (CV.f (FV.i IntKind.i64 d.2.1)), Sg.c (CV.f (FV.b d.2.2))]] [])) x0 x1 x2).symm.trans hr1))

def K___health_Monitor__Result {ρ : Type} (g_health_is : Int → Option Bool) (g_fuse_Count : Nat → (Nat → Bool) → (Nat → Int) → (Nat → Int) → Bool → Option (Int × Int)) (g___health_Watch__Mark : Int → Int → Int → Bool → Option Int) (g___health_Watch__Miss : Int → Int → Bool → Option (Int × Int × Bool))  (x0 : Int) (x1 : Int) (x2 : Nat) (x3 : Nat → Int) (x4 : Nat → Int) (x5 : Nat → Bool) (x6 : Nat → Int) (x7 : Nat → Int) (x8 : Nat → Int) (x9 : Int) (x10 : Nat → Bool) (x11 : Nat → Int) (x12 : Nat → Int) (w0 : Bool) (k : ((Nat → Int) × (Nat → Int) × (Nat → Bool) × (Nat → Int) × (Nat → Int) × (Nat → Int) × Int) → Option ρ) : Option ρ :=
  Option.bind (g_health_is x0) fun (d : Bool) =>
    bif !d then k (x3, x4, x5, x6, x7, x8, x9)
    else
      bif Int.ofNat x2 == 0 then k (x3, x4, x5, x6, x7, x8, x9)
      else
        bif Nat.beq x2 x2 then
          Option.bind (g_fuse_Count x2 x10 x11 x12 (w0 && true)) fun (d : Int × Int) =>
            bif decide (d.1 > 0) then
              bif inR x0 6 then
                bif Nat.ble (0 + Int.toNat x0 * 6 + 3) 36 then
                  Option.bind (g___health_Watch__Mark x1 (x3 (Int.toNat x0)) (x4 (Int.toNat x0)) (x5 (Int.toNat x0))) fun (d : Int) =>
                    bif Nat.ble (0 + Int.toNat x0 * 6 + 3) 36 && Nat.ble (0 + Int.toNat x0 * 6 + 3) 37 then
                      k
                        (fun (j : Nat) => bif Nat.beq j (Int.toNat x0) then d else x3 j, fun (j : Nat) => bif Nat.beq j (Int.toNat x0) then 0 else x4 j, fun (j : Nat) =>
                          bif Nat.beq j (Int.toNat x0) then true else x5 j, x6, x7, x8, x9)
                    else none
                else none
              else none
            else
              bif inR x0 6 then
                bif Nat.ble (0 + Int.toNat x0 * 6 + 3) 36 then
                  Option.bind (g___health_Watch__Miss (x3 (Int.toNat x0)) (x4 (Int.toNat x0)) (x5 (Int.toNat x0))) fun (d : Int × Int × Bool) =>
                    bif Nat.ble (0 + Int.toNat x0 * 6 + 3) 36 && Nat.ble (0 + Int.toNat x0 * 6 + 3) 37 then
                      k
                        (fun (j : Nat) => bif Nat.beq j (Int.toNat x0) then d.1 else x3 j, fun (j : Nat) => bif Nat.beq j (Int.toNat x0) then d.2.1 else x4 j, fun (j : Nat) =>
                          bif Nat.beq j (Int.toNat x0) then d.2.2 else x5 j, x6, x7, x8, x9)
                    else none
                else none
              else none
        else none
def f___health_Monitor__Result (x0 : Int) (x1 : Int) (x2 : Nat) (x3 : Nat → Int) (x4 : Nat → Int) (x5 : Nat → Bool) (x6 : Nat → Int) (x7 : Nat → Int) (x8 : Nat → Int) (x9 : Int) (x10 : Nat → Bool) (x11 : Nat → Int) (x12 : Nat → Int) (w0 : Bool) : Option ((Nat → Int) × (Nat → Int) × (Nat → Bool) × (Nat → Int) × (Nat → Int) × (Nat → Int) × Int) := K___health_Monitor__Result f_health_is f_fuse_Count f___health_Watch__Mark f___health_Watch__Miss  x0 x1 x2 x3 x4 x5 x6 x7 x8 x9 x10 x11 x12 w0 some
section
open Go.Ab.Rdr
def QA___health_Monitor__Result := ((pair (cons (ar (rc (cptr (nat 0) (ok' (nat 0)) (nat 37)))) (cons (ar (rc (cf (fi .i64 hole)))) (cons (ar (rc (cf (fi .i64 hole)))) (cons (ar (rc (csl (nat 1) (ok' (nat 0)) (szs hole) (nat 3) hole))) nil)))) (cons (cons (ga (szl (nat 6)) (cons (ki .i64 hole) (cons (ki .i64 hole) (cons (kb hole) (cons (ki .i64 hole) (cons (ki .i64 hole) (cons (ki .i64 hole) nil))))))) (cons (gc (cf (fi .i64 hole))) nil)) (cons (cons (ga (szs hole) (cons (kb hole) (cons (ki .i64 hole) (cons (ki .i64 hole) nil)))) nil) nil))) : Rdr (List AV × List Blk) _)
end
def F0___health_Monitor__Result (f : (Int) → (Int) → (Nat) → (Nat → Int) → (Nat → Int) → (Nat → Bool) → (Nat → Int) → (Nat → Int) → (Nat → Int) → (Int) → (Nat → Bool) → (Nat → Int) → (Nat → Int) → (Bool) → Option ((Nat → Int) × (Nat → Int) × (Nat → Bool) × (Nat → Int) × (Nat → Int) × (Nat → Int) × Int)) : Sem1 := fun args h => match (QA___health_Monitor__Result).rd (args, h) with
  | some b => .test (Nat.beq b.2.2.1.1.1 b.1.2.2.2.1.2.2.1) (.opt (f b.1.2.1 b.1.2.2.1 b.1.2.2.2.1.2.2.1 b.2.1.1.2.1 b.2.1.1.2.2.1 b.2.1.1.2.2.2.1 b.2.1.1.2.2.2.2.1 b.2.1.1.2.2.2.2.2.1 b.2.1.1.2.2.2.2.2.2.1 b.2.1.2.1 b.2.2.1.1.2.1 b.2.2.1.1.2.2.1 b.2.2.1.1.2.2.2.1 b.1.2.2.2.1.2.2.2.2) fun (d : (Nat → Int) × (Nat → Int) × (Nat → Bool) × (Nat → Int) × (Nat → Int) × (Nat → Int) × Int) => .leaf (Res.mk (AV.tup [])
    [Ch.set
        [Sg.a (Sz.l 6)
            [Col.i IntKind.i64 d.1, Col.i IntKind.i64 d.2.1, Col.b d.2.2.1, Col.i IntKind.i64 d.2.2.2.1, Col.i IntKind.i64 d.2.2.2.2.1,
              Col.i IntKind.i64 d.2.2.2.2.2.1],
          Sg.c (CV.f (FV.i IntKind.i64 d.2.2.2.2.2.2))],
      Ch.keep]
    [])) .fail
  | none => .fail
def F___health_Monitor__Result (f : (Int) → (Int) → (Nat) → (Nat → Int) → (Nat → Int) → (Nat → Bool) → (Nat → Int) → (Nat → Int) → (Nat → Int) → (Int) → (Nat → Bool) → (Nat → Int) → (Nat → Int) → (Bool) → Option ((Nat → Int) × (Nat → Int) × (Nat → Bool) × (Nat → Int) × (Nat → Int) × (Nat → Int) × Int)) : Sem1 := (nilF 3 [.b, .i .i64, .i .i64] (F0___health_Monitor__Result f))
theorem d___health_Monitor__Result (g_health_is : Int → Option Bool) (g_fuse_Count : Nat → (Nat → Bool) → (Nat → Int) → (Nat → Int) → Bool → Option (Int × Int)) (g___health_Watch__Mark : Int → Int → Int → Bool → Option Int) (g___health_Watch__Miss : Int → Int → Bool → Option (Int × Int × Bool))  (x0 : Int) (x1 : Int) (x2 : Nat) (x3 : Nat → Int) (x4 : Nat → Int) (x5 : Nat → Bool) (x6 : Nat → Int) (x7 : Nat → Int) (x8 : Nat → Int) (x9 : Int) (x10 : Nat → Bool) (x11 : Nat → Int) (x12 : Nat → Int) (w0 : Bool) : den Try.prog (envOf [(54, F_health_is g_health_is), (55, F_fuse_Count g_fuse_Count), (25, F___health_Watch__Mark g___health_Watch__Mark), (28, F___health_Watch__Miss g___health_Watch__Miss)]) ⟨[], [], [0], [], none⟩ 200 21 [.r (.c (.ptr 0 (.k 0) 37)), .r (.c (.f (.i .i64 x0))), .r (.c (.f (.i .i64 x1))), .r (.c (.sl 1 (.k 0) (.s x2) 3 w0))] [[.a (.l 6) [.i .i64 x3, .i .i64 x4, .b x5, .i .i64 x6, .i .i64 x7, .i .i64 x8], .c (.f (.i .i64 x9))], [.a (.s x2) [.b x10, .i .i64 x11, .i .i64 x12]]] =
    K___health_Monitor__Result g_health_is g_fuse_Count g___health_Watch__Mark g___health_Watch__Miss  x0 x1 x2 x3 x4 x5 x6 x7 x8 x9 x10 x11 x12 w0 (fun (d : (Nat → Int) × (Nat → Int) × (Nat → Bool) × (Nat → Int) × (Nat → Int) × (Nat → Int) × Int) => some (Res.mk (AV.tup [])
    [Ch.set
        [Sg.a (Sz.l 6)
            [Col.i IntKind.i64 d.1, Col.i IntKind.i64 d.2.1, Col.b d.2.2.1, Col.i IntKind.i64 d.2.2.2.1, Col.i IntKind.i64 d.2.2.2.2.1,
              Col.i IntKind.i64 d.2.2.2.2.2.1],
          Sg.c (CV.f (FV.i IntKind.i64 d.2.2.2.2.2.2))],
      Ch.keep]
    [])) := by kernel_rfl
theorem m___health_Monitor__Result {ρ σ : Type} (q : ρ → Option σ) (g_health_is : Int → Option Bool) (g_fuse_Count : Nat → (Nat → Bool) → (Nat → Int) → (Nat → Int) → Bool → Option (Int × Int)) (g___health_Watch__Mark : Int → Int → Int → Bool → Option Int) (g___health_Watch__Miss : Int → Int → Bool → Option (Int × Int × Bool))   (x0 : Int) (x1 : Int) (x2 : Nat) (x3 : Nat → Int) (x4 : Nat → Int) (x5 : Nat → Bool) (x6 : Nat → Int) (x7 : Nat → Int) (x8 : Nat → Int) (x9 : Int) (x10 : Nat → Bool) (x11 : Nat → Int) (x12 : Nat → Int) (w0 : Bool) (k : ((Nat → Int) × (Nat → Int) × (Nat → Bool) × (Nat → Int) × (Nat → Int) × (Nat → Int) × Int) → Option ρ) : (K___health_Monitor__Result g_health_is g_fuse_Count g___health_Watch__Mark g___health_Watch__Miss  x0 x1 x2 x3 x4 x5 x6 x7 x8 x9 x10 x11 x12 w0 k).bind q = K___health_Monitor__Result g_health_is g_fuse_Count g___health_Watch__Mark g___health_Watch__Miss  x0 x1 x2 x3 x4 x5 x6 x7 x8 x9 x10 x11 x12 w0 (fun d => (k d).bind q) := by
  simp only [K___health_Monitor__Result, bnd_cond, bnd_bind, bnd_none, bnd_sum]
theorem qa___health_Monitor__Result : ∀ b, (QA___health_Monitor__Result).em b = ([.r (.c (.ptr 0 (.k 0) 37)), .r (.c (.f (.i .i64 b.1.2.1))), .r (.c (.f (.i .i64 b.1.2.2.1))), .r (.c (.sl 1 (.k 0) (.s b.1.2.2.2.1.2.2.1) 3 b.1.2.2.2.1.2.2.2.2))], [[.a (.l 6) [.i .i64 b.2.1.1.2.1, .i .i64 b.2.1.1.2.2.1, .b b.2.1.1.2.2.2.1, .i .i64 b.2.1.1.2.2.2.2.1, .i .i64 b.2.1.1.2.2.2.2.2.1, .i .i64 b.2.1.1.2.2.2.2.2.2.1], .c (.f (.i .i64 b.2.1.2.1))], [.a (.s b.2.2.1.1.1) [.b b.2.2.1.1.2.1, .i .i64 b.2.2.1.1.2.2.1, .i .i64 b.2.2.1.1.2.2.2.1]]]) := fun b => by kernel_rfl
theorem e___health_Monitor__Result {f : (Int) → (Int) → (Nat) → (Nat → Int) → (Nat → Int) → (Nat → Bool) → (Nat → Int) → (Nat → Int) → (Nat → Int) → (Int) → (Nat → Bool) → (Nat → Int) → (Nat → Int) → (Bool) → Option ((Nat → Int) × (Nat → Int) × (Nat → Bool) × (Nat → Int) × (Nat → Int) × (Nat → Int) × Int)} {args : List AV} {h : List Blk} {r : Res} (hr : (F0___health_Monitor__Result f args h).eval = some r) : ∃ x0 x1 x2 x3 x4 x5 x6 x7 x8 x9 x10 x11 x12 w0, args = [.r (.c (.ptr 0 (.k 0) 37)), .r (.c (.f (.i .i64 x0))), .r (.c (.f (.i .i64 x1))), .r (.c (.sl 1 (.k 0) (.s x2) 3 w0))] ∧ h = [[.a (.l 6) [.i .i64 x3, .i .i64 x4, .b x5, .i .i64 x6, .i .i64 x7, .i .i64 x8], .c (.f (.i .i64 x9))], [.a (.s x2) [.b x10, .i .i64 x11, .i .i64 x12]]] ∧ (f x0 x1 x2 x3 x4 x5 x6 x7 x8 x9 x10 x11 x12 w0).bind (fun (d : (Nat → Int) × (Nat → Int) × (Nat → Bool) × (Nat → Int) × (Nat → Int) × (Nat → Int) × Int) => some (Res.mk (AV.tup [])
    [Ch.set
        [Sg.a (Sz.l 6)
            [Col.i IntKind.i64 d.1, Col.i IntKind.i64 d.2.1, Col.b d.2.2.1, Col.i IntKind.i64 d.2.2.2.1, Col.i IntKind.i64 d.2.2.2.2.1,
              Col.i IntKind.i64 d.2.2.2.2.2.1],
          Sg.c (CV.f (FV.i IntKind.i64 d.2.2.2.2.2.2))],
      Ch.keep]
    [])) = some r := by
  unfold F0___health_Monitor__Result at hr
  split at hr
  · rename_i b hb
    have e := ((QA___health_Monitor__Result).ok _ _ hb).trans (qa___health_Monitor__Result b)
    obtain ⟨he, hr1⟩ := test_eval hr
    clear hr
    have hr := hr1
    clear hr1
    rw [Nat.eq_of_beq_eq_true he] at e
    clear he
    rw [opt_eval2] at hr
    exact ⟨b.1.2.1, b.1.2.2.1, b.1.2.2.2.1.2.2.1, b.2.1.1.2.1, b.2.1.1.2.2.1, b.2.1.1.2.2.2.1, b.2.1.1.2.2.2.2.1, b.2.1.1.2.2.2.2.2.1, b.2.1.1.2.2.2.2.2.2.1, b.2.1.2.1, b.2.2.1.1.2.1, b.2.2.1.1.2.2.1, b.2.2.1.1.2.2.2.1, b.1.2.2.2.1.2.2.2.2, (Prod.mk.inj e).1, (Prod.mk.inj e).2, hr⟩
  · cases hr
theorem n___health_Monitor__Result {σ : Type} (q : ((Nat → Int) × (Nat → Int) × (Nat → Bool) × (Nat → Int) × (Nat → Int) × (Nat → Int) × Int) → Option σ) (x0 : Int) (x1 : Int) (x2 : Nat) (x3 : Nat → Int) (x4 : Nat → Int) (x5 : Nat → Bool) (x6 : Nat → Int) (x7 : Nat → Int) (x8 : Nat → Int) (x9 : Int) (x10 : Nat → Bool) (x11 : Nat → Int) (x12 : Nat → Int) (w0 : Bool) : (f___health_Monitor__Result x0 x1 x2 x3 x4 x5 x6 x7 x8 x9 x10 x11 x12 w0).bind q = K___health_Monitor__Result f_health_is f_fuse_Count f___health_Watch__Mark f___health_Watch__Miss  x0 x1 x2 x3 x4 x5 x6 x7 x8 x9 x10 x11 x12 w0 q := by
  unfold f___health_Monitor__Result
  exact m___health_Monitor__Result q f_health_is f_fuse_Count f___health_Watch__Mark f___health_Watch__Miss   x0 x1 x2 x3 x4 x5 x6 x7 x8 x9 x10 x11 x12 w0 some
theorem s___health_Monitor__Result [Amb] : Sound Try.prog 21 (F___health_Monitor__Result f___health_Monitor__Result) :=
  Sound.nil 3 [.b, .i .i64, .i .i64] <| (inl_sound (l := [(54, F_health_is f_health_is), (55, F_fuse_Count f_fuse_Count), (25, F___health_Watch__Mark f___health_Watch__Mark), (28, F___health_Watch__Miss f___health_Watch__Miss)]) (.cons s_health_is (.cons s_fuse_Count (.cons s___health_Watch__Mark (.cons s___health_Watch__Miss (.nil _))))) mixed [] [0] 200 (by kernel_rfl)).by (F := F0___health_Monitor__Result f___health_Monitor__Result) fun args b r hr => by
  obtain ⟨x0, x1, x2, x3, x4, x5, x6, x7, x8, x9, x10, x11, x12, w0, rfl, rfl, hr1⟩ := e___health_Monitor__Result hr
  exact inl_eval ((d___health_Monitor__Result f_health_is f_fuse_Count f___health_Watch__Mark f___health_Watch__Miss  x0 x1 x2 x3 x4 x5 x6 x7 x8 x9 x10 x11 x12 w0).trans ((n___health_Monitor__Result (fun (d : (Nat → Int) × (Nat → Int) × (Nat → Bool) × (Nat → Int) × (Nat → Int) × (Nat → Int) × Int) => some (Res.mk (AV.tup [])
    [Ch.set
        [Sg.a (Sz.l 6)
            [Col.i IntKind.i64 d.1, Col.i IntKind.i64 d.2.1, Col.b d.2.2.1, Col.i IntKind.i64 d.2.2.2.1, Col.i IntKind.i64 d.2.2.2.2.1,
              Col.i IntKind.i64 d.2.2.2.2.2.1],
          Sg.c (CV.f (FV.i IntKind.i64 d.2.2.2.2.2.2))],
      Ch.keep]
    [])) x0 x1 x2 x3 x4 x5 x6 x7 x8 x9 x10 x11 x12 w0).symm.trans hr1))

def K___health_Monitor__Sensor {ρ : Type} (g_health_is : Int → Option Bool)  (x0 : Int) (x1 : Nat → Int) (x2 : Nat → Int) (x3 : Nat → Bool) (x4 : Nat → Int) (x5 : Nat → Int) (x6 : Nat → Int) (x7 : Int) (k : (Int × Int × Bool × Int × Int × Int) → Option ρ) : Option ρ :=
  Option.bind (g_health_is x0) fun (d : Bool) =>
    bif !d then k (0, 0, false, 0, 0, 0)
    else
      bif inR x0 6 then bif Nat.ble (0 + Int.toNat x0 * 6 + 6) 36 then k (x1 (Int.toNat x0), x2 (Int.toNat x0), x3 (Int.toNat x0), x4 (Int.toNat x0), x5 (Int.toNat x0), x6 (Int.toNat x0)) else none
      else none
def f___health_Monitor__Sensor (x0 : Int) (x1 : Nat → Int) (x2 : Nat → Int) (x3 : Nat → Bool) (x4 : Nat → Int) (x5 : Nat → Int) (x6 : Nat → Int) (x7 : Int) : Option (Int × Int × Bool × Int × Int × Int) := K___health_Monitor__Sensor f_health_is  x0 x1 x2 x3 x4 x5 x6 x7 some
section
open Go.Ab.Rdr
def QA___health_Monitor__Sensor := ((pair (cons (ar (rc (cptr (nat 0) (ok' (nat 0)) (nat 37)))) (cons (ar (rc (cf (fi .i64 hole)))) nil)) (cons (cons (ga (szl (nat 6)) (cons (ki .i64 hole) (cons (ki .i64 hole) (cons (kb hole) (cons (ki .i64 hole) (cons (ki .i64 hole) (cons (ki .i64 hole) nil))))))) (cons (gc (cf (fi .i64 hole))) nil)) nil)) : Rdr (List AV × List Blk) _)
end
def F___health_Monitor__Sensor (f : (Int) → (Nat → Int) → (Nat → Int) → (Nat → Bool) → (Nat → Int) → (Nat → Int) → (Nat → Int) → (Int) → Option (Int × Int × Bool × Int × Int × Int)) : Sem1 := fun args h => match (QA___health_Monitor__Sensor).rd (args, h) with
  | some b => .opt (f b.1.2.1 b.2.1.1.2.1 b.2.1.1.2.2.1 b.2.1.1.2.2.2.1 b.2.1.1.2.2.2.2.1 b.2.1.1.2.2.2.2.2.1 b.2.1.1.2.2.2.2.2.2.1 b.2.1.2.1) fun (d : Int × Int × Bool × Int × Int × Int) => .leaf (Res.mk (AV.r (RV.c (CV.ptr 1 (Off.k 0) 6))) [Ch.keep]
    [[Sg.c (CV.f (FV.i IntKind.i64 d.1)), Sg.c (CV.f (FV.i IntKind.i64 d.2.1)), Sg.c (CV.f (FV.b d.2.2.1)), Sg.c (CV.f (FV.i IntKind.i64 d.2.2.2.1)),
        Sg.c (CV.f (FV.i IntKind.i64 d.2.2.2.2.1)), Sg.c (CV.f (FV.i IntKind.i64 d.2.2.2.2.2))]])
  | none => .fail
theorem d___health_Monitor__Sensor (g_health_is : Int → Option Bool)  (x0 : Int) (x1 : Nat → Int) (x2 : Nat → Int) (x3 : Nat → Bool) (x4 : Nat → Int) (x5 : Nat → Int) (x6 : Nat → Int) (x7 : Int) : den Try.prog (envOf [(54, F_health_is g_health_is)]) ⟨[], [], [], [], none⟩ 200 17 [.r (.c (.ptr 0 (.k 0) 37)), .r (.c (.f (.i .i64 x0)))] [[.a (.l 6) [.i .i64 x1, .i .i64 x2, .b x3, .i .i64 x4, .i .i64 x5, .i .i64 x6], .c (.f (.i .i64 x7))]] =
    K___health_Monitor__Sensor g_health_is  x0 x1 x2 x3 x4 x5 x6 x7 (fun (d : Int × Int × Bool × Int × Int × Int) => some (Res.mk (AV.r (RV.c (CV.ptr 1 (Off.k 0) 6))) [Ch.keep]
    [[Sg.c (CV.f (FV.i IntKind.i64 d.1)), Sg.c (CV.f (FV.i IntKind.i64 d.2.1)), Sg.c (CV.f (FV.b d.2.2.1)), Sg.c (CV.f (FV.i IntKind.i64 d.2.2.2.1)),
        Sg.c (CV.f (FV.i IntKind.i64 d.2.2.2.2.1)), Sg.c (CV.f (FV.i IntKind.i64 d.2.2.2.2.2))]])) := by kernel_rfl
theorem m___health_Monitor__Sensor {ρ σ : Type} (q : ρ → Option σ) (g_health_is : Int → Option Bool)   (x0 : Int) (x1 : Nat → Int) (x2 : Nat → Int) (x3 : Nat → Bool) (x4 : Nat → Int) (x5 : Nat → Int) (x6 : Nat → Int) (x7 : Int) (k : (Int × Int × Bool × Int × Int × Int) → Option ρ) : (K___health_Monitor__Sensor g_health_is  x0 x1 x2 x3 x4 x5 x6 x7 k).bind q = K___health_Monitor__Sensor g_health_is  x0 x1 x2 x3 x4 x5 x6 x7 (fun d => (k d).bind q) := by
  simp only [K___health_Monitor__Sensor, bnd_cond, bnd_bind, bnd_none, bnd_sum]
theorem qa___health_Monitor__Sensor : ∀ b, (QA___health_Monitor__Sensor).em b = ([.r (.c (.ptr 0 (.k 0) 37)), .r (.c (.f (.i .i64 b.1.2.1)))], [[.a (.l 6) [.i .i64 b.2.1.1.2.1, .i .i64 b.2.1.1.2.2.1, .b b.2.1.1.2.2.2.1, .i .i64 b.2.1.1.2.2.2.2.1, .i .i64 b.2.1.1.2.2.2.2.2.1, .i .i64 b.2.1.1.2.2.2.2.2.2.1], .c (.f (.i .i64 b.2.1.2.1))]]) := fun b => by kernel_rfl
theorem e___health_Monitor__Sensor {f : (Int) → (Nat → Int) → (Nat → Int) → (Nat → Bool) → (Nat → Int) → (Nat → Int) → (Nat → Int) → (Int) → Option (Int × Int × Bool × Int × Int × Int)} {args : List AV} {h : List Blk} {r : Res} (hr : (F___health_Monitor__Sensor f args h).eval = some r) : ∃ x0 x1 x2 x3 x4 x5 x6 x7, args = [.r (.c (.ptr 0 (.k 0) 37)), .r (.c (.f (.i .i64 x0)))] ∧ h = [[.a (.l 6) [.i .i64 x1, .i .i64 x2, .b x3, .i .i64 x4, .i .i64 x5, .i .i64 x6], .c (.f (.i .i64 x7))]] ∧ (f x0 x1 x2 x3 x4 x5 x6 x7).bind (fun (d : Int × Int × Bool × Int × Int × Int) => some (Res.mk (AV.r (RV.c (CV.ptr 1 (Off.k 0) 6))) [Ch.keep]
    [[Sg.c (CV.f (FV.i IntKind.i64 d.1)), Sg.c (CV.f (FV.i IntKind.i64 d.2.1)), Sg.c (CV.f (FV.b d.2.2.1)), Sg.c (CV.f (FV.i IntKind.i64 d.2.2.2.1)),
        Sg.c (CV.f (FV.i IntKind.i64 d.2.2.2.2.1)), Sg.c (CV.f (FV.i IntKind.i64 d.2.2.2.2.2))]])) = some r := by
  unfold F___health_Monitor__Sensor at hr
  split at hr
  · rename_i b hb
    have e := ((QA___health_Monitor__Sensor).ok _ _ hb).trans (qa___health_Monitor__Sensor b)
    rw [opt_eval2] at hr
    exact ⟨b.1.2.1, b.2.1.1.2.1, b.2.1.1.2.2.1, b.2.1.1.2.2.2.1, b.2.1.1.2.2.2.2.1, b.2.1.1.2.2.2.2.2.1, b.2.1.1.2.2.2.2.2.2.1, b.2.1.2.1, (Prod.mk.inj e).1, (Prod.mk.inj e).2, hr⟩
  · cases hr
theorem n___health_Monitor__Sensor {σ : Type} (q : (Int × Int × Bool × Int × Int × Int) → Option σ) (x0 : Int) (x1 : Nat → Int) (x2 : Nat → Int) (x3 : Nat → Bool) (x4 : Nat → Int) (x5 : Nat → Int) (x6 : Nat → Int) (x7 : Int) : (f___health_Monitor__Sensor x0 x1 x2 x3 x4 x5 x6 x7).bind q = K___health_Monitor__Sensor f_health_is  x0 x1 x2 x3 x4 x5 x6 x7 q := by
  unfold f___health_Monitor__Sensor
  exact m___health_Monitor__Sensor q f_health_is   x0 x1 x2 x3 x4 x5 x6 x7 some
theorem s___health_Monitor__Sensor [Amb] : Sound Try.prog 17 (F___health_Monitor__Sensor f___health_Monitor__Sensor) :=
  (inl_sound (l := [(54, F_health_is f_health_is)]) (.cons s_health_is (.nil _)) mixed [] [] 200 (by kernel_rfl)).by (F := F___health_Monitor__Sensor f___health_Monitor__Sensor) fun args b r hr => by
  obtain ⟨x0, x1, x2, x3, x4, x5, x6, x7, rfl, rfl, hr1⟩ := e___health_Monitor__Sensor hr
  exact inl_eval ((d___health_Monitor__Sensor f_health_is  x0 x1 x2 x3 x4 x5 x6 x7).trans ((n___health_Monitor__Sensor (fun (d : Int × Int × Bool × Int × Int × Int) => some (Res.mk (AV.r (RV.c (CV.ptr 1 (Off.k 0) 6))) [Ch.keep]
    [[Sg.c (CV.f (FV.i IntKind.i64 d.1)), Sg.c (CV.f (FV.i IntKind.i64 d.2.1)), Sg.c (CV.f (FV.b d.2.2.1)), Sg.c (CV.f (FV.i IntKind.i64 d.2.2.2.1)),
        Sg.c (CV.f (FV.i IntKind.i64 d.2.2.2.2.1)), Sg.c (CV.f (FV.i IntKind.i64 d.2.2.2.2.2))]])) x0 x1 x2 x3 x4 x5 x6 x7).symm.trans hr1))

def K___health_Monitor__Vertical {ρ : Type}   (x0 : Bool) (x1 : Int) (x2 : Int) (x3 : Bool) (x4 : Int) (x5 : Int) (x6 : Nat → Int) (x7 : Nat → Int) (x8 : Nat → Bool) (x9 : Nat → Int) (x10 : Nat → Int) (x11 : Nat → Int) (x12 : Int) (k : ((Nat → Int) × (Nat → Int) × (Nat → Bool) × (Nat → Int) × (Nat → Int) × (Nat → Int) × Int) → Option ρ) : Option ρ :=
  bif decide (x1 > 0) then
    bif decide (x4 > 0) then
      bif !x0 then
        bif !x3 then k (x6, x7, x8, x9, x10, x11, if 1000 < IntKind.wrap IntKind.i64 (x12 + 1) then 1000 else IntKind.wrap IntKind.i64 (x12 + 1))
        else k (x6, x7, x8, x9, x10, x11, if 0 > IntKind.wrap IntKind.i64 (x12 - 1) then 0 else IntKind.wrap IntKind.i64 (x12 - 1))
      else k (x6, x7, x8, x9, x10, x11, if 0 > IntKind.wrap IntKind.i64 (x12 - 1) then 0 else IntKind.wrap IntKind.i64 (x12 - 1))
    else
      bif decide (x1 < 0) then
        bif !x0 then
          bif !x3 then
            bif decide (x4 < 0) then k (x6, x7, x8, x9, x10, x11, if 1000 < IntKind.wrap IntKind.i64 (x12 + 1) then 1000 else IntKind.wrap IntKind.i64 (x12 + 1))
            else k (x6, x7, x8, x9, x10, x11, if 0 > IntKind.wrap IntKind.i64 (x12 - 1) then 0 else IntKind.wrap IntKind.i64 (x12 - 1))
          else k (x6, x7, x8, x9, x10, x11, if 0 > IntKind.wrap IntKind.i64 (x12 - 1) then 0 else IntKind.wrap IntKind.i64 (x12 - 1))
        else k (x6, x7, x8, x9, x10, x11, if 0 > IntKind.wrap IntKind.i64 (x12 - 1) then 0 else IntKind.wrap IntKind.i64 (x12 - 1))
      else
        bif !x0 then
          bif !x3 then k (x6, x7, x8, x9, x10, x11, if 0 > IntKind.wrap IntKind.i64 (x12 - 1) then 0 else IntKind.wrap IntKind.i64 (x12 - 1))
          else k (x6, x7, x8, x9, x10, x11, if 0 > IntKind.wrap IntKind.i64 (x12 - 1) then 0 else IntKind.wrap IntKind.i64 (x12 - 1))
        else k (x6, x7, x8, x9, x10, x11, if 0 > IntKind.wrap IntKind.i64 (x12 - 1) then 0 else IntKind.wrap IntKind.i64 (x12 - 1))
  else
    bif decide (x1 < 0) then
      bif !x0 then
        bif !x3 then
          bif decide (x4 < 0) then k (x6, x7, x8, x9, x10, x11, if 1000 < IntKind.wrap IntKind.i64 (x12 + 1) then 1000 else IntKind.wrap IntKind.i64 (x12 + 1))
          else k (x6, x7, x8, x9, x10, x11, if 0 > IntKind.wrap IntKind.i64 (x12 - 1) then 0 else IntKind.wrap IntKind.i64 (x12 - 1))
        else k (x6, x7, x8, x9, x10, x11, if 0 > IntKind.wrap IntKind.i64 (x12 - 1) then 0 else IntKind.wrap IntKind.i64 (x12 - 1))
      else k (x6, x7, x8, x9, x10, x11, if 0 > IntKind.wrap IntKind.i64 (x12 - 1) then 0 else IntKind.wrap IntKind.i64 (x12 - 1))
    else
      bif !x0 then
        bif !x3 then k (x6, x7, x8, x9, x10, x11, if 0 > IntKind.wrap IntKind.i64 (x12 - 1) then 0 else IntKind.wrap IntKind.i64 (x12 - 1))
        else k (x6, x7, x8, x9, x10, x11, if 0 > IntKind.wrap IntKind.i64 (x12 - 1) then 0 else IntKind.wrap IntKind.i64 (x12 - 1))
      else k (x6, x7, x8, x9, x10, x11, if 0 > IntKind.wrap IntKind.i64 (x12 - 1) then 0 else IntKind.wrap IntKind.i64 (x12 - 1))
def f___health_Monitor__Vertical (x0 : Bool) (x1 : Int) (x2 : Int) (x3 : Bool) (x4 : Int) (x5 : Int) (x6 : Nat → Int) (x7 : Nat → Int) (x8 : Nat → Bool) (x9 : Nat → Int) (x10 : Nat → Int) (x11 : Nat → Int) (x12 : Int) : Option ((Nat → Int) × (Nat → Int) × (Nat → Bool) × (Nat → Int) × (Nat → Int) × (Nat → Int) × Int) := K___health_Monitor__Vertical   x0 x1 x2 x3 x4 x5 x6 x7 x8 x9 x10 x11 x12 some
section
open Go.Ab.Rdr
def QA___health_Monitor__Vertical := ((pair (cons (ar (rc (cptr (nat 0) (ok' (nat 0)) (nat 37)))) (cons (ar (ra (cons (gc (cf (fb hole))) (cons (gc (cf (fi .i64 hole))) (cons (gc (cf (fi .i64 hole))) nil))))) (cons (ar (ra (cons (gc (cf (fb hole))) (cons (gc (cf (fi .i64 hole))) (cons (gc (cf (fi .i64 hole))) nil))))) nil))) (cons (cons (ga (szl (nat 6)) (cons (ki .i64 hole) (cons (ki .i64 hole) (cons (kb hole) (cons (ki .i64 hole) (cons (ki .i64 hole) (cons (ki .i64 hole) nil))))))) (cons (gc (cf (fi .i64 hole))) nil)) nil)) : Rdr (List AV × List Blk) _)
end
def F___health_Monitor__Vertical (f : (Bool) → (Int) → (Int) → (Bool) → (Int) → (Int) → (Nat → Int) → (Nat → Int) → (Nat → Bool) → (Nat → Int) → (Nat → Int) → (Nat → Int) → (Int) → Option ((Nat → Int) × (Nat → Int) × (Nat → Bool) × (Nat → Int) × (Nat → Int) × (Nat → Int) × Int)) : Sem1 := fun args h => match (QA___health_Monitor__Vertical).rd (args, h) with
  | some b => .opt (f b.1.2.1.1 b.1.2.1.2.1 b.1.2.1.2.2.1 b.1.2.2.1.1 b.1.2.2.1.2.1 b.1.2.2.1.2.2.1 b.2.1.1.2.1 b.2.1.1.2.2.1 b.2.1.1.2.2.2.1 b.2.1.1.2.2.2.2.1 b.2.1.1.2.2.2.2.2.1 b.2.1.1.2.2.2.2.2.2.1 b.2.1.2.1) fun (d : (Nat → Int) × (Nat → Int) × (Nat → Bool) × (Nat → Int) × (Nat → Int) × (Nat → Int) × Int) => .leaf (Res.mk (AV.tup [])
    [Ch.set
        [Sg.a (Sz.l 6)
            [Col.i IntKind.i64 d.1, Col.i IntKind.i64 d.2.1, Col.b d.2.2.1, Col.i IntKind.i64 d.2.2.2.1, Col.i IntKind.i64 d.2.2.2.2.1,
              Col.i IntKind.i64 d.2.2.2.2.2.1],
          Sg.c (CV.f (FV.i IntKind.i64 d.2.2.2.2.2.2))]]
    [])
  | none => .fail
theorem d___health_Monitor__Vertical   (x0 : Bool) (x1 : Int) (x2 : Int) (x3 : Bool) (x4 : Int) (x5 : Int) (x6 : Nat → Int) (x7 : Nat → Int) (x8 : Nat → Bool) (x9 : Nat → Int) (x10 : Nat → Int) (x11 : Nat → Int) (x12 : Int) : den Try.prog (envOf []) ⟨[], [], [], [], none⟩ 200 24 [.r (.c (.ptr 0 (.k 0) 37)), .r (.agg [.c (.f (.b x0)), .c (.f (.i .i64 x1)), .c (.f (.i .i64 x2))]), .r (.agg [.c (.f (.b x3)), .c (.f (.i .i64 x4)), .c (.f (.i .i64 x5))])] [[.a (.l 6) [.i .i64 x6, .i .i64 x7, .b x8, .i .i64 x9, .i .i64 x10, .i .i64 x11], .c (.f (.i .i64 x12))]] =
    K___health_Monitor__Vertical   x0 x1 x2 x3 x4 x5 x6 x7 x8 x9 x10 x11 x12 (fun (d : (Nat → Int) × (Nat → Int) × (Nat → Bool) × (Nat → Int) × (Nat → Int) × (Nat → Int) × Int) => some (Res.mk (AV.tup [])
    [Ch.set
        [Sg.a (Sz.l 6)
            [Col.i IntKind.i64 d.1, Col.i IntKind.i64 d.2.1, Col.b d.2.2.1, Col.i IntKind.i64 d.2.2.2.1, Col.i IntKind.i64 d.2.2.2.2.1,
              Col.i IntKind.i64 d.2.2.2.2.2.1],
          Sg.c (CV.f (FV.i IntKind.i64 d.2.2.2.2.2.2))]]
    [])) := by kernel_rfl
theorem m___health_Monitor__Vertical {ρ σ : Type} (q : ρ → Option σ)    (x0 : Bool) (x1 : Int) (x2 : Int) (x3 : Bool) (x4 : Int) (x5 : Int) (x6 : Nat → Int) (x7 : Nat → Int) (x8 : Nat → Bool) (x9 : Nat → Int) (x10 : Nat → Int) (x11 : Nat → Int) (x12 : Int) (k : ((Nat → Int) × (Nat → Int) × (Nat → Bool) × (Nat → Int) × (Nat → Int) × (Nat → Int) × Int) → Option ρ) : (K___health_Monitor__Vertical   x0 x1 x2 x3 x4 x5 x6 x7 x8 x9 x10 x11 x12 k).bind q = K___health_Monitor__Vertical   x0 x1 x2 x3 x4 x5 x6 x7 x8 x9 x10 x11 x12 (fun d => (k d).bind q) := by
  simp only [K___health_Monitor__Vertical, bnd_cond, bnd_bind, bnd_none, bnd_sum]
theorem qa___health_Monitor__Vertical : ∀ b, (QA___health_Monitor__Vertical).em b = ([.r (.c (.ptr 0 (.k 0) 37)), .r (.agg [.c (.f (.b b.1.2.1.1)), .c (.f (.i .i64 b.1.2.1.2.1)), .c (.f (.i .i64 b.1.2.1.2.2.1))]), .r (.agg [.c (.f (.b b.1.2.2.1.1)), .c (.f (.i .i64 b.1.2.2.1.2.1)), .c (.f (.i .i64 b.1.2.2.1.2.2.1))])], [[.a (.l 6) [.i .i64 b.2.1.1.2.1, .i .i64 b.2.1.1.2.2.1, .b b.2.1.1.2.2.2.1, .i .i64 b.2.1.1.2.2.2.2.1, .i .i64 b.2.1.1.2.2.2.2.2.1, .i .i64 b.2.1.1.2.2.2.2.2.2.1], .c (.f (.i .i64 b.2.1.2.1))]]) := fun b => by kernel_rfl
theorem e___health_Monitor__Vertical {f : (Bool) → (Int) → (Int) → (Bool) → (Int) → (Int) → (Nat → Int) → (Nat → Int) → (Nat → Bool) → (Nat → Int) → (Nat → Int) → (Nat → Int) → (Int) → Option ((Nat → Int) × (Nat → Int) × (Nat → Bool) × (Nat → Int) × (Nat → Int) × (Nat → Int) × Int)} {args : List AV} {h : List Blk} {r : Res} (hr : (F___health_Monitor__Vertical f args h).eval = some r) : ∃ x0 x1 x2 x3 x4 x5 x6 x7 x8 x9 x10 x11 x12, args = [.r (.c (.ptr 0 (.k 0) 37)), .r (.agg [.c (.f (.b x0)), .c (.f (.i .i64 x1)), .c (.f (.i .i64 x2))]), .r (.agg [.c (.f (.b x3)), .c (.f (.i .i64 x4)), .c (.f (.i .i64 x5))])] ∧ h = [[.a (.l 6) [.i .i64 x6, .i .i64 x7, .b x8, .i .i64 x9, .i .i64 x10, .i .i64 x11], .c (.f (.i .i64 x12))]] ∧ (f x0 x1 x2 x3 x4 x5 x6 x7 x8 x9 x10 x11 x12).bind (fun (d : (Nat → Int) × (Nat → Int) × (Nat → Bool) × (Nat → Int) × (Nat → Int) × (Nat → Int) × Int) => some (Res.mk (AV.tup [])
    [Ch.set
        [Sg.a (Sz.l 6)
            [Col.i IntKind.i64 d.1, Col.i IntKind.i64 d.2.1, Col.b d.2.2.1, Col.i IntKind.i64 d.2.2.2.1, Col.i IntKind.i64 d.2.2.2.2.1,
              Col.i IntKind.i64 d.2.2.2.2.2.1],
          Sg.c (CV.f (FV.i IntKind.i64 d.2.2.2.2.2.2))]]
    [])) = some r := by
  unfold F___health_Monitor__Vertical at hr
  split at hr
  · rename_i b hb
    have e := ((QA___health_Monitor__Vertical).ok _ _ hb).trans (qa___health_Monitor__Vertical b)
    rw [opt_eval2] at hr
    exact ⟨b.1.2.1.1, b.1.2.1.2.1, b.1.2.1.2.2.1, b.1.2.2.1.1, b.1.2.2.1.2.1, b.1.2.2.1.2.2.1, b.2.1.1.2.1, b.2.1.1.2.2.1, b.2.1.1.2.2.2.1, b.2.1.1.2.2.2.2.1, b.2.1.1.2.2.2.2.2.1, b.2.1.1.2.2.2.2.2.2.1, b.2.1.2.1, (Prod.mk.inj e).1, (Prod.mk.inj e).2, hr⟩
  · cases hr
theorem n___health_Monitor__Vertical {σ : Type} (q : ((Nat → Int) × (Nat → Int) × (Nat → Bool) × (Nat → Int) × (Nat → Int) × (Nat → Int) × Int) → Option σ) (x0 : Bool) (x1 : Int) (x2 : Int) (x3 : Bool) (x4 : Int) (x5 : Int) (x6 : Nat → Int) (x7 : Nat → Int) (x8 : Nat → Bool) (x9 : Nat → Int) (x10 : Nat → Int) (x11 : Nat → Int) (x12 : Int) : (f___health_Monitor__Vertical x0 x1 x2 x3 x4 x5 x6 x7 x8 x9 x10 x11 x12).bind q = K___health_Monitor__Vertical   x0 x1 x2 x3 x4 x5 x6 x7 x8 x9 x10 x11 x12 q := by
  unfold f___health_Monitor__Vertical
  exact m___health_Monitor__Vertical q    x0 x1 x2 x3 x4 x5 x6 x7 x8 x9 x10 x11 x12 some
theorem s___health_Monitor__Vertical [Amb] : Sound Try.prog 24 (F___health_Monitor__Vertical f___health_Monitor__Vertical) :=
  (inl_sound (l := []) (.nil _) mixed [] [] 200 (by kernel_rfl)).by (F := F___health_Monitor__Vertical f___health_Monitor__Vertical) fun args b r hr => by
  obtain ⟨x0, x1, x2, x3, x4, x5, x6, x7, x8, x9, x10, x11, x12, rfl, rfl, hr1⟩ := e___health_Monitor__Vertical hr
  exact inl_eval ((d___health_Monitor__Vertical   x0 x1 x2 x3 x4 x5 x6 x7 x8 x9 x10 x11 x12).trans ((n___health_Monitor__Vertical (fun (d : (Nat → Int) × (Nat → Int) × (Nat → Bool) × (Nat → Int) × (Nat → Int) × (Nat → Int) × Int) => some (Res.mk (AV.tup [])
    [Ch.set
        [Sg.a (Sz.l 6)
            [Col.i IntKind.i64 d.1, Col.i IntKind.i64 d.2.1, Col.b d.2.2.1, Col.i IntKind.i64 d.2.2.2.1, Col.i IntKind.i64 d.2.2.2.2.1,
              Col.i IntKind.i64 d.2.2.2.2.2.1],
          Sg.c (CV.f (FV.i IntKind.i64 d.2.2.2.2.2.2))]]
    [])) x0 x1 x2 x3 x4 x5 x6 x7 x8 x9 x10 x11 x12).symm.trans hr1))

def K___health_Watch__Fresh {ρ : Type}   (x0 : Int) (x1 : Int) (x2 : Int) (x3 : Int) (x4 : Bool) (k : (Bool) → Option ρ) : Option ρ :=
  bif !x4 then k false
  else
    bif decide (x0 ≥ x2) then bif decide (x1 ≥ 0) then k (decide (IntKind.wrap IntKind.u64 (IntKind.wrap IntKind.u64 x0 - IntKind.wrap IntKind.u64 x2) ≤ IntKind.wrap IntKind.u64 x1)) else k false
    else
      bif decide (x1 ≥ 0) then k true else k (decide (IntKind.wrap IntKind.u64 (IntKind.wrap IntKind.u64 x2 - IntKind.wrap IntKind.u64 x0) ≥ IntKind.wrap IntKind.u64 (0 - IntKind.wrap IntKind.u64 x1)))
def f___health_Watch__Fresh (x0 : Int) (x1 : Int) (x2 : Int) (x3 : Int) (x4 : Bool) : Option (Bool) := K___health_Watch__Fresh   x0 x1 x2 x3 x4 some
section
open Go.Ab.Rdr
def QA___health_Watch__Fresh := ((pair (cons (ar (rc (cptr (nat 0) (ok' (nat 0)) (nat 3)))) (cons (ar (rc (cf (fi .i64 hole)))) (cons (ar (rc (cf (fi .i64 hole)))) nil))) (cons (cons (gc (cf (fi .i64 hole))) (cons (gc (cf (fi .i64 hole))) (cons (gc (cf (fb hole))) nil))) nil)) : Rdr (List AV × List Blk) _)
end
def F___health_Watch__Fresh (f : (Int) → (Int) → (Int) → (Int) → (Bool) → Option (Bool)) : Sem1 := fun args h => match (QA___health_Watch__Fresh).rd (args, h) with
  | some b => .opt (f b.1.2.1 b.1.2.2.1 b.2.1.1 b.2.1.2.1 b.2.1.2.2.1) fun (d : Bool) => .leaf (Res.mk (AV.r (RV.c (CV.f (FV.b d)))) [Ch.keep] [])
  | none => .fail
theorem d___health_Watch__Fresh   (x0 : Int) (x1 : Int) (x2 : Int) (x3 : Int) (x4 : Bool) : den Try.prog (envOf []) ⟨[], [], [], [], none⟩ 200 29 [.r (.c (.ptr 0 (.k 0) 3)), .r (.c (.f (.i .i64 x0))), .r (.c (.f (.i .i64 x1)))] [[.c (.f (.i .i64 x2)), .c (.f (.i .i64 x3)), .c (.f (.b x4))]] =
    K___health_Watch__Fresh   x0 x1 x2 x3 x4 (fun (d : Bool) => some (Res.mk (AV.r (RV.c (CV.f (FV.b d)))) [Ch.keep] [])) := by kernel_rfl
theorem m___health_Watch__Fresh {ρ σ : Type} (q : ρ → Option σ)    (x0 : Int) (x1 : Int) (x2 : Int) (x3 : Int) (x4 : Bool) (k : (Bool) → Option ρ) : (K___health_Watch__Fresh   x0 x1 x2 x3 x4 k).bind q = K___health_Watch__Fresh   x0 x1 x2 x3 x4 (fun d => (k d).bind q) := by
  simp only [K___health_Watch__Fresh, bnd_cond, bnd_bind, bnd_none, bnd_sum]
theorem qa___health_Watch__Fresh : ∀ b, (QA___health_Watch__Fresh).em b = ([.r (.c (.ptr 0 (.k 0) 3)), .r (.c (.f (.i .i64 b.1.2.1))), .r (.c (.f (.i .i64 b.1.2.2.1)))], [[.c (.f (.i .i64 b.2.1.1)), .c (.f (.i .i64 b.2.1.2.1)), .c (.f (.b b.2.1.2.2.1))]]) := fun b => by kernel_rfl
theorem e___health_Watch__Fresh {f : (Int) → (Int) → (Int) → (Int) → (Bool) → Option (Bool)} {args : List AV} {h : List Blk} {r : Res} (hr : (F___health_Watch__Fresh f args h).eval = some r) : ∃ x0 x1 x2 x3 x4, args = [.r (.c (.ptr 0 (.k 0) 3)), .r (.c (.f (.i .i64 x0))), .r (.c (.f (.i .i64 x1)))] ∧ h = [[.c (.f (.i .i64 x2)), .c (.f (.i .i64 x3)), .c (.f (.b x4))]] ∧ (f x0 x1 x2 x3 x4).bind (fun (d : Bool) => some (Res.mk (AV.r (RV.c (CV.f (FV.b d)))) [Ch.keep] [])) = some r := by
  unfold F___health_Watch__Fresh at hr
  split at hr
  · rename_i b hb
    have e := ((QA___health_Watch__Fresh).ok _ _ hb).trans (qa___health_Watch__Fresh b)
    rw [opt_eval2] at hr
    exact ⟨b.1.2.1, b.1.2.2.1, b.2.1.1, b.2.1.2.1, b.2.1.2.2.1, (Prod.mk.inj e).1, (Prod.mk.inj e).2, hr⟩
  · cases hr
theorem n___health_Watch__Fresh {σ : Type} (q : (Bool) → Option σ) (x0 : Int) (x1 : Int) (x2 : Int) (x3 : Int) (x4 : Bool) : (f___health_Watch__Fresh x0 x1 x2 x3 x4).bind q = K___health_Watch__Fresh   x0 x1 x2 x3 x4 q := by
  unfold f___health_Watch__Fresh
  exact m___health_Watch__Fresh q    x0 x1 x2 x3 x4 some
theorem s___health_Watch__Fresh [Amb] : Sound Try.prog 29 (F___health_Watch__Fresh f___health_Watch__Fresh) :=
  (inl_sound (l := []) (.nil _) mixed [] [] 200 (by kernel_rfl)).by (F := F___health_Watch__Fresh f___health_Watch__Fresh) fun args b r hr => by
  obtain ⟨x0, x1, x2, x3, x4, rfl, rfl, hr1⟩ := e___health_Watch__Fresh hr
  exact inl_eval ((d___health_Watch__Fresh   x0 x1 x2 x3 x4).trans ((n___health_Watch__Fresh (fun (d : Bool) => some (Res.mk (AV.r (RV.c (CV.f (FV.b d)))) [Ch.keep] [])) x0 x1 x2 x3 x4).symm.trans hr1))

def K___health_Sensor__Usable {ρ : Type} (g___health_Watch__Fresh : Int → Int → Int → Int → Bool → Option Bool)  (x0 : Int) (x1 : Int) (x2 : Int) (x3 : Bool) (x4 : Int) (x5 : Int) (x6 : Int) (k : (Bool) → Option ρ) : Option ρ :=
  Option.bind (g___health_Watch__Fresh x0 x5 x1 x2 x3) fun (d : Bool) => bif d then k (decide (x2 ≤ x6)) else k false
def f___health_Sensor__Usable (x0 : Int) (x1 : Int) (x2 : Int) (x3 : Bool) (x4 : Int) (x5 : Int) (x6 : Int) : Option (Bool) := K___health_Sensor__Usable f___health_Watch__Fresh  x0 x1 x2 x3 x4 x5 x6 some
section
open Go.Ab.Rdr
def QA___health_Sensor__Usable := ((pair (cons (ar (rc (cptr (nat 0) (ok' (nat 0)) (nat 6)))) (cons (ar (rc (cf (fi .i64 hole)))) nil)) (cons (cons (gc (cf (fi .i64 hole))) (cons (gc (cf (fi .i64 hole))) (cons (gc (cf (fb hole))) (cons (gc (cf (fi .i64 hole))) (cons (gc (cf (fi .i64 hole))) (cons (gc (cf (fi .i64 hole))) nil)))))) nil)) : Rdr (List AV × List Blk) _)
end
def F___health_Sensor__Usable (f : (Int) → (Int) → (Int) → (Bool) → (Int) → (Int) → (Int) → Option (Bool)) : Sem1 := fun args h => match (QA___health_Sensor__Usable).rd (args, h) with
  | some b => .opt (f b.1.2.1 b.2.1.1 b.2.1.2.1 b.2.1.2.2.1 b.2.1.2.2.2.1 b.2.1.2.2.2.2.1 b.2.1.2.2.2.2.2.1) fun (d : Bool) => .leaf (Res.mk (AV.r (RV.c (CV.f (FV.b d)))) [Ch.keep] [])
  | none => .fail
theorem d___health_Sensor__Usable (g___health_Watch__Fresh : Int → Int → Int → Int → Bool → Option Bool)  (x0 : Int) (x1 : Int) (x2 : Int) (x3 : Bool) (x4 : Int) (x5 : Int) (x6 : Int) : den Try.prog (envOf [(29, F___health_Watch__Fresh g___health_Watch__Fresh)]) ⟨[], [], [], [], none⟩ 200 27 [.r (.c (.ptr 0 (.k 0) 6)), .r (.c (.f (.i .i64 x0)))] [[.c (.f (.i .i64 x1)), .c (.f (.i .i64 x2)), .c (.f (.b x3)), .c (.f (.i .i64 x4)), .c (.f (.i .i64 x5)), .c (.f (.i .i64 x6))]] =
    K___health_Sensor__Usable g___health_Watch__Fresh  x0 x1 x2 x3 x4 x5 x6 (fun (d : Bool) => some (Res.mk (AV.r (RV.c (CV.f (FV.b d)))) [Ch.keep] [])) := by kernel_rfl
theorem m___health_Sensor__Usable {ρ σ : Type} (q : ρ → Option σ) (g___health_Watch__Fresh : Int → Int → Int → Int → Bool → Option Bool)   (x0 : Int) (x1 : Int) (x2 : Int) (x3 : Bool) (x4 : Int) (x5 : Int) (x6 : Int) (k : (Bool) → Option ρ) : (K___health_Sensor__Usable g___health_Watch__Fresh  x0 x1 x2 x3 x4 x5 x6 k).bind q = K___health_Sensor__Usable g___health_Watch__Fresh  x0 x1 x2 x3 x4 x5 x6 (fun d => (k d).bind q) := by
  simp only [K___health_Sensor__Usable, bnd_cond, bnd_bind, bnd_none, bnd_sum]
theorem qa___health_Sensor__Usable : ∀ b, (QA___health_Sensor__Usable).em b = ([.r (.c (.ptr 0 (.k 0) 6)), .r (.c (.f (.i .i64 b.1.2.1)))], [[.c (.f (.i .i64 b.2.1.1)), .c (.f (.i .i64 b.2.1.2.1)), .c (.f (.b b.2.1.2.2.1)), .c (.f (.i .i64 b.2.1.2.2.2.1)), .c (.f (.i .i64 b.2.1.2.2.2.2.1)), .c (.f (.i .i64 b.2.1.2.2.2.2.2.1))]]) := fun b => by kernel_rfl
theorem e___health_Sensor__Usable {f : (Int) → (Int) → (Int) → (Bool) → (Int) → (Int) → (Int) → Option (Bool)} {args : List AV} {h : List Blk} {r : Res} (hr : (F___health_Sensor__Usable f args h).eval = some r) : ∃ x0 x1 x2 x3 x4 x5 x6, args = [.r (.c (.ptr 0 (.k 0) 6)), .r (.c (.f (.i .i64 x0)))] ∧ h = [[.c (.f (.i .i64 x1)), .c (.f (.i .i64 x2)), .c (.f (.b x3)), .c (.f (.i .i64 x4)), .c (.f (.i .i64 x5)), .c (.f (.i .i64 x6))]] ∧ (f x0 x1 x2 x3 x4 x5 x6).bind (fun (d : Bool) => some (Res.mk (AV.r (RV.c (CV.f (FV.b d)))) [Ch.keep] [])) = some r := by
  unfold F___health_Sensor__Usable at hr
  split at hr
  · rename_i b hb
    have e := ((QA___health_Sensor__Usable).ok _ _ hb).trans (qa___health_Sensor__Usable b)
    rw [opt_eval2] at hr
    exact ⟨b.1.2.1, b.2.1.1, b.2.1.2.1, b.2.1.2.2.1, b.2.1.2.2.2.1, b.2.1.2.2.2.2.1, b.2.1.2.2.2.2.2.1, (Prod.mk.inj e).1, (Prod.mk.inj e).2, hr⟩
  · cases hr
theorem n___health_Sensor__Usable {σ : Type} (q : (Bool) → Option σ) (x0 : Int) (x1 : Int) (x2 : Int) (x3 : Bool) (x4 : Int) (x5 : Int) (x6 : Int) : (f___health_Sensor__Usable x0 x1 x2 x3 x4 x5 x6).bind q = K___health_Sensor__Usable f___health_Watch__Fresh  x0 x1 x2 x3 x4 x5 x6 q := by
  unfold f___health_Sensor__Usable
  exact m___health_Sensor__Usable q f___health_Watch__Fresh   x0 x1 x2 x3 x4 x5 x6 some
theorem s___health_Sensor__Usable [Amb] : Sound Try.prog 27 (F___health_Sensor__Usable f___health_Sensor__Usable) :=
  (inl_sound (l := [(29, F___health_Watch__Fresh f___health_Watch__Fresh)]) (.cons s___health_Watch__Fresh (.nil _)) mixed [] [] 200 (by kernel_rfl)).by (F := F___health_Sensor__Usable f___health_Sensor__Usable) fun args b r hr => by
  obtain ⟨x0, x1, x2, x3, x4, x5, x6, rfl, rfl, hr1⟩ := e___health_Sensor__Usable hr
  exact inl_eval ((d___health_Sensor__Usable f___health_Watch__Fresh  x0 x1 x2 x3 x4 x5 x6).trans ((n___health_Sensor__Usable (fun (d : Bool) => some (Res.mk (AV.r (RV.c (CV.f (FV.b d)))) [Ch.keep] [])) x0 x1 x2 x3 x4 x5 x6).symm.trans hr1))

def K___health_Monitor__Usable {ρ : Type} (g_health_is : Int → Option Bool) (g___health_Sensor__Usable : Int → Int → Int → Bool → Int → Int → Int → Option Bool)  (x0 : Int) (x1 : Int) (x2 : Nat → Int) (x3 : Nat → Int) (x4 : Nat → Bool) (x5 : Nat → Int) (x6 : Nat → Int) (x7 : Nat → Int) (x8 : Int) (k : (Bool) → Option ρ) : Option ρ :=
  Option.bind (g_health_is x0) fun (d : Bool) =>
    bif d then
      bif inR x0 6 then
        bif Nat.ble (0 + Int.toNat x0 * 6 + 6) 36 then
          Option.bind (g___health_Sensor__Usable x1 (x2 (Int.toNat x0)) (x3 (Int.toNat x0)) (x4 (Int.toNat x0)) (x5 (Int.toNat x0)) (x6 (Int.toNat x0)) (x7 (Int.toNat x0))) fun (d : Bool) => k d
        else none
      else none
    else k false
def f___health_Monitor__Usable (x0 : Int) (x1 : Int) (x2 : Nat → Int) (x3 : Nat → Int) (x4 : Nat → Bool) (x5 : Nat → Int) (x6 : Nat → Int) (x7 : Nat → Int) (x8 : Int) : Option (Bool) := K___health_Monitor__Usable f_health_is f___health_Sensor__Usable  x0 x1 x2 x3 x4 x5 x6 x7 x8 some
section
open Go.Ab.Rdr
def QA___health_Monitor__Usable := ((pair (cons (ar (rc (cptr (nat 0) (ok' (nat 0)) (nat 37)))) (cons (ar (rc (cf (fi .i64 hole)))) (cons (ar (rc (cf (fi .i64 hole)))) nil))) (cons (cons (ga (szl (nat 6)) (cons (ki .i64 hole) (cons (ki .i64 hole) (cons (kb hole) (cons (ki .i64 hole) (cons (ki .i64 hole) (cons (ki .i64 hole) nil))))))) (cons (gc (cf (fi .i64 hole))) nil)) nil)) : Rdr (List AV × List Blk) _)
end
def F___health_Monitor__Usable (f : (Int) → (Int) → (Nat → Int) → (Nat → Int) → (Nat → Bool) → (Nat → Int) → (Nat → Int) → (Nat → Int) → (Int) → Option (Bool)) : Sem1 := fun args h => match (QA___health_Monitor__Usable).rd (args, h) with
  | some b => .opt (f b.1.2.1 b.1.2.2.1 b.2.1.1.2.1 b.2.1.1.2.2.1 b.2.1.1.2.2.2.1 b.2.1.1.2.2.2.2.1 b.2.1.1.2.2.2.2.2.1 b.2.1.1.2.2.2.2.2.2.1 b.2.1.2.1) fun (d : Bool) => .leaf (Res.mk (AV.r (RV.c (CV.f (FV.b d)))) [Ch.keep] [])
  | none => .fail
theorem d___health_Monitor__Usable (g_health_is : Int → Option Bool) (g___health_Sensor__Usable : Int → Int → Int → Bool → Int → Int → Int → Option Bool)  (x0 : Int) (x1 : Int) (x2 : Nat → Int) (x3 : Nat → Int) (x4 : Nat → Bool) (x5 : Nat → Int) (x6 : Nat → Int) (x7 : Nat → Int) (x8 : Int) : den Try.prog (envOf [(54, F_health_is g_health_is), (27, F___health_Sensor__Usable g___health_Sensor__Usable)]) ⟨[], [], [], [], none⟩ 200 18 [.r (.c (.ptr 0 (.k 0) 37)), .r (.c (.f (.i .i64 x0))), .r (.c (.f (.i .i64 x1)))] [[.a (.l 6) [.i .i64 x2, .i .i64 x3, .b x4, .i .i64 x5, .i .i64 x6, .i .i64 x7], .c (.f (.i .i64 x8))]] =
    K___health_Monitor__Usable g_health_is g___health_Sensor__Usable  x0 x1 x2 x3 x4 x5 x6 x7 x8 (fun (d : Bool) => some (Res.mk (AV.r (RV.c (CV.f (FV.b d)))) [Ch.keep] [])) := by kernel_rfl
theorem m___health_Monitor__Usable {ρ σ : Type} (q : ρ → Option σ) (g_health_is : Int → Option Bool) (g___health_Sensor__Usable : Int → Int → Int → Bool → Int → Int → Int → Option Bool)   (x0 : Int) (x1 : Int) (x2 : Nat → Int) (x3 : Nat → Int) (x4 : Nat → Bool) (x5 : Nat → Int) (x6 : Nat → Int) (x7 : Nat → Int) (x8 : Int) (k : (Bool) → Option ρ) : (K___health_Monitor__Usable g_health_is g___health_Sensor__Usable  x0 x1 x2 x3 x4 x5 x6 x7 x8 k).bind q = K___health_Monitor__Usable g_health_is g___health_Sensor__Usable  x0 x1 x2 x3 x4 x5 x6 x7 x8 (fun d => (k d).bind q) := by
  simp only [K___health_Monitor__Usable, bnd_cond, bnd_bind, bnd_none, bnd_sum]
theorem qa___health_Monitor__Usable : ∀ b, (QA___health_Monitor__Usable).em b = ([.r (.c (.ptr 0 (.k 0) 37)), .r (.c (.f (.i .i64 b.1.2.1))), .r (.c (.f (.i .i64 b.1.2.2.1)))], [[.a (.l 6) [.i .i64 b.2.1.1.2.1, .i .i64 b.2.1.1.2.2.1, .b b.2.1.1.2.2.2.1, .i .i64 b.2.1.1.2.2.2.2.1, .i .i64 b.2.1.1.2.2.2.2.2.1, .i .i64 b.2.1.1.2.2.2.2.2.2.1], .c (.f (.i .i64 b.2.1.2.1))]]) := fun b => by kernel_rfl
theorem e___health_Monitor__Usable {f : (Int) → (Int) → (Nat → Int) → (Nat → Int) → (Nat → Bool) → (Nat → Int) → (Nat → Int) → (Nat → Int) → (Int) → Option (Bool)} {args : List AV} {h : List Blk} {r : Res} (hr : (F___health_Monitor__Usable f args h).eval = some r) : ∃ x0 x1 x2 x3 x4 x5 x6 x7 x8, args = [.r (.c (.ptr 0 (.k 0) 37)), .r (.c (.f (.i .i64 x0))), .r (.c (.f (.i .i64 x1)))] ∧ h = [[.a (.l 6) [.i .i64 x2, .i .i64 x3, .b x4, .i .i64 x5, .i .i64 x6, .i .i64 x7], .c (.f (.i .i64 x8))]] ∧ (f x0 x1 x2 x3 x4 x5 x6 x7 x8).bind (fun (d : Bool) => some (Res.mk (AV.r (RV.c (CV.f (FV.b d)))) [Ch.keep] [])) = some r := by
  unfold F___health_Monitor__Usable at hr
  split at hr
  · rename_i b hb
    have e := ((QA___health_Monitor__Usable).ok _ _ hb).trans (qa___health_Monitor__Usable b)
    rw [opt_eval2] at hr
    exact ⟨b.1.2.1, b.1.2.2.1, b.2.1.1.2.1, b.2.1.1.2.2.1, b.2.1.1.2.2.2.1, b.2.1.1.2.2.2.2.1, b.2.1.1.2.2.2.2.2.1, b.2.1.1.2.2.2.2.2.2.1, b.2.1.2.1, (Prod.mk.inj e).1, (Prod.mk.inj e).2, hr⟩
  · cases hr
theorem n___health_Monitor__Usable {σ : Type} (q : (Bool) → Option σ) (x0 : Int) (x1 : Int) (x2 : Nat → Int) (x3 : Nat → Int) (x4 : Nat → Bool) (x5 : Nat → Int) (x6 : Nat → Int) (x7 : Nat → Int) (x8 : Int) : (f___health_Monitor__Usable x0 x1 x2 x3 x4 x5 x6 x7 x8).bind q = K___health_Monitor__Usable f_health_is f___health_Sensor__Usable  x0 x1 x2 x3 x4 x5 x6 x7 x8 q := by
  unfold f___health_Monitor__Usable
  exact m___health_Monitor__Usable q f_health_is f___health_Sensor__Usable   x0 x1 x2 x3 x4 x5 x6 x7 x8 some
theorem s___health_Monitor__Usable [Amb] : Sound Try.prog 18 (F___health_Monitor__Usable f___health_Monitor__Usable) :=
  (inl_sound (l := [(54, F_health_is f_health_is), (27, F___health_Sensor__Usable f___health_Sensor__Usable)]) (.cons s_health_is (.cons s___health_Sensor__Usable (.nil _))) mixed [] [] 200 (by kernel_rfl)).by (F := F___health_Monitor__Usable f___health_Monitor__Usable) fun args b r hr => by
  obtain ⟨x0, x1, x2, x3, x4, x5, x6, x7, x8, rfl, rfl, hr1⟩ := e___health_Monitor__Usable hr
  exact inl_eval ((d___health_Monitor__Usable f_health_is f___health_Sensor__Usable  x0 x1 x2 x3 x4 x5 x6 x7 x8).trans ((n___health_Monitor__Usable (fun (d : Bool) => some (Res.mk (AV.r (RV.c (CV.f (FV.b d)))) [Ch.keep] [])) x0 x1 x2 x3 x4 x5 x6 x7 x8).symm.trans hr1))

def S___health_Monitor__Faults_0 {ρ : Type} (g___health_Sensor__Usable : Int → Int → Int → Bool → Int → Int → Int → Option Bool)  (x0 : Int) (x1 : Int) (x2 : Int) (x3 : Nat → Int) (x4 : Nat → Int) (x5 : Nat → Bool) (x6 : Nat → Int) (x7 : Nat → Int) (x8 : Nat → Int) (x9 : Int) (c : (Int × Int × Int × (Nat → Int) × (Nat → Int) × (Nat → Bool) × (Nat → Int) × (Nat → Int) × (Nat → Int) × Int) → Option ρ) (x : (Int × Int × Int × Bool × (Nat → Int) × (Nat → Int) × (Nat → Bool) × (Nat → Int) × (Nat → Int) × (Nat → Int) × Int) → Option ρ) : Option ρ :=
  bif decide (x2 < 6) then
    bif inR x2 6 then
      bif Nat.ble (2 + Int.toNat x2 * 6 + 1) 36 then
        bif x5 (Int.toNat x2) then
          bif Nat.ble (0 + Int.toNat x2 * 6 + 6) 36 then
            Option.bind (g___health_Sensor__Usable x0 (x3 (Int.toNat x2)) (x4 (Int.toNat x2)) (x5 (Int.toNat x2)) (x6 (Int.toNat x2)) (x7 (Int.toNat x2)) (x8 (Int.toNat x2))) fun (d : Bool) =>
              bif !d then
                bif !decide (x2 < 0) then c (x0, IntKind.wrap IntKind.i64 (x1 + IntKind.wrap IntKind.i64 (1 * 2 ^ min (Int.toNat x2) 64)), IntKind.wrap IntKind.i64 (x2 + 1), x3, x4, x5, x6, x7, x8, x9)
                else none
              else c (x0, x1, IntKind.wrap IntKind.i64 (x2 + 1), x3, x4, x5, x6, x7, x8, x9)
          else none
        else c (x0, x1, IntKind.wrap IntKind.i64 (x2 + 1), x3, x4, x5, x6, x7, x8, x9)
      else none
    else none
  else x (x0, x1, x2, decide (x2 < 6), x3, x4, x5, x6, x7, x8, x9)
section
open Go.Ab.Rdr
def Q___health_Monitor__Faults_0 := (st (cons (ar (rc (cptr (nat 0) (ok' (nat 0)) (nat 37)))) (cons (ar (rc (cf (fi .i64 hole)))) (cons aund (cons aund (cons aund (cons (ar (rc (cf (fi .i64 hole)))) (cons aund (cons aund (cons (ar (rc (cf (fi .i64 hole)))) (cons aund (cons aund (cons aund (cons aund (cons aund (cons aund (cons aund (cons aund (cons aund (cons aund (cons aund (cons aund (cons aund (cons aund (cons aund (cons aund (cons aund (cons aund (cons aund (cons aund (cons aund (cons aund (cons aund (cons aund nil))))))))))))))))))))))))))))))))) (cons (some' (cons (ga (szl (nat 6)) (cons (ki .i64 hole) (cons (ki .i64 hole) (cons (kb hole) (cons (ki .i64 hole) (cons (ki .i64 hole) (cons (ki .i64 hole) nil))))))) (cons (gc (cf (fi .i64 hole))) nil))) nil) nil)
end
theorem q___health_Monitor__Faults_0 : ∀ b, (Q___health_Monitor__Faults_0).em b = St.mk
    [AV.r (RV.c (CV.ptr 0 (Off.k 0) 37)), AV.r (RV.c (CV.f (FV.i IntKind.i64 b.1.2.1))), AV.und, AV.und, AV.und, AV.r (RV.c (CV.f (FV.i IntKind.i64 b.1.2.2.2.2.2.1))), AV.und, AV.und,
      AV.r (RV.c (CV.f (FV.i IntKind.i64 b.1.2.2.2.2.2.2.2.2.1))), AV.und, AV.und, AV.und, AV.und, AV.und, AV.und, AV.und, AV.und, AV.und, AV.und, AV.und, AV.und, AV.und, AV.und, AV.und, AV.und, AV.und, AV.und, AV.und,
      AV.und, AV.und, AV.und, AV.und, AV.und]
    [some [Sg.a (Sz.l 6) [Col.i IntKind.i64 b.2.1.1.1.2.1, Col.i IntKind.i64 b.2.1.1.1.2.2.1, Col.b b.2.1.1.1.2.2.2.1, Col.i IntKind.i64 b.2.1.1.1.2.2.2.2.1, Col.i IntKind.i64 b.2.1.1.1.2.2.2.2.2.1, Col.i IntKind.i64 b.2.1.1.1.2.2.2.2.2.2.1], Sg.c (CV.f (FV.i IntKind.i64 b.2.1.1.2.1))]] [] := fun b => by kernel_rfl
def R___health_Monitor__Faults_0 (l : ∀ {ρ : Type}, (Int × Int × Int × (Nat → Int) × (Nat → Int) × (Nat → Bool) × (Nat → Int) × (Nat → Int) × (Nat → Int) × Int) → ((Int × Int × Int × Bool × (Nat → Int) × (Nat → Int) × (Nat → Bool) × (Nat → Int) × (Nat → Int) × (Nat → Int) × Int) → Option ρ) → Option ρ) {ρ : Type} (s : St) (K : AX → St → Option ρ) : Option ρ := ((Q___health_Monitor__Faults_0).rd s).bind fun b => l (b.1.2.1, b.1.2.2.2.2.2.1, b.1.2.2.2.2.2.2.2.2.1, b.2.1.1.1.2.1, b.2.1.1.1.2.2.1, b.2.1.1.1.2.2.2.1, b.2.1.1.1.2.2.2.2.1, b.2.1.1.1.2.2.2.2.2.1, b.2.1.1.1.2.2.2.2.2.2.1, b.2.1.1.2.1) (fun d => K (AX.ex 0) (St.mk
  [AV.r (RV.c (CV.ptr 0 (Off.k 0) 37)), AV.r (RV.c (CV.f (FV.i IntKind.i64 d.1))), AV.und, AV.und, AV.und, AV.r (RV.c (CV.f (FV.i IntKind.i64 d.2.1))), AV.und, AV.und,
    AV.r (RV.c (CV.f (FV.i IntKind.i64 d.2.2.1))), AV.r (RV.c (CV.f (FV.b d.2.2.2.1))), AV.und, AV.und, AV.und, AV.und, AV.und, AV.und, AV.und, AV.und, AV.und, AV.und, AV.und, AV.und,
    AV.und, AV.und, AV.und, AV.und, AV.und, AV.und, AV.und, AV.und, AV.und, AV.und, AV.und]
  [some
      [Sg.a (Sz.l 6)
          [Col.i IntKind.i64 d.2.2.2.2.1, Col.i IntKind.i64 d.2.2.2.2.2.1, Col.b d.2.2.2.2.2.2.1, Col.i IntKind.i64 d.2.2.2.2.2.2.2.1,
            Col.i IntKind.i64 d.2.2.2.2.2.2.2.2.1, Col.i IntKind.i64 d.2.2.2.2.2.2.2.2.2.1],
        Sg.c (CV.f (FV.i IntKind.i64 d.2.2.2.2.2.2.2.2.2.2))]]
  []))
theorem ms___health_Monitor__Faults_0 {ρ σ : Type} (g___health_Sensor__Usable : Int → Int → Int → Bool → Int → Int → Int → Option Bool)   (q : ρ → Option σ) (x0 : Int) (x1 : Int) (x2 : Int) (x3 : Nat → Int) (x4 : Nat → Int) (x5 : Nat → Bool) (x6 : Nat → Int) (x7 : Nat → Int) (x8 : Nat → Int) (x9 : Int) (c : (Int × Int × Int × (Nat → Int) × (Nat → Int) × (Nat → Bool) × (Nat → Int) × (Nat → Int) × (Nat → Int) × Int) → Option ρ) (x : (Int × Int × Int × Bool × (Nat → Int) × (Nat → Int) × (Nat → Bool) × (Nat → Int) × (Nat → Int) × (Nat → Int) × Int) → Option ρ) : (S___health_Monitor__Faults_0 g___health_Sensor__Usable  x0 x1 x2 x3 x4 x5 x6 x7 x8 x9 c x).bind q = S___health_Monitor__Faults_0 g___health_Sensor__Usable  x0 x1 x2 x3 x4 x5 x6 x7 x8 x9 (fun d => (c d).bind q) (fun d => (x d).bind q) := by
  simp only [S___health_Monitor__Faults_0, bnd_cond, bnd_bind, bnd_none, bnd_sum]
def L___health_Monitor__Faults_0 {ρ : Type} (d : Int × Int × Int × (Nat → Int) × (Nat → Int) × (Nat → Bool) × (Nat → Int) × (Nat → Int) × (Nat → Int) × Int) (k : (Int × Int × Int × Bool × (Nat → Int) × (Nat → Int) × (Nat → Bool) × (Nat → Int) × (Nat → Int) × (Nat → Int) × Int) → Option ρ) : Option ρ := loopK (fun d c x => S___health_Monitor__Faults_0 f___health_Sensor__Usable  d.1 d.2.1 d.2.2.1 d.2.2.2.1 d.2.2.2.2.1 d.2.2.2.2.2.1 d.2.2.2.2.2.2.1 d.2.2.2.2.2.2.2.1 d.2.2.2.2.2.2.2.2.1 d.2.2.2.2.2.2.2.2.2 c x) 200 d k
theorem mL___health_Monitor__Faults_0 {ρ σ : Type} (q : ρ → Option σ) (d : Int × Int × Int × (Nat → Int) × (Nat → Int) × (Nat → Bool) × (Nat → Int) × (Nat → Int) × (Nat → Int) × Int) (k : (Int × Int × Int × Bool × (Nat → Int) × (Nat → Int) × (Nat → Bool) × (Nat → Int) × (Nat → Int) × (Nat → Int) × Int) → Option ρ) : (L___health_Monitor__Faults_0 d k).bind q = L___health_Monitor__Faults_0 d fun x => (k x).bind q :=
  loopK_bind q (fun d c x => ms___health_Monitor__Faults_0 f___health_Sensor__Usable   q d.1 d.2.1 d.2.2.1 d.2.2.2.1 d.2.2.2.2.1 d.2.2.2.2.2.1 d.2.2.2.2.2.2.1 d.2.2.2.2.2.2.2.1 d.2.2.2.2.2.2.2.2.1 d.2.2.2.2.2.2.2.2.2 c x) k _ d
theorem ds___health_Monitor__Faults_0 {ρ : Type} (g___health_Sensor__Usable : Int → Int → Int → Bool → Int → Int → Int → Option Bool) (l_0 : ∀ {ρ : Type}, (Int × Int × Int × (Nat → Int) × (Nat → Int) × (Nat → Bool) × (Nat → Int) × (Nat → Int) × (Nat → Int) × Int) → ((Int × Int × Int × Bool × (Nat → Int) × (Nat → Int) × (Nat → Bool) × (Nat → Int) × (Nat → Int) × (Nat → Int) × Int) → Option ρ) → Option ρ) (x0 : Int) (x1 : Int) (x2 : Int) (x3 : Nat → Int) (x4 : Nat → Int) (x5 : Nat → Bool) (x6 : Nat → Int) (x7 : Nat → Int) (x8 : Nat → Int) (x9 : Int) (c : St → Option ρ) (K : AX → St → Option ρ) :
    runC Try.prog (envOf [(27, F___health_Sensor__Usable g___health_Sensor__Usable)]) ⟨[⟨3, [2, 3, 4, 6, 7, 9, 10, 11, 12, 13, 14, 15, 16, 17, 18, 19, 20, 21, 26, 27, 28, 29, 30, 31, 32, 22, 23, 24, 25], []⟩], [⟨3, 1, @R___health_Monitor__Faults_0 (@l_0)⟩], [], [], (some ⟨0, [0, 1, 2, 3, 5, 6, 7, 8, 9, 10, 11, 12, 13, 14, 15, 16, 17, 18, 19, 20, 21, 22, 23, 24, 25, 26, 27, 28, 29, 30, 31, 32], []⟩)⟩ (tmpsOf Try.prog 19) 1 200 (loopIn Try.prog 19 3)
      (St.mk
    [AV.r (RV.c (CV.ptr 0 (Off.k 0) 37)), AV.r (RV.c (CV.f (FV.i IntKind.i64 x0))), AV.und, AV.und, AV.und, AV.r (RV.c (CV.f (FV.i IntKind.i64 x1))), AV.und, AV.und,
      AV.r (RV.c (CV.f (FV.i IntKind.i64 x2))), AV.und, AV.und, AV.und, AV.und, AV.und, AV.und, AV.und, AV.und, AV.und, AV.und, AV.und, AV.und, AV.und, AV.und, AV.und, AV.und, AV.und, AV.und, AV.und,
      AV.und, AV.und, AV.und, AV.und, AV.und]
    [some [Sg.a (Sz.l 6) [Col.i IntKind.i64 x3, Col.i IntKind.i64 x4, Col.b x5, Col.i IntKind.i64 x6, Col.i IntKind.i64 x7, Col.i IntKind.i64 x8], Sg.c (CV.f (FV.i IntKind.i64 x9))]] [])
      (next (fun t => t.head 1 ⟨[⟨3, [2, 3, 4, 6, 7, 9, 10, 11, 12, 13, 14, 15, 16, 17, 18, 19, 20, 21, 26, 27, 28, 29, 30, 31, 32, 22, 23, 24, 25], []⟩], [⟨3, 1, @R___health_Monitor__Faults_0 (@l_0)⟩], [], [], (some ⟨0, [0, 1, 2, 3, 5, 6, 7, 8, 9, 10, 11, 12, 13, 14, 15, 16, 17, 18, 19, 20, 21, 22, 23, 24, 25, 26, 27, 28, 29, 30, 31, 32], []⟩)⟩ (loopIn Try.prog 19 3)) c K) =
    S___health_Monitor__Faults_0 g___health_Sensor__Usable  x0 x1 x2 x3 x4 x5 x6 x7 x8 x9 (fun d => c (St.mk
  [AV.r (RV.c (CV.ptr 0 (Off.k 0) 37)), AV.r (RV.c (CV.f (FV.i IntKind.i64 d.1))), AV.und, AV.und, AV.und, AV.r (RV.c (CV.f (FV.i IntKind.i64 d.2.1))), AV.und, AV.und,
    AV.r (RV.c (CV.f (FV.i IntKind.i64 d.2.2.1))), AV.und, AV.und, AV.und, AV.und, AV.und, AV.und, AV.und, AV.und, AV.und, AV.und, AV.und, AV.und, AV.und, AV.und, AV.und, AV.und, AV.und, AV.und,
    AV.und, AV.und, AV.und, AV.und, AV.und, AV.und]
  [some
      [Sg.a (Sz.l 6)
          [Col.i IntKind.i64 d.2.2.2.1, Col.i IntKind.i64 d.2.2.2.2.1, Col.b d.2.2.2.2.2.1, Col.i IntKind.i64 d.2.2.2.2.2.2.1,
            Col.i IntKind.i64 d.2.2.2.2.2.2.2.1, Col.i IntKind.i64 d.2.2.2.2.2.2.2.2.1],
        Sg.c (CV.f (FV.i IntKind.i64 d.2.2.2.2.2.2.2.2.2))]]
  [])) (fun d => K (AX.ex 0) (St.mk
  [AV.r (RV.c (CV.ptr 0 (Off.k 0) 37)), AV.r (RV.c (CV.f (FV.i IntKind.i64 d.1))), AV.und, AV.und, AV.und, AV.r (RV.c (CV.f (FV.i IntKind.i64 d.2.1))), AV.und, AV.und,
    AV.r (RV.c (CV.f (FV.i IntKind.i64 d.2.2.1))), AV.r (RV.c (CV.f (FV.b d.2.2.2.1))), AV.und, AV.und, AV.und, AV.und, AV.und, AV.und, AV.und, AV.und, AV.und, AV.und, AV.und, AV.und,
    AV.und, AV.und, AV.und, AV.und, AV.und, AV.und, AV.und, AV.und, AV.und, AV.und, AV.und]
  [some
      [Sg.a (Sz.l 6)
          [Col.i IntKind.i64 d.2.2.2.2.1, Col.i IntKind.i64 d.2.2.2.2.2.1, Col.b d.2.2.2.2.2.2.1, Col.i IntKind.i64 d.2.2.2.2.2.2.2.1,
            Col.i IntKind.i64 d.2.2.2.2.2.2.2.2.1, Col.i IntKind.i64 d.2.2.2.2.2.2.2.2.2.1],
        Sg.c (CV.f (FV.i IntKind.i64 d.2.2.2.2.2.2.2.2.2.2))]]
  [])) := by kernel_rfl
theorem it___health_Monitor__Faults_0 {ρ : Type} (x0 : Int) (x1 : Int) (x2 : Int) (x3 : Nat → Int) (x4 : Nat → Int) (x5 : Nat → Bool) (x6 : Nat → Int) (x7 : Nat → Int) (x8 : Nat → Int) (x9 : Int) (K : AX → St → Option ρ) :
    iter (fun t => t.head 1 ⟨[⟨3, [2, 3, 4, 6, 7, 9, 10, 11, 12, 13, 14, 15, 16, 17, 18, 19, 20, 21, 26, 27, 28, 29, 30, 31, 32, 22, 23, 24, 25], []⟩], [⟨3, 1, @R___health_Monitor__Faults_0 (@L___health_Monitor__Faults_0)⟩], [], [], (some ⟨0, [0, 1, 2, 3, 5, 6, 7, 8, 9, 10, 11, 12, 13, 14, 15, 16, 17, 18, 19, 20, 21, 22, 23, 24, 25, 26, 27, 28, 29, 30, 31, 32], []⟩)⟩ (loopIn Try.prog 19 3)) (runC Try.prog (envOf [(27, F___health_Sensor__Usable f___health_Sensor__Usable)]) ⟨[⟨3, [2, 3, 4, 6, 7, 9, 10, 11, 12, 13, 14, 15, 16, 17, 18, 19, 20, 21, 26, 27, 28, 29, 30, 31, 32, 22, 23, 24, 25], []⟩], [⟨3, 1, @R___health_Monitor__Faults_0 (@L___health_Monitor__Faults_0)⟩], [], [], (some ⟨0, [0, 1, 2, 3, 5, 6, 7, 8, 9, 10, 11, 12, 13, 14, 15, 16, 17, 18, 19, 20, 21, 22, 23, 24, 25, 26, 27, 28, 29, 30, 31, 32], []⟩)⟩ (tmpsOf Try.prog 19) 1 200 (loopIn Try.prog 19 3)) K 200
      (St.mk
    [AV.r (RV.c (CV.ptr 0 (Off.k 0) 37)), AV.r (RV.c (CV.f (FV.i IntKind.i64 x0))), AV.und, AV.und, AV.und, AV.r (RV.c (CV.f (FV.i IntKind.i64 x1))), AV.und, AV.und,
      AV.r (RV.c (CV.f (FV.i IntKind.i64 x2))), AV.und, AV.und, AV.und, AV.und, AV.und, AV.und, AV.und, AV.und, AV.und, AV.und, AV.und, AV.und, AV.und, AV.und, AV.und, AV.und, AV.und, AV.und, AV.und,
      AV.und, AV.und, AV.und, AV.und, AV.und]
    [some [Sg.a (Sz.l 6) [Col.i IntKind.i64 x3, Col.i IntKind.i64 x4, Col.b x5, Col.i IntKind.i64 x6, Col.i IntKind.i64 x7, Col.i IntKind.i64 x8], Sg.c (CV.f (FV.i IntKind.i64 x9))]] []) = L___health_Monitor__Faults_0 (x0, x1, x2, x3, x4, x5, x6, x7, x8, x9) (fun d => K (AX.ex 0) (St.mk
  [AV.r (RV.c (CV.ptr 0 (Off.k 0) 37)), AV.r (RV.c (CV.f (FV.i IntKind.i64 d.1))), AV.und, AV.und, AV.und, AV.r (RV.c (CV.f (FV.i IntKind.i64 d.2.1))), AV.und, AV.und,
    AV.r (RV.c (CV.f (FV.i IntKind.i64 d.2.2.1))), AV.r (RV.c (CV.f (FV.b d.2.2.2.1))), AV.und, AV.und, AV.und, AV.und, AV.und, AV.und, AV.und, AV.und, AV.und, AV.und, AV.und, AV.und,
    AV.und, AV.und, AV.und, AV.und, AV.und, AV.und, AV.und, AV.und, AV.und, AV.und, AV.und]
  [some
      [Sg.a (Sz.l 6)
          [Col.i IntKind.i64 d.2.2.2.2.1, Col.i IntKind.i64 d.2.2.2.2.2.1, Col.b d.2.2.2.2.2.2.1, Col.i IntKind.i64 d.2.2.2.2.2.2.2.1,
            Col.i IntKind.i64 d.2.2.2.2.2.2.2.2.1, Col.i IntKind.i64 d.2.2.2.2.2.2.2.2.2.1],
        Sg.c (CV.f (FV.i IntKind.i64 d.2.2.2.2.2.2.2.2.2.2))]]
  [])) :=
  iter_loopX (emb := fun (d : Int × Int × Int × (Nat → Int) × (Nat → Int) × (Nat → Bool) × (Nat → Int) × (Nat → Int) × (Nat → Int) × Int) => St.mk
  [AV.r (RV.c (CV.ptr 0 (Off.k 0) 37)), AV.r (RV.c (CV.f (FV.i IntKind.i64 d.1))), AV.und, AV.und, AV.und, AV.r (RV.c (CV.f (FV.i IntKind.i64 d.2.1))), AV.und, AV.und,
    AV.r (RV.c (CV.f (FV.i IntKind.i64 d.2.2.1))), AV.und, AV.und, AV.und, AV.und, AV.und, AV.und, AV.und, AV.und, AV.und, AV.und, AV.und, AV.und, AV.und, AV.und, AV.und, AV.und, AV.und, AV.und,
    AV.und, AV.und, AV.und, AV.und, AV.und, AV.und]
  [some
      [Sg.a (Sz.l 6)
          [Col.i IntKind.i64 d.2.2.2.1, Col.i IntKind.i64 d.2.2.2.2.1, Col.b d.2.2.2.2.2.1, Col.i IntKind.i64 d.2.2.2.2.2.2.1,
            Col.i IntKind.i64 d.2.2.2.2.2.2.2.1, Col.i IntKind.i64 d.2.2.2.2.2.2.2.2.1],
        Sg.c (CV.f (FV.i IntKind.i64 d.2.2.2.2.2.2.2.2.2))]]
  []) (step := fun d c x => S___health_Monitor__Faults_0 f___health_Sensor__Usable  d.1 d.2.1 d.2.2.1 d.2.2.2.1 d.2.2.2.2.1 d.2.2.2.2.2.1 d.2.2.2.2.2.2.1 d.2.2.2.2.2.2.2.1 d.2.2.2.2.2.2.2.2.1 d.2.2.2.2.2.2.2.2.2 c x) (kx := (fun d => K (AX.ex 0) (St.mk
  [AV.r (RV.c (CV.ptr 0 (Off.k 0) 37)), AV.r (RV.c (CV.f (FV.i IntKind.i64 d.1))), AV.und, AV.und, AV.und, AV.r (RV.c (CV.f (FV.i IntKind.i64 d.2.1))), AV.und, AV.und,
    AV.r (RV.c (CV.f (FV.i IntKind.i64 d.2.2.1))), AV.r (RV.c (CV.f (FV.b d.2.2.2.1))), AV.und, AV.und, AV.und, AV.und, AV.und, AV.und, AV.und, AV.und, AV.und, AV.und, AV.und, AV.und,
    AV.und, AV.und, AV.und, AV.und, AV.und, AV.und, AV.und, AV.und, AV.und, AV.und, AV.und]
  [some
      [Sg.a (Sz.l 6)
          [Col.i IntKind.i64 d.2.2.2.2.1, Col.i IntKind.i64 d.2.2.2.2.2.1, Col.b d.2.2.2.2.2.2.1, Col.i IntKind.i64 d.2.2.2.2.2.2.2.1,
            Col.i IntKind.i64 d.2.2.2.2.2.2.2.2.1, Col.i IntKind.i64 d.2.2.2.2.2.2.2.2.2.1],
        Sg.c (CV.f (FV.i IntKind.i64 d.2.2.2.2.2.2.2.2.2.2))]]
  [])))
    (fun d c => ds___health_Monitor__Faults_0 f___health_Sensor__Usable (@L___health_Monitor__Faults_0) d.1 d.2.1 d.2.2.1 d.2.2.2.1 d.2.2.2.2.1 d.2.2.2.2.2.1 d.2.2.2.2.2.2.1 d.2.2.2.2.2.2.2.1 d.2.2.2.2.2.2.2.2.1 d.2.2.2.2.2.2.2.2.2 c K) 200 (x0, x1, x2, x3, x4, x5, x6, x7, x8, x9)
theorem so___health_Monitor__Faults_0 [Amb] : ∀ kk, SumOK Try.prog (envOf [(27, F___health_Sensor__Usable f___health_Sensor__Usable)]) ⟨[⟨3, [2, 3, 4, 6, 7, 9, 10, 11, 12, 13, 14, 15, 16, 17, 18, 19, 20, 21, 26, 27, 28, 29, 30, 31, 32, 22, 23, 24, 25], []⟩], [⟨3, 1, @R___health_Monitor__Faults_0 (@L___health_Monitor__Faults_0)⟩], [], [], (some ⟨0, [0, 1, 2, 3, 5, 6, 7, 8, 9, 10, 11, 12, 13, 14, 15, 16, 17, 18, 19, 20, 21, 22, 23, 24, 25, 26, 27, 28, 29, 30, 31, 32], []⟩)⟩ (tmpsOf Try.prog 19) kk 200 (loopIn Try.prog 19 3) :=
  SumOK.of (id := 3) (k0 := 1) (run := @R___health_Monitor__Faults_0 (@L___health_Monitor__Faults_0)) (by kernel_rfl) fun s K r hr => by
    unfold R___health_Monitor__Faults_0 at hr
    obtain ⟨b, hb, hr1⟩ := Option.bind_eq_some_iff.1 hr
    have e := ((Q___health_Monitor__Faults_0).ok s b hb).trans (q___health_Monitor__Faults_0 b)
    subst e
    exact ⟨200, (it___health_Monitor__Faults_0 b.1.2.1 b.1.2.2.2.2.2.1 b.1.2.2.2.2.2.2.2.2.1 b.2.1.1.1.2.1 b.2.1.1.1.2.2.1 b.2.1.1.1.2.2.2.1 b.2.1.1.1.2.2.2.2.1 b.2.1.1.1.2.2.2.2.2.1 b.2.1.1.1.2.2.2.2.2.2.1 b.2.1.1.2.1 K).trans hr1⟩
def K___health_Monitor__Faults {ρ : Type} (g___health_Sensor__Usable : Int → Int → Int → Bool → Int → Int → Int → Option Bool) (l_0 : ∀ {ρ : Type}, (Int × Int × Int × (Nat → Int) × (Nat → Int) × (Nat → Bool) × (Nat → Int) × (Nat → Int) × (Nat → Int) × Int) → ((Int × Int × Int × Bool × (Nat → Int) × (Nat → Int) × (Nat → Bool) × (Nat → Int) × (Nat → Int) × (Nat → Int) × Int) → Option ρ) → Option ρ) (x0 : Int) (x1 : Nat → Int) (x2 : Nat → Int) (x3 : Nat → Bool) (x4 : Nat → Int) (x5 : Nat → Int) (x6 : Nat → Int) (x7 : Int) (k : (Int) → Option ρ) : Option ρ :=
  l_0 (x0, 0, 0, x1, x2, x3, x4, x5, x6, x7) fun (d : Int × Int × Int × Bool × (Nat → Int) × (Nat → Int) × (Nat → Bool) × (Nat → Int) × (Nat → Int) × (Nat → Int) × Int) => k d.2.1
def f___health_Monitor__Faults (x0 : Int) (x1 : Nat → Int) (x2 : Nat → Int) (x3 : Nat → Bool) (x4 : Nat → Int) (x5 : Nat → Int) (x6 : Nat → Int) (x7 : Int) : Option (Int) := K___health_Monitor__Faults f___health_Sensor__Usable (@L___health_Monitor__Faults_0) x0 x1 x2 x3 x4 x5 x6 x7 some
section
open Go.Ab.Rdr
def QA___health_Monitor__Faults := ((pair (cons (ar (rc (cptr (nat 0) (ok' (nat 0)) (nat 37)))) (cons (ar (rc (cf (fi .i64 hole)))) nil)) (cons (cons (ga (szl (nat 6)) (cons (ki .i64 hole) (cons (ki .i64 hole) (cons (kb hole) (cons (ki .i64 hole) (cons (ki .i64 hole) (cons (ki .i64 hole) nil))))))) (cons (gc (cf (fi .i64 hole))) nil)) nil)) : Rdr (List AV × List Blk) _)
end
def F___health_Monitor__Faults (f : (Int) → (Nat → Int) → (Nat → Int) → (Nat → Bool) → (Nat → Int) → (Nat → Int) → (Nat → Int) → (Int) → Option (Int)) : Sem1 := fun args h => match (QA___health_Monitor__Faults).rd (args, h) with
  | some b => .opt (f b.1.2.1 b.2.1.1.2.1 b.2.1.1.2.2.1 b.2.1.1.2.2.2.1 b.2.1.1.2.2.2.2.1 b.2.1.1.2.2.2.2.2.1 b.2.1.1.2.2.2.2.2.2.1 b.2.1.2.1) fun (d : Int) => .leaf (Res.mk (AV.r (RV.c (CV.f (FV.i IntKind.i64 d)))) [Ch.keep] [])
  | none => .fail
theorem d___health_Monitor__Faults (g___health_Sensor__Usable : Int → Int → Int → Bool → Int → Int → Int → Option Bool) (l_0 : ∀ {ρ : Type}, (Int × Int × Int × (Nat → Int) × (Nat → Int) × (Nat → Bool) × (Nat → Int) × (Nat → Int) × (Nat → Int) × Int) → ((Int × Int × Int × Bool × (Nat → Int) × (Nat → Int) × (Nat → Bool) × (Nat → Int) × (Nat → Int) × (Nat → Int) × Int) → Option ρ) → Option ρ) (x0 : Int) (x1 : Nat → Int) (x2 : Nat → Int) (x3 : Nat → Bool) (x4 : Nat → Int) (x5 : Nat → Int) (x6 : Nat → Int) (x7 : Int) : den Try.prog (envOf [(27, F___health_Sensor__Usable g___health_Sensor__Usable)]) ⟨[⟨3, [2, 3, 4, 6, 7, 9, 10, 11, 12, 13, 14, 15, 16, 17, 18, 19, 20, 21, 26, 27, 28, 29, 30, 31, 32, 22, 23, 24, 25], []⟩], [⟨3, 1, @R___health_Monitor__Faults_0 (@l_0)⟩], [], [], (some ⟨0, [0, 1, 2, 3, 5, 6, 7, 8, 9, 10, 11, 12, 13, 14, 15, 16, 17, 18, 19, 20, 21, 22, 23, 24, 25, 26, 27, 28, 29, 30, 31, 32], []⟩)⟩ 200 19 [.r (.c (.ptr 0 (.k 0) 37)), .r (.c (.f (.i .i64 x0)))] [[.a (.l 6) [.i .i64 x1, .i .i64 x2, .b x3, .i .i64 x4, .i .i64 x5, .i .i64 x6], .c (.f (.i .i64 x7))]] =
    K___health_Monitor__Faults g___health_Sensor__Usable (@l_0) x0 x1 x2 x3 x4 x5 x6 x7 (fun (d : Int) => some (Res.mk (AV.r (RV.c (CV.f (FV.i IntKind.i64 d)))) [Ch.keep] [])) := by kernel_rfl
theorem m___health_Monitor__Faults {ρ σ : Type} (q : ρ → Option σ) (g___health_Sensor__Usable : Int → Int → Int → Bool → Int → Int → Int → Option Bool) (l_0 : ∀ {ρ : Type}, (Int × Int × Int × (Nat → Int) × (Nat → Int) × (Nat → Bool) × (Nat → Int) × (Nat → Int) × (Nat → Int) × Int) → ((Int × Int × Int × Bool × (Nat → Int) × (Nat → Int) × (Nat → Bool) × (Nat → Int) × (Nat → Int) × (Nat → Int) × Int) → Option ρ) → Option ρ) (hl_0 : ∀ {ρ σ : Type} (q : ρ → Option σ) (d : Int × Int × Int × (Nat → Int) × (Nat → Int) × (Nat → Bool) × (Nat → Int) × (Nat → Int) × (Nat → Int) × Int) (k : (Int × Int × Int × Bool × (Nat → Int) × (Nat → Int) × (Nat → Bool) × (Nat → Int) × (Nat → Int) × (Nat → Int) × Int) → Option ρ), (l_0 d k).bind q = l_0 d fun x => (k x).bind q) (x0 : Int) (x1 : Nat → Int) (x2 : Nat → Int) (x3 : Nat → Bool) (x4 : Nat → Int) (x5 : Nat → Int) (x6 : Nat → Int) (x7 : Int) (k : (Int) → Option ρ) : (K___health_Monitor__Faults g___health_Sensor__Usable (@l_0) x0 x1 x2 x3 x4 x5 x6 x7 k).bind q = K___health_Monitor__Faults g___health_Sensor__Usable (@l_0) x0 x1 x2 x3 x4 x5 x6 x7 (fun d => (k d).bind q) := by
  simp only [K___health_Monitor__Faults, bnd_cond, bnd_bind, bnd_none, bnd_sum, hl_0]
theorem qa___health_Monitor__Faults : ∀ b, (QA___health_Monitor__Faults).em b = ([.r (.c (.ptr 0 (.k 0) 37)), .r (.c (.f (.i .i64 b.1.2.1)))], [[.a (.l 6) [.i .i64 b.2.1.1.2.1, .i .i64 b.2.1.1.2.2.1, .b b.2.1.1.2.2.2.1, .i .i64 b.2.1.1.2.2.2.2.1, .i .i64 b.2.1.1.2.2.2.2.2.1, .i .i64 b.2.1.1.2.2.2.2.2.2.1], .c (.f (.i .i64 b.2.1.2.1))]]) := fun b => by kernel_rfl
theorem e___health_Monitor__Faults {f : (Int) → (Nat → Int) → (Nat → Int) → (Nat → Bool) → (Nat → Int) → (Nat → Int) → (Nat → Int) → (Int) → Option (Int)} {args : List AV} {h : List Blk} {r : Res} (hr : (F___health_Monitor__Faults f args h).eval = some r) : ∃ x0 x1 x2 x3 x4 x5 x6 x7, args = [.r (.c (.ptr 0 (.k 0) 37)), .r (.c (.f (.i .i64 x0)))] ∧ h = [[.a (.l 6) [.i .i64 x1, .i .i64 x2, .b x3, .i .i64 x4, .i .i64 x5, .i .i64 x6], .c (.f (.i .i64 x7))]] ∧ (f x0 x1 x2 x3 x4 x5 x6 x7).bind (fun (d : Int) => some (Res.mk (AV.r (RV.c (CV.f (FV.i IntKind.i64 d)))) [Ch.keep] [])) = some r := by
  unfold F___health_Monitor__Faults at hr
  split at hr
  · rename_i b hb
    have e := ((QA___health_Monitor__Faults).ok _ _ hb).trans (qa___health_Monitor__Faults b)
    rw [opt_eval2] at hr
    exact ⟨b.1.2.1, b.2.1.1.2.1, b.2.1.1.2.2.1, b.2.1.1.2.2.2.1, b.2.1.1.2.2.2.2.1, b.2.1.1.2.2.2.2.2.1, b.2.1.1.2.2.2.2.2.2.1, b.2.1.2.1, (Prod.mk.inj e).1, (Prod.mk.inj e).2, hr⟩
  · cases hr
theorem n___health_Monitor__Faults {σ : Type} (q : (Int) → Option σ) (x0 : Int) (x1 : Nat → Int) (x2 : Nat → Int) (x3 : Nat → Bool) (x4 : Nat → Int) (x5 : Nat → Int) (x6 : Nat → Int) (x7 : Int) : (f___health_Monitor__Faults x0 x1 x2 x3 x4 x5 x6 x7).bind q = K___health_Monitor__Faults f___health_Sensor__Usable (@L___health_Monitor__Faults_0) x0 x1 x2 x3 x4 x5 x6 x7 q := by
  unfold f___health_Monitor__Faults
  exact m___health_Monitor__Faults q f___health_Sensor__Usable (@L___health_Monitor__Faults_0) (fun q d k => mL___health_Monitor__Faults_0 q d k) x0 x1 x2 x3 x4 x5 x6 x7 some
theorem s___health_Monitor__Faults [Amb] : Sound Try.prog 19 (F___health_Monitor__Faults f___health_Monitor__Faults) :=
  (inl_sums (l := [(27, F___health_Sensor__Usable f___health_Sensor__Usable)]) (.cons s___health_Sensor__Usable (.nil _)) mixed (hs := ⟨[⟨3, [2, 3, 4, 6, 7, 9, 10, 11, 12, 13, 14, 15, 16, 17, 18, 19, 20, 21, 26, 27, 28, 29, 30, 31, 32, 22, 23, 24, 25], []⟩], [⟨3, 1, @R___health_Monitor__Faults_0 (@L___health_Monitor__Faults_0)⟩], [], [], (some ⟨0, [0, 1, 2, 3, 5, 6, 7, 8, 9, 10, 11, 12, 13, 14, 15, 16, 17, 18, 19, 20, 21, 22, 23, 24, 25, 26, 27, 28, 29, 30, 31, 32], []⟩)⟩) (lf := 200) (Sums.by (l := [loopIn Try.prog 19 3]) (lj := []) (by kernel_rfl) ⟨so___health_Monitor__Faults_0, trivial⟩ (by kernel_rfl) trivial) (by kernel_rfl)).by (F := F___health_Monitor__Faults f___health_Monitor__Faults) fun args b r hr => by
  obtain ⟨x0, x1, x2, x3, x4, x5, x6, x7, rfl, rfl, hr1⟩ := e___health_Monitor__Faults hr
  exact inl_eval ((d___health_Monitor__Faults f___health_Sensor__Usable (@L___health_Monitor__Faults_0) x0 x1 x2 x3 x4 x5 x6 x7).trans ((n___health_Monitor__Faults (fun (d : Int) => some (Res.mk (AV.r (RV.c (CV.f (FV.i IntKind.i64 d)))) [Ch.keep] [])) x0 x1 x2 x3 x4 x5 x6 x7).symm.trans hr1))

def K___health_Monitor__Bad {ρ : Type}   (x0 : Nat → Int) (x1 : Nat → Int) (x2 : Nat → Bool) (x3 : Nat → Int) (x4 : Nat → Int) (x5 : Nat → Int) (x6 : Int) (k : (Bool) → Option ρ) : Option ρ :=
  k (decide (x6 ≥ 10))
def f___health_Monitor__Bad (x0 : Nat → Int) (x1 : Nat → Int) (x2 : Nat → Bool) (x3 : Nat → Int) (x4 : Nat → Int) (x5 : Nat → Int) (x6 : Int) : Option (Bool) := K___health_Monitor__Bad   x0 x1 x2 x3 x4 x5 x6 some
section
open Go.Ab.Rdr
def QA___health_Monitor__Bad := ((pair (cons (ar (rc (cptr (nat 0) (ok' (nat 0)) (nat 37)))) nil) (cons (cons (ga (szl (nat 6)) (cons (ki .i64 hole) (cons (ki .i64 hole) (cons (kb hole) (cons (ki .i64 hole) (cons (ki .i64 hole) (cons (ki .i64 hole) nil))))))) (cons (gc (cf (fi .i64 hole))) nil)) nil)) : Rdr (List AV × List Blk) _)
end
def F___health_Monitor__Bad (f : (Nat → Int) → (Nat → Int) → (Nat → Bool) → (Nat → Int) → (Nat → Int) → (Nat → Int) → (Int) → Option (Bool)) : Sem1 := fun args h => match (QA___health_Monitor__Bad).rd (args, h) with
  | some b => .opt (f b.2.1.1.2.1 b.2.1.1.2.2.1 b.2.1.1.2.2.2.1 b.2.1.1.2.2.2.2.1 b.2.1.1.2.2.2.2.2.1 b.2.1.1.2.2.2.2.2.2.1 b.2.1.2.1) fun (d : Bool) => .leaf (Res.mk (AV.r (RV.c (CV.f (FV.b d)))) [Ch.keep] [])
  | none => .fail
theorem d___health_Monitor__Bad   (x0 : Nat → Int) (x1 : Nat → Int) (x2 : Nat → Bool) (x3 : Nat → Int) (x4 : Nat → Int) (x5 : Nat → Int) (x6 : Int) : den Try.prog (envOf []) ⟨[], [], [], [], none⟩ 200 20 [.r (.c (.ptr 0 (.k 0) 37))] [[.a (.l 6) [.i .i64 x0, .i .i64 x1, .b x2, .i .i64 x3, .i .i64 x4, .i .i64 x5], .c (.f (.i .i64 x6))]] =
    K___health_Monitor__Bad   x0 x1 x2 x3 x4 x5 x6 (fun (d : Bool) => some (Res.mk (AV.r (RV.c (CV.f (FV.b d)))) [Ch.keep] [])) := by kernel_rfl
theorem m___health_Monitor__Bad {ρ σ : Type} (q : ρ → Option σ)    (x0 : Nat → Int) (x1 : Nat → Int) (x2 : Nat → Bool) (x3 : Nat → Int) (x4 : Nat → Int) (x5 : Nat → Int) (x6 : Int) (k : (Bool) → Option ρ) : (K___health_Monitor__Bad   x0 x1 x2 x3 x4 x5 x6 k).bind q = K___health_Monitor__Bad   x0 x1 x2 x3 x4 x5 x6 (fun d => (k d).bind q) := by
  simp only [K___health_Monitor__Bad, bnd_cond, bnd_bind, bnd_none, bnd_sum]
theorem qa___health_Monitor__Bad : ∀ b, (QA___health_Monitor__Bad).em b = ([.r (.c (.ptr 0 (.k 0) 37))], [[.a (.l 6) [.i .i64 b.2.1.1.2.1, .i .i64 b.2.1.1.2.2.1, .b b.2.1.1.2.2.2.1, .i .i64 b.2.1.1.2.2.2.2.1, .i .i64 b.2.1.1.2.2.2.2.2.1, .i .i64 b.2.1.1.2.2.2.2.2.2.1], .c (.f (.i .i64 b.2.1.2.1))]]) := fun b => by kernel_rfl
theorem e___health_Monitor__Bad {f : (Nat → Int) → (Nat → Int) → (Nat → Bool) → (Nat → Int) → (Nat → Int) → (Nat → Int) → (Int) → Option (Bool)} {args : List AV} {h : List Blk} {r : Res} (hr : (F___health_Monitor__Bad f args h).eval = some r) : ∃ x0 x1 x2 x3 x4 x5 x6, args = [.r (.c (.ptr 0 (.k 0) 37))] ∧ h = [[.a (.l 6) [.i .i64 x0, .i .i64 x1, .b x2, .i .i64 x3, .i .i64 x4, .i .i64 x5], .c (.f (.i .i64 x6))]] ∧ (f x0 x1 x2 x3 x4 x5 x6).bind (fun (d : Bool) => some (Res.mk (AV.r (RV.c (CV.f (FV.b d)))) [Ch.keep] [])) = some r := by
  unfold F___health_Monitor__Bad at hr
  split at hr
  · rename_i b hb
    have e := ((QA___health_Monitor__Bad).ok _ _ hb).trans (qa___health_Monitor__Bad b)
    rw [opt_eval2] at hr
    exact ⟨b.2.1.1.2.1, b.2.1.1.2.2.1, b.2.1.1.2.2.2.1, b.2.1.1.2.2.2.2.1, b.2.1.1.2.2.2.2.2.1, b.2.1.1.2.2.2.2.2.2.1, b.2.1.2.1, (Prod.mk.inj e).1, (Prod.mk.inj e).2, hr⟩
  · cases hr
theorem n___health_Monitor__Bad {σ : Type} (q : (Bool) → Option σ) (x0 : Nat → Int) (x1 : Nat → Int) (x2 : Nat → Bool) (x3 : Nat → Int) (x4 : Nat → Int) (x5 : Nat → Int) (x6 : Int) : (f___health_Monitor__Bad x0 x1 x2 x3 x4 x5 x6).bind q = K___health_Monitor__Bad   x0 x1 x2 x3 x4 x5 x6 q := by
  unfold f___health_Monitor__Bad
  exact m___health_Monitor__Bad q    x0 x1 x2 x3 x4 x5 x6 some
theorem s___health_Monitor__Bad [Amb] : Sound Try.prog 20 (F___health_Monitor__Bad f___health_Monitor__Bad) :=
  (inl_sound (l := []) (.nil _) mixed [] [] 200 (by kernel_rfl)).by (F := F___health_Monitor__Bad f___health_Monitor__Bad) fun args b r hr => by
  obtain ⟨x0, x1, x2, x3, x4, x5, x6, rfl, rfl, hr1⟩ := e___health_Monitor__Bad hr
  exact inl_eval ((d___health_Monitor__Bad   x0 x1 x2 x3 x4 x5 x6).trans ((n___health_Monitor__Bad (fun (d : Bool) => some (Res.mk (AV.r (RV.c (CV.f (FV.b d)))) [Ch.keep] [])) x0 x1 x2 x3 x4 x5 x6).symm.trans hr1))

def S_astrolabelaw24_awake_0 {ρ : Type} (g_health_New : Int → Nat → (Nat → Int) → Bool → Option (Unit ⊕ (Nat → Int) × (Nat → Int) × (Nat → Bool) × (Nat → Int) × (Nat → Int) × (Nat → Int))) (g___health_Monitor__Result : Int →
  Int →
    Nat →
      (Nat → Int) →
        (Nat → Int) →
          (Nat → Bool) →
            (Nat → Int) →
              (Nat → Int) → (Nat → Int) → Int → (Nat → Bool) → (Nat → Int) → (Nat → Int) → Bool → Option ((Nat → Int) × (Nat → Int) × (Nat → Bool) × (Nat → Int) × (Nat → Int) × (Nat → Int) × Int)) (g___health_Watch__Mark : Int → Int → Int → Bool → Option Int) (g___health_Watch__Miss : Int → Int → Bool → Option (Int × Int × Bool)) (g___health_Monitor__Sensor : Int → (Nat → Int) → (Nat → Int) → (Nat → Bool) → (Nat → Int) → (Nat → Int) → (Nat → Int) → Int → Option (Int × Int × Bool × Int × Int × Int)) (g___health_Monitor__Vertical : Bool →
  Int →
    Int →
      Bool →
        Int →
          Int →
            (Nat → Int) → (Nat → Int) → (Nat → Bool) → (Nat → Int) → (Nat → Int) → (Nat → Int) → Int → Option ((Nat → Int) × (Nat → Int) × (Nat → Bool) × (Nat → Int) × (Nat → Int) × (Nat → Int) × Int)) (g___health_Monitor__Usable : Int → Int → (Nat → Int) → (Nat → Int) → (Nat → Bool) → (Nat → Int) → (Nat → Int) → (Nat → Int) → Int → Option Bool) (g___health_Monitor__Faults : Int → (Nat → Int) → (Nat → Int) → (Nat → Bool) → (Nat → Int) → (Nat → Int) → (Nat → Int) → Int → Option Int) (g___health_Watch__Fresh : Int → Int → Int → Int → Bool → Option Bool) (g___health_Sensor__Usable : Int → Int → Int → Bool → Int → Int → Int → Option Bool) (g___health_Monitor__Bad : (Nat → Int) → (Nat → Int) → (Nat → Bool) → (Nat → Int) → (Nat → Int) → (Nat → Int) → Int → Option Bool)  (x0 : Int) (x1 : Int) (x2 : Int) (x3 : Bool) (x4 : Nat → Int) (x5 : Nat → Int) (x6 : Nat → Bool) (x7 : Nat → Int) (x8 : Nat → Int) (x9 : Nat → Int) (x10 : Int) (x11 : Int) (x12 : Int) (x13 : Bool) (x14 : Int) (x15 : Int) (x16 : Bool) (x17 : Int) (x18 : Int) (x19 : Bool) (x20 : Int) (x21 : Int) (x22 : Int) (c : (Int × Int × Int × Bool × (Nat → Int) × (Nat → Int) × (Nat → Bool) × (Nat → Int) × (Nat → Int) × (Nat → Int) × Int × Int × Int × Bool × Int × Int × Bool × Int × Int × Bool × Int × Int × Int) → Option ρ) (x : (Int × Int × Int × Bool × Bool × (Nat → Int) × (Nat → Int) × (Nat → Bool) × (Nat → Int) × (Nat → Int) × (Nat → Int) × Int × Int × Int × Bool × Int × Int × Bool × Int × Int × Bool × Int × Int × Int) → Option ρ) : Option ρ :=
  bif decide (x0 < 10) then
    Option.bind (g___health_Monitor__Vertical false 1 0 false 2 0 x4 x5 x6 x7 x8 x9 x10) fun (d : (Nat → Int) × (Nat → Int) × (Nat → Bool) × (Nat → Int) × (Nat → Int) × (Nat → Int) × Int) =>
      c
        (IntKind.wrap IntKind.i64 (x0 + 1), x1, x2, x3, d.1, d.2.1, d.2.2.1, d.2.2.2.1, d.2.2.2.2.1, d.2.2.2.2.2.1, d.2.2.2.2.2.2, x11, x12, x13, x14, x15, x16,
          x17, x18, x19, x20, x21, x22)
  else x (x0, x1, x2, x3, decide (x0 < 10), x4, x5, x6, x7, x8, x9, x10, x11, x12, x13, x14, x15, x16, x17, x18, x19, x20, x21, x22)
section
open Go.Ab.Rdr
def Q_astrolabelaw24_awake_0 := (st (cons aund (cons (ar (rc (cptr (nat 0) (ok' (nat 0)) (nat 37)))) (cons (ar (rc (cf (fi .i64 (int 0))))) (cons (ar (rc (cptr (nat 1) (ok' (nat 0)) (nat 3)))) (cons (ar (rc (cptr (nat 2) (ok' (nat 0)) (nat 6)))) (cons (ar (rc (cptr (nat 3) (ok' (nat 0)) (nat 6)))) (cons (ar (rc (cf (fi .i64 hole)))) (cons (atup (cons (rc (cptr (nat 0) (ok' (nat 0)) (nat 37))) (cons (rc (cf (fi .i64 (int 0)))) nil))) (cons aund (cons aund (cons aund (cons aund (cons (ar (rc (cf (fi .i64 (int 0))))) (cons aund (cons aund (cons aund (cons aund (cons (ar (rc (cf (fb (bool false))))) (cons aund (cons aund (cons aund (cons aund (cons aund (cons (ar (rc (cptr (nat 1) (ok' (nat 0)) (nat 3)))) (cons aund (cons aund (cons aund (cons aund (cons aund (cons aund (cons (ar (ra (cons (gc (cf (fi .i64 hole))) (cons (gc (cf (fi .i64 hole))) (cons (gc (cf (fb hole))) nil))))) (cons aund (cons aund (cons aund (cons aund (cons aund (cons aund (cons aund (cons aund (cons aund (cons aund (cons aund (cons aund (cons aund (cons aund (cons aund (cons aund (cons (atup nil) (cons (atup nil) (cons (atup nil) (cons aund (cons aund (cons (atup nil) (cons (atup nil) (cons (atup nil) (cons aund (cons aund (cons (atup nil) (cons (atup nil) (cons (atup nil) (cons aund (cons aund (cons (atup nil) (cons (atup nil) (cons (atup nil) (cons (atup nil) (cons aund (cons aund (cons (atup nil) (cons (atup nil) (cons (atup nil) (cons (atup nil) (cons (atup nil) (cons aund (cons aund (cons (atup nil) (cons (atup nil) (cons (atup nil) (cons (atup nil) (cons (atup nil) (cons aund (cons aund (cons (atup nil) (cons (atup nil) (cons aund (cons aund (cons (atup nil) (cons (atup nil) (cons aund (cons aund (cons (atup nil) (cons (atup nil) (cons (atup nil) (cons (atup nil) (cons (atup nil) (cons (atup nil) (cons aund (cons aund (cons (atup nil) (cons (atup nil) (cons (atup nil) (cons (atup nil) (cons (atup nil) (cons aund (cons aund (cons (atup nil) (cons (atup nil) (cons (atup nil) (cons (atup nil) (cons (atup nil) (cons aund (cons aund (cons (atup nil) (cons (atup nil) (cons aund nil))))))))))))))))))))))))))))))))))))))))))))))))))))))))))))))))))))))))))))))))))))))))))))))))))))))))))))))))))) (cons (some' (cons (ga (szl (nat 6)) (cons (ki .i64 hole) (cons (ki .i64 hole) (cons (kb hole) (cons (ki .i64 hole) (cons (ki .i64 hole) (cons (ki .i64 hole) nil))))))) (cons (gc (cf (fi .i64 hole))) nil))) (cons (some' (cons (gc (cf (fi .i64 hole))) (cons (gc (cf (fi .i64 hole))) (cons (gc (cf (fb hole))) nil)))) (cons (some' (cons (gc (cf (fi .i64 hole))) (cons (gc (cf (fi .i64 hole))) (cons (gc (cf (fb hole))) (cons (gc (cf (fi .i64 (int 0)))) (cons (gc (cf (fi .i64 (int 9)))) (cons (gc (cf (fi .i64 (int 0)))) nil))))))) (cons (some' (cons (gc (cf (fi .i64 hole))) (cons (gc (cf (fi .i64 hole))) (cons (gc (cf (fb hole))) (cons (gc (cf (fi .i64 hole))) (cons (gc (cf (fi .i64 hole))) (cons (gc (cf (fi .i64 hole))) nil))))))) nil)))) nil)
end
theorem q_astrolabelaw24_awake_0 : ∀ b, (Q_astrolabelaw24_awake_0).em b = St.mk
    [AV.und, AV.r (RV.c (CV.ptr 0 (Off.k 0) 37)), AV.r (RV.c (CV.f (FV.i IntKind.i64 0))), AV.r (RV.c (CV.ptr 1 (Off.k 0) 3)), AV.r (RV.c (CV.ptr 2 (Off.k 0) 6)), AV.r (RV.c (CV.ptr 3 (Off.k 0) 6)),
      AV.r (RV.c (CV.f (FV.i IntKind.i64 b.1.2.2.2.2.2.2.1))), AV.tup [RV.c (CV.ptr 0 (Off.k 0) 37), RV.c (CV.f (FV.i IntKind.i64 0))], AV.und, AV.und, AV.und, AV.und, AV.r (RV.c (CV.f (FV.i IntKind.i64 0))), AV.und,
      AV.und, AV.und, AV.und, AV.r (RV.c (CV.f (FV.b false))), AV.und, AV.und, AV.und, AV.und, AV.und, AV.r (RV.c (CV.ptr 1 (Off.k 0) 3)), AV.und, AV.und, AV.und, AV.und, AV.und, AV.und,
      AV.r (RV.agg [Sg.c (CV.f (FV.i IntKind.i64 b.1.2.2.2.2.2.2.2.2.2.2.2.2.2.2.2.2.2.2.2.2.2.2.2.2.2.2.2.2.2.2.1.1)), Sg.c (CV.f (FV.i IntKind.i64 b.1.2.2.2.2.2.2.2.2.2.2.2.2.2.2.2.2.2.2.2.2.2.2.2.2.2.2.2.2.2.2.1.2.1)), Sg.c (CV.f (FV.b b.1.2.2.2.2.2.2.2.2.2.2.2.2.2.2.2.2.2.2.2.2.2.2.2.2.2.2.2.2.2.2.1.2.2.1))]), AV.und, AV.und, AV.und, AV.und, AV.und, AV.und, AV.und, AV.und, AV.und, AV.und, AV.und,
      AV.und, AV.und, AV.und, AV.und, AV.und, AV.tup [], AV.tup [], AV.tup [], AV.und, AV.und, AV.tup [], AV.tup [], AV.tup [], AV.und, AV.und, AV.tup [], AV.tup [], AV.tup [], AV.und, AV.und,
      AV.tup [], AV.tup [], AV.tup [], AV.tup [], AV.und, AV.und, AV.tup [], AV.tup [], AV.tup [], AV.tup [], AV.tup [], AV.und, AV.und, AV.tup [], AV.tup [], AV.tup [], AV.tup [], AV.tup [], AV.und,
      AV.und, AV.tup [], AV.tup [], AV.und, AV.und, AV.tup [], AV.tup [], AV.und, AV.und, AV.tup [], AV.tup [], AV.tup [], AV.tup [], AV.tup [], AV.tup [], AV.und, AV.und, AV.tup [], AV.tup [],
      AV.tup [], AV.tup [], AV.tup [], AV.und, AV.und, AV.tup [], AV.tup [], AV.tup [], AV.tup [], AV.tup [], AV.und, AV.und, AV.tup [], AV.tup [], AV.und]
    [some [Sg.a (Sz.l 6) [Col.i IntKind.i64 b.2.1.1.1.2.1, Col.i IntKind.i64 b.2.1.1.1.2.2.1, Col.b b.2.1.1.1.2.2.2.1, Col.i IntKind.i64 b.2.1.1.1.2.2.2.2.1, Col.i IntKind.i64 b.2.1.1.1.2.2.2.2.2.1, Col.i IntKind.i64 b.2.1.1.1.2.2.2.2.2.2.1], Sg.c (CV.f (FV.i IntKind.i64 b.2.1.1.2.1))],
      some [Sg.c (CV.f (FV.i IntKind.i64 b.2.1.2.1.1)), Sg.c (CV.f (FV.i IntKind.i64 b.2.1.2.1.2.1)), Sg.c (CV.f (FV.b b.2.1.2.1.2.2.1))],
      some
        [Sg.c (CV.f (FV.i IntKind.i64 b.2.1.2.2.1.1)), Sg.c (CV.f (FV.i IntKind.i64 b.2.1.2.2.1.2.1)), Sg.c (CV.f (FV.b b.2.1.2.2.1.2.2.1)), Sg.c (CV.f (FV.i IntKind.i64 0)), Sg.c (CV.f (FV.i IntKind.i64 9)),
          Sg.c (CV.f (FV.i IntKind.i64 0))],
      some
        [Sg.c (CV.f (FV.i IntKind.i64 b.2.1.2.2.2.1.1)), Sg.c (CV.f (FV.i IntKind.i64 b.2.1.2.2.2.1.2.1)), Sg.c (CV.f (FV.b b.2.1.2.2.2.1.2.2.1)), Sg.c (CV.f (FV.i IntKind.i64 b.2.1.2.2.2.1.2.2.2.1)), Sg.c (CV.f (FV.i IntKind.i64 b.2.1.2.2.2.1.2.2.2.2.1)),
          Sg.c (CV.f (FV.i IntKind.i64 b.2.1.2.2.2.1.2.2.2.2.2.1))]]
    [] := fun b => by kernel_rfl
def R_astrolabelaw24_awake_0 (l : ∀ {ρ : Type}, (Int × Int × Int × Bool × (Nat → Int) × (Nat → Int) × (Nat → Bool) × (Nat → Int) × (Nat → Int) × (Nat → Int) × Int × Int × Int × Bool × Int × Int × Bool × Int × Int × Bool × Int × Int × Int) → ((Int × Int × Int × Bool × Bool × (Nat → Int) × (Nat → Int) × (Nat → Bool) × (Nat → Int) × (Nat → Int) × (Nat → Int) × Int × Int × Int × Bool × Int × Int × Bool × Int × Int × Bool × Int × Int × Int) → Option ρ) → Option ρ) {ρ : Type} (s : St) (K : AX → St → Option ρ) : Option ρ := ((Q_astrolabelaw24_awake_0).rd s).bind fun b => l (b.1.2.2.2.2.2.2.1, b.1.2.2.2.2.2.2.2.2.2.2.2.2.2.2.2.2.2.2.2.2.2.2.2.2.2.2.2.2.2.2.1.1, b.1.2.2.2.2.2.2.2.2.2.2.2.2.2.2.2.2.2.2.2.2.2.2.2.2.2.2.2.2.2.2.1.2.1, b.1.2.2.2.2.2.2.2.2.2.2.2.2.2.2.2.2.2.2.2.2.2.2.2.2.2.2.2.2.2.2.1.2.2.1, b.2.1.1.1.2.1, b.2.1.1.1.2.2.1, b.2.1.1.1.2.2.2.1, b.2.1.1.1.2.2.2.2.1, b.2.1.1.1.2.2.2.2.2.1, b.2.1.1.1.2.2.2.2.2.2.1, b.2.1.1.2.1, b.2.1.2.1.1, b.2.1.2.1.2.1, b.2.1.2.1.2.2.1, b.2.1.2.2.1.1, b.2.1.2.2.1.2.1, b.2.1.2.2.1.2.2.1, b.2.1.2.2.2.1.1, b.2.1.2.2.2.1.2.1, b.2.1.2.2.2.1.2.2.1, b.2.1.2.2.2.1.2.2.2.1, b.2.1.2.2.2.1.2.2.2.2.1, b.2.1.2.2.2.1.2.2.2.2.2.1) (fun d => K (AX.ex 0) (St.mk
  [AV.und, AV.r (RV.c (CV.ptr 0 (Off.k 0) 37)), AV.r (RV.c (CV.f (FV.i IntKind.i64 0))), AV.r (RV.c (CV.ptr 1 (Off.k 0) 3)), AV.r (RV.c (CV.ptr 2 (Off.k 0) 6)), AV.r (RV.c (CV.ptr 3 (Off.k 0) 6)),
    AV.r (RV.c (CV.f (FV.i IntKind.i64 d.1))), AV.tup [RV.c (CV.ptr 0 (Off.k 0) 37), RV.c (CV.f (FV.i IntKind.i64 0))], AV.und, AV.und, AV.und, AV.und, AV.r (RV.c (CV.f (FV.i IntKind.i64 0))),
    AV.und, AV.und, AV.und, AV.und, AV.r (RV.c (CV.f (FV.b false))), AV.und, AV.und, AV.und, AV.und, AV.und, AV.r (RV.c (CV.ptr 1 (Off.k 0) 3)), AV.und, AV.und, AV.und, AV.und, AV.und, AV.und,
    AV.r (RV.agg [Sg.c (CV.f (FV.i IntKind.i64 d.2.1)), Sg.c (CV.f (FV.i IntKind.i64 d.2.2.1)), Sg.c (CV.f (FV.b d.2.2.2.1))]), AV.und, AV.und, AV.und, AV.und, AV.und,
    AV.r (RV.c (CV.f (FV.i IntKind.i64 d.1))), AV.r (RV.c (CV.f (FV.b d.2.2.2.2.1))), AV.und, AV.und, AV.und, AV.und, AV.und, AV.und, AV.und, AV.und, AV.und, AV.tup [], AV.tup [],
    AV.tup [], AV.und, AV.und, AV.tup [], AV.tup [], AV.tup [], AV.und, AV.und, AV.tup [], AV.tup [], AV.tup [], AV.und, AV.und, AV.tup [], AV.tup [], AV.tup [], AV.tup [], AV.und, AV.und, AV.tup [],
    AV.tup [], AV.tup [], AV.tup [], AV.tup [], AV.und, AV.und, AV.tup [], AV.tup [], AV.tup [], AV.tup [], AV.tup [], AV.und, AV.und, AV.tup [], AV.tup [], AV.und, AV.und, AV.tup [], AV.tup [],
    AV.und, AV.und, AV.tup [], AV.tup [], AV.tup [], AV.tup [], AV.tup [], AV.tup [], AV.und, AV.und, AV.tup [], AV.tup [], AV.tup [], AV.tup [], AV.tup [], AV.und, AV.und, AV.tup [], AV.tup [],
    AV.tup [], AV.tup [], AV.tup [], AV.und, AV.und, AV.tup [], AV.tup [], AV.und]
  [some
      [Sg.a (Sz.l 6)
          [Col.i IntKind.i64 d.2.2.2.2.2.1, Col.i IntKind.i64 d.2.2.2.2.2.2.1, Col.b d.2.2.2.2.2.2.2.1,
            Col.i IntKind.i64 d.2.2.2.2.2.2.2.2.1, Col.i IntKind.i64 d.2.2.2.2.2.2.2.2.2.1, Col.i IntKind.i64 d.2.2.2.2.2.2.2.2.2.2.1],
        Sg.c (CV.f (FV.i IntKind.i64 d.2.2.2.2.2.2.2.2.2.2.2.1))],
    some
      [Sg.c (CV.f (FV.i IntKind.i64 d.2.2.2.2.2.2.2.2.2.2.2.2.1)), Sg.c (CV.f (FV.i IntKind.i64 d.2.2.2.2.2.2.2.2.2.2.2.2.2.1)),
        Sg.c (CV.f (FV.b d.2.2.2.2.2.2.2.2.2.2.2.2.2.2.1))],
    some
      [Sg.c (CV.f (FV.i IntKind.i64 d.2.2.2.2.2.2.2.2.2.2.2.2.2.2.2.1)),
        Sg.c (CV.f (FV.i IntKind.i64 d.2.2.2.2.2.2.2.2.2.2.2.2.2.2.2.2.1)),
        Sg.c (CV.f (FV.b d.2.2.2.2.2.2.2.2.2.2.2.2.2.2.2.2.2.1)), Sg.c (CV.f (FV.i IntKind.i64 0)), Sg.c (CV.f (FV.i IntKind.i64 9)),
        Sg.c (CV.f (FV.i IntKind.i64 0))],
    some
      [Sg.c (CV.f (FV.i IntKind.i64 d.2.2.2.2.2.2.2.2.2.2.2.2.2.2.2.2.2.2.1)),
        Sg.c (CV.f (FV.i IntKind.i64 d.2.2.2.2.2.2.2.2.2.2.2.2.2.2.2.2.2.2.2.1)),
        Sg.c (CV.f (FV.b d.2.2.2.2.2.2.2.2.2.2.2.2.2.2.2.2.2.2.2.2.1)),
        Sg.c (CV.f (FV.i IntKind.i64 d.2.2.2.2.2.2.2.2.2.2.2.2.2.2.2.2.2.2.2.2.2.1)),
        Sg.c (CV.f (FV.i IntKind.i64 d.2.2.2.2.2.2.2.2.2.2.2.2.2.2.2.2.2.2.2.2.2.2.1)),
        Sg.c (CV.f (FV.i IntKind.i64 d.2.2.2.2.2.2.2.2.2.2.2.2.2.2.2.2.2.2.2.2.2.2.2))]]
  []))
theorem ms_astrolabelaw24_awake_0 {ρ σ : Type} (g_health_New : Int → Nat → (Nat → Int) → Bool → Option (Unit ⊕ (Nat → Int) × (Nat → Int) × (Nat → Bool) × (Nat → Int) × (Nat → Int) × (Nat → Int))) (g___health_Monitor__Result : Int →
  Int →
    Nat →
      (Nat → Int) →
        (Nat → Int) →
          (Nat → Bool) →
            (Nat → Int) →
              (Nat → Int) → (Nat → Int) → Int → (Nat → Bool) → (Nat → Int) → (Nat → Int) → Bool → Option ((Nat → Int) × (Nat → Int) × (Nat → Bool) × (Nat → Int) × (Nat → Int) × (Nat → Int) × Int)) (g___health_Watch__Mark : Int → Int → Int → Bool → Option Int) (g___health_Watch__Miss : Int → Int → Bool → Option (Int × Int × Bool)) (g___health_Monitor__Sensor : Int → (Nat → Int) → (Nat → Int) → (Nat → Bool) → (Nat → Int) → (Nat → Int) → (Nat → Int) → Int → Option (Int × Int × Bool × Int × Int × Int)) (g___health_Monitor__Vertical : Bool →
  Int →
    Int →
      Bool →
        Int →
          Int →
            (Nat → Int) → (Nat → Int) → (Nat → Bool) → (Nat → Int) → (Nat → Int) → (Nat → Int) → Int → Option ((Nat → Int) × (Nat → Int) × (Nat → Bool) × (Nat → Int) × (Nat → Int) × (Nat → Int) × Int)) (g___health_Monitor__Usable : Int → Int → (Nat → Int) → (Nat → Int) → (Nat → Bool) → (Nat → Int) → (Nat → Int) → (Nat → Int) → Int → Option Bool) (g___health_Monitor__Faults : Int → (Nat → Int) → (Nat → Int) → (Nat → Bool) → (Nat → Int) → (Nat → Int) → (Nat → Int) → Int → Option Int) (g___health_Watch__Fresh : Int → Int → Int → Int → Bool → Option Bool) (g___health_Sensor__Usable : Int → Int → Int → Bool → Int → Int → Int → Option Bool) (g___health_Monitor__Bad : (Nat → Int) → (Nat → Int) → (Nat → Bool) → (Nat → Int) → (Nat → Int) → (Nat → Int) → Int → Option Bool)   (q : ρ → Option σ) (x0 : Int) (x1 : Int) (x2 : Int) (x3 : Bool) (x4 : Nat → Int) (x5 : Nat → Int) (x6 : Nat → Bool) (x7 : Nat → Int) (x8 : Nat → Int) (x9 : Nat → Int) (x10 : Int) (x11 : Int) (x12 : Int) (x13 : Bool) (x14 : Int) (x15 : Int) (x16 : Bool) (x17 : Int) (x18 : Int) (x19 : Bool) (x20 : Int) (x21 : Int) (x22 : Int) (c : (Int × Int × Int × Bool × (Nat → Int) × (Nat → Int) × (Nat → Bool) × (Nat → Int) × (Nat → Int) × (Nat → Int) × Int × Int × Int × Bool × Int × Int × Bool × Int × Int × Bool × Int × Int × Int) → Option ρ) (x : (Int × Int × Int × Bool × Bool × (Nat → Int) × (Nat → Int) × (Nat → Bool) × (Nat → Int) × (Nat → Int) × (Nat → Int) × Int × Int × Int × Bool × Int × Int × Bool × Int × Int × Bool × Int × Int × Int) → Option ρ) : (S_astrolabelaw24_awake_0 g_health_New g___health_Monitor__Result g___health_Watch__Mark g___health_Watch__Miss g___health_Monitor__Sensor g___health_Monitor__Vertical g___health_Monitor__Usable g___health_Monitor__Faults g___health_Watch__Fresh g___health_Sensor__Usable g___health_Monitor__Bad  x0 x1 x2 x3 x4 x5 x6 x7 x8 x9 x10 x11 x12 x13 x14 x15 x16 x17 x18 x19 x20 x21 x22 c x).bind q = S_astrolabelaw24_awake_0 g_health_New g___health_Monitor__Result g___health_Watch__Mark g___health_Watch__Miss g___health_Monitor__Sensor g___health_Monitor__Vertical g___health_Monitor__Usable g___health_Monitor__Faults g___health_Watch__Fresh g___health_Sensor__Usable g___health_Monitor__Bad  x0 x1 x2 x3 x4 x5 x6 x7 x8 x9 x10 x11 x12 x13 x14 x15 x16 x17 x18 x19 x20 x21 x22 (fun d => (c d).bind q) (fun d => (x d).bind q) := by
  simp only [S_astrolabelaw24_awake_0, bnd_cond, bnd_bind, bnd_none, bnd_sum]
def L_astrolabelaw24_awake_0 {ρ : Type} (d : Int × Int × Int × Bool × (Nat → Int) × (Nat → Int) × (Nat → Bool) × (Nat → Int) × (Nat → Int) × (Nat → Int) × Int × Int × Int × Bool × Int × Int × Bool × Int × Int × Bool × Int × Int × Int) (k : (Int × Int × Int × Bool × Bool × (Nat → Int) × (Nat → Int) × (Nat → Bool) × (Nat → Int) × (Nat → Int) × (Nat → Int) × Int × Int × Int × Bool × Int × Int × Bool × Int × Int × Bool × Int × Int × Int) → Option ρ) : Option ρ := loopK (fun d c x => S_astrolabelaw24_awake_0 f_health_New f___health_Monitor__Result f___health_Watch__Mark f___health_Watch__Miss f___health_Monitor__Sensor f___health_Monitor__Vertical f___health_Monitor__Usable f___health_Monitor__Faults f___health_Watch__Fresh f___health_Sensor__Usable f___health_Monitor__Bad  d.1 d.2.1 d.2.2.1 d.2.2.2.1 d.2.2.2.2.1 d.2.2.2.2.2.1 d.2.2.2.2.2.2.1 d.2.2.2.2.2.2.2.1 d.2.2.2.2.2.2.2.2.1 d.2.2.2.2.2.2.2.2.2.1 d.2.2.2.2.2.2.2.2.2.2.1 d.2.2.2.2.2.2.2.2.2.2.2.1 d.2.2.2.2.2.2.2.2.2.2.2.2.1 d.2.2.2.2.2.2.2.2.2.2.2.2.2.1 d.2.2.2.2.2.2.2.2.2.2.2.2.2.2.1 d.2.2.2.2.2.2.2.2.2.2.2.2.2.2.2.1 d.2.2.2.2.2.2.2.2.2.2.2.2.2.2.2.2.1 d.2.2.2.2.2.2.2.2.2.2.2.2.2.2.2.2.2.1 d.2.2.2.2.2.2.2.2.2.2.2.2.2.2.2.2.2.2.1 d.2.2.2.2.2.2.2.2.2.2.2.2.2.2.2.2.2.2.2.1 d.2.2.2.2.2.2.2.2.2.2.2.2.2.2.2.2.2.2.2.2.1 d.2.2.2.2.2.2.2.2.2.2.2.2.2.2.2.2.2.2.2.2.2.1 d.2.2.2.2.2.2.2.2.2.2.2.2.2.2.2.2.2.2.2.2.2.2 c x) 200 d k
theorem mL_astrolabelaw24_awake_0 {ρ σ : Type} (q : ρ → Option σ) (d : Int × Int × Int × Bool × (Nat → Int) × (Nat → Int) × (Nat → Bool) × (Nat → Int) × (Nat → Int) × (Nat → Int) × Int × Int × Int × Bool × Int × Int × Bool × Int × Int × Bool × Int × Int × Int) (k : (Int × Int × Int × Bool × Bool × (Nat → Int) × (Nat → Int) × (Nat → Bool) × (Nat → Int) × (Nat → Int) × (Nat → Int) × Int × Int × Int × Bool × Int × Int × Bool × Int × Int × Bool × Int × Int × Int) → Option ρ) : (L_astrolabelaw24_awake_0 d k).bind q = L_astrolabelaw24_awake_0 d fun x => (k x).bind q :=
  loopK_bind q (fun d c x => ms_astrolabelaw24_awake_0 f_health_New f___health_Monitor__Result f___health_Watch__Mark f___health_Watch__Miss f___health_Monitor__Sensor f___health_Monitor__Vertical f___health_Monitor__Usable f___health_Monitor__Faults f___health_Watch__Fresh f___health_Sensor__Usable f___health_Monitor__Bad   q d.1 d.2.1 d.2.2.1 d.2.2.2.1 d.2.2.2.2.1 d.2.2.2.2.2.1 d.2.2.2.2.2.2.1 d.2.2.2.2.2.2.2.1 d.2.2.2.2.2.2.2.2.1 d.2.2.2.2.2.2.2.2.2.1 d.2.2.2.2.2.2.2.2.2.2.1 d.2.2.2.2.2.2.2.2.2.2.2.1 d.2.2.2.2.2.2.2.2.2.2.2.2.1 d.2.2.2.2.2.2.2.2.2.2.2.2.2.1 d.2.2.2.2.2.2.2.2.2.2.2.2.2.2.1 d.2.2.2.2.2.2.2.2.2.2.2.2.2.2.2.1 d.2.2.2.2.2.2.2.2.2.2.2.2.2.2.2.2.1 d.2.2.2.2.2.2.2.2.2.2.2.2.2.2.2.2.2.1 d.2.2.2.2.2.2.2.2.2.2.2.2.2.2.2.2.2.2.1 d.2.2.2.2.2.2.2.2.2.2.2.2.2.2.2.2.2.2.2.1 d.2.2.2.2.2.2.2.2.2.2.2.2.2.2.2.2.2.2.2.2.1 d.2.2.2.2.2.2.2.2.2.2.2.2.2.2.2.2.2.2.2.2.2.1 d.2.2.2.2.2.2.2.2.2.2.2.2.2.2.2.2.2.2.2.2.2.2 c x) k _ d
theorem ds_astrolabelaw24_awake_0 {ρ : Type} (g_health_New : Int → Nat → (Nat → Int) → Bool → Option (Unit ⊕ (Nat → Int) × (Nat → Int) × (Nat → Bool) × (Nat → Int) × (Nat → Int) × (Nat → Int))) (g___health_Monitor__Result : Int →
  Int →
    Nat →
      (Nat → Int) →
        (Nat → Int) →
          (Nat → Bool) →
            (Nat → Int) →
              (Nat → Int) → (Nat → Int) → Int → (Nat → Bool) → (Nat → Int) → (Nat → Int) → Bool → Option ((Nat → Int) × (Nat → Int) × (Nat → Bool) × (Nat → Int) × (Nat → Int) × (Nat → Int) × Int)) (g___health_Watch__Mark : Int → Int → Int → Bool → Option Int) (g___health_Watch__Miss : Int → Int → Bool → Option (Int × Int × Bool)) (g___health_Monitor__Sensor : Int → (Nat → Int) → (Nat → Int) → (Nat → Bool) → (Nat → Int) → (Nat → Int) → (Nat → Int) → Int → Option (Int × Int × Bool × Int × Int × Int)) (g___health_Monitor__Vertical : Bool →
  Int →
    Int →
      Bool →
        Int →
          Int →
            (Nat → Int) → (Nat → Int) → (Nat → Bool) → (Nat → Int) → (Nat → Int) → (Nat → Int) → Int → Option ((Nat → Int) × (Nat → Int) × (Nat → Bool) × (Nat → Int) × (Nat → Int) × (Nat → Int) × Int)) (g___health_Monitor__Usable : Int → Int → (Nat → Int) → (Nat → Int) → (Nat → Bool) → (Nat → Int) → (Nat → Int) → (Nat → Int) → Int → Option Bool) (g___health_Monitor__Faults : Int → (Nat → Int) → (Nat → Int) → (Nat → Bool) → (Nat → Int) → (Nat → Int) → (Nat → Int) → Int → Option Int) (g___health_Watch__Fresh : Int → Int → Int → Int → Bool → Option Bool) (g___health_Sensor__Usable : Int → Int → Int → Bool → Int → Int → Int → Option Bool) (g___health_Monitor__Bad : (Nat → Int) → (Nat → Int) → (Nat → Bool) → (Nat → Int) → (Nat → Int) → (Nat → Int) → Int → Option Bool) (l_0 : ∀ {ρ : Type}, (Int × Int × Int × Bool × (Nat → Int) × (Nat → Int) × (Nat → Bool) × (Nat → Int) × (Nat → Int) × (Nat → Int) × Int × Int × Int × Bool × Int × Int × Bool × Int × Int × Bool × Int × Int × Int) → ((Int × Int × Int × Bool × Bool × (Nat → Int) × (Nat → Int) × (Nat → Bool) × (Nat → Int) × (Nat → Int) × (Nat → Int) × Int × Int × Int × Bool × Int × Int × Bool × Int × Int × Bool × Int × Int × Int) → Option ρ) → Option ρ) (x0 : Int) (x1 : Int) (x2 : Int) (x3 : Bool) (x4 : Nat → Int) (x5 : Nat → Int) (x6 : Nat → Bool) (x7 : Nat → Int) (x8 : Nat → Int) (x9 : Nat → Int) (x10 : Int) (x11 : Int) (x12 : Int) (x13 : Bool) (x14 : Int) (x15 : Int) (x16 : Bool) (x17 : Int) (x18 : Int) (x19 : Bool) (x20 : Int) (x21 : Int) (x22 : Int) (c : St → Option ρ) (K : AX → St → Option ρ) :
    runC Try.prog (envOf [(16, F_health_New g_health_New), (21, F___health_Monitor__Result g___health_Monitor__Result), (25, F___health_Watch__Mark g___health_Watch__Mark), (28, F___health_Watch__Miss g___health_Watch__Miss), (17, F___health_Monitor__Sensor g___health_Monitor__Sensor), (24, F___health_Monitor__Vertical g___health_Monitor__Vertical), (18, F___health_Monitor__Usable g___health_Monitor__Usable), (19, F___health_Monitor__Faults g___health_Monitor__Faults), (29, F___health_Watch__Fresh g___health_Watch__Fresh), (27, F___health_Sensor__Usable g___health_Sensor__Usable), (20, F___health_Monitor__Bad g___health_Monitor__Bad)]) ⟨[⟨13, [0, 8, 9, 10, 11, 13, 14, 15, 16, 18, 19, 20, 21, 22, 24, 25, 26, 27, 28, 29, 31, 32, 33, 34, 35, 36, 37, 38, 39, 40, 42, 43, 44, 45, 46, 50, 51, 55, 56, 60, 61, 66, 67, 73, 74, 80, 81, 84, 85, 88, 89, 96, 97, 103, 104, 110, 111, 114, 41], []⟩], [⟨13, 0, @R_astrolabelaw24_awake_0 (@l_0)⟩], [], [], (some ⟨0, [1, 2, 3, 4, 5, 6, 7, 8, 9, 10, 11, 12, 13, 14, 15, 16, 17, 18, 19, 20, 21, 22, 23, 24, 25, 26, 27, 28, 29, 30, 31, 32, 33, 34, 35, 36, 37, 38, 39, 40, 41, 42, 43, 44, 45, 46, 47, 48, 49, 50, 51, 52, 53, 54, 55, 56, 57, 58, 59, 60, 61, 62, 63, 64, 65, 66, 67, 68, 69, 70, 71, 72, 73, 74, 75, 76, 77, 78, 79, 80, 81, 82, 83, 84, 85, 86, 87, 88, 89, 90, 91, 92, 93, 94, 95, 96, 97, 98, 99, 100, 101, 102, 103, 104, 105, 106, 107, 108, 109, 110, 111, 112, 113, 114], []⟩)⟩ (tmpsOf Try.prog 15) 0 200 (loopIn Try.prog 15 13)
      (St.mk
    [AV.und, AV.r (RV.c (CV.ptr 0 (Off.k 0) 37)), AV.r (RV.c (CV.f (FV.i IntKind.i64 0))), AV.r (RV.c (CV.ptr 1 (Off.k 0) 3)), AV.r (RV.c (CV.ptr 2 (Off.k 0) 6)), AV.r (RV.c (CV.ptr 3 (Off.k 0) 6)),
      AV.r (RV.c (CV.f (FV.i IntKind.i64 x0))), AV.tup [RV.c (CV.ptr 0 (Off.k 0) 37), RV.c (CV.f (FV.i IntKind.i64 0))], AV.und, AV.und, AV.und, AV.und, AV.r (RV.c (CV.f (FV.i IntKind.i64 0))), AV.und,
      AV.und, AV.und, AV.und, AV.r (RV.c (CV.f (FV.b false))), AV.und, AV.und, AV.und, AV.und, AV.und, AV.r (RV.c (CV.ptr 1 (Off.k 0) 3)), AV.und, AV.und, AV.und, AV.und, AV.und, AV.und,
      AV.r (RV.agg [Sg.c (CV.f (FV.i IntKind.i64 x1)), Sg.c (CV.f (FV.i IntKind.i64 x2)), Sg.c (CV.f (FV.b x3))]), AV.und, AV.und, AV.und, AV.und, AV.und, AV.und, AV.und, AV.und, AV.und, AV.und, AV.und,
      AV.und, AV.und, AV.und, AV.und, AV.und, AV.tup [], AV.tup [], AV.tup [], AV.und, AV.und, AV.tup [], AV.tup [], AV.tup [], AV.und, AV.und, AV.tup [], AV.tup [], AV.tup [], AV.und, AV.und,
      AV.tup [], AV.tup [], AV.tup [], AV.tup [], AV.und, AV.und, AV.tup [], AV.tup [], AV.tup [], AV.tup [], AV.tup [], AV.und, AV.und, AV.tup [], AV.tup [], AV.tup [], AV.tup [], AV.tup [], AV.und,
      AV.und, AV.tup [], AV.tup [], AV.und, AV.und, AV.tup [], AV.tup [], AV.und, AV.und, AV.tup [], AV.tup [], AV.tup [], AV.tup [], AV.tup [], AV.tup [], AV.und, AV.und, AV.tup [], AV.tup [],
      AV.tup [], AV.tup [], AV.tup [], AV.und, AV.und, AV.tup [], AV.tup [], AV.tup [], AV.tup [], AV.tup [], AV.und, AV.und, AV.tup [], AV.tup [], AV.und]
    [some [Sg.a (Sz.l 6) [Col.i IntKind.i64 x4, Col.i IntKind.i64 x5, Col.b x6, Col.i IntKind.i64 x7, Col.i IntKind.i64 x8, Col.i IntKind.i64 x9], Sg.c (CV.f (FV.i IntKind.i64 x10))],
      some [Sg.c (CV.f (FV.i IntKind.i64 x11)), Sg.c (CV.f (FV.i IntKind.i64 x12)), Sg.c (CV.f (FV.b x13))],
      some
        [Sg.c (CV.f (FV.i IntKind.i64 x14)), Sg.c (CV.f (FV.i IntKind.i64 x15)), Sg.c (CV.f (FV.b x16)), Sg.c (CV.f (FV.i IntKind.i64 0)), Sg.c (CV.f (FV.i IntKind.i64 9)),
          Sg.c (CV.f (FV.i IntKind.i64 0))],
      some
        [Sg.c (CV.f (FV.i IntKind.i64 x17)), Sg.c (CV.f (FV.i IntKind.i64 x18)), Sg.c (CV.f (FV.b x19)), Sg.c (CV.f (FV.i IntKind.i64 x20)), Sg.c (CV.f (FV.i IntKind.i64 x21)),
          Sg.c (CV.f (FV.i IntKind.i64 x22))]]
    [])
      (next (fun t => t.head 0 ⟨[⟨13, [0, 8, 9, 10, 11, 13, 14, 15, 16, 18, 19, 20, 21, 22, 24, 25, 26, 27, 28, 29, 31, 32, 33, 34, 35, 36, 37, 38, 39, 40, 42, 43, 44, 45, 46, 50, 51, 55, 56, 60, 61, 66, 67, 73, 74, 80, 81, 84, 85, 88, 89, 96, 97, 103, 104, 110, 111, 114, 41], []⟩], [⟨13, 0, @R_astrolabelaw24_awake_0 (@l_0)⟩], [], [], (some ⟨0, [1, 2, 3, 4, 5, 6, 7, 8, 9, 10, 11, 12, 13, 14, 15, 16, 17, 18, 19, 20, 21, 22, 23, 24, 25, 26, 27, 28, 29, 30, 31, 32, 33, 34, 35, 36, 37, 38, 39, 40, 41, 42, 43, 44, 45, 46, 47, 48, 49, 50, 51, 52, 53, 54, 55, 56, 57, 58, 59, 60, 61, 62, 63, 64, 65, 66, 67, 68, 69, 70, 71, 72, 73, 74, 75, 76, 77, 78, 79, 80, 81, 82, 83, 84, 85, 86, 87, 88, 89, 90, 91, 92, 93, 94, 95, 96, 97, 98, 99, 100, 101, 102, 103, 104, 105, 106, 107, 108, 109, 110, 111, 112, 113, 114], []⟩)⟩ (loopIn Try.prog 15 13)) c K) =
    S_astrolabelaw24_awake_0 g_health_New g___health_Monitor__Result g___health_Watch__Mark g___health_Watch__Miss g___health_Monitor__Sensor g___health_Monitor__Vertical g___health_Monitor__Usable g___health_Monitor__Faults g___health_Watch__Fresh g___health_Sensor__Usable g___health_Monitor__Bad  x0 x1 x2 x3 x4 x5 x6 x7 x8 x9 x10 x11 x12 x13 x14 x15 x16 x17 x18 x19 x20 x21 x22 (fun d => c (St.mk
  [AV.und, AV.r (RV.c (CV.ptr 0 (Off.k 0) 37)), AV.r (RV.c (CV.f (FV.i IntKind.i64 0))), AV.r (RV.c (CV.ptr 1 (Off.k 0) 3)), AV.r (RV.c (CV.ptr 2 (Off.k 0) 6)), AV.r (RV.c (CV.ptr 3 (Off.k 0) 6)),
    AV.r (RV.c (CV.f (FV.i IntKind.i64 d.1))), AV.tup [RV.c (CV.ptr 0 (Off.k 0) 37), RV.c (CV.f (FV.i IntKind.i64 0))], AV.und, AV.und, AV.und, AV.und, AV.r (RV.c (CV.f (FV.i IntKind.i64 0))),
    AV.und, AV.und, AV.und, AV.und, AV.r (RV.c (CV.f (FV.b false))), AV.und, AV.und, AV.und, AV.und, AV.und, AV.r (RV.c (CV.ptr 1 (Off.k 0) 3)), AV.und, AV.und, AV.und, AV.und, AV.und, AV.und,
    AV.r (RV.agg [Sg.c (CV.f (FV.i IntKind.i64 d.2.1)), Sg.c (CV.f (FV.i IntKind.i64 d.2.2.1)), Sg.c (CV.f (FV.b d.2.2.2.1))]), AV.und, AV.und, AV.und, AV.und, AV.und, AV.und,
    AV.und, AV.und, AV.und, AV.und, AV.und, AV.und, AV.und, AV.und, AV.und, AV.und, AV.tup [], AV.tup [], AV.tup [], AV.und, AV.und, AV.tup [], AV.tup [], AV.tup [], AV.und, AV.und, AV.tup [],
    AV.tup [], AV.tup [], AV.und, AV.und, AV.tup [], AV.tup [], AV.tup [], AV.tup [], AV.und, AV.und, AV.tup [], AV.tup [], AV.tup [], AV.tup [], AV.tup [], AV.und, AV.und, AV.tup [], AV.tup [],
    AV.tup [], AV.tup [], AV.tup [], AV.und, AV.und, AV.tup [], AV.tup [], AV.und, AV.und, AV.tup [], AV.tup [], AV.und, AV.und, AV.tup [], AV.tup [], AV.tup [], AV.tup [], AV.tup [], AV.tup [],
    AV.und, AV.und, AV.tup [], AV.tup [], AV.tup [], AV.tup [], AV.tup [], AV.und, AV.und, AV.tup [], AV.tup [], AV.tup [], AV.tup [], AV.tup [], AV.und, AV.und, AV.tup [], AV.tup [], AV.und]
  [some
      [Sg.a (Sz.l 6)
          [Col.i IntKind.i64 d.2.2.2.2.1, Col.i IntKind.i64 d.2.2.2.2.2.1, Col.b d.2.2.2.2.2.2.1, Col.i IntKind.i64 d.2.2.2.2.2.2.2.1,
            Col.i IntKind.i64 d.2.2.2.2.2.2.2.2.1, Col.i IntKind.i64 d.2.2.2.2.2.2.2.2.2.1],
        Sg.c (CV.f (FV.i IntKind.i64 d.2.2.2.2.2.2.2.2.2.2.1))],
    some
      [Sg.c (CV.f (FV.i IntKind.i64 d.2.2.2.2.2.2.2.2.2.2.2.1)), Sg.c (CV.f (FV.i IntKind.i64 d.2.2.2.2.2.2.2.2.2.2.2.2.1)),
        Sg.c (CV.f (FV.b d.2.2.2.2.2.2.2.2.2.2.2.2.2.1))],
    some
      [Sg.c (CV.f (FV.i IntKind.i64 d.2.2.2.2.2.2.2.2.2.2.2.2.2.2.1)), Sg.c (CV.f (FV.i IntKind.i64 d.2.2.2.2.2.2.2.2.2.2.2.2.2.2.2.1)),
        Sg.c (CV.f (FV.b d.2.2.2.2.2.2.2.2.2.2.2.2.2.2.2.2.1)), Sg.c (CV.f (FV.i IntKind.i64 0)), Sg.c (CV.f (FV.i IntKind.i64 9)), Sg.c (CV.f (FV.i IntKind.i64 0))],
    some
      [Sg.c (CV.f (FV.i IntKind.i64 d.2.2.2.2.2.2.2.2.2.2.2.2.2.2.2.2.2.1)),
        Sg.c (CV.f (FV.i IntKind.i64 d.2.2.2.2.2.2.2.2.2.2.2.2.2.2.2.2.2.2.1)),
        Sg.c (CV.f (FV.b d.2.2.2.2.2.2.2.2.2.2.2.2.2.2.2.2.2.2.2.1)),
        Sg.c (CV.f (FV.i IntKind.i64 d.2.2.2.2.2.2.2.2.2.2.2.2.2.2.2.2.2.2.2.2.1)),
        Sg.c (CV.f (FV.i IntKind.i64 d.2.2.2.2.2.2.2.2.2.2.2.2.2.2.2.2.2.2.2.2.2.1)),
        Sg.c (CV.f (FV.i IntKind.i64 d.2.2.2.2.2.2.2.2.2.2.2.2.2.2.2.2.2.2.2.2.2.2))]]
  [])) (fun d => K (AX.ex 0) (St.mk
  [AV.und, AV.r (RV.c (CV.ptr 0 (Off.k 0) 37)), AV.r (RV.c (CV.f (FV.i IntKind.i64 0))), AV.r (RV.c (CV.ptr 1 (Off.k 0) 3)), AV.r (RV.c (CV.ptr 2 (Off.k 0) 6)), AV.r (RV.c (CV.ptr 3 (Off.k 0) 6)),
    AV.r (RV.c (CV.f (FV.i IntKind.i64 d.1))), AV.tup [RV.c (CV.ptr 0 (Off.k 0) 37), RV.c (CV.f (FV.i IntKind.i64 0))], AV.und, AV.und, AV.und, AV.und, AV.r (RV.c (CV.f (FV.i IntKind.i64 0))),
    AV.und, AV.und, AV.und, AV.und, AV.r (RV.c (CV.f (FV.b false))), AV.und, AV.und, AV.und, AV.und, AV.und, AV.r (RV.c (CV.ptr 1 (Off.k 0) 3)), AV.und, AV.und, AV.und, AV.und, AV.und, AV.und,
    AV.r (RV.agg [Sg.c (CV.f (FV.i IntKind.i64 d.2.1)), Sg.c (CV.f (FV.i IntKind.i64 d.2.2.1)), Sg.c (CV.f (FV.b d.2.2.2.1))]), AV.und, AV.und, AV.und, AV.und, AV.und,
    AV.r (RV.c (CV.f (FV.i IntKind.i64 d.1))), AV.r (RV.c (CV.f (FV.b d.2.2.2.2.1))), AV.und, AV.und, AV.und, AV.und, AV.und, AV.und, AV.und, AV.und, AV.und, AV.tup [], AV.tup [],
    AV.tup [], AV.und, AV.und, AV.tup [], AV.tup [], AV.tup [], AV.und, AV.und, AV.tup [], AV.tup [], AV.tup [], AV.und, AV.und, AV.tup [], AV.tup [], AV.tup [], AV.tup [], AV.und, AV.und, AV.tup [],
    AV.tup [], AV.tup [], AV.tup [], AV.tup [], AV.und, AV.und, AV.tup [], AV.tup [], AV.tup [], AV.tup [], AV.tup [], AV.und, AV.und, AV.tup [], AV.tup [], AV.und, AV.und, AV.tup [], AV.tup [],
    AV.und, AV.und, AV.tup [], AV.tup [], AV.tup [], AV.tup [], AV.tup [], AV.tup [], AV.und, AV.und, AV.tup [], AV.tup [], AV.tup [], AV.tup [], AV.tup [], AV.und, AV.und, AV.tup [], AV.tup [],
    AV.tup [], AV.tup [], AV.tup [], AV.und, AV.und, AV.tup [], AV.tup [], AV.und]
  [some
      [Sg.a (Sz.l 6)
          [Col.i IntKind.i64 d.2.2.2.2.2.1, Col.i IntKind.i64 d.2.2.2.2.2.2.1, Col.b d.2.2.2.2.2.2.2.1,
            Col.i IntKind.i64 d.2.2.2.2.2.2.2.2.1, Col.i IntKind.i64 d.2.2.2.2.2.2.2.2.2.1, Col.i IntKind.i64 d.2.2.2.2.2.2.2.2.2.2.1],
        Sg.c (CV.f (FV.i IntKind.i64 d.2.2.2.2.2.2.2.2.2.2.2.1))],
    some
      [Sg.c (CV.f (FV.i IntKind.i64 d.2.2.2.2.2.2.2.2.2.2.2.2.1)), Sg.c (CV.f (FV.i IntKind.i64 d.2.2.2.2.2.2.2.2.2.2.2.2.2.1)),
        Sg.c (CV.f (FV.b d.2.2.2.2.2.2.2.2.2.2.2.2.2.2.1))],
    some
      [Sg.c (CV.f (FV.i IntKind.i64 d.2.2.2.2.2.2.2.2.2.2.2.2.2.2.2.1)),
        Sg.c (CV.f (FV.i IntKind.i64 d.2.2.2.2.2.2.2.2.2.2.2.2.2.2.2.2.1)),
        Sg.c (CV.f (FV.b d.2.2.2.2.2.2.2.2.2.2.2.2.2.2.2.2.2.1)), Sg.c (CV.f (FV.i IntKind.i64 0)), Sg.c (CV.f (FV.i IntKind.i64 9)),
        Sg.c (CV.f (FV.i IntKind.i64 0))],
    some
      [Sg.c (CV.f (FV.i IntKind.i64 d.2.2.2.2.2.2.2.2.2.2.2.2.2.2.2.2.2.2.1)),
        Sg.c (CV.f (FV.i IntKind.i64 d.2.2.2.2.2.2.2.2.2.2.2.2.2.2.2.2.2.2.2.1)),
        Sg.c (CV.f (FV.b d.2.2.2.2.2.2.2.2.2.2.2.2.2.2.2.2.2.2.2.2.1)),
        Sg.c (CV.f (FV.i IntKind.i64 d.2.2.2.2.2.2.2.2.2.2.2.2.2.2.2.2.2.2.2.2.2.1)),
        Sg.c (CV.f (FV.i IntKind.i64 d.2.2.2.2.2.2.2.2.2.2.2.2.2.2.2.2.2.2.2.2.2.2.1)),
        Sg.c (CV.f (FV.i IntKind.i64 d.2.2.2.2.2.2.2.2.2.2.2.2.2.2.2.2.2.2.2.2.2.2.2))]]
  [])) := by kernel_rfl
theorem it_astrolabelaw24_awake_0 {ρ : Type} (x0 : Int) (x1 : Int) (x2 : Int) (x3 : Bool) (x4 : Nat → Int) (x5 : Nat → Int) (x6 : Nat → Bool) (x7 : Nat → Int) (x8 : Nat → Int) (x9 : Nat → Int) (x10 : Int) (x11 : Int) (x12 : Int) (x13 : Bool) (x14 : Int) (x15 : Int) (x16 : Bool) (x17 : Int) (x18 : Int) (x19 : Bool) (x20 : Int) (x21 : Int) (x22 : Int) (K : AX → St → Option ρ) :
    iter (fun t => t.head 0 ⟨[⟨13, [0, 8, 9, 10, 11, 13, 14, 15, 16, 18, 19, 20, 21, 22, 24, 25, 26, 27, 28, 29, 31, 32, 33, 34, 35, 36, 37, 38, 39, 40, 42, 43, 44, 45, 46, 50, 51, 55, 56, 60, 61, 66, 67, 73, 74, 80, 81, 84, 85, 88, 89, 96, 97, 103, 104, 110, 111, 114, 41], []⟩], [⟨13, 0, @R_astrolabelaw24_awake_0 (@L_astrolabelaw24_awake_0)⟩], [], [], (some ⟨0, [1, 2, 3, 4, 5, 6, 7, 8, 9, 10, 11, 12, 13, 14, 15, 16, 17, 18, 19, 20, 21, 22, 23, 24, 25, 26, 27, 28, 29, 30, 31, 32, 33, 34, 35, 36, 37, 38, 39, 40, 41, 42, 43, 44, 45, 46, 47, 48, 49, 50, 51, 52, 53, 54, 55, 56, 57, 58, 59, 60, 61, 62, 63, 64, 65, 66, 67, 68, 69, 70, 71, 72, 73, 74, 75, 76, 77, 78, 79, 80, 81, 82, 83, 84, 85, 86, 87, 88, 89, 90, 91, 92, 93, 94, 95, 96, 97, 98, 99, 100, 101, 102, 103, 104, 105, 106, 107, 108, 109, 110, 111, 112, 113, 114], []⟩)⟩ (loopIn Try.prog 15 13)) (runC Try.prog (envOf [(16, F_health_New f_health_New), (21, F___health_Monitor__Result f___health_Monitor__Result), (25, F___health_Watch__Mark f___health_Watch__Mark), (28, F___health_Watch__Miss f___health_Watch__Miss), (17, F___health_Monitor__Sensor f___health_Monitor__Sensor), (24, F___health_Monitor__Vertical f___health_Monitor__Vertical), (18, F___health_Monitor__Usable f___health_Monitor__Usable), (19, F___health_Monitor__Faults f___health_Monitor__Faults), (29, F___health_Watch__Fresh f___health_Watch__Fresh), (27, F___health_Sensor__Usable f___health_Sensor__Usable), (20, F___health_Monitor__Bad f___health_Monitor__Bad)]) ⟨[⟨13, [0, 8, 9, 10, 11, 13, 14, 15, 16, 18, 19, 20, 21, 22, 24, 25, 26, 27, 28, 29, 31, 32, 33, 34, 35, 36, 37, 38, 39, 40, 42, 43, 44, 45, 46, 50, 51, 55, 56, 60, 61, 66, 67, 73, 74, 80, 81, 84, 85, 88, 89, 96, 97, 103, 104, 110, 111, 114, 41], []⟩], [⟨13, 0, @R_astrolabelaw24_awake_0 (@L_astrolabelaw24_awake_0)⟩], [], [], (some ⟨0, [1, 2, 3, 4, 5, 6, 7, 8, 9, 10, 11, 12, 13, 14, 15, 16, 17, 18, 19, 20, 21, 22, 23, 24, 25, 26, 27, 28, 29, 30, 31, 32, 33, 34, 35, 36, 37, 38, 39, 40, 41, 42, 43, 44, 45, 46, 47, 48, 49, 50, 51, 52, 53, 54, 55, 56, 57, 58, 59, 60, 61, 62, 63, 64, 65, 66, 67, 68, 69, 70, 71, 72, 73, 74, 75, 76, 77, 78, 79, 80, 81, 82, 83, 84, 85, 86, 87, 88, 89, 90, 91, 92, 93, 94, 95, 96, 97, 98, 99, 100, 101, 102, 103, 104, 105, 106, 107, 108, 109, 110, 111, 112, 113, 114], []⟩)⟩ (tmpsOf Try.prog 15) 0 200 (loopIn Try.prog 15 13)) K 200
      (St.mk
    [AV.und, AV.r (RV.c (CV.ptr 0 (Off.k 0) 37)), AV.r (RV.c (CV.f (FV.i IntKind.i64 0))), AV.r (RV.c (CV.ptr 1 (Off.k 0) 3)), AV.r (RV.c (CV.ptr 2 (Off.k 0) 6)), AV.r (RV.c (CV.ptr 3 (Off.k 0) 6)),
      AV.r (RV.c (CV.f (FV.i IntKind.i64 x0))), AV.tup [RV.c (CV.ptr 0 (Off.k 0) 37), RV.c (CV.f (FV.i IntKind.i64 0))], AV.und, AV.und, AV.und, AV.und, AV.r (RV.c (CV.f (FV.i IntKind.i64 0))), AV.und,
      AV.und, AV.und, AV.und, AV.r (RV.c (CV.f (FV.b false))), AV.und, AV.und, AV.und, AV.und, AV.und, AV.r (RV.c (CV.ptr 1 (Off.k 0) 3)), AV.und, AV.und, AV.und, AV.und, AV.und, AV.und,
      AV.r (RV.agg [Sg.c (CV.f (FV.i IntKind.i64 x1)), Sg.c (CV.f (FV.i IntKind.i64 x2)), Sg.c (CV.f (FV.b x3))]), AV.und, AV.und, AV.und, AV.und, AV.und, AV.und, AV.und, AV.und, AV.und, AV.und, AV.und,
      AV.und, AV.und, AV.und, AV.und, AV.und, AV.tup [], AV.tup [], AV.tup [], AV.und, AV.und, AV.tup [], AV.tup [], AV.tup [], AV.und, AV.und, AV.tup [], AV.tup [], AV.tup [], AV.und, AV.und,
      AV.tup [], AV.tup [], AV.tup [], AV.tup [], AV.und, AV.und, AV.tup [], AV.tup [], AV.tup [], AV.tup [], AV.tup [], AV.und, AV.und, AV.tup [], AV.tup [], AV.tup [], AV.tup [], AV.tup [], AV.und,
      AV.und, AV.tup [], AV.tup [], AV.und, AV.und, AV.tup [], AV.tup [], AV.und, AV.und, AV.tup [], AV.tup [], AV.tup [], AV.tup [], AV.tup [], AV.tup [], AV.und, AV.und, AV.tup [], AV.tup [],
      AV.tup [], AV.tup [], AV.tup [], AV.und, AV.und, AV.tup [], AV.tup [], AV.tup [], AV.tup [], AV.tup [], AV.und, AV.und, AV.tup [], AV.tup [], AV.und]
    [some [Sg.a (Sz.l 6) [Col.i IntKind.i64 x4, Col.i IntKind.i64 x5, Col.b x6, Col.i IntKind.i64 x7, Col.i IntKind.i64 x8, Col.i IntKind.i64 x9], Sg.c (CV.f (FV.i IntKind.i64 x10))],
      some [Sg.c (CV.f (FV.i IntKind.i64 x11)), Sg.c (CV.f (FV.i IntKind.i64 x12)), Sg.c (CV.f (FV.b x13))],
      some
        [Sg.c (CV.f (FV.i IntKind.i64 x14)), Sg.c (CV.f (FV.i IntKind.i64 x15)), Sg.c (CV.f (FV.b x16)), Sg.c (CV.f (FV.i IntKind.i64 0)), Sg.c (CV.f (FV.i IntKind.i64 9)),
          Sg.c (CV.f (FV.i IntKind.i64 0))],
      some
        [Sg.c (CV.f (FV.i IntKind.i64 x17)), Sg.c (CV.f (FV.i IntKind.i64 x18)), Sg.c (CV.f (FV.b x19)), Sg.c (CV.f (FV.i IntKind.i64 x20)), Sg.c (CV.f (FV.i IntKind.i64 x21)),
          Sg.c (CV.f (FV.i IntKind.i64 x22))]]
    []) = L_astrolabelaw24_awake_0 (x0, x1, x2, x3, x4, x5, x6, x7, x8, x9, x10, x11, x12, x13, x14, x15, x16, x17, x18, x19, x20, x21, x22) (fun d => K (AX.ex 0) (St.mk
  [AV.und, AV.r (RV.c (CV.ptr 0 (Off.k 0) 37)), AV.r (RV.c (CV.f (FV.i IntKind.i64 0))), AV.r (RV.c (CV.ptr 1 (Off.k 0) 3)), AV.r (RV.c (CV.ptr 2 (Off.k 0) 6)), AV.r (RV.c (CV.ptr 3 (Off.k 0) 6)),
    AV.r (RV.c (CV.f (FV.i IntKind.i64 d.1))), AV.tup [RV.c (CV.ptr 0 (Off.k 0) 37), RV.c (CV.f (FV.i IntKind.i64 0))], AV.und, AV.und, AV.und, AV.und, AV.r (RV.c (CV.f (FV.i IntKind.i64 0))),
    AV.und, AV.und, AV.und, AV.und, AV.r (RV.c (CV.f (FV.b false))), AV.und, AV.und, AV.und, AV.und, AV.und, AV.r (RV.c (CV.ptr 1 (Off.k 0) 3)), AV.und, AV.und, AV.und, AV.und, AV.und, AV.und,
    AV.r (RV.agg [Sg.c (CV.f (FV.i IntKind.i64 d.2.1)), Sg.c (CV.f (FV.i IntKind.i64 d.2.2.1)), Sg.c (CV.f (FV.b d.2.2.2.1))]), AV.und, AV.und, AV.und, AV.und, AV.und,
    AV.r (RV.c (CV.f (FV.i IntKind.i64 d.1))), AV.r (RV.c (CV.f (FV.b d.2.2.2.2.1))), AV.und, AV.und, AV.und, AV.und, AV.und, AV.und, AV.und, AV.und, AV.und, AV.tup [], AV.tup [],
    AV.tup [], AV.und, AV.und, AV.tup [], AV.tup [], AV.tup [], AV.und, AV.und, AV.tup [], AV.tup [], AV.tup [], AV.und, AV.und, AV.tup [], AV.tup [], AV.tup [], AV.tup [], AV.und, AV.und, AV.tup [],
    AV.tup [], AV.tup [], AV.tup [], AV.tup [], AV.und, AV.und, AV.tup [], AV.tup [], AV.tup [], AV.tup [], AV.tup [], AV.und, AV.und, AV.tup [], AV.tup [], AV.und, AV.und, AV.tup [], AV.tup [],
    AV.und, AV.und, AV.tup [], AV.tup [], AV.tup [], AV.tup [], AV.tup [], AV.tup [], AV.und, AV.und, AV.tup [], AV.tup [], AV.tup [], AV.tup [], AV.tup [], AV.und, AV.und, AV.tup [], AV.tup [],
    AV.tup [], AV.tup [], AV.tup [], AV.und, AV.und, AV.tup [], AV.tup [], AV.und]
  [some
      [Sg.a (Sz.l 6)
          [Col.i IntKind.i64 d.2.2.2.2.2.1, Col.i IntKind.i64 d.2.2.2.2.2.2.1, Col.b d.2.2.2.2.2.2.2.1,
            Col.i IntKind.i64 d.2.2.2.2.2.2.2.2.1, Col.i IntKind.i64 d.2.2.2.2.2.2.2.2.2.1, Col.i IntKind.i64 d.2.2.2.2.2.2.2.2.2.2.1],
        Sg.c (CV.f (FV.i IntKind.i64 d.2.2.2.2.2.2.2.2.2.2.2.1))],
    some
      [Sg.c (CV.f (FV.i IntKind.i64 d.2.2.2.2.2.2.2.2.2.2.2.2.1)), Sg.c (CV.f (FV.i IntKind.i64 d.2.2.2.2.2.2.2.2.2.2.2.2.2.1)),
        Sg.c (CV.f (FV.b d.2.2.2.2.2.2.2.2.2.2.2.2.2.2.1))],
    some
      [Sg.c (CV.f (FV.i IntKind.i64 d.2.2.2.2.2.2.2.2.2.2.2.2.2.2.2.1)),
        Sg.c (CV.f (FV.i IntKind.i64 d.2.2.2.2.2.2.2.2.2.2.2.2.2.2.2.2.1)),
        Sg.c (CV.f (FV.b d.2.2.2.2.2.2.2.2.2.2.2.2.2.2.2.2.2.1)), Sg.c (CV.f (FV.i IntKind.i64 0)), Sg.c (CV.f (FV.i IntKind.i64 9)),
        Sg.c (CV.f (FV.i IntKind.i64 0))],
    some
      [Sg.c (CV.f (FV.i IntKind.i64 d.2.2.2.2.2.2.2.2.2.2.2.2.2.2.2.2.2.2.1)),
        Sg.c (CV.f (FV.i IntKind.i64 d.2.2.2.2.2.2.2.2.2.2.2.2.2.2.2.2.2.2.2.1)),
        Sg.c (CV.f (FV.b d.2.2.2.2.2.2.2.2.2.2.2.2.2.2.2.2.2.2.2.2.1)),
        Sg.c (CV.f (FV.i IntKind.i64 d.2.2.2.2.2.2.2.2.2.2.2.2.2.2.2.2.2.2.2.2.2.1)),
        Sg.c (CV.f (FV.i IntKind.i64 d.2.2.2.2.2.2.2.2.2.2.2.2.2.2.2.2.2.2.2.2.2.2.1)),
        Sg.c (CV.f (FV.i IntKind.i64 d.2.2.2.2.2.2.2.2.2.2.2.2.2.2.2.2.2.2.2.2.2.2.2))]]
  [])) :=
  iter_loopX (emb := fun (d : Int × Int × Int × Bool × (Nat → Int) × (Nat → Int) × (Nat → Bool) × (Nat → Int) × (Nat → Int) × (Nat → Int) × Int × Int × Int × Bool × Int × Int × Bool × Int × Int × Bool × Int × Int × Int) => St.mk
  [AV.und, AV.r (RV.c (CV.ptr 0 (Off.k 0) 37)), AV.r (RV.c (CV.f (FV.i IntKind.i64 0))), AV.r (RV.c (CV.ptr 1 (Off.k 0) 3)), AV.r (RV.c (CV.ptr 2 (Off.k 0) 6)), AV.r (RV.c (CV.ptr 3 (Off.k 0) 6)),
    AV.r (RV.c (CV.f (FV.i IntKind.i64 d.1))), AV.tup [RV.c (CV.ptr 0 (Off.k 0) 37), RV.c (CV.f (FV.i IntKind.i64 0))], AV.und, AV.und, AV.und, AV.und, AV.r (RV.c (CV.f (FV.i IntKind.i64 0))),
    AV.und, AV.und, AV.und, AV.und, AV.r (RV.c (CV.f (FV.b false))), AV.und, AV.und, AV.und, AV.und, AV.und, AV.r (RV.c (CV.ptr 1 (Off.k 0) 3)), AV.und, AV.und, AV.und, AV.und, AV.und, AV.und,
    AV.r (RV.agg [Sg.c (CV.f (FV.i IntKind.i64 d.2.1)), Sg.c (CV.f (FV.i IntKind.i64 d.2.2.1)), Sg.c (CV.f (FV.b d.2.2.2.1))]), AV.und, AV.und, AV.und, AV.und, AV.und, AV.und,
    AV.und, AV.und, AV.und, AV.und, AV.und, AV.und, AV.und, AV.und, AV.und, AV.und, AV.tup [], AV.tup [], AV.tup [], AV.und, AV.und, AV.tup [], AV.tup [], AV.tup [], AV.und, AV.und, AV.tup [],
    AV.tup [], AV.tup [], AV.und, AV.und, AV.tup [], AV.tup [], AV.tup [], AV.tup [], AV.und, AV.und, AV.tup [], AV.tup [], AV.tup [], AV.tup [], AV.tup [], AV.und, AV.und, AV.tup [], AV.tup [],
    AV.tup [], AV.tup [], AV.tup [], AV.und, AV.und, AV.tup [], AV.tup [], AV.und, AV.und, AV.tup [], AV.tup [], AV.und, AV.und, AV.tup [], AV.tup [], AV.tup [], AV.tup [], AV.tup [], AV.tup [],
    AV.und, AV.und, AV.tup [], AV.tup [], AV.tup [], AV.tup [], AV.tup [], AV.und, AV.und, AV.tup [], AV.tup [], AV.tup [], AV.tup [], AV.tup [], AV.und, AV.und, AV.tup [], AV.tup [], AV.und]
  [some
      [Sg.a (Sz.l 6)
          [Col.i IntKind.i64 d.2.2.2.2.1, Col.i IntKind.i64 d.2.2.2.2.2.1, Col.b d.2.2.2.2.2.2.1, Col.i IntKind.i64 d.2.2.2.2.2.2.2.1,
            Col.i IntKind.i64 d.2.2.2.2.2.2.2.2.1, Col.i IntKind.i64 d.2.2.2.2.2.2.2.2.2.1],
        Sg.c (CV.f (FV.i IntKind.i64 d.2.2.2.2.2.2.2.2.2.2.1))],
    some
      [Sg.c (CV.f (FV.i IntKind.i64 d.2.2.2.2.2.2.2.2.2.2.2.1)), Sg.c (CV.f (FV.i IntKind.i64 d.2.2.2.2.2.2.2.2.2.2.2.2.1)),
        Sg.c (CV.f (FV.b d.2.2.2.2.2.2.2.2.2.2.2.2.2.1))],
    some
      [Sg.c (CV.f (FV.i IntKind.i64 d.2.2.2.2.2.2.2.2.2.2.2.2.2.2.1)), Sg.c (CV.f (FV.i IntKind.i64 d.2.2.2.2.2.2.2.2.2.2.2.2.2.2.2.1)),
        Sg.c (CV.f (FV.b d.2.2.2.2.2.2.2.2.2.2.2.2.2.2.2.2.1)), Sg.c (CV.f (FV.i IntKind.i64 0)), Sg.c (CV.f (FV.i IntKind.i64 9)), Sg.c (CV.f (FV.i IntKind.i64 0))],
    some
      [Sg.c (CV.f (FV.i IntKind.i64 d.2.2.2.2.2.2.2.2.2.2.2.2.2.2.2.2.2.1)),
        Sg.c (CV.f (FV.i IntKind.i64 d.2.2.2.2.2.2.2.2.2.2.2.2.2.2.2.2.2.2.1)),
        Sg.c (CV.f (FV.b d.2.2.2.2.2.2.2.2.2.2.2.2.2.2.2.2.2.2.2.1)),
        Sg.c (CV.f (FV.i IntKind.i64 d.2.2.2.2.2.2.2.2.2.2.2.2.2.2.2.2.2.2.2.2.1)),
        Sg.c (CV.f (FV.i IntKind.i64 d.2.2.2.2.2.2.2.2.2.2.2.2.2.2.2.2.2.2.2.2.2.1)),
        Sg.c (CV.f (FV.i IntKind.i64 d.2.2.2.2.2.2.2.2.2.2.2.2.2.2.2.2.2.2.2.2.2.2))]]
  []) (step := fun d c x => S_astrolabelaw24_awake_0 f_health_New f___health_Monitor__Result f___health_Watch__Mark f___health_Watch__Miss f___health_Monitor__Sensor f___health_Monitor__Vertical f___health_Monitor__Usable f___health_Monitor__Faults f___health_Watch__Fresh f___health_Sensor__Usable f___health_Monitor__Bad  d.1 d.2.1 d.2.2.1 d.2.2.2.1 d.2.2.2.2.1 d.2.2.2.2.2.1 d.2.2.2.2.2.2.1 d.2.2.2.2.2.2.2.1 d.2.2.2.2.2.2.2.2.1 d.2.2.2.2.2.2.2.2.2.1 d.2.2.2.2.2.2.2.2.2.2.1 d.2.2.2.2.2.2.2.2.2.2.2.1 d.2.2.2.2.2.2.2.2.2.2.2.2.1 d.2.2.2.2.2.2.2.2.2.2.2.2.2.1 d.2.2.2.2.2.2.2.2.2.2.2.2.2.2.1 d.2.2.2.2.2.2.2.2.2.2.2.2.2.2.2.1 d.2.2.2.2.2.2.2.2.2.2.2.2.2.2.2.2.1 d.2.2.2.2.2.2.2.2.2.2.2.2.2.2.2.2.2.1 d.2.2.2.2.2.2.2.2.2.2.2.2.2.2.2.2.2.2.1 d.2.2.2.2.2.2.2.2.2.2.2.2.2.2.2.2.2.2.2.1 d.2.2.2.2.2.2.2.2.2.2.2.2.2.2.2.2.2.2.2.2.1 d.2.2.2.2.2.2.2.2.2.2.2.2.2.2.2.2.2.2.2.2.2.1 d.2.2.2.2.2.2.2.2.2.2.2.2.2.2.2.2.2.2.2.2.2.2 c x) (kx := (fun d => K (AX.ex 0) (St.mk
  [AV.und, AV.r (RV.c (CV.ptr 0 (Off.k 0) 37)), AV.r (RV.c (CV.f (FV.i IntKind.i64 0))), AV.r (RV.c (CV.ptr 1 (Off.k 0) 3)), AV.r (RV.c (CV.ptr 2 (Off.k 0) 6)), AV.r (RV.c (CV.ptr 3 (Off.k 0) 6)),
    AV.r (RV.c (CV.f (FV.i IntKind.i64 d.1))), AV.tup [RV.c (CV.ptr 0 (Off.k 0) 37), RV.c (CV.f (FV.i IntKind.i64 0))], AV.und, AV.und, AV.und, AV.und, AV.r (RV.c (CV.f (FV.i IntKind.i64 0))),
    AV.und, AV.und, AV.und, AV.und, AV.r (RV.c (CV.f (FV.b false))), AV.und, AV.und, AV.und, AV.und, AV.und, AV.r (RV.c (CV.ptr 1 (Off.k 0) 3)), AV.und, AV.und, AV.und, AV.und, AV.und, AV.und,
    AV.r (RV.agg [Sg.c (CV.f (FV.i IntKind.i64 d.2.1)), Sg.c (CV.f (FV.i IntKind.i64 d.2.2.1)), Sg.c (CV.f (FV.b d.2.2.2.1))]), AV.und, AV.und, AV.und, AV.und, AV.und,
    AV.r (RV.c (CV.f (FV.i IntKind.i64 d.1))), AV.r (RV.c (CV.f (FV.b d.2.2.2.2.1))), AV.und, AV.und, AV.und, AV.und, AV.und, AV.und, AV.und, AV.und, AV.und, AV.tup [], AV.tup [],
    AV.tup [], AV.und, AV.und, AV.tup [], AV.tup [], AV.tup [], AV.und, AV.und, AV.tup [], AV.tup [], AV.tup [], AV.und, AV.und, AV.tup [], AV.tup [], AV.tup [], AV.tup [], AV.und, AV.und, AV.tup [],
    AV.tup [], AV.tup [], AV.tup [], AV.tup [], AV.und, AV.und, AV.tup [], AV.tup [], AV.tup [], AV.tup [], AV.tup [], AV.und, AV.und, AV.tup [], AV.tup [], AV.und, AV.und, AV.tup [], AV.tup [],
    AV.und, AV.und, AV.tup [], AV.tup [], AV.tup [], AV.tup [], AV.tup [], AV.tup [], AV.und, AV.und, AV.tup [], AV.tup [], AV.tup [], AV.tup [], AV.tup [], AV.und, AV.und, AV.tup [], AV.tup [],
    AV.tup [], AV.tup [], AV.tup [], AV.und, AV.und, AV.tup [], AV.tup [], AV.und]
  [some
      [Sg.a (Sz.l 6)
          [Col.i IntKind.i64 d.2.2.2.2.2.1, Col.i IntKind.i64 d.2.2.2.2.2.2.1, Col.b d.2.2.2.2.2.2.2.1,
            Col.i IntKind.i64 d.2.2.2.2.2.2.2.2.1, Col.i IntKind.i64 d.2.2.2.2.2.2.2.2.2.1, Col.i IntKind.i64 d.2.2.2.2.2.2.2.2.2.2.1],
        Sg.c (CV.f (FV.i IntKind.i64 d.2.2.2.2.2.2.2.2.2.2.2.1))],
    some
      [Sg.c (CV.f (FV.i IntKind.i64 d.2.2.2.2.2.2.2.2.2.2.2.2.1)), Sg.c (CV.f (FV.i IntKind.i64 d.2.2.2.2.2.2.2.2.2.2.2.2.2.1)),
        Sg.c (CV.f (FV.b d.2.2.2.2.2.2.2.2.2.2.2.2.2.2.1))],
    some
      [Sg.c (CV.f (FV.i IntKind.i64 d.2.2.2.2.2.2.2.2.2.2.2.2.2.2.2.1)),
        Sg.c (CV.f (FV.i IntKind.i64 d.2.2.2.2.2.2.2.2.2.2.2.2.2.2.2.2.1)),
        Sg.c (CV.f (FV.b d.2.2.2.2.2.2.2.2.2.2.2.2.2.2.2.2.2.1)), Sg.c (CV.f (FV.i IntKind.i64 0)), Sg.c (CV.f (FV.i IntKind.i64 9)),
        Sg.c (CV.f (FV.i IntKind.i64 0))],
    some
      [Sg.c (CV.f (FV.i IntKind.i64 d.2.2.2.2.2.2.2.2.2.2.2.2.2.2.2.2.2.2.1)),
        Sg.c (CV.f (FV.i IntKind.i64 d.2.2.2.2.2.2.2.2.2.2.2.2.2.2.2.2.2.2.2.1)),
        Sg.c (CV.f (FV.b d.2.2.2.2.2.2.2.2.2.2.2.2.2.2.2.2.2.2.2.2.1)),
        Sg.c (CV.f (FV.i IntKind.i64 d.2.2.2.2.2.2.2.2.2.2.2.2.2.2.2.2.2.2.2.2.2.1)),
        Sg.c (CV.f (FV.i IntKind.i64 d.2.2.2.2.2.2.2.2.2.2.2.2.2.2.2.2.2.2.2.2.2.2.1)),
        Sg.c (CV.f (FV.i IntKind.i64 d.2.2.2.2.2.2.2.2.2.2.2.2.2.2.2.2.2.2.2.2.2.2.2))]]
  [])))
    (fun d c => ds_astrolabelaw24_awake_0 f_health_New f___health_Monitor__Result f___health_Watch__Mark f___health_Watch__Miss f___health_Monitor__Sensor f___health_Monitor__Vertical f___health_Monitor__Usable f___health_Monitor__Faults f___health_Watch__Fresh f___health_Sensor__Usable f___health_Monitor__Bad (@L_astrolabelaw24_awake_0) d.1 d.2.1 d.2.2.1 d.2.2.2.1 d.2.2.2.2.1 d.2.2.2.2.2.1 d.2.2.2.2.2.2.1 d.2.2.2.2.2.2.2.1 d.2.2.2.2.2.2.2.2.1 d.2.2.2.2.2.2.2.2.2.1 d.2.2.2.2.2.2.2.2.2.2.1 d.2.2.2.2.2.2.2.2.2.2.2.1 d.2.2.2.2.2.2.2.2.2.2.2.2.1 d.2.2.2.2.2.2.2.2.2.2.2.2.2.1 d.2.2.2.2.2.2.2.2.2.2.2.2.2.2.1 d.2.2.2.2.2.2.2.2.2.2.2.2.2.2.2.1 d.2.2.2.2.2.2.2.2.2.2.2.2.2.2.2.2.1 d.2.2.2.2.2.2.2.2.2.2.2.2.2.2.2.2.2.1 d.2.2.2.2.2.2.2.2.2.2.2.2.2.2.2.2.2.2.1 d.2.2.2.2.2.2.2.2.2.2.2.2.2.2.2.2.2.2.2.1 d.2.2.2.2.2.2.2.2.2.2.2.2.2.2.2.2.2.2.2.2.1 d.2.2.2.2.2.2.2.2.2.2.2.2.2.2.2.2.2.2.2.2.2.1 d.2.2.2.2.2.2.2.2.2.2.2.2.2.2.2.2.2.2.2.2.2.2 c K) 200 (x0, x1, x2, x3, x4, x5, x6, x7, x8, x9, x10, x11, x12, x13, x14, x15, x16, x17, x18, x19, x20, x21, x22)
theorem so_astrolabelaw24_awake_0 [Amb] : ∀ kk, SumOK Try.prog (envOf [(16, F_health_New f_health_New), (21, F___health_Monitor__Result f___health_Monitor__Result), (25, F___health_Watch__Mark f___health_Watch__Mark), (28, F___health_Watch__Miss f___health_Watch__Miss), (17, F___health_Monitor__Sensor f___health_Monitor__Sensor), (24, F___health_Monitor__Vertical f___health_Monitor__Vertical), (18, F___health_Monitor__Usable f___health_Monitor__Usable), (19, F___health_Monitor__Faults f___health_Monitor__Faults), (29, F___health_Watch__Fresh f___health_Watch__Fresh), (27, F___health_Sensor__Usable f___health_Sensor__Usable), (20, F___health_Monitor__Bad f___health_Monitor__Bad)]) ⟨[⟨13, [0, 8, 9, 10, 11, 13, 14, 15, 16, 18, 19, 20, 21, 22, 24, 25, 26, 27, 28, 29, 31, 32, 33, 34, 35, 36, 37, 38, 39, 40, 42, 43, 44, 45, 46, 50, 51, 55, 56, 60, 61, 66, 67, 73, 74, 80, 81, 84, 85, 88, 89, 96, 97, 103, 104, 110, 111, 114, 41], []⟩], [⟨13, 0, @R_astrolabelaw24_awake_0 (@L_astrolabelaw24_awake_0)⟩], [], [], (some ⟨0, [1, 2, 3, 4, 5, 6, 7, 8, 9, 10, 11, 12, 13, 14, 15, 16, 17, 18, 19, 20, 21, 22, 23, 24, 25, 26, 27, 28, 29, 30, 31, 32, 33, 34, 35, 36, 37, 38, 39, 40, 41, 42, 43, 44, 45, 46, 47, 48, 49, 50, 51, 52, 53, 54, 55, 56, 57, 58, 59, 60, 61, 62, 63, 64, 65, 66, 67, 68, 69, 70, 71, 72, 73, 74, 75, 76, 77, 78, 79, 80, 81, 82, 83, 84, 85, 86, 87, 88, 89, 90, 91, 92, 93, 94, 95, 96, 97, 98, 99, 100, 101, 102, 103, 104, 105, 106, 107, 108, 109, 110, 111, 112, 113, 114], []⟩)⟩ (tmpsOf Try.prog 15) kk 200 (loopIn Try.prog 15 13) :=
  SumOK.of (id := 13) (k0 := 0) (run := @R_astrolabelaw24_awake_0 (@L_astrolabelaw24_awake_0)) (by kernel_rfl) fun s K r hr => by
    unfold R_astrolabelaw24_awake_0 at hr
    obtain ⟨b, hb, hr1⟩ := Option.bind_eq_some_iff.1 hr
    have e := ((Q_astrolabelaw24_awake_0).ok s b hb).trans (q_astrolabelaw24_awake_0 b)
    subst e
    exact ⟨200, (it_astrolabelaw24_awake_0 b.1.2.2.2.2.2.2.1 b.1.2.2.2.2.2.2.2.2.2.2.2.2.2.2.2.2.2.2.2.2.2.2.2.2.2.2.2.2.2.2.1.1 b.1.2.2.2.2.2.2.2.2.2.2.2.2.2.2.2.2.2.2.2.2.2.2.2.2.2.2.2.2.2.2.1.2.1 b.1.2.2.2.2.2.2.2.2.2.2.2.2.2.2.2.2.2.2.2.2.2.2.2.2.2.2.2.2.2.2.1.2.2.1 b.2.1.1.1.2.1 b.2.1.1.1.2.2.1 b.2.1.1.1.2.2.2.1 b.2.1.1.1.2.2.2.2.1 b.2.1.1.1.2.2.2.2.2.1 b.2.1.1.1.2.2.2.2.2.2.1 b.2.1.1.2.1 b.2.1.2.1.1 b.2.1.2.1.2.1 b.2.1.2.1.2.2.1 b.2.1.2.2.1.1 b.2.1.2.2.1.2.1 b.2.1.2.2.1.2.2.1 b.2.1.2.2.2.1.1 b.2.1.2.2.2.1.2.1 b.2.1.2.2.2.1.2.2.1 b.2.1.2.2.2.1.2.2.2.1 b.2.1.2.2.2.1.2.2.2.2.1 b.2.1.2.2.2.1.2.2.2.2.2.1 K).trans hr1⟩
def K_astrolabelaw24_awake {ρ : Type} (g_health_New : Int → Nat → (Nat → Int) → Bool → Option (Unit ⊕ (Nat → Int) × (Nat → Int) × (Nat → Bool) × (Nat → Int) × (Nat → Int) × (Nat → Int))) (g___health_Monitor__Result : Int →
  Int →
    Nat →
      (Nat → Int) →
        (Nat → Int) →
          (Nat → Bool) →
            (Nat → Int) →
              (Nat → Int) → (Nat → Int) → Int → (Nat → Bool) → (Nat → Int) → (Nat → Int) → Bool → Option ((Nat → Int) × (Nat → Int) × (Nat → Bool) × (Nat → Int) × (Nat → Int) × (Nat → Int) × Int)) (g___health_Watch__Mark : Int → Int → Int → Bool → Option Int) (g___health_Watch__Miss : Int → Int → Bool → Option (Int × Int × Bool)) (g___health_Monitor__Sensor : Int → (Nat → Int) → (Nat → Int) → (Nat → Bool) → (Nat → Int) → (Nat → Int) → (Nat → Int) → Int → Option (Int × Int × Bool × Int × Int × Int)) (g___health_Monitor__Vertical : Bool →
  Int →
    Int →
      Bool →
        Int →
          Int →
            (Nat → Int) → (Nat → Int) → (Nat → Bool) → (Nat → Int) → (Nat → Int) → (Nat → Int) → Int → Option ((Nat → Int) × (Nat → Int) × (Nat → Bool) × (Nat → Int) × (Nat → Int) × (Nat → Int) × Int)) (g___health_Monitor__Usable : Int → Int → (Nat → Int) → (Nat → Int) → (Nat → Bool) → (Nat → Int) → (Nat → Int) → (Nat → Int) → Int → Option Bool) (g___health_Monitor__Faults : Int → (Nat → Int) → (Nat → Int) → (Nat → Bool) → (Nat → Int) → (Nat → Int) → (Nat → Int) → Int → Option Int) (g___health_Watch__Fresh : Int → Int → Int → Int → Bool → Option Bool) (g___health_Sensor__Usable : Int → Int → Int → Bool → Int → Int → Int → Option Bool) (g___health_Monitor__Bad : (Nat → Int) → (Nat → Int) → (Nat → Bool) → (Nat → Int) → (Nat → Int) → (Nat → Int) → Int → Option Bool) (l_0 : ∀ {ρ : Type}, (Int × Int × Int × Bool × (Nat → Int) × (Nat → Int) × (Nat → Bool) × (Nat → Int) × (Nat → Int) × (Nat → Int) × Int × Int × Int × Bool × Int × Int × Bool × Int × Int × Bool × Int × Int × Int) → ((Int × Int × Int × Bool × Bool × (Nat → Int) × (Nat → Int) × (Nat → Bool) × (Nat → Int) × (Nat → Int) × (Nat → Int) × Int × Int × Int × Bool × Int × Int × Bool × Int × Int × Bool × Int × Int × Int) → Option ρ) → Option ρ)  (k : (Bool) → Option ρ) : Option ρ :=
  Option.bind
    (g_health_New 3 6
      (fun (j : Nat) =>
        bif Nat.beq j 5 then 100 else bif Nat.beq j 4 then 100 else bif Nat.beq j 3 then 100 else bif Nat.beq j 2 then 100 else bif Nat.beq j 1 then 100 else bif Nat.beq j 0 then 100 else 100)
      true)
    fun (d : Unit ⊕ (Nat → Int) × (Nat → Int) × (Nat → Bool) × (Nat → Int) × (Nat → Int) × (Nat → Int)) =>
    bif
        match d with
        | Sum.inl val => true
        | Sum.inr val => false then
      Option.bind
        (match d with
        | Sum.inl a => some a
        | Sum.inr val => none)
        fun (d : Unit) => k false
    else
      Option.bind
        (match d with
        | Sum.inr b => some b
        | Sum.inl val => none)
        fun (d : (Nat → Int) × (Nat → Int) × (Nat → Bool) × (Nat → Int) × (Nat → Int) × (Nat → Int)) =>
        Option.bind
          (g___health_Monitor__Result 0 5 1 d.1 d.2.1 d.2.2.1 d.2.2.2.1 d.2.2.2.2.1 d.2.2.2.2.2 0 (fun (j : Nat) => bif Nat.beq j 0 then true else true)
            (fun (j : Nat) => bif Nat.beq j 0 then 0 else 0) (fun (j : Nat) => bif Nat.beq j 0 then 0 else 0) true)
          fun (d : (Nat → Int) × (Nat → Int) × (Nat → Bool) × (Nat → Int) × (Nat → Int) × (Nat → Int) × Int) =>
          Option.bind (g___health_Watch__Mark 7 0 0 false) fun (d_1 : Int) =>
            Option.bind (g___health_Watch__Miss d_1 0 true) fun (d_2 : Int × Int × Bool) =>
              Option.bind (g___health_Monitor__Sensor 0 d.1 d.2.1 d.2.2.1 d.2.2.2.1 d.2.2.2.2.1 d.2.2.2.2.2.1 d.2.2.2.2.2.2)
                fun (d_3 : Int × Int × Bool × Int × Int × Int) =>
                l_0
                  (0, d_2.1, d_2.2.1, d_2.2.2, d.1, d.2.1, d.2.2.1, d.2.2.2.1, d.2.2.2.2.1, d.2.2.2.2.2.1, d.2.2.2.2.2.2, d_2.1, d_2.2.1,
                    d_2.2.2, d_2.1, d_2.2.1, d_2.2.2, d_3.1, d_3.2.1, d_3.2.2.1, d_3.2.2.2.1, d_3.2.2.2.2.1, d_3.2.2.2.2.2)
                  fun
                    (d :
                      Int ×
                        Int ×
                          Int ×
                            Bool ×
                              Bool ×
                                (Nat → Int) × (Nat → Int) × (Nat → Bool) × (Nat → Int) × (Nat → Int) × (Nat → Int) × Int × Int × Int × Bool × Int × Int × Bool × Int × Int × Bool × Int × Int × Int) =>
                  Option.bind
                    (g___health_Monitor__Usable 0 105 d.2.2.2.2.2.1 d.2.2.2.2.2.2.1 d.2.2.2.2.2.2.2.1 d.2.2.2.2.2.2.2.2.1
                      d.2.2.2.2.2.2.2.2.2.1 d.2.2.2.2.2.2.2.2.2.2.1 d.2.2.2.2.2.2.2.2.2.2.2.1)
                    fun (d_4 : Bool) =>
                    bif d_4 then
                      Option.bind
                        (g___health_Monitor__Usable 0 106 d.2.2.2.2.2.1 d.2.2.2.2.2.2.1 d.2.2.2.2.2.2.2.1 d.2.2.2.2.2.2.2.2.1
                          d.2.2.2.2.2.2.2.2.2.1 d.2.2.2.2.2.2.2.2.2.2.1 d.2.2.2.2.2.2.2.2.2.2.2.1)
                        fun (d_5 : Bool) =>
                        bif !d_5 then
                          Option.bind
                            (g___health_Monitor__Faults 106 d.2.2.2.2.2.1 d.2.2.2.2.2.2.1 d.2.2.2.2.2.2.2.1 d.2.2.2.2.2.2.2.2.1
                              d.2.2.2.2.2.2.2.2.2.1 d.2.2.2.2.2.2.2.2.2.2.1 d.2.2.2.2.2.2.2.2.2.2.2.1)
                            fun (d_6 : Int) =>
                            bif d_6 == 1 then
                              Option.bind
                                (g___health_Monitor__Faults 105 d.2.2.2.2.2.1 d.2.2.2.2.2.2.1 d.2.2.2.2.2.2.2.1 d.2.2.2.2.2.2.2.2.1
                                  d.2.2.2.2.2.2.2.2.2.1 d.2.2.2.2.2.2.2.2.2.2.1 d.2.2.2.2.2.2.2.2.2.2.2.1)
                                fun (d_7 : Int) =>
                                bif d_7 == 0 then
                                  bif d.2.2.2.2.2.2.2.2.2.2.2.2.2.2.1 then
                                    bif d.2.2.2.2.2.2.2.2.2.2.2.2.1 == 7 then
                                      bif d.2.2.2.2.2.2.2.2.2.2.2.2.2.1 == 1 then
                                        Option.bind
                                          (g___health_Watch__Fresh 16 9 d.2.2.2.2.2.2.2.2.2.2.2.2.2.2.2.1
                                            d.2.2.2.2.2.2.2.2.2.2.2.2.2.2.2.2.1 d.2.2.2.2.2.2.2.2.2.2.2.2.2.2.2.2.2.1)
                                          fun (d_8 : Bool) =>
                                          bif d_8 then
                                            Option.bind
                                              (g___health_Sensor__Usable 16 d.2.2.2.2.2.2.2.2.2.2.2.2.2.2.2.1
                                                d.2.2.2.2.2.2.2.2.2.2.2.2.2.2.2.2.1 d.2.2.2.2.2.2.2.2.2.2.2.2.2.2.2.2.2.1 0 9 0)
                                              fun (d_9 : Bool) =>
                                              bif !d_9 then
                                                bif d.2.2.2.2.2.2.2.2.2.2.2.2.2.2.2.2.2.2.1 == 5 then
                                                  bif d.2.2.2.2.2.2.2.2.2.2.2.2.2.2.2.2.2.2.2.2.2.2.1 == 100 then
                                                    bif d.2.2.2.2.2.2.2.2.2.2.2.2.2.2.2.2.2.2.2.2.2.2.2 == 3 then
                                                      Option.bind
                                                        (g___health_Monitor__Bad d.2.2.2.2.2.1 d.2.2.2.2.2.2.1 d.2.2.2.2.2.2.2.1 d.2.2.2.2.2.2.2.2.1
                                                          d.2.2.2.2.2.2.2.2.2.1 d.2.2.2.2.2.2.2.2.2.2.1 d.2.2.2.2.2.2.2.2.2.2.2.1)
                                                        fun (d : Bool) => k d
                                                    else k false
                                                  else k false
                                                else k false
                                              else k false
                                          else k false
                                      else k false
                                    else k false
                                  else k false
                                else k false
                            else k false
                        else k false
                    else k false
def f_astrolabelaw24_awake  : Option (Bool) := K_astrolabelaw24_awake f_health_New f___health_Monitor__Result f___health_Watch__Mark f___health_Watch__Miss f___health_Monitor__Sensor f___health_Monitor__Vertical f___health_Monitor__Usable f___health_Monitor__Faults f___health_Watch__Fresh f___health_Sensor__Usable f___health_Monitor__Bad (@L_astrolabelaw24_awake_0)  some
section
open Go.Ab.Rdr
def QA_astrolabelaw24_awake := ((pair nil nil) : Rdr (List AV × List Blk) _)
end
def F_astrolabelaw24_awake (f : Option (Bool)) : Sem1 := fun args h => match (QA_astrolabelaw24_awake).rd (args, h) with
  | some b => .opt (f ) fun (d : Bool) => .leaf (Res.mk (AV.r (RV.c (CV.f (FV.b d)))) [] [])
  | none => .fail
theorem d_astrolabelaw24_awake (g_health_New : Int → Nat → (Nat → Int) → Bool → Option (Unit ⊕ (Nat → Int) × (Nat → Int) × (Nat → Bool) × (Nat → Int) × (Nat → Int) × (Nat → Int))) (g___health_Monitor__Result : Int →
  Int →
    Nat →
      (Nat → Int) →
        (Nat → Int) →
          (Nat → Bool) →
            (Nat → Int) →
              (Nat → Int) → (Nat → Int) → Int → (Nat → Bool) → (Nat → Int) → (Nat → Int) → Bool → Option ((Nat → Int) × (Nat → Int) × (Nat → Bool) × (Nat → Int) × (Nat → Int) × (Nat → Int) × Int)) (g___health_Watch__Mark : Int → Int → Int → Bool → Option Int) (g___health_Watch__Miss : Int → Int → Bool → Option (Int × Int × Bool)) (g___health_Monitor__Sensor : Int → (Nat → Int) → (Nat → Int) → (Nat → Bool) → (Nat → Int) → (Nat → Int) → (Nat → Int) → Int → Option (Int × Int × Bool × Int × Int × Int)) (g___health_Monitor__Vertical : Bool →
  Int →
    Int →
      Bool →
        Int →
          Int →
            (Nat → Int) → (Nat → Int) → (Nat → Bool) → (Nat → Int) → (Nat → Int) → (Nat → Int) → Int → Option ((Nat → Int) × (Nat → Int) × (Nat → Bool) × (Nat → Int) × (Nat → Int) × (Nat → Int) × Int)) (g___health_Monitor__Usable : Int → Int → (Nat → Int) → (Nat → Int) → (Nat → Bool) → (Nat → Int) → (Nat → Int) → (Nat → Int) → Int → Option Bool) (g___health_Monitor__Faults : Int → (Nat → Int) → (Nat → Int) → (Nat → Bool) → (Nat → Int) → (Nat → Int) → (Nat → Int) → Int → Option Int) (g___health_Watch__Fresh : Int → Int → Int → Int → Bool → Option Bool) (g___health_Sensor__Usable : Int → Int → Int → Bool → Int → Int → Int → Option Bool) (g___health_Monitor__Bad : (Nat → Int) → (Nat → Int) → (Nat → Bool) → (Nat → Int) → (Nat → Int) → (Nat → Int) → Int → Option Bool) (l_0 : ∀ {ρ : Type}, (Int × Int × Int × Bool × (Nat → Int) × (Nat → Int) × (Nat → Bool) × (Nat → Int) × (Nat → Int) × (Nat → Int) × Int × Int × Int × Bool × Int × Int × Bool × Int × Int × Bool × Int × Int × Int) → ((Int × Int × Int × Bool × Bool × (Nat → Int) × (Nat → Int) × (Nat → Bool) × (Nat → Int) × (Nat → Int) × (Nat → Int) × Int × Int × Int × Bool × Int × Int × Bool × Int × Int × Bool × Int × Int × Int) → Option ρ) → Option ρ)  : den Try.prog (envOf [(16, F_health_New g_health_New), (21, F___health_Monitor__Result g___health_Monitor__Result), (25, F___health_Watch__Mark g___health_Watch__Mark), (28, F___health_Watch__Miss g___health_Watch__Miss), (17, F___health_Monitor__Sensor g___health_Monitor__Sensor), (24, F___health_Monitor__Vertical g___health_Monitor__Vertical), (18, F___health_Monitor__Usable g___health_Monitor__Usable), (19, F___health_Monitor__Faults g___health_Monitor__Faults), (29, F___health_Watch__Fresh g___health_Watch__Fresh), (27, F___health_Sensor__Usable g___health_Sensor__Usable), (20, F___health_Monitor__Bad g___health_Monitor__Bad)]) ⟨[⟨13, [0, 8, 9, 10, 11, 13, 14, 15, 16, 18, 19, 20, 21, 22, 24, 25, 26, 27, 28, 29, 31, 32, 33, 34, 35, 36, 37, 38, 39, 40, 42, 43, 44, 45, 46, 50, 51, 55, 56, 60, 61, 66, 67, 73, 74, 80, 81, 84, 85, 88, 89, 96, 97, 103, 104, 110, 111, 114, 41], []⟩], [⟨13, 0, @R_astrolabelaw24_awake_0 (@l_0)⟩], [], [], (some ⟨0, [1, 2, 3, 4, 5, 6, 7, 8, 9, 10, 11, 12, 13, 14, 15, 16, 17, 18, 19, 20, 21, 22, 23, 24, 25, 26, 27, 28, 29, 30, 31, 32, 33, 34, 35, 36, 37, 38, 39, 40, 41, 42, 43, 44, 45, 46, 47, 48, 49, 50, 51, 52, 53, 54, 55, 56, 57, 58, 59, 60, 61, 62, 63, 64, 65, 66, 67, 68, 69, 70, 71, 72, 73, 74, 75, 76, 77, 78, 79, 80, 81, 82, 83, 84, 85, 86, 87, 88, 89, 90, 91, 92, 93, 94, 95, 96, 97, 98, 99, 100, 101, 102, 103, 104, 105, 106, 107, 108, 109, 110, 111, 112, 113, 114], []⟩)⟩ 200 15 [] [] =
    K_astrolabelaw24_awake g_health_New g___health_Monitor__Result g___health_Watch__Mark g___health_Watch__Miss g___health_Monitor__Sensor g___health_Monitor__Vertical g___health_Monitor__Usable g___health_Monitor__Faults g___health_Watch__Fresh g___health_Sensor__Usable g___health_Monitor__Bad (@l_0)  (fun (d : Bool) => some (Res.mk (AV.r (RV.c (CV.f (FV.b d)))) [] [])) := by kernel_rfl
theorem m_astrolabelaw24_awake {ρ σ : Type} (q : ρ → Option σ) (g_health_New : Int → Nat → (Nat → Int) → Bool → Option (Unit ⊕ (Nat → Int) × (Nat → Int) × (Nat → Bool) × (Nat → Int) × (Nat → Int) × (Nat → Int))) (g___health_Monitor__Result : Int →
  Int →
    Nat →
      (Nat → Int) →
        (Nat → Int) →
          (Nat → Bool) →
            (Nat → Int) →
              (Nat → Int) → (Nat → Int) → Int → (Nat → Bool) → (Nat → Int) → (Nat → Int) → Bool → Option ((Nat → Int) × (Nat → Int) × (Nat → Bool) × (Nat → Int) × (Nat → Int) × (Nat → Int) × Int)) (g___health_Watch__Mark : Int → Int → Int → Bool → Option Int) (g___health_Watch__Miss : Int → Int → Bool → Option (Int × Int × Bool)) (g___health_Monitor__Sensor : Int → (Nat → Int) → (Nat → Int) → (Nat → Bool) → (Nat → Int) → (Nat → Int) → (Nat → Int) → Int → Option (Int × Int × Bool × Int × Int × Int)) (g___health_Monitor__Vertical : Bool →
  Int →
    Int →
      Bool →
        Int →
          Int →
            (Nat → Int) → (Nat → Int) → (Nat → Bool) → (Nat → Int) → (Nat → Int) → (Nat → Int) → Int → Option ((Nat → Int) × (Nat → Int) × (Nat → Bool) × (Nat → Int) × (Nat → Int) × (Nat → Int) × Int)) (g___health_Monitor__Usable : Int → Int → (Nat → Int) → (Nat → Int) → (Nat → Bool) → (Nat → Int) → (Nat → Int) → (Nat → Int) → Int → Option Bool) (g___health_Monitor__Faults : Int → (Nat → Int) → (Nat → Int) → (Nat → Bool) → (Nat → Int) → (Nat → Int) → (Nat → Int) → Int → Option Int) (g___health_Watch__Fresh : Int → Int → Int → Int → Bool → Option Bool) (g___health_Sensor__Usable : Int → Int → Int → Bool → Int → Int → Int → Option Bool) (g___health_Monitor__Bad : (Nat → Int) → (Nat → Int) → (Nat → Bool) → (Nat → Int) → (Nat → Int) → (Nat → Int) → Int → Option Bool) (l_0 : ∀ {ρ : Type}, (Int × Int × Int × Bool × (Nat → Int) × (Nat → Int) × (Nat → Bool) × (Nat → Int) × (Nat → Int) × (Nat → Int) × Int × Int × Int × Bool × Int × Int × Bool × Int × Int × Bool × Int × Int × Int) → ((Int × Int × Int × Bool × Bool × (Nat → Int) × (Nat → Int) × (Nat → Bool) × (Nat → Int) × (Nat → Int) × (Nat → Int) × Int × Int × Int × Bool × Int × Int × Bool × Int × Int × Bool × Int × Int × Int) → Option ρ) → Option ρ) (hl_0 : ∀ {ρ σ : Type} (q : ρ → Option σ) (d : Int × Int × Int × Bool × (Nat → Int) × (Nat → Int) × (Nat → Bool) × (Nat → Int) × (Nat → Int) × (Nat → Int) × Int × Int × Int × Bool × Int × Int × Bool × Int × Int × Bool × Int × Int × Int) (k : (Int × Int × Int × Bool × Bool × (Nat → Int) × (Nat → Int) × (Nat → Bool) × (Nat → Int) × (Nat → Int) × (Nat → Int) × Int × Int × Int × Bool × Int × Int × Bool × Int × Int × Bool × Int × Int × Int) → Option ρ), (l_0 d k).bind q = l_0 d fun x => (k x).bind q)  (k : (Bool) → Option ρ) : (K_astrolabelaw24_awake g_health_New g___health_Monitor__Result g___health_Watch__Mark g___health_Watch__Miss g___health_Monitor__Sensor g___health_Monitor__Vertical g___health_Monitor__Usable g___health_Monitor__Faults g___health_Watch__Fresh g___health_Sensor__Usable g___health_Monitor__Bad (@l_0)  k).bind q = K_astrolabelaw24_awake g_health_New g___health_Monitor__Result g___health_Watch__Mark g___health_Watch__Miss g___health_Monitor__Sensor g___health_Monitor__Vertical g___health_Monitor__Usable g___health_Monitor__Faults g___health_Watch__Fresh g___health_Sensor__Usable g___health_Monitor__Bad (@l_0)  (fun d => (k d).bind q) := by
  simp only [K_astrolabelaw24_awake, bnd_cond, bnd_bind, bnd_none, bnd_sum, hl_0]
theorem qa_astrolabelaw24_awake : ∀ b, (QA_astrolabelaw24_awake).em b = ([], []) := fun b => by kernel_rfl
theorem e_astrolabelaw24_awake {f : Option (Bool)} {args : List AV} {h : List Blk} {r : Res} (hr : (F_astrolabelaw24_awake f args h).eval = some r) : args = [] ∧ h = [] ∧ (f ).bind (fun (d : Bool) => some (Res.mk (AV.r (RV.c (CV.f (FV.b d)))) [] [])) = some r := by
  unfold F_astrolabelaw24_awake at hr
  split at hr
  · rename_i b hb
    have e := ((QA_astrolabelaw24_awake).ok _ _ hb).trans (qa_astrolabelaw24_awake b)
    rw [opt_eval2] at hr
    exact ⟨(Prod.mk.inj e).1, (Prod.mk.inj e).2, hr⟩
  · cases hr
theorem n_astrolabelaw24_awake {σ : Type} (q : (Bool) → Option σ)  : (f_astrolabelaw24_awake ).bind q = K_astrolabelaw24_awake f_health_New f___health_Monitor__Result f___health_Watch__Mark f___health_Watch__Miss f___health_Monitor__Sensor f___health_Monitor__Vertical f___health_Monitor__Usable f___health_Monitor__Faults f___health_Watch__Fresh f___health_Sensor__Usable f___health_Monitor__Bad (@L_astrolabelaw24_awake_0)  q := by
  unfold f_astrolabelaw24_awake
  exact m_astrolabelaw24_awake q f_health_New f___health_Monitor__Result f___health_Watch__Mark f___health_Watch__Miss f___health_Monitor__Sensor f___health_Monitor__Vertical f___health_Monitor__Usable f___health_Monitor__Faults f___health_Watch__Fresh f___health_Sensor__Usable f___health_Monitor__Bad (@L_astrolabelaw24_awake_0) (fun q d k => mL_astrolabelaw24_awake_0 q d k)  some
theorem s_astrolabelaw24_awake [Amb] : Sound Try.prog 15 (F_astrolabelaw24_awake f_astrolabelaw24_awake) :=
  (inl_sums (l := [(16, F_health_New f_health_New), (21, F___health_Monitor__Result f___health_Monitor__Result), (25, F___health_Watch__Mark f___health_Watch__Mark), (28, F___health_Watch__Miss f___health_Watch__Miss), (17, F___health_Monitor__Sensor f___health_Monitor__Sensor), (24, F___health_Monitor__Vertical f___health_Monitor__Vertical), (18, F___health_Monitor__Usable f___health_Monitor__Usable), (19, F___health_Monitor__Faults f___health_Monitor__Faults), (29, F___health_Watch__Fresh f___health_Watch__Fresh), (27, F___health_Sensor__Usable f___health_Sensor__Usable), (20, F___health_Monitor__Bad f___health_Monitor__Bad)]) (.cons s_health_New (.cons s___health_Monitor__Result (.cons s___health_Watch__Mark (.cons s___health_Watch__Miss (.cons s___health_Monitor__Sensor (.cons s___health_Monitor__Vertical (.cons s___health_Monitor__Usable (.cons s___health_Monitor__Faults (.cons s___health_Watch__Fresh (.cons s___health_Sensor__Usable (.cons s___health_Monitor__Bad (.nil _)))))))))))) mixed (hs := ⟨[⟨13, [0, 8, 9, 10, 11, 13, 14, 15, 16, 18, 19, 20, 21, 22, 24, 25, 26, 27, 28, 29, 31, 32, 33, 34, 35, 36, 37, 38, 39, 40, 42, 43, 44, 45, 46, 50, 51, 55, 56, 60, 61, 66, 67, 73, 74, 80, 81, 84, 85, 88, 89, 96, 97, 103, 104, 110, 111, 114, 41], []⟩], [⟨13, 0, @R_astrolabelaw24_awake_0 (@L_astrolabelaw24_awake_0)⟩], [], [], (some ⟨0, [1, 2, 3, 4, 5, 6, 7, 8, 9, 10, 11, 12, 13, 14, 15, 16, 17, 18, 19, 20, 21, 22, 23, 24, 25, 26, 27, 28, 29, 30, 31, 32, 33, 34, 35, 36, 37, 38, 39, 40, 41, 42, 43, 44, 45, 46, 47, 48, 49, 50, 51, 52, 53, 54, 55, 56, 57, 58, 59, 60, 61, 62, 63, 64, 65, 66, 67, 68, 69, 70, 71, 72, 73, 74, 75, 76, 77, 78, 79, 80, 81, 82, 83, 84, 85, 86, 87, 88, 89, 90, 91, 92, 93, 94, 95, 96, 97, 98, 99, 100, 101, 102, 103, 104, 105, 106, 107, 108, 109, 110, 111, 112, 113, 114], []⟩)⟩) (lf := 200) (Sums.by (l := [loopIn Try.prog 15 13]) (lj := []) (by kernel_rfl) ⟨so_astrolabelaw24_awake_0, trivial⟩ (by kernel_rfl) trivial) (by kernel_rfl)).by (F := F_astrolabelaw24_awake f_astrolabelaw24_awake) fun args b r hr => by
  obtain ⟨rfl, rfl, hr1⟩ := e_astrolabelaw24_awake hr
  exact inl_eval ((d_astrolabelaw24_awake f_health_New f___health_Monitor__Result f___health_Watch__Mark f___health_Watch__Miss f___health_Monitor__Sensor f___health_Monitor__Vertical f___health_Monitor__Usable f___health_Monitor__Faults f___health_Watch__Fresh f___health_Sensor__Usable f___health_Monitor__Bad (@L_astrolabelaw24_awake_0) ).trans ((n_astrolabelaw24_awake (fun (d : Bool) => some (Res.mk (AV.r (RV.c (CV.f (FV.b d)))) [] [])) ).symm.trans hr1))

end Go.Proofs.Ytmlmpcabphgfaaa
