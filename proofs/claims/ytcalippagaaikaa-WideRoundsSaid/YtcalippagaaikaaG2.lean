/-
  Contracts by plain functions: astrolaberef1.Round, astrolaberef1.bit, astrolaberef1.divide, astrolaberef1.Div
-/
import Derived.Test.YtcalippagaaikaaG1
set_option maxRecDepth 100000
set_option maxHeartbeats 4000000
set_option linter.unusedVariables false
namespace Go.Proofs.Ytcalippagaaikaa
open Go.Ab
def S_astrolaberef1_Round_0 {ρ : Type} (g_astrolaberef1_Pow : Int → Option (Nat → Int)) (g_astrolaberef1_plus : (Nat → Int) → (Nat → Int) → Option (Nat → Int)) (g_astrolaberef1_made : Bool → (Nat → Int) → Option (Bool × (Nat → Int)))  (x0 : Int) (x1 : Int) (x2 : Bool) (x3 : Nat → Int) (x4 : Nat → Int) (x5 : Nat → Int) (x6 : Nat → Int) (c : (Int × Int × Bool × (Nat → Int) × (Nat → Int) × (Nat → Int) × (Nat → Int)) → Option ρ) (x : (Int × Int × Bool × Bool × (Nat → Int) × (Nat → Int) × (Nat → Int) × (Nat → Int)) → Option ρ) : Option ρ :=
  bif decide (x1 < 8) then
    bif decide (IntKind.wrap IntKind.i64 (x1 + IntKind.wrap IntKind.i64 (Int.tdiv x0 32)) < 8) then
      bif inR (IntKind.wrap IntKind.i64 (x1 + IntKind.wrap IntKind.i64 (Int.tdiv x0 32))) 8 then
        bif !decide (IntKind.wrap IntKind.u64 (Int.tmod x0 32) < 0) then
          bif inR x1 8 then
            bif true && Nat.ble (0 + Int.toNat x1 * 1 + 1) 8 then
              bif decide (IntKind.wrap IntKind.i64 (IntKind.wrap IntKind.i64 (x1 + IntKind.wrap IntKind.i64 (Int.tdiv x0 32)) + 1) < 8) then
                bif inR x1 8 then
                  bif inR (IntKind.wrap IntKind.i64 (IntKind.wrap IntKind.i64 (x1 + IntKind.wrap IntKind.i64 (Int.tdiv x0 32)) + 1)) 8 then
                    bif !decide (IntKind.wrap IntKind.u64 (IntKind.wrap IntKind.i64 (32 - Int.tmod x0 32)) < 0) then
                      bif inR x1 8 then
                        bif true && Nat.ble (0 + Int.toNat x1 * 1 + 1) 8 then
                          bif Int.tmod x0 32 == 0 then
                            bif decide (IntKind.wrap IntKind.i64 (x1 + IntKind.wrap IntKind.i64 (Int.tdiv x0 32)) < 8) then
                              bif inR (IntKind.wrap IntKind.i64 (x1 + IntKind.wrap IntKind.i64 (Int.tdiv x0 32))) 8 then
                                bif inR x1 8 then
                                  bif true && Nat.ble (0 + Int.toNat x1 * 1 + 1) 8 then
                                    c
                                      (x0, IntKind.wrap IntKind.i64 (x1 + 1), x2, x3, x4, x5, fun (j : Nat) =>
                                        bif Nat.beq j (Int.toNat x1) then x5 (Int.toNat (IntKind.wrap IntKind.i64 (x1 + IntKind.wrap IntKind.i64 (Int.tdiv x0 32))))
                                        else
                                          bif Nat.beq j (Int.toNat x1) then
                                            IntKind.wrap IntKind.u64
                                              (Int.ofNat
                                                (BitVec.toNat
                                                  (BitVec.ofInt 64
                                                      (bif Nat.beq (Int.toNat x1) (Int.toNat x1) then
                                                        Int.fdiv (x5 (Int.toNat (IntKind.wrap IntKind.i64 (x1 + IntKind.wrap IntKind.i64 (Int.tdiv x0 32)))))
                                                          (2 ^ min (Int.toNat (IntKind.wrap IntKind.u64 (Int.tmod x0 32))) 64)
                                                      else x6 (Int.toNat x1)) |||
                                                    BitVec.ofInt 64
                                                      (IntKind.wrap IntKind.u64
                                                        (Int.ofNat
                                                          (BitVec.toNat
                                                            (BitVec.ofInt 64
                                                                (IntKind.wrap IntKind.u64
                                                                  (x5 (Int.toNat (IntKind.wrap IntKind.i64 (IntKind.wrap IntKind.i64 (x1 + IntKind.wrap IntKind.i64 (Int.tdiv x0 32)) + 1))) *
                                                                    2 ^ min (Int.toNat (IntKind.wrap IntKind.u64 (IntKind.wrap IntKind.i64 (32 - Int.tmod x0 32)))) 64)) &&&
                                                              BitVec.ofInt 64 4294967295)))))))
                                          else
                                            bif Nat.beq j (Int.toNat x1) then
                                              Int.fdiv (x5 (Int.toNat (IntKind.wrap IntKind.i64 (x1 + IntKind.wrap IntKind.i64 (Int.tdiv x0 32)))))
                                                (2 ^ min (Int.toNat (IntKind.wrap IntKind.u64 (Int.tmod x0 32))) 64)
                                            else x6 j)
                                  else none
                                else none
                              else none
                            else
                              c
                                (x0, IntKind.wrap IntKind.i64 (x1 + 1), x2, x3, x4, x5, fun (j : Nat) =>
                                  bif Nat.beq j (Int.toNat x1) then
                                    IntKind.wrap IntKind.u64
                                      (Int.ofNat
                                        (BitVec.toNat
                                          (BitVec.ofInt 64
                                              (bif Nat.beq (Int.toNat x1) (Int.toNat x1) then
                                                Int.fdiv (x5 (Int.toNat (IntKind.wrap IntKind.i64 (x1 + IntKind.wrap IntKind.i64 (Int.tdiv x0 32)))))
                                                  (2 ^ min (Int.toNat (IntKind.wrap IntKind.u64 (Int.tmod x0 32))) 64)
                                              else x6 (Int.toNat x1)) |||
                                            BitVec.ofInt 64
                                              (IntKind.wrap IntKind.u64
                                                (Int.ofNat
                                                  (BitVec.toNat
                                                    (BitVec.ofInt 64
                                                        (IntKind.wrap IntKind.u64
                                                          (x5 (Int.toNat (IntKind.wrap IntKind.i64 (IntKind.wrap IntKind.i64 (x1 + IntKind.wrap IntKind.i64 (Int.tdiv x0 32)) + 1))) *
                                                            2 ^ min (Int.toNat (IntKind.wrap IntKind.u64 (IntKind.wrap IntKind.i64 (32 - Int.tmod x0 32)))) 64)) &&&
                                                      BitVec.ofInt 64 4294967295)))))))
                                  else
                                    bif Nat.beq j (Int.toNat x1) then
                                      Int.fdiv (x5 (Int.toNat (IntKind.wrap IntKind.i64 (x1 + IntKind.wrap IntKind.i64 (Int.tdiv x0 32)))))
                                        (2 ^ min (Int.toNat (IntKind.wrap IntKind.u64 (Int.tmod x0 32))) 64)
                                    else x6 j)
                          else
                            c
                              (x0, IntKind.wrap IntKind.i64 (x1 + 1), x2, x3, x4, x5, fun (j : Nat) =>
                                bif Nat.beq j (Int.toNat x1) then
                                  IntKind.wrap IntKind.u64
                                    (Int.ofNat
                                      (BitVec.toNat
                                        (BitVec.ofInt 64
                                            (bif Nat.beq (Int.toNat x1) (Int.toNat x1) then
                                              Int.fdiv (x5 (Int.toNat (IntKind.wrap IntKind.i64 (x1 + IntKind.wrap IntKind.i64 (Int.tdiv x0 32)))))
                                                (2 ^ min (Int.toNat (IntKind.wrap IntKind.u64 (Int.tmod x0 32))) 64)
                                            else x6 (Int.toNat x1)) |||
                                          BitVec.ofInt 64
                                            (IntKind.wrap IntKind.u64
                                              (Int.ofNat
                                                (BitVec.toNat
                                                  (BitVec.ofInt 64
                                                      (IntKind.wrap IntKind.u64
                                                        (x5 (Int.toNat (IntKind.wrap IntKind.i64 (IntKind.wrap IntKind.i64 (x1 + IntKind.wrap IntKind.i64 (Int.tdiv x0 32)) + 1))) *
                                                          2 ^ min (Int.toNat (IntKind.wrap IntKind.u64 (IntKind.wrap IntKind.i64 (32 - Int.tmod x0 32)))) 64)) &&&
                                                    BitVec.ofInt 64 4294967295)))))))
                                else
                                  bif Nat.beq j (Int.toNat x1) then
                                    Int.fdiv (x5 (Int.toNat (IntKind.wrap IntKind.i64 (x1 + IntKind.wrap IntKind.i64 (Int.tdiv x0 32)))))
                                      (2 ^ min (Int.toNat (IntKind.wrap IntKind.u64 (Int.tmod x0 32))) 64)
                                  else x6 j)
                        else none
                      else none
                    else none
                  else none
                else none
              else
                bif Int.tmod x0 32 == 0 then
                  bif decide (IntKind.wrap IntKind.i64 (x1 + IntKind.wrap IntKind.i64 (Int.tdiv x0 32)) < 8) then
                    bif inR (IntKind.wrap IntKind.i64 (x1 + IntKind.wrap IntKind.i64 (Int.tdiv x0 32))) 8 then
                      bif inR x1 8 then
                        bif true && Nat.ble (0 + Int.toNat x1 * 1 + 1) 8 then
                          c
                            (x0, IntKind.wrap IntKind.i64 (x1 + 1), x2, x3, x4, x5, fun (j : Nat) =>
                              bif Nat.beq j (Int.toNat x1) then x5 (Int.toNat (IntKind.wrap IntKind.i64 (x1 + IntKind.wrap IntKind.i64 (Int.tdiv x0 32))))
                              else
                                bif Nat.beq j (Int.toNat x1) then
                                  Int.fdiv (x5 (Int.toNat (IntKind.wrap IntKind.i64 (x1 + IntKind.wrap IntKind.i64 (Int.tdiv x0 32)))))
                                    (2 ^ min (Int.toNat (IntKind.wrap IntKind.u64 (Int.tmod x0 32))) 64)
                                else x6 j)
                        else none
                      else none
                    else none
                  else
                    c
                      (x0, IntKind.wrap IntKind.i64 (x1 + 1), x2, x3, x4, x5, fun (j : Nat) =>
                        bif Nat.beq j (Int.toNat x1) then
                          Int.fdiv (x5 (Int.toNat (IntKind.wrap IntKind.i64 (x1 + IntKind.wrap IntKind.i64 (Int.tdiv x0 32))))) (2 ^ min (Int.toNat (IntKind.wrap IntKind.u64 (Int.tmod x0 32))) 64)
                        else x6 j)
                else
                  c
                    (x0, IntKind.wrap IntKind.i64 (x1 + 1), x2, x3, x4, x5, fun (j : Nat) =>
                      bif Nat.beq j (Int.toNat x1) then
                        Int.fdiv (x5 (Int.toNat (IntKind.wrap IntKind.i64 (x1 + IntKind.wrap IntKind.i64 (Int.tdiv x0 32))))) (2 ^ min (Int.toNat (IntKind.wrap IntKind.u64 (Int.tmod x0 32))) 64)
                      else x6 j)
            else none
          else none
        else none
      else none
    else
      bif Int.tmod x0 32 == 0 then
        bif decide (IntKind.wrap IntKind.i64 (x1 + IntKind.wrap IntKind.i64 (Int.tdiv x0 32)) < 8) then
          bif inR (IntKind.wrap IntKind.i64 (x1 + IntKind.wrap IntKind.i64 (Int.tdiv x0 32))) 8 then
            bif inR x1 8 then
              bif true && Nat.ble (0 + Int.toNat x1 * 1 + 1) 8 then
                c
                  (x0, IntKind.wrap IntKind.i64 (x1 + 1), x2, x3, x4, x5, fun (j : Nat) =>
                    bif Nat.beq j (Int.toNat x1) then x5 (Int.toNat (IntKind.wrap IntKind.i64 (x1 + IntKind.wrap IntKind.i64 (Int.tdiv x0 32)))) else x6 j)
              else none
            else none
          else none
        else c (x0, IntKind.wrap IntKind.i64 (x1 + 1), x2, x3, x4, x5, x6)
      else c (x0, IntKind.wrap IntKind.i64 (x1 + 1), x2, x3, x4, x5, x6)
  else x (x0, x1, decide (x1 < 8), x2, x3, x4, x5, x6)
section
open Go.Ab.Rdr
def Q_astrolaberef1_Round_0 := (st (cons aund (cons (ar (rc (cf (fi .i64 hole)))) (cons (ar (rc (cptr (nat 0) (ok' (nat 0)) (nat 9)))) (cons (atup nil) (cons (ar (rc (cptr (nat 1) (ok' (nat 0)) (nat 9)))) (cons (ar (rc (cptr (nat 2) (ok' (nat 0)) (nat 8)))) (cons (ar (rc (cptr (nat 3) (ok' (nat 0)) (nat 8)))) (cons (ar (rc (cf (fi .i64 hole)))) (cons aund (cons aund (cons aund (cons aund (cons aund (cons aund (cons aund (cons aund (cons aund (cons aund (cons aund (cons aund (cons aund (cons aund (cons aund (cons aund (cons aund (cons aund (cons aund (cons aund (cons aund (cons aund (cons aund (cons aund (cons aund (cons aund (cons aund (cons aund (cons aund (cons aund (cons aund (cons aund (cons aund (cons aund (cons aund (cons aund (cons aund (cons aund (cons aund (cons aund (cons aund (cons aund (cons aund (cons aund (cons aund (cons aund (cons aund (cons aund (cons aund (cons aund (cons aund (cons aund (cons aund (cons aund (cons aund (cons aund (cons aund (cons aund (cons aund (cons aund (cons aund (cons aund (cons aund (cons aund (cons aund nil))))))))))))))))))))))))))))))))))))))))))))))))))))))))))))))))))))))))) (cons (some' (cons (gc (cf (fb hole))) (cons (ga (szl (nat 8)) (cons (ki .u64 hole) nil)) nil))) (cons (some' (cons (gc (cf (fb (bool false)))) (cons (ga (szl (nat 8)) (cons (ki .u64 hole) nil)) nil))) (cons (some' (cons (ga (szl (nat 8)) (cons (ki .u64 hole) nil)) nil)) (cons (some' (cons (ga (szl (nat 8)) (cons (ki .u64 hole) nil)) nil)) nil)))) nil)
end
theorem q_astrolaberef1_Round_0 : ∀ b, (Q_astrolaberef1_Round_0).em b = St.mk
    [AV.und, AV.r (RV.c (CV.f (FV.i IntKind.i64 b.1.2.1))), AV.r (RV.c (CV.ptr 0 (Off.k 0) 9)), AV.tup [], AV.r (RV.c (CV.ptr 1 (Off.k 0) 9)), AV.r (RV.c (CV.ptr 2 (Off.k 0) 8)),
      AV.r (RV.c (CV.ptr 3 (Off.k 0) 8)), AV.r (RV.c (CV.f (FV.i IntKind.i64 b.1.2.2.2.2.2.2.2.1))), AV.und, AV.und, AV.und, AV.und, AV.und, AV.und, AV.und, AV.und, AV.und, AV.und, AV.und, AV.und, AV.und, AV.und,
      AV.und, AV.und, AV.und, AV.und, AV.und, AV.und, AV.und, AV.und, AV.und, AV.und, AV.und, AV.und, AV.und, AV.und, AV.und, AV.und, AV.und, AV.und, AV.und, AV.und, AV.und, AV.und, AV.und, AV.und,
      AV.und, AV.und, AV.und, AV.und, AV.und, AV.und, AV.und, AV.und, AV.und, AV.und, AV.und, AV.und, AV.und, AV.und, AV.und, AV.und, AV.und, AV.und, AV.und, AV.und, AV.und, AV.und, AV.und, AV.und,
      AV.und, AV.und, AV.und]
    [some [Sg.c (CV.f (FV.b b.2.1.1.1)), Sg.a (Sz.l 8) [Col.i IntKind.u64 b.2.1.1.2.1.2.1]], some [Sg.c (CV.f (FV.b false)), Sg.a (Sz.l 8) [Col.i IntKind.u64 b.2.1.2.1.2.1.2.1]], some [Sg.a (Sz.l 8) [Col.i IntKind.u64 b.2.1.2.2.1.1.2.1]],
      some [Sg.a (Sz.l 8) [Col.i IntKind.u64 b.2.1.2.2.2.1.1.2.1]]]
    [] := fun b => by kernel_rfl
def R_astrolaberef1_Round_0 (l : ∀ {ρ : Type}, (Int × Int × Bool × (Nat → Int) × (Nat → Int) × (Nat → Int) × (Nat → Int)) → ((Int × Int × Bool × Bool × (Nat → Int) × (Nat → Int) × (Nat → Int) × (Nat → Int)) → Option ρ) → Option ρ) {ρ : Type} (s : St) (K : AX → St → Option ρ) : Option ρ := ((Q_astrolaberef1_Round_0).rd s).bind fun b => l (b.1.2.1, b.1.2.2.2.2.2.2.2.1, b.2.1.1.1, b.2.1.1.2.1.2.1, b.2.1.2.1.2.1.2.1, b.2.1.2.2.1.1.2.1, b.2.1.2.2.2.1.1.2.1) (fun d => K (AX.ex 0) (St.mk
  [AV.und, AV.r (RV.c (CV.f (FV.i IntKind.i64 d.1))), AV.r (RV.c (CV.ptr 0 (Off.k 0) 9)), AV.tup [], AV.r (RV.c (CV.ptr 1 (Off.k 0) 9)), AV.r (RV.c (CV.ptr 2 (Off.k 0) 8)),
    AV.r (RV.c (CV.ptr 3 (Off.k 0) 8)), AV.r (RV.c (CV.f (FV.i IntKind.i64 d.2.1))), AV.und, AV.und, AV.und, AV.und, AV.und, AV.und, AV.und, AV.und, AV.und, AV.und, AV.und,
    AV.r (RV.c (CV.f (FV.i IntKind.i64 d.2.1))), AV.r (RV.c (CV.f (FV.b d.2.2.1))), AV.und, AV.und, AV.und, AV.und, AV.und, AV.und, AV.und, AV.und, AV.und, AV.und, AV.und, AV.und, AV.und,
    AV.und, AV.und, AV.und, AV.und, AV.und, AV.und, AV.und, AV.und, AV.und, AV.und, AV.und, AV.und, AV.und, AV.und, AV.und, AV.und, AV.und, AV.und, AV.und, AV.und, AV.und, AV.und, AV.und, AV.und,
    AV.und, AV.und, AV.und, AV.und, AV.und, AV.und, AV.und, AV.und, AV.und, AV.und, AV.und, AV.und, AV.und, AV.und, AV.und]
  [some [Sg.c (CV.f (FV.b d.2.2.2.1)), Sg.a (Sz.l 8) [Col.i IntKind.u64 d.2.2.2.2.1]], some [Sg.c (CV.f (FV.b false)), Sg.a (Sz.l 8) [Col.i IntKind.u64 d.2.2.2.2.2.1]],
    some [Sg.a (Sz.l 8) [Col.i IntKind.u64 d.2.2.2.2.2.2.1]], some [Sg.a (Sz.l 8) [Col.i IntKind.u64 d.2.2.2.2.2.2.2]]]
  []))
theorem ms_astrolaberef1_Round_0 {ρ σ : Type} (g_astrolaberef1_Pow : Int → Option (Nat → Int)) (g_astrolaberef1_plus : (Nat → Int) → (Nat → Int) → Option (Nat → Int)) (g_astrolaberef1_made : Bool → (Nat → Int) → Option (Bool × (Nat → Int)))   (q : ρ → Option σ) (x0 : Int) (x1 : Int) (x2 : Bool) (x3 : Nat → Int) (x4 : Nat → Int) (x5 : Nat → Int) (x6 : Nat → Int) (c : (Int × Int × Bool × (Nat → Int) × (Nat → Int) × (Nat → Int) × (Nat → Int)) → Option ρ) (x : (Int × Int × Bool × Bool × (Nat → Int) × (Nat → Int) × (Nat → Int) × (Nat → Int)) → Option ρ) : (S_astrolaberef1_Round_0 g_astrolaberef1_Pow g_astrolaberef1_plus g_astrolaberef1_made  x0 x1 x2 x3 x4 x5 x6 c x).bind q = S_astrolaberef1_Round_0 g_astrolaberef1_Pow g_astrolaberef1_plus g_astrolaberef1_made  x0 x1 x2 x3 x4 x5 x6 (fun d => (c d).bind q) (fun d => (x d).bind q) := by
  simp only [S_astrolaberef1_Round_0, bnd_cond, bnd_bind, bnd_none, bnd_sum]
def L_astrolaberef1_Round_0 {ρ : Type} (d : Int × Int × Bool × (Nat → Int) × (Nat → Int) × (Nat → Int) × (Nat → Int)) (k : (Int × Int × Bool × Bool × (Nat → Int) × (Nat → Int) × (Nat → Int) × (Nat → Int)) → Option ρ) : Option ρ := loopK (fun d c x => S_astrolaberef1_Round_0 f_astrolaberef1_Pow f_astrolaberef1_plus f_astrolaberef1_made  d.1 d.2.1 d.2.2.1 d.2.2.2.1 d.2.2.2.2.1 d.2.2.2.2.2.1 d.2.2.2.2.2.2 c x) 300 d k
theorem mL_astrolaberef1_Round_0 {ρ σ : Type} (q : ρ → Option σ) (d : Int × Int × Bool × (Nat → Int) × (Nat → Int) × (Nat → Int) × (Nat → Int)) (k : (Int × Int × Bool × Bool × (Nat → Int) × (Nat → Int) × (Nat → Int) × (Nat → Int)) → Option ρ) : (L_astrolaberef1_Round_0 d k).bind q = L_astrolaberef1_Round_0 d fun x => (k x).bind q :=
  loopK_bind q (fun d c x => ms_astrolaberef1_Round_0 f_astrolaberef1_Pow f_astrolaberef1_plus f_astrolaberef1_made   q d.1 d.2.1 d.2.2.1 d.2.2.2.1 d.2.2.2.2.1 d.2.2.2.2.2.1 d.2.2.2.2.2.2 c x) k _ d
theorem ds_astrolaberef1_Round_0 {ρ : Type} (g_astrolaberef1_Pow : Int → Option (Nat → Int)) (g_astrolaberef1_plus : (Nat → Int) → (Nat → Int) → Option (Nat → Int)) (g_astrolaberef1_made : Bool → (Nat → Int) → Option (Bool × (Nat → Int))) (l_0 : ∀ {ρ : Type}, (Int × Int × Bool × (Nat → Int) × (Nat → Int) × (Nat → Int) × (Nat → Int)) → ((Int × Int × Bool × Bool × (Nat → Int) × (Nat → Int) × (Nat → Int) × (Nat → Int)) → Option ρ) → Option ρ) (x0 : Int) (x1 : Int) (x2 : Bool) (x3 : Nat → Int) (x4 : Nat → Int) (x5 : Nat → Int) (x6 : Nat → Int) (c : St → Option ρ) (K : AX → St → Option ρ) :
    runC Try.prog (envOf [(32, F_astrolaberef1_Pow g_astrolaberef1_Pow), (60, F_astrolaberef1_plus g_astrolaberef1_plus), (58, F_astrolaberef1_made g_astrolaberef1_made)]) ⟨[⟨6, [0, 8, 9, 10, 11, 12, 13, 14, 15, 16, 17, 18, 19, 20, 21, 22, 23, 24, 25, 26, 27, 28, 29, 30, 31, 32, 33, 34, 35, 36, 37, 38, 39, 40, 41, 42, 43, 44, 45, 46, 47, 48, 49, 50, 51, 52, 53, 54, 55, 56, 57, 58, 59, 60, 63, 64, 65, 66, 67, 68, 69, 70, 71, 72, 61, 62], []⟩], [⟨6, 0, @R_astrolaberef1_Round_0 (@l_0)⟩], [], [], (some ⟨0, [0, 1, 2, 3, 5, 6, 7, 8, 9, 10, 11, 12, 13, 14, 15, 16, 17, 18, 19, 20, 21, 22, 23, 24, 25, 26, 27, 28, 29, 30, 31, 32, 33, 34, 35, 36, 37, 38, 39, 40, 41, 42, 43, 44, 45, 46, 47, 48, 49, 50, 51, 52, 53, 54, 55, 56, 57, 58, 59, 60, 61, 62, 63, 64, 65, 66, 67, 68, 69, 70, 71, 72], []⟩)⟩ (tmpsOf Try.prog 33) 0 300 (loopIn Try.prog 33 6)
      (St.mk
    [AV.und, AV.r (RV.c (CV.f (FV.i IntKind.i64 x0))), AV.r (RV.c (CV.ptr 0 (Off.k 0) 9)), AV.tup [], AV.r (RV.c (CV.ptr 1 (Off.k 0) 9)), AV.r (RV.c (CV.ptr 2 (Off.k 0) 8)),
      AV.r (RV.c (CV.ptr 3 (Off.k 0) 8)), AV.r (RV.c (CV.f (FV.i IntKind.i64 x1))), AV.und, AV.und, AV.und, AV.und, AV.und, AV.und, AV.und, AV.und, AV.und, AV.und, AV.und, AV.und, AV.und, AV.und,
      AV.und, AV.und, AV.und, AV.und, AV.und, AV.und, AV.und, AV.und, AV.und, AV.und, AV.und, AV.und, AV.und, AV.und, AV.und, AV.und, AV.und, AV.und, AV.und, AV.und, AV.und, AV.und, AV.und, AV.und,
      AV.und, AV.und, AV.und, AV.und, AV.und, AV.und, AV.und, AV.und, AV.und, AV.und, AV.und, AV.und, AV.und, AV.und, AV.und, AV.und, AV.und, AV.und, AV.und, AV.und, AV.und, AV.und, AV.und, AV.und,
      AV.und, AV.und, AV.und]
    [some [Sg.c (CV.f (FV.b x2)), Sg.a (Sz.l 8) [Col.i IntKind.u64 x3]], some [Sg.c (CV.f (FV.b false)), Sg.a (Sz.l 8) [Col.i IntKind.u64 x4]], some [Sg.a (Sz.l 8) [Col.i IntKind.u64 x5]],
      some [Sg.a (Sz.l 8) [Col.i IntKind.u64 x6]]]
    [])
      (next (fun t => t.head 0 ⟨[⟨6, [0, 8, 9, 10, 11, 12, 13, 14, 15, 16, 17, 18, 19, 20, 21, 22, 23, 24, 25, 26, 27, 28, 29, 30, 31, 32, 33, 34, 35, 36, 37, 38, 39, 40, 41, 42, 43, 44, 45, 46, 47, 48, 49, 50, 51, 52, 53, 54, 55, 56, 57, 58, 59, 60, 63, 64, 65, 66, 67, 68, 69, 70, 71, 72, 61, 62], []⟩], [⟨6, 0, @R_astrolaberef1_Round_0 (@l_0)⟩], [], [], (some ⟨0, [0, 1, 2, 3, 5, 6, 7, 8, 9, 10, 11, 12, 13, 14, 15, 16, 17, 18, 19, 20, 21, 22, 23, 24, 25, 26, 27, 28, 29, 30, 31, 32, 33, 34, 35, 36, 37, 38, 39, 40, 41, 42, 43, 44, 45, 46, 47, 48, 49, 50, 51, 52, 53, 54, 55, 56, 57, 58, 59, 60, 61, 62, 63, 64, 65, 66, 67, 68, 69, 70, 71, 72], []⟩)⟩ (loopIn Try.prog 33 6)) c K) =
    S_astrolaberef1_Round_0 g_astrolaberef1_Pow g_astrolaberef1_plus g_astrolaberef1_made  x0 x1 x2 x3 x4 x5 x6 (fun d => c (St.mk
  [AV.und, AV.r (RV.c (CV.f (FV.i IntKind.i64 d.1))), AV.r (RV.c (CV.ptr 0 (Off.k 0) 9)), AV.tup [], AV.r (RV.c (CV.ptr 1 (Off.k 0) 9)), AV.r (RV.c (CV.ptr 2 (Off.k 0) 8)),
    AV.r (RV.c (CV.ptr 3 (Off.k 0) 8)), AV.r (RV.c (CV.f (FV.i IntKind.i64 d.2.1))), AV.und, AV.und, AV.und, AV.und, AV.und, AV.und, AV.und, AV.und, AV.und, AV.und, AV.und, AV.und, AV.und, AV.und,
    AV.und, AV.und, AV.und, AV.und, AV.und, AV.und, AV.und, AV.und, AV.und, AV.und, AV.und, AV.und, AV.und, AV.und, AV.und, AV.und, AV.und, AV.und, AV.und, AV.und, AV.und, AV.und, AV.und, AV.und,
    AV.und, AV.und, AV.und, AV.und, AV.und, AV.und, AV.und, AV.und, AV.und, AV.und, AV.und, AV.und, AV.und, AV.und, AV.und, AV.und, AV.und, AV.und, AV.und, AV.und, AV.und, AV.und, AV.und, AV.und,
    AV.und, AV.und, AV.und]
  [some [Sg.c (CV.f (FV.b d.2.2.1)), Sg.a (Sz.l 8) [Col.i IntKind.u64 d.2.2.2.1]], some [Sg.c (CV.f (FV.b false)), Sg.a (Sz.l 8) [Col.i IntKind.u64 d.2.2.2.2.1]],
    some [Sg.a (Sz.l 8) [Col.i IntKind.u64 d.2.2.2.2.2.1]], some [Sg.a (Sz.l 8) [Col.i IntKind.u64 d.2.2.2.2.2.2]]]
  [])) (fun d => K (AX.ex 0) (St.mk
  [AV.und, AV.r (RV.c (CV.f (FV.i IntKind.i64 d.1))), AV.r (RV.c (CV.ptr 0 (Off.k 0) 9)), AV.tup [], AV.r (RV.c (CV.ptr 1 (Off.k 0) 9)), AV.r (RV.c (CV.ptr 2 (Off.k 0) 8)),
    AV.r (RV.c (CV.ptr 3 (Off.k 0) 8)), AV.r (RV.c (CV.f (FV.i IntKind.i64 d.2.1))), AV.und, AV.und, AV.und, AV.und, AV.und, AV.und, AV.und, AV.und, AV.und, AV.und, AV.und,
    AV.r (RV.c (CV.f (FV.i IntKind.i64 d.2.1))), AV.r (RV.c (CV.f (FV.b d.2.2.1))), AV.und, AV.und, AV.und, AV.und, AV.und, AV.und, AV.und, AV.und, AV.und, AV.und, AV.und, AV.und, AV.und,
    AV.und, AV.und, AV.und, AV.und, AV.und, AV.und, AV.und, AV.und, AV.und, AV.und, AV.und, AV.und, AV.und, AV.und, AV.und, AV.und, AV.und, AV.und, AV.und, AV.und, AV.und, AV.und, AV.und, AV.und,
    AV.und, AV.und, AV.und, AV.und, AV.und, AV.und, AV.und, AV.und, AV.und, AV.und, AV.und, AV.und, AV.und, AV.und, AV.und]
  [some [Sg.c (CV.f (FV.b d.2.2.2.1)), Sg.a (Sz.l 8) [Col.i IntKind.u64 d.2.2.2.2.1]], some [Sg.c (CV.f (FV.b false)), Sg.a (Sz.l 8) [Col.i IntKind.u64 d.2.2.2.2.2.1]],
    some [Sg.a (Sz.l 8) [Col.i IntKind.u64 d.2.2.2.2.2.2.1]], some [Sg.a (Sz.l 8) [Col.i IntKind.u64 d.2.2.2.2.2.2.2]]]
  [])) := by kernel_rfl
theorem it_astrolaberef1_Round_0 {ρ : Type} (x0 : Int) (x1 : Int) (x2 : Bool) (x3 : Nat → Int) (x4 : Nat → Int) (x5 : Nat → Int) (x6 : Nat → Int) (K : AX → St → Option ρ) :
    iter (fun t => t.head 0 ⟨[⟨6, [0, 8, 9, 10, 11, 12, 13, 14, 15, 16, 17, 18, 19, 20, 21, 22, 23, 24, 25, 26, 27, 28, 29, 30, 31, 32, 33, 34, 35, 36, 37, 38, 39, 40, 41, 42, 43, 44, 45, 46, 47, 48, 49, 50, 51, 52, 53, 54, 55, 56, 57, 58, 59, 60, 63, 64, 65, 66, 67, 68, 69, 70, 71, 72, 61, 62], []⟩], [⟨6, 0, @R_astrolaberef1_Round_0 (@L_astrolaberef1_Round_0)⟩], [], [], (some ⟨0, [0, 1, 2, 3, 5, 6, 7, 8, 9, 10, 11, 12, 13, 14, 15, 16, 17, 18, 19, 20, 21, 22, 23, 24, 25, 26, 27, 28, 29, 30, 31, 32, 33, 34, 35, 36, 37, 38, 39, 40, 41, 42, 43, 44, 45, 46, 47, 48, 49, 50, 51, 52, 53, 54, 55, 56, 57, 58, 59, 60, 61, 62, 63, 64, 65, 66, 67, 68, 69, 70, 71, 72], []⟩)⟩ (loopIn Try.prog 33 6)) (runC Try.prog (envOf [(32, F_astrolaberef1_Pow f_astrolaberef1_Pow), (60, F_astrolaberef1_plus f_astrolaberef1_plus), (58, F_astrolaberef1_made f_astrolaberef1_made)]) ⟨[⟨6, [0, 8, 9, 10, 11, 12, 13, 14, 15, 16, 17, 18, 19, 20, 21, 22, 23, 24, 25, 26, 27, 28, 29, 30, 31, 32, 33, 34, 35, 36, 37, 38, 39, 40, 41, 42, 43, 44, 45, 46, 47, 48, 49, 50, 51, 52, 53, 54, 55, 56, 57, 58, 59, 60, 63, 64, 65, 66, 67, 68, 69, 70, 71, 72, 61, 62], []⟩], [⟨6, 0, @R_astrolaberef1_Round_0 (@L_astrolaberef1_Round_0)⟩], [], [], (some ⟨0, [0, 1, 2, 3, 5, 6, 7, 8, 9, 10, 11, 12, 13, 14, 15, 16, 17, 18, 19, 20, 21, 22, 23, 24, 25, 26, 27, 28, 29, 30, 31, 32, 33, 34, 35, 36, 37, 38, 39, 40, 41, 42, 43, 44, 45, 46, 47, 48, 49, 50, 51, 52, 53, 54, 55, 56, 57, 58, 59, 60, 61, 62, 63, 64, 65, 66, 67, 68, 69, 70, 71, 72], []⟩)⟩ (tmpsOf Try.prog 33) 0 300 (loopIn Try.prog 33 6)) K 300
      (St.mk
    [AV.und, AV.r (RV.c (CV.f (FV.i IntKind.i64 x0))), AV.r (RV.c (CV.ptr 0 (Off.k 0) 9)), AV.tup [], AV.r (RV.c (CV.ptr 1 (Off.k 0) 9)), AV.r (RV.c (CV.ptr 2 (Off.k 0) 8)),
      AV.r (RV.c (CV.ptr 3 (Off.k 0) 8)), AV.r (RV.c (CV.f (FV.i IntKind.i64 x1))), AV.und, AV.und, AV.und, AV.und, AV.und, AV.und, AV.und, AV.und, AV.und, AV.und, AV.und, AV.und, AV.und, AV.und,
      AV.und, AV.und, AV.und, AV.und, AV.und, AV.und, AV.und, AV.und, AV.und, AV.und, AV.und, AV.und, AV.und, AV.und, AV.und, AV.und, AV.und, AV.und, AV.und, AV.und, AV.und, AV.und, AV.und, AV.und,
      AV.und, AV.und, AV.und, AV.und, AV.und, AV.und, AV.und, AV.und, AV.und, AV.und, AV.und, AV.und, AV.und, AV.und, AV.und, AV.und, AV.und, AV.und, AV.und, AV.und, AV.und, AV.und, AV.und, AV.und,
      AV.und, AV.und, AV.und]
    [some [Sg.c (CV.f (FV.b x2)), Sg.a (Sz.l 8) [Col.i IntKind.u64 x3]], some [Sg.c (CV.f (FV.b false)), Sg.a (Sz.l 8) [Col.i IntKind.u64 x4]], some [Sg.a (Sz.l 8) [Col.i IntKind.u64 x5]],
      some [Sg.a (Sz.l 8) [Col.i IntKind.u64 x6]]]
    []) = L_astrolaberef1_Round_0 (x0, x1, x2, x3, x4, x5, x6) (fun d => K (AX.ex 0) (St.mk
  [AV.und, AV.r (RV.c (CV.f (FV.i IntKind.i64 d.1))), AV.r (RV.c (CV.ptr 0 (Off.k 0) 9)), AV.tup [], AV.r (RV.c (CV.ptr 1 (Off.k 0) 9)), AV.r (RV.c (CV.ptr 2 (Off.k 0) 8)),
    AV.r (RV.c (CV.ptr 3 (Off.k 0) 8)), AV.r (RV.c (CV.f (FV.i IntKind.i64 d.2.1))), AV.und, AV.und, AV.und, AV.und, AV.und, AV.und, AV.und, AV.und, AV.und, AV.und, AV.und,
    AV.r (RV.c (CV.f (FV.i IntKind.i64 d.2.1))), AV.r (RV.c (CV.f (FV.b d.2.2.1))), AV.und, AV.und, AV.und, AV.und, AV.und, AV.und, AV.und, AV.und, AV.und, AV.und, AV.und, AV.und, AV.und,
    AV.und, AV.und, AV.und, AV.und, AV.und, AV.und, AV.und, AV.und, AV.und, AV.und, AV.und, AV.und, AV.und, AV.und, AV.und, AV.und, AV.und, AV.und, AV.und, AV.und, AV.und, AV.und, AV.und, AV.und,
    AV.und, AV.und, AV.und, AV.und, AV.und, AV.und, AV.und, AV.und, AV.und, AV.und, AV.und, AV.und, AV.und, AV.und, AV.und]
  [some [Sg.c (CV.f (FV.b d.2.2.2.1)), Sg.a (Sz.l 8) [Col.i IntKind.u64 d.2.2.2.2.1]], some [Sg.c (CV.f (FV.b false)), Sg.a (Sz.l 8) [Col.i IntKind.u64 d.2.2.2.2.2.1]],
    some [Sg.a (Sz.l 8) [Col.i IntKind.u64 d.2.2.2.2.2.2.1]], some [Sg.a (Sz.l 8) [Col.i IntKind.u64 d.2.2.2.2.2.2.2]]]
  [])) :=
  iter_loopX (emb := fun (d : Int × Int × Bool × (Nat → Int) × (Nat → Int) × (Nat → Int) × (Nat → Int)) => St.mk
  [AV.und, AV.r (RV.c (CV.f (FV.i IntKind.i64 d.1))), AV.r (RV.c (CV.ptr 0 (Off.k 0) 9)), AV.tup [], AV.r (RV.c (CV.ptr 1 (Off.k 0) 9)), AV.r (RV.c (CV.ptr 2 (Off.k 0) 8)),
    AV.r (RV.c (CV.ptr 3 (Off.k 0) 8)), AV.r (RV.c (CV.f (FV.i IntKind.i64 d.2.1))), AV.und, AV.und, AV.und, AV.und, AV.und, AV.und, AV.und, AV.und, AV.und, AV.und, AV.und, AV.und, AV.und, AV.und,
    AV.und, AV.und, AV.und, AV.und, AV.und, AV.und, AV.und, AV.und, AV.und, AV.und, AV.und, AV.und, AV.und, AV.und, AV.und, AV.und, AV.und, AV.und, AV.und, AV.und, AV.und, AV.und, AV.und, AV.und,
    AV.und, AV.und, AV.und, AV.und, AV.und, AV.und, AV.und, AV.und, AV.und, AV.und, AV.und, AV.und, AV.und, AV.und, AV.und, AV.und, AV.und, AV.und, AV.und, AV.und, AV.und, AV.und, AV.und, AV.und,
    AV.und, AV.und, AV.und]
  [some [Sg.c (CV.f (FV.b d.2.2.1)), Sg.a (Sz.l 8) [Col.i IntKind.u64 d.2.2.2.1]], some [Sg.c (CV.f (FV.b false)), Sg.a (Sz.l 8) [Col.i IntKind.u64 d.2.2.2.2.1]],
    some [Sg.a (Sz.l 8) [Col.i IntKind.u64 d.2.2.2.2.2.1]], some [Sg.a (Sz.l 8) [Col.i IntKind.u64 d.2.2.2.2.2.2]]]
  []) (step := fun d c x => S_astrolaberef1_Round_0 f_astrolaberef1_Pow f_astrolaberef1_plus f_astrolaberef1_made  d.1 d.2.1 d.2.2.1 d.2.2.2.1 d.2.2.2.2.1 d.2.2.2.2.2.1 d.2.2.2.2.2.2 c x) (kx := (fun d => K (AX.ex 0) (St.mk
  [AV.und, AV.r (RV.c (CV.f (FV.i IntKind.i64 d.1))), AV.r (RV.c (CV.ptr 0 (Off.k 0) 9)), AV.tup [], AV.r (RV.c (CV.ptr 1 (Off.k 0) 9)), AV.r (RV.c (CV.ptr 2 (Off.k 0) 8)),
    AV.r (RV.c (CV.ptr 3 (Off.k 0) 8)), AV.r (RV.c (CV.f (FV.i IntKind.i64 d.2.1))), AV.und, AV.und, AV.und, AV.und, AV.und, AV.und, AV.und, AV.und, AV.und, AV.und, AV.und,
    AV.r (RV.c (CV.f (FV.i IntKind.i64 d.2.1))), AV.r (RV.c (CV.f (FV.b d.2.2.1))), AV.und, AV.und, AV.und, AV.und, AV.und, AV.und, AV.und, AV.und, AV.und, AV.und, AV.und, AV.und, AV.und,
    AV.und, AV.und, AV.und, AV.und, AV.und, AV.und, AV.und, AV.und, AV.und, AV.und, AV.und, AV.und, AV.und, AV.und, AV.und, AV.und, AV.und, AV.und, AV.und, AV.und, AV.und, AV.und, AV.und, AV.und,
    AV.und, AV.und, AV.und, AV.und, AV.und, AV.und, AV.und, AV.und, AV.und, AV.und, AV.und, AV.und, AV.und, AV.und, AV.und]
  [some [Sg.c (CV.f (FV.b d.2.2.2.1)), Sg.a (Sz.l 8) [Col.i IntKind.u64 d.2.2.2.2.1]], some [Sg.c (CV.f (FV.b false)), Sg.a (Sz.l 8) [Col.i IntKind.u64 d.2.2.2.2.2.1]],
    some [Sg.a (Sz.l 8) [Col.i IntKind.u64 d.2.2.2.2.2.2.1]], some [Sg.a (Sz.l 8) [Col.i IntKind.u64 d.2.2.2.2.2.2.2]]]
  [])))
    (fun d c => ds_astrolaberef1_Round_0 f_astrolaberef1_Pow f_astrolaberef1_plus f_astrolaberef1_made (@L_astrolaberef1_Round_0) d.1 d.2.1 d.2.2.1 d.2.2.2.1 d.2.2.2.2.1 d.2.2.2.2.2.1 d.2.2.2.2.2.2 c K) 300 (x0, x1, x2, x3, x4, x5, x6)
theorem so_astrolaberef1_Round_0 : ∀ kk, SumOK Try.prog (envOf [(32, F_astrolaberef1_Pow f_astrolaberef1_Pow), (60, F_astrolaberef1_plus f_astrolaberef1_plus), (58, F_astrolaberef1_made f_astrolaberef1_made)]) ⟨[⟨6, [0, 8, 9, 10, 11, 12, 13, 14, 15, 16, 17, 18, 19, 20, 21, 22, 23, 24, 25, 26, 27, 28, 29, 30, 31, 32, 33, 34, 35, 36, 37, 38, 39, 40, 41, 42, 43, 44, 45, 46, 47, 48, 49, 50, 51, 52, 53, 54, 55, 56, 57, 58, 59, 60, 63, 64, 65, 66, 67, 68, 69, 70, 71, 72, 61, 62], []⟩], [⟨6, 0, @R_astrolaberef1_Round_0 (@L_astrolaberef1_Round_0)⟩], [], [], (some ⟨0, [0, 1, 2, 3, 5, 6, 7, 8, 9, 10, 11, 12, 13, 14, 15, 16, 17, 18, 19, 20, 21, 22, 23, 24, 25, 26, 27, 28, 29, 30, 31, 32, 33, 34, 35, 36, 37, 38, 39, 40, 41, 42, 43, 44, 45, 46, 47, 48, 49, 50, 51, 52, 53, 54, 55, 56, 57, 58, 59, 60, 61, 62, 63, 64, 65, 66, 67, 68, 69, 70, 71, 72], []⟩)⟩ (tmpsOf Try.prog 33) kk 300 (loopIn Try.prog 33 6) :=
  SumOK.of (id := 6) (k0 := 0) (run := @R_astrolaberef1_Round_0 (@L_astrolaberef1_Round_0)) (by kernel_rfl) fun s K r hr => by
    unfold R_astrolaberef1_Round_0 at hr
    obtain ⟨b, hb, hr1⟩ := Option.bind_eq_some_iff.1 hr
    have e := ((Q_astrolaberef1_Round_0).ok s b hb).trans (q_astrolaberef1_Round_0 b)
    subst e
    exact ⟨300, (it_astrolaberef1_Round_0 b.1.2.1 b.1.2.2.2.2.2.2.2.1 b.2.1.1.1 b.2.1.1.2.1.2.1 b.2.1.2.1.2.1.2.1 b.2.1.2.2.1.1.2.1 b.2.1.2.2.2.1.1.2.1 K).trans hr1⟩
def K_astrolaberef1_Round {ρ : Type} (g_astrolaberef1_Pow : Int → Option (Nat → Int)) (g_astrolaberef1_plus : (Nat → Int) → (Nat → Int) → Option (Nat → Int)) (g_astrolaberef1_made : Bool → (Nat → Int) → Option (Bool × (Nat → Int))) (l_0 : ∀ {ρ : Type}, (Int × Int × Bool × (Nat → Int) × (Nat → Int) × (Nat → Int) × (Nat → Int)) → ((Int × Int × Bool × Bool × (Nat → Int) × (Nat → Int) × (Nat → Int) × (Nat → Int)) → Option ρ) → Option ρ) (x0 : Bool) (x1 : Nat → Int) (x2 : Int) (k : (Bool × (Nat → Int)) → Option ρ) : Option ρ :=
  bif x2 == 0 then k (x0, x1)
  else
    Option.bind (g_astrolaberef1_Pow (IntKind.wrap IntKind.i64 (x2 - 1))) fun (d : Nat → Int) =>
      Option.bind (g_astrolaberef1_plus x1 d) fun (d : Nat → Int) =>
        l_0 (x2, 0, x0, x1, fun (x : Nat) => 0, d, fun (x : Nat) => 0) fun (d : Int × Int × Bool × Bool × (Nat → Int) × (Nat → Int) × (Nat → Int) × (Nat → Int)) =>
          Option.bind (g_astrolaberef1_made d.2.2.2.1 d.2.2.2.2.2.2.2) fun (d : Bool × (Nat → Int)) => k (d.1, d.2)
def f_astrolaberef1_Round (x0 : Bool) (x1 : Nat → Int) (x2 : Int) : Option (Bool × (Nat → Int)) := K_astrolaberef1_Round f_astrolaberef1_Pow f_astrolaberef1_plus f_astrolaberef1_made (@L_astrolaberef1_Round_0) x0 x1 x2 some
section
open Go.Ab.Rdr
def QA_astrolaberef1_Round := ((pair (cons (ar (ra (cons (gc (cf (fb hole))) (cons (ga (szl (nat 8)) (cons (ki .u64 hole) nil)) nil)))) (cons (ar (rc (cf (fi .i64 hole)))) nil)) nil) : Rdr (List AV × List Blk) _)
end
def F_astrolaberef1_Round (f : (Bool) → (Nat → Int) → (Int) → Option (Bool × (Nat → Int))) : Sem1 := fun args h => match (QA_astrolaberef1_Round).rd (args, h) with
  | some b => .opt (f b.1.1.1 b.1.1.2.1.2.1 b.1.2.1) fun (d : Bool × (Nat → Int)) => .leaf (Res.mk (AV.r (RV.agg [Sg.c (CV.f (FV.b d.1)), Sg.a (Sz.l 8) [Col.i IntKind.u64 d.2]])) [] [])
  | none => .fail
theorem d_astrolaberef1_Round (g_astrolaberef1_Pow : Int → Option (Nat → Int)) (g_astrolaberef1_plus : (Nat → Int) → (Nat → Int) → Option (Nat → Int)) (g_astrolaberef1_made : Bool → (Nat → Int) → Option (Bool × (Nat → Int))) (l_0 : ∀ {ρ : Type}, (Int × Int × Bool × (Nat → Int) × (Nat → Int) × (Nat → Int) × (Nat → Int)) → ((Int × Int × Bool × Bool × (Nat → Int) × (Nat → Int) × (Nat → Int) × (Nat → Int)) → Option ρ) → Option ρ) (x0 : Bool) (x1 : Nat → Int) (x2 : Int) : den Try.prog (envOf [(32, F_astrolaberef1_Pow g_astrolaberef1_Pow), (60, F_astrolaberef1_plus g_astrolaberef1_plus), (58, F_astrolaberef1_made g_astrolaberef1_made)]) ⟨[⟨6, [0, 8, 9, 10, 11, 12, 13, 14, 15, 16, 17, 18, 19, 20, 21, 22, 23, 24, 25, 26, 27, 28, 29, 30, 31, 32, 33, 34, 35, 36, 37, 38, 39, 40, 41, 42, 43, 44, 45, 46, 47, 48, 49, 50, 51, 52, 53, 54, 55, 56, 57, 58, 59, 60, 63, 64, 65, 66, 67, 68, 69, 70, 71, 72, 61, 62], []⟩], [⟨6, 0, @R_astrolaberef1_Round_0 (@l_0)⟩], [], [], (some ⟨0, [0, 1, 2, 3, 5, 6, 7, 8, 9, 10, 11, 12, 13, 14, 15, 16, 17, 18, 19, 20, 21, 22, 23, 24, 25, 26, 27, 28, 29, 30, 31, 32, 33, 34, 35, 36, 37, 38, 39, 40, 41, 42, 43, 44, 45, 46, 47, 48, 49, 50, 51, 52, 53, 54, 55, 56, 57, 58, 59, 60, 61, 62, 63, 64, 65, 66, 67, 68, 69, 70, 71, 72], []⟩)⟩ 300 33 [.r (.agg [.c (.f (.b x0)), .a (.l 8) [.i .u64 x1]]), .r (.c (.f (.i .i64 x2)))] [] =
    K_astrolaberef1_Round g_astrolaberef1_Pow g_astrolaberef1_plus g_astrolaberef1_made (@l_0) x0 x1 x2 (fun (d : Bool × (Nat → Int)) => some (Res.mk (AV.r (RV.agg [Sg.c (CV.f (FV.b d.1)), Sg.a (Sz.l 8) [Col.i IntKind.u64 d.2]])) [] [])) := by kernel_rfl
theorem m_astrolaberef1_Round {ρ σ : Type} (q : ρ → Option σ) (g_astrolaberef1_Pow : Int → Option (Nat → Int)) (g_astrolaberef1_plus : (Nat → Int) → (Nat → Int) → Option (Nat → Int)) (g_astrolaberef1_made : Bool → (Nat → Int) → Option (Bool × (Nat → Int))) (l_0 : ∀ {ρ : Type}, (Int × Int × Bool × (Nat → Int) × (Nat → Int) × (Nat → Int) × (Nat → Int)) → ((Int × Int × Bool × Bool × (Nat → Int) × (Nat → Int) × (Nat → Int) × (Nat → Int)) → Option ρ) → Option ρ) (hl_0 : ∀ {ρ σ : Type} (q : ρ → Option σ) (d : Int × Int × Bool × (Nat → Int) × (Nat → Int) × (Nat → Int) × (Nat → Int)) (k : (Int × Int × Bool × Bool × (Nat → Int) × (Nat → Int) × (Nat → Int) × (Nat → Int)) → Option ρ), (l_0 d k).bind q = l_0 d fun x => (k x).bind q) (x0 : Bool) (x1 : Nat → Int) (x2 : Int) (k : (Bool × (Nat → Int)) → Option ρ) : (K_astrolaberef1_Round g_astrolaberef1_Pow g_astrolaberef1_plus g_astrolaberef1_made (@l_0) x0 x1 x2 k).bind q = K_astrolaberef1_Round g_astrolaberef1_Pow g_astrolaberef1_plus g_astrolaberef1_made (@l_0) x0 x1 x2 (fun d => (k d).bind q) := by
  simp only [K_astrolaberef1_Round, bnd_cond, bnd_bind, bnd_none, bnd_sum, hl_0]
theorem qa_astrolaberef1_Round : ∀ b, (QA_astrolaberef1_Round).em b = ([.r (.agg [.c (.f (.b b.1.1.1)), .a (.l 8) [.i .u64 b.1.1.2.1.2.1]]), .r (.c (.f (.i .i64 b.1.2.1)))], []) := fun b => by kernel_rfl
theorem e_astrolaberef1_Round {f : (Bool) → (Nat → Int) → (Int) → Option (Bool × (Nat → Int))} {args : List AV} {h : List Blk} {r : Res} (hr : (F_astrolaberef1_Round f args h).eval = some r) : ∃ x0 x1 x2, args = [.r (.agg [.c (.f (.b x0)), .a (.l 8) [.i .u64 x1]]), .r (.c (.f (.i .i64 x2)))] ∧ h = [] ∧ (f x0 x1 x2).bind (fun (d : Bool × (Nat → Int)) => some (Res.mk (AV.r (RV.agg [Sg.c (CV.f (FV.b d.1)), Sg.a (Sz.l 8) [Col.i IntKind.u64 d.2]])) [] [])) = some r := by
  unfold F_astrolaberef1_Round at hr
  split at hr
  · rename_i b hb
    have e := ((QA_astrolaberef1_Round).ok _ _ hb).trans (qa_astrolaberef1_Round b)
    rw [opt_eval2] at hr
    exact ⟨b.1.1.1, b.1.1.2.1.2.1, b.1.2.1, (Prod.mk.inj e).1, (Prod.mk.inj e).2, hr⟩
  · cases hr
theorem n_astrolaberef1_Round {σ : Type} (q : (Bool × (Nat → Int)) → Option σ) (x0 : Bool) (x1 : Nat → Int) (x2 : Int) : (f_astrolaberef1_Round x0 x1 x2).bind q = K_astrolaberef1_Round f_astrolaberef1_Pow f_astrolaberef1_plus f_astrolaberef1_made (@L_astrolaberef1_Round_0) x0 x1 x2 q := by
  unfold f_astrolaberef1_Round
  exact m_astrolaberef1_Round q f_astrolaberef1_Pow f_astrolaberef1_plus f_astrolaberef1_made (@L_astrolaberef1_Round_0) (fun q d k => mL_astrolaberef1_Round_0 q d k) x0 x1 x2 some
theorem s_astrolaberef1_Round : Sound Try.prog 33 (F_astrolaberef1_Round f_astrolaberef1_Round) :=
  (inl_sums (l := [(32, F_astrolaberef1_Pow f_astrolaberef1_Pow), (60, F_astrolaberef1_plus f_astrolaberef1_plus), (58, F_astrolaberef1_made f_astrolaberef1_made)]) (.cons s_astrolaberef1_Pow (.cons s_astrolaberef1_plus (.cons s_astrolaberef1_made (.nil _)))) mixed (hs := ⟨[⟨6, [0, 8, 9, 10, 11, 12, 13, 14, 15, 16, 17, 18, 19, 20, 21, 22, 23, 24, 25, 26, 27, 28, 29, 30, 31, 32, 33, 34, 35, 36, 37, 38, 39, 40, 41, 42, 43, 44, 45, 46, 47, 48, 49, 50, 51, 52, 53, 54, 55, 56, 57, 58, 59, 60, 63, 64, 65, 66, 67, 68, 69, 70, 71, 72, 61, 62], []⟩], [⟨6, 0, @R_astrolaberef1_Round_0 (@L_astrolaberef1_Round_0)⟩], [], [], (some ⟨0, [0, 1, 2, 3, 5, 6, 7, 8, 9, 10, 11, 12, 13, 14, 15, 16, 17, 18, 19, 20, 21, 22, 23, 24, 25, 26, 27, 28, 29, 30, 31, 32, 33, 34, 35, 36, 37, 38, 39, 40, 41, 42, 43, 44, 45, 46, 47, 48, 49, 50, 51, 52, 53, 54, 55, 56, 57, 58, 59, 60, 61, 62, 63, 64, 65, 66, 67, 68, 69, 70, 71, 72], []⟩)⟩) (lf := 300) (Sums.by (l := [loopIn Try.prog 33 6]) (lj := []) (by kernel_rfl) ⟨so_astrolaberef1_Round_0, trivial⟩ (by kernel_rfl) trivial) (by kernel_rfl)).by (F := F_astrolaberef1_Round f_astrolaberef1_Round) fun args b r hr => by
  obtain ⟨x0, x1, x2, rfl, rfl, hr1⟩ := e_astrolaberef1_Round hr
  exact inl_eval ((d_astrolaberef1_Round f_astrolaberef1_Pow f_astrolaberef1_plus f_astrolaberef1_made (@L_astrolaberef1_Round_0) x0 x1 x2).trans ((n_astrolaberef1_Round (fun (d : Bool × (Nat → Int)) => some (Res.mk (AV.r (RV.agg [Sg.c (CV.f (FV.b d.1)), Sg.a (Sz.l 8) [Col.i IntKind.u64 d.2]])) [] [])) x0 x1 x2).symm.trans hr1))

def K_astrolaberef1_bit {ρ : Type}   (x0 : Nat → Int) (x1 : Int) (k : (Int) → Option ρ) : Option ρ :=
  bif inR (IntKind.wrap IntKind.i64 (Int.tdiv x1 32)) 8 then
    bif !decide (IntKind.wrap IntKind.u64 (Int.tmod x1 32) < 0) then
      k
        (IntKind.wrap IntKind.u64
          (Int.ofNat
            (BitVec.toNat
              (BitVec.ofInt 64 (Int.fdiv (x0 (Int.toNat (IntKind.wrap IntKind.i64 (Int.tdiv x1 32)))) (2 ^ min (Int.toNat (IntKind.wrap IntKind.u64 (Int.tmod x1 32))) 64)) &&& BitVec.ofInt 64 1))))
    else none
  else none
def f_astrolaberef1_bit (x0 : Nat → Int) (x1 : Int) : Option (Int) := K_astrolaberef1_bit   x0 x1 some
section
open Go.Ab.Rdr
def QA_astrolaberef1_bit := ((pair (cons (ar (ra (cons (ga (szl (nat 8)) (cons (ki .u64 hole) nil)) nil))) (cons (ar (rc (cf (fi .i64 hole)))) nil)) nil) : Rdr (List AV × List Blk) _)
end
def F_astrolaberef1_bit (f : (Nat → Int) → (Int) → Option (Int)) : Sem1 := fun args h => match (QA_astrolaberef1_bit).rd (args, h) with
  | some b => .opt (f b.1.1.1.2.1 b.1.2.1) fun (d : Int) => .leaf (Res.mk (AV.r (RV.c (CV.f (FV.i IntKind.u64 d)))) [] [])
  | none => .fail
theorem d_astrolaberef1_bit   (x0 : Nat → Int) (x1 : Int) : den Try.prog (envOf []) ⟨[], [], [], [], none⟩ 300 90 [.r (.agg [.a (.l 8) [.i .u64 x0]]), .r (.c (.f (.i .i64 x1)))] [] =
    K_astrolaberef1_bit   x0 x1 (fun (d : Int) => some (Res.mk (AV.r (RV.c (CV.f (FV.i IntKind.u64 d)))) [] [])) := by kernel_rfl
theorem m_astrolaberef1_bit {ρ σ : Type} (q : ρ → Option σ)    (x0 : Nat → Int) (x1 : Int) (k : (Int) → Option ρ) : (K_astrolaberef1_bit   x0 x1 k).bind q = K_astrolaberef1_bit   x0 x1 (fun d => (k d).bind q) := by
  simp only [K_astrolaberef1_bit, bnd_cond, bnd_bind, bnd_none, bnd_sum]
theorem qa_astrolaberef1_bit : ∀ b, (QA_astrolaberef1_bit).em b = ([.r (.agg [.a (.l 8) [.i .u64 b.1.1.1.2.1]]), .r (.c (.f (.i .i64 b.1.2.1)))], []) := fun b => by kernel_rfl
theorem e_astrolaberef1_bit {f : (Nat → Int) → (Int) → Option (Int)} {args : List AV} {h : List Blk} {r : Res} (hr : (F_astrolaberef1_bit f args h).eval = some r) : ∃ x0 x1, args = [.r (.agg [.a (.l 8) [.i .u64 x0]]), .r (.c (.f (.i .i64 x1)))] ∧ h = [] ∧ (f x0 x1).bind (fun (d : Int) => some (Res.mk (AV.r (RV.c (CV.f (FV.i IntKind.u64 d)))) [] [])) = some r := by
  unfold F_astrolaberef1_bit at hr
  split at hr
  · rename_i b hb
    have e := ((QA_astrolaberef1_bit).ok _ _ hb).trans (qa_astrolaberef1_bit b)
    rw [opt_eval2] at hr
    exact ⟨b.1.1.1.2.1, b.1.2.1, (Prod.mk.inj e).1, (Prod.mk.inj e).2, hr⟩
  · cases hr
theorem n_astrolaberef1_bit {σ : Type} (q : (Int) → Option σ) (x0 : Nat → Int) (x1 : Int) : (f_astrolaberef1_bit x0 x1).bind q = K_astrolaberef1_bit   x0 x1 q := by
  unfold f_astrolaberef1_bit
  exact m_astrolaberef1_bit q    x0 x1 some
theorem s_astrolaberef1_bit : Sound Try.prog 90 (F_astrolaberef1_bit f_astrolaberef1_bit) :=
  (inl_sound (l := []) (.nil _) mixed [] [] 300 (by kernel_rfl)).by (F := F_astrolaberef1_bit f_astrolaberef1_bit) fun args b r hr => by
  obtain ⟨x0, x1, rfl, rfl, hr1⟩ := e_astrolaberef1_bit hr
  exact inl_eval ((d_astrolaberef1_bit   x0 x1).trans ((n_astrolaberef1_bit (fun (d : Int) => some (Res.mk (AV.r (RV.c (CV.f (FV.i IntKind.u64 d)))) [] [])) x0 x1).symm.trans hr1))

def S_astrolaberef1_divide_0 {ρ : Type} (g_astrolaberef1_plus : (Nat → Int) → (Nat → Int) → Option (Nat → Int)) (g_astrolaberef1_bit : (Nat → Int) → Int → Option Int) (g_astrolaberef1_less : (Nat → Int) → (Nat → Int) → Option Bool) (g_astrolaberef1_minus : (Nat → Int) → (Nat → Int) → Option (Nat → Int))  (x0 : Int) (x1 : Nat → Int) (x2 : Nat → Int) (x3 : Nat → Int) (x4 : Nat → Int) (x5 : Nat → Int) (x6 : Nat → Int) (c : (Int × (Nat → Int) × (Nat → Int) × (Nat → Int) × (Nat → Int) × (Nat → Int) × (Nat → Int)) → Option ρ) (x : (Int × Bool × (Nat → Int) × (Nat → Int) × (Nat → Int) × (Nat → Int) × (Nat → Int) × (Nat → Int)) → Option ρ) : Option ρ :=
  bif decide (x0 ≥ 0) then
    Option.bind (g_astrolaberef1_plus x6 x6) fun (d : Nat → Int) =>
      Option.bind (g_astrolaberef1_bit x1 x0) fun (d_1 : Int) =>
        Option.bind (g_astrolaberef1_less (fun (j : Nat) => bif Nat.beq j 0 then IntKind.wrap IntKind.u64 (Int.ofNat (BitVec.toNat (BitVec.ofInt 64 (d 0) ||| BitVec.ofInt 64 d_1))) else d j) x2)
          fun (d_2 : Bool) =>
          bif !d_2 then
            Option.bind (g_astrolaberef1_minus (fun (j : Nat) => bif Nat.beq j 0 then IntKind.wrap IntKind.u64 (Int.ofNat (BitVec.toNat (BitVec.ofInt 64 (d 0) ||| BitVec.ofInt 64 d_1))) else d j) x2)
              fun (d : Nat → Int) =>
              bif inR (IntKind.wrap IntKind.i64 (Int.tdiv x0 32)) 8 then
                bif !decide (IntKind.wrap IntKind.u64 (Int.tmod x0 32) < 0) then
                  bif inR (IntKind.wrap IntKind.i64 (Int.tdiv x0 32)) 8 then
                    bif true && Nat.ble (0 + Int.toNat (IntKind.wrap IntKind.i64 (Int.tdiv x0 32)) * 1 + 1) 8 then
                      c
                        (IntKind.wrap IntKind.i64 (x0 - 1), x1, x2, x3, x4, fun (j : Nat) =>
                          bif Nat.beq j (Int.toNat (IntKind.wrap IntKind.i64 (Int.tdiv x0 32))) then
                            IntKind.wrap IntKind.u64
                              (Int.ofNat
                                (BitVec.toNat
                                  (BitVec.ofInt 64 (x5 (Int.toNat (IntKind.wrap IntKind.i64 (Int.tdiv x0 32)))) |||
                                    BitVec.ofInt 64 (IntKind.wrap IntKind.u64 (1 * 2 ^ min (Int.toNat (IntKind.wrap IntKind.u64 (Int.tmod x0 32))) 64)))))
                          else x5 j,
                          d)
                    else none
                  else none
                else none
              else none
          else
            c
              (IntKind.wrap IntKind.i64 (x0 - 1), x1, x2, x3, x4, x5, fun (j : Nat) =>
                bif Nat.beq j 0 then IntKind.wrap IntKind.u64 (Int.ofNat (BitVec.toNat (BitVec.ofInt 64 (d 0) ||| BitVec.ofInt 64 d_1))) else d j)
  else x (x0, decide (x0 ≥ 0), x1, x2, x3, x4, x5, x6)
section
open Go.Ab.Rdr
def Q_astrolaberef1_divide_0 := (st (cons aund (cons aund (cons (ar (rc (cptr (nat 0) (ok' (nat 0)) (nat 8)))) (cons (ar (rc (cptr (nat 1) (ok' (nat 0)) (nat 8)))) (cons (ar (rc (cptr (nat 2) (ok' (nat 0)) (nat 8)))) (cons (ar (rc (cptr (nat 3) (ok' (nat 0)) (nat 8)))) (cons (ar (rc (cptr (nat 4) (ok' (nat 0)) (nat 8)))) (cons (ar (rc (cptr (nat 5) (ok' (nat 0)) (nat 8)))) (cons (ar (rc (cf (fi .i64 hole)))) (cons aund (cons aund (cons aund (cons aund (cons aund (cons aund (cons aund (cons aund (cons aund (cons aund (cons aund (cons aund (cons aund (cons aund (cons aund (cons aund (cons aund (cons aund (cons aund (cons aund (cons aund (cons aund (cons aund (cons aund (cons aund (cons aund (cons aund (cons aund (cons aund (cons aund (cons aund (cons aund (cons aund (cons aund (cons aund nil)))))))))))))))))))))))))))))))))))))))))))) (cons (some' (cons (ga (szl (nat 8)) (cons (ki .u64 hole) nil)) nil)) (cons (some' (cons (ga (szl (nat 8)) (cons (ki .u64 hole) nil)) nil)) (cons (some' (cons (ga (szl (nat 8)) (cons (ki .u64 hole) nil)) nil)) (cons (some' (cons (ga (szl (nat 8)) (cons (ki .u64 hole) nil)) nil)) (cons (some' (cons (ga (szl (nat 8)) (cons (ki .u64 hole) nil)) nil)) (cons (some' (cons (ga (szl (nat 8)) (cons (ki .u64 hole) nil)) nil)) nil)))))) nil)
end
theorem q_astrolaberef1_divide_0 : ∀ b, (Q_astrolaberef1_divide_0).em b = St.mk
    [AV.und, AV.und, AV.r (RV.c (CV.ptr 0 (Off.k 0) 8)), AV.r (RV.c (CV.ptr 1 (Off.k 0) 8)), AV.r (RV.c (CV.ptr 2 (Off.k 0) 8)), AV.r (RV.c (CV.ptr 3 (Off.k 0) 8)), AV.r (RV.c (CV.ptr 4 (Off.k 0) 8)),
      AV.r (RV.c (CV.ptr 5 (Off.k 0) 8)), AV.r (RV.c (CV.f (FV.i IntKind.i64 b.1.2.2.2.2.2.2.2.2.1))), AV.und, AV.und, AV.und, AV.und, AV.und, AV.und, AV.und, AV.und, AV.und, AV.und, AV.und, AV.und, AV.und, AV.und,
      AV.und, AV.und, AV.und, AV.und, AV.und, AV.und, AV.und, AV.und, AV.und, AV.und, AV.und, AV.und, AV.und, AV.und, AV.und, AV.und, AV.und, AV.und, AV.und, AV.und, AV.und]
    [some [Sg.a (Sz.l 8) [Col.i IntKind.u64 b.2.1.1.1.2.1]], some [Sg.a (Sz.l 8) [Col.i IntKind.u64 b.2.1.2.1.1.2.1]], some [Sg.a (Sz.l 8) [Col.i IntKind.u64 b.2.1.2.2.1.1.2.1]], some [Sg.a (Sz.l 8) [Col.i IntKind.u64 b.2.1.2.2.2.1.1.2.1]],
      some [Sg.a (Sz.l 8) [Col.i IntKind.u64 b.2.1.2.2.2.2.1.1.2.1]], some [Sg.a (Sz.l 8) [Col.i IntKind.u64 b.2.1.2.2.2.2.2.1.1.2.1]]]
    [] := fun b => by kernel_rfl
def R_astrolaberef1_divide_0 (l : ∀ {ρ : Type}, (Int × (Nat → Int) × (Nat → Int) × (Nat → Int) × (Nat → Int) × (Nat → Int) × (Nat → Int)) → ((Int × Bool × (Nat → Int) × (Nat → Int) × (Nat → Int) × (Nat → Int) × (Nat → Int) × (Nat → Int)) → Option ρ) → Option ρ) {ρ : Type} (s : St) (K : AX → St → Option ρ) : Option ρ := ((Q_astrolaberef1_divide_0).rd s).bind fun b => l (b.1.2.2.2.2.2.2.2.2.1, b.2.1.1.1.2.1, b.2.1.2.1.1.2.1, b.2.1.2.2.1.1.2.1, b.2.1.2.2.2.1.1.2.1, b.2.1.2.2.2.2.1.1.2.1, b.2.1.2.2.2.2.2.1.1.2.1) (fun d => K (AX.ex 0) (St.mk
  [AV.und, AV.und, AV.r (RV.c (CV.ptr 0 (Off.k 0) 8)), AV.r (RV.c (CV.ptr 1 (Off.k 0) 8)), AV.r (RV.c (CV.ptr 2 (Off.k 0) 8)), AV.r (RV.c (CV.ptr 3 (Off.k 0) 8)), AV.r (RV.c (CV.ptr 4 (Off.k 0) 8)),
    AV.r (RV.c (CV.ptr 5 (Off.k 0) 8)), AV.r (RV.c (CV.f (FV.i IntKind.i64 d.1))), AV.r (RV.c (CV.f (FV.i IntKind.i64 d.1))), AV.r (RV.c (CV.f (FV.b d.2.1))), AV.und, AV.und, AV.und, AV.und,
    AV.und, AV.und, AV.und, AV.und, AV.und, AV.und, AV.und, AV.und, AV.und, AV.und, AV.und, AV.und, AV.und, AV.und, AV.und, AV.und, AV.und, AV.und, AV.und, AV.und, AV.und, AV.und, AV.und, AV.und,
    AV.und, AV.und, AV.und, AV.und, AV.und]
  [some [Sg.a (Sz.l 8) [Col.i IntKind.u64 d.2.2.1]], some [Sg.a (Sz.l 8) [Col.i IntKind.u64 d.2.2.2.1]], some [Sg.a (Sz.l 8) [Col.i IntKind.u64 d.2.2.2.2.1]],
    some [Sg.a (Sz.l 8) [Col.i IntKind.u64 d.2.2.2.2.2.1]], some [Sg.a (Sz.l 8) [Col.i IntKind.u64 d.2.2.2.2.2.2.1]],
    some [Sg.a (Sz.l 8) [Col.i IntKind.u64 d.2.2.2.2.2.2.2]]]
  []))
theorem ms_astrolaberef1_divide_0 {ρ σ : Type} (g_astrolaberef1_plus : (Nat → Int) → (Nat → Int) → Option (Nat → Int)) (g_astrolaberef1_bit : (Nat → Int) → Int → Option Int) (g_astrolaberef1_less : (Nat → Int) → (Nat → Int) → Option Bool) (g_astrolaberef1_minus : (Nat → Int) → (Nat → Int) → Option (Nat → Int))   (q : ρ → Option σ) (x0 : Int) (x1 : Nat → Int) (x2 : Nat → Int) (x3 : Nat → Int) (x4 : Nat → Int) (x5 : Nat → Int) (x6 : Nat → Int) (c : (Int × (Nat → Int) × (Nat → Int) × (Nat → Int) × (Nat → Int) × (Nat → Int) × (Nat → Int)) → Option ρ) (x : (Int × Bool × (Nat → Int) × (Nat → Int) × (Nat → Int) × (Nat → Int) × (Nat → Int) × (Nat → Int)) → Option ρ) : (S_astrolaberef1_divide_0 g_astrolaberef1_plus g_astrolaberef1_bit g_astrolaberef1_less g_astrolaberef1_minus  x0 x1 x2 x3 x4 x5 x6 c x).bind q = S_astrolaberef1_divide_0 g_astrolaberef1_plus g_astrolaberef1_bit g_astrolaberef1_less g_astrolaberef1_minus  x0 x1 x2 x3 x4 x5 x6 (fun d => (c d).bind q) (fun d => (x d).bind q) := by
  simp only [S_astrolaberef1_divide_0, bnd_cond, bnd_bind, bnd_none, bnd_sum]
def L_astrolaberef1_divide_0 {ρ : Type} (d : Int × (Nat → Int) × (Nat → Int) × (Nat → Int) × (Nat → Int) × (Nat → Int) × (Nat → Int)) (k : (Int × Bool × (Nat → Int) × (Nat → Int) × (Nat → Int) × (Nat → Int) × (Nat → Int) × (Nat → Int)) → Option ρ) : Option ρ := loopK (fun d c x => S_astrolaberef1_divide_0 f_astrolaberef1_plus f_astrolaberef1_bit f_astrolaberef1_less f_astrolaberef1_minus  d.1 d.2.1 d.2.2.1 d.2.2.2.1 d.2.2.2.2.1 d.2.2.2.2.2.1 d.2.2.2.2.2.2 c x) 300 d k
theorem mL_astrolaberef1_divide_0 {ρ σ : Type} (q : ρ → Option σ) (d : Int × (Nat → Int) × (Nat → Int) × (Nat → Int) × (Nat → Int) × (Nat → Int) × (Nat → Int)) (k : (Int × Bool × (Nat → Int) × (Nat → Int) × (Nat → Int) × (Nat → Int) × (Nat → Int) × (Nat → Int)) → Option ρ) : (L_astrolaberef1_divide_0 d k).bind q = L_astrolaberef1_divide_0 d fun x => (k x).bind q :=
  loopK_bind q (fun d c x => ms_astrolaberef1_divide_0 f_astrolaberef1_plus f_astrolaberef1_bit f_astrolaberef1_less f_astrolaberef1_minus   q d.1 d.2.1 d.2.2.1 d.2.2.2.1 d.2.2.2.2.1 d.2.2.2.2.2.1 d.2.2.2.2.2.2 c x) k _ d
theorem ds_astrolaberef1_divide_0 {ρ : Type} (g_astrolaberef1_plus : (Nat → Int) → (Nat → Int) → Option (Nat → Int)) (g_astrolaberef1_bit : (Nat → Int) → Int → Option Int) (g_astrolaberef1_less : (Nat → Int) → (Nat → Int) → Option Bool) (g_astrolaberef1_minus : (Nat → Int) → (Nat → Int) → Option (Nat → Int)) (l_0 : ∀ {ρ : Type}, (Int × (Nat → Int) × (Nat → Int) × (Nat → Int) × (Nat → Int) × (Nat → Int) × (Nat → Int)) → ((Int × Bool × (Nat → Int) × (Nat → Int) × (Nat → Int) × (Nat → Int) × (Nat → Int) × (Nat → Int)) → Option ρ) → Option ρ) (x0 : Int) (x1 : Nat → Int) (x2 : Nat → Int) (x3 : Nat → Int) (x4 : Nat → Int) (x5 : Nat → Int) (x6 : Nat → Int) (c : St → Option ρ) (K : AX → St → Option ρ) :
    runC Try.prog (envOf [(60, F_astrolaberef1_plus g_astrolaberef1_plus), (90, F_astrolaberef1_bit g_astrolaberef1_bit), (61, F_astrolaberef1_less g_astrolaberef1_less), (62, F_astrolaberef1_minus g_astrolaberef1_minus)]) ⟨[⟨4, [0, 1, 9, 10, 11, 12, 13, 14, 15, 16, 17, 18, 19, 20, 21, 22, 23, 24, 25, 26, 27, 28, 29, 30, 31, 32, 33, 34, 35, 36, 37, 38, 39, 40, 41, 42, 43], []⟩], [⟨4, 0, @R_astrolaberef1_divide_0 (@l_0)⟩], [], [], (some ⟨0, [0, 1, 2, 3, 6, 7, 8, 9, 10, 11, 12, 13, 14, 15, 16, 17, 18, 19, 20, 21, 22, 23, 24, 25, 26, 27, 28, 29, 30, 31, 32, 33, 34, 35, 36, 37, 38, 39, 40, 41, 42, 43], []⟩)⟩ (tmpsOf Try.prog 65) 0 300 (loopIn Try.prog 65 4)
      (St.mk
    [AV.und, AV.und, AV.r (RV.c (CV.ptr 0 (Off.k 0) 8)), AV.r (RV.c (CV.ptr 1 (Off.k 0) 8)), AV.r (RV.c (CV.ptr 2 (Off.k 0) 8)), AV.r (RV.c (CV.ptr 3 (Off.k 0) 8)), AV.r (RV.c (CV.ptr 4 (Off.k 0) 8)),
      AV.r (RV.c (CV.ptr 5 (Off.k 0) 8)), AV.r (RV.c (CV.f (FV.i IntKind.i64 x0))), AV.und, AV.und, AV.und, AV.und, AV.und, AV.und, AV.und, AV.und, AV.und, AV.und, AV.und, AV.und, AV.und, AV.und,
      AV.und, AV.und, AV.und, AV.und, AV.und, AV.und, AV.und, AV.und, AV.und, AV.und, AV.und, AV.und, AV.und, AV.und, AV.und, AV.und, AV.und, AV.und, AV.und, AV.und, AV.und]
    [some [Sg.a (Sz.l 8) [Col.i IntKind.u64 x1]], some [Sg.a (Sz.l 8) [Col.i IntKind.u64 x2]], some [Sg.a (Sz.l 8) [Col.i IntKind.u64 x3]], some [Sg.a (Sz.l 8) [Col.i IntKind.u64 x4]],
      some [Sg.a (Sz.l 8) [Col.i IntKind.u64 x5]], some [Sg.a (Sz.l 8) [Col.i IntKind.u64 x6]]]
    [])
      (next (fun t => t.head 0 ⟨[⟨4, [0, 1, 9, 10, 11, 12, 13, 14, 15, 16, 17, 18, 19, 20, 21, 22, 23, 24, 25, 26, 27, 28, 29, 30, 31, 32, 33, 34, 35, 36, 37, 38, 39, 40, 41, 42, 43], []⟩], [⟨4, 0, @R_astrolaberef1_divide_0 (@l_0)⟩], [], [], (some ⟨0, [0, 1, 2, 3, 6, 7, 8, 9, 10, 11, 12, 13, 14, 15, 16, 17, 18, 19, 20, 21, 22, 23, 24, 25, 26, 27, 28, 29, 30, 31, 32, 33, 34, 35, 36, 37, 38, 39, 40, 41, 42, 43], []⟩)⟩ (loopIn Try.prog 65 4)) c K) =
    S_astrolaberef1_divide_0 g_astrolaberef1_plus g_astrolaberef1_bit g_astrolaberef1_less g_astrolaberef1_minus  x0 x1 x2 x3 x4 x5 x6 (fun d => c (St.mk
  [AV.und, AV.und, AV.r (RV.c (CV.ptr 0 (Off.k 0) 8)), AV.r (RV.c (CV.ptr 1 (Off.k 0) 8)), AV.r (RV.c (CV.ptr 2 (Off.k 0) 8)), AV.r (RV.c (CV.ptr 3 (Off.k 0) 8)), AV.r (RV.c (CV.ptr 4 (Off.k 0) 8)),
    AV.r (RV.c (CV.ptr 5 (Off.k 0) 8)), AV.r (RV.c (CV.f (FV.i IntKind.i64 d.1))), AV.und, AV.und, AV.und, AV.und, AV.und, AV.und, AV.und, AV.und, AV.und, AV.und, AV.und, AV.und, AV.und, AV.und,
    AV.und, AV.und, AV.und, AV.und, AV.und, AV.und, AV.und, AV.und, AV.und, AV.und, AV.und, AV.und, AV.und, AV.und, AV.und, AV.und, AV.und, AV.und, AV.und, AV.und, AV.und]
  [some [Sg.a (Sz.l 8) [Col.i IntKind.u64 d.2.1]], some [Sg.a (Sz.l 8) [Col.i IntKind.u64 d.2.2.1]], some [Sg.a (Sz.l 8) [Col.i IntKind.u64 d.2.2.2.1]],
    some [Sg.a (Sz.l 8) [Col.i IntKind.u64 d.2.2.2.2.1]], some [Sg.a (Sz.l 8) [Col.i IntKind.u64 d.2.2.2.2.2.1]],
    some [Sg.a (Sz.l 8) [Col.i IntKind.u64 d.2.2.2.2.2.2]]]
  [])) (fun d => K (AX.ex 0) (St.mk
  [AV.und, AV.und, AV.r (RV.c (CV.ptr 0 (Off.k 0) 8)), AV.r (RV.c (CV.ptr 1 (Off.k 0) 8)), AV.r (RV.c (CV.ptr 2 (Off.k 0) 8)), AV.r (RV.c (CV.ptr 3 (Off.k 0) 8)), AV.r (RV.c (CV.ptr 4 (Off.k 0) 8)),
    AV.r (RV.c (CV.ptr 5 (Off.k 0) 8)), AV.r (RV.c (CV.f (FV.i IntKind.i64 d.1))), AV.r (RV.c (CV.f (FV.i IntKind.i64 d.1))), AV.r (RV.c (CV.f (FV.b d.2.1))), AV.und, AV.und, AV.und, AV.und,
    AV.und, AV.und, AV.und, AV.und, AV.und, AV.und, AV.und, AV.und, AV.und, AV.und, AV.und, AV.und, AV.und, AV.und, AV.und, AV.und, AV.und, AV.und, AV.und, AV.und, AV.und, AV.und, AV.und, AV.und,
    AV.und, AV.und, AV.und, AV.und, AV.und]
  [some [Sg.a (Sz.l 8) [Col.i IntKind.u64 d.2.2.1]], some [Sg.a (Sz.l 8) [Col.i IntKind.u64 d.2.2.2.1]], some [Sg.a (Sz.l 8) [Col.i IntKind.u64 d.2.2.2.2.1]],
    some [Sg.a (Sz.l 8) [Col.i IntKind.u64 d.2.2.2.2.2.1]], some [Sg.a (Sz.l 8) [Col.i IntKind.u64 d.2.2.2.2.2.2.1]],
    some [Sg.a (Sz.l 8) [Col.i IntKind.u64 d.2.2.2.2.2.2.2]]]
  [])) := by kernel_rfl
theorem it_astrolaberef1_divide_0 {ρ : Type} (x0 : Int) (x1 : Nat → Int) (x2 : Nat → Int) (x3 : Nat → Int) (x4 : Nat → Int) (x5 : Nat → Int) (x6 : Nat → Int) (K : AX → St → Option ρ) :
    iter (fun t => t.head 0 ⟨[⟨4, [0, 1, 9, 10, 11, 12, 13, 14, 15, 16, 17, 18, 19, 20, 21, 22, 23, 24, 25, 26, 27, 28, 29, 30, 31, 32, 33, 34, 35, 36, 37, 38, 39, 40, 41, 42, 43], []⟩], [⟨4, 0, @R_astrolaberef1_divide_0 (@L_astrolaberef1_divide_0)⟩], [], [], (some ⟨0, [0, 1, 2, 3, 6, 7, 8, 9, 10, 11, 12, 13, 14, 15, 16, 17, 18, 19, 20, 21, 22, 23, 24, 25, 26, 27, 28, 29, 30, 31, 32, 33, 34, 35, 36, 37, 38, 39, 40, 41, 42, 43], []⟩)⟩ (loopIn Try.prog 65 4)) (runC Try.prog (envOf [(60, F_astrolaberef1_plus f_astrolaberef1_plus), (90, F_astrolaberef1_bit f_astrolaberef1_bit), (61, F_astrolaberef1_less f_astrolaberef1_less), (62, F_astrolaberef1_minus f_astrolaberef1_minus)]) ⟨[⟨4, [0, 1, 9, 10, 11, 12, 13, 14, 15, 16, 17, 18, 19, 20, 21, 22, 23, 24, 25, 26, 27, 28, 29, 30, 31, 32, 33, 34, 35, 36, 37, 38, 39, 40, 41, 42, 43], []⟩], [⟨4, 0, @R_astrolaberef1_divide_0 (@L_astrolaberef1_divide_0)⟩], [], [], (some ⟨0, [0, 1, 2, 3, 6, 7, 8, 9, 10, 11, 12, 13, 14, 15, 16, 17, 18, 19, 20, 21, 22, 23, 24, 25, 26, 27, 28, 29, 30, 31, 32, 33, 34, 35, 36, 37, 38, 39, 40, 41, 42, 43], []⟩)⟩ (tmpsOf Try.prog 65) 0 300 (loopIn Try.prog 65 4)) K 300
      (St.mk
    [AV.und, AV.und, AV.r (RV.c (CV.ptr 0 (Off.k 0) 8)), AV.r (RV.c (CV.ptr 1 (Off.k 0) 8)), AV.r (RV.c (CV.ptr 2 (Off.k 0) 8)), AV.r (RV.c (CV.ptr 3 (Off.k 0) 8)), AV.r (RV.c (CV.ptr 4 (Off.k 0) 8)),
      AV.r (RV.c (CV.ptr 5 (Off.k 0) 8)), AV.r (RV.c (CV.f (FV.i IntKind.i64 x0))), AV.und, AV.und, AV.und, AV.und, AV.und, AV.und, AV.und, AV.und, AV.und, AV.und, AV.und, AV.und, AV.und, AV.und,
      AV.und, AV.und, AV.und, AV.und, AV.und, AV.und, AV.und, AV.und, AV.und, AV.und, AV.und, AV.und, AV.und, AV.und, AV.und, AV.und, AV.und, AV.und, AV.und, AV.und, AV.und]
    [some [Sg.a (Sz.l 8) [Col.i IntKind.u64 x1]], some [Sg.a (Sz.l 8) [Col.i IntKind.u64 x2]], some [Sg.a (Sz.l 8) [Col.i IntKind.u64 x3]], some [Sg.a (Sz.l 8) [Col.i IntKind.u64 x4]],
      some [Sg.a (Sz.l 8) [Col.i IntKind.u64 x5]], some [Sg.a (Sz.l 8) [Col.i IntKind.u64 x6]]]
    []) = L_astrolaberef1_divide_0 (x0, x1, x2, x3, x4, x5, x6) (fun d => K (AX.ex 0) (St.mk
  [AV.und, AV.und, AV.r (RV.c (CV.ptr 0 (Off.k 0) 8)), AV.r (RV.c (CV.ptr 1 (Off.k 0) 8)), AV.r (RV.c (CV.ptr 2 (Off.k 0) 8)), AV.r (RV.c (CV.ptr 3 (Off.k 0) 8)), AV.r (RV.c (CV.ptr 4 (Off.k 0) 8)),
    AV.r (RV.c (CV.ptr 5 (Off.k 0) 8)), AV.r (RV.c (CV.f (FV.i IntKind.i64 d.1))), AV.r (RV.c (CV.f (FV.i IntKind.i64 d.1))), AV.r (RV.c (CV.f (FV.b d.2.1))), AV.und, AV.und, AV.und, AV.und,
    AV.und, AV.und, AV.und, AV.und, AV.und, AV.und, AV.und, AV.und, AV.und, AV.und, AV.und, AV.und, AV.und, AV.und, AV.und, AV.und, AV.und, AV.und, AV.und, AV.und, AV.und, AV.und, AV.und, AV.und,
    AV.und, AV.und, AV.und, AV.und, AV.und]
  [some [Sg.a (Sz.l 8) [Col.i IntKind.u64 d.2.2.1]], some [Sg.a (Sz.l 8) [Col.i IntKind.u64 d.2.2.2.1]], some [Sg.a (Sz.l 8) [Col.i IntKind.u64 d.2.2.2.2.1]],
    some [Sg.a (Sz.l 8) [Col.i IntKind.u64 d.2.2.2.2.2.1]], some [Sg.a (Sz.l 8) [Col.i IntKind.u64 d.2.2.2.2.2.2.1]],
    some [Sg.a (Sz.l 8) [Col.i IntKind.u64 d.2.2.2.2.2.2.2]]]
  [])) :=
  iter_loopX (emb := fun (d : Int × (Nat → Int) × (Nat → Int) × (Nat → Int) × (Nat → Int) × (Nat → Int) × (Nat → Int)) => St.mk
  [AV.und, AV.und, AV.r (RV.c (CV.ptr 0 (Off.k 0) 8)), AV.r (RV.c (CV.ptr 1 (Off.k 0) 8)), AV.r (RV.c (CV.ptr 2 (Off.k 0) 8)), AV.r (RV.c (CV.ptr 3 (Off.k 0) 8)), AV.r (RV.c (CV.ptr 4 (Off.k 0) 8)),
    AV.r (RV.c (CV.ptr 5 (Off.k 0) 8)), AV.r (RV.c (CV.f (FV.i IntKind.i64 d.1))), AV.und, AV.und, AV.und, AV.und, AV.und, AV.und, AV.und, AV.und, AV.und, AV.und, AV.und, AV.und, AV.und, AV.und,
    AV.und, AV.und, AV.und, AV.und, AV.und, AV.und, AV.und, AV.und, AV.und, AV.und, AV.und, AV.und, AV.und, AV.und, AV.und, AV.und, AV.und, AV.und, AV.und, AV.und, AV.und]
  [some [Sg.a (Sz.l 8) [Col.i IntKind.u64 d.2.1]], some [Sg.a (Sz.l 8) [Col.i IntKind.u64 d.2.2.1]], some [Sg.a (Sz.l 8) [Col.i IntKind.u64 d.2.2.2.1]],
    some [Sg.a (Sz.l 8) [Col.i IntKind.u64 d.2.2.2.2.1]], some [Sg.a (Sz.l 8) [Col.i IntKind.u64 d.2.2.2.2.2.1]],
    some [Sg.a (Sz.l 8) [Col.i IntKind.u64 d.2.2.2.2.2.2]]]
  []) (step := fun d c x => S_astrolaberef1_divide_0 f_astrolaberef1_plus f_astrolaberef1_bit f_astrolaberef1_less f_astrolaberef1_minus  d.1 d.2.1 d.2.2.1 d.2.2.2.1 d.2.2.2.2.1 d.2.2.2.2.2.1 d.2.2.2.2.2.2 c x) (kx := (fun d => K (AX.ex 0) (St.mk
  [AV.und, AV.und, AV.r (RV.c (CV.ptr 0 (Off.k 0) 8)), AV.r (RV.c (CV.ptr 1 (Off.k 0) 8)), AV.r (RV.c (CV.ptr 2 (Off.k 0) 8)), AV.r (RV.c (CV.ptr 3 (Off.k 0) 8)), AV.r (RV.c (CV.ptr 4 (Off.k 0) 8)),
    AV.r (RV.c (CV.ptr 5 (Off.k 0) 8)), AV.r (RV.c (CV.f (FV.i IntKind.i64 d.1))), AV.r (RV.c (CV.f (FV.i IntKind.i64 d.1))), AV.r (RV.c (CV.f (FV.b d.2.1))), AV.und, AV.und, AV.und, AV.und,
    AV.und, AV.und, AV.und, AV.und, AV.und, AV.und, AV.und, AV.und, AV.und, AV.und, AV.und, AV.und, AV.und, AV.und, AV.und, AV.und, AV.und, AV.und, AV.und, AV.und, AV.und, AV.und, AV.und, AV.und,
    AV.und, AV.und, AV.und, AV.und, AV.und]
  [some [Sg.a (Sz.l 8) [Col.i IntKind.u64 d.2.2.1]], some [Sg.a (Sz.l 8) [Col.i IntKind.u64 d.2.2.2.1]], some [Sg.a (Sz.l 8) [Col.i IntKind.u64 d.2.2.2.2.1]],
    some [Sg.a (Sz.l 8) [Col.i IntKind.u64 d.2.2.2.2.2.1]], some [Sg.a (Sz.l 8) [Col.i IntKind.u64 d.2.2.2.2.2.2.1]],
    some [Sg.a (Sz.l 8) [Col.i IntKind.u64 d.2.2.2.2.2.2.2]]]
  [])))
    (fun d c => ds_astrolaberef1_divide_0 f_astrolaberef1_plus f_astrolaberef1_bit f_astrolaberef1_less f_astrolaberef1_minus (@L_astrolaberef1_divide_0) d.1 d.2.1 d.2.2.1 d.2.2.2.1 d.2.2.2.2.1 d.2.2.2.2.2.1 d.2.2.2.2.2.2 c K) 300 (x0, x1, x2, x3, x4, x5, x6)
theorem so_astrolaberef1_divide_0 : ∀ kk, SumOK Try.prog (envOf [(60, F_astrolaberef1_plus f_astrolaberef1_plus), (90, F_astrolaberef1_bit f_astrolaberef1_bit), (61, F_astrolaberef1_less f_astrolaberef1_less), (62, F_astrolaberef1_minus f_astrolaberef1_minus)]) ⟨[⟨4, [0, 1, 9, 10, 11, 12, 13, 14, 15, 16, 17, 18, 19, 20, 21, 22, 23, 24, 25, 26, 27, 28, 29, 30, 31, 32, 33, 34, 35, 36, 37, 38, 39, 40, 41, 42, 43], []⟩], [⟨4, 0, @R_astrolaberef1_divide_0 (@L_astrolaberef1_divide_0)⟩], [], [], (some ⟨0, [0, 1, 2, 3, 6, 7, 8, 9, 10, 11, 12, 13, 14, 15, 16, 17, 18, 19, 20, 21, 22, 23, 24, 25, 26, 27, 28, 29, 30, 31, 32, 33, 34, 35, 36, 37, 38, 39, 40, 41, 42, 43], []⟩)⟩ (tmpsOf Try.prog 65) kk 300 (loopIn Try.prog 65 4) :=
  SumOK.of (id := 4) (k0 := 0) (run := @R_astrolaberef1_divide_0 (@L_astrolaberef1_divide_0)) (by kernel_rfl) fun s K r hr => by
    unfold R_astrolaberef1_divide_0 at hr
    obtain ⟨b, hb, hr1⟩ := Option.bind_eq_some_iff.1 hr
    have e := ((Q_astrolaberef1_divide_0).ok s b hb).trans (q_astrolaberef1_divide_0 b)
    subst e
    exact ⟨300, (it_astrolaberef1_divide_0 b.1.2.2.2.2.2.2.2.2.1 b.2.1.1.1.2.1 b.2.1.2.1.1.2.1 b.2.1.2.2.1.1.2.1 b.2.1.2.2.2.1.1.2.1 b.2.1.2.2.2.2.1.1.2.1 b.2.1.2.2.2.2.2.1.1.2.1 K).trans hr1⟩
def K_astrolaberef1_divide {ρ : Type} (g_astrolaberef1_plus : (Nat → Int) → (Nat → Int) → Option (Nat → Int)) (g_astrolaberef1_bit : (Nat → Int) → Int → Option Int) (g_astrolaberef1_less : (Nat → Int) → (Nat → Int) → Option Bool) (g_astrolaberef1_minus : (Nat → Int) → (Nat → Int) → Option (Nat → Int)) (l_0 : ∀ {ρ : Type}, (Int × (Nat → Int) × (Nat → Int) × (Nat → Int) × (Nat → Int) × (Nat → Int) × (Nat → Int)) → ((Int × Bool × (Nat → Int) × (Nat → Int) × (Nat → Int) × (Nat → Int) × (Nat → Int) × (Nat → Int)) → Option ρ) → Option ρ) (x0 : Nat → Int) (x1 : Nat → Int) (k : ((Nat → Int) × (Nat → Int)) → Option ρ) : Option ρ :=
  l_0 (255, x0, x1, fun (x : Nat) => 0, fun (x : Nat) => 0, fun (x : Nat) => 0, fun (x : Nat) => 0)
    fun (d : Int × Bool × (Nat → Int) × (Nat → Int) × (Nat → Int) × (Nat → Int) × (Nat → Int) × (Nat → Int)) => k (d.2.2.2.2.2.2.1, d.2.2.2.2.2.2.2)
def f_astrolaberef1_divide (x0 : Nat → Int) (x1 : Nat → Int) : Option ((Nat → Int) × (Nat → Int)) := K_astrolaberef1_divide f_astrolaberef1_plus f_astrolaberef1_bit f_astrolaberef1_less f_astrolaberef1_minus (@L_astrolaberef1_divide_0) x0 x1 some
section
open Go.Ab.Rdr
def QA_astrolaberef1_divide := ((pair (cons (ar (ra (cons (ga (szl (nat 8)) (cons (ki .u64 hole) nil)) nil))) (cons (ar (ra (cons (ga (szl (nat 8)) (cons (ki .u64 hole) nil)) nil))) nil)) nil) : Rdr (List AV × List Blk) _)
end
def F_astrolaberef1_divide (f : (Nat → Int) → (Nat → Int) → Option ((Nat → Int) × (Nat → Int))) : Sem1 := fun args h => match (QA_astrolaberef1_divide).rd (args, h) with
  | some b => .opt (f b.1.1.1.2.1 b.1.2.1.1.2.1) fun (d : (Nat → Int) × (Nat → Int)) => .leaf (Res.mk (AV.tup [RV.agg [Sg.a (Sz.l 8) [Col.i IntKind.u64 d.1]], RV.agg [Sg.a (Sz.l 8) [Col.i IntKind.u64 d.2]]]) [] [])
  | none => .fail
theorem d_astrolaberef1_divide (g_astrolaberef1_plus : (Nat → Int) → (Nat → Int) → Option (Nat → Int)) (g_astrolaberef1_bit : (Nat → Int) → Int → Option Int) (g_astrolaberef1_less : (Nat → Int) → (Nat → Int) → Option Bool) (g_astrolaberef1_minus : (Nat → Int) → (Nat → Int) → Option (Nat → Int)) (l_0 : ∀ {ρ : Type}, (Int × (Nat → Int) × (Nat → Int) × (Nat → Int) × (Nat → Int) × (Nat → Int) × (Nat → Int)) → ((Int × Bool × (Nat → Int) × (Nat → Int) × (Nat → Int) × (Nat → Int) × (Nat → Int) × (Nat → Int)) → Option ρ) → Option ρ) (x0 : Nat → Int) (x1 : Nat → Int) : den Try.prog (envOf [(60, F_astrolaberef1_plus g_astrolaberef1_plus), (90, F_astrolaberef1_bit g_astrolaberef1_bit), (61, F_astrolaberef1_less g_astrolaberef1_less), (62, F_astrolaberef1_minus g_astrolaberef1_minus)]) ⟨[⟨4, [0, 1, 9, 10, 11, 12, 13, 14, 15, 16, 17, 18, 19, 20, 21, 22, 23, 24, 25, 26, 27, 28, 29, 30, 31, 32, 33, 34, 35, 36, 37, 38, 39, 40, 41, 42, 43], []⟩], [⟨4, 0, @R_astrolaberef1_divide_0 (@l_0)⟩], [], [], (some ⟨0, [0, 1, 2, 3, 6, 7, 8, 9, 10, 11, 12, 13, 14, 15, 16, 17, 18, 19, 20, 21, 22, 23, 24, 25, 26, 27, 28, 29, 30, 31, 32, 33, 34, 35, 36, 37, 38, 39, 40, 41, 42, 43], []⟩)⟩ 300 65 [.r (.agg [.a (.l 8) [.i .u64 x0]]), .r (.agg [.a (.l 8) [.i .u64 x1]])] [] =
    K_astrolaberef1_divide g_astrolaberef1_plus g_astrolaberef1_bit g_astrolaberef1_less g_astrolaberef1_minus (@l_0) x0 x1 (fun (d : (Nat → Int) × (Nat → Int)) => some (Res.mk (AV.tup [RV.agg [Sg.a (Sz.l 8) [Col.i IntKind.u64 d.1]], RV.agg [Sg.a (Sz.l 8) [Col.i IntKind.u64 d.2]]]) [] [])) := by kernel_rfl
theorem m_astrolaberef1_divide {ρ σ : Type} (q : ρ → Option σ) (g_astrolaberef1_plus : (Nat → Int) → (Nat → Int) → Option (Nat → Int)) (g_astrolaberef1_bit : (Nat → Int) → Int → Option Int) (g_astrolaberef1_less : (Nat → Int) → (Nat → Int) → Option Bool) (g_astrolaberef1_minus : (Nat → Int) → (Nat → Int) → Option (Nat → Int)) (l_0 : ∀ {ρ : Type}, (Int × (Nat → Int) × (Nat → Int) × (Nat → Int) × (Nat → Int) × (Nat → Int) × (Nat → Int)) → ((Int × Bool × (Nat → Int) × (Nat → Int) × (Nat → Int) × (Nat → Int) × (Nat → Int) × (Nat → Int)) → Option ρ) → Option ρ) (hl_0 : ∀ {ρ σ : Type} (q : ρ → Option σ) (d : Int × (Nat → Int) × (Nat → Int) × (Nat → Int) × (Nat → Int) × (Nat → Int) × (Nat → Int)) (k : (Int × Bool × (Nat → Int) × (Nat → Int) × (Nat → Int) × (Nat → Int) × (Nat → Int) × (Nat → Int)) → Option ρ), (l_0 d k).bind q = l_0 d fun x => (k x).bind q) (x0 : Nat → Int) (x1 : Nat → Int) (k : ((Nat → Int) × (Nat → Int)) → Option ρ) : (K_astrolaberef1_divide g_astrolaberef1_plus g_astrolaberef1_bit g_astrolaberef1_less g_astrolaberef1_minus (@l_0) x0 x1 k).bind q = K_astrolaberef1_divide g_astrolaberef1_plus g_astrolaberef1_bit g_astrolaberef1_less g_astrolaberef1_minus (@l_0) x0 x1 (fun d => (k d).bind q) := by
  simp only [K_astrolaberef1_divide, bnd_cond, bnd_bind, bnd_none, bnd_sum, hl_0]
theorem qa_astrolaberef1_divide : ∀ b, (QA_astrolaberef1_divide).em b = ([.r (.agg [.a (.l 8) [.i .u64 b.1.1.1.2.1]]), .r (.agg [.a (.l 8) [.i .u64 b.1.2.1.1.2.1]])], []) := fun b => by kernel_rfl
theorem e_astrolaberef1_divide {f : (Nat → Int) → (Nat → Int) → Option ((Nat → Int) × (Nat → Int))} {args : List AV} {h : List Blk} {r : Res} (hr : (F_astrolaberef1_divide f args h).eval = some r) : ∃ x0 x1, args = [.r (.agg [.a (.l 8) [.i .u64 x0]]), .r (.agg [.a (.l 8) [.i .u64 x1]])] ∧ h = [] ∧ (f x0 x1).bind (fun (d : (Nat → Int) × (Nat → Int)) => some (Res.mk (AV.tup [RV.agg [Sg.a (Sz.l 8) [Col.i IntKind.u64 d.1]], RV.agg [Sg.a (Sz.l 8) [Col.i IntKind.u64 d.2]]]) [] [])) = some r := by
  unfold F_astrolaberef1_divide at hr
  split at hr
  · rename_i b hb
    have e := ((QA_astrolaberef1_divide).ok _ _ hb).trans (qa_astrolaberef1_divide b)
    rw [opt_eval2] at hr
    exact ⟨b.1.1.1.2.1, b.1.2.1.1.2.1, (Prod.mk.inj e).1, (Prod.mk.inj e).2, hr⟩
  · cases hr
theorem n_astrolaberef1_divide {σ : Type} (q : ((Nat → Int) × (Nat → Int)) → Option σ) (x0 : Nat → Int) (x1 : Nat → Int) : (f_astrolaberef1_divide x0 x1).bind q = K_astrolaberef1_divide f_astrolaberef1_plus f_astrolaberef1_bit f_astrolaberef1_less f_astrolaberef1_minus (@L_astrolaberef1_divide_0) x0 x1 q := by
  unfold f_astrolaberef1_divide
  exact m_astrolaberef1_divide q f_astrolaberef1_plus f_astrolaberef1_bit f_astrolaberef1_less f_astrolaberef1_minus (@L_astrolaberef1_divide_0) (fun q d k => mL_astrolaberef1_divide_0 q d k) x0 x1 some
theorem s_astrolaberef1_divide : Sound Try.prog 65 (F_astrolaberef1_divide f_astrolaberef1_divide) :=
  (inl_sums (l := [(60, F_astrolaberef1_plus f_astrolaberef1_plus), (90, F_astrolaberef1_bit f_astrolaberef1_bit), (61, F_astrolaberef1_less f_astrolaberef1_less), (62, F_astrolaberef1_minus f_astrolaberef1_minus)]) (.cons s_astrolaberef1_plus (.cons s_astrolaberef1_bit (.cons s_astrolaberef1_less (.cons s_astrolaberef1_minus (.nil _))))) mixed (hs := ⟨[⟨4, [0, 1, 9, 10, 11, 12, 13, 14, 15, 16, 17, 18, 19, 20, 21, 22, 23, 24, 25, 26, 27, 28, 29, 30, 31, 32, 33, 34, 35, 36, 37, 38, 39, 40, 41, 42, 43], []⟩], [⟨4, 0, @R_astrolaberef1_divide_0 (@L_astrolaberef1_divide_0)⟩], [], [], (some ⟨0, [0, 1, 2, 3, 6, 7, 8, 9, 10, 11, 12, 13, 14, 15, 16, 17, 18, 19, 20, 21, 22, 23, 24, 25, 26, 27, 28, 29, 30, 31, 32, 33, 34, 35, 36, 37, 38, 39, 40, 41, 42, 43], []⟩)⟩) (lf := 300) (Sums.by (l := [loopIn Try.prog 65 4]) (lj := []) (by kernel_rfl) ⟨so_astrolaberef1_divide_0, trivial⟩ (by kernel_rfl) trivial) (by kernel_rfl)).by (F := F_astrolaberef1_divide f_astrolaberef1_divide) fun args b r hr => by
  obtain ⟨x0, x1, rfl, rfl, hr1⟩ := e_astrolaberef1_divide hr
  exact inl_eval ((d_astrolaberef1_divide f_astrolaberef1_plus f_astrolaberef1_bit f_astrolaberef1_less f_astrolaberef1_minus (@L_astrolaberef1_divide_0) x0 x1).trans ((n_astrolaberef1_divide (fun (d : (Nat → Int) × (Nat → Int)) => some (Res.mk (AV.tup [RV.agg [Sg.a (Sz.l 8) [Col.i IntKind.u64 d.1]], RV.agg [Sg.a (Sz.l 8) [Col.i IntKind.u64 d.2]]]) [] [])) x0 x1).symm.trans hr1))

def K_astrolaberef1_Div {ρ : Type} (g_astrolaberef1_divide : (Nat → Int) → (Nat → Int) → Option ((Nat → Int) × (Nat → Int))) (g_astrolaberef1_plus : (Nat → Int) → (Nat → Int) → Option (Nat → Int)) (g_astrolaberef1_less : (Nat → Int) → (Nat → Int) → Option Bool) (g_astrolaberef1_made : Bool → (Nat → Int) → Option (Bool × (Nat → Int)))  (x0 : Bool) (x1 : Nat → Int) (x2 : Bool) (x3 : Nat → Int) (k : (Bool × (Nat → Int)) → Option ρ) : Option ρ :=
  Option.bind (g_astrolaberef1_divide x1 x3) fun (d : (Nat → Int) × (Nat → Int)) =>
    Option.bind (g_astrolaberef1_plus d.2 d.2) fun (d_1 : Nat → Int) =>
      Option.bind (g_astrolaberef1_less d_1 x3) fun (d_2 : Bool) =>
        bif !d_2 then
          Option.bind (g_astrolaberef1_plus d.1 fun (j : Nat) => bif Nat.beq j 0 then 1 else 0) fun (d : Nat → Int) =>
            Option.bind (g_astrolaberef1_made (!x0 == x2) d) fun (d : Bool × (Nat → Int)) => k (d.1, d.2)
        else Option.bind (g_astrolaberef1_made (!x0 == x2) d.1) fun (d : Bool × (Nat → Int)) => k (d.1, d.2)
def f_astrolaberef1_Div (x0 : Bool) (x1 : Nat → Int) (x2 : Bool) (x3 : Nat → Int) : Option (Bool × (Nat → Int)) := K_astrolaberef1_Div f_astrolaberef1_divide f_astrolaberef1_plus f_astrolaberef1_less f_astrolaberef1_made  x0 x1 x2 x3 some
section
open Go.Ab.Rdr
def QA_astrolaberef1_Div := ((pair (cons (ar (ra (cons (gc (cf (fb hole))) (cons (ga (szl (nat 8)) (cons (ki .u64 hole) nil)) nil)))) (cons (ar (ra (cons (gc (cf (fb hole))) (cons (ga (szl (nat 8)) (cons (ki .u64 hole) nil)) nil)))) nil)) nil) : Rdr (List AV × List Blk) _)
end
def F_astrolaberef1_Div (f : (Bool) → (Nat → Int) → (Bool) → (Nat → Int) → Option (Bool × (Nat → Int))) : Sem1 := fun args h => match (QA_astrolaberef1_Div).rd (args, h) with
  | some b => .opt (f b.1.1.1 b.1.1.2.1.2.1 b.1.2.1.1 b.1.2.1.2.1.2.1) fun (d : Bool × (Nat → Int)) => .leaf (Res.mk (AV.r (RV.agg [Sg.c (CV.f (FV.b d.1)), Sg.a (Sz.l 8) [Col.i IntKind.u64 d.2]])) [] [])
  | none => .fail
theorem d_astrolaberef1_Div (g_astrolaberef1_divide : (Nat → Int) → (Nat → Int) → Option ((Nat → Int) × (Nat → Int))) (g_astrolaberef1_plus : (Nat → Int) → (Nat → Int) → Option (Nat → Int)) (g_astrolaberef1_less : (Nat → Int) → (Nat → Int) → Option Bool) (g_astrolaberef1_made : Bool → (Nat → Int) → Option (Bool × (Nat → Int)))  (x0 : Bool) (x1 : Nat → Int) (x2 : Bool) (x3 : Nat → Int) : den Try.prog (envOf [(65, F_astrolaberef1_divide g_astrolaberef1_divide), (60, F_astrolaberef1_plus g_astrolaberef1_plus), (61, F_astrolaberef1_less g_astrolaberef1_less), (58, F_astrolaberef1_made g_astrolaberef1_made)]) ⟨[], [], [], [], none⟩ 300 35 [.r (.agg [.c (.f (.b x0)), .a (.l 8) [.i .u64 x1]]), .r (.agg [.c (.f (.b x2)), .a (.l 8) [.i .u64 x3]])] [] =
    K_astrolaberef1_Div g_astrolaberef1_divide g_astrolaberef1_plus g_astrolaberef1_less g_astrolaberef1_made  x0 x1 x2 x3 (fun (d : Bool × (Nat → Int)) => some (Res.mk (AV.r (RV.agg [Sg.c (CV.f (FV.b d.1)), Sg.a (Sz.l 8) [Col.i IntKind.u64 d.2]])) [] [])) := by kernel_rfl
theorem m_astrolaberef1_Div {ρ σ : Type} (q : ρ → Option σ) (g_astrolaberef1_divide : (Nat → Int) → (Nat → Int) → Option ((Nat → Int) × (Nat → Int))) (g_astrolaberef1_plus : (Nat → Int) → (Nat → Int) → Option (Nat → Int)) (g_astrolaberef1_less : (Nat → Int) → (Nat → Int) → Option Bool) (g_astrolaberef1_made : Bool → (Nat → Int) → Option (Bool × (Nat → Int)))   (x0 : Bool) (x1 : Nat → Int) (x2 : Bool) (x3 : Nat → Int) (k : (Bool × (Nat → Int)) → Option ρ) : (K_astrolaberef1_Div g_astrolaberef1_divide g_astrolaberef1_plus g_astrolaberef1_less g_astrolaberef1_made  x0 x1 x2 x3 k).bind q = K_astrolaberef1_Div g_astrolaberef1_divide g_astrolaberef1_plus g_astrolaberef1_less g_astrolaberef1_made  x0 x1 x2 x3 (fun d => (k d).bind q) := by
  simp only [K_astrolaberef1_Div, bnd_cond, bnd_bind, bnd_none, bnd_sum]
theorem qa_astrolaberef1_Div : ∀ b, (QA_astrolaberef1_Div).em b = ([.r (.agg [.c (.f (.b b.1.1.1)), .a (.l 8) [.i .u64 b.1.1.2.1.2.1]]), .r (.agg [.c (.f (.b b.1.2.1.1)), .a (.l 8) [.i .u64 b.1.2.1.2.1.2.1]])], []) := fun b => by kernel_rfl
theorem e_astrolaberef1_Div {f : (Bool) → (Nat → Int) → (Bool) → (Nat → Int) → Option (Bool × (Nat → Int))} {args : List AV} {h : List Blk} {r : Res} (hr : (F_astrolaberef1_Div f args h).eval = some r) : ∃ x0 x1 x2 x3, args = [.r (.agg [.c (.f (.b x0)), .a (.l 8) [.i .u64 x1]]), .r (.agg [.c (.f (.b x2)), .a (.l 8) [.i .u64 x3]])] ∧ h = [] ∧ (f x0 x1 x2 x3).bind (fun (d : Bool × (Nat → Int)) => some (Res.mk (AV.r (RV.agg [Sg.c (CV.f (FV.b d.1)), Sg.a (Sz.l 8) [Col.i IntKind.u64 d.2]])) [] [])) = some r := by
  unfold F_astrolaberef1_Div at hr
  split at hr
  · rename_i b hb
    have e := ((QA_astrolaberef1_Div).ok _ _ hb).trans (qa_astrolaberef1_Div b)
    rw [opt_eval2] at hr
    exact ⟨b.1.1.1, b.1.1.2.1.2.1, b.1.2.1.1, b.1.2.1.2.1.2.1, (Prod.mk.inj e).1, (Prod.mk.inj e).2, hr⟩
  · cases hr
theorem n_astrolaberef1_Div {σ : Type} (q : (Bool × (Nat → Int)) → Option σ) (x0 : Bool) (x1 : Nat → Int) (x2 : Bool) (x3 : Nat → Int) : (f_astrolaberef1_Div x0 x1 x2 x3).bind q = K_astrolaberef1_Div f_astrolaberef1_divide f_astrolaberef1_plus f_astrolaberef1_less f_astrolaberef1_made  x0 x1 x2 x3 q := by
  unfold f_astrolaberef1_Div
  exact m_astrolaberef1_Div q f_astrolaberef1_divide f_astrolaberef1_plus f_astrolaberef1_less f_astrolaberef1_made   x0 x1 x2 x3 some
theorem s_astrolaberef1_Div : Sound Try.prog 35 (F_astrolaberef1_Div f_astrolaberef1_Div) :=
  (inl_sound (l := [(65, F_astrolaberef1_divide f_astrolaberef1_divide), (60, F_astrolaberef1_plus f_astrolaberef1_plus), (61, F_astrolaberef1_less f_astrolaberef1_less), (58, F_astrolaberef1_made f_astrolaberef1_made)]) (.cons s_astrolaberef1_divide (.cons s_astrolaberef1_plus (.cons s_astrolaberef1_less (.cons s_astrolaberef1_made (.nil _))))) mixed [] [] 300 (by kernel_rfl)).by (F := F_astrolaberef1_Div f_astrolaberef1_Div) fun args b r hr => by
  obtain ⟨x0, x1, x2, x3, rfl, rfl, hr1⟩ := e_astrolaberef1_Div hr
  exact inl_eval ((d_astrolaberef1_Div f_astrolaberef1_divide f_astrolaberef1_plus f_astrolaberef1_less f_astrolaberef1_made  x0 x1 x2 x3).trans ((n_astrolaberef1_Div (fun (d : Bool × (Nat → Int)) => some (Res.mk (AV.r (RV.agg [Sg.c (CV.f (FV.b d.1)), Sg.a (Sz.l 8) [Col.i IntKind.u64 d.2]])) [] [])) x0 x1 x2 x3).symm.trans hr1))

end Go.Proofs.Ytcalippagaaikaa
