/-
  Contracts by plain functions: vec.Cross, astrolabelaw5.awake, astrolabelaw5.VecKnown
-/
import Derived.Test.YthbnojedlbeglaaV1
set_option maxRecDepth 100000
set_option maxHeartbeats 4000000
set_option linter.unusedVariables false
namespace Go.Proofs.Ythbnojedlbeglaa
open Go.Ab
def S_vec_Cross_0 {ρ : Type} (g_vec_Sat : Int → Int → Int → Bool → Option (Int × Int × Int × Bool)) (g___fx_Acc__Dot : Int → Nat → Nat → Bool → (Nat → Int) → (Nat → Int) → Bool → Bool → Option (Int × Bool))  (x0 : Int) (x1 : Bool) (x2 : Int) (x3 : Int) (x4 : Int) (x5 : Int) (x6 : Int) (x7 : Int) (x8 : Int) (x9 : Int) (x10 : Int) (c : (Int × Bool × Int × Int × Int × Int × Int × Int × Int × Int × Int) → Option ρ) (x : (Int × Bool × Bool × Int × Int × Int × Int × Int × Int × Int × Int × Int) → Option ρ) : Option ρ :=
  bif decide (x0 < 3) then
    bif inR (Int.tmod (IntKind.wrap IntKind.i64 (x0 + 1)) 3) 3 then
      bif Int.tmod (IntKind.wrap IntKind.i64 (x0 + 1)) 3 == 2 then
        bif inR (Int.tmod (IntKind.wrap IntKind.i64 (x0 + 2)) 3) 3 then
          bif Int.tmod (IntKind.wrap IntKind.i64 (x0 + 2)) 3 == 2 then
            bif inR (Int.tmod (IntKind.wrap IntKind.i64 (x0 + 2)) 3) 3 then
              bif Int.tmod (IntKind.wrap IntKind.i64 (x0 + 2)) 3 == 2 then
                bif inR (Int.tmod (IntKind.wrap IntKind.i64 (x0 + 1)) 3) 3 then
                  bif Int.tmod (IntKind.wrap IntKind.i64 (x0 + 1)) 3 == 2 then
                    Option.bind
                      (g___fx_Acc__Dot 30 2 2 x1 (fun (j : Nat) => bif Nat.beq j 1 then IntKind.wrap IntKind.i64 (0 - x4) else bif Nat.beq j 0 then x4 else x4)
                        (fun (j : Nat) => bif Nat.beq j 1 then x7 else bif Nat.beq j 0 then x7 else x7) true true)
                      fun (d : Int × Bool) =>
                      bif inR x0 3 then
                        bif x0 == 2 then c (IntKind.wrap IntKind.i64 (x0 + 1), d.2, x2, x3, x4, x5, x6, x7, x8, x9, d.1)
                        else
                          bif x0 == 1 then c (IntKind.wrap IntKind.i64 (x0 + 1), d.2, x2, x3, x4, x5, x6, x7, x8, d.1, x10)
                          else c (IntKind.wrap IntKind.i64 (x0 + 1), d.2, x2, x3, x4, x5, x6, x7, d.1, x9, x10)
                      else none
                  else
                    bif Int.tmod (IntKind.wrap IntKind.i64 (x0 + 1)) 3 == 1 then
                      Option.bind
                        (g___fx_Acc__Dot 30 2 2 x1 (fun (j : Nat) => bif Nat.beq j 1 then IntKind.wrap IntKind.i64 (0 - x4) else bif Nat.beq j 0 then x4 else x4)
                          (fun (j : Nat) => bif Nat.beq j 1 then x6 else bif Nat.beq j 0 then x7 else x7) true true)
                        fun (d : Int × Bool) =>
                        bif inR x0 3 then
                          bif x0 == 2 then c (IntKind.wrap IntKind.i64 (x0 + 1), d.2, x2, x3, x4, x5, x6, x7, x8, x9, d.1)
                          else
                            bif x0 == 1 then c (IntKind.wrap IntKind.i64 (x0 + 1), d.2, x2, x3, x4, x5, x6, x7, x8, d.1, x10)
                            else c (IntKind.wrap IntKind.i64 (x0 + 1), d.2, x2, x3, x4, x5, x6, x7, d.1, x9, x10)
                        else none
                    else
                      Option.bind
                        (g___fx_Acc__Dot 30 2 2 x1 (fun (j : Nat) => bif Nat.beq j 1 then IntKind.wrap IntKind.i64 (0 - x4) else bif Nat.beq j 0 then x4 else x4)
                          (fun (j : Nat) => bif Nat.beq j 1 then x5 else bif Nat.beq j 0 then x7 else x7) true true)
                        fun (d : Int × Bool) =>
                        bif inR x0 3 then
                          bif x0 == 2 then c (IntKind.wrap IntKind.i64 (x0 + 1), d.2, x2, x3, x4, x5, x6, x7, x8, x9, d.1)
                          else
                            bif x0 == 1 then c (IntKind.wrap IntKind.i64 (x0 + 1), d.2, x2, x3, x4, x5, x6, x7, x8, d.1, x10)
                            else c (IntKind.wrap IntKind.i64 (x0 + 1), d.2, x2, x3, x4, x5, x6, x7, d.1, x9, x10)
                        else none
                else none
              else
                bif Int.tmod (IntKind.wrap IntKind.i64 (x0 + 2)) 3 == 1 then
                  bif inR (Int.tmod (IntKind.wrap IntKind.i64 (x0 + 1)) 3) 3 then
                    bif Int.tmod (IntKind.wrap IntKind.i64 (x0 + 1)) 3 == 2 then
                      Option.bind
                        (g___fx_Acc__Dot 30 2 2 x1 (fun (j : Nat) => bif Nat.beq j 1 then IntKind.wrap IntKind.i64 (0 - x4) else bif Nat.beq j 0 then x4 else x4)
                          (fun (j : Nat) => bif Nat.beq j 1 then x7 else bif Nat.beq j 0 then x6 else x6) true true)
                        fun (d : Int × Bool) =>
                        bif inR x0 3 then
                          bif x0 == 2 then c (IntKind.wrap IntKind.i64 (x0 + 1), d.2, x2, x3, x4, x5, x6, x7, x8, x9, d.1)
                          else
                            bif x0 == 1 then c (IntKind.wrap IntKind.i64 (x0 + 1), d.2, x2, x3, x4, x5, x6, x7, x8, d.1, x10)
                            else c (IntKind.wrap IntKind.i64 (x0 + 1), d.2, x2, x3, x4, x5, x6, x7, d.1, x9, x10)
                        else none
                    else
                      bif Int.tmod (IntKind.wrap IntKind.i64 (x0 + 1)) 3 == 1 then
                        Option.bind
                          (g___fx_Acc__Dot 30 2 2 x1 (fun (j : Nat) => bif Nat.beq j 1 then IntKind.wrap IntKind.i64 (0 - x4) else bif Nat.beq j 0 then x4 else x4)
                            (fun (j : Nat) => bif Nat.beq j 1 then x6 else bif Nat.beq j 0 then x6 else x6) true true)
                          fun (d : Int × Bool) =>
                          bif inR x0 3 then
                            bif x0 == 2 then c (IntKind.wrap IntKind.i64 (x0 + 1), d.2, x2, x3, x4, x5, x6, x7, x8, x9, d.1)
                            else
                              bif x0 == 1 then c (IntKind.wrap IntKind.i64 (x0 + 1), d.2, x2, x3, x4, x5, x6, x7, x8, d.1, x10)
                              else c (IntKind.wrap IntKind.i64 (x0 + 1), d.2, x2, x3, x4, x5, x6, x7, d.1, x9, x10)
                          else none
                      else
                        Option.bind
                          (g___fx_Acc__Dot 30 2 2 x1 (fun (j : Nat) => bif Nat.beq j 1 then IntKind.wrap IntKind.i64 (0 - x4) else bif Nat.beq j 0 then x4 else x4)
                            (fun (j : Nat) => bif Nat.beq j 1 then x5 else bif Nat.beq j 0 then x6 else x6) true true)
                          fun (d : Int × Bool) =>
                          bif inR x0 3 then
                            bif x0 == 2 then c (IntKind.wrap IntKind.i64 (x0 + 1), d.2, x2, x3, x4, x5, x6, x7, x8, x9, d.1)
                            else
                              bif x0 == 1 then c (IntKind.wrap IntKind.i64 (x0 + 1), d.2, x2, x3, x4, x5, x6, x7, x8, d.1, x10)
                              else c (IntKind.wrap IntKind.i64 (x0 + 1), d.2, x2, x3, x4, x5, x6, x7, d.1, x9, x10)
                          else none
                  else none
                else
                  bif inR (Int.tmod (IntKind.wrap IntKind.i64 (x0 + 1)) 3) 3 then
                    bif Int.tmod (IntKind.wrap IntKind.i64 (x0 + 1)) 3 == 2 then
                      Option.bind
                        (g___fx_Acc__Dot 30 2 2 x1 (fun (j : Nat) => bif Nat.beq j 1 then IntKind.wrap IntKind.i64 (0 - x4) else bif Nat.beq j 0 then x4 else x4)
                          (fun (j : Nat) => bif Nat.beq j 1 then x7 else bif Nat.beq j 0 then x5 else x5) true true)
                        fun (d : Int × Bool) =>
                        bif inR x0 3 then
                          bif x0 == 2 then c (IntKind.wrap IntKind.i64 (x0 + 1), d.2, x2, x3, x4, x5, x6, x7, x8, x9, d.1)
                          else
                            bif x0 == 1 then c (IntKind.wrap IntKind.i64 (x0 + 1), d.2, x2, x3, x4, x5, x6, x7, x8, d.1, x10)
                            else c (IntKind.wrap IntKind.i64 (x0 + 1), d.2, x2, x3, x4, x5, x6, x7, d.1, x9, x10)
                        else none
                    else
                      bif Int.tmod (IntKind.wrap IntKind.i64 (x0 + 1)) 3 == 1 then
                        Option.bind
                          (g___fx_Acc__Dot 30 2 2 x1 (fun (j : Nat) => bif Nat.beq j 1 then IntKind.wrap IntKind.i64 (0 - x4) else bif Nat.beq j 0 then x4 else x4)
                            (fun (j : Nat) => bif Nat.beq j 1 then x6 else bif Nat.beq j 0 then x5 else x5) true true)
                          fun (d : Int × Bool) =>
                          bif inR x0 3 then
                            bif x0 == 2 then c (IntKind.wrap IntKind.i64 (x0 + 1), d.2, x2, x3, x4, x5, x6, x7, x8, x9, d.1)
                            else
                              bif x0 == 1 then c (IntKind.wrap IntKind.i64 (x0 + 1), d.2, x2, x3, x4, x5, x6, x7, x8, d.1, x10)
                              else c (IntKind.wrap IntKind.i64 (x0 + 1), d.2, x2, x3, x4, x5, x6, x7, d.1, x9, x10)
                          else none
                      else
                        Option.bind
                          (g___fx_Acc__Dot 30 2 2 x1 (fun (j : Nat) => bif Nat.beq j 1 then IntKind.wrap IntKind.i64 (0 - x4) else bif Nat.beq j 0 then x4 else x4)
                            (fun (j : Nat) => bif Nat.beq j 1 then x5 else bif Nat.beq j 0 then x5 else x5) true true)
                          fun (d : Int × Bool) =>
                          bif inR x0 3 then
                            bif x0 == 2 then c (IntKind.wrap IntKind.i64 (x0 + 1), d.2, x2, x3, x4, x5, x6, x7, x8, x9, d.1)
                            else
                              bif x0 == 1 then c (IntKind.wrap IntKind.i64 (x0 + 1), d.2, x2, x3, x4, x5, x6, x7, x8, d.1, x10)
                              else c (IntKind.wrap IntKind.i64 (x0 + 1), d.2, x2, x3, x4, x5, x6, x7, d.1, x9, x10)
                          else none
                  else none
            else none
          else
            bif Int.tmod (IntKind.wrap IntKind.i64 (x0 + 2)) 3 == 1 then
              bif inR (Int.tmod (IntKind.wrap IntKind.i64 (x0 + 2)) 3) 3 then
                bif Int.tmod (IntKind.wrap IntKind.i64 (x0 + 2)) 3 == 2 then
                  bif inR (Int.tmod (IntKind.wrap IntKind.i64 (x0 + 1)) 3) 3 then
                    bif Int.tmod (IntKind.wrap IntKind.i64 (x0 + 1)) 3 == 2 then
                      Option.bind
                        (g___fx_Acc__Dot 30 2 2 x1 (fun (j : Nat) => bif Nat.beq j 1 then IntKind.wrap IntKind.i64 (0 - x3) else bif Nat.beq j 0 then x4 else x4)
                          (fun (j : Nat) => bif Nat.beq j 1 then x7 else bif Nat.beq j 0 then x7 else x7) true true)
                        fun (d : Int × Bool) =>
                        bif inR x0 3 then
                          bif x0 == 2 then c (IntKind.wrap IntKind.i64 (x0 + 1), d.2, x2, x3, x4, x5, x6, x7, x8, x9, d.1)
                          else
                            bif x0 == 1 then c (IntKind.wrap IntKind.i64 (x0 + 1), d.2, x2, x3, x4, x5, x6, x7, x8, d.1, x10)
                            else c (IntKind.wrap IntKind.i64 (x0 + 1), d.2, x2, x3, x4, x5, x6, x7, d.1, x9, x10)
                        else none
                    else
                      bif Int.tmod (IntKind.wrap IntKind.i64 (x0 + 1)) 3 == 1 then
                        Option.bind
                          (g___fx_Acc__Dot 30 2 2 x1 (fun (j : Nat) => bif Nat.beq j 1 then IntKind.wrap IntKind.i64 (0 - x3) else bif Nat.beq j 0 then x4 else x4)
                            (fun (j : Nat) => bif Nat.beq j 1 then x6 else bif Nat.beq j 0 then x7 else x7) true true)
                          fun (d : Int × Bool) =>
                          bif inR x0 3 then
                            bif x0 == 2 then c (IntKind.wrap IntKind.i64 (x0 + 1), d.2, x2, x3, x4, x5, x6, x7, x8, x9, d.1)
                            else
                              bif x0 == 1 then c (IntKind.wrap IntKind.i64 (x0 + 1), d.2, x2, x3, x4, x5, x6, x7, x8, d.1, x10)
                              else c (IntKind.wrap IntKind.i64 (x0 + 1), d.2, x2, x3, x4, x5, x6, x7, d.1, x9, x10)
                          else none
                      else
                        Option.bind
                          (g___fx_Acc__Dot 30 2 2 x1 (fun (j : Nat) => bif Nat.beq j 1 then IntKind.wrap IntKind.i64 (0 - x3) else bif Nat.beq j 0 then x4 else x4)
                            (fun (j : Nat) => bif Nat.beq j 1 then x5 else bif Nat.beq j 0 then x7 else x7) true true)
                          fun (d : Int × Bool) =>
                          bif inR x0 3 then
                            bif x0 == 2 then c (IntKind.wrap IntKind.i64 (x0 + 1), d.2, x2, x3, x4, x5, x6, x7, x8, x9, d.1)
                            else
                              bif x0 == 1 then c (IntKind.wrap IntKind.i64 (x0 + 1), d.2, x2, x3, x4, x5, x6, x7, x8, d.1, x10)
                              else c (IntKind.wrap IntKind.i64 (x0 + 1), d.2, x2, x3, x4, x5, x6, x7, d.1, x9, x10)
                          else none
                  else none
                else
                  bif Int.tmod (IntKind.wrap IntKind.i64 (x0 + 2)) 3 == 1 then
                    bif inR (Int.tmod (IntKind.wrap IntKind.i64 (x0 + 1)) 3) 3 then
                      bif Int.tmod (IntKind.wrap IntKind.i64 (x0 + 1)) 3 == 2 then
                        Option.bind
                          (g___fx_Acc__Dot 30 2 2 x1 (fun (j : Nat) => bif Nat.beq j 1 then IntKind.wrap IntKind.i64 (0 - x3) else bif Nat.beq j 0 then x4 else x4)
                            (fun (j : Nat) => bif Nat.beq j 1 then x7 else bif Nat.beq j 0 then x6 else x6) true true)
                          fun (d : Int × Bool) =>
                          bif inR x0 3 then
                            bif x0 == 2 then c (IntKind.wrap IntKind.i64 (x0 + 1), d.2, x2, x3, x4, x5, x6, x7, x8, x9, d.1)
                            else
                              bif x0 == 1 then c (IntKind.wrap IntKind.i64 (x0 + 1), d.2, x2, x3, x4, x5, x6, x7, x8, d.1, x10)
                              else c (IntKind.wrap IntKind.i64 (x0 + 1), d.2, x2, x3, x4, x5, x6, x7, d.1, x9, x10)
                          else none
                      else
                        bif Int.tmod (IntKind.wrap IntKind.i64 (x0 + 1)) 3 == 1 then
                          Option.bind
                            (g___fx_Acc__Dot 30 2 2 x1 (fun (j : Nat) => bif Nat.beq j 1 then IntKind.wrap IntKind.i64 (0 - x3) else bif Nat.beq j 0 then x4 else x4)
                              (fun (j : Nat) => bif Nat.beq j 1 then x6 else bif Nat.beq j 0 then x6 else x6) true true)
                            fun (d : Int × Bool) =>
                            bif inR x0 3 then
                              bif x0 == 2 then c (IntKind.wrap IntKind.i64 (x0 + 1), d.2, x2, x3, x4, x5, x6, x7, x8, x9, d.1)
                              else
                                bif x0 == 1 then c (IntKind.wrap IntKind.i64 (x0 + 1), d.2, x2, x3, x4, x5, x6, x7, x8, d.1, x10)
                                else c (IntKind.wrap IntKind.i64 (x0 + 1), d.2, x2, x3, x4, x5, x6, x7, d.1, x9, x10)
                            else none
                        else
                          Option.bind
                            (g___fx_Acc__Dot 30 2 2 x1 (fun (j : Nat) => bif Nat.beq j 1 then IntKind.wrap IntKind.i64 (0 - x3) else bif Nat.beq j 0 then x4 else x4)
                              (fun (j : Nat) => bif Nat.beq j 1 then x5 else bif Nat.beq j 0 then x6 else x6) true true)
                            fun (d : Int × Bool) =>
                            bif inR x0 3 then
                              bif x0 == 2 then c (IntKind.wrap IntKind.i64 (x0 + 1), d.2, x2, x3, x4, x5, x6, x7, x8, x9, d.1)
                              else
                                bif x0 == 1 then c (IntKind.wrap IntKind.i64 (x0 + 1), d.2, x2, x3, x4, x5, x6, x7, x8, d.1, x10)
                                else c (IntKind.wrap IntKind.i64 (x0 + 1), d.2, x2, x3, x4, x5, x6, x7, d.1, x9, x10)
                            else none
                    else none
                  else
                    bif inR (Int.tmod (IntKind.wrap IntKind.i64 (x0 + 1)) 3) 3 then
                      bif Int.tmod (IntKind.wrap IntKind.i64 (x0 + 1)) 3 == 2 then
                        Option.bind
                          (g___fx_Acc__Dot 30 2 2 x1 (fun (j : Nat) => bif Nat.beq j 1 then IntKind.wrap IntKind.i64 (0 - x3) else bif Nat.beq j 0 then x4 else x4)
                            (fun (j : Nat) => bif Nat.beq j 1 then x7 else bif Nat.beq j 0 then x5 else x5) true true)
                          fun (d : Int × Bool) =>
                          bif inR x0 3 then
                            bif x0 == 2 then c (IntKind.wrap IntKind.i64 (x0 + 1), d.2, x2, x3, x4, x5, x6, x7, x8, x9, d.1)
                            else
                              bif x0 == 1 then c (IntKind.wrap IntKind.i64 (x0 + 1), d.2, x2, x3, x4, x5, x6, x7, x8, d.1, x10)
                              else c (IntKind.wrap IntKind.i64 (x0 + 1), d.2, x2, x3, x4, x5, x6, x7, d.1, x9, x10)
                          else none
                      else
                        bif Int.tmod (IntKind.wrap IntKind.i64 (x0 + 1)) 3 == 1 then
                          Option.bind
                            (g___fx_Acc__Dot 30 2 2 x1 (fun (j : Nat) => bif Nat.beq j 1 then IntKind.wrap IntKind.i64 (0 - x3) else bif Nat.beq j 0 then x4 else x4)
                              (fun (j : Nat) => bif Nat.beq j 1 then x6 else bif Nat.beq j 0 then x5 else x5) true true)
                            fun (d : Int × Bool) =>
                            bif inR x0 3 then
                              bif x0 == 2 then c (IntKind.wrap IntKind.i64 (x0 + 1), d.2, x2, x3, x4, x5, x6, x7, x8, x9, d.1)
                              else
                                bif x0 == 1 then c (IntKind.wrap IntKind.i64 (x0 + 1), d.2, x2, x3, x4, x5, x6, x7, x8, d.1, x10)
                                else c (IntKind.wrap IntKind.i64 (x0 + 1), d.2, x2, x3, x4, x5, x6, x7, d.1, x9, x10)
                            else none
                        else
                          Option.bind
                            (g___fx_Acc__Dot 30 2 2 x1 (fun (j : Nat) => bif Nat.beq j 1 then IntKind.wrap IntKind.i64 (0 - x3) else bif Nat.beq j 0 then x4 else x4)
                              (fun (j : Nat) => bif Nat.beq j 1 then x5 else bif Nat.beq j 0 then x5 else x5) true true)
                            fun (d : Int × Bool) =>
                            bif inR x0 3 then
                              bif x0 == 2 then c (IntKind.wrap IntKind.i64 (x0 + 1), d.2, x2, x3, x4, x5, x6, x7, x8, x9, d.1)
                              else
                                bif x0 == 1 then c (IntKind.wrap IntKind.i64 (x0 + 1), d.2, x2, x3, x4, x5, x6, x7, x8, d.1, x10)
                                else c (IntKind.wrap IntKind.i64 (x0 + 1), d.2, x2, x3, x4, x5, x6, x7, d.1, x9, x10)
                            else none
                    else none
              else none
            else
              bif inR (Int.tmod (IntKind.wrap IntKind.i64 (x0 + 2)) 3) 3 then
                bif Int.tmod (IntKind.wrap IntKind.i64 (x0 + 2)) 3 == 2 then
                  bif inR (Int.tmod (IntKind.wrap IntKind.i64 (x0 + 1)) 3) 3 then
                    bif Int.tmod (IntKind.wrap IntKind.i64 (x0 + 1)) 3 == 2 then
                      Option.bind
                        (g___fx_Acc__Dot 30 2 2 x1 (fun (j : Nat) => bif Nat.beq j 1 then IntKind.wrap IntKind.i64 (0 - x2) else bif Nat.beq j 0 then x4 else x4)
                          (fun (j : Nat) => bif Nat.beq j 1 then x7 else bif Nat.beq j 0 then x7 else x7) true true)
                        fun (d : Int × Bool) =>
                        bif inR x0 3 then
                          bif x0 == 2 then c (IntKind.wrap IntKind.i64 (x0 + 1), d.2, x2, x3, x4, x5, x6, x7, x8, x9, d.1)
                          else
                            bif x0 == 1 then c (IntKind.wrap IntKind.i64 (x0 + 1), d.2, x2, x3, x4, x5, x6, x7, x8, d.1, x10)
                            else c (IntKind.wrap IntKind.i64 (x0 + 1), d.2, x2, x3, x4, x5, x6, x7, d.1, x9, x10)
                        else none
                    else
                      bif Int.tmod (IntKind.wrap IntKind.i64 (x0 + 1)) 3 == 1 then
                        Option.bind
                          (g___fx_Acc__Dot 30 2 2 x1 (fun (j : Nat) => bif Nat.beq j 1 then IntKind.wrap IntKind.i64 (0 - x2) else bif Nat.beq j 0 then x4 else x4)
                            (fun (j : Nat) => bif Nat.beq j 1 then x6 else bif Nat.beq j 0 then x7 else x7) true true)
                          fun (d : Int × Bool) =>
                          bif inR x0 3 then
                            bif x0 == 2 then c (IntKind.wrap IntKind.i64 (x0 + 1), d.2, x2, x3, x4, x5, x6, x7, x8, x9, d.1)
                            else
                              bif x0 == 1 then c (IntKind.wrap IntKind.i64 (x0 + 1), d.2, x2, x3, x4, x5, x6, x7, x8, d.1, x10)
                              else c (IntKind.wrap IntKind.i64 (x0 + 1), d.2, x2, x3, x4, x5, x6, x7, d.1, x9, x10)
                          else none
                      else
                        Option.bind
                          (g___fx_Acc__Dot 30 2 2 x1 (fun (j : Nat) => bif Nat.beq j 1 then IntKind.wrap IntKind.i64 (0 - x2) else bif Nat.beq j 0 then x4 else x4)
                            (fun (j : Nat) => bif Nat.beq j 1 then x5 else bif Nat.beq j 0 then x7 else x7) true true)
                          fun (d : Int × Bool) =>
                          bif inR x0 3 then
                            bif x0 == 2 then c (IntKind.wrap IntKind.i64 (x0 + 1), d.2, x2, x3, x4, x5, x6, x7, x8, x9, d.1)
                            else
                              bif x0 == 1 then c (IntKind.wrap IntKind.i64 (x0 + 1), d.2, x2, x3, x4, x5, x6, x7, x8, d.1, x10)
                              else c (IntKind.wrap IntKind.i64 (x0 + 1), d.2, x2, x3, x4, x5, x6, x7, d.1, x9, x10)
                          else none
                  else none
                else
                  bif Int.tmod (IntKind.wrap IntKind.i64 (x0 + 2)) 3 == 1 then
                    bif inR (Int.tmod (IntKind.wrap IntKind.i64 (x0 + 1)) 3) 3 then
                      bif Int.tmod (IntKind.wrap IntKind.i64 (x0 + 1)) 3 == 2 then
                        Option.bind
                          (g___fx_Acc__Dot 30 2 2 x1 (fun (j : Nat) => bif Nat.beq j 1 then IntKind.wrap IntKind.i64 (0 - x2) else bif Nat.beq j 0 then x4 else x4)
                            (fun (j : Nat) => bif Nat.beq j 1 then x7 else bif Nat.beq j 0 then x6 else x6) true true)
                          fun (d : Int × Bool) =>
                          bif inR x0 3 then
                            bif x0 == 2 then c (IntKind.wrap IntKind.i64 (x0 + 1), d.2, x2, x3, x4, x5, x6, x7, x8, x9, d.1)
                            else
                              bif x0 == 1 then c (IntKind.wrap IntKind.i64 (x0 + 1), d.2, x2, x3, x4, x5, x6, x7, x8, d.1, x10)
                              else c (IntKind.wrap IntKind.i64 (x0 + 1), d.2, x2, x3, x4, x5, x6, x7, d.1, x9, x10)
                          else none
                      else
                        bif Int.tmod (IntKind.wrap IntKind.i64 (x0 + 1)) 3 == 1 then
                          Option.bind
                            (g___fx_Acc__Dot 30 2 2 x1 (fun (j : Nat) => bif Nat.beq j 1 then IntKind.wrap IntKind.i64 (0 - x2) else bif Nat.beq j 0 then x4 else x4)
                              (fun (j : Nat) => bif Nat.beq j 1 then x6 else bif Nat.beq j 0 then x6 else x6) true true)
                            fun (d : Int × Bool) =>
                            bif inR x0 3 then
                              bif x0 == 2 then c (IntKind.wrap IntKind.i64 (x0 + 1), d.2, x2, x3, x4, x5, x6, x7, x8, x9, d.1)
                              else
                                bif x0 == 1 then c (IntKind.wrap IntKind.i64 (x0 + 1), d.2, x2, x3, x4, x5, x6, x7, x8, d.1, x10)
                                else c (IntKind.wrap IntKind.i64 (x0 + 1), d.2, x2, x3, x4, x5, x6, x7, d.1, x9, x10)
                            else none
                        else
                          Option.bind
                            (g___fx_Acc__Dot 30 2 2 x1 (fun (j : Nat) => bif Nat.beq j 1 then IntKind.wrap IntKind.i64 (0 - x2) else bif Nat.beq j 0 then x4 else x4)
                              (fun (j : Nat) => bif Nat.beq j 1 then x5 else bif Nat.beq j 0 then x6 else x6) true true)
                            fun (d : Int × Bool) =>
                            bif inR x0 3 then
                              bif x0 == 2 then c (IntKind.wrap IntKind.i64 (x0 + 1), d.2, x2, x3, x4, x5, x6, x7, x8, x9, d.1)
                              else
                                bif x0 == 1 then c (IntKind.wrap IntKind.i64 (x0 + 1), d.2, x2, x3, x4, x5, x6, x7, x8, d.1, x10)
                                else c (IntKind.wrap IntKind.i64 (x0 + 1), d.2, x2, x3, x4, x5, x6, x7, d.1, x9, x10)
                            else none
                    else none
                  else
                    bif inR (Int.tmod (IntKind.wrap IntKind.i64 (x0 + 1)) 3) 3 then
                      bif Int.tmod (IntKind.wrap IntKind.i64 (x0 + 1)) 3 == 2 then
                        Option.bind
                          (g___fx_Acc__Dot 30 2 2 x1 (fun (j : Nat) => bif Nat.beq j 1 then IntKind.wrap IntKind.i64 (0 - x2) else bif Nat.beq j 0 then x4 else x4)
                            (fun (j : Nat) => bif Nat.beq j 1 then x7 else bif Nat.beq j 0 then x5 else x5) true true)
                          fun (d : Int × Bool) =>
                          bif inR x0 3 then
                            bif x0 == 2 then c (IntKind.wrap IntKind.i64 (x0 + 1), d.2, x2, x3, x4, x5, x6, x7, x8, x9, d.1)
                            else
                              bif x0 == 1 then c (IntKind.wrap IntKind.i64 (x0 + 1), d.2, x2, x3, x4, x5, x6, x7, x8, d.1, x10)
                              else c (IntKind.wrap IntKind.i64 (x0 + 1), d.2, x2, x3, x4, x5, x6, x7, d.1, x9, x10)
                          else none
                      else
                        bif Int.tmod (IntKind.wrap IntKind.i64 (x0 + 1)) 3 == 1 then
                          Option.bind
                            (g___fx_Acc__Dot 30 2 2 x1 (fun (j : Nat) => bif Nat.beq j 1 then IntKind.wrap IntKind.i64 (0 - x2) else bif Nat.beq j 0 then x4 else x4)
                              (fun (j : Nat) => bif Nat.beq j 1 then x6 else bif Nat.beq j 0 then x5 else x5) true true)
                            fun (d : Int × Bool) =>
                            bif inR x0 3 then
                              bif x0 == 2 then c (IntKind.wrap IntKind.i64 (x0 + 1), d.2, x2, x3, x4, x5, x6, x7, x8, x9, d.1)
                              else
                                bif x0 == 1 then c (IntKind.wrap IntKind.i64 (x0 + 1), d.2, x2, x3, x4, x5, x6, x7, x8, d.1, x10)
                                else c (IntKind.wrap IntKind.i64 (x0 + 1), d.2, x2, x3, x4, x5, x6, x7, d.1, x9, x10)
                            else none
                        else
                          Option.bind
                            (g___fx_Acc__Dot 30 2 2 x1 (fun (j : Nat) => bif Nat.beq j 1 then IntKind.wrap IntKind.i64 (0 - x2) else bif Nat.beq j 0 then x4 else x4)
                              (fun (j : Nat) => bif Nat.beq j 1 then x5 else bif Nat.beq j 0 then x5 else x5) true true)
                            fun (d : Int × Bool) =>
                            bif inR x0 3 then
                              bif x0 == 2 then c (IntKind.wrap IntKind.i64 (x0 + 1), d.2, x2, x3, x4, x5, x6, x7, x8, x9, d.1)
                              else
                                bif x0 == 1 then c (IntKind.wrap IntKind.i64 (x0 + 1), d.2, x2, x3, x4, x5, x6, x7, x8, d.1, x10)
                                else c (IntKind.wrap IntKind.i64 (x0 + 1), d.2, x2, x3, x4, x5, x6, x7, d.1, x9, x10)
                            else none
                    else none
              else none
        else none
      else
        bif Int.tmod (IntKind.wrap IntKind.i64 (x0 + 1)) 3 == 1 then
          bif inR (Int.tmod (IntKind.wrap IntKind.i64 (x0 + 2)) 3) 3 then
            bif Int.tmod (IntKind.wrap IntKind.i64 (x0 + 2)) 3 == 2 then
              bif inR (Int.tmod (IntKind.wrap IntKind.i64 (x0 + 2)) 3) 3 then
                bif Int.tmod (IntKind.wrap IntKind.i64 (x0 + 2)) 3 == 2 then
                  bif inR (Int.tmod (IntKind.wrap IntKind.i64 (x0 + 1)) 3) 3 then
                    bif Int.tmod (IntKind.wrap IntKind.i64 (x0 + 1)) 3 == 2 then
                      Option.bind
                        (g___fx_Acc__Dot 30 2 2 x1 (fun (j : Nat) => bif Nat.beq j 1 then IntKind.wrap IntKind.i64 (0 - x4) else bif Nat.beq j 0 then x3 else x3)
                          (fun (j : Nat) => bif Nat.beq j 1 then x7 else bif Nat.beq j 0 then x7 else x7) true true)
                        fun (d : Int × Bool) =>
                        bif inR x0 3 then
                          bif x0 == 2 then c (IntKind.wrap IntKind.i64 (x0 + 1), d.2, x2, x3, x4, x5, x6, x7, x8, x9, d.1)
                          else
                            bif x0 == 1 then c (IntKind.wrap IntKind.i64 (x0 + 1), d.2, x2, x3, x4, x5, x6, x7, x8, d.1, x10)
                            else c (IntKind.wrap IntKind.i64 (x0 + 1), d.2, x2, x3, x4, x5, x6, x7, d.1, x9, x10)
                        else none
                    else
                      bif Int.tmod (IntKind.wrap IntKind.i64 (x0 + 1)) 3 == 1 then
                        Option.bind
                          (g___fx_Acc__Dot 30 2 2 x1 (fun (j : Nat) => bif Nat.beq j 1 then IntKind.wrap IntKind.i64 (0 - x4) else bif Nat.beq j 0 then x3 else x3)
                            (fun (j : Nat) => bif Nat.beq j 1 then x6 else bif Nat.beq j 0 then x7 else x7) true true)
                          fun (d : Int × Bool) =>
                          bif inR x0 3 then
                            bif x0 == 2 then c (IntKind.wrap IntKind.i64 (x0 + 1), d.2, x2, x3, x4, x5, x6, x7, x8, x9, d.1)
                            else
                              bif x0 == 1 then c (IntKind.wrap IntKind.i64 (x0 + 1), d.2, x2, x3, x4, x5, x6, x7, x8, d.1, x10)
                              else c (IntKind.wrap IntKind.i64 (x0 + 1), d.2, x2, x3, x4, x5, x6, x7, d.1, x9, x10)
                          else none
                      else
                        Option.bind
                          (g___fx_Acc__Dot 30 2 2 x1 (fun (j : Nat) => bif Nat.beq j 1 then IntKind.wrap IntKind.i64 (0 - x4) else bif Nat.beq j 0 then x3 else x3)
                            (fun (j : Nat) => bif Nat.beq j 1 then x5 else bif Nat.beq j 0 then x7 else x7) true true)
                          fun (d : Int × Bool) =>
                          bif inR x0 3 then
                            bif x0 == 2 then c (IntKind.wrap IntKind.i64 (x0 + 1), d.2, x2, x3, x4, x5, x6, x7, x8, x9, d.1)
                            else
                              bif x0 == 1 then c (IntKind.wrap IntKind.i64 (x0 + 1), d.2, x2, x3, x4, x5, x6, x7, x8, d.1, x10)
                              else c (IntKind.wrap IntKind.i64 (x0 + 1), d.2, x2, x3, x4, x5, x6, x7, d.1, x9, x10)
                          else none
                  else none
                else
                  bif Int.tmod (IntKind.wrap IntKind.i64 (x0 + 2)) 3 == 1 then
                    bif inR (Int.tmod (IntKind.wrap IntKind.i64 (x0 + 1)) 3) 3 then
                      bif Int.tmod (IntKind.wrap IntKind.i64 (x0 + 1)) 3 == 2 then
                        Option.bind
                          (g___fx_Acc__Dot 30 2 2 x1 (fun (j : Nat) => bif Nat.beq j 1 then IntKind.wrap IntKind.i64 (0 - x4) else bif Nat.beq j 0 then x3 else x3)
                            (fun (j : Nat) => bif Nat.beq j 1 then x7 else bif Nat.beq j 0 then x6 else x6) true true)
                          fun (d : Int × Bool) =>
                          bif inR x0 3 then
                            bif x0 == 2 then c (IntKind.wrap IntKind.i64 (x0 + 1), d.2, x2, x3, x4, x5, x6, x7, x8, x9, d.1)
                            else
                              bif x0 == 1 then c (IntKind.wrap IntKind.i64 (x0 + 1), d.2, x2, x3, x4, x5, x6, x7, x8, d.1, x10)
                              else c (IntKind.wrap IntKind.i64 (x0 + 1), d.2, x2, x3, x4, x5, x6, x7, d.1, x9, x10)
                          else none
                      else
                        bif Int.tmod (IntKind.wrap IntKind.i64 (x0 + 1)) 3 == 1 then
                          Option.bind
                            (g___fx_Acc__Dot 30 2 2 x1 (fun (j : Nat) => bif Nat.beq j 1 then IntKind.wrap IntKind.i64 (0 - x4) else bif Nat.beq j 0 then x3 else x3)
                              (fun (j : Nat) => bif Nat.beq j 1 then x6 else bif Nat.beq j 0 then x6 else x6) true true)
                            fun (d : Int × Bool) =>
                            bif inR x0 3 then
                              bif x0 == 2 then c (IntKind.wrap IntKind.i64 (x0 + 1), d.2, x2, x3, x4, x5, x6, x7, x8, x9, d.1)
                              else
                                bif x0 == 1 then c (IntKind.wrap IntKind.i64 (x0 + 1), d.2, x2, x3, x4, x5, x6, x7, x8, d.1, x10)
                                else c (IntKind.wrap IntKind.i64 (x0 + 1), d.2, x2, x3, x4, x5, x6, x7, d.1, x9, x10)
                            else none
                        else
                          Option.bind
                            (g___fx_Acc__Dot 30 2 2 x1 (fun (j : Nat) => bif Nat.beq j 1 then IntKind.wrap IntKind.i64 (0 - x4) else bif Nat.beq j 0 then x3 else x3)
                              (fun (j : Nat) => bif Nat.beq j 1 then x5 else bif Nat.beq j 0 then x6 else x6) true true)
                            fun (d : Int × Bool) =>
                            bif inR x0 3 then
                              bif x0 == 2 then c (IntKind.wrap IntKind.i64 (x0 + 1), d.2, x2, x3, x4, x5, x6, x7, x8, x9, d.1)
                              else
                                bif x0 == 1 then c (IntKind.wrap IntKind.i64 (x0 + 1), d.2, x2, x3, x4, x5, x6, x7, x8, d.1, x10)
                                else c (IntKind.wrap IntKind.i64 (x0 + 1), d.2, x2, x3, x4, x5, x6, x7, d.1, x9, x10)
                            else none
                    else none
                  else
                    bif inR (Int.tmod (IntKind.wrap IntKind.i64 (x0 + 1)) 3) 3 then
                      bif Int.tmod (IntKind.wrap IntKind.i64 (x0 + 1)) 3 == 2 then
                        Option.bind
                          (g___fx_Acc__Dot 30 2 2 x1 (fun (j : Nat) => bif Nat.beq j 1 then IntKind.wrap IntKind.i64 (0 - x4) else bif Nat.beq j 0 then x3 else x3)
                            (fun (j : Nat) => bif Nat.beq j 1 then x7 else bif Nat.beq j 0 then x5 else x5) true true)
                          fun (d : Int × Bool) =>
                          bif inR x0 3 then
                            bif x0 == 2 then c (IntKind.wrap IntKind.i64 (x0 + 1), d.2, x2, x3, x4, x5, x6, x7, x8, x9, d.1)
                            else
                              bif x0 == 1 then c (IntKind.wrap IntKind.i64 (x0 + 1), d.2, x2, x3, x4, x5, x6, x7, x8, d.1, x10)
                              else c (IntKind.wrap IntKind.i64 (x0 + 1), d.2, x2, x3, x4, x5, x6, x7, d.1, x9, x10)
                          else none
                      else
                        bif Int.tmod (IntKind.wrap IntKind.i64 (x0 + 1)) 3 == 1 then
                          Option.bind
                            (g___fx_Acc__Dot 30 2 2 x1 (fun (j : Nat) => bif Nat.beq j 1 then IntKind.wrap IntKind.i64 (0 - x4) else bif Nat.beq j 0 then x3 else x3)
                              (fun (j : Nat) => bif Nat.beq j 1 then x6 else bif Nat.beq j 0 then x5 else x5) true true)
                            fun (d : Int × Bool) =>
                            bif inR x0 3 then
                              bif x0 == 2 then c (IntKind.wrap IntKind.i64 (x0 + 1), d.2, x2, x3, x4, x5, x6, x7, x8, x9, d.1)
                              else
                                bif x0 == 1 then c (IntKind.wrap IntKind.i64 (x0 + 1), d.2, x2, x3, x4, x5, x6, x7, x8, d.1, x10)
                                else c (IntKind.wrap IntKind.i64 (x0 + 1), d.2, x2, x3, x4, x5, x6, x7, d.1, x9, x10)
                            else none
                        else
                          Option.bind
                            (g___fx_Acc__Dot 30 2 2 x1 (fun (j : Nat) => bif Nat.beq j 1 then IntKind.wrap IntKind.i64 (0 - x4) else bif Nat.beq j 0 then x3 else x3)
                              (fun (j : Nat) => bif Nat.beq j 1 then x5 else bif Nat.beq j 0 then x5 else x5) true true)
                            fun (d : Int × Bool) =>
                            bif inR x0 3 then
                              bif x0 == 2 then c (IntKind.wrap IntKind.i64 (x0 + 1), d.2, x2, x3, x4, x5, x6, x7, x8, x9, d.1)
                              else
                                bif x0 == 1 then c (IntKind.wrap IntKind.i64 (x0 + 1), d.2, x2, x3, x4, x5, x6, x7, x8, d.1, x10)
                                else c (IntKind.wrap IntKind.i64 (x0 + 1), d.2, x2, x3, x4, x5, x6, x7, d.1, x9, x10)
                            else none
                    else none
              else none
            else
              bif Int.tmod (IntKind.wrap IntKind.i64 (x0 + 2)) 3 == 1 then
                bif inR (Int.tmod (IntKind.wrap IntKind.i64 (x0 + 2)) 3) 3 then
                  bif Int.tmod (IntKind.wrap IntKind.i64 (x0 + 2)) 3 == 2 then
                    bif inR (Int.tmod (IntKind.wrap IntKind.i64 (x0 + 1)) 3) 3 then
                      bif Int.tmod (IntKind.wrap IntKind.i64 (x0 + 1)) 3 == 2 then
                        Option.bind
                          (g___fx_Acc__Dot 30 2 2 x1 (fun (j : Nat) => bif Nat.beq j 1 then IntKind.wrap IntKind.i64 (0 - x3) else bif Nat.beq j 0 then x3 else x3)
                            (fun (j : Nat) => bif Nat.beq j 1 then x7 else bif Nat.beq j 0 then x7 else x7) true true)
                          fun (d : Int × Bool) =>
                          bif inR x0 3 then
                            bif x0 == 2 then c (IntKind.wrap IntKind.i64 (x0 + 1), d.2, x2, x3, x4, x5, x6, x7, x8, x9, d.1)
                            else
                              bif x0 == 1 then c (IntKind.wrap IntKind.i64 (x0 + 1), d.2, x2, x3, x4, x5, x6, x7, x8, d.1, x10)
                              else c (IntKind.wrap IntKind.i64 (x0 + 1), d.2, x2, x3, x4, x5, x6, x7, d.1, x9, x10)
                          else none
                      else
                        bif Int.tmod (IntKind.wrap IntKind.i64 (x0 + 1)) 3 == 1 then
                          Option.bind
                            (g___fx_Acc__Dot 30 2 2 x1 (fun (j : Nat) => bif Nat.beq j 1 then IntKind.wrap IntKind.i64 (0 - x3) else bif Nat.beq j 0 then x3 else x3)
                              (fun (j : Nat) => bif Nat.beq j 1 then x6 else bif Nat.beq j 0 then x7 else x7) true true)
                            fun (d : Int × Bool) =>
                            bif inR x0 3 then
                              bif x0 == 2 then c (IntKind.wrap IntKind.i64 (x0 + 1), d.2, x2, x3, x4, x5, x6, x7, x8, x9, d.1)
                              else
                                bif x0 == 1 then c (IntKind.wrap IntKind.i64 (x0 + 1), d.2, x2, x3, x4, x5, x6, x7, x8, d.1, x10)
                                else c (IntKind.wrap IntKind.i64 (x0 + 1), d.2, x2, x3, x4, x5, x6, x7, d.1, x9, x10)
                            else none
                        else
                          Option.bind
                            (g___fx_Acc__Dot 30 2 2 x1 (fun (j : Nat) => bif Nat.beq j 1 then IntKind.wrap IntKind.i64 (0 - x3) else bif Nat.beq j 0 then x3 else x3)
                              (fun (j : Nat) => bif Nat.beq j 1 then x5 else bif Nat.beq j 0 then x7 else x7) true true)
                            fun (d : Int × Bool) =>
                            bif inR x0 3 then
                              bif x0 == 2 then c (IntKind.wrap IntKind.i64 (x0 + 1), d.2, x2, x3, x4, x5, x6, x7, x8, x9, d.1)
                              else
                                bif x0 == 1 then c (IntKind.wrap IntKind.i64 (x0 + 1), d.2, x2, x3, x4, x5, x6, x7, x8, d.1, x10)
                                else c (IntKind.wrap IntKind.i64 (x0 + 1), d.2, x2, x3, x4, x5, x6, x7, d.1, x9, x10)
                            else none
                    else none
                  else
                    bif Int.tmod (IntKind.wrap IntKind.i64 (x0 + 2)) 3 == 1 then
                      bif inR (Int.tmod (IntKind.wrap IntKind.i64 (x0 + 1)) 3) 3 then
                        bif Int.tmod (IntKind.wrap IntKind.i64 (x0 + 1)) 3 == 2 then
                          Option.bind
                            (g___fx_Acc__Dot 30 2 2 x1 (fun (j : Nat) => bif Nat.beq j 1 then IntKind.wrap IntKind.i64 (0 - x3) else bif Nat.beq j 0 then x3 else x3)
                              (fun (j : Nat) => bif Nat.beq j 1 then x7 else bif Nat.beq j 0 then x6 else x6) true true)
                            fun (d : Int × Bool) =>
                            bif inR x0 3 then
                              bif x0 == 2 then c (IntKind.wrap IntKind.i64 (x0 + 1), d.2, x2, x3, x4, x5, x6, x7, x8, x9, d.1)
                              else
                                bif x0 == 1 then c (IntKind.wrap IntKind.i64 (x0 + 1), d.2, x2, x3, x4, x5, x6, x7, x8, d.1, x10)
                                else c (IntKind.wrap IntKind.i64 (x0 + 1), d.2, x2, x3, x4, x5, x6, x7, d.1, x9, x10)
                            else none
                        else
                          bif Int.tmod (IntKind.wrap IntKind.i64 (x0 + 1)) 3 == 1 then
                            Option.bind
                              (g___fx_Acc__Dot 30 2 2 x1 (fun (j : Nat) => bif Nat.beq j 1 then IntKind.wrap IntKind.i64 (0 - x3) else bif Nat.beq j 0 then x3 else x3)
                                (fun (j : Nat) => bif Nat.beq j 1 then x6 else bif Nat.beq j 0 then x6 else x6) true true)
                              fun (d : Int × Bool) =>
                              bif inR x0 3 then
                                bif x0 == 2 then c (IntKind.wrap IntKind.i64 (x0 + 1), d.2, x2, x3, x4, x5, x6, x7, x8, x9, d.1)
                                else
                                  bif x0 == 1 then c (IntKind.wrap IntKind.i64 (x0 + 1), d.2, x2, x3, x4, x5, x6, x7, x8, d.1, x10)
                                  else c (IntKind.wrap IntKind.i64 (x0 + 1), d.2, x2, x3, x4, x5, x6, x7, d.1, x9, x10)
                              else none
                          else
                            Option.bind
                              (g___fx_Acc__Dot 30 2 2 x1 (fun (j : Nat) => bif Nat.beq j 1 then IntKind.wrap IntKind.i64 (0 - x3) else bif Nat.beq j 0 then x3 else x3)
                                (fun (j : Nat) => bif Nat.beq j 1 then x5 else bif Nat.beq j 0 then x6 else x6) true true)
                              fun (d : Int × Bool) =>
                              bif inR x0 3 then
                                bif x0 == 2 then c (IntKind.wrap IntKind.i64 (x0 + 1), d.2, x2, x3, x4, x5, x6, x7, x8, x9, d.1)
                                else
                                  bif x0 == 1 then c (IntKind.wrap IntKind.i64 (x0 + 1), d.2, x2, x3, x4, x5, x6, x7, x8, d.1, x10)
                                  else c (IntKind.wrap IntKind.i64 (x0 + 1), d.2, x2, x3, x4, x5, x6, x7, d.1, x9, x10)
                              else none
                      else none
                    else
                      bif inR (Int.tmod (IntKind.wrap IntKind.i64 (x0 + 1)) 3) 3 then
                        bif Int.tmod (IntKind.wrap IntKind.i64 (x0 + 1)) 3 == 2 then
                          Option.bind
                            (g___fx_Acc__Dot 30 2 2 x1 (fun (j : Nat) => bif Nat.beq j 1 then IntKind.wrap IntKind.i64 (0 - x3) else bif Nat.beq j 0 then x3 else x3)
                              (fun (j : Nat) => bif Nat.beq j 1 then x7 else bif Nat.beq j 0 then x5 else x5) true true)
                            fun (d : Int × Bool) =>
                            bif inR x0 3 then
                              bif x0 == 2 then c (IntKind.wrap IntKind.i64 (x0 + 1), d.2, x2, x3, x4, x5, x6, x7, x8, x9, d.1)
                              else
                                bif x0 == 1 then c (IntKind.wrap IntKind.i64 (x0 + 1), d.2, x2, x3, x4, x5, x6, x7, x8, d.1, x10)
                                else c (IntKind.wrap IntKind.i64 (x0 + 1), d.2, x2, x3, x4, x5, x6, x7, d.1, x9, x10)
                            else none
                        else
                          bif Int.tmod (IntKind.wrap IntKind.i64 (x0 + 1)) 3 == 1 then
                            Option.bind
                              (g___fx_Acc__Dot 30 2 2 x1 (fun (j : Nat) => bif Nat.beq j 1 then IntKind.wrap IntKind.i64 (0 - x3) else bif Nat.beq j 0 then x3 else x3)
                                (fun (j : Nat) => bif Nat.beq j 1 then x6 else bif Nat.beq j 0 then x5 else x5) true true)
                              fun (d : Int × Bool) =>
                              bif inR x0 3 then
                                bif x0 == 2 then c (IntKind.wrap IntKind.i64 (x0 + 1), d.2, x2, x3, x4, x5, x6, x7, x8, x9, d.1)
                                else
                                  bif x0 == 1 then c (IntKind.wrap IntKind.i64 (x0 + 1), d.2, x2, x3, x4, x5, x6, x7, x8, d.1, x10)
                                  else c (IntKind.wrap IntKind.i64 (x0 + 1), d.2, x2, x3, x4, x5, x6, x7, d.1, x9, x10)
                              else none
                          else
                            Option.bind
                              (g___fx_Acc__Dot 30 2 2 x1 (fun (j : Nat) => bif Nat.beq j 1 then IntKind.wrap IntKind.i64 (0 - x3) else bif Nat.beq j 0 then x3 else x3)
                                (fun (j : Nat) => bif Nat.beq j 1 then x5 else bif Nat.beq j 0 then x5 else x5) true true)
                              fun (d : Int × Bool) =>
                              bif inR x0 3 then
                                bif x0 == 2 then c (IntKind.wrap IntKind.i64 (x0 + 1), d.2, x2, x3, x4, x5, x6, x7, x8, x9, d.1)
                                else
                                  bif x0 == 1 then c (IntKind.wrap IntKind.i64 (x0 + 1), d.2, x2, x3, x4, x5, x6, x7, x8, d.1, x10)
                                  else c (IntKind.wrap IntKind.i64 (x0 + 1), d.2, x2, x3, x4, x5, x6, x7, d.1, x9, x10)
                              else none
                      else none
                else none
              else
                bif inR (Int.tmod (IntKind.wrap IntKind.i64 (x0 + 2)) 3) 3 then
                  bif Int.tmod (IntKind.wrap IntKind.i64 (x0 + 2)) 3 == 2 then
                    bif inR (Int.tmod (IntKind.wrap IntKind.i64 (x0 + 1)) 3) 3 then
                      bif Int.tmod (IntKind.wrap IntKind.i64 (x0 + 1)) 3 == 2 then
                        Option.bind
                          (g___fx_Acc__Dot 30 2 2 x1 (fun (j : Nat) => bif Nat.beq j 1 then IntKind.wrap IntKind.i64 (0 - x2) else bif Nat.beq j 0 then x3 else x3)
                            (fun (j : Nat) => bif Nat.beq j 1 then x7 else bif Nat.beq j 0 then x7 else x7) true true)
                          fun (d : Int × Bool) =>
                          bif inR x0 3 then
                            bif x0 == 2 then c (IntKind.wrap IntKind.i64 (x0 + 1), d.2, x2, x3, x4, x5, x6, x7, x8, x9, d.1)
                            else
                              bif x0 == 1 then c (IntKind.wrap IntKind.i64 (x0 + 1), d.2, x2, x3, x4, x5, x6, x7, x8, d.1, x10)
                              else c (IntKind.wrap IntKind.i64 (x0 + 1), d.2, x2, x3, x4, x5, x6, x7, d.1, x9, x10)
                          else none
                      else
                        bif Int.tmod (IntKind.wrap IntKind.i64 (x0 + 1)) 3 == 1 then
                          Option.bind
                            (g___fx_Acc__Dot 30 2 2 x1 (fun (j : Nat) => bif Nat.beq j 1 then IntKind.wrap IntKind.i64 (0 - x2) else bif Nat.beq j 0 then x3 else x3)
                              (fun (j : Nat) => bif Nat.beq j 1 then x6 else bif Nat.beq j 0 then x7 else x7) true true)
                            fun (d : Int × Bool) =>
                            bif inR x0 3 then
                              bif x0 == 2 then c (IntKind.wrap IntKind.i64 (x0 + 1), d.2, x2, x3, x4, x5, x6, x7, x8, x9, d.1)
                              else
                                bif x0 == 1 then c (IntKind.wrap IntKind.i64 (x0 + 1), d.2, x2, x3, x4, x5, x6, x7, x8, d.1, x10)
                                else c (IntKind.wrap IntKind.i64 (x0 + 1), d.2, x2, x3, x4, x5, x6, x7, d.1, x9, x10)
                            else none
                        else
                          Option.bind
                            (g___fx_Acc__Dot 30 2 2 x1 (fun (j : Nat) => bif Nat.beq j 1 then IntKind.wrap IntKind.i64 (0 - x2) else bif Nat.beq j 0 then x3 else x3)
                              (fun (j : Nat) => bif Nat.beq j 1 then x5 else bif Nat.beq j 0 then x7 else x7) true true)
                            fun (d : Int × Bool) =>
                            bif inR x0 3 then
                              bif x0 == 2 then c (IntKind.wrap IntKind.i64 (x0 + 1), d.2, x2, x3, x4, x5, x6, x7, x8, x9, d.1)
                              else
                                bif x0 == 1 then c (IntKind.wrap IntKind.i64 (x0 + 1), d.2, x2, x3, x4, x5, x6, x7, x8, d.1, x10)
                                else c (IntKind.wrap IntKind.i64 (x0 + 1), d.2, x2, x3, x4, x5, x6, x7, d.1, x9, x10)
                            else none
                    else none
                  else
                    bif Int.tmod (IntKind.wrap IntKind.i64 (x0 + 2)) 3 == 1 then
                      bif inR (Int.tmod (IntKind.wrap IntKind.i64 (x0 + 1)) 3) 3 then
                        bif Int.tmod (IntKind.wrap IntKind.i64 (x0 + 1)) 3 == 2 then
                          Option.bind
                            (g___fx_Acc__Dot 30 2 2 x1 (fun (j : Nat) => bif Nat.beq j 1 then IntKind.wrap IntKind.i64 (0 - x2) else bif Nat.beq j 0 then x3 else x3)
                              (fun (j : Nat) => bif Nat.beq j 1 then x7 else bif Nat.beq j 0 then x6 else x6) true true)
                            fun (d : Int × Bool) =>
                            bif inR x0 3 then
                              bif x0 == 2 then c (IntKind.wrap IntKind.i64 (x0 + 1), d.2, x2, x3, x4, x5, x6, x7, x8, x9, d.1)
                              else
                                bif x0 == 1 then c (IntKind.wrap IntKind.i64 (x0 + 1), d.2, x2, x3, x4, x5, x6, x7, x8, d.1, x10)
                                else c (IntKind.wrap IntKind.i64 (x0 + 1), d.2, x2, x3, x4, x5, x6, x7, d.1, x9, x10)
                            else none
                        else
                          bif Int.tmod (IntKind.wrap IntKind.i64 (x0 + 1)) 3 == 1 then
                            Option.bind
                              (g___fx_Acc__Dot 30 2 2 x1 (fun (j : Nat) => bif Nat.beq j 1 then IntKind.wrap IntKind.i64 (0 - x2) else bif Nat.beq j 0 then x3 else x3)
                                (fun (j : Nat) => bif Nat.beq j 1 then x6 else bif Nat.beq j 0 then x6 else x6) true true)
                              fun (d : Int × Bool) =>
                              bif inR x0 3 then
                                bif x0 == 2 then c (IntKind.wrap IntKind.i64 (x0 + 1), d.2, x2, x3, x4, x5, x6, x7, x8, x9, d.1)
                                else
                                  bif x0 == 1 then c (IntKind.wrap IntKind.i64 (x0 + 1), d.2, x2, x3, x4, x5, x6, x7, x8, d.1, x10)
                                  else c (IntKind.wrap IntKind.i64 (x0 + 1), d.2, x2, x3, x4, x5, x6, x7, d.1, x9, x10)
                              else none
                          else
                            Option.bind
                              (g___fx_Acc__Dot 30 2 2 x1 (fun (j : Nat) => bif Nat.beq j 1 then IntKind.wrap IntKind.i64 (0 - x2) else bif Nat.beq j 0 then x3 else x3)
                                (fun (j : Nat) => bif Nat.beq j 1 then x5 else bif Nat.beq j 0 then x6 else x6) true true)
                              fun (d : Int × Bool) =>
                              bif inR x0 3 then
                                bif x0 == 2 then c (IntKind.wrap IntKind.i64 (x0 + 1), d.2, x2, x3, x4, x5, x6, x7, x8, x9, d.1)
                                else
                                  bif x0 == 1 then c (IntKind.wrap IntKind.i64 (x0 + 1), d.2, x2, x3, x4, x5, x6, x7, x8, d.1, x10)
                                  else c (IntKind.wrap IntKind.i64 (x0 + 1), d.2, x2, x3, x4, x5, x6, x7, d.1, x9, x10)
                              else none
                      else none
                    else
                      bif inR (Int.tmod (IntKind.wrap IntKind.i64 (x0 + 1)) 3) 3 then
                        bif Int.tmod (IntKind.wrap IntKind.i64 (x0 + 1)) 3 == 2 then
                          Option.bind
                            (g___fx_Acc__Dot 30 2 2 x1 (fun (j : Nat) => bif Nat.beq j 1 then IntKind.wrap IntKind.i64 (0 - x2) else bif Nat.beq j 0 then x3 else x3)
                              (fun (j : Nat) => bif Nat.beq j 1 then x7 else bif Nat.beq j 0 then x5 else x5) true true)
                            fun (d : Int × Bool) =>
                            bif inR x0 3 then
                              bif x0 == 2 then c (IntKind.wrap IntKind.i64 (x0 + 1), d.2, x2, x3, x4, x5, x6, x7, x8, x9, d.1)
                              else
                                bif x0 == 1 then c (IntKind.wrap IntKind.i64 (x0 + 1), d.2, x2, x3, x4, x5, x6, x7, x8, d.1, x10)
                                else c (IntKind.wrap IntKind.i64 (x0 + 1), d.2, x2, x3, x4, x5, x6, x7, d.1, x9, x10)
                            else none
                        else
                          bif Int.tmod (IntKind.wrap IntKind.i64 (x0 + 1)) 3 == 1 then
                            Option.bind
                              (g___fx_Acc__Dot 30 2 2 x1 (fun (j : Nat) => bif Nat.beq j 1 then IntKind.wrap IntKind.i64 (0 - x2) else bif Nat.beq j 0 then x3 else x3)
                                (fun (j : Nat) => bif Nat.beq j 1 then x6 else bif Nat.beq j 0 then x5 else x5) true true)
                              fun (d : Int × Bool) =>
                              bif inR x0 3 then
                                bif x0 == 2 then c (IntKind.wrap IntKind.i64 (x0 + 1), d.2, x2, x3, x4, x5, x6, x7, x8, x9, d.1)
                                else
                                  bif x0 == 1 then c (IntKind.wrap IntKind.i64 (x0 + 1), d.2, x2, x3, x4, x5, x6, x7, x8, d.1, x10)
                                  else c (IntKind.wrap IntKind.i64 (x0 + 1), d.2, x2, x3, x4, x5, x6, x7, d.1, x9, x10)
                              else none
                          else
                            Option.bind
                              (g___fx_Acc__Dot 30 2 2 x1 (fun (j : Nat) => bif Nat.beq j 1 then IntKind.wrap IntKind.i64 (0 - x2) else bif Nat.beq j 0 then x3 else x3)
                                (fun (j : Nat) => bif Nat.beq j 1 then x5 else bif Nat.beq j 0 then x5 else x5) true true)
                              fun (d : Int × Bool) =>
                              bif inR x0 3 then
                                bif x0 == 2 then c (IntKind.wrap IntKind.i64 (x0 + 1), d.2, x2, x3, x4, x5, x6, x7, x8, x9, d.1)
                                else
                                  bif x0 == 1 then c (IntKind.wrap IntKind.i64 (x0 + 1), d.2, x2, x3, x4, x5, x6, x7, x8, d.1, x10)
                                  else c (IntKind.wrap IntKind.i64 (x0 + 1), d.2, x2, x3, x4, x5, x6, x7, d.1, x9, x10)
                              else none
                      else none
                else none
          else none
        else
          bif inR (Int.tmod (IntKind.wrap IntKind.i64 (x0 + 2)) 3) 3 then
            bif Int.tmod (IntKind.wrap IntKind.i64 (x0 + 2)) 3 == 2 then
              bif inR (Int.tmod (IntKind.wrap IntKind.i64 (x0 + 2)) 3) 3 then
                bif Int.tmod (IntKind.wrap IntKind.i64 (x0 + 2)) 3 == 2 then
                  bif inR (Int.tmod (IntKind.wrap IntKind.i64 (x0 + 1)) 3) 3 then
                    bif Int.tmod (IntKind.wrap IntKind.i64 (x0 + 1)) 3 == 2 then
                      Option.bind
                        (g___fx_Acc__Dot 30 2 2 x1 (fun (j : Nat) => bif Nat.beq j 1 then IntKind.wrap IntKind.i64 (0 - x4) else bif Nat.beq j 0 then x2 else x2)
                          (fun (j : Nat) => bif Nat.beq j 1 then x7 else bif Nat.beq j 0 then x7 else x7) true true)
                        fun (d : Int × Bool) =>
                        bif inR x0 3 then
                          bif x0 == 2 then c (IntKind.wrap IntKind.i64 (x0 + 1), d.2, x2, x3, x4, x5, x6, x7, x8, x9, d.1)
                          else
                            bif x0 == 1 then c (IntKind.wrap IntKind.i64 (x0 + 1), d.2, x2, x3, x4, x5, x6, x7, x8, d.1, x10)
                            else c (IntKind.wrap IntKind.i64 (x0 + 1), d.2, x2, x3, x4, x5, x6, x7, d.1, x9, x10)
                        else none
                    else
                      bif Int.tmod (IntKind.wrap IntKind.i64 (x0 + 1)) 3 == 1 then
                        Option.bind
                          (g___fx_Acc__Dot 30 2 2 x1 (fun (j : Nat) => bif Nat.beq j 1 then IntKind.wrap IntKind.i64 (0 - x4) else bif Nat.beq j 0 then x2 else x2)
                            (fun (j : Nat) => bif Nat.beq j 1 then x6 else bif Nat.beq j 0 then x7 else x7) true true)
                          fun (d : Int × Bool) =>
                          bif inR x0 3 then
                            bif x0 == 2 then c (IntKind.wrap IntKind.i64 (x0 + 1), d.2, x2, x3, x4, x5, x6, x7, x8, x9, d.1)
                            else
                              bif x0 == 1 then c (IntKind.wrap IntKind.i64 (x0 + 1), d.2, x2, x3, x4, x5, x6, x7, x8, d.1, x10)
                              else c (IntKind.wrap IntKind.i64 (x0 + 1), d.2, x2, x3, x4, x5, x6, x7, d.1, x9, x10)
                          else none
                      else
                        Option.bind
                          (g___fx_Acc__Dot 30 2 2 x1 (fun (j : Nat) => bif Nat.beq j 1 then IntKind.wrap IntKind.i64 (0 - x4) else bif Nat.beq j 0 then x2 else x2)
                            (fun (j : Nat) => bif Nat.beq j 1 then x5 else bif Nat.beq j 0 then x7 else x7) true true)
                          fun (d : Int × Bool) =>
                          bif inR x0 3 then
                            bif x0 == 2 then c (IntKind.wrap IntKind.i64 (x0 + 1), d.2, x2, x3, x4, x5, x6, x7, x8, x9, d.1)
                            else
                              bif x0 == 1 then c (IntKind.wrap IntKind.i64 (x0 + 1), d.2, x2, x3, x4, x5, x6, x7, x8, d.1, x10)
                              else c (IntKind.wrap IntKind.i64 (x0 + 1), d.2, x2, x3, x4, x5, x6, x7, d.1, x9, x10)
                          else none
                  else none
                else
                  bif Int.tmod (IntKind.wrap IntKind.i64 (x0 + 2)) 3 == 1 then
                    bif inR (Int.tmod (IntKind.wrap IntKind.i64 (x0 + 1)) 3) 3 then
                      bif Int.tmod (IntKind.wrap IntKind.i64 (x0 + 1)) 3 == 2 then
                        Option.bind
                          (g___fx_Acc__Dot 30 2 2 x1 (fun (j : Nat) => bif Nat.beq j 1 then IntKind.wrap IntKind.i64 (0 - x4) else bif Nat.beq j 0 then x2 else x2)
                            (fun (j : Nat) => bif Nat.beq j 1 then x7 else bif Nat.beq j 0 then x6 else x6) true true)
                          fun (d : Int × Bool) =>
                          bif inR x0 3 then
                            bif x0 == 2 then c (IntKind.wrap IntKind.i64 (x0 + 1), d.2, x2, x3, x4, x5, x6, x7, x8, x9, d.1)
                            else
                              bif x0 == 1 then c (IntKind.wrap IntKind.i64 (x0 + 1), d.2, x2, x3, x4, x5, x6, x7, x8, d.1, x10)
                              else c (IntKind.wrap IntKind.i64 (x0 + 1), d.2, x2, x3, x4, x5, x6, x7, d.1, x9, x10)
                          else none
                      else
                        bif Int.tmod (IntKind.wrap IntKind.i64 (x0 + 1)) 3 == 1 then
                          Option.bind
                            (g___fx_Acc__Dot 30 2 2 x1 (fun (j : Nat) => bif Nat.beq j 1 then IntKind.wrap IntKind.i64 (0 - x4) else bif Nat.beq j 0 then x2 else x2)
                              (fun (j : Nat) => bif Nat.beq j 1 then x6 else bif Nat.beq j 0 then x6 else x6) true true)
                            fun (d : Int × Bool) =>
                            bif inR x0 3 then
                              bif x0 == 2 then c (IntKind.wrap IntKind.i64 (x0 + 1), d.2, x2, x3, x4, x5, x6, x7, x8, x9, d.1)
                              else
                                bif x0 == 1 then c (IntKind.wrap IntKind.i64 (x0 + 1), d.2, x2, x3, x4, x5, x6, x7, x8, d.1, x10)
                                else c (IntKind.wrap IntKind.i64 (x0 + 1), d.2, x2, x3, x4, x5, x6, x7, d.1, x9, x10)
                            else none
                        else
                          Option.bind
                            (g___fx_Acc__Dot 30 2 2 x1 (fun (j : Nat) => bif Nat.beq j 1 then IntKind.wrap IntKind.i64 (0 - x4) else bif Nat.beq j 0 then x2 else x2)
                              (fun (j : Nat) => bif Nat.beq j 1 then x5 else bif Nat.beq j 0 then x6 else x6) true true)
                            fun (d : Int × Bool) =>
                            bif inR x0 3 then
                              bif x0 == 2 then c (IntKind.wrap IntKind.i64 (x0 + 1), d.2, x2, x3, x4, x5, x6, x7, x8, x9, d.1)
                              else
                                bif x0 == 1 then c (IntKind.wrap IntKind.i64 (x0 + 1), d.2, x2, x3, x4, x5, x6, x7, x8, d.1, x10)
                                else c (IntKind.wrap IntKind.i64 (x0 + 1), d.2, x2, x3, x4, x5, x6, x7, d.1, x9, x10)
                            else none
                    else none
                  else
                    bif inR (Int.tmod (IntKind.wrap IntKind.i64 (x0 + 1)) 3) 3 then
                      bif Int.tmod (IntKind.wrap IntKind.i64 (x0 + 1)) 3 == 2 then
                        Option.bind
                          (g___fx_Acc__Dot 30 2 2 x1 (fun (j : Nat) => bif Nat.beq j 1 then IntKind.wrap IntKind.i64 (0 - x4) else bif Nat.beq j 0 then x2 else x2)
                            (fun (j : Nat) => bif Nat.beq j 1 then x7 else bif Nat.beq j 0 then x5 else x5) true true)
                          fun (d : Int × Bool) =>
                          bif inR x0 3 then
                            bif x0 == 2 then c (IntKind.wrap IntKind.i64 (x0 + 1), d.2, x2, x3, x4, x5, x6, x7, x8, x9, d.1)
                            else
                              bif x0 == 1 then c (IntKind.wrap IntKind.i64 (x0 + 1), d.2, x2, x3, x4, x5, x6, x7, x8, d.1, x10)
                              else c (IntKind.wrap IntKind.i64 (x0 + 1), d.2, x2, x3, x4, x5, x6, x7, d.1, x9, x10)
                          else none
                      else
                        bif Int.tmod (IntKind.wrap IntKind.i64 (x0 + 1)) 3 == 1 then
                          Option.bind
                            (g___fx_Acc__Dot 30 2 2 x1 (fun (j : Nat) => bif Nat.beq j 1 then IntKind.wrap IntKind.i64 (0 - x4) else bif Nat.beq j 0 then x2 else x2)
                              (fun (j : Nat) => bif Nat.beq j 1 then x6 else bif Nat.beq j 0 then x5 else x5) true true)
                            fun (d : Int × Bool) =>
                            bif inR x0 3 then
                              bif x0 == 2 then c (IntKind.wrap IntKind.i64 (x0 + 1), d.2, x2, x3, x4, x5, x6, x7, x8, x9, d.1)
                              else
                                bif x0 == 1 then c (IntKind.wrap IntKind.i64 (x0 + 1), d.2, x2, x3, x4, x5, x6, x7, x8, d.1, x10)
                                else c (IntKind.wrap IntKind.i64 (x0 + 1), d.2, x2, x3, x4, x5, x6, x7, d.1, x9, x10)
                            else none
                        else
                          Option.bind
                            (g___fx_Acc__Dot 30 2 2 x1 (fun (j : Nat) => bif Nat.beq j 1 then IntKind.wrap IntKind.i64 (0 - x4) else bif Nat.beq j 0 then x2 else x2)
                              (fun (j : Nat) => bif Nat.beq j 1 then x5 else bif Nat.beq j 0 then x5 else x5) true true)
                            fun (d : Int × Bool) =>
                            bif inR x0 3 then
                              bif x0 == 2 then c (IntKind.wrap IntKind.i64 (x0 + 1), d.2, x2, x3, x4, x5, x6, x7, x8, x9, d.1)
                              else
                                bif x0 == 1 then c (IntKind.wrap IntKind.i64 (x0 + 1), d.2, x2, x3, x4, x5, x6, x7, x8, d.1, x10)
                                else c (IntKind.wrap IntKind.i64 (x0 + 1), d.2, x2, x3, x4, x5, x6, x7, d.1, x9, x10)
                            else none
                    else none
              else none
            else
              bif Int.tmod (IntKind.wrap IntKind.i64 (x0 + 2)) 3 == 1 then
                bif inR (Int.tmod (IntKind.wrap IntKind.i64 (x0 + 2)) 3) 3 then
                  bif Int.tmod (IntKind.wrap IntKind.i64 (x0 + 2)) 3 == 2 then
                    bif inR (Int.tmod (IntKind.wrap IntKind.i64 (x0 + 1)) 3) 3 then
                      bif Int.tmod (IntKind.wrap IntKind.i64 (x0 + 1)) 3 == 2 then
                        Option.bind
                          (g___fx_Acc__Dot 30 2 2 x1 (fun (j : Nat) => bif Nat.beq j 1 then IntKind.wrap IntKind.i64 (0 - x3) else bif Nat.beq j 0 then x2 else x2)
                            (fun (j : Nat) => bif Nat.beq j 1 then x7 else bif Nat.beq j 0 then x7 else x7) true true)
                          fun (d : Int × Bool) =>
                          bif inR x0 3 then
                            bif x0 == 2 then c (IntKind.wrap IntKind.i64 (x0 + 1), d.2, x2, x3, x4, x5, x6, x7, x8, x9, d.1)
                            else
                              bif x0 == 1 then c (IntKind.wrap IntKind.i64 (x0 + 1), d.2, x2, x3, x4, x5, x6, x7, x8, d.1, x10)
                              else c (IntKind.wrap IntKind.i64 (x0 + 1), d.2, x2, x3, x4, x5, x6, x7, d.1, x9, x10)
                          else none
                      else
                        bif Int.tmod (IntKind.wrap IntKind.i64 (x0 + 1)) 3 == 1 then
                          Option.bind
                            (g___fx_Acc__Dot 30 2 2 x1 (fun (j : Nat) => bif Nat.beq j 1 then IntKind.wrap IntKind.i64 (0 - x3) else bif Nat.beq j 0 then x2 else x2)
                              (fun (j : Nat) => bif Nat.beq j 1 then x6 else bif Nat.beq j 0 then x7 else x7) true true)
                            fun (d : Int × Bool) =>
                            bif inR x0 3 then
                              bif x0 == 2 then c (IntKind.wrap IntKind.i64 (x0 + 1), d.2, x2, x3, x4, x5, x6, x7, x8, x9, d.1)
                              else
                                bif x0 == 1 then c (IntKind.wrap IntKind.i64 (x0 + 1), d.2, x2, x3, x4, x5, x6, x7, x8, d.1, x10)
                                else c (IntKind.wrap IntKind.i64 (x0 + 1), d.2, x2, x3, x4, x5, x6, x7, d.1, x9, x10)
                            else none
                        else
                          Option.bind
                            (g___fx_Acc__Dot 30 2 2 x1 (fun (j : Nat) => bif Nat.beq j 1 then IntKind.wrap IntKind.i64 (0 - x3) else bif Nat.beq j 0 then x2 else x2)
                              (fun (j : Nat) => bif Nat.beq j 1 then x5 else bif Nat.beq j 0 then x7 else x7) true true)
                            fun (d : Int × Bool) =>
                            bif inR x0 3 then
                              bif x0 == 2 then c (IntKind.wrap IntKind.i64 (x0 + 1), d.2, x2, x3, x4, x5, x6, x7, x8, x9, d.1)
                              else
                                bif x0 == 1 then c (IntKind.wrap IntKind.i64 (x0 + 1), d.2, x2, x3, x4, x5, x6, x7, x8, d.1, x10)
                                else c (IntKind.wrap IntKind.i64 (x0 + 1), d.2, x2, x3, x4, x5, x6, x7, d.1, x9, x10)
                            else none
                    else none
                  else
                    bif Int.tmod (IntKind.wrap IntKind.i64 (x0 + 2)) 3 == 1 then
                      bif inR (Int.tmod (IntKind.wrap IntKind.i64 (x0 + 1)) 3) 3 then
                        bif Int.tmod (IntKind.wrap IntKind.i64 (x0 + 1)) 3 == 2 then
                          Option.bind
                            (g___fx_Acc__Dot 30 2 2 x1 (fun (j : Nat) => bif Nat.beq j 1 then IntKind.wrap IntKind.i64 (0 - x3) else bif Nat.beq j 0 then x2 else x2)
                              (fun (j : Nat) => bif Nat.beq j 1 then x7 else bif Nat.beq j 0 then x6 else x6) true true)
                            fun (d : Int × Bool) =>
                            bif inR x0 3 then
                              bif x0 == 2 then c (IntKind.wrap IntKind.i64 (x0 + 1), d.2, x2, x3, x4, x5, x6, x7, x8, x9, d.1)
                              else
                                bif x0 == 1 then c (IntKind.wrap IntKind.i64 (x0 + 1), d.2, x2, x3, x4, x5, x6, x7, x8, d.1, x10)
                                else c (IntKind.wrap IntKind.i64 (x0 + 1), d.2, x2, x3, x4, x5, x6, x7, d.1, x9, x10)
                            else none
                        else
                          bif Int.tmod (IntKind.wrap IntKind.i64 (x0 + 1)) 3 == 1 then
                            Option.bind
                              (g___fx_Acc__Dot 30 2 2 x1 (fun (j : Nat) => bif Nat.beq j 1 then IntKind.wrap IntKind.i64 (0 - x3) else bif Nat.beq j 0 then x2 else x2)
                                (fun (j : Nat) => bif Nat.beq j 1 then x6 else bif Nat.beq j 0 then x6 else x6) true true)
                              fun (d : Int × Bool) =>
                              bif inR x0 3 then
                                bif x0 == 2 then c (IntKind.wrap IntKind.i64 (x0 + 1), d.2, x2, x3, x4, x5, x6, x7, x8, x9, d.1)
                                else
                                  bif x0 == 1 then c (IntKind.wrap IntKind.i64 (x0 + 1), d.2, x2, x3, x4, x5, x6, x7, x8, d.1, x10)
                                  else c (IntKind.wrap IntKind.i64 (x0 + 1), d.2, x2, x3, x4, x5, x6, x7, d.1, x9, x10)
                              else none
                          else
                            Option.bind
                              (g___fx_Acc__Dot 30 2 2 x1 (fun (j : Nat) => bif Nat.beq j 1 then IntKind.wrap IntKind.i64 (0 - x3) else bif Nat.beq j 0 then x2 else x2)
                                (fun (j : Nat) => bif Nat.beq j 1 then x5 else bif Nat.beq j 0 then x6 else x6) true true)
                              fun (d : Int × Bool) =>
                              bif inR x0 3 then
                                bif x0 == 2 then c (IntKind.wrap IntKind.i64 (x0 + 1), d.2, x2, x3, x4, x5, x6, x7, x8, x9, d.1)
                                else
                                  bif x0 == 1 then c (IntKind.wrap IntKind.i64 (x0 + 1), d.2, x2, x3, x4, x5, x6, x7, x8, d.1, x10)
                                  else c (IntKind.wrap IntKind.i64 (x0 + 1), d.2, x2, x3, x4, x5, x6, x7, d.1, x9, x10)
                              else none
                      else none
                    else
                      bif inR (Int.tmod (IntKind.wrap IntKind.i64 (x0 + 1)) 3) 3 then
                        bif Int.tmod (IntKind.wrap IntKind.i64 (x0 + 1)) 3 == 2 then
                          Option.bind
                            (g___fx_Acc__Dot 30 2 2 x1 (fun (j : Nat) => bif Nat.beq j 1 then IntKind.wrap IntKind.i64 (0 - x3) else bif Nat.beq j 0 then x2 else x2)
                              (fun (j : Nat) => bif Nat.beq j 1 then x7 else bif Nat.beq j 0 then x5 else x5) true true)
                            fun (d : Int × Bool) =>
                            bif inR x0 3 then
                              bif x0 == 2 then c (IntKind.wrap IntKind.i64 (x0 + 1), d.2, x2, x3, x4, x5, x6, x7, x8, x9, d.1)
                              else
                                bif x0 == 1 then c (IntKind.wrap IntKind.i64 (x0 + 1), d.2, x2, x3, x4, x5, x6, x7, x8, d.1, x10)
                                else c (IntKind.wrap IntKind.i64 (x0 + 1), d.2, x2, x3, x4, x5, x6, x7, d.1, x9, x10)
                            else none
                        else
                          bif Int.tmod (IntKind.wrap IntKind.i64 (x0 + 1)) 3 == 1 then
                            Option.bind
                              (g___fx_Acc__Dot 30 2 2 x1 (fun (j : Nat) => bif Nat.beq j 1 then IntKind.wrap IntKind.i64 (0 - x3) else bif Nat.beq j 0 then x2 else x2)
                                (fun (j : Nat) => bif Nat.beq j 1 then x6 else bif Nat.beq j 0 then x5 else x5) true true)
                              fun (d : Int × Bool) =>
                              bif inR x0 3 then
                                bif x0 == 2 then c (IntKind.wrap IntKind.i64 (x0 + 1), d.2, x2, x3, x4, x5, x6, x7, x8, x9, d.1)
                                else
                                  bif x0 == 1 then c (IntKind.wrap IntKind.i64 (x0 + 1), d.2, x2, x3, x4, x5, x6, x7, x8, d.1, x10)
                                  else c (IntKind.wrap IntKind.i64 (x0 + 1), d.2, x2, x3, x4, x5, x6, x7, d.1, x9, x10)
                              else none
                          else
                            Option.bind
                              (g___fx_Acc__Dot 30 2 2 x1 (fun (j : Nat) => bif Nat.beq j 1 then IntKind.wrap IntKind.i64 (0 - x3) else bif Nat.beq j 0 then x2 else x2)
                                (fun (j : Nat) => bif Nat.beq j 1 then x5 else bif Nat.beq j 0 then x5 else x5) true true)
                              fun (d : Int × Bool) =>
                              bif inR x0 3 then
                                bif x0 == 2 then c (IntKind.wrap IntKind.i64 (x0 + 1), d.2, x2, x3, x4, x5, x6, x7, x8, x9, d.1)
                                else
                                  bif x0 == 1 then c (IntKind.wrap IntKind.i64 (x0 + 1), d.2, x2, x3, x4, x5, x6, x7, x8, d.1, x10)
                                  else c (IntKind.wrap IntKind.i64 (x0 + 1), d.2, x2, x3, x4, x5, x6, x7, d.1, x9, x10)
                              else none
                      else none
                else none
              else
                bif inR (Int.tmod (IntKind.wrap IntKind.i64 (x0 + 2)) 3) 3 then
                  bif Int.tmod (IntKind.wrap IntKind.i64 (x0 + 2)) 3 == 2 then
                    bif inR (Int.tmod (IntKind.wrap IntKind.i64 (x0 + 1)) 3) 3 then
                      bif Int.tmod (IntKind.wrap IntKind.i64 (x0 + 1)) 3 == 2 then
                        Option.bind
                          (g___fx_Acc__Dot 30 2 2 x1 (fun (j : Nat) => bif Nat.beq j 1 then IntKind.wrap IntKind.i64 (0 - x2) else bif Nat.beq j 0 then x2 else x2)
                            (fun (j : Nat) => bif Nat.beq j 1 then x7 else bif Nat.beq j 0 then x7 else x7) true true)
                          fun (d : Int × Bool) =>
                          bif inR x0 3 then
                            bif x0 == 2 then c (IntKind.wrap IntKind.i64 (x0 + 1), d.2, x2, x3, x4, x5, x6, x7, x8, x9, d.1)
                            else
                              bif x0 == 1 then c (IntKind.wrap IntKind.i64 (x0 + 1), d.2, x2, x3, x4, x5, x6, x7, x8, d.1, x10)
                              else c (IntKind.wrap IntKind.i64 (x0 + 1), d.2, x2, x3, x4, x5, x6, x7, d.1, x9, x10)
                          else none
                      else
                        bif Int.tmod (IntKind.wrap IntKind.i64 (x0 + 1)) 3 == 1 then
                          Option.bind
                            (g___fx_Acc__Dot 30 2 2 x1 (fun (j : Nat) => bif Nat.beq j 1 then IntKind.wrap IntKind.i64 (0 - x2) else bif Nat.beq j 0 then x2 else x2)
                              (fun (j : Nat) => bif Nat.beq j 1 then x6 else bif Nat.beq j 0 then x7 else x7) true true)
                            fun (d : Int × Bool) =>
                            bif inR x0 3 then
                              bif x0 == 2 then c (IntKind.wrap IntKind.i64 (x0 + 1), d.2, x2, x3, x4, x5, x6, x7, x8, x9, d.1)
                              else
                                bif x0 == 1 then c (IntKind.wrap IntKind.i64 (x0 + 1), d.2, x2, x3, x4, x5, x6, x7, x8, d.1, x10)
                                else c (IntKind.wrap IntKind.i64 (x0 + 1), d.2, x2, x3, x4, x5, x6, x7, d.1, x9, x10)
                            else none
                        else
                          Option.bind
                            (g___fx_Acc__Dot 30 2 2 x1 (fun (j : Nat) => bif Nat.beq j 1 then IntKind.wrap IntKind.i64 (0 - x2) else bif Nat.beq j 0 then x2 else x2)
                              (fun (j : Nat) => bif Nat.beq j 1 then x5 else bif Nat.beq j 0 then x7 else x7) true true)
                            fun (d : Int × Bool) =>
                            bif inR x0 3 then
                              bif x0 == 2 then c (IntKind.wrap IntKind.i64 (x0 + 1), d.2, x2, x3, x4, x5, x6, x7, x8, x9, d.1)
                              else
                                bif x0 == 1 then c (IntKind.wrap IntKind.i64 (x0 + 1), d.2, x2, x3, x4, x5, x6, x7, x8, d.1, x10)
                                else c (IntKind.wrap IntKind.i64 (x0 + 1), d.2, x2, x3, x4, x5, x6, x7, d.1, x9, x10)
                            else none
                    else none
                  else
                    bif Int.tmod (IntKind.wrap IntKind.i64 (x0 + 2)) 3 == 1 then
                      bif inR (Int.tmod (IntKind.wrap IntKind.i64 (x0 + 1)) 3) 3 then
                        bif Int.tmod (IntKind.wrap IntKind.i64 (x0 + 1)) 3 == 2 then
                          Option.bind
                            (g___fx_Acc__Dot 30 2 2 x1 (fun (j : Nat) => bif Nat.beq j 1 then IntKind.wrap IntKind.i64 (0 - x2) else bif Nat.beq j 0 then x2 else x2)
                              (fun (j : Nat) => bif Nat.beq j 1 then x7 else bif Nat.beq j 0 then x6 else x6) true true)
                            fun (d : Int × Bool) =>
                            bif inR x0 3 then
                              bif x0 == 2 then c (IntKind.wrap IntKind.i64 (x0 + 1), d.2, x2, x3, x4, x5, x6, x7, x8, x9, d.1)
                              else
                                bif x0 == 1 then c (IntKind.wrap IntKind.i64 (x0 + 1), d.2, x2, x3, x4, x5, x6, x7, x8, d.1, x10)
                                else c (IntKind.wrap IntKind.i64 (x0 + 1), d.2, x2, x3, x4, x5, x6, x7, d.1, x9, x10)
                            else none
                        else
                          bif Int.tmod (IntKind.wrap IntKind.i64 (x0 + 1)) 3 == 1 then
                            Option.bind
                              (g___fx_Acc__Dot 30 2 2 x1 (fun (j : Nat) => bif Nat.beq j 1 then IntKind.wrap IntKind.i64 (0 - x2) else bif Nat.beq j 0 then x2 else x2)
                                (fun (j : Nat) => bif Nat.beq j 1 then x6 else bif Nat.beq j 0 then x6 else x6) true true)
                              fun (d : Int × Bool) =>
                              bif inR x0 3 then
                                bif x0 == 2 then c (IntKind.wrap IntKind.i64 (x0 + 1), d.2, x2, x3, x4, x5, x6, x7, x8, x9, d.1)
                                else
                                  bif x0 == 1 then c (IntKind.wrap IntKind.i64 (x0 + 1), d.2, x2, x3, x4, x5, x6, x7, x8, d.1, x10)
                                  else c (IntKind.wrap IntKind.i64 (x0 + 1), d.2, x2, x3, x4, x5, x6, x7, d.1, x9, x10)
                              else none
                          else
                            Option.bind
                              (g___fx_Acc__Dot 30 2 2 x1 (fun (j : Nat) => bif Nat.beq j 1 then IntKind.wrap IntKind.i64 (0 - x2) else bif Nat.beq j 0 then x2 else x2)
                                (fun (j : Nat) => bif Nat.beq j 1 then x5 else bif Nat.beq j 0 then x6 else x6) true true)
                              fun (d : Int × Bool) =>
                              bif inR x0 3 then
                                bif x0 == 2 then c (IntKind.wrap IntKind.i64 (x0 + 1), d.2, x2, x3, x4, x5, x6, x7, x8, x9, d.1)
                                else
                                  bif x0 == 1 then c (IntKind.wrap IntKind.i64 (x0 + 1), d.2, x2, x3, x4, x5, x6, x7, x8, d.1, x10)
                                  else c (IntKind.wrap IntKind.i64 (x0 + 1), d.2, x2, x3, x4, x5, x6, x7, d.1, x9, x10)
                              else none
                      else none
                    else
                      bif inR (Int.tmod (IntKind.wrap IntKind.i64 (x0 + 1)) 3) 3 then
                        bif Int.tmod (IntKind.wrap IntKind.i64 (x0 + 1)) 3 == 2 then
                          Option.bind
                            (g___fx_Acc__Dot 30 2 2 x1 (fun (j : Nat) => bif Nat.beq j 1 then IntKind.wrap IntKind.i64 (0 - x2) else bif Nat.beq j 0 then x2 else x2)
                              (fun (j : Nat) => bif Nat.beq j 1 then x7 else bif Nat.beq j 0 then x5 else x5) true true)
                            fun (d : Int × Bool) =>
                            bif inR x0 3 then
                              bif x0 == 2 then c (IntKind.wrap IntKind.i64 (x0 + 1), d.2, x2, x3, x4, x5, x6, x7, x8, x9, d.1)
                              else
                                bif x0 == 1 then c (IntKind.wrap IntKind.i64 (x0 + 1), d.2, x2, x3, x4, x5, x6, x7, x8, d.1, x10)
                                else c (IntKind.wrap IntKind.i64 (x0 + 1), d.2, x2, x3, x4, x5, x6, x7, d.1, x9, x10)
                            else none
                        else
                          bif Int.tmod (IntKind.wrap IntKind.i64 (x0 + 1)) 3 == 1 then
                            Option.bind
                              (g___fx_Acc__Dot 30 2 2 x1 (fun (j : Nat) => bif Nat.beq j 1 then IntKind.wrap IntKind.i64 (0 - x2) else bif Nat.beq j 0 then x2 else x2)
                                (fun (j : Nat) => bif Nat.beq j 1 then x6 else bif Nat.beq j 0 then x5 else x5) true true)
                              fun (d : Int × Bool) =>
                              bif inR x0 3 then
                                bif x0 == 2 then c (IntKind.wrap IntKind.i64 (x0 + 1), d.2, x2, x3, x4, x5, x6, x7, x8, x9, d.1)
                                else
                                  bif x0 == 1 then c (IntKind.wrap IntKind.i64 (x0 + 1), d.2, x2, x3, x4, x5, x6, x7, x8, d.1, x10)
                                  else c (IntKind.wrap IntKind.i64 (x0 + 1), d.2, x2, x3, x4, x5, x6, x7, d.1, x9, x10)
                              else none
                          else
                            Option.bind
                              (g___fx_Acc__Dot 30 2 2 x1 (fun (j : Nat) => bif Nat.beq j 1 then IntKind.wrap IntKind.i64 (0 - x2) else bif Nat.beq j 0 then x2 else x2)
                                (fun (j : Nat) => bif Nat.beq j 1 then x5 else bif Nat.beq j 0 then x5 else x5) true true)
                              fun (d : Int × Bool) =>
                              bif inR x0 3 then
                                bif x0 == 2 then c (IntKind.wrap IntKind.i64 (x0 + 1), d.2, x2, x3, x4, x5, x6, x7, x8, x9, d.1)
                                else
                                  bif x0 == 1 then c (IntKind.wrap IntKind.i64 (x0 + 1), d.2, x2, x3, x4, x5, x6, x7, x8, d.1, x10)
                                  else c (IntKind.wrap IntKind.i64 (x0 + 1), d.2, x2, x3, x4, x5, x6, x7, d.1, x9, x10)
                              else none
                      else none
                else none
          else none
    else none
  else x (x0, decide (x0 < 3), x1, x2, x3, x4, x5, x6, x7, x8, x9, x10)
section
open Go.Ab.Rdr
def Q_vec_Cross_0 := (st (cons (ar (rc (cptr (nat 0) (ok' (nat 0)) (nat 1)))) (cons aund (cons aund (cons aund (cons (ar (rc (cptr (nat 1) (ok' (nat 0)) (nat 3)))) (cons (ar (rc (cptr (nat 2) (ok' (nat 0)) (nat 3)))) (cons (ar (rc (cptr (nat 3) (ok' (nat 0)) (nat 3)))) (cons (ar (rc (cptr (nat 4) (ok' (nat 0)) (nat 3)))) (cons aund (cons aund (cons aund (cons aund (cons aund (cons aund (cons aund (cons aund (cons aund (cons (ar (rc (cf (fi .i64 hole)))) (cons aund (cons aund (cons aund (cons aund (cons aund (cons aund (cons aund (cons aund (cons aund (cons aund (cons aund (cons aund (cons aund (cons aund (cons aund (cons aund (cons aund (cons aund (cons aund (cons aund (cons aund (cons aund (cons aund (cons aund (cons aund (cons aund (cons aund (cons aund (cons aund nil))))))))))))))))))))))))))))))))))))))))))))))) (cons (some' (cons (gc (cf (fb hole))) nil)) (cons (some' (cons (gc (cf (fi .i64 hole))) (cons (gc (cf (fi .i64 hole))) (cons (gc (cf (fi .i64 hole))) nil)))) (cons (some' (cons (gc (cf (fi .i64 hole))) (cons (gc (cf (fi .i64 hole))) (cons (gc (cf (fi .i64 hole))) nil)))) (cons (some' (cons (gc (cf (fi .i64 (int 0)))) (cons (gc (cf (fi .i64 (int 0)))) (cons (gc (cf (fi .i64 (int 0)))) nil)))) (cons (some' (cons (gc (cf (fi .i64 hole))) (cons (gc (cf (fi .i64 hole))) (cons (gc (cf (fi .i64 hole))) nil)))) nil))))) (cons (nat 0) nil))
end
theorem q_vec_Cross_0 : ∀ b, (Q_vec_Cross_0).em b = St.mk
    [AV.r (RV.c (CV.ptr 0 (Off.k 0) 1)), AV.und, AV.und, AV.und, AV.r (RV.c (CV.ptr 1 (Off.k 0) 3)), AV.r (RV.c (CV.ptr 2 (Off.k 0) 3)), AV.r (RV.c (CV.ptr 3 (Off.k 0) 3)),
      AV.r (RV.c (CV.ptr 4 (Off.k 0) 3)), AV.und, AV.und, AV.und, AV.und, AV.und, AV.und, AV.und, AV.und, AV.und, AV.r (RV.c (CV.f (FV.i IntKind.i64 b.1.2.2.2.2.2.2.2.2.2.2.2.2.2.2.2.2.2.1))), AV.und, AV.und, AV.und, AV.und, AV.und,
      AV.und, AV.und, AV.und, AV.und, AV.und, AV.und, AV.und, AV.und, AV.und, AV.und, AV.und, AV.und, AV.und, AV.und, AV.und, AV.und, AV.und, AV.und, AV.und, AV.und, AV.und, AV.und, AV.und, AV.und]
    [some [Sg.c (CV.f (FV.b b.2.1.1.1))], some [Sg.c (CV.f (FV.i IntKind.i64 b.2.1.2.1.1)), Sg.c (CV.f (FV.i IntKind.i64 b.2.1.2.1.2.1)), Sg.c (CV.f (FV.i IntKind.i64 b.2.1.2.1.2.2.1))],
      some [Sg.c (CV.f (FV.i IntKind.i64 b.2.1.2.2.1.1)), Sg.c (CV.f (FV.i IntKind.i64 b.2.1.2.2.1.2.1)), Sg.c (CV.f (FV.i IntKind.i64 b.2.1.2.2.1.2.2.1))],
      some [Sg.c (CV.f (FV.i IntKind.i64 0)), Sg.c (CV.f (FV.i IntKind.i64 0)), Sg.c (CV.f (FV.i IntKind.i64 0))],
      some [Sg.c (CV.f (FV.i IntKind.i64 b.2.1.2.2.2.2.1.1)), Sg.c (CV.f (FV.i IntKind.i64 b.2.1.2.2.2.2.1.2.1)), Sg.c (CV.f (FV.i IntKind.i64 b.2.1.2.2.2.2.1.2.2.1))]]
    [0] := fun b => by kernel_rfl
def R_vec_Cross_0 (l : ∀ {ρ : Type}, (Int × Bool × Int × Int × Int × Int × Int × Int × Int × Int × Int) → ((Int × Bool × Bool × Int × Int × Int × Int × Int × Int × Int × Int × Int) → Option ρ) → Option ρ) {ρ : Type} (s : St) (K : AX → St → Option ρ) : Option ρ := ((Q_vec_Cross_0).rd s).bind fun b => l (b.1.2.2.2.2.2.2.2.2.2.2.2.2.2.2.2.2.2.1, b.2.1.1.1, b.2.1.2.1.1, b.2.1.2.1.2.1, b.2.1.2.1.2.2.1, b.2.1.2.2.1.1, b.2.1.2.2.1.2.1, b.2.1.2.2.1.2.2.1, b.2.1.2.2.2.2.1.1, b.2.1.2.2.2.2.1.2.1, b.2.1.2.2.2.2.1.2.2.1) (fun d => K (AX.ex 0) (St.mk
  [AV.r (RV.c (CV.ptr 0 (Off.k 0) 1)), AV.und, AV.und, AV.und, AV.r (RV.c (CV.ptr 1 (Off.k 0) 3)), AV.r (RV.c (CV.ptr 2 (Off.k 0) 3)), AV.r (RV.c (CV.ptr 3 (Off.k 0) 3)),
    AV.r (RV.c (CV.ptr 4 (Off.k 0) 3)), AV.und, AV.und, AV.und, AV.und, AV.und, AV.und, AV.und, AV.und, AV.und, AV.r (RV.c (CV.f (FV.i IntKind.i64 d.1))), AV.r (RV.c (CV.f (FV.b d.2.1))),
    AV.und, AV.und, AV.und, AV.und, AV.und, AV.und, AV.und, AV.und, AV.und, AV.und, AV.und, AV.und, AV.und, AV.und, AV.und, AV.und, AV.und, AV.und, AV.und, AV.und, AV.und, AV.und, AV.und, AV.und,
    AV.und, AV.und, AV.und, AV.und]
  [some [Sg.c (CV.f (FV.b d.2.2.1))],
    some [Sg.c (CV.f (FV.i IntKind.i64 d.2.2.2.1)), Sg.c (CV.f (FV.i IntKind.i64 d.2.2.2.2.1)), Sg.c (CV.f (FV.i IntKind.i64 d.2.2.2.2.2.1))],
    some
      [Sg.c (CV.f (FV.i IntKind.i64 d.2.2.2.2.2.2.1)), Sg.c (CV.f (FV.i IntKind.i64 d.2.2.2.2.2.2.2.1)),
        Sg.c (CV.f (FV.i IntKind.i64 d.2.2.2.2.2.2.2.2.1))],
    some [Sg.c (CV.f (FV.i IntKind.i64 0)), Sg.c (CV.f (FV.i IntKind.i64 0)), Sg.c (CV.f (FV.i IntKind.i64 0))],
    some
      [Sg.c (CV.f (FV.i IntKind.i64 d.2.2.2.2.2.2.2.2.2.1)), Sg.c (CV.f (FV.i IntKind.i64 d.2.2.2.2.2.2.2.2.2.2.1)),
        Sg.c (CV.f (FV.i IntKind.i64 d.2.2.2.2.2.2.2.2.2.2.2))]]
  [0]))
theorem ms_vec_Cross_0 {ρ σ : Type} (g_vec_Sat : Int → Int → Int → Bool → Option (Int × Int × Int × Bool)) (g___fx_Acc__Dot : Int → Nat → Nat → Bool → (Nat → Int) → (Nat → Int) → Bool → Bool → Option (Int × Bool))   (q : ρ → Option σ) (x0 : Int) (x1 : Bool) (x2 : Int) (x3 : Int) (x4 : Int) (x5 : Int) (x6 : Int) (x7 : Int) (x8 : Int) (x9 : Int) (x10 : Int) (c : (Int × Bool × Int × Int × Int × Int × Int × Int × Int × Int × Int) → Option ρ) (x : (Int × Bool × Bool × Int × Int × Int × Int × Int × Int × Int × Int × Int) → Option ρ) : (S_vec_Cross_0 g_vec_Sat g___fx_Acc__Dot  x0 x1 x2 x3 x4 x5 x6 x7 x8 x9 x10 c x).bind q = S_vec_Cross_0 g_vec_Sat g___fx_Acc__Dot  x0 x1 x2 x3 x4 x5 x6 x7 x8 x9 x10 (fun d => (c d).bind q) (fun d => (x d).bind q) := by
  simp only [S_vec_Cross_0, bnd_cond, bnd_bind, bnd_none, bnd_sum]
def L_vec_Cross_0 {ρ : Type} (d : Int × Bool × Int × Int × Int × Int × Int × Int × Int × Int × Int) (k : (Int × Bool × Bool × Int × Int × Int × Int × Int × Int × Int × Int × Int) → Option ρ) : Option ρ := loopK (fun d c x => S_vec_Cross_0 f_vec_Sat f___fx_Acc__Dot  d.1 d.2.1 d.2.2.1 d.2.2.2.1 d.2.2.2.2.1 d.2.2.2.2.2.1 d.2.2.2.2.2.2.1 d.2.2.2.2.2.2.2.1 d.2.2.2.2.2.2.2.2.1 d.2.2.2.2.2.2.2.2.2.1 d.2.2.2.2.2.2.2.2.2.2 c x) 200 d k
theorem mL_vec_Cross_0 {ρ σ : Type} (q : ρ → Option σ) (d : Int × Bool × Int × Int × Int × Int × Int × Int × Int × Int × Int) (k : (Int × Bool × Bool × Int × Int × Int × Int × Int × Int × Int × Int × Int) → Option ρ) : (L_vec_Cross_0 d k).bind q = L_vec_Cross_0 d fun x => (k x).bind q :=
  loopK_bind q (fun d c x => ms_vec_Cross_0 f_vec_Sat f___fx_Acc__Dot   q d.1 d.2.1 d.2.2.1 d.2.2.2.1 d.2.2.2.2.1 d.2.2.2.2.2.1 d.2.2.2.2.2.2.1 d.2.2.2.2.2.2.2.1 d.2.2.2.2.2.2.2.2.1 d.2.2.2.2.2.2.2.2.2.1 d.2.2.2.2.2.2.2.2.2.2 c x) k _ d
theorem ds_vec_Cross_0 {ρ : Type} (g_vec_Sat : Int → Int → Int → Bool → Option (Int × Int × Int × Bool)) (g___fx_Acc__Dot : Int → Nat → Nat → Bool → (Nat → Int) → (Nat → Int) → Bool → Bool → Option (Int × Bool)) (l_0 : ∀ {ρ : Type}, (Int × Bool × Int × Int × Int × Int × Int × Int × Int × Int × Int) → ((Int × Bool × Bool × Int × Int × Int × Int × Int × Int × Int × Int × Int) → Option ρ) → Option ρ) (x0 : Int) (x1 : Bool) (x2 : Int) (x3 : Int) (x4 : Int) (x5 : Int) (x6 : Int) (x7 : Int) (x8 : Int) (x9 : Int) (x10 : Int) (c : St → Option ρ) (K : AX → St → Option ρ) :
    runC Try.prog (envOf [(32, F_vec_Sat g_vec_Sat), (57, F___fx_Acc__Dot g___fx_Acc__Dot)]) ⟨[⟨4, [1, 2, 3, 8, 9, 10, 11, 12, 13, 14, 15, 16, 18, 19, 20, 21, 22, 23, 24, 25, 26, 27, 28, 29, 30, 31, 32, 33, 34, 35, 36, 37, 38, 39, 40, 41, 42, 43, 44, 45, 46], []⟩], [⟨4, 1, @R_vec_Cross_0 (@l_0)⟩], [], [], none⟩ (tmpsOf Try.prog 40) 1 200 (loopIn Try.prog 40 4)
      (St.mk
    [AV.r (RV.c (CV.ptr 0 (Off.k 0) 1)), AV.und, AV.und, AV.und, AV.r (RV.c (CV.ptr 1 (Off.k 0) 3)), AV.r (RV.c (CV.ptr 2 (Off.k 0) 3)), AV.r (RV.c (CV.ptr 3 (Off.k 0) 3)),
      AV.r (RV.c (CV.ptr 4 (Off.k 0) 3)), AV.und, AV.und, AV.und, AV.und, AV.und, AV.und, AV.und, AV.und, AV.und, AV.r (RV.c (CV.f (FV.i IntKind.i64 x0))), AV.und, AV.und, AV.und, AV.und, AV.und,
      AV.und, AV.und, AV.und, AV.und, AV.und, AV.und, AV.und, AV.und, AV.und, AV.und, AV.und, AV.und, AV.und, AV.und, AV.und, AV.und, AV.und, AV.und, AV.und, AV.und, AV.und, AV.und, AV.und, AV.und]
    [some [Sg.c (CV.f (FV.b x1))], some [Sg.c (CV.f (FV.i IntKind.i64 x2)), Sg.c (CV.f (FV.i IntKind.i64 x3)), Sg.c (CV.f (FV.i IntKind.i64 x4))],
      some [Sg.c (CV.f (FV.i IntKind.i64 x5)), Sg.c (CV.f (FV.i IntKind.i64 x6)), Sg.c (CV.f (FV.i IntKind.i64 x7))],
      some [Sg.c (CV.f (FV.i IntKind.i64 0)), Sg.c (CV.f (FV.i IntKind.i64 0)), Sg.c (CV.f (FV.i IntKind.i64 0))],
      some [Sg.c (CV.f (FV.i IntKind.i64 x8)), Sg.c (CV.f (FV.i IntKind.i64 x9)), Sg.c (CV.f (FV.i IntKind.i64 x10))]]
    [0])
      (next (fun t => t.head 1 ⟨[⟨4, [1, 2, 3, 8, 9, 10, 11, 12, 13, 14, 15, 16, 18, 19, 20, 21, 22, 23, 24, 25, 26, 27, 28, 29, 30, 31, 32, 33, 34, 35, 36, 37, 38, 39, 40, 41, 42, 43, 44, 45, 46], []⟩], [⟨4, 1, @R_vec_Cross_0 (@l_0)⟩], [], [], none⟩ (loopIn Try.prog 40 4)) c K) =
    S_vec_Cross_0 g_vec_Sat g___fx_Acc__Dot  x0 x1 x2 x3 x4 x5 x6 x7 x8 x9 x10 (fun d => c (St.mk
  [AV.r (RV.c (CV.ptr 0 (Off.k 0) 1)), AV.und, AV.und, AV.und, AV.r (RV.c (CV.ptr 1 (Off.k 0) 3)), AV.r (RV.c (CV.ptr 2 (Off.k 0) 3)), AV.r (RV.c (CV.ptr 3 (Off.k 0) 3)),
    AV.r (RV.c (CV.ptr 4 (Off.k 0) 3)), AV.und, AV.und, AV.und, AV.und, AV.und, AV.und, AV.und, AV.und, AV.und, AV.r (RV.c (CV.f (FV.i IntKind.i64 d.1))), AV.und, AV.und, AV.und, AV.und, AV.und,
    AV.und, AV.und, AV.und, AV.und, AV.und, AV.und, AV.und, AV.und, AV.und, AV.und, AV.und, AV.und, AV.und, AV.und, AV.und, AV.und, AV.und, AV.und, AV.und, AV.und, AV.und, AV.und, AV.und, AV.und]
  [some [Sg.c (CV.f (FV.b d.2.1))], some [Sg.c (CV.f (FV.i IntKind.i64 d.2.2.1)), Sg.c (CV.f (FV.i IntKind.i64 d.2.2.2.1)), Sg.c (CV.f (FV.i IntKind.i64 d.2.2.2.2.1))],
    some [Sg.c (CV.f (FV.i IntKind.i64 d.2.2.2.2.2.1)), Sg.c (CV.f (FV.i IntKind.i64 d.2.2.2.2.2.2.1)), Sg.c (CV.f (FV.i IntKind.i64 d.2.2.2.2.2.2.2.1))],
    some [Sg.c (CV.f (FV.i IntKind.i64 0)), Sg.c (CV.f (FV.i IntKind.i64 0)), Sg.c (CV.f (FV.i IntKind.i64 0))],
    some
      [Sg.c (CV.f (FV.i IntKind.i64 d.2.2.2.2.2.2.2.2.1)), Sg.c (CV.f (FV.i IntKind.i64 d.2.2.2.2.2.2.2.2.2.1)),
        Sg.c (CV.f (FV.i IntKind.i64 d.2.2.2.2.2.2.2.2.2.2))]]
  [0])) (fun d => K (AX.ex 0) (St.mk
  [AV.r (RV.c (CV.ptr 0 (Off.k 0) 1)), AV.und, AV.und, AV.und, AV.r (RV.c (CV.ptr 1 (Off.k 0) 3)), AV.r (RV.c (CV.ptr 2 (Off.k 0) 3)), AV.r (RV.c (CV.ptr 3 (Off.k 0) 3)),
    AV.r (RV.c (CV.ptr 4 (Off.k 0) 3)), AV.und, AV.und, AV.und, AV.und, AV.und, AV.und, AV.und, AV.und, AV.und, AV.r (RV.c (CV.f (FV.i IntKind.i64 d.1))), AV.r (RV.c (CV.f (FV.b d.2.1))),
    AV.und, AV.und, AV.und, AV.und, AV.und, AV.und, AV.und, AV.und, AV.und, AV.und, AV.und, AV.und, AV.und, AV.und, AV.und, AV.und, AV.und, AV.und, AV.und, AV.und, AV.und, AV.und, AV.und, AV.und,
    AV.und, AV.und, AV.und, AV.und]
  [some [Sg.c (CV.f (FV.b d.2.2.1))],
    some [Sg.c (CV.f (FV.i IntKind.i64 d.2.2.2.1)), Sg.c (CV.f (FV.i IntKind.i64 d.2.2.2.2.1)), Sg.c (CV.f (FV.i IntKind.i64 d.2.2.2.2.2.1))],
    some
      [Sg.c (CV.f (FV.i IntKind.i64 d.2.2.2.2.2.2.1)), Sg.c (CV.f (FV.i IntKind.i64 d.2.2.2.2.2.2.2.1)),
        Sg.c (CV.f (FV.i IntKind.i64 d.2.2.2.2.2.2.2.2.1))],
    some [Sg.c (CV.f (FV.i IntKind.i64 0)), Sg.c (CV.f (FV.i IntKind.i64 0)), Sg.c (CV.f (FV.i IntKind.i64 0))],
    some
      [Sg.c (CV.f (FV.i IntKind.i64 d.2.2.2.2.2.2.2.2.2.1)), Sg.c (CV.f (FV.i IntKind.i64 d.2.2.2.2.2.2.2.2.2.2.1)),
        Sg.c (CV.f (FV.i IntKind.i64 d.2.2.2.2.2.2.2.2.2.2.2))]]
  [0])) := by kernel_rfl
theorem it_vec_Cross_0 {ρ : Type} (x0 : Int) (x1 : Bool) (x2 : Int) (x3 : Int) (x4 : Int) (x5 : Int) (x6 : Int) (x7 : Int) (x8 : Int) (x9 : Int) (x10 : Int) (K : AX → St → Option ρ) :
    iter (fun t => t.head 1 ⟨[⟨4, [1, 2, 3, 8, 9, 10, 11, 12, 13, 14, 15, 16, 18, 19, 20, 21, 22, 23, 24, 25, 26, 27, 28, 29, 30, 31, 32, 33, 34, 35, 36, 37, 38, 39, 40, 41, 42, 43, 44, 45, 46], []⟩], [⟨4, 1, @R_vec_Cross_0 (@L_vec_Cross_0)⟩], [], [], none⟩ (loopIn Try.prog 40 4)) (runC Try.prog (envOf [(32, F_vec_Sat f_vec_Sat), (57, F___fx_Acc__Dot f___fx_Acc__Dot)]) ⟨[⟨4, [1, 2, 3, 8, 9, 10, 11, 12, 13, 14, 15, 16, 18, 19, 20, 21, 22, 23, 24, 25, 26, 27, 28, 29, 30, 31, 32, 33, 34, 35, 36, 37, 38, 39, 40, 41, 42, 43, 44, 45, 46], []⟩], [⟨4, 1, @R_vec_Cross_0 (@L_vec_Cross_0)⟩], [], [], none⟩ (tmpsOf Try.prog 40) 1 200 (loopIn Try.prog 40 4)) K 200
      (St.mk
    [AV.r (RV.c (CV.ptr 0 (Off.k 0) 1)), AV.und, AV.und, AV.und, AV.r (RV.c (CV.ptr 1 (Off.k 0) 3)), AV.r (RV.c (CV.ptr 2 (Off.k 0) 3)), AV.r (RV.c (CV.ptr 3 (Off.k 0) 3)),
      AV.r (RV.c (CV.ptr 4 (Off.k 0) 3)), AV.und, AV.und, AV.und, AV.und, AV.und, AV.und, AV.und, AV.und, AV.und, AV.r (RV.c (CV.f (FV.i IntKind.i64 x0))), AV.und, AV.und, AV.und, AV.und, AV.und,
      AV.und, AV.und, AV.und, AV.und, AV.und, AV.und, AV.und, AV.und, AV.und, AV.und, AV.und, AV.und, AV.und, AV.und, AV.und, AV.und, AV.und, AV.und, AV.und, AV.und, AV.und, AV.und, AV.und, AV.und]
    [some [Sg.c (CV.f (FV.b x1))], some [Sg.c (CV.f (FV.i IntKind.i64 x2)), Sg.c (CV.f (FV.i IntKind.i64 x3)), Sg.c (CV.f (FV.i IntKind.i64 x4))],
      some [Sg.c (CV.f (FV.i IntKind.i64 x5)), Sg.c (CV.f (FV.i IntKind.i64 x6)), Sg.c (CV.f (FV.i IntKind.i64 x7))],
      some [Sg.c (CV.f (FV.i IntKind.i64 0)), Sg.c (CV.f (FV.i IntKind.i64 0)), Sg.c (CV.f (FV.i IntKind.i64 0))],
      some [Sg.c (CV.f (FV.i IntKind.i64 x8)), Sg.c (CV.f (FV.i IntKind.i64 x9)), Sg.c (CV.f (FV.i IntKind.i64 x10))]]
    [0]) = L_vec_Cross_0 (x0, x1, x2, x3, x4, x5, x6, x7, x8, x9, x10) (fun d => K (AX.ex 0) (St.mk
  [AV.r (RV.c (CV.ptr 0 (Off.k 0) 1)), AV.und, AV.und, AV.und, AV.r (RV.c (CV.ptr 1 (Off.k 0) 3)), AV.r (RV.c (CV.ptr 2 (Off.k 0) 3)), AV.r (RV.c (CV.ptr 3 (Off.k 0) 3)),
    AV.r (RV.c (CV.ptr 4 (Off.k 0) 3)), AV.und, AV.und, AV.und, AV.und, AV.und, AV.und, AV.und, AV.und, AV.und, AV.r (RV.c (CV.f (FV.i IntKind.i64 d.1))), AV.r (RV.c (CV.f (FV.b d.2.1))),
    AV.und, AV.und, AV.und, AV.und, AV.und, AV.und, AV.und, AV.und, AV.und, AV.und, AV.und, AV.und, AV.und, AV.und, AV.und, AV.und, AV.und, AV.und, AV.und, AV.und, AV.und, AV.und, AV.und, AV.und,
    AV.und, AV.und, AV.und, AV.und]
  [some [Sg.c (CV.f (FV.b d.2.2.1))],
    some [Sg.c (CV.f (FV.i IntKind.i64 d.2.2.2.1)), Sg.c (CV.f (FV.i IntKind.i64 d.2.2.2.2.1)), Sg.c (CV.f (FV.i IntKind.i64 d.2.2.2.2.2.1))],
    some
      [Sg.c (CV.f (FV.i IntKind.i64 d.2.2.2.2.2.2.1)), Sg.c (CV.f (FV.i IntKind.i64 d.2.2.2.2.2.2.2.1)),
        Sg.c (CV.f (FV.i IntKind.i64 d.2.2.2.2.2.2.2.2.1))],
    some [Sg.c (CV.f (FV.i IntKind.i64 0)), Sg.c (CV.f (FV.i IntKind.i64 0)), Sg.c (CV.f (FV.i IntKind.i64 0))],
    some
      [Sg.c (CV.f (FV.i IntKind.i64 d.2.2.2.2.2.2.2.2.2.1)), Sg.c (CV.f (FV.i IntKind.i64 d.2.2.2.2.2.2.2.2.2.2.1)),
        Sg.c (CV.f (FV.i IntKind.i64 d.2.2.2.2.2.2.2.2.2.2.2))]]
  [0])) :=
  iter_loopX (emb := fun (d : Int × Bool × Int × Int × Int × Int × Int × Int × Int × Int × Int) => St.mk
  [AV.r (RV.c (CV.ptr 0 (Off.k 0) 1)), AV.und, AV.und, AV.und, AV.r (RV.c (CV.ptr 1 (Off.k 0) 3)), AV.r (RV.c (CV.ptr 2 (Off.k 0) 3)), AV.r (RV.c (CV.ptr 3 (Off.k 0) 3)),
    AV.r (RV.c (CV.ptr 4 (Off.k 0) 3)), AV.und, AV.und, AV.und, AV.und, AV.und, AV.und, AV.und, AV.und, AV.und, AV.r (RV.c (CV.f (FV.i IntKind.i64 d.1))), AV.und, AV.und, AV.und, AV.und, AV.und,
    AV.und, AV.und, AV.und, AV.und, AV.und, AV.und, AV.und, AV.und, AV.und, AV.und, AV.und, AV.und, AV.und, AV.und, AV.und, AV.und, AV.und, AV.und, AV.und, AV.und, AV.und, AV.und, AV.und, AV.und]
  [some [Sg.c (CV.f (FV.b d.2.1))], some [Sg.c (CV.f (FV.i IntKind.i64 d.2.2.1)), Sg.c (CV.f (FV.i IntKind.i64 d.2.2.2.1)), Sg.c (CV.f (FV.i IntKind.i64 d.2.2.2.2.1))],
    some [Sg.c (CV.f (FV.i IntKind.i64 d.2.2.2.2.2.1)), Sg.c (CV.f (FV.i IntKind.i64 d.2.2.2.2.2.2.1)), Sg.c (CV.f (FV.i IntKind.i64 d.2.2.2.2.2.2.2.1))],
    some [Sg.c (CV.f (FV.i IntKind.i64 0)), Sg.c (CV.f (FV.i IntKind.i64 0)), Sg.c (CV.f (FV.i IntKind.i64 0))],
    some
      [Sg.c (CV.f (FV.i IntKind.i64 d.2.2.2.2.2.2.2.2.1)), Sg.c (CV.f (FV.i IntKind.i64 d.2.2.2.2.2.2.2.2.2.1)),
        Sg.c (CV.f (FV.i IntKind.i64 d.2.2.2.2.2.2.2.2.2.2))]]
  [0]) (step := fun d c x => S_vec_Cross_0 f_vec_Sat f___fx_Acc__Dot  d.1 d.2.1 d.2.2.1 d.2.2.2.1 d.2.2.2.2.1 d.2.2.2.2.2.1 d.2.2.2.2.2.2.1 d.2.2.2.2.2.2.2.1 d.2.2.2.2.2.2.2.2.1 d.2.2.2.2.2.2.2.2.2.1 d.2.2.2.2.2.2.2.2.2.2 c x) (kx := (fun d => K (AX.ex 0) (St.mk
  [AV.r (RV.c (CV.ptr 0 (Off.k 0) 1)), AV.und, AV.und, AV.und, AV.r (RV.c (CV.ptr 1 (Off.k 0) 3)), AV.r (RV.c (CV.ptr 2 (Off.k 0) 3)), AV.r (RV.c (CV.ptr 3 (Off.k 0) 3)),
    AV.r (RV.c (CV.ptr 4 (Off.k 0) 3)), AV.und, AV.und, AV.und, AV.und, AV.und, AV.und, AV.und, AV.und, AV.und, AV.r (RV.c (CV.f (FV.i IntKind.i64 d.1))), AV.r (RV.c (CV.f (FV.b d.2.1))),
    AV.und, AV.und, AV.und, AV.und, AV.und, AV.und, AV.und, AV.und, AV.und, AV.und, AV.und, AV.und, AV.und, AV.und, AV.und, AV.und, AV.und, AV.und, AV.und, AV.und, AV.und, AV.und, AV.und, AV.und,
    AV.und, AV.und, AV.und, AV.und]
  [some [Sg.c (CV.f (FV.b d.2.2.1))],
    some [Sg.c (CV.f (FV.i IntKind.i64 d.2.2.2.1)), Sg.c (CV.f (FV.i IntKind.i64 d.2.2.2.2.1)), Sg.c (CV.f (FV.i IntKind.i64 d.2.2.2.2.2.1))],
    some
      [Sg.c (CV.f (FV.i IntKind.i64 d.2.2.2.2.2.2.1)), Sg.c (CV.f (FV.i IntKind.i64 d.2.2.2.2.2.2.2.1)),
        Sg.c (CV.f (FV.i IntKind.i64 d.2.2.2.2.2.2.2.2.1))],
    some [Sg.c (CV.f (FV.i IntKind.i64 0)), Sg.c (CV.f (FV.i IntKind.i64 0)), Sg.c (CV.f (FV.i IntKind.i64 0))],
    some
      [Sg.c (CV.f (FV.i IntKind.i64 d.2.2.2.2.2.2.2.2.2.1)), Sg.c (CV.f (FV.i IntKind.i64 d.2.2.2.2.2.2.2.2.2.2.1)),
        Sg.c (CV.f (FV.i IntKind.i64 d.2.2.2.2.2.2.2.2.2.2.2))]]
  [0])))
    (fun d c => ds_vec_Cross_0 f_vec_Sat f___fx_Acc__Dot (@L_vec_Cross_0) d.1 d.2.1 d.2.2.1 d.2.2.2.1 d.2.2.2.2.1 d.2.2.2.2.2.1 d.2.2.2.2.2.2.1 d.2.2.2.2.2.2.2.1 d.2.2.2.2.2.2.2.2.1 d.2.2.2.2.2.2.2.2.2.1 d.2.2.2.2.2.2.2.2.2.2 c K) 200 (x0, x1, x2, x3, x4, x5, x6, x7, x8, x9, x10)
theorem so_vec_Cross_0 : ∀ kk, SumOK Try.prog (envOf [(32, F_vec_Sat f_vec_Sat), (57, F___fx_Acc__Dot f___fx_Acc__Dot)]) ⟨[⟨4, [1, 2, 3, 8, 9, 10, 11, 12, 13, 14, 15, 16, 18, 19, 20, 21, 22, 23, 24, 25, 26, 27, 28, 29, 30, 31, 32, 33, 34, 35, 36, 37, 38, 39, 40, 41, 42, 43, 44, 45, 46], []⟩], [⟨4, 1, @R_vec_Cross_0 (@L_vec_Cross_0)⟩], [], [], none⟩ (tmpsOf Try.prog 40) kk 200 (loopIn Try.prog 40 4) :=
  SumOK.of (id := 4) (k0 := 1) (run := @R_vec_Cross_0 (@L_vec_Cross_0)) (by kernel_rfl) fun s K r hr => by
    unfold R_vec_Cross_0 at hr
    obtain ⟨b, hb, hr1⟩ := Option.bind_eq_some_iff.1 hr
    have e := ((Q_vec_Cross_0).ok s b hb).trans (q_vec_Cross_0 b)
    subst e
    exact ⟨200, (it_vec_Cross_0 b.1.2.2.2.2.2.2.2.2.2.2.2.2.2.2.2.2.2.1 b.2.1.1.1 b.2.1.2.1.1 b.2.1.2.1.2.1 b.2.1.2.1.2.2.1 b.2.1.2.2.1.1 b.2.1.2.2.1.2.1 b.2.1.2.2.1.2.2.1 b.2.1.2.2.2.2.1.1 b.2.1.2.2.2.2.1.2.1 b.2.1.2.2.2.2.1.2.2.1 K).trans hr1⟩
def K_vec_Cross {ρ : Type} (g_vec_Sat : Int → Int → Int → Bool → Option (Int × Int × Int × Bool)) (g___fx_Acc__Dot : Int → Nat → Nat → Bool → (Nat → Int) → (Nat → Int) → Bool → Bool → Option (Int × Bool)) (l_0 : ∀ {ρ : Type}, (Int × Bool × Int × Int × Int × Int × Int × Int × Int × Int × Int) → ((Int × Bool × Bool × Int × Int × Int × Int × Int × Int × Int × Int × Int) → Option ρ) → Option ρ) (x0 : Int) (x1 : Int) (x2 : Int) (x3 : Int) (x4 : Int) (x5 : Int) (x6 : Bool) (k : (Int × Int × Int × Bool) → Option ρ) : Option ρ :=
  Option.bind (g_vec_Sat x0 x1 x2 x6) fun (d : Int × Int × Int × Bool) =>
    Option.bind (g_vec_Sat x3 x4 x5 d.2.2.2) fun (d_1 : Int × Int × Int × Bool) =>
      l_0 (0, d_1.2.2.2, d.1, d.2.1, d.2.2.1, d_1.1, d_1.2.1, d_1.2.2.1, 0, 0, 0) fun (d : Int × Bool × Bool × Int × Int × Int × Int × Int × Int × Int × Int × Int) =>
        k (d.2.2.2.2.2.2.2.2.2.1, d.2.2.2.2.2.2.2.2.2.2.1, d.2.2.2.2.2.2.2.2.2.2.2, d.2.2.1)
def f_vec_Cross (x0 : Int) (x1 : Int) (x2 : Int) (x3 : Int) (x4 : Int) (x5 : Int) (x6 : Bool) : Option (Int × Int × Int × Bool) := K_vec_Cross f_vec_Sat f___fx_Acc__Dot (@L_vec_Cross_0) x0 x1 x2 x3 x4 x5 x6 some
section
open Go.Ab.Rdr
def QA_vec_Cross := ((pair (cons (ar (rc (cptr (nat 0) (ok' (nat 0)) (nat 1)))) (cons (ar (ra (cons (gc (cf (fi .i64 hole))) (cons (gc (cf (fi .i64 hole))) (cons (gc (cf (fi .i64 hole))) nil))))) (cons (ar (ra (cons (gc (cf (fi .i64 hole))) (cons (gc (cf (fi .i64 hole))) (cons (gc (cf (fi .i64 hole))) nil))))) nil))) (cons (cons (gc (cf (fb hole))) nil) nil)) : Rdr (List AV × List Blk) _)
end
def F_vec_Cross (f : (Int) → (Int) → (Int) → (Int) → (Int) → (Int) → (Bool) → Option (Int × Int × Int × Bool)) : Sem1 := fun args h => match (QA_vec_Cross).rd (args, h) with
  | some b => .opt (f b.1.2.1.1 b.1.2.1.2.1 b.1.2.1.2.2.1 b.1.2.2.1.1 b.1.2.2.1.2.1 b.1.2.2.1.2.2.1 b.2.1.1) fun (d : Int × Int × Int × Bool) => .leaf (Res.mk (AV.r (RV.agg [Sg.c (CV.f (FV.i IntKind.i64 d.1)), Sg.c (CV.f (FV.i IntKind.i64 d.2.1)), Sg.c (CV.f (FV.i IntKind.i64 d.2.2.1))])) [Ch.set [Sg.c (CV.f (FV.b d.2.2.2))]] [])
  | none => .fail
theorem d_vec_Cross (g_vec_Sat : Int → Int → Int → Bool → Option (Int × Int × Int × Bool)) (g___fx_Acc__Dot : Int → Nat → Nat → Bool → (Nat → Int) → (Nat → Int) → Bool → Bool → Option (Int × Bool)) (l_0 : ∀ {ρ : Type}, (Int × Bool × Int × Int × Int × Int × Int × Int × Int × Int × Int) → ((Int × Bool × Bool × Int × Int × Int × Int × Int × Int × Int × Int × Int) → Option ρ) → Option ρ) (x0 : Int) (x1 : Int) (x2 : Int) (x3 : Int) (x4 : Int) (x5 : Int) (x6 : Bool) : den Try.prog (envOf [(32, F_vec_Sat g_vec_Sat), (57, F___fx_Acc__Dot g___fx_Acc__Dot)]) ⟨[⟨4, [1, 2, 3, 8, 9, 10, 11, 12, 13, 14, 15, 16, 18, 19, 20, 21, 22, 23, 24, 25, 26, 27, 28, 29, 30, 31, 32, 33, 34, 35, 36, 37, 38, 39, 40, 41, 42, 43, 44, 45, 46], []⟩], [⟨4, 1, @R_vec_Cross_0 (@l_0)⟩], [], [], none⟩ 200 40 [.r (.c (.ptr 0 (.k 0) 1)), .r (.agg [.c (.f (.i .i64 x0)), .c (.f (.i .i64 x1)), .c (.f (.i .i64 x2))]), .r (.agg [.c (.f (.i .i64 x3)), .c (.f (.i .i64 x4)), .c (.f (.i .i64 x5))])] [[.c (.f (.b x6))]] =
    K_vec_Cross g_vec_Sat g___fx_Acc__Dot (@l_0) x0 x1 x2 x3 x4 x5 x6 (fun (d : Int × Int × Int × Bool) => some (Res.mk (AV.r (RV.agg [Sg.c (CV.f (FV.i IntKind.i64 d.1)), Sg.c (CV.f (FV.i IntKind.i64 d.2.1)), Sg.c (CV.f (FV.i IntKind.i64 d.2.2.1))])) [Ch.set [Sg.c (CV.f (FV.b d.2.2.2))]] [])) := by kernel_rfl
theorem m_vec_Cross {ρ σ : Type} (q : ρ → Option σ) (g_vec_Sat : Int → Int → Int → Bool → Option (Int × Int × Int × Bool)) (g___fx_Acc__Dot : Int → Nat → Nat → Bool → (Nat → Int) → (Nat → Int) → Bool → Bool → Option (Int × Bool)) (l_0 : ∀ {ρ : Type}, (Int × Bool × Int × Int × Int × Int × Int × Int × Int × Int × Int) → ((Int × Bool × Bool × Int × Int × Int × Int × Int × Int × Int × Int × Int) → Option ρ) → Option ρ) (hl_0 : ∀ {ρ σ : Type} (q : ρ → Option σ) (d : Int × Bool × Int × Int × Int × Int × Int × Int × Int × Int × Int) (k : (Int × Bool × Bool × Int × Int × Int × Int × Int × Int × Int × Int × Int) → Option ρ), (l_0 d k).bind q = l_0 d fun x => (k x).bind q) (x0 : Int) (x1 : Int) (x2 : Int) (x3 : Int) (x4 : Int) (x5 : Int) (x6 : Bool) (k : (Int × Int × Int × Bool) → Option ρ) : (K_vec_Cross g_vec_Sat g___fx_Acc__Dot (@l_0) x0 x1 x2 x3 x4 x5 x6 k).bind q = K_vec_Cross g_vec_Sat g___fx_Acc__Dot (@l_0) x0 x1 x2 x3 x4 x5 x6 (fun d => (k d).bind q) := by
  simp only [K_vec_Cross, bnd_cond, bnd_bind, bnd_none, bnd_sum, hl_0]
theorem qa_vec_Cross : ∀ b, (QA_vec_Cross).em b = ([.r (.c (.ptr 0 (.k 0) 1)), .r (.agg [.c (.f (.i .i64 b.1.2.1.1)), .c (.f (.i .i64 b.1.2.1.2.1)), .c (.f (.i .i64 b.1.2.1.2.2.1))]), .r (.agg [.c (.f (.i .i64 b.1.2.2.1.1)), .c (.f (.i .i64 b.1.2.2.1.2.1)), .c (.f (.i .i64 b.1.2.2.1.2.2.1))])], [[.c (.f (.b b.2.1.1))]]) := fun b => by kernel_rfl
theorem e_vec_Cross {f : (Int) → (Int) → (Int) → (Int) → (Int) → (Int) → (Bool) → Option (Int × Int × Int × Bool)} {args : List AV} {h : List Blk} {r : Res} (hr : (F_vec_Cross f args h).eval = some r) : ∃ x0 x1 x2 x3 x4 x5 x6, args = [.r (.c (.ptr 0 (.k 0) 1)), .r (.agg [.c (.f (.i .i64 x0)), .c (.f (.i .i64 x1)), .c (.f (.i .i64 x2))]), .r (.agg [.c (.f (.i .i64 x3)), .c (.f (.i .i64 x4)), .c (.f (.i .i64 x5))])] ∧ h = [[.c (.f (.b x6))]] ∧ (f x0 x1 x2 x3 x4 x5 x6).bind (fun (d : Int × Int × Int × Bool) => some (Res.mk (AV.r (RV.agg [Sg.c (CV.f (FV.i IntKind.i64 d.1)), Sg.c (CV.f (FV.i IntKind.i64 d.2.1)), Sg.c (CV.f (FV.i IntKind.i64 d.2.2.1))])) [Ch.set [Sg.c (CV.f (FV.b d.2.2.2))]] [])) = some r := by
  unfold F_vec_Cross at hr
  split at hr
  · rename_i b hb
    have e := ((QA_vec_Cross).ok _ _ hb).trans (qa_vec_Cross b)
    rw [opt_eval2] at hr
    exact ⟨b.1.2.1.1, b.1.2.1.2.1, b.1.2.1.2.2.1, b.1.2.2.1.1, b.1.2.2.1.2.1, b.1.2.2.1.2.2.1, b.2.1.1, (Prod.mk.inj e).1, (Prod.mk.inj e).2, hr⟩
  · cases hr
theorem n_vec_Cross {σ : Type} (q : (Int × Int × Int × Bool) → Option σ) (x0 : Int) (x1 : Int) (x2 : Int) (x3 : Int) (x4 : Int) (x5 : Int) (x6 : Bool) : (f_vec_Cross x0 x1 x2 x3 x4 x5 x6).bind q = K_vec_Cross f_vec_Sat f___fx_Acc__Dot (@L_vec_Cross_0) x0 x1 x2 x3 x4 x5 x6 q := by
  unfold f_vec_Cross
  exact m_vec_Cross q f_vec_Sat f___fx_Acc__Dot (@L_vec_Cross_0) (fun q d k => mL_vec_Cross_0 q d k) x0 x1 x2 x3 x4 x5 x6 some
theorem s_vec_Cross : Sound Try.prog 40 (F_vec_Cross f_vec_Cross) :=
  (inl_sums (l := [(32, F_vec_Sat f_vec_Sat), (57, F___fx_Acc__Dot f___fx_Acc__Dot)]) (.cons s_vec_Sat (.cons s___fx_Acc__Dot (.nil _))) mixed (hs := ⟨[⟨4, [1, 2, 3, 8, 9, 10, 11, 12, 13, 14, 15, 16, 18, 19, 20, 21, 22, 23, 24, 25, 26, 27, 28, 29, 30, 31, 32, 33, 34, 35, 36, 37, 38, 39, 40, 41, 42, 43, 44, 45, 46], []⟩], [⟨4, 1, @R_vec_Cross_0 (@L_vec_Cross_0)⟩], [], [], none⟩) (lf := 200) (Sums.by (l := [loopIn Try.prog 40 4]) (lj := []) (by kernel_rfl) ⟨so_vec_Cross_0, trivial⟩ (by kernel_rfl) trivial) (by kernel_rfl)).by (F := F_vec_Cross f_vec_Cross) fun args b r hr => by
  obtain ⟨x0, x1, x2, x3, x4, x5, x6, rfl, rfl, hr1⟩ := e_vec_Cross hr
  exact inl_eval ((d_vec_Cross f_vec_Sat f___fx_Acc__Dot (@L_vec_Cross_0) x0 x1 x2 x3 x4 x5 x6).trans ((n_vec_Cross (fun (d : Int × Int × Int × Bool) => some (Res.mk (AV.r (RV.agg [Sg.c (CV.f (FV.i IntKind.i64 d.1)), Sg.c (CV.f (FV.i IntKind.i64 d.2.1)), Sg.c (CV.f (FV.i IntKind.i64 d.2.2.1))])) [Ch.set [Sg.c (CV.f (FV.b d.2.2.2))]] [])) x0 x1 x2 x3 x4 x5 x6).symm.trans hr1))

def K_astrolabelaw5_awake {ρ : Type} (g_vec_Cross : Int → Int → Int → Int → Int → Int → Bool → Option (Int × Int × Int × Bool)) (g_vec_Norm : Int → Int → Int → Bool → Option (Int × Bool)) (g_vec_Add : Nat → Bool → (Nat → Int) → (Nat → Int) → (Nat → Int) → Bool → Option (Int × Int × Int × Bool)) (g_vec_Sub : Int → Int → Int → Int → Int → Int → Bool → Option (Int × Int × Int × Bool)) (g_vec_Scale : Int → Int → Int → Int → Bool → Option (Int × Int × Int × Bool)) (g_vec_Dot : Int → Int → Int → Int → Int → Int → Bool → Option (Int × Bool)) (g_vec_Sat : Int → Int → Int → Bool → Option (Int × Int × Int × Bool))   (k : (Bool) → Option ρ) : Option ρ :=
  Option.bind (g_vec_Cross 1073741824 0 0 0 1073741824 0 false) fun (d : Int × Int × Int × Bool) =>
    bif d.1 == 0 && (d.2.1 == 0 && (d.2.2.1 == 1073741824 && true)) then
      Option.bind (g_vec_Norm 3221225472 4294967296 0 d.2.2.2) fun (d : Int × Bool) =>
        bif d.1 == 5368709120 then
          Option.bind
            (g_vec_Add 3 d.2 (fun (j : Nat) => bif Nat.beq j 2 then 0 else bif Nat.beq j 1 then 2 else bif Nat.beq j 0 then 1 else 1)
              (fun (j : Nat) => bif Nat.beq j 2 then 3 else bif Nat.beq j 1 then 0 else bif Nat.beq j 0 then 0 else 0)
              (fun (j : Nat) => bif Nat.beq j 2 then 0 else bif Nat.beq j 1 then 0 else bif Nat.beq j 0 then 0 else 0) true)
            fun (d : Int × Int × Int × Bool) =>
            bif d.1 == 3 && (d.2.1 == 3 && (d.2.2.1 == 0 && true)) then
              Option.bind (g_vec_Sub 1 0 0 2 0 0 d.2.2.2) fun (d : Int × Int × Int × Bool) =>
                bif d.1 == -1 && (d.2.1 == 0 && (d.2.2.1 == 0 && true)) then
                  Option.bind (g_vec_Scale 4 6 0 536870912 d.2.2.2) fun (d : Int × Int × Int × Bool) =>
                    bif d.1 == 2 && (d.2.1 == 3 && (d.2.2.1 == 0 && true)) then
                      Option.bind (g_vec_Dot 1073741824 0 0 7 0 0 d.2.2.2) fun (d : Int × Bool) =>
                        bif d.1 == 7 then
                          Option.bind (g_vec_Sat 5 0 0 d.2) fun (d : Int × Int × Int × Bool) => bif d.1 == 5 && (d.2.1 == 0 && (d.2.2.1 == 0 && true)) then k !d.2.2.2 else k false
                        else k false
                    else k false
                else k false
            else k false
        else k false
    else k false
def f_astrolabelaw5_awake  : Option (Bool) := K_astrolabelaw5_awake f_vec_Cross f_vec_Norm f_vec_Add f_vec_Sub f_vec_Scale f_vec_Dot f_vec_Sat   some
section
open Go.Ab.Rdr
def QA_astrolabelaw5_awake := ((pair nil nil) : Rdr (List AV × List Blk) _)
end
def F_astrolabelaw5_awake (f : Option (Bool)) : Sem1 := fun args h => match (QA_astrolabelaw5_awake).rd (args, h) with
  | some b => .opt (f ) fun (d : Bool) => .leaf (Res.mk (AV.r (RV.c (CV.f (FV.b d)))) [] [])
  | none => .fail
theorem d_astrolabelaw5_awake (g_vec_Cross : Int → Int → Int → Int → Int → Int → Bool → Option (Int × Int × Int × Bool)) (g_vec_Norm : Int → Int → Int → Bool → Option (Int × Bool)) (g_vec_Add : Nat → Bool → (Nat → Int) → (Nat → Int) → (Nat → Int) → Bool → Option (Int × Int × Int × Bool)) (g_vec_Sub : Int → Int → Int → Int → Int → Int → Bool → Option (Int × Int × Int × Bool)) (g_vec_Scale : Int → Int → Int → Int → Bool → Option (Int × Int × Int × Bool)) (g_vec_Dot : Int → Int → Int → Int → Int → Int → Bool → Option (Int × Bool)) (g_vec_Sat : Int → Int → Int → Bool → Option (Int × Int × Int × Bool))   : den Try.prog (envOf [(40, F_vec_Cross g_vec_Cross), (42, F_vec_Norm g_vec_Norm), (31, F_vec_Add g_vec_Add), (34, F_vec_Sub g_vec_Sub), (36, F_vec_Scale g_vec_Scale), (38, F_vec_Dot g_vec_Dot), (32, F_vec_Sat g_vec_Sat)]) ⟨[], [], [], [], none⟩ 200 30 [] [] =
    K_astrolabelaw5_awake g_vec_Cross g_vec_Norm g_vec_Add g_vec_Sub g_vec_Scale g_vec_Dot g_vec_Sat   (fun (d : Bool) => some (Res.mk (AV.r (RV.c (CV.f (FV.b d)))) [] [])) := by kernel_rfl
theorem m_astrolabelaw5_awake {ρ σ : Type} (q : ρ → Option σ) (g_vec_Cross : Int → Int → Int → Int → Int → Int → Bool → Option (Int × Int × Int × Bool)) (g_vec_Norm : Int → Int → Int → Bool → Option (Int × Bool)) (g_vec_Add : Nat → Bool → (Nat → Int) → (Nat → Int) → (Nat → Int) → Bool → Option (Int × Int × Int × Bool)) (g_vec_Sub : Int → Int → Int → Int → Int → Int → Bool → Option (Int × Int × Int × Bool)) (g_vec_Scale : Int → Int → Int → Int → Bool → Option (Int × Int × Int × Bool)) (g_vec_Dot : Int → Int → Int → Int → Int → Int → Bool → Option (Int × Bool)) (g_vec_Sat : Int → Int → Int → Bool → Option (Int × Int × Int × Bool))    (k : (Bool) → Option ρ) : (K_astrolabelaw5_awake g_vec_Cross g_vec_Norm g_vec_Add g_vec_Sub g_vec_Scale g_vec_Dot g_vec_Sat   k).bind q = K_astrolabelaw5_awake g_vec_Cross g_vec_Norm g_vec_Add g_vec_Sub g_vec_Scale g_vec_Dot g_vec_Sat   (fun d => (k d).bind q) := by
  simp only [K_astrolabelaw5_awake, bnd_cond, bnd_bind, bnd_none, bnd_sum]
theorem qa_astrolabelaw5_awake : ∀ b, (QA_astrolabelaw5_awake).em b = ([], []) := fun b => by kernel_rfl
theorem e_astrolabelaw5_awake {f : Option (Bool)} {args : List AV} {h : List Blk} {r : Res} (hr : (F_astrolabelaw5_awake f args h).eval = some r) : args = [] ∧ h = [] ∧ (f ).bind (fun (d : Bool) => some (Res.mk (AV.r (RV.c (CV.f (FV.b d)))) [] [])) = some r := by
  unfold F_astrolabelaw5_awake at hr
  split at hr
  · rename_i b hb
    have e := ((QA_astrolabelaw5_awake).ok _ _ hb).trans (qa_astrolabelaw5_awake b)
    rw [opt_eval2] at hr
    exact ⟨(Prod.mk.inj e).1, (Prod.mk.inj e).2, hr⟩
  · cases hr
theorem n_astrolabelaw5_awake {σ : Type} (q : (Bool) → Option σ)  : (f_astrolabelaw5_awake ).bind q = K_astrolabelaw5_awake f_vec_Cross f_vec_Norm f_vec_Add f_vec_Sub f_vec_Scale f_vec_Dot f_vec_Sat   q := by
  unfold f_astrolabelaw5_awake
  exact m_astrolabelaw5_awake q f_vec_Cross f_vec_Norm f_vec_Add f_vec_Sub f_vec_Scale f_vec_Dot f_vec_Sat    some
theorem s_astrolabelaw5_awake : Sound Try.prog 30 (F_astrolabelaw5_awake f_astrolabelaw5_awake) :=
  (inl_sound (l := [(40, F_vec_Cross f_vec_Cross), (42, F_vec_Norm f_vec_Norm), (31, F_vec_Add f_vec_Add), (34, F_vec_Sub f_vec_Sub), (36, F_vec_Scale f_vec_Scale), (38, F_vec_Dot f_vec_Dot), (32, F_vec_Sat f_vec_Sat)]) (.cons s_vec_Cross (.cons s_vec_Norm (.cons s_vec_Add (.cons s_vec_Sub (.cons s_vec_Scale (.cons s_vec_Dot (.cons s_vec_Sat (.nil _)))))))) mixed [] [] 200 (by kernel_rfl)).by (F := F_astrolabelaw5_awake f_astrolabelaw5_awake) fun args b r hr => by
  obtain ⟨rfl, rfl, hr1⟩ := e_astrolabelaw5_awake hr
  exact inl_eval ((d_astrolabelaw5_awake f_vec_Cross f_vec_Norm f_vec_Add f_vec_Sub f_vec_Scale f_vec_Dot f_vec_Sat  ).trans ((n_astrolabelaw5_awake (fun (d : Bool) => some (Res.mk (AV.r (RV.c (CV.f (FV.b d)))) [] [])) ).symm.trans hr1))

def K_astrolabelaw5_VecKnown {ρ : Type} (g_astrolabelaw5_awake : Option Bool) (g_vec_Add : Nat → Bool → (Nat → Int) → (Nat → Int) → (Nat → Int) → Bool → Option (Int × Int × Int × Bool)) (g_vec_Sat : Int → Int → Int → Bool → Option (Int × Int × Int × Bool))   (k : (Bool) → Option ρ) : Option ρ :=
  Option.bind g_astrolabelaw5_awake fun (d : Bool) =>
    bif !d then k false
    else
      Option.bind (g_vec_Add 0 false (fun (x : Nat) => 0) (fun (x : Nat) => 0) (fun (x : Nat) => 0) true) fun (d : Int × Int × Int × Bool) =>
        bif d.1 == 0 && (d.2.1 == 0 && (d.2.2.1 == 0 && true)) then
          bif !d.2.2.2 then
            Option.bind (g_vec_Sat 4611686018427387904 0 0 d.2.2.2) fun (d : Int × Int × Int × Bool) =>
              bif d.1 == 1152921504606846976 && (d.2.1 == 0 && (d.2.2.1 == 0 && true)) then k d.2.2.2 else k false
          else k false
        else k false
def f_astrolabelaw5_VecKnown  : Option (Bool) := K_astrolabelaw5_VecKnown f_astrolabelaw5_awake f_vec_Add f_vec_Sat   some
section
open Go.Ab.Rdr
def QA_astrolabelaw5_VecKnown := ((pair nil nil) : Rdr (List AV × List Blk) _)
end
def F_astrolabelaw5_VecKnown (f : Option (Bool)) : Sem1 := fun args h => match (QA_astrolabelaw5_VecKnown).rd (args, h) with
  | some b => .opt (f ) fun (d : Bool) => .leaf (Res.mk (AV.r (RV.c (CV.f (FV.b d)))) [] [])
  | none => .fail
theorem d_astrolabelaw5_VecKnown (g_astrolabelaw5_awake : Option Bool) (g_vec_Add : Nat → Bool → (Nat → Int) → (Nat → Int) → (Nat → Int) → Bool → Option (Int × Int × Int × Bool)) (g_vec_Sat : Int → Int → Int → Bool → Option (Int × Int × Int × Bool))   : den Try.prog (envOf [(30, F_astrolabelaw5_awake g_astrolabelaw5_awake), (31, F_vec_Add g_vec_Add), (32, F_vec_Sat g_vec_Sat)]) ⟨[], [], [], [], none⟩ 200 9 [] [] =
    K_astrolabelaw5_VecKnown g_astrolabelaw5_awake g_vec_Add g_vec_Sat   (fun (d : Bool) => some (Res.mk (AV.r (RV.c (CV.f (FV.b d)))) [] [])) := by kernel_rfl
theorem m_astrolabelaw5_VecKnown {ρ σ : Type} (q : ρ → Option σ) (g_astrolabelaw5_awake : Option Bool) (g_vec_Add : Nat → Bool → (Nat → Int) → (Nat → Int) → (Nat → Int) → Bool → Option (Int × Int × Int × Bool)) (g_vec_Sat : Int → Int → Int → Bool → Option (Int × Int × Int × Bool))    (k : (Bool) → Option ρ) : (K_astrolabelaw5_VecKnown g_astrolabelaw5_awake g_vec_Add g_vec_Sat   k).bind q = K_astrolabelaw5_VecKnown g_astrolabelaw5_awake g_vec_Add g_vec_Sat   (fun d => (k d).bind q) := by
  simp only [K_astrolabelaw5_VecKnown, bnd_cond, bnd_bind, bnd_none, bnd_sum]
theorem qa_astrolabelaw5_VecKnown : ∀ b, (QA_astrolabelaw5_VecKnown).em b = ([], []) := fun b => by kernel_rfl
theorem e_astrolabelaw5_VecKnown {f : Option (Bool)} {args : List AV} {h : List Blk} {r : Res} (hr : (F_astrolabelaw5_VecKnown f args h).eval = some r) : args = [] ∧ h = [] ∧ (f ).bind (fun (d : Bool) => some (Res.mk (AV.r (RV.c (CV.f (FV.b d)))) [] [])) = some r := by
  unfold F_astrolabelaw5_VecKnown at hr
  split at hr
  · rename_i b hb
    have e := ((QA_astrolabelaw5_VecKnown).ok _ _ hb).trans (qa_astrolabelaw5_VecKnown b)
    rw [opt_eval2] at hr
    exact ⟨(Prod.mk.inj e).1, (Prod.mk.inj e).2, hr⟩
  · cases hr
theorem n_astrolabelaw5_VecKnown {σ : Type} (q : (Bool) → Option σ)  : (f_astrolabelaw5_VecKnown ).bind q = K_astrolabelaw5_VecKnown f_astrolabelaw5_awake f_vec_Add f_vec_Sat   q := by
  unfold f_astrolabelaw5_VecKnown
  exact m_astrolabelaw5_VecKnown q f_astrolabelaw5_awake f_vec_Add f_vec_Sat    some
theorem s_astrolabelaw5_VecKnown : Sound Try.prog 9 (F_astrolabelaw5_VecKnown f_astrolabelaw5_VecKnown) :=
  (inl_sound (l := [(30, F_astrolabelaw5_awake f_astrolabelaw5_awake), (31, F_vec_Add f_vec_Add), (32, F_vec_Sat f_vec_Sat)]) (.cons s_astrolabelaw5_awake (.cons s_vec_Add (.cons s_vec_Sat (.nil _)))) mixed [] [] 200 (by kernel_rfl)).by (F := F_astrolabelaw5_VecKnown f_astrolabelaw5_VecKnown) fun args b r hr => by
  obtain ⟨rfl, rfl, hr1⟩ := e_astrolabelaw5_VecKnown hr
  exact inl_eval ((d_astrolabelaw5_VecKnown f_astrolabelaw5_awake f_vec_Add f_vec_Sat  ).trans ((n_astrolabelaw5_VecKnown (fun (d : Bool) => some (Res.mk (AV.r (RV.c (CV.f (FV.b d)))) [] [])) ).symm.trans hr1))

end Go.Proofs.Ythbnojedlbeglaa
