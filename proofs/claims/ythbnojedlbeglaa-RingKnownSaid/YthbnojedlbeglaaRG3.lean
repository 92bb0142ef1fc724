/-
  Contracts by plain functions: astrolabelaw13.awake, astrolabelaw13.lost, astrolabelaw13.RingKnown
-/
import Derived.Test.YthbnojedlbeglaaRG1
set_option maxRecDepth 100000
set_option maxHeartbeats 4000000
set_option linter.unusedVariables false
namespace Go.Proofs.Ythbnojedlbeglaa
open Go.Ab
def K_astrolabelaw13_awake {ρ : Type} (g_ring_New : Int → Option (Unit ⊕ Int × (Nat → Int))) (g___ring_Buffer__Put : Int →
  Int →
    Int →
      Int →
        Int →
          Int →
            Int →
              Int →
                Int →
                  Int →
                    Int →
                      Int →
                        Int →
                          Int →
                            Int →
                              Nat →
                                Int →
                                  (Nat → Int) →
                                    (Nat → Int) →
                                      (Nat → Int) →
                                        (Nat → Int) →
                                          (Nat → Int) →
                                            (Nat → Int) →
                                              (Nat → Int) →
                                                (Nat → Int) →
                                                  (Nat → Int) →
                                                    Bool →
                                                      Option
                                                        (Int × Int × Int × Int × Int × Int × Nat × Bool × Int ⊕
                                                          Bool ×
                                                            Int ×
                                                              Int ×
                                                                Int ×
                                                                  Int ×
                                                                    Int ×
                                                                      Int ×
                                                                        Nat ×
                                                                          Int ×
                                                                            (Nat → Int) × (Nat → Int) × (Nat → Int) × (Nat → Int) × (Nat → Int) × (Nat → Int) × (Nat → Int) × (Nat → Int) × (Nat → Int))) (g___ring_Buffer__Peek : Int →
  Int →
    Int →
      Int →
        Int →
          Int →
            Nat →
              Int →
                (Nat → Int) →
                  (Nat → Int) →
                    (Nat → Int) → (Nat → Int) → (Nat → Int) → (Nat → Int) → (Nat → Int) → (Nat → Int) → (Nat → Int) → Bool → Option (Int × Int × Int × Int × Int × Int × Int × Int × Int × Bool)) (g___ring_Buffer__Pop : Int →
  Int →
    Int →
      Int →
        Int →
          Int →
            Int →
              Nat →
                Int →
                  (Nat → Int) →
                    (Nat → Int) →
                      (Nat → Int) →
                        (Nat → Int) →
                          (Nat → Int) →
                            (Nat → Int) →
                              (Nat → Int) →
                                (Nat → Int) →
                                  (Nat → Int) →
                                    Bool →
                                      Option
                                        (Nat ×
                                          Int ×
                                            Int ×
                                              Int ×
                                                Int ×
                                                  Int ×
                                                    Int ×
                                                      Nat ×
                                                        Int ×
                                                          (Nat → Int) ×
                                                            (Nat → Int) ×
                                                              (Nat → Int) ×
                                                                (Nat → Int) ×
                                                                  (Nat → Int) ×
                                                                    (Nat → Int) ×
                                                                      (Nat → Int) ×
                                                                        (Nat → Int) ×
                                                                          (Nat → Int) ×
                                                                            (Nat → Int) × (Nat → Int) × (Nat → Int) × (Nat → Int) × (Nat → Int) × (Nat → Int) × (Nat → Int) × (Nat → Int) × (Nat → Int))) (g___ring_Buffer__Spoilt : Int →
  Int →
    Int →
      Int →
        Int →
          Int →
            Nat →
              Int →
                (Nat → Int) →
                  (Nat → Int) → (Nat → Int) → (Nat → Int) → (Nat → Int) → (Nat → Int) → (Nat → Int) → (Nat → Int) → (Nat → Int) → Bool → Option (Int × Int × Int × Int × Int × Int × Nat × Bool × Int)) (g__ring_Counts__Total : Int → Int → Int → Int → Int → Option Int) (g___ring_Buffer__Len : Int → Int → Int → Int → Int → Int → Nat → Int → (Nat → Int) → (Nat → Int) → (Nat → Int) → (Nat → Int) → (Nat → Int) → (Nat → Int) → (Nat → Int) → (Nat → Int) → (Nat → Int) → Bool → Option Int) (g___ring_Buffer__Horizon : Int → Int → Int → Int → Int → Int → Nat → Int → (Nat → Int) → (Nat → Int) → (Nat → Int) → (Nat → Int) → (Nat → Int) → (Nat → Int) → (Nat → Int) → (Nat → Int) → (Nat → Int) → Bool → Option Int)   (k : (Bool) → Option ρ) : Option ρ :=
  Option.bind (g_ring_New 2) fun (d : Unit ⊕ Int × (Nat → Int)) =>
    bif
        match d with
        | Sum.inl val => true
        | Sum.inr val => false then
      Option.bind
        (match d with
        | Sum.inl a => some a
        | Sum.inr val => none)
        fun (d : Unit) => k false
    else
      Option.bind
        (match d with
        | Sum.inr b => some b
        | Sum.inl val => none)
        fun (d : Int × (Nat → Int)) =>
        Option.bind (g___ring_Buffer__Put 5 0 0 0 0 0 0 0 0 0 0 0 0 0 d.1 0 (-9223372036854775808) d.2 d.2 d.2 d.2 d.2 d.2 d.2 d.2 d.2 true)
          fun
            (d_1 :
              Int × Int × Int × Int × Int × Int × Nat × Bool × Int ⊕
                Bool × Int × Int × Int × Int × Int × Int × Nat × Int × (Nat → Int) × (Nat → Int) × (Nat → Int) × (Nat → Int) × (Nat → Int) × (Nat → Int) × (Nat → Int) × (Nat → Int) × (Nat → Int)) =>
          bif
              match d_1 with
              | Sum.inl val => true
              | Sum.inr val => false then
            Option.bind
              (match d_1 with
              | Sum.inl a => some a
              | Sum.inr val => none)
              fun (d_2 : Int × Int × Int × Int × Int × Int × Nat × Bool × Int) =>
              bif Nat.beq d_2.2.2.2.2.2.2.1 d_2.2.2.2.2.2.2.1 then
                Option.bind
                  (g___ring_Buffer__Put 3 0 0 0 0 0 0 0 0 d_2.1 d_2.2.1 d_2.2.2.1 d_2.2.2.2.1 d_2.2.2.2.2.1 d_2.2.2.2.2.2.1 d_2.2.2.2.2.2.2.1
                    d_2.2.2.2.2.2.2.2.2 d.2 d.2 d.2 d.2 d.2 d.2 d.2 d.2 d.2 (d_2.2.2.2.2.2.2.2.1 && true && true))
                  fun
                    (d_3 :
                      Int × Int × Int × Int × Int × Int × Nat × Bool × Int ⊕
                        Bool ×
                          Int × Int × Int × Int × Int × Int × Nat × Int × (Nat → Int) × (Nat → Int) × (Nat → Int) × (Nat → Int) × (Nat → Int) × (Nat → Int) × (Nat → Int) × (Nat → Int) × (Nat → Int)) =>
                  bif
                      match d_3 with
                      | Sum.inl val => true
                      | Sum.inr val => false then
                    Option.bind
                      (match d_3 with
                      | Sum.inl a => some a
                      | Sum.inr val => none)
                      fun (d_4 : Int × Int × Int × Int × Int × Int × Nat × Bool × Int) =>
                      bif Nat.beq d_4.2.2.2.2.2.2.1 d_4.2.2.2.2.2.2.1 then
                        Option.bind
                          (g___ring_Buffer__Put 4 0 0 0 0 0 0 0 0 d_4.1 d_4.2.1 d_4.2.2.1 d_4.2.2.2.1 d_4.2.2.2.2.1 d_4.2.2.2.2.2.1
                            d_4.2.2.2.2.2.2.1 d_4.2.2.2.2.2.2.2.2 d.2 d.2 d.2 d.2 d.2 d.2 d.2 d.2 d.2
                            (d_4.2.2.2.2.2.2.2.1 && (d_2.2.2.2.2.2.2.2.1 && true && true) && true))
                          fun
                            (d_5 :
                              Int × Int × Int × Int × Int × Int × Nat × Bool × Int ⊕
                                Bool ×
                                  Int ×
                                    Int ×
                                      Int × Int × Int × Int × Nat × Int × (Nat → Int) × (Nat → Int) × (Nat → Int) × (Nat → Int) × (Nat → Int) × (Nat → Int) × (Nat → Int) × (Nat → Int) × (Nat → Int)) =>
                          bif
                              match d_5 with
                              | Sum.inl val => true
                              | Sum.inr val => false then
                            Option.bind
                              (match d_5 with
                              | Sum.inl a => some a
                              | Sum.inr val => none)
                              fun (d_6 : Int × Int × Int × Int × Int × Int × Nat × Bool × Int) =>
                              bif Nat.beq d_6.2.2.2.2.2.2.1 d_6.2.2.2.2.2.2.1 then
                                Option.bind
                                  (g___ring_Buffer__Peek d_6.1 d_6.2.1 d_6.2.2.1 d_6.2.2.2.1 d_6.2.2.2.2.1 d_6.2.2.2.2.2.1 d_6.2.2.2.2.2.2.1
                                    d_6.2.2.2.2.2.2.2.2 d.2 d.2 d.2 d.2 d.2 d.2 d.2 d.2 d.2
                                    (d_6.2.2.2.2.2.2.2.1 && (d_4.2.2.2.2.2.2.2.1 && (d_2.2.2.2.2.2.2.2.1 && true && true) && true) && true))
                                  fun (d_7 : Int × Int × Int × Int × Int × Int × Int × Int × Int × Bool) =>
                                  bif Nat.beq d_6.2.2.2.2.2.2.1 d_6.2.2.2.2.2.2.1 then
                                    Option.bind
                                      (g___ring_Buffer__Pop 4 d_6.1 d_6.2.1 d_6.2.2.1 d_6.2.2.2.1 d_6.2.2.2.2.1 d_6.2.2.2.2.2.1 d_6.2.2.2.2.2.2.1
                                        d_6.2.2.2.2.2.2.2.2 d.2 d.2 d.2 d.2 d.2 d.2 d.2 d.2 d.2
                                        (d_6.2.2.2.2.2.2.2.1 && (d_4.2.2.2.2.2.2.2.1 && (d_2.2.2.2.2.2.2.2.1 && true && true) && true) && true))
                                      fun
                                        (d :
                                          Nat ×
                                            Int ×
                                              Int ×
                                                Int ×
                                                  Int ×
                                                    Int ×
                                                      Int ×
                                                        Nat ×
                                                          Int ×
                                                            (Nat → Int) ×
                                                              (Nat → Int) ×
                                                                (Nat → Int) ×
                                                                  (Nat → Int) ×
                                                                    (Nat → Int) ×
                                                                      (Nat → Int) ×
                                                                        (Nat → Int) ×
                                                                          (Nat → Int) ×
                                                                            (Nat → Int) ×
                                                                              (Nat → Int) ×
                                                                                (Nat → Int) × (Nat → Int) × (Nat → Int) × (Nat → Int) × (Nat → Int) × (Nat → Int) × (Nat → Int) × (Nat → Int)) =>
                                      bif Nat.beq d.2.2.2.2.2.2.2.1 d.2.2.2.2.2.2.2.1 then
                                        Option.bind
                                          (g___ring_Buffer__Put 4 0 0 0 0 0 0 0 0 d.2.1 d.2.2.1 d.2.2.2.1 d.2.2.2.2.1 d.2.2.2.2.2.1 d.2.2.2.2.2.2.1
                                            d.2.2.2.2.2.2.2.1 d.2.2.2.2.2.2.2.2.1 d.2.2.2.2.2.2.2.2.2.2.2.2.2.2.2.2.2.2.1
                                            d.2.2.2.2.2.2.2.2.2.2.2.2.2.2.2.2.2.2.2.1
                                            d.2.2.2.2.2.2.2.2.2.2.2.2.2.2.2.2.2.2.2.2.1
                                            d.2.2.2.2.2.2.2.2.2.2.2.2.2.2.2.2.2.2.2.2.2.1
                                            d.2.2.2.2.2.2.2.2.2.2.2.2.2.2.2.2.2.2.2.2.2.2.1
                                            d.2.2.2.2.2.2.2.2.2.2.2.2.2.2.2.2.2.2.2.2.2.2.2.1
                                            d.2.2.2.2.2.2.2.2.2.2.2.2.2.2.2.2.2.2.2.2.2.2.2.2.1
                                            d.2.2.2.2.2.2.2.2.2.2.2.2.2.2.2.2.2.2.2.2.2.2.2.2.2.1
                                            d.2.2.2.2.2.2.2.2.2.2.2.2.2.2.2.2.2.2.2.2.2.2.2.2.2.2 true)
                                          fun
                                            (d_8 :
                                              Int × Int × Int × Int × Int × Int × Nat × Bool × Int ⊕
                                                Bool ×
                                                  Int ×
                                                    Int ×
                                                      Int ×
                                                        Int ×
                                                          Int ×
                                                            Int ×
                                                              Nat × Int × (Nat → Int) × (Nat → Int) × (Nat → Int) × (Nat → Int) × (Nat → Int) × (Nat → Int) × (Nat → Int) × (Nat → Int) × (Nat → Int)) =>
                                          bif
                                              match d_8 with
                                              | Sum.inl val => true
                                              | Sum.inr val => false then
                                            Option.bind
                                              (match d_8 with
                                              | Sum.inl a => some a
                                              | Sum.inr val => none)
                                              fun (d_9 : Int × Int × Int × Int × Int × Int × Nat × Bool × Int) =>
                                              bif Nat.beq d_9.2.2.2.2.2.2.1 d_9.2.2.2.2.2.2.1 then
                                                Option.bind
                                                  (g___ring_Buffer__Spoilt d_9.1 d_9.2.1 d_9.2.2.1 d_9.2.2.2.1 d_9.2.2.2.2.1 d_9.2.2.2.2.2.1
                                                    d_9.2.2.2.2.2.2.1 d_9.2.2.2.2.2.2.2.2 d.2.2.2.2.2.2.2.2.2.2.2.2.2.2.2.2.2.2.1
                                                    d.2.2.2.2.2.2.2.2.2.2.2.2.2.2.2.2.2.2.2.1
                                                    d.2.2.2.2.2.2.2.2.2.2.2.2.2.2.2.2.2.2.2.2.1
                                                    d.2.2.2.2.2.2.2.2.2.2.2.2.2.2.2.2.2.2.2.2.2.1
                                                    d.2.2.2.2.2.2.2.2.2.2.2.2.2.2.2.2.2.2.2.2.2.2.1
                                                    d.2.2.2.2.2.2.2.2.2.2.2.2.2.2.2.2.2.2.2.2.2.2.2.1
                                                    d.2.2.2.2.2.2.2.2.2.2.2.2.2.2.2.2.2.2.2.2.2.2.2.2.1
                                                    d.2.2.2.2.2.2.2.2.2.2.2.2.2.2.2.2.2.2.2.2.2.2.2.2.2.1
                                                    d.2.2.2.2.2.2.2.2.2.2.2.2.2.2.2.2.2.2.2.2.2.2.2.2.2.2
                                                    (d_9.2.2.2.2.2.2.2.1 && true && true))
                                                  fun (d : Int × Int × Int × Int × Int × Int × Nat × Bool × Int) => k false
                                              else none
                                          else
                                            Option.bind
                                              (match d_8 with
                                              | Sum.inr b => some b
                                              | Sum.inl val => none)
                                              fun
                                                (d :
                                                  Bool ×
                                                    Int ×
                                                      Int ×
                                                        Int ×
                                                          Int ×
                                                            Int ×
                                                              Int ×
                                                                Nat ×
                                                                  Int × (Nat → Int) × (Nat → Int) × (Nat → Int) × (Nat → Int) × (Nat → Int) × (Nat → Int) × (Nat → Int) × (Nat → Int) × (Nat → Int)) =>
                                              bif Nat.beq d.2.2.2.2.2.2.2.1 d.2.2.2.2.2.2.2.1 then
                                                Option.bind
                                                  (g___ring_Buffer__Spoilt d.2.1 d.2.2.1 d.2.2.2.1 d.2.2.2.2.1 d.2.2.2.2.2.1 d.2.2.2.2.2.2.1
                                                    d.2.2.2.2.2.2.2.1 d.2.2.2.2.2.2.2.2.1 d.2.2.2.2.2.2.2.2.2.1
                                                    d.2.2.2.2.2.2.2.2.2.2.1 d.2.2.2.2.2.2.2.2.2.2.2.1 d.2.2.2.2.2.2.2.2.2.2.2.2.1
                                                    d.2.2.2.2.2.2.2.2.2.2.2.2.2.1 d.2.2.2.2.2.2.2.2.2.2.2.2.2.2.1
                                                    d.2.2.2.2.2.2.2.2.2.2.2.2.2.2.2.1 d.2.2.2.2.2.2.2.2.2.2.2.2.2.2.2.2.1
                                                    d.2.2.2.2.2.2.2.2.2.2.2.2.2.2.2.2.2 true)
                                                  fun (d : Int × Int × Int × Int × Int × Int × Nat × Bool × Int) => k false
                                              else none
                                      else none
                                  else none
                              else none
                          else
                            Option.bind
                              (match d_5 with
                              | Sum.inr b => some b
                              | Sum.inl val => none)
                              fun
                                (d :
                                  Bool ×
                                    Int ×
                                      Int ×
                                        Int ×
                                          Int × Int × Int × Nat × Int × (Nat → Int) × (Nat → Int) × (Nat → Int) × (Nat → Int) × (Nat → Int) × (Nat → Int) × (Nat → Int) × (Nat → Int) × (Nat → Int)) =>
                              bif Nat.beq d.2.2.2.2.2.2.2.1 d.2.2.2.2.2.2.2.1 then
                                Option.bind
                                  (g___ring_Buffer__Peek d.2.1 d.2.2.1 d.2.2.2.1 d.2.2.2.2.1 d.2.2.2.2.2.1 d.2.2.2.2.2.2.1
                                    d.2.2.2.2.2.2.2.1 d.2.2.2.2.2.2.2.2.1 d.2.2.2.2.2.2.2.2.2.1 d.2.2.2.2.2.2.2.2.2.2.1
                                    d.2.2.2.2.2.2.2.2.2.2.2.1 d.2.2.2.2.2.2.2.2.2.2.2.2.1 d.2.2.2.2.2.2.2.2.2.2.2.2.2.1
                                    d.2.2.2.2.2.2.2.2.2.2.2.2.2.2.1 d.2.2.2.2.2.2.2.2.2.2.2.2.2.2.2.1
                                    d.2.2.2.2.2.2.2.2.2.2.2.2.2.2.2.2.1 d.2.2.2.2.2.2.2.2.2.2.2.2.2.2.2.2.2 true)
                                  fun (d_6 : Int × Int × Int × Int × Int × Int × Int × Int × Int × Bool) =>
                                  bif Nat.beq d.2.2.2.2.2.2.2.1 d.2.2.2.2.2.2.2.1 then
                                    Option.bind
                                      (g___ring_Buffer__Pop 4 d.2.1 d.2.2.1 d.2.2.2.1 d.2.2.2.2.1 d.2.2.2.2.2.1 d.2.2.2.2.2.2.1
                                        d.2.2.2.2.2.2.2.1 d.2.2.2.2.2.2.2.2.1 d.2.2.2.2.2.2.2.2.2.1 d.2.2.2.2.2.2.2.2.2.2.1
                                        d.2.2.2.2.2.2.2.2.2.2.2.1 d.2.2.2.2.2.2.2.2.2.2.2.2.1 d.2.2.2.2.2.2.2.2.2.2.2.2.2.1
                                        d.2.2.2.2.2.2.2.2.2.2.2.2.2.2.1 d.2.2.2.2.2.2.2.2.2.2.2.2.2.2.2.1
                                        d.2.2.2.2.2.2.2.2.2.2.2.2.2.2.2.2.1 d.2.2.2.2.2.2.2.2.2.2.2.2.2.2.2.2.2 true)
                                      fun
                                        (d :
                                          Nat ×
                                            Int ×
                                              Int ×
                                                Int ×
                                                  Int ×
                                                    Int ×
                                                      Int ×
                                                        Nat ×
                                                          Int ×
                                                            (Nat → Int) ×
                                                              (Nat → Int) ×
                                                                (Nat → Int) ×
                                                                  (Nat → Int) ×
                                                                    (Nat → Int) ×
                                                                      (Nat → Int) ×
                                                                        (Nat → Int) ×
                                                                          (Nat → Int) ×
                                                                            (Nat → Int) ×
                                                                              (Nat → Int) ×
                                                                                (Nat → Int) × (Nat → Int) × (Nat → Int) × (Nat → Int) × (Nat → Int) × (Nat → Int) × (Nat → Int) × (Nat → Int)) =>
                                      bif Nat.beq d.2.2.2.2.2.2.2.1 d.2.2.2.2.2.2.2.1 then
                                        Option.bind
                                          (g___ring_Buffer__Put 4 0 0 0 0 0 0 0 0 d.2.1 d.2.2.1 d.2.2.2.1 d.2.2.2.2.1 d.2.2.2.2.2.1 d.2.2.2.2.2.2.1
                                            d.2.2.2.2.2.2.2.1 d.2.2.2.2.2.2.2.2.1 d.2.2.2.2.2.2.2.2.2.2.2.2.2.2.2.2.2.2.1
                                            d.2.2.2.2.2.2.2.2.2.2.2.2.2.2.2.2.2.2.2.1
                                            d.2.2.2.2.2.2.2.2.2.2.2.2.2.2.2.2.2.2.2.2.1
                                            d.2.2.2.2.2.2.2.2.2.2.2.2.2.2.2.2.2.2.2.2.2.1
                                            d.2.2.2.2.2.2.2.2.2.2.2.2.2.2.2.2.2.2.2.2.2.2.1
                                            d.2.2.2.2.2.2.2.2.2.2.2.2.2.2.2.2.2.2.2.2.2.2.2.1
                                            d.2.2.2.2.2.2.2.2.2.2.2.2.2.2.2.2.2.2.2.2.2.2.2.2.1
                                            d.2.2.2.2.2.2.2.2.2.2.2.2.2.2.2.2.2.2.2.2.2.2.2.2.2.1
                                            d.2.2.2.2.2.2.2.2.2.2.2.2.2.2.2.2.2.2.2.2.2.2.2.2.2.2 true)
                                          fun
                                            (d_7 :
                                              Int × Int × Int × Int × Int × Int × Nat × Bool × Int ⊕
                                                Bool ×
                                                  Int ×
                                                    Int ×
                                                      Int ×
                                                        Int ×
                                                          Int ×
                                                            Int ×
                                                              Nat × Int × (Nat → Int) × (Nat → Int) × (Nat → Int) × (Nat → Int) × (Nat → Int) × (Nat → Int) × (Nat → Int) × (Nat → Int) × (Nat → Int)) =>
                                          bif
                                              match d_7 with
                                              | Sum.inl val => true
                                              | Sum.inr val => false then
                                            Option.bind
                                              (match d_7 with
                                              | Sum.inl a => some a
                                              | Sum.inr val => none)
                                              fun (d_8 : Int × Int × Int × Int × Int × Int × Nat × Bool × Int) =>
                                              bif Nat.beq d_8.2.2.2.2.2.2.1 d_8.2.2.2.2.2.2.1 then
                                                Option.bind
                                                  (g___ring_Buffer__Spoilt d_8.1 d_8.2.1 d_8.2.2.1 d_8.2.2.2.1 d_8.2.2.2.2.1 d_8.2.2.2.2.2.1
                                                    d_8.2.2.2.2.2.2.1 d_8.2.2.2.2.2.2.2.2 d.2.2.2.2.2.2.2.2.2.2.2.2.2.2.2.2.2.2.1
                                                    d.2.2.2.2.2.2.2.2.2.2.2.2.2.2.2.2.2.2.2.1
                                                    d.2.2.2.2.2.2.2.2.2.2.2.2.2.2.2.2.2.2.2.2.1
                                                    d.2.2.2.2.2.2.2.2.2.2.2.2.2.2.2.2.2.2.2.2.2.1
                                                    d.2.2.2.2.2.2.2.2.2.2.2.2.2.2.2.2.2.2.2.2.2.2.1
                                                    d.2.2.2.2.2.2.2.2.2.2.2.2.2.2.2.2.2.2.2.2.2.2.2.1
                                                    d.2.2.2.2.2.2.2.2.2.2.2.2.2.2.2.2.2.2.2.2.2.2.2.2.1
                                                    d.2.2.2.2.2.2.2.2.2.2.2.2.2.2.2.2.2.2.2.2.2.2.2.2.2.1
                                                    d.2.2.2.2.2.2.2.2.2.2.2.2.2.2.2.2.2.2.2.2.2.2.2.2.2.2
                                                    (d_8.2.2.2.2.2.2.2.1 && true && true))
                                                  fun (d : Int × Int × Int × Int × Int × Int × Nat × Bool × Int) => k false
                                              else none
                                          else
                                            Option.bind
                                              (match d_7 with
                                              | Sum.inr b => some b
                                              | Sum.inl val => none)
                                              fun
                                                (d :
                                                  Bool ×
                                                    Int ×
                                                      Int ×
                                                        Int ×
                                                          Int ×
                                                            Int ×
                                                              Int ×
                                                                Nat ×
                                                                  Int × (Nat → Int) × (Nat → Int) × (Nat → Int) × (Nat → Int) × (Nat → Int) × (Nat → Int) × (Nat → Int) × (Nat → Int) × (Nat → Int)) =>
                                              bif Nat.beq d.2.2.2.2.2.2.2.1 d.2.2.2.2.2.2.2.1 then
                                                Option.bind
                                                  (g___ring_Buffer__Spoilt d.2.1 d.2.2.1 d.2.2.2.1 d.2.2.2.2.1 d.2.2.2.2.2.1 d.2.2.2.2.2.2.1
                                                    d.2.2.2.2.2.2.2.1 d.2.2.2.2.2.2.2.2.1 d.2.2.2.2.2.2.2.2.2.1
                                                    d.2.2.2.2.2.2.2.2.2.2.1 d.2.2.2.2.2.2.2.2.2.2.2.1 d.2.2.2.2.2.2.2.2.2.2.2.2.1
                                                    d.2.2.2.2.2.2.2.2.2.2.2.2.2.1 d.2.2.2.2.2.2.2.2.2.2.2.2.2.2.1
                                                    d.2.2.2.2.2.2.2.2.2.2.2.2.2.2.2.1 d.2.2.2.2.2.2.2.2.2.2.2.2.2.2.2.2.1
                                                    d.2.2.2.2.2.2.2.2.2.2.2.2.2.2.2.2.2 true)
                                                  fun (d : Int × Int × Int × Int × Int × Int × Nat × Bool × Int) => k false
                                              else none
                                      else none
                                  else none
                              else none
                      else none
                  else
                    Option.bind
                      (match d_3 with
                      | Sum.inr b => some b
                      | Sum.inl val => none)
                      fun
                        (d :
                          Bool ×
                            Int ×
                              Int × Int × Int × Int × Int × Nat × Int × (Nat → Int) × (Nat → Int) × (Nat → Int) × (Nat → Int) × (Nat → Int) × (Nat → Int) × (Nat → Int) × (Nat → Int) × (Nat → Int)) =>
                      bif Nat.beq d.2.2.2.2.2.2.2.1 d.2.2.2.2.2.2.2.1 then
                        Option.bind
                          (g___ring_Buffer__Put 4 0 0 0 0 0 0 0 0 d.2.1 d.2.2.1 d.2.2.2.1 d.2.2.2.2.1 d.2.2.2.2.2.1 d.2.2.2.2.2.2.1
                            d.2.2.2.2.2.2.2.1 d.2.2.2.2.2.2.2.2.1 d.2.2.2.2.2.2.2.2.2.1 d.2.2.2.2.2.2.2.2.2.2.1
                            d.2.2.2.2.2.2.2.2.2.2.2.1 d.2.2.2.2.2.2.2.2.2.2.2.2.1 d.2.2.2.2.2.2.2.2.2.2.2.2.2.1
                            d.2.2.2.2.2.2.2.2.2.2.2.2.2.2.1 d.2.2.2.2.2.2.2.2.2.2.2.2.2.2.2.1
                            d.2.2.2.2.2.2.2.2.2.2.2.2.2.2.2.2.1 d.2.2.2.2.2.2.2.2.2.2.2.2.2.2.2.2.2 true)
                          fun
                            (d_4 :
                              Int × Int × Int × Int × Int × Int × Nat × Bool × Int ⊕
                                Bool ×
                                  Int ×
                                    Int ×
                                      Int × Int × Int × Int × Nat × Int × (Nat → Int) × (Nat → Int) × (Nat → Int) × (Nat → Int) × (Nat → Int) × (Nat → Int) × (Nat → Int) × (Nat → Int) × (Nat → Int)) =>
                          bif
                              match d_4 with
                              | Sum.inl val => true
                              | Sum.inr val => false then
                            Option.bind
                              (match d_4 with
                              | Sum.inl a => some a
                              | Sum.inr val => none)
                              fun (d_5 : Int × Int × Int × Int × Int × Int × Nat × Bool × Int) =>
                              bif Nat.beq d_5.2.2.2.2.2.2.1 d_5.2.2.2.2.2.2.1 then
                                Option.bind
                                  (g___ring_Buffer__Peek d_5.1 d_5.2.1 d_5.2.2.1 d_5.2.2.2.1 d_5.2.2.2.2.1 d_5.2.2.2.2.2.1 d_5.2.2.2.2.2.2.1
                                    d_5.2.2.2.2.2.2.2.2 d.2.2.2.2.2.2.2.2.2.1 d.2.2.2.2.2.2.2.2.2.2.1
                                    d.2.2.2.2.2.2.2.2.2.2.2.1 d.2.2.2.2.2.2.2.2.2.2.2.2.1 d.2.2.2.2.2.2.2.2.2.2.2.2.2.1
                                    d.2.2.2.2.2.2.2.2.2.2.2.2.2.2.1 d.2.2.2.2.2.2.2.2.2.2.2.2.2.2.2.1
                                    d.2.2.2.2.2.2.2.2.2.2.2.2.2.2.2.2.1 d.2.2.2.2.2.2.2.2.2.2.2.2.2.2.2.2.2
                                    (d_5.2.2.2.2.2.2.2.1 && true && true))
                                  fun (d_6 : Int × Int × Int × Int × Int × Int × Int × Int × Int × Bool) =>
                                  bif Nat.beq d_5.2.2.2.2.2.2.1 d_5.2.2.2.2.2.2.1 then
                                    Option.bind
                                      (g___ring_Buffer__Pop 4 d_5.1 d_5.2.1 d_5.2.2.1 d_5.2.2.2.1 d_5.2.2.2.2.1 d_5.2.2.2.2.2.1 d_5.2.2.2.2.2.2.1
                                        d_5.2.2.2.2.2.2.2.2 d.2.2.2.2.2.2.2.2.2.1 d.2.2.2.2.2.2.2.2.2.2.1
                                        d.2.2.2.2.2.2.2.2.2.2.2.1 d.2.2.2.2.2.2.2.2.2.2.2.2.1 d.2.2.2.2.2.2.2.2.2.2.2.2.2.1
                                        d.2.2.2.2.2.2.2.2.2.2.2.2.2.2.1 d.2.2.2.2.2.2.2.2.2.2.2.2.2.2.2.1
                                        d.2.2.2.2.2.2.2.2.2.2.2.2.2.2.2.2.1 d.2.2.2.2.2.2.2.2.2.2.2.2.2.2.2.2.2
                                        (d_5.2.2.2.2.2.2.2.1 && true && true))
                                      fun
                                        (d :
                                          Nat ×
                                            Int ×
                                              Int ×
                                                Int ×
                                                  Int ×
                                                    Int ×
                                                      Int ×
                                                        Nat ×
                                                          Int ×
                                                            (Nat → Int) ×
                                                              (Nat → Int) ×
                                                                (Nat → Int) ×
                                                                  (Nat → Int) ×
                                                                    (Nat → Int) ×
                                                                      (Nat → Int) ×
                                                                        (Nat → Int) ×
                                                                          (Nat → Int) ×
                                                                            (Nat → Int) ×
                                                                              (Nat → Int) ×
                                                                                (Nat → Int) × (Nat → Int) × (Nat → Int) × (Nat → Int) × (Nat → Int) × (Nat → Int) × (Nat → Int) × (Nat → Int)) =>
                                      bif Nat.beq d.2.2.2.2.2.2.2.1 d.2.2.2.2.2.2.2.1 then
                                        Option.bind
                                          (g___ring_Buffer__Put 4 0 0 0 0 0 0 0 0 d.2.1 d.2.2.1 d.2.2.2.1 d.2.2.2.2.1 d.2.2.2.2.2.1 d.2.2.2.2.2.2.1
                                            d.2.2.2.2.2.2.2.1 d.2.2.2.2.2.2.2.2.1 d.2.2.2.2.2.2.2.2.2.2.2.2.2.2.2.2.2.2.1
                                            d.2.2.2.2.2.2.2.2.2.2.2.2.2.2.2.2.2.2.2.1
                                            d.2.2.2.2.2.2.2.2.2.2.2.2.2.2.2.2.2.2.2.2.1
                                            d.2.2.2.2.2.2.2.2.2.2.2.2.2.2.2.2.2.2.2.2.2.1
                                            d.2.2.2.2.2.2.2.2.2.2.2.2.2.2.2.2.2.2.2.2.2.2.1
                                            d.2.2.2.2.2.2.2.2.2.2.2.2.2.2.2.2.2.2.2.2.2.2.2.1
                                            d.2.2.2.2.2.2.2.2.2.2.2.2.2.2.2.2.2.2.2.2.2.2.2.2.1
                                            d.2.2.2.2.2.2.2.2.2.2.2.2.2.2.2.2.2.2.2.2.2.2.2.2.2.1
                                            d.2.2.2.2.2.2.2.2.2.2.2.2.2.2.2.2.2.2.2.2.2.2.2.2.2.2 true)
                                          fun
                                            (d_7 :
                                              Int × Int × Int × Int × Int × Int × Nat × Bool × Int ⊕
                                                Bool ×
                                                  Int ×
                                                    Int ×
                                                      Int ×
                                                        Int ×
                                                          Int ×
                                                            Int ×
                                                              Nat × Int × (Nat → Int) × (Nat → Int) × (Nat → Int) × (Nat → Int) × (Nat → Int) × (Nat → Int) × (Nat → Int) × (Nat → Int) × (Nat → Int)) =>
                                          bif
                                              match d_7 with
                                              | Sum.inl val => true
                                              | Sum.inr val => false then
                                            Option.bind
                                              (match d_7 with
                                              | Sum.inl a => some a
                                              | Sum.inr val => none)
                                              fun (d_8 : Int × Int × Int × Int × Int × Int × Nat × Bool × Int) =>
                                              bif Nat.beq d_8.2.2.2.2.2.2.1 d_8.2.2.2.2.2.2.1 then
                                                Option.bind
                                                  (g___ring_Buffer__Spoilt d_8.1 d_8.2.1 d_8.2.2.1 d_8.2.2.2.1 d_8.2.2.2.2.1 d_8.2.2.2.2.2.1
                                                    d_8.2.2.2.2.2.2.1 d_8.2.2.2.2.2.2.2.2 d.2.2.2.2.2.2.2.2.2.2.2.2.2.2.2.2.2.2.1
                                                    d.2.2.2.2.2.2.2.2.2.2.2.2.2.2.2.2.2.2.2.1
                                                    d.2.2.2.2.2.2.2.2.2.2.2.2.2.2.2.2.2.2.2.2.1
                                                    d.2.2.2.2.2.2.2.2.2.2.2.2.2.2.2.2.2.2.2.2.2.1
                                                    d.2.2.2.2.2.2.2.2.2.2.2.2.2.2.2.2.2.2.2.2.2.2.1
                                                    d.2.2.2.2.2.2.2.2.2.2.2.2.2.2.2.2.2.2.2.2.2.2.2.1
                                                    d.2.2.2.2.2.2.2.2.2.2.2.2.2.2.2.2.2.2.2.2.2.2.2.2.1
                                                    d.2.2.2.2.2.2.2.2.2.2.2.2.2.2.2.2.2.2.2.2.2.2.2.2.2.1
                                                    d.2.2.2.2.2.2.2.2.2.2.2.2.2.2.2.2.2.2.2.2.2.2.2.2.2.2
                                                    (d_8.2.2.2.2.2.2.2.1 && true && true))
                                                  fun (d : Int × Int × Int × Int × Int × Int × Nat × Bool × Int) => k false
                                              else none
                                          else
                                            Option.bind
                                              (match d_7 with
                                              | Sum.inr b => some b
                                              | Sum.inl val => none)
                                              fun
                                                (d :
                                                  Bool ×
                                                    Int ×
                                                      Int ×
                                                        Int ×
                                                          Int ×
                                                            Int ×
                                                              Int ×
                                                                Nat ×
                                                                  Int × (Nat → Int) × (Nat → Int) × (Nat → Int) × (Nat → Int) × (Nat → Int) × (Nat → Int) × (Nat → Int) × (Nat → Int) × (Nat → Int)) =>
                                              bif Nat.beq d.2.2.2.2.2.2.2.1 d.2.2.2.2.2.2.2.1 then
                                                Option.bind
                                                  (g___ring_Buffer__Spoilt d.2.1 d.2.2.1 d.2.2.2.1 d.2.2.2.2.1 d.2.2.2.2.2.1 d.2.2.2.2.2.2.1
                                                    d.2.2.2.2.2.2.2.1 d.2.2.2.2.2.2.2.2.1 d.2.2.2.2.2.2.2.2.2.1
                                                    d.2.2.2.2.2.2.2.2.2.2.1 d.2.2.2.2.2.2.2.2.2.2.2.1 d.2.2.2.2.2.2.2.2.2.2.2.2.1
                                                    d.2.2.2.2.2.2.2.2.2.2.2.2.2.1 d.2.2.2.2.2.2.2.2.2.2.2.2.2.2.1
                                                    d.2.2.2.2.2.2.2.2.2.2.2.2.2.2.2.1 d.2.2.2.2.2.2.2.2.2.2.2.2.2.2.2.2.1
                                                    d.2.2.2.2.2.2.2.2.2.2.2.2.2.2.2.2.2 true)
                                                  fun (d : Int × Int × Int × Int × Int × Int × Nat × Bool × Int) => k false
                                              else none
                                      else none
                                  else none
                              else none
                          else
                            Option.bind
                              (match d_4 with
                              | Sum.inr b => some b
                              | Sum.inl val => none)
                              fun
                                (d :
                                  Bool ×
                                    Int ×
                                      Int ×
                                        Int ×
                                          Int × Int × Int × Nat × Int × (Nat → Int) × (Nat → Int) × (Nat → Int) × (Nat → Int) × (Nat → Int) × (Nat → Int) × (Nat → Int) × (Nat → Int) × (Nat → Int)) =>
                              bif Nat.beq d.2.2.2.2.2.2.2.1 d.2.2.2.2.2.2.2.1 then
                                Option.bind
                                  (g___ring_Buffer__Peek d.2.1 d.2.2.1 d.2.2.2.1 d.2.2.2.2.1 d.2.2.2.2.2.1 d.2.2.2.2.2.2.1
                                    d.2.2.2.2.2.2.2.1 d.2.2.2.2.2.2.2.2.1 d.2.2.2.2.2.2.2.2.2.1 d.2.2.2.2.2.2.2.2.2.2.1
                                    d.2.2.2.2.2.2.2.2.2.2.2.1 d.2.2.2.2.2.2.2.2.2.2.2.2.1 d.2.2.2.2.2.2.2.2.2.2.2.2.2.1
                                    d.2.2.2.2.2.2.2.2.2.2.2.2.2.2.1 d.2.2.2.2.2.2.2.2.2.2.2.2.2.2.2.1
                                    d.2.2.2.2.2.2.2.2.2.2.2.2.2.2.2.2.1 d.2.2.2.2.2.2.2.2.2.2.2.2.2.2.2.2.2 true)
                                  fun (d_5 : Int × Int × Int × Int × Int × Int × Int × Int × Int × Bool) =>
                                  bif Nat.beq d.2.2.2.2.2.2.2.1 d.2.2.2.2.2.2.2.1 then
                                    Option.bind
                                      (g___ring_Buffer__Pop 4 d.2.1 d.2.2.1 d.2.2.2.1 d.2.2.2.2.1 d.2.2.2.2.2.1 d.2.2.2.2.2.2.1
                                        d.2.2.2.2.2.2.2.1 d.2.2.2.2.2.2.2.2.1 d.2.2.2.2.2.2.2.2.2.1 d.2.2.2.2.2.2.2.2.2.2.1
                                        d.2.2.2.2.2.2.2.2.2.2.2.1 d.2.2.2.2.2.2.2.2.2.2.2.2.1 d.2.2.2.2.2.2.2.2.2.2.2.2.2.1
                                        d.2.2.2.2.2.2.2.2.2.2.2.2.2.2.1 d.2.2.2.2.2.2.2.2.2.2.2.2.2.2.2.1
                                        d.2.2.2.2.2.2.2.2.2.2.2.2.2.2.2.2.1 d.2.2.2.2.2.2.2.2.2.2.2.2.2.2.2.2.2 true)
                                      fun
                                        (d :
                                          Nat ×
                                            Int ×
                                              Int ×
                                                Int ×
                                                  Int ×
                                                    Int ×
                                                      Int ×
                                                        Nat ×
                                                          Int ×
                                                            (Nat → Int) ×
                                                              (Nat → Int) ×
                                                                (Nat → Int) ×
                                                                  (Nat → Int) ×
                                                                    (Nat → Int) ×
                                                                      (Nat → Int) ×
                                                                        (Nat → Int) ×
                                                                          (Nat → Int) ×
                                                                            (Nat → Int) ×
                                                                              (Nat → Int) ×
                                                                                (Nat → Int) × (Nat → Int) × (Nat → Int) × (Nat → Int) × (Nat → Int) × (Nat → Int) × (Nat → Int) × (Nat → Int)) =>
                                      bif Nat.beq d.2.2.2.2.2.2.2.1 d.2.2.2.2.2.2.2.1 then
                                        Option.bind
                                          (g___ring_Buffer__Put 4 0 0 0 0 0 0 0 0 d.2.1 d.2.2.1 d.2.2.2.1 d.2.2.2.2.1 d.2.2.2.2.2.1 d.2.2.2.2.2.2.1
                                            d.2.2.2.2.2.2.2.1 d.2.2.2.2.2.2.2.2.1 d.2.2.2.2.2.2.2.2.2.2.2.2.2.2.2.2.2.2.1
                                            d.2.2.2.2.2.2.2.2.2.2.2.2.2.2.2.2.2.2.2.1
                                            d.2.2.2.2.2.2.2.2.2.2.2.2.2.2.2.2.2.2.2.2.1
                                            d.2.2.2.2.2.2.2.2.2.2.2.2.2.2.2.2.2.2.2.2.2.1
                                            d.2.2.2.2.2.2.2.2.2.2.2.2.2.2.2.2.2.2.2.2.2.2.1
                                            d.2.2.2.2.2.2.2.2.2.2.2.2.2.2.2.2.2.2.2.2.2.2.2.1
                                            d.2.2.2.2.2.2.2.2.2.2.2.2.2.2.2.2.2.2.2.2.2.2.2.2.1
                                            d.2.2.2.2.2.2.2.2.2.2.2.2.2.2.2.2.2.2.2.2.2.2.2.2.2.1
                                            d.2.2.2.2.2.2.2.2.2.2.2.2.2.2.2.2.2.2.2.2.2.2.2.2.2.2 true)
                                          fun
                                            (d_6 :
                                              Int × Int × Int × Int × Int × Int × Nat × Bool × Int ⊕
                                                Bool ×
                                                  Int ×
                                                    Int ×
                                                      Int ×
                                                        Int ×
                                                          Int ×
                                                            Int ×
                                                              Nat × Int × (Nat → Int) × (Nat → Int) × (Nat → Int) × (Nat → Int) × (Nat → Int) × (Nat → Int) × (Nat → Int) × (Nat → Int) × (Nat → Int)) =>
                                          bif
                                              match d_6 with
                                              | Sum.inl val => true
                                              | Sum.inr val => false then
                                            Option.bind
                                              (match d_6 with
                                              | Sum.inl a => some a
                                              | Sum.inr val => none)
                                              fun (d_7 : Int × Int × Int × Int × Int × Int × Nat × Bool × Int) =>
                                              bif Nat.beq d_7.2.2.2.2.2.2.1 d_7.2.2.2.2.2.2.1 then
                                                Option.bind
                                                  (g___ring_Buffer__Spoilt d_7.1 d_7.2.1 d_7.2.2.1 d_7.2.2.2.1 d_7.2.2.2.2.1 d_7.2.2.2.2.2.1
                                                    d_7.2.2.2.2.2.2.1 d_7.2.2.2.2.2.2.2.2 d.2.2.2.2.2.2.2.2.2.2.2.2.2.2.2.2.2.2.1
                                                    d.2.2.2.2.2.2.2.2.2.2.2.2.2.2.2.2.2.2.2.1
                                                    d.2.2.2.2.2.2.2.2.2.2.2.2.2.2.2.2.2.2.2.2.1
                                                    d.2.2.2.2.2.2.2.2.2.2.2.2.2.2.2.2.2.2.2.2.2.1
                                                    d.2.2.2.2.2.2.2.2.2.2.2.2.2.2.2.2.2.2.2.2.2.2.1
                                                    d.2.2.2.2.2.2.2.2.2.2.2.2.2.2.2.2.2.2.2.2.2.2.2.1
                                                    d.2.2.2.2.2.2.2.2.2.2.2.2.2.2.2.2.2.2.2.2.2.2.2.2.1
                                                    d.2.2.2.2.2.2.2.2.2.2.2.2.2.2.2.2.2.2.2.2.2.2.2.2.2.1
                                                    d.2.2.2.2.2.2.2.2.2.2.2.2.2.2.2.2.2.2.2.2.2.2.2.2.2.2
                                                    (d_7.2.2.2.2.2.2.2.1 && true && true))
                                                  fun (d : Int × Int × Int × Int × Int × Int × Nat × Bool × Int) => k false
                                              else none
                                          else
                                            Option.bind
                                              (match d_6 with
                                              | Sum.inr b => some b
                                              | Sum.inl val => none)
                                              fun
                                                (d :
                                                  Bool ×
                                                    Int ×
                                                      Int ×
                                                        Int ×
                                                          Int ×
                                                            Int ×
                                                              Int ×
                                                                Nat ×
                                                                  Int × (Nat → Int) × (Nat → Int) × (Nat → Int) × (Nat → Int) × (Nat → Int) × (Nat → Int) × (Nat → Int) × (Nat → Int) × (Nat → Int)) =>
                                              bif Nat.beq d.2.2.2.2.2.2.2.1 d.2.2.2.2.2.2.2.1 then
                                                Option.bind
                                                  (g___ring_Buffer__Spoilt d.2.1 d.2.2.1 d.2.2.2.1 d.2.2.2.2.1 d.2.2.2.2.2.1 d.2.2.2.2.2.2.1
                                                    d.2.2.2.2.2.2.2.1 d.2.2.2.2.2.2.2.2.1 d.2.2.2.2.2.2.2.2.2.1
                                                    d.2.2.2.2.2.2.2.2.2.2.1 d.2.2.2.2.2.2.2.2.2.2.2.1 d.2.2.2.2.2.2.2.2.2.2.2.2.1
                                                    d.2.2.2.2.2.2.2.2.2.2.2.2.2.1 d.2.2.2.2.2.2.2.2.2.2.2.2.2.2.1
                                                    d.2.2.2.2.2.2.2.2.2.2.2.2.2.2.2.1 d.2.2.2.2.2.2.2.2.2.2.2.2.2.2.2.2.1
                                                    d.2.2.2.2.2.2.2.2.2.2.2.2.2.2.2.2.2 true)
                                                  fun (d : Int × Int × Int × Int × Int × Int × Nat × Bool × Int) => k false
                                              else none
                                      else none
                                  else none
                              else none
                      else none
              else none
          else
            Option.bind
              (match d_1 with
              | Sum.inr b => some b
              | Sum.inl val => none)
              fun
                (d :
                  Bool × Int × Int × Int × Int × Int × Int × Nat × Int × (Nat → Int) × (Nat → Int) × (Nat → Int) × (Nat → Int) × (Nat → Int) × (Nat → Int) × (Nat → Int) × (Nat → Int) × (Nat → Int)) =>
              bif Nat.beq d.2.2.2.2.2.2.2.1 d.2.2.2.2.2.2.2.1 then
                Option.bind
                  (g___ring_Buffer__Put 3 0 0 0 0 0 0 0 0 d.2.1 d.2.2.1 d.2.2.2.1 d.2.2.2.2.1 d.2.2.2.2.2.1 d.2.2.2.2.2.2.1
                    d.2.2.2.2.2.2.2.1 d.2.2.2.2.2.2.2.2.1 d.2.2.2.2.2.2.2.2.2.1 d.2.2.2.2.2.2.2.2.2.2.1
                    d.2.2.2.2.2.2.2.2.2.2.2.1 d.2.2.2.2.2.2.2.2.2.2.2.2.1 d.2.2.2.2.2.2.2.2.2.2.2.2.2.1
                    d.2.2.2.2.2.2.2.2.2.2.2.2.2.2.1 d.2.2.2.2.2.2.2.2.2.2.2.2.2.2.2.1
                    d.2.2.2.2.2.2.2.2.2.2.2.2.2.2.2.2.1 d.2.2.2.2.2.2.2.2.2.2.2.2.2.2.2.2.2 true)
                  fun
                    (d_2 :
                      Int × Int × Int × Int × Int × Int × Nat × Bool × Int ⊕
                        Bool ×
                          Int × Int × Int × Int × Int × Int × Nat × Int × (Nat → Int) × (Nat → Int) × (Nat → Int) × (Nat → Int) × (Nat → Int) × (Nat → Int) × (Nat → Int) × (Nat → Int) × (Nat → Int)) =>
                  bif
                      match d_2 with
                      | Sum.inl val => true
                      | Sum.inr val => false then
                    Option.bind
                      (match d_2 with
                      | Sum.inl a => some a
                      | Sum.inr val => none)
                      fun (d_3 : Int × Int × Int × Int × Int × Int × Nat × Bool × Int) =>
                      bif Nat.beq d_3.2.2.2.2.2.2.1 d_3.2.2.2.2.2.2.1 then
                        Option.bind
                          (g___ring_Buffer__Put 4 0 0 0 0 0 0 0 0 d_3.1 d_3.2.1 d_3.2.2.1 d_3.2.2.2.1 d_3.2.2.2.2.1 d_3.2.2.2.2.2.1
                            d_3.2.2.2.2.2.2.1 d_3.2.2.2.2.2.2.2.2 d.2.2.2.2.2.2.2.2.2.1 d.2.2.2.2.2.2.2.2.2.2.1
                            d.2.2.2.2.2.2.2.2.2.2.2.1 d.2.2.2.2.2.2.2.2.2.2.2.2.1 d.2.2.2.2.2.2.2.2.2.2.2.2.2.1
                            d.2.2.2.2.2.2.2.2.2.2.2.2.2.2.1 d.2.2.2.2.2.2.2.2.2.2.2.2.2.2.2.1
                            d.2.2.2.2.2.2.2.2.2.2.2.2.2.2.2.2.1 d.2.2.2.2.2.2.2.2.2.2.2.2.2.2.2.2.2
                            (d_3.2.2.2.2.2.2.2.1 && true && true))
                          fun
                            (d_4 :
                              Int × Int × Int × Int × Int × Int × Nat × Bool × Int ⊕
                                Bool ×
                                  Int ×
                                    Int ×
                                      Int × Int × Int × Int × Nat × Int × (Nat → Int) × (Nat → Int) × (Nat → Int) × (Nat → Int) × (Nat → Int) × (Nat → Int) × (Nat → Int) × (Nat → Int) × (Nat → Int)) =>
                          bif
                              match d_4 with
                              | Sum.inl val => true
                              | Sum.inr val => false then
                            Option.bind
                              (match d_4 with
                              | Sum.inl a => some a
                              | Sum.inr val => none)
                              fun (d_5 : Int × Int × Int × Int × Int × Int × Nat × Bool × Int) =>
                              bif Nat.beq d_5.2.2.2.2.2.2.1 d_5.2.2.2.2.2.2.1 then
                                Option.bind
                                  (g___ring_Buffer__Peek d_5.1 d_5.2.1 d_5.2.2.1 d_5.2.2.2.1 d_5.2.2.2.2.1 d_5.2.2.2.2.2.1 d_5.2.2.2.2.2.2.1
                                    d_5.2.2.2.2.2.2.2.2 d.2.2.2.2.2.2.2.2.2.1 d.2.2.2.2.2.2.2.2.2.2.1
                                    d.2.2.2.2.2.2.2.2.2.2.2.1 d.2.2.2.2.2.2.2.2.2.2.2.2.1 d.2.2.2.2.2.2.2.2.2.2.2.2.2.1
                                    d.2.2.2.2.2.2.2.2.2.2.2.2.2.2.1 d.2.2.2.2.2.2.2.2.2.2.2.2.2.2.2.1
                                    d.2.2.2.2.2.2.2.2.2.2.2.2.2.2.2.2.1 d.2.2.2.2.2.2.2.2.2.2.2.2.2.2.2.2.2
                                    (d_5.2.2.2.2.2.2.2.1 && (d_3.2.2.2.2.2.2.2.1 && true && true) && true))
                                  fun (d_6 : Int × Int × Int × Int × Int × Int × Int × Int × Int × Bool) =>
                                  bif Nat.beq d_5.2.2.2.2.2.2.1 d_5.2.2.2.2.2.2.1 then
                                    Option.bind
                                      (g___ring_Buffer__Pop 4 d_5.1 d_5.2.1 d_5.2.2.1 d_5.2.2.2.1 d_5.2.2.2.2.1 d_5.2.2.2.2.2.1 d_5.2.2.2.2.2.2.1
                                        d_5.2.2.2.2.2.2.2.2 d.2.2.2.2.2.2.2.2.2.1 d.2.2.2.2.2.2.2.2.2.2.1
                                        d.2.2.2.2.2.2.2.2.2.2.2.1 d.2.2.2.2.2.2.2.2.2.2.2.2.1 d.2.2.2.2.2.2.2.2.2.2.2.2.2.1
                                        d.2.2.2.2.2.2.2.2.2.2.2.2.2.2.1 d.2.2.2.2.2.2.2.2.2.2.2.2.2.2.2.1
                                        d.2.2.2.2.2.2.2.2.2.2.2.2.2.2.2.2.1 d.2.2.2.2.2.2.2.2.2.2.2.2.2.2.2.2.2
                                        (d_5.2.2.2.2.2.2.2.1 && (d_3.2.2.2.2.2.2.2.1 && true && true) && true))
                                      fun
                                        (d_7 :
                                          Nat ×
                                            Int ×
                                              Int ×
                                                Int ×
                                                  Int ×
                                                    Int ×
                                                      Int ×
                                                        Nat ×
                                                          Int ×
                                                            (Nat → Int) ×
                                                              (Nat → Int) ×
                                                                (Nat → Int) ×
                                                                  (Nat → Int) ×
                                                                    (Nat → Int) ×
                                                                      (Nat → Int) ×
                                                                        (Nat → Int) ×
                                                                          (Nat → Int) ×
                                                                            (Nat → Int) ×
                                                                              (Nat → Int) ×
                                                                                (Nat → Int) × (Nat → Int) × (Nat → Int) × (Nat → Int) × (Nat → Int) × (Nat → Int) × (Nat → Int) × (Nat → Int)) =>
                                      bif Nat.beq d_7.2.2.2.2.2.2.2.1 d_7.2.2.2.2.2.2.2.1 then
                                        Option.bind
                                          (g___ring_Buffer__Put 4 0 0 0 0 0 0 0 0 d_7.2.1 d_7.2.2.1 d_7.2.2.2.1 d_7.2.2.2.2.1 d_7.2.2.2.2.2.1
                                            d_7.2.2.2.2.2.2.1 d_7.2.2.2.2.2.2.2.1 d_7.2.2.2.2.2.2.2.2.1
                                            d_7.2.2.2.2.2.2.2.2.2.2.2.2.2.2.2.2.2.2.1
                                            d_7.2.2.2.2.2.2.2.2.2.2.2.2.2.2.2.2.2.2.2.1
                                            d_7.2.2.2.2.2.2.2.2.2.2.2.2.2.2.2.2.2.2.2.2.1
                                            d_7.2.2.2.2.2.2.2.2.2.2.2.2.2.2.2.2.2.2.2.2.2.1
                                            d_7.2.2.2.2.2.2.2.2.2.2.2.2.2.2.2.2.2.2.2.2.2.2.1
                                            d_7.2.2.2.2.2.2.2.2.2.2.2.2.2.2.2.2.2.2.2.2.2.2.2.1
                                            d_7.2.2.2.2.2.2.2.2.2.2.2.2.2.2.2.2.2.2.2.2.2.2.2.2.1
                                            d_7.2.2.2.2.2.2.2.2.2.2.2.2.2.2.2.2.2.2.2.2.2.2.2.2.2.1
                                            d_7.2.2.2.2.2.2.2.2.2.2.2.2.2.2.2.2.2.2.2.2.2.2.2.2.2.2 true)
                                          fun
                                            (d_8 :
                                              Int × Int × Int × Int × Int × Int × Nat × Bool × Int ⊕
                                                Bool ×
                                                  Int ×
                                                    Int ×
                                                      Int ×
                                                        Int ×
                                                          Int ×
                                                            Int ×
                                                              Nat × Int × (Nat → Int) × (Nat → Int) × (Nat → Int) × (Nat → Int) × (Nat → Int) × (Nat → Int) × (Nat → Int) × (Nat → Int) × (Nat → Int)) =>
                                          bif
                                              match d_8 with
                                              | Sum.inl val => true
                                              | Sum.inr val => false then
                                            Option.bind
                                              (match d_8 with
                                              | Sum.inl a => some a
                                              | Sum.inr val => none)
                                              fun (d_9 : Int × Int × Int × Int × Int × Int × Nat × Bool × Int) =>
                                              bif Nat.beq d_9.2.2.2.2.2.2.1 d_9.2.2.2.2.2.2.1 then
                                                Option.bind
                                                  (g___ring_Buffer__Spoilt d_9.1 d_9.2.1 d_9.2.2.1 d_9.2.2.2.1 d_9.2.2.2.2.1 d_9.2.2.2.2.2.1
                                                    d_9.2.2.2.2.2.2.1 d_9.2.2.2.2.2.2.2.2 d_7.2.2.2.2.2.2.2.2.2.2.2.2.2.2.2.2.2.2.1
                                                    d_7.2.2.2.2.2.2.2.2.2.2.2.2.2.2.2.2.2.2.2.1
                                                    d_7.2.2.2.2.2.2.2.2.2.2.2.2.2.2.2.2.2.2.2.2.1
                                                    d_7.2.2.2.2.2.2.2.2.2.2.2.2.2.2.2.2.2.2.2.2.2.1
                                                    d_7.2.2.2.2.2.2.2.2.2.2.2.2.2.2.2.2.2.2.2.2.2.2.1
                                                    d_7.2.2.2.2.2.2.2.2.2.2.2.2.2.2.2.2.2.2.2.2.2.2.2.1
                                                    d_7.2.2.2.2.2.2.2.2.2.2.2.2.2.2.2.2.2.2.2.2.2.2.2.2.1
                                                    d_7.2.2.2.2.2.2.2.2.2.2.2.2.2.2.2.2.2.2.2.2.2.2.2.2.2.1
                                                    d_7.2.2.2.2.2.2.2.2.2.2.2.2.2.2.2.2.2.2.2.2.2.2.2.2.2.2
                                                    (d_9.2.2.2.2.2.2.2.1 && true && true))
                                                  fun (d_10 : Int × Int × Int × Int × Int × Int × Nat × Bool × Int) => bif d.1 then k false else k false
                                              else none
                                          else
                                            Option.bind
                                              (match d_8 with
                                              | Sum.inr b => some b
                                              | Sum.inl val => none)
                                              fun
                                                (d_9 :
                                                  Bool ×
                                                    Int ×
                                                      Int ×
                                                        Int ×
                                                          Int ×
                                                            Int ×
                                                              Int ×
                                                                Nat ×
                                                                  Int × (Nat → Int) × (Nat → Int) × (Nat → Int) × (Nat → Int) × (Nat → Int) × (Nat → Int) × (Nat → Int) × (Nat → Int) × (Nat → Int)) =>
                                              bif Nat.beq d_9.2.2.2.2.2.2.2.1 d_9.2.2.2.2.2.2.2.1 then
                                                Option.bind
                                                  (g___ring_Buffer__Spoilt d_9.2.1 d_9.2.2.1 d_9.2.2.2.1 d_9.2.2.2.2.1 d_9.2.2.2.2.2.1
                                                    d_9.2.2.2.2.2.2.1 d_9.2.2.2.2.2.2.2.1 d_9.2.2.2.2.2.2.2.2.1 d_9.2.2.2.2.2.2.2.2.2.1
                                                    d_9.2.2.2.2.2.2.2.2.2.2.1 d_9.2.2.2.2.2.2.2.2.2.2.2.1 d_9.2.2.2.2.2.2.2.2.2.2.2.2.1
                                                    d_9.2.2.2.2.2.2.2.2.2.2.2.2.2.1 d_9.2.2.2.2.2.2.2.2.2.2.2.2.2.2.1
                                                    d_9.2.2.2.2.2.2.2.2.2.2.2.2.2.2.2.1 d_9.2.2.2.2.2.2.2.2.2.2.2.2.2.2.2.2.1
                                                    d_9.2.2.2.2.2.2.2.2.2.2.2.2.2.2.2.2.2 true)
                                                  fun (d_10 : Int × Int × Int × Int × Int × Int × Nat × Bool × Int) => bif d.1 then k false else k false
                                              else none
                                      else none
                                  else none
                              else none
                          else
                            Option.bind
                              (match d_4 with
                              | Sum.inr b => some b
                              | Sum.inl val => none)
                              fun
                                (d_5 :
                                  Bool ×
                                    Int ×
                                      Int ×
                                        Int ×
                                          Int × Int × Int × Nat × Int × (Nat → Int) × (Nat → Int) × (Nat → Int) × (Nat → Int) × (Nat → Int) × (Nat → Int) × (Nat → Int) × (Nat → Int) × (Nat → Int)) =>
                              bif Nat.beq d_5.2.2.2.2.2.2.2.1 d_5.2.2.2.2.2.2.2.1 then
                                Option.bind
                                  (g___ring_Buffer__Peek d_5.2.1 d_5.2.2.1 d_5.2.2.2.1 d_5.2.2.2.2.1 d_5.2.2.2.2.2.1 d_5.2.2.2.2.2.2.1
                                    d_5.2.2.2.2.2.2.2.1 d_5.2.2.2.2.2.2.2.2.1 d_5.2.2.2.2.2.2.2.2.2.1 d_5.2.2.2.2.2.2.2.2.2.2.1
                                    d_5.2.2.2.2.2.2.2.2.2.2.2.1 d_5.2.2.2.2.2.2.2.2.2.2.2.2.1 d_5.2.2.2.2.2.2.2.2.2.2.2.2.2.1
                                    d_5.2.2.2.2.2.2.2.2.2.2.2.2.2.2.1 d_5.2.2.2.2.2.2.2.2.2.2.2.2.2.2.2.1
                                    d_5.2.2.2.2.2.2.2.2.2.2.2.2.2.2.2.2.1 d_5.2.2.2.2.2.2.2.2.2.2.2.2.2.2.2.2.2 true)
                                  fun (d_6 : Int × Int × Int × Int × Int × Int × Int × Int × Int × Bool) =>
                                  bif Nat.beq d_5.2.2.2.2.2.2.2.1 d_5.2.2.2.2.2.2.2.1 then
                                    Option.bind
                                      (g___ring_Buffer__Pop 4 d_5.2.1 d_5.2.2.1 d_5.2.2.2.1 d_5.2.2.2.2.1 d_5.2.2.2.2.2.1 d_5.2.2.2.2.2.2.1
                                        d_5.2.2.2.2.2.2.2.1 d_5.2.2.2.2.2.2.2.2.1 d_5.2.2.2.2.2.2.2.2.2.1
                                        d_5.2.2.2.2.2.2.2.2.2.2.1 d_5.2.2.2.2.2.2.2.2.2.2.2.1 d_5.2.2.2.2.2.2.2.2.2.2.2.2.1
                                        d_5.2.2.2.2.2.2.2.2.2.2.2.2.2.1 d_5.2.2.2.2.2.2.2.2.2.2.2.2.2.2.1
                                        d_5.2.2.2.2.2.2.2.2.2.2.2.2.2.2.2.1 d_5.2.2.2.2.2.2.2.2.2.2.2.2.2.2.2.2.1
                                        d_5.2.2.2.2.2.2.2.2.2.2.2.2.2.2.2.2.2 true)
                                      fun
                                        (d_7 :
                                          Nat ×
                                            Int ×
                                              Int ×
                                                Int ×
                                                  Int ×
                                                    Int ×
                                                      Int ×
                                                        Nat ×
                                                          Int ×
                                                            (Nat → Int) ×
                                                              (Nat → Int) ×
                                                                (Nat → Int) ×
                                                                  (Nat → Int) ×
                                                                    (Nat → Int) ×
                                                                      (Nat → Int) ×
                                                                        (Nat → Int) ×
                                                                          (Nat → Int) ×
                                                                            (Nat → Int) ×
                                                                              (Nat → Int) ×
                                                                                (Nat → Int) × (Nat → Int) × (Nat → Int) × (Nat → Int) × (Nat → Int) × (Nat → Int) × (Nat → Int) × (Nat → Int)) =>
                                      bif Nat.beq d_7.2.2.2.2.2.2.2.1 d_7.2.2.2.2.2.2.2.1 then
                                        Option.bind
                                          (g___ring_Buffer__Put 4 0 0 0 0 0 0 0 0 d_7.2.1 d_7.2.2.1 d_7.2.2.2.1 d_7.2.2.2.2.1 d_7.2.2.2.2.2.1
                                            d_7.2.2.2.2.2.2.1 d_7.2.2.2.2.2.2.2.1 d_7.2.2.2.2.2.2.2.2.1
                                            d_7.2.2.2.2.2.2.2.2.2.2.2.2.2.2.2.2.2.2.1
                                            d_7.2.2.2.2.2.2.2.2.2.2.2.2.2.2.2.2.2.2.2.1
                                            d_7.2.2.2.2.2.2.2.2.2.2.2.2.2.2.2.2.2.2.2.2.1
                                            d_7.2.2.2.2.2.2.2.2.2.2.2.2.2.2.2.2.2.2.2.2.2.1
                                            d_7.2.2.2.2.2.2.2.2.2.2.2.2.2.2.2.2.2.2.2.2.2.2.1
                                            d_7.2.2.2.2.2.2.2.2.2.2.2.2.2.2.2.2.2.2.2.2.2.2.2.1
                                            d_7.2.2.2.2.2.2.2.2.2.2.2.2.2.2.2.2.2.2.2.2.2.2.2.2.1
                                            d_7.2.2.2.2.2.2.2.2.2.2.2.2.2.2.2.2.2.2.2.2.2.2.2.2.2.1
                                            d_7.2.2.2.2.2.2.2.2.2.2.2.2.2.2.2.2.2.2.2.2.2.2.2.2.2.2 true)
                                          fun
                                            (d_8 :
                                              Int × Int × Int × Int × Int × Int × Nat × Bool × Int ⊕
                                                Bool ×
                                                  Int ×
                                                    Int ×
                                                      Int ×
                                                        Int ×
                                                          Int ×
                                                            Int ×
                                                              Nat × Int × (Nat → Int) × (Nat → Int) × (Nat → Int) × (Nat → Int) × (Nat → Int) × (Nat → Int) × (Nat → Int) × (Nat → Int) × (Nat → Int)) =>
                                          bif
                                              match d_8 with
                                              | Sum.inl val => true
                                              | Sum.inr val => false then
                                            Option.bind
                                              (match d_8 with
                                              | Sum.inl a => some a
                                              | Sum.inr val => none)
                                              fun (d_9 : Int × Int × Int × Int × Int × Int × Nat × Bool × Int) =>
                                              bif Nat.beq d_9.2.2.2.2.2.2.1 d_9.2.2.2.2.2.2.1 then
                                                Option.bind
                                                  (g___ring_Buffer__Spoilt d_9.1 d_9.2.1 d_9.2.2.1 d_9.2.2.2.1 d_9.2.2.2.2.1 d_9.2.2.2.2.2.1
                                                    d_9.2.2.2.2.2.2.1 d_9.2.2.2.2.2.2.2.2 d_7.2.2.2.2.2.2.2.2.2.2.2.2.2.2.2.2.2.2.1
                                                    d_7.2.2.2.2.2.2.2.2.2.2.2.2.2.2.2.2.2.2.2.1
                                                    d_7.2.2.2.2.2.2.2.2.2.2.2.2.2.2.2.2.2.2.2.2.1
                                                    d_7.2.2.2.2.2.2.2.2.2.2.2.2.2.2.2.2.2.2.2.2.2.1
                                                    d_7.2.2.2.2.2.2.2.2.2.2.2.2.2.2.2.2.2.2.2.2.2.2.1
                                                    d_7.2.2.2.2.2.2.2.2.2.2.2.2.2.2.2.2.2.2.2.2.2.2.2.1
                                                    d_7.2.2.2.2.2.2.2.2.2.2.2.2.2.2.2.2.2.2.2.2.2.2.2.2.1
                                                    d_7.2.2.2.2.2.2.2.2.2.2.2.2.2.2.2.2.2.2.2.2.2.2.2.2.2.1
                                                    d_7.2.2.2.2.2.2.2.2.2.2.2.2.2.2.2.2.2.2.2.2.2.2.2.2.2.2
                                                    (d_9.2.2.2.2.2.2.2.1 && true && true))
                                                  fun (d_10 : Int × Int × Int × Int × Int × Int × Nat × Bool × Int) => bif d.1 then k false else k false
                                              else none
                                          else
                                            Option.bind
                                              (match d_8 with
                                              | Sum.inr b => some b
                                              | Sum.inl val => none)
                                              fun
                                                (d_9 :
                                                  Bool ×
                                                    Int ×
                                                      Int ×
                                                        Int ×
                                                          Int ×
                                                            Int ×
                                                              Int ×
                                                                Nat ×
                                                                  Int × (Nat → Int) × (Nat → Int) × (Nat → Int) × (Nat → Int) × (Nat → Int) × (Nat → Int) × (Nat → Int) × (Nat → Int) × (Nat → Int)) =>
                                              bif Nat.beq d_9.2.2.2.2.2.2.2.1 d_9.2.2.2.2.2.2.2.1 then
                                                Option.bind
                                                  (g___ring_Buffer__Spoilt d_9.2.1 d_9.2.2.1 d_9.2.2.2.1 d_9.2.2.2.2.1 d_9.2.2.2.2.2.1
                                                    d_9.2.2.2.2.2.2.1 d_9.2.2.2.2.2.2.2.1 d_9.2.2.2.2.2.2.2.2.1 d_9.2.2.2.2.2.2.2.2.2.1
                                                    d_9.2.2.2.2.2.2.2.2.2.2.1 d_9.2.2.2.2.2.2.2.2.2.2.2.1 d_9.2.2.2.2.2.2.2.2.2.2.2.2.1
                                                    d_9.2.2.2.2.2.2.2.2.2.2.2.2.2.1 d_9.2.2.2.2.2.2.2.2.2.2.2.2.2.2.1
                                                    d_9.2.2.2.2.2.2.2.2.2.2.2.2.2.2.2.1 d_9.2.2.2.2.2.2.2.2.2.2.2.2.2.2.2.2.1
                                                    d_9.2.2.2.2.2.2.2.2.2.2.2.2.2.2.2.2.2 true)
                                                  fun (d_10 : Int × Int × Int × Int × Int × Int × Nat × Bool × Int) => bif d.1 then k false else k false
                                              else none
                                      else none
                                  else none
                              else none
                      else none
                  else
                    Option.bind
                      (match d_2 with
                      | Sum.inr b => some b
                      | Sum.inl val => none)
                      fun
                        (d_3 :
                          Bool ×
                            Int ×
                              Int × Int × Int × Int × Int × Nat × Int × (Nat → Int) × (Nat → Int) × (Nat → Int) × (Nat → Int) × (Nat → Int) × (Nat → Int) × (Nat → Int) × (Nat → Int) × (Nat → Int)) =>
                      bif Nat.beq d_3.2.2.2.2.2.2.2.1 d_3.2.2.2.2.2.2.2.1 then
                        Option.bind
                          (g___ring_Buffer__Put 4 0 0 0 0 0 0 0 0 d_3.2.1 d_3.2.2.1 d_3.2.2.2.1 d_3.2.2.2.2.1 d_3.2.2.2.2.2.1 d_3.2.2.2.2.2.2.1
                            d_3.2.2.2.2.2.2.2.1 d_3.2.2.2.2.2.2.2.2.1 d_3.2.2.2.2.2.2.2.2.2.1 d_3.2.2.2.2.2.2.2.2.2.2.1
                            d_3.2.2.2.2.2.2.2.2.2.2.2.1 d_3.2.2.2.2.2.2.2.2.2.2.2.2.1 d_3.2.2.2.2.2.2.2.2.2.2.2.2.2.1
                            d_3.2.2.2.2.2.2.2.2.2.2.2.2.2.2.1 d_3.2.2.2.2.2.2.2.2.2.2.2.2.2.2.2.1
                            d_3.2.2.2.2.2.2.2.2.2.2.2.2.2.2.2.2.1 d_3.2.2.2.2.2.2.2.2.2.2.2.2.2.2.2.2.2 true)
                          fun
                            (d_4 :
                              Int × Int × Int × Int × Int × Int × Nat × Bool × Int ⊕
                                Bool ×
                                  Int ×
                                    Int ×
                                      Int × Int × Int × Int × Nat × Int × (Nat → Int) × (Nat → Int) × (Nat → Int) × (Nat → Int) × (Nat → Int) × (Nat → Int) × (Nat → Int) × (Nat → Int) × (Nat → Int)) =>
                          bif
                              match d_4 with
                              | Sum.inl val => true
                              | Sum.inr val => false then
                            Option.bind
                              (match d_4 with
                              | Sum.inl a => some a
                              | Sum.inr val => none)
                              fun (d_5 : Int × Int × Int × Int × Int × Int × Nat × Bool × Int) =>
                              bif Nat.beq d_5.2.2.2.2.2.2.1 d_5.2.2.2.2.2.2.1 then
                                Option.bind
                                  (g___ring_Buffer__Peek d_5.1 d_5.2.1 d_5.2.2.1 d_5.2.2.2.1 d_5.2.2.2.2.1 d_5.2.2.2.2.2.1 d_5.2.2.2.2.2.2.1
                                    d_5.2.2.2.2.2.2.2.2 d_3.2.2.2.2.2.2.2.2.2.1 d_3.2.2.2.2.2.2.2.2.2.2.1
                                    d_3.2.2.2.2.2.2.2.2.2.2.2.1 d_3.2.2.2.2.2.2.2.2.2.2.2.2.1 d_3.2.2.2.2.2.2.2.2.2.2.2.2.2.1
                                    d_3.2.2.2.2.2.2.2.2.2.2.2.2.2.2.1 d_3.2.2.2.2.2.2.2.2.2.2.2.2.2.2.2.1
                                    d_3.2.2.2.2.2.2.2.2.2.2.2.2.2.2.2.2.1 d_3.2.2.2.2.2.2.2.2.2.2.2.2.2.2.2.2.2
                                    (d_5.2.2.2.2.2.2.2.1 && true && true))
                                  fun (d_6 : Int × Int × Int × Int × Int × Int × Int × Int × Int × Bool) =>
                                  bif Nat.beq d_5.2.2.2.2.2.2.1 d_5.2.2.2.2.2.2.1 then
                                    Option.bind
                                      (g___ring_Buffer__Pop 4 d_5.1 d_5.2.1 d_5.2.2.1 d_5.2.2.2.1 d_5.2.2.2.2.1 d_5.2.2.2.2.2.1 d_5.2.2.2.2.2.2.1
                                        d_5.2.2.2.2.2.2.2.2 d_3.2.2.2.2.2.2.2.2.2.1 d_3.2.2.2.2.2.2.2.2.2.2.1
                                        d_3.2.2.2.2.2.2.2.2.2.2.2.1 d_3.2.2.2.2.2.2.2.2.2.2.2.2.1 d_3.2.2.2.2.2.2.2.2.2.2.2.2.2.1
                                        d_3.2.2.2.2.2.2.2.2.2.2.2.2.2.2.1 d_3.2.2.2.2.2.2.2.2.2.2.2.2.2.2.2.1
                                        d_3.2.2.2.2.2.2.2.2.2.2.2.2.2.2.2.2.1 d_3.2.2.2.2.2.2.2.2.2.2.2.2.2.2.2.2.2
                                        (d_5.2.2.2.2.2.2.2.1 && true && true))
                                      fun
                                        (d_7 :
                                          Nat ×
                                            Int ×
                                              Int ×
                                                Int ×
                                                  Int ×
                                                    Int ×
                                                      Int ×
                                                        Nat ×
                                                          Int ×
                                                            (Nat → Int) ×
                                                              (Nat → Int) ×
                                                                (Nat → Int) ×
                                                                  (Nat → Int) ×
                                                                    (Nat → Int) ×
                                                                      (Nat → Int) ×
                                                                        (Nat → Int) ×
                                                                          (Nat → Int) ×
                                                                            (Nat → Int) ×
                                                                              (Nat → Int) ×
                                                                                (Nat → Int) × (Nat → Int) × (Nat → Int) × (Nat → Int) × (Nat → Int) × (Nat → Int) × (Nat → Int) × (Nat → Int)) =>
                                      bif Nat.beq d_7.2.2.2.2.2.2.2.1 d_7.2.2.2.2.2.2.2.1 then
                                        Option.bind
                                          (g___ring_Buffer__Put 4 0 0 0 0 0 0 0 0 d_7.2.1 d_7.2.2.1 d_7.2.2.2.1 d_7.2.2.2.2.1 d_7.2.2.2.2.2.1
                                            d_7.2.2.2.2.2.2.1 d_7.2.2.2.2.2.2.2.1 d_7.2.2.2.2.2.2.2.2.1
                                            d_7.2.2.2.2.2.2.2.2.2.2.2.2.2.2.2.2.2.2.1
                                            d_7.2.2.2.2.2.2.2.2.2.2.2.2.2.2.2.2.2.2.2.1
                                            d_7.2.2.2.2.2.2.2.2.2.2.2.2.2.2.2.2.2.2.2.2.1
                                            d_7.2.2.2.2.2.2.2.2.2.2.2.2.2.2.2.2.2.2.2.2.2.1
                                            d_7.2.2.2.2.2.2.2.2.2.2.2.2.2.2.2.2.2.2.2.2.2.2.1
                                            d_7.2.2.2.2.2.2.2.2.2.2.2.2.2.2.2.2.2.2.2.2.2.2.2.1
                                            d_7.2.2.2.2.2.2.2.2.2.2.2.2.2.2.2.2.2.2.2.2.2.2.2.2.1
                                            d_7.2.2.2.2.2.2.2.2.2.2.2.2.2.2.2.2.2.2.2.2.2.2.2.2.2.1
                                            d_7.2.2.2.2.2.2.2.2.2.2.2.2.2.2.2.2.2.2.2.2.2.2.2.2.2.2 true)
                                          fun
                                            (d_8 :
                                              Int × Int × Int × Int × Int × Int × Nat × Bool × Int ⊕
                                                Bool ×
                                                  Int ×
                                                    Int ×
                                                      Int ×
                                                        Int ×
                                                          Int ×
                                                            Int ×
                                                              Nat × Int × (Nat → Int) × (Nat → Int) × (Nat → Int) × (Nat → Int) × (Nat → Int) × (Nat → Int) × (Nat → Int) × (Nat → Int) × (Nat → Int)) =>
                                          bif
                                              match d_8 with
                                              | Sum.inl val => true
                                              | Sum.inr val => false then
                                            Option.bind
                                              (match d_8 with
                                              | Sum.inl a => some a
                                              | Sum.inr val => none)
                                              fun (d_9 : Int × Int × Int × Int × Int × Int × Nat × Bool × Int) =>
                                              bif Nat.beq d_9.2.2.2.2.2.2.1 d_9.2.2.2.2.2.2.1 then
                                                Option.bind
                                                  (g___ring_Buffer__Spoilt d_9.1 d_9.2.1 d_9.2.2.1 d_9.2.2.2.1 d_9.2.2.2.2.1 d_9.2.2.2.2.2.1
                                                    d_9.2.2.2.2.2.2.1 d_9.2.2.2.2.2.2.2.2 d_7.2.2.2.2.2.2.2.2.2.2.2.2.2.2.2.2.2.2.1
                                                    d_7.2.2.2.2.2.2.2.2.2.2.2.2.2.2.2.2.2.2.2.1
                                                    d_7.2.2.2.2.2.2.2.2.2.2.2.2.2.2.2.2.2.2.2.2.1
                                                    d_7.2.2.2.2.2.2.2.2.2.2.2.2.2.2.2.2.2.2.2.2.2.1
                                                    d_7.2.2.2.2.2.2.2.2.2.2.2.2.2.2.2.2.2.2.2.2.2.2.1
                                                    d_7.2.2.2.2.2.2.2.2.2.2.2.2.2.2.2.2.2.2.2.2.2.2.2.1
                                                    d_7.2.2.2.2.2.2.2.2.2.2.2.2.2.2.2.2.2.2.2.2.2.2.2.2.1
                                                    d_7.2.2.2.2.2.2.2.2.2.2.2.2.2.2.2.2.2.2.2.2.2.2.2.2.2.1
                                                    d_7.2.2.2.2.2.2.2.2.2.2.2.2.2.2.2.2.2.2.2.2.2.2.2.2.2.2
                                                    (d_9.2.2.2.2.2.2.2.1 && true && true))
                                                  fun (d_10 : Int × Int × Int × Int × Int × Int × Nat × Bool × Int) => bif d.1 then bif d_3.1 then k false else k false else k false
                                              else none
                                          else
                                            Option.bind
                                              (match d_8 with
                                              | Sum.inr b => some b
                                              | Sum.inl val => none)
                                              fun
                                                (d_9 :
                                                  Bool ×
                                                    Int ×
                                                      Int ×
                                                        Int ×
                                                          Int ×
                                                            Int ×
                                                              Int ×
                                                                Nat ×
                                                                  Int × (Nat → Int) × (Nat → Int) × (Nat → Int) × (Nat → Int) × (Nat → Int) × (Nat → Int) × (Nat → Int) × (Nat → Int) × (Nat → Int)) =>
                                              bif Nat.beq d_9.2.2.2.2.2.2.2.1 d_9.2.2.2.2.2.2.2.1 then
                                                Option.bind
                                                  (g___ring_Buffer__Spoilt d_9.2.1 d_9.2.2.1 d_9.2.2.2.1 d_9.2.2.2.2.1 d_9.2.2.2.2.2.1
                                                    d_9.2.2.2.2.2.2.1 d_9.2.2.2.2.2.2.2.1 d_9.2.2.2.2.2.2.2.2.1 d_9.2.2.2.2.2.2.2.2.2.1
                                                    d_9.2.2.2.2.2.2.2.2.2.2.1 d_9.2.2.2.2.2.2.2.2.2.2.2.1 d_9.2.2.2.2.2.2.2.2.2.2.2.2.1
                                                    d_9.2.2.2.2.2.2.2.2.2.2.2.2.2.1 d_9.2.2.2.2.2.2.2.2.2.2.2.2.2.2.1
                                                    d_9.2.2.2.2.2.2.2.2.2.2.2.2.2.2.2.1 d_9.2.2.2.2.2.2.2.2.2.2.2.2.2.2.2.2.1
                                                    d_9.2.2.2.2.2.2.2.2.2.2.2.2.2.2.2.2.2 true)
                                                  fun (d_10 : Int × Int × Int × Int × Int × Int × Nat × Bool × Int) => bif d.1 then bif d_3.1 then k false else k false else k false
                                              else none
                                      else none
                                  else none
                              else none
                          else
                            Option.bind
                              (match d_4 with
                              | Sum.inr b => some b
                              | Sum.inl val => none)
                              fun
                                (d_5 :
                                  Bool ×
                                    Int ×
                                      Int ×
                                        Int ×
                                          Int × Int × Int × Nat × Int × (Nat → Int) × (Nat → Int) × (Nat → Int) × (Nat → Int) × (Nat → Int) × (Nat → Int) × (Nat → Int) × (Nat → Int) × (Nat → Int)) =>
                              bif Nat.beq d_5.2.2.2.2.2.2.2.1 d_5.2.2.2.2.2.2.2.1 then
                                Option.bind
                                  (g___ring_Buffer__Peek d_5.2.1 d_5.2.2.1 d_5.2.2.2.1 d_5.2.2.2.2.1 d_5.2.2.2.2.2.1 d_5.2.2.2.2.2.2.1
                                    d_5.2.2.2.2.2.2.2.1 d_5.2.2.2.2.2.2.2.2.1 d_5.2.2.2.2.2.2.2.2.2.1 d_5.2.2.2.2.2.2.2.2.2.2.1
                                    d_5.2.2.2.2.2.2.2.2.2.2.2.1 d_5.2.2.2.2.2.2.2.2.2.2.2.2.1 d_5.2.2.2.2.2.2.2.2.2.2.2.2.2.1
                                    d_5.2.2.2.2.2.2.2.2.2.2.2.2.2.2.1 d_5.2.2.2.2.2.2.2.2.2.2.2.2.2.2.2.1
                                    d_5.2.2.2.2.2.2.2.2.2.2.2.2.2.2.2.2.1 d_5.2.2.2.2.2.2.2.2.2.2.2.2.2.2.2.2.2 true)
                                  fun (d_6 : Int × Int × Int × Int × Int × Int × Int × Int × Int × Bool) =>
                                  bif Nat.beq d_5.2.2.2.2.2.2.2.1 d_5.2.2.2.2.2.2.2.1 then
                                    Option.bind
                                      (g___ring_Buffer__Pop 4 d_5.2.1 d_5.2.2.1 d_5.2.2.2.1 d_5.2.2.2.2.1 d_5.2.2.2.2.2.1 d_5.2.2.2.2.2.2.1
                                        d_5.2.2.2.2.2.2.2.1 d_5.2.2.2.2.2.2.2.2.1 d_5.2.2.2.2.2.2.2.2.2.1
                                        d_5.2.2.2.2.2.2.2.2.2.2.1 d_5.2.2.2.2.2.2.2.2.2.2.2.1 d_5.2.2.2.2.2.2.2.2.2.2.2.2.1
                                        d_5.2.2.2.2.2.2.2.2.2.2.2.2.2.1 d_5.2.2.2.2.2.2.2.2.2.2.2.2.2.2.1
                                        d_5.2.2.2.2.2.2.2.2.2.2.2.2.2.2.2.1 d_5.2.2.2.2.2.2.2.2.2.2.2.2.2.2.2.2.1
                                        d_5.2.2.2.2.2.2.2.2.2.2.2.2.2.2.2.2.2 true)
                                      fun
                                        (d_7 :
                                          Nat ×
                                            Int ×
                                              Int ×
                                                Int ×
                                                  Int ×
                                                    Int ×
                                                      Int ×
                                                        Nat ×
                                                          Int ×
                                                            (Nat → Int) ×
                                                              (Nat → Int) ×
                                                                (Nat → Int) ×
                                                                  (Nat → Int) ×
                                                                    (Nat → Int) ×
                                                                      (Nat → Int) ×
                                                                        (Nat → Int) ×
                                                                          (Nat → Int) ×
                                                                            (Nat → Int) ×
                                                                              (Nat → Int) ×
                                                                                (Nat → Int) × (Nat → Int) × (Nat → Int) × (Nat → Int) × (Nat → Int) × (Nat → Int) × (Nat → Int) × (Nat → Int)) =>
                                      bif Nat.beq d_7.2.2.2.2.2.2.2.1 d_7.2.2.2.2.2.2.2.1 then
                                        Option.bind
                                          (g___ring_Buffer__Put 4 0 0 0 0 0 0 0 0 d_7.2.1 d_7.2.2.1 d_7.2.2.2.1 d_7.2.2.2.2.1 d_7.2.2.2.2.2.1
                                            d_7.2.2.2.2.2.2.1 d_7.2.2.2.2.2.2.2.1 d_7.2.2.2.2.2.2.2.2.1
                                            d_7.2.2.2.2.2.2.2.2.2.2.2.2.2.2.2.2.2.2.1
                                            d_7.2.2.2.2.2.2.2.2.2.2.2.2.2.2.2.2.2.2.2.1
                                            d_7.2.2.2.2.2.2.2.2.2.2.2.2.2.2.2.2.2.2.2.2.1
                                            d_7.2.2.2.2.2.2.2.2.2.2.2.2.2.2.2.2.2.2.2.2.2.1
                                            d_7.2.2.2.2.2.2.2.2.2.2.2.2.2.2.2.2.2.2.2.2.2.2.1
                                            d_7.2.2.2.2.2.2.2.2.2.2.2.2.2.2.2.2.2.2.2.2.2.2.2.1
                                            d_7.2.2.2.2.2.2.2.2.2.2.2.2.2.2.2.2.2.2.2.2.2.2.2.2.1
                                            d_7.2.2.2.2.2.2.2.2.2.2.2.2.2.2.2.2.2.2.2.2.2.2.2.2.2.1
                                            d_7.2.2.2.2.2.2.2.2.2.2.2.2.2.2.2.2.2.2.2.2.2.2.2.2.2.2 true)
                                          fun
                                            (d_8 :
                                              Int × Int × Int × Int × Int × Int × Nat × Bool × Int ⊕
                                                Bool ×
                                                  Int ×
                                                    Int ×
                                                      Int ×
                                                        Int ×
                                                          Int ×
                                                            Int ×
                                                              Nat × Int × (Nat → Int) × (Nat → Int) × (Nat → Int) × (Nat → Int) × (Nat → Int) × (Nat → Int) × (Nat → Int) × (Nat → Int) × (Nat → Int)) =>
                                          bif
                                              match d_8 with
                                              | Sum.inl val => true
                                              | Sum.inr val => false then
                                            Option.bind
                                              (match d_8 with
                                              | Sum.inl a => some a
                                              | Sum.inr val => none)
                                              fun (d_9 : Int × Int × Int × Int × Int × Int × Nat × Bool × Int) =>
                                              bif Nat.beq d_9.2.2.2.2.2.2.1 d_9.2.2.2.2.2.2.1 then
                                                Option.bind
                                                  (g___ring_Buffer__Spoilt d_9.1 d_9.2.1 d_9.2.2.1 d_9.2.2.2.1 d_9.2.2.2.2.1 d_9.2.2.2.2.2.1
                                                    d_9.2.2.2.2.2.2.1 d_9.2.2.2.2.2.2.2.2 d_7.2.2.2.2.2.2.2.2.2.2.2.2.2.2.2.2.2.2.1
                                                    d_7.2.2.2.2.2.2.2.2.2.2.2.2.2.2.2.2.2.2.2.1
                                                    d_7.2.2.2.2.2.2.2.2.2.2.2.2.2.2.2.2.2.2.2.2.1
                                                    d_7.2.2.2.2.2.2.2.2.2.2.2.2.2.2.2.2.2.2.2.2.2.1
                                                    d_7.2.2.2.2.2.2.2.2.2.2.2.2.2.2.2.2.2.2.2.2.2.2.1
                                                    d_7.2.2.2.2.2.2.2.2.2.2.2.2.2.2.2.2.2.2.2.2.2.2.2.1
                                                    d_7.2.2.2.2.2.2.2.2.2.2.2.2.2.2.2.2.2.2.2.2.2.2.2.2.1
                                                    d_7.2.2.2.2.2.2.2.2.2.2.2.2.2.2.2.2.2.2.2.2.2.2.2.2.2.1
                                                    d_7.2.2.2.2.2.2.2.2.2.2.2.2.2.2.2.2.2.2.2.2.2.2.2.2.2.2
                                                    (d_9.2.2.2.2.2.2.2.1 && true && true))
                                                  fun (d_10 : Int × Int × Int × Int × Int × Int × Nat × Bool × Int) =>
                                                  bif d.1 then
                                                    bif d_3.1 then
                                                      bif d_5.1 then
                                                        bif d_6.2.2.2.2.2.2.2.2.2 then
                                                          bif d_6.1 == 4 then
                                                            bif d_10.2.2.1 == 1 then
                                                              bif Int.ofNat d_7.1 == 1 then
                                                                bif inR 0 d_7.1 then
                                                                  bif d_7.2.2.2.2.2.2.2.2.2.1 0 == 4 then
                                                                    bif d_10.2.1 == 1 then
                                                                      bif d_10.2.2.2.1 == 1 then
                                                                        Option.bind (g__ring_Counts__Total d_10.1 d_10.2.1 d_10.2.2.1 d_10.2.2.2.1 d_10.2.2.2.2.1)
                                                                          fun (d : Int) =>
                                                                          bif d == 4 then
                                                                            bif d_10.1 == 5 then
                                                                              bif Nat.beq d_10.2.2.2.2.2.2.1 d_10.2.2.2.2.2.2.1 then
                                                                                Option.bind
                                                                                  (g___ring_Buffer__Len d_10.1 d_10.2.1 d_10.2.2.1 d_10.2.2.2.1 d_10.2.2.2.2.1
                                                                                    d_10.2.2.2.2.2.1 d_10.2.2.2.2.2.2.1 d_10.2.2.2.2.2.2.2.2
                                                                                    d_7.2.2.2.2.2.2.2.2.2.2.2.2.2.2.2.2.2.2.1
                                                                                    d_7.2.2.2.2.2.2.2.2.2.2.2.2.2.2.2.2.2.2.2.1
                                                                                    d_7.2.2.2.2.2.2.2.2.2.2.2.2.2.2.2.2.2.2.2.2.1
                                                                                    d_7.2.2.2.2.2.2.2.2.2.2.2.2.2.2.2.2.2.2.2.2.2.1
                                                                                    d_7.2.2.2.2.2.2.2.2.2.2.2.2.2.2.2.2.2.2.2.2.2.2.1
                                                                                    d_7.2.2.2.2.2.2.2.2.2.2.2.2.2.2.2.2.2.2.2.2.2.2.2.1
                                                                                    d_7.2.2.2.2.2.2.2.2.2.2.2.2.2.2.2.2.2.2.2.2.2.2.2.2.1
                                                                                    d_7.2.2.2.2.2.2.2.2.2.2.2.2.2.2.2.2.2.2.2.2.2.2.2.2.2.1
                                                                                    d_7.2.2.2.2.2.2.2.2.2.2.2.2.2.2.2.2.2.2.2.2.2.2.2.2.2.2
                                                                                    (d_10.2.2.2.2.2.2.2.1 && (d_9.2.2.2.2.2.2.2.1 && true && true) && true))
                                                                                  fun (d : Int) =>
                                                                                  bif d == 1 then
                                                                                    bif Nat.beq d_10.2.2.2.2.2.2.1 d_10.2.2.2.2.2.2.1 then
                                                                                      Option.bind
                                                                                        (g___ring_Buffer__Horizon d_10.1 d_10.2.1 d_10.2.2.1 d_10.2.2.2.1 d_10.2.2.2.2.1
                                                                                          d_10.2.2.2.2.2.1 d_10.2.2.2.2.2.2.1 d_10.2.2.2.2.2.2.2.2
                                                                                          d_7.2.2.2.2.2.2.2.2.2.2.2.2.2.2.2.2.2.2.1
                                                                                          d_7.2.2.2.2.2.2.2.2.2.2.2.2.2.2.2.2.2.2.2.1
                                                                                          d_7.2.2.2.2.2.2.2.2.2.2.2.2.2.2.2.2.2.2.2.2.1
                                                                                          d_7.2.2.2.2.2.2.2.2.2.2.2.2.2.2.2.2.2.2.2.2.2.1
                                                                                          d_7.2.2.2.2.2.2.2.2.2.2.2.2.2.2.2.2.2.2.2.2.2.2.1
                                                                                          d_7.2.2.2.2.2.2.2.2.2.2.2.2.2.2.2.2.2.2.2.2.2.2.2.1
                                                                                          d_7.2.2.2.2.2.2.2.2.2.2.2.2.2.2.2.2.2.2.2.2.2.2.2.2.1
                                                                                          d_7.2.2.2.2.2.2.2.2.2.2.2.2.2.2.2.2.2.2.2.2.2.2.2.2.2.1
                                                                                          d_7.2.2.2.2.2.2.2.2.2.2.2.2.2.2.2.2.2.2.2.2.2.2.2.2.2.2
                                                                                          (d_10.2.2.2.2.2.2.2.1 && (d_9.2.2.2.2.2.2.2.1 && true && true) && true))
                                                                                        fun (d : Int) => bif d == 4 then k (d_10.2.2.2.2.1 == 1) else k false
                                                                                    else none
                                                                                  else k false
                                                                              else none
                                                                            else k false
                                                                          else k false
                                                                      else k false
                                                                    else k false
                                                                  else k false
                                                                else none
                                                              else k false
                                                            else k false
                                                          else k false
                                                        else k false
                                                      else k false
                                                    else k false
                                                  else k false
                                              else none
                                          else
                                            Option.bind
                                              (match d_8 with
                                              | Sum.inr b => some b
                                              | Sum.inl val => none)
                                              fun
                                                (d_9 :
                                                  Bool ×
                                                    Int ×
                                                      Int ×
                                                        Int ×
                                                          Int ×
                                                            Int ×
                                                              Int ×
                                                                Nat ×
                                                                  Int × (Nat → Int) × (Nat → Int) × (Nat → Int) × (Nat → Int) × (Nat → Int) × (Nat → Int) × (Nat → Int) × (Nat → Int) × (Nat → Int)) =>
                                              bif Nat.beq d_9.2.2.2.2.2.2.2.1 d_9.2.2.2.2.2.2.2.1 then
                                                Option.bind
                                                  (g___ring_Buffer__Spoilt d_9.2.1 d_9.2.2.1 d_9.2.2.2.1 d_9.2.2.2.2.1 d_9.2.2.2.2.2.1
                                                    d_9.2.2.2.2.2.2.1 d_9.2.2.2.2.2.2.2.1 d_9.2.2.2.2.2.2.2.2.1 d_9.2.2.2.2.2.2.2.2.2.1
                                                    d_9.2.2.2.2.2.2.2.2.2.2.1 d_9.2.2.2.2.2.2.2.2.2.2.2.1 d_9.2.2.2.2.2.2.2.2.2.2.2.2.1
                                                    d_9.2.2.2.2.2.2.2.2.2.2.2.2.2.1 d_9.2.2.2.2.2.2.2.2.2.2.2.2.2.2.1
                                                    d_9.2.2.2.2.2.2.2.2.2.2.2.2.2.2.2.1 d_9.2.2.2.2.2.2.2.2.2.2.2.2.2.2.2.2.1
                                                    d_9.2.2.2.2.2.2.2.2.2.2.2.2.2.2.2.2.2 true)
                                                  fun (d_10 : Int × Int × Int × Int × Int × Int × Nat × Bool × Int) =>
                                                  bif d.1 then
                                                    bif d_3.1 then
                                                      bif d_5.1 then
                                                        bif d_6.2.2.2.2.2.2.2.2.2 then
                                                          bif d_6.1 == 4 then
                                                            bif d_10.2.2.1 == 1 then
                                                              bif Int.ofNat d_7.1 == 1 then
                                                                bif inR 0 d_7.1 then
                                                                  bif d_7.2.2.2.2.2.2.2.2.2.1 0 == 4 then
                                                                    bif !d_9.1 then
                                                                      bif d_10.2.1 == 1 then
                                                                        bif d_10.2.2.2.1 == 1 then
                                                                          Option.bind (g__ring_Counts__Total d_10.1 d_10.2.1 d_10.2.2.1 d_10.2.2.2.1 d_10.2.2.2.2.1)
                                                                            fun (d : Int) =>
                                                                            bif d == 4 then
                                                                              bif d_10.1 == 5 then
                                                                                bif Nat.beq d_10.2.2.2.2.2.2.1 d_10.2.2.2.2.2.2.1 then
                                                                                  Option.bind
                                                                                    (g___ring_Buffer__Len d_10.1 d_10.2.1 d_10.2.2.1 d_10.2.2.2.1 d_10.2.2.2.2.1
                                                                                      d_10.2.2.2.2.2.1 d_10.2.2.2.2.2.2.1 d_10.2.2.2.2.2.2.2.2
                                                                                      d_9.2.2.2.2.2.2.2.2.2.1 d_9.2.2.2.2.2.2.2.2.2.2.1
                                                                                      d_9.2.2.2.2.2.2.2.2.2.2.2.1 d_9.2.2.2.2.2.2.2.2.2.2.2.2.1
                                                                                      d_9.2.2.2.2.2.2.2.2.2.2.2.2.2.1
                                                                                      d_9.2.2.2.2.2.2.2.2.2.2.2.2.2.2.1
                                                                                      d_9.2.2.2.2.2.2.2.2.2.2.2.2.2.2.2.1
                                                                                      d_9.2.2.2.2.2.2.2.2.2.2.2.2.2.2.2.2.1
                                                                                      d_9.2.2.2.2.2.2.2.2.2.2.2.2.2.2.2.2.2
                                                                                      (d_10.2.2.2.2.2.2.2.1 && true && true))
                                                                                    fun (d : Int) =>
                                                                                    bif d == 1 then
                                                                                      bif Nat.beq d_10.2.2.2.2.2.2.1 d_10.2.2.2.2.2.2.1 then
                                                                                        Option.bind
                                                                                          (g___ring_Buffer__Horizon d_10.1 d_10.2.1 d_10.2.2.1 d_10.2.2.2.1 d_10.2.2.2.2.1
                                                                                            d_10.2.2.2.2.2.1 d_10.2.2.2.2.2.2.1 d_10.2.2.2.2.2.2.2.2
                                                                                            d_9.2.2.2.2.2.2.2.2.2.1 d_9.2.2.2.2.2.2.2.2.2.2.1
                                                                                            d_9.2.2.2.2.2.2.2.2.2.2.2.1 d_9.2.2.2.2.2.2.2.2.2.2.2.2.1
                                                                                            d_9.2.2.2.2.2.2.2.2.2.2.2.2.2.1
                                                                                            d_9.2.2.2.2.2.2.2.2.2.2.2.2.2.2.1
                                                                                            d_9.2.2.2.2.2.2.2.2.2.2.2.2.2.2.2.1
                                                                                            d_9.2.2.2.2.2.2.2.2.2.2.2.2.2.2.2.2.1
                                                                                            d_9.2.2.2.2.2.2.2.2.2.2.2.2.2.2.2.2.2
                                                                                            (d_10.2.2.2.2.2.2.2.1 && true && true))
                                                                                          fun (d : Int) => bif d == 4 then k (d_10.2.2.2.2.1 == 1) else k false
                                                                                      else none
                                                                                    else k false
                                                                                else none
                                                                              else k false
                                                                            else k false
                                                                        else k false
                                                                      else k false
                                                                    else k false
                                                                  else k false
                                                                else none
                                                              else k false
                                                            else k false
                                                          else k false
                                                        else k false
                                                      else k false
                                                    else k false
                                                  else k false
                                              else none
                                      else none
                                  else none
                              else none
                      else none
              else none
def f_astrolabelaw13_awake  : Option (Bool) := K_astrolabelaw13_awake f_ring_New f___ring_Buffer__Put f___ring_Buffer__Peek f___ring_Buffer__Pop f___ring_Buffer__Spoilt f__ring_Counts__Total f___ring_Buffer__Len f___ring_Buffer__Horizon   some
section
open Go.Ab.Rdr
def QA_astrolabelaw13_awake := ((pair nil nil) : Rdr (List AV × List Blk) _)
end
def F_astrolabelaw13_awake (f : Option (Bool)) : Sem1 := fun args h => match (QA_astrolabelaw13_awake).rd (args, h) with
  | some b => .opt (f ) fun (d : Bool) => .leaf (Res.mk (AV.r (RV.c (CV.f (FV.b d)))) [] [])
  | none => .fail
theorem d_astrolabelaw13_awake (g_ring_New : Int → Option (Unit ⊕ Int × (Nat → Int))) (g___ring_Buffer__Put : Int →
  Int →
    Int →
      Int →
        Int →
          Int →
            Int →
              Int →
                Int →
                  Int →
                    Int →
                      Int →
                        Int →
                          Int →
                            Int →
                              Nat →
                                Int →
                                  (Nat → Int) →
                                    (Nat → Int) →
                                      (Nat → Int) →
                                        (Nat → Int) →
                                          (Nat → Int) →
                                            (Nat → Int) →
                                              (Nat → Int) →
                                                (Nat → Int) →
                                                  (Nat → Int) →
                                                    Bool →
                                                      Option
                                                        (Int × Int × Int × Int × Int × Int × Nat × Bool × Int ⊕
                                                          Bool ×
                                                            Int ×
                                                              Int ×
                                                                Int ×
                                                                  Int ×
                                                                    Int ×
                                                                      Int ×
                                                                        Nat ×
                                                                          Int ×
                                                                            (Nat → Int) × (Nat → Int) × (Nat → Int) × (Nat → Int) × (Nat → Int) × (Nat → Int) × (Nat → Int) × (Nat → Int) × (Nat → Int))) (g___ring_Buffer__Peek : Int →
  Int →
    Int →
      Int →
        Int →
          Int →
            Nat →
              Int →
                (Nat → Int) →
                  (Nat → Int) →
                    (Nat → Int) → (Nat → Int) → (Nat → Int) → (Nat → Int) → (Nat → Int) → (Nat → Int) → (Nat → Int) → Bool → Option (Int × Int × Int × Int × Int × Int × Int × Int × Int × Bool)) (g___ring_Buffer__Pop : Int →
  Int →
    Int →
      Int →
        Int →
          Int →
            Int →
              Nat →
                Int →
                  (Nat → Int) →
                    (Nat → Int) →
                      (Nat → Int) →
                        (Nat → Int) →
                          (Nat → Int) →
                            (Nat → Int) →
                              (Nat → Int) →
                                (Nat → Int) →
                                  (Nat → Int) →
                                    Bool →
                                      Option
                                        (Nat ×
                                          Int ×
                                            Int ×
                                              Int ×
                                                Int ×
                                                  Int ×
                                                    Int ×
                                                      Nat ×
                                                        Int ×
                                                          (Nat → Int) ×
                                                            (Nat → Int) ×
                                                              (Nat → Int) ×
                                                                (Nat → Int) ×
                                                                  (Nat → Int) ×
                                                                    (Nat → Int) ×
                                                                      (Nat → Int) ×
                                                                        (Nat → Int) ×
                                                                          (Nat → Int) ×
                                                                            (Nat → Int) × (Nat → Int) × (Nat → Int) × (Nat → Int) × (Nat → Int) × (Nat → Int) × (Nat → Int) × (Nat → Int) × (Nat → Int))) (g___ring_Buffer__Spoilt : Int →
  Int →
    Int →
      Int →
        Int →
          Int →
            Nat →
              Int →
                (Nat → Int) →
                  (Nat → Int) → (Nat → Int) → (Nat → Int) → (Nat → Int) → (Nat → Int) → (Nat → Int) → (Nat → Int) → (Nat → Int) → Bool → Option (Int × Int × Int × Int × Int × Int × Nat × Bool × Int)) (g__ring_Counts__Total : Int → Int → Int → Int → Int → Option Int) (g___ring_Buffer__Len : Int → Int → Int → Int → Int → Int → Nat → Int → (Nat → Int) → (Nat → Int) → (Nat → Int) → (Nat → Int) → (Nat → Int) → (Nat → Int) → (Nat → Int) → (Nat → Int) → (Nat → Int) → Bool → Option Int) (g___ring_Buffer__Horizon : Int → Int → Int → Int → Int → Int → Nat → Int → (Nat → Int) → (Nat → Int) → (Nat → Int) → (Nat → Int) → (Nat → Int) → (Nat → Int) → (Nat → Int) → (Nat → Int) → (Nat → Int) → Bool → Option Int)   : den Try.prog (envOf [(16, F_ring_New g_ring_New), (17, F___ring_Buffer__Put g___ring_Buffer__Put), (18, F___ring_Buffer__Peek g___ring_Buffer__Peek), (22, F___ring_Buffer__Pop g___ring_Buffer__Pop), (24, F___ring_Buffer__Spoilt g___ring_Buffer__Spoilt), (27, F__ring_Counts__Total g__ring_Counts__Total), (26, F___ring_Buffer__Len g___ring_Buffer__Len), (19, F___ring_Buffer__Horizon g___ring_Buffer__Horizon)]) ⟨[], [], [], [], none⟩ 200 15 [] [] =
    K_astrolabelaw13_awake g_ring_New g___ring_Buffer__Put g___ring_Buffer__Peek g___ring_Buffer__Pop g___ring_Buffer__Spoilt g__ring_Counts__Total g___ring_Buffer__Len g___ring_Buffer__Horizon   (fun (d : Bool) => some (Res.mk (AV.r (RV.c (CV.f (FV.b d)))) [] [])) := by kernel_rfl
theorem m_astrolabelaw13_awake {ρ σ : Type} (q : ρ → Option σ) (g_ring_New : Int → Option (Unit ⊕ Int × (Nat → Int))) (g___ring_Buffer__Put : Int →
  Int →
    Int →
      Int →
        Int →
          Int →
            Int →
              Int →
                Int →
                  Int →
                    Int →
                      Int →
                        Int →
                          Int →
                            Int →
                              Nat →
                                Int →
                                  (Nat → Int) →
                                    (Nat → Int) →
                                      (Nat → Int) →
                                        (Nat → Int) →
                                          (Nat → Int) →
                                            (Nat → Int) →
                                              (Nat → Int) →
                                                (Nat → Int) →
                                                  (Nat → Int) →
                                                    Bool →
                                                      Option
                                                        (Int × Int × Int × Int × Int × Int × Nat × Bool × Int ⊕
                                                          Bool ×
                                                            Int ×
                                                              Int ×
                                                                Int ×
                                                                  Int ×
                                                                    Int ×
                                                                      Int ×
                                                                        Nat ×
                                                                          Int ×
                                                                            (Nat → Int) × (Nat → Int) × (Nat → Int) × (Nat → Int) × (Nat → Int) × (Nat → Int) × (Nat → Int) × (Nat → Int) × (Nat → Int))) (g___ring_Buffer__Peek : Int →
  Int →
    Int →
      Int →
        Int →
          Int →
            Nat →
              Int →
                (Nat → Int) →
                  (Nat → Int) →
                    (Nat → Int) → (Nat → Int) → (Nat → Int) → (Nat → Int) → (Nat → Int) → (Nat → Int) → (Nat → Int) → Bool → Option (Int × Int × Int × Int × Int × Int × Int × Int × Int × Bool)) (g___ring_Buffer__Pop : Int →
  Int →
    Int →
      Int →
        Int →
          Int →
            Int →
              Nat →
                Int →
                  (Nat → Int) →
                    (Nat → Int) →
                      (Nat → Int) →
                        (Nat → Int) →
                          (Nat → Int) →
                            (Nat → Int) →
                              (Nat → Int) →
                                (Nat → Int) →
                                  (Nat → Int) →
                                    Bool →
                                      Option
                                        (Nat ×
                                          Int ×
                                            Int ×
                                              Int ×
                                                Int ×
                                                  Int ×
                                                    Int ×
                                                      Nat ×
                                                        Int ×
                                                          (Nat → Int) ×
                                                            (Nat → Int) ×
                                                              (Nat → Int) ×
                                                                (Nat → Int) ×
                                                                  (Nat → Int) ×
                                                                    (Nat → Int) ×
                                                                      (Nat → Int) ×
                                                                        (Nat → Int) ×
                                                                          (Nat → Int) ×
                                                                            (Nat → Int) × (Nat → Int) × (Nat → Int) × (Nat → Int) × (Nat → Int) × (Nat → Int) × (Nat → Int) × (Nat → Int) × (Nat → Int))) (g___ring_Buffer__Spoilt : Int →
  Int →
    Int →
      Int →
        Int →
          Int →
            Nat →
              Int →
                (Nat → Int) →
                  (Nat → Int) → (Nat → Int) → (Nat → Int) → (Nat → Int) → (Nat → Int) → (Nat → Int) → (Nat → Int) → (Nat → Int) → Bool → Option (Int × Int × Int × Int × Int × Int × Nat × Bool × Int)) (g__ring_Counts__Total : Int → Int → Int → Int → Int → Option Int) (g___ring_Buffer__Len : Int → Int → Int → Int → Int → Int → Nat → Int → (Nat → Int) → (Nat → Int) → (Nat → Int) → (Nat → Int) → (Nat → Int) → (Nat → Int) → (Nat → Int) → (Nat → Int) → (Nat → Int) → Bool → Option Int) (g___ring_Buffer__Horizon : Int → Int → Int → Int → Int → Int → Nat → Int → (Nat → Int) → (Nat → Int) → (Nat → Int) → (Nat → Int) → (Nat → Int) → (Nat → Int) → (Nat → Int) → (Nat → Int) → (Nat → Int) → Bool → Option Int)    (k : (Bool) → Option ρ) : (K_astrolabelaw13_awake g_ring_New g___ring_Buffer__Put g___ring_Buffer__Peek g___ring_Buffer__Pop g___ring_Buffer__Spoilt g__ring_Counts__Total g___ring_Buffer__Len g___ring_Buffer__Horizon   k).bind q = K_astrolabelaw13_awake g_ring_New g___ring_Buffer__Put g___ring_Buffer__Peek g___ring_Buffer__Pop g___ring_Buffer__Spoilt g__ring_Counts__Total g___ring_Buffer__Len g___ring_Buffer__Horizon   (fun d => (k d).bind q) := by
  simp only [K_astrolabelaw13_awake, bnd_cond, bnd_bind, bnd_none, bnd_sum]
theorem qa_astrolabelaw13_awake : ∀ b, (QA_astrolabelaw13_awake).em b = ([], []) := fun b => by kernel_rfl
theorem e_astrolabelaw13_awake {f : Option (Bool)} {args : List AV} {h : List Blk} {r : Res} (hr : (F_astrolabelaw13_awake f args h).eval = some r) : args = [] ∧ h = [] ∧ (f ).bind (fun (d : Bool) => some (Res.mk (AV.r (RV.c (CV.f (FV.b d)))) [] [])) = some r := by
  unfold F_astrolabelaw13_awake at hr
  split at hr
  · rename_i b hb
    have e := ((QA_astrolabelaw13_awake).ok _ _ hb).trans (qa_astrolabelaw13_awake b)
    rw [opt_eval2] at hr
    exact ⟨(Prod.mk.inj e).1, (Prod.mk.inj e).2, hr⟩
  · cases hr
theorem n_astrolabelaw13_awake {σ : Type} (q : (Bool) → Option σ)  : (f_astrolabelaw13_awake ).bind q = K_astrolabelaw13_awake f_ring_New f___ring_Buffer__Put f___ring_Buffer__Peek f___ring_Buffer__Pop f___ring_Buffer__Spoilt f__ring_Counts__Total f___ring_Buffer__Len f___ring_Buffer__Horizon   q := by
  unfold f_astrolabelaw13_awake
  exact m_astrolabelaw13_awake q f_ring_New f___ring_Buffer__Put f___ring_Buffer__Peek f___ring_Buffer__Pop f___ring_Buffer__Spoilt f__ring_Counts__Total f___ring_Buffer__Len f___ring_Buffer__Horizon    some
theorem s_astrolabelaw13_awake [Amb] : Sound Try.prog 15 (F_astrolabelaw13_awake f_astrolabelaw13_awake) :=
  (inl_sound (l := [(16, F_ring_New f_ring_New), (17, F___ring_Buffer__Put f___ring_Buffer__Put), (18, F___ring_Buffer__Peek f___ring_Buffer__Peek), (22, F___ring_Buffer__Pop f___ring_Buffer__Pop), (24, F___ring_Buffer__Spoilt f___ring_Buffer__Spoilt), (27, F__ring_Counts__Total f__ring_Counts__Total), (26, F___ring_Buffer__Len f___ring_Buffer__Len), (19, F___ring_Buffer__Horizon f___ring_Buffer__Horizon)]) (.cons s_ring_New (.cons s___ring_Buffer__Put (.cons s___ring_Buffer__Peek (.cons s___ring_Buffer__Pop (.cons s___ring_Buffer__Spoilt (.cons s__ring_Counts__Total (.cons s___ring_Buffer__Len (.cons s___ring_Buffer__Horizon (.nil _))))))))) mixed [] [] 200 (by kernel_rfl)).by (F := F_astrolabelaw13_awake f_astrolabelaw13_awake) fun args b r hr => by
  obtain ⟨rfl, rfl, hr1⟩ := e_astrolabelaw13_awake hr
  exact inl_eval ((d_astrolabelaw13_awake f_ring_New f___ring_Buffer__Put f___ring_Buffer__Peek f___ring_Buffer__Pop f___ring_Buffer__Spoilt f__ring_Counts__Total f___ring_Buffer__Len f___ring_Buffer__Horizon  ).trans ((n_astrolabelaw13_awake (fun (d : Bool) => some (Res.mk (AV.r (RV.c (CV.f (FV.b d)))) [] [])) ).symm.trans hr1))

def S_astrolabelaw13_lost_0 {ρ : Type}   (x0 : Nat) (x1 : Nat → Int) (x2 : Nat → Int) (x3 : Nat → Int) (x4 : Nat → Int) (x5 : Nat → Int) (x6 : Nat → Int) (x7 : Nat → Int) (x8 : Nat → Int) (x9 : Nat → Int) (x10 : Int) (x11 : Int) (c : (Nat × (Nat → Int) × (Nat → Int) × (Nat → Int) × (Nat → Int) × (Nat → Int) × (Nat → Int) × (Nat → Int) × (Nat → Int) × (Nat → Int) × Int × Int) → Option ρ) (x : (Nat × (Nat → Int) × (Nat → Int) × (Nat → Int) × (Nat → Int) × (Nat → Int) × (Nat → Int) × (Nat → Int) × (Nat → Int) × (Nat → Int) × Int × Int × Int × Bool) → Option ρ) : Option ρ :=
  bif decide (x11 < Int.ofNat x0) then
    bif inR x11 x0 then
      bif x1 (Int.toNat x11) == -9223372036854775808 then c (x0, x1, x2, x3, x4, x5, x6, x7, x8, x9, IntKind.wrap IntKind.i64 (x10 + 1), IntKind.wrap IntKind.i64 (x11 + 1))
      else c (x0, x1, x2, x3, x4, x5, x6, x7, x8, x9, x10, IntKind.wrap IntKind.i64 (x11 + 1))
    else none
  else x (x0, x1, x2, x3, x4, x5, x6, x7, x8, x9, x10, x11, Int.ofNat x0, decide (x11 < Int.ofNat x0))
section
open Go.Ab.Rdr
def Q_astrolabelaw13_lost_0 := (st (cons (ar (rc (cfs hole (nat 9) (cons (ki .i64 hole) (cons (ki .i64 hole) (cons (ki .i64 hole) (cons (ki .i64 hole) (cons (ki .i64 hole) (cons (ki .i64 hole) (cons (ki .i64 hole) (cons (ki .i64 hole) (cons (ki .i64 hole) nil)))))))))))) (cons aund (cons aund (cons (ar (rc (cf (fi .i64 hole)))) (cons (ar (rc (cf (fi .i64 hole)))) (cons aund (cons aund (cons aund (cons aund (cons aund (cons aund (cons aund (cons aund (cons aund (cons aund (cons aund (cons aund (cons aund (cons aund (cons aund nil)))))))))))))))))))) nil nil)
end
theorem q_astrolabelaw13_lost_0 : ∀ b, (Q_astrolabelaw13_lost_0).em b = St.mk
    [AV.r
        (RV.c
          (CV.fs b.1.1.1 9
            [Col.i IntKind.i64 b.1.1.2.2.1, Col.i IntKind.i64 b.1.1.2.2.2.1, Col.i IntKind.i64 b.1.1.2.2.2.2.1, Col.i IntKind.i64 b.1.1.2.2.2.2.2.1, Col.i IntKind.i64 b.1.1.2.2.2.2.2.2.1, Col.i IntKind.i64 b.1.1.2.2.2.2.2.2.2.1, Col.i IntKind.i64 b.1.1.2.2.2.2.2.2.2.2.1, Col.i IntKind.i64 b.1.1.2.2.2.2.2.2.2.2.2.1,
              Col.i IntKind.i64 b.1.1.2.2.2.2.2.2.2.2.2.2.1])),
      AV.und, AV.und, AV.r (RV.c (CV.f (FV.i IntKind.i64 b.1.2.2.2.1))), AV.r (RV.c (CV.f (FV.i IntKind.i64 b.1.2.2.2.2.1))), AV.und, AV.und, AV.und, AV.und, AV.und, AV.und, AV.und, AV.und, AV.und, AV.und, AV.und,
      AV.und, AV.und, AV.und, AV.und]
    [] [] := fun b => by kernel_rfl
def R_astrolabelaw13_lost_0 (l : ∀ {ρ : Type}, (Nat × (Nat → Int) × (Nat → Int) × (Nat → Int) × (Nat → Int) × (Nat → Int) × (Nat → Int) × (Nat → Int) × (Nat → Int) × (Nat → Int) × Int × Int) → ((Nat × (Nat → Int) × (Nat → Int) × (Nat → Int) × (Nat → Int) × (Nat → Int) × (Nat → Int) × (Nat → Int) × (Nat → Int) × (Nat → Int) × Int × Int × Int × Bool) → Option ρ) → Option ρ) {ρ : Type} (s : St) (K : AX → St → Option ρ) : Option ρ := ((Q_astrolabelaw13_lost_0).rd s).bind fun b => l (b.1.1.1, b.1.1.2.2.1, b.1.1.2.2.2.1, b.1.1.2.2.2.2.1, b.1.1.2.2.2.2.2.1, b.1.1.2.2.2.2.2.2.1, b.1.1.2.2.2.2.2.2.2.1, b.1.1.2.2.2.2.2.2.2.2.1, b.1.1.2.2.2.2.2.2.2.2.2.1, b.1.1.2.2.2.2.2.2.2.2.2.2.1, b.1.2.2.2.1, b.1.2.2.2.2.1) (fun d => K (AX.ex 0) (St.mk
  [AV.r
      (RV.c
        (CV.fs d.1 9
          [Col.i IntKind.i64 d.2.1, Col.i IntKind.i64 d.2.2.1, Col.i IntKind.i64 d.2.2.2.1, Col.i IntKind.i64 d.2.2.2.2.1, Col.i IntKind.i64 d.2.2.2.2.2.1,
            Col.i IntKind.i64 d.2.2.2.2.2.2.1, Col.i IntKind.i64 d.2.2.2.2.2.2.2.1, Col.i IntKind.i64 d.2.2.2.2.2.2.2.2.1,
            Col.i IntKind.i64 d.2.2.2.2.2.2.2.2.2.1])),
    AV.und, AV.und, AV.r (RV.c (CV.f (FV.i IntKind.i64 d.2.2.2.2.2.2.2.2.2.2.1))), AV.r (RV.c (CV.f (FV.i IntKind.i64 d.2.2.2.2.2.2.2.2.2.2.2.1))),
    AV.r (RV.c (CV.f (FV.i IntKind.i64 d.2.2.2.2.2.2.2.2.2.2.2.1))),
    AV.r
      (RV.c
        (CV.fs d.1 9
          [Col.i IntKind.i64 d.2.1, Col.i IntKind.i64 d.2.2.1, Col.i IntKind.i64 d.2.2.2.1, Col.i IntKind.i64 d.2.2.2.2.1, Col.i IntKind.i64 d.2.2.2.2.2.1,
            Col.i IntKind.i64 d.2.2.2.2.2.2.1, Col.i IntKind.i64 d.2.2.2.2.2.2.2.1, Col.i IntKind.i64 d.2.2.2.2.2.2.2.2.1,
            Col.i IntKind.i64 d.2.2.2.2.2.2.2.2.2.1])),
    AV.r (RV.c (CV.f (FV.i IntKind.i64 d.2.2.2.2.2.2.2.2.2.2.2.2.1))), AV.r (RV.c (CV.f (FV.b d.2.2.2.2.2.2.2.2.2.2.2.2.2))), AV.und, AV.und,
    AV.und, AV.und, AV.und, AV.und, AV.und, AV.und, AV.und, AV.und, AV.und]
  [] []))
theorem ms_astrolabelaw13_lost_0 {ρ σ : Type}    (q : ρ → Option σ) (x0 : Nat) (x1 : Nat → Int) (x2 : Nat → Int) (x3 : Nat → Int) (x4 : Nat → Int) (x5 : Nat → Int) (x6 : Nat → Int) (x7 : Nat → Int) (x8 : Nat → Int) (x9 : Nat → Int) (x10 : Int) (x11 : Int) (c : (Nat × (Nat → Int) × (Nat → Int) × (Nat → Int) × (Nat → Int) × (Nat → Int) × (Nat → Int) × (Nat → Int) × (Nat → Int) × (Nat → Int) × Int × Int) → Option ρ) (x : (Nat × (Nat → Int) × (Nat → Int) × (Nat → Int) × (Nat → Int) × (Nat → Int) × (Nat → Int) × (Nat → Int) × (Nat → Int) × (Nat → Int) × Int × Int × Int × Bool) → Option ρ) : (S_astrolabelaw13_lost_0   x0 x1 x2 x3 x4 x5 x6 x7 x8 x9 x10 x11 c x).bind q = S_astrolabelaw13_lost_0   x0 x1 x2 x3 x4 x5 x6 x7 x8 x9 x10 x11 (fun d => (c d).bind q) (fun d => (x d).bind q) := by
  simp only [S_astrolabelaw13_lost_0, bnd_cond, bnd_bind, bnd_none, bnd_sum]
def L_astrolabelaw13_lost_0 {ρ : Type} (d : Nat × (Nat → Int) × (Nat → Int) × (Nat → Int) × (Nat → Int) × (Nat → Int) × (Nat → Int) × (Nat → Int) × (Nat → Int) × (Nat → Int) × Int × Int) (k : (Nat × (Nat → Int) × (Nat → Int) × (Nat → Int) × (Nat → Int) × (Nat → Int) × (Nat → Int) × (Nat → Int) × (Nat → Int) × (Nat → Int) × Int × Int × Int × Bool) → Option ρ) : Option ρ := loopK (fun d c x => S_astrolabelaw13_lost_0   d.1 d.2.1 d.2.2.1 d.2.2.2.1 d.2.2.2.2.1 d.2.2.2.2.2.1 d.2.2.2.2.2.2.1 d.2.2.2.2.2.2.2.1 d.2.2.2.2.2.2.2.2.1 d.2.2.2.2.2.2.2.2.2.1 d.2.2.2.2.2.2.2.2.2.2.1 d.2.2.2.2.2.2.2.2.2.2.2 c x) 200 d k
theorem mL_astrolabelaw13_lost_0 {ρ σ : Type} (q : ρ → Option σ) (d : Nat × (Nat → Int) × (Nat → Int) × (Nat → Int) × (Nat → Int) × (Nat → Int) × (Nat → Int) × (Nat → Int) × (Nat → Int) × (Nat → Int) × Int × Int) (k : (Nat × (Nat → Int) × (Nat → Int) × (Nat → Int) × (Nat → Int) × (Nat → Int) × (Nat → Int) × (Nat → Int) × (Nat → Int) × (Nat → Int) × Int × Int × Int × Bool) → Option ρ) : (L_astrolabelaw13_lost_0 d k).bind q = L_astrolabelaw13_lost_0 d fun x => (k x).bind q :=
  loopK_bind q (fun d c x => ms_astrolabelaw13_lost_0    q d.1 d.2.1 d.2.2.1 d.2.2.2.1 d.2.2.2.2.1 d.2.2.2.2.2.1 d.2.2.2.2.2.2.1 d.2.2.2.2.2.2.2.1 d.2.2.2.2.2.2.2.2.1 d.2.2.2.2.2.2.2.2.2.1 d.2.2.2.2.2.2.2.2.2.2.1 d.2.2.2.2.2.2.2.2.2.2.2 c x) k _ d
theorem ds_astrolabelaw13_lost_0 {ρ : Type}  (l_0 : ∀ {ρ : Type}, (Nat × (Nat → Int) × (Nat → Int) × (Nat → Int) × (Nat → Int) × (Nat → Int) × (Nat → Int) × (Nat → Int) × (Nat → Int) × (Nat → Int) × Int × Int) → ((Nat × (Nat → Int) × (Nat → Int) × (Nat → Int) × (Nat → Int) × (Nat → Int) × (Nat → Int) × (Nat → Int) × (Nat → Int) × (Nat → Int) × Int × Int × Int × Bool) → Option ρ) → Option ρ) (x0 : Nat) (x1 : Nat → Int) (x2 : Nat → Int) (x3 : Nat → Int) (x4 : Nat → Int) (x5 : Nat → Int) (x6 : Nat → Int) (x7 : Nat → Int) (x8 : Nat → Int) (x9 : Nat → Int) (x10 : Int) (x11 : Int) (c : St → Option ρ) (K : AX → St → Option ρ) :
    runC Try.prog (envOf []) ⟨[⟨3, [1, 2, 5, 6, 7, 8, 9, 10, 11, 12, 13, 14, 15, 16, 17, 18, 19], []⟩], [⟨3, 0, @R_astrolabelaw13_lost_0 (@l_0)⟩], [], [], (some ⟨0, [0, 1, 3, 4, 5, 6, 7, 8, 9, 10, 11, 12, 13, 14, 15, 16, 17, 18, 19], []⟩)⟩ (tmpsOf Try.prog 29) 0 200 (loopIn Try.prog 29 3)
      (St.mk
    [AV.r
        (RV.c
          (CV.fs x0 9
            [Col.i IntKind.i64 x1, Col.i IntKind.i64 x2, Col.i IntKind.i64 x3, Col.i IntKind.i64 x4, Col.i IntKind.i64 x5, Col.i IntKind.i64 x6, Col.i IntKind.i64 x7, Col.i IntKind.i64 x8,
              Col.i IntKind.i64 x9])),
      AV.und, AV.und, AV.r (RV.c (CV.f (FV.i IntKind.i64 x10))), AV.r (RV.c (CV.f (FV.i IntKind.i64 x11))), AV.und, AV.und, AV.und, AV.und, AV.und, AV.und, AV.und, AV.und, AV.und, AV.und, AV.und,
      AV.und, AV.und, AV.und, AV.und]
    [] [])
      (next (fun t => t.head 0 ⟨[⟨3, [1, 2, 5, 6, 7, 8, 9, 10, 11, 12, 13, 14, 15, 16, 17, 18, 19], []⟩], [⟨3, 0, @R_astrolabelaw13_lost_0 (@l_0)⟩], [], [], (some ⟨0, [0, 1, 3, 4, 5, 6, 7, 8, 9, 10, 11, 12, 13, 14, 15, 16, 17, 18, 19], []⟩)⟩ (loopIn Try.prog 29 3)) c K) =
    S_astrolabelaw13_lost_0   x0 x1 x2 x3 x4 x5 x6 x7 x8 x9 x10 x11 (fun d => c (St.mk
  [AV.r
      (RV.c
        (CV.fs d.1 9
          [Col.i IntKind.i64 d.2.1, Col.i IntKind.i64 d.2.2.1, Col.i IntKind.i64 d.2.2.2.1, Col.i IntKind.i64 d.2.2.2.2.1, Col.i IntKind.i64 d.2.2.2.2.2.1,
            Col.i IntKind.i64 d.2.2.2.2.2.2.1, Col.i IntKind.i64 d.2.2.2.2.2.2.2.1, Col.i IntKind.i64 d.2.2.2.2.2.2.2.2.1,
            Col.i IntKind.i64 d.2.2.2.2.2.2.2.2.2.1])),
    AV.und, AV.und, AV.r (RV.c (CV.f (FV.i IntKind.i64 d.2.2.2.2.2.2.2.2.2.2.1))), AV.r (RV.c (CV.f (FV.i IntKind.i64 d.2.2.2.2.2.2.2.2.2.2.2))), AV.und,
    AV.und, AV.und, AV.und, AV.und, AV.und, AV.und, AV.und, AV.und, AV.und, AV.und, AV.und, AV.und, AV.und, AV.und]
  [] [])) (fun d => K (AX.ex 0) (St.mk
  [AV.r
      (RV.c
        (CV.fs d.1 9
          [Col.i IntKind.i64 d.2.1, Col.i IntKind.i64 d.2.2.1, Col.i IntKind.i64 d.2.2.2.1, Col.i IntKind.i64 d.2.2.2.2.1, Col.i IntKind.i64 d.2.2.2.2.2.1,
            Col.i IntKind.i64 d.2.2.2.2.2.2.1, Col.i IntKind.i64 d.2.2.2.2.2.2.2.1, Col.i IntKind.i64 d.2.2.2.2.2.2.2.2.1,
            Col.i IntKind.i64 d.2.2.2.2.2.2.2.2.2.1])),
    AV.und, AV.und, AV.r (RV.c (CV.f (FV.i IntKind.i64 d.2.2.2.2.2.2.2.2.2.2.1))), AV.r (RV.c (CV.f (FV.i IntKind.i64 d.2.2.2.2.2.2.2.2.2.2.2.1))),
    AV.r (RV.c (CV.f (FV.i IntKind.i64 d.2.2.2.2.2.2.2.2.2.2.2.1))),
    AV.r
      (RV.c
        (CV.fs d.1 9
          [Col.i IntKind.i64 d.2.1, Col.i IntKind.i64 d.2.2.1, Col.i IntKind.i64 d.2.2.2.1, Col.i IntKind.i64 d.2.2.2.2.1, Col.i IntKind.i64 d.2.2.2.2.2.1,
            Col.i IntKind.i64 d.2.2.2.2.2.2.1, Col.i IntKind.i64 d.2.2.2.2.2.2.2.1, Col.i IntKind.i64 d.2.2.2.2.2.2.2.2.1,
            Col.i IntKind.i64 d.2.2.2.2.2.2.2.2.2.1])),
    AV.r (RV.c (CV.f (FV.i IntKind.i64 d.2.2.2.2.2.2.2.2.2.2.2.2.1))), AV.r (RV.c (CV.f (FV.b d.2.2.2.2.2.2.2.2.2.2.2.2.2))), AV.und, AV.und,
    AV.und, AV.und, AV.und, AV.und, AV.und, AV.und, AV.und, AV.und, AV.und]
  [] [])) := by kernel_rfl
theorem it_astrolabelaw13_lost_0 {ρ : Type} (x0 : Nat) (x1 : Nat → Int) (x2 : Nat → Int) (x3 : Nat → Int) (x4 : Nat → Int) (x5 : Nat → Int) (x6 : Nat → Int) (x7 : Nat → Int) (x8 : Nat → Int) (x9 : Nat → Int) (x10 : Int) (x11 : Int) (K : AX → St → Option ρ) :
    iter (fun t => t.head 0 ⟨[⟨3, [1, 2, 5, 6, 7, 8, 9, 10, 11, 12, 13, 14, 15, 16, 17, 18, 19], []⟩], [⟨3, 0, @R_astrolabelaw13_lost_0 (@L_astrolabelaw13_lost_0)⟩], [], [], (some ⟨0, [0, 1, 3, 4, 5, 6, 7, 8, 9, 10, 11, 12, 13, 14, 15, 16, 17, 18, 19], []⟩)⟩ (loopIn Try.prog 29 3)) (runC Try.prog (envOf []) ⟨[⟨3, [1, 2, 5, 6, 7, 8, 9, 10, 11, 12, 13, 14, 15, 16, 17, 18, 19], []⟩], [⟨3, 0, @R_astrolabelaw13_lost_0 (@L_astrolabelaw13_lost_0)⟩], [], [], (some ⟨0, [0, 1, 3, 4, 5, 6, 7, 8, 9, 10, 11, 12, 13, 14, 15, 16, 17, 18, 19], []⟩)⟩ (tmpsOf Try.prog 29) 0 200 (loopIn Try.prog 29 3)) K 200
      (St.mk
    [AV.r
        (RV.c
          (CV.fs x0 9
            [Col.i IntKind.i64 x1, Col.i IntKind.i64 x2, Col.i IntKind.i64 x3, Col.i IntKind.i64 x4, Col.i IntKind.i64 x5, Col.i IntKind.i64 x6, Col.i IntKind.i64 x7, Col.i IntKind.i64 x8,
              Col.i IntKind.i64 x9])),
      AV.und, AV.und, AV.r (RV.c (CV.f (FV.i IntKind.i64 x10))), AV.r (RV.c (CV.f (FV.i IntKind.i64 x11))), AV.und, AV.und, AV.und, AV.und, AV.und, AV.und, AV.und, AV.und, AV.und, AV.und, AV.und,
      AV.und, AV.und, AV.und, AV.und]
    [] []) = L_astrolabelaw13_lost_0 (x0, x1, x2, x3, x4, x5, x6, x7, x8, x9, x10, x11) (fun d => K (AX.ex 0) (St.mk
  [AV.r
      (RV.c
        (CV.fs d.1 9
          [Col.i IntKind.i64 d.2.1, Col.i IntKind.i64 d.2.2.1, Col.i IntKind.i64 d.2.2.2.1, Col.i IntKind.i64 d.2.2.2.2.1, Col.i IntKind.i64 d.2.2.2.2.2.1,
            Col.i IntKind.i64 d.2.2.2.2.2.2.1, Col.i IntKind.i64 d.2.2.2.2.2.2.2.1, Col.i IntKind.i64 d.2.2.2.2.2.2.2.2.1,
            Col.i IntKind.i64 d.2.2.2.2.2.2.2.2.2.1])),
    AV.und, AV.und, AV.r (RV.c (CV.f (FV.i IntKind.i64 d.2.2.2.2.2.2.2.2.2.2.1))), AV.r (RV.c (CV.f (FV.i IntKind.i64 d.2.2.2.2.2.2.2.2.2.2.2.1))),
    AV.r (RV.c (CV.f (FV.i IntKind.i64 d.2.2.2.2.2.2.2.2.2.2.2.1))),
    AV.r
      (RV.c
        (CV.fs d.1 9
          [Col.i IntKind.i64 d.2.1, Col.i IntKind.i64 d.2.2.1, Col.i IntKind.i64 d.2.2.2.1, Col.i IntKind.i64 d.2.2.2.2.1, Col.i IntKind.i64 d.2.2.2.2.2.1,
            Col.i IntKind.i64 d.2.2.2.2.2.2.1, Col.i IntKind.i64 d.2.2.2.2.2.2.2.1, Col.i IntKind.i64 d.2.2.2.2.2.2.2.2.1,
            Col.i IntKind.i64 d.2.2.2.2.2.2.2.2.2.1])),
    AV.r (RV.c (CV.f (FV.i IntKind.i64 d.2.2.2.2.2.2.2.2.2.2.2.2.1))), AV.r (RV.c (CV.f (FV.b d.2.2.2.2.2.2.2.2.2.2.2.2.2))), AV.und, AV.und,
    AV.und, AV.und, AV.und, AV.und, AV.und, AV.und, AV.und, AV.und, AV.und]
  [] [])) :=
  iter_loopX (emb := fun (d : Nat × (Nat → Int) × (Nat → Int) × (Nat → Int) × (Nat → Int) × (Nat → Int) × (Nat → Int) × (Nat → Int) × (Nat → Int) × (Nat → Int) × Int × Int) => St.mk
  [AV.r
      (RV.c
        (CV.fs d.1 9
          [Col.i IntKind.i64 d.2.1, Col.i IntKind.i64 d.2.2.1, Col.i IntKind.i64 d.2.2.2.1, Col.i IntKind.i64 d.2.2.2.2.1, Col.i IntKind.i64 d.2.2.2.2.2.1,
            Col.i IntKind.i64 d.2.2.2.2.2.2.1, Col.i IntKind.i64 d.2.2.2.2.2.2.2.1, Col.i IntKind.i64 d.2.2.2.2.2.2.2.2.1,
            Col.i IntKind.i64 d.2.2.2.2.2.2.2.2.2.1])),
    AV.und, AV.und, AV.r (RV.c (CV.f (FV.i IntKind.i64 d.2.2.2.2.2.2.2.2.2.2.1))), AV.r (RV.c (CV.f (FV.i IntKind.i64 d.2.2.2.2.2.2.2.2.2.2.2))), AV.und,
    AV.und, AV.und, AV.und, AV.und, AV.und, AV.und, AV.und, AV.und, AV.und, AV.und, AV.und, AV.und, AV.und, AV.und]
  [] []) (step := fun d c x => S_astrolabelaw13_lost_0   d.1 d.2.1 d.2.2.1 d.2.2.2.1 d.2.2.2.2.1 d.2.2.2.2.2.1 d.2.2.2.2.2.2.1 d.2.2.2.2.2.2.2.1 d.2.2.2.2.2.2.2.2.1 d.2.2.2.2.2.2.2.2.2.1 d.2.2.2.2.2.2.2.2.2.2.1 d.2.2.2.2.2.2.2.2.2.2.2 c x) (kx := (fun d => K (AX.ex 0) (St.mk
  [AV.r
      (RV.c
        (CV.fs d.1 9
          [Col.i IntKind.i64 d.2.1, Col.i IntKind.i64 d.2.2.1, Col.i IntKind.i64 d.2.2.2.1, Col.i IntKind.i64 d.2.2.2.2.1, Col.i IntKind.i64 d.2.2.2.2.2.1,
            Col.i IntKind.i64 d.2.2.2.2.2.2.1, Col.i IntKind.i64 d.2.2.2.2.2.2.2.1, Col.i IntKind.i64 d.2.2.2.2.2.2.2.2.1,
            Col.i IntKind.i64 d.2.2.2.2.2.2.2.2.2.1])),
    AV.und, AV.und, AV.r (RV.c (CV.f (FV.i IntKind.i64 d.2.2.2.2.2.2.2.2.2.2.1))), AV.r (RV.c (CV.f (FV.i IntKind.i64 d.2.2.2.2.2.2.2.2.2.2.2.1))),
    AV.r (RV.c (CV.f (FV.i IntKind.i64 d.2.2.2.2.2.2.2.2.2.2.2.1))),
    AV.r
      (RV.c
        (CV.fs d.1 9
          [Col.i IntKind.i64 d.2.1, Col.i IntKind.i64 d.2.2.1, Col.i IntKind.i64 d.2.2.2.1, Col.i IntKind.i64 d.2.2.2.2.1, Col.i IntKind.i64 d.2.2.2.2.2.1,
            Col.i IntKind.i64 d.2.2.2.2.2.2.1, Col.i IntKind.i64 d.2.2.2.2.2.2.2.1, Col.i IntKind.i64 d.2.2.2.2.2.2.2.2.1,
            Col.i IntKind.i64 d.2.2.2.2.2.2.2.2.2.1])),
    AV.r (RV.c (CV.f (FV.i IntKind.i64 d.2.2.2.2.2.2.2.2.2.2.2.2.1))), AV.r (RV.c (CV.f (FV.b d.2.2.2.2.2.2.2.2.2.2.2.2.2))), AV.und, AV.und,
    AV.und, AV.und, AV.und, AV.und, AV.und, AV.und, AV.und, AV.und, AV.und]
  [] [])))
    (fun d c => ds_astrolabelaw13_lost_0  (@L_astrolabelaw13_lost_0) d.1 d.2.1 d.2.2.1 d.2.2.2.1 d.2.2.2.2.1 d.2.2.2.2.2.1 d.2.2.2.2.2.2.1 d.2.2.2.2.2.2.2.1 d.2.2.2.2.2.2.2.2.1 d.2.2.2.2.2.2.2.2.2.1 d.2.2.2.2.2.2.2.2.2.2.1 d.2.2.2.2.2.2.2.2.2.2.2 c K) 200 (x0, x1, x2, x3, x4, x5, x6, x7, x8, x9, x10, x11)
theorem so_astrolabelaw13_lost_0 [Amb] : ∀ kk, SumOK Try.prog (envOf []) ⟨[⟨3, [1, 2, 5, 6, 7, 8, 9, 10, 11, 12, 13, 14, 15, 16, 17, 18, 19], []⟩], [⟨3, 0, @R_astrolabelaw13_lost_0 (@L_astrolabelaw13_lost_0)⟩], [], [], (some ⟨0, [0, 1, 3, 4, 5, 6, 7, 8, 9, 10, 11, 12, 13, 14, 15, 16, 17, 18, 19], []⟩)⟩ (tmpsOf Try.prog 29) kk 200 (loopIn Try.prog 29 3) :=
  SumOK.of (id := 3) (k0 := 0) (run := @R_astrolabelaw13_lost_0 (@L_astrolabelaw13_lost_0)) (by kernel_rfl) fun s K r hr => by
    unfold R_astrolabelaw13_lost_0 at hr
    obtain ⟨b, hb, hr1⟩ := Option.bind_eq_some_iff.1 hr
    have e := ((Q_astrolabelaw13_lost_0).ok s b hb).trans (q_astrolabelaw13_lost_0 b)
    subst e
    exact ⟨200, (it_astrolabelaw13_lost_0 b.1.1.1 b.1.1.2.2.1 b.1.1.2.2.2.1 b.1.1.2.2.2.2.1 b.1.1.2.2.2.2.2.1 b.1.1.2.2.2.2.2.2.1 b.1.1.2.2.2.2.2.2.2.1 b.1.1.2.2.2.2.2.2.2.2.1 b.1.1.2.2.2.2.2.2.2.2.2.1 b.1.1.2.2.2.2.2.2.2.2.2.2.1 b.1.2.2.2.1 b.1.2.2.2.2.1 K).trans hr1⟩
def K_astrolabelaw13_lost {ρ : Type}  (l_0 : ∀ {ρ : Type}, (Nat × (Nat → Int) × (Nat → Int) × (Nat → Int) × (Nat → Int) × (Nat → Int) × (Nat → Int) × (Nat → Int) × (Nat → Int) × (Nat → Int) × Int × Int) → ((Nat × (Nat → Int) × (Nat → Int) × (Nat → Int) × (Nat → Int) × (Nat → Int) × (Nat → Int) × (Nat → Int) × (Nat → Int) × (Nat → Int) × Int × Int × Int × Bool) → Option ρ) → Option ρ) (x0 : Nat) (x1 : Nat → Int) (x2 : Nat → Int) (x3 : Nat → Int) (x4 : Nat → Int) (x5 : Nat → Int) (x6 : Nat → Int) (x7 : Nat → Int) (x8 : Nat → Int) (x9 : Nat → Int) (k : (Int) → Option ρ) : Option ρ :=
  l_0 (x0, x1, x2, x3, x4, x5, x6, x7, x8, x9, 0, 0)
    fun (d : Nat × (Nat → Int) × (Nat → Int) × (Nat → Int) × (Nat → Int) × (Nat → Int) × (Nat → Int) × (Nat → Int) × (Nat → Int) × (Nat → Int) × Int × Int × Int × Bool) =>
    k d.2.2.2.2.2.2.2.2.2.2.1
def f_astrolabelaw13_lost (x0 : Nat) (x1 : Nat → Int) (x2 : Nat → Int) (x3 : Nat → Int) (x4 : Nat → Int) (x5 : Nat → Int) (x6 : Nat → Int) (x7 : Nat → Int) (x8 : Nat → Int) (x9 : Nat → Int) : Option (Int) := K_astrolabelaw13_lost  (@L_astrolabelaw13_lost_0) x0 x1 x2 x3 x4 x5 x6 x7 x8 x9 some
section
open Go.Ab.Rdr
def QA_astrolabelaw13_lost := ((pair (cons (ar (rc (cfs hole (nat 9) (cons (ki .i64 hole) (cons (ki .i64 hole) (cons (ki .i64 hole) (cons (ki .i64 hole) (cons (ki .i64 hole) (cons (ki .i64 hole) (cons (ki .i64 hole) (cons (ki .i64 hole) (cons (ki .i64 hole) nil)))))))))))) nil) nil) : Rdr (List AV × List Blk) _)
end
def F_astrolabelaw13_lost (f : (Nat) → (Nat → Int) → (Nat → Int) → (Nat → Int) → (Nat → Int) → (Nat → Int) → (Nat → Int) → (Nat → Int) → (Nat → Int) → (Nat → Int) → Option (Int)) : Sem1 := fun args h => match (QA_astrolabelaw13_lost).rd (args, h) with
  | some b => .opt (f b.1.1.1 b.1.1.2.2.1 b.1.1.2.2.2.1 b.1.1.2.2.2.2.1 b.1.1.2.2.2.2.2.1 b.1.1.2.2.2.2.2.2.1 b.1.1.2.2.2.2.2.2.2.1 b.1.1.2.2.2.2.2.2.2.2.1 b.1.1.2.2.2.2.2.2.2.2.2.1 b.1.1.2.2.2.2.2.2.2.2.2.2.1) fun (d : Int) => .leaf (Res.mk (AV.r (RV.c (CV.f (FV.i IntKind.i64 d)))) [] [])
  | none => .fail
theorem d_astrolabelaw13_lost  (l_0 : ∀ {ρ : Type}, (Nat × (Nat → Int) × (Nat → Int) × (Nat → Int) × (Nat → Int) × (Nat → Int) × (Nat → Int) × (Nat → Int) × (Nat → Int) × (Nat → Int) × Int × Int) → ((Nat × (Nat → Int) × (Nat → Int) × (Nat → Int) × (Nat → Int) × (Nat → Int) × (Nat → Int) × (Nat → Int) × (Nat → Int) × (Nat → Int) × Int × Int × Int × Bool) → Option ρ) → Option ρ) (x0 : Nat) (x1 : Nat → Int) (x2 : Nat → Int) (x3 : Nat → Int) (x4 : Nat → Int) (x5 : Nat → Int) (x6 : Nat → Int) (x7 : Nat → Int) (x8 : Nat → Int) (x9 : Nat → Int) : den Try.prog (envOf []) ⟨[⟨3, [1, 2, 5, 6, 7, 8, 9, 10, 11, 12, 13, 14, 15, 16, 17, 18, 19], []⟩], [⟨3, 0, @R_astrolabelaw13_lost_0 (@l_0)⟩], [], [], (some ⟨0, [0, 1, 3, 4, 5, 6, 7, 8, 9, 10, 11, 12, 13, 14, 15, 16, 17, 18, 19], []⟩)⟩ 200 29 [.r (.c (.fs x0 9 [.i .i64 x1, .i .i64 x2, .i .i64 x3, .i .i64 x4, .i .i64 x5, .i .i64 x6, .i .i64 x7, .i .i64 x8, .i .i64 x9]))] [] =
    K_astrolabelaw13_lost  (@l_0) x0 x1 x2 x3 x4 x5 x6 x7 x8 x9 (fun (d : Int) => some (Res.mk (AV.r (RV.c (CV.f (FV.i IntKind.i64 d)))) [] [])) := by kernel_rfl
theorem m_astrolabelaw13_lost {ρ σ : Type} (q : ρ → Option σ)  (l_0 : ∀ {ρ : Type}, (Nat × (Nat → Int) × (Nat → Int) × (Nat → Int) × (Nat → Int) × (Nat → Int) × (Nat → Int) × (Nat → Int) × (Nat → Int) × (Nat → Int) × Int × Int) → ((Nat × (Nat → Int) × (Nat → Int) × (Nat → Int) × (Nat → Int) × (Nat → Int) × (Nat → Int) × (Nat → Int) × (Nat → Int) × (Nat → Int) × Int × Int × Int × Bool) → Option ρ) → Option ρ) (hl_0 : ∀ {ρ σ : Type} (q : ρ → Option σ) (d : Nat × (Nat → Int) × (Nat → Int) × (Nat → Int) × (Nat → Int) × (Nat → Int) × (Nat → Int) × (Nat → Int) × (Nat → Int) × (Nat → Int) × Int × Int) (k : (Nat × (Nat → Int) × (Nat → Int) × (Nat → Int) × (Nat → Int) × (Nat → Int) × (Nat → Int) × (Nat → Int) × (Nat → Int) × (Nat → Int) × Int × Int × Int × Bool) → Option ρ), (l_0 d k).bind q = l_0 d fun x => (k x).bind q) (x0 : Nat) (x1 : Nat → Int) (x2 : Nat → Int) (x3 : Nat → Int) (x4 : Nat → Int) (x5 : Nat → Int) (x6 : Nat → Int) (x7 : Nat → Int) (x8 : Nat → Int) (x9 : Nat → Int) (k : (Int) → Option ρ) : (K_astrolabelaw13_lost  (@l_0) x0 x1 x2 x3 x4 x5 x6 x7 x8 x9 k).bind q = K_astrolabelaw13_lost  (@l_0) x0 x1 x2 x3 x4 x5 x6 x7 x8 x9 (fun d => (k d).bind q) := by
  simp only [K_astrolabelaw13_lost, bnd_cond, bnd_bind, bnd_none, bnd_sum, hl_0]
theorem qa_astrolabelaw13_lost : ∀ b, (QA_astrolabelaw13_lost).em b = ([.r (.c (.fs b.1.1.1 9 [.i .i64 b.1.1.2.2.1, .i .i64 b.1.1.2.2.2.1, .i .i64 b.1.1.2.2.2.2.1, .i .i64 b.1.1.2.2.2.2.2.1, .i .i64 b.1.1.2.2.2.2.2.2.1, .i .i64 b.1.1.2.2.2.2.2.2.2.1, .i .i64 b.1.1.2.2.2.2.2.2.2.2.1, .i .i64 b.1.1.2.2.2.2.2.2.2.2.2.1, .i .i64 b.1.1.2.2.2.2.2.2.2.2.2.2.1]))], []) := fun b => by kernel_rfl
theorem e_astrolabelaw13_lost {f : (Nat) → (Nat → Int) → (Nat → Int) → (Nat → Int) → (Nat → Int) → (Nat → Int) → (Nat → Int) → (Nat → Int) → (Nat → Int) → (Nat → Int) → Option (Int)} {args : List AV} {h : List Blk} {r : Res} (hr : (F_astrolabelaw13_lost f args h).eval = some r) : ∃ x0 x1 x2 x3 x4 x5 x6 x7 x8 x9, args = [.r (.c (.fs x0 9 [.i .i64 x1, .i .i64 x2, .i .i64 x3, .i .i64 x4, .i .i64 x5, .i .i64 x6, .i .i64 x7, .i .i64 x8, .i .i64 x9]))] ∧ h = [] ∧ (f x0 x1 x2 x3 x4 x5 x6 x7 x8 x9).bind (fun (d : Int) => some (Res.mk (AV.r (RV.c (CV.f (FV.i IntKind.i64 d)))) [] [])) = some r := by
  unfold F_astrolabelaw13_lost at hr
  split at hr
  · rename_i b hb
    have e := ((QA_astrolabelaw13_lost).ok _ _ hb).trans (qa_astrolabelaw13_lost b)
    rw [opt_eval2] at hr
    exact ⟨b.1.1.1, b.1.1.2.2.1, b.1.1.2.2.2.1, b.1.1.2.2.2.2.1, b.1.1.2.2.2.2.2.1, b.1.1.2.2.2.2.2.2.1, b.1.1.2.2.2.2.2.2.2.1, b.1.1.2.2.2.2.2.2.2.2.1, b.1.1.2.2.2.2.2.2.2.2.2.1, b.1.1.2.2.2.2.2.2.2.2.2.2.1, (Prod.mk.inj e).1, (Prod.mk.inj e).2, hr⟩
  · cases hr
theorem n_astrolabelaw13_lost {σ : Type} (q : (Int) → Option σ) (x0 : Nat) (x1 : Nat → Int) (x2 : Nat → Int) (x3 : Nat → Int) (x4 : Nat → Int) (x5 : Nat → Int) (x6 : Nat → Int) (x7 : Nat → Int) (x8 : Nat → Int) (x9 : Nat → Int) : (f_astrolabelaw13_lost x0 x1 x2 x3 x4 x5 x6 x7 x8 x9).bind q = K_astrolabelaw13_lost  (@L_astrolabelaw13_lost_0) x0 x1 x2 x3 x4 x5 x6 x7 x8 x9 q := by
  unfold f_astrolabelaw13_lost
  exact m_astrolabelaw13_lost q  (@L_astrolabelaw13_lost_0) (fun q d k => mL_astrolabelaw13_lost_0 q d k) x0 x1 x2 x3 x4 x5 x6 x7 x8 x9 some
theorem s_astrolabelaw13_lost [Amb] : Sound Try.prog 29 (F_astrolabelaw13_lost f_astrolabelaw13_lost) :=
  (inl_sums (l := []) (.nil _) mixed (hs := ⟨[⟨3, [1, 2, 5, 6, 7, 8, 9, 10, 11, 12, 13, 14, 15, 16, 17, 18, 19], []⟩], [⟨3, 0, @R_astrolabelaw13_lost_0 (@L_astrolabelaw13_lost_0)⟩], [], [], (some ⟨0, [0, 1, 3, 4, 5, 6, 7, 8, 9, 10, 11, 12, 13, 14, 15, 16, 17, 18, 19], []⟩)⟩) (lf := 200) (Sums.by (l := [loopIn Try.prog 29 3]) (lj := []) (by kernel_rfl) ⟨so_astrolabelaw13_lost_0, trivial⟩ (by kernel_rfl) trivial) (by kernel_rfl)).by (F := F_astrolabelaw13_lost f_astrolabelaw13_lost) fun args b r hr => by
  obtain ⟨x0, x1, x2, x3, x4, x5, x6, x7, x8, x9, rfl, rfl, hr1⟩ := e_astrolabelaw13_lost hr
  exact inl_eval ((d_astrolabelaw13_lost  (@L_astrolabelaw13_lost_0) x0 x1 x2 x3 x4 x5 x6 x7 x8 x9).trans ((n_astrolabelaw13_lost (fun (d : Int) => some (Res.mk (AV.r (RV.c (CV.f (FV.i IntKind.i64 d)))) [] [])) x0 x1 x2 x3 x4 x5 x6 x7 x8 x9).symm.trans hr1))

def K_astrolabelaw13_RingKnown {ρ : Type} (g_astrolabelaw13_awake : Option Bool) (g_ring_New : Int → Option (Unit ⊕ Int × (Nat → Int))) (g___ring_Buffer__Put : Int →
  Int →
    Int →
      Int →
        Int →
          Int →
            Int →
              Int →
                Int →
                  Int →
                    Int →
                      Int →
                        Int →
                          Int →
                            Int →
                              Nat →
                                Int →
                                  (Nat → Int) →
                                    (Nat → Int) →
                                      (Nat → Int) →
                                        (Nat → Int) →
                                          (Nat → Int) →
                                            (Nat → Int) →
                                              (Nat → Int) →
                                                (Nat → Int) →
                                                  (Nat → Int) →
                                                    Bool →
                                                      Option
                                                        (Int × Int × Int × Int × Int × Int × Nat × Bool × Int ⊕
                                                          Bool ×
                                                            Int ×
                                                              Int ×
                                                                Int ×
                                                                  Int ×
                                                                    Int ×
                                                                      Int ×
                                                                        Nat ×
                                                                          Int ×
                                                                            (Nat → Int) × (Nat → Int) × (Nat → Int) × (Nat → Int) × (Nat → Int) × (Nat → Int) × (Nat → Int) × (Nat → Int) × (Nat → Int))) (g___ring_Buffer__Peek : Int →
  Int →
    Int →
      Int →
        Int →
          Int →
            Nat →
              Int →
                (Nat → Int) →
                  (Nat → Int) →
                    (Nat → Int) → (Nat → Int) → (Nat → Int) → (Nat → Int) → (Nat → Int) → (Nat → Int) → (Nat → Int) → Bool → Option (Int × Int × Int × Int × Int × Int × Int × Int × Int × Bool)) (g___ring_Buffer__Horizon : Int → Int → Int → Int → Int → Int → Nat → Int → (Nat → Int) → (Nat → Int) → (Nat → Int) → (Nat → Int) → (Nat → Int) → (Nat → Int) → (Nat → Int) → (Nat → Int) → (Nat → Int) → Bool → Option Int)   (k : (Bool) → Option ρ) : Option ρ :=
  Option.bind g_astrolabelaw13_awake fun (d : Bool) =>
    bif !d then k false
    else
      Option.bind (g_ring_New 0) fun (d : Unit ⊕ Int × (Nat → Int)) =>
        bif
            match d with
            | Sum.inl val => true
            | Sum.inr val => false then
          Option.bind
            (match d with
            | Sum.inl a => some a
            | Sum.inr val => none)
            fun (d : Unit) =>
            Option.bind (g_ring_New 65) fun (d : Unit ⊕ Int × (Nat → Int)) =>
              bif
                  match d with
                  | Sum.inl val => true
                  | Sum.inr val => false then
                Option.bind
                  (match d with
                  | Sum.inl a => some a
                  | Sum.inr val => none)
                  fun (d : Unit) =>
                  Option.bind (g_ring_New 1) fun (d : Unit ⊕ Int × (Nat → Int)) =>
                    bif
                        match d with
                        | Sum.inl val => true
                        | Sum.inr val => false then
                      Option.bind
                        (match d with
                        | Sum.inl a => some a
                        | Sum.inr val => none)
                        fun (d : Unit) => none
                    else
                      Option.bind
                        (match d with
                        | Sum.inr b => some b
                        | Sum.inl val => none)
                        fun (d : Int × (Nat → Int)) =>
                        Option.bind (g___ring_Buffer__Put 5 0 0 0 0 0 0 0 0 0 0 0 0 0 d.1 0 (-9223372036854775808) d.2 d.2 d.2 d.2 d.2 d.2 d.2 d.2 d.2 true)
                          fun
                            (d_1 :
                              Int × Int × Int × Int × Int × Int × Nat × Bool × Int ⊕
                                Bool ×
                                  Int ×
                                    Int ×
                                      Int × Int × Int × Int × Nat × Int × (Nat → Int) × (Nat → Int) × (Nat → Int) × (Nat → Int) × (Nat → Int) × (Nat → Int) × (Nat → Int) × (Nat → Int) × (Nat → Int)) =>
                          bif
                              match d_1 with
                              | Sum.inl val => true
                              | Sum.inr val => false then
                            Option.bind
                              (match d_1 with
                              | Sum.inl a => some a
                              | Sum.inr val => none)
                              fun (d_2 : Int × Int × Int × Int × Int × Int × Nat × Bool × Int) =>
                              bif Nat.beq d_2.2.2.2.2.2.2.1 d_2.2.2.2.2.2.2.1 then
                                Option.bind
                                  (g___ring_Buffer__Peek d_2.1 d_2.2.1 d_2.2.2.1 d_2.2.2.2.1 d_2.2.2.2.2.1 d_2.2.2.2.2.2.1 d_2.2.2.2.2.2.2.1
                                    d_2.2.2.2.2.2.2.2.2 d.2 d.2 d.2 d.2 d.2 d.2 d.2 d.2 d.2 (d_2.2.2.2.2.2.2.2.1 && true && true))
                                  fun (d_3 : Int × Int × Int × Int × Int × Int × Int × Int × Int × Bool) =>
                                  bif d_3.2.2.2.2.2.2.2.2.2 then
                                    bif Nat.beq d_2.2.2.2.2.2.2.1 d_2.2.2.2.2.2.2.1 then
                                      Option.bind
                                        (g___ring_Buffer__Put 4 0 0 0 0 0 0 0 0 d_2.1 d_2.2.1 d_2.2.2.1 d_2.2.2.2.1 d_2.2.2.2.2.1 d_2.2.2.2.2.2.1
                                          d_2.2.2.2.2.2.2.1 d_2.2.2.2.2.2.2.2.2 d.2 d.2 d.2 d.2 d.2 d.2 d.2 d.2 d.2 (d_2.2.2.2.2.2.2.2.1 && true && true))
                                        fun
                                          (d_4 :
                                            Int × Int × Int × Int × Int × Int × Nat × Bool × Int ⊕
                                              Bool ×
                                                Int ×
                                                  Int ×
                                                    Int ×
                                                      Int ×
                                                        Int ×
                                                          Int ×
                                                            Nat × Int × (Nat → Int) × (Nat → Int) × (Nat → Int) × (Nat → Int) × (Nat → Int) × (Nat → Int) × (Nat → Int) × (Nat → Int) × (Nat → Int)) =>
                                        bif
                                            match d_4 with
                                            | Sum.inl val => true
                                            | Sum.inr val => false then
                                          Option.bind
                                            (match d_4 with
                                            | Sum.inl a => some a
                                            | Sum.inr val => none)
                                            fun (d_5 : Int × Int × Int × Int × Int × Int × Nat × Bool × Int) =>
                                            bif d_5.2.2.1 == 1 then
                                              bif Nat.beq d_5.2.2.2.2.2.2.1 d_5.2.2.2.2.2.2.1 then
                                                Option.bind
                                                  (g___ring_Buffer__Horizon d_5.1 d_5.2.1 d_5.2.2.1 d_5.2.2.2.1 d_5.2.2.2.2.1 d_5.2.2.2.2.2.1
                                                    d_5.2.2.2.2.2.2.1 d_5.2.2.2.2.2.2.2.2 d.2 d.2 d.2 d.2 d.2 d.2 d.2 d.2 d.2
                                                    (d_5.2.2.2.2.2.2.2.1 && (d_2.2.2.2.2.2.2.2.1 && true && true) && true))
                                                  fun (d : Int) => k (d == -9223372036854775808)
                                              else none
                                            else k false
                                        else
                                          Option.bind
                                            (match d_4 with
                                            | Sum.inr b => some b
                                            | Sum.inl val => none)
                                            fun
                                              (d :
                                                Bool ×
                                                  Int ×
                                                    Int ×
                                                      Int ×
                                                        Int ×
                                                          Int ×
                                                            Int ×
                                                              Nat × Int × (Nat → Int) × (Nat → Int) × (Nat → Int) × (Nat → Int) × (Nat → Int) × (Nat → Int) × (Nat → Int) × (Nat → Int) × (Nat → Int)) =>
                                            bif !d.1 then
                                              bif d.2.2.2.1 == 1 then
                                                bif Nat.beq d.2.2.2.2.2.2.2.1 d.2.2.2.2.2.2.2.1 then
                                                  Option.bind
                                                    (g___ring_Buffer__Horizon d.2.1 d.2.2.1 d.2.2.2.1 d.2.2.2.2.1 d.2.2.2.2.2.1 d.2.2.2.2.2.2.1
                                                      d.2.2.2.2.2.2.2.1 d.2.2.2.2.2.2.2.2.1 d.2.2.2.2.2.2.2.2.2.1
                                                      d.2.2.2.2.2.2.2.2.2.2.1 d.2.2.2.2.2.2.2.2.2.2.2.1 d.2.2.2.2.2.2.2.2.2.2.2.2.1
                                                      d.2.2.2.2.2.2.2.2.2.2.2.2.2.1 d.2.2.2.2.2.2.2.2.2.2.2.2.2.2.1
                                                      d.2.2.2.2.2.2.2.2.2.2.2.2.2.2.2.1 d.2.2.2.2.2.2.2.2.2.2.2.2.2.2.2.2.1
                                                      d.2.2.2.2.2.2.2.2.2.2.2.2.2.2.2.2.2 true)
                                                    fun (d : Int) => k (d == -9223372036854775808)
                                                else none
                                              else k false
                                            else k false
                                    else none
                                  else k false
                              else none
                          else
                            Option.bind
                              (match d_1 with
                              | Sum.inr b => some b
                              | Sum.inl val => none)
                              fun
                                (d :
                                  Bool ×
                                    Int ×
                                      Int ×
                                        Int ×
                                          Int × Int × Int × Nat × Int × (Nat → Int) × (Nat → Int) × (Nat → Int) × (Nat → Int) × (Nat → Int) × (Nat → Int) × (Nat → Int) × (Nat → Int) × (Nat → Int)) =>
                              bif Nat.beq d.2.2.2.2.2.2.2.1 d.2.2.2.2.2.2.2.1 then
                                Option.bind
                                  (g___ring_Buffer__Peek d.2.1 d.2.2.1 d.2.2.2.1 d.2.2.2.2.1 d.2.2.2.2.2.1 d.2.2.2.2.2.2.1
                                    d.2.2.2.2.2.2.2.1 d.2.2.2.2.2.2.2.2.1 d.2.2.2.2.2.2.2.2.2.1 d.2.2.2.2.2.2.2.2.2.2.1
                                    d.2.2.2.2.2.2.2.2.2.2.2.1 d.2.2.2.2.2.2.2.2.2.2.2.2.1 d.2.2.2.2.2.2.2.2.2.2.2.2.2.1
                                    d.2.2.2.2.2.2.2.2.2.2.2.2.2.2.1 d.2.2.2.2.2.2.2.2.2.2.2.2.2.2.2.1
                                    d.2.2.2.2.2.2.2.2.2.2.2.2.2.2.2.2.1 d.2.2.2.2.2.2.2.2.2.2.2.2.2.2.2.2.2 true)
                                  fun (d_2 : Int × Int × Int × Int × Int × Int × Int × Int × Int × Bool) =>
                                  bif d_2.2.2.2.2.2.2.2.2.2 then
                                    bif Nat.beq d.2.2.2.2.2.2.2.1 d.2.2.2.2.2.2.2.1 then
                                      Option.bind
                                        (g___ring_Buffer__Put 4 0 0 0 0 0 0 0 0 d.2.1 d.2.2.1 d.2.2.2.1 d.2.2.2.2.1 d.2.2.2.2.2.1 d.2.2.2.2.2.2.1
                                          d.2.2.2.2.2.2.2.1 d.2.2.2.2.2.2.2.2.1 d.2.2.2.2.2.2.2.2.2.1 d.2.2.2.2.2.2.2.2.2.2.1
                                          d.2.2.2.2.2.2.2.2.2.2.2.1 d.2.2.2.2.2.2.2.2.2.2.2.2.1 d.2.2.2.2.2.2.2.2.2.2.2.2.2.1
                                          d.2.2.2.2.2.2.2.2.2.2.2.2.2.2.1 d.2.2.2.2.2.2.2.2.2.2.2.2.2.2.2.1
                                          d.2.2.2.2.2.2.2.2.2.2.2.2.2.2.2.2.1 d.2.2.2.2.2.2.2.2.2.2.2.2.2.2.2.2.2 true)
                                        fun
                                          (d_3 :
                                            Int × Int × Int × Int × Int × Int × Nat × Bool × Int ⊕
                                              Bool ×
                                                Int ×
                                                  Int ×
                                                    Int ×
                                                      Int ×
                                                        Int ×
                                                          Int ×
                                                            Nat × Int × (Nat → Int) × (Nat → Int) × (Nat → Int) × (Nat → Int) × (Nat → Int) × (Nat → Int) × (Nat → Int) × (Nat → Int) × (Nat → Int)) =>
                                        bif
                                            match d_3 with
                                            | Sum.inl val => true
                                            | Sum.inr val => false then
                                          Option.bind
                                            (match d_3 with
                                            | Sum.inl a => some a
                                            | Sum.inr val => none)
                                            fun (d_4 : Int × Int × Int × Int × Int × Int × Nat × Bool × Int) =>
                                            bif d_4.2.2.1 == 1 then
                                              bif Nat.beq d_4.2.2.2.2.2.2.1 d_4.2.2.2.2.2.2.1 then
                                                Option.bind
                                                  (g___ring_Buffer__Horizon d_4.1 d_4.2.1 d_4.2.2.1 d_4.2.2.2.1 d_4.2.2.2.2.1 d_4.2.2.2.2.2.1
                                                    d_4.2.2.2.2.2.2.1 d_4.2.2.2.2.2.2.2.2 d.2.2.2.2.2.2.2.2.2.1
                                                    d.2.2.2.2.2.2.2.2.2.2.1 d.2.2.2.2.2.2.2.2.2.2.2.1 d.2.2.2.2.2.2.2.2.2.2.2.2.1
                                                    d.2.2.2.2.2.2.2.2.2.2.2.2.2.1 d.2.2.2.2.2.2.2.2.2.2.2.2.2.2.1
                                                    d.2.2.2.2.2.2.2.2.2.2.2.2.2.2.2.1 d.2.2.2.2.2.2.2.2.2.2.2.2.2.2.2.2.1
                                                    d.2.2.2.2.2.2.2.2.2.2.2.2.2.2.2.2.2 (d_4.2.2.2.2.2.2.2.1 && true && true))
                                                  fun (d : Int) => k (d == -9223372036854775808)
                                              else none
                                            else k false
                                        else
                                          Option.bind
                                            (match d_3 with
                                            | Sum.inr b => some b
                                            | Sum.inl val => none)
                                            fun
                                              (d :
                                                Bool ×
                                                  Int ×
                                                    Int ×
                                                      Int ×
                                                        Int ×
                                                          Int ×
                                                            Int ×
                                                              Nat × Int × (Nat → Int) × (Nat → Int) × (Nat → Int) × (Nat → Int) × (Nat → Int) × (Nat → Int) × (Nat → Int) × (Nat → Int) × (Nat → Int)) =>
                                            bif !d.1 then
                                              bif d.2.2.2.1 == 1 then
                                                bif Nat.beq d.2.2.2.2.2.2.2.1 d.2.2.2.2.2.2.2.1 then
                                                  Option.bind
                                                    (g___ring_Buffer__Horizon d.2.1 d.2.2.1 d.2.2.2.1 d.2.2.2.2.1 d.2.2.2.2.2.1 d.2.2.2.2.2.2.1
                                                      d.2.2.2.2.2.2.2.1 d.2.2.2.2.2.2.2.2.1 d.2.2.2.2.2.2.2.2.2.1
                                                      d.2.2.2.2.2.2.2.2.2.2.1 d.2.2.2.2.2.2.2.2.2.2.2.1 d.2.2.2.2.2.2.2.2.2.2.2.2.1
                                                      d.2.2.2.2.2.2.2.2.2.2.2.2.2.1 d.2.2.2.2.2.2.2.2.2.2.2.2.2.2.1
                                                      d.2.2.2.2.2.2.2.2.2.2.2.2.2.2.2.1 d.2.2.2.2.2.2.2.2.2.2.2.2.2.2.2.2.1
                                                      d.2.2.2.2.2.2.2.2.2.2.2.2.2.2.2.2.2 true)
                                                    fun (d : Int) => k (d == -9223372036854775808)
                                                else none
                                              else k false
                                            else k false
                                    else none
                                  else k false
                              else none
              else
                Option.bind
                  (match d with
                  | Sum.inr b => some b
                  | Sum.inl val => none)
                  fun (d : Int × (Nat → Int)) =>
                  Option.bind (g_ring_New 1) fun (d : Unit ⊕ Int × (Nat → Int)) =>
                    bif
                        match d with
                        | Sum.inl val => true
                        | Sum.inr val => false then
                      Option.bind
                        (match d with
                        | Sum.inl a => some a
                        | Sum.inr val => none)
                        fun (d : Unit) => none
                    else
                      Option.bind
                        (match d with
                        | Sum.inr b => some b
                        | Sum.inl val => none)
                        fun (d : Int × (Nat → Int)) =>
                        Option.bind (g___ring_Buffer__Put 5 0 0 0 0 0 0 0 0 0 0 0 0 0 d.1 0 (-9223372036854775808) d.2 d.2 d.2 d.2 d.2 d.2 d.2 d.2 d.2 true)
                          fun
                            (d_1 :
                              Int × Int × Int × Int × Int × Int × Nat × Bool × Int ⊕
                                Bool ×
                                  Int ×
                                    Int ×
                                      Int × Int × Int × Int × Nat × Int × (Nat → Int) × (Nat → Int) × (Nat → Int) × (Nat → Int) × (Nat → Int) × (Nat → Int) × (Nat → Int) × (Nat → Int) × (Nat → Int)) =>
                          bif
                              match d_1 with
                              | Sum.inl val => true
                              | Sum.inr val => false then
                            Option.bind
                              (match d_1 with
                              | Sum.inl a => some a
                              | Sum.inr val => none)
                              fun (d_2 : Int × Int × Int × Int × Int × Int × Nat × Bool × Int) =>
                              bif Nat.beq d_2.2.2.2.2.2.2.1 d_2.2.2.2.2.2.2.1 then
                                Option.bind
                                  (g___ring_Buffer__Peek d_2.1 d_2.2.1 d_2.2.2.1 d_2.2.2.2.1 d_2.2.2.2.2.1 d_2.2.2.2.2.2.1 d_2.2.2.2.2.2.2.1
                                    d_2.2.2.2.2.2.2.2.2 d.2 d.2 d.2 d.2 d.2 d.2 d.2 d.2 d.2 (d_2.2.2.2.2.2.2.2.1 && true && true))
                                  fun (d : Int × Int × Int × Int × Int × Int × Int × Int × Int × Bool) => k false
                              else none
                          else
                            Option.bind
                              (match d_1 with
                              | Sum.inr b => some b
                              | Sum.inl val => none)
                              fun
                                (d :
                                  Bool ×
                                    Int ×
                                      Int ×
                                        Int ×
                                          Int × Int × Int × Nat × Int × (Nat → Int) × (Nat → Int) × (Nat → Int) × (Nat → Int) × (Nat → Int) × (Nat → Int) × (Nat → Int) × (Nat → Int) × (Nat → Int)) =>
                              bif Nat.beq d.2.2.2.2.2.2.2.1 d.2.2.2.2.2.2.2.1 then
                                Option.bind
                                  (g___ring_Buffer__Peek d.2.1 d.2.2.1 d.2.2.2.1 d.2.2.2.2.1 d.2.2.2.2.2.1 d.2.2.2.2.2.2.1
                                    d.2.2.2.2.2.2.2.1 d.2.2.2.2.2.2.2.2.1 d.2.2.2.2.2.2.2.2.2.1 d.2.2.2.2.2.2.2.2.2.2.1
                                    d.2.2.2.2.2.2.2.2.2.2.2.1 d.2.2.2.2.2.2.2.2.2.2.2.2.1 d.2.2.2.2.2.2.2.2.2.2.2.2.2.1
                                    d.2.2.2.2.2.2.2.2.2.2.2.2.2.2.1 d.2.2.2.2.2.2.2.2.2.2.2.2.2.2.2.1
                                    d.2.2.2.2.2.2.2.2.2.2.2.2.2.2.2.2.1 d.2.2.2.2.2.2.2.2.2.2.2.2.2.2.2.2.2 true)
                                  fun (d : Int × Int × Int × Int × Int × Int × Int × Int × Int × Bool) => k false
                              else none
        else
          Option.bind
            (match d with
            | Sum.inr b => some b
            | Sum.inl val => none)
            fun (d : Int × (Nat → Int)) =>
            Option.bind (g_ring_New 65) fun (d : Unit ⊕ Int × (Nat → Int)) =>
              bif
                  match d with
                  | Sum.inl val => true
                  | Sum.inr val => false then
                Option.bind
                  (match d with
                  | Sum.inl a => some a
                  | Sum.inr val => none)
                  fun (d : Unit) =>
                  Option.bind (g_ring_New 1) fun (d : Unit ⊕ Int × (Nat → Int)) =>
                    bif
                        match d with
                        | Sum.inl val => true
                        | Sum.inr val => false then
                      Option.bind
                        (match d with
                        | Sum.inl a => some a
                        | Sum.inr val => none)
                        fun (d : Unit) => none
                    else
                      Option.bind
                        (match d with
                        | Sum.inr b => some b
                        | Sum.inl val => none)
                        fun (d : Int × (Nat → Int)) =>
                        Option.bind (g___ring_Buffer__Put 5 0 0 0 0 0 0 0 0 0 0 0 0 0 d.1 0 (-9223372036854775808) d.2 d.2 d.2 d.2 d.2 d.2 d.2 d.2 d.2 true)
                          fun
                            (d_1 :
                              Int × Int × Int × Int × Int × Int × Nat × Bool × Int ⊕
                                Bool ×
                                  Int ×
                                    Int ×
                                      Int × Int × Int × Int × Nat × Int × (Nat → Int) × (Nat → Int) × (Nat → Int) × (Nat → Int) × (Nat → Int) × (Nat → Int) × (Nat → Int) × (Nat → Int) × (Nat → Int)) =>
                          bif
                              match d_1 with
                              | Sum.inl val => true
                              | Sum.inr val => false then
                            Option.bind
                              (match d_1 with
                              | Sum.inl a => some a
                              | Sum.inr val => none)
                              fun (d_2 : Int × Int × Int × Int × Int × Int × Nat × Bool × Int) =>
                              bif Nat.beq d_2.2.2.2.2.2.2.1 d_2.2.2.2.2.2.2.1 then
                                Option.bind
                                  (g___ring_Buffer__Peek d_2.1 d_2.2.1 d_2.2.2.1 d_2.2.2.2.1 d_2.2.2.2.2.1 d_2.2.2.2.2.2.1 d_2.2.2.2.2.2.2.1
                                    d_2.2.2.2.2.2.2.2.2 d.2 d.2 d.2 d.2 d.2 d.2 d.2 d.2 d.2 (d_2.2.2.2.2.2.2.2.1 && true && true))
                                  fun (d : Int × Int × Int × Int × Int × Int × Int × Int × Int × Bool) => k false
                              else none
                          else
                            Option.bind
                              (match d_1 with
                              | Sum.inr b => some b
                              | Sum.inl val => none)
                              fun
                                (d :
                                  Bool ×
                                    Int ×
                                      Int ×
                                        Int ×
                                          Int × Int × Int × Nat × Int × (Nat → Int) × (Nat → Int) × (Nat → Int) × (Nat → Int) × (Nat → Int) × (Nat → Int) × (Nat → Int) × (Nat → Int) × (Nat → Int)) =>
                              bif Nat.beq d.2.2.2.2.2.2.2.1 d.2.2.2.2.2.2.2.1 then
                                Option.bind
                                  (g___ring_Buffer__Peek d.2.1 d.2.2.1 d.2.2.2.1 d.2.2.2.2.1 d.2.2.2.2.2.1 d.2.2.2.2.2.2.1
                                    d.2.2.2.2.2.2.2.1 d.2.2.2.2.2.2.2.2.1 d.2.2.2.2.2.2.2.2.2.1 d.2.2.2.2.2.2.2.2.2.2.1
                                    d.2.2.2.2.2.2.2.2.2.2.2.1 d.2.2.2.2.2.2.2.2.2.2.2.2.1 d.2.2.2.2.2.2.2.2.2.2.2.2.2.1
                                    d.2.2.2.2.2.2.2.2.2.2.2.2.2.2.1 d.2.2.2.2.2.2.2.2.2.2.2.2.2.2.2.1
                                    d.2.2.2.2.2.2.2.2.2.2.2.2.2.2.2.2.1 d.2.2.2.2.2.2.2.2.2.2.2.2.2.2.2.2.2 true)
                                  fun (d : Int × Int × Int × Int × Int × Int × Int × Int × Int × Bool) => k false
                              else none
              else
                Option.bind
                  (match d with
                  | Sum.inr b => some b
                  | Sum.inl val => none)
                  fun (d : Int × (Nat → Int)) =>
                  Option.bind (g_ring_New 1) fun (d : Unit ⊕ Int × (Nat → Int)) =>
                    bif
                        match d with
                        | Sum.inl val => true
                        | Sum.inr val => false then
                      Option.bind
                        (match d with
                        | Sum.inl a => some a
                        | Sum.inr val => none)
                        fun (d : Unit) => none
                    else
                      Option.bind
                        (match d with
                        | Sum.inr b => some b
                        | Sum.inl val => none)
                        fun (d : Int × (Nat → Int)) =>
                        Option.bind (g___ring_Buffer__Put 5 0 0 0 0 0 0 0 0 0 0 0 0 0 d.1 0 (-9223372036854775808) d.2 d.2 d.2 d.2 d.2 d.2 d.2 d.2 d.2 true)
                          fun
                            (d_1 :
                              Int × Int × Int × Int × Int × Int × Nat × Bool × Int ⊕
                                Bool ×
                                  Int ×
                                    Int ×
                                      Int × Int × Int × Int × Nat × Int × (Nat → Int) × (Nat → Int) × (Nat → Int) × (Nat → Int) × (Nat → Int) × (Nat → Int) × (Nat → Int) × (Nat → Int) × (Nat → Int)) =>
                          bif
                              match d_1 with
                              | Sum.inl val => true
                              | Sum.inr val => false then
                            Option.bind
                              (match d_1 with
                              | Sum.inl a => some a
                              | Sum.inr val => none)
                              fun (d_2 : Int × Int × Int × Int × Int × Int × Nat × Bool × Int) =>
                              bif Nat.beq d_2.2.2.2.2.2.2.1 d_2.2.2.2.2.2.2.1 then
                                Option.bind
                                  (g___ring_Buffer__Peek d_2.1 d_2.2.1 d_2.2.2.1 d_2.2.2.2.1 d_2.2.2.2.2.1 d_2.2.2.2.2.2.1 d_2.2.2.2.2.2.2.1
                                    d_2.2.2.2.2.2.2.2.2 d.2 d.2 d.2 d.2 d.2 d.2 d.2 d.2 d.2 (d_2.2.2.2.2.2.2.2.1 && true && true))
                                  fun (d : Int × Int × Int × Int × Int × Int × Int × Int × Int × Bool) => k false
                              else none
                          else
                            Option.bind
                              (match d_1 with
                              | Sum.inr b => some b
                              | Sum.inl val => none)
                              fun
                                (d :
                                  Bool ×
                                    Int ×
                                      Int ×
                                        Int ×
                                          Int × Int × Int × Nat × Int × (Nat → Int) × (Nat → Int) × (Nat → Int) × (Nat → Int) × (Nat → Int) × (Nat → Int) × (Nat → Int) × (Nat → Int) × (Nat → Int)) =>
                              bif Nat.beq d.2.2.2.2.2.2.2.1 d.2.2.2.2.2.2.2.1 then
                                Option.bind
                                  (g___ring_Buffer__Peek d.2.1 d.2.2.1 d.2.2.2.1 d.2.2.2.2.1 d.2.2.2.2.2.1 d.2.2.2.2.2.2.1
                                    d.2.2.2.2.2.2.2.1 d.2.2.2.2.2.2.2.2.1 d.2.2.2.2.2.2.2.2.2.1 d.2.2.2.2.2.2.2.2.2.2.1
                                    d.2.2.2.2.2.2.2.2.2.2.2.1 d.2.2.2.2.2.2.2.2.2.2.2.2.1 d.2.2.2.2.2.2.2.2.2.2.2.2.2.1
                                    d.2.2.2.2.2.2.2.2.2.2.2.2.2.2.1 d.2.2.2.2.2.2.2.2.2.2.2.2.2.2.2.1
                                    d.2.2.2.2.2.2.2.2.2.2.2.2.2.2.2.2.1 d.2.2.2.2.2.2.2.2.2.2.2.2.2.2.2.2.2 true)
                                  fun (d : Int × Int × Int × Int × Int × Int × Int × Int × Int × Bool) => k false
                              else none
def f_astrolabelaw13_RingKnown  : Option (Bool) := K_astrolabelaw13_RingKnown f_astrolabelaw13_awake f_ring_New f___ring_Buffer__Put f___ring_Buffer__Peek f___ring_Buffer__Horizon   some
section
open Go.Ab.Rdr
def QA_astrolabelaw13_RingKnown := ((pair nil nil) : Rdr (List AV × List Blk) _)
end
def F_astrolabelaw13_RingKnown (f : Option (Bool)) : Sem1 := fun args h => match (QA_astrolabelaw13_RingKnown).rd (args, h) with
  | some b => .opt (f ) fun (d : Bool) => .leaf (Res.mk (AV.r (RV.c (CV.f (FV.b d)))) [] [])
  | none => .fail
theorem d_astrolabelaw13_RingKnown (g_astrolabelaw13_awake : Option Bool) (g_ring_New : Int → Option (Unit ⊕ Int × (Nat → Int))) (g___ring_Buffer__Put : Int →
  Int →
    Int →
      Int →
        Int →
          Int →
            Int →
              Int →
                Int →
                  Int →
                    Int →
                      Int →
                        Int →
                          Int →
                            Int →
                              Nat →
                                Int →
                                  (Nat → Int) →
                                    (Nat → Int) →
                                      (Nat → Int) →
                                        (Nat → Int) →
                                          (Nat → Int) →
                                            (Nat → Int) →
                                              (Nat → Int) →
                                                (Nat → Int) →
                                                  (Nat → Int) →
                                                    Bool →
                                                      Option
                                                        (Int × Int × Int × Int × Int × Int × Nat × Bool × Int ⊕
                                                          Bool ×
                                                            Int ×
                                                              Int ×
                                                                Int ×
                                                                  Int ×
                                                                    Int ×
                                                                      Int ×
                                                                        Nat ×
                                                                          Int ×
                                                                            (Nat → Int) × (Nat → Int) × (Nat → Int) × (Nat → Int) × (Nat → Int) × (Nat → Int) × (Nat → Int) × (Nat → Int) × (Nat → Int))) (g___ring_Buffer__Peek : Int →
  Int →
    Int →
      Int →
        Int →
          Int →
            Nat →
              Int →
                (Nat → Int) →
                  (Nat → Int) →
                    (Nat → Int) → (Nat → Int) → (Nat → Int) → (Nat → Int) → (Nat → Int) → (Nat → Int) → (Nat → Int) → Bool → Option (Int × Int × Int × Int × Int × Int × Int × Int × Int × Bool)) (g___ring_Buffer__Horizon : Int → Int → Int → Int → Int → Int → Nat → Int → (Nat → Int) → (Nat → Int) → (Nat → Int) → (Nat → Int) → (Nat → Int) → (Nat → Int) → (Nat → Int) → (Nat → Int) → (Nat → Int) → Bool → Option Int)   : den Try.prog (envOf [(15, F_astrolabelaw13_awake g_astrolabelaw13_awake), (16, F_ring_New g_ring_New), (17, F___ring_Buffer__Put g___ring_Buffer__Put), (18, F___ring_Buffer__Peek g___ring_Buffer__Peek), (19, F___ring_Buffer__Horizon g___ring_Buffer__Horizon)]) ⟨[], [], [], [], none⟩ 200 3 [] [] =
    K_astrolabelaw13_RingKnown g_astrolabelaw13_awake g_ring_New g___ring_Buffer__Put g___ring_Buffer__Peek g___ring_Buffer__Horizon   (fun (d : Bool) => some (Res.mk (AV.r (RV.c (CV.f (FV.b d)))) [] [])) := by kernel_rfl
theorem m_astrolabelaw13_RingKnown {ρ σ : Type} (q : ρ → Option σ) (g_astrolabelaw13_awake : Option Bool) (g_ring_New : Int → Option (Unit ⊕ Int × (Nat → Int))) (g___ring_Buffer__Put : Int →
  Int →
    Int →
      Int →
        Int →
          Int →
            Int →
              Int →
                Int →
                  Int →
                    Int →
                      Int →
                        Int →
                          Int →
                            Int →
                              Nat →
                                Int →
                                  (Nat → Int) →
                                    (Nat → Int) →
                                      (Nat → Int) →
                                        (Nat → Int) →
                                          (Nat → Int) →
                                            (Nat → Int) →
                                              (Nat → Int) →
                                                (Nat → Int) →
                                                  (Nat → Int) →
                                                    Bool →
                                                      Option
                                                        (Int × Int × Int × Int × Int × Int × Nat × Bool × Int ⊕
                                                          Bool ×
                                                            Int ×
                                                              Int ×
                                                                Int ×
                                                                  Int ×
                                                                    Int ×
                                                                      Int ×
                                                                        Nat ×
                                                                          Int ×
                                                                            (Nat → Int) × (Nat → Int) × (Nat → Int) × (Nat → Int) × (Nat → Int) × (Nat → Int) × (Nat → Int) × (Nat → Int) × (Nat → Int))) (g___ring_Buffer__Peek : Int →
  Int →
    Int →
      Int →
        Int →
          Int →
            Nat →
              Int →
                (Nat → Int) →
                  (Nat → Int) →
                    (Nat → Int) → (Nat → Int) → (Nat → Int) → (Nat → Int) → (Nat → Int) → (Nat → Int) → (Nat → Int) → Bool → Option (Int × Int × Int × Int × Int × Int × Int × Int × Int × Bool)) (g___ring_Buffer__Horizon : Int → Int → Int → Int → Int → Int → Nat → Int → (Nat → Int) → (Nat → Int) → (Nat → Int) → (Nat → Int) → (Nat → Int) → (Nat → Int) → (Nat → Int) → (Nat → Int) → (Nat → Int) → Bool → Option Int)    (k : (Bool) → Option ρ) : (K_astrolabelaw13_RingKnown g_astrolabelaw13_awake g_ring_New g___ring_Buffer__Put g___ring_Buffer__Peek g___ring_Buffer__Horizon   k).bind q = K_astrolabelaw13_RingKnown g_astrolabelaw13_awake g_ring_New g___ring_Buffer__Put g___ring_Buffer__Peek g___ring_Buffer__Horizon   (fun d => (k d).bind q) := by
  simp only [K_astrolabelaw13_RingKnown, bnd_cond, bnd_bind, bnd_none, bnd_sum]
theorem qa_astrolabelaw13_RingKnown : ∀ b, (QA_astrolabelaw13_RingKnown).em b = ([], []) := fun b => by kernel_rfl
theorem e_astrolabelaw13_RingKnown {f : Option (Bool)} {args : List AV} {h : List Blk} {r : Res} (hr : (F_astrolabelaw13_RingKnown f args h).eval = some r) : args = [] ∧ h = [] ∧ (f ).bind (fun (d : Bool) => some (Res.mk (AV.r (RV.c (CV.f (FV.b d)))) [] [])) = some r := by
  unfold F_astrolabelaw13_RingKnown at hr
  split at hr
  · rename_i b hb
    have e := ((QA_astrolabelaw13_RingKnown).ok _ _ hb).trans (qa_astrolabelaw13_RingKnown b)
    rw [opt_eval2] at hr
    exact ⟨(Prod.mk.inj e).1, (Prod.mk.inj e).2, hr⟩
  · cases hr
theorem n_astrolabelaw13_RingKnown {σ : Type} (q : (Bool) → Option σ)  : (f_astrolabelaw13_RingKnown ).bind q = K_astrolabelaw13_RingKnown f_astrolabelaw13_awake f_ring_New f___ring_Buffer__Put f___ring_Buffer__Peek f___ring_Buffer__Horizon   q := by
  unfold f_astrolabelaw13_RingKnown
  exact m_astrolabelaw13_RingKnown q f_astrolabelaw13_awake f_ring_New f___ring_Buffer__Put f___ring_Buffer__Peek f___ring_Buffer__Horizon    some
theorem s_astrolabelaw13_RingKnown [Amb] : Sound Try.prog 3 (F_astrolabelaw13_RingKnown f_astrolabelaw13_RingKnown) :=
  (inl_sound (l := [(15, F_astrolabelaw13_awake f_astrolabelaw13_awake), (16, F_ring_New f_ring_New), (17, F___ring_Buffer__Put f___ring_Buffer__Put), (18, F___ring_Buffer__Peek f___ring_Buffer__Peek), (19, F___ring_Buffer__Horizon f___ring_Buffer__Horizon)]) (.cons s_astrolabelaw13_awake (.cons s_ring_New (.cons s___ring_Buffer__Put (.cons s___ring_Buffer__Peek (.cons s___ring_Buffer__Horizon (.nil _)))))) mixed [] [] 200 (by kernel_rfl)).by (F := F_astrolabelaw13_RingKnown f_astrolabelaw13_RingKnown) fun args b r hr => by
  obtain ⟨rfl, rfl, hr1⟩ := e_astrolabelaw13_RingKnown hr
  exact inl_eval ((d_astrolabelaw13_RingKnown f_astrolabelaw13_awake f_ring_New f___ring_Buffer__Put f___ring_Buffer__Peek f___ring_Buffer__Horizon  ).trans ((n_astrolabelaw13_RingKnown (fun (d : Bool) => some (Res.mk (AV.r (RV.c (CV.f (FV.b d)))) [] [])) ).symm.trans hr1))

end Go.Proofs.Ythbnojedlbeglaa
