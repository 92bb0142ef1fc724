/-
  Contracts by plain functions: astrolabelaw14.DownsSplits
-/
import Derived.Test.YtmlmpcabphgfaaaD2
set_option maxRecDepth 100000
set_option maxHeartbeats 4000000
set_option linter.unusedVariables false
namespace Go.Proofs.Ytmlmpcabphgfaaa
open Go.Ab
def K_astrolabelaw14_DownsSplits {ρ : Type} (g_astrolabelaw14_awake : Option Bool) (g_downs_Good : Int → Int → Int → Int → Int → Int → Int → Int → Option Bool) (g_downs_New : Int → Option (Unit ⊕ Int)) (g___downs_Sampler__Put : Int →
  Int →
    Int →
      Int →
        Int →
          Int →
            Int →
              Int →
                Int →
                  Int →
                    Int →
                      Int →
                        Int →
                          Int → Int → Int → Int → Bool → Bool → Option (Int × Int × Int × Int × Int × Int × Int × Int × Bool × Int × Int × Int × Int × Int × Int × Int × Int × Int × Int × Bool × Bool)) (g___downs_Sampler__Pending : Int → Int → Int → Int → Int → Int → Int → Int → Int → Bool → Option Int)  (x0 : Int) (x1 : Int) (x2 : Int) (x3 : Int) (x4 : Int) (x5 : Int) (x6 : Int) (x7 : Int) (x8 : Int) (x9 : Int) (x10 : Int) (x11 : Int) (x12 : Int) (k : (Bool) → Option ρ) : Option ρ :=
  Option.bind g_astrolabelaw14_awake fun (d : Bool) =>
    bif !d then k false
    else
      Option.bind (g_downs_Good x1 x2 x3 x4 x5 x6 x7 x8) fun (d : Bool) =>
        bif !d then k true
        else
          bif decide (x0 < 1000) then k true
          else
            bif decide (x0 > 100000) then k true
            else
              bif decide (x9 < 1) then k true
              else
                bif decide (x9 ≥ x2) then k true
                else
                  bif decide (x9 ≥ x0) then k true
                  else
                    bif decide (x1 < x2) then k true
                    else
                      Option.bind
                        (g_downs_Good (IntKind.wrap IntKind.i64 (x1 - x9)) x9 (IntKind.wrap IntKind.i64 (Int.tdiv x3 2)) (IntKind.wrap IntKind.i64 (Int.tdiv x4 2))
                          (IntKind.wrap IntKind.i64 (Int.tdiv x5 2)) (Int.tmod x10 17179869184) (Int.tmod x11 17179869184) (Int.tmod x12 17179869184))
                        fun (d : Bool) =>
                        bif !d then k true
                        else
                          Option.bind
                            (g_downs_Good x1 (IntKind.wrap IntKind.i64 (x2 - x9)) (IntKind.wrap IntKind.i64 (x3 - IntKind.wrap IntKind.i64 (Int.tdiv x3 2)))
                              (IntKind.wrap IntKind.i64 (x4 - IntKind.wrap IntKind.i64 (Int.tdiv x4 2))) (IntKind.wrap IntKind.i64 (x5 - IntKind.wrap IntKind.i64 (Int.tdiv x5 2)))
                              (IntKind.wrap IntKind.i64 (x6 - Int.tmod x10 17179869184)) (IntKind.wrap IntKind.i64 (x7 - Int.tmod x11 17179869184))
                              (IntKind.wrap IntKind.i64 (x8 - Int.tmod x12 17179869184)))
                            fun (d : Bool) =>
                            bif !d then k true
                            else
                              Option.bind (g_downs_New x0) fun (d : Unit ⊕ Int) =>
                                bif
                                    match d with
                                    | Sum.inl val => true
                                    | Sum.inr val => false then
                                  Option.bind
                                    (match d with
                                    | Sum.inl a => some a
                                    | Sum.inr val => none)
                                    fun (d : Unit) =>
                                    Option.bind (g_downs_New x0) fun (d : Unit ⊕ Int) =>
                                      bif
                                          match d with
                                          | Sum.inl val => true
                                          | Sum.inr val => false then
                                        Option.bind
                                          (match d with
                                          | Sum.inl a => some a
                                          | Sum.inr val => none)
                                          fun (d : Unit) => k false
                                      else
                                        Option.bind
                                          (match d with
                                          | Sum.inr b => some b
                                          | Sum.inl val => none)
                                          fun (d : Int) => k false
                                else
                                  Option.bind
                                    (match d with
                                    | Sum.inr b => some b
                                    | Sum.inl val => none)
                                    fun (d : Int) =>
                                    Option.bind (g_downs_New x0) fun (d_1 : Unit ⊕ Int) =>
                                      bif
                                          match d_1 with
                                          | Sum.inl val => true
                                          | Sum.inr val => false then
                                        Option.bind
                                          (match d_1 with
                                          | Sum.inl a => some a
                                          | Sum.inr val => none)
                                          fun (d : Unit) => k false
                                      else
                                        Option.bind
                                          (match d_1 with
                                          | Sum.inr b => some b
                                          | Sum.inl val => none)
                                          fun (d_2 : Int) =>
                                          Option.bind (g___downs_Sampler__Put x1 x2 x3 x4 x5 x6 x7 x8 d 0 0 0 0 0 0 0 0 false false)
                                            fun (d : Int × Int × Int × Int × Int × Int × Int × Int × Bool × Int × Int × Int × Int × Int × Int × Int × Int × Int × Int × Bool × Bool) =>
                                            Option.bind
                                              (g___downs_Sampler__Put (IntKind.wrap IntKind.i64 (x1 - x9)) x9 (IntKind.wrap IntKind.i64 (Int.tdiv x3 2)) (IntKind.wrap IntKind.i64 (Int.tdiv x4 2))
                                                (IntKind.wrap IntKind.i64 (Int.tdiv x5 2)) (Int.tmod x10 17179869184) (Int.tmod x11 17179869184) (Int.tmod x12 17179869184) d_2 0 0 0 0 0 0 0 0 false
                                                d.2.2.2.2.2.2.2.2.2.2.2.2.2.2.2.2.2.2.2.2)
                                              fun (d_3 : Int × Int × Int × Int × Int × Int × Int × Int × Bool × Int × Int × Int × Int × Int × Int × Int × Int × Int × Int × Bool × Bool) =>
                                              Option.bind
                                                (g___downs_Sampler__Put x1 (IntKind.wrap IntKind.i64 (x2 - x9)) (IntKind.wrap IntKind.i64 (x3 - IntKind.wrap IntKind.i64 (Int.tdiv x3 2)))
                                                  (IntKind.wrap IntKind.i64 (x4 - IntKind.wrap IntKind.i64 (Int.tdiv x4 2))) (IntKind.wrap IntKind.i64 (x5 - IntKind.wrap IntKind.i64 (Int.tdiv x5 2)))
                                                  (IntKind.wrap IntKind.i64 (x6 - Int.tmod x10 17179869184)) (IntKind.wrap IntKind.i64 (x7 - Int.tmod x11 17179869184))
                                                  (IntKind.wrap IntKind.i64 (x8 - Int.tmod x12 17179869184)) d_3.2.2.2.2.2.2.2.2.2.2.1
                                                  d_3.2.2.2.2.2.2.2.2.2.2.2.1 d_3.2.2.2.2.2.2.2.2.2.2.2.2.1
                                                  d_3.2.2.2.2.2.2.2.2.2.2.2.2.2.1 d_3.2.2.2.2.2.2.2.2.2.2.2.2.2.2.1
                                                  d_3.2.2.2.2.2.2.2.2.2.2.2.2.2.2.2.1 d_3.2.2.2.2.2.2.2.2.2.2.2.2.2.2.2.2.1
                                                  d_3.2.2.2.2.2.2.2.2.2.2.2.2.2.2.2.2.2.1
                                                  d_3.2.2.2.2.2.2.2.2.2.2.2.2.2.2.2.2.2.2.1
                                                  d_3.2.2.2.2.2.2.2.2.2.2.2.2.2.2.2.2.2.2.2.1
                                                  d_3.2.2.2.2.2.2.2.2.2.2.2.2.2.2.2.2.2.2.2.2)
                                                fun (d_4 : Int × Int × Int × Int × Int × Int × Int × Int × Bool × Int × Int × Int × Int × Int × Int × Int × Int × Int × Int × Bool × Bool) =>
                                                bif !d_3.2.2.2.2.2.2.2.2.1 then
                                                  bif d.2.2.2.2.2.2.2.2.1 == d_4.2.2.2.2.2.2.2.2.1 then
                                                    bif
                                                        d.1 == d_4.1 &&
                                                          (d.2.1 == d_4.2.1 &&
                                                            (d.2.2.1 == d_4.2.2.1 &&
                                                                (d.2.2.2.1 == d_4.2.2.2.1 && (d.2.2.2.2.1 == d_4.2.2.2.2.1 && true)) &&
                                                              (d.2.2.2.2.2.1 == d_4.2.2.2.2.2.1 &&
                                                                  (d.2.2.2.2.2.2.1 == d_4.2.2.2.2.2.2.1 &&
                                                                    (d.2.2.2.2.2.2.2.1 == d_4.2.2.2.2.2.2.2.1 && true)) &&
                                                                true))) then
                                                      Option.bind
                                                        (g___downs_Sampler__Pending d.2.2.2.2.2.2.2.2.2.2.1 d.2.2.2.2.2.2.2.2.2.2.2.1
                                                          d.2.2.2.2.2.2.2.2.2.2.2.2.1 d.2.2.2.2.2.2.2.2.2.2.2.2.2.1
                                                          d.2.2.2.2.2.2.2.2.2.2.2.2.2.2.1 d.2.2.2.2.2.2.2.2.2.2.2.2.2.2.2.1
                                                          d.2.2.2.2.2.2.2.2.2.2.2.2.2.2.2.2.1 d.2.2.2.2.2.2.2.2.2.2.2.2.2.2.2.2.2.1
                                                          d.2.2.2.2.2.2.2.2.2.2.2.2.2.2.2.2.2.2.1
                                                          d.2.2.2.2.2.2.2.2.2.2.2.2.2.2.2.2.2.2.2.1)
                                                        fun (d : Int) =>
                                                        Option.bind
                                                          (g___downs_Sampler__Pending d_4.2.2.2.2.2.2.2.2.2.2.1 d_4.2.2.2.2.2.2.2.2.2.2.2.1
                                                            d_4.2.2.2.2.2.2.2.2.2.2.2.2.1 d_4.2.2.2.2.2.2.2.2.2.2.2.2.2.1
                                                            d_4.2.2.2.2.2.2.2.2.2.2.2.2.2.2.1 d_4.2.2.2.2.2.2.2.2.2.2.2.2.2.2.2.1
                                                            d_4.2.2.2.2.2.2.2.2.2.2.2.2.2.2.2.2.1
                                                            d_4.2.2.2.2.2.2.2.2.2.2.2.2.2.2.2.2.2.1
                                                            d_4.2.2.2.2.2.2.2.2.2.2.2.2.2.2.2.2.2.2.1
                                                            d_4.2.2.2.2.2.2.2.2.2.2.2.2.2.2.2.2.2.2.2.1)
                                                          fun (d_5 : Int) => k (d == d_5)
                                                    else k false
                                                  else k false
                                                else k false
def f_astrolabelaw14_DownsSplits (x0 : Int) (x1 : Int) (x2 : Int) (x3 : Int) (x4 : Int) (x5 : Int) (x6 : Int) (x7 : Int) (x8 : Int) (x9 : Int) (x10 : Int) (x11 : Int) (x12 : Int) : Option (Bool) := K_astrolabelaw14_DownsSplits f_astrolabelaw14_awake f_downs_Good f_downs_New f___downs_Sampler__Put f___downs_Sampler__Pending  x0 x1 x2 x3 x4 x5 x6 x7 x8 x9 x10 x11 x12 some
section
open Go.Ab.Rdr
def QA_astrolabelaw14_DownsSplits := ((pair (cons (ar (rc (cf (fi .i64 hole)))) (cons (ar (ra (cons (gc (cf (fi .i64 hole))) (cons (gc (cf (fi .i64 hole))) (cons (gc (cf (fi .i64 hole))) (cons (gc (cf (fi .i64 hole))) (cons (gc (cf (fi .i64 hole))) (cons (gc (cf (fi .i64 hole))) (cons (gc (cf (fi .i64 hole))) (cons (gc (cf (fi .i64 hole))) nil)))))))))) (cons (ar (rc (cf (fi .i64 hole)))) (cons (ar (ra (cons (gc (cf (fi .i64 hole))) (cons (gc (cf (fi .i64 hole))) (cons (gc (cf (fi .i64 hole))) nil))))) nil)))) nil) : Rdr (List AV × List Blk) _)
end
def F_astrolabelaw14_DownsSplits (f : (Int) → (Int) → (Int) → (Int) → (Int) → (Int) → (Int) → (Int) → (Int) → (Int) → (Int) → (Int) → (Int) → Option (Bool)) : Sem1 := fun args h => match (QA_astrolabelaw14_DownsSplits).rd (args, h) with
  | some b => .opt (f b.1.1 b.1.2.1.1 b.1.2.1.2.1 b.1.2.1.2.2.1 b.1.2.1.2.2.2.1 b.1.2.1.2.2.2.2.1 b.1.2.1.2.2.2.2.2.1 b.1.2.1.2.2.2.2.2.2.1 b.1.2.1.2.2.2.2.2.2.2.1 b.1.2.2.1 b.1.2.2.2.1.1 b.1.2.2.2.1.2.1 b.1.2.2.2.1.2.2.1) fun (d : Bool) => .leaf (Res.mk (AV.r (RV.c (CV.f (FV.b d)))) [] [])
  | none => .fail
theorem d_astrolabelaw14_DownsSplits (g_astrolabelaw14_awake : Option Bool) (g_downs_Good : Int → Int → Int → Int → Int → Int → Int → Int → Option Bool) (g_downs_New : Int → Option (Unit ⊕ Int)) (g___downs_Sampler__Put : Int →
  Int →
    Int →
      Int →
        Int →
          Int →
            Int →
              Int →
                Int →
                  Int →
                    Int →
                      Int →
                        Int →
                          Int → Int → Int → Int → Bool → Bool → Option (Int × Int × Int × Int × Int × Int × Int × Int × Bool × Int × Int × Int × Int × Int × Int × Int × Int × Int × Int × Bool × Bool)) (g___downs_Sampler__Pending : Int → Int → Int → Int → Int → Int → Int → Int → Int → Bool → Option Int)  (x0 : Int) (x1 : Int) (x2 : Int) (x3 : Int) (x4 : Int) (x5 : Int) (x6 : Int) (x7 : Int) (x8 : Int) (x9 : Int) (x10 : Int) (x11 : Int) (x12 : Int) : den Try.prog (envOf [(30, F_astrolabelaw14_awake g_astrolabelaw14_awake), (34, F_downs_Good g_downs_Good), (31, F_downs_New g_downs_New), (32, F___downs_Sampler__Put g___downs_Sampler__Put), (35, F___downs_Sampler__Pending g___downs_Sampler__Pending)]) ⟨[⟨11, [1, 4, 6, 8, 12, 13, 14, 15, 16, 17, 18, 19, 20, 21, 22, 23, 24, 25, 26, 27, 28, 29, 30, 31, 32, 33, 34, 35, 36, 37, 38, 39, 40, 41, 42, 43, 44, 45, 46, 47, 48, 49, 50, 51, 52, 53, 54, 55, 56, 57, 58, 59, 60, 61, 62, 63, 64, 65, 66, 67, 68, 69, 70, 71, 72, 73, 74, 75, 76, 77, 78, 79, 80, 81, 82, 83, 84, 85, 86, 87, 88, 89, 90, 91, 92, 93, 94, 95, 96, 97, 98, 99, 100, 101, 102, 103, 104, 105, 106, 107, 108, 109, 110, 111, 112, 113, 114, 115, 116, 117, 118, 119, 120, 121, 125, 126, 127, 128, 129, 130, 131, 132, 133, 134, 135, 136, 137, 138, 139, 140, 143, 144, 145, 146, 147, 148, 149, 150, 151, 152, 153, 154, 155, 156, 157, 158, 159, 160, 161, 162, 163, 164, 165, 166, 167, 168, 169, 170, 174, 175, 179, 180, 186], []⟩], [], [], [], (some ⟨0, [0, 1, 2, 3, 4, 5, 6, 7, 9, 10, 11, 12, 13, 14, 15, 16, 17, 18, 19, 20, 21, 22, 23, 24, 25, 26, 27, 28, 29, 30, 31, 32, 33, 34, 35, 36, 37, 38, 39, 40, 41, 42, 43, 44, 45, 46, 47, 48, 49, 50, 51, 52, 53, 54, 55, 56, 57, 58, 59, 60, 61, 62, 63, 64, 65, 66, 67, 68, 69, 70, 71, 72, 73, 74, 75, 76, 77, 78, 79, 80, 81, 82, 83, 84, 85, 86, 87, 88, 89, 90, 91, 92, 93, 94, 95, 96, 97, 98, 99, 100, 101, 102, 103, 104, 105, 106, 107, 108, 109, 110, 111, 112, 113, 114, 115, 116, 117, 118, 119, 120, 121, 122, 123, 124, 125, 126, 127, 128, 129, 130, 131, 132, 133, 134, 135, 136, 137, 138, 139, 140, 141, 142, 143, 144, 145, 146, 147, 148, 149, 150, 151, 152, 153, 154, 155, 156, 157, 158, 159, 160, 161, 162, 163, 164, 165, 166, 167, 168, 169, 170, 171, 172, 173, 174, 175, 176, 177, 178, 179, 180, 181, 182, 183, 184, 185, 186], []⟩)⟩ 200 10 [.r (.c (.f (.i .i64 x0))), .r (.agg [.c (.f (.i .i64 x1)), .c (.f (.i .i64 x2)), .c (.f (.i .i64 x3)), .c (.f (.i .i64 x4)), .c (.f (.i .i64 x5)), .c (.f (.i .i64 x6)), .c (.f (.i .i64 x7)), .c (.f (.i .i64 x8))]), .r (.c (.f (.i .i64 x9))), .r (.agg [.c (.f (.i .i64 x10)), .c (.f (.i .i64 x11)), .c (.f (.i .i64 x12))])] [] =
    K_astrolabelaw14_DownsSplits g_astrolabelaw14_awake g_downs_Good g_downs_New g___downs_Sampler__Put g___downs_Sampler__Pending  x0 x1 x2 x3 x4 x5 x6 x7 x8 x9 x10 x11 x12 (fun (d : Bool) => some (Res.mk (AV.r (RV.c (CV.f (FV.b d)))) [] [])) := by kernel_rfl
theorem m_astrolabelaw14_DownsSplits {ρ σ : Type} (q : ρ → Option σ) (g_astrolabelaw14_awake : Option Bool) (g_downs_Good : Int → Int → Int → Int → Int → Int → Int → Int → Option Bool) (g_downs_New : Int → Option (Unit ⊕ Int)) (g___downs_Sampler__Put : Int →
  Int →
    Int →
      Int →
        Int →
          Int →
            Int →
              Int →
                Int →
                  Int →
                    Int →
                      Int →
                        Int →
                          Int → Int → Int → Int → Bool → Bool → Option (Int × Int × Int × Int × Int × Int × Int × Int × Bool × Int × Int × Int × Int × Int × Int × Int × Int × Int × Int × Bool × Bool)) (g___downs_Sampler__Pending : Int → Int → Int → Int → Int → Int → Int → Int → Int → Bool → Option Int)   (x0 : Int) (x1 : Int) (x2 : Int) (x3 : Int) (x4 : Int) (x5 : Int) (x6 : Int) (x7 : Int) (x8 : Int) (x9 : Int) (x10 : Int) (x11 : Int) (x12 : Int) (k : (Bool) → Option ρ) : (K_astrolabelaw14_DownsSplits g_astrolabelaw14_awake g_downs_Good g_downs_New g___downs_Sampler__Put g___downs_Sampler__Pending  x0 x1 x2 x3 x4 x5 x6 x7 x8 x9 x10 x11 x12 k).bind q = K_astrolabelaw14_DownsSplits g_astrolabelaw14_awake g_downs_Good g_downs_New g___downs_Sampler__Put g___downs_Sampler__Pending  x0 x1 x2 x3 x4 x5 x6 x7 x8 x9 x10 x11 x12 (fun d => (k d).bind q) := by
  simp only [K_astrolabelaw14_DownsSplits, bnd_cond, bnd_bind, bnd_none, bnd_sum]
theorem qa_astrolabelaw14_DownsSplits : ∀ b, (QA_astrolabelaw14_DownsSplits).em b = ([.r (.c (.f (.i .i64 b.1.1))), .r (.agg [.c (.f (.i .i64 b.1.2.1.1)), .c (.f (.i .i64 b.1.2.1.2.1)), .c (.f (.i .i64 b.1.2.1.2.2.1)), .c (.f (.i .i64 b.1.2.1.2.2.2.1)), .c (.f (.i .i64 b.1.2.1.2.2.2.2.1)), .c (.f (.i .i64 b.1.2.1.2.2.2.2.2.1)), .c (.f (.i .i64 b.1.2.1.2.2.2.2.2.2.1)), .c (.f (.i .i64 b.1.2.1.2.2.2.2.2.2.2.1))]), .r (.c (.f (.i .i64 b.1.2.2.1))), .r (.agg [.c (.f (.i .i64 b.1.2.2.2.1.1)), .c (.f (.i .i64 b.1.2.2.2.1.2.1)), .c (.f (.i .i64 b.1.2.2.2.1.2.2.1))])], []) := fun b => by kernel_rfl
theorem e_astrolabelaw14_DownsSplits {f : (Int) → (Int) → (Int) → (Int) → (Int) → (Int) → (Int) → (Int) → (Int) → (Int) → (Int) → (Int) → (Int) → Option (Bool)} {args : List AV} {h : List Blk} {r : Res} (hr : (F_astrolabelaw14_DownsSplits f args h).eval = some r) : ∃ x0 x1 x2 x3 x4 x5 x6 x7 x8 x9 x10 x11 x12, args = [.r (.c (.f (.i .i64 x0))), .r (.agg [.c (.f (.i .i64 x1)), .c (.f (.i .i64 x2)), .c (.f (.i .i64 x3)), .c (.f (.i .i64 x4)), .c (.f (.i .i64 x5)), .c (.f (.i .i64 x6)), .c (.f (.i .i64 x7)), .c (.f (.i .i64 x8))]), .r (.c (.f (.i .i64 x9))), .r (.agg [.c (.f (.i .i64 x10)), .c (.f (.i .i64 x11)), .c (.f (.i .i64 x12))])] ∧ h = [] ∧ (f x0 x1 x2 x3 x4 x5 x6 x7 x8 x9 x10 x11 x12).bind (fun (d : Bool) => some (Res.mk (AV.r (RV.c (CV.f (FV.b d)))) [] [])) = some r := by
  unfold F_astrolabelaw14_DownsSplits at hr
  split at hr
  · rename_i b hb
    have e := ((QA_astrolabelaw14_DownsSplits).ok _ _ hb).trans (qa_astrolabelaw14_DownsSplits b)
    rw [opt_eval2] at hr
    exact ⟨b.1.1, b.1.2.1.1, b.1.2.1.2.1, b.1.2.1.2.2.1, b.1.2.1.2.2.2.1, b.1.2.1.2.2.2.2.1, b.1.2.1.2.2.2.2.2.1, b.1.2.1.2.2.2.2.2.2.1, b.1.2.1.2.2.2.2.2.2.2.1, b.1.2.2.1, b.1.2.2.2.1.1, b.1.2.2.2.1.2.1, b.1.2.2.2.1.2.2.1, (Prod.mk.inj e).1, (Prod.mk.inj e).2, hr⟩
  · cases hr
theorem n_astrolabelaw14_DownsSplits {σ : Type} (q : (Bool) → Option σ) (x0 : Int) (x1 : Int) (x2 : Int) (x3 : Int) (x4 : Int) (x5 : Int) (x6 : Int) (x7 : Int) (x8 : Int) (x9 : Int) (x10 : Int) (x11 : Int) (x12 : Int) : (f_astrolabelaw14_DownsSplits x0 x1 x2 x3 x4 x5 x6 x7 x8 x9 x10 x11 x12).bind q = K_astrolabelaw14_DownsSplits f_astrolabelaw14_awake f_downs_Good f_downs_New f___downs_Sampler__Put f___downs_Sampler__Pending  x0 x1 x2 x3 x4 x5 x6 x7 x8 x9 x10 x11 x12 q := by
  unfold f_astrolabelaw14_DownsSplits
  exact m_astrolabelaw14_DownsSplits q f_astrolabelaw14_awake f_downs_Good f_downs_New f___downs_Sampler__Put f___downs_Sampler__Pending   x0 x1 x2 x3 x4 x5 x6 x7 x8 x9 x10 x11 x12 some
theorem s_astrolabelaw14_DownsSplits : Sound Try.prog 10 (F_astrolabelaw14_DownsSplits f_astrolabelaw14_DownsSplits) :=
  (inl_sums (l := [(30, F_astrolabelaw14_awake f_astrolabelaw14_awake), (34, F_downs_Good f_downs_Good), (31, F_downs_New f_downs_New), (32, F___downs_Sampler__Put f___downs_Sampler__Put), (35, F___downs_Sampler__Pending f___downs_Sampler__Pending)]) (.cons s_astrolabelaw14_awake (.cons s_downs_Good (.cons s_downs_New (.cons s___downs_Sampler__Put (.cons s___downs_Sampler__Pending (.nil _)))))) mixed (hs := ⟨[⟨11, [1, 4, 6, 8, 12, 13, 14, 15, 16, 17, 18, 19, 20, 21, 22, 23, 24, 25, 26, 27, 28, 29, 30, 31, 32, 33, 34, 35, 36, 37, 38, 39, 40, 41, 42, 43, 44, 45, 46, 47, 48, 49, 50, 51, 52, 53, 54, 55, 56, 57, 58, 59, 60, 61, 62, 63, 64, 65, 66, 67, 68, 69, 70, 71, 72, 73, 74, 75, 76, 77, 78, 79, 80, 81, 82, 83, 84, 85, 86, 87, 88, 89, 90, 91, 92, 93, 94, 95, 96, 97, 98, 99, 100, 101, 102, 103, 104, 105, 106, 107, 108, 109, 110, 111, 112, 113, 114, 115, 116, 117, 118, 119, 120, 121, 125, 126, 127, 128, 129, 130, 131, 132, 133, 134, 135, 136, 137, 138, 139, 140, 143, 144, 145, 146, 147, 148, 149, 150, 151, 152, 153, 154, 155, 156, 157, 158, 159, 160, 161, 162, 163, 164, 165, 166, 167, 168, 169, 170, 174, 175, 179, 180, 186], []⟩], [], [], [], (some ⟨0, [0, 1, 2, 3, 4, 5, 6, 7, 9, 10, 11, 12, 13, 14, 15, 16, 17, 18, 19, 20, 21, 22, 23, 24, 25, 26, 27, 28, 29, 30, 31, 32, 33, 34, 35, 36, 37, 38, 39, 40, 41, 42, 43, 44, 45, 46, 47, 48, 49, 50, 51, 52, 53, 54, 55, 56, 57, 58, 59, 60, 61, 62, 63, 64, 65, 66, 67, 68, 69, 70, 71, 72, 73, 74, 75, 76, 77, 78, 79, 80, 81, 82, 83, 84, 85, 86, 87, 88, 89, 90, 91, 92, 93, 94, 95, 96, 97, 98, 99, 100, 101, 102, 103, 104, 105, 106, 107, 108, 109, 110, 111, 112, 113, 114, 115, 116, 117, 118, 119, 120, 121, 122, 123, 124, 125, 126, 127, 128, 129, 130, 131, 132, 133, 134, 135, 136, 137, 138, 139, 140, 141, 142, 143, 144, 145, 146, 147, 148, 149, 150, 151, 152, 153, 154, 155, 156, 157, 158, 159, 160, 161, 162, 163, 164, 165, 166, 167, 168, 169, 170, 171, 172, 173, 174, 175, 176, 177, 178, 179, 180, 181, 182, 183, 184, 185, 186], []⟩)⟩) (lf := 200) (Sums.by (l := [loopIn Try.prog 10 11]) (lj := []) (by kernel_rfl) ⟨SumOK.no (by kernel_rfl), trivial⟩ (by kernel_rfl) trivial) (by kernel_rfl)).by (F := F_astrolabelaw14_DownsSplits f_astrolabelaw14_DownsSplits) fun args b r hr => by
  obtain ⟨x0, x1, x2, x3, x4, x5, x6, x7, x8, x9, x10, x11, x12, rfl, rfl, hr1⟩ := e_astrolabelaw14_DownsSplits hr
  exact inl_eval ((d_astrolabelaw14_DownsSplits f_astrolabelaw14_awake f_downs_Good f_downs_New f___downs_Sampler__Put f___downs_Sampler__Pending  x0 x1 x2 x3 x4 x5 x6 x7 x8 x9 x10 x11 x12).trans ((n_astrolabelaw14_DownsSplits (fun (d : Bool) => some (Res.mk (AV.r (RV.c (CV.f (FV.b d)))) [] [])) x0 x1 x2 x3 x4 x5 x6 x7 x8 x9 x10 x11 x12).symm.trans hr1))

end Go.Proofs.Ytmlmpcabphgfaaa
