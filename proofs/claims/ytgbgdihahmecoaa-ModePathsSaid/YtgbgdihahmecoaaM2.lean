/-
  Contracts by plain functions: astrolabelaw25.awake, astrolabelaw25.ModeStays, astrolabelaw25.ModeSilent
-/
import Derived.Test.YtgbgdihahmecoaaM3
set_option maxRecDepth 100000
set_option maxHeartbeats 4000000
set_option linter.unusedVariables false
namespace Go.Proofs.Ytgbgdihahmecoaa
open Go.Ab
def K_astrolabelaw25_awake {ρ : Type} (g_mode_Step : Int → Int → Bool → Bool → Bool → Bool → Bool → Bool → Bool → Bool → Bool → Bool → Int → Int → Int → Option (Int × Int × Bool × Bool × Int × Int)) (g_mode_Path : Int →
  Int →
    Bool →
      Bool →
        Nat →
          (Nat → Bool) →
            (Nat → Bool) →
              (Nat → Bool) →
                (Nat → Bool) →
                  (Nat → Bool) →
                    (Nat → Bool) → (Nat → Bool) → (Nat → Bool) → (Nat → Int) → (Nat → Int) → (Nat → Int) → Bool → Option (Nat × Nat × (Nat → Int) × (Nat → Int) × (Nat → Bool) × (Nat → Bool))) (g__mode_Event__Changed : Int → Int → Bool → Bool → Int → Int → Option Bool) (g_mode_Good : Int → Int → Bool → Bool → Option Bool)   (k : (Bool) → Option ρ) : Option ρ :=
  Option.bind (g_mode_Step 0 0 false false true false false false false false false false 0 0 0) fun (d : Int × Int × Bool × Bool × Int × Int) =>
    Option.bind (g_mode_Step d.fst d.snd.fst d.snd.snd.fst d.snd.snd.snd.fst false true false false false false false false 0 0 0) fun (d_1 : Int × Int × Bool × Bool × Int × Int) =>
      Option.bind
        (g_mode_Path 0 0 false false 2 (fun (j : Nat) => bif Nat.beq j 1 then false else bif Nat.beq j 0 then true else true)
          (fun (j : Nat) => bif Nat.beq j 1 then true else bif Nat.beq j 0 then false else false) (fun (j : Nat) => bif Nat.beq j 1 then false else bif Nat.beq j 0 then false else false)
          (fun (j : Nat) => bif Nat.beq j 1 then false else bif Nat.beq j 0 then false else false) (fun (j : Nat) => bif Nat.beq j 1 then false else bif Nat.beq j 0 then false else false)
          (fun (j : Nat) => bif Nat.beq j 1 then false else bif Nat.beq j 0 then false else false) (fun (j : Nat) => bif Nat.beq j 1 then false else bif Nat.beq j 0 then false else false)
          (fun (j : Nat) => bif Nat.beq j 1 then false else bif Nat.beq j 0 then false else false) (fun (j : Nat) => bif Nat.beq j 1 then 0 else bif Nat.beq j 0 then 0 else 0)
          (fun (j : Nat) => bif Nat.beq j 1 then 0 else bif Nat.beq j 0 then 0 else 0) (fun (j : Nat) => bif Nat.beq j 1 then 0 else bif Nat.beq j 0 then 0 else 0) true)
        fun (d_2 : Nat × Nat × (Nat → Int) × (Nat → Int) × (Nat → Bool) × (Nat → Bool)) =>
        bif d.fst == 1 then
          bif d.snd.fst == 0 then
            Option.bind (g__mode_Event__Changed d.fst d.snd.fst d.snd.snd.fst d.snd.snd.snd.fst d.snd.snd.snd.snd.fst d.snd.snd.snd.snd.snd) fun (d_3 : Bool) =>
              bif d_3 then
                bif d.snd.snd.snd.snd.fst == 0 then
                  bif d_1.fst == 2 then
                    bif d_1.snd.fst == 1 then
                      bif d_1.snd.snd.snd.fst then
                        bif d_1.fst == 2 then
                          bif Int.ofNat d_2.fst == 2 then
                            bif inR 1 d_2.fst then
                              bif
                                  d_2.snd.snd.fst 1 == d_1.fst &&
                                    (d_2.snd.snd.snd.fst 1 == d_1.snd.fst && (d_2.snd.snd.snd.snd.fst 1 == d_1.snd.snd.fst && (d_2.snd.snd.snd.snd.snd 1 == d_1.snd.snd.snd.fst && true))) then
                                Option.bind (g_mode_Good d_1.fst d_1.snd.fst d_1.snd.snd.fst d_1.snd.snd.snd.fst) fun (d : Bool) =>
                                  bif d then Option.bind (g_mode_Good 4 0 false false) fun (d : Bool) => k !d else k false
                              else k false
                            else none
                          else k false
                        else k false
                      else k false
                    else k false
                  else k false
                else k false
              else k false
          else k false
        else k false
def f_astrolabelaw25_awake  : Option (Bool) := K_astrolabelaw25_awake f_mode_Step f_mode_Path f__mode_Event__Changed f_mode_Good   some
section
open Go.Ab.Rdr
def QA_astrolabelaw25_awake := ((pair nil nil) : Rdr (List AV × List Blk) _)
end
def F_astrolabelaw25_awake (f : Option (Bool)) : Sem1 := fun args h => match (QA_astrolabelaw25_awake).rd (args, h) with
  | some b => .opt (f ) fun (d : Bool) => .leaf (Res.mk (AV.r (RV.c (CV.f (FV.b d)))) [] [])
  | none => .fail
theorem d_astrolabelaw25_awake (g_mode_Step : Int → Int → Bool → Bool → Bool → Bool → Bool → Bool → Bool → Bool → Bool → Bool → Int → Int → Int → Option (Int × Int × Bool × Bool × Int × Int)) (g_mode_Path : Int →
  Int →
    Bool →
      Bool →
        Nat →
          (Nat → Bool) →
            (Nat → Bool) →
              (Nat → Bool) →
                (Nat → Bool) →
                  (Nat → Bool) →
                    (Nat → Bool) → (Nat → Bool) → (Nat → Bool) → (Nat → Int) → (Nat → Int) → (Nat → Int) → Bool → Option (Nat × Nat × (Nat → Int) × (Nat → Int) × (Nat → Bool) × (Nat → Bool))) (g__mode_Event__Changed : Int → Int → Bool → Bool → Int → Int → Option Bool) (g_mode_Good : Int → Int → Bool → Bool → Option Bool)   : den Try.prog (envOf [(10, F_mode_Step g_mode_Step), (12, F_mode_Path g_mode_Path), (11, F__mode_Event__Changed g__mode_Event__Changed), (13, F_mode_Good g_mode_Good)]) ⟨[], [], [], [], none⟩ 200 9 [] [] =
    K_astrolabelaw25_awake g_mode_Step g_mode_Path g__mode_Event__Changed g_mode_Good   (fun (d : Bool) => some (Res.mk (AV.r (RV.c (CV.f (FV.b d)))) [] [])) := by kernel_rfl
theorem m_astrolabelaw25_awake {ρ σ : Type} (q : ρ → Option σ) (g_mode_Step : Int → Int → Bool → Bool → Bool → Bool → Bool → Bool → Bool → Bool → Bool → Bool → Int → Int → Int → Option (Int × Int × Bool × Bool × Int × Int)) (g_mode_Path : Int →
  Int →
    Bool →
      Bool →
        Nat →
          (Nat → Bool) →
            (Nat → Bool) →
              (Nat → Bool) →
                (Nat → Bool) →
                  (Nat → Bool) →
                    (Nat → Bool) → (Nat → Bool) → (Nat → Bool) → (Nat → Int) → (Nat → Int) → (Nat → Int) → Bool → Option (Nat × Nat × (Nat → Int) × (Nat → Int) × (Nat → Bool) × (Nat → Bool))) (g__mode_Event__Changed : Int → Int → Bool → Bool → Int → Int → Option Bool) (g_mode_Good : Int → Int → Bool → Bool → Option Bool)    (k : (Bool) → Option ρ) : (K_astrolabelaw25_awake g_mode_Step g_mode_Path g__mode_Event__Changed g_mode_Good   k).bind q = K_astrolabelaw25_awake g_mode_Step g_mode_Path g__mode_Event__Changed g_mode_Good   (fun d => (k d).bind q) := by
  simp only [K_astrolabelaw25_awake, bnd_cond, bnd_bind, bnd_none, bnd_sum]
theorem qa_astrolabelaw25_awake : ∀ b, (QA_astrolabelaw25_awake).em b = ([], []) := fun b => by kernel_rfl
theorem e_astrolabelaw25_awake {f : Option (Bool)} {args : List AV} {h : List Blk} {r : Res} (hr : (F_astrolabelaw25_awake f args h).eval = some r) : args = [] ∧ h = [] ∧ (f ).bind (fun (d : Bool) => some (Res.mk (AV.r (RV.c (CV.f (FV.b d)))) [] [])) = some r := by
  unfold F_astrolabelaw25_awake at hr
  split at hr
  · rename_i b hb
    have e := ((QA_astrolabelaw25_awake).ok _ _ hb).trans (qa_astrolabelaw25_awake b)
    rw [opt_eval2] at hr
    exact ⟨(Prod.mk.inj e).1, (Prod.mk.inj e).2, hr⟩
  · cases hr
theorem n_astrolabelaw25_awake {σ : Type} (q : (Bool) → Option σ)  : (f_astrolabelaw25_awake ).bind q = K_astrolabelaw25_awake f_mode_Step f_mode_Path f__mode_Event__Changed f_mode_Good   q := by
  unfold f_astrolabelaw25_awake
  exact m_astrolabelaw25_awake q f_mode_Step f_mode_Path f__mode_Event__Changed f_mode_Good    some
theorem s_astrolabelaw25_awake : Sound Try.prog 9 (F_astrolabelaw25_awake f_astrolabelaw25_awake) :=
  (inl_sound (l := [(10, F_mode_Step f_mode_Step), (12, F_mode_Path f_mode_Path), (11, F__mode_Event__Changed f__mode_Event__Changed), (13, F_mode_Good f_mode_Good)]) (.cons s_mode_Step (.cons s_mode_Path (.cons s__mode_Event__Changed (.cons s_mode_Good (.nil _))))) mixed [] [] 200 (by kernel_rfl)).by (F := F_astrolabelaw25_awake f_astrolabelaw25_awake) fun args b r hr => by
  obtain ⟨rfl, rfl, hr1⟩ := e_astrolabelaw25_awake hr
  exact inl_eval ((d_astrolabelaw25_awake f_mode_Step f_mode_Path f__mode_Event__Changed f_mode_Good  ).trans ((n_astrolabelaw25_awake (fun (d : Bool) => some (Res.mk (AV.r (RV.c (CV.f (FV.b d)))) [] [])) ).symm.trans hr1))

def K_astrolabelaw25_ModeStays {ρ : Type} (g_astrolabelaw25_awake : Option Bool) (g_mode_Path : Int →
  Int →
    Bool →
      Bool →
        Nat →
          (Nat → Bool) →
            (Nat → Bool) →
              (Nat → Bool) →
                (Nat → Bool) →
                  (Nat → Bool) →
                    (Nat → Bool) → (Nat → Bool) → (Nat → Bool) → (Nat → Int) → (Nat → Int) → (Nat → Int) → Bool → Option (Nat × Nat × (Nat → Int) × (Nat → Int) × (Nat → Bool) × (Nat → Bool)))  (x0 : Int) (x1 : Int) (x2 : Bool) (x3 : Bool) (x4 : Bool) (x5 : Bool) (x6 : Bool) (x7 : Bool) (x8 : Bool) (x9 : Bool) (x10 : Bool) (x11 : Bool) (x12 : Int) (x13 : Int) (x14 : Int) (k : (Bool) → Option ρ) : Option ρ :=
  Option.bind g_astrolabelaw25_awake fun (d : Bool) =>
    bif !d then k false
    else
      Option.bind
        (g_mode_Path x0 x1 x2 x3 5 (fun (j : Nat) => bif Nat.beq j 4 then x4 else bif Nat.beq j 3 then x4 else bif Nat.beq j 2 then x4 else bif Nat.beq j 1 then x4 else bif Nat.beq j 0 then x4 else x4)
          (fun (j : Nat) => bif Nat.beq j 4 then x5 else bif Nat.beq j 3 then x5 else bif Nat.beq j 2 then x5 else bif Nat.beq j 1 then x5 else bif Nat.beq j 0 then x5 else x5)
          (fun (j : Nat) => bif Nat.beq j 4 then x6 else bif Nat.beq j 3 then x6 else bif Nat.beq j 2 then x6 else bif Nat.beq j 1 then x6 else bif Nat.beq j 0 then x6 else x6)
          (fun (j : Nat) => bif Nat.beq j 4 then x7 else bif Nat.beq j 3 then x7 else bif Nat.beq j 2 then x7 else bif Nat.beq j 1 then x7 else bif Nat.beq j 0 then x7 else x7)
          (fun (j : Nat) => bif Nat.beq j 4 then x8 else bif Nat.beq j 3 then x8 else bif Nat.beq j 2 then x8 else bif Nat.beq j 1 then x8 else bif Nat.beq j 0 then x8 else x8)
          (fun (j : Nat) => bif Nat.beq j 4 then x9 else bif Nat.beq j 3 then x9 else bif Nat.beq j 2 then x9 else bif Nat.beq j 1 then x9 else bif Nat.beq j 0 then x9 else x9)
          (fun (j : Nat) => bif Nat.beq j 4 then x10 else bif Nat.beq j 3 then x10 else bif Nat.beq j 2 then x10 else bif Nat.beq j 1 then x10 else bif Nat.beq j 0 then x10 else x10)
          (fun (j : Nat) => bif Nat.beq j 4 then x11 else bif Nat.beq j 3 then x11 else bif Nat.beq j 2 then x11 else bif Nat.beq j 1 then x11 else bif Nat.beq j 0 then x11 else x11)
          (fun (j : Nat) => bif Nat.beq j 4 then x12 else bif Nat.beq j 3 then x12 else bif Nat.beq j 2 then x12 else bif Nat.beq j 1 then x12 else bif Nat.beq j 0 then x12 else x12)
          (fun (j : Nat) => bif Nat.beq j 4 then x13 else bif Nat.beq j 3 then x13 else bif Nat.beq j 2 then x13 else bif Nat.beq j 1 then x13 else bif Nat.beq j 0 then x13 else x13)
          (fun (j : Nat) => bif Nat.beq j 4 then x14 else bif Nat.beq j 3 then x14 else bif Nat.beq j 2 then x14 else bif Nat.beq j 1 then x14 else bif Nat.beq j 0 then x14 else x14) true)
        fun (d : Nat × Nat × (Nat → Int) × (Nat → Int) × (Nat → Bool) × (Nat → Bool)) =>
        bif Int.ofNat d.fst != 5 then k false
        else
          bif inR 3 d.fst then
            bif inR 2 d.fst then
              bif
                  d.snd.snd.fst 3 == d.snd.snd.fst 2 &&
                    (d.snd.snd.snd.fst 3 == d.snd.snd.snd.fst 2 && (d.snd.snd.snd.snd.fst 3 == d.snd.snd.snd.snd.fst 2 && (d.snd.snd.snd.snd.snd 3 == d.snd.snd.snd.snd.snd 2 && true))) then
                bif inR 4 d.fst then
                  bif inR 2 d.fst then
                    k
                      (d.snd.snd.fst 4 == d.snd.snd.fst 2 &&
                        (d.snd.snd.snd.fst 4 == d.snd.snd.snd.fst 2 && (d.snd.snd.snd.snd.fst 4 == d.snd.snd.snd.snd.fst 2 && (d.snd.snd.snd.snd.snd 4 == d.snd.snd.snd.snd.snd 2 && true))))
                  else none
                else none
              else k false
            else none
          else none
def f_astrolabelaw25_ModeStays (x0 : Int) (x1 : Int) (x2 : Bool) (x3 : Bool) (x4 : Bool) (x5 : Bool) (x6 : Bool) (x7 : Bool) (x8 : Bool) (x9 : Bool) (x10 : Bool) (x11 : Bool) (x12 : Int) (x13 : Int) (x14 : Int) : Option (Bool) := K_astrolabelaw25_ModeStays f_astrolabelaw25_awake f_mode_Path  x0 x1 x2 x3 x4 x5 x6 x7 x8 x9 x10 x11 x12 x13 x14 some
section
open Go.Ab.Rdr
def QA_astrolabelaw25_ModeStays := ((pair (cons (ar (ra (cons (gc (cf (fi .i64 hole))) (cons (gc (cf (fi .i64 hole))) (cons (gc (cf (fb hole))) (cons (gc (cf (fb hole))) nil)))))) (cons (ar (ra (cons (gc (cf (fb hole))) (cons (gc (cf (fb hole))) (cons (gc (cf (fb hole))) (cons (gc (cf (fb hole))) (cons (gc (cf (fb hole))) (cons (gc (cf (fb hole))) (cons (gc (cf (fb hole))) (cons (gc (cf (fb hole))) (cons (gc (cf (fi .i64 hole))) (cons (gc (cf (fi .i64 hole))) (cons (gc (cf (fi .i64 hole))) nil))))))))))))) nil)) nil) : Rdr (List AV × List Blk) _)
end
def F_astrolabelaw25_ModeStays (f : (Int) → (Int) → (Bool) → (Bool) → (Bool) → (Bool) → (Bool) → (Bool) → (Bool) → (Bool) → (Bool) → (Bool) → (Int) → (Int) → (Int) → Option (Bool)) : Sem1 := fun args h => match (QA_astrolabelaw25_ModeStays).rd (args, h) with
  | some b => .opt (f b.1.1.1 b.1.1.2.1 b.1.1.2.2.1 b.1.1.2.2.2.1 b.1.2.1.1 b.1.2.1.2.1 b.1.2.1.2.2.1 b.1.2.1.2.2.2.1 b.1.2.1.2.2.2.2.1 b.1.2.1.2.2.2.2.2.1 b.1.2.1.2.2.2.2.2.2.1 b.1.2.1.2.2.2.2.2.2.2.1 b.1.2.1.2.2.2.2.2.2.2.2.1 b.1.2.1.2.2.2.2.2.2.2.2.2.1 b.1.2.1.2.2.2.2.2.2.2.2.2.2.1) fun (d : Bool) => .leaf (Res.mk (AV.r (RV.c (CV.f (FV.b d)))) [] [])
  | none => .fail
theorem d_astrolabelaw25_ModeStays (g_astrolabelaw25_awake : Option Bool) (g_mode_Path : Int →
  Int →
    Bool →
      Bool →
        Nat →
          (Nat → Bool) →
            (Nat → Bool) →
              (Nat → Bool) →
                (Nat → Bool) →
                  (Nat → Bool) →
                    (Nat → Bool) → (Nat → Bool) → (Nat → Bool) → (Nat → Int) → (Nat → Int) → (Nat → Int) → Bool → Option (Nat × Nat × (Nat → Int) × (Nat → Int) × (Nat → Bool) × (Nat → Bool)))  (x0 : Int) (x1 : Int) (x2 : Bool) (x3 : Bool) (x4 : Bool) (x5 : Bool) (x6 : Bool) (x7 : Bool) (x8 : Bool) (x9 : Bool) (x10 : Bool) (x11 : Bool) (x12 : Int) (x13 : Int) (x14 : Int) : den Try.prog (envOf [(9, F_astrolabelaw25_awake g_astrolabelaw25_awake), (12, F_mode_Path g_mode_Path)]) ⟨[], [], [], [], none⟩ 200 8 [.r (.agg [.c (.f (.i .i64 x0)), .c (.f (.i .i64 x1)), .c (.f (.b x2)), .c (.f (.b x3))]), .r (.agg [.c (.f (.b x4)), .c (.f (.b x5)), .c (.f (.b x6)), .c (.f (.b x7)), .c (.f (.b x8)), .c (.f (.b x9)), .c (.f (.b x10)), .c (.f (.b x11)), .c (.f (.i .i64 x12)), .c (.f (.i .i64 x13)), .c (.f (.i .i64 x14))])] [] =
    K_astrolabelaw25_ModeStays g_astrolabelaw25_awake g_mode_Path  x0 x1 x2 x3 x4 x5 x6 x7 x8 x9 x10 x11 x12 x13 x14 (fun (d : Bool) => some (Res.mk (AV.r (RV.c (CV.f (FV.b d)))) [] [])) := by kernel_rfl
theorem m_astrolabelaw25_ModeStays {ρ σ : Type} (q : ρ → Option σ) (g_astrolabelaw25_awake : Option Bool) (g_mode_Path : Int →
  Int →
    Bool →
      Bool →
        Nat →
          (Nat → Bool) →
            (Nat → Bool) →
              (Nat → Bool) →
                (Nat → Bool) →
                  (Nat → Bool) →
                    (Nat → Bool) → (Nat → Bool) → (Nat → Bool) → (Nat → Int) → (Nat → Int) → (Nat → Int) → Bool → Option (Nat × Nat × (Nat → Int) × (Nat → Int) × (Nat → Bool) × (Nat → Bool)))   (x0 : Int) (x1 : Int) (x2 : Bool) (x3 : Bool) (x4 : Bool) (x5 : Bool) (x6 : Bool) (x7 : Bool) (x8 : Bool) (x9 : Bool) (x10 : Bool) (x11 : Bool) (x12 : Int) (x13 : Int) (x14 : Int) (k : (Bool) → Option ρ) : (K_astrolabelaw25_ModeStays g_astrolabelaw25_awake g_mode_Path  x0 x1 x2 x3 x4 x5 x6 x7 x8 x9 x10 x11 x12 x13 x14 k).bind q = K_astrolabelaw25_ModeStays g_astrolabelaw25_awake g_mode_Path  x0 x1 x2 x3 x4 x5 x6 x7 x8 x9 x10 x11 x12 x13 x14 (fun d => (k d).bind q) := by
  simp only [K_astrolabelaw25_ModeStays, bnd_cond, bnd_bind, bnd_none, bnd_sum]
theorem qa_astrolabelaw25_ModeStays : ∀ b, (QA_astrolabelaw25_ModeStays).em b = ([.r (.agg [.c (.f (.i .i64 b.1.1.1)), .c (.f (.i .i64 b.1.1.2.1)), .c (.f (.b b.1.1.2.2.1)), .c (.f (.b b.1.1.2.2.2.1))]), .r (.agg [.c (.f (.b b.1.2.1.1)), .c (.f (.b b.1.2.1.2.1)), .c (.f (.b b.1.2.1.2.2.1)), .c (.f (.b b.1.2.1.2.2.2.1)), .c (.f (.b b.1.2.1.2.2.2.2.1)), .c (.f (.b b.1.2.1.2.2.2.2.2.1)), .c (.f (.b b.1.2.1.2.2.2.2.2.2.1)), .c (.f (.b b.1.2.1.2.2.2.2.2.2.2.1)), .c (.f (.i .i64 b.1.2.1.2.2.2.2.2.2.2.2.1)), .c (.f (.i .i64 b.1.2.1.2.2.2.2.2.2.2.2.2.1)), .c (.f (.i .i64 b.1.2.1.2.2.2.2.2.2.2.2.2.2.1))])], []) := fun b => by kernel_rfl
theorem e_astrolabelaw25_ModeStays {f : (Int) → (Int) → (Bool) → (Bool) → (Bool) → (Bool) → (Bool) → (Bool) → (Bool) → (Bool) → (Bool) → (Bool) → (Int) → (Int) → (Int) → Option (Bool)} {args : List AV} {h : List Blk} {r : Res} (hr : (F_astrolabelaw25_ModeStays f args h).eval = some r) : ∃ x0 x1 x2 x3 x4 x5 x6 x7 x8 x9 x10 x11 x12 x13 x14, args = [.r (.agg [.c (.f (.i .i64 x0)), .c (.f (.i .i64 x1)), .c (.f (.b x2)), .c (.f (.b x3))]), .r (.agg [.c (.f (.b x4)), .c (.f (.b x5)), .c (.f (.b x6)), .c (.f (.b x7)), .c (.f (.b x8)), .c (.f (.b x9)), .c (.f (.b x10)), .c (.f (.b x11)), .c (.f (.i .i64 x12)), .c (.f (.i .i64 x13)), .c (.f (.i .i64 x14))])] ∧ h = [] ∧ (f x0 x1 x2 x3 x4 x5 x6 x7 x8 x9 x10 x11 x12 x13 x14).bind (fun (d : Bool) => some (Res.mk (AV.r (RV.c (CV.f (FV.b d)))) [] [])) = some r := by
  unfold F_astrolabelaw25_ModeStays at hr
  split at hr
  · rename_i b hb
    have e := ((QA_astrolabelaw25_ModeStays).ok _ _ hb).trans (qa_astrolabelaw25_ModeStays b)
    rw [opt_eval2] at hr
    exact ⟨b.1.1.1, b.1.1.2.1, b.1.1.2.2.1, b.1.1.2.2.2.1, b.1.2.1.1, b.1.2.1.2.1, b.1.2.1.2.2.1, b.1.2.1.2.2.2.1, b.1.2.1.2.2.2.2.1, b.1.2.1.2.2.2.2.2.1, b.1.2.1.2.2.2.2.2.2.1, b.1.2.1.2.2.2.2.2.2.2.1, b.1.2.1.2.2.2.2.2.2.2.2.1, b.1.2.1.2.2.2.2.2.2.2.2.2.1, b.1.2.1.2.2.2.2.2.2.2.2.2.2.1, (Prod.mk.inj e).1, (Prod.mk.inj e).2, hr⟩
  · cases hr
theorem n_astrolabelaw25_ModeStays {σ : Type} (q : (Bool) → Option σ) (x0 : Int) (x1 : Int) (x2 : Bool) (x3 : Bool) (x4 : Bool) (x5 : Bool) (x6 : Bool) (x7 : Bool) (x8 : Bool) (x9 : Bool) (x10 : Bool) (x11 : Bool) (x12 : Int) (x13 : Int) (x14 : Int) : (f_astrolabelaw25_ModeStays x0 x1 x2 x3 x4 x5 x6 x7 x8 x9 x10 x11 x12 x13 x14).bind q = K_astrolabelaw25_ModeStays f_astrolabelaw25_awake f_mode_Path  x0 x1 x2 x3 x4 x5 x6 x7 x8 x9 x10 x11 x12 x13 x14 q := by
  unfold f_astrolabelaw25_ModeStays
  exact m_astrolabelaw25_ModeStays q f_astrolabelaw25_awake f_mode_Path   x0 x1 x2 x3 x4 x5 x6 x7 x8 x9 x10 x11 x12 x13 x14 some
theorem s_astrolabelaw25_ModeStays : Sound Try.prog 8 (F_astrolabelaw25_ModeStays f_astrolabelaw25_ModeStays) :=
  (inl_sound (l := [(9, F_astrolabelaw25_awake f_astrolabelaw25_awake), (12, F_mode_Path f_mode_Path)]) (.cons s_astrolabelaw25_awake (.cons s_mode_Path (.nil _))) mixed [] [] 200 (by kernel_rfl)).by (F := F_astrolabelaw25_ModeStays f_astrolabelaw25_ModeStays) fun args b r hr => by
  obtain ⟨x0, x1, x2, x3, x4, x5, x6, x7, x8, x9, x10, x11, x12, x13, x14, rfl, rfl, hr1⟩ := e_astrolabelaw25_ModeStays hr
  exact inl_eval ((d_astrolabelaw25_ModeStays f_astrolabelaw25_awake f_mode_Path  x0 x1 x2 x3 x4 x5 x6 x7 x8 x9 x10 x11 x12 x13 x14).trans ((n_astrolabelaw25_ModeStays (fun (d : Bool) => some (Res.mk (AV.r (RV.c (CV.f (FV.b d)))) [] [])) x0 x1 x2 x3 x4 x5 x6 x7 x8 x9 x10 x11 x12 x13 x14).symm.trans hr1))

def K_astrolabelaw25_ModeSilent {ρ : Type} (g_astrolabelaw25_awake : Option Bool) (g_mode_Step : Int → Int → Bool → Bool → Bool → Bool → Bool → Bool → Bool → Bool → Bool → Bool → Int → Int → Int → Option (Int × Int × Bool × Bool × Int × Int))  (x0 : Int) (x1 : Int) (x2 : Bool) (x3 : Bool) (x4 : Bool) (x5 : Bool) (x6 : Bool) (x7 : Bool) (x8 : Bool) (x9 : Bool) (x10 : Bool) (x11 : Bool) (x12 : Int) (x13 : Int) (x14 : Int) (k : (Bool) → Option ρ) : Option ρ :=
  Option.bind g_astrolabelaw25_awake fun (d : Bool) =>
    bif !d then k false
    else
      Option.bind (g_mode_Step x0 x1 x2 x3 x4 x5 x6 x7 x8 x9 x10 x11 x12 x13 x14) fun (d : Int × Int × Bool × Bool × Int × Int) =>
        bif decide (d.fst < 2) then k !d.snd.snd.fst
        else
          bif x7 then
            bif inR d.snd.fst 4 then
              bif d.snd.fst == 3 then
                bif !x8 then k false
                else
                  bif d.snd.snd.snd.fst then k false
                  else
                    bif x6 then bif d.fst == 3 then k true else k true
                    else
                      bif d.fst == 3 then
                        bif !x11 then bif !x0 != 0 then bif x11 then k true else bif decide (x12 ≤ x13) then bif decide (x12 ≥ 0) then k true else k !d.snd.snd.fst else k !d.snd.snd.fst else k false
                        else bif x11 then k true else bif decide (x12 ≤ x13) then bif decide (x12 ≥ 0) then k true else k !d.snd.snd.fst else k !d.snd.snd.fst
                      else bif x11 then k true else bif decide (x12 ≤ x13) then bif decide (x12 ≥ 0) then k true else k !d.snd.snd.fst else k !d.snd.snd.fst
              else
                bif d.snd.fst == 2 then
                  bif !x6 then k false
                  else
                    bif d.snd.snd.snd.fst then k false
                    else
                      bif x6 then bif d.fst == 3 then k true else k true
                      else
                        bif d.fst == 3 then
                          bif !x11 then bif !x0 != 0 then bif x11 then k true else bif decide (x12 ≤ x13) then bif decide (x12 ≥ 0) then k true else k !d.snd.snd.fst else k !d.snd.snd.fst else k false
                          else bif x11 then k true else bif decide (x12 ≤ x13) then bif decide (x12 ≥ 0) then k true else k !d.snd.snd.fst else k !d.snd.snd.fst
                        else bif x11 then k true else bif decide (x12 ≤ x13) then bif decide (x12 ≥ 0) then k true else k !d.snd.snd.fst else k !d.snd.snd.fst
                else
                  bif d.snd.fst == 1 then
                    bif !x7 then k false
                    else
                      bif d.snd.snd.snd.fst then k false
                      else
                        bif x6 then bif d.fst == 3 then k true else k true
                        else
                          bif d.fst == 3 then
                            bif !x11 then bif !x0 != 0 then bif x11 then k true else bif decide (x12 ≤ x13) then bif decide (x12 ≥ 0) then k true else k !d.snd.snd.fst else k !d.snd.snd.fst else k false
                            else bif x11 then k true else bif decide (x12 ≤ x13) then bif decide (x12 ≥ 0) then k true else k !d.snd.snd.fst else k !d.snd.snd.fst
                          else bif x11 then k true else bif decide (x12 ≤ x13) then bif decide (x12 ≥ 0) then k true else k !d.snd.snd.fst else k !d.snd.snd.fst
                  else k false
            else none
          else
            bif x6 then
              bif inR d.snd.fst 4 then
                bif d.snd.fst == 3 then
                  bif !x8 then k false
                  else
                    bif d.snd.snd.snd.fst then k false
                    else
                      bif x6 then bif d.fst == 3 then k true else k true
                      else
                        bif d.fst == 3 then
                          bif !x11 then bif !x0 != 0 then bif x11 then k true else bif decide (x12 ≤ x13) then bif decide (x12 ≥ 0) then k true else k !d.snd.snd.fst else k !d.snd.snd.fst else k false
                          else bif x11 then k true else bif decide (x12 ≤ x13) then bif decide (x12 ≥ 0) then k true else k !d.snd.snd.fst else k !d.snd.snd.fst
                        else bif x11 then k true else bif decide (x12 ≤ x13) then bif decide (x12 ≥ 0) then k true else k !d.snd.snd.fst else k !d.snd.snd.fst
                else
                  bif d.snd.fst == 2 then
                    bif !x6 then k false
                    else
                      bif d.snd.snd.snd.fst then k false
                      else
                        bif x6 then bif d.fst == 3 then k true else k true
                        else
                          bif d.fst == 3 then
                            bif !x11 then bif !x0 != 0 then bif x11 then k true else bif decide (x12 ≤ x13) then bif decide (x12 ≥ 0) then k true else k !d.snd.snd.fst else k !d.snd.snd.fst else k false
                            else bif x11 then k true else bif decide (x12 ≤ x13) then bif decide (x12 ≥ 0) then k true else k !d.snd.snd.fst else k !d.snd.snd.fst
                          else bif x11 then k true else bif decide (x12 ≤ x13) then bif decide (x12 ≥ 0) then k true else k !d.snd.snd.fst else k !d.snd.snd.fst
                  else
                    bif d.snd.fst == 1 then
                      bif !x7 then k false
                      else
                        bif d.snd.snd.snd.fst then k false
                        else
                          bif x6 then bif d.fst == 3 then k true else k true
                          else
                            bif d.fst == 3 then
                              bif !x11 then
                                bif !x0 != 0 then bif x11 then k true else bif decide (x12 ≤ x13) then bif decide (x12 ≥ 0) then k true else k !d.snd.snd.fst else k !d.snd.snd.fst else k false
                              else bif x11 then k true else bif decide (x12 ≤ x13) then bif decide (x12 ≥ 0) then k true else k !d.snd.snd.fst else k !d.snd.snd.fst
                            else bif x11 then k true else bif decide (x12 ≤ x13) then bif decide (x12 ≥ 0) then k true else k !d.snd.snd.fst else k !d.snd.snd.fst
                    else k false
              else none
            else
              bif x8 then
                bif inR d.snd.fst 4 then
                  bif d.snd.fst == 3 then
                    bif !x8 then k false
                    else
                      bif d.snd.snd.snd.fst then k false
                      else
                        bif !x8 then
                          bif !d.snd.snd.snd.fst then k false
                          else
                            bif x6 then bif d.fst == 3 then k true else k true
                            else
                              bif d.fst == 3 then
                                bif !x11 then
                                  bif !x0 != 0 then bif x11 then k true else bif decide (x12 ≤ x13) then bif decide (x12 ≥ 0) then k true else k !d.snd.snd.fst else k !d.snd.snd.fst else k false
                                else bif x11 then k true else bif decide (x12 ≤ x13) then bif decide (x12 ≥ 0) then k true else k !d.snd.snd.fst else k !d.snd.snd.fst
                              else bif x11 then k true else bif decide (x12 ≤ x13) then bif decide (x12 ≥ 0) then k true else k !d.snd.snd.fst else k !d.snd.snd.fst
                        else
                          bif x6 then bif d.fst == 3 then k true else k true
                          else
                            bif d.fst == 3 then
                              bif !x11 then
                                bif !x0 != 0 then bif x11 then k true else bif decide (x12 ≤ x13) then bif decide (x12 ≥ 0) then k true else k !d.snd.snd.fst else k !d.snd.snd.fst else k false
                              else bif x11 then k true else bif decide (x12 ≤ x13) then bif decide (x12 ≥ 0) then k true else k !d.snd.snd.fst else k !d.snd.snd.fst
                            else bif x11 then k true else bif decide (x12 ≤ x13) then bif decide (x12 ≥ 0) then k true else k !d.snd.snd.fst else k !d.snd.snd.fst
                  else
                    bif d.snd.fst == 2 then
                      bif !x6 then k false
                      else
                        bif d.snd.snd.snd.fst then k false
                        else
                          bif !x8 then
                            bif !d.snd.snd.snd.fst then k false
                            else
                              bif x6 then bif d.fst == 3 then k true else k true
                              else
                                bif d.fst == 3 then
                                  bif !x11 then
                                    bif !x0 != 0 then bif x11 then k true else bif decide (x12 ≤ x13) then bif decide (x12 ≥ 0) then k true else k !d.snd.snd.fst else k !d.snd.snd.fst else k false
                                  else bif x11 then k true else bif decide (x12 ≤ x13) then bif decide (x12 ≥ 0) then k true else k !d.snd.snd.fst else k !d.snd.snd.fst
                                else bif x11 then k true else bif decide (x12 ≤ x13) then bif decide (x12 ≥ 0) then k true else k !d.snd.snd.fst else k !d.snd.snd.fst
                          else
                            bif x6 then bif d.fst == 3 then k true else k true
                            else
                              bif d.fst == 3 then
                                bif !x11 then
                                  bif !x0 != 0 then bif x11 then k true else bif decide (x12 ≤ x13) then bif decide (x12 ≥ 0) then k true else k !d.snd.snd.fst else k !d.snd.snd.fst else k false
                                else bif x11 then k true else bif decide (x12 ≤ x13) then bif decide (x12 ≥ 0) then k true else k !d.snd.snd.fst else k !d.snd.snd.fst
                              else bif x11 then k true else bif decide (x12 ≤ x13) then bif decide (x12 ≥ 0) then k true else k !d.snd.snd.fst else k !d.snd.snd.fst
                    else
                      bif d.snd.fst == 1 then
                        bif !x7 then k false
                        else
                          bif d.snd.snd.snd.fst then k false
                          else
                            bif !x8 then
                              bif !d.snd.snd.snd.fst then k false
                              else
                                bif x6 then bif d.fst == 3 then k true else k true
                                else
                                  bif d.fst == 3 then
                                    bif !x11 then
                                      bif !x0 != 0 then bif x11 then k true else bif decide (x12 ≤ x13) then bif decide (x12 ≥ 0) then k true else k !d.snd.snd.fst else k !d.snd.snd.fst else k false
                                    else bif x11 then k true else bif decide (x12 ≤ x13) then bif decide (x12 ≥ 0) then k true else k !d.snd.snd.fst else k !d.snd.snd.fst
                                  else bif x11 then k true else bif decide (x12 ≤ x13) then bif decide (x12 ≥ 0) then k true else k !d.snd.snd.fst else k !d.snd.snd.fst
                            else
                              bif x6 then bif d.fst == 3 then k true else k true
                              else
                                bif d.fst == 3 then
                                  bif !x11 then
                                    bif !x0 != 0 then bif x11 then k true else bif decide (x12 ≤ x13) then bif decide (x12 ≥ 0) then k true else k !d.snd.snd.fst else k !d.snd.snd.fst else k false
                                  else bif x11 then k true else bif decide (x12 ≤ x13) then bif decide (x12 ≥ 0) then k true else k !d.snd.snd.fst else k !d.snd.snd.fst
                                else bif x11 then k true else bif decide (x12 ≤ x13) then bif decide (x12 ≥ 0) then k true else k !d.snd.snd.fst else k !d.snd.snd.fst
                      else k false
                else none
              else
                bif !x8 then
                  bif !d.snd.snd.snd.fst then k false
                  else
                    bif x6 then bif d.fst == 3 then k true else k true
                    else
                      bif d.fst == 3 then
                        bif !x11 then bif !x0 != 0 then bif x11 then k true else bif decide (x12 ≤ x13) then bif decide (x12 ≥ 0) then k true else k !d.snd.snd.fst else k !d.snd.snd.fst else k false
                        else bif x11 then k true else bif decide (x12 ≤ x13) then bif decide (x12 ≥ 0) then k true else k !d.snd.snd.fst else k !d.snd.snd.fst
                      else bif x11 then k true else bif decide (x12 ≤ x13) then bif decide (x12 ≥ 0) then k true else k !d.snd.snd.fst else k !d.snd.snd.fst
                else
                  bif x6 then bif d.fst == 3 then k true else k true
                  else
                    bif d.fst == 3 then
                      bif !x11 then bif !x0 != 0 then bif x11 then k true else bif decide (x12 ≤ x13) then bif decide (x12 ≥ 0) then k true else k !d.snd.snd.fst else k !d.snd.snd.fst else k false
                      else bif x11 then k true else bif decide (x12 ≤ x13) then bif decide (x12 ≥ 0) then k true else k !d.snd.snd.fst else k !d.snd.snd.fst
                    else bif x11 then k true else bif decide (x12 ≤ x13) then bif decide (x12 ≥ 0) then k true else k !d.snd.snd.fst else k !d.snd.snd.fst
def f_astrolabelaw25_ModeSilent (x0 : Int) (x1 : Int) (x2 : Bool) (x3 : Bool) (x4 : Bool) (x5 : Bool) (x6 : Bool) (x7 : Bool) (x8 : Bool) (x9 : Bool) (x10 : Bool) (x11 : Bool) (x12 : Int) (x13 : Int) (x14 : Int) : Option (Bool) := K_astrolabelaw25_ModeSilent f_astrolabelaw25_awake f_mode_Step  x0 x1 x2 x3 x4 x5 x6 x7 x8 x9 x10 x11 x12 x13 x14 some
section
open Go.Ab.Rdr
def QA_astrolabelaw25_ModeSilent := ((pair (cons (ar (ra (cons (gc (cf (fi .i64 hole))) (cons (gc (cf (fi .i64 hole))) (cons (gc (cf (fb hole))) (cons (gc (cf (fb hole))) nil)))))) (cons (ar (ra (cons (gc (cf (fb hole))) (cons (gc (cf (fb hole))) (cons (gc (cf (fb hole))) (cons (gc (cf (fb hole))) (cons (gc (cf (fb hole))) (cons (gc (cf (fb hole))) (cons (gc (cf (fb hole))) (cons (gc (cf (fb hole))) (cons (gc (cf (fi .i64 hole))) (cons (gc (cf (fi .i64 hole))) (cons (gc (cf (fi .i64 hole))) nil))))))))))))) nil)) nil) : Rdr (List AV × List Blk) _)
end
def F_astrolabelaw25_ModeSilent (f : (Int) → (Int) → (Bool) → (Bool) → (Bool) → (Bool) → (Bool) → (Bool) → (Bool) → (Bool) → (Bool) → (Bool) → (Int) → (Int) → (Int) → Option (Bool)) : Sem1 := fun args h => match (QA_astrolabelaw25_ModeSilent).rd (args, h) with
  | some b => .opt (f b.1.1.1 b.1.1.2.1 b.1.1.2.2.1 b.1.1.2.2.2.1 b.1.2.1.1 b.1.2.1.2.1 b.1.2.1.2.2.1 b.1.2.1.2.2.2.1 b.1.2.1.2.2.2.2.1 b.1.2.1.2.2.2.2.2.1 b.1.2.1.2.2.2.2.2.2.1 b.1.2.1.2.2.2.2.2.2.2.1 b.1.2.1.2.2.2.2.2.2.2.2.1 b.1.2.1.2.2.2.2.2.2.2.2.2.1 b.1.2.1.2.2.2.2.2.2.2.2.2.2.1) fun (d : Bool) => .leaf (Res.mk (AV.r (RV.c (CV.f (FV.b d)))) [] [])
  | none => .fail
theorem d_astrolabelaw25_ModeSilent (g_astrolabelaw25_awake : Option Bool) (g_mode_Step : Int → Int → Bool → Bool → Bool → Bool → Bool → Bool → Bool → Bool → Bool → Bool → Int → Int → Int → Option (Int × Int × Bool × Bool × Int × Int))  (x0 : Int) (x1 : Int) (x2 : Bool) (x3 : Bool) (x4 : Bool) (x5 : Bool) (x6 : Bool) (x7 : Bool) (x8 : Bool) (x9 : Bool) (x10 : Bool) (x11 : Bool) (x12 : Int) (x13 : Int) (x14 : Int) : den Try.prog (envOf [(9, F_astrolabelaw25_awake g_astrolabelaw25_awake), (10, F_mode_Step g_mode_Step)]) ⟨[], [], [], [], none⟩ 200 6 [.r (.agg [.c (.f (.i .i64 x0)), .c (.f (.i .i64 x1)), .c (.f (.b x2)), .c (.f (.b x3))]), .r (.agg [.c (.f (.b x4)), .c (.f (.b x5)), .c (.f (.b x6)), .c (.f (.b x7)), .c (.f (.b x8)), .c (.f (.b x9)), .c (.f (.b x10)), .c (.f (.b x11)), .c (.f (.i .i64 x12)), .c (.f (.i .i64 x13)), .c (.f (.i .i64 x14))])] [] =
    K_astrolabelaw25_ModeSilent g_astrolabelaw25_awake g_mode_Step  x0 x1 x2 x3 x4 x5 x6 x7 x8 x9 x10 x11 x12 x13 x14 (fun (d : Bool) => some (Res.mk (AV.r (RV.c (CV.f (FV.b d)))) [] [])) := by kernel_rfl
theorem m_astrolabelaw25_ModeSilent {ρ σ : Type} (q : ρ → Option σ) (g_astrolabelaw25_awake : Option Bool) (g_mode_Step : Int → Int → Bool → Bool → Bool → Bool → Bool → Bool → Bool → Bool → Bool → Bool → Int → Int → Int → Option (Int × Int × Bool × Bool × Int × Int))   (x0 : Int) (x1 : Int) (x2 : Bool) (x3 : Bool) (x4 : Bool) (x5 : Bool) (x6 : Bool) (x7 : Bool) (x8 : Bool) (x9 : Bool) (x10 : Bool) (x11 : Bool) (x12 : Int) (x13 : Int) (x14 : Int) (k : (Bool) → Option ρ) : (K_astrolabelaw25_ModeSilent g_astrolabelaw25_awake g_mode_Step  x0 x1 x2 x3 x4 x5 x6 x7 x8 x9 x10 x11 x12 x13 x14 k).bind q = K_astrolabelaw25_ModeSilent g_astrolabelaw25_awake g_mode_Step  x0 x1 x2 x3 x4 x5 x6 x7 x8 x9 x10 x11 x12 x13 x14 (fun d => (k d).bind q) := by
  simp only [K_astrolabelaw25_ModeSilent, bnd_cond, bnd_bind, bnd_none, bnd_sum]
theorem qa_astrolabelaw25_ModeSilent : ∀ b, (QA_astrolabelaw25_ModeSilent).em b = ([.r (.agg [.c (.f (.i .i64 b.1.1.1)), .c (.f (.i .i64 b.1.1.2.1)), .c (.f (.b b.1.1.2.2.1)), .c (.f (.b b.1.1.2.2.2.1))]), .r (.agg [.c (.f (.b b.1.2.1.1)), .c (.f (.b b.1.2.1.2.1)), .c (.f (.b b.1.2.1.2.2.1)), .c (.f (.b b.1.2.1.2.2.2.1)), .c (.f (.b b.1.2.1.2.2.2.2.1)), .c (.f (.b b.1.2.1.2.2.2.2.2.1)), .c (.f (.b b.1.2.1.2.2.2.2.2.2.1)), .c (.f (.b b.1.2.1.2.2.2.2.2.2.2.1)), .c (.f (.i .i64 b.1.2.1.2.2.2.2.2.2.2.2.1)), .c (.f (.i .i64 b.1.2.1.2.2.2.2.2.2.2.2.2.1)), .c (.f (.i .i64 b.1.2.1.2.2.2.2.2.2.2.2.2.2.1))])], []) := fun b => by kernel_rfl
theorem e_astrolabelaw25_ModeSilent {f : (Int) → (Int) → (Bool) → (Bool) → (Bool) → (Bool) → (Bool) → (Bool) → (Bool) → (Bool) → (Bool) → (Bool) → (Int) → (Int) → (Int) → Option (Bool)} {args : List AV} {h : List Blk} {r : Res} (hr : (F_astrolabelaw25_ModeSilent f args h).eval = some r) : ∃ x0 x1 x2 x3 x4 x5 x6 x7 x8 x9 x10 x11 x12 x13 x14, args = [.r (.agg [.c (.f (.i .i64 x0)), .c (.f (.i .i64 x1)), .c (.f (.b x2)), .c (.f (.b x3))]), .r (.agg [.c (.f (.b x4)), .c (.f (.b x5)), .c (.f (.b x6)), .c (.f (.b x7)), .c (.f (.b x8)), .c (.f (.b x9)), .c (.f (.b x10)), .c (.f (.b x11)), .c (.f (.i .i64 x12)), .c (.f (.i .i64 x13)), .c (.f (.i .i64 x14))])] ∧ h = [] ∧ (f x0 x1 x2 x3 x4 x5 x6 x7 x8 x9 x10 x11 x12 x13 x14).bind (fun (d : Bool) => some (Res.mk (AV.r (RV.c (CV.f (FV.b d)))) [] [])) = some r := by
  unfold F_astrolabelaw25_ModeSilent at hr
  split at hr
  · rename_i b hb
    have e := ((QA_astrolabelaw25_ModeSilent).ok _ _ hb).trans (qa_astrolabelaw25_ModeSilent b)
    rw [opt_eval2] at hr
    exact ⟨b.1.1.1, b.1.1.2.1, b.1.1.2.2.1, b.1.1.2.2.2.1, b.1.2.1.1, b.1.2.1.2.1, b.1.2.1.2.2.1, b.1.2.1.2.2.2.1, b.1.2.1.2.2.2.2.1, b.1.2.1.2.2.2.2.2.1, b.1.2.1.2.2.2.2.2.2.1, b.1.2.1.2.2.2.2.2.2.2.1, b.1.2.1.2.2.2.2.2.2.2.2.1, b.1.2.1.2.2.2.2.2.2.2.2.2.1, b.1.2.1.2.2.2.2.2.2.2.2.2.2.1, (Prod.mk.inj e).1, (Prod.mk.inj e).2, hr⟩
  · cases hr
theorem n_astrolabelaw25_ModeSilent {σ : Type} (q : (Bool) → Option σ) (x0 : Int) (x1 : Int) (x2 : Bool) (x3 : Bool) (x4 : Bool) (x5 : Bool) (x6 : Bool) (x7 : Bool) (x8 : Bool) (x9 : Bool) (x10 : Bool) (x11 : Bool) (x12 : Int) (x13 : Int) (x14 : Int) : (f_astrolabelaw25_ModeSilent x0 x1 x2 x3 x4 x5 x6 x7 x8 x9 x10 x11 x12 x13 x14).bind q = K_astrolabelaw25_ModeSilent f_astrolabelaw25_awake f_mode_Step  x0 x1 x2 x3 x4 x5 x6 x7 x8 x9 x10 x11 x12 x13 x14 q := by
  unfold f_astrolabelaw25_ModeSilent
  exact m_astrolabelaw25_ModeSilent q f_astrolabelaw25_awake f_mode_Step   x0 x1 x2 x3 x4 x5 x6 x7 x8 x9 x10 x11 x12 x13 x14 some
theorem s_astrolabelaw25_ModeSilent : Sound Try.prog 6 (F_astrolabelaw25_ModeSilent f_astrolabelaw25_ModeSilent) :=
  (inl_sound (l := [(9, F_astrolabelaw25_awake f_astrolabelaw25_awake), (10, F_mode_Step f_mode_Step)]) (.cons s_astrolabelaw25_awake (.cons s_mode_Step (.nil _))) mixed [] [] 200 (by kernel_rfl)).by (F := F_astrolabelaw25_ModeSilent f_astrolabelaw25_ModeSilent) fun args b r hr => by
  obtain ⟨x0, x1, x2, x3, x4, x5, x6, x7, x8, x9, x10, x11, x12, x13, x14, rfl, rfl, hr1⟩ := e_astrolabelaw25_ModeSilent hr
  exact inl_eval ((d_astrolabelaw25_ModeSilent f_astrolabelaw25_awake f_mode_Step  x0 x1 x2 x3 x4 x5 x6 x7 x8 x9 x10 x11 x12 x13 x14).trans ((n_astrolabelaw25_ModeSilent (fun (d : Bool) => some (Res.mk (AV.r (RV.c (CV.f (FV.b d)))) [] [])) x0 x1 x2 x3 x4 x5 x6 x7 x8 x9 x10 x11 x12 x13 x14).symm.trans hr1))

end Go.Proofs.Ytgbgdihahmecoaa
