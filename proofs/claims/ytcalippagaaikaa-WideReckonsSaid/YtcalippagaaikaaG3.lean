/-
  Contracts by plain functions: astrolabelaw1.WideRing, astrolabelaw1.WideShifts, astrolabelaw1.WideRoots
-/
import Derived.Test.YtcalippagaaikaaG1
import Derived.Test.YtcalippagaaikaaC3
set_option maxRecDepth 100000
set_option maxHeartbeats 4000000
set_option linter.unusedVariables false
namespace Go.Proofs.Ytcalippagaaikaa
open Go.Ab
def K_astrolabelaw1_WideRing {ρ : Type} (g_astrolabelaw1_awake : Option Bool) (g_wide_Mul : Int → Int → Option (Int × Int)) (g_wide_Add : Nat → (Nat → Int) → (Nat → Int) → Bool → Option (Int × Int × Bool)) (g_wide_Cmp : Int → Int → Int → Int → Option Int) (g_astrolabelaw1_big : Int → Int → Option (Bool × (Nat → Int))) (g_astrolabelaw1_same : Int → Int → Bool → (Nat → Int) → Option Bool)  (x0 : Int) (x1 : Int) (x2 : Int) (x3 : Int) (x4 : Int) (x5 : Int) (x6 : Int) (k : (Bool) → Option ρ) : Option ρ :=
  Option.bind g_astrolabelaw1_awake fun (d : Bool) =>
    bif !d then k false
    else
      Option.bind (g_wide_Mul (IntKind.wrap IntKind.i64 (Int.tdiv x0 4)) (IntKind.wrap IntKind.i64 (Int.tdiv x1 4))) fun (d : Int × Int) =>
        Option.bind (g_wide_Mul (IntKind.wrap IntKind.i64 (Int.tdiv x0 4)) (IntKind.wrap IntKind.i64 (Int.tdiv x2 4))) fun (d_1 : Int × Int) =>
          Option.bind
            (g_wide_Add 2 (fun (j : Nat) => bif Nat.beq j 1 then d_1.1 else bif Nat.beq j 0 then d.1 else d.1)
              (fun (j : Nat) => bif Nat.beq j 1 then d_1.2 else bif Nat.beq j 0 then d.2 else d.2) true)
            fun (d : Int × Int × Bool) =>
            bif !d.2.2 then k false
            else
              Option.bind (g_wide_Mul (IntKind.wrap IntKind.i64 (Int.tdiv x0 4)) (IntKind.wrap IntKind.i64 (IntKind.wrap IntKind.i64 (Int.tdiv x1 4) + IntKind.wrap IntKind.i64 (Int.tdiv x2 4))))
                fun (d_2 : Int × Int) =>
                bif !(d.1 == d_2.1 && (d.2.1 == d_2.2 && true)) then k false
                else
                  Option.bind (g_wide_Mul (IntKind.wrap IntKind.i64 (Int.tdiv x0 4)) (IntKind.wrap IntKind.i64 (Int.tdiv x1 4))) fun (d_3 : Int × Int) =>
                    Option.bind (g_wide_Mul (IntKind.wrap IntKind.i64 (Int.tdiv x1 4)) (IntKind.wrap IntKind.i64 (Int.tdiv x0 4))) fun (d_4 : Int × Int) =>
                      bif !(d_3.1 == d_4.1 && (d_3.2 == d_4.2 && true)) then k false
                      else
                        Option.bind
                          (g_wide_Add 2 (fun (j : Nat) => bif Nat.beq j 1 then d.1 else bif Nat.beq j 0 then IntKind.wrap IntKind.i64 (Int.tdiv x3 4) else IntKind.wrap IntKind.i64 (Int.tdiv x3 4))
                            (fun (j : Nat) => bif Nat.beq j 1 then d.2.1 else bif Nat.beq j 0 then x4 else x4) true)
                          fun (d_5 : Int × Int × Bool) =>
                          Option.bind
                            (g_wide_Add 2 (fun (j : Nat) => bif Nat.beq j 1 then d.1 else bif Nat.beq j 0 then IntKind.wrap IntKind.i64 (Int.tdiv x5 4) else IntKind.wrap IntKind.i64 (Int.tdiv x5 4))
                              (fun (j : Nat) => bif Nat.beq j 1 then d.2.1 else bif Nat.beq j 0 then x6 else x6) true)
                            fun (d : Int × Int × Bool) =>
                            bif d_5.2.2 then
                              bif d.2.2 then
                                Option.bind (g_wide_Cmp (IntKind.wrap IntKind.i64 (Int.tdiv x3 4)) x4 (IntKind.wrap IntKind.i64 (Int.tdiv x5 4)) x6) fun (d_6 : Int) =>
                                  Option.bind (g_wide_Cmp d_5.1 d_5.2.1 d.1 d.2.1) fun (d : Int) =>
                                    bif d_6 == d then
                                      Option.bind (g_wide_Cmp (IntKind.wrap IntKind.i64 (Int.tdiv x3 4)) x4 (IntKind.wrap IntKind.i64 (Int.tdiv x5 4)) x6) fun (d : Int) =>
                                        Option.bind (g_wide_Cmp (IntKind.wrap IntKind.i64 (Int.tdiv x5 4)) x6 (IntKind.wrap IntKind.i64 (Int.tdiv x3 4)) x4) fun (d_7 : Int) =>
                                          bif d == IntKind.wrap IntKind.i64 (0 - d_7) then
                                            Option.bind (g_astrolabelaw1_big (IntKind.wrap IntKind.i64 (Int.tdiv x3 4)) x4) fun (d : Bool × (Nat → Int)) =>
                                              Option.bind (g_astrolabelaw1_same (IntKind.wrap IntKind.i64 (Int.tdiv x3 4)) x4 d.1 d.2) fun (d : Bool) => k d
                                          else k false
                                    else k false
                              else k false
                            else k false
def f_astrolabelaw1_WideRing (x0 : Int) (x1 : Int) (x2 : Int) (x3 : Int) (x4 : Int) (x5 : Int) (x6 : Int) : Option (Bool) := K_astrolabelaw1_WideRing f_astrolabelaw1_awake f_wide_Mul f_wide_Add f_wide_Cmp f_astrolabelaw1_big f_astrolabelaw1_same  x0 x1 x2 x3 x4 x5 x6 some
section
open Go.Ab.Rdr
def QA_astrolabelaw1_WideRing := ((pair (cons (ar (rc (cf (fi .i64 hole)))) (cons (ar (rc (cf (fi .i64 hole)))) (cons (ar (rc (cf (fi .i64 hole)))) (cons (ar (ra (cons (gc (cf (fi .i64 hole))) (cons (gc (cf (fi .u64 hole))) nil)))) (cons (ar (ra (cons (gc (cf (fi .i64 hole))) (cons (gc (cf (fi .u64 hole))) nil)))) nil))))) nil) : Rdr (List AV × List Blk) _)
end
def F_astrolabelaw1_WideRing (f : (Int) → (Int) → (Int) → (Int) → (Int) → (Int) → (Int) → Option (Bool)) : Sem1 := fun args h => match (QA_astrolabelaw1_WideRing).rd (args, h) with
  | some b => .opt (f b.1.1 b.1.2.1 b.1.2.2.1 b.1.2.2.2.1.1 b.1.2.2.2.1.2.1 b.1.2.2.2.2.1.1 b.1.2.2.2.2.1.2.1) fun (d : Bool) => .leaf (Res.mk (AV.r (RV.c (CV.f (FV.b d)))) [] [])
  | none => .fail
theorem d_astrolabelaw1_WideRing (g_astrolabelaw1_awake : Option Bool) (g_wide_Mul : Int → Int → Option (Int × Int)) (g_wide_Add : Nat → (Nat → Int) → (Nat → Int) → Bool → Option (Int × Int × Bool)) (g_wide_Cmp : Int → Int → Int → Int → Option Int) (g_astrolabelaw1_big : Int → Int → Option (Bool × (Nat → Int))) (g_astrolabelaw1_same : Int → Int → Bool → (Nat → Int) → Option Bool)  (x0 : Int) (x1 : Int) (x2 : Int) (x3 : Int) (x4 : Int) (x5 : Int) (x6 : Int) : den Try.prog (envOf [(14, F_astrolabelaw1_awake g_astrolabelaw1_awake), (23, F_wide_Mul g_wide_Mul), (20, F_wide_Add g_wide_Add), (29, F_wide_Cmp g_wide_Cmp), (26, F_astrolabelaw1_big g_astrolabelaw1_big), (21, F_astrolabelaw1_same g_astrolabelaw1_same)]) ⟨[], [], [], [], none⟩ 300 7 [.r (.c (.f (.i .i64 x0))), .r (.c (.f (.i .i64 x1))), .r (.c (.f (.i .i64 x2))), .r (.agg [.c (.f (.i .i64 x3)), .c (.f (.i .u64 x4))]), .r (.agg [.c (.f (.i .i64 x5)), .c (.f (.i .u64 x6))])] [] =
    K_astrolabelaw1_WideRing g_astrolabelaw1_awake g_wide_Mul g_wide_Add g_wide_Cmp g_astrolabelaw1_big g_astrolabelaw1_same  x0 x1 x2 x3 x4 x5 x6 (fun (d : Bool) => some (Res.mk (AV.r (RV.c (CV.f (FV.b d)))) [] [])) := by kernel_rfl
theorem m_astrolabelaw1_WideRing {ρ σ : Type} (q : ρ → Option σ) (g_astrolabelaw1_awake : Option Bool) (g_wide_Mul : Int → Int → Option (Int × Int)) (g_wide_Add : Nat → (Nat → Int) → (Nat → Int) → Bool → Option (Int × Int × Bool)) (g_wide_Cmp : Int → Int → Int → Int → Option Int) (g_astrolabelaw1_big : Int → Int → Option (Bool × (Nat → Int))) (g_astrolabelaw1_same : Int → Int → Bool → (Nat → Int) → Option Bool)   (x0 : Int) (x1 : Int) (x2 : Int) (x3 : Int) (x4 : Int) (x5 : Int) (x6 : Int) (k : (Bool) → Option ρ) : (K_astrolabelaw1_WideRing g_astrolabelaw1_awake g_wide_Mul g_wide_Add g_wide_Cmp g_astrolabelaw1_big g_astrolabelaw1_same  x0 x1 x2 x3 x4 x5 x6 k).bind q = K_astrolabelaw1_WideRing g_astrolabelaw1_awake g_wide_Mul g_wide_Add g_wide_Cmp g_astrolabelaw1_big g_astrolabelaw1_same  x0 x1 x2 x3 x4 x5 x6 (fun d => (k d).bind q) := by
  simp only [K_astrolabelaw1_WideRing, bnd_cond, bnd_bind, bnd_none, bnd_sum]
theorem qa_astrolabelaw1_WideRing : ∀ b, (QA_astrolabelaw1_WideRing).em b = ([.r (.c (.f (.i .i64 b.1.1))), .r (.c (.f (.i .i64 b.1.2.1))), .r (.c (.f (.i .i64 b.1.2.2.1))), .r (.agg [.c (.f (.i .i64 b.1.2.2.2.1.1)), .c (.f (.i .u64 b.1.2.2.2.1.2.1))]), .r (.agg [.c (.f (.i .i64 b.1.2.2.2.2.1.1)), .c (.f (.i .u64 b.1.2.2.2.2.1.2.1))])], []) := fun b => by kernel_rfl
theorem e_astrolabelaw1_WideRing {f : (Int) → (Int) → (Int) → (Int) → (Int) → (Int) → (Int) → Option (Bool)} {args : List AV} {h : List Blk} {r : Res} (hr : (F_astrolabelaw1_WideRing f args h).eval = some r) : ∃ x0 x1 x2 x3 x4 x5 x6, args = [.r (.c (.f (.i .i64 x0))), .r (.c (.f (.i .i64 x1))), .r (.c (.f (.i .i64 x2))), .r (.agg [.c (.f (.i .i64 x3)), .c (.f (.i .u64 x4))]), .r (.agg [.c (.f (.i .i64 x5)), .c (.f (.i .u64 x6))])] ∧ h = [] ∧ (f x0 x1 x2 x3 x4 x5 x6).bind (fun (d : Bool) => some (Res.mk (AV.r (RV.c (CV.f (FV.b d)))) [] [])) = some r := by
  unfold F_astrolabelaw1_WideRing at hr
  split at hr
  · rename_i b hb
    have e := ((QA_astrolabelaw1_WideRing).ok _ _ hb).trans (qa_astrolabelaw1_WideRing b)
    rw [opt_eval2] at hr
    exact ⟨b.1.1, b.1.2.1, b.1.2.2.1, b.1.2.2.2.1.1, b.1.2.2.2.1.2.1, b.1.2.2.2.2.1.1, b.1.2.2.2.2.1.2.1, (Prod.mk.inj e).1, (Prod.mk.inj e).2, hr⟩
  · cases hr
theorem n_astrolabelaw1_WideRing {σ : Type} (q : (Bool) → Option σ) (x0 : Int) (x1 : Int) (x2 : Int) (x3 : Int) (x4 : Int) (x5 : Int) (x6 : Int) : (f_astrolabelaw1_WideRing x0 x1 x2 x3 x4 x5 x6).bind q = K_astrolabelaw1_WideRing f_astrolabelaw1_awake f_wide_Mul f_wide_Add f_wide_Cmp f_astrolabelaw1_big f_astrolabelaw1_same  x0 x1 x2 x3 x4 x5 x6 q := by
  unfold f_astrolabelaw1_WideRing
  exact m_astrolabelaw1_WideRing q f_astrolabelaw1_awake f_wide_Mul f_wide_Add f_wide_Cmp f_astrolabelaw1_big f_astrolabelaw1_same   x0 x1 x2 x3 x4 x5 x6 some
theorem s_astrolabelaw1_WideRing : Sound Try.prog 7 (F_astrolabelaw1_WideRing f_astrolabelaw1_WideRing) :=
  (inl_sound (l := [(14, F_astrolabelaw1_awake f_astrolabelaw1_awake), (23, F_wide_Mul f_wide_Mul), (20, F_wide_Add f_wide_Add), (29, F_wide_Cmp f_wide_Cmp), (26, F_astrolabelaw1_big f_astrolabelaw1_big), (21, F_astrolabelaw1_same f_astrolabelaw1_same)]) (.cons s_astrolabelaw1_awake (.cons s_wide_Mul (.cons s_wide_Add (.cons s_wide_Cmp (.cons s_astrolabelaw1_big (.cons s_astrolabelaw1_same (.nil _))))))) mixed [] [] 300 (by kernel_rfl)).by (F := F_astrolabelaw1_WideRing f_astrolabelaw1_WideRing) fun args b r hr => by
  obtain ⟨x0, x1, x2, x3, x4, x5, x6, rfl, rfl, hr1⟩ := e_astrolabelaw1_WideRing hr
  exact inl_eval ((d_astrolabelaw1_WideRing f_astrolabelaw1_awake f_wide_Mul f_wide_Add f_wide_Cmp f_astrolabelaw1_big f_astrolabelaw1_same  x0 x1 x2 x3 x4 x5 x6).trans ((n_astrolabelaw1_WideRing (fun (d : Bool) => some (Res.mk (AV.r (RV.c (CV.f (FV.b d)))) [] [])) x0 x1 x2 x3 x4 x5 x6).symm.trans hr1))

def K_astrolabelaw1_WideShifts {ρ : Type} (g_astrolabelaw1_awake : Option Bool) (g_wide_Shift : Int → Int → Option (Int × Int × Bool)) (g_astrolaberef1_Of : Int → Option (Bool × (Nat → Int))) (g_astrolaberef1_Pow : Int → Option (Nat → Int)) (g_astrolaberef1_Mul : Bool → (Nat → Int) → Bool → (Nat → Int) → Option (Bool × (Nat → Int))) (g_astrolaberef1_Fits : Bool → (Nat → Int) → Int → Option Bool) (g_wide_Round : Int → Int → Int → Option (Int × Bool)) (g_wide_Of : Int → Option (Int × Int))  (x0 : Int) (x1 : Int) (x2 : Int) (k : (Bool) → Option ρ) : Option ρ :=
  Option.bind g_astrolabelaw1_awake fun (d : Bool) =>
    bif !d then k false
    else
      bif decide (x1 < 0) then k true
      else
        bif decide (x1 > 60) then k true
        else
          bif decide (x2 < 0) then k true
          else
            bif decide (x2 > 60) then k true
            else
              Option.bind (g_wide_Shift x0 x1) fun (d : Int × Int × Bool) =>
                bif !d.2.2 then
                  Option.bind (g_astrolaberef1_Of x0) fun (d : Bool × (Nat → Int)) =>
                    Option.bind (g_astrolaberef1_Pow x1) fun (d_1 : Nat → Int) =>
                      Option.bind (g_astrolaberef1_Mul d.1 d.2 false d_1) fun (d : Bool × (Nat → Int)) => Option.bind (g_astrolaberef1_Fits d.1 d.2 127) fun (d : Bool) => k !d
                else
                  Option.bind (g_wide_Round d.1 d.2.1 x1) fun (d : Int × Bool) =>
                    Option.bind (g_wide_Of x0) fun (d_1 : Int × Int) =>
                      Option.bind (g_wide_Round d_1.1 d_1.2 x1) fun (d_2 : Int × Bool) =>
                        Option.bind (g_wide_Of d_2.1) fun (d_3 : Int × Int) =>
                          Option.bind (g_wide_Round d_3.1 d_3.2 x2) fun (d_4 : Int × Bool) =>
                            Option.bind (g_wide_Of x0) fun (d_5 : Int × Int) =>
                              Option.bind (g_wide_Round d_5.1 d_5.2 (IntKind.wrap IntKind.i64 (x1 + x2))) fun (d_6 : Int × Bool) =>
                                bif d.2 then
                                  bif d.1 == x0 then
                                    bif d_2.2 then
                                      bif d_4.2 then
                                        bif d_6.2 then bif decide (IntKind.wrap IntKind.i64 (d_4.1 - d_6.1) ≤ 1) then k (decide (IntKind.wrap IntKind.i64 (d_6.1 - d_4.1) ≤ 1)) else k false
                                        else k false
                                      else k false
                                    else k false
                                  else k false
                                else k false
def f_astrolabelaw1_WideShifts (x0 : Int) (x1 : Int) (x2 : Int) : Option (Bool) := K_astrolabelaw1_WideShifts f_astrolabelaw1_awake f_wide_Shift f_astrolaberef1_Of f_astrolaberef1_Pow f_astrolaberef1_Mul f_astrolaberef1_Fits f_wide_Round f_wide_Of  x0 x1 x2 some
section
open Go.Ab.Rdr
def QA_astrolabelaw1_WideShifts := ((pair (cons (ar (rc (cf (fi .i64 hole)))) (cons (ar (rc (cf (fi .i64 hole)))) (cons (ar (rc (cf (fi .i64 hole)))) nil))) nil) : Rdr (List AV × List Blk) _)
end
def F_astrolabelaw1_WideShifts (f : (Int) → (Int) → (Int) → Option (Bool)) : Sem1 := fun args h => match (QA_astrolabelaw1_WideShifts).rd (args, h) with
  | some b => .opt (f b.1.1 b.1.2.1 b.1.2.2.1) fun (d : Bool) => .leaf (Res.mk (AV.r (RV.c (CV.f (FV.b d)))) [] [])
  | none => .fail
theorem d_astrolabelaw1_WideShifts (g_astrolabelaw1_awake : Option Bool) (g_wide_Shift : Int → Int → Option (Int × Int × Bool)) (g_astrolaberef1_Of : Int → Option (Bool × (Nat → Int))) (g_astrolaberef1_Pow : Int → Option (Nat → Int)) (g_astrolaberef1_Mul : Bool → (Nat → Int) → Bool → (Nat → Int) → Option (Bool × (Nat → Int))) (g_astrolaberef1_Fits : Bool → (Nat → Int) → Int → Option Bool) (g_wide_Round : Int → Int → Int → Option (Int × Bool)) (g_wide_Of : Int → Option (Int × Int))  (x0 : Int) (x1 : Int) (x2 : Int) : den Try.prog (envOf [(14, F_astrolabelaw1_awake g_astrolabelaw1_awake), (31, F_wide_Shift g_wide_Shift), (22, F_astrolaberef1_Of g_astrolaberef1_Of), (32, F_astrolaberef1_Pow g_astrolaberef1_Pow), (24, F_astrolaberef1_Mul g_astrolaberef1_Mul), (27, F_astrolaberef1_Fits g_astrolaberef1_Fits), (17, F_wide_Round g_wide_Round), (16, F_wide_Of g_wide_Of)]) ⟨[], [], [], [], none⟩ 300 8 [.r (.c (.f (.i .i64 x0))), .r (.c (.f (.i .i64 x1))), .r (.c (.f (.i .i64 x2)))] [] =
    K_astrolabelaw1_WideShifts g_astrolabelaw1_awake g_wide_Shift g_astrolaberef1_Of g_astrolaberef1_Pow g_astrolaberef1_Mul g_astrolaberef1_Fits g_wide_Round g_wide_Of  x0 x1 x2 (fun (d : Bool) => some (Res.mk (AV.r (RV.c (CV.f (FV.b d)))) [] [])) := by kernel_rfl
theorem m_astrolabelaw1_WideShifts {ρ σ : Type} (q : ρ → Option σ) (g_astrolabelaw1_awake : Option Bool) (g_wide_Shift : Int → Int → Option (Int × Int × Bool)) (g_astrolaberef1_Of : Int → Option (Bool × (Nat → Int))) (g_astrolaberef1_Pow : Int → Option (Nat → Int)) (g_astrolaberef1_Mul : Bool → (Nat → Int) → Bool → (Nat → Int) → Option (Bool × (Nat → Int))) (g_astrolaberef1_Fits : Bool → (Nat → Int) → Int → Option Bool) (g_wide_Round : Int → Int → Int → Option (Int × Bool)) (g_wide_Of : Int → Option (Int × Int))   (x0 : Int) (x1 : Int) (x2 : Int) (k : (Bool) → Option ρ) : (K_astrolabelaw1_WideShifts g_astrolabelaw1_awake g_wide_Shift g_astrolaberef1_Of g_astrolaberef1_Pow g_astrolaberef1_Mul g_astrolaberef1_Fits g_wide_Round g_wide_Of  x0 x1 x2 k).bind q = K_astrolabelaw1_WideShifts g_astrolabelaw1_awake g_wide_Shift g_astrolaberef1_Of g_astrolaberef1_Pow g_astrolaberef1_Mul g_astrolaberef1_Fits g_wide_Round g_wide_Of  x0 x1 x2 (fun d => (k d).bind q) := by
  simp only [K_astrolabelaw1_WideShifts, bnd_cond, bnd_bind, bnd_none, bnd_sum]
theorem qa_astrolabelaw1_WideShifts : ∀ b, (QA_astrolabelaw1_WideShifts).em b = ([.r (.c (.f (.i .i64 b.1.1))), .r (.c (.f (.i .i64 b.1.2.1))), .r (.c (.f (.i .i64 b.1.2.2.1)))], []) := fun b => by kernel_rfl
theorem e_astrolabelaw1_WideShifts {f : (Int) → (Int) → (Int) → Option (Bool)} {args : List AV} {h : List Blk} {r : Res} (hr : (F_astrolabelaw1_WideShifts f args h).eval = some r) : ∃ x0 x1 x2, args = [.r (.c (.f (.i .i64 x0))), .r (.c (.f (.i .i64 x1))), .r (.c (.f (.i .i64 x2)))] ∧ h = [] ∧ (f x0 x1 x2).bind (fun (d : Bool) => some (Res.mk (AV.r (RV.c (CV.f (FV.b d)))) [] [])) = some r := by
  unfold F_astrolabelaw1_WideShifts at hr
  split at hr
  · rename_i b hb
    have e := ((QA_astrolabelaw1_WideShifts).ok _ _ hb).trans (qa_astrolabelaw1_WideShifts b)
    rw [opt_eval2] at hr
    exact ⟨b.1.1, b.1.2.1, b.1.2.2.1, (Prod.mk.inj e).1, (Prod.mk.inj e).2, hr⟩
  · cases hr
theorem n_astrolabelaw1_WideShifts {σ : Type} (q : (Bool) → Option σ) (x0 : Int) (x1 : Int) (x2 : Int) : (f_astrolabelaw1_WideShifts x0 x1 x2).bind q = K_astrolabelaw1_WideShifts f_astrolabelaw1_awake f_wide_Shift f_astrolaberef1_Of f_astrolaberef1_Pow f_astrolaberef1_Mul f_astrolaberef1_Fits f_wide_Round f_wide_Of  x0 x1 x2 q := by
  unfold f_astrolabelaw1_WideShifts
  exact m_astrolabelaw1_WideShifts q f_astrolabelaw1_awake f_wide_Shift f_astrolaberef1_Of f_astrolaberef1_Pow f_astrolaberef1_Mul f_astrolaberef1_Fits f_wide_Round f_wide_Of   x0 x1 x2 some
theorem s_astrolabelaw1_WideShifts : Sound Try.prog 8 (F_astrolabelaw1_WideShifts f_astrolabelaw1_WideShifts) :=
  (inl_sound (l := [(14, F_astrolabelaw1_awake f_astrolabelaw1_awake), (31, F_wide_Shift f_wide_Shift), (22, F_astrolaberef1_Of f_astrolaberef1_Of), (32, F_astrolaberef1_Pow f_astrolaberef1_Pow), (24, F_astrolaberef1_Mul f_astrolaberef1_Mul), (27, F_astrolaberef1_Fits f_astrolaberef1_Fits), (17, F_wide_Round f_wide_Round), (16, F_wide_Of f_wide_Of)]) (.cons s_astrolabelaw1_awake (.cons s_wide_Shift (.cons s_astrolaberef1_Of (.cons s_astrolaberef1_Pow (.cons s_astrolaberef1_Mul (.cons s_astrolaberef1_Fits (.cons s_wide_Round (.cons s_wide_Of (.nil _))))))))) mixed [] [] 300 (by kernel_rfl)).by (F := F_astrolabelaw1_WideShifts f_astrolabelaw1_WideShifts) fun args b r hr => by
  obtain ⟨x0, x1, x2, rfl, rfl, hr1⟩ := e_astrolabelaw1_WideShifts hr
  exact inl_eval ((d_astrolabelaw1_WideShifts f_astrolabelaw1_awake f_wide_Shift f_astrolaberef1_Of f_astrolaberef1_Pow f_astrolaberef1_Mul f_astrolaberef1_Fits f_wide_Round f_wide_Of  x0 x1 x2).trans ((n_astrolabelaw1_WideShifts (fun (d : Bool) => some (Res.mk (AV.r (RV.c (CV.f (FV.b d)))) [] [])) x0 x1 x2).symm.trans hr1))

def K_astrolabelaw1_WideRoots {ρ : Type} (g_astrolabelaw1_awake : Option Bool) (g_wide_Root : Int → Int → Option (Int × Bool)) (g_astrolabelaw1_big : Int → Int → Option (Bool × (Nat → Int))) (g_astrolaberef1_Pow : Int → Option (Nat → Int)) (g_astrolaberef1_Of : Int → Option (Bool × (Nat → Int))) (g_astrolaberef1_Add : Bool → (Nat → Int) → Bool → (Nat → Int) → Option (Bool × (Nat → Int))) (g_astrolaberef1_Mul : Bool → (Nat → Int) → Bool → (Nat → Int) → Option (Bool × (Nat → Int))) (g_astrolaberef1_Cmp : Bool → (Nat → Int) → Bool → (Nat → Int) → Option Int) (g_astrolaberef1_Neg : Bool → (Nat → Int) → Option (Bool × (Nat → Int)))  (x0 : Int) (x1 : Int) (k : (Bool) → Option ρ) : Option ρ :=
  Option.bind g_astrolabelaw1_awake fun (d : Bool) =>
    bif !d then k false
    else
      Option.bind (g_wide_Root x0 x1) fun (d : Int × Bool) =>
        bif decide (x0 < 0) then bif !d.2 then k (d.1 == 0) else k false
        else
          bif !d.2 then
            bif d.1 == 0 then
              Option.bind (g_astrolabelaw1_big x0 x1) fun (d : Bool × (Nat → Int)) =>
                Option.bind (g_astrolaberef1_Pow 63) fun (d_1 : Nat → Int) =>
                  Option.bind (g_astrolaberef1_Pow 63) fun (d_2 : Nat → Int) =>
                    Option.bind (g_astrolaberef1_Of (-1)) fun (d_3 : Bool × (Nat → Int)) =>
                      Option.bind (g_astrolaberef1_Add false d_2 d_3.1 d_3.2) fun (d_4 : Bool × (Nat → Int)) =>
                        Option.bind (g_astrolaberef1_Mul false d_1 d_4.1 d_4.2) fun (d_5 : Bool × (Nat → Int)) =>
                          Option.bind (g_astrolaberef1_Cmp d.1 d.2 d_5.1 d_5.2) fun (d : Int) => k (decide (d > 0))
            else k false
          else
            bif decide (d.1 < 0) then k false
            else
              Option.bind (g_astrolaberef1_Of d.1) fun (d_1 : Bool × (Nat → Int)) =>
                Option.bind (g_astrolaberef1_Mul d_1.1 d_1.2 d_1.1 d_1.2) fun (d_2 : Bool × (Nat → Int)) =>
                  Option.bind (g_astrolaberef1_Neg d_1.1 d_1.2) fun (d_3 : Bool × (Nat → Int)) =>
                    Option.bind (g_astrolaberef1_Add d_2.1 d_2.2 d_3.1 d_3.2) fun (d_4 : Bool × (Nat → Int)) =>
                      Option.bind (g_astrolaberef1_Add d_2.1 d_2.2 d_1.1 d_1.2) fun (d_5 : Bool × (Nat → Int)) =>
                        bif d.1 == 0 then
                          Option.bind (g_astrolabelaw1_big x0 x1) fun (d : Bool × (Nat → Int)) => Option.bind (g_astrolaberef1_Cmp d.1 d.2 d_5.1 d_5.2) fun (d : Int) => k (decide (d ≤ 0))
                        else
                          Option.bind (g_astrolabelaw1_big x0 x1) fun (d : Bool × (Nat → Int)) =>
                            Option.bind (g_astrolaberef1_Cmp d_4.1 d_4.2 d.1 d.2) fun (d : Int) =>
                              bif decide (d < 0) then
                                Option.bind (g_astrolabelaw1_big x0 x1) fun (d : Bool × (Nat → Int)) => Option.bind (g_astrolaberef1_Cmp d.1 d.2 d_5.1 d_5.2) fun (d : Int) => k (decide (d ≤ 0))
                              else k false
def f_astrolabelaw1_WideRoots (x0 : Int) (x1 : Int) : Option (Bool) := K_astrolabelaw1_WideRoots f_astrolabelaw1_awake f_wide_Root f_astrolabelaw1_big f_astrolaberef1_Pow f_astrolaberef1_Of f_astrolaberef1_Add f_astrolaberef1_Mul f_astrolaberef1_Cmp f_astrolaberef1_Neg  x0 x1 some
section
open Go.Ab.Rdr
def QA_astrolabelaw1_WideRoots := ((pair (cons (ar (ra (cons (gc (cf (fi .i64 hole))) (cons (gc (cf (fi .u64 hole))) nil)))) nil) nil) : Rdr (List AV × List Blk) _)
end
def F_astrolabelaw1_WideRoots (f : (Int) → (Int) → Option (Bool)) : Sem1 := fun args h => match (QA_astrolabelaw1_WideRoots).rd (args, h) with
  | some b => .opt (f b.1.1.1 b.1.1.2.1) fun (d : Bool) => .leaf (Res.mk (AV.r (RV.c (CV.f (FV.b d)))) [] [])
  | none => .fail
theorem d_astrolabelaw1_WideRoots (g_astrolabelaw1_awake : Option Bool) (g_wide_Root : Int → Int → Option (Int × Bool)) (g_astrolabelaw1_big : Int → Int → Option (Bool × (Nat → Int))) (g_astrolaberef1_Pow : Int → Option (Nat → Int)) (g_astrolaberef1_Of : Int → Option (Bool × (Nat → Int))) (g_astrolaberef1_Add : Bool → (Nat → Int) → Bool → (Nat → Int) → Option (Bool × (Nat → Int))) (g_astrolaberef1_Mul : Bool → (Nat → Int) → Bool → (Nat → Int) → Option (Bool × (Nat → Int))) (g_astrolaberef1_Cmp : Bool → (Nat → Int) → Bool → (Nat → Int) → Option Int) (g_astrolaberef1_Neg : Bool → (Nat → Int) → Option (Bool × (Nat → Int)))  (x0 : Int) (x1 : Int) : den Try.prog (envOf [(14, F_astrolabelaw1_awake g_astrolabelaw1_awake), (15, F_wide_Root g_wide_Root), (26, F_astrolabelaw1_big g_astrolabelaw1_big), (32, F_astrolaberef1_Pow g_astrolaberef1_Pow), (22, F_astrolaberef1_Of g_astrolaberef1_Of), (25, F_astrolaberef1_Add g_astrolaberef1_Add), (24, F_astrolaberef1_Mul g_astrolaberef1_Mul), (30, F_astrolaberef1_Cmp g_astrolaberef1_Cmp), (28, F_astrolaberef1_Neg g_astrolaberef1_Neg)]) ⟨[], [], [], [], none⟩ 300 6 [.r (.agg [.c (.f (.i .i64 x0)), .c (.f (.i .u64 x1))])] [] =
    K_astrolabelaw1_WideRoots g_astrolabelaw1_awake g_wide_Root g_astrolabelaw1_big g_astrolaberef1_Pow g_astrolaberef1_Of g_astrolaberef1_Add g_astrolaberef1_Mul g_astrolaberef1_Cmp g_astrolaberef1_Neg  x0 x1 (fun (d : Bool) => some (Res.mk (AV.r (RV.c (CV.f (FV.b d)))) [] [])) := by kernel_rfl
theorem m_astrolabelaw1_WideRoots {ρ σ : Type} (q : ρ → Option σ) (g_astrolabelaw1_awake : Option Bool) (g_wide_Root : Int → Int → Option (Int × Bool)) (g_astrolabelaw1_big : Int → Int → Option (Bool × (Nat → Int))) (g_astrolaberef1_Pow : Int → Option (Nat → Int)) (g_astrolaberef1_Of : Int → Option (Bool × (Nat → Int))) (g_astrolaberef1_Add : Bool → (Nat → Int) → Bool → (Nat → Int) → Option (Bool × (Nat → Int))) (g_astrolaberef1_Mul : Bool → (Nat → Int) → Bool → (Nat → Int) → Option (Bool × (Nat → Int))) (g_astrolaberef1_Cmp : Bool → (Nat → Int) → Bool → (Nat → Int) → Option Int) (g_astrolaberef1_Neg : Bool → (Nat → Int) → Option (Bool × (Nat → Int)))   (x0 : Int) (x1 : Int) (k : (Bool) → Option ρ) : (K_astrolabelaw1_WideRoots g_astrolabelaw1_awake g_wide_Root g_astrolabelaw1_big g_astrolaberef1_Pow g_astrolaberef1_Of g_astrolaberef1_Add g_astrolaberef1_Mul g_astrolaberef1_Cmp g_astrolaberef1_Neg  x0 x1 k).bind q = K_astrolabelaw1_WideRoots g_astrolabelaw1_awake g_wide_Root g_astrolabelaw1_big g_astrolaberef1_Pow g_astrolaberef1_Of g_astrolaberef1_Add g_astrolaberef1_Mul g_astrolaberef1_Cmp g_astrolaberef1_Neg  x0 x1 (fun d => (k d).bind q) := by
  simp only [K_astrolabelaw1_WideRoots, bnd_cond, bnd_bind, bnd_none, bnd_sum]
theorem qa_astrolabelaw1_WideRoots : ∀ b, (QA_astrolabelaw1_WideRoots).em b = ([.r (.agg [.c (.f (.i .i64 b.1.1.1)), .c (.f (.i .u64 b.1.1.2.1))])], []) := fun b => by kernel_rfl
theorem e_astrolabelaw1_WideRoots {f : (Int) → (Int) → Option (Bool)} {args : List AV} {h : List Blk} {r : Res} (hr : (F_astrolabelaw1_WideRoots f args h).eval = some r) : ∃ x0 x1, args = [.r (.agg [.c (.f (.i .i64 x0)), .c (.f (.i .u64 x1))])] ∧ h = [] ∧ (f x0 x1).bind (fun (d : Bool) => some (Res.mk (AV.r (RV.c (CV.f (FV.b d)))) [] [])) = some r := by
  unfold F_astrolabelaw1_WideRoots at hr
  split at hr
  · rename_i b hb
    have e := ((QA_astrolabelaw1_WideRoots).ok _ _ hb).trans (qa_astrolabelaw1_WideRoots b)
    rw [opt_eval2] at hr
    exact ⟨b.1.1.1, b.1.1.2.1, (Prod.mk.inj e).1, (Prod.mk.inj e).2, hr⟩
  · cases hr
theorem n_astrolabelaw1_WideRoots {σ : Type} (q : (Bool) → Option σ) (x0 : Int) (x1 : Int) : (f_astrolabelaw1_WideRoots x0 x1).bind q = K_astrolabelaw1_WideRoots f_astrolabelaw1_awake f_wide_Root f_astrolabelaw1_big f_astrolaberef1_Pow f_astrolaberef1_Of f_astrolaberef1_Add f_astrolaberef1_Mul f_astrolaberef1_Cmp f_astrolaberef1_Neg  x0 x1 q := by
  unfold f_astrolabelaw1_WideRoots
  exact m_astrolabelaw1_WideRoots q f_astrolabelaw1_awake f_wide_Root f_astrolabelaw1_big f_astrolaberef1_Pow f_astrolaberef1_Of f_astrolaberef1_Add f_astrolaberef1_Mul f_astrolaberef1_Cmp f_astrolaberef1_Neg   x0 x1 some
theorem s_astrolabelaw1_WideRoots : Sound Try.prog 6 (F_astrolabelaw1_WideRoots f_astrolabelaw1_WideRoots) :=
  (inl_sound (l := [(14, F_astrolabelaw1_awake f_astrolabelaw1_awake), (15, F_wide_Root f_wide_Root), (26, F_astrolabelaw1_big f_astrolabelaw1_big), (32, F_astrolaberef1_Pow f_astrolaberef1_Pow), (22, F_astrolaberef1_Of f_astrolaberef1_Of), (25, F_astrolaberef1_Add f_astrolaberef1_Add), (24, F_astrolaberef1_Mul f_astrolaberef1_Mul), (30, F_astrolaberef1_Cmp f_astrolaberef1_Cmp), (28, F_astrolaberef1_Neg f_astrolaberef1_Neg)]) (.cons s_astrolabelaw1_awake (.cons s_wide_Root (.cons s_astrolabelaw1_big (.cons s_astrolaberef1_Pow (.cons s_astrolaberef1_Of (.cons s_astrolaberef1_Add (.cons s_astrolaberef1_Mul (.cons s_astrolaberef1_Cmp (.cons s_astrolaberef1_Neg (.nil _)))))))))) mixed [] [] 300 (by kernel_rfl)).by (F := F_astrolabelaw1_WideRoots f_astrolabelaw1_WideRoots) fun args b r hr => by
  obtain ⟨x0, x1, rfl, rfl, hr1⟩ := e_astrolabelaw1_WideRoots hr
  exact inl_eval ((d_astrolabelaw1_WideRoots f_astrolabelaw1_awake f_wide_Root f_astrolabelaw1_big f_astrolaberef1_Pow f_astrolaberef1_Of f_astrolaberef1_Add f_astrolaberef1_Mul f_astrolaberef1_Cmp f_astrolaberef1_Neg  x0 x1).trans ((n_astrolabelaw1_WideRoots (fun (d : Bool) => some (Res.mk (AV.r (RV.c (CV.f (FV.b d)))) [] [])) x0 x1).symm.trans hr1))

end Go.Proofs.Ytcalippagaaikaa
