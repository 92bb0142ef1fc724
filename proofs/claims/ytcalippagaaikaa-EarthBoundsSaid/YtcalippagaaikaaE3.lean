/-
  Contracts by plain functions: astrolabelaw8.EarthRound, astrolabelaw8.EarthBounds, astrolabelaw8.EarthPlane
-/
import Derived.Test.YtcalippagaaikaaE2
set_option maxRecDepth 100000
set_option maxHeartbeats 4000000
set_option linter.unusedVariables false
namespace Go.Proofs.Ytcalippagaaikaa
open Go.Ab
def K_astrolabelaw8_EarthRound {ρ : Type} (g_astrolabelaw8_awake : Option Bool) (g_earth_New : Int → Int → Int → Option (Unit ⊕ Int × Int × Int × Int × Int)) (g_earth_Good : Int → Int → Int → Option Bool) (g_earth_Declination : Int → Int → Int → Bool → Option (Int × Int × Bool)) (g___earth_Frame__To : Int → Int → Int → Int → Int → Int → Int → Int → Bool → Option (Int × Int × Int × Int × Bool))  (x0 : Int) (x1 : Int) (x2 : Int) (x3 : Int) (x4 : Int) (k : (Bool) → Option ρ) : Option ρ :=
  Option.bind g_astrolabelaw8_awake fun (d : Bool) =>
    bif !d then k false
    else
      Option.bind (g_earth_New x0 x1 x2) fun (d : Unit ⊕ Int × Int × Int × Int × Int) =>
        bif
            match d with
            | Sum.inl val => true
            | Sum.inr val => false then
          Option.bind
            (match d with
            | Sum.inl a => some a
            | Sum.inr val => none)
            fun (d : Unit) => k true
        else
          Option.bind
            (match d with
            | Sum.inr b => some b
            | Sum.inl val => none)
            fun (d : Int × Int × Int × Int × Int) =>
            Option.bind (g_earth_Good x3 1800000000 x4) fun (d_1 : Bool) =>
              bif !d_1 then k true
              else
                Option.bind (g_earth_Declination x3 1800000000 x4 false) fun (d_2 : Int × Int × Bool) =>
                  Option.bind (g_earth_Declination x3 (-1800000000) x4 d_2.2.2) fun (d_3 : Int × Int × Bool) =>
                    Option.bind (g___earth_Frame__To x3 1800000000 x4 d.1 d.2.1 d.2.2.1 d.2.2.2.1 d.2.2.2.2 d_3.2.2) fun (d_4 : Int × Int × Int × Int × Bool) =>
                      Option.bind (g___earth_Frame__To x3 (-1800000000) x4 d.1 d.2.1 d.2.2.1 d.2.2.2.1 d.2.2.2.2 d_4.2.2.2.2)
                        fun (d : Int × Int × Int × Int × Bool) =>
                        bif d_2.2.1 == 0 then
                          bif d_3.2.1 == 0 then
                            bif d_2.1 == d_3.1 then
                              bif d_4.2.2.2.1 == 0 then
                                bif d.2.2.2.1 == 0 then k (d_4.1 == d.1 && (d_4.2.1 == d.2.1 && (d_4.2.2.1 == d.2.2.1 && true))) else k false
                              else k false
                            else k false
                          else k false
                        else k false
def f_astrolabelaw8_EarthRound (x0 : Int) (x1 : Int) (x2 : Int) (x3 : Int) (x4 : Int) : Option (Bool) := K_astrolabelaw8_EarthRound f_astrolabelaw8_awake f_earth_New f_earth_Good f_earth_Declination f___earth_Frame__To  x0 x1 x2 x3 x4 some
section
open Go.Ab.Rdr
def QA_astrolabelaw8_EarthRound := ((pair (cons (ar (ra (cons (gc (cf (fi .i64 hole))) (cons (gc (cf (fi .i64 hole))) (cons (gc (cf (fi .i64 hole))) nil))))) (cons (ar (rc (cf (fi .i64 hole)))) (cons (ar (rc (cf (fi .i64 hole)))) nil))) nil) : Rdr (List AV × List Blk) _)
end
def F_astrolabelaw8_EarthRound (f : (Int) → (Int) → (Int) → (Int) → (Int) → Option (Bool)) : Sem1 := fun args h => match (QA_astrolabelaw8_EarthRound).rd (args, h) with
  | some b => .opt (f b.1.1.1 b.1.1.2.1 b.1.1.2.2.1 b.1.2.1 b.1.2.2.1) fun (d : Bool) => .leaf (Res.mk (AV.r (RV.c (CV.f (FV.b d)))) [] [])
  | none => .fail
theorem d_astrolabelaw8_EarthRound (g_astrolabelaw8_awake : Option Bool) (g_earth_New : Int → Int → Int → Option (Unit ⊕ Int × Int × Int × Int × Int)) (g_earth_Good : Int → Int → Int → Option Bool) (g_earth_Declination : Int → Int → Int → Bool → Option (Int × Int × Bool)) (g___earth_Frame__To : Int → Int → Int → Int → Int → Int → Int → Int → Bool → Option (Int × Int × Int × Int × Bool))  (x0 : Int) (x1 : Int) (x2 : Int) (x3 : Int) (x4 : Int) : den Try.prog (envOf [(36, F_astrolabelaw8_awake g_astrolabelaw8_awake), (37, F_earth_New g_earth_New), (40, F_earth_Good g_earth_Good), (38, F_earth_Declination g_earth_Declination), (39, F___earth_Frame__To g___earth_Frame__To)]) ⟨[], [], [], [], none⟩ 200 12 [.r (.agg [.c (.f (.i .i64 x0)), .c (.f (.i .i64 x1)), .c (.f (.i .i64 x2))]), .r (.c (.f (.i .i64 x3))), .r (.c (.f (.i .i64 x4)))] [] =
    K_astrolabelaw8_EarthRound g_astrolabelaw8_awake g_earth_New g_earth_Good g_earth_Declination g___earth_Frame__To  x0 x1 x2 x3 x4 (fun (d : Bool) => some (Res.mk (AV.r (RV.c (CV.f (FV.b d)))) [] [])) := by kernel_rfl
theorem m_astrolabelaw8_EarthRound {ρ σ : Type} (q : ρ → Option σ) (g_astrolabelaw8_awake : Option Bool) (g_earth_New : Int → Int → Int → Option (Unit ⊕ Int × Int × Int × Int × Int)) (g_earth_Good : Int → Int → Int → Option Bool) (g_earth_Declination : Int → Int → Int → Bool → Option (Int × Int × Bool)) (g___earth_Frame__To : Int → Int → Int → Int → Int → Int → Int → Int → Bool → Option (Int × Int × Int × Int × Bool))   (x0 : Int) (x1 : Int) (x2 : Int) (x3 : Int) (x4 : Int) (k : (Bool) → Option ρ) : (K_astrolabelaw8_EarthRound g_astrolabelaw8_awake g_earth_New g_earth_Good g_earth_Declination g___earth_Frame__To  x0 x1 x2 x3 x4 k).bind q = K_astrolabelaw8_EarthRound g_astrolabelaw8_awake g_earth_New g_earth_Good g_earth_Declination g___earth_Frame__To  x0 x1 x2 x3 x4 (fun d => (k d).bind q) := by
  simp only [K_astrolabelaw8_EarthRound, bnd_cond, bnd_bind, bnd_none, bnd_sum]
theorem qa_astrolabelaw8_EarthRound : ∀ b, (QA_astrolabelaw8_EarthRound).em b = ([.r (.agg [.c (.f (.i .i64 b.1.1.1)), .c (.f (.i .i64 b.1.1.2.1)), .c (.f (.i .i64 b.1.1.2.2.1))]), .r (.c (.f (.i .i64 b.1.2.1))), .r (.c (.f (.i .i64 b.1.2.2.1)))], []) := fun b => by kernel_rfl
theorem e_astrolabelaw8_EarthRound {f : (Int) → (Int) → (Int) → (Int) → (Int) → Option (Bool)} {args : List AV} {h : List Blk} {r : Res} (hr : (F_astrolabelaw8_EarthRound f args h).eval = some r) : ∃ x0 x1 x2 x3 x4, args = [.r (.agg [.c (.f (.i .i64 x0)), .c (.f (.i .i64 x1)), .c (.f (.i .i64 x2))]), .r (.c (.f (.i .i64 x3))), .r (.c (.f (.i .i64 x4)))] ∧ h = [] ∧ (f x0 x1 x2 x3 x4).bind (fun (d : Bool) => some (Res.mk (AV.r (RV.c (CV.f (FV.b d)))) [] [])) = some r := by
  unfold F_astrolabelaw8_EarthRound at hr
  split at hr
  · rename_i b hb
    have e := ((QA_astrolabelaw8_EarthRound).ok _ _ hb).trans (qa_astrolabelaw8_EarthRound b)
    rw [opt_eval2] at hr
    exact ⟨b.1.1.1, b.1.1.2.1, b.1.1.2.2.1, b.1.2.1, b.1.2.2.1, (Prod.mk.inj e).1, (Prod.mk.inj e).2, hr⟩
  · cases hr
theorem n_astrolabelaw8_EarthRound {σ : Type} (q : (Bool) → Option σ) (x0 : Int) (x1 : Int) (x2 : Int) (x3 : Int) (x4 : Int) : (f_astrolabelaw8_EarthRound x0 x1 x2 x3 x4).bind q = K_astrolabelaw8_EarthRound f_astrolabelaw8_awake f_earth_New f_earth_Good f_earth_Declination f___earth_Frame__To  x0 x1 x2 x3 x4 q := by
  unfold f_astrolabelaw8_EarthRound
  exact m_astrolabelaw8_EarthRound q f_astrolabelaw8_awake f_earth_New f_earth_Good f_earth_Declination f___earth_Frame__To   x0 x1 x2 x3 x4 some
theorem s_astrolabelaw8_EarthRound : Sound Try.prog 12 (F_astrolabelaw8_EarthRound f_astrolabelaw8_EarthRound) :=
  (inl_sound (l := [(36, F_astrolabelaw8_awake f_astrolabelaw8_awake), (37, F_earth_New f_earth_New), (40, F_earth_Good f_earth_Good), (38, F_earth_Declination f_earth_Declination), (39, F___earth_Frame__To f___earth_Frame__To)]) (.cons s_astrolabelaw8_awake (.cons s_earth_New (.cons s_earth_Good (.cons s_earth_Declination (.cons s___earth_Frame__To (.nil _)))))) mixed [] [] 200 (by kernel_rfl)).by (F := F_astrolabelaw8_EarthRound f_astrolabelaw8_EarthRound) fun args b r hr => by
  obtain ⟨x0, x1, x2, x3, x4, rfl, rfl, hr1⟩ := e_astrolabelaw8_EarthRound hr
  exact inl_eval ((d_astrolabelaw8_EarthRound f_astrolabelaw8_awake f_earth_New f_earth_Good f_earth_Declination f___earth_Frame__To  x0 x1 x2 x3 x4).trans ((n_astrolabelaw8_EarthRound (fun (d : Bool) => some (Res.mk (AV.r (RV.c (CV.f (FV.b d)))) [] [])) x0 x1 x2 x3 x4).symm.trans hr1))

def K_astrolabelaw8_EarthBounds {ρ : Type} (g_astrolabelaw8_awake : Option Bool) (g_earth_New : Int → Int → Int → Option (Unit ⊕ Int × Int × Int × Int × Int)) (g_earth_Good : Int → Int → Int → Option Bool) (g_earth_Declination : Int → Int → Int → Bool → Option (Int × Int × Bool)) (g___earth_Frame__To : Int → Int → Int → Int → Int → Int → Int → Int → Bool → Option (Int × Int × Int × Int × Bool))  (x0 : Int) (x1 : Int) (x2 : Int) (x3 : Int) (x4 : Int) (x5 : Int) (x6 : Int) (x7 : Int) (x8 : Int) (k : (Bool) → Option ρ) : Option ρ :=
  Option.bind g_astrolabelaw8_awake fun (d : Bool) =>
    bif !d then k false
    else
      Option.bind (g_earth_New x0 x1 x2) fun (d : Unit ⊕ Int × Int × Int × Int × Int) =>
        bif
            match d with
            | Sum.inl val => true
            | Sum.inr val => false then
          Option.bind
            (match d with
            | Sum.inl a => some a
            | Sum.inr val => none)
            fun (d : Unit) => k true
        else
          Option.bind
            (match d with
            | Sum.inr b => some b
            | Sum.inl val => none)
            fun (d : Int × Int × Int × Int × Int) =>
            Option.bind (g_earth_Good x3 x4 x5) fun (d_1 : Bool) =>
              bif !d_1 then k true
              else
                Option.bind (g_earth_Good x6 x7 x8) fun (d_2 : Bool) =>
                  bif !d_2 then k true
                  else
                    Option.bind (g_earth_Declination x3 x4 x5 false) fun (d_3 : Int × Int × Bool) =>
                      Option.bind (g___earth_Frame__To x3 x4 x5 d.1 d.2.1 d.2.2.1 d.2.2.2.1 d.2.2.2.2 d_3.2.2) fun (d_4 : Int × Int × Int × Int × Bool) =>
                        Option.bind (g___earth_Frame__To x3 x7 x8 d.1 d.2.1 d.2.2.1 d.2.2.2.1 d.2.2.2.2 d_4.2.2.2.2) fun (d_5 : Int × Int × Int × Int × Bool) =>
                          Option.bind (g___earth_Frame__To x6 x4 x5 d.1 d.2.1 d.2.2.1 d.2.2.2.1 d.2.2.2.2 d_5.2.2.2.2) fun (d : Int × Int × Int × Int × Bool) =>
                            bif d_3.2.1 != 0 then k false
                            else
                              bif d_4.2.2.2.1 != 0 then k false
                              else
                                bif d_5.2.2.2.1 != 0 then k false
                                else
                                  bif d.2.2.2.1 != 0 then k false
                                  else
                                    bif decide (d_3.1 > 3373259426) then k false
                                    else
                                      bif decide (d_3.1 < -3373259426) then k false
                                      else
                                        bif d_5.1 == d_4.1 then bif d.1 == d.1 && (d_4.2.1 == d.2.1 && (d_4.2.2.1 == d.2.2.1 && true)) then k !d.2.2.2.2 else k false
                                        else k false
def f_astrolabelaw8_EarthBounds (x0 : Int) (x1 : Int) (x2 : Int) (x3 : Int) (x4 : Int) (x5 : Int) (x6 : Int) (x7 : Int) (x8 : Int) : Option (Bool) := K_astrolabelaw8_EarthBounds f_astrolabelaw8_awake f_earth_New f_earth_Good f_earth_Declination f___earth_Frame__To  x0 x1 x2 x3 x4 x5 x6 x7 x8 some
section
open Go.Ab.Rdr
def QA_astrolabelaw8_EarthBounds := ((pair (cons (ar (ra (cons (gc (cf (fi .i64 hole))) (cons (gc (cf (fi .i64 hole))) (cons (gc (cf (fi .i64 hole))) nil))))) (cons (ar (ra (cons (gc (cf (fi .i64 hole))) (cons (gc (cf (fi .i64 hole))) (cons (gc (cf (fi .i64 hole))) nil))))) (cons (ar (ra (cons (gc (cf (fi .i64 hole))) (cons (gc (cf (fi .i64 hole))) (cons (gc (cf (fi .i64 hole))) nil))))) nil))) nil) : Rdr (List AV × List Blk) _)
end
def F_astrolabelaw8_EarthBounds (f : (Int) → (Int) → (Int) → (Int) → (Int) → (Int) → (Int) → (Int) → (Int) → Option (Bool)) : Sem1 := fun args h => match (QA_astrolabelaw8_EarthBounds).rd (args, h) with
  | some b => .opt (f b.1.1.1 b.1.1.2.1 b.1.1.2.2.1 b.1.2.1.1 b.1.2.1.2.1 b.1.2.1.2.2.1 b.1.2.2.1.1 b.1.2.2.1.2.1 b.1.2.2.1.2.2.1) fun (d : Bool) => .leaf (Res.mk (AV.r (RV.c (CV.f (FV.b d)))) [] [])
  | none => .fail
theorem d_astrolabelaw8_EarthBounds (g_astrolabelaw8_awake : Option Bool) (g_earth_New : Int → Int → Int → Option (Unit ⊕ Int × Int × Int × Int × Int)) (g_earth_Good : Int → Int → Int → Option Bool) (g_earth_Declination : Int → Int → Int → Bool → Option (Int × Int × Bool)) (g___earth_Frame__To : Int → Int → Int → Int → Int → Int → Int → Int → Bool → Option (Int × Int × Int × Int × Bool))  (x0 : Int) (x1 : Int) (x2 : Int) (x3 : Int) (x4 : Int) (x5 : Int) (x6 : Int) (x7 : Int) (x8 : Int) : den Try.prog (envOf [(36, F_astrolabelaw8_awake g_astrolabelaw8_awake), (37, F_earth_New g_earth_New), (40, F_earth_Good g_earth_Good), (38, F_earth_Declination g_earth_Declination), (39, F___earth_Frame__To g___earth_Frame__To)]) ⟨[], [], [], [], none⟩ 200 13 [.r (.agg [.c (.f (.i .i64 x0)), .c (.f (.i .i64 x1)), .c (.f (.i .i64 x2))]), .r (.agg [.c (.f (.i .i64 x3)), .c (.f (.i .i64 x4)), .c (.f (.i .i64 x5))]), .r (.agg [.c (.f (.i .i64 x6)), .c (.f (.i .i64 x7)), .c (.f (.i .i64 x8))])] [] =
    K_astrolabelaw8_EarthBounds g_astrolabelaw8_awake g_earth_New g_earth_Good g_earth_Declination g___earth_Frame__To  x0 x1 x2 x3 x4 x5 x6 x7 x8 (fun (d : Bool) => some (Res.mk (AV.r (RV.c (CV.f (FV.b d)))) [] [])) := by kernel_rfl
theorem m_astrolabelaw8_EarthBounds {ρ σ : Type} (q : ρ → Option σ) (g_astrolabelaw8_awake : Option Bool) (g_earth_New : Int → Int → Int → Option (Unit ⊕ Int × Int × Int × Int × Int)) (g_earth_Good : Int → Int → Int → Option Bool) (g_earth_Declination : Int → Int → Int → Bool → Option (Int × Int × Bool)) (g___earth_Frame__To : Int → Int → Int → Int → Int → Int → Int → Int → Bool → Option (Int × Int × Int × Int × Bool))   (x0 : Int) (x1 : Int) (x2 : Int) (x3 : Int) (x4 : Int) (x5 : Int) (x6 : Int) (x7 : Int) (x8 : Int) (k : (Bool) → Option ρ) : (K_astrolabelaw8_EarthBounds g_astrolabelaw8_awake g_earth_New g_earth_Good g_earth_Declination g___earth_Frame__To  x0 x1 x2 x3 x4 x5 x6 x7 x8 k).bind q = K_astrolabelaw8_EarthBounds g_astrolabelaw8_awake g_earth_New g_earth_Good g_earth_Declination g___earth_Frame__To  x0 x1 x2 x3 x4 x5 x6 x7 x8 (fun d => (k d).bind q) := by
  simp only [K_astrolabelaw8_EarthBounds, bnd_cond, bnd_bind, bnd_none, bnd_sum]
theorem qa_astrolabelaw8_EarthBounds : ∀ b, (QA_astrolabelaw8_EarthBounds).em b = ([.r (.agg [.c (.f (.i .i64 b.1.1.1)), .c (.f (.i .i64 b.1.1.2.1)), .c (.f (.i .i64 b.1.1.2.2.1))]), .r (.agg [.c (.f (.i .i64 b.1.2.1.1)), .c (.f (.i .i64 b.1.2.1.2.1)), .c (.f (.i .i64 b.1.2.1.2.2.1))]), .r (.agg [.c (.f (.i .i64 b.1.2.2.1.1)), .c (.f (.i .i64 b.1.2.2.1.2.1)), .c (.f (.i .i64 b.1.2.2.1.2.2.1))])], []) := fun b => by kernel_rfl
theorem e_astrolabelaw8_EarthBounds {f : (Int) → (Int) → (Int) → (Int) → (Int) → (Int) → (Int) → (Int) → (Int) → Option (Bool)} {args : List AV} {h : List Blk} {r : Res} (hr : (F_astrolabelaw8_EarthBounds f args h).eval = some r) : ∃ x0 x1 x2 x3 x4 x5 x6 x7 x8, args = [.r (.agg [.c (.f (.i .i64 x0)), .c (.f (.i .i64 x1)), .c (.f (.i .i64 x2))]), .r (.agg [.c (.f (.i .i64 x3)), .c (.f (.i .i64 x4)), .c (.f (.i .i64 x5))]), .r (.agg [.c (.f (.i .i64 x6)), .c (.f (.i .i64 x7)), .c (.f (.i .i64 x8))])] ∧ h = [] ∧ (f x0 x1 x2 x3 x4 x5 x6 x7 x8).bind (fun (d : Bool) => some (Res.mk (AV.r (RV.c (CV.f (FV.b d)))) [] [])) = some r := by
  unfold F_astrolabelaw8_EarthBounds at hr
  split at hr
  · rename_i b hb
    have e := ((QA_astrolabelaw8_EarthBounds).ok _ _ hb).trans (qa_astrolabelaw8_EarthBounds b)
    rw [opt_eval2] at hr
    exact ⟨b.1.1.1, b.1.1.2.1, b.1.1.2.2.1, b.1.2.1.1, b.1.2.1.2.1, b.1.2.1.2.2.1, b.1.2.2.1.1, b.1.2.2.1.2.1, b.1.2.2.1.2.2.1, (Prod.mk.inj e).1, (Prod.mk.inj e).2, hr⟩
  · cases hr
theorem n_astrolabelaw8_EarthBounds {σ : Type} (q : (Bool) → Option σ) (x0 : Int) (x1 : Int) (x2 : Int) (x3 : Int) (x4 : Int) (x5 : Int) (x6 : Int) (x7 : Int) (x8 : Int) : (f_astrolabelaw8_EarthBounds x0 x1 x2 x3 x4 x5 x6 x7 x8).bind q = K_astrolabelaw8_EarthBounds f_astrolabelaw8_awake f_earth_New f_earth_Good f_earth_Declination f___earth_Frame__To  x0 x1 x2 x3 x4 x5 x6 x7 x8 q := by
  unfold f_astrolabelaw8_EarthBounds
  exact m_astrolabelaw8_EarthBounds q f_astrolabelaw8_awake f_earth_New f_earth_Good f_earth_Declination f___earth_Frame__To   x0 x1 x2 x3 x4 x5 x6 x7 x8 some
theorem s_astrolabelaw8_EarthBounds : Sound Try.prog 13 (F_astrolabelaw8_EarthBounds f_astrolabelaw8_EarthBounds) :=
  (inl_sound (l := [(36, F_astrolabelaw8_awake f_astrolabelaw8_awake), (37, F_earth_New f_earth_New), (40, F_earth_Good f_earth_Good), (38, F_earth_Declination f_earth_Declination), (39, F___earth_Frame__To f___earth_Frame__To)]) (.cons s_astrolabelaw8_awake (.cons s_earth_New (.cons s_earth_Good (.cons s_earth_Declination (.cons s___earth_Frame__To (.nil _)))))) mixed [] [] 200 (by kernel_rfl)).by (F := F_astrolabelaw8_EarthBounds f_astrolabelaw8_EarthBounds) fun args b r hr => by
  obtain ⟨x0, x1, x2, x3, x4, x5, x6, x7, x8, rfl, rfl, hr1⟩ := e_astrolabelaw8_EarthBounds hr
  exact inl_eval ((d_astrolabelaw8_EarthBounds f_astrolabelaw8_awake f_earth_New f_earth_Good f_earth_Declination f___earth_Frame__To  x0 x1 x2 x3 x4 x5 x6 x7 x8).trans ((n_astrolabelaw8_EarthBounds (fun (d : Bool) => some (Res.mk (AV.r (RV.c (CV.f (FV.b d)))) [] [])) x0 x1 x2 x3 x4 x5 x6 x7 x8).symm.trans hr1))

def K_astrolabelaw8_EarthPlane {ρ : Type} (g_astrolabelaw8_awake : Option Bool) (g_earth_Good : Int → Int → Int → Option Bool) (g_earth_New : Int → Int → Int → Option (Unit ⊕ Int × Int × Int × Int × Int)) (g___earth_Frame__To : Int → Int → Int → Int → Int → Int → Int → Int → Bool → Option (Int × Int × Int × Int × Bool))  (x0 : Int) (x1 : Int) (x2 : Int) (x3 : Int) (x4 : Int) (x5 : Int) (k : (Bool) → Option ρ) : Option ρ :=
  Option.bind g_astrolabelaw8_awake fun (d : Bool) =>
    bif !d then k false
    else
      bif decide (x0 < -800000000) then k true
      else
        bif decide (x0 > 800000000) then k true
        else
          Option.bind (g_earth_Good x0 x1 x2) fun (d : Bool) =>
            bif !d then k true
            else
              bif decide (x2 > 90000000) then k true
              else
                bif decide (x2 < -90000000) then k true
                else
                  bif decide (x3 < 1) then k true
                  else
                    bif decide (x3 > 10000000) then k true
                    else
                      bif decide (x4 < 1) then k true
                      else
                        bif decide (x4 > 10000000) then k true
                        else
                          bif decide (x5 < 1) then k true
                          else
                            bif decide (x5 > 10000000) then k true
                            else
                              Option.bind (g_earth_New x0 x1 x2) fun (d : Unit ⊕ Int × Int × Int × Int × Int) =>
                                bif
                                    match d with
                                    | Sum.inl val => true
                                    | Sum.inr val => false then
                                  Option.bind
                                    (match d with
                                    | Sum.inl a => some a
                                    | Sum.inr val => none)
                                    fun (d : Unit) => k false
                                else
                                  Option.bind
                                    (match d with
                                    | Sum.inr b => some b
                                    | Sum.inl val => none)
                                    fun (d : Int × Int × Int × Int × Int) =>
                                    bif decide (IntKind.wrap IntKind.i64 (x1 + x4) > 1800000000) then
                                      Option.bind
                                        (g___earth_Frame__To (IntKind.wrap IntKind.i64 (x0 + x3)) (IntKind.wrap IntKind.i64 (IntKind.wrap IntKind.i64 (x1 + x4) - 3600000000))
                                          (IntKind.wrap IntKind.i64 (x2 + x5)) d.1 d.2.1 d.2.2.1 d.2.2.2.1 d.2.2.2.2 false)
                                        fun (d_1 : Int × Int × Int × Int × Bool) =>
                                        Option.bind (g___earth_Frame__To x0 x1 x2 d.1 d.2.1 d.2.2.1 d.2.2.2.1 d.2.2.2.2 d_1.2.2.2.2)
                                          fun (d : Int × Int × Int × Int × Bool) =>
                                          bif d_1.2.2.2.1 == 0 then
                                            bif d.2.2.2.1 == 0 then
                                              bif d.1 == 0 && (d.2.1 == 0 && (d.2.2.1 == 0 && true)) then
                                                bif decide (d_1.1 > 0) then
                                                  bif decide (d_1.2.1 > 0) then
                                                    bif decide (d_1.2.2.1 < 0) then
                                                      bif decide (IntKind.wrap IntKind.i64 (d_1.1 - IntKind.wrap IntKind.i64 (x3 * 11860000)) ≤ IntKind.wrap IntKind.i64 (x3 * 200000)) then
                                                        bif
                                                            decide
                                                              (IntKind.wrap IntKind.i64 (d_1.1 - IntKind.wrap IntKind.i64 (x3 * 11860000)) ≥
                                                                IntKind.wrap IntKind.i64 (IntKind.wrap IntKind.i64 (0 - x3) * 200000)) then
                                                          k !d.2.2.2.2
                                                        else k false
                                                      else k false
                                                    else k false
                                                  else k false
                                                else k false
                                              else k false
                                            else k false
                                          else k false
                                    else
                                      Option.bind
                                        (g___earth_Frame__To (IntKind.wrap IntKind.i64 (x0 + x3)) (IntKind.wrap IntKind.i64 (x1 + x4)) (IntKind.wrap IntKind.i64 (x2 + x5)) d.1 d.2.1 d.2.2.1
                                          d.2.2.2.1 d.2.2.2.2 false)
                                        fun (d_1 : Int × Int × Int × Int × Bool) =>
                                        Option.bind (g___earth_Frame__To x0 x1 x2 d.1 d.2.1 d.2.2.1 d.2.2.2.1 d.2.2.2.2 d_1.2.2.2.2)
                                          fun (d : Int × Int × Int × Int × Bool) =>
                                          bif d_1.2.2.2.1 == 0 then
                                            bif d.2.2.2.1 == 0 then
                                              bif d.1 == 0 && (d.2.1 == 0 && (d.2.2.1 == 0 && true)) then
                                                bif decide (d_1.1 > 0) then
                                                  bif decide (d_1.2.1 > 0) then
                                                    bif decide (d_1.2.2.1 < 0) then
                                                      bif decide (IntKind.wrap IntKind.i64 (d_1.1 - IntKind.wrap IntKind.i64 (x3 * 11860000)) ≤ IntKind.wrap IntKind.i64 (x3 * 200000)) then
                                                        bif
                                                            decide
                                                              (IntKind.wrap IntKind.i64 (d_1.1 - IntKind.wrap IntKind.i64 (x3 * 11860000)) ≥
                                                                IntKind.wrap IntKind.i64 (IntKind.wrap IntKind.i64 (0 - x3) * 200000)) then
                                                          k !d.2.2.2.2
                                                        else k false
                                                      else k false
                                                    else k false
                                                  else k false
                                                else k false
                                              else k false
                                            else k false
                                          else k false
def f_astrolabelaw8_EarthPlane (x0 : Int) (x1 : Int) (x2 : Int) (x3 : Int) (x4 : Int) (x5 : Int) : Option (Bool) := K_astrolabelaw8_EarthPlane f_astrolabelaw8_awake f_earth_Good f_earth_New f___earth_Frame__To  x0 x1 x2 x3 x4 x5 some
section
open Go.Ab.Rdr
def QA_astrolabelaw8_EarthPlane := ((pair (cons (ar (ra (cons (gc (cf (fi .i64 hole))) (cons (gc (cf (fi .i64 hole))) (cons (gc (cf (fi .i64 hole))) nil))))) (cons (ar (rc (cf (fi .i64 hole)))) (cons (ar (rc (cf (fi .i64 hole)))) (cons (ar (rc (cf (fi .i64 hole)))) nil)))) nil) : Rdr (List AV × List Blk) _)
end
def F_astrolabelaw8_EarthPlane (f : (Int) → (Int) → (Int) → (Int) → (Int) → (Int) → Option (Bool)) : Sem1 := fun args h => match (QA_astrolabelaw8_EarthPlane).rd (args, h) with
  | some b => .opt (f b.1.1.1 b.1.1.2.1 b.1.1.2.2.1 b.1.2.1 b.1.2.2.1 b.1.2.2.2.1) fun (d : Bool) => .leaf (Res.mk (AV.r (RV.c (CV.f (FV.b d)))) [] [])
  | none => .fail
theorem d_astrolabelaw8_EarthPlane (g_astrolabelaw8_awake : Option Bool) (g_earth_Good : Int → Int → Int → Option Bool) (g_earth_New : Int → Int → Int → Option (Unit ⊕ Int × Int × Int × Int × Int)) (g___earth_Frame__To : Int → Int → Int → Int → Int → Int → Int → Int → Bool → Option (Int × Int × Int × Int × Bool))  (x0 : Int) (x1 : Int) (x2 : Int) (x3 : Int) (x4 : Int) (x5 : Int) : den Try.prog (envOf [(36, F_astrolabelaw8_awake g_astrolabelaw8_awake), (40, F_earth_Good g_earth_Good), (37, F_earth_New g_earth_New), (39, F___earth_Frame__To g___earth_Frame__To)]) ⟨[], [], [], [], none⟩ 200 11 [.r (.agg [.c (.f (.i .i64 x0)), .c (.f (.i .i64 x1)), .c (.f (.i .i64 x2))]), .r (.c (.f (.i .i64 x3))), .r (.c (.f (.i .i64 x4))), .r (.c (.f (.i .i64 x5)))] [] =
    K_astrolabelaw8_EarthPlane g_astrolabelaw8_awake g_earth_Good g_earth_New g___earth_Frame__To  x0 x1 x2 x3 x4 x5 (fun (d : Bool) => some (Res.mk (AV.r (RV.c (CV.f (FV.b d)))) [] [])) := by kernel_rfl
theorem m_astrolabelaw8_EarthPlane {ρ σ : Type} (q : ρ → Option σ) (g_astrolabelaw8_awake : Option Bool) (g_earth_Good : Int → Int → Int → Option Bool) (g_earth_New : Int → Int → Int → Option (Unit ⊕ Int × Int × Int × Int × Int)) (g___earth_Frame__To : Int → Int → Int → Int → Int → Int → Int → Int → Bool → Option (Int × Int × Int × Int × Bool))   (x0 : Int) (x1 : Int) (x2 : Int) (x3 : Int) (x4 : Int) (x5 : Int) (k : (Bool) → Option ρ) : (K_astrolabelaw8_EarthPlane g_astrolabelaw8_awake g_earth_Good g_earth_New g___earth_Frame__To  x0 x1 x2 x3 x4 x5 k).bind q = K_astrolabelaw8_EarthPlane g_astrolabelaw8_awake g_earth_Good g_earth_New g___earth_Frame__To  x0 x1 x2 x3 x4 x5 (fun d => (k d).bind q) := by
  simp only [K_astrolabelaw8_EarthPlane, bnd_cond, bnd_bind, bnd_none, bnd_sum]
theorem qa_astrolabelaw8_EarthPlane : ∀ b, (QA_astrolabelaw8_EarthPlane).em b = ([.r (.agg [.c (.f (.i .i64 b.1.1.1)), .c (.f (.i .i64 b.1.1.2.1)), .c (.f (.i .i64 b.1.1.2.2.1))]), .r (.c (.f (.i .i64 b.1.2.1))), .r (.c (.f (.i .i64 b.1.2.2.1))), .r (.c (.f (.i .i64 b.1.2.2.2.1)))], []) := fun b => by kernel_rfl
theorem e_astrolabelaw8_EarthPlane {f : (Int) → (Int) → (Int) → (Int) → (Int) → (Int) → Option (Bool)} {args : List AV} {h : List Blk} {r : Res} (hr : (F_astrolabelaw8_EarthPlane f args h).eval = some r) : ∃ x0 x1 x2 x3 x4 x5, args = [.r (.agg [.c (.f (.i .i64 x0)), .c (.f (.i .i64 x1)), .c (.f (.i .i64 x2))]), .r (.c (.f (.i .i64 x3))), .r (.c (.f (.i .i64 x4))), .r (.c (.f (.i .i64 x5)))] ∧ h = [] ∧ (f x0 x1 x2 x3 x4 x5).bind (fun (d : Bool) => some (Res.mk (AV.r (RV.c (CV.f (FV.b d)))) [] [])) = some r := by
  unfold F_astrolabelaw8_EarthPlane at hr
  split at hr
  · rename_i b hb
    have e := ((QA_astrolabelaw8_EarthPlane).ok _ _ hb).trans (qa_astrolabelaw8_EarthPlane b)
    rw [opt_eval2] at hr
    exact ⟨b.1.1.1, b.1.1.2.1, b.1.1.2.2.1, b.1.2.1, b.1.2.2.1, b.1.2.2.2.1, (Prod.mk.inj e).1, (Prod.mk.inj e).2, hr⟩
  · cases hr
theorem n_astrolabelaw8_EarthPlane {σ : Type} (q : (Bool) → Option σ) (x0 : Int) (x1 : Int) (x2 : Int) (x3 : Int) (x4 : Int) (x5 : Int) : (f_astrolabelaw8_EarthPlane x0 x1 x2 x3 x4 x5).bind q = K_astrolabelaw8_EarthPlane f_astrolabelaw8_awake f_earth_Good f_earth_New f___earth_Frame__To  x0 x1 x2 x3 x4 x5 q := by
  unfold f_astrolabelaw8_EarthPlane
  exact m_astrolabelaw8_EarthPlane q f_astrolabelaw8_awake f_earth_Good f_earth_New f___earth_Frame__To   x0 x1 x2 x3 x4 x5 some
theorem s_astrolabelaw8_EarthPlane : Sound Try.prog 11 (F_astrolabelaw8_EarthPlane f_astrolabelaw8_EarthPlane) :=
  (inl_sound (l := [(36, F_astrolabelaw8_awake f_astrolabelaw8_awake), (40, F_earth_Good f_earth_Good), (37, F_earth_New f_earth_New), (39, F___earth_Frame__To f___earth_Frame__To)]) (.cons s_astrolabelaw8_awake (.cons s_earth_Good (.cons s_earth_New (.cons s___earth_Frame__To (.nil _))))) mixed [] [] 200 (by kernel_rfl)).by (F := F_astrolabelaw8_EarthPlane f_astrolabelaw8_EarthPlane) fun args b r hr => by
  obtain ⟨x0, x1, x2, x3, x4, x5, rfl, rfl, hr1⟩ := e_astrolabelaw8_EarthPlane hr
  exact inl_eval ((d_astrolabelaw8_EarthPlane f_astrolabelaw8_awake f_earth_Good f_earth_New f___earth_Frame__To  x0 x1 x2 x3 x4 x5).trans ((n_astrolabelaw8_EarthPlane (fun (d : Bool) => some (Res.mk (AV.r (RV.c (CV.f (FV.b d)))) [] [])) x0 x1 x2 x3 x4 x5).symm.trans hr1))

end Go.Proofs.Ytcalippagaaikaa
