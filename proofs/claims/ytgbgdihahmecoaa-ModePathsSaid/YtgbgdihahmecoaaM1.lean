/-
  Contracts by plain functions: mode.Good, mode.next, mode.sensor, mode.source, (mode.Event).Changed, astrolabelaw25.own, astrolaberef25.Good, mode.Step
-/
import Derived.Test.YtgbgdihahmecoaaAbNil
set_option maxRecDepth 100000
set_option maxHeartbeats 4000000
set_option linter.unusedVariables false
namespace Go.Proofs.Ytgbgdihahmecoaa
open Go.Ab
def K_mode_Good {ρ : Type}   (x0 : Int) (x1 : Int) (x2 : Bool) (x3 : Bool) (k : (Bool) → Option ρ) : Option ρ :=
  bif x0 == 0 then
    bif x0 == 0 then bif x1 == 0 then bif !x2 then k !x3 else k false else k false
    else
      bif x0 == 2 then bif x0 == 2 then bif decide (x1 ≥ 1) then bif decide (x1 ≤ 3) then bif x2 then k true else k (x0 == 2) else k false else k false else k false
      else bif x0 == 3 then bif decide (x1 ≥ 1) then bif decide (x1 ≤ 3) then bif x2 then k true else k (x0 == 2) else k false else k false else k false
  else
    bif x0 == 1 then bif x1 == 0 then bif !x2 then k !x3 else k false else k false
    else
      bif x0 == 2 then bif x0 == 2 then bif decide (x1 ≥ 1) then bif decide (x1 ≤ 3) then bif x2 then k true else k (x0 == 2) else k false else k false else k false
      else bif x0 == 3 then bif decide (x1 ≥ 1) then bif decide (x1 ≤ 3) then bif x2 then k true else k (x0 == 2) else k false else k false else k false
def f_mode_Good (x0 : Int) (x1 : Int) (x2 : Bool) (x3 : Bool) : Option (Bool) := K_mode_Good   x0 x1 x2 x3 some
section
open Go.Ab.Rdr
def QA_mode_Good := ((pair (cons (ar (ra (cons (gc (cf (fi .i64 hole))) (cons (gc (cf (fi .i64 hole))) (cons (gc (cf (fb hole))) (cons (gc (cf (fb hole))) nil)))))) nil) nil) : Rdr (List AV × List Blk) _)
end
def F_mode_Good (f : (Int) → (Int) → (Bool) → (Bool) → Option (Bool)) : Sem1 := fun args h => match (QA_mode_Good).rd (args, h) with
  | some b => .opt (f b.1.1.1 b.1.1.2.1 b.1.1.2.2.1 b.1.1.2.2.2.1) fun (d : Bool) => .leaf (Res.mk (AV.r (RV.c (CV.f (FV.b d)))) [] [])
  | none => .fail
theorem d_mode_Good   (x0 : Int) (x1 : Int) (x2 : Bool) (x3 : Bool) : den Try.prog (envOf []) ⟨[], [], [], [], none⟩ 200 13 [.r (.agg [.c (.f (.i .i64 x0)), .c (.f (.i .i64 x1)), .c (.f (.b x2)), .c (.f (.b x3))])] [] =
    K_mode_Good   x0 x1 x2 x3 (fun (d : Bool) => some (Res.mk (AV.r (RV.c (CV.f (FV.b d)))) [] [])) := by kernel_rfl
theorem m_mode_Good {ρ σ : Type} (q : ρ → Option σ)    (x0 : Int) (x1 : Int) (x2 : Bool) (x3 : Bool) (k : (Bool) → Option ρ) : (K_mode_Good   x0 x1 x2 x3 k).bind q = K_mode_Good   x0 x1 x2 x3 (fun d => (k d).bind q) := by
  simp only [K_mode_Good, bnd_cond, bnd_bind, bnd_none, bnd_sum]
theorem qa_mode_Good : ∀ b, (QA_mode_Good).em b = ([.r (.agg [.c (.f (.i .i64 b.1.1.1)), .c (.f (.i .i64 b.1.1.2.1)), .c (.f (.b b.1.1.2.2.1)), .c (.f (.b b.1.1.2.2.2.1))])], []) := fun b => by kernel_rfl
theorem e_mode_Good {f : (Int) → (Int) → (Bool) → (Bool) → Option (Bool)} {args : List AV} {h : List Blk} {r : Res} (hr : (F_mode_Good f args h).eval = some r) : ∃ x0 x1 x2 x3, args = [.r (.agg [.c (.f (.i .i64 x0)), .c (.f (.i .i64 x1)), .c (.f (.b x2)), .c (.f (.b x3))])] ∧ h = [] ∧ (f x0 x1 x2 x3).bind (fun (d : Bool) => some (Res.mk (AV.r (RV.c (CV.f (FV.b d)))) [] [])) = some r := by
  unfold F_mode_Good at hr
  split at hr
  · rename_i b hb
    have e := ((QA_mode_Good).ok _ _ hb).trans (qa_mode_Good b)
    rw [opt_eval2] at hr
    exact ⟨b.1.1.1, b.1.1.2.1, b.1.1.2.2.1, b.1.1.2.2.2.1, (Prod.mk.inj e).1, (Prod.mk.inj e).2, hr⟩
  · cases hr
theorem n_mode_Good {σ : Type} (q : (Bool) → Option σ) (x0 : Int) (x1 : Int) (x2 : Bool) (x3 : Bool) : (f_mode_Good x0 x1 x2 x3).bind q = K_mode_Good   x0 x1 x2 x3 q := by
  unfold f_mode_Good
  exact m_mode_Good q    x0 x1 x2 x3 some
theorem s_mode_Good : Sound Try.prog 13 (F_mode_Good f_mode_Good) :=
  (inl_sound (l := []) (.nil _) mixed [] [] 200 (by kernel_rfl)).by (F := F_mode_Good f_mode_Good) fun args b r hr => by
  obtain ⟨x0, x1, x2, x3, rfl, rfl, hr1⟩ := e_mode_Good hr
  exact inl_eval ((d_mode_Good   x0 x1 x2 x3).trans ((n_mode_Good (fun (d : Bool) => some (Res.mk (AV.r (RV.c (CV.f (FV.b d)))) [] [])) x0 x1 x2 x3).symm.trans hr1))

def K_mode_next {ρ : Type}   (x0 : Int) (x1 : Bool) (x2 : Bool) (x3 : Bool) (x4 : Bool) (x5 : Bool) (x6 : Bool) (x7 : Bool) (x8 : Bool) (x9 : Int) (x10 : Int) (x11 : Int) (k : (Int) → Option ρ) : Option ρ :=
  bif x3 then
    bif x0 == 0 then bif x1 then k 1 else bif x0 == 0 then k x0 else bif x0 == 1 then bif !x2 then k x0 else k 3 else k 3
    else bif x0 == 0 then k x0 else bif x0 == 1 then bif !x2 then k x0 else k 3 else k 3
  else
    bif x0 == 0 then bif x1 then k 1 else bif x0 == 0 then k x0 else bif x0 == 1 then bif !x2 then k x0 else bif x8 then k 3 else k 2 else bif x8 then k 3 else k 2
    else bif x0 == 0 then k x0 else bif x0 == 1 then bif !x2 then k x0 else bif x8 then k 3 else k 2 else bif x8 then k 3 else k 2
def f_mode_next (x0 : Int) (x1 : Bool) (x2 : Bool) (x3 : Bool) (x4 : Bool) (x5 : Bool) (x6 : Bool) (x7 : Bool) (x8 : Bool) (x9 : Int) (x10 : Int) (x11 : Int) : Option (Int) := K_mode_next   x0 x1 x2 x3 x4 x5 x6 x7 x8 x9 x10 x11 some
section
open Go.Ab.Rdr
def QA_mode_next := ((pair (cons (ar (rc (cf (fi .i64 hole)))) (cons (ar (ra (cons (gc (cf (fb hole))) (cons (gc (cf (fb hole))) (cons (gc (cf (fb hole))) (cons (gc (cf (fb hole))) (cons (gc (cf (fb hole))) (cons (gc (cf (fb hole))) (cons (gc (cf (fb hole))) (cons (gc (cf (fb hole))) (cons (gc (cf (fi .i64 hole))) (cons (gc (cf (fi .i64 hole))) (cons (gc (cf (fi .i64 hole))) nil))))))))))))) nil)) nil) : Rdr (List AV × List Blk) _)
end
def F_mode_next (f : (Int) → (Bool) → (Bool) → (Bool) → (Bool) → (Bool) → (Bool) → (Bool) → (Bool) → (Int) → (Int) → (Int) → Option (Int)) : Sem1 := fun args h => match (QA_mode_next).rd (args, h) with
  | some b => .opt (f b.1.1 b.1.2.1.1 b.1.2.1.2.1 b.1.2.1.2.2.1 b.1.2.1.2.2.2.1 b.1.2.1.2.2.2.2.1 b.1.2.1.2.2.2.2.2.1 b.1.2.1.2.2.2.2.2.2.1 b.1.2.1.2.2.2.2.2.2.2.1 b.1.2.1.2.2.2.2.2.2.2.2.1 b.1.2.1.2.2.2.2.2.2.2.2.2.1 b.1.2.1.2.2.2.2.2.2.2.2.2.2.1) fun (d : Int) => .leaf (Res.mk (AV.r (RV.c (CV.f (FV.i IntKind.i64 d)))) [] [])
  | none => .fail
theorem d_mode_next   (x0 : Int) (x1 : Bool) (x2 : Bool) (x3 : Bool) (x4 : Bool) (x5 : Bool) (x6 : Bool) (x7 : Bool) (x8 : Bool) (x9 : Int) (x10 : Int) (x11 : Int) : den Try.prog (envOf []) ⟨[], [], [], [], none⟩ 200 17 [.r (.c (.f (.i .i64 x0))), .r (.agg [.c (.f (.b x1)), .c (.f (.b x2)), .c (.f (.b x3)), .c (.f (.b x4)), .c (.f (.b x5)), .c (.f (.b x6)), .c (.f (.b x7)), .c (.f (.b x8)), .c (.f (.i .i64 x9)), .c (.f (.i .i64 x10)), .c (.f (.i .i64 x11))])] [] =
    K_mode_next   x0 x1 x2 x3 x4 x5 x6 x7 x8 x9 x10 x11 (fun (d : Int) => some (Res.mk (AV.r (RV.c (CV.f (FV.i IntKind.i64 d)))) [] [])) := by kernel_rfl
theorem m_mode_next {ρ σ : Type} (q : ρ → Option σ)    (x0 : Int) (x1 : Bool) (x2 : Bool) (x3 : Bool) (x4 : Bool) (x5 : Bool) (x6 : Bool) (x7 : Bool) (x8 : Bool) (x9 : Int) (x10 : Int) (x11 : Int) (k : (Int) → Option ρ) : (K_mode_next   x0 x1 x2 x3 x4 x5 x6 x7 x8 x9 x10 x11 k).bind q = K_mode_next   x0 x1 x2 x3 x4 x5 x6 x7 x8 x9 x10 x11 (fun d => (k d).bind q) := by
  simp only [K_mode_next, bnd_cond, bnd_bind, bnd_none, bnd_sum]
theorem qa_mode_next : ∀ b, (QA_mode_next).em b = ([.r (.c (.f (.i .i64 b.1.1))), .r (.agg [.c (.f (.b b.1.2.1.1)), .c (.f (.b b.1.2.1.2.1)), .c (.f (.b b.1.2.1.2.2.1)), .c (.f (.b b.1.2.1.2.2.2.1)), .c (.f (.b b.1.2.1.2.2.2.2.1)), .c (.f (.b b.1.2.1.2.2.2.2.2.1)), .c (.f (.b b.1.2.1.2.2.2.2.2.2.1)), .c (.f (.b b.1.2.1.2.2.2.2.2.2.2.1)), .c (.f (.i .i64 b.1.2.1.2.2.2.2.2.2.2.2.1)), .c (.f (.i .i64 b.1.2.1.2.2.2.2.2.2.2.2.2.1)), .c (.f (.i .i64 b.1.2.1.2.2.2.2.2.2.2.2.2.2.1))])], []) := fun b => by kernel_rfl
theorem e_mode_next {f : (Int) → (Bool) → (Bool) → (Bool) → (Bool) → (Bool) → (Bool) → (Bool) → (Bool) → (Int) → (Int) → (Int) → Option (Int)} {args : List AV} {h : List Blk} {r : Res} (hr : (F_mode_next f args h).eval = some r) : ∃ x0 x1 x2 x3 x4 x5 x6 x7 x8 x9 x10 x11, args = [.r (.c (.f (.i .i64 x0))), .r (.agg [.c (.f (.b x1)), .c (.f (.b x2)), .c (.f (.b x3)), .c (.f (.b x4)), .c (.f (.b x5)), .c (.f (.b x6)), .c (.f (.b x7)), .c (.f (.b x8)), .c (.f (.i .i64 x9)), .c (.f (.i .i64 x10)), .c (.f (.i .i64 x11))])] ∧ h = [] ∧ (f x0 x1 x2 x3 x4 x5 x6 x7 x8 x9 x10 x11).bind (fun (d : Int) => some (Res.mk (AV.r (RV.c (CV.f (FV.i IntKind.i64 d)))) [] [])) = some r := by
  unfold F_mode_next at hr
  split at hr
  · rename_i b hb
    have e := ((QA_mode_next).ok _ _ hb).trans (qa_mode_next b)
    rw [opt_eval2] at hr
    exact ⟨b.1.1, b.1.2.1.1, b.1.2.1.2.1, b.1.2.1.2.2.1, b.1.2.1.2.2.2.1, b.1.2.1.2.2.2.2.1, b.1.2.1.2.2.2.2.2.1, b.1.2.1.2.2.2.2.2.2.1, b.1.2.1.2.2.2.2.2.2.2.1, b.1.2.1.2.2.2.2.2.2.2.2.1, b.1.2.1.2.2.2.2.2.2.2.2.2.1, b.1.2.1.2.2.2.2.2.2.2.2.2.2.1, (Prod.mk.inj e).1, (Prod.mk.inj e).2, hr⟩
  · cases hr
theorem n_mode_next {σ : Type} (q : (Int) → Option σ) (x0 : Int) (x1 : Bool) (x2 : Bool) (x3 : Bool) (x4 : Bool) (x5 : Bool) (x6 : Bool) (x7 : Bool) (x8 : Bool) (x9 : Int) (x10 : Int) (x11 : Int) : (f_mode_next x0 x1 x2 x3 x4 x5 x6 x7 x8 x9 x10 x11).bind q = K_mode_next   x0 x1 x2 x3 x4 x5 x6 x7 x8 x9 x10 x11 q := by
  unfold f_mode_next
  exact m_mode_next q    x0 x1 x2 x3 x4 x5 x6 x7 x8 x9 x10 x11 some
theorem s_mode_next : Sound Try.prog 17 (F_mode_next f_mode_next) :=
  (inl_sound (l := []) (.nil _) mixed [] [] 200 (by kernel_rfl)).by (F := F_mode_next f_mode_next) fun args b r hr => by
  obtain ⟨x0, x1, x2, x3, x4, x5, x6, x7, x8, x9, x10, x11, rfl, rfl, hr1⟩ := e_mode_next hr
  exact inl_eval ((d_mode_next   x0 x1 x2 x3 x4 x5 x6 x7 x8 x9 x10 x11).trans ((n_mode_next (fun (d : Int) => some (Res.mk (AV.r (RV.c (CV.f (FV.i IntKind.i64 d)))) [] [])) x0 x1 x2 x3 x4 x5 x6 x7 x8 x9 x10 x11).symm.trans hr1))

def K_mode_sensor {ρ : Type}   (x0 : Int) (k : (Int) → Option ρ) : Option ρ :=
  bif x0 == 1 then k 1 else bif x0 == 2 then k 0 else k 2
def f_mode_sensor (x0 : Int) : Option (Int) := K_mode_sensor   x0 some
section
open Go.Ab.Rdr
def QA_mode_sensor := ((pair (cons (ar (rc (cf (fi .i64 hole)))) nil) nil) : Rdr (List AV × List Blk) _)
end
def F_mode_sensor (f : (Int) → Option (Int)) : Sem1 := fun args h => match (QA_mode_sensor).rd (args, h) with
  | some b => .opt (f b.1.1) fun (d : Int) => .leaf (Res.mk (AV.r (RV.c (CV.f (FV.i IntKind.i64 d)))) [] [])
  | none => .fail
theorem d_mode_sensor   (x0 : Int) : den Try.prog (envOf []) ⟨[], [], [], [], none⟩ 200 19 [.r (.c (.f (.i .i64 x0)))] [] =
    K_mode_sensor   x0 (fun (d : Int) => some (Res.mk (AV.r (RV.c (CV.f (FV.i IntKind.i64 d)))) [] [])) := by kernel_rfl
theorem m_mode_sensor {ρ σ : Type} (q : ρ → Option σ)    (x0 : Int) (k : (Int) → Option ρ) : (K_mode_sensor   x0 k).bind q = K_mode_sensor   x0 (fun d => (k d).bind q) := by
  simp only [K_mode_sensor, bnd_cond, bnd_bind, bnd_none, bnd_sum]
theorem qa_mode_sensor : ∀ b, (QA_mode_sensor).em b = ([.r (.c (.f (.i .i64 b.1.1)))], []) := fun b => by kernel_rfl
theorem e_mode_sensor {f : (Int) → Option (Int)} {args : List AV} {h : List Blk} {r : Res} (hr : (F_mode_sensor f args h).eval = some r) : ∃ x0, args = [.r (.c (.f (.i .i64 x0)))] ∧ h = [] ∧ (f x0).bind (fun (d : Int) => some (Res.mk (AV.r (RV.c (CV.f (FV.i IntKind.i64 d)))) [] [])) = some r := by
  unfold F_mode_sensor at hr
  split at hr
  · rename_i b hb
    have e := ((QA_mode_sensor).ok _ _ hb).trans (qa_mode_sensor b)
    rw [opt_eval2] at hr
    exact ⟨b.1.1, (Prod.mk.inj e).1, (Prod.mk.inj e).2, hr⟩
  · cases hr
theorem n_mode_sensor {σ : Type} (q : (Int) → Option σ) (x0 : Int) : (f_mode_sensor x0).bind q = K_mode_sensor   x0 q := by
  unfold f_mode_sensor
  exact m_mode_sensor q    x0 some
theorem s_mode_sensor : Sound Try.prog 19 (F_mode_sensor f_mode_sensor) :=
  (inl_sound (l := []) (.nil _) mixed [] [] 200 (by kernel_rfl)).by (F := F_mode_sensor f_mode_sensor) fun args b r hr => by
  obtain ⟨x0, rfl, rfl, hr1⟩ := e_mode_sensor hr
  exact inl_eval ((d_mode_sensor   x0).trans ((n_mode_sensor (fun (d : Int) => some (Res.mk (AV.r (RV.c (CV.f (FV.i IntKind.i64 d)))) [] [])) x0).symm.trans hr1))

def K_mode_source {ρ : Type}   (x0 : Int) (x1 : Bool) (x2 : Bool) (x3 : Bool) (x4 : Bool) (x5 : Bool) (x6 : Bool) (x7 : Bool) (x8 : Bool) (x9 : Int) (x10 : Int) (x11 : Int) (k : (Int × Bool) → Option ρ) : Option ρ :=
  bif decide (x11 ≥ 1) then
    bif decide (x11 ≤ 3) then
      Option.bind (f_mode_sensor x11) fun (d : Int) =>
        bif inR d 6 then
          bif d == 5 then bif x8 then k (x11, true) else bif x4 then k (1, true) else bif x3 then k (2, true) else bif x5 then k (3, true) else k (if 1 > x0 then 1 else x0, false)
          else
            bif d == 4 then bif x7 then k (x11, true) else bif x4 then k (1, true) else bif x3 then k (2, true) else bif x5 then k (3, true) else k (if 1 > x0 then 1 else x0, false)
            else
              bif d == 3 then bif x6 then k (x11, true) else bif x4 then k (1, true) else bif x3 then k (2, true) else bif x5 then k (3, true) else k (if 1 > x0 then 1 else x0, false)
              else
                bif d == 2 then bif x5 then k (x11, true) else bif x4 then k (1, true) else bif x3 then k (2, true) else bif x5 then k (3, true) else k (if 1 > x0 then 1 else x0, false)
                else
                  bif d == 1 then bif x4 then k (x11, true) else bif x4 then k (1, true) else bif x3 then k (2, true) else bif x5 then k (3, true) else k (if 1 > x0 then 1 else x0, false)
                  else bif x3 then k (x11, true) else bif x4 then k (1, true) else bif x3 then k (2, true) else bif x5 then k (3, true) else k (if 1 > x0 then 1 else x0, false)
        else none
    else bif x4 then k (1, true) else bif x3 then k (2, true) else bif x5 then k (3, true) else k (if 1 > x0 then 1 else x0, false)
  else bif x4 then k (1, true) else bif x3 then k (2, true) else bif x5 then k (3, true) else k (if 1 > x0 then 1 else x0, false)
def f_mode_source (x0 : Int) (x1 : Bool) (x2 : Bool) (x3 : Bool) (x4 : Bool) (x5 : Bool) (x6 : Bool) (x7 : Bool) (x8 : Bool) (x9 : Int) (x10 : Int) (x11 : Int) : Option (Int × Bool) := K_mode_source   x0 x1 x2 x3 x4 x5 x6 x7 x8 x9 x10 x11 some
section
open Go.Ab.Rdr
def QA_mode_source := ((pair (cons (ar (rc (cf (fi .i64 hole)))) (cons (ar (ra (cons (gc (cf (fb hole))) (cons (gc (cf (fb hole))) (cons (gc (cf (fb hole))) (cons (gc (cf (fb hole))) (cons (gc (cf (fb hole))) (cons (gc (cf (fb hole))) (cons (gc (cf (fb hole))) (cons (gc (cf (fb hole))) (cons (gc (cf (fi .i64 hole))) (cons (gc (cf (fi .i64 hole))) (cons (gc (cf (fi .i64 hole))) nil))))))))))))) nil)) nil) : Rdr (List AV × List Blk) _)
end
def F_mode_source (f : (Int) → (Bool) → (Bool) → (Bool) → (Bool) → (Bool) → (Bool) → (Bool) → (Bool) → (Int) → (Int) → (Int) → Option (Int × Bool)) : Sem1 := fun args h => match (QA_mode_source).rd (args, h) with
  | some b => .opt (f b.1.1 b.1.2.1.1 b.1.2.1.2.1 b.1.2.1.2.2.1 b.1.2.1.2.2.2.1 b.1.2.1.2.2.2.2.1 b.1.2.1.2.2.2.2.2.1 b.1.2.1.2.2.2.2.2.2.1 b.1.2.1.2.2.2.2.2.2.2.1 b.1.2.1.2.2.2.2.2.2.2.2.1 b.1.2.1.2.2.2.2.2.2.2.2.2.1 b.1.2.1.2.2.2.2.2.2.2.2.2.2.1) fun (d : Int × Bool) => .leaf (Res.mk (AV.tup [RV.c (CV.f (FV.i IntKind.i64 d.fst)), RV.c (CV.f (FV.b d.snd))]) [] [])
  | none => .fail
theorem d_mode_source   (x0 : Int) (x1 : Bool) (x2 : Bool) (x3 : Bool) (x4 : Bool) (x5 : Bool) (x6 : Bool) (x7 : Bool) (x8 : Bool) (x9 : Int) (x10 : Int) (x11 : Int) : den Try.prog (envOf [(19, F_mode_sensor f_mode_sensor)]) ⟨[⟨2, [1, 4, 5, 7, 8, 9, 13, 14, 15, 16, 17, 18, 21, 22, 28, 29, 30, 31, 32], []⟩], [], [], [], none⟩ 200 18 [.r (.c (.f (.i .i64 x0))), .r (.agg [.c (.f (.b x1)), .c (.f (.b x2)), .c (.f (.b x3)), .c (.f (.b x4)), .c (.f (.b x5)), .c (.f (.b x6)), .c (.f (.b x7)), .c (.f (.b x8)), .c (.f (.i .i64 x9)), .c (.f (.i .i64 x10)), .c (.f (.i .i64 x11))])] [] =
    K_mode_source   x0 x1 x2 x3 x4 x5 x6 x7 x8 x9 x10 x11 (fun (d : Int × Bool) => some (Res.mk (AV.tup [RV.c (CV.f (FV.i IntKind.i64 d.fst)), RV.c (CV.f (FV.b d.snd))]) [] [])) := by kernel_rfl
theorem m_mode_source {ρ σ : Type} (q : ρ → Option σ)    (x0 : Int) (x1 : Bool) (x2 : Bool) (x3 : Bool) (x4 : Bool) (x5 : Bool) (x6 : Bool) (x7 : Bool) (x8 : Bool) (x9 : Int) (x10 : Int) (x11 : Int) (k : (Int × Bool) → Option ρ) : (K_mode_source   x0 x1 x2 x3 x4 x5 x6 x7 x8 x9 x10 x11 k).bind q = K_mode_source   x0 x1 x2 x3 x4 x5 x6 x7 x8 x9 x10 x11 (fun d => (k d).bind q) := by
  simp only [K_mode_source, bnd_cond, bnd_bind, bnd_none, bnd_sum]
theorem qa_mode_source : ∀ b, (QA_mode_source).em b = ([.r (.c (.f (.i .i64 b.1.1))), .r (.agg [.c (.f (.b b.1.2.1.1)), .c (.f (.b b.1.2.1.2.1)), .c (.f (.b b.1.2.1.2.2.1)), .c (.f (.b b.1.2.1.2.2.2.1)), .c (.f (.b b.1.2.1.2.2.2.2.1)), .c (.f (.b b.1.2.1.2.2.2.2.2.1)), .c (.f (.b b.1.2.1.2.2.2.2.2.2.1)), .c (.f (.b b.1.2.1.2.2.2.2.2.2.2.1)), .c (.f (.i .i64 b.1.2.1.2.2.2.2.2.2.2.2.1)), .c (.f (.i .i64 b.1.2.1.2.2.2.2.2.2.2.2.2.1)), .c (.f (.i .i64 b.1.2.1.2.2.2.2.2.2.2.2.2.2.1))])], []) := fun b => by kernel_rfl
theorem e_mode_source {f : (Int) → (Bool) → (Bool) → (Bool) → (Bool) → (Bool) → (Bool) → (Bool) → (Bool) → (Int) → (Int) → (Int) → Option (Int × Bool)} {args : List AV} {h : List Blk} {r : Res} (hr : (F_mode_source f args h).eval = some r) : ∃ x0 x1 x2 x3 x4 x5 x6 x7 x8 x9 x10 x11, args = [.r (.c (.f (.i .i64 x0))), .r (.agg [.c (.f (.b x1)), .c (.f (.b x2)), .c (.f (.b x3)), .c (.f (.b x4)), .c (.f (.b x5)), .c (.f (.b x6)), .c (.f (.b x7)), .c (.f (.b x8)), .c (.f (.i .i64 x9)), .c (.f (.i .i64 x10)), .c (.f (.i .i64 x11))])] ∧ h = [] ∧ (f x0 x1 x2 x3 x4 x5 x6 x7 x8 x9 x10 x11).bind (fun (d : Int × Bool) => some (Res.mk (AV.tup [RV.c (CV.f (FV.i IntKind.i64 d.fst)), RV.c (CV.f (FV.b d.snd))]) [] [])) = some r := by
  unfold F_mode_source at hr
  split at hr
  · rename_i b hb
    have e := ((QA_mode_source).ok _ _ hb).trans (qa_mode_source b)
    rw [opt_eval2] at hr
    exact ⟨b.1.1, b.1.2.1.1, b.1.2.1.2.1, b.1.2.1.2.2.1, b.1.2.1.2.2.2.1, b.1.2.1.2.2.2.2.1, b.1.2.1.2.2.2.2.2.1, b.1.2.1.2.2.2.2.2.2.1, b.1.2.1.2.2.2.2.2.2.2.1, b.1.2.1.2.2.2.2.2.2.2.2.1, b.1.2.1.2.2.2.2.2.2.2.2.2.1, b.1.2.1.2.2.2.2.2.2.2.2.2.2.1, (Prod.mk.inj e).1, (Prod.mk.inj e).2, hr⟩
  · cases hr
theorem n_mode_source {σ : Type} (q : (Int × Bool) → Option σ) (x0 : Int) (x1 : Bool) (x2 : Bool) (x3 : Bool) (x4 : Bool) (x5 : Bool) (x6 : Bool) (x7 : Bool) (x8 : Bool) (x9 : Int) (x10 : Int) (x11 : Int) : (f_mode_source x0 x1 x2 x3 x4 x5 x6 x7 x8 x9 x10 x11).bind q = K_mode_source   x0 x1 x2 x3 x4 x5 x6 x7 x8 x9 x10 x11 q := by
  unfold f_mode_source
  exact m_mode_source q    x0 x1 x2 x3 x4 x5 x6 x7 x8 x9 x10 x11 some
theorem s_mode_source : Sound Try.prog 18 (F_mode_source f_mode_source) :=
  (inl_sound (l := [(19, F_mode_sensor f_mode_sensor)]) (.cons s_mode_sensor (.nil _)) mixed [⟨2, [1, 4, 5, 7, 8, 9, 13, 14, 15, 16, 17, 18, 21, 22, 28, 29, 30, 31, 32], []⟩] [] 200 (by kernel_rfl)).by (F := F_mode_source f_mode_source) fun args b r hr => by
  obtain ⟨x0, x1, x2, x3, x4, x5, x6, x7, x8, x9, x10, x11, rfl, rfl, hr1⟩ := e_mode_source hr
  exact inl_eval ((d_mode_source   x0 x1 x2 x3 x4 x5 x6 x7 x8 x9 x10 x11).trans ((n_mode_source (fun (d : Int × Bool) => some (Res.mk (AV.tup [RV.c (CV.f (FV.i IntKind.i64 d.fst)), RV.c (CV.f (FV.b d.snd))]) [] [])) x0 x1 x2 x3 x4 x5 x6 x7 x8 x9 x10 x11).symm.trans hr1))

def K__mode_Event__Changed {ρ : Type}   (x0 : Int) (x1 : Int) (x2 : Bool) (x3 : Bool) (x4 : Int) (x5 : Int) (k : (Bool) → Option ρ) : Option ρ :=
  bif x0 != x4 then k true else k (x1 != x5)
def f__mode_Event__Changed (x0 : Int) (x1 : Int) (x2 : Bool) (x3 : Bool) (x4 : Int) (x5 : Int) : Option (Bool) := K__mode_Event__Changed   x0 x1 x2 x3 x4 x5 some
section
open Go.Ab.Rdr
def QA__mode_Event__Changed := ((pair (cons (ar (ra (cons (gc (cf (fi .i64 hole))) (cons (gc (cf (fi .i64 hole))) (cons (gc (cf (fb hole))) (cons (gc (cf (fb hole))) (cons (gc (cf (fi .i64 hole))) (cons (gc (cf (fi .i64 hole))) nil)))))))) nil) nil) : Rdr (List AV × List Blk) _)
end
def F__mode_Event__Changed (f : (Int) → (Int) → (Bool) → (Bool) → (Int) → (Int) → Option (Bool)) : Sem1 := fun args h => match (QA__mode_Event__Changed).rd (args, h) with
  | some b => .opt (f b.1.1.1 b.1.1.2.1 b.1.1.2.2.1 b.1.1.2.2.2.1 b.1.1.2.2.2.2.1 b.1.1.2.2.2.2.2.1) fun (d : Bool) => .leaf (Res.mk (AV.r (RV.c (CV.f (FV.b d)))) [] [])
  | none => .fail
theorem d__mode_Event__Changed   (x0 : Int) (x1 : Int) (x2 : Bool) (x3 : Bool) (x4 : Int) (x5 : Int) : den Try.prog (envOf []) ⟨[], [], [], [], none⟩ 200 11 [.r (.agg [.c (.f (.i .i64 x0)), .c (.f (.i .i64 x1)), .c (.f (.b x2)), .c (.f (.b x3)), .c (.f (.i .i64 x4)), .c (.f (.i .i64 x5))])] [] =
    K__mode_Event__Changed   x0 x1 x2 x3 x4 x5 (fun (d : Bool) => some (Res.mk (AV.r (RV.c (CV.f (FV.b d)))) [] [])) := by kernel_rfl
theorem m__mode_Event__Changed {ρ σ : Type} (q : ρ → Option σ)    (x0 : Int) (x1 : Int) (x2 : Bool) (x3 : Bool) (x4 : Int) (x5 : Int) (k : (Bool) → Option ρ) : (K__mode_Event__Changed   x0 x1 x2 x3 x4 x5 k).bind q = K__mode_Event__Changed   x0 x1 x2 x3 x4 x5 (fun d => (k d).bind q) := by
  simp only [K__mode_Event__Changed, bnd_cond, bnd_bind, bnd_none, bnd_sum]
theorem qa__mode_Event__Changed : ∀ b, (QA__mode_Event__Changed).em b = ([.r (.agg [.c (.f (.i .i64 b.1.1.1)), .c (.f (.i .i64 b.1.1.2.1)), .c (.f (.b b.1.1.2.2.1)), .c (.f (.b b.1.1.2.2.2.1)), .c (.f (.i .i64 b.1.1.2.2.2.2.1)), .c (.f (.i .i64 b.1.1.2.2.2.2.2.1))])], []) := fun b => by kernel_rfl
theorem e__mode_Event__Changed {f : (Int) → (Int) → (Bool) → (Bool) → (Int) → (Int) → Option (Bool)} {args : List AV} {h : List Blk} {r : Res} (hr : (F__mode_Event__Changed f args h).eval = some r) : ∃ x0 x1 x2 x3 x4 x5, args = [.r (.agg [.c (.f (.i .i64 x0)), .c (.f (.i .i64 x1)), .c (.f (.b x2)), .c (.f (.b x3)), .c (.f (.i .i64 x4)), .c (.f (.i .i64 x5))])] ∧ h = [] ∧ (f x0 x1 x2 x3 x4 x5).bind (fun (d : Bool) => some (Res.mk (AV.r (RV.c (CV.f (FV.b d)))) [] [])) = some r := by
  unfold F__mode_Event__Changed at hr
  split at hr
  · rename_i b hb
    have e := ((QA__mode_Event__Changed).ok _ _ hb).trans (qa__mode_Event__Changed b)
    rw [opt_eval2] at hr
    exact ⟨b.1.1.1, b.1.1.2.1, b.1.1.2.2.1, b.1.1.2.2.2.1, b.1.1.2.2.2.2.1, b.1.1.2.2.2.2.2.1, (Prod.mk.inj e).1, (Prod.mk.inj e).2, hr⟩
  · cases hr
theorem n__mode_Event__Changed {σ : Type} (q : (Bool) → Option σ) (x0 : Int) (x1 : Int) (x2 : Bool) (x3 : Bool) (x4 : Int) (x5 : Int) : (f__mode_Event__Changed x0 x1 x2 x3 x4 x5).bind q = K__mode_Event__Changed   x0 x1 x2 x3 x4 x5 q := by
  unfold f__mode_Event__Changed
  exact m__mode_Event__Changed q    x0 x1 x2 x3 x4 x5 some
theorem s__mode_Event__Changed : Sound Try.prog 11 (F__mode_Event__Changed f__mode_Event__Changed) :=
  (inl_sound (l := []) (.nil _) mixed [] [] 200 (by kernel_rfl)).by (F := F__mode_Event__Changed f__mode_Event__Changed) fun args b r hr => by
  obtain ⟨x0, x1, x2, x3, x4, x5, rfl, rfl, hr1⟩ := e__mode_Event__Changed hr
  exact inl_eval ((d__mode_Event__Changed   x0 x1 x2 x3 x4 x5).trans ((n__mode_Event__Changed (fun (d : Bool) => some (Res.mk (AV.r (RV.c (CV.f (FV.b d)))) [] [])) x0 x1 x2 x3 x4 x5).symm.trans hr1))

def K_astrolabelaw25_own {ρ : Type}   (x0 : Int) (x1 : Int) (x2 : Bool) (x3 : Bool) (k : (Int × Int × Bool × Bool) → Option ρ) : Option ρ :=
  k (x0, x1, x2, x3)
def f_astrolabelaw25_own (x0 : Int) (x1 : Int) (x2 : Bool) (x3 : Bool) : Option (Int × Int × Bool × Bool) := K_astrolabelaw25_own   x0 x1 x2 x3 some
section
open Go.Ab.Rdr
def QA_astrolabelaw25_own := ((pair (cons (ar (ra (cons (gc (cf (fi .i64 hole))) (cons (gc (cf (fi .i64 hole))) (cons (gc (cf (fb hole))) (cons (gc (cf (fb hole))) nil)))))) nil) nil) : Rdr (List AV × List Blk) _)
end
def F_astrolabelaw25_own (f : (Int) → (Int) → (Bool) → (Bool) → Option (Int × Int × Bool × Bool)) : Sem1 := fun args h => match (QA_astrolabelaw25_own).rd (args, h) with
  | some b => .opt (f b.1.1.1 b.1.1.2.1 b.1.1.2.2.1 b.1.1.2.2.2.1) fun (d : Int × Int × Bool × Bool) => .leaf (Res.mk (AV.r (RV.agg [Sg.c (CV.f (FV.i IntKind.i64 d.fst)), Sg.c (CV.f (FV.i IntKind.i64 d.snd.fst)), Sg.c (CV.f (FV.b d.snd.snd.fst)), Sg.c (CV.f (FV.b d.snd.snd.snd))])) [] [])
  | none => .fail
theorem d_astrolabelaw25_own   (x0 : Int) (x1 : Int) (x2 : Bool) (x3 : Bool) : den Try.prog (envOf []) ⟨[], [], [], [], none⟩ 200 15 [.r (.agg [.c (.f (.i .i64 x0)), .c (.f (.i .i64 x1)), .c (.f (.b x2)), .c (.f (.b x3))])] [] =
    K_astrolabelaw25_own   x0 x1 x2 x3 (fun (d : Int × Int × Bool × Bool) => some (Res.mk (AV.r (RV.agg [Sg.c (CV.f (FV.i IntKind.i64 d.fst)), Sg.c (CV.f (FV.i IntKind.i64 d.snd.fst)), Sg.c (CV.f (FV.b d.snd.snd.fst)), Sg.c (CV.f (FV.b d.snd.snd.snd))])) [] [])) := by kernel_rfl
theorem m_astrolabelaw25_own {ρ σ : Type} (q : ρ → Option σ)    (x0 : Int) (x1 : Int) (x2 : Bool) (x3 : Bool) (k : (Int × Int × Bool × Bool) → Option ρ) : (K_astrolabelaw25_own   x0 x1 x2 x3 k).bind q = K_astrolabelaw25_own   x0 x1 x2 x3 (fun d => (k d).bind q) := by
  simp only [K_astrolabelaw25_own, bnd_cond, bnd_bind, bnd_none, bnd_sum]
theorem qa_astrolabelaw25_own : ∀ b, (QA_astrolabelaw25_own).em b = ([.r (.agg [.c (.f (.i .i64 b.1.1.1)), .c (.f (.i .i64 b.1.1.2.1)), .c (.f (.b b.1.1.2.2.1)), .c (.f (.b b.1.1.2.2.2.1))])], []) := fun b => by kernel_rfl
theorem e_astrolabelaw25_own {f : (Int) → (Int) → (Bool) → (Bool) → Option (Int × Int × Bool × Bool)} {args : List AV} {h : List Blk} {r : Res} (hr : (F_astrolabelaw25_own f args h).eval = some r) : ∃ x0 x1 x2 x3, args = [.r (.agg [.c (.f (.i .i64 x0)), .c (.f (.i .i64 x1)), .c (.f (.b x2)), .c (.f (.b x3))])] ∧ h = [] ∧ (f x0 x1 x2 x3).bind (fun (d : Int × Int × Bool × Bool) => some (Res.mk (AV.r (RV.agg [Sg.c (CV.f (FV.i IntKind.i64 d.fst)), Sg.c (CV.f (FV.i IntKind.i64 d.snd.fst)), Sg.c (CV.f (FV.b d.snd.snd.fst)), Sg.c (CV.f (FV.b d.snd.snd.snd))])) [] [])) = some r := by
  unfold F_astrolabelaw25_own at hr
  split at hr
  · rename_i b hb
    have e := ((QA_astrolabelaw25_own).ok _ _ hb).trans (qa_astrolabelaw25_own b)
    rw [opt_eval2] at hr
    exact ⟨b.1.1.1, b.1.1.2.1, b.1.1.2.2.1, b.1.1.2.2.2.1, (Prod.mk.inj e).1, (Prod.mk.inj e).2, hr⟩
  · cases hr
theorem n_astrolabelaw25_own {σ : Type} (q : (Int × Int × Bool × Bool) → Option σ) (x0 : Int) (x1 : Int) (x2 : Bool) (x3 : Bool) : (f_astrolabelaw25_own x0 x1 x2 x3).bind q = K_astrolabelaw25_own   x0 x1 x2 x3 q := by
  unfold f_astrolabelaw25_own
  exact m_astrolabelaw25_own q    x0 x1 x2 x3 some
theorem s_astrolabelaw25_own : Sound Try.prog 15 (F_astrolabelaw25_own f_astrolabelaw25_own) :=
  (inl_sound (l := []) (.nil _) mixed [] [] 200 (by kernel_rfl)).by (F := F_astrolabelaw25_own f_astrolabelaw25_own) fun args b r hr => by
  obtain ⟨x0, x1, x2, x3, rfl, rfl, hr1⟩ := e_astrolabelaw25_own hr
  exact inl_eval ((d_astrolabelaw25_own   x0 x1 x2 x3).trans ((n_astrolabelaw25_own (fun (d : Int × Int × Bool × Bool) => some (Res.mk (AV.r (RV.agg [Sg.c (CV.f (FV.i IntKind.i64 d.fst)), Sg.c (CV.f (FV.i IntKind.i64 d.snd.fst)), Sg.c (CV.f (FV.b d.snd.snd.fst)), Sg.c (CV.f (FV.b d.snd.snd.snd))])) [] [])) x0 x1 x2 x3).symm.trans hr1))

def K_astrolaberef25_Good {ρ : Type}   (x0 : Int) (x1 : Int) (x2 : Bool) (x3 : Bool) (k : (Bool) → Option ρ) : Option ρ :=
  bif decide (x0 < 0) then k false
  else
    bif decide (x0 > 3) then k false
    else
      bif decide (x0 < 2) then bif x1 == 0 then bif !x2 then k !x3 else k false else k false
      else bif decide (x1 ≥ 1) then bif decide (x1 ≤ 3) then bif x0 != 3 then k true else k x2 else k false else k false
def f_astrolaberef25_Good (x0 : Int) (x1 : Int) (x2 : Bool) (x3 : Bool) : Option (Bool) := K_astrolaberef25_Good   x0 x1 x2 x3 some
section
open Go.Ab.Rdr
def QA_astrolaberef25_Good := ((pair (cons (ar (ra (cons (gc (cf (fi .i64 hole))) (cons (gc (cf (fi .i64 hole))) (cons (gc (cf (fb hole))) (cons (gc (cf (fb hole))) nil)))))) nil) nil) : Rdr (List AV × List Blk) _)
end
def F_astrolaberef25_Good (f : (Int) → (Int) → (Bool) → (Bool) → Option (Bool)) : Sem1 := fun args h => match (QA_astrolaberef25_Good).rd (args, h) with
  | some b => .opt (f b.1.1.1 b.1.1.2.1 b.1.1.2.2.1 b.1.1.2.2.2.1) fun (d : Bool) => .leaf (Res.mk (AV.r (RV.c (CV.f (FV.b d)))) [] [])
  | none => .fail
theorem d_astrolaberef25_Good   (x0 : Int) (x1 : Int) (x2 : Bool) (x3 : Bool) : den Try.prog (envOf []) ⟨[], [], [], [], none⟩ 200 14 [.r (.agg [.c (.f (.i .i64 x0)), .c (.f (.i .i64 x1)), .c (.f (.b x2)), .c (.f (.b x3))])] [] =
    K_astrolaberef25_Good   x0 x1 x2 x3 (fun (d : Bool) => some (Res.mk (AV.r (RV.c (CV.f (FV.b d)))) [] [])) := by kernel_rfl
theorem m_astrolaberef25_Good {ρ σ : Type} (q : ρ → Option σ)    (x0 : Int) (x1 : Int) (x2 : Bool) (x3 : Bool) (k : (Bool) → Option ρ) : (K_astrolaberef25_Good   x0 x1 x2 x3 k).bind q = K_astrolaberef25_Good   x0 x1 x2 x3 (fun d => (k d).bind q) := by
  simp only [K_astrolaberef25_Good, bnd_cond, bnd_bind, bnd_none, bnd_sum]
theorem qa_astrolaberef25_Good : ∀ b, (QA_astrolaberef25_Good).em b = ([.r (.agg [.c (.f (.i .i64 b.1.1.1)), .c (.f (.i .i64 b.1.1.2.1)), .c (.f (.b b.1.1.2.2.1)), .c (.f (.b b.1.1.2.2.2.1))])], []) := fun b => by kernel_rfl
theorem e_astrolaberef25_Good {f : (Int) → (Int) → (Bool) → (Bool) → Option (Bool)} {args : List AV} {h : List Blk} {r : Res} (hr : (F_astrolaberef25_Good f args h).eval = some r) : ∃ x0 x1 x2 x3, args = [.r (.agg [.c (.f (.i .i64 x0)), .c (.f (.i .i64 x1)), .c (.f (.b x2)), .c (.f (.b x3))])] ∧ h = [] ∧ (f x0 x1 x2 x3).bind (fun (d : Bool) => some (Res.mk (AV.r (RV.c (CV.f (FV.b d)))) [] [])) = some r := by
  unfold F_astrolaberef25_Good at hr
  split at hr
  · rename_i b hb
    have e := ((QA_astrolaberef25_Good).ok _ _ hb).trans (qa_astrolaberef25_Good b)
    rw [opt_eval2] at hr
    exact ⟨b.1.1.1, b.1.1.2.1, b.1.1.2.2.1, b.1.1.2.2.2.1, (Prod.mk.inj e).1, (Prod.mk.inj e).2, hr⟩
  · cases hr
theorem n_astrolaberef25_Good {σ : Type} (q : (Bool) → Option σ) (x0 : Int) (x1 : Int) (x2 : Bool) (x3 : Bool) : (f_astrolaberef25_Good x0 x1 x2 x3).bind q = K_astrolaberef25_Good   x0 x1 x2 x3 q := by
  unfold f_astrolaberef25_Good
  exact m_astrolaberef25_Good q    x0 x1 x2 x3 some
theorem s_astrolaberef25_Good : Sound Try.prog 14 (F_astrolaberef25_Good f_astrolaberef25_Good) :=
  (inl_sound (l := []) (.nil _) mixed [] [] 200 (by kernel_rfl)).by (F := F_astrolaberef25_Good f_astrolaberef25_Good) fun args b r hr => by
  obtain ⟨x0, x1, x2, x3, rfl, rfl, hr1⟩ := e_astrolaberef25_Good hr
  exact inl_eval ((d_astrolaberef25_Good   x0 x1 x2 x3).trans ((n_astrolaberef25_Good (fun (d : Bool) => some (Res.mk (AV.r (RV.c (CV.f (FV.b d)))) [] [])) x0 x1 x2 x3).symm.trans hr1))

def K_mode_Step {ρ : Type} (g_mode_Good : Int → Int → Bool → Bool → Option Bool) (g_mode_next : Int → Bool → Bool → Bool → Bool → Bool → Bool → Bool → Bool → Int → Int → Int → Option Int) (g_mode_source : Int → Bool → Bool → Bool → Bool → Bool → Bool → Bool → Bool → Int → Int → Int → Option (Int × Bool))  (x0 : Int) (x1 : Int) (x2 : Bool) (x3 : Bool) (x4 : Bool) (x5 : Bool) (x6 : Bool) (x7 : Bool) (x8 : Bool) (x9 : Bool) (x10 : Bool) (x11 : Bool) (x12 : Int) (x13 : Int) (x14 : Int) (k : (Int × Int × Bool × Bool × Int × Int) → Option ρ) : Option ρ :=
  Option.bind (g_mode_Good x0 x1 x2 x3) fun (d : Bool) =>
    bif !d then
      Option.bind (g_mode_next 0 x4 x5 x6 x7 x8 x9 x10 x11 x12 x13 x14) fun (d : Int) =>
        bif decide (d ≥ 2) then
          Option.bind (g_mode_source 0 x4 x5 x6 x7 x8 x9 x10 x11 x12 x13 x14) fun (d_1 : Int × Bool) =>
            bif d == 3 then k (d, d_1.fst, true, !d_1.snd, 0, 0) else bif decide (x12 ≥ 0) then k (d, d_1.fst, decide (x12 ≤ x13), !d_1.snd, 0, 0) else k (d, d_1.fst, false, !d_1.snd, 0, 0)
        else k (d, 0, false, false, 0, 0)
    else
      Option.bind (g_mode_next x0 x4 x5 x6 x7 x8 x9 x10 x11 x12 x13 x14) fun (d : Int) =>
        bif decide (d ≥ 2) then
          Option.bind (g_mode_source x1 x4 x5 x6 x7 x8 x9 x10 x11 x12 x13 x14) fun (d_1 : Int × Bool) =>
            bif d == 3 then k (d, d_1.fst, true, !d_1.snd, x0, x1) else bif decide (x12 ≥ 0) then k (d, d_1.fst, decide (x12 ≤ x13), !d_1.snd, x0, x1) else k (d, d_1.fst, false, !d_1.snd, x0, x1)
        else k (d, 0, false, false, x0, x1)
def f_mode_Step (x0 : Int) (x1 : Int) (x2 : Bool) (x3 : Bool) (x4 : Bool) (x5 : Bool) (x6 : Bool) (x7 : Bool) (x8 : Bool) (x9 : Bool) (x10 : Bool) (x11 : Bool) (x12 : Int) (x13 : Int) (x14 : Int) : Option (Int × Int × Bool × Bool × Int × Int) := K_mode_Step f_mode_Good f_mode_next f_mode_source  x0 x1 x2 x3 x4 x5 x6 x7 x8 x9 x10 x11 x12 x13 x14 some
section
open Go.Ab.Rdr
def QA_mode_Step := ((pair (cons (ar (ra (cons (gc (cf (fi .i64 hole))) (cons (gc (cf (fi .i64 hole))) (cons (gc (cf (fb hole))) (cons (gc (cf (fb hole))) nil)))))) (cons (ar (ra (cons (gc (cf (fb hole))) (cons (gc (cf (fb hole))) (cons (gc (cf (fb hole))) (cons (gc (cf (fb hole))) (cons (gc (cf (fb hole))) (cons (gc (cf (fb hole))) (cons (gc (cf (fb hole))) (cons (gc (cf (fb hole))) (cons (gc (cf (fi .i64 hole))) (cons (gc (cf (fi .i64 hole))) (cons (gc (cf (fi .i64 hole))) nil))))))))))))) nil)) nil) : Rdr (List AV × List Blk) _)
end
def F_mode_Step (f : (Int) → (Int) → (Bool) → (Bool) → (Bool) → (Bool) → (Bool) → (Bool) → (Bool) → (Bool) → (Bool) → (Bool) → (Int) → (Int) → (Int) → Option (Int × Int × Bool × Bool × Int × Int)) : Sem1 := fun args h => match (QA_mode_Step).rd (args, h) with
  | some b => .opt (f b.1.1.1 b.1.1.2.1 b.1.1.2.2.1 b.1.1.2.2.2.1 b.1.2.1.1 b.1.2.1.2.1 b.1.2.1.2.2.1 b.1.2.1.2.2.2.1 b.1.2.1.2.2.2.2.1 b.1.2.1.2.2.2.2.2.1 b.1.2.1.2.2.2.2.2.2.1 b.1.2.1.2.2.2.2.2.2.2.1 b.1.2.1.2.2.2.2.2.2.2.2.1 b.1.2.1.2.2.2.2.2.2.2.2.2.1 b.1.2.1.2.2.2.2.2.2.2.2.2.2.1) fun (d : Int × Int × Bool × Bool × Int × Int) => .leaf (Res.mk
    (AV.tup
      [RV.agg [Sg.c (CV.f (FV.i IntKind.i64 d.fst)), Sg.c (CV.f (FV.i IntKind.i64 d.snd.fst)), Sg.c (CV.f (FV.b d.snd.snd.fst)), Sg.c (CV.f (FV.b d.snd.snd.snd.fst))],
        RV.agg
          [Sg.c (CV.f (FV.i IntKind.i64 d.fst)), Sg.c (CV.f (FV.i IntKind.i64 d.snd.fst)), Sg.c (CV.f (FV.b d.snd.snd.fst)), Sg.c (CV.f (FV.b d.snd.snd.snd.fst)),
            Sg.c (CV.f (FV.i IntKind.i64 d.snd.snd.snd.snd.fst)), Sg.c (CV.f (FV.i IntKind.i64 d.snd.snd.snd.snd.snd))]])
    [] [])
  | none => .fail
theorem d_mode_Step (g_mode_Good : Int → Int → Bool → Bool → Option Bool) (g_mode_next : Int → Bool → Bool → Bool → Bool → Bool → Bool → Bool → Bool → Int → Int → Int → Option Int) (g_mode_source : Int → Bool → Bool → Bool → Bool → Bool → Bool → Bool → Bool → Int → Int → Int → Option (Int × Bool))  (x0 : Int) (x1 : Int) (x2 : Bool) (x3 : Bool) (x4 : Bool) (x5 : Bool) (x6 : Bool) (x7 : Bool) (x8 : Bool) (x9 : Bool) (x10 : Bool) (x11 : Bool) (x12 : Int) (x13 : Int) (x14 : Int) : den Try.prog (envOf [(13, F_mode_Good g_mode_Good), (17, F_mode_next g_mode_next), (18, F_mode_source g_mode_source)]) ⟨[], [], [], [], none⟩ 200 10 [.r (.agg [.c (.f (.i .i64 x0)), .c (.f (.i .i64 x1)), .c (.f (.b x2)), .c (.f (.b x3))]), .r (.agg [.c (.f (.b x4)), .c (.f (.b x5)), .c (.f (.b x6)), .c (.f (.b x7)), .c (.f (.b x8)), .c (.f (.b x9)), .c (.f (.b x10)), .c (.f (.b x11)), .c (.f (.i .i64 x12)), .c (.f (.i .i64 x13)), .c (.f (.i .i64 x14))])] [] =
    K_mode_Step g_mode_Good g_mode_next g_mode_source  x0 x1 x2 x3 x4 x5 x6 x7 x8 x9 x10 x11 x12 x13 x14 (fun (d : Int × Int × Bool × Bool × Int × Int) => some (Res.mk
    (AV.tup
      [RV.agg [Sg.c (CV.f (FV.i IntKind.i64 d.fst)), Sg.c (CV.f (FV.i IntKind.i64 d.snd.fst)), Sg.c (CV.f (FV.b d.snd.snd.fst)), Sg.c (CV.f (FV.b d.snd.snd.snd.fst))],
        RV.agg
          [Sg.c (CV.f (FV.i IntKind.i64 d.fst)), Sg.c (CV.f (FV.i IntKind.i64 d.snd.fst)), Sg.c (CV.f (FV.b d.snd.snd.fst)), Sg.c (CV.f (FV.b d.snd.snd.snd.fst)),
            Sg.c (CV.f (FV.i IntKind.i64 d.snd.snd.snd.snd.fst)), Sg.c (CV.f (FV.i IntKind.i64 d.snd.snd.snd.snd.snd))]])
    [] [])) := by kernel_rfl
theorem m_mode_Step {ρ σ : Type} (q : ρ → Option σ) (g_mode_Good : Int → Int → Bool → Bool → Option Bool) (g_mode_next : Int → Bool → Bool → Bool → Bool → Bool → Bool → Bool → Bool → Int → Int → Int → Option Int) (g_mode_source : Int → Bool → Bool → Bool → Bool → Bool → Bool → Bool → Bool → Int → Int → Int → Option (Int × Bool))   (x0 : Int) (x1 : Int) (x2 : Bool) (x3 : Bool) (x4 : Bool) (x5 : Bool) (x6 : Bool) (x7 : Bool) (x8 : Bool) (x9 : Bool) (x10 : Bool) (x11 : Bool) (x12 : Int) (x13 : Int) (x14 : Int) (k : (Int × Int × Bool × Bool × Int × Int) → Option ρ) : (K_mode_Step g_mode_Good g_mode_next g_mode_source  x0 x1 x2 x3 x4 x5 x6 x7 x8 x9 x10 x11 x12 x13 x14 k).bind q = K_mode_Step g_mode_Good g_mode_next g_mode_source  x0 x1 x2 x3 x4 x5 x6 x7 x8 x9 x10 x11 x12 x13 x14 (fun d => (k d).bind q) := by
  simp only [K_mode_Step, bnd_cond, bnd_bind, bnd_none, bnd_sum]
theorem qa_mode_Step : ∀ b, (QA_mode_Step).em b = ([.r (.agg [.c (.f (.i .i64 b.1.1.1)), .c (.f (.i .i64 b.1.1.2.1)), .c (.f (.b b.1.1.2.2.1)), .c (.f (.b b.1.1.2.2.2.1))]), .r (.agg [.c (.f (.b b.1.2.1.1)), .c (.f (.b b.1.2.1.2.1)), .c (.f (.b b.1.2.1.2.2.1)), .c (.f (.b b.1.2.1.2.2.2.1)), .c (.f (.b b.1.2.1.2.2.2.2.1)), .c (.f (.b b.1.2.1.2.2.2.2.2.1)), .c (.f (.b b.1.2.1.2.2.2.2.2.2.1)), .c (.f (.b b.1.2.1.2.2.2.2.2.2.2.1)), .c (.f (.i .i64 b.1.2.1.2.2.2.2.2.2.2.2.1)), .c (.f (.i .i64 b.1.2.1.2.2.2.2.2.2.2.2.2.1)), .c (.f (.i .i64 b.1.2.1.2.2.2.2.2.2.2.2.2.2.1))])], []) := fun b => by kernel_rfl
theorem e_mode_Step {f : (Int) → (Int) → (Bool) → (Bool) → (Bool) → (Bool) → (Bool) → (Bool) → (Bool) → (Bool) → (Bool) → (Bool) → (Int) → (Int) → (Int) → Option (Int × Int × Bool × Bool × Int × Int)} {args : List AV} {h : List Blk} {r : Res} (hr : (F_mode_Step f args h).eval = some r) : ∃ x0 x1 x2 x3 x4 x5 x6 x7 x8 x9 x10 x11 x12 x13 x14, args = [.r (.agg [.c (.f (.i .i64 x0)), .c (.f (.i .i64 x1)), .c (.f (.b x2)), .c (.f (.b x3))]), .r (.agg [.c (.f (.b x4)), .c (.f (.b x5)), .c (.f (.b x6)), .c (.f (.b x7)), .c (.f (.b x8)), .c (.f (.b x9)), .c (.f (.b x10)), .c (.f (.b x11)), .c (.f (.i .i64 x12)), .c (.f (.i .i64 x13)), .c (.f (.i .i64 x14))])] ∧ h = [] ∧ (f x0 x1 x2 x3 x4 x5 x6 x7 x8 x9 x10 x11 x12 x13 x14).bind (fun (d : Int × Int × Bool × Bool × Int × Int) => some (Res.mk
    (AV.tup
      [RV.agg [Sg.c (CV.f (FV.i IntKind.i64 d.fst)), Sg.c (CV.f (FV.i IntKind.i64 d.snd.fst)), Sg.c (CV.f (FV.b d.snd.snd.fst)), Sg.c (CV.f (FV.b d.snd.snd.snd.fst))],
        RV.agg
          [Sg.c (CV.f (FV.i IntKind.i64 d.fst)), Sg.c (CV.f (FV.i IntKind.i64 d.snd.fst)), Sg.c (CV.f (FV.b d.snd.snd.fst)), Sg.c (CV.f (FV.b d.snd.snd.snd.fst)),
            Sg.c (CV.f (FV.i IntKind.i64 d.snd.snd.snd.snd.fst)), Sg.c (CV.f (FV.i IntKind.i64 d.snd.snd.snd.snd.snd))]])
    [] [])) = some r := by
  unfold F_mode_Step at hr
  split at hr
  · rename_i b hb
    have e := ((QA_mode_Step).ok _ _ hb).trans (qa_mode_Step b)
    rw [opt_eval2] at hr
    exact ⟨b.1.1.1, b.1.1.2.1, b.1.1.2.2.1, b.1.1.2.2.2.1, b.1.2.1.1, b.1.2.1.2.1, b.1.2.1.2.2.1, b.1.2.1.2.2.2.1, b.1.2.1.2.2.2.2.1, b.1.2.1.2.2.2.2.2.1, b.1.2.1.2.2.2.2.2.2.1, b.1.2.1.2.2.2.2.2.2.2.1, b.1.2.1.2.2.2.2.2.2.2.2.1, b.1.2.1.2.2.2.2.2.2.2.2.2.1, b.1.2.1.2.2.2.2.2.2.2.2.2.2.1, (Prod.mk.inj e).1, (Prod.mk.inj e).2, hr⟩
  · cases hr
theorem n_mode_Step {σ : Type} (q : (Int × Int × Bool × Bool × Int × Int) → Option σ) (x0 : Int) (x1 : Int) (x2 : Bool) (x3 : Bool) (x4 : Bool) (x5 : Bool) (x6 : Bool) (x7 : Bool) (x8 : Bool) (x9 : Bool) (x10 : Bool) (x11 : Bool) (x12 : Int) (x13 : Int) (x14 : Int) : (f_mode_Step x0 x1 x2 x3 x4 x5 x6 x7 x8 x9 x10 x11 x12 x13 x14).bind q = K_mode_Step f_mode_Good f_mode_next f_mode_source  x0 x1 x2 x3 x4 x5 x6 x7 x8 x9 x10 x11 x12 x13 x14 q := by
  unfold f_mode_Step
  exact m_mode_Step q f_mode_Good f_mode_next f_mode_source   x0 x1 x2 x3 x4 x5 x6 x7 x8 x9 x10 x11 x12 x13 x14 some
theorem s_mode_Step : Sound Try.prog 10 (F_mode_Step f_mode_Step) :=
  (inl_sound (l := [(13, F_mode_Good f_mode_Good), (17, F_mode_next f_mode_next), (18, F_mode_source f_mode_source)]) (.cons s_mode_Good (.cons s_mode_next (.cons s_mode_source (.nil _)))) mixed [] [] 200 (by kernel_rfl)).by (F := F_mode_Step f_mode_Step) fun args b r hr => by
  obtain ⟨x0, x1, x2, x3, x4, x5, x6, x7, x8, x9, x10, x11, x12, x13, x14, rfl, rfl, hr1⟩ := e_mode_Step hr
  exact inl_eval ((d_mode_Step f_mode_Good f_mode_next f_mode_source  x0 x1 x2 x3 x4 x5 x6 x7 x8 x9 x10 x11 x12 x13 x14).trans ((n_mode_Step (fun (d : Int × Int × Bool × Bool × Int × Int) => some (Res.mk
    (AV.tup
      [RV.agg [Sg.c (CV.f (FV.i IntKind.i64 d.fst)), Sg.c (CV.f (FV.i IntKind.i64 d.snd.fst)), Sg.c (CV.f (FV.b d.snd.snd.fst)), Sg.c (CV.f (FV.b d.snd.snd.snd.fst))],
        RV.agg
          [Sg.c (CV.f (FV.i IntKind.i64 d.fst)), Sg.c (CV.f (FV.i IntKind.i64 d.snd.fst)), Sg.c (CV.f (FV.b d.snd.snd.fst)), Sg.c (CV.f (FV.b d.snd.snd.snd.fst)),
            Sg.c (CV.f (FV.i IntKind.i64 d.snd.snd.snd.snd.fst)), Sg.c (CV.f (FV.i IntKind.i64 d.snd.snd.snd.snd.snd))]])
    [] [])) x0 x1 x2 x3 x4 x5 x6 x7 x8 x9 x10 x11 x12 x13 x14).symm.trans hr1))

end Go.Proofs.Ytgbgdihahmecoaa
