/-
  Contracts by plain functions: astrolabelaw19.sample, gnss.place, earth.Good, gnss.Good, (*fx.Acc).Clamp, (*fx.Acc).Sat, wide.abs64, math/bits.Mul64, wide.signed, wide.Mul, fx.sign, wide.abs, math/bits.Len64, math/bits.LeadingZeros64, math/bits.Div64, (wide.big).plus, wide.signed64, wide.Div, (*fx.Acc).end, (*fx.Acc).by, (*fx.Acc).MulDiv, gnss.variance
-/
import Derived.Test.YtdpenjncfmkbgaaBits
import Derived.Test.YtdpenjncfmkbgaaVBits
set_option maxRecDepth 100000
set_option maxHeartbeats 4000000
set_option linter.unusedVariables false
namespace Go.Proofs.Ytdpenjncfmkbgaa
open Go.Ab
def K_astrolabelaw19_sample {ρ : Type} (k : (Unit) → Option ρ) : Option ρ := k ()
def f_astrolabelaw19_sample  : Option (Unit) := K_astrolabelaw19_sample    some
section
open Go.Ab.Rdr
def QA_astrolabelaw19_sample := ((pair nil nil) : Rdr (List AV × List Blk) _)
end
def F_astrolabelaw19_sample (f : Option (Unit)) : Sem1 := fun args h => match (QA_astrolabelaw19_sample).rd (args, h) with
  | some b => .opt (f ) fun (d : Unit) => .leaf (Res.mk
    (AV.r
      (RV.agg
        [Sg.c (CV.f (FV.i IntKind.i64 5)), Sg.c (CV.f (FV.i IntKind.i64 0)), Sg.c (CV.f (FV.i IntKind.i64 0)), Sg.c (CV.f (FV.i IntKind.i64 0)), Sg.c (CV.f (FV.i IntKind.i64 1000)),
          Sg.c (CV.f (FV.i IntKind.i64 0)), Sg.c (CV.f (FV.i IntKind.i64 0)), Sg.c (CV.f (FV.i IntKind.i64 1000)), Sg.c (CV.f (FV.i IntKind.i64 100))]))
    [] [])
  | none => .fail
theorem d_astrolabelaw19_sample : den Try.prog (envOf []) ⟨[], [], [], [], none⟩ 200 8 [] [] = K_astrolabelaw19_sample (fun (d : Unit) => some (Res.mk (AV.r (RV.agg [Sg.c (CV.f (FV.i IntKind.i64 5)), Sg.c (CV.f (FV.i IntKind.i64 0)), Sg.c (CV.f (FV.i IntKind.i64 0)), Sg.c (CV.f (FV.i IntKind.i64 0)),
  Sg.c (CV.f (FV.i IntKind.i64 1000)), Sg.c (CV.f (FV.i IntKind.i64 0)), Sg.c (CV.f (FV.i IntKind.i64 0)), Sg.c (CV.f (FV.i IntKind.i64 1000)), Sg.c (CV.f (FV.i IntKind.i64 100))])) [] [])) := by kernel_rfl
theorem m_astrolabelaw19_sample {ρ σ : Type} (q : ρ → Option σ)     (k : (Unit) → Option ρ) : (K_astrolabelaw19_sample    k).bind q = K_astrolabelaw19_sample    (fun d => (k d).bind q) := by
  simp only [K_astrolabelaw19_sample, bnd_cond, bnd_bind, bnd_none, bnd_sum]
theorem qa_astrolabelaw19_sample : ∀ b, (QA_astrolabelaw19_sample).em b = ([], []) := fun b => by kernel_rfl
theorem e_astrolabelaw19_sample {f : Option (Unit)} {args : List AV} {h : List Blk} {r : Res} (hr : (F_astrolabelaw19_sample f args h).eval = some r) : args = [] ∧ h = [] ∧ (f ).bind (fun (d : Unit) => some (Res.mk (AV.r (RV.agg [Sg.c (CV.f (FV.i IntKind.i64 5)), Sg.c (CV.f (FV.i IntKind.i64 0)), Sg.c (CV.f (FV.i IntKind.i64 0)),
  Sg.c (CV.f (FV.i IntKind.i64 0)), Sg.c (CV.f (FV.i IntKind.i64 1000)), Sg.c (CV.f (FV.i IntKind.i64 0)), Sg.c (CV.f (FV.i IntKind.i64 0)), Sg.c (CV.f (FV.i IntKind.i64 1000)), Sg.c (CV.f (FV.i IntKind.i64 100))])) [] [])) = some r := by
  unfold F_astrolabelaw19_sample at hr
  split at hr
  · rename_i b hb
    have e := ((QA_astrolabelaw19_sample).ok _ _ hb).trans (qa_astrolabelaw19_sample b)
    rw [opt_eval2] at hr
    exact ⟨(Prod.mk.inj e).1, (Prod.mk.inj e).2, hr⟩
  · cases hr
theorem n_astrolabelaw19_sample {σ : Type} (q : (Unit) → Option σ)  : (f_astrolabelaw19_sample ).bind q = K_astrolabelaw19_sample    q := by
  unfold f_astrolabelaw19_sample
  exact m_astrolabelaw19_sample q     some
theorem s_astrolabelaw19_sample [Amb] : Sound Try.prog 8 (F_astrolabelaw19_sample f_astrolabelaw19_sample) := (inl_sound (l := []) (.nil _) mixed [] [] 200 (by kernel_rfl)).by (F := F_astrolabelaw19_sample f_astrolabelaw19_sample) fun args b r hr => by
  obtain ⟨rfl, rfl, hr1⟩ := e_astrolabelaw19_sample hr
  exact inl_eval ((d_astrolabelaw19_sample   ).trans ((n_astrolabelaw19_sample (fun (d : Unit) => some (Res.mk
    (AV.r
      (RV.agg
        [Sg.c (CV.f (FV.i IntKind.i64 5)), Sg.c (CV.f (FV.i IntKind.i64 0)), Sg.c (CV.f (FV.i IntKind.i64 0)), Sg.c (CV.f (FV.i IntKind.i64 0)), Sg.c (CV.f (FV.i IntKind.i64 1000)),
          Sg.c (CV.f (FV.i IntKind.i64 0)), Sg.c (CV.f (FV.i IntKind.i64 0)), Sg.c (CV.f (FV.i IntKind.i64 1000)), Sg.c (CV.f (FV.i IntKind.i64 100))]))
    [] [])) ).symm.trans hr1))

def K_gnss_place {ρ : Type} (x0 : Int) (x1 : Int) (x2 : Int) (x3 : Int) (x4 : Int) (x5 : Int) (x6 : Int) (x7 : Int) (x8 : Int) (k : (Int × Int × Int) → Option ρ) : Option ρ := k (x1, x2, x3)
def f_gnss_place (x0 : Int) (x1 : Int) (x2 : Int) (x3 : Int) (x4 : Int) (x5 : Int) (x6 : Int) (x7 : Int) (x8 : Int) : Option (Int × Int × Int) := K_gnss_place   x0 x1 x2 x3 x4 x5 x6 x7 x8 some
section
open Go.Ab.Rdr
def QA_gnss_place := ((pair (cons (ar (ra (cons (gc (cf (fi .i64 hole))) (cons (gc (cf (fi .i64 hole))) (cons (gc (cf (fi .i64 hole))) (cons (gc (cf (fi .i64 hole))) (cons (gc (cf (fi .i64 hole))) (cons (gc (cf (fi .i64 hole))) (cons (gc (cf (fi .i64 hole))) (cons (gc (cf (fi .i64 hole))) (cons (gc (cf (fi .i64 hole))) nil))))))))))) nil) nil) : Rdr (List AV × List Blk) _)
end
def F_gnss_place (f : (Int) → (Int) → (Int) → (Int) → (Int) → (Int) → (Int) → (Int) → (Int) → Option (Int × Int × Int)) : Sem1 := fun args h => match (QA_gnss_place).rd (args, h) with
  | some b => .opt (f b.1.1.1 b.1.1.2.1 b.1.1.2.2.1 b.1.1.2.2.2.1 b.1.1.2.2.2.2.1 b.1.1.2.2.2.2.2.1 b.1.1.2.2.2.2.2.2.1 b.1.1.2.2.2.2.2.2.2.1 b.1.1.2.2.2.2.2.2.2.2.1) fun (d : Int × Int × Int) => .leaf (Res.mk (AV.r (RV.agg [Sg.c (CV.f (FV.i IntKind.i64 d.1)), Sg.c (CV.f (FV.i IntKind.i64 d.2.1)), Sg.c (CV.f (FV.i IntKind.i64 d.2.2))])) [] [])
  | none => .fail
theorem d_gnss_place (x0 : Int) (x1 : Int) (x2 : Int) (x3 : Int) (x4 : Int) (x5 : Int) (x6 : Int) (x7 : Int) (x8 : Int) : den Try.prog (envOf []) ⟨[], [], [], [], none⟩ 200 26 [.r (.agg [.c (.f (.i .i64 x0)), .c (.f (.i .i64 x1)), .c (.f (.i .i64 x2)), .c (.f (.i .i64 x3)), .c (.f (.i .i64 x4)),
  .c (.f (.i .i64 x5)), .c (.f (.i .i64 x6)), .c (.f (.i .i64 x7)), .c (.f (.i .i64 x8))])] [] = K_gnss_place x0 x1 x2 x3 x4 x5 x6 x7 x8 (fun (d : Int × Int × Int) => some (Res.mk (AV.r (RV.agg [Sg.c (CV.f (FV.i IntKind.i64 d.1)), Sg.c (CV.f (FV.i IntKind.i64 d.2.1)), Sg.c (CV.f (FV.i IntKind.i64 d.2.2))])) [] [])) := by kernel_rfl
theorem m_gnss_place {ρ σ : Type} (q : ρ → Option σ)    (x0 : Int) (x1 : Int) (x2 : Int) (x3 : Int) (x4 : Int) (x5 : Int) (x6 : Int) (x7 : Int) (x8 : Int) (k : (Int × Int × Int) → Option ρ) : (K_gnss_place   x0 x1 x2 x3 x4 x5 x6 x7 x8 k).bind q = K_gnss_place   x0 x1 x2 x3 x4 x5 x6 x7 x8 (fun d => (k d).bind q) := by
  simp only [K_gnss_place, bnd_cond, bnd_bind, bnd_none, bnd_sum]
theorem qa_gnss_place : ∀ b, (QA_gnss_place).em b = ([.r (.agg [.c (.f (.i .i64 b.1.1.1)), .c (.f (.i .i64 b.1.1.2.1)), .c (.f (.i .i64 b.1.1.2.2.1)), .c (.f (.i .i64 b.1.1.2.2.2.1)), .c (.f (.i .i64 b.1.1.2.2.2.2.1)), .c (.f (.i .i64 b.1.1.2.2.2.2.2.1)), .c (.f (.i .i64 b.1.1.2.2.2.2.2.2.1)), .c (.f (.i .i64 b.1.1.2.2.2.2.2.2.2.1)), .c (.f (.i .i64 b.1.1.2.2.2.2.2.2.2.2.1))])], []) := fun b => by kernel_rfl
theorem e_gnss_place {f : (Int) → (Int) → (Int) → (Int) → (Int) → (Int) → (Int) → (Int) → (Int) → Option (Int × Int × Int)} {args : List AV} {h : List Blk} {r : Res} (hr : (F_gnss_place f args h).eval = some r) : ∃ x0 x1 x2 x3 x4 x5 x6 x7 x8, args = [.r (.agg [.c (.f (.i .i64 x0)), .c (.f (.i .i64 x1)), .c (.f (.i .i64 x2)), .c (.f (.i .i64 x3)), .c (.f (.i .i64 x4)), .c (.f (.i .i64 x5)), .c (.f (.i .i64 x6)), .c (.f (.i .i64 x7)), .c (.f (.i .i64 x8))])] ∧ h = [] ∧ (f x0 x1 x2 x3 x4 x5 x6 x7 x8).bind (fun (d : Int × Int × Int) => some (Res.mk (AV.r (RV.agg [Sg.c (CV.f (FV.i IntKind.i64 d.1)), Sg.c (CV.f (FV.i IntKind.i64 d.2.1)), Sg.c (CV.f (FV.i IntKind.i64 d.2.2))])) [] [])) = some r := by
  unfold F_gnss_place at hr
  split at hr
  · rename_i b hb
    have e := ((QA_gnss_place).ok _ _ hb).trans (qa_gnss_place b)
    rw [opt_eval2] at hr
    exact ⟨b.1.1.1, b.1.1.2.1, b.1.1.2.2.1, b.1.1.2.2.2.1, b.1.1.2.2.2.2.1, b.1.1.2.2.2.2.2.1, b.1.1.2.2.2.2.2.2.1, b.1.1.2.2.2.2.2.2.2.1, b.1.1.2.2.2.2.2.2.2.2.1, (Prod.mk.inj e).1, (Prod.mk.inj e).2, hr⟩
  · cases hr
theorem n_gnss_place {σ : Type} (q : (Int × Int × Int) → Option σ) (x0 : Int) (x1 : Int) (x2 : Int) (x3 : Int) (x4 : Int) (x5 : Int) (x6 : Int) (x7 : Int) (x8 : Int) : (f_gnss_place x0 x1 x2 x3 x4 x5 x6 x7 x8).bind q = K_gnss_place   x0 x1 x2 x3 x4 x5 x6 x7 x8 q := by
  unfold f_gnss_place
  exact m_gnss_place q    x0 x1 x2 x3 x4 x5 x6 x7 x8 some
theorem s_gnss_place [Amb] : Sound Try.prog 26 (F_gnss_place f_gnss_place) := (inl_sound (l := []) (.nil _) mixed [] [] 200 (by kernel_rfl)).by (F := F_gnss_place f_gnss_place) fun args b r hr => by
  obtain ⟨x0, x1, x2, x3, x4, x5, x6, x7, x8, rfl, rfl, hr1⟩ := e_gnss_place hr
  exact inl_eval ((d_gnss_place   x0 x1 x2 x3 x4 x5 x6 x7 x8).trans ((n_gnss_place (fun (d : Int × Int × Int) => some (Res.mk (AV.r (RV.agg [Sg.c (CV.f (FV.i IntKind.i64 d.1)), Sg.c (CV.f (FV.i IntKind.i64 d.2.1)), Sg.c (CV.f (FV.i IntKind.i64 d.2.2))])) [] [])) x0 x1 x2 x3 x4 x5 x6 x7 x8).symm.trans hr1))

def K_earth_Good {ρ : Type} (x0 : Int) (x1 : Int) (x2 : Int) (k : (Bool) → Option ρ) : Option ρ := bif decide (x0 ≥ -900000000) then bif decide (x0 ≤ 900000000) then bif decide (x1 ≥ -1800000000) then bif decide (x1 ≤ 1800000000) then bif decide (x2 ≥ -100000000) then k (decide (x2 ≤ 100000000)) else
  k false else k false else k false else k false else k false
def f_earth_Good (x0 : Int) (x1 : Int) (x2 : Int) : Option (Bool) := K_earth_Good   x0 x1 x2 some
section
open Go.Ab.Rdr
def QA_earth_Good := ((pair (cons (ar (ra (cons (gc (cf (fi .i64 hole))) (cons (gc (cf (fi .i64 hole))) (cons (gc (cf (fi .i64 hole))) nil))))) nil) nil) : Rdr (List AV × List Blk) _)
end
def F_earth_Good (f : (Int) → (Int) → (Int) → Option (Bool)) : Sem1 := fun args h => match (QA_earth_Good).rd (args, h) with
  | some b => .opt (f b.1.1.1 b.1.1.2.1 b.1.1.2.2.1) fun (d : Bool) => .leaf (Res.mk (AV.r (RV.c (CV.f (FV.b d)))) [] [])
  | none => .fail
theorem d_earth_Good (x0 : Int) (x1 : Int) (x2 : Int) : den Try.prog (envOf []) ⟨[], [], [], [], none⟩ 200 20 [.r (.agg [.c (.f (.i .i64 x0)), .c (.f (.i .i64 x1)), .c (.f (.i .i64 x2))])] [] = K_earth_Good x0 x1 x2 (fun (d : Bool) => some (Res.mk (AV.r (RV.c (CV.f (FV.b d)))) [] [])) := by kernel_rfl
theorem m_earth_Good {ρ σ : Type} (q : ρ → Option σ)    (x0 : Int) (x1 : Int) (x2 : Int) (k : (Bool) → Option ρ) : (K_earth_Good   x0 x1 x2 k).bind q = K_earth_Good   x0 x1 x2 (fun d => (k d).bind q) := by
  simp only [K_earth_Good, bnd_cond, bnd_bind, bnd_none, bnd_sum]
theorem qa_earth_Good : ∀ b, (QA_earth_Good).em b = ([.r (.agg [.c (.f (.i .i64 b.1.1.1)), .c (.f (.i .i64 b.1.1.2.1)), .c (.f (.i .i64 b.1.1.2.2.1))])], []) := fun b => by kernel_rfl
theorem e_earth_Good {f : (Int) → (Int) → (Int) → Option (Bool)} {args : List AV} {h : List Blk} {r : Res} (hr : (F_earth_Good f args h).eval = some r) : ∃ x0 x1 x2, args = [.r (.agg [.c (.f (.i .i64 x0)), .c (.f (.i .i64 x1)), .c (.f (.i .i64 x2))])] ∧ h = [] ∧ (f x0 x1 x2).bind (fun (d : Bool) => some (Res.mk (AV.r (RV.c (CV.f (FV.b d)))) [] [])) = some r := by
  unfold F_earth_Good at hr
  split at hr
  · rename_i b hb
    have e := ((QA_earth_Good).ok _ _ hb).trans (qa_earth_Good b)
    rw [opt_eval2] at hr
    exact ⟨b.1.1.1, b.1.1.2.1, b.1.1.2.2.1, (Prod.mk.inj e).1, (Prod.mk.inj e).2, hr⟩
  · cases hr
theorem n_earth_Good {σ : Type} (q : (Bool) → Option σ) (x0 : Int) (x1 : Int) (x2 : Int) : (f_earth_Good x0 x1 x2).bind q = K_earth_Good   x0 x1 x2 q := by
  unfold f_earth_Good
  exact m_earth_Good q    x0 x1 x2 some
theorem s_earth_Good [Amb] : Sound Try.prog 20 (F_earth_Good f_earth_Good) := (inl_sound (l := []) (.nil _) mixed [] [] 200 (by kernel_rfl)).by (F := F_earth_Good f_earth_Good) fun args b r hr => by
  obtain ⟨x0, x1, x2, rfl, rfl, hr1⟩ := e_earth_Good hr
  exact inl_eval ((d_earth_Good   x0 x1 x2).trans ((n_earth_Good (fun (d : Bool) => some (Res.mk (AV.r (RV.c (CV.f (FV.b d)))) [] [])) x0 x1 x2).symm.trans hr1))

def K_gnss_Good {ρ : Type} (g_gnss_place : Int → Int → Int → Int → Int → Int → Int → Int → Int → Option (Int × Int × Int)) (g_earth_Good : Int → Int → Int → Option Bool) (x0 : Int) (x1 : Int) (x2 : Int) (x3 : Int) (x4 : Int) (x5 : Int) (x6 : Int) (x7 : Int) (x8 : Int) (k : (Bool) → Option ρ) : Option ρ := bif decide (x4 < -1000000) then
  k false else bif decide (x4 > 1000000) then k false else bif decide (x5 < -1000000) then k false else bif decide (x5 > 1000000) then k false else bif decide (x6 < -1000000) then k false else bif decide (x6 > 1000000) then k false else bif decide (x7 < 1) then k false else bif decide (x7 > 1000000) then
  k false else bif decide (x8 < 1) then k false else bif decide (x8 > 1000000) then k false else Option.bind (g_gnss_place x0 x1 x2 x3 x4 x5 x6 x7 x8) fun (d : Int × Int × Int) => Option.bind (g_earth_Good d.1 d.2.1 d.2.2) fun (d : Bool) => k d
def f_gnss_Good (x0 : Int) (x1 : Int) (x2 : Int) (x3 : Int) (x4 : Int) (x5 : Int) (x6 : Int) (x7 : Int) (x8 : Int) : Option (Bool) := K_gnss_Good f_gnss_place f_earth_Good  x0 x1 x2 x3 x4 x5 x6 x7 x8 some
section
open Go.Ab.Rdr
def QA_gnss_Good := ((pair (cons (ar (ra (cons (gc (cf (fi .i64 hole))) (cons (gc (cf (fi .i64 hole))) (cons (gc (cf (fi .i64 hole))) (cons (gc (cf (fi .i64 hole))) (cons (gc (cf (fi .i64 hole))) (cons (gc (cf (fi .i64 hole))) (cons (gc (cf (fi .i64 hole))) (cons (gc (cf (fi .i64 hole))) (cons (gc (cf (fi .i64 hole))) nil))))))))))) nil) nil) : Rdr (List AV × List Blk) _)
end
def F_gnss_Good (f : (Int) → (Int) → (Int) → (Int) → (Int) → (Int) → (Int) → (Int) → (Int) → Option (Bool)) : Sem1 := fun args h => match (QA_gnss_Good).rd (args, h) with
  | some b => .opt (f b.1.1.1 b.1.1.2.1 b.1.1.2.2.1 b.1.1.2.2.2.1 b.1.1.2.2.2.2.1 b.1.1.2.2.2.2.2.1 b.1.1.2.2.2.2.2.2.1 b.1.1.2.2.2.2.2.2.2.1 b.1.1.2.2.2.2.2.2.2.2.1) fun (d : Bool) => .leaf (Res.mk (AV.r (RV.c (CV.f (FV.b d)))) [] [])
  | none => .fail
theorem d_gnss_Good (g_gnss_place : Int → Int → Int → Int → Int → Int → Int → Int → Int → Option (Int × Int × Int)) (g_earth_Good : Int → Int → Int → Option Bool) (x0 : Int) (x1 : Int) (x2 : Int) (x3 : Int) (x4 : Int) (x5 : Int) (x6 : Int) (x7 : Int) (x8 : Int) : den Try.prog (envOf [(26, F_gnss_place g_gnss_place),
  (20, F_earth_Good g_earth_Good)]) ⟨[⟨2, [0, 3, 4, 5, 6, 7, 11, 12, 13, 14, 15, 16, 19, 20, 21, 22, 23, 24, 25, 26, 27, 28, 29, 30, 33, 34, 35, 36, 37, 17, 18], []⟩, ⟨8, [0, 3, 4, 5, 6, 7, 8, 9, 10, 11, 12, 13, 14, 15, 16, 17, 18, 19, 20, 21, 25, 26, 27, 28, 29, 30, 33, 34, 35, 36, 37, 31, 32], []⟩],
  [], [], [], (some ⟨0, [0, 1, 3, 4, 5, 6, 7, 8, 9, 10, 11, 12, 13, 14, 15, 16, 17, 18, 19, 20, 21, 22, 23, 24, 25, 26, 27, 28, 29, 30, 31, 32, 33, 34, 35, 36, 37], []⟩)⟩ 200 13 [.r (.agg [.c (.f (.i .i64 x0)), .c (.f (.i .i64 x1)), .c (.f (.i .i64 x2)), .c (.f (.i .i64 x3)), .c (.f (.i .i64 x4)),
  .c (.f (.i .i64 x5)), .c (.f (.i .i64 x6)), .c (.f (.i .i64 x7)), .c (.f (.i .i64 x8))])] [] = K_gnss_Good g_gnss_place g_earth_Good x0 x1 x2 x3 x4 x5 x6 x7 x8 (fun (d : Bool) => some (Res.mk (AV.r (RV.c (CV.f (FV.b d)))) [] [])) := by kernel_rfl
theorem m_gnss_Good {ρ σ : Type} (q : ρ → Option σ) (g_gnss_place : Int → Int → Int → Int → Int → Int → Int → Int → Int → Option (Int × Int × Int)) (g_earth_Good : Int → Int → Int → Option Bool)   (x0 : Int) (x1 : Int) (x2 : Int) (x3 : Int) (x4 : Int) (x5 : Int) (x6 : Int) (x7 : Int) (x8 : Int) (k : (Bool) → Option ρ) : (K_gnss_Good g_gnss_place g_earth_Good  x0 x1 x2 x3 x4 x5 x6 x7 x8 k).bind q = K_gnss_Good g_gnss_place g_earth_Good  x0 x1 x2 x3 x4 x5 x6 x7 x8 (fun d => (k d).bind q) := by
  simp only [K_gnss_Good, bnd_cond, bnd_bind, bnd_none, bnd_sum]
theorem qa_gnss_Good : ∀ b, (QA_gnss_Good).em b = ([.r (.agg [.c (.f (.i .i64 b.1.1.1)), .c (.f (.i .i64 b.1.1.2.1)), .c (.f (.i .i64 b.1.1.2.2.1)), .c (.f (.i .i64 b.1.1.2.2.2.1)), .c (.f (.i .i64 b.1.1.2.2.2.2.1)), .c (.f (.i .i64 b.1.1.2.2.2.2.2.1)), .c (.f (.i .i64 b.1.1.2.2.2.2.2.2.1)), .c (.f (.i .i64 b.1.1.2.2.2.2.2.2.2.1)), .c (.f (.i .i64 b.1.1.2.2.2.2.2.2.2.2.1))])], []) := fun b => by kernel_rfl
theorem e_gnss_Good {f : (Int) → (Int) → (Int) → (Int) → (Int) → (Int) → (Int) → (Int) → (Int) → Option (Bool)} {args : List AV} {h : List Blk} {r : Res} (hr : (F_gnss_Good f args h).eval = some r) : ∃ x0 x1 x2 x3 x4 x5 x6 x7 x8, args = [.r (.agg [.c (.f (.i .i64 x0)), .c (.f (.i .i64 x1)), .c (.f (.i .i64 x2)), .c (.f (.i .i64 x3)), .c (.f (.i .i64 x4)), .c (.f (.i .i64 x5)), .c (.f (.i .i64 x6)), .c (.f (.i .i64 x7)), .c (.f (.i .i64 x8))])] ∧ h = [] ∧ (f x0 x1 x2 x3 x4 x5 x6 x7 x8).bind (fun (d : Bool) => some (Res.mk (AV.r (RV.c (CV.f (FV.b d)))) [] [])) = some r := by
  unfold F_gnss_Good at hr
  split at hr
  · rename_i b hb
    have e := ((QA_gnss_Good).ok _ _ hb).trans (qa_gnss_Good b)
    rw [opt_eval2] at hr
    exact ⟨b.1.1.1, b.1.1.2.1, b.1.1.2.2.1, b.1.1.2.2.2.1, b.1.1.2.2.2.2.1, b.1.1.2.2.2.2.2.1, b.1.1.2.2.2.2.2.2.1, b.1.1.2.2.2.2.2.2.2.1, b.1.1.2.2.2.2.2.2.2.2.1, (Prod.mk.inj e).1, (Prod.mk.inj e).2, hr⟩
  · cases hr
theorem n_gnss_Good {σ : Type} (q : (Bool) → Option σ) (x0 : Int) (x1 : Int) (x2 : Int) (x3 : Int) (x4 : Int) (x5 : Int) (x6 : Int) (x7 : Int) (x8 : Int) : (f_gnss_Good x0 x1 x2 x3 x4 x5 x6 x7 x8).bind q = K_gnss_Good f_gnss_place f_earth_Good  x0 x1 x2 x3 x4 x5 x6 x7 x8 q := by
  unfold f_gnss_Good
  exact m_gnss_Good q f_gnss_place f_earth_Good   x0 x1 x2 x3 x4 x5 x6 x7 x8 some
theorem s_gnss_Good [Amb] : Sound Try.prog 13 (F_gnss_Good f_gnss_Good) := (inl_sums (l := [(26, F_gnss_place f_gnss_place), (20, F_earth_Good f_earth_Good)]) (.cons s_gnss_place (.cons s_earth_Good (.nil _))) mixed (hs := ⟨[⟨2, [0, 3, 4, 5, 6, 7, 11, 12, 13, 14, 15, 16, 19, 20, 21, 22,
  23, 24, 25, 26, 27, 28, 29, 30, 33, 34, 35, 36, 37, 17, 18], []⟩, ⟨8, [0, 3, 4, 5, 6, 7, 8, 9, 10, 11, 12, 13, 14, 15, 16, 17, 18, 19, 20, 21, 25, 26, 27, 28, 29, 30, 33, 34, 35, 36, 37, 31, 32], []⟩], [], [], [], (some ⟨0, [0, 1, 3, 4, 5, 6, 7, 8, 9, 10, 11, 12, 13, 14, 15, 16, 17, 18, 19, 20, 21, 22,
  23, 24, 25, 26, 27, 28, 29, 30, 31, 32, 33, 34, 35, 36, 37], []⟩)⟩) (lf := 200) (Sums.by (l := [loopIn Try.prog 13 2, loopIn Try.prog 13 8]) (lj := []) (by kernel_rfl) ⟨SumOK.no (by kernel_rfl), ⟨SumOK.no (by kernel_rfl), trivial⟩⟩ (by kernel_rfl) trivial) (by kernel_rfl)).by (F := F_gnss_Good f_gnss_Good) fun args b r hr => by
  obtain ⟨x0, x1, x2, x3, x4, x5, x6, x7, x8, rfl, rfl, hr1⟩ := e_gnss_Good hr
  exact inl_eval ((d_gnss_Good f_gnss_place f_earth_Good  x0 x1 x2 x3 x4 x5 x6 x7 x8).trans ((n_gnss_Good (fun (d : Bool) => some (Res.mk (AV.r (RV.c (CV.f (FV.b d)))) [] [])) x0 x1 x2 x3 x4 x5 x6 x7 x8).symm.trans hr1))

def K___fx_Acc__Clamp {ρ : Type} (x0 : Int) (x1 : Int) (x2 : Int) (x3 : Bool) (k : (Int × Bool) → Option ρ) : Option ρ := bif decide (x1 > x2) then k (x1, true) else bif decide (x0 < x1) then k (x1, true) else bif decide (x0 > x2) then k (x2, true) else k (x0, x3)
def f___fx_Acc__Clamp (x0 : Int) (x1 : Int) (x2 : Int) (x3 : Bool) : Option (Int × Bool) := K___fx_Acc__Clamp   x0 x1 x2 x3 some
section
open Go.Ab.Rdr
def QA___fx_Acc__Clamp := ((pair (cons (ar (rc (cptr (nat 0) (ok' (nat 0)) (nat 1)))) (cons (ar (rc (cf (fi .i64 hole)))) (cons (ar (rc (cf (fi .i64 hole)))) (cons (ar (rc (cf (fi .i64 hole)))) nil)))) (cons (cons (gc (cf (fb hole))) nil) nil)) : Rdr (List AV × List Blk) _)
end
def F___fx_Acc__Clamp (f : (Int) → (Int) → (Int) → (Bool) → Option (Int × Bool)) : Sem1 := fun args h => match (QA___fx_Acc__Clamp).rd (args, h) with
  | some b => .opt (f b.1.2.1 b.1.2.2.1 b.1.2.2.2.1 b.2.1.1) fun (d : Int × Bool) => .leaf (Res.mk (AV.r (RV.c (CV.f (FV.i IntKind.i64 d.1)))) [Ch.set [Sg.c (CV.f (FV.b d.2))]] [])
  | none => .fail
theorem d___fx_Acc__Clamp (x0 : Int) (x1 : Int) (x2 : Int) (x3 : Bool) : den Try.prog (envOf []) ⟨[], [], [0], [], none⟩ 200 37 [.r (.c (.ptr 0 (.k 0) 1)), .r (.c (.f (.i .i64 x0))), .r (.c (.f (.i .i64 x1))), .r (.c (.f (.i .i64 x2)))] [[.c (.f (.b x3))]] = K___fx_Acc__Clamp x0 x1 x2 x3 (fun (d : Int ×
  Bool) => some (Res.mk (AV.r (RV.c (CV.f (FV.i IntKind.i64 d.1)))) [Ch.set [Sg.c (CV.f (FV.b d.2))]] [])) := by kernel_rfl
theorem m___fx_Acc__Clamp {ρ σ : Type} (q : ρ → Option σ)    (x0 : Int) (x1 : Int) (x2 : Int) (x3 : Bool) (k : (Int × Bool) → Option ρ) : (K___fx_Acc__Clamp   x0 x1 x2 x3 k).bind q = K___fx_Acc__Clamp   x0 x1 x2 x3 (fun d => (k d).bind q) := by
  simp only [K___fx_Acc__Clamp, bnd_cond, bnd_bind, bnd_none, bnd_sum]
theorem qa___fx_Acc__Clamp : ∀ b, (QA___fx_Acc__Clamp).em b = ([.r (.c (.ptr 0 (.k 0) 1)), .r (.c (.f (.i .i64 b.1.2.1))), .r (.c (.f (.i .i64 b.1.2.2.1))), .r (.c (.f (.i .i64 b.1.2.2.2.1)))], [[.c (.f (.b b.2.1.1))]]) := fun b => by kernel_rfl
theorem e___fx_Acc__Clamp {f : (Int) → (Int) → (Int) → (Bool) → Option (Int × Bool)} {args : List AV} {h : List Blk} {r : Res} (hr : (F___fx_Acc__Clamp f args h).eval = some r) : ∃ x0 x1 x2 x3, args = [.r (.c (.ptr 0 (.k 0) 1)), .r (.c (.f (.i .i64 x0))), .r (.c (.f (.i .i64 x1))), .r (.c (.f (.i .i64 x2)))] ∧ h = [[.c (.f (.b x3))]] ∧ (f x0 x1 x2 x3).bind (fun (d : Int × Bool) => some (Res.mk (AV.r (RV.c (CV.f (FV.i IntKind.i64 d.1)))) [Ch.set [Sg.c (CV.f (FV.b d.2))]] [])) = some r := by
  unfold F___fx_Acc__Clamp at hr
  split at hr
  · rename_i b hb
    have e := ((QA___fx_Acc__Clamp).ok _ _ hb).trans (qa___fx_Acc__Clamp b)
    rw [opt_eval2] at hr
    exact ⟨b.1.2.1, b.1.2.2.1, b.1.2.2.2.1, b.2.1.1, (Prod.mk.inj e).1, (Prod.mk.inj e).2, hr⟩
  · cases hr
theorem n___fx_Acc__Clamp {σ : Type} (q : (Int × Bool) → Option σ) (x0 : Int) (x1 : Int) (x2 : Int) (x3 : Bool) : (f___fx_Acc__Clamp x0 x1 x2 x3).bind q = K___fx_Acc__Clamp   x0 x1 x2 x3 q := by
  unfold f___fx_Acc__Clamp
  exact m___fx_Acc__Clamp q    x0 x1 x2 x3 some
theorem s___fx_Acc__Clamp [Amb] : Sound Try.prog 37 (F___fx_Acc__Clamp f___fx_Acc__Clamp) := (inl_sound (l := []) (.nil _) mixed [] [0] 200 (by kernel_rfl)).by (F := F___fx_Acc__Clamp f___fx_Acc__Clamp) fun args b r hr => by
  obtain ⟨x0, x1, x2, x3, rfl, rfl, hr1⟩ := e___fx_Acc__Clamp hr
  exact inl_eval ((d___fx_Acc__Clamp   x0 x1 x2 x3).trans ((n___fx_Acc__Clamp (fun (d : Int × Bool) => some (Res.mk (AV.r (RV.c (CV.f (FV.i IntKind.i64 d.1)))) [Ch.set [Sg.c (CV.f (FV.b d.2))]] [])) x0 x1 x2 x3).symm.trans hr1))

def K___fx_Acc__Sat {ρ : Type} (g___fx_Acc__Clamp : Int → Int → Int → Bool → Option (Int × Bool)) (x0 : Int) (x1 : Bool) (k : (Int × Bool) → Option ρ) : Option ρ := Option.bind (g___fx_Acc__Clamp x0 (-1152921504606846976) 1152921504606846976 x1) fun (d : Int × Bool) => k (d.1, d.2)
def f___fx_Acc__Sat (x0 : Int) (x1 : Bool) : Option (Int × Bool) := K___fx_Acc__Sat f___fx_Acc__Clamp  x0 x1 some
section
open Go.Ab.Rdr
def QA___fx_Acc__Sat := ((pair (cons (ar (rc (cptr (nat 0) (ok' (nat 0)) (nat 1)))) (cons (ar (rc (cf (fi .i64 hole)))) nil)) (cons (cons (gc (cf (fb hole))) nil) nil)) : Rdr (List AV × List Blk) _)
end
def F___fx_Acc__Sat (f : (Int) → (Bool) → Option (Int × Bool)) : Sem1 := fun args h => match (QA___fx_Acc__Sat).rd (args, h) with
  | some b => .opt (f b.1.2.1 b.2.1.1) fun (d : Int × Bool) => .leaf (Res.mk (AV.r (RV.c (CV.f (FV.i IntKind.i64 d.1)))) [Ch.set [Sg.c (CV.f (FV.b d.2))]] [])
  | none => .fail
theorem d___fx_Acc__Sat (g___fx_Acc__Clamp : Int → Int → Int → Bool → Option (Int × Bool)) (x0 : Int) (x1 : Bool) : den Try.prog (envOf [(37, F___fx_Acc__Clamp g___fx_Acc__Clamp)]) ⟨[], [], [], [], none⟩ 200 52 [.r (.c (.ptr 0 (.k 0) 1)), .r (.c (.f (.i .i64 x0)))] [[.c (.f (.b x1))]] = K___fx_Acc__Sat g___fx_Acc__Clamp x0 x1 (fun (d : Int ×
  Bool) => some (Res.mk (AV.r (RV.c (CV.f (FV.i IntKind.i64 d.1)))) [Ch.set [Sg.c (CV.f (FV.b d.2))]] [])) := by kernel_rfl
theorem m___fx_Acc__Sat {ρ σ : Type} (q : ρ → Option σ) (g___fx_Acc__Clamp : Int → Int → Int → Bool → Option (Int × Bool))   (x0 : Int) (x1 : Bool) (k : (Int × Bool) → Option ρ) : (K___fx_Acc__Sat g___fx_Acc__Clamp  x0 x1 k).bind q = K___fx_Acc__Sat g___fx_Acc__Clamp  x0 x1 (fun d => (k d).bind q) := by
  simp only [K___fx_Acc__Sat, bnd_cond, bnd_bind, bnd_none, bnd_sum]
theorem qa___fx_Acc__Sat : ∀ b, (QA___fx_Acc__Sat).em b = ([.r (.c (.ptr 0 (.k 0) 1)), .r (.c (.f (.i .i64 b.1.2.1)))], [[.c (.f (.b b.2.1.1))]]) := fun b => by kernel_rfl
theorem e___fx_Acc__Sat {f : (Int) → (Bool) → Option (Int × Bool)} {args : List AV} {h : List Blk} {r : Res} (hr : (F___fx_Acc__Sat f args h).eval = some r) : ∃ x0 x1, args = [.r (.c (.ptr 0 (.k 0) 1)), .r (.c (.f (.i .i64 x0)))] ∧ h = [[.c (.f (.b x1))]] ∧ (f x0 x1).bind (fun (d : Int × Bool) => some (Res.mk (AV.r (RV.c (CV.f (FV.i IntKind.i64 d.1)))) [Ch.set [Sg.c (CV.f (FV.b d.2))]] [])) = some r := by
  unfold F___fx_Acc__Sat at hr
  split at hr
  · rename_i b hb
    have e := ((QA___fx_Acc__Sat).ok _ _ hb).trans (qa___fx_Acc__Sat b)
    rw [opt_eval2] at hr
    exact ⟨b.1.2.1, b.2.1.1, (Prod.mk.inj e).1, (Prod.mk.inj e).2, hr⟩
  · cases hr
theorem n___fx_Acc__Sat {σ : Type} (q : (Int × Bool) → Option σ) (x0 : Int) (x1 : Bool) : (f___fx_Acc__Sat x0 x1).bind q = K___fx_Acc__Sat f___fx_Acc__Clamp  x0 x1 q := by
  unfold f___fx_Acc__Sat
  exact m___fx_Acc__Sat q f___fx_Acc__Clamp   x0 x1 some
theorem s___fx_Acc__Sat [Amb] : Sound Try.prog 52 (F___fx_Acc__Sat f___fx_Acc__Sat) := (inl_sound (l := [(37, F___fx_Acc__Clamp f___fx_Acc__Clamp)]) (.cons s___fx_Acc__Clamp (.nil _)) mixed [] [] 200 (by kernel_rfl)).by (F := F___fx_Acc__Sat f___fx_Acc__Sat) fun args b r hr => by
  obtain ⟨x0, x1, rfl, rfl, hr1⟩ := e___fx_Acc__Sat hr
  exact inl_eval ((d___fx_Acc__Sat f___fx_Acc__Clamp  x0 x1).trans ((n___fx_Acc__Sat (fun (d : Int × Bool) => some (Res.mk (AV.r (RV.c (CV.f (FV.i IntKind.i64 d.1)))) [Ch.set [Sg.c (CV.f (FV.b d.2))]] [])) x0 x1).symm.trans hr1))

def K_wide_abs64 {ρ : Type} (x0 : Int) (k : (Int) → Option ρ) : Option ρ := bif decide (x0 < 0) then k (IntKind.wrap IntKind.u64 (0 - IntKind.wrap IntKind.u64 x0)) else k (IntKind.wrap IntKind.u64 x0)
def f_wide_abs64 (x0 : Int) : Option (Int) := K_wide_abs64   x0 some
section
open Go.Ab.Rdr
def QA_wide_abs64 := ((pair (cons (ar (rc (cf (fi .i64 hole)))) nil) nil) : Rdr (List AV × List Blk) _)
end
def F_wide_abs64 (f : (Int) → Option (Int)) : Sem1 := fun args h => match (QA_wide_abs64).rd (args, h) with
  | some b => .opt (f b.1.1) fun (d : Int) => .leaf (Res.mk (AV.r (RV.c (CV.f (FV.i IntKind.u64 d)))) [] [])
  | none => .fail
theorem d_wide_abs64 (x0 : Int) : den Try.prog (envOf []) ⟨[], [], [], [], none⟩ 200 76 [.r (.c (.f (.i .i64 x0)))] [] = K_wide_abs64 x0 (fun (d : Int) => some (Res.mk (AV.r (RV.c (CV.f (FV.i IntKind.u64 d)))) [] [])) := by kernel_rfl
theorem m_wide_abs64 {ρ σ : Type} (q : ρ → Option σ)    (x0 : Int) (k : (Int) → Option ρ) : (K_wide_abs64   x0 k).bind q = K_wide_abs64   x0 (fun d => (k d).bind q) := by
  simp only [K_wide_abs64, bnd_cond, bnd_bind, bnd_none, bnd_sum]
theorem qa_wide_abs64 : ∀ b, (QA_wide_abs64).em b = ([.r (.c (.f (.i .i64 b.1.1)))], []) := fun b => by kernel_rfl
theorem e_wide_abs64 {f : (Int) → Option (Int)} {args : List AV} {h : List Blk} {r : Res} (hr : (F_wide_abs64 f args h).eval = some r) : ∃ x0, args = [.r (.c (.f (.i .i64 x0)))] ∧ h = [] ∧ (f x0).bind (fun (d : Int) => some (Res.mk (AV.r (RV.c (CV.f (FV.i IntKind.u64 d)))) [] [])) = some r := by
  unfold F_wide_abs64 at hr
  split at hr
  · rename_i b hb
    have e := ((QA_wide_abs64).ok _ _ hb).trans (qa_wide_abs64 b)
    rw [opt_eval2] at hr
    exact ⟨b.1.1, (Prod.mk.inj e).1, (Prod.mk.inj e).2, hr⟩
  · cases hr
theorem n_wide_abs64 {σ : Type} (q : (Int) → Option σ) (x0 : Int) : (f_wide_abs64 x0).bind q = K_wide_abs64   x0 q := by
  unfold f_wide_abs64
  exact m_wide_abs64 q    x0 some
theorem s_wide_abs64 [Amb] : Sound Try.prog 76 (F_wide_abs64 f_wide_abs64) := (inl_sound (l := []) (.nil _) mixed [] [] 200 (by kernel_rfl)).by (F := F_wide_abs64 f_wide_abs64) fun args b r hr => by
  obtain ⟨x0, rfl, rfl, hr1⟩ := e_wide_abs64 hr
  exact inl_eval ((d_wide_abs64   x0).trans ((n_wide_abs64 (fun (d : Int) => some (Res.mk (AV.r (RV.c (CV.f (FV.i IntKind.u64 d)))) [] [])) x0).symm.trans hr1))

def K_math_bits_Mul64 {ρ : Type} (x0 : Int) (x1 : Int) (k : (Int × Int) → Option ρ) : Option ρ := k (IntKind.wrap IntKind.u64 (IntKind.wrap IntKind.u64 (IntKind.wrap IntKind.u64 (Int.fdiv x0 4294967296 * Int.fdiv x1 4294967296) + Int.fdiv (IntKind.wrap IntKind.u64 (IntKind.wrap IntKind.u64 (Int.fdiv x0 4294967296 * IntKind.wrap IntKind.u64 (Int.ofNat (BitVec.toNat (BitVec.ofInt 64 x1 &&& BitVec.ofInt 64 4294967295)))) + Int.fdiv (IntKind.wrap IntKind.u64 (IntKind.wrap IntKind.u64 (Int.ofNat (BitVec.toNat (BitVec.ofInt 64 x0 &&& BitVec.ofInt 64 4294967295))) * IntKind.wrap IntKind.u64 (Int.ofNat (BitVec.toNat (BitVec.ofInt 64 x1 &&& BitVec.ofInt 64 4294967295))))) 4294967296)) 4294967296) + Int.fdiv (IntKind.wrap IntKind.u64 (IntKind.wrap IntKind.u64 (Int.ofNat (BitVec.toNat (BitVec.ofInt 64 (IntKind.wrap IntKind.u64 (IntKind.wrap IntKind.u64 (Int.fdiv x0 4294967296 * IntKind.wrap IntKind.u64 (Int.ofNat (BitVec.toNat (BitVec.ofInt 64 x1 &&& BitVec.ofInt 64 4294967295)))) + Int.fdiv (IntKind.wrap IntKind.u64 (IntKind.wrap IntKind.u64 (Int.ofNat (BitVec.toNat (BitVec.ofInt 64 x0 &&& BitVec.ofInt 64 4294967295))) * IntKind.wrap IntKind.u64 (Int.ofNat (BitVec.toNat (BitVec.ofInt 64 x1 &&& BitVec.ofInt 64 4294967295))))) 4294967296)) &&& BitVec.ofInt 64 4294967295))) + IntKind.wrap IntKind.u64 (IntKind.wrap IntKind.u64 (Int.ofNat (BitVec.toNat (BitVec.ofInt 64 x0 &&& BitVec.ofInt 64 4294967295))) * Int.fdiv x1 4294967296))) 4294967296),
  IntKind.wrap IntKind.u64 (x0 * x1))
def f_math_bits_Mul64 (x0 : Int) (x1 : Int) : Option (Int × Int) := K_math_bits_Mul64   x0 x1 some
section
open Go.Ab.Rdr
def QA_math_bits_Mul64 := ((pair (cons (ar (rc (cf (fi .u64 hole)))) (cons (ar (rc (cf (fi .u64 hole)))) nil)) nil) : Rdr (List AV × List Blk) _)
end
def F_math_bits_Mul64 (f : (Int) → (Int) → Option (Int × Int)) : Sem1 := fun args h => match (QA_math_bits_Mul64).rd (args, h) with
  | some b => .opt (f b.1.1 b.1.2.1) fun (d : Int × Int) => .leaf (Res.mk (AV.tup [RV.c (CV.f (FV.i IntKind.u64 d.1)), RV.c (CV.f (FV.i IntKind.u64 d.2))]) [] [])
  | none => .fail
theorem d_math_bits_Mul64 (x0 : Int) (x1 : Int) : den Try.prog (envOf []) ⟨[], [], [], [], none⟩ 200 75 [.r (.c (.f (.i .u64 x0))), .r (.c (.f (.i .u64 x1)))] [] = K_math_bits_Mul64 x0 x1 (fun (d : Int × Int) => some (Res.mk (AV.tup [RV.c (CV.f (FV.i IntKind.u64 d.1)), RV.c (CV.f (FV.i IntKind.u64 d.2))]) [] [])) := by kernel_rfl
theorem m_math_bits_Mul64 {ρ σ : Type} (q : ρ → Option σ)    (x0 : Int) (x1 : Int) (k : (Int × Int) → Option ρ) : (K_math_bits_Mul64   x0 x1 k).bind q = K_math_bits_Mul64   x0 x1 (fun d => (k d).bind q) := by
  simp only [K_math_bits_Mul64, bnd_cond, bnd_bind, bnd_none, bnd_sum]
theorem qa_math_bits_Mul64 : ∀ b, (QA_math_bits_Mul64).em b = ([.r (.c (.f (.i .u64 b.1.1))), .r (.c (.f (.i .u64 b.1.2.1)))], []) := fun b => by kernel_rfl
theorem e_math_bits_Mul64 {f : (Int) → (Int) → Option (Int × Int)} {args : List AV} {h : List Blk} {r : Res} (hr : (F_math_bits_Mul64 f args h).eval = some r) : ∃ x0 x1, args = [.r (.c (.f (.i .u64 x0))), .r (.c (.f (.i .u64 x1)))] ∧ h = [] ∧ (f x0 x1).bind (fun (d : Int × Int) => some (Res.mk (AV.tup [RV.c (CV.f (FV.i IntKind.u64 d.1)), RV.c (CV.f (FV.i IntKind.u64 d.2))]) [] [])) = some r := by
  unfold F_math_bits_Mul64 at hr
  split at hr
  · rename_i b hb
    have e := ((QA_math_bits_Mul64).ok _ _ hb).trans (qa_math_bits_Mul64 b)
    rw [opt_eval2] at hr
    exact ⟨b.1.1, b.1.2.1, (Prod.mk.inj e).1, (Prod.mk.inj e).2, hr⟩
  · cases hr
theorem n_math_bits_Mul64 {σ : Type} (q : (Int × Int) → Option σ) (x0 : Int) (x1 : Int) : (f_math_bits_Mul64 x0 x1).bind q = K_math_bits_Mul64   x0 x1 q := by
  unfold f_math_bits_Mul64
  exact m_math_bits_Mul64 q    x0 x1 some
theorem s_math_bits_Mul64 [Amb] : Sound Try.prog 75 (F_math_bits_Mul64 f_math_bits_Mul64) := (inl_sound (l := []) (.nil _) mixed [] [] 200 (by kernel_rfl)).by (F := F_math_bits_Mul64 f_math_bits_Mul64) fun args b r hr => by
  obtain ⟨x0, x1, rfl, rfl, hr1⟩ := e_math_bits_Mul64 hr
  exact inl_eval ((d_math_bits_Mul64   x0 x1).trans ((n_math_bits_Mul64 (fun (d : Int × Int) => some (Res.mk (AV.tup [RV.c (CV.f (FV.i IntKind.u64 d.1)), RV.c (CV.f (FV.i IntKind.u64 d.2))]) [] [])) x0 x1).symm.trans hr1))

def K_wide_signed {ρ : Type} (g_Add64 : C3) (x0 : Int) (x1 : Int) (x2 : Bool) (k : (Int × Int × Bool) → Option ρ) : Option ρ := bif !x2 then k (IntKind.wrap IntKind.i64 x0, x1, Int.fdiv x0 9223372036854775808 == 0) else Option.bind (g_Add64 (IntKind.wrap IntKind.u64 (Int.ofNat (BitVec.toNat (BitVec.ofInt 64 18446744073709551615 ^^^ BitVec.ofInt 64 x1)))) 1 0) fun (d : Int ×
  Int) => bif decide (IntKind.wrap IntKind.i64 (IntKind.wrap IntKind.u64 (IntKind.wrap IntKind.u64 (Int.ofNat (BitVec.toNat (BitVec.ofInt 64 18446744073709551615 ^^^ BitVec.ofInt 64 x0))) + d.2)) < 0) then k (IntKind.wrap IntKind.i64 (IntKind.wrap IntKind.u64 (IntKind.wrap IntKind.u64 (Int.ofNat (BitVec.toNat (BitVec.ofInt 64 18446744073709551615 ^^^ BitVec.ofInt 64 x0))) + d.2)),
  d.1, true) else k (IntKind.wrap IntKind.i64 (IntKind.wrap IntKind.u64 (IntKind.wrap IntKind.u64 (Int.ofNat (BitVec.toNat (BitVec.ofInt 64 18446744073709551615 ^^^ BitVec.ofInt 64 x0))) + d.2)), d.1, x0 == 0 && (x1 == 0 && true))
def f_wide_signed (x0 : Int) (x1 : Int) (x2 : Bool) : Option (Int × Int × Bool) := K_wide_signed f_Add64  x0 x1 x2 some
section
open Go.Ab.Rdr
def QA_wide_signed := ((pair (cons (ar (ra (cons (gc (cf (fi .u64 hole))) (cons (gc (cf (fi .u64 hole))) nil)))) (cons (ar (rc (cf (fb hole)))) nil)) nil) : Rdr (List AV × List Blk) _)
end
def F_wide_signed (f : (Int) → (Int) → (Bool) → Option (Int × Int × Bool)) : Sem1 := fun args h => match (QA_wide_signed).rd (args, h) with
  | some b => .opt (f b.1.1.1 b.1.1.2.1 b.1.2.1) fun (d : Int × Int × Bool) => .leaf (Res.mk (AV.tup [RV.agg [Sg.c (CV.f (FV.i IntKind.i64 d.1)), Sg.c (CV.f (FV.i IntKind.u64 d.2.1))], RV.c (CV.f (FV.b d.2.2))]) [] [])
  | none => .fail
theorem d_wide_signed (g_Add64 : C3) (x0 : Int) (x1 : Int) (x2 : Bool) : den Try.prog (envOf [(91, F_carry g_Add64)]) ⟨[], [], [], [], none⟩ 200 77 [.r (.agg [.c (.f (.i .u64 x0)), .c (.f (.i .u64 x1))]), .r (.c (.f (.b x2)))] [] = K_wide_signed g_Add64 x0 x1 x2 (fun (d : Int × Int × Bool) => some (Res.mk (AV.tup [RV.agg [Sg.c (CV.f (FV.i IntKind.i64 d.1)),
  Sg.c (CV.f (FV.i IntKind.u64 d.2.1))], RV.c (CV.f (FV.b d.2.2))]) [] [])) := by kernel_rfl
theorem m_wide_signed {ρ σ : Type} (q : ρ → Option σ) (g_Add64 : C3)   (x0 : Int) (x1 : Int) (x2 : Bool) (k : (Int × Int × Bool) → Option ρ) : (K_wide_signed g_Add64  x0 x1 x2 k).bind q = K_wide_signed g_Add64  x0 x1 x2 (fun d => (k d).bind q) := by
  simp only [K_wide_signed, bnd_cond, bnd_bind, bnd_none, bnd_sum]
theorem qa_wide_signed : ∀ b, (QA_wide_signed).em b = ([.r (.agg [.c (.f (.i .u64 b.1.1.1)), .c (.f (.i .u64 b.1.1.2.1))]), .r (.c (.f (.b b.1.2.1)))], []) := fun b => by kernel_rfl
theorem e_wide_signed {f : (Int) → (Int) → (Bool) → Option (Int × Int × Bool)} {args : List AV} {h : List Blk} {r : Res} (hr : (F_wide_signed f args h).eval = some r) : ∃ x0 x1 x2, args = [.r (.agg [.c (.f (.i .u64 x0)), .c (.f (.i .u64 x1))]), .r (.c (.f (.b x2)))] ∧ h = [] ∧ (f x0 x1 x2).bind (fun (d : Int × Int × Bool) => some (Res.mk (AV.tup [RV.agg [Sg.c (CV.f (FV.i IntKind.i64 d.1)), Sg.c (CV.f (FV.i IntKind.u64 d.2.1))], RV.c (CV.f (FV.b d.2.2))]) [] [])) = some r := by
  unfold F_wide_signed at hr
  split at hr
  · rename_i b hb
    have e := ((QA_wide_signed).ok _ _ hb).trans (qa_wide_signed b)
    rw [opt_eval2] at hr
    exact ⟨b.1.1.1, b.1.1.2.1, b.1.2.1, (Prod.mk.inj e).1, (Prod.mk.inj e).2, hr⟩
  · cases hr
theorem n_wide_signed {σ : Type} (q : (Int × Int × Bool) → Option σ) (x0 : Int) (x1 : Int) (x2 : Bool) : (f_wide_signed x0 x1 x2).bind q = K_wide_signed f_Add64  x0 x1 x2 q := by
  unfold f_wide_signed
  exact m_wide_signed q f_Add64   x0 x1 x2 some
theorem s_wide_signed [Amb] : Sound Try.prog 77 (F_wide_signed f_wide_signed) := (inl_sound (l := [(91, F_carry f_Add64)]) (.cons s_Add64 (.nil _)) mixed [] [] 200 (by kernel_rfl)).by (F := F_wide_signed f_wide_signed) fun args b r hr => by
  obtain ⟨x0, x1, x2, rfl, rfl, hr1⟩ := e_wide_signed hr
  exact inl_eval ((d_wide_signed f_Add64  x0 x1 x2).trans ((n_wide_signed (fun (d : Int × Int × Bool) => some (Res.mk (AV.tup [RV.agg [Sg.c (CV.f (FV.i IntKind.i64 d.1)), Sg.c (CV.f (FV.i IntKind.u64 d.2.1))], RV.c (CV.f (FV.b d.2.2))]) [] [])) x0 x1 x2).symm.trans hr1))

def K_wide_Mul {ρ : Type} (g_wide_abs64 : Int → Option Int) (g_math_bits_Mul64 : Int → Int → Option (Int × Int)) (g_wide_signed : Int → Int → Bool → Option (Int × Int × Bool)) (x0 : Int) (x1 : Int) (k : (Int × Int) → Option ρ) : Option ρ := Option.bind (g_wide_abs64 x0) fun (d : Int) => Option.bind (g_wide_abs64 x1) fun (d_1 : Int) => Option.bind (g_math_bits_Mul64 d d_1) fun (d : Int ×
  Int) => Option.bind (g_wide_signed d.1 d.2 !decide (x0 < 0) == decide (x1 < 0)) fun (d : Int × Int × Bool) => k (d.1, d.2.1)
def f_wide_Mul (x0 : Int) (x1 : Int) : Option (Int × Int) := K_wide_Mul f_wide_abs64 f_math_bits_Mul64 f_wide_signed  x0 x1 some
section
open Go.Ab.Rdr
def QA_wide_Mul := ((pair (cons (ar (rc (cf (fi .i64 hole)))) (cons (ar (rc (cf (fi .i64 hole)))) nil)) nil) : Rdr (List AV × List Blk) _)
end
def F_wide_Mul (f : (Int) → (Int) → Option (Int × Int)) : Sem1 := fun args h => match (QA_wide_Mul).rd (args, h) with
  | some b => .opt (f b.1.1 b.1.2.1) fun (d : Int × Int) => .leaf (Res.mk (AV.r (RV.agg [Sg.c (CV.f (FV.i IntKind.i64 d.1)), Sg.c (CV.f (FV.i IntKind.u64 d.2))])) [] [])
  | none => .fail
theorem d_wide_Mul (g_wide_abs64 : Int → Option Int) (g_math_bits_Mul64 : Int → Int → Option (Int × Int)) (g_wide_signed : Int → Int → Bool → Option (Int × Int × Bool)) (x0 : Int) (x1 : Int) : den Try.prog (envOf [(76, F_wide_abs64 g_wide_abs64), (75, F_math_bits_Mul64 g_math_bits_Mul64), (77,
  F_wide_signed g_wide_signed)]) ⟨[], [], [], [], none⟩ 200 51 [.r (.c (.f (.i .i64 x0))), .r (.c (.f (.i .i64 x1)))] [] = K_wide_Mul g_wide_abs64 g_math_bits_Mul64 g_wide_signed x0 x1 (fun (d : Int × Int) => some (Res.mk (AV.r (RV.agg [Sg.c (CV.f (FV.i IntKind.i64 d.1)), Sg.c (CV.f (FV.i IntKind.u64 d.2))])) [] [])) := by kernel_rfl
theorem m_wide_Mul {ρ σ : Type} (q : ρ → Option σ) (g_wide_abs64 : Int → Option Int) (g_math_bits_Mul64 : Int → Int → Option (Int × Int)) (g_wide_signed : Int → Int → Bool → Option (Int × Int × Bool))   (x0 : Int) (x1 : Int) (k : (Int × Int) → Option ρ) : (K_wide_Mul g_wide_abs64 g_math_bits_Mul64 g_wide_signed  x0 x1 k).bind q = K_wide_Mul g_wide_abs64 g_math_bits_Mul64 g_wide_signed  x0 x1 (fun d => (k d).bind q) := by
  simp only [K_wide_Mul, bnd_cond, bnd_bind, bnd_none, bnd_sum]
theorem qa_wide_Mul : ∀ b, (QA_wide_Mul).em b = ([.r (.c (.f (.i .i64 b.1.1))), .r (.c (.f (.i .i64 b.1.2.1)))], []) := fun b => by kernel_rfl
theorem e_wide_Mul {f : (Int) → (Int) → Option (Int × Int)} {args : List AV} {h : List Blk} {r : Res} (hr : (F_wide_Mul f args h).eval = some r) : ∃ x0 x1, args = [.r (.c (.f (.i .i64 x0))), .r (.c (.f (.i .i64 x1)))] ∧ h = [] ∧ (f x0 x1).bind (fun (d : Int × Int) => some (Res.mk (AV.r (RV.agg [Sg.c (CV.f (FV.i IntKind.i64 d.1)), Sg.c (CV.f (FV.i IntKind.u64 d.2))])) [] [])) = some r := by
  unfold F_wide_Mul at hr
  split at hr
  · rename_i b hb
    have e := ((QA_wide_Mul).ok _ _ hb).trans (qa_wide_Mul b)
    rw [opt_eval2] at hr
    exact ⟨b.1.1, b.1.2.1, (Prod.mk.inj e).1, (Prod.mk.inj e).2, hr⟩
  · cases hr
theorem n_wide_Mul {σ : Type} (q : (Int × Int) → Option σ) (x0 : Int) (x1 : Int) : (f_wide_Mul x0 x1).bind q = K_wide_Mul f_wide_abs64 f_math_bits_Mul64 f_wide_signed  x0 x1 q := by
  unfold f_wide_Mul
  exact m_wide_Mul q f_wide_abs64 f_math_bits_Mul64 f_wide_signed   x0 x1 some
theorem s_wide_Mul [Amb] : Sound Try.prog 51 (F_wide_Mul f_wide_Mul) := (inl_sound (l := [(76, F_wide_abs64 f_wide_abs64), (75, F_math_bits_Mul64 f_math_bits_Mul64), (77, F_wide_signed f_wide_signed)]) (.cons s_wide_abs64 (.cons s_math_bits_Mul64 (.cons s_wide_signed (.nil _)))) mixed [] [] 200 (by kernel_rfl)).by (F := F_wide_Mul f_wide_Mul) fun args b r hr => by
  obtain ⟨x0, x1, rfl, rfl, hr1⟩ := e_wide_Mul hr
  exact inl_eval ((d_wide_Mul f_wide_abs64 f_math_bits_Mul64 f_wide_signed  x0 x1).trans ((n_wide_Mul (fun (d : Int × Int) => some (Res.mk (AV.r (RV.agg [Sg.c (CV.f (FV.i IntKind.i64 d.1)), Sg.c (CV.f (FV.i IntKind.u64 d.2))])) [] [])) x0 x1).symm.trans hr1))

def K_fx_sign {ρ : Type} (x0 : Bool) (k : (Int) → Option ρ) : Option ρ := bif x0 then k (-1152921504606846976) else k 1152921504606846976
def f_fx_sign (x0 : Bool) : Option (Int) := K_fx_sign   x0 some
section
open Go.Ab.Rdr
def QA_fx_sign := ((pair (cons (ar (rc (cf (fb hole)))) nil) nil) : Rdr (List AV × List Blk) _)
end
def F_fx_sign (f : (Bool) → Option (Int)) : Sem1 := fun args h => match (QA_fx_sign).rd (args, h) with
  | some b => .opt (f b.1.1) fun (d : Int) => .leaf (Res.mk (AV.r (RV.c (CV.f (FV.i IntKind.i64 d)))) [] [])
  | none => .fail
theorem d_fx_sign (x0 : Bool) : den Try.prog (envOf []) ⟨[], [], [], [], none⟩ 200 73 [.r (.c (.f (.b x0)))] [] = K_fx_sign x0 (fun (d : Int) => some (Res.mk (AV.r (RV.c (CV.f (FV.i IntKind.i64 d)))) [] [])) := by kernel_rfl
theorem m_fx_sign {ρ σ : Type} (q : ρ → Option σ)    (x0 : Bool) (k : (Int) → Option ρ) : (K_fx_sign   x0 k).bind q = K_fx_sign   x0 (fun d => (k d).bind q) := by
  simp only [K_fx_sign, bnd_cond, bnd_bind, bnd_none, bnd_sum]
theorem qa_fx_sign : ∀ b, (QA_fx_sign).em b = ([.r (.c (.f (.b b.1.1)))], []) := fun b => by kernel_rfl
theorem e_fx_sign {f : (Bool) → Option (Int)} {args : List AV} {h : List Blk} {r : Res} (hr : (F_fx_sign f args h).eval = some r) : ∃ x0, args = [.r (.c (.f (.b x0)))] ∧ h = [] ∧ (f x0).bind (fun (d : Int) => some (Res.mk (AV.r (RV.c (CV.f (FV.i IntKind.i64 d)))) [] [])) = some r := by
  unfold F_fx_sign at hr
  split at hr
  · rename_i b hb
    have e := ((QA_fx_sign).ok _ _ hb).trans (qa_fx_sign b)
    rw [opt_eval2] at hr
    exact ⟨b.1.1, (Prod.mk.inj e).1, (Prod.mk.inj e).2, hr⟩
  · cases hr
theorem n_fx_sign {σ : Type} (q : (Int) → Option σ) (x0 : Bool) : (f_fx_sign x0).bind q = K_fx_sign   x0 q := by
  unfold f_fx_sign
  exact m_fx_sign q    x0 some
theorem s_fx_sign [Amb] : Sound Try.prog 73 (F_fx_sign f_fx_sign) := (inl_sound (l := []) (.nil _) mixed [] [] 200 (by kernel_rfl)).by (F := F_fx_sign f_fx_sign) fun args b r hr => by
  obtain ⟨x0, rfl, rfl, hr1⟩ := e_fx_sign hr
  exact inl_eval ((d_fx_sign   x0).trans ((n_fx_sign (fun (d : Int) => some (Res.mk (AV.r (RV.c (CV.f (FV.i IntKind.i64 d)))) [] [])) x0).symm.trans hr1))

def K_wide_abs {ρ : Type} (g_Add64 : C3) (x0 : Int) (x1 : Int) (k : (Int × Int × Bool) → Option ρ) : Option ρ := bif decide (x0 ≥ 0) then k (IntKind.wrap IntKind.u64 x0, x1, false) else Option.bind (g_Add64 (IntKind.wrap IntKind.u64 (Int.ofNat (BitVec.toNat (BitVec.ofInt 64 18446744073709551615 ^^^ BitVec.ofInt 64 x1)))) 1 0) fun (d : Int ×
  Int) => k (IntKind.wrap IntKind.u64 (IntKind.wrap IntKind.u64 (Int.ofNat (BitVec.toNat (BitVec.ofInt 64 18446744073709551615 ^^^ BitVec.ofInt 64 (IntKind.wrap IntKind.u64 x0)))) + d.2), d.1, true)
def f_wide_abs (x0 : Int) (x1 : Int) : Option (Int × Int × Bool) := K_wide_abs f_Add64  x0 x1 some
section
open Go.Ab.Rdr
def QA_wide_abs := ((pair (cons (ar (ra (cons (gc (cf (fi .i64 hole))) (cons (gc (cf (fi .u64 hole))) nil)))) nil) nil) : Rdr (List AV × List Blk) _)
end
def F_wide_abs (f : (Int) → (Int) → Option (Int × Int × Bool)) : Sem1 := fun args h => match (QA_wide_abs).rd (args, h) with
  | some b => .opt (f b.1.1.1 b.1.1.2.1) fun (d : Int × Int × Bool) => .leaf (Res.mk (AV.tup [RV.agg [Sg.c (CV.f (FV.i IntKind.u64 d.1)), Sg.c (CV.f (FV.i IntKind.u64 d.2.1))], RV.c (CV.f (FV.b d.2.2))]) [] [])
  | none => .fail
theorem d_wide_abs (g_Add64 : C3) (x0 : Int) (x1 : Int) : den Try.prog (envOf [(91, F_carry g_Add64)]) ⟨[], [], [], [], none⟩ 200 82 [.r (.agg [.c (.f (.i .i64 x0)), .c (.f (.i .u64 x1))])] [] = K_wide_abs g_Add64 x0 x1 (fun (d : Int × Int × Bool) => some (Res.mk (AV.tup [RV.agg [Sg.c (CV.f (FV.i IntKind.u64 d.1)),
  Sg.c (CV.f (FV.i IntKind.u64 d.2.1))], RV.c (CV.f (FV.b d.2.2))]) [] [])) := by kernel_rfl
theorem m_wide_abs {ρ σ : Type} (q : ρ → Option σ) (g_Add64 : C3)   (x0 : Int) (x1 : Int) (k : (Int × Int × Bool) → Option ρ) : (K_wide_abs g_Add64  x0 x1 k).bind q = K_wide_abs g_Add64  x0 x1 (fun d => (k d).bind q) := by
  simp only [K_wide_abs, bnd_cond, bnd_bind, bnd_none, bnd_sum]
theorem qa_wide_abs : ∀ b, (QA_wide_abs).em b = ([.r (.agg [.c (.f (.i .i64 b.1.1.1)), .c (.f (.i .u64 b.1.1.2.1))])], []) := fun b => by kernel_rfl
theorem e_wide_abs {f : (Int) → (Int) → Option (Int × Int × Bool)} {args : List AV} {h : List Blk} {r : Res} (hr : (F_wide_abs f args h).eval = some r) : ∃ x0 x1, args = [.r (.agg [.c (.f (.i .i64 x0)), .c (.f (.i .u64 x1))])] ∧ h = [] ∧ (f x0 x1).bind (fun (d : Int × Int × Bool) => some (Res.mk (AV.tup [RV.agg [Sg.c (CV.f (FV.i IntKind.u64 d.1)), Sg.c (CV.f (FV.i IntKind.u64 d.2.1))], RV.c (CV.f (FV.b d.2.2))]) [] [])) = some r := by
  unfold F_wide_abs at hr
  split at hr
  · rename_i b hb
    have e := ((QA_wide_abs).ok _ _ hb).trans (qa_wide_abs b)
    rw [opt_eval2] at hr
    exact ⟨b.1.1.1, b.1.1.2.1, (Prod.mk.inj e).1, (Prod.mk.inj e).2, hr⟩
  · cases hr
theorem n_wide_abs {σ : Type} (q : (Int × Int × Bool) → Option σ) (x0 : Int) (x1 : Int) : (f_wide_abs x0 x1).bind q = K_wide_abs f_Add64  x0 x1 q := by
  unfold f_wide_abs
  exact m_wide_abs q f_Add64   x0 x1 some
theorem s_wide_abs [Amb] : Sound Try.prog 82 (F_wide_abs f_wide_abs) := (inl_sound (l := [(91, F_carry f_Add64)]) (.cons s_Add64 (.nil _)) mixed [] [] 200 (by kernel_rfl)).by (F := F_wide_abs f_wide_abs) fun args b r hr => by
  obtain ⟨x0, x1, rfl, rfl, hr1⟩ := e_wide_abs hr
  exact inl_eval ((d_wide_abs f_Add64  x0 x1).trans ((n_wide_abs (fun (d : Int × Int × Bool) => some (Res.mk (AV.tup [RV.agg [Sg.c (CV.f (FV.i IntKind.u64 d.1)), Sg.c (CV.f (FV.i IntKind.u64 d.2.1))], RV.c (CV.f (FV.b d.2.2))]) [] [])) x0 x1).symm.trans hr1))

def S_math_bits_Len64_2 {ρ : Type} (x0 : Int) (x1 : Int) (c : (Int × Int) → Option ρ) (x : (Int) → Option ρ) : Option ρ := bif inR (IntKind.wrap IntKind.u8 x0) 256 then x (IntKind.wrap IntKind.i64 (x1 + IntKind.wrap IntKind.i64 (byteAt (ByteArray.mk (List.toArray (List.append (List.append [0, 1, 2, 2,
  3, 3, 3, 3, 4, 4, 4, 4, 4, 4, 4, 4, 5, 5, 5, 5, 5, 5, 5, 5, 5, 5, 5, 5, 5, 5, 5, 5, 6, 6, 6, 6, 6, 6, 6, 6, 6, 6, 6, 6, 6, 6, 6, 6, 6, 6, 6, 6, 6, 6, 6, 6, 6, 6, 6, 6, 6, 6, 6, 6] [7, 7, 7, 7, 7, 7, 7, 7, 7, 7, 7, 7, 7, 7, 7, 7, 7, 7, 7, 7, 7, 7, 7, 7, 7, 7, 7, 7, 7, 7, 7, 7, 7, 7, 7, 7, 7, 7, 7, 7,
  7, 7, 7, 7, 7, 7, 7, 7, 7, 7, 7, 7, 7, 7, 7, 7, 7, 7, 7, 7, 7, 7, 7, 7]) (List.append [8, 8, 8, 8, 8, 8, 8, 8, 8, 8, 8, 8, 8, 8, 8, 8, 8, 8, 8, 8, 8, 8, 8, 8, 8, 8, 8, 8, 8, 8, 8, 8, 8, 8, 8, 8, 8, 8, 8, 8, 8, 8, 8, 8, 8, 8, 8, 8, 8, 8, 8, 8, 8, 8, 8, 8, 8, 8, 8, 8, 8, 8, 8, 8] [8, 8, 8, 8, 8, 8, 8,
  8, 8, 8, 8, 8, 8, 8, 8, 8, 8, 8, 8, 8, 8, 8, 8, 8, 8, 8, 8, 8, 8, 8, 8, 8, 8, 8, 8, 8, 8, 8, 8, 8, 8, 8, 8, 8, 8, 8, 8, 8, 8, 8, 8, 8, 8, 8, 8, 8, 8, 8, 8, 8, 8, 8, 8, 8])))) (Int.toNat (IntKind.wrap IntKind.u8 x0))))) else none
section
open Go.Ab.Rdr
def Q_math_bits_Len64_2 := (st (cons (ar (rc (cf (fi .u64 hole)))) (cons aund (cons (ar (rc (cf (fi .i64 hole)))) (cons aund (cons aund (cons aund (cons aund (cons aund (cons aund (cons aund (cons aund (cons aund (cons aund (cons aund (cons aund (cons aund (cons aund (cons aund (cons aund (cons aund (cons aund (cons aund (cons aund (cons aund (cons aund nil))))))))))))))))))))))))) nil nil)
end
theorem q_math_bits_Len64_2 : ∀ b, (Q_math_bits_Len64_2).em b = St.mk [AV.r (RV.c (CV.f (FV.i IntKind.u64 b.1.1))), AV.und, AV.r (RV.c (CV.f (FV.i IntKind.i64 b.1.2.2.1))), AV.und, AV.und, AV.und, AV.und, AV.und, AV.und, AV.und, AV.und, AV.und, AV.und, AV.und, AV.und, AV.und, AV.und, AV.und, AV.und,
  AV.und, AV.und, AV.und, AV.und, AV.und, AV.und] [] [] := fun b => by kernel_rfl
def R_math_bits_Len64_2 (l : ∀ {ρ : Type}, (Int × Int) → ((Int) → Option ρ) → Option ρ) {ρ : Type} (s : St) (K : AX → St → Option ρ) : Option ρ := ((Q_math_bits_Len64_2).rd s).bind fun b => l (b.1.1, b.1.2.2.1) (fun d => K (AX.ret) (St.mk [AV.und, AV.und, AV.r (RV.c (CV.f (FV.i IntKind.i64 d))), AV.und,
  AV.und, AV.und, AV.und, AV.und, AV.und, AV.und, AV.und, AV.und, AV.und, AV.und, AV.und, AV.und, AV.und, AV.und, AV.und, AV.und, AV.und, AV.und, AV.und, AV.und, AV.und] [] []))
theorem ms_math_bits_Len64_2 {ρ σ : Type}    (q : ρ → Option σ) (x0 : Int) (x1 : Int) (c : (Int × Int) → Option ρ) (x : (Int) → Option ρ) : (S_math_bits_Len64_2   x0 x1 c x).bind q = S_math_bits_Len64_2   x0 x1 (fun d => (c d).bind q) (fun d => (x d).bind q) := by
  simp only [S_math_bits_Len64_2, bnd_cond, bnd_bind, bnd_none, bnd_sum]
def L_math_bits_Len64_2 {ρ : Type} (d : Int × Int) (k : (Int) → Option ρ) : Option ρ := S_math_bits_Len64_2   d.1 d.2 (fun _ => none) k
theorem mL_math_bits_Len64_2 {ρ σ : Type} (q : ρ → Option σ) (d : Int × Int) (k : (Int) → Option ρ) : (L_math_bits_Len64_2 d k).bind q = L_math_bits_Len64_2 d fun x => (k x).bind q := ms_math_bits_Len64_2 q d.1 d.2 (fun _ => none) k
def S_math_bits_Len64_1 {ρ : Type} (l_2 : ∀ {ρ : Type}, (Int × Int) → ((Int) → Option ρ) → Option ρ) (x0 : Int) (x1 : Int) (c : (Int × Int) → Option ρ) (x : (Int) → Option ρ) : Option ρ := bif decide (x0 ≥ 256) then l_2 (Int.fdiv x0 256, IntKind.wrap IntKind.i64 (x1 + 8)) fun (d : Int) => x d else l_2 (x0,
  x1) fun (d : Int) => x d
section
open Go.Ab.Rdr
def Q_math_bits_Len64_1 := (st (cons (ar (rc (cf (fi .u64 hole)))) (cons aund (cons (ar (rc (cf (fi .i64 hole)))) (cons aund (cons aund (cons aund (cons aund (cons aund (cons aund (cons aund (cons aund (cons aund (cons aund (cons aund (cons aund (cons aund (cons aund (cons aund (cons aund (cons aund (cons aund (cons aund (cons aund (cons aund (cons aund nil))))))))))))))))))))))))) nil nil)
end
theorem q_math_bits_Len64_1 : ∀ b, (Q_math_bits_Len64_1).em b = St.mk [AV.r (RV.c (CV.f (FV.i IntKind.u64 b.1.1))), AV.und, AV.r (RV.c (CV.f (FV.i IntKind.i64 b.1.2.2.1))), AV.und, AV.und, AV.und, AV.und, AV.und, AV.und, AV.und, AV.und, AV.und, AV.und, AV.und, AV.und, AV.und, AV.und, AV.und, AV.und,
  AV.und, AV.und, AV.und, AV.und, AV.und, AV.und] [] [] := fun b => by kernel_rfl
def R_math_bits_Len64_1 (l : ∀ {ρ : Type}, (Int × Int) → ((Int) → Option ρ) → Option ρ) {ρ : Type} (s : St) (K : AX → St → Option ρ) : Option ρ := ((Q_math_bits_Len64_1).rd s).bind fun b => l (b.1.1, b.1.2.2.1) (fun d => K (AX.ret) (St.mk [AV.und, AV.und, AV.r (RV.c (CV.f (FV.i IntKind.i64 d))), AV.und,
  AV.und, AV.und, AV.und, AV.und, AV.und, AV.und, AV.und, AV.und, AV.und, AV.und, AV.und, AV.und, AV.und, AV.und, AV.und, AV.und, AV.und, AV.und, AV.und, AV.und, AV.und] [] []))
theorem ms_math_bits_Len64_1 {ρ σ : Type}  (l_2 : ∀ {ρ : Type}, (Int × Int) → ((Int) → Option ρ) → Option ρ) (hl_2 : ∀ {ρ σ : Type} (q : ρ → Option σ) (d : Int × Int) (k : (Int) → Option ρ), (l_2 d k).bind q = l_2 d fun x => (k x).bind q) (q : ρ → Option σ) (x0 : Int) (x1 : Int) (c : (Int × Int) → Option ρ) (x : (Int) → Option ρ) : (S_math_bits_Len64_1  (@l_2) x0 x1 c x).bind q = S_math_bits_Len64_1  (@l_2) x0 x1 (fun d => (c d).bind q) (fun d => (x d).bind q) := by
  simp only [S_math_bits_Len64_1, bnd_cond, bnd_bind, bnd_none, bnd_sum, hl_2]
def L_math_bits_Len64_1 {ρ : Type} (d : Int × Int) (k : (Int) → Option ρ) : Option ρ := S_math_bits_Len64_1  (@L_math_bits_Len64_2) d.1 d.2 (fun _ => none) k
theorem mL_math_bits_Len64_1 {ρ σ : Type} (q : ρ → Option σ) (d : Int × Int) (k : (Int) → Option ρ) : (L_math_bits_Len64_1 d k).bind q = L_math_bits_Len64_1 d fun x => (k x).bind q := ms_math_bits_Len64_1 (@L_math_bits_Len64_2) (fun q d k => mL_math_bits_Len64_2 q d k) q d.1 d.2 (fun _ => none) k
def S_math_bits_Len64_0 {ρ : Type} (l_1 : ∀ {ρ : Type}, (Int × Int) → ((Int) → Option ρ) → Option ρ) (x0 : Int) (x1 : Int) (c : (Int × Int) → Option ρ) (x : (Int) → Option ρ) : Option ρ := bif decide (x0 ≥ 65536) then l_1 (Int.fdiv x0 65536, IntKind.wrap IntKind.i64 (x1 + 16)) fun (d : Int) => x d else
  l_1 (x0, x1) fun (d : Int) => x d
section
open Go.Ab.Rdr
def Q_math_bits_Len64_0 := (st (cons (ar (rc (cf (fi .u64 hole)))) (cons aund (cons (ar (rc (cf (fi .i64 hole)))) (cons aund (cons aund (cons aund (cons aund (cons aund (cons aund (cons aund (cons aund (cons aund (cons aund (cons aund (cons aund (cons aund (cons aund (cons aund (cons aund (cons aund (cons aund (cons aund (cons aund (cons aund (cons aund nil))))))))))))))))))))))))) nil nil)
end
theorem q_math_bits_Len64_0 : ∀ b, (Q_math_bits_Len64_0).em b = St.mk [AV.r (RV.c (CV.f (FV.i IntKind.u64 b.1.1))), AV.und, AV.r (RV.c (CV.f (FV.i IntKind.i64 b.1.2.2.1))), AV.und, AV.und, AV.und, AV.und, AV.und, AV.und, AV.und, AV.und, AV.und, AV.und, AV.und, AV.und, AV.und, AV.und, AV.und, AV.und,
  AV.und, AV.und, AV.und, AV.und, AV.und, AV.und] [] [] := fun b => by kernel_rfl
def R_math_bits_Len64_0 (l : ∀ {ρ : Type}, (Int × Int) → ((Int) → Option ρ) → Option ρ) {ρ : Type} (s : St) (K : AX → St → Option ρ) : Option ρ := ((Q_math_bits_Len64_0).rd s).bind fun b => l (b.1.1, b.1.2.2.1) (fun d => K (AX.ret) (St.mk [AV.und, AV.und, AV.r (RV.c (CV.f (FV.i IntKind.i64 d))), AV.und,
  AV.und, AV.und, AV.und, AV.und, AV.und, AV.und, AV.und, AV.und, AV.und, AV.und, AV.und, AV.und, AV.und, AV.und, AV.und, AV.und, AV.und, AV.und, AV.und, AV.und, AV.und] [] []))
theorem ms_math_bits_Len64_0 {ρ σ : Type}  (l_1 : ∀ {ρ : Type}, (Int × Int) → ((Int) → Option ρ) → Option ρ) (hl_1 : ∀ {ρ σ : Type} (q : ρ → Option σ) (d : Int × Int) (k : (Int) → Option ρ), (l_1 d k).bind q = l_1 d fun x => (k x).bind q) (q : ρ → Option σ) (x0 : Int) (x1 : Int) (c : (Int × Int) → Option ρ) (x : (Int) → Option ρ) : (S_math_bits_Len64_0  (@l_1) x0 x1 c x).bind q = S_math_bits_Len64_0  (@l_1) x0 x1 (fun d => (c d).bind q) (fun d => (x d).bind q) := by
  simp only [S_math_bits_Len64_0, bnd_cond, bnd_bind, bnd_none, bnd_sum, hl_1]
def L_math_bits_Len64_0 {ρ : Type} (d : Int × Int) (k : (Int) → Option ρ) : Option ρ := S_math_bits_Len64_0  (@L_math_bits_Len64_1) d.1 d.2 (fun _ => none) k
theorem mL_math_bits_Len64_0 {ρ σ : Type} (q : ρ → Option σ) (d : Int × Int) (k : (Int) → Option ρ) : (L_math_bits_Len64_0 d k).bind q = L_math_bits_Len64_0 d fun x => (k x).bind q := ms_math_bits_Len64_0 (@L_math_bits_Len64_1) (fun q d k => mL_math_bits_Len64_1 q d k) q d.1 d.2 (fun _ => none) k
theorem ds_math_bits_Len64_2 {ρ : Type} (l_2 : ∀ {ρ : Type}, (Int × Int) → ((Int) → Option ρ) → Option ρ) (l_1 : ∀ {ρ : Type}, (Int × Int) → ((Int) → Option ρ) → Option ρ) (l_0 : ∀ {ρ : Type}, (Int × Int) → ((Int) → Option ρ) → Option ρ) (x0 : Int) (x1 : Int) (K : AX → St → Option ρ) : runC Try.prog (envOf []) ⟨[],
  [], [], [⟨⟨4, [1, 3, 4, 5, 6, 7, 8, 9, 10, 11, 12, 13, 14, 15, 16, 17, 18, 19, 20, 21, 22, 23, 24], []⟩, ⟨4, 0, @R_math_bits_Len64_0 (@l_0)⟩⟩, ⟨⟨7, [1, 3, 4, 5, 6, 7, 8, 9, 10, 11, 12, 13, 14, 15, 16, 17, 18, 19, 20, 21, 22, 23, 24], []⟩, ⟨7, 0, @R_math_bits_Len64_1 (@l_1)⟩⟩, ⟨⟨10, [1, 3, 4, 5, 6, 7,
  8, 9, 10, 11, 12, 13, 14, 15, 16, 17, 18, 19, 20, 21, 22, 23, 24], []⟩, ⟨10, 0, @R_math_bits_Len64_2 (@l_2)⟩⟩], (some ⟨0, [0, 1, 3, 4, 5, 6, 7, 8, 9, 10, 11, 12, 13, 14, 15, 16, 17, 18, 19, 20, 21, 22, 23, 24], []⟩)⟩ (tmpsOf Try.prog 96) 0 200 (joinIn Try.prog 96 10) (St.mk [AV.r (RV.c (CV.f (FV.i IntKind.u64 x0))),
  AV.und, AV.r (RV.c (CV.f (FV.i IntKind.i64 x1))), AV.und, AV.und, AV.und, AV.und, AV.und, AV.und, AV.und, AV.und, AV.und, AV.und, AV.und, AV.und, AV.und, AV.und, AV.und, AV.und, AV.und, AV.und, AV.und, AV.und, AV.und, AV.und] [] []) K = S_math_bits_Len64_2 x0 x1 (fun _ => none) (fun d => K (AX.ret) (St.mk [AV.und,
  AV.und, AV.r (RV.c (CV.f (FV.i IntKind.i64 d))), AV.und, AV.und, AV.und, AV.und, AV.und, AV.und, AV.und, AV.und, AV.und, AV.und, AV.und, AV.und, AV.und, AV.und, AV.und, AV.und, AV.und, AV.und, AV.und, AV.und, AV.und, AV.und] [] [])) := by kernel_rfl
theorem so_math_bits_Len64_2 [Amb] : ∀ kk, JnOK Try.prog (envOf []) ⟨[], [], [], [⟨⟨4, [1, 3, 4, 5, 6, 7, 8, 9, 10, 11, 12, 13, 14, 15, 16, 17, 18, 19, 20, 21, 22, 23, 24], []⟩, ⟨4, 0, @R_math_bits_Len64_0 (@L_math_bits_Len64_0)⟩⟩, ⟨⟨7, [1, 3, 4, 5, 6, 7, 8, 9, 10, 11, 12, 13, 14, 15, 16, 17, 18, 19,
  20, 21, 22, 23, 24], []⟩, ⟨7, 0, @R_math_bits_Len64_1 (@L_math_bits_Len64_1)⟩⟩, ⟨⟨10, [1, 3, 4, 5, 6, 7, 8, 9, 10, 11, 12, 13, 14, 15, 16, 17, 18, 19, 20, 21, 22, 23, 24], []⟩, ⟨10, 0, @R_math_bits_Len64_2 (@L_math_bits_Len64_2)⟩⟩], (some ⟨0, [0, 1, 3, 4, 5, 6, 7, 8, 9, 10, 11, 12, 13, 14, 15, 16, 17,
  18, 19, 20, 21, 22, 23, 24], []⟩)⟩ (tmpsOf Try.prog 96) kk 200 (joinIn Try.prog 96 10) := JnOK.of (id := 10) (k0 := 0) (hd := ⟨10, [1, 3, 4, 5, 6, 7, 8, 9, 10, 11, 12, 13, 14, 15, 16, 17, 18, 19, 20, 21, 22, 23, 24], []⟩) (run := @R_math_bits_Len64_2 (@L_math_bits_Len64_2)) (by kernel_rfl) fun s K r hr => by
    unfold R_math_bits_Len64_2 at hr
    obtain ⟨b, hb, hr1⟩ := Option.bind_eq_some_iff.1 hr
    have e := ((Q_math_bits_Len64_2).ok s b hb).trans (q_math_bits_Len64_2 b)
    subst e
    exact (ds_math_bits_Len64_2  (@L_math_bits_Len64_2) (@L_math_bits_Len64_1) (@L_math_bits_Len64_0) b.1.1 b.1.2.2.1 K).trans hr1
theorem ds_math_bits_Len64_1 {ρ : Type} (l_2 : ∀ {ρ : Type}, (Int × Int) → ((Int) → Option ρ) → Option ρ) (l_1 : ∀ {ρ : Type}, (Int × Int) → ((Int) → Option ρ) → Option ρ) (l_0 : ∀ {ρ : Type}, (Int × Int) → ((Int) → Option ρ) → Option ρ) (x0 : Int) (x1 : Int) (K : AX → St → Option ρ) : runC Try.prog (envOf []) ⟨[],
  [], [], [⟨⟨4, [1, 3, 4, 5, 6, 7, 8, 9, 10, 11, 12, 13, 14, 15, 16, 17, 18, 19, 20, 21, 22, 23, 24], []⟩, ⟨4, 0, @R_math_bits_Len64_0 (@l_0)⟩⟩, ⟨⟨7, [1, 3, 4, 5, 6, 7, 8, 9, 10, 11, 12, 13, 14, 15, 16, 17, 18, 19, 20, 21, 22, 23, 24], []⟩, ⟨7, 0, @R_math_bits_Len64_1 (@l_1)⟩⟩, ⟨⟨10, [1, 3, 4, 5, 6, 7,
  8, 9, 10, 11, 12, 13, 14, 15, 16, 17, 18, 19, 20, 21, 22, 23, 24], []⟩, ⟨10, 0, @R_math_bits_Len64_2 (@l_2)⟩⟩], (some ⟨0, [0, 1, 3, 4, 5, 6, 7, 8, 9, 10, 11, 12, 13, 14, 15, 16, 17, 18, 19, 20, 21, 22, 23, 24], []⟩)⟩ (tmpsOf Try.prog 96) 0 200 (joinIn Try.prog 96 7) (St.mk [AV.r (RV.c (CV.f (FV.i IntKind.u64 x0))),
  AV.und, AV.r (RV.c (CV.f (FV.i IntKind.i64 x1))), AV.und, AV.und, AV.und, AV.und, AV.und, AV.und, AV.und, AV.und, AV.und, AV.und, AV.und, AV.und, AV.und, AV.und, AV.und, AV.und, AV.und, AV.und, AV.und, AV.und, AV.und, AV.und] [] []) K = S_math_bits_Len64_1 (@l_2) x0 x1 (fun _ => none) (fun d => K (AX.ret) (St.mk [AV.und,
  AV.und, AV.r (RV.c (CV.f (FV.i IntKind.i64 d))), AV.und, AV.und, AV.und, AV.und, AV.und, AV.und, AV.und, AV.und, AV.und, AV.und, AV.und, AV.und, AV.und, AV.und, AV.und, AV.und, AV.und, AV.und, AV.und, AV.und, AV.und, AV.und] [] [])) := by kernel_rfl
theorem so_math_bits_Len64_1 [Amb] : ∀ kk, JnOK Try.prog (envOf []) ⟨[], [], [], [⟨⟨4, [1, 3, 4, 5, 6, 7, 8, 9, 10, 11, 12, 13, 14, 15, 16, 17, 18, 19, 20, 21, 22, 23, 24], []⟩, ⟨4, 0, @R_math_bits_Len64_0 (@L_math_bits_Len64_0)⟩⟩, ⟨⟨7, [1, 3, 4, 5, 6, 7, 8, 9, 10, 11, 12, 13, 14, 15, 16, 17, 18, 19,
  20, 21, 22, 23, 24], []⟩, ⟨7, 0, @R_math_bits_Len64_1 (@L_math_bits_Len64_1)⟩⟩, ⟨⟨10, [1, 3, 4, 5, 6, 7, 8, 9, 10, 11, 12, 13, 14, 15, 16, 17, 18, 19, 20, 21, 22, 23, 24], []⟩, ⟨10, 0, @R_math_bits_Len64_2 (@L_math_bits_Len64_2)⟩⟩], (some ⟨0, [0, 1, 3, 4, 5, 6, 7, 8, 9, 10, 11, 12, 13, 14, 15, 16, 17,
  18, 19, 20, 21, 22, 23, 24], []⟩)⟩ (tmpsOf Try.prog 96) kk 200 (joinIn Try.prog 96 7) := JnOK.of (id := 7) (k0 := 0) (hd := ⟨7, [1, 3, 4, 5, 6, 7, 8, 9, 10, 11, 12, 13, 14, 15, 16, 17, 18, 19, 20, 21, 22, 23, 24], []⟩) (run := @R_math_bits_Len64_1 (@L_math_bits_Len64_1)) (by kernel_rfl) fun s K r hr => by
    unfold R_math_bits_Len64_1 at hr
    obtain ⟨b, hb, hr1⟩ := Option.bind_eq_some_iff.1 hr
    have e := ((Q_math_bits_Len64_1).ok s b hb).trans (q_math_bits_Len64_1 b)
    subst e
    exact (ds_math_bits_Len64_1  (@L_math_bits_Len64_2) (@L_math_bits_Len64_1) (@L_math_bits_Len64_0) b.1.1 b.1.2.2.1 K).trans hr1
theorem ds_math_bits_Len64_0 {ρ : Type} (l_2 : ∀ {ρ : Type}, (Int × Int) → ((Int) → Option ρ) → Option ρ) (l_1 : ∀ {ρ : Type}, (Int × Int) → ((Int) → Option ρ) → Option ρ) (l_0 : ∀ {ρ : Type}, (Int × Int) → ((Int) → Option ρ) → Option ρ) (x0 : Int) (x1 : Int) (K : AX → St → Option ρ) : runC Try.prog (envOf []) ⟨[],
  [], [], [⟨⟨4, [1, 3, 4, 5, 6, 7, 8, 9, 10, 11, 12, 13, 14, 15, 16, 17, 18, 19, 20, 21, 22, 23, 24], []⟩, ⟨4, 0, @R_math_bits_Len64_0 (@l_0)⟩⟩, ⟨⟨7, [1, 3, 4, 5, 6, 7, 8, 9, 10, 11, 12, 13, 14, 15, 16, 17, 18, 19, 20, 21, 22, 23, 24], []⟩, ⟨7, 0, @R_math_bits_Len64_1 (@l_1)⟩⟩, ⟨⟨10, [1, 3, 4, 5, 6, 7,
  8, 9, 10, 11, 12, 13, 14, 15, 16, 17, 18, 19, 20, 21, 22, 23, 24], []⟩, ⟨10, 0, @R_math_bits_Len64_2 (@l_2)⟩⟩], (some ⟨0, [0, 1, 3, 4, 5, 6, 7, 8, 9, 10, 11, 12, 13, 14, 15, 16, 17, 18, 19, 20, 21, 22, 23, 24], []⟩)⟩ (tmpsOf Try.prog 96) 0 200 (joinIn Try.prog 96 4) (St.mk [AV.r (RV.c (CV.f (FV.i IntKind.u64 x0))),
  AV.und, AV.r (RV.c (CV.f (FV.i IntKind.i64 x1))), AV.und, AV.und, AV.und, AV.und, AV.und, AV.und, AV.und, AV.und, AV.und, AV.und, AV.und, AV.und, AV.und, AV.und, AV.und, AV.und, AV.und, AV.und, AV.und, AV.und, AV.und, AV.und] [] []) K = S_math_bits_Len64_0 (@l_1) x0 x1 (fun _ => none) (fun d => K (AX.ret) (St.mk [AV.und,
  AV.und, AV.r (RV.c (CV.f (FV.i IntKind.i64 d))), AV.und, AV.und, AV.und, AV.und, AV.und, AV.und, AV.und, AV.und, AV.und, AV.und, AV.und, AV.und, AV.und, AV.und, AV.und, AV.und, AV.und, AV.und, AV.und, AV.und, AV.und, AV.und] [] [])) := by kernel_rfl
theorem so_math_bits_Len64_0 [Amb] : ∀ kk, JnOK Try.prog (envOf []) ⟨[], [], [], [⟨⟨4, [1, 3, 4, 5, 6, 7, 8, 9, 10, 11, 12, 13, 14, 15, 16, 17, 18, 19, 20, 21, 22, 23, 24], []⟩, ⟨4, 0, @R_math_bits_Len64_0 (@L_math_bits_Len64_0)⟩⟩, ⟨⟨7, [1, 3, 4, 5, 6, 7, 8, 9, 10, 11, 12, 13, 14, 15, 16, 17, 18, 19,
  20, 21, 22, 23, 24], []⟩, ⟨7, 0, @R_math_bits_Len64_1 (@L_math_bits_Len64_1)⟩⟩, ⟨⟨10, [1, 3, 4, 5, 6, 7, 8, 9, 10, 11, 12, 13, 14, 15, 16, 17, 18, 19, 20, 21, 22, 23, 24], []⟩, ⟨10, 0, @R_math_bits_Len64_2 (@L_math_bits_Len64_2)⟩⟩], (some ⟨0, [0, 1, 3, 4, 5, 6, 7, 8, 9, 10, 11, 12, 13, 14, 15, 16, 17,
  18, 19, 20, 21, 22, 23, 24], []⟩)⟩ (tmpsOf Try.prog 96) kk 200 (joinIn Try.prog 96 4) := JnOK.of (id := 4) (k0 := 0) (hd := ⟨4, [1, 3, 4, 5, 6, 7, 8, 9, 10, 11, 12, 13, 14, 15, 16, 17, 18, 19, 20, 21, 22, 23, 24], []⟩) (run := @R_math_bits_Len64_0 (@L_math_bits_Len64_0)) (by kernel_rfl) fun s K r hr => by
    unfold R_math_bits_Len64_0 at hr
    obtain ⟨b, hb, hr1⟩ := Option.bind_eq_some_iff.1 hr
    have e := ((Q_math_bits_Len64_0).ok s b hb).trans (q_math_bits_Len64_0 b)
    subst e
    exact (ds_math_bits_Len64_0  (@L_math_bits_Len64_2) (@L_math_bits_Len64_1) (@L_math_bits_Len64_0) b.1.1 b.1.2.2.1 K).trans hr1
def K_math_bits_Len64 {ρ : Type} (l_2 : ∀ {ρ : Type}, (Int × Int) → ((Int) → Option ρ) → Option ρ) (l_1 : ∀ {ρ : Type}, (Int × Int) → ((Int) → Option ρ) → Option ρ) (l_0 : ∀ {ρ : Type}, (Int × Int) → ((Int) → Option ρ) → Option ρ) (x0 : Int) (k : (Int) → Option ρ) : Option ρ := bif decide (x0 ≥ 4294967296) then
  l_0 (Int.fdiv x0 4294967296, 32) fun (d : Int) => k d else l_0 (x0, 0) fun (d : Int) => k d
def f_math_bits_Len64 (x0 : Int) : Option (Int) := K_math_bits_Len64  (@L_math_bits_Len64_2) (@L_math_bits_Len64_1) (@L_math_bits_Len64_0) x0 some
section
open Go.Ab.Rdr
def QA_math_bits_Len64 := ((pair (cons (ar (rc (cf (fi .u64 hole)))) nil) nil) : Rdr (List AV × List Blk) _)
end
def F_math_bits_Len64 (f : (Int) → Option (Int)) : Sem1 := fun args h => match (QA_math_bits_Len64).rd (args, h) with
  | some b => .opt (f b.1.1) fun (d : Int) => .leaf (Res.mk (AV.r (RV.c (CV.f (FV.i IntKind.i64 d)))) [] [])
  | none => .fail
theorem d_math_bits_Len64 (l_2 : ∀ {ρ : Type}, (Int × Int) → ((Int) → Option ρ) → Option ρ) (l_1 : ∀ {ρ : Type}, (Int × Int) → ((Int) → Option ρ) → Option ρ) (l_0 : ∀ {ρ : Type}, (Int × Int) → ((Int) → Option ρ) → Option ρ) (x0 : Int) : den Try.prog (envOf []) ⟨[], [], [], [⟨⟨4, [1, 3, 4, 5, 6, 7, 8,
  9, 10, 11, 12, 13, 14, 15, 16, 17, 18, 19, 20, 21, 22, 23, 24], []⟩, ⟨4, 0, @R_math_bits_Len64_0 (@l_0)⟩⟩, ⟨⟨7, [1, 3, 4, 5, 6, 7, 8, 9, 10, 11, 12, 13, 14, 15, 16, 17, 18, 19, 20, 21, 22, 23, 24], []⟩, ⟨7, 0, @R_math_bits_Len64_1 (@l_1)⟩⟩, ⟨⟨10, [1, 3, 4, 5, 6, 7, 8, 9, 10, 11, 12, 13, 14, 15, 16, 17,
  18, 19, 20, 21, 22, 23, 24], []⟩, ⟨10, 0, @R_math_bits_Len64_2 (@l_2)⟩⟩], (some ⟨0, [0, 1, 3, 4, 5, 6, 7, 8, 9, 10, 11, 12, 13, 14, 15, 16, 17, 18, 19, 20, 21, 22, 23, 24], []⟩)⟩ 200 96 [.r (.c (.f (.i .u64 x0)))] [] = K_math_bits_Len64 (@l_2) (@l_1) (@l_0) x0 (fun (d : Int) => some (Res.mk (AV.r (RV.c (CV.f (FV.i IntKind.i64 d)))) [] [])) := by kernel_rfl
theorem m_math_bits_Len64 {ρ σ : Type} (q : ρ → Option σ)  (l_2 : ∀ {ρ : Type}, (Int × Int) → ((Int) → Option ρ) → Option ρ) (l_1 : ∀ {ρ : Type}, (Int × Int) → ((Int) → Option ρ) → Option ρ) (l_0 : ∀ {ρ : Type}, (Int × Int) → ((Int) → Option ρ) → Option ρ) (hl_2 : ∀ {ρ σ : Type} (q : ρ → Option σ) (d : Int × Int) (k : (Int) → Option ρ), (l_2 d k).bind q = l_2 d fun x => (k x).bind q) (hl_1 : ∀ {ρ σ : Type} (q : ρ → Option σ) (d : Int × Int) (k : (Int) → Option ρ), (l_1 d k).bind q = l_1 d fun x => (k x).bind q) (hl_0 : ∀ {ρ σ : Type} (q : ρ → Option σ) (d : Int × Int) (k : (Int) → Option ρ), (l_0 d k).bind q = l_0 d fun x => (k x).bind q) (x0 : Int) (k : (Int) → Option ρ) : (K_math_bits_Len64  (@l_2) (@l_1) (@l_0) x0 k).bind q = K_math_bits_Len64  (@l_2) (@l_1) (@l_0) x0 (fun d => (k d).bind q) := by
  simp only [K_math_bits_Len64, bnd_cond, bnd_bind, bnd_none, bnd_sum, hl_2, hl_1, hl_0]
theorem qa_math_bits_Len64 : ∀ b, (QA_math_bits_Len64).em b = ([.r (.c (.f (.i .u64 b.1.1)))], []) := fun b => by kernel_rfl
theorem e_math_bits_Len64 {f : (Int) → Option (Int)} {args : List AV} {h : List Blk} {r : Res} (hr : (F_math_bits_Len64 f args h).eval = some r) : ∃ x0, args = [.r (.c (.f (.i .u64 x0)))] ∧ h = [] ∧ (f x0).bind (fun (d : Int) => some (Res.mk (AV.r (RV.c (CV.f (FV.i IntKind.i64 d)))) [] [])) = some r := by
  unfold F_math_bits_Len64 at hr
  split at hr
  · rename_i b hb
    have e := ((QA_math_bits_Len64).ok _ _ hb).trans (qa_math_bits_Len64 b)
    rw [opt_eval2] at hr
    exact ⟨b.1.1, (Prod.mk.inj e).1, (Prod.mk.inj e).2, hr⟩
  · cases hr
theorem n_math_bits_Len64 {σ : Type} (q : (Int) → Option σ) (x0 : Int) : (f_math_bits_Len64 x0).bind q = K_math_bits_Len64  (@L_math_bits_Len64_2) (@L_math_bits_Len64_1) (@L_math_bits_Len64_0) x0 q := by
  unfold f_math_bits_Len64
  exact m_math_bits_Len64 q  (@L_math_bits_Len64_2) (@L_math_bits_Len64_1) (@L_math_bits_Len64_0) (fun q d k => mL_math_bits_Len64_2 q d k) (fun q d k => mL_math_bits_Len64_1 q d k) (fun q d k => mL_math_bits_Len64_0 q d k) x0 some
theorem s_math_bits_Len64 [Amb] : Sound Try.prog 96 (F_math_bits_Len64 f_math_bits_Len64) := (inl_sums (l := []) (.nil _) mixed (hs := ⟨[], [], [], [⟨⟨4, [1, 3, 4, 5, 6, 7, 8, 9, 10, 11, 12, 13, 14, 15, 16, 17, 18, 19, 20, 21, 22, 23, 24], []⟩, ⟨4, 0, @R_math_bits_Len64_0 (@L_math_bits_Len64_0)⟩⟩,
  ⟨⟨7, [1, 3, 4, 5, 6, 7, 8, 9, 10, 11, 12, 13, 14, 15, 16, 17, 18, 19, 20, 21, 22, 23, 24], []⟩, ⟨7, 0, @R_math_bits_Len64_1 (@L_math_bits_Len64_1)⟩⟩, ⟨⟨10, [1, 3, 4, 5, 6, 7, 8, 9, 10, 11, 12, 13, 14, 15, 16, 17, 18, 19, 20, 21, 22, 23, 24], []⟩, ⟨10, 0, @R_math_bits_Len64_2 (@L_math_bits_Len64_2)⟩⟩],
  (some ⟨0, [0, 1, 3, 4, 5, 6, 7, 8, 9, 10, 11, 12, 13, 14, 15, 16, 17, 18, 19, 20, 21, 22, 23, 24], []⟩)⟩) (lf := 200) (Sums.by (l := []) (lj := [joinIn Try.prog 96 4, joinIn Try.prog 96 7, joinIn Try.prog 96 10]) (by kernel_rfl) trivial (by kernel_rfl) ⟨so_math_bits_Len64_0, ⟨so_math_bits_Len64_1,
  ⟨so_math_bits_Len64_2, trivial⟩⟩⟩) (by kernel_rfl)).by (F := F_math_bits_Len64 f_math_bits_Len64) fun args b r hr => by
  obtain ⟨x0, rfl, rfl, hr1⟩ := e_math_bits_Len64 hr
  exact inl_eval ((d_math_bits_Len64  (@L_math_bits_Len64_2) (@L_math_bits_Len64_1) (@L_math_bits_Len64_0) x0).trans ((n_math_bits_Len64 (fun (d : Int) => some (Res.mk (AV.r (RV.c (CV.f (FV.i IntKind.i64 d)))) [] [])) x0).symm.trans hr1))

def K_math_bits_LeadingZeros64 {ρ : Type} (g_math_bits_Len64 : Int → Option Int) (x0 : Int) (k : (Int) → Option ρ) : Option ρ := Option.bind (g_math_bits_Len64 x0) fun (d : Int) => k (IntKind.wrap IntKind.i64 (64 - d))
def f_math_bits_LeadingZeros64 (x0 : Int) : Option (Int) := K_math_bits_LeadingZeros64 f_math_bits_Len64  x0 some
section
open Go.Ab.Rdr
def QA_math_bits_LeadingZeros64 := ((pair (cons (ar (rc (cf (fi .u64 hole)))) nil) nil) : Rdr (List AV × List Blk) _)
end
def F_math_bits_LeadingZeros64 (f : (Int) → Option (Int)) : Sem1 := fun args h => match (QA_math_bits_LeadingZeros64).rd (args, h) with
  | some b => .opt (f b.1.1) fun (d : Int) => .leaf (Res.mk (AV.r (RV.c (CV.f (FV.i IntKind.i64 d)))) [] [])
  | none => .fail
theorem d_math_bits_LeadingZeros64 (g_math_bits_Len64 : Int → Option Int) (x0 : Int) : den Try.prog (envOf [(96, F_math_bits_Len64 g_math_bits_Len64)]) ⟨[], [], [], [], none⟩ 200 94 [.r (.c (.f (.i .u64 x0)))] [] = K_math_bits_LeadingZeros64 g_math_bits_Len64 x0 (fun (d : Int) => some (Res.mk (AV.r (RV.c (CV.f (FV.i IntKind.i64 d)))) [] [])) := by kernel_rfl
theorem m_math_bits_LeadingZeros64 {ρ σ : Type} (q : ρ → Option σ) (g_math_bits_Len64 : Int → Option Int)   (x0 : Int) (k : (Int) → Option ρ) : (K_math_bits_LeadingZeros64 g_math_bits_Len64  x0 k).bind q = K_math_bits_LeadingZeros64 g_math_bits_Len64  x0 (fun d => (k d).bind q) := by
  simp only [K_math_bits_LeadingZeros64, bnd_cond, bnd_bind, bnd_none, bnd_sum]
theorem qa_math_bits_LeadingZeros64 : ∀ b, (QA_math_bits_LeadingZeros64).em b = ([.r (.c (.f (.i .u64 b.1.1)))], []) := fun b => by kernel_rfl
theorem e_math_bits_LeadingZeros64 {f : (Int) → Option (Int)} {args : List AV} {h : List Blk} {r : Res} (hr : (F_math_bits_LeadingZeros64 f args h).eval = some r) : ∃ x0, args = [.r (.c (.f (.i .u64 x0)))] ∧ h = [] ∧ (f x0).bind (fun (d : Int) => some (Res.mk (AV.r (RV.c (CV.f (FV.i IntKind.i64 d)))) [] [])) = some r := by
  unfold F_math_bits_LeadingZeros64 at hr
  split at hr
  · rename_i b hb
    have e := ((QA_math_bits_LeadingZeros64).ok _ _ hb).trans (qa_math_bits_LeadingZeros64 b)
    rw [opt_eval2] at hr
    exact ⟨b.1.1, (Prod.mk.inj e).1, (Prod.mk.inj e).2, hr⟩
  · cases hr
theorem n_math_bits_LeadingZeros64 {σ : Type} (q : (Int) → Option σ) (x0 : Int) : (f_math_bits_LeadingZeros64 x0).bind q = K_math_bits_LeadingZeros64 f_math_bits_Len64  x0 q := by
  unfold f_math_bits_LeadingZeros64
  exact m_math_bits_LeadingZeros64 q f_math_bits_Len64   x0 some
theorem s_math_bits_LeadingZeros64 [Amb] : Sound Try.prog 94 (F_math_bits_LeadingZeros64 f_math_bits_LeadingZeros64) := (inl_sound (l := [(96, F_math_bits_Len64 f_math_bits_Len64)]) (.cons s_math_bits_Len64 (.nil _)) mixed [] [] 200 (by kernel_rfl)).by (F := F_math_bits_LeadingZeros64 f_math_bits_LeadingZeros64) fun args b r hr => by
  obtain ⟨x0, rfl, rfl, hr1⟩ := e_math_bits_LeadingZeros64 hr
  exact inl_eval ((d_math_bits_LeadingZeros64 f_math_bits_Len64  x0).trans ((n_math_bits_LeadingZeros64 (fun (d : Int) => some (Res.mk (AV.r (RV.c (CV.f (FV.i IntKind.i64 d)))) [] [])) x0).symm.trans hr1))

def S_math_bits_Div64_0 {ρ : Type} (g_math_bits_LeadingZeros64 : Int → Option Int) (x0 : Int) (x1 : Int) (x2 : Int) (x3 : Int) (x4 : Int) (x5 : Int) (x6 : Int) (x7 : Int) (x8 : Int) (c : (Int × Int × Int × Int × Int × Int × Int × Int × Int) → Option ρ) (x : (Int × Int × Int × Int × Int × Int × Int ×
  Int × Int × Int × Bool × Int × Bool ⊕ Int × Int × Int × Int × Int × Int × Int × Int × Int × Int × Bool × Int × Int × Int × Int × Bool × Bool ⊕ Int × Int × Int × Int × Int × Int × Int × Int × Int × Bool × Int × Int × Int × Bool) → Option ρ) : Option ρ := bif decide (x7 ≥ 4294967296) then bif decide (IntKind.wrap IntKind.u64 (x8 + x2) ≥ 4294967296) then
  x (Sum.inl (x0, x1, x2, x3, x4, x5, x6, IntKind.wrap IntKind.u64 (x7 - 1), IntKind.wrap IntKind.u64 (x8 + x2), x7, decide (x7 ≥ 4294967296), x8, decide (IntKind.wrap IntKind.u64 (x8 + x2) ≥ 4294967296))) else c (x0, x1, x2, x3, x4, x5, x6, IntKind.wrap IntKind.u64 (x7 - 1), IntKind.wrap IntKind.u64 (x8 + x2)) else
  bif decide (IntKind.wrap IntKind.u64 (x7 * x3) > IntKind.wrap IntKind.u64 (IntKind.wrap IntKind.u64 (4294967296 * x8) + x5)) then bif decide (IntKind.wrap IntKind.u64 (x8 + x2) ≥ 4294967296) then x (Sum.inr (Sum.inl (x0, x1, x2, x3, x4, x5, x6, IntKind.wrap IntKind.u64 (x7 - 1), IntKind.wrap IntKind.u64 (x8 + x2),
  x7, decide (x7 ≥ 4294967296), IntKind.wrap IntKind.u64 (x7 * x3), x8, IntKind.wrap IntKind.u64 (4294967296 * x8), IntKind.wrap IntKind.u64 (IntKind.wrap IntKind.u64 (4294967296 * x8) + x5), decide (IntKind.wrap IntKind.u64 (x7 * x3) > IntKind.wrap IntKind.u64 (IntKind.wrap IntKind.u64 (4294967296 * x8) + x5)),
  decide (IntKind.wrap IntKind.u64 (x8 + x2) ≥ 4294967296)))) else c (x0, x1, x2, x3, x4, x5, x6, IntKind.wrap IntKind.u64 (x7 - 1), IntKind.wrap IntKind.u64 (x8 + x2)) else x (Sum.inr (Sum.inr (x0, x1, x2, x3, x4, x5, x6, x7, x8, decide (x7 ≥ 4294967296), IntKind.wrap IntKind.u64 (x7 * x3), IntKind.wrap IntKind.u64 (4294967296 * x8),
  IntKind.wrap IntKind.u64 (IntKind.wrap IntKind.u64 (4294967296 * x8) + x5), decide (IntKind.wrap IntKind.u64 (x7 * x3) > IntKind.wrap IntKind.u64 (IntKind.wrap IntKind.u64 (4294967296 * x8) + x5)))))
section
open Go.Ab.Rdr
def Q_math_bits_Div64_0 := (st (cons aund (cons aund (cons (ar (rc (cf (fi .u64 hole)))) (cons aund (cons aund (cons aund (cons aund (cons aund (cons (ar (rc (cf (fi .u64 hole)))) (cons (ar (rc (cf (fi .u64 hole)))) (cons (ar (rc (cf (fi .u64 hole)))) (cons (ar (rc (cf (fi .u64 hole)))) (cons aund (cons (ar (rc (cf (fi .u64 hole)))) (cons (ar (rc (cf (fi .u64 hole)))) (cons (ar (rc (cf (fi .u64 hole)))) (cons (ar (rc (cf (fi .u64 hole)))) (cons aund (cons aund (cons aund (cons aund (cons aund (cons aund (cons aund (cons aund (cons aund (cons aund (cons aund (cons aund (cons aund (cons aund (cons aund (cons aund (cons aund (cons aund (cons aund (cons aund (cons aund (cons aund (cons aund (cons aund (cons aund (cons aund (cons aund (cons aund (cons aund (cons aund (cons aund (cons aund (cons aund (cons aund (cons aund (cons aund (cons aund (cons aund (cons aund (cons aund (cons aund (cons aund (cons aund (cons aund (cons aund (cons aund (cons aund (cons aund (cons aund (cons aund (cons aund (cons aund (cons aund (cons aund (cons aund (cons aund (cons aund (cons aund (cons aund (cons aund (cons aund (cons aund (cons aund (cons aund (cons aund (cons aund (cons aund (cons aund (cons aund (cons aund (cons aund (cons aund (cons aund (cons aund (cons aund (cons aund (cons aund (cons aund (cons aund (cons aund (cons aund (cons aund (cons aund (cons aund (cons aund (cons aund (cons aund (cons aund (cons (atup nil) (cons (atup nil) (cons (atup nil) (cons (atup nil) (cons (atup nil) (cons (atup nil) (cons (atup nil) (cons (atup nil) (cons aund (cons aund (cons aund (cons aund (cons aund (cons aund (cons aund (cons aund (cons aund (cons aund (cons aund (cons aund (cons aund (cons aund (cons aund (cons aund (cons aund (cons aund (cons aund (cons aund (cons aund (cons aund nil))))))))))))))))))))))))))))))))))))))))))))))))))))))))))))))))))))))))))))))))))))))))))))))))))))))))))))))))))))))))))))))))))))))) nil nil)
end
theorem q_math_bits_Div64_0 : ∀ b, (Q_math_bits_Div64_0).em b = St.mk [AV.und, AV.und, AV.r (RV.c (CV.f (FV.i IntKind.u64 b.1.2.2.1))), AV.und, AV.und, AV.und, AV.und, AV.und, AV.r (RV.c (CV.f (FV.i IntKind.u64 b.1.2.2.2.2.2.2.2.2.1))), AV.r (RV.c (CV.f (FV.i IntKind.u64 b.1.2.2.2.2.2.2.2.2.2.1))), AV.r (RV.c (CV.f (FV.i IntKind.u64 b.1.2.2.2.2.2.2.2.2.2.2.1))),
  AV.r (RV.c (CV.f (FV.i IntKind.u64 b.1.2.2.2.2.2.2.2.2.2.2.2.1))), AV.und, AV.r (RV.c (CV.f (FV.i IntKind.u64 b.1.2.2.2.2.2.2.2.2.2.2.2.2.2.1))), AV.r (RV.c (CV.f (FV.i IntKind.u64 b.1.2.2.2.2.2.2.2.2.2.2.2.2.2.2.1))), AV.r (RV.c (CV.f (FV.i IntKind.u64 b.1.2.2.2.2.2.2.2.2.2.2.2.2.2.2.2.1))), AV.r (RV.c (CV.f (FV.i IntKind.u64 b.1.2.2.2.2.2.2.2.2.2.2.2.2.2.2.2.2.1))),
  AV.und, AV.und, AV.und, AV.und, AV.und, AV.und, AV.und, AV.und, AV.und, AV.und, AV.und, AV.und, AV.und, AV.und, AV.und, AV.und, AV.und, AV.und, AV.und, AV.und, AV.und, AV.und, AV.und, AV.und, AV.und, AV.und, AV.und, AV.und, AV.und, AV.und, AV.und, AV.und, AV.und, AV.und, AV.und, AV.und, AV.und, AV.und,
  AV.und, AV.und, AV.und, AV.und, AV.und, AV.und, AV.und, AV.und, AV.und, AV.und, AV.und, AV.und, AV.und, AV.und, AV.und, AV.und, AV.und, AV.und, AV.und, AV.und, AV.und, AV.und, AV.und, AV.und, AV.und, AV.und, AV.und, AV.und, AV.und, AV.und, AV.und, AV.und, AV.und, AV.und, AV.und, AV.und, AV.und, AV.und,
  AV.und, AV.und, AV.und, AV.und, AV.und, AV.und, AV.und, AV.und, AV.und, AV.und, AV.und, AV.und, AV.tup [], AV.tup [], AV.tup [], AV.tup [], AV.tup [], AV.tup [], AV.tup [], AV.tup [], AV.und, AV.und, AV.und, AV.und, AV.und, AV.und, AV.und, AV.und, AV.und, AV.und, AV.und, AV.und, AV.und, AV.und, AV.und,
  AV.und, AV.und, AV.und, AV.und, AV.und, AV.und, AV.und] [] [] := fun b => by kernel_rfl
def R_math_bits_Div64_0 (l : ∀ {ρ : Type}, (Int × Int × Int × Int × Int × Int × Int × Int × Int) → ((Int × Int × Int × Int × Int × Int × Int × Int × Int × Int × Bool × Int × Bool ⊕ Int × Int × Int × Int × Int × Int × Int × Int × Int × Int × Bool × Int × Int × Int × Int × Bool × Bool ⊕ Int × Int × Int ×
  Int × Int × Int × Int × Int × Int × Bool × Int × Int × Int × Bool) → Option ρ) → Option ρ) {ρ : Type} (s : St) (K : AX → St → Option ρ) : Option ρ := ((Q_math_bits_Div64_0).rd s).bind fun b => l (b.1.2.2.1, b.1.2.2.2.2.2.2.2.2.1, b.1.2.2.2.2.2.2.2.2.2.1, b.1.2.2.2.2.2.2.2.2.2.2.1, b.1.2.2.2.2.2.2.2.2.2.2.2.1,
  b.1.2.2.2.2.2.2.2.2.2.2.2.2.2.1, b.1.2.2.2.2.2.2.2.2.2.2.2.2.2.2.1, b.1.2.2.2.2.2.2.2.2.2.2.2.2.2.2.2.1, b.1.2.2.2.2.2.2.2.2.2.2.2.2.2.2.2.2.1) (Sum.elim (fun d => K (AX.ex 0) (St.mk [AV.und, AV.und, AV.r (RV.c (CV.f (FV.i IntKind.u64 d.1))), AV.und, AV.und, AV.und, AV.und, AV.und, AV.r (RV.c (CV.f (FV.i IntKind.u64 d.2.1))),
  AV.r (RV.c (CV.f (FV.i IntKind.u64 d.2.2.1))), AV.r (RV.c (CV.f (FV.i IntKind.u64 d.2.2.2.1))), AV.r (RV.c (CV.f (FV.i IntKind.u64 d.2.2.2.2.1))), AV.und, AV.r (RV.c (CV.f (FV.i IntKind.u64 d.2.2.2.2.2.1))), AV.r (RV.c (CV.f (FV.i IntKind.u64 d.2.2.2.2.2.2.1))),
  AV.r (RV.c (CV.f (FV.i IntKind.u64 d.2.2.2.2.2.2.2.1))), AV.r (RV.c (CV.f (FV.i IntKind.u64 d.2.2.2.2.2.2.2.2.1))), AV.und, AV.und, AV.und, AV.und, AV.und, AV.und, AV.und, AV.und, AV.und, AV.und, AV.und, AV.und, AV.und, AV.und, AV.und, AV.und, AV.und, AV.und, AV.und,
  AV.und, AV.und, AV.und, AV.und, AV.und, AV.und, AV.und, AV.und, AV.und, AV.und, AV.und, AV.und, AV.und, AV.und, AV.und, AV.und, AV.und, AV.und, AV.und, AV.und, AV.und, AV.und, AV.und, AV.und, AV.und, AV.und, AV.und, AV.und, AV.und, AV.und, AV.und, AV.r (RV.c (CV.f (FV.i IntKind.u64 d.2.2.2.2.2.2.2.2.2.1))),
  AV.r (RV.c (CV.f (FV.b d.2.2.2.2.2.2.2.2.2.2.1))), AV.r (RV.c (CV.f (FV.b true))), AV.tup [], AV.tup [], AV.tup [], AV.tup [], AV.tup [], AV.tup [], AV.tup [], AV.tup [], AV.r (RV.c (CV.f (FV.b true))), AV.r (RV.c (CV.f (FV.i IntKind.u64 d.2.2.2.2.2.2.2.2.2.1))),
  AV.r (RV.c (CV.f (FV.i IntKind.u64 d.2.2.2.2.2.2.2.1))), AV.r (RV.c (CV.f (FV.i IntKind.u64 d.2.2.2.2.2.2.2.2.2.2.2.1))), AV.r (RV.c (CV.f (FV.i IntKind.u64 d.2.2.1))), AV.r (RV.c (CV.f (FV.i IntKind.u64 d.2.2.2.2.2.2.2.2.1))), AV.r (RV.c (CV.f (FV.i IntKind.u64 d.2.2.2.2.2.2.2.2.1))),
  AV.r (RV.c (CV.f (FV.b d.2.2.2.2.2.2.2.2.2.2.2.2))), AV.und, AV.und, AV.und, AV.und, AV.und, AV.und, AV.und, AV.und, AV.und, AV.und, AV.und, AV.und, AV.und, AV.und, AV.und, AV.und, AV.und, AV.und, AV.und, AV.tup [], AV.tup [], AV.tup [], AV.tup [], AV.tup [], AV.tup [], AV.tup [],
  AV.tup [], AV.und, AV.und, AV.und, AV.und, AV.und, AV.und, AV.und, AV.und, AV.und, AV.und, AV.und, AV.und, AV.und, AV.und, AV.und, AV.und, AV.und, AV.und, AV.und, AV.und, AV.und, AV.und] [] [])) (Sum.elim (fun d => K (AX.ex 0) (St.mk [AV.und, AV.und, AV.r (RV.c (CV.f (FV.i IntKind.u64 d.1))), AV.und,
  AV.und, AV.und, AV.und, AV.und, AV.r (RV.c (CV.f (FV.i IntKind.u64 d.2.1))), AV.r (RV.c (CV.f (FV.i IntKind.u64 d.2.2.1))), AV.r (RV.c (CV.f (FV.i IntKind.u64 d.2.2.2.1))), AV.r (RV.c (CV.f (FV.i IntKind.u64 d.2.2.2.2.1))), AV.und, AV.r (RV.c (CV.f (FV.i IntKind.u64 d.2.2.2.2.2.1))),
  AV.r (RV.c (CV.f (FV.i IntKind.u64 d.2.2.2.2.2.2.1))), AV.r (RV.c (CV.f (FV.i IntKind.u64 d.2.2.2.2.2.2.2.1))), AV.r (RV.c (CV.f (FV.i IntKind.u64 d.2.2.2.2.2.2.2.2.1))), AV.und, AV.und, AV.und, AV.und, AV.und, AV.und, AV.und, AV.und, AV.und, AV.und, AV.und,
  AV.und, AV.und, AV.und, AV.und, AV.und, AV.und, AV.und, AV.und, AV.und, AV.und, AV.und, AV.und, AV.und, AV.und, AV.und, AV.und, AV.und, AV.und, AV.und, AV.und, AV.und, AV.und, AV.und, AV.und, AV.und, AV.und, AV.und, AV.und, AV.und, AV.und, AV.und, AV.und, AV.und, AV.und, AV.und, AV.und, AV.und, AV.und,
  AV.und, AV.r (RV.c (CV.f (FV.i IntKind.u64 d.2.2.2.2.2.2.2.2.2.1))), AV.r (RV.c (CV.f (FV.b d.2.2.2.2.2.2.2.2.2.2.1))), AV.r (RV.c (CV.f (FV.b false))), AV.r (RV.c (CV.f (FV.i IntKind.u64 d.2.2.2.2.2.2.2.2.2.1))), AV.r (RV.c (CV.f (FV.i IntKind.u64 d.2.2.2.1))),
  AV.r (RV.c (CV.f (FV.i IntKind.u64 d.2.2.2.2.2.2.2.2.2.2.2.1))), AV.r (RV.c (CV.f (FV.i IntKind.u64 d.2.2.2.2.2.2.2.2.2.2.2.2.1))), AV.r (RV.c (CV.f (FV.i IntKind.u64 d.2.2.2.2.2.2.2.2.2.2.2.2.2.1))), AV.r (RV.c (CV.f (FV.i IntKind.u64 d.2.2.2.2.2.1))),
  AV.r (RV.c (CV.f (FV.i IntKind.u64 d.2.2.2.2.2.2.2.2.2.2.2.2.2.2.1))), AV.r (RV.c (CV.f (FV.b d.2.2.2.2.2.2.2.2.2.2.2.2.2.2.2.1))), AV.r (RV.c (CV.f (FV.b d.2.2.2.2.2.2.2.2.2.2.2.2.2.2.2.1))), AV.r (RV.c (CV.f (FV.i IntKind.u64 d.2.2.2.2.2.2.2.2.2.1))),
  AV.r (RV.c (CV.f (FV.i IntKind.u64 d.2.2.2.2.2.2.2.1))), AV.r (RV.c (CV.f (FV.i IntKind.u64 d.2.2.2.2.2.2.2.2.2.2.2.2.1))), AV.r (RV.c (CV.f (FV.i IntKind.u64 d.2.2.1))), AV.r (RV.c (CV.f (FV.i IntKind.u64 d.2.2.2.2.2.2.2.2.1))), AV.r (RV.c (CV.f (FV.i IntKind.u64 d.2.2.2.2.2.2.2.2.1))),
  AV.r (RV.c (CV.f (FV.b d.2.2.2.2.2.2.2.2.2.2.2.2.2.2.2.2))), AV.und, AV.und, AV.und, AV.und, AV.und, AV.und, AV.und, AV.und, AV.und, AV.und, AV.und, AV.und, AV.und, AV.und, AV.und, AV.und, AV.und, AV.und, AV.und, AV.tup [], AV.tup [], AV.tup [], AV.tup [], AV.tup [], AV.tup [],
  AV.tup [], AV.tup [], AV.und, AV.und, AV.und, AV.und, AV.und, AV.und, AV.und, AV.und, AV.und, AV.und, AV.und, AV.und, AV.und, AV.und, AV.und, AV.und, AV.und, AV.und, AV.und, AV.und, AV.und, AV.und] [] [])) (fun d => K (AX.ex 0) (St.mk [AV.und, AV.und, AV.r (RV.c (CV.f (FV.i IntKind.u64 d.1))), AV.und,
  AV.und, AV.und, AV.und, AV.und, AV.r (RV.c (CV.f (FV.i IntKind.u64 d.2.1))), AV.r (RV.c (CV.f (FV.i IntKind.u64 d.2.2.1))), AV.r (RV.c (CV.f (FV.i IntKind.u64 d.2.2.2.1))), AV.r (RV.c (CV.f (FV.i IntKind.u64 d.2.2.2.2.1))), AV.und, AV.r (RV.c (CV.f (FV.i IntKind.u64 d.2.2.2.2.2.1))),
  AV.r (RV.c (CV.f (FV.i IntKind.u64 d.2.2.2.2.2.2.1))), AV.r (RV.c (CV.f (FV.i IntKind.u64 d.2.2.2.2.2.2.2.1))), AV.r (RV.c (CV.f (FV.i IntKind.u64 d.2.2.2.2.2.2.2.2.1))), AV.und, AV.und, AV.und, AV.und, AV.und, AV.und, AV.und, AV.und, AV.und, AV.und, AV.und,
  AV.und, AV.und, AV.und, AV.und, AV.und, AV.und, AV.und, AV.und, AV.und, AV.und, AV.und, AV.und, AV.und, AV.und, AV.und, AV.und, AV.und, AV.und, AV.und, AV.und, AV.und, AV.und, AV.und, AV.und, AV.und, AV.und, AV.und, AV.und, AV.und, AV.und, AV.und, AV.und, AV.und, AV.und, AV.und, AV.und, AV.und, AV.und,
  AV.und, AV.r (RV.c (CV.f (FV.i IntKind.u64 d.2.2.2.2.2.2.2.1))), AV.r (RV.c (CV.f (FV.b d.2.2.2.2.2.2.2.2.2.1))), AV.r (RV.c (CV.f (FV.b false))), AV.r (RV.c (CV.f (FV.i IntKind.u64 d.2.2.2.2.2.2.2.1))), AV.r (RV.c (CV.f (FV.i IntKind.u64 d.2.2.2.1))),
  AV.r (RV.c (CV.f (FV.i IntKind.u64 d.2.2.2.2.2.2.2.2.2.2.1))), AV.r (RV.c (CV.f (FV.i IntKind.u64 d.2.2.2.2.2.2.2.2.1))), AV.r (RV.c (CV.f (FV.i IntKind.u64 d.2.2.2.2.2.2.2.2.2.2.2.1))), AV.r (RV.c (CV.f (FV.i IntKind.u64 d.2.2.2.2.2.1))),
  AV.r (RV.c (CV.f (FV.i IntKind.u64 d.2.2.2.2.2.2.2.2.2.2.2.2.1))), AV.r (RV.c (CV.f (FV.b d.2.2.2.2.2.2.2.2.2.2.2.2.2))), AV.r (RV.c (CV.f (FV.b d.2.2.2.2.2.2.2.2.2.2.2.2.2))), AV.und, AV.und, AV.und, AV.und, AV.und, AV.und,
  AV.und, AV.und, AV.und, AV.und, AV.und, AV.und, AV.und, AV.und, AV.und, AV.und, AV.und, AV.und, AV.und, AV.und, AV.und, AV.und, AV.und, AV.und, AV.und, AV.und, AV.tup [], AV.tup [], AV.tup [], AV.tup [], AV.tup [], AV.tup [], AV.tup [], AV.tup [], AV.und, AV.und, AV.und, AV.und, AV.und, AV.und, AV.und,
  AV.und, AV.und, AV.und, AV.und, AV.und, AV.und, AV.und, AV.und, AV.und, AV.und, AV.und, AV.und, AV.und, AV.und, AV.und] [] []))))
theorem ms_math_bits_Div64_0 {ρ σ : Type} (g_math_bits_LeadingZeros64 : Int → Option Int) (q : ρ → Option σ) (x0 : Int) (x1 : Int) (x2 : Int) (x3 : Int) (x4 : Int) (x5 : Int) (x6 : Int) (x7 : Int) (x8 : Int) (c : (Int × Int × Int × Int × Int × Int × Int × Int × Int) → Option ρ) (x : (Int × Int × Int ×
  Int × Int × Int × Int × Int × Int × Int × Bool × Int × Bool ⊕ Int × Int × Int × Int × Int × Int × Int × Int × Int × Int × Bool × Int × Int × Int × Int × Bool × Bool ⊕ Int × Int × Int × Int × Int × Int × Int × Int × Int × Bool × Int × Int × Int × Bool) → Option ρ) : (S_math_bits_Div64_0 g_math_bits_LeadingZeros64 x0 x1 x2 x3 x4 x5 x6 x7 x8 c x).bind q = S_math_bits_Div64_0 g_math_bits_LeadingZeros64 x0 x1 x2 x3 x4 x5 x6 x7 x8 (fun d => (c d).bind q) (fun d => (x d).bind q) := by
  simp only [S_math_bits_Div64_0, bnd_cond, bnd_bind, bnd_none, bnd_sum]
def L_math_bits_Div64_0 {ρ : Type} (d : Int × Int × Int × Int × Int × Int × Int × Int × Int) (k : (Int × Int × Int × Int × Int × Int × Int × Int × Int × Int × Bool × Int × Bool ⊕ Int × Int × Int × Int × Int × Int × Int × Int × Int × Int × Bool × Int × Int × Int × Int × Bool × Bool ⊕ Int × Int × Int ×
  Int × Int × Int × Int × Int × Int × Bool × Int × Int × Int × Bool) → Option ρ) : Option ρ := loopK (fun d c x => S_math_bits_Div64_0 f_math_bits_LeadingZeros64 d.1 d.2.1 d.2.2.1 d.2.2.2.1 d.2.2.2.2.1 d.2.2.2.2.2.1 d.2.2.2.2.2.2.1 d.2.2.2.2.2.2.2.1 d.2.2.2.2.2.2.2.2 c x) 200 d k
theorem mL_math_bits_Div64_0 {ρ σ : Type} (q : ρ → Option σ) (d : Int × Int × Int × Int × Int × Int × Int × Int × Int) (k : (Int × Int × Int × Int × Int × Int × Int × Int × Int × Int × Bool × Int × Bool ⊕ Int × Int × Int × Int × Int × Int × Int × Int × Int × Int × Bool × Int × Int × Int × Int × Bool ×
  Bool ⊕ Int × Int × Int × Int × Int × Int × Int × Int × Int × Bool × Int × Int × Int × Bool) → Option ρ) : (L_math_bits_Div64_0 d k).bind q = L_math_bits_Div64_0 d fun x => (k x).bind q := loopK_bind q (fun d c x => ms_math_bits_Div64_0 f_math_bits_LeadingZeros64 q d.1 d.2.1 d.2.2.1 d.2.2.2.1 d.2.2.2.2.1 d.2.2.2.2.2.1 d.2.2.2.2.2.2.1 d.2.2.2.2.2.2.2.1 d.2.2.2.2.2.2.2.2 c x) k _ d
def S_math_bits_Div64_1 {ρ : Type} (g_math_bits_LeadingZeros64 : Int → Option Int) (x0 : Int) (x1 : Int) (x2 : Int) (x3 : Int) (x4 : Int) (x5 : Int) (x6 : Int) (x7 : Int) (x8 : Int) (c : (Int × Int × Int × Int × Int × Int × Int × Int × Int) → Option ρ) (x : (Int × Int × Int × Int × Int × Int × Int ×
  Int × Int × Int × Bool × Int × Bool ⊕ Int × Int × Int × Int × Int × Int × Int × Int × Int × Int × Bool × Int × Int × Int × Int × Bool × Bool ⊕ Int × Int × Int × Int × Int × Int × Int × Int × Int × Bool × Int × Int × Int × Bool) → Option ρ) : Option ρ := bif decide (x8 ≥ 4294967296) then bif decide (IntKind.wrap IntKind.u64 (x6 + x2) ≥ 4294967296) then
  x (Sum.inl (x0, x1, x2, x3, x4, x5, IntKind.wrap IntKind.u64 (x6 + x2), x7, IntKind.wrap IntKind.u64 (x8 - 1), x8, decide (x8 ≥ 4294967296), x6, decide (IntKind.wrap IntKind.u64 (x6 + x2) ≥ 4294967296))) else c (x0, x1, x2, x3, x4, x5, IntKind.wrap IntKind.u64 (x6 + x2), x7, IntKind.wrap IntKind.u64 (x8 - 1)) else
  bif decide (IntKind.wrap IntKind.u64 (x8 * x3) > IntKind.wrap IntKind.u64 (IntKind.wrap IntKind.u64 (4294967296 * x6) + x4)) then bif decide (IntKind.wrap IntKind.u64 (x6 + x2) ≥ 4294967296) then x (Sum.inr (Sum.inl (x0, x1, x2, x3, x4, x5, IntKind.wrap IntKind.u64 (x6 + x2), x7, IntKind.wrap IntKind.u64 (x8 - 1),
  x8, decide (x8 ≥ 4294967296), IntKind.wrap IntKind.u64 (x8 * x3), x6, IntKind.wrap IntKind.u64 (4294967296 * x6), IntKind.wrap IntKind.u64 (IntKind.wrap IntKind.u64 (4294967296 * x6) + x4), decide (IntKind.wrap IntKind.u64 (x8 * x3) > IntKind.wrap IntKind.u64 (IntKind.wrap IntKind.u64 (4294967296 * x6) + x4)),
  decide (IntKind.wrap IntKind.u64 (x6 + x2) ≥ 4294967296)))) else c (x0, x1, x2, x3, x4, x5, IntKind.wrap IntKind.u64 (x6 + x2), x7, IntKind.wrap IntKind.u64 (x8 - 1)) else x (Sum.inr (Sum.inr (x0, x1, x2, x3, x4, x5, x6, x7, x8, decide (x8 ≥ 4294967296), IntKind.wrap IntKind.u64 (x8 * x3), IntKind.wrap IntKind.u64 (4294967296 * x6),
  IntKind.wrap IntKind.u64 (IntKind.wrap IntKind.u64 (4294967296 * x6) + x4), decide (IntKind.wrap IntKind.u64 (x8 * x3) > IntKind.wrap IntKind.u64 (IntKind.wrap IntKind.u64 (4294967296 * x6) + x4)))))
section
open Go.Ab.Rdr
def Q_math_bits_Div64_1 := (st (cons aund (cons aund (cons (ar (rc (cf (fi .u64 hole)))) (cons aund (cons aund (cons aund (cons aund (cons aund (cons (ar (rc (cf (fi .u64 hole)))) (cons (ar (rc (cf (fi .u64 hole)))) (cons (ar (rc (cf (fi .u64 hole)))) (cons aund (cons aund (cons aund (cons (ar (rc (cf (fi .u64 hole)))) (cons (ar (rc (cf (fi .u64 hole)))) (cons (ar (rc (cf (fi .u64 hole)))) (cons (ar (rc (cf (fi .u64 hole)))) (cons (ar (rc (cf (fi .u64 hole)))) (cons aund (cons aund (cons aund (cons aund (cons aund (cons aund (cons aund (cons aund (cons aund (cons aund (cons aund (cons aund (cons aund (cons aund (cons aund (cons aund (cons aund (cons aund (cons aund (cons aund (cons aund (cons aund (cons aund (cons aund (cons aund (cons aund (cons aund (cons aund (cons aund (cons aund (cons aund (cons aund (cons aund (cons aund (cons aund (cons aund (cons aund (cons aund (cons aund (cons aund (cons aund (cons aund (cons aund (cons aund (cons aund (cons aund (cons aund (cons aund (cons aund (cons aund (cons aund (cons aund (cons aund (cons aund (cons aund (cons aund (cons aund (cons aund (cons aund (cons aund (cons aund (cons aund (cons aund (cons aund (cons aund (cons aund (cons aund (cons aund (cons aund (cons aund (cons aund (cons aund (cons aund (cons aund (cons aund (cons aund (cons aund (cons aund (cons aund (cons aund (cons aund (cons aund (cons aund (cons aund (cons aund (cons aund (cons aund (cons aund (cons aund (cons aund (cons aund (cons aund (cons aund (cons aund (cons aund (cons aund (cons aund (cons aund (cons aund (cons aund (cons aund (cons aund (cons aund (cons aund (cons aund (cons aund (cons aund (cons aund (cons aund (cons aund (cons aund (cons aund (cons aund (cons aund (cons aund (cons aund nil))))))))))))))))))))))))))))))))))))))))))))))))))))))))))))))))))))))))))))))))))))))))))))))))))))))))))))))))))))))))))))))))))))))) nil nil)
end
theorem q_math_bits_Div64_1 : ∀ b, (Q_math_bits_Div64_1).em b = St.mk [AV.und, AV.und, AV.r (RV.c (CV.f (FV.i IntKind.u64 b.1.2.2.1))), AV.und, AV.und, AV.und, AV.und, AV.und, AV.r (RV.c (CV.f (FV.i IntKind.u64 b.1.2.2.2.2.2.2.2.2.1))), AV.r (RV.c (CV.f (FV.i IntKind.u64 b.1.2.2.2.2.2.2.2.2.2.1))), AV.r (RV.c (CV.f (FV.i IntKind.u64 b.1.2.2.2.2.2.2.2.2.2.2.1))),
  AV.und, AV.und, AV.und, AV.r (RV.c (CV.f (FV.i IntKind.u64 b.1.2.2.2.2.2.2.2.2.2.2.2.2.2.2.1))), AV.r (RV.c (CV.f (FV.i IntKind.u64 b.1.2.2.2.2.2.2.2.2.2.2.2.2.2.2.2.1))), AV.r (RV.c (CV.f (FV.i IntKind.u64 b.1.2.2.2.2.2.2.2.2.2.2.2.2.2.2.2.2.1))), AV.r (RV.c (CV.f (FV.i IntKind.u64 b.1.2.2.2.2.2.2.2.2.2.2.2.2.2.2.2.2.2.1))),
  AV.r (RV.c (CV.f (FV.i IntKind.u64 b.1.2.2.2.2.2.2.2.2.2.2.2.2.2.2.2.2.2.2.1))), AV.und, AV.und, AV.und, AV.und, AV.und, AV.und, AV.und, AV.und, AV.und, AV.und, AV.und, AV.und, AV.und, AV.und, AV.und, AV.und, AV.und, AV.und, AV.und, AV.und, AV.und, AV.und, AV.und, AV.und, AV.und, AV.und, AV.und, AV.und,
  AV.und, AV.und, AV.und, AV.und, AV.und, AV.und, AV.und, AV.und, AV.und, AV.und, AV.und, AV.und, AV.und, AV.und, AV.und, AV.und, AV.und, AV.und, AV.und, AV.und, AV.und, AV.und, AV.und, AV.und, AV.und, AV.und, AV.und, AV.und, AV.und, AV.und, AV.und, AV.und, AV.und, AV.und, AV.und, AV.und, AV.und, AV.und,
  AV.und, AV.und, AV.und, AV.und, AV.und, AV.und, AV.und, AV.und, AV.und, AV.und, AV.und, AV.und, AV.und, AV.und, AV.und, AV.und, AV.und, AV.und, AV.und, AV.und, AV.und, AV.und, AV.und, AV.und, AV.und, AV.und, AV.und, AV.und, AV.und, AV.und, AV.und, AV.und, AV.und, AV.und, AV.und, AV.und, AV.und, AV.und,
  AV.und, AV.und, AV.und, AV.und, AV.und, AV.und, AV.und, AV.und, AV.und, AV.und, AV.und, AV.und] [] [] := fun b => by kernel_rfl
def R_math_bits_Div64_1 (l : ∀ {ρ : Type}, (Int × Int × Int × Int × Int × Int × Int × Int × Int) → ((Int × Int × Int × Int × Int × Int × Int × Int × Int × Int × Bool × Int × Bool ⊕ Int × Int × Int × Int × Int × Int × Int × Int × Int × Int × Bool × Int × Int × Int × Int × Bool × Bool ⊕ Int × Int × Int ×
  Int × Int × Int × Int × Int × Int × Bool × Int × Int × Int × Bool) → Option ρ) → Option ρ) {ρ : Type} (s : St) (K : AX → St → Option ρ) : Option ρ := ((Q_math_bits_Div64_1).rd s).bind fun b => l (b.1.2.2.1, b.1.2.2.2.2.2.2.2.2.1, b.1.2.2.2.2.2.2.2.2.2.1, b.1.2.2.2.2.2.2.2.2.2.2.1, b.1.2.2.2.2.2.2.2.2.2.2.2.2.2.2.1,
  b.1.2.2.2.2.2.2.2.2.2.2.2.2.2.2.2.1, b.1.2.2.2.2.2.2.2.2.2.2.2.2.2.2.2.2.1, b.1.2.2.2.2.2.2.2.2.2.2.2.2.2.2.2.2.2.1, b.1.2.2.2.2.2.2.2.2.2.2.2.2.2.2.2.2.2.2.1) (Sum.elim (fun d => K (AX.ex 2) (St.mk [AV.und, AV.und, AV.r (RV.c (CV.f (FV.i IntKind.u64 d.1))), AV.und, AV.und, AV.und, AV.und, AV.und,
  AV.r (RV.c (CV.f (FV.i IntKind.u64 d.2.1))), AV.r (RV.c (CV.f (FV.i IntKind.u64 d.2.2.1))), AV.r (RV.c (CV.f (FV.i IntKind.u64 d.2.2.2.1))), AV.und, AV.und, AV.und, AV.r (RV.c (CV.f (FV.i IntKind.u64 d.2.2.2.2.1))), AV.r (RV.c (CV.f (FV.i IntKind.u64 d.2.2.2.2.2.1))),
  AV.r (RV.c (CV.f (FV.i IntKind.u64 d.2.2.2.2.2.2.1))), AV.r (RV.c (CV.f (FV.i IntKind.u64 d.2.2.2.2.2.2.2.1))), AV.r (RV.c (CV.f (FV.i IntKind.u64 d.2.2.2.2.2.2.2.2.1))), AV.und, AV.und, AV.und, AV.und, AV.und, AV.und, AV.und, AV.und, AV.und, AV.und, AV.und,
  AV.und, AV.und, AV.und, AV.und, AV.und, AV.und, AV.und, AV.und, AV.und, AV.und, AV.und, AV.und, AV.und, AV.und, AV.und, AV.und, AV.und, AV.und, AV.und, AV.und, AV.und, AV.und, AV.und, AV.und, AV.und, AV.und, AV.und, AV.und, AV.und, AV.und, AV.und, AV.und, AV.und, AV.und, AV.und, AV.und, AV.und, AV.und,
  AV.und, AV.und, AV.und, AV.und, AV.und, AV.und, AV.und, AV.und, AV.und, AV.und, AV.und, AV.und, AV.und, AV.und, AV.und, AV.und, AV.und, AV.und, AV.und, AV.und, AV.und, AV.und, AV.und, AV.und, AV.und, AV.und, AV.und, AV.und, AV.und, AV.und, AV.und, AV.und, AV.und, AV.und, AV.r (RV.c (CV.f (FV.i IntKind.u64 d.2.2.2.2.2.2.2.2.2.1))),
  AV.r (RV.c (CV.f (FV.b d.2.2.2.2.2.2.2.2.2.2.1))), AV.r (RV.c (CV.f (FV.b true))), AV.tup [], AV.tup [], AV.tup [], AV.tup [], AV.tup [], AV.tup [], AV.tup [], AV.tup [], AV.r (RV.c (CV.f (FV.b true))), AV.r (RV.c (CV.f (FV.i IntKind.u64 d.2.2.2.2.2.2.2.2.2.1))),
  AV.r (RV.c (CV.f (FV.i IntKind.u64 d.2.2.2.2.2.2.2.2.1))), AV.r (RV.c (CV.f (FV.i IntKind.u64 d.2.2.2.2.2.2.2.2.2.2.2.1))), AV.r (RV.c (CV.f (FV.i IntKind.u64 d.2.2.1))), AV.r (RV.c (CV.f (FV.i IntKind.u64 d.2.2.2.2.2.2.1))), AV.r (RV.c (CV.f (FV.i IntKind.u64 d.2.2.2.2.2.2.1))),
  AV.r (RV.c (CV.f (FV.b d.2.2.2.2.2.2.2.2.2.2.2.2))), AV.und, AV.und, AV.und, AV.und, AV.und, AV.und, AV.und, AV.und, AV.und, AV.und, AV.und, AV.und, AV.und, AV.und] [] [])) (Sum.elim (fun d => K (AX.ex 2) (St.mk [AV.und, AV.und, AV.r (RV.c (CV.f (FV.i IntKind.u64 d.1))), AV.und,
  AV.und, AV.und, AV.und, AV.und, AV.r (RV.c (CV.f (FV.i IntKind.u64 d.2.1))), AV.r (RV.c (CV.f (FV.i IntKind.u64 d.2.2.1))), AV.r (RV.c (CV.f (FV.i IntKind.u64 d.2.2.2.1))), AV.und, AV.und, AV.und, AV.r (RV.c (CV.f (FV.i IntKind.u64 d.2.2.2.2.1))), AV.r (RV.c (CV.f (FV.i IntKind.u64 d.2.2.2.2.2.1))),
  AV.r (RV.c (CV.f (FV.i IntKind.u64 d.2.2.2.2.2.2.1))), AV.r (RV.c (CV.f (FV.i IntKind.u64 d.2.2.2.2.2.2.2.1))), AV.r (RV.c (CV.f (FV.i IntKind.u64 d.2.2.2.2.2.2.2.2.1))), AV.und, AV.und, AV.und, AV.und, AV.und, AV.und, AV.und, AV.und, AV.und, AV.und, AV.und,
  AV.und, AV.und, AV.und, AV.und, AV.und, AV.und, AV.und, AV.und, AV.und, AV.und, AV.und, AV.und, AV.und, AV.und, AV.und, AV.und, AV.und, AV.und, AV.und, AV.und, AV.und, AV.und, AV.und, AV.und, AV.und, AV.und, AV.und, AV.und, AV.und, AV.und, AV.und, AV.und, AV.und, AV.und, AV.und, AV.und, AV.und, AV.und,
  AV.und, AV.und, AV.und, AV.und, AV.und, AV.und, AV.und, AV.und, AV.und, AV.und, AV.und, AV.und, AV.und, AV.und, AV.und, AV.und, AV.und, AV.und, AV.und, AV.und, AV.und, AV.und, AV.und, AV.und, AV.und, AV.und, AV.und, AV.und, AV.und, AV.und, AV.und, AV.und, AV.und, AV.und, AV.r (RV.c (CV.f (FV.i IntKind.u64 d.2.2.2.2.2.2.2.2.2.1))),
  AV.r (RV.c (CV.f (FV.b d.2.2.2.2.2.2.2.2.2.2.1))), AV.r (RV.c (CV.f (FV.b false))), AV.r (RV.c (CV.f (FV.i IntKind.u64 d.2.2.2.2.2.2.2.2.2.1))), AV.r (RV.c (CV.f (FV.i IntKind.u64 d.2.2.2.1))), AV.r (RV.c (CV.f (FV.i IntKind.u64 d.2.2.2.2.2.2.2.2.2.2.2.1))),
  AV.r (RV.c (CV.f (FV.i IntKind.u64 d.2.2.2.2.2.2.2.2.2.2.2.2.1))), AV.r (RV.c (CV.f (FV.i IntKind.u64 d.2.2.2.2.2.2.2.2.2.2.2.2.2.1))), AV.r (RV.c (CV.f (FV.i IntKind.u64 d.2.2.2.2.1))), AV.r (RV.c (CV.f (FV.i IntKind.u64 d.2.2.2.2.2.2.2.2.2.2.2.2.2.2.1))),
  AV.r (RV.c (CV.f (FV.b d.2.2.2.2.2.2.2.2.2.2.2.2.2.2.2.1))), AV.r (RV.c (CV.f (FV.b d.2.2.2.2.2.2.2.2.2.2.2.2.2.2.2.1))), AV.r (RV.c (CV.f (FV.i IntKind.u64 d.2.2.2.2.2.2.2.2.2.1))), AV.r (RV.c (CV.f (FV.i IntKind.u64 d.2.2.2.2.2.2.2.2.1))),
  AV.r (RV.c (CV.f (FV.i IntKind.u64 d.2.2.2.2.2.2.2.2.2.2.2.2.1))), AV.r (RV.c (CV.f (FV.i IntKind.u64 d.2.2.1))), AV.r (RV.c (CV.f (FV.i IntKind.u64 d.2.2.2.2.2.2.1))), AV.r (RV.c (CV.f (FV.i IntKind.u64 d.2.2.2.2.2.2.1))), AV.r (RV.c (CV.f (FV.b d.2.2.2.2.2.2.2.2.2.2.2.2.2.2.2.2))),
  AV.und, AV.und, AV.und, AV.und, AV.und, AV.und, AV.und, AV.und, AV.und, AV.und, AV.und, AV.und, AV.und, AV.und] [] [])) (fun d => K (AX.ex 2) (St.mk [AV.und, AV.und, AV.r (RV.c (CV.f (FV.i IntKind.u64 d.1))), AV.und, AV.und, AV.und, AV.und, AV.und, AV.r (RV.c (CV.f (FV.i IntKind.u64 d.2.1))), AV.r (RV.c (CV.f (FV.i IntKind.u64 d.2.2.1))),
  AV.r (RV.c (CV.f (FV.i IntKind.u64 d.2.2.2.1))), AV.und, AV.und, AV.und, AV.r (RV.c (CV.f (FV.i IntKind.u64 d.2.2.2.2.1))), AV.r (RV.c (CV.f (FV.i IntKind.u64 d.2.2.2.2.2.1))), AV.r (RV.c (CV.f (FV.i IntKind.u64 d.2.2.2.2.2.2.1))), AV.r (RV.c (CV.f (FV.i IntKind.u64 d.2.2.2.2.2.2.2.1))),
  AV.r (RV.c (CV.f (FV.i IntKind.u64 d.2.2.2.2.2.2.2.2.1))), AV.und, AV.und, AV.und, AV.und, AV.und, AV.und, AV.und, AV.und, AV.und, AV.und, AV.und, AV.und, AV.und, AV.und, AV.und, AV.und, AV.und, AV.und, AV.und, AV.und, AV.und, AV.und, AV.und, AV.und, AV.und, AV.und, AV.und, AV.und,
  AV.und, AV.und, AV.und, AV.und, AV.und, AV.und, AV.und, AV.und, AV.und, AV.und, AV.und, AV.und, AV.und, AV.und, AV.und, AV.und, AV.und, AV.und, AV.und, AV.und, AV.und, AV.und, AV.und, AV.und, AV.und, AV.und, AV.und, AV.und, AV.und, AV.und, AV.und, AV.und, AV.und, AV.und, AV.und, AV.und, AV.und, AV.und,
  AV.und, AV.und, AV.und, AV.und, AV.und, AV.und, AV.und, AV.und, AV.und, AV.und, AV.und, AV.und, AV.und, AV.und, AV.und, AV.und, AV.und, AV.r (RV.c (CV.f (FV.i IntKind.u64 d.2.2.2.2.2.2.2.2.1))), AV.r (RV.c (CV.f (FV.b d.2.2.2.2.2.2.2.2.2.1))), AV.r (RV.c (CV.f (FV.b false))),
  AV.r (RV.c (CV.f (FV.i IntKind.u64 d.2.2.2.2.2.2.2.2.1))), AV.r (RV.c (CV.f (FV.i IntKind.u64 d.2.2.2.1))), AV.r (RV.c (CV.f (FV.i IntKind.u64 d.2.2.2.2.2.2.2.2.2.2.1))), AV.r (RV.c (CV.f (FV.i IntKind.u64 d.2.2.2.2.2.2.1))), AV.r (RV.c (CV.f (FV.i IntKind.u64 d.2.2.2.2.2.2.2.2.2.2.2.1))),
  AV.r (RV.c (CV.f (FV.i IntKind.u64 d.2.2.2.2.1))), AV.r (RV.c (CV.f (FV.i IntKind.u64 d.2.2.2.2.2.2.2.2.2.2.2.2.1))), AV.r (RV.c (CV.f (FV.b d.2.2.2.2.2.2.2.2.2.2.2.2.2))), AV.r (RV.c (CV.f (FV.b d.2.2.2.2.2.2.2.2.2.2.2.2.2))),
  AV.und, AV.und, AV.und, AV.und, AV.und, AV.und, AV.und, AV.und, AV.und, AV.und, AV.und, AV.und, AV.und, AV.und, AV.und, AV.und, AV.und, AV.und, AV.und, AV.und, AV.und] [] []))))
theorem ms_math_bits_Div64_1 {ρ σ : Type} (g_math_bits_LeadingZeros64 : Int → Option Int) (q : ρ → Option σ) (x0 : Int) (x1 : Int) (x2 : Int) (x3 : Int) (x4 : Int) (x5 : Int) (x6 : Int) (x7 : Int) (x8 : Int) (c : (Int × Int × Int × Int × Int × Int × Int × Int × Int) → Option ρ) (x : (Int × Int × Int ×
  Int × Int × Int × Int × Int × Int × Int × Bool × Int × Bool ⊕ Int × Int × Int × Int × Int × Int × Int × Int × Int × Int × Bool × Int × Int × Int × Int × Bool × Bool ⊕ Int × Int × Int × Int × Int × Int × Int × Int × Int × Bool × Int × Int × Int × Bool) → Option ρ) : (S_math_bits_Div64_1 g_math_bits_LeadingZeros64 x0 x1 x2 x3 x4 x5 x6 x7 x8 c x).bind q = S_math_bits_Div64_1 g_math_bits_LeadingZeros64 x0 x1 x2 x3 x4 x5 x6 x7 x8 (fun d => (c d).bind q) (fun d => (x d).bind q) := by
  simp only [S_math_bits_Div64_1, bnd_cond, bnd_bind, bnd_none, bnd_sum]
def L_math_bits_Div64_1 {ρ : Type} (d : Int × Int × Int × Int × Int × Int × Int × Int × Int) (k : (Int × Int × Int × Int × Int × Int × Int × Int × Int × Int × Bool × Int × Bool ⊕ Int × Int × Int × Int × Int × Int × Int × Int × Int × Int × Bool × Int × Int × Int × Int × Bool × Bool ⊕ Int × Int × Int ×
  Int × Int × Int × Int × Int × Int × Bool × Int × Int × Int × Bool) → Option ρ) : Option ρ := loopK (fun d c x => S_math_bits_Div64_1 f_math_bits_LeadingZeros64 d.1 d.2.1 d.2.2.1 d.2.2.2.1 d.2.2.2.2.1 d.2.2.2.2.2.1 d.2.2.2.2.2.2.1 d.2.2.2.2.2.2.2.1 d.2.2.2.2.2.2.2.2 c x) 200 d k
theorem mL_math_bits_Div64_1 {ρ σ : Type} (q : ρ → Option σ) (d : Int × Int × Int × Int × Int × Int × Int × Int × Int) (k : (Int × Int × Int × Int × Int × Int × Int × Int × Int × Int × Bool × Int × Bool ⊕ Int × Int × Int × Int × Int × Int × Int × Int × Int × Int × Bool × Int × Int × Int × Int × Bool ×
  Bool ⊕ Int × Int × Int × Int × Int × Int × Int × Int × Int × Bool × Int × Int × Int × Bool) → Option ρ) : (L_math_bits_Div64_1 d k).bind q = L_math_bits_Div64_1 d fun x => (k x).bind q := loopK_bind q (fun d c x => ms_math_bits_Div64_1 f_math_bits_LeadingZeros64 q d.1 d.2.1 d.2.2.1 d.2.2.2.1 d.2.2.2.2.1 d.2.2.2.2.2.1 d.2.2.2.2.2.2.1 d.2.2.2.2.2.2.2.1 d.2.2.2.2.2.2.2.2 c x) k _ d
theorem ds_math_bits_Div64_0 {ρ : Type} (g_math_bits_LeadingZeros64 : Int → Option Int) (l_0 : ∀ {ρ : Type}, (Int × Int × Int × Int × Int × Int × Int × Int × Int) → ((Int × Int × Int × Int × Int × Int × Int × Int × Int × Int × Bool × Int × Bool ⊕ Int × Int × Int × Int × Int × Int × Int × Int × Int ×
  Int × Bool × Int × Int × Int × Int × Bool × Bool ⊕ Int × Int × Int × Int × Int × Int × Int × Int × Int × Bool × Int × Int × Int × Bool) → Option ρ) → Option ρ) (l_1 : ∀ {ρ : Type}, (Int × Int × Int × Int × Int × Int × Int × Int × Int) → ((Int × Int × Int × Int × Int × Int × Int × Int × Int × Int × Bool ×
  Int × Bool ⊕ Int × Int × Int × Int × Int × Int × Int × Int × Int × Int × Bool × Int × Int × Int × Int × Bool × Bool ⊕ Int × Int × Int × Int × Int × Int × Int × Int × Int × Bool × Int × Int × Int × Bool) → Option ρ) → Option ρ) (x0 : Int) (x1 : Int) (x2 : Int) (x3 : Int) (x4 : Int) (x5 : Int) (x6 : Int) (x7 : Int) (x8 : Int) (c : St →
  Option ρ) (K : AX → St → Option ρ) : runC Try.prog (envOf [(94, F_math_bits_LeadingZeros64 g_math_bits_LeadingZeros64)]) ⟨[⟨17, [0, 1, 3, 4, 5, 6, 7, 12, 17, 18, 19, 20, 21, 22, 23, 24, 25, 26, 27, 28, 29, 30, 31, 32, 33, 34, 35, 36, 37, 38, 39, 40, 41, 42, 43, 44, 45, 46, 47, 48, 49, 50, 51, 52,
  53, 54, 55, 56, 57, 58, 59, 60, 61, 62, 63, 64, 65, 66, 67, 68, 69, 78, 79, 80, 81, 82, 83, 84, 85, 86, 87, 88, 89, 90, 91, 92, 93, 94, 95, 96, 97, 98, 99, 100, 101, 102, 103, 104, 113, 114, 115, 116, 117, 118, 119, 120, 121, 122, 123, 124, 125, 126, 127, 128, 129, 130, 131, 132, 133, 134, 70, 71, 72,
  73, 74, 75, 76, 77], []⟩, ⟨24, [0, 1, 3, 4, 5, 6, 7, 11, 12, 13, 19, 20, 21, 22, 23, 24, 25, 26, 27, 28, 29, 30, 31, 32, 33, 34, 35, 36, 37, 38, 39, 40, 41, 42, 43, 44, 45, 46, 47, 48, 49, 50, 51, 52, 53, 54, 55, 56, 57, 58, 59, 60, 61, 62, 63, 64, 65, 66, 67, 68, 69, 70, 71, 72, 73, 74, 75, 76, 77,
  78, 79, 80, 81, 82, 83, 84, 85, 86, 87, 88, 89, 90, 91, 92, 93, 94, 95, 96, 97, 98, 99, 100, 101, 102, 103, 104, 113, 114, 115, 116, 117, 118, 119, 120, 121, 122, 123, 124, 125, 126, 127, 128, 129, 130, 131, 132, 133, 134, 105, 106, 107, 108, 109, 110, 111, 112], []⟩], [⟨17, 0, @R_math_bits_Div64_0 (@l_0)⟩,
  ⟨24, 0, @R_math_bits_Div64_1 (@l_1)⟩], [], [], (some ⟨0, [0, 1, 2, 3, 4, 5, 8, 9, 10, 11, 12, 13, 14, 15, 16, 17, 18, 19, 20, 21, 22, 23, 24, 25, 26, 27, 28, 29, 30, 31, 32, 33, 34, 35, 36, 37, 38, 39, 40, 41, 42, 43, 44, 45, 46, 47, 48, 49, 50, 51, 52, 53, 54, 55, 56, 57, 58, 59, 60, 61, 62, 63, 64,
  65, 66, 67, 68, 69, 70, 71, 72, 73, 74, 75, 76, 77, 78, 79, 80, 81, 82, 83, 84, 85, 86, 87, 88, 89, 90, 91, 92, 93, 94, 95, 96, 97, 98, 99, 100, 101, 102, 103, 104, 105, 106, 107, 108, 109, 110, 111, 112, 113, 114, 115, 116, 117, 118, 119, 120, 121, 122, 123, 124, 125, 126, 127, 128, 129, 130, 131, 132,
  133, 134], []⟩)⟩ (tmpsOf Try.prog 90) 0 200 (loopIn Try.prog 90 17) (St.mk [AV.und, AV.und, AV.r (RV.c (CV.f (FV.i IntKind.u64 x0))), AV.und, AV.und, AV.und, AV.und, AV.und, AV.r (RV.c (CV.f (FV.i IntKind.u64 x1))), AV.r (RV.c (CV.f (FV.i IntKind.u64 x2))), AV.r (RV.c (CV.f (FV.i IntKind.u64 x3))),
  AV.r (RV.c (CV.f (FV.i IntKind.u64 x4))), AV.und, AV.r (RV.c (CV.f (FV.i IntKind.u64 x5))), AV.r (RV.c (CV.f (FV.i IntKind.u64 x6))), AV.r (RV.c (CV.f (FV.i IntKind.u64 x7))), AV.r (RV.c (CV.f (FV.i IntKind.u64 x8))), AV.und, AV.und, AV.und, AV.und, AV.und, AV.und, AV.und, AV.und, AV.und, AV.und, AV.und,
  AV.und, AV.und, AV.und, AV.und, AV.und, AV.und, AV.und, AV.und, AV.und, AV.und, AV.und, AV.und, AV.und, AV.und, AV.und, AV.und, AV.und, AV.und, AV.und, AV.und, AV.und, AV.und, AV.und, AV.und, AV.und, AV.und, AV.und, AV.und, AV.und, AV.und, AV.und, AV.und, AV.und, AV.und, AV.und, AV.und, AV.und, AV.und,
  AV.und, AV.und, AV.und, AV.und, AV.und, AV.und, AV.und, AV.und, AV.und, AV.und, AV.und, AV.und, AV.und, AV.und, AV.und, AV.und, AV.und, AV.und, AV.und, AV.und, AV.und, AV.und, AV.und, AV.und, AV.und, AV.und, AV.und, AV.und, AV.und, AV.und, AV.und, AV.und, AV.und, AV.und, AV.und, AV.und, AV.und, AV.und,
  AV.und, AV.tup [], AV.tup [], AV.tup [], AV.tup [], AV.tup [], AV.tup [], AV.tup [], AV.tup [], AV.und, AV.und, AV.und, AV.und, AV.und, AV.und, AV.und, AV.und, AV.und, AV.und, AV.und, AV.und, AV.und, AV.und, AV.und, AV.und, AV.und, AV.und, AV.und, AV.und, AV.und, AV.und] [] []) (next (fun t => t.head 0 ⟨[⟨17,
  [0, 1, 3, 4, 5, 6, 7, 12, 17, 18, 19, 20, 21, 22, 23, 24, 25, 26, 27, 28, 29, 30, 31, 32, 33, 34, 35, 36, 37, 38, 39, 40, 41, 42, 43, 44, 45, 46, 47, 48, 49, 50, 51, 52, 53, 54, 55, 56, 57, 58, 59, 60, 61, 62, 63, 64, 65, 66, 67, 68, 69, 78, 79, 80, 81, 82, 83, 84, 85, 86, 87, 88, 89, 90, 91, 92, 93,
  94, 95, 96, 97, 98, 99, 100, 101, 102, 103, 104, 113, 114, 115, 116, 117, 118, 119, 120, 121, 122, 123, 124, 125, 126, 127, 128, 129, 130, 131, 132, 133, 134, 70, 71, 72, 73, 74, 75, 76, 77], []⟩, ⟨24, [0, 1, 3, 4, 5, 6, 7, 11, 12, 13, 19, 20, 21, 22, 23, 24, 25, 26, 27, 28, 29, 30, 31, 32, 33, 34, 35,
  36, 37, 38, 39, 40, 41, 42, 43, 44, 45, 46, 47, 48, 49, 50, 51, 52, 53, 54, 55, 56, 57, 58, 59, 60, 61, 62, 63, 64, 65, 66, 67, 68, 69, 70, 71, 72, 73, 74, 75, 76, 77, 78, 79, 80, 81, 82, 83, 84, 85, 86, 87, 88, 89, 90, 91, 92, 93, 94, 95, 96, 97, 98, 99, 100, 101, 102, 103, 104, 113, 114, 115, 116,
  117, 118, 119, 120, 121, 122, 123, 124, 125, 126, 127, 128, 129, 130, 131, 132, 133, 134, 105, 106, 107, 108, 109, 110, 111, 112], []⟩], [⟨17, 0, @R_math_bits_Div64_0 (@l_0)⟩, ⟨24, 0, @R_math_bits_Div64_1 (@l_1)⟩], [], [], (some ⟨0, [0, 1, 2, 3, 4, 5, 8, 9, 10, 11, 12, 13, 14, 15, 16, 17, 18, 19, 20,
  21, 22, 23, 24, 25, 26, 27, 28, 29, 30, 31, 32, 33, 34, 35, 36, 37, 38, 39, 40, 41, 42, 43, 44, 45, 46, 47, 48, 49, 50, 51, 52, 53, 54, 55, 56, 57, 58, 59, 60, 61, 62, 63, 64, 65, 66, 67, 68, 69, 70, 71, 72, 73, 74, 75, 76, 77, 78, 79, 80, 81, 82, 83, 84, 85, 86, 87, 88, 89, 90, 91, 92, 93, 94, 95, 96,
  97, 98, 99, 100, 101, 102, 103, 104, 105, 106, 107, 108, 109, 110, 111, 112, 113, 114, 115, 116, 117, 118, 119, 120, 121, 122, 123, 124, 125, 126, 127, 128, 129, 130, 131, 132, 133, 134], []⟩)⟩ (loopIn Try.prog 90 17)) c K) = S_math_bits_Div64_0 g_math_bits_LeadingZeros64 x0 x1 x2 x3 x4 x5 x6 x7 x8 (fun d => c (St.mk [AV.und,
  AV.und, AV.r (RV.c (CV.f (FV.i IntKind.u64 d.1))), AV.und, AV.und, AV.und, AV.und, AV.und, AV.r (RV.c (CV.f (FV.i IntKind.u64 d.2.1))), AV.r (RV.c (CV.f (FV.i IntKind.u64 d.2.2.1))), AV.r (RV.c (CV.f (FV.i IntKind.u64 d.2.2.2.1))), AV.r (RV.c (CV.f (FV.i IntKind.u64 d.2.2.2.2.1))),
  AV.und, AV.r (RV.c (CV.f (FV.i IntKind.u64 d.2.2.2.2.2.1))), AV.r (RV.c (CV.f (FV.i IntKind.u64 d.2.2.2.2.2.2.1))), AV.r (RV.c (CV.f (FV.i IntKind.u64 d.2.2.2.2.2.2.2.1))), AV.r (RV.c (CV.f (FV.i IntKind.u64 d.2.2.2.2.2.2.2.2))), AV.und, AV.und,
  AV.und, AV.und, AV.und, AV.und, AV.und, AV.und, AV.und, AV.und, AV.und, AV.und, AV.und, AV.und, AV.und, AV.und, AV.und, AV.und, AV.und, AV.und, AV.und, AV.und, AV.und, AV.und, AV.und, AV.und, AV.und, AV.und, AV.und, AV.und, AV.und, AV.und, AV.und, AV.und, AV.und, AV.und, AV.und, AV.und, AV.und, AV.und,
  AV.und, AV.und, AV.und, AV.und, AV.und, AV.und, AV.und, AV.und, AV.und, AV.und, AV.und, AV.und, AV.und, AV.und, AV.und, AV.und, AV.und, AV.und, AV.und, AV.und, AV.und, AV.und, AV.und, AV.und, AV.und, AV.und, AV.und, AV.und, AV.und, AV.und, AV.und, AV.und, AV.und, AV.und, AV.und, AV.und, AV.und, AV.und,
  AV.und, AV.und, AV.und, AV.und, AV.und, AV.und, AV.und, AV.und, AV.und, AV.und, AV.tup [], AV.tup [], AV.tup [], AV.tup [], AV.tup [], AV.tup [], AV.tup [], AV.tup [], AV.und, AV.und, AV.und, AV.und, AV.und, AV.und, AV.und, AV.und, AV.und, AV.und, AV.und, AV.und, AV.und, AV.und, AV.und, AV.und, AV.und,
  AV.und, AV.und, AV.und, AV.und, AV.und] [] [])) (Sum.elim (fun d => K (AX.ex 0) (St.mk [AV.und, AV.und, AV.r (RV.c (CV.f (FV.i IntKind.u64 d.1))), AV.und, AV.und, AV.und, AV.und, AV.und, AV.r (RV.c (CV.f (FV.i IntKind.u64 d.2.1))), AV.r (RV.c (CV.f (FV.i IntKind.u64 d.2.2.1))), AV.r (RV.c (CV.f (FV.i IntKind.u64 d.2.2.2.1))),
  AV.r (RV.c (CV.f (FV.i IntKind.u64 d.2.2.2.2.1))), AV.und, AV.r (RV.c (CV.f (FV.i IntKind.u64 d.2.2.2.2.2.1))), AV.r (RV.c (CV.f (FV.i IntKind.u64 d.2.2.2.2.2.2.1))), AV.r (RV.c (CV.f (FV.i IntKind.u64 d.2.2.2.2.2.2.2.1))), AV.r (RV.c (CV.f (FV.i IntKind.u64 d.2.2.2.2.2.2.2.2.1))),
  AV.und, AV.und, AV.und, AV.und, AV.und, AV.und, AV.und, AV.und, AV.und, AV.und, AV.und, AV.und, AV.und, AV.und, AV.und, AV.und, AV.und, AV.und, AV.und, AV.und, AV.und, AV.und, AV.und, AV.und, AV.und, AV.und, AV.und, AV.und, AV.und, AV.und, AV.und, AV.und, AV.und, AV.und, AV.und, AV.und, AV.und, AV.und,
  AV.und, AV.und, AV.und, AV.und, AV.und, AV.und, AV.und, AV.und, AV.und, AV.und, AV.und, AV.und, AV.r (RV.c (CV.f (FV.i IntKind.u64 d.2.2.2.2.2.2.2.2.2.1))), AV.r (RV.c (CV.f (FV.b d.2.2.2.2.2.2.2.2.2.2.1))), AV.r (RV.c (CV.f (FV.b true))), AV.tup [], AV.tup [],
  AV.tup [], AV.tup [], AV.tup [], AV.tup [], AV.tup [], AV.tup [], AV.r (RV.c (CV.f (FV.b true))), AV.r (RV.c (CV.f (FV.i IntKind.u64 d.2.2.2.2.2.2.2.2.2.1))), AV.r (RV.c (CV.f (FV.i IntKind.u64 d.2.2.2.2.2.2.2.1))), AV.r (RV.c (CV.f (FV.i IntKind.u64 d.2.2.2.2.2.2.2.2.2.2.2.1))),
  AV.r (RV.c (CV.f (FV.i IntKind.u64 d.2.2.1))), AV.r (RV.c (CV.f (FV.i IntKind.u64 d.2.2.2.2.2.2.2.2.1))), AV.r (RV.c (CV.f (FV.i IntKind.u64 d.2.2.2.2.2.2.2.2.1))), AV.r (RV.c (CV.f (FV.b d.2.2.2.2.2.2.2.2.2.2.2.2))), AV.und, AV.und, AV.und,
  AV.und, AV.und, AV.und, AV.und, AV.und, AV.und, AV.und, AV.und, AV.und, AV.und, AV.und, AV.und, AV.und, AV.und, AV.und, AV.und, AV.tup [], AV.tup [], AV.tup [], AV.tup [], AV.tup [], AV.tup [], AV.tup [], AV.tup [], AV.und, AV.und, AV.und, AV.und, AV.und, AV.und, AV.und, AV.und, AV.und, AV.und, AV.und,
  AV.und, AV.und, AV.und, AV.und, AV.und, AV.und, AV.und, AV.und, AV.und, AV.und, AV.und] [] [])) (Sum.elim (fun d => K (AX.ex 0) (St.mk [AV.und, AV.und, AV.r (RV.c (CV.f (FV.i IntKind.u64 d.1))), AV.und, AV.und, AV.und, AV.und, AV.und, AV.r (RV.c (CV.f (FV.i IntKind.u64 d.2.1))), AV.r (RV.c (CV.f (FV.i IntKind.u64 d.2.2.1))),
  AV.r (RV.c (CV.f (FV.i IntKind.u64 d.2.2.2.1))), AV.r (RV.c (CV.f (FV.i IntKind.u64 d.2.2.2.2.1))), AV.und, AV.r (RV.c (CV.f (FV.i IntKind.u64 d.2.2.2.2.2.1))), AV.r (RV.c (CV.f (FV.i IntKind.u64 d.2.2.2.2.2.2.1))), AV.r (RV.c (CV.f (FV.i IntKind.u64 d.2.2.2.2.2.2.2.1))),
  AV.r (RV.c (CV.f (FV.i IntKind.u64 d.2.2.2.2.2.2.2.2.1))), AV.und, AV.und, AV.und, AV.und, AV.und, AV.und, AV.und, AV.und, AV.und, AV.und, AV.und, AV.und, AV.und, AV.und, AV.und, AV.und, AV.und, AV.und, AV.und, AV.und, AV.und, AV.und, AV.und, AV.und, AV.und, AV.und, AV.und, AV.und,
  AV.und, AV.und, AV.und, AV.und, AV.und, AV.und, AV.und, AV.und, AV.und, AV.und, AV.und, AV.und, AV.und, AV.und, AV.und, AV.und, AV.und, AV.und, AV.und, AV.und, AV.und, AV.und, AV.r (RV.c (CV.f (FV.i IntKind.u64 d.2.2.2.2.2.2.2.2.2.1))), AV.r (RV.c (CV.f (FV.b d.2.2.2.2.2.2.2.2.2.2.1))),
  AV.r (RV.c (CV.f (FV.b false))), AV.r (RV.c (CV.f (FV.i IntKind.u64 d.2.2.2.2.2.2.2.2.2.1))), AV.r (RV.c (CV.f (FV.i IntKind.u64 d.2.2.2.1))), AV.r (RV.c (CV.f (FV.i IntKind.u64 d.2.2.2.2.2.2.2.2.2.2.2.1))), AV.r (RV.c (CV.f (FV.i IntKind.u64 d.2.2.2.2.2.2.2.2.2.2.2.2.1))),
  AV.r (RV.c (CV.f (FV.i IntKind.u64 d.2.2.2.2.2.2.2.2.2.2.2.2.2.1))), AV.r (RV.c (CV.f (FV.i IntKind.u64 d.2.2.2.2.2.1))), AV.r (RV.c (CV.f (FV.i IntKind.u64 d.2.2.2.2.2.2.2.2.2.2.2.2.2.2.1))), AV.r (RV.c (CV.f (FV.b d.2.2.2.2.2.2.2.2.2.2.2.2.2.2.2.1))),
  AV.r (RV.c (CV.f (FV.b d.2.2.2.2.2.2.2.2.2.2.2.2.2.2.2.1))), AV.r (RV.c (CV.f (FV.i IntKind.u64 d.2.2.2.2.2.2.2.2.2.1))), AV.r (RV.c (CV.f (FV.i IntKind.u64 d.2.2.2.2.2.2.2.1))), AV.r (RV.c (CV.f (FV.i IntKind.u64 d.2.2.2.2.2.2.2.2.2.2.2.2.1))),
  AV.r (RV.c (CV.f (FV.i IntKind.u64 d.2.2.1))), AV.r (RV.c (CV.f (FV.i IntKind.u64 d.2.2.2.2.2.2.2.2.1))), AV.r (RV.c (CV.f (FV.i IntKind.u64 d.2.2.2.2.2.2.2.2.1))), AV.r (RV.c (CV.f (FV.b d.2.2.2.2.2.2.2.2.2.2.2.2.2.2.2.2))), AV.und,
  AV.und, AV.und, AV.und, AV.und, AV.und, AV.und, AV.und, AV.und, AV.und, AV.und, AV.und, AV.und, AV.und, AV.und, AV.und, AV.und, AV.und, AV.und, AV.tup [], AV.tup [], AV.tup [], AV.tup [], AV.tup [], AV.tup [], AV.tup [], AV.tup [], AV.und, AV.und, AV.und, AV.und, AV.und, AV.und, AV.und, AV.und, AV.und,
  AV.und, AV.und, AV.und, AV.und, AV.und, AV.und, AV.und, AV.und, AV.und, AV.und, AV.und, AV.und, AV.und] [] [])) (fun d => K (AX.ex 0) (St.mk [AV.und, AV.und, AV.r (RV.c (CV.f (FV.i IntKind.u64 d.1))), AV.und, AV.und, AV.und, AV.und, AV.und, AV.r (RV.c (CV.f (FV.i IntKind.u64 d.2.1))), AV.r (RV.c (CV.f (FV.i IntKind.u64 d.2.2.1))),
  AV.r (RV.c (CV.f (FV.i IntKind.u64 d.2.2.2.1))), AV.r (RV.c (CV.f (FV.i IntKind.u64 d.2.2.2.2.1))), AV.und, AV.r (RV.c (CV.f (FV.i IntKind.u64 d.2.2.2.2.2.1))), AV.r (RV.c (CV.f (FV.i IntKind.u64 d.2.2.2.2.2.2.1))), AV.r (RV.c (CV.f (FV.i IntKind.u64 d.2.2.2.2.2.2.2.1))),
  AV.r (RV.c (CV.f (FV.i IntKind.u64 d.2.2.2.2.2.2.2.2.1))), AV.und, AV.und, AV.und, AV.und, AV.und, AV.und, AV.und, AV.und, AV.und, AV.und, AV.und, AV.und, AV.und, AV.und, AV.und, AV.und, AV.und, AV.und, AV.und, AV.und, AV.und, AV.und, AV.und, AV.und, AV.und, AV.und, AV.und, AV.und,
  AV.und, AV.und, AV.und, AV.und, AV.und, AV.und, AV.und, AV.und, AV.und, AV.und, AV.und, AV.und, AV.und, AV.und, AV.und, AV.und, AV.und, AV.und, AV.und, AV.und, AV.und, AV.und, AV.r (RV.c (CV.f (FV.i IntKind.u64 d.2.2.2.2.2.2.2.1))), AV.r (RV.c (CV.f (FV.b d.2.2.2.2.2.2.2.2.2.1))),
  AV.r (RV.c (CV.f (FV.b false))), AV.r (RV.c (CV.f (FV.i IntKind.u64 d.2.2.2.2.2.2.2.1))), AV.r (RV.c (CV.f (FV.i IntKind.u64 d.2.2.2.1))), AV.r (RV.c (CV.f (FV.i IntKind.u64 d.2.2.2.2.2.2.2.2.2.2.1))), AV.r (RV.c (CV.f (FV.i IntKind.u64 d.2.2.2.2.2.2.2.2.1))),
  AV.r (RV.c (CV.f (FV.i IntKind.u64 d.2.2.2.2.2.2.2.2.2.2.2.1))), AV.r (RV.c (CV.f (FV.i IntKind.u64 d.2.2.2.2.2.1))), AV.r (RV.c (CV.f (FV.i IntKind.u64 d.2.2.2.2.2.2.2.2.2.2.2.2.1))), AV.r (RV.c (CV.f (FV.b d.2.2.2.2.2.2.2.2.2.2.2.2.2))),
  AV.r (RV.c (CV.f (FV.b d.2.2.2.2.2.2.2.2.2.2.2.2.2))), AV.und, AV.und, AV.und, AV.und, AV.und, AV.und, AV.und, AV.und, AV.und, AV.und, AV.und, AV.und, AV.und, AV.und, AV.und, AV.und, AV.und, AV.und, AV.und, AV.und, AV.und, AV.und, AV.und, AV.und, AV.und, AV.und, AV.tup [], AV.tup [],
  AV.tup [], AV.tup [], AV.tup [], AV.tup [], AV.tup [], AV.tup [], AV.und, AV.und, AV.und, AV.und, AV.und, AV.und, AV.und, AV.und, AV.und, AV.und, AV.und, AV.und, AV.und, AV.und, AV.und, AV.und, AV.und, AV.und, AV.und, AV.und, AV.und, AV.und] [] [])))) := by kernel_rfl
theorem it_math_bits_Div64_0 {ρ : Type} (x0 : Int) (x1 : Int) (x2 : Int) (x3 : Int) (x4 : Int) (x5 : Int) (x6 : Int) (x7 : Int) (x8 : Int) (K : AX → St → Option ρ) : iter (fun t => t.head 0 ⟨[⟨17, [0, 1, 3, 4, 5, 6, 7, 12, 17, 18, 19, 20, 21, 22, 23, 24, 25, 26, 27, 28, 29, 30, 31, 32, 33, 34, 35, 36,
  37, 38, 39, 40, 41, 42, 43, 44, 45, 46, 47, 48, 49, 50, 51, 52, 53, 54, 55, 56, 57, 58, 59, 60, 61, 62, 63, 64, 65, 66, 67, 68, 69, 78, 79, 80, 81, 82, 83, 84, 85, 86, 87, 88, 89, 90, 91, 92, 93, 94, 95, 96, 97, 98, 99, 100, 101, 102, 103, 104, 113, 114, 115, 116, 117, 118, 119, 120, 121, 122, 123, 124,
  125, 126, 127, 128, 129, 130, 131, 132, 133, 134, 70, 71, 72, 73, 74, 75, 76, 77], []⟩, ⟨24, [0, 1, 3, 4, 5, 6, 7, 11, 12, 13, 19, 20, 21, 22, 23, 24, 25, 26, 27, 28, 29, 30, 31, 32, 33, 34, 35, 36, 37, 38, 39, 40, 41, 42, 43, 44, 45, 46, 47, 48, 49, 50, 51, 52, 53, 54, 55, 56, 57, 58, 59, 60, 61, 62,
  63, 64, 65, 66, 67, 68, 69, 70, 71, 72, 73, 74, 75, 76, 77, 78, 79, 80, 81, 82, 83, 84, 85, 86, 87, 88, 89, 90, 91, 92, 93, 94, 95, 96, 97, 98, 99, 100, 101, 102, 103, 104, 113, 114, 115, 116, 117, 118, 119, 120, 121, 122, 123, 124, 125, 126, 127, 128, 129, 130, 131, 132, 133, 134, 105, 106, 107, 108,
  109, 110, 111, 112], []⟩], [⟨17, 0, @R_math_bits_Div64_0 (@L_math_bits_Div64_0)⟩, ⟨24, 0, @R_math_bits_Div64_1 (@L_math_bits_Div64_1)⟩], [], [], (some ⟨0, [0, 1, 2, 3, 4, 5, 8, 9, 10, 11, 12, 13, 14, 15, 16, 17, 18, 19, 20, 21, 22, 23, 24, 25, 26, 27, 28, 29, 30, 31, 32, 33, 34, 35, 36, 37, 38, 39, 40,
  41, 42, 43, 44, 45, 46, 47, 48, 49, 50, 51, 52, 53, 54, 55, 56, 57, 58, 59, 60, 61, 62, 63, 64, 65, 66, 67, 68, 69, 70, 71, 72, 73, 74, 75, 76, 77, 78, 79, 80, 81, 82, 83, 84, 85, 86, 87, 88, 89, 90, 91, 92, 93, 94, 95, 96, 97, 98, 99, 100, 101, 102, 103, 104, 105, 106, 107, 108, 109, 110, 111, 112,
  113, 114, 115, 116, 117, 118, 119, 120, 121, 122, 123, 124, 125, 126, 127, 128, 129, 130, 131, 132, 133, 134], []⟩)⟩ (loopIn Try.prog 90 17)) (runC Try.prog (envOf [(94, F_math_bits_LeadingZeros64 f_math_bits_LeadingZeros64)]) ⟨[⟨17, [0, 1, 3, 4, 5, 6, 7, 12, 17, 18, 19, 20, 21, 22, 23, 24,
  25, 26, 27, 28, 29, 30, 31, 32, 33, 34, 35, 36, 37, 38, 39, 40, 41, 42, 43, 44, 45, 46, 47, 48, 49, 50, 51, 52, 53, 54, 55, 56, 57, 58, 59, 60, 61, 62, 63, 64, 65, 66, 67, 68, 69, 78, 79, 80, 81, 82, 83, 84, 85, 86, 87, 88, 89, 90, 91, 92, 93, 94, 95, 96, 97, 98, 99, 100, 101, 102, 103, 104, 113, 114,
  115, 116, 117, 118, 119, 120, 121, 122, 123, 124, 125, 126, 127, 128, 129, 130, 131, 132, 133, 134, 70, 71, 72, 73, 74, 75, 76, 77], []⟩, ⟨24, [0, 1, 3, 4, 5, 6, 7, 11, 12, 13, 19, 20, 21, 22, 23, 24, 25, 26, 27, 28, 29, 30, 31, 32, 33, 34, 35, 36, 37, 38, 39, 40, 41, 42, 43, 44, 45, 46, 47, 48, 49,
  50, 51, 52, 53, 54, 55, 56, 57, 58, 59, 60, 61, 62, 63, 64, 65, 66, 67, 68, 69, 70, 71, 72, 73, 74, 75, 76, 77, 78, 79, 80, 81, 82, 83, 84, 85, 86, 87, 88, 89, 90, 91, 92, 93, 94, 95, 96, 97, 98, 99, 100, 101, 102, 103, 104, 113, 114, 115, 116, 117, 118, 119, 120, 121, 122, 123, 124, 125, 126, 127, 128,
  129, 130, 131, 132, 133, 134, 105, 106, 107, 108, 109, 110, 111, 112], []⟩], [⟨17, 0, @R_math_bits_Div64_0 (@L_math_bits_Div64_0)⟩, ⟨24, 0, @R_math_bits_Div64_1 (@L_math_bits_Div64_1)⟩], [], [], (some ⟨0, [0, 1, 2, 3, 4, 5, 8, 9, 10, 11, 12, 13, 14, 15, 16, 17, 18, 19, 20, 21, 22, 23, 24, 25, 26, 27,
  28, 29, 30, 31, 32, 33, 34, 35, 36, 37, 38, 39, 40, 41, 42, 43, 44, 45, 46, 47, 48, 49, 50, 51, 52, 53, 54, 55, 56, 57, 58, 59, 60, 61, 62, 63, 64, 65, 66, 67, 68, 69, 70, 71, 72, 73, 74, 75, 76, 77, 78, 79, 80, 81, 82, 83, 84, 85, 86, 87, 88, 89, 90, 91, 92, 93, 94, 95, 96, 97, 98, 99, 100, 101, 102,
  103, 104, 105, 106, 107, 108, 109, 110, 111, 112, 113, 114, 115, 116, 117, 118, 119, 120, 121, 122, 123, 124, 125, 126, 127, 128, 129, 130, 131, 132, 133, 134], []⟩)⟩ (tmpsOf Try.prog 90) 0 200 (loopIn Try.prog 90 17)) K 200 (St.mk [AV.und, AV.und, AV.r (RV.c (CV.f (FV.i IntKind.u64 x0))),
  AV.und, AV.und, AV.und, AV.und, AV.und, AV.r (RV.c (CV.f (FV.i IntKind.u64 x1))), AV.r (RV.c (CV.f (FV.i IntKind.u64 x2))), AV.r (RV.c (CV.f (FV.i IntKind.u64 x3))), AV.r (RV.c (CV.f (FV.i IntKind.u64 x4))), AV.und, AV.r (RV.c (CV.f (FV.i IntKind.u64 x5))), AV.r (RV.c (CV.f (FV.i IntKind.u64 x6))), AV.r (RV.c (CV.f (FV.i IntKind.u64 x7))),
  AV.r (RV.c (CV.f (FV.i IntKind.u64 x8))), AV.und, AV.und, AV.und, AV.und, AV.und, AV.und, AV.und, AV.und, AV.und, AV.und, AV.und, AV.und, AV.und, AV.und, AV.und, AV.und, AV.und, AV.und, AV.und, AV.und, AV.und, AV.und, AV.und, AV.und, AV.und, AV.und, AV.und, AV.und, AV.und, AV.und, AV.und, AV.und, AV.und,
  AV.und, AV.und, AV.und, AV.und, AV.und, AV.und, AV.und, AV.und, AV.und, AV.und, AV.und, AV.und, AV.und, AV.und, AV.und, AV.und, AV.und, AV.und, AV.und, AV.und, AV.und, AV.und, AV.und, AV.und, AV.und, AV.und, AV.und, AV.und, AV.und, AV.und, AV.und, AV.und, AV.und, AV.und, AV.und, AV.und, AV.und, AV.und,
  AV.und, AV.und, AV.und, AV.und, AV.und, AV.und, AV.und, AV.und, AV.und, AV.und, AV.und, AV.und, AV.und, AV.und, AV.und, AV.und, AV.und, AV.tup [], AV.tup [], AV.tup [], AV.tup [], AV.tup [], AV.tup [], AV.tup [], AV.tup [], AV.und, AV.und, AV.und, AV.und, AV.und, AV.und, AV.und, AV.und, AV.und, AV.und,
  AV.und, AV.und, AV.und, AV.und, AV.und, AV.und, AV.und, AV.und, AV.und, AV.und, AV.und, AV.und] [] []) = L_math_bits_Div64_0 (x0, x1, x2, x3, x4, x5, x6, x7, x8) (Sum.elim (fun d => K (AX.ex 0) (St.mk [AV.und, AV.und, AV.r (RV.c (CV.f (FV.i IntKind.u64 d.1))), AV.und, AV.und, AV.und, AV.und, AV.und,
  AV.r (RV.c (CV.f (FV.i IntKind.u64 d.2.1))), AV.r (RV.c (CV.f (FV.i IntKind.u64 d.2.2.1))), AV.r (RV.c (CV.f (FV.i IntKind.u64 d.2.2.2.1))), AV.r (RV.c (CV.f (FV.i IntKind.u64 d.2.2.2.2.1))), AV.und, AV.r (RV.c (CV.f (FV.i IntKind.u64 d.2.2.2.2.2.1))), AV.r (RV.c (CV.f (FV.i IntKind.u64 d.2.2.2.2.2.2.1))),
  AV.r (RV.c (CV.f (FV.i IntKind.u64 d.2.2.2.2.2.2.2.1))), AV.r (RV.c (CV.f (FV.i IntKind.u64 d.2.2.2.2.2.2.2.2.1))), AV.und, AV.und, AV.und, AV.und, AV.und, AV.und, AV.und, AV.und, AV.und, AV.und, AV.und, AV.und, AV.und, AV.und, AV.und, AV.und, AV.und, AV.und, AV.und,
  AV.und, AV.und, AV.und, AV.und, AV.und, AV.und, AV.und, AV.und, AV.und, AV.und, AV.und, AV.und, AV.und, AV.und, AV.und, AV.und, AV.und, AV.und, AV.und, AV.und, AV.und, AV.und, AV.und, AV.und, AV.und, AV.und, AV.und, AV.und, AV.und, AV.und, AV.und, AV.r (RV.c (CV.f (FV.i IntKind.u64 d.2.2.2.2.2.2.2.2.2.1))),
  AV.r (RV.c (CV.f (FV.b d.2.2.2.2.2.2.2.2.2.2.1))), AV.r (RV.c (CV.f (FV.b true))), AV.tup [], AV.tup [], AV.tup [], AV.tup [], AV.tup [], AV.tup [], AV.tup [], AV.tup [], AV.r (RV.c (CV.f (FV.b true))), AV.r (RV.c (CV.f (FV.i IntKind.u64 d.2.2.2.2.2.2.2.2.2.1))),
  AV.r (RV.c (CV.f (FV.i IntKind.u64 d.2.2.2.2.2.2.2.1))), AV.r (RV.c (CV.f (FV.i IntKind.u64 d.2.2.2.2.2.2.2.2.2.2.2.1))), AV.r (RV.c (CV.f (FV.i IntKind.u64 d.2.2.1))), AV.r (RV.c (CV.f (FV.i IntKind.u64 d.2.2.2.2.2.2.2.2.1))), AV.r (RV.c (CV.f (FV.i IntKind.u64 d.2.2.2.2.2.2.2.2.1))),
  AV.r (RV.c (CV.f (FV.b d.2.2.2.2.2.2.2.2.2.2.2.2))), AV.und, AV.und, AV.und, AV.und, AV.und, AV.und, AV.und, AV.und, AV.und, AV.und, AV.und, AV.und, AV.und, AV.und, AV.und, AV.und, AV.und, AV.und, AV.und, AV.tup [], AV.tup [], AV.tup [], AV.tup [], AV.tup [], AV.tup [], AV.tup [],
  AV.tup [], AV.und, AV.und, AV.und, AV.und, AV.und, AV.und, AV.und, AV.und, AV.und, AV.und, AV.und, AV.und, AV.und, AV.und, AV.und, AV.und, AV.und, AV.und, AV.und, AV.und, AV.und, AV.und] [] [])) (Sum.elim (fun d => K (AX.ex 0) (St.mk [AV.und, AV.und, AV.r (RV.c (CV.f (FV.i IntKind.u64 d.1))), AV.und,
  AV.und, AV.und, AV.und, AV.und, AV.r (RV.c (CV.f (FV.i IntKind.u64 d.2.1))), AV.r (RV.c (CV.f (FV.i IntKind.u64 d.2.2.1))), AV.r (RV.c (CV.f (FV.i IntKind.u64 d.2.2.2.1))), AV.r (RV.c (CV.f (FV.i IntKind.u64 d.2.2.2.2.1))), AV.und, AV.r (RV.c (CV.f (FV.i IntKind.u64 d.2.2.2.2.2.1))),
  AV.r (RV.c (CV.f (FV.i IntKind.u64 d.2.2.2.2.2.2.1))), AV.r (RV.c (CV.f (FV.i IntKind.u64 d.2.2.2.2.2.2.2.1))), AV.r (RV.c (CV.f (FV.i IntKind.u64 d.2.2.2.2.2.2.2.2.1))), AV.und, AV.und, AV.und, AV.und, AV.und, AV.und, AV.und, AV.und, AV.und, AV.und, AV.und,
  AV.und, AV.und, AV.und, AV.und, AV.und, AV.und, AV.und, AV.und, AV.und, AV.und, AV.und, AV.und, AV.und, AV.und, AV.und, AV.und, AV.und, AV.und, AV.und, AV.und, AV.und, AV.und, AV.und, AV.und, AV.und, AV.und, AV.und, AV.und, AV.und, AV.und, AV.und, AV.und, AV.und, AV.und, AV.und, AV.und, AV.und, AV.und,
  AV.und, AV.r (RV.c (CV.f (FV.i IntKind.u64 d.2.2.2.2.2.2.2.2.2.1))), AV.r (RV.c (CV.f (FV.b d.2.2.2.2.2.2.2.2.2.2.1))), AV.r (RV.c (CV.f (FV.b false))), AV.r (RV.c (CV.f (FV.i IntKind.u64 d.2.2.2.2.2.2.2.2.2.1))), AV.r (RV.c (CV.f (FV.i IntKind.u64 d.2.2.2.1))),
  AV.r (RV.c (CV.f (FV.i IntKind.u64 d.2.2.2.2.2.2.2.2.2.2.2.1))), AV.r (RV.c (CV.f (FV.i IntKind.u64 d.2.2.2.2.2.2.2.2.2.2.2.2.1))), AV.r (RV.c (CV.f (FV.i IntKind.u64 d.2.2.2.2.2.2.2.2.2.2.2.2.2.1))), AV.r (RV.c (CV.f (FV.i IntKind.u64 d.2.2.2.2.2.1))),
  AV.r (RV.c (CV.f (FV.i IntKind.u64 d.2.2.2.2.2.2.2.2.2.2.2.2.2.2.1))), AV.r (RV.c (CV.f (FV.b d.2.2.2.2.2.2.2.2.2.2.2.2.2.2.2.1))), AV.r (RV.c (CV.f (FV.b d.2.2.2.2.2.2.2.2.2.2.2.2.2.2.2.1))), AV.r (RV.c (CV.f (FV.i IntKind.u64 d.2.2.2.2.2.2.2.2.2.1))),
  AV.r (RV.c (CV.f (FV.i IntKind.u64 d.2.2.2.2.2.2.2.1))), AV.r (RV.c (CV.f (FV.i IntKind.u64 d.2.2.2.2.2.2.2.2.2.2.2.2.1))), AV.r (RV.c (CV.f (FV.i IntKind.u64 d.2.2.1))), AV.r (RV.c (CV.f (FV.i IntKind.u64 d.2.2.2.2.2.2.2.2.1))), AV.r (RV.c (CV.f (FV.i IntKind.u64 d.2.2.2.2.2.2.2.2.1))),
  AV.r (RV.c (CV.f (FV.b d.2.2.2.2.2.2.2.2.2.2.2.2.2.2.2.2))), AV.und, AV.und, AV.und, AV.und, AV.und, AV.und, AV.und, AV.und, AV.und, AV.und, AV.und, AV.und, AV.und, AV.und, AV.und, AV.und, AV.und, AV.und, AV.und, AV.tup [], AV.tup [], AV.tup [], AV.tup [], AV.tup [], AV.tup [],
  AV.tup [], AV.tup [], AV.und, AV.und, AV.und, AV.und, AV.und, AV.und, AV.und, AV.und, AV.und, AV.und, AV.und, AV.und, AV.und, AV.und, AV.und, AV.und, AV.und, AV.und, AV.und, AV.und, AV.und, AV.und] [] [])) (fun d => K (AX.ex 0) (St.mk [AV.und, AV.und, AV.r (RV.c (CV.f (FV.i IntKind.u64 d.1))), AV.und,
  AV.und, AV.und, AV.und, AV.und, AV.r (RV.c (CV.f (FV.i IntKind.u64 d.2.1))), AV.r (RV.c (CV.f (FV.i IntKind.u64 d.2.2.1))), AV.r (RV.c (CV.f (FV.i IntKind.u64 d.2.2.2.1))), AV.r (RV.c (CV.f (FV.i IntKind.u64 d.2.2.2.2.1))), AV.und, AV.r (RV.c (CV.f (FV.i IntKind.u64 d.2.2.2.2.2.1))),
  AV.r (RV.c (CV.f (FV.i IntKind.u64 d.2.2.2.2.2.2.1))), AV.r (RV.c (CV.f (FV.i IntKind.u64 d.2.2.2.2.2.2.2.1))), AV.r (RV.c (CV.f (FV.i IntKind.u64 d.2.2.2.2.2.2.2.2.1))), AV.und, AV.und, AV.und, AV.und, AV.und, AV.und, AV.und, AV.und, AV.und, AV.und, AV.und,
  AV.und, AV.und, AV.und, AV.und, AV.und, AV.und, AV.und, AV.und, AV.und, AV.und, AV.und, AV.und, AV.und, AV.und, AV.und, AV.und, AV.und, AV.und, AV.und, AV.und, AV.und, AV.und, AV.und, AV.und, AV.und, AV.und, AV.und, AV.und, AV.und, AV.und, AV.und, AV.und, AV.und, AV.und, AV.und, AV.und, AV.und, AV.und,
  AV.und, AV.r (RV.c (CV.f (FV.i IntKind.u64 d.2.2.2.2.2.2.2.1))), AV.r (RV.c (CV.f (FV.b d.2.2.2.2.2.2.2.2.2.1))), AV.r (RV.c (CV.f (FV.b false))), AV.r (RV.c (CV.f (FV.i IntKind.u64 d.2.2.2.2.2.2.2.1))), AV.r (RV.c (CV.f (FV.i IntKind.u64 d.2.2.2.1))),
  AV.r (RV.c (CV.f (FV.i IntKind.u64 d.2.2.2.2.2.2.2.2.2.2.1))), AV.r (RV.c (CV.f (FV.i IntKind.u64 d.2.2.2.2.2.2.2.2.1))), AV.r (RV.c (CV.f (FV.i IntKind.u64 d.2.2.2.2.2.2.2.2.2.2.2.1))), AV.r (RV.c (CV.f (FV.i IntKind.u64 d.2.2.2.2.2.1))),
  AV.r (RV.c (CV.f (FV.i IntKind.u64 d.2.2.2.2.2.2.2.2.2.2.2.2.1))), AV.r (RV.c (CV.f (FV.b d.2.2.2.2.2.2.2.2.2.2.2.2.2))), AV.r (RV.c (CV.f (FV.b d.2.2.2.2.2.2.2.2.2.2.2.2.2))), AV.und, AV.und, AV.und, AV.und, AV.und, AV.und,
  AV.und, AV.und, AV.und, AV.und, AV.und, AV.und, AV.und, AV.und, AV.und, AV.und, AV.und, AV.und, AV.und, AV.und, AV.und, AV.und, AV.und, AV.und, AV.und, AV.und, AV.tup [], AV.tup [], AV.tup [], AV.tup [], AV.tup [], AV.tup [], AV.tup [], AV.tup [], AV.und, AV.und, AV.und, AV.und, AV.und, AV.und, AV.und,
  AV.und, AV.und, AV.und, AV.und, AV.und, AV.und, AV.und, AV.und, AV.und, AV.und, AV.und, AV.und, AV.und, AV.und, AV.und] [] [])))) := iter_loopX (emb := fun (d : Int × Int × Int × Int × Int × Int × Int × Int × Int) => St.mk [AV.und, AV.und, AV.r (RV.c (CV.f (FV.i IntKind.u64 d.1))), AV.und, AV.und,
  AV.und, AV.und, AV.und, AV.r (RV.c (CV.f (FV.i IntKind.u64 d.2.1))), AV.r (RV.c (CV.f (FV.i IntKind.u64 d.2.2.1))), AV.r (RV.c (CV.f (FV.i IntKind.u64 d.2.2.2.1))), AV.r (RV.c (CV.f (FV.i IntKind.u64 d.2.2.2.2.1))), AV.und, AV.r (RV.c (CV.f (FV.i IntKind.u64 d.2.2.2.2.2.1))),
  AV.r (RV.c (CV.f (FV.i IntKind.u64 d.2.2.2.2.2.2.1))), AV.r (RV.c (CV.f (FV.i IntKind.u64 d.2.2.2.2.2.2.2.1))), AV.r (RV.c (CV.f (FV.i IntKind.u64 d.2.2.2.2.2.2.2.2))), AV.und, AV.und, AV.und, AV.und, AV.und, AV.und, AV.und, AV.und, AV.und, AV.und, AV.und,
  AV.und, AV.und, AV.und, AV.und, AV.und, AV.und, AV.und, AV.und, AV.und, AV.und, AV.und, AV.und, AV.und, AV.und, AV.und, AV.und, AV.und, AV.und, AV.und, AV.und, AV.und, AV.und, AV.und, AV.und, AV.und, AV.und, AV.und, AV.und, AV.und, AV.und, AV.und, AV.und, AV.und, AV.und, AV.und, AV.und, AV.und, AV.und,
  AV.und, AV.und, AV.und, AV.und, AV.und, AV.und, AV.und, AV.und, AV.und, AV.und, AV.und, AV.und, AV.und, AV.und, AV.und, AV.und, AV.und, AV.und, AV.und, AV.und, AV.und, AV.und, AV.und, AV.und, AV.und, AV.und, AV.und, AV.und, AV.und, AV.und, AV.und, AV.und, AV.und, AV.und, AV.und, AV.und, AV.und, AV.und,
  AV.und, AV.tup [], AV.tup [], AV.tup [], AV.tup [], AV.tup [], AV.tup [], AV.tup [], AV.tup [], AV.und, AV.und, AV.und, AV.und, AV.und, AV.und, AV.und, AV.und, AV.und, AV.und, AV.und, AV.und, AV.und, AV.und, AV.und, AV.und, AV.und, AV.und, AV.und, AV.und, AV.und, AV.und] [] []) (step := fun d c x => S_math_bits_Div64_0 f_math_bits_LeadingZeros64 d.1 d.2.1 d.2.2.1 d.2.2.2.1 d.2.2.2.2.1 d.2.2.2.2.2.1 d.2.2.2.2.2.2.1 d.2.2.2.2.2.2.2.1 d.2.2.2.2.2.2.2.2 c x) (kx := (Sum.elim (fun d => K (AX.ex 0) (St.mk [AV.und,
  AV.und, AV.r (RV.c (CV.f (FV.i IntKind.u64 d.1))), AV.und, AV.und, AV.und, AV.und, AV.und, AV.r (RV.c (CV.f (FV.i IntKind.u64 d.2.1))), AV.r (RV.c (CV.f (FV.i IntKind.u64 d.2.2.1))), AV.r (RV.c (CV.f (FV.i IntKind.u64 d.2.2.2.1))), AV.r (RV.c (CV.f (FV.i IntKind.u64 d.2.2.2.2.1))),
  AV.und, AV.r (RV.c (CV.f (FV.i IntKind.u64 d.2.2.2.2.2.1))), AV.r (RV.c (CV.f (FV.i IntKind.u64 d.2.2.2.2.2.2.1))), AV.r (RV.c (CV.f (FV.i IntKind.u64 d.2.2.2.2.2.2.2.1))), AV.r (RV.c (CV.f (FV.i IntKind.u64 d.2.2.2.2.2.2.2.2.1))), AV.und, AV.und,
  AV.und, AV.und, AV.und, AV.und, AV.und, AV.und, AV.und, AV.und, AV.und, AV.und, AV.und, AV.und, AV.und, AV.und, AV.und, AV.und, AV.und, AV.und, AV.und, AV.und, AV.und, AV.und, AV.und, AV.und, AV.und, AV.und, AV.und, AV.und, AV.und, AV.und, AV.und, AV.und, AV.und, AV.und, AV.und, AV.und, AV.und, AV.und,
  AV.und, AV.und, AV.und, AV.und, AV.und, AV.und, AV.und, AV.und, AV.und, AV.und, AV.r (RV.c (CV.f (FV.i IntKind.u64 d.2.2.2.2.2.2.2.2.2.1))), AV.r (RV.c (CV.f (FV.b d.2.2.2.2.2.2.2.2.2.2.1))), AV.r (RV.c (CV.f (FV.b true))), AV.tup [], AV.tup [], AV.tup [], AV.tup [],
  AV.tup [], AV.tup [], AV.tup [], AV.tup [], AV.r (RV.c (CV.f (FV.b true))), AV.r (RV.c (CV.f (FV.i IntKind.u64 d.2.2.2.2.2.2.2.2.2.1))), AV.r (RV.c (CV.f (FV.i IntKind.u64 d.2.2.2.2.2.2.2.1))), AV.r (RV.c (CV.f (FV.i IntKind.u64 d.2.2.2.2.2.2.2.2.2.2.2.1))),
  AV.r (RV.c (CV.f (FV.i IntKind.u64 d.2.2.1))), AV.r (RV.c (CV.f (FV.i IntKind.u64 d.2.2.2.2.2.2.2.2.1))), AV.r (RV.c (CV.f (FV.i IntKind.u64 d.2.2.2.2.2.2.2.2.1))), AV.r (RV.c (CV.f (FV.b d.2.2.2.2.2.2.2.2.2.2.2.2))), AV.und, AV.und, AV.und,
  AV.und, AV.und, AV.und, AV.und, AV.und, AV.und, AV.und, AV.und, AV.und, AV.und, AV.und, AV.und, AV.und, AV.und, AV.und, AV.und, AV.tup [], AV.tup [], AV.tup [], AV.tup [], AV.tup [], AV.tup [], AV.tup [], AV.tup [], AV.und, AV.und, AV.und, AV.und, AV.und, AV.und, AV.und, AV.und, AV.und, AV.und, AV.und,
  AV.und, AV.und, AV.und, AV.und, AV.und, AV.und, AV.und, AV.und, AV.und, AV.und, AV.und] [] [])) (Sum.elim (fun d => K (AX.ex 0) (St.mk [AV.und, AV.und, AV.r (RV.c (CV.f (FV.i IntKind.u64 d.1))), AV.und, AV.und, AV.und, AV.und, AV.und, AV.r (RV.c (CV.f (FV.i IntKind.u64 d.2.1))), AV.r (RV.c (CV.f (FV.i IntKind.u64 d.2.2.1))),
  AV.r (RV.c (CV.f (FV.i IntKind.u64 d.2.2.2.1))), AV.r (RV.c (CV.f (FV.i IntKind.u64 d.2.2.2.2.1))), AV.und, AV.r (RV.c (CV.f (FV.i IntKind.u64 d.2.2.2.2.2.1))), AV.r (RV.c (CV.f (FV.i IntKind.u64 d.2.2.2.2.2.2.1))), AV.r (RV.c (CV.f (FV.i IntKind.u64 d.2.2.2.2.2.2.2.1))),
  AV.r (RV.c (CV.f (FV.i IntKind.u64 d.2.2.2.2.2.2.2.2.1))), AV.und, AV.und, AV.und, AV.und, AV.und, AV.und, AV.und, AV.und, AV.und, AV.und, AV.und, AV.und, AV.und, AV.und, AV.und, AV.und, AV.und, AV.und, AV.und, AV.und, AV.und, AV.und, AV.und, AV.und, AV.und, AV.und, AV.und, AV.und,
  AV.und, AV.und, AV.und, AV.und, AV.und, AV.und, AV.und, AV.und, AV.und, AV.und, AV.und, AV.und, AV.und, AV.und, AV.und, AV.und, AV.und, AV.und, AV.und, AV.und, AV.und, AV.und, AV.r (RV.c (CV.f (FV.i IntKind.u64 d.2.2.2.2.2.2.2.2.2.1))), AV.r (RV.c (CV.f (FV.b d.2.2.2.2.2.2.2.2.2.2.1))),
  AV.r (RV.c (CV.f (FV.b false))), AV.r (RV.c (CV.f (FV.i IntKind.u64 d.2.2.2.2.2.2.2.2.2.1))), AV.r (RV.c (CV.f (FV.i IntKind.u64 d.2.2.2.1))), AV.r (RV.c (CV.f (FV.i IntKind.u64 d.2.2.2.2.2.2.2.2.2.2.2.1))), AV.r (RV.c (CV.f (FV.i IntKind.u64 d.2.2.2.2.2.2.2.2.2.2.2.2.1))),
  AV.r (RV.c (CV.f (FV.i IntKind.u64 d.2.2.2.2.2.2.2.2.2.2.2.2.2.1))), AV.r (RV.c (CV.f (FV.i IntKind.u64 d.2.2.2.2.2.1))), AV.r (RV.c (CV.f (FV.i IntKind.u64 d.2.2.2.2.2.2.2.2.2.2.2.2.2.2.1))), AV.r (RV.c (CV.f (FV.b d.2.2.2.2.2.2.2.2.2.2.2.2.2.2.2.1))),
  AV.r (RV.c (CV.f (FV.b d.2.2.2.2.2.2.2.2.2.2.2.2.2.2.2.1))), AV.r (RV.c (CV.f (FV.i IntKind.u64 d.2.2.2.2.2.2.2.2.2.1))), AV.r (RV.c (CV.f (FV.i IntKind.u64 d.2.2.2.2.2.2.2.1))), AV.r (RV.c (CV.f (FV.i IntKind.u64 d.2.2.2.2.2.2.2.2.2.2.2.2.1))),
  AV.r (RV.c (CV.f (FV.i IntKind.u64 d.2.2.1))), AV.r (RV.c (CV.f (FV.i IntKind.u64 d.2.2.2.2.2.2.2.2.1))), AV.r (RV.c (CV.f (FV.i IntKind.u64 d.2.2.2.2.2.2.2.2.1))), AV.r (RV.c (CV.f (FV.b d.2.2.2.2.2.2.2.2.2.2.2.2.2.2.2.2))), AV.und,
  AV.und, AV.und, AV.und, AV.und, AV.und, AV.und, AV.und, AV.und, AV.und, AV.und, AV.und, AV.und, AV.und, AV.und, AV.und, AV.und, AV.und, AV.und, AV.tup [], AV.tup [], AV.tup [], AV.tup [], AV.tup [], AV.tup [], AV.tup [], AV.tup [], AV.und, AV.und, AV.und, AV.und, AV.und, AV.und, AV.und, AV.und, AV.und,
  AV.und, AV.und, AV.und, AV.und, AV.und, AV.und, AV.und, AV.und, AV.und, AV.und, AV.und, AV.und, AV.und] [] [])) (fun d => K (AX.ex 0) (St.mk [AV.und, AV.und, AV.r (RV.c (CV.f (FV.i IntKind.u64 d.1))), AV.und, AV.und, AV.und, AV.und, AV.und, AV.r (RV.c (CV.f (FV.i IntKind.u64 d.2.1))), AV.r (RV.c (CV.f (FV.i IntKind.u64 d.2.2.1))),
  AV.r (RV.c (CV.f (FV.i IntKind.u64 d.2.2.2.1))), AV.r (RV.c (CV.f (FV.i IntKind.u64 d.2.2.2.2.1))), AV.und, AV.r (RV.c (CV.f (FV.i IntKind.u64 d.2.2.2.2.2.1))), AV.r (RV.c (CV.f (FV.i IntKind.u64 d.2.2.2.2.2.2.1))), AV.r (RV.c (CV.f (FV.i IntKind.u64 d.2.2.2.2.2.2.2.1))),
  AV.r (RV.c (CV.f (FV.i IntKind.u64 d.2.2.2.2.2.2.2.2.1))), AV.und, AV.und, AV.und, AV.und, AV.und, AV.und, AV.und, AV.und, AV.und, AV.und, AV.und, AV.und, AV.und, AV.und, AV.und, AV.und, AV.und, AV.und, AV.und, AV.und, AV.und, AV.und, AV.und, AV.und, AV.und, AV.und, AV.und, AV.und,
  AV.und, AV.und, AV.und, AV.und, AV.und, AV.und, AV.und, AV.und, AV.und, AV.und, AV.und, AV.und, AV.und, AV.und, AV.und, AV.und, AV.und, AV.und, AV.und, AV.und, AV.und, AV.und, AV.r (RV.c (CV.f (FV.i IntKind.u64 d.2.2.2.2.2.2.2.1))), AV.r (RV.c (CV.f (FV.b d.2.2.2.2.2.2.2.2.2.1))),
  AV.r (RV.c (CV.f (FV.b false))), AV.r (RV.c (CV.f (FV.i IntKind.u64 d.2.2.2.2.2.2.2.1))), AV.r (RV.c (CV.f (FV.i IntKind.u64 d.2.2.2.1))), AV.r (RV.c (CV.f (FV.i IntKind.u64 d.2.2.2.2.2.2.2.2.2.2.1))), AV.r (RV.c (CV.f (FV.i IntKind.u64 d.2.2.2.2.2.2.2.2.1))),
  AV.r (RV.c (CV.f (FV.i IntKind.u64 d.2.2.2.2.2.2.2.2.2.2.2.1))), AV.r (RV.c (CV.f (FV.i IntKind.u64 d.2.2.2.2.2.1))), AV.r (RV.c (CV.f (FV.i IntKind.u64 d.2.2.2.2.2.2.2.2.2.2.2.2.1))), AV.r (RV.c (CV.f (FV.b d.2.2.2.2.2.2.2.2.2.2.2.2.2))),
  AV.r (RV.c (CV.f (FV.b d.2.2.2.2.2.2.2.2.2.2.2.2.2))), AV.und, AV.und, AV.und, AV.und, AV.und, AV.und, AV.und, AV.und, AV.und, AV.und, AV.und, AV.und, AV.und, AV.und, AV.und, AV.und, AV.und, AV.und, AV.und, AV.und, AV.und, AV.und, AV.und, AV.und, AV.und, AV.und, AV.tup [], AV.tup [],
  AV.tup [], AV.tup [], AV.tup [], AV.tup [], AV.tup [], AV.tup [], AV.und, AV.und, AV.und, AV.und, AV.und, AV.und, AV.und, AV.und, AV.und, AV.und, AV.und, AV.und, AV.und, AV.und, AV.und, AV.und, AV.und, AV.und, AV.und, AV.und, AV.und, AV.und] [] []))))) (fun d c => ds_math_bits_Div64_0 f_math_bits_LeadingZeros64 (@L_math_bits_Div64_0) (@L_math_bits_Div64_1) d.1 d.2.1 d.2.2.1 d.2.2.2.1 d.2.2.2.2.1 d.2.2.2.2.2.1 d.2.2.2.2.2.2.1 d.2.2.2.2.2.2.2.1 d.2.2.2.2.2.2.2.2 c K) 200 (x0,
  x1, x2, x3, x4, x5, x6, x7, x8)
theorem so_math_bits_Div64_0 [Amb] : ∀ kk, SumOK Try.prog (envOf [(94, F_math_bits_LeadingZeros64 f_math_bits_LeadingZeros64)]) ⟨[⟨17, [0, 1, 3, 4, 5, 6, 7, 12, 17, 18, 19, 20, 21, 22, 23, 24, 25, 26, 27, 28, 29, 30, 31, 32, 33, 34, 35, 36, 37, 38, 39, 40, 41, 42, 43, 44, 45, 46, 47, 48, 49, 50,
  51, 52, 53, 54, 55, 56, 57, 58, 59, 60, 61, 62, 63, 64, 65, 66, 67, 68, 69, 78, 79, 80, 81, 82, 83, 84, 85, 86, 87, 88, 89, 90, 91, 92, 93, 94, 95, 96, 97, 98, 99, 100, 101, 102, 103, 104, 113, 114, 115, 116, 117, 118, 119, 120, 121, 122, 123, 124, 125, 126, 127, 128, 129, 130, 131, 132, 133, 134, 70,
  71, 72, 73, 74, 75, 76, 77], []⟩, ⟨24, [0, 1, 3, 4, 5, 6, 7, 11, 12, 13, 19, 20, 21, 22, 23, 24, 25, 26, 27, 28, 29, 30, 31, 32, 33, 34, 35, 36, 37, 38, 39, 40, 41, 42, 43, 44, 45, 46, 47, 48, 49, 50, 51, 52, 53, 54, 55, 56, 57, 58, 59, 60, 61, 62, 63, 64, 65, 66, 67, 68, 69, 70, 71, 72, 73, 74, 75,
  76, 77, 78, 79, 80, 81, 82, 83, 84, 85, 86, 87, 88, 89, 90, 91, 92, 93, 94, 95, 96, 97, 98, 99, 100, 101, 102, 103, 104, 113, 114, 115, 116, 117, 118, 119, 120, 121, 122, 123, 124, 125, 126, 127, 128, 129, 130, 131, 132, 133, 134, 105, 106, 107, 108, 109, 110, 111, 112], []⟩], [⟨17, 0, @R_math_bits_Div64_0 (@L_math_bits_Div64_0)⟩,
  ⟨24, 0, @R_math_bits_Div64_1 (@L_math_bits_Div64_1)⟩], [], [], (some ⟨0, [0, 1, 2, 3, 4, 5, 8, 9, 10, 11, 12, 13, 14, 15, 16, 17, 18, 19, 20, 21, 22, 23, 24, 25, 26, 27, 28, 29, 30, 31, 32, 33, 34, 35, 36, 37, 38, 39, 40, 41, 42, 43, 44, 45, 46, 47, 48, 49, 50, 51, 52, 53, 54, 55, 56, 57, 58, 59, 60,
  61, 62, 63, 64, 65, 66, 67, 68, 69, 70, 71, 72, 73, 74, 75, 76, 77, 78, 79, 80, 81, 82, 83, 84, 85, 86, 87, 88, 89, 90, 91, 92, 93, 94, 95, 96, 97, 98, 99, 100, 101, 102, 103, 104, 105, 106, 107, 108, 109, 110, 111, 112, 113, 114, 115, 116, 117, 118, 119, 120, 121, 122, 123, 124, 125, 126, 127, 128,
  129, 130, 131, 132, 133, 134], []⟩)⟩ (tmpsOf Try.prog 90) kk 200 (loopIn Try.prog 90 17) := SumOK.of (id := 17) (k0 := 0) (run := @R_math_bits_Div64_0 (@L_math_bits_Div64_0)) (by kernel_rfl) fun s K r hr => by
    unfold R_math_bits_Div64_0 at hr
    obtain ⟨b, hb, hr1⟩ := Option.bind_eq_some_iff.1 hr
    have e := ((Q_math_bits_Div64_0).ok s b hb).trans (q_math_bits_Div64_0 b)
    subst e
    exact ⟨200, (it_math_bits_Div64_0 b.1.2.2.1 b.1.2.2.2.2.2.2.2.2.1 b.1.2.2.2.2.2.2.2.2.2.1 b.1.2.2.2.2.2.2.2.2.2.2.1 b.1.2.2.2.2.2.2.2.2.2.2.2.1 b.1.2.2.2.2.2.2.2.2.2.2.2.2.2.1 b.1.2.2.2.2.2.2.2.2.2.2.2.2.2.2.1 b.1.2.2.2.2.2.2.2.2.2.2.2.2.2.2.2.1 b.1.2.2.2.2.2.2.2.2.2.2.2.2.2.2.2.2.1 K).trans hr1⟩
theorem ds_math_bits_Div64_1 {ρ : Type} (g_math_bits_LeadingZeros64 : Int → Option Int) (l_0 : ∀ {ρ : Type}, (Int × Int × Int × Int × Int × Int × Int × Int × Int) → ((Int × Int × Int × Int × Int × Int × Int × Int × Int × Int × Bool × Int × Bool ⊕ Int × Int × Int × Int × Int × Int × Int × Int × Int ×
  Int × Bool × Int × Int × Int × Int × Bool × Bool ⊕ Int × Int × Int × Int × Int × Int × Int × Int × Int × Bool × Int × Int × Int × Bool) → Option ρ) → Option ρ) (l_1 : ∀ {ρ : Type}, (Int × Int × Int × Int × Int × Int × Int × Int × Int) → ((Int × Int × Int × Int × Int × Int × Int × Int × Int × Int × Bool ×
  Int × Bool ⊕ Int × Int × Int × Int × Int × Int × Int × Int × Int × Int × Bool × Int × Int × Int × Int × Bool × Bool ⊕ Int × Int × Int × Int × Int × Int × Int × Int × Int × Bool × Int × Int × Int × Bool) → Option ρ) → Option ρ) (x0 : Int) (x1 : Int) (x2 : Int) (x3 : Int) (x4 : Int) (x5 : Int) (x6 : Int) (x7 : Int) (x8 : Int) (c : St →
  Option ρ) (K : AX → St → Option ρ) : runC Try.prog (envOf [(94, F_math_bits_LeadingZeros64 g_math_bits_LeadingZeros64)]) ⟨[⟨17, [0, 1, 3, 4, 5, 6, 7, 12, 17, 18, 19, 20, 21, 22, 23, 24, 25, 26, 27, 28, 29, 30, 31, 32, 33, 34, 35, 36, 37, 38, 39, 40, 41, 42, 43, 44, 45, 46, 47, 48, 49, 50, 51, 52,
  53, 54, 55, 56, 57, 58, 59, 60, 61, 62, 63, 64, 65, 66, 67, 68, 69, 78, 79, 80, 81, 82, 83, 84, 85, 86, 87, 88, 89, 90, 91, 92, 93, 94, 95, 96, 97, 98, 99, 100, 101, 102, 103, 104, 113, 114, 115, 116, 117, 118, 119, 120, 121, 122, 123, 124, 125, 126, 127, 128, 129, 130, 131, 132, 133, 134, 70, 71, 72,
  73, 74, 75, 76, 77], []⟩, ⟨24, [0, 1, 3, 4, 5, 6, 7, 11, 12, 13, 19, 20, 21, 22, 23, 24, 25, 26, 27, 28, 29, 30, 31, 32, 33, 34, 35, 36, 37, 38, 39, 40, 41, 42, 43, 44, 45, 46, 47, 48, 49, 50, 51, 52, 53, 54, 55, 56, 57, 58, 59, 60, 61, 62, 63, 64, 65, 66, 67, 68, 69, 70, 71, 72, 73, 74, 75, 76, 77,
  78, 79, 80, 81, 82, 83, 84, 85, 86, 87, 88, 89, 90, 91, 92, 93, 94, 95, 96, 97, 98, 99, 100, 101, 102, 103, 104, 113, 114, 115, 116, 117, 118, 119, 120, 121, 122, 123, 124, 125, 126, 127, 128, 129, 130, 131, 132, 133, 134, 105, 106, 107, 108, 109, 110, 111, 112], []⟩], [⟨17, 0, @R_math_bits_Div64_0 (@l_0)⟩,
  ⟨24, 0, @R_math_bits_Div64_1 (@l_1)⟩], [], [], (some ⟨0, [0, 1, 2, 3, 4, 5, 8, 9, 10, 11, 12, 13, 14, 15, 16, 17, 18, 19, 20, 21, 22, 23, 24, 25, 26, 27, 28, 29, 30, 31, 32, 33, 34, 35, 36, 37, 38, 39, 40, 41, 42, 43, 44, 45, 46, 47, 48, 49, 50, 51, 52, 53, 54, 55, 56, 57, 58, 59, 60, 61, 62, 63, 64,
  65, 66, 67, 68, 69, 70, 71, 72, 73, 74, 75, 76, 77, 78, 79, 80, 81, 82, 83, 84, 85, 86, 87, 88, 89, 90, 91, 92, 93, 94, 95, 96, 97, 98, 99, 100, 101, 102, 103, 104, 105, 106, 107, 108, 109, 110, 111, 112, 113, 114, 115, 116, 117, 118, 119, 120, 121, 122, 123, 124, 125, 126, 127, 128, 129, 130, 131, 132,
  133, 134], []⟩)⟩ (tmpsOf Try.prog 90) 0 200 (loopIn Try.prog 90 24) (St.mk [AV.und, AV.und, AV.r (RV.c (CV.f (FV.i IntKind.u64 x0))), AV.und, AV.und, AV.und, AV.und, AV.und, AV.r (RV.c (CV.f (FV.i IntKind.u64 x1))), AV.r (RV.c (CV.f (FV.i IntKind.u64 x2))), AV.r (RV.c (CV.f (FV.i IntKind.u64 x3))),
  AV.und, AV.und, AV.und, AV.r (RV.c (CV.f (FV.i IntKind.u64 x4))), AV.r (RV.c (CV.f (FV.i IntKind.u64 x5))), AV.r (RV.c (CV.f (FV.i IntKind.u64 x6))), AV.r (RV.c (CV.f (FV.i IntKind.u64 x7))), AV.r (RV.c (CV.f (FV.i IntKind.u64 x8))), AV.und, AV.und, AV.und, AV.und, AV.und, AV.und, AV.und, AV.und, AV.und,
  AV.und, AV.und, AV.und, AV.und, AV.und, AV.und, AV.und, AV.und, AV.und, AV.und, AV.und, AV.und, AV.und, AV.und, AV.und, AV.und, AV.und, AV.und, AV.und, AV.und, AV.und, AV.und, AV.und, AV.und, AV.und, AV.und, AV.und, AV.und, AV.und, AV.und, AV.und, AV.und, AV.und, AV.und, AV.und, AV.und, AV.und, AV.und,
  AV.und, AV.und, AV.und, AV.und, AV.und, AV.und, AV.und, AV.und, AV.und, AV.und, AV.und, AV.und, AV.und, AV.und, AV.und, AV.und, AV.und, AV.und, AV.und, AV.und, AV.und, AV.und, AV.und, AV.und, AV.und, AV.und, AV.und, AV.und, AV.und, AV.und, AV.und, AV.und, AV.und, AV.und, AV.und, AV.und, AV.und, AV.und,
  AV.und, AV.und, AV.und, AV.und, AV.und, AV.und, AV.und, AV.und, AV.und, AV.und, AV.und, AV.und, AV.und, AV.und, AV.und, AV.und, AV.und, AV.und, AV.und, AV.und, AV.und, AV.und, AV.und, AV.und, AV.und, AV.und, AV.und, AV.und, AV.und, AV.und, AV.und] [] []) (next (fun t => t.head 0 ⟨[⟨17, [0, 1, 3, 4, 5,
  6, 7, 12, 17, 18, 19, 20, 21, 22, 23, 24, 25, 26, 27, 28, 29, 30, 31, 32, 33, 34, 35, 36, 37, 38, 39, 40, 41, 42, 43, 44, 45, 46, 47, 48, 49, 50, 51, 52, 53, 54, 55, 56, 57, 58, 59, 60, 61, 62, 63, 64, 65, 66, 67, 68, 69, 78, 79, 80, 81, 82, 83, 84, 85, 86, 87, 88, 89, 90, 91, 92, 93, 94, 95, 96, 97,
  98, 99, 100, 101, 102, 103, 104, 113, 114, 115, 116, 117, 118, 119, 120, 121, 122, 123, 124, 125, 126, 127, 128, 129, 130, 131, 132, 133, 134, 70, 71, 72, 73, 74, 75, 76, 77], []⟩, ⟨24, [0, 1, 3, 4, 5, 6, 7, 11, 12, 13, 19, 20, 21, 22, 23, 24, 25, 26, 27, 28, 29, 30, 31, 32, 33, 34, 35, 36, 37, 38, 39,
  40, 41, 42, 43, 44, 45, 46, 47, 48, 49, 50, 51, 52, 53, 54, 55, 56, 57, 58, 59, 60, 61, 62, 63, 64, 65, 66, 67, 68, 69, 70, 71, 72, 73, 74, 75, 76, 77, 78, 79, 80, 81, 82, 83, 84, 85, 86, 87, 88, 89, 90, 91, 92, 93, 94, 95, 96, 97, 98, 99, 100, 101, 102, 103, 104, 113, 114, 115, 116, 117, 118, 119, 120,
  121, 122, 123, 124, 125, 126, 127, 128, 129, 130, 131, 132, 133, 134, 105, 106, 107, 108, 109, 110, 111, 112], []⟩], [⟨17, 0, @R_math_bits_Div64_0 (@l_0)⟩, ⟨24, 0, @R_math_bits_Div64_1 (@l_1)⟩], [], [], (some ⟨0, [0, 1, 2, 3, 4, 5, 8, 9, 10, 11, 12, 13, 14, 15, 16, 17, 18, 19, 20, 21, 22, 23, 24, 25,
  26, 27, 28, 29, 30, 31, 32, 33, 34, 35, 36, 37, 38, 39, 40, 41, 42, 43, 44, 45, 46, 47, 48, 49, 50, 51, 52, 53, 54, 55, 56, 57, 58, 59, 60, 61, 62, 63, 64, 65, 66, 67, 68, 69, 70, 71, 72, 73, 74, 75, 76, 77, 78, 79, 80, 81, 82, 83, 84, 85, 86, 87, 88, 89, 90, 91, 92, 93, 94, 95, 96, 97, 98, 99, 100,
  101, 102, 103, 104, 105, 106, 107, 108, 109, 110, 111, 112, 113, 114, 115, 116, 117, 118, 119, 120, 121, 122, 123, 124, 125, 126, 127, 128, 129, 130, 131, 132, 133, 134], []⟩)⟩ (loopIn Try.prog 90 24)) c K) = S_math_bits_Div64_1 g_math_bits_LeadingZeros64 x0 x1 x2 x3 x4 x5 x6 x7 x8 (fun d => c (St.mk [AV.und,
  AV.und, AV.r (RV.c (CV.f (FV.i IntKind.u64 d.1))), AV.und, AV.und, AV.und, AV.und, AV.und, AV.r (RV.c (CV.f (FV.i IntKind.u64 d.2.1))), AV.r (RV.c (CV.f (FV.i IntKind.u64 d.2.2.1))), AV.r (RV.c (CV.f (FV.i IntKind.u64 d.2.2.2.1))), AV.und, AV.und, AV.und, AV.r (RV.c (CV.f (FV.i IntKind.u64 d.2.2.2.2.1))),
  AV.r (RV.c (CV.f (FV.i IntKind.u64 d.2.2.2.2.2.1))), AV.r (RV.c (CV.f (FV.i IntKind.u64 d.2.2.2.2.2.2.1))), AV.r (RV.c (CV.f (FV.i IntKind.u64 d.2.2.2.2.2.2.2.1))), AV.r (RV.c (CV.f (FV.i IntKind.u64 d.2.2.2.2.2.2.2.2))), AV.und, AV.und, AV.und,
  AV.und, AV.und, AV.und, AV.und, AV.und, AV.und, AV.und, AV.und, AV.und, AV.und, AV.und, AV.und, AV.und, AV.und, AV.und, AV.und, AV.und, AV.und, AV.und, AV.und, AV.und, AV.und, AV.und, AV.und, AV.und, AV.und, AV.und, AV.und, AV.und, AV.und, AV.und, AV.und, AV.und, AV.und, AV.und, AV.und, AV.und, AV.und,
  AV.und, AV.und, AV.und, AV.und, AV.und, AV.und, AV.und, AV.und, AV.und, AV.und, AV.und, AV.und, AV.und, AV.und, AV.und, AV.und, AV.und, AV.und, AV.und, AV.und, AV.und, AV.und, AV.und, AV.und, AV.und, AV.und, AV.und, AV.und, AV.und, AV.und, AV.und, AV.und, AV.und, AV.und, AV.und, AV.und, AV.und, AV.und,
  AV.und, AV.und, AV.und, AV.und, AV.und, AV.und, AV.und, AV.und, AV.und, AV.und, AV.und, AV.und, AV.und, AV.und, AV.und, AV.und, AV.und, AV.und, AV.und, AV.und, AV.und, AV.und, AV.und, AV.und, AV.und, AV.und, AV.und, AV.und, AV.und, AV.und, AV.und, AV.und, AV.und, AV.und, AV.und, AV.und, AV.und] [] [])) (Sum.elim (fun d => K (AX.ex 2) (St.mk [AV.und,
  AV.und, AV.r (RV.c (CV.f (FV.i IntKind.u64 d.1))), AV.und, AV.und, AV.und, AV.und, AV.und, AV.r (RV.c (CV.f (FV.i IntKind.u64 d.2.1))), AV.r (RV.c (CV.f (FV.i IntKind.u64 d.2.2.1))), AV.r (RV.c (CV.f (FV.i IntKind.u64 d.2.2.2.1))), AV.und, AV.und, AV.und, AV.r (RV.c (CV.f (FV.i IntKind.u64 d.2.2.2.2.1))),
  AV.r (RV.c (CV.f (FV.i IntKind.u64 d.2.2.2.2.2.1))), AV.r (RV.c (CV.f (FV.i IntKind.u64 d.2.2.2.2.2.2.1))), AV.r (RV.c (CV.f (FV.i IntKind.u64 d.2.2.2.2.2.2.2.1))), AV.r (RV.c (CV.f (FV.i IntKind.u64 d.2.2.2.2.2.2.2.2.1))), AV.und, AV.und, AV.und,
  AV.und, AV.und, AV.und, AV.und, AV.und, AV.und, AV.und, AV.und, AV.und, AV.und, AV.und, AV.und, AV.und, AV.und, AV.und, AV.und, AV.und, AV.und, AV.und, AV.und, AV.und, AV.und, AV.und, AV.und, AV.und, AV.und, AV.und, AV.und, AV.und, AV.und, AV.und, AV.und, AV.und, AV.und, AV.und, AV.und, AV.und, AV.und,
  AV.und, AV.und, AV.und, AV.und, AV.und, AV.und, AV.und, AV.und, AV.und, AV.und, AV.und, AV.und, AV.und, AV.und, AV.und, AV.und, AV.und, AV.und, AV.und, AV.und, AV.und, AV.und, AV.und, AV.und, AV.und, AV.und, AV.und, AV.und, AV.und, AV.und, AV.und, AV.und, AV.und, AV.und, AV.und, AV.und, AV.und, AV.und,
  AV.und, AV.und, AV.und, AV.und, AV.r (RV.c (CV.f (FV.i IntKind.u64 d.2.2.2.2.2.2.2.2.2.1))), AV.r (RV.c (CV.f (FV.b d.2.2.2.2.2.2.2.2.2.2.1))), AV.r (RV.c (CV.f (FV.b true))), AV.tup [], AV.tup [], AV.tup [], AV.tup [], AV.tup [], AV.tup [], AV.tup [], AV.tup [],
  AV.r (RV.c (CV.f (FV.b true))), AV.r (RV.c (CV.f (FV.i IntKind.u64 d.2.2.2.2.2.2.2.2.2.1))), AV.r (RV.c (CV.f (FV.i IntKind.u64 d.2.2.2.2.2.2.2.2.1))), AV.r (RV.c (CV.f (FV.i IntKind.u64 d.2.2.2.2.2.2.2.2.2.2.2.1))), AV.r (RV.c (CV.f (FV.i IntKind.u64 d.2.2.1))),
  AV.r (RV.c (CV.f (FV.i IntKind.u64 d.2.2.2.2.2.2.1))), AV.r (RV.c (CV.f (FV.i IntKind.u64 d.2.2.2.2.2.2.1))), AV.r (RV.c (CV.f (FV.b d.2.2.2.2.2.2.2.2.2.2.2.2))), AV.und, AV.und, AV.und, AV.und, AV.und, AV.und, AV.und, AV.und, AV.und, AV.und, AV.und,
  AV.und, AV.und, AV.und] [] [])) (Sum.elim (fun d => K (AX.ex 2) (St.mk [AV.und, AV.und, AV.r (RV.c (CV.f (FV.i IntKind.u64 d.1))), AV.und, AV.und, AV.und, AV.und, AV.und, AV.r (RV.c (CV.f (FV.i IntKind.u64 d.2.1))), AV.r (RV.c (CV.f (FV.i IntKind.u64 d.2.2.1))), AV.r (RV.c (CV.f (FV.i IntKind.u64 d.2.2.2.1))),
  AV.und, AV.und, AV.und, AV.r (RV.c (CV.f (FV.i IntKind.u64 d.2.2.2.2.1))), AV.r (RV.c (CV.f (FV.i IntKind.u64 d.2.2.2.2.2.1))), AV.r (RV.c (CV.f (FV.i IntKind.u64 d.2.2.2.2.2.2.1))), AV.r (RV.c (CV.f (FV.i IntKind.u64 d.2.2.2.2.2.2.2.1))), AV.r (RV.c (CV.f (FV.i IntKind.u64 d.2.2.2.2.2.2.2.2.1))),
  AV.und, AV.und, AV.und, AV.und, AV.und, AV.und, AV.und, AV.und, AV.und, AV.und, AV.und, AV.und, AV.und, AV.und, AV.und, AV.und, AV.und, AV.und, AV.und, AV.und, AV.und, AV.und, AV.und, AV.und, AV.und, AV.und, AV.und, AV.und, AV.und, AV.und, AV.und, AV.und, AV.und, AV.und, AV.und, AV.und, AV.und, AV.und,
  AV.und, AV.und, AV.und, AV.und, AV.und, AV.und, AV.und, AV.und, AV.und, AV.und, AV.und, AV.und, AV.und, AV.und, AV.und, AV.und, AV.und, AV.und, AV.und, AV.und, AV.und, AV.und, AV.und, AV.und, AV.und, AV.und, AV.und, AV.und, AV.und, AV.und, AV.und, AV.und, AV.und, AV.und, AV.und, AV.und, AV.und, AV.und,
  AV.und, AV.und, AV.und, AV.und, AV.und, AV.und, AV.und, AV.r (RV.c (CV.f (FV.i IntKind.u64 d.2.2.2.2.2.2.2.2.2.1))), AV.r (RV.c (CV.f (FV.b d.2.2.2.2.2.2.2.2.2.2.1))), AV.r (RV.c (CV.f (FV.b false))), AV.r (RV.c (CV.f (FV.i IntKind.u64 d.2.2.2.2.2.2.2.2.2.1))),
  AV.r (RV.c (CV.f (FV.i IntKind.u64 d.2.2.2.1))), AV.r (RV.c (CV.f (FV.i IntKind.u64 d.2.2.2.2.2.2.2.2.2.2.2.1))), AV.r (RV.c (CV.f (FV.i IntKind.u64 d.2.2.2.2.2.2.2.2.2.2.2.2.1))), AV.r (RV.c (CV.f (FV.i IntKind.u64 d.2.2.2.2.2.2.2.2.2.2.2.2.2.1))),
  AV.r (RV.c (CV.f (FV.i IntKind.u64 d.2.2.2.2.1))), AV.r (RV.c (CV.f (FV.i IntKind.u64 d.2.2.2.2.2.2.2.2.2.2.2.2.2.2.1))), AV.r (RV.c (CV.f (FV.b d.2.2.2.2.2.2.2.2.2.2.2.2.2.2.2.1))), AV.r (RV.c (CV.f (FV.b d.2.2.2.2.2.2.2.2.2.2.2.2.2.2.2.1))),
  AV.r (RV.c (CV.f (FV.i IntKind.u64 d.2.2.2.2.2.2.2.2.2.1))), AV.r (RV.c (CV.f (FV.i IntKind.u64 d.2.2.2.2.2.2.2.2.1))), AV.r (RV.c (CV.f (FV.i IntKind.u64 d.2.2.2.2.2.2.2.2.2.2.2.2.1))), AV.r (RV.c (CV.f (FV.i IntKind.u64 d.2.2.1))),
  AV.r (RV.c (CV.f (FV.i IntKind.u64 d.2.2.2.2.2.2.1))), AV.r (RV.c (CV.f (FV.i IntKind.u64 d.2.2.2.2.2.2.1))), AV.r (RV.c (CV.f (FV.b d.2.2.2.2.2.2.2.2.2.2.2.2.2.2.2.2))), AV.und, AV.und, AV.und, AV.und, AV.und, AV.und, AV.und, AV.und, AV.und,
  AV.und, AV.und, AV.und, AV.und, AV.und] [] [])) (fun d => K (AX.ex 2) (St.mk [AV.und, AV.und, AV.r (RV.c (CV.f (FV.i IntKind.u64 d.1))), AV.und, AV.und, AV.und, AV.und, AV.und, AV.r (RV.c (CV.f (FV.i IntKind.u64 d.2.1))), AV.r (RV.c (CV.f (FV.i IntKind.u64 d.2.2.1))), AV.r (RV.c (CV.f (FV.i IntKind.u64 d.2.2.2.1))),
  AV.und, AV.und, AV.und, AV.r (RV.c (CV.f (FV.i IntKind.u64 d.2.2.2.2.1))), AV.r (RV.c (CV.f (FV.i IntKind.u64 d.2.2.2.2.2.1))), AV.r (RV.c (CV.f (FV.i IntKind.u64 d.2.2.2.2.2.2.1))), AV.r (RV.c (CV.f (FV.i IntKind.u64 d.2.2.2.2.2.2.2.1))), AV.r (RV.c (CV.f (FV.i IntKind.u64 d.2.2.2.2.2.2.2.2.1))),
  AV.und, AV.und, AV.und, AV.und, AV.und, AV.und, AV.und, AV.und, AV.und, AV.und, AV.und, AV.und, AV.und, AV.und, AV.und, AV.und, AV.und, AV.und, AV.und, AV.und, AV.und, AV.und, AV.und, AV.und, AV.und, AV.und, AV.und, AV.und, AV.und, AV.und, AV.und, AV.und, AV.und, AV.und, AV.und, AV.und, AV.und, AV.und,
  AV.und, AV.und, AV.und, AV.und, AV.und, AV.und, AV.und, AV.und, AV.und, AV.und, AV.und, AV.und, AV.und, AV.und, AV.und, AV.und, AV.und, AV.und, AV.und, AV.und, AV.und, AV.und, AV.und, AV.und, AV.und, AV.und, AV.und, AV.und, AV.und, AV.und, AV.und, AV.und, AV.und, AV.und, AV.und, AV.und, AV.und, AV.und,
  AV.und, AV.und, AV.und, AV.und, AV.und, AV.und, AV.und, AV.r (RV.c (CV.f (FV.i IntKind.u64 d.2.2.2.2.2.2.2.2.1))), AV.r (RV.c (CV.f (FV.b d.2.2.2.2.2.2.2.2.2.1))), AV.r (RV.c (CV.f (FV.b false))), AV.r (RV.c (CV.f (FV.i IntKind.u64 d.2.2.2.2.2.2.2.2.1))),
  AV.r (RV.c (CV.f (FV.i IntKind.u64 d.2.2.2.1))), AV.r (RV.c (CV.f (FV.i IntKind.u64 d.2.2.2.2.2.2.2.2.2.2.1))), AV.r (RV.c (CV.f (FV.i IntKind.u64 d.2.2.2.2.2.2.1))), AV.r (RV.c (CV.f (FV.i IntKind.u64 d.2.2.2.2.2.2.2.2.2.2.2.1))), AV.r (RV.c (CV.f (FV.i IntKind.u64 d.2.2.2.2.1))),
  AV.r (RV.c (CV.f (FV.i IntKind.u64 d.2.2.2.2.2.2.2.2.2.2.2.2.1))), AV.r (RV.c (CV.f (FV.b d.2.2.2.2.2.2.2.2.2.2.2.2.2))), AV.r (RV.c (CV.f (FV.b d.2.2.2.2.2.2.2.2.2.2.2.2.2))), AV.und, AV.und, AV.und, AV.und, AV.und, AV.und,
  AV.und, AV.und, AV.und, AV.und, AV.und, AV.und, AV.und, AV.und, AV.und, AV.und, AV.und, AV.und, AV.und, AV.und, AV.und] [] [])))) := by kernel_rfl
theorem it_math_bits_Div64_1 {ρ : Type} (x0 : Int) (x1 : Int) (x2 : Int) (x3 : Int) (x4 : Int) (x5 : Int) (x6 : Int) (x7 : Int) (x8 : Int) (K : AX → St → Option ρ) : iter (fun t => t.head 0 ⟨[⟨17, [0, 1, 3, 4, 5, 6, 7, 12, 17, 18, 19, 20, 21, 22, 23, 24, 25, 26, 27, 28, 29, 30, 31, 32, 33, 34, 35, 36,
  37, 38, 39, 40, 41, 42, 43, 44, 45, 46, 47, 48, 49, 50, 51, 52, 53, 54, 55, 56, 57, 58, 59, 60, 61, 62, 63, 64, 65, 66, 67, 68, 69, 78, 79, 80, 81, 82, 83, 84, 85, 86, 87, 88, 89, 90, 91, 92, 93, 94, 95, 96, 97, 98, 99, 100, 101, 102, 103, 104, 113, 114, 115, 116, 117, 118, 119, 120, 121, 122, 123, 124,
  125, 126, 127, 128, 129, 130, 131, 132, 133, 134, 70, 71, 72, 73, 74, 75, 76, 77], []⟩, ⟨24, [0, 1, 3, 4, 5, 6, 7, 11, 12, 13, 19, 20, 21, 22, 23, 24, 25, 26, 27, 28, 29, 30, 31, 32, 33, 34, 35, 36, 37, 38, 39, 40, 41, 42, 43, 44, 45, 46, 47, 48, 49, 50, 51, 52, 53, 54, 55, 56, 57, 58, 59, 60, 61, 62,
  63, 64, 65, 66, 67, 68, 69, 70, 71, 72, 73, 74, 75, 76, 77, 78, 79, 80, 81, 82, 83, 84, 85, 86, 87, 88, 89, 90, 91, 92, 93, 94, 95, 96, 97, 98, 99, 100, 101, 102, 103, 104, 113, 114, 115, 116, 117, 118, 119, 120, 121, 122, 123, 124, 125, 126, 127, 128, 129, 130, 131, 132, 133, 134, 105, 106, 107, 108,
  109, 110, 111, 112], []⟩], [⟨17, 0, @R_math_bits_Div64_0 (@L_math_bits_Div64_0)⟩, ⟨24, 0, @R_math_bits_Div64_1 (@L_math_bits_Div64_1)⟩], [], [], (some ⟨0, [0, 1, 2, 3, 4, 5, 8, 9, 10, 11, 12, 13, 14, 15, 16, 17, 18, 19, 20, 21, 22, 23, 24, 25, 26, 27, 28, 29, 30, 31, 32, 33, 34, 35, 36, 37, 38, 39, 40,
  41, 42, 43, 44, 45, 46, 47, 48, 49, 50, 51, 52, 53, 54, 55, 56, 57, 58, 59, 60, 61, 62, 63, 64, 65, 66, 67, 68, 69, 70, 71, 72, 73, 74, 75, 76, 77, 78, 79, 80, 81, 82, 83, 84, 85, 86, 87, 88, 89, 90, 91, 92, 93, 94, 95, 96, 97, 98, 99, 100, 101, 102, 103, 104, 105, 106, 107, 108, 109, 110, 111, 112,
  113, 114, 115, 116, 117, 118, 119, 120, 121, 122, 123, 124, 125, 126, 127, 128, 129, 130, 131, 132, 133, 134], []⟩)⟩ (loopIn Try.prog 90 24)) (runC Try.prog (envOf [(94, F_math_bits_LeadingZeros64 f_math_bits_LeadingZeros64)]) ⟨[⟨17, [0, 1, 3, 4, 5, 6, 7, 12, 17, 18, 19, 20, 21, 22, 23, 24,
  25, 26, 27, 28, 29, 30, 31, 32, 33, 34, 35, 36, 37, 38, 39, 40, 41, 42, 43, 44, 45, 46, 47, 48, 49, 50, 51, 52, 53, 54, 55, 56, 57, 58, 59, 60, 61, 62, 63, 64, 65, 66, 67, 68, 69, 78, 79, 80, 81, 82, 83, 84, 85, 86, 87, 88, 89, 90, 91, 92, 93, 94, 95, 96, 97, 98, 99, 100, 101, 102, 103, 104, 113, 114,
  115, 116, 117, 118, 119, 120, 121, 122, 123, 124, 125, 126, 127, 128, 129, 130, 131, 132, 133, 134, 70, 71, 72, 73, 74, 75, 76, 77], []⟩, ⟨24, [0, 1, 3, 4, 5, 6, 7, 11, 12, 13, 19, 20, 21, 22, 23, 24, 25, 26, 27, 28, 29, 30, 31, 32, 33, 34, 35, 36, 37, 38, 39, 40, 41, 42, 43, 44, 45, 46, 47, 48, 49,
  50, 51, 52, 53, 54, 55, 56, 57, 58, 59, 60, 61, 62, 63, 64, 65, 66, 67, 68, 69, 70, 71, 72, 73, 74, 75, 76, 77, 78, 79, 80, 81, 82, 83, 84, 85, 86, 87, 88, 89, 90, 91, 92, 93, 94, 95, 96, 97, 98, 99, 100, 101, 102, 103, 104, 113, 114, 115, 116, 117, 118, 119, 120, 121, 122, 123, 124, 125, 126, 127, 128,
  129, 130, 131, 132, 133, 134, 105, 106, 107, 108, 109, 110, 111, 112], []⟩], [⟨17, 0, @R_math_bits_Div64_0 (@L_math_bits_Div64_0)⟩, ⟨24, 0, @R_math_bits_Div64_1 (@L_math_bits_Div64_1)⟩], [], [], (some ⟨0, [0, 1, 2, 3, 4, 5, 8, 9, 10, 11, 12, 13, 14, 15, 16, 17, 18, 19, 20, 21, 22, 23, 24, 25, 26, 27,
  28, 29, 30, 31, 32, 33, 34, 35, 36, 37, 38, 39, 40, 41, 42, 43, 44, 45, 46, 47, 48, 49, 50, 51, 52, 53, 54, 55, 56, 57, 58, 59, 60, 61, 62, 63, 64, 65, 66, 67, 68, 69, 70, 71, 72, 73, 74, 75, 76, 77, 78, 79, 80, 81, 82, 83, 84, 85, 86, 87, 88, 89, 90, 91, 92, 93, 94, 95, 96, 97, 98, 99, 100, 101, 102,
  103, 104, 105, 106, 107, 108, 109, 110, 111, 112, 113, 114, 115, 116, 117, 118, 119, 120, 121, 122, 123, 124, 125, 126, 127, 128, 129, 130, 131, 132, 133, 134], []⟩)⟩ (tmpsOf Try.prog 90) 0 200 (loopIn Try.prog 90 24)) K 200 (St.mk [AV.und, AV.und, AV.r (RV.c (CV.f (FV.i IntKind.u64 x0))),
  AV.und, AV.und, AV.und, AV.und, AV.und, AV.r (RV.c (CV.f (FV.i IntKind.u64 x1))), AV.r (RV.c (CV.f (FV.i IntKind.u64 x2))), AV.r (RV.c (CV.f (FV.i IntKind.u64 x3))), AV.und, AV.und, AV.und, AV.r (RV.c (CV.f (FV.i IntKind.u64 x4))), AV.r (RV.c (CV.f (FV.i IntKind.u64 x5))), AV.r (RV.c (CV.f (FV.i IntKind.u64 x6))),
  AV.r (RV.c (CV.f (FV.i IntKind.u64 x7))), AV.r (RV.c (CV.f (FV.i IntKind.u64 x8))), AV.und, AV.und, AV.und, AV.und, AV.und, AV.und, AV.und, AV.und, AV.und, AV.und, AV.und, AV.und, AV.und, AV.und, AV.und, AV.und, AV.und, AV.und, AV.und, AV.und, AV.und, AV.und, AV.und, AV.und, AV.und, AV.und, AV.und, AV.und,
  AV.und, AV.und, AV.und, AV.und, AV.und, AV.und, AV.und, AV.und, AV.und, AV.und, AV.und, AV.und, AV.und, AV.und, AV.und, AV.und, AV.und, AV.und, AV.und, AV.und, AV.und, AV.und, AV.und, AV.und, AV.und, AV.und, AV.und, AV.und, AV.und, AV.und, AV.und, AV.und, AV.und, AV.und, AV.und, AV.und, AV.und, AV.und,
  AV.und, AV.und, AV.und, AV.und, AV.und, AV.und, AV.und, AV.und, AV.und, AV.und, AV.und, AV.und, AV.und, AV.und, AV.und, AV.und, AV.und, AV.und, AV.und, AV.und, AV.und, AV.und, AV.und, AV.und, AV.und, AV.und, AV.und, AV.und, AV.und, AV.und, AV.und, AV.und, AV.und, AV.und, AV.und, AV.und, AV.und, AV.und,
  AV.und, AV.und, AV.und, AV.und, AV.und, AV.und, AV.und, AV.und, AV.und, AV.und, AV.und, AV.und] [] []) = L_math_bits_Div64_1 (x0, x1, x2, x3, x4, x5, x6, x7, x8) (Sum.elim (fun d => K (AX.ex 2) (St.mk [AV.und, AV.und, AV.r (RV.c (CV.f (FV.i IntKind.u64 d.1))), AV.und, AV.und, AV.und, AV.und, AV.und,
  AV.r (RV.c (CV.f (FV.i IntKind.u64 d.2.1))), AV.r (RV.c (CV.f (FV.i IntKind.u64 d.2.2.1))), AV.r (RV.c (CV.f (FV.i IntKind.u64 d.2.2.2.1))), AV.und, AV.und, AV.und, AV.r (RV.c (CV.f (FV.i IntKind.u64 d.2.2.2.2.1))), AV.r (RV.c (CV.f (FV.i IntKind.u64 d.2.2.2.2.2.1))),
  AV.r (RV.c (CV.f (FV.i IntKind.u64 d.2.2.2.2.2.2.1))), AV.r (RV.c (CV.f (FV.i IntKind.u64 d.2.2.2.2.2.2.2.1))), AV.r (RV.c (CV.f (FV.i IntKind.u64 d.2.2.2.2.2.2.2.2.1))), AV.und, AV.und, AV.und, AV.und, AV.und, AV.und, AV.und, AV.und, AV.und, AV.und, AV.und,
  AV.und, AV.und, AV.und, AV.und, AV.und, AV.und, AV.und, AV.und, AV.und, AV.und, AV.und, AV.und, AV.und, AV.und, AV.und, AV.und, AV.und, AV.und, AV.und, AV.und, AV.und, AV.und, AV.und, AV.und, AV.und, AV.und, AV.und, AV.und, AV.und, AV.und, AV.und, AV.und, AV.und, AV.und, AV.und, AV.und, AV.und, AV.und,
  AV.und, AV.und, AV.und, AV.und, AV.und, AV.und, AV.und, AV.und, AV.und, AV.und, AV.und, AV.und, AV.und, AV.und, AV.und, AV.und, AV.und, AV.und, AV.und, AV.und, AV.und, AV.und, AV.und, AV.und, AV.und, AV.und, AV.und, AV.und, AV.und, AV.und, AV.und, AV.und, AV.und, AV.und, AV.r (RV.c (CV.f (FV.i IntKind.u64 d.2.2.2.2.2.2.2.2.2.1))),
  AV.r (RV.c (CV.f (FV.b d.2.2.2.2.2.2.2.2.2.2.1))), AV.r (RV.c (CV.f (FV.b true))), AV.tup [], AV.tup [], AV.tup [], AV.tup [], AV.tup [], AV.tup [], AV.tup [], AV.tup [], AV.r (RV.c (CV.f (FV.b true))), AV.r (RV.c (CV.f (FV.i IntKind.u64 d.2.2.2.2.2.2.2.2.2.1))),
  AV.r (RV.c (CV.f (FV.i IntKind.u64 d.2.2.2.2.2.2.2.2.1))), AV.r (RV.c (CV.f (FV.i IntKind.u64 d.2.2.2.2.2.2.2.2.2.2.2.1))), AV.r (RV.c (CV.f (FV.i IntKind.u64 d.2.2.1))), AV.r (RV.c (CV.f (FV.i IntKind.u64 d.2.2.2.2.2.2.1))), AV.r (RV.c (CV.f (FV.i IntKind.u64 d.2.2.2.2.2.2.1))),
  AV.r (RV.c (CV.f (FV.b d.2.2.2.2.2.2.2.2.2.2.2.2))), AV.und, AV.und, AV.und, AV.und, AV.und, AV.und, AV.und, AV.und, AV.und, AV.und, AV.und, AV.und, AV.und, AV.und] [] [])) (Sum.elim (fun d => K (AX.ex 2) (St.mk [AV.und, AV.und, AV.r (RV.c (CV.f (FV.i IntKind.u64 d.1))), AV.und,
  AV.und, AV.und, AV.und, AV.und, AV.r (RV.c (CV.f (FV.i IntKind.u64 d.2.1))), AV.r (RV.c (CV.f (FV.i IntKind.u64 d.2.2.1))), AV.r (RV.c (CV.f (FV.i IntKind.u64 d.2.2.2.1))), AV.und, AV.und, AV.und, AV.r (RV.c (CV.f (FV.i IntKind.u64 d.2.2.2.2.1))), AV.r (RV.c (CV.f (FV.i IntKind.u64 d.2.2.2.2.2.1))),
  AV.r (RV.c (CV.f (FV.i IntKind.u64 d.2.2.2.2.2.2.1))), AV.r (RV.c (CV.f (FV.i IntKind.u64 d.2.2.2.2.2.2.2.1))), AV.r (RV.c (CV.f (FV.i IntKind.u64 d.2.2.2.2.2.2.2.2.1))), AV.und, AV.und, AV.und, AV.und, AV.und, AV.und, AV.und, AV.und, AV.und, AV.und, AV.und,
  AV.und, AV.und, AV.und, AV.und, AV.und, AV.und, AV.und, AV.und, AV.und, AV.und, AV.und, AV.und, AV.und, AV.und, AV.und, AV.und, AV.und, AV.und, AV.und, AV.und, AV.und, AV.und, AV.und, AV.und, AV.und, AV.und, AV.und, AV.und, AV.und, AV.und, AV.und, AV.und, AV.und, AV.und, AV.und, AV.und, AV.und, AV.und,
  AV.und, AV.und, AV.und, AV.und, AV.und, AV.und, AV.und, AV.und, AV.und, AV.und, AV.und, AV.und, AV.und, AV.und, AV.und, AV.und, AV.und, AV.und, AV.und, AV.und, AV.und, AV.und, AV.und, AV.und, AV.und, AV.und, AV.und, AV.und, AV.und, AV.und, AV.und, AV.und, AV.und, AV.und, AV.r (RV.c (CV.f (FV.i IntKind.u64 d.2.2.2.2.2.2.2.2.2.1))),
  AV.r (RV.c (CV.f (FV.b d.2.2.2.2.2.2.2.2.2.2.1))), AV.r (RV.c (CV.f (FV.b false))), AV.r (RV.c (CV.f (FV.i IntKind.u64 d.2.2.2.2.2.2.2.2.2.1))), AV.r (RV.c (CV.f (FV.i IntKind.u64 d.2.2.2.1))), AV.r (RV.c (CV.f (FV.i IntKind.u64 d.2.2.2.2.2.2.2.2.2.2.2.1))),
  AV.r (RV.c (CV.f (FV.i IntKind.u64 d.2.2.2.2.2.2.2.2.2.2.2.2.1))), AV.r (RV.c (CV.f (FV.i IntKind.u64 d.2.2.2.2.2.2.2.2.2.2.2.2.2.1))), AV.r (RV.c (CV.f (FV.i IntKind.u64 d.2.2.2.2.1))), AV.r (RV.c (CV.f (FV.i IntKind.u64 d.2.2.2.2.2.2.2.2.2.2.2.2.2.2.1))),
  AV.r (RV.c (CV.f (FV.b d.2.2.2.2.2.2.2.2.2.2.2.2.2.2.2.1))), AV.r (RV.c (CV.f (FV.b d.2.2.2.2.2.2.2.2.2.2.2.2.2.2.2.1))), AV.r (RV.c (CV.f (FV.i IntKind.u64 d.2.2.2.2.2.2.2.2.2.1))), AV.r (RV.c (CV.f (FV.i IntKind.u64 d.2.2.2.2.2.2.2.2.1))),
  AV.r (RV.c (CV.f (FV.i IntKind.u64 d.2.2.2.2.2.2.2.2.2.2.2.2.1))), AV.r (RV.c (CV.f (FV.i IntKind.u64 d.2.2.1))), AV.r (RV.c (CV.f (FV.i IntKind.u64 d.2.2.2.2.2.2.1))), AV.r (RV.c (CV.f (FV.i IntKind.u64 d.2.2.2.2.2.2.1))), AV.r (RV.c (CV.f (FV.b d.2.2.2.2.2.2.2.2.2.2.2.2.2.2.2.2))),
  AV.und, AV.und, AV.und, AV.und, AV.und, AV.und, AV.und, AV.und, AV.und, AV.und, AV.und, AV.und, AV.und, AV.und] [] [])) (fun d => K (AX.ex 2) (St.mk [AV.und, AV.und, AV.r (RV.c (CV.f (FV.i IntKind.u64 d.1))), AV.und, AV.und, AV.und, AV.und, AV.und, AV.r (RV.c (CV.f (FV.i IntKind.u64 d.2.1))), AV.r (RV.c (CV.f (FV.i IntKind.u64 d.2.2.1))),
  AV.r (RV.c (CV.f (FV.i IntKind.u64 d.2.2.2.1))), AV.und, AV.und, AV.und, AV.r (RV.c (CV.f (FV.i IntKind.u64 d.2.2.2.2.1))), AV.r (RV.c (CV.f (FV.i IntKind.u64 d.2.2.2.2.2.1))), AV.r (RV.c (CV.f (FV.i IntKind.u64 d.2.2.2.2.2.2.1))), AV.r (RV.c (CV.f (FV.i IntKind.u64 d.2.2.2.2.2.2.2.1))),
  AV.r (RV.c (CV.f (FV.i IntKind.u64 d.2.2.2.2.2.2.2.2.1))), AV.und, AV.und, AV.und, AV.und, AV.und, AV.und, AV.und, AV.und, AV.und, AV.und, AV.und, AV.und, AV.und, AV.und, AV.und, AV.und, AV.und, AV.und, AV.und, AV.und, AV.und, AV.und, AV.und, AV.und, AV.und, AV.und, AV.und, AV.und,
  AV.und, AV.und, AV.und, AV.und, AV.und, AV.und, AV.und, AV.und, AV.und, AV.und, AV.und, AV.und, AV.und, AV.und, AV.und, AV.und, AV.und, AV.und, AV.und, AV.und, AV.und, AV.und, AV.und, AV.und, AV.und, AV.und, AV.und, AV.und, AV.und, AV.und, AV.und, AV.und, AV.und, AV.und, AV.und, AV.und, AV.und, AV.und,
  AV.und, AV.und, AV.und, AV.und, AV.und, AV.und, AV.und, AV.und, AV.und, AV.und, AV.und, AV.und, AV.und, AV.und, AV.und, AV.und, AV.und, AV.r (RV.c (CV.f (FV.i IntKind.u64 d.2.2.2.2.2.2.2.2.1))), AV.r (RV.c (CV.f (FV.b d.2.2.2.2.2.2.2.2.2.1))), AV.r (RV.c (CV.f (FV.b false))),
  AV.r (RV.c (CV.f (FV.i IntKind.u64 d.2.2.2.2.2.2.2.2.1))), AV.r (RV.c (CV.f (FV.i IntKind.u64 d.2.2.2.1))), AV.r (RV.c (CV.f (FV.i IntKind.u64 d.2.2.2.2.2.2.2.2.2.2.1))), AV.r (RV.c (CV.f (FV.i IntKind.u64 d.2.2.2.2.2.2.1))), AV.r (RV.c (CV.f (FV.i IntKind.u64 d.2.2.2.2.2.2.2.2.2.2.2.1))),
  AV.r (RV.c (CV.f (FV.i IntKind.u64 d.2.2.2.2.1))), AV.r (RV.c (CV.f (FV.i IntKind.u64 d.2.2.2.2.2.2.2.2.2.2.2.2.1))), AV.r (RV.c (CV.f (FV.b d.2.2.2.2.2.2.2.2.2.2.2.2.2))), AV.r (RV.c (CV.f (FV.b d.2.2.2.2.2.2.2.2.2.2.2.2.2))),
  AV.und, AV.und, AV.und, AV.und, AV.und, AV.und, AV.und, AV.und, AV.und, AV.und, AV.und, AV.und, AV.und, AV.und, AV.und, AV.und, AV.und, AV.und, AV.und, AV.und, AV.und] [] [])))) := iter_loopX (emb := fun (d : Int × Int × Int × Int × Int × Int × Int × Int × Int) => St.mk [AV.und, AV.und, AV.r (RV.c (CV.f (FV.i IntKind.u64 d.1))),
  AV.und, AV.und, AV.und, AV.und, AV.und, AV.r (RV.c (CV.f (FV.i IntKind.u64 d.2.1))), AV.r (RV.c (CV.f (FV.i IntKind.u64 d.2.2.1))), AV.r (RV.c (CV.f (FV.i IntKind.u64 d.2.2.2.1))), AV.und, AV.und, AV.und, AV.r (RV.c (CV.f (FV.i IntKind.u64 d.2.2.2.2.1))), AV.r (RV.c (CV.f (FV.i IntKind.u64 d.2.2.2.2.2.1))),
  AV.r (RV.c (CV.f (FV.i IntKind.u64 d.2.2.2.2.2.2.1))), AV.r (RV.c (CV.f (FV.i IntKind.u64 d.2.2.2.2.2.2.2.1))), AV.r (RV.c (CV.f (FV.i IntKind.u64 d.2.2.2.2.2.2.2.2))), AV.und, AV.und, AV.und, AV.und, AV.und, AV.und, AV.und, AV.und, AV.und, AV.und, AV.und,
  AV.und, AV.und, AV.und, AV.und, AV.und, AV.und, AV.und, AV.und, AV.und, AV.und, AV.und, AV.und, AV.und, AV.und, AV.und, AV.und, AV.und, AV.und, AV.und, AV.und, AV.und, AV.und, AV.und, AV.und, AV.und, AV.und, AV.und, AV.und, AV.und, AV.und, AV.und, AV.und, AV.und, AV.und, AV.und, AV.und, AV.und, AV.und,
  AV.und, AV.und, AV.und, AV.und, AV.und, AV.und, AV.und, AV.und, AV.und, AV.und, AV.und, AV.und, AV.und, AV.und, AV.und, AV.und, AV.und, AV.und, AV.und, AV.und, AV.und, AV.und, AV.und, AV.und, AV.und, AV.und, AV.und, AV.und, AV.und, AV.und, AV.und, AV.und, AV.und, AV.und, AV.und, AV.und, AV.und, AV.und,
  AV.und, AV.und, AV.und, AV.und, AV.und, AV.und, AV.und, AV.und, AV.und, AV.und, AV.und, AV.und, AV.und, AV.und, AV.und, AV.und, AV.und, AV.und, AV.und, AV.und, AV.und, AV.und, AV.und, AV.und, AV.und, AV.und, AV.und, AV.und, AV.und] [] []) (step := fun d c x => S_math_bits_Div64_1 f_math_bits_LeadingZeros64 d.1 d.2.1 d.2.2.1 d.2.2.2.1 d.2.2.2.2.1 d.2.2.2.2.2.1 d.2.2.2.2.2.2.1 d.2.2.2.2.2.2.2.1 d.2.2.2.2.2.2.2.2 c x) (kx := (Sum.elim (fun d => K (AX.ex 2) (St.mk [AV.und,
  AV.und, AV.r (RV.c (CV.f (FV.i IntKind.u64 d.1))), AV.und, AV.und, AV.und, AV.und, AV.und, AV.r (RV.c (CV.f (FV.i IntKind.u64 d.2.1))), AV.r (RV.c (CV.f (FV.i IntKind.u64 d.2.2.1))), AV.r (RV.c (CV.f (FV.i IntKind.u64 d.2.2.2.1))), AV.und, AV.und, AV.und, AV.r (RV.c (CV.f (FV.i IntKind.u64 d.2.2.2.2.1))),
  AV.r (RV.c (CV.f (FV.i IntKind.u64 d.2.2.2.2.2.1))), AV.r (RV.c (CV.f (FV.i IntKind.u64 d.2.2.2.2.2.2.1))), AV.r (RV.c (CV.f (FV.i IntKind.u64 d.2.2.2.2.2.2.2.1))), AV.r (RV.c (CV.f (FV.i IntKind.u64 d.2.2.2.2.2.2.2.2.1))), AV.und, AV.und, AV.und,
  AV.und, AV.und, AV.und, AV.und, AV.und, AV.und, AV.und, AV.und, AV.und, AV.und, AV.und, AV.und, AV.und, AV.und, AV.und, AV.und, AV.und, AV.und, AV.und, AV.und, AV.und, AV.und, AV.und, AV.und, AV.und, AV.und, AV.und, AV.und, AV.und, AV.und, AV.und, AV.und, AV.und, AV.und, AV.und, AV.und, AV.und, AV.und,
  AV.und, AV.und, AV.und, AV.und, AV.und, AV.und, AV.und, AV.und, AV.und, AV.und, AV.und, AV.und, AV.und, AV.und, AV.und, AV.und, AV.und, AV.und, AV.und, AV.und, AV.und, AV.und, AV.und, AV.und, AV.und, AV.und, AV.und, AV.und, AV.und, AV.und, AV.und, AV.und, AV.und, AV.und, AV.und, AV.und, AV.und, AV.und,
  AV.und, AV.und, AV.und, AV.und, AV.r (RV.c (CV.f (FV.i IntKind.u64 d.2.2.2.2.2.2.2.2.2.1))), AV.r (RV.c (CV.f (FV.b d.2.2.2.2.2.2.2.2.2.2.1))), AV.r (RV.c (CV.f (FV.b true))), AV.tup [], AV.tup [], AV.tup [], AV.tup [], AV.tup [], AV.tup [], AV.tup [], AV.tup [],
  AV.r (RV.c (CV.f (FV.b true))), AV.r (RV.c (CV.f (FV.i IntKind.u64 d.2.2.2.2.2.2.2.2.2.1))), AV.r (RV.c (CV.f (FV.i IntKind.u64 d.2.2.2.2.2.2.2.2.1))), AV.r (RV.c (CV.f (FV.i IntKind.u64 d.2.2.2.2.2.2.2.2.2.2.2.1))), AV.r (RV.c (CV.f (FV.i IntKind.u64 d.2.2.1))),
  AV.r (RV.c (CV.f (FV.i IntKind.u64 d.2.2.2.2.2.2.1))), AV.r (RV.c (CV.f (FV.i IntKind.u64 d.2.2.2.2.2.2.1))), AV.r (RV.c (CV.f (FV.b d.2.2.2.2.2.2.2.2.2.2.2.2))), AV.und, AV.und, AV.und, AV.und, AV.und, AV.und, AV.und, AV.und, AV.und, AV.und, AV.und,
  AV.und, AV.und, AV.und] [] [])) (Sum.elim (fun d => K (AX.ex 2) (St.mk [AV.und, AV.und, AV.r (RV.c (CV.f (FV.i IntKind.u64 d.1))), AV.und, AV.und, AV.und, AV.und, AV.und, AV.r (RV.c (CV.f (FV.i IntKind.u64 d.2.1))), AV.r (RV.c (CV.f (FV.i IntKind.u64 d.2.2.1))), AV.r (RV.c (CV.f (FV.i IntKind.u64 d.2.2.2.1))),
  AV.und, AV.und, AV.und, AV.r (RV.c (CV.f (FV.i IntKind.u64 d.2.2.2.2.1))), AV.r (RV.c (CV.f (FV.i IntKind.u64 d.2.2.2.2.2.1))), AV.r (RV.c (CV.f (FV.i IntKind.u64 d.2.2.2.2.2.2.1))), AV.r (RV.c (CV.f (FV.i IntKind.u64 d.2.2.2.2.2.2.2.1))), AV.r (RV.c (CV.f (FV.i IntKind.u64 d.2.2.2.2.2.2.2.2.1))),
  AV.und, AV.und, AV.und, AV.und, AV.und, AV.und, AV.und, AV.und, AV.und, AV.und, AV.und, AV.und, AV.und, AV.und, AV.und, AV.und, AV.und, AV.und, AV.und, AV.und, AV.und, AV.und, AV.und, AV.und, AV.und, AV.und, AV.und, AV.und, AV.und, AV.und, AV.und, AV.und, AV.und, AV.und, AV.und, AV.und, AV.und, AV.und,
  AV.und, AV.und, AV.und, AV.und, AV.und, AV.und, AV.und, AV.und, AV.und, AV.und, AV.und, AV.und, AV.und, AV.und, AV.und, AV.und, AV.und, AV.und, AV.und, AV.und, AV.und, AV.und, AV.und, AV.und, AV.und, AV.und, AV.und, AV.und, AV.und, AV.und, AV.und, AV.und, AV.und, AV.und, AV.und, AV.und, AV.und, AV.und,
  AV.und, AV.und, AV.und, AV.und, AV.und, AV.und, AV.und, AV.r (RV.c (CV.f (FV.i IntKind.u64 d.2.2.2.2.2.2.2.2.2.1))), AV.r (RV.c (CV.f (FV.b d.2.2.2.2.2.2.2.2.2.2.1))), AV.r (RV.c (CV.f (FV.b false))), AV.r (RV.c (CV.f (FV.i IntKind.u64 d.2.2.2.2.2.2.2.2.2.1))),
  AV.r (RV.c (CV.f (FV.i IntKind.u64 d.2.2.2.1))), AV.r (RV.c (CV.f (FV.i IntKind.u64 d.2.2.2.2.2.2.2.2.2.2.2.1))), AV.r (RV.c (CV.f (FV.i IntKind.u64 d.2.2.2.2.2.2.2.2.2.2.2.2.1))), AV.r (RV.c (CV.f (FV.i IntKind.u64 d.2.2.2.2.2.2.2.2.2.2.2.2.2.1))),
  AV.r (RV.c (CV.f (FV.i IntKind.u64 d.2.2.2.2.1))), AV.r (RV.c (CV.f (FV.i IntKind.u64 d.2.2.2.2.2.2.2.2.2.2.2.2.2.2.1))), AV.r (RV.c (CV.f (FV.b d.2.2.2.2.2.2.2.2.2.2.2.2.2.2.2.1))), AV.r (RV.c (CV.f (FV.b d.2.2.2.2.2.2.2.2.2.2.2.2.2.2.2.1))),
  AV.r (RV.c (CV.f (FV.i IntKind.u64 d.2.2.2.2.2.2.2.2.2.1))), AV.r (RV.c (CV.f (FV.i IntKind.u64 d.2.2.2.2.2.2.2.2.1))), AV.r (RV.c (CV.f (FV.i IntKind.u64 d.2.2.2.2.2.2.2.2.2.2.2.2.1))), AV.r (RV.c (CV.f (FV.i IntKind.u64 d.2.2.1))),
  AV.r (RV.c (CV.f (FV.i IntKind.u64 d.2.2.2.2.2.2.1))), AV.r (RV.c (CV.f (FV.i IntKind.u64 d.2.2.2.2.2.2.1))), AV.r (RV.c (CV.f (FV.b d.2.2.2.2.2.2.2.2.2.2.2.2.2.2.2.2))), AV.und, AV.und, AV.und, AV.und, AV.und, AV.und, AV.und, AV.und, AV.und,
  AV.und, AV.und, AV.und, AV.und, AV.und] [] [])) (fun d => K (AX.ex 2) (St.mk [AV.und, AV.und, AV.r (RV.c (CV.f (FV.i IntKind.u64 d.1))), AV.und, AV.und, AV.und, AV.und, AV.und, AV.r (RV.c (CV.f (FV.i IntKind.u64 d.2.1))), AV.r (RV.c (CV.f (FV.i IntKind.u64 d.2.2.1))), AV.r (RV.c (CV.f (FV.i IntKind.u64 d.2.2.2.1))),
  AV.und, AV.und, AV.und, AV.r (RV.c (CV.f (FV.i IntKind.u64 d.2.2.2.2.1))), AV.r (RV.c (CV.f (FV.i IntKind.u64 d.2.2.2.2.2.1))), AV.r (RV.c (CV.f (FV.i IntKind.u64 d.2.2.2.2.2.2.1))), AV.r (RV.c (CV.f (FV.i IntKind.u64 d.2.2.2.2.2.2.2.1))), AV.r (RV.c (CV.f (FV.i IntKind.u64 d.2.2.2.2.2.2.2.2.1))),
  AV.und, AV.und, AV.und, AV.und, AV.und, AV.und, AV.und, AV.und, AV.und, AV.und, AV.und, AV.und, AV.und, AV.und, AV.und, AV.und, AV.und, AV.und, AV.und, AV.und, AV.und, AV.und, AV.und, AV.und, AV.und, AV.und, AV.und, AV.und, AV.und, AV.und, AV.und, AV.und, AV.und, AV.und, AV.und, AV.und, AV.und, AV.und,
  AV.und, AV.und, AV.und, AV.und, AV.und, AV.und, AV.und, AV.und, AV.und, AV.und, AV.und, AV.und, AV.und, AV.und, AV.und, AV.und, AV.und, AV.und, AV.und, AV.und, AV.und, AV.und, AV.und, AV.und, AV.und, AV.und, AV.und, AV.und, AV.und, AV.und, AV.und, AV.und, AV.und, AV.und, AV.und, AV.und, AV.und, AV.und,
  AV.und, AV.und, AV.und, AV.und, AV.und, AV.und, AV.und, AV.r (RV.c (CV.f (FV.i IntKind.u64 d.2.2.2.2.2.2.2.2.1))), AV.r (RV.c (CV.f (FV.b d.2.2.2.2.2.2.2.2.2.1))), AV.r (RV.c (CV.f (FV.b false))), AV.r (RV.c (CV.f (FV.i IntKind.u64 d.2.2.2.2.2.2.2.2.1))),
  AV.r (RV.c (CV.f (FV.i IntKind.u64 d.2.2.2.1))), AV.r (RV.c (CV.f (FV.i IntKind.u64 d.2.2.2.2.2.2.2.2.2.2.1))), AV.r (RV.c (CV.f (FV.i IntKind.u64 d.2.2.2.2.2.2.1))), AV.r (RV.c (CV.f (FV.i IntKind.u64 d.2.2.2.2.2.2.2.2.2.2.2.1))), AV.r (RV.c (CV.f (FV.i IntKind.u64 d.2.2.2.2.1))),
  AV.r (RV.c (CV.f (FV.i IntKind.u64 d.2.2.2.2.2.2.2.2.2.2.2.2.1))), AV.r (RV.c (CV.f (FV.b d.2.2.2.2.2.2.2.2.2.2.2.2.2))), AV.r (RV.c (CV.f (FV.b d.2.2.2.2.2.2.2.2.2.2.2.2.2))), AV.und, AV.und, AV.und, AV.und, AV.und, AV.und,
  AV.und, AV.und, AV.und, AV.und, AV.und, AV.und, AV.und, AV.und, AV.und, AV.und, AV.und, AV.und, AV.und, AV.und, AV.und] [] []))))) (fun d c => ds_math_bits_Div64_1 f_math_bits_LeadingZeros64 (@L_math_bits_Div64_0) (@L_math_bits_Div64_1) d.1 d.2.1 d.2.2.1 d.2.2.2.1 d.2.2.2.2.1 d.2.2.2.2.2.1 d.2.2.2.2.2.2.1 d.2.2.2.2.2.2.2.1 d.2.2.2.2.2.2.2.2 c K) 200 (x0,
  x1, x2, x3, x4, x5, x6, x7, x8)
theorem so_math_bits_Div64_1 [Amb] : ∀ kk, SumOK Try.prog (envOf [(94, F_math_bits_LeadingZeros64 f_math_bits_LeadingZeros64)]) ⟨[⟨17, [0, 1, 3, 4, 5, 6, 7, 12, 17, 18, 19, 20, 21, 22, 23, 24, 25, 26, 27, 28, 29, 30, 31, 32, 33, 34, 35, 36, 37, 38, 39, 40, 41, 42, 43, 44, 45, 46, 47, 48, 49, 50,
  51, 52, 53, 54, 55, 56, 57, 58, 59, 60, 61, 62, 63, 64, 65, 66, 67, 68, 69, 78, 79, 80, 81, 82, 83, 84, 85, 86, 87, 88, 89, 90, 91, 92, 93, 94, 95, 96, 97, 98, 99, 100, 101, 102, 103, 104, 113, 114, 115, 116, 117, 118, 119, 120, 121, 122, 123, 124, 125, 126, 127, 128, 129, 130, 131, 132, 133, 134, 70,
  71, 72, 73, 74, 75, 76, 77], []⟩, ⟨24, [0, 1, 3, 4, 5, 6, 7, 11, 12, 13, 19, 20, 21, 22, 23, 24, 25, 26, 27, 28, 29, 30, 31, 32, 33, 34, 35, 36, 37, 38, 39, 40, 41, 42, 43, 44, 45, 46, 47, 48, 49, 50, 51, 52, 53, 54, 55, 56, 57, 58, 59, 60, 61, 62, 63, 64, 65, 66, 67, 68, 69, 70, 71, 72, 73, 74, 75,
  76, 77, 78, 79, 80, 81, 82, 83, 84, 85, 86, 87, 88, 89, 90, 91, 92, 93, 94, 95, 96, 97, 98, 99, 100, 101, 102, 103, 104, 113, 114, 115, 116, 117, 118, 119, 120, 121, 122, 123, 124, 125, 126, 127, 128, 129, 130, 131, 132, 133, 134, 105, 106, 107, 108, 109, 110, 111, 112], []⟩], [⟨17, 0, @R_math_bits_Div64_0 (@L_math_bits_Div64_0)⟩,
  ⟨24, 0, @R_math_bits_Div64_1 (@L_math_bits_Div64_1)⟩], [], [], (some ⟨0, [0, 1, 2, 3, 4, 5, 8, 9, 10, 11, 12, 13, 14, 15, 16, 17, 18, 19, 20, 21, 22, 23, 24, 25, 26, 27, 28, 29, 30, 31, 32, 33, 34, 35, 36, 37, 38, 39, 40, 41, 42, 43, 44, 45, 46, 47, 48, 49, 50, 51, 52, 53, 54, 55, 56, 57, 58, 59, 60,
  61, 62, 63, 64, 65, 66, 67, 68, 69, 70, 71, 72, 73, 74, 75, 76, 77, 78, 79, 80, 81, 82, 83, 84, 85, 86, 87, 88, 89, 90, 91, 92, 93, 94, 95, 96, 97, 98, 99, 100, 101, 102, 103, 104, 105, 106, 107, 108, 109, 110, 111, 112, 113, 114, 115, 116, 117, 118, 119, 120, 121, 122, 123, 124, 125, 126, 127, 128,
  129, 130, 131, 132, 133, 134], []⟩)⟩ (tmpsOf Try.prog 90) kk 200 (loopIn Try.prog 90 24) := SumOK.of (id := 24) (k0 := 0) (run := @R_math_bits_Div64_1 (@L_math_bits_Div64_1)) (by kernel_rfl) fun s K r hr => by
    unfold R_math_bits_Div64_1 at hr
    obtain ⟨b, hb, hr1⟩ := Option.bind_eq_some_iff.1 hr
    have e := ((Q_math_bits_Div64_1).ok s b hb).trans (q_math_bits_Div64_1 b)
    subst e
    exact ⟨200, (it_math_bits_Div64_1 b.1.2.2.1 b.1.2.2.2.2.2.2.2.2.1 b.1.2.2.2.2.2.2.2.2.2.1 b.1.2.2.2.2.2.2.2.2.2.2.1 b.1.2.2.2.2.2.2.2.2.2.2.2.2.2.2.1 b.1.2.2.2.2.2.2.2.2.2.2.2.2.2.2.2.1 b.1.2.2.2.2.2.2.2.2.2.2.2.2.2.2.2.2.1 b.1.2.2.2.2.2.2.2.2.2.2.2.2.2.2.2.2.2.1 b.1.2.2.2.2.2.2.2.2.2.2.2.2.2.2.2.2.2.2.1 K).trans hr1⟩
def K_math_bits_Div64 {ρ : Type} (g_math_bits_LeadingZeros64 : Int → Option Int) (l_0 : ∀ {ρ : Type}, (Int × Int × Int × Int × Int × Int × Int × Int × Int) → ((Int × Int × Int × Int × Int × Int × Int × Int × Int × Int × Bool × Int × Bool ⊕ Int × Int × Int × Int × Int × Int × Int × Int × Int × Int × Bool ×
  Int × Int × Int × Int × Bool × Bool ⊕ Int × Int × Int × Int × Int × Int × Int × Int × Int × Bool × Int × Int × Int × Bool) → Option ρ) → Option ρ) (l_1 : ∀ {ρ : Type}, (Int × Int × Int × Int × Int × Int × Int × Int × Int) → ((Int × Int × Int × Int × Int × Int × Int × Int × Int × Int × Bool × Int × Bool ⊕ Int ×
  Int × Int × Int × Int × Int × Int × Int × Int × Int × Bool × Int × Int × Int × Int × Bool × Bool ⊕ Int × Int × Int × Int × Int × Int × Int × Int × Int × Bool × Int × Int × Int × Bool) → Option ρ) → Option ρ) (x0 : Int) (x1 : Int) (x2 : Int) (k : (Int × Int) → Option ρ) : Option ρ := bif x2 == 0 then
  none else bif decide (x2 ≤ x0) then none else bif x0 == 0 then bif !decide (x2 = 0) then bif !decide (x2 = 0) then k (IntKind.wrap IntKind.u64 (Int.tdiv x1 x2), Int.tmod x1 x2) else none else none else Option.bind (g_math_bits_LeadingZeros64 x2) fun (d : Int) => bif !decide (IntKind.wrap IntKind.u64 d < 0) then
  bif !decide (IntKind.wrap IntKind.u64 d < 0) then bif !decide (IntKind.wrap IntKind.u64 (64 - IntKind.wrap IntKind.u64 d) < 0) then bif !decide (IntKind.wrap IntKind.u64 d < 0) then bif !decide (Int.fdiv (IntKind.wrap IntKind.u64 (x2 * 2 ^ min (Int.toNat (IntKind.wrap IntKind.u64 d)) 64)) 4294967296 = 0) then
  l_0 (IntKind.wrap IntKind.u64 (x2 * 2 ^ min (Int.toNat (IntKind.wrap IntKind.u64 d)) 64), IntKind.wrap IntKind.u64 d, Int.fdiv (IntKind.wrap IntKind.u64 (x2 * 2 ^ min (Int.toNat (IntKind.wrap IntKind.u64 d)) 64)) 4294967296, IntKind.wrap IntKind.u64 (Int.ofNat (BitVec.toNat (BitVec.ofInt 64 (IntKind.wrap IntKind.u64 (x2 * 2 ^ min (Int.toNat (IntKind.wrap IntKind.u64 d)) 64)) &&& BitVec.ofInt 64 4294967295))),
  IntKind.wrap IntKind.u64 (Int.ofNat (BitVec.toNat (BitVec.ofInt 64 (IntKind.wrap IntKind.u64 (x0 * 2 ^ min (Int.toNat (IntKind.wrap IntKind.u64 d)) 64)) ||| BitVec.ofInt 64 (Int.fdiv x1 (2 ^ min (Int.toNat (IntKind.wrap IntKind.u64 (64 - IntKind.wrap IntKind.u64 d))) 64))))), Int.fdiv (IntKind.wrap IntKind.u64 (x1 * 2 ^ min (Int.toNat (IntKind.wrap IntKind.u64 d)) 64)) 4294967296,
  IntKind.wrap IntKind.u64 (Int.ofNat (BitVec.toNat (BitVec.ofInt 64 (IntKind.wrap IntKind.u64 (x1 * 2 ^ min (Int.toNat (IntKind.wrap IntKind.u64 d)) 64)) &&& BitVec.ofInt 64 4294967295))), IntKind.wrap IntKind.u64 (Int.tdiv (IntKind.wrap IntKind.u64 (Int.ofNat (BitVec.toNat (BitVec.ofInt 64 (IntKind.wrap IntKind.u64 (x0 * 2 ^ min (Int.toNat (IntKind.wrap IntKind.u64 d)) 64)) ||| BitVec.ofInt 64 (Int.fdiv x1 (2 ^ min (Int.toNat (IntKind.wrap IntKind.u64 (64 - IntKind.wrap IntKind.u64 d))) 64)))))) (Int.fdiv (IntKind.wrap IntKind.u64 (x2 * 2 ^ min (Int.toNat (IntKind.wrap IntKind.u64 d)) 64)) 4294967296)),
  IntKind.wrap IntKind.u64 (IntKind.wrap IntKind.u64 (Int.ofNat (BitVec.toNat (BitVec.ofInt 64 (IntKind.wrap IntKind.u64 (x0 * 2 ^ min (Int.toNat (IntKind.wrap IntKind.u64 d)) 64)) ||| BitVec.ofInt 64 (Int.fdiv x1 (2 ^ min (Int.toNat (IntKind.wrap IntKind.u64 (64 - IntKind.wrap IntKind.u64 d))) 64))))) - IntKind.wrap IntKind.u64 (IntKind.wrap IntKind.u64 (Int.tdiv (IntKind.wrap IntKind.u64 (Int.ofNat (BitVec.toNat (BitVec.ofInt 64 (IntKind.wrap IntKind.u64 (x0 * 2 ^ min (Int.toNat (IntKind.wrap IntKind.u64 d)) 64)) ||| BitVec.ofInt 64 (Int.fdiv x1 (2 ^ min (Int.toNat (IntKind.wrap IntKind.u64 (64 - IntKind.wrap IntKind.u64 d))) 64)))))) (Int.fdiv (IntKind.wrap IntKind.u64 (x2 * 2 ^ min (Int.toNat (IntKind.wrap IntKind.u64 d)) 64)) 4294967296)) * Int.fdiv (IntKind.wrap IntKind.u64 (x2 * 2 ^ min (Int.toNat (IntKind.wrap IntKind.u64 d)) 64)) 4294967296))) (Sum.elim (fun (d : Int ×
  Int × Int × Int × Int × Int × Int × Int × Int × Int × Bool × Int × Bool) => bif !decide (d.2.2.1 = 0) then l_1 (d.1, d.2.1, d.2.2.1, d.2.2.2.1, d.2.2.2.2.2.2.1, d.2.2.2.2.2.2.2.1, IntKind.wrap IntKind.u64 (IntKind.wrap IntKind.u64 (IntKind.wrap IntKind.u64 (IntKind.wrap IntKind.u64 (d.2.2.2.2.1 * 4294967296) + d.2.2.2.2.2.1) - IntKind.wrap IntKind.u64 (d.2.2.2.2.2.2.2.1 * d.1)) - IntKind.wrap IntKind.u64 (IntKind.wrap IntKind.u64 (Int.tdiv (IntKind.wrap IntKind.u64 (IntKind.wrap IntKind.u64 (IntKind.wrap IntKind.u64 (d.2.2.2.2.1 * 4294967296) + d.2.2.2.2.2.1) - IntKind.wrap IntKind.u64 (d.2.2.2.2.2.2.2.1 * d.1))) d.2.2.1) * d.2.2.1)),
  IntKind.wrap IntKind.u64 (IntKind.wrap IntKind.u64 (IntKind.wrap IntKind.u64 (d.2.2.2.2.1 * 4294967296) + d.2.2.2.2.2.1) - IntKind.wrap IntKind.u64 (d.2.2.2.2.2.2.2.1 * d.1)), IntKind.wrap IntKind.u64 (Int.tdiv (IntKind.wrap IntKind.u64 (IntKind.wrap IntKind.u64 (IntKind.wrap IntKind.u64 (d.2.2.2.2.1 * 4294967296) + d.2.2.2.2.2.1) - IntKind.wrap IntKind.u64 (d.2.2.2.2.2.2.2.1 * d.1))) d.2.2.1)) (Sum.elim (fun (d : Int ×
  Int × Int × Int × Int × Int × Int × Int × Int × Int × Bool × Int × Bool) => bif !decide (d.2.1 < 0) then k (IntKind.wrap IntKind.u64 (IntKind.wrap IntKind.u64 (d.2.2.2.2.2.1 * 4294967296) + d.2.2.2.2.2.2.2.2.1), Int.fdiv (IntKind.wrap IntKind.u64 (IntKind.wrap IntKind.u64 (IntKind.wrap IntKind.u64 (d.2.2.2.2.2.2.2.1 * 4294967296) + d.2.2.2.2.1) - IntKind.wrap IntKind.u64 (d.2.2.2.2.2.2.2.2.1 * d.1))) (2 ^ min (Int.toNat d.2.1) 64)) else
  none) (Sum.elim (fun (d : Int × Int × Int × Int × Int × Int × Int × Int × Int × Int × Bool × Int × Int × Int × Int × Bool × Bool) => bif !decide (d.2.1 < 0) then k (IntKind.wrap IntKind.u64 (IntKind.wrap IntKind.u64 (d.2.2.2.2.2.1 * 4294967296) + d.2.2.2.2.2.2.2.2.1),
  Int.fdiv (IntKind.wrap IntKind.u64 (IntKind.wrap IntKind.u64 (IntKind.wrap IntKind.u64 (d.2.2.2.2.2.2.2.1 * 4294967296) + d.2.2.2.2.1) - IntKind.wrap IntKind.u64 (d.2.2.2.2.2.2.2.2.1 * d.1))) (2 ^ min (Int.toNat d.2.1) 64)) else none) fun (d : Int × Int ×
  Int × Int × Int × Int × Int × Int × Int × Bool × Int × Int × Int × Bool) => bif !decide (d.2.1 < 0) then k (IntKind.wrap IntKind.u64 (IntKind.wrap IntKind.u64 (d.2.2.2.2.2.1 * 4294967296) + d.2.2.2.2.2.2.2.2.1), Int.fdiv (IntKind.wrap IntKind.u64 (IntKind.wrap IntKind.u64 (IntKind.wrap IntKind.u64 (d.2.2.2.2.2.2.2.1 * 4294967296) + d.2.2.2.2.1) - IntKind.wrap IntKind.u64 (d.2.2.2.2.2.2.2.2.1 * d.1))) (2 ^ min (Int.toNat d.2.1) 64)) else
  none)) else none) (Sum.elim (fun (d : Int × Int × Int × Int × Int × Int × Int × Int × Int × Int × Bool × Int × Int × Int × Int × Bool × Bool) => bif !decide (d.2.2.1 = 0) then l_1 (d.1, d.2.1, d.2.2.1, d.2.2.2.1, d.2.2.2.2.2.2.1, d.2.2.2.2.2.2.2.1,
  IntKind.wrap IntKind.u64 (IntKind.wrap IntKind.u64 (IntKind.wrap IntKind.u64 (IntKind.wrap IntKind.u64 (d.2.2.2.2.1 * 4294967296) + d.2.2.2.2.2.1) - IntKind.wrap IntKind.u64 (d.2.2.2.2.2.2.2.1 * d.1)) - IntKind.wrap IntKind.u64 (IntKind.wrap IntKind.u64 (Int.tdiv (IntKind.wrap IntKind.u64 (IntKind.wrap IntKind.u64 (IntKind.wrap IntKind.u64 (d.2.2.2.2.1 * 4294967296) + d.2.2.2.2.2.1) - IntKind.wrap IntKind.u64 (d.2.2.2.2.2.2.2.1 * d.1))) d.2.2.1) * d.2.2.1)),
  IntKind.wrap IntKind.u64 (IntKind.wrap IntKind.u64 (IntKind.wrap IntKind.u64 (d.2.2.2.2.1 * 4294967296) + d.2.2.2.2.2.1) - IntKind.wrap IntKind.u64 (d.2.2.2.2.2.2.2.1 * d.1)), IntKind.wrap IntKind.u64 (Int.tdiv (IntKind.wrap IntKind.u64 (IntKind.wrap IntKind.u64 (IntKind.wrap IntKind.u64 (d.2.2.2.2.1 * 4294967296) + d.2.2.2.2.2.1) - IntKind.wrap IntKind.u64 (d.2.2.2.2.2.2.2.1 * d.1))) d.2.2.1)) (Sum.elim (fun (d : Int ×
  Int × Int × Int × Int × Int × Int × Int × Int × Int × Bool × Int × Bool) => bif !decide (d.2.1 < 0) then k (IntKind.wrap IntKind.u64 (IntKind.wrap IntKind.u64 (d.2.2.2.2.2.1 * 4294967296) + d.2.2.2.2.2.2.2.2.1), Int.fdiv (IntKind.wrap IntKind.u64 (IntKind.wrap IntKind.u64 (IntKind.wrap IntKind.u64 (d.2.2.2.2.2.2.2.1 * 4294967296) + d.2.2.2.2.1) - IntKind.wrap IntKind.u64 (d.2.2.2.2.2.2.2.2.1 * d.1))) (2 ^ min (Int.toNat d.2.1) 64)) else
  none) (Sum.elim (fun (d : Int × Int × Int × Int × Int × Int × Int × Int × Int × Int × Bool × Int × Int × Int × Int × Bool × Bool) => bif !decide (d.2.1 < 0) then k (IntKind.wrap IntKind.u64 (IntKind.wrap IntKind.u64 (d.2.2.2.2.2.1 * 4294967296) + d.2.2.2.2.2.2.2.2.1),
  Int.fdiv (IntKind.wrap IntKind.u64 (IntKind.wrap IntKind.u64 (IntKind.wrap IntKind.u64 (d.2.2.2.2.2.2.2.1 * 4294967296) + d.2.2.2.2.1) - IntKind.wrap IntKind.u64 (d.2.2.2.2.2.2.2.2.1 * d.1))) (2 ^ min (Int.toNat d.2.1) 64)) else none) fun (d : Int × Int ×
  Int × Int × Int × Int × Int × Int × Int × Bool × Int × Int × Int × Bool) => bif !decide (d.2.1 < 0) then k (IntKind.wrap IntKind.u64 (IntKind.wrap IntKind.u64 (d.2.2.2.2.2.1 * 4294967296) + d.2.2.2.2.2.2.2.2.1), Int.fdiv (IntKind.wrap IntKind.u64 (IntKind.wrap IntKind.u64 (IntKind.wrap IntKind.u64 (d.2.2.2.2.2.2.2.1 * 4294967296) + d.2.2.2.2.1) - IntKind.wrap IntKind.u64 (d.2.2.2.2.2.2.2.2.1 * d.1))) (2 ^ min (Int.toNat d.2.1) 64)) else
  none)) else none) fun (d : Int × Int × Int × Int × Int × Int × Int × Int × Int × Bool × Int × Int × Int × Bool) => bif !decide (d.2.2.1 = 0) then l_1 (d.1, d.2.1, d.2.2.1, d.2.2.2.1, d.2.2.2.2.2.2.1, d.2.2.2.2.2.2.2.1, IntKind.wrap IntKind.u64 (IntKind.wrap IntKind.u64 (IntKind.wrap IntKind.u64 (IntKind.wrap IntKind.u64 (d.2.2.2.2.1 * 4294967296) + d.2.2.2.2.2.1) - IntKind.wrap IntKind.u64 (d.2.2.2.2.2.2.2.1 * d.1)) - IntKind.wrap IntKind.u64 (IntKind.wrap IntKind.u64 (Int.tdiv (IntKind.wrap IntKind.u64 (IntKind.wrap IntKind.u64 (IntKind.wrap IntKind.u64 (d.2.2.2.2.1 * 4294967296) + d.2.2.2.2.2.1) - IntKind.wrap IntKind.u64 (d.2.2.2.2.2.2.2.1 * d.1))) d.2.2.1) * d.2.2.1)),
  IntKind.wrap IntKind.u64 (IntKind.wrap IntKind.u64 (IntKind.wrap IntKind.u64 (d.2.2.2.2.1 * 4294967296) + d.2.2.2.2.2.1) - IntKind.wrap IntKind.u64 (d.2.2.2.2.2.2.2.1 * d.1)), IntKind.wrap IntKind.u64 (Int.tdiv (IntKind.wrap IntKind.u64 (IntKind.wrap IntKind.u64 (IntKind.wrap IntKind.u64 (d.2.2.2.2.1 * 4294967296) + d.2.2.2.2.2.1) - IntKind.wrap IntKind.u64 (d.2.2.2.2.2.2.2.1 * d.1))) d.2.2.1)) (Sum.elim (fun (d : Int ×
  Int × Int × Int × Int × Int × Int × Int × Int × Int × Bool × Int × Bool) => bif !decide (d.2.1 < 0) then k (IntKind.wrap IntKind.u64 (IntKind.wrap IntKind.u64 (d.2.2.2.2.2.1 * 4294967296) + d.2.2.2.2.2.2.2.2.1), Int.fdiv (IntKind.wrap IntKind.u64 (IntKind.wrap IntKind.u64 (IntKind.wrap IntKind.u64 (d.2.2.2.2.2.2.2.1 * 4294967296) + d.2.2.2.2.1) - IntKind.wrap IntKind.u64 (d.2.2.2.2.2.2.2.2.1 * d.1))) (2 ^ min (Int.toNat d.2.1) 64)) else
  none) (Sum.elim (fun (d : Int × Int × Int × Int × Int × Int × Int × Int × Int × Int × Bool × Int × Int × Int × Int × Bool × Bool) => bif !decide (d.2.1 < 0) then k (IntKind.wrap IntKind.u64 (IntKind.wrap IntKind.u64 (d.2.2.2.2.2.1 * 4294967296) + d.2.2.2.2.2.2.2.2.1),
  Int.fdiv (IntKind.wrap IntKind.u64 (IntKind.wrap IntKind.u64 (IntKind.wrap IntKind.u64 (d.2.2.2.2.2.2.2.1 * 4294967296) + d.2.2.2.2.1) - IntKind.wrap IntKind.u64 (d.2.2.2.2.2.2.2.2.1 * d.1))) (2 ^ min (Int.toNat d.2.1) 64)) else none) fun (d : Int × Int ×
  Int × Int × Int × Int × Int × Int × Int × Bool × Int × Int × Int × Bool) => bif !decide (d.2.1 < 0) then k (IntKind.wrap IntKind.u64 (IntKind.wrap IntKind.u64 (d.2.2.2.2.2.1 * 4294967296) + d.2.2.2.2.2.2.2.2.1), Int.fdiv (IntKind.wrap IntKind.u64 (IntKind.wrap IntKind.u64 (IntKind.wrap IntKind.u64 (d.2.2.2.2.2.2.2.1 * 4294967296) + d.2.2.2.2.1) - IntKind.wrap IntKind.u64 (d.2.2.2.2.2.2.2.2.1 * d.1))) (2 ^ min (Int.toNat d.2.1) 64)) else
  none)) else none)) else none else none else none else none else none
def f_math_bits_Div64 (x0 : Int) (x1 : Int) (x2 : Int) : Option (Int × Int) := K_math_bits_Div64 f_math_bits_LeadingZeros64 (@L_math_bits_Div64_0) (@L_math_bits_Div64_1) x0 x1 x2 some
section
open Go.Ab.Rdr
def QA_math_bits_Div64 := ((pair (cons (ar (rc (cf (fi .u64 hole)))) (cons (ar (rc (cf (fi .u64 hole)))) (cons (ar (rc (cf (fi .u64 hole)))) nil))) nil) : Rdr (List AV × List Blk) _)
end
def F_math_bits_Div64 (f : (Int) → (Int) → (Int) → Option (Int × Int)) : Sem1 := fun args h => match (QA_math_bits_Div64).rd (args, h) with
  | some b => .opt (f b.1.1 b.1.2.1 b.1.2.2.1) fun (d : Int × Int) => .leaf (Res.mk (AV.tup [RV.c (CV.f (FV.i IntKind.u64 d.1)), RV.c (CV.f (FV.i IntKind.u64 d.2))]) [] [])
  | none => .fail
theorem d_math_bits_Div64 (g_math_bits_LeadingZeros64 : Int → Option Int) (l_0 : ∀ {ρ : Type}, (Int × Int × Int × Int × Int × Int × Int × Int × Int) → ((Int × Int × Int × Int × Int × Int × Int × Int × Int × Int × Bool × Int × Bool ⊕ Int × Int × Int × Int × Int × Int × Int × Int × Int × Int × Bool × Int ×
  Int × Int × Int × Bool × Bool ⊕ Int × Int × Int × Int × Int × Int × Int × Int × Int × Bool × Int × Int × Int × Bool) → Option ρ) → Option ρ) (l_1 : ∀ {ρ : Type}, (Int × Int × Int × Int × Int × Int × Int × Int × Int) → ((Int × Int × Int × Int × Int × Int × Int × Int × Int × Int × Bool × Int × Bool ⊕ Int ×
  Int × Int × Int × Int × Int × Int × Int × Int × Int × Bool × Int × Int × Int × Int × Bool × Bool ⊕ Int × Int × Int × Int × Int × Int × Int × Int × Int × Bool × Int × Int × Int × Bool) → Option ρ) → Option ρ) (x0 : Int) (x1 : Int) (x2 : Int) : den Try.prog (envOf [(94, F_math_bits_LeadingZeros64 g_math_bits_LeadingZeros64)]) ⟨[⟨17,
  [0, 1, 3, 4, 5, 6, 7, 12, 17, 18, 19, 20, 21, 22, 23, 24, 25, 26, 27, 28, 29, 30, 31, 32, 33, 34, 35, 36, 37, 38, 39, 40, 41, 42, 43, 44, 45, 46, 47, 48, 49, 50, 51, 52, 53, 54, 55, 56, 57, 58, 59, 60, 61, 62, 63, 64, 65, 66, 67, 68, 69, 78, 79, 80, 81, 82, 83, 84, 85, 86, 87, 88, 89, 90, 91, 92, 93,
  94, 95, 96, 97, 98, 99, 100, 101, 102, 103, 104, 113, 114, 115, 116, 117, 118, 119, 120, 121, 122, 123, 124, 125, 126, 127, 128, 129, 130, 131, 132, 133, 134, 70, 71, 72, 73, 74, 75, 76, 77], []⟩, ⟨24, [0, 1, 3, 4, 5, 6, 7, 11, 12, 13, 19, 20, 21, 22, 23, 24, 25, 26, 27, 28, 29, 30, 31, 32, 33, 34, 35,
  36, 37, 38, 39, 40, 41, 42, 43, 44, 45, 46, 47, 48, 49, 50, 51, 52, 53, 54, 55, 56, 57, 58, 59, 60, 61, 62, 63, 64, 65, 66, 67, 68, 69, 70, 71, 72, 73, 74, 75, 76, 77, 78, 79, 80, 81, 82, 83, 84, 85, 86, 87, 88, 89, 90, 91, 92, 93, 94, 95, 96, 97, 98, 99, 100, 101, 102, 103, 104, 113, 114, 115, 116,
  117, 118, 119, 120, 121, 122, 123, 124, 125, 126, 127, 128, 129, 130, 131, 132, 133, 134, 105, 106, 107, 108, 109, 110, 111, 112], []⟩], [⟨17, 0, @R_math_bits_Div64_0 (@l_0)⟩, ⟨24, 0, @R_math_bits_Div64_1 (@l_1)⟩], [], [], (some ⟨0, [0, 1, 2, 3, 4, 5, 8, 9, 10, 11, 12, 13, 14, 15, 16, 17, 18, 19, 20,
  21, 22, 23, 24, 25, 26, 27, 28, 29, 30, 31, 32, 33, 34, 35, 36, 37, 38, 39, 40, 41, 42, 43, 44, 45, 46, 47, 48, 49, 50, 51, 52, 53, 54, 55, 56, 57, 58, 59, 60, 61, 62, 63, 64, 65, 66, 67, 68, 69, 70, 71, 72, 73, 74, 75, 76, 77, 78, 79, 80, 81, 82, 83, 84, 85, 86, 87, 88, 89, 90, 91, 92, 93, 94, 95, 96,
  97, 98, 99, 100, 101, 102, 103, 104, 105, 106, 107, 108, 109, 110, 111, 112, 113, 114, 115, 116, 117, 118, 119, 120, 121, 122, 123, 124, 125, 126, 127, 128, 129, 130, 131, 132, 133, 134], []⟩)⟩ 200 90 [.r (.c (.f (.i .u64 x0))), .r (.c (.f (.i .u64 x1))), .r (.c (.f (.i .u64 x2)))] [] = K_math_bits_Div64 g_math_bits_LeadingZeros64 (@l_0) (@l_1) x0 x1 x2 (fun (d : Int ×
  Int) => some (Res.mk (AV.tup [RV.c (CV.f (FV.i IntKind.u64 d.1)), RV.c (CV.f (FV.i IntKind.u64 d.2))]) [] [])) := by kernel_rfl
theorem m_math_bits_Div64 {ρ σ : Type} (q : ρ → Option σ) (g_math_bits_LeadingZeros64 : Int → Option Int) (l_0 : ∀ {ρ : Type}, (Int × Int × Int × Int × Int × Int × Int × Int × Int) → ((Int × Int × Int × Int × Int × Int × Int × Int × Int × Int × Bool × Int × Bool ⊕ Int × Int × Int × Int × Int × Int ×
  Int × Int × Int × Int × Bool × Int × Int × Int × Int × Bool × Bool ⊕ Int × Int × Int × Int × Int × Int × Int × Int × Int × Bool × Int × Int × Int × Bool) → Option ρ) → Option ρ) (l_1 : ∀ {ρ : Type}, (Int × Int × Int × Int × Int × Int × Int × Int × Int) → ((Int × Int × Int × Int × Int × Int × Int × Int ×
  Int × Int × Bool × Int × Bool ⊕ Int × Int × Int × Int × Int × Int × Int × Int × Int × Int × Bool × Int × Int × Int × Int × Bool × Bool ⊕ Int × Int × Int × Int × Int × Int × Int × Int × Int × Bool × Int × Int × Int × Bool) → Option ρ) → Option ρ) (hl_0 : ∀ {ρ σ : Type} (q : ρ → Option σ) (d : Int × Int ×
  Int × Int × Int × Int × Int × Int × Int) (k : (Int × Int × Int × Int × Int × Int × Int × Int × Int × Int × Bool × Int × Bool ⊕ Int × Int × Int × Int × Int × Int × Int × Int × Int × Int × Bool × Int × Int × Int × Int × Bool × Bool ⊕ Int × Int × Int × Int × Int × Int × Int × Int × Int × Bool × Int × Int ×
  Int × Bool) → Option ρ), (l_0 d k).bind q = l_0 d fun x => (k x).bind q) (hl_1 : ∀ {ρ σ : Type} (q : ρ → Option σ) (d : Int × Int × Int × Int × Int × Int × Int × Int × Int) (k : (Int × Int × Int × Int × Int × Int × Int × Int × Int × Int × Bool × Int × Bool ⊕ Int × Int × Int × Int × Int × Int × Int ×
  Int × Int × Int × Bool × Int × Int × Int × Int × Bool × Bool ⊕ Int × Int × Int × Int × Int × Int × Int × Int × Int × Bool × Int × Int × Int × Bool) → Option ρ), (l_1 d k).bind q = l_1 d fun x => (k x).bind q) (x0 : Int) (x1 : Int) (x2 : Int) (k : (Int × Int) → Option ρ) : (K_math_bits_Div64 g_math_bits_LeadingZeros64 (@l_0) (@l_1) x0 x1 x2 k).bind q = K_math_bits_Div64 g_math_bits_LeadingZeros64 (@l_0) (@l_1) x0 x1 x2 (fun d => (k d).bind q) := by
  simp only [K_math_bits_Div64, bnd_cond, bnd_bind, bnd_none, bnd_sum, hl_0, hl_1]
theorem qa_math_bits_Div64 : ∀ b, (QA_math_bits_Div64).em b = ([.r (.c (.f (.i .u64 b.1.1))), .r (.c (.f (.i .u64 b.1.2.1))), .r (.c (.f (.i .u64 b.1.2.2.1)))], []) := fun b => by kernel_rfl
theorem e_math_bits_Div64 {f : (Int) → (Int) → (Int) → Option (Int × Int)} {args : List AV} {h : List Blk} {r : Res} (hr : (F_math_bits_Div64 f args h).eval = some r) : ∃ x0 x1 x2, args = [.r (.c (.f (.i .u64 x0))), .r (.c (.f (.i .u64 x1))), .r (.c (.f (.i .u64 x2)))] ∧ h = [] ∧ (f x0 x1 x2).bind (fun (d : Int × Int) => some (Res.mk (AV.tup [RV.c (CV.f (FV.i IntKind.u64 d.1)), RV.c (CV.f (FV.i IntKind.u64 d.2))]) [] [])) = some r := by
  unfold F_math_bits_Div64 at hr
  split at hr
  · rename_i b hb
    have e := ((QA_math_bits_Div64).ok _ _ hb).trans (qa_math_bits_Div64 b)
    rw [opt_eval2] at hr
    exact ⟨b.1.1, b.1.2.1, b.1.2.2.1, (Prod.mk.inj e).1, (Prod.mk.inj e).2, hr⟩
  · cases hr
theorem n_math_bits_Div64 {σ : Type} (q : (Int × Int) → Option σ) (x0 : Int) (x1 : Int) (x2 : Int) : (f_math_bits_Div64 x0 x1 x2).bind q = K_math_bits_Div64 f_math_bits_LeadingZeros64 (@L_math_bits_Div64_0) (@L_math_bits_Div64_1) x0 x1 x2 q := by
  unfold f_math_bits_Div64
  exact m_math_bits_Div64 q f_math_bits_LeadingZeros64 (@L_math_bits_Div64_0) (@L_math_bits_Div64_1) (fun q d k => mL_math_bits_Div64_0 q d k) (fun q d k => mL_math_bits_Div64_1 q d k) x0 x1 x2 some
theorem s_math_bits_Div64 [Amb] : Sound Try.prog 90 (F_math_bits_Div64 f_math_bits_Div64) := (inl_sums (l := [(94, F_math_bits_LeadingZeros64 f_math_bits_LeadingZeros64)]) (.cons s_math_bits_LeadingZeros64 (.nil _)) mixed (hs := ⟨[⟨17, [0, 1, 3, 4, 5, 6, 7, 12, 17, 18, 19, 20, 21, 22, 23, 24,
  25, 26, 27, 28, 29, 30, 31, 32, 33, 34, 35, 36, 37, 38, 39, 40, 41, 42, 43, 44, 45, 46, 47, 48, 49, 50, 51, 52, 53, 54, 55, 56, 57, 58, 59, 60, 61, 62, 63, 64, 65, 66, 67, 68, 69, 78, 79, 80, 81, 82, 83, 84, 85, 86, 87, 88, 89, 90, 91, 92, 93, 94, 95, 96, 97, 98, 99, 100, 101, 102, 103, 104, 113, 114,
  115, 116, 117, 118, 119, 120, 121, 122, 123, 124, 125, 126, 127, 128, 129, 130, 131, 132, 133, 134, 70, 71, 72, 73, 74, 75, 76, 77], []⟩, ⟨24, [0, 1, 3, 4, 5, 6, 7, 11, 12, 13, 19, 20, 21, 22, 23, 24, 25, 26, 27, 28, 29, 30, 31, 32, 33, 34, 35, 36, 37, 38, 39, 40, 41, 42, 43, 44, 45, 46, 47, 48, 49,
  50, 51, 52, 53, 54, 55, 56, 57, 58, 59, 60, 61, 62, 63, 64, 65, 66, 67, 68, 69, 70, 71, 72, 73, 74, 75, 76, 77, 78, 79, 80, 81, 82, 83, 84, 85, 86, 87, 88, 89, 90, 91, 92, 93, 94, 95, 96, 97, 98, 99, 100, 101, 102, 103, 104, 113, 114, 115, 116, 117, 118, 119, 120, 121, 122, 123, 124, 125, 126, 127, 128,
  129, 130, 131, 132, 133, 134, 105, 106, 107, 108, 109, 110, 111, 112], []⟩], [⟨17, 0, @R_math_bits_Div64_0 (@L_math_bits_Div64_0)⟩, ⟨24, 0, @R_math_bits_Div64_1 (@L_math_bits_Div64_1)⟩], [], [], (some ⟨0, [0, 1, 2, 3, 4, 5, 8, 9, 10, 11, 12, 13, 14, 15, 16, 17, 18, 19, 20, 21, 22, 23, 24, 25, 26, 27,
  28, 29, 30, 31, 32, 33, 34, 35, 36, 37, 38, 39, 40, 41, 42, 43, 44, 45, 46, 47, 48, 49, 50, 51, 52, 53, 54, 55, 56, 57, 58, 59, 60, 61, 62, 63, 64, 65, 66, 67, 68, 69, 70, 71, 72, 73, 74, 75, 76, 77, 78, 79, 80, 81, 82, 83, 84, 85, 86, 87, 88, 89, 90, 91, 92, 93, 94, 95, 96, 97, 98, 99, 100, 101, 102,
  103, 104, 105, 106, 107, 108, 109, 110, 111, 112, 113, 114, 115, 116, 117, 118, 119, 120, 121, 122, 123, 124, 125, 126, 127, 128, 129, 130, 131, 132, 133, 134], []⟩)⟩) (lf := 200) (Sums.by (l := [loopIn Try.prog 90 17, loopIn Try.prog 90 24]) (lj := []) (by kernel_rfl) ⟨so_math_bits_Div64_0,
  ⟨so_math_bits_Div64_1, trivial⟩⟩ (by kernel_rfl) trivial) (by kernel_rfl)).by (F := F_math_bits_Div64 f_math_bits_Div64) fun args b r hr => by
  obtain ⟨x0, x1, x2, rfl, rfl, hr1⟩ := e_math_bits_Div64 hr
  exact inl_eval ((d_math_bits_Div64 f_math_bits_LeadingZeros64 (@L_math_bits_Div64_0) (@L_math_bits_Div64_1) x0 x1 x2).trans ((n_math_bits_Div64 (fun (d : Int × Int) => some (Res.mk (AV.tup [RV.c (CV.f (FV.i IntKind.u64 d.1)), RV.c (CV.f (FV.i IntKind.u64 d.2))]) [] [])) x0 x1 x2).symm.trans hr1))

def K__wide_big__plus {ρ : Type} (g_Add64 : C3) (x0 : Int) (x1 : Int) (x2 : Int) (x3 : Int) (k : (Int × Int) → Option ρ) : Option ρ := Option.bind (g_Add64 x1 x3 0) fun (d : Int × Int) => Option.bind (g_Add64 x0 x2 d.2) fun (d_1 : Int × Int) => k (d_1.1, d.1)
def f__wide_big__plus (x0 : Int) (x1 : Int) (x2 : Int) (x3 : Int) : Option (Int × Int) := K__wide_big__plus f_Add64  x0 x1 x2 x3 some
section
open Go.Ab.Rdr
def QA__wide_big__plus := ((pair (cons (ar (ra (cons (gc (cf (fi .u64 hole))) (cons (gc (cf (fi .u64 hole))) nil)))) (cons (ar (ra (cons (gc (cf (fi .u64 hole))) (cons (gc (cf (fi .u64 hole))) nil)))) nil)) nil) : Rdr (List AV × List Blk) _)
end
def F__wide_big__plus (f : (Int) → (Int) → (Int) → (Int) → Option (Int × Int)) : Sem1 := fun args h => match (QA__wide_big__plus).rd (args, h) with
  | some b => .opt (f b.1.1.1 b.1.1.2.1 b.1.2.1.1 b.1.2.1.2.1) fun (d : Int × Int) => .leaf (Res.mk (AV.r (RV.agg [Sg.c (CV.f (FV.i IntKind.u64 d.1)), Sg.c (CV.f (FV.i IntKind.u64 d.2))])) [] [])
  | none => .fail
theorem d__wide_big__plus (g_Add64 : C3) (x0 : Int) (x1 : Int) (x2 : Int) (x3 : Int) : den Try.prog (envOf [(91, F_carry g_Add64)]) ⟨[], [], [], [], none⟩ 200 83 [.r (.agg [.c (.f (.i .u64 x0)), .c (.f (.i .u64 x1))]), .r (.agg [.c (.f (.i .u64 x2)), .c (.f (.i .u64 x3))])] [] = K__wide_big__plus g_Add64 x0 x1 x2 x3 (fun (d : Int ×
  Int) => some (Res.mk (AV.r (RV.agg [Sg.c (CV.f (FV.i IntKind.u64 d.1)), Sg.c (CV.f (FV.i IntKind.u64 d.2))])) [] [])) := by kernel_rfl
theorem m__wide_big__plus {ρ σ : Type} (q : ρ → Option σ) (g_Add64 : C3)   (x0 : Int) (x1 : Int) (x2 : Int) (x3 : Int) (k : (Int × Int) → Option ρ) : (K__wide_big__plus g_Add64  x0 x1 x2 x3 k).bind q = K__wide_big__plus g_Add64  x0 x1 x2 x3 (fun d => (k d).bind q) := by
  simp only [K__wide_big__plus, bnd_cond, bnd_bind, bnd_none, bnd_sum]
theorem qa__wide_big__plus : ∀ b, (QA__wide_big__plus).em b = ([.r (.agg [.c (.f (.i .u64 b.1.1.1)), .c (.f (.i .u64 b.1.1.2.1))]), .r (.agg [.c (.f (.i .u64 b.1.2.1.1)), .c (.f (.i .u64 b.1.2.1.2.1))])], []) := fun b => by kernel_rfl
theorem e__wide_big__plus {f : (Int) → (Int) → (Int) → (Int) → Option (Int × Int)} {args : List AV} {h : List Blk} {r : Res} (hr : (F__wide_big__plus f args h).eval = some r) : ∃ x0 x1 x2 x3, args = [.r (.agg [.c (.f (.i .u64 x0)), .c (.f (.i .u64 x1))]), .r (.agg [.c (.f (.i .u64 x2)), .c (.f (.i .u64 x3))])] ∧ h = [] ∧ (f x0 x1 x2 x3).bind (fun (d : Int × Int) => some (Res.mk (AV.r (RV.agg [Sg.c (CV.f (FV.i IntKind.u64 d.1)), Sg.c (CV.f (FV.i IntKind.u64 d.2))])) [] [])) = some r := by
  unfold F__wide_big__plus at hr
  split at hr
  · rename_i b hb
    have e := ((QA__wide_big__plus).ok _ _ hb).trans (qa__wide_big__plus b)
    rw [opt_eval2] at hr
    exact ⟨b.1.1.1, b.1.1.2.1, b.1.2.1.1, b.1.2.1.2.1, (Prod.mk.inj e).1, (Prod.mk.inj e).2, hr⟩
  · cases hr
theorem n__wide_big__plus {σ : Type} (q : (Int × Int) → Option σ) (x0 : Int) (x1 : Int) (x2 : Int) (x3 : Int) : (f__wide_big__plus x0 x1 x2 x3).bind q = K__wide_big__plus f_Add64  x0 x1 x2 x3 q := by
  unfold f__wide_big__plus
  exact m__wide_big__plus q f_Add64   x0 x1 x2 x3 some
theorem s__wide_big__plus [Amb] : Sound Try.prog 83 (F__wide_big__plus f__wide_big__plus) := (inl_sound (l := [(91, F_carry f_Add64)]) (.cons s_Add64 (.nil _)) mixed [] [] 200 (by kernel_rfl)).by (F := F__wide_big__plus f__wide_big__plus) fun args b r hr => by
  obtain ⟨x0, x1, x2, x3, rfl, rfl, hr1⟩ := e__wide_big__plus hr
  exact inl_eval ((d__wide_big__plus f_Add64  x0 x1 x2 x3).trans ((n__wide_big__plus (fun (d : Int × Int) => some (Res.mk (AV.r (RV.agg [Sg.c (CV.f (FV.i IntKind.u64 d.1)), Sg.c (CV.f (FV.i IntKind.u64 d.2))])) [] [])) x0 x1 x2 x3).symm.trans hr1))

def K_wide_signed64 {ρ : Type} (x0 : Int) (x1 : Int) (x2 : Bool) (k : (Int × Bool) → Option ρ) : Option ρ := bif x0 != 0 then bif x0 != 0 then k (0, false) else bif x2 then k (IntKind.wrap IntKind.i64 (IntKind.wrap IntKind.u64 (0 - x1)), true) else k (IntKind.wrap IntKind.i64 x1, true) else bif !x2 then
  bif decide (x1 > 9223372036854775807) then bif decide (x1 > 9223372036854775807) then k (0, false) else bif x2 then k (IntKind.wrap IntKind.i64 (IntKind.wrap IntKind.u64 (0 - x1)), true) else k (IntKind.wrap IntKind.i64 x1, true) else bif x2 then bif decide (x1 > 9223372036854775808) then k (0, false) else
  bif x2 then k (IntKind.wrap IntKind.i64 (IntKind.wrap IntKind.u64 (0 - x1)), true) else k (IntKind.wrap IntKind.i64 x1, true) else bif x2 then k (IntKind.wrap IntKind.i64 (IntKind.wrap IntKind.u64 (0 - x1)), true) else k (IntKind.wrap IntKind.i64 x1, true) else bif x2 then bif decide (x1 > 9223372036854775808) then
  k (0, false) else bif x2 then k (IntKind.wrap IntKind.i64 (IntKind.wrap IntKind.u64 (0 - x1)), true) else k (IntKind.wrap IntKind.i64 x1, true) else bif x2 then k (IntKind.wrap IntKind.i64 (IntKind.wrap IntKind.u64 (0 - x1)), true) else k (IntKind.wrap IntKind.i64 x1, true)
def f_wide_signed64 (x0 : Int) (x1 : Int) (x2 : Bool) : Option (Int × Bool) := K_wide_signed64   x0 x1 x2 some
section
open Go.Ab.Rdr
def QA_wide_signed64 := ((pair (cons (ar (ra (cons (gc (cf (fi .u64 hole))) (cons (gc (cf (fi .u64 hole))) nil)))) (cons (ar (rc (cf (fb hole)))) nil)) nil) : Rdr (List AV × List Blk) _)
end
def F_wide_signed64 (f : (Int) → (Int) → (Bool) → Option (Int × Bool)) : Sem1 := fun args h => match (QA_wide_signed64).rd (args, h) with
  | some b => .opt (f b.1.1.1 b.1.1.2.1 b.1.2.1) fun (d : Int × Bool) => .leaf (Res.mk (AV.tup [RV.c (CV.f (FV.i IntKind.i64 d.1)), RV.c (CV.f (FV.b d.2))]) [] [])
  | none => .fail
theorem d_wide_signed64 (x0 : Int) (x1 : Int) (x2 : Bool) : den Try.prog (envOf []) ⟨[], [], [], [], none⟩ 200 84 [.r (.agg [.c (.f (.i .u64 x0)), .c (.f (.i .u64 x1))]), .r (.c (.f (.b x2)))] [] = K_wide_signed64 x0 x1 x2 (fun (d : Int × Bool) => some (Res.mk (AV.tup [RV.c (CV.f (FV.i IntKind.i64 d.1)),
  RV.c (CV.f (FV.b d.2))]) [] [])) := by kernel_rfl
theorem m_wide_signed64 {ρ σ : Type} (q : ρ → Option σ)    (x0 : Int) (x1 : Int) (x2 : Bool) (k : (Int × Bool) → Option ρ) : (K_wide_signed64   x0 x1 x2 k).bind q = K_wide_signed64   x0 x1 x2 (fun d => (k d).bind q) := by
  simp only [K_wide_signed64, bnd_cond, bnd_bind, bnd_none, bnd_sum]
theorem qa_wide_signed64 : ∀ b, (QA_wide_signed64).em b = ([.r (.agg [.c (.f (.i .u64 b.1.1.1)), .c (.f (.i .u64 b.1.1.2.1))]), .r (.c (.f (.b b.1.2.1)))], []) := fun b => by kernel_rfl
theorem e_wide_signed64 {f : (Int) → (Int) → (Bool) → Option (Int × Bool)} {args : List AV} {h : List Blk} {r : Res} (hr : (F_wide_signed64 f args h).eval = some r) : ∃ x0 x1 x2, args = [.r (.agg [.c (.f (.i .u64 x0)), .c (.f (.i .u64 x1))]), .r (.c (.f (.b x2)))] ∧ h = [] ∧ (f x0 x1 x2).bind (fun (d : Int × Bool) => some (Res.mk (AV.tup [RV.c (CV.f (FV.i IntKind.i64 d.1)), RV.c (CV.f (FV.b d.2))]) [] [])) = some r := by
  unfold F_wide_signed64 at hr
  split at hr
  · rename_i b hb
    have e := ((QA_wide_signed64).ok _ _ hb).trans (qa_wide_signed64 b)
    rw [opt_eval2] at hr
    exact ⟨b.1.1.1, b.1.1.2.1, b.1.2.1, (Prod.mk.inj e).1, (Prod.mk.inj e).2, hr⟩
  · cases hr
theorem n_wide_signed64 {σ : Type} (q : (Int × Bool) → Option σ) (x0 : Int) (x1 : Int) (x2 : Bool) : (f_wide_signed64 x0 x1 x2).bind q = K_wide_signed64   x0 x1 x2 q := by
  unfold f_wide_signed64
  exact m_wide_signed64 q    x0 x1 x2 some
theorem s_wide_signed64 [Amb] : Sound Try.prog 84 (F_wide_signed64 f_wide_signed64) := (inl_sound (l := []) (.nil _) mixed [] [] 200 (by kernel_rfl)).by (F := F_wide_signed64 f_wide_signed64) fun args b r hr => by
  obtain ⟨x0, x1, x2, rfl, rfl, hr1⟩ := e_wide_signed64 hr
  exact inl_eval ((d_wide_signed64   x0 x1 x2).trans ((n_wide_signed64 (fun (d : Int × Bool) => some (Res.mk (AV.tup [RV.c (CV.f (FV.i IntKind.i64 d.1)), RV.c (CV.f (FV.b d.2))]) [] [])) x0 x1 x2).symm.trans hr1))

def K_wide_Div {ρ : Type} (g_wide_abs : Int → Int → Option (Int × Int × Bool)) (g_wide_abs64 : Int → Option Int) (g_math_bits_Div64 : Int → Int → Int → Option (Int × Int)) (g__wide_big__plus : Int → Int → Int → Int → Option (Int × Int)) (g_wide_signed64 : Int → Int → Bool → Option (Int × Bool)) (x0 : Int) (x1 : Int) (x2 : Int) (k : (Int ×
  Bool) → Option ρ) : Option ρ := bif x2 == 0 then k (0, false) else Option.bind (g_wide_abs x0 x1) fun (d : Int × Int × Bool) => Option.bind (g_wide_abs64 x2) fun (d_1 : Int) => bif !decide (d_1 = 0) then bif !decide (d_1 = 0) then Option.bind (g_math_bits_Div64 (Int.tmod d.1 d_1) d.2.1 d_1) fun (d_2 : Int ×
  Int) => bif decide (d_2.2 ≥ IntKind.wrap IntKind.u64 (d_1 - d_2.2)) then Option.bind (g__wide_big__plus (IntKind.wrap IntKind.u64 (Int.tdiv d.1 d_1)) d_2.1 0 1) fun (d_3 : Int × Int) => Option.bind (g_wide_signed64 d_3.1 d_3.2 !d.2.2 == decide (x2 < 0)) fun (d : Int × Bool) => k (d.1,
  d.2) else Option.bind (g_wide_signed64 (IntKind.wrap IntKind.u64 (Int.tdiv d.1 d_1)) d_2.1 !d.2.2 == decide (x2 < 0)) fun (d : Int × Bool) => k (d.1, d.2) else none else none
def f_wide_Div (x0 : Int) (x1 : Int) (x2 : Int) : Option (Int × Bool) := K_wide_Div f_wide_abs f_wide_abs64 f_math_bits_Div64 f__wide_big__plus f_wide_signed64  x0 x1 x2 some
section
open Go.Ab.Rdr
def QA_wide_Div := ((pair (cons (ar (ra (cons (gc (cf (fi .i64 hole))) (cons (gc (cf (fi .u64 hole))) nil)))) (cons (ar (rc (cf (fi .i64 hole)))) nil)) nil) : Rdr (List AV × List Blk) _)
end
def F_wide_Div (f : (Int) → (Int) → (Int) → Option (Int × Bool)) : Sem1 := fun args h => match (QA_wide_Div).rd (args, h) with
  | some b => .opt (f b.1.1.1 b.1.1.2.1 b.1.2.1) fun (d : Int × Bool) => .leaf (Res.mk (AV.tup [RV.c (CV.f (FV.i IntKind.i64 d.1)), RV.c (CV.f (FV.b d.2))]) [] [])
  | none => .fail
theorem d_wide_Div (g_wide_abs : Int → Int → Option (Int × Int × Bool)) (g_wide_abs64 : Int → Option Int) (g_math_bits_Div64 : Int → Int → Int → Option (Int × Int)) (g__wide_big__plus : Int → Int → Int → Int → Option (Int × Int)) (g_wide_signed64 : Int → Int → Bool → Option (Int × Bool)) (x0 : Int) (x1 : Int) (x2 : Int) : den Try.prog (envOf [(82,
  F_wide_abs g_wide_abs), (76, F_wide_abs64 g_wide_abs64), (90, F_math_bits_Div64 g_math_bits_Div64), (83, F__wide_big__plus g__wide_big__plus), (84, F_wide_signed64 g_wide_signed64)]) ⟨[], [], [], [], none⟩ 200 74 [.r (.agg [.c (.f (.i .i64 x0)), .c (.f (.i .u64 x1))]), .r (.c (.f (.i .i64 x2)))] [] = K_wide_Div g_wide_abs g_wide_abs64 g_math_bits_Div64 g__wide_big__plus g_wide_signed64 x0 x1 x2 (fun (d : Int ×
  Bool) => some (Res.mk (AV.tup [RV.c (CV.f (FV.i IntKind.i64 d.1)), RV.c (CV.f (FV.b d.2))]) [] [])) := by kernel_rfl
theorem m_wide_Div {ρ σ : Type} (q : ρ → Option σ) (g_wide_abs : Int → Int → Option (Int × Int × Bool)) (g_wide_abs64 : Int → Option Int) (g_math_bits_Div64 : Int → Int → Int → Option (Int × Int)) (g__wide_big__plus : Int → Int → Int → Int → Option (Int × Int)) (g_wide_signed64 : Int → Int → Bool → Option (Int × Bool))   (x0 : Int) (x1 : Int) (x2 : Int) (k : (Int × Bool) → Option ρ) : (K_wide_Div g_wide_abs g_wide_abs64 g_math_bits_Div64 g__wide_big__plus g_wide_signed64  x0 x1 x2 k).bind q = K_wide_Div g_wide_abs g_wide_abs64 g_math_bits_Div64 g__wide_big__plus g_wide_signed64  x0 x1 x2 (fun d => (k d).bind q) := by
  simp only [K_wide_Div, bnd_cond, bnd_bind, bnd_none, bnd_sum]
theorem qa_wide_Div : ∀ b, (QA_wide_Div).em b = ([.r (.agg [.c (.f (.i .i64 b.1.1.1)), .c (.f (.i .u64 b.1.1.2.1))]), .r (.c (.f (.i .i64 b.1.2.1)))], []) := fun b => by kernel_rfl
theorem e_wide_Div {f : (Int) → (Int) → (Int) → Option (Int × Bool)} {args : List AV} {h : List Blk} {r : Res} (hr : (F_wide_Div f args h).eval = some r) : ∃ x0 x1 x2, args = [.r (.agg [.c (.f (.i .i64 x0)), .c (.f (.i .u64 x1))]), .r (.c (.f (.i .i64 x2)))] ∧ h = [] ∧ (f x0 x1 x2).bind (fun (d : Int × Bool) => some (Res.mk (AV.tup [RV.c (CV.f (FV.i IntKind.i64 d.1)), RV.c (CV.f (FV.b d.2))]) [] [])) = some r := by
  unfold F_wide_Div at hr
  split at hr
  · rename_i b hb
    have e := ((QA_wide_Div).ok _ _ hb).trans (qa_wide_Div b)
    rw [opt_eval2] at hr
    exact ⟨b.1.1.1, b.1.1.2.1, b.1.2.1, (Prod.mk.inj e).1, (Prod.mk.inj e).2, hr⟩
  · cases hr
theorem n_wide_Div {σ : Type} (q : (Int × Bool) → Option σ) (x0 : Int) (x1 : Int) (x2 : Int) : (f_wide_Div x0 x1 x2).bind q = K_wide_Div f_wide_abs f_wide_abs64 f_math_bits_Div64 f__wide_big__plus f_wide_signed64  x0 x1 x2 q := by
  unfold f_wide_Div
  exact m_wide_Div q f_wide_abs f_wide_abs64 f_math_bits_Div64 f__wide_big__plus f_wide_signed64   x0 x1 x2 some
theorem s_wide_Div [Amb] : Sound Try.prog 74 (F_wide_Div f_wide_Div) := (inl_sound (l := [(82, F_wide_abs f_wide_abs), (76, F_wide_abs64 f_wide_abs64), (90, F_math_bits_Div64 f_math_bits_Div64), (83, F__wide_big__plus f__wide_big__plus), (84, F_wide_signed64 f_wide_signed64)]) (.cons s_wide_abs (.cons s_wide_abs64 (.cons s_math_bits_Div64 (.cons s__wide_big__plus (.cons s_wide_signed64 (.nil _)))))) mixed [] [] 200 (by kernel_rfl)).by (F := F_wide_Div f_wide_Div) fun args b r hr => by
  obtain ⟨x0, x1, x2, rfl, rfl, hr1⟩ := e_wide_Div hr
  exact inl_eval ((d_wide_Div f_wide_abs f_wide_abs64 f_math_bits_Div64 f__wide_big__plus f_wide_signed64  x0 x1 x2).trans ((n_wide_Div (fun (d : Int × Bool) => some (Res.mk (AV.tup [RV.c (CV.f (FV.i IntKind.i64 d.1)), RV.c (CV.f (FV.b d.2))]) [] [])) x0 x1 x2).symm.trans hr1))

def K___fx_Acc__end {ρ : Type} (g_fx_sign : Bool → Option Int) (g___fx_Acc__Sat : Int → Bool → Option (Int × Bool)) (x0 : Int) (x1 : Bool) (x2 : Bool) (x3 : Bool) (k : (Int × Bool) → Option ρ) : Option ρ := bif !x1 then Option.bind (g_fx_sign x2) fun (d : Int) => k (d, true) else Option.bind (g___fx_Acc__Sat x0 x3) fun (d : Int ×
  Bool) => k (d.1, d.2)
def f___fx_Acc__end (x0 : Int) (x1 : Bool) (x2 : Bool) (x3 : Bool) : Option (Int × Bool) := K___fx_Acc__end f_fx_sign f___fx_Acc__Sat  x0 x1 x2 x3 some
section
open Go.Ab.Rdr
def QA___fx_Acc__end := ((pair (cons (ar (rc (cptr (nat 0) (ok' (nat 0)) (nat 1)))) (cons (ar (rc (cf (fi .i64 hole)))) (cons (ar (rc (cf (fb hole)))) (cons (ar (rc (cf (fb hole)))) nil)))) (cons (cons (gc (cf (fb hole))) nil) nil)) : Rdr (List AV × List Blk) _)
end
def F___fx_Acc__end (f : (Int) → (Bool) → (Bool) → (Bool) → Option (Int × Bool)) : Sem1 := fun args h => match (QA___fx_Acc__end).rd (args, h) with
  | some b => .opt (f b.1.2.1 b.1.2.2.1 b.1.2.2.2.1 b.2.1.1) fun (d : Int × Bool) => .leaf (Res.mk (AV.r (RV.c (CV.f (FV.i IntKind.i64 d.1)))) [Ch.set [Sg.c (CV.f (FV.b d.2))]] [])
  | none => .fail
theorem d___fx_Acc__end (g_fx_sign : Bool → Option Int) (g___fx_Acc__Sat : Int → Bool → Option (Int × Bool)) (x0 : Int) (x1 : Bool) (x2 : Bool) (x3 : Bool) : den Try.prog (envOf [(73, F_fx_sign g_fx_sign), (52, F___fx_Acc__Sat g___fx_Acc__Sat)]) ⟨[], [], [], [], none⟩ 200 64 [.r (.c (.ptr 0 (.k 0) 1)),
  .r (.c (.f (.i .i64 x0))), .r (.c (.f (.b x1))), .r (.c (.f (.b x2)))] [[.c (.f (.b x3))]] = K___fx_Acc__end g_fx_sign g___fx_Acc__Sat x0 x1 x2 x3 (fun (d : Int × Bool) => some (Res.mk (AV.r (RV.c (CV.f (FV.i IntKind.i64 d.1)))) [Ch.set [Sg.c (CV.f (FV.b d.2))]] [])) := by kernel_rfl
theorem m___fx_Acc__end {ρ σ : Type} (q : ρ → Option σ) (g_fx_sign : Bool → Option Int) (g___fx_Acc__Sat : Int → Bool → Option (Int × Bool))   (x0 : Int) (x1 : Bool) (x2 : Bool) (x3 : Bool) (k : (Int × Bool) → Option ρ) : (K___fx_Acc__end g_fx_sign g___fx_Acc__Sat  x0 x1 x2 x3 k).bind q = K___fx_Acc__end g_fx_sign g___fx_Acc__Sat  x0 x1 x2 x3 (fun d => (k d).bind q) := by
  simp only [K___fx_Acc__end, bnd_cond, bnd_bind, bnd_none, bnd_sum]
theorem qa___fx_Acc__end : ∀ b, (QA___fx_Acc__end).em b = ([.r (.c (.ptr 0 (.k 0) 1)), .r (.c (.f (.i .i64 b.1.2.1))), .r (.c (.f (.b b.1.2.2.1))), .r (.c (.f (.b b.1.2.2.2.1)))], [[.c (.f (.b b.2.1.1))]]) := fun b => by kernel_rfl
theorem e___fx_Acc__end {f : (Int) → (Bool) → (Bool) → (Bool) → Option (Int × Bool)} {args : List AV} {h : List Blk} {r : Res} (hr : (F___fx_Acc__end f args h).eval = some r) : ∃ x0 x1 x2 x3, args = [.r (.c (.ptr 0 (.k 0) 1)), .r (.c (.f (.i .i64 x0))), .r (.c (.f (.b x1))), .r (.c (.f (.b x2)))] ∧ h = [[.c (.f (.b x3))]] ∧ (f x0 x1 x2 x3).bind (fun (d : Int × Bool) => some (Res.mk (AV.r (RV.c (CV.f (FV.i IntKind.i64 d.1)))) [Ch.set [Sg.c (CV.f (FV.b d.2))]] [])) = some r := by
  unfold F___fx_Acc__end at hr
  split at hr
  · rename_i b hb
    have e := ((QA___fx_Acc__end).ok _ _ hb).trans (qa___fx_Acc__end b)
    rw [opt_eval2] at hr
    exact ⟨b.1.2.1, b.1.2.2.1, b.1.2.2.2.1, b.2.1.1, (Prod.mk.inj e).1, (Prod.mk.inj e).2, hr⟩
  · cases hr
theorem n___fx_Acc__end {σ : Type} (q : (Int × Bool) → Option σ) (x0 : Int) (x1 : Bool) (x2 : Bool) (x3 : Bool) : (f___fx_Acc__end x0 x1 x2 x3).bind q = K___fx_Acc__end f_fx_sign f___fx_Acc__Sat  x0 x1 x2 x3 q := by
  unfold f___fx_Acc__end
  exact m___fx_Acc__end q f_fx_sign f___fx_Acc__Sat   x0 x1 x2 x3 some
theorem s___fx_Acc__end [Amb] : Sound Try.prog 64 (F___fx_Acc__end f___fx_Acc__end) := (inl_sound (l := [(73, F_fx_sign f_fx_sign), (52, F___fx_Acc__Sat f___fx_Acc__Sat)]) (.cons s_fx_sign (.cons s___fx_Acc__Sat (.nil _))) mixed [] [] 200 (by kernel_rfl)).by (F := F___fx_Acc__end f___fx_Acc__end) fun args b r hr => by
  obtain ⟨x0, x1, x2, x3, rfl, rfl, hr1⟩ := e___fx_Acc__end hr
  exact inl_eval ((d___fx_Acc__end f_fx_sign f___fx_Acc__Sat  x0 x1 x2 x3).trans ((n___fx_Acc__end (fun (d : Int × Bool) => some (Res.mk (AV.r (RV.c (CV.f (FV.i IntKind.i64 d.1)))) [Ch.set [Sg.c (CV.f (FV.b d.2))]] [])) x0 x1 x2 x3).symm.trans hr1))

def K___fx_Acc__by {ρ : Type} (g_fx_sign : Bool → Option Int) (g_wide_Div : Int → Int → Int → Option (Int × Bool)) (g___fx_Acc__end : Int → Bool → Bool → Bool → Option (Int × Bool)) (x0 : Int) (x1 : Int) (x2 : Int) (x3 : Bool) (k : (Int × Bool) → Option ρ) : Option ρ := bif x2 == 0 then bif x0 == 0 && (x1 == 0 && true) then
  k (0, true) else Option.bind (g_fx_sign (decide (x0 < 0))) fun (d : Int) => k (d, true) else Option.bind (g_wide_Div x0 x1 x2) fun (d : Int × Bool) => Option.bind (g___fx_Acc__end d.1 d.2 (!decide (x0 < 0) == decide (x2 < 0)) x3) fun (d : Int × Bool) => k (d.1, d.2)
def f___fx_Acc__by (x0 : Int) (x1 : Int) (x2 : Int) (x3 : Bool) : Option (Int × Bool) := K___fx_Acc__by f_fx_sign f_wide_Div f___fx_Acc__end  x0 x1 x2 x3 some
section
open Go.Ab.Rdr
def QA___fx_Acc__by := ((pair (cons (ar (rc (cptr (nat 0) (ok' (nat 0)) (nat 1)))) (cons (ar (ra (cons (gc (cf (fi .i64 hole))) (cons (gc (cf (fi .u64 hole))) nil)))) (cons (ar (rc (cf (fi .i64 hole)))) nil))) (cons (cons (gc (cf (fb hole))) nil) nil)) : Rdr (List AV × List Blk) _)
end
def F___fx_Acc__by (f : (Int) → (Int) → (Int) → (Bool) → Option (Int × Bool)) : Sem1 := fun args h => match (QA___fx_Acc__by).rd (args, h) with
  | some b => .opt (f b.1.2.1.1 b.1.2.1.2.1 b.1.2.2.1 b.2.1.1) fun (d : Int × Bool) => .leaf (Res.mk (AV.r (RV.c (CV.f (FV.i IntKind.i64 d.1)))) [Ch.set [Sg.c (CV.f (FV.b d.2))]] [])
  | none => .fail
theorem d___fx_Acc__by (g_fx_sign : Bool → Option Int) (g_wide_Div : Int → Int → Int → Option (Int × Bool)) (g___fx_Acc__end : Int → Bool → Bool → Bool → Option (Int × Bool)) (x0 : Int) (x1 : Int) (x2 : Int) (x3 : Bool) : den Try.prog (envOf [(73, F_fx_sign g_fx_sign), (74, F_wide_Div g_wide_Div),
  (64, F___fx_Acc__end g___fx_Acc__end)]) ⟨[], [], [], [], none⟩ 200 50 [.r (.c (.ptr 0 (.k 0) 1)), .r (.agg [.c (.f (.i .i64 x0)), .c (.f (.i .u64 x1))]), .r (.c (.f (.i .i64 x2)))] [[.c (.f (.b x3))]] = K___fx_Acc__by g_fx_sign g_wide_Div g___fx_Acc__end x0 x1 x2 x3 (fun (d : Int × Bool) => some (Res.mk (AV.r (RV.c (CV.f (FV.i IntKind.i64 d.1)))) [Ch.set [Sg.c (CV.f (FV.b d.2))]] [])) := by kernel_rfl
theorem m___fx_Acc__by {ρ σ : Type} (q : ρ → Option σ) (g_fx_sign : Bool → Option Int) (g_wide_Div : Int → Int → Int → Option (Int × Bool)) (g___fx_Acc__end : Int → Bool → Bool → Bool → Option (Int × Bool))   (x0 : Int) (x1 : Int) (x2 : Int) (x3 : Bool) (k : (Int × Bool) → Option ρ) : (K___fx_Acc__by g_fx_sign g_wide_Div g___fx_Acc__end  x0 x1 x2 x3 k).bind q = K___fx_Acc__by g_fx_sign g_wide_Div g___fx_Acc__end  x0 x1 x2 x3 (fun d => (k d).bind q) := by
  simp only [K___fx_Acc__by, bnd_cond, bnd_bind, bnd_none, bnd_sum]
theorem qa___fx_Acc__by : ∀ b, (QA___fx_Acc__by).em b = ([.r (.c (.ptr 0 (.k 0) 1)), .r (.agg [.c (.f (.i .i64 b.1.2.1.1)), .c (.f (.i .u64 b.1.2.1.2.1))]), .r (.c (.f (.i .i64 b.1.2.2.1)))], [[.c (.f (.b b.2.1.1))]]) := fun b => by kernel_rfl
theorem e___fx_Acc__by {f : (Int) → (Int) → (Int) → (Bool) → Option (Int × Bool)} {args : List AV} {h : List Blk} {r : Res} (hr : (F___fx_Acc__by f args h).eval = some r) : ∃ x0 x1 x2 x3, args = [.r (.c (.ptr 0 (.k 0) 1)), .r (.agg [.c (.f (.i .i64 x0)), .c (.f (.i .u64 x1))]), .r (.c (.f (.i .i64 x2)))] ∧ h = [[.c (.f (.b x3))]] ∧ (f x0 x1 x2 x3).bind (fun (d : Int × Bool) => some (Res.mk (AV.r (RV.c (CV.f (FV.i IntKind.i64 d.1)))) [Ch.set [Sg.c (CV.f (FV.b d.2))]] [])) = some r := by
  unfold F___fx_Acc__by at hr
  split at hr
  · rename_i b hb
    have e := ((QA___fx_Acc__by).ok _ _ hb).trans (qa___fx_Acc__by b)
    rw [opt_eval2] at hr
    exact ⟨b.1.2.1.1, b.1.2.1.2.1, b.1.2.2.1, b.2.1.1, (Prod.mk.inj e).1, (Prod.mk.inj e).2, hr⟩
  · cases hr
theorem n___fx_Acc__by {σ : Type} (q : (Int × Bool) → Option σ) (x0 : Int) (x1 : Int) (x2 : Int) (x3 : Bool) : (f___fx_Acc__by x0 x1 x2 x3).bind q = K___fx_Acc__by f_fx_sign f_wide_Div f___fx_Acc__end  x0 x1 x2 x3 q := by
  unfold f___fx_Acc__by
  exact m___fx_Acc__by q f_fx_sign f_wide_Div f___fx_Acc__end   x0 x1 x2 x3 some
theorem s___fx_Acc__by [Amb] : Sound Try.prog 50 (F___fx_Acc__by f___fx_Acc__by) := (inl_sound (l := [(73, F_fx_sign f_fx_sign), (74, F_wide_Div f_wide_Div), (64, F___fx_Acc__end f___fx_Acc__end)]) (.cons s_fx_sign (.cons s_wide_Div (.cons s___fx_Acc__end (.nil _)))) mixed [] [] 200 (by kernel_rfl)).by (F := F___fx_Acc__by f___fx_Acc__by) fun args b r hr => by
  obtain ⟨x0, x1, x2, x3, rfl, rfl, hr1⟩ := e___fx_Acc__by hr
  exact inl_eval ((d___fx_Acc__by f_fx_sign f_wide_Div f___fx_Acc__end  x0 x1 x2 x3).trans ((n___fx_Acc__by (fun (d : Int × Bool) => some (Res.mk (AV.r (RV.c (CV.f (FV.i IntKind.i64 d.1)))) [Ch.set [Sg.c (CV.f (FV.b d.2))]] [])) x0 x1 x2 x3).symm.trans hr1))

def K___fx_Acc__MulDiv {ρ : Type} (g___fx_Acc__Sat : Int → Bool → Option (Int × Bool)) (g_wide_Mul : Int → Int → Option (Int × Int)) (g___fx_Acc__by : Int → Int → Int → Bool → Option (Int × Bool)) (x0 : Int) (x1 : Int) (x2 : Int) (x3 : Bool) (k : (Int × Bool) → Option ρ) : Option ρ := Option.bind (g___fx_Acc__Sat x0 x3) fun (d : Int ×
  Bool) => Option.bind (g___fx_Acc__Sat x1 d.2) fun (d_1 : Int × Bool) => Option.bind (g_wide_Mul d.1 d_1.1) fun (d : Int × Int) => Option.bind (g___fx_Acc__Sat x2 d_1.2) fun (d_2 : Int × Bool) => Option.bind (g___fx_Acc__by d.1 d.2 d_2.1 d_2.2) fun (d : Int × Bool) => k (d.1, d.2)
def f___fx_Acc__MulDiv (x0 : Int) (x1 : Int) (x2 : Int) (x3 : Bool) : Option (Int × Bool) := K___fx_Acc__MulDiv f___fx_Acc__Sat f_wide_Mul f___fx_Acc__by  x0 x1 x2 x3 some
section
open Go.Ab.Rdr
def QA___fx_Acc__MulDiv := ((pair (cons (ar (rc (cptr (nat 0) (ok' (nat 0)) (nat 1)))) (cons (ar (rc (cf (fi .i64 hole)))) (cons (ar (rc (cf (fi .i64 hole)))) (cons (ar (rc (cf (fi .i64 hole)))) nil)))) (cons (cons (gc (cf (fb hole))) nil) nil)) : Rdr (List AV × List Blk) _)
end
def F___fx_Acc__MulDiv (f : (Int) → (Int) → (Int) → (Bool) → Option (Int × Bool)) : Sem1 := fun args h => match (QA___fx_Acc__MulDiv).rd (args, h) with
  | some b => .opt (f b.1.2.1 b.1.2.2.1 b.1.2.2.2.1 b.2.1.1) fun (d : Int × Bool) => .leaf (Res.mk (AV.r (RV.c (CV.f (FV.i IntKind.i64 d.1)))) [Ch.set [Sg.c (CV.f (FV.b d.2))]] [])
  | none => .fail
theorem d___fx_Acc__MulDiv (g___fx_Acc__Sat : Int → Bool → Option (Int × Bool)) (g_wide_Mul : Int → Int → Option (Int × Int)) (g___fx_Acc__by : Int → Int → Int → Bool → Option (Int × Bool)) (x0 : Int) (x1 : Int) (x2 : Int) (x3 : Bool) : den Try.prog (envOf [(52, F___fx_Acc__Sat g___fx_Acc__Sat),
  (51, F_wide_Mul g_wide_Mul), (50, F___fx_Acc__by g___fx_Acc__by)]) ⟨[], [], [], [], none⟩ 200 28 [.r (.c (.ptr 0 (.k 0) 1)), .r (.c (.f (.i .i64 x0))), .r (.c (.f (.i .i64 x1))), .r (.c (.f (.i .i64 x2)))] [[.c (.f (.b x3))]] = K___fx_Acc__MulDiv g___fx_Acc__Sat g_wide_Mul g___fx_Acc__by x0 x1 x2 x3 (fun (d : Int ×
  Bool) => some (Res.mk (AV.r (RV.c (CV.f (FV.i IntKind.i64 d.1)))) [Ch.set [Sg.c (CV.f (FV.b d.2))]] [])) := by kernel_rfl
theorem m___fx_Acc__MulDiv {ρ σ : Type} (q : ρ → Option σ) (g___fx_Acc__Sat : Int → Bool → Option (Int × Bool)) (g_wide_Mul : Int → Int → Option (Int × Int)) (g___fx_Acc__by : Int → Int → Int → Bool → Option (Int × Bool))   (x0 : Int) (x1 : Int) (x2 : Int) (x3 : Bool) (k : (Int × Bool) → Option ρ) : (K___fx_Acc__MulDiv g___fx_Acc__Sat g_wide_Mul g___fx_Acc__by  x0 x1 x2 x3 k).bind q = K___fx_Acc__MulDiv g___fx_Acc__Sat g_wide_Mul g___fx_Acc__by  x0 x1 x2 x3 (fun d => (k d).bind q) := by
  simp only [K___fx_Acc__MulDiv, bnd_cond, bnd_bind, bnd_none, bnd_sum]
theorem qa___fx_Acc__MulDiv : ∀ b, (QA___fx_Acc__MulDiv).em b = ([.r (.c (.ptr 0 (.k 0) 1)), .r (.c (.f (.i .i64 b.1.2.1))), .r (.c (.f (.i .i64 b.1.2.2.1))), .r (.c (.f (.i .i64 b.1.2.2.2.1)))], [[.c (.f (.b b.2.1.1))]]) := fun b => by kernel_rfl
theorem e___fx_Acc__MulDiv {f : (Int) → (Int) → (Int) → (Bool) → Option (Int × Bool)} {args : List AV} {h : List Blk} {r : Res} (hr : (F___fx_Acc__MulDiv f args h).eval = some r) : ∃ x0 x1 x2 x3, args = [.r (.c (.ptr 0 (.k 0) 1)), .r (.c (.f (.i .i64 x0))), .r (.c (.f (.i .i64 x1))), .r (.c (.f (.i .i64 x2)))] ∧ h = [[.c (.f (.b x3))]] ∧ (f x0 x1 x2 x3).bind (fun (d : Int × Bool) => some (Res.mk (AV.r (RV.c (CV.f (FV.i IntKind.i64 d.1)))) [Ch.set [Sg.c (CV.f (FV.b d.2))]] [])) = some r := by
  unfold F___fx_Acc__MulDiv at hr
  split at hr
  · rename_i b hb
    have e := ((QA___fx_Acc__MulDiv).ok _ _ hb).trans (qa___fx_Acc__MulDiv b)
    rw [opt_eval2] at hr
    exact ⟨b.1.2.1, b.1.2.2.1, b.1.2.2.2.1, b.2.1.1, (Prod.mk.inj e).1, (Prod.mk.inj e).2, hr⟩
  · cases hr
theorem n___fx_Acc__MulDiv {σ : Type} (q : (Int × Bool) → Option σ) (x0 : Int) (x1 : Int) (x2 : Int) (x3 : Bool) : (f___fx_Acc__MulDiv x0 x1 x2 x3).bind q = K___fx_Acc__MulDiv f___fx_Acc__Sat f_wide_Mul f___fx_Acc__by  x0 x1 x2 x3 q := by
  unfold f___fx_Acc__MulDiv
  exact m___fx_Acc__MulDiv q f___fx_Acc__Sat f_wide_Mul f___fx_Acc__by   x0 x1 x2 x3 some
theorem s___fx_Acc__MulDiv [Amb] : Sound Try.prog 28 (F___fx_Acc__MulDiv f___fx_Acc__MulDiv) := (inl_sound (l := [(52, F___fx_Acc__Sat f___fx_Acc__Sat), (51, F_wide_Mul f_wide_Mul), (50, F___fx_Acc__by f___fx_Acc__by)]) (.cons s___fx_Acc__Sat (.cons s_wide_Mul (.cons s___fx_Acc__by (.nil _)))) mixed [] [] 200 (by kernel_rfl)).by (F := F___fx_Acc__MulDiv f___fx_Acc__MulDiv) fun args b r hr => by
  obtain ⟨x0, x1, x2, x3, rfl, rfl, hr1⟩ := e___fx_Acc__MulDiv hr
  exact inl_eval ((d___fx_Acc__MulDiv f___fx_Acc__Sat f_wide_Mul f___fx_Acc__by  x0 x1 x2 x3).trans ((n___fx_Acc__MulDiv (fun (d : Int × Bool) => some (Res.mk (AV.r (RV.c (CV.f (FV.i IntKind.i64 d.1)))) [Ch.set [Sg.c (CV.f (FV.b d.2))]] [])) x0 x1 x2 x3).symm.trans hr1))

def K_gnss_variance {ρ : Type} (g___fx_Acc__MulDiv : Int → Int → Int → Bool → Option (Int × Bool)) (g___fx_Acc__Clamp : Int → Int → Int → Bool → Option (Int × Bool)) (x0 : Int) (k : (Int) → Option ρ) : Option ρ := Option.bind (g___fx_Acc__MulDiv (IntKind.wrap IntKind.i64 (x0 * x0)) 17592186044416 1000000 false) fun (d : Int ×
  Bool) => Option.bind (g___fx_Acc__Clamp d.1 1 72057594037927936 d.2) fun (d : Int × Bool) => k d.1
def f_gnss_variance (x0 : Int) : Option (Int) := K_gnss_variance f___fx_Acc__MulDiv f___fx_Acc__Clamp  x0 some
section
open Go.Ab.Rdr
def QA_gnss_variance := ((pair (cons (ar (rc (cf (fi .i64 hole)))) nil) nil) : Rdr (List AV × List Blk) _)
end
def F_gnss_variance (f : (Int) → Option (Int)) : Sem1 := fun args h => match (QA_gnss_variance).rd (args, h) with
  | some b => .opt (f b.1.1) fun (d : Int) => .leaf (Res.mk (AV.r (RV.c (CV.f (FV.i IntKind.i64 d)))) [] [])
  | none => .fail
theorem d_gnss_variance (g___fx_Acc__MulDiv : Int → Int → Int → Bool → Option (Int × Bool)) (g___fx_Acc__Clamp : Int → Int → Int → Bool → Option (Int × Bool)) (x0 : Int) : den Try.prog (envOf [(28, F___fx_Acc__MulDiv g___fx_Acc__MulDiv), (37, F___fx_Acc__Clamp g___fx_Acc__Clamp)]) ⟨[], [],
  [], [], none⟩ 200 27 [.r (.c (.f (.i .i64 x0)))] [] = K_gnss_variance g___fx_Acc__MulDiv g___fx_Acc__Clamp x0 (fun (d : Int) => some (Res.mk (AV.r (RV.c (CV.f (FV.i IntKind.i64 d)))) [] [])) := by kernel_rfl
theorem m_gnss_variance {ρ σ : Type} (q : ρ → Option σ) (g___fx_Acc__MulDiv : Int → Int → Int → Bool → Option (Int × Bool)) (g___fx_Acc__Clamp : Int → Int → Int → Bool → Option (Int × Bool))   (x0 : Int) (k : (Int) → Option ρ) : (K_gnss_variance g___fx_Acc__MulDiv g___fx_Acc__Clamp  x0 k).bind q = K_gnss_variance g___fx_Acc__MulDiv g___fx_Acc__Clamp  x0 (fun d => (k d).bind q) := by
  simp only [K_gnss_variance, bnd_cond, bnd_bind, bnd_none, bnd_sum]
theorem qa_gnss_variance : ∀ b, (QA_gnss_variance).em b = ([.r (.c (.f (.i .i64 b.1.1)))], []) := fun b => by kernel_rfl
theorem e_gnss_variance {f : (Int) → Option (Int)} {args : List AV} {h : List Blk} {r : Res} (hr : (F_gnss_variance f args h).eval = some r) : ∃ x0, args = [.r (.c (.f (.i .i64 x0)))] ∧ h = [] ∧ (f x0).bind (fun (d : Int) => some (Res.mk (AV.r (RV.c (CV.f (FV.i IntKind.i64 d)))) [] [])) = some r := by
  unfold F_gnss_variance at hr
  split at hr
  · rename_i b hb
    have e := ((QA_gnss_variance).ok _ _ hb).trans (qa_gnss_variance b)
    rw [opt_eval2] at hr
    exact ⟨b.1.1, (Prod.mk.inj e).1, (Prod.mk.inj e).2, hr⟩
  · cases hr
theorem n_gnss_variance {σ : Type} (q : (Int) → Option σ) (x0 : Int) : (f_gnss_variance x0).bind q = K_gnss_variance f___fx_Acc__MulDiv f___fx_Acc__Clamp  x0 q := by
  unfold f_gnss_variance
  exact m_gnss_variance q f___fx_Acc__MulDiv f___fx_Acc__Clamp   x0 some
theorem s_gnss_variance [Amb] : Sound Try.prog 27 (F_gnss_variance f_gnss_variance) := (inl_sound (l := [(28, F___fx_Acc__MulDiv f___fx_Acc__MulDiv), (37, F___fx_Acc__Clamp f___fx_Acc__Clamp)]) (.cons s___fx_Acc__MulDiv (.cons s___fx_Acc__Clamp (.nil _))) mixed [] [] 200 (by kernel_rfl)).by (F := F_gnss_variance f_gnss_variance) fun args b r hr => by
  obtain ⟨x0, rfl, rfl, hr1⟩ := e_gnss_variance hr
  exact inl_eval ((d_gnss_variance f___fx_Acc__MulDiv f___fx_Acc__Clamp  x0).trans ((n_gnss_variance (fun (d : Int) => some (Res.mk (AV.r (RV.c (CV.f (FV.i IntKind.i64 d)))) [] [])) x0).symm.trans hr1))

end Go.Proofs.Ytdpenjncfmkbgaa
