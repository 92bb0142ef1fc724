/-
  Contracts by plain functions: fx.Abs, (*fx.Acc).by, (*fx.Acc).MulDiv, (*fx.Acc).Div, root.end, root.Sqrt, trig.Wrap, trig.m, trig.series, trig.Sin, trig.Cos, earth.Good, earth.New, (*earth.Frame).To
-/
import Derived.Test.YtcalippagaaikaaC2
set_option maxRecDepth 100000
set_option maxHeartbeats 4000000
set_option linter.unusedVariables false
namespace Go.Proofs.Ytcalippagaaikaa
open Go.Ab
def K_fx_Abs {ρ : Type}   (x0 : Int) (k : (Int) → Option ρ) : Option ρ :=
  bif decide (x0 ≥ 1152921504606846976) then k 1152921504606846976
  else bif decide (x0 ≤ -1152921504606846976) then k 1152921504606846976 else bif decide (x0 < 0) then k (IntKind.wrap IntKind.i64 (0 - x0)) else k x0
def f_fx_Abs (x0 : Int) : Option (Int) := K_fx_Abs   x0 some
section
open Go.Ab.Rdr
def QA_fx_Abs := ((pair (cons (ar (rc (cf (fi .i64 hole)))) nil) nil) : Rdr (List AV × List Blk) _)
end
def F_fx_Abs (f : (Int) → Option (Int)) : Sem1 := fun args h => match (QA_fx_Abs).rd (args, h) with
  | some b => .opt (f b.1.1) fun (d : Int) => .leaf (Res.mk (AV.r (RV.c (CV.f (FV.i IntKind.i64 d)))) [] [])
  | none => .fail
theorem d_fx_Abs   (x0 : Int) : den Try.prog (envOf []) ⟨[], [], [], [], none⟩ 200 95 [.r (.c (.f (.i .i64 x0)))] [] =
    K_fx_Abs   x0 (fun (d : Int) => some (Res.mk (AV.r (RV.c (CV.f (FV.i IntKind.i64 d)))) [] [])) := by kernel_rfl
theorem m_fx_Abs {ρ σ : Type} (q : ρ → Option σ)    (x0 : Int) (k : (Int) → Option ρ) : (K_fx_Abs   x0 k).bind q = K_fx_Abs   x0 (fun d => (k d).bind q) := by
  simp only [K_fx_Abs, bnd_cond, bnd_bind, bnd_none, bnd_sum]
theorem qa_fx_Abs : ∀ b, (QA_fx_Abs).em b = ([.r (.c (.f (.i .i64 b.1.1)))], []) := fun b => by kernel_rfl
theorem e_fx_Abs {f : (Int) → Option (Int)} {args : List AV} {h : List Blk} {r : Res} (hr : (F_fx_Abs f args h).eval = some r) : ∃ x0, args = [.r (.c (.f (.i .i64 x0)))] ∧ h = [] ∧ (f x0).bind (fun (d : Int) => some (Res.mk (AV.r (RV.c (CV.f (FV.i IntKind.i64 d)))) [] [])) = some r := by
  unfold F_fx_Abs at hr
  split at hr
  · rename_i b hb
    have e := ((QA_fx_Abs).ok _ _ hb).trans (qa_fx_Abs b)
    rw [opt_eval2] at hr
    exact ⟨b.1.1, (Prod.mk.inj e).1, (Prod.mk.inj e).2, hr⟩
  · cases hr
theorem n_fx_Abs {σ : Type} (q : (Int) → Option σ) (x0 : Int) : (f_fx_Abs x0).bind q = K_fx_Abs   x0 q := by
  unfold f_fx_Abs
  exact m_fx_Abs q    x0 some
theorem s_fx_Abs : Sound Try.prog 95 (F_fx_Abs f_fx_Abs) :=
  (inl_sound (l := []) (.nil _) mixed [] [] 200 (by kernel_rfl)).by (F := F_fx_Abs f_fx_Abs) fun args b r hr => by
  obtain ⟨x0, rfl, rfl, hr1⟩ := e_fx_Abs hr
  exact inl_eval ((d_fx_Abs   x0).trans ((n_fx_Abs (fun (d : Int) => some (Res.mk (AV.r (RV.c (CV.f (FV.i IntKind.i64 d)))) [] [])) x0).symm.trans hr1))

def K___fx_Acc__by {ρ : Type} (g_fx_sign : Bool → Option Int) (g_wide_Div : Int → Int → Int → Option (Int × Bool)) (g___fx_Acc__end : Int → Bool → Bool → Bool → Option (Int × Bool))  (x0 : Int) (x1 : Int) (x2 : Int) (x3 : Bool) (k : (Int × Bool) → Option ρ) : Option ρ :=
  bif x2 == 0 then bif x0 == 0 && (x1 == 0 && true) then k (0, true) else Option.bind (g_fx_sign (decide (x0 < 0))) fun (d : Int) => k (d, true)
  else Option.bind (g_wide_Div x0 x1 x2) fun (d : Int × Bool) => Option.bind (g___fx_Acc__end d.fst d.snd (!decide (x0 < 0) == decide (x2 < 0)) x3) fun (d : Int × Bool) => k (d.fst, d.snd)
def f___fx_Acc__by (x0 : Int) (x1 : Int) (x2 : Int) (x3 : Bool) : Option (Int × Bool) := K___fx_Acc__by f_fx_sign f_wide_Div f___fx_Acc__end  x0 x1 x2 x3 some
section
open Go.Ab.Rdr
def QA___fx_Acc__by := ((pair (cons (ar (rc (cptr (nat 0) (ok' (nat 0)) (nat 1)))) (cons (ar (ra (cons (gc (cf (fi .i64 hole))) (cons (gc (cf (fi .u64 hole))) nil)))) (cons (ar (rc (cf (fi .i64 hole)))) nil))) (cons (cons (gc (cf (fb hole))) nil) nil)) : Rdr (List AV × List Blk) _)
end
def F___fx_Acc__by (f : (Int) → (Int) → (Int) → (Bool) → Option (Int × Bool)) : Sem1 := fun args h => match (QA___fx_Acc__by).rd (args, h) with
  | some b => .opt (f b.1.2.1.1 b.1.2.1.2.1 b.1.2.2.1 b.2.1.1) fun (d : Int × Bool) => .leaf (Res.mk (AV.r (RV.c (CV.f (FV.i IntKind.i64 d.fst)))) [Ch.set [Sg.c (CV.f (FV.b d.snd))]] [])
  | none => .fail
theorem d___fx_Acc__by (g_fx_sign : Bool → Option Int) (g_wide_Div : Int → Int → Int → Option (Int × Bool)) (g___fx_Acc__end : Int → Bool → Bool → Bool → Option (Int × Bool))  (x0 : Int) (x1 : Int) (x2 : Int) (x3 : Bool) : den Try.prog (envOf [(113, F_fx_sign g_fx_sign), (18, F_wide_Div g_wide_Div), (112, F___fx_Acc__end g___fx_Acc__end)]) ⟨[], [], [], [], none⟩ 200 93 [.r (.c (.ptr 0 (.k 0) 1)), .r (.agg [.c (.f (.i .i64 x0)), .c (.f (.i .u64 x1))]), .r (.c (.f (.i .i64 x2)))] [[.c (.f (.b x3))]] =
    K___fx_Acc__by g_fx_sign g_wide_Div g___fx_Acc__end  x0 x1 x2 x3 (fun (d : Int × Bool) => some (Res.mk (AV.r (RV.c (CV.f (FV.i IntKind.i64 d.fst)))) [Ch.set [Sg.c (CV.f (FV.b d.snd))]] [])) := by kernel_rfl
theorem m___fx_Acc__by {ρ σ : Type} (q : ρ → Option σ) (g_fx_sign : Bool → Option Int) (g_wide_Div : Int → Int → Int → Option (Int × Bool)) (g___fx_Acc__end : Int → Bool → Bool → Bool → Option (Int × Bool))   (x0 : Int) (x1 : Int) (x2 : Int) (x3 : Bool) (k : (Int × Bool) → Option ρ) : (K___fx_Acc__by g_fx_sign g_wide_Div g___fx_Acc__end  x0 x1 x2 x3 k).bind q = K___fx_Acc__by g_fx_sign g_wide_Div g___fx_Acc__end  x0 x1 x2 x3 (fun d => (k d).bind q) := by
  simp only [K___fx_Acc__by, bnd_cond, bnd_bind, bnd_none, bnd_sum]
theorem qa___fx_Acc__by : ∀ b, (QA___fx_Acc__by).em b = ([.r (.c (.ptr 0 (.k 0) 1)), .r (.agg [.c (.f (.i .i64 b.1.2.1.1)), .c (.f (.i .u64 b.1.2.1.2.1))]), .r (.c (.f (.i .i64 b.1.2.2.1)))], [[.c (.f (.b b.2.1.1))]]) := fun b => by kernel_rfl
theorem e___fx_Acc__by {f : (Int) → (Int) → (Int) → (Bool) → Option (Int × Bool)} {args : List AV} {h : List Blk} {r : Res} (hr : (F___fx_Acc__by f args h).eval = some r) : ∃ x0 x1 x2 x3, args = [.r (.c (.ptr 0 (.k 0) 1)), .r (.agg [.c (.f (.i .i64 x0)), .c (.f (.i .u64 x1))]), .r (.c (.f (.i .i64 x2)))] ∧ h = [[.c (.f (.b x3))]] ∧ (f x0 x1 x2 x3).bind (fun (d : Int × Bool) => some (Res.mk (AV.r (RV.c (CV.f (FV.i IntKind.i64 d.fst)))) [Ch.set [Sg.c (CV.f (FV.b d.snd))]] [])) = some r := by
  unfold F___fx_Acc__by at hr
  split at hr
  · rename_i b hb
    have e := ((QA___fx_Acc__by).ok _ _ hb).trans (qa___fx_Acc__by b)
    rw [opt_eval2] at hr
    exact ⟨b.1.2.1.1, b.1.2.1.2.1, b.1.2.2.1, b.2.1.1, (Prod.mk.inj e).1, (Prod.mk.inj e).2, hr⟩
  · cases hr
theorem n___fx_Acc__by {σ : Type} (q : (Int × Bool) → Option σ) (x0 : Int) (x1 : Int) (x2 : Int) (x3 : Bool) : (f___fx_Acc__by x0 x1 x2 x3).bind q = K___fx_Acc__by f_fx_sign f_wide_Div f___fx_Acc__end  x0 x1 x2 x3 q := by
  unfold f___fx_Acc__by
  exact m___fx_Acc__by q f_fx_sign f_wide_Div f___fx_Acc__end   x0 x1 x2 x3 some
theorem s___fx_Acc__by : Sound Try.prog 93 (F___fx_Acc__by f___fx_Acc__by) :=
  (inl_sound (l := [(113, F_fx_sign f_fx_sign), (18, F_wide_Div f_wide_Div), (112, F___fx_Acc__end f___fx_Acc__end)]) (.cons s_fx_sign (.cons s_wide_Div (.cons s___fx_Acc__end (.nil _)))) mixed [] [] 200 (by kernel_rfl)).by (F := F___fx_Acc__by f___fx_Acc__by) fun args b r hr => by
  obtain ⟨x0, x1, x2, x3, rfl, rfl, hr1⟩ := e___fx_Acc__by hr
  exact inl_eval ((d___fx_Acc__by f_fx_sign f_wide_Div f___fx_Acc__end  x0 x1 x2 x3).trans ((n___fx_Acc__by (fun (d : Int × Bool) => some (Res.mk (AV.r (RV.c (CV.f (FV.i IntKind.i64 d.fst)))) [Ch.set [Sg.c (CV.f (FV.b d.snd))]] [])) x0 x1 x2 x3).symm.trans hr1))

def K___fx_Acc__MulDiv {ρ : Type} (g___fx_Acc__Sat : Int → Bool → Option (Int × Bool)) (g_wide_Mul : Int → Int → Option (Int × Int)) (g___fx_Acc__by : Int → Int → Int → Bool → Option (Int × Bool))  (x0 : Int) (x1 : Int) (x2 : Int) (x3 : Bool) (k : (Int × Bool) → Option ρ) : Option ρ :=
  Option.bind (g___fx_Acc__Sat x0 x3) fun (d : Int × Bool) =>
    Option.bind (g___fx_Acc__Sat x1 d.snd) fun (d_1 : Int × Bool) =>
      Option.bind (g_wide_Mul d.fst d_1.fst) fun (d : Int × Int) =>
        Option.bind (g___fx_Acc__Sat x2 d_1.snd) fun (d_2 : Int × Bool) => Option.bind (g___fx_Acc__by d.fst d.snd d_2.fst d_2.snd) fun (d : Int × Bool) => k (d.fst, d.snd)
def f___fx_Acc__MulDiv (x0 : Int) (x1 : Int) (x2 : Int) (x3 : Bool) : Option (Int × Bool) := K___fx_Acc__MulDiv f___fx_Acc__Sat f_wide_Mul f___fx_Acc__by  x0 x1 x2 x3 some
section
open Go.Ab.Rdr
def QA___fx_Acc__MulDiv := ((pair (cons (ar (rc (cptr (nat 0) (ok' (nat 0)) (nat 1)))) (cons (ar (rc (cf (fi .i64 hole)))) (cons (ar (rc (cf (fi .i64 hole)))) (cons (ar (rc (cf (fi .i64 hole)))) nil)))) (cons (cons (gc (cf (fb hole))) nil) nil)) : Rdr (List AV × List Blk) _)
end
def F___fx_Acc__MulDiv (f : (Int) → (Int) → (Int) → (Bool) → Option (Int × Bool)) : Sem1 := fun args h => match (QA___fx_Acc__MulDiv).rd (args, h) with
  | some b => .opt (f b.1.2.1 b.1.2.2.1 b.1.2.2.2.1 b.2.1.1) fun (d : Int × Bool) => .leaf (Res.mk (AV.r (RV.c (CV.f (FV.i IntKind.i64 d.fst)))) [Ch.set [Sg.c (CV.f (FV.b d.snd))]] [])
  | none => .fail
theorem d___fx_Acc__MulDiv (g___fx_Acc__Sat : Int → Bool → Option (Int × Bool)) (g_wide_Mul : Int → Int → Option (Int × Int)) (g___fx_Acc__by : Int → Int → Int → Bool → Option (Int × Bool))  (x0 : Int) (x1 : Int) (x2 : Int) (x3 : Bool) : den Try.prog (envOf [(91, F___fx_Acc__Sat g___fx_Acc__Sat), (23, F_wide_Mul g_wide_Mul), (93, F___fx_Acc__by g___fx_Acc__by)]) ⟨[], [], [], [], none⟩ 200 68 [.r (.c (.ptr 0 (.k 0) 1)), .r (.c (.f (.i .i64 x0))), .r (.c (.f (.i .i64 x1))), .r (.c (.f (.i .i64 x2)))] [[.c (.f (.b x3))]] =
    K___fx_Acc__MulDiv g___fx_Acc__Sat g_wide_Mul g___fx_Acc__by  x0 x1 x2 x3 (fun (d : Int × Bool) => some (Res.mk (AV.r (RV.c (CV.f (FV.i IntKind.i64 d.fst)))) [Ch.set [Sg.c (CV.f (FV.b d.snd))]] [])) := by kernel_rfl
theorem m___fx_Acc__MulDiv {ρ σ : Type} (q : ρ → Option σ) (g___fx_Acc__Sat : Int → Bool → Option (Int × Bool)) (g_wide_Mul : Int → Int → Option (Int × Int)) (g___fx_Acc__by : Int → Int → Int → Bool → Option (Int × Bool))   (x0 : Int) (x1 : Int) (x2 : Int) (x3 : Bool) (k : (Int × Bool) → Option ρ) : (K___fx_Acc__MulDiv g___fx_Acc__Sat g_wide_Mul g___fx_Acc__by  x0 x1 x2 x3 k).bind q = K___fx_Acc__MulDiv g___fx_Acc__Sat g_wide_Mul g___fx_Acc__by  x0 x1 x2 x3 (fun d => (k d).bind q) := by
  simp only [K___fx_Acc__MulDiv, bnd_cond, bnd_bind, bnd_none, bnd_sum]
theorem qa___fx_Acc__MulDiv : ∀ b, (QA___fx_Acc__MulDiv).em b = ([.r (.c (.ptr 0 (.k 0) 1)), .r (.c (.f (.i .i64 b.1.2.1))), .r (.c (.f (.i .i64 b.1.2.2.1))), .r (.c (.f (.i .i64 b.1.2.2.2.1)))], [[.c (.f (.b b.2.1.1))]]) := fun b => by kernel_rfl
theorem e___fx_Acc__MulDiv {f : (Int) → (Int) → (Int) → (Bool) → Option (Int × Bool)} {args : List AV} {h : List Blk} {r : Res} (hr : (F___fx_Acc__MulDiv f args h).eval = some r) : ∃ x0 x1 x2 x3, args = [.r (.c (.ptr 0 (.k 0) 1)), .r (.c (.f (.i .i64 x0))), .r (.c (.f (.i .i64 x1))), .r (.c (.f (.i .i64 x2)))] ∧ h = [[.c (.f (.b x3))]] ∧ (f x0 x1 x2 x3).bind (fun (d : Int × Bool) => some (Res.mk (AV.r (RV.c (CV.f (FV.i IntKind.i64 d.fst)))) [Ch.set [Sg.c (CV.f (FV.b d.snd))]] [])) = some r := by
  unfold F___fx_Acc__MulDiv at hr
  split at hr
  · rename_i b hb
    have e := ((QA___fx_Acc__MulDiv).ok _ _ hb).trans (qa___fx_Acc__MulDiv b)
    rw [opt_eval2] at hr
    exact ⟨b.1.2.1, b.1.2.2.1, b.1.2.2.2.1, b.2.1.1, (Prod.mk.inj e).1, (Prod.mk.inj e).2, hr⟩
  · cases hr
theorem n___fx_Acc__MulDiv {σ : Type} (q : (Int × Bool) → Option σ) (x0 : Int) (x1 : Int) (x2 : Int) (x3 : Bool) : (f___fx_Acc__MulDiv x0 x1 x2 x3).bind q = K___fx_Acc__MulDiv f___fx_Acc__Sat f_wide_Mul f___fx_Acc__by  x0 x1 x2 x3 q := by
  unfold f___fx_Acc__MulDiv
  exact m___fx_Acc__MulDiv q f___fx_Acc__Sat f_wide_Mul f___fx_Acc__by   x0 x1 x2 x3 some
theorem s___fx_Acc__MulDiv : Sound Try.prog 68 (F___fx_Acc__MulDiv f___fx_Acc__MulDiv) :=
  (inl_sound (l := [(91, F___fx_Acc__Sat f___fx_Acc__Sat), (23, F_wide_Mul f_wide_Mul), (93, F___fx_Acc__by f___fx_Acc__by)]) (.cons s___fx_Acc__Sat (.cons s_wide_Mul (.cons s___fx_Acc__by (.nil _)))) mixed [] [] 200 (by kernel_rfl)).by (F := F___fx_Acc__MulDiv f___fx_Acc__MulDiv) fun args b r hr => by
  obtain ⟨x0, x1, x2, x3, rfl, rfl, hr1⟩ := e___fx_Acc__MulDiv hr
  exact inl_eval ((d___fx_Acc__MulDiv f___fx_Acc__Sat f_wide_Mul f___fx_Acc__by  x0 x1 x2 x3).trans ((n___fx_Acc__MulDiv (fun (d : Int × Bool) => some (Res.mk (AV.r (RV.c (CV.f (FV.i IntKind.i64 d.fst)))) [Ch.set [Sg.c (CV.f (FV.b d.snd))]] [])) x0 x1 x2 x3).symm.trans hr1))

def K___fx_Acc__Div {ρ : Type} (g___fx_Acc__Sat : Int → Bool → Option (Int × Bool)) (g_wide_Shift : Int → Int → Option (Int × Int × Bool)) (g___fx_Acc__by : Int → Int → Int → Bool → Option (Int × Bool))  (x0 : Int) (x1 : Int) (x2 : Int) (x3 : Bool) (k : (Int × Bool) → Option ρ) : Option ρ :=
  Option.bind (g___fx_Acc__Sat x0 x3) fun (d : Int × Bool) =>
    Option.bind (g___fx_Acc__Sat x1 d.snd) fun (d_1 : Int × Bool) =>
      bif decide (x2 < 0) then k (0, true)
      else
        bif decide (x2 > 66) then k (0, true)
        else Option.bind (g_wide_Shift d.fst x2) fun (d : Int × Int × Bool) => Option.bind (g___fx_Acc__by d.fst d.snd.fst d_1.fst d_1.snd) fun (d : Int × Bool) => k (d.fst, d.snd)
def f___fx_Acc__Div (x0 : Int) (x1 : Int) (x2 : Int) (x3 : Bool) : Option (Int × Bool) := K___fx_Acc__Div f___fx_Acc__Sat f_wide_Shift f___fx_Acc__by  x0 x1 x2 x3 some
section
open Go.Ab.Rdr
def QA___fx_Acc__Div := ((pair (cons (ar (rc (cptr (nat 0) (ok' (nat 0)) (nat 1)))) (cons (ar (rc (cf (fi .i64 hole)))) (cons (ar (rc (cf (fi .i64 hole)))) (cons (ar (rc (cf (fi .i64 hole)))) nil)))) (cons (cons (gc (cf (fb hole))) nil) nil)) : Rdr (List AV × List Blk) _)
end
def F___fx_Acc__Div (f : (Int) → (Int) → (Int) → (Bool) → Option (Int × Bool)) : Sem1 := fun args h => match (QA___fx_Acc__Div).rd (args, h) with
  | some b => .opt (f b.1.2.1 b.1.2.2.1 b.1.2.2.2.1 b.2.1.1) fun (d : Int × Bool) => .leaf (Res.mk (AV.r (RV.c (CV.f (FV.i IntKind.i64 d.fst)))) [Ch.set [Sg.c (CV.f (FV.b d.snd))]] [])
  | none => .fail
theorem d___fx_Acc__Div (g___fx_Acc__Sat : Int → Bool → Option (Int × Bool)) (g_wide_Shift : Int → Int → Option (Int × Int × Bool)) (g___fx_Acc__by : Int → Int → Int → Bool → Option (Int × Bool))  (x0 : Int) (x1 : Int) (x2 : Int) (x3 : Bool) : den Try.prog (envOf [(91, F___fx_Acc__Sat g___fx_Acc__Sat), (31, F_wide_Shift g_wide_Shift), (93, F___fx_Acc__by g___fx_Acc__by)]) ⟨[], [], [], [], none⟩ 200 72 [.r (.c (.ptr 0 (.k 0) 1)), .r (.c (.f (.i .i64 x0))), .r (.c (.f (.i .i64 x1))), .r (.c (.f (.i .i64 x2)))] [[.c (.f (.b x3))]] =
    K___fx_Acc__Div g___fx_Acc__Sat g_wide_Shift g___fx_Acc__by  x0 x1 x2 x3 (fun (d : Int × Bool) => some (Res.mk (AV.r (RV.c (CV.f (FV.i IntKind.i64 d.fst)))) [Ch.set [Sg.c (CV.f (FV.b d.snd))]] [])) := by kernel_rfl
theorem m___fx_Acc__Div {ρ σ : Type} (q : ρ → Option σ) (g___fx_Acc__Sat : Int → Bool → Option (Int × Bool)) (g_wide_Shift : Int → Int → Option (Int × Int × Bool)) (g___fx_Acc__by : Int → Int → Int → Bool → Option (Int × Bool))   (x0 : Int) (x1 : Int) (x2 : Int) (x3 : Bool) (k : (Int × Bool) → Option ρ) : (K___fx_Acc__Div g___fx_Acc__Sat g_wide_Shift g___fx_Acc__by  x0 x1 x2 x3 k).bind q = K___fx_Acc__Div g___fx_Acc__Sat g_wide_Shift g___fx_Acc__by  x0 x1 x2 x3 (fun d => (k d).bind q) := by
  simp only [K___fx_Acc__Div, bnd_cond, bnd_bind, bnd_none, bnd_sum]
theorem qa___fx_Acc__Div : ∀ b, (QA___fx_Acc__Div).em b = ([.r (.c (.ptr 0 (.k 0) 1)), .r (.c (.f (.i .i64 b.1.2.1))), .r (.c (.f (.i .i64 b.1.2.2.1))), .r (.c (.f (.i .i64 b.1.2.2.2.1)))], [[.c (.f (.b b.2.1.1))]]) := fun b => by kernel_rfl
theorem e___fx_Acc__Div {f : (Int) → (Int) → (Int) → (Bool) → Option (Int × Bool)} {args : List AV} {h : List Blk} {r : Res} (hr : (F___fx_Acc__Div f args h).eval = some r) : ∃ x0 x1 x2 x3, args = [.r (.c (.ptr 0 (.k 0) 1)), .r (.c (.f (.i .i64 x0))), .r (.c (.f (.i .i64 x1))), .r (.c (.f (.i .i64 x2)))] ∧ h = [[.c (.f (.b x3))]] ∧ (f x0 x1 x2 x3).bind (fun (d : Int × Bool) => some (Res.mk (AV.r (RV.c (CV.f (FV.i IntKind.i64 d.fst)))) [Ch.set [Sg.c (CV.f (FV.b d.snd))]] [])) = some r := by
  unfold F___fx_Acc__Div at hr
  split at hr
  · rename_i b hb
    have e := ((QA___fx_Acc__Div).ok _ _ hb).trans (qa___fx_Acc__Div b)
    rw [opt_eval2] at hr
    exact ⟨b.1.2.1, b.1.2.2.1, b.1.2.2.2.1, b.2.1.1, (Prod.mk.inj e).1, (Prod.mk.inj e).2, hr⟩
  · cases hr
theorem n___fx_Acc__Div {σ : Type} (q : (Int × Bool) → Option σ) (x0 : Int) (x1 : Int) (x2 : Int) (x3 : Bool) : (f___fx_Acc__Div x0 x1 x2 x3).bind q = K___fx_Acc__Div f___fx_Acc__Sat f_wide_Shift f___fx_Acc__by  x0 x1 x2 x3 q := by
  unfold f___fx_Acc__Div
  exact m___fx_Acc__Div q f___fx_Acc__Sat f_wide_Shift f___fx_Acc__by   x0 x1 x2 x3 some
theorem s___fx_Acc__Div : Sound Try.prog 72 (F___fx_Acc__Div f___fx_Acc__Div) :=
  (inl_sound (l := [(91, F___fx_Acc__Sat f___fx_Acc__Sat), (31, F_wide_Shift f_wide_Shift), (93, F___fx_Acc__by f___fx_Acc__by)]) (.cons s___fx_Acc__Sat (.cons s_wide_Shift (.cons s___fx_Acc__by (.nil _)))) mixed [] [] 200 (by kernel_rfl)).by (F := F___fx_Acc__Div f___fx_Acc__Div) fun args b r hr => by
  obtain ⟨x0, x1, x2, x3, rfl, rfl, hr1⟩ := e___fx_Acc__Div hr
  exact inl_eval ((d___fx_Acc__Div f___fx_Acc__Sat f_wide_Shift f___fx_Acc__by  x0 x1 x2 x3).trans ((n___fx_Acc__Div (fun (d : Int × Bool) => some (Res.mk (AV.r (RV.c (CV.f (FV.i IntKind.i64 d.fst)))) [Ch.set [Sg.c (CV.f (FV.b d.snd))]] [])) x0 x1 x2 x3).symm.trans hr1))

def K_root_end {ρ : Type} (g_wide_Root : Int → Int → Option (Int × Bool)) (g___fx_Acc__Sat : Int → Bool → Option (Int × Bool))  (x0 : Int) (x1 : Int) (x2 : Bool) (k : (Int × Bool) → Option ρ) : Option ρ :=
  Option.bind (g_wide_Root x0 x1) fun (d : Int × Bool) =>
    bif !d.snd then Option.bind (g___fx_Acc__Sat 1152921504606846977 x2) fun (d : Int × Bool) => k (d.fst, d.snd) else Option.bind (g___fx_Acc__Sat d.fst x2) fun (d : Int × Bool) => k (d.fst, d.snd)
def f_root_end (x0 : Int) (x1 : Int) (x2 : Bool) : Option (Int × Bool) := K_root_end f_wide_Root f___fx_Acc__Sat  x0 x1 x2 some
section
open Go.Ab.Rdr
def QA_root_end := ((pair (cons (ar (rc (cptr (nat 0) (ok' (nat 0)) (nat 1)))) (cons (ar (ra (cons (gc (cf (fi .i64 hole))) (cons (gc (cf (fi .u64 hole))) nil)))) nil)) (cons (cons (gc (cf (fb hole))) nil) nil)) : Rdr (List AV × List Blk) _)
end
def F_root_end (f : (Int) → (Int) → (Bool) → Option (Int × Bool)) : Sem1 := fun args h => match (QA_root_end).rd (args, h) with
  | some b => .opt (f b.1.2.1.1 b.1.2.1.2.1 b.2.1.1) fun (d : Int × Bool) => .leaf (Res.mk (AV.r (RV.c (CV.f (FV.i IntKind.i64 d.fst)))) [Ch.set [Sg.c (CV.f (FV.b d.snd))]] [])
  | none => .fail
theorem d_root_end (g_wide_Root : Int → Int → Option (Int × Bool)) (g___fx_Acc__Sat : Int → Bool → Option (Int × Bool))  (x0 : Int) (x1 : Int) (x2 : Bool) : den Try.prog (envOf [(15, F_wide_Root g_wide_Root), (91, F___fx_Acc__Sat g___fx_Acc__Sat)]) ⟨[], [], [], [], none⟩ 200 98 [.r (.c (.ptr 0 (.k 0) 1)), .r (.agg [.c (.f (.i .i64 x0)), .c (.f (.i .u64 x1))])] [[.c (.f (.b x2))]] =
    K_root_end g_wide_Root g___fx_Acc__Sat  x0 x1 x2 (fun (d : Int × Bool) => some (Res.mk (AV.r (RV.c (CV.f (FV.i IntKind.i64 d.fst)))) [Ch.set [Sg.c (CV.f (FV.b d.snd))]] [])) := by kernel_rfl
theorem m_root_end {ρ σ : Type} (q : ρ → Option σ) (g_wide_Root : Int → Int → Option (Int × Bool)) (g___fx_Acc__Sat : Int → Bool → Option (Int × Bool))   (x0 : Int) (x1 : Int) (x2 : Bool) (k : (Int × Bool) → Option ρ) : (K_root_end g_wide_Root g___fx_Acc__Sat  x0 x1 x2 k).bind q = K_root_end g_wide_Root g___fx_Acc__Sat  x0 x1 x2 (fun d => (k d).bind q) := by
  simp only [K_root_end, bnd_cond, bnd_bind, bnd_none, bnd_sum]
theorem qa_root_end : ∀ b, (QA_root_end).em b = ([.r (.c (.ptr 0 (.k 0) 1)), .r (.agg [.c (.f (.i .i64 b.1.2.1.1)), .c (.f (.i .u64 b.1.2.1.2.1))])], [[.c (.f (.b b.2.1.1))]]) := fun b => by kernel_rfl
theorem e_root_end {f : (Int) → (Int) → (Bool) → Option (Int × Bool)} {args : List AV} {h : List Blk} {r : Res} (hr : (F_root_end f args h).eval = some r) : ∃ x0 x1 x2, args = [.r (.c (.ptr 0 (.k 0) 1)), .r (.agg [.c (.f (.i .i64 x0)), .c (.f (.i .u64 x1))])] ∧ h = [[.c (.f (.b x2))]] ∧ (f x0 x1 x2).bind (fun (d : Int × Bool) => some (Res.mk (AV.r (RV.c (CV.f (FV.i IntKind.i64 d.fst)))) [Ch.set [Sg.c (CV.f (FV.b d.snd))]] [])) = some r := by
  unfold F_root_end at hr
  split at hr
  · rename_i b hb
    have e := ((QA_root_end).ok _ _ hb).trans (qa_root_end b)
    rw [opt_eval2] at hr
    exact ⟨b.1.2.1.1, b.1.2.1.2.1, b.2.1.1, (Prod.mk.inj e).1, (Prod.mk.inj e).2, hr⟩
  · cases hr
theorem n_root_end {σ : Type} (q : (Int × Bool) → Option σ) (x0 : Int) (x1 : Int) (x2 : Bool) : (f_root_end x0 x1 x2).bind q = K_root_end f_wide_Root f___fx_Acc__Sat  x0 x1 x2 q := by
  unfold f_root_end
  exact m_root_end q f_wide_Root f___fx_Acc__Sat   x0 x1 x2 some
theorem s_root_end : Sound Try.prog 98 (F_root_end f_root_end) :=
  (inl_sound (l := [(15, F_wide_Root f_wide_Root), (91, F___fx_Acc__Sat f___fx_Acc__Sat)]) (.cons s_wide_Root (.cons s___fx_Acc__Sat (.nil _))) mixed [] [] 200 (by kernel_rfl)).by (F := F_root_end f_root_end) fun args b r hr => by
  obtain ⟨x0, x1, x2, rfl, rfl, hr1⟩ := e_root_end hr
  exact inl_eval ((d_root_end f_wide_Root f___fx_Acc__Sat  x0 x1 x2).trans ((n_root_end (fun (d : Int × Bool) => some (Res.mk (AV.r (RV.c (CV.f (FV.i IntKind.i64 d.fst)))) [Ch.set [Sg.c (CV.f (FV.b d.snd))]] [])) x0 x1 x2).symm.trans hr1))

def K_root_Sqrt {ρ : Type} (g___fx_Acc__Sat : Int → Bool → Option (Int × Bool)) (g_wide_Shift : Int → Int → Option (Int × Int × Bool)) (g_root_end : Int → Int → Bool → Option (Int × Bool))  (x0 : Int) (x1 : Bool) (k : (Int × Bool) → Option ρ) : Option ρ :=
  Option.bind (g___fx_Acc__Sat x0 x1) fun (d : Int × Bool) =>
    bif decide (d.fst < 0) then k (0, true)
    else Option.bind (g_wide_Shift d.fst 30) fun (d_1 : Int × Int × Bool) => Option.bind (g_root_end d_1.fst d_1.snd.fst d.snd) fun (d : Int × Bool) => k (d.fst, d.snd)
def f_root_Sqrt (x0 : Int) (x1 : Bool) : Option (Int × Bool) := K_root_Sqrt f___fx_Acc__Sat f_wide_Shift f_root_end  x0 x1 some
section
open Go.Ab.Rdr
def QA_root_Sqrt := ((pair (cons (ar (rc (cptr (nat 0) (ok' (nat 0)) (nat 1)))) (cons (ar (rc (cf (fi .i64 hole)))) nil)) (cons (cons (gc (cf (fb hole))) nil) nil)) : Rdr (List AV × List Blk) _)
end
def F_root_Sqrt (f : (Int) → (Bool) → Option (Int × Bool)) : Sem1 := fun args h => match (QA_root_Sqrt).rd (args, h) with
  | some b => .opt (f b.1.2.1 b.2.1.1) fun (d : Int × Bool) => .leaf (Res.mk (AV.r (RV.c (CV.f (FV.i IntKind.i64 d.fst)))) [Ch.set [Sg.c (CV.f (FV.b d.snd))]] [])
  | none => .fail
theorem d_root_Sqrt (g___fx_Acc__Sat : Int → Bool → Option (Int × Bool)) (g_wide_Shift : Int → Int → Option (Int × Int × Bool)) (g_root_end : Int → Int → Bool → Option (Int × Bool))  (x0 : Int) (x1 : Bool) : den Try.prog (envOf [(91, F___fx_Acc__Sat g___fx_Acc__Sat), (31, F_wide_Shift g_wide_Shift), (98, F_root_end g_root_end)]) ⟨[], [], [], [], none⟩ 200 71 [.r (.c (.ptr 0 (.k 0) 1)), .r (.c (.f (.i .i64 x0)))] [[.c (.f (.b x1))]] =
    K_root_Sqrt g___fx_Acc__Sat g_wide_Shift g_root_end  x0 x1 (fun (d : Int × Bool) => some (Res.mk (AV.r (RV.c (CV.f (FV.i IntKind.i64 d.fst)))) [Ch.set [Sg.c (CV.f (FV.b d.snd))]] [])) := by kernel_rfl
theorem m_root_Sqrt {ρ σ : Type} (q : ρ → Option σ) (g___fx_Acc__Sat : Int → Bool → Option (Int × Bool)) (g_wide_Shift : Int → Int → Option (Int × Int × Bool)) (g_root_end : Int → Int → Bool → Option (Int × Bool))   (x0 : Int) (x1 : Bool) (k : (Int × Bool) → Option ρ) : (K_root_Sqrt g___fx_Acc__Sat g_wide_Shift g_root_end  x0 x1 k).bind q = K_root_Sqrt g___fx_Acc__Sat g_wide_Shift g_root_end  x0 x1 (fun d => (k d).bind q) := by
  simp only [K_root_Sqrt, bnd_cond, bnd_bind, bnd_none, bnd_sum]
theorem qa_root_Sqrt : ∀ b, (QA_root_Sqrt).em b = ([.r (.c (.ptr 0 (.k 0) 1)), .r (.c (.f (.i .i64 b.1.2.1)))], [[.c (.f (.b b.2.1.1))]]) := fun b => by kernel_rfl
theorem e_root_Sqrt {f : (Int) → (Bool) → Option (Int × Bool)} {args : List AV} {h : List Blk} {r : Res} (hr : (F_root_Sqrt f args h).eval = some r) : ∃ x0 x1, args = [.r (.c (.ptr 0 (.k 0) 1)), .r (.c (.f (.i .i64 x0)))] ∧ h = [[.c (.f (.b x1))]] ∧ (f x0 x1).bind (fun (d : Int × Bool) => some (Res.mk (AV.r (RV.c (CV.f (FV.i IntKind.i64 d.fst)))) [Ch.set [Sg.c (CV.f (FV.b d.snd))]] [])) = some r := by
  unfold F_root_Sqrt at hr
  split at hr
  · rename_i b hb
    have e := ((QA_root_Sqrt).ok _ _ hb).trans (qa_root_Sqrt b)
    rw [opt_eval2] at hr
    exact ⟨b.1.2.1, b.2.1.1, (Prod.mk.inj e).1, (Prod.mk.inj e).2, hr⟩
  · cases hr
theorem n_root_Sqrt {σ : Type} (q : (Int × Bool) → Option σ) (x0 : Int) (x1 : Bool) : (f_root_Sqrt x0 x1).bind q = K_root_Sqrt f___fx_Acc__Sat f_wide_Shift f_root_end  x0 x1 q := by
  unfold f_root_Sqrt
  exact m_root_Sqrt q f___fx_Acc__Sat f_wide_Shift f_root_end   x0 x1 some
theorem s_root_Sqrt : Sound Try.prog 71 (F_root_Sqrt f_root_Sqrt) :=
  (inl_sound (l := [(91, F___fx_Acc__Sat f___fx_Acc__Sat), (31, F_wide_Shift f_wide_Shift), (98, F_root_end f_root_end)]) (.cons s___fx_Acc__Sat (.cons s_wide_Shift (.cons s_root_end (.nil _)))) mixed [] [] 200 (by kernel_rfl)).by (F := F_root_Sqrt f_root_Sqrt) fun args b r hr => by
  obtain ⟨x0, x1, rfl, rfl, hr1⟩ := e_root_Sqrt hr
  exact inl_eval ((d_root_Sqrt f___fx_Acc__Sat f_wide_Shift f_root_end  x0 x1).trans ((n_root_Sqrt (fun (d : Int × Bool) => some (Res.mk (AV.r (RV.c (CV.f (FV.i IntKind.i64 d.fst)))) [Ch.set [Sg.c (CV.f (FV.b d.snd))]] [])) x0 x1).symm.trans hr1))

def K_trig_Wrap {ρ : Type}   (x0 : Int) (k : (Int) → Option ρ) : Option ρ :=
  bif decide (Int.tmod x0 6746518852 > 3373259426) then k (IntKind.wrap IntKind.i64 (Int.tmod x0 6746518852 - 6746518852))
  else bif decide (Int.tmod x0 6746518852 ≤ -3373259426) then k (IntKind.wrap IntKind.i64 (Int.tmod x0 6746518852 + 6746518852)) else k (Int.tmod x0 6746518852)
def f_trig_Wrap (x0 : Int) : Option (Int) := K_trig_Wrap   x0 some
section
open Go.Ab.Rdr
def QA_trig_Wrap := ((pair (cons (ar (rc (cf (fi .i64 hole)))) nil) nil) : Rdr (List AV × List Blk) _)
end
def F_trig_Wrap (f : (Int) → Option (Int)) : Sem1 := fun args h => match (QA_trig_Wrap).rd (args, h) with
  | some b => .opt (f b.1.1) fun (d : Int) => .leaf (Res.mk (AV.r (RV.c (CV.f (FV.i IntKind.i64 d)))) [] [])
  | none => .fail
theorem d_trig_Wrap   (x0 : Int) : den Try.prog (envOf []) ⟨[], [], [], [], none⟩ 200 94 [.r (.c (.f (.i .i64 x0)))] [] =
    K_trig_Wrap   x0 (fun (d : Int) => some (Res.mk (AV.r (RV.c (CV.f (FV.i IntKind.i64 d)))) [] [])) := by kernel_rfl
theorem m_trig_Wrap {ρ σ : Type} (q : ρ → Option σ)    (x0 : Int) (k : (Int) → Option ρ) : (K_trig_Wrap   x0 k).bind q = K_trig_Wrap   x0 (fun d => (k d).bind q) := by
  simp only [K_trig_Wrap, bnd_cond, bnd_bind, bnd_none, bnd_sum]
theorem qa_trig_Wrap : ∀ b, (QA_trig_Wrap).em b = ([.r (.c (.f (.i .i64 b.1.1)))], []) := fun b => by kernel_rfl
theorem e_trig_Wrap {f : (Int) → Option (Int)} {args : List AV} {h : List Blk} {r : Res} (hr : (F_trig_Wrap f args h).eval = some r) : ∃ x0, args = [.r (.c (.f (.i .i64 x0)))] ∧ h = [] ∧ (f x0).bind (fun (d : Int) => some (Res.mk (AV.r (RV.c (CV.f (FV.i IntKind.i64 d)))) [] [])) = some r := by
  unfold F_trig_Wrap at hr
  split at hr
  · rename_i b hb
    have e := ((QA_trig_Wrap).ok _ _ hb).trans (qa_trig_Wrap b)
    rw [opt_eval2] at hr
    exact ⟨b.1.1, (Prod.mk.inj e).1, (Prod.mk.inj e).2, hr⟩
  · cases hr
theorem n_trig_Wrap {σ : Type} (q : (Int) → Option σ) (x0 : Int) : (f_trig_Wrap x0).bind q = K_trig_Wrap   x0 q := by
  unfold f_trig_Wrap
  exact m_trig_Wrap q    x0 some
theorem s_trig_Wrap : Sound Try.prog 94 (F_trig_Wrap f_trig_Wrap) :=
  (inl_sound (l := []) (.nil _) mixed [] [] 200 (by kernel_rfl)).by (F := F_trig_Wrap f_trig_Wrap) fun args b r hr => by
  obtain ⟨x0, rfl, rfl, hr1⟩ := e_trig_Wrap hr
  exact inl_eval ((d_trig_Wrap   x0).trans ((n_trig_Wrap (fun (d : Int) => some (Res.mk (AV.r (RV.c (CV.f (FV.i IntKind.i64 d)))) [] [])) x0).symm.trans hr1))

def K_trig_m {ρ : Type} (g___fx_Acc__Mul : Int → Int → Int → Bool → Option (Int × Bool))  (x0 : Int) (x1 : Int) (x2 : Bool) (k : (Int × Bool) → Option ρ) : Option ρ :=
  Option.bind (g___fx_Acc__Mul x0 x1 30 x2) fun (d : Int × Bool) => k (d.fst, d.snd)
def f_trig_m (x0 : Int) (x1 : Int) (x2 : Bool) : Option (Int × Bool) := K_trig_m f___fx_Acc__Mul  x0 x1 x2 some
section
open Go.Ab.Rdr
def QA_trig_m := ((pair (cons (ar (rc (cptr (nat 0) (ok' (nat 0)) (nat 1)))) (cons (ar (rc (cf (fi .i64 hole)))) (cons (ar (rc (cf (fi .i64 hole)))) nil))) (cons (cons (gc (cf (fb hole))) nil) nil)) : Rdr (List AV × List Blk) _)
end
def F_trig_m (f : (Int) → (Int) → (Bool) → Option (Int × Bool)) : Sem1 := fun args h => match (QA_trig_m).rd (args, h) with
  | some b => .opt (f b.1.2.1 b.1.2.2.1 b.2.1.1) fun (d : Int × Bool) => .leaf (Res.mk (AV.r (RV.c (CV.f (FV.i IntKind.i64 d.fst)))) [Ch.set [Sg.c (CV.f (FV.b d.snd))]] [])
  | none => .fail
theorem d_trig_m (g___fx_Acc__Mul : Int → Int → Int → Bool → Option (Int × Bool))  (x0 : Int) (x1 : Int) (x2 : Bool) : den Try.prog (envOf [(67, F___fx_Acc__Mul g___fx_Acc__Mul)]) ⟨[], [], [], [], none⟩ 200 96 [.r (.c (.ptr 0 (.k 0) 1)), .r (.c (.f (.i .i64 x0))), .r (.c (.f (.i .i64 x1)))] [[.c (.f (.b x2))]] =
    K_trig_m g___fx_Acc__Mul  x0 x1 x2 (fun (d : Int × Bool) => some (Res.mk (AV.r (RV.c (CV.f (FV.i IntKind.i64 d.fst)))) [Ch.set [Sg.c (CV.f (FV.b d.snd))]] [])) := by kernel_rfl
theorem m_trig_m {ρ σ : Type} (q : ρ → Option σ) (g___fx_Acc__Mul : Int → Int → Int → Bool → Option (Int × Bool))   (x0 : Int) (x1 : Int) (x2 : Bool) (k : (Int × Bool) → Option ρ) : (K_trig_m g___fx_Acc__Mul  x0 x1 x2 k).bind q = K_trig_m g___fx_Acc__Mul  x0 x1 x2 (fun d => (k d).bind q) := by
  simp only [K_trig_m, bnd_cond, bnd_bind, bnd_none, bnd_sum]
theorem qa_trig_m : ∀ b, (QA_trig_m).em b = ([.r (.c (.ptr 0 (.k 0) 1)), .r (.c (.f (.i .i64 b.1.2.1))), .r (.c (.f (.i .i64 b.1.2.2.1)))], [[.c (.f (.b b.2.1.1))]]) := fun b => by kernel_rfl
theorem e_trig_m {f : (Int) → (Int) → (Bool) → Option (Int × Bool)} {args : List AV} {h : List Blk} {r : Res} (hr : (F_trig_m f args h).eval = some r) : ∃ x0 x1 x2, args = [.r (.c (.ptr 0 (.k 0) 1)), .r (.c (.f (.i .i64 x0))), .r (.c (.f (.i .i64 x1)))] ∧ h = [[.c (.f (.b x2))]] ∧ (f x0 x1 x2).bind (fun (d : Int × Bool) => some (Res.mk (AV.r (RV.c (CV.f (FV.i IntKind.i64 d.fst)))) [Ch.set [Sg.c (CV.f (FV.b d.snd))]] [])) = some r := by
  unfold F_trig_m at hr
  split at hr
  · rename_i b hb
    have e := ((QA_trig_m).ok _ _ hb).trans (qa_trig_m b)
    rw [opt_eval2] at hr
    exact ⟨b.1.2.1, b.1.2.2.1, b.2.1.1, (Prod.mk.inj e).1, (Prod.mk.inj e).2, hr⟩
  · cases hr
theorem n_trig_m {σ : Type} (q : (Int × Bool) → Option σ) (x0 : Int) (x1 : Int) (x2 : Bool) : (f_trig_m x0 x1 x2).bind q = K_trig_m f___fx_Acc__Mul  x0 x1 x2 q := by
  unfold f_trig_m
  exact m_trig_m q f___fx_Acc__Mul   x0 x1 x2 some
theorem s_trig_m : Sound Try.prog 96 (F_trig_m f_trig_m) :=
  (inl_sound (l := [(67, F___fx_Acc__Mul f___fx_Acc__Mul)]) (.cons s___fx_Acc__Mul (.nil _)) mixed [] [] 200 (by kernel_rfl)).by (F := F_trig_m f_trig_m) fun args b r hr => by
  obtain ⟨x0, x1, x2, rfl, rfl, hr1⟩ := e_trig_m hr
  exact inl_eval ((d_trig_m f___fx_Acc__Mul  x0 x1 x2).trans ((n_trig_m (fun (d : Int × Bool) => some (Res.mk (AV.r (RV.c (CV.f (FV.i IntKind.i64 d.fst)))) [Ch.set [Sg.c (CV.f (FV.b d.snd))]] [])) x0 x1 x2).symm.trans hr1))

def S_trig_series_0 {ρ : Type} (g_trig_m : Int → Int → Bool → Option (Int × Bool)) (g___fx_Acc__Add : Nat → Bool → (Nat → Int) → Bool → Option (Int × Bool))  (x0 : Int) (x1 : Int) (x2 : Nat) (x3 : Bool) (x4 : Int) (x5 : Int) (x6 : Bool) (x7 : Nat) (x8 : Nat → Int) (c : (Int × Int × Nat × Bool × Int × Int × Bool × Nat × (Nat → Int)) → Option ρ) (x : (Int × Int × Nat × Bool × Int × Int × Bool × Bool × Nat × (Nat → Int)) → Option ρ) : Option ρ :=
  bif decide (x5 < x4) then
    bif inR x5 x2 then
      Option.bind (g_trig_m x0 x1 x6) fun (d : Int × Bool) =>
        Option.bind (g___fx_Acc__Add 2 d.snd (fun (j : Nat) => bif Nat.beq j 1 then d.fst else bif Nat.beq j 0 then x8 (1 + Int.toNat x5) else x8 (1 + Int.toNat x5)) true) fun (d : Int × Bool) =>
          c (x0, d.fst, x2, x3, x4, IntKind.wrap IntKind.i64 (x5 + 1), d.snd, x7, x8)
    else none
  else x (x0, x1, x2, x3, x4, x5, decide (x5 < x4), x6, x7, x8)
section
open Go.Ab.Rdr
def Q_trig_series_0 := (st (cons (ar (rc (cptr (nat 0) (ok' (nat 0)) (nat 1)))) (cons (ar (rc (cf (fi .i64 hole)))) (cons aund (cons aund (cons aund (cons aund (cons aund (cons (ar (rc (cf (fi .i64 hole)))) (cons aund (cons aund (cons aund (cons aund (cons aund (cons aund (cons (ar (rc (csl (nat 1) (ox (nat 0) (nat 1) (nat 1)) (szs hole) (nat 1) hole))) (cons (ar (rc (cf (fi .i64 hole)))) (cons (ar (rc (cf (fi .i64 hole)))) (cons aund (cons aund (cons aund (cons aund (cons aund (cons aund (cons aund (cons aund (cons aund (cons aund (cons aund (cons aund (cons aund nil)))))))))))))))))))))))))))))) (cons (some' (cons (gc (cf (fb hole))) nil)) (cons (some' (cons (ga (szs hole) (cons (ki .i64 hole) nil)) nil)) nil)) (cons (nat 0) nil))
end
theorem q_trig_series_0 : ∀ b, (Q_trig_series_0).em b = St.mk
    [AV.r (RV.c (CV.ptr 0 (Off.k 0) 1)), AV.r (RV.c (CV.f (FV.i IntKind.i64 b.1.2.1))), AV.und, AV.und, AV.und, AV.und, AV.und, AV.r (RV.c (CV.f (FV.i IntKind.i64 b.1.2.2.2.2.2.2.2.1))), AV.und, AV.und, AV.und, AV.und,
      AV.und, AV.und, AV.r (RV.c (CV.sl 1 (Off.x 0 1 1) (Sz.s b.1.2.2.2.2.2.2.2.2.2.2.2.2.2.2.1.2.2.1) 1 b.1.2.2.2.2.2.2.2.2.2.2.2.2.2.2.1.2.2.2.2)), AV.r (RV.c (CV.f (FV.i IntKind.i64 b.1.2.2.2.2.2.2.2.2.2.2.2.2.2.2.2.1))), AV.r (RV.c (CV.f (FV.i IntKind.i64 b.1.2.2.2.2.2.2.2.2.2.2.2.2.2.2.2.2.1))), AV.und, AV.und, AV.und, AV.und, AV.und,
      AV.und, AV.und, AV.und, AV.und, AV.und, AV.und, AV.und, AV.und]
    [some [Sg.c (CV.f (FV.b b.2.1.1.1))], some [Sg.a (Sz.s b.2.1.2.1.1.1) [Col.i IntKind.i64 b.2.1.2.1.1.2.1]]] [0] := fun b => by kernel_rfl
def R_trig_series_0 (l : ∀ {ρ : Type}, (Int × Int × Nat × Bool × Int × Int × Bool × Nat × (Nat → Int)) → ((Int × Int × Nat × Bool × Int × Int × Bool × Bool × Nat × (Nat → Int)) → Option ρ) → Option ρ) {ρ : Type} (s : St) (K : AX → St → Option ρ) : Option ρ := ((Q_trig_series_0).rd s).bind fun b => l (b.1.2.1, b.1.2.2.2.2.2.2.2.1, b.1.2.2.2.2.2.2.2.2.2.2.2.2.2.2.1.2.2.1, b.1.2.2.2.2.2.2.2.2.2.2.2.2.2.2.1.2.2.2.2, b.1.2.2.2.2.2.2.2.2.2.2.2.2.2.2.2.1, b.1.2.2.2.2.2.2.2.2.2.2.2.2.2.2.2.2.1, b.2.1.1.1, b.2.1.2.1.1.1, b.2.1.2.1.1.2.1) (fun d => K (AX.ex 0) (St.mk
  [AV.r (RV.c (CV.ptr 0 (Off.k 0) 1)), AV.r (RV.c (CV.f (FV.i IntKind.i64 d.fst))), AV.und, AV.und, AV.und, AV.und, AV.und, AV.r (RV.c (CV.f (FV.i IntKind.i64 d.snd.fst))), AV.und, AV.und, AV.und,
    AV.und, AV.und, AV.und, AV.r (RV.c (CV.sl 1 (Off.x 0 1 1) (Sz.s d.snd.snd.fst) 1 d.snd.snd.snd.fst)), AV.r (RV.c (CV.f (FV.i IntKind.i64 d.snd.snd.snd.snd.fst))),
    AV.r (RV.c (CV.f (FV.i IntKind.i64 d.snd.snd.snd.snd.snd.fst))), AV.r (RV.c (CV.f (FV.b d.snd.snd.snd.snd.snd.snd.fst))), AV.und, AV.und, AV.und, AV.und, AV.und, AV.und, AV.und, AV.und, AV.und,
    AV.und, AV.und, AV.und]
  [some [Sg.c (CV.f (FV.b d.snd.snd.snd.snd.snd.snd.snd.fst))], some [Sg.a (Sz.s d.snd.snd.snd.snd.snd.snd.snd.snd.fst) [Col.i IntKind.i64 d.snd.snd.snd.snd.snd.snd.snd.snd.snd]]] [0]))
theorem ms_trig_series_0 {ρ σ : Type} (g_trig_m : Int → Int → Bool → Option (Int × Bool)) (g___fx_Acc__Add : Nat → Bool → (Nat → Int) → Bool → Option (Int × Bool))   (q : ρ → Option σ) (x0 : Int) (x1 : Int) (x2 : Nat) (x3 : Bool) (x4 : Int) (x5 : Int) (x6 : Bool) (x7 : Nat) (x8 : Nat → Int) (c : (Int × Int × Nat × Bool × Int × Int × Bool × Nat × (Nat → Int)) → Option ρ) (x : (Int × Int × Nat × Bool × Int × Int × Bool × Bool × Nat × (Nat → Int)) → Option ρ) : (S_trig_series_0 g_trig_m g___fx_Acc__Add  x0 x1 x2 x3 x4 x5 x6 x7 x8 c x).bind q = S_trig_series_0 g_trig_m g___fx_Acc__Add  x0 x1 x2 x3 x4 x5 x6 x7 x8 (fun d => (c d).bind q) (fun d => (x d).bind q) := by
  simp only [S_trig_series_0, bnd_cond, bnd_bind, bnd_none, bnd_sum]
def L_trig_series_0 {ρ : Type} (d : Int × Int × Nat × Bool × Int × Int × Bool × Nat × (Nat → Int)) (k : (Int × Int × Nat × Bool × Int × Int × Bool × Bool × Nat × (Nat → Int)) → Option ρ) : Option ρ := loopK (fun d c x => S_trig_series_0 f_trig_m f___fx_Acc__Add  d.1 d.2.1 d.2.2.1 d.2.2.2.1 d.2.2.2.2.1 d.2.2.2.2.2.1 d.2.2.2.2.2.2.1 d.2.2.2.2.2.2.2.1 d.2.2.2.2.2.2.2.2 c x) 200 d k
theorem mL_trig_series_0 {ρ σ : Type} (q : ρ → Option σ) (d : Int × Int × Nat × Bool × Int × Int × Bool × Nat × (Nat → Int)) (k : (Int × Int × Nat × Bool × Int × Int × Bool × Bool × Nat × (Nat → Int)) → Option ρ) : (L_trig_series_0 d k).bind q = L_trig_series_0 d fun x => (k x).bind q :=
  loopK_bind q (fun d c x => ms_trig_series_0 f_trig_m f___fx_Acc__Add   q d.1 d.2.1 d.2.2.1 d.2.2.2.1 d.2.2.2.2.1 d.2.2.2.2.2.1 d.2.2.2.2.2.2.1 d.2.2.2.2.2.2.2.1 d.2.2.2.2.2.2.2.2 c x) k _ d
theorem ds_trig_series_0 {ρ : Type} (g_trig_m : Int → Int → Bool → Option (Int × Bool)) (g___fx_Acc__Add : Nat → Bool → (Nat → Int) → Bool → Option (Int × Bool)) (l_0 : ∀ {ρ : Type}, (Int × Int × Nat × Bool × Int × Int × Bool × Nat × (Nat → Int)) → ((Int × Int × Nat × Bool × Int × Int × Bool × Bool × Nat × (Nat → Int)) → Option ρ) → Option ρ) (x0 : Int) (x1 : Int) (x2 : Nat) (x3 : Bool) (x4 : Int) (x5 : Int) (x6 : Bool) (x7 : Nat) (x8 : Nat → Int) (c : St → Option ρ) (K : AX → St → Option ρ) :
    runC Try.prog (envOf [(96, F_trig_m g_trig_m), (114, F___fx_Acc__Add g___fx_Acc__Add)]) ⟨[⟨3, [2, 3, 4, 5, 6, 8, 9, 10, 11, 12, 13, 17, 18, 19, 20, 21, 22, 23, 24, 25, 26, 27, 28, 29], []⟩], [⟨3, 2, @R_trig_series_0 (@l_0)⟩], [0], [], none⟩ (tmpsOf Try.prog 97) 2 200 (loopIn Try.prog 97 3)
      (St.mk
    [AV.r (RV.c (CV.ptr 0 (Off.k 0) 1)), AV.r (RV.c (CV.f (FV.i IntKind.i64 x0))), AV.und, AV.und, AV.und, AV.und, AV.und, AV.r (RV.c (CV.f (FV.i IntKind.i64 x1))), AV.und, AV.und, AV.und, AV.und,
      AV.und, AV.und, AV.r (RV.c (CV.sl 1 (Off.x 0 1 1) (Sz.s x2) 1 x3)), AV.r (RV.c (CV.f (FV.i IntKind.i64 x4))), AV.r (RV.c (CV.f (FV.i IntKind.i64 x5))), AV.und, AV.und, AV.und, AV.und, AV.und,
      AV.und, AV.und, AV.und, AV.und, AV.und, AV.und, AV.und, AV.und]
    [some [Sg.c (CV.f (FV.b x6))], some [Sg.a (Sz.s x7) [Col.i IntKind.i64 x8]]] [0])
      (next (fun t => t.head 2 ⟨[⟨3, [2, 3, 4, 5, 6, 8, 9, 10, 11, 12, 13, 17, 18, 19, 20, 21, 22, 23, 24, 25, 26, 27, 28, 29], []⟩], [⟨3, 2, @R_trig_series_0 (@l_0)⟩], [0], [], none⟩ (loopIn Try.prog 97 3)) c K) =
    S_trig_series_0 g_trig_m g___fx_Acc__Add  x0 x1 x2 x3 x4 x5 x6 x7 x8 (fun d => c (St.mk
  [AV.r (RV.c (CV.ptr 0 (Off.k 0) 1)), AV.r (RV.c (CV.f (FV.i IntKind.i64 d.fst))), AV.und, AV.und, AV.und, AV.und, AV.und, AV.r (RV.c (CV.f (FV.i IntKind.i64 d.snd.fst))), AV.und, AV.und, AV.und,
    AV.und, AV.und, AV.und, AV.r (RV.c (CV.sl 1 (Off.x 0 1 1) (Sz.s d.snd.snd.fst) 1 d.snd.snd.snd.fst)), AV.r (RV.c (CV.f (FV.i IntKind.i64 d.snd.snd.snd.snd.fst))),
    AV.r (RV.c (CV.f (FV.i IntKind.i64 d.snd.snd.snd.snd.snd.fst))), AV.und, AV.und, AV.und, AV.und, AV.und, AV.und, AV.und, AV.und, AV.und, AV.und, AV.und, AV.und, AV.und]
  [some [Sg.c (CV.f (FV.b d.snd.snd.snd.snd.snd.snd.fst))], some [Sg.a (Sz.s d.snd.snd.snd.snd.snd.snd.snd.fst) [Col.i IntKind.i64 d.snd.snd.snd.snd.snd.snd.snd.snd]]] [0])) (fun d => K (AX.ex 0) (St.mk
  [AV.r (RV.c (CV.ptr 0 (Off.k 0) 1)), AV.r (RV.c (CV.f (FV.i IntKind.i64 d.fst))), AV.und, AV.und, AV.und, AV.und, AV.und, AV.r (RV.c (CV.f (FV.i IntKind.i64 d.snd.fst))), AV.und, AV.und, AV.und,
    AV.und, AV.und, AV.und, AV.r (RV.c (CV.sl 1 (Off.x 0 1 1) (Sz.s d.snd.snd.fst) 1 d.snd.snd.snd.fst)), AV.r (RV.c (CV.f (FV.i IntKind.i64 d.snd.snd.snd.snd.fst))),
    AV.r (RV.c (CV.f (FV.i IntKind.i64 d.snd.snd.snd.snd.snd.fst))), AV.r (RV.c (CV.f (FV.b d.snd.snd.snd.snd.snd.snd.fst))), AV.und, AV.und, AV.und, AV.und, AV.und, AV.und, AV.und, AV.und, AV.und,
    AV.und, AV.und, AV.und]
  [some [Sg.c (CV.f (FV.b d.snd.snd.snd.snd.snd.snd.snd.fst))], some [Sg.a (Sz.s d.snd.snd.snd.snd.snd.snd.snd.snd.fst) [Col.i IntKind.i64 d.snd.snd.snd.snd.snd.snd.snd.snd.snd]]] [0])) := by kernel_rfl
theorem it_trig_series_0 {ρ : Type} (x0 : Int) (x1 : Int) (x2 : Nat) (x3 : Bool) (x4 : Int) (x5 : Int) (x6 : Bool) (x7 : Nat) (x8 : Nat → Int) (K : AX → St → Option ρ) :
    iter (fun t => t.head 2 ⟨[⟨3, [2, 3, 4, 5, 6, 8, 9, 10, 11, 12, 13, 17, 18, 19, 20, 21, 22, 23, 24, 25, 26, 27, 28, 29], []⟩], [⟨3, 2, @R_trig_series_0 (@L_trig_series_0)⟩], [0], [], none⟩ (loopIn Try.prog 97 3)) (runC Try.prog (envOf [(96, F_trig_m f_trig_m), (114, F___fx_Acc__Add f___fx_Acc__Add)]) ⟨[⟨3, [2, 3, 4, 5, 6, 8, 9, 10, 11, 12, 13, 17, 18, 19, 20, 21, 22, 23, 24, 25, 26, 27, 28, 29], []⟩], [⟨3, 2, @R_trig_series_0 (@L_trig_series_0)⟩], [0], [], none⟩ (tmpsOf Try.prog 97) 2 200 (loopIn Try.prog 97 3)) K 200
      (St.mk
    [AV.r (RV.c (CV.ptr 0 (Off.k 0) 1)), AV.r (RV.c (CV.f (FV.i IntKind.i64 x0))), AV.und, AV.und, AV.und, AV.und, AV.und, AV.r (RV.c (CV.f (FV.i IntKind.i64 x1))), AV.und, AV.und, AV.und, AV.und,
      AV.und, AV.und, AV.r (RV.c (CV.sl 1 (Off.x 0 1 1) (Sz.s x2) 1 x3)), AV.r (RV.c (CV.f (FV.i IntKind.i64 x4))), AV.r (RV.c (CV.f (FV.i IntKind.i64 x5))), AV.und, AV.und, AV.und, AV.und, AV.und,
      AV.und, AV.und, AV.und, AV.und, AV.und, AV.und, AV.und, AV.und]
    [some [Sg.c (CV.f (FV.b x6))], some [Sg.a (Sz.s x7) [Col.i IntKind.i64 x8]]] [0]) = L_trig_series_0 (x0, x1, x2, x3, x4, x5, x6, x7, x8) (fun d => K (AX.ex 0) (St.mk
  [AV.r (RV.c (CV.ptr 0 (Off.k 0) 1)), AV.r (RV.c (CV.f (FV.i IntKind.i64 d.fst))), AV.und, AV.und, AV.und, AV.und, AV.und, AV.r (RV.c (CV.f (FV.i IntKind.i64 d.snd.fst))), AV.und, AV.und, AV.und,
    AV.und, AV.und, AV.und, AV.r (RV.c (CV.sl 1 (Off.x 0 1 1) (Sz.s d.snd.snd.fst) 1 d.snd.snd.snd.fst)), AV.r (RV.c (CV.f (FV.i IntKind.i64 d.snd.snd.snd.snd.fst))),
    AV.r (RV.c (CV.f (FV.i IntKind.i64 d.snd.snd.snd.snd.snd.fst))), AV.r (RV.c (CV.f (FV.b d.snd.snd.snd.snd.snd.snd.fst))), AV.und, AV.und, AV.und, AV.und, AV.und, AV.und, AV.und, AV.und, AV.und,
    AV.und, AV.und, AV.und]
  [some [Sg.c (CV.f (FV.b d.snd.snd.snd.snd.snd.snd.snd.fst))], some [Sg.a (Sz.s d.snd.snd.snd.snd.snd.snd.snd.snd.fst) [Col.i IntKind.i64 d.snd.snd.snd.snd.snd.snd.snd.snd.snd]]] [0])) :=
  iter_loopX (emb := fun (d : Int × Int × Nat × Bool × Int × Int × Bool × Nat × (Nat → Int)) => St.mk
  [AV.r (RV.c (CV.ptr 0 (Off.k 0) 1)), AV.r (RV.c (CV.f (FV.i IntKind.i64 d.fst))), AV.und, AV.und, AV.und, AV.und, AV.und, AV.r (RV.c (CV.f (FV.i IntKind.i64 d.snd.fst))), AV.und, AV.und, AV.und,
    AV.und, AV.und, AV.und, AV.r (RV.c (CV.sl 1 (Off.x 0 1 1) (Sz.s d.snd.snd.fst) 1 d.snd.snd.snd.fst)), AV.r (RV.c (CV.f (FV.i IntKind.i64 d.snd.snd.snd.snd.fst))),
    AV.r (RV.c (CV.f (FV.i IntKind.i64 d.snd.snd.snd.snd.snd.fst))), AV.und, AV.und, AV.und, AV.und, AV.und, AV.und, AV.und, AV.und, AV.und, AV.und, AV.und, AV.und, AV.und]
  [some [Sg.c (CV.f (FV.b d.snd.snd.snd.snd.snd.snd.fst))], some [Sg.a (Sz.s d.snd.snd.snd.snd.snd.snd.snd.fst) [Col.i IntKind.i64 d.snd.snd.snd.snd.snd.snd.snd.snd]]] [0]) (step := fun d c x => S_trig_series_0 f_trig_m f___fx_Acc__Add  d.1 d.2.1 d.2.2.1 d.2.2.2.1 d.2.2.2.2.1 d.2.2.2.2.2.1 d.2.2.2.2.2.2.1 d.2.2.2.2.2.2.2.1 d.2.2.2.2.2.2.2.2 c x) (kx := (fun d => K (AX.ex 0) (St.mk
  [AV.r (RV.c (CV.ptr 0 (Off.k 0) 1)), AV.r (RV.c (CV.f (FV.i IntKind.i64 d.fst))), AV.und, AV.und, AV.und, AV.und, AV.und, AV.r (RV.c (CV.f (FV.i IntKind.i64 d.snd.fst))), AV.und, AV.und, AV.und,
    AV.und, AV.und, AV.und, AV.r (RV.c (CV.sl 1 (Off.x 0 1 1) (Sz.s d.snd.snd.fst) 1 d.snd.snd.snd.fst)), AV.r (RV.c (CV.f (FV.i IntKind.i64 d.snd.snd.snd.snd.fst))),
    AV.r (RV.c (CV.f (FV.i IntKind.i64 d.snd.snd.snd.snd.snd.fst))), AV.r (RV.c (CV.f (FV.b d.snd.snd.snd.snd.snd.snd.fst))), AV.und, AV.und, AV.und, AV.und, AV.und, AV.und, AV.und, AV.und, AV.und,
    AV.und, AV.und, AV.und]
  [some [Sg.c (CV.f (FV.b d.snd.snd.snd.snd.snd.snd.snd.fst))], some [Sg.a (Sz.s d.snd.snd.snd.snd.snd.snd.snd.snd.fst) [Col.i IntKind.i64 d.snd.snd.snd.snd.snd.snd.snd.snd.snd]]] [0])))
    (fun d c => ds_trig_series_0 f_trig_m f___fx_Acc__Add (@L_trig_series_0) d.1 d.2.1 d.2.2.1 d.2.2.2.1 d.2.2.2.2.1 d.2.2.2.2.2.1 d.2.2.2.2.2.2.1 d.2.2.2.2.2.2.2.1 d.2.2.2.2.2.2.2.2 c K) 200 (x0, x1, x2, x3, x4, x5, x6, x7, x8)
theorem so_trig_series_0 : ∀ kk, SumOK Try.prog (envOf [(96, F_trig_m f_trig_m), (114, F___fx_Acc__Add f___fx_Acc__Add)]) ⟨[⟨3, [2, 3, 4, 5, 6, 8, 9, 10, 11, 12, 13, 17, 18, 19, 20, 21, 22, 23, 24, 25, 26, 27, 28, 29], []⟩], [⟨3, 2, @R_trig_series_0 (@L_trig_series_0)⟩], [0], [], none⟩ (tmpsOf Try.prog 97) kk 200 (loopIn Try.prog 97 3) :=
  SumOK.of (id := 3) (k0 := 2) (run := @R_trig_series_0 (@L_trig_series_0)) (by kernel_rfl) fun s K r hr => by
    unfold R_trig_series_0 at hr
    obtain ⟨b, hb, hr1⟩ := Option.bind_eq_some_iff.1 hr
    have e := ((Q_trig_series_0).ok s b hb).trans (q_trig_series_0 b)
    subst e
    exact ⟨200, (it_trig_series_0 b.1.2.1 b.1.2.2.2.2.2.2.2.1 b.1.2.2.2.2.2.2.2.2.2.2.2.2.2.2.1.2.2.1 b.1.2.2.2.2.2.2.2.2.2.2.2.2.2.2.1.2.2.2.2 b.1.2.2.2.2.2.2.2.2.2.2.2.2.2.2.2.1 b.1.2.2.2.2.2.2.2.2.2.2.2.2.2.2.2.2.1 b.2.1.1.1 b.2.1.2.1.1.1 b.2.1.2.1.1.2.1 K).trans hr1⟩
def K_trig_series {ρ : Type} (g_trig_m : Int → Int → Bool → Option (Int × Bool)) (g___fx_Acc__Add : Nat → Bool → (Nat → Int) → Bool → Option (Int × Bool)) (l_0 : ∀ {ρ : Type}, (Int × Int × Nat × Bool × Int × Int × Bool × Nat × (Nat → Int)) → ((Int × Int × Nat × Bool × Int × Int × Bool × Bool × Nat × (Nat → Int)) → Option ρ) → Option ρ) (x0 : Int) (x1 : Nat) (x2 : Bool) (x3 : Nat → Int) (w0 : Bool) (k : (Int × Bool) → Option ρ) : Option ρ :=
  bif inR 0 x1 then
    bif inRe 1 x1 then
      l_0 (x0, x3 0, x1 - 1, w0 && true, Int.ofNat (x1 - 1), 0, x2, x1, x3) fun (d : Int × Int × Nat × Bool × Int × Int × Bool × Bool × Nat × (Nat → Int)) =>
        k (d.snd.fst, d.snd.snd.snd.snd.snd.snd.snd.fst)
    else none
  else none
def f_trig_series (x0 : Int) (x1 : Nat) (x2 : Bool) (x3 : Nat → Int) (w0 : Bool) : Option (Int × Bool) := K_trig_series f_trig_m f___fx_Acc__Add (@L_trig_series_0) x0 x1 x2 x3 w0 some
section
open Go.Ab.Rdr
def QA_trig_series := ((pair (cons (ar (rc (cptr (nat 0) (ok' (nat 0)) (nat 1)))) (cons (ar (rc (cf (fi .i64 hole)))) (cons (ar (rc (csl (nat 1) (ok' (nat 0)) (szs hole) (nat 1) hole))) nil))) (cons (cons (gc (cf (fb hole))) nil) (cons (cons (ga (szs hole) (cons (ki .i64 hole) nil)) nil) nil))) : Rdr (List AV × List Blk) _)
end
def F0_trig_series (f : (Int) → (Nat) → (Bool) → (Nat → Int) → (Bool) → Option (Int × Bool)) : Sem1 := fun args h => match (QA_trig_series).rd (args, h) with
  | some b => .test (Nat.beq b.2.2.1.1.1 b.1.2.2.1.2.2.1) (.opt (f b.1.2.1 b.1.2.2.1.2.2.1 b.2.1.1 b.2.2.1.1.2.1 b.1.2.2.1.2.2.2.2) fun (d : Int × Bool) => .leaf (Res.mk (AV.r (RV.c (CV.f (FV.i IntKind.i64 d.fst)))) [Ch.set [Sg.c (CV.f (FV.b d.snd))], Ch.keep] [])) .fail
  | none => .fail
def F_trig_series (f : (Int) → (Nat) → (Bool) → (Nat → Int) → (Bool) → Option (Int × Bool)) : Sem1 := (nilF 2 [.i .i64] (F0_trig_series f))
theorem d_trig_series (g_trig_m : Int → Int → Bool → Option (Int × Bool)) (g___fx_Acc__Add : Nat → Bool → (Nat → Int) → Bool → Option (Int × Bool)) (l_0 : ∀ {ρ : Type}, (Int × Int × Nat × Bool × Int × Int × Bool × Nat × (Nat → Int)) → ((Int × Int × Nat × Bool × Int × Int × Bool × Bool × Nat × (Nat → Int)) → Option ρ) → Option ρ) (x0 : Int) (x1 : Nat) (x2 : Bool) (x3 : Nat → Int) (w0 : Bool) : den Try.prog (envOf [(96, F_trig_m g_trig_m), (114, F___fx_Acc__Add g___fx_Acc__Add)]) ⟨[⟨3, [2, 3, 4, 5, 6, 8, 9, 10, 11, 12, 13, 17, 18, 19, 20, 21, 22, 23, 24, 25, 26, 27, 28, 29], []⟩], [⟨3, 2, @R_trig_series_0 (@l_0)⟩], [0], [], none⟩ 200 97 [.r (.c (.ptr 0 (.k 0) 1)), .r (.c (.f (.i .i64 x0))), .r (.c (.sl 1 (.k 0) (.s x1) 1 w0))] [[.c (.f (.b x2))], [.a (.s x1) [.i .i64 x3]]] =
    K_trig_series g_trig_m g___fx_Acc__Add (@l_0) x0 x1 x2 x3 w0 (fun (d : Int × Bool) => some (Res.mk (AV.r (RV.c (CV.f (FV.i IntKind.i64 d.fst)))) [Ch.set [Sg.c (CV.f (FV.b d.snd))], Ch.keep] [])) := by kernel_rfl
theorem m_trig_series {ρ σ : Type} (q : ρ → Option σ) (g_trig_m : Int → Int → Bool → Option (Int × Bool)) (g___fx_Acc__Add : Nat → Bool → (Nat → Int) → Bool → Option (Int × Bool)) (l_0 : ∀ {ρ : Type}, (Int × Int × Nat × Bool × Int × Int × Bool × Nat × (Nat → Int)) → ((Int × Int × Nat × Bool × Int × Int × Bool × Bool × Nat × (Nat → Int)) → Option ρ) → Option ρ) (hl_0 : ∀ {ρ σ : Type} (q : ρ → Option σ) (d : Int × Int × Nat × Bool × Int × Int × Bool × Nat × (Nat → Int)) (k : (Int × Int × Nat × Bool × Int × Int × Bool × Bool × Nat × (Nat → Int)) → Option ρ), (l_0 d k).bind q = l_0 d fun x => (k x).bind q) (x0 : Int) (x1 : Nat) (x2 : Bool) (x3 : Nat → Int) (w0 : Bool) (k : (Int × Bool) → Option ρ) : (K_trig_series g_trig_m g___fx_Acc__Add (@l_0) x0 x1 x2 x3 w0 k).bind q = K_trig_series g_trig_m g___fx_Acc__Add (@l_0) x0 x1 x2 x3 w0 (fun d => (k d).bind q) := by
  simp only [K_trig_series, bnd_cond, bnd_bind, bnd_none, bnd_sum, hl_0]
theorem qa_trig_series : ∀ b, (QA_trig_series).em b = ([.r (.c (.ptr 0 (.k 0) 1)), .r (.c (.f (.i .i64 b.1.2.1))), .r (.c (.sl 1 (.k 0) (.s b.1.2.2.1.2.2.1) 1 b.1.2.2.1.2.2.2.2))], [[.c (.f (.b b.2.1.1))], [.a (.s b.2.2.1.1.1) [.i .i64 b.2.2.1.1.2.1]]]) := fun b => by kernel_rfl
theorem e_trig_series {f : (Int) → (Nat) → (Bool) → (Nat → Int) → (Bool) → Option (Int × Bool)} {args : List AV} {h : List Blk} {r : Res} (hr : (F0_trig_series f args h).eval = some r) : ∃ x0 x1 x2 x3 w0, args = [.r (.c (.ptr 0 (.k 0) 1)), .r (.c (.f (.i .i64 x0))), .r (.c (.sl 1 (.k 0) (.s x1) 1 w0))] ∧ h = [[.c (.f (.b x2))], [.a (.s x1) [.i .i64 x3]]] ∧ (f x0 x1 x2 x3 w0).bind (fun (d : Int × Bool) => some (Res.mk (AV.r (RV.c (CV.f (FV.i IntKind.i64 d.fst)))) [Ch.set [Sg.c (CV.f (FV.b d.snd))], Ch.keep] [])) = some r := by
  unfold F0_trig_series at hr
  split at hr
  · rename_i b hb
    have e := ((QA_trig_series).ok _ _ hb).trans (qa_trig_series b)
    obtain ⟨he, hr1⟩ := test_eval hr
    clear hr
    have hr := hr1
    clear hr1
    rw [Nat.eq_of_beq_eq_true he] at e
    clear he
    rw [opt_eval2] at hr
    exact ⟨b.1.2.1, b.1.2.2.1.2.2.1, b.2.1.1, b.2.2.1.1.2.1, b.1.2.2.1.2.2.2.2, (Prod.mk.inj e).1, (Prod.mk.inj e).2, hr⟩
  · cases hr
theorem n_trig_series {σ : Type} (q : (Int × Bool) → Option σ) (x0 : Int) (x1 : Nat) (x2 : Bool) (x3 : Nat → Int) (w0 : Bool) : (f_trig_series x0 x1 x2 x3 w0).bind q = K_trig_series f_trig_m f___fx_Acc__Add (@L_trig_series_0) x0 x1 x2 x3 w0 q := by
  unfold f_trig_series
  exact m_trig_series q f_trig_m f___fx_Acc__Add (@L_trig_series_0) (fun q d k => mL_trig_series_0 q d k) x0 x1 x2 x3 w0 some
theorem s_trig_series : Sound Try.prog 97 (F_trig_series f_trig_series) :=
  Sound.nil 2 [.i .i64] <| (inl_sums (l := [(96, F_trig_m f_trig_m), (114, F___fx_Acc__Add f___fx_Acc__Add)]) (.cons s_trig_m (.cons s___fx_Acc__Add (.nil _))) mixed (hs := ⟨[⟨3, [2, 3, 4, 5, 6, 8, 9, 10, 11, 12, 13, 17, 18, 19, 20, 21, 22, 23, 24, 25, 26, 27, 28, 29], []⟩], [⟨3, 2, @R_trig_series_0 (@L_trig_series_0)⟩], [0], [], none⟩) (lf := 200) (Sums.by (l := [loopIn Try.prog 97 3]) (lj := []) (by kernel_rfl) ⟨so_trig_series_0, trivial⟩ (by kernel_rfl) trivial) (by kernel_rfl)).by (F := F0_trig_series f_trig_series) fun args b r hr => by
  obtain ⟨x0, x1, x2, x3, w0, rfl, rfl, hr1⟩ := e_trig_series hr
  exact inl_eval ((d_trig_series f_trig_m f___fx_Acc__Add (@L_trig_series_0) x0 x1 x2 x3 w0).trans ((n_trig_series (fun (d : Int × Bool) => some (Res.mk (AV.r (RV.c (CV.f (FV.i IntKind.i64 d.fst)))) [Ch.set [Sg.c (CV.f (FV.b d.snd))], Ch.keep] [])) x0 x1 x2 x3 w0).symm.trans hr1))

def K_trig_Sin {ρ : Type} (g___fx_Acc__Sat : Int → Bool → Option (Int × Bool)) (g_trig_Wrap : Int → Option Int) (g_fx_Abs : Int → Option Int) (g_trig_m : Int → Int → Bool → Option (Int × Bool)) (g_trig_series : Int → Nat → Bool → (Nat → Int) → Bool → Option (Int × Bool))  (x0 : Int) (x1 : Bool) (k : (Int × Bool) → Option ρ) : Option ρ :=
  Option.bind (g___fx_Acc__Sat x0 x1) fun (d : Int × Bool) =>
    Option.bind (g_trig_Wrap d.fst) fun (d_1 : Int) =>
      bif decide (d_1 > 1686629713) then
        Option.bind (g_fx_Abs (IntKind.wrap IntKind.i64 (3373259426 - d_1))) fun (d_2 : Int) =>
          bif decide (d_2 ≤ 843314857) then
            Option.bind (g_trig_m (IntKind.wrap IntKind.i64 (3373259426 - d_1)) (IntKind.wrap IntKind.i64 (3373259426 - d_1)) d.snd) fun (d : Int × Bool) =>
              Option.bind
                (g_trig_series d.fst 6 d.snd
                  (fun (j : Nat) =>
                    bif Nat.beq j 5 then 1073741824
                    else bif Nat.beq j 4 then -178956971 else bif Nat.beq j 3 then 8947849 else bif Nat.beq j 2 then -213044 else bif Nat.beq j 1 then 2959 else bif Nat.beq j 0 then -27 else -27)
                  true)
                fun (d : Int × Bool) =>
                Option.bind (g_trig_m (IntKind.wrap IntKind.i64 (3373259426 - d_1)) d.fst d.snd) fun (d : Int × Bool) =>
                  k (if 1073741824 < if -1073741824 > d.fst then -1073741824 else d.fst then 1073741824 else if -1073741824 > d.fst then -1073741824 else d.fst, d.snd)
          else
            Option.bind (g_trig_m (IntKind.wrap IntKind.i64 (1686629713 - d_2)) (IntKind.wrap IntKind.i64 (1686629713 - d_2)) d.snd) fun (d : Int × Bool) =>
              Option.bind
                (g_trig_series d.fst 7 d.snd
                  (fun (j : Nat) =>
                    bif Nat.beq j 6 then 1073741824
                    else
                      bif Nat.beq j 5 then -536870912
                      else bif Nat.beq j 4 then 44739243 else bif Nat.beq j 3 then -1491308 else bif Nat.beq j 2 then 26631 else bif Nat.beq j 1 then -296 else bif Nat.beq j 0 then 2 else 2)
                  true)
                fun (d : Int × Bool) =>
                bif decide (IntKind.wrap IntKind.i64 (3373259426 - d_1) < 0) then
                  k
                    (if 1073741824 < if -1073741824 > IntKind.wrap IntKind.i64 (0 - d.fst) then -1073741824 else IntKind.wrap IntKind.i64 (0 - d.fst) then 1073741824
                      else if -1073741824 > IntKind.wrap IntKind.i64 (0 - d.fst) then -1073741824 else IntKind.wrap IntKind.i64 (0 - d.fst),
                      d.snd)
                else k (if 1073741824 < if -1073741824 > d.fst then -1073741824 else d.fst then 1073741824 else if -1073741824 > d.fst then -1073741824 else d.fst, d.snd)
      else
        bif decide (d_1 < -1686629713) then
          Option.bind (g_fx_Abs (IntKind.wrap IntKind.i64 (-3373259426 - d_1))) fun (d_2 : Int) =>
            bif decide (d_2 ≤ 843314857) then
              Option.bind (g_trig_m (IntKind.wrap IntKind.i64 (-3373259426 - d_1)) (IntKind.wrap IntKind.i64 (-3373259426 - d_1)) d.snd) fun (d : Int × Bool) =>
                Option.bind
                  (g_trig_series d.fst 6 d.snd
                    (fun (j : Nat) =>
                      bif Nat.beq j 5 then 1073741824
                      else bif Nat.beq j 4 then -178956971 else bif Nat.beq j 3 then 8947849 else bif Nat.beq j 2 then -213044 else bif Nat.beq j 1 then 2959 else bif Nat.beq j 0 then -27 else -27)
                    true)
                  fun (d : Int × Bool) =>
                  Option.bind (g_trig_m (IntKind.wrap IntKind.i64 (-3373259426 - d_1)) d.fst d.snd) fun (d : Int × Bool) =>
                    k (if 1073741824 < if -1073741824 > d.fst then -1073741824 else d.fst then 1073741824 else if -1073741824 > d.fst then -1073741824 else d.fst, d.snd)
            else
              Option.bind (g_trig_m (IntKind.wrap IntKind.i64 (1686629713 - d_2)) (IntKind.wrap IntKind.i64 (1686629713 - d_2)) d.snd) fun (d : Int × Bool) =>
                Option.bind
                  (g_trig_series d.fst 7 d.snd
                    (fun (j : Nat) =>
                      bif Nat.beq j 6 then 1073741824
                      else
                        bif Nat.beq j 5 then -536870912
                        else bif Nat.beq j 4 then 44739243 else bif Nat.beq j 3 then -1491308 else bif Nat.beq j 2 then 26631 else bif Nat.beq j 1 then -296 else bif Nat.beq j 0 then 2 else 2)
                    true)
                  fun (d : Int × Bool) =>
                  bif decide (IntKind.wrap IntKind.i64 (-3373259426 - d_1) < 0) then
                    k
                      (if 1073741824 < if -1073741824 > IntKind.wrap IntKind.i64 (0 - d.fst) then -1073741824 else IntKind.wrap IntKind.i64 (0 - d.fst) then 1073741824
                        else if -1073741824 > IntKind.wrap IntKind.i64 (0 - d.fst) then -1073741824 else IntKind.wrap IntKind.i64 (0 - d.fst),
                        d.snd)
                  else k (if 1073741824 < if -1073741824 > d.fst then -1073741824 else d.fst then 1073741824 else if -1073741824 > d.fst then -1073741824 else d.fst, d.snd)
        else
          Option.bind (g_fx_Abs d_1) fun (d_2 : Int) =>
            bif decide (d_2 ≤ 843314857) then
              Option.bind (g_trig_m d_1 d_1 d.snd) fun (d : Int × Bool) =>
                Option.bind
                  (g_trig_series d.fst 6 d.snd
                    (fun (j : Nat) =>
                      bif Nat.beq j 5 then 1073741824
                      else bif Nat.beq j 4 then -178956971 else bif Nat.beq j 3 then 8947849 else bif Nat.beq j 2 then -213044 else bif Nat.beq j 1 then 2959 else bif Nat.beq j 0 then -27 else -27)
                    true)
                  fun (d : Int × Bool) =>
                  Option.bind (g_trig_m d_1 d.fst d.snd) fun (d : Int × Bool) =>
                    k (if 1073741824 < if -1073741824 > d.fst then -1073741824 else d.fst then 1073741824 else if -1073741824 > d.fst then -1073741824 else d.fst, d.snd)
            else
              Option.bind (g_trig_m (IntKind.wrap IntKind.i64 (1686629713 - d_2)) (IntKind.wrap IntKind.i64 (1686629713 - d_2)) d.snd) fun (d : Int × Bool) =>
                Option.bind
                  (g_trig_series d.fst 7 d.snd
                    (fun (j : Nat) =>
                      bif Nat.beq j 6 then 1073741824
                      else
                        bif Nat.beq j 5 then -536870912
                        else bif Nat.beq j 4 then 44739243 else bif Nat.beq j 3 then -1491308 else bif Nat.beq j 2 then 26631 else bif Nat.beq j 1 then -296 else bif Nat.beq j 0 then 2 else 2)
                    true)
                  fun (d : Int × Bool) =>
                  bif decide (d_1 < 0) then
                    k
                      (if 1073741824 < if -1073741824 > IntKind.wrap IntKind.i64 (0 - d.fst) then -1073741824 else IntKind.wrap IntKind.i64 (0 - d.fst) then 1073741824
                        else if -1073741824 > IntKind.wrap IntKind.i64 (0 - d.fst) then -1073741824 else IntKind.wrap IntKind.i64 (0 - d.fst),
                        d.snd)
                  else k (if 1073741824 < if -1073741824 > d.fst then -1073741824 else d.fst then 1073741824 else if -1073741824 > d.fst then -1073741824 else d.fst, d.snd)
def f_trig_Sin (x0 : Int) (x1 : Bool) : Option (Int × Bool) := K_trig_Sin f___fx_Acc__Sat f_trig_Wrap f_fx_Abs f_trig_m f_trig_series  x0 x1 some
section
open Go.Ab.Rdr
def QA_trig_Sin := ((pair (cons (ar (rc (cptr (nat 0) (ok' (nat 0)) (nat 1)))) (cons (ar (rc (cf (fi .i64 hole)))) nil)) (cons (cons (gc (cf (fb hole))) nil) nil)) : Rdr (List AV × List Blk) _)
end
def F_trig_Sin (f : (Int) → (Bool) → Option (Int × Bool)) : Sem1 := fun args h => match (QA_trig_Sin).rd (args, h) with
  | some b => .opt (f b.1.2.1 b.2.1.1) fun (d : Int × Bool) => .leaf (Res.mk (AV.r (RV.c (CV.f (FV.i IntKind.i64 d.fst)))) [Ch.set [Sg.c (CV.f (FV.b d.snd))]] [])
  | none => .fail
theorem d_trig_Sin (g___fx_Acc__Sat : Int → Bool → Option (Int × Bool)) (g_trig_Wrap : Int → Option Int) (g_fx_Abs : Int → Option Int) (g_trig_m : Int → Int → Bool → Option (Int × Bool)) (g_trig_series : Int → Nat → Bool → (Nat → Int) → Bool → Option (Int × Bool))  (x0 : Int) (x1 : Bool) : den Try.prog (envOf [(91, F___fx_Acc__Sat g___fx_Acc__Sat), (94, F_trig_Wrap g_trig_Wrap), (95, F_fx_Abs g_fx_Abs), (96, F_trig_m g_trig_m), (97, F_trig_series g_trig_series)]) ⟨[], [], [], [], none⟩ 200 69 [.r (.c (.ptr 0 (.k 0) 1)), .r (.c (.f (.i .i64 x0)))] [[.c (.f (.b x1))]] =
    K_trig_Sin g___fx_Acc__Sat g_trig_Wrap g_fx_Abs g_trig_m g_trig_series  x0 x1 (fun (d : Int × Bool) => some (Res.mk (AV.r (RV.c (CV.f (FV.i IntKind.i64 d.fst)))) [Ch.set [Sg.c (CV.f (FV.b d.snd))]] [])) := by kernel_rfl
theorem m_trig_Sin {ρ σ : Type} (q : ρ → Option σ) (g___fx_Acc__Sat : Int → Bool → Option (Int × Bool)) (g_trig_Wrap : Int → Option Int) (g_fx_Abs : Int → Option Int) (g_trig_m : Int → Int → Bool → Option (Int × Bool)) (g_trig_series : Int → Nat → Bool → (Nat → Int) → Bool → Option (Int × Bool))   (x0 : Int) (x1 : Bool) (k : (Int × Bool) → Option ρ) : (K_trig_Sin g___fx_Acc__Sat g_trig_Wrap g_fx_Abs g_trig_m g_trig_series  x0 x1 k).bind q = K_trig_Sin g___fx_Acc__Sat g_trig_Wrap g_fx_Abs g_trig_m g_trig_series  x0 x1 (fun d => (k d).bind q) := by
  simp only [K_trig_Sin, bnd_cond, bnd_bind, bnd_none, bnd_sum]
theorem qa_trig_Sin : ∀ b, (QA_trig_Sin).em b = ([.r (.c (.ptr 0 (.k 0) 1)), .r (.c (.f (.i .i64 b.1.2.1)))], [[.c (.f (.b b.2.1.1))]]) := fun b => by kernel_rfl
theorem e_trig_Sin {f : (Int) → (Bool) → Option (Int × Bool)} {args : List AV} {h : List Blk} {r : Res} (hr : (F_trig_Sin f args h).eval = some r) : ∃ x0 x1, args = [.r (.c (.ptr 0 (.k 0) 1)), .r (.c (.f (.i .i64 x0)))] ∧ h = [[.c (.f (.b x1))]] ∧ (f x0 x1).bind (fun (d : Int × Bool) => some (Res.mk (AV.r (RV.c (CV.f (FV.i IntKind.i64 d.fst)))) [Ch.set [Sg.c (CV.f (FV.b d.snd))]] [])) = some r := by
  unfold F_trig_Sin at hr
  split at hr
  · rename_i b hb
    have e := ((QA_trig_Sin).ok _ _ hb).trans (qa_trig_Sin b)
    rw [opt_eval2] at hr
    exact ⟨b.1.2.1, b.2.1.1, (Prod.mk.inj e).1, (Prod.mk.inj e).2, hr⟩
  · cases hr
theorem n_trig_Sin {σ : Type} (q : (Int × Bool) → Option σ) (x0 : Int) (x1 : Bool) : (f_trig_Sin x0 x1).bind q = K_trig_Sin f___fx_Acc__Sat f_trig_Wrap f_fx_Abs f_trig_m f_trig_series  x0 x1 q := by
  unfold f_trig_Sin
  exact m_trig_Sin q f___fx_Acc__Sat f_trig_Wrap f_fx_Abs f_trig_m f_trig_series   x0 x1 some
theorem s_trig_Sin : Sound Try.prog 69 (F_trig_Sin f_trig_Sin) :=
  (inl_sound (l := [(91, F___fx_Acc__Sat f___fx_Acc__Sat), (94, F_trig_Wrap f_trig_Wrap), (95, F_fx_Abs f_fx_Abs), (96, F_trig_m f_trig_m), (97, F_trig_series f_trig_series)]) (.cons s___fx_Acc__Sat (.cons s_trig_Wrap (.cons s_fx_Abs (.cons s_trig_m (.cons s_trig_series (.nil _)))))) mixed [] [] 200 (by kernel_rfl)).by (F := F_trig_Sin f_trig_Sin) fun args b r hr => by
  obtain ⟨x0, x1, rfl, rfl, hr1⟩ := e_trig_Sin hr
  exact inl_eval ((d_trig_Sin f___fx_Acc__Sat f_trig_Wrap f_fx_Abs f_trig_m f_trig_series  x0 x1).trans ((n_trig_Sin (fun (d : Int × Bool) => some (Res.mk (AV.r (RV.c (CV.f (FV.i IntKind.i64 d.fst)))) [Ch.set [Sg.c (CV.f (FV.b d.snd))]] [])) x0 x1).symm.trans hr1))

def K_trig_Cos {ρ : Type} (g_trig_Wrap : Int → Option Int) (g_trig_Sin : Int → Bool → Option (Int × Bool))  (x0 : Int) (x1 : Bool) (k : (Int × Bool) → Option ρ) : Option ρ :=
  Option.bind (g_trig_Wrap x0) fun (d : Int) => Option.bind (g_trig_Sin (IntKind.wrap IntKind.i64 (1686629713 + d)) x1) fun (d : Int × Bool) => k (d.fst, d.snd)
def f_trig_Cos (x0 : Int) (x1 : Bool) : Option (Int × Bool) := K_trig_Cos f_trig_Wrap f_trig_Sin  x0 x1 some
section
open Go.Ab.Rdr
def QA_trig_Cos := ((pair (cons (ar (rc (cptr (nat 0) (ok' (nat 0)) (nat 1)))) (cons (ar (rc (cf (fi .i64 hole)))) nil)) (cons (cons (gc (cf (fb hole))) nil) nil)) : Rdr (List AV × List Blk) _)
end
def F_trig_Cos (f : (Int) → (Bool) → Option (Int × Bool)) : Sem1 := fun args h => match (QA_trig_Cos).rd (args, h) with
  | some b => .opt (f b.1.2.1 b.2.1.1) fun (d : Int × Bool) => .leaf (Res.mk (AV.r (RV.c (CV.f (FV.i IntKind.i64 d.fst)))) [Ch.set [Sg.c (CV.f (FV.b d.snd))]] [])
  | none => .fail
theorem d_trig_Cos (g_trig_Wrap : Int → Option Int) (g_trig_Sin : Int → Bool → Option (Int × Bool))  (x0 : Int) (x1 : Bool) : den Try.prog (envOf [(94, F_trig_Wrap g_trig_Wrap), (69, F_trig_Sin g_trig_Sin)]) ⟨[], [], [], [], none⟩ 200 70 [.r (.c (.ptr 0 (.k 0) 1)), .r (.c (.f (.i .i64 x0)))] [[.c (.f (.b x1))]] =
    K_trig_Cos g_trig_Wrap g_trig_Sin  x0 x1 (fun (d : Int × Bool) => some (Res.mk (AV.r (RV.c (CV.f (FV.i IntKind.i64 d.fst)))) [Ch.set [Sg.c (CV.f (FV.b d.snd))]] [])) := by kernel_rfl
theorem m_trig_Cos {ρ σ : Type} (q : ρ → Option σ) (g_trig_Wrap : Int → Option Int) (g_trig_Sin : Int → Bool → Option (Int × Bool))   (x0 : Int) (x1 : Bool) (k : (Int × Bool) → Option ρ) : (K_trig_Cos g_trig_Wrap g_trig_Sin  x0 x1 k).bind q = K_trig_Cos g_trig_Wrap g_trig_Sin  x0 x1 (fun d => (k d).bind q) := by
  simp only [K_trig_Cos, bnd_cond, bnd_bind, bnd_none, bnd_sum]
theorem qa_trig_Cos : ∀ b, (QA_trig_Cos).em b = ([.r (.c (.ptr 0 (.k 0) 1)), .r (.c (.f (.i .i64 b.1.2.1)))], [[.c (.f (.b b.2.1.1))]]) := fun b => by kernel_rfl
theorem e_trig_Cos {f : (Int) → (Bool) → Option (Int × Bool)} {args : List AV} {h : List Blk} {r : Res} (hr : (F_trig_Cos f args h).eval = some r) : ∃ x0 x1, args = [.r (.c (.ptr 0 (.k 0) 1)), .r (.c (.f (.i .i64 x0)))] ∧ h = [[.c (.f (.b x1))]] ∧ (f x0 x1).bind (fun (d : Int × Bool) => some (Res.mk (AV.r (RV.c (CV.f (FV.i IntKind.i64 d.fst)))) [Ch.set [Sg.c (CV.f (FV.b d.snd))]] [])) = some r := by
  unfold F_trig_Cos at hr
  split at hr
  · rename_i b hb
    have e := ((QA_trig_Cos).ok _ _ hb).trans (qa_trig_Cos b)
    rw [opt_eval2] at hr
    exact ⟨b.1.2.1, b.2.1.1, (Prod.mk.inj e).1, (Prod.mk.inj e).2, hr⟩
  · cases hr
theorem n_trig_Cos {σ : Type} (q : (Int × Bool) → Option σ) (x0 : Int) (x1 : Bool) : (f_trig_Cos x0 x1).bind q = K_trig_Cos f_trig_Wrap f_trig_Sin  x0 x1 q := by
  unfold f_trig_Cos
  exact m_trig_Cos q f_trig_Wrap f_trig_Sin   x0 x1 some
theorem s_trig_Cos : Sound Try.prog 70 (F_trig_Cos f_trig_Cos) :=
  (inl_sound (l := [(94, F_trig_Wrap f_trig_Wrap), (69, F_trig_Sin f_trig_Sin)]) (.cons s_trig_Wrap (.cons s_trig_Sin (.nil _))) mixed [] [] 200 (by kernel_rfl)).by (F := F_trig_Cos f_trig_Cos) fun args b r hr => by
  obtain ⟨x0, x1, rfl, rfl, hr1⟩ := e_trig_Cos hr
  exact inl_eval ((d_trig_Cos f_trig_Wrap f_trig_Sin  x0 x1).trans ((n_trig_Cos (fun (d : Int × Bool) => some (Res.mk (AV.r (RV.c (CV.f (FV.i IntKind.i64 d.fst)))) [Ch.set [Sg.c (CV.f (FV.b d.snd))]] [])) x0 x1).symm.trans hr1))

def K_earth_Good {ρ : Type}   (x0 : Int) (x1 : Int) (x2 : Int) (k : (Bool) → Option ρ) : Option ρ :=
  bif decide (x0 ≥ -900000000) then
    bif decide (x0 ≤ 900000000) then
      bif decide (x1 ≥ -1800000000) then bif decide (x1 ≤ 1800000000) then bif decide (x2 ≥ -100000000) then k (decide (x2 ≤ 100000000)) else k false else k false else k false
    else k false
  else k false
def f_earth_Good (x0 : Int) (x1 : Int) (x2 : Int) : Option (Bool) := K_earth_Good   x0 x1 x2 some
section
open Go.Ab.Rdr
def QA_earth_Good := ((pair (cons (ar (ra (cons (gc (cf (fi .i64 hole))) (cons (gc (cf (fi .i64 hole))) (cons (gc (cf (fi .i64 hole))) nil))))) nil) nil) : Rdr (List AV × List Blk) _)
end
def F_earth_Good (f : (Int) → (Int) → (Int) → Option (Bool)) : Sem1 := fun args h => match (QA_earth_Good).rd (args, h) with
  | some b => .opt (f b.1.1.1 b.1.1.2.1 b.1.1.2.2.1) fun (d : Bool) => .leaf (Res.mk (AV.r (RV.c (CV.f (FV.b d)))) [] [])
  | none => .fail
theorem d_earth_Good   (x0 : Int) (x1 : Int) (x2 : Int) : den Try.prog (envOf []) ⟨[], [], [], [], none⟩ 200 40 [.r (.agg [.c (.f (.i .i64 x0)), .c (.f (.i .i64 x1)), .c (.f (.i .i64 x2))])] [] =
    K_earth_Good   x0 x1 x2 (fun (d : Bool) => some (Res.mk (AV.r (RV.c (CV.f (FV.b d)))) [] [])) := by kernel_rfl
theorem m_earth_Good {ρ σ : Type} (q : ρ → Option σ)    (x0 : Int) (x1 : Int) (x2 : Int) (k : (Bool) → Option ρ) : (K_earth_Good   x0 x1 x2 k).bind q = K_earth_Good   x0 x1 x2 (fun d => (k d).bind q) := by
  simp only [K_earth_Good, bnd_cond, bnd_bind, bnd_none, bnd_sum]
theorem qa_earth_Good : ∀ b, (QA_earth_Good).em b = ([.r (.agg [.c (.f (.i .i64 b.1.1.1)), .c (.f (.i .i64 b.1.1.2.1)), .c (.f (.i .i64 b.1.1.2.2.1))])], []) := fun b => by kernel_rfl
theorem e_earth_Good {f : (Int) → (Int) → (Int) → Option (Bool)} {args : List AV} {h : List Blk} {r : Res} (hr : (F_earth_Good f args h).eval = some r) : ∃ x0 x1 x2, args = [.r (.agg [.c (.f (.i .i64 x0)), .c (.f (.i .i64 x1)), .c (.f (.i .i64 x2))])] ∧ h = [] ∧ (f x0 x1 x2).bind (fun (d : Bool) => some (Res.mk (AV.r (RV.c (CV.f (FV.b d)))) [] [])) = some r := by
  unfold F_earth_Good at hr
  split at hr
  · rename_i b hb
    have e := ((QA_earth_Good).ok _ _ hb).trans (qa_earth_Good b)
    rw [opt_eval2] at hr
    exact ⟨b.1.1.1, b.1.1.2.1, b.1.1.2.2.1, (Prod.mk.inj e).1, (Prod.mk.inj e).2, hr⟩
  · cases hr
theorem n_earth_Good {σ : Type} (q : (Bool) → Option σ) (x0 : Int) (x1 : Int) (x2 : Int) : (f_earth_Good x0 x1 x2).bind q = K_earth_Good   x0 x1 x2 q := by
  unfold f_earth_Good
  exact m_earth_Good q    x0 x1 x2 some
theorem s_earth_Good : Sound Try.prog 40 (F_earth_Good f_earth_Good) :=
  (inl_sound (l := []) (.nil _) mixed [] [] 200 (by kernel_rfl)).by (F := F_earth_Good f_earth_Good) fun args b r hr => by
  obtain ⟨x0, x1, x2, rfl, rfl, hr1⟩ := e_earth_Good hr
  exact inl_eval ((d_earth_Good   x0 x1 x2).trans ((n_earth_Good (fun (d : Bool) => some (Res.mk (AV.r (RV.c (CV.f (FV.b d)))) [] [])) x0 x1 x2).symm.trans hr1))

def K___earth_Frame__To {ρ : Type} (g_earth_Good : Int → Int → Int → Option Bool) (g___fx_Acc__Mul : Int → Int → Int → Bool → Option (Int × Bool)) (g___fx_Acc__MulDiv : Int → Int → Int → Bool → Option (Int × Bool))  (x0 : Int) (x1 : Int) (x2 : Int) (x3 : Int) (x4 : Int) (x5 : Int) (x6 : Int) (x7 : Int) (x8 : Bool) (k : (Int × Int × Int × Int × Bool) → Option ρ) : Option ρ :=
  Option.bind (g_earth_Good x0 x1 x2) fun (d : Bool) =>
    bif !d then k (0, 0, 0, 1, x8)
    else
      bif decide (IntKind.wrap IntKind.i64 (x1 - x4) > 1800000000) then
        Option.bind (g___fx_Acc__Mul (IntKind.wrap IntKind.i64 (x0 - x3)) x6 10 x8) fun (d : Int × Bool) =>
          Option.bind (g___fx_Acc__Mul (IntKind.wrap IntKind.i64 (IntKind.wrap IntKind.i64 (x1 - x4) - 3600000000)) x7 10 d.snd) fun (d_1 : Int × Bool) =>
            Option.bind (g___fx_Acc__MulDiv (IntKind.wrap IntKind.i64 (x5 - x2)) 1073741824 1000 d_1.snd) fun (d_2 : Int × Bool) => k (d.fst, d_1.fst, d_2.fst, 0, d_2.snd)
      else
        bif decide (IntKind.wrap IntKind.i64 (x1 - x4) ≤ -1800000000) then
          Option.bind (g___fx_Acc__Mul (IntKind.wrap IntKind.i64 (x0 - x3)) x6 10 x8) fun (d : Int × Bool) =>
            Option.bind (g___fx_Acc__Mul (IntKind.wrap IntKind.i64 (IntKind.wrap IntKind.i64 (x1 - x4) + 3600000000)) x7 10 d.snd) fun (d_1 : Int × Bool) =>
              Option.bind (g___fx_Acc__MulDiv (IntKind.wrap IntKind.i64 (x5 - x2)) 1073741824 1000 d_1.snd) fun (d_2 : Int × Bool) => k (d.fst, d_1.fst, d_2.fst, 0, d_2.snd)
        else
          Option.bind (g___fx_Acc__Mul (IntKind.wrap IntKind.i64 (x0 - x3)) x6 10 x8) fun (d : Int × Bool) =>
            Option.bind (g___fx_Acc__Mul (IntKind.wrap IntKind.i64 (x1 - x4)) x7 10 d.snd) fun (d_1 : Int × Bool) =>
              Option.bind (g___fx_Acc__MulDiv (IntKind.wrap IntKind.i64 (x5 - x2)) 1073741824 1000 d_1.snd) fun (d_2 : Int × Bool) => k (d.fst, d_1.fst, d_2.fst, 0, d_2.snd)
def f___earth_Frame__To (x0 : Int) (x1 : Int) (x2 : Int) (x3 : Int) (x4 : Int) (x5 : Int) (x6 : Int) (x7 : Int) (x8 : Bool) : Option (Int × Int × Int × Int × Bool) := K___earth_Frame__To f_earth_Good f___fx_Acc__Mul f___fx_Acc__MulDiv  x0 x1 x2 x3 x4 x5 x6 x7 x8 some
section
open Go.Ab.Rdr
def QA___earth_Frame__To := ((pair (cons (ar (rc (cptr (nat 0) (ok' (nat 0)) (nat 5)))) (cons (ar (rc (cptr (nat 1) (ok' (nat 0)) (nat 1)))) (cons (ar (ra (cons (gc (cf (fi .i64 hole))) (cons (gc (cf (fi .i64 hole))) (cons (gc (cf (fi .i64 hole))) nil))))) nil))) (cons (cons (gc (cf (fi .i64 hole))) (cons (gc (cf (fi .i64 hole))) (cons (gc (cf (fi .i64 hole))) (cons (gc (cf (fi .i64 hole))) (cons (gc (cf (fi .i64 hole))) nil))))) (cons (cons (gc (cf (fb hole))) nil) nil))) : Rdr (List AV × List Blk) _)
end
def F___earth_Frame__To (f : (Int) → (Int) → (Int) → (Int) → (Int) → (Int) → (Int) → (Int) → (Bool) → Option (Int × Int × Int × Int × Bool)) : Sem1 := fun args h => match (QA___earth_Frame__To).rd (args, h) with
  | some b => .opt (f b.1.2.2.1.1 b.1.2.2.1.2.1 b.1.2.2.1.2.2.1 b.2.1.1 b.2.1.2.1 b.2.1.2.2.1 b.2.1.2.2.2.1 b.2.1.2.2.2.2.1 b.2.2.1.1) fun (d : Int × Int × Int × Int × Bool) => .leaf (Res.mk
    (AV.tup [RV.agg [Sg.c (CV.f (FV.i IntKind.i64 d.fst)), Sg.c (CV.f (FV.i IntKind.i64 d.snd.fst)), Sg.c (CV.f (FV.i IntKind.i64 d.snd.snd.fst))], RV.c (CV.f (FV.i IntKind.i64 d.snd.snd.snd.fst))])
    [Ch.keep, Ch.set [Sg.c (CV.f (FV.b d.snd.snd.snd.snd))]] [])
  | none => .fail
theorem d___earth_Frame__To (g_earth_Good : Int → Int → Int → Option Bool) (g___fx_Acc__Mul : Int → Int → Int → Bool → Option (Int × Bool)) (g___fx_Acc__MulDiv : Int → Int → Int → Bool → Option (Int × Bool))  (x0 : Int) (x1 : Int) (x2 : Int) (x3 : Int) (x4 : Int) (x5 : Int) (x6 : Int) (x7 : Int) (x8 : Bool) : den Try.prog (envOf [(40, F_earth_Good g_earth_Good), (67, F___fx_Acc__Mul g___fx_Acc__Mul), (68, F___fx_Acc__MulDiv g___fx_Acc__MulDiv)]) ⟨[], [], [1], [], none⟩ 200 39 [.r (.c (.ptr 0 (.k 0) 5)), .r (.c (.ptr 1 (.k 0) 1)), .r (.agg [.c (.f (.i .i64 x0)), .c (.f (.i .i64 x1)), .c (.f (.i .i64 x2))])] [[.c (.f (.i .i64 x3)), .c (.f (.i .i64 x4)), .c (.f (.i .i64 x5)), .c (.f (.i .i64 x6)), .c (.f (.i .i64 x7))], [.c (.f (.b x8))]] =
    K___earth_Frame__To g_earth_Good g___fx_Acc__Mul g___fx_Acc__MulDiv  x0 x1 x2 x3 x4 x5 x6 x7 x8 (fun (d : Int × Int × Int × Int × Bool) => some (Res.mk
    (AV.tup [RV.agg [Sg.c (CV.f (FV.i IntKind.i64 d.fst)), Sg.c (CV.f (FV.i IntKind.i64 d.snd.fst)), Sg.c (CV.f (FV.i IntKind.i64 d.snd.snd.fst))], RV.c (CV.f (FV.i IntKind.i64 d.snd.snd.snd.fst))])
    [Ch.keep, Ch.set [Sg.c (CV.f (FV.b d.snd.snd.snd.snd))]] [])) := by kernel_rfl
theorem m___earth_Frame__To {ρ σ : Type} (q : ρ → Option σ) (g_earth_Good : Int → Int → Int → Option Bool) (g___fx_Acc__Mul : Int → Int → Int → Bool → Option (Int × Bool)) (g___fx_Acc__MulDiv : Int → Int → Int → Bool → Option (Int × Bool))   (x0 : Int) (x1 : Int) (x2 : Int) (x3 : Int) (x4 : Int) (x5 : Int) (x6 : Int) (x7 : Int) (x8 : Bool) (k : (Int × Int × Int × Int × Bool) → Option ρ) : (K___earth_Frame__To g_earth_Good g___fx_Acc__Mul g___fx_Acc__MulDiv  x0 x1 x2 x3 x4 x5 x6 x7 x8 k).bind q = K___earth_Frame__To g_earth_Good g___fx_Acc__Mul g___fx_Acc__MulDiv  x0 x1 x2 x3 x4 x5 x6 x7 x8 (fun d => (k d).bind q) := by
  simp only [K___earth_Frame__To, bnd_cond, bnd_bind, bnd_none, bnd_sum]
theorem qa___earth_Frame__To : ∀ b, (QA___earth_Frame__To).em b = ([.r (.c (.ptr 0 (.k 0) 5)), .r (.c (.ptr 1 (.k 0) 1)), .r (.agg [.c (.f (.i .i64 b.1.2.2.1.1)), .c (.f (.i .i64 b.1.2.2.1.2.1)), .c (.f (.i .i64 b.1.2.2.1.2.2.1))])], [[.c (.f (.i .i64 b.2.1.1)), .c (.f (.i .i64 b.2.1.2.1)), .c (.f (.i .i64 b.2.1.2.2.1)), .c (.f (.i .i64 b.2.1.2.2.2.1)), .c (.f (.i .i64 b.2.1.2.2.2.2.1))], [.c (.f (.b b.2.2.1.1))]]) := fun b => by kernel_rfl
theorem e___earth_Frame__To {f : (Int) → (Int) → (Int) → (Int) → (Int) → (Int) → (Int) → (Int) → (Bool) → Option (Int × Int × Int × Int × Bool)} {args : List AV} {h : List Blk} {r : Res} (hr : (F___earth_Frame__To f args h).eval = some r) : ∃ x0 x1 x2 x3 x4 x5 x6 x7 x8, args = [.r (.c (.ptr 0 (.k 0) 5)), .r (.c (.ptr 1 (.k 0) 1)), .r (.agg [.c (.f (.i .i64 x0)), .c (.f (.i .i64 x1)), .c (.f (.i .i64 x2))])] ∧ h = [[.c (.f (.i .i64 x3)), .c (.f (.i .i64 x4)), .c (.f (.i .i64 x5)), .c (.f (.i .i64 x6)), .c (.f (.i .i64 x7))], [.c (.f (.b x8))]] ∧ (f x0 x1 x2 x3 x4 x5 x6 x7 x8).bind (fun (d : Int × Int × Int × Int × Bool) => some (Res.mk
    (AV.tup [RV.agg [Sg.c (CV.f (FV.i IntKind.i64 d.fst)), Sg.c (CV.f (FV.i IntKind.i64 d.snd.fst)), Sg.c (CV.f (FV.i IntKind.i64 d.snd.snd.fst))], RV.c (CV.f (FV.i IntKind.i64 d.snd.snd.snd.fst))])
    [Ch.keep, Ch.set [Sg.c (CV.f (FV.b d.snd.snd.snd.snd))]] [])) = some r := by
  unfold F___earth_Frame__To at hr
  split at hr
  · rename_i b hb
    have e := ((QA___earth_Frame__To).ok _ _ hb).trans (qa___earth_Frame__To b)
    rw [opt_eval2] at hr
    exact ⟨b.1.2.2.1.1, b.1.2.2.1.2.1, b.1.2.2.1.2.2.1, b.2.1.1, b.2.1.2.1, b.2.1.2.2.1, b.2.1.2.2.2.1, b.2.1.2.2.2.2.1, b.2.2.1.1, (Prod.mk.inj e).1, (Prod.mk.inj e).2, hr⟩
  · cases hr
theorem n___earth_Frame__To {σ : Type} (q : (Int × Int × Int × Int × Bool) → Option σ) (x0 : Int) (x1 : Int) (x2 : Int) (x3 : Int) (x4 : Int) (x5 : Int) (x6 : Int) (x7 : Int) (x8 : Bool) : (f___earth_Frame__To x0 x1 x2 x3 x4 x5 x6 x7 x8).bind q = K___earth_Frame__To f_earth_Good f___fx_Acc__Mul f___fx_Acc__MulDiv  x0 x1 x2 x3 x4 x5 x6 x7 x8 q := by
  unfold f___earth_Frame__To
  exact m___earth_Frame__To q f_earth_Good f___fx_Acc__Mul f___fx_Acc__MulDiv   x0 x1 x2 x3 x4 x5 x6 x7 x8 some
theorem s___earth_Frame__To : Sound Try.prog 39 (F___earth_Frame__To f___earth_Frame__To) :=
  (inl_sound (l := [(40, F_earth_Good f_earth_Good), (67, F___fx_Acc__Mul f___fx_Acc__Mul), (68, F___fx_Acc__MulDiv f___fx_Acc__MulDiv)]) (.cons s_earth_Good (.cons s___fx_Acc__Mul (.cons s___fx_Acc__MulDiv (.nil _)))) mixed [] [1] 200 (by kernel_rfl)).by (F := F___earth_Frame__To f___earth_Frame__To) fun args b r hr => by
  obtain ⟨x0, x1, x2, x3, x4, x5, x6, x7, x8, rfl, rfl, hr1⟩ := e___earth_Frame__To hr
  exact inl_eval ((d___earth_Frame__To f_earth_Good f___fx_Acc__Mul f___fx_Acc__MulDiv  x0 x1 x2 x3 x4 x5 x6 x7 x8).trans ((n___earth_Frame__To (fun (d : Int × Int × Int × Int × Bool) => some (Res.mk
    (AV.tup [RV.agg [Sg.c (CV.f (FV.i IntKind.i64 d.fst)), Sg.c (CV.f (FV.i IntKind.i64 d.snd.fst)), Sg.c (CV.f (FV.i IntKind.i64 d.snd.snd.fst))], RV.c (CV.f (FV.i IntKind.i64 d.snd.snd.snd.fst))])
    [Ch.keep, Ch.set [Sg.c (CV.f (FV.b d.snd.snd.snd.snd))]] [])) x0 x1 x2 x3 x4 x5 x6 x7 x8).symm.trans hr1))

end Go.Proofs.Ytcalippagaaikaa
