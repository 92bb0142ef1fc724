/-
  Contracts by plain functions: earth.New$1, earth.New, earth.hundredths, earth.Declination$1, earth.Declination$2, earth.Declination, (*earth.Frame).Scale, astrolabelaw8.awake, astrolabelaw8.EarthKnown
-/
import Derived.Test.YtcalippagaaikaaE1
set_option maxRecDepth 100000
set_option maxHeartbeats 4000000
set_option linter.unusedVariables false
namespace Go.Proofs.Ytcalippagaaikaa
open Go.Ab
def K_earth_New_1 {ρ : Type} (g___fx_Acc__Mul : Int → Int → Int → Bool → Option (Int × Bool))  (x0 : Int) (x1 : Int) (x2 : Bool) (k : (Int × Bool) → Option ρ) : Option ρ :=
  Option.bind (g___fx_Acc__Mul x0 x1 30 x2) fun (d : Int × Bool) => k (d.1, d.2)
def f_earth_New_1 (x0 : Int) (x1 : Int) (x2 : Bool) : Option (Int × Bool) := K_earth_New_1 f___fx_Acc__Mul  x0 x1 x2 some
section
open Go.Ab.Rdr
def QA_earth_New_1 := ((pair (cons (ar (rc (cf (fi .i64 hole)))) (cons (ar (rc (cf (fi .i64 hole)))) (cons (ar (rc (cptr (nat 0) (ok' (nat 0)) (nat 1)))) nil))) (cons (cons (gc (cptr (nat 1) (ok' (nat 0)) (nat 1))) nil) (cons (cons (gc (cf (fb hole))) nil) nil))) : Rdr (List AV × List Blk) _)
end
def F_earth_New_1 (f : (Int) → (Int) → (Bool) → Option (Int × Bool)) : Sem1 := fun args h => match (QA_earth_New_1).rd (args, h) with
  | some b => .opt (f b.1.1 b.1.2.1 b.2.2.1.1) fun (d : Int × Bool) => .leaf (Res.mk (AV.r (RV.c (CV.f (FV.i IntKind.i64 d.1)))) [Ch.keep, Ch.set [Sg.c (CV.f (FV.b d.2))]] [])
  | none => .fail
theorem d_earth_New_1 (g___fx_Acc__Mul : Int → Int → Int → Bool → Option (Int × Bool))  (x0 : Int) (x1 : Int) (x2 : Bool) : den Try.prog (envOf [(67, F___fx_Acc__Mul g___fx_Acc__Mul)]) ⟨[], [], [], [], none⟩ 200 66 [.r (.c (.f (.i .i64 x0))), .r (.c (.f (.i .i64 x1))), .r (.c (.ptr 0 (.k 0) 1))] [[.c (.ptr 1 (.k 0) 1)], [.c (.f (.b x2))]] =
    K_earth_New_1 g___fx_Acc__Mul  x0 x1 x2 (fun (d : Int × Bool) => some (Res.mk (AV.r (RV.c (CV.f (FV.i IntKind.i64 d.1)))) [Ch.keep, Ch.set [Sg.c (CV.f (FV.b d.2))]] [])) := by kernel_rfl
theorem m_earth_New_1 {ρ σ : Type} (q : ρ → Option σ) (g___fx_Acc__Mul : Int → Int → Int → Bool → Option (Int × Bool))   (x0 : Int) (x1 : Int) (x2 : Bool) (k : (Int × Bool) → Option ρ) : (K_earth_New_1 g___fx_Acc__Mul  x0 x1 x2 k).bind q = K_earth_New_1 g___fx_Acc__Mul  x0 x1 x2 (fun d => (k d).bind q) := by
  simp only [K_earth_New_1, bnd_cond, bnd_bind, bnd_none, bnd_sum]
theorem qa_earth_New_1 : ∀ b, (QA_earth_New_1).em b = ([.r (.c (.f (.i .i64 b.1.1))), .r (.c (.f (.i .i64 b.1.2.1))), .r (.c (.ptr 0 (.k 0) 1))], [[.c (.ptr 1 (.k 0) 1)], [.c (.f (.b b.2.2.1.1))]]) := fun b => by kernel_rfl
theorem e_earth_New_1 {f : (Int) → (Int) → (Bool) → Option (Int × Bool)} {args : List AV} {h : List Blk} {r : Res} (hr : (F_earth_New_1 f args h).eval = some r) : ∃ x0 x1 x2, args = [.r (.c (.f (.i .i64 x0))), .r (.c (.f (.i .i64 x1))), .r (.c (.ptr 0 (.k 0) 1))] ∧ h = [[.c (.ptr 1 (.k 0) 1)], [.c (.f (.b x2))]] ∧ (f x0 x1 x2).bind (fun (d : Int × Bool) => some (Res.mk (AV.r (RV.c (CV.f (FV.i IntKind.i64 d.1)))) [Ch.keep, Ch.set [Sg.c (CV.f (FV.b d.2))]] [])) = some r := by
  unfold F_earth_New_1 at hr
  split at hr
  · rename_i b hb
    have e := ((QA_earth_New_1).ok _ _ hb).trans (qa_earth_New_1 b)
    rw [opt_eval2] at hr
    exact ⟨b.1.1, b.1.2.1, b.2.2.1.1, (Prod.mk.inj e).1, (Prod.mk.inj e).2, hr⟩
  · cases hr
theorem n_earth_New_1 {σ : Type} (q : (Int × Bool) → Option σ) (x0 : Int) (x1 : Int) (x2 : Bool) : (f_earth_New_1 x0 x1 x2).bind q = K_earth_New_1 f___fx_Acc__Mul  x0 x1 x2 q := by
  unfold f_earth_New_1
  exact m_earth_New_1 q f___fx_Acc__Mul   x0 x1 x2 some
theorem s_earth_New_1 : Sound Try.prog 66 (F_earth_New_1 f_earth_New_1) :=
  (inl_sound (l := [(67, F___fx_Acc__Mul f___fx_Acc__Mul)]) (.cons s___fx_Acc__Mul (.nil _)) mixed [] [] 200 (by kernel_rfl)).by (F := F_earth_New_1 f_earth_New_1) fun args b r hr => by
  obtain ⟨x0, x1, x2, rfl, rfl, hr1⟩ := e_earth_New_1 hr
  exact inl_eval ((d_earth_New_1 f___fx_Acc__Mul  x0 x1 x2).trans ((n_earth_New_1 (fun (d : Int × Bool) => some (Res.mk (AV.r (RV.c (CV.f (FV.i IntKind.i64 d.1)))) [Ch.keep, Ch.set [Sg.c (CV.f (FV.b d.2))]] [])) x0 x1 x2).symm.trans hr1))

def K_earth_New {ρ : Type} (g_earth_Good : Int → Int → Int → Option Bool) (g_earth_New_1 : Int → Int → Bool → Option (Int × Bool)) (g___fx_Acc__MulDiv : Int → Int → Int → Bool → Option (Int × Bool)) (g_trig_Sin : Int → Bool → Option (Int × Bool)) (g_trig_Cos : Int → Bool → Option (Int × Bool)) (g_root_Sqrt : Int → Bool → Option (Int × Bool)) (g___fx_Acc__Div : Int → Int → Int → Bool → Option (Int × Bool))  (x0 : Int) (x1 : Int) (x2 : Int) (k : (Unit ⊕ Int × Int × Int × Int × Int) → Option ρ) : Option ρ :=
  Option.bind (g_earth_Good x0 x1 x2) fun (d : Bool) =>
    bif !d then k (Sum.inl ())
    else
      bif decide (x0 > 850000000) then k (Sum.inl ())
      else
        bif decide (x0 < -850000000) then k (Sum.inl ())
        else
          Option.bind (g___fx_Acc__MulDiv x0 3373259426 1800000000 false) fun (d : Int × Bool) =>
            Option.bind (g_trig_Sin d.1 d.2) fun (d_1 : Int × Bool) =>
              Option.bind (g_trig_Cos d.1 d_1.2) fun (d : Int × Bool) =>
                Option.bind (g_earth_New_1 d_1.1 d_1.1 d.2) fun (d_2 : Int × Bool) =>
                  Option.bind (g_earth_New_1 7188036 d_2.1 d_2.2) fun (d_3 : Int × Bool) =>
                    Option.bind (g_root_Sqrt (IntKind.wrap IntKind.i64 (1073741824 - d_3.1)) d_3.2) fun (d_4 : Int × Bool) =>
                      Option.bind (g___fx_Acc__Div 6531212288 d_4.1 30 d_4.2) fun (d_5 : Int × Bool) =>
                        Option.bind (g_earth_New_1 6531212288 1066553788 d_5.2) fun (d_6 : Int × Bool) =>
                          Option.bind (g_earth_New_1 (IntKind.wrap IntKind.i64 (1073741824 - d_3.1)) d_4.1 d_6.2) fun (d_7 : Int × Bool) =>
                            Option.bind (g___fx_Acc__Div d_6.1 d_7.1 30 d_7.2) fun (d_8 : Int × Bool) =>
                              Option.bind (g___fx_Acc__MulDiv d_8.1 3373259426 1800000000 d_8.2) fun (d_9 : Int × Bool) =>
                                Option.bind (g_earth_New_1 d_5.1 d.1 d_9.2) fun (d : Int × Bool) =>
                                  Option.bind (g___fx_Acc__MulDiv d.1 3373259426 1800000000 d.2) fun (d : Int × Bool) => k (Sum.inr (x0, x1, x2, d_9.1, d.1))
def f_earth_New (x0 : Int) (x1 : Int) (x2 : Int) : Option (Unit ⊕ Int × Int × Int × Int × Int) := K_earth_New f_earth_Good f_earth_New_1 f___fx_Acc__MulDiv f_trig_Sin f_trig_Cos f_root_Sqrt f___fx_Acc__Div  x0 x1 x2 some
section
open Go.Ab.Rdr
def QA_earth_New := ((pair (cons (ar (ra (cons (gc (cf (fi .i64 hole))) (cons (gc (cf (fi .i64 hole))) (cons (gc (cf (fi .i64 hole))) nil))))) nil) nil) : Rdr (List AV × List Blk) _)
end
def F_earth_New (f : (Int) → (Int) → (Int) → Option (Unit ⊕ Int × Int × Int × Int × Int)) : Sem1 := fun args h => match (QA_earth_New).rd (args, h) with
  | some b => .opt (f b.1.1.1 b.1.1.2.1 b.1.1.2.2.1) fun d0 => T.sum d0 (fun (d : Unit) => .leaf (Res.mk (AV.tup [RV.c CV.nilp, RV.c (CV.f (FV.i IntKind.i64 1))]) [] [])) (fun (d : Int × Int × Int × Int × Int) => .leaf (Res.mk (AV.tup [RV.c (CV.ptr 0 (Off.k 0) 5), RV.c (CV.f (FV.i IntKind.i64 0))]) []
    [[Sg.c (CV.f (FV.i IntKind.i64 d.1)), Sg.c (CV.f (FV.i IntKind.i64 d.2.1)), Sg.c (CV.f (FV.i IntKind.i64 d.2.2.1)), Sg.c (CV.f (FV.i IntKind.i64 d.2.2.2.1)),
        Sg.c (CV.f (FV.i IntKind.i64 d.2.2.2.2))]]))
  | none => .fail
theorem d_earth_New (g_earth_Good : Int → Int → Int → Option Bool) (g_earth_New_1 : Int → Int → Bool → Option (Int × Bool)) (g___fx_Acc__MulDiv : Int → Int → Int → Bool → Option (Int × Bool)) (g_trig_Sin : Int → Bool → Option (Int × Bool)) (g_trig_Cos : Int → Bool → Option (Int × Bool)) (g_root_Sqrt : Int → Bool → Option (Int × Bool)) (g___fx_Acc__Div : Int → Int → Int → Bool → Option (Int × Bool))  (x0 : Int) (x1 : Int) (x2 : Int) : den Try.prog (envOf [(40, F_earth_Good g_earth_Good), (66, F_earth_New_1 g_earth_New_1), (68, F___fx_Acc__MulDiv g___fx_Acc__MulDiv), (69, F_trig_Sin g_trig_Sin), (70, F_trig_Cos g_trig_Cos), (71, F_root_Sqrt g_root_Sqrt), (72, F___fx_Acc__Div g___fx_Acc__Div)]) ⟨[], [], [], [], none⟩ 200 37 [.r (.agg [.c (.f (.i .i64 x0)), .c (.f (.i .i64 x1)), .c (.f (.i .i64 x2))])] [] =
    K_earth_New g_earth_Good g_earth_New_1 g___fx_Acc__MulDiv g_trig_Sin g_trig_Cos g_root_Sqrt g___fx_Acc__Div  x0 x1 x2 ((Sum.elim (fun (d : Unit) => some (Res.mk (AV.tup [RV.c CV.nilp, RV.c (CV.f (FV.i IntKind.i64 1))]) [] [])) (fun (d : Int × Int × Int × Int × Int) => some (Res.mk (AV.tup [RV.c (CV.ptr 0 (Off.k 0) 5), RV.c (CV.f (FV.i IntKind.i64 0))]) []
    [[Sg.c (CV.f (FV.i IntKind.i64 d.1)), Sg.c (CV.f (FV.i IntKind.i64 d.2.1)), Sg.c (CV.f (FV.i IntKind.i64 d.2.2.1)), Sg.c (CV.f (FV.i IntKind.i64 d.2.2.2.1)),
        Sg.c (CV.f (FV.i IntKind.i64 d.2.2.2.2))]])))) := by kernel_rfl
theorem m_earth_New {ρ σ : Type} (q : ρ → Option σ) (g_earth_Good : Int → Int → Int → Option Bool) (g_earth_New_1 : Int → Int → Bool → Option (Int × Bool)) (g___fx_Acc__MulDiv : Int → Int → Int → Bool → Option (Int × Bool)) (g_trig_Sin : Int → Bool → Option (Int × Bool)) (g_trig_Cos : Int → Bool → Option (Int × Bool)) (g_root_Sqrt : Int → Bool → Option (Int × Bool)) (g___fx_Acc__Div : Int → Int → Int → Bool → Option (Int × Bool))   (x0 : Int) (x1 : Int) (x2 : Int) (k : (Unit ⊕ Int × Int × Int × Int × Int) → Option ρ) : (K_earth_New g_earth_Good g_earth_New_1 g___fx_Acc__MulDiv g_trig_Sin g_trig_Cos g_root_Sqrt g___fx_Acc__Div  x0 x1 x2 k).bind q = K_earth_New g_earth_Good g_earth_New_1 g___fx_Acc__MulDiv g_trig_Sin g_trig_Cos g_root_Sqrt g___fx_Acc__Div  x0 x1 x2 (fun d => (k d).bind q) := by
  simp only [K_earth_New, bnd_cond, bnd_bind, bnd_none, bnd_sum]
theorem qa_earth_New : ∀ b, (QA_earth_New).em b = ([.r (.agg [.c (.f (.i .i64 b.1.1.1)), .c (.f (.i .i64 b.1.1.2.1)), .c (.f (.i .i64 b.1.1.2.2.1))])], []) := fun b => by kernel_rfl
theorem e_earth_New {f : (Int) → (Int) → (Int) → Option (Unit ⊕ Int × Int × Int × Int × Int)} {args : List AV} {h : List Blk} {r : Res} (hr : (F_earth_New f args h).eval = some r) : ∃ x0 x1 x2, args = [.r (.agg [.c (.f (.i .i64 x0)), .c (.f (.i .i64 x1)), .c (.f (.i .i64 x2))])] ∧ h = [] ∧ (f x0 x1 x2).bind ((Sum.elim (fun (d : Unit) => some (Res.mk (AV.tup [RV.c CV.nilp, RV.c (CV.f (FV.i IntKind.i64 1))]) [] [])) (fun (d : Int × Int × Int × Int × Int) => some (Res.mk (AV.tup [RV.c (CV.ptr 0 (Off.k 0) 5), RV.c (CV.f (FV.i IntKind.i64 0))]) []
    [[Sg.c (CV.f (FV.i IntKind.i64 d.1)), Sg.c (CV.f (FV.i IntKind.i64 d.2.1)), Sg.c (CV.f (FV.i IntKind.i64 d.2.2.1)), Sg.c (CV.f (FV.i IntKind.i64 d.2.2.2.1)),
        Sg.c (CV.f (FV.i IntKind.i64 d.2.2.2.2))]])))) = some r := by
  unfold F_earth_New at hr
  split at hr
  · rename_i b hb
    have e := ((QA_earth_New).ok _ _ hb).trans (qa_earth_New b)
    rw [opt_eval2] at hr
    simp only [sum_eval, leaf_eval] at hr
    exact ⟨b.1.1.1, b.1.1.2.1, b.1.1.2.2.1, (Prod.mk.inj e).1, (Prod.mk.inj e).2, hr⟩
  · cases hr
theorem n_earth_New {σ : Type} (q : (Unit ⊕ Int × Int × Int × Int × Int) → Option σ) (x0 : Int) (x1 : Int) (x2 : Int) : (f_earth_New x0 x1 x2).bind q = K_earth_New f_earth_Good f_earth_New_1 f___fx_Acc__MulDiv f_trig_Sin f_trig_Cos f_root_Sqrt f___fx_Acc__Div  x0 x1 x2 q := by
  unfold f_earth_New
  exact m_earth_New q f_earth_Good f_earth_New_1 f___fx_Acc__MulDiv f_trig_Sin f_trig_Cos f_root_Sqrt f___fx_Acc__Div   x0 x1 x2 some
theorem s_earth_New : Sound Try.prog 37 (F_earth_New f_earth_New) :=
  (inl_sound (l := [(40, F_earth_Good f_earth_Good), (66, F_earth_New_1 f_earth_New_1), (68, F___fx_Acc__MulDiv f___fx_Acc__MulDiv), (69, F_trig_Sin f_trig_Sin), (70, F_trig_Cos f_trig_Cos), (71, F_root_Sqrt f_root_Sqrt), (72, F___fx_Acc__Div f___fx_Acc__Div)]) (.cons s_earth_Good (.cons s_earth_New_1 (.cons s___fx_Acc__MulDiv (.cons s_trig_Sin (.cons s_trig_Cos (.cons s_root_Sqrt (.cons s___fx_Acc__Div (.nil _)))))))) mixed [] [] 200 (by kernel_rfl)).by (F := F_earth_New f_earth_New) fun args b r hr => by
  obtain ⟨x0, x1, x2, rfl, rfl, hr1⟩ := e_earth_New hr
  exact inl_eval ((d_earth_New f_earth_Good f_earth_New_1 f___fx_Acc__MulDiv f_trig_Sin f_trig_Cos f_root_Sqrt f___fx_Acc__Div  x0 x1 x2).trans ((n_earth_New ((Sum.elim (fun (d : Unit) => some (Res.mk (AV.tup [RV.c CV.nilp, RV.c (CV.f (FV.i IntKind.i64 1))]) [] [])) (fun (d : Int × Int × Int × Int × Int) => some (Res.mk (AV.tup [RV.c (CV.ptr 0 (Off.k 0) 5), RV.c (CV.f (FV.i IntKind.i64 0))]) []
    [[Sg.c (CV.f (FV.i IntKind.i64 d.1)), Sg.c (CV.f (FV.i IntKind.i64 d.2.1)), Sg.c (CV.f (FV.i IntKind.i64 d.2.2.1)), Sg.c (CV.f (FV.i IntKind.i64 d.2.2.2.1)),
        Sg.c (CV.f (FV.i IntKind.i64 d.2.2.2.2))]])))) x0 x1 x2).symm.trans hr1))

def K_earth_hundredths {ρ : Type}    (k : (Unit) → Option ρ) : Option ρ :=
  k ()
def f_earth_hundredths  : Option (Unit) := K_earth_hundredths    some
section
open Go.Ab.Rdr
def QA_earth_hundredths := ((pair nil nil) : Rdr (List AV × List Blk) _)
end
def F_earth_hundredths (f : Option (Unit)) : Sem1 := fun args h => match (QA_earth_hundredths).rd (args, h) with
  | some b => .opt (f ) fun (d : Unit) => .leaf (Res.mk
    (AV.r
      (RV.agg
        [Sg.c (CV.f (FV.i IntKind.i64 3000)), Sg.c (CV.f (FV.i IntKind.i64 6000)), Sg.c (CV.f (FV.i IntKind.i64 (-2000))), Sg.c (CV.f (FV.i IntKind.i64 (-1500))),
          Sg.c (CV.f (FV.i IntKind.i64 (-6000))), Sg.c (CV.f (FV.i IntKind.i64 (-9000))), Sg.c (CV.f (FV.i IntKind.i64 3000)), Sg.c (CV.f (FV.i IntKind.i64 2200)), Sg.c (CV.f (FV.i IntKind.i64 2500)),
          Sg.c (CV.f (FV.i IntKind.i64 500)), Sg.c (CV.f (FV.i IntKind.i64 (-2200))), Sg.c (CV.f (FV.i IntKind.i64 (-3800))), Sg.c (CV.f (FV.i IntKind.i64 0)), Sg.c (CV.f (FV.i IntKind.i64 2200)),
          Sg.c (CV.f (FV.i IntKind.i64 950)), Sg.c (CV.f (FV.i IntKind.i64 900)), Sg.c (CV.f (FV.i IntKind.i64 (-1400))), Sg.c (CV.f (FV.i IntKind.i64 (-500))), Sg.c (CV.f (FV.i IntKind.i64 (-300))),
          Sg.c (CV.f (FV.i IntKind.i64 100)), Sg.c (CV.f (FV.i IntKind.i64 950)), Sg.c (CV.f (FV.i IntKind.i64 500)), Sg.c (CV.f (FV.i IntKind.i64 1500)), Sg.c (CV.f (FV.i IntKind.i64 (-1700))),
          Sg.c (CV.f (FV.i IntKind.i64 100)), Sg.c (CV.f (FV.i IntKind.i64 700)), Sg.c (CV.f (FV.i IntKind.i64 (-800))), Sg.c (CV.f (FV.i IntKind.i64 500)), Sg.c (CV.f (FV.i IntKind.i64 1000)),
          Sg.c (CV.f (FV.i IntKind.i64 4000)), Sg.c (CV.f (FV.i IntKind.i64 (-3000))), Sg.c (CV.f (FV.i IntKind.i64 500)), Sg.c (CV.f (FV.i IntKind.i64 3500)), Sg.c (CV.f (FV.i IntKind.i64 (-1200))),
          Sg.c (CV.f (FV.i IntKind.i64 1000))]))
    [] [])
  | none => .fail
theorem d_earth_hundredths    : den Try.prog (envOf []) ⟨[], [], [], [], none⟩ 200 73 [] [] =
    K_earth_hundredths    (fun (d : Unit) => some (Res.mk
    (AV.r
      (RV.agg
        [Sg.c (CV.f (FV.i IntKind.i64 3000)), Sg.c (CV.f (FV.i IntKind.i64 6000)), Sg.c (CV.f (FV.i IntKind.i64 (-2000))), Sg.c (CV.f (FV.i IntKind.i64 (-1500))),
          Sg.c (CV.f (FV.i IntKind.i64 (-6000))), Sg.c (CV.f (FV.i IntKind.i64 (-9000))), Sg.c (CV.f (FV.i IntKind.i64 3000)), Sg.c (CV.f (FV.i IntKind.i64 2200)), Sg.c (CV.f (FV.i IntKind.i64 2500)),
          Sg.c (CV.f (FV.i IntKind.i64 500)), Sg.c (CV.f (FV.i IntKind.i64 (-2200))), Sg.c (CV.f (FV.i IntKind.i64 (-3800))), Sg.c (CV.f (FV.i IntKind.i64 0)), Sg.c (CV.f (FV.i IntKind.i64 2200)),
          Sg.c (CV.f (FV.i IntKind.i64 950)), Sg.c (CV.f (FV.i IntKind.i64 900)), Sg.c (CV.f (FV.i IntKind.i64 (-1400))), Sg.c (CV.f (FV.i IntKind.i64 (-500))), Sg.c (CV.f (FV.i IntKind.i64 (-300))),
          Sg.c (CV.f (FV.i IntKind.i64 100)), Sg.c (CV.f (FV.i IntKind.i64 950)), Sg.c (CV.f (FV.i IntKind.i64 500)), Sg.c (CV.f (FV.i IntKind.i64 1500)), Sg.c (CV.f (FV.i IntKind.i64 (-1700))),
          Sg.c (CV.f (FV.i IntKind.i64 100)), Sg.c (CV.f (FV.i IntKind.i64 700)), Sg.c (CV.f (FV.i IntKind.i64 (-800))), Sg.c (CV.f (FV.i IntKind.i64 500)), Sg.c (CV.f (FV.i IntKind.i64 1000)),
          Sg.c (CV.f (FV.i IntKind.i64 4000)), Sg.c (CV.f (FV.i IntKind.i64 (-3000))), Sg.c (CV.f (FV.i IntKind.i64 500)), Sg.c (CV.f (FV.i IntKind.i64 3500)), Sg.c (CV.f (FV.i IntKind.i64 (-1200))),
          Sg.c (CV.f (FV.i IntKind.i64 1000))]))
    [] [])) := by kernel_rfl
theorem m_earth_hundredths {ρ σ : Type} (q : ρ → Option σ)     (k : (Unit) → Option ρ) : (K_earth_hundredths    k).bind q = K_earth_hundredths    (fun d => (k d).bind q) := by
  simp only [K_earth_hundredths, bnd_cond, bnd_bind, bnd_none, bnd_sum]
theorem qa_earth_hundredths : ∀ b, (QA_earth_hundredths).em b = ([], []) := fun b => by kernel_rfl
theorem e_earth_hundredths {f : Option (Unit)} {args : List AV} {h : List Blk} {r : Res} (hr : (F_earth_hundredths f args h).eval = some r) : args = [] ∧ h = [] ∧ (f ).bind (fun (d : Unit) => some (Res.mk
    (AV.r
      (RV.agg
        [Sg.c (CV.f (FV.i IntKind.i64 3000)), Sg.c (CV.f (FV.i IntKind.i64 6000)), Sg.c (CV.f (FV.i IntKind.i64 (-2000))), Sg.c (CV.f (FV.i IntKind.i64 (-1500))),
          Sg.c (CV.f (FV.i IntKind.i64 (-6000))), Sg.c (CV.f (FV.i IntKind.i64 (-9000))), Sg.c (CV.f (FV.i IntKind.i64 3000)), Sg.c (CV.f (FV.i IntKind.i64 2200)), Sg.c (CV.f (FV.i IntKind.i64 2500)),
          Sg.c (CV.f (FV.i IntKind.i64 500)), Sg.c (CV.f (FV.i IntKind.i64 (-2200))), Sg.c (CV.f (FV.i IntKind.i64 (-3800))), Sg.c (CV.f (FV.i IntKind.i64 0)), Sg.c (CV.f (FV.i IntKind.i64 2200)),
          Sg.c (CV.f (FV.i IntKind.i64 950)), Sg.c (CV.f (FV.i IntKind.i64 900)), Sg.c (CV.f (FV.i IntKind.i64 (-1400))), Sg.c (CV.f (FV.i IntKind.i64 (-500))), Sg.c (CV.f (FV.i IntKind.i64 (-300))),
          Sg.c (CV.f (FV.i IntKind.i64 100)), Sg.c (CV.f (FV.i IntKind.i64 950)), Sg.c (CV.f (FV.i IntKind.i64 500)), Sg.c (CV.f (FV.i IntKind.i64 1500)), Sg.c (CV.f (FV.i IntKind.i64 (-1700))),
          Sg.c (CV.f (FV.i IntKind.i64 100)), Sg.c (CV.f (FV.i IntKind.i64 700)), Sg.c (CV.f (FV.i IntKind.i64 (-800))), Sg.c (CV.f (FV.i IntKind.i64 500)), Sg.c (CV.f (FV.i IntKind.i64 1000)),
          Sg.c (CV.f (FV.i IntKind.i64 4000)), Sg.c (CV.f (FV.i IntKind.i64 (-3000))), Sg.c (CV.f (FV.i IntKind.i64 500)), Sg.c (CV.f (FV.i IntKind.i64 3500)), Sg.c (CV.f (FV.i IntKind.i64 (-1200))),
          Sg.c (CV.f (FV.i IntKind.i64 1000))]))
    [] [])) = some r := by
  unfold F_earth_hundredths at hr
  split at hr
  · rename_i b hb
    have e := ((QA_earth_hundredths).ok _ _ hb).trans (qa_earth_hundredths b)
    rw [opt_eval2] at hr
    exact ⟨(Prod.mk.inj e).1, (Prod.mk.inj e).2, hr⟩
  · cases hr
theorem n_earth_hundredths {σ : Type} (q : (Unit) → Option σ)  : (f_earth_hundredths ).bind q = K_earth_hundredths    q := by
  unfold f_earth_hundredths
  exact m_earth_hundredths q     some
theorem s_earth_hundredths : Sound Try.prog 73 (F_earth_hundredths f_earth_hundredths) :=
  (inl_sound (l := []) (.nil _) mixed [] [] 200 (by kernel_rfl)).by (F := F_earth_hundredths f_earth_hundredths) fun args b r hr => by
  obtain ⟨rfl, rfl, hr1⟩ := e_earth_hundredths hr
  exact inl_eval ((d_earth_hundredths   ).trans ((n_earth_hundredths (fun (d : Unit) => some (Res.mk
    (AV.r
      (RV.agg
        [Sg.c (CV.f (FV.i IntKind.i64 3000)), Sg.c (CV.f (FV.i IntKind.i64 6000)), Sg.c (CV.f (FV.i IntKind.i64 (-2000))), Sg.c (CV.f (FV.i IntKind.i64 (-1500))),
          Sg.c (CV.f (FV.i IntKind.i64 (-6000))), Sg.c (CV.f (FV.i IntKind.i64 (-9000))), Sg.c (CV.f (FV.i IntKind.i64 3000)), Sg.c (CV.f (FV.i IntKind.i64 2200)), Sg.c (CV.f (FV.i IntKind.i64 2500)),
          Sg.c (CV.f (FV.i IntKind.i64 500)), Sg.c (CV.f (FV.i IntKind.i64 (-2200))), Sg.c (CV.f (FV.i IntKind.i64 (-3800))), Sg.c (CV.f (FV.i IntKind.i64 0)), Sg.c (CV.f (FV.i IntKind.i64 2200)),
          Sg.c (CV.f (FV.i IntKind.i64 950)), Sg.c (CV.f (FV.i IntKind.i64 900)), Sg.c (CV.f (FV.i IntKind.i64 (-1400))), Sg.c (CV.f (FV.i IntKind.i64 (-500))), Sg.c (CV.f (FV.i IntKind.i64 (-300))),
          Sg.c (CV.f (FV.i IntKind.i64 100)), Sg.c (CV.f (FV.i IntKind.i64 950)), Sg.c (CV.f (FV.i IntKind.i64 500)), Sg.c (CV.f (FV.i IntKind.i64 1500)), Sg.c (CV.f (FV.i IntKind.i64 (-1700))),
          Sg.c (CV.f (FV.i IntKind.i64 100)), Sg.c (CV.f (FV.i IntKind.i64 700)), Sg.c (CV.f (FV.i IntKind.i64 (-800))), Sg.c (CV.f (FV.i IntKind.i64 500)), Sg.c (CV.f (FV.i IntKind.i64 1000)),
          Sg.c (CV.f (FV.i IntKind.i64 4000)), Sg.c (CV.f (FV.i IntKind.i64 (-3000))), Sg.c (CV.f (FV.i IntKind.i64 500)), Sg.c (CV.f (FV.i IntKind.i64 3500)), Sg.c (CV.f (FV.i IntKind.i64 (-1200))),
          Sg.c (CV.f (FV.i IntKind.i64 1000))]))
    [] [])) ).symm.trans hr1))

def K_earth_Declination_1 {ρ : Type} (g___fx_Acc__MulDiv : Int → Int → Int → Bool → Option (Int × Bool))  (x0 : Int) (x1 : Int) (x2 : Int) (x3 : Int) (x4 : Bool) (k : (Int × Bool) → Option ρ) : Option ρ :=
  Option.bind (g___fx_Acc__MulDiv (IntKind.wrap IntKind.i64 (x1 - x0)) x2 x3 x4) fun (d : Int × Bool) => k (IntKind.wrap IntKind.i64 (x0 + d.1), d.2)
def f_earth_Declination_1 (x0 : Int) (x1 : Int) (x2 : Int) (x3 : Int) (x4 : Bool) : Option (Int × Bool) := K_earth_Declination_1 f___fx_Acc__MulDiv  x0 x1 x2 x3 x4 some
section
open Go.Ab.Rdr
def QA_earth_Declination_1 := ((pair (cons (ar (rc (cf (fi .i64 hole)))) (cons (ar (rc (cf (fi .i64 hole)))) (cons (ar (rc (cf (fi .i64 hole)))) (cons (ar (rc (cf (fi .i64 hole)))) (cons (ar (rc (cptr (nat 0) (ok' (nat 0)) (nat 1)))) nil))))) (cons (cons (gc (cptr (nat 1) (ok' (nat 0)) (nat 1))) nil) (cons (cons (gc (cf (fb hole))) nil) nil))) : Rdr (List AV × List Blk) _)
end
def F_earth_Declination_1 (f : (Int) → (Int) → (Int) → (Int) → (Bool) → Option (Int × Bool)) : Sem1 := fun args h => match (QA_earth_Declination_1).rd (args, h) with
  | some b => .opt (f b.1.1 b.1.2.1 b.1.2.2.1 b.1.2.2.2.1 b.2.2.1.1) fun (d : Int × Bool) => .leaf (Res.mk (AV.r (RV.c (CV.f (FV.i IntKind.i64 d.1)))) [Ch.keep, Ch.set [Sg.c (CV.f (FV.b d.2))]] [])
  | none => .fail
theorem d_earth_Declination_1 (g___fx_Acc__MulDiv : Int → Int → Int → Bool → Option (Int × Bool))  (x0 : Int) (x1 : Int) (x2 : Int) (x3 : Int) (x4 : Bool) : den Try.prog (envOf [(68, F___fx_Acc__MulDiv g___fx_Acc__MulDiv)]) ⟨[], [], [], [], none⟩ 200 74 [.r (.c (.f (.i .i64 x0))), .r (.c (.f (.i .i64 x1))), .r (.c (.f (.i .i64 x2))), .r (.c (.f (.i .i64 x3))), .r (.c (.ptr 0 (.k 0) 1))] [[.c (.ptr 1 (.k 0) 1)], [.c (.f (.b x4))]] =
    K_earth_Declination_1 g___fx_Acc__MulDiv  x0 x1 x2 x3 x4 (fun (d : Int × Bool) => some (Res.mk (AV.r (RV.c (CV.f (FV.i IntKind.i64 d.1)))) [Ch.keep, Ch.set [Sg.c (CV.f (FV.b d.2))]] [])) := by kernel_rfl
theorem m_earth_Declination_1 {ρ σ : Type} (q : ρ → Option σ) (g___fx_Acc__MulDiv : Int → Int → Int → Bool → Option (Int × Bool))   (x0 : Int) (x1 : Int) (x2 : Int) (x3 : Int) (x4 : Bool) (k : (Int × Bool) → Option ρ) : (K_earth_Declination_1 g___fx_Acc__MulDiv  x0 x1 x2 x3 x4 k).bind q = K_earth_Declination_1 g___fx_Acc__MulDiv  x0 x1 x2 x3 x4 (fun d => (k d).bind q) := by
  simp only [K_earth_Declination_1, bnd_cond, bnd_bind, bnd_none, bnd_sum]
theorem qa_earth_Declination_1 : ∀ b, (QA_earth_Declination_1).em b = ([.r (.c (.f (.i .i64 b.1.1))), .r (.c (.f (.i .i64 b.1.2.1))), .r (.c (.f (.i .i64 b.1.2.2.1))), .r (.c (.f (.i .i64 b.1.2.2.2.1))), .r (.c (.ptr 0 (.k 0) 1))], [[.c (.ptr 1 (.k 0) 1)], [.c (.f (.b b.2.2.1.1))]]) := fun b => by kernel_rfl
theorem e_earth_Declination_1 {f : (Int) → (Int) → (Int) → (Int) → (Bool) → Option (Int × Bool)} {args : List AV} {h : List Blk} {r : Res} (hr : (F_earth_Declination_1 f args h).eval = some r) : ∃ x0 x1 x2 x3 x4, args = [.r (.c (.f (.i .i64 x0))), .r (.c (.f (.i .i64 x1))), .r (.c (.f (.i .i64 x2))), .r (.c (.f (.i .i64 x3))), .r (.c (.ptr 0 (.k 0) 1))] ∧ h = [[.c (.ptr 1 (.k 0) 1)], [.c (.f (.b x4))]] ∧ (f x0 x1 x2 x3 x4).bind (fun (d : Int × Bool) => some (Res.mk (AV.r (RV.c (CV.f (FV.i IntKind.i64 d.1)))) [Ch.keep, Ch.set [Sg.c (CV.f (FV.b d.2))]] [])) = some r := by
  unfold F_earth_Declination_1 at hr
  split at hr
  · rename_i b hb
    have e := ((QA_earth_Declination_1).ok _ _ hb).trans (qa_earth_Declination_1 b)
    rw [opt_eval2] at hr
    exact ⟨b.1.1, b.1.2.1, b.1.2.2.1, b.1.2.2.2.1, b.2.2.1.1, (Prod.mk.inj e).1, (Prod.mk.inj e).2, hr⟩
  · cases hr
theorem n_earth_Declination_1 {σ : Type} (q : (Int × Bool) → Option σ) (x0 : Int) (x1 : Int) (x2 : Int) (x3 : Int) (x4 : Bool) : (f_earth_Declination_1 x0 x1 x2 x3 x4).bind q = K_earth_Declination_1 f___fx_Acc__MulDiv  x0 x1 x2 x3 x4 q := by
  unfold f_earth_Declination_1
  exact m_earth_Declination_1 q f___fx_Acc__MulDiv   x0 x1 x2 x3 x4 some
theorem s_earth_Declination_1 : Sound Try.prog 74 (F_earth_Declination_1 f_earth_Declination_1) :=
  (inl_sound (l := [(68, F___fx_Acc__MulDiv f___fx_Acc__MulDiv)]) (.cons s___fx_Acc__MulDiv (.nil _)) mixed [] [] 200 (by kernel_rfl)).by (F := F_earth_Declination_1 f_earth_Declination_1) fun args b r hr => by
  obtain ⟨x0, x1, x2, x3, x4, rfl, rfl, hr1⟩ := e_earth_Declination_1 hr
  exact inl_eval ((d_earth_Declination_1 f___fx_Acc__MulDiv  x0 x1 x2 x3 x4).trans ((n_earth_Declination_1 (fun (d : Int × Bool) => some (Res.mk (AV.r (RV.c (CV.f (FV.i IntKind.i64 d.1)))) [Ch.keep, Ch.set [Sg.c (CV.f (FV.b d.2))]] [])) x0 x1 x2 x3 x4).symm.trans hr1))

def K_earth_Declination_2 {ρ : Type} (g_earth_Declination_1 : Int → Int → Int → Int → Bool → Option (Int × Bool))  (x0 : Int) (x1 : Int) (x2 : Int) (x3 : Int) (x4 : Int) (x5 : Int) (x6 : Int) (x7 : Int) (x8 : Int) (x9 : Bool) (k : (Int × Bool) → Option ρ) : Option ρ :=
  bif inR x7 7 then
    bif x7 == 6 then
      bif inR (IntKind.wrap IntKind.i64 (x7 + 1)) 7 then
        bif IntKind.wrap IntKind.i64 (x7 + 1) == 6 then
          Option.bind (g_earth_Declination_1 (IntKind.wrap IntKind.i64 (x6 * 1073741824)) (IntKind.wrap IntKind.i64 (x6 * 1073741824)) x8 600000000 x9) fun (d : Int × Bool) => k (d.1, d.2)
        else
          bif IntKind.wrap IntKind.i64 (x7 + 1) == 5 then
            Option.bind (g_earth_Declination_1 (IntKind.wrap IntKind.i64 (x6 * 1073741824)) (IntKind.wrap IntKind.i64 (x5 * 1073741824)) x8 600000000 x9) fun (d : Int × Bool) => k (d.1, d.2)
          else
            bif IntKind.wrap IntKind.i64 (x7 + 1) == 4 then
              Option.bind (g_earth_Declination_1 (IntKind.wrap IntKind.i64 (x6 * 1073741824)) (IntKind.wrap IntKind.i64 (x4 * 1073741824)) x8 600000000 x9) fun (d : Int × Bool) => k (d.1, d.2)
            else
              bif IntKind.wrap IntKind.i64 (x7 + 1) == 3 then
                Option.bind (g_earth_Declination_1 (IntKind.wrap IntKind.i64 (x6 * 1073741824)) (IntKind.wrap IntKind.i64 (x3 * 1073741824)) x8 600000000 x9) fun (d : Int × Bool) => k (d.1, d.2)
              else
                bif IntKind.wrap IntKind.i64 (x7 + 1) == 2 then
                  Option.bind (g_earth_Declination_1 (IntKind.wrap IntKind.i64 (x6 * 1073741824)) (IntKind.wrap IntKind.i64 (x2 * 1073741824)) x8 600000000 x9) fun (d : Int × Bool) => k (d.1, d.2)
                else
                  bif IntKind.wrap IntKind.i64 (x7 + 1) == 1 then
                    Option.bind (g_earth_Declination_1 (IntKind.wrap IntKind.i64 (x6 * 1073741824)) (IntKind.wrap IntKind.i64 (x1 * 1073741824)) x8 600000000 x9) fun (d : Int × Bool) => k (d.1, d.2)
                  else
                    Option.bind (g_earth_Declination_1 (IntKind.wrap IntKind.i64 (x6 * 1073741824)) (IntKind.wrap IntKind.i64 (x0 * 1073741824)) x8 600000000 x9) fun (d : Int × Bool) => k (d.1, d.2)
      else none
    else
      bif x7 == 5 then
        bif inR (IntKind.wrap IntKind.i64 (x7 + 1)) 7 then
          bif IntKind.wrap IntKind.i64 (x7 + 1) == 6 then
            Option.bind (g_earth_Declination_1 (IntKind.wrap IntKind.i64 (x5 * 1073741824)) (IntKind.wrap IntKind.i64 (x6 * 1073741824)) x8 600000000 x9) fun (d : Int × Bool) => k (d.1, d.2)
          else
            bif IntKind.wrap IntKind.i64 (x7 + 1) == 5 then
              Option.bind (g_earth_Declination_1 (IntKind.wrap IntKind.i64 (x5 * 1073741824)) (IntKind.wrap IntKind.i64 (x5 * 1073741824)) x8 600000000 x9) fun (d : Int × Bool) => k (d.1, d.2)
            else
              bif IntKind.wrap IntKind.i64 (x7 + 1) == 4 then
                Option.bind (g_earth_Declination_1 (IntKind.wrap IntKind.i64 (x5 * 1073741824)) (IntKind.wrap IntKind.i64 (x4 * 1073741824)) x8 600000000 x9) fun (d : Int × Bool) => k (d.1, d.2)
              else
                bif IntKind.wrap IntKind.i64 (x7 + 1) == 3 then
                  Option.bind (g_earth_Declination_1 (IntKind.wrap IntKind.i64 (x5 * 1073741824)) (IntKind.wrap IntKind.i64 (x3 * 1073741824)) x8 600000000 x9) fun (d : Int × Bool) => k (d.1, d.2)
                else
                  bif IntKind.wrap IntKind.i64 (x7 + 1) == 2 then
                    Option.bind (g_earth_Declination_1 (IntKind.wrap IntKind.i64 (x5 * 1073741824)) (IntKind.wrap IntKind.i64 (x2 * 1073741824)) x8 600000000 x9) fun (d : Int × Bool) => k (d.1, d.2)
                  else
                    bif IntKind.wrap IntKind.i64 (x7 + 1) == 1 then
                      Option.bind (g_earth_Declination_1 (IntKind.wrap IntKind.i64 (x5 * 1073741824)) (IntKind.wrap IntKind.i64 (x1 * 1073741824)) x8 600000000 x9) fun (d : Int × Bool) =>
                        k (d.1, d.2)
                    else
                      Option.bind (g_earth_Declination_1 (IntKind.wrap IntKind.i64 (x5 * 1073741824)) (IntKind.wrap IntKind.i64 (x0 * 1073741824)) x8 600000000 x9) fun (d : Int × Bool) =>
                        k (d.1, d.2)
        else none
      else
        bif x7 == 4 then
          bif inR (IntKind.wrap IntKind.i64 (x7 + 1)) 7 then
            bif IntKind.wrap IntKind.i64 (x7 + 1) == 6 then
              Option.bind (g_earth_Declination_1 (IntKind.wrap IntKind.i64 (x4 * 1073741824)) (IntKind.wrap IntKind.i64 (x6 * 1073741824)) x8 600000000 x9) fun (d : Int × Bool) => k (d.1, d.2)
            else
              bif IntKind.wrap IntKind.i64 (x7 + 1) == 5 then
                Option.bind (g_earth_Declination_1 (IntKind.wrap IntKind.i64 (x4 * 1073741824)) (IntKind.wrap IntKind.i64 (x5 * 1073741824)) x8 600000000 x9) fun (d : Int × Bool) => k (d.1, d.2)
              else
                bif IntKind.wrap IntKind.i64 (x7 + 1) == 4 then
                  Option.bind (g_earth_Declination_1 (IntKind.wrap IntKind.i64 (x4 * 1073741824)) (IntKind.wrap IntKind.i64 (x4 * 1073741824)) x8 600000000 x9) fun (d : Int × Bool) => k (d.1, d.2)
                else
                  bif IntKind.wrap IntKind.i64 (x7 + 1) == 3 then
                    Option.bind (g_earth_Declination_1 (IntKind.wrap IntKind.i64 (x4 * 1073741824)) (IntKind.wrap IntKind.i64 (x3 * 1073741824)) x8 600000000 x9) fun (d : Int × Bool) => k (d.1, d.2)
                  else
                    bif IntKind.wrap IntKind.i64 (x7 + 1) == 2 then
                      Option.bind (g_earth_Declination_1 (IntKind.wrap IntKind.i64 (x4 * 1073741824)) (IntKind.wrap IntKind.i64 (x2 * 1073741824)) x8 600000000 x9) fun (d : Int × Bool) =>
                        k (d.1, d.2)
                    else
                      bif IntKind.wrap IntKind.i64 (x7 + 1) == 1 then
                        Option.bind (g_earth_Declination_1 (IntKind.wrap IntKind.i64 (x4 * 1073741824)) (IntKind.wrap IntKind.i64 (x1 * 1073741824)) x8 600000000 x9) fun (d : Int × Bool) =>
                          k (d.1, d.2)
                      else
                        Option.bind (g_earth_Declination_1 (IntKind.wrap IntKind.i64 (x4 * 1073741824)) (IntKind.wrap IntKind.i64 (x0 * 1073741824)) x8 600000000 x9) fun (d : Int × Bool) =>
                          k (d.1, d.2)
          else none
        else
          bif x7 == 3 then
            bif inR (IntKind.wrap IntKind.i64 (x7 + 1)) 7 then
              bif IntKind.wrap IntKind.i64 (x7 + 1) == 6 then
                Option.bind (g_earth_Declination_1 (IntKind.wrap IntKind.i64 (x3 * 1073741824)) (IntKind.wrap IntKind.i64 (x6 * 1073741824)) x8 600000000 x9) fun (d : Int × Bool) => k (d.1, d.2)
              else
                bif IntKind.wrap IntKind.i64 (x7 + 1) == 5 then
                  Option.bind (g_earth_Declination_1 (IntKind.wrap IntKind.i64 (x3 * 1073741824)) (IntKind.wrap IntKind.i64 (x5 * 1073741824)) x8 600000000 x9) fun (d : Int × Bool) => k (d.1, d.2)
                else
                  bif IntKind.wrap IntKind.i64 (x7 + 1) == 4 then
                    Option.bind (g_earth_Declination_1 (IntKind.wrap IntKind.i64 (x3 * 1073741824)) (IntKind.wrap IntKind.i64 (x4 * 1073741824)) x8 600000000 x9) fun (d : Int × Bool) => k (d.1, d.2)
                  else
                    bif IntKind.wrap IntKind.i64 (x7 + 1) == 3 then
                      Option.bind (g_earth_Declination_1 (IntKind.wrap IntKind.i64 (x3 * 1073741824)) (IntKind.wrap IntKind.i64 (x3 * 1073741824)) x8 600000000 x9) fun (d : Int × Bool) =>
                        k (d.1, d.2)
                    else
                      bif IntKind.wrap IntKind.i64 (x7 + 1) == 2 then
                        Option.bind (g_earth_Declination_1 (IntKind.wrap IntKind.i64 (x3 * 1073741824)) (IntKind.wrap IntKind.i64 (x2 * 1073741824)) x8 600000000 x9) fun (d : Int × Bool) =>
                          k (d.1, d.2)
                      else
                        bif IntKind.wrap IntKind.i64 (x7 + 1) == 1 then
                          Option.bind (g_earth_Declination_1 (IntKind.wrap IntKind.i64 (x3 * 1073741824)) (IntKind.wrap IntKind.i64 (x1 * 1073741824)) x8 600000000 x9) fun (d : Int × Bool) =>
                            k (d.1, d.2)
                        else
                          Option.bind (g_earth_Declination_1 (IntKind.wrap IntKind.i64 (x3 * 1073741824)) (IntKind.wrap IntKind.i64 (x0 * 1073741824)) x8 600000000 x9) fun (d : Int × Bool) =>
                            k (d.1, d.2)
            else none
          else
            bif x7 == 2 then
              bif inR (IntKind.wrap IntKind.i64 (x7 + 1)) 7 then
                bif IntKind.wrap IntKind.i64 (x7 + 1) == 6 then
                  Option.bind (g_earth_Declination_1 (IntKind.wrap IntKind.i64 (x2 * 1073741824)) (IntKind.wrap IntKind.i64 (x6 * 1073741824)) x8 600000000 x9) fun (d : Int × Bool) => k (d.1, d.2)
                else
                  bif IntKind.wrap IntKind.i64 (x7 + 1) == 5 then
                    Option.bind (g_earth_Declination_1 (IntKind.wrap IntKind.i64 (x2 * 1073741824)) (IntKind.wrap IntKind.i64 (x5 * 1073741824)) x8 600000000 x9) fun (d : Int × Bool) => k (d.1, d.2)
                  else
                    bif IntKind.wrap IntKind.i64 (x7 + 1) == 4 then
                      Option.bind (g_earth_Declination_1 (IntKind.wrap IntKind.i64 (x2 * 1073741824)) (IntKind.wrap IntKind.i64 (x4 * 1073741824)) x8 600000000 x9) fun (d : Int × Bool) =>
                        k (d.1, d.2)
                    else
                      bif IntKind.wrap IntKind.i64 (x7 + 1) == 3 then
                        Option.bind (g_earth_Declination_1 (IntKind.wrap IntKind.i64 (x2 * 1073741824)) (IntKind.wrap IntKind.i64 (x3 * 1073741824)) x8 600000000 x9) fun (d : Int × Bool) =>
                          k (d.1, d.2)
                      else
                        bif IntKind.wrap IntKind.i64 (x7 + 1) == 2 then
                          Option.bind (g_earth_Declination_1 (IntKind.wrap IntKind.i64 (x2 * 1073741824)) (IntKind.wrap IntKind.i64 (x2 * 1073741824)) x8 600000000 x9) fun (d : Int × Bool) =>
                            k (d.1, d.2)
                        else
                          bif IntKind.wrap IntKind.i64 (x7 + 1) == 1 then
                            Option.bind (g_earth_Declination_1 (IntKind.wrap IntKind.i64 (x2 * 1073741824)) (IntKind.wrap IntKind.i64 (x1 * 1073741824)) x8 600000000 x9) fun (d : Int × Bool) =>
                              k (d.1, d.2)
                          else
                            Option.bind (g_earth_Declination_1 (IntKind.wrap IntKind.i64 (x2 * 1073741824)) (IntKind.wrap IntKind.i64 (x0 * 1073741824)) x8 600000000 x9) fun (d : Int × Bool) =>
                              k (d.1, d.2)
              else none
            else
              bif x7 == 1 then
                bif inR (IntKind.wrap IntKind.i64 (x7 + 1)) 7 then
                  bif IntKind.wrap IntKind.i64 (x7 + 1) == 6 then
                    Option.bind (g_earth_Declination_1 (IntKind.wrap IntKind.i64 (x1 * 1073741824)) (IntKind.wrap IntKind.i64 (x6 * 1073741824)) x8 600000000 x9) fun (d : Int × Bool) => k (d.1, d.2)
                  else
                    bif IntKind.wrap IntKind.i64 (x7 + 1) == 5 then
                      Option.bind (g_earth_Declination_1 (IntKind.wrap IntKind.i64 (x1 * 1073741824)) (IntKind.wrap IntKind.i64 (x5 * 1073741824)) x8 600000000 x9) fun (d : Int × Bool) =>
                        k (d.1, d.2)
                    else
                      bif IntKind.wrap IntKind.i64 (x7 + 1) == 4 then
                        Option.bind (g_earth_Declination_1 (IntKind.wrap IntKind.i64 (x1 * 1073741824)) (IntKind.wrap IntKind.i64 (x4 * 1073741824)) x8 600000000 x9) fun (d : Int × Bool) =>
                          k (d.1, d.2)
                      else
                        bif IntKind.wrap IntKind.i64 (x7 + 1) == 3 then
                          Option.bind (g_earth_Declination_1 (IntKind.wrap IntKind.i64 (x1 * 1073741824)) (IntKind.wrap IntKind.i64 (x3 * 1073741824)) x8 600000000 x9) fun (d : Int × Bool) =>
                            k (d.1, d.2)
                        else
                          bif IntKind.wrap IntKind.i64 (x7 + 1) == 2 then
                            Option.bind (g_earth_Declination_1 (IntKind.wrap IntKind.i64 (x1 * 1073741824)) (IntKind.wrap IntKind.i64 (x2 * 1073741824)) x8 600000000 x9) fun (d : Int × Bool) =>
                              k (d.1, d.2)
                          else
                            bif IntKind.wrap IntKind.i64 (x7 + 1) == 1 then
                              Option.bind (g_earth_Declination_1 (IntKind.wrap IntKind.i64 (x1 * 1073741824)) (IntKind.wrap IntKind.i64 (x1 * 1073741824)) x8 600000000 x9) fun (d : Int × Bool) =>
                                k (d.1, d.2)
                            else
                              Option.bind (g_earth_Declination_1 (IntKind.wrap IntKind.i64 (x1 * 1073741824)) (IntKind.wrap IntKind.i64 (x0 * 1073741824)) x8 600000000 x9) fun (d : Int × Bool) =>
                                k (d.1, d.2)
                else none
              else
                bif inR (IntKind.wrap IntKind.i64 (x7 + 1)) 7 then
                  bif IntKind.wrap IntKind.i64 (x7 + 1) == 6 then
                    Option.bind (g_earth_Declination_1 (IntKind.wrap IntKind.i64 (x0 * 1073741824)) (IntKind.wrap IntKind.i64 (x6 * 1073741824)) x8 600000000 x9) fun (d : Int × Bool) => k (d.1, d.2)
                  else
                    bif IntKind.wrap IntKind.i64 (x7 + 1) == 5 then
                      Option.bind (g_earth_Declination_1 (IntKind.wrap IntKind.i64 (x0 * 1073741824)) (IntKind.wrap IntKind.i64 (x5 * 1073741824)) x8 600000000 x9) fun (d : Int × Bool) =>
                        k (d.1, d.2)
                    else
                      bif IntKind.wrap IntKind.i64 (x7 + 1) == 4 then
                        Option.bind (g_earth_Declination_1 (IntKind.wrap IntKind.i64 (x0 * 1073741824)) (IntKind.wrap IntKind.i64 (x4 * 1073741824)) x8 600000000 x9) fun (d : Int × Bool) =>
                          k (d.1, d.2)
                      else
                        bif IntKind.wrap IntKind.i64 (x7 + 1) == 3 then
                          Option.bind (g_earth_Declination_1 (IntKind.wrap IntKind.i64 (x0 * 1073741824)) (IntKind.wrap IntKind.i64 (x3 * 1073741824)) x8 600000000 x9) fun (d : Int × Bool) =>
                            k (d.1, d.2)
                        else
                          bif IntKind.wrap IntKind.i64 (x7 + 1) == 2 then
                            Option.bind (g_earth_Declination_1 (IntKind.wrap IntKind.i64 (x0 * 1073741824)) (IntKind.wrap IntKind.i64 (x2 * 1073741824)) x8 600000000 x9) fun (d : Int × Bool) =>
                              k (d.1, d.2)
                          else
                            bif IntKind.wrap IntKind.i64 (x7 + 1) == 1 then
                              Option.bind (g_earth_Declination_1 (IntKind.wrap IntKind.i64 (x0 * 1073741824)) (IntKind.wrap IntKind.i64 (x1 * 1073741824)) x8 600000000 x9) fun (d : Int × Bool) =>
                                k (d.1, d.2)
                            else
                              Option.bind (g_earth_Declination_1 (IntKind.wrap IntKind.i64 (x0 * 1073741824)) (IntKind.wrap IntKind.i64 (x0 * 1073741824)) x8 600000000 x9) fun (d : Int × Bool) =>
                                k (d.1, d.2)
                else none
  else none
def f_earth_Declination_2 (x0 : Int) (x1 : Int) (x2 : Int) (x3 : Int) (x4 : Int) (x5 : Int) (x6 : Int) (x7 : Int) (x8 : Int) (x9 : Bool) : Option (Int × Bool) := K_earth_Declination_2 f_earth_Declination_1  x0 x1 x2 x3 x4 x5 x6 x7 x8 x9 some
section
open Go.Ab.Rdr
def QA_earth_Declination_2 := ((pair (cons (ar (ra (cons (gc (cf (fi .i64 hole))) (cons (gc (cf (fi .i64 hole))) (cons (gc (cf (fi .i64 hole))) (cons (gc (cf (fi .i64 hole))) (cons (gc (cf (fi .i64 hole))) (cons (gc (cf (fi .i64 hole))) (cons (gc (cf (fi .i64 hole))) nil))))))))) (cons (ar (rc (cptr (nat 0) (ok' (nat 0)) (nat 1)))) (cons (ar (rc (cptr (nat 1) (ok' (nat 0)) (nat 1)))) (cons (ar (rc (cptr (nat 2) (ok' (nat 0)) (nat 1)))) nil)))) (cons (cons (gc (ccl (nat 74) (nat 3) (ok' (nat 0)) (nat 1))) nil) (cons (cons (gc (cf (fi .i64 hole))) nil) (cons (cons (gc (cf (fi .i64 hole))) nil) (cons (cons (gc (cptr (nat 4) (ok' (nat 0)) (nat 1))) nil) (cons (cons (gc (cf (fb hole))) nil) nil)))))) : Rdr (List AV × List Blk) _)
end
def F_earth_Declination_2 (f : (Int) → (Int) → (Int) → (Int) → (Int) → (Int) → (Int) → (Int) → (Int) → (Bool) → Option (Int × Bool)) : Sem1 := fun args h => match (QA_earth_Declination_2).rd (args, h) with
  | some b => .opt (f b.1.1.1 b.1.1.2.1 b.1.1.2.2.1 b.1.1.2.2.2.1 b.1.1.2.2.2.2.1 b.1.1.2.2.2.2.2.1 b.1.1.2.2.2.2.2.2.1 b.2.2.1.1 b.2.2.2.1.1 b.2.2.2.2.2.1.1) fun (d : Int × Bool) => .leaf (Res.mk (AV.r (RV.c (CV.f (FV.i IntKind.i64 d.1)))) [Ch.keep, Ch.keep, Ch.keep, Ch.keep, Ch.set [Sg.c (CV.f (FV.b d.2))]] [])
  | none => .fail
theorem d_earth_Declination_2 (g_earth_Declination_1 : Int → Int → Int → Int → Bool → Option (Int × Bool))  (x0 : Int) (x1 : Int) (x2 : Int) (x3 : Int) (x4 : Int) (x5 : Int) (x6 : Int) (x7 : Int) (x8 : Int) (x9 : Bool) : den Try.prog (envOf [(74, F_earth_Declination_1 g_earth_Declination_1)]) ⟨[], [], [], [], none⟩ 200 75 [.r (.agg [.c (.f (.i .i64 x0)), .c (.f (.i .i64 x1)), .c (.f (.i .i64 x2)), .c (.f (.i .i64 x3)), .c (.f (.i .i64 x4)), .c (.f (.i .i64 x5)), .c (.f (.i .i64 x6))]), .r (.c (.ptr 0 (.k 0) 1)), .r (.c (.ptr 1 (.k 0) 1)), .r (.c (.ptr 2 (.k 0) 1))] [[.c (.cl 74 3 (.k 0) 1)], [.c (.f (.i .i64 x7))], [.c (.f (.i .i64 x8))], [.c (.ptr 4 (.k 0) 1)], [.c (.f (.b x9))]] =
    K_earth_Declination_2 g_earth_Declination_1  x0 x1 x2 x3 x4 x5 x6 x7 x8 x9 (fun (d : Int × Bool) => some (Res.mk (AV.r (RV.c (CV.f (FV.i IntKind.i64 d.1)))) [Ch.keep, Ch.keep, Ch.keep, Ch.keep, Ch.set [Sg.c (CV.f (FV.b d.2))]] [])) := by kernel_rfl
theorem m_earth_Declination_2 {ρ σ : Type} (q : ρ → Option σ) (g_earth_Declination_1 : Int → Int → Int → Int → Bool → Option (Int × Bool))   (x0 : Int) (x1 : Int) (x2 : Int) (x3 : Int) (x4 : Int) (x5 : Int) (x6 : Int) (x7 : Int) (x8 : Int) (x9 : Bool) (k : (Int × Bool) → Option ρ) : (K_earth_Declination_2 g_earth_Declination_1  x0 x1 x2 x3 x4 x5 x6 x7 x8 x9 k).bind q = K_earth_Declination_2 g_earth_Declination_1  x0 x1 x2 x3 x4 x5 x6 x7 x8 x9 (fun d => (k d).bind q) := by
  simp only [K_earth_Declination_2, bnd_cond, bnd_bind, bnd_none, bnd_sum]
theorem qa_earth_Declination_2 : ∀ b, (QA_earth_Declination_2).em b = ([.r (.agg [.c (.f (.i .i64 b.1.1.1)), .c (.f (.i .i64 b.1.1.2.1)), .c (.f (.i .i64 b.1.1.2.2.1)), .c (.f (.i .i64 b.1.1.2.2.2.1)), .c (.f (.i .i64 b.1.1.2.2.2.2.1)), .c (.f (.i .i64 b.1.1.2.2.2.2.2.1)), .c (.f (.i .i64 b.1.1.2.2.2.2.2.2.1))]), .r (.c (.ptr 0 (.k 0) 1)), .r (.c (.ptr 1 (.k 0) 1)), .r (.c (.ptr 2 (.k 0) 1))], [[.c (.cl 74 3 (.k 0) 1)], [.c (.f (.i .i64 b.2.2.1.1))], [.c (.f (.i .i64 b.2.2.2.1.1))], [.c (.ptr 4 (.k 0) 1)], [.c (.f (.b b.2.2.2.2.2.1.1))]]) := fun b => by kernel_rfl
theorem e_earth_Declination_2 {f : (Int) → (Int) → (Int) → (Int) → (Int) → (Int) → (Int) → (Int) → (Int) → (Bool) → Option (Int × Bool)} {args : List AV} {h : List Blk} {r : Res} (hr : (F_earth_Declination_2 f args h).eval = some r) : ∃ x0 x1 x2 x3 x4 x5 x6 x7 x8 x9, args = [.r (.agg [.c (.f (.i .i64 x0)), .c (.f (.i .i64 x1)), .c (.f (.i .i64 x2)), .c (.f (.i .i64 x3)), .c (.f (.i .i64 x4)), .c (.f (.i .i64 x5)), .c (.f (.i .i64 x6))]), .r (.c (.ptr 0 (.k 0) 1)), .r (.c (.ptr 1 (.k 0) 1)), .r (.c (.ptr 2 (.k 0) 1))] ∧ h = [[.c (.cl 74 3 (.k 0) 1)], [.c (.f (.i .i64 x7))], [.c (.f (.i .i64 x8))], [.c (.ptr 4 (.k 0) 1)], [.c (.f (.b x9))]] ∧ (f x0 x1 x2 x3 x4 x5 x6 x7 x8 x9).bind (fun (d : Int × Bool) => some (Res.mk (AV.r (RV.c (CV.f (FV.i IntKind.i64 d.1)))) [Ch.keep, Ch.keep, Ch.keep, Ch.keep, Ch.set [Sg.c (CV.f (FV.b d.2))]] [])) = some r := by
  unfold F_earth_Declination_2 at hr
  split at hr
  · rename_i b hb
    have e := ((QA_earth_Declination_2).ok _ _ hb).trans (qa_earth_Declination_2 b)
    rw [opt_eval2] at hr
    exact ⟨b.1.1.1, b.1.1.2.1, b.1.1.2.2.1, b.1.1.2.2.2.1, b.1.1.2.2.2.2.1, b.1.1.2.2.2.2.2.1, b.1.1.2.2.2.2.2.2.1, b.2.2.1.1, b.2.2.2.1.1, b.2.2.2.2.2.1.1, (Prod.mk.inj e).1, (Prod.mk.inj e).2, hr⟩
  · cases hr
theorem n_earth_Declination_2 {σ : Type} (q : (Int × Bool) → Option σ) (x0 : Int) (x1 : Int) (x2 : Int) (x3 : Int) (x4 : Int) (x5 : Int) (x6 : Int) (x7 : Int) (x8 : Int) (x9 : Bool) : (f_earth_Declination_2 x0 x1 x2 x3 x4 x5 x6 x7 x8 x9).bind q = K_earth_Declination_2 f_earth_Declination_1  x0 x1 x2 x3 x4 x5 x6 x7 x8 x9 q := by
  unfold f_earth_Declination_2
  exact m_earth_Declination_2 q f_earth_Declination_1   x0 x1 x2 x3 x4 x5 x6 x7 x8 x9 some
theorem s_earth_Declination_2 : Sound Try.prog 75 (F_earth_Declination_2 f_earth_Declination_2) :=
  (inl_sound (l := [(74, F_earth_Declination_1 f_earth_Declination_1)]) (.cons s_earth_Declination_1 (.nil _)) mixed [] [] 200 (by kernel_rfl)).by (F := F_earth_Declination_2 f_earth_Declination_2) fun args b r hr => by
  obtain ⟨x0, x1, x2, x3, x4, x5, x6, x7, x8, x9, rfl, rfl, hr1⟩ := e_earth_Declination_2 hr
  exact inl_eval ((d_earth_Declination_2 f_earth_Declination_1  x0 x1 x2 x3 x4 x5 x6 x7 x8 x9).trans ((n_earth_Declination_2 (fun (d : Int × Bool) => some (Res.mk (AV.r (RV.c (CV.f (FV.i IntKind.i64 d.1)))) [Ch.keep, Ch.keep, Ch.keep, Ch.keep, Ch.set [Sg.c (CV.f (FV.b d.2))]] [])) x0 x1 x2 x3 x4 x5 x6 x7 x8 x9).symm.trans hr1))

def K_earth_Declination {ρ : Type} (g_earth_Good : Int → Int → Int → Option Bool) (g_earth_hundredths : Option Unit) (g_earth_Declination_1 : Int → Int → Int → Int → Bool → Option (Int × Bool)) (g_earth_Declination_2 : Int → Int → Int → Int → Int → Int → Int → Int → Int → Bool → Option (Int × Bool)) (g___fx_Acc__MulDiv : Int → Int → Int → Bool → Option (Int × Bool))  (x0 : Int) (x1 : Int) (x2 : Int) (x3 : Bool) (k : (Int × Int × Bool) → Option ρ) : Option ρ :=
  Option.bind (g_earth_Good x0 x1 x2) fun (d : Bool) =>
    bif !d then k (0, 1, x3)
    else
      Option.bind g_earth_hundredths fun (d : Unit) =>
        bif
            inR
              (if 3 < IntKind.wrap IntKind.i64 (Int.tdiv (IntKind.wrap IntKind.i64 (x0 + 900000000)) 450000000) then 3
              else IntKind.wrap IntKind.i64 (Int.tdiv (IntKind.wrap IntKind.i64 (x0 + 900000000)) 450000000))
              5 then
          bif
              (if 3 < IntKind.wrap IntKind.i64 (Int.tdiv (IntKind.wrap IntKind.i64 (x0 + 900000000)) 450000000) then 3
                else IntKind.wrap IntKind.i64 (Int.tdiv (IntKind.wrap IntKind.i64 (x0 + 900000000)) 450000000)) ==
                4 then
            Option.bind
              (g_earth_Declination_2 1000 4000 (-3000) 500 3500 (-1200) 1000
                (if 5 < IntKind.wrap IntKind.i64 (Int.tdiv (IntKind.wrap IntKind.i64 (x1 + 1800000000)) 600000000) then 5
                else IntKind.wrap IntKind.i64 (Int.tdiv (IntKind.wrap IntKind.i64 (x1 + 1800000000)) 600000000))
                (IntKind.wrap IntKind.i64
                  (IntKind.wrap IntKind.i64 (x1 + 1800000000) -
                    IntKind.wrap IntKind.i64
                      ((if 5 < IntKind.wrap IntKind.i64 (Int.tdiv (IntKind.wrap IntKind.i64 (x1 + 1800000000)) 600000000) then 5
                        else IntKind.wrap IntKind.i64 (Int.tdiv (IntKind.wrap IntKind.i64 (x1 + 1800000000)) 600000000)) *
                        600000000)))
                x3)
              fun (d : Int × Bool) =>
              bif
                  inR
                    (IntKind.wrap IntKind.i64
                      ((if 3 < IntKind.wrap IntKind.i64 (Int.tdiv (IntKind.wrap IntKind.i64 (x0 + 900000000)) 450000000) then 3
                        else IntKind.wrap IntKind.i64 (Int.tdiv (IntKind.wrap IntKind.i64 (x0 + 900000000)) 450000000)) +
                        1))
                    5 then
                bif
                    IntKind.wrap IntKind.i64
                        ((if 3 < IntKind.wrap IntKind.i64 (Int.tdiv (IntKind.wrap IntKind.i64 (x0 + 900000000)) 450000000) then 3
                          else IntKind.wrap IntKind.i64 (Int.tdiv (IntKind.wrap IntKind.i64 (x0 + 900000000)) 450000000)) +
                          1) ==
                      4 then
                  Option.bind
                    (g_earth_Declination_2 1000 4000 (-3000) 500 3500 (-1200) 1000
                      (if 5 < IntKind.wrap IntKind.i64 (Int.tdiv (IntKind.wrap IntKind.i64 (x1 + 1800000000)) 600000000) then 5
                      else IntKind.wrap IntKind.i64 (Int.tdiv (IntKind.wrap IntKind.i64 (x1 + 1800000000)) 600000000))
                      (IntKind.wrap IntKind.i64
                        (IntKind.wrap IntKind.i64 (x1 + 1800000000) -
                          IntKind.wrap IntKind.i64
                            ((if 5 < IntKind.wrap IntKind.i64 (Int.tdiv (IntKind.wrap IntKind.i64 (x1 + 1800000000)) 600000000) then 5
                              else IntKind.wrap IntKind.i64 (Int.tdiv (IntKind.wrap IntKind.i64 (x1 + 1800000000)) 600000000)) *
                              600000000)))
                      d.2)
                    fun (d_1 : Int × Bool) =>
                    Option.bind
                      (g_earth_Declination_1 d.1 d_1.1
                        (IntKind.wrap IntKind.i64
                          (IntKind.wrap IntKind.i64 (x0 + 900000000) -
                            IntKind.wrap IntKind.i64
                              ((if 3 < IntKind.wrap IntKind.i64 (Int.tdiv (IntKind.wrap IntKind.i64 (x0 + 900000000)) 450000000) then 3
                                else IntKind.wrap IntKind.i64 (Int.tdiv (IntKind.wrap IntKind.i64 (x0 + 900000000)) 450000000)) *
                                450000000)))
                        450000000 d_1.2)
                      fun (d : Int × Bool) => Option.bind (g___fx_Acc__MulDiv d.1 3373259426 19327352832000 d.2) fun (d : Int × Bool) => k (d.1, 0, d.2)
                else
                  bif
                      IntKind.wrap IntKind.i64
                          ((if 3 < IntKind.wrap IntKind.i64 (Int.tdiv (IntKind.wrap IntKind.i64 (x0 + 900000000)) 450000000) then 3
                            else IntKind.wrap IntKind.i64 (Int.tdiv (IntKind.wrap IntKind.i64 (x0 + 900000000)) 450000000)) +
                            1) ==
                        3 then
                    Option.bind
                      (g_earth_Declination_2 500 1500 (-1700) 100 700 (-800) 500
                        (if 5 < IntKind.wrap IntKind.i64 (Int.tdiv (IntKind.wrap IntKind.i64 (x1 + 1800000000)) 600000000) then 5
                        else IntKind.wrap IntKind.i64 (Int.tdiv (IntKind.wrap IntKind.i64 (x1 + 1800000000)) 600000000))
                        (IntKind.wrap IntKind.i64
                          (IntKind.wrap IntKind.i64 (x1 + 1800000000) -
                            IntKind.wrap IntKind.i64
                              ((if 5 < IntKind.wrap IntKind.i64 (Int.tdiv (IntKind.wrap IntKind.i64 (x1 + 1800000000)) 600000000) then 5
                                else IntKind.wrap IntKind.i64 (Int.tdiv (IntKind.wrap IntKind.i64 (x1 + 1800000000)) 600000000)) *
                                600000000)))
                        d.2)
                      fun (d_1 : Int × Bool) =>
                      Option.bind
                        (g_earth_Declination_1 d.1 d_1.1
                          (IntKind.wrap IntKind.i64
                            (IntKind.wrap IntKind.i64 (x0 + 900000000) -
                              IntKind.wrap IntKind.i64
                                ((if 3 < IntKind.wrap IntKind.i64 (Int.tdiv (IntKind.wrap IntKind.i64 (x0 + 900000000)) 450000000) then 3
                                  else IntKind.wrap IntKind.i64 (Int.tdiv (IntKind.wrap IntKind.i64 (x0 + 900000000)) 450000000)) *
                                  450000000)))
                          450000000 d_1.2)
                        fun (d : Int × Bool) => Option.bind (g___fx_Acc__MulDiv d.1 3373259426 19327352832000 d.2) fun (d : Int × Bool) => k (d.1, 0, d.2)
                  else
                    bif
                        IntKind.wrap IntKind.i64
                            ((if 3 < IntKind.wrap IntKind.i64 (Int.tdiv (IntKind.wrap IntKind.i64 (x0 + 900000000)) 450000000) then 3
                              else IntKind.wrap IntKind.i64 (Int.tdiv (IntKind.wrap IntKind.i64 (x0 + 900000000)) 450000000)) +
                              1) ==
                          2 then
                      Option.bind
                        (g_earth_Declination_2 950 900 (-1400) (-500) (-300) 100 950
                          (if 5 < IntKind.wrap IntKind.i64 (Int.tdiv (IntKind.wrap IntKind.i64 (x1 + 1800000000)) 600000000) then 5
                          else IntKind.wrap IntKind.i64 (Int.tdiv (IntKind.wrap IntKind.i64 (x1 + 1800000000)) 600000000))
                          (IntKind.wrap IntKind.i64
                            (IntKind.wrap IntKind.i64 (x1 + 1800000000) -
                              IntKind.wrap IntKind.i64
                                ((if 5 < IntKind.wrap IntKind.i64 (Int.tdiv (IntKind.wrap IntKind.i64 (x1 + 1800000000)) 600000000) then 5
                                  else IntKind.wrap IntKind.i64 (Int.tdiv (IntKind.wrap IntKind.i64 (x1 + 1800000000)) 600000000)) *
                                  600000000)))
                          d.2)
                        fun (d_1 : Int × Bool) =>
                        Option.bind
                          (g_earth_Declination_1 d.1 d_1.1
                            (IntKind.wrap IntKind.i64
                              (IntKind.wrap IntKind.i64 (x0 + 900000000) -
                                IntKind.wrap IntKind.i64
                                  ((if 3 < IntKind.wrap IntKind.i64 (Int.tdiv (IntKind.wrap IntKind.i64 (x0 + 900000000)) 450000000) then 3
                                    else IntKind.wrap IntKind.i64 (Int.tdiv (IntKind.wrap IntKind.i64 (x0 + 900000000)) 450000000)) *
                                    450000000)))
                            450000000 d_1.2)
                          fun (d : Int × Bool) => Option.bind (g___fx_Acc__MulDiv d.1 3373259426 19327352832000 d.2) fun (d : Int × Bool) => k (d.1, 0, d.2)
                    else
                      bif
                          IntKind.wrap IntKind.i64
                              ((if 3 < IntKind.wrap IntKind.i64 (Int.tdiv (IntKind.wrap IntKind.i64 (x0 + 900000000)) 450000000) then 3
                                else IntKind.wrap IntKind.i64 (Int.tdiv (IntKind.wrap IntKind.i64 (x0 + 900000000)) 450000000)) +
                                1) ==
                            1 then
                        Option.bind
                          (g_earth_Declination_2 2200 2500 500 (-2200) (-3800) 0 2200
                            (if 5 < IntKind.wrap IntKind.i64 (Int.tdiv (IntKind.wrap IntKind.i64 (x1 + 1800000000)) 600000000) then 5
                            else IntKind.wrap IntKind.i64 (Int.tdiv (IntKind.wrap IntKind.i64 (x1 + 1800000000)) 600000000))
                            (IntKind.wrap IntKind.i64
                              (IntKind.wrap IntKind.i64 (x1 + 1800000000) -
                                IntKind.wrap IntKind.i64
                                  ((if 5 < IntKind.wrap IntKind.i64 (Int.tdiv (IntKind.wrap IntKind.i64 (x1 + 1800000000)) 600000000) then 5
                                    else IntKind.wrap IntKind.i64 (Int.tdiv (IntKind.wrap IntKind.i64 (x1 + 1800000000)) 600000000)) *
                                    600000000)))
                            d.2)
                          fun (d_1 : Int × Bool) =>
                          Option.bind
                            (g_earth_Declination_1 d.1 d_1.1
                              (IntKind.wrap IntKind.i64
                                (IntKind.wrap IntKind.i64 (x0 + 900000000) -
                                  IntKind.wrap IntKind.i64
                                    ((if 3 < IntKind.wrap IntKind.i64 (Int.tdiv (IntKind.wrap IntKind.i64 (x0 + 900000000)) 450000000) then 3
                                      else IntKind.wrap IntKind.i64 (Int.tdiv (IntKind.wrap IntKind.i64 (x0 + 900000000)) 450000000)) *
                                      450000000)))
                              450000000 d_1.2)
                            fun (d : Int × Bool) => Option.bind (g___fx_Acc__MulDiv d.1 3373259426 19327352832000 d.2) fun (d : Int × Bool) => k (d.1, 0, d.2)
                      else
                        Option.bind
                          (g_earth_Declination_2 3000 6000 (-2000) (-1500) (-6000) (-9000) 3000
                            (if 5 < IntKind.wrap IntKind.i64 (Int.tdiv (IntKind.wrap IntKind.i64 (x1 + 1800000000)) 600000000) then 5
                            else IntKind.wrap IntKind.i64 (Int.tdiv (IntKind.wrap IntKind.i64 (x1 + 1800000000)) 600000000))
                            (IntKind.wrap IntKind.i64
                              (IntKind.wrap IntKind.i64 (x1 + 1800000000) -
                                IntKind.wrap IntKind.i64
                                  ((if 5 < IntKind.wrap IntKind.i64 (Int.tdiv (IntKind.wrap IntKind.i64 (x1 + 1800000000)) 600000000) then 5
                                    else IntKind.wrap IntKind.i64 (Int.tdiv (IntKind.wrap IntKind.i64 (x1 + 1800000000)) 600000000)) *
                                    600000000)))
                            d.2)
                          fun (d_1 : Int × Bool) =>
                          Option.bind
                            (g_earth_Declination_1 d.1 d_1.1
                              (IntKind.wrap IntKind.i64
                                (IntKind.wrap IntKind.i64 (x0 + 900000000) -
                                  IntKind.wrap IntKind.i64
                                    ((if 3 < IntKind.wrap IntKind.i64 (Int.tdiv (IntKind.wrap IntKind.i64 (x0 + 900000000)) 450000000) then 3
                                      else IntKind.wrap IntKind.i64 (Int.tdiv (IntKind.wrap IntKind.i64 (x0 + 900000000)) 450000000)) *
                                      450000000)))
                              450000000 d_1.2)
                            fun (d : Int × Bool) => Option.bind (g___fx_Acc__MulDiv d.1 3373259426 19327352832000 d.2) fun (d : Int × Bool) => k (d.1, 0, d.2)
              else none
          else
            bif
                (if 3 < IntKind.wrap IntKind.i64 (Int.tdiv (IntKind.wrap IntKind.i64 (x0 + 900000000)) 450000000) then 3
                  else IntKind.wrap IntKind.i64 (Int.tdiv (IntKind.wrap IntKind.i64 (x0 + 900000000)) 450000000)) ==
                  3 then
              Option.bind
                (g_earth_Declination_2 500 1500 (-1700) 100 700 (-800) 500
                  (if 5 < IntKind.wrap IntKind.i64 (Int.tdiv (IntKind.wrap IntKind.i64 (x1 + 1800000000)) 600000000) then 5
                  else IntKind.wrap IntKind.i64 (Int.tdiv (IntKind.wrap IntKind.i64 (x1 + 1800000000)) 600000000))
                  (IntKind.wrap IntKind.i64
                    (IntKind.wrap IntKind.i64 (x1 + 1800000000) -
                      IntKind.wrap IntKind.i64
                        ((if 5 < IntKind.wrap IntKind.i64 (Int.tdiv (IntKind.wrap IntKind.i64 (x1 + 1800000000)) 600000000) then 5
                          else IntKind.wrap IntKind.i64 (Int.tdiv (IntKind.wrap IntKind.i64 (x1 + 1800000000)) 600000000)) *
                          600000000)))
                  x3)
                fun (d : Int × Bool) =>
                bif
                    inR
                      (IntKind.wrap IntKind.i64
                        ((if 3 < IntKind.wrap IntKind.i64 (Int.tdiv (IntKind.wrap IntKind.i64 (x0 + 900000000)) 450000000) then 3
                          else IntKind.wrap IntKind.i64 (Int.tdiv (IntKind.wrap IntKind.i64 (x0 + 900000000)) 450000000)) +
                          1))
                      5 then
                  bif
                      IntKind.wrap IntKind.i64
                          ((if 3 < IntKind.wrap IntKind.i64 (Int.tdiv (IntKind.wrap IntKind.i64 (x0 + 900000000)) 450000000) then 3
                            else IntKind.wrap IntKind.i64 (Int.tdiv (IntKind.wrap IntKind.i64 (x0 + 900000000)) 450000000)) +
                            1) ==
                        4 then
                    Option.bind
                      (g_earth_Declination_2 1000 4000 (-3000) 500 3500 (-1200) 1000
                        (if 5 < IntKind.wrap IntKind.i64 (Int.tdiv (IntKind.wrap IntKind.i64 (x1 + 1800000000)) 600000000) then 5
                        else IntKind.wrap IntKind.i64 (Int.tdiv (IntKind.wrap IntKind.i64 (x1 + 1800000000)) 600000000))
                        (IntKind.wrap IntKind.i64
                          (IntKind.wrap IntKind.i64 (x1 + 1800000000) -
                            IntKind.wrap IntKind.i64
                              ((if 5 < IntKind.wrap IntKind.i64 (Int.tdiv (IntKind.wrap IntKind.i64 (x1 + 1800000000)) 600000000) then 5
                                else IntKind.wrap IntKind.i64 (Int.tdiv (IntKind.wrap IntKind.i64 (x1 + 1800000000)) 600000000)) *
                                600000000)))
                        d.2)
                      fun (d_1 : Int × Bool) =>
                      Option.bind
                        (g_earth_Declination_1 d.1 d_1.1
                          (IntKind.wrap IntKind.i64
                            (IntKind.wrap IntKind.i64 (x0 + 900000000) -
                              IntKind.wrap IntKind.i64
                                ((if 3 < IntKind.wrap IntKind.i64 (Int.tdiv (IntKind.wrap IntKind.i64 (x0 + 900000000)) 450000000) then 3
                                  else IntKind.wrap IntKind.i64 (Int.tdiv (IntKind.wrap IntKind.i64 (x0 + 900000000)) 450000000)) *
                                  450000000)))
                          450000000 d_1.2)
                        fun (d : Int × Bool) => Option.bind (g___fx_Acc__MulDiv d.1 3373259426 19327352832000 d.2) fun (d : Int × Bool) => k (d.1, 0, d.2)
                  else
                    bif
                        IntKind.wrap IntKind.i64
                            ((if 3 < IntKind.wrap IntKind.i64 (Int.tdiv (IntKind.wrap IntKind.i64 (x0 + 900000000)) 450000000) then 3
                              else IntKind.wrap IntKind.i64 (Int.tdiv (IntKind.wrap IntKind.i64 (x0 + 900000000)) 450000000)) +
                              1) ==
                          3 then
                      Option.bind
                        (g_earth_Declination_2 500 1500 (-1700) 100 700 (-800) 500
                          (if 5 < IntKind.wrap IntKind.i64 (Int.tdiv (IntKind.wrap IntKind.i64 (x1 + 1800000000)) 600000000) then 5
                          else IntKind.wrap IntKind.i64 (Int.tdiv (IntKind.wrap IntKind.i64 (x1 + 1800000000)) 600000000))
                          (IntKind.wrap IntKind.i64
                            (IntKind.wrap IntKind.i64 (x1 + 1800000000) -
                              IntKind.wrap IntKind.i64
                                ((if 5 < IntKind.wrap IntKind.i64 (Int.tdiv (IntKind.wrap IntKind.i64 (x1 + 1800000000)) 600000000) then 5
                                  else IntKind.wrap IntKind.i64 (Int.tdiv (IntKind.wrap IntKind.i64 (x1 + 1800000000)) 600000000)) *
                                  600000000)))
                          d.2)
                        fun (d_1 : Int × Bool) =>
                        Option.bind
                          (g_earth_Declination_1 d.1 d_1.1
                            (IntKind.wrap IntKind.i64
                              (IntKind.wrap IntKind.i64 (x0 + 900000000) -
                                IntKind.wrap IntKind.i64
                                  ((if 3 < IntKind.wrap IntKind.i64 (Int.tdiv (IntKind.wrap IntKind.i64 (x0 + 900000000)) 450000000) then 3
                                    else IntKind.wrap IntKind.i64 (Int.tdiv (IntKind.wrap IntKind.i64 (x0 + 900000000)) 450000000)) *
                                    450000000)))
                            450000000 d_1.2)
                          fun (d : Int × Bool) => Option.bind (g___fx_Acc__MulDiv d.1 3373259426 19327352832000 d.2) fun (d : Int × Bool) => k (d.1, 0, d.2)
                    else
                      bif
                          IntKind.wrap IntKind.i64
                              ((if 3 < IntKind.wrap IntKind.i64 (Int.tdiv (IntKind.wrap IntKind.i64 (x0 + 900000000)) 450000000) then 3
                                else IntKind.wrap IntKind.i64 (Int.tdiv (IntKind.wrap IntKind.i64 (x0 + 900000000)) 450000000)) +
                                1) ==
                            2 then
                        Option.bind
                          (g_earth_Declination_2 950 900 (-1400) (-500) (-300) 100 950
                            (if 5 < IntKind.wrap IntKind.i64 (Int.tdiv (IntKind.wrap IntKind.i64 (x1 + 1800000000)) 600000000) then 5
                            else IntKind.wrap IntKind.i64 (Int.tdiv (IntKind.wrap IntKind.i64 (x1 + 1800000000)) 600000000))
                            (IntKind.wrap IntKind.i64
                              (IntKind.wrap IntKind.i64 (x1 + 1800000000) -
                                IntKind.wrap IntKind.i64
                                  ((if 5 < IntKind.wrap IntKind.i64 (Int.tdiv (IntKind.wrap IntKind.i64 (x1 + 1800000000)) 600000000) then 5
                                    else IntKind.wrap IntKind.i64 (Int.tdiv (IntKind.wrap IntKind.i64 (x1 + 1800000000)) 600000000)) *
                                    600000000)))
                            d.2)
                          fun (d_1 : Int × Bool) =>
                          Option.bind
                            (g_earth_Declination_1 d.1 d_1.1
                              (IntKind.wrap IntKind.i64
                                (IntKind.wrap IntKind.i64 (x0 + 900000000) -
                                  IntKind.wrap IntKind.i64
                                    ((if 3 < IntKind.wrap IntKind.i64 (Int.tdiv (IntKind.wrap IntKind.i64 (x0 + 900000000)) 450000000) then 3
                                      else IntKind.wrap IntKind.i64 (Int.tdiv (IntKind.wrap IntKind.i64 (x0 + 900000000)) 450000000)) *
                                      450000000)))
                              450000000 d_1.2)
                            fun (d : Int × Bool) => Option.bind (g___fx_Acc__MulDiv d.1 3373259426 19327352832000 d.2) fun (d : Int × Bool) => k (d.1, 0, d.2)
                      else
                        bif
                            IntKind.wrap IntKind.i64
                                ((if 3 < IntKind.wrap IntKind.i64 (Int.tdiv (IntKind.wrap IntKind.i64 (x0 + 900000000)) 450000000) then 3
                                  else IntKind.wrap IntKind.i64 (Int.tdiv (IntKind.wrap IntKind.i64 (x0 + 900000000)) 450000000)) +
                                  1) ==
                              1 then
                          Option.bind
                            (g_earth_Declination_2 2200 2500 500 (-2200) (-3800) 0 2200
                              (if 5 < IntKind.wrap IntKind.i64 (Int.tdiv (IntKind.wrap IntKind.i64 (x1 + 1800000000)) 600000000) then 5
                              else IntKind.wrap IntKind.i64 (Int.tdiv (IntKind.wrap IntKind.i64 (x1 + 1800000000)) 600000000))
                              (IntKind.wrap IntKind.i64
                                (IntKind.wrap IntKind.i64 (x1 + 1800000000) -
                                  IntKind.wrap IntKind.i64
                                    ((if 5 < IntKind.wrap IntKind.i64 (Int.tdiv (IntKind.wrap IntKind.i64 (x1 + 1800000000)) 600000000) then 5
                                      else IntKind.wrap IntKind.i64 (Int.tdiv (IntKind.wrap IntKind.i64 (x1 + 1800000000)) 600000000)) *
                                      600000000)))
                              d.2)
                            fun (d_1 : Int × Bool) =>
                            Option.bind
                              (g_earth_Declination_1 d.1 d_1.1
                                (IntKind.wrap IntKind.i64
                                  (IntKind.wrap IntKind.i64 (x0 + 900000000) -
                                    IntKind.wrap IntKind.i64
                                      ((if 3 < IntKind.wrap IntKind.i64 (Int.tdiv (IntKind.wrap IntKind.i64 (x0 + 900000000)) 450000000) then 3
                                        else IntKind.wrap IntKind.i64 (Int.tdiv (IntKind.wrap IntKind.i64 (x0 + 900000000)) 450000000)) *
                                        450000000)))
                                450000000 d_1.2)
                              fun (d : Int × Bool) => Option.bind (g___fx_Acc__MulDiv d.1 3373259426 19327352832000 d.2) fun (d : Int × Bool) => k (d.1, 0, d.2)
                        else
                          Option.bind
                            (g_earth_Declination_2 3000 6000 (-2000) (-1500) (-6000) (-9000) 3000
                              (if 5 < IntKind.wrap IntKind.i64 (Int.tdiv (IntKind.wrap IntKind.i64 (x1 + 1800000000)) 600000000) then 5
                              else IntKind.wrap IntKind.i64 (Int.tdiv (IntKind.wrap IntKind.i64 (x1 + 1800000000)) 600000000))
                              (IntKind.wrap IntKind.i64
                                (IntKind.wrap IntKind.i64 (x1 + 1800000000) -
                                  IntKind.wrap IntKind.i64
                                    ((if 5 < IntKind.wrap IntKind.i64 (Int.tdiv (IntKind.wrap IntKind.i64 (x1 + 1800000000)) 600000000) then 5
                                      else IntKind.wrap IntKind.i64 (Int.tdiv (IntKind.wrap IntKind.i64 (x1 + 1800000000)) 600000000)) *
                                      600000000)))
                              d.2)
                            fun (d_1 : Int × Bool) =>
                            Option.bind
                              (g_earth_Declination_1 d.1 d_1.1
                                (IntKind.wrap IntKind.i64
                                  (IntKind.wrap IntKind.i64 (x0 + 900000000) -
                                    IntKind.wrap IntKind.i64
                                      ((if 3 < IntKind.wrap IntKind.i64 (Int.tdiv (IntKind.wrap IntKind.i64 (x0 + 900000000)) 450000000) then 3
                                        else IntKind.wrap IntKind.i64 (Int.tdiv (IntKind.wrap IntKind.i64 (x0 + 900000000)) 450000000)) *
                                        450000000)))
                                450000000 d_1.2)
                              fun (d : Int × Bool) => Option.bind (g___fx_Acc__MulDiv d.1 3373259426 19327352832000 d.2) fun (d : Int × Bool) => k (d.1, 0, d.2)
                else none
            else
              bif
                  (if 3 < IntKind.wrap IntKind.i64 (Int.tdiv (IntKind.wrap IntKind.i64 (x0 + 900000000)) 450000000) then 3
                    else IntKind.wrap IntKind.i64 (Int.tdiv (IntKind.wrap IntKind.i64 (x0 + 900000000)) 450000000)) ==
                    2 then
                Option.bind
                  (g_earth_Declination_2 950 900 (-1400) (-500) (-300) 100 950
                    (if 5 < IntKind.wrap IntKind.i64 (Int.tdiv (IntKind.wrap IntKind.i64 (x1 + 1800000000)) 600000000) then 5
                    else IntKind.wrap IntKind.i64 (Int.tdiv (IntKind.wrap IntKind.i64 (x1 + 1800000000)) 600000000))
                    (IntKind.wrap IntKind.i64
                      (IntKind.wrap IntKind.i64 (x1 + 1800000000) -
                        IntKind.wrap IntKind.i64
                          ((if 5 < IntKind.wrap IntKind.i64 (Int.tdiv (IntKind.wrap IntKind.i64 (x1 + 1800000000)) 600000000) then 5
                            else IntKind.wrap IntKind.i64 (Int.tdiv (IntKind.wrap IntKind.i64 (x1 + 1800000000)) 600000000)) *
                            600000000)))
                    x3)
                  fun (d : Int × Bool) =>
                  bif
                      inR
                        (IntKind.wrap IntKind.i64
                          ((if 3 < IntKind.wrap IntKind.i64 (Int.tdiv (IntKind.wrap IntKind.i64 (x0 + 900000000)) 450000000) then 3
                            else IntKind.wrap IntKind.i64 (Int.tdiv (IntKind.wrap IntKind.i64 (x0 + 900000000)) 450000000)) +
                            1))
                        5 then
                    bif
                        IntKind.wrap IntKind.i64
                            ((if 3 < IntKind.wrap IntKind.i64 (Int.tdiv (IntKind.wrap IntKind.i64 (x0 + 900000000)) 450000000) then 3
                              else IntKind.wrap IntKind.i64 (Int.tdiv (IntKind.wrap IntKind.i64 (x0 + 900000000)) 450000000)) +
                              1) ==
                          4 then
                      Option.bind
                        (g_earth_Declination_2 1000 4000 (-3000) 500 3500 (-1200) 1000
                          (if 5 < IntKind.wrap IntKind.i64 (Int.tdiv (IntKind.wrap IntKind.i64 (x1 + 1800000000)) 600000000) then 5
                          else IntKind.wrap IntKind.i64 (Int.tdiv (IntKind.wrap IntKind.i64 (x1 + 1800000000)) 600000000))
                          (IntKind.wrap IntKind.i64
                            (IntKind.wrap IntKind.i64 (x1 + 1800000000) -
                              IntKind.wrap IntKind.i64
                                ((if 5 < IntKind.wrap IntKind.i64 (Int.tdiv (IntKind.wrap IntKind.i64 (x1 + 1800000000)) 600000000) then 5
                                  else IntKind.wrap IntKind.i64 (Int.tdiv (IntKind.wrap IntKind.i64 (x1 + 1800000000)) 600000000)) *
                                  600000000)))
                          d.2)
                        fun (d_1 : Int × Bool) =>
                        Option.bind
                          (g_earth_Declination_1 d.1 d_1.1
                            (IntKind.wrap IntKind.i64
                              (IntKind.wrap IntKind.i64 (x0 + 900000000) -
                                IntKind.wrap IntKind.i64
                                  ((if 3 < IntKind.wrap IntKind.i64 (Int.tdiv (IntKind.wrap IntKind.i64 (x0 + 900000000)) 450000000) then 3
                                    else IntKind.wrap IntKind.i64 (Int.tdiv (IntKind.wrap IntKind.i64 (x0 + 900000000)) 450000000)) *
                                    450000000)))
                            450000000 d_1.2)
                          fun (d : Int × Bool) => Option.bind (g___fx_Acc__MulDiv d.1 3373259426 19327352832000 d.2) fun (d : Int × Bool) => k (d.1, 0, d.2)
                    else
                      bif
                          IntKind.wrap IntKind.i64
                              ((if 3 < IntKind.wrap IntKind.i64 (Int.tdiv (IntKind.wrap IntKind.i64 (x0 + 900000000)) 450000000) then 3
                                else IntKind.wrap IntKind.i64 (Int.tdiv (IntKind.wrap IntKind.i64 (x0 + 900000000)) 450000000)) +
                                1) ==
                            3 then
                        Option.bind
                          (g_earth_Declination_2 500 1500 (-1700) 100 700 (-800) 500
                            (if 5 < IntKind.wrap IntKind.i64 (Int.tdiv (IntKind.wrap IntKind.i64 (x1 + 1800000000)) 600000000) then 5
                            else IntKind.wrap IntKind.i64 (Int.tdiv (IntKind.wrap IntKind.i64 (x1 + 1800000000)) 600000000))
                            (IntKind.wrap IntKind.i64
                              (IntKind.wrap IntKind.i64 (x1 + 1800000000) -
                                IntKind.wrap IntKind.i64
                                  ((if 5 < IntKind.wrap IntKind.i64 (Int.tdiv (IntKind.wrap IntKind.i64 (x1 + 1800000000)) 600000000) then 5
                                    else IntKind.wrap IntKind.i64 (Int.tdiv (IntKind.wrap IntKind.i64 (x1 + 1800000000)) 600000000)) *
                                    600000000)))
                            d.2)
                          fun (d_1 : Int × Bool) =>
                          Option.bind
                            (g_earth_Declination_1 d.1 d_1.1
                              (IntKind.wrap IntKind.i64
                                (IntKind.wrap IntKind.i64 (x0 + 900000000) -
                                  IntKind.wrap IntKind.i64
                                    ((if 3 < IntKind.wrap IntKind.i64 (Int.tdiv (IntKind.wrap IntKind.i64 (x0 + 900000000)) 450000000) then 3
                                      else IntKind.wrap IntKind.i64 (Int.tdiv (IntKind.wrap IntKind.i64 (x0 + 900000000)) 450000000)) *
                                      450000000)))
                              450000000 d_1.2)
                            fun (d : Int × Bool) => Option.bind (g___fx_Acc__MulDiv d.1 3373259426 19327352832000 d.2) fun (d : Int × Bool) => k (d.1, 0, d.2)
                      else
                        bif
                            IntKind.wrap IntKind.i64
                                ((if 3 < IntKind.wrap IntKind.i64 (Int.tdiv (IntKind.wrap IntKind.i64 (x0 + 900000000)) 450000000) then 3
                                  else IntKind.wrap IntKind.i64 (Int.tdiv (IntKind.wrap IntKind.i64 (x0 + 900000000)) 450000000)) +
                                  1) ==
                              2 then
                          Option.bind
                            (g_earth_Declination_2 950 900 (-1400) (-500) (-300) 100 950
                              (if 5 < IntKind.wrap IntKind.i64 (Int.tdiv (IntKind.wrap IntKind.i64 (x1 + 1800000000)) 600000000) then 5
                              else IntKind.wrap IntKind.i64 (Int.tdiv (IntKind.wrap IntKind.i64 (x1 + 1800000000)) 600000000))
                              (IntKind.wrap IntKind.i64
                                (IntKind.wrap IntKind.i64 (x1 + 1800000000) -
                                  IntKind.wrap IntKind.i64
                                    ((if 5 < IntKind.wrap IntKind.i64 (Int.tdiv (IntKind.wrap IntKind.i64 (x1 + 1800000000)) 600000000) then 5
                                      else IntKind.wrap IntKind.i64 (Int.tdiv (IntKind.wrap IntKind.i64 (x1 + 1800000000)) 600000000)) *
                                      600000000)))
                              d.2)
                            fun (d_1 : Int × Bool) =>
                            Option.bind
                              (g_earth_Declination_1 d.1 d_1.1
                                (IntKind.wrap IntKind.i64
                                  (IntKind.wrap IntKind.i64 (x0 + 900000000) -
                                    IntKind.wrap IntKind.i64
                                      ((if 3 < IntKind.wrap IntKind.i64 (Int.tdiv (IntKind.wrap IntKind.i64 (x0 + 900000000)) 450000000) then 3
                                        else IntKind.wrap IntKind.i64 (Int.tdiv (IntKind.wrap IntKind.i64 (x0 + 900000000)) 450000000)) *
                                        450000000)))
                                450000000 d_1.2)
                              fun (d : Int × Bool) => Option.bind (g___fx_Acc__MulDiv d.1 3373259426 19327352832000 d.2) fun (d : Int × Bool) => k (d.1, 0, d.2)
                        else
                          bif
                              IntKind.wrap IntKind.i64
                                  ((if 3 < IntKind.wrap IntKind.i64 (Int.tdiv (IntKind.wrap IntKind.i64 (x0 + 900000000)) 450000000) then 3
                                    else IntKind.wrap IntKind.i64 (Int.tdiv (IntKind.wrap IntKind.i64 (x0 + 900000000)) 450000000)) +
                                    1) ==
                                1 then
                            Option.bind
                              (g_earth_Declination_2 2200 2500 500 (-2200) (-3800) 0 2200
                                (if 5 < IntKind.wrap IntKind.i64 (Int.tdiv (IntKind.wrap IntKind.i64 (x1 + 1800000000)) 600000000) then 5
                                else IntKind.wrap IntKind.i64 (Int.tdiv (IntKind.wrap IntKind.i64 (x1 + 1800000000)) 600000000))
                                (IntKind.wrap IntKind.i64
                                  (IntKind.wrap IntKind.i64 (x1 + 1800000000) -
                                    IntKind.wrap IntKind.i64
                                      ((if 5 < IntKind.wrap IntKind.i64 (Int.tdiv (IntKind.wrap IntKind.i64 (x1 + 1800000000)) 600000000) then 5
                                        else IntKind.wrap IntKind.i64 (Int.tdiv (IntKind.wrap IntKind.i64 (x1 + 1800000000)) 600000000)) *
                                        600000000)))
                                d.2)
                              fun (d_1 : Int × Bool) =>
                              Option.bind
                                (g_earth_Declination_1 d.1 d_1.1
                                  (IntKind.wrap IntKind.i64
                                    (IntKind.wrap IntKind.i64 (x0 + 900000000) -
                                      IntKind.wrap IntKind.i64
                                        ((if 3 < IntKind.wrap IntKind.i64 (Int.tdiv (IntKind.wrap IntKind.i64 (x0 + 900000000)) 450000000) then 3
                                          else IntKind.wrap IntKind.i64 (Int.tdiv (IntKind.wrap IntKind.i64 (x0 + 900000000)) 450000000)) *
                                          450000000)))
                                  450000000 d_1.2)
                                fun (d : Int × Bool) => Option.bind (g___fx_Acc__MulDiv d.1 3373259426 19327352832000 d.2) fun (d : Int × Bool) => k (d.1, 0, d.2)
                          else
                            Option.bind
                              (g_earth_Declination_2 3000 6000 (-2000) (-1500) (-6000) (-9000) 3000
                                (if 5 < IntKind.wrap IntKind.i64 (Int.tdiv (IntKind.wrap IntKind.i64 (x1 + 1800000000)) 600000000) then 5
                                else IntKind.wrap IntKind.i64 (Int.tdiv (IntKind.wrap IntKind.i64 (x1 + 1800000000)) 600000000))
                                (IntKind.wrap IntKind.i64
                                  (IntKind.wrap IntKind.i64 (x1 + 1800000000) -
                                    IntKind.wrap IntKind.i64
                                      ((if 5 < IntKind.wrap IntKind.i64 (Int.tdiv (IntKind.wrap IntKind.i64 (x1 + 1800000000)) 600000000) then 5
                                        else IntKind.wrap IntKind.i64 (Int.tdiv (IntKind.wrap IntKind.i64 (x1 + 1800000000)) 600000000)) *
                                        600000000)))
                                d.2)
                              fun (d_1 : Int × Bool) =>
                              Option.bind
                                (g_earth_Declination_1 d.1 d_1.1
                                  (IntKind.wrap IntKind.i64
                                    (IntKind.wrap IntKind.i64 (x0 + 900000000) -
                                      IntKind.wrap IntKind.i64
                                        ((if 3 < IntKind.wrap IntKind.i64 (Int.tdiv (IntKind.wrap IntKind.i64 (x0 + 900000000)) 450000000) then 3
                                          else IntKind.wrap IntKind.i64 (Int.tdiv (IntKind.wrap IntKind.i64 (x0 + 900000000)) 450000000)) *
                                          450000000)))
                                  450000000 d_1.2)
                                fun (d : Int × Bool) => Option.bind (g___fx_Acc__MulDiv d.1 3373259426 19327352832000 d.2) fun (d : Int × Bool) => k (d.1, 0, d.2)
                  else none
              else
                bif
                    (if 3 < IntKind.wrap IntKind.i64 (Int.tdiv (IntKind.wrap IntKind.i64 (x0 + 900000000)) 450000000) then 3
                      else IntKind.wrap IntKind.i64 (Int.tdiv (IntKind.wrap IntKind.i64 (x0 + 900000000)) 450000000)) ==
                      1 then
                  Option.bind
                    (g_earth_Declination_2 2200 2500 500 (-2200) (-3800) 0 2200
                      (if 5 < IntKind.wrap IntKind.i64 (Int.tdiv (IntKind.wrap IntKind.i64 (x1 + 1800000000)) 600000000) then 5
                      else IntKind.wrap IntKind.i64 (Int.tdiv (IntKind.wrap IntKind.i64 (x1 + 1800000000)) 600000000))
                      (IntKind.wrap IntKind.i64
                        (IntKind.wrap IntKind.i64 (x1 + 1800000000) -
                          IntKind.wrap IntKind.i64
                            ((if 5 < IntKind.wrap IntKind.i64 (Int.tdiv (IntKind.wrap IntKind.i64 (x1 + 1800000000)) 600000000) then 5
                              else IntKind.wrap IntKind.i64 (Int.tdiv (IntKind.wrap IntKind.i64 (x1 + 1800000000)) 600000000)) *
                              600000000)))
                      x3)
                    fun (d : Int × Bool) =>
                    bif
                        inR
                          (IntKind.wrap IntKind.i64
                            ((if 3 < IntKind.wrap IntKind.i64 (Int.tdiv (IntKind.wrap IntKind.i64 (x0 + 900000000)) 450000000) then 3
                              else IntKind.wrap IntKind.i64 (Int.tdiv (IntKind.wrap IntKind.i64 (x0 + 900000000)) 450000000)) +
                              1))
                          5 then
                      bif
                          IntKind.wrap IntKind.i64
                              ((if 3 < IntKind.wrap IntKind.i64 (Int.tdiv (IntKind.wrap IntKind.i64 (x0 + 900000000)) 450000000) then 3
                                else IntKind.wrap IntKind.i64 (Int.tdiv (IntKind.wrap IntKind.i64 (x0 + 900000000)) 450000000)) +
                                1) ==
                            4 then
                        Option.bind
                          (g_earth_Declination_2 1000 4000 (-3000) 500 3500 (-1200) 1000
                            (if 5 < IntKind.wrap IntKind.i64 (Int.tdiv (IntKind.wrap IntKind.i64 (x1 + 1800000000)) 600000000) then 5
                            else IntKind.wrap IntKind.i64 (Int.tdiv (IntKind.wrap IntKind.i64 (x1 + 1800000000)) 600000000))
                            (IntKind.wrap IntKind.i64
                              (IntKind.wrap IntKind.i64 (x1 + 1800000000) -
                                IntKind.wrap IntKind.i64
                                  ((if 5 < IntKind.wrap IntKind.i64 (Int.tdiv (IntKind.wrap IntKind.i64 (x1 + 1800000000)) 600000000) then 5
                                    else IntKind.wrap IntKind.i64 (Int.tdiv (IntKind.wrap IntKind.i64 (x1 + 1800000000)) 600000000)) *
                                    600000000)))
                            d.2)
                          fun (d_1 : Int × Bool) =>
                          Option.bind
                            (g_earth_Declination_1 d.1 d_1.1
                              (IntKind.wrap IntKind.i64
                                (IntKind.wrap IntKind.i64 (x0 + 900000000) -
                                  IntKind.wrap IntKind.i64
                                    ((if 3 < IntKind.wrap IntKind.i64 (Int.tdiv (IntKind.wrap IntKind.i64 (x0 + 900000000)) 450000000) then 3
                                      else IntKind.wrap IntKind.i64 (Int.tdiv (IntKind.wrap IntKind.i64 (x0 + 900000000)) 450000000)) *
                                      450000000)))
                              450000000 d_1.2)
                            fun (d : Int × Bool) => Option.bind (g___fx_Acc__MulDiv d.1 3373259426 19327352832000 d.2) fun (d : Int × Bool) => k (d.1, 0, d.2)
                      else
                        bif
                            IntKind.wrap IntKind.i64
                                ((if 3 < IntKind.wrap IntKind.i64 (Int.tdiv (IntKind.wrap IntKind.i64 (x0 + 900000000)) 450000000) then 3
                                  else IntKind.wrap IntKind.i64 (Int.tdiv (IntKind.wrap IntKind.i64 (x0 + 900000000)) 450000000)) +
                                  1) ==
                              3 then
                          Option.bind
                            (g_earth_Declination_2 500 1500 (-1700) 100 700 (-800) 500
                              (if 5 < IntKind.wrap IntKind.i64 (Int.tdiv (IntKind.wrap IntKind.i64 (x1 + 1800000000)) 600000000) then 5
                              else IntKind.wrap IntKind.i64 (Int.tdiv (IntKind.wrap IntKind.i64 (x1 + 1800000000)) 600000000))
                              (IntKind.wrap IntKind.i64
                                (IntKind.wrap IntKind.i64 (x1 + 1800000000) -
                                  IntKind.wrap IntKind.i64
                                    ((if 5 < IntKind.wrap IntKind.i64 (Int.tdiv (IntKind.wrap IntKind.i64 (x1 + 1800000000)) 600000000) then 5
                                      else IntKind.wrap IntKind.i64 (Int.tdiv (IntKind.wrap IntKind.i64 (x1 + 1800000000)) 600000000)) *
                                      600000000)))
                              d.2)
                            fun (d_1 : Int × Bool) =>
                            Option.bind
                              (g_earth_Declination_1 d.1 d_1.1
                                (IntKind.wrap IntKind.i64
                                  (IntKind.wrap IntKind.i64 (x0 + 900000000) -
                                    IntKind.wrap IntKind.i64
                                      ((if 3 < IntKind.wrap IntKind.i64 (Int.tdiv (IntKind.wrap IntKind.i64 (x0 + 900000000)) 450000000) then 3
                                        else IntKind.wrap IntKind.i64 (Int.tdiv (IntKind.wrap IntKind.i64 (x0 + 900000000)) 450000000)) *
                                        450000000)))
                                450000000 d_1.2)
                              fun (d : Int × Bool) => Option.bind (g___fx_Acc__MulDiv d.1 3373259426 19327352832000 d.2) fun (d : Int × Bool) => k (d.1, 0, d.2)
                        else
                          bif
                              IntKind.wrap IntKind.i64
                                  ((if 3 < IntKind.wrap IntKind.i64 (Int.tdiv (IntKind.wrap IntKind.i64 (x0 + 900000000)) 450000000) then 3
                                    else IntKind.wrap IntKind.i64 (Int.tdiv (IntKind.wrap IntKind.i64 (x0 + 900000000)) 450000000)) +
                                    1) ==
                                2 then
                            Option.bind
                              (g_earth_Declination_2 950 900 (-1400) (-500) (-300) 100 950
                                (if 5 < IntKind.wrap IntKind.i64 (Int.tdiv (IntKind.wrap IntKind.i64 (x1 + 1800000000)) 600000000) then 5
                                else IntKind.wrap IntKind.i64 (Int.tdiv (IntKind.wrap IntKind.i64 (x1 + 1800000000)) 600000000))
                                (IntKind.wrap IntKind.i64
                                  (IntKind.wrap IntKind.i64 (x1 + 1800000000) -
                                    IntKind.wrap IntKind.i64
                                      ((if 5 < IntKind.wrap IntKind.i64 (Int.tdiv (IntKind.wrap IntKind.i64 (x1 + 1800000000)) 600000000) then 5
                                        else IntKind.wrap IntKind.i64 (Int.tdiv (IntKind.wrap IntKind.i64 (x1 + 1800000000)) 600000000)) *
                                        600000000)))
                                d.2)
                              fun (d_1 : Int × Bool) =>
                              Option.bind
                                (g_earth_Declination_1 d.1 d_1.1
                                  (IntKind.wrap IntKind.i64
                                    (IntKind.wrap IntKind.i64 (x0 + 900000000) -
                                      IntKind.wrap IntKind.i64
                                        ((if 3 < IntKind.wrap IntKind.i64 (Int.tdiv (IntKind.wrap IntKind.i64 (x0 + 900000000)) 450000000) then 3
                                          else IntKind.wrap IntKind.i64 (Int.tdiv (IntKind.wrap IntKind.i64 (x0 + 900000000)) 450000000)) *
                                          450000000)))
                                  450000000 d_1.2)
                                fun (d : Int × Bool) => Option.bind (g___fx_Acc__MulDiv d.1 3373259426 19327352832000 d.2) fun (d : Int × Bool) => k (d.1, 0, d.2)
                          else
                            bif
                                IntKind.wrap IntKind.i64
                                    ((if 3 < IntKind.wrap IntKind.i64 (Int.tdiv (IntKind.wrap IntKind.i64 (x0 + 900000000)) 450000000) then 3
                                      else IntKind.wrap IntKind.i64 (Int.tdiv (IntKind.wrap IntKind.i64 (x0 + 900000000)) 450000000)) +
                                      1) ==
                                  1 then
                              Option.bind
                                (g_earth_Declination_2 2200 2500 500 (-2200) (-3800) 0 2200
                                  (if 5 < IntKind.wrap IntKind.i64 (Int.tdiv (IntKind.wrap IntKind.i64 (x1 + 1800000000)) 600000000) then 5
                                  else IntKind.wrap IntKind.i64 (Int.tdiv (IntKind.wrap IntKind.i64 (x1 + 1800000000)) 600000000))
                                  (IntKind.wrap IntKind.i64
                                    (IntKind.wrap IntKind.i64 (x1 + 1800000000) -
                                      IntKind.wrap IntKind.i64
                                        ((if 5 < IntKind.wrap IntKind.i64 (Int.tdiv (IntKind.wrap IntKind.i64 (x1 + 1800000000)) 600000000) then 5
                                          else IntKind.wrap IntKind.i64 (Int.tdiv (IntKind.wrap IntKind.i64 (x1 + 1800000000)) 600000000)) *
                                          600000000)))
                                  d.2)
                                fun (d_1 : Int × Bool) =>
                                Option.bind
                                  (g_earth_Declination_1 d.1 d_1.1
                                    (IntKind.wrap IntKind.i64
                                      (IntKind.wrap IntKind.i64 (x0 + 900000000) -
                                        IntKind.wrap IntKind.i64
                                          ((if 3 < IntKind.wrap IntKind.i64 (Int.tdiv (IntKind.wrap IntKind.i64 (x0 + 900000000)) 450000000) then 3
                                            else IntKind.wrap IntKind.i64 (Int.tdiv (IntKind.wrap IntKind.i64 (x0 + 900000000)) 450000000)) *
                                            450000000)))
                                    450000000 d_1.2)
                                  fun (d : Int × Bool) => Option.bind (g___fx_Acc__MulDiv d.1 3373259426 19327352832000 d.2) fun (d : Int × Bool) => k (d.1, 0, d.2)
                            else
                              Option.bind
                                (g_earth_Declination_2 3000 6000 (-2000) (-1500) (-6000) (-9000) 3000
                                  (if 5 < IntKind.wrap IntKind.i64 (Int.tdiv (IntKind.wrap IntKind.i64 (x1 + 1800000000)) 600000000) then 5
                                  else IntKind.wrap IntKind.i64 (Int.tdiv (IntKind.wrap IntKind.i64 (x1 + 1800000000)) 600000000))
                                  (IntKind.wrap IntKind.i64
                                    (IntKind.wrap IntKind.i64 (x1 + 1800000000) -
                                      IntKind.wrap IntKind.i64
                                        ((if 5 < IntKind.wrap IntKind.i64 (Int.tdiv (IntKind.wrap IntKind.i64 (x1 + 1800000000)) 600000000) then 5
                                          else IntKind.wrap IntKind.i64 (Int.tdiv (IntKind.wrap IntKind.i64 (x1 + 1800000000)) 600000000)) *
                                          600000000)))
                                  d.2)
                                fun (d_1 : Int × Bool) =>
                                Option.bind
                                  (g_earth_Declination_1 d.1 d_1.1
                                    (IntKind.wrap IntKind.i64
                                      (IntKind.wrap IntKind.i64 (x0 + 900000000) -
                                        IntKind.wrap IntKind.i64
                                          ((if 3 < IntKind.wrap IntKind.i64 (Int.tdiv (IntKind.wrap IntKind.i64 (x0 + 900000000)) 450000000) then 3
                                            else IntKind.wrap IntKind.i64 (Int.tdiv (IntKind.wrap IntKind.i64 (x0 + 900000000)) 450000000)) *
                                            450000000)))
                                    450000000 d_1.2)
                                  fun (d : Int × Bool) => Option.bind (g___fx_Acc__MulDiv d.1 3373259426 19327352832000 d.2) fun (d : Int × Bool) => k (d.1, 0, d.2)
                    else none
                else
                  Option.bind
                    (g_earth_Declination_2 3000 6000 (-2000) (-1500) (-6000) (-9000) 3000
                      (if 5 < IntKind.wrap IntKind.i64 (Int.tdiv (IntKind.wrap IntKind.i64 (x1 + 1800000000)) 600000000) then 5
                      else IntKind.wrap IntKind.i64 (Int.tdiv (IntKind.wrap IntKind.i64 (x1 + 1800000000)) 600000000))
                      (IntKind.wrap IntKind.i64
                        (IntKind.wrap IntKind.i64 (x1 + 1800000000) -
                          IntKind.wrap IntKind.i64
                            ((if 5 < IntKind.wrap IntKind.i64 (Int.tdiv (IntKind.wrap IntKind.i64 (x1 + 1800000000)) 600000000) then 5
                              else IntKind.wrap IntKind.i64 (Int.tdiv (IntKind.wrap IntKind.i64 (x1 + 1800000000)) 600000000)) *
                              600000000)))
                      x3)
                    fun (d : Int × Bool) =>
                    bif
                        inR
                          (IntKind.wrap IntKind.i64
                            ((if 3 < IntKind.wrap IntKind.i64 (Int.tdiv (IntKind.wrap IntKind.i64 (x0 + 900000000)) 450000000) then 3
                              else IntKind.wrap IntKind.i64 (Int.tdiv (IntKind.wrap IntKind.i64 (x0 + 900000000)) 450000000)) +
                              1))
                          5 then
                      bif
                          IntKind.wrap IntKind.i64
                              ((if 3 < IntKind.wrap IntKind.i64 (Int.tdiv (IntKind.wrap IntKind.i64 (x0 + 900000000)) 450000000) then 3
                                else IntKind.wrap IntKind.i64 (Int.tdiv (IntKind.wrap IntKind.i64 (x0 + 900000000)) 450000000)) +
                                1) ==
                            4 then
                        Option.bind
                          (g_earth_Declination_2 1000 4000 (-3000) 500 3500 (-1200) 1000
                            (if 5 < IntKind.wrap IntKind.i64 (Int.tdiv (IntKind.wrap IntKind.i64 (x1 + 1800000000)) 600000000) then 5
                            else IntKind.wrap IntKind.i64 (Int.tdiv (IntKind.wrap IntKind.i64 (x1 + 1800000000)) 600000000))
                            (IntKind.wrap IntKind.i64
                              (IntKind.wrap IntKind.i64 (x1 + 1800000000) -
                                IntKind.wrap IntKind.i64
                                  ((if 5 < IntKind.wrap IntKind.i64 (Int.tdiv (IntKind.wrap IntKind.i64 (x1 + 1800000000)) 600000000) then 5
                                    else IntKind.wrap IntKind.i64 (Int.tdiv (IntKind.wrap IntKind.i64 (x1 + 1800000000)) 600000000)) *
                                    600000000)))
                            d.2)
                          fun (d_1 : Int × Bool) =>
                          Option.bind
                            (g_earth_Declination_1 d.1 d_1.1
                              (IntKind.wrap IntKind.i64
                                (IntKind.wrap IntKind.i64 (x0 + 900000000) -
                                  IntKind.wrap IntKind.i64
                                    ((if 3 < IntKind.wrap IntKind.i64 (Int.tdiv (IntKind.wrap IntKind.i64 (x0 + 900000000)) 450000000) then 3
                                      else IntKind.wrap IntKind.i64 (Int.tdiv (IntKind.wrap IntKind.i64 (x0 + 900000000)) 450000000)) *
                                      450000000)))
                              450000000 d_1.2)
                            fun (d : Int × Bool) => Option.bind (g___fx_Acc__MulDiv d.1 3373259426 19327352832000 d.2) fun (d : Int × Bool) => k (d.1, 0, d.2)
                      else
                        bif
                            IntKind.wrap IntKind.i64
                                ((if 3 < IntKind.wrap IntKind.i64 (Int.tdiv (IntKind.wrap IntKind.i64 (x0 + 900000000)) 450000000) then 3
                                  else IntKind.wrap IntKind.i64 (Int.tdiv (IntKind.wrap IntKind.i64 (x0 + 900000000)) 450000000)) +
                                  1) ==
                              3 then
                          Option.bind
                            (g_earth_Declination_2 500 1500 (-1700) 100 700 (-800) 500
                              (if 5 < IntKind.wrap IntKind.i64 (Int.tdiv (IntKind.wrap IntKind.i64 (x1 + 1800000000)) 600000000) then 5
                              else IntKind.wrap IntKind.i64 (Int.tdiv (IntKind.wrap IntKind.i64 (x1 + 1800000000)) 600000000))
                              (IntKind.wrap IntKind.i64
                                (IntKind.wrap IntKind.i64 (x1 + 1800000000) -
                                  IntKind.wrap IntKind.i64
                                    ((if 5 < IntKind.wrap IntKind.i64 (Int.tdiv (IntKind.wrap IntKind.i64 (x1 + 1800000000)) 600000000) then 5
                                      else IntKind.wrap IntKind.i64 (Int.tdiv (IntKind.wrap IntKind.i64 (x1 + 1800000000)) 600000000)) *
                                      600000000)))
                              d.2)
                            fun (d_1 : Int × Bool) =>
                            Option.bind
                              (g_earth_Declination_1 d.1 d_1.1
                                (IntKind.wrap IntKind.i64
                                  (IntKind.wrap IntKind.i64 (x0 + 900000000) -
                                    IntKind.wrap IntKind.i64
                                      ((if 3 < IntKind.wrap IntKind.i64 (Int.tdiv (IntKind.wrap IntKind.i64 (x0 + 900000000)) 450000000) then 3
                                        else IntKind.wrap IntKind.i64 (Int.tdiv (IntKind.wrap IntKind.i64 (x0 + 900000000)) 450000000)) *
                                        450000000)))
                                450000000 d_1.2)
                              fun (d : Int × Bool) => Option.bind (g___fx_Acc__MulDiv d.1 3373259426 19327352832000 d.2) fun (d : Int × Bool) => k (d.1, 0, d.2)
                        else
                          bif
                              IntKind.wrap IntKind.i64
                                  ((if 3 < IntKind.wrap IntKind.i64 (Int.tdiv (IntKind.wrap IntKind.i64 (x0 + 900000000)) 450000000) then 3
                                    else IntKind.wrap IntKind.i64 (Int.tdiv (IntKind.wrap IntKind.i64 (x0 + 900000000)) 450000000)) +
                                    1) ==
                                2 then
                            Option.bind
                              (g_earth_Declination_2 950 900 (-1400) (-500) (-300) 100 950
                                (if 5 < IntKind.wrap IntKind.i64 (Int.tdiv (IntKind.wrap IntKind.i64 (x1 + 1800000000)) 600000000) then 5
                                else IntKind.wrap IntKind.i64 (Int.tdiv (IntKind.wrap IntKind.i64 (x1 + 1800000000)) 600000000))
                                (IntKind.wrap IntKind.i64
                                  (IntKind.wrap IntKind.i64 (x1 + 1800000000) -
                                    IntKind.wrap IntKind.i64
                                      ((if 5 < IntKind.wrap IntKind.i64 (Int.tdiv (IntKind.wrap IntKind.i64 (x1 + 1800000000)) 600000000) then 5
                                        else IntKind.wrap IntKind.i64 (Int.tdiv (IntKind.wrap IntKind.i64 (x1 + 1800000000)) 600000000)) *
                                        600000000)))
                                d.2)
                              fun (d_1 : Int × Bool) =>
                              Option.bind
                                (g_earth_Declination_1 d.1 d_1.1
                                  (IntKind.wrap IntKind.i64
                                    (IntKind.wrap IntKind.i64 (x0 + 900000000) -
                                      IntKind.wrap IntKind.i64
                                        ((if 3 < IntKind.wrap IntKind.i64 (Int.tdiv (IntKind.wrap IntKind.i64 (x0 + 900000000)) 450000000) then 3
                                          else IntKind.wrap IntKind.i64 (Int.tdiv (IntKind.wrap IntKind.i64 (x0 + 900000000)) 450000000)) *
                                          450000000)))
                                  450000000 d_1.2)
                                fun (d : Int × Bool) => Option.bind (g___fx_Acc__MulDiv d.1 3373259426 19327352832000 d.2) fun (d : Int × Bool) => k (d.1, 0, d.2)
                          else
                            bif
                                IntKind.wrap IntKind.i64
                                    ((if 3 < IntKind.wrap IntKind.i64 (Int.tdiv (IntKind.wrap IntKind.i64 (x0 + 900000000)) 450000000) then 3
                                      else IntKind.wrap IntKind.i64 (Int.tdiv (IntKind.wrap IntKind.i64 (x0 + 900000000)) 450000000)) +
                                      1) ==
                                  1 then
                              Option.bind
                                (g_earth_Declination_2 2200 2500 500 (-2200) (-3800) 0 2200
                                  (if 5 < IntKind.wrap IntKind.i64 (Int.tdiv (IntKind.wrap IntKind.i64 (x1 + 1800000000)) 600000000) then 5
                                  else IntKind.wrap IntKind.i64 (Int.tdiv (IntKind.wrap IntKind.i64 (x1 + 1800000000)) 600000000))
                                  (IntKind.wrap IntKind.i64
                                    (IntKind.wrap IntKind.i64 (x1 + 1800000000) -
                                      IntKind.wrap IntKind.i64
                                        ((if 5 < IntKind.wrap IntKind.i64 (Int.tdiv (IntKind.wrap IntKind.i64 (x1 + 1800000000)) 600000000) then 5
                                          else IntKind.wrap IntKind.i64 (Int.tdiv (IntKind.wrap IntKind.i64 (x1 + 1800000000)) 600000000)) *
                                          600000000)))
                                  d.2)
                                fun (d_1 : Int × Bool) =>
                                Option.bind
                                  (g_earth_Declination_1 d.1 d_1.1
                                    (IntKind.wrap IntKind.i64
                                      (IntKind.wrap IntKind.i64 (x0 + 900000000) -
                                        IntKind.wrap IntKind.i64
                                          ((if 3 < IntKind.wrap IntKind.i64 (Int.tdiv (IntKind.wrap IntKind.i64 (x0 + 900000000)) 450000000) then 3
                                            else IntKind.wrap IntKind.i64 (Int.tdiv (IntKind.wrap IntKind.i64 (x0 + 900000000)) 450000000)) *
                                            450000000)))
                                    450000000 d_1.2)
                                  fun (d : Int × Bool) => Option.bind (g___fx_Acc__MulDiv d.1 3373259426 19327352832000 d.2) fun (d : Int × Bool) => k (d.1, 0, d.2)
                            else
                              Option.bind
                                (g_earth_Declination_2 3000 6000 (-2000) (-1500) (-6000) (-9000) 3000
                                  (if 5 < IntKind.wrap IntKind.i64 (Int.tdiv (IntKind.wrap IntKind.i64 (x1 + 1800000000)) 600000000) then 5
                                  else IntKind.wrap IntKind.i64 (Int.tdiv (IntKind.wrap IntKind.i64 (x1 + 1800000000)) 600000000))
                                  (IntKind.wrap IntKind.i64
                                    (IntKind.wrap IntKind.i64 (x1 + 1800000000) -
                                      IntKind.wrap IntKind.i64
                                        ((if 5 < IntKind.wrap IntKind.i64 (Int.tdiv (IntKind.wrap IntKind.i64 (x1 + 1800000000)) 600000000) then 5
                                          else IntKind.wrap IntKind.i64 (Int.tdiv (IntKind.wrap IntKind.i64 (x1 + 1800000000)) 600000000)) *
                                          600000000)))
                                  d.2)
                                fun (d_1 : Int × Bool) =>
                                Option.bind
                                  (g_earth_Declination_1 d.1 d_1.1
                                    (IntKind.wrap IntKind.i64
                                      (IntKind.wrap IntKind.i64 (x0 + 900000000) -
                                        IntKind.wrap IntKind.i64
                                          ((if 3 < IntKind.wrap IntKind.i64 (Int.tdiv (IntKind.wrap IntKind.i64 (x0 + 900000000)) 450000000) then 3
                                            else IntKind.wrap IntKind.i64 (Int.tdiv (IntKind.wrap IntKind.i64 (x0 + 900000000)) 450000000)) *
                                            450000000)))
                                    450000000 d_1.2)
                                  fun (d : Int × Bool) => Option.bind (g___fx_Acc__MulDiv d.1 3373259426 19327352832000 d.2) fun (d : Int × Bool) => k (d.1, 0, d.2)
                    else none
        else none
def f_earth_Declination (x0 : Int) (x1 : Int) (x2 : Int) (x3 : Bool) : Option (Int × Int × Bool) := K_earth_Declination f_earth_Good f_earth_hundredths f_earth_Declination_1 f_earth_Declination_2 f___fx_Acc__MulDiv  x0 x1 x2 x3 some
section
open Go.Ab.Rdr
def QA_earth_Declination := ((pair (cons (ar (rc (cptr (nat 0) (ok' (nat 0)) (nat 1)))) (cons (ar (ra (cons (gc (cf (fi .i64 hole))) (cons (gc (cf (fi .i64 hole))) (cons (gc (cf (fi .i64 hole))) nil))))) nil)) (cons (cons (gc (cf (fb hole))) nil) nil)) : Rdr (List AV × List Blk) _)
end
def F_earth_Declination (f : (Int) → (Int) → (Int) → (Bool) → Option (Int × Int × Bool)) : Sem1 := fun args h => match (QA_earth_Declination).rd (args, h) with
  | some b => .opt (f b.1.2.1.1 b.1.2.1.2.1 b.1.2.1.2.2.1 b.2.1.1) fun (d : Int × Int × Bool) => .leaf (Res.mk (AV.tup [RV.c (CV.f (FV.i IntKind.i64 d.1)), RV.c (CV.f (FV.i IntKind.i64 d.2.1))]) [Ch.set [Sg.c (CV.f (FV.b d.2.2))]] [])
  | none => .fail
theorem d_earth_Declination (g_earth_Good : Int → Int → Int → Option Bool) (g_earth_hundredths : Option Unit) (g_earth_Declination_1 : Int → Int → Int → Int → Bool → Option (Int × Bool)) (g_earth_Declination_2 : Int → Int → Int → Int → Int → Int → Int → Int → Int → Bool → Option (Int × Bool)) (g___fx_Acc__MulDiv : Int → Int → Int → Bool → Option (Int × Bool))  (x0 : Int) (x1 : Int) (x2 : Int) (x3 : Bool) : den Try.prog (envOf [(40, F_earth_Good g_earth_Good), (73, F_earth_hundredths g_earth_hundredths), (74, F_earth_Declination_1 g_earth_Declination_1), (75, F_earth_Declination_2 g_earth_Declination_2), (68, F___fx_Acc__MulDiv g___fx_Acc__MulDiv)]) ⟨[], [], [0], [], none⟩ 200 38 [.r (.c (.ptr 0 (.k 0) 1)), .r (.agg [.c (.f (.i .i64 x0)), .c (.f (.i .i64 x1)), .c (.f (.i .i64 x2))])] [[.c (.f (.b x3))]] =
    K_earth_Declination g_earth_Good g_earth_hundredths g_earth_Declination_1 g_earth_Declination_2 g___fx_Acc__MulDiv  x0 x1 x2 x3 (fun (d : Int × Int × Bool) => some (Res.mk (AV.tup [RV.c (CV.f (FV.i IntKind.i64 d.1)), RV.c (CV.f (FV.i IntKind.i64 d.2.1))]) [Ch.set [Sg.c (CV.f (FV.b d.2.2))]] [])) := by kernel_rfl
theorem m_earth_Declination {ρ σ : Type} (q : ρ → Option σ) (g_earth_Good : Int → Int → Int → Option Bool) (g_earth_hundredths : Option Unit) (g_earth_Declination_1 : Int → Int → Int → Int → Bool → Option (Int × Bool)) (g_earth_Declination_2 : Int → Int → Int → Int → Int → Int → Int → Int → Int → Bool → Option (Int × Bool)) (g___fx_Acc__MulDiv : Int → Int → Int → Bool → Option (Int × Bool))   (x0 : Int) (x1 : Int) (x2 : Int) (x3 : Bool) (k : (Int × Int × Bool) → Option ρ) : (K_earth_Declination g_earth_Good g_earth_hundredths g_earth_Declination_1 g_earth_Declination_2 g___fx_Acc__MulDiv  x0 x1 x2 x3 k).bind q = K_earth_Declination g_earth_Good g_earth_hundredths g_earth_Declination_1 g_earth_Declination_2 g___fx_Acc__MulDiv  x0 x1 x2 x3 (fun d => (k d).bind q) := by
  simp only [K_earth_Declination, bnd_cond, bnd_bind, bnd_none, bnd_sum]
theorem qa_earth_Declination : ∀ b, (QA_earth_Declination).em b = ([.r (.c (.ptr 0 (.k 0) 1)), .r (.agg [.c (.f (.i .i64 b.1.2.1.1)), .c (.f (.i .i64 b.1.2.1.2.1)), .c (.f (.i .i64 b.1.2.1.2.2.1))])], [[.c (.f (.b b.2.1.1))]]) := fun b => by kernel_rfl
theorem e_earth_Declination {f : (Int) → (Int) → (Int) → (Bool) → Option (Int × Int × Bool)} {args : List AV} {h : List Blk} {r : Res} (hr : (F_earth_Declination f args h).eval = some r) : ∃ x0 x1 x2 x3, args = [.r (.c (.ptr 0 (.k 0) 1)), .r (.agg [.c (.f (.i .i64 x0)), .c (.f (.i .i64 x1)), .c (.f (.i .i64 x2))])] ∧ h = [[.c (.f (.b x3))]] ∧ (f x0 x1 x2 x3).bind (fun (d : Int × Int × Bool) => some (Res.mk (AV.tup [RV.c (CV.f (FV.i IntKind.i64 d.1)), RV.c (CV.f (FV.i IntKind.i64 d.2.1))]) [Ch.set [Sg.c (CV.f (FV.b d.2.2))]] [])) = some r := by
  unfold F_earth_Declination at hr
  split at hr
  · rename_i b hb
    have e := ((QA_earth_Declination).ok _ _ hb).trans (qa_earth_Declination b)
    rw [opt_eval2] at hr
    exact ⟨b.1.2.1.1, b.1.2.1.2.1, b.1.2.1.2.2.1, b.2.1.1, (Prod.mk.inj e).1, (Prod.mk.inj e).2, hr⟩
  · cases hr
theorem n_earth_Declination {σ : Type} (q : (Int × Int × Bool) → Option σ) (x0 : Int) (x1 : Int) (x2 : Int) (x3 : Bool) : (f_earth_Declination x0 x1 x2 x3).bind q = K_earth_Declination f_earth_Good f_earth_hundredths f_earth_Declination_1 f_earth_Declination_2 f___fx_Acc__MulDiv  x0 x1 x2 x3 q := by
  unfold f_earth_Declination
  exact m_earth_Declination q f_earth_Good f_earth_hundredths f_earth_Declination_1 f_earth_Declination_2 f___fx_Acc__MulDiv   x0 x1 x2 x3 some
theorem s_earth_Declination : Sound Try.prog 38 (F_earth_Declination f_earth_Declination) :=
  (inl_sound (l := [(40, F_earth_Good f_earth_Good), (73, F_earth_hundredths f_earth_hundredths), (74, F_earth_Declination_1 f_earth_Declination_1), (75, F_earth_Declination_2 f_earth_Declination_2), (68, F___fx_Acc__MulDiv f___fx_Acc__MulDiv)]) (.cons s_earth_Good (.cons s_earth_hundredths (.cons s_earth_Declination_1 (.cons s_earth_Declination_2 (.cons s___fx_Acc__MulDiv (.nil _)))))) mixed [] [0] 200 (by kernel_rfl)).by (F := F_earth_Declination f_earth_Declination) fun args b r hr => by
  obtain ⟨x0, x1, x2, x3, rfl, rfl, hr1⟩ := e_earth_Declination hr
  exact inl_eval ((d_earth_Declination f_earth_Good f_earth_hundredths f_earth_Declination_1 f_earth_Declination_2 f___fx_Acc__MulDiv  x0 x1 x2 x3).trans ((n_earth_Declination (fun (d : Int × Int × Bool) => some (Res.mk (AV.tup [RV.c (CV.f (FV.i IntKind.i64 d.1)), RV.c (CV.f (FV.i IntKind.i64 d.2.1))]) [Ch.set [Sg.c (CV.f (FV.b d.2.2))]] [])) x0 x1 x2 x3).symm.trans hr1))

def K___earth_Frame__Scale {ρ : Type}   (x0 : Int) (x1 : Int) (x2 : Int) (x3 : Int) (x4 : Int) (k : (Int × Int) → Option ρ) : Option ρ :=
  k (x3, x4)
def f___earth_Frame__Scale (x0 : Int) (x1 : Int) (x2 : Int) (x3 : Int) (x4 : Int) : Option (Int × Int) := K___earth_Frame__Scale   x0 x1 x2 x3 x4 some
section
open Go.Ab.Rdr
def QA___earth_Frame__Scale := ((pair (cons (ar (rc (cptr (nat 0) (ok' (nat 0)) (nat 5)))) nil) (cons (cons (gc (cf (fi .i64 hole))) (cons (gc (cf (fi .i64 hole))) (cons (gc (cf (fi .i64 hole))) (cons (gc (cf (fi .i64 hole))) (cons (gc (cf (fi .i64 hole))) nil))))) nil)) : Rdr (List AV × List Blk) _)
end
def F___earth_Frame__Scale (f : (Int) → (Int) → (Int) → (Int) → (Int) → Option (Int × Int)) : Sem1 := fun args h => match (QA___earth_Frame__Scale).rd (args, h) with
  | some b => .opt (f b.2.1.1 b.2.1.2.1 b.2.1.2.2.1 b.2.1.2.2.2.1 b.2.1.2.2.2.2.1) fun (d : Int × Int) => .leaf (Res.mk (AV.tup [RV.c (CV.f (FV.i IntKind.i64 d.1)), RV.c (CV.f (FV.i IntKind.i64 d.2))]) [Ch.keep] [])
  | none => .fail
theorem d___earth_Frame__Scale   (x0 : Int) (x1 : Int) (x2 : Int) (x3 : Int) (x4 : Int) : den Try.prog (envOf []) ⟨[], [], [], [], none⟩ 200 43 [.r (.c (.ptr 0 (.k 0) 5))] [[.c (.f (.i .i64 x0)), .c (.f (.i .i64 x1)), .c (.f (.i .i64 x2)), .c (.f (.i .i64 x3)), .c (.f (.i .i64 x4))]] =
    K___earth_Frame__Scale   x0 x1 x2 x3 x4 (fun (d : Int × Int) => some (Res.mk (AV.tup [RV.c (CV.f (FV.i IntKind.i64 d.1)), RV.c (CV.f (FV.i IntKind.i64 d.2))]) [Ch.keep] [])) := by kernel_rfl
theorem m___earth_Frame__Scale {ρ σ : Type} (q : ρ → Option σ)    (x0 : Int) (x1 : Int) (x2 : Int) (x3 : Int) (x4 : Int) (k : (Int × Int) → Option ρ) : (K___earth_Frame__Scale   x0 x1 x2 x3 x4 k).bind q = K___earth_Frame__Scale   x0 x1 x2 x3 x4 (fun d => (k d).bind q) := by
  simp only [K___earth_Frame__Scale, bnd_cond, bnd_bind, bnd_none, bnd_sum]
theorem qa___earth_Frame__Scale : ∀ b, (QA___earth_Frame__Scale).em b = ([.r (.c (.ptr 0 (.k 0) 5))], [[.c (.f (.i .i64 b.2.1.1)), .c (.f (.i .i64 b.2.1.2.1)), .c (.f (.i .i64 b.2.1.2.2.1)), .c (.f (.i .i64 b.2.1.2.2.2.1)), .c (.f (.i .i64 b.2.1.2.2.2.2.1))]]) := fun b => by kernel_rfl
theorem e___earth_Frame__Scale {f : (Int) → (Int) → (Int) → (Int) → (Int) → Option (Int × Int)} {args : List AV} {h : List Blk} {r : Res} (hr : (F___earth_Frame__Scale f args h).eval = some r) : ∃ x0 x1 x2 x3 x4, args = [.r (.c (.ptr 0 (.k 0) 5))] ∧ h = [[.c (.f (.i .i64 x0)), .c (.f (.i .i64 x1)), .c (.f (.i .i64 x2)), .c (.f (.i .i64 x3)), .c (.f (.i .i64 x4))]] ∧ (f x0 x1 x2 x3 x4).bind (fun (d : Int × Int) => some (Res.mk (AV.tup [RV.c (CV.f (FV.i IntKind.i64 d.1)), RV.c (CV.f (FV.i IntKind.i64 d.2))]) [Ch.keep] [])) = some r := by
  unfold F___earth_Frame__Scale at hr
  split at hr
  · rename_i b hb
    have e := ((QA___earth_Frame__Scale).ok _ _ hb).trans (qa___earth_Frame__Scale b)
    rw [opt_eval2] at hr
    exact ⟨b.2.1.1, b.2.1.2.1, b.2.1.2.2.1, b.2.1.2.2.2.1, b.2.1.2.2.2.2.1, (Prod.mk.inj e).1, (Prod.mk.inj e).2, hr⟩
  · cases hr
theorem n___earth_Frame__Scale {σ : Type} (q : (Int × Int) → Option σ) (x0 : Int) (x1 : Int) (x2 : Int) (x3 : Int) (x4 : Int) : (f___earth_Frame__Scale x0 x1 x2 x3 x4).bind q = K___earth_Frame__Scale   x0 x1 x2 x3 x4 q := by
  unfold f___earth_Frame__Scale
  exact m___earth_Frame__Scale q    x0 x1 x2 x3 x4 some
theorem s___earth_Frame__Scale : Sound Try.prog 43 (F___earth_Frame__Scale f___earth_Frame__Scale) :=
  (inl_sound (l := []) (.nil _) mixed [] [] 200 (by kernel_rfl)).by (F := F___earth_Frame__Scale f___earth_Frame__Scale) fun args b r hr => by
  obtain ⟨x0, x1, x2, x3, x4, rfl, rfl, hr1⟩ := e___earth_Frame__Scale hr
  exact inl_eval ((d___earth_Frame__Scale   x0 x1 x2 x3 x4).trans ((n___earth_Frame__Scale (fun (d : Int × Int) => some (Res.mk (AV.tup [RV.c (CV.f (FV.i IntKind.i64 d.1)), RV.c (CV.f (FV.i IntKind.i64 d.2))]) [Ch.keep] [])) x0 x1 x2 x3 x4).symm.trans hr1))

def K_astrolabelaw8_awake {ρ : Type} (g_earth_New : Int → Int → Int → Option (Unit ⊕ Int × Int × Int × Int × Int)) (g___earth_Frame__To : Int → Int → Int → Int → Int → Int → Int → Int → Bool → Option (Int × Int × Int × Int × Bool)) (g_earth_Declination : Int → Int → Int → Bool → Option (Int × Int × Bool)) (g___earth_Frame__Scale : Int → Int → Int → Int → Int → Option (Int × Int)) (g_earth_Good : Int → Int → Int → Option Bool)   (k : (Bool) → Option ρ) : Option ρ :=
  Option.bind (g_earth_New 0 0 0) fun (d : Unit ⊕ Int × Int × Int × Int × Int) =>
    bif
        match d with
        | Sum.inl val => true
        | Sum.inr val => false then
      Option.bind
        (match d with
        | Sum.inl a => some a
        | Sum.inr val => none)
        fun (d : Unit) => k false
    else
      Option.bind
        (match d with
        | Sum.inr b => some b
        | Sum.inl val => none)
        fun (d : Int × Int × Int × Int × Int) =>
        Option.bind (g___earth_Frame__To 0 0 0 d.1 d.2.1 d.2.2.1 d.2.2.2.1 d.2.2.2.2 false) fun (d_1 : Int × Int × Int × Int × Bool) =>
          Option.bind (g_earth_Declination 0 0 0 d_1.2.2.2.2) fun (d_2 : Int × Int × Bool) =>
            Option.bind (g___earth_Frame__Scale d.1 d.2.1 d.2.2.1 d.2.2.2.1 d.2.2.2.2) fun (d : Int × Int) =>
              bif d_1.2.2.2.1 == 0 then
                bif d_1.1 == 0 && (d_1.2.1 == 0 && (d_1.2.2.1 == 0 && true)) then
                  bif d_2.2.1 == 0 then
                    bif d_2.1 == -93701651 then
                      bif decide (d.1 > 8589934592) then bif decide (d.2 > d.1) then Option.bind (g_earth_Good 0 0 0) fun (d : Bool) => bif d then k !d_2.2.2 else k false else k false
                      else k false
                    else k false
                  else k false
                else k false
              else k false
def f_astrolabelaw8_awake  : Option (Bool) := K_astrolabelaw8_awake f_earth_New f___earth_Frame__To f_earth_Declination f___earth_Frame__Scale f_earth_Good   some
section
open Go.Ab.Rdr
def QA_astrolabelaw8_awake := ((pair nil nil) : Rdr (List AV × List Blk) _)
end
def F_astrolabelaw8_awake (f : Option (Bool)) : Sem1 := fun args h => match (QA_astrolabelaw8_awake).rd (args, h) with
  | some b => .opt (f ) fun (d : Bool) => .leaf (Res.mk (AV.r (RV.c (CV.f (FV.b d)))) [] [])
  | none => .fail
theorem d_astrolabelaw8_awake (g_earth_New : Int → Int → Int → Option (Unit ⊕ Int × Int × Int × Int × Int)) (g___earth_Frame__To : Int → Int → Int → Int → Int → Int → Int → Int → Bool → Option (Int × Int × Int × Int × Bool)) (g_earth_Declination : Int → Int → Int → Bool → Option (Int × Int × Bool)) (g___earth_Frame__Scale : Int → Int → Int → Int → Int → Option (Int × Int)) (g_earth_Good : Int → Int → Int → Option Bool)   : den Try.prog (envOf [(37, F_earth_New g_earth_New), (39, F___earth_Frame__To g___earth_Frame__To), (38, F_earth_Declination g_earth_Declination), (43, F___earth_Frame__Scale g___earth_Frame__Scale), (40, F_earth_Good g_earth_Good)]) ⟨[], [], [], [], none⟩ 200 36 [] [] =
    K_astrolabelaw8_awake g_earth_New g___earth_Frame__To g_earth_Declination g___earth_Frame__Scale g_earth_Good   (fun (d : Bool) => some (Res.mk (AV.r (RV.c (CV.f (FV.b d)))) [] [])) := by kernel_rfl
theorem m_astrolabelaw8_awake {ρ σ : Type} (q : ρ → Option σ) (g_earth_New : Int → Int → Int → Option (Unit ⊕ Int × Int × Int × Int × Int)) (g___earth_Frame__To : Int → Int → Int → Int → Int → Int → Int → Int → Bool → Option (Int × Int × Int × Int × Bool)) (g_earth_Declination : Int → Int → Int → Bool → Option (Int × Int × Bool)) (g___earth_Frame__Scale : Int → Int → Int → Int → Int → Option (Int × Int)) (g_earth_Good : Int → Int → Int → Option Bool)    (k : (Bool) → Option ρ) : (K_astrolabelaw8_awake g_earth_New g___earth_Frame__To g_earth_Declination g___earth_Frame__Scale g_earth_Good   k).bind q = K_astrolabelaw8_awake g_earth_New g___earth_Frame__To g_earth_Declination g___earth_Frame__Scale g_earth_Good   (fun d => (k d).bind q) := by
  simp only [K_astrolabelaw8_awake, bnd_cond, bnd_bind, bnd_none, bnd_sum]
theorem qa_astrolabelaw8_awake : ∀ b, (QA_astrolabelaw8_awake).em b = ([], []) := fun b => by kernel_rfl
theorem e_astrolabelaw8_awake {f : Option (Bool)} {args : List AV} {h : List Blk} {r : Res} (hr : (F_astrolabelaw8_awake f args h).eval = some r) : args = [] ∧ h = [] ∧ (f ).bind (fun (d : Bool) => some (Res.mk (AV.r (RV.c (CV.f (FV.b d)))) [] [])) = some r := by
  unfold F_astrolabelaw8_awake at hr
  split at hr
  · rename_i b hb
    have e := ((QA_astrolabelaw8_awake).ok _ _ hb).trans (qa_astrolabelaw8_awake b)
    rw [opt_eval2] at hr
    exact ⟨(Prod.mk.inj e).1, (Prod.mk.inj e).2, hr⟩
  · cases hr
theorem n_astrolabelaw8_awake {σ : Type} (q : (Bool) → Option σ)  : (f_astrolabelaw8_awake ).bind q = K_astrolabelaw8_awake f_earth_New f___earth_Frame__To f_earth_Declination f___earth_Frame__Scale f_earth_Good   q := by
  unfold f_astrolabelaw8_awake
  exact m_astrolabelaw8_awake q f_earth_New f___earth_Frame__To f_earth_Declination f___earth_Frame__Scale f_earth_Good    some
theorem s_astrolabelaw8_awake : Sound Try.prog 36 (F_astrolabelaw8_awake f_astrolabelaw8_awake) :=
  (inl_sound (l := [(37, F_earth_New f_earth_New), (39, F___earth_Frame__To f___earth_Frame__To), (38, F_earth_Declination f_earth_Declination), (43, F___earth_Frame__Scale f___earth_Frame__Scale), (40, F_earth_Good f_earth_Good)]) (.cons s_earth_New (.cons s___earth_Frame__To (.cons s_earth_Declination (.cons s___earth_Frame__Scale (.cons s_earth_Good (.nil _)))))) mixed [] [] 200 (by kernel_rfl)).by (F := F_astrolabelaw8_awake f_astrolabelaw8_awake) fun args b r hr => by
  obtain ⟨rfl, rfl, hr1⟩ := e_astrolabelaw8_awake hr
  exact inl_eval ((d_astrolabelaw8_awake f_earth_New f___earth_Frame__To f_earth_Declination f___earth_Frame__Scale f_earth_Good  ).trans ((n_astrolabelaw8_awake (fun (d : Bool) => some (Res.mk (AV.r (RV.c (CV.f (FV.b d)))) [] [])) ).symm.trans hr1))

def K_astrolabelaw8_EarthKnown {ρ : Type} (g_astrolabelaw8_awake : Option Bool) (g_earth_New : Int → Int → Int → Option (Unit ⊕ Int × Int × Int × Int × Int)) (g_earth_Declination : Int → Int → Int → Bool → Option (Int × Int × Bool)) (g___earth_Frame__To : Int → Int → Int → Int → Int → Int → Int → Int → Bool → Option (Int × Int × Int × Int × Bool))   (k : (Bool) → Option ρ) : Option ρ :=
  Option.bind g_astrolabelaw8_awake fun (d : Bool) =>
    bif !d then k false
    else
      Option.bind (g_earth_New 850000001 0 0) fun (d : Unit ⊕ Int × Int × Int × Int × Int) =>
        bif
            match d with
            | Sum.inl val => true
            | Sum.inr val => false then
          Option.bind
            (match d with
            | Sum.inl a => some a
            | Sum.inr val => none)
            fun (d : Unit) =>
            Option.bind (g_earth_Declination 0 1800000001 0 false) fun (d : Int × Int × Bool) =>
              Option.bind (g_earth_New 0 0 0) fun (d_1 : Unit ⊕ Int × Int × Int × Int × Int) =>
                bif
                    match d_1 with
                    | Sum.inl val => true
                    | Sum.inr val => false then
                  Option.bind
                    (match d_1 with
                    | Sum.inl a => some a
                    | Sum.inr val => none)
                    fun (d : Unit) => none
                else
                  Option.bind
                    (match d_1 with
                    | Sum.inr b => some b
                    | Sum.inl val => none)
                    fun (d_2 : Int × Int × Int × Int × Int) =>
                    Option.bind (g___earth_Frame__To 0 0 100000001 d_2.1 d_2.2.1 d_2.2.2.1 d_2.2.2.2.1 d_2.2.2.2.2 d.2.2) fun (d_3 : Int × Int × Int × Int × Bool) =>
                      Option.bind (g___earth_Frame__To 0 0 (-1000) d_2.1 d_2.2.1 d_2.2.2.1 d_2.2.2.2.1 d_2.2.2.2.2 d_3.2.2.2.2)
                        fun (d_4 : Int × Int × Int × Int × Bool) =>
                        bif d.2.1 == 1 then
                          bif d_3.2.2.2.1 == 1 then bif d_4.2.2.2.1 == 0 then k (d_4.1 == 0 && (d_4.2.1 == 0 && (d_4.2.2.1 == 1073741824 && true))) else k false else k false
                        else k false
        else
          Option.bind
            (match d with
            | Sum.inr b => some b
            | Sum.inl val => none)
            fun (d : Int × Int × Int × Int × Int) =>
            Option.bind (g_earth_Declination 0 1800000001 0 false) fun (d : Int × Int × Bool) =>
              Option.bind (g_earth_New 0 0 0) fun (d_1 : Unit ⊕ Int × Int × Int × Int × Int) =>
                bif
                    match d_1 with
                    | Sum.inl val => true
                    | Sum.inr val => false then
                  Option.bind
                    (match d_1 with
                    | Sum.inl a => some a
                    | Sum.inr val => none)
                    fun (d : Unit) => none
                else
                  Option.bind
                    (match d_1 with
                    | Sum.inr b => some b
                    | Sum.inl val => none)
                    fun (d_2 : Int × Int × Int × Int × Int) =>
                    Option.bind (g___earth_Frame__To 0 0 100000001 d_2.1 d_2.2.1 d_2.2.2.1 d_2.2.2.2.1 d_2.2.2.2.2 d.2.2) fun (d : Int × Int × Int × Int × Bool) =>
                      Option.bind (g___earth_Frame__To 0 0 (-1000) d_2.1 d_2.2.1 d_2.2.2.1 d_2.2.2.2.1 d_2.2.2.2.2 d.2.2.2.2)
                        fun (d : Int × Int × Int × Int × Bool) => k false
def f_astrolabelaw8_EarthKnown  : Option (Bool) := K_astrolabelaw8_EarthKnown f_astrolabelaw8_awake f_earth_New f_earth_Declination f___earth_Frame__To   some
section
open Go.Ab.Rdr
def QA_astrolabelaw8_EarthKnown := ((pair nil nil) : Rdr (List AV × List Blk) _)
end
def F_astrolabelaw8_EarthKnown (f : Option (Bool)) : Sem1 := fun args h => match (QA_astrolabelaw8_EarthKnown).rd (args, h) with
  | some b => .opt (f ) fun (d : Bool) => .leaf (Res.mk (AV.r (RV.c (CV.f (FV.b d)))) [] [])
  | none => .fail
theorem d_astrolabelaw8_EarthKnown (g_astrolabelaw8_awake : Option Bool) (g_earth_New : Int → Int → Int → Option (Unit ⊕ Int × Int × Int × Int × Int)) (g_earth_Declination : Int → Int → Int → Bool → Option (Int × Int × Bool)) (g___earth_Frame__To : Int → Int → Int → Int → Int → Int → Int → Int → Bool → Option (Int × Int × Int × Int × Bool))   : den Try.prog (envOf [(36, F_astrolabelaw8_awake g_astrolabelaw8_awake), (37, F_earth_New g_earth_New), (38, F_earth_Declination g_earth_Declination), (39, F___earth_Frame__To g___earth_Frame__To)]) ⟨[], [], [], [], none⟩ 200 9 [] [] =
    K_astrolabelaw8_EarthKnown g_astrolabelaw8_awake g_earth_New g_earth_Declination g___earth_Frame__To   (fun (d : Bool) => some (Res.mk (AV.r (RV.c (CV.f (FV.b d)))) [] [])) := by kernel_rfl
theorem m_astrolabelaw8_EarthKnown {ρ σ : Type} (q : ρ → Option σ) (g_astrolabelaw8_awake : Option Bool) (g_earth_New : Int → Int → Int → Option (Unit ⊕ Int × Int × Int × Int × Int)) (g_earth_Declination : Int → Int → Int → Bool → Option (Int × Int × Bool)) (g___earth_Frame__To : Int → Int → Int → Int → Int → Int → Int → Int → Bool → Option (Int × Int × Int × Int × Bool))    (k : (Bool) → Option ρ) : (K_astrolabelaw8_EarthKnown g_astrolabelaw8_awake g_earth_New g_earth_Declination g___earth_Frame__To   k).bind q = K_astrolabelaw8_EarthKnown g_astrolabelaw8_awake g_earth_New g_earth_Declination g___earth_Frame__To   (fun d => (k d).bind q) := by
  simp only [K_astrolabelaw8_EarthKnown, bnd_cond, bnd_bind, bnd_none, bnd_sum]
theorem qa_astrolabelaw8_EarthKnown : ∀ b, (QA_astrolabelaw8_EarthKnown).em b = ([], []) := fun b => by kernel_rfl
theorem e_astrolabelaw8_EarthKnown {f : Option (Bool)} {args : List AV} {h : List Blk} {r : Res} (hr : (F_astrolabelaw8_EarthKnown f args h).eval = some r) : args = [] ∧ h = [] ∧ (f ).bind (fun (d : Bool) => some (Res.mk (AV.r (RV.c (CV.f (FV.b d)))) [] [])) = some r := by
  unfold F_astrolabelaw8_EarthKnown at hr
  split at hr
  · rename_i b hb
    have e := ((QA_astrolabelaw8_EarthKnown).ok _ _ hb).trans (qa_astrolabelaw8_EarthKnown b)
    rw [opt_eval2] at hr
    exact ⟨(Prod.mk.inj e).1, (Prod.mk.inj e).2, hr⟩
  · cases hr
theorem n_astrolabelaw8_EarthKnown {σ : Type} (q : (Bool) → Option σ)  : (f_astrolabelaw8_EarthKnown ).bind q = K_astrolabelaw8_EarthKnown f_astrolabelaw8_awake f_earth_New f_earth_Declination f___earth_Frame__To   q := by
  unfold f_astrolabelaw8_EarthKnown
  exact m_astrolabelaw8_EarthKnown q f_astrolabelaw8_awake f_earth_New f_earth_Declination f___earth_Frame__To    some
theorem s_astrolabelaw8_EarthKnown : Sound Try.prog 9 (F_astrolabelaw8_EarthKnown f_astrolabelaw8_EarthKnown) :=
  (inl_sound (l := [(36, F_astrolabelaw8_awake f_astrolabelaw8_awake), (37, F_earth_New f_earth_New), (38, F_earth_Declination f_earth_Declination), (39, F___earth_Frame__To f___earth_Frame__To)]) (.cons s_astrolabelaw8_awake (.cons s_earth_New (.cons s_earth_Declination (.cons s___earth_Frame__To (.nil _))))) mixed [] [] 200 (by kernel_rfl)).by (F := F_astrolabelaw8_EarthKnown f_astrolabelaw8_EarthKnown) fun args b r hr => by
  obtain ⟨rfl, rfl, hr1⟩ := e_astrolabelaw8_EarthKnown hr
  exact inl_eval ((d_astrolabelaw8_EarthKnown f_astrolabelaw8_awake f_earth_New f_earth_Declination f___earth_Frame__To  ).trans ((n_astrolabelaw8_EarthKnown (fun (d : Bool) => some (Res.mk (AV.r (RV.c (CV.f (FV.b d)))) [] [])) ).symm.trans hr1))

end Go.Proofs.Ytcalippagaaikaa
