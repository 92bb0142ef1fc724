/-
  Texts put together: E2 E3 WS WT RTC WYC WZ WQ WU REC
-/
import Derived.Test.YtcalippagaaikaaEP2
/-
  Contracts by plain functions: earth.New$1, earth.New, earth.hundredths, earth.Declination$1, earth.Declination$2, earth.Declination, (*earth.Frame).Scale, astrolabelaw8.awake, astrolabelaw8.EarthKnown
-/
section
set_option maxRecDepth 100000
set_option maxHeartbeats 4000000
set_option linter.unusedVariables false
namespace Go.Proofs.Ytcalippagaaikaa
open Go.Ab
def K_earth_New_1 {ρ : Type} (g___fx_Acc__Mul : Int → Int → Int → Bool → Option (Int × Bool))  (x0 : Int) (x1 : Int) (x2 : Bool) (k : (Int × Bool) → Option ρ) : Option ρ :=
  Option.bind (g___fx_Acc__Mul x0 x1 30 x2) fun (d : Int × Bool) => k (d.1, d.2)
def f_earth_New_1 (x0 : Int) (x1 : Int) (x2 : Bool) : Option (Int × Bool) := K_earth_New_1 f___fx_Acc__Mul  x0 x1 x2 some
section
open Go.Ab.Rdr
def QA_earth_New_1 := ((pair (cons (ar (rc (cf (fi .i64 hole)))) (cons (ar (rc (cf (fi .i64 hole)))) (cons (ar (rc (cptr (nat 0) (ok' (nat 0)) (nat 1)))) nil))) (cons (cons (gc (cptr (nat 1) (ok' (nat 0)) (nat 1))) nil) (cons (cons (gc (cf (fb hole))) nil) nil))) : Rdr (List AV × List Blk) _)
end
def F_earth_New_1 (f : (Int) → (Int) → (Bool) → Option (Int × Bool)) : Sem1 := fun args h => match (QA_earth_New_1).rd (args, h) with
  | some b => .opt (f b.1.1 b.1.2.1 b.2.2.1.1) fun (d : Int × Bool) => .leaf (Res.mk (AV.r (RV.c (CV.f (FV.i IntKind.i64 d.1)))) [Ch.keep, Ch.set [Sg.c (CV.f (FV.b d.2))]] [])
  | none => .fail
theorem d_earth_New_1 (g___fx_Acc__Mul : Int → Int → Int → Bool → Option (Int × Bool))  (x0 : Int) (x1 : Int) (x2 : Bool) : den Try.prog (envOf [(67, F___fx_Acc__Mul g___fx_Acc__Mul)]) ⟨[], [], [], [], none⟩ 200 66 [.r (.c (.f (.i .i64 x0))), .r (.c (.f (.i .i64 x1))), .r (.c (.ptr 0 (.k 0) 1))] [[.c (.ptr 1 (.k 0) 1)], [.c (.f (.b x2))]] =
    K_earth_New_1 g___fx_Acc__Mul  x0 x1 x2 (fun (d : Int × Bool) => some (Res.mk (AV.r (RV.c (CV.f (FV.i IntKind.i64 d.1)))) [Ch.keep, Ch.set [Sg.c (CV.f (FV.b d.2))]] [])) := by kernel_rfl
theorem m_earth_New_1 {ρ σ : Type} (q : ρ → Option σ) (g___fx_Acc__Mul : Int → Int → Int → Bool → Option (Int × Bool))   (x0 : Int) (x1 : Int) (x2 : Bool) (k : (Int × Bool) → Option ρ) : (K_earth_New_1 g___fx_Acc__Mul  x0 x1 x2 k).bind q = K_earth_New_1 g___fx_Acc__Mul  x0 x1 x2 (fun d => (k d).bind q) := by
  simp only [K_earth_New_1, bnd_cond, bnd_bind, bnd_none, bnd_sum]
theorem qa_earth_New_1 : ∀ b, (QA_earth_New_1).em b = ([.r (.c (.f (.i .i64 b.1.1))), .r (.c (.f (.i .i64 b.1.2.1))), .r (.c (.ptr 0 (.k 0) 1))], [[.c (.ptr 1 (.k 0) 1)], [.c (.f (.b b.2.2.1.1))]]) := fun b => by kernel_rfl
theorem e_earth_New_1 {f : (Int) → (Int) → (Bool) → Option (Int × Bool)} {args : List AV} {h : List Blk} {r : Res} (hr : (F_earth_New_1 f args h).eval = some r) : ∃ x0 x1 x2, args = [.r (.c (.f (.i .i64 x0))), .r (.c (.f (.i .i64 x1))), .r (.c (.ptr 0 (.k 0) 1))] ∧ h = [[.c (.ptr 1 (.k 0) 1)], [.c (.f (.b x2))]] ∧ (f x0 x1 x2).bind (fun (d : Int × Bool) => some (Res.mk (AV.r (RV.c (CV.f (FV.i IntKind.i64 d.1)))) [Ch.keep, Ch.set [Sg.c (CV.f (FV.b d.2))]] [])) = some r := by
  unfold F_earth_New_1 at hr
  split at hr
  · rename_i b hb
    have e := ((QA_earth_New_1).ok _ _ hb).trans (qa_earth_New_1 b)
    rw [opt_eval2] at hr
    exact ⟨b.1.1, b.1.2.1, b.2.2.1.1, (Prod.mk.inj e).1, (Prod.mk.inj e).2, hr⟩
  · cases hr
theorem n_earth_New_1 {σ : Type} (q : (Int × Bool) → Option σ) (x0 : Int) (x1 : Int) (x2 : Bool) : (f_earth_New_1 x0 x1 x2).bind q = K_earth_New_1 f___fx_Acc__Mul  x0 x1 x2 q := by
  unfold f_earth_New_1
  exact m_earth_New_1 q f___fx_Acc__Mul   x0 x1 x2 some
theorem s_earth_New_1 : Sound Try.prog 66 (F_earth_New_1 f_earth_New_1) :=
  (inl_sound (l := [(67, F___fx_Acc__Mul f___fx_Acc__Mul)]) (.cons s___fx_Acc__Mul (.nil _)) mixed [] [] 200 (by kernel_rfl)).by (F := F_earth_New_1 f_earth_New_1) fun args b r hr => by
  obtain ⟨x0, x1, x2, rfl, rfl, hr1⟩ := e_earth_New_1 hr
  exact inl_eval ((d_earth_New_1 f___fx_Acc__Mul  x0 x1 x2).trans ((n_earth_New_1 (fun (d : Int × Bool) => some (Res.mk (AV.r (RV.c (CV.f (FV.i IntKind.i64 d.1)))) [Ch.keep, Ch.set [Sg.c (CV.f (FV.b d.2))]] [])) x0 x1 x2).symm.trans hr1))

def K_earth_New {ρ : Type} (g_earth_Good : Int → Int → Int → Option Bool) (g_earth_New_1 : Int → Int → Bool → Option (Int × Bool)) (g___fx_Acc__MulDiv : Int → Int → Int → Bool → Option (Int × Bool)) (g_trig_Sin : Int → Bool → Option (Int × Bool)) (g_trig_Cos : Int → Bool → Option (Int × Bool)) (g_root_Sqrt : Int → Bool → Option (Int × Bool)) (g___fx_Acc__Div : Int → Int → Int → Bool → Option (Int × Bool))  (x0 : Int) (x1 : Int) (x2 : Int) (k : (Unit ⊕ Int × Int × Int × Int × Int) → Option ρ) : Option ρ :=
  Option.bind (g_earth_Good x0 x1 x2) fun (d : Bool) =>
    bif !d then k (Sum.inl ())
    else
      bif decide (x0 > 850000000) then k (Sum.inl ())
      else
        bif decide (x0 < -850000000) then k (Sum.inl ())
        else
          Option.bind (g___fx_Acc__MulDiv x0 3373259426 1800000000 false) fun (d : Int × Bool) =>
            Option.bind (g_trig_Sin d.1 d.2) fun (d_1 : Int × Bool) =>
              Option.bind (g_trig_Cos d.1 d_1.2) fun (d : Int × Bool) =>
                Option.bind (g_earth_New_1 d_1.1 d_1.1 d.2) fun (d_2 : Int × Bool) =>
                  Option.bind (g_earth_New_1 7188036 d_2.1 d_2.2) fun (d_3 : Int × Bool) =>
                    Option.bind (g_root_Sqrt (IntKind.wrap IntKind.i64 (1073741824 - d_3.1)) d_3.2) fun (d_4 : Int × Bool) =>
                      Option.bind (g___fx_Acc__Div 6531212288 d_4.1 30 d_4.2) fun (d_5 : Int × Bool) =>
                        Option.bind (g_earth_New_1 6531212288 1066553788 d_5.2) fun (d_6 : Int × Bool) =>
                          Option.bind (g_earth_New_1 (IntKind.wrap IntKind.i64 (1073741824 - d_3.1)) d_4.1 d_6.2) fun (d_7 : Int × Bool) =>
                            Option.bind (g___fx_Acc__Div d_6.1 d_7.1 30 d_7.2) fun (d_8 : Int × Bool) =>
                              Option.bind (g___fx_Acc__MulDiv d_8.1 3373259426 1800000000 d_8.2) fun (d_9 : Int × Bool) =>
                                Option.bind (g_earth_New_1 d_5.1 d.1 d_9.2) fun (d : Int × Bool) =>
                                  Option.bind (g___fx_Acc__MulDiv d.1 3373259426 1800000000 d.2) fun (d : Int × Bool) => k (Sum.inr (x0, x1, x2, d_9.1, d.1))
def f_earth_New (x0 : Int) (x1 : Int) (x2 : Int) : Option (Unit ⊕ Int × Int × Int × Int × Int) := K_earth_New f_earth_Good f_earth_New_1 f___fx_Acc__MulDiv f_trig_Sin f_trig_Cos f_root_Sqrt f___fx_Acc__Div  x0 x1 x2 some
section
open Go.Ab.Rdr
def QA_earth_New := ((pair (cons (ar (ra (cons (gc (cf (fi .i64 hole))) (cons (gc (cf (fi .i64 hole))) (cons (gc (cf (fi .i64 hole))) nil))))) nil) nil) : Rdr (List AV × List Blk) _)
end
def F_earth_New (f : (Int) → (Int) → (Int) → Option (Unit ⊕ Int × Int × Int × Int × Int)) : Sem1 := fun args h => match (QA_earth_New).rd (args, h) with
  | some b => .opt (f b.1.1.1 b.1.1.2.1 b.1.1.2.2.1) fun d0 => T.sum d0 (fun (d : Unit) => .leaf (Res.mk (AV.tup [RV.c CV.nilp, RV.c (CV.f (FV.i IntKind.i64 1))]) [] [])) (fun (d : Int × Int × Int × Int × Int) => .leaf (Res.mk (AV.tup [RV.c (CV.ptr 0 (Off.k 0) 5), RV.c (CV.f (FV.i IntKind.i64 0))]) []
    [[Sg.c (CV.f (FV.i IntKind.i64 d.1)), Sg.c (CV.f (FV.i IntKind.i64 d.2.1)), Sg.c (CV.f (FV.i IntKind.i64 d.2.2.1)), Sg.c (CV.f (FV.i IntKind.i64 d.2.2.2.1)),
        Sg.c (CV.f (FV.i IntKind.i64 d.2.2.2.2))]]))
  | none => .fail
theorem d_earth_New (g_earth_Good : Int → Int → Int → Option Bool) (g_earth_New_1 : Int → Int → Bool → Option (Int × Bool)) (g___fx_Acc__MulDiv : Int → Int → Int → Bool → Option (Int × Bool)) (g_trig_Sin : Int → Bool → Option (Int × Bool)) (g_trig_Cos : Int → Bool → Option (Int × Bool)) (g_root_Sqrt : Int → Bool → Option (Int × Bool)) (g___fx_Acc__Div : Int → Int → Int → Bool → Option (Int × Bool))  (x0 : Int) (x1 : Int) (x2 : Int) : den Try.prog (envOf [(40, F_earth_Good g_earth_Good), (66, F_earth_New_1 g_earth_New_1), (68, F___fx_Acc__MulDiv g___fx_Acc__MulDiv), (69, F_trig_Sin g_trig_Sin), (70, F_trig_Cos g_trig_Cos), (71, F_root_Sqrt g_root_Sqrt), (72, F___fx_Acc__Div g___fx_Acc__Div)]) ⟨[], [], [], [], none⟩ 200 37 [.r (.agg [.c (.f (.i .i64 x0)), .c (.f (.i .i64 x1)), .c (.f (.i .i64 x2))])] [] =
    K_earth_New g_earth_Good g_earth_New_1 g___fx_Acc__MulDiv g_trig_Sin g_trig_Cos g_root_Sqrt g___fx_Acc__Div  x0 x1 x2 ((Sum.elim (fun (d : Unit) => some (Res.mk (AV.tup [RV.c CV.nilp, RV.c (CV.f (FV.i IntKind.i64 1))]) [] [])) (fun (d : Int × Int × Int × Int × Int) => some (Res.mk (AV.tup [RV.c (CV.ptr 0 (Off.k 0) 5), RV.c (CV.f (FV.i IntKind.i64 0))]) []
    [[Sg.c (CV.f (FV.i IntKind.i64 d.1)), Sg.c (CV.f (FV.i IntKind.i64 d.2.1)), Sg.c (CV.f (FV.i IntKind.i64 d.2.2.1)), Sg.c (CV.f (FV.i IntKind.i64 d.2.2.2.1)),
        Sg.c (CV.f (FV.i IntKind.i64 d.2.2.2.2))]])))) := by kernel_rfl
theorem m_earth_New {ρ σ : Type} (q : ρ → Option σ) (g_earth_Good : Int → Int → Int → Option Bool) (g_earth_New_1 : Int → Int → Bool → Option (Int × Bool)) (g___fx_Acc__MulDiv : Int → Int → Int → Bool → Option (Int × Bool)) (g_trig_Sin : Int → Bool → Option (Int × Bool)) (g_trig_Cos : Int → Bool → Option (Int × Bool)) (g_root_Sqrt : Int → Bool → Option (Int × Bool)) (g___fx_Acc__Div : Int → Int → Int → Bool → Option (Int × Bool))   (x0 : Int) (x1 : Int) (x2 : Int) (k : (Unit ⊕ Int × Int × Int × Int × Int) → Option ρ) : (K_earth_New g_earth_Good g_earth_New_1 g___fx_Acc__MulDiv g_trig_Sin g_trig_Cos g_root_Sqrt g___fx_Acc__Div  x0 x1 x2 k).bind q = K_earth_New g_earth_Good g_earth_New_1 g___fx_Acc__MulDiv g_trig_Sin g_trig_Cos g_root_Sqrt g___fx_Acc__Div  x0 x1 x2 (fun d => (k d).bind q) := by
  simp only [K_earth_New, bnd_cond, bnd_bind, bnd_none, bnd_sum]
theorem qa_earth_New : ∀ b, (QA_earth_New).em b = ([.r (.agg [.c (.f (.i .i64 b.1.1.1)), .c (.f (.i .i64 b.1.1.2.1)), .c (.f (.i .i64 b.1.1.2.2.1))])], []) := fun b => by kernel_rfl
theorem e_earth_New {f : (Int) → (Int) → (Int) → Option (Unit ⊕ Int × Int × Int × Int × Int)} {args : List AV} {h : List Blk} {r : Res} (hr : (F_earth_New f args h).eval = some r) : ∃ x0 x1 x2, args = [.r (.agg [.c (.f (.i .i64 x0)), .c (.f (.i .i64 x1)), .c (.f (.i .i64 x2))])] ∧ h = [] ∧ (f x0 x1 x2).bind ((Sum.elim (fun (d : Unit) => some (Res.mk (AV.tup [RV.c CV.nilp, RV.c (CV.f (FV.i IntKind.i64 1))]) [] [])) (fun (d : Int × Int × Int × Int × Int) => some (Res.mk (AV.tup [RV.c (CV.ptr 0 (Off.k 0) 5), RV.c (CV.f (FV.i IntKind.i64 0))]) []
    [[Sg.c (CV.f (FV.i IntKind.i64 d.1)), Sg.c (CV.f (FV.i IntKind.i64 d.2.1)), Sg.c (CV.f (FV.i IntKind.i64 d.2.2.1)), Sg.c (CV.f (FV.i IntKind.i64 d.2.2.2.1)),
        Sg.c (CV.f (FV.i IntKind.i64 d.2.2.2.2))]])))) = some r := by
  unfold F_earth_New at hr
  split at hr
  · rename_i b hb
    have e := ((QA_earth_New).ok _ _ hb).trans (qa_earth_New b)
    rw [opt_eval2] at hr
    simp only [sum_eval, leaf_eval] at hr
    exact ⟨b.1.1.1, b.1.1.2.1, b.1.1.2.2.1, (Prod.mk.inj e).1, (Prod.mk.inj e).2, hr⟩
  · cases hr
theorem n_earth_New {σ : Type} (q : (Unit ⊕ Int × Int × Int × Int × Int) → Option σ) (x0 : Int) (x1 : Int) (x2 : Int) : (f_earth_New x0 x1 x2).bind q = K_earth_New f_earth_Good f_earth_New_1 f___fx_Acc__MulDiv f_trig_Sin f_trig_Cos f_root_Sqrt f___fx_Acc__Div  x0 x1 x2 q := by
  unfold f_earth_New
  exact m_earth_New q f_earth_Good f_earth_New_1 f___fx_Acc__MulDiv f_trig_Sin f_trig_Cos f_root_Sqrt f___fx_Acc__Div   x0 x1 x2 some
theorem s_earth_New : Sound Try.prog 37 (F_earth_New f_earth_New) :=
  (inl_sound (l := [(40, F_earth_Good f_earth_Good), (66, F_earth_New_1 f_earth_New_1), (68, F___fx_Acc__MulDiv f___fx_Acc__MulDiv), (69, F_trig_Sin f_trig_Sin), (70, F_trig_Cos f_trig_Cos), (71, F_root_Sqrt f_root_Sqrt), (72, F___fx_Acc__Div f___fx_Acc__Div)]) (.cons s_earth_Good (.cons s_earth_New_1 (.cons s___fx_Acc__MulDiv (.cons s_trig_Sin (.cons s_trig_Cos (.cons s_root_Sqrt (.cons s___fx_Acc__Div (.nil _)))))))) mixed [] [] 200 (by kernel_rfl)).by (F := F_earth_New f_earth_New) fun args b r hr => by
  obtain ⟨x0, x1, x2, rfl, rfl, hr1⟩ := e_earth_New hr
  exact inl_eval ((d_earth_New f_earth_Good f_earth_New_1 f___fx_Acc__MulDiv f_trig_Sin f_trig_Cos f_root_Sqrt f___fx_Acc__Div  x0 x1 x2).trans ((n_earth_New ((Sum.elim (fun (d : Unit) => some (Res.mk (AV.tup [RV.c CV.nilp, RV.c (CV.f (FV.i IntKind.i64 1))]) [] [])) (fun (d : Int × Int × Int × Int × Int) => some (Res.mk (AV.tup [RV.c (CV.ptr 0 (Off.k 0) 5), RV.c (CV.f (FV.i IntKind.i64 0))]) []
    [[Sg.c (CV.f (FV.i IntKind.i64 d.1)), Sg.c (CV.f (FV.i IntKind.i64 d.2.1)), Sg.c (CV.f (FV.i IntKind.i64 d.2.2.1)), Sg.c (CV.f (FV.i IntKind.i64 d.2.2.2.1)),
        Sg.c (CV.f (FV.i IntKind.i64 d.2.2.2.2))]])))) x0 x1 x2).symm.trans hr1))

def K_earth_hundredths {ρ : Type}    (k : (Unit) → Option ρ) : Option ρ :=
  k ()
def f_earth_hundredths  : Option (Unit) := K_earth_hundredths    some
section
open Go.Ab.Rdr
def QA_earth_hundredths := ((pair nil nil) : Rdr (List AV × List Blk) _)
end
def F_earth_hundredths (f : Option (Unit)) : Sem1 := fun args h => match (QA_earth_hundredths).rd (args, h) with
  | some b => .opt (f ) fun (d : Unit) => .leaf (Res.mk
    (AV.r
      (RV.agg
        [Sg.c (CV.f (FV.i IntKind.i64 3000)), Sg.c (CV.f (FV.i IntKind.i64 6000)), Sg.c (CV.f (FV.i IntKind.i64 (-2000))), Sg.c (CV.f (FV.i IntKind.i64 (-1500))),
          Sg.c (CV.f (FV.i IntKind.i64 (-6000))), Sg.c (CV.f (FV.i IntKind.i64 (-9000))), Sg.c (CV.f (FV.i IntKind.i64 3000)), Sg.c (CV.f (FV.i IntKind.i64 2200)), Sg.c (CV.f (FV.i IntKind.i64 2500)),
          Sg.c (CV.f (FV.i IntKind.i64 500)), Sg.c (CV.f (FV.i IntKind.i64 (-2200))), Sg.c (CV.f (FV.i IntKind.i64 (-3800))), Sg.c (CV.f (FV.i IntKind.i64 0)), Sg.c (CV.f (FV.i IntKind.i64 2200)),
          Sg.c (CV.f (FV.i IntKind.i64 950)), Sg.c (CV.f (FV.i IntKind.i64 900)), Sg.c (CV.f (FV.i IntKind.i64 (-1400))), Sg.c (CV.f (FV.i IntKind.i64 (-500))), Sg.c (CV.f (FV.i IntKind.i64 (-300))),
          Sg.c (CV.f (FV.i IntKind.i64 100)), Sg.c (CV.f (FV.i IntKind.i64 950)), Sg.c (CV.f (FV.i IntKind.i64 500)), Sg.c (CV.f (FV.i IntKind.i64 1500)), Sg.c (CV.f (FV.i IntKind.i64 (-1700))),
          Sg.c (CV.f (FV.i IntKind.i64 100)), Sg.c (CV.f (FV.i IntKind.i64 700)), Sg.c (CV.f (FV.i IntKind.i64 (-800))), Sg.c (CV.f (FV.i IntKind.i64 500)), Sg.c (CV.f (FV.i IntKind.i64 1000)),
          Sg.c (CV.f (FV.i IntKind.i64 4000)), Sg.c (CV.f (FV.i IntKind.i64 (-3000))), Sg.c (CV.f (FV.i IntKind.i64 500)), Sg.c (CV.f (FV.i IntKind.i64 3500)), Sg.c (CV.f (FV.i IntKind.i64 (-1200))),
          Sg.c (CV.f (FV.i IntKind.i64 1000))]))
    [] [])
  | none => .fail
theorem d_earth_hundredths    : den Try.prog (envOf []) ⟨[], [], [], [], none⟩ 200 73 [] [] =
    K_earth_hundredths    (fun (d : Unit) => some (Res.mk
    (AV.r
      (RV.agg
        [Sg.c (CV.f (FV.i IntKind.i64 3000)), Sg.c (CV.f (FV.i IntKind.i64 6000)), Sg.c (CV.f (FV.i IntKind.i64 (-2000))), Sg.c (CV.f (FV.i IntKind.i64 (-1500))),
          Sg.c (CV.f (FV.i IntKind.i64 (-6000))), Sg.c (CV.f (FV.i IntKind.i64 (-9000))), Sg.c (CV.f (FV.i IntKind.i64 3000)), Sg.c (CV.f (FV.i IntKind.i64 2200)), Sg.c (CV.f (FV.i IntKind.i64 2500)),
          Sg.c (CV.f (FV.i IntKind.i64 500)), Sg.c (CV.f (FV.i IntKind.i64 (-2200))), Sg.c (CV.f (FV.i IntKind.i64 (-3800))), Sg.c (CV.f (FV.i IntKind.i64 0)), Sg.c (CV.f (FV.i IntKind.i64 2200)),
          Sg.c (CV.f (FV.i IntKind.i64 950)), Sg.c (CV.f (FV.i IntKind.i64 900)), Sg.c (CV.f (FV.i IntKind.i64 (-1400))), Sg.c (CV.f (FV.i IntKind.i64 (-500))), Sg.c (CV.f (FV.i IntKind.i64 (-300))),
          Sg.c (CV.f (FV.i IntKind.i64 100)), Sg.c (CV.f (FV.i IntKind.i64 950)), Sg.c (CV.f (FV.i IntKind.i64 500)), Sg.c (CV.f (FV.i IntKind.i64 1500)), Sg.c (CV.f (FV.i IntKind.i64 (-1700))),
          Sg.c (CV.f (FV.i IntKind.i64 100)), Sg.c (CV.f (FV.i IntKind.i64 700)), Sg.c (CV.f (FV.i IntKind.i64 (-800))), Sg.c (CV.f (FV.i IntKind.i64 500)), Sg.c (CV.f (FV.i IntKind.i64 1000)),
          Sg.c (CV.f (FV.i IntKind.i64 4000)), Sg.c (CV.f (FV.i IntKind.i64 (-3000))), Sg.c (CV.f (FV.i IntKind.i64 500)), Sg.c (CV.f (FV.i IntKind.i64 3500)), Sg.c (CV.f (FV.i IntKind.i64 (-1200))),
          Sg.c (CV.f (FV.i IntKind.i64 1000))]))
    [] [])) := by kernel_rfl
theorem m_earth_hundredths {ρ σ : Type} (q : ρ → Option σ)     (k : (Unit) → Option ρ) : (K_earth_hundredths    k).bind q = K_earth_hundredths    (fun d => (k d).bind q) := by
  simp only [K_earth_hundredths, bnd_cond, bnd_bind, bnd_none, bnd_sum]
theorem qa_earth_hundredths : ∀ b, (QA_earth_hundredths).em b = ([], []) := fun b => by kernel_rfl
theorem e_earth_hundredths {f : Option (Unit)} {args : List AV} {h : List Blk} {r : Res} (hr : (F_earth_hundredths f args h).eval = some r) : args = [] ∧ h = [] ∧ (f ).bind (fun (d : Unit) => some (Res.mk
    (AV.r
      (RV.agg
        [Sg.c (CV.f (FV.i IntKind.i64 3000)), Sg.c (CV.f (FV.i IntKind.i64 6000)), Sg.c (CV.f (FV.i IntKind.i64 (-2000))), Sg.c (CV.f (FV.i IntKind.i64 (-1500))),
          Sg.c (CV.f (FV.i IntKind.i64 (-6000))), Sg.c (CV.f (FV.i IntKind.i64 (-9000))), Sg.c (CV.f (FV.i IntKind.i64 3000)), Sg.c (CV.f (FV.i IntKind.i64 2200)), Sg.c (CV.f (FV.i IntKind.i64 2500)),
          Sg.c (CV.f (FV.i IntKind.i64 500)), Sg.c (CV.f (FV.i IntKind.i64 (-2200))), Sg.c (CV.f (FV.i IntKind.i64 (-3800))), Sg.c (CV.f (FV.i IntKind.i64 0)), Sg.c (CV.f (FV.i IntKind.i64 2200)),
          Sg.c (CV.f (FV.i IntKind.i64 950)), Sg.c (CV.f (FV.i IntKind.i64 900)), Sg.c (CV.f (FV.i IntKind.i64 (-1400))), Sg.c (CV.f (FV.i IntKind.i64 (-500))), Sg.c (CV.f (FV.i IntKind.i64 (-300))),
          Sg.c (CV.f (FV.i IntKind.i64 100)), Sg.c (CV.f (FV.i IntKind.i64 950)), Sg.c (CV.f (FV.i IntKind.i64 500)), Sg.c (CV.f (FV.i IntKind.i64 1500)), Sg.c (CV.f (FV.i IntKind.i64 (-1700))),
          Sg.c (CV.f (FV.i IntKind.i64 100)), Sg.c (CV.f (FV.i IntKind.i64 700)), Sg.c (CV.f (FV.i IntKind.i64 (-800))), Sg.c (CV.f (FV.i IntKind.i64 500)), Sg.c (CV.f (FV.i IntKind.i64 1000)),
          Sg.c (CV.f (FV.i IntKind.i64 4000)), Sg.c (CV.f (FV.i IntKind.i64 (-3000))), Sg.c (CV.f (FV.i IntKind.i64 500)), Sg.c (CV.f (FV.i IntKind.i64 3500)), Sg.c (CV.f (FV.i IntKind.i64 (-1200))),
          Sg.c (CV.f (FV.i IntKind.i64 1000))]))
    [] [])) = some r := by
  unfold F_earth_hundredths at hr
  split at hr
  · rename_i b hb
    have e := ((QA_earth_hundredths).ok _ _ hb).trans (qa_earth_hundredths b)
    rw [opt_eval2] at hr
    exact ⟨(Prod.mk.inj e).1, (Prod.mk.inj e).2, hr⟩
  · cases hr
theorem n_earth_hundredths {σ : Type} (q : (Unit) → Option σ)  : (f_earth_hundredths ).bind q = K_earth_hundredths    q := by
  unfold f_earth_hundredths
  exact m_earth_hundredths q     some
theorem s_earth_hundredths : Sound Try.prog 73 (F_earth_hundredths f_earth_hundredths) :=
  (inl_sound (l := []) (.nil _) mixed [] [] 200 (by kernel_rfl)).by (F := F_earth_hundredths f_earth_hundredths) fun args b r hr => by
  obtain ⟨rfl, rfl, hr1⟩ := e_earth_hundredths hr
  exact inl_eval ((d_earth_hundredths   ).trans ((n_earth_hundredths (fun (d : Unit) => some (Res.mk
    (AV.r
      (RV.agg
        [Sg.c (CV.f (FV.i IntKind.i64 3000)), Sg.c (CV.f (FV.i IntKind.i64 6000)), Sg.c (CV.f (FV.i IntKind.i64 (-2000))), Sg.c (CV.f (FV.i IntKind.i64 (-1500))),
          Sg.c (CV.f (FV.i IntKind.i64 (-6000))), Sg.c (CV.f (FV.i IntKind.i64 (-9000))), Sg.c (CV.f (FV.i IntKind.i64 3000)), Sg.c (CV.f (FV.i IntKind.i64 2200)), Sg.c (CV.f (FV.i IntKind.i64 2500)),
          Sg.c (CV.f (FV.i IntKind.i64 500)), Sg.c (CV.f (FV.i IntKind.i64 (-2200))), Sg.c (CV.f (FV.i IntKind.i64 (-3800))), Sg.c (CV.f (FV.i IntKind.i64 0)), Sg.c (CV.f (FV.i IntKind.i64 2200)),
          Sg.c (CV.f (FV.i IntKind.i64 950)), Sg.c (CV.f (FV.i IntKind.i64 900)), Sg.c (CV.f (FV.i IntKind.i64 (-1400))), Sg.c (CV.f (FV.i IntKind.i64 (-500))), Sg.c (CV.f (FV.i IntKind.i64 (-300))),
          Sg.c (CV.f (FV.i IntKind.i64 100)), Sg.c (CV.f (FV.i IntKind.i64 950)), Sg.c (CV.f (FV.i IntKind.i64 500)), Sg.c (CV.f (FV.i IntKind.i64 1500)), Sg.c (CV.f (FV.i IntKind.i64 (-1700))),
          Sg.c (CV.f (FV.i IntKind.i64 100)), Sg.c (CV.f (FV.i IntKind.i64 700)), Sg.c (CV.f (FV.i IntKind.i64 (-800))), Sg.c (CV.f (FV.i IntKind.i64 500)), Sg.c (CV.f (FV.i IntKind.i64 1000)),
          Sg.c (CV.f (FV.i IntKind.i64 4000)), Sg.c (CV.f (FV.i IntKind.i64 (-3000))), Sg.c (CV.f (FV.i IntKind.i64 500)), Sg.c (CV.f (FV.i IntKind.i64 3500)), Sg.c (CV.f (FV.i IntKind.i64 (-1200))),
          Sg.c (CV.f (FV.i IntKind.i64 1000))]))
    [] [])) ).symm.trans hr1))

def K_earth_Declination_1 {ρ : Type} (g___fx_Acc__MulDiv : Int → Int → Int → Bool → Option (Int × Bool))  (x0 : Int) (x1 : Int) (x2 : Int) (x3 : Int) (x4 : Bool) (k : (Int × Bool) → Option ρ) : Option ρ :=
  Option.bind (g___fx_Acc__MulDiv (IntKind.wrap IntKind.i64 (x1 - x0)) x2 x3 x4) fun (d : Int × Bool) => k (IntKind.wrap IntKind.i64 (x0 + d.1), d.2)
def f_earth_Declination_1 (x0 : Int) (x1 : Int) (x2 : Int) (x3 : Int) (x4 : Bool) : Option (Int × Bool) := K_earth_Declination_1 f___fx_Acc__MulDiv  x0 x1 x2 x3 x4 some
section
open Go.Ab.Rdr
def QA_earth_Declination_1 := ((pair (cons (ar (rc (cf (fi .i64 hole)))) (cons (ar (rc (cf (fi .i64 hole)))) (cons (ar (rc (cf (fi .i64 hole)))) (cons (ar (rc (cf (fi .i64 hole)))) (cons (ar (rc (cptr (nat 0) (ok' (nat 0)) (nat 1)))) nil))))) (cons (cons (gc (cptr (nat 1) (ok' (nat 0)) (nat 1))) nil) (cons (cons (gc (cf (fb hole))) nil) nil))) : Rdr (List AV × List Blk) _)
end
def F_earth_Declination_1 (f : (Int) → (Int) → (Int) → (Int) → (Bool) → Option (Int × Bool)) : Sem1 := fun args h => match (QA_earth_Declination_1).rd (args, h) with
  | some b => .opt (f b.1.1 b.1.2.1 b.1.2.2.1 b.1.2.2.2.1 b.2.2.1.1) fun (d : Int × Bool) => .leaf (Res.mk (AV.r (RV.c (CV.f (FV.i IntKind.i64 d.1)))) [Ch.keep, Ch.set [Sg.c (CV.f (FV.b d.2))]] [])
  | none => .fail
theorem d_earth_Declination_1 (g___fx_Acc__MulDiv : Int → Int → Int → Bool → Option (Int × Bool))  (x0 : Int) (x1 : Int) (x2 : Int) (x3 : Int) (x4 : Bool) : den Try.prog (envOf [(68, F___fx_Acc__MulDiv g___fx_Acc__MulDiv)]) ⟨[], [], [], [], none⟩ 200 74 [.r (.c (.f (.i .i64 x0))), .r (.c (.f (.i .i64 x1))), .r (.c (.f (.i .i64 x2))), .r (.c (.f (.i .i64 x3))), .r (.c (.ptr 0 (.k 0) 1))] [[.c (.ptr 1 (.k 0) 1)], [.c (.f (.b x4))]] =
    K_earth_Declination_1 g___fx_Acc__MulDiv  x0 x1 x2 x3 x4 (fun (d : Int × Bool) => some (Res.mk (AV.r (RV.c (CV.f (FV.i IntKind.i64 d.1)))) [Ch.keep, Ch.set [Sg.c (CV.f (FV.b d.2))]] [])) := by kernel_rfl
theorem m_earth_Declination_1 {ρ σ : Type} (q : ρ → Option σ) (g___fx_Acc__MulDiv : Int → Int → Int → Bool → Option (Int × Bool))   (x0 : Int) (x1 : Int) (x2 : Int) (x3 : Int) (x4 : Bool) (k : (Int × Bool) → Option ρ) : (K_earth_Declination_1 g___fx_Acc__MulDiv  x0 x1 x2 x3 x4 k).bind q = K_earth_Declination_1 g___fx_Acc__MulDiv  x0 x1 x2 x3 x4 (fun d => (k d).bind q) := by
  simp only [K_earth_Declination_1, bnd_cond, bnd_bind, bnd_none, bnd_sum]
theorem qa_earth_Declination_1 : ∀ b, (QA_earth_Declination_1).em b = ([.r (.c (.f (.i .i64 b.1.1))), .r (.c (.f (.i .i64 b.1.2.1))), .r (.c (.f (.i .i64 b.1.2.2.1))), .r (.c (.f (.i .i64 b.1.2.2.2.1))), .r (.c (.ptr 0 (.k 0) 1))], [[.c (.ptr 1 (.k 0) 1)], [.c (.f (.b b.2.2.1.1))]]) := fun b => by kernel_rfl
theorem e_earth_Declination_1 {f : (Int) → (Int) → (Int) → (Int) → (Bool) → Option (Int × Bool)} {args : List AV} {h : List Blk} {r : Res} (hr : (F_earth_Declination_1 f args h).eval = some r) : ∃ x0 x1 x2 x3 x4, args = [.r (.c (.f (.i .i64 x0))), .r (.c (.f (.i .i64 x1))), .r (.c (.f (.i .i64 x2))), .r (.c (.f (.i .i64 x3))), .r (.c (.ptr 0 (.k 0) 1))] ∧ h = [[.c (.ptr 1 (.k 0) 1)], [.c (.f (.b x4))]] ∧ (f x0 x1 x2 x3 x4).bind (fun (d : Int × Bool) => some (Res.mk (AV.r (RV.c (CV.f (FV.i IntKind.i64 d.1)))) [Ch.keep, Ch.set [Sg.c (CV.f (FV.b d.2))]] [])) = some r := by
  unfold F_earth_Declination_1 at hr
  split at hr
  · rename_i b hb
    have e := ((QA_earth_Declination_1).ok _ _ hb).trans (qa_earth_Declination_1 b)
    rw [opt_eval2] at hr
    exact ⟨b.1.1, b.1.2.1, b.1.2.2.1, b.1.2.2.2.1, b.2.2.1.1, (Prod.mk.inj e).1, (Prod.mk.inj e).2, hr⟩
  · cases hr
theorem n_earth_Declination_1 {σ : Type} (q : (Int × Bool) → Option σ) (x0 : Int) (x1 : Int) (x2 : Int) (x3 : Int) (x4 : Bool) : (f_earth_Declination_1 x0 x1 x2 x3 x4).bind q = K_earth_Declination_1 f___fx_Acc__MulDiv  x0 x1 x2 x3 x4 q := by
  unfold f_earth_Declination_1
  exact m_earth_Declination_1 q f___fx_Acc__MulDiv   x0 x1 x2 x3 x4 some
theorem s_earth_Declination_1 : Sound Try.prog 74 (F_earth_Declination_1 f_earth_Declination_1) :=
  (inl_sound (l := [(68, F___fx_Acc__MulDiv f___fx_Acc__MulDiv)]) (.cons s___fx_Acc__MulDiv (.nil _)) mixed [] [] 200 (by kernel_rfl)).by (F := F_earth_Declination_1 f_earth_Declination_1) fun args b r hr => by
  obtain ⟨x0, x1, x2, x3, x4, rfl, rfl, hr1⟩ := e_earth_Declination_1 hr
  exact inl_eval ((d_earth_Declination_1 f___fx_Acc__MulDiv  x0 x1 x2 x3 x4).trans ((n_earth_Declination_1 (fun (d : Int × Bool) => some (Res.mk (AV.r (RV.c (CV.f (FV.i IntKind.i64 d.1)))) [Ch.keep, Ch.set [Sg.c (CV.f (FV.b d.2))]] [])) x0 x1 x2 x3 x4).symm.trans hr1))

def K_earth_Declination_2 {ρ : Type} (g_earth_Declination_1 : Int → Int → Int → Int → Bool → Option (Int × Bool))  (x0 : Int) (x1 : Int) (x2 : Int) (x3 : Int) (x4 : Int) (x5 : Int) (x6 : Int) (x7 : Int) (x8 : Int) (x9 : Bool) (k : (Int × Bool) → Option ρ) : Option ρ :=
  bif inR x7 7 then
    bif x7 == 6 then
      bif inR (IntKind.wrap IntKind.i64 (x7 + 1)) 7 then
        bif IntKind.wrap IntKind.i64 (x7 + 1) == 6 then
          Option.bind (g_earth_Declination_1 (IntKind.wrap IntKind.i64 (x6 * 1073741824)) (IntKind.wrap IntKind.i64 (x6 * 1073741824)) x8 600000000 x9) fun (d : Int × Bool) => k (d.1, d.2)
        else
          bif IntKind.wrap IntKind.i64 (x7 + 1) == 5 then
            Option.bind (g_earth_Declination_1 (IntKind.wrap IntKind.i64 (x6 * 1073741824)) (IntKind.wrap IntKind.i64 (x5 * 1073741824)) x8 600000000 x9) fun (d : Int × Bool) => k (d.1, d.2)
          else
            bif IntKind.wrap IntKind.i64 (x7 + 1) == 4 then
              Option.bind (g_earth_Declination_1 (IntKind.wrap IntKind.i64 (x6 * 1073741824)) (IntKind.wrap IntKind.i64 (x4 * 1073741824)) x8 600000000 x9) fun (d : Int × Bool) => k (d.1, d.2)
            else
              bif IntKind.wrap IntKind.i64 (x7 + 1) == 3 then
                Option.bind (g_earth_Declination_1 (IntKind.wrap IntKind.i64 (x6 * 1073741824)) (IntKind.wrap IntKind.i64 (x3 * 1073741824)) x8 600000000 x9) fun (d : Int × Bool) => k (d.1, d.2)
              else
                bif IntKind.wrap IntKind.i64 (x7 + 1) == 2 then
                  Option.bind (g_earth_Declination_1 (IntKind.wrap IntKind.i64 (x6 * 1073741824)) (IntKind.wrap IntKind.i64 (x2 * 1073741824)) x8 600000000 x9) fun (d : Int × Bool) => k (d.1, d.2)
                else
                  bif IntKind.wrap IntKind.i64 (x7 + 1) == 1 then
                    Option.bind (g_earth_Declination_1 (IntKind.wrap IntKind.i64 (x6 * 1073741824)) (IntKind.wrap IntKind.i64 (x1 * 1073741824)) x8 600000000 x9) fun (d : Int × Bool) => k (d.1, d.2)
                  else
                    Option.bind (g_earth_Declination_1 (IntKind.wrap IntKind.i64 (x6 * 1073741824)) (IntKind.wrap IntKind.i64 (x0 * 1073741824)) x8 600000000 x9) fun (d : Int × Bool) => k (d.1, d.2)
      else none
    else
      bif x7 == 5 then
        bif inR (IntKind.wrap IntKind.i64 (x7 + 1)) 7 then
          bif IntKind.wrap IntKind.i64 (x7 + 1) == 6 then
            Option.bind (g_earth_Declination_1 (IntKind.wrap IntKind.i64 (x5 * 1073741824)) (IntKind.wrap IntKind.i64 (x6 * 1073741824)) x8 600000000 x9) fun (d : Int × Bool) => k (d.1, d.2)
          else
            bif IntKind.wrap IntKind.i64 (x7 + 1) == 5 then
              Option.bind (g_earth_Declination_1 (IntKind.wrap IntKind.i64 (x5 * 1073741824)) (IntKind.wrap IntKind.i64 (x5 * 1073741824)) x8 600000000 x9) fun (d : Int × Bool) => k (d.1, d.2)
            else
              bif IntKind.wrap IntKind.i64 (x7 + 1) == 4 then
                Option.bind (g_earth_Declination_1 (IntKind.wrap IntKind.i64 (x5 * 1073741824)) (IntKind.wrap IntKind.i64 (x4 * 1073741824)) x8 600000000 x9) fun (d : Int × Bool) => k (d.1, d.2)
              else
                bif IntKind.wrap IntKind.i64 (x7 + 1) == 3 then
                  Option.bind (g_earth_Declination_1 (IntKind.wrap IntKind.i64 (x5 * 1073741824)) (IntKind.wrap IntKind.i64 (x3 * 1073741824)) x8 600000000 x9) fun (d : Int × Bool) => k (d.1, d.2)
                else
                  bif IntKind.wrap IntKind.i64 (x7 + 1) == 2 then
                    Option.bind (g_earth_Declination_1 (IntKind.wrap IntKind.i64 (x5 * 1073741824)) (IntKind.wrap IntKind.i64 (x2 * 1073741824)) x8 600000000 x9) fun (d : Int × Bool) => k (d.1, d.2)
                  else
                    bif IntKind.wrap IntKind.i64 (x7 + 1) == 1 then
                      Option.bind (g_earth_Declination_1 (IntKind.wrap IntKind.i64 (x5 * 1073741824)) (IntKind.wrap IntKind.i64 (x1 * 1073741824)) x8 600000000 x9) fun (d : Int × Bool) =>
                        k (d.1, d.2)
                    else
                      Option.bind (g_earth_Declination_1 (IntKind.wrap IntKind.i64 (x5 * 1073741824)) (IntKind.wrap IntKind.i64 (x0 * 1073741824)) x8 600000000 x9) fun (d : Int × Bool) =>
                        k (d.1, d.2)
        else none
      else
        bif x7 == 4 then
          bif inR (IntKind.wrap IntKind.i64 (x7 + 1)) 7 then
            bif IntKind.wrap IntKind.i64 (x7 + 1) == 6 then
              Option.bind (g_earth_Declination_1 (IntKind.wrap IntKind.i64 (x4 * 1073741824)) (IntKind.wrap IntKind.i64 (x6 * 1073741824)) x8 600000000 x9) fun (d : Int × Bool) => k (d.1, d.2)
            else
              bif IntKind.wrap IntKind.i64 (x7 + 1) == 5 then
                Option.bind (g_earth_Declination_1 (IntKind.wrap IntKind.i64 (x4 * 1073741824)) (IntKind.wrap IntKind.i64 (x5 * 1073741824)) x8 600000000 x9) fun (d : Int × Bool) => k (d.1, d.2)
              else
                bif IntKind.wrap IntKind.i64 (x7 + 1) == 4 then
                  Option.bind (g_earth_Declination_1 (IntKind.wrap IntKind.i64 (x4 * 1073741824)) (IntKind.wrap IntKind.i64 (x4 * 1073741824)) x8 600000000 x9) fun (d : Int × Bool) => k (d.1, d.2)
                else
                  bif IntKind.wrap IntKind.i64 (x7 + 1) == 3 then
                    Option.bind (g_earth_Declination_1 (IntKind.wrap IntKind.i64 (x4 * 1073741824)) (IntKind.wrap IntKind.i64 (x3 * 1073741824)) x8 600000000 x9) fun (d : Int × Bool) => k (d.1, d.2)
                  else
                    bif IntKind.wrap IntKind.i64 (x7 + 1) == 2 then
                      Option.bind (g_earth_Declination_1 (IntKind.wrap IntKind.i64 (x4 * 1073741824)) (IntKind.wrap IntKind.i64 (x2 * 1073741824)) x8 600000000 x9) fun (d : Int × Bool) =>
                        k (d.1, d.2)
                    else
                      bif IntKind.wrap IntKind.i64 (x7 + 1) == 1 then
                        Option.bind (g_earth_Declination_1 (IntKind.wrap IntKind.i64 (x4 * 1073741824)) (IntKind.wrap IntKind.i64 (x1 * 1073741824)) x8 600000000 x9) fun (d : Int × Bool) =>
                          k (d.1, d.2)
                      else
                        Option.bind (g_earth_Declination_1 (IntKind.wrap IntKind.i64 (x4 * 1073741824)) (IntKind.wrap IntKind.i64 (x0 * 1073741824)) x8 600000000 x9) fun (d : Int × Bool) =>
                          k (d.1, d.2)
          else none
        else
          bif x7 == 3 then
            bif inR (IntKind.wrap IntKind.i64 (x7 + 1)) 7 then
              bif IntKind.wrap IntKind.i64 (x7 + 1) == 6 then
                Option.bind (g_earth_Declination_1 (IntKind.wrap IntKind.i64 (x3 * 1073741824)) (IntKind.wrap IntKind.i64 (x6 * 1073741824)) x8 600000000 x9) fun (d : Int × Bool) => k (d.1, d.2)
              else
                bif IntKind.wrap IntKind.i64 (x7 + 1) == 5 then
                  Option.bind (g_earth_Declination_1 (IntKind.wrap IntKind.i64 (x3 * 1073741824)) (IntKind.wrap IntKind.i64 (x5 * 1073741824)) x8 600000000 x9) fun (d : Int × Bool) => k (d.1, d.2)
                else
                  bif IntKind.wrap IntKind.i64 (x7 + 1) == 4 then
                    Option.bind (g_earth_Declination_1 (IntKind.wrap IntKind.i64 (x3 * 1073741824)) (IntKind.wrap IntKind.i64 (x4 * 1073741824)) x8 600000000 x9) fun (d : Int × Bool) => k (d.1, d.2)
                  else
                    bif IntKind.wrap IntKind.i64 (x7 + 1) == 3 then
                      Option.bind (g_earth_Declination_1 (IntKind.wrap IntKind.i64 (x3 * 1073741824)) (IntKind.wrap IntKind.i64 (x3 * 1073741824)) x8 600000000 x9) fun (d : Int × Bool) =>
                        k (d.1, d.2)
                    else
                      bif IntKind.wrap IntKind.i64 (x7 + 1) == 2 then
                        Option.bind (g_earth_Declination_1 (IntKind.wrap IntKind.i64 (x3 * 1073741824)) (IntKind.wrap IntKind.i64 (x2 * 1073741824)) x8 600000000 x9) fun (d : Int × Bool) =>
                          k (d.1, d.2)
                      else
                        bif IntKind.wrap IntKind.i64 (x7 + 1) == 1 then
                          Option.bind (g_earth_Declination_1 (IntKind.wrap IntKind.i64 (x3 * 1073741824)) (IntKind.wrap IntKind.i64 (x1 * 1073741824)) x8 600000000 x9) fun (d : Int × Bool) =>
                            k (d.1, d.2)
                        else
                          Option.bind (g_earth_Declination_1 (IntKind.wrap IntKind.i64 (x3 * 1073741824)) (IntKind.wrap IntKind.i64 (x0 * 1073741824)) x8 600000000 x9) fun (d : Int × Bool) =>
                            k (d.1, d.2)
            else none
          else
            bif x7 == 2 then
              bif inR (IntKind.wrap IntKind.i64 (x7 + 1)) 7 then
                bif IntKind.wrap IntKind.i64 (x7 + 1) == 6 then
                  Option.bind (g_earth_Declination_1 (IntKind.wrap IntKind.i64 (x2 * 1073741824)) (IntKind.wrap IntKind.i64 (x6 * 1073741824)) x8 600000000 x9) fun (d : Int × Bool) => k (d.1, d.2)
                else
                  bif IntKind.wrap IntKind.i64 (x7 + 1) == 5 then
                    Option.bind (g_earth_Declination_1 (IntKind.wrap IntKind.i64 (x2 * 1073741824)) (IntKind.wrap IntKind.i64 (x5 * 1073741824)) x8 600000000 x9) fun (d : Int × Bool) => k (d.1, d.2)
                  else
                    bif IntKind.wrap IntKind.i64 (x7 + 1) == 4 then
                      Option.bind (g_earth_Declination_1 (IntKind.wrap IntKind.i64 (x2 * 1073741824)) (IntKind.wrap IntKind.i64 (x4 * 1073741824)) x8 600000000 x9) fun (d : Int × Bool) =>
                        k (d.1, d.2)
                    else
                      bif IntKind.wrap IntKind.i64 (x7 + 1) == 3 then
                        Option.bind (g_earth_Declination_1 (IntKind.wrap IntKind.i64 (x2 * 1073741824)) (IntKind.wrap IntKind.i64 (x3 * 1073741824)) x8 600000000 x9) fun (d : Int × Bool) =>
                          k (d.1, d.2)
                      else
                        bif IntKind.wrap IntKind.i64 (x7 + 1) == 2 then
                          Option.bind (g_earth_Declination_1 (IntKind.wrap IntKind.i64 (x2 * 1073741824)) (IntKind.wrap IntKind.i64 (x2 * 1073741824)) x8 600000000 x9) fun (d : Int × Bool) =>
                            k (d.1, d.2)
                        else
                          bif IntKind.wrap IntKind.i64 (x7 + 1) == 1 then
                            Option.bind (g_earth_Declination_1 (IntKind.wrap IntKind.i64 (x2 * 1073741824)) (IntKind.wrap IntKind.i64 (x1 * 1073741824)) x8 600000000 x9) fun (d : Int × Bool) =>
                              k (d.1, d.2)
                          else
                            Option.bind (g_earth_Declination_1 (IntKind.wrap IntKind.i64 (x2 * 1073741824)) (IntKind.wrap IntKind.i64 (x0 * 1073741824)) x8 600000000 x9) fun (d : Int × Bool) =>
                              k (d.1, d.2)
              else none
            else
              bif x7 == 1 then
                bif inR (IntKind.wrap IntKind.i64 (x7 + 1)) 7 then
                  bif IntKind.wrap IntKind.i64 (x7 + 1) == 6 then
                    Option.bind (g_earth_Declination_1 (IntKind.wrap IntKind.i64 (x1 * 1073741824)) (IntKind.wrap IntKind.i64 (x6 * 1073741824)) x8 600000000 x9) fun (d : Int × Bool) => k (d.1, d.2)
                  else
                    bif IntKind.wrap IntKind.i64 (x7 + 1) == 5 then
                      Option.bind (g_earth_Declination_1 (IntKind.wrap IntKind.i64 (x1 * 1073741824)) (IntKind.wrap IntKind.i64 (x5 * 1073741824)) x8 600000000 x9) fun (d : Int × Bool) =>
                        k (d.1, d.2)
                    else
                      bif IntKind.wrap IntKind.i64 (x7 + 1) == 4 then
                        Option.bind (g_earth_Declination_1 (IntKind.wrap IntKind.i64 (x1 * 1073741824)) (IntKind.wrap IntKind.i64 (x4 * 1073741824)) x8 600000000 x9) fun (d : Int × Bool) =>
                          k (d.1, d.2)
                      else
                        bif IntKind.wrap IntKind.i64 (x7 + 1) == 3 then
                          Option.bind (g_earth_Declination_1 (IntKind.wrap IntKind.i64 (x1 * 1073741824)) (IntKind.wrap IntKind.i64 (x3 * 1073741824)) x8 600000000 x9) fun (d : Int × Bool) =>
                            k (d.1, d.2)
                        else
                          bif IntKind.wrap IntKind.i64 (x7 + 1) == 2 then
                            Option.bind (g_earth_Declination_1 (IntKind.wrap IntKind.i64 (x1 * 1073741824)) (IntKind.wrap IntKind.i64 (x2 * 1073741824)) x8 600000000 x9) fun (d : Int × Bool) =>
                              k (d.1, d.2)
                          else
                            bif IntKind.wrap IntKind.i64 (x7 + 1) == 1 then
                              Option.bind (g_earth_Declination_1 (IntKind.wrap IntKind.i64 (x1 * 1073741824)) (IntKind.wrap IntKind.i64 (x1 * 1073741824)) x8 600000000 x9) fun (d : Int × Bool) =>
                                k (d.1, d.2)
                            else
                              Option.bind (g_earth_Declination_1 (IntKind.wrap IntKind.i64 (x1 * 1073741824)) (IntKind.wrap IntKind.i64 (x0 * 1073741824)) x8 600000000 x9) fun (d : Int × Bool) =>
                                k (d.1, d.2)
                else none
              else
                bif inR (IntKind.wrap IntKind.i64 (x7 + 1)) 7 then
                  bif IntKind.wrap IntKind.i64 (x7 + 1) == 6 then
                    Option.bind (g_earth_Declination_1 (IntKind.wrap IntKind.i64 (x0 * 1073741824)) (IntKind.wrap IntKind.i64 (x6 * 1073741824)) x8 600000000 x9) fun (d : Int × Bool) => k (d.1, d.2)
                  else
                    bif IntKind.wrap IntKind.i64 (x7 + 1) == 5 then
                      Option.bind (g_earth_Declination_1 (IntKind.wrap IntKind.i64 (x0 * 1073741824)) (IntKind.wrap IntKind.i64 (x5 * 1073741824)) x8 600000000 x9) fun (d : Int × Bool) =>
                        k (d.1, d.2)
                    else
                      bif IntKind.wrap IntKind.i64 (x7 + 1) == 4 then
                        Option.bind (g_earth_Declination_1 (IntKind.wrap IntKind.i64 (x0 * 1073741824)) (IntKind.wrap IntKind.i64 (x4 * 1073741824)) x8 600000000 x9) fun (d : Int × Bool) =>
                          k (d.1, d.2)
                      else
                        bif IntKind.wrap IntKind.i64 (x7 + 1) == 3 then
                          Option.bind (g_earth_Declination_1 (IntKind.wrap IntKind.i64 (x0 * 1073741824)) (IntKind.wrap IntKind.i64 (x3 * 1073741824)) x8 600000000 x9) fun (d : Int × Bool) =>
                            k (d.1, d.2)
                        else
                          bif IntKind.wrap IntKind.i64 (x7 + 1) == 2 then
                            Option.bind (g_earth_Declination_1 (IntKind.wrap IntKind.i64 (x0 * 1073741824)) (IntKind.wrap IntKind.i64 (x2 * 1073741824)) x8 600000000 x9) fun (d : Int × Bool) =>
                              k (d.1, d.2)
                          else
                            bif IntKind.wrap IntKind.i64 (x7 + 1) == 1 then
                              Option.bind (g_earth_Declination_1 (IntKind.wrap IntKind.i64 (x0 * 1073741824)) (IntKind.wrap IntKind.i64 (x1 * 1073741824)) x8 600000000 x9) fun (d : Int × Bool) =>
                                k (d.1, d.2)
                            else
                              Option.bind (g_earth_Declination_1 (IntKind.wrap IntKind.i64 (x0 * 1073741824)) (IntKind.wrap IntKind.i64 (x0 * 1073741824)) x8 600000000 x9) fun (d : Int × Bool) =>
                                k (d.1, d.2)
                else none
  else none
def f_earth_Declination_2 (x0 : Int) (x1 : Int) (x2 : Int) (x3 : Int) (x4 : Int) (x5 : Int) (x6 : Int) (x7 : Int) (x8 : Int) (x9 : Bool) : Option (Int × Bool) := K_earth_Declination_2 f_earth_Declination_1  x0 x1 x2 x3 x4 x5 x6 x7 x8 x9 some
section
open Go.Ab.Rdr
def QA_earth_Declination_2 := ((pair (cons (ar (ra (cons (gc (cf (fi .i64 hole))) (cons (gc (cf (fi .i64 hole))) (cons (gc (cf (fi .i64 hole))) (cons (gc (cf (fi .i64 hole))) (cons (gc (cf (fi .i64 hole))) (cons (gc (cf (fi .i64 hole))) (cons (gc (cf (fi .i64 hole))) nil))))))))) (cons (ar (rc (cptr (nat 0) (ok' (nat 0)) (nat 1)))) (cons (ar (rc (cptr (nat 1) (ok' (nat 0)) (nat 1)))) (cons (ar (rc (cptr (nat 2) (ok' (nat 0)) (nat 1)))) nil)))) (cons (cons (gc (ccl (nat 74) (nat 3) (ok' (nat 0)) (nat 1))) nil) (cons (cons (gc (cf (fi .i64 hole))) nil) (cons (cons (gc (cf (fi .i64 hole))) nil) (cons (cons (gc (cptr (nat 4) (ok' (nat 0)) (nat 1))) nil) (cons (cons (gc (cf (fb hole))) nil) nil)))))) : Rdr (List AV × List Blk) _)
end
def F_earth_Declination_2 (f : (Int) → (Int) → (Int) → (Int) → (Int) → (Int) → (Int) → (Int) → (Int) → (Bool) → Option (Int × Bool)) : Sem1 := fun args h => match (QA_earth_Declination_2).rd (args, h) with
  | some b => .opt (f b.1.1.1 b.1.1.2.1 b.1.1.2.2.1 b.1.1.2.2.2.1 b.1.1.2.2.2.2.1 b.1.1.2.2.2.2.2.1 b.1.1.2.2.2.2.2.2.1 b.2.2.1.1 b.2.2.2.1.1 b.2.2.2.2.2.1.1) fun (d : Int × Bool) => .leaf (Res.mk (AV.r (RV.c (CV.f (FV.i IntKind.i64 d.1)))) [Ch.keep, Ch.keep, Ch.keep, Ch.keep, Ch.set [Sg.c (CV.f (FV.b d.2))]] [])
  | none => .fail
theorem d_earth_Declination_2 (g_earth_Declination_1 : Int → Int → Int → Int → Bool → Option (Int × Bool))  (x0 : Int) (x1 : Int) (x2 : Int) (x3 : Int) (x4 : Int) (x5 : Int) (x6 : Int) (x7 : Int) (x8 : Int) (x9 : Bool) : den Try.prog (envOf [(74, F_earth_Declination_1 g_earth_Declination_1)]) ⟨[], [], [], [], none⟩ 200 75 [.r (.agg [.c (.f (.i .i64 x0)), .c (.f (.i .i64 x1)), .c (.f (.i .i64 x2)), .c (.f (.i .i64 x3)), .c (.f (.i .i64 x4)), .c (.f (.i .i64 x5)), .c (.f (.i .i64 x6))]), .r (.c (.ptr 0 (.k 0) 1)), .r (.c (.ptr 1 (.k 0) 1)), .r (.c (.ptr 2 (.k 0) 1))] [[.c (.cl 74 3 (.k 0) 1)], [.c (.f (.i .i64 x7))], [.c (.f (.i .i64 x8))], [.c (.ptr 4 (.k 0) 1)], [.c (.f (.b x9))]] =
    K_earth_Declination_2 g_earth_Declination_1  x0 x1 x2 x3 x4 x5 x6 x7 x8 x9 (fun (d : Int × Bool) => some (Res.mk (AV.r (RV.c (CV.f (FV.i IntKind.i64 d.1)))) [Ch.keep, Ch.keep, Ch.keep, Ch.keep, Ch.set [Sg.c (CV.f (FV.b d.2))]] [])) := by kernel_rfl
theorem m_earth_Declination_2 {ρ σ : Type} (q : ρ → Option σ) (g_earth_Declination_1 : Int → Int → Int → Int → Bool → Option (Int × Bool))   (x0 : Int) (x1 : Int) (x2 : Int) (x3 : Int) (x4 : Int) (x5 : Int) (x6 : Int) (x7 : Int) (x8 : Int) (x9 : Bool) (k : (Int × Bool) → Option ρ) : (K_earth_Declination_2 g_earth_Declination_1  x0 x1 x2 x3 x4 x5 x6 x7 x8 x9 k).bind q = K_earth_Declination_2 g_earth_Declination_1  x0 x1 x2 x3 x4 x5 x6 x7 x8 x9 (fun d => (k d).bind q) := by
  simp only [K_earth_Declination_2, bnd_cond, bnd_bind, bnd_none, bnd_sum]
theorem qa_earth_Declination_2 : ∀ b, (QA_earth_Declination_2).em b = ([.r (.agg [.c (.f (.i .i64 b.1.1.1)), .c (.f (.i .i64 b.1.1.2.1)), .c (.f (.i .i64 b.1.1.2.2.1)), .c (.f (.i .i64 b.1.1.2.2.2.1)), .c (.f (.i .i64 b.1.1.2.2.2.2.1)), .c (.f (.i .i64 b.1.1.2.2.2.2.2.1)), .c (.f (.i .i64 b.1.1.2.2.2.2.2.2.1))]), .r (.c (.ptr 0 (.k 0) 1)), .r (.c (.ptr 1 (.k 0) 1)), .r (.c (.ptr 2 (.k 0) 1))], [[.c (.cl 74 3 (.k 0) 1)], [.c (.f (.i .i64 b.2.2.1.1))], [.c (.f (.i .i64 b.2.2.2.1.1))], [.c (.ptr 4 (.k 0) 1)], [.c (.f (.b b.2.2.2.2.2.1.1))]]) := fun b => by kernel_rfl
theorem e_earth_Declination_2 {f : (Int) → (Int) → (Int) → (Int) → (Int) → (Int) → (Int) → (Int) → (Int) → (Bool) → Option (Int × Bool)} {args : List AV} {h : List Blk} {r : Res} (hr : (F_earth_Declination_2 f args h).eval = some r) : ∃ x0 x1 x2 x3 x4 x5 x6 x7 x8 x9, args = [.r (.agg [.c (.f (.i .i64 x0)), .c (.f (.i .i64 x1)), .c (.f (.i .i64 x2)), .c (.f (.i .i64 x3)), .c (.f (.i .i64 x4)), .c (.f (.i .i64 x5)), .c (.f (.i .i64 x6))]), .r (.c (.ptr 0 (.k 0) 1)), .r (.c (.ptr 1 (.k 0) 1)), .r (.c (.ptr 2 (.k 0) 1))] ∧ h = [[.c (.cl 74 3 (.k 0) 1)], [.c (.f (.i .i64 x7))], [.c (.f (.i .i64 x8))], [.c (.ptr 4 (.k 0) 1)], [.c (.f (.b x9))]] ∧ (f x0 x1 x2 x3 x4 x5 x6 x7 x8 x9).bind (fun (d : Int × Bool) => some (Res.mk (AV.r (RV.c (CV.f (FV.i IntKind.i64 d.1)))) [Ch.keep, Ch.keep, Ch.keep, Ch.keep, Ch.set [Sg.c (CV.f (FV.b d.2))]] [])) = some r := by
  unfold F_earth_Declination_2 at hr
  split at hr
  · rename_i b hb
    have e := ((QA_earth_Declination_2).ok _ _ hb).trans (qa_earth_Declination_2 b)
    rw [opt_eval2] at hr
    exact ⟨b.1.1.1, b.1.1.2.1, b.1.1.2.2.1, b.1.1.2.2.2.1, b.1.1.2.2.2.2.1, b.1.1.2.2.2.2.2.1, b.1.1.2.2.2.2.2.2.1, b.2.2.1.1, b.2.2.2.1.1, b.2.2.2.2.2.1.1, (Prod.mk.inj e).1, (Prod.mk.inj e).2, hr⟩
  · cases hr
theorem n_earth_Declination_2 {σ : Type} (q : (Int × Bool) → Option σ) (x0 : Int) (x1 : Int) (x2 : Int) (x3 : Int) (x4 : Int) (x5 : Int) (x6 : Int) (x7 : Int) (x8 : Int) (x9 : Bool) : (f_earth_Declination_2 x0 x1 x2 x3 x4 x5 x6 x7 x8 x9).bind q = K_earth_Declination_2 f_earth_Declination_1  x0 x1 x2 x3 x4 x5 x6 x7 x8 x9 q := by
  unfold f_earth_Declination_2
  exact m_earth_Declination_2 q f_earth_Declination_1   x0 x1 x2 x3 x4 x5 x6 x7 x8 x9 some
theorem s_earth_Declination_2 : Sound Try.prog 75 (F_earth_Declination_2 f_earth_Declination_2) :=
  (inl_sound (l := [(74, F_earth_Declination_1 f_earth_Declination_1)]) (.cons s_earth_Declination_1 (.nil _)) mixed [] [] 200 (by kernel_rfl)).by (F := F_earth_Declination_2 f_earth_Declination_2) fun args b r hr => by
  obtain ⟨x0, x1, x2, x3, x4, x5, x6, x7, x8, x9, rfl, rfl, hr1⟩ := e_earth_Declination_2 hr
  exact inl_eval ((d_earth_Declination_2 f_earth_Declination_1  x0 x1 x2 x3 x4 x5 x6 x7 x8 x9).trans ((n_earth_Declination_2 (fun (d : Int × Bool) => some (Res.mk (AV.r (RV.c (CV.f (FV.i IntKind.i64 d.1)))) [Ch.keep, Ch.keep, Ch.keep, Ch.keep, Ch.set [Sg.c (CV.f (FV.b d.2))]] [])) x0 x1 x2 x3 x4 x5 x6 x7 x8 x9).symm.trans hr1))

def K_earth_Declination {ρ : Type} (g_earth_Good : Int → Int → Int → Option Bool) (g_earth_hundredths : Option Unit) (g_earth_Declination_1 : Int → Int → Int → Int → Bool → Option (Int × Bool)) (g_earth_Declination_2 : Int → Int → Int → Int → Int → Int → Int → Int → Int → Bool → Option (Int × Bool)) (g___fx_Acc__MulDiv : Int → Int → Int → Bool → Option (Int × Bool))  (x0 : Int) (x1 : Int) (x2 : Int) (x3 : Bool) (k : (Int × Int × Bool) → Option ρ) : Option ρ :=
  Option.bind (g_earth_Good x0 x1 x2) fun (d : Bool) =>
    bif !d then k (0, 1, x3)
    else
      Option.bind g_earth_hundredths fun (d : Unit) =>
        bif
            inR
              (if 3 < IntKind.wrap IntKind.i64 (Int.tdiv (IntKind.wrap IntKind.i64 (x0 + 900000000)) 450000000) then 3
              else IntKind.wrap IntKind.i64 (Int.tdiv (IntKind.wrap IntKind.i64 (x0 + 900000000)) 450000000))
              5 then
          bif
              (if 3 < IntKind.wrap IntKind.i64 (Int.tdiv (IntKind.wrap IntKind.i64 (x0 + 900000000)) 450000000) then 3
                else IntKind.wrap IntKind.i64 (Int.tdiv (IntKind.wrap IntKind.i64 (x0 + 900000000)) 450000000)) ==
                4 then
            Option.bind
              (g_earth_Declination_2 1000 4000 (-3000) 500 3500 (-1200) 1000
                (if 5 < IntKind.wrap IntKind.i64 (Int.tdiv (IntKind.wrap IntKind.i64 (x1 + 1800000000)) 600000000) then 5
                else IntKind.wrap IntKind.i64 (Int.tdiv (IntKind.wrap IntKind.i64 (x1 + 1800000000)) 600000000))
                (IntKind.wrap IntKind.i64
                  (IntKind.wrap IntKind.i64 (x1 + 1800000000) -
                    IntKind.wrap IntKind.i64
                      ((if 5 < IntKind.wrap IntKind.i64 (Int.tdiv (IntKind.wrap IntKind.i64 (x1 + 1800000000)) 600000000) then 5
                        else IntKind.wrap IntKind.i64 (Int.tdiv (IntKind.wrap IntKind.i64 (x1 + 1800000000)) 600000000)) *
                        600000000)))
                x3)
              fun (d : Int × Bool) =>
              bif
                  inR
                    (IntKind.wrap IntKind.i64
                      ((if 3 < IntKind.wrap IntKind.i64 (Int.tdiv (IntKind.wrap IntKind.i64 (x0 + 900000000)) 450000000) then 3
                        else IntKind.wrap IntKind.i64 (Int.tdiv (IntKind.wrap IntKind.i64 (x0 + 900000000)) 450000000)) +
                        1))
                    5 then
                bif
                    IntKind.wrap IntKind.i64
                        ((if 3 < IntKind.wrap IntKind.i64 (Int.tdiv (IntKind.wrap IntKind.i64 (x0 + 900000000)) 450000000) then 3
                          else IntKind.wrap IntKind.i64 (Int.tdiv (IntKind.wrap IntKind.i64 (x0 + 900000000)) 450000000)) +
                          1) ==
                      4 then
                  Option.bind
                    (g_earth_Declination_2 1000 4000 (-3000) 500 3500 (-1200) 1000
                      (if 5 < IntKind.wrap IntKind.i64 (Int.tdiv (IntKind.wrap IntKind.i64 (x1 + 1800000000)) 600000000) then 5
                      else IntKind.wrap IntKind.i64 (Int.tdiv (IntKind.wrap IntKind.i64 (x1 + 1800000000)) 600000000))
                      (IntKind.wrap IntKind.i64
                        (IntKind.wrap IntKind.i64 (x1 + 1800000000) -
                          IntKind.wrap IntKind.i64
                            ((if 5 < IntKind.wrap IntKind.i64 (Int.tdiv (IntKind.wrap IntKind.i64 (x1 + 1800000000)) 600000000) then 5
                              else IntKind.wrap IntKind.i64 (Int.tdiv (IntKind.wrap IntKind.i64 (x1 + 1800000000)) 600000000)) *
                              600000000)))
                      d.2)
                    fun (d_1 : Int × Bool) =>
                    Option.bind
                      (g_earth_Declination_1 d.1 d_1.1
                        (IntKind.wrap IntKind.i64
                          (IntKind.wrap IntKind.i64 (x0 + 900000000) -
                            IntKind.wrap IntKind.i64
                              ((if 3 < IntKind.wrap IntKind.i64 (Int.tdiv (IntKind.wrap IntKind.i64 (x0 + 900000000)) 450000000) then 3
                                else IntKind.wrap IntKind.i64 (Int.tdiv (IntKind.wrap IntKind.i64 (x0 + 900000000)) 450000000)) *
                                450000000)))
                        450000000 d_1.2)
                      fun (d : Int × Bool) => Option.bind (g___fx_Acc__MulDiv d.1 3373259426 19327352832000 d.2) fun (d : Int × Bool) => k (d.1, 0, d.2)
                else
                  bif
                      IntKind.wrap IntKind.i64
                          ((if 3 < IntKind.wrap IntKind.i64 (Int.tdiv (IntKind.wrap IntKind.i64 (x0 + 900000000)) 450000000) then 3
                            else IntKind.wrap IntKind.i64 (Int.tdiv (IntKind.wrap IntKind.i64 (x0 + 900000000)) 450000000)) +
                            1) ==
                        3 then
                    Option.bind
                      (g_earth_Declination_2 500 1500 (-1700) 100 700 (-800) 500
                        (if 5 < IntKind.wrap IntKind.i64 (Int.tdiv (IntKind.wrap IntKind.i64 (x1 + 1800000000)) 600000000) then 5
                        else IntKind.wrap IntKind.i64 (Int.tdiv (IntKind.wrap IntKind.i64 (x1 + 1800000000)) 600000000))
                        (IntKind.wrap IntKind.i64
                          (IntKind.wrap IntKind.i64 (x1 + 1800000000) -
                            IntKind.wrap IntKind.i64
                              ((if 5 < IntKind.wrap IntKind.i64 (Int.tdiv (IntKind.wrap IntKind.i64 (x1 + 1800000000)) 600000000) then 5
                                else IntKind.wrap IntKind.i64 (Int.tdiv (IntKind.wrap IntKind.i64 (x1 + 1800000000)) 600000000)) *
                                600000000)))
                        d.2)
                      fun (d_1 : Int × Bool) =>
                      Option.bind
                        (g_earth_Declination_1 d.1 d_1.1
                          (IntKind.wrap IntKind.i64
                            (IntKind.wrap IntKind.i64 (x0 + 900000000) -
                              IntKind.wrap IntKind.i64
                                ((if 3 < IntKind.wrap IntKind.i64 (Int.tdiv (IntKind.wrap IntKind.i64 (x0 + 900000000)) 450000000) then 3
                                  else IntKind.wrap IntKind.i64 (Int.tdiv (IntKind.wrap IntKind.i64 (x0 + 900000000)) 450000000)) *
                                  450000000)))
                          450000000 d_1.2)
                        fun (d : Int × Bool) => Option.bind (g___fx_Acc__MulDiv d.1 3373259426 19327352832000 d.2) fun (d : Int × Bool) => k (d.1, 0, d.2)
                  else
                    bif
                        IntKind.wrap IntKind.i64
                            ((if 3 < IntKind.wrap IntKind.i64 (Int.tdiv (IntKind.wrap IntKind.i64 (x0 + 900000000)) 450000000) then 3
                              else IntKind.wrap IntKind.i64 (Int.tdiv (IntKind.wrap IntKind.i64 (x0 + 900000000)) 450000000)) +
                              1) ==
                          2 then
                      Option.bind
                        (g_earth_Declination_2 950 900 (-1400) (-500) (-300) 100 950
                          (if 5 < IntKind.wrap IntKind.i64 (Int.tdiv (IntKind.wrap IntKind.i64 (x1 + 1800000000)) 600000000) then 5
                          else IntKind.wrap IntKind.i64 (Int.tdiv (IntKind.wrap IntKind.i64 (x1 + 1800000000)) 600000000))
                          (IntKind.wrap IntKind.i64
                            (IntKind.wrap IntKind.i64 (x1 + 1800000000) -
                              IntKind.wrap IntKind.i64
                                ((if 5 < IntKind.wrap IntKind.i64 (Int.tdiv (IntKind.wrap IntKind.i64 (x1 + 1800000000)) 600000000) then 5
                                  else IntKind.wrap IntKind.i64 (Int.tdiv (IntKind.wrap IntKind.i64 (x1 + 1800000000)) 600000000)) *
                                  600000000)))
                          d.2)
                        fun (d_1 : Int × Bool) =>
                        Option.bind
                          (g_earth_Declination_1 d.1 d_1.1
                            (IntKind.wrap IntKind.i64
                              (IntKind.wrap IntKind.i64 (x0 + 900000000) -
                                IntKind.wrap IntKind.i64
                                  ((if 3 < IntKind.wrap IntKind.i64 (Int.tdiv (IntKind.wrap IntKind.i64 (x0 + 900000000)) 450000000) then 3
                                    else IntKind.wrap IntKind.i64 (Int.tdiv (IntKind.wrap IntKind.i64 (x0 + 900000000)) 450000000)) *
                                    450000000)))
                            450000000 d_1.2)
                          fun (d : Int × Bool) => Option.bind (g___fx_Acc__MulDiv d.1 3373259426 19327352832000 d.2) fun (d : Int × Bool) => k (d.1, 0, d.2)
                    else
                      bif
                          IntKind.wrap IntKind.i64
                              ((if 3 < IntKind.wrap IntKind.i64 (Int.tdiv (IntKind.wrap IntKind.i64 (x0 + 900000000)) 450000000) then 3
                                else IntKind.wrap IntKind.i64 (Int.tdiv (IntKind.wrap IntKind.i64 (x0 + 900000000)) 450000000)) +
                                1) ==
                            1 then
                        Option.bind
                          (g_earth_Declination_2 2200 2500 500 (-2200) (-3800) 0 2200
                            (if 5 < IntKind.wrap IntKind.i64 (Int.tdiv (IntKind.wrap IntKind.i64 (x1 + 1800000000)) 600000000) then 5
                            else IntKind.wrap IntKind.i64 (Int.tdiv (IntKind.wrap IntKind.i64 (x1 + 1800000000)) 600000000))
                            (IntKind.wrap IntKind.i64
                              (IntKind.wrap IntKind.i64 (x1 + 1800000000) -
                                IntKind.wrap IntKind.i64
                                  ((if 5 < IntKind.wrap IntKind.i64 (Int.tdiv (IntKind.wrap IntKind.i64 (x1 + 1800000000)) 600000000) then 5
                                    else IntKind.wrap IntKind.i64 (Int.tdiv (IntKind.wrap IntKind.i64 (x1 + 1800000000)) 600000000)) *
                                    600000000)))
                            d.2)
                          fun (d_1 : Int × Bool) =>
                          Option.bind
                            (g_earth_Declination_1 d.1 d_1.1
                              (IntKind.wrap IntKind.i64
                                (IntKind.wrap IntKind.i64 (x0 + 900000000) -
                                  IntKind.wrap IntKind.i64
                                    ((if 3 < IntKind.wrap IntKind.i64 (Int.tdiv (IntKind.wrap IntKind.i64 (x0 + 900000000)) 450000000) then 3
                                      else IntKind.wrap IntKind.i64 (Int.tdiv (IntKind.wrap IntKind.i64 (x0 + 900000000)) 450000000)) *
                                      450000000)))
                              450000000 d_1.2)
                            fun (d : Int × Bool) => Option.bind (g___fx_Acc__MulDiv d.1 3373259426 19327352832000 d.2) fun (d : Int × Bool) => k (d.1, 0, d.2)
                      else
                        Option.bind
                          (g_earth_Declination_2 3000 6000 (-2000) (-1500) (-6000) (-9000) 3000
                            (if 5 < IntKind.wrap IntKind.i64 (Int.tdiv (IntKind.wrap IntKind.i64 (x1 + 1800000000)) 600000000) then 5
                            else IntKind.wrap IntKind.i64 (Int.tdiv (IntKind.wrap IntKind.i64 (x1 + 1800000000)) 600000000))
                            (IntKind.wrap IntKind.i64
                              (IntKind.wrap IntKind.i64 (x1 + 1800000000) -
                                IntKind.wrap IntKind.i64
                                  ((if 5 < IntKind.wrap IntKind.i64 (Int.tdiv (IntKind.wrap IntKind.i64 (x1 + 1800000000)) 600000000) then 5
                                    else IntKind.wrap IntKind.i64 (Int.tdiv (IntKind.wrap IntKind.i64 (x1 + 1800000000)) 600000000)) *
                                    600000000)))
                            d.2)
                          fun (d_1 : Int × Bool) =>
                          Option.bind
                            (g_earth_Declination_1 d.1 d_1.1
                              (IntKind.wrap IntKind.i64
                                (IntKind.wrap IntKind.i64 (x0 + 900000000) -
                                  IntKind.wrap IntKind.i64
                                    ((if 3 < IntKind.wrap IntKind.i64 (Int.tdiv (IntKind.wrap IntKind.i64 (x0 + 900000000)) 450000000) then 3
                                      else IntKind.wrap IntKind.i64 (Int.tdiv (IntKind.wrap IntKind.i64 (x0 + 900000000)) 450000000)) *
                                      450000000)))
                              450000000 d_1.2)
                            fun (d : Int × Bool) => Option.bind (g___fx_Acc__MulDiv d.1 3373259426 19327352832000 d.2) fun (d : Int × Bool) => k (d.1, 0, d.2)
              else none
          else
            bif
                (if 3 < IntKind.wrap IntKind.i64 (Int.tdiv (IntKind.wrap IntKind.i64 (x0 + 900000000)) 450000000) then 3
                  else IntKind.wrap IntKind.i64 (Int.tdiv (IntKind.wrap IntKind.i64 (x0 + 900000000)) 450000000)) ==
                  3 then
              Option.bind
                (g_earth_Declination_2 500 1500 (-1700) 100 700 (-800) 500
                  (if 5 < IntKind.wrap IntKind.i64 (Int.tdiv (IntKind.wrap IntKind.i64 (x1 + 1800000000)) 600000000) then 5
                  else IntKind.wrap IntKind.i64 (Int.tdiv (IntKind.wrap IntKind.i64 (x1 + 1800000000)) 600000000))
                  (IntKind.wrap IntKind.i64
                    (IntKind.wrap IntKind.i64 (x1 + 1800000000) -
                      IntKind.wrap IntKind.i64
                        ((if 5 < IntKind.wrap IntKind.i64 (Int.tdiv (IntKind.wrap IntKind.i64 (x1 + 1800000000)) 600000000) then 5
                          else IntKind.wrap IntKind.i64 (Int.tdiv (IntKind.wrap IntKind.i64 (x1 + 1800000000)) 600000000)) *
                          600000000)))
                  x3)
                fun (d : Int × Bool) =>
                bif
                    inR
                      (IntKind.wrap IntKind.i64
                        ((if 3 < IntKind.wrap IntKind.i64 (Int.tdiv (IntKind.wrap IntKind.i64 (x0 + 900000000)) 450000000) then 3
                          else IntKind.wrap IntKind.i64 (Int.tdiv (IntKind.wrap IntKind.i64 (x0 + 900000000)) 450000000)) +
                          1))
                      5 then
                  bif
                      IntKind.wrap IntKind.i64
                          ((if 3 < IntKind.wrap IntKind.i64 (Int.tdiv (IntKind.wrap IntKind.i64 (x0 + 900000000)) 450000000) then 3
                            else IntKind.wrap IntKind.i64 (Int.tdiv (IntKind.wrap IntKind.i64 (x0 + 900000000)) 450000000)) +
                            1) ==
                        4 then
                    Option.bind
                      (g_earth_Declination_2 1000 4000 (-3000) 500 3500 (-1200) 1000
                        (if 5 < IntKind.wrap IntKind.i64 (Int.tdiv (IntKind.wrap IntKind.i64 (x1 + 1800000000)) 600000000) then 5
                        else IntKind.wrap IntKind.i64 (Int.tdiv (IntKind.wrap IntKind.i64 (x1 + 1800000000)) 600000000))
                        (IntKind.wrap IntKind.i64
                          (IntKind.wrap IntKind.i64 (x1 + 1800000000) -
                            IntKind.wrap IntKind.i64
                              ((if 5 < IntKind.wrap IntKind.i64 (Int.tdiv (IntKind.wrap IntKind.i64 (x1 + 1800000000)) 600000000) then 5
                                else IntKind.wrap IntKind.i64 (Int.tdiv (IntKind.wrap IntKind.i64 (x1 + 1800000000)) 600000000)) *
                                600000000)))
                        d.2)
                      fun (d_1 : Int × Bool) =>
                      Option.bind
                        (g_earth_Declination_1 d.1 d_1.1
                          (IntKind.wrap IntKind.i64
                            (IntKind.wrap IntKind.i64 (x0 + 900000000) -
                              IntKind.wrap IntKind.i64
                                ((if 3 < IntKind.wrap IntKind.i64 (Int.tdiv (IntKind.wrap IntKind.i64 (x0 + 900000000)) 450000000) then 3
                                  else IntKind.wrap IntKind.i64 (Int.tdiv (IntKind.wrap IntKind.i64 (x0 + 900000000)) 450000000)) *
                                  450000000)))
                          450000000 d_1.2)
                        fun (d : Int × Bool) => Option.bind (g___fx_Acc__MulDiv d.1 3373259426 19327352832000 d.2) fun (d : Int × Bool) => k (d.1, 0, d.2)
                  else
                    bif
                        IntKind.wrap IntKind.i64
                            ((if 3 < IntKind.wrap IntKind.i64 (Int.tdiv (IntKind.wrap IntKind.i64 (x0 + 900000000)) 450000000) then 3
                              else IntKind.wrap IntKind.i64 (Int.tdiv (IntKind.wrap IntKind.i64 (x0 + 900000000)) 450000000)) +
                              1) ==
                          3 then
                      Option.bind
                        (g_earth_Declination_2 500 1500 (-1700) 100 700 (-800) 500
                          (if 5 < IntKind.wrap IntKind.i64 (Int.tdiv (IntKind.wrap IntKind.i64 (x1 + 1800000000)) 600000000) then 5
                          else IntKind.wrap IntKind.i64 (Int.tdiv (IntKind.wrap IntKind.i64 (x1 + 1800000000)) 600000000))
                          (IntKind.wrap IntKind.i64
                            (IntKind.wrap IntKind.i64 (x1 + 1800000000) -
                              IntKind.wrap IntKind.i64
                                ((if 5 < IntKind.wrap IntKind.i64 (Int.tdiv (IntKind.wrap IntKind.i64 (x1 + 1800000000)) 600000000) then 5
                                  else IntKind.wrap IntKind.i64 (Int.tdiv (IntKind.wrap IntKind.i64 (x1 + 1800000000)) 600000000)) *
                                  600000000)))
                          d.2)
                        fun (d_1 : Int × Bool) =>
                        Option.bind
                          (g_earth_Declination_1 d.1 d_1.1
                            (IntKind.wrap IntKind.i64
                              (IntKind.wrap IntKind.i64 (x0 + 900000000) -
                                IntKind.wrap IntKind.i64
                                  ((if 3 < IntKind.wrap IntKind.i64 (Int.tdiv (IntKind.wrap IntKind.i64 (x0 + 900000000)) 450000000) then 3
                                    else IntKind.wrap IntKind.i64 (Int.tdiv (IntKind.wrap IntKind.i64 (x0 + 900000000)) 450000000)) *
                                    450000000)))
                            450000000 d_1.2)
                          fun (d : Int × Bool) => Option.bind (g___fx_Acc__MulDiv d.1 3373259426 19327352832000 d.2) fun (d : Int × Bool) => k (d.1, 0, d.2)
                    else
                      bif
                          IntKind.wrap IntKind.i64
                              ((if 3 < IntKind.wrap IntKind.i64 (Int.tdiv (IntKind.wrap IntKind.i64 (x0 + 900000000)) 450000000) then 3
                                else IntKind.wrap IntKind.i64 (Int.tdiv (IntKind.wrap IntKind.i64 (x0 + 900000000)) 450000000)) +
                                1) ==
                            2 then
                        Option.bind
                          (g_earth_Declination_2 950 900 (-1400) (-500) (-300) 100 950
                            (if 5 < IntKind.wrap IntKind.i64 (Int.tdiv (IntKind.wrap IntKind.i64 (x1 + 1800000000)) 600000000) then 5
                            else IntKind.wrap IntKind.i64 (Int.tdiv (IntKind.wrap IntKind.i64 (x1 + 1800000000)) 600000000))
                            (IntKind.wrap IntKind.i64
                              (IntKind.wrap IntKind.i64 (x1 + 1800000000) -
                                IntKind.wrap IntKind.i64
                                  ((if 5 < IntKind.wrap IntKind.i64 (Int.tdiv (IntKind.wrap IntKind.i64 (x1 + 1800000000)) 600000000) then 5
                                    else IntKind.wrap IntKind.i64 (Int.tdiv (IntKind.wrap IntKind.i64 (x1 + 1800000000)) 600000000)) *
                                    600000000)))
                            d.2)
                          fun (d_1 : Int × Bool) =>
                          Option.bind
                            (g_earth_Declination_1 d.1 d_1.1
                              (IntKind.wrap IntKind.i64
                                (IntKind.wrap IntKind.i64 (x0 + 900000000) -
                                  IntKind.wrap IntKind.i64
                                    ((if 3 < IntKind.wrap IntKind.i64 (Int.tdiv (IntKind.wrap IntKind.i64 (x0 + 900000000)) 450000000) then 3
                                      else IntKind.wrap IntKind.i64 (Int.tdiv (IntKind.wrap IntKind.i64 (x0 + 900000000)) 450000000)) *
                                      450000000)))
                              450000000 d_1.2)
                            fun (d : Int × Bool) => Option.bind (g___fx_Acc__MulDiv d.1 3373259426 19327352832000 d.2) fun (d : Int × Bool) => k (d.1, 0, d.2)
                      else
                        bif
                            IntKind.wrap IntKind.i64
                                ((if 3 < IntKind.wrap IntKind.i64 (Int.tdiv (IntKind.wrap IntKind.i64 (x0 + 900000000)) 450000000) then 3
                                  else IntKind.wrap IntKind.i64 (Int.tdiv (IntKind.wrap IntKind.i64 (x0 + 900000000)) 450000000)) +
                                  1) ==
                              1 then
                          Option.bind
                            (g_earth_Declination_2 2200 2500 500 (-2200) (-3800) 0 2200
                              (if 5 < IntKind.wrap IntKind.i64 (Int.tdiv (IntKind.wrap IntKind.i64 (x1 + 1800000000)) 600000000) then 5
                              else IntKind.wrap IntKind.i64 (Int.tdiv (IntKind.wrap IntKind.i64 (x1 + 1800000000)) 600000000))
                              (IntKind.wrap IntKind.i64
                                (IntKind.wrap IntKind.i64 (x1 + 1800000000) -
                                  IntKind.wrap IntKind.i64
                                    ((if 5 < IntKind.wrap IntKind.i64 (Int.tdiv (IntKind.wrap IntKind.i64 (x1 + 1800000000)) 600000000) then 5
                                      else IntKind.wrap IntKind.i64 (Int.tdiv (IntKind.wrap IntKind.i64 (x1 + 1800000000)) 600000000)) *
                                      600000000)))
                              d.2)
                            fun (d_1 : Int × Bool) =>
                            Option.bind
                              (g_earth_Declination_1 d.1 d_1.1
                                (IntKind.wrap IntKind.i64
                                  (IntKind.wrap IntKind.i64 (x0 + 900000000) -
                                    IntKind.wrap IntKind.i64
                                      ((if 3 < IntKind.wrap IntKind.i64 (Int.tdiv (IntKind.wrap IntKind.i64 (x0 + 900000000)) 450000000) then 3
                                        else IntKind.wrap IntKind.i64 (Int.tdiv (IntKind.wrap IntKind.i64 (x0 + 900000000)) 450000000)) *
                                        450000000)))
                                450000000 d_1.2)
                              fun (d : Int × Bool) => Option.bind (g___fx_Acc__MulDiv d.1 3373259426 19327352832000 d.2) fun (d : Int × Bool) => k (d.1, 0, d.2)
                        else
                          Option.bind
                            (g_earth_Declination_2 3000 6000 (-2000) (-1500) (-6000) (-9000) 3000
                              (if 5 < IntKind.wrap IntKind.i64 (Int.tdiv (IntKind.wrap IntKind.i64 (x1 + 1800000000)) 600000000) then 5
                              else IntKind.wrap IntKind.i64 (Int.tdiv (IntKind.wrap IntKind.i64 (x1 + 1800000000)) 600000000))
                              (IntKind.wrap IntKind.i64
                                (IntKind.wrap IntKind.i64 (x1 + 1800000000) -
                                  IntKind.wrap IntKind.i64
                                    ((if 5 < IntKind.wrap IntKind.i64 (Int.tdiv (IntKind.wrap IntKind.i64 (x1 + 1800000000)) 600000000) then 5
                                      else IntKind.wrap IntKind.i64 (Int.tdiv (IntKind.wrap IntKind.i64 (x1 + 1800000000)) 600000000)) *
                                      600000000)))
                              d.2)
                            fun (d_1 : Int × Bool) =>
                            Option.bind
                              (g_earth_Declination_1 d.1 d_1.1
                                (IntKind.wrap IntKind.i64
                                  (IntKind.wrap IntKind.i64 (x0 + 900000000) -
                                    IntKind.wrap IntKind.i64
                                      ((if 3 < IntKind.wrap IntKind.i64 (Int.tdiv (IntKind.wrap IntKind.i64 (x0 + 900000000)) 450000000) then 3
                                        else IntKind.wrap IntKind.i64 (Int.tdiv (IntKind.wrap IntKind.i64 (x0 + 900000000)) 450000000)) *
                                        450000000)))
                                450000000 d_1.2)
                              fun (d : Int × Bool) => Option.bind (g___fx_Acc__MulDiv d.1 3373259426 19327352832000 d.2) fun (d : Int × Bool) => k (d.1, 0, d.2)
                else none
            else
              bif
                  (if 3 < IntKind.wrap IntKind.i64 (Int.tdiv (IntKind.wrap IntKind.i64 (x0 + 900000000)) 450000000) then 3
                    else IntKind.wrap IntKind.i64 (Int.tdiv (IntKind.wrap IntKind.i64 (x0 + 900000000)) 450000000)) ==
                    2 then
                Option.bind
                  (g_earth_Declination_2 950 900 (-1400) (-500) (-300) 100 950
                    (if 5 < IntKind.wrap IntKind.i64 (Int.tdiv (IntKind.wrap IntKind.i64 (x1 + 1800000000)) 600000000) then 5
                    else IntKind.wrap IntKind.i64 (Int.tdiv (IntKind.wrap IntKind.i64 (x1 + 1800000000)) 600000000))
                    (IntKind.wrap IntKind.i64
                      (IntKind.wrap IntKind.i64 (x1 + 1800000000) -
                        IntKind.wrap IntKind.i64
                          ((if 5 < IntKind.wrap IntKind.i64 (Int.tdiv (IntKind.wrap IntKind.i64 (x1 + 1800000000)) 600000000) then 5
                            else IntKind.wrap IntKind.i64 (Int.tdiv (IntKind.wrap IntKind.i64 (x1 + 1800000000)) 600000000)) *
                            600000000)))
                    x3)
                  fun (d : Int × Bool) =>
                  bif
                      inR
                        (IntKind.wrap IntKind.i64
                          ((if 3 < IntKind.wrap IntKind.i64 (Int.tdiv (IntKind.wrap IntKind.i64 (x0 + 900000000)) 450000000) then 3
                            else IntKind.wrap IntKind.i64 (Int.tdiv (IntKind.wrap IntKind.i64 (x0 + 900000000)) 450000000)) +
                            1))
                        5 then
                    bif
                        IntKind.wrap IntKind.i64
                            ((if 3 < IntKind.wrap IntKind.i64 (Int.tdiv (IntKind.wrap IntKind.i64 (x0 + 900000000)) 450000000) then 3
                              else IntKind.wrap IntKind.i64 (Int.tdiv (IntKind.wrap IntKind.i64 (x0 + 900000000)) 450000000)) +
                              1) ==
                          4 then
                      Option.bind
                        (g_earth_Declination_2 1000 4000 (-3000) 500 3500 (-1200) 1000
                          (if 5 < IntKind.wrap IntKind.i64 (Int.tdiv (IntKind.wrap IntKind.i64 (x1 + 1800000000)) 600000000) then 5
                          else IntKind.wrap IntKind.i64 (Int.tdiv (IntKind.wrap IntKind.i64 (x1 + 1800000000)) 600000000))
                          (IntKind.wrap IntKind.i64
                            (IntKind.wrap IntKind.i64 (x1 + 1800000000) -
                              IntKind.wrap IntKind.i64
                                ((if 5 < IntKind.wrap IntKind.i64 (Int.tdiv (IntKind.wrap IntKind.i64 (x1 + 1800000000)) 600000000) then 5
                                  else IntKind.wrap IntKind.i64 (Int.tdiv (IntKind.wrap IntKind.i64 (x1 + 1800000000)) 600000000)) *
                                  600000000)))
                          d.2)
                        fun (d_1 : Int × Bool) =>
                        Option.bind
                          (g_earth_Declination_1 d.1 d_1.1
                            (IntKind.wrap IntKind.i64
                              (IntKind.wrap IntKind.i64 (x0 + 900000000) -
                                IntKind.wrap IntKind.i64
                                  ((if 3 < IntKind.wrap IntKind.i64 (Int.tdiv (IntKind.wrap IntKind.i64 (x0 + 900000000)) 450000000) then 3
                                    else IntKind.wrap IntKind.i64 (Int.tdiv (IntKind.wrap IntKind.i64 (x0 + 900000000)) 450000000)) *
                                    450000000)))
                            450000000 d_1.2)
                          fun (d : Int × Bool) => Option.bind (g___fx_Acc__MulDiv d.1 3373259426 19327352832000 d.2) fun (d : Int × Bool) => k (d.1, 0, d.2)
                    else
                      bif
                          IntKind.wrap IntKind.i64
                              ((if 3 < IntKind.wrap IntKind.i64 (Int.tdiv (IntKind.wrap IntKind.i64 (x0 + 900000000)) 450000000) then 3
                                else IntKind.wrap IntKind.i64 (Int.tdiv (IntKind.wrap IntKind.i64 (x0 + 900000000)) 450000000)) +
                                1) ==
                            3 then
                        Option.bind
                          (g_earth_Declination_2 500 1500 (-1700) 100 700 (-800) 500
                            (if 5 < IntKind.wrap IntKind.i64 (Int.tdiv (IntKind.wrap IntKind.i64 (x1 + 1800000000)) 600000000) then 5
                            else IntKind.wrap IntKind.i64 (Int.tdiv (IntKind.wrap IntKind.i64 (x1 + 1800000000)) 600000000))
                            (IntKind.wrap IntKind.i64
                              (IntKind.wrap IntKind.i64 (x1 + 1800000000) -
                                IntKind.wrap IntKind.i64
                                  ((if 5 < IntKind.wrap IntKind.i64 (Int.tdiv (IntKind.wrap IntKind.i64 (x1 + 1800000000)) 600000000) then 5
                                    else IntKind.wrap IntKind.i64 (Int.tdiv (IntKind.wrap IntKind.i64 (x1 + 1800000000)) 600000000)) *
                                    600000000)))
                            d.2)
                          fun (d_1 : Int × Bool) =>
                          Option.bind
                            (g_earth_Declination_1 d.1 d_1.1
                              (IntKind.wrap IntKind.i64
                                (IntKind.wrap IntKind.i64 (x0 + 900000000) -
                                  IntKind.wrap IntKind.i64
                                    ((if 3 < IntKind.wrap IntKind.i64 (Int.tdiv (IntKind.wrap IntKind.i64 (x0 + 900000000)) 450000000) then 3
                                      else IntKind.wrap IntKind.i64 (Int.tdiv (IntKind.wrap IntKind.i64 (x0 + 900000000)) 450000000)) *
                                      450000000)))
                              450000000 d_1.2)
                            fun (d : Int × Bool) => Option.bind (g___fx_Acc__MulDiv d.1 3373259426 19327352832000 d.2) fun (d : Int × Bool) => k (d.1, 0, d.2)
                      else
                        bif
                            IntKind.wrap IntKind.i64
                                ((if 3 < IntKind.wrap IntKind.i64 (Int.tdiv (IntKind.wrap IntKind.i64 (x0 + 900000000)) 450000000) then 3
                                  else IntKind.wrap IntKind.i64 (Int.tdiv (IntKind.wrap IntKind.i64 (x0 + 900000000)) 450000000)) +
                                  1) ==
                              2 then
                          Option.bind
                            (g_earth_Declination_2 950 900 (-1400) (-500) (-300) 100 950
                              (if 5 < IntKind.wrap IntKind.i64 (Int.tdiv (IntKind.wrap IntKind.i64 (x1 + 1800000000)) 600000000) then 5
                              else IntKind.wrap IntKind.i64 (Int.tdiv (IntKind.wrap IntKind.i64 (x1 + 1800000000)) 600000000))
                              (IntKind.wrap IntKind.i64
                                (IntKind.wrap IntKind.i64 (x1 + 1800000000) -
                                  IntKind.wrap IntKind.i64
                                    ((if 5 < IntKind.wrap IntKind.i64 (Int.tdiv (IntKind.wrap IntKind.i64 (x1 + 1800000000)) 600000000) then 5
                                      else IntKind.wrap IntKind.i64 (Int.tdiv (IntKind.wrap IntKind.i64 (x1 + 1800000000)) 600000000)) *
                                      600000000)))
                              d.2)
                            fun (d_1 : Int × Bool) =>
                            Option.bind
                              (g_earth_Declination_1 d.1 d_1.1
                                (IntKind.wrap IntKind.i64
                                  (IntKind.wrap IntKind.i64 (x0 + 900000000) -
                                    IntKind.wrap IntKind.i64
                                      ((if 3 < IntKind.wrap IntKind.i64 (Int.tdiv (IntKind.wrap IntKind.i64 (x0 + 900000000)) 450000000) then 3
                                        else IntKind.wrap IntKind.i64 (Int.tdiv (IntKind.wrap IntKind.i64 (x0 + 900000000)) 450000000)) *
                                        450000000)))
                                450000000 d_1.2)
                              fun (d : Int × Bool) => Option.bind (g___fx_Acc__MulDiv d.1 3373259426 19327352832000 d.2) fun (d : Int × Bool) => k (d.1, 0, d.2)
                        else
                          bif
                              IntKind.wrap IntKind.i64
                                  ((if 3 < IntKind.wrap IntKind.i64 (Int.tdiv (IntKind.wrap IntKind.i64 (x0 + 900000000)) 450000000) then 3
                                    else IntKind.wrap IntKind.i64 (Int.tdiv (IntKind.wrap IntKind.i64 (x0 + 900000000)) 450000000)) +
                                    1) ==
                                1 then
                            Option.bind
                              (g_earth_Declination_2 2200 2500 500 (-2200) (-3800) 0 2200
                                (if 5 < IntKind.wrap IntKind.i64 (Int.tdiv (IntKind.wrap IntKind.i64 (x1 + 1800000000)) 600000000) then 5
                                else IntKind.wrap IntKind.i64 (Int.tdiv (IntKind.wrap IntKind.i64 (x1 + 1800000000)) 600000000))
                                (IntKind.wrap IntKind.i64
                                  (IntKind.wrap IntKind.i64 (x1 + 1800000000) -
                                    IntKind.wrap IntKind.i64
                                      ((if 5 < IntKind.wrap IntKind.i64 (Int.tdiv (IntKind.wrap IntKind.i64 (x1 + 1800000000)) 600000000) then 5
                                        else IntKind.wrap IntKind.i64 (Int.tdiv (IntKind.wrap IntKind.i64 (x1 + 1800000000)) 600000000)) *
                                        600000000)))
                                d.2)
                              fun (d_1 : Int × Bool) =>
                              Option.bind
                                (g_earth_Declination_1 d.1 d_1.1
                                  (IntKind.wrap IntKind.i64
                                    (IntKind.wrap IntKind.i64 (x0 + 900000000) -
                                      IntKind.wrap IntKind.i64
                                        ((if 3 < IntKind.wrap IntKind.i64 (Int.tdiv (IntKind.wrap IntKind.i64 (x0 + 900000000)) 450000000) then 3
                                          else IntKind.wrap IntKind.i64 (Int.tdiv (IntKind.wrap IntKind.i64 (x0 + 900000000)) 450000000)) *
                                          450000000)))
                                  450000000 d_1.2)
                                fun (d : Int × Bool) => Option.bind (g___fx_Acc__MulDiv d.1 3373259426 19327352832000 d.2) fun (d : Int × Bool) => k (d.1, 0, d.2)
                          else
                            Option.bind
                              (g_earth_Declination_2 3000 6000 (-2000) (-1500) (-6000) (-9000) 3000
                                (if 5 < IntKind.wrap IntKind.i64 (Int.tdiv (IntKind.wrap IntKind.i64 (x1 + 1800000000)) 600000000) then 5
                                else IntKind.wrap IntKind.i64 (Int.tdiv (IntKind.wrap IntKind.i64 (x1 + 1800000000)) 600000000))
                                (IntKind.wrap IntKind.i64
                                  (IntKind.wrap IntKind.i64 (x1 + 1800000000) -
                                    IntKind.wrap IntKind.i64
                                      ((if 5 < IntKind.wrap IntKind.i64 (Int.tdiv (IntKind.wrap IntKind.i64 (x1 + 1800000000)) 600000000) then 5
                                        else IntKind.wrap IntKind.i64 (Int.tdiv (IntKind.wrap IntKind.i64 (x1 + 1800000000)) 600000000)) *
                                        600000000)))
                                d.2)
                              fun (d_1 : Int × Bool) =>
                              Option.bind
                                (g_earth_Declination_1 d.1 d_1.1
                                  (IntKind.wrap IntKind.i64
                                    (IntKind.wrap IntKind.i64 (x0 + 900000000) -
                                      IntKind.wrap IntKind.i64
                                        ((if 3 < IntKind.wrap IntKind.i64 (Int.tdiv (IntKind.wrap IntKind.i64 (x0 + 900000000)) 450000000) then 3
                                          else IntKind.wrap IntKind.i64 (Int.tdiv (IntKind.wrap IntKind.i64 (x0 + 900000000)) 450000000)) *
                                          450000000)))
                                  450000000 d_1.2)
                                fun (d : Int × Bool) => Option.bind (g___fx_Acc__MulDiv d.1 3373259426 19327352832000 d.2) fun (d : Int × Bool) => k (d.1, 0, d.2)
                  else none
              else
                bif
                    (if 3 < IntKind.wrap IntKind.i64 (Int.tdiv (IntKind.wrap IntKind.i64 (x0 + 900000000)) 450000000) then 3
                      else IntKind.wrap IntKind.i64 (Int.tdiv (IntKind.wrap IntKind.i64 (x0 + 900000000)) 450000000)) ==
                      1 then
                  Option.bind
                    (g_earth_Declination_2 2200 2500 500 (-2200) (-3800) 0 2200
                      (if 5 < IntKind.wrap IntKind.i64 (Int.tdiv (IntKind.wrap IntKind.i64 (x1 + 1800000000)) 600000000) then 5
                      else IntKind.wrap IntKind.i64 (Int.tdiv (IntKind.wrap IntKind.i64 (x1 + 1800000000)) 600000000))
                      (IntKind.wrap IntKind.i64
                        (IntKind.wrap IntKind.i64 (x1 + 1800000000) -
                          IntKind.wrap IntKind.i64
                            ((if 5 < IntKind.wrap IntKind.i64 (Int.tdiv (IntKind.wrap IntKind.i64 (x1 + 1800000000)) 600000000) then 5
                              else IntKind.wrap IntKind.i64 (Int.tdiv (IntKind.wrap IntKind.i64 (x1 + 1800000000)) 600000000)) *
                              600000000)))
                      x3)
                    fun (d : Int × Bool) =>
                    bif
                        inR
                          (IntKind.wrap IntKind.i64
                            ((if 3 < IntKind.wrap IntKind.i64 (Int.tdiv (IntKind.wrap IntKind.i64 (x0 + 900000000)) 450000000) then 3
                              else IntKind.wrap IntKind.i64 (Int.tdiv (IntKind.wrap IntKind.i64 (x0 + 900000000)) 450000000)) +
                              1))
                          5 then
                      bif
                          IntKind.wrap IntKind.i64
                              ((if 3 < IntKind.wrap IntKind.i64 (Int.tdiv (IntKind.wrap IntKind.i64 (x0 + 900000000)) 450000000) then 3
                                else IntKind.wrap IntKind.i64 (Int.tdiv (IntKind.wrap IntKind.i64 (x0 + 900000000)) 450000000)) +
                                1) ==
                            4 then
                        Option.bind
                          (g_earth_Declination_2 1000 4000 (-3000) 500 3500 (-1200) 1000
                            (if 5 < IntKind.wrap IntKind.i64 (Int.tdiv (IntKind.wrap IntKind.i64 (x1 + 1800000000)) 600000000) then 5
                            else IntKind.wrap IntKind.i64 (Int.tdiv (IntKind.wrap IntKind.i64 (x1 + 1800000000)) 600000000))
                            (IntKind.wrap IntKind.i64
                              (IntKind.wrap IntKind.i64 (x1 + 1800000000) -
                                IntKind.wrap IntKind.i64
                                  ((if 5 < IntKind.wrap IntKind.i64 (Int.tdiv (IntKind.wrap IntKind.i64 (x1 + 1800000000)) 600000000) then 5
                                    else IntKind.wrap IntKind.i64 (Int.tdiv (IntKind.wrap IntKind.i64 (x1 + 1800000000)) 600000000)) *
                                    600000000)))
                            d.2)
                          fun (d_1 : Int × Bool) =>
                          Option.bind
                            (g_earth_Declination_1 d.1 d_1.1
                              (IntKind.wrap IntKind.i64
                                (IntKind.wrap IntKind.i64 (x0 + 900000000) -
                                  IntKind.wrap IntKind.i64
                                    ((if 3 < IntKind.wrap IntKind.i64 (Int.tdiv (IntKind.wrap IntKind.i64 (x0 + 900000000)) 450000000) then 3
                                      else IntKind.wrap IntKind.i64 (Int.tdiv (IntKind.wrap IntKind.i64 (x0 + 900000000)) 450000000)) *
                                      450000000)))
                              450000000 d_1.2)
                            fun (d : Int × Bool) => Option.bind (g___fx_Acc__MulDiv d.1 3373259426 19327352832000 d.2) fun (d : Int × Bool) => k (d.1, 0, d.2)
                      else
                        bif
                            IntKind.wrap IntKind.i64
                                ((if 3 < IntKind.wrap IntKind.i64 (Int.tdiv (IntKind.wrap IntKind.i64 (x0 + 900000000)) 450000000) then 3
                                  else IntKind.wrap IntKind.i64 (Int.tdiv (IntKind.wrap IntKind.i64 (x0 + 900000000)) 450000000)) +
                                  1) ==
                              3 then
                          Option.bind
                            (g_earth_Declination_2 500 1500 (-1700) 100 700 (-800) 500
                              (if 5 < IntKind.wrap IntKind.i64 (Int.tdiv (IntKind.wrap IntKind.i64 (x1 + 1800000000)) 600000000) then 5
                              else IntKind.wrap IntKind.i64 (Int.tdiv (IntKind.wrap IntKind.i64 (x1 + 1800000000)) 600000000))
                              (IntKind.wrap IntKind.i64
                                (IntKind.wrap IntKind.i64 (x1 + 1800000000) -
                                  IntKind.wrap IntKind.i64
                                    ((if 5 < IntKind.wrap IntKind.i64 (Int.tdiv (IntKind.wrap IntKind.i64 (x1 + 1800000000)) 600000000) then 5
                                      else IntKind.wrap IntKind.i64 (Int.tdiv (IntKind.wrap IntKind.i64 (x1 + 1800000000)) 600000000)) *
                                      600000000)))
                              d.2)
                            fun (d_1 : Int × Bool) =>
                            Option.bind
                              (g_earth_Declination_1 d.1 d_1.1
                                (IntKind.wrap IntKind.i64
                                  (IntKind.wrap IntKind.i64 (x0 + 900000000) -
                                    IntKind.wrap IntKind.i64
                                      ((if 3 < IntKind.wrap IntKind.i64 (Int.tdiv (IntKind.wrap IntKind.i64 (x0 + 900000000)) 450000000) then 3
                                        else IntKind.wrap IntKind.i64 (Int.tdiv (IntKind.wrap IntKind.i64 (x0 + 900000000)) 450000000)) *
                                        450000000)))
                                450000000 d_1.2)
                              fun (d : Int × Bool) => Option.bind (g___fx_Acc__MulDiv d.1 3373259426 19327352832000 d.2) fun (d : Int × Bool) => k (d.1, 0, d.2)
                        else
                          bif
                              IntKind.wrap IntKind.i64
                                  ((if 3 < IntKind.wrap IntKind.i64 (Int.tdiv (IntKind.wrap IntKind.i64 (x0 + 900000000)) 450000000) then 3
                                    else IntKind.wrap IntKind.i64 (Int.tdiv (IntKind.wrap IntKind.i64 (x0 + 900000000)) 450000000)) +
                                    1) ==
                                2 then
                            Option.bind
                              (g_earth_Declination_2 950 900 (-1400) (-500) (-300) 100 950
                                (if 5 < IntKind.wrap IntKind.i64 (Int.tdiv (IntKind.wrap IntKind.i64 (x1 + 1800000000)) 600000000) then 5
                                else IntKind.wrap IntKind.i64 (Int.tdiv (IntKind.wrap IntKind.i64 (x1 + 1800000000)) 600000000))
                                (IntKind.wrap IntKind.i64
                                  (IntKind.wrap IntKind.i64 (x1 + 1800000000) -
                                    IntKind.wrap IntKind.i64
                                      ((if 5 < IntKind.wrap IntKind.i64 (Int.tdiv (IntKind.wrap IntKind.i64 (x1 + 1800000000)) 600000000) then 5
                                        else IntKind.wrap IntKind.i64 (Int.tdiv (IntKind.wrap IntKind.i64 (x1 + 1800000000)) 600000000)) *
                                        600000000)))
                                d.2)
                              fun (d_1 : Int × Bool) =>
                              Option.bind
                                (g_earth_Declination_1 d.1 d_1.1
                                  (IntKind.wrap IntKind.i64
                                    (IntKind.wrap IntKind.i64 (x0 + 900000000) -
                                      IntKind.wrap IntKind.i64
                                        ((if 3 < IntKind.wrap IntKind.i64 (Int.tdiv (IntKind.wrap IntKind.i64 (x0 + 900000000)) 450000000) then 3
                                          else IntKind.wrap IntKind.i64 (Int.tdiv (IntKind.wrap IntKind.i64 (x0 + 900000000)) 450000000)) *
                                          450000000)))
                                  450000000 d_1.2)
                                fun (d : Int × Bool) => Option.bind (g___fx_Acc__MulDiv d.1 3373259426 19327352832000 d.2) fun (d : Int × Bool) => k (d.1, 0, d.2)
                          else
                            bif
                                IntKind.wrap IntKind.i64
                                    ((if 3 < IntKind.wrap IntKind.i64 (Int.tdiv (IntKind.wrap IntKind.i64 (x0 + 900000000)) 450000000) then 3
                                      else IntKind.wrap IntKind.i64 (Int.tdiv (IntKind.wrap IntKind.i64 (x0 + 900000000)) 450000000)) +
                                      1) ==
                                  1 then
                              Option.bind
                                (g_earth_Declination_2 2200 2500 500 (-2200) (-3800) 0 2200
                                  (if 5 < IntKind.wrap IntKind.i64 (Int.tdiv (IntKind.wrap IntKind.i64 (x1 + 1800000000)) 600000000) then 5
                                  else IntKind.wrap IntKind.i64 (Int.tdiv (IntKind.wrap IntKind.i64 (x1 + 1800000000)) 600000000))
                                  (IntKind.wrap IntKind.i64
                                    (IntKind.wrap IntKind.i64 (x1 + 1800000000) -
                                      IntKind.wrap IntKind.i64
                                        ((if 5 < IntKind.wrap IntKind.i64 (Int.tdiv (IntKind.wrap IntKind.i64 (x1 + 1800000000)) 600000000) then 5
                                          else IntKind.wrap IntKind.i64 (Int.tdiv (IntKind.wrap IntKind.i64 (x1 + 1800000000)) 600000000)) *
                                          600000000)))
                                  d.2)
                                fun (d_1 : Int × Bool) =>
                                Option.bind
                                  (g_earth_Declination_1 d.1 d_1.1
                                    (IntKind.wrap IntKind.i64
                                      (IntKind.wrap IntKind.i64 (x0 + 900000000) -
                                        IntKind.wrap IntKind.i64
                                          ((if 3 < IntKind.wrap IntKind.i64 (Int.tdiv (IntKind.wrap IntKind.i64 (x0 + 900000000)) 450000000) then 3
                                            else IntKind.wrap IntKind.i64 (Int.tdiv (IntKind.wrap IntKind.i64 (x0 + 900000000)) 450000000)) *
                                            450000000)))
                                    450000000 d_1.2)
                                  fun (d : Int × Bool) => Option.bind (g___fx_Acc__MulDiv d.1 3373259426 19327352832000 d.2) fun (d : Int × Bool) => k (d.1, 0, d.2)
                            else
                              Option.bind
                                (g_earth_Declination_2 3000 6000 (-2000) (-1500) (-6000) (-9000) 3000
                                  (if 5 < IntKind.wrap IntKind.i64 (Int.tdiv (IntKind.wrap IntKind.i64 (x1 + 1800000000)) 600000000) then 5
                                  else IntKind.wrap IntKind.i64 (Int.tdiv (IntKind.wrap IntKind.i64 (x1 + 1800000000)) 600000000))
                                  (IntKind.wrap IntKind.i64
                                    (IntKind.wrap IntKind.i64 (x1 + 1800000000) -
                                      IntKind.wrap IntKind.i64
                                        ((if 5 < IntKind.wrap IntKind.i64 (Int.tdiv (IntKind.wrap IntKind.i64 (x1 + 1800000000)) 600000000) then 5
                                          else IntKind.wrap IntKind.i64 (Int.tdiv (IntKind.wrap IntKind.i64 (x1 + 1800000000)) 600000000)) *
                                          600000000)))
                                  d.2)
                                fun (d_1 : Int × Bool) =>
                                Option.bind
                                  (g_earth_Declination_1 d.1 d_1.1
                                    (IntKind.wrap IntKind.i64
                                      (IntKind.wrap IntKind.i64 (x0 + 900000000) -
                                        IntKind.wrap IntKind.i64
                                          ((if 3 < IntKind.wrap IntKind.i64 (Int.tdiv (IntKind.wrap IntKind.i64 (x0 + 900000000)) 450000000) then 3
                                            else IntKind.wrap IntKind.i64 (Int.tdiv (IntKind.wrap IntKind.i64 (x0 + 900000000)) 450000000)) *
                                            450000000)))
                                    450000000 d_1.2)
                                  fun (d : Int × Bool) => Option.bind (g___fx_Acc__MulDiv d.1 3373259426 19327352832000 d.2) fun (d : Int × Bool) => k (d.1, 0, d.2)
                    else none
                else
                  Option.bind
                    (g_earth_Declination_2 3000 6000 (-2000) (-1500) (-6000) (-9000) 3000
                      (if 5 < IntKind.wrap IntKind.i64 (Int.tdiv (IntKind.wrap IntKind.i64 (x1 + 1800000000)) 600000000) then 5
                      else IntKind.wrap IntKind.i64 (Int.tdiv (IntKind.wrap IntKind.i64 (x1 + 1800000000)) 600000000))
                      (IntKind.wrap IntKind.i64
                        (IntKind.wrap IntKind.i64 (x1 + 1800000000) -
                          IntKind.wrap IntKind.i64
                            ((if 5 < IntKind.wrap IntKind.i64 (Int.tdiv (IntKind.wrap IntKind.i64 (x1 + 1800000000)) 600000000) then 5
                              else IntKind.wrap IntKind.i64 (Int.tdiv (IntKind.wrap IntKind.i64 (x1 + 1800000000)) 600000000)) *
                              600000000)))
                      x3)
                    fun (d : Int × Bool) =>
                    bif
                        inR
                          (IntKind.wrap IntKind.i64
                            ((if 3 < IntKind.wrap IntKind.i64 (Int.tdiv (IntKind.wrap IntKind.i64 (x0 + 900000000)) 450000000) then 3
                              else IntKind.wrap IntKind.i64 (Int.tdiv (IntKind.wrap IntKind.i64 (x0 + 900000000)) 450000000)) +
                              1))
                          5 then
                      bif
                          IntKind.wrap IntKind.i64
                              ((if 3 < IntKind.wrap IntKind.i64 (Int.tdiv (IntKind.wrap IntKind.i64 (x0 + 900000000)) 450000000) then 3
                                else IntKind.wrap IntKind.i64 (Int.tdiv (IntKind.wrap IntKind.i64 (x0 + 900000000)) 450000000)) +
                                1) ==
                            4 then
                        Option.bind
                          (g_earth_Declination_2 1000 4000 (-3000) 500 3500 (-1200) 1000
                            (if 5 < IntKind.wrap IntKind.i64 (Int.tdiv (IntKind.wrap IntKind.i64 (x1 + 1800000000)) 600000000) then 5
                            else IntKind.wrap IntKind.i64 (Int.tdiv (IntKind.wrap IntKind.i64 (x1 + 1800000000)) 600000000))
                            (IntKind.wrap IntKind.i64
                              (IntKind.wrap IntKind.i64 (x1 + 1800000000) -
                                IntKind.wrap IntKind.i64
                                  ((if 5 < IntKind.wrap IntKind.i64 (Int.tdiv (IntKind.wrap IntKind.i64 (x1 + 1800000000)) 600000000) then 5
                                    else IntKind.wrap IntKind.i64 (Int.tdiv (IntKind.wrap IntKind.i64 (x1 + 1800000000)) 600000000)) *
                                    600000000)))
                            d.2)
                          fun (d_1 : Int × Bool) =>
                          Option.bind
                            (g_earth_Declination_1 d.1 d_1.1
                              (IntKind.wrap IntKind.i64
                                (IntKind.wrap IntKind.i64 (x0 + 900000000) -
                                  IntKind.wrap IntKind.i64
                                    ((if 3 < IntKind.wrap IntKind.i64 (Int.tdiv (IntKind.wrap IntKind.i64 (x0 + 900000000)) 450000000) then 3
                                      else IntKind.wrap IntKind.i64 (Int.tdiv (IntKind.wrap IntKind.i64 (x0 + 900000000)) 450000000)) *
                                      450000000)))
                              450000000 d_1.2)
                            fun (d : Int × Bool) => Option.bind (g___fx_Acc__MulDiv d.1 3373259426 19327352832000 d.2) fun (d : Int × Bool) => k (d.1, 0, d.2)
                      else
                        bif
                            IntKind.wrap IntKind.i64
                                ((if 3 < IntKind.wrap IntKind.i64 (Int.tdiv (IntKind.wrap IntKind.i64 (x0 + 900000000)) 450000000) then 3
                                  else IntKind.wrap IntKind.i64 (Int.tdiv (IntKind.wrap IntKind.i64 (x0 + 900000000)) 450000000)) +
                                  1) ==
                              3 then
                          Option.bind
                            (g_earth_Declination_2 500 1500 (-1700) 100 700 (-800) 500
                              (if 5 < IntKind.wrap IntKind.i64 (Int.tdiv (IntKind.wrap IntKind.i64 (x1 + 1800000000)) 600000000) then 5
                              else IntKind.wrap IntKind.i64 (Int.tdiv (IntKind.wrap IntKind.i64 (x1 + 1800000000)) 600000000))
                              (IntKind.wrap IntKind.i64
                                (IntKind.wrap IntKind.i64 (x1 + 1800000000) -
                                  IntKind.wrap IntKind.i64
                                    ((if 5 < IntKind.wrap IntKind.i64 (Int.tdiv (IntKind.wrap IntKind.i64 (x1 + 1800000000)) 600000000) then 5
                                      else IntKind.wrap IntKind.i64 (Int.tdiv (IntKind.wrap IntKind.i64 (x1 + 1800000000)) 600000000)) *
                                      600000000)))
                              d.2)
                            fun (d_1 : Int × Bool) =>
                            Option.bind
                              (g_earth_Declination_1 d.1 d_1.1
                                (IntKind.wrap IntKind.i64
                                  (IntKind.wrap IntKind.i64 (x0 + 900000000) -
                                    IntKind.wrap IntKind.i64
                                      ((if 3 < IntKind.wrap IntKind.i64 (Int.tdiv (IntKind.wrap IntKind.i64 (x0 + 900000000)) 450000000) then 3
                                        else IntKind.wrap IntKind.i64 (Int.tdiv (IntKind.wrap IntKind.i64 (x0 + 900000000)) 450000000)) *
                                        450000000)))
                                450000000 d_1.2)
                              fun (d : Int × Bool) => Option.bind (g___fx_Acc__MulDiv d.1 3373259426 19327352832000 d.2) fun (d : Int × Bool) => k (d.1, 0, d.2)
                        else
                          bif
                              IntKind.wrap IntKind.i64
                                  ((if 3 < IntKind.wrap IntKind.i64 (Int.tdiv (IntKind.wrap IntKind.i64 (x0 + 900000000)) 450000000) then 3
                                    else IntKind.wrap IntKind.i64 (Int.tdiv (IntKind.wrap IntKind.i64 (x0 + 900000000)) 450000000)) +
                                    1) ==
                                2 then
                            Option.bind
                              (g_earth_Declination_2 950 900 (-1400) (-500) (-300) 100 950
                                (if 5 < IntKind.wrap IntKind.i64 (Int.tdiv (IntKind.wrap IntKind.i64 (x1 + 1800000000)) 600000000) then 5
                                else IntKind.wrap IntKind.i64 (Int.tdiv (IntKind.wrap IntKind.i64 (x1 + 1800000000)) 600000000))
                                (IntKind.wrap IntKind.i64
                                  (IntKind.wrap IntKind.i64 (x1 + 1800000000) -
                                    IntKind.wrap IntKind.i64
                                      ((if 5 < IntKind.wrap IntKind.i64 (Int.tdiv (IntKind.wrap IntKind.i64 (x1 + 1800000000)) 600000000) then 5
                                        else IntKind.wrap IntKind.i64 (Int.tdiv (IntKind.wrap IntKind.i64 (x1 + 1800000000)) 600000000)) *
                                        600000000)))
                                d.2)
                              fun (d_1 : Int × Bool) =>
                              Option.bind
                                (g_earth_Declination_1 d.1 d_1.1
                                  (IntKind.wrap IntKind.i64
                                    (IntKind.wrap IntKind.i64 (x0 + 900000000) -
                                      IntKind.wrap IntKind.i64
                                        ((if 3 < IntKind.wrap IntKind.i64 (Int.tdiv (IntKind.wrap IntKind.i64 (x0 + 900000000)) 450000000) then 3
                                          else IntKind.wrap IntKind.i64 (Int.tdiv (IntKind.wrap IntKind.i64 (x0 + 900000000)) 450000000)) *
                                          450000000)))
                                  450000000 d_1.2)
                                fun (d : Int × Bool) => Option.bind (g___fx_Acc__MulDiv d.1 3373259426 19327352832000 d.2) fun (d : Int × Bool) => k (d.1, 0, d.2)
                          else
                            bif
                                IntKind.wrap IntKind.i64
                                    ((if 3 < IntKind.wrap IntKind.i64 (Int.tdiv (IntKind.wrap IntKind.i64 (x0 + 900000000)) 450000000) then 3
                                      else IntKind.wrap IntKind.i64 (Int.tdiv (IntKind.wrap IntKind.i64 (x0 + 900000000)) 450000000)) +
                                      1) ==
                                  1 then
                              Option.bind
                                (g_earth_Declination_2 2200 2500 500 (-2200) (-3800) 0 2200
                                  (if 5 < IntKind.wrap IntKind.i64 (Int.tdiv (IntKind.wrap IntKind.i64 (x1 + 1800000000)) 600000000) then 5
                                  else IntKind.wrap IntKind.i64 (Int.tdiv (IntKind.wrap IntKind.i64 (x1 + 1800000000)) 600000000))
                                  (IntKind.wrap IntKind.i64
                                    (IntKind.wrap IntKind.i64 (x1 + 1800000000) -
                                      IntKind.wrap IntKind.i64
                                        ((if 5 < IntKind.wrap IntKind.i64 (Int.tdiv (IntKind.wrap IntKind.i64 (x1 + 1800000000)) 600000000) then 5
                                          else IntKind.wrap IntKind.i64 (Int.tdiv (IntKind.wrap IntKind.i64 (x1 + 1800000000)) 600000000)) *
                                          600000000)))
                                  d.2)
                                fun (d_1 : Int × Bool) =>
                                Option.bind
                                  (g_earth_Declination_1 d.1 d_1.1
                                    (IntKind.wrap IntKind.i64
                                      (IntKind.wrap IntKind.i64 (x0 + 900000000) -
                                        IntKind.wrap IntKind.i64
                                          ((if 3 < IntKind.wrap IntKind.i64 (Int.tdiv (IntKind.wrap IntKind.i64 (x0 + 900000000)) 450000000) then 3
                                            else IntKind.wrap IntKind.i64 (Int.tdiv (IntKind.wrap IntKind.i64 (x0 + 900000000)) 450000000)) *
                                            450000000)))
                                    450000000 d_1.2)
                                  fun (d : Int × Bool) => Option.bind (g___fx_Acc__MulDiv d.1 3373259426 19327352832000 d.2) fun (d : Int × Bool) => k (d.1, 0, d.2)
                            else
                              Option.bind
                                (g_earth_Declination_2 3000 6000 (-2000) (-1500) (-6000) (-9000) 3000
                                  (if 5 < IntKind.wrap IntKind.i64 (Int.tdiv (IntKind.wrap IntKind.i64 (x1 + 1800000000)) 600000000) then 5
                                  else IntKind.wrap IntKind.i64 (Int.tdiv (IntKind.wrap IntKind.i64 (x1 + 1800000000)) 600000000))
                                  (IntKind.wrap IntKind.i64
                                    (IntKind.wrap IntKind.i64 (x1 + 1800000000) -
                                      IntKind.wrap IntKind.i64
                                        ((if 5 < IntKind.wrap IntKind.i64 (Int.tdiv (IntKind.wrap IntKind.i64 (x1 + 1800000000)) 600000000) then 5
                                          else IntKind.wrap IntKind.i64 (Int.tdiv (IntKind.wrap IntKind.i64 (x1 + 1800000000)) 600000000)) *
                                          600000000)))
                                  d.2)
                                fun (d_1 : Int × Bool) =>
                                Option.bind
                                  (g_earth_Declination_1 d.1 d_1.1
                                    (IntKind.wrap IntKind.i64
                                      (IntKind.wrap IntKind.i64 (x0 + 900000000) -
                                        IntKind.wrap IntKind.i64
                                          ((if 3 < IntKind.wrap IntKind.i64 (Int.tdiv (IntKind.wrap IntKind.i64 (x0 + 900000000)) 450000000) then 3
                                            else IntKind.wrap IntKind.i64 (Int.tdiv (IntKind.wrap IntKind.i64 (x0 + 900000000)) 450000000)) *
                                            450000000)))
                                    450000000 d_1.2)
                                  fun (d : Int × Bool) => Option.bind (g___fx_Acc__MulDiv d.1 3373259426 19327352832000 d.2) fun (d : Int × Bool) => k (d.1, 0, d.2)
                    else none
        else none
def f_earth_Declination (x0 : Int) (x1 : Int) (x2 : Int) (x3 : Bool) : Option (Int × Int × Bool) := K_earth_Declination f_earth_Good f_earth_hundredths f_earth_Declination_1 f_earth_Declination_2 f___fx_Acc__MulDiv  x0 x1 x2 x3 some
section
open Go.Ab.Rdr
def QA_earth_Declination := ((pair (cons (ar (rc (cptr (nat 0) (ok' (nat 0)) (nat 1)))) (cons (ar (ra (cons (gc (cf (fi .i64 hole))) (cons (gc (cf (fi .i64 hole))) (cons (gc (cf (fi .i64 hole))) nil))))) nil)) (cons (cons (gc (cf (fb hole))) nil) nil)) : Rdr (List AV × List Blk) _)
end
def F_earth_Declination (f : (Int) → (Int) → (Int) → (Bool) → Option (Int × Int × Bool)) : Sem1 := fun args h => match (QA_earth_Declination).rd (args, h) with
  | some b => .opt (f b.1.2.1.1 b.1.2.1.2.1 b.1.2.1.2.2.1 b.2.1.1) fun (d : Int × Int × Bool) => .leaf (Res.mk (AV.tup [RV.c (CV.f (FV.i IntKind.i64 d.1)), RV.c (CV.f (FV.i IntKind.i64 d.2.1))]) [Ch.set [Sg.c (CV.f (FV.b d.2.2))]] [])
  | none => .fail
theorem d_earth_Declination (g_earth_Good : Int → Int → Int → Option Bool) (g_earth_hundredths : Option Unit) (g_earth_Declination_1 : Int → Int → Int → Int → Bool → Option (Int × Bool)) (g_earth_Declination_2 : Int → Int → Int → Int → Int → Int → Int → Int → Int → Bool → Option (Int × Bool)) (g___fx_Acc__MulDiv : Int → Int → Int → Bool → Option (Int × Bool))  (x0 : Int) (x1 : Int) (x2 : Int) (x3 : Bool) : den Try.prog (envOf [(40, F_earth_Good g_earth_Good), (73, F_earth_hundredths g_earth_hundredths), (74, F_earth_Declination_1 g_earth_Declination_1), (75, F_earth_Declination_2 g_earth_Declination_2), (68, F___fx_Acc__MulDiv g___fx_Acc__MulDiv)]) ⟨[], [], [0], [], none⟩ 200 38 [.r (.c (.ptr 0 (.k 0) 1)), .r (.agg [.c (.f (.i .i64 x0)), .c (.f (.i .i64 x1)), .c (.f (.i .i64 x2))])] [[.c (.f (.b x3))]] =
    K_earth_Declination g_earth_Good g_earth_hundredths g_earth_Declination_1 g_earth_Declination_2 g___fx_Acc__MulDiv  x0 x1 x2 x3 (fun (d : Int × Int × Bool) => some (Res.mk (AV.tup [RV.c (CV.f (FV.i IntKind.i64 d.1)), RV.c (CV.f (FV.i IntKind.i64 d.2.1))]) [Ch.set [Sg.c (CV.f (FV.b d.2.2))]] [])) := by kernel_rfl
theorem m_earth_Declination {ρ σ : Type} (q : ρ → Option σ) (g_earth_Good : Int → Int → Int → Option Bool) (g_earth_hundredths : Option Unit) (g_earth_Declination_1 : Int → Int → Int → Int → Bool → Option (Int × Bool)) (g_earth_Declination_2 : Int → Int → Int → Int → Int → Int → Int → Int → Int → Bool → Option (Int × Bool)) (g___fx_Acc__MulDiv : Int → Int → Int → Bool → Option (Int × Bool))   (x0 : Int) (x1 : Int) (x2 : Int) (x3 : Bool) (k : (Int × Int × Bool) → Option ρ) : (K_earth_Declination g_earth_Good g_earth_hundredths g_earth_Declination_1 g_earth_Declination_2 g___fx_Acc__MulDiv  x0 x1 x2 x3 k).bind q = K_earth_Declination g_earth_Good g_earth_hundredths g_earth_Declination_1 g_earth_Declination_2 g___fx_Acc__MulDiv  x0 x1 x2 x3 (fun d => (k d).bind q) := by
  simp only [K_earth_Declination, bnd_cond, bnd_bind, bnd_none, bnd_sum]
theorem qa_earth_Declination : ∀ b, (QA_earth_Declination).em b = ([.r (.c (.ptr 0 (.k 0) 1)), .r (.agg [.c (.f (.i .i64 b.1.2.1.1)), .c (.f (.i .i64 b.1.2.1.2.1)), .c (.f (.i .i64 b.1.2.1.2.2.1))])], [[.c (.f (.b b.2.1.1))]]) := fun b => by kernel_rfl
theorem e_earth_Declination {f : (Int) → (Int) → (Int) → (Bool) → Option (Int × Int × Bool)} {args : List AV} {h : List Blk} {r : Res} (hr : (F_earth_Declination f args h).eval = some r) : ∃ x0 x1 x2 x3, args = [.r (.c (.ptr 0 (.k 0) 1)), .r (.agg [.c (.f (.i .i64 x0)), .c (.f (.i .i64 x1)), .c (.f (.i .i64 x2))])] ∧ h = [[.c (.f (.b x3))]] ∧ (f x0 x1 x2 x3).bind (fun (d : Int × Int × Bool) => some (Res.mk (AV.tup [RV.c (CV.f (FV.i IntKind.i64 d.1)), RV.c (CV.f (FV.i IntKind.i64 d.2.1))]) [Ch.set [Sg.c (CV.f (FV.b d.2.2))]] [])) = some r := by
  unfold F_earth_Declination at hr
  split at hr
  · rename_i b hb
    have e := ((QA_earth_Declination).ok _ _ hb).trans (qa_earth_Declination b)
    rw [opt_eval2] at hr
    exact ⟨b.1.2.1.1, b.1.2.1.2.1, b.1.2.1.2.2.1, b.2.1.1, (Prod.mk.inj e).1, (Prod.mk.inj e).2, hr⟩
  · cases hr
theorem n_earth_Declination {σ : Type} (q : (Int × Int × Bool) → Option σ) (x0 : Int) (x1 : Int) (x2 : Int) (x3 : Bool) : (f_earth_Declination x0 x1 x2 x3).bind q = K_earth_Declination f_earth_Good f_earth_hundredths f_earth_Declination_1 f_earth_Declination_2 f___fx_Acc__MulDiv  x0 x1 x2 x3 q := by
  unfold f_earth_Declination
  exact m_earth_Declination q f_earth_Good f_earth_hundredths f_earth_Declination_1 f_earth_Declination_2 f___fx_Acc__MulDiv   x0 x1 x2 x3 some
theorem s_earth_Declination : Sound Try.prog 38 (F_earth_Declination f_earth_Declination) :=
  (inl_sound (l := [(40, F_earth_Good f_earth_Good), (73, F_earth_hundredths f_earth_hundredths), (74, F_earth_Declination_1 f_earth_Declination_1), (75, F_earth_Declination_2 f_earth_Declination_2), (68, F___fx_Acc__MulDiv f___fx_Acc__MulDiv)]) (.cons s_earth_Good (.cons s_earth_hundredths (.cons s_earth_Declination_1 (.cons s_earth_Declination_2 (.cons s___fx_Acc__MulDiv (.nil _)))))) mixed [] [0] 200 (by kernel_rfl)).by (F := F_earth_Declination f_earth_Declination) fun args b r hr => by
  obtain ⟨x0, x1, x2, x3, rfl, rfl, hr1⟩ := e_earth_Declination hr
  exact inl_eval ((d_earth_Declination f_earth_Good f_earth_hundredths f_earth_Declination_1 f_earth_Declination_2 f___fx_Acc__MulDiv  x0 x1 x2 x3).trans ((n_earth_Declination (fun (d : Int × Int × Bool) => some (Res.mk (AV.tup [RV.c (CV.f (FV.i IntKind.i64 d.1)), RV.c (CV.f (FV.i IntKind.i64 d.2.1))]) [Ch.set [Sg.c (CV.f (FV.b d.2.2))]] [])) x0 x1 x2 x3).symm.trans hr1))

def K___earth_Frame__Scale {ρ : Type}   (x0 : Int) (x1 : Int) (x2 : Int) (x3 : Int) (x4 : Int) (k : (Int × Int) → Option ρ) : Option ρ :=
  k (x3, x4)
def f___earth_Frame__Scale (x0 : Int) (x1 : Int) (x2 : Int) (x3 : Int) (x4 : Int) : Option (Int × Int) := K___earth_Frame__Scale   x0 x1 x2 x3 x4 some
section
open Go.Ab.Rdr
def QA___earth_Frame__Scale := ((pair (cons (ar (rc (cptr (nat 0) (ok' (nat 0)) (nat 5)))) nil) (cons (cons (gc (cf (fi .i64 hole))) (cons (gc (cf (fi .i64 hole))) (cons (gc (cf (fi .i64 hole))) (cons (gc (cf (fi .i64 hole))) (cons (gc (cf (fi .i64 hole))) nil))))) nil)) : Rdr (List AV × List Blk) _)
end
def F___earth_Frame__Scale (f : (Int) → (Int) → (Int) → (Int) → (Int) → Option (Int × Int)) : Sem1 := fun args h => match (QA___earth_Frame__Scale).rd (args, h) with
  | some b => .opt (f b.2.1.1 b.2.1.2.1 b.2.1.2.2.1 b.2.1.2.2.2.1 b.2.1.2.2.2.2.1) fun (d : Int × Int) => .leaf (Res.mk (AV.tup [RV.c (CV.f (FV.i IntKind.i64 d.1)), RV.c (CV.f (FV.i IntKind.i64 d.2))]) [Ch.keep] [])
  | none => .fail
theorem d___earth_Frame__Scale   (x0 : Int) (x1 : Int) (x2 : Int) (x3 : Int) (x4 : Int) : den Try.prog (envOf []) ⟨[], [], [], [], none⟩ 200 43 [.r (.c (.ptr 0 (.k 0) 5))] [[.c (.f (.i .i64 x0)), .c (.f (.i .i64 x1)), .c (.f (.i .i64 x2)), .c (.f (.i .i64 x3)), .c (.f (.i .i64 x4))]] =
    K___earth_Frame__Scale   x0 x1 x2 x3 x4 (fun (d : Int × Int) => some (Res.mk (AV.tup [RV.c (CV.f (FV.i IntKind.i64 d.1)), RV.c (CV.f (FV.i IntKind.i64 d.2))]) [Ch.keep] [])) := by kernel_rfl
theorem m___earth_Frame__Scale {ρ σ : Type} (q : ρ → Option σ)    (x0 : Int) (x1 : Int) (x2 : Int) (x3 : Int) (x4 : Int) (k : (Int × Int) → Option ρ) : (K___earth_Frame__Scale   x0 x1 x2 x3 x4 k).bind q = K___earth_Frame__Scale   x0 x1 x2 x3 x4 (fun d => (k d).bind q) := by
  simp only [K___earth_Frame__Scale, bnd_cond, bnd_bind, bnd_none, bnd_sum]
theorem qa___earth_Frame__Scale : ∀ b, (QA___earth_Frame__Scale).em b = ([.r (.c (.ptr 0 (.k 0) 5))], [[.c (.f (.i .i64 b.2.1.1)), .c (.f (.i .i64 b.2.1.2.1)), .c (.f (.i .i64 b.2.1.2.2.1)), .c (.f (.i .i64 b.2.1.2.2.2.1)), .c (.f (.i .i64 b.2.1.2.2.2.2.1))]]) := fun b => by kernel_rfl
theorem e___earth_Frame__Scale {f : (Int) → (Int) → (Int) → (Int) → (Int) → Option (Int × Int)} {args : List AV} {h : List Blk} {r : Res} (hr : (F___earth_Frame__Scale f args h).eval = some r) : ∃ x0 x1 x2 x3 x4, args = [.r (.c (.ptr 0 (.k 0) 5))] ∧ h = [[.c (.f (.i .i64 x0)), .c (.f (.i .i64 x1)), .c (.f (.i .i64 x2)), .c (.f (.i .i64 x3)), .c (.f (.i .i64 x4))]] ∧ (f x0 x1 x2 x3 x4).bind (fun (d : Int × Int) => some (Res.mk (AV.tup [RV.c (CV.f (FV.i IntKind.i64 d.1)), RV.c (CV.f (FV.i IntKind.i64 d.2))]) [Ch.keep] [])) = some r := by
  unfold F___earth_Frame__Scale at hr
  split at hr
  · rename_i b hb
    have e := ((QA___earth_Frame__Scale).ok _ _ hb).trans (qa___earth_Frame__Scale b)
    rw [opt_eval2] at hr
    exact ⟨b.2.1.1, b.2.1.2.1, b.2.1.2.2.1, b.2.1.2.2.2.1, b.2.1.2.2.2.2.1, (Prod.mk.inj e).1, (Prod.mk.inj e).2, hr⟩
  · cases hr
theorem n___earth_Frame__Scale {σ : Type} (q : (Int × Int) → Option σ) (x0 : Int) (x1 : Int) (x2 : Int) (x3 : Int) (x4 : Int) : (f___earth_Frame__Scale x0 x1 x2 x3 x4).bind q = K___earth_Frame__Scale   x0 x1 x2 x3 x4 q := by
  unfold f___earth_Frame__Scale
  exact m___earth_Frame__Scale q    x0 x1 x2 x3 x4 some
theorem s___earth_Frame__Scale : Sound Try.prog 43 (F___earth_Frame__Scale f___earth_Frame__Scale) :=
  (inl_sound (l := []) (.nil _) mixed [] [] 200 (by kernel_rfl)).by (F := F___earth_Frame__Scale f___earth_Frame__Scale) fun args b r hr => by
  obtain ⟨x0, x1, x2, x3, x4, rfl, rfl, hr1⟩ := e___earth_Frame__Scale hr
  exact inl_eval ((d___earth_Frame__Scale   x0 x1 x2 x3 x4).trans ((n___earth_Frame__Scale (fun (d : Int × Int) => some (Res.mk (AV.tup [RV.c (CV.f (FV.i IntKind.i64 d.1)), RV.c (CV.f (FV.i IntKind.i64 d.2))]) [Ch.keep] [])) x0 x1 x2 x3 x4).symm.trans hr1))

def K_astrolabelaw8_awake {ρ : Type} (g_earth_New : Int → Int → Int → Option (Unit ⊕ Int × Int × Int × Int × Int)) (g___earth_Frame__To : Int → Int → Int → Int → Int → Int → Int → Int → Bool → Option (Int × Int × Int × Int × Bool)) (g_earth_Declination : Int → Int → Int → Bool → Option (Int × Int × Bool)) (g___earth_Frame__Scale : Int → Int → Int → Int → Int → Option (Int × Int)) (g_earth_Good : Int → Int → Int → Option Bool)   (k : (Bool) → Option ρ) : Option ρ :=
  Option.bind (g_earth_New 0 0 0) fun (d : Unit ⊕ Int × Int × Int × Int × Int) =>
    bif
        match d with
        | Sum.inl val => true
        | Sum.inr val => false then
      Option.bind
        (match d with
        | Sum.inl a => some a
        | Sum.inr val => none)
        fun (d : Unit) => k false
    else
      Option.bind
        (match d with
        | Sum.inr b => some b
        | Sum.inl val => none)
        fun (d : Int × Int × Int × Int × Int) =>
        Option.bind (g___earth_Frame__To 0 0 0 d.1 d.2.1 d.2.2.1 d.2.2.2.1 d.2.2.2.2 false) fun (d_1 : Int × Int × Int × Int × Bool) =>
          Option.bind (g_earth_Declination 0 0 0 d_1.2.2.2.2) fun (d_2 : Int × Int × Bool) =>
            Option.bind (g___earth_Frame__Scale d.1 d.2.1 d.2.2.1 d.2.2.2.1 d.2.2.2.2) fun (d : Int × Int) =>
              bif d_1.2.2.2.1 == 0 then
                bif d_1.1 == 0 && (d_1.2.1 == 0 && (d_1.2.2.1 == 0 && true)) then
                  bif d_2.2.1 == 0 then
                    bif d_2.1 == -93701651 then
                      bif decide (d.1 > 8589934592) then bif decide (d.2 > d.1) then Option.bind (g_earth_Good 0 0 0) fun (d : Bool) => bif d then k !d_2.2.2 else k false else k false
                      else k false
                    else k false
                  else k false
                else k false
              else k false
def f_astrolabelaw8_awake  : Option (Bool) := K_astrolabelaw8_awake f_earth_New f___earth_Frame__To f_earth_Declination f___earth_Frame__Scale f_earth_Good   some
section
open Go.Ab.Rdr
def QA_astrolabelaw8_awake := ((pair nil nil) : Rdr (List AV × List Blk) _)
end
def F_astrolabelaw8_awake (f : Option (Bool)) : Sem1 := fun args h => match (QA_astrolabelaw8_awake).rd (args, h) with
  | some b => .opt (f ) fun (d : Bool) => .leaf (Res.mk (AV.r (RV.c (CV.f (FV.b d)))) [] [])
  | none => .fail
theorem d_astrolabelaw8_awake (g_earth_New : Int → Int → Int → Option (Unit ⊕ Int × Int × Int × Int × Int)) (g___earth_Frame__To : Int → Int → Int → Int → Int → Int → Int → Int → Bool → Option (Int × Int × Int × Int × Bool)) (g_earth_Declination : Int → Int → Int → Bool → Option (Int × Int × Bool)) (g___earth_Frame__Scale : Int → Int → Int → Int → Int → Option (Int × Int)) (g_earth_Good : Int → Int → Int → Option Bool)   : den Try.prog (envOf [(37, F_earth_New g_earth_New), (39, F___earth_Frame__To g___earth_Frame__To), (38, F_earth_Declination g_earth_Declination), (43, F___earth_Frame__Scale g___earth_Frame__Scale), (40, F_earth_Good g_earth_Good)]) ⟨[], [], [], [], none⟩ 200 36 [] [] =
    K_astrolabelaw8_awake g_earth_New g___earth_Frame__To g_earth_Declination g___earth_Frame__Scale g_earth_Good   (fun (d : Bool) => some (Res.mk (AV.r (RV.c (CV.f (FV.b d)))) [] [])) := by kernel_rfl
theorem m_astrolabelaw8_awake {ρ σ : Type} (q : ρ → Option σ) (g_earth_New : Int → Int → Int → Option (Unit ⊕ Int × Int × Int × Int × Int)) (g___earth_Frame__To : Int → Int → Int → Int → Int → Int → Int → Int → Bool → Option (Int × Int × Int × Int × Bool)) (g_earth_Declination : Int → Int → Int → Bool → Option (Int × Int × Bool)) (g___earth_Frame__Scale : Int → Int → Int → Int → Int → Option (Int × Int)) (g_earth_Good : Int → Int → Int → Option Bool)    (k : (Bool) → Option ρ) : (K_astrolabelaw8_awake g_earth_New g___earth_Frame__To g_earth_Declination g___earth_Frame__Scale g_earth_Good   k).bind q = K_astrolabelaw8_awake g_earth_New g___earth_Frame__To g_earth_Declination g___earth_Frame__Scale g_earth_Good   (fun d => (k d).bind q) := by
  simp only [K_astrolabelaw8_awake, bnd_cond, bnd_bind, bnd_none, bnd_sum]
theorem qa_astrolabelaw8_awake : ∀ b, (QA_astrolabelaw8_awake).em b = ([], []) := fun b => by kernel_rfl
theorem e_astrolabelaw8_awake {f : Option (Bool)} {args : List AV} {h : List Blk} {r : Res} (hr : (F_astrolabelaw8_awake f args h).eval = some r) : args = [] ∧ h = [] ∧ (f ).bind (fun (d : Bool) => some (Res.mk (AV.r (RV.c (CV.f (FV.b d)))) [] [])) = some r := by
  unfold F_astrolabelaw8_awake at hr
  split at hr
  · rename_i b hb
    have e := ((QA_astrolabelaw8_awake).ok _ _ hb).trans (qa_astrolabelaw8_awake b)
    rw [opt_eval2] at hr
    exact ⟨(Prod.mk.inj e).1, (Prod.mk.inj e).2, hr⟩
  · cases hr
theorem n_astrolabelaw8_awake {σ : Type} (q : (Bool) → Option σ)  : (f_astrolabelaw8_awake ).bind q = K_astrolabelaw8_awake f_earth_New f___earth_Frame__To f_earth_Declination f___earth_Frame__Scale f_earth_Good   q := by
  unfold f_astrolabelaw8_awake
  exact m_astrolabelaw8_awake q f_earth_New f___earth_Frame__To f_earth_Declination f___earth_Frame__Scale f_earth_Good    some
theorem s_astrolabelaw8_awake : Sound Try.prog 36 (F_astrolabelaw8_awake f_astrolabelaw8_awake) :=
  (inl_sound (l := [(37, F_earth_New f_earth_New), (39, F___earth_Frame__To f___earth_Frame__To), (38, F_earth_Declination f_earth_Declination), (43, F___earth_Frame__Scale f___earth_Frame__Scale), (40, F_earth_Good f_earth_Good)]) (.cons s_earth_New (.cons s___earth_Frame__To (.cons s_earth_Declination (.cons s___earth_Frame__Scale (.cons s_earth_Good (.nil _)))))) mixed [] [] 200 (by kernel_rfl)).by (F := F_astrolabelaw8_awake f_astrolabelaw8_awake) fun args b r hr => by
  obtain ⟨rfl, rfl, hr1⟩ := e_astrolabelaw8_awake hr
  exact inl_eval ((d_astrolabelaw8_awake f_earth_New f___earth_Frame__To f_earth_Declination f___earth_Frame__Scale f_earth_Good  ).trans ((n_astrolabelaw8_awake (fun (d : Bool) => some (Res.mk (AV.r (RV.c (CV.f (FV.b d)))) [] [])) ).symm.trans hr1))

def K_astrolabelaw8_EarthKnown {ρ : Type} (g_astrolabelaw8_awake : Option Bool) (g_earth_New : Int → Int → Int → Option (Unit ⊕ Int × Int × Int × Int × Int)) (g_earth_Declination : Int → Int → Int → Bool → Option (Int × Int × Bool)) (g___earth_Frame__To : Int → Int → Int → Int → Int → Int → Int → Int → Bool → Option (Int × Int × Int × Int × Bool))   (k : (Bool) → Option ρ) : Option ρ :=
  Option.bind g_astrolabelaw8_awake fun (d : Bool) =>
    bif !d then k false
    else
      Option.bind (g_earth_New 850000001 0 0) fun (d : Unit ⊕ Int × Int × Int × Int × Int) =>
        bif
            match d with
            | Sum.inl val => true
            | Sum.inr val => false then
          Option.bind
            (match d with
            | Sum.inl a => some a
            | Sum.inr val => none)
            fun (d : Unit) =>
            Option.bind (g_earth_Declination 0 1800000001 0 false) fun (d : Int × Int × Bool) =>
              Option.bind (g_earth_New 0 0 0) fun (d_1 : Unit ⊕ Int × Int × Int × Int × Int) =>
                bif
                    match d_1 with
                    | Sum.inl val => true
                    | Sum.inr val => false then
                  Option.bind
                    (match d_1 with
                    | Sum.inl a => some a
                    | Sum.inr val => none)
                    fun (d : Unit) => none
                else
                  Option.bind
                    (match d_1 with
                    | Sum.inr b => some b
                    | Sum.inl val => none)
                    fun (d_2 : Int × Int × Int × Int × Int) =>
                    Option.bind (g___earth_Frame__To 0 0 100000001 d_2.1 d_2.2.1 d_2.2.2.1 d_2.2.2.2.1 d_2.2.2.2.2 d.2.2) fun (d_3 : Int × Int × Int × Int × Bool) =>
                      Option.bind (g___earth_Frame__To 0 0 (-1000) d_2.1 d_2.2.1 d_2.2.2.1 d_2.2.2.2.1 d_2.2.2.2.2 d_3.2.2.2.2)
                        fun (d_4 : Int × Int × Int × Int × Bool) =>
                        bif d.2.1 == 1 then
                          bif d_3.2.2.2.1 == 1 then bif d_4.2.2.2.1 == 0 then k (d_4.1 == 0 && (d_4.2.1 == 0 && (d_4.2.2.1 == 1073741824 && true))) else k false else k false
                        else k false
        else
          Option.bind
            (match d with
            | Sum.inr b => some b
            | Sum.inl val => none)
            fun (d : Int × Int × Int × Int × Int) =>
            Option.bind (g_earth_Declination 0 1800000001 0 false) fun (d : Int × Int × Bool) =>
              Option.bind (g_earth_New 0 0 0) fun (d_1 : Unit ⊕ Int × Int × Int × Int × Int) =>
                bif
                    match d_1 with
                    | Sum.inl val => true
                    | Sum.inr val => false then
                  Option.bind
                    (match d_1 with
                    | Sum.inl a => some a
                    | Sum.inr val => none)
                    fun (d : Unit) => none
                else
                  Option.bind
                    (match d_1 with
                    | Sum.inr b => some b
                    | Sum.inl val => none)
                    fun (d_2 : Int × Int × Int × Int × Int) =>
                    Option.bind (g___earth_Frame__To 0 0 100000001 d_2.1 d_2.2.1 d_2.2.2.1 d_2.2.2.2.1 d_2.2.2.2.2 d.2.2) fun (d : Int × Int × Int × Int × Bool) =>
                      Option.bind (g___earth_Frame__To 0 0 (-1000) d_2.1 d_2.2.1 d_2.2.2.1 d_2.2.2.2.1 d_2.2.2.2.2 d.2.2.2.2)
                        fun (d : Int × Int × Int × Int × Bool) => k false
def f_astrolabelaw8_EarthKnown  : Option (Bool) := K_astrolabelaw8_EarthKnown f_astrolabelaw8_awake f_earth_New f_earth_Declination f___earth_Frame__To   some
section
open Go.Ab.Rdr
def QA_astrolabelaw8_EarthKnown := ((pair nil nil) : Rdr (List AV × List Blk) _)
end
def F_astrolabelaw8_EarthKnown (f : Option (Bool)) : Sem1 := fun args h => match (QA_astrolabelaw8_EarthKnown).rd (args, h) with
  | some b => .opt (f ) fun (d : Bool) => .leaf (Res.mk (AV.r (RV.c (CV.f (FV.b d)))) [] [])
  | none => .fail
theorem d_astrolabelaw8_EarthKnown (g_astrolabelaw8_awake : Option Bool) (g_earth_New : Int → Int → Int → Option (Unit ⊕ Int × Int × Int × Int × Int)) (g_earth_Declination : Int → Int → Int → Bool → Option (Int × Int × Bool)) (g___earth_Frame__To : Int → Int → Int → Int → Int → Int → Int → Int → Bool → Option (Int × Int × Int × Int × Bool))   : den Try.prog (envOf [(36, F_astrolabelaw8_awake g_astrolabelaw8_awake), (37, F_earth_New g_earth_New), (38, F_earth_Declination g_earth_Declination), (39, F___earth_Frame__To g___earth_Frame__To)]) ⟨[], [], [], [], none⟩ 200 9 [] [] =
    K_astrolabelaw8_EarthKnown g_astrolabelaw8_awake g_earth_New g_earth_Declination g___earth_Frame__To   (fun (d : Bool) => some (Res.mk (AV.r (RV.c (CV.f (FV.b d)))) [] [])) := by kernel_rfl
theorem m_astrolabelaw8_EarthKnown {ρ σ : Type} (q : ρ → Option σ) (g_astrolabelaw8_awake : Option Bool) (g_earth_New : Int → Int → Int → Option (Unit ⊕ Int × Int × Int × Int × Int)) (g_earth_Declination : Int → Int → Int → Bool → Option (Int × Int × Bool)) (g___earth_Frame__To : Int → Int → Int → Int → Int → Int → Int → Int → Bool → Option (Int × Int × Int × Int × Bool))    (k : (Bool) → Option ρ) : (K_astrolabelaw8_EarthKnown g_astrolabelaw8_awake g_earth_New g_earth_Declination g___earth_Frame__To   k).bind q = K_astrolabelaw8_EarthKnown g_astrolabelaw8_awake g_earth_New g_earth_Declination g___earth_Frame__To   (fun d => (k d).bind q) := by
  simp only [K_astrolabelaw8_EarthKnown, bnd_cond, bnd_bind, bnd_none, bnd_sum]
theorem qa_astrolabelaw8_EarthKnown : ∀ b, (QA_astrolabelaw8_EarthKnown).em b = ([], []) := fun b => by kernel_rfl
theorem e_astrolabelaw8_EarthKnown {f : Option (Bool)} {args : List AV} {h : List Blk} {r : Res} (hr : (F_astrolabelaw8_EarthKnown f args h).eval = some r) : args = [] ∧ h = [] ∧ (f ).bind (fun (d : Bool) => some (Res.mk (AV.r (RV.c (CV.f (FV.b d)))) [] [])) = some r := by
  unfold F_astrolabelaw8_EarthKnown at hr
  split at hr
  · rename_i b hb
    have e := ((QA_astrolabelaw8_EarthKnown).ok _ _ hb).trans (qa_astrolabelaw8_EarthKnown b)
    rw [opt_eval2] at hr
    exact ⟨(Prod.mk.inj e).1, (Prod.mk.inj e).2, hr⟩
  · cases hr
theorem n_astrolabelaw8_EarthKnown {σ : Type} (q : (Bool) → Option σ)  : (f_astrolabelaw8_EarthKnown ).bind q = K_astrolabelaw8_EarthKnown f_astrolabelaw8_awake f_earth_New f_earth_Declination f___earth_Frame__To   q := by
  unfold f_astrolabelaw8_EarthKnown
  exact m_astrolabelaw8_EarthKnown q f_astrolabelaw8_awake f_earth_New f_earth_Declination f___earth_Frame__To    some
theorem s_astrolabelaw8_EarthKnown : Sound Try.prog 9 (F_astrolabelaw8_EarthKnown f_astrolabelaw8_EarthKnown) :=
  (inl_sound (l := [(36, F_astrolabelaw8_awake f_astrolabelaw8_awake), (37, F_earth_New f_earth_New), (38, F_earth_Declination f_earth_Declination), (39, F___earth_Frame__To f___earth_Frame__To)]) (.cons s_astrolabelaw8_awake (.cons s_earth_New (.cons s_earth_Declination (.cons s___earth_Frame__To (.nil _))))) mixed [] [] 200 (by kernel_rfl)).by (F := F_astrolabelaw8_EarthKnown f_astrolabelaw8_EarthKnown) fun args b r hr => by
  obtain ⟨rfl, rfl, hr1⟩ := e_astrolabelaw8_EarthKnown hr
  exact inl_eval ((d_astrolabelaw8_EarthKnown f_astrolabelaw8_awake f_earth_New f_earth_Declination f___earth_Frame__To  ).trans ((n_astrolabelaw8_EarthKnown (fun (d : Bool) => some (Res.mk (AV.r (RV.c (CV.f (FV.b d)))) [] [])) ).symm.trans hr1))

end Go.Proofs.Ytcalippagaaikaa
end
/-
  Contracts by plain functions: astrolabelaw8.EarthRound, astrolabelaw8.EarthBounds, astrolabelaw8.EarthPlane
-/
section
set_option maxRecDepth 100000
set_option maxHeartbeats 4000000
set_option linter.unusedVariables false
namespace Go.Proofs.Ytcalippagaaikaa
open Go.Ab
def K_astrolabelaw8_EarthRound {ρ : Type} (g_astrolabelaw8_awake : Option Bool) (g_earth_New : Int → Int → Int → Option (Unit ⊕ Int × Int × Int × Int × Int)) (g_earth_Good : Int → Int → Int → Option Bool) (g_earth_Declination : Int → Int → Int → Bool → Option (Int × Int × Bool)) (g___earth_Frame__To : Int → Int → Int → Int → Int → Int → Int → Int → Bool → Option (Int × Int × Int × Int × Bool))  (x0 : Int) (x1 : Int) (x2 : Int) (x3 : Int) (x4 : Int) (k : (Bool) → Option ρ) : Option ρ :=
  Option.bind g_astrolabelaw8_awake fun (d : Bool) =>
    bif !d then k false
    else
      Option.bind (g_earth_New x0 x1 x2) fun (d : Unit ⊕ Int × Int × Int × Int × Int) =>
        bif
            match d with
            | Sum.inl val => true
            | Sum.inr val => false then
          Option.bind
            (match d with
            | Sum.inl a => some a
            | Sum.inr val => none)
            fun (d : Unit) => k true
        else
          Option.bind
            (match d with
            | Sum.inr b => some b
            | Sum.inl val => none)
            fun (d : Int × Int × Int × Int × Int) =>
            Option.bind (g_earth_Good x3 1800000000 x4) fun (d_1 : Bool) =>
              bif !d_1 then k true
              else
                Option.bind (g_earth_Declination x3 1800000000 x4 false) fun (d_2 : Int × Int × Bool) =>
                  Option.bind (g_earth_Declination x3 (-1800000000) x4 d_2.2.2) fun (d_3 : Int × Int × Bool) =>
                    Option.bind (g___earth_Frame__To x3 1800000000 x4 d.1 d.2.1 d.2.2.1 d.2.2.2.1 d.2.2.2.2 d_3.2.2) fun (d_4 : Int × Int × Int × Int × Bool) =>
                      Option.bind (g___earth_Frame__To x3 (-1800000000) x4 d.1 d.2.1 d.2.2.1 d.2.2.2.1 d.2.2.2.2 d_4.2.2.2.2)
                        fun (d : Int × Int × Int × Int × Bool) =>
                        bif d_2.2.1 == 0 then
                          bif d_3.2.1 == 0 then
                            bif d_2.1 == d_3.1 then
                              bif d_4.2.2.2.1 == 0 then
                                bif d.2.2.2.1 == 0 then k (d_4.1 == d.1 && (d_4.2.1 == d.2.1 && (d_4.2.2.1 == d.2.2.1 && true))) else k false
                              else k false
                            else k false
                          else k false
                        else k false
def f_astrolabelaw8_EarthRound (x0 : Int) (x1 : Int) (x2 : Int) (x3 : Int) (x4 : Int) : Option (Bool) := K_astrolabelaw8_EarthRound f_astrolabelaw8_awake f_earth_New f_earth_Good f_earth_Declination f___earth_Frame__To  x0 x1 x2 x3 x4 some
section
open Go.Ab.Rdr
def QA_astrolabelaw8_EarthRound := ((pair (cons (ar (ra (cons (gc (cf (fi .i64 hole))) (cons (gc (cf (fi .i64 hole))) (cons (gc (cf (fi .i64 hole))) nil))))) (cons (ar (rc (cf (fi .i64 hole)))) (cons (ar (rc (cf (fi .i64 hole)))) nil))) nil) : Rdr (List AV × List Blk) _)
end
def F_astrolabelaw8_EarthRound (f : (Int) → (Int) → (Int) → (Int) → (Int) → Option (Bool)) : Sem1 := fun args h => match (QA_astrolabelaw8_EarthRound).rd (args, h) with
  | some b => .opt (f b.1.1.1 b.1.1.2.1 b.1.1.2.2.1 b.1.2.1 b.1.2.2.1) fun (d : Bool) => .leaf (Res.mk (AV.r (RV.c (CV.f (FV.b d)))) [] [])
  | none => .fail
theorem d_astrolabelaw8_EarthRound (g_astrolabelaw8_awake : Option Bool) (g_earth_New : Int → Int → Int → Option (Unit ⊕ Int × Int × Int × Int × Int)) (g_earth_Good : Int → Int → Int → Option Bool) (g_earth_Declination : Int → Int → Int → Bool → Option (Int × Int × Bool)) (g___earth_Frame__To : Int → Int → Int → Int → Int → Int → Int → Int → Bool → Option (Int × Int × Int × Int × Bool))  (x0 : Int) (x1 : Int) (x2 : Int) (x3 : Int) (x4 : Int) : den Try.prog (envOf [(36, F_astrolabelaw8_awake g_astrolabelaw8_awake), (37, F_earth_New g_earth_New), (40, F_earth_Good g_earth_Good), (38, F_earth_Declination g_earth_Declination), (39, F___earth_Frame__To g___earth_Frame__To)]) ⟨[], [], [], [], none⟩ 200 12 [.r (.agg [.c (.f (.i .i64 x0)), .c (.f (.i .i64 x1)), .c (.f (.i .i64 x2))]), .r (.c (.f (.i .i64 x3))), .r (.c (.f (.i .i64 x4)))] [] =
    K_astrolabelaw8_EarthRound g_astrolabelaw8_awake g_earth_New g_earth_Good g_earth_Declination g___earth_Frame__To  x0 x1 x2 x3 x4 (fun (d : Bool) => some (Res.mk (AV.r (RV.c (CV.f (FV.b d)))) [] [])) := by kernel_rfl
theorem m_astrolabelaw8_EarthRound {ρ σ : Type} (q : ρ → Option σ) (g_astrolabelaw8_awake : Option Bool) (g_earth_New : Int → Int → Int → Option (Unit ⊕ Int × Int × Int × Int × Int)) (g_earth_Good : Int → Int → Int → Option Bool) (g_earth_Declination : Int → Int → Int → Bool → Option (Int × Int × Bool)) (g___earth_Frame__To : Int → Int → Int → Int → Int → Int → Int → Int → Bool → Option (Int × Int × Int × Int × Bool))   (x0 : Int) (x1 : Int) (x2 : Int) (x3 : Int) (x4 : Int) (k : (Bool) → Option ρ) : (K_astrolabelaw8_EarthRound g_astrolabelaw8_awake g_earth_New g_earth_Good g_earth_Declination g___earth_Frame__To  x0 x1 x2 x3 x4 k).bind q = K_astrolabelaw8_EarthRound g_astrolabelaw8_awake g_earth_New g_earth_Good g_earth_Declination g___earth_Frame__To  x0 x1 x2 x3 x4 (fun d => (k d).bind q) := by
  simp only [K_astrolabelaw8_EarthRound, bnd_cond, bnd_bind, bnd_none, bnd_sum]
theorem qa_astrolabelaw8_EarthRound : ∀ b, (QA_astrolabelaw8_EarthRound).em b = ([.r (.agg [.c (.f (.i .i64 b.1.1.1)), .c (.f (.i .i64 b.1.1.2.1)), .c (.f (.i .i64 b.1.1.2.2.1))]), .r (.c (.f (.i .i64 b.1.2.1))), .r (.c (.f (.i .i64 b.1.2.2.1)))], []) := fun b => by kernel_rfl
theorem e_astrolabelaw8_EarthRound {f : (Int) → (Int) → (Int) → (Int) → (Int) → Option (Bool)} {args : List AV} {h : List Blk} {r : Res} (hr : (F_astrolabelaw8_EarthRound f args h).eval = some r) : ∃ x0 x1 x2 x3 x4, args = [.r (.agg [.c (.f (.i .i64 x0)), .c (.f (.i .i64 x1)), .c (.f (.i .i64 x2))]), .r (.c (.f (.i .i64 x3))), .r (.c (.f (.i .i64 x4)))] ∧ h = [] ∧ (f x0 x1 x2 x3 x4).bind (fun (d : Bool) => some (Res.mk (AV.r (RV.c (CV.f (FV.b d)))) [] [])) = some r := by
  unfold F_astrolabelaw8_EarthRound at hr
  split at hr
  · rename_i b hb
    have e := ((QA_astrolabelaw8_EarthRound).ok _ _ hb).trans (qa_astrolabelaw8_EarthRound b)
    rw [opt_eval2] at hr
    exact ⟨b.1.1.1, b.1.1.2.1, b.1.1.2.2.1, b.1.2.1, b.1.2.2.1, (Prod.mk.inj e).1, (Prod.mk.inj e).2, hr⟩
  · cases hr
theorem n_astrolabelaw8_EarthRound {σ : Type} (q : (Bool) → Option σ) (x0 : Int) (x1 : Int) (x2 : Int) (x3 : Int) (x4 : Int) : (f_astrolabelaw8_EarthRound x0 x1 x2 x3 x4).bind q = K_astrolabelaw8_EarthRound f_astrolabelaw8_awake f_earth_New f_earth_Good f_earth_Declination f___earth_Frame__To  x0 x1 x2 x3 x4 q := by
  unfold f_astrolabelaw8_EarthRound
  exact m_astrolabelaw8_EarthRound q f_astrolabelaw8_awake f_earth_New f_earth_Good f_earth_Declination f___earth_Frame__To   x0 x1 x2 x3 x4 some
theorem s_astrolabelaw8_EarthRound : Sound Try.prog 12 (F_astrolabelaw8_EarthRound f_astrolabelaw8_EarthRound) :=
  (inl_sound (l := [(36, F_astrolabelaw8_awake f_astrolabelaw8_awake), (37, F_earth_New f_earth_New), (40, F_earth_Good f_earth_Good), (38, F_earth_Declination f_earth_Declination), (39, F___earth_Frame__To f___earth_Frame__To)]) (.cons s_astrolabelaw8_awake (.cons s_earth_New (.cons s_earth_Good (.cons s_earth_Declination (.cons s___earth_Frame__To (.nil _)))))) mixed [] [] 200 (by kernel_rfl)).by (F := F_astrolabelaw8_EarthRound f_astrolabelaw8_EarthRound) fun args b r hr => by
  obtain ⟨x0, x1, x2, x3, x4, rfl, rfl, hr1⟩ := e_astrolabelaw8_EarthRound hr
  exact inl_eval ((d_astrolabelaw8_EarthRound f_astrolabelaw8_awake f_earth_New f_earth_Good f_earth_Declination f___earth_Frame__To  x0 x1 x2 x3 x4).trans ((n_astrolabelaw8_EarthRound (fun (d : Bool) => some (Res.mk (AV.r (RV.c (CV.f (FV.b d)))) [] [])) x0 x1 x2 x3 x4).symm.trans hr1))

def K_astrolabelaw8_EarthBounds {ρ : Type} (g_astrolabelaw8_awake : Option Bool) (g_earth_New : Int → Int → Int → Option (Unit ⊕ Int × Int × Int × Int × Int)) (g_earth_Good : Int → Int → Int → Option Bool) (g_earth_Declination : Int → Int → Int → Bool → Option (Int × Int × Bool)) (g___earth_Frame__To : Int → Int → Int → Int → Int → Int → Int → Int → Bool → Option (Int × Int × Int × Int × Bool))  (x0 : Int) (x1 : Int) (x2 : Int) (x3 : Int) (x4 : Int) (x5 : Int) (x6 : Int) (x7 : Int) (x8 : Int) (k : (Bool) → Option ρ) : Option ρ :=
  Option.bind g_astrolabelaw8_awake fun (d : Bool) =>
    bif !d then k false
    else
      Option.bind (g_earth_New x0 x1 x2) fun (d : Unit ⊕ Int × Int × Int × Int × Int) =>
        bif
            match d with
            | Sum.inl val => true
            | Sum.inr val => false then
          Option.bind
            (match d with
            | Sum.inl a => some a
            | Sum.inr val => none)
            fun (d : Unit) => k true
        else
          Option.bind
            (match d with
            | Sum.inr b => some b
            | Sum.inl val => none)
            fun (d : Int × Int × Int × Int × Int) =>
            Option.bind (g_earth_Good x3 x4 x5) fun (d_1 : Bool) =>
              bif !d_1 then k true
              else
                Option.bind (g_earth_Good x6 x7 x8) fun (d_2 : Bool) =>
                  bif !d_2 then k true
                  else
                    Option.bind (g_earth_Declination x3 x4 x5 false) fun (d_3 : Int × Int × Bool) =>
                      Option.bind (g___earth_Frame__To x3 x4 x5 d.1 d.2.1 d.2.2.1 d.2.2.2.1 d.2.2.2.2 d_3.2.2) fun (d_4 : Int × Int × Int × Int × Bool) =>
                        Option.bind (g___earth_Frame__To x3 x7 x8 d.1 d.2.1 d.2.2.1 d.2.2.2.1 d.2.2.2.2 d_4.2.2.2.2) fun (d_5 : Int × Int × Int × Int × Bool) =>
                          Option.bind (g___earth_Frame__To x6 x4 x5 d.1 d.2.1 d.2.2.1 d.2.2.2.1 d.2.2.2.2 d_5.2.2.2.2) fun (d : Int × Int × Int × Int × Bool) =>
                            bif d_3.2.1 != 0 then k false
                            else
                              bif d_4.2.2.2.1 != 0 then k false
                              else
                                bif d_5.2.2.2.1 != 0 then k false
                                else
                                  bif d.2.2.2.1 != 0 then k false
                                  else
                                    bif decide (d_3.1 > 3373259426) then k false
                                    else
                                      bif decide (d_3.1 < -3373259426) then k false
                                      else
                                        bif d_5.1 == d_4.1 then bif d.1 == d.1 && (d_4.2.1 == d.2.1 && (d_4.2.2.1 == d.2.2.1 && true)) then k !d.2.2.2.2 else k false
                                        else k false
def f_astrolabelaw8_EarthBounds (x0 : Int) (x1 : Int) (x2 : Int) (x3 : Int) (x4 : Int) (x5 : Int) (x6 : Int) (x7 : Int) (x8 : Int) : Option (Bool) := K_astrolabelaw8_EarthBounds f_astrolabelaw8_awake f_earth_New f_earth_Good f_earth_Declination f___earth_Frame__To  x0 x1 x2 x3 x4 x5 x6 x7 x8 some
section
open Go.Ab.Rdr
def QA_astrolabelaw8_EarthBounds := ((pair (cons (ar (ra (cons (gc (cf (fi .i64 hole))) (cons (gc (cf (fi .i64 hole))) (cons (gc (cf (fi .i64 hole))) nil))))) (cons (ar (ra (cons (gc (cf (fi .i64 hole))) (cons (gc (cf (fi .i64 hole))) (cons (gc (cf (fi .i64 hole))) nil))))) (cons (ar (ra (cons (gc (cf (fi .i64 hole))) (cons (gc (cf (fi .i64 hole))) (cons (gc (cf (fi .i64 hole))) nil))))) nil))) nil) : Rdr (List AV × List Blk) _)
end
def F_astrolabelaw8_EarthBounds (f : (Int) → (Int) → (Int) → (Int) → (Int) → (Int) → (Int) → (Int) → (Int) → Option (Bool)) : Sem1 := fun args h => match (QA_astrolabelaw8_EarthBounds).rd (args, h) with
  | some b => .opt (f b.1.1.1 b.1.1.2.1 b.1.1.2.2.1 b.1.2.1.1 b.1.2.1.2.1 b.1.2.1.2.2.1 b.1.2.2.1.1 b.1.2.2.1.2.1 b.1.2.2.1.2.2.1) fun (d : Bool) => .leaf (Res.mk (AV.r (RV.c (CV.f (FV.b d)))) [] [])
  | none => .fail
theorem d_astrolabelaw8_EarthBounds (g_astrolabelaw8_awake : Option Bool) (g_earth_New : Int → Int → Int → Option (Unit ⊕ Int × Int × Int × Int × Int)) (g_earth_Good : Int → Int → Int → Option Bool) (g_earth_Declination : Int → Int → Int → Bool → Option (Int × Int × Bool)) (g___earth_Frame__To : Int → Int → Int → Int → Int → Int → Int → Int → Bool → Option (Int × Int × Int × Int × Bool))  (x0 : Int) (x1 : Int) (x2 : Int) (x3 : Int) (x4 : Int) (x5 : Int) (x6 : Int) (x7 : Int) (x8 : Int) : den Try.prog (envOf [(36, F_astrolabelaw8_awake g_astrolabelaw8_awake), (37, F_earth_New g_earth_New), (40, F_earth_Good g_earth_Good), (38, F_earth_Declination g_earth_Declination), (39, F___earth_Frame__To g___earth_Frame__To)]) ⟨[], [], [], [], none⟩ 200 13 [.r (.agg [.c (.f (.i .i64 x0)), .c (.f (.i .i64 x1)), .c (.f (.i .i64 x2))]), .r (.agg [.c (.f (.i .i64 x3)), .c (.f (.i .i64 x4)), .c (.f (.i .i64 x5))]), .r (.agg [.c (.f (.i .i64 x6)), .c (.f (.i .i64 x7)), .c (.f (.i .i64 x8))])] [] =
    K_astrolabelaw8_EarthBounds g_astrolabelaw8_awake g_earth_New g_earth_Good g_earth_Declination g___earth_Frame__To  x0 x1 x2 x3 x4 x5 x6 x7 x8 (fun (d : Bool) => some (Res.mk (AV.r (RV.c (CV.f (FV.b d)))) [] [])) := by kernel_rfl
theorem m_astrolabelaw8_EarthBounds {ρ σ : Type} (q : ρ → Option σ) (g_astrolabelaw8_awake : Option Bool) (g_earth_New : Int → Int → Int → Option (Unit ⊕ Int × Int × Int × Int × Int)) (g_earth_Good : Int → Int → Int → Option Bool) (g_earth_Declination : Int → Int → Int → Bool → Option (Int × Int × Bool)) (g___earth_Frame__To : Int → Int → Int → Int → Int → Int → Int → Int → Bool → Option (Int × Int × Int × Int × Bool))   (x0 : Int) (x1 : Int) (x2 : Int) (x3 : Int) (x4 : Int) (x5 : Int) (x6 : Int) (x7 : Int) (x8 : Int) (k : (Bool) → Option ρ) : (K_astrolabelaw8_EarthBounds g_astrolabelaw8_awake g_earth_New g_earth_Good g_earth_Declination g___earth_Frame__To  x0 x1 x2 x3 x4 x5 x6 x7 x8 k).bind q = K_astrolabelaw8_EarthBounds g_astrolabelaw8_awake g_earth_New g_earth_Good g_earth_Declination g___earth_Frame__To  x0 x1 x2 x3 x4 x5 x6 x7 x8 (fun d => (k d).bind q) := by
  simp only [K_astrolabelaw8_EarthBounds, bnd_cond, bnd_bind, bnd_none, bnd_sum]
theorem qa_astrolabelaw8_EarthBounds : ∀ b, (QA_astrolabelaw8_EarthBounds).em b = ([.r (.agg [.c (.f (.i .i64 b.1.1.1)), .c (.f (.i .i64 b.1.1.2.1)), .c (.f (.i .i64 b.1.1.2.2.1))]), .r (.agg [.c (.f (.i .i64 b.1.2.1.1)), .c (.f (.i .i64 b.1.2.1.2.1)), .c (.f (.i .i64 b.1.2.1.2.2.1))]), .r (.agg [.c (.f (.i .i64 b.1.2.2.1.1)), .c (.f (.i .i64 b.1.2.2.1.2.1)), .c (.f (.i .i64 b.1.2.2.1.2.2.1))])], []) := fun b => by kernel_rfl
theorem e_astrolabelaw8_EarthBounds {f : (Int) → (Int) → (Int) → (Int) → (Int) → (Int) → (Int) → (Int) → (Int) → Option (Bool)} {args : List AV} {h : List Blk} {r : Res} (hr : (F_astrolabelaw8_EarthBounds f args h).eval = some r) : ∃ x0 x1 x2 x3 x4 x5 x6 x7 x8, args = [.r (.agg [.c (.f (.i .i64 x0)), .c (.f (.i .i64 x1)), .c (.f (.i .i64 x2))]), .r (.agg [.c (.f (.i .i64 x3)), .c (.f (.i .i64 x4)), .c (.f (.i .i64 x5))]), .r (.agg [.c (.f (.i .i64 x6)), .c (.f (.i .i64 x7)), .c (.f (.i .i64 x8))])] ∧ h = [] ∧ (f x0 x1 x2 x3 x4 x5 x6 x7 x8).bind (fun (d : Bool) => some (Res.mk (AV.r (RV.c (CV.f (FV.b d)))) [] [])) = some r := by
  unfold F_astrolabelaw8_EarthBounds at hr
  split at hr
  · rename_i b hb
    have e := ((QA_astrolabelaw8_EarthBounds).ok _ _ hb).trans (qa_astrolabelaw8_EarthBounds b)
    rw [opt_eval2] at hr
    exact ⟨b.1.1.1, b.1.1.2.1, b.1.1.2.2.1, b.1.2.1.1, b.1.2.1.2.1, b.1.2.1.2.2.1, b.1.2.2.1.1, b.1.2.2.1.2.1, b.1.2.2.1.2.2.1, (Prod.mk.inj e).1, (Prod.mk.inj e).2, hr⟩
  · cases hr
theorem n_astrolabelaw8_EarthBounds {σ : Type} (q : (Bool) → Option σ) (x0 : Int) (x1 : Int) (x2 : Int) (x3 : Int) (x4 : Int) (x5 : Int) (x6 : Int) (x7 : Int) (x8 : Int) : (f_astrolabelaw8_EarthBounds x0 x1 x2 x3 x4 x5 x6 x7 x8).bind q = K_astrolabelaw8_EarthBounds f_astrolabelaw8_awake f_earth_New f_earth_Good f_earth_Declination f___earth_Frame__To  x0 x1 x2 x3 x4 x5 x6 x7 x8 q := by
  unfold f_astrolabelaw8_EarthBounds
  exact m_astrolabelaw8_EarthBounds q f_astrolabelaw8_awake f_earth_New f_earth_Good f_earth_Declination f___earth_Frame__To   x0 x1 x2 x3 x4 x5 x6 x7 x8 some
theorem s_astrolabelaw8_EarthBounds : Sound Try.prog 13 (F_astrolabelaw8_EarthBounds f_astrolabelaw8_EarthBounds) :=
  (inl_sound (l := [(36, F_astrolabelaw8_awake f_astrolabelaw8_awake), (37, F_earth_New f_earth_New), (40, F_earth_Good f_earth_Good), (38, F_earth_Declination f_earth_Declination), (39, F___earth_Frame__To f___earth_Frame__To)]) (.cons s_astrolabelaw8_awake (.cons s_earth_New (.cons s_earth_Good (.cons s_earth_Declination (.cons s___earth_Frame__To (.nil _)))))) mixed [] [] 200 (by kernel_rfl)).by (F := F_astrolabelaw8_EarthBounds f_astrolabelaw8_EarthBounds) fun args b r hr => by
  obtain ⟨x0, x1, x2, x3, x4, x5, x6, x7, x8, rfl, rfl, hr1⟩ := e_astrolabelaw8_EarthBounds hr
  exact inl_eval ((d_astrolabelaw8_EarthBounds f_astrolabelaw8_awake f_earth_New f_earth_Good f_earth_Declination f___earth_Frame__To  x0 x1 x2 x3 x4 x5 x6 x7 x8).trans ((n_astrolabelaw8_EarthBounds (fun (d : Bool) => some (Res.mk (AV.r (RV.c (CV.f (FV.b d)))) [] [])) x0 x1 x2 x3 x4 x5 x6 x7 x8).symm.trans hr1))

def K_astrolabelaw8_EarthPlane {ρ : Type} (g_astrolabelaw8_awake : Option Bool) (g_earth_Good : Int → Int → Int → Option Bool) (g_earth_New : Int → Int → Int → Option (Unit ⊕ Int × Int × Int × Int × Int)) (g___earth_Frame__To : Int → Int → Int → Int → Int → Int → Int → Int → Bool → Option (Int × Int × Int × Int × Bool))  (x0 : Int) (x1 : Int) (x2 : Int) (x3 : Int) (x4 : Int) (x5 : Int) (k : (Bool) → Option ρ) : Option ρ :=
  Option.bind g_astrolabelaw8_awake fun (d : Bool) =>
    bif !d then k false
    else
      bif decide (x0 < -800000000) then k true
      else
        bif decide (x0 > 800000000) then k true
        else
          Option.bind (g_earth_Good x0 x1 x2) fun (d : Bool) =>
            bif !d then k true
            else
              bif decide (x2 > 90000000) then k true
              else
                bif decide (x2 < -90000000) then k true
                else
                  bif decide (x3 < 1) then k true
                  else
                    bif decide (x3 > 10000000) then k true
                    else
                      bif decide (x4 < 1) then k true
                      else
                        bif decide (x4 > 10000000) then k true
                        else
                          bif decide (x5 < 1) then k true
                          else
                            bif decide (x5 > 10000000) then k true
                            else
                              Option.bind (g_earth_New x0 x1 x2) fun (d : Unit ⊕ Int × Int × Int × Int × Int) =>
                                bif
                                    match d with
                                    | Sum.inl val => true
                                    | Sum.inr val => false then
                                  Option.bind
                                    (match d with
                                    | Sum.inl a => some a
                                    | Sum.inr val => none)
                                    fun (d : Unit) => k false
                                else
                                  Option.bind
                                    (match d with
                                    | Sum.inr b => some b
                                    | Sum.inl val => none)
                                    fun (d : Int × Int × Int × Int × Int) =>
                                    bif decide (IntKind.wrap IntKind.i64 (x1 + x4) > 1800000000) then
                                      Option.bind
                                        (g___earth_Frame__To (IntKind.wrap IntKind.i64 (x0 + x3)) (IntKind.wrap IntKind.i64 (IntKind.wrap IntKind.i64 (x1 + x4) - 3600000000))
                                          (IntKind.wrap IntKind.i64 (x2 + x5)) d.1 d.2.1 d.2.2.1 d.2.2.2.1 d.2.2.2.2 false)
                                        fun (d_1 : Int × Int × Int × Int × Bool) =>
                                        Option.bind (g___earth_Frame__To x0 x1 x2 d.1 d.2.1 d.2.2.1 d.2.2.2.1 d.2.2.2.2 d_1.2.2.2.2)
                                          fun (d : Int × Int × Int × Int × Bool) =>
                                          bif d_1.2.2.2.1 == 0 then
                                            bif d.2.2.2.1 == 0 then
                                              bif d.1 == 0 && (d.2.1 == 0 && (d.2.2.1 == 0 && true)) then
                                                bif decide (d_1.1 > 0) then
                                                  bif decide (d_1.2.1 > 0) then
                                                    bif decide (d_1.2.2.1 < 0) then
                                                      bif decide (IntKind.wrap IntKind.i64 (d_1.1 - IntKind.wrap IntKind.i64 (x3 * 11860000)) ≤ IntKind.wrap IntKind.i64 (x3 * 200000)) then
                                                        bif
                                                            decide
                                                              (IntKind.wrap IntKind.i64 (d_1.1 - IntKind.wrap IntKind.i64 (x3 * 11860000)) ≥
                                                                IntKind.wrap IntKind.i64 (IntKind.wrap IntKind.i64 (0 - x3) * 200000)) then
                                                          k !d.2.2.2.2
                                                        else k false
                                                      else k false
                                                    else k false
                                                  else k false
                                                else k false
                                              else k false
                                            else k false
                                          else k false
                                    else
                                      Option.bind
                                        (g___earth_Frame__To (IntKind.wrap IntKind.i64 (x0 + x3)) (IntKind.wrap IntKind.i64 (x1 + x4)) (IntKind.wrap IntKind.i64 (x2 + x5)) d.1 d.2.1 d.2.2.1
                                          d.2.2.2.1 d.2.2.2.2 false)
                                        fun (d_1 : Int × Int × Int × Int × Bool) =>
                                        Option.bind (g___earth_Frame__To x0 x1 x2 d.1 d.2.1 d.2.2.1 d.2.2.2.1 d.2.2.2.2 d_1.2.2.2.2)
                                          fun (d : Int × Int × Int × Int × Bool) =>
                                          bif d_1.2.2.2.1 == 0 then
                                            bif d.2.2.2.1 == 0 then
                                              bif d.1 == 0 && (d.2.1 == 0 && (d.2.2.1 == 0 && true)) then
                                                bif decide (d_1.1 > 0) then
                                                  bif decide (d_1.2.1 > 0) then
                                                    bif decide (d_1.2.2.1 < 0) then
                                                      bif decide (IntKind.wrap IntKind.i64 (d_1.1 - IntKind.wrap IntKind.i64 (x3 * 11860000)) ≤ IntKind.wrap IntKind.i64 (x3 * 200000)) then
                                                        bif
                                                            decide
                                                              (IntKind.wrap IntKind.i64 (d_1.1 - IntKind.wrap IntKind.i64 (x3 * 11860000)) ≥
                                                                IntKind.wrap IntKind.i64 (IntKind.wrap IntKind.i64 (0 - x3) * 200000)) then
                                                          k !d.2.2.2.2
                                                        else k false
                                                      else k false
                                                    else k false
                                                  else k false
                                                else k false
                                              else k false
                                            else k false
                                          else k false
def f_astrolabelaw8_EarthPlane (x0 : Int) (x1 : Int) (x2 : Int) (x3 : Int) (x4 : Int) (x5 : Int) : Option (Bool) := K_astrolabelaw8_EarthPlane f_astrolabelaw8_awake f_earth_Good f_earth_New f___earth_Frame__To  x0 x1 x2 x3 x4 x5 some
section
open Go.Ab.Rdr
def QA_astrolabelaw8_EarthPlane := ((pair (cons (ar (ra (cons (gc (cf (fi .i64 hole))) (cons (gc (cf (fi .i64 hole))) (cons (gc (cf (fi .i64 hole))) nil))))) (cons (ar (rc (cf (fi .i64 hole)))) (cons (ar (rc (cf (fi .i64 hole)))) (cons (ar (rc (cf (fi .i64 hole)))) nil)))) nil) : Rdr (List AV × List Blk) _)
end
def F_astrolabelaw8_EarthPlane (f : (Int) → (Int) → (Int) → (Int) → (Int) → (Int) → Option (Bool)) : Sem1 := fun args h => match (QA_astrolabelaw8_EarthPlane).rd (args, h) with
  | some b => .opt (f b.1.1.1 b.1.1.2.1 b.1.1.2.2.1 b.1.2.1 b.1.2.2.1 b.1.2.2.2.1) fun (d : Bool) => .leaf (Res.mk (AV.r (RV.c (CV.f (FV.b d)))) [] [])
  | none => .fail
theorem d_astrolabelaw8_EarthPlane (g_astrolabelaw8_awake : Option Bool) (g_earth_Good : Int → Int → Int → Option Bool) (g_earth_New : Int → Int → Int → Option (Unit ⊕ Int × Int × Int × Int × Int)) (g___earth_Frame__To : Int → Int → Int → Int → Int → Int → Int → Int → Bool → Option (Int × Int × Int × Int × Bool))  (x0 : Int) (x1 : Int) (x2 : Int) (x3 : Int) (x4 : Int) (x5 : Int) : den Try.prog (envOf [(36, F_astrolabelaw8_awake g_astrolabelaw8_awake), (40, F_earth_Good g_earth_Good), (37, F_earth_New g_earth_New), (39, F___earth_Frame__To g___earth_Frame__To)]) ⟨[], [], [], [], none⟩ 200 11 [.r (.agg [.c (.f (.i .i64 x0)), .c (.f (.i .i64 x1)), .c (.f (.i .i64 x2))]), .r (.c (.f (.i .i64 x3))), .r (.c (.f (.i .i64 x4))), .r (.c (.f (.i .i64 x5)))] [] =
    K_astrolabelaw8_EarthPlane g_astrolabelaw8_awake g_earth_Good g_earth_New g___earth_Frame__To  x0 x1 x2 x3 x4 x5 (fun (d : Bool) => some (Res.mk (AV.r (RV.c (CV.f (FV.b d)))) [] [])) := by kernel_rfl
theorem m_astrolabelaw8_EarthPlane {ρ σ : Type} (q : ρ → Option σ) (g_astrolabelaw8_awake : Option Bool) (g_earth_Good : Int → Int → Int → Option Bool) (g_earth_New : Int → Int → Int → Option (Unit ⊕ Int × Int × Int × Int × Int)) (g___earth_Frame__To : Int → Int → Int → Int → Int → Int → Int → Int → Bool → Option (Int × Int × Int × Int × Bool))   (x0 : Int) (x1 : Int) (x2 : Int) (x3 : Int) (x4 : Int) (x5 : Int) (k : (Bool) → Option ρ) : (K_astrolabelaw8_EarthPlane g_astrolabelaw8_awake g_earth_Good g_earth_New g___earth_Frame__To  x0 x1 x2 x3 x4 x5 k).bind q = K_astrolabelaw8_EarthPlane g_astrolabelaw8_awake g_earth_Good g_earth_New g___earth_Frame__To  x0 x1 x2 x3 x4 x5 (fun d => (k d).bind q) := by
  simp only [K_astrolabelaw8_EarthPlane, bnd_cond, bnd_bind, bnd_none, bnd_sum]
theorem qa_astrolabelaw8_EarthPlane : ∀ b, (QA_astrolabelaw8_EarthPlane).em b = ([.r (.agg [.c (.f (.i .i64 b.1.1.1)), .c (.f (.i .i64 b.1.1.2.1)), .c (.f (.i .i64 b.1.1.2.2.1))]), .r (.c (.f (.i .i64 b.1.2.1))), .r (.c (.f (.i .i64 b.1.2.2.1))), .r (.c (.f (.i .i64 b.1.2.2.2.1)))], []) := fun b => by kernel_rfl
theorem e_astrolabelaw8_EarthPlane {f : (Int) → (Int) → (Int) → (Int) → (Int) → (Int) → Option (Bool)} {args : List AV} {h : List Blk} {r : Res} (hr : (F_astrolabelaw8_EarthPlane f args h).eval = some r) : ∃ x0 x1 x2 x3 x4 x5, args = [.r (.agg [.c (.f (.i .i64 x0)), .c (.f (.i .i64 x1)), .c (.f (.i .i64 x2))]), .r (.c (.f (.i .i64 x3))), .r (.c (.f (.i .i64 x4))), .r (.c (.f (.i .i64 x5)))] ∧ h = [] ∧ (f x0 x1 x2 x3 x4 x5).bind (fun (d : Bool) => some (Res.mk (AV.r (RV.c (CV.f (FV.b d)))) [] [])) = some r := by
  unfold F_astrolabelaw8_EarthPlane at hr
  split at hr
  · rename_i b hb
    have e := ((QA_astrolabelaw8_EarthPlane).ok _ _ hb).trans (qa_astrolabelaw8_EarthPlane b)
    rw [opt_eval2] at hr
    exact ⟨b.1.1.1, b.1.1.2.1, b.1.1.2.2.1, b.1.2.1, b.1.2.2.1, b.1.2.2.2.1, (Prod.mk.inj e).1, (Prod.mk.inj e).2, hr⟩
  · cases hr
theorem n_astrolabelaw8_EarthPlane {σ : Type} (q : (Bool) → Option σ) (x0 : Int) (x1 : Int) (x2 : Int) (x3 : Int) (x4 : Int) (x5 : Int) : (f_astrolabelaw8_EarthPlane x0 x1 x2 x3 x4 x5).bind q = K_astrolabelaw8_EarthPlane f_astrolabelaw8_awake f_earth_Good f_earth_New f___earth_Frame__To  x0 x1 x2 x3 x4 x5 q := by
  unfold f_astrolabelaw8_EarthPlane
  exact m_astrolabelaw8_EarthPlane q f_astrolabelaw8_awake f_earth_Good f_earth_New f___earth_Frame__To   x0 x1 x2 x3 x4 x5 some
theorem s_astrolabelaw8_EarthPlane : Sound Try.prog 11 (F_astrolabelaw8_EarthPlane f_astrolabelaw8_EarthPlane) :=
  (inl_sound (l := [(36, F_astrolabelaw8_awake f_astrolabelaw8_awake), (40, F_earth_Good f_earth_Good), (37, F_earth_New f_earth_New), (39, F___earth_Frame__To f___earth_Frame__To)]) (.cons s_astrolabelaw8_awake (.cons s_earth_Good (.cons s_earth_New (.cons s___earth_Frame__To (.nil _))))) mixed [] [] 200 (by kernel_rfl)).by (F := F_astrolabelaw8_EarthPlane f_astrolabelaw8_EarthPlane) fun args b r hr => by
  obtain ⟨x0, x1, x2, x3, x4, x5, rfl, rfl, hr1⟩ := e_astrolabelaw8_EarthPlane hr
  exact inl_eval ((d_astrolabelaw8_EarthPlane f_astrolabelaw8_awake f_earth_Good f_earth_New f___earth_Frame__To  x0 x1 x2 x3 x4 x5).trans ((n_astrolabelaw8_EarthPlane (fun (d : Bool) => some (Res.mk (AV.r (RV.c (CV.f (FV.b d)))) [] [])) x0 x1 x2 x3 x4 x5).symm.trans hr1))

end Go.Proofs.Ytcalippagaaikaa
end
/-
  Numbers of 128 bits and clamped scalars in plain arithmetic.
-/
section
set_option maxRecDepth 100000
set_option maxHeartbeats 4000000
set_option linter.unusedVariables false
set_option linter.unusedSimpArgs false
namespace Go.Ab
theorem wrap_i64_eq (n : Int) : IntKind.wrap .i64 n = if 9223372036854775808 ≤ n % 18446744073709551616 then n % 18446744073709551616 - 18446744073709551616 else n % 18446744073709551616 := by
  unfold IntKind.wrap
  simp only [IntKind.signed, IntKind.bits, Bool.true_and, decide_eq_true_eq, show (2 : Int) ^ 64 = 18446744073709551616 from rfl, show (2 : Int) ^ (64 - 1) = 9223372036854775808 from rfl, ge_iff_le]
theorem fdiv_pos (a b : Int) (h : 0 ≤ b) : Int.fdiv a b = a / b := Int.fdiv_eq_ediv_of_nonneg a h
theorem ofInt_toNat (x : Int) (h0 : 0 ≤ x) (h1 : x < 18446744073709551616) : (BitVec.ofInt 64 x).toNat = x.toNat := by
  rw [BitVec.toNat_ofInt]
  congr 1
  simp only [Nat.reducePow, Int.cast_ofNat_Int]
  omega
theorem xor_all (x : Int) (h0 : 0 ≤ x) (h1 : x < 18446744073709551616) : Int.ofNat (BitVec.toNat (BitVec.ofInt 64 18446744073709551615 ^^^ BitVec.ofInt 64 x)) = 18446744073709551615 - x := by
  have e : BitVec.ofInt 64 18446744073709551615 = BitVec.allOnes 64 := by decide
  rw [e, BitVec.allOnes_xor, BitVec.toNat_not, ofInt_toNat x h0 h1]
  simp only [Int.ofNat_eq_natCast]
  omega
theorem and_mask (x : Int) (h0 : 0 ≤ x) (h1 : x < 18446744073709551616) : Int.ofNat (BitVec.toNat (BitVec.ofInt 64 x &&& BitVec.ofInt 64 4294967295)) = x % 4294967296 := by
  rw [BitVec.toNat_and, ofInt_toNat x h0 h1]
  have e : (BitVec.ofInt 64 4294967295).toNat = 2 ^ 32 - 1 := by decide
  rw [e, Nat.and_two_pow_sub_one_eq_mod]
  simp only [Int.ofNat_eq_natCast]
  omega
/-- bits that do not meet -/
theorem or_apart (x y : Int) (k : Nat) (h0 : 0 ≤ x) (h1 : x < 2 ^ k) (h2 : 0 ≤ y) (h3 : y < 18446744073709551616) (h4 : x < 18446744073709551616) (h5 : y % 2 ^ k = 0) :
    Int.ofNat (BitVec.toNat (BitVec.ofInt 64 x ||| BitVec.ofInt 64 y)) = x + y := by
  rw [BitVec.toNat_or, ofInt_toNat x h0 h4, ofInt_toNat y h2 h3]
  obtain ⟨q, hq⟩ : ∃ q : Nat, y.toNat = 2 ^ k * q := by
    refine ⟨y.toNat / 2 ^ k, ?_⟩
    have : y.toNat % 2 ^ k = 0 := by
      have e : ((y.toNat % 2 ^ k : Nat) : Int) = y % 2 ^ k := by
        rw [Int.natCast_emod, Int.toNat_of_nonneg h2]
        simp
      omega
    exact (Nat.mul_div_cancel' (Nat.dvd_of_mod_eq_zero this)).symm
  have hx : x.toNat < 2 ^ k := by
    have e : ((2 ^ k : Nat) : Int) = (2 : Int) ^ k := by simp
    omega
  rw [hq, Nat.or_comm, ← Nat.two_pow_add_eq_or_of_lt hx, ← hq]
  simp only [Int.ofNat_eq_natCast]
  omega
end Go.Ab
namespace Go.Proofs.Ytcalippagaaikaa
open Go.Ab
abbrev okW (h l : Int) : Prop := -9223372036854775808 ≤ h ∧ h ≤ 9223372036854775807 ∧ 0 ≤ l ∧ l < 18446744073709551616
abbrev vW (h l : Int) : Int := h * 18446744073709551616 + l
theorem wide_of (x : Int) (h0 : -9223372036854775808 ≤ x) (h1 : x ≤ 9223372036854775807) : ∃ h l, f_wide_Of x = some (h, l) ∧ okW h l ∧ vW h l = x := by
  unfold vW
  refine ⟨_, _, rfl, ?_, ?_⟩ <;> rw [wrap_u64, fdiv_pos _ _ (by omega)] <;> omega
theorem add64_eq (x y c : Int) (x0 : 0 ≤ x) (y0 : 0 ≤ y) (c0 : 0 ≤ c) (c1 : c ≤ 1) : f_Add64 x y c = some ((x + y + c) % 18446744073709551616, (x + y + c) / 18446744073709551616) := by
  unfold f_Add64
  have h : Nat.ble c.toNat 1 = true := Nat.ble_eq_true_of_le (by omega)
  rw [h, cond_true]
  congr 1
  unfold addA addB
  simp only [Int.ofNat_eq_natCast, Prod.mk.injEq]
  constructor <;> omega
theorem wide_add (h1 l1 h2 l2 : Int) (o1 : okW h1 l1) (o2 : okW h2 l2) : ∃ h l b, f_wide_add h1 l1 h2 l2 = some (h, l, b) ∧ okW h l ∧ (b = true ↔ -170141183460469231731687303715884105728 ≤ vW h1 l1 + vW h2 l2 ∧ vW h1 l1 + vW h2 l2 < 170141183460469231731687303715884105728) ∧ (b = true → vW h l = vW h1 l1 + vW h2 l2) := by
  obtain ⟨a1, a2, a3, a4⟩ := o1
  obtain ⟨b1, b2, b3, b4⟩ := o2
  unfold vW
  unfold f_wide_add K_wide_add
  rw [add64_eq l1 l2 0 a3 b3 (by omega) (by omega)]
  simp only [Option.bind_some, wrap_u64]
  rw [add64_eq _ _ _ (by omega) (by omega) (by omega) (by omega)]
  simp only [Option.bind_some]
  generalize hc : (l1 + l2 + 0) / 18446744073709551616 = c
  generalize hl : (l1 + l2 + 0) % 18446744073709551616 = l
  generalize hm : (h1 % 18446744073709551616 + h2 % 18446744073709551616 + c) % 18446744073709551616 = m
  have hw := wrap_i64_eq m
  generalize IntKind.wrap IntKind.i64 m = w at *
  have hw1 : w = m ∨ w = m - 18446744073709551616 := by split at hw <;> omega
  have hw2 : -9223372036854775808 ≤ w ∧ w ≤ 9223372036854775807 := by split at hw <;> omega
  by_cases n1 : h1 < 0
  · by_cases n2 : h2 < 0
    · have e : (!decide (h1 < 0) == decide (h2 < 0)) = false := by simp [n1, n2]
      simp only [e, cond_false]
      refine ⟨w, l, _, rfl, ⟨hw2.1, hw2.2, by omega, by omega⟩, ?_, ?_⟩
      · simp only [n1, decide_true, beq_true, decide_eq_true_eq]
        constructor <;> intro h <;> omega
      · simp only [n1, decide_true, beq_true, decide_eq_true_eq]
        intro h; omega
    · have e : (!decide (h1 < 0) == decide (h2 < 0)) = true := by simp [n1, n2]
      simp only [e, cond_true]
      refine ⟨w, l, _, rfl, ⟨hw2.1, hw2.2, by omega, by omega⟩, ?_, ?_⟩
      · simp only [true_iff]; constructor <;> omega
      · intro h; omega
  · by_cases n2 : h2 < 0
    · have e : (!decide (h1 < 0) == decide (h2 < 0)) = true := by simp [n1, n2]
      simp only [e, cond_true]
      refine ⟨w, l, _, rfl, ⟨hw2.1, hw2.2, by omega, by omega⟩, ?_, ?_⟩
      · simp only [true_iff]; constructor <;> omega
      · intro h; omega
    · have e : (!decide (h1 < 0) == decide (h2 < 0)) = false := by simp [n1, n2]
      simp only [e, cond_false]
      refine ⟨w, l, _, rfl, ⟨hw2.1, hw2.2, by omega, by omega⟩, ?_, ?_⟩
      · simp only [n1, decide_false, _root_.beq_false, Bool.not_eq_true', decide_eq_false_iff_not]
        constructor <;> intro h <;> omega
      · simp only [n1, decide_false, _root_.beq_false, Bool.not_eq_true', decide_eq_false_iff_not]
        intro h; omega
/-- a number without its sign -/
theorem wide_abs (h l : Int) (o : okW h l) : ∃ ah al, f_wide_abs h l = some (ah, al, decide (h < 0)) ∧ 0 ≤ ah ∧ ah ≤ 9223372036854775808 ∧ 0 ≤ al ∧ al < 18446744073709551616 ∧ ah * 18446744073709551616 + al = (if h < 0 then -vW h l else vW h l) := by
  obtain ⟨a1, a2, a3, a4⟩ := o
  unfold vW
  unfold f_wide_abs K_wide_abs
  by_cases n : h < 0
  · have e : decide (h ≥ 0) = false := decide_eq_false (by omega)
    simp only [e, cond_false, xor_all l a3 a4, wrap_u64]
    rw [xor_all (h % 18446744073709551616) (by omega) (by omega), add64_eq _ _ _ (by omega) (by omega) (by omega) (by omega)]
    simp only [Option.bind_some, n, decide_true, if_true]
    refine ⟨_, _, rfl, ?_, ?_, ?_, ?_, ?_⟩ <;> omega
  · have e : decide (h ≥ 0) = true := decide_eq_true (by omega)
    simp only [e, cond_true, wrap_u64, n, decide_false, if_false]
    refine ⟨_, _, rfl, ?_, ?_, ?_, ?_, ?_⟩ <;> omega
theorem big_plus (h1 l1 h2 l2 : Int) (a0 : 0 ≤ h1) (b0 : 0 ≤ l1) (c0 : 0 ≤ h2) (d0 : 0 ≤ l2) (b1 : l1 < 18446744073709551616) (d1 : l2 < 18446744073709551616) :
    f__wide_big__plus h1 l1 h2 l2 = some ((h1 + h2 + (l1 + l2) / 18446744073709551616) % 18446744073709551616, (l1 + l2) % 18446744073709551616) := by
  unfold f__wide_big__plus K__wide_big__plus
  rw [add64_eq _ _ _ b0 d0 (by omega) (by omega)]
  simp only [Option.bind_some, Int.add_zero]
  rw [add64_eq _ _ _ a0 c0 (by omega) (by omega)]
  rfl
theorem shl_one (n : Nat) (hn : n < 126) : f__wide_big__shl 0 1 (Int.ofNat n) = some (2 ^ n / 18446744073709551616, 2 ^ n % 18446744073709551616) := by
  have key : ∀ n : Fin 126, f__wide_big__shl 0 1 (Int.ofNat n.val) = some ((2 : Int) ^ n.val / 18446744073709551616, (2 : Int) ^ n.val % 18446744073709551616) := by decide +kernel
  exact key ⟨n, hn⟩
theorem pow_pos' (n : Nat) : (0 : Int) < 2 ^ n := Int.pow_pos (by decide)
theorem big_shr (h l : Int) (s : Nat) (hs : s ≤ 126) (h0 : 0 ≤ h) (h1 : h < 18446744073709551616) (l0 : 0 ≤ l) (l1 : l < 18446744073709551616) :
    ∃ h' l', f__wide_big__shr h l (Int.ofNat s) = some (h', l') ∧ 0 ≤ h' ∧ 0 ≤ l' ∧ l' < 18446744073709551616 ∧ h' * 18446744073709551616 + l' = (h * 18446744073709551616 + l) / 2 ^ s := by
  unfold f__wide_big__shr K__wide_big__shr
  by_cases c : 64 ≤ s
  · have e : decide (Int.ofNat s ≥ 64) = true := by simp only [Int.ofNat_eq_natCast]; exact decide_eq_true (by omega)
    have e2 : IntKind.wrap .i64 (Int.ofNat s - 64) = Int.ofNat (s - 64) := (wrap_i64 (by simp only [Int.ofNat_eq_natCast]; omega) (by simp only [Int.ofNat_eq_natCast]; omega)).trans (by simp only [Int.ofNat_eq_natCast]; omega)
    have e3 : (!decide (Int.ofNat (s - 64) < 0)) = true := by simp
    have e4 : min (Int.toNat (Int.ofNat (s - 64))) 64 = s - 64 := by
      show min (s - 64) 64 = s - 64
      omega
    simp only [e, e2, e3, e4, cond_true]
    rw [fdiv_pos _ _ (Int.le_of_lt (pow_pos' _))]
    refine ⟨_, _, rfl, by omega, Int.ediv_nonneg h0 (Int.le_of_lt (pow_pos' _)), Int.lt_of_le_of_lt (Int.ediv_le_self _ h0) h1, ?_⟩
    have p : (2 : Int) ^ s = 18446744073709551616 * 2 ^ (s - 64) := by
      rw [show (18446744073709551616 : Int) = 2 ^ 64 from rfl, ← Int.pow_add]
      congr 1; omega
    rw [p, ← Int.ediv_ediv_of_nonneg (by decide)]
    have : (h * 18446744073709551616 + l) / 18446744073709551616 = h := by omega
    rw [this]; omega
  · have e : decide (Int.ofNat s ≥ 64) = false := by simp only [Int.ofNat_eq_natCast]; exact decide_eq_false (by omega)
    have e2 : IntKind.wrap .i64 (64 - Int.ofNat s) = Int.ofNat (64 - s) := (wrap_i64 (by simp only [Int.ofNat_eq_natCast]; omega) (by simp only [Int.ofNat_eq_natCast]; omega)).trans (by simp only [Int.ofNat_eq_natCast]; omega)
    have e3 : ∀ n, (!decide (Int.ofNat n < 0)) = true := by simp
    have e4 : min (Int.toNat (Int.ofNat (64 - s))) 64 = 64 - s := by
      show min (64 - s) 64 = 64 - s
      omega
    have e5 : min (Int.toNat (Int.ofNat s)) 64 = s := by
      show min s 64 = s
      omega
    simp only [e, e2, e3, e4, e5, cond_true, cond_false, wrap_u64]
    rw [fdiv_pos _ _ (Int.le_of_lt (pow_pos' _)), fdiv_pos _ _ (Int.le_of_lt (pow_pos' _))]
    have pq : (18446744073709551616 : Int) = 2 ^ s * 2 ^ (64 - s) := by
      rw [← Int.pow_add, show s + (64 - s) = 64 by omega]; rfl
    generalize hP : (2 : Int) ^ s = P at *
    generalize hQ : (2 : Int) ^ (64 - s) = Q at *
    have P0 : 0 < P := by rw [← hP]; exact pow_pos' s
    have Q0 : 0 < Q := by rw [← hQ]; exact pow_pos' (64 - s)
    have m : h * Q % 18446744073709551616 = h % P * Q := by
      rw [pq, Int.mul_comm h Q, Int.mul_comm P Q, Int.mul_emod_mul_of_pos _ _ Q0, Int.mul_comm]
    have x0 : 0 ≤ l / P := Int.ediv_nonneg l0 (Int.le_of_lt P0)
    have x1 : l / P < Q := Int.ediv_lt_of_lt_mul P0 (by rw [Int.mul_comm, ← pq]; exact l1)
    have y0 : 0 ≤ h % P := Int.emod_nonneg _ (by omega)
    have y1 : h % P < P := Int.emod_lt_of_pos _ P0
    have y2 : h % P * Q + Q ≤ 18446744073709551616 := by
      have : (h % P + 1) * Q ≤ P * Q := Int.mul_le_mul_of_nonneg_right (by omega) (Int.le_of_lt Q0)
      rw [Int.add_mul, ← pq] at this; omega
    have y3 : 0 ≤ h % P * Q := Int.mul_nonneg y0 (Int.le_of_lt Q0)
    have key : Int.ofNat (BitVec.toNat (BitVec.ofInt 64 (l / P) ||| BitVec.ofInt 64 (h * Q % 18446744073709551616))) = l / P + h % P * Q := by
      rw [m]
      exact or_apart _ _ (64 - s) x0 (by rw [hQ]; exact x1) y3 (by omega) (by omega) (by rw [hQ]; exact Int.mul_emod_left _ _)
    rw [key]
    have z : (l / P + h % P * Q) % 18446744073709551616 = l / P + h % P * Q := Int.emod_eq_of_lt (by omega) (by omega)
    rw [z]
    refine ⟨_, _, rfl, Int.ediv_nonneg h0 (Int.le_of_lt P0), by omega, by omega, ?_⟩
    have f1 : (h * 18446744073709551616 + l) / P = h * Q + l / P := by
      rw [pq, show h * (P * Q) + l = l + h * Q * P by rw [Int.mul_comm P Q, ← Int.mul_assoc, Int.add_comm], Int.add_mul_ediv_right _ _ (by omega)]
      omega
    have f2 : h / P * 18446744073709551616 = h / P * P * Q := by rw [pq, Int.mul_assoc]
    have f3 : h / P * P + h % P = h := Int.ediv_mul_add_emod h P
    rw [f1, f2]
    have f4 : (h / P * P + h % P) * Q = h * Q := by rw [f3]
    rw [Int.add_mul] at f4
    omega
theorem wide_signed64 (h l : Int) (neg : Bool) (h0 : 0 ≤ h) (l0 : 0 ≤ l) (l1 : l < 18446744073709551616) :
    f_wide_signed64 h l neg = if h * 18446744073709551616 + l ≤ (if neg = true then 9223372036854775808 else 9223372036854775807) then some (if neg = true then -l else l, true) else some (0, false) := by
  unfold f_wide_signed64 K_wide_signed64
  by_cases c : h = 0
  · subst c
    have e : ((0 : Int) != 0) = false := rfl
    simp only [e, cond_false, Int.zero_mul, Int.zero_add]
    cases neg
    · by_cases d : l > 9223372036854775807
      · have d2 : ¬ l ≤ 9223372036854775807 := by omega
        simp [d, d2]
      · have d2 : l ≤ 9223372036854775807 := by omega
        simp only [Bool.not_false, cond_true, d, decide_false, cond_false, Bool.false_eq_true, if_false, d2, if_true]
        rw [wrap_i64 (by omega) d2]
    · by_cases d : l > 9223372036854775808
      · have d2 : ¬ l ≤ 9223372036854775808 := by omega
        simp [d, d2]
      · have d2 : l ≤ 9223372036854775808 := by omega
        have e3 : IntKind.wrap .i64 (IntKind.wrap .u64 (0 - l)) = -l := by
          rw [wrap_u64, wrap_i64_eq]; split <;> omega
        have e4 : IntKind.wrap .i64 (IntKind.wrap .u64 (-l)) = -l := by
          rw [wrap_u64, wrap_i64_eq]; split <;> omega
        simp [d, d2, e3, e4]
  · have e : (h != 0) = true := by simp [c]
    have d2 : ¬ h * 18446744073709551616 + l ≤ (if neg = true then 9223372036854775808 else 9223372036854775807) := by split <;> omega
    simp only [e, cond_true, d2, if_false]
/-- rounded: half a unit more, and cut; with its sign -/
def half (s : Nat) : Int := if s = 0 then 0 else 2 ^ (s - 1)
def rnd (v : Int) (s : Nat) : Int := if v < 0 then -((-v + half s) / 2 ^ s) else (v + half s) / 2 ^ s
theorem half_le (s : Nat) (hs : s ≤ 126) : 0 ≤ half s ∧ half s ≤ 42535295865117307932921825928971026432 := by
  unfold half
  split
  · omega
  · refine ⟨Int.le_of_lt (pow_pos' _), ?_⟩
    have : (2 : Int) ^ (s - 1) ≤ 2 ^ 125 := by
      have h2 : (2 : Nat) ^ (s - 1) ≤ 2 ^ 125 := Nat.pow_le_pow_right (by decide) (by omega)
      have h3 : ((2 ^ (s - 1) : Nat) : Int) ≤ ((2 ^ 125 : Nat) : Int) := by exact_mod_cast h2
      simpa using h3
    exact this
theorem wide_round (h l : Int) (s : Nat) (hs : s ≤ 126) (o : okW h l) :
    f_wide_Round h l (Int.ofNat s) = if -9223372036854775808 ≤ rnd (vW h l) s ∧ rnd (vW h l) s ≤ 9223372036854775807 then some (rnd (vW h l) s, true) else some (0, false) := by
  unfold f_wide_Round K_wide_Round
  obtain ⟨ah, al, e1, a0, a1, a2, a3, a4⟩ := wide_abs h l o
  have n0 : decide (Int.ofNat s < 0) = false := by simp
  have n1 : decide (Int.ofNat s > 126) = false := by simp only [Int.ofNat_eq_natCast]; exact decide_eq_false (by omega)
  simp only [n0, n1, cond_false, e1, Option.bind_some]
  obtain ⟨hh0, hh1⟩ := half_le s hs
  -- what is shifted
  have fin : ∀ h' l' : Int, 0 ≤ h' → 0 ≤ l' → l' < 18446744073709551616 → h' * 18446744073709551616 + l' = ((if h < 0 then -vW h l else vW h l) + half s) / 2 ^ s →
      (f_wide_signed64 h' l' (decide (h < 0))).bind (fun d => some (d.fst, d.snd)) = if -9223372036854775808 ≤ rnd (vW h l) s ∧ rnd (vW h l) s ≤ 9223372036854775807 then some (rnd (vW h l) s, true) else some (0, false) := by
    intro h' l' b0 b1 b2 b3
    rw [wide_signed64 h' l' _ b0 b1 b2]
    obtain ⟨o1, o2, o3, o4⟩ := o
    by_cases n : h < 0
    · have nv : vW h l < 0 := by show h * 18446744073709551616 + l < 0; omega
      simp only [n, decide_true, if_true] at b3 ⊢
      unfold rnd
      simp only [nv, if_true]
      rw [← b3]
      by_cases c : h' * 18446744073709551616 + l' ≤ 9223372036854775808
      · rw [if_pos c, if_pos (by omega)]
        simp only [Option.bind_some, Option.some.injEq, Prod.mk.injEq, and_true]; omega
      · rw [if_neg c, if_neg (by omega)]; rfl
    · have nv : ¬ vW h l < 0 := by show ¬ h * 18446744073709551616 + l < 0; omega
      simp only [n, decide_false, if_false, Bool.false_eq_true] at b3 ⊢
      unfold rnd
      simp only [nv, if_false]
      rw [← b3]
      by_cases c : h' * 18446744073709551616 + l' ≤ 9223372036854775807
      · rw [if_pos c, if_pos (by omega)]
        simp only [Option.bind_some, Option.some.injEq, Prod.mk.injEq, and_true]; omega
      · rw [if_neg c, if_neg (by omega)]; rfl
  by_cases z : s = 0
  · subst z
    have n2 : decide (Int.ofNat 0 > 0) = false := by decide
    simp only [n2, cond_false]
    obtain ⟨h', l', e2, b0, b1, b2, b3⟩ := big_shr ah al 0 (by omega) a0 (by omega) a2 a3
    rw [e2]
    simp only [Option.bind_some]
    exact fin h' l' b0 b1 b2 (by rw [b3, a4]; simp [half])
  · have n2 : decide (Int.ofNat s > 0) = true := by simp only [Int.ofNat_eq_natCast]; exact decide_eq_true (by omega)
    simp only [n2, cond_true]
    have n3 : IntKind.wrap .i64 (Int.ofNat s - 1) = Int.ofNat (s - 1) := (wrap_i64 (by simp only [Int.ofNat_eq_natCast]; omega) (by simp only [Int.ofNat_eq_natCast]; omega)).trans (by simp only [Int.ofNat_eq_natCast]; omega)
    have hf : half s = 2 ^ (s - 1) := by unfold half; rw [if_neg z]
    rw [n3, shl_one (s - 1) (by omega), ← hf]
    simp only [Option.bind_some]
    rw [big_plus _ _ _ _ a0 a2 (by omega) (by omega) a3 (by omega)]
    simp only [Option.bind_some]
    obtain ⟨h', l', e2, b0, b1, b2, b3⟩ := big_shr ((ah + half s / 18446744073709551616 + (al + half s % 18446744073709551616) / 18446744073709551616) % 18446744073709551616) ((al + half s % 18446744073709551616) % 18446744073709551616) s hs (by omega) (by omega) (by omega) (by omega)
    rw [e2]
    simp only [Option.bind_some]
    refine fin h' l' b0 b1 b2 ?_
    rw [b3, ← a4]
    congr 1
    omega
/-! clamped -/
def sat (x : Int) : Int := if x < -1152921504606846976 then -1152921504606846976 else if 1152921504606846976 < x then 1152921504606846976 else x
def over (x : Int) : Bool := decide (x < -1152921504606846976) || decide (1152921504606846976 < x)
theorem sat_le (x : Int) : -1152921504606846976 ≤ sat x ∧ sat x ≤ 1152921504606846976 := by
  unfold sat; split <;> (try split) <;> omega
theorem acc_sat (x : Int) (hit : Bool) : f___fx_Acc__Sat x hit = some (sat x, hit || over x) := by
  unfold f___fx_Acc__Sat K___fx_Acc__Sat f___fx_Acc__Clamp K___fx_Acc__Clamp sat over
  have e : decide ((-1152921504606846976 : Int) > 1152921504606846976) = false := by decide
  by_cases c : x < -1152921504606846976
  · simp [e, c]
  · by_cases d : 1152921504606846976 < x
    · have d2 : x > 1152921504606846976 := d
      simp [e, c, d]
    · simp [e, c, d]
theorem acc_end (a : Int) (ok neg hit : Bool) : f___fx_Acc__end a ok neg hit = if ok = true then some (sat a, hit || over a) else some (if neg = true then -1152921504606846976 else 1152921504606846976, true) := by
  unfold f___fx_Acc__end K___fx_Acc__end f_fx_sign K_fx_sign
  cases ok
  · cases neg <;> rfl
  · simp only [Bool.not_true, cond_false, acc_sat, Option.bind_some, if_true]
theorem acc_round (h l : Int) (s : Nat) (hit : Bool) (hs : s ≤ 120) (o : okW h l) : f___fx_Acc__round h l (Int.ofNat s) hit = some (sat (rnd (vW h l) s), hit || over (rnd (vW h l) s)) := by
  unfold f___fx_Acc__round K___fx_Acc__round
  have n0 : decide (Int.ofNat s < 0) = false := by simp
  have n1 : decide (Int.ofNat s > 120) = false := by simp only [Int.ofNat_eq_natCast]; exact decide_eq_false (by omega)
  simp only [n0, n1, cond_false, wide_round h l s (by omega) o]
  by_cases c : -9223372036854775808 ≤ rnd (vW h l) s ∧ rnd (vW h l) s ≤ 9223372036854775807
  · simp only [c, and_self, if_true, Option.bind_some, acc_end]
  · rw [if_neg c]
    simp only [Option.bind_some, acc_end, Bool.false_eq_true, if_false]
    have sg : (h < 0 → rnd (vW h l) s ≤ 0) ∧ (¬ h < 0 → 0 ≤ rnd (vW h l) s) := by
      obtain ⟨o1, o2, o3, o4⟩ := o
      obtain ⟨hh0, hh1⟩ := half_le s (by omega)
      have p := pow_pos' s
      unfold rnd
      refine ⟨fun n => ?_, fun n => ?_⟩
      · have nv : vW h l < 0 := by show h * 18446744073709551616 + l < 0; omega
        rw [if_pos nv]
        have : 0 ≤ (-vW h l + half s) / 2 ^ s := Int.ediv_nonneg (by omega) (Int.le_of_lt p)
        omega
      · have nv : ¬ vW h l < 0 := by show ¬ h * 18446744073709551616 + l < 0; omega
        rw [if_neg nv]
        exact Int.ediv_nonneg (by omega) (Int.le_of_lt p)
    unfold sat over
    by_cases n : h < 0
    · have := sg.1 n
      have c1 : rnd (vW h l) s < -1152921504606846976 := by omega
      simp [n, c1]
    · have := sg.2 n
      have c1 : ¬ rnd (vW h l) s < -1152921504606846976 := by omega
      have c2 : 1152921504606846976 < rnd (vW h l) s := by omega
      simp [n, c1, c2]
end Go.Proofs.Ytcalippagaaikaa
end
/-
  Products and sums of clamped scalars in plain arithmetic.
-/
section
set_option maxRecDepth 100000
set_option maxHeartbeats 4000000
set_option linter.unusedVariables false
set_option linter.unusedSimpArgs false
namespace Go.Proofs.Ytcalippagaaikaa
open Go.Ab
theorem abs64_eq (x : Int) (h0 : -9223372036854775808 ≤ x) (h1 : x ≤ 9223372036854775807) : f_wide_abs64 x = some (if x < 0 then -x else x) := by
  unfold f_wide_abs64 K_wide_abs64
  by_cases c : x < 0
  · simp only [c, decide_true, cond_true, if_true, wrap_u64, Option.some.injEq]; omega
  · simp only [c, decide_false, cond_false, if_false, wrap_u64, Option.some.injEq]; omega
theorem mul_lt32 {a b : Int} (a0 : 0 ≤ a) (a1 : a ≤ 4294967295) (b0 : 0 ≤ b) (b1 : b ≤ 4294967295) : 0 ≤ a * b ∧ a * b ≤ 18446744065119617025 := by
  refine ⟨Int.mul_nonneg a0 b0, ?_⟩
  have := Int.mul_le_mul a1 b1 b0 (by omega)
  omega
theorem mul64_eq (x y : Int) (x0 : 0 ≤ x) (x1 : x < 18446744073709551616) (y0 : 0 ≤ y) (y1 : y < 18446744073709551616) : f_math_bits_Mul64 x y = some (x * y / 18446744073709551616, x * y % 18446744073709551616) := by
  unfold f_math_bits_Mul64 K_math_bits_Mul64
  rw [and_mask x x0 x1, and_mask y y0 y1]
  simp only [fdiv_pos _ 4294967296 (by decide), wrap_u64]
  have xe : x = x / 4294967296 * 4294967296 + x % 4294967296 := by omega
  have ye : y = y / 4294967296 * 4294967296 + y % 4294967296 := by omega
  have xh : 0 ≤ x / 4294967296 ∧ x / 4294967296 ≤ 4294967295 := by omega
  have yh : 0 ≤ y / 4294967296 ∧ y / 4294967296 ≤ 4294967295 := by omega
  have xl : 0 ≤ x % 4294967296 ∧ x % 4294967296 ≤ 4294967295 := by omega
  have yl : 0 ≤ y % 4294967296 ∧ y % 4294967296 ≤ 4294967295 := by omega
  have hxy : x * y = (x / 4294967296) * (y / 4294967296) * 18446744073709551616 + ((x / 4294967296) * (y % 4294967296) + (x % 4294967296) * (y / 4294967296)) * 4294967296 + (x % 4294967296) * (y % 4294967296) := by
    conv => lhs; rw [xe, ye]
    generalize x / 4294967296 = a
    generalize x % 4294967296 = b
    generalize y / 4294967296 = c
    generalize y % 4294967296 = d
    rw [Int.add_mul, Int.mul_add, Int.mul_add, Int.add_mul]
    rw [show a * 4294967296 * (c * 4294967296) = a * c * 18446744073709551616 by rw [Int.mul_assoc, Int.mul_left_comm 4294967296 c, ← Int.mul_assoc, show (4294967296 : Int) * 4294967296 = 18446744073709551616 from rfl]]
    rw [show a * 4294967296 * d = a * d * 4294967296 by rw [Int.mul_assoc, Int.mul_comm 4294967296 d, ← Int.mul_assoc], show b * (c * 4294967296) = b * c * 4294967296 by rw [Int.mul_assoc]]
    omega
  obtain ⟨A0, A1⟩ := mul_lt32 xh.1 xh.2 yh.1 yh.2
  obtain ⟨B0, B1⟩ := mul_lt32 xh.1 xh.2 yl.1 yl.2
  obtain ⟨C0, C1⟩ := mul_lt32 xl.1 xl.2 yh.1 yh.2
  obtain ⟨D0, D1⟩ := mul_lt32 xl.1 xl.2 yl.1 yl.2
  simp only [Int.emod_eq_of_lt xl.1 (show x % 4294967296 < 18446744073709551616 by omega), Int.emod_eq_of_lt yl.1 (show y % 4294967296 < 18446744073709551616 by omega)]
  rw [hxy]
  generalize x / 4294967296 * (y / 4294967296) = A at *
  generalize x / 4294967296 * (y % 4294967296) = B at *
  generalize x % 4294967296 * (y / 4294967296) = C at *
  generalize x % 4294967296 * (y % 4294967296) = D at *
  have r1 : A % 18446744073709551616 = A := Int.emod_eq_of_lt A0 (by omega)
  have r2 : B % 18446744073709551616 = B := Int.emod_eq_of_lt B0 (by omega)
  have r3 : C % 18446744073709551616 = C := Int.emod_eq_of_lt C0 (by omega)
  have r4 : D % 18446744073709551616 = D := Int.emod_eq_of_lt D0 (by omega)
  simp only [r1, r2, r3, r4]
  have r5 : (B + D / 4294967296) % 18446744073709551616 = B + D / 4294967296 := Int.emod_eq_of_lt (by omega) (by omega)
  simp only [r5]
  rw [and_mask (B + D / 4294967296) (by omega) (by omega)]
  have r6 : (B + D / 4294967296) % 4294967296 % 18446744073709551616 = (B + D / 4294967296) % 4294967296 := Int.emod_eq_of_lt (by omega) (by omega)
  simp only [r6]
  have r7 : ((B + D / 4294967296) % 4294967296 + C) % 18446744073709551616 = (B + D / 4294967296) % 4294967296 + C := Int.emod_eq_of_lt (by omega) (by omega)
  simp only [r7]
  refine congrArg some (Prod.ext ?_ rfl)
  simp only
  omega
theorem wide_signed (h l : Int) (neg : Bool) (h0 : 0 ≤ h) (h1 : h < 9223372036854775808) (l0 : 0 ≤ l) (l1 : l < 18446744073709551616) :
    ∃ h' l' b, f_wide_signed h l neg = some (h', l', b) ∧ okW h' l' ∧ vW h' l' = if neg = true then -(h * 18446744073709551616 + l) else h * 18446744073709551616 + l := by
  unfold f_wide_signed K_wide_signed
  cases neg
  · refine ⟨_, _, _, rfl, ?_, ?_⟩
    · rw [wrap_i64 (by omega) (by omega)]; omega
    · rw [wrap_i64 (by omega) (by omega)]; rfl
  · simp only [Bool.not_true, cond_false, xor_all l l0 l1, wrap_u64, xor_all h h0 (by omega)]
    rw [add64_eq _ _ _ (by omega) (by omega) (by omega) (by omega)]
    simp only [Option.bind_some]
    generalize hm : (18446744073709551615 - h) % 18446744073709551616 + ((18446744073709551615 - l) % 18446744073709551616 + 1 + 0) / 18446744073709551616 = m
    have hw := wrap_i64_eq (m % 18446744073709551616)
    generalize IntKind.wrap IntKind.i64 (m % 18446744073709551616) = w at *
    have ok : okW w (((18446744073709551615 - l) % 18446744073709551616 + 1 + 0) % 18446744073709551616) ∧ vW w (((18446744073709551615 - l) % 18446744073709551616 + 1 + 0) % 18446744073709551616) = -(h * 18446744073709551616 + l) := by
      unfold vW
      refine ⟨⟨?_, ?_, ?_, ?_⟩, ?_⟩ <;> (split at hw <;> omega)
    cases decide (w < 0)
    · exact ⟨_, _, _, rfl, ok.1, by simp only [if_true]; exact ok.2⟩
    · exact ⟨_, _, _, rfl, ok.1, by simp only [if_true]; exact ok.2⟩
theorem wide_mul (a b : Int) (a0 : -9223372036854775808 ≤ a) (a1 : a ≤ 9223372036854775807) (b0 : -9223372036854775808 ≤ b) (b1 : b ≤ 9223372036854775807) : ∃ h l, f_wide_Mul a b = some (h, l) ∧ okW h l ∧ vW h l = a * b := by
  unfold f_wide_Mul K_wide_Mul
  simp only [abs64_eq a a0 a1, abs64_eq b b0 b1, Option.bind_some]
  generalize hx : (if a < 0 then -a else a) = x
  generalize hy : (if b < 0 then -b else b) = y
  have x0 : 0 ≤ x ∧ x ≤ 9223372036854775808 := by rw [← hx]; split <;> omega
  have y0 : 0 ≤ y ∧ y ≤ 9223372036854775808 := by rw [← hy]; split <;> omega
  have hp : 0 ≤ x * y := Int.mul_nonneg x0.1 y0.1
  have hq : x * y ≤ 85070591730234615865843651857942052864 := by
    have := Int.mul_le_mul x0.2 y0.2 y0.1 (by omega)
    omega
  rw [mul64_eq x y x0.1 (by omega) y0.1 (by omega)]
  simp only [Option.bind_some]
  obtain ⟨h, l, c, e1, e2, e3⟩ := wide_signed (x * y / 18446744073709551616) (x * y % 18446744073709551616) (!decide (a < 0) == decide (b < 0)) (by omega) (by omega) (by omega) (by omega)
  rw [e1]
  simp only [Option.bind_some]
  refine ⟨h, l, rfl, e2, ?_⟩
  have e4 : x * y / 18446744073709551616 * 18446744073709551616 + x * y % 18446744073709551616 = x * y := by omega
  rw [e3, e4]
  by_cases p : a < 0
  · by_cases q : b < 0
    · rw [if_pos p] at hx
      rw [if_pos q] at hy
      simp only [p, q, decide_true]
      rw [if_neg (by decide)]
      rw [← hx, ← hy, Int.neg_mul_neg]
    · rw [if_pos p] at hx
      rw [if_neg q] at hy
      simp only [p, q, decide_true, decide_false]
      rw [if_pos (by decide)]
      rw [← hx, ← hy, Int.neg_mul, Int.neg_neg]
  · by_cases q : b < 0
    · rw [if_neg p] at hx
      rw [if_pos q] at hy
      simp only [p, q, decide_true, decide_false]
      rw [if_pos (by decide)]
      rw [← hx, ← hy, Int.mul_neg, Int.neg_neg]
    · rw [if_neg p] at hx
      rw [if_neg q] at hy
      simp only [p, q, decide_false]
      rw [if_neg (by decide)]
      rw [← hx, ← hy]
theorem acc_mul (a b : Int) (s : Nat) (hit : Bool) (hs : s ≤ 120) : f___fx_Acc__Mul a b (Int.ofNat s) hit = some (sat (rnd (sat a * sat b) s), hit || over a || over b || over (rnd (sat a * sat b) s)) := by
  unfold f___fx_Acc__Mul K___fx_Acc__Mul
  have := sat_le a
  have := sat_le b
  obtain ⟨h, l, e1, e2, e3⟩ := wide_mul (sat a) (sat b) (by omega) (by omega) (by omega) (by omega)
  simp only [acc_sat, Option.bind_some, e1, acc_round h l s _ hs e2, e3]
end Go.Proofs.Ytcalippagaaikaa
end
/-
  The root of a number of 128 bits in plain arithmetic.
-/
section
set_option maxRecDepth 100000
set_option maxHeartbeats 4000000
set_option linter.unusedVariables false
set_option linter.unusedSimpArgs false
namespace Go.Proofs.Ytcalippagaaikaa
open Go.Ab
/-- r is the root of V, rounded -/
def isR (r V : Int) : Prop := 0 ≤ r ∧ V ≤ r * r + r ∧ (r = 0 ∨ r * r - r < V)
theorem mul_nn {a b : Int} (ha : 0 ≤ a) (hb : 0 ≤ b) : 0 ≤ a * b := Int.mul_nonneg ha hb
theorem isR_le {r s V : Int} (h1 : isR r V) (h2 : isR s V) : s ≤ r := by
  obtain ⟨a1, a2, a3⟩ := h1
  obtain ⟨b1, b2, b3⟩ := h2
  rcases Int.lt_or_le r s with h | h
  · exfalso
    have p := mul_nn (a := s - r - 1) (b := s + r) (by omega) (by omega)
    have q : (s - r - 1) * (s + r) = s * s - s - (r * r + r) := by grind
    rcases b3 with b3 | b3
    · omega
    · omega
  · exact h
theorem isR_uniq {r s V : Int} (h1 : isR r V) (h2 : isR s V) : r = s := Int.le_antisymm (isR_le h2 h1) (isR_le h1 h2)
theorem sqrt_ex (n : Nat) : ∃ q : Nat, q * q ≤ n ∧ n < (q + 1) * (q + 1) := by
  induction n with
  | zero => exact ⟨0, by omega, by omega⟩
  | succ n ih =>
    obtain ⟨q, h1, h2⟩ := ih
    by_cases c : n + 1 < (q + 1) * (q + 1)
    · exact ⟨q, by omega, c⟩
    · refine ⟨q + 1, by omega, ?_⟩
      have : (q + 1 + 1) * (q + 1 + 1) = (q + 1) * (q + 1) + 2 * q + 3 := by grind
      omega
theorem sqrt_exI (V : Int) (h : 0 ≤ V) : ∃ q : Int, 0 ≤ q ∧ q * q ≤ V ∧ V < (q + 1) * (q + 1) := by
  obtain ⟨q, h1, h2⟩ := sqrt_ex V.toNat
  refine ⟨q, by omega, ?_, ?_⟩
  · have e : ((q * q : Nat) : Int) = (q : Int) * q := by simp
    omega
  · have e : (((q + 1) * (q + 1) : Nat) : Int) = ((q : Int) + 1) * (q + 1) := by simp
    omega
theorem sq_lt {a b : Int} (ha : 0 ≤ a) (hb : 0 ≤ b) (h : a * a < b * b) : a < b := by
  rcases Int.lt_or_le a b with c | c
  · exact c
  · exfalso
    have := Int.mul_le_mul c c hb (by omega)
    omega
theorem sq_le {a b : Int} (ha : 0 ≤ a) (hb : 0 ≤ b) (h : a * a ≤ b * b) : a ≤ b := by
  rcases Int.lt_or_le b a with c | c
  · exfalso
    have p := mul_nn (a := a - b - 1) (b := a + b) (by omega) (by omega)
    have q : (a - b - 1) * (a + b) = a * a - a - (b * b + b) := by grind
    omega
  · exact c
theorem shl_one' (n : Nat) (hn : n < 128) : f__wide_big__shl 0 1 (Int.ofNat n) = some (2 ^ n / 18446744073709551616, 2 ^ n % 18446744073709551616) := by
  have key : ∀ n : Fin 128, f__wide_big__shl 0 1 (Int.ofNat n.val) = some ((2 : Int) ^ n.val / 18446744073709551616, (2 : Int) ^ n.val % 18446744073709551616) := by decide +kernel
  exact key ⟨n, hn⟩
theorem big_less (a b c d : Int) (b0 : 0 ≤ b) (b1 : b < 18446744073709551616) (d0 : 0 ≤ d) (d1 : d < 18446744073709551616) :
    f__wide_big__less a b c d = some (decide (a * 18446744073709551616 + b < c * 18446744073709551616 + d)) := by
  unfold f__wide_big__less K__wide_big__less
  by_cases h : a < c
  · have : a * 18446744073709551616 + b < c * 18446744073709551616 + d := by omega
    simp [h, this]
  · by_cases e : a = c
    · subst e
      have : (a * 18446744073709551616 + b < a * 18446744073709551616 + d) ↔ b < d := by omega
      simp [this]
    · have : ¬ a * 18446744073709551616 + b < c * 18446744073709551616 + d := by omega
      have e' : (a == c) = false := by simp [e]
      rw [decide_eq_false h, cond_false, e', cond_false, decide_eq_false this]
theorem sub64_eq (x y c : Int) (x0 : 0 ≤ x) (x1 : x < 18446744073709551616) (y0 : 0 ≤ y) (y1 : y < 18446744073709551616) (c0 : 0 ≤ c) (c1 : c ≤ 1) : f_Sub64 x y c = some ((x - y - c) % 18446744073709551616, if x < y + c then 1 else 0) := by
  unfold f_Sub64
  have h : Nat.ble c.toNat 1 = true := Nat.ble_eq_true_of_le (by omega)
  rw [h, cond_true]
  congr 1
  unfold subA subB
  simp only [Int.ofNat_eq_natCast, Prod.mk.injEq]
  constructor
  · omega
  · split <;> split <;> omega
theorem big_minus (a b c d : Int) (a0 : 0 ≤ a) (a1 : a < 18446744073709551616) (b0 : 0 ≤ b) (b1 : b < 18446744073709551616) (c0 : 0 ≤ c) (c1 : c < 18446744073709551616) (d0 : 0 ≤ d) (d1 : d < 18446744073709551616)
    (h : c * 18446744073709551616 + d ≤ a * 18446744073709551616 + b) :
    ∃ h' l', f__wide_big__minus a b c d = some (h', l') ∧ 0 ≤ h' ∧ h' < 18446744073709551616 ∧ 0 ≤ l' ∧ l' < 18446744073709551616 ∧ h' * 18446744073709551616 + l' = a * 18446744073709551616 + b - (c * 18446744073709551616 + d) := by
  unfold f__wide_big__minus K__wide_big__minus
  rw [sub64_eq b d 0 b0 b1 d0 d1 (by omega) (by omega)]
  simp only [Option.bind_some, Int.add_zero]
  by_cases k : b < d
  · rw [if_pos k, sub64_eq a c 1 a0 a1 c0 c1 (by omega) (by omega)]
    simp only [Option.bind_some]
    refine ⟨_, _, rfl, ?_, ?_, ?_, ?_, ?_⟩ <;> omega
  · rw [if_neg k, sub64_eq a c 0 a0 a1 c0 c1 (by omega) (by omega)]
    simp only [Option.bind_some]
    refine ⟨_, _, rfl, ?_, ?_, ?_, ?_, ?_⟩ <;> omega
theorem big_plus' (h1 l1 h2 l2 : Int) (a0 : 0 ≤ h1) (b0 : 0 ≤ l1) (c0 : 0 ≤ h2) (d0 : 0 ≤ l2) (b1 : l1 < 18446744073709551616) (d1 : l2 < 18446744073709551616)
    (h : h1 * 18446744073709551616 + l1 + (h2 * 18446744073709551616 + l2) < 340282366920938463463374607431768211456) :
    ∃ h' l', f__wide_big__plus h1 l1 h2 l2 = some (h', l') ∧ 0 ≤ h' ∧ h' < 18446744073709551616 ∧ 0 ≤ l' ∧ l' < 18446744073709551616 ∧ h' * 18446744073709551616 + l' = h1 * 18446744073709551616 + l1 + (h2 * 18446744073709551616 + l2) := by
  rw [big_plus h1 l1 h2 l2 a0 b0 c0 d0 b1 d1]
  refine ⟨_, _, rfl, ?_, ?_, ?_, ?_, ?_⟩ <;> omega
theorem pow_le_pow {m n : Nat} (h : m ≤ n) : (2 : Int) ^ m ≤ 2 ^ n := by
  have h2 : (2 : Nat) ^ m ≤ 2 ^ n := Nat.pow_le_pow_right (by decide) h
  have h3 : ((2 ^ m : Nat) : Int) ≤ ((2 ^ n : Nat) : Int) := by exact_mod_cast h2
  simpa using h3
theorem wide_root_neg (h l : Int) (h0 : h < 0) : f_wide_Root h l = some (0, false) := by
  unfold f_wide_Root K_wide_Root
  simp [h0]
theorem wide_root (h l : Int) (o : okW h l) (h0 : 0 ≤ h) : ∃ r, isR r (vW h l) ∧ r < 18446744073709551616 ∧ f_wide_Root h l = if r ≤ 9223372036854775807 then some (r, true) else some (0, false) := by
  obtain ⟨o1, o2, o3, o4⟩ := o
  have v0 : 0 ≤ vW h l := by show 0 ≤ h * 18446744073709551616 + l; omega
  have v1 : vW h l < 170141183460469231731687303715884105728 := by show h * 18446744073709551616 + l < _; omega
  have hvv : h * 18446744073709551616 + l = vW h l := rfl
  generalize vW h l = V at *
  obtain ⟨q, q0, q1, q2⟩ := sqrt_exI V v0
  have qb : q < 13043817825332782213 := sq_lt q0 (by omega) (by omega)
  obtain ⟨r, hr⟩ : ∃ r, r = if q < V - q * q then q + 1 else q := ⟨_, rfl⟩
  have q3 : (q + 1) * (q + 1) = q * q + 2 * q + 1 := by grind
  refine ⟨r, ?_, by rw [hr]; split <;> omega, ?_⟩
  · rw [hr]
    split
    · rename_i c
      exact ⟨by omega, by omega, Or.inr (by omega)⟩
    · rename_i c
      refine ⟨q0, by omega, ?_⟩
      rcases Int.lt_or_le 0 q with k | k
      · exact Or.inr (by omega)
      · exact Or.inl (by omega)
  unfold f_wide_Root K_wide_Root L_wide_Root_0
  have n0 : decide (h < 0) = false := decide_eq_false (by omega)
  have n1 : IntKind.wrap .u64 h = h := by rw [wrap_u64]; omega
  rw [n0, cond_false, n1]
  refine loopK_inv (fun t d => ∃ (p c rh rl sh sl : Int), t ≤ 64 ∧ 0 ≤ p ∧ p = c * 2 ^ t ∧ p * p ≤ V ∧ V < (p + 2 ^ t) * (p + 2 ^ t) ∧ 0 ≤ rh ∧ rh < 18446744073709551616 ∧ 0 ≤ rl ∧ rl < 18446744073709551616 ∧ rh * 18446744073709551616 + rl = V - p * p ∧
      0 ≤ sh ∧ sh < 18446744073709551616 ∧ 0 ≤ sl ∧ sl < 18446744073709551616 ∧ sh * 18446744073709551616 + sl = p * 2 ^ t ∧ d = (2 * (t : Int) - 2, rh, rl, sh, sl)) ?_ 200 64 _ (by omega)
    ⟨0, 0, h, l, 0, 0, by omega, by omega, by omega, by omega, by
      have : (2 : Int) ^ 64 = 18446744073709551616 := rfl
      omega, by omega, by omega, by omega, by omega, by omega, by omega, by omega, by omega, by omega, by omega, rfl⟩
  rintro t _ k ⟨p, c, rh, rl, sh, sl, t0, p0, pc, p1, p2, r0, r1, r2, r3, r4, s0, s1, s2, s3, s4, rfl⟩ hk
  rcases Nat.eq_zero_or_pos t with z | z
  · subst z
    have e1 : (2 : Int) ^ 0 = 1 := rfl
    rw [e1] at p2 s4
    have pq : p = q := by
      have h1 : p < q + 1 := sq_lt p0 (by omega) (by omega)
      have h2 : q < p + 1 := sq_lt q0 (by omega) (by omega)
      omega
    subst pq
    have g0 : decide ((2 : Int) * ((0 : Nat) : Int) - 2 ≥ 0) = false := by decide
    simp only [S_wide_Root_0, g0, cond_false, big_less sh sl rh rl s2 s3 r2 r3, Option.bind_some]
    rw [s4, r4, Int.mul_one]
    by_cases cc : p < V - p * p
    · rw [decide_eq_true cc, cond_true]
      rw [if_pos cc] at hr
      obtain ⟨a, b, e2, a0, a1, b0, b1, e3⟩ := big_plus' sh sl 0 1 s0 s2 (by omega) (by omega) s3 (by omega) (by omega)
      rw [e2, Option.bind_some, wide_signed64 a b false a0 b0 b1, e3, hr]
      have e4 : sh * 18446744073709551616 + sl + (0 * 18446744073709551616 + 1) = p + 1 := by omega
      rw [e4]
      have az : a = 0 := by omega
      have e5 : b = p + 1 := by omega
      simp only [Bool.false_eq_true, if_false, e5]
      by_cases f : p + 1 ≤ 9223372036854775807
      · rw [if_pos f, Option.bind_some]
      · rw [if_neg f, Option.bind_some]
    · rw [decide_eq_false cc, cond_false]
      rw [if_neg cc] at hr
      rw [wide_signed64 sh sl false s0 s2 s3, s4, hr]
      have az : sh = 0 := by omega
      have e5 : sl = p := by omega
      simp only [Bool.false_eq_true, if_false, Int.mul_one, e5]
      by_cases f : p ≤ 9223372036854775807
      · rw [if_pos f, Option.bind_some]
      · rw [if_neg f, Option.bind_some]
  · obtain ⟨m, rfl⟩ : ∃ m, t = m + 1 := ⟨t - 1, by omega⟩
    have P2 : (2 : Int) ^ (m + 1) = 2 ^ m * 2 := Int.pow_succ _ _
    have PP : (2 : Int) ^ (2 * m) = 2 ^ m * 2 ^ m := by rw [← Int.pow_add]; congr 1; omega
    have P0 := pow_pos' m
    have PB : (2 : Int) ^ m ≤ 2 ^ 63 := pow_le_pow (by omega)
    have PBv : (2 : Int) ^ 63 = 9223372036854775808 := rfl
    have at0 : (2 : Int) * ((m + 1 : Nat) : Int) - 2 = Int.ofNat (2 * m) := by simp only [Int.ofNat_eq_natCast]; omega
    rw [at0]
    have g0 : decide (Int.ofNat (2 * m) ≥ 0) = true := decide_eq_true (by simp only [Int.ofNat_eq_natCast]; omega)
    have g1 : IntKind.wrap .i64 (Int.ofNat (2 * m) - 2) = 2 * (m : Int) - 2 := by
      simp only [Int.ofNat_eq_natCast]
      rw [wrap_i64 (by omega) (by omega)]
      omega
    simp only [S_wide_Root_0, g0, cond_true, shl_one' (2 * m) (by omega), Option.bind_some, g1]
    rw [PP]
    rw [P2] at pc p2 s4
    generalize hP : (2 : Int) ^ m = P at *
    have PPb : P * P ≤ 85070591730234615865843651857942052864 := by
      have := Int.mul_le_mul PB PB (by omega) (by omega)
      omega
    have PP0 : 0 < P * P := Int.mul_pos P0 P0
    -- what stands in r is no more than V
    have pb : p * P * 2 ≤ V := by
      rcases Int.lt_or_le 0 c with k0 | k0
      · have c1 : 1 * (P * 2) ≤ c * (P * 2) := Int.mul_le_mul_of_nonneg_right (by omega) (by omega)
        have c2 : p * (P * 2) ≤ p * p := Int.mul_le_mul_of_nonneg_left (by omega) p0
        have c3 : p * (P * 2) = p * P * 2 := by grind
        omega
      · have c1 : c * (P * 2) ≤ 0 * (P * 2) := Int.mul_le_mul_of_nonneg_right k0 (by omega)
        have : p = 0 := by omega
        subst this
        omega
    have s4' : sh * 18446744073709551616 + sl = p * P * 2 := by rw [s4]; grind
    obtain ⟨a, b, e2, a0, a1, b0, b1, e3⟩ := big_plus' sh sl (P * P / 18446744073709551616) (P * P % 18446744073709551616) s0 s2 (by omega) (by omega) s3 (by omega) (by omega)
    have e3' : a * 18446744073709551616 + b = p * P * 2 + P * P := by omega
    obtain ⟨u, v, e4, u0, v0, v1, e5⟩ := big_shr sh sl 1 (by omega) s0 s1 s2 s3
    have e4' : f__wide_big__shr sh sl 1 = some (u, v) := e4
    have e5' : u * 18446744073709551616 + v = p * P := by
      rw [e5, s4']
      show p * P * 2 / 2 ^ 1 = p * P
      rw [show (2 : Int) ^ 1 = 2 from rfl]; omega
    rw [e2, Option.bind_some, e4', Option.bind_some, big_less rh rl a b r2 r3 b0 b1, Option.bind_some, e3', r4]
    have dd : p * p + (p * P * 2 + P * P) = (p + P) * (p + P) := by grind
    by_cases cc : V - p * p < p * P * 2 + P * P
    · rw [decide_eq_true cc]
      simp only [Bool.not_true, cond_false]
      refine hk m _ (by omega) ⟨p, c * 2, rh, rl, u, v, by omega, p0, by rw [hP, pc]; grind, p1, by rw [hP]; omega, r0, r1, r2, r3, r4, u0, by omega, v0, v1, by rw [hP]; exact e5', rfl⟩
    · rw [decide_eq_false cc]
      simp only [Bool.not_false, cond_true]
      obtain ⟨x, y, e6, x0, x1, y0, y1, e7⟩ := big_minus rh rl a b r0 r1 r2 r3 a0 a1 b0 b1 (by omega)
      obtain ⟨w, z', e8, w0, w1, z0, z1, e9⟩ := big_plus' u v (P * P / 18446744073709551616) (P * P % 18446744073709551616) u0 v0 (by omega) (by omega) v1 (by omega) (by omega)
      rw [e6, Option.bind_some, e8, Option.bind_some]
      refine hk m _ (by omega) ⟨p + P, c * 2 + 1, x, y, w, z', by omega, by omega, by rw [hP, pc]; grind, by omega, ?_, x0, x1, y0, y1, by omega, w0, w1, z0, z1, ?_, rfl⟩
      · rw [hP]
        have : (p + P + P) * (p + P + P) = (p + P * 2) * (p + P * 2) := by grind
        omega
      · rw [hP]
        have : (p + P) * P = p * P + P * P := by grind
        omega
end Go.Proofs.Ytcalippagaaikaa
end
/-
  Numbers of 128 bits: compared, turned, shifted, in plain arithmetic.
-/
section
set_option maxRecDepth 100000
set_option maxHeartbeats 4000000
set_option linter.unusedVariables false
set_option linter.unusedSimpArgs false
namespace Go.Proofs.Ytcalippagaaikaa
open Go.Ab
def cmpI (x y : Int) : Int := if x = y then 0 else if x < y then -1 else 1
theorem wide_cmp (h1 l1 h2 l2 : Int) (o1 : okW h1 l1) (o2 : okW h2 l2) : f_wide_Cmp h1 l1 h2 l2 = some (cmpI (vW h1 l1) (vW h2 l2)) := by
  obtain ⟨a1, a2, a3, a4⟩ := o1
  obtain ⟨b1, b2, b3, b4⟩ := o2
  unfold f_wide_Cmp K_wide_Cmp cmpI vW
  by_cases c : h1 = h2
  · subst c
    by_cases d : l1 = l2
    · subst d
      simp
    · have e : (l1 == l2) = false := by simp [d]
      have e2 : (h1 == h1) = true := by simp
      rw [e, e2, Bool.false_and, Bool.and_false, cond_false, decide_eq_false (show ¬ h1 < h1 by omega), cond_false, cond_true, if_neg (by omega)]
      by_cases f : l1 < l2
      · rw [decide_eq_true f, cond_true, if_pos (by omega)]
      · rw [decide_eq_false f, cond_false, if_neg (by omega)]
  · have e : (h1 == h2) = false := by simp [c]
    rw [e, Bool.false_and, cond_false, if_neg (by omega), cond_false]
    by_cases f : h1 < h2
    · rw [decide_eq_true f, cond_true, if_pos (by omega)]
    · rw [decide_eq_false f, cond_false, if_neg (by omega)]
theorem signed_eq (h l : Int) (neg : Bool) (h0 : 0 ≤ h) (h1 : h < 18446744073709551616) (l0 : 0 ≤ l) (l1 : l < 18446744073709551616) :
    ∃ h' l' b, f_wide_signed h l neg = some (h', l', b) ∧ okW h' l' ∧ (b = true ↔ if neg = true then h * 18446744073709551616 + l ≤ 170141183460469231731687303715884105728 else h * 18446744073709551616 + l < 170141183460469231731687303715884105728) ∧
      (b = true → vW h' l' = if neg = true then -(h * 18446744073709551616 + l) else h * 18446744073709551616 + l) := by
  unfold f_wide_signed K_wide_signed vW
  cases neg
  · have hw := wrap_i64_eq h
    rw [Int.emod_eq_of_lt h0 h1] at hw
    generalize IntKind.wrap IntKind.i64 h = w at *
    refine ⟨w, l, _, rfl, ⟨?_, ?_, l0, l1⟩, ?_, ?_⟩
    · split at hw <;> omega
    · split at hw <;> omega
    · rw [fdiv_pos _ _ (by omega), beq_iff_eq, if_neg (by decide)]
      constructor <;> intro _ <;> omega
    · rw [fdiv_pos _ _ (by omega), beq_iff_eq, if_neg (by decide)]
      intro _
      split at hw <;> omega
  · simp only [Bool.not_true, cond_false, xor_all l l0 l1, wrap_u64, xor_all h h0 h1]
    rw [add64_eq _ _ _ (by omega) (by omega) (by omega) (by omega)]
    simp only [Option.bind_some, if_true]
    generalize hm : ((18446744073709551615 - h) % 18446744073709551616 + ((18446744073709551615 - l) % 18446744073709551616 + 1 + 0) / 18446744073709551616) % 18446744073709551616 = m
    have hw := wrap_i64_eq m
    generalize IntKind.wrap IntKind.i64 m = w at *
    have m0 : 0 ≤ m ∧ m < 18446744073709551616 := by omega
    rw [Int.emod_eq_of_lt m0.1 m0.2] at hw
    have w0 : -9223372036854775808 ≤ w ∧ w ≤ 9223372036854775807 := by split at hw <;> omega
    have wm : (w < 0 ∧ w = m - 18446744073709551616) ∨ (0 ≤ w ∧ w = m) := by split at hw <;> omega
    clear hw
    by_cases c : w < 0
    · rw [decide_eq_true c, cond_true]
      refine ⟨_, _, _, rfl, ⟨w0.1, w0.2, by omega, by omega⟩, ?_, ?_⟩
      · simp only [true_iff]; omega
      · intro _; omega
    · rw [decide_eq_false c, cond_false]
      refine ⟨_, _, _, rfl, ⟨w0.1, w0.2, by omega, by omega⟩, ?_, ?_⟩
      · simp only [Bool.and_eq_true, beq_iff_eq, and_true]
        constructor <;> intro _ <;> omega
      · simp only [Bool.and_eq_true, beq_iff_eq, and_true]
        intro _; omega
theorem wide_neg (h l : Int) (o : okW h l) : ∃ h' l' b, f_wide_Neg h l = some (h', l', b) ∧ okW h' l' ∧ (b = true ↔ -vW h l < 170141183460469231731687303715884105728) ∧ (b = true → vW h' l' = -vW h l) ∧ (b = false → h' = 0 ∧ l' = 0) := by
  unfold f_wide_Neg K_wide_Neg
  obtain ⟨ah, al, e1, a0, a1, a2, a3, a4⟩ := wide_abs h l o
  obtain ⟨h', l', b, e2, o2, f2, v2⟩ := signed_eq ah al (!decide (h < 0)) a0 (by omega) a2 a3
  obtain ⟨o1, o2', o3, o4⟩ := o
  rw [e1, Option.bind_some]
  simp only
  rw [e2, Option.bind_some]
  have sg : (h < 0 → vW h l < 0) ∧ (¬ h < 0 → 0 ≤ vW h l) := by simp only [vW]; omega
  have vb : vW h l < 170141183460469231731687303715884105728 ∧ -170141183460469231731687303715884105728 ≤ vW h l := by simp only [vW]; omega
  generalize vW h l = V at *
  by_cases n : h < 0
  · rw [decide_eq_true n, Bool.not_true, if_neg (by decide)] at f2 v2
    rw [if_pos n] at a4
    cases b with
    | false =>
      refine ⟨0, 0, false, rfl, ⟨by omega, by omega, by omega, by omega⟩, ?_, (fun h => by cases h), (fun _ => ⟨rfl, rfl⟩)⟩
      rw [f2]; omega
    | true =>
      refine ⟨h', l', true, rfl, o2, ?_, (fun _ => ?_), (fun h => by cases h)⟩
      · rw [f2]; omega
      · rw [v2 rfl]; omega
  · rw [decide_eq_false n, Bool.not_false, if_pos rfl] at f2 v2
    rw [if_neg n] at a4
    cases b with
    | false =>
      refine ⟨0, 0, false, rfl, ⟨by omega, by omega, by omega, by omega⟩, ?_, (fun h => by cases h), (fun _ => ⟨rfl, rfl⟩)⟩
      rw [f2]; omega
    | true =>
      refine ⟨h', l', true, rfl, o2, ?_, (fun _ => ?_), (fun h => by cases h)⟩
      · rw [f2]; omega
      · rw [v2 rfl]; omega
theorem big_shl (d : Int) (s : Nat) (hs : s ≤ 127) (d0 : 0 ≤ d) (d1 : d < 18446744073709551616) :
    ∃ h' l', f__wide_big__shl 0 d (Int.ofNat s) = some (h', l') ∧ 0 ≤ h' ∧ h' < 18446744073709551616 ∧ 0 ≤ l' ∧ l' < 18446744073709551616 ∧ h' * 18446744073709551616 + l' = d * 2 ^ s % 340282366920938463463374607431768211456 := by
  unfold f__wide_big__shl K__wide_big__shl
  by_cases c : 64 ≤ s
  · have e : decide (Int.ofNat s ≥ 64) = true := by simp only [Int.ofNat_eq_natCast]; exact decide_eq_true (by omega)
    have e2 : IntKind.wrap .i64 (Int.ofNat s - 64) = Int.ofNat (s - 64) := (wrap_i64 (by simp only [Int.ofNat_eq_natCast]; omega) (by simp only [Int.ofNat_eq_natCast]; omega)).trans (by simp only [Int.ofNat_eq_natCast]; omega)
    have e3 : (!decide (Int.ofNat (s - 64) < 0)) = true := by simp
    have e4 : min (Int.toNat (Int.ofNat (s - 64))) 64 = s - 64 := by
      show min (s - 64) 64 = s - 64
      omega
    simp only [e, e2, e3, e4, cond_true, wrap_u64]
    refine ⟨_, _, rfl, by omega, by omega, by omega, by omega, ?_⟩
    have p : (2 : Int) ^ s = 2 ^ (s - 64) * 18446744073709551616 := by
      rw [show (18446744073709551616 : Int) = 2 ^ 64 from rfl, ← Int.pow_add]
      congr 1; omega
    rw [p, ← Int.mul_assoc]
    generalize d * 2 ^ (s - 64) = x
    omega
  · have e : decide (Int.ofNat s ≥ 64) = false := by simp only [Int.ofNat_eq_natCast]; exact decide_eq_false (by omega)
    have e2 : IntKind.wrap .i64 (64 - Int.ofNat s) = Int.ofNat (64 - s) := (wrap_i64 (by simp only [Int.ofNat_eq_natCast]; omega) (by simp only [Int.ofNat_eq_natCast]; omega)).trans (by simp only [Int.ofNat_eq_natCast]; omega)
    have e3 : ∀ n, (!decide (Int.ofNat n < 0)) = true := by simp
    have e4 : min (Int.toNat (Int.ofNat (64 - s))) 64 = 64 - s := by
      show min (64 - s) 64 = 64 - s
      omega
    have e5 : min (Int.toNat (Int.ofNat s)) 64 = s := by
      show min s 64 = s
      omega
    simp only [e, e2, e3, e4, e5, cond_true, cond_false, wrap_u64, Int.zero_mul]
    rw [fdiv_pos _ _ (Int.le_of_lt (pow_pos' _))]
    have pq : (18446744073709551616 : Int) = 2 ^ s * 2 ^ (64 - s) := by
      rw [← Int.pow_add, show s + (64 - s) = 64 by omega]; rfl
    have P0 := pow_pos' s
    have Q0 := pow_pos' (64 - s)
    have x0 : 0 ≤ d / 2 ^ (64 - s) := Int.ediv_nonneg d0 (Int.le_of_lt Q0)
    have x1 : d / 2 ^ (64 - s) < 2 ^ s := Int.ediv_lt_of_lt_mul Q0 (by rw [← pq]; exact d1)
    have x2 : d / 2 ^ (64 - s) ≤ d := Int.ediv_le_self _ d0
    have z0 : (0 : Int) % 18446744073709551616 = 0 := rfl
    rw [z0]
    have key : Int.ofNat (BitVec.toNat (BitVec.ofInt 64 0 ||| BitVec.ofInt 64 (d / 2 ^ (64 - s)))) = d / 2 ^ (64 - s) := by
      rw [or_apart 0 (d / 2 ^ (64 - s)) 0 (by omega) (by decide) x0 (by omega) (by omega) (by rw [show (2 : Int) ^ 0 = 1 from rfl, Int.emod_one])]
      omega
    rw [key]
    refine ⟨_, _, rfl, by omega, by omega, by omega, by omega, ?_⟩
    have m1 : d * 2 ^ s / 18446744073709551616 = d / 2 ^ (64 - s) := by
      rw [pq, Int.mul_comm d, Int.mul_ediv_mul_of_pos _ _ P0]
    have b1 : d * 2 ^ s < 340282366920938463463374607431768211456 := by
      have := Int.mul_lt_mul_of_pos_right d1 P0
      have q : (2 : Int) ^ s ≤ 2 ^ 64 := pow_le_pow (by omega)
      have q2 : (2 : Int) ^ 64 = 18446744073709551616 := rfl
      have q3 : 18446744073709551616 * 2 ^ s ≤ (18446744073709551616 : Int) * 18446744073709551616 := Int.mul_le_mul_of_nonneg_left (by omega) (by omega)
      have q4 : (18446744073709551616 : Int) * 18446744073709551616 = 340282366920938463463374607431768211456 := by decide
      omega
    have b0 : 0 ≤ d * 2 ^ s := Int.mul_nonneg d0 (Int.le_of_lt P0)
    rw [Int.emod_eq_of_lt b0 b1]
    have x3 : d / 2 ^ (64 - s) % 18446744073709551616 = d / 2 ^ (64 - s) := Int.emod_eq_of_lt x0 (by omega)
    rw [x3, ← m1]
    omega
theorem wide_shift (a : Int) (s : Nat) (hs : s ≤ 127) (a0 : -9223372036854775808 ≤ a) (a1 : a ≤ 9223372036854775807) :
    ∃ h l b, f_wide_Shift a (Int.ofNat s) = some (h, l, b) ∧ okW h l ∧ (b = true ↔ -170141183460469231731687303715884105728 ≤ a * 2 ^ s ∧ a * 2 ^ s < 170141183460469231731687303715884105728) ∧ (b = true → vW h l = a * 2 ^ s) ∧ (b = false → h = 0 ∧ l = 0) := by
  unfold f_wide_Shift K_wide_Shift
  have n0 : decide (Int.ofNat s < 0) = false := by simp
  have n1 : decide (Int.ofNat s > 127) = false := by simp only [Int.ofNat_eq_natCast]; exact decide_eq_false (by omega)
  rw [n0, cond_false, n1, cond_false, abs64_eq a a0 a1, Option.bind_some]
  generalize hd : (if a < 0 then -a else a) = d
  have d0 : 0 ≤ d ∧ d ≤ 9223372036854775808 := by split at hd <;> omega
  obtain ⟨u, v, e1, u0, u1, v0, v1, e2⟩ := big_shl d s hs d0.1 (by omega)
  rw [e1, Option.bind_some]
  simp only
  have P0 := pow_pos' s
  have D0 : 0 ≤ d * 2 ^ s := Int.mul_nonneg d0.1 (Int.le_of_lt P0)
  have sg : (a < 0 → a * 2 ^ s = -(d * 2 ^ s)) ∧ (¬ a < 0 → a * 2 ^ s = d * 2 ^ s) := by
    constructor <;> intro h
    · rw [if_pos h] at hd
      rw [← hd, Int.neg_mul, Int.neg_neg]
    · rw [if_neg h] at hd
      rw [hd]
  have nofit : ∀ {b : Bool}, b = false → ¬ d * 2 ^ s < 340282366920938463463374607431768211456 → (b = true ↔ -170141183460469231731687303715884105728 ≤ a * 2 ^ s ∧ a * 2 ^ s < 170141183460469231731687303715884105728) := by
    intro b hb hn
    rw [hb]
    refine iff_of_false Bool.false_ne_true fun h => ?_
    by_cases n : a < 0
    · have := sg.1 n; omega
    · have := sg.2 n; omega
  have fin : d * 2 ^ s < 340282366920938463463374607431768211456 → ∃ h l b, (Option.bind (f_wide_signed u v (decide (a < 0))) fun (d : Int × Int × Bool) => bif !d.2.2 then some (0, 0, false) else some (d.1, d.2.1, true)) = some (h, l, b) ∧ okW h l ∧ (b = true ↔ -170141183460469231731687303715884105728 ≤ a * 2 ^ s ∧ a * 2 ^ s < 170141183460469231731687303715884105728) ∧ (b = true → vW h l = a * 2 ^ s) ∧ (b = false → h = 0 ∧ l = 0) := by
    intro lt
    rw [Int.emod_eq_of_lt D0 lt] at e2
    obtain ⟨h', l', b, e3, o3, f3, v3⟩ := signed_eq u v (decide (a < 0)) u0 u1 v0 v1
    rw [e3, Option.bind_some]
    rw [e2] at f3 v3
    by_cases n : a < 0
    · have q := sg.1 n
      rw [decide_eq_true n, if_pos rfl] at f3 v3
      cases b with
      | false =>
        refine ⟨0, 0, false, rfl, ⟨by omega, by omega, by omega, by omega⟩, ?_, (fun h => by cases h), (fun _ => ⟨rfl, rfl⟩)⟩
        rw [f3]; omega
      | true =>
        refine ⟨h', l', true, rfl, o3, ?_, (fun _ => ?_), (fun h => by cases h)⟩
        · rw [f3]; omega
        · rw [v3 rfl]; omega
    · have q := sg.2 n
      rw [decide_eq_false n, if_neg (by decide)] at f3 v3
      cases b with
      | false =>
        refine ⟨0, 0, false, rfl, ⟨by omega, by omega, by omega, by omega⟩, ?_, (fun h => by cases h), (fun _ => ⟨rfl, rfl⟩)⟩
        rw [f3]; omega
      | true =>
        refine ⟨h', l', true, rfl, o3, ?_, (fun _ => ?_), (fun h => by cases h)⟩
        · rw [f3]; omega
        · rw [v3 rfl]; omega
  -- back again
  have shr : ∃ x y, f__wide_big__shr u v (Int.ofNat s) = some (x, y) ∧ 0 ≤ x ∧ 0 ≤ y ∧ y < 18446744073709551616 ∧ x * 18446744073709551616 + y = (u * 18446744073709551616 + v) / 2 ^ s := by
    rcases Nat.lt_or_ge s 127 with c | c
    · exact big_shr u v s (by omega) u0 u1 v0 v1
    · obtain rfl : s = 127 := by omega
      refine ⟨0, u / 9223372036854775808, ?_, by omega, by omega, by omega, ?_⟩
      · unfold f__wide_big__shr K__wide_big__shr
        have k1 : decide (Int.ofNat 127 ≥ 64) = true := by decide
        have k2 : (!decide (IntKind.wrap .i64 (Int.ofNat 127 - 64) < 0)) = true := by decide
        have k3 : (2 : Int) ^ min (Int.toNat (IntKind.wrap .i64 (Int.ofNat 127 - 64))) 64 = 9223372036854775808 := by decide
        simp only [k1, k2, k3, cond_true]
        rw [fdiv_pos _ _ (by omega)]
      · have k : (2 : Int) ^ 127 = 170141183460469231731687303715884105728 := by decide
        rw [k]; omega
  obtain ⟨x, y, e3, x0, y0, y1, e4⟩ := shr
  rw [e3, Option.bind_some]
  simp only
  rw [e2] at e4
  by_cases lt : d * 2 ^ s < 340282366920938463463374607431768211456
  · rw [Int.emod_eq_of_lt D0 lt, Int.mul_ediv_cancel _ (by omega)] at e4
    have xe : (x == 0) = true := by rw [beq_iff_eq]; omega
    have ye : (y == d) = true := by rw [beq_iff_eq]; omega
    rw [xe, ye]
    exact fin lt
  · have small : d * 2 ^ s % 340282366920938463463374607431768211456 / 2 ^ s < d := by
      refine Int.ediv_lt_of_lt_mul P0 ?_
      have : d * 2 ^ s % 340282366920938463463374607431768211456 < 340282366920938463463374607431768211456 := Int.emod_lt_of_pos _ (by omega)
      omega
    have ne : (x == 0 && (y == d && true)) = false := by
      rw [Bool.and_true]
      by_cases xz : x = 0
      · have : (y == d) = false := by rw [beq_eq_false_iff_ne]; omega
        rw [this, Bool.and_false]
      · have : (x == 0) = false := by rw [beq_eq_false_iff_ne]; omega
        rw [this, Bool.false_and]
    rw [ne]
    exact ⟨0, 0, false, rfl, ⟨by omega, by omega, by omega, by omega⟩, nofit rfl lt, (fun h => by cases h), (fun _ => ⟨rfl, rfl⟩)⟩
end Go.Proofs.Ytcalippagaaikaa
end
/-
  The quotient of 128 bits by 64, digit by digit, in plain arithmetic.
-/
section
set_option maxRecDepth 100000
set_option maxHeartbeats 4000000
set_option linter.unusedVariables false
set_option linter.unusedSimpArgs false
namespace Go.Proofs.Ytcalippagaaikaa
open Go.Ab
/-! how many bits -/
theorem len_tab (x : Int) (h0 : 1 ≤ x) (h1 : x < 256) : ∃ n : Nat, 1 ≤ n ∧ n ≤ 8 ∧ (2 : Int) ^ (n - 1) ≤ x ∧ x < 2 ^ n ∧ ∀ {ρ : Type} (m : Int) (k : Int → Option ρ), 0 ≤ m → m ≤ 1000 → L_math_bits_Len64_2 (x, m) k = k (m + n) := by
  obtain ⟨a, rfl⟩ : ∃ a : Nat, x = (a : Int) := ⟨x.toNat, by omega⟩
  have key : ∀ a : Fin 256, 1 ≤ a.val → ∀ {ρ : Type} (m : Int) (k : Int → Option ρ), S_math_bits_Len64_2 (a.val : Int) m (fun _ => none) k = k (IntKind.wrap .i64 (m + (Nat.log2 a.val + 1 : Nat))) := by
    have t : ∀ a : Fin 256, 1 ≤ a.val → (inR (IntKind.wrap .u8 (a.val : Int)) 256 = true ∧ IntKind.wrap .i64 (byteAt (ByteArray.mk
                (List.toArray
                  (List.append
                    (List.append
                      [0, 1, 2, 2, 3, 3, 3, 3, 4, 4, 4, 4, 4, 4, 4, 4, 5, 5, 5, 5, 5, 5, 5, 5, 5, 5, 5, 5, 5, 5, 5, 5, 6, 6, 6, 6, 6, 6, 6, 6, 6, 6, 6, 6, 6, 6, 6, 6, 6, 6, 6, 6, 6, 6, 6, 6, 6, 6, 6, 6,
                        6, 6, 6, 6]
                      [7, 7, 7, 7, 7, 7, 7, 7, 7, 7, 7, 7, 7, 7, 7, 7, 7, 7, 7, 7, 7, 7, 7, 7, 7, 7, 7, 7, 7, 7, 7, 7, 7, 7, 7, 7, 7, 7, 7, 7, 7, 7, 7, 7, 7, 7, 7, 7, 7, 7, 7, 7, 7, 7, 7, 7, 7, 7, 7, 7,
                        7, 7, 7, 7])
                    (List.append
                      [8, 8, 8, 8, 8, 8, 8, 8, 8, 8, 8, 8, 8, 8, 8, 8, 8, 8, 8, 8, 8, 8, 8, 8, 8, 8, 8, 8, 8, 8, 8, 8, 8, 8, 8, 8, 8, 8, 8, 8, 8, 8, 8, 8, 8, 8, 8, 8, 8, 8, 8, 8, 8, 8, 8, 8, 8, 8, 8, 8,
                        8, 8, 8, 8]
                      [8, 8, 8, 8, 8, 8, 8, 8, 8, 8, 8, 8, 8, 8, 8, 8, 8, 8, 8, 8, 8, 8, 8, 8, 8, 8, 8, 8, 8, 8, 8, 8, 8, 8, 8, 8, 8, 8, 8, 8, 8, 8, 8, 8, 8, 8, 8, 8, 8, 8, 8, 8, 8, 8, 8, 8, 8, 8, 8, 8,
                        8, 8, 8, 8]))))
              (Int.toNat (IntKind.wrap IntKind.u8 (a.val : Int)))) = ((Nat.log2 a.val + 1 : Nat) : Int)) := by decide +kernel
    intro a ha ρ m k
    obtain ⟨t1, t2⟩ := t a ha
    unfold S_math_bits_Len64_2
    rw [t1, cond_true, t2]
  have ha : 1 ≤ a := by omega
  have a256 : a < 256 := by omega
  have l1 := Nat.log2_self_le (n := a) (by omega)
  have l2 : a < 2 ^ (a.log2 + 1) := Nat.lt_log2_self
  have lb : a.log2 < 8 := by
    rcases Nat.lt_or_ge a.log2 8 with c | c
    · exact c
    · have : 2 ^ 8 ≤ 2 ^ a.log2 := Nat.pow_le_pow_right (by decide) c
      omega
  refine ⟨a.log2 + 1, by omega, by omega, ?_, ?_, fun m k m0 m1 => ?_⟩
  · rw [Nat.add_sub_cancel]
    have : ((2 ^ a.log2 : Nat) : Int) = (2 : Int) ^ a.log2 := by simp
    omega
  · have : ((2 ^ (a.log2 + 1) : Nat) : Int) = (2 : Int) ^ (a.log2 + 1) := by simp
    omega
  · have : S_math_bits_Len64_2 (a : Int) m (fun _ => none) k = k (IntKind.wrap .i64 (m + (Nat.log2 a + 1 : Nat))) := key ⟨a, a256⟩ ha m k
    unfold L_math_bits_Len64_2
    rw [this, wrap_i64 (by omega) (by omega)]
theorem pow_add' (a b : Nat) : (2 : Int) ^ (a + b) = 2 ^ a * 2 ^ b := Int.pow_add _ _ _
theorem len_shift (x : Int) (b n : Nat) (hn : 1 ≤ n) (h0 : (2 : Int) ^ (n - 1) ≤ x / 2 ^ b) (h1 : x / 2 ^ b < 2 ^ n) : (2 : Int) ^ (n + b - 1) ≤ x ∧ x < 2 ^ (n + b) := by
  have B0 := pow_pos' b
  have e1 : (2 : Int) ^ (n + b - 1) = 2 ^ (n - 1) * 2 ^ b := by rw [← pow_add']; congr 1; omega
  have e2 : (2 : Int) ^ (n + b) = 2 ^ n * 2 ^ b := pow_add' _ _
  rw [e1, e2]
  exact ⟨Int.mul_le_of_le_ediv B0 h0, Int.lt_mul_of_ediv_lt B0 h1⟩
theorem len_8 (x : Int) (h0 : 1 ≤ x) (h1 : x < 65536) : ∃ n : Nat, 1 ≤ n ∧ n ≤ 16 ∧ (2 : Int) ^ (n - 1) ≤ x ∧ x < 2 ^ n ∧ ∀ {ρ : Type} (m : Int) (k : Int → Option ρ), 0 ≤ m → m ≤ 900 → L_math_bits_Len64_1 (x, m) k = k (m + n) := by
  by_cases c : x ≥ 256
  · obtain ⟨n, n1, n2, b0, b1, e⟩ := len_tab (x / 256) (by omega) (by omega)
    obtain ⟨c0, c1⟩ := len_shift x 8 n n1 b0 b1
    refine ⟨n + 8, by omega, by omega, c0, c1, fun m k m0 m1 => ?_⟩
    unfold L_math_bits_Len64_1 S_math_bits_Len64_1
    rw [decide_eq_true c, cond_true, fdiv_pos _ _ (by omega), wrap_i64 (by omega) (by omega), e (m + 8) _ (by omega) (by omega)]
    congr 1; omega
  · obtain ⟨n, n1, n2, b0, b1, e⟩ := len_tab x h0 (by omega)
    refine ⟨n, n1, by omega, b0, b1, fun m k m0 m1 => ?_⟩
    unfold L_math_bits_Len64_1 S_math_bits_Len64_1
    rw [decide_eq_false c, cond_false, e m _ m0 (by omega)]
theorem len_16 (x : Int) (h0 : 1 ≤ x) (h1 : x < 4294967296) : ∃ n : Nat, 1 ≤ n ∧ n ≤ 32 ∧ (2 : Int) ^ (n - 1) ≤ x ∧ x < 2 ^ n ∧ ∀ {ρ : Type} (m : Int) (k : Int → Option ρ), 0 ≤ m → m ≤ 800 → L_math_bits_Len64_0 (x, m) k = k (m + n) := by
  by_cases c : x ≥ 65536
  · obtain ⟨n, n1, n2, b0, b1, e⟩ := len_8 (x / 65536) (by omega) (by omega)
    obtain ⟨c0, c1⟩ := len_shift x 16 n n1 b0 b1
    refine ⟨n + 16, by omega, by omega, c0, c1, fun m k m0 m1 => ?_⟩
    unfold L_math_bits_Len64_0 S_math_bits_Len64_0
    rw [decide_eq_true c, cond_true, fdiv_pos _ _ (by omega), wrap_i64 (by omega) (by omega), e (m + 16) _ (by omega) (by omega)]
    congr 1; omega
  · obtain ⟨n, n1, n2, b0, b1, e⟩ := len_8 x h0 (by omega)
    refine ⟨n, n1, by omega, b0, b1, fun m k m0 m1 => ?_⟩
    unfold L_math_bits_Len64_0 S_math_bits_Len64_0
    rw [decide_eq_false c, cond_false, e m _ m0 (by omega)]
theorem len_64 (x : Int) (h0 : 1 ≤ x) (h1 : x < 18446744073709551616) : ∃ n : Nat, 1 ≤ n ∧ n ≤ 64 ∧ (2 : Int) ^ (n - 1) ≤ x ∧ x < 2 ^ n ∧ f_math_bits_Len64 x = some (n : Int) := by
  unfold f_math_bits_Len64 K_math_bits_Len64
  by_cases c : x ≥ 4294967296
  · obtain ⟨n, n1, n2, b0, b1, e⟩ := len_16 (x / 4294967296) (by omega) (by omega)
    obtain ⟨c0, c1⟩ := len_shift x 32 n n1 b0 b1
    refine ⟨n + 32, by omega, by omega, c0, c1, ?_⟩
    rw [decide_eq_true c, cond_true, fdiv_pos _ _ (by omega), e 32 _ (by omega) (by omega)]
    congr 1; omega
  · obtain ⟨n, n1, n2, b0, b1, e⟩ := len_16 x h0 (by omega)
    refine ⟨n, n1, by omega, b0, b1, ?_⟩
    rw [decide_eq_false c, cond_false, e 0 _ (by omega) (by omega), Int.zero_add]
/-- so many places to the left till the first bit stands at the front -/
theorem lead_64 (x : Int) (h0 : 1 ≤ x) (h1 : x < 18446744073709551616) : ∃ s : Nat, s ≤ 63 ∧ 9223372036854775808 ≤ x * 2 ^ s ∧ x * 2 ^ s < 18446744073709551616 ∧ f_math_bits_LeadingZeros64 x = some (s : Int) := by
  obtain ⟨n, n1, n2, b0, b1, e⟩ := len_64 x h0 h1
  refine ⟨64 - n, by omega, ?_, ?_, ?_⟩
  · have p : (9223372036854775808 : Int) = 2 ^ (n - 1) * 2 ^ (64 - n) := by
      rw [← pow_add', show n - 1 + (64 - n) = 63 by omega]; rfl
    rw [p]
    exact Int.mul_le_mul_of_nonneg_right b0 (Int.le_of_lt (pow_pos' _))
  · have p : (18446744073709551616 : Int) = 2 ^ n * 2 ^ (64 - n) := by
      rw [← pow_add', show n + (64 - n) = 64 by omega]; rfl
    rw [p]
    exact Int.mul_lt_mul_of_pos_right b1 (pow_pos' _)
  · unfold f_math_bits_LeadingZeros64 K_math_bits_LeadingZeros64
    rw [e, Option.bind_some, wrap_i64 (by omega) (by omega)]
    congr 1; omega
/-! one digit -/
structure Dig (Y yn1 yn0 U u : Int) : Prop where
  y : Y = yn1 * 4294967296 + yn0
  a : 2147483648 ≤ yn1 ∧ yn1 < 4294967296
  b : 0 ≤ yn0 ∧ yn0 < 4294967296
  u0 : 0 ≤ U ∧ U < Y
  d : 0 ≤ u ∧ u < 4294967296
theorem Dig.lt {Y yn1 yn0 U u : Int} (h : Dig Y yn1 yn0 U u) : 0 ≤ (U * 4294967296 + u) / Y ∧ (U * 4294967296 + u) / Y < 4294967296 := by
  obtain ⟨y, a, b, u0, d⟩ := h
  constructor
  · exact Int.ediv_nonneg (by omega) (by omega)
  · refine Int.ediv_lt_of_lt_mul (by omega) ?_
    omega
theorem Dig.down {Y yn1 yn0 U u q rh : Int} (h : Dig Y yn1 yn0 U u) (e : q * yn1 + rh = U) (c : 4294967296 * rh + u < q * yn0) : (U * 4294967296 + u) / Y ≤ q - 1 := by
  obtain ⟨y, a, b, u0, d⟩ := h
  have : (U * 4294967296 + u) / Y < q := by
    refine Int.ediv_lt_of_lt_mul (by omega) ?_
    have e2 : q * Y = (q * yn1) * 4294967296 + q * yn0 := by rw [y]; grind
    omega
  omega
theorem Dig.stay {Y yn1 yn0 U u q rh : Int} (h : Dig Y yn1 yn0 U u) (e : q * yn1 + rh = U) (c : q * yn0 ≤ 4294967296 * rh + u) (l : (U * 4294967296 + u) / Y ≤ q) : q = (U * 4294967296 + u) / Y := by
  obtain ⟨y, a, b, u0, d⟩ := h
  have : q ≤ (U * 4294967296 + u) / Y := by
    refine (Int.le_ediv_iff_mul_le (by omega)).2 ?_
    have e2 : q * Y = (q * yn1) * 4294967296 + q * yn0 := by rw [y]; grind
    omega
  omega
theorem Dig.out {Y yn1 yn0 U u q rh : Int} (h : Dig Y yn1 yn0 U u) (e : q * yn1 + rh = U) (q0 : 0 ≤ q) (c : 4294967296 ≤ rh) (l : (U * 4294967296 + u) / Y ≤ q) : q = (U * 4294967296 + u) / Y := by
  have h' := h
  obtain ⟨y, a, b, u0, d⟩ := h
  refine h'.stay e ?_ l
  have q1 : q ≤ 4294967295 := by
    rcases Int.lt_or_le q 4294967296 with k | k
    · omega
    · exfalso
      have := Int.mul_le_mul_of_nonneg_right k (show 0 ≤ yn1 by omega)
      omega
  have := Int.mul_le_mul q1 (show yn0 ≤ 4294967295 by omega) b.1 (by omega)
  omega
theorem div_l0 {ρ : Type} (Y s yn1 yn0 U u u0 : Int) (h : Dig Y yn1 yn0 U u) (k : _ → Option ρ) (r : Option ρ)
    (h1 : ∀ rh a b c d, k (Sum.inl (Y, s, yn1, yn0, U, u, u0, (U * 4294967296 + u) / Y, rh, a, b, c, d)) = r)
    (h2 : ∀ rh a b c d e f g i, k (Sum.inr (Sum.inl (Y, s, yn1, yn0, U, u, u0, (U * 4294967296 + u) / Y, rh, a, b, c, d, e, f, g, i))) = r)
    (h3 : ∀ rh a b c d e, k (Sum.inr (Sum.inr (Y, s, yn1, yn0, U, u, u0, (U * 4294967296 + u) / Y, rh, a, b, c, d, e))) = r) :
    L_math_bits_Div64_0 (Y, s, yn1, yn0, U, u, u0, U / yn1, U % yn1) k = r := by
  have h' := h
  obtain ⟨y, a, b, hu, d⟩ := h
  have lt := h'.lt
  have qm := Int.mul_ediv_add_emod U yn1
  have m0 := Int.emod_nonneg U (show yn1 ≠ 0 by omega)
  have m1 := Int.emod_lt_of_pos U (show 0 < yn1 by omega)
  have qn := Int.ediv_nonneg hu.1 (show 0 ≤ yn1 by omega)
  have start : (U * 4294967296 + u) / Y ≤ U / yn1 := by
    have e2 : (U * 4294967296 + u) / Y < U / yn1 + 1 := by
      refine Int.ediv_lt_of_lt_mul (by omega) ?_
      have e3 : (U / yn1 + 1) * Y = (yn1 * (U / yn1)) * 4294967296 + yn1 * 4294967296 + (U / yn1 + 1) * yn0 := by rw [y]; grind
      have := Int.mul_nonneg (show 0 ≤ U / yn1 + 1 by omega) b.1
      omega
    omega
  unfold L_math_bits_Div64_0
  refine loopK_inv (fun t x => ∃ (q rh : Int), 0 ≤ q ∧ q * yn1 + rh = U ∧ (U * 4294967296 + u) / Y ≤ q ∧ (2 - (t : Int)) * 2147483648 ≤ rh ∧ 0 ≤ rh ∧ rh < 4294967296 ∧ x = (Y, s, yn1, yn0, U, u, u0, q, rh)) ?_ 200 2 _ (by omega)
    ⟨U / yn1, U % yn1, qn, by rw [Int.mul_comm]; exact qm, start, by omega, m0, by omega, rfl⟩
  rintro t _ c ⟨q, rh, q0, e, l, tb, r0, r1, rfl⟩ hc
  have down : (U * 4294967296 + u) / Y ≤ q - 1 → 0 ≤ q - 1 → (q - 1) * yn1 + (rh + yn1) = U := fun _ _ => by
    have : (q - 1) * yn1 = q * yn1 - yn1 := by grind
    omega
  have qb : q ≤ 4294967298 := by
    rcases Int.lt_or_le q 4294967298 with k | k
    · omega
    · exfalso
      have := Int.mul_le_mul_of_nonneg_right k (show 0 ≤ yn1 by omega)
      omega
  have w1 : IntKind.wrap .u64 (rh + yn1) = rh + yn1 := by rw [wrap_u64]; omega
  by_cases c1 : q ≥ 4294967296
  · have d1 : (U * 4294967296 + u) / Y ≤ q - 1 := by omega
    have w2 : IntKind.wrap .u64 (q - 1) = q - 1 := by rw [wrap_u64]; omega
    have e2 := down d1 (by omega)
    simp only [S_math_bits_Div64_0, decide_eq_true c1, cond_true, w1, w2]
    by_cases c2 : rh + yn1 ≥ 4294967296
    · rw [decide_eq_true c2, cond_true, h'.out e2 (by omega) c2 d1]
      exact h1 _ _ _ _ _
    · rw [decide_eq_false c2, cond_false]
      have t1 : 1 ≤ t := by omega
      exact hc (t - 1) _ (by omega) ⟨q - 1, rh + yn1, by omega, e2, d1, by omega, by omega, by omega, rfl⟩
  · have pm : 0 ≤ q * yn0 ∧ q * yn0 < 18446744073709551616 := by
      refine ⟨Int.mul_nonneg q0 b.1, ?_⟩
      have := Int.mul_le_mul (show q ≤ 4294967295 by omega) (show yn0 ≤ 4294967295 by omega) b.1 (by omega)
      omega
    have w3 : IntKind.wrap .u64 (q * yn0) = q * yn0 := by rw [wrap_u64]; omega
    have w4 : IntKind.wrap .u64 (4294967296 * rh) = 4294967296 * rh := by rw [wrap_u64]; omega
    have w5 : IntKind.wrap .u64 (4294967296 * rh + u) = 4294967296 * rh + u := by rw [wrap_u64]; omega
    simp only [S_math_bits_Div64_0, decide_eq_false c1, cond_false, w1, w3, w4, w5]
    by_cases c3 : q * yn0 > 4294967296 * rh + u
    · have d1 := h'.down e c3
      have qp : 1 ≤ q := by
        rcases Int.lt_or_le 0 q with k | k
        · omega
        · exfalso
          have : q = 0 := by omega
          subst this
          omega
      have w2 : IntKind.wrap .u64 (q - 1) = q - 1 := by rw [wrap_u64]; omega
      have e2 := down d1 (by omega)
      rw [decide_eq_true c3, cond_true, w2]
      by_cases c2 : rh + yn1 ≥ 4294967296
      · rw [decide_eq_true c2, cond_true, h'.out e2 (by omega) c2 d1]
        exact h2 _ _ _ _ _ _ _ _ _
      · rw [decide_eq_false c2, cond_false]
        exact hc (t - 1) _ (by omega) ⟨q - 1, rh + yn1, by omega, e2, d1, by omega, by omega, by omega, rfl⟩
    · rw [decide_eq_false c3, cond_false, h'.stay e (by omega) l]
      exact h3 _ _ _ _ _ _
theorem div_l1 {ρ : Type} (Y s yn1 yn0 U u q1 : Int) (h : Dig Y yn1 yn0 U u) (k : _ → Option ρ) (r : Option ρ)
    (h1 : ∀ rh a b c d, k (Sum.inl (Y, s, yn1, yn0, u, q1, rh, U, (U * 4294967296 + u) / Y, a, b, c, d)) = r)
    (h2 : ∀ rh a b c d e f g i, k (Sum.inr (Sum.inl (Y, s, yn1, yn0, u, q1, rh, U, (U * 4294967296 + u) / Y, a, b, c, d, e, f, g, i))) = r)
    (h3 : ∀ rh a b c d e, k (Sum.inr (Sum.inr (Y, s, yn1, yn0, u, q1, rh, U, (U * 4294967296 + u) / Y, a, b, c, d, e))) = r) :
    L_math_bits_Div64_1 (Y, s, yn1, yn0, u, q1, U % yn1, U, U / yn1) k = r := by
  have h' := h
  obtain ⟨y, a, b, hu, d⟩ := h
  have lt := h'.lt
  have qm := Int.mul_ediv_add_emod U yn1
  have m0 := Int.emod_nonneg U (show yn1 ≠ 0 by omega)
  have m1 := Int.emod_lt_of_pos U (show 0 < yn1 by omega)
  have qn := Int.ediv_nonneg hu.1 (show 0 ≤ yn1 by omega)
  have start : (U * 4294967296 + u) / Y ≤ U / yn1 := by
    have e2 : (U * 4294967296 + u) / Y < U / yn1 + 1 := by
      refine Int.ediv_lt_of_lt_mul (by omega) ?_
      have e3 : (U / yn1 + 1) * Y = (yn1 * (U / yn1)) * 4294967296 + yn1 * 4294967296 + (U / yn1 + 1) * yn0 := by rw [y]; grind
      have := Int.mul_nonneg (show 0 ≤ U / yn1 + 1 by omega) b.1
      omega
    omega
  unfold L_math_bits_Div64_1
  refine loopK_inv (fun t x => ∃ (q rh : Int), 0 ≤ q ∧ q * yn1 + rh = U ∧ (U * 4294967296 + u) / Y ≤ q ∧ (2 - (t : Int)) * 2147483648 ≤ rh ∧ 0 ≤ rh ∧ rh < 4294967296 ∧ x = (Y, s, yn1, yn0, u, q1, rh, U, q)) ?_ 200 2 _ (by omega)
    ⟨U / yn1, U % yn1, qn, by rw [Int.mul_comm]; exact qm, start, by omega, m0, by omega, rfl⟩
  rintro t _ c ⟨q, rh, q0, e, l, tb, r0, r1, rfl⟩ hc
  have down : (U * 4294967296 + u) / Y ≤ q - 1 → 0 ≤ q - 1 → (q - 1) * yn1 + (rh + yn1) = U := fun _ _ => by
    have : (q - 1) * yn1 = q * yn1 - yn1 := by grind
    omega
  have qb : q ≤ 4294967298 := by
    rcases Int.lt_or_le q 4294967298 with k | k
    · omega
    · exfalso
      have := Int.mul_le_mul_of_nonneg_right k (show 0 ≤ yn1 by omega)
      omega
  have w1 : IntKind.wrap .u64 (rh + yn1) = rh + yn1 := by rw [wrap_u64]; omega
  by_cases c1 : q ≥ 4294967296
  · have d1 : (U * 4294967296 + u) / Y ≤ q - 1 := by omega
    have w2 : IntKind.wrap .u64 (q - 1) = q - 1 := by rw [wrap_u64]; omega
    have e2 := down d1 (by omega)
    simp only [S_math_bits_Div64_1, decide_eq_true c1, cond_true, w1, w2]
    by_cases c2 : rh + yn1 ≥ 4294967296
    · rw [decide_eq_true c2, cond_true, h'.out e2 (by omega) c2 d1]
      exact h1 _ _ _ _ _
    · rw [decide_eq_false c2, cond_false]
      have t1 : 1 ≤ t := by omega
      exact hc (t - 1) _ (by omega) ⟨q - 1, rh + yn1, by omega, e2, d1, by omega, by omega, by omega, rfl⟩
  · have pm : 0 ≤ q * yn0 ∧ q * yn0 < 18446744073709551616 := by
      refine ⟨Int.mul_nonneg q0 b.1, ?_⟩
      have := Int.mul_le_mul (show q ≤ 4294967295 by omega) (show yn0 ≤ 4294967295 by omega) b.1 (by omega)
      omega
    have w3 : IntKind.wrap .u64 (q * yn0) = q * yn0 := by rw [wrap_u64]; omega
    have w4 : IntKind.wrap .u64 (4294967296 * rh) = 4294967296 * rh := by rw [wrap_u64]; omega
    have w5 : IntKind.wrap .u64 (4294967296 * rh + u) = 4294967296 * rh + u := by rw [wrap_u64]; omega
    simp only [S_math_bits_Div64_1, decide_eq_false c1, cond_false, w1, w3, w4, w5]
    by_cases c3 : q * yn0 > 4294967296 * rh + u
    · have d1 := h'.down e c3
      have qp : 1 ≤ q := by
        rcases Int.lt_or_le 0 q with k | k
        · omega
        · exfalso
          have : q = 0 := by omega
          subst this
          omega
      have w2 : IntKind.wrap .u64 (q - 1) = q - 1 := by rw [wrap_u64]; omega
      have e2 := down d1 (by omega)
      rw [decide_eq_true c3, cond_true, w2]
      by_cases c2 : rh + yn1 ≥ 4294967296
      · rw [decide_eq_true c2, cond_true, h'.out e2 (by omega) c2 d1]
        exact h2 _ _ _ _ _ _ _ _ _
      · rw [decide_eq_false c2, cond_false]
        exact hc (t - 1) _ (by omega) ⟨q - 1, rh + yn1, by omega, e2, d1, by omega, by omega, by omega, rfl⟩
    · rw [decide_eq_false c3, cond_false, h'.stay e (by omega) l]
      exact h3 _ _ _ _ _ _
/-- the quotient and the rest -/
theorem div64_eq (hi lo y : Int) (h0 : 0 ≤ hi) (h1 : hi < y) (h2 : y < 18446744073709551616) (l0 : 0 ≤ lo) (l1 : lo < 18446744073709551616) :
    f_math_bits_Div64 hi lo y = some ((hi * 18446744073709551616 + lo) / y, (hi * 18446744073709551616 + lo) % y) := by
  unfold f_math_bits_Div64 K_math_bits_Div64
  have y0 : (y == 0) = false := by rw [beq_eq_false_iff_ne]; omega
  rw [y0, cond_false, decide_eq_false (show ¬ y ≤ hi by omega), cond_false]
  by_cases hz : hi = 0
  · subst hz
    have z : ((0 : Int) == 0) = true := rfl
    have yn : (!decide (y = 0)) = true := by rw [decide_eq_false (by omega)]; rfl
    rw [z, cond_true, yn, cond_true, cond_true, Int.zero_mul, Int.zero_add, Int.tdiv_eq_ediv_of_nonneg l0, Int.tmod_eq_emod_of_nonneg l0]
    have d0 := Int.ediv_nonneg l0 (show 0 ≤ y by omega)
    have d1 := Int.ediv_le_self y l0
    have w : IntKind.wrap .u64 (lo / y) = lo / y := by rw [wrap_u64]; omega
    rw [w]
  have z : (hi == 0) = false := by rw [beq_eq_false_iff_ne]; exact hz
  rw [z, cond_false]
  obtain ⟨s, s63, b0, b1, e⟩ := lead_64 y (by omega) h2
  rw [e, Option.bind_some]
  have P0 := pow_pos' s
  have Q0 := pow_pos' (64 - s)
  have k1 : IntKind.wrap .u64 (s : Int) = (s : Int) := by rw [wrap_u64]; omega
  have k2 : IntKind.wrap .u64 (64 - (s : Int)) = ((64 - s : Nat) : Int) := by rw [wrap_u64]; omega
  have k3 : ∀ n : Nat, (!decide ((n : Int) < 0)) = true := fun n => by rw [decide_eq_false (by omega)]; rfl
  have k4 : min (Int.toNat (s : Int)) 64 = s := by rw [Int.toNat_natCast]; omega
  have k5 : min (Int.toNat ((64 - s : Nat) : Int)) 64 = 64 - s := by rw [Int.toNat_natCast]; omega
  have k6 : IntKind.wrap .u64 (y * 2 ^ s) = y * 2 ^ s := by rw [wrap_u64]; omega
  simp only [k1, k2, k3, k4, k5, k6, cond_true]
  have pq : (18446744073709551616 : Int) = 2 ^ s * 2 ^ (64 - s) := by
    rw [← pow_add', show s + (64 - s) = 64 by omega]; rfl
  have ab : hi * 2 ^ s + 2 ^ s ≤ y * 2 ^ s := by
    have := Int.mul_le_mul_of_nonneg_right (show hi + 1 ≤ y by omega) (Int.le_of_lt P0)
    rw [Int.add_mul] at this; omega
  have a0 : 0 ≤ hi * 2 ^ s := Int.mul_nonneg h0 (Int.le_of_lt P0)
  have x0 : 0 ≤ lo / 2 ^ (64 - s) := Int.ediv_nonneg l0 (Int.le_of_lt Q0)
  have x1 : lo / 2 ^ (64 - s) < 2 ^ s := Int.ediv_lt_of_lt_mul Q0 (by rw [← pq]; exact l1)
  have k7 : IntKind.wrap .u64 (hi * 2 ^ s) = hi * 2 ^ s := by rw [wrap_u64]; omega
  have or1 : Int.ofNat (BitVec.toNat (BitVec.ofInt 64 (hi * 2 ^ s) ||| BitVec.ofInt 64 (Int.fdiv lo (2 ^ (64 - s))))) = hi * 2 ^ s + lo / 2 ^ (64 - s) := by
    rw [fdiv_pos _ _ (Int.le_of_lt Q0), BitVec.or_comm, or_apart _ _ s x0 x1 a0 (by omega) (by omega) (Int.mul_emod_left _ _)]
    omega
  have k8 : IntKind.wrap .u64 (hi * 2 ^ s + lo / 2 ^ (64 - s)) = hi * 2 ^ s + lo / 2 ^ (64 - s) := by rw [wrap_u64]; omega
  simp only [k7, or1, k8]
  rw [wrap_u64 (lo * 2 ^ s)]
  have c0 : 0 ≤ lo * 2 ^ s % 18446744073709551616 ∧ lo * 2 ^ s % 18446744073709551616 < 18446744073709551616 := by omega
  have N : (hi * 2 ^ s + lo / 2 ^ (64 - s)) * 18446744073709551616 + lo * 2 ^ s % 18446744073709551616 = (hi * 18446744073709551616 + lo) * 2 ^ s := by
    have m1 : lo * 2 ^ s / 18446744073709551616 = lo / 2 ^ (64 - s) := by
      rw [pq, Int.mul_comm lo, Int.mul_ediv_mul_of_pos _ _ P0]
    have m2 : lo * 2 ^ s = lo * 2 ^ s / 18446744073709551616 * 18446744073709551616 + lo * 2 ^ s % 18446744073709551616 := by omega
    have m3 : (hi * 18446744073709551616 + lo) * 2 ^ s = hi * 2 ^ s * 18446744073709551616 + lo * 2 ^ s := by grind
    rw [m3, ← m1]; omega
  have U1 : 0 ≤ hi * 2 ^ s + lo / 2 ^ (64 - s) ∧ hi * 2 ^ s + lo / 2 ^ (64 - s) < y * 2 ^ s := by omega
  have am1 : ∀ x : Int, 0 ≤ x → x < 18446744073709551616 → IntKind.wrap .u64 (Int.ofNat (BitVec.toNat (BitVec.ofInt 64 x &&& BitVec.ofInt 64 4294967295))) = x % 4294967296 := fun x x0 x1 => by
    rw [and_mask x x0 x1, wrap_u64]; omega
  rw [am1 (y * 2 ^ s) (by omega) b1, am1 _ c0.1 c0.2]
  simp only [fdiv_pos _ 4294967296 (show (0 : Int) ≤ 4294967296 by decide)]
  -- the answer, of what was shifted
  have A1 : (hi * 18446744073709551616 + lo) / y = (hi * 18446744073709551616 + lo) * 2 ^ s / (y * 2 ^ s) := by
    rw [Int.mul_comm _ (2 ^ s), Int.mul_comm y, Int.mul_ediv_mul_of_pos _ _ P0]
  have A2 : (hi * 18446744073709551616 + lo) % y = (hi * 18446744073709551616 + lo) * 2 ^ s % (y * 2 ^ s) / 2 ^ s := by
    rw [Int.mul_comm _ (2 ^ s), Int.mul_comm y, Int.mul_emod_mul_of_pos _ _ P0, Int.mul_ediv_cancel_left _ (by omega)]
  rw [A1, A2, ← N]
  generalize hi * 2 ^ s + lo / 2 ^ (64 - s) = U at *
  generalize lo * 2 ^ s % 18446744073709551616 = L at *
  generalize hY : y * 2 ^ s = Y at *
  generalize h2s : (2 : Int) ^ s = P at *
  clear N A1 A2 or1 k7 k8 x0 x1 ab a0 pq k6 e
  have hY1 : 2147483648 ≤ Y / 4294967296 ∧ Y / 4294967296 < 4294967296 := by omega
  have g1 : Dig Y (Y / 4294967296) (Y % 4294967296) U (L / 4294967296) := ⟨by omega, hY1, by omega, U1, by omega⟩
  have yz : (!decide (Y / 4294967296 = 0)) = true := by rw [decide_eq_false (by omega)]; rfl
  have Q1 := g1.lt
  have R1 := Int.mul_ediv_add_emod (U * 4294967296 + L / 4294967296) Y
  have R1a := Int.emod_nonneg (U * 4294967296 + L / 4294967296) (show Y ≠ 0 by omega)
  have R1b := Int.emod_lt_of_pos (U * 4294967296 + L / 4294967296) (show 0 < Y by omega)
  have q0 : IntKind.wrap .u64 (Int.tdiv U (Y / 4294967296)) = U / (Y / 4294967296) := by
    rw [Int.tdiv_eq_ediv_of_nonneg U1.1, wrap_u64]
    have := Int.ediv_nonneg U1.1 (show 0 ≤ Y / 4294967296 by omega)
    have := Int.ediv_le_self (Y / 4294967296) U1.1
    omega
  have r0 : IntKind.wrap .u64 (U - IntKind.wrap .u64 (U / (Y / 4294967296) * (Y / 4294967296))) = U % (Y / 4294967296) := by
    have qm := Int.ediv_mul_add_emod U (Y / 4294967296)
    have m0 := Int.emod_nonneg U (show Y / 4294967296 ≠ 0 by omega)
    have m1 := Int.emod_lt_of_pos U (show 0 < Y / 4294967296 by omega)
    rw [wrap_u64, wrap_u64]
    generalize U / (Y / 4294967296) * (Y / 4294967296) = A at *
    omega
  simp only [yz, cond_true, q0, r0]
  -- the second digit
  generalize hQ1 : (U * 4294967296 + L / 4294967296) / Y = q1 at *
  generalize hR1 : (U * 4294967296 + L / 4294967296) % Y = R at *
  have g2 : Dig Y (Y / 4294967296) (Y % 4294967296) R (L % 4294967296) := ⟨by omega, hY1, by omega, ⟨R1a, R1b⟩, by omega⟩
  have Q2 := g2.lt
  have R2 := Int.mul_ediv_add_emod (R * 4294967296 + L % 4294967296) Y
  have R2a := Int.emod_nonneg (R * 4294967296 + L % 4294967296) (show Y ≠ 0 by omega)
  have R2b := Int.emod_lt_of_pos (R * 4294967296 + L % 4294967296) (show 0 < Y by omega)
  generalize hQ2 : (R * 4294967296 + L % 4294967296) / Y = q2 at *
  generalize hR2 : (R * 4294967296 + L % 4294967296) % Y = R' at *
  have un : IntKind.wrap .u64 (IntKind.wrap .u64 (IntKind.wrap .u64 (U * 4294967296) + L / 4294967296) - IntKind.wrap .u64 (q1 * Y)) = R := by
    rw [Int.mul_comm q1 Y]
    simp only [wrap_u64]
    generalize Y * q1 = A at *
    omega
  have q3 : IntKind.wrap .u64 (Int.tdiv R (Y / 4294967296)) = R / (Y / 4294967296) := by
    rw [Int.tdiv_eq_ediv_of_nonneg R1a, wrap_u64]
    have := Int.ediv_nonneg R1a (show 0 ≤ Y / 4294967296 by omega)
    have := Int.ediv_le_self (Y / 4294967296) R1a
    omega
  have r3 : IntKind.wrap .u64 (R - IntKind.wrap .u64 (R / (Y / 4294967296) * (Y / 4294967296))) = R % (Y / 4294967296) := by
    have qm := Int.ediv_mul_add_emod R (Y / 4294967296)
    have m0 := Int.emod_nonneg R (show Y / 4294967296 ≠ 0 by omega)
    have m1 := Int.emod_lt_of_pos R (show 0 < Y / 4294967296 by omega)
    rw [wrap_u64, wrap_u64]
    generalize R / (Y / 4294967296) * (Y / 4294967296) = A at *
    omega
  have un2 : IntKind.wrap .u64 (IntKind.wrap .u64 (IntKind.wrap .u64 (R * 4294967296) + L % 4294967296) - IntKind.wrap .u64 (q2 * Y)) = R' := by
    rw [Int.mul_comm q2 Y]
    simp only [wrap_u64]
    generalize Y * q2 = A at *
    omega
  have quo : IntKind.wrap .u64 (IntKind.wrap .u64 (q1 * 4294967296) + q2) = q1 * 4294967296 + q2 := by
    simp only [wrap_u64]; omega
  have ans : (U * 18446744073709551616 + L) / Y = q1 * 4294967296 + q2 ∧ (U * 18446744073709551616 + L) % Y = R' := by
    have e : U * 18446744073709551616 + L = R' + Y * (q1 * 4294967296 + q2) := by
      have e2 : Y * (q1 * 4294967296 + q2) = Y * q1 * 4294967296 + Y * q2 := by grind
      rw [e2]; omega
    rw [e]
    constructor
    · rw [Int.add_mul_ediv_left _ _ (by omega), Int.ediv_eq_zero_of_lt R2a R2b, Int.zero_add]
    · rw [Int.add_mul_emod_self_left, Int.emod_eq_of_lt R2a R2b]
  rw [ans.1, ans.2]
  refine div_l0 Y s _ _ U _ _ g1 _ _ ?_ ?_ ?_
  all_goals
    intros
    simp only [Sum.elim_inl, Sum.elim_inr, hQ1, yz, cond_true, un, q3, r3]
    refine div_l1 Y s _ _ R _ _ g2 _ _ ?_ ?_ ?_
    all_goals
      intros
      simp only [Sum.elim_inl, Sum.elim_inr, hQ2, k3, cond_true, un2, quo, k4, h2s]
      rw [fdiv_pos _ _ (Int.le_of_lt P0)]
end Go.Proofs.Ytcalippagaaikaa
end
/-
  Quotients of 128 bits, rounded, and clamped, in plain arithmetic.
-/
section
set_option maxRecDepth 100000
set_option maxHeartbeats 4000000
set_option linter.unusedVariables false
set_option linter.unusedSimpArgs false
namespace Go.Proofs.Ytcalippagaaikaa
open Go.Ab
def mgq (x : Int) : Int := if x < 0 then -x else x
theorem mgq_nn (x : Int) : 0 ≤ mgq x := by unfold mgq; split <;> omega
/-- a quotient, rounded: of two the one farther from 0 -/
def qdq (V D : Int) : Int := V / D + (if 2 * (V % D) < D then 0 else 1)
def rdq (a d : Int) : Int := if (decide (a < 0)) = (decide (d < 0)) then qdq (mgq a) (mgq d) else -qdq (mgq a) (mgq d)
theorem wide_quo (h l d : Int) (o : okW h l) (d0 : -9223372036854775808 ≤ d) (d1 : d ≤ 9223372036854775807) (nz : d ≠ 0) :
    f_wide_Div h l d = if -9223372036854775808 ≤ rdq (vW h l) d ∧ rdq (vW h l) d ≤ 9223372036854775807 then some (rdq (vW h l) d, true) else some (0, false) := by
  unfold f_wide_Div K_wide_Div
  have z : (d == 0) = false := by rw [beq_eq_false_iff_ne]; exact nz
  obtain ⟨ah, al, e1, a0, a1, a2, a3, a4⟩ := wide_abs h l o
  have e2 := abs64_eq d d0 d1
  rw [z, cond_false, e1, Option.bind_some, e2, Option.bind_some]
  simp only
  have D0 : 0 < mgq d := by unfold mgq; split <;> omega
  have D1 : mgq d ≤ 9223372036854775808 := by unfold mgq; split <;> omega
  have ed : (if d < 0 then -d else d) = mgq d := rfl
  have va : ah * 18446744073709551616 + al = mgq (vW h l) := by
    rw [a4]
    obtain ⟨o1, o2, o3, o4⟩ := o
    unfold mgq
    simp only [vW]
    split <;> split <;> omega
  have sn : decide (h < 0) = decide (vW h l < 0) := by
    obtain ⟨o1, o2, o3, o4⟩ := o
    simp only [vW]
    by_cases c : h < 0
    · rw [decide_eq_true c, decide_eq_true (by omega)]
    · rw [decide_eq_false c, decide_eq_false (by omega)]
  rw [ed, sn]
  generalize vW h l = V at *
  have nz2 : (!decide (mgq d = 0)) = true := by rw [decide_eq_false (by omega)]; rfl
  have r0 := Int.emod_nonneg ah (show mgq d ≠ 0 by omega)
  have r1 := Int.emod_lt_of_pos ah D0
  have q0 := Int.ediv_nonneg a0 (Int.le_of_lt D0)
  have q1 := Int.ediv_le_self (mgq d) a0
  have qe := Int.mul_ediv_add_emod ah (mgq d)
  have dv := div64_eq (ah % mgq d) al (mgq d) r0 r1 (by omega) a2 a3
  rw [nz2, cond_true, cond_true, Int.tmod_eq_emod_of_nonneg a0, dv, Option.bind_some, Int.tdiv_eq_ediv_of_nonneg a0]
  simp only
  have w1 : IntKind.wrap .u64 (ah / mgq d) = ah / mgq d := by rw [wrap_u64]; omega
  -- the quotient of the whole
  have E : mgq V = (ah % mgq d * 18446744073709551616 + al) + mgq d * (ah / mgq d * 18446744073709551616) := by
    rw [← va]
    have : mgq d * (ah / mgq d * 18446744073709551616) = mgq d * (ah / mgq d) * 18446744073709551616 := by grind
    rw [this]; omega
  have Q : mgq V / mgq d = (ah % mgq d * 18446744073709551616 + al) / mgq d + ah / mgq d * 18446744073709551616 := by
    rw [E, Int.add_mul_ediv_left _ _ (by omega)]
  have R : mgq V % mgq d = (ah % mgq d * 18446744073709551616 + al) % mgq d := by rw [E, Int.add_mul_emod_self_left]
  have n0 : 0 ≤ (ah % mgq d * 18446744073709551616 + al) / mgq d := Int.ediv_nonneg (by omega) (Int.le_of_lt D0)
  have n1 : (ah % mgq d * 18446744073709551616 + al) / mgq d < 18446744073709551616 := by
    refine Int.ediv_lt_of_lt_mul D0 ?_
    omega
  have t0 := Int.emod_nonneg (ah % mgq d * 18446744073709551616 + al) (show mgq d ≠ 0 by omega)
  have t1 := Int.emod_lt_of_pos (ah % mgq d * 18446744073709551616 + al) D0
  rw [← R] at t0 t1 ⊢
  have w2 : IntKind.wrap .u64 (mgq d - mgq V % mgq d) = mgq d - mgq V % mgq d := by rw [wrap_u64]; omega
  rw [w1, w2]
  have sgn : (!decide (V < 0) == decide (d < 0)) = !decide ((decide (V < 0)) = (decide (d < 0))) := by
    cases decide (V < 0) <;> cases decide (d < 0) <;> rfl
  have qn : 0 ≤ qdq (mgq V) (mgq d) := by
    have := mgq_nn V
    have := Int.ediv_nonneg this (Int.le_of_lt D0)
    unfold qdq; split <;> omega
  have fin : ∀ u v : Int, 0 ≤ u → 0 ≤ v → v < 18446744073709551616 → u * 18446744073709551616 + v = qdq (mgq V) (mgq d) →
      (Option.bind (f_wide_signed64 u v (!decide (V < 0) == decide (d < 0))) fun (d : Int × Bool) => some (d.1, d.2)) = if -9223372036854775808 ≤ rdq V d ∧ rdq V d ≤ 9223372036854775807 then some (rdq V d, true) else some (0, false) := by
    intro u v u0 v0 v1 e
    rw [wide_signed64 u v _ u0 v0 v1, e, sgn]
    unfold rdq
    generalize qdq (mgq V) (mgq d) = q at *
    by_cases s : (decide (V < 0)) = (decide (d < 0))
    · rw [if_pos s, decide_eq_true s]
      simp only [Bool.not_true, Bool.false_eq_true, if_false]
      by_cases c : q ≤ 9223372036854775807
      · rw [if_pos c, if_pos (by omega), Option.bind_some]
        have uz : u = 0 := by omega
        subst uz
        have : v = q := by omega
        rw [this]
      · rw [if_neg c, if_neg (by omega), Option.bind_some]
    · rw [if_neg s, decide_eq_false s]
      simp only [Bool.not_false, if_true]
      by_cases c : q ≤ 9223372036854775808
      · rw [if_pos c, if_pos (by omega), Option.bind_some]
        have uz : u = 0 := by omega
        subst uz
        have : v = q := by omega
        rw [this]
      · rw [if_neg c, if_neg (by omega), Option.bind_some]
  by_cases c : mgq V % mgq d ≥ mgq d - mgq V % mgq d
  · rw [decide_eq_true c, cond_true]
    obtain ⟨u, v, e3, u0, u1, v0, v1, e4⟩ := big_plus' (ah / mgq d) ((ah % mgq d * 18446744073709551616 + al) / mgq d) 0 1 q0 n0 (by omega) (by omega) n1 (by omega) (by omega)
    rw [e3, Option.bind_some]
    simp only
    refine fin u v u0 v0 v1 ?_
    rw [e4]; unfold qdq
    rw [if_neg (by omega), Q]; omega
  · rw [decide_eq_false c, cond_false]
    refine fin _ _ q0 n0 n1 ?_
    unfold qdq
    rw [if_pos (by omega), Q]; omega
theorem rdq_sign (a d : Int) (nz : d ≠ 0) : ((decide (a < 0)) = (decide (d < 0)) → 0 ≤ rdq a d) ∧ (¬ (decide (a < 0)) = (decide (d < 0)) → rdq a d ≤ 0) := by
  have D0 : 0 < mgq d := by unfold mgq; split <;> omega
  have q := Int.ediv_nonneg (mgq_nn a) (Int.le_of_lt D0)
  have qn : 0 ≤ qdq (mgq a) (mgq d) := by unfold qdq; split <;> omega
  unfold rdq
  constructor
  · intro h; rw [if_pos h]; exact qn
  · intro h; rw [if_neg h]; omega
theorem acc_by (h l d : Int) (hit : Bool) (o : okW h l) (d0 : -9223372036854775808 ≤ d) (d1 : d ≤ 9223372036854775807) (nz : d ≠ 0) :
    f___fx_Acc__by h l d hit = some (sat (rdq (vW h l) d), hit || over (rdq (vW h l) d)) := by
  unfold f___fx_Acc__by K___fx_Acc__by
  have z : (d == 0) = false := by rw [beq_eq_false_iff_ne]; exact nz
  have sn : decide (h < 0) = decide (vW h l < 0) := by
    obtain ⟨o1, o2, o3, o4⟩ := o
    simp only [vW]
    by_cases c : h < 0
    · rw [decide_eq_true c, decide_eq_true (by omega)]
    · rw [decide_eq_false c, decide_eq_false (by omega)]
  rw [z, cond_false, wide_quo h l d o d0 d1 nz, sn]
  have s := rdq_sign (vW h l) d nz
  generalize vW h l = V at *
  by_cases c : -9223372036854775808 ≤ rdq V d ∧ rdq V d ≤ 9223372036854775807
  · rw [if_pos c, Option.bind_some]
    simp only [acc_end, if_true, Option.bind_some]
  · rw [if_neg c, Option.bind_some]
    simp only [acc_end, Bool.false_eq_true, if_false, Option.bind_some]
    by_cases e : (decide (V < 0)) = (decide (d < 0))
    · have p := s.1 e
      have e2 : (!decide (V < 0) == decide (d < 0)) = false := by rw [e, beq_self_eq_true]; rfl
      rw [e2]
      unfold sat over
      rw [if_neg (by decide), if_neg (by omega), if_pos (by omega), decide_eq_true (show 1152921504606846976 < rdq V d by omega), Bool.or_true, Bool.or_true]
    · have p := s.2 e
      have e2 : (!decide (V < 0) == decide (d < 0)) = true := by
        have : (decide (V < 0) == decide (d < 0)) = false := by rw [beq_eq_false_iff_ne]; exact e
        rw [this]; rfl
      rw [e2]
      unfold sat over
      rw [if_pos rfl, if_pos (by omega), decide_eq_true (show rdq V d < -1152921504606846976 by omega), Bool.true_or, Bool.or_true]
theorem acc_muldiv (a b d : Int) (hit : Bool) (nz : sat d ≠ 0) :
    f___fx_Acc__MulDiv a b d hit = some (sat (rdq (sat a * sat b) (sat d)), ((((hit || over a) || over b) || over d) || over (rdq (sat a * sat b) (sat d)))) := by
  unfold f___fx_Acc__MulDiv K___fx_Acc__MulDiv
  have := sat_le a
  have := sat_le b
  have := sat_le d
  obtain ⟨h, l, e1, e2, e3⟩ := wide_mul (sat a) (sat b) (by omega) (by omega) (by omega) (by omega)
  simp only [acc_sat, Option.bind_some, e1, acc_by h l (sat d) _ e2 (by omega) (by omega) nz, e3]
theorem acc_div (a b : Int) (s : Nat) (hit : Bool) (hs : s ≤ 66) (nz : sat b ≠ 0) :
    f___fx_Acc__Div a b (Int.ofNat s) hit = some (sat (rdq (sat a * 2 ^ s) (sat b)), (((hit || over a) || over b) || over (rdq (sat a * 2 ^ s) (sat b)))) := by
  unfold f___fx_Acc__Div K___fx_Acc__Div
  have ha := sat_le a
  have hb := sat_le b
  have P0 := pow_pos' s
  have PB : (2 : Int) ^ s ≤ 2 ^ 66 := pow_le_pow hs
  have PV : (2 : Int) ^ 66 = 73786976294838206464 := by decide
  have m1 : sat a * 2 ^ s ≤ 1152921504606846976 * 73786976294838206464 := by
    rcases Int.le_total 0 (sat a) with c | c
    · exact Int.mul_le_mul ha.2 (by omega) (Int.le_of_lt P0) (by omega)
    · have := mul_nn (a := -sat a) (b := 2 ^ s) (by omega) (Int.le_of_lt P0)
      rw [Int.neg_mul] at this; omega
  have m2 : -(1152921504606846976 * 73786976294838206464) ≤ sat a * 2 ^ s := by
    rcases Int.le_total 0 (sat a) with c | c
    · have := mul_nn c (Int.le_of_lt P0); omega
    · have := Int.mul_le_mul (show -sat a ≤ 1152921504606846976 by omega) (show (2 : Int) ^ s ≤ 73786976294838206464 by omega) (Int.le_of_lt P0) (by omega)
      rw [Int.neg_mul] at this; omega
  have mv : (1152921504606846976 : Int) * 73786976294838206464 = 85070591730234615865843651857942052864 := by decide
  obtain ⟨h, l, b', e1, o1, f1, v1, _⟩ := wide_shift (sat a) s (by omega) (by omega) (by omega)
  have bt : b' = true := f1.2 ⟨by omega, by omega⟩
  subst bt
  have n0 : decide (Int.ofNat s < 0) = false := by simp
  have n1 : decide (Int.ofNat s > 66) = false := by simp only [Int.ofNat_eq_natCast]; exact decide_eq_false (by omega)
  simp only [acc_sat, Option.bind_some, n0, n1, cond_false, e1, acc_by h l (sat b) _ o1 (by omega) (by omega) nz, v1 rfl]
/-- a part of a whole: all of it, none of it -/
theorem rdq_all (x d : Int) (h : 0 < d) : rdq (x * d) d = x := by
  have D : mgq d = d := by unfold mgq; rw [if_neg (by omega)]
  unfold rdq qdq
  rw [D]
  rcases Int.lt_or_le x 0 with c | c
  · have n : x * d < 0 := by
      have := Int.mul_pos (show 0 < -x by omega) h
      rw [Int.neg_mul] at this; omega
    have m : mgq (x * d) = -x * d := by unfold mgq; rw [if_pos n, Int.neg_mul]
    rw [decide_eq_true n, decide_eq_false (show ¬ d < 0 by omega), if_neg (by decide), m, Int.mul_ediv_cancel _ (by omega), Int.mul_emod_left, if_pos (by omega)]
    omega
  · have n : ¬ x * d < 0 := by have := Int.mul_nonneg c (Int.le_of_lt h); omega
    have m : mgq (x * d) = x * d := by unfold mgq; rw [if_neg n]
    rw [decide_eq_false n, decide_eq_false (show ¬ d < 0 by omega), if_pos rfl, m, Int.mul_ediv_cancel _ (by omega), Int.mul_emod_left, if_pos (by omega)]
    omega
theorem rdq_none (d : Int) (h : 0 < d) : rdq 0 d = 0 := by
  have := rdq_all 0 d h
  rw [Int.zero_mul] at this; exact this
end Go.Proofs.Ytcalippagaaikaa
end
/-
  Sums of clamped scalars in plain arithmetic.
-/
section
set_option maxRecDepth 100000
set_option maxHeartbeats 4000000
set_option linter.unusedVariables false
set_option linter.unusedSimpArgs false
namespace Go.Proofs.Ytcalippagaaikaa
open Go.Ab
theorem wide_Add2 (f g : Nat → Int) (w : Bool) (o1 : okW (f 0) (g 0)) (o2 : okW (f 1) (g 1)) (r0 : -170141183460469231731687303715884105728 ≤ vW (f 0) (g 0) + vW (f 1) (g 1)) (r1 : vW (f 0) (g 0) + vW (f 1) (g 1) < 170141183460469231731687303715884105728) :
    ∃ h l, f_wide_Add 2 f g w = some (h, l, true) ∧ okW h l ∧ vW h l = vW (f 0) (g 0) + vW (f 1) (g 1) := by
  unfold f_wide_Add K_wide_Add L_wide_Add_0
  obtain ⟨h1, l1, b1, e1, a1, c1, d1⟩ := wide_add 0 0 (f 0) (g 0) ⟨by omega, by omega, by omega, by omega⟩ o1
  have t1 : b1 = true := by
    rw [c1]
    obtain ⟨p1, p2, p3, p4⟩ := o1
    simp only [vW]; omega
  subst t1
  have d1 := d1 rfl
  obtain ⟨h2, l2, b2, e2, a2, c2, d2⟩ := wide_add h1 l1 (f 1) (g 1) a1 o2
  have z : vW 0 0 = 0 := rfl
  have t2 : b2 = true := by rw [c2, d1, z]; omega
  subst t2
  have d2 := d2 rfl
  refine ⟨h2, l2, ?_, a2, by rw [d2, d1, z]; omega⟩
  have k0 : decide ((0 : Int) < Int.ofNat 2) = true := by decide
  have k1 : inR 0 2 = true := by decide
  have k2 : IntKind.wrap .i64 (0 + 1) = 1 := by decide
  have k3 : decide ((1 : Int) < Int.ofNat 2) = true := by decide
  have k4 : inR 1 2 = true := by decide
  have k5 : IntKind.wrap .i64 (1 + 1) = 2 := by decide
  have k6 : decide ((2 : Int) < Int.ofNat 2) = false := by decide
  have k7 : Int.toNat 0 = 0 := rfl
  have k8 : Int.toNat 1 = 1 := rfl
  rw [loopK_succ]
  simp only [S_wide_Add_0, k0, k1, k2, k7, cond_true, e1, Option.bind_some, Bool.not_true, cond_false]
  rw [loopK_succ]
  simp only [k3, k4, k5, k8, cond_true, e2, Option.bind_some, Bool.not_true, cond_false]
  rw [loopK_succ]
  simp only [k6, cond_false, Sum.elim_inr]
def sumF (f : Nat → Int) : Nat → Int
  | 0 => 0
  | n + 1 => sumF f n + f n
def anyF (f : Nat → Bool) : Nat → Bool
  | 0 => false
  | n + 1 => anyF f n || f n
theorem sumF_le (f : Nat → Int) (B : Int) (hB : 0 ≤ B) (n : Nat) (h : ∀ j, j < n → -B ≤ f j ∧ f j ≤ B) : -(n * B) ≤ sumF f n ∧ sumF f n ≤ n * B := by
  induction n with
  | zero => simp [sumF]
  | succ n ih =>
    have := ih fun j hj => h j (by omega)
    have h2 := h n (by omega)
    have e : ((n + 1 : Nat) : Int) * B = n * B + B := by rw [Int.natCast_add, Int.add_mul]; simp
    rw [e, sumF]
    omega
theorem rnd_zero (v : Int) : rnd v 0 = v := by
  unfold rnd half
  simp only [if_true, Int.add_zero]
  have : (2 : Int) ^ 0 = 1 := rfl
  rw [this, Int.ediv_one, Int.ediv_one]
  split <;> omega
theorem idx_lt {i n t : Nat} (h : i + t = n) (ht : 0 < t) : decide (Int.ofNat i < Int.ofNat n) = true := by simp only [Int.ofNat_eq_natCast]; exact decide_eq_true (by omega)
theorem idx_ge {i n : Nat} (h : n ≤ i) : decide (Int.ofNat i < Int.ofNat n) = false := by simp only [Int.ofNat_eq_natCast]; exact decide_eq_false (by omega)
theorem idx_in {i n : Nat} (h : i < n) : inR (Int.ofNat i) n = true := by unfold inR; simp only [Int.ofNat_eq_natCast, Bool.and_eq_true, decide_eq_true_eq]; omega
theorem idx_up {i : Nat} (h : i < 9000000000000000000) : IntKind.wrap .i64 (Int.ofNat i + 1) = Int.ofNat (i + 1) := (wrap_i64 (by simp only [Int.ofNat_eq_natCast]; omega) (by simp only [Int.ofNat_eq_natCast]; omega)).trans rfl
theorem acc_add (n : Nat) (hn : n ≤ 150) (hit : Bool) (l : Nat → Int) (w : Bool) :
    f___fx_Acc__Add n hit l w = some (sat (sumF (fun j => sat (l j)) n), (hit || anyF (fun j => over (l j)) n) || over (sumF (fun j => sat (l j)) n)) := by
  unfold f___fx_Acc__Add K___fx_Acc__Add L___fx_Acc__Add_0
  refine loopK_inv (fun t d => ∃ (i : Nat) (h l' : Int), i + t = n ∧ okW h l' ∧ vW h l' = sumF (fun j => sat (l j)) i ∧ d = (n, w, Int.ofNat n, Int.ofNat i, (hit || anyF (fun j => over (l j)) i), n, l, h, l')) ?_ 200 n _ (by omega)
    ⟨0, 0, 0, by omega, ⟨by omega, by omega, by omega, by omega⟩, rfl, by simp only [anyF, Bool.or_false]; rfl⟩
  rintro t _ c ⟨i, h, l', hi, ho, hv, rfl⟩ hc
  have bnd := sumF_le (fun j => sat (l j)) 1152921504606846976 (by omega) i (fun j _ => sat_le _)
  rcases Nat.eq_zero_or_pos t with t0 | t0
  · have e : i = n := by omega
    subst e
    have r := acc_round h l' 0
    have r2 := wide_round h l' 0 (by omega) ho
    rw [rnd_zero] at r2
    have r3 : Int.ofNat 0 = 0 := rfl
    rw [r3] at r2
    simp only [S___fx_Acc__Add_0, idx_ge (Nat.le_refl i), cond_false, r2]
    by_cases k : -9223372036854775808 ≤ vW h l' ∧ vW h l' ≤ 9223372036854775807
    · rw [if_pos k]
      simp only [if_true, Option.bind_some, acc_end, hv]
    · rw [if_neg k]
      simp only [Option.bind_some, acc_end, Bool.false_eq_true, if_false]
      rw [← hv]
      unfold sat over
      by_cases ng : h < 0
      · have c1 : vW h l' < -1152921504606846976 := by
          obtain ⟨o1, o2, o3, o4⟩ := ho
          simp only [vW] at *; omega
        simp [ng, c1]
      · have c1 : ¬ vW h l' < -1152921504606846976 := by
          obtain ⟨o1, o2, o3, o4⟩ := ho
          simp only [vW] at *; omega
        have c2 : 1152921504606846976 < vW h l' := by
          obtain ⟨o1, o2, o3, o4⟩ := ho
          simp only [vW] at *; omega
        simp [ng, c1, c2]
  · have hs := sat_le (l i)
    obtain ⟨h1, l1, e1, o1, v1⟩ := wide_of (sat (l i)) (by omega) (by omega)
    obtain ⟨h2, l2, e2, o2, v2⟩ := wide_Add2 (fun j : Nat => bif Nat.beq j 1 then h1 else bif Nat.beq j 0 then h else h) (fun j : Nat => bif Nat.beq j 1 then l1 else bif Nat.beq j 0 then l' else l') true
      ho o1 (by show _ ≤ vW h l' + vW h1 l1; rw [hv, v1]; omega) (by show vW h l' + vW h1 l1 < _; rw [hv, v1]; omega)
    have v2 : vW h2 l2 = vW h l' + vW h1 l1 := v2
    rw [hv, v1] at v2
    have q : Int.toNat (Int.ofNat i) = i := rfl
    simp only [S___fx_Acc__Add_0, idx_lt hi t0, idx_in (show i < n by omega), cond_true, q, acc_sat, Option.bind_some, e1, e2, idx_up (show i < 9000000000000000000 by omega)]
    refine hc (t - 1) _ (by omega) ⟨i + 1, h2, l2, by omega, o2, v2, ?_⟩
    simp only [anyF, Bool.or_assoc]
end Go.Proofs.Ytcalippagaaikaa
end
/-
  A root, clamped, in plain arithmetic.
-/
section
set_option maxRecDepth 100000
set_option maxHeartbeats 4000000
set_option linter.unusedVariables false
set_option linter.unusedSimpArgs false
namespace Go.Proofs.Ytcalippagaaikaa
open Go.Ab
theorem isR_ex (V : Int) (h : 0 ≤ V) : ∃ r, isR r V := by
  obtain ⟨q, q0, q1, q2⟩ := sqrt_exI V h
  have q3 : (q + 1) * (q + 1) = q * q + 2 * q + 1 := by grind
  by_cases c : q < V - q * q
  · exact ⟨q + 1, by omega, by omega, Or.inr (by omega)⟩
  · refine ⟨q, q0, by omega, ?_⟩
    rcases Int.lt_or_le 0 q with k | k
    · exact Or.inr (by omega)
    · exact Or.inl (by omega)
theorem root_end_eq (h l r : Int) (hit : Bool) (o : okW h l) (h0 : 0 ≤ h) (hr : isR r (vW h l)) : f_root_end h l hit = some (sat r, hit || over r) := by
  obtain ⟨r', e1, e2, e3⟩ := wide_root h l o h0
  have := isR_uniq hr e1
  subst this
  unfold f_root_end K_root_end
  rw [e3]
  by_cases c : r ≤ 9223372036854775807
  · rw [if_pos c, Option.bind_some]
    simp only [Bool.not_true, cond_false, acc_sat, Option.bind_some]
  · rw [if_neg c, Option.bind_some]
    simp only [Bool.not_false, cond_true, acc_sat, Option.bind_some]
    have a : sat r = sat 1152921504606846977 := by
      unfold sat
      rw [if_neg (by omega), if_pos (by omega), if_neg (by omega), if_pos (by omega)]
    have b : over r = over 1152921504606846977 := by
      unfold over
      rw [decide_eq_true (show 1152921504606846976 < r by omega), decide_eq_true (show (1152921504606846976 : Int) < 1152921504606846977 by omega), Bool.or_true, Bool.or_true]
    rw [a, b]
end Go.Proofs.Ytcalippagaaikaa
end
