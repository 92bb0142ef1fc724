/-
  Contracts by plain functions: state.unit, (*fx.Acc).Dot, rot.Of$1, rot.Of$2, state.Bounds$1, tri.variance, tri.Condition, tri.New, tri.place, tri.U, tri.Set, thornton.One, rot.Apply, rot.Back, health.New, output.New, ring.New, downs.New, mode.Good, mode.next, mode.sensor, mode.source, mode.Step, vec.Add, quat.Unit, thornton.rows, state.Att, state.turned, quat.Mul$1, rot.FromYaw, quat.Mul, rot.Of, state.Bounds, state.clamp, state.Keep, strap.Seconds, rot.Exp, strap.Split, strap.Step, rot.Tilt, thornton.Step, block.is, block.variance, block.Reset, jac.Noise, bierman.look, bierman.Innovation, wide.Cmp, fuse.Likely, bierman.Update, bierman.Gain, state.Add, fuse.One
-/
import Derived.Test.YtphkdkkbbfnkaaaGreatZA
import Derived.Test.YtphkdkkbbfnkaaaGreatQ1
set_option maxRecDepth 100000
set_option maxHeartbeats 4000000
set_option linter.unusedVariables false
noncomputable section
namespace Go.Proofs.YtphkdkkbbfnkaaaGreat
open Go.Ab Go.Ab.Pg
def Q2q0 := open Rq in (cl (so (cl (gl 24 (cl kci nil)) nil)) nil)
def Q2q1 := open Rq in (cl (aa (cl (gl 24 (cl kci nil)) nil)) nil)
def Q2q2 := open Rq in (cl (so (cl (gl 1152 (cl kci nil)) nil)) nil)
def Q2q3 := open Rq in (cl (aa (c gi (c gi (c gi (cl gi nil))))) nil)
def Q2q4 := open Rq in (so (cl (ga (pr (szs hole) (cl kci nil))) nil))
def Q2q5 := open Rq in (res (pr ai (pl (cl (chs (cl gb nil)) nil) nil)))
def Q2q7 := open Rq in (c (gl 276 (cl kci nil)) (cl (gl 24 (cl kci nil)) nil))
def Q2q8 := open Rq in (cl Q2q4 nil)
def Q2q9 := open Rq in (res (pl (aa (cl (gl 24 (cl kci nil)) nil)) (pu nil nil)))
def Q2q10 := open Rq in (res (pl (atup (c (rc ci) (cl (rc cb) nil))) (pu nil nil)))
def Q2q12 := open Rq in (aa Q2q7)
def Q2q13 := open Rq in (so Q2q7)
def Q2q15 := open Rq in (so (cl (ga (pr (szs hole) (c kci (c kci (cl kci nil))))) nil))
def Q2q16 := open Rq in (res (pr ai (pl (cu chk (cu chk (cl (chs (cl gb nil)) nil))) nil)))
def Q2q17 := open Rq in (cl Q2q13 nil)
def Q2q19 := open Rq in (res (pr (aa (c gi (c gi (cl gi nil)))) (pl (cl (chs (cl gb nil)) nil) nil)))
def Q2q20 := open Rq in (res (pr (aa (cl (gl 24 (cl kci nil)) nil)) (pl (cl (chs (cl gb nil)) nil) nil)))
def Q2q21 := open Rq in (c (so (cl (gl 24 (cl kci nil)) nil)) Q2q0)
def Q2q22 := open Rq in (ac (csl (pu (nat 1) (pu (ok' (nat 0)) (pl (szs hole) (pu (nat 2) (bool true)))))))
def Q2q24 := open Rq in (ac (csl (pu (nat 4) (pu (ok' (nat 0)) (pl (szs hole) (pu (nat 1) (bool true)))))))
def Q2q26 := open Rq in (res (pr (aa (c gi (c gi (c gi (cl gi nil))))) (pl (cl (chs (cl gb nil)) nil) nil)))
def Q2q27 := open Rq in (ac (csl (pu (nat 1) (pu (ok' (nat 0)) (pu (szl (nat 4)) (pu (nat 1) (bool true)))))))
def Q2q30 := open Rq in (cu (gc (cf (fi .i64 (int 0)))) (cu (gc (cf (fi .i64 (int 0)))) (cu (gc (cf (fi .i64 (int 0)))) nil)))
def Q2q31 := open Rq in (cl (aa (c gb (c gb (a 6 (c gb (c gb (c gb (c gb (c gb (cl gb nil)))))) (c gi (c gi (cl gi nil))))))) nil)
def Q2q32 := open Rq in (res (pr Q2q12 (pl (cl (chs (cl gb nil)) nil) nil)))
def Q2q33 := open Rq in (so Q2q30)
def Q2q34 := open Rq in (c Q2q13 (cl (so (cl (gl 48 (cl kci nil)) nil)) nil))
def Q2q36 := open Rq in (res (pr Q2q12 (pl (cl (chs (cl gb nil)) (cu chk nil)) nil)))
def Q2q37 := open Rq in (c (so (cl (gl 24 (cl kci nil)) nil)) Q2q21)
def Q2q39 := open Rq in (c Q2q13 Q2q17)
def Q2q41 := open Rq in (so (cu (gc (cf (fi .i64 (int 0)))) Q2q30))
def Q2q42 := open Rq in (cu Q2q33 (cl (so (c gi (c gi (cl gi nil)))) nil))
def Q2q44 := open Rq in (c Q2q13 (c Q2q13 (c (so (cl (gl 576 (cl kci nil)) nil)) Q2q0)))
def Q_BQ := (open Rq in (pl Q2q3 nil) : RA _)
def RR_BQ := (open Rq in (res (pl ab (pu nil nil))) : RE _)
abbrev D_BQ := RR_BQ.B
def R_BQ (d : D_BQ) : T := (fun d => .leaf (RR_BQ.em d)) d
abbrev G_BQ := Int → Int → Int → Int → Option D_BQ
def e_BQ (g : G_BQ) : Ct := (47, FC Q_BQ R_BQ (fun b => g b.1 b.2.1 b.2.2.1 b.2.2.2))
def QL_BQ_0 := (open Rq in (st (dp (us 1 (cu (app 0 4) (us 1 (c Q2q22 (us 6 (c (aa (c gi (c gi (c gi (cl gi nil))))) (cl ai (us 24 (xs 3 (us 2 (xs 3 (us 1 nil)))))))))))) fun a => (pl (c (so (c gi (c gi (c gi (cl gi nil))))) (cl (so (cl (gs a.1 (c kci (cl (ki .u64 hole) nil))) nil)) nil)) nil))) : RS _)
def Z_state_unit_0_0 := (open Rq in (st (pu (us 2 (cu (ac (cf (fb (bool false)))) (us 42 nil))) (pu nil nil))) : RS _)
def Z_state_unit_0_1 := (open Rq in (st (pr (us 1 (cu (app 0 4) (us 1 (c Q2q22 (us 6 (c (aa (c gi (c gi (c gi (cl gi nil))))) (c ai (cl ab (us 23 (xs 3 (us 2 (xs 3 (us 1 nil))))))))))))) (pl (c (so (c gi (c gi (c gi (cl gi nil))))) (cl (so (cl (ga (pr (szs hole) (c kci (cl (ki .u64 hole) nil)))) nil)) nil)) nil))) : RS _)
abbrev X_BQ_0 := Z_state_unit_0_0.B ⊕ ((Nat × (Int × Int × Int × Int) × Int × Bool) × (Int × Int × Int × Int) × NI × NI)
def E_BQ_0 {ρ : Type} (x : X_BQ_0) (K : AX → St → Option ρ) : Option ρ := (Sum.elim (fun d => K AX.ret (Z_state_unit_0_0.em d)) (fun d => K (AX.ex 0) (Z_state_unit_0_1.em (d.1, d.2.1, d.1.1, d.2.2)))) x
def S_BQ_0 (g_Ap : G_Ap) (g_AU : G_AU) (d : QL_BQ_0.B) : Pg (QL_BQ_0.B ⊕ X_BQ_0) := let y0 := d.1.1 + 1; let y1 := decide (d.1.2.2 < 4); cnd y1 (cnd (inR d.1.2.2 4) (cnd (d.1.2.2 == 3) (opt (g_Ap d.1.2.1.2.2.2) fun d_1 => cnd (decide (d_1 > 1073741840)) (ret (Sum.inr (Sum.inl ()))) (opt (g_AU d.1.2.1.2.2.2 d.1.2.1.2.2.2) fun d_2 => cnd (Nat.ble (y0 * 16) 140737488355328) (ret (Sum.inl ((y0, d.1.2.1,
 wI (d.1.2.2 + 1)), d.2.1, fun j => bif Nat.beq j d.1.1 then d_2.1 else d.2.2.1 j, fun j => bif Nat.beq j d.1.1 then d_2.2 else d.2.2.2 j))) no)) (cnd (d.1.2.2 == 2) (opt (g_Ap d.1.2.1.2.2.1) fun d_1 => cnd (decide (d_1 > 1073741840)) (ret (Sum.inr (Sum.inl ()))) (opt (g_AU d.1.2.1.2.2.1 d.1.2.1.2.2.1) fun d_2 => cnd (Nat.ble (y0 * 16) 140737488355328) (ret (Sum.inl ((y0, d.1.2.1, wI (d.1.2.2 + 1)),
 d.2.1, fun j => bif Nat.beq j d.1.1 then d_2.1 else d.2.2.1 j, fun j => bif Nat.beq j d.1.1 then d_2.2 else d.2.2.2 j))) no)) (cnd (d.1.2.2 == 1) (opt (g_Ap d.1.2.1.2.1) fun d_1 => cnd (decide (d_1 > 1073741840)) (ret (Sum.inr (Sum.inl ()))) (opt (g_AU d.1.2.1.2.1 d.1.2.1.2.1) fun d_2 => cnd (Nat.ble (y0 * 16) 140737488355328) (ret (Sum.inl ((y0, d.1.2.1, wI (d.1.2.2 + 1)), d.2.1, fun j => bif Nat.beq j d.1.1 then d_2.1 else d.2.2.1 j,
 fun j => bif Nat.beq j d.1.1 then d_2.2 else d.2.2.2 j))) no)) (opt (g_Ap d.1.2.1.1) fun d_1 => cnd (decide (d_1 > 1073741840)) (ret (Sum.inr (Sum.inl ()))) (opt (g_AU d.1.2.1.1 d.1.2.1.1) fun d_2 => cnd (Nat.ble (y0 * 16) 140737488355328) (ret (Sum.inl ((y0, d.1.2.1, wI (d.1.2.2 + 1)), d.2.1, fun j => bif Nat.beq j d.1.1 then d_2.1 else d.2.2.1 j, fun j => bif Nat.beq j d.1.1 then d_2.2 else d.2.2.2 j))) no))))) no) (ret (Sum.inr (Sum.inr ((d.1.1,
 d.1.2.1, d.1.2.2, y1), d.2))))
def L_BQ_0 : QL_BQ_0.B → Option X_BQ_0 := loopP (S_BQ_0 f_Ap f_AU) 2000
def H_BQ (l_0 : QL_BQ_0.B → Option X_BQ_0) : Hs := ⟨[⟨3, (0 :: 2 :: rg 4 6 (rg 12 24 [39, 40, 44])), [(3, [.i .i64, .i .u64])]⟩], [smQ 3 0 QL_BQ_0 E_BQ_0 l_0], [], [], (some ⟨0, (0 :: 1 :: rg 3 42 []), []⟩)⟩
def B_BQ (g_AO : G_AO) (g_BI : G_BI) (l_0 : QL_BQ_0.B → Option X_BQ_0) (x0 : Int) (x1 : Int) (x2 : Int) (x3 : Int) : Pg D_BQ := cnd true (opt (l_0 ((0, (x0, x1, x2, x3), 0), (x0, x1, x2, x3), fun x => 0, fun x => 0)) fun x => sum x (fun d => ret false) fun d => cnd (Nat.beq d.1.1 d.1.1) (opt (g_AO d.1.1 d.2.2.1 d.2.2.2 true) fun d => opt (g_BI d.1.1 d.1.2 0) fun d => let y0 := wI (d.1 - 1152921504606846976); cnd d.2 (cnd (decide (y0 ≥ -4294967296)) (ret (decide (y0 ≤ 4294967296))) (ret false)) (ret false)) no) no
def f_BQ (x0 : Int) (x1 : Int) (x2 : Int) (x3 : Int) : Option D_BQ := (B_BQ f_AO f_BI L_BQ_0 x0 x1 x2 x3).val
theorem dl_BQ_0 : ∀ g_Ap g_AU g_AO g_BI l_0, LoopIs Tryz.prog [e_Ap g_Ap, e_AU g_AU, e_AO g_AO, e_BI g_BI] (H_BQ l_0) 0 2000 47 3 QL_BQ_0 E_BQ_0 (S_BQ_0 g_Ap g_AU) := fun _ _ _ _ _ _ d c K => by kernel_rfl
theorem d_BQ : ∀ g_Ap g_AU g_AO g_BI l_0, DenIs Tryz.prog [e_Ap g_Ap, e_AU g_AU, e_AO g_AO, e_BI g_BI] (H_BQ l_0) 2000 47 Q_BQ R_BQ fun b => B_BQ g_AO g_BI l_0 b.1 b.2.1 b.2.2.1 b.2.2.2 := fun _ _ _ _ _ b => by kernel_rfl
theorem s_BQ [Amb] : Snd Tryz.prog (e_BQ f_BQ) := Snd.of (mkS mixed (.c s_Ap (.c s_AU (.c s_AO (.c s_BI (.nil _))))) (by kernel_rfl) (Sums.by (l := [loopIn Tryz.prog 47 3]) (lj := []) (by kernel_rfl) ⟨mkL (S := S_BQ_0 f_Ap f_AU) (by kernel_rfl) (dl_BQ_0 f_Ap f_AU f_AO f_BI L_BQ_0), trivial⟩ (by kernel_rfl) trivial) (d_BQ f_Ap f_AU f_AO f_BI L_BQ_0)) (by kernel_rfl)

def Q_AE := (open Rq in (dp (cu (app 0 1) (c ai (c (ac (slc 1 1)) (cl (ac (slc 2 1)) nil)))) fun a => (c (cl gb nil) (c (cl (gs a.2.1.1 (cl kci nil)) nil) (cl (cl (gs a.2.2.1 (cl kci nil)) nil) nil)))) : RA _)
def RR_AE := (open Rq in (res (pr ai (pl (cl (chs (cl gb nil)) (cu chk (cu chk nil))) nil))) : RE _)
abbrev D_AE := RR_AE.B
def R_AE (d : D_AE) : T := (fun d => .leaf (RR_AE.em d)) d
abbrev G_AE := Int → Nat → Nat → Bool → NI → NI → Bool → Bool → Option D_AE
def e_AE (g : G_AE) : Ct := (174, nilF 3 [.i .i64] (nilF 2 [.i .i64] (FC Q_AE R_AE (fun b => g b.1.1 b.1.2.1.1 b.1.2.2.1 b.2.1 b.2.2.1 b.2.2.2 b.1.2.1.2 b.1.2.2.2))))
def QL_AE_0 := (open Rq in (st (dp (cu (app 0 1) (c ai (c (ac (slc 1 1)) (c (ac (slc 2 1)) (us 5 (cu (app 3 2) (us 15 (c ai (cl ai (us 26 nil)))))))))) fun a => (pl (c (so (cl gb nil)) (c (so (cl (gs a.2.1.1 (cl kci nil)) nil)) (c (so (cl (gs a.2.2.1.1 (cl kci nil)) nil)) (cl (so (c gi (cl gn nil))) nil)))) (cu (nat 0) nil)))) : RS _)
def Z_AE_0 := (open Rq in (st (pr (cu (app 0 1) (c ai (c (ac (slc 1 1)) (c (ac (slc 2 1)) (us 5 (cu (app 3 2) (us 15 (c ai (c ai (cl ab (us 25 nil))))))))))) (pl (c (so (cl gb nil)) (c Q2q4 (c Q2q4 (cl (so (c gi (cl gn nil))) nil)))) (cu (nat 0) nil)))) : RS _)
abbrev X_AE_0 := ((Int × (Nat × Bool) × (Nat × Bool) × Int × Int × Bool) × Bool × NI × NI × Int × Int)
def E_AE_0 {ρ : Type} (x : X_AE_0) (K : AX → St → Option ρ) : Option ρ := (fun d => K (AX.ex 0) (Z_AE_0.em (d.1, d.2.1, (d.1.2.1.1, d.2.2.1), (d.1.2.2.1.1, d.2.2.2.1), d.2.2.2.2))) x
def S_AE_0 (g_Z : G_Z) (g_AU : G_AU) (g_AO : G_AO) (d : QL_AE_0.B) : Pg (QL_AE_0.B ⊕ X_AE_0) := let y0 := Int.toNat d.1.2.2.2.2; let y1 := decide (d.1.2.2.2.2 < d.1.2.2.2.1); cnd y1 (cnd (inR d.1.2.2.2.2 d.1.2.1.1) (opt (g_Z (d.2.2.1 y0) d.2.1) fun d_1 => cnd (inR d.1.2.2.2.2 d.1.2.2.1.1) (opt (g_Z (d.2.2.2.1 y0) d_1.2) fun d_2 => opt (g_AU d_1.1 d_2.1) fun d_3 => opt (g_AO 2 (fun j => bif Nat.beq j 1 then d_3.1 else bif Nat.beq j 0 then d.2.2.2.2.1 else d.2.2.2.2.1) (fun j => bif Nat.beq j 1 then d_3.2 else bif Nat.beq j 0 then d.2.2.2.2.2 else d.2.2.2.2.2) true) fun d_4 => ret (Sum.inl ((d.1.1,
 d.1.2.1, d.1.2.2.1, d.1.2.2.2.1, wI (d.1.2.2.2.2 + 1)), d_2.2, d.2.2.1, d.2.2.2.1, d_4.1))) no) no) (ret (Sum.inr ((d.1.1, d.1.2.1, d.1.2.2.1, d.1.2.2.2.1, d.1.2.2.2.2, y1), d.2)))
def L_AE_0 : QL_AE_0.B → Option X_AE_0 := loopP (S_AE_0 f_Z f_AU f_AO) 2000
def H_AE (l_0 : QL_AE_0.B → Option X_AE_0) : Hs := ⟨[⟨5, (rg 4 5 (rg 10 15 (rg 27 26 []))), []⟩], [smQ 5 3 QL_AE_0 E_AE_0 l_0], [0], [], (some ⟨0, (rg 0 8 (rg 9 44 [])), []⟩)⟩
def B_AE (g_Bn : G_Bn) (l_0 : QL_AE_0.B → Option X_AE_0) (x0 : Int) (x1 : Nat) (x2 : Nat) (x3 : Bool) (x4 : Nat → Int) (x5 : Nat → Int) (w0 : Bool) (w1 : Bool) : Pg D_AE := let y0 := if Int.ofNat x2 < Int.ofNat x1 then Int.ofNat x2 else Int.ofNat x1; cnd (decide (x0 < 0)) (opt (g_Bn 0 0 x0 x3) fun d => ret d) (cnd (decide (x0 > 120)) (opt (g_Bn 0 0 x0 x3) fun d => ret d) (cnd (Nat.beq x1 x1) (cnd (Nat.beq x2 x2) (opt (l_0 ((x0,
 (x1, w0), (x2, w1), if 100 < y0 then 100 else y0, 0), x3, x4, x5, 0, 0)) fun d => opt (g_Bn d.2.2.2.2.1 d.2.2.2.2.2 d.1.1 d.2.1) fun d => ret d) no) no))
def f_AE (x0 : Int) (x1 : Nat) (x2 : Nat) (x3 : Bool) (x4 : Nat → Int) (x5 : Nat → Int) (w0 : Bool) (w1 : Bool) : Option D_AE := (B_AE f_Bn L_AE_0 x0 x1 x2 x3 x4 x5 w0 w1).val
theorem dl_AE_0 : ∀ g_Bn g_Z g_AU g_AO l_0, LoopIs Tryz.prog [e_Bn g_Bn, e_Z g_Z, e_AU g_AU, e_AO g_AO] (H_AE l_0) 3 2000 174 5 QL_AE_0 E_AE_0 (S_AE_0 g_Z g_AU g_AO) := fun _ _ _ _ _ _ d c K => by kernel_rfl
theorem d_AE : ∀ g_Bn g_Z g_AU g_AO l_0, DenIs Tryz.prog [e_Bn g_Bn, e_Z g_Z, e_AU g_AU, e_AO g_AO] (H_AE l_0) 2000 174 Q_AE R_AE fun b => B_AE g_Bn l_0 b.1.1 b.1.2.1.1 b.1.2.2.1 b.2.1 b.2.2.1 b.2.2.2 b.1.2.1.2 b.1.2.2.2 := fun _ _ _ _ _ b => by kernel_rfl
theorem s_AE [Amb] : Snd Tryz.prog (e_AE f_AE) := Snd.of (Sound.nil 3 [.i .i64] <| Sound.nil 2 [.i .i64] <| mkS mixed (.c s_Bn (.c s_Z (.c s_AU (.c s_AO (.nil _))))) (by kernel_rfl) (Sums.by (l := [loopIn Tryz.prog 174 5]) (lj := []) (by kernel_rfl) ⟨mkL (S := S_AE_0 f_Z f_AU f_AO) (by kernel_rfl) (dl_AE_0 f_Bn f_Z f_AU f_AO L_AE_0), trivial⟩ (by kernel_rfl) trivial) (d_AE f_Bn f_Z f_AU f_AO L_AE_0)) (by kernel_rfl)

def Q_Ce := (open Rq in (pr (c ai (c ai (c ai (cl ai (cu (app 0 1) (cu (app 1 4) nil)))))) (cu (cu (gp 2 1) nil) (c (c gi (c gi (c gi (cl gi nil)))) (cl (cl gb nil) nil)))) : RA _)
def RR_Ce := (open Rq in Q2q16 : RE _)
abbrev D_Ce := RR_Ce.B
def R_Ce (d : D_Ce) : T := (fun d => .leaf (RR_Ce.em d)) d
abbrev G_Ce := Int → Int → Int → Int → Int → Int → Int → Int → Bool → Option D_Ce
def e_Ce (g : G_Ce) : Ct := (215, FC Q_Ce R_Ce (fun b => g b.1.1 b.1.2.1 b.1.2.2.1 b.1.2.2.2 b.2.1.1 b.2.1.2.1 b.2.1.2.2.1 b.2.1.2.2.2 b.2.2))
def B_Ce (g_AE : G_AE) (x0 : Int) (x1 : Int) (x2 : Int) (x3 : Int) (x4 : Int) (x5 : Int) (x6 : Int) (x7 : Int) (x8 : Bool) : Pg D_Ce := let y0 := wI (x0 * x4); opt (g_AE 30 4 4 x8 (fun j => bif Nat.beq j 3 then x7 else bif Nat.beq j 2 then x6 else bif Nat.beq j 1 then x5 else bif Nat.beq j 0 then x4 else x4) (fun j => bif Nat.beq j 3 then wI (x3 * x7) else bif Nat.beq j 2 then wI (x2 * x6) else bif Nat.beq j 1 then wI (x1 * x5) else bif Nat.beq j 0 then y0 else y0) false true) fun d => ret d
def f_Ce (x0 : Int) (x1 : Int) (x2 : Int) (x3 : Int) (x4 : Int) (x5 : Int) (x6 : Int) (x7 : Int) (x8 : Bool) : Option D_Ce := (B_Ce f_AE x0 x1 x2 x3 x4 x5 x6 x7 x8).val
theorem d_Ce : ∀ g_AE, DenIs Tryz.prog [e_AE g_AE] ⟨[], [], [], [], none⟩ 2000 215 Q_Ce R_Ce fun b => B_Ce g_AE b.1.1 b.1.2.1 b.1.2.2.1 b.1.2.2.2 b.2.1.1 b.2.1.2.1 b.2.1.2.2.1 b.2.1.2.2.2 b.2.2 := fun _ b => by kernel_rfl
theorem s_Ce [Amb] : Snd Tryz.prog (e_Ce f_Ce) := Snd.of (mk0 mixed (.c s_AE (.nil _)) (by kernel_rfl) (d_Ce f_AE)) (by kernel_rfl)

def Q_CW := (open Rq in (pr (c ai (c ai (c ai (cl ai (cu (app 0 1) nil))))) (cu (cu (gp 1 1) nil) (cl (cl gb nil) nil))) : RA _)
def RR_CW := (open Rq in (res (pr ai (pl (cu chk (cl (chs (cl gb nil)) nil)) nil))) : RE _)
abbrev D_CW := RR_CW.B
def R_CW (d : D_CW) : T := (fun d => .leaf (RR_CW.em d)) d
abbrev G_CW := Int → Int → Int → Int → Bool → Option D_CW
def e_CW (g : G_CW) : Ct := (216, FC Q_CW R_CW (fun b => g b.1.1 b.1.2.1 b.1.2.2.1 b.1.2.2.2 b.2))
def B_CW (g_AE : G_AE) (x0 : Int) (x1 : Int) (x2 : Int) (x3 : Int) (x4 : Bool) : Pg D_CW := opt (g_AE 30 4 4 x4 (fun j => bif Nat.beq j 3 then x2 else bif Nat.beq j 2 then x2 else bif Nat.beq j 1 then x0 else bif Nat.beq j 0 then x0 else x0) (fun j => bif Nat.beq j 3 then x3 else bif Nat.beq j 2 then x3 else bif Nat.beq j 1 then x1 else bif Nat.beq j 0 then x1 else x1) true true) fun d => ret d
def f_CW (x0 : Int) (x1 : Int) (x2 : Int) (x3 : Int) (x4 : Bool) : Option D_CW := (B_CW f_AE x0 x1 x2 x3 x4).val
theorem d_CW : ∀ g_AE, DenIs Tryz.prog [e_AE g_AE] ⟨[], [], [], [], none⟩ 2000 216 Q_CW R_CW fun b => B_CW g_AE b.1.1 b.1.2.1 b.1.2.2.1 b.1.2.2.2 b.2 := fun _ b => by kernel_rfl
theorem s_CW [Amb] : Snd Tryz.prog (e_CW f_CW) := Snd.of (mk0 mixed (.c s_AE (.nil _)) (by kernel_rfl) (d_CW f_AE)) (by kernel_rfl)

def Q_At := (open Rq in (pr (c ai (c ai (cl ai (cu (app 0 24) nil)))) (cl (cl (gl 24 (cl kci nil)) nil) nil)) : RA _)
def RR_At := (open Rq in (res (pu (atup nil) (pl (cl (chs (cl (gl 24 (cl kci nil)) nil)) nil) nil))) : RE _)
abbrev D_At := RR_At.B
def R_At (d : D_At) : T := (fun d => .leaf (RR_At.em d)) d
abbrev G_At := Int → Int → Int → NI → Option D_At
def e_At (g : G_At) : Ct := (165, FC Q_At R_At (fun b => g b.1.1 b.1.2.1 b.1.2.2 b.2))
def QL_At_0 := (open Rq in (st (pr (us 1 (c ai (c ai (cu (app 0 24) (us 3 (cl ai (us 9 nil))))))) (pl Q2q0 (cu (nat 0) nil)))) : RS _)
def Z_At_0 := (open Rq in (st (pr (us 1 (c ai (c ai (cu (app 0 24) (us 3 (c ai (us 1 (c ai (c ai (cl ab (us 5 nil))))))))))) (pl Q2q0 (cu (nat 0) nil)))) : RS _)
abbrev X_At_0 := ((Int × Int × Int × Bool) × NI)
def E_At_0 {ρ : Type} (x : X_At_0) (K : AX → St → Option ρ) : Option ρ := (fun d => K (AX.ex 0) (Z_At_0.em ((d.1.1, d.1.2.1, d.1.2.2.1, d.1.2.2.1, d.1.1, d.1.2.2.2), d.2))) x
def S_At_0 (d : QL_At_0.B) : Pg (QL_At_0.B ⊕ X_At_0) := let y0 := Int.toNat d.1.2.2; let y1 := decide (d.1.2.2 < d.1.1); cnd y1 (cnd (inR d.1.2.2 24) (cnd (true && Nat.ble (0 + y0 * 1 + 1) 24) (ret (Sum.inl ((d.1.1, d.1.2.1, wI (d.1.2.2 + 1)), fun j => bif Nat.beq j y0 then d.1.2.1 else d.2 j))) no) no) (ret (Sum.inr ((d.1.1, d.1.2.1, d.1.2.2, y1), d.2)))
def L_At_0 : QL_At_0.B → Option X_At_0 := loopP (S_At_0) 2000
def H_At (l_0 : QL_At_0.B → Option X_At_0) : Hs := ⟨[⟨1, (0 :: 4 :: 5 :: 6 :: rg 8 9 []), []⟩], [smQ 1 1 QL_At_0 E_At_0 l_0], [0], [], (some ⟨0, (rg 0 17 []), []⟩)⟩
def B_At (l_0 : QL_At_0.B → Option X_At_0) (x0 : Int) (x1 : Int) (x2 : Int) (x3 : Nat → Int) : Pg D_At := opt (l_0 ((x1, x2, x0), x3)) fun d => ret d.2
def f_At (x0 : Int) (x1 : Int) (x2 : Int) (x3 : Nat → Int) : Option D_At := (B_At L_At_0 x0 x1 x2 x3).val
theorem dl_At_0 : ∀ l_0, LoopIs Tryz.prog [] (H_At l_0) 1 2000 165 1 QL_At_0 E_At_0 (S_At_0) := fun _ _ d c K => by kernel_rfl
theorem d_At : ∀ l_0, DenIs Tryz.prog [] (H_At l_0) 2000 165 Q_At R_At fun b => B_At l_0 b.1.1 b.1.2.1 b.1.2.2 b.2 := fun _ b => by kernel_rfl
theorem s_At [Amb] : Snd Tryz.prog (e_At f_At) := Snd.of (mkS mixed (.nil _) (by kernel_rfl) (Sums.by (l := [loopIn Tryz.prog 165 1]) (lj := []) (by kernel_rfl) ⟨mkL (S := S_At_0) (by kernel_rfl) (dl_At_0 L_At_0), trivial⟩ (by kernel_rfl) trivial) (d_At L_At_0)) (by kernel_rfl)

def Q_BZ := (open Rq in (pr (cu (app 0 1) (cl ai nil)) (cl (cl gb nil) nil)) : RA _)
def RR_BZ := (open Rq in Q2q5 : RE _)
abbrev D_BZ := RR_BZ.B
def R_BZ (d : D_BZ) : T := (fun d => .leaf (RR_BZ.em d)) d
abbrev G_BZ := Int → Bool → Option D_BZ
def e_BZ (g : G_BZ) : Ct := (52, FC Q_BZ R_BZ (fun b => g b.1 b.2))
def B_BZ (g_AC : G_AC) (x0 : Int) (x1 : Bool) : Pg D_BZ := opt (g_AC x0 1 72057594037927936 x1) fun d => ret d
def f_BZ (x0 : Int) (x1 : Bool) : Option D_BZ := (B_BZ f_AC x0 x1).val
theorem d_BZ : ∀ g_AC, DenIs Tryz.prog [e_AC g_AC] ⟨[], [], [], [], none⟩ 2000 52 Q_BZ R_BZ fun b => B_BZ g_AC b.1 b.2 := fun _ b => by kernel_rfl
theorem s_BZ [Amb] : Snd Tryz.prog (e_BZ f_BZ) := Snd.of (mk0 mixed (.c s_AC (.nil _)) (by kernel_rfl) (d_BZ f_AC)) (by kernel_rfl)

def Q_AI := (open Rq in (pr (cu (app 0 1) (cl Q2q12 nil)) (cl (cl gb nil) nil)) : RA _)
def RR_AI := (open Rq in Q2q32 : RE _)
abbrev D_AI := RR_AI.B
def R_AI (d : D_AI) : T := (fun d => .leaf (RR_AI.em d)) d
abbrev G_AI := NI → NI → Bool → Option D_AI
def e_AI (g : G_AI) : Ct := (44, FC Q_AI R_AI (fun b => g b.1.1 b.1.2 b.2))
def QL_AI_0 := (open Rq in (st (pr (cu (app 0 1) (us 2 (cu (app 1 300) (cu (app 2 300) (us 2 (cl ai (us 26 nil))))))) (pl (c (so (cl gb nil)) Q2q39) (cu (nat 0) nil)))) : RS _)
def Z_AI_0 := (open Rq in (st (pr (cu (app 0 1) (us 2 (cu (app 1 300) (cu (app 2 300) (us 2 (c ai (cl ab (us 25 nil)))))))) (pl (c (so (cl gb nil)) Q2q39) (cu (nat 0) nil)))) : RS _)
abbrev X_AI_0 := Z_AI_0.B
def E_AI_0 {ρ : Type} (x : X_AI_0) (K : AX → St → Option ρ) : Option ρ := (fun d => K (AX.ex 0) (Z_AI_0.em d)) x
def S_AI_0 (g_BZ : G_BZ) (d : QL_AI_0.B) : Pg (QL_AI_0.B ⊕ X_AI_0) := let y0 := Int.toNat d.1; let y1 := inR d.1 24; let y2 := decide (d.1 < 24); cnd y2 (cnd y1 (opt (g_BZ (d.2.2.1.2 y0) d.2.1) fun d_1 => cnd y1 (cnd (true && Nat.ble (276 + y0 * 1 + 1) 300) (ret (Sum.inl (wI (d.1 + 1), d_1.2, (d.2.2.1.1, fun j => bif Nat.beq j y0 then d_1.1 else d.2.2.1.2 j), d.2.2.2))) no) no) no) (ret (Sum.inr ((d.1, y2), d.2)))
def L_AI_0 : QL_AI_0.B → Option X_AI_0 := loopP (S_AI_0 f_BZ) 2000
def QL_AI_1 := (open Rq in (st (pr (cu (app 0 1) (us 2 (cu (app 1 300) (cu (app 2 300) (us 15 (cl ai (us 13 nil))))))) (pl (c (so (cl gb nil)) Q2q39) (cu (nat 0) nil)))) : RS _)
def Z_AI_1 := (open Rq in (st (pr (cu (app 0 1) (us 2 (cu (app 1 300) (cu (app 2 300) (us 15 (c ai (cl ab (us 12 nil)))))))) (pl (c (so (cl gb nil)) Q2q39) (cu (nat 0) nil)))) : RS _)
abbrev X_AI_1 := Z_AI_1.B
def E_AI_1 {ρ : Type} (x : X_AI_1) (K : AX → St → Option ρ) : Option ρ := (fun d => K (AX.ex 2) (Z_AI_1.em d)) x
def S_AI_1 (g_AC : G_AC) (d : QL_AI_1.B) : Pg (QL_AI_1.B ⊕ X_AI_1) := let y0 := Int.toNat d.1; let y1 := inR d.1 276; let y2 := decide (d.1 < 276); let y3 := 0 + y0 * 1 + 1; let y4 := Nat.ble y3 276; cnd y2 (cnd y1 (cnd y4 (opt (g_AC (d.2.2.1.1 y0) (-1152921504606846976) 1152921504606846976 d.2.1) fun d_1 => cnd y1 (cnd (y4 && Nat.ble y3 300) (ret (Sum.inl (wI (d.1 + 1), d_1.2, (fun j => bif Nat.beq j y0 then d_1.1 else d.2.2.1.1 j,
 d.2.2.1.2), d.2.2.2))) no) no) no) no) (ret (Sum.inr ((d.1, y2), d.2)))
def L_AI_1 : QL_AI_1.B → Option X_AI_1 := loopP (S_AI_1 f_AC) 2000
def H_AI (l_0 : QL_AI_0.B → Option X_AI_0) (l_1 : QL_AI_1.B → Option X_AI_1) : Hs := ⟨[⟨2, (1 :: 2 :: 5 :: 6 :: rg 8 26 []), []⟩, ⟨7, (1 :: 2 :: rg 5 15 (rg 21 13 [])), []⟩], [smQ 2 1 QL_AI_0 E_AI_0 l_0, smQ 7 1 QL_AI_1 E_AI_1 l_1], [0], [], (some ⟨0, (rg 0 4 (rg 5 29 [])), []⟩)⟩
def B_AI (l_0 : QL_AI_0.B → Option X_AI_0) (l_1 : QL_AI_1.B → Option X_AI_1) (x0 : Nat → Int) (x1 : Nat → Int) (x2 : Bool) : Pg D_AI := opt (l_0 (0, x2, (x0, x1), fun x => 0, fun x => 0)) fun d => opt (l_1 (0, d.2)) fun d => ret (d.2.2.1, d.2.1)
def f_AI (x0 : Nat → Int) (x1 : Nat → Int) (x2 : Bool) : Option D_AI := (B_AI L_AI_0 L_AI_1 x0 x1 x2).val
theorem dl_AI_0 : ∀ g_BZ g_AC l_0 l_1, LoopIs Tryz.prog [e_BZ g_BZ, e_AC g_AC] (H_AI l_0 l_1) 1 2000 44 2 QL_AI_0 E_AI_0 (S_AI_0 g_BZ) := fun _ _ _ _ _ d c K => by kernel_rfl
theorem dl_AI_1 : ∀ g_BZ g_AC l_0 l_1, LoopIs Tryz.prog [e_BZ g_BZ, e_AC g_AC] (H_AI l_0 l_1) 1 2000 44 7 QL_AI_1 E_AI_1 (S_AI_1 g_AC) := fun _ _ _ _ _ d c K => by kernel_rfl
theorem d_AI : ∀ g_BZ g_AC l_0 l_1, DenIs Tryz.prog [e_BZ g_BZ, e_AC g_AC] (H_AI l_0 l_1) 2000 44 Q_AI R_AI fun b => B_AI l_0 l_1 b.1.1 b.1.2 b.2 := fun _ _ _ _ b => by kernel_rfl
theorem s_AI [Amb] : Snd Tryz.prog (e_AI f_AI) := Snd.of (mkS mixed (.c s_BZ (.c s_AC (.nil _))) (by kernel_rfl) (Sums.by (l := [loopIn Tryz.prog 44 2, loopIn Tryz.prog 44 7]) (lj := []) (by kernel_rfl) ⟨mkL (S := S_AI_0 f_BZ) (by kernel_rfl) (dl_AI_0 f_BZ f_AC L_AI_0 L_AI_1), ⟨mkL (S := S_AI_1 f_AC) (by kernel_rfl) (dl_AI_1 f_BZ f_AC L_AI_0 L_AI_1), trivial⟩⟩ (by kernel_rfl) trivial) (d_AI f_BZ f_AC L_AI_0 L_AI_1)) (by kernel_rfl)

def Q_BD := (open Rq in (dp (cu (app 0 1) (cl (ac (slc 1 1)) nil)) fun a => (c (cl gb nil) (cl (cl (gs a.1 (cl kci nil)) nil) nil))) : RA _)
def RR_BD := (open Rq in Q2q36 : RE _)
abbrev D_BD := RR_BD.B
def R_BD (d : D_BD) : T := (fun d => .leaf (RR_BD.em d)) d
abbrev G_BD := Nat → Bool → NI → Bool → Option D_BD
def e_BD (g : G_BD) : Ct := (23, nilF 1 [.i .i64] (FC Q_BD R_BD (fun b => g b.1.1 b.2.1 b.2.2 b.1.2)))
def QL_BD_0 := (open Rq in (st (dp (cu (app 0 1) (c (ac (slc 1 1)) (us 2 (cu (app 2 300) (cu (app 3 300) (us 1 (cl ai (us 20 nil)))))))) fun a => (pl (c (so (cl gb nil)) (c (so (cl (gs a.1.1 (cl kci nil)) nil)) Q2q39)) (cu (nat 0) nil)))) : RS _)
def Z_BD_0 := (open Rq in (st (pr (cu (app 0 1) (c (ac (slc 1 1)) (us 2 (cu (app 2 300) (cu (app 3 300) (us 1 (c ai (cl ab (us 19 nil))))))))) (pl (c (so (cl gb nil)) (c Q2q4 Q2q39)) (cu (nat 0) nil)))) : RS _)
abbrev X_BD_0 := (((Nat × Bool) × Int × Bool) × Bool × NI × (NI × NI) × NI × NI)
def E_BD_0 {ρ : Type} (x : X_BD_0) (K : AX → St → Option ρ) : Option ρ := (fun d => K (AX.ex 0) (Z_BD_0.em (d.1, d.2.1, (d.1.1.1, d.2.2.1), d.2.2.2))) x
def S_BD_0 (g_BZ : G_BZ) (d : QL_BD_0.B) : Pg (QL_BD_0.B ⊕ X_BD_0) := let y0 := Int.toNat d.1.2; let y1 := inR d.1.2 24; let y2 := decide (d.1.2 < 24); let y3 := true && Nat.ble (276 + y0 * 1 + 1) 300; cnd y2 (cnd y1 (cnd y3 (cnd (decide (d.1.2 < Int.ofNat d.1.1.1)) (cnd (inR d.1.2 d.1.1.1) (opt (g_BZ (d.2.2.1 y0) d.2.1) fun d_1 => cnd y1 (cnd y3 (ret (Sum.inl ((d.1.1, wI (d.1.2 + 1)), d_1.2, d.2.2.1,
 d.2.2.2.1, d.2.2.2.2.1, fun j => let y0 := Nat.beq j y0; bif y0 then d_1.1 else bif y0 then 1 else d.2.2.2.2.2 j))) no) no) no) (ret (Sum.inl ((d.1.1, wI (d.1.2 + 1)), d.2.1, d.2.2.1, d.2.2.2.1, d.2.2.2.2.1, fun j => bif Nat.beq j y0 then 1 else d.2.2.2.2.2 j)))) no) no) (ret (Sum.inr ((d.1.1, d.1.2, y2), d.2)))
def L_BD_0 : QL_BD_0.B → Option X_BD_0 := loopP (S_BD_0 f_BZ) 2000
def H_BD (l_0 : QL_BD_0.B → Option X_BD_0) : Hs := ⟨[⟨3, (2 :: 3 :: 6 :: rg 8 20 []), []⟩], [smQ 3 2 QL_BD_0 E_BD_0 l_0], [0], [], (some ⟨0, (rg 0 4 (rg 5 23 [])), []⟩)⟩
def B_BD (l_0 : QL_BD_0.B → Option X_BD_0) (x0 : Nat) (x1 : Bool) (x2 : Nat → Int) (w0 : Bool) : Pg D_BD := cnd (Nat.beq x0 x0) (opt (l_0 (((x0, w0), 0), x1, x2, (fun x => 0, fun x => 0), fun x => 0, fun x => 0)) fun d => ret (d.2.2.2.2, d.2.1)) no
def f_BD (x0 : Nat) (x1 : Bool) (x2 : Nat → Int) (w0 : Bool) : Option D_BD := (B_BD L_BD_0 x0 x1 x2 w0).val
theorem dl_BD_0 : ∀ g_BZ l_0, LoopIs Tryz.prog [e_BZ g_BZ] (H_BD l_0) 2 2000 23 3 QL_BD_0 E_BD_0 (S_BD_0 g_BZ) := fun _ _ _ d c K => by kernel_rfl
theorem d_BD : ∀ g_BZ l_0, DenIs Tryz.prog [e_BZ g_BZ] (H_BD l_0) 2000 23 Q_BD R_BD fun b => B_BD l_0 b.1.1 b.2.1 b.2.2 b.1.2 := fun _ _ b => by kernel_rfl
theorem s_BD [Amb] : Snd Tryz.prog (e_BD f_BD) := Snd.of (Sound.nil 1 [.i .i64] <| mkS mixed (.c s_BZ (.nil _)) (by kernel_rfl) (Sums.by (l := [loopIn Tryz.prog 23 3]) (lj := []) (by kernel_rfl) ⟨mkL (S := S_BD_0 f_BZ) (by kernel_rfl) (dl_BD_0 f_BZ L_BD_0), trivial⟩ (by kernel_rfl) trivial) (d_BD f_BZ L_BD_0)) (by kernel_rfl)

def Q_Bj := (open Rq in (pl (c ai (cl ai nil)) nil) : RA _)
def RR_Bj := (open Rq in Q2q10 : RE _)
abbrev D_Bj := RR_Bj.B
def R_Bj (d : D_Bj) : T := (fun d => .leaf (RR_Bj.em d)) d
abbrev G_Bj := Int → Int → Option D_Bj
def e_Bj (g : G_Bj) : Ct := (218, FC Q_Bj R_Bj (fun b => g b.1 b.2))
def B_Bj (x0 : Int) (x1 : Int) : Pg D_Bj := let y0 := wI (wI (Int.tdiv (wI (x1 * wI (x1 - 1))) 2) + x0); cnd (decide (x0 ≥ 0)) (cnd (decide (x0 < x1)) (ret (y0, decide (x1 < 24))) (ret (y0, false))) (ret (y0, false))
def f_Bj (x0 : Int) (x1 : Int) : Option D_Bj := (B_Bj x0 x1).val
theorem d_Bj : DenIs Tryz.prog [] ⟨[], [], [], [], none⟩ 2000 218 Q_Bj R_Bj fun b => B_Bj b.1 b.2 := fun b => by kernel_rfl
theorem s_Bj [Amb] : Snd Tryz.prog (e_Bj f_Bj) := Snd.of (mk0 mixed (.nil _) (by kernel_rfl) d_Bj) (by kernel_rfl)

def Q_Bk := (open Rq in (pl (c Q2q12 (c ai (cl ai nil))) nil) : RA _)
def RR_Bk := (open Rq in (res (pl ai (pu nil nil))) : RE _)
abbrev D_Bk := RR_Bk.B
def R_Bk (d : D_Bk) : T := (fun d => .leaf (RR_Bk.em d)) d
abbrev G_Bk := NI → NI → Int → Int → Option D_Bk
def e_Bk (g : G_Bk) : Ct := (217, FC Q_Bk R_Bk (fun b => g b.1.1 b.1.2 b.2.1 b.2.2))
def B_Bk (g_Bj : G_Bj) (x0 : Nat → Int) (x1 : Nat → Int) (x2 : Int) (x3 : Int) : Pg D_Bk := cnd (x2 == x3) (cnd (decide (x2 ≥ 0)) (cnd (decide (x2 < 24)) (ret 1073741824) (opt (g_Bj x2 x3) fun d => cnd (!d.2) (ret 0) (cnd (inR d.1 276) (cnd (Nat.ble (0 + Int.toNat d.1 * 1 + 1) 276) (ret (x0 (Int.toNat d.1))) no) no))) (opt (g_Bj x2 x3) fun d => cnd (!d.2) (ret 0) (cnd (inR d.1 276) (cnd (Nat.ble (0 + Int.toNat d.1 * 1 + 1) 276) (ret (x0 (Int.toNat d.1))) no) no))) (opt (g_Bj x2 x3) fun d => cnd (!d.2) (ret 0) (cnd (inR d.1 276) (cnd (Nat.ble (0 + Int.toNat d.1 * 1 + 1) 276) (ret (x0 (Int.toNat d.1))) no) no))
def f_Bk (x0 : Nat → Int) (x1 : Nat → Int) (x2 : Int) (x3 : Int) : Option D_Bk := (B_Bk f_Bj x0 x1 x2 x3).val
theorem d_Bk : ∀ g_Bj, DenIs Tryz.prog [e_Bj g_Bj] ⟨[], [], [], [], none⟩ 2000 217 Q_Bk R_Bk fun b => B_Bk g_Bj b.1.1 b.1.2 b.2.1 b.2.2 := fun _ b => by kernel_rfl
theorem s_Bk [Amb] : Snd Tryz.prog (e_Bk f_Bk) := Snd.of (mk0 mixed (.c s_Bj (.nil _)) (by kernel_rfl) (d_Bk f_Bj)) (by kernel_rfl)

def Q_BV := (open Rq in (pl (c Q2q12 (c ai (c ai (cl ai nil)))) nil) : RA _)
def RR_BV := (open Rq in (res (pl Q2q12 (pu nil nil))) : RE _)
abbrev D_BV := RR_BV.B
def R_BV (d : D_BV) : T := (fun d => .leaf (RR_BV.em d)) d
abbrev G_BV := NI → NI → Int → Int → Int → Option D_BV
def e_BV (g : G_BV) : Ct := (181, FC Q_BV R_BV (fun b => g b.1.1 b.1.2 b.2.1 b.2.2.1 b.2.2.2))
def B_BV (g_Bj : G_Bj) (x0 : Nat → Int) (x1 : Nat → Int) (x2 : Int) (x3 : Int) (x4 : Int) : Pg D_BV := opt (g_Bj x2 x3) fun d => let y0 := 0 + Int.toNat d.1 * 1 + 1; cnd d.2 (cnd (inR d.1 276) (cnd (Nat.ble y0 276 && Nat.ble y0 300) (ret (fun j => bif Nat.beq j (Int.toNat d.1) then x4 else x0 j, x1)) no) no) (ret (x0, x1))
def f_BV (x0 : Nat → Int) (x1 : Nat → Int) (x2 : Int) (x3 : Int) (x4 : Int) : Option D_BV := (B_BV f_Bj x0 x1 x2 x3 x4).val
theorem d_BV : ∀ g_Bj, DenIs Tryz.prog [e_Bj g_Bj] ⟨[], [], [], [], none⟩ 2000 181 Q_BV R_BV fun b => B_BV g_Bj b.1.1 b.1.2 b.2.1 b.2.2.1 b.2.2.2 := fun _ b => by kernel_rfl
theorem s_BV [Amb] : Snd Tryz.prog (e_BV f_BV) := Snd.of (mk0 mixed (.c s_Bj (.nil _)) (by kernel_rfl) (d_BV f_Bj)) (by kernel_rfl)

def Q_Ag := (open Rq in (pu nil nil) : RA _)
def RR_Ag := (open Rq in (res (pl (aa (cl (gl 576 (cl kci nil)) nil)) (pu nil nil))) : RE _)
abbrev D_Ag := RR_Ag.B
def R_Ag (d : D_Ag) : T := (fun d => .leaf (RR_Ag.em d)) d
abbrev G_Ag := Option D_Ag
def e_Ag (g : G_Ag) : Ct := (177, FC Q_Ag R_Ag (fun _ => g))
def QL_Ag_0 := (open Rq in (st (pr (cu (app 0 576) (cu (app 1 576) (us 1 (cl ai (us 8 nil))))) (pl (c (so (cl (gl 576 (cl kci nil)) nil)) (cl (so (cl (gl 576 (cl kci nil)) nil)) nil)) nil))) : RS _)
def Z_Ag_0 := (open Rq in (st (pr (cu (app 0 576) (cu (app 1 576) (us 1 (c ai (cl ab (us 7 nil)))))) (pl (c (so (cl (gl 576 (cl kci nil)) nil)) (cl (so (cl (gl 576 (cl kci nil)) nil)) nil)) nil))) : RS _)
abbrev X_Ag_0 := Z_Ag_0.B
def E_Ag_0 {ρ : Type} (x : X_Ag_0) (K : AX → St → Option ρ) : Option ρ := (fun d => K (AX.ex 0) (Z_Ag_0.em d)) x
def S_Ag_0 (d : QL_Ag_0.B) : Pg (QL_Ag_0.B ⊕ X_Ag_0) := let y0 := Int.toNat d.1; let y1 := inR d.1 24; let y2 := decide (d.1 < 24); let y3 := y0 * 24 + y0; cnd y2 (cnd y1 (cnd y1 (cnd (true && Nat.ble (0 + y3 * 1 + 1) 576) (ret (Sum.inl (wI (d.1 + 1), d.2.1, fun j => bif Nat.beq j y3 then 1073741824 else d.2.2 j))) no) no) no) (ret (Sum.inr ((d.1, y2), d.2)))
def L_Ag_0 : QL_Ag_0.B → Option X_Ag_0 := loopP (S_Ag_0) 2000
def H_Ag (l_0 : QL_Ag_0.B → Option X_Ag_0) : Hs := ⟨[⟨3, (2 :: rg 4 8 []), []⟩], [smQ 3 0 QL_Ag_0 E_Ag_0 l_0], [], [], (some ⟨0, (rg 1 11 []), []⟩)⟩
def B_Ag (l_0 : QL_Ag_0.B → Option X_Ag_0) : Pg D_Ag := opt (l_0 (0, fun x => 0, fun x => 0)) fun d => ret d.2.2
def f_Ag : Option D_Ag := (B_Ag L_Ag_0).val
theorem dl_Ag_0 : ∀ l_0, LoopIs Tryz.prog [] (H_Ag l_0) 0 2000 177 3 QL_Ag_0 E_Ag_0 (S_Ag_0) := fun _ _ d c K => by kernel_rfl
theorem d_Ag : ∀ l_0, DenIs Tryz.prog [] (H_Ag l_0) 2000 177 Q_Ag R_Ag fun b => B_Ag l_0 := fun _ b => by kernel_rfl
theorem s_Ag [Amb] : Snd Tryz.prog (e_Ag f_Ag) := Snd.of (mkS mixed (.nil _) (by kernel_rfl) (Sums.by (l := [loopIn Tryz.prog 177 3]) (lj := []) (by kernel_rfl) ⟨mkL (S := S_Ag_0) (by kernel_rfl) (dl_Ag_0 L_Ag_0), trivial⟩ (by kernel_rfl) trivial) (d_Ag L_Ag_0)) (by kernel_rfl)

def Q_Ay := (open Rq in (pr (cu (app 0 1) (c (aa (cl (gl 9 (cl kci nil)) nil)) (cl (aa (c gi (c gi (cl gi nil)))) nil))) (cl (cl gb nil) nil)) : RA _)
def RR_Ay := (open Rq in Q2q19 : RE _)
abbrev D_Ay := RR_Ay.B
def R_Ay (d : D_Ay) : T := (fun d => .leaf (RR_Ay.em d)) d
abbrev G_Ay := NI → Int → Int → Int → Bool → Option D_Ay
def e_Ay (g : G_Ay) : Ct := (109, FC Q_Ay R_Ay (fun b => g b.1.1 b.1.2.1 b.1.2.2.1 b.1.2.2.2 b.2))
def QL_Ay_0 := (open Rq in (st (pr (cu (app 0 1) (us 3 (cu (app 1 9) (cu (app 2 3) (cu (app 3 3) (cu (app 4 3) (us 1 (cl ai (us 15 nil))))))))) (pl (c (so (cl gb nil)) (c (so (cl (gl 9 (cl kci nil)) nil)) (c (so (c gi (c gi (cl gi nil)))) Q2q42))) (cu (nat 0) nil)))) : RS _)
def Z_Ay_0 := (open Rq in (st (pr (cu (app 0 1) (us 3 (cu (app 1 9) (cu (app 2 3) (cu (app 3 3) (cu (app 4 3) (us 1 (c ai (cl ab (us 14 nil)))))))))) (pl (c (so (cl gb nil)) (c (so (cl (gl 9 (cl kci nil)) nil)) (c (so (c gi (c gi (cl gi nil)))) Q2q42))) (cu (nat 0) nil)))) : RS _)
abbrev X_Ay_0 := Z_Ay_0.B
def E_Ay_0 {ρ : Type} (x : X_Ay_0) (K : AX → St → Option ρ) : Option ρ := (fun d => K (AX.ex 0) (Z_Ay_0.em d)) x
def S_Ay_0 (g_AE : G_AE) (d : QL_Ay_0.B) : Pg (QL_Ay_0.B ⊕ X_Ay_0) := let y0 := wI (3 * d.1); let y1 := wI (d.1 + 1); let y2 := Int.toNat y0; let y3 := wI (y0 + 3); let y4 := Int.toNat y3; let y5 := decide (d.1 < 3); let y6 := y4 - y2; cnd y5 (cnd (inRe y3 9) (cnd (inRe y0 y4) (cnd (Nat.beq y6 y6) (opt (g_AE 30 y6 3 d.2.1 (fun j => d.2.2.1 (y2 + j)) (fun j => bif Nat.beq j 2 then d.2.2.2.1.2.2 else bif Nat.beq j 1 then d.2.2.2.1.2.1 else bif Nat.beq j 0 then d.2.2.2.1.1 else d.2.2.2.1.1) false false) fun d_1 => cnd (inR d.1 3) (cnd (d.1 == 2) (ret (Sum.inl (y1,
 d_1.2, d.2.2.1, d.2.2.2.1, d.2.2.2.2.1, d.2.2.2.2.2.1, d_1.1))) (cnd (d.1 == 1) (ret (Sum.inl (y1, d_1.2, d.2.2.1, d.2.2.2.1, d.2.2.2.2.1, d_1.1, d.2.2.2.2.2.2))) (ret (Sum.inl (y1, d_1.2, d.2.2.1, d.2.2.2.1, d_1.1, d.2.2.2.2.2))))) no) no) no) no) (ret (Sum.inr ((d.1, y5), d.2)))
def L_Ay_0 : QL_Ay_0.B → Option X_Ay_0 := loopP (S_Ay_0 f_AE) 2000
def H_Ay (l_0 : QL_Ay_0.B → Option X_Ay_0) : Hs := ⟨[⟨3, (1 :: 2 :: 3 :: 8 :: rg 10 15 []), []⟩], [smQ 3 1 QL_Ay_0 E_Ay_0 l_0], [0], [], (some ⟨0, (rg 0 6 (rg 7 18 [])), []⟩)⟩
def B_Ay (l_0 : QL_Ay_0.B → Option X_Ay_0) (x0 : Nat → Int) (x1 : Int) (x2 : Int) (x3 : Int) (x4 : Bool) : Pg D_Ay := opt (l_0 (0, x4, x0, (x1, x2, x3), 0, 0, 0)) fun d => ret (d.2.2.2.2, d.2.1)
def f_Ay (x0 : Nat → Int) (x1 : Int) (x2 : Int) (x3 : Int) (x4 : Bool) : Option D_Ay := (B_Ay L_Ay_0 x0 x1 x2 x3 x4).val
theorem dl_Ay_0 : ∀ g_AE l_0, LoopIs Tryz.prog [e_AE g_AE] (H_Ay l_0) 1 2000 109 3 QL_Ay_0 E_Ay_0 (S_Ay_0 g_AE) := fun _ _ _ d c K => by kernel_rfl
theorem d_Ay : ∀ g_AE l_0, DenIs Tryz.prog [e_AE g_AE] (H_Ay l_0) 2000 109 Q_Ay R_Ay fun b => B_Ay l_0 b.1.1 b.1.2.1 b.1.2.2.1 b.1.2.2.2 b.2 := fun _ _ b => by kernel_rfl
theorem s_Ay [Amb] : Snd Tryz.prog (e_Ay f_Ay) := Snd.of (mkS mixed (.c s_AE (.nil _)) (by kernel_rfl) (Sums.by (l := [loopIn Tryz.prog 109 3]) (lj := []) (by kernel_rfl) ⟨mkL (S := S_Ay_0 f_AE) (by kernel_rfl) (dl_Ay_0 f_AE L_Ay_0), trivial⟩ (by kernel_rfl) trivial) (d_Ay f_AE L_Ay_0)) (by kernel_rfl)

def Q_Cz := (open Rq in (pl (cl (aa (c gi (c gi (c gb (cl gb nil))))) nil) nil) : RA _)
def RR_Cz := (open Rq in (res (pl ab (pu nil nil))) : RE _)
abbrev D_Cz := RR_Cz.B
def R_Cz (d : D_Cz) : T := (fun d => .leaf (RR_Cz.em d)) d
abbrev G_Cz := Int → Int → Bool → Bool → Option D_Cz
def e_Cz (g : G_Cz) : Ct := (130, FC Q_Cz R_Cz (fun b => g b.1 b.2.1 b.2.2.1 b.2.2.2))
def B_Cz (x0 : Int) (x1 : Int) (x2 : Bool) (x3 : Bool) : Pg D_Cz := let y0 := x0 == 0; let y1 := x0 == 2; cnd y0 (cnd y0 (cnd (x1 == 0) (cnd (!x2) (ret !x3) (ret false)) (ret false)) (cnd y1 (cnd y1 (cnd (decide (x1 ≥ 1)) (cnd (decide (x1 ≤ 3)) (cnd x2 (ret true) (ret y1)) (ret false)) (ret false)) (ret false)) (cnd (x0 == 3) (cnd (decide (x1 ≥ 1)) (cnd (decide (x1 ≤ 3)) (cnd x2 (ret true) (ret y1)) (ret false)) (ret false)) (ret false)))) (cnd (x0 == 1) (cnd (x1 == 0) (cnd (!x2) (ret !x3) (ret false)) (ret false)) (cnd y1 (cnd y1 (cnd (decide (x1 ≥ 1)) (cnd (decide (x1 ≤ 3)) (cnd x2 (ret true) (ret y1)) (ret false)) (ret false)) (ret false)) (cnd (x0 == 3) (cnd (decide (x1 ≥ 1)) (cnd (decide (x1 ≤ 3)) (cnd x2 (ret true) (ret y1)) (ret false)) (ret false)) (ret false))))
def f_Cz (x0 : Int) (x1 : Int) (x2 : Bool) (x3 : Bool) : Option D_Cz := (B_Cz x0 x1 x2 x3).val
theorem d_Cz : DenIs Tryz.prog [] ⟨[], [], [], [], none⟩ 2000 130 Q_Cz R_Cz fun b => B_Cz b.1 b.2.1 b.2.2.1 b.2.2.2 := fun b => by kernel_rfl
theorem s_Cz [Amb] : Snd Tryz.prog (e_Cz f_Cz) := Snd.of (mk0 mixed (.nil _) (by kernel_rfl) d_Cz) (by kernel_rfl)

def Q_Cn := (open Rq in (pl (c ai Q2q31) nil) : RA _)
def RR_Cn := (open Rq in (res (pl ai (pu nil nil))) : RE _)
abbrev D_Cn := RR_Cn.B
def R_Cn (d : D_Cn) : T := (fun d => .leaf (RR_Cn.em d)) d
abbrev G_Cn := Int → Bool → Bool → Bool → Bool → Bool → Bool → Bool → Bool → Int → Int → Int → Option D_Cn
def e_Cn (g : G_Cn) : Ct := (131, FC Q_Cn R_Cn (fun b => g b.1 b.2.1 b.2.2.1 b.2.2.2.1.1 b.2.2.2.1.2.1 b.2.2.2.1.2.2.1 b.2.2.2.1.2.2.2.1 b.2.2.2.1.2.2.2.2.1 b.2.2.2.1.2.2.2.2.2 b.2.2.2.2.1 b.2.2.2.2.2.1 b.2.2.2.2.2.2))
def B_Cn (x0 : Int) (x1 : Bool) (x2 : Bool) (x3 : Bool) (x4 : Bool) (x5 : Bool) (x6 : Bool) (x7 : Bool) (x8 : Bool) (x9 : Int) (x10 : Int) (x11 : Int) : Pg D_Cn := let y0 := x0 == 0; let y1 := x0 == 1; cnd x3 (cnd y0 (cnd x1 (ret 1) (cnd y0 (ret x0) (cnd y1 (cnd (!x2) (ret x0) (ret 3)) (ret 3)))) (cnd y0 (ret x0) (cnd y1 (cnd (!x2) (ret x0) (ret 3)) (ret 3)))) (cnd y0 (cnd x1 (ret 1) (cnd y0 (ret x0) (cnd y1 (cnd (!x2) (ret x0) (cnd x8 (ret 3) (ret 2))) (cnd x8 (ret 3) (ret 2))))) (cnd y0 (ret x0) (cnd y1 (cnd (!x2) (ret x0) (cnd x8 (ret 3) (ret 2))) (cnd x8 (ret 3) (ret 2)))))
def f_Cn (x0 : Int) (x1 : Bool) (x2 : Bool) (x3 : Bool) (x4 : Bool) (x5 : Bool) (x6 : Bool) (x7 : Bool) (x8 : Bool) (x9 : Int) (x10 : Int) (x11 : Int) : Option D_Cn := (B_Cn x0 x1 x2 x3 x4 x5 x6 x7 x8 x9 x10 x11).val
theorem d_Cn : DenIs Tryz.prog [] ⟨[], [], [], [], none⟩ 2000 131 Q_Cn R_Cn fun b => B_Cn b.1 b.2.1 b.2.2.1 b.2.2.2.1.1 b.2.2.2.1.2.1 b.2.2.2.1.2.2.1 b.2.2.2.1.2.2.2.1 b.2.2.2.1.2.2.2.2.1 b.2.2.2.1.2.2.2.2.2 b.2.2.2.2.1 b.2.2.2.2.2.1 b.2.2.2.2.2.2 := fun b => by kernel_rfl
theorem s_Cn [Amb] : Snd Tryz.prog (e_Cn f_Cn) := Snd.of (mk0 mixed (.nil _) (by kernel_rfl) d_Cn) (by kernel_rfl)

def Q_CZ := (open Rq in (pl (cl ai nil) nil) : RA _)
def RR_CZ := (open Rq in (res (pl ai (pu nil nil))) : RE _)
abbrev D_CZ := RR_CZ.B
def R_CZ (d : D_CZ) : T := (fun d => .leaf (RR_CZ.em d)) d
abbrev G_CZ := Int → Option D_CZ
def e_CZ (g : G_CZ) : Ct := (203, FC Q_CZ R_CZ (fun b => g b))
def B_CZ (x0 : Int) : Pg D_CZ := cnd (x0 == 1) (ret 1) (cnd (x0 == 2) (ret 0) (ret 2))
def f_CZ (x0 : Int) : Option D_CZ := (B_CZ x0).val
theorem d_CZ : DenIs Tryz.prog [] ⟨[], [], [], [], none⟩ 2000 203 Q_CZ R_CZ fun b => B_CZ b := fun b => by kernel_rfl
theorem s_CZ [Amb] : Snd Tryz.prog (e_CZ f_CZ) := Snd.of (mk0 mixed (.nil _) (by kernel_rfl) d_CZ) (by kernel_rfl)

def Q_BJ := (open Rq in (pl (c ai Q2q31) nil) : RA _)
def RR_BJ := (open Rq in Q2q10 : RE _)
abbrev D_BJ := RR_BJ.B
def R_BJ (d : D_BJ) : T := (fun d => .leaf (RR_BJ.em d)) d
abbrev G_BJ := Int → Bool → Bool → Bool → Bool → Bool → Bool → Bool → Bool → Int → Int → Int → Option D_BJ
def e_BJ (g : G_BJ) : Ct := (132, FC Q_BJ R_BJ (fun b => g b.1 b.2.1 b.2.2.1 b.2.2.2.1.1 b.2.2.2.1.2.1 b.2.2.2.1.2.2.1 b.2.2.2.1.2.2.2.1 b.2.2.2.1.2.2.2.2.1 b.2.2.2.1.2.2.2.2.2 b.2.2.2.2.1 b.2.2.2.2.2.1 b.2.2.2.2.2.2))
def QL_BJ_0 := (open Rq in (st (pr (c ai (us 1 (xs 1 (cu (app 0 11) (us 2 (xs 1 (us 3 (cu Q2q27 (cu (ac (cf (fi .i64 (int 4)))) (cl ai (us 20 nil))))))))))) (pl (c (so (c gb (c gb (c gb (c gb (c gb (c gb (c gb (c gb (c gi (c gi (cl gi nil)))))))))))) (cl (so (cl gi (cu (gc (cf (fi .i64 (int 1)))) (cu (gc (cf (fi .i64 (int 2)))) (cu (gc (cf (fi .i64 (int 3)))) nil))))) nil)) nil))) : RS _)
def Z_mode_source_0_0 := (open Rq in (st (pl (us 4 (cl ai (cu (ac (cf (fb (bool true)))) (us 27 nil)))) (pu nil nil))) : RS _)
def Z_mode_source_0_1 := (open Rq in (st (pr (c ai (us 1 (xs 1 (cu (app 0 11) (us 2 (xs 1 (us 3 (cu Q2q27 (cu (ac (cf (fi .i64 (int 4)))) (c ai (cl ab (us 19 nil)))))))))))) (pl (c (so (c gb (c gb (c gb (c gb (c gb (c gb (c gb (c gb (c gi (c gi (cl gi nil)))))))))))) (cl (so (cl gi (cu (gc (cf (fi .i64 (int 1)))) (cu (gc (cf (fi .i64 (int 2)))) (cu (gc (cf (fi .i64 (int 3)))) nil))))) nil)) nil))) : RS _)
abbrev X_BJ_0 := Z_mode_source_0_0.B ⊕ Z_mode_source_0_1.B
def E_BJ_0 {ρ : Type} (x : X_BJ_0) (K : AX → St → Option ρ) : Option ρ := (Sum.elim (fun d => K AX.ret (Z_mode_source_0_0.em d)) (fun d => K (AX.ex 0) (Z_mode_source_0_1.em d))) x
def S_BJ_0 (g_CZ : G_CZ) (d : QL_BJ_0.B) : Pg (QL_BJ_0.B ⊕ X_BJ_0) := let y0 := decide (d.1.2 < 4); cnd y0 (cnd (inR d.1.2 4) (cnd (d.1.2 == 3) (opt (g_CZ 3) fun d_1 => cnd (inR d_1 6) (cnd (d_1 == 5) (cnd d.2.1.2.2.2.2.2.2.2.1 (ret (Sum.inr (Sum.inl 3))) (ret (Sum.inl ((d.1.1, wI (d.1.2 + 1)), d.2)))) (cnd (d_1 == 4) (cnd d.2.1.2.2.2.2.2.2.1 (ret (Sum.inr (Sum.inl 3))) (ret (Sum.inl ((d.1.1, wI (d.1.2 + 1)),
 d.2)))) (cnd (d_1 == 3) (cnd d.2.1.2.2.2.2.2.1 (ret (Sum.inr (Sum.inl 3))) (ret (Sum.inl ((d.1.1, wI (d.1.2 + 1)), d.2)))) (cnd (d_1 == 2) (cnd d.2.1.2.2.2.2.1 (ret (Sum.inr (Sum.inl 3))) (ret (Sum.inl ((d.1.1, wI (d.1.2 + 1)), d.2)))) (cnd (d_1 == 1) (cnd d.2.1.2.2.2.1 (ret (Sum.inr (Sum.inl 3))) (ret (Sum.inl ((d.1.1, wI (d.1.2 + 1)), d.2)))) (cnd d.2.1.2.2.1 (ret (Sum.inr (Sum.inl 3))) (ret (Sum.inl ((d.1.1,
 wI (d.1.2 + 1)), d.2))))))))) no) (cnd (d.1.2 == 2) (opt (g_CZ 2) fun d_1 => cnd (inR d_1 6) (cnd (d_1 == 5) (cnd d.2.1.2.2.2.2.2.2.2.1 (ret (Sum.inr (Sum.inl 2))) (ret (Sum.inl ((d.1.1, wI (d.1.2 + 1)), d.2)))) (cnd (d_1 == 4) (cnd d.2.1.2.2.2.2.2.2.1 (ret (Sum.inr (Sum.inl 2))) (ret (Sum.inl ((d.1.1, wI (d.1.2 + 1)), d.2)))) (cnd (d_1 == 3) (cnd d.2.1.2.2.2.2.2.1 (ret (Sum.inr (Sum.inl 2))) (ret (Sum.inl ((d.1.1,
 wI (d.1.2 + 1)), d.2)))) (cnd (d_1 == 2) (cnd d.2.1.2.2.2.2.1 (ret (Sum.inr (Sum.inl 2))) (ret (Sum.inl ((d.1.1, wI (d.1.2 + 1)), d.2)))) (cnd (d_1 == 1) (cnd d.2.1.2.2.2.1 (ret (Sum.inr (Sum.inl 2))) (ret (Sum.inl ((d.1.1, wI (d.1.2 + 1)), d.2)))) (cnd d.2.1.2.2.1 (ret (Sum.inr (Sum.inl 2))) (ret (Sum.inl ((d.1.1, wI (d.1.2 + 1)), d.2))))))))) no) (cnd (d.1.2 == 1) (opt (g_CZ 1) fun d_1 => cnd (inR d_1 6) (cnd (d_1 == 5) (cnd d.2.1.2.2.2.2.2.2.2.1 (ret (Sum.inr (Sum.inl 1))) (ret (Sum.inl ((d.1.1,
 wI (d.1.2 + 1)), d.2)))) (cnd (d_1 == 4) (cnd d.2.1.2.2.2.2.2.2.1 (ret (Sum.inr (Sum.inl 1))) (ret (Sum.inl ((d.1.1, wI (d.1.2 + 1)), d.2)))) (cnd (d_1 == 3) (cnd d.2.1.2.2.2.2.2.1 (ret (Sum.inr (Sum.inl 1))) (ret (Sum.inl ((d.1.1, wI (d.1.2 + 1)), d.2)))) (cnd (d_1 == 2) (cnd d.2.1.2.2.2.2.1 (ret (Sum.inr (Sum.inl 1))) (ret (Sum.inl ((d.1.1, wI (d.1.2 + 1)), d.2)))) (cnd (d_1 == 1) (cnd d.2.1.2.2.2.1 (ret (Sum.inr (Sum.inl 1))) (ret (Sum.inl ((d.1.1,
 wI (d.1.2 + 1)), d.2)))) (cnd d.2.1.2.2.1 (ret (Sum.inr (Sum.inl 1))) (ret (Sum.inl ((d.1.1, wI (d.1.2 + 1)), d.2))))))))) no) (cnd (decide (d.2.2 ≥ 1)) (cnd (decide (d.2.2 ≤ 3)) (opt (g_CZ d.2.2) fun d_1 => cnd (inR d_1 6) (cnd (d_1 == 5) (cnd d.2.1.2.2.2.2.2.2.2.1 (ret (Sum.inr (Sum.inl d.2.2))) (ret (Sum.inl ((d.1.1, wI (d.1.2 + 1)), d.2)))) (cnd (d_1 == 4) (cnd d.2.1.2.2.2.2.2.2.1 (ret (Sum.inr (Sum.inl d.2.2))) (ret (Sum.inl ((d.1.1,
 wI (d.1.2 + 1)), d.2)))) (cnd (d_1 == 3) (cnd d.2.1.2.2.2.2.2.1 (ret (Sum.inr (Sum.inl d.2.2))) (ret (Sum.inl ((d.1.1, wI (d.1.2 + 1)), d.2)))) (cnd (d_1 == 2) (cnd d.2.1.2.2.2.2.1 (ret (Sum.inr (Sum.inl d.2.2))) (ret (Sum.inl ((d.1.1, wI (d.1.2 + 1)), d.2)))) (cnd (d_1 == 1) (cnd d.2.1.2.2.2.1 (ret (Sum.inr (Sum.inl d.2.2))) (ret (Sum.inl ((d.1.1, wI (d.1.2 + 1)), d.2)))) (cnd d.2.1.2.2.1 (ret (Sum.inr (Sum.inl d.2.2))) (ret (Sum.inl ((d.1.1,
 wI (d.1.2 + 1)), d.2))))))))) no) (ret (Sum.inl ((d.1.1, wI (d.1.2 + 1)), d.2)))) (ret (Sum.inl ((d.1.1, wI (d.1.2 + 1)), d.2))))))) no) (ret (Sum.inr (Sum.inr ((d.1.1, d.1.2, y0), d.2))))
def L_BJ_0 : QL_BJ_0.B → Option X_BJ_0 := loopP (S_BJ_0 f_CZ) 2000
def H_BJ (l_0 : QL_BJ_0.B → Option X_BJ_0) : Hs := ⟨[⟨2, [1, 4, 5, 7, 8, 9, 13, 14, 15, 16, 17, 18, 21, 22, 28, 29, 30, 31, 32, 19, 20, 23, 24, 25, 26, 27], []⟩], [smQ 2 0 QL_BJ_0 E_BJ_0 l_0], [], [], (some ⟨0, (rg 0 4 (rg 6 27 [])), []⟩)⟩
def B_BJ (l_0 : QL_BJ_0.B → Option X_BJ_0) (x0 : Int) (x1 : Bool) (x2 : Bool) (x3 : Bool) (x4 : Bool) (x5 : Bool) (x6 : Bool) (x7 : Bool) (x8 : Bool) (x9 : Int) (x10 : Int) (x11 : Int) : Pg D_BJ := opt (l_0 ((x0, 0), (x1, x2, x3, x4, x5, x6, x7, x8, x9, x10, x11), x11)) fun x => sum x (fun d => ret (d, true)) fun d => ret (if 1 > d.1.1 then 1 else d.1.1, false)
def f_BJ (x0 : Int) (x1 : Bool) (x2 : Bool) (x3 : Bool) (x4 : Bool) (x5 : Bool) (x6 : Bool) (x7 : Bool) (x8 : Bool) (x9 : Int) (x10 : Int) (x11 : Int) : Option D_BJ := (B_BJ L_BJ_0 x0 x1 x2 x3 x4 x5 x6 x7 x8 x9 x10 x11).val
theorem dl_BJ_0 : ∀ g_CZ l_0, LoopIs Tryz.prog [e_CZ g_CZ] (H_BJ l_0) 0 2000 132 2 QL_BJ_0 E_BJ_0 (S_BJ_0 g_CZ) := fun _ _ _ d c K => by kernel_rfl
theorem d_BJ : ∀ g_CZ l_0, DenIs Tryz.prog [e_CZ g_CZ] (H_BJ l_0) 2000 132 Q_BJ R_BJ fun b => B_BJ l_0 b.1 b.2.1 b.2.2.1 b.2.2.2.1.1 b.2.2.2.1.2.1 b.2.2.2.1.2.2.1 b.2.2.2.1.2.2.2.1 b.2.2.2.1.2.2.2.2.1 b.2.2.2.1.2.2.2.2.2 b.2.2.2.2.1 b.2.2.2.2.2.1 b.2.2.2.2.2.2 := fun _ _ b => by kernel_rfl
theorem s_BJ [Amb] : Snd Tryz.prog (e_BJ f_BJ) := Snd.of (mkS mixed (.c s_CZ (.nil _)) (by kernel_rfl) (Sums.by (l := [loopIn Tryz.prog 132 2]) (lj := []) (by kernel_rfl) ⟨mkL (S := S_BJ_0 f_CZ) (by kernel_rfl) (dl_BJ_0 f_CZ L_BJ_0), trivial⟩ (by kernel_rfl) trivial) (d_BJ f_CZ L_BJ_0)) (by kernel_rfl)

def Q_BW := (open Rq in (pl (c (aa (c gi (c gi (c gb (cl gb nil))))) Q2q31) nil) : RA _)
def RR_BW := (open Rq in (res (pl (atup (c (ra (c gi (c gi (c gb (cl gb nil))))) (cl (ra (c gi (c gi (c gb (c gb (c gi (cl gi nil))))))) nil))) (pu nil nil))) : RE _)
abbrev D_BW := (ty9 × Int × Int)
def R_BW (d : D_BW) : T := (fun d => .leaf (RR_BW.em (d.1, d.1.1, d.1.2.1, d.1.2.2.1, d.1.2.2.2, d.2))) d
abbrev G_BW := Q_BW.B → Option D_BW
def e_BW (g : G_BW) : Ct := (71, FC Q_BW R_BW g)
def B_BW (g_Cz : G_Cz) (g_Cn : G_Cn) (g_BJ : G_BJ) (x : Q_BW.B) : Pg D_BW := let y0 := decide (x.2.2.2.2.1 ≥ 0); opt (g_Cz x.1.1 x.1.2.1 x.1.2.2.1 x.1.2.2.2) fun d => cnd (!d) (opt (g_Cn 0 x.2.1 x.2.2.1 x.2.2.2.1.1 x.2.2.2.1.2.1 x.2.2.2.1.2.2.1 x.2.2.2.1.2.2.2.1 x.2.2.2.1.2.2.2.2.1 x.2.2.2.1.2.2.2.2.2 x.2.2.2.2.1 x.2.2.2.2.2.1 x.2.2.2.2.2.2) fun d => cnd (decide (d ≥ 2)) (opt (g_BJ 0 x.2.1 x.2.2.1 x.2.2.2.1.1 x.2.2.2.1.2.1 x.2.2.2.1.2.2.1 x.2.2.2.1.2.2.2.1 x.2.2.2.1.2.2.2.2.1 x.2.2.2.1.2.2.2.2.2 x.2.2.2.2.1 x.2.2.2.2.2.1 x.2.2.2.2.2.2) fun d_1 => cnd (d == 3) (ret ((d,
 d_1.1, true, !d_1.2), 0, 0)) (cnd y0 (ret ((d, d_1.1, decide (x.2.2.2.2.1 ≤ x.2.2.2.2.2.1), !d_1.2), 0, 0)) (ret ((d, d_1.1, false, !d_1.2), 0, 0)))) (ret ((d, 0, false, false), 0, 0))) (opt (g_Cn x.1.1 x.2.1 x.2.2.1 x.2.2.2.1.1 x.2.2.2.1.2.1 x.2.2.2.1.2.2.1 x.2.2.2.1.2.2.2.1 x.2.2.2.1.2.2.2.2.1 x.2.2.2.1.2.2.2.2.2 x.2.2.2.2.1 x.2.2.2.2.2.1 x.2.2.2.2.2.2) fun d => cnd (decide (d ≥ 2)) (opt (g_BJ x.1.2.1 x.2.1 x.2.2.1 x.2.2.2.1.1 x.2.2.2.1.2.1 x.2.2.2.1.2.2.1 x.2.2.2.1.2.2.2.1 x.2.2.2.1.2.2.2.2.1 x.2.2.2.1.2.2.2.2.2 x.2.2.2.2.1 x.2.2.2.2.2.1 x.2.2.2.2.2.2) fun d_1 => cnd (d == 3) (ret ((d,
 d_1.1, true, !d_1.2), x.1.1, x.1.2.1)) (cnd y0 (ret ((d, d_1.1, decide (x.2.2.2.2.1 ≤ x.2.2.2.2.2.1), !d_1.2), x.1.1, x.1.2.1)) (ret ((d, d_1.1, false, !d_1.2), x.1.1, x.1.2.1)))) (ret ((d, 0, false, false), x.1.1, x.1.2.1)))
def f_BW (x : Q_BW.B) : Option D_BW := (B_BW f_Cz f_Cn f_BJ x).val
theorem d_BW : ∀ g_Cz g_Cn g_BJ, DenIs Tryz.prog [e_Cz g_Cz, e_Cn g_Cn, e_BJ g_BJ] ⟨[], [], [], [], none⟩ 2000 71 Q_BW R_BW fun b => B_BW g_Cz g_Cn g_BJ b := fun _ _ _ b => by kernel_rfl
theorem s_BW [Amb] : Snd Tryz.prog (e_BW f_BW) := Snd.of (mk0 mixed (.c s_Cz (.c s_Cn (.c s_BJ (.nil _)))) (by kernel_rfl) (d_BW f_Cz f_Cn f_BJ)) (by kernel_rfl)

def Q_AK := (open Rq in (dp (cu (app 0 1) (cl (ac (slc 1 3)) nil)) fun a => (c (cl gb nil) (cl (cl (gs a.1 (c kci (c kci (cl kci nil)))) nil) nil))) : RA _)
def RR_AK := (open Rq in (res (pr (aa (c gi (c gi (cl gi nil)))) (pl (cl (chs (cl gb nil)) (cu chk nil)) nil))) : RE _)
abbrev D_AK := RR_AK.B
def R_AK (d : D_AK) : T := (fun d => .leaf (RR_AK.em d)) d
abbrev G_AK := Nat → Bool → NI → NI → NI → Bool → Option D_AK
def e_AK (g : G_AK) : Ct := (105, nilF 1 [.i .i64, .i .i64, .i .i64] (FC Q_AK R_AK (fun b => g b.1.1 b.2.1 b.2.2.1 b.2.2.2.1 b.2.2.2.2 b.1.2)))
def QL_AK_1 := (open Rq in (st (dp (cu (app 0 1) (c (ac (slc 1 3)) (us 2 (cu (app 2 3) (cu (app 3 3) (c ai (c Q2q24 (us 2 (c ai (us 2 (c (ac (slc 1 3)) (c ai (cl ai (us 17 nil)))))))))))))) fun a => (pl (c (so (cl gb nil)) (c (so (cl (gs a.1.1 (c kci (c kci (cl kci nil)))) nil)) (cu Q2q33 (c (so (c gi (c gi (cl gi nil)))) (cl (so (cl (gs a.2.2.1 (cl kci nil)) nil)) nil))))) (cu (nat 0) nil)))) : RS _)
def Z_AK_1 := (open Rq in (st (pr (cu (app 0 1) (c (ac (slc 1 3)) (us 2 (cu (app 2 3) (cu (app 3 3) (c ai (c Q2q24 (us 2 (c ai (us 2 (c (ac (slc 1 3)) (c ai (c ai (cl ab (us 16 nil))))))))))))))) (pl (c (so (cl gb nil)) (c Q2q15 (cu Q2q33 (c (so (c gi (c gi (cl gi nil)))) Q2q8)))) (cu (nat 0) nil)))) : RS _)
abbrev X_AK_1 := (((Nat × Bool) × Int × Nat × Int × (Nat × Bool) × Int × Int × Bool) × Bool × (NI × NI × NI) × (Int × Int × Int) × NI)
def E_AK_1 {ρ : Type} (x : X_AK_1) (K : AX → St → Option ρ) : Option ρ := (fun d => K (AX.ex 2) (Z_AK_1.em (d.1, d.2.1, (d.1.1.1, d.2.2.1), d.2.2.2.1, d.1.2.2.1, d.2.2.2.2))) x
def S_AK_1 (d : QL_AK_1.B) : Pg (QL_AK_1.B ⊕ X_AK_1) := let y0 := d.1.2.2.1 + 1; let y1 := Int.toNat d.1.2.2.2.2.2.2; let y2 := Nat.ble (y0 * 8) 140737488355328; let y3 := decide (d.1.2.2.2.2.2.2 < d.1.2.2.2.2.2.1); cnd y3 (cnd (inR d.1.2.2.2.2.2.2 d.1.2.2.2.2.1.1) (cnd (inR d.1.2.1 3) (cnd (d.1.2.1 == 2) (cnd y2 (ret (Sum.inl ((d.1.1, d.1.2.1, y0, d.1.2.2.2.1, d.1.2.2.2.2.1, d.1.2.2.2.2.2.1, wI (d.1.2.2.2.2.2.2 + 1)),
 d.2.1, d.2.2.1, d.2.2.2.1, fun j => bif Nat.beq j d.1.2.2.1 then d.2.2.1.2.2 y1 else d.2.2.2.2 j))) no) (cnd (d.1.2.1 == 1) (cnd y2 (ret (Sum.inl ((d.1.1, d.1.2.1, y0, d.1.2.2.2.1, d.1.2.2.2.2.1, d.1.2.2.2.2.2.1, wI (d.1.2.2.2.2.2.2 + 1)), d.2.1, d.2.2.1, d.2.2.2.1, fun j => bif Nat.beq j d.1.2.2.1 then d.2.2.1.2.1 y1 else d.2.2.2.2 j))) no) (cnd y2 (ret (Sum.inl ((d.1.1, d.1.2.1, y0, d.1.2.2.2.1,
 d.1.2.2.2.2.1, d.1.2.2.2.2.2.1, wI (d.1.2.2.2.2.2.2 + 1)), d.2.1, d.2.2.1, d.2.2.2.1, fun j => bif Nat.beq j d.1.2.2.1 then d.2.2.1.1 y1 else d.2.2.2.2 j))) no))) no) no) (ret (Sum.inr ((d.1.1, d.1.2.1, d.1.2.2.1, d.1.2.2.2.1, d.1.2.2.2.2.1, d.1.2.2.2.2.2.1, d.1.2.2.2.2.2.2, y3), d.2)))
def L_AK_1 : QL_AK_1.B → Option X_AK_1 := loopP (S_AK_1) 2000
def QL_AK_0 := (open Rq in (st (dp (cu (app 0 1) (c (ac (slc 1 3)) (us 2 (cu (app 2 3) (cu (app 3 3) (us 4 (cl ai (us 22 nil)))))))) fun a => (pl (c (so (cl gb nil)) (c (so (cl (gs a.1.1 (c kci (c kci (cl kci nil)))) nil)) Q2q42)) (cu (nat 0) nil)))) : RS _)
def Z_AK_0 := (open Rq in (st (pr (cu (app 0 1) (c (ac (slc 1 3)) (us 2 (cu (app 2 3) (cu (app 3 3) (us 4 (c ai (cl ab (us 21 nil))))))))) (pl (c (so (cl gb nil)) (c Q2q15 Q2q42)) (cu (nat 0) nil)))) : RS _)
abbrev X_AK_0 := (((Nat × Bool) × Int × Bool) × Bool × (NI × NI × NI) × Int × Int × Int)
def E_AK_0 {ρ : Type} (x : X_AK_0) (K : AX → St → Option ρ) : Option ρ := (fun d => K (AX.ex 0) (Z_AK_0.em (d.1, d.2.1, (d.1.1.1, d.2.2.1), d.2.2.2))) x
def S_AK_0 (g_Aa : G_Aa) (l_1 : QL_AK_1.B → Option X_AK_1) (d : QL_AK_0.B) : Pg (QL_AK_0.B ⊕ X_AK_0) := let y0 := decide (d.1.2 < 3); cnd y0 (cnd (Nat.beq d.1.1.1 d.1.1.1) (cnd true (opt (l_1 ((d.1.1, d.1.2, 0, d.1.2, d.1.1, Int.ofNat d.1.1.1, 0), d.2.1, d.2.2.1, d.2.2.2, fun x => 0)) fun d => cnd (Nat.beq d.1.2.2.1 d.1.2.2.1) (opt (g_Aa d.1.2.2.1 d.2.1 d.2.2.2.2 true) fun d_1 => cnd (inR d.1.2.1 3) (cnd (d.1.2.1 == 2) (ret (Sum.inl ((d.1.1,
 wI (d.1.2.2.2.1 + 1)), d_1.2, d.2.2.1, d.2.2.2.1.1, d.2.2.2.1.2.1, d_1.1))) (cnd (d.1.2.1 == 1) (ret (Sum.inl ((d.1.1, wI (d.1.2.2.2.1 + 1)), d_1.2, d.2.2.1, d.2.2.2.1.1, d_1.1, d.2.2.2.1.2.2))) (ret (Sum.inl ((d.1.1, wI (d.1.2.2.2.1 + 1)), d_1.2, d.2.2.1, d_1.1, d.2.2.2.1.2))))) no) no) no) no) (ret (Sum.inr ((d.1.1, d.1.2, y0), d.2)))
def L_AK_0 : QL_AK_0.B → Option X_AK_0 := loopP (S_AK_0 f_Aa L_AK_1) 2000
def H_AK (l_1 : QL_AK_1.B → Option X_AK_1) (l_0 : QL_AK_0.B → Option X_AK_0) : Hs := ⟨[⟨3, (2 :: 3 :: rg 6 4 (rg 11 22 [])), []⟩, ⟨7, (2 :: 3 :: 8 :: 9 :: 11 :: 12 :: rg 16 17 []), [(7, [.i .i64])]⟩], [smQ 7 2 QL_AK_1 E_AK_1 l_1, smQ 3 2 QL_AK_0 E_AK_0 l_0], [0], [], (some ⟨0, (rg 0 4 (rg 5 28 [])), []⟩)⟩
def B_AK (l_0 : QL_AK_0.B → Option X_AK_0) (x0 : Nat) (x1 : Bool) (x2 : Nat → Int) (x3 : Nat → Int) (x4 : Nat → Int) (w0 : Bool) : Pg D_AK := cnd (Nat.beq x0 x0) (opt (l_0 (((x0, w0), 0), x1, (x2, x3, x4), 0, 0, 0)) fun d => ret (d.2.2.2, d.2.1)) no
def f_AK (x0 : Nat) (x1 : Bool) (x2 : Nat → Int) (x3 : Nat → Int) (x4 : Nat → Int) (w0 : Bool) : Option D_AK := (B_AK L_AK_0 x0 x1 x2 x3 x4 w0).val
theorem dl_AK_1 : ∀ g_Aa l_1 l_0, LoopIs Tryz.prog [e_Aa g_Aa] (H_AK l_1 l_0) 2 2000 105 7 QL_AK_1 E_AK_1 (S_AK_1) := fun _ _ _ _ d c K => by kernel_rfl
theorem dl_AK_0 : ∀ g_Aa l_1 l_0, LoopIs Tryz.prog [e_Aa g_Aa] (H_AK l_1 l_0) 2 2000 105 3 QL_AK_0 E_AK_0 (S_AK_0 g_Aa l_1) := fun _ _ _ _ d c K => by kernel_rfl
theorem d_AK : ∀ g_Aa l_1 l_0, DenIs Tryz.prog [e_Aa g_Aa] (H_AK l_1 l_0) 2000 105 Q_AK R_AK fun b => B_AK l_0 b.1.1 b.2.1 b.2.2.1 b.2.2.2.1 b.2.2.2.2 b.1.2 := fun _ _ _ b => by kernel_rfl
theorem s_AK [Amb] : Snd Tryz.prog (e_AK f_AK) := Snd.of (Sound.nil 1 [.i .i64, .i .i64, .i .i64] <| mkS mixed (.c s_Aa (.nil _)) (by kernel_rfl) (Sums.by (l := [loopIn Tryz.prog 105 3, loopIn Tryz.prog 105 7]) (lj := []) (by kernel_rfl) ⟨mkL (S := S_AK_0 f_Aa L_AK_1) (by kernel_rfl) (dl_AK_0 f_Aa L_AK_1 L_AK_0), ⟨mkL (S := S_AK_1) (by kernel_rfl) (dl_AK_1 f_Aa L_AK_1 L_AK_0), trivial⟩⟩ (by kernel_rfl) trivial) (d_AK f_Aa L_AK_1 L_AK_0)) (by kernel_rfl)

def Q_AG := (open Rq in (pr (cu (app 0 1) Q2q3) (cl (cl gb nil) nil)) : RA _)
def RR_AG := (open Rq in Q2q26 : RE _)
abbrev D_AG := RR_AG.B
def R_AG (d : D_AG) : T := (fun d => .leaf (RR_AG.em d)) d
abbrev G_AG := Int → Int → Int → Int → Bool → Option D_AG
def e_AG (g : G_AG) : Ct := (50, FC Q_AG R_AG (fun b => g b.1.1 b.1.2.1 b.1.2.2.1 b.1.2.2.2 b.2))
def QL_AG_1 := (open Rq in (st (pr (cu (app 0 1) (us 2 (cu (app 1 4) (cu (app 2 4) (c ai (us 8 (c ai (us 4 (cl ai (us 13 nil)))))))))) (pl (c (so (cl gb nil)) (cl (so (c gi (c gi (c gi (cl gi nil))))) (cu Q2q41 nil))) (cu (nat 0) nil)))) : RS _)
def Z_AG_1 := (open Rq in (st (pr (cu (app 0 1) (us 2 (cu (app 1 4) (cu (app 2 4) (c ai (us 8 (c ai (us 4 (c ai (cl ab (us 12 nil))))))))))) (pl (c (so (cl gb nil)) (cl (so (c gi (c gi (c gi (cl gi nil))))) (cu Q2q41 nil))) (cu (nat 0) nil)))) : RS _)
abbrev X_AG_1 := Z_AG_1.B
def E_AG_1 {ρ : Type} (x : X_AG_1) (K : AX → St → Option ρ) : Option ρ := (fun d => K (AX.ex 2) (Z_AG_1.em d)) x
def S_AG_1 (g_AL : G_AL) (d : QL_AG_1.B) : Pg (QL_AG_1.B ⊕ X_AG_1) := let y0 := inR d.1.2.2 4; let y1 := d.1.2.2 == 2; let y2 := d.1.2.2 == 1; let y3 := d.1.2.2 == 3; let y4 := decide (d.1.2.2 < 4); cnd y4 (cnd y0 (cnd y3 (opt (g_AL d.2.2.2.2.2 d.1.1 30 d.2.1) fun d_1 => cnd y0 (cnd y3 (ret (Sum.inl ((d.1.1, d.1.2.1, wI (d.1.2.2 + 1)), d_1.2, d.2.2.1, d.2.2.2.1, d.2.2.2.2.1, d_1.1))) (cnd y1 (ret (Sum.inl ((d.1.1,
 d.1.2.1, wI (d.1.2.2 + 1)), d_1.2, d.2.2.1, d.2.2.2.1, d_1.1, d.2.2.2.2.2))) (cnd y2 (ret (Sum.inl ((d.1.1, d.1.2.1, wI (d.1.2.2 + 1)), d_1.2, d.2.2.1, d_1.1, d.2.2.2.2))) (ret (Sum.inl ((d.1.1, d.1.2.1, wI (d.1.2.2 + 1)), d_1.2, d_1.1, d.2.2.2)))))) no) (cnd y1 (opt (g_AL d.2.2.2.2.1 d.1.1 30 d.2.1) fun d_1 => cnd y0 (cnd y3 (ret (Sum.inl ((d.1.1, d.1.2.1, wI (d.1.2.2 + 1)), d_1.2, d.2.2.1, d.2.2.2.1,
 d.2.2.2.2.1, d_1.1))) (cnd y1 (ret (Sum.inl ((d.1.1, d.1.2.1, wI (d.1.2.2 + 1)), d_1.2, d.2.2.1, d.2.2.2.1, d_1.1, d.2.2.2.2.2))) (cnd y2 (ret (Sum.inl ((d.1.1, d.1.2.1, wI (d.1.2.2 + 1)), d_1.2, d.2.2.1, d_1.1, d.2.2.2.2))) (ret (Sum.inl ((d.1.1, d.1.2.1, wI (d.1.2.2 + 1)), d_1.2, d_1.1, d.2.2.2)))))) no) (cnd y2 (opt (g_AL d.2.2.2.1 d.1.1 30 d.2.1) fun d_1 => cnd y0 (cnd y3 (ret (Sum.inl ((d.1.1,
 d.1.2.1, wI (d.1.2.2 + 1)), d_1.2, d.2.2.1, d.2.2.2.1, d.2.2.2.2.1, d_1.1))) (cnd y1 (ret (Sum.inl ((d.1.1, d.1.2.1, wI (d.1.2.2 + 1)), d_1.2, d.2.2.1, d.2.2.2.1, d_1.1, d.2.2.2.2.2))) (cnd y2 (ret (Sum.inl ((d.1.1, d.1.2.1, wI (d.1.2.2 + 1)), d_1.2, d.2.2.1, d_1.1, d.2.2.2.2))) (ret (Sum.inl ((d.1.1, d.1.2.1, wI (d.1.2.2 + 1)), d_1.2, d_1.1, d.2.2.2)))))) no) (opt (g_AL d.2.2.1 d.1.1 30 d.2.1) fun d_1 => cnd y0 (cnd y3 (ret (Sum.inl ((d.1.1,
 d.1.2.1, wI (d.1.2.2 + 1)), d_1.2, d.2.2.1, d.2.2.2.1, d.2.2.2.2.1, d_1.1))) (cnd y1 (ret (Sum.inl ((d.1.1, d.1.2.1, wI (d.1.2.2 + 1)), d_1.2, d.2.2.1, d.2.2.2.1, d_1.1, d.2.2.2.2.2))) (cnd y2 (ret (Sum.inl ((d.1.1, d.1.2.1, wI (d.1.2.2 + 1)), d_1.2, d.2.2.1, d_1.1, d.2.2.2.2))) (ret (Sum.inl ((d.1.1, d.1.2.1, wI (d.1.2.2 + 1)), d_1.2, d_1.1, d.2.2.2)))))) no)))) no) (ret (Sum.inr ((d.1.1, d.1.2.1,
 d.1.2.2, y4), d.2)))
def L_AG_1 : QL_AG_1.B → Option X_AG_1 := loopP (S_AG_1 f_AL) 2000
def QL_AG_0 := (open Rq in (st (pr (cu (app 0 1) (us 2 (cu (app 1 4) (cu (app 2 4) (us 9 (cl ai (us 18 nil))))))) (pl (c (so (cl gb nil)) (cl (so (c gi (c gi (c gi (cl gi nil))))) (cu Q2q41 nil))) (cu (nat 0) nil)))) : RS _)
def Z_AG_0 := (open Rq in (st (pr (cu (app 0 1) (us 2 (cu (app 1 4) (cu (app 2 4) (us 9 (c ai (cl ab (us 17 nil)))))))) (pl (c (so (cl gb nil)) (cl (so (c gi (c gi (c gi (cl gi nil))))) (cu Q2q41 nil))) (cu (nat 0) nil)))) : RS _)
abbrev X_AG_0 := Z_AG_0.B
def E_AG_0 {ρ : Type} (x : X_AG_0) (K : AX → St → Option ρ) : Option ρ := (fun d => K (AX.ex 0) (Z_AG_0.em d)) x
def S_AG_0 (g_Af : G_Af) (l_1 : QL_AG_1.B → Option X_AG_1) (d : QL_AG_0.B) : Pg (QL_AG_0.B ⊕ X_AG_0) := let y0 := decide (d.1 < 2); cnd y0 (opt (g_Af 4 d.2.1 (fun j => bif Nat.beq j 3 then d.2.2.2.2.2 else bif Nat.beq j 2 then d.2.2.2.2.1 else bif Nat.beq j 1 then d.2.2.2.1 else bif Nat.beq j 0 then d.2.2.1 else d.2.2.1) false) fun d_1 => opt (l_1 ((d_1.1, d.1, 0), d_1.2, d.2.2)) fun d => ret (Sum.inl (wI (d.1.2.1 + 1), d.2))) (ret (Sum.inr ((d.1, y0), d.2)))
def L_AG_0 : QL_AG_0.B → Option X_AG_0 := loopP (S_AG_0 f_Af L_AG_1) 2000
def H_AG (l_1 : QL_AG_1.B → Option X_AG_1) (l_0 : QL_AG_0.B → Option X_AG_0) : Hs := ⟨[⟨5, (1 :: 2 :: rg 5 9 (rg 15 18 [])), []⟩, ⟨8, (1 :: 2 :: rg 6 8 (rg 15 4 (rg 20 13 []))), []⟩], [smQ 8 1 QL_AG_1 E_AG_1 l_1, smQ 5 1 QL_AG_0 E_AG_0 l_0], [], [], (some ⟨0, (rg 0 4 (rg 5 28 [])), []⟩)⟩
def B_AG (g_AS : G_AS) (g_Ar : G_Ar) (l_0 : QL_AG_0.B → Option X_AG_0) (x0 : Int) (x1 : Int) (x2 : Int) (x3 : Int) (x4 : Bool) : Pg D_AG := opt (g_AS x0 x1 x2 x3 x4) fun d => cnd (d.1.1 == 0 && (d.1.2.1 == 0 && (d.1.2.2.1 == 0 && (d.1.2.2.2 == 0 && true)))) (opt g_Ar fun d_1 => ret ((1073741824, 0, 0, 0), d.2)) (opt (l_0 (0, d.2, d.1)) fun d => ret (d.2.2, d.2.1))
def f_AG (x0 : Int) (x1 : Int) (x2 : Int) (x3 : Int) (x4 : Bool) : Option D_AG := (B_AG f_AS f_Ar L_AG_0 x0 x1 x2 x3 x4).val
theorem dl_AG_1 : ∀ g_AS g_Ar g_Af g_AL l_1 l_0, LoopIs Tryz.prog [e_AS g_AS, e_Ar g_Ar, e_Af g_Af, e_AL g_AL] (H_AG l_1 l_0) 1 2000 50 8 QL_AG_1 E_AG_1 (S_AG_1 g_AL) := fun _ _ _ _ _ _ _ d c K => by kernel_rfl
theorem dl_AG_0 : ∀ g_AS g_Ar g_Af g_AL l_1 l_0, LoopIs Tryz.prog [e_AS g_AS, e_Ar g_Ar, e_Af g_Af, e_AL g_AL] (H_AG l_1 l_0) 1 2000 50 5 QL_AG_0 E_AG_0 (S_AG_0 g_Af l_1) := fun _ _ _ _ _ _ _ d c K => by kernel_rfl
theorem d_AG : ∀ g_AS g_Ar g_Af g_AL l_1 l_0, DenIs Tryz.prog [e_AS g_AS, e_Ar g_Ar, e_Af g_Af, e_AL g_AL] (H_AG l_1 l_0) 2000 50 Q_AG R_AG fun b => B_AG g_AS g_Ar l_0 b.1.1 b.1.2.1 b.1.2.2.1 b.1.2.2.2 b.2 := fun _ _ _ _ _ _ b => by kernel_rfl
theorem s_AG [Amb] : Snd Tryz.prog (e_AG f_AG) := Snd.of (mkS mixed (.c s_AS (.c s_Ar (.c s_Af (.c s_AL (.nil _))))) (by kernel_rfl) (Sums.by (l := [loopIn Tryz.prog 50 5, loopIn Tryz.prog 50 8]) (lj := []) (by kernel_rfl) ⟨mkL (S := S_AG_0 f_Af L_AG_1) (by kernel_rfl) (dl_AG_0 f_AS f_Ar f_Af f_AL L_AG_1 L_AG_0), ⟨mkL (S := S_AG_1 f_AL) (by kernel_rfl) (dl_AG_1 f_AS f_Ar f_Af f_AL L_AG_1 L_AG_0), trivial⟩⟩ (by kernel_rfl) trivial) (d_AG f_AS f_Ar f_Af f_AL L_AG_1 L_AG_0)) (by kernel_rfl)

def Q_AA := (open Rq in (pr (cu (app 0 1) (cl Q2q12 (cu (app 1 576) nil))) (c (cl gb nil) (cl (cl (gl 576 (cl kci nil)) nil) nil))) : RA _)
def RR_AA := (open Rq in (res (pu (app 2 1152) (pr (cl (chs (cl gb nil)) (cu chk nil)) (cl (cl (gl 1152 (cl kci nil)) nil) nil)))) : RE _)
abbrev D_AA := RR_AA.B
def R_AA (d : D_AA) : T := (fun d => .leaf (RR_AA.em d)) d
abbrev G_AA := NI → NI → Bool → NI → Option D_AA
def e_AA (g : G_AA) : Ct := (180, FC Q_AA R_AA (fun b => g b.1.1 b.1.2 b.2.1 b.2.2))
def QL_AA_1 := (open Rq in (st (pr (cu (app 0 1) (us 1 (cu (app 1 576) (us 1 (cu (app 2 300) (us 2 (cu (app 3 1152) (c ai (cu (app 4 24) (us 3 (c ai (us 3 (c ai (cl ai (us 35 nil))))))))))))))) (pl (c (so (cl gb nil)) (c (so (cl (gl 576 (cl kci nil)) nil)) (c Q2q13 (c (so (cl (gl 1152 (cl kci nil)) nil)) Q2q0)))) (cu (nat 0) nil)))) : RS _)
def Z_AA_1 := (open Rq in (st (pr (cu (app 0 1) (us 1 (cu (app 1 576) (us 1 (cu (app 2 300) (us 2 (cu (app 3 1152) (c ai (cu (app 4 24) (us 3 (c ai (us 3 (c ai (c ai (cl ab (us 34 nil)))))))))))))))) (pl (c (so (cl gb nil)) (c (so (cl (gl 576 (cl kci nil)) nil)) (c Q2q13 (c (so (cl (gl 1152 (cl kci nil)) nil)) Q2q0)))) (cu (nat 0) nil)))) : RS _)
abbrev X_AA_1 := Z_AA_1.B
def E_AA_1 {ρ : Type} (x : X_AA_1) (K : AX → St → Option ρ) : Option ρ := (fun d => K (AX.ex 2) (Z_AA_1.em d)) x
def S_AA_1 (g_Bk : G_Bk) (d : QL_AA_1.B) : Pg (QL_AA_1.B ⊕ X_AA_1) := let y0 := Int.toNat d.1.2.2.2; let y1 := decide (d.1.2.2.2 < d.1.2.2.1); cnd y1 (opt (g_Bk d.2.2.2.1.1 d.2.2.2.1.2 d.1.2.2.2 d.1.1) fun d_1 => cnd (inR d.1.2.2.2 24) (cnd (true && Nat.ble (0 + y0 * 1 + 1) 24) (ret (Sum.inl ((d.1.1, d.1.2.1, d.1.2.2.1, wI (d.1.2.2.2 + 1)), d.2.1, d.2.2.1, d.2.2.2.1, d.2.2.2.2.1, fun j => bif Nat.beq j y0 then d_1 else d.2.2.2.2.2 j))) no) no) (ret (Sum.inr ((d.1.1,
 d.1.2.1, d.1.2.2.1, d.1.2.2.2, y1), d.2)))
def L_AA_1 : QL_AA_1.B → Option X_AA_1 := loopP (S_AA_1 f_Bk) 2000
def QL_AA_2 := (open Rq in (st (pr (cu (app 0 1) (us 1 (cu (app 1 576) (us 1 (cu (app 2 300) (us 2 (cu (app 3 1152) (c ai (cu (app 4 24) (us 3 (c ai (us 14 (cl ai (us 25 nil)))))))))))))) (pl (c (so (cl gb nil)) (c (so (cl (gl 576 (cl kci nil)) nil)) (c Q2q13 (c (so (cl (gl 1152 (cl kci nil)) nil)) Q2q0)))) (cu (nat 0) nil)))) : RS _)
def Z_AA_2 := (open Rq in (st (pr (cu (app 0 1) (us 1 (cu (app 1 576) (us 1 (cu (app 2 300) (us 2 (cu (app 3 1152) (c ai (cu (app 4 24) (us 3 (c ai (us 14 (c ai (cl ab (us 24 nil))))))))))))))) (pl (c (so (cl gb nil)) (c (so (cl (gl 576 (cl kci nil)) nil)) (c Q2q13 (c (so (cl (gl 1152 (cl kci nil)) nil)) Q2q0)))) (cu (nat 0) nil)))) : RS _)
abbrev X_AA_2 := Z_AA_2.B
def E_AA_2 {ρ : Type} (x : X_AA_2) (K : AX → St → Option ρ) : Option ρ := (fun d => K (AX.ex 4) (Z_AA_2.em d)) x
def S_AA_2 (g_AE : G_AE) (d : QL_AA_2.B) : Pg (QL_AA_2.B ⊕ X_AA_2) := let y0 := Int.toNat d.1.2.2; let y1 := inR d.1.2.2 24; let y2 := decide (d.1.2.2 < 24); let y3 := y0 * 48 + Int.toNat d.1.1; cnd y2 (cnd y1 (opt (g_AE 30 24 24 d.2.1 (fun j => d.2.2.1 (0 + y0 * 24 + j)) d.2.2.2.2.2 false false) fun d_1 => cnd y1 (cnd (inR d.1.1 48) (cnd (true && Nat.ble (0 + y3 * 1 + 1) 1152) (ret (Sum.inl ((d.1.1,
 d.1.2.1, wI (d.1.2.2 + 1)), d_1.2, d.2.2.1, d.2.2.2.1, fun j => bif Nat.beq j y3 then d_1.1 else d.2.2.2.2.1 j, d.2.2.2.2.2))) no) no) no) no) (ret (Sum.inr ((d.1.1, d.1.2.1, d.1.2.2, y2), d.2)))
def L_AA_2 : QL_AA_2.B → Option X_AA_2 := loopP (S_AA_2 f_AE) 2000
def QL_AA_3 := (open Rq in (st (pr (us 7 (cu (app 2 1152) (us 37 (cl ai (us 8 nil))))) (pl (c (so (cl gb nil)) (c (so (cl (gl 576 (cl kci nil)) nil)) Q2q2)) (cu (nat 0) nil)))) : RS _)
def Z_AA_3 := (open Rq in (st (pr (us 7 (cu (app 2 1152) (us 37 (c ai (cl ab (us 7 nil)))))) (pl (c (so (cl gb nil)) (c (so (cl (gl 576 (cl kci nil)) nil)) Q2q2)) (cu (nat 0) nil)))) : RS _)
abbrev X_AA_3 := Z_AA_3.B
def E_AA_3 {ρ : Type} (x : X_AA_3) (K : AX → St → Option ρ) : Option ρ := (fun d => K (AX.ex 6) (Z_AA_3.em d)) x
def S_AA_3 (d : QL_AA_3.B) : Pg (QL_AA_3.B ⊕ X_AA_3) := let y0 := wI (24 + d.1); let y1 := decide (d.1 < 24); let y2 := Int.toNat d.1 * 48 + Int.toNat y0; cnd y1 (cnd (inR d.1 24) (cnd (inR y0 48) (cnd (true && Nat.ble (0 + y2 * 1 + 1) 1152) (ret (Sum.inl (wI (d.1 + 1), d.2.1, d.2.2.1, fun j => bif Nat.beq j y2 then 1073741824 else d.2.2.2 j))) no) no) no) (ret (Sum.inr ((d.1, y1), d.2)))
def L_AA_3 : QL_AA_3.B → Option X_AA_3 := loopP (S_AA_3) 2000
def QL_AA_0 := (open Rq in (st (pr (cu (app 0 1) (us 1 (cu (app 1 576) (us 1 (cu (app 2 300) (us 2 (cu (app 3 1152) (us 5 (cl ai (us 40 nil)))))))))) (pl (c (so (cl gb nil)) (c (so (cl (gl 576 (cl kci nil)) nil)) (c Q2q13 Q2q2))) (cu (nat 0) nil)))) : RS _)
def Z_AA_0 := (open Rq in (st (pr (cu (app 0 1) (us 1 (cu (app 1 576) (us 1 (cu (app 2 300) (us 2 (cu (app 3 1152) (us 5 (c ai (cl ab (us 39 nil))))))))))) (pl (c (so (cl gb nil)) (c (so (cl (gl 576 (cl kci nil)) nil)) (c Q2q13 Q2q2))) (cu (nat 0) nil)))) : RS _)
abbrev X_AA_0 := Z_AA_0.B
def E_AA_0 {ρ : Type} (x : X_AA_0) (K : AX → St → Option ρ) : Option ρ := (fun d => K (AX.ex 0) (Z_AA_0.em d)) x
def S_AA_0 (l_1 : QL_AA_1.B → Option X_AA_1) (l_2 : QL_AA_2.B → Option X_AA_2) (d : QL_AA_0.B) : Pg (QL_AA_0.B ⊕ X_AA_0) := let y0 := decide (d.1 < 24); cnd y0 (opt (l_1 ((d.1, d.1, wI (d.1 + 1), 0), d.2.1, d.2.2.1, d.2.2.2.1, d.2.2.2.2, fun x => 0)) fun d => opt (l_2 ((d.1.1, d.1.2.1, 0), d.2)) fun d => ret (Sum.inl (wI (d.1.2.1 + 1), d.2.1, d.2.2.1, d.2.2.2.1, d.2.2.2.2.1))) (ret (Sum.inr ((d.1, y0), d.2)))
def L_AA_0 : QL_AA_0.B → Option X_AA_0 := loopP (S_AA_0 L_AA_1 L_AA_2) 2000
def H_AA (l_1 : QL_AA_1.B → Option X_AA_1) (l_2 : QL_AA_2.B → Option X_AA_2) (l_3 : QL_AA_3.B → Option X_AA_3) (l_0 : QL_AA_0.B → Option X_AA_0) : Hs := ⟨[⟨3, (1 :: 3 :: 5 :: 6 :: rg 8 5 (rg 14 40 [])), []⟩, ⟨7, (1 :: 3 :: 5 :: 6 :: 10 :: 11 :: 12 :: 14 :: 15 :: 16 :: rg 19 35 []), []⟩, ⟨12, (1 :: 3 :: 5 :: 6 :: 10 :: 11 :: 12 :: rg 14 14 (rg 29 25 [])), []⟩, ⟨18, (rg 0 7 (rg 8 37 (rg 46 8 []))), []⟩],
 [smQ 7 2 QL_AA_1 E_AA_1 l_1, smQ 12 2 QL_AA_2 E_AA_2 l_2, smQ 18 2 QL_AA_3 E_AA_3 l_3, smQ 3 2 QL_AA_0 E_AA_0 l_0], [0], [], (some ⟨0, (rg 0 6 (rg 7 47 [])), []⟩)⟩
def B_AA (l_3 : QL_AA_3.B → Option X_AA_3) (l_0 : QL_AA_0.B → Option X_AA_0) (x0 : Nat → Int) (x1 : Nat → Int) (x2 : Bool) (x3 : Nat → Int) : Pg D_AA := opt (l_0 (0, x2, x3, (x0, x1), fun x => 0)) fun d => opt (l_3 (0, d.2.1, d.2.2.1, d.2.2.2.2)) fun d => ret (d.2.1, d.2.2.2)
def f_AA (x0 : Nat → Int) (x1 : Nat → Int) (x2 : Bool) (x3 : Nat → Int) : Option D_AA := (B_AA L_AA_3 L_AA_0 x0 x1 x2 x3).val
theorem dl_AA_1 : ∀ g_Bk g_AE l_1 l_2 l_3 l_0, LoopIs Tryz.prog [e_Bk g_Bk, e_AE g_AE] (H_AA l_1 l_2 l_3 l_0) 2 2000 180 7 QL_AA_1 E_AA_1 (S_AA_1 g_Bk) := fun _ _ _ _ _ _ _ d c K => by kernel_rfl
theorem dl_AA_2 : ∀ g_Bk g_AE l_1 l_2 l_3 l_0, LoopIs Tryz.prog [e_Bk g_Bk, e_AE g_AE] (H_AA l_1 l_2 l_3 l_0) 2 2000 180 12 QL_AA_2 E_AA_2 (S_AA_2 g_AE) := fun _ _ _ _ _ _ _ d c K => by kernel_rfl
theorem dl_AA_3 : ∀ g_Bk g_AE l_1 l_2 l_3 l_0, LoopIs Tryz.prog [e_Bk g_Bk, e_AE g_AE] (H_AA l_1 l_2 l_3 l_0) 2 2000 180 18 QL_AA_3 E_AA_3 (S_AA_3) := fun _ _ _ _ _ _ _ d c K => by kernel_rfl
theorem dl_AA_0 : ∀ g_Bk g_AE l_1 l_2 l_3 l_0, LoopIs Tryz.prog [e_Bk g_Bk, e_AE g_AE] (H_AA l_1 l_2 l_3 l_0) 2 2000 180 3 QL_AA_0 E_AA_0 (S_AA_0 l_1 l_2) := fun _ _ _ _ _ _ _ d c K => by kernel_rfl
theorem d_AA : ∀ g_Bk g_AE l_1 l_2 l_3 l_0, DenIs Tryz.prog [e_Bk g_Bk, e_AE g_AE] (H_AA l_1 l_2 l_3 l_0) 2000 180 Q_AA R_AA fun b => B_AA l_3 l_0 b.1.1 b.1.2 b.2.1 b.2.2 := fun _ _ _ _ _ _ b => by kernel_rfl
theorem s_AA [Amb] : Snd Tryz.prog (e_AA f_AA) := Snd.of (mkS mixed (.c s_Bk (.c s_AE (.nil _))) (by kernel_rfl) (Sums.by (l := [loopIn Tryz.prog 180 3, loopIn Tryz.prog 180 7, loopIn Tryz.prog 180 12, loopIn Tryz.prog 180 18]) (lj := []) (by kernel_rfl) ⟨mkL (S := S_AA_0 L_AA_1 L_AA_2) (by kernel_rfl) (dl_AA_0 f_Bk f_AE L_AA_1 L_AA_2 L_AA_3 L_AA_0), ⟨mkL (S := S_AA_1 f_Bk) (by kernel_rfl) (dl_AA_1 f_Bk f_AE L_AA_1 L_AA_2 L_AA_3 L_AA_0),
 ⟨mkL (S := S_AA_2 f_AE) (by kernel_rfl) (dl_AA_2 f_Bk f_AE L_AA_1 L_AA_2 L_AA_3 L_AA_0), ⟨mkL (S := S_AA_3) (by kernel_rfl) (dl_AA_3 f_Bk f_AE L_AA_1 L_AA_2 L_AA_3 L_AA_0), trivial⟩⟩⟩⟩ (by kernel_rfl) trivial) (d_AA f_Bk f_AE L_AA_1 L_AA_2 L_AA_3 L_AA_0)) (by kernel_rfl)

def Q_BK := (open Rq in (pl Q2q1 nil) : RA _)
def RR_BK := (open Rq in (res (pl (aa (c gi (c gi (c gi (cl gi nil))))) (pu nil nil))) : RE _)
abbrev D_BK := RR_BK.B
def R_BK (d : D_BK) : T := (fun d => .leaf (RR_BK.em d)) d
abbrev G_BK := NI → Option D_BK
def e_BK (g : G_BK) : Ct := (48, FC Q_BK R_BK (fun b => g b))
def B_BK (x0 : Nat → Int) : Pg D_BK := ret (x0 0, x0 1, x0 2, x0 3)
def f_BK (x0 : Nat → Int) : Option D_BK := (B_BK x0).val
theorem d_BK : DenIs Tryz.prog [] ⟨[], [], [], [], none⟩ 2000 48 Q_BK R_BK fun b => B_BK b := fun b => by kernel_rfl
theorem s_BK [Amb] : Snd Tryz.prog (e_BK f_BK) := Snd.of (mk0 mixed (.nil _) (by kernel_rfl) d_BK) (by kernel_rfl)

def Q_DA := (open Rq in (pl (c (aa (cl (gl 24 (cl kci nil)) nil)) Q2q3) nil) : RA _)
def RR_DA := (open Rq in Q2q9 : RE _)
abbrev D_DA := RR_DA.B
def R_DA (d : D_DA) : T := (fun d => .leaf (RR_DA.em d)) d
abbrev G_DA := NI → Int → Int → Int → Int → Option D_DA
def e_DA (g : G_DA) : Ct := (49, FC Q_DA R_DA (fun b => g b.1 b.2.1 b.2.2.1 b.2.2.2.1 b.2.2.2.2))
def B_DA (x0 : Nat → Int) (x1 : Int) (x2 : Int) (x3 : Int) (x4 : Int) : Pg D_DA := ret fun j => bif Nat.beq j 3 then x4 else bif Nat.beq j 2 then x3 else bif Nat.beq j 1 then x2 else bif Nat.beq j 0 then x1 else x0 j
def f_DA (x0 : Nat → Int) (x1 : Int) (x2 : Int) (x3 : Int) (x4 : Int) : Option D_DA := (B_DA x0 x1 x2 x3 x4).val
theorem d_DA : DenIs Tryz.prog [] ⟨[], [], [], [], none⟩ 2000 49 Q_DA R_DA fun b => B_DA b.1 b.2.1 b.2.2.1 b.2.2.2.1 b.2.2.2.2 := fun b => by kernel_rfl
theorem s_DA [Amb] : Snd Tryz.prog (e_DA f_DA) := Snd.of (mk0 mixed (.nil _) (by kernel_rfl) d_DA) (by kernel_rfl)

def Q_Cm := (open Rq in (pr (c ai (c ai (c ai (cl ai (cu (app 0 1) (cu (app 1 4) nil)))))) (cu (cu (gp 2 1) nil) (c (c gi (c gi (c gi (cl gi nil)))) (cl (cl gb nil) nil)))) : RA _)
def RR_Cm := (open Rq in Q2q16 : RE _)
abbrev D_Cm := RR_Cm.B
def R_Cm (d : D_Cm) : T := (fun d => .leaf (RR_Cm.em d)) d
abbrev G_Cm := Int → Int → Int → Int → Int → Int → Int → Int → Bool → Option D_Cm
def e_Cm (g : G_Cm) : Ct := (173, FC Q_Cm R_Cm (fun b => g b.1.1 b.1.2.1 b.1.2.2.1 b.1.2.2.2 b.2.1.1 b.2.1.2.1 b.2.1.2.2.1 b.2.1.2.2.2 b.2.2))
def B_Cm (g_AE : G_AE) (x0 : Int) (x1 : Int) (x2 : Int) (x3 : Int) (x4 : Int) (x5 : Int) (x6 : Int) (x7 : Int) (x8 : Bool) : Pg D_Cm := opt (g_AE 30 4 4 x8 (fun j => bif Nat.beq j 3 then x7 else bif Nat.beq j 2 then x6 else bif Nat.beq j 1 then x5 else bif Nat.beq j 0 then x4 else x4) (fun j => bif Nat.beq j 3 then x3 else bif Nat.beq j 2 then x2 else bif Nat.beq j 1 then x1 else bif Nat.beq j 0 then x0 else x0) false true) fun d => ret d
def f_Cm (x0 : Int) (x1 : Int) (x2 : Int) (x3 : Int) (x4 : Int) (x5 : Int) (x6 : Int) (x7 : Int) (x8 : Bool) : Option D_Cm := (B_Cm f_AE x0 x1 x2 x3 x4 x5 x6 x7 x8).val
theorem d_Cm : ∀ g_AE, DenIs Tryz.prog [e_AE g_AE] ⟨[], [], [], [], none⟩ 2000 173 Q_Cm R_Cm fun b => B_Cm g_AE b.1.1 b.1.2.1 b.1.2.2.1 b.1.2.2.2 b.2.1.1 b.2.1.2.1 b.2.1.2.2.1 b.2.1.2.2.2 b.2.2 := fun _ b => by kernel_rfl
theorem s_Cm [Amb] : Snd Tryz.prog (e_Cm f_Cm) := Snd.of (mk0 mixed (.c s_AE (.nil _)) (by kernel_rfl) (d_Cm f_AE)) (by kernel_rfl)

def Q_BE := (open Rq in (pr (cu (app 0 1) (c (aa (c gi (c gi (c gi (cl gi nil))))) Q2q3)) (cl (cl gb nil) nil)) : RA _)
def RR_BE := (open Rq in Q2q26 : RE _)
abbrev D_BE := RR_BE.B
def R_BE (d : D_BE) : T := (fun d => .leaf (RR_BE.em d)) d
abbrev G_BE := Int → Int → Int → Int → Int → Int → Int → Int → Bool → Option D_BE
def e_BE (g : G_BE) : Ct := (108, FC Q_BE R_BE (fun b => g b.1.1.1 b.1.1.2.1 b.1.1.2.2.1 b.1.1.2.2.2 b.1.2.1 b.1.2.2.1 b.1.2.2.2.1 b.1.2.2.2.2 b.2))
def B_BE (g_AS : G_AS) (g_Cm : G_Cm) (x0 : Int) (x1 : Int) (x2 : Int) (x3 : Int) (x4 : Int) (x5 : Int) (x6 : Int) (x7 : Int) (x8 : Bool) : Pg D_BE := opt (g_AS x0 x1 x2 x3 x8) fun d => opt (g_AS x4 x5 x6 x7 d.2) fun d_1 => let y0 := wI (0 - d_1.1.2.1); let y1 := wI (0 - d_1.1.2.2.1); let y2 := wI (0 - d_1.1.2.2.2); opt (g_Cm d_1.1.1 y0 y1 y2 d.1.1 d.1.2.1 d.1.2.2.1 d.1.2.2.2 d_1.2) fun d_2 => opt (g_Cm d_1.1.2.1 d_1.1.1 d_1.1.2.2.2 y1 d.1.1 d.1.2.1 d.1.2.2.1 d.1.2.2.2 d_2.2) fun d_3 => opt (g_Cm d_1.1.2.2.1 y2 d_1.1.1 d_1.1.2.1 d.1.1 d.1.2.1 d.1.2.2.1 d.1.2.2.2 d_3.2) fun d_4 => opt (g_Cm d_1.1.2.2.2 d_1.1.2.2.1 y0 d_1.1.1 d.1.1 d.1.2.1 d.1.2.2.1 d.1.2.2.2 d_4.2) fun d => ret ((d_2.1,
 d_3.1, d_4.1, d.1), d.2)
def f_BE (x0 : Int) (x1 : Int) (x2 : Int) (x3 : Int) (x4 : Int) (x5 : Int) (x6 : Int) (x7 : Int) (x8 : Bool) : Option D_BE := (B_BE f_AS f_Cm x0 x1 x2 x3 x4 x5 x6 x7 x8).val
theorem d_BE : ∀ g_AS g_Cm, DenIs Tryz.prog [e_AS g_AS, e_Cm g_Cm] ⟨[], [], [], [], none⟩ 2000 108 Q_BE R_BE fun b => B_BE g_AS g_Cm b.1.1.1 b.1.1.2.1 b.1.1.2.2.1 b.1.1.2.2.2 b.1.2.1 b.1.2.2.1 b.1.2.2.2.1 b.1.2.2.2.2 b.2 := fun _ _ b => by kernel_rfl
theorem s_BE [Amb] : Snd Tryz.prog (e_BE f_BE) := Snd.of (mk0 mixed (.c s_AS (.c s_Cm (.nil _))) (by kernel_rfl) (d_BE f_AS f_Cm)) (by kernel_rfl)

def Q_Az := (open Rq in (pr (cu (app 0 1) Q2q3) (cl (cl gb nil) nil)) : RA _)
def RR_Az := (open Rq in (res (pr (aa (cl (gl 9 (cl kci nil)) nil)) (pl (cl (chs (cl gb nil)) nil) nil))) : RE _)
abbrev D_Az := RR_Az.B
def R_Az (d : D_Az) : T := (fun d => .leaf (RR_Az.em d)) d
abbrev G_Az := Int → Int → Int → Int → Bool → Option D_Az
def e_Az (g : G_Az) : Ct := (172, FC Q_Az R_Az (fun b => g b.1.1 b.1.2.1 b.1.2.2.1 b.1.2.2.2 b.2))
def QL_Az_0 := (open Rq in (st (pr (us 2 (cu (app 1 1) (cu (app 2 4) (cu (app 3 9) (us 3 (cl ai (us 82 nil))))))) (pl (c (so (cl gb nil)) (cu (so (cu (gp 0 1) nil)) (c (so (c gi (c gi (c gi (cl gi nil))))) (cl (so (cl (gl 9 (cl kci nil)) nil)) nil)))) (cu (nat 0) nil)))) : RS _)
def Z_Az_0 := (open Rq in (st (pr (us 2 (cu (app 1 1) (cu (app 2 4) (cu (app 3 9) (us 3 (c ai (cl ab (us 81 nil)))))))) (pl (c (so (cl gb nil)) (cu (so (cu (gp 0 1) nil)) (c (so (c gi (c gi (c gi (cl gi nil))))) (cl (so (cl (gl 9 (cl kci nil)) nil)) nil)))) (cu (nat 0) nil)))) : RS _)
abbrev X_Az_0 := Z_Az_0.B
def E_Az_0 {ρ : Type} (x : X_Az_0) (K : AX → St → Option ρ) : Option ρ := (fun d => K (AX.ex 0) (Z_Az_0.em d)) x
def S_Az_0 (g_Z : G_Z) (d : QL_Az_0.B) : Pg (QL_Az_0.B ⊕ X_Az_0) := let y0 := inR d.1 4; let y1 := d.1 == 2; let y2 := d.1 == 1; let y3 := d.1 == 3; let y4 := wI (d.1 + 1); let y5 := decide (d.1 < 4); cnd y5 (cnd y0 (cnd y3 (opt (g_Z d.2.2.1.2.2.2 d.2.1) fun d_1 => cnd y0 (cnd y3 (ret (Sum.inl (y4, d_1.2, (d.2.2.1.1, d.2.2.1.2.1, d.2.2.1.2.2.1, d_1.1), d.2.2.2))) (cnd y1 (ret (Sum.inl (y4, d_1.2, (d.2.2.1.1,
 d.2.2.1.2.1, d_1.1, d.2.2.1.2.2.2), d.2.2.2))) (cnd y2 (ret (Sum.inl (y4, d_1.2, (d.2.2.1.1, d_1.1, d.2.2.1.2.2), d.2.2.2))) (ret (Sum.inl (y4, d_1.2, (d_1.1, d.2.2.1.2), d.2.2.2)))))) no) (cnd y1 (opt (g_Z d.2.2.1.2.2.1 d.2.1) fun d_1 => cnd y0 (cnd y3 (ret (Sum.inl (y4, d_1.2, (d.2.2.1.1, d.2.2.1.2.1, d.2.2.1.2.2.1, d_1.1), d.2.2.2))) (cnd y1 (ret (Sum.inl (y4, d_1.2, (d.2.2.1.1, d.2.2.1.2.1, d_1.1,
 d.2.2.1.2.2.2), d.2.2.2))) (cnd y2 (ret (Sum.inl (y4, d_1.2, (d.2.2.1.1, d_1.1, d.2.2.1.2.2), d.2.2.2))) (ret (Sum.inl (y4, d_1.2, (d_1.1, d.2.2.1.2), d.2.2.2)))))) no) (cnd y2 (opt (g_Z d.2.2.1.2.1 d.2.1) fun d_1 => cnd y0 (cnd y3 (ret (Sum.inl (y4, d_1.2, (d.2.2.1.1, d.2.2.1.2.1, d.2.2.1.2.2.1, d_1.1), d.2.2.2))) (cnd y1 (ret (Sum.inl (y4, d_1.2, (d.2.2.1.1, d.2.2.1.2.1, d_1.1, d.2.2.1.2.2.2), d.2.2.2))) (cnd y2 (ret (Sum.inl (y4,
 d_1.2, (d.2.2.1.1, d_1.1, d.2.2.1.2.2), d.2.2.2))) (ret (Sum.inl (y4, d_1.2, (d_1.1, d.2.2.1.2), d.2.2.2)))))) no) (opt (g_Z d.2.2.1.1 d.2.1) fun d_1 => cnd y0 (cnd y3 (ret (Sum.inl (y4, d_1.2, (d.2.2.1.1, d.2.2.1.2.1, d.2.2.1.2.2.1, d_1.1), d.2.2.2))) (cnd y1 (ret (Sum.inl (y4, d_1.2, (d.2.2.1.1, d.2.2.1.2.1, d_1.1, d.2.2.1.2.2.2), d.2.2.2))) (cnd y2 (ret (Sum.inl (y4, d_1.2, (d.2.2.1.1, d_1.1, d.2.2.1.2.2),
 d.2.2.2))) (ret (Sum.inl (y4, d_1.2, (d_1.1, d.2.2.1.2), d.2.2.2)))))) no)))) no) (ret (Sum.inr ((d.1, y5), d.2)))
def L_Az_0 : QL_Az_0.B → Option X_Az_0 := loopP (S_Az_0 f_Z) 2000
def H_Az (l_0 : QL_Az_0.B → Option X_Az_0) : Hs := ⟨[⟨2, (0 :: 1 :: 5 :: 6 :: 7 :: rg 9 82 []), []⟩], [smQ 2 1 QL_Az_0 E_Az_0 l_0], [0], [], (some ⟨0, (rg 0 4 (rg 5 86 [])), []⟩)⟩
def B_Az (g_Ce : G_Ce) (g_CW : G_CW) (l_0 : QL_Az_0.B → Option X_Az_0) (x0 : Int) (x1 : Int) (x2 : Int) (x3 : Int) (x4 : Bool) : Pg D_Az := opt (l_0 (0, x4, (x0, x1, x2, x3), fun x => 0)) fun d => let y0 := wI (0 - d.2.2.1.1); opt (g_Ce 1 1 (-1) (-1) d.2.2.1.1 d.2.2.1.2.1 d.2.2.1.2.2.1 d.2.2.1.2.2.2 d.2.1) fun d_1 => opt (g_CW d.2.2.1.2.1 d.2.2.1.2.2.1 y0 d.2.2.1.2.2.2 d_1.2) fun d_2 => opt (g_CW d.2.2.1.2.1 d.2.2.1.2.2.2 d.2.2.1.1 d.2.2.1.2.2.1 d_2.2) fun d_3 => opt (g_CW d.2.2.1.2.1 d.2.2.1.2.2.1 d.2.2.1.1 d.2.2.1.2.2.2 d_3.2) fun d_4 => opt (g_Ce 1 (-1) 1 (-1) d.2.2.1.1 d.2.2.1.2.1 d.2.2.1.2.2.1 d.2.2.1.2.2.2 d_4.2) fun d_5 => opt (g_CW d.2.2.1.2.2.1 d.2.2.1.2.2.2 y0 d.2.2.1.2.1 d_5.2) fun d_6 => opt (g_CW d.2.2.1.2.1 d.2.2.1.2.2.2 y0 d.2.2.1.2.2.1 d_6.2) fun d_7 => opt (g_CW d.2.2.1.2.2.1 d.2.2.1.2.2.2 d.2.2.1.1 d.2.2.1.2.1 d_7.2) fun d_8 => opt (g_Ce 1 (-1) (-1) 1 d.2.2.1.1 d.2.2.1.2.1 d.2.2.1.2.2.1 d.2.2.1.2.2.2 d_8.2) fun d => ret (fun j => bif Nat.beq j 8 then d.1 else bif Nat.beq j 7 then d_8.1 else bif Nat.beq j 6 then d_7.1 else bif Nat.beq j 5 then d_6.1 else bif Nat.beq j 4 then d_5.1 else bif Nat.beq j 3 then d_4.1 else bif Nat.beq j 2 then d_3.1 else bif Nat.beq j 1 then d_2.1 else bif Nat.beq j 0 then d_1.1 else 0,
 d.2)
def f_Az (x0 : Int) (x1 : Int) (x2 : Int) (x3 : Int) (x4 : Bool) : Option D_Az := (B_Az f_Ce f_CW L_Az_0 x0 x1 x2 x3 x4).val
theorem dl_Az_0 : ∀ g_Z g_Ce g_CW l_0, LoopIs Tryz.prog [e_Z g_Z, e_Ce g_Ce, e_CW g_CW] (H_Az l_0) 1 2000 172 2 QL_Az_0 E_Az_0 (S_Az_0 g_Z) := fun _ _ _ _ _ d c K => by kernel_rfl
theorem d_Az : ∀ g_Z g_Ce g_CW l_0, DenIs Tryz.prog [e_Z g_Z, e_Ce g_Ce, e_CW g_CW] (H_Az l_0) 2000 172 Q_Az R_Az fun b => B_Az g_Ce g_CW l_0 b.1.1 b.1.2.1 b.1.2.2.1 b.1.2.2.2 b.2 := fun _ _ _ _ b => by kernel_rfl
theorem s_Az [Amb] : Snd Tryz.prog (e_Az f_Az) := Snd.of (mkS mixed (.c s_Z (.c s_Ce (.c s_CW (.nil _)))) (by kernel_rfl) (Sums.by (l := [loopIn Tryz.prog 172 2]) (lj := []) (by kernel_rfl) ⟨mkL (S := S_Az_0 f_Z) (by kernel_rfl) (dl_Az_0 f_Z f_Ce f_CW L_Az_0), trivial⟩ (by kernel_rfl) trivial) (d_Az f_Z f_Ce f_CW L_Az_0)) (by kernel_rfl)

def Q_Cj := (open Rq in (pu nil nil) : RA _)
def RR_Cj := (open Rq in Q2q9 : RE _)
abbrev D_Cj := RR_Cj.B
def R_Cj (d : D_Cj) : T := (fun d => .leaf (RR_Cj.em d)) d
abbrev G_Cj := Option D_Cj
def e_Cj (g : G_Cj) : Ct := (96, FC Q_Cj R_Cj (fun _ => g))
def B_Cj (g_At : G_At) : Pg D_Cj := opt (g_At 0 4 1073741840 fun x => 0) fun d => opt (g_At 4 7 549755813888 d) fun d => opt (g_At 7 10 9007199254740992 d) fun d => opt (g_At 10 13 134217728 d) fun d => opt (g_At 13 16 1073741824 d) fun d => opt (g_At 16 22 2147483648 d) fun d => opt (g_At 22 24 137438953472 d) fun d => ret d
def f_Cj : Option D_Cj := (B_Cj f_At).val
theorem d_Cj : ∀ g_At, DenIs Tryz.prog [e_At g_At] ⟨[], [], [], [], none⟩ 2000 96 Q_Cj R_Cj fun b => B_Cj g_At := fun _ b => by kernel_rfl
theorem s_Cj [Amb] : Snd Tryz.prog (e_Cj f_Cj) := Snd.of (mk0 mixed (.c s_At (.nil _)) (by kernel_rfl) (d_Cj f_At)) (by kernel_rfl)

def Q_BA := (open Rq in (pr (cu (app 0 1) Q2q1) (cl (cl gb nil) nil)) : RA _)
def RR_BA := (open Rq in Q2q20 : RE _)
abbrev D_BA := RR_BA.B
def R_BA (d : D_BA) : T := (fun d => .leaf (RR_BA.em d)) d
abbrev G_BA := NI → Bool → Option D_BA
def e_BA (g : G_BA) : Ct := (51, FC Q_BA R_BA (fun b => g b.1 b.2))
def QL_BA_0 := (open Rq in (st (pr (cu (app 0 1) (us 2 (cu (app 1 24) (cu (app 2 24) (cu (app 3 24) (cl ai (us 20 nil))))))) (pl (c (so (cl gb nil)) Q2q37) (cu (nat 0) nil)))) : RS _)
def Z_BA_0 := (open Rq in (st (pr (cu (app 0 1) (us 2 (cu (app 1 24) (cu (app 2 24) (cu (app 3 24) (c ai (us 1 (c ai (cl ab (us 17 nil)))))))))) (pl (c (so (cl gb nil)) Q2q37) (cu (nat 0) nil)))) : RS _)
abbrev X_BA_0 := ((Int × Bool) × Bool × NI × NI × D_Cj)
def E_BA_0 {ρ : Type} (x : X_BA_0) (K : AX → St → Option ρ) : Option ρ := (fun d => K (AX.ex 0) (Z_BA_0.em ((d.1.1, d.1), d.2))) x
def S_BA_0 (g_AC : G_AC) (d : QL_BA_0.B) : Pg (QL_BA_0.B ⊕ X_BA_0) := let y0 := Int.toNat d.1; let y1 := inR d.1 24; let y2 := decide (d.1 < 24); cnd y2 (cnd y1 (cnd y1 (cnd y1 (opt (g_AC (d.2.2.1 y0) (wI (0 - d.2.2.2.2 y0)) (d.2.2.2.2 y0) d.2.1) fun d_1 => cnd y1 (cnd (true && Nat.ble (0 + y0 * 1 + 1) 24) (ret (Sum.inl (wI (d.1 + 1), d_1.2, fun j => bif Nat.beq j y0 then d_1.1 else d.2.2.1 j, d.2.2.2))) no) no) no) no) no) (ret (Sum.inr ((d.1, y2), d.2)))
def L_BA_0 : QL_BA_0.B → Option X_BA_0 := loopP (S_BA_0 f_AC) 2000
def H_BA (l_0 : QL_BA_0.B → Option X_BA_0) : Hs := ⟨[⟨3, (1 :: 2 :: rg 7 20 []), []⟩], [smQ 3 1 QL_BA_0 E_BA_0 l_0], [0], [], (some ⟨0, (rg 0 4 (rg 5 22 [])), []⟩)⟩
def B_BA (g_Cj : G_Cj) (l_0 : QL_BA_0.B → Option X_BA_0) (x0 : Nat → Int) (x1 : Bool) : Pg D_BA := opt g_Cj fun d => opt (l_0 (4, x1, x0, fun x => 0, d)) fun d => ret (d.2.2.1, d.2.1)
def f_BA (x0 : Nat → Int) (x1 : Bool) : Option D_BA := (B_BA f_Cj L_BA_0 x0 x1).val
theorem dl_BA_0 : ∀ g_Cj g_AC l_0, LoopIs Tryz.prog [e_Cj g_Cj, e_AC g_AC] (H_BA l_0) 1 2000 51 3 QL_BA_0 E_BA_0 (S_BA_0 g_AC) := fun _ _ _ _ d c K => by kernel_rfl
theorem d_BA : ∀ g_Cj g_AC l_0, DenIs Tryz.prog [e_Cj g_Cj, e_AC g_AC] (H_BA l_0) 2000 51 Q_BA R_BA fun b => B_BA g_Cj l_0 b.1 b.2 := fun _ _ _ b => by kernel_rfl
theorem s_BA [Amb] : Snd Tryz.prog (e_BA f_BA) := Snd.of (mkS mixed (.c s_Cj (.c s_AC (.nil _))) (by kernel_rfl) (Sums.by (l := [loopIn Tryz.prog 51 3]) (lj := []) (by kernel_rfl) ⟨mkL (S := S_BA_0 f_AC) (by kernel_rfl) (dl_BA_0 f_Cj f_AC L_BA_0), trivial⟩ (by kernel_rfl) trivial) (d_BA f_Cj f_AC L_BA_0)) (by kernel_rfl)

def Q_BL := (open Rq in (pr (cu (app 0 1) Q2q1) (cl (cl gb nil) nil)) : RA _)
def RR_BL := (open Rq in Q2q20 : RE _)
abbrev D_BL := RR_BL.B
def R_BL (d : D_BL) : T := (fun d => .leaf (RR_BL.em d)) d
abbrev G_BL := NI → Bool → Option D_BL
def e_BL (g : G_BL) : Ct := (22, FC Q_BL R_BL (fun b => g b.1 b.2))
def B_BL (g_BK : G_BK) (g_BQ : G_BQ) (g_AG : G_AG) (g_DA : G_DA) (g_BA : G_BA) (x0 : Nat → Int) (x1 : Bool) : Pg D_BL := opt (g_BK x0) fun d => opt (g_BQ d.1 d.2.1 d.2.2.1 d.2.2.2) fun d => cnd (!d) (opt (g_BK x0) fun d => opt (g_AG d.1 d.2.1 d.2.2.1 d.2.2.2 x1) fun d => opt (g_DA x0 d.1.1 d.1.2.1 d.1.2.2.1 d.1.2.2.2) fun d_1 => opt (g_BA d_1 d.2) fun d => ret d) (opt (g_BA x0 x1) fun d => ret d)
def f_BL (x0 : Nat → Int) (x1 : Bool) : Option D_BL := (B_BL f_BK f_BQ f_AG f_DA f_BA x0 x1).val
theorem d_BL : ∀ g_BK g_BQ g_AG g_DA g_BA, DenIs Tryz.prog [e_BK g_BK, e_BQ g_BQ, e_AG g_AG, e_DA g_DA, e_BA g_BA] ⟨[], [], [], [], none⟩ 2000 22 Q_BL R_BL fun b => B_BL g_BK g_BQ g_AG g_DA g_BA b.1 b.2 := fun _ _ _ _ _ b => by kernel_rfl
theorem s_BL [Amb] : Snd Tryz.prog (e_BL f_BL) := Snd.of (mk0 mixed (.c s_BK (.c s_BQ (.c s_AG (.c s_DA (.c s_BA (.nil _)))))) (by kernel_rfl) (d_BL f_BK f_BQ f_AG f_DA f_BA)) (by kernel_rfl)

def Q_Br := (open Rq in (pr (cu (app 0 1) (cl ai nil)) (cl (cl gb nil) nil)) : RA _)
def RR_Br := (open Rq in Q2q5 : RE _)
abbrev D_Br := RR_Br.B
def R_Br (d : D_Br) : T := (fun d => .leaf (RR_Br.em d)) d
abbrev G_Br := Int → Bool → Option D_Br
def e_Br (g : G_Br) : Ct := (113, FC Q_Br R_Br (fun b => g b.1 b.2))
def B_Br (g_AH : G_AH) (x0 : Int) (x1 : Bool) : Pg D_Br := opt (g_AH x0 1073741824 1000000 x1) fun d => ret d
def f_Br (x0 : Int) (x1 : Bool) : Option D_Br := (B_Br f_AH x0 x1).val
theorem d_Br : ∀ g_AH, DenIs Tryz.prog [e_AH g_AH] ⟨[], [], [], [], none⟩ 2000 113 Q_Br R_Br fun b => B_Br g_AH b.1 b.2 := fun _ b => by kernel_rfl
theorem s_Br [Amb] : Snd Tryz.prog (e_Br f_Br) := Snd.of (mk0 mixed (.c s_AH (.nil _)) (by kernel_rfl) (d_Br f_AH)) (by kernel_rfl)

def Q_DB := (open Rq in (pr (cu (app 0 1) (cl (aa (c gi (c gi (cl gi nil)))) nil)) (cl (cl gb nil) nil)) : RA _)
def RR_DB := (open Rq in Q2q26 : RE _)
abbrev D_DB := RR_DB.B
def R_DB (d : D_DB) : T := (fun d => .leaf (RR_DB.em d)) d
abbrev G_DB := Int → Int → Int → Bool → Option D_DB
def e_DB (g : G_DB) : Ct := (171, FC Q_DB R_DB (fun b => g b.1.1 b.1.2.1 b.1.2.2 b.2))
def B_DB (g_By : G_By) (g_BU : G_BU) (g_Ar : G_Ar) (g_AF : G_AF) (g_BP : G_BP) (g_AL : G_AL) (g_Bi : G_Bi) (g_AG : G_AG) (x0 : Int) (x1 : Int) (x2 : Int) (x3 : Bool) : Pg D_DB := opt (g_By x0 x1 x2 x3) fun d => opt (g_BU d.1.1 d.1.2.1 d.1.2.2 d.2) fun d_1 => cnd (d_1.1 == 0) (opt g_Ar fun d => ret ((1073741824, 0, 0, 0), d_1.2)) (opt (g_AF d_1.1 536870912 30 d_1.2) fun d_2 => opt (g_BP d_2.1 d_2.2) fun d_3 => opt (g_AL d_3.1 d_1.1 30 d_3.2) fun d_4 => opt (g_Bi d_2.1 d_4.2) fun d_5 => opt (g_AF d.1.1 d_4.1 30 d_5.2) fun d_6 => opt (g_AF d.1.2.1 d_4.1 30 d_6.2) fun d_7 => opt (g_AF d.1.2.2 d_4.1 30 d_7.2) fun d => opt (g_AG d_5.1 d_6.1 d_7.1 d.1 d.2) fun d => ret d)
def f_DB (x0 : Int) (x1 : Int) (x2 : Int) (x3 : Bool) : Option D_DB := (B_DB f_By f_BU f_Ar f_AF f_BP f_AL f_Bi f_AG x0 x1 x2 x3).val
theorem d_DB : ∀ g_By g_BU g_Ar g_AF g_BP g_AL g_Bi g_AG, DenIs Tryz.prog [e_By g_By, e_BU g_BU, e_Ar g_Ar, e_AF g_AF, e_BP g_BP, e_AL g_AL, e_Bi g_Bi, e_AG g_AG] ⟨[], [], [], [], none⟩ 2000 171 Q_DB R_DB fun b => B_DB g_By g_BU g_Ar g_AF g_BP g_AL g_Bi g_AG b.1.1 b.1.2.1 b.1.2.2 b.2 := fun _ _ _ _ _ _ _ _ b => by kernel_rfl
theorem s_DB [Amb] : Snd Tryz.prog (e_DB f_DB) := Snd.of (mk0 mixed (.c s_By (.c s_BU (.c s_Ar (.c s_AF (.c s_BP (.c s_AL (.c s_Bi (.c s_AG (.nil _))))))))) (by kernel_rfl) (d_DB f_By f_BU f_Ar f_AF f_BP f_AL f_Bi f_AG)) (by kernel_rfl)

def Q_DD := (open Rq in (pr (cu (app 0 1) (c (aa (cl (gl 24 (cl kci nil)) nil)) (cl (aa (c gi (c gi (a 3 (c gi (c gi (cl gi nil))) (c gi (c gi (cl gi nil))))))) nil))) (cl (cl gb nil) nil)) : RA _)
def RR_DD := (open Rq in (res (pr (aa (c gi (c gi (c gi (c gi (c gi (c gi (c gi (c gi (c gi (c gi (c gi (cl (gl 9 (cl kci nil)) nil))))))))))))) (pl (cl (chs (cl gb nil)) nil) nil))) : RE _)
abbrev D_DD := RR_DD.B
def R_DD (d : D_DD) : T := (fun d => .leaf (RR_DD.em d)) d
abbrev G_DD := NI → Int → Int → Int → Int → Int → Int → Int → Int → Bool → Option D_DD
def e_DD (g : G_DD) : Ct := (107, FC Q_DD R_DD (fun b => g b.1.1 b.1.2.1 b.1.2.2.1 b.1.2.2.2.1.1 b.1.2.2.2.1.2.1 b.1.2.2.2.1.2.2 b.1.2.2.2.2.1 b.1.2.2.2.2.2.1 b.1.2.2.2.2.2.2 b.2))
def B_DD (g_BL : G_BL) (g_Br : G_Br) (g_Ac : G_Ac) (g_Bf : G_Bf) (g_Bd : G_Bd) (g_DB : G_DB) (g_BK : G_BK) (g_Az : G_Az) (x0 : Nat → Int) (x1 : Int) (x2 : Int) (x3 : Int) (x4 : Int) (x5 : Int) (x6 : Int) (x7 : Int) (x8 : Int) (x9 : Bool) : Pg D_DD := opt (g_BL x0 x9) fun d => opt (g_Br x2 d.2) fun d_1 => opt (g_Ac d.1 10) fun d_2 => opt (g_Bf d_2.1 d_2.2.1 d_2.2.2 d_1.1 d_1.2) fun d_3 => opt (g_Bd x3 x4 x5 d_3.1.1 d_3.1.2.1 d_3.1.2.2 d_3.2) fun d_4 => opt (g_Ac d.1 13) fun d_5 => opt (g_Bf d_5.1 d_5.2.1 d_5.2.2 d_1.1 d_4.2) fun d_6 => opt (g_Bd x6 x7 x8 d_6.1.1 d_6.1.2.1 d_6.1.2.2 d_6.2) fun d_7 => opt (g_DB d_4.1.1 d_4.1.2.1 d_4.1.2.2 d_7.2) fun d_8 => opt (g_BK d.1) fun d => opt (g_Az d.1 d.2.1 d.2.2.1 d.2.2.2 d_8.2) fun d => ret ((d_1.1,
 d_4.1.1, d_4.1.2.1, d_4.1.2.2, d_7.1.1, d_7.1.2.1, d_7.1.2.2, d_8.1.1, d_8.1.2.1, d_8.1.2.2.1, d_8.1.2.2.2, d.1), d.2)
def f_DD (x0 : Nat → Int) (x1 : Int) (x2 : Int) (x3 : Int) (x4 : Int) (x5 : Int) (x6 : Int) (x7 : Int) (x8 : Int) (x9 : Bool) : Option D_DD := (B_DD f_BL f_Br f_Ac f_Bf f_Bd f_DB f_BK f_Az x0 x1 x2 x3 x4 x5 x6 x7 x8 x9).val
theorem d_DD : ∀ g_BL g_Br g_Ac g_Bf g_Bd g_DB g_BK g_Az, DenIs Tryz.prog [e_BL g_BL, e_Br g_Br, e_Ac g_Ac, e_Bf g_Bf, e_Bd g_Bd, e_DB g_DB, e_BK g_BK, e_Az g_Az] ⟨[], [], [], [], none⟩ 2000 107 Q_DD R_DD fun b => B_DD g_BL g_Br g_Ac g_Bf g_Bd g_DB g_BK g_Az b.1.1 b.1.2.1 b.1.2.2.1 b.1.2.2.2.1.1 b.1.2.2.2.1.2.1 b.1.2.2.2.1.2.2 b.1.2.2.2.2.1 b.1.2.2.2.2.2.1 b.1.2.2.2.2.2.2 b.2 := fun _ _ _ _ _ _ _ _ b => by kernel_rfl
theorem s_DD [Amb] : Snd Tryz.prog (e_DD f_DD) := Snd.of (mk0 mixed (.c s_BL (.c s_Br (.c s_Ac (.c s_Bf (.c s_Bd (.c s_DB (.c s_BK (.c s_Az (.nil _))))))))) (by kernel_rfl) (d_DD f_BL f_Br f_Ac f_Bf f_Bd f_DB f_BK f_Az)) (by kernel_rfl)

def Q_DE := (open Rq in (pr (cu (app 0 1) (c (aa (cl (gl 24 (cl kci nil)) nil)) (cl (aa (c gi (c gi (a 3 (c gi (c gi (cl gi nil))) (c gi (c gi (cl gi nil))))))) nil))) (cl (cl gb nil) nil)) : RA _)
def RR_DE := (open Rq in Q2q20 : RE _)
abbrev D_DE := RR_DE.B
def R_DE (d : D_DE) : T := (fun d => .leaf (RR_DE.em d)) d
abbrev G_DE := NI → Int → Int → Int → Int → Int → Int → Int → Int → Bool → Option D_DE
def e_DE (g : G_DE) : Ct := (64, FC Q_DE R_DE (fun b => g b.1.1 b.1.2.1 b.1.2.2.1 b.1.2.2.2.1.1 b.1.2.2.2.1.2.1 b.1.2.2.2.1.2.2 b.1.2.2.2.2.1 b.1.2.2.2.2.2.1 b.1.2.2.2.2.2.2 b.2))
def B_DE (g_DD : G_DD) (g_BL : G_BL) (g_BK : G_BK) (g_BE : G_BE) (g_AG : G_AG) (g_Ac : G_Ac) (g_Ay : G_Ay) (g_AF : G_AF) (g_AK : G_AK) (g_Bf : G_Bf) (g_AT : G_AT) (x0 : Nat → Int) (x1 : Int) (x2 : Int) (x3 : Int) (x4 : Int) (x5 : Int) (x6 : Int) (x7 : Int) (x8 : Int) (x9 : Bool) : Pg D_DE := opt (g_DD x0 x1 x2 x3 x4 x5 x6 x7 x8 x9) fun d => opt (g_BL x0 d.2) fun d_1 => opt (g_BK d_1.1) fun d_2 => opt (g_BE d_2.1 d_2.2.1 d_2.2.2.1 d_2.2.2.2 d.1.2.2.2.2.2.2.2.1 d.1.2.2.2.2.2.2.2.2.1 d.1.2.2.2.2.2.2.2.2.2.1 d.1.2.2.2.2.2.2.2.2.2.2.1 d_1.2) fun d_3 => opt (g_AG d_3.1.1 d_3.1.2.1 d_3.1.2.2.1 d_3.1.2.2.2 d_3.2) fun d_4 => opt (g_Ac d_1.1 4) fun d_5 => opt (g_Ay d.1.2.2.2.2.2.2.2.2.2.2.2 d.1.2.2.2.2.1 d.1.2.2.2.2.2.1 d.1.2.2.2.2.2.2.1 d_4.2) fun d_6 => opt (g_AF 10529810258 d.1.1 30 d_6.2) fun d_7 => opt (g_AK 3 d_7.2 (fun j => bif Nat.beq j 2 then 0 else bif Nat.beq j 1 then d_6.1.1 else bif Nat.beq j 0 then d_5.1 else d_5.1) (fun j => bif Nat.beq j 2 then 0 else bif Nat.beq j 1 then d_6.1.2.1 else bif Nat.beq j 0 then d_5.2.1 else d_5.2.1) (fun j => bif Nat.beq j 2 then d_7.1 else bif Nat.beq j 1 then d_6.1.2.2 else bif Nat.beq j 0 then d_5.2.2 else d_5.2.2) true) fun d_8 => opt (g_AF d.1.1 536870912 30 d_8.2) fun d => opt (g_Ac d_1.1 7) fun d_9 => opt (g_AK 2 d.2 (fun j => bif Nat.beq j 1 then d_8.1.1 else bif Nat.beq j 0 then d_5.1 else d_5.1) (fun j => bif Nat.beq j 1 then d_8.1.2.1 else bif Nat.beq j 0 then d_5.2.1 else d_5.2.1) (fun j => bif Nat.beq j 1 then d_8.1.2.2 else bif Nat.beq j 0 then d_5.2.2 else d_5.2.2) true) fun d_10 => opt (g_Bf d_10.1.1 d_10.1.2.1 d_10.1.2.2 d.1 d_10.2) fun d => opt (g_AK 2 d.2 (fun j => bif Nat.beq j 1 then d.1.1 else bif Nat.beq j 0 then d_9.1 else d_9.1) (fun j => bif Nat.beq j 1 then d.1.2.1 else bif Nat.beq j 0 then d_9.2.1 else d_9.2.1) (fun j => bif Nat.beq j 1 then d.1.2.2 else bif Nat.beq j 0 then d_9.2.2 else d_9.2.2) true) fun d => opt (g_AT d_1.1 0 4 (fun j => bif Nat.beq j 3 then d_4.1.2.2.2 else bif Nat.beq j 2 then d_4.1.2.2.1 else bif Nat.beq j 1 then d_4.1.2.1 else bif Nat.beq j 0 then d_4.1.1 else d_4.1.1) false) fun d_11 => opt (g_AT d_11 4 3 (fun j => bif Nat.beq j 2 then d_8.1.2.2 else bif Nat.beq j 1 then d_8.1.2.1 else bif Nat.beq j 0 then d_8.1.1 else d_8.1.1) false) fun d_12 => opt (g_AT d_12 7 3 (fun j => bif Nat.beq j 2 then d.1.2.2 else bif Nat.beq j 1 then d.1.2.1 else bif Nat.beq j 0 then d.1.1 else d.1.1) false) fun d_13 => opt (g_BL d_13 d.2) fun d => ret d
def f_DE (x0 : Nat → Int) (x1 : Int) (x2 : Int) (x3 : Int) (x4 : Int) (x5 : Int) (x6 : Int) (x7 : Int) (x8 : Int) (x9 : Bool) : Option D_DE := (B_DE f_DD f_BL f_BK f_BE f_AG f_Ac f_Ay f_AF f_AK f_Bf f_AT x0 x1 x2 x3 x4 x5 x6 x7 x8 x9).val
theorem d_DE : ∀ g_DD g_BL g_BK g_BE g_AG g_Ac g_Ay g_AF g_AK g_Bf g_AT, DenIs Tryz.prog [e_DD g_DD, e_BL g_BL, e_BK g_BK, e_BE g_BE, e_AG g_AG, e_Ac g_Ac, e_Ay g_Ay, e_AF g_AF, e_AK g_AK, e_Bf g_Bf, e_AT g_AT] ⟨[], [], [], [], none⟩ 2000 64 Q_DE R_DE fun b => B_DE g_DD g_BL g_BK g_BE g_AG g_Ac g_Ay g_AF g_AK g_Bf g_AT b.1.1 b.1.2.1 b.1.2.2.1 b.1.2.2.2.1.1 b.1.2.2.2.1.2.1 b.1.2.2.2.1.2.2 b.1.2.2.2.2.1 b.1.2.2.2.2.2.1 b.1.2.2.2.2.2.2 b.2 := fun _ _ _ _ _ _ _ _ _ _ _ b => by kernel_rfl
theorem s_DE [Amb] : Snd Tryz.prog (e_DE f_DE) := Snd.of (mk0 mixed (.c s_DD (.c s_BL (.c s_BK (.c s_BE (.c s_AG (.c s_Ac (.c s_Ay (.c s_AF (.c s_AK (.c s_Bf (.c s_AT (.nil _)))))))))))) (by kernel_rfl) (d_DE f_DD f_BL f_BK f_BE f_AG f_Ac f_Ay f_AF f_AK f_Bf f_AT)) (by kernel_rfl)

def Q_Au := (open Rq in (pr (cu (app 0 1) (cl (aa (c gi (c gi (cl gi nil)))) nil)) (cl (cl gb nil) nil)) : RA _)
def RR_Au := (open Rq in Q2q26 : RE _)
abbrev D_Au := RR_Au.B
def R_Au (d : D_Au) : T := (fun d => .leaf (RR_Au.em d)) d
abbrev G_Au := Int → Int → Int → Bool → Option D_Au
def e_Au (g : G_Au) : Ct := (114, FC Q_Au R_Au (fun b => g b.1.1 b.1.2.1 b.1.2.2 b.2))
def QL_Au_0 := (open Rq in (st (pr (cu (app 0 1) (us 3 (cu (app 1 4) (cu (app 2 3) (c ai (cu (app 3 3) (us 12 (cl ai (us 27 nil))))))))) (pl (c (so (cl gb nil)) (cu Q2q41 (c (so (c gi (c gi (cl gi nil)))) (cl (so (c gi (c gi (cl gi nil)))) nil)))) (cu (nat 0) nil)))) : RS _)
def Z_Au_0 := (open Rq in (st (pr (cu (app 0 1) (us 3 (cu (app 1 4) (cu (app 2 3) (c ai (cu (app 3 3) (us 12 (c ai (cl ab (us 26 nil)))))))))) (pl (c (so (cl gb nil)) (cu Q2q41 (c (so (c gi (c gi (cl gi nil)))) (cl (so (c gi (c gi (cl gi nil)))) nil)))) (cu (nat 0) nil)))) : RS _)
abbrev X_Au_0 := Z_Au_0.B
def E_Au_0 {ρ : Type} (x : X_Au_0) (K : AX → St → Option ρ) : Option ρ := (fun d => K (AX.ex 0) (Z_Au_0.em d)) x
def S_Au_0 (g_AL : G_AL) (d : QL_Au_0.B) : Pg (QL_Au_0.B ⊕ X_Au_0) := let y0 := inR d.1.2 3; let y1 := d.1.2 == 2; let y2 := d.1.2 == 1; let y3 := decide (d.1.2 < 3); cnd y3 (cnd y0 (cnd y1 (opt (g_AL d.2.2.1.2.2 d.1.1 30 d.2.1) fun d_1 => cnd y0 (cnd y1 (ret (Sum.inl ((d.1.1, wI (d.1.2 + 1)), d_1.2, d.2.2.1, d.2.2.2.1, d.2.2.2.2.1, d_1.1))) (cnd y2 (ret (Sum.inl ((d.1.1, wI (d.1.2 + 1)), d_1.2, d.2.2.1,
 d.2.2.2.1, d_1.1, d.2.2.2.2.2))) (ret (Sum.inl ((d.1.1, wI (d.1.2 + 1)), d_1.2, d.2.2.1, d_1.1, d.2.2.2.2))))) no) (cnd y2 (opt (g_AL d.2.2.1.2.1 d.1.1 30 d.2.1) fun d_1 => cnd y0 (cnd y1 (ret (Sum.inl ((d.1.1, wI (d.1.2 + 1)), d_1.2, d.2.2.1, d.2.2.2.1, d.2.2.2.2.1, d_1.1))) (cnd y2 (ret (Sum.inl ((d.1.1, wI (d.1.2 + 1)), d_1.2, d.2.2.1, d.2.2.2.1, d_1.1, d.2.2.2.2.2))) (ret (Sum.inl ((d.1.1, wI (d.1.2 + 1)),
 d_1.2, d.2.2.1, d_1.1, d.2.2.2.2))))) no) (opt (g_AL d.2.2.1.1 d.1.1 30 d.2.1) fun d_1 => cnd y0 (cnd y1 (ret (Sum.inl ((d.1.1, wI (d.1.2 + 1)), d_1.2, d.2.2.1, d.2.2.2.1, d.2.2.2.2.1, d_1.1))) (cnd y2 (ret (Sum.inl ((d.1.1, wI (d.1.2 + 1)), d_1.2, d.2.2.1, d.2.2.2.1, d_1.1, d.2.2.2.2.2))) (ret (Sum.inl ((d.1.1, wI (d.1.2 + 1)), d_1.2, d.2.2.1, d_1.1, d.2.2.2.2))))) no))) no) (ret (Sum.inr ((d.1.1,
 d.1.2, y3), d.2)))
def L_Au_0 : QL_Au_0.B → Option X_Au_0 := loopP (S_Au_0 f_AL) 2000
def H_Au (l_0 : QL_Au_0.B → Option X_Au_0) : Hs := ⟨[⟨7, (1 :: 2 :: 3 :: rg 8 12 (rg 21 27 [])), []⟩], [smQ 7 1 QL_Au_0 E_Au_0 l_0], [], [], (some ⟨0, (rg 0 4 (rg 5 43 [])), []⟩)⟩
def B_Au (g_By : G_By) (g_Ar : G_Ar) (g_BU : G_BU) (g_Ae : G_Ae) (g_AG : G_AG) (l_0 : QL_Au_0.B → Option X_Au_0) (x0 : Int) (x1 : Int) (x2 : Int) (x3 : Bool) : Pg D_Au := opt (g_By x0 x1 x2 x3) fun d => cnd (d.1.1 == 0 && (d.1.2.1 == 0 && (d.1.2.2 == 0 && true))) (opt g_Ar fun d_1 => ret ((1073741824, 0, 0, 0), d.2)) (opt (g_BU d.1.1 d.1.2.1 d.1.2.2 d.2) fun d_1 => opt (l_0 ((d_1.1, 0), d_1.2, d.1,
 0, 0, 0)) fun d => opt (g_Ae 1073741824 d.2.2.2.2.2 d.2.1) fun d_2 => cnd (decide (d_2.1 ≤ 16)) (ret ((0, 1073741824, 0, 0), d_2.2)) (opt (g_AG d_2.1 (wI (0 - d.2.2.2.2.1)) d.2.2.2.1 0 d_2.2) fun d => ret d))
def f_Au (x0 : Int) (x1 : Int) (x2 : Int) (x3 : Bool) : Option D_Au := (B_Au f_By f_Ar f_BU f_Ae f_AG L_Au_0 x0 x1 x2 x3).val
theorem dl_Au_0 : ∀ g_By g_Ar g_BU g_AL g_Ae g_AG l_0, LoopIs Tryz.prog [e_By g_By, e_Ar g_Ar, e_BU g_BU, e_AL g_AL, e_Ae g_Ae, e_AG g_AG] (H_Au l_0) 1 2000 114 7 QL_Au_0 E_Au_0 (S_Au_0 g_AL) := fun _ _ _ _ _ _ _ _ d c K => by kernel_rfl
theorem d_Au : ∀ g_By g_Ar g_BU g_AL g_Ae g_AG l_0, DenIs Tryz.prog [e_By g_By, e_Ar g_Ar, e_BU g_BU, e_AL g_AL, e_Ae g_Ae, e_AG g_AG] (H_Au l_0) 2000 114 Q_Au R_Au fun b => B_Au g_By g_Ar g_BU g_Ae g_AG l_0 b.1.1 b.1.2.1 b.1.2.2 b.2 := fun _ _ _ _ _ _ _ b => by kernel_rfl
theorem s_Au [Amb] : Snd Tryz.prog (e_Au f_Au) := Snd.of (mkS mixed (.c s_By (.c s_Ar (.c s_BU (.c s_AL (.c s_Ae (.c s_AG (.nil _))))))) (by kernel_rfl) (Sums.by (l := [loopIn Tryz.prog 114 7]) (lj := []) (by kernel_rfl) ⟨mkL (S := S_Au_0 f_AL) (by kernel_rfl) (dl_Au_0 f_By f_Ar f_BU f_AL f_Ae f_AG L_Au_0), trivial⟩ (by kernel_rfl) trivial) (d_Au f_By f_Ar f_BU f_AL f_Ae f_AG L_Au_0)) (by kernel_rfl)

def Q_O := (open Rq in (pr (cu (app 0 1) (c Q2q12 (c (aa (cl (gl 576 (cl kci nil)) nil)) Q2q1))) (cl (cl gb nil) nil)) : RA _)
def RR_O := (open Rq in Q2q32 : RE _)
abbrev D_O := RR_O.B
def R_O (d : D_O) : T := (fun d => .leaf (RR_O.em d)) d
abbrev G_O := NI → NI → NI → NI → Bool → Option D_O
def e_O (g : G_O) : Ct := (117, FC Q_O R_O (fun b => g b.1.1.1 b.1.1.2 b.1.2.1 b.1.2.2 b.2))
def QL_O_1 := (open Rq in (st (pr (cu (app 0 1) (us 4 (cu (app 1 300) (cu (app 2 576) (cu (app 3 24) (cu (app 4 300) (cu (app 5 48) (c ai (us 13 (c ai (us 16 (cl ai (us 105 nil))))))))))))) (pl (c (so (cl gb nil)) (c Q2q13 (c (so (cl (gl 576 (cl kci nil)) nil)) (c (so (cl (gl 24 (cl kci nil)) nil)) Q2q34)))) (cu (nat 0) nil)))) : RS _)
def Z_O_1 := (open Rq in (st (pr (cu (app 0 1) (us 4 (cu (app 1 300) (cu (app 2 576) (cu (app 3 24) (cu (app 4 300) (cu (app 5 48) (c ai (us 13 (c ai (us 16 (c ai (cl ab (us 104 nil)))))))))))))) (pl (c (so (cl gb nil)) (c Q2q13 (c (so (cl (gl 576 (cl kci nil)) nil)) (c (so (cl (gl 24 (cl kci nil)) nil)) Q2q34)))) (cu (nat 0) nil)))) : RS _)
abbrev X_O_1 := Z_O_1.B
def E_O_1 {ρ : Type} (x : X_O_1) (K : AX → St → Option ρ) : Option ρ := (fun d => K (AX.ex 2) (Z_O_1.em d)) x
def S_O_1 (g_Z : G_Z) (d : QL_O_1.B) : Pg (QL_O_1.B ⊕ X_O_1) := let y0 := inR d.1.1 24; let y1 := inR d.1.2.2 24; let y2 := decide (d.1.2.2 < 24); let y3 := Int.toNat d.1.1 * 24 + Int.toNat d.1.2.2; cnd y2 (cnd y0 (cnd y1 (opt (g_Z (d.2.2.2.1 y3) d.2.1) fun d_1 => cnd y0 (cnd y1 (cnd (true && Nat.ble (0 + y3 * 1 + 1) 576) (ret (Sum.inl ((d.1.1, d.1.2.1, wI (d.1.2.2 + 1)), d_1.2, d.2.2.1, fun j => bif Nat.beq j y3 then d_1.1 else d.2.2.2.1 j,
 d.2.2.2.2))) no) no) no) no) no) (ret (Sum.inr ((d.1.1, d.1.2.1, d.1.2.2, y2), d.2)))
def L_O_1 : QL_O_1.B → Option X_O_1 := loopP (S_O_1 f_Z) 2000
def QL_O_3 := (open Rq in (st (pr (cu (app 0 1) (us 7 (cu (app 1 300) (cu (app 2 48) (us 2 (cu (app 3 1152) (cu (app 4 300) (c ai (cu (app 5 48) (us 48 (cl ai (us 82 nil)))))))))))) (pl (c (so (cl gb nil)) (c Q2q13 (c (so (cl (gl 48 (cl kci nil)) nil)) (c (so (cl (gl 1152 (cl kci nil)) nil)) Q2q34)))) (cu (nat 0) nil)))) : RS _)
def Z_O_3 := (open Rq in (st (pr (cu (app 0 1) (us 7 (cu (app 1 300) (cu (app 2 48) (us 2 (cu (app 3 1152) (cu (app 4 300) (c ai (cu (app 5 48) (us 48 (c ai (cl ab (us 81 nil))))))))))))) (pl (c (so (cl gb nil)) (c Q2q13 (c (so (cl (gl 48 (cl kci nil)) nil)) (c (so (cl (gl 1152 (cl kci nil)) nil)) Q2q34)))) (cu (nat 0) nil)))) : RS _)
abbrev X_O_3 := Z_O_3.B
def E_O_3 {ρ : Type} (x : X_O_3) (K : AX → St → Option ρ) : Option ρ := (fun d => K (AX.ex 6) (Z_O_3.em d)) x
def S_O_3 (g_AF : G_AF) (d : QL_O_3.B) : Pg (QL_O_3.B ⊕ X_O_3) := let y0 := Int.toNat d.1.2; let y1 := inR d.1.2 48; let y2 := decide (d.1.2 < 48); cnd y2 (cnd (inR d.1.1 24) (cnd y1 (cnd y1 (opt (g_AF (d.2.2.2.2.1 (Int.toNat d.1.1 * 48 + y0)) (d.2.2.2.1 y0) 30 d.2.1) fun d_1 => cnd y1 (cnd (true && Nat.ble (0 + y0 * 1 + 1) 48) (ret (Sum.inl ((d.1.1, wI (d.1.2 + 1)), d_1.2, d.2.2.1, d.2.2.2.1, d.2.2.2.2.1,
 d.2.2.2.2.2.1, fun j => bif Nat.beq j y0 then d_1.1 else d.2.2.2.2.2.2 j))) no) no) no) no) no) (ret (Sum.inr ((d.1.1, d.1.2, y2), d.2)))
def L_O_3 : QL_O_3.B → Option X_O_3 := loopP (S_O_3 f_AF) 2000
def QL_O_5 := (open Rq in (st (pr (cu (app 0 1) (us 7 (cu (app 1 300) (cu (app 2 48) (us 2 (cu (app 3 1152) (cu (app 4 300) (c ai (cu (app 5 48) (us 1 (c ai (c ai (c ai (us 76 (c ai (c ai (us 18 (cl ai (us 30 nil))))))))))))))))))) (pl (c (so (cl gb nil)) (c Q2q13 (c (so (cl (gl 48 (cl kci nil)) nil)) (c (so (cl (gl 1152 (cl kci nil)) nil)) Q2q34)))) (cu (nat 0) nil)))) : RS _)
def Z_O_5 := (open Rq in (st (pr (cu (app 0 1) (us 7 (cu (app 1 300) (cu (app 2 48) (us 2 (cu (app 3 1152) (cu (app 4 300) (c ai (cu (app 5 48) (us 1 (c ai (c ai (c ai (us 76 (c ai (c ai (us 18 (c ai (cl ab (us 29 nil)))))))))))))))))))) (pl (c (so (cl gb nil)) (c Q2q13 (c (so (cl (gl 48 (cl kci nil)) nil)) (c (so (cl (gl 1152 (cl kci nil)) nil)) Q2q34)))) (cu (nat 0) nil)))) : RS _)
abbrev X_O_5 := Z_O_5.B
def E_O_5 {ρ : Type} (x : X_O_5) (K : AX → St → Option ρ) : Option ρ := (fun d => K (AX.ex 10) (Z_O_5.em d)) x
def S_O_5 (g_AF : G_AF) (g_Ae : G_Ae) (d : QL_O_5.B) : Pg (QL_O_5.B ⊕ X_O_5) := let y0 := inR d.1.2.2.1 24; let y1 := Int.toNat d.1.2.2.2.2.2.2; let y2 := inR d.1.2.2.2.2.2.2 48; let y3 := Int.toNat d.1.2.2.1 * 48 + y1; let y4 := decide (d.1.2.2.2.2.2.2 < 48); cnd y4 (cnd y0 (cnd y2 (cnd (inR d.1.1 24) (cnd y2 (opt (g_AF d.1.2.2.2.1 (d.2.2.2.2.1 (Int.toNat d.1.1 * 48 + y1)) 30 d.2.1) fun d_1 => opt (g_Ae (d.2.2.2.2.1 y3) d_1.1 d_1.2) fun d_2 => cnd y0 (cnd y2 (cnd (true && Nat.ble (0 + y3 * 1 + 1) 1152) (ret (Sum.inl ((d.1.1,
 d.1.2.1, d.1.2.2.1, d.1.2.2.2.1, d.1.2.2.2.2.1, d.1.2.2.2.2.2.1, wI (d.1.2.2.2.2.2.2 + 1)), d_2.2, d.2.2.1, d.2.2.2.1, fun j => bif Nat.beq j y3 then d_2.1 else d.2.2.2.2.1 j, d.2.2.2.2.2))) no) no) no) no) no) no) no) (ret (Sum.inr ((d.1.1, d.1.2.1, d.1.2.2.1, d.1.2.2.2.1, d.1.2.2.2.2.1, d.1.2.2.2.2.2.1, d.1.2.2.2.2.2.2, y4), d.2)))
def L_O_5 : QL_O_5.B → Option X_O_5 := loopP (S_O_5 f_AF f_Ae) 2000
def QL_O_0 := (open Rq in (st (pr (cu (app 0 1) (us 4 (cu (app 1 300) (cu (app 2 576) (cu (app 3 24) (cu (app 4 300) (cu (app 5 48) (us 14 (cl ai (us 122 nil)))))))))) (pl (c (so (cl gb nil)) (c Q2q13 (c (so (cl (gl 576 (cl kci nil)) nil)) (c (so (cl (gl 24 (cl kci nil)) nil)) Q2q34)))) (cu (nat 0) nil)))) : RS _)
def Z_O_0 := (open Rq in (st (pr (cu (app 0 1) (us 4 (cu (app 1 300) (cu (app 2 576) (cu (app 3 24) (cu (app 4 300) (cu (app 5 48) (us 14 (c ai (cl ab (us 121 nil))))))))))) (pl (c (so (cl gb nil)) (c Q2q13 (c (so (cl (gl 576 (cl kci nil)) nil)) (c (so (cl (gl 24 (cl kci nil)) nil)) Q2q34)))) (cu (nat 0) nil)))) : RS _)
abbrev X_O_0 := Z_O_0.B
def E_O_0 {ρ : Type} (x : X_O_0) (K : AX → St → Option ρ) : Option ρ := (fun d => K (AX.ex 0) (Z_O_0.em d)) x
def S_O_0 (g_AC : G_AC) (l_1 : QL_O_1.B → Option X_O_1) (d : QL_O_0.B) : Pg (QL_O_0.B ⊕ X_O_0) := let y0 := Int.toNat d.1; let y1 := inR d.1 24; let y2 := wI (24 + d.1); let y3 := Int.toNat y2; let y4 := decide (d.1 < 24); cnd y4 (cnd y1 (cnd y1 (opt (g_AC (d.2.2.2.2.1 y0) 0 72057594037927936 d.2.1) fun d_1 => cnd (inR d.1 48) (cnd (true && Nat.ble (0 + y0 * 1 + 1) 48) (cnd (inR y2 48) (cnd (true && Nat.ble (0 + y3 * 1 + 1) 48) (opt (l_1 ((d.1,
 d.1, 0), d_1.2, d.2.2.1, d.2.2.2.1, d.2.2.2.2.1, d.2.2.2.2.2.1, fun j => bif Nat.beq j y3 then d_1.1 else bif Nat.beq j y0 then d.2.2.1.2 y0 else d.2.2.2.2.2.2 j)) fun d => ret (Sum.inl (wI (d.1.2.1 + 1), d.2))) no) no) no) no) no) no) (ret (Sum.inr ((d.1, y4), d.2)))
def L_O_0 : QL_O_0.B → Option X_O_0 := loopP (S_O_0 f_AC L_O_1) 2000
def QL_O_4 := (open Rq in (st (pr (cu (app 0 1) (us 7 (cu (app 1 300) (cu (app 2 48) (us 2 (cu (app 3 1152) (cu (app 4 300) (c ai (cu (app 5 48) (us 1 (c ai (us 78 (c ai (cl ai (us 49 nil))))))))))))))) (pl (c (so (cl gb nil)) (c Q2q13 (c (so (cl (gl 48 (cl kci nil)) nil)) (c (so (cl (gl 1152 (cl kci nil)) nil)) Q2q34)))) (cu (nat 0) nil)))) : RS _)
def Z_O_4 := (open Rq in (st (pr (cu (app 0 1) (us 7 (cu (app 1 300) (cu (app 2 48) (us 2 (cu (app 3 1152) (cu (app 4 300) (c ai (cu (app 5 48) (us 1 (c ai (us 78 (c ai (c ai (cl ab (us 48 nil)))))))))))))))) (pl (c (so (cl gb nil)) (c Q2q13 (c (so (cl (gl 48 (cl kci nil)) nil)) (c (so (cl (gl 1152 (cl kci nil)) nil)) Q2q34)))) (cu (nat 0) nil)))) : RS _)
abbrev X_O_4 := Z_O_4.B
def E_O_4 {ρ : Type} (x : X_O_4) (K : AX → St → Option ρ) : Option ρ := (fun d => K (AX.ex 8) (Z_O_4.em d)) x
def S_O_4 (g_AE : G_AE) (g_AL : G_AL) (g_BV : G_BV) (l_5 : QL_O_5.B → Option X_O_5) (d : QL_O_4.B) : Pg (QL_O_4.B ⊕ X_O_4) := let y0 := decide (d.1.2.2.2 < d.1.2.2.1); cnd y0 (cnd (inR d.1.2.2.2 24) (opt (g_AE 30 48 48 d.2.1 (fun j => d.2.2.2.2.1 (0 + Int.toNat d.1.2.2.2 * 48 + j)) d.2.2.2.2.2.2 false false) fun d_1 => opt (g_AL d_1.1 d.1.2.1 30 d_1.2) fun d_2 => opt (g_BV d.2.2.2.2.2.1.1 d.2.2.2.2.2.1.2 d.1.2.2.2 d.1.1 d_2.1) fun d_3 => opt (l_5 ((d.1.1,
 d.1.2.1, d.1.2.2.2, d_2.1, d.1.2.2.1, d.1.2.2.2, 0), d_2.2, d.2.2.1, d.2.2.2.1, d.2.2.2.2.1, d_3, d.2.2.2.2.2.2)) fun d => ret (Sum.inl ((d.1.1, d.1.2.1, d.1.2.2.2.2.1, wI (d.1.2.2.2.2.2.1 + 1)), d.2))) no) (ret (Sum.inr ((d.1.1, d.1.2.1, d.1.2.2.1, d.1.2.2.2, y0), d.2)))
def L_O_4 : QL_O_4.B → Option X_O_4 := loopP (S_O_4 f_AE f_AL f_BV L_O_5) 2000
def QL_O_2 := (open Rq in (st (pr (cu (app 0 1) (us 7 (cu (app 1 300) (cu (app 2 48) (us 2 (cu (app 3 1152) (cu (app 4 300) (cl ai (us 132 nil))))))))) (pl (c (so (cl gb nil)) (c Q2q13 (c (so (cl (gl 48 (cl kci nil)) nil)) (c (so (cl (gl 1152 (cl kci nil)) nil)) Q2q17)))) (cu (nat 0) nil)))) : RS _)
def Z_O_2 := (open Rq in (st (pr (cu (app 0 1) (us 7 (cu (app 1 300) (cu (app 2 48) (us 2 (cu (app 3 1152) (cu (app 4 300) (c ai (us 45 (c ai (cl ab (us 85 nil)))))))))))) (pl (c (so (cl gb nil)) (c Q2q13 (c (so (cl (gl 48 (cl kci nil)) nil)) (c (so (cl (gl 1152 (cl kci nil)) nil)) Q2q17)))) (cu (nat 0) nil)))) : RS _)
abbrev X_O_2 := ((Int × Bool) × Bool × (NI × NI) × NI × NI × NI × NI)
def E_O_2 {ρ : Type} (x : X_O_2) (K : AX → St → Option ρ) : Option ρ := (fun d => K (AX.ex 4) (Z_O_2.em ((d.1.1, d.1), d.2))) x
def S_O_2 (g_AC : G_AC) (g_AE : G_AE) (l_3 : QL_O_3.B → Option X_O_3) (l_4 : QL_O_4.B → Option X_O_4) (d : QL_O_2.B) : Pg (QL_O_2.B ⊕ X_O_2) := let y0 := decide (d.1 ≥ 0); cnd y0 (opt (l_3 ((d.1, 0), d.2.1, d.2.2.1, d.2.2.2.1, d.2.2.2.2.1, d.2.2.2.2.2, fun x => 0)) fun d => let y0 := Int.toNat d.1.1; let y1 := inR d.1.1 24; cnd y1 (opt (g_AE 30 48 48 d.2.1 (fun j => d.2.2.2.2.1 (0 + y0 * 48 + j)) d.2.2.2.2.2.2 false false) fun d_1 => opt (g_AC d_1.1 1 72057594037927936 d_1.2) fun d_2 => cnd y1 (cnd (true && Nat.ble (276 + y0 * 1 + 1) 300) (opt (l_4 ((d.1.1,
 d_2.1, d.1.1, 0), d_2.2, d.2.2.1, d.2.2.2.1, d.2.2.2.2.1, (d.2.2.2.2.2.1.1, fun j => bif Nat.beq j y0 then d_2.1 else d.2.2.2.2.2.1.2 j), d.2.2.2.2.2.2)) fun d => ret (Sum.inl (wI (d.1.1 - 1), d.2.1, d.2.2.1, d.2.2.2.1, d.2.2.2.2.1, d.2.2.2.2.2.1))) no) no) no) (ret (Sum.inr ((d.1, y0), d.2)))
def L_O_2 : QL_O_2.B → Option X_O_2 := loopP (S_O_2 f_AC f_AE L_O_3 L_O_4) 2000
def H_O (l_1 : QL_O_1.B → Option X_O_1) (l_3 : QL_O_3.B → Option X_O_3) (l_5 : QL_O_5.B → Option X_O_5) (l_0 : QL_O_0.B → Option X_O_0) (l_4 : QL_O_4.B → Option X_O_4) (l_2 : QL_O_2.B → Option X_O_2) : Hs := ⟨[⟨4, (rg 1 4 (rg 10 14 (rg 25 122 []))), []⟩, ⟨8, (rg 1 4 (rg 11 13 (rg 25 16 (rg 42 105 [])))), []⟩, ⟨16, (rg 1 7 (10 :: 11 :: rg 15 132 [])), []⟩, ⟨20, (rg 1 7 (10 :: 11 :: rg 16 48 (rg 65 82 []))),
 []⟩, ⟨27, (rg 1 7 (10 :: 11 :: 16 :: rg 18 78 (rg 98 49 []))), []⟩, ⟨32, (rg 1 7 (10 :: 11 :: 16 :: rg 20 76 (rg 98 18 (rg 117 30 [])))), []⟩], [smQ 8 1 QL_O_1 E_O_1 l_1, smQ 20 1 QL_O_3 E_O_3 l_3, smQ 32 1 QL_O_5 E_O_5 l_5, smQ 4 1 QL_O_0 E_O_0 l_0, smQ 27 1 QL_O_4 E_O_4 l_4, smQ 16 1 QL_O_2 E_O_2 l_2], [], [], (some ⟨0, (rg 0 8 (rg 9 138 [])), []⟩)⟩
def B_O (g_AI : G_AI) (g_AA : G_AA) (l_0 : QL_O_0.B → Option X_O_0) (l_2 : QL_O_2.B → Option X_O_2) (x0 : Nat → Int) (x1 : Nat → Int) (x2 : Nat → Int) (x3 : Nat → Int) (x4 : Bool) : Pg D_O := opt (g_AI x0 x1 x4) fun d => opt (l_0 (0, d.2, d.1, x2, x3, (fun x => 0, fun x => 0), fun x => 0)) fun d => opt (g_AA d.2.2.1.1 d.2.2.1.2 d.2.1 d.2.2.2.1) fun d_1 => opt (l_2 (23, d_1.1, d.2.2.2.2.2.1, d.2.2.2.2.2.2, d_1.2, fun x => 0, fun x => 0)) fun d => ret (d.2.2.2.2.2, d.2.1)
def f_O (x0 : Nat → Int) (x1 : Nat → Int) (x2 : Nat → Int) (x3 : Nat → Int) (x4 : Bool) : Option D_O := (B_O f_AI f_AA L_O_0 L_O_2 x0 x1 x2 x3 x4).val
theorem dl_O_1 : ∀ g_AI g_AC g_Z g_AA g_AF g_AE g_AL g_BV g_Ae l_1 l_3 l_5 l_0 l_4 l_2, LoopIs Tryz.prog [e_AI g_AI, e_AC g_AC, e_Z g_Z, e_AA g_AA, e_AF g_AF, e_AE g_AE, e_AL g_AL, e_BV g_BV, e_Ae g_Ae] (H_O l_1 l_3 l_5 l_0 l_4 l_2) 1 2000 117 8 QL_O_1 E_O_1 (S_O_1 g_Z) := fun _ _ _ _ _ _ _ _ _ _ _ _ _ _ _ _ d c K => by kernel_rfl
theorem dl_O_3 : ∀ g_AI g_AC g_Z g_AA g_AF g_AE g_AL g_BV g_Ae l_1 l_3 l_5 l_0 l_4 l_2, LoopIs Tryz.prog [e_AI g_AI, e_AC g_AC, e_Z g_Z, e_AA g_AA, e_AF g_AF, e_AE g_AE, e_AL g_AL, e_BV g_BV, e_Ae g_Ae] (H_O l_1 l_3 l_5 l_0 l_4 l_2) 1 2000 117 20 QL_O_3 E_O_3 (S_O_3 g_AF) := fun _ _ _ _ _ _ _ _ _ _ _ _ _ _ _ _ d c K => by kernel_rfl
theorem dl_O_5 : ∀ g_AI g_AC g_Z g_AA g_AF g_AE g_AL g_BV g_Ae l_1 l_3 l_5 l_0 l_4 l_2, LoopIs Tryz.prog [e_AI g_AI, e_AC g_AC, e_Z g_Z, e_AA g_AA, e_AF g_AF, e_AE g_AE, e_AL g_AL, e_BV g_BV, e_Ae g_Ae] (H_O l_1 l_3 l_5 l_0 l_4 l_2) 1 2000 117 32 QL_O_5 E_O_5 (S_O_5 g_AF g_Ae) := fun _ _ _ _ _ _ _ _ _ _ _ _ _ _ _ _ d c K => by kernel_rfl
theorem dl_O_0 : ∀ g_AI g_AC g_Z g_AA g_AF g_AE g_AL g_BV g_Ae l_1 l_3 l_5 l_0 l_4 l_2, LoopIs Tryz.prog [e_AI g_AI, e_AC g_AC, e_Z g_Z, e_AA g_AA, e_AF g_AF, e_AE g_AE, e_AL g_AL, e_BV g_BV, e_Ae g_Ae] (H_O l_1 l_3 l_5 l_0 l_4 l_2) 1 2000 117 4 QL_O_0 E_O_0 (S_O_0 g_AC l_1) := fun _ _ _ _ _ _ _ _ _ _ _ _ _ _ _ _ d c K => by kernel_rfl
theorem dl_O_4 : ∀ g_AI g_AC g_Z g_AA g_AF g_AE g_AL g_BV g_Ae l_1 l_3 l_5 l_0 l_4 l_2, LoopIs Tryz.prog [e_AI g_AI, e_AC g_AC, e_Z g_Z, e_AA g_AA, e_AF g_AF, e_AE g_AE, e_AL g_AL, e_BV g_BV, e_Ae g_Ae] (H_O l_1 l_3 l_5 l_0 l_4 l_2) 1 2000 117 27 QL_O_4 E_O_4 (S_O_4 g_AE g_AL g_BV l_5) := fun _ _ _ _ _ _ _ _ _ _ _ _ _ _ _ _ d c K => by kernel_rfl
theorem dl_O_2 : ∀ g_AI g_AC g_Z g_AA g_AF g_AE g_AL g_BV g_Ae l_1 l_3 l_5 l_0 l_4 l_2, LoopIs Tryz.prog [e_AI g_AI, e_AC g_AC, e_Z g_Z, e_AA g_AA, e_AF g_AF, e_AE g_AE, e_AL g_AL, e_BV g_BV, e_Ae g_Ae] (H_O l_1 l_3 l_5 l_0 l_4 l_2) 1 2000 117 16 QL_O_2 E_O_2 (S_O_2 g_AC g_AE l_3 l_4) := fun _ _ _ _ _ _ _ _ _ _ _ _ _ _ _ _ d c K => by kernel_rfl
theorem d_O : ∀ g_AI g_AC g_Z g_AA g_AF g_AE g_AL g_BV g_Ae l_1 l_3 l_5 l_0 l_4 l_2, DenIs Tryz.prog [e_AI g_AI, e_AC g_AC, e_Z g_Z, e_AA g_AA, e_AF g_AF, e_AE g_AE, e_AL g_AL, e_BV g_BV, e_Ae g_Ae] (H_O l_1 l_3 l_5 l_0 l_4 l_2) 2000 117 Q_O R_O fun b => B_O g_AI g_AA l_0 l_2 b.1.1.1 b.1.1.2 b.1.2.1 b.1.2.2 b.2 := fun _ _ _ _ _ _ _ _ _ _ _ _ _ _ _ b => by kernel_rfl
theorem s_O [Amb] : Snd Tryz.prog (e_O f_O) := Snd.of (mkS mixed (.c s_AI (.c s_AC (.c s_Z (.c s_AA (.c s_AF (.c s_AE (.c s_AL (.c s_BV (.c s_Ae (.nil _)))))))))) (by kernel_rfl) (Sums.by (l := [loopIn Tryz.prog 117 4, loopIn Tryz.prog 117 8, loopIn Tryz.prog 117 16, loopIn Tryz.prog 117 20, loopIn Tryz.prog 117 27, loopIn Tryz.prog 117 32]) (lj := []) (by kernel_rfl) ⟨mkL (S := S_O_0 f_AC L_O_1) (by kernel_rfl) (dl_O_0 f_AI f_AC f_Z f_AA f_AF f_AE f_AL f_BV f_Ae L_O_1 L_O_3 L_O_5 L_O_0 L_O_4 L_O_2),
 ⟨mkL (S := S_O_1 f_Z) (by kernel_rfl) (dl_O_1 f_AI f_AC f_Z f_AA f_AF f_AE f_AL f_BV f_Ae L_O_1 L_O_3 L_O_5 L_O_0 L_O_4 L_O_2), ⟨mkL (S := S_O_2 f_AC f_AE L_O_3 L_O_4) (by kernel_rfl) (dl_O_2 f_AI f_AC f_Z f_AA f_AF f_AE f_AL f_BV f_Ae L_O_1 L_O_3 L_O_5 L_O_0 L_O_4 L_O_2), ⟨mkL (S := S_O_3 f_AF) (by kernel_rfl) (dl_O_3 f_AI f_AC f_Z f_AA f_AF f_AE f_AL f_BV f_Ae L_O_1 L_O_3 L_O_5 L_O_0 L_O_4 L_O_2),
 ⟨mkL (S := S_O_4 f_AE f_AL f_BV L_O_5) (by kernel_rfl) (dl_O_4 f_AI f_AC f_Z f_AA f_AF f_AE f_AL f_BV f_Ae L_O_1 L_O_3 L_O_5 L_O_0 L_O_4 L_O_2), ⟨mkL (S := S_O_5 f_AF f_Ae) (by kernel_rfl) (dl_O_5 f_AI f_AC f_Z f_AA f_AF f_AE f_AL f_BV f_Ae L_O_1 L_O_3 L_O_5 L_O_0 L_O_4 L_O_2), trivial⟩⟩⟩⟩⟩⟩ (by kernel_rfl) trivial) (d_O f_AI f_AC f_Z f_AA f_AF f_AE f_AL f_BV f_Ae L_O_1 L_O_3 L_O_5 L_O_0 L_O_4 L_O_2)) (by kernel_rfl)

def Q_Ca := (open Rq in (pl (cl ai nil) nil) : RA _)
def RR_Ca := (open Rq in (res (pl ab (pu nil nil))) : RE _)
abbrev D_Ca := RR_Ca.B
def R_Ca (d : D_Ca) : T := (fun d => .leaf (RR_Ca.em d)) d
abbrev G_Ca := Int → Option D_Ca
def e_Ca (g : G_Ca) : Ct := (178, FC Q_Ca R_Ca (fun b => g b))
def B_Ca (x0 : Int) : Pg D_Ca := cnd (decide (x0 ≥ 0)) (ret (decide (x0 < 24))) (ret false)
def f_Ca (x0 : Int) : Option D_Ca := (B_Ca x0).val
theorem d_Ca : DenIs Tryz.prog [] ⟨[], [], [], [], none⟩ 2000 178 Q_Ca R_Ca fun b => B_Ca b := fun b => by kernel_rfl
theorem s_Ca [Amb] : Snd Tryz.prog (e_Ca f_Ca) := Snd.of (mk0 mixed (.nil _) (by kernel_rfl) d_Ca) (by kernel_rfl)

def Q_Cb := (open Rq in (pr (cu (app 0 1) (cl ai nil)) (cl (cl gb nil) nil)) : RA _)
def RR_Cb := (open Rq in Q2q5 : RE _)
abbrev D_Cb := RR_Cb.B
def R_Cb (d : D_Cb) : T := (fun d => .leaf (RR_Cb.em d)) d
abbrev G_Cb := Int → Bool → Option D_Cb
def e_Cb (g : G_Cb) : Ct := (179, FC Q_Cb R_Cb (fun b => g b.1 b.2))
def B_Cb (g_AC : G_AC) (x0 : Int) (x1 : Bool) : Pg D_Cb := opt (g_AC x0 1 72057594037927936 x1) fun d => ret d
def f_Cb (x0 : Int) (x1 : Bool) : Option D_Cb := (B_Cb f_AC x0 x1).val
theorem d_Cb : ∀ g_AC, DenIs Tryz.prog [e_AC g_AC] ⟨[], [], [], [], none⟩ 2000 179 Q_Cb R_Cb fun b => B_Cb g_AC b.1 b.2 := fun _ b => by kernel_rfl
theorem s_Cb [Amb] : Snd Tryz.prog (e_Cb f_Cb) := Snd.of (mk0 mixed (.c s_AC (.nil _)) (by kernel_rfl) (d_Cb f_AC)) (by kernel_rfl)

def Q_AZ := (open Rq in (dp (cu (app 0 1) (c Q2q12 (c ai (cl (ac (slc 1 1)) nil)))) fun a => (c (cl gb nil) (cl (cl (gs a.2.2.1 (cl kci nil)) nil) nil))) : RA _)
def RR_AZ := (open Rq in Q2q36 : RE _)
abbrev D_AZ := RR_AZ.B
def R_AZ (d : D_AZ) : T := (fun d => .leaf (RR_AZ.em d)) d
abbrev G_AZ := NI → NI → Int → Nat → Bool → NI → Bool → Option D_AZ
def e_AZ (g : G_AZ) : Ct := (115, nilF 3 [.i .i64] (FC Q_AZ R_AZ (fun b => g b.1.1.1 b.1.1.2 b.1.2.1 b.1.2.2.1 b.2.1 b.2.2 b.1.2.2.2)))
def QL_AZ_0 := (open Rq in (st (dp (cu (app 0 1) (us 1 (c ai (us 2 (cu (app 2 300) (us 2 (cu (app 3 300) (cu (app 4 576) (cu (app 5 24) (us 4 (c (ac (slc 1 1)) (c ai (cl ai (us 24 nil)))))))))))))) fun a => (pl (c (so (cl gb nil)) (c (so (cl (gs a.2.1.1 (cl kci nil)) nil)) Q2q44)) (cu (nat 0) nil)))) : RS _)
def Z_AZ_0 := (open Rq in (st (pr (cu (app 0 1) (us 1 (c ai (us 2 (cu (app 2 300) (us 2 (cu (app 3 300) (cu (app 4 576) (cu (app 5 24) (us 4 (c (ac (slc 1 1)) (c ai (c ai (cl ab (us 23 nil))))))))))))))) (pl (c (so (cl gb nil)) (c Q2q4 Q2q44)) (cu (nat 0) nil)))) : RS _)
abbrev X_AZ_0 := ((Int × (Nat × Bool) × Int × Int × Bool) × Bool × NI × (NI × NI) × (NI × NI) × D_Ag × NI)
def E_AZ_0 {ρ : Type} (x : X_AZ_0) (K : AX → St → Option ρ) : Option ρ := (fun d => K (AX.ex 0) (Z_AZ_0.em (d.1, d.2.1, (d.1.2.1.1, d.2.2.1), d.2.2.2))) x
def S_AZ_0 (g_Ca : G_Ca) (g_Cb : G_Cb) (d : QL_AZ_0.B) : Pg (QL_AZ_0.B ⊕ X_AZ_0) := let y0 := wI (d.1.1 + d.1.2.2.2); let y1 := Int.toNat y0; let y2 := inR y0 24; let y3 := decide (d.1.2.2.2 < d.1.2.2.1); let y4 := y1 * 24 + y1; cnd y3 (cnd (inR d.1.2.2.2 d.1.2.1.1) (opt (g_Ca y0) fun d_1 => cnd d_1 (opt (g_Cb (d.2.2.1 (Int.toNat d.1.2.2.2)) d.2.1) fun d_2 => cnd y2 (cnd y2 (cnd (true && Nat.ble (0 + y4 * 1 + 1) 576) (cnd y2 (cnd (true && Nat.ble (0 + y1 * 1 + 1) 24) (ret (Sum.inl ((d.1.1,
 d.1.2.1, d.1.2.2.1, wI (d.1.2.2.2 + 1)), d_2.2, d.2.2.1, d.2.2.2.1, d.2.2.2.2.1, fun j => bif Nat.beq j y4 then 0 else d.2.2.2.2.2.1 j, fun j => bif Nat.beq j y1 then d_2.1 else d.2.2.2.2.2.2 j))) no) no) no) no) no) (ret (Sum.inl ((d.1.1, d.1.2.1, d.1.2.2.1, wI (d.1.2.2.2 + 1)), d.2)))) no) (ret (Sum.inr ((d.1.1, d.1.2.1, d.1.2.2.1, d.1.2.2.2, y3), d.2)))
def L_AZ_0 : QL_AZ_0.B → Option X_AZ_0 := loopP (S_AZ_0 f_Ca f_Cb) 2000
def H_AZ (l_0 : QL_AZ_0.B → Option X_AZ_0) : Hs := ⟨[⟨4, (1 :: 3 :: 4 :: 6 :: 7 :: rg 11 4 (rg 18 24 [])), []⟩], [smQ 4 2 QL_AZ_0 E_AZ_0 l_0], [0], [], (some ⟨0, (rg 0 8 (rg 9 33 [])), []⟩)⟩
def B_AZ (g_Ag : G_Ag) (g_O : G_O) (l_0 : QL_AZ_0.B → Option X_AZ_0) (x0 : Nat → Int) (x1 : Nat → Int) (x2 : Int) (x3 : Nat) (x4 : Bool) (x5 : Nat → Int) (w0 : Bool) : Pg D_AZ := opt g_Ag fun d => cnd (Nat.beq x3 x3) (opt (l_0 ((x2, (x3, w0), Int.ofNat x3, 0), x4, x5, (x0, x1), (fun x => 0, fun x => 0), d, fun x => 0)) fun d => opt (g_O d.2.2.2.1.1 d.2.2.2.1.2 d.2.2.2.2.2.1 d.2.2.2.2.2.2 d.2.1) fun d => ret d) no
def f_AZ (x0 : Nat → Int) (x1 : Nat → Int) (x2 : Int) (x3 : Nat) (x4 : Bool) (x5 : Nat → Int) (w0 : Bool) : Option D_AZ := (B_AZ f_Ag f_O L_AZ_0 x0 x1 x2 x3 x4 x5 w0).val
theorem dl_AZ_0 : ∀ g_Ag g_Ca g_Cb g_O l_0, LoopIs Tryz.prog [e_Ag g_Ag, e_Ca g_Ca, e_Cb g_Cb, e_O g_O] (H_AZ l_0) 2 2000 115 4 QL_AZ_0 E_AZ_0 (S_AZ_0 g_Ca g_Cb) := fun _ _ _ _ _ _ d c K => by kernel_rfl
theorem d_AZ : ∀ g_Ag g_Ca g_Cb g_O l_0, DenIs Tryz.prog [e_Ag g_Ag, e_Ca g_Ca, e_Cb g_Cb, e_O g_O] (H_AZ l_0) 2000 115 Q_AZ R_AZ fun b => B_AZ g_Ag g_O l_0 b.1.1.1 b.1.1.2 b.1.2.1 b.1.2.2.1 b.2.1 b.2.2 b.1.2.2.2 := fun _ _ _ _ _ b => by kernel_rfl
theorem s_AZ [Amb] : Snd Tryz.prog (e_AZ f_AZ) := Snd.of (Sound.nil 3 [.i .i64] <| mkS mixed (.c s_Ag (.c s_Ca (.c s_Cb (.c s_O (.nil _))))) (by kernel_rfl) (Sums.by (l := [loopIn Tryz.prog 115 4]) (lj := []) (by kernel_rfl) ⟨mkL (S := S_AZ_0 f_Ca f_Cb) (by kernel_rfl) (dl_AZ_0 f_Ag f_Ca f_Cb f_O L_AZ_0), trivial⟩ (by kernel_rfl) trivial) (d_AZ f_Ag f_Ca f_Cb f_O L_AZ_0)) (by kernel_rfl)

end Go.Proofs.YtphkdkkbbfnkaaaGreat
