/-
  Contracts by plain functions: (*health.Monitor).Sensor, output.Of, output.put, downs.Good, downs.plus, (*downs.Sampler).Put, (*output.Predictor).Start, (*output.Predictor).Push, (*output.Predictor).Now, (*ring.Buffer).Spoilt, ekf.between, earth.New, ekf.fill, ekf.Default, reset.Velocity, reset.Horizontal, reset.Height, ekf.Good, (*fx.Acc).Dot#al, mag.Declination, (*output.Predictor).Shift$1, (*output.Predictor).Correct$1, (*output.Predictor).each#Co, (*output.Predictor).each#Sh, (*output.Predictor).Shift, cmp.isNaN[int64], cmp.Compare[int64], slices.Compare[[]int64,int64], ring.compare, slices.BinarySearchFunc[[]api.Sample,api.Sample,api.Sample], (*ring.Buffer).Put, (*ring.Buffer).Pop, earth.Declination$2, earth.hundredths, earth.Declination, ekf.is, ekf.readable, (*ekf.Filter).note, (*ekf.Filter).heard, (*ekf.Filter).missed, (*ekf.Filter).told, (*ekf.Filter).fuse, (*ekf.Filter).helped, (*ekf.Filter).vertical, (*ekf.Filter).declination, (*ekf.Filter).head, (*ekf.Filter).jump, (*ekf.Filter).airspeed, (*ekf.Filter).flow, (*ekf.Filter).Sample, (*ekf.Filter).Status, (*ekf.Filter).Out, (*ekf.Filter).Sensor, (*ekf.Filter).satellites
-/
import Derived.Test.YtphkdkkbbfnkaaaGreatZA
import Derived.Test.YtphkdkkbbfnkaaaGreatQ3
set_option maxRecDepth 100000
set_option maxHeartbeats 4000000
set_option linter.unusedVariables false
noncomputable section
namespace Go.Proofs.YtphkdkkbbfnkaaaGreat
open Go.Ab Go.Ab.Pg
def Q4q0 := open Rq in (so (c gi (c gi (cl (gc (slo 7 11)) nil))))
def Q4q4 := open Rq in (xs 3 (us 2 (xs 3 (us 2 (xs 3 (us 1 nil))))))
def Q4q5 := open Rq in (c gi (c gi (c gb (c gi (c gi (cl gi nil))))))
def Q4q6 := open Rq in (c gi (c gi (c gi (c gi (c gi (cl gi nil))))))
def Q4q7 := open Rq in (so (cl (ga (pr (szs hole) (cl kci nil))) nil))
def Q4q8 := open Rq in (cu chk (cu chk (cu chk (cu chk (cu chk nil)))))
def Q4q9 := open Rq in (c (aa (cl (gl 24 (cl kci nil)) nil)) (cl ai nil))
def Q4q11 := open Rq in (a 3 (c gi (c gi (cl gi nil))) (c gi (cl gi nil)))
def Q4q12 := open Rq in (ac (cptr (pu (nat 0) (pu (ok' (nat 9)) (nat 1)))))
def Q4q13 := open Rq in (ac (cptr (pu (nat 0) (pu (ok' (nat 4)) (nat 6)))))
def Q4q14 := open Rq in (ac (cptr (pu (nat 0) (pu (ok' (nat 6)) (nat 1)))))
def Q4q15 := open Rq in (c gi Q4q6)
def Q4q16 := open Rq in (c (gl 276 (cl kci nil)) (cl (gl 24 (cl kci nil)) nil))
def Q4q17 := open Rq in (a 3 (c gi (c gi (cl gi nil))) (c gi (c gi (cl gi nil))))
def Q4q18 := open Rq in (cu chk Q4q8)
def Q4q19 := open Rq in (c gi Q4q15)
def Q4q22 := open Rq in (cu chk Q4q18)
def Q4q23 := open Rq in (c gi Q4q19)
def Q4q24 := open Rq in (c kci (c kci (c kci (c kci (c kci (c kci (c kci (cl kci nil))))))))
def Q4q26 := open Rq in (c gi (c gi Q4q17))
def Q4q27 := open Rq in (aa Q4q23)
def Q4q28 := open Rq in (c gi Q4q23)
def Q4q29 := open Rq in (c (gl 6 (c kci (c kci (c kcb (c kci (c kci (cl kci nil))))))) (cl gi nil))
def Q4q30 := open Rq in (aa Q4q26)
def Q4q31 := open Rq in (c kci Q4q24)
def Q4q32 := open Rq in (c gi Q4q28)
def Q4q33 := open Rq in (cl Q4q27 nil)
def Q4q34 := open Rq in (cl (so Q4q23) nil)
def Q4q36 := open Rq in (a 5 (c gi (c gi (c gi (c gi (cl gi nil))))) (c gi (c (gc (slo 1 9)) (cl gi nil))))
def Q4q37 := open Rq in (c kci Q4q31)
def Q4q38 := open Rq in (a 5 (c gi (c gi (c gi (c gi (cl gi nil))))) (c gi (c (gc (slo 14 9)) (cl gi nil))))
def Q4q39 := open Rq in (a 5 (c gi (c gi (c gi (c gi (cl gi nil))))) (c gi (c (gc (slo 15 9)) (cl gi nil))))
def Q4q40 := open Rq in (a 5 (c gi (c gi (c gi (c gi (cl gi nil))))) (c gi (c (gc (slo 16 9)) (cl gi nil))))
def Q4q41 := open Rq in (a 5 (c gi (c gi (c gi (c gi (cl gi nil))))) (c gi (c (gc (slo 17 9)) (cl gi nil))))
def Q4q42 := open Rq in (a 5 (c gi (c gi (c gi (c gi (cl gi nil))))) (c gi (c (gc (slo 18 9)) (cl gi nil))))
def Q4q43 := open Rq in (cu chk (cu chk Q4q22))
def Q4q44 := open Rq in (a 5 (c gi (c gi (c gi (c gi (cl gi nil))))) (c gi (c (gc (slo 13 9)) (cl gi nil))))
def Q4q46 := open Rq in (cl Q4q30 nil)
def Q4q47 := open Rq in (aa Q4q32)
def Q4q48 := open Rq in (cu (gp 4 8) (cu (gp 5 8) (cu (gp 6 8) (cu (gp 7 8) (cu (gp 8 8) (cu (gp 9 8) nil))))))
def Q4q49 := open Rq in (so Q4q36)
def Q4q50 := open Rq in (c ai Q4q33)
def Q4q51 := open Rq in (chs Q4q44)
def Q4q52 := open Rq in (chs Q4q38)
def Q4q53 := open Rq in (chs Q4q39)
def Q4q54 := open Rq in (chs Q4q40)
def Q4q55 := open Rq in (chs Q4q41)
def Q4q56 := open Rq in (chs Q4q42)
def Q4q57 := open Rq in (chs (a 5 (c gi (c gi (c gi (c gi (cl gi nil))))) (c gi (c (gc (slo 20 9)) (cl gi nil)))))
def Q4q58 := open Rq in (c kci Q4q37)
def Q4q59 := open Rq in (cu chk Q4q43)
def Q4q60 := open Rq in (a 4 (c gi (c gi (c gi (cl gi nil)))) Q4q17)
def Q4q61 := open Rq in (c gi (a 8 Q4q26 (cl gb nil)))
def Q4q63 := open Rq in (cu (gc (cf (fi .i64 (int 0)))) (cu (gc (cf (fi .i64 (int 0)))) (cu (gc (cf (fi .i64 (int 0)))) nil)))
def Q4q64 := open Rq in (cl (ga (pr (szs hole) Q4q31)) nil)
def Q4q65 := open Rq in (aa (c gi Q4q60))
def Q4q66 := open Rq in (c (gl 24 (cl kci nil)) (c (gl 24 (cl kci nil)) Q4q19))
def Q4q67 := open Rq in (so Q4q64)
def Q4q68 := open Rq in (atup (c (ra Q4q32) (cl (rc cb) nil)))
def Q4q70 := open Rq in (cl Q4q64 nil)
def Q4q71 := open Rq in (cl (ga (pr (szs hole) Q4q58)) nil)
def Q4q73 := open Rq in (afn (pu (nat 137) (cu (rc (cp 2 1)) (cu (rc (cp 3 3)) (cu (rc (cp 4 1)) (cu (rc (cp 5 3)) (cu (rc (cp 6 4)) nil)))))))
def Q4q74 := open Rq in (so Q4q71)
def Q4q75 := open Rq in (cl Q4q74 nil)
def Q4q76 := open Rq in (cu chk (cl (chs Q4q71) nil))
def Q4q78 := open Rq in (cu chk Q4q76)
def Q4q80 := open Rq in (cu chk (cu chk (cu chk (cu chk (cu chk (cu chk (cu chk (cu chk (cu chk Q4q59)))))))))
def Q4q81 := open Rq in (cu chk Q4q80)
def Q4q82 := open Rq in (xs 3 (us 2 (xs 3 (us 2 (xs 3 (us 2 (xs 3 (us 2 (xs 3 (us 2 (xs 3 (us 2 (xs 3 (us 2 (xs 3 (us 2 (xs 3 (us 2 (xs 3 (us 2 Q4q4))))))))))))))))))))
def Q4q83 := open Rq in (c gi (c gi (c gi (c gi (a 6 Q4q6 (a 6 Q4q6 Q4q66))))))
def Q4q88 := open Rq in (cu (gc (cf (fi .i64 (int 8000)))) (cu (gc (cf (fi .i64 (int 40000)))) (cu (gc (cf (fi .i64 (int 16)))) (cu (gc (cf (fi .i64 (int 5)))) (c gi (c gi (c gi (c gi (c gi (c gi (c gi (c gi (c gi (c gi (c gi (c gi (c (gl 24 (cl kci nil)) (cl (gl 24 (cl kci nil)) (cu (gc (cf (fi .i64 (int 5000000)))) (cu (gc (cf (fi .i64 (int 68719476736)))) (cu (gc (cf (fi .i64 (int 1)))) (cu (gc (cf (fi .i64 (int 268435456)))) (cu (gc (cf (fi .i64 (int 32)))) Q4q63)))))))))))))))))))))))
def Q4q89 := open Rq in (a 26 Q4q83 (c gb (c (gl 24 (cl kci nil)) (a 2 Q4q16 (cu (gp 1 5) (cu (gp 2 10) (c (gc (slo 3 8)) (au 6 Q4q48 (cu (gp 10 37) (a 4 (c gi (c gi (c gb (cl gb nil)))) (cu (gp 11 3) (c gb (c gi (a 3 (c gi (c gi (cl gi nil))) (c gb (c gb (c gb (c gi (c gi (c gi (a 10 Q4q60 (cl (gc (slo 12 10)) nil))))))))))))))))))))))
def Q_DT := (open Rq in (pr (cu (app 0 37) (cl ai nil)) (cl Q4q29 nil)) : RA _)
def RR_DT := (open Rq in (res (pu (app 1 6) (pu (cu chk nil) (cl Q4q5 nil)))) : RE _)
abbrev D_DT := RR_DT.B
def R_DT (d : D_DT) : T := (fun d => .leaf (RR_DT.em d)) d
abbrev G_DT := Int → NI → NI → (Nat → Bool) → NI → NI → NI → Int → Option D_DT
def e_DT (g : G_DT) : Ct := (40, FC Q_DT R_DT (fun b => g b.1 b.2.1.1 b.2.1.2.1 b.2.1.2.2.1 b.2.1.2.2.2.1 b.2.1.c4.1 b.2.1.c4.2 b.2.2))
def B_DT (g_CQ : G_CQ) (x0 : Int) (x1 : Nat → Int) (x2 : Nat → Int) (x3 : Nat → Bool) (x4 : Nat → Int) (x5 : Nat → Int) (x6 : Nat → Int) (x7 : Int) : Pg D_DT := opt (g_CQ x0) fun d => cnd (!d) (ret (0, 0, false, 0, 0, 0)) (cnd (inR x0 6) (cnd (Nat.ble (0 + Int.toNat x0 * 6 + 6) 36) (ret ((x1, x2, x3, x4, x5, x6).1 (Int.toNat x0), (x2, x3, x4, x5, x6).1 (Int.toNat x0), (x3, x4, x5, x6).1 (Int.toNat x0), (x4, x5, x6).1 (Int.toNat x0), x5 (Int.toNat x0), x6 (Int.toNat x0))) no) no)
def f_DT (x0 : Int) (x1 : Nat → Int) (x2 : Nat → Int) (x3 : Nat → Bool) (x4 : Nat → Int) (x5 : Nat → Int) (x6 : Nat → Int) (x7 : Int) : Option D_DT := (B_DT f_CQ x0 x1 x2 x3 x4 x5 x6 x7).val
theorem d_DT : ∀ g_CQ, DenIs Tryz.prog [e_CQ g_CQ] ⟨[], [], [], [], none⟩ 2000 40 Q_DT R_DT fun b => B_DT g_CQ b.1 b.2.1.1 b.2.1.2.1 b.2.1.2.2.1 b.2.1.2.2.2.1 b.2.1.c4.1 b.2.1.c4.2 b.2.2 := fun _ b => by kernel_rfl
theorem s_DT [Amb] : Snd Tryz.prog (e_DT f_DT) := Snd.of (mk0 mixed (.c s_CQ (.nil _)) (by kernel_rfl) (d_DT f_CQ)) (by kernel_rfl)

def Q_Am := (open Rq in (pr (cu (app 0 1) Q4q9) (cl (cl gb nil) nil)) : RA _)
def RR_Am := (open Rq in (res (pr Q4q47 (pl (cl (chs (cl gb nil)) nil) nil))) : RE _)
abbrev D_Am := RR_Am.B
def R_Am (d : D_Am) : T := (fun d => .leaf (RR_Am.em d)) d
abbrev G_Am := NI → Int → Bool → Option D_Am
def e_Am (g : G_Am) : Ct := (63, FC Q_Am R_Am (fun b => g b.1.1 b.1.2 b.2))
def B_Am (g_BL : G_BL) (g_BK : G_BK) (g_Ac : G_Ac) (x0 : Nat → Int) (x1 : Int) (x2 : Bool) : Pg D_Am := opt (g_BL x0 x2) fun d => opt (g_BK d.1) fun d_1 => opt (g_Ac d.1 4) fun d_2 => opt (g_Ac d.1 7) fun d_3 => ret ((x1, d_1.1, d_1.2.1, d_1.2.2.1, d_1.2.2.2, d_2.1, d_2.2.1, d_2.2.2, d_3), d.2)
def f_Am (x0 : Nat → Int) (x1 : Int) (x2 : Bool) : Option D_Am := (B_Am f_BL f_BK f_Ac x0 x1 x2).val
theorem d_Am : ∀ g_BL g_BK g_Ac, DenIs Tryz.prog [e_BL g_BL, e_BK g_BK, e_Ac g_Ac] ⟨[], [], [], [], none⟩ 2000 63 Q_Am R_Am fun b => B_Am g_BL g_BK g_Ac b.1.1 b.1.2 b.2 := fun _ _ _ b => by kernel_rfl
theorem s_Am [Amb] : Snd Tryz.prog (e_Am f_Am) := Snd.of (mk0 mixed (.c s_BL (.c s_BK (.c s_Ac (.nil _)))) (by kernel_rfl) (d_Am f_BL f_BK f_Ac)) (by kernel_rfl)

def Q_Bt := (open Rq in (pl (c (aa (cl (gl 24 (cl kci nil)) nil)) (cl Q4q65 nil)) nil) : RA _)
def RR_Bt := (open Rq in (res (pl (aa (cl (gl 24 (cl kci nil)) nil)) (pu nil nil))) : RE _)
abbrev D_Bt := RR_Bt.B
def R_Bt (d : D_Bt) : T := (fun d => .leaf (RR_Bt.em d)) d
abbrev G_Bt := NI → Int → Int → Int → Int → Int → Int → Int → Int → Int → Int → Int → Option D_Bt
def e_Bt (g : G_Bt) : Ct := (65, FC Q_Bt R_Bt (fun b => g b.1 b.2.1 b.2.2.1.1 b.2.2.1.2.1 b.2.2.1.2.2.1 b.2.2.1.2.2.2 b.2.2.2.1.1 b.2.2.2.1.2.1 b.2.2.2.1.2.2 b.c4.1 b.c4.2.1 b.c4.2.2))
def B_Bt (g_AT : G_AT) (x0 : Nat → Int) (x1 : Int) (x2 : Int) (x3 : Int) (x4 : Int) (x5 : Int) (x6 : Int) (x7 : Int) (x8 : Int) (x9 : Int) (x10 : Int) (x11 : Int) : Pg D_Bt := opt (g_AT x0 0 4 (fun j => bif Nat.beq j 3 then x5 else bif Nat.beq j 2 then x4 else bif Nat.beq j 1 then x3 else bif Nat.beq j 0 then x2 else x2) false) fun d => opt (g_AT d 4 3 (fun j => bif Nat.beq j 2 then x8 else bif Nat.beq j 1 then x7 else bif Nat.beq j 0 then x6 else x6) false) fun d => opt (g_AT d 7 3 (fun j => bif Nat.beq j 2 then x11 else bif Nat.beq j 1 then x10 else bif Nat.beq j 0 then x9 else x9) false) fun d => ret d
def f_Bt (x0 : Nat → Int) (x1 : Int) (x2 : Int) (x3 : Int) (x4 : Int) (x5 : Int) (x6 : Int) (x7 : Int) (x8 : Int) (x9 : Int) (x10 : Int) (x11 : Int) : Option D_Bt := (B_Bt f_AT x0 x1 x2 x3 x4 x5 x6 x7 x8 x9 x10 x11).val
theorem d_Bt : ∀ g_AT, DenIs Tryz.prog [e_AT g_AT] ⟨[], [], [], [], none⟩ 2000 65 Q_Bt R_Bt fun b => B_Bt g_AT b.1 b.2.1 b.2.2.1.1 b.2.2.1.2.1 b.2.2.1.2.2.1 b.2.2.1.2.2.2 b.2.2.2.1.1 b.2.2.2.1.2.1 b.2.2.2.1.2.2 b.c4.1 b.c4.2.1 b.c4.2.2 := fun _ b => by kernel_rfl
theorem s_Bt [Amb] : Snd Tryz.prog (e_Bt f_Bt) := Snd.of (mk0 mixed (.c s_AT (.nil _)) (by kernel_rfl) (d_Bt f_AT)) (by kernel_rfl)

def Q_BR := (open Rq in (pl Q4q46 nil) : RA _)
def RR_BR := (open Rq in (res (pl ab (pu nil nil))) : RE _)
abbrev D_BR := RR_BR.B
def R_BR (d : D_BR) : T := (fun d => .leaf (RR_BR.em d)) d
abbrev G_BR := Int → Int → Int → Int → Int → Int → Int → Int → Option D_BR
def e_BR (g : G_BR) : Ct := (61, FC Q_BR R_BR (fun b => g b.1 b.2.1 b.2.2.1.1 b.2.2.1.2.1 b.2.2.1.2.2 b.2.2.2.1 b.c4.1 b.c4.2))
def QL_BR_0 := (open Rq in (st (pr (us 1 (cu (app 0 8) (us 2 (cl ai (us 21 Q4q4))))) (pl (cl (so Q4q19) nil) nil))) : RS _)
def Z_downs_Good_0_0 := (open Rq in (st (pu (us 2 (cu (ac (cf (fb (bool false)))) (us 37 nil))) (pu nil nil))) : RS _)
def Z_downs_Good_0_1 := (open Rq in (st (pr (us 1 (cu (app 0 8) (us 2 (c ai (cl ab (us 20 Q4q4)))))) (pl (cl (so Q4q19) nil) nil))) : RS _)
abbrev X_BR_0 := Z_downs_Good_0_0.B ⊕ Z_downs_Good_0_1.B
def E_BR_0 {ρ : Type} (x : X_BR_0) (K : AX → St → Option ρ) : Option ρ := (Sum.elim (fun d => K AX.ret (Z_downs_Good_0_0.em d)) (fun d => K (AX.ex 0) (Z_downs_Good_0_1.em d))) x
def S_BR_0 (g_Ap : G_Ap) (d : QL_BR_0.B) : Pg (QL_BR_0.B ⊕ X_BR_0) := let y0 := inR d.1 3; let y1 := d.1 == 1; let y2 := d.1 == 2; let y3 := decide (d.1 < 3); cnd y3 (cnd y0 (cnd y2 (opt (g_Ap d.c4.2.1) fun d_1 => cnd (decide (d_1 > 34359738368)) (ret (Sum.inr (Sum.inl ()))) (cnd y0 (cnd y2 (opt (g_Ap d.c8) fun d_2 => cnd (decide (d_2 > 34359738368)) (ret (Sum.inr (Sum.inl ()))) (ret (Sum.inl (wI (d.1 + 1),
 d.2)))) (cnd y1 (opt (g_Ap d.c4.2.2.2.1) fun d_2 => cnd (decide (d_2 > 34359738368)) (ret (Sum.inr (Sum.inl ()))) (ret (Sum.inl (wI (d.1 + 1), d.2)))) (opt (g_Ap d.c4.2.2.1) fun d_2 => cnd (decide (d_2 > 34359738368)) (ret (Sum.inr (Sum.inl ()))) (ret (Sum.inl (wI (d.1 + 1), d.2)))))) no)) (cnd y1 (opt (g_Ap d.c4.1) fun d_1 => cnd (decide (d_1 > 34359738368)) (ret (Sum.inr (Sum.inl ()))) (cnd y0 (cnd y2 (opt (g_Ap d.c8) fun d_2 => cnd (decide (d_2 > 34359738368)) (ret (Sum.inr (Sum.inl ()))) (ret (Sum.inl (wI (d.1 + 1),
 d.2)))) (cnd y1 (opt (g_Ap d.c4.2.2.2.1) fun d_2 => cnd (decide (d_2 > 34359738368)) (ret (Sum.inr (Sum.inl ()))) (ret (Sum.inl (wI (d.1 + 1), d.2)))) (opt (g_Ap d.c4.2.2.1) fun d_2 => cnd (decide (d_2 > 34359738368)) (ret (Sum.inr (Sum.inl ()))) (ret (Sum.inl (wI (d.1 + 1), d.2)))))) no)) (opt (g_Ap d.2.2.2.1) fun d_1 => cnd (decide (d_1 > 34359738368)) (ret (Sum.inr (Sum.inl ()))) (cnd y0 (cnd y2 (opt (g_Ap d.c8) fun d_2 => cnd (decide (d_2 > 34359738368)) (ret (Sum.inr (Sum.inl ()))) (ret (Sum.inl (wI (d.1 + 1),
 d.2)))) (cnd y1 (opt (g_Ap d.c4.2.2.2.1) fun d_2 => cnd (decide (d_2 > 34359738368)) (ret (Sum.inr (Sum.inl ()))) (ret (Sum.inl (wI (d.1 + 1), d.2)))) (opt (g_Ap d.c4.2.2.1) fun d_2 => cnd (decide (d_2 > 34359738368)) (ret (Sum.inr (Sum.inl ()))) (ret (Sum.inl (wI (d.1 + 1), d.2)))))) no)))) no) (ret (Sum.inr (Sum.inr ((d.1, y3), d.2))))
def L_BR_0 : QL_BR_0.B → Option X_BR_0 := loopP (S_BR_0 f_Ap) 2000
def H_BR (l_0 : QL_BR_0.B → Option X_BR_0) : Hs := ⟨[⟨2, [0, 2, 5, 6, 7, 9, 10, 11, 12, 20, 21, 22, 23, 24, 25, 29, 30, 34, 35, 39, 3, 8, 13, 14, 15, 16, 17, 18, 19], []⟩], [smQ 2 0 QL_BR_0 E_BR_0 l_0], [], [], (some ⟨0, (0 :: 1 :: rg 3 37 []), []⟩)⟩
def B_BR (l_0 : QL_BR_0.B → Option X_BR_0) (x0 : Int) (x1 : Int) (x2 : Int) (x3 : Int) (x4 : Int) (x5 : Int) (x6 : Int) (x7 : Int) : Pg D_BR := opt (l_0 (0, x0, x1, x2, x3, x4, x5, x6, x7)) fun x => sum x (fun d => ret false) fun d => cnd (decide (d.2.2.1 ≥ 1)) (cnd (decide (d.2.2.1 ≤ 100000)) (cnd (decide (d.2.1 ≥ 0)) (ret (decide (d.2.1 ≤ 1125899906842624))) (ret false)) (ret false)) (ret false)
def f_BR (x0 : Int) (x1 : Int) (x2 : Int) (x3 : Int) (x4 : Int) (x5 : Int) (x6 : Int) (x7 : Int) : Option D_BR := (B_BR L_BR_0 x0 x1 x2 x3 x4 x5 x6 x7).val
theorem dl_BR_0 : ∀ g_Ap l_0, LoopIs Tryz.prog [e_Ap g_Ap] (H_BR l_0) 0 2000 61 2 QL_BR_0 E_BR_0 (S_BR_0 g_Ap) := fun _ _ _ d c K => by kernel_rfl
theorem d_BR : ∀ g_Ap l_0, DenIs Tryz.prog [e_Ap g_Ap] (H_BR l_0) 2000 61 Q_BR R_BR fun b => B_BR l_0 b.1 b.2.1 b.2.2.1.1 b.2.2.1.2.1 b.2.2.1.2.2 b.2.2.2.1 b.c4.1 b.c4.2 := fun _ _ b => by kernel_rfl
theorem s_BR [Amb] : Snd Tryz.prog (e_BR f_BR) := Snd.of (mkS mixed (.c s_Ap (.nil _)) (by kernel_rfl) (Sums.by (l := [loopIn Tryz.prog 61 2]) (lj := []) (by kernel_rfl) ⟨mkL (S := S_BR_0 f_Ap) (by kernel_rfl) (dl_BR_0 f_Ap L_BR_0), trivial⟩ (by kernel_rfl) trivial) (d_BR f_Ap L_BR_0)) (by kernel_rfl)

def Q_Ck := (open Rq in (pr (cu (app 0 1) (c Q4q30 Q4q46)) (cl (cl gb nil) nil)) : RA _)
def RR_Ck := (open Rq in (res (pr (aa Q4q19) (pl (cl (chs (cl gb nil)) nil) nil))) : RE _)
abbrev D_Ck := RR_Ck.B
def R_Ck (d : D_Ck) : T := (fun d => .leaf (RR_Ck.em d)) d
abbrev G_Ck := Q_Ck.B → Option D_Ck
def e_Ck (g : G_Ck) : Ct := (62, FC Q_Ck R_Ck g)
def B_Ck (g_AK : G_AK) (x : Q_Ck.B) : Pg D_Ck := opt (g_AK 2 x.2 (fun j => bif Nat.beq j 1 then x.1.2.2.2.1.1 else bif Nat.beq j 0 then x.1.1.2.2.1.1 else x.1.1.2.2.1.1) (fun j => bif Nat.beq j 1 then x.1.2.2.2.1.2.1 else bif Nat.beq j 0 then x.1.1.2.2.1.2.1 else x.1.1.2.2.1.2.1) (fun j => bif Nat.beq j 1 then x.1.2.2.2.1.2.2 else bif Nat.beq j 0 then x.1.1.2.2.1.2.2 else x.1.1.2.2.1.2.2) true) fun d => opt (g_AK 2 d.2 (fun j => bif Nat.beq j 1 then x.1.c4.1 else bif Nat.beq j 0 then x.1.1.2.2.2.1 else x.1.1.2.2.2.1) (fun j => bif Nat.beq j 1 then x.1.c4.2.1 else bif Nat.beq j 0 then x.1.1.c4.1 else x.1.1.c4.1) (fun j => bif Nat.beq j 1 then x.1.c4.2.2 else bif Nat.beq j 0 then x.1.1.c4.2 else x.1.1.c4.2) true) fun d_1 => ret ((x.1.2.1,
 wI (x.1.1.2.1 + x.1.2.2.1), d.1.1, d.1.2.1, d.1.2.2, d_1.1), d_1.2)
def f_Ck (x : Q_Ck.B) : Option D_Ck := (B_Ck f_AK x).val
theorem d_Ck : ∀ g_AK, DenIs Tryz.prog [e_AK g_AK] ⟨[], [], [], [], none⟩ 2000 62 Q_Ck R_Ck fun b => B_Ck g_AK b := fun _ b => by kernel_rfl
theorem s_Ck [Amb] : Snd Tryz.prog (e_Ck f_Ck) := Snd.of (mk0 mixed (.c s_AK (.nil _)) (by kernel_rfl) (d_Ck f_AK)) (by kernel_rfl)

def Q_CD := (open Rq in (pr (cu (app 0 10) (cu (app 1 1) Q4q46)) (c Q4q61 (cl (cl gb nil) nil))) : RA _)
def RR_CD := (open Rq in (res (pr (atup (c (ra Q4q19) (c (rc cb) (cl (rc ci) nil)))) (pl (c (chs Q4q61) (cl (chs (cl gb nil)) nil)) nil))) : RE _)
abbrev D_CD := RR_CD.B
def R_CD (d : D_CD) : T := (fun d => .leaf (RR_CD.em d)) d
abbrev G_CD := Q_CD.B → Option D_CD
def e_CD (g : G_CD) : Ct := (30, FC Q_CD R_CD g)
def B_CD (g_BR : G_BR) (g_Ck : G_Ck) (x : Q_CD.B) : Pg D_CD := opt (g_BR x.1.1 x.1.2.1 x.1.2.2.1.1 x.1.2.2.1.2.1 x.1.2.2.1.2.2 x.1.2.2.2.1 x.1.c4.1 x.1.c4.2) fun d => cnd (!d) (ret (((0, 0, 0, 0, 0, 0, 0, 0), false, 1), x.2)) (cnd x.2.1.2.2 (cnd (decide (x.1.1 ≤ x.2.1.2.1.1)) (ret (((0, 0, 0, 0, 0, 0, 0, 0), false, 1), x.2)) (opt (g_Ck ((x.2.1.2.1, x.1), x.2.2)) fun d => cnd (decide (d.1.2.1 < x.2.1.1)) (ret (((0,
 0, 0, 0, 0, 0, 0, 0), false, 0), (x.2.1.1, (d.1.1, d.1.2.1, (d.1.2.2.1, d.1.2.2.2.1, d.1.c4.1), d.1.c4.2), true), d.2)) (ret ((d.1, true, 0), (x.2.1.1, (x.1.1, 0, (0, 0, 0), 0, 0, 0), true), d.2)))) (opt (g_Ck ((x.2.1.2.1, x.1), x.2.2)) fun d => cnd (decide (d.1.2.1 < x.2.1.1)) (ret (((0, 0, 0, 0, 0, 0, 0, 0), false, 0), (x.2.1.1, (d.1.1, d.1.2.1, (d.1.2.2.1, d.1.2.2.2.1, d.1.c4.1), d.1.c4.2), true),
 d.2)) (ret ((d.1, true, 0), (x.2.1.1, (x.1.1, 0, (0, 0, 0), 0, 0, 0), true), d.2))))
def f_CD (x : Q_CD.B) : Option D_CD := (B_CD f_BR f_Ck x).val
theorem d_CD : ∀ g_BR g_Ck, DenIs Tryz.prog [e_BR g_BR, e_Ck g_Ck] ⟨[], [], [0, 1], [], none⟩ 2000 30 Q_CD R_CD fun b => B_CD g_BR g_Ck b := fun _ _ b => by kernel_rfl
theorem s_CD [Amb] : Snd Tryz.prog (e_CD f_CD) := Snd.of (mk0 mixed (.c s_BR (.c s_Ck (.nil _))) (by kernel_rfl) (d_CD f_BR f_Ck)) (by kernel_rfl)

def Q_Cc := (open Rq in (pr (cu (app 0 3) (cu (app 1 1) Q4q9)) (cd (c gi (c gi (cl (gc (slo 2 11)) nil))) fun b0 => (c (cl gb nil) (cl (cl (gs b0.2.2 Q4q58) nil) nil)))) : RA _)
def RR_Cc := (open Rq in (res (pu (atup nil) (pr (c (chs (c gi (cl gi (cu (gc (csl (pu (nat 3) (pu (ok' (nat 0)) (pu (szl (nat 1)) (pu (nat 11) (bool true))))))) nil)))) (cl (chs (cl gb nil)) (cu chk nil))) (cl Q4q32 nil)))) : RE _)
abbrev D_Cc := RR_Cc.B
def R_Cc (d : D_Cc) : T := (fun d => .leaf (RR_Cc.em d)) d
abbrev G_Cc := Q_Cc.B → Option D_Cc
def e_Cc (g : G_Cc) : Ct := (116, FC Q_Cc R_Cc g)
def B_Cc (g_Am : G_Am) (x : Q_Cc.B) : Pg D_Cc := opt (g_Am x.1.1 x.1.2 x.2.2.1) fun d => ret (((x.2.1.1, x.2.1.2.1), d.2), d.1)
def f_Cc (x : Q_Cc.B) : Option D_Cc := (B_Cc f_Am x).val
theorem d_Cc : ∀ g_Am, DenIs Tryz.prog [e_Am g_Am] ⟨[], [], [], [], none⟩ 2000 116 Q_Cc R_Cc fun b => B_Cc g_Am b := fun _ b => by kernel_rfl
theorem s_Cc [Amb] : Snd Tryz.prog (e_Cc f_Cc) := Snd.of (mk0 mixed (.c s_Am (.nil _)) (by kernel_rfl) (d_Cc f_Am)) (by kernel_rfl)

def Q_BO := (open Rq in (pr (cu (app 0 3) (cu (app 1 1) (c (aa (cl (gl 24 (cl kci nil)) nil)) Q4q46))) (cd (c gi (c gi (cl (gc (slo 2 11)) nil))) fun b0 => (c (cl gb nil) (cl (cl (gs b0.2.2 Q4q58) nil) nil)))) : RA _)
def RR_BO_0 := (open Rq in (res (pr ai (pl (c (chs (c gi (c gi (cl (gc (slo 2 11)) nil)))) (cl (chs (cl gb nil)) (cu chk nil))) nil))) : RE _)
def RR_BO_1 := (open Rq in (res (pu (ac (cf (fi .i64 (int 0)))) (pr (c (chs (c gi (c gi (cl (gc (slo 3 11)) nil)))) (cl (chs (cl gb nil)) (cu chx nil))) (cl Q4q71 nil)))) : RE _)
abbrev D_BO := RR_BO_0.B ⊕ RR_BO_1.B
def R_BO (d : D_BO) : T := (fun x => T.sum x (fun d => .leaf (RR_BO_0.em d)) (fun d => .leaf (RR_BO_1.em d))) d
abbrev G_BO := Q_BO.B → Option D_BO
def e_BO (g : G_BO) : Ct := (31, FC Q_BO R_BO g)
def B_BO (g_Bt : G_Bt) (g_DE : G_DE) (g_Am : G_Am) (x : Q_BO.B) : Pg D_BO := let y0 := Int.ofNat x.2.1.2.2; let y1 := x.2.1.2.2 + 1; let y2 := wI (y0 - 1); let y3 := Int.toNat y2; let y4 := y1 - 1; let y5 := 0 + y4; cnd (y0 == 0) (ret (Sum.inl (4, x.2.1, x.2.2.1))) (cnd (inR y2 x.2.1.2.2) (cnd (decide (x.1.2.2.1 < 1)) (ret (Sum.inl (1, x.2.1, x.2.2.1))) (cnd (decide (x.1.2.1 ≤ x.2.2.2.1 y3)) (ret (Sum.inl (1,
 x.2.1, x.2.2.1))) (opt (g_Bt x.1.1 (x.2.2.2.1 y3) (x.c4.1 y3) (x.c4.2.1 y3) (x.c4.2.2.1 y3) (x.c4.2.2.2.1 y3) (x.c8.1 y3) (x.c8.2.1 y3) (x.c8.2.2.1 y3) (x.c8.2.2.2.1 y3) (x.c8.c4.1 y3) (x.c8.c4.2 y3)) fun d => opt (g_DE d x.1.2.1 x.1.2.2.1 x.1.2.2.2.1.1 x.1.2.2.2.1.2.1 x.1.2.2.2.1.2.2 x.1.c4.1 x.1.c4.2.1 x.1.c4.2.2 x.2.2.1) fun d => opt (g_Am d.1 x.1.2.1 d.2) fun d => cnd (Nat.ble (y1 * 88) 140737488355328) (cnd (decide (Int.ofNat y1 > x.2.1.1)) (cnd (inRe 1 y1) (cnd (Nat.ble (y5 * 88) 140737488355328) (ret (Sum.inr (((x.2.1.1,
 x.2.1.2.1, y5), d.2), y4, fun j => let y0 := 1 + j; bif Nat.beq y0 x.2.1.2.2 then d.1.1 else x.2.2.2.1 y0, fun j => let y0 := 1 + j; bif Nat.beq y0 x.2.1.2.2 then d.1.2.1 else x.c4.1 y0, fun j => let y0 := 1 + j; bif Nat.beq y0 x.2.1.2.2 then d.1.2.2.1 else x.c4.2.1 y0, fun j => let y0 := 1 + j; bif Nat.beq y0 x.2.1.2.2 then d.1.2.2.2.1 else x.c4.2.2.1 y0, fun j => let y0 := 1 + j; bif Nat.beq y0 x.2.1.2.2 then d.1.c4.1 else x.c4.2.2.2.1 y0,
 fun j => let y0 := 1 + j; bif Nat.beq y0 x.2.1.2.2 then d.1.c4.2.1 else x.c8.1 y0, fun j => let y0 := 1 + j; bif Nat.beq y0 x.2.1.2.2 then d.1.c4.2.2.1 else x.c8.2.1 y0, fun j => let y0 := 1 + j; bif Nat.beq y0 x.2.1.2.2 then d.1.c4.2.2.2.1 else x.c8.2.2.1 y0, fun j => let y0 := 1 + j; bif Nat.beq y0 x.2.1.2.2 then d.1.c8.1 else x.c8.2.2.2.1 y0, fun j => let y0 := 1 + j; bif Nat.beq y0 x.2.1.2.2 then d.1.c8.2.1 else x.c8.c4.1 y0,
 fun j => let y0 := 1 + j; bif Nat.beq y0 x.2.1.2.2 then d.1.c8.2.2 else x.c8.c4.2 y0))) no) no) (ret (Sum.inr (((x.2.1.1, x.2.1.2.1, y1), d.2), y1, fun j => bif Nat.beq j x.2.1.2.2 then d.1.1 else x.2.2.2.1 j, fun j => bif Nat.beq j x.2.1.2.2 then d.1.2.1 else x.c4.1 j, fun j => bif Nat.beq j x.2.1.2.2 then d.1.2.2.1 else x.c4.2.1 j, fun j => bif Nat.beq j x.2.1.2.2 then d.1.2.2.2.1 else x.c4.2.2.1 j,
 fun j => bif Nat.beq j x.2.1.2.2 then d.1.c4.1 else x.c4.2.2.2.1 j, fun j => bif Nat.beq j x.2.1.2.2 then d.1.c4.2.1 else x.c8.1 j, fun j => bif Nat.beq j x.2.1.2.2 then d.1.c4.2.2.1 else x.c8.2.1 j, fun j => bif Nat.beq j x.2.1.2.2 then d.1.c4.2.2.2.1 else x.c8.2.2.1 j, fun j => bif Nat.beq j x.2.1.2.2 then d.1.c8.1 else x.c8.2.2.2.1 j, fun j => bif Nat.beq j x.2.1.2.2 then d.1.c8.2.1 else x.c8.c4.1 j,
 fun j => bif Nat.beq j x.2.1.2.2 then d.1.c8.2.2 else x.c8.c4.2 j)))) no))) no)
def f_BO (x : Q_BO.B) : Option D_BO := (B_BO f_Bt f_DE f_Am x).val
theorem d_BO : ∀ g_Bt g_DE g_Am, DenIs Tryz.prog [e_Bt g_Bt, e_DE g_DE, e_Am g_Am] ⟨[], [], [0, 1], [], none⟩ 2000 31 Q_BO R_BO fun b => B_BO g_Bt g_DE g_Am b := fun _ _ _ b => by kernel_rfl
theorem s_BO [Amb] : Snd Tryz.prog (e_BO f_BO) := Snd.of (mk0 mixed (.c s_Bt (.c s_DE (.c s_Am (.nil _)))) (by kernel_rfl) (d_BO f_Bt f_DE f_Am)) (by kernel_rfl)

def Q_DU := (open Rq in (pu (cu (app 0 3) nil) (cd (c gi (c gi (cl (gc (slo 1 11)) nil))) fun b0 => (cl (cl (gs b0.2.2 Q4q58) nil) nil))) : RA _)
def RR_DU := (open Rq in (res (pl Q4q68 (pu (cu chk (cu chk nil)) nil))) : RE _)
abbrev D_DU := RR_DU.B
def R_DU (d : D_DU) : T := (fun d => .leaf (RR_DU.em d)) d
abbrev G_DU := Int → Int → Nat → NI → NI → NI → NI → NI → NI → NI → NI → NI → NI → NI → Option D_DU
def e_DU (g : G_DU) : Ct := (29, FC Q_DU R_DU (fun b => g b.1.1 b.1.2.1 b.1.2.2 b.2.1 b.2.2.1 b.2.2.2.1 b.c4.1 b.c4.2.1 b.c4.2.2.1 b.c4.2.2.2.1 b.c8.1 b.c8.2.1 b.c8.2.2.1 b.c8.2.2.2))
def B_DU (x0 : Int) (x1 : Int) (x2 : Nat) (x3 : Nat → Int) (x4 : Nat → Int) (x5 : Nat → Int) (x6 : Nat → Int) (x7 : Nat → Int) (x8 : Nat → Int) (x9 : Nat → Int) (x10 : Nat → Int) (x11 : Nat → Int) (x12 : Nat → Int) (x13 : Nat → Int) : Pg D_DU := let y0 := wI (Int.ofNat x2 - 1); let y1 := Int.toNat y0; cnd (Int.ofNat x2 == 0) (ret ((0, 0, 0, 0, 0, 0, 0, 0, 0, 0, 0), false)) (cnd (inR y0 x2) (ret (((x3,
 x4, x5, x6, x7, x8, x9, x10, x11, x12, x13).1 y1, (x4, x5, x6, x7, x8, x9, x10, x11, x12, x13).1 y1, (x5, x6, x7, x8, x9, x10, x11, x12, x13).1 y1, (x6, x7, x8, x9, x10, x11, x12, x13).1 y1, (x7, x8, x9, x10, x11, x12, x13).1 y1, (x8, x9, x10, x11, x12, x13).1 y1, (x9, x10, x11, x12, x13).1 y1, (x10, x11, x12, x13).1 y1, (x11, x12, x13).1 y1, x12 y1, x13 y1), true)) no)
def f_DU (x0 : Int) (x1 : Int) (x2 : Nat) (x3 : Nat → Int) (x4 : Nat → Int) (x5 : Nat → Int) (x6 : Nat → Int) (x7 : Nat → Int) (x8 : Nat → Int) (x9 : Nat → Int) (x10 : Nat → Int) (x11 : Nat → Int) (x12 : Nat → Int) (x13 : Nat → Int) : Option D_DU := (B_DU x0 x1 x2 x3 x4 x5 x6 x7 x8 x9 x10 x11 x12 x13).val
theorem d_DU : DenIs Tryz.prog [] ⟨[], [], [], [], none⟩ 2000 29 Q_DU R_DU fun b => B_DU b.1.1 b.1.2.1 b.1.2.2 b.2.1 b.2.2.1 b.2.2.2.1 b.c4.1 b.c4.2.1 b.c4.2.2.1 b.c4.2.2.2.1 b.c8.1 b.c8.2.1 b.c8.2.2.1 b.c8.2.2.2 := fun b => by kernel_rfl
theorem s_DU [Amb] : Snd Tryz.prog (e_DU f_DU) := Snd.of (mk0 mixed (.nil _) (by kernel_rfl) d_DU) (by kernel_rfl)

def Q_Bz := (open Rq in (pu (cu (app 0 8) nil) (cd Q4q36 fun b0 => (cl (cl (gs b0.2.2.1 Q4q31) nil) nil))) : RA _)
def RR_Bz := (open Rq in (res (pu (atup nil) (pl (cl (chs Q4q36) (cu chk nil)) nil))) : RE _)
abbrev D_Bz := RR_Bz.B
def R_Bz (d : D_Bz) : T := (fun d => .leaf (RR_Bz.em d)) d
abbrev G_Bz := Q_Bz.B → Option D_Bz
def e_Bz (g : G_Bz) : Ct := (42, FC Q_Bz R_Bz g)
def B_Bz (x : Q_Bz.B) : Pg D_Bz := ret ((wI (x.1.1.1 + 1), x.1.1.2.1, x.1.1.2.2.1, wI (x.1.1.2.2.2.1 + 1), x.1.1.c4), x.1.2)
def f_Bz (x : Q_Bz.B) : Option D_Bz := (B_Bz x).val
theorem d_Bz : DenIs Tryz.prog [] ⟨[], [], [], [], none⟩ 2000 42 Q_Bz R_Bz fun b => B_Bz b := fun b => by kernel_rfl
theorem s_Bz [Amb] : Snd Tryz.prog (e_Bz f_Bz) := Snd.of (mk0 mixed (.nil _) (by kernel_rfl) d_Bz) (by kernel_rfl)

def Q_BM := (open Rq in (pl (c ai (c ai (cl ai nil))) nil) : RA _)
def RR_BM := (open Rq in (res (pl ab (pu nil nil))) : RE _)
abbrev D_BM := RR_BM.B
def R_BM (d : D_BM) : T := (fun d => .leaf (RR_BM.em d)) d
abbrev G_BM := Int → Int → Int → Option D_BM
def e_BM (g : G_BM) : Ct := (37, FC Q_BM R_BM (fun b => g b.1 b.2.1 b.2.2))
def B_BM (x0 : Int) (x1 : Int) (x2 : Int) : Pg D_BM := cnd (decide (x0 ≥ x1)) (ret (decide (x0 ≤ x2))) (ret false)
def f_BM (x0 : Int) (x1 : Int) (x2 : Int) : Option D_BM := (B_BM x0 x1 x2).val
theorem d_BM : DenIs Tryz.prog [] ⟨[], [], [], [], none⟩ 2000 37 Q_BM R_BM fun b => B_BM b.1 b.2.1 b.2.2 := fun b => by kernel_rfl
theorem s_BM [Amb] : Snd Tryz.prog (e_BM f_BM) := Snd.of (mk0 mixed (.nil _) (by kernel_rfl) d_BM) (by kernel_rfl)

def Q_Cq := (open Rq in (pl (cl (aa (c gi (c gi (cl gi nil)))) nil) nil) : RA _)
def RR_earth_New_k0 := (open Rq in (res (pu (atup (cu (rc cnilp) (cu (rc (cf (fi .i64 (int 1)))) nil))) (pu nil nil))) : RE _)
def RR_earth_New_k1 := (open Rq in (res (pu (atup (cu (rc (cp 0 5)) (cu (rc (cf (fi .i64 (int 0)))) nil))) (pu nil (cl (c gi (c gi (c gi (c gi (cl gi nil))))) nil)))) : RE _)
abbrev D_Cq := RR_earth_New_k0.B ⊕ RR_earth_New_k1.B
def R_Cq (d : D_Cq) : T := (fun x => T.sum x (fun d => .leaf (RR_earth_New_k0.em d)) (fun d => .leaf (RR_earth_New_k1.em d))) d
abbrev G_Cq := Int → Int → Int → Option D_Cq
def e_Cq (g : G_Cq) : Ct := (24, FC Q_Cq R_Cq (fun b => g b.1 b.2.1 b.2.2))
def B_Cq (g_Bl : G_Bl) (g_Bo : G_Bo) (g_AH : G_AH) (g_BP : G_BP) (g_Bi : G_Bi) (g_CM : G_CM) (g_AL : G_AL) (x0 : Int) (x1 : Int) (x2 : Int) : Pg D_Cq := opt (g_Bl x0 x1 x2) fun d => cnd (!d) (ret (Sum.inl ())) (cnd (decide (x0 > 850000000)) (ret (Sum.inl ())) (cnd (decide (x0 < -850000000)) (ret (Sum.inl ())) (opt (g_AH x0 3373259426 1800000000 false) fun d => opt (g_BP d.1 d.2) fun d_1 => opt (g_Bi d.1 d_1.2) fun d => opt (g_Bo d_1.1 d_1.1 d.2) fun d_2 => opt (g_Bo 7188036 d_2.1 d_2.2) fun d_3 => let y0 := wI (1073741824 - d_3.1); opt (g_CM y0 d_3.2) fun d_4 => opt (g_AL 6531212288 d_4.1 30 d_4.2) fun d_5 => opt (g_Bo 6531212288 1066553788 d_5.2) fun d_6 => opt (g_Bo y0 d_4.1 d_6.2) fun d_7 => opt (g_AL d_6.1 d_7.1 30 d_7.2) fun d_8 => opt (g_AH d_8.1 3373259426 1800000000 d_8.2) fun d_9 => opt (g_Bo d_5.1 d.1 d_9.2) fun d => opt (g_AH d.1 3373259426 1800000000 d.2) fun d => ret (Sum.inr (x0,
 x1, x2, d_9.1, d.1)))))
def f_Cq (x0 : Int) (x1 : Int) (x2 : Int) : Option D_Cq := (B_Cq f_Bl f_Bo f_AH f_BP f_Bi f_CM f_AL x0 x1 x2).val
theorem d_Cq : ∀ g_Bl g_Bo g_AH g_BP g_Bi g_CM g_AL, DenIs Tryz.prog [e_Bl g_Bl, e_Bo g_Bo, e_AH g_AH, e_BP g_BP, e_Bi g_Bi, e_CM g_CM, e_AL g_AL] ⟨[], [], [], [], none⟩ 2000 24 Q_Cq R_Cq fun b => B_Cq g_Bl g_Bo g_AH g_BP g_Bi g_CM g_AL b.1 b.2.1 b.2.2 := fun _ _ _ _ _ _ _ b => by kernel_rfl
theorem s_Cq [Amb] : Snd Tryz.prog (e_Cq f_Cq) := Snd.of (mk0 mixed (.c s_Bl (.c s_Bo (.c s_AH (.c s_BP (.c s_Bi (.c s_CM (.c s_AL (.nil _)))))))) (by kernel_rfl) (d_Cq f_Bl f_Bo f_AH f_BP f_Bi f_CM f_AL)) (by kernel_rfl)

def Q_Aq := (open Rq in (pr (cu (app 0 24) (c ai (c ai (cl ai nil)))) (cl (cl (gl 24 (cl kci nil)) nil) nil)) : RA _)
def RR_Aq := (open Rq in (res (pu (atup nil) (pl (cl (chs (cl (gl 24 (cl kci nil)) nil)) nil) nil))) : RE _)
abbrev D_Aq := RR_Aq.B
def R_Aq (d : D_Aq) : T := (fun d => .leaf (RR_Aq.em d)) d
abbrev G_Aq := Int → Int → Int → NI → Option D_Aq
def e_Aq (g : G_Aq) : Ct := (20, FC Q_Aq R_Aq (fun b => g b.1.1 b.1.2.1 b.1.2.2 b.2))
def QL_Aq_0 := (open Rq in (st (pr (cu (app 0 24) (us 1 (c ai (c ai (us 4 (cl ai (us 11 nil))))))) (pl (cl (so (cl (gl 24 (cl kci nil)) nil)) nil) (cu (nat 0) nil)))) : RS _)
def Z_Aq_0 := (open Rq in (st (pr (cu (app 0 24) (us 1 (c ai (c ai (us 4 (c ai (us 1 (c ai (c ai (cl ab (us 7 nil))))))))))) (pl (cl (so (cl (gl 24 (cl kci nil)) nil)) nil) (cu (nat 0) nil)))) : RS _)
abbrev X_Aq_0 := ((Int × Int × Int × Bool) × NI)
def E_Aq_0 {ρ : Type} (x : X_Aq_0) (K : AX → St → Option ρ) : Option ρ := (fun d => K (AX.ex 0) (Z_Aq_0.em ((d.1.1, d.1.2.1, d.1.2.2.1, d.1.2.2.1, d.1.1, d.1.2.2.2), d.2))) x
def S_Aq_0 (d : QL_Aq_0.B) : Pg (QL_Aq_0.B ⊕ X_Aq_0) := let y0 := Int.toNat d.1.2.2; let y1 := decide (d.1.2.2 < d.1.1); cnd y1 (cnd (inR d.1.2.2 24) (cnd (true && Nat.ble (0 + y0 * 1 + 1) 24) (ret (Sum.inl ((d.1.1, d.1.2.1, wI (d.1.2.2 + 1)), fun j => bif Nat.beq j y0 then d.1.2.1 else d.2 j))) no) no) (ret (Sum.inr ((d.1.1, d.1.2.1, d.1.2.2, y1), d.2)))
def L_Aq_0 : QL_Aq_0.B → Option X_Aq_0 := loopP (S_Aq_0) 2000
def H_Aq (l_0 : QL_Aq_0.B → Option X_Aq_0) : Hs := ⟨[⟨1, (1 :: rg 4 4 (rg 9 11 [])), []⟩], [smQ 1 1 QL_Aq_0 E_Aq_0 l_0], [0], [], (some ⟨0, (rg 0 20 []), []⟩)⟩
def B_Aq (l_0 : QL_Aq_0.B → Option X_Aq_0) (x0 : Int) (x1 : Int) (x2 : Int) (x3 : Nat → Int) : Pg D_Aq := opt (l_0 ((x1, x2, x0), x3)) fun d => ret d.2
def f_Aq (x0 : Int) (x1 : Int) (x2 : Int) (x3 : Nat → Int) : Option D_Aq := (B_Aq L_Aq_0 x0 x1 x2 x3).val
theorem dl_Aq_0 : ∀ l_0, LoopIs Tryz.prog [] (H_Aq l_0) 1 2000 20 1 QL_Aq_0 E_Aq_0 (S_Aq_0) := fun _ _ d c K => by kernel_rfl
theorem d_Aq : ∀ l_0, DenIs Tryz.prog [] (H_Aq l_0) 2000 20 Q_Aq R_Aq fun b => B_Aq l_0 b.1.1 b.1.2.1 b.1.2.2 b.2 := fun _ b => by kernel_rfl
theorem s_Aq [Amb] : Snd Tryz.prog (e_Aq f_Aq) := Snd.of (mkS mixed (.nil _) (by kernel_rfl) (Sums.by (l := [loopIn Tryz.prog 20 1]) (lj := []) (by kernel_rfl) ⟨mkL (S := S_Aq_0) (by kernel_rfl) (dl_Aq_0 L_Aq_0), trivial⟩ (by kernel_rfl) trivial) (d_Aq L_Aq_0)) (by kernel_rfl)

def Q_AP := (open Rq in (pu nil nil) : RA _)
def RR_AP := (open Rq in (res (pl (aa Q4q88) (pu nil nil))) : RE _)
abbrev D_AP := RR_AP.B
def R_AP (d : D_AP) : T := (fun d => .leaf (RR_AP.em d)) d
abbrev G_AP := Option D_AP
def e_AP (g : G_AP) : Ct := (5, FC Q_AP R_AP (fun _ => g))
def QL_AP_0 := (open Rq in (st (pr (cu (app 0 72) (cu (app 1 72) (us 2 (cl ai (us 32 nil))))) (pl (c (so (cu (gc (cf (fi .i64 (int 0)))) (cu (gc (cf (fi .i64 (int 0)))) (cu (gc (cf (fi .i64 (int 0)))) (cu (gc (cf (fi .i64 (int 0)))) (cu (gc (cf (fi .i64 (int 0)))) (cu (gc (cf (fi .i64 (int 0)))) (cu (gc (cf (fi .i64 (int 0)))) (cu (gc (cf (fi .i64 (int 0)))) (cu (gc (cf (fi .i64 (int 0)))) (cu (gc (cf (fi .i64 (int 0)))) (cu (gc (cf (fi .i64 (int 0)))) (cu (gc (cf (fi .i64 (int 0)))) (cu (gc (cf (fi .i64 (int 0)))) (cu (gc (cf (fi .i64 (int 0)))) (cu (gc (cf (fi .i64 (int 0)))) (cu (gc (cf (fi .i64 (int 0)))) (c (gl 24 (cl kci nil)) (cl (gl 24 (cl kci nil)) (cu (gc (cf (fi .i64 (int 0)))) (cu (gc (cf (fi .i64 (int 0)))) (cu (gc (cf (fi .i64 (int 0)))) (cu (gc (cf (fi .i64 (int 0)))) (cu (gc (cf (fi .i64 (int 0)))) Q4q63)))))))))))))))))))))))) (cl (so Q4q88) nil)) nil))) : RS _)
def Z_AP_0 := (open Rq in (st (pr (cu (app 0 72) (cu (app 1 72) (us 2 (c ai (cl ab (us 31 nil)))))) (pl (c (so (cu (gc (cf (fi .i64 (int 0)))) (cu (gc (cf (fi .i64 (int 0)))) (cu (gc (cf (fi .i64 (int 0)))) (cu (gc (cf (fi .i64 (int 0)))) (cu (gc (cf (fi .i64 (int 0)))) (cu (gc (cf (fi .i64 (int 0)))) (cu (gc (cf (fi .i64 (int 0)))) (cu (gc (cf (fi .i64 (int 0)))) (cu (gc (cf (fi .i64 (int 0)))) (cu (gc (cf (fi .i64 (int 0)))) (cu (gc (cf (fi .i64 (int 0)))) (cu (gc (cf (fi .i64 (int 0)))) (cu (gc (cf (fi .i64 (int 0)))) (cu (gc (cf (fi .i64 (int 0)))) (cu (gc (cf (fi .i64 (int 0)))) (cu (gc (cf (fi .i64 (int 0)))) (c (gl 24 (cl kci nil)) (cl (gl 24 (cl kci nil)) (cu (gc (cf (fi .i64 (int 0)))) (cu (gc (cf (fi .i64 (int 0)))) (cu (gc (cf (fi .i64 (int 0)))) (cu (gc (cf (fi .i64 (int 0)))) (cu (gc (cf (fi .i64 (int 0)))) Q4q63)))))))))))))))))))))))) (cl (so Q4q88) nil)) nil))) : RS _)
abbrev X_AP_0 := Z_AP_0.B
def E_AP_0 {ρ : Type} (x : X_AP_0) (K : AX → St → Option ρ) : Option ρ := (fun d => K (AX.ex 0) (Z_AP_0.em d)) x
def S_AP_0 (d : QL_AP_0.B) : Pg (QL_AP_0.B ⊕ X_AP_0) := let y0 := inR d.1 6; let y1 := d.1 == 5; let y2 := d.1 == 4; let y3 := d.1 == 1; let y4 := d.1 == 3; let y5 := d.1 == 2; let y6 := wI (d.1 + 1); let y7 := decide (d.1 < 6); cnd y7 (cnd y0 (cnd y1 (cnd y0 (cnd y1 (ret (Sum.inl (y6, d.2.1, d.2.2.1, d.2.2.2.1, d.c4.1, d.c4.2.1, d.c4.2.2.1, 5, d.c8.1, d.c8.2.1, d.c8.2.2.1, d.c8.2.2.2.1, d.c8.c4.1,
 1000000, d.c8.c4.2.2))) (cnd y2 (ret (Sum.inl (y6, d.2.1, d.2.2.1, d.2.2.2.1, d.c4.1, d.c4.2.1, d.c4.2.2.1, 5, d.c8.1, d.c8.2.1, d.c8.2.2.1, d.c8.2.2.2.1, 1000000, d.c8.c4.2))) (cnd y4 (ret (Sum.inl (y6, d.2.1, d.2.2.1, d.2.2.2.1, d.c4.1, d.c4.2.1, d.c4.2.2.1, 5, d.c8.1, d.c8.2.1, d.c8.2.2.1, 1000000, d.c8.c4))) (cnd y5 (ret (Sum.inl (y6, d.2.1, d.2.2.1, d.2.2.2.1, d.c4.1, d.c4.2.1, d.c4.2.2.1, 5,
 d.c8.1, d.c8.2.1, 1000000, d.c8.2.2.2))) (cnd y3 (ret (Sum.inl (y6, d.2.1, d.2.2.1, d.2.2.2.1, d.c4.1, d.c4.2.1, d.c4.2.2.1, 5, d.c8.1, 1000000, d.c8.2.2))) (ret (Sum.inl (y6, d.2.1, d.2.2.1, d.2.2.2.1, d.c4.1, d.c4.2.1, d.c4.2.2.1, 5, 1000000, d.c8.2)))))))) no) (cnd y2 (cnd y0 (cnd y1 (ret (Sum.inl (y6, d.2.1, d.2.2.1, d.2.2.2.1, d.c4.1, d.c4.2.1, 5, d.c4.2.2.2.1, d.c8.1, d.c8.2.1, d.c8.2.2.1, d.c8.2.2.2.1,
 d.c8.c4.1, 1000000, d.c8.c4.2.2))) (cnd y2 (ret (Sum.inl (y6, d.2.1, d.2.2.1, d.2.2.2.1, d.c4.1, d.c4.2.1, 5, d.c4.2.2.2.1, d.c8.1, d.c8.2.1, d.c8.2.2.1, d.c8.2.2.2.1, 1000000, d.c8.c4.2))) (cnd y4 (ret (Sum.inl (y6, d.2.1, d.2.2.1, d.2.2.2.1, d.c4.1, d.c4.2.1, 5, d.c4.2.2.2.1, d.c8.1, d.c8.2.1, d.c8.2.2.1, 1000000, d.c8.c4))) (cnd y5 (ret (Sum.inl (y6, d.2.1, d.2.2.1, d.2.2.2.1, d.c4.1, d.c4.2.1,
 5, d.c4.2.2.2.1, d.c8.1, d.c8.2.1, 1000000, d.c8.2.2.2))) (cnd y3 (ret (Sum.inl (y6, d.2.1, d.2.2.1, d.2.2.2.1, d.c4.1, d.c4.2.1, 5, d.c4.2.2.2.1, d.c8.1, 1000000, d.c8.2.2))) (ret (Sum.inl (y6, d.2.1, d.2.2.1, d.2.2.2.1, d.c4.1, d.c4.2.1, 5, d.c4.2.2.2.1, 1000000, d.c8.2)))))))) no) (cnd y4 (cnd y0 (cnd y1 (ret (Sum.inl (y6, d.2.1, d.2.2.1, d.2.2.2.1, d.c4.1, 5, d.c4.2.2.1, d.c4.2.2.2.1, d.c8.1, d.c8.2.1,
 d.c8.2.2.1, d.c8.2.2.2.1, d.c8.c4.1, 1000000, d.c8.c4.2.2))) (cnd y2 (ret (Sum.inl (y6, d.2.1, d.2.2.1, d.2.2.2.1, d.c4.1, 5, d.c4.2.2.1, d.c4.2.2.2.1, d.c8.1, d.c8.2.1, d.c8.2.2.1, d.c8.2.2.2.1, 1000000, d.c8.c4.2))) (cnd y4 (ret (Sum.inl (y6, d.2.1, d.2.2.1, d.2.2.2.1, d.c4.1, 5, d.c4.2.2.1, d.c4.2.2.2.1, d.c8.1, d.c8.2.1, d.c8.2.2.1, 1000000, d.c8.c4))) (cnd y5 (ret (Sum.inl (y6, d.2.1, d.2.2.1,
 d.2.2.2.1, d.c4.1, 5, d.c4.2.2.1, d.c4.2.2.2.1, d.c8.1, d.c8.2.1, 1000000, d.c8.2.2.2))) (cnd y3 (ret (Sum.inl (y6, d.2.1, d.2.2.1, d.2.2.2.1, d.c4.1, 5, d.c4.2.2.1, d.c4.2.2.2.1, d.c8.1, 1000000, d.c8.2.2))) (ret (Sum.inl (y6, d.2.1, d.2.2.1, d.2.2.2.1, d.c4.1, 5, d.c4.2.2.1, d.c4.2.2.2.1, 1000000, d.c8.2)))))))) no) (cnd y5 (cnd y0 (cnd y1 (ret (Sum.inl (y6, d.2.1, d.2.2.1, d.2.2.2.1, 5, d.c4.2.1,
 d.c4.2.2.1, d.c4.2.2.2.1, d.c8.1, d.c8.2.1, d.c8.2.2.1, d.c8.2.2.2.1, d.c8.c4.1, 1000000, d.c8.c4.2.2))) (cnd y2 (ret (Sum.inl (y6, d.2.1, d.2.2.1, d.2.2.2.1, 5, d.c4.2.1, d.c4.2.2.1, d.c4.2.2.2.1, d.c8.1, d.c8.2.1, d.c8.2.2.1, d.c8.2.2.2.1, 1000000, d.c8.c4.2))) (cnd y4 (ret (Sum.inl (y6, d.2.1, d.2.2.1, d.2.2.2.1, 5, d.c4.2.1, d.c4.2.2.1, d.c4.2.2.2.1, d.c8.1, d.c8.2.1, d.c8.2.2.1, 1000000, d.c8.c4))) (cnd y5 (ret (Sum.inl (y6,
 d.2.1, d.2.2.1, d.2.2.2.1, 5, d.c4.2.1, d.c4.2.2.1, d.c4.2.2.2.1, d.c8.1, d.c8.2.1, 1000000, d.c8.2.2.2))) (cnd y3 (ret (Sum.inl (y6, d.2.1, d.2.2.1, d.2.2.2.1, 5, d.c4.2.1, d.c4.2.2.1, d.c4.2.2.2.1, d.c8.1, 1000000, d.c8.2.2))) (ret (Sum.inl (y6, d.2.1, d.2.2.1, d.2.2.2.1, 5, d.c4.2.1, d.c4.2.2.1, d.c4.2.2.2.1, 1000000, d.c8.2)))))))) no) (cnd y3 (cnd y0 (cnd y1 (ret (Sum.inl (y6, d.2.1, d.2.2.1,
 5, d.c4.1, d.c4.2.1, d.c4.2.2.1, d.c4.2.2.2.1, d.c8.1, d.c8.2.1, d.c8.2.2.1, d.c8.2.2.2.1, d.c8.c4.1, 1000000, d.c8.c4.2.2))) (cnd y2 (ret (Sum.inl (y6, d.2.1, d.2.2.1, 5, d.c4.1, d.c4.2.1, d.c4.2.2.1, d.c4.2.2.2.1, d.c8.1, d.c8.2.1, d.c8.2.2.1, d.c8.2.2.2.1, 1000000, d.c8.c4.2))) (cnd y4 (ret (Sum.inl (y6, d.2.1, d.2.2.1, 5, d.c4.1, d.c4.2.1, d.c4.2.2.1, d.c4.2.2.2.1, d.c8.1, d.c8.2.1, d.c8.2.2.1,
 1000000, d.c8.c4))) (cnd y5 (ret (Sum.inl (y6, d.2.1, d.2.2.1, 5, d.c4.1, d.c4.2.1, d.c4.2.2.1, d.c4.2.2.2.1, d.c8.1, d.c8.2.1, 1000000, d.c8.2.2.2))) (cnd y3 (ret (Sum.inl (y6, d.2.1, d.2.2.1, 5, d.c4.1, d.c4.2.1, d.c4.2.2.1, d.c4.2.2.2.1, d.c8.1, 1000000, d.c8.2.2))) (ret (Sum.inl (y6, d.2.1, d.2.2.1, 5, d.c4.1, d.c4.2.1, d.c4.2.2.1, d.c4.2.2.2.1, 1000000, d.c8.2)))))))) no) (cnd y0 (cnd y1 (ret (Sum.inl (y6,
 d.2.1, 5, d.2.2.2.1, d.c4.1, d.c4.2.1, d.c4.2.2.1, d.c4.2.2.2.1, d.c8.1, d.c8.2.1, d.c8.2.2.1, d.c8.2.2.2.1, d.c8.c4.1, 1000000, d.c8.c4.2.2))) (cnd y2 (ret (Sum.inl (y6, d.2.1, 5, d.2.2.2.1, d.c4.1, d.c4.2.1, d.c4.2.2.1, d.c4.2.2.2.1, d.c8.1, d.c8.2.1, d.c8.2.2.1, d.c8.2.2.2.1, 1000000, d.c8.c4.2))) (cnd y4 (ret (Sum.inl (y6, d.2.1, 5, d.2.2.2.1, d.c4.1, d.c4.2.1, d.c4.2.2.1, d.c4.2.2.2.1, d.c8.1,
 d.c8.2.1, d.c8.2.2.1, 1000000, d.c8.c4))) (cnd y5 (ret (Sum.inl (y6, d.2.1, 5, d.2.2.2.1, d.c4.1, d.c4.2.1, d.c4.2.2.1, d.c4.2.2.2.1, d.c8.1, d.c8.2.1, 1000000, d.c8.2.2.2))) (cnd y3 (ret (Sum.inl (y6, d.2.1, 5, d.2.2.2.1, d.c4.1, d.c4.2.1, d.c4.2.2.1, d.c4.2.2.2.1, d.c8.1, 1000000, d.c8.2.2))) (ret (Sum.inl (y6, d.2.1, 5, d.2.2.2.1, d.c4.1, d.c4.2.1, d.c4.2.2.1, d.c4.2.2.2.1, 1000000, d.c8.2)))))))) no)))))) no) (ret (Sum.inr ((d.1,
 y7), d.2)))
def L_AP_0 : QL_AP_0.B → Option X_AP_0 := loopP (S_AP_0) 2000
def H_AP (l_0 : QL_AP_0.B → Option X_AP_0) : Hs := ⟨[⟨3, (2 :: 3 :: rg 5 32 []), []⟩], [smQ 3 0 QL_AP_0 E_AP_0 l_0], [], [], (some ⟨0, (rg 1 36 []), []⟩)⟩
def B_AP (g_Aq : G_Aq) (l_0 : QL_AP_0.B → Option X_AP_0) : Pg D_AP := opt (l_0 (0, (fun x => 0, fun x => 0), 0, 0, 0, 0, 0, 0, 0, 0, 0, 0, 0, 0, fun x => 0, fun x => 0)) fun d => opt (g_Aq 0 24 16384 d.c8.c4.2.2.1) fun d_1 => opt (g_Aq 0 4 1048576 d_1) fun d_2 => opt (g_Aq 4 7 17179869184 d_2) fun d_3 => opt (g_Aq 10 13 1024 d_3) fun d_4 => opt (g_Aq 13 16 65536 d_4) fun d_5 => opt (g_Aq 22 24 17179869184 d_5) fun d_6 => opt (g_Aq 0 24 17592186044416 d.c8.c4.2.2.2) fun d_7 => opt (g_Aq 0 4 68719476736 d_7) fun d_8 => opt (g_Aq 10 13 67108864 d_8) fun d_9 => opt (g_Aq 13 16 4294967296 d_9) fun d_10 => opt (g_Aq 16 22 17179869184 d_10) fun d_11 => ret (d.2.2.1,
 d.2.2.2.1, d.c4.1, d.c4.2.1, d.c4.2.2.1, d.c4.2.2.2.1, d.c8.1, d.c8.2.1, d.c8.2.2.1, d.c8.2.2.2.1, d.c8.c4.1, d.c8.c4.2.1, d_6, d_11)
def f_AP : Option D_AP := (B_AP f_Aq L_AP_0).val
theorem dl_AP_0 : ∀ g_Aq l_0, LoopIs Tryz.prog [e_Aq g_Aq] (H_AP l_0) 0 2000 5 3 QL_AP_0 E_AP_0 (S_AP_0) := fun _ _ _ d c K => by kernel_rfl
theorem d_AP : ∀ g_Aq l_0, DenIs Tryz.prog [e_Aq g_Aq] (H_AP l_0) 2000 5 Q_AP R_AP fun b => B_AP g_Aq l_0 := fun _ _ b => by kernel_rfl
theorem s_AP [Amb] : Snd Tryz.prog (e_AP f_AP) := Snd.of (mkS mixed (.c s_Aq (.nil _)) (by kernel_rfl) (Sums.by (l := [loopIn Tryz.prog 5 3]) (lj := []) (by kernel_rfl) ⟨mkL (S := S_AP_0) (by kernel_rfl) (dl_AP_0 f_Aq L_AP_0), trivial⟩ (by kernel_rfl) trivial) (d_AP f_Aq L_AP_0)) (by kernel_rfl)

def Q_AN := (open Rq in (pl (cl (aa Q4q83) nil) nil) : RA _)
def RR_AN := (open Rq in (res (pl ab (pu nil nil))) : RE _)
abbrev D_AN := RR_AN.B
def R_AN (d : D_AN) : T := (fun d => .leaf (RR_AN.em d)) d
abbrev G_AN := Q_AN.B → Option D_AN
def e_AN (g : G_AN) : Ct := (12, FC Q_AN R_AN g)
def QL_AN_1 := (open Rq in (st (pr (us 1 (cu (app 0 72) (cu (ac (cf (fb (bool false)))) (us 3 (xs 1 (cu (ac (cf (fi .i64 (int 6)))) (us 4 (cu Q4q12 (us 4 (cu Q4q13 (us 4 (cu (ac (cf (fb (bool false)))) (us 4 (c ab (us 3 (cl ai (us 26 Q4q82))))))))))))))))) (pl (cl (so (c gi (c gi (c gi (c gi (c gi (c gi (c gi (c gi (c gi (c gi (c gi (c gi (c gi (c gi (c gi (c gi Q4q66))))))))))))))))) nil) nil))) : RS _)
def Z_ekf_Good_1_0 := (open Rq in (st (pu (us 2 (cu (ac (cf (fb (bool false)))) (us 119 nil))) (pu nil nil))) : RS _)
def Z_ekf_Good_1_1 := (open Rq in (st (pr (us 1 (cu (app 0 72) (cu (ac (cf (fb (bool false)))) (us 3 (xs 1 (cu (ac (cf (fi .i64 (int 6)))) (us 4 (cu Q4q12 (us 4 (cu Q4q13 (us 4 (cu (ac (cf (fb (bool false)))) (us 4 (c ab (us 3 (c ai (cl ab (us 25 Q4q82)))))))))))))))))) (pl (cl (so (c gi (c gi (c gi (c gi (c gi (c gi (c gi (c gi (c gi (c gi (c gi (c gi (c gi (c gi (c gi (c gi Q4q66))))))))))))))))) nil) nil))) : RS _)
abbrev X_AN_1 := Z_ekf_Good_1_0.B ⊕ Z_ekf_Good_1_1.B
def E_AN_1 {ρ : Type} (x : X_AN_1) (K : AX → St → Option ρ) : Option ρ := (Sum.elim (fun d => K AX.ret (Z_ekf_Good_1_0.em d)) (fun d => K (AX.ex 2) (Z_ekf_Good_1_1.em d))) x
def S_AN_1 (g_BM : G_BM) (d : QL_AN_1.B) : Pg (QL_AN_1.B ⊕ X_AN_1) := let y0 := Int.toNat d.1.2; let y1 := inR d.1.2 24; let y2 := Nat.ble (0 + y0 * 1 + 1) 24; let y3 := decide (d.1.2 < 24); cnd y3 (cnd y1 (cnd y2 (opt (g_BM (d.c16.2.1 y0) 0 72057594037927936) fun d_1 => cnd (!d_1) (ret (Sum.inr (Sum.inl ()))) (cnd y1 (cnd y2 (opt (g_BM (d.c16.2.2.1 y0) 1 72057594037927936) fun d_2 => cnd (!d_2) (ret (Sum.inr (Sum.inl ()))) (ret (Sum.inl ((d.1.1,
 wI (d.1.2 + 1)), d.2)))) no) no)) no) no) (ret (Sum.inr (Sum.inr ((d.1.1, d.1.2, y3), d.2))))
def L_AN_1 : QL_AN_1.B → Option X_AN_1 := loopP (S_AN_1 f_BM) 2000
def H_AN (l_1 : QL_AN_1.B → Option X_AN_1) : Hs := ⟨[⟨2, (0 :: 3 :: 4 :: rg 8 4 (13 :: 14 :: 15 :: 21 :: rg 29 8 (38 :: 39 :: 40 :: rg 48 10 [61, 62, 66, 67, 71, 72, 76, 77, 81, 82, 86, 87, 91, 92, 96, 97, 101, 102, 106, 107, 111, 112, 116, 117, 121]))), []⟩, ⟨8, [0, 3, 4, 5, 8, 9, 10, 11, 13, 14, 15, 16, 18, 19, 20, 21, 23, 24, 25, 26, 28, 29, 30, 32, 33, 34, 35, 36, 38, 39, 40, 48, 49, 50, 51, 52,
 53, 54, 55, 56, 57, 61, 62, 66, 67, 71, 72, 76, 77, 81, 82, 86, 87, 91, 92, 96, 97, 101, 102, 106, 107, 111, 112, 116, 117, 121, 37, 41, 42, 43, 44, 45, 46, 47], []⟩], [smQ 8 0 QL_AN_1 E_AN_1 l_1], [], [], (some ⟨0, (0 :: 1 :: rg 3 119 []), []⟩)⟩
def B_AN (g_BM : G_BM) (g_Cq : G_Cq) (l_1 : QL_AN_1.B → Option X_AN_1) (x : Q_AN.B) : Pg D_AN := cnd (decide (x.c4.1.1 < 1)) (ret false) (cnd (decide (x.c4.1.1 > 1000)) (ret false) (opt (g_BM x.c4.2.1.1 1 1099511627776) fun d => cnd (!d) (ret false) (cnd (decide (x.c4.1.2.1 < 1)) (ret false) (cnd (decide (x.c4.1.2.1 > 1000)) (ret false) (opt (g_BM x.c4.2.1.2.1 1 1099511627776) fun d => cnd (!d) (ret false) (cnd (decide (x.c4.1.2.2.1 < 1)) (ret false) (cnd (decide (x.c4.1.2.2.1 > 1000)) (ret false) (opt (g_BM x.c4.2.1.2.2.1 1 1099511627776) fun d => cnd (!d) (ret false) (cnd (decide (x.c4.1.2.2.2.1 < 1)) (ret false) (cnd (decide (x.c4.1.2.2.2.1 > 1000)) (ret false) (opt (g_BM x.c4.2.1.2.2.2.1 1 1099511627776) fun d => cnd (!d) (ret false) (cnd (decide (x.c4.1.c4.1 < 1)) (ret false) (cnd (decide (x.c4.1.c4.1 > 1000)) (ret false) (opt (g_BM x.c4.2.1.c4.1 1 1099511627776) fun d => cnd (!d) (ret false) (cnd (decide (x.c4.1.c4.2 < 1)) (ret false) (cnd (decide (x.c4.1.c4.2 > 1000)) (ret false) (opt (g_BM x.c4.2.1.c4.2 1 1099511627776) fun d => cnd (!d) (ret false) (opt (l_1 ((d,
 0), x.1, x.2.1, x.2.2.1, x.2.2.2.1, x.c4.1.1, x.c4.1.2.1, x.c4.1.2.2.1, x.c4.1.2.2.2.1, x.c4.1.c4.1, x.c4.1.c4.2, x.c4.2.1.1, x.c4.2.1.2.1, x.c4.2.1.2.2.1, x.c4.2.1.2.2.2.1, x.c4.2.1.c4.1, x.c4.2.1.c4.2, x.c4.2.2)) fun x => sum x (fun d => ret false) fun d => opt (g_Cq d.c16.c8.1 d.c16.c8.2.1 d.c16.c8.2.2) fun d_1 => sm d_1 (fun d => ret false) (fun d_2 => opt (g_BM d.2.1 1000 100000) fun d_3 => cnd d_3 (opt (g_BM d.2.2.1 0 300000) fun d_4 => cnd d_4 (cnd (decide (d.2.2.2.1 ≥ 1)) (cnd (decide (d.2.2.2.1 ≤ 64)) (cnd (decide (d.c4.1 ≥ 0)) (cnd (decide (d.c4.1 ≤ 100)) (opt (g_BM d.c16.2.2.2.1 0 1099511627776) fun d_5 => cnd d_5 (opt (g_BM d.c16.c4.1 1 72057594037927936) fun d_6 => cnd d_6 (cnd (decide (d.c16.c4.2.1 ≥ 0)) (cnd (decide (d.c16.c4.2.1 ≤ 3)) (opt (g_BM d.c16.c4.2.2.1 1 1073741824) fun d_7 => cnd d_7 (cnd (decide (d.c16.c4.2.2.2.1 ≥ 1)) (ret (decide (d.c16.c4.2.2.2.1 ≤ 64))) (ret false)) (ret false)) (ret false)) (ret false)) (ret false)) (ret false)) (ret false)) (ret false)) (ret false)) (ret false)) (ret false)) (ret false))))))))))))))))))))
def f_AN (x : Q_AN.B) : Option D_AN := (B_AN f_BM f_Cq L_AN_1 x).val
theorem dl_AN_1 : ∀ g_BM g_Cq l_1, LoopIs Tryz.prog [e_BM g_BM, e_Cq g_Cq] (H_AN l_1) 0 2000 12 8 QL_AN_1 E_AN_1 (S_AN_1 g_BM) := fun _ _ _ _ d c K => by kernel_rfl
theorem d_AN : ∀ g_BM g_Cq l_1, DenIs Tryz.prog [e_BM g_BM, e_Cq g_Cq] (H_AN l_1) 2000 12 Q_AN R_AN fun b => B_AN g_BM g_Cq l_1 b := fun _ _ _ b => by kernel_rfl
theorem s_AN [Amb] : Snd Tryz.prog (e_AN f_AN) := Snd.of (mkS mixed (.c s_BM (.c s_Cq (.nil _))) (by kernel_rfl) (Sums.by (l := [loopIn Tryz.prog 12 2, loopIn Tryz.prog 12 8]) (lj := []) (by kernel_rfl) ⟨SumOK.no (by kernel_rfl), ⟨mkL (S := S_AN_1 f_BM) (by kernel_rfl) (dl_AN_1 f_BM f_Cq L_AN_1), trivial⟩⟩ (by kernel_rfl) trivial) (d_AN f_BM f_Cq L_AN_1)) (by kernel_rfl)

def Q_Ad := (open Rq in (pr (cl Q4q65 (cu (app 0 1) (cu (app 1 3) (cu (app 2 1) (cu (app 3 3) (cu (app 4 4) nil)))))) (cu (cu (gp 5 1) nil) (c (c gi (c gi (cl gi nil))) (cu (cu (gp 6 3) nil) (c (c gi (c gi (cl gi nil))) (c (c gi (c gi (c gi (cl gi nil)))) (c (cl gb nil) (cd (c gi (c gi (cl (gc (slo 7 11)) nil))) fun b6 => (cl (cl (gs b6.2.2 Q4q58) nil) nil))))))))) : RA _)
def RR_Ad := (open Rq in (res (pr Q4q47 (pl (cu chk (cu chk (cu chk (cu chk (cu chk (cl (chs (cl gb nil)) (cu chk (cu chk nil)))))))) nil))) : RE _)
abbrev D_Ad := RR_Ad.B
def R_Ad (d : D_Ad) : T := (fun d => .leaf (RR_Ad.em d)) d
abbrev G_Ad := Q_Ad.B → Option D_Ad
def e_Ad (g : G_Ad) : Ct := (137, FC Q_Ad R_Ad g)
def B_Ad (g_Bf : G_Bf) (g_AK : G_AK) (g_BE : G_BE) (g_AG : G_AG) (x : Q_Ad.B) : Pg D_Ad := opt (g_Bf x.2.1.1 x.2.1.2.1 x.2.1.2.2 x.c4.2.1.2.1 x.c4.1) fun d => opt (g_AK 2 d.2 (fun j => bif Nat.beq j 1 then d.1.1 else bif Nat.beq j 0 then x.1.2.2.1.1 else x.1.2.2.1.1) (fun j => bif Nat.beq j 1 then d.1.2.1 else bif Nat.beq j 0 then x.1.2.2.1.2.1 else x.1.2.2.1.2.1) (fun j => bif Nat.beq j 1 then d.1.2.2 else bif Nat.beq j 0 then x.1.2.2.1.2.2 else x.1.2.2.1.2.2) true) fun d => opt (g_Bf x.2.2.1.1 x.2.2.1.2.1 x.2.2.1.2.2 x.c4.2.1.2.1 d.2) fun d_1 => opt (g_AK 2 d_1.2 (fun j => bif Nat.beq j 1 then d_1.1.1 else bif Nat.beq j 0 then x.1.2.2.2.1 else x.1.2.2.2.1) (fun j => bif Nat.beq j 1 then d_1.1.2.1 else bif Nat.beq j 0 then x.1.c4.1 else x.1.c4.1) (fun j => bif Nat.beq j 1 then d_1.1.2.2 else bif Nat.beq j 0 then x.1.c4.2 else x.1.c4.2) true) fun d_2 => opt (g_BE x.2.2.2.1.1 x.2.2.2.1.2.1 x.2.2.2.1.2.2.1 x.2.2.2.1.2.2.2 x.1.2.1.1 x.1.2.1.2.1 x.1.2.1.2.2.1 x.1.2.1.2.2.2 d_2.2) fun d_3 => opt (g_AG d_3.1.1 d_3.1.2.1 d_3.1.2.2.1 d_3.1.2.2.2 d_3.2) fun d_4 => ret ((x.1.1,
 d_4.1.1, d_4.1.2.1, d_4.1.2.2.1, d_4.1.2.2.2, d.1.1, d.1.2.1, d.1.2.2, d_2.1), d_4.2)
def f_Ad (x : Q_Ad.B) : Option D_Ad := (B_Ad f_Bf f_AK f_BE f_AG x).val
theorem d_Ad : ∀ g_Bf g_AK g_BE g_AG, DenIs Tryz.prog [e_Bf g_Bf, e_AK g_AK, e_BE g_BE, e_AG g_AG] ⟨[], [], [], [], none⟩ 2000 137 Q_Ad R_Ad fun b => B_Ad g_Bf g_AK g_BE g_AG b := fun _ _ _ _ b => by kernel_rfl
theorem s_Ad [Amb] : Snd Tryz.prog (e_Ad f_Ad) := Snd.of (mk0 mixed (.c s_Bf (.c s_AK (.c s_BE (.c s_AG (.nil _))))) (by kernel_rfl) (d_Ad f_Bf f_AK f_BE f_AG)) (by kernel_rfl)

def Q_Ao := (open Rq in (pu (cu (app 0 3) (cu (app 1 1) (cu Q4q73 nil))) (cd (c gi (c gi (cl (gc (slo 7 11)) nil))) fun b0 => (c (cl gb nil) (cu (cu (gp 1 1) nil) (c (c gi (c gi (cl gi nil))) (cu (cu (gp 0 3) nil) (c (c gi (c gi (cl gi nil))) (c (c gi (c gi (c gi (cl gi nil)))) (cl (cl (gs b0.2.2 Q4q58) nil) nil))))))))) : RA _)
def RR_Ao := (open Rq in (res (pu (atup nil) (pl (cu chk (c (chs (cl gb nil)) (cu chk (cu chk (cu chk Q4q78))))) nil))) : RE _)
abbrev D_Ao := RR_Ao.B
def R_Ao (d : D_Ao) : T := (fun d => .leaf (RR_Ao.em d)) d
abbrev G_Ao := Q_Ao.B → Option D_Ao
def e_Ao (g : G_Ao) : Ct := (133, FC Q_Ao R_Ao g)
def QL_Ao_0 := (open Rq in (st (dp (cu (app 0 3) (cu (app 1 1) (cu Q4q73 (us 8 (c (ac (slo 7 11)) (c ai (cl ai (us 20 nil)))))))) fun v => (pl (c Q4q0 (c (so (cl gb nil)) (cu (so (cu (gp 1 1) nil)) (c (so (c gi (c gi (cl gi nil)))) (cu (so (cu (gp 0 3) nil)) (c (so (c gi (c gi (cl gi nil)))) (c (so (c gi (c gi (c gi (cl gi nil))))) (cl (so (cl (gs v.1 Q4q58) nil)) nil)))))))) (cu (nat 7) (cu (nat 1) nil))))) : RS _)
def Z_Ao_0 := (open Rq in (st (pr (cu (app 0 3) (cu (app 1 1) (cu Q4q73 (us 8 (c (ac (slo 7 11)) (c ai (c ai (cl ab (us 19 nil))))))))) (pl (c Q4q0 (c (so (cl gb nil)) (cu (so (cu (gp 1 1) nil)) (c (so (c gi (c gi (cl gi nil)))) (cu (so (cu (gp 0 3) nil)) (c (so (c gi (c gi (cl gi nil)))) (c (so (c gi (c gi (c gi (cl gi nil))))) Q4q75))))))) (cu (nat 7) (cu (nat 1) nil))))) : RS _)
abbrev X_Ao_0 := ((Nat × Int × Int × Bool) × (Int × Int × Nat) × Bool × (Int × Int × Int) × (Int × Int × Int) × (Int × Int × Int × Int) × NI × NI × NI × NI × NI × NI × NI × NI × NI × NI × NI)
def E_Ao_0 {ρ : Type} (x : X_Ao_0) (K : AX → St → Option ρ) : Option ρ := (fun d => K (AX.ex 0) (Z_Ao_0.em (d.1, d.2.1, d.2.2.1, d.2.2.2.1, d.c4.1, d.c4.2.1, d.1.1, d.c4.2.2))) x
def S_Ao_0 (g_Bt : G_Bt) (g_Am : G_Am) (g_Ad : G_Ad) (d : QL_Ao_0.B) : Pg (QL_Ao_0.B ⊕ X_Ao_0) := let y0 := Int.toNat d.1.2.2; let y1 := decide (d.1.2.2 < d.1.2.1); cnd y1 (cnd (inR d.1.2.2 d.1.1) (cnd (nB d.2.1.2.2) (opt (g_Ad ((d.c4.2.2.1 y0, (d.c4.2.2.2.1 y0, d.c8.1 y0, d.c8.2.1 y0, d.c8.2.2.1 y0), (d.c8.2.2.2.1 y0, d.c8.c4.1 y0, d.c8.c4.2.1 y0), d.c8.c4.2.2.1 y0, d.c8.c4.2.2.2.1 y0, d.c16 y0),
 d.2.2.2.1, d.c4.1, d.c4.2.1, d.2.2.1, d.2.1, d.c4.2.2)) fun d_1 => opt (g_Bt (fun x => 0) d_1.1.1 d_1.1.2.1 d_1.1.2.2.1 d_1.1.2.2.2.1 d_1.1.c4.1 d_1.1.c4.2.1 d_1.1.c4.2.2.1 d_1.1.c4.2.2.2.1 d_1.1.c8.1 d_1.1.c8.2.1 d_1.1.c8.2.2) fun d_2 => opt (g_Am d_2 (d.c4.2.2.1 y0) d_1.2) fun d_3 => cnd (inR d.1.2.2 d.2.1.2.2) (cnd (true && Nat.ble (0 + y0 * 11 + 11) (d.1.1 * 11 + 0)) (ret (Sum.inl ((d.1.1, d.1.2.1,
 wI (d.1.2.2 + 1)), d.2.1, d_3.2, d.2.2.2.1, d.c4.1, d.c4.2.1, fun j => bif Nat.beq j y0 then d_3.1.1 else d.c4.2.2.1 j, fun j => bif Nat.beq j y0 then d_3.1.2.1 else d.c4.2.2.2.1 j, fun j => bif Nat.beq j y0 then d_3.1.2.2.1 else d.c8.1 j, fun j => bif Nat.beq j y0 then d_3.1.2.2.2.1 else d.c8.2.1 j, fun j => bif Nat.beq j y0 then d_3.1.c4.1 else d.c8.2.2.1 j, fun j => bif Nat.beq j y0 then d_3.1.c4.2.1 else d.c8.2.2.2.1 j,
 fun j => bif Nat.beq j y0 then d_3.1.c4.2.2.1 else d.c8.c4.1 j, fun j => bif Nat.beq j y0 then d_3.1.c4.2.2.2.1 else d.c8.c4.2.1 j, fun j => bif Nat.beq j y0 then d_3.1.c8.1 else d.c8.c4.2.2.1 j, fun j => bif Nat.beq j y0 then d_3.1.c8.2.1 else d.c8.c4.2.2.2.1 j, fun j => bif Nat.beq j y0 then d_3.1.c8.2.2 else d.c16 j))) no) no) no) no) (ret (Sum.inr ((d.1.1, d.1.2.1, d.1.2.2, y1), d.2)))
def L_Ao_0 : QL_Ao_0.B → Option X_Ao_0 := loopP (S_Ao_0 f_Bt f_Am f_Ad) 2000
def H_Ao (l_0 : QL_Ao_0.B → Option X_Ao_0) : Hs := ⟨[⟨1, (rg 3 8 (rg 14 20 [])), []⟩], [smQ 1 8 QL_Ao_0 E_Ao_0 l_0], [7, 1], [], (some ⟨0, (rg 0 34 []), []⟩)⟩
def B_Ao (l_0 : QL_Ao_0.B → Option X_Ao_0) (x : Q_Ao.B) : Pg D_Ao := cnd (nB x.1.2.2) (opt (l_0 ((x.1.2.2, Int.ofNat x.1.2.2, 0), x)) fun d => ret (d.2.2.1, d.1.1, d.c4.2.2)) no
def f_Ao (x : Q_Ao.B) : Option D_Ao := (B_Ao L_Ao_0 x).val
theorem dl_Ao_0 : ∀ g_Bt g_Am g_Ad l_0, LoopIs Tryz.prog [e_Bt g_Bt, e_Am g_Am, e_Ad g_Ad] (H_Ao l_0) 8 2000 133 1 QL_Ao_0 E_Ao_0 (S_Ao_0 g_Bt g_Am g_Ad) := fun _ _ _ _ _ d c K => by kernel_rfl
theorem d_Ao : ∀ g_Bt g_Am g_Ad l_0, DenIs Tryz.prog [e_Bt g_Bt, e_Am g_Am, e_Ad g_Ad] (H_Ao l_0) 2000 133 Q_Ao R_Ao fun b => B_Ao l_0 b := fun _ _ _ _ b => by kernel_rfl
theorem s_Ao [Amb] : Snd Tryz.prog (e_Ao f_Ao) := Snd.of (mkS mixed (.c s_Bt (.c s_Am (.c s_Ad (.nil _)))) (by kernel_rfl) (Sums.by (l := [loopIn Tryz.prog 133 1]) (lj := []) (by kernel_rfl) ⟨mkL (S := S_Ao_0 f_Bt f_Am f_Ad) (by kernel_rfl) (dl_Ao_0 f_Bt f_Am f_Ad L_Ao_0), trivial⟩ (by kernel_rfl) trivial) (d_Ao f_Bt f_Am f_Ad L_Ao_0)) (by kernel_rfl)

def Q_Cr := (open Rq in (pl (cl ai nil) nil) : RA _)
def RR_Cr := (open Rq in (res (pl ab (pu nil nil))) : RE _)
abbrev D_Cr := RR_Cr.B
def R_Cr (d : D_Cr) : T := (fun d => .leaf (RR_Cr.em d)) d
abbrev G_Cr := Int → Option D_Cr
def e_Cr (g : G_Cr) : Ct := (208, FC Q_Cr R_Cr (fun b => g b))
def B_Cr (x0 : Int) : Pg D_Cr := ret (x0 != x0)
def f_Cr (x0 : Int) : Option D_Cr := (B_Cr x0).val
theorem d_Cr : DenIs Tryz.prog [] ⟨[], [], [], [], none⟩ 2000 208 Q_Cr R_Cr fun b => B_Cr b := fun b => by kernel_rfl
theorem s_Cr [Amb] : Snd Tryz.prog (e_Cr f_Cr) := Snd.of (mk0 mixed (.nil _) (by kernel_rfl) d_Cr) (by kernel_rfl)

def Q_Bu := (open Rq in (pl (c ai (cl ai nil)) nil) : RA _)
def RR_Bu := (open Rq in (res (pl ai (pu nil nil))) : RE _)
abbrev D_Bu := RR_Bu.B
def R_Bu (d : D_Bu) : T := (fun d => .leaf (RR_Bu.em d)) d
abbrev G_Bu := Int → Int → Option D_Bu
def e_Bu (g : G_Bu) : Ct := (152, FC Q_Bu R_Bu (fun b => g b.1 b.2))
def B_Bu (g_Cr : G_Cr) (x0 : Int) (x1 : Int) : Pg D_Bu := opt (g_Cr x0) fun d => opt (g_Cr x1) fun d_1 => cnd d (cnd d_1 (ret 0) (ret (-1))) (cnd d_1 (ret 1) (cnd (decide (x0 < x1)) (ret (-1)) (cnd (decide (x0 > x1)) (ret 1) (ret 0))))
def f_Bu (x0 : Int) (x1 : Int) : Option D_Bu := (B_Bu f_Cr x0 x1).val
theorem d_Bu : ∀ g_Cr, DenIs Tryz.prog [e_Cr g_Cr] ⟨[], [], [], [], none⟩ 2000 152 Q_Bu R_Bu fun b => B_Bu g_Cr b.1 b.2 := fun _ b => by kernel_rfl
theorem s_Bu [Amb] : Snd Tryz.prog (e_Bu f_Bu) := Snd.of (mk0 mixed (.c s_Cr (.nil _)) (by kernel_rfl) (d_Bu f_Cr)) (by kernel_rfl)

def Q_BS := (open Rq in (dp (c (ac (slc 0 1)) (cl (ac (slc 1 1)) nil)) fun v => (c (cl (gs v.1.1 (cl kci nil)) nil) (cl (cl (gs v.2.1 (cl kci nil)) nil) nil))) : RA _)
def RR_BS := (open Rq in (res (pl ai (pu (cu chk (cu chk nil)) nil))) : RE _)
abbrev D_BS := RR_BS.B
def R_BS (d : D_BS) : T := (fun d => .leaf (RR_BS.em d)) d
abbrev G_BS := Nat → Nat → NI → NI → Bool → Bool → Option D_BS
def e_BS (g : G_BS) : Ct := (153, nilF 1 [.i .i64] (nilF 0 [.i .i64] (FC Q_BS R_BS (fun b => g b.1.1.1 b.1.2.1 b.2.1 b.2.2 b.1.1.2 b.1.2.2))))
def QL_BS_0 := (open Rq in (st (dp (c (ac (slc 0 1)) (c (ac (slc 1 1)) (us 7 (c (ac (slc 0 1)) (c ai (cl ai (us 24 nil))))))) fun v => (pl (c (so (cl (gs v.1.1 (cl kci nil)) nil)) (cl (so (cl (gs v.2.1.1 (cl kci nil)) nil)) nil)) nil))) : RS _)
def Z_slices_Compare_int64_int64_0_0 := (open Rq in (st (pr (us 4 (cl ai (us 31 nil))) (pl (c Q4q7 (cl Q4q7 nil)) nil))) : RS _)
def Z_slices_Compare_int64_int64_0_1 := (open Rq in (st (pr (c (ac (slc 0 1)) (c (ac (slc 1 1)) (us 7 (c (ac (slc 0 1)) (c ai (c ai (cl ab (us 23 nil)))))))) (pl (c Q4q7 (cl Q4q7 nil)) nil))) : RS _)
abbrev X_BS_0 := Z_slices_Compare_int64_int64_0_0.B ⊕ (((Nat × Bool) × (Nat × Bool) × (Nat × Bool) × Int × Int × Bool) × NI × NI)
def E_BS_0 {ρ : Type} (x : X_BS_0) (K : AX → St → Option ρ) : Option ρ := (Sum.elim (fun d => K AX.ret (Z_slices_Compare_int64_int64_0_0.em d)) (fun d => K (AX.ex 0) (Z_slices_Compare_int64_int64_0_1.em (d.1, (d.1.1.1, d.2.1), d.1.2.1.1, d.2.2)))) x
def S_BS_0 (g_Bu : G_Bu) (d : QL_BS_0.B) : Pg (QL_BS_0.B ⊕ X_BS_0) := let y0 := Int.toNat d.1.c4; let y1 := decide (d.1.c4 < d.1.2.2.2.1); cnd y1 (cnd (inR d.1.c4 d.1.2.2.1.1) (cnd (decide (d.1.c4 ≥ Int.ofNat d.1.2.1.1)) (ret (Sum.inr (Sum.inl (1, (d.1.1.1, d.2.1), d.1.2.1.1, d.2.2)))) (cnd (inR d.1.c4 d.1.2.1.1) (opt (g_Bu (d.2.1 y0) (d.2.2 y0)) fun d_1 => cnd (d_1 != 0) (ret (Sum.inr (Sum.inl (d_1,
 (d.1.1.1, d.2.1), d.1.2.1.1, d.2.2)))) (ret (Sum.inl ((d.1.1, d.1.2.1, d.1.2.2.1, d.1.2.2.2.1, wI (d.1.c4 + 1)), d.2)))) no)) no) (ret (Sum.inr (Sum.inr ((d.1.1, d.1.2.1, d.1.2.2.1, d.1.2.2.2.1, d.1.c4, y1), d.2))))
def L_BS_0 : QL_BS_0.B → Option X_BS_0 := loopP (S_BS_0 f_Bu) 2000
def H_BS (l_0 : QL_BS_0.B → Option X_BS_0) : Hs := ⟨[⟨2, (rg 2 7 (rg 12 24 [])), []⟩], [smQ 2 2 QL_BS_0 E_BS_0 l_0], [], [], (some ⟨0, (rg 0 4 (rg 5 31 [])), []⟩)⟩
def B_BS (l_0 : QL_BS_0.B → Option X_BS_0) (x0 : Nat) (x1 : Nat) (x2 : Nat → Int) (x3 : Nat → Int) (w0 : Bool) (w1 : Bool) : Pg D_BS := cnd (nB x0) (cnd (nB x1) (opt (l_0 (((x0, w0), (x1, w1), (x0, w0), Int.ofNat x0, 0), x2, x3)) fun x => sum x (fun d => ret d.1) fun d => cnd (decide (Int.ofNat d.1.1.1 < Int.ofNat d.1.2.1.1)) (ret (-1)) (ret 0)) no) no
def f_BS (x0 : Nat) (x1 : Nat) (x2 : Nat → Int) (x3 : Nat → Int) (w0 : Bool) (w1 : Bool) : Option D_BS := (B_BS L_BS_0 x0 x1 x2 x3 w0 w1).val
theorem dl_BS_0 : ∀ g_Bu l_0, LoopIs Tryz.prog [e_Bu g_Bu] (H_BS l_0) 2 2000 153 2 QL_BS_0 E_BS_0 (S_BS_0 g_Bu) := fun _ _ _ d c K => by kernel_rfl
theorem d_BS : ∀ g_Bu l_0, DenIs Tryz.prog [e_Bu g_Bu] (H_BS l_0) 2000 153 Q_BS R_BS fun b => B_BS l_0 b.1.1.1 b.1.2.1 b.2.1 b.2.2 b.1.1.2 b.1.2.2 := fun _ _ b => by kernel_rfl
theorem s_BS [Amb] : Snd Tryz.prog (e_BS f_BS) := Snd.of (Sound.nil 1 [.i .i64] <| Sound.nil 0 [.i .i64] <| mkS mixed (.c s_Bu (.nil _)) (by kernel_rfl) (Sums.by (l := [loopIn Tryz.prog 153 2]) (lj := []) (by kernel_rfl) ⟨mkL (S := S_BS_0 f_Bu) (by kernel_rfl) (dl_BS_0 f_Bu L_BS_0), trivial⟩ (by kernel_rfl) trivial) (d_BS f_Bu L_BS_0)) (by kernel_rfl)

def Q_Bp := (open Rq in (pl (c Q4q27 Q4q33) nil) : RA _)
def RR_Bp := (open Rq in (res (pl ai (pu nil nil))) : RE _)
abbrev D_Bp := RR_Bp.B
def R_Bp (d : D_Bp) : T := (fun d => .leaf (RR_Bp.em d)) d
abbrev G_Bp := Q_Bp.B → Option D_Bp
def e_Bp (g : G_Bp) : Ct := (86, FC Q_Bp R_Bp g)
def B_Bp (g_Bu : G_Bu) (g_BS : G_BS) (x : Q_Bp.B) : Pg D_Bp := opt (g_Bu x.1.1 x.2.1) fun d => cnd (d != 0) (ret d) (opt (g_BS 8 8 (fun j => bif Nat.beq j 7 then x.1.c8 else bif Nat.beq j 6 then x.1.c4.2.2.2.1 else bif Nat.beq j 5 then x.1.c4.2.2.1 else bif Nat.beq j 4 then x.1.c4.2.1 else bif Nat.beq j 3 then x.1.c4.1 else bif Nat.beq j 2 then x.1.2.2.2.1 else bif Nat.beq j 1 then x.1.2.2.1 else bif Nat.beq j 0 then x.1.2.1 else x.1.2.1) (fun j => bif Nat.beq j 7 then x.c8.2 else bif Nat.beq j 6 then x.c8.1 else bif Nat.beq j 5 then x.c4.2.2.2.1 else bif Nat.beq j 4 then x.c4.2.2.1 else bif Nat.beq j 3 then x.c4.2.1 else bif Nat.beq j 2 then x.c4.1 else bif Nat.beq j 1 then x.2.2.2.1 else bif Nat.beq j 0 then x.2.2.1 else x.2.2.1) false false) fun d => ret d)
def f_Bp (x : Q_Bp.B) : Option D_Bp := (B_Bp f_Bu f_BS x).val
theorem d_Bp : ∀ g_Bu g_BS, DenIs Tryz.prog [e_Bu g_Bu, e_BS g_BS] ⟨[], [], [], [], none⟩ 2000 86 Q_Bp R_Bp fun b => B_Bp g_Bu g_BS b := fun _ _ b => by kernel_rfl
theorem s_Bp [Amb] : Snd Tryz.prog (e_Bp f_Bp) := Snd.of (mk0 mixed (.c s_Bu (.c s_BS (.nil _))) (by kernel_rfl) (d_Bp f_Bu f_BS)) (by kernel_rfl)

def Q_Av := (open Rq in (dp (c (ac (slc 0 9)) (cl Q4q27 (cu (afn (pu (nat 86) nil)) nil))) fun v => (cl (cl (gs v.1.1 Q4q31) nil) nil)) : RA _)
def RR_Av := (open Rq in (res (pl (atup (c (rc ci) (cl (rc cb) nil))) (pu (cu chk nil) nil))) : RE _)
abbrev D_Av := RR_Av.B
def R_Av (d : D_Av) : T := (fun d => .leaf (RR_Av.em d)) d
abbrev G_Av := Q_Av.B → Option D_Av
def e_Av (g : G_Av) : Ct := (85, nilF 0 [.i .i64, .i .i64, .i .i64, .i .i64, .i .i64, .i .i64, .i .i64, .i .i64, .i .i64] (FC Q_Av R_Av g))
def QL_Av_0 := (open Rq in (st (dp (c (ac (slc 0 9)) (us 1 (cu (afn (pu (nat 86) nil)) (us 1 (cu (app 1 9) (us 3 (c ai (c ai (cl ai (us 29 (xs 8 (us 1 nil)))))))))))) fun v => (pl (c (so (cl (gs v.1.1 Q4q31) nil)) Q4q34) nil))) : RS _)
def Z_Av_0 := (open Rq in (st (pr (c (ac (slc 0 9)) (us 1 (cu (afn (pu (nat 86) nil)) (us 1 (cu (app 1 9) (us 3 (c ai (c ai (c ai (us 4 (c ai (c ai (cl ab (us 22 (xs 8 (us 1 nil)))))))))))))))) (pl (c Q4q67 Q4q34) nil))) : RS _)
abbrev X_Av_0 := (((Nat × Bool) × Int × Int × Int × Bool) × ty1 × Int × Int × Int × Int × Int × Int × Int × Int × Int)
def E_Av_0 {ρ : Type} (x : X_Av_0) (K : AX → St → Option ρ) : Option ρ := (fun d => K (AX.ex 0) (Z_Av_0.em ((d.1.1, d.1.2.1, d.1.2.2.1, d.1.2.2.2.1, d.1.2.2), (d.1.1.1, d.2.1), d.2.2))) x
def S_Av_0 (g_Bp : G_Bp) (d : QL_Av_0.B) : Pg (QL_Av_0.B ⊕ X_Av_0) := let y0 := wI (Int.fdiv (wU (wI (d.1.2.2.1 + d.1.2.2.2))) 2); let y1 := Int.toNat y0; let y2 := decide (d.1.2.2.1 < d.1.2.2.2); cnd y2 (cnd (inR y0 d.1.1.1) (opt (g_Bp ((d.2.1.1 y1, d.2.1.2.1 y1, d.2.1.2.2.1 y1, d.2.1.2.2.2.1 y1, d.2.1.c4.1 y1, d.2.1.c4.2.1 y1, d.2.1.c4.2.2.1 y1, d.2.1.c4.2.2.2.1 y1, d.2.1.c8 y1), d.2.2)) fun d_1 => cnd (decide (d_1 < 0)) (ret (Sum.inl ((d.1.1,
 d.1.2.1, wI (y0 + 1), d.1.2.2.2), d.2))) (ret (Sum.inl ((d.1.1, d.1.2.1, d.1.2.2.1, y0), d.2)))) no) (ret (Sum.inr ((d.1.1, d.1.2.1, d.1.2.2.1, d.1.2.2.2, y2), d.2)))
def L_Av_0 : QL_Av_0.B → Option X_Av_0 := loopP (S_Av_0 f_Bp) 2000
def H_Av (l_0 : QL_Av_0.B → Option X_Av_0) : Hs := ⟨[⟨3, (1 :: 3 :: 5 :: 6 :: 7 :: rg 11 29 [48]), []⟩], [smQ 3 1 QL_Av_0 E_Av_0 l_0], [], [], (some ⟨0, (rg 0 6 (rg 8 41 [])), []⟩)⟩
def B_Av (g_Bp : G_Bp) (l_0 : QL_Av_0.B → Option X_Av_0) (x : Q_Av.B) : Pg D_Av := let y0 := Int.ofNat x.1.1.1; cnd (nB x.1.1.1) (opt (l_0 ((x.1.1, y0, 0, y0), x.2, x.1.2)) fun d => let y0 := Int.toNat d.1.2.2.1; cnd (decide (d.1.2.2.1 < d.1.2.1)) (cnd (inR d.1.2.2.1 d.1.1.1) (opt (g_Bp ((d.2.1.1 y0, d.2.1.2.1 y0, d.2.1.2.2.1 y0, d.2.1.2.2.2.1 y0, d.2.1.c4.1 y0, d.2.1.c4.2.1 y0, d.2.1.c4.2.2.1 y0,
 d.2.1.c4.2.2.2.1 y0, d.2.1.c8 y0), d.2.2)) fun d_1 => ret (d.1.2.2.1, d_1 == 0)) no) (ret (d.1.2.2.1, false))) no
def f_Av (x : Q_Av.B) : Option D_Av := (B_Av f_Bp L_Av_0 x).val
theorem dl_Av_0 : ∀ g_Bp l_0, LoopIs Tryz.prog [e_Bp g_Bp] (H_Av l_0) 1 2000 85 3 QL_Av_0 E_Av_0 (S_Av_0 g_Bp) := fun _ _ _ d c K => by kernel_rfl
theorem d_Av : ∀ g_Bp l_0, DenIs Tryz.prog [e_Bp g_Bp] (H_Av l_0) 2000 85 Q_Av R_Av fun b => B_Av g_Bp l_0 b := fun _ _ b => by kernel_rfl
theorem s_Av [Amb] : Snd Tryz.prog (e_Av f_Av) := Snd.of (Sound.nil 0 [.i .i64, .i .i64, .i .i64, .i .i64, .i .i64, .i .i64, .i .i64, .i .i64, .i .i64] <| mkS mixed (.c s_Bp (.nil _)) (by kernel_rfl) (Sums.by (l := [loopIn Tryz.prog 85 3]) (lj := []) (by kernel_rfl) ⟨mkL (S := S_Av_0 f_Bp) (by kernel_rfl) (dl_Av_0 f_Bp L_Av_0), trivial⟩ (by kernel_rfl) trivial) (d_Av f_Bp L_Av_0)) (by kernel_rfl)

def Q_CR := (open Rq in (pr (cu (app 0 8) Q4q33) (cd Q4q36 fun b0 => (cl (cl (gs b0.2.2.1 Q4q31) nil) nil))) : RA _)
def RR_CR_0 := (open Rq in (res (pu (ac (cf (fb (bool false)))) (pl (cl (chs Q4q36) (cu chk nil)) nil))) : RE _)
def RR_CR_1 := (open Rq in (res (pr ab (pr (cl (chs (a 5 (c gi (c gi (c gi (c gi (cl gi nil))))) (c gi (c (gc (slo 2 9)) (cl gi nil))))) (cu chx nil)) Q4q70))) : RE _)
abbrev D_CR := RR_CR_0.B ⊕ (Bool × ty0 × NI × NI × NI × NI × NI × NI × NI × NI × NI)
def R_CR (d : D_CR) : T := (fun x => T.sum x (fun d => .leaf (RR_CR_0.em d)) (fun d => .leaf (RR_CR_1.em (d.1, d.2.1, d.2.1.2.2.1, d.2.2)))) d
abbrev G_CR := Q_CR.B → Option D_CR
def e_CR (g : G_CR) : Ct := (43, FC Q_CR R_CR g)
def B_CR (g_Av : G_Av) (g_Dg : G_Dg) (g_CS : G_CS) (x : Q_CR.B) : Pg D_CR := let y0 := wI (x.2.1.1.1 + 1); let y1 := nB x.2.1.2.2.1; cnd (decide (x.1.1 ≤ x.2.1.2.2.2)) (ret (Sum.inl ((y0, wI (x.2.1.1.2.1 + 1), x.2.1.1.2.2), x.2.1.2))) (cnd y1 (opt (g_Av (((x.2.1.2.2.1, true), x.1), x.2.2)) fun d => cnd y1 (opt (g_Dg x.2.1.2.2.1 d.1 x.2.2.1 x.2.2.2.1 x.c4.1 x.c4.2.1 x.c4.2.2.1 x.c4.2.2.2.1 x.c8.1 x.c8.2.1 x.c8.2.2 (fun j => bif Nat.beq j 0 then x.1.1 else x.1.1) (fun j => bif Nat.beq j 0 then x.1.2.1 else x.1.2.1) (fun j => bif Nat.beq j 0 then x.1.2.2.1 else x.1.2.2.1) (fun j => bif Nat.beq j 0 then x.1.2.2.2.1 else x.1.2.2.2.1) (fun j => bif Nat.beq j 0 then x.1.c4.1 else x.1.c4.1) (fun j => bif Nat.beq j 0 then x.1.c4.2.1 else x.1.c4.2.1) (fun j => bif Nat.beq j 0 then x.1.c4.2.2.1 else x.1.c4.2.2.1) (fun j => bif Nat.beq j 0 then x.1.c4.2.2.2.1 else x.1.c4.2.2.2.1) (fun j => bif Nat.beq j 0 then x.1.c8 else x.1.c8) 1 true true) fun d => cnd (decide (Int.ofNat d.1 ≤ x.2.1.2.1)) (ret (Sum.inr (true,
 ((y0, x.2.1.1.2), x.2.1.2.1, d.1, x.2.1.2.2.2), d.2))) (cnd (inR 0 d.1) (cnd (nB d.1) (opt (g_CS d.1 0 1 d.2.1 d.2.2.1 d.2.2.2.1 d.c4.1 d.c4.2.1 d.c4.2.2.1 d.c4.2.2.2.1 d.c8.1 d.c8.2 true) fun d_1 => ret (Sum.inr (!(d.2.1 0 == x.1.1 && (d.2.2.1 0 == x.1.2.1 && (d.2.2.2.1 0 == x.1.2.2.1 && (d.c4.1 0 == x.1.2.2.2.1 && (d.c4.2.1 0 == x.1.c4.1 && (d.c4.2.2.1 0 == x.1.c4.2.1 && (d.c4.2.2.2.1 0 == x.1.c4.2.2.1 && (d.c8.1 0 == x.1.c4.2.2.2.1 && (d.c8.2 0 == x.1.c8 && true))))))) && true)),
 ((y0, x.2.1.1.2.1, wI (x.2.1.1.2.2.1 + 1), x.2.1.1.2.2.2), x.2.1.2.1, d_1.1, x.2.1.2.2.2), d_1.2))) no) no)) no) no)
def f_CR (x : Q_CR.B) : Option D_CR := (B_CR f_Av f_Dg f_CS x).val
theorem d_CR : ∀ g_Av g_Bp g_Dg g_CS, DenIs Tryz.prog [e_Av g_Av, e_Bp g_Bp, e_Dg g_Dg, e_CS g_CS] ⟨[], [], [], [], none⟩ 2000 43 Q_CR R_CR fun b => B_CR g_Av g_Dg g_CS b := fun _ _ _ _ b => by kernel_rfl
theorem s_CR [Amb] : Snd Tryz.prog (e_CR f_CR) := Snd.of (mk0 mixed (.c s_Av (.c s_Bp (.c s_Dg (.c s_CS (.nil _))))) (by kernel_rfl) (d_CR f_Av f_Bp f_Dg f_CS)) (by kernel_rfl)

def Q_AR := (open Rq in (pr (cu (app 0 8) (cl ai nil)) (cd Q4q36 fun b0 => (cl (cl (gs b0.2.2.1 Q4q31) nil) nil))) : RA _)
def RR_AR := (open Rq in (res (pr (ac (slo 2 9)) (pr (cl (chs (a 5 (c gi (c gi (c gi (c gi (cl gi nil))))) (c gi (c (gc (slo 3 9)) (cl gi nil))))) (cu chx nil)) (c Q4q64 Q4q70)))) : RE _)
abbrev D_AR := (Nat × ty0 × ty1 × NI × NI × NI × NI × NI × NI × NI × NI × NI)
def R_AR (d : D_AR) : T := (fun d => .leaf (RR_AR.em (d.1, d.2.1, (d.1, d.2.2.1), d.2.1.2.2.1, d.2.2.2))) d
abbrev G_AR := Q_AR.B → Option D_AR
def e_AR (g : G_AR) : Ct := (68, FC Q_AR R_AR g)
def QL_AR_0 := (open Rq in (st (pr (cu (app 0 8) (c ai (us 3 (cl ai (us 58 nil))))) (pl (cd Q4q49 fun b0 => (cl (so (cl (gs b0.2.2.1 Q4q31) nil)) nil)) nil))) : RS _)
def Z_ring_Buffer_Pop_0_0 := (open Rq in (st (pr (cu (app 0 8) (c ai (us 3 (c ai (us 1 (c ai (cu (app 0 8) (cu (app 0 8) (cu Q4q14 (c (ac (slo 1 9)) (c ai (c ab (cu (ac (cf (fb (bool true)))) (cu (app 0 8) (cu (app 0 8) (cu Q4q14 (c (ac (slo 1 9)) (c ai (c (ac (cptr (pu (nat 1) (pl (ox (pu (nat 0) (pl hole (nat 9)))) (nat 9))))) (c (ac (cptr (pu (nat 1) (pl (ox (pu (nat 0) (pl hole (nat 9)))) (nat 1))))) (c ai (c ai (c ab (cl ab (us 38 nil))))))))))))))))))))))))) (pl (c Q4q49 (cl Q4q67 nil)) nil))) : RS _)
def Z_ring_Buffer_Pop_0_1 := (open Rq in (st (pr (cu (app 0 8) (c ai (us 3 (c ai (us 1 (c ai (cu (app 0 8) (cu (app 0 8) (cu Q4q14 (c (ac (slo 1 9)) (c ai (cl ab (cu (ac (cf (fb (bool false)))) (xs 10 (cu (ac (cf (fb (bool false)))) (us 38 nil)))))))))))))))) (pl (c Q4q49 (cl Q4q67 nil)) nil))) : RS _)
abbrev X_AR_0 := ((Int × Int × Nat × Int × Bool × Nat × Int × Bool) × (ty13 × Int × Int) × NI × NI × NI × NI × NI × NI × NI × NI × NI) ⊕ ((Int × Int × Nat × Int × Bool) × (ty13 × Int × Int) × NI × NI × NI × NI × NI × NI × NI × NI × NI)
def E_AR_0 {ρ : Type} (x : X_AR_0) (K : AX → St → Option ρ) : Option ρ := (Sum.elim (fun d => K (AX.ex 0) (Z_ring_Buffer_Pop_0_0.em ((d.1.1, d.1.2.1, d.1.2.1, d.1.2.2.1, d.1.2.2.2.1, d.1.c4.1, d.1.2.2.1, d.1.2.1, d.1.c4.2.1, d.1.c4.2.1, d.1.c4.2.2.1, d.1.1, d.1.c4.2.2.2, d.1.c4.2.2.2), (d.2.1.1, d.2.1.2.1, d.1.2.2.1, d.2.1.2.2), d.1.2.2.1, d.2.2))) (fun d => K (AX.ex 0) (Z_ring_Buffer_Pop_0_1.em ((d.1.1, d.1.2.1, d.1.2), (d.2.1.1, d.2.1.2.1, d.1.2.2.1, d.2.1.2.2), d.1.2.2.1, d.2.2)))) x
def S_AR_0 (d : QL_AR_0.B) : Pg (QL_AR_0.B ⊕ X_AR_0) := let y0 := Int.toNat d.1.2; let y1 := Int.ofNat d.2.1.2.2.1; let y2 := decide (d.1.2 < y1); let y3 := decide (d.2.2.1 y0 ≤ d.1.1); cnd y2 (cnd (inR d.1.2 d.2.1.2.2.1) (cnd y3 (ret (Sum.inl ((d.1.1, wI (d.1.2 + 1)), d.2))) (ret (Sum.inr (Sum.inl ((d.1.1, d.1.2, d.2.1.2.2.1, y1, y2, y0, d.2.2.1 y0, y3), (d.2.1.1, d.2.1.2.1, d.2.1.2.2.2), d.2.2))))) no) (ret (Sum.inr (Sum.inr ((d.1.1,
 d.1.2, d.2.1.2.2.1, y1, y2), (d.2.1.1, d.2.1.2.1, d.2.1.2.2.2), d.2.2))))
def L_AR_0 : QL_AR_0.B → Option X_AR_0 := loopP (S_AR_0) 2000
def H_AR (l_0 : QL_AR_0.B → Option X_AR_0) : Hs := ⟨[⟨2, [2, 3, 4, 6, 7, 8, 9, 10, 11, 12, 13, 14, 25, 26, 27, 28, 29, 30, 31, 32, 33, 34, 35, 36, 37, 38, 39, 40, 41, 42, 43, 44, 45, 46, 47, 48, 49, 50, 51, 52, 53, 54, 55, 56, 57, 58, 59, 60, 61, 62, 63, 15, 16, 17, 18, 19, 20, 21, 22, 23, 24], []⟩], [smQ 2 2 QL_AR_0 E_AR_0 l_0], [], [], (some ⟨0, (rg 0 4 (rg 5 59 [])), []⟩)⟩
def B_AR (g_DV : G_DV) (g_CS : G_CS) (l_0 : QL_AR_0.B → Option X_AR_0) (x : Q_AR.B) : Pg D_AR := cnd (nB x.2.1.2.2.1) (opt (l_0 ((x.1, 0), x.2)) fun x => sum x (fun d => let y0 := Int.toNat d.1.2.1; cnd (inRe d.1.2.1 d.1.2.2.1) (cnd (nB y0) (opt (g_DV y0 d.2.2.1 d.2.2.2.1 d.c4.1 d.c4.2.1 d.c4.2.2.1 d.c4.2.2.2.1 d.c8.1 d.c8.2.1 d.c8.2.2 false) fun d_1 => cnd (nB d.1.2.2.1) (opt (g_CS d.1.2.2.1 0 d.1.2.1 d.2.2.1 d.2.2.2.1 d.c4.1 d.c4.2.1 d.c4.2.2.1 d.c4.2.2.2.1 d.c8.1 d.c8.2.1 d.c8.2.2 true) fun d_2 => ret (d_1.1,
 ((d.2.1.1.1, d.2.1.1.2.1, d.2.1.1.2.2.1, d.2.1.1.2.2.2.1, wI (d.2.1.1.c4 + d.1.2.1)), d.2.1.2.1, d_2.1, if d.1.1 > d.2.1.2.2 then d.1.1 else d.2.1.2.2), d_1.2, d_2.2)) no) no) no) fun d => let y0 := Int.toNat d.1.2.1; cnd (inRe d.1.2.1 d.1.2.2.1) (cnd (nB y0) (opt (g_DV y0 d.2.2.1 d.2.2.2.1 d.c4.1 d.c4.2.1 d.c4.2.2.1 d.c4.2.2.2.1 d.c8.1 d.c8.2.1 d.c8.2.2 false) fun d_1 => cnd (nB d.1.2.2.1) (opt (g_CS d.1.2.2.1 0 d.1.2.1 d.2.2.1 d.2.2.2.1 d.c4.1 d.c4.2.1 d.c4.2.2.1 d.c4.2.2.2.1 d.c8.1 d.c8.2.1 d.c8.2.2 true) fun d_2 => ret (d_1.1,
 ((d.2.1.1.1, d.2.1.1.2.1, d.2.1.1.2.2.1, d.2.1.1.2.2.2.1, wI (d.2.1.1.c4 + d.1.2.1)), d.2.1.2.1, d_2.1, if d.1.1 > d.2.1.2.2 then d.1.1 else d.2.1.2.2), d_1.2, d_2.2)) no) no) no) no
def f_AR (x : Q_AR.B) : Option D_AR := (B_AR f_DV f_CS L_AR_0 x).val
theorem dl_AR_0 : ∀ g_DV g_CS l_0, LoopIs Tryz.prog [e_DV g_DV, e_CS g_CS] (H_AR l_0) 2 2000 68 2 QL_AR_0 E_AR_0 (S_AR_0) := fun _ _ _ _ d c K => by kernel_rfl
theorem d_AR : ∀ g_DV g_CS l_0, DenIs Tryz.prog [e_DV g_DV, e_CS g_CS] (H_AR l_0) 2000 68 Q_AR R_AR fun b => B_AR g_DV g_CS l_0 b := fun _ _ _ b => by kernel_rfl
theorem s_AR [Amb] : Snd Tryz.prog (e_AR f_AR) := Snd.of (mkS mixed (.c s_DV (.c s_CS (.nil _))) (by kernel_rfl) (Sums.by (l := [loopIn Tryz.prog 68 2]) (lj := []) (by kernel_rfl) ⟨mkL (S := S_AR_0) (by kernel_rfl) (dl_AR_0 f_DV f_CS L_AR_0), trivial⟩ (by kernel_rfl) trivial) (d_AR f_DV f_CS L_AR_0)) (by kernel_rfl)

def Q_Bm := (open Rq in (pl (cl ai nil) nil) : RA _)
def RR_Bm := (open Rq in (res (pl ab (pu nil nil))) : RE _)
abbrev D_Bm := RR_Bm.B
def R_Bm (d : D_Bm) : T := (fun d => .leaf (RR_Bm.em d)) d
abbrev G_Bm := Int → Option D_Bm
def e_Bm (g : G_Bm) : Ct := (39, FC Q_Bm R_Bm (fun b => g b))
def B_Bm (x0 : Int) : Pg D_Bm := cnd (decide (x0 ≥ 0)) (ret (decide (x0 < 6))) (ret false)
def f_Bm (x0 : Int) : Option D_Bm := (B_Bm x0).val
theorem d_Bm : DenIs Tryz.prog [] ⟨[], [], [], [], none⟩ 2000 39 Q_Bm R_Bm fun b => B_Bm b := fun b => by kernel_rfl
theorem s_Bm [Amb] : Snd Tryz.prog (e_Bm f_Bm) := Snd.of (mk0 mixed (.nil _) (by kernel_rfl) d_Bm) (by kernel_rfl)

def Q_DW := (open Rq in (pl Q4q50 nil) : RA _)
def RR_DW := (open Rq in (res (pl ab (pu nil nil))) : RE _)
abbrev D_DW := RR_DW.B
def R_DW (d : D_DW) : T := (fun d => .leaf (RR_DW.em d)) d
abbrev G_DW := Int → Int → Int → Int → Int → Int → Int → Int → Int → Int → Option D_DW
def e_DW (g : G_DW) : Ct := (41, FC Q_DW R_DW (fun b => g b.1 b.2.1 b.2.2.1 b.2.2.2.1 b.c4.1 b.c4.2.1 b.c4.2.2.1 b.c4.2.2.2.1 b.c8.1 b.c8.2))
def B_DW (g_DH : G_DH) (g_DJ : G_DJ) (g_DK : G_DK) (g_DM : G_DM) (g_DO : G_DO) (g_DQ : G_DQ) (x0 : Int) (x1 : Int) (x2 : Int) (x3 : Int) (x4 : Int) (x5 : Int) (x6 : Int) (x7 : Int) (x8 : Int) (x9 : Int) : Pg D_DW := cnd (x0 == 0) (opt (g_DH x1 x2 x3 x4 x5 x6 x7 x8 x9 false) fun d => ret (d.1.2 == 0)) (cnd (x0 == 1) (opt (g_DJ x1 x2 x3 x4 x5 x6 x7 x8 x9 false) fun d => ret (d.1.2 == 0)) (cnd (x0 == 2) (opt (g_DK x1 x2 x3 x4 x5 x6 x7 x8 x9 false) fun d => ret (d.1.2 == 0)) (cnd (x0 == 3) (opt (g_DM x1 x2 x3 x4 x5 x6 x7 x8 x9 false) fun d => ret (d.1.2 == 0)) (cnd (x0 == 4) (opt (g_DO x1 x2 x3 x4 x5 x6 x7 x8 x9 false) fun d => ret (d.1.2 == 0)) (cnd (x0 == 5) (opt (g_DQ x1 x2 x3 x4 x5 x6 x7 x8 x9 false) fun d => ret (d.1.2 == 0)) (ret true))))))
def f_DW (x0 : Int) (x1 : Int) (x2 : Int) (x3 : Int) (x4 : Int) (x5 : Int) (x6 : Int) (x7 : Int) (x8 : Int) (x9 : Int) : Option D_DW := (B_DW f_DH f_DJ f_DK f_DM f_DO f_DQ x0 x1 x2 x3 x4 x5 x6 x7 x8 x9).val
theorem d_DW : ∀ g_DH g_DJ g_DK g_DM g_DO g_DQ, DenIs Tryz.prog [e_DH g_DH, e_DJ g_DJ, e_DK g_DK, e_DM g_DM, e_DO g_DO, e_DQ g_DQ] ⟨[], [], [], [], none⟩ 2000 41 Q_DW R_DW fun b => B_DW g_DH g_DJ g_DK g_DM g_DO g_DQ b.1 b.2.1 b.2.2.1 b.2.2.2.1 b.c4.1 b.c4.2.1 b.c4.2.2.1 b.c4.2.2.2.1 b.c8.1 b.c8.2 := fun _ _ _ _ _ _ b => by kernel_rfl
theorem s_DW [Amb] : Snd Tryz.prog (e_DW f_DW) := Snd.of (mk0 mixed (.c s_DH (.c s_DJ (.c s_DK (.c s_DM (.c s_DO (.c s_DQ (.nil _))))))) (by kernel_rfl) (d_DW f_DH f_DJ f_DK f_DM f_DO f_DQ)) (by kernel_rfl)

def Q_Bw := (open Rq in (pr (cu (app 0 434) Q4q50) (cd Q4q89 fun b0 => (c Q4q11 (c Q4q61 (c (cl (gs b0.c4.1 Q4q24) nil) (cd Q4q44 fun b4 => (cd Q4q38 fun b5 => (cd Q4q39 fun b6 => (cd Q4q40 fun b7 => (cd Q4q41 fun b8 => (cd Q4q42 fun b9 => (c Q4q29 (cd (c gi (c gi (cl (gc (slo 19 11)) nil))) fun b11 => (c (cl (gs b0.c16 Q4q37) nil) (c (cl (gs b4.2.2.1 Q4q31) nil) (c (cl (gs b5.2.2.1 Q4q31) nil) (c (cl (gs b6.2.2.1 Q4q31) nil) (c (cl (gs b7.2.2.1 Q4q31) nil) (c (cl (gs b8.2.2.1 Q4q31) nil) (c (cl (gs b9.2.2.1 Q4q31) nil) (cl (cl (gs b11.2.2 Q4q58) nil) nil))))))))))))))))))))) : RA _)
def RR_Bw_0 := (open Rq in (res (pu (ac (cf (fb (bool false)))) (pl (cu chk (cu chk (cu chk (cu chk (c Q4q51 (c Q4q52 (c Q4q53 (c Q4q54 (c Q4q55 (cl Q4q56 Q4q59)))))))))) nil))) : RE _)
def RR_Bw_1 := (open Rq in (res (pr ab (pr (cu chk (cu chk (cu chk (cu chk (c Q4q51 (c Q4q52 (c Q4q53 (c Q4q54 (c Q4q55 (cl Q4q57 (cu chk (cu chk (cu chk (cu chk (cu chk (cu chk (cu chk (cu chk (cu chx (cu chk nil)))))))))))))))))))) Q4q70))) : RE _)
def RR_Bw_2 := (open Rq in (res (pr ab (pr (cu chk (cu chk (cu chk (cu chk (c Q4q51 (c Q4q52 (c Q4q53 (c Q4q54 (c Q4q57 (cl Q4q56 (cu chk (cu chk (cu chk (cu chk (cu chk (cu chk (cu chk (cu chx (cu chk (cu chk nil)))))))))))))))))))) Q4q70))) : RE _)
def RR_Bw_3 := (open Rq in (res (pr ab (pr (cu chk (cu chk (cu chk (cu chk (c Q4q51 (c Q4q52 (c Q4q53 (c Q4q57 (c Q4q55 (cl Q4q56 (cu chk (cu chk (cu chk (cu chk (cu chk (cu chk (cu chx (cu chk (cu chk (cu chk nil)))))))))))))))))))) Q4q70))) : RE _)
def RR_Bw_4 := (open Rq in (res (pr ab (pr (cu chk (cu chk (cu chk (cu chk (c Q4q51 (c Q4q52 (c Q4q57 (c Q4q54 (c Q4q55 (cl Q4q56 (cu chk (cu chk (cu chk (cu chk (cu chk (cu chx (cu chk (cu chk (cu chk (cu chk nil)))))))))))))))))))) Q4q70))) : RE _)
def RR_Bw_5 := (open Rq in (res (pr ab (pr (cu chk (cu chk (cu chk (cu chk (c Q4q51 (c Q4q57 (c Q4q53 (c Q4q54 (c Q4q55 (cl Q4q56 (cu chk (cu chk (cu chk (cu chk (cu chx Q4q8))))))))))))))) Q4q70))) : RE _)
def RR_Bw_6 := (open Rq in (res (pr ab (pr (cu chk (cu chk (cu chk (cu chk (c Q4q57 (c Q4q52 (c Q4q53 (c Q4q54 (c Q4q55 (cl Q4q56 (cu chk (cu chk (cu chk (cu chx Q4q18)))))))))))))) Q4q70))) : RE _)
abbrev D_Bw := RR_Bw_0.B ⊕ ((Bool × (ty0 × ty0 × ty0 × ty0 × ty0 × ty13 × Int × Nat × Int) × NI × NI × NI × NI × NI × NI × NI × NI × NI) ⊕ ((Bool × (ty0 × ty0 × ty0 × ty0 × ty0 × ty13 × Int × Nat × Int) × NI × NI × NI × NI × NI × NI × NI × NI × NI) ⊕ ((Bool × (ty0 × ty0 × ty0 × ty0 × ty0 × ty13 × Int × Nat × Int) × NI × NI × NI × NI × NI × NI × NI × NI × NI) ⊕ ((Bool × (ty0 × ty0 × ty0 × ty0 × ty0 ×
 ty13 × Int × Nat × Int) × NI × NI × NI × NI × NI × NI × NI × NI × NI) ⊕ ((Bool × (ty0 × ty0 × ty0 × ty0 × ty0 × ty13 × Int × Nat × Int) × NI × NI × NI × NI × NI × NI × NI × NI × NI) ⊕ (Bool × (ty0 × ty0 × ty0 × ty0 × ty0 × ty13 × Int × Nat × Int) × NI × NI × NI × NI × NI × NI × NI × NI × NI))))))
def R_Bw (d : D_Bw) : T := (fun x => T.sum x (fun d => .leaf (RR_Bw_0.em d)) (fun x => T.sum x (fun d => .leaf (RR_Bw_1.em (d.1, d.2.1, d.2.1.c4.2.2.2.1, d.2.2))) (fun x => T.sum x (fun d => .leaf (RR_Bw_2.em (d.1, d.2.1, d.2.1.c4.1.2.2.1, d.2.2))) (fun x => T.sum x (fun d => .leaf (RR_Bw_3.em (d.1, d.2.1, d.2.1.2.2.2.1.2.2.1, d.2.2))) (fun x => T.sum x (fun d => .leaf (RR_Bw_4.em (d.1, d.2.1, d.2.1.2.2.1.2.2.1,
 d.2.2))) (fun x => T.sum x (fun d => .leaf (RR_Bw_5.em (d.1, d.2.1, d.2.1.2.1.2.2.1, d.2.2))) (fun d => .leaf (RR_Bw_6.em (d.1, d.2.1, d.2.1.1.2.2.1, d.2.2))))))))) d
abbrev G_Bw := Q_Bw.B → Option D_Bw
def e_Bw (g : G_Bw) : Ct := (16, FC Q_Bw R_Bw g)
def B_Bw (g_Bm : G_Bm) (g_BM : G_BM) (g_DW : G_DW) (g_Bz : G_Bz) (g_CR : G_CR) (x : Q_Bw.B) : Pg D_Bw := let n2 := (g_Bz (x.c8.2.1, x.c16.2.2.1)); let n1 := (g_Bz (x.c8.2.2.1, x.c16.2.2.2.1)); let y0 := inR x.1.1 6; let y1 := x.1.1 == 5; let y2 := x.1.1 == 1; let y3 := x.1.1 == 2; let y4 := x.1.1 == 3; let y5 := x.1.1 == 4; let y6 := nB x.c4.2.1.2.2.1; let y7 := nB x.c4.2.2.1.2.2.1; let y8 := nB x.c4.2.2.2.1.2.2.1; let y9 := nB x.c8.1.2.2.1; let y10 := nB x.c8.2.1.2.2.1; let y11 := nB x.c8.2.2.1.2.2.1; opt (g_Bm x.1.1) fun d => cnd (!d) (ret (Sum.inl (x.c4.2.1,
 x.c4.2.2.1, x.c4.2.2.2.1, x.c8.1, x.c8.2.1, x.c8.2.2.1))) (opt (g_BM x.1.2.1 0 1125899906842624) fun d => cnd (!d) (cnd y0 (cnd y1 (cnd y11 (opt n1 fun d => ret (Sum.inl (x.c4.2.1, x.c4.2.2.1, x.c4.2.2.2.1, x.c8.1, x.c8.2.1, d))) no) (cnd y5 (cnd y10 (opt n2 fun d => ret (Sum.inl (x.c4.2.1, x.c4.2.2.1, x.c4.2.2.2.1, x.c8.1, d, x.c8.2.2.1))) no) (cnd y4 (cnd y9 (opt (g_Bz (x.c8.1, x.c16.2.1)) fun d => ret (Sum.inl (x.c4.2.1,
 x.c4.2.2.1, x.c4.2.2.2.1, d, x.c8.2.1, x.c8.2.2.1))) no) (cnd y3 (cnd y8 (opt (g_Bz (x.c4.2.2.2.1, x.c16.1)) fun d => ret (Sum.inl (x.c4.2.1, x.c4.2.2.1, d, x.c8.1, x.c8.2.1, x.c8.2.2.1))) no) (cnd y2 (cnd y7 (opt (g_Bz (x.c4.2.2.1, x.c8.c4.2.2.2.1)) fun d => ret (Sum.inl (x.c4.2.1, d, x.c4.2.2.2.1, x.c8.1, x.c8.2.1, x.c8.2.2.1))) no) (cnd y6 (opt (g_Bz (x.c4.2.1, x.c8.c4.2.2.1)) fun d => ret (Sum.inl (d,
 x.c4.2.2.1, x.c4.2.2.2.1, x.c8.1, x.c8.2.1, x.c8.2.2.1))) no)))))) no) (opt (g_DW x.1.1 x.1.2.1 x.1.2.2.1 x.1.2.2.2.1 x.1.c4.1 x.1.c4.2.1 x.1.c4.2.2.1 x.1.c4.2.2.2.1 x.1.c8.1 x.1.c8.2) fun d => cnd (!d) (cnd y0 (cnd y1 (cnd y11 (opt n1 fun d => ret (Sum.inl (x.c4.2.1, x.c4.2.2.1, x.c4.2.2.2.1, x.c8.1, x.c8.2.1, d))) no) (cnd y5 (cnd y10 (opt n2 fun d => ret (Sum.inl (x.c4.2.1, x.c4.2.2.1, x.c4.2.2.2.1,
 x.c8.1, d, x.c8.2.2.1))) no) (cnd y4 (cnd y9 (opt (g_Bz (x.c8.1, x.c16.2.1)) fun d => ret (Sum.inl (x.c4.2.1, x.c4.2.2.1, x.c4.2.2.2.1, d, x.c8.2.1, x.c8.2.2.1))) no) (cnd y3 (cnd y8 (opt (g_Bz (x.c4.2.2.2.1, x.c16.1)) fun d => ret (Sum.inl (x.c4.2.1, x.c4.2.2.1, d, x.c8.1, x.c8.2.1, x.c8.2.2.1))) no) (cnd y2 (cnd y7 (opt (g_Bz (x.c4.2.2.1, x.c8.c4.2.2.2.1)) fun d => ret (Sum.inl (x.c4.2.1, d, x.c4.2.2.2.1,
 x.c8.1, x.c8.2.1, x.c8.2.2.1))) no) (cnd y6 (opt (g_Bz (x.c4.2.1, x.c8.c4.2.2.1)) fun d => ret (Sum.inl (d, x.c4.2.2.1, x.c4.2.2.2.1, x.c8.1, x.c8.2.1, x.c8.2.2.1))) no)))))) no) (cnd y0 (cnd y1 (cnd y11 (opt (g_CR (x.1.2, x.c8.2.2.1, x.c16.2.2.2.1)) fun d => sm d (fun d => ret (Sum.inl (x.c4.2.1, x.c4.2.2.1, x.c4.2.2.2.1, x.c8.1, x.c8.2.1, d))) (fun d => ret (Sum.inr (Sum.inl (d.1, (x.c4.2.1, x.c4.2.2.1,
 x.c4.2.2.2.1, x.c8.1, x.c8.2.1, d.2.1), d.2.2))))) no) (cnd y5 (cnd y10 (opt (g_CR (x.1.2, x.c8.2.1, x.c16.2.2.1)) fun d => sm d (fun d => ret (Sum.inl (x.c4.2.1, x.c4.2.2.1, x.c4.2.2.2.1, x.c8.1, d, x.c8.2.2.1))) (fun d => ret (Sum.inr (Sum.inr (Sum.inl (d.1, (x.c4.2.1, x.c4.2.2.1, x.c4.2.2.2.1, x.c8.1, d.2.1, x.c8.2.2.1), d.2.2)))))) no) (cnd y4 (cnd y9 (opt (g_CR (x.1.2, x.c8.1, x.c16.2.1)) fun d => sm d (fun d => ret (Sum.inl (x.c4.2.1,
 x.c4.2.2.1, x.c4.2.2.2.1, d, x.c8.2.1, x.c8.2.2.1))) (fun d => ret (Sum.inr (Sum.inr (Sum.inr (Sum.inl (d.1, (x.c4.2.1, x.c4.2.2.1, x.c4.2.2.2.1, d.2.1, x.c8.2.1, x.c8.2.2.1), d.2.2))))))) no) (cnd y3 (cnd y8 (opt (g_CR (x.1.2, x.c4.2.2.2.1, x.c16.1)) fun d => sm d (fun d => ret (Sum.inl (x.c4.2.1, x.c4.2.2.1, d, x.c8.1, x.c8.2.1, x.c8.2.2.1))) (fun d => ret (Sum.inr (Sum.inr (Sum.inr (Sum.inr (Sum.inl (d.1,
 (x.c4.2.1, x.c4.2.2.1, d.2.1, x.c8.1, x.c8.2.1, x.c8.2.2.1), d.2.2)))))))) no) (cnd y2 (cnd y7 (opt (g_CR (x.1.2, x.c4.2.2.1, x.c8.c4.2.2.2.1)) fun d => sm d (fun d => ret (Sum.inl (x.c4.2.1, d, x.c4.2.2.2.1, x.c8.1, x.c8.2.1, x.c8.2.2.1))) (fun d => ret (Sum.inr (Sum.inr (Sum.inr (Sum.inr (Sum.inr (Sum.inl (d.1, (x.c4.2.1, d.2.1, x.c4.2.2.2.1, x.c8.1, x.c8.2.1, x.c8.2.2.1), d.2.2))))))))) no) (cnd y6 (opt (g_CR (x.1.2,
 x.c4.2.1, x.c8.c4.2.2.1)) fun d => sm d (fun d => ret (Sum.inl (d, x.c4.2.2.1, x.c4.2.2.2.1, x.c8.1, x.c8.2.1, x.c8.2.2.1))) (fun d => ret (Sum.inr (Sum.inr (Sum.inr (Sum.inr (Sum.inr (Sum.inr (d.1, (d.2.1, x.c4.2.2.1, x.c4.2.2.2.1, x.c8.1, x.c8.2.1, x.c8.2.2.1), d.2.2))))))))) no)))))) no)))
def f_Bw (x : Q_Bw.B) : Option D_Bw := (B_Bw f_Bm f_BM f_DW f_Bz f_CR x).val
theorem d_Bw : ∀ g_Bm g_BM g_DW g_Bz g_CR, DenIs Tryz.prog [e_Bm g_Bm, e_BM g_BM, e_DW g_DW, e_Bz g_Bz, e_CR g_CR] ⟨[], [], [4, 5, 6, 7, 8, 9], [], none⟩ 2000 16 Q_Bw R_Bw fun b => B_Bw g_Bm g_BM g_DW g_Bz g_CR b := fun _ _ _ _ _ b => by kernel_rfl
theorem s_Bw [Amb] : Snd Tryz.prog (e_Bw f_Bw) := Snd.of (mk0 mixed (.c s_Bm (.c s_BM (.c s_DW (.c s_Bz (.c s_CR (.nil _)))))) (by kernel_rfl) (d_Bw f_Bm f_BM f_DW f_Bz f_CR)) (by kernel_rfl)

def Q_Ah := (open Rq in (pu (cu (app 0 434) nil) (cd Q4q89 fun b0 => (c Q4q11 (c Q4q61 (c (cl (gs b0.c4.1 Q4q24) nil) (cd Q4q44 fun b4 => (cd Q4q38 fun b5 => (cd Q4q39 fun b6 => (cd Q4q40 fun b7 => (cd Q4q41 fun b8 => (cd Q4q42 fun b9 => (c Q4q29 (cd (c gi (c gi (cl (gc (slo 19 11)) nil))) fun b11 => (c (cl (gs b0.c16 Q4q37) nil) (c (cl (gs b4.2.2.1 Q4q31) nil) (c (cl (gs b5.2.2.1 Q4q31) nil) (c (cl (gs b6.2.2.1 Q4q31) nil) (c (cl (gs b7.2.2.1 Q4q31) nil) (c (cl (gs b8.2.2.1 Q4q31) nil) (c (cl (gs b9.2.2.1 Q4q31) nil) (cl (cl (gs b11.2.2 Q4q58) nil) nil))))))))))))))))))))) : RA _)
def RR_Ah := (open Rq in (res (pl (aa (c gi (c gi (c gb (c gb (c gi (c gi (c gi (c gb (c gb Q4q28)))))))))) (pu Q4q81 nil))) : RE _)
abbrev D_Ah := RR_Ah.B
def R_Ah (d : D_Ah) : T := (fun d => .leaf (RR_Ah.em d)) d
abbrev G_Ah := Q_Ah.B → Option D_Ah
def e_Ah (g : G_Ah) : Ct := (11, FC Q_Ah R_Ah g)
def B_Ah (g_BB : G_BB) (g_DS : G_DS) (x : Q_Ah.B) : Pg D_Ah := opt (g_BB x.1.c8.c4.2.1 x.c8.2.2.1.1.1 x.c8.2.2.1.1.2.1 x.c8.2.2.1.1.2.2.1 x.c8.2.2.1.1.2.2.2.1 x.c8.2.2.1.1.c4.1 x.c8.2.2.1.1.c4.2 x.c8.2.2.1.2) fun d => opt (g_DS x.c8.2.2.1.1.1 x.c8.2.2.1.1.2.1 x.c8.2.2.1.1.2.2.1 x.c8.2.2.1.1.2.2.2.1 x.c8.2.2.1.1.c4.1 x.c8.2.2.1.1.c4.2 x.c8.2.2.1.2) fun d_1 => ret (x.1.c4.2.1.1, x.1.c4.2.1.2.1, x.1.c4.2.1.2.2.1,
 x.1.c4.2.1.2.2.2, x.1.c8.c4.2.1, d, x.1.c8.c4.2.2.1, d_1, x.1.2.1, x.1.c8.c4.2.2.2.1.1.1, x.1.c8.c4.2.2.2.1.1.2.1, x.1.c8.c4.2.2.2.1.1.2.2.1, x.1.c8.c4.2.2.2.1.1.2.2.2, x.1.c8.c4.2.2.2.1.2.1.1, x.1.c8.c4.2.2.2.1.2.1.2.1, x.1.c8.c4.2.2.2.1.2.1.2.2, x.1.c8.c4.2.2.2.1.2.2)
def f_Ah (x : Q_Ah.B) : Option D_Ah := (B_Ah f_BB f_DS x).val
theorem d_Ah : ∀ g_BB g_DS, DenIs Tryz.prog [e_BB g_BB, e_DS g_DS] ⟨[], [], [], [], none⟩ 2000 11 Q_Ah R_Ah fun b => B_Ah g_BB g_DS b := fun _ _ b => by kernel_rfl
theorem s_Ah [Amb] : Snd Tryz.prog (e_Ah f_Ah) := Snd.of (mk0 mixed (.c s_BB (.c s_DS (.nil _))) (by kernel_rfl) (d_Ah f_BB f_DS)) (by kernel_rfl)

def Q_Al := (open Rq in (pu (cu (app 0 434) nil) (cd Q4q89 fun b0 => (c Q4q11 (c Q4q61 (c (cl (gs b0.c4.1 Q4q24) nil) (cd Q4q44 fun b4 => (cd Q4q38 fun b5 => (cd Q4q39 fun b6 => (cd Q4q40 fun b7 => (cd Q4q41 fun b8 => (cd Q4q42 fun b9 => (c Q4q29 (cd (c gi (c gi (cl (gc (slo 19 11)) nil))) fun b11 => (c (cl (gs b0.c16 Q4q37) nil) (c (cl (gs b4.2.2.1 Q4q31) nil) (c (cl (gs b5.2.2.1 Q4q31) nil) (c (cl (gs b6.2.2.1 Q4q31) nil) (c (cl (gs b7.2.2.1 Q4q31) nil) (c (cl (gs b8.2.2.1 Q4q31) nil) (c (cl (gs b9.2.2.1 Q4q31) nil) (cl (cl (gs b11.2.2 Q4q58) nil) nil))))))))))))))))))))) : RA _)
def RR_Al := (open Rq in (res (pl Q4q68 (pu Q4q81 nil))) : RE _)
abbrev D_Al := RR_Al.B
def R_Al (d : D_Al) : T := (fun d => .leaf (RR_Al.em d)) d
abbrev G_Al := Q_Al.B → Option D_Al
def e_Al (g : G_Al) : Ct := (8, FC Q_Al R_Al g)
def B_Al (g_DU : G_DU) (x : Q_Al.B) : Pg D_Al := cnd (nB x.c8.2.2.2.1.2.2) (opt (g_DU x.c8.2.2.2.1.1 x.c8.2.2.2.1.2.1 x.c8.2.2.2.1.2.2 x.c16.2.2.2.1 x.c16.c4.1 x.c16.c4.2.1 x.c16.c4.2.2.1 x.c16.c4.2.2.2.1 x.c16.c8.1 x.c16.c8.2.1 x.c16.c8.2.2.1 x.c16.c8.2.2.2.1 x.c16.c8.c4.1 x.c16.c8.c4.2) fun d => ret d) no
def f_Al (x : Q_Al.B) : Option D_Al := (B_Al f_DU x).val
theorem d_Al : ∀ g_DU, DenIs Tryz.prog [e_DU g_DU] ⟨[], [], [], [], none⟩ 2000 8 Q_Al R_Al fun b => B_Al g_DU b := fun _ b => by kernel_rfl
theorem s_Al [Amb] : Snd Tryz.prog (e_Al f_Al) := Snd.of (mk0 mixed (.c s_DU (.nil _)) (by kernel_rfl) (d_Al f_DU)) (by kernel_rfl)

def Q_Ak := (open Rq in (pr (cu (app 0 434) (cl ai nil)) (cd Q4q89 fun b0 => (c Q4q11 (c Q4q61 (c (cl (gs b0.c4.1 Q4q24) nil) (cd Q4q44 fun b4 => (cd Q4q38 fun b5 => (cd Q4q39 fun b6 => (cd Q4q40 fun b7 => (cd Q4q41 fun b8 => (cd Q4q42 fun b9 => (c Q4q29 (cd (c gi (c gi (cl (gc (slo 19 11)) nil))) fun b11 => (c (cl (gs b0.c16 Q4q37) nil) (c (cl (gs b4.2.2.1 Q4q31) nil) (c (cl (gs b5.2.2.1 Q4q31) nil) (c (cl (gs b6.2.2.1 Q4q31) nil) (c (cl (gs b7.2.2.1 Q4q31) nil) (c (cl (gs b8.2.2.1 Q4q31) nil) (c (cl (gs b9.2.2.1 Q4q31) nil) (cl (cl (gs b11.2.2 Q4q58) nil) nil))))))))))))))))))))) : RA _)
def RR_Ak := (open Rq in (res (pl (aa Q4q5) (pu Q4q81 nil))) : RE _)
abbrev D_Ak := RR_Ak.B
def R_Ak (d : D_Ak) : T := (fun d => .leaf (RR_Ak.em d)) d
abbrev G_Ak := Q_Ak.B → Option D_Ak
def e_Ak (g : G_Ak) : Ct := (15, FC Q_Ak R_Ak g)
def B_Ak (g_DT : G_DT) (x : Q_Ak.B) : Pg D_Ak := opt (g_DT x.1 x.c8.2.2.2.1.1.1 x.c8.2.2.2.1.1.2.1 x.c8.2.2.2.1.1.2.2.1 x.c8.2.2.2.1.1.2.2.2.1 x.c8.2.2.2.1.1.c4.1 x.c8.2.2.2.1.1.c4.2 x.c8.2.2.2.1.2) fun d => ret d
def f_Ak (x : Q_Ak.B) : Option D_Ak := (B_Ak f_DT x).val
theorem d_Ak : ∀ g_DT, DenIs Tryz.prog [e_DT g_DT] ⟨[], [], [], [], none⟩ 2000 15 Q_Ak R_Ak fun b => B_Ak g_DT b := fun _ b => by kernel_rfl
theorem s_Ak [Amb] : Snd Tryz.prog (e_Ak f_Ak) := Snd.of (mk0 mixed (.c s_DT (.nil _)) (by kernel_rfl) (d_Ak f_DT)) (by kernel_rfl)

end Go.Proofs.YtphkdkkbbfnkaaaGreat
