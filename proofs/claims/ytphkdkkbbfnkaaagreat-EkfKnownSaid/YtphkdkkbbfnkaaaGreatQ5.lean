/-
  Contracts by plain functions: jac.Of, jac.Step, (*fx.Acc).Clamp#nh, (*fx.Acc).Sat#nh, (*fx.Acc).end#nh, (*fx.Acc).by#nh, (*fx.Acc).MulDiv#nh, earth.Declination$1#nh, earth.Declination$2#nh, earth.Declination#nh, (*ekf.Filter).declination#nh, (*ekf.Filter).magnet, (*ekf.Filter).use, (*output.Predictor).Correct, (*ekf.Filter).level, earth.New#ok, downs.New#ok, health.New#ok, output.New#ok, ring.New#ok, ekf.New
-/
import Derived.Test.YtphkdkkbbfnkaaaGreatZA
import Derived.Test.YtphkdkkbbfnkaaaGreatQ4
set_option maxRecDepth 100000
set_option maxHeartbeats 4000000
set_option linter.unusedVariables false
noncomputable section
namespace Go.Proofs.YtphkdkkbbfnkaaaGreat
open Go.Ab Go.Ab.Pg
def Q5q0 := open Rq in (so (c gi (c gi (cl (gc (slo 2 11)) nil))))
def Q5q1 := open Rq in (c gi (c gi (c gi (c gi (c gi (cl gi nil))))))
def Q5q2 := open Rq in (so (cl (ga (pr (szs hole) (cl kci nil))) nil))
def Q5q3 := open Rq in (cu chk (cu chk (cu chk (cu chk (cu chk nil)))))
def Q5q4 := open Rq in (a 3 (c gi (c gi (cl gi nil))) (c gi (cl gi nil)))
def Q5q5 := open Rq in (ac (cptr (pu (nat 0) (pu (ok' (nat 72)) (nat 1)))))
def Q5q6 := open Rq in (c gi Q5q1)
def Q5q7 := open Rq in (c (gl 276 (cl kci nil)) (cl (gl 24 (cl kci nil)) nil))
def Q5q8 := open Rq in (so Q5q4)
def Q5q9 := open Rq in (a 3 (c gi (c gi (cl gi nil))) (c gi (c gi (cl gi nil))))
def Q5q10 := open Rq in (cu (gc (cf (fi .i64 (int (-9223372036854775808))))) nil)
def Q5q11 := open Rq in (gl 6 (c kci (c kci (c kcb (c kci (c kci (cl kci nil)))))))
def Q5q12 := open Rq in (atup (cu (rc cnilp) (cu (rc (cf (fi .i64 (int 1)))) nil)))
def Q5q13 := open Rq in (c gi Q5q6)
def Q5q15 := open Rq in (cu chk (cu chk Q5q3))
def Q5q17 := open Rq in (c kci (c kci (c kci (c kci (c kci (c kci (c kci (cl kci nil))))))))
def Q5q18 := open Rq in (c gi (c gi Q5q9))
def Q5q20 := open Rq in (c Q5q11 (cl gi nil))
def Q5q21 := open Rq in (cu chk Q5q15)
def Q5q22 := open Rq in (aa Q5q18)
def Q5q23 := open Rq in (c kci Q5q17)
def Q5q24 := open Rq in (so Q5q20)
def Q5q27 := open Rq in (res (pu Q5q12 (pu nil nil)))
def Q5q28 := open Rq in (a 5 (c gi (c gi (c gi (c gi (cl gi nil))))) (c gi (c (gc (slo 13 9)) (cl gi nil))))
def Q5q29 := open Rq in (a 5 (c gi (c gi (c gi (c gi (cl gi nil))))) (c gi (c (gc (slo 14 9)) (cl gi nil))))
def Q5q30 := open Rq in (a 5 (c gi (c gi (c gi (c gi (cl gi nil))))) (c gi (c (gc (slo 15 9)) (cl gi nil))))
def Q5q31 := open Rq in (a 5 (c gi (c gi (c gi (c gi (cl gi nil))))) (c gi (c (gc (slo 16 9)) (cl gi nil))))
def Q5q32 := open Rq in (a 5 (c gi (c gi (c gi (c gi (cl gi nil))))) (c gi (c (gc (slo 17 9)) (cl gi nil))))
def Q5q33 := open Rq in (a 5 (c gi (c gi (c gi (c gi (cl gi nil))))) (c gi (c (gc (slo 18 9)) (cl gi nil))))
def Q5q34 := open Rq in (c kci Q5q23)
def Q5q36 := open Rq in (cl Q5q22 nil)
def Q5q37 := open Rq in (cu (gp 4 8) (cu (gp 5 8) (cu (gp 6 8) (cu (gp 7 8) (cu (gp 8 8) (cu (gp 9 8) nil))))))
def Q5q39 := open Rq in (so Q5q28)
def Q5q40 := open Rq in (so Q5q29)
def Q5q41 := open Rq in (so Q5q30)
def Q5q42 := open Rq in (so Q5q31)
def Q5q43 := open Rq in (so Q5q32)
def Q5q44 := open Rq in (so Q5q33)
def Q5q45 := open Rq in (c kci Q5q34)
def Q5q46 := open Rq in (a 4 (c gi (c gi (c gi (cl gi nil)))) Q5q9)
def Q5q47 := open Rq in (c gi (a 8 Q5q18 (cl gb nil)))
def Q5q48 := open Rq in (cu (so (cu (gp 0 3) nil)) (cu (so (cu (gp 1 1) nil)) (cl (so (cl (gl 24 (cl kci nil)) nil)) nil)))
def Q5q49 := open Rq in (so Q5q47)
def Q5q50 := open Rq in (cl Q5q11 (cu (gc (cf (fi .i64 (int 0)))) nil))
def Q5q52 := open Rq in (csl (pu (nat 3) (pu (ox (pu (nat 0) (pu (nat 0) (nat 8)))) (pl (szs hole) (pu (nat 8) (bool true))))))
def Q5q53 := open Rq in (ac Q5q52)
def Q5q54 := open Rq in (cl (ga (pu (szs (nat 0)) Q5q23)) nil)
def Q5q56 := open Rq in (so (cl (ga (pr (szs hole) Q5q23)) nil))
def Q5q57 := open Rq in (cl (ga (pr (szs hole) Q5q34)) nil)
def Q5q58 := open Rq in (cl (so Q5q50) nil)
def Q5q59 := open Rq in (cl (ga (pr (szs hole) Q5q45)) nil)
def Q5q60 := open Rq in (so Q5q59)
def Q5q61 := open Rq in (c gi (c gi (cl (gc (csl (pu (nat 20) (pu (ox (pu (nat 0) (pu (nat 0) (nat 11)))) (pl (szs hole) (pu (nat 11) (bool true))))))) nil)))
def Q5q62 := open Rq in (cl (cl (ga (pu (szs (nat 0)) Q5q45)) nil) nil)
def Q5q63 := open Rq in (so Q5q61)
def Q5q64 := open Rq in (c gi (c gi (c gi (c gi (a 6 Q5q1 (a 6 Q5q1 (c (gl 24 (cl kci nil)) (c (gl 24 (cl kci nil)) Q5q13))))))))
def Q5q65 := open Rq in (c Q5q60 (cl Q5q60 nil))
def Q5q66 := open Rq in (cl gi (cu (gc (cf (fi .i64 (int 0)))) (cu (gc (cf (fi .i64 (int 0)))) (cu (gc (cf (fi .i64 (int 0)))) (cu (gc (cf (fi .i64 (int 0)))) (cu (gc (cf (fi .i64 (int 0)))) (cu (gc (cf (fi .i64 (int 0)))) (cu (gc (cf (fi .i64 (int 0)))) (cu (gc (cf (fi .i64 (int 0)))) (cu (gc (cf (fb (bool false)))) nil))))))))))
def Q5q67 := open Rq in (st (pr (us 4 (cu (app 3 1) (cu (app 4 1) (us 8 (cu (app 5 3) (cu (app 6 3) (cu (app 7 4) (cu (app 8 4) (cl ai (us 80 nil)))))))))) (pl (c Q5q0 (c (so (cl gb nil)) (c Q5q60 (cu (so (cu (gp 0 3) nil)) (cu (so (cu (gp 1 1) nil)) (c (so (c gi (c gi (cl gi nil)))) (c (so (c gi (c gi (cl gi nil)))) (c (so (c gi (c gi (c gi (cl gi nil))))) (cl (so (c gi (c gi (c gi (cl gi nil))))) nil))))))))) (cu (nat 1) (cu (nat 2) nil)))))
def Q5q68 := open Rq in (a 26 Q5q64 (c gb (c (gl 24 (cl kci nil)) (a 2 Q5q7 (cu (gp 1 5) (cu (gp 2 10) (c (gc (slo 3 8)) (au 6 Q5q37 (cu (gp 10 37) (a 4 (c gi (c gi (c gb (cl gb nil)))) (cu (gp 11 3) (c gb (c gi (a 3 (c gi (c gi (cl gi nil))) (c gb (c gb (c gb (c gi (c gi (c gi (a 10 Q5q46 (cl (gc (slo 12 10)) nil))))))))))))))))))))))
def Q5q69 := open Rq in (chs Q5q68)
def Q5q70 := open Rq in (a 26 Q5q64 (c gb (c (gl 24 (cl kci nil)) (a 2 Q5q7 (cu (gp 1 5) (cu (gp 2 10) (c (gc Q5q52) (au 6 Q5q37 (cu (gp 10 37) (a 4 (c gi (c gi (c gb (cl gb nil)))) (cu (gp 11 3) (cu (gc (cf (fb (bool true)))) (c gi (a 3 (c gi (c gi (cl gi nil))) (cu (gc (cf (fb (bool true)))) (c gb (c gb (c gi (c gi (c gi (a 10 Q5q46 (cl (gc (csl (pu (nat 12) (pu (ox (pu (nat 0) (pu (nat 0) (nat 10)))) (pl (szs hole) (pu (nat 10) (bool true))))))) nil))))))))))))))))))))))
def Q5q71 := open Rq in (so Q5q70)
def Q_AM := (open Rq in (pr (cu (app 0 3) (cu (app 1 1) (c (aa (cl (gl 24 (cl kci nil)) nil)) (cl ai nil)))) (cd (c gi (c gi (cl (gc (slo 2 11)) nil))) fun b0 => (c (cl gb nil) (cl (cl (gs b0.2.2 Q5q45) nil) nil)))) : RA _)
def RR_AM := (open Rq in (res (pr ai (pl (cu chk (c (chs (cl gb nil)) (cl (chs Q5q59) nil))) nil))) : RE _)
abbrev D_AM := RR_AM.B
def R_AM (d : D_AM) : T := (fun d => .leaf (RR_AM.em d)) d
abbrev G_AM := Q_AM.B → Option D_AM
def e_AM (g : G_AM) : Ct := (74, FC Q_AM R_AM g)
def QL_AM_0 := (open Rq in (st (dp (us 3 (c ai (cu (app 3 1) (cu (app 4 1) (cu (app 5 24) (us 2 (c ai (us 12 (c (ac (slo 2 11)) (c ai (cl ai (us 74 nil)))))))))))) fun v => (pl (c Q5q0 (c (so (cl gb nil)) (c (so (cl (gs v.2.2.1 Q5q45) nil)) Q5q48))) (cu (nat 1) (cu (nat 2) nil))))) : RS _)
def Z_AM_0 := (open Rq in (st (pr (us 3 (c ai (cu (app 3 1) (cu (app 4 1) (cu (app 5 24) (us 2 (c ai (us 12 (c (ac (slo 2 11)) (c ai (c ai (cl ab (us 73 nil))))))))))))) (pl (c Q5q0 (c (so (cl gb nil)) (c Q5q60 Q5q48))) (cu (nat 1) (cu (nat 2) nil))))) : RS _)
abbrev X_AM_0 := ((Int × Int × Nat × Int × Int × Bool) × (Int × Int × Nat) × Bool × (NI × NI × NI × NI × NI × NI × NI × NI × NI × NI × NI) × NI)
def E_AM_0 {ρ : Type} (x : X_AM_0) (K : AX → St → Option ρ) : Option ρ := (fun d => K (AX.ex 0) (Z_AM_0.em (d.1, d.2.1, d.2.2.1, (d.1.2.2.1, d.2.2.2.1), d.c4))) x
def S_AM_0 (d : QL_AM_0.B) : Pg (QL_AM_0.B ⊕ X_AM_0) := let y0 := decide (d.1.c4 < d.1.2.2.2.1); cnd y0 (cnd (inR d.1.c4 d.1.2.2.1) (cnd (decide (d.2.2.2.1.1 (Int.toNat d.1.c4) ≤ d.1.1)) (ret (Sum.inl ((d.1.1, d.1.c4, d.1.2.2.1, d.1.2.2.2.1, wI (d.1.c4 + 1)), d.2))) (ret (Sum.inl ((d.1.1, d.1.2.1, d.1.2.2.1, d.1.2.2.2.1, wI (d.1.c4 + 1)), d.2)))) no) (ret (Sum.inr ((d.1.1, d.1.2.1, d.1.2.2.1, d.1.2.2.2.1, d.1.c4, y0), d.2)))
def L_AM_0 : QL_AM_0.B → Option X_AM_0 := loopP (S_AM_0) 2000
def QL_AM_2 := (open Rq in Q5q67 : RS _)
def Z_AM_2 := (open Rq in (st (pr (us 4 (cu (app 3 1) (cu (app 4 1) (us 8 (cu (app 5 3) (cu (app 6 3) (cu (app 7 4) (cu (app 8 4) (c ai (us 62 (c ai (cu (app 1 1) (cu (app 0 3) (cu (app 0 3) (cu (ac (cptr (pu (nat 0) (pu (ok' (nat 1)) (nat 1))))) (c ai (c ai (c (ac (cptr (pu (nat 7) (pl (ok' hole) (nat 1))))) (c ai (c ai (cl (ac (cptr (pu (nat 8) (pl (ok' hole) (nat 1))))) (us 7 nil)))))))))))))))))))))) (pl (c Q5q0 (c (so (cl gb nil)) (c Q5q60 (cu (so (cu (gp 0 3) nil)) (cu (so (cu (gp 1 1) nil)) (c (so (c gi (c gi (cl gi nil)))) (c (so (c gi (c gi (cl gi nil)))) (c (so (c gi (c gi (c gi (cl gi nil))))) (cl (so (c gi (c gi (c gi (cl gi nil))))) nil))))))))) (cu (nat 1) (cu (nat 2) nil))))) : RS _)
abbrev X_AM_2 := ((Int × Int × Nat × Int × Int × Nat) × (Int × Nat) × Bool × ty16 × (Int × Int × Int) × (Int × Int × Int) × (Int × Int × Int × Int) × Int × Int × Int × Int)
def E_AM_2 {ρ : Type} (x : X_AM_2) (K : AX → St → Option ρ) : Option ρ := (fun d => K AX.nrm (Z_AM_2.em ((d.1.1, d.1.1, d.1.2.1, d.1.1, d.1.2.2), (d.2.1.1, d.1.2.1, d.2.1.2), d.2.2))) x
def S_AM_2 (g_AF : G_AF) (d : QL_AM_2.B) : Pg X_AM_2 := let y0 := inR d.1 4; let y1 := d.1 == 1; let y2 := d.1 == 3; let y3 := d.1 == 2; cnd y0 (cnd y2 (opt (g_AF d.2.1.2.1 d.c4.2.2.1.2.2.2 30 d.2.2.1) fun d_1 => cnd y0 (cnd y2 (ret ((d.1, d.2.1.2.1, 3, d.c4.2.2.1.2.2.2, d_1.1, 3), (d.2.1.1, d.2.1.2.2), d_1.2, d.2.2.2.1, d.c4.1, d.c4.2.1, d.c4.2.2.1, d.c4.2.2.2.1, d.c8.1, d.c8.2.1, d_1.1)) (cnd y3 (ret ((d.1,
 d.2.1.2.1, 3, d.c4.2.2.1.2.2.2, d_1.1, 2), (d.2.1.1, d.2.1.2.2), d_1.2, d.2.2.2.1, d.c4.1, d.c4.2.1, d.c4.2.2.1, d.c4.2.2.2.1, d.c8.1, d_1.1, d.c8.2.2)) (cnd y1 (ret ((d.1, d.2.1.2.1, 3, d.c4.2.2.1.2.2.2, d_1.1, 1), (d.2.1.1, d.2.1.2.2), d_1.2, d.2.2.2.1, d.c4.1, d.c4.2.1, d.c4.2.2.1, d.c4.2.2.2.1, d_1.1, d.c8.2)) (ret ((d.1, d.2.1.2.1, 3, d.c4.2.2.1.2.2.2, d_1.1, 0), (d.2.1.1, d.2.1.2.2), d_1.2, d.2.2.2.1,
 d.c4.1, d.c4.2.1, d.c4.2.2.1, d_1.1, d.c8))))) no) (cnd y3 (opt (g_AF d.2.1.2.1 d.c4.2.2.1.2.2.1 30 d.2.2.1) fun d_1 => cnd y0 (cnd y2 (ret ((d.1, d.2.1.2.1, 2, d.c4.2.2.1.2.2.1, d_1.1, 3), (d.2.1.1, d.2.1.2.2), d_1.2, d.2.2.2.1, d.c4.1, d.c4.2.1, d.c4.2.2.1, d.c4.2.2.2.1, d.c8.1, d.c8.2.1, d_1.1)) (cnd y3 (ret ((d.1, d.2.1.2.1, 2, d.c4.2.2.1.2.2.1, d_1.1, 2), (d.2.1.1, d.2.1.2.2), d_1.2, d.2.2.2.1,
 d.c4.1, d.c4.2.1, d.c4.2.2.1, d.c4.2.2.2.1, d.c8.1, d_1.1, d.c8.2.2)) (cnd y1 (ret ((d.1, d.2.1.2.1, 2, d.c4.2.2.1.2.2.1, d_1.1, 1), (d.2.1.1, d.2.1.2.2), d_1.2, d.2.2.2.1, d.c4.1, d.c4.2.1, d.c4.2.2.1, d.c4.2.2.2.1, d_1.1, d.c8.2)) (ret ((d.1, d.2.1.2.1, 2, d.c4.2.2.1.2.2.1, d_1.1, 0), (d.2.1.1, d.2.1.2.2), d_1.2, d.2.2.2.1, d.c4.1, d.c4.2.1, d.c4.2.2.1, d_1.1, d.c8))))) no) (cnd y1 (opt (g_AF d.2.1.2.1 d.c4.2.2.1.2.1 30 d.2.2.1) fun d_1 => cnd y0 (cnd y2 (ret ((d.1,
 d.2.1.2.1, 1, d.c4.2.2.1.2.1, d_1.1, 3), (d.2.1.1, d.2.1.2.2), d_1.2, d.2.2.2.1, d.c4.1, d.c4.2.1, d.c4.2.2.1, d.c4.2.2.2.1, d.c8.1, d.c8.2.1, d_1.1)) (cnd y3 (ret ((d.1, d.2.1.2.1, 1, d.c4.2.2.1.2.1, d_1.1, 2), (d.2.1.1, d.2.1.2.2), d_1.2, d.2.2.2.1, d.c4.1, d.c4.2.1, d.c4.2.2.1, d.c4.2.2.2.1, d.c8.1, d_1.1, d.c8.2.2)) (cnd y1 (ret ((d.1, d.2.1.2.1, 1, d.c4.2.2.1.2.1, d_1.1, 1), (d.2.1.1, d.2.1.2.2),
 d_1.2, d.2.2.2.1, d.c4.1, d.c4.2.1, d.c4.2.2.1, d.c4.2.2.2.1, d_1.1, d.c8.2)) (ret ((d.1, d.2.1.2.1, 1, d.c4.2.2.1.2.1, d_1.1, 0), (d.2.1.1, d.2.1.2.2), d_1.2, d.2.2.2.1, d.c4.1, d.c4.2.1, d.c4.2.2.1, d_1.1, d.c8))))) no) (opt (g_AF d.2.1.2.1 d.c4.2.2.1.1 30 d.2.2.1) fun d_1 => cnd y0 (cnd y2 (ret ((d.1, d.2.1.2.1, 0, d.c4.2.2.1.1, d_1.1, 3), (d.2.1.1, d.2.1.2.2), d_1.2, d.2.2.2.1, d.c4.1, d.c4.2.1,
 d.c4.2.2.1, d.c4.2.2.2.1, d.c8.1, d.c8.2.1, d_1.1)) (cnd y3 (ret ((d.1, d.2.1.2.1, 0, d.c4.2.2.1.1, d_1.1, 2), (d.2.1.1, d.2.1.2.2), d_1.2, d.2.2.2.1, d.c4.1, d.c4.2.1, d.c4.2.2.1, d.c4.2.2.2.1, d.c8.1, d_1.1, d.c8.2.2)) (cnd y1 (ret ((d.1, d.2.1.2.1, 0, d.c4.2.2.1.1, d_1.1, 1), (d.2.1.1, d.2.1.2.2), d_1.2, d.2.2.2.1, d.c4.1, d.c4.2.1, d.c4.2.2.1, d.c4.2.2.2.1, d_1.1, d.c8.2)) (ret ((d.1, d.2.1.2.1,
 0, d.c4.2.2.1.1, d_1.1, 0), (d.2.1.1, d.2.1.2.2), d_1.2, d.2.2.2.1, d.c4.1, d.c4.2.1, d.c4.2.2.1, d_1.1, d.c8))))) no)))) no
def L_AM_2 (d : QL_AM_2.B) : Option X_AM_2 := (S_AM_2 f_AF d).val
def QL_Ad := (open Rq in Q5q67 : RS _)
def Z_Ad := (open Rq in (st (pr (us 4 (cu (app 3 1) (cu (app 4 1) (us 8 (cu (app 5 3) (cu (app 6 3) (cu (app 7 4) (cu (app 8 4) (c ai (us 49 (c ai (cl ab (us 29 nil))))))))))))) (pl (c Q5q0 (c (so (cl gb nil)) (c Q5q60 (cu (so (cu (gp 0 3) nil)) (cu (so (cu (gp 1 1) nil)) (c (so (c gi (c gi (cl gi nil)))) (c (so (c gi (c gi (cl gi nil)))) (c (so (c gi (c gi (c gi (cl gi nil))))) (cl (so (c gi (c gi (c gi (cl gi nil))))) nil))))))))) (cu (nat 1) (cu (nat 2) nil))))) : RS _)
abbrev X_Ad := ((Int × Bool) × (Int × Int × Nat) × Bool × ty16 × (Int × Int × Int) × (Int × Int × Int) × (Int × Int × Int × Int) × Int × Int × Int × Int)
def E_Ad {ρ : Type} (x : X_Ad) (K : AX → St → Option ρ) : Option ρ := (fun d => K (AX.ex 2) (Z_Ad.em ((d.1.1, d.1), d.2))) x
def S_Ad (l_2 : QL_AM_2.B → Option X_AM_2) (d : QL_Ad.B) : Pg (QL_Ad.B ⊕ X_Ad) := let y0 := inR d.1 4; let y1 := d.1 == 1; let y2 := d.1 == 3; let y3 := d.1 == 2; let y4 := decide (d.1 < 4); let y5 := wI (0 - d.c4.2.2.1.1); let y6 := wI (0 - d.c4.2.2.1.2.1); let y7 := wI (0 - d.c4.2.2.1.2.2.1); let y8 := wI (0 - d.c4.2.2.1.2.2.2); cnd y4 (cnd (decide (d.c4.2.2.1.1 < 0)) (cnd y0 (cnd y2 (cnd y0 (cnd y2 (opt (l_2 (d.1,
 d.2.1, d.2.2.1, d.2.2.2.1, d.c4.1, d.c4.2.1, (d.c4.2.2.1.1, d.c4.2.2.1.2.1, d.c4.2.2.1.2.2.1, y8), d.c4.2.2.2)) fun d => ret (Sum.inl (wI (d.1.1 + 1), (d.2.1.1, d.1.2.1, d.2.1.2), d.2.2))) (cnd y3 (opt (l_2 (d.1, d.2.1, d.2.2.1, d.2.2.2.1, d.c4.1, d.c4.2.1, (d.c4.2.2.1.1, d.c4.2.2.1.2.1, y8, d.c4.2.2.1.2.2.2), d.c4.2.2.2)) fun d => ret (Sum.inl (wI (d.1.1 + 1), (d.2.1.1, d.1.2.1, d.2.1.2), d.2.2))) (cnd y1 (opt (l_2 (d.1,
 d.2.1, d.2.2.1, d.2.2.2.1, d.c4.1, d.c4.2.1, (d.c4.2.2.1.1, y8, d.c4.2.2.1.2.2), d.c4.2.2.2)) fun d => ret (Sum.inl (wI (d.1.1 + 1), (d.2.1.1, d.1.2.1, d.2.1.2), d.2.2))) (opt (l_2 (d.1, d.2.1, d.2.2.1, d.2.2.2.1, d.c4.1, d.c4.2.1, (y8, d.c4.2.2.1.2), d.c4.2.2.2)) fun d => ret (Sum.inl (wI (d.1.1 + 1), (d.2.1.1, d.1.2.1, d.2.1.2), d.2.2)))))) no) (cnd y3 (cnd y0 (cnd y2 (opt (l_2 (d.1, d.2.1, d.2.2.1,
 d.2.2.2.1, d.c4.1, d.c4.2.1, (d.c4.2.2.1.1, d.c4.2.2.1.2.1, d.c4.2.2.1.2.2.1, y7), d.c4.2.2.2)) fun d => ret (Sum.inl (wI (d.1.1 + 1), (d.2.1.1, d.1.2.1, d.2.1.2), d.2.2))) (cnd y3 (opt (l_2 (d.1, d.2.1, d.2.2.1, d.2.2.2.1, d.c4.1, d.c4.2.1, (d.c4.2.2.1.1, d.c4.2.2.1.2.1, y7, d.c4.2.2.1.2.2.2), d.c4.2.2.2)) fun d => ret (Sum.inl (wI (d.1.1 + 1), (d.2.1.1, d.1.2.1, d.2.1.2), d.2.2))) (cnd y1 (opt (l_2 (d.1,
 d.2.1, d.2.2.1, d.2.2.2.1, d.c4.1, d.c4.2.1, (d.c4.2.2.1.1, y7, d.c4.2.2.1.2.2), d.c4.2.2.2)) fun d => ret (Sum.inl (wI (d.1.1 + 1), (d.2.1.1, d.1.2.1, d.2.1.2), d.2.2))) (opt (l_2 (d.1, d.2.1, d.2.2.1, d.2.2.2.1, d.c4.1, d.c4.2.1, (y7, d.c4.2.2.1.2), d.c4.2.2.2)) fun d => ret (Sum.inl (wI (d.1.1 + 1), (d.2.1.1, d.1.2.1, d.2.1.2), d.2.2)))))) no) (cnd y1 (cnd y0 (cnd y2 (opt (l_2 (d.1, d.2.1, d.2.2.1,
 d.2.2.2.1, d.c4.1, d.c4.2.1, (d.c4.2.2.1.1, d.c4.2.2.1.2.1, d.c4.2.2.1.2.2.1, y6), d.c4.2.2.2)) fun d => ret (Sum.inl (wI (d.1.1 + 1), (d.2.1.1, d.1.2.1, d.2.1.2), d.2.2))) (cnd y3 (opt (l_2 (d.1, d.2.1, d.2.2.1, d.2.2.2.1, d.c4.1, d.c4.2.1, (d.c4.2.2.1.1, d.c4.2.2.1.2.1, y6, d.c4.2.2.1.2.2.2), d.c4.2.2.2)) fun d => ret (Sum.inl (wI (d.1.1 + 1), (d.2.1.1, d.1.2.1, d.2.1.2), d.2.2))) (cnd y1 (opt (l_2 (d.1,
 d.2.1, d.2.2.1, d.2.2.2.1, d.c4.1, d.c4.2.1, (d.c4.2.2.1.1, y6, d.c4.2.2.1.2.2), d.c4.2.2.2)) fun d => ret (Sum.inl (wI (d.1.1 + 1), (d.2.1.1, d.1.2.1, d.2.1.2), d.2.2))) (opt (l_2 (d.1, d.2.1, d.2.2.1, d.2.2.2.1, d.c4.1, d.c4.2.1, (y6, d.c4.2.2.1.2), d.c4.2.2.2)) fun d => ret (Sum.inl (wI (d.1.1 + 1), (d.2.1.1, d.1.2.1, d.2.1.2), d.2.2)))))) no) (cnd y0 (cnd y2 (opt (l_2 (d.1, d.2.1, d.2.2.1, d.2.2.2.1,
 d.c4.1, d.c4.2.1, (d.c4.2.2.1.1, d.c4.2.2.1.2.1, d.c4.2.2.1.2.2.1, y5), d.c4.2.2.2)) fun d => ret (Sum.inl (wI (d.1.1 + 1), (d.2.1.1, d.1.2.1, d.2.1.2), d.2.2))) (cnd y3 (opt (l_2 (d.1, d.2.1, d.2.2.1, d.2.2.2.1, d.c4.1, d.c4.2.1, (d.c4.2.2.1.1, d.c4.2.2.1.2.1, y5, d.c4.2.2.1.2.2.2), d.c4.2.2.2)) fun d => ret (Sum.inl (wI (d.1.1 + 1), (d.2.1.1, d.1.2.1, d.2.1.2), d.2.2))) (cnd y1 (opt (l_2 (d.1, d.2.1,
 d.2.2.1, d.2.2.2.1, d.c4.1, d.c4.2.1, (d.c4.2.2.1.1, y5, d.c4.2.2.1.2.2), d.c4.2.2.2)) fun d => ret (Sum.inl (wI (d.1.1 + 1), (d.2.1.1, d.1.2.1, d.2.1.2), d.2.2))) (opt (l_2 (d.1, d.2.1, d.2.2.1, d.2.2.2.1, d.c4.1, d.c4.2.1, (y5, d.c4.2.2.1.2), d.c4.2.2.2)) fun d => ret (Sum.inl (wI (d.1.1 + 1), (d.2.1.1, d.1.2.1, d.2.1.2), d.2.2)))))) no)))) no) (opt (l_2 d) fun d => ret (Sum.inl (wI (d.1.1 + 1),
 (d.2.1.1, d.1.2.1, d.2.1.2), d.2.2)))) (ret (Sum.inr ((d.1, y4), d.2)))
def L_Ad : QL_Ad.B → Option X_Ad := loopP (S_Ad L_AM_2) 2000
def H_AM (l_0 : QL_AM_0.B → Option X_AM_0) (l_2 : QL_AM_2.B → Option X_AM_2) (l_1 : QL_Ad.B → Option X_Ad) : Hs := ⟨[⟨3, (0 :: 1 :: 2 :: 7 :: 8 :: rg 10 12 (rg 25 74 [])), []⟩, ⟨15, (rg 0 4 (rg 6 8 (rg 19 80 []))), []⟩], [smQ 3 3 QL_AM_0 E_AM_0 l_0, smQ 15 3 QL_Ad E_Ad l_1], [1, 2], [⟨⟨19, (rg 0 4 (rg 6 8 (rg 19 80 []))), []⟩, smQ 19 3 QL_AM_2 E_AM_2 l_2⟩], (some ⟨0, (rg 0 8 (rg 9 90 [])), []⟩)⟩
def B_AM (g_Am : G_Am) (g_Bd : G_Bd) (g_CF : G_CF) (g_BE : G_BE) (g_AG : G_AG) (g_Ao : G_Ao) (l_0 : QL_AM_0.B → Option X_AM_0) (l_1 : QL_Ad.B → Option X_Ad) (x : Q_AM.B) : Pg D_AM := cnd (nB x.2.1.2.2) (opt (l_0 ((x.1.2, -1, x.2.1.2.2, Int.ofNat x.2.1.2.2, 0), x.2.1, x.2.2.1, x.2.2.2, x.1.1)) fun d => let y0 := Int.toNat d.1.2.1; cnd (decide (d.1.2.1 < 0)) (ret (4, d.2.2.1, d.1.2.2.1, d.2.2.2.1)) (cnd (inR d.1.2.1 d.2.1.2.2) (opt (g_Am d.c4 d.1.1 d.2.2.1) fun d_1 => opt (g_Bd d_1.1.c4.2.1 d_1.1.c4.2.2.1 d_1.1.c4.2.2.2.1 (d.2.2.2.1.c4.2.1 y0) (d.2.2.2.1.c4.2.2.1 y0) (d.2.2.2.1.c4.2.2.2.1 y0) d_1.2) fun d_2 => opt (g_Bd d_1.1.c8.1 d_1.1.c8.2.1 d_1.1.c8.2.2 (d.2.2.2.1.c8.1 y0) (d.2.2.2.1.c8.2.1 y0) (d.2.2.2.1.c8.2.2 y0) d_2.2) fun d_3 => opt (g_CF (d.2.2.2.1.2.1 y0) (d.2.2.2.1.2.2.1 y0) (d.2.2.2.1.2.2.2.1 y0) (d.2.2.2.1.c4.1 y0)) fun d_4 => opt (g_BE d_1.1.2.1 d_1.1.2.2.1 d_1.1.2.2.2.1 d_1.1.c4.1 d_4.1 d_4.2.1 d_4.2.2.1 d_4.2.2.2 d_3.2) fun d_5 => opt (l_1 (1,
 d.2.1, d_5.2, (d.1.2.2.1, d.2.2.2.1), d_2.1, d_3.1, d_5.1, 1073741824, 0, 0, 0)) fun d => opt (g_AG d.c4.2.2.2.1 d.c8.1 d.c8.2.1 d.c8.2.2 d.2.2.1) fun d_6 => cnd (nB d.2.1.2.2) (opt (g_Ao (d.2.1, d_6.2, d.c4.1, d.c4.2.1, d_6.1, d.2.2.2.1.2)) fun d_7 => let y0 := d_7.2.1 * 11 + 0; cnd (true && Nat.beq y0 (d.2.1.2.2 * 11) && true) (cnd (true && Nat.ble (0 + y0) (d.2.2.2.1.1 * 11 + 0)) (ret (0, d_7.1,
 d.2.2.2.1.1, fun j => bif true && Nat.blt j (0 + d_7.2.1) then d_7.2.2.1 j else d.2.2.2.1.2.1 j, fun j => bif true && Nat.blt j (0 + d_7.2.1) then d_7.2.2.2.1 j else d.2.2.2.1.2.2.1 j, fun j => bif true && Nat.blt j (0 + d_7.2.1) then d_7.c4.1 j else d.2.2.2.1.2.2.2.1 j, fun j => bif true && Nat.blt j (0 + d_7.2.1) then d_7.c4.2.1 j else d.2.2.2.1.c4.1 j, fun j => bif true && Nat.blt j (0 + d_7.2.1) then d_7.c4.2.2.1 j else d.2.2.2.1.c4.2.1 j,
 fun j => bif true && Nat.blt j (0 + d_7.2.1) then d_7.c4.2.2.2.1 j else d.2.2.2.1.c4.2.2.1 j, fun j => bif true && Nat.blt j (0 + d_7.2.1) then d_7.c8.1 j else d.2.2.2.1.c4.2.2.2.1 j, fun j => bif true && Nat.blt j (0 + d_7.2.1) then d_7.c8.2.1 j else d.2.2.2.1.c8.1 j, fun j => bif true && Nat.blt j (0 + d_7.2.1) then d_7.c8.2.2.1 j else d.2.2.2.1.c8.2.1 j, fun j => bif true && Nat.blt j (0 + d_7.2.1) then d_7.c8.2.2.2.1 j else d.2.2.2.1.c8.2.2.1 j,
 fun j => bif true && Nat.blt j (0 + d_7.2.1) then d_7.c8.c4 j else d.2.2.2.1.c8.2.2.2 j)) no) no) no) no)) no
def f_AM (x : Q_AM.B) : Option D_AM := (B_AM f_Am f_Bd f_CF f_BE f_AG f_Ao L_AM_0 L_Ad x).val
theorem dl_AM_0 : ∀ g_Am g_Bd g_CF g_BE g_AF g_AG g_Ad g_Ao l_0 l_2 l_1, LoopIs Tryz.prog [e_Am g_Am, e_Bd g_Bd, e_CF g_CF, e_BE g_BE, e_AF g_AF, e_AG g_AG, e_Ad g_Ad, e_Ao g_Ao] (H_AM l_0 l_2 l_1) 3 2000 74 3 QL_AM_0 E_AM_0 (S_AM_0) := fun _ _ _ _ _ _ _ _ _ _ _ _ d c K => by kernel_rfl
theorem dl_AM_2 : ∀ g_Am g_Bd g_CF g_BE g_AF g_AG g_Ad g_Ao l_0 l_2 l_1, JoinIs Tryz.prog [e_Am g_Am, e_Bd g_Bd, e_CF g_CF, e_BE g_BE, e_AF g_AF, e_AG g_AG, e_Ad g_Ad, e_Ao g_Ao] (H_AM l_0 l_2 l_1) 3 2000 74 19 QL_AM_2 E_AM_2 (S_AM_2 g_AF) := fun _ _ _ _ _ _ _ _ _ _ _ _ d K => by kernel_rfl
theorem dl_Ad : ∀ g_Am g_Bd g_CF g_BE g_AF g_AG g_Ad g_Ao l_0 l_2 l_1, LoopIs Tryz.prog [e_Am g_Am, e_Bd g_Bd, e_CF g_CF, e_BE g_BE, e_AF g_AF, e_AG g_AG, e_Ad g_Ad, e_Ao g_Ao] (H_AM l_0 l_2 l_1) 3 2000 74 15 QL_Ad E_Ad (S_Ad l_2) := fun _ _ _ _ _ _ _ _ _ _ _ _ d c K => by kernel_rfl
theorem d_AM : ∀ g_Am g_Bd g_CF g_BE g_AF g_AG g_Ad g_Ao l_0 l_2 l_1, DenIs Tryz.prog [e_Am g_Am, e_Bd g_Bd, e_CF g_CF, e_BE g_BE, e_AF g_AF, e_AG g_AG, e_Ad g_Ad, e_Ao g_Ao] (H_AM l_0 l_2 l_1) 2000 74 Q_AM R_AM fun b => B_AM g_Am g_Bd g_CF g_BE g_AG g_Ao l_0 l_1 b := fun _ _ _ _ _ _ _ _ _ _ _ b => by kernel_rfl
theorem s_AM [Amb] : Snd Tryz.prog (e_AM f_AM) := Snd.of (mkS mixed (.c s_Am (.c s_Bd (.c s_CF (.c s_BE (.c s_AF (.c s_AG (.c s_Ad (.c s_Ao (.nil _))))))))) (by kernel_rfl) (Sums.by (l := [loopIn Tryz.prog 74 3, loopIn Tryz.prog 74 15]) (lj := [joinIn Tryz.prog 74 19]) (by kernel_rfl) ⟨mkL (S := S_AM_0) (by kernel_rfl) (dl_AM_0 f_Am f_Bd f_CF f_BE f_AF f_AG f_Ad f_Ao L_AM_0 L_AM_2 L_Ad), ⟨mkL (S := S_Ad L_AM_2) (by kernel_rfl) (dl_Ad f_Am f_Bd f_CF f_BE f_AF f_AG f_Ad f_Ao L_AM_0 L_AM_2 L_Ad),
 trivial⟩⟩ (by kernel_rfl) ⟨mkJ (hd := ⟨19, (rg 0 4 (rg 6 8 (rg 19 80 []))), []⟩) (S := S_AM_2 f_AF) (by kernel_rfl) (dl_AM_2 f_Am f_Bd f_CF f_BE f_AF f_AG f_Ad f_Ao L_AM_0 L_AM_2 L_Ad), trivial⟩) (d_AM f_Am f_Bd f_CF f_BE f_AF f_AG f_Ad f_Ao L_AM_0 L_AM_2 L_Ad)) (by kernel_rfl)

def Q_AW := (open Rq in (pr (cu (app 0 434) Q5q36) (cd Q5q68 fun b0 => (c Q5q4 (c Q5q47 (c (cl (gs b0.c4.1 Q5q17) nil) (cd Q5q28 fun b4 => (cd Q5q29 fun b5 => (cd Q5q30 fun b6 => (cd Q5q31 fun b7 => (cd Q5q32 fun b8 => (cd Q5q33 fun b9 => (c Q5q20 (cd (c gi (c gi (cl (gc (slo 19 11)) nil))) fun b11 => (c (cl (gs b0.c16 Q5q34) nil) (c (cl (gs b4.2.2.1 Q5q23) nil) (c (cl (gs b5.2.2.1 Q5q23) nil) (c (cl (gs b6.2.2.1 Q5q23) nil) (c (cl (gs b7.2.2.1 Q5q23) nil) (c (cl (gs b8.2.2.1 Q5q23) nil) (c (cl (gs b9.2.2.1 Q5q23) nil) (cl (cl (gs b11.2.2 Q5q45) nil) nil))))))))))))))))))))) : RA _)
def RR_ekf_Filter_level_k0 := (open Rq in (res (pu (atup nil) (pl (c Q5q69 (cu chk (cu chk (cu chk (cu chk (cu chk (cu chk (cu chk (cu chk (cu chk (cu chk (cl (chs (c gi (c gi (cl (gc (slo 19 11)) nil)))) Q5q21)))))))))))) nil))) : RE _)
def RR_ekf_Filter_level_k1 := (open Rq in (res (pu (atup nil) (pr (c (chs Q5q70) (cu chk (cu chk (cu chk (cu chk (cu chk (cu chk (cu chk (cu chk (cu chk (cu chk (cl (chs Q5q61) Q5q21)))))))))))) (cl Q5q59 nil)))) : RE _)
abbrev D_AW := RR_ekf_Filter_level_k0.B ⊕ RR_ekf_Filter_level_k1.B
def R_AW (d : D_AW) : T := (fun x => T.sum x (fun d => .leaf (RR_ekf_Filter_level_k0.em d)) (fun d => .leaf (RR_ekf_Filter_level_k1.em d))) d
abbrev G_AW := Q_AW.B → Option D_AW
def e_AW (g : G_AW) : Ct := (66, FC Q_AW R_AW g)
def QL_AW_0 := (open Rq in (st (dp (cu (app 0 434) (us 3 (cu Q5q5 (us 109 (c Q5q53 (c ai (cl ai (us 15 nil)))))))) fun v => (pl (cd Q5q71 fun b0 => (c Q5q8 (c Q5q49 (c (so (cl (gs v.1 Q5q17) nil)) (cd Q5q39 fun b4 => (cd Q5q40 fun b5 => (cd Q5q41 fun b6 => (cd Q5q42 fun b7 => (cd Q5q43 fun b8 => (cd Q5q44 fun b9 => (c Q5q24 (c Q5q63 (c (so (cl (gs b0.c8.c4.2.2 Q5q34) nil)) (c (so (cl (gs b4.2.2.1 Q5q23) nil)) (c (so (cl (gs b5.2.2.1 Q5q23) nil)) (c (so (cl (gs b6.2.2.1 Q5q23) nil)) (c (so (cl (gs b7.2.2.1 Q5q23) nil)) (c (so (cl (gs b8.2.2.1 Q5q23) nil)) (c (so (cl (gs b9.2.2.1 Q5q23) nil)) Q5q65))))))))))))))))))) (cu (nat 0) (cu (nat 11) nil))))) : RS _)
def Z_AW_0 := (open Rq in (st (pr (cu (app 0 434) (us 3 (cu Q5q5 (us 109 (c Q5q53 (c ai (c ai (cl ab (us 14 nil))))))))) (pl (c Q5q71 (c Q5q8 (c Q5q49 (c (so (cl (ga (pr (szs hole) Q5q17)) nil)) (c Q5q39 (c Q5q40 (c Q5q41 (c Q5q42 (c Q5q43 (c Q5q44 (c Q5q24 (c Q5q63 (c (so Q5q57) (c Q5q56 (c Q5q56 (c Q5q56 (c Q5q56 (c Q5q56 (c Q5q56 Q5q65))))))))))))))))))) (cu (nat 0) (cu (nat 11) nil))))) : RS _)
abbrev X_AW_0 := ((Nat × Int × Int × Bool) × (ty2 × Bool × D_AT × (NI × NI) × Nat × ty9 × Int × (Int × Int × Int) × Bool × Bool × Int × Int × Int × ty3 × Nat) × ty10 × ty4 × (NI × NI × NI × NI × NI × NI × NI × NI) × ty0 × ty0 × ty0 × ty0 × ty0 × ty0 × ty7 × (Int × Int × Nat) × ty8 × ty1 × ty1 × ty1 × ty1 × ty1 × ty1 × ty16 × Nat × NI × NI × NI × NI × NI × NI × NI × NI × NI × NI × NI)
def E_AW_0 {ρ : Type} (x : X_AW_0) (K : AX → St → Option ρ) : Option ρ := (fun d => K (AX.ex 0) (Z_AW_0.em (d.1, d.2.1, d.2.2.1, d.2.2.2.1, (d.1.1, d.c4.1), d.c4.2.1, d.c4.2.2.1, d.c4.2.2.2.1, d.c8.1, d.c8.2.1, d.c8.2.2.1, d.c8.2.2.2.1, d.c8.c4.1, (d.2.1.c8.c4.2.2, d.c8.c4.2.1), (d.c4.2.1.2.2.1, d.c8.c4.2.2.1), (d.c4.2.2.1.2.2.1, d.c8.c4.2.2.2.1), (d.c4.2.2.2.1.2.2.1, d.c16.1), (d.c8.1.2.2.1, d.c16.2.1), (d.c8.2.1.2.2.1, d.c16.2.2.1), (d.c8.2.2.1.2.2.1, d.c16.2.2.2.1), d.c16.c4))) x
def S_AW_0 (g_BO : G_BO) (d : QL_AW_0.B) : Pg (QL_AW_0.B ⊕ X_AW_0) := let y0 := 0 + Int.toNat d.1.2.2; let y1 := decide (d.1.2.2 < d.1.2.1); cnd y1 (cnd (inR d.1.2.2 d.1.1) (cnd (nB d.c8.c4.1.2.2) (opt (g_BO ((d.2.1.2.2.1, d.c4.1.1 y0, d.c4.1.2.1 y0, (d.c4.1.2.2.1 y0, d.c4.1.2.2.2.1 y0, d.c4.1.c4.1 y0), d.c4.1.c4.2.1 y0, d.c4.1.c4.2.2.1 y0, d.c4.1.c4.2.2.2 y0), d.c8.c4.1, d.2.1.2.1, zj d.c16.c4.2.2.1,
 zj d.c16.c4.2.2.2.1, zj d.c16.c8.1, zj d.c16.c8.2.1, zj d.c16.c8.2.2.1, zj d.c16.c8.2.2.2.1, zj d.c16.c8.c4.1, zj d.c16.c8.c4.2.1, zj d.c16.c8.c4.2.2.1, zj d.c16.c8.c4.2.2.2.1, zj d.c16.c16)) fun d_1 => sm d_1 (fun d_2 => ret (Sum.inl ((d.1.1, d.1.2.1, wI (d.1.2.2 + 1)), (d.2.1.1, d_2.2.2, d.2.1.2.2), d.2.2.1, d.2.2.2.1, d.c4.1, d.c4.2.1, d.c4.2.2.1, d.c4.2.2.2.1, d.c8.1, d.c8.2.1, d.c8.2.2.1, d.c8.2.2.2.1,
 d_2.2.1, d.c8.c4.2))) (fun d_2 => ret (Sum.inl ((d.1.1, d.1.2.1, wI (d.1.2.2 + 1)), (d.2.1.1, d_2.1.2, d.2.1.2.2), d.2.2.1, d.2.2.2.1, d.c4.1, d.c4.2.1, d.c4.2.2.1, d.c4.2.2.2.1, d.c8.1, d.c8.2.1, d.c8.2.2.1, d.c8.2.2.2.1, d_2.1.1, d.c8.c4.2.1, d.c8.c4.2.2.1, d.c8.c4.2.2.2.1, d.c16.1, d.c16.2.1, d.c16.2.2.1, d.c16.2.2.2.1, d.c16.c4.1, d_2.2)))) no) no) (ret (Sum.inr ((d.1.1, d.1.2.1, d.1.2.2, y1),
 d.2)))
def L_AW_0 : QL_AW_0.B → Option X_AW_0 := loopP (S_AW_0 f_BO) 2000
def H_AW (l_0 : QL_AW_0.B → Option X_AW_0) : Hs := ⟨[⟨15, (1 :: 2 :: 3 :: rg 5 109 (rg 117 15 [])), [(1, [])]⟩], [smQ 15 20 QL_AW_0 E_AW_0 l_0], [11], [], (some ⟨0, (rg 0 132 []), []⟩)⟩
def B_AW (g_BU : G_BU) (g_Br : G_Br) (g_AF : G_AF) (g_AK : G_AK) (g_Au : G_Au) (g_AT : G_AT) (g_AZ : G_AZ) (g_Cc : G_Cc) (l_0 : QL_AW_0.B → Option X_AW_0) (x : Q_AW.B) : Pg D_AW := let y0 := wI (x.2.1.c4.2.2.2.1 + 1); opt (g_BU x.1.2.2.2.1 x.1.c4.1 x.1.c4.2 x.2.1.2.1) fun d => opt (g_Br x.1.2.1 d.2) fun d_1 => opt (g_AF 10529810258 d_1.1 30 d_1.2) fun d_2 => let y0_1 := wI (d.1 - d_2.1); let y1 := wI (d_2.1 - d.1); cnd (decide (wI (4 * if y1 > y0_1 then y1 else y0_1) > d_2.1)) (ret (Sum.inl ((x.2.1.1,
 d_2.2, x.2.1.2.2.1, x.2.1.2.2.2.1, x.2.1.c4.1, x.2.1.c4.2.1, x.2.1.c4.2.2.1, 0, (0, 0, 0), x.2.1.c8.2), x.c8.c4.1))) (opt (g_AK 2 d_2.2 (fun j => bif Nat.beq j 1 then x.1.2.2.2.1 else bif Nat.beq j 0 then x.2.1.c8.1.1 else x.2.1.c8.1.1) (fun j => bif Nat.beq j 1 then x.1.c4.1 else bif Nat.beq j 0 then x.2.1.c8.1.2.1 else x.2.1.c8.1.2.1) (fun j => bif Nat.beq j 1 then x.1.c4.2 else bif Nat.beq j 0 then x.2.1.c8.1.2.2 else x.2.1.c8.1.2.2) true) fun d => cnd (y0 != 10) (ret (Sum.inl ((x.2.1.1,
 d.2, x.2.1.2.2.1, x.2.1.2.2.2.1, x.2.1.c4.1, x.2.1.c4.2.1, x.2.1.c4.2.2.1, y0, d.1, x.2.1.c8.2), x.c8.c4.1))) (opt (g_Au d.1.1 d.1.2.1 d.1.2.2 d.2) fun d_3 => opt (g_AT x.2.1.2.2.1 0 4 (fun j => bif Nat.beq j 3 then d_3.1.2.2.2 else bif Nat.beq j 2 then d_3.1.2.2.1 else bif Nat.beq j 1 then d_3.1.2.1 else bif Nat.beq j 0 then d_3.1.1 else d_3.1.1) false) fun d_4 => opt (g_AZ x.2.1.2.2.2.1.1 x.2.1.2.2.2.1.2 0 4 d_3.2 x.2.1.1.c4.2.2.2.1 false) fun d_5 => cnd (nB x.c8.c4.1.2.2) (opt (g_Cc ((d_4,
 x.1.1), x.c8.c4.1, d_5.2, x.c16.c4)) fun d_6 => cnd (nB x.2.1.c4.1) (cnd (nB x.2.1.c16) (cnd (nB x.c4.2.1.2.2.1) (cnd (nB x.c4.2.2.1.2.2.1) (cnd (nB x.c4.2.2.2.1.2.2.1) (cnd (nB x.c8.1.2.2.1) (cnd (nB x.c8.2.1.2.2.1) (cnd (nB x.c8.2.2.1.2.2.1) (opt (l_0 ((x.2.1.c4.1, Int.ofNat x.2.1.c4.1, 0), (x.2.1.1, d_6.1.2, d_4, d_5.1, x.2.1.c4.1, x.2.1.c4.2.1, y0, d.1, x.2.1.c8.2.2), x.2.2.1, x.2.2.2.1, x.c4.1,
 x.c4.2.1, x.c4.2.2.1, x.c4.2.2.2.1, x.c8.1, x.c8.2.1, x.c8.2.2.1, x.c8.2.2.2.1, (d_6.1.1.1, d_6.1.1.2, 1), x.c8.c4.2.1, x.c8.c4.2.2.1, x.c8.c4.2.2.2.1, x.c16.1, x.c16.2.1, x.c16.2.2.1, x.c16.2.2.2.1, (x.c8.c4.1.2.2, x.c16.c4), 1, fun j => bif Nat.beq j 0 then d_6.2.1 else d_6.2.1, fun j => bif Nat.beq j 0 then d_6.2.2.1 else d_6.2.2.1, fun j => bif Nat.beq j 0 then d_6.2.2.2.1 else d_6.2.2.2.1, fun j => bif Nat.beq j 0 then d_6.c4.1 else d_6.c4.1,
 fun j => bif Nat.beq j 0 then d_6.c4.2.1 else d_6.c4.2.1, fun j => bif Nat.beq j 0 then d_6.c4.2.2.1 else d_6.c4.2.2.1, fun j => bif Nat.beq j 0 then d_6.c4.2.2.2.1 else d_6.c4.2.2.2.1, fun j => bif Nat.beq j 0 then d_6.c8.1 else d_6.c8.1, fun j => bif Nat.beq j 0 then d_6.c8.2.1 else d_6.c8.2.1, fun j => bif Nat.beq j 0 then d_6.c8.2.2.1 else d_6.c8.2.2.1, fun j => bif Nat.beq j 0 then d_6.c8.2.2.2 else d_6.c8.2.2.2)) fun d => ret (Sum.inr ((d.2.1,
 d.c8.c4.1), d.c16.c4.2))) no) no) no) no) no) no) no) no) no))
def f_AW (x : Q_AW.B) : Option D_AW := (B_AW f_BU f_Br f_AF f_AK f_Au f_AT f_AZ f_Cc L_AW_0 x).val
theorem dl_AW_0 : ∀ g_BU g_Br g_AF g_AK g_Au g_AT g_AZ g_Cc g_BO l_0, LoopIs Tryz.prog [e_BU g_BU, e_Br g_Br, e_AF g_AF, e_AK g_AK, e_Au g_Au, e_AT g_AT, e_AZ g_AZ, e_Cc g_Cc, e_BO g_BO] (H_AW l_0) 20 2000 66 15 QL_AW_0 E_AW_0 (S_AW_0 g_BO) := fun _ _ _ _ _ _ _ _ _ _ _ d c K => by kernel_rfl
theorem d_AW : ∀ g_BU g_Br g_AF g_AK g_Au g_AT g_AZ g_Cc g_BO l_0, DenIs Tryz.prog [e_BU g_BU, e_Br g_Br, e_AF g_AF, e_AK g_AK, e_Au g_Au, e_AT g_AT, e_AZ g_AZ, e_Cc g_Cc, e_BO g_BO] (H_AW l_0) 2000 66 Q_AW R_AW fun b => B_AW g_BU g_Br g_AF g_AK g_Au g_AT g_AZ g_Cc l_0 b := fun _ _ _ _ _ _ _ _ _ _ b => by kernel_rfl
theorem s_AW [Amb] : Snd Tryz.prog (e_AW f_AW) := Snd.of (mkS mixed (.c s_BU (.c s_Br (.c s_AF (.c s_AK (.c s_Au (.c s_AT (.c s_AZ (.c s_Cc (.c s_BO (.nil _)))))))))) (by kernel_rfl) (Sums.by (l := [loopIn Tryz.prog 66 15]) (lj := []) (by kernel_rfl) ⟨mkL (S := S_AW_0 f_BO) (by kernel_rfl) (dl_AW_0 f_BU f_Br f_AF f_AK f_Au f_AT f_AZ f_Cc f_BO L_AW_0), trivial⟩ (by kernel_rfl) trivial) (d_AW f_BU f_Br f_AF f_AK f_Au f_AT f_AZ f_Cc f_BO L_AW_0)) (by kernel_rfl)

def Q_Cs := (open Rq in (pl (cl (aa (c gi (c gi (cl gi nil)))) nil) nil) : RA _)
def RR_earth_New_ok_k0 := (open Rq in Q5q27 : RE _)
def RR_earth_New_ok_k1 := (open Rq in (res (pu (atup (cu (rc (cp 0 5)) (cu (rc (cf (fi .i64 (int 0)))) nil))) (pu nil (cl (c gi (c gi (c gi (c gi (cl gi nil))))) nil)))) : RE _)
abbrev D_Cs := RR_earth_New_ok_k0.B ⊕ RR_earth_New_ok_k1.B
def RF_Cs (d : D_Cs) : T := (fun x => T.sum x (fun d => .leaf (RR_earth_New_ok_k0.em d)) (fun d => .leaf (RR_earth_New_ok_k1.em d))) d
def R_Cs (d : D_Cs) : T := (fun x => T.sum x (fun _ => .fail) (fun d => .leaf (RR_earth_New_ok_k1.em d))) d
abbrev G_Cs := Int → Int → Int → Option D_Cs
def e_Cs (g : G_Cs) : Ct := (24, FC Q_Cs R_Cs (fun b => g b.1 b.2.1 b.2.2))
def B_Cs (g_Bl : G_Bl) (g_Bo : G_Bo) (g_AH : G_AH) (g_BP : G_BP) (g_Bi : G_Bi) (g_CM : G_CM) (g_AL : G_AL) (x0 : Int) (x1 : Int) (x2 : Int) : Pg D_Cs := opt (g_Bl x0 x1 x2) fun d => cnd (!d) (ret (Sum.inl ())) (cnd (decide (x0 > 850000000)) (ret (Sum.inl ())) (cnd (decide (x0 < -850000000)) (ret (Sum.inl ())) (opt (g_AH x0 3373259426 1800000000 false) fun d => opt (g_BP d.1 d.2) fun d_1 => opt (g_Bi d.1 d_1.2) fun d => opt (g_Bo d_1.1 d_1.1 d.2) fun d_2 => opt (g_Bo 7188036 d_2.1 d_2.2) fun d_3 => let y0 := wI (1073741824 - d_3.1); opt (g_CM y0 d_3.2) fun d_4 => opt (g_AL 6531212288 d_4.1 30 d_4.2) fun d_5 => opt (g_Bo 6531212288 1066553788 d_5.2) fun d_6 => opt (g_Bo y0 d_4.1 d_6.2) fun d_7 => opt (g_AL d_6.1 d_7.1 30 d_7.2) fun d_8 => opt (g_AH d_8.1 3373259426 1800000000 d_8.2) fun d_9 => opt (g_Bo d_5.1 d.1 d_9.2) fun d => opt (g_AH d.1 3373259426 1800000000 d.2) fun d => ret (Sum.inr (x0,
 x1, x2, d_9.1, d.1)))))
def f_Cs (x0 : Int) (x1 : Int) (x2 : Int) : Option D_Cs := (B_Cs f_Bl f_Bo f_AH f_BP f_Bi f_CM f_AL x0 x1 x2).val
theorem d_Cs : ∀ g_Bl g_Bo g_AH g_BP g_Bi g_CM g_AL, DenIs Tryz.prog [e_Bl g_Bl, e_Bo g_Bo, e_AH g_AH, e_BP g_BP, e_Bi g_Bi, e_CM g_CM, e_AL g_AL] ⟨[], [], [], [], none⟩ 2000 24 Q_Cs RF_Cs fun b => B_Cs g_Bl g_Bo g_AH g_BP g_Bi g_CM g_AL b.1 b.2.1 b.2.2 := fun _ _ _ _ _ _ _ b => by kernel_rfl
theorem s_Cs [Amb] : Snd Tryz.prog (e_Cs f_Cs) := Snd.of (FC_weaken (R := RF_Cs) (R' := R_Cs) (fun d r h => by rcases d with d | d <;> first | exact h | (have h : (none : Option Res) = some r := h; cases h)) <| mk0 mixed (.c s_Bl (.c s_Bo (.c s_AH (.c s_BP (.c s_Bi (.c s_CM (.c s_AL (.nil _)))))))) (by kernel_rfl) (d_Cs f_Bl f_Bo f_AH f_BP f_Bi f_CM f_AL)) (by kernel_rfl)

def Q_Cu := (open Rq in (pl (cl ai nil) nil) : RA _)
def RR_downs_New_ok_k0 := (open Rq in Q5q27 : RE _)
def RR_downs_New_ok_k1 := (open Rq in (res (pu (atup (cu (rc (cp 0 10)) (cu (rc (cf (fi .i64 (int 0)))) nil))) (pu nil (cl Q5q66 nil)))) : RE _)
abbrev D_Cu := RR_downs_New_ok_k0.B ⊕ RR_downs_New_ok_k1.B
def RF_Cu (d : D_Cu) : T := (fun x => T.sum x (fun d => .leaf (RR_downs_New_ok_k0.em d)) (fun d => .leaf (RR_downs_New_ok_k1.em d))) d
def R_Cu (d : D_Cu) : T := (fun x => T.sum x (fun _ => .fail) (fun d => .leaf (RR_downs_New_ok_k1.em d))) d
abbrev G_Cu := Int → Option D_Cu
def e_Cu (g : G_Cu) : Ct := (25, FC Q_Cu R_Cu (fun b => g b))
def B_Cu (x0 : Int) : Pg D_Cu := cnd (decide (x0 < 1000)) (ret (Sum.inl ())) (cnd (decide (x0 > 100000)) (ret (Sum.inl ())) (ret (Sum.inr x0)))
def f_Cu (x0 : Int) : Option D_Cu := (B_Cu x0).val
theorem d_Cu : DenIs Tryz.prog [] ⟨[], [], [], [], none⟩ 2000 25 Q_Cu RF_Cu fun b => B_Cu b := fun b => by kernel_rfl
theorem s_Cu [Amb] : Snd Tryz.prog (e_Cu f_Cu) := Snd.of (FC_weaken (R := RF_Cu) (R' := R_Cu) (fun d r h => by rcases d with d | d <;> first | exact h | (have h : (none : Option Res) = some r := h; cases h)) <| mk0 mixed (.nil _) (by kernel_rfl) d_Cu) (by kernel_rfl)

def Q_BN := (open Rq in (dp (c ai (cl (ac (slc 0 1)) nil)) fun v => (cl (cl (gs v.2.1 (cl kci nil)) nil) nil)) : RA _)
def RR_health_New_ok_k0 := (open Rq in (res (pu Q5q12 (pu (cu chk nil) nil))) : RE _)
def RR_health_New_ok_k1 := (open Rq in (res (pu (atup (cu (rc (cp 1 37)) (cu (rc (cf (fi .i64 (int 0)))) nil))) (pu (cu chk nil) (cl Q5q50 nil)))) : RE _)
abbrev D_BN := RR_health_New_ok_k0.B ⊕ RR_health_New_ok_k1.B
def RF_BN (d : D_BN) : T := (fun x => T.sum x (fun d => .leaf (RR_health_New_ok_k0.em d)) (fun d => .leaf (RR_health_New_ok_k1.em d))) d
def R_BN (d : D_BN) : T := (fun x => T.sum x (fun _ => .fail) (fun d => .leaf (RR_health_New_ok_k1.em d))) d
abbrev G_BN := Int → Nat → NI → Bool → Option D_BN
def e_BN (g : G_BN) : Ct := (26, nilF 1 [.i .i64] (FC Q_BN R_BN (fun b => g b.1.1 b.1.2.1 b.2 b.1.2.2)))
def QL_BN_0 := (open Rq in (st (dp (c ai (us 1 (xs 1 (us 3 (cu (app 1 37) (us 15 (c (ac (slc 0 1)) (c ai (cl ai (us 21 nil)))))))))) fun v => (pl (c (so (cl (gs v.2.1.1 (cl kci nil)) nil)) Q5q58) nil))) : RS _)
def Z_health_New_ok_0_k0 := (open Rq in (st (pu (us 4 (cu (ac cnilp) (cu (ac (cf (fi .i64 (int 1)))) (us 40 nil)))) (pl (cl Q5q2 nil) nil))) : RS _)
def Z_health_New_ok_0_k1 := (open Rq in (st (pr (c ai (us 1 (xs 1 (us 3 (cu (app 1 37) (us 15 (c (ac (slc 0 1)) (c ai (c ai (cl ab (us 20 nil))))))))))) (pl (c Q5q2 Q5q58) nil))) : RS _)
abbrev X_BN_0 := Z_health_New_ok_0_k0.B ⊕ ((Int × (Nat × Bool) × Int × Int × Bool) × NI × NI × NI × (Nat → Bool) × NI × NI × NI)
def E_BN_0 {ρ : Type} (x : X_BN_0) (K : AX → St → Option ρ) : Option ρ := (Sum.elim (fun d => K AX.ret (Z_health_New_ok_0_k0.em d)) (fun d => K (AX.ex 0) (Z_health_New_ok_0_k1.em (d.1, (d.1.2.1.1, d.2.1), d.2.2)))) x
def S_BN_0 (d : QL_BN_0.B) : Pg (QL_BN_0.B ⊕ X_BN_0) := let y0 := Int.toNat d.1.2.2.2; let y1 := 0 + y0 * 6 + 6; let y2 := decide (d.1.2.2.2 < d.1.2.2.1); cnd y2 (cnd (inR d.1.2.2.2 d.1.2.1.1) (cnd (decide (d.2.1 y0 < 1)) (ret (Sum.inr (Sum.inl (d.1.2.1.1, d.2.1)))) (cnd (decide (d.2.1 y0 > 1099511627776)) (ret (Sum.inr (Sum.inl (d.1.2.1.1, d.2.1)))) (cnd (inR d.1.2.2.2 6) (cnd (Nat.ble y1 36 && Nat.ble y1 37) (ret (Sum.inl ((d.1.1,
 d.1.2.1, d.1.2.2.1, wI (d.1.2.2.2 + 1)), d.2.1, fun j => bif Nat.beq j y0 then 0 else d.2.2.1 j, fun j => bif Nat.beq j y0 then 0 else d.2.2.2.1 j, fun j => bif Nat.beq j y0 then false else d.c4.1 j, fun j => bif Nat.beq j y0 then d.1.2.2.2 else d.c4.2.1 j, fun j => bif Nat.beq j y0 then d.2.1 y0 else d.c4.2.2.1 j, fun j => bif Nat.beq j y0 then d.1.1 else d.c4.2.2.2 j))) no) no))) no) (ret (Sum.inr (Sum.inr ((d.1.1,
 d.1.2.1, d.1.2.2.1, d.1.2.2.2, y2), d.2))))
def L_BN_0 : QL_BN_0.B → Option X_BN_0 := loopP (S_BN_0) 2000
def H_BN (l_0 : QL_BN_0.B → Option X_BN_0) : Hs := ⟨[⟨5, [1, 3, 4, 5, 7, 8, 9, 10, 11, 12, 13, 14, 15, 16, 17, 18, 19, 20, 21, 25, 26, 27, 28, 29, 30, 31, 34, 35, 36, 37, 38, 39, 40, 41, 42, 43, 44, 45, 32, 33], []⟩], [smQ 5 1 QL_BN_0 E_BN_0 l_0], [], [], (some ⟨0, (rg 0 4 (rg 6 40 [])), []⟩)⟩
def B_BN (l_0 : QL_BN_0.B → Option X_BN_0) (x0 : Int) (x1 : Nat) (x2 : Nat → Int) (w0 : Bool) : Pg D_BN := cnd (decide (x0 < 0)) (ret (Sum.inl ())) (cnd (decide (x0 > 100)) (ret (Sum.inl ())) (cnd (Int.ofNat x1 != 6) (ret (Sum.inl ())) (cnd (nB x1) (opt (l_0 ((x0, (x1, w0), Int.ofNat x1, 0), x2, fun x => 0, fun x => 0, fun x => false, fun x => 0, fun x => 0, fun x => 0)) fun x => sum x (fun d => ret (Sum.inl ())) fun d => ret (Sum.inr d.2.2)) no)))
def f_BN (x0 : Int) (x1 : Nat) (x2 : Nat → Int) (w0 : Bool) : Option D_BN := (B_BN L_BN_0 x0 x1 x2 w0).val
theorem dl_BN_0 : ∀ l_0, LoopIs Tryz.prog [] (H_BN l_0) 1 2000 26 5 QL_BN_0 E_BN_0 (S_BN_0) := fun _ _ d c K => by kernel_rfl
theorem d_BN : ∀ l_0, DenIs Tryz.prog [] (H_BN l_0) 2000 26 Q_BN RF_BN fun b => B_BN l_0 b.1.1 b.1.2.1 b.2 b.1.2.2 := fun _ b => by kernel_rfl
theorem s_BN [Amb] : Snd Tryz.prog (e_BN f_BN) := Snd.of (Sound.nil 1 [.i .i64] <| FC_weaken (R := RF_BN) (R' := R_BN) (fun d r h => by rcases d with d | d <;> first | exact h | (have h : (none : Option Res) = some r := h; cases h)) <| mkS mixed (.nil _) (by kernel_rfl) (Sums.by (l := [loopIn Tryz.prog 26 5]) (lj := []) (by kernel_rfl) ⟨mkL (S := S_BN_0) (by kernel_rfl) (dl_BN_0 L_BN_0), trivial⟩ (by kernel_rfl) trivial) (d_BN L_BN_0)) (by kernel_rfl)

def Q_Cv := (open Rq in (pl (c ai (cl ai nil)) nil) : RA _)
def RR_output_New_ok_k0 := (open Rq in Q5q27 : RE _)
def RR_output_New_ok_k1 := (open Rq in (res (pu (atup (cu (rc (cp 0 3)) (cu (rc (cf (fi .i64 (int 0)))) nil))) (pu nil (c (c gi (cl gi (cu (gc (csl (pu (nat 1) (pu (ok' (nat 0)) (pu (szs (nat 0)) (pu (nat 11) (bool true))))))) nil))) Q5q62)))) : RE _)
abbrev D_Cv := RR_output_New_ok_k0.B ⊕ ((Int × Int) × NI)
def RF_Cv (d : D_Cv) : T := (fun x => T.sum x (fun d => .leaf (RR_output_New_ok_k0.em d)) (fun d => .leaf (RR_output_New_ok_k1.em (d.1, d.2, d.2, d.2, d.2, d.2, d.2, d.2, d.2, d.2, d.2, d.2)))) d
def R_Cv (d : D_Cv) : T := (fun x => T.sum x (fun _ => .fail) (fun d => .leaf (RR_output_New_ok_k1.em (d.1, d.2, d.2, d.2, d.2, d.2, d.2, d.2, d.2, d.2, d.2, d.2)))) d
abbrev G_Cv := Int → Int → Option D_Cv
def e_Cv (g : G_Cv) : Ct := (27, FC Q_Cv R_Cv (fun b => g b.1 b.2))
def B_Cv (x0 : Int) (x1 : Int) : Pg D_Cv := cnd (decide (x0 < 1)) (ret (Sum.inl ())) (cnd (decide (x0 > 64)) (ret (Sum.inl ())) (cnd (decide (x1 < 1)) (ret (Sum.inl ())) (cnd (decide (x1 > 1073741824)) (ret (Sum.inl ())) (ret (Sum.inr ((x0, x1), fun x => 0))))))
def f_Cv (x0 : Int) (x1 : Int) : Option D_Cv := (B_Cv x0 x1).val
theorem d_Cv : DenIs Tryz.prog [] ⟨[], [], [], [], none⟩ 2000 27 Q_Cv RF_Cv fun b => B_Cv b.1 b.2 := fun b => by kernel_rfl
theorem s_Cv [Amb] : Snd Tryz.prog (e_Cv f_Cv) := Snd.of (FC_weaken (R := RF_Cv) (R' := R_Cv) (fun d r h => by rcases d with d | d <;> first | exact h | (have h : (none : Option Res) = some r := h; cases h)) <| mk0 mixed (.nil _) (by kernel_rfl) d_Cv) (by kernel_rfl)

def Q_Cf := (open Rq in (pl (cl ai nil) nil) : RA _)
def RR_ring_New_ok_k0 := (open Rq in Q5q27 : RE _)
def RR_ring_New_ok_k1 := (open Rq in (res (pu (atup (cu (rc (cp 0 8)) (cu (rc (cf (fi .i64 (int 0)))) nil))) (pu nil (c (cu (gc (cf (fi .i64 (int 0)))) (cu (gc (cf (fi .i64 (int 0)))) (cu (gc (cf (fi .i64 (int 0)))) (cu (gc (cf (fi .i64 (int 0)))) (cu (gc (cf (fi .i64 (int 0)))) (cl gi (cu (gc (csl (pu (nat 1) (pu (ok' (nat 0)) (pu (szs (nat 0)) (pu (nat 9) (bool true))))))) Q5q10))))))) (cl Q5q54 nil))))) : RE _)
abbrev D_Cf := RR_ring_New_ok_k0.B ⊕ (Int × NI)
def RF_Cf (d : D_Cf) : T := (fun x => T.sum x (fun d => .leaf (RR_ring_New_ok_k0.em d)) (fun d => .leaf (RR_ring_New_ok_k1.em (d.1, d.2, d.2, d.2, d.2, d.2, d.2, d.2, d.2, d.2)))) d
def R_Cf (d : D_Cf) : T := (fun x => T.sum x (fun _ => .fail) (fun d => .leaf (RR_ring_New_ok_k1.em (d.1, d.2, d.2, d.2, d.2, d.2, d.2, d.2, d.2, d.2)))) d
abbrev G_Cf := Int → Option D_Cf
def e_Cf (g : G_Cf) : Ct := (28, FC Q_Cf R_Cf (fun b => g b))
def B_Cf (x0 : Int) : Pg D_Cf := cnd (decide (x0 < 1)) (ret (Sum.inl ())) (cnd (decide (x0 > 64)) (ret (Sum.inl ())) (ret (Sum.inr (x0, fun x => 0))))
def f_Cf (x0 : Int) : Option D_Cf := (B_Cf x0).val
theorem d_Cf : DenIs Tryz.prog [] ⟨[], [], [], [], none⟩ 2000 28 Q_Cf RF_Cf fun b => B_Cf b := fun b => by kernel_rfl
theorem s_Cf [Amb] : Snd Tryz.prog (e_Cf f_Cf) := Snd.of (FC_weaken (R := RF_Cf) (R' := R_Cf) (fun d r h => by rcases d with d | d <;> first | exact h | (have h : (none : Option Res) = some r := h; cases h)) <| mk0 mixed (.nil _) (by kernel_rfl) d_Cf) (by kernel_rfl)

def Q_BG := (open Rq in (pl (cl (aa Q5q64) nil) nil) : RA _)
def RR_ekf_New_k0 := (open Rq in (res (pu (atup (cu (rc cnilp) (cu (rc (cf (fi .i64 (int 5)))) nil))) (pu nil nil))) : RE _)
def RR_ekf_New_k1 := (open Rq in (res (pu (atup (cu (rc (cp 0 434)) (cu (rc (cf (fi .i64 (int 0)))) nil))) (pu nil (c (c gi (c gi (c gi (c gi (c gi (c gi (c gi (c gi (c gi (c gi (c gi (c gi (c gi (c gi (c gi (c gi (c (gl 24 (cl kci nil)) (c (gl 24 (cl kci nil)) (c gi (c gi (c gi (c gi (c gi (c gi (c gi (c gi (c gb (c (gl 24 (cl kci nil)) (c (gl 276 (cl kci nil)) (cl (gl 24 (cl kci nil)) (cu (gp 1 5) (cu (gp 2 10) (cu (gc (csl (pu (nat 3) (pu (ok' (nat 0)) (pu (szs (nat 0)) (pu (nat 8) (bool true))))))) (cu (gp 4 8) (cu (gp 5 8) (cu (gp 6 8) (cu (gp 7 8) (cu (gp 8 8) (cu (gp 9 8) (cu (gp 10 37) (cu (gc (cf (fi .i64 (int 0)))) (cu (gc (cf (fi .i64 (int 0)))) (cu (gc (cf (fb (bool false)))) (cu (gc (cf (fb (bool false)))) (cu (gp 11 3) (cu (gc (cf (fb (bool false)))) (cu (gc (cf (fi .i64 (int 0)))) (cu (gc (cf (fi .i64 (int 0)))) (cu (gc (cf (fi .i64 (int 0)))) (cu (gc (cf (fi .i64 (int 0)))) (cu (gc (cf (fb (bool false)))) (cu (gc (cf (fb (bool false)))) (cu (gc (cf (fb (bool false)))) (cu (gc (cf (fi .i64 (int 0)))) (cu (gc (cf (fi .i64 (int 0)))) (cu (gc (cf (fi .i64 (int 0)))) (cu (gc (cf (fi .i64 (int 1073741824)))) (cu (gc (cf (fi .i64 (int 0)))) (cu (gc (cf (fi .i64 (int 0)))) (cu (gc (cf (fi .i64 (int 0)))) (cu (gc (cf (fi .i64 (int 0)))) (cu (gc (cf (fi .i64 (int 0)))) (cu (gc (cf (fi .i64 (int 0)))) (cu (gc (cf (fi .i64 (int 0)))) (cu (gc (cf (fi .i64 (int 0)))) (cu (gc (cf (fi .i64 (int 0)))) (cu (gc (csl (pu (nat 12) (pu (ok' (nat 0)) (pu (szs (nat 0)) (pu (nat 10) (bool true))))))) nil))))))))))))))))))))))))))))))))))))))))))))))))))))))))))))))))))) (c (c gi (c gi (c gi (c gi (cl gi nil))))) (c Q5q66 (c (cl (ga (pu (szs (nat 0)) Q5q17)) nil) (c (cu (gc (cf (fi .i64 (int 0)))) (cu (gc (cf (fi .i64 (int 0)))) (cu (gc (cf (fi .i64 (int 0)))) (cu (gc (cf (fi .i64 (int 0)))) (cu (gc (cf (fi .i64 (int 0)))) (cl gi (cu (gc (csl (pu (nat 13) (pu (ok' (nat 0)) (pu (szs (nat 0)) (pu (nat 9) (bool true))))))) Q5q10))))))) (c (cu (gc (cf (fi .i64 (int 0)))) (cu (gc (cf (fi .i64 (int 0)))) (cu (gc (cf (fi .i64 (int 0)))) (cu (gc (cf (fi .i64 (int 0)))) (cu (gc (cf (fi .i64 (int 0)))) (cl gi (cu (gc (csl (pu (nat 14) (pu (ok' (nat 0)) (pu (szs (nat 0)) (pu (nat 9) (bool true))))))) Q5q10))))))) (c (cu (gc (cf (fi .i64 (int 0)))) (cu (gc (cf (fi .i64 (int 0)))) (cu (gc (cf (fi .i64 (int 0)))) (cu (gc (cf (fi .i64 (int 0)))) (cu (gc (cf (fi .i64 (int 0)))) (cl gi (cu (gc (csl (pu (nat 15) (pu (ok' (nat 0)) (pu (szs (nat 0)) (pu (nat 9) (bool true))))))) Q5q10))))))) (c (cu (gc (cf (fi .i64 (int 0)))) (cu (gc (cf (fi .i64 (int 0)))) (cu (gc (cf (fi .i64 (int 0)))) (cu (gc (cf (fi .i64 (int 0)))) (cu (gc (cf (fi .i64 (int 0)))) (cl gi (cu (gc (csl (pu (nat 16) (pu (ok' (nat 0)) (pu (szs (nat 0)) (pu (nat 9) (bool true))))))) Q5q10))))))) (c (cu (gc (cf (fi .i64 (int 0)))) (cu (gc (cf (fi .i64 (int 0)))) (cu (gc (cf (fi .i64 (int 0)))) (cu (gc (cf (fi .i64 (int 0)))) (cu (gc (cf (fi .i64 (int 0)))) (cl gi (cu (gc (csl (pu (nat 17) (pu (ok' (nat 0)) (pu (szs (nat 0)) (pu (nat 9) (bool true))))))) Q5q10))))))) (c (cu (gc (cf (fi .i64 (int 0)))) (cu (gc (cf (fi .i64 (int 0)))) (cu (gc (cf (fi .i64 (int 0)))) (cu (gc (cf (fi .i64 (int 0)))) (cu (gc (cf (fi .i64 (int 0)))) (cl gi (cu (gc (csl (pu (nat 18) (pu (ok' (nat 0)) (pu (szs (nat 0)) (pu (nat 9) (bool true))))))) Q5q10))))))) (c Q5q50 (c (c gi (cl gi (cu (gc (csl (pu (nat 19) (pu (ok' (nat 0)) (pu (szs (nat 0)) (pu (nat 11) (bool true))))))) nil))) (c (cl (ga (pu (szs (nat 0)) Q5q34)) nil) (c Q5q54 (c Q5q54 (c Q5q54 (c Q5q54 (c Q5q54 (c Q5q54 Q5q62)))))))))))))))))))))) : RE _)
abbrev D_BG := RR_ekf_New_k0.B ⊕ ((Int × Int × Int × Int × Int × Int × Int × Int × Int × Int × Int × Int × Int × Int × Int × Int × NI × NI × Int × Int × Int × Int × Int × Int × Int × Int × Bool × NI × NI × NI) × ty13 × Int × NI × Int × Int × Int × Int × Int × Int × (NI × NI × (Nat → Bool) × NI × NI × NI) × (Int × Int) × NI × NI × NI × NI × NI × NI × NI)
def R_BG (d : D_BG) : T := (fun x => T.sum x (fun d => .leaf (RR_ekf_New_k0.em d)) (fun d => .leaf (RR_ekf_New_k1.em (d.1, d.2.1, d.2.2.1, (d.2.2.2.1, d.2.2.2.1, d.2.2.2.1, d.2.2.2.1, d.2.2.2.1, d.2.2.2.1, d.2.2.2.1, d.2.2.2.1), d.c4.1, d.c4.2.1, d.c4.2.2.1, d.c4.2.2.2.1, d.c8.1, d.c8.2.1, d.c8.2.2.1, d.c8.2.2.2.1, (d.2.2.2.1, d.2.2.2.1, d.2.2.2.1, d.2.2.2.1, d.2.2.2.1, d.2.2.2.1, d.2.2.2.1, d.2.2.2.1,
 d.2.2.2.1, d.2.2.2.1), (d.c8.c4.1, d.c8.c4.1, d.c8.c4.1, d.c8.c4.1, d.c8.c4.1, d.c8.c4.1, d.c8.c4.1, d.c8.c4.1, d.c8.c4.1), (d.c8.c4.2.1, d.c8.c4.2.1, d.c8.c4.2.1, d.c8.c4.2.1, d.c8.c4.2.1, d.c8.c4.2.1, d.c8.c4.2.1, d.c8.c4.2.1, d.c8.c4.2.1), (d.c8.c4.2.2.1, d.c8.c4.2.2.1, d.c8.c4.2.2.1, d.c8.c4.2.2.1, d.c8.c4.2.2.1, d.c8.c4.2.2.1, d.c8.c4.2.2.1, d.c8.c4.2.2.1, d.c8.c4.2.2.1), (d.c8.c4.2.2.2.1, d.c8.c4.2.2.2.1,
 d.c8.c4.2.2.2.1, d.c8.c4.2.2.2.1, d.c8.c4.2.2.2.1, d.c8.c4.2.2.2.1, d.c8.c4.2.2.2.1, d.c8.c4.2.2.2.1, d.c8.c4.2.2.2.1), (d.c16.1, d.c16.1, d.c16.1, d.c16.1, d.c16.1, d.c16.1, d.c16.1, d.c16.1, d.c16.1), (d.c16.2.1, d.c16.2.1, d.c16.2.1, d.c16.2.1, d.c16.2.1, d.c16.2.1, d.c16.2.1, d.c16.2.1, d.c16.2.1), d.c16.2.2, d.c16.2.2, d.c16.2.2, d.c16.2.2, d.c16.2.2, d.c16.2.2, d.c16.2.2, d.c16.2.2, d.c16.2.2,
 d.c16.2.2, d.c16.2.2)))) d
abbrev G_BG := Q_BG.B → Option D_BG
def e_BG (g : G_BG) : Ct := (6, FC Q_BG R_BG g)
def B_BG (g_AN : G_AN) (g_DF : G_DF) (g_BL : G_BL) (g_BD : G_BD) (g_Cs : G_Cs) (g_Cu : G_Cu) (g_BN : G_BN) (g_Cv : G_Cv) (g_Cf : G_Cf) (x : Q_BG.B) : Pg D_BG := opt (g_AN x) fun d => cnd (!d) (ret (Sum.inl ())) (opt g_DF fun d => opt (g_BL (fun x => 0) false) fun d => opt (g_BD 24 d.2 x.c4.2.2.2.1 false) fun d_1 => opt (g_Cs x.c8.c4.2.1 x.c8.c4.2.2.1 x.c8.c4.2.2.2) fun d_2 => sm d_2 (fun d => no) (fun d_3 => opt (g_Cu x.1) fun d_4 => sm d_4 (fun d => no) (fun d_5 => opt (g_BN x.2.2.2.1 6 (fun j => bif Nat.beq j 5 then x.c4.2.1.c4.2 else bif Nat.beq j 4 then x.c4.2.1.c4.1 else bif Nat.beq j 3 then x.c4.2.1.2.2.2.1 else bif Nat.beq j 2 then x.c4.2.1.2.2.1 else bif Nat.beq j 1 then x.c4.2.1.2.1 else bif Nat.beq j 0 then x.c4.2.1.1 else x.c4.2.1.1) false) fun d_6 => sm d_6 (fun d => no) (fun d_7 => opt (g_Cv x.c8.c4.1 x.c8.2.2.2.1) fun d_8 => sm d_8 (fun d => no) (fun d_9 => opt (g_Cf x.2.2.1) fun d_10 => sm d_10 (fun d => no) (fun d_11 => opt (g_Cf x.2.2.1) fun d_12 => sm d_12 (fun d => no) (fun d_13 => opt (g_Cf x.2.2.1) fun d_14 => sm d_14 (fun d => no) (fun d_15 => opt (g_Cf x.2.2.1) fun d_16 => sm d_16 (fun d => no) (fun d_17 => opt (g_Cf x.2.2.1) fun d_18 => sm d_18 (fun d => no) (fun d_19 => opt (g_Cf x.2.2.1) fun d_20 => sm d_20 (fun d => no) (fun d_21 => ret (Sum.inr ((x.1,
 x.2.1, x.2.2.1, x.2.2.2.1, x.c4.1.1, x.c4.1.2.1, x.c4.1.2.2.1, x.c4.1.2.2.2.1, x.c4.1.c4.1, x.c4.1.c4.2, x.c4.2.1.1, x.c4.2.1.2.1, x.c4.2.1.2.2.1, x.c4.2.1.2.2.2.1, x.c4.2.1.c4.1, x.c4.2.1.c4.2, x.c4.2.2.1, x.c4.2.2.2.1, x.c8.1, x.c8.2.1, x.c8.2.2.1, x.c8.2.2.2.1, x.c8.c4.1, x.c8.c4.2.1, x.c8.c4.2.2.1, x.c8.c4.2.2.2, d_1.2, d.1, d_1.1), d_3, d_5, fun x => 0, d_11.1, d_13.1, d_15.1, d_17.1, d_19.1,
 d_21.1, d_7, d_9.1, d_11.2, d_13.2, d_15.2, d_17.2, d_19.2, d_21.2, d_9.2)))))))))))))
def f_BG (x : Q_BG.B) : Option D_BG := (B_BG f_AN f_DF f_BL f_BD f_Cs f_Cu f_BN f_Cv f_Cf x).val
theorem d_BG : ∀ g_AN g_DF g_BL g_BD g_Cs g_Cu g_BN g_Cv g_Cf, DenIs Tryz.prog [e_AN g_AN, e_DF g_DF, e_BL g_BL, e_BD g_BD, e_Cs g_Cs, e_Cu g_Cu, e_BN g_BN, e_Cv g_Cv, e_Cf g_Cf] ⟨[⟨11, (0 :: 2 :: 3 :: rg 5 65 (rg 71 15 [])), []⟩], [], [], [], (some ⟨0, (0 :: 1 :: rg 4 82 []), []⟩)⟩ 2000 6 Q_BG R_BG fun b => B_BG g_AN g_DF g_BL g_BD g_Cs g_Cu g_BN g_Cv g_Cf b := fun _ _ _ _ _ _ _ _ _ b => by kernel_rfl
theorem s_BG [Amb] : Snd Tryz.prog (e_BG f_BG) := Snd.of (mkS mixed (.c s_AN (.c s_DF (.c s_BL (.c s_BD (.c s_Cs (.c s_Cu (.c s_BN (.c s_Cv (.c s_Cf (.nil _)))))))))) (by kernel_rfl) (Sums.by (l := [loopIn Tryz.prog 6 11]) (lj := []) (by kernel_rfl) ⟨SumOK.no (by kernel_rfl), trivial⟩ (by kernel_rfl) trivial) (d_BG f_AN f_DF f_BL f_BD f_Cs f_Cu f_BN f_Cv f_Cf)) (by kernel_rfl)

end Go.Proofs.YtphkdkkbbfnkaaaGreat
