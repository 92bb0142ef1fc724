/-
  Contracts by plain functions: fuse.All, fuse.Count, reset.Nothing, reset.Join, reset.Yaw, reset.moved, (*jac.sum).add, jac.Turned, jac.Of, jac.Step, gnss.place, earth.Good, gnss.Good, gnss.variance, gnss.Read, bierman.Pick, gnss.straight, gnss.Velocity, (*earth.Frame).To, gnss.Horizontal, gnss.Height, height.variance, height.read, height.ReadBaro, height.Baro, height.ReadRange, height.Range, mag.variance, mag.Read, mag.Axes, mag.points, mag.Heading, mag.Level, air.variance, air.Read, air.Relative, air.along, air.Airspeed, air.Sideslip, flow.variance, flow.Read, flow.Distance, flow.Both, health.is, (*health.Watch).Mark, (*health.Watch).Miss, (*health.Monitor).Result, (*health.Watch).Fresh, (*health.Sensor).Usable, (*health.Monitor).Usable, (*health.Monitor).Faults, (*health.Monitor).Bad, (*health.Monitor).Vertical
-/
import Derived.Test.YtphkdkkbbfnkaaaGreatZA
import Derived.Test.YtphkdkkbbfnkaaaGreatQ2
set_option maxRecDepth 100000
set_option maxHeartbeats 4000000
set_option linter.unusedVariables false
noncomputable section
namespace Go.Proofs.YtphkdkkbbfnkaaaGreat
open Go.Ab Go.Ab.Pg
def Q3q9 := open Rq in (atup (c (ra (c gi (c gi (cl gi nil)))) (cl (rc ci) nil)))
def Q3q13 := open Rq in (c gi (c gi (c gi (c gi (c gi (c gi (c gi (cl gi nil))))))))
def Q3q16 := open Rq in (c gi Q3q13)
def Q3q19 := open Rq in (aa Q3q16)
def Q3q21 := open Rq in (c (gl 6 (c kci (c kci (c kcb (c kci (c kci (cl kci nil))))))) (cl gi nil))
def Q3q23 := open Rq in (cl Q3q19 nil)
def Q3q33 := open Rq in (cl Q3q21 nil)
def Q3q36 := open Rq in (res (pr (atup (c (ra (c gi (cl gi nil))) (cl (rc ci) nil))) (pl (cl (chs (cl gb nil)) nil) nil)))
def Q3q39 := open Rq in (res (pr (atup (c (ra (c gi (c gi (c gi (cl gi nil))))) (cl (rc ci) nil))) (pl (cl (chs (cl gb nil)) nil) nil)))
def Q3q41 := open Rq in (cu (gc (cf (fi .i64 (int 0)))) (cu (gc (cf (fi .i64 (int 0)))) (cu (gc (cf (fi .i64 (int 0)))) (cu (gc (cf (fi .i64 (int 0)))) (cu (gc (cf (fi .i64 (int 0)))) (cu (gc (cf (fi .i64 (int 0)))) nil))))))
def Q3q45 := open Rq in (cu (gc (cf (fi .i64 (int 0)))) (cu (gc (cf (fi .i64 (int 0)))) (cu (gc (cf (fi .i64 (int 0)))) Q3q41)))
def Q_DF := (open Rq in (pu nil nil) : RA _)
def RR_DF := (open Rq in (res (pu (aa (cu (gc (cf (fi .i64 (int 1073741824)))) Q3q45)) (pu nil nil))) : RE _)
abbrev D_DF := RR_DF.B
def R_DF (d : D_DF) : T := (fun d => .leaf (RR_DF.em d)) d
abbrev G_DF := Option D_DF
def e_DF (g : G_DF) : Ct := (21, FC Q_DF R_DF (fun _ => g))
def B_DF (g_Ar : G_Ar) : Pg D_DF := opt g_Ar fun d => ret ()
def f_DF : Option D_DF := (B_DF f_Ar).val
theorem d_DF : ∀ g_Ar, DenIs Tryz.prog [e_Ar g_Ar] ⟨[], [], [], [], none⟩ 2000 21 Q_DF R_DF fun b => B_DF g_Ar := fun _ b => by kernel_rfl
theorem s_DF [Amb] : Snd Tryz.prog (e_DF f_DF) := Snd.of (mk0 mixed (.c s_Ar (.nil _)) (by kernel_rfl) (d_DF f_Ar)) (by kernel_rfl)

def Q_CO := (open Rq in (pl Q3q23 nil) : RA _)
def RR_CO := (open Rq in (res (pl (aa (c gi (c gi (cl gi nil)))) (pu nil nil))) : RE _)
abbrev D_CO := RR_CO.B
def R_CO (d : D_CO) : T := (fun d => .leaf (RR_CO.em d)) d
abbrev G_CO := Int → Int → Int → Int → Int → Int → Int → Int → Int → Option D_CO
def e_CO (g : G_CO) : Ct := (146, FC Q_CO R_CO (fun b => g b.1 b.2.1 b.2.2.1 b.2.2.2.1 b.c4.1 b.c4.2.1 b.c4.2.2.1 b.c4.2.2.2.1 b.c8))
def B_CO (x0 : Int) (x1 : Int) (x2 : Int) (x3 : Int) (x4 : Int) (x5 : Int) (x6 : Int) (x7 : Int) (x8 : Int) : Pg D_CO := ret (x1, x2, x3)
def f_CO (x0 : Int) (x1 : Int) (x2 : Int) (x3 : Int) (x4 : Int) (x5 : Int) (x6 : Int) (x7 : Int) (x8 : Int) : Option D_CO := (B_CO x0 x1 x2 x3 x4 x5 x6 x7 x8).val
theorem d_CO : DenIs Tryz.prog [] ⟨[], [], [], [], none⟩ 2000 146 Q_CO R_CO fun b => B_CO b.1 b.2.1 b.2.2.1 b.2.2.2.1 b.c4.1 b.c4.2.1 b.c4.2.2.1 b.c4.2.2.2.1 b.c8 := fun b => by kernel_rfl
theorem s_CO [Amb] : Snd Tryz.prog (e_CO f_CO) := Snd.of (mk0 mixed (.nil _) (by kernel_rfl) d_CO) (by kernel_rfl)

def Q_Bl := (open Rq in (pl (cl (aa (c gi (c gi (cl gi nil)))) nil) nil) : RA _)
def RR_Bl := (open Rq in (res (pl ab (pu nil nil))) : RE _)
abbrev D_Bl := RR_Bl.B
def R_Bl (d : D_Bl) : T := (fun d => .leaf (RR_Bl.em d)) d
abbrev G_Bl := Int → Int → Int → Option D_Bl
def e_Bl (g : G_Bl) : Ct := (53, FC Q_Bl R_Bl (fun b => g b.1 b.2.1 b.2.2))
def B_Bl (x0 : Int) (x1 : Int) (x2 : Int) : Pg D_Bl := cnd (decide (x0 ≥ -900000000)) (cnd (decide (x0 ≤ 900000000)) (cnd (decide (x1 ≥ -1800000000)) (cnd (decide (x1 ≤ 1800000000)) (cnd (decide (x2 ≥ -100000000)) (ret (decide (x2 ≤ 100000000))) (ret false)) (ret false)) (ret false)) (ret false)) (ret false)
def f_Bl (x0 : Int) (x1 : Int) (x2 : Int) : Option D_Bl := (B_Bl x0 x1 x2).val
theorem d_Bl : DenIs Tryz.prog [] ⟨[], [], [], [], none⟩ 2000 53 Q_Bl R_Bl fun b => B_Bl b.1 b.2.1 b.2.2 := fun b => by kernel_rfl
theorem s_Bl [Amb] : Snd Tryz.prog (e_Bl f_Bl) := Snd.of (mk0 mixed (.nil _) (by kernel_rfl) d_Bl) (by kernel_rfl)

def Q_DG := (open Rq in (pl Q3q23 nil) : RA _)
def RR_DG := (open Rq in (res (pl ab (pu nil nil))) : RE _)
abbrev D_DG := RR_DG.B
def R_DG (d : D_DG) : T := (fun d => .leaf (RR_DG.em d)) d
abbrev G_DG := Int → Int → Int → Int → Int → Int → Int → Int → Int → Option D_DG
def e_DG (g : G_DG) : Ct := (145, FC Q_DG R_DG (fun b => g b.1 b.2.1 b.2.2.1 b.2.2.2.1 b.c4.1 b.c4.2.1 b.c4.2.2.1 b.c4.2.2.2.1 b.c8))
def B_DG (g_CO : G_CO) (g_Bl : G_Bl) (x0 : Int) (x1 : Int) (x2 : Int) (x3 : Int) (x4 : Int) (x5 : Int) (x6 : Int) (x7 : Int) (x8 : Int) : Pg D_DG := cnd (decide (x4 < -1000000)) (ret false) (cnd (decide (x4 > 1000000)) (ret false) (cnd (decide (x5 < -1000000)) (ret false) (cnd (decide (x5 > 1000000)) (ret false) (cnd (decide (x6 < -1000000)) (ret false) (cnd (decide (x6 > 1000000)) (ret false) (cnd (decide (x7 < 1)) (ret false) (cnd (decide (x7 > 1000000)) (ret false) (cnd (decide (x8 < 1)) (ret false) (cnd (decide (x8 > 1000000)) (ret false) (opt (g_CO x0 x1 x2 x3 x4 x5 x6 x7 x8) fun d => opt (g_Bl d.1 d.2.1 d.2.2) fun d => ret d))))))))))
def f_DG (x0 : Int) (x1 : Int) (x2 : Int) (x3 : Int) (x4 : Int) (x5 : Int) (x6 : Int) (x7 : Int) (x8 : Int) : Option D_DG := (B_DG f_CO f_Bl x0 x1 x2 x3 x4 x5 x6 x7 x8).val
theorem d_DG : ∀ g_CO g_Bl, DenIs Tryz.prog [e_CO g_CO, e_Bl g_Bl] ⟨[⟨2, (0 :: rg 3 5 (rg 11 6 (rg 19 12 (rg 33 5 [])))), []⟩, ⟨8, (0 :: rg 3 19 (rg 25 6 (rg 33 5 []))), []⟩], [], [], [], (some ⟨0, (0 :: 1 :: rg 3 35 []), []⟩)⟩ 2000 145 Q_DG R_DG fun b => B_DG g_CO g_Bl b.1 b.2.1 b.2.2.1 b.2.2.2.1 b.c4.1 b.c4.2.1 b.c4.2.2.1 b.c4.2.2.2.1 b.c8 := fun _ _ b => by kernel_rfl
theorem s_DG [Amb] : Snd Tryz.prog (e_DG f_DG) := Snd.of (mkS mixed (.c s_CO (.c s_Bl (.nil _))) (by kernel_rfl) (Sums.by (l := [loopIn Tryz.prog 145 2, loopIn Tryz.prog 145 8]) (lj := []) (by kernel_rfl) ⟨SumOK.no (by kernel_rfl), ⟨SumOK.no (by kernel_rfl), trivial⟩⟩ (by kernel_rfl) trivial) (d_DG f_CO f_Bl)) (by kernel_rfl)

def Q_Cp := (open Rq in (pl (cl ai nil) nil) : RA _)
def RR_Cp := (open Rq in (res (pl ai (pu nil nil))) : RE _)
abbrev D_Cp := RR_Cp.B
def R_Cp (d : D_Cp) : T := (fun d => .leaf (RR_Cp.em d)) d
abbrev G_Cp := Int → Option D_Cp
def e_Cp (g : G_Cp) : Ct := (147, FC Q_Cp R_Cp (fun b => g b))
def B_Cp (g_AH : G_AH) (g_AC : G_AC) (x0 : Int) : Pg D_Cp := opt (g_AH (wI (x0 * x0)) 17592186044416 1000000 false) fun d => opt (g_AC d.1 1 72057594037927936 d.2) fun d => ret d.1
def f_Cp (x0 : Int) : Option D_Cp := (B_Cp f_AH f_AC x0).val
theorem d_Cp : ∀ g_AH g_AC, DenIs Tryz.prog [e_AH g_AH, e_AC g_AC] ⟨[], [], [], [], none⟩ 2000 147 Q_Cp R_Cp fun b => B_Cp g_AH g_AC b := fun _ _ b => by kernel_rfl
theorem s_Cp [Amb] : Snd Tryz.prog (e_Cp f_Cp) := Snd.of (mk0 mixed (.c s_AH (.c s_AC (.nil _))) (by kernel_rfl) (d_Cp f_AH f_AC)) (by kernel_rfl)

def Q_DH := (open Rq in (pr (cu (app 0 1) Q3q23) (cl (cl gb nil) nil)) : RA _)
def RR_DH := (open Rq in (res (pr (atup (c (ra Q3q13) (cl (rc ci) nil))) (pl (cl (chs (cl gb nil)) nil) nil))) : RE _)
abbrev D_DH := RR_DH.B
def R_DH (d : D_DH) : T := (fun d => .leaf (RR_DH.em d)) d
abbrev G_DH := Int → Int → Int → Int → Int → Int → Int → Int → Int → Bool → Option D_DH
def e_DH (g : G_DH) : Ct := (79, FC Q_DH R_DH (fun b => g b.1.1 b.1.2.1 b.1.2.2.1 b.1.2.2.2.1 b.1.c4.1 b.1.c4.2.1 b.1.c4.2.2.1 b.1.c4.2.2.2.1 b.1.c8 b.2))
def B_DH (g_DG : G_DG) (g_CO : G_CO) (g_Cp : G_Cp) (g_AH : G_AH) (x0 : Int) (x1 : Int) (x2 : Int) (x3 : Int) (x4 : Int) (x5 : Int) (x6 : Int) (x7 : Int) (x8 : Int) (x9 : Bool) : Pg D_DH := opt (g_DG x0 x1 x2 x3 x4 x5 x6 x7 x8) fun d => cnd (!d) (ret (((0, 0, 0, 0, 0, 0, 0, 0), 1), x9)) (opt (g_CO x0 x1 x2 x3 x4 x5 x6 x7 x8) fun d => opt (g_Cp x7) fun d_1 => opt (g_Cp x8) fun d_2 => opt (g_AH x4 1073741824 1000 x9) fun d_3 => opt (g_AH x5 1073741824 1000 d_3.2) fun d_4 => opt (g_AH x6 1073741824 1000 d_4.2) fun d_5 => ret (((d.1,
 d.2.1, d.2.2, d_3.1, d_4.1, d_5.1, d_1, d_2), 0), d_5.2))
def f_DH (x0 : Int) (x1 : Int) (x2 : Int) (x3 : Int) (x4 : Int) (x5 : Int) (x6 : Int) (x7 : Int) (x8 : Int) (x9 : Bool) : Option D_DH := (B_DH f_DG f_CO f_Cp f_AH x0 x1 x2 x3 x4 x5 x6 x7 x8 x9).val
theorem d_DH : ∀ g_DG g_CO g_Cp g_AH, DenIs Tryz.prog [e_DG g_DG, e_CO g_CO, e_Cp g_Cp, e_AH g_AH] ⟨[⟨5, (1 :: 2 :: 5 :: rg 7 16 (rg 24 14 [])), []⟩], [], [0], [], (some ⟨0, (rg 0 4 (rg 6 32 [])), []⟩)⟩ 2000 79 Q_DH R_DH fun b => B_DH g_DG g_CO g_Cp g_AH b.1.1 b.1.2.1 b.1.2.2.1 b.1.2.2.2.1 b.1.c4.1 b.1.c4.2.1 b.1.c4.2.2.1 b.1.c4.2.2.2.1 b.1.c8 b.2 := fun _ _ _ _ b => by kernel_rfl
theorem s_DH [Amb] : Snd Tryz.prog (e_DH f_DH) := Snd.of (mkS mixed (.c s_DG (.c s_CO (.c s_Cp (.c s_AH (.nil _))))) (by kernel_rfl) (Sums.by (l := [loopIn Tryz.prog 79 5]) (lj := []) (by kernel_rfl) ⟨SumOK.no (by kernel_rfl), trivial⟩ (by kernel_rfl) trivial) (d_DH f_DG f_CO f_Cp f_AH)) (by kernel_rfl)

def Q_DI := (open Rq in (pl (cl ai nil) nil) : RA _)
def RR_DI := (open Rq in (res (pl ai (pu nil nil))) : RE _)
abbrev D_DI := RR_DI.B
def R_DI (d : D_DI) : T := (fun d => .leaf (RR_DI.em d)) d
abbrev G_DI := Int → Option D_DI
def e_DI (g : G_DI) : Ct := (207, FC Q_DI R_DI (fun b => g b))
def B_DI (g_AH : G_AH) (g_AC : G_AC) (x0 : Int) : Pg D_DI := opt (g_AH (wI (x0 * x0)) 17592186044416 1000000 false) fun d => opt (g_AC d.1 1 72057594037927936 d.2) fun d => ret d.1
def f_DI (x0 : Int) : Option D_DI := (B_DI f_AH f_AC x0).val
theorem d_DI : ∀ g_AH g_AC, DenIs Tryz.prog [e_AH g_AH, e_AC g_AC] ⟨[], [], [], [], none⟩ 2000 207 Q_DI R_DI fun b => B_DI g_AH g_AC b := fun _ _ b => by kernel_rfl
theorem s_DI [Amb] : Snd Tryz.prog (e_DI f_DI) := Snd.of (mk0 mixed (.c s_AH (.c s_AC (.nil _))) (by kernel_rfl) (d_DI f_AH f_AC)) (by kernel_rfl)

def Q_CP := (open Rq in (pr (cu (app 0 1) (c Q3q19 (c ai (cl ai nil)))) (cl (cl gb nil) nil)) : RA _)
def RR_CP := (open Rq in Q3q36 : RE _)
abbrev D_CP := RR_CP.B
def R_CP (d : D_CP) : T := (fun d => .leaf (RR_CP.em d)) d
abbrev G_CP := Int → Int → Int → Int → Int → Int → Int → Int → Int → Int → Int → Bool → Option D_CP
def e_CP (g : G_CP) : Ct := (148, FC Q_CP R_CP (fun b => g b.1.1.1 b.1.1.2.1 b.1.1.2.2.1 b.1.1.2.2.2.1 b.1.1.c4.1 b.1.1.c4.2.1 b.1.1.c4.2.2.1 b.1.1.c4.2.2.2.1 b.1.1.c8 b.1.2.1 b.1.2.2 b.2))
def B_CP (g_AH : G_AH) (g_DI : G_DI) (x0 : Int) (x1 : Int) (x2 : Int) (x3 : Int) (x4 : Int) (x5 : Int) (x6 : Int) (x7 : Int) (x8 : Int) (x9 : Int) (x10 : Int) (x11 : Bool) : Pg D_CP := cnd (decide (x1 < x9)) (ret (((0, 0), 1), x11)) (cnd (decide (x1 > x10)) (ret (((0, 0), 1), x11)) (cnd (decide (x2 < 1)) (ret (((0, 0), 1), x11)) (cnd (decide (x2 > 1000000)) (ret (((0, 0), 1), x11)) (opt (g_AH x1 1073741824 1000 x11) fun d => opt (g_DI x2) fun d_1 => ret (((d.1, d_1), 0), d.2)))))
def f_CP (x0 : Int) (x1 : Int) (x2 : Int) (x3 : Int) (x4 : Int) (x5 : Int) (x6 : Int) (x7 : Int) (x8 : Int) (x9 : Int) (x10 : Int) (x11 : Bool) : Option D_CP := (B_CP f_AH f_DI x0 x1 x2 x3 x4 x5 x6 x7 x8 x9 x10 x11).val
theorem d_CP : ∀ g_AH g_DI, DenIs Tryz.prog [e_AH g_AH, e_DI g_DI] ⟨[], [], [0], [], none⟩ 2000 148 Q_CP R_CP fun b => B_CP g_AH g_DI b.1.1.1 b.1.1.2.1 b.1.1.2.2.1 b.1.1.2.2.2.1 b.1.1.c4.1 b.1.1.c4.2.1 b.1.1.c4.2.2.1 b.1.1.c4.2.2.2.1 b.1.1.c8 b.1.2.1 b.1.2.2 b.2 := fun _ _ b => by kernel_rfl
theorem s_CP [Amb] : Snd Tryz.prog (e_CP f_CP) := Snd.of (mk0 mixed (.c s_AH (.c s_DI (.nil _))) (by kernel_rfl) (d_CP f_AH f_DI)) (by kernel_rfl)

def Q_DJ := (open Rq in (pr (cu (app 0 1) Q3q23) (cl (cl gb nil) nil)) : RA _)
def RR_DJ := (open Rq in Q3q36 : RE _)
abbrev D_DJ := RR_DJ.B
def R_DJ (d : D_DJ) : T := (fun d => .leaf (RR_DJ.em d)) d
abbrev G_DJ := Int → Int → Int → Int → Int → Int → Int → Int → Int → Bool → Option D_DJ
def e_DJ (g : G_DJ) : Ct := (80, FC Q_DJ R_DJ (fun b => g b.1.1 b.1.2.1 b.1.2.2.1 b.1.2.2.2.1 b.1.c4.1 b.1.c4.2.1 b.1.c4.2.2.1 b.1.c4.2.2.2.1 b.1.c8 b.2))
def B_DJ (g_CP : G_CP) (x0 : Int) (x1 : Int) (x2 : Int) (x3 : Int) (x4 : Int) (x5 : Int) (x6 : Int) (x7 : Int) (x8 : Int) (x9 : Bool) : Pg D_DJ := opt (g_CP x0 x1 x2 x3 x4 x5 x6 x7 x8 (-100000000) 100000000 x9) fun d => ret d
def f_DJ (x0 : Int) (x1 : Int) (x2 : Int) (x3 : Int) (x4 : Int) (x5 : Int) (x6 : Int) (x7 : Int) (x8 : Int) (x9 : Bool) : Option D_DJ := (B_DJ f_CP x0 x1 x2 x3 x4 x5 x6 x7 x8 x9).val
theorem d_DJ : ∀ g_CP, DenIs Tryz.prog [e_CP g_CP] ⟨[], [], [], [], none⟩ 2000 80 Q_DJ R_DJ fun b => B_DJ g_CP b.1.1 b.1.2.1 b.1.2.2.1 b.1.2.2.2.1 b.1.c4.1 b.1.c4.2.1 b.1.c4.2.2.1 b.1.c4.2.2.2.1 b.1.c8 b.2 := fun _ b => by kernel_rfl
theorem s_DJ [Amb] : Snd Tryz.prog (e_DJ f_DJ) := Snd.of (mk0 mixed (.c s_CP (.nil _)) (by kernel_rfl) (d_DJ f_CP)) (by kernel_rfl)

def Q_DK := (open Rq in (pr (cu (app 0 1) Q3q23) (cl (cl gb nil) nil)) : RA _)
def RR_DK := (open Rq in (res (pr Q3q9 (pl (cl (chs (cl gb nil)) nil) nil))) : RE _)
abbrev D_DK := RR_DK.B
def R_DK (d : D_DK) : T := (fun d => .leaf (RR_DK.em d)) d
abbrev G_DK := Int → Int → Int → Int → Int → Int → Int → Int → Int → Bool → Option D_DK
def e_DK (g : G_DK) : Ct := (81, FC Q_DK R_DK (fun b => g b.1.1 b.1.2.1 b.1.2.2.1 b.1.2.2.2.1 b.1.c4.1 b.1.c4.2.1 b.1.c4.2.2.1 b.1.c4.2.2.2.1 b.1.c8 b.2))
def B_DK (g_CP : G_CP) (x0 : Int) (x1 : Int) (x2 : Int) (x3 : Int) (x4 : Int) (x5 : Int) (x6 : Int) (x7 : Int) (x8 : Int) (x9 : Bool) : Pg D_DK := cnd (decide (x3 < 0)) (ret (((0, 0, 0), 1), x9)) (cnd (decide (x3 > 100)) (ret (((0, 0, 0), 1), x9)) (opt (g_CP x0 x1 x2 x3 x4 x5 x6 x7 x8 1 1000000 x9) fun d => cnd (d.1.2 != 0) (ret (((0, 0, 0), d.1.2), d.2)) (ret (((d.1.1.1, d.1.1.2, x3), 0), d.2))))
def f_DK (x0 : Int) (x1 : Int) (x2 : Int) (x3 : Int) (x4 : Int) (x5 : Int) (x6 : Int) (x7 : Int) (x8 : Int) (x9 : Bool) : Option D_DK := (B_DK f_CP x0 x1 x2 x3 x4 x5 x6 x7 x8 x9).val
theorem d_DK : ∀ g_CP, DenIs Tryz.prog [e_CP g_CP] ⟨[], [], [0], [], none⟩ 2000 81 Q_DK R_DK fun b => B_DK g_CP b.1.1 b.1.2.1 b.1.2.2.1 b.1.2.2.2.1 b.1.c4.1 b.1.c4.2.1 b.1.c4.2.2.1 b.1.c4.2.2.2.1 b.1.c8 b.2 := fun _ b => by kernel_rfl
theorem s_DK [Amb] : Snd Tryz.prog (e_DK f_DK) := Snd.of (mk0 mixed (.c s_CP (.nil _)) (by kernel_rfl) (d_DK f_CP)) (by kernel_rfl)

def Q_DL := (open Rq in (pl (cl ai nil) nil) : RA _)
def RR_DL := (open Rq in (res (pl ai (pu nil nil))) : RE _)
abbrev D_DL := RR_DL.B
def R_DL (d : D_DL) : T := (fun d => .leaf (RR_DL.em d)) d
abbrev G_DL := Int → Option D_DL
def e_DL (g : G_DL) : Ct := (149, FC Q_DL R_DL (fun b => g b))
def B_DL (g_AH : G_AH) (g_AC : G_AC) (x0 : Int) : Pg D_DL := opt (g_AH (wI (x0 * x0)) 17592186044416 1000000000000 false) fun d => opt (g_AC d.1 1 72057594037927936 d.2) fun d => ret d.1
def f_DL (x0 : Int) : Option D_DL := (B_DL f_AH f_AC x0).val
theorem d_DL : ∀ g_AH g_AC, DenIs Tryz.prog [e_AH g_AH, e_AC g_AC] ⟨[], [], [], [], none⟩ 2000 149 Q_DL R_DL fun b => B_DL g_AH g_AC b := fun _ _ b => by kernel_rfl
theorem s_DL [Amb] : Snd Tryz.prog (e_DL f_DL) := Snd.of (mk0 mixed (.c s_AH (.c s_AC (.nil _))) (by kernel_rfl) (d_DL f_AH f_AC)) (by kernel_rfl)

def Q_DM := (open Rq in (pr (cu (app 0 1) Q3q23) (cl (cl gb nil) nil)) : RA _)
def RR_DM := (open Rq in Q3q39 : RE _)
abbrev D_DM := RR_DM.B
def R_DM (d : D_DM) : T := (fun d => .leaf (RR_DM.em d)) d
abbrev G_DM := Int → Int → Int → Int → Int → Int → Int → Int → Int → Bool → Option D_DM
def e_DM (g : G_DM) : Ct := (82, FC Q_DM R_DM (fun b => g b.1.1 b.1.2.1 b.1.2.2.1 b.1.2.2.2.1 b.1.c4.1 b.1.c4.2.1 b.1.c4.2.2.1 b.1.c4.2.2.2.1 b.1.c8 b.2))
def B_DM (g_DL : G_DL) (g_AH : G_AH) (x0 : Int) (x1 : Int) (x2 : Int) (x3 : Int) (x4 : Int) (x5 : Int) (x6 : Int) (x7 : Int) (x8 : Int) (x9 : Bool) : Pg D_DM := cnd (decide (x4 < 1)) (ret (((0, 0, 0, 0), 1), x9)) (cnd (decide (x4 > 1000000)) (ret (((0, 0, 0, 0), 1), x9)) (opt (g_DL x4) fun d => cnd (decide (x1 < -2000000)) (ret (((0, 0, 0, 0), 1), x9)) (cnd (decide (x1 > 2000000)) (ret (((0, 0, 0,
 0), 1), x9)) (opt (g_AH x1 1073741824 1000000 x9) fun d_1 => cnd (decide (x2 < -2000000)) (ret (((0, 0, 0, 0), 1), d_1.2)) (cnd (decide (x2 > 2000000)) (ret (((0, 0, 0, 0), 1), d_1.2)) (opt (g_AH x2 1073741824 1000000 d_1.2) fun d_2 => cnd (decide (x3 < -2000000)) (ret (((0, 0, 0, 0), 1), d_2.2)) (cnd (decide (x3 > 2000000)) (ret (((0, 0, 0, 0), 1), d_2.2)) (opt (g_AH x3 1073741824 1000000 d_2.2) fun d_3 => ret (((d_1.1,
 d_2.1, d_3.1, d), 0), d_3.2)))))))))
def f_DM (x0 : Int) (x1 : Int) (x2 : Int) (x3 : Int) (x4 : Int) (x5 : Int) (x6 : Int) (x7 : Int) (x8 : Int) (x9 : Bool) : Option D_DM := (B_DM f_DL f_AH x0 x1 x2 x3 x4 x5 x6 x7 x8 x9).val
theorem d_DM : ∀ g_DL g_AH, DenIs Tryz.prog [e_DL g_DL, e_AH g_AH] ⟨[⟨5, (1 :: 2 :: rg 7 17 (rg 25 8 (rg 38 13 []))), []⟩], [], [0], [], (some ⟨0, (rg 0 4 (rg 6 45 [])), []⟩)⟩ 2000 82 Q_DM R_DM fun b => B_DM g_DL g_AH b.1.1 b.1.2.1 b.1.2.2.1 b.1.2.2.2.1 b.1.c4.1 b.1.c4.2.1 b.1.c4.2.2.1 b.1.c4.2.2.2.1 b.1.c8 b.2 := fun _ _ b => by kernel_rfl
theorem s_DM [Amb] : Snd Tryz.prog (e_DM f_DM) := Snd.of (mkS mixed (.c s_DL (.c s_AH (.nil _))) (by kernel_rfl) (Sums.by (l := [loopIn Tryz.prog 82 5]) (lj := []) (by kernel_rfl) ⟨SumOK.no (by kernel_rfl), trivial⟩ (by kernel_rfl) trivial) (d_DM f_DL f_AH)) (by kernel_rfl)

def Q_DN := (open Rq in (pl (cl ai nil) nil) : RA _)
def RR_DN := (open Rq in (res (pl ai (pu nil nil))) : RE _)
abbrev D_DN := RR_DN.B
def R_DN (d : D_DN) : T := (fun d => .leaf (RR_DN.em d)) d
abbrev G_DN := Int → Option D_DN
def e_DN (g : G_DN) : Ct := (150, FC Q_DN R_DN (fun b => g b))
def B_DN (g_AH : G_AH) (g_AC : G_AC) (x0 : Int) : Pg D_DN := opt (g_AH (wI (x0 * x0)) 17592186044416 1000000 false) fun d => opt (g_AC d.1 1 72057594037927936 d.2) fun d => ret d.1
def f_DN (x0 : Int) : Option D_DN := (B_DN f_AH f_AC x0).val
theorem d_DN : ∀ g_AH g_AC, DenIs Tryz.prog [e_AH g_AH, e_AC g_AC] ⟨[], [], [], [], none⟩ 2000 150 Q_DN R_DN fun b => B_DN g_AH g_AC b := fun _ _ b => by kernel_rfl
theorem s_DN [Amb] : Snd Tryz.prog (e_DN f_DN) := Snd.of (mk0 mixed (.c s_AH (.c s_AC (.nil _))) (by kernel_rfl) (d_DN f_AH f_AC)) (by kernel_rfl)

def Q_DO := (open Rq in (pr (cu (app 0 1) Q3q23) (cl (cl gb nil) nil)) : RA _)
def RR_DO := (open Rq in Q3q36 : RE _)
abbrev D_DO := RR_DO.B
def R_DO (d : D_DO) : T := (fun d => .leaf (RR_DO.em d)) d
abbrev G_DO := Int → Int → Int → Int → Int → Int → Int → Int → Int → Bool → Option D_DO
def e_DO (g : G_DO) : Ct := (83, FC Q_DO R_DO (fun b => g b.1.1 b.1.2.1 b.1.2.2.1 b.1.2.2.2.1 b.1.c4.1 b.1.c4.2.1 b.1.c4.2.2.1 b.1.c4.2.2.2.1 b.1.c8 b.2))
def B_DO (g_AH : G_AH) (g_DN : G_DN) (x0 : Int) (x1 : Int) (x2 : Int) (x3 : Int) (x4 : Int) (x5 : Int) (x6 : Int) (x7 : Int) (x8 : Int) (x9 : Bool) : Pg D_DO := cnd (decide (x1 < 0)) (ret (((0, 0), 1), x9)) (cnd (decide (x1 > 300000)) (ret (((0, 0), 1), x9)) (cnd (decide (x2 < 1)) (ret (((0, 0), 1), x9)) (cnd (decide (x2 > 1000000)) (ret (((0, 0), 1), x9)) (opt (g_AH x1 1073741824 1000 x9) fun d => opt (g_DN x2) fun d_1 => ret (((d.1, d_1), 0), d.2)))))
def f_DO (x0 : Int) (x1 : Int) (x2 : Int) (x3 : Int) (x4 : Int) (x5 : Int) (x6 : Int) (x7 : Int) (x8 : Int) (x9 : Bool) : Option D_DO := (B_DO f_AH f_DN x0 x1 x2 x3 x4 x5 x6 x7 x8 x9).val
theorem d_DO : ∀ g_AH g_DN, DenIs Tryz.prog [e_AH g_AH, e_DN g_DN] ⟨[], [], [0], [], none⟩ 2000 83 Q_DO R_DO fun b => B_DO g_AH g_DN b.1.1 b.1.2.1 b.1.2.2.1 b.1.2.2.2.1 b.1.c4.1 b.1.c4.2.1 b.1.c4.2.2.1 b.1.c4.2.2.2.1 b.1.c8 b.2 := fun _ _ b => by kernel_rfl
theorem s_DO [Amb] : Snd Tryz.prog (e_DO f_DO) := Snd.of (mk0 mixed (.c s_AH (.c s_DN (.nil _))) (by kernel_rfl) (d_DO f_AH f_DN)) (by kernel_rfl)

def Q_DP := (open Rq in (pl (cl ai nil) nil) : RA _)
def RR_DP := (open Rq in (res (pl ai (pu nil nil))) : RE _)
abbrev D_DP := RR_DP.B
def R_DP (d : D_DP) : T := (fun d => .leaf (RR_DP.em d)) d
abbrev G_DP := Int → Option D_DP
def e_DP (g : G_DP) : Ct := (151, FC Q_DP R_DP (fun b => g b))
def B_DP (g_AH : G_AH) (g_AC : G_AC) (x0 : Int) : Pg D_DP := opt (g_AH (wI (x0 * x0)) 17592186044416 1000000000000 false) fun d => opt (g_AC d.1 1 72057594037927936 d.2) fun d => ret d.1
def f_DP (x0 : Int) : Option D_DP := (B_DP f_AH f_AC x0).val
theorem d_DP : ∀ g_AH g_AC, DenIs Tryz.prog [e_AH g_AH, e_AC g_AC] ⟨[], [], [], [], none⟩ 2000 151 Q_DP R_DP fun b => B_DP g_AH g_AC b := fun _ _ b => by kernel_rfl
theorem s_DP [Amb] : Snd Tryz.prog (e_DP f_DP) := Snd.of (mk0 mixed (.c s_AH (.c s_AC (.nil _))) (by kernel_rfl) (d_DP f_AH f_AC)) (by kernel_rfl)

def Q_DQ := (open Rq in (pr (cu (app 0 1) Q3q23) (cl (cl gb nil) nil)) : RA _)
def RR_DQ := (open Rq in Q3q39 : RE _)
abbrev D_DQ := RR_DQ.B
def R_DQ (d : D_DQ) : T := (fun d => .leaf (RR_DQ.em d)) d
abbrev G_DQ := Int → Int → Int → Int → Int → Int → Int → Int → Int → Bool → Option D_DQ
def e_DQ (g : G_DQ) : Ct := (84, FC Q_DQ R_DQ (fun b => g b.1.1 b.1.2.1 b.1.2.2.1 b.1.2.2.2.1 b.1.c4.1 b.1.c4.2.1 b.1.c4.2.2.1 b.1.c4.2.2.2.1 b.1.c8 b.2))
def B_DQ (g_AH : G_AH) (g_DP : G_DP) (x0 : Int) (x1 : Int) (x2 : Int) (x3 : Int) (x4 : Int) (x5 : Int) (x6 : Int) (x7 : Int) (x8 : Int) (x9 : Bool) : Pg D_DQ := cnd (decide (x1 < -10000000)) (ret (((0, 0, 0, 0), 1), x9)) (cnd (decide (x1 > 10000000)) (ret (((0, 0, 0, 0), 1), x9)) (cnd (decide (x2 < -10000000)) (ret (((0, 0, 0, 0), 1), x9)) (cnd (decide (x2 > 10000000)) (ret (((0, 0, 0, 0), 1), x9)) (cnd (decide (x3 < 1)) (ret (((0,
 0, 0, 0), 1), x9)) (cnd (decide (x3 > 10000000)) (ret (((0, 0, 0, 0), 1), x9)) (cnd (decide (x4 < 0)) (ret (((0, 0, 0, 0), 1), x9)) (cnd (decide (x4 > 100)) (ret (((0, 0, 0, 0), 1), x9)) (opt (g_AH x1 1073741824 1000000 x9) fun d => opt (g_AH x2 1073741824 1000000 d.2) fun d_1 => opt (g_DP x3) fun d_2 => ret (((d.1, d_1.1, d_2, x4), 0), d_1.2)))))))))
def f_DQ (x0 : Int) (x1 : Int) (x2 : Int) (x3 : Int) (x4 : Int) (x5 : Int) (x6 : Int) (x7 : Int) (x8 : Int) (x9 : Bool) : Option D_DQ := (B_DQ f_AH f_DP x0 x1 x2 x3 x4 x5 x6 x7 x8 x9).val
theorem d_DQ : ∀ g_AH g_DP, DenIs Tryz.prog [e_AH g_AH, e_DP g_DP] ⟨[⟨2, (1 :: rg 5 4 (rg 12 4 (17 :: rg 20 8 (32 :: 33 :: 38 :: 39 :: rg 44 20 [])))), []⟩], [], [0], [], (some ⟨0, (rg 0 4 (rg 6 58 [])), []⟩)⟩ 2000 84 Q_DQ R_DQ fun b => B_DQ g_AH g_DP b.1.1 b.1.2.1 b.1.2.2.1 b.1.2.2.2.1 b.1.c4.1 b.1.c4.2.1 b.1.c4.2.2.1 b.1.c4.2.2.2.1 b.1.c8 b.2 := fun _ _ b => by kernel_rfl
theorem s_DQ [Amb] : Snd Tryz.prog (e_DQ f_DQ) := Snd.of (mkS mixed (.c s_AH (.c s_DP (.nil _))) (by kernel_rfl) (Sums.by (l := [loopIn Tryz.prog 84 2]) (lj := []) (by kernel_rfl) ⟨SumOK.no (by kernel_rfl), trivial⟩ (by kernel_rfl) trivial) (d_DQ f_AH f_DP)) (by kernel_rfl)

def Q_CQ := (open Rq in (pl (cl ai nil) nil) : RA _)
def RR_CQ := (open Rq in (res (pl ab (pu nil nil))) : RE _)
abbrev D_CQ := RR_CQ.B
def R_CQ (d : D_CQ) : T := (fun d => .leaf (RR_CQ.em d)) d
abbrev G_CQ := Int → Option D_CQ
def e_CQ (g : G_CQ) : Ct := (78, FC Q_CQ R_CQ (fun b => g b))
def B_CQ (x0 : Int) : Pg D_CQ := cnd (decide (x0 ≥ 0)) (ret (decide (x0 < 6))) (ret false)
def f_CQ (x0 : Int) : Option D_CQ := (B_CQ x0).val
theorem d_CQ : DenIs Tryz.prog [] ⟨[], [], [], [], none⟩ 2000 78 Q_CQ R_CQ fun b => B_CQ b := fun b => by kernel_rfl
theorem s_CQ [Amb] : Snd Tryz.prog (e_CQ f_CQ) := Snd.of (mk0 mixed (.nil _) (by kernel_rfl) d_CQ) (by kernel_rfl)

def Q_DR := (open Rq in (pr (cu (app 0 3) (c ai (cl ai nil))) (cl (c gi (c gi (cl gb nil))) nil)) : RA _)
def RR_DR := (open Rq in (res (pl ab (pu (cu chk nil) nil))) : RE _)
abbrev D_DR := RR_DR.B
def R_DR (d : D_DR) : T := (fun d => .leaf (RR_DR.em d)) d
abbrev G_DR := Int → Int → Int → Int → Bool → Option D_DR
def e_DR (g : G_DR) : Ct := (144, FC Q_DR R_DR (fun b => g b.1.1 b.1.2 b.2.1 b.2.2.1 b.2.2.2))
def B_DR (x0 : Int) (x1 : Int) (x2 : Int) (x3 : Int) (x4 : Bool) : Pg D_DR := let y0 := decide (x1 ≥ 0); cnd (!x4) (ret false) (cnd (decide (x0 ≥ x2)) (cnd y0 (ret (decide (wU (wU x0 - wU x2) ≤ wU x1))) (ret false)) (cnd y0 (ret true) (ret (decide (wU (wU x2 - wU x0) ≥ wU (0 - wU x1))))))
def f_DR (x0 : Int) (x1 : Int) (x2 : Int) (x3 : Int) (x4 : Bool) : Option D_DR := (B_DR x0 x1 x2 x3 x4).val
theorem d_DR : DenIs Tryz.prog [] ⟨[], [], [], [], none⟩ 2000 144 Q_DR R_DR fun b => B_DR b.1.1 b.1.2 b.2.1 b.2.2.1 b.2.2.2 := fun b => by kernel_rfl
theorem s_DR [Amb] : Snd Tryz.prog (e_DR f_DR) := Snd.of (mk0 mixed (.nil _) (by kernel_rfl) d_DR) (by kernel_rfl)

def Q_Bs := (open Rq in (pr (cu (app 0 6) (cl ai nil)) (cl (a 3 (c gi (c gi (cl gb nil))) (c gi (c gi (cl gi nil)))) nil)) : RA _)
def RR_Bs := (open Rq in (res (pl ab (pu (cu chk nil) nil))) : RE _)
abbrev D_Bs := RR_Bs.B
def R_Bs (d : D_Bs) : T := (fun d => .leaf (RR_Bs.em d)) d
abbrev G_Bs := Int → Int → Int → Bool → Int → Int → Int → Option D_Bs
def e_Bs (g : G_Bs) : Ct := (77, FC Q_Bs R_Bs (fun b => g b.1 b.2.1.1 b.2.1.2.1 b.2.1.2.2 b.2.2.1 b.2.2.2.1 b.c4))
def B_Bs (g_DR : G_DR) (x0 : Int) (x1 : Int) (x2 : Int) (x3 : Bool) (x4 : Int) (x5 : Int) (x6 : Int) : Pg D_Bs := opt (g_DR x0 x5 x1 x2 x3) fun d => cnd d (ret (decide (x2 ≤ x6))) (ret false)
def f_Bs (x0 : Int) (x1 : Int) (x2 : Int) (x3 : Bool) (x4 : Int) (x5 : Int) (x6 : Int) : Option D_Bs := (B_Bs f_DR x0 x1 x2 x3 x4 x5 x6).val
theorem d_Bs : ∀ g_DR, DenIs Tryz.prog [e_DR g_DR] ⟨[], [], [], [], none⟩ 2000 77 Q_Bs R_Bs fun b => B_Bs g_DR b.1 b.2.1.1 b.2.1.2.1 b.2.1.2.2 b.2.2.1 b.2.2.2.1 b.c4 := fun _ b => by kernel_rfl
theorem s_Bs [Amb] : Snd Tryz.prog (e_Bs f_Bs) := Snd.of (mk0 mixed (.c s_DR (.nil _)) (by kernel_rfl) (d_Bs f_DR)) (by kernel_rfl)

def Q_Ba := (open Rq in (pr (cu (app 0 37) (c ai (cl ai nil))) Q3q33) : RA _)
def RR_Ba := (open Rq in (res (pl ab (pu (cu chk nil) nil))) : RE _)
abbrev D_Ba := RR_Ba.B
def R_Ba (d : D_Ba) : T := (fun d => .leaf (RR_Ba.em d)) d
abbrev G_Ba := Int → Int → NI → NI → (Nat → Bool) → NI → NI → NI → Int → Option D_Ba
def e_Ba (g : G_Ba) : Ct := (70, FC Q_Ba R_Ba (fun b => g b.1.1 b.1.2 b.2.1.1 b.2.1.2.1 b.2.1.2.2.1 b.2.1.2.2.2.1 b.2.1.c4.1 b.2.1.c4.2 b.2.2))
def B_Ba (g_CQ : G_CQ) (g_Bs : G_Bs) (x0 : Int) (x1 : Int) (x2 : Nat → Int) (x3 : Nat → Int) (x4 : Nat → Bool) (x5 : Nat → Int) (x6 : Nat → Int) (x7 : Nat → Int) (x8 : Int) : Pg D_Ba := opt (g_CQ x0) fun d => cnd d (cnd (inR x0 6) (cnd (Nat.ble (0 + Int.toNat x0 * 6 + 6) 36) (opt (g_Bs x1 ((x2, x3, x4, x5, x6, x7).1 (Int.toNat x0)) ((x3, x4, x5, x6, x7).1 (Int.toNat x0)) ((x4, x5, x6, x7).1 (Int.toNat x0)) ((x5,
 x6, x7).1 (Int.toNat x0)) (x6 (Int.toNat x0)) (x7 (Int.toNat x0))) fun d => ret d) no) no) (ret false)
def f_Ba (x0 : Int) (x1 : Int) (x2 : Nat → Int) (x3 : Nat → Int) (x4 : Nat → Bool) (x5 : Nat → Int) (x6 : Nat → Int) (x7 : Nat → Int) (x8 : Int) : Option D_Ba := (B_Ba f_CQ f_Bs x0 x1 x2 x3 x4 x5 x6 x7 x8).val
theorem d_Ba : ∀ g_CQ g_Bs, DenIs Tryz.prog [e_CQ g_CQ, e_Bs g_Bs] ⟨[], [], [], [], none⟩ 2000 70 Q_Ba R_Ba fun b => B_Ba g_CQ g_Bs b.1.1 b.1.2 b.2.1.1 b.2.1.2.1 b.2.1.2.2.1 b.2.1.2.2.2.1 b.2.1.c4.1 b.2.1.c4.2 b.2.2 := fun _ _ b => by kernel_rfl
theorem s_Ba [Amb] : Snd Tryz.prog (e_Ba f_Ba) := Snd.of (mk0 mixed (.c s_CQ (.c s_Bs (.nil _))) (by kernel_rfl) (d_Ba f_CQ f_Bs)) (by kernel_rfl)

def Q_BB := (open Rq in (pr (cu (app 0 37) (cl ai nil)) Q3q33) : RA _)
def RR_BB := (open Rq in (res (pl ai (pu (cu chk nil) nil))) : RE _)
abbrev D_BB := RR_BB.B
def R_BB (d : D_BB) : T := (fun d => .leaf (RR_BB.em d)) d
abbrev G_BB := Int → NI → NI → (Nat → Bool) → NI → NI → NI → Int → Option D_BB
def e_BB (g : G_BB) : Ct := (35, FC Q_BB R_BB (fun b => g b.1 b.2.1.1 b.2.1.2.1 b.2.1.2.2.1 b.2.1.2.2.2.1 b.2.1.c4.1 b.2.1.c4.2 b.2.2))
def QL_BB_0 := (open Rq in (st (pr (cu (app 0 37) (c ai (us 3 (c ai (us 2 (cl ai (us 24 nil))))))) (pl (cl (so Q3q21) nil) nil))) : RS _)
def Z_BB_0 := (open Rq in (st (pr (cu (app 0 37) (c ai (us 3 (c ai (us 2 (c ai (cl ab (us 23 nil)))))))) (pl (cl (so Q3q21) nil) nil))) : RS _)
abbrev X_BB_0 := Z_BB_0.B
def E_BB_0 {ρ : Type} (x : X_BB_0) (K : AX → St → Option ρ) : Option ρ := (fun d => K (AX.ex 0) (Z_BB_0.em d)) x
def S_BB_0 (g_Bs : G_Bs) (d : QL_BB_0.B) : Pg (QL_BB_0.B ⊕ X_BB_0) := let y0 := Int.toNat d.1.2.2; let y1 := y0 * 6; let y2 := wI (d.1.2.2 + 1); let y3 := decide (d.1.2.2 < 6); cnd y3 (cnd (inR d.1.2.2 6) (cnd (Nat.ble (2 + y1 + 1) 36) (cnd (d.2.1.2.2.1 y0) (cnd (Nat.ble (0 + y1 + 6) 36) (opt (g_Bs d.1.1 (d.2.1.1 y0) (d.2.1.2.1 y0) (d.2.1.2.2.1 y0) (d.2.1.2.2.2.1 y0) (d.2.1.c4.1 y0) (d.2.1.c4.2 y0)) fun d_1 => cnd (!d_1) (cnd (!decide (d.1.2.2 < 0)) (ret (Sum.inl ((d.1.1,
 wI (d.1.2.1 + wI (1 * 2 ^ min y0 64)), y2), d.2))) no) (ret (Sum.inl ((d.1.1, d.1.2.1, y2), d.2)))) no) (ret (Sum.inl ((d.1.1, d.1.2.1, y2), d.2)))) no) no) (ret (Sum.inr ((d.1.1, d.1.2.1, d.1.2.2, y3), d.2)))
def L_BB_0 : QL_BB_0.B → Option X_BB_0 := loopP (S_BB_0 f_Bs) 2000
def H_BB (l_0 : QL_BB_0.B → Option X_BB_0) : Hs := ⟨[⟨3, [2, 3, 4, 6, 7, 9, 10, 11, 12, 13, 14, 15, 16, 17, 18, 19, 20, 21, 26, 27, 28, 29, 30, 31, 32, 22, 23, 24, 25], []⟩], [smQ 3 1 QL_BB_0 E_BB_0 l_0], [], [], (some ⟨0, (rg 0 4 (rg 5 28 [])), []⟩)⟩
def B_BB (l_0 : QL_BB_0.B → Option X_BB_0) (x0 : Int) (x1 : Nat → Int) (x2 : Nat → Int) (x3 : Nat → Bool) (x4 : Nat → Int) (x5 : Nat → Int) (x6 : Nat → Int) (x7 : Int) : Pg D_BB := opt (l_0 ((x0, 0, 0), (x1, x2, x3, x4, x5, x6), x7)) fun d => ret d.1.2.1
def f_BB (x0 : Int) (x1 : Nat → Int) (x2 : Nat → Int) (x3 : Nat → Bool) (x4 : Nat → Int) (x5 : Nat → Int) (x6 : Nat → Int) (x7 : Int) : Option D_BB := (B_BB L_BB_0 x0 x1 x2 x3 x4 x5 x6 x7).val
theorem dl_BB_0 : ∀ g_Bs l_0, LoopIs Tryz.prog [e_Bs g_Bs] (H_BB l_0) 1 2000 35 3 QL_BB_0 E_BB_0 (S_BB_0 g_Bs) := fun _ _ _ d c K => by kernel_rfl
theorem d_BB : ∀ g_Bs l_0, DenIs Tryz.prog [e_Bs g_Bs] (H_BB l_0) 2000 35 Q_BB R_BB fun b => B_BB l_0 b.1 b.2.1.1 b.2.1.2.1 b.2.1.2.2.1 b.2.1.2.2.2.1 b.2.1.c4.1 b.2.1.c4.2 b.2.2 := fun _ _ b => by kernel_rfl
theorem s_BB [Amb] : Snd Tryz.prog (e_BB f_BB) := Snd.of (mkS mixed (.c s_Bs (.nil _)) (by kernel_rfl) (Sums.by (l := [loopIn Tryz.prog 35 3]) (lj := []) (by kernel_rfl) ⟨mkL (S := S_BB_0 f_Bs) (by kernel_rfl) (dl_BB_0 f_Bs L_BB_0), trivial⟩ (by kernel_rfl) trivial) (d_BB f_Bs L_BB_0)) (by kernel_rfl)

def Q_DS := (open Rq in (pu (cu (app 0 37) nil) Q3q33) : RA _)
def RR_DS := (open Rq in (res (pl ab (pu (cu chk nil) nil))) : RE _)
abbrev D_DS := RR_DS.B
def R_DS (d : D_DS) : T := (fun d => .leaf (RR_DS.em d)) d
abbrev G_DS := NI → NI → (Nat → Bool) → NI → NI → NI → Int → Option D_DS
def e_DS (g : G_DS) : Ct := (36, FC Q_DS R_DS (fun b => g b.1.1 b.1.2.1 b.1.2.2.1 b.1.2.2.2.1 b.1.c4.1 b.1.c4.2 b.2))
def B_DS (x0 : Nat → Int) (x1 : Nat → Int) (x2 : Nat → Bool) (x3 : Nat → Int) (x4 : Nat → Int) (x5 : Nat → Int) (x6 : Int) : Pg D_DS := ret (decide (x6 ≥ 10))
def f_DS (x0 : Nat → Int) (x1 : Nat → Int) (x2 : Nat → Bool) (x3 : Nat → Int) (x4 : Nat → Int) (x5 : Nat → Int) (x6 : Int) : Option D_DS := (B_DS x0 x1 x2 x3 x4 x5 x6).val
theorem d_DS : DenIs Tryz.prog [] ⟨[], [], [], [], none⟩ 2000 36 Q_DS R_DS fun b => B_DS b.1.1 b.1.2.1 b.1.2.2.1 b.1.2.2.2.1 b.1.c4.1 b.1.c4.2 b.2 := fun b => by kernel_rfl
theorem s_DS [Amb] : Snd Tryz.prog (e_DS f_DS) := Snd.of (mk0 mixed (.nil _) (by kernel_rfl) d_DS) (by kernel_rfl)

end Go.Proofs.YtphkdkkbbfnkaaaGreat
