/-
  Contracts by plain functions: (*fx.Acc).Clamp, (*fx.Acc).Sat, wide.abs64, math/bits.Mul64, wide.signed, wide.Mul, wide.abs, (wide.big).shl, (wide.big).plus, (wide.big).shr, wide.signed64, wide.Round, fx.sign, (*fx.Acc).end, (*fx.Acc).round, (*fx.Acc).Mul, earth.New$1, math/bits.Len64, math/bits.LeadingZeros64, math/bits.Div64, wide.Div, (*fx.Acc).by, (*fx.Acc).MulDiv, earth.Declination$1, wide.Shift, (*fx.Acc).Div, (wide.big).less, (wide.big).minus, wide.Root, root.end, root.Sqrt, trig.Wrap, fx.Abs, trig.m, wide.Of, wide.add, wide.Add, (*fx.Acc).Add, trig.series, trig.Sin, trig.Cos, trig.Atan2, (*fx.Acc).Sub, vec.Sub, vec.Scale, root.Hypot, vec.Norm, vec.Sat, quat.sat, quat.One, quat.Conj, state.Part, state.With
-/
import Derived.Test.YtphkdkkbbfnkaaaGreatZA
import Derived.Test.YtphkdkkbbfnkaaaGreatZA
import Derived.Test.YtphkdkkbbfnkaaaGreatZB
set_option maxRecDepth 100000
set_option maxHeartbeats 4000000
set_option linter.unusedVariables false
noncomputable section
namespace Go.Proofs.YtphkdkkbbfnkaaaGreat
open Go.Ab Go.Ab.Pg
def Q1q0 := open Rq in (cu (cu (gp 1 1) nil) (cl (cl gb nil) nil))
def Q1q1 := open Rq in (cl (aa (c gi (c gi (c gi (cl gi nil))))) nil)
def Q1q2 := open Rq in (res (pl (aa (c gi (cl gn nil))) (pu nil nil)))
def Q1q3 := open Rq in (res (pl (aa (c gn (cl gn nil))) (pu nil nil)))
def Q1q4 := open Rq in (so (cl (ga (pr (szs hole) (cl kci nil))) nil))
def Q1q5 := open Rq in (res (pr ai (pl (cl (chs (cl gb nil)) nil) nil)))
def Q1q6 := open Rq in (atup (c (ra (c gi (cl gn nil))) (cl (rc cb) nil)))
def Q1q7 := open Rq in (res (pr ai (pl (cu chk (cl (chs (cl gb nil)) nil)) nil)))
def Q1q8 := open Rq in (res (pr ai (pl (cl (chs (cl gb nil)) (cu chk nil)) nil)))
def Q1q9 := open Rq in (res (pl (atup (c (rc cn) (cl (rc cn) nil))) (pu nil nil)))
def Q1q10 := open Rq in (res (pl (atup (c (rc ci) (cl (rc cb) nil))) (pu nil nil)))
def Q1q11 := open Rq in (c an (c an (c an (c an (c an (c an (cl ab (us 14 nil))))))))
def Q1q12 := open Rq in (so (cl (ga (pr (szs hole) (c kci (cl (ki .u64 hole) nil)))) nil))
def Q1q13 := open Rq in (so (cu (gc (cf (fi .i64 (int 0)))) (cu (gc (cf (fi .u64 (int 0)))) nil)))
def Q1q14 := open Rq in (res (pl Q1q6 (pu nil nil)))
def Q1q15 := open Rq in (c an (c an (c an (c an (c an (c an (cl ab (us 19 (xs 8 (us 22 nil))))))))))
def Q1q16 := open Rq in (res (pr (aa (c gi (c gi (cl gi nil)))) (pl (cl (chs (cl gb nil)) nil) nil)))
def Q1q17 := open Rq in (c (so (cl (gl 24 (cl kci nil)) nil)) (cl (so (cl (gl 24 (cl kci nil)) nil)) nil))
def Q1q18 := open Rq in (ac (csl (pu (nat 1) (pu (ox (pu (nat 0) (pu (nat 1) (nat 1)))) (pr (szs hole) (pu (nat 1) hole))))))
def Q1q19 := open Rq in (cu (gc (cf (fi .i64 (int 0)))) (cu (gc (cf (fi .i64 (int 0)))) (cu (gc (cf (fi .i64 (int 0)))) nil)))
def Q1q20 := open Rq in (cu Q1q13 (cl (so (c gi (cl gn nil))) nil))
def Q_AC := (open Rq in (pr (cu (app 0 1) (c ai (c ai (cl ai nil)))) (cl (cl gb nil) nil)) : RA _)
def RR_AC := (open Rq in Q1q5 : RE _)
abbrev D_AC := RR_AC.B
def R_AC (d : D_AC) : T := (fun d => .leaf (RR_AC.em d)) d
abbrev G_AC := Int → Int → Int → Bool → Option D_AC
def e_AC (g : G_AC) : Ct := (89, FC Q_AC R_AC (fun b => g b.1.1 b.1.2.1 b.1.2.2 b.2))
def B_AC (x0 : Int) (x1 : Int) (x2 : Int) (x3 : Bool) : Pg D_AC := cnd (decide (x1 > x2)) (ret (x1, true)) (cnd (decide (x0 < x1)) (ret (x1, true)) (cnd (decide (x0 > x2)) (ret (x2, true)) (ret (x0, x3))))
def f_AC (x0 : Int) (x1 : Int) (x2 : Int) (x3 : Bool) : Option D_AC := (B_AC x0 x1 x2 x3).val
theorem d_AC : DenIs Tryz.prog [] ⟨[], [], [0], [], none⟩ 2000 89 Q_AC R_AC fun b => B_AC b.1.1 b.1.2.1 b.1.2.2 b.2 := fun b => by kernel_rfl
theorem s_AC [Amb] : Snd Tryz.prog (e_AC f_AC) := Snd.of (mk0 mixed (.nil _) (by kernel_rfl) d_AC) (by kernel_rfl)

def Q_Z := (open Rq in (pr (cu (app 0 1) (cl ai nil)) (cl (cl gb nil) nil)) : RA _)
def RR_Z := (open Rq in Q1q5 : RE _)
abbrev D_Z := RR_Z.B
def R_Z (d : D_Z) : T := (fun d => .leaf (RR_Z.em d)) d
abbrev G_Z := Int → Bool → Option D_Z
def e_Z (g : G_Z) : Ct := (97, FC Q_Z R_Z (fun b => g b.1 b.2))
def B_Z (g_AC : G_AC) (x0 : Int) (x1 : Bool) : Pg D_Z := opt (g_AC x0 (-1152921504606846976) 1152921504606846976 x1) fun d => ret d
def f_Z (x0 : Int) (x1 : Bool) : Option D_Z := (B_Z f_AC x0 x1).val
theorem d_Z : ∀ g_AC, DenIs Tryz.prog [e_AC g_AC] ⟨[], [], [], [], none⟩ 2000 97 Q_Z R_Z fun b => B_Z g_AC b.1 b.2 := fun _ b => by kernel_rfl
theorem s_Z [Amb] : Snd Tryz.prog (e_Z f_Z) := Snd.of (mk0 mixed (.c s_AC (.nil _)) (by kernel_rfl) (d_Z f_AC)) (by kernel_rfl)

def Q_Bc := (open Rq in (pl (cl ai nil) nil) : RA _)
def RR_Bc := (open Rq in (res (pl an (pu nil nil))) : RE _)
abbrev D_Bc := RR_Bc.B
def R_Bc (d : D_Bc) : T := (fun d => .leaf (RR_Bc.em d)) d
abbrev G_Bc := Int → Option D_Bc
def e_Bc (g : G_Bc) : Ct := (157, FC Q_Bc R_Bc (fun b => g b))
def B_Bc (x0 : Int) : Pg D_Bc := cnd (decide (x0 < 0)) (ret (wU (0 - wU x0))) (ret (wU x0))
def f_Bc (x0 : Int) : Option D_Bc := (B_Bc x0).val
theorem d_Bc : DenIs Tryz.prog [] ⟨[], [], [], [], none⟩ 2000 157 Q_Bc R_Bc fun b => B_Bc b := fun b => by kernel_rfl
theorem s_Bc [Amb] : Snd Tryz.prog (e_Bc f_Bc) := Snd.of (mk0 mixed (.nil _) (by kernel_rfl) d_Bc) (by kernel_rfl)

def Q_Cl := (open Rq in (pl (c an (cl an nil)) nil) : RA _)
def RR_Cl := (open Rq in Q1q9 : RE _)
abbrev D_Cl := RR_Cl.B
def R_Cl (d : D_Cl) : T := (fun d => .leaf (RR_Cl.em d)) d
abbrev G_Cl := Int → Int → Option D_Cl
def e_Cl (g : G_Cl) : Ct := (156, FC Q_Cl R_Cl (fun b => g b.1 b.2))
def B_Cl (x0 : Int) (x1 : Int) : Pg D_Cl := let y0 := Int.fdiv x0 4294967296; let y1 := Int.fdiv x1 4294967296; let y2 := wU (Int.ofNat (BitVec.toNat (BitVec.ofInt 64 x0 &&& BitVec.ofInt 64 4294967295))); let y3 := wU (Int.ofNat (BitVec.toNat (BitVec.ofInt 64 x1 &&& BitVec.ofInt 64 4294967295))); let y4 := wU (wU (y0 * y3) + Int.fdiv (wU (y2 * y3)) 4294967296); ret (wU (wU (wU (y0 * y1) + Int.fdiv y4 4294967296) + Int.fdiv (wU (wU (Int.ofNat (BitVec.toNat (BitVec.ofInt 64 y4 &&& BitVec.ofInt 64 4294967295))) + wU (y2 * y1))) 4294967296),
 wU (x0 * x1))
def f_Cl (x0 : Int) (x1 : Int) : Option D_Cl := (B_Cl x0 x1).val
theorem d_Cl : DenIs Tryz.prog [] ⟨[], [], [], [], none⟩ 2000 156 Q_Cl R_Cl fun b => B_Cl b.1 b.2 := fun b => by kernel_rfl
theorem s_Cl [Amb] : Snd Tryz.prog (e_Cl f_Cl) := Snd.of (mk0 mixed (.nil _) (by kernel_rfl) d_Cl) (by kernel_rfl)

def Q_CB := (open Rq in (pl (c (aa (c gn (cl gn nil))) (cl ab nil)) nil) : RA _)
def RR_CB := (open Rq in Q1q14 : RE _)
abbrev D_CB := RR_CB.B
def R_CB (d : D_CB) : T := (fun d => .leaf (RR_CB.em d)) d
abbrev G_CB := Int → Int → Bool → Option D_CB
def e_CB (g : G_CB) : Ct := (158, FC Q_CB R_CB (fun b => g b.1.1 b.1.2 b.2))
def B_CB (g_Add64 : G_Add64) (x0 : Int) (x1 : Int) (x2 : Bool) : Pg D_CB := cnd (!x2) (ret ((wI x0, x1), Int.fdiv x0 9223372036854775808 == 0)) (opt (g_Add64 (wU (Int.ofNat (BitVec.toNat (BitVec.ofInt 64 18446744073709551615 ^^^ BitVec.ofInt 64 x1)))) 1 0) fun d => let y0 := wI (wU (wU (Int.ofNat (BitVec.toNat (BitVec.ofInt 64 18446744073709551615 ^^^ BitVec.ofInt 64 x0))) + d.2)); cnd (decide (y0 < 0)) (ret ((y0, d.1), true)) (ret ((y0, d.1), x0 == 0 && (x1 == 0 && true))))
def f_CB (x0 : Int) (x1 : Int) (x2 : Bool) : Option D_CB := (B_CB f_Add64 x0 x1 x2).val
theorem d_CB : ∀ g_Add64, DenIs Tryz.prog [e_Add64 g_Add64] ⟨[], [], [], [], none⟩ 2000 158 Q_CB R_CB fun b => B_CB g_Add64 b.1.1 b.1.2 b.2 := fun _ b => by kernel_rfl
theorem s_CB [Amb] : Snd Tryz.prog (e_CB f_CB) := Snd.of (mk0 mixed (.c s4_Add64 (.nil _)) (by kernel_rfl) (d_CB f_Add64)) (by kernel_rfl)

def Q_AU := (open Rq in (pl (c ai (cl ai nil)) nil) : RA _)
def RR_AU := (open Rq in Q1q2 : RE _)
abbrev D_AU := RR_AU.B
def R_AU (d : D_AU) : T := (fun d => .leaf (RR_AU.em d)) d
abbrev G_AU := Int → Int → Option D_AU
def e_AU (g : G_AU) : Ct := (91, FC Q_AU R_AU (fun b => g b.1 b.2))
def B_AU (g_Bc : G_Bc) (g_Cl : G_Cl) (g_CB : G_CB) (x0 : Int) (x1 : Int) : Pg D_AU := opt (g_Bc x0) fun d => opt (g_Bc x1) fun d_1 => opt (g_Cl d d_1) fun d => opt (g_CB d.1 d.2 !decide (x0 < 0) == decide (x1 < 0)) fun d => ret d.1
def f_AU (x0 : Int) (x1 : Int) : Option D_AU := (B_AU f_Bc f_Cl f_CB x0 x1).val
theorem d_AU : ∀ g_Bc g_Cl g_CB, DenIs Tryz.prog [e_Bc g_Bc, e_Cl g_Cl, e_CB g_CB] ⟨[], [], [], [], none⟩ 2000 91 Q_AU R_AU fun b => B_AU g_Bc g_Cl g_CB b.1 b.2 := fun _ _ _ b => by kernel_rfl
theorem s_AU [Amb] : Snd Tryz.prog (e_AU f_AU) := Snd.of (mk0 mixed (.c s_Bc (.c s_Cl (.c s_CB (.nil _)))) (by kernel_rfl) (d_AU f_Bc f_Cl f_CB)) (by kernel_rfl)

def Q_CA := (open Rq in (pl (cl (aa (c gi (cl gn nil))) nil) nil) : RA _)
def RR_CA := (open Rq in (res (pl (atup (c (ra (c gn (cl gn nil))) (cl (rc cb) nil))) (pu nil nil))) : RE _)
abbrev D_CA := RR_CA.B
def R_CA (d : D_CA) : T := (fun d => .leaf (RR_CA.em d)) d
abbrev G_CA := Int → Int → Option D_CA
def e_CA (g : G_CA) : Ct := (160, FC Q_CA R_CA (fun b => g b.1 b.2))
def B_CA (g_Add64 : G_Add64) (x0 : Int) (x1 : Int) : Pg D_CA := cnd (decide (x0 ≥ 0)) (ret ((wU x0, x1), false)) (opt (g_Add64 (wU (Int.ofNat (BitVec.toNat (BitVec.ofInt 64 18446744073709551615 ^^^ BitVec.ofInt 64 x1)))) 1 0) fun d => ret ((wU (wU (Int.ofNat (BitVec.toNat (BitVec.ofInt 64 18446744073709551615 ^^^ BitVec.ofInt 64 (wU x0)))) + d.2), d.1), true))
def f_CA (x0 : Int) (x1 : Int) : Option D_CA := (B_CA f_Add64 x0 x1).val
theorem d_CA : ∀ g_Add64, DenIs Tryz.prog [e_Add64 g_Add64] ⟨[], [], [], [], none⟩ 2000 160 Q_CA R_CA fun b => B_CA g_Add64 b.1 b.2 := fun _ b => by kernel_rfl
theorem s_CA [Amb] : Snd Tryz.prog (e_CA f_CA) := Snd.of (mk0 mixed (.c s4_Add64 (.nil _)) (by kernel_rfl) (d_CA f_Add64)) (by kernel_rfl)

def Q_BX := (open Rq in (pl (c (aa (c gn (cl gn nil))) (cl ai nil)) nil) : RA _)
def RR_BX := (open Rq in Q1q3 : RE _)
abbrev D_BX := RR_BX.B
def R_BX (d : D_BX) : T := (fun d => .leaf (RR_BX.em d)) d
abbrev G_BX := Int → Int → Int → Option D_BX
def e_BX (g : G_BX) : Ct := (162, FC Q_BX R_BX (fun b => g b.1.1 b.1.2 b.2))
def B_BX (x0 : Int) (x1 : Int) (x2 : Int) : Pg D_BX := let y0 := wI (64 - x2); let y1 := wI (x2 - 64); let y2 := 2 ^ min (Int.toNat x2) 64; let y3 := !decide (x2 < 0); cnd (decide (x2 ≥ 64)) (cnd (!decide (y1 < 0)) (ret (wU (x1 * 2 ^ min (Int.toNat y1) 64), 0)) no) (cnd y3 (cnd (!decide (y0 < 0)) (cnd y3 (ret (wU (Int.ofNat (BitVec.toNat (BitVec.ofInt 64 (wU (x0 * y2)) ||| BitVec.ofInt 64 (Int.fdiv x1 (2 ^ min (Int.toNat y0) 64))))), wU (x1 * y2))) no) no) no)
def f_BX (x0 : Int) (x1 : Int) (x2 : Int) : Option D_BX := (B_BX x0 x1 x2).val
theorem d_BX : DenIs Tryz.prog [] ⟨[], [], [], [], none⟩ 2000 162 Q_BX R_BX fun b => B_BX b.1.1 b.1.2 b.2 := fun b => by kernel_rfl
theorem s_BX [Amb] : Snd Tryz.prog (e_BX f_BX) := Snd.of (mk0 mixed (.nil _) (by kernel_rfl) d_BX) (by kernel_rfl)

def Q_Aw := (open Rq in (pl (c (aa (c gn (cl gn nil))) (cl (aa (c gn (cl gn nil))) nil)) nil) : RA _)
def RR_Aw := (open Rq in Q1q3 : RE _)
abbrev D_Aw := RR_Aw.B
def R_Aw (d : D_Aw) : T := (fun d => .leaf (RR_Aw.em d)) d
abbrev G_Aw := Int → Int → Int → Int → Option D_Aw
def e_Aw (g : G_Aw) : Ct := (161, FC Q_Aw R_Aw (fun b => g b.1.1 b.1.2 b.2.1 b.2.2))
def B_Aw (g_Add64 : G_Add64) (x0 : Int) (x1 : Int) (x2 : Int) (x3 : Int) : Pg D_Aw := opt (g_Add64 x1 x3 0) fun d => opt (g_Add64 x0 x2 d.2) fun d_1 => ret (d_1.1, d.1)
def f_Aw (x0 : Int) (x1 : Int) (x2 : Int) (x3 : Int) : Option D_Aw := (B_Aw f_Add64 x0 x1 x2 x3).val
theorem d_Aw : ∀ g_Add64, DenIs Tryz.prog [e_Add64 g_Add64] ⟨[], [], [], [], none⟩ 2000 161 Q_Aw R_Aw fun b => B_Aw g_Add64 b.1.1 b.1.2 b.2.1 b.2.2 := fun _ b => by kernel_rfl
theorem s_Aw [Amb] : Snd Tryz.prog (e_Aw f_Aw) := Snd.of (mk0 mixed (.c s4_Add64 (.nil _)) (by kernel_rfl) (d_Aw f_Add64)) (by kernel_rfl)

def Q_BT := (open Rq in (pl (c (aa (c gn (cl gn nil))) (cl ai nil)) nil) : RA _)
def RR_BT := (open Rq in Q1q3 : RE _)
abbrev D_BT := RR_BT.B
def R_BT (d : D_BT) : T := (fun d => .leaf (RR_BT.em d)) d
abbrev G_BT := Int → Int → Int → Option D_BT
def e_BT (g : G_BT) : Ct := (164, FC Q_BT R_BT (fun b => g b.1.1 b.1.2 b.2))
def B_BT (x0 : Int) (x1 : Int) (x2 : Int) : Pg D_BT := let y0 := wI (64 - x2); let y1 := wI (x2 - 64); let y2 := 2 ^ min (Int.toNat x2) 64; let y3 := !decide (x2 < 0); cnd (decide (x2 ≥ 64)) (cnd (!decide (y1 < 0)) (ret (0, Int.fdiv x0 (2 ^ min (Int.toNat y1) 64))) no) (cnd y3 (cnd y3 (cnd (!decide (y0 < 0)) (ret (Int.fdiv x0 y2, wU (Int.ofNat (BitVec.toNat (BitVec.ofInt 64 (Int.fdiv x1 y2) ||| BitVec.ofInt 64 (wU (x0 * 2 ^ min (Int.toNat y0) 64))))))) no) no) no)
def f_BT (x0 : Int) (x1 : Int) (x2 : Int) : Option D_BT := (B_BT x0 x1 x2).val
theorem d_BT : DenIs Tryz.prog [] ⟨[], [], [], [], none⟩ 2000 164 Q_BT R_BT fun b => B_BT b.1.1 b.1.2 b.2 := fun b => by kernel_rfl
theorem s_BT [Amb] : Snd Tryz.prog (e_BT f_BT) := Snd.of (mk0 mixed (.nil _) (by kernel_rfl) d_BT) (by kernel_rfl)

def Q_BH := (open Rq in (pl (c (aa (c gn (cl gn nil))) (cl ab nil)) nil) : RA _)
def RR_BH := (open Rq in Q1q10 : RE _)
abbrev D_BH := RR_BH.B
def R_BH (d : D_BH) : T := (fun d => .leaf (RR_BH.em d)) d
abbrev G_BH := Int → Int → Bool → Option D_BH
def e_BH (g : G_BH) : Ct := (163, FC Q_BH R_BH (fun b => g b.1.1 b.1.2 b.2))
def B_BH (x0 : Int) (x1 : Int) (x2 : Bool) : Pg D_BH := let y0 := x0 != 0; let y1 := decide (x1 > 9223372036854775807); cnd y0 (cnd y0 (ret (0, false)) (cnd x2 (ret (wI (wU (0 - x1)), true)) (ret (wI x1, true)))) (cnd (!x2) (cnd y1 (cnd y1 (ret (0, false)) (cnd x2 (ret (wI (wU (0 - x1)), true)) (ret (wI x1, true)))) (cnd x2 (cnd (decide (x1 > 9223372036854775808)) (ret (0, false)) (cnd x2 (ret (wI (wU (0 - x1)),
 true)) (ret (wI x1, true)))) (cnd x2 (ret (wI (wU (0 - x1)), true)) (ret (wI x1, true))))) (cnd x2 (cnd (decide (x1 > 9223372036854775808)) (ret (0, false)) (cnd x2 (ret (wI (wU (0 - x1)), true)) (ret (wI x1, true)))) (cnd x2 (ret (wI (wU (0 - x1)), true)) (ret (wI x1, true)))))
def f_BH (x0 : Int) (x1 : Int) (x2 : Bool) : Option D_BH := (B_BH x0 x1 x2).val
theorem d_BH : DenIs Tryz.prog [] ⟨[], [], [], [], none⟩ 2000 163 Q_BH R_BH fun b => B_BH b.1.1 b.1.2 b.2 := fun b => by kernel_rfl
theorem s_BH [Amb] : Snd Tryz.prog (e_BH f_BH) := Snd.of (mk0 mixed (.nil _) (by kernel_rfl) d_BH) (by kernel_rfl)

def Q_BI := (open Rq in (pl (c (aa (c gi (cl gn nil))) (cl ai nil)) nil) : RA _)
def RR_BI := (open Rq in Q1q10 : RE _)
abbrev D_BI := RR_BI.B
def R_BI (d : D_BI) : T := (fun d => .leaf (RR_BI.em d)) d
abbrev G_BI := Int → Int → Int → Option D_BI
def e_BI (g : G_BI) : Ct := (93, FC Q_BI R_BI (fun b => g b.1.1 b.1.2 b.2))
def B_BI (g_CA : G_CA) (g_BX : G_BX) (g_Aw : G_Aw) (g_BT : G_BT) (g_BH : G_BH) (x0 : Int) (x1 : Int) (x2 : Int) : Pg D_BI := cnd (decide (x2 < 0)) (ret (0, false)) (cnd (decide (x2 > 126)) (ret (0, false)) (opt (g_CA x0 x1) fun d => cnd (decide (x2 > 0)) (opt (g_BX 0 1 (wI (x2 - 1))) fun d_1 => opt (g_Aw d.1.1 d.1.2 d_1.1 d_1.2) fun d_2 => opt (g_BT d_2.1 d_2.2 x2) fun d_3 => opt (g_BH d_3.1 d_3.2 d.2) fun d => ret d) (opt (g_BT d.1.1 d.1.2 x2) fun d_1 => opt (g_BH d_1.1 d_1.2 d.2) fun d => ret d)))
def f_BI (x0 : Int) (x1 : Int) (x2 : Int) : Option D_BI := (B_BI f_CA f_BX f_Aw f_BT f_BH x0 x1 x2).val
theorem d_BI : ∀ g_CA g_BX g_Aw g_BT g_BH, DenIs Tryz.prog [e_CA g_CA, e_BX g_BX, e_Aw g_Aw, e_BT g_BT, e_BH g_BH] ⟨[], [], [], [], none⟩ 2000 93 Q_BI R_BI fun b => B_BI g_CA g_BX g_Aw g_BT g_BH b.1.1 b.1.2 b.2 := fun _ _ _ _ _ b => by kernel_rfl
theorem s_BI [Amb] : Snd Tryz.prog (e_BI f_BI) := Snd.of (mk0 mixed (.c s_CA (.c s_BX (.c s_Aw (.c s_BT (.c s_BH (.nil _)))))) (by kernel_rfl) (d_BI f_CA f_BX f_Aw f_BT f_BH)) (by kernel_rfl)

def Q_CE := (open Rq in (pl (cl ab nil) nil) : RA _)
def RR_CE := (open Rq in (res (pl ai (pu nil nil))) : RE _)
abbrev D_CE := RR_CE.B
def R_CE (d : D_CE) : T := (fun d => .leaf (RR_CE.em d)) d
abbrev G_CE := Bool → Option D_CE
def e_CE (g : G_CE) : Ct := (167, FC Q_CE R_CE (fun b => g b))
def B_CE (x0 : Bool) : Pg D_CE := cnd x0 (ret (-1152921504606846976)) (ret 1152921504606846976)
def f_CE (x0 : Bool) : Option D_CE := (B_CE x0).val
theorem d_CE : DenIs Tryz.prog [] ⟨[], [], [], [], none⟩ 2000 167 Q_CE R_CE fun b => B_CE b := fun b => by kernel_rfl
theorem s_CE [Amb] : Snd Tryz.prog (e_CE f_CE) := Snd.of (mk0 mixed (.nil _) (by kernel_rfl) d_CE) (by kernel_rfl)

def Q_BY := (open Rq in (pr (cu (app 0 1) (c ai (c ab (cl ab nil)))) (cl (cl gb nil) nil)) : RA _)
def RR_BY := (open Rq in Q1q5 : RE _)
abbrev D_BY := RR_BY.B
def R_BY (d : D_BY) : T := (fun d => .leaf (RR_BY.em d)) d
abbrev G_BY := Int → Bool → Bool → Bool → Option D_BY
def e_BY (g : G_BY) : Ct := (166, FC Q_BY R_BY (fun b => g b.1.1 b.1.2.1 b.1.2.2 b.2))
def B_BY (g_CE : G_CE) (g_Z : G_Z) (x0 : Int) (x1 : Bool) (x2 : Bool) (x3 : Bool) : Pg D_BY := cnd (!x1) (opt (g_CE x2) fun d => ret (d, true)) (opt (g_Z x0 x3) fun d => ret d)
def f_BY (x0 : Int) (x1 : Bool) (x2 : Bool) (x3 : Bool) : Option D_BY := (B_BY f_CE f_Z x0 x1 x2 x3).val
theorem d_BY : ∀ g_CE g_Z, DenIs Tryz.prog [e_CE g_CE, e_Z g_Z] ⟨[], [], [], [], none⟩ 2000 166 Q_BY R_BY fun b => B_BY g_CE g_Z b.1.1 b.1.2.1 b.1.2.2 b.2 := fun _ _ b => by kernel_rfl
theorem s_BY [Amb] : Snd Tryz.prog (e_BY f_BY) := Snd.of (mk0 mixed (.c s_CE (.c s_Z (.nil _))) (by kernel_rfl) (d_BY f_CE f_Z)) (by kernel_rfl)

def Q_Bn := (open Rq in (pr (cu (app 0 1) (c (aa (c gi (cl gn nil))) (cl ai nil))) (cl (cl gb nil) nil)) : RA _)
def RR_Bn := (open Rq in Q1q5 : RE _)
abbrev D_Bn := RR_Bn.B
def R_Bn (d : D_Bn) : T := (fun d => .leaf (RR_Bn.em d)) d
abbrev G_Bn := Int → Int → Int → Bool → Option D_Bn
def e_Bn (g : G_Bn) : Ct := (98, FC Q_Bn R_Bn (fun b => g b.1.1.1 b.1.1.2 b.1.2 b.2))
def B_Bn (g_BI : G_BI) (g_BY : G_BY) (x0 : Int) (x1 : Int) (x2 : Int) (x3 : Bool) : Pg D_Bn := cnd (decide (x2 < 0)) (ret (0, true)) (cnd (decide (x2 > 120)) (ret (0, true)) (opt (g_BI x0 x1 x2) fun d => opt (g_BY d.1 d.2 (decide (x0 < 0)) x3) fun d => ret d))
def f_Bn (x0 : Int) (x1 : Int) (x2 : Int) (x3 : Bool) : Option D_Bn := (B_Bn f_BI f_BY x0 x1 x2 x3).val
theorem d_Bn : ∀ g_BI g_BY, DenIs Tryz.prog [e_BI g_BI, e_BY g_BY] ⟨[], [], [], [], none⟩ 2000 98 Q_Bn R_Bn fun b => B_Bn g_BI g_BY b.1.1.1 b.1.1.2 b.1.2 b.2 := fun _ _ b => by kernel_rfl
theorem s_Bn [Amb] : Snd Tryz.prog (e_Bn f_Bn) := Snd.of (mk0 mixed (.c s_BI (.c s_BY (.nil _))) (by kernel_rfl) (d_Bn f_BI f_BY)) (by kernel_rfl)

def Q_AF := (open Rq in (pr (cu (app 0 1) (c ai (c ai (cl ai nil)))) (cl (cl gb nil) nil)) : RA _)
def RR_AF := (open Rq in Q1q5 : RE _)
abbrev D_AF := RR_AF.B
def R_AF (d : D_AF) : T := (fun d => .leaf (RR_AF.em d)) d
abbrev G_AF := Int → Int → Int → Bool → Option D_AF
def e_AF (g : G_AF) : Ct := (55, FC Q_AF R_AF (fun b => g b.1.1 b.1.2.1 b.1.2.2 b.2))
def B_AF (g_Z : G_Z) (g_AU : G_AU) (g_Bn : G_Bn) (x0 : Int) (x1 : Int) (x2 : Int) (x3 : Bool) : Pg D_AF := opt (g_Z x0 x3) fun d => opt (g_Z x1 d.2) fun d_1 => opt (g_AU d.1 d_1.1) fun d => opt (g_Bn d.1 d.2 x2 d_1.2) fun d => ret d
def f_AF (x0 : Int) (x1 : Int) (x2 : Int) (x3 : Bool) : Option D_AF := (B_AF f_Z f_AU f_Bn x0 x1 x2 x3).val
theorem d_AF : ∀ g_Z g_AU g_Bn, DenIs Tryz.prog [e_Z g_Z, e_AU g_AU, e_Bn g_Bn] ⟨[], [], [], [], none⟩ 2000 55 Q_AF R_AF fun b => B_AF g_Z g_AU g_Bn b.1.1 b.1.2.1 b.1.2.2 b.2 := fun _ _ _ b => by kernel_rfl
theorem s_AF [Amb] : Snd Tryz.prog (e_AF f_AF) := Snd.of (mk0 mixed (.c s_Z (.c s_AU (.c s_Bn (.nil _)))) (by kernel_rfl) (d_AF f_Z f_AU f_Bn)) (by kernel_rfl)

def Q_Bo := (open Rq in (pr (c ai (cl ai (cu (app 0 1) nil))) Q1q0) : RA _)
def RR_Bo := (open Rq in Q1q7 : RE _)
abbrev D_Bo := RR_Bo.B
def R_Bo (d : D_Bo) : T := (fun d => .leaf (RR_Bo.em d)) d
abbrev G_Bo := Int → Int → Bool → Option D_Bo
def e_Bo (g : G_Bo) : Ct := (54, FC Q_Bo R_Bo (fun b => g b.1.1 b.1.2 b.2))
def B_Bo (g_AF : G_AF) (x0 : Int) (x1 : Int) (x2 : Bool) : Pg D_Bo := opt (g_AF x0 x1 30 x2) fun d => ret d
def f_Bo (x0 : Int) (x1 : Int) (x2 : Bool) : Option D_Bo := (B_Bo f_AF x0 x1 x2).val
theorem d_Bo : ∀ g_AF, DenIs Tryz.prog [e_AF g_AF] ⟨[], [], [], [], none⟩ 2000 54 Q_Bo R_Bo fun b => B_Bo g_AF b.1.1 b.1.2 b.2 := fun _ b => by kernel_rfl
theorem s_Bo [Amb] : Snd Tryz.prog (e_Bo f_Bo) := Snd.of (mk0 mixed (.c s_AF (.nil _)) (by kernel_rfl) (d_Bo f_AF)) (by kernel_rfl)

def Q_Cw := (open Rq in (pl (cl an nil) nil) : RA _)
def RR_Cw := (open Rq in (res (pl ai (pu nil nil))) : RE _)
abbrev D_Cw := RR_Cw.B
def R_Cw (d : D_Cw) : T := (fun d => .leaf (RR_Cw.em d)) d
abbrev G_Cw := Int → Option D_Cw
def e_Cw (g : G_Cw) : Ct := (247, FC Q_Cw R_Cw (fun b => g b))
def B_Cw (x0 : Int) : Pg D_Cw := let y0 := Int.fdiv x0 65536; let y1 := Int.fdiv x0 4294967296; let y2 := IntKind.wrap .u8 (Int.fdiv x0 256); let y3 := IntKind.wrap .u8 y0; let y4 := IntKind.wrap .u8 y1; let y5 := Int.fdiv y1 65536; let y6 := IntKind.wrap .u8 y5; let y7 := IntKind.wrap .u8 (Int.fdiv y0 256); let y8 := IntKind.wrap .u8 (Int.fdiv y1 256); let y9 := IntKind.wrap .u8 (Int.fdiv y5 256); cnd (decide (x0 ≥ 4294967296)) (cnd (decide (y1 ≥ 65536)) (cnd (decide (y5 ≥ 256)) (cnd (inR y9 256) (ret (wI (56 + wI (byteAt (ByteArray.mk (List.toArray (List.append (List.append [0,
 1, 2, 2, 3, 3, 3, 3, 4, 4, 4, 4, 4, 4, 4, 4, 5, 5, 5, 5, 5, 5, 5, 5, 5, 5, 5, 5, 5, 5, 5, 5, 6, 6, 6, 6, 6, 6, 6, 6, 6, 6, 6, 6, 6, 6, 6, 6, 6, 6, 6, 6, 6, 6, 6, 6, 6, 6, 6, 6, 6, 6, 6, 6] [7, 7, 7, 7, 7, 7, 7, 7, 7, 7, 7, 7, 7, 7, 7, 7, 7, 7, 7, 7, 7, 7, 7, 7, 7, 7, 7, 7, 7, 7, 7, 7, 7, 7, 7, 7, 7, 7, 7, 7, 7, 7, 7, 7, 7, 7, 7, 7, 7, 7, 7, 7, 7, 7, 7, 7, 7, 7, 7, 7, 7, 7, 7, 7]) (List.append [8, 8,
 8, 8, 8, 8, 8, 8, 8, 8, 8, 8, 8, 8, 8, 8, 8, 8, 8, 8, 8, 8, 8, 8, 8, 8, 8, 8, 8, 8, 8, 8, 8, 8, 8, 8, 8, 8, 8, 8, 8, 8, 8, 8, 8, 8, 8, 8, 8, 8, 8, 8, 8, 8, 8, 8, 8, 8, 8, 8, 8, 8, 8, 8] [8, 8, 8, 8, 8, 8, 8, 8, 8, 8, 8, 8, 8, 8, 8, 8, 8, 8, 8, 8, 8, 8, 8, 8, 8, 8, 8, 8, 8, 8, 8, 8, 8, 8, 8, 8, 8, 8, 8, 8, 8, 8, 8, 8, 8, 8, 8, 8, 8, 8, 8, 8, 8, 8, 8, 8, 8, 8, 8, 8, 8, 8, 8, 8])))) (Int.toNat y9))))) no) (cnd (inR y6 256) (ret (wI (48 + wI (byteAt (ByteArray.mk (List.toArray (List.append (List.append [0,
 1, 2, 2, 3, 3, 3, 3, 4, 4, 4, 4, 4, 4, 4, 4, 5, 5, 5, 5, 5, 5, 5, 5, 5, 5, 5, 5, 5, 5, 5, 5, 6, 6, 6, 6, 6, 6, 6, 6, 6, 6, 6, 6, 6, 6, 6, 6, 6, 6, 6, 6, 6, 6, 6, 6, 6, 6, 6, 6, 6, 6, 6, 6] [7, 7, 7, 7, 7, 7, 7, 7, 7, 7, 7, 7, 7, 7, 7, 7, 7, 7, 7, 7, 7, 7, 7, 7, 7, 7, 7, 7, 7, 7, 7, 7, 7, 7, 7, 7, 7, 7, 7, 7, 7, 7, 7, 7, 7, 7, 7, 7, 7, 7, 7, 7, 7, 7, 7, 7, 7, 7, 7, 7, 7, 7, 7, 7]) (List.append [8, 8,
 8, 8, 8, 8, 8, 8, 8, 8, 8, 8, 8, 8, 8, 8, 8, 8, 8, 8, 8, 8, 8, 8, 8, 8, 8, 8, 8, 8, 8, 8, 8, 8, 8, 8, 8, 8, 8, 8, 8, 8, 8, 8, 8, 8, 8, 8, 8, 8, 8, 8, 8, 8, 8, 8, 8, 8, 8, 8, 8, 8, 8, 8] [8, 8, 8, 8, 8, 8, 8, 8, 8, 8, 8, 8, 8, 8, 8, 8, 8, 8, 8, 8, 8, 8, 8, 8, 8, 8, 8, 8, 8, 8, 8, 8, 8, 8, 8, 8, 8, 8, 8, 8, 8, 8, 8, 8, 8, 8, 8, 8, 8, 8, 8, 8, 8, 8, 8, 8, 8, 8, 8, 8, 8, 8, 8, 8])))) (Int.toNat y6))))) no)) (cnd (decide (y1 ≥ 256)) (cnd (inR y8 256) (ret (wI (40 + wI (byteAt (ByteArray.mk (List.toArray (List.append (List.append [0,
 1, 2, 2, 3, 3, 3, 3, 4, 4, 4, 4, 4, 4, 4, 4, 5, 5, 5, 5, 5, 5, 5, 5, 5, 5, 5, 5, 5, 5, 5, 5, 6, 6, 6, 6, 6, 6, 6, 6, 6, 6, 6, 6, 6, 6, 6, 6, 6, 6, 6, 6, 6, 6, 6, 6, 6, 6, 6, 6, 6, 6, 6, 6] [7, 7, 7, 7, 7, 7, 7, 7, 7, 7, 7, 7, 7, 7, 7, 7, 7, 7, 7, 7, 7, 7, 7, 7, 7, 7, 7, 7, 7, 7, 7, 7, 7, 7, 7, 7, 7, 7, 7, 7, 7, 7, 7, 7, 7, 7, 7, 7, 7, 7, 7, 7, 7, 7, 7, 7, 7, 7, 7, 7, 7, 7, 7, 7]) (List.append [8, 8,
 8, 8, 8, 8, 8, 8, 8, 8, 8, 8, 8, 8, 8, 8, 8, 8, 8, 8, 8, 8, 8, 8, 8, 8, 8, 8, 8, 8, 8, 8, 8, 8, 8, 8, 8, 8, 8, 8, 8, 8, 8, 8, 8, 8, 8, 8, 8, 8, 8, 8, 8, 8, 8, 8, 8, 8, 8, 8, 8, 8, 8, 8] [8, 8, 8, 8, 8, 8, 8, 8, 8, 8, 8, 8, 8, 8, 8, 8, 8, 8, 8, 8, 8, 8, 8, 8, 8, 8, 8, 8, 8, 8, 8, 8, 8, 8, 8, 8, 8, 8, 8, 8, 8, 8, 8, 8, 8, 8, 8, 8, 8, 8, 8, 8, 8, 8, 8, 8, 8, 8, 8, 8, 8, 8, 8, 8])))) (Int.toNat y8))))) no) (cnd (inR y4 256) (ret (wI (32 + wI (byteAt (ByteArray.mk (List.toArray (List.append (List.append [0,
 1, 2, 2, 3, 3, 3, 3, 4, 4, 4, 4, 4, 4, 4, 4, 5, 5, 5, 5, 5, 5, 5, 5, 5, 5, 5, 5, 5, 5, 5, 5, 6, 6, 6, 6, 6, 6, 6, 6, 6, 6, 6, 6, 6, 6, 6, 6, 6, 6, 6, 6, 6, 6, 6, 6, 6, 6, 6, 6, 6, 6, 6, 6] [7, 7, 7, 7, 7, 7, 7, 7, 7, 7, 7, 7, 7, 7, 7, 7, 7, 7, 7, 7, 7, 7, 7, 7, 7, 7, 7, 7, 7, 7, 7, 7, 7, 7, 7, 7, 7, 7, 7, 7, 7, 7, 7, 7, 7, 7, 7, 7, 7, 7, 7, 7, 7, 7, 7, 7, 7, 7, 7, 7, 7, 7, 7, 7]) (List.append [8, 8,
 8, 8, 8, 8, 8, 8, 8, 8, 8, 8, 8, 8, 8, 8, 8, 8, 8, 8, 8, 8, 8, 8, 8, 8, 8, 8, 8, 8, 8, 8, 8, 8, 8, 8, 8, 8, 8, 8, 8, 8, 8, 8, 8, 8, 8, 8, 8, 8, 8, 8, 8, 8, 8, 8, 8, 8, 8, 8, 8, 8, 8, 8] [8, 8, 8, 8, 8, 8, 8, 8, 8, 8, 8, 8, 8, 8, 8, 8, 8, 8, 8, 8, 8, 8, 8, 8, 8, 8, 8, 8, 8, 8, 8, 8, 8, 8, 8, 8, 8, 8, 8, 8, 8, 8, 8, 8, 8, 8, 8, 8, 8, 8, 8, 8, 8, 8, 8, 8, 8, 8, 8, 8, 8, 8, 8, 8])))) (Int.toNat y4))))) no))) (cnd (decide (x0 ≥ 65536)) (cnd (decide (y0 ≥ 256)) (cnd (inR y7 256) (ret (wI (24 + wI (byteAt (ByteArray.mk (List.toArray (List.append (List.append [0,
 1, 2, 2, 3, 3, 3, 3, 4, 4, 4, 4, 4, 4, 4, 4, 5, 5, 5, 5, 5, 5, 5, 5, 5, 5, 5, 5, 5, 5, 5, 5, 6, 6, 6, 6, 6, 6, 6, 6, 6, 6, 6, 6, 6, 6, 6, 6, 6, 6, 6, 6, 6, 6, 6, 6, 6, 6, 6, 6, 6, 6, 6, 6] [7, 7, 7, 7, 7, 7, 7, 7, 7, 7, 7, 7, 7, 7, 7, 7, 7, 7, 7, 7, 7, 7, 7, 7, 7, 7, 7, 7, 7, 7, 7, 7, 7, 7, 7, 7, 7, 7, 7, 7, 7, 7, 7, 7, 7, 7, 7, 7, 7, 7, 7, 7, 7, 7, 7, 7, 7, 7, 7, 7, 7, 7, 7, 7]) (List.append [8, 8,
 8, 8, 8, 8, 8, 8, 8, 8, 8, 8, 8, 8, 8, 8, 8, 8, 8, 8, 8, 8, 8, 8, 8, 8, 8, 8, 8, 8, 8, 8, 8, 8, 8, 8, 8, 8, 8, 8, 8, 8, 8, 8, 8, 8, 8, 8, 8, 8, 8, 8, 8, 8, 8, 8, 8, 8, 8, 8, 8, 8, 8, 8] [8, 8, 8, 8, 8, 8, 8, 8, 8, 8, 8, 8, 8, 8, 8, 8, 8, 8, 8, 8, 8, 8, 8, 8, 8, 8, 8, 8, 8, 8, 8, 8, 8, 8, 8, 8, 8, 8, 8, 8, 8, 8, 8, 8, 8, 8, 8, 8, 8, 8, 8, 8, 8, 8, 8, 8, 8, 8, 8, 8, 8, 8, 8, 8])))) (Int.toNat y7))))) no) (cnd (inR y3 256) (ret (wI (16 + wI (byteAt (ByteArray.mk (List.toArray (List.append (List.append [0,
 1, 2, 2, 3, 3, 3, 3, 4, 4, 4, 4, 4, 4, 4, 4, 5, 5, 5, 5, 5, 5, 5, 5, 5, 5, 5, 5, 5, 5, 5, 5, 6, 6, 6, 6, 6, 6, 6, 6, 6, 6, 6, 6, 6, 6, 6, 6, 6, 6, 6, 6, 6, 6, 6, 6, 6, 6, 6, 6, 6, 6, 6, 6] [7, 7, 7, 7, 7, 7, 7, 7, 7, 7, 7, 7, 7, 7, 7, 7, 7, 7, 7, 7, 7, 7, 7, 7, 7, 7, 7, 7, 7, 7, 7, 7, 7, 7, 7, 7, 7, 7, 7, 7, 7, 7, 7, 7, 7, 7, 7, 7, 7, 7, 7, 7, 7, 7, 7, 7, 7, 7, 7, 7, 7, 7, 7, 7]) (List.append [8, 8,
 8, 8, 8, 8, 8, 8, 8, 8, 8, 8, 8, 8, 8, 8, 8, 8, 8, 8, 8, 8, 8, 8, 8, 8, 8, 8, 8, 8, 8, 8, 8, 8, 8, 8, 8, 8, 8, 8, 8, 8, 8, 8, 8, 8, 8, 8, 8, 8, 8, 8, 8, 8, 8, 8, 8, 8, 8, 8, 8, 8, 8, 8] [8, 8, 8, 8, 8, 8, 8, 8, 8, 8, 8, 8, 8, 8, 8, 8, 8, 8, 8, 8, 8, 8, 8, 8, 8, 8, 8, 8, 8, 8, 8, 8, 8, 8, 8, 8, 8, 8, 8, 8, 8, 8, 8, 8, 8, 8, 8, 8, 8, 8, 8, 8, 8, 8, 8, 8, 8, 8, 8, 8, 8, 8, 8, 8])))) (Int.toNat y3))))) no)) (cnd (decide (x0 ≥ 256)) (cnd (inR y2 256) (ret (wI (8 + wI (byteAt (ByteArray.mk (List.toArray (List.append (List.append [0,
 1, 2, 2, 3, 3, 3, 3, 4, 4, 4, 4, 4, 4, 4, 4, 5, 5, 5, 5, 5, 5, 5, 5, 5, 5, 5, 5, 5, 5, 5, 5, 6, 6, 6, 6, 6, 6, 6, 6, 6, 6, 6, 6, 6, 6, 6, 6, 6, 6, 6, 6, 6, 6, 6, 6, 6, 6, 6, 6, 6, 6, 6, 6] [7, 7, 7, 7, 7, 7, 7, 7, 7, 7, 7, 7, 7, 7, 7, 7, 7, 7, 7, 7, 7, 7, 7, 7, 7, 7, 7, 7, 7, 7, 7, 7, 7, 7, 7, 7, 7, 7, 7, 7, 7, 7, 7, 7, 7, 7, 7, 7, 7, 7, 7, 7, 7, 7, 7, 7, 7, 7, 7, 7, 7, 7, 7, 7]) (List.append [8, 8,
 8, 8, 8, 8, 8, 8, 8, 8, 8, 8, 8, 8, 8, 8, 8, 8, 8, 8, 8, 8, 8, 8, 8, 8, 8, 8, 8, 8, 8, 8, 8, 8, 8, 8, 8, 8, 8, 8, 8, 8, 8, 8, 8, 8, 8, 8, 8, 8, 8, 8, 8, 8, 8, 8, 8, 8, 8, 8, 8, 8, 8, 8] [8, 8, 8, 8, 8, 8, 8, 8, 8, 8, 8, 8, 8, 8, 8, 8, 8, 8, 8, 8, 8, 8, 8, 8, 8, 8, 8, 8, 8, 8, 8, 8, 8, 8, 8, 8, 8, 8, 8, 8, 8, 8, 8, 8, 8, 8, 8, 8, 8, 8, 8, 8, 8, 8, 8, 8, 8, 8, 8, 8, 8, 8, 8, 8])))) (Int.toNat y2))))) no) (cnd (inR (IntKind.wrap .u8 x0) 256) (ret (wI (0 + wI (byteAt (ByteArray.mk (List.toArray (List.append (List.append [0,
 1, 2, 2, 3, 3, 3, 3, 4, 4, 4, 4, 4, 4, 4, 4, 5, 5, 5, 5, 5, 5, 5, 5, 5, 5, 5, 5, 5, 5, 5, 5, 6, 6, 6, 6, 6, 6, 6, 6, 6, 6, 6, 6, 6, 6, 6, 6, 6, 6, 6, 6, 6, 6, 6, 6, 6, 6, 6, 6, 6, 6, 6, 6] [7, 7, 7, 7, 7, 7, 7, 7, 7, 7, 7, 7, 7, 7, 7, 7, 7, 7, 7, 7, 7, 7, 7, 7, 7, 7, 7, 7, 7, 7, 7, 7, 7, 7, 7, 7, 7, 7, 7, 7, 7, 7, 7, 7, 7, 7, 7, 7, 7, 7, 7, 7, 7, 7, 7, 7, 7, 7, 7, 7, 7, 7, 7, 7]) (List.append [8, 8,
 8, 8, 8, 8, 8, 8, 8, 8, 8, 8, 8, 8, 8, 8, 8, 8, 8, 8, 8, 8, 8, 8, 8, 8, 8, 8, 8, 8, 8, 8, 8, 8, 8, 8, 8, 8, 8, 8, 8, 8, 8, 8, 8, 8, 8, 8, 8, 8, 8, 8, 8, 8, 8, 8, 8, 8, 8, 8, 8, 8, 8, 8] [8, 8, 8, 8, 8, 8, 8, 8, 8, 8, 8, 8, 8, 8, 8, 8, 8, 8, 8, 8, 8, 8, 8, 8, 8, 8, 8, 8, 8, 8, 8, 8, 8, 8, 8, 8, 8, 8, 8, 8, 8, 8, 8, 8, 8, 8, 8, 8, 8, 8, 8, 8, 8, 8, 8, 8, 8, 8, 8, 8, 8, 8, 8, 8])))) (Int.toNat (IntKind.wrap .u8 x0)))))) no)))
def f_Cw (x0 : Int) : Option D_Cw := (B_Cw x0).val
theorem d_Cw : DenIs Tryz.prog [] ⟨[], [], [], [], none⟩ 2000 247 Q_Cw R_Cw fun b => B_Cw b := fun b => by kernel_rfl
theorem s_Cw [Amb] : Snd Tryz.prog (e_Cw f_Cw) := Snd.of (mk0 mixed (.nil _) (by kernel_rfl) d_Cw) (by kernel_rfl)

def Q_CY := (open Rq in (pl (cl an nil) nil) : RA _)
def RR_CY := (open Rq in (res (pl ai (pu nil nil))) : RE _)
abbrev D_CY := RR_CY.B
def R_CY (d : D_CY) : T := (fun d => .leaf (RR_CY.em d)) d
abbrev G_CY := Int → Option D_CY
def e_CY (g : G_CY) : Ct := (238, FC Q_CY R_CY (fun b => g b))
def B_CY (g_Cw : G_Cw) (x0 : Int) : Pg D_CY := opt (g_Cw x0) fun d => ret (wI (64 - d))
def f_CY (x0 : Int) : Option D_CY := (B_CY f_Cw x0).val
theorem d_CY : ∀ g_Cw, DenIs Tryz.prog [e_Cw g_Cw] ⟨[], [], [], [], none⟩ 2000 238 Q_CY R_CY fun b => B_CY g_Cw b := fun _ b => by kernel_rfl
theorem s_CY [Amb] : Snd Tryz.prog (e_CY f_CY) := Snd.of (mk0 mixed (.c s_Cw (.nil _)) (by kernel_rfl) (d_CY f_Cw)) (by kernel_rfl)

def Q_AY := (open Rq in (pl (c an (c an (cl an nil))) nil) : RA _)
def RR_AY := (open Rq in Q1q9 : RE _)
abbrev D_AY := RR_AY.B
def R_AY (d : D_AY) : T := (fun d => .leaf (RR_AY.em d)) d
abbrev G_AY := Int → Int → Int → Option D_AY
def e_AY (g : G_AY) : Ct := (211, FC Q_AY R_AY (fun b => g b.1 b.2.1 b.2.2))
def QL_AY_0 := (open Rq in (st (pl (us 2 (c an (us 5 (c an (c an (c an (c an (us 1 (c an (c an (c an (cl an (us 88 (xs 8 (us 22 nil))))))))))))))) (pu nil nil))) : RS _)
def Z_bits_Div64_0_0 := (open Rq in (st (pl (us 2 (c an (us 5 (c an (c an (c an (c an (us 1 (c an (c an (c an (c an (us 50 (c an (c ab (cu (ac (cf (fb (bool true)))) (xs 8 (cu (ac (cf (fb (bool true)))) Q1q15)))))))))))))))))) (pu nil nil))) : RS _)
def Z_bits_Div64_0_1 := (open Rq in (st (pl (us 2 (c an (us 5 (c an (c an (c an (c an (us 1 (c an (c an (c an (c an (us 50 (c an (c ab (cu (ac (cf (fb (bool false)))) (c an (c an (c an (c an (c an (c an (c an (c ab (c ab Q1q15))))))))))))))))))))))))) (pu nil nil))) : RS _)
def Z_bits_Div64_0_2 := (open Rq in (st (pl (us 2 (c an (us 5 (c an (c an (c an (c an (us 1 (c an (c an (c an (c an (us 50 (c an (c ab (cu (ac (cf (fb (bool false)))) (c an (c an (c an (c an (c an (c an (c an (c ab (cl ab (us 26 (xs 8 (us 22 nil)))))))))))))))))))))))))))) (pu nil nil))) : RS _)
abbrev X_AY_0 := ty18 ⊕ ty15
def E_AY_0 {ρ : Type} (x : X_AY_0) (K : AX → St → Option ρ) : Option ρ := (Sum.elim (fun d => K (AX.ex 0) (Z_bits_Div64_0_0.em (d.1, d.2.1, d.2.2.1, d.2.2.2.1, d.2.2.2.2.1, d.2.2.2.2.2.1, d.2.2.2.2.2.2.1, d.2.2.2.2.2.2.2.1, d.2.2.2.2.2.2.2.2.1, d.2.2.2.2.2.2.2.2.2.1, d.2.2.2.2.2.2.2.2.2.2.1, d.2.2.2.2.2.2.2.2.2.1, d.2.2.2.2.2.2.2.1, d.2.2.2.2.2.2.2.2.2.2.2.1, d.2.2.1, d.2.2.2.2.2.2.2.2.1, d.2.2.2.2.2.2.2.2.1,
 d.2.2.2.2.2.2.2.2.2.2.2.2))) (Sum.elim (fun d => K (AX.ex 0) (Z_bits_Div64_0_1.em (d.1, d.2.1, d.2.2.1, d.2.2.2.1, d.2.2.2.2.1, d.2.2.2.2.2.1, d.2.2.2.2.2.2.1, d.2.2.2.2.2.2.2.1, d.2.2.2.2.2.2.2.2.1, d.2.2.2.2.2.2.2.2.2.1, d.2.2.2.2.2.2.2.2.2.2.1, d.2.2.2.2.2.2.2.2.2.1, d.2.2.2.1, d.2.2.2.2.2.2.2.2.2.2.2.1, d.2.2.2.2.2.2.2.2.2.2.2.2.1, d.2.2.2.2.2.2.2.2.2.2.2.2.2.1, d.2.2.2.2.2.1, d.2.2.2.2.2.2.2.2.2.2.2.2.2.2.1,
 d.2.2.2.2.2.2.2.2.2.2.2.2.2.2.2.1, d.2.2.2.2.2.2.2.2.2.2.2.2.2.2.2.1, d.2.2.2.2.2.2.2.2.2.1, d.2.2.2.2.2.2.2.1, d.2.2.2.2.2.2.2.2.2.2.2.2.1, d.2.2.1, d.2.2.2.2.2.2.2.2.1, d.2.2.2.2.2.2.2.2.1, d.2.2.2.2.2.2.2.2.2.2.2.2.2.2.2.2))) (fun d => K (AX.ex 0) (Z_bits_Div64_0_2.em (d.1, d.2.1, d.2.2.1, d.2.2.2.1, d.2.2.2.2.1, d.2.2.2.2.2.1, d.2.2.2.2.2.2.1, d.2.2.2.2.2.2.2.1, d.2.2.2.2.2.2.2.2.1, d.2.2.2.2.2.2.2.1,
 d.2.2.2.2.2.2.2.2.2.1, d.2.2.2.2.2.2.2.1, d.2.2.2.1, d.2.2.2.2.2.2.2.2.2.2.1, d.2.2.2.2.2.2.2.2.1, d.2.2.2.2.2.2.2.2.2.2.2.1, d.2.2.2.2.2.1, d.2.2.2.2.2.2.2.2.2.2.2.2.1, d.2.2.2.2.2.2.2.2.2.2.2.2.2, d.2.2.2.2.2.2.2.2.2.2.2.2.2))))) x
def S_AY_0 (d : QL_AY_0.B) : Pg (QL_AY_0.B ⊕ X_AY_0) := let y0 := wU (4294967296 * d.2.2.2.2.2.2.2.2); let y1 := wU (d.2.2.2.2.2.2.2.1 - 1); let y2 := wU (d.2.2.2.2.2.2.2.2 + d.2.2.1); let y3 := wU (d.2.2.2.2.2.2.2.1 * d.2.2.2.1); let y4 := decide (d.2.2.2.2.2.2.2.1 ≥ 4294967296); let y5 := wU (y0 + d.2.2.2.2.2.1); let y6 := decide (y2 ≥ 4294967296); let y7 := decide (y3 > y5); cnd y4 (cnd y6 (ret (Sum.inr (Sum.inl (d.1,
 d.2.1, d.2.2.1, d.2.2.2.1, d.2.2.2.2.1, d.2.2.2.2.2.1, d.2.2.2.2.2.2.1, y1, y2, d.2.2.2.2.2.2.2.1, y4, d.2.2.2.2.2.2.2.2, y6)))) (ret (Sum.inl (d.1, d.2.1, d.2.2.1, d.2.2.2.1, d.2.2.2.2.1, d.2.2.2.2.2.1, d.2.2.2.2.2.2.1, y1, y2)))) (cnd y7 (cnd y6 (ret (Sum.inr (Sum.inr (Sum.inl (d.1, d.2.1, d.2.2.1, d.2.2.2.1, d.2.2.2.2.1, d.2.2.2.2.2.1, d.2.2.2.2.2.2.1, y1, y2, d.2.2.2.2.2.2.2.1, y4, y3, d.2.2.2.2.2.2.2.2,
 y0, y5, y7, y6))))) (ret (Sum.inl (d.1, d.2.1, d.2.2.1, d.2.2.2.1, d.2.2.2.2.1, d.2.2.2.2.2.1, d.2.2.2.2.2.2.1, y1, y2)))) (ret (Sum.inr (Sum.inr (Sum.inr (d.1, d.2.1, d.2.2.1, d.2.2.2.1, d.2.2.2.2.1, d.2.2.2.2.2.1, d.2.2.2.2.2.2.1, d.2.2.2.2.2.2.2.1, d.2.2.2.2.2.2.2.2, y4, y3, y0, y5, y7))))))
def L_AY_0 : QL_AY_0.B → Option X_AY_0 := loopP (S_AY_0) 2000
def QL_AY_1 := (open Rq in (st (pl (us 2 (c an (us 5 (c an (c an (c an (us 3 (c an (c an (c an (c an (cl an (us 116 nil))))))))))))) (pu nil nil))) : RS _)
def Z_bits_Div64_1_0 := (open Rq in (st (pl (us 2 (c an (us 5 (c an (c an (c an (us 3 (c an (c an (c an (c an (c an (us 83 (c an (c ab (cu (ac (cf (fb (bool true)))) (xs 8 (cu (ac (cf (fb (bool true)))) Q1q11)))))))))))))))))) (pu nil nil))) : RS _)
def Z_bits_Div64_1_1 := (open Rq in (st (pl (us 2 (c an (us 5 (c an (c an (c an (us 3 (c an (c an (c an (c an (c an (us 83 (c an (c ab (cu (ac (cf (fb (bool false)))) (c an (c an (c an (c an (c an (c an (c an (c ab (c ab Q1q11))))))))))))))))))))))))) (pu nil nil))) : RS _)
def Z_bits_Div64_1_2 := (open Rq in (st (pl (us 2 (c an (us 5 (c an (c an (c an (us 3 (c an (c an (c an (c an (c an (us 83 (c an (c ab (cu (ac (cf (fb (bool false)))) (c an (c an (c an (c an (c an (c an (c an (c ab (cl ab (us 21 nil)))))))))))))))))))))))))) (pu nil nil))) : RS _)
abbrev X_AY_1 := ty18 ⊕ ty15
def E_AY_1 {ρ : Type} (x : X_AY_1) (K : AX → St → Option ρ) : Option ρ := (Sum.elim (fun d => K (AX.ex 2) (Z_bits_Div64_1_0.em (d.1, d.2.1, d.2.2.1, d.2.2.2.1, d.2.2.2.2.1, d.2.2.2.2.2.1, d.2.2.2.2.2.2.1, d.2.2.2.2.2.2.2.1, d.2.2.2.2.2.2.2.2.1, d.2.2.2.2.2.2.2.2.2.1, d.2.2.2.2.2.2.2.2.2.2.1, d.2.2.2.2.2.2.2.2.2.1, d.2.2.2.2.2.2.2.2.1, d.2.2.2.2.2.2.2.2.2.2.2.1, d.2.2.1, d.2.2.2.2.2.2.1, d.2.2.2.2.2.2.1,
 d.2.2.2.2.2.2.2.2.2.2.2.2))) (Sum.elim (fun d => K (AX.ex 2) (Z_bits_Div64_1_1.em (d.1, d.2.1, d.2.2.1, d.2.2.2.1, d.2.2.2.2.1, d.2.2.2.2.2.1, d.2.2.2.2.2.2.1, d.2.2.2.2.2.2.2.1, d.2.2.2.2.2.2.2.2.1, d.2.2.2.2.2.2.2.2.2.1, d.2.2.2.2.2.2.2.2.2.2.1, d.2.2.2.2.2.2.2.2.2.1, d.2.2.2.1, d.2.2.2.2.2.2.2.2.2.2.2.1, d.2.2.2.2.2.2.2.2.2.2.2.2.1, d.2.2.2.2.2.2.2.2.2.2.2.2.2.1, d.2.2.2.2.1, d.2.2.2.2.2.2.2.2.2.2.2.2.2.2.1,
 d.2.2.2.2.2.2.2.2.2.2.2.2.2.2.2.1, d.2.2.2.2.2.2.2.2.2.2.2.2.2.2.2.1, d.2.2.2.2.2.2.2.2.2.1, d.2.2.2.2.2.2.2.2.1, d.2.2.2.2.2.2.2.2.2.2.2.2.1, d.2.2.1, d.2.2.2.2.2.2.1, d.2.2.2.2.2.2.1, d.2.2.2.2.2.2.2.2.2.2.2.2.2.2.2.2))) (fun d => K (AX.ex 2) (Z_bits_Div64_1_2.em (d.1, d.2.1, d.2.2.1, d.2.2.2.1, d.2.2.2.2.1, d.2.2.2.2.2.1, d.2.2.2.2.2.2.1, d.2.2.2.2.2.2.2.1, d.2.2.2.2.2.2.2.2.1, d.2.2.2.2.2.2.2.2.1,
 d.2.2.2.2.2.2.2.2.2.1, d.2.2.2.2.2.2.2.2.1, d.2.2.2.1, d.2.2.2.2.2.2.2.2.2.2.1, d.2.2.2.2.2.2.1, d.2.2.2.2.2.2.2.2.2.2.2.1, d.2.2.2.2.1, d.2.2.2.2.2.2.2.2.2.2.2.2.1, d.2.2.2.2.2.2.2.2.2.2.2.2.2, d.2.2.2.2.2.2.2.2.2.2.2.2.2))))) x
def S_AY_1 (d : QL_AY_1.B) : Pg (QL_AY_1.B ⊕ X_AY_1) := let y0 := wU (4294967296 * d.2.2.2.2.2.2.1); let y1 := wU (d.2.2.2.2.2.2.2.2 - 1); let y2 := wU (d.2.2.2.2.2.2.1 + d.2.2.1); let y3 := wU (d.2.2.2.2.2.2.2.2 * d.2.2.2.1); let y4 := wU (y0 + d.2.2.2.2.1); let y5 := decide (d.2.2.2.2.2.2.2.2 ≥ 4294967296); let y6 := decide (y2 ≥ 4294967296); let y7 := decide (y3 > y4); cnd y5 (cnd y6 (ret (Sum.inr (Sum.inl (d.1,
 d.2.1, d.2.2.1, d.2.2.2.1, d.2.2.2.2.1, d.2.2.2.2.2.1, y2, d.2.2.2.2.2.2.2.1, y1, d.2.2.2.2.2.2.2.2, y5, d.2.2.2.2.2.2.1, y6)))) (ret (Sum.inl (d.1, d.2.1, d.2.2.1, d.2.2.2.1, d.2.2.2.2.1, d.2.2.2.2.2.1, y2, d.2.2.2.2.2.2.2.1, y1)))) (cnd y7 (cnd y6 (ret (Sum.inr (Sum.inr (Sum.inl (d.1, d.2.1, d.2.2.1, d.2.2.2.1, d.2.2.2.2.1, d.2.2.2.2.2.1, y2, d.2.2.2.2.2.2.2.1, y1, d.2.2.2.2.2.2.2.2, y5, y3, d.2.2.2.2.2.2.1,
 y0, y4, y7, y6))))) (ret (Sum.inl (d.1, d.2.1, d.2.2.1, d.2.2.2.1, d.2.2.2.2.1, d.2.2.2.2.2.1, y2, d.2.2.2.2.2.2.2.1, y1)))) (ret (Sum.inr (Sum.inr (Sum.inr (d.1, d.2.1, d.2.2.1, d.2.2.2.1, d.2.2.2.2.1, d.2.2.2.2.2.1, d.2.2.2.2.2.2.1, d.2.2.2.2.2.2.2.1, d.2.2.2.2.2.2.2.2, y5, y3, y0, y4, y7))))))
def L_AY_1 : QL_AY_1.B → Option X_AY_1 := loopP (S_AY_1) 2000
def H_AY (l_0 : QL_AY_0.B → Option X_AY_0) (l_1 : QL_AY_1.B → Option X_AY_1) : Hs := ⟨[⟨17, [0, 1, 3, 4, 5, 6, 7, 12, 17, 18, 19, 20, 21, 22, 23, 24, 25, 26, 27, 28, 29, 30, 31, 32, 33, 34, 35, 36, 37, 38, 39, 40, 41, 42, 43, 44, 45, 46, 47, 48, 49, 50, 51, 52, 53, 54, 55, 56, 57, 58, 59, 60, 61, 62, 63, 64, 65, 66, 67, 68, 69, 78, 79, 80, 81, 82, 83, 84, 85, 86, 87, 88, 89, 90, 91, 92, 93, 94, 95,
 96, 97, 98, 99, 100, 101, 102, 103, 104, 113, 114, 115, 116, 117, 118, 119, 120, 121, 122, 123, 124, 125, 126, 127, 128, 129, 130, 131, 132, 133, 134, 70, 71, 72, 73, 74, 75, 76, 77], []⟩, ⟨24, [0, 1, 3, 4, 5, 6, 7, 11, 12, 13, 19, 20, 21, 22, 23, 24, 25, 26, 27, 28, 29, 30, 31, 32, 33, 34, 35, 36, 37, 38, 39, 40, 41, 42, 43, 44, 45, 46, 47, 48, 49, 50, 51, 52, 53, 54, 55, 56, 57, 58, 59, 60, 61, 62,
 63, 64, 65, 66, 67, 68, 69, 70, 71, 72, 73, 74, 75, 76, 77, 78, 79, 80, 81, 82, 83, 84, 85, 86, 87, 88, 89, 90, 91, 92, 93, 94, 95, 96, 97, 98, 99, 100, 101, 102, 103, 104, 113, 114, 115, 116, 117, 118, 119, 120, 121, 122, 123, 124, 125, 126, 127, 128, 129, 130, 131, 132, 133, 134, 105, 106, 107, 108, 109, 110, 111, 112], []⟩], [smQ 17 0 QL_AY_0 E_AY_0 l_0, smQ 24 0 QL_AY_1 E_AY_1 l_1], [], [], (some ⟨0,
 (rg 0 6 (rg 8 127 [])), []⟩)⟩
def B_AY (g_CY : G_CY) (l_0 : QL_AY_0.B → Option X_AY_0) (l_1 : QL_AY_1.B → Option X_AY_1) (x0 : Int) (x1 : Int) (x2 : Int) : Pg D_AY := let y0 := !decide (x2 = 0); cnd (x2 == 0) no (cnd (decide (x2 ≤ x0)) no (cnd (x0 == 0) (cnd y0 (cnd y0 (ret (wU (Int.tdiv x1 x2), Int.tmod x1 x2)) no) no) (opt (g_CY x2) fun d => let y0 := wU (64 - wU d); let y1 := 2 ^ min (Int.toNat (wU d)) 64; let y2 := !decide (wU d < 0); let y3 := wU (x1 * y1); let y4 := wU (x2 * y1); let y5 := Int.fdiv y4 4294967296; let y6 := wU (Int.ofNat (BitVec.toNat (BitVec.ofInt 64 (wU (x0 * y1)) ||| BitVec.ofInt 64 (Int.fdiv x1 (2 ^ min (Int.toNat y0) 64))))); let y7 := wU (Int.tdiv y6 y5); cnd y2 (cnd y2 (cnd (!decide (y0 < 0)) (cnd y2 (cnd (!decide (y5 = 0)) (opt (l_0 (y4,
 wU d, y5, wU (Int.ofNat (BitVec.toNat (BitVec.ofInt 64 y4 &&& BitVec.ofInt 64 4294967295))), y6, Int.fdiv y3 4294967296, wU (Int.ofNat (BitVec.toNat (BitVec.ofInt 64 y3 &&& BitVec.ofInt 64 4294967295))), y7, wU (y6 - wU (y7 * y5)))) fun x => sum x (fun d => let y0 := wU (wU (wU (d.2.2.2.2.1 * 4294967296) + d.2.2.2.2.2.1) - wU (d.2.2.2.2.2.2.2.1 * d.1)); let y1 := wU (Int.tdiv y0 d.2.2.1); cnd (!decide (d.2.2.1 = 0)) (opt (l_1 (d.1,
 d.2.1, d.2.2.1, d.2.2.2.1, d.2.2.2.2.2.2.1, d.2.2.2.2.2.2.2.1, wU (y0 - wU (y1 * d.2.2.1)), y0, y1)) fun x => sum x (fun d => cnd (!decide (d.2.1 < 0)) (ret (wU (wU (d.2.2.2.2.2.1 * 4294967296) + d.2.2.2.2.2.2.2.2.1), Int.fdiv (wU (wU (wU (d.2.2.2.2.2.2.2.1 * 4294967296) + d.2.2.2.2.1) - wU (d.2.2.2.2.2.2.2.2.1 * d.1))) (2 ^ min (Int.toNat d.2.1) 64))) no) fun x => sum x (fun d => cnd (!decide (d.2.1 < 0)) (ret (wU (wU (d.2.2.2.2.2.1 * 4294967296) + d.2.2.2.2.2.2.2.2.1),
 Int.fdiv (wU (wU (wU (d.2.2.2.2.2.2.2.1 * 4294967296) + d.2.2.2.2.1) - wU (d.2.2.2.2.2.2.2.2.1 * d.1))) (2 ^ min (Int.toNat d.2.1) 64))) no) fun d => cnd (!decide (d.2.1 < 0)) (ret (wU (wU (d.2.2.2.2.2.1 * 4294967296) + d.2.2.2.2.2.2.2.2.1), Int.fdiv (wU (wU (wU (d.2.2.2.2.2.2.2.1 * 4294967296) + d.2.2.2.2.1) - wU (d.2.2.2.2.2.2.2.2.1 * d.1))) (2 ^ min (Int.toNat d.2.1) 64))) no) no) fun x => sum x (fun d => let y0 := wU (wU (wU (d.2.2.2.2.1 * 4294967296) + d.2.2.2.2.2.1) - wU (d.2.2.2.2.2.2.2.1 * d.1)); let y1 := wU (Int.tdiv y0 d.2.2.1); cnd (!decide (d.2.2.1 = 0)) (opt (l_1 (d.1,
 d.2.1, d.2.2.1, d.2.2.2.1, d.2.2.2.2.2.2.1, d.2.2.2.2.2.2.2.1, wU (y0 - wU (y1 * d.2.2.1)), y0, y1)) fun x => sum x (fun d => cnd (!decide (d.2.1 < 0)) (ret (wU (wU (d.2.2.2.2.2.1 * 4294967296) + d.2.2.2.2.2.2.2.2.1), Int.fdiv (wU (wU (wU (d.2.2.2.2.2.2.2.1 * 4294967296) + d.2.2.2.2.1) - wU (d.2.2.2.2.2.2.2.2.1 * d.1))) (2 ^ min (Int.toNat d.2.1) 64))) no) fun x => sum x (fun d => cnd (!decide (d.2.1 < 0)) (ret (wU (wU (d.2.2.2.2.2.1 * 4294967296) + d.2.2.2.2.2.2.2.2.1),
 Int.fdiv (wU (wU (wU (d.2.2.2.2.2.2.2.1 * 4294967296) + d.2.2.2.2.1) - wU (d.2.2.2.2.2.2.2.2.1 * d.1))) (2 ^ min (Int.toNat d.2.1) 64))) no) fun d => cnd (!decide (d.2.1 < 0)) (ret (wU (wU (d.2.2.2.2.2.1 * 4294967296) + d.2.2.2.2.2.2.2.2.1), Int.fdiv (wU (wU (wU (d.2.2.2.2.2.2.2.1 * 4294967296) + d.2.2.2.2.1) - wU (d.2.2.2.2.2.2.2.2.1 * d.1))) (2 ^ min (Int.toNat d.2.1) 64))) no) no) fun d => let y0 := wU (wU (wU (d.2.2.2.2.1 * 4294967296) + d.2.2.2.2.2.1) - wU (d.2.2.2.2.2.2.2.1 * d.1)); let y1 := wU (Int.tdiv y0 d.2.2.1); cnd (!decide (d.2.2.1 = 0)) (opt (l_1 (d.1,
 d.2.1, d.2.2.1, d.2.2.2.1, d.2.2.2.2.2.2.1, d.2.2.2.2.2.2.2.1, wU (y0 - wU (y1 * d.2.2.1)), y0, y1)) fun x => sum x (fun d => cnd (!decide (d.2.1 < 0)) (ret (wU (wU (d.2.2.2.2.2.1 * 4294967296) + d.2.2.2.2.2.2.2.2.1), Int.fdiv (wU (wU (wU (d.2.2.2.2.2.2.2.1 * 4294967296) + d.2.2.2.2.1) - wU (d.2.2.2.2.2.2.2.2.1 * d.1))) (2 ^ min (Int.toNat d.2.1) 64))) no) fun x => sum x (fun d => cnd (!decide (d.2.1 < 0)) (ret (wU (wU (d.2.2.2.2.2.1 * 4294967296) + d.2.2.2.2.2.2.2.2.1),
 Int.fdiv (wU (wU (wU (d.2.2.2.2.2.2.2.1 * 4294967296) + d.2.2.2.2.1) - wU (d.2.2.2.2.2.2.2.2.1 * d.1))) (2 ^ min (Int.toNat d.2.1) 64))) no) fun d => cnd (!decide (d.2.1 < 0)) (ret (wU (wU (d.2.2.2.2.2.1 * 4294967296) + d.2.2.2.2.2.2.2.2.1), Int.fdiv (wU (wU (wU (d.2.2.2.2.2.2.2.1 * 4294967296) + d.2.2.2.2.1) - wU (d.2.2.2.2.2.2.2.2.1 * d.1))) (2 ^ min (Int.toNat d.2.1) 64))) no) no) no) no) no) no) no)))
def f_AY (x0 : Int) (x1 : Int) (x2 : Int) : Option D_AY := (B_AY f_CY L_AY_0 L_AY_1 x0 x1 x2).val
theorem dl_AY_0 : ∀ g_CY l_0 l_1, LoopIs Tryz.prog [e_CY g_CY] (H_AY l_0 l_1) 0 2000 211 17 QL_AY_0 E_AY_0 (S_AY_0) := fun _ _ _ _ d c K => by kernel_rfl
theorem dl_AY_1 : ∀ g_CY l_0 l_1, LoopIs Tryz.prog [e_CY g_CY] (H_AY l_0 l_1) 0 2000 211 24 QL_AY_1 E_AY_1 (S_AY_1) := fun _ _ _ _ d c K => by kernel_rfl
theorem d_AY : ∀ g_CY l_0 l_1, DenIs Tryz.prog [e_CY g_CY] (H_AY l_0 l_1) 2000 211 Q_AY R_AY fun b => B_AY g_CY l_0 l_1 b.1 b.2.1 b.2.2 := fun _ _ _ b => by kernel_rfl
theorem s_AY [Amb] : Snd Tryz.prog (e_AY f_AY) := Snd.of (mkS mixed (.c s_CY (.nil _)) (by kernel_rfl) (Sums.by (l := [loopIn Tryz.prog 211 17, loopIn Tryz.prog 211 24]) (lj := []) (by kernel_rfl) ⟨mkL (S := S_AY_0) (by kernel_rfl) (dl_AY_0 f_CY L_AY_0 L_AY_1), ⟨mkL (S := S_AY_1) (by kernel_rfl) (dl_AY_1 f_CY L_AY_0 L_AY_1), trivial⟩⟩ (by kernel_rfl) trivial) (d_AY f_CY L_AY_0 L_AY_1)) (by kernel_rfl)

def Q_Cy := (open Rq in (pl (c (aa (c gi (cl gn nil))) (cl ai nil)) nil) : RA _)
def RR_Cy := (open Rq in Q1q10 : RE _)
abbrev D_Cy := RR_Cy.B
def R_Cy (d : D_Cy) : T := (fun d => .leaf (RR_Cy.em d)) d
abbrev G_Cy := Int → Int → Int → Option D_Cy
def e_Cy (g : G_Cy) : Ct := (168, FC Q_Cy R_Cy (fun b => g b.1.1 b.1.2 b.2))
def B_Cy (g_CA : G_CA) (g_Bc : G_Bc) (g_AY : G_AY) (g_Aw : G_Aw) (g_BH : G_BH) (x0 : Int) (x1 : Int) (x2 : Int) : Pg D_Cy := cnd (x2 == 0) (ret (0, false)) (opt (g_CA x0 x1) fun d => let y0 := !d.2 == decide (x2 < 0); opt (g_Bc x2) fun d_1 => let y0_1 := wU (Int.tdiv d.1.1 d_1); let y1 := !decide (d_1 = 0); cnd y1 (cnd y1 (opt (g_AY (Int.tmod d.1.1 d_1) d.1.2 d_1) fun d => cnd (decide (d.2 ≥ wU (d_1 - d.2))) (opt (g_Aw y0_1 d.1 0 1) fun d => opt (g_BH d.1 d.2 y0) fun d => ret d) (opt (g_BH y0_1 d.1 y0) fun d => ret d)) no) no)
def f_Cy (x0 : Int) (x1 : Int) (x2 : Int) : Option D_Cy := (B_Cy f_CA f_Bc f_AY f_Aw f_BH x0 x1 x2).val
theorem d_Cy : ∀ g_CA g_Bc g_AY g_Aw g_BH, DenIs Tryz.prog [e_CA g_CA, e_Bc g_Bc, e_AY g_AY, e_Aw g_Aw, e_BH g_BH] ⟨[], [], [], [], none⟩ 2000 168 Q_Cy R_Cy fun b => B_Cy g_CA g_Bc g_AY g_Aw g_BH b.1.1 b.1.2 b.2 := fun _ _ _ _ _ b => by kernel_rfl
theorem s_Cy [Amb] : Snd Tryz.prog (e_Cy f_Cy) := Snd.of (mk0 mixed (.c s_CA (.c s_Bc (.c s_AY (.c s_Aw (.c s_BH (.nil _)))))) (by kernel_rfl) (d_Cy f_CA f_Bc f_AY f_Aw f_BH)) (by kernel_rfl)

def Q_CI := (open Rq in (pr (cu (app 0 1) (c (aa (c gi (cl gn nil))) (cl ai nil))) (cl (cl gb nil) nil)) : RA _)
def RR_CI := (open Rq in Q1q5 : RE _)
abbrev D_CI := RR_CI.B
def R_CI (d : D_CI) : T := (fun d => .leaf (RR_CI.em d)) d
abbrev G_CI := Int → Int → Int → Bool → Option D_CI
def e_CI (g : G_CI) : Ct := (99, FC Q_CI R_CI (fun b => g b.1.1.1 b.1.1.2 b.1.2 b.2))
def B_CI (g_CE : G_CE) (g_Cy : G_Cy) (g_BY : G_BY) (x0 : Int) (x1 : Int) (x2 : Int) (x3 : Bool) : Pg D_CI := let y0 := decide (x0 < 0); cnd (x2 == 0) (cnd (x0 == 0 && (x1 == 0 && true)) (ret (0, true)) (opt (g_CE y0) fun d => ret (d, true))) (opt (g_Cy x0 x1 x2) fun d => opt (g_BY d.1 d.2 (!y0 == decide (x2 < 0)) x3) fun d => ret d)
def f_CI (x0 : Int) (x1 : Int) (x2 : Int) (x3 : Bool) : Option D_CI := (B_CI f_CE f_Cy f_BY x0 x1 x2 x3).val
theorem d_CI : ∀ g_CE g_Cy g_BY, DenIs Tryz.prog [e_CE g_CE, e_Cy g_Cy, e_BY g_BY] ⟨[], [], [], [], none⟩ 2000 99 Q_CI R_CI fun b => B_CI g_CE g_Cy g_BY b.1.1.1 b.1.1.2 b.1.2 b.2 := fun _ _ _ b => by kernel_rfl
theorem s_CI [Amb] : Snd Tryz.prog (e_CI f_CI) := Snd.of (mk0 mixed (.c s_CE (.c s_Cy (.c s_BY (.nil _)))) (by kernel_rfl) (d_CI f_CE f_Cy f_BY)) (by kernel_rfl)

def Q_AH := (open Rq in (pr (cu (app 0 1) (c ai (c ai (cl ai nil)))) (cl (cl gb nil) nil)) : RA _)
def RR_AH := (open Rq in Q1q5 : RE _)
abbrev D_AH := RR_AH.B
def R_AH (d : D_AH) : T := (fun d => .leaf (RR_AH.em d)) d
abbrev G_AH := Int → Int → Int → Bool → Option D_AH
def e_AH (g : G_AH) : Ct := (56, FC Q_AH R_AH (fun b => g b.1.1 b.1.2.1 b.1.2.2 b.2))
def B_AH (g_Z : G_Z) (g_AU : G_AU) (g_CI : G_CI) (x0 : Int) (x1 : Int) (x2 : Int) (x3 : Bool) : Pg D_AH := opt (g_Z x0 x3) fun d => opt (g_Z x1 d.2) fun d_1 => opt (g_AU d.1 d_1.1) fun d => opt (g_Z x2 d_1.2) fun d_2 => opt (g_CI d.1 d.2 d_2.1 d_2.2) fun d => ret d
def f_AH (x0 : Int) (x1 : Int) (x2 : Int) (x3 : Bool) : Option D_AH := (B_AH f_Z f_AU f_CI x0 x1 x2 x3).val
theorem d_AH : ∀ g_Z g_AU g_CI, DenIs Tryz.prog [e_Z g_Z, e_AU g_AU, e_CI g_CI] ⟨[], [], [], [], none⟩ 2000 56 Q_AH R_AH fun b => B_AH g_Z g_AU g_CI b.1.1 b.1.2.1 b.1.2.2 b.2 := fun _ _ _ b => by kernel_rfl
theorem s_AH [Amb] : Snd Tryz.prog (e_AH f_AH) := Snd.of (mk0 mixed (.c s_Z (.c s_AU (.c s_CI (.nil _)))) (by kernel_rfl) (d_AH f_Z f_AU f_CI)) (by kernel_rfl)

def Q_CJ := (open Rq in (pl (c ai (cl ai nil)) nil) : RA _)
def RR_CJ := (open Rq in Q1q14 : RE _)
abbrev D_CJ := RR_CJ.B
def R_CJ (d : D_CJ) : T := (fun d => .leaf (RR_CJ.em d)) d
abbrev G_CJ := Int → Int → Option D_CJ
def e_CJ (g : G_CJ) : Ct := (103, FC Q_CJ R_CJ (fun b => g b.1 b.2))
def B_CJ (g_Bc : G_Bc) (g_BX : G_BX) (g_BT : G_BT) (g_CB : G_CB) (x0 : Int) (x1 : Int) : Pg D_CJ := cnd (decide (x1 < 0)) (ret ((0, 0), false)) (cnd (decide (x1 > 127)) (ret ((0, 0), false)) (opt (g_Bc x0) fun d => opt (g_BX 0 d x1) fun d_1 => opt (g_BT d_1.1 d_1.2 x1) fun d_2 => cnd (!(d_2.1 == 0 && (d_2.2 == d && true))) (ret ((0, 0), false)) (opt (g_CB d_1.1 d_1.2 (decide (x0 < 0))) fun d => cnd (!d.2) (ret ((0, 0), false)) (ret (d.1, true)))))
def f_CJ (x0 : Int) (x1 : Int) : Option D_CJ := (B_CJ f_Bc f_BX f_BT f_CB x0 x1).val
theorem d_CJ : ∀ g_Bc g_BX g_BT g_CB, DenIs Tryz.prog [e_Bc g_Bc, e_BX g_BX, e_BT g_BT, e_CB g_CB] ⟨[], [], [], [], none⟩ 2000 103 Q_CJ R_CJ fun b => B_CJ g_Bc g_BX g_BT g_CB b.1 b.2 := fun _ _ _ _ b => by kernel_rfl
theorem s_CJ [Amb] : Snd Tryz.prog (e_CJ f_CJ) := Snd.of (mk0 mixed (.c s_Bc (.c s_BX (.c s_BT (.c s_CB (.nil _))))) (by kernel_rfl) (d_CJ f_Bc f_BX f_BT f_CB)) (by kernel_rfl)

def Q_AL := (open Rq in (pr (cu (app 0 1) (c ai (c ai (cl ai nil)))) (cl (cl gb nil) nil)) : RA _)
def RR_AL := (open Rq in Q1q5 : RE _)
abbrev D_AL := RR_AL.B
def R_AL (d : D_AL) : T := (fun d => .leaf (RR_AL.em d)) d
abbrev G_AL := Int → Int → Int → Bool → Option D_AL
def e_AL (g : G_AL) : Ct := (60, FC Q_AL R_AL (fun b => g b.1.1 b.1.2.1 b.1.2.2 b.2))
def B_AL (g_Z : G_Z) (g_CJ : G_CJ) (g_CI : G_CI) (x0 : Int) (x1 : Int) (x2 : Int) (x3 : Bool) : Pg D_AL := opt (g_Z x0 x3) fun d => opt (g_Z x1 d.2) fun d_1 => cnd (decide (x2 < 0)) (ret (0, true)) (cnd (decide (x2 > 66)) (ret (0, true)) (opt (g_CJ d.1 x2) fun d => opt (g_CI d.1.1 d.1.2 d_1.1 d_1.2) fun d => ret d))
def f_AL (x0 : Int) (x1 : Int) (x2 : Int) (x3 : Bool) : Option D_AL := (B_AL f_Z f_CJ f_CI x0 x1 x2 x3).val
theorem d_AL : ∀ g_Z g_CJ g_CI, DenIs Tryz.prog [e_Z g_Z, e_CJ g_CJ, e_CI g_CI] ⟨[], [], [], [], none⟩ 2000 60 Q_AL R_AL fun b => B_AL g_Z g_CJ g_CI b.1.1 b.1.2.1 b.1.2.2 b.2 := fun _ _ _ b => by kernel_rfl
theorem s_AL [Amb] : Snd Tryz.prog (e_AL f_AL) := Snd.of (mk0 mixed (.c s_Z (.c s_CJ (.c s_CI (.nil _)))) (by kernel_rfl) (d_AL f_Z f_CJ f_CI)) (by kernel_rfl)

def Q_CL := (open Rq in (pl (c (aa (c gn (cl gn nil))) (cl (aa (c gn (cl gn nil))) nil)) nil) : RA _)
def RR_CL := (open Rq in (res (pl ab (pu nil nil))) : RE _)
abbrev D_CL := RR_CL.B
def R_CL (d : D_CL) : T := (fun d => .leaf (RR_CL.em d)) d
abbrev G_CL := Int → Int → Int → Int → Option D_CL
def e_CL (g : G_CL) : Ct := (213, FC Q_CL R_CL (fun b => g b.1.1 b.1.2 b.2.1 b.2.2))
def B_CL (x0 : Int) (x1 : Int) (x2 : Int) (x3 : Int) : Pg D_CL := cnd (decide (x0 < x2)) (ret true) (cnd (x0 == x2) (ret (decide (x1 < x3))) (ret false))
def f_CL (x0 : Int) (x1 : Int) (x2 : Int) (x3 : Int) : Option D_CL := (B_CL x0 x1 x2 x3).val
theorem d_CL : DenIs Tryz.prog [] ⟨[], [], [], [], none⟩ 2000 213 Q_CL R_CL fun b => B_CL b.1.1 b.1.2 b.2.1 b.2.2 := fun b => by kernel_rfl
theorem s_CL [Amb] : Snd Tryz.prog (e_CL f_CL) := Snd.of (mk0 mixed (.nil _) (by kernel_rfl) d_CL) (by kernel_rfl)

def Q_Cg := (open Rq in (pl (c (aa (c gn (cl gn nil))) (cl (aa (c gn (cl gn nil))) nil)) nil) : RA _)
def RR_Cg := (open Rq in Q1q3 : RE _)
abbrev D_Cg := RR_Cg.B
def R_Cg (d : D_Cg) : T := (fun d => .leaf (RR_Cg.em d)) d
abbrev G_Cg := Int → Int → Int → Int → Option D_Cg
def e_Cg (g : G_Cg) : Ct := (214, FC Q_Cg R_Cg (fun b => g b.1.1 b.1.2 b.2.1 b.2.2))
def B_Cg (g_Sub64 : G_Sub64) (x0 : Int) (x1 : Int) (x2 : Int) (x3 : Int) : Pg D_Cg := opt (g_Sub64 x1 x3 0) fun d => opt (g_Sub64 x0 x2 d.2) fun d_1 => ret (d_1.1, d.1)
def f_Cg (x0 : Int) (x1 : Int) (x2 : Int) (x3 : Int) : Option D_Cg := (B_Cg f_Sub64 x0 x1 x2 x3).val
theorem d_Cg : ∀ g_Sub64, DenIs Tryz.prog [e_Sub64 g_Sub64] ⟨[], [], [], [], none⟩ 2000 214 Q_Cg R_Cg fun b => B_Cg g_Sub64 b.1.1 b.1.2 b.2.1 b.2.2 := fun _ b => by kernel_rfl
theorem s_Cg [Amb] : Snd Tryz.prog (e_Cg f_Cg) := Snd.of (mk0 mixed (.c s4_Sub64 (.nil _)) (by kernel_rfl) (d_Cg f_Sub64)) (by kernel_rfl)

def Q_BC := (open Rq in (pl (cl (aa (c gi (cl gn nil))) nil) nil) : RA _)
def RR_BC := (open Rq in Q1q10 : RE _)
abbrev D_BC := RR_BC.B
def R_BC (d : D_BC) : T := (fun d => .leaf (RR_BC.em d)) d
abbrev G_BC := Int → Int → Option D_BC
def e_BC (g : G_BC) : Ct := (170, FC Q_BC R_BC (fun b => g b.1 b.2))
def QL_BC_0 := (open Rq in (st (pr (us 4 (cu (app 0 2) (cu (app 1 2) (cl ai (us 44 nil))))) (pl (c (so (c gn (cl gn nil))) (cl (so (c gn (cl gn nil))) nil)) nil))) : RS _)
def Z_BC_0 := (open Rq in (st (pr (us 4 (cu (app 0 2) (cu (app 1 2) (c ai (us 12 (c ai (cl ab (us 30 nil)))))))) (pl (c (so (c gn (cl gn nil))) (cl (so (c gn (cl gn nil))) nil)) nil))) : RS _)
abbrev X_BC_0 := ((Int × Bool) × (Int × Int) × Int × Int)
def E_BC_0 {ρ : Type} (x : X_BC_0) (K : AX → St → Option ρ) : Option ρ := (fun d => K (AX.ex 0) (Z_BC_0.em ((d.1.1, d.1), d.2))) x
def S_BC_0 (g_BX : G_BX) (g_Aw : G_Aw) (g_BT : G_BT) (g_CL : G_CL) (g_Cg : G_Cg) (d : QL_BC_0.B) : Pg (QL_BC_0.B ⊕ X_BC_0) := let y0 := wI (d.1 - 2); let y1 := decide (d.1 ≥ 0); cnd y1 (opt (g_BX 0 1 d.1) fun d_1 => opt (g_Aw d.2.2.1 d.2.2.2 d_1.1 d_1.2) fun d_2 => opt (g_BT d.2.2.1 d.2.2.2 1) fun d_3 => opt (g_CL d.2.1.1 d.2.1.2 d_2.1 d_2.2) fun d_4 => cnd (!d_4) (opt (g_Cg d.2.1.1 d.2.1.2 d_2.1 d_2.2) fun d => opt (g_Aw d_3.1 d_3.2 d_1.1 d_1.2) fun d_5 => ret (Sum.inl (y0,
 d, d_5))) (ret (Sum.inl (y0, d.2.1, d_3)))) (ret (Sum.inr ((d.1, y1), d.2)))
def L_BC_0 : QL_BC_0.B → Option X_BC_0 := loopP (S_BC_0 f_BX f_Aw f_BT f_CL f_Cg) 2000
def H_BC (l_0 : QL_BC_0.B → Option X_BC_0) : Hs := ⟨[⟨5, (rg 0 4 (rg 7 44 [])), []⟩], [smQ 5 0 QL_BC_0 E_BC_0 l_0], [], [], (some ⟨0, (0 :: 1 :: rg 4 47 []), []⟩)⟩
def B_BC (g_Aw : G_Aw) (g_CL : G_CL) (g_BH : G_BH) (l_0 : QL_BC_0.B → Option X_BC_0) (x0 : Int) (x1 : Int) : Pg D_BC := cnd (decide (x0 < 0)) (ret (0, false)) (opt (l_0 (126, (wU x0, x1), 0, 0)) fun d => opt (g_CL d.2.2.1 d.2.2.2 d.2.1.1 d.2.1.2) fun d_1 => cnd d_1 (opt (g_Aw d.2.2.1 d.2.2.2 0 1) fun d => opt (g_BH d.1 d.2 false) fun d => ret d) (opt (g_BH d.2.2.1 d.2.2.2 false) fun d => ret d))
def f_BC (x0 : Int) (x1 : Int) : Option D_BC := (B_BC f_Aw f_CL f_BH L_BC_0 x0 x1).val
theorem dl_BC_0 : ∀ g_BX g_Aw g_BT g_CL g_Cg g_BH l_0, LoopIs Tryz.prog [e_BX g_BX, e_Aw g_Aw, e_BT g_BT, e_CL g_CL, e_Cg g_Cg, e_BH g_BH] (H_BC l_0) 0 2000 170 5 QL_BC_0 E_BC_0 (S_BC_0 g_BX g_Aw g_BT g_CL g_Cg) := fun _ _ _ _ _ _ _ _ d c K => by kernel_rfl
theorem d_BC : ∀ g_BX g_Aw g_BT g_CL g_Cg g_BH l_0, DenIs Tryz.prog [e_BX g_BX, e_Aw g_Aw, e_BT g_BT, e_CL g_CL, e_Cg g_Cg, e_BH g_BH] (H_BC l_0) 2000 170 Q_BC R_BC fun b => B_BC g_Aw g_CL g_BH l_0 b.1 b.2 := fun _ _ _ _ _ _ _ b => by kernel_rfl
theorem s_BC [Amb] : Snd Tryz.prog (e_BC f_BC) := Snd.of (mkS mixed (.c s_BX (.c s_Aw (.c s_BT (.c s_CL (.c s_Cg (.c s_BH (.nil _))))))) (by kernel_rfl) (Sums.by (l := [loopIn Tryz.prog 170 5]) (lj := []) (by kernel_rfl) ⟨mkL (S := S_BC_0 f_BX f_Aw f_BT f_CL f_Cg) (by kernel_rfl) (dl_BC_0 f_BX f_Aw f_BT f_CL f_Cg f_BH L_BC_0), trivial⟩ (by kernel_rfl) trivial) (d_BC f_BX f_Aw f_BT f_CL f_Cg f_BH L_BC_0)) (by kernel_rfl)

def Q_Bx := (open Rq in (pr (cu (app 0 1) (cl (aa (c gi (cl gn nil))) nil)) (cl (cl gb nil) nil)) : RA _)
def RR_Bx := (open Rq in Q1q5 : RE _)
abbrev D_Bx := RR_Bx.B
def R_Bx (d : D_Bx) : T := (fun d => .leaf (RR_Bx.em d)) d
abbrev G_Bx := Int → Int → Bool → Option D_Bx
def e_Bx (g : G_Bx) : Ct := (104, FC Q_Bx R_Bx (fun b => g b.1.1 b.1.2 b.2))
def B_Bx (g_BC : G_BC) (g_Z : G_Z) (x0 : Int) (x1 : Int) (x2 : Bool) : Pg D_Bx := opt (g_BC x0 x1) fun d => cnd (!d.2) (opt (g_Z 1152921504606846977 x2) fun d => ret d) (opt (g_Z d.1 x2) fun d => ret d)
def f_Bx (x0 : Int) (x1 : Int) (x2 : Bool) : Option D_Bx := (B_Bx f_BC f_Z x0 x1 x2).val
theorem d_Bx : ∀ g_BC g_Z, DenIs Tryz.prog [e_BC g_BC, e_Z g_Z] ⟨[], [], [], [], none⟩ 2000 104 Q_Bx R_Bx fun b => B_Bx g_BC g_Z b.1.1 b.1.2 b.2 := fun _ _ b => by kernel_rfl
theorem s_Bx [Amb] : Snd Tryz.prog (e_Bx f_Bx) := Snd.of (mk0 mixed (.c s_BC (.c s_Z (.nil _))) (by kernel_rfl) (d_Bx f_BC f_Z)) (by kernel_rfl)

def Q_CM := (open Rq in (pr (cu (app 0 1) (cl ai nil)) (cl (cl gb nil) nil)) : RA _)
def RR_CM := (open Rq in Q1q5 : RE _)
abbrev D_CM := RR_CM.B
def R_CM (d : D_CM) : T := (fun d => .leaf (RR_CM.em d)) d
abbrev G_CM := Int → Bool → Option D_CM
def e_CM (g : G_CM) : Ct := (59, FC Q_CM R_CM (fun b => g b.1 b.2))
def B_CM (g_Z : G_Z) (g_CJ : G_CJ) (g_Bx : G_Bx) (x0 : Int) (x1 : Bool) : Pg D_CM := opt (g_Z x0 x1) fun d => cnd (decide (d.1 < 0)) (ret (0, true)) (opt (g_CJ d.1 30) fun d_1 => opt (g_Bx d_1.1.1 d_1.1.2 d.2) fun d => ret d)
def f_CM (x0 : Int) (x1 : Bool) : Option D_CM := (B_CM f_Z f_CJ f_Bx x0 x1).val
theorem d_CM : ∀ g_Z g_CJ g_Bx, DenIs Tryz.prog [e_Z g_Z, e_CJ g_CJ, e_Bx g_Bx] ⟨[], [], [], [], none⟩ 2000 59 Q_CM R_CM fun b => B_CM g_Z g_CJ g_Bx b.1 b.2 := fun _ _ _ b => by kernel_rfl
theorem s_CM [Amb] : Snd Tryz.prog (e_CM f_CM) := Snd.of (mk0 mixed (.c s_Z (.c s_CJ (.c s_Bx (.nil _)))) (by kernel_rfl) (d_CM f_Z f_CJ f_Bx)) (by kernel_rfl)

def Q_CN := (open Rq in (pl (cl ai nil) nil) : RA _)
def RR_CN := (open Rq in (res (pl ai (pu nil nil))) : RE _)
abbrev D_CN := RR_CN.B
def R_CN (d : D_CN) : T := (fun d => .leaf (RR_CN.em d)) d
abbrev G_CN := Int → Option D_CN
def e_CN (g : G_CN) : Ct := (100, FC Q_CN R_CN (fun b => g b))
def B_CN (x0 : Int) : Pg D_CN := let y0 := Int.tmod x0 6746518852; cnd (decide (y0 > 3373259426)) (ret (wI (y0 - 6746518852))) (cnd (decide (y0 ≤ -3373259426)) (ret (wI (y0 + 6746518852))) (ret y0))
def f_CN (x0 : Int) : Option D_CN := (B_CN x0).val
theorem d_CN : DenIs Tryz.prog [] ⟨[], [], [], [], none⟩ 2000 100 Q_CN R_CN fun b => B_CN b := fun b => by kernel_rfl
theorem s_CN [Amb] : Snd Tryz.prog (e_CN f_CN) := Snd.of (mk0 mixed (.nil _) (by kernel_rfl) d_CN) (by kernel_rfl)

def Q_Ap := (open Rq in (pl (cl ai nil) nil) : RA _)
def RR_Ap := (open Rq in (res (pl ai (pu nil nil))) : RE _)
abbrev D_Ap := RR_Ap.B
def R_Ap (d : D_Ap) : T := (fun d => .leaf (RR_Ap.em d)) d
abbrev G_Ap := Int → Option D_Ap
def e_Ap (g : G_Ap) : Ct := (90, FC Q_Ap R_Ap (fun b => g b))
def B_Ap (x0 : Int) : Pg D_Ap := cnd (decide (x0 ≥ 1152921504606846976)) (ret 1152921504606846976) (cnd (decide (x0 ≤ -1152921504606846976)) (ret 1152921504606846976) (cnd (decide (x0 < 0)) (ret (wI (0 - x0))) (ret x0)))
def f_Ap (x0 : Int) : Option D_Ap := (B_Ap x0).val
theorem d_Ap : DenIs Tryz.prog [] ⟨[], [], [], [], none⟩ 2000 90 Q_Ap R_Ap fun b => B_Ap b := fun b => by kernel_rfl
theorem s_Ap [Amb] : Snd Tryz.prog (e_Ap f_Ap) := Snd.of (mk0 mixed (.nil _) (by kernel_rfl) d_Ap) (by kernel_rfl)

def Q_Be := (open Rq in (pr (cu (app 0 1) (c ai (cl ai nil))) (cl (cl gb nil) nil)) : RA _)
def RR_Be := (open Rq in Q1q5 : RE _)
abbrev D_Be := RR_Be.B
def R_Be (d : D_Be) : T := (fun d => .leaf (RR_Be.em d)) d
abbrev G_Be := Int → Int → Bool → Option D_Be
def e_Be (g : G_Be) : Ct := (101, FC Q_Be R_Be (fun b => g b.1.1 b.1.2 b.2))
def B_Be (g_AF : G_AF) (x0 : Int) (x1 : Int) (x2 : Bool) : Pg D_Be := opt (g_AF x0 x1 30 x2) fun d => ret d
def f_Be (x0 : Int) (x1 : Int) (x2 : Bool) : Option D_Be := (B_Be f_AF x0 x1 x2).val
theorem d_Be : ∀ g_AF, DenIs Tryz.prog [e_AF g_AF] ⟨[], [], [], [], none⟩ 2000 101 Q_Be R_Be fun b => B_Be g_AF b.1.1 b.1.2 b.2 := fun _ b => by kernel_rfl
theorem s_Be [Amb] : Snd Tryz.prog (e_Be f_Be) := Snd.of (mk0 mixed (.c s_AF (.nil _)) (by kernel_rfl) (d_Be f_AF)) (by kernel_rfl)

def Q_Ci := (open Rq in (pl (cl ai nil) nil) : RA _)
def RR_Ci := (open Rq in Q1q2 : RE _)
abbrev D_Ci := RR_Ci.B
def R_Ci (d : D_Ci) : T := (fun d => .leaf (RR_Ci.em d)) d
abbrev G_Ci := Int → Option D_Ci
def e_Ci (g : G_Ci) : Ct := (212, FC Q_Ci R_Ci (fun b => g b))
def B_Ci (x0 : Int) : Pg D_Ci := ret (Int.fdiv x0 9223372036854775808, wU x0)
def f_Ci (x0 : Int) : Option D_Ci := (B_Ci x0).val
theorem d_Ci : DenIs Tryz.prog [] ⟨[], [], [], [], none⟩ 2000 212 Q_Ci R_Ci fun b => B_Ci b := fun b => by kernel_rfl
theorem s_Ci [Amb] : Snd Tryz.prog (e_Ci f_Ci) := Snd.of (mk0 mixed (.nil _) (by kernel_rfl) d_Ci) (by kernel_rfl)

def Q_CX := (open Rq in (pl (c (aa (c gi (cl gn nil))) (cl (aa (c gi (cl gn nil))) nil)) nil) : RA _)
def RR_CX := (open Rq in Q1q14 : RE _)
abbrev D_CX := RR_CX.B
def R_CX (d : D_CX) : T := (fun d => .leaf (RR_CX.em d)) d
abbrev G_CX := Int → Int → Int → Int → Option D_CX
def e_CX (g : G_CX) : Ct := (159, FC Q_CX R_CX (fun b => g b.1.1 b.1.2 b.2.1 b.2.2))
def B_CX (g_Add64 : G_Add64) (x0 : Int) (x1 : Int) (x2 : Int) (x3 : Int) : Pg D_CX := let y0 := decide (x0 < 0); opt (g_Add64 x1 x3 0) fun d => opt (g_Add64 (wU x0) (wU x2) d.2) fun d_1 => cnd (!y0 == decide (x2 < 0)) (ret ((wI d_1.1, d.1), true)) (ret ((wI d_1.1, d.1), decide (wI d_1.1 < 0) == y0))
def f_CX (x0 : Int) (x1 : Int) (x2 : Int) (x3 : Int) : Option D_CX := (B_CX f_Add64 x0 x1 x2 x3).val
theorem d_CX : ∀ g_Add64, DenIs Tryz.prog [e_Add64 g_Add64] ⟨[], [], [], [], none⟩ 2000 159 Q_CX R_CX fun b => B_CX g_Add64 b.1.1 b.1.2 b.2.1 b.2.2 := fun _ b => by kernel_rfl
theorem s_CX [Amb] : Snd Tryz.prog (e_CX f_CX) := Snd.of (mk0 mixed (.c s4_Add64 (.nil _)) (by kernel_rfl) (d_CX f_Add64)) (by kernel_rfl)

def Q_AO := (open Rq in (dp (cl (ac (slc 0 2)) nil) fun a => (cl (cl (gs a.1 (c kci (cl (ki .u64 hole) nil))) nil) nil)) : RA _)
def RR_AO := (open Rq in (res (pl Q1q6 (pu (cu chk nil) nil))) : RE _)
abbrev D_AO := RR_AO.B
def R_AO (d : D_AO) : T := (fun d => .leaf (RR_AO.em d)) d
abbrev G_AO := Nat → NI → NI → Bool → Option D_AO
def e_AO (g : G_AO) : Ct := (92, nilF 0 [.i .i64, .i .u64] (FC Q_AO R_AO (fun b => g b.1.1 b.2.1 b.2.2 b.1.2)))
def QL_AO_0 := (open Rq in (st (dp (us 2 (cu (app 1 2) (us 1 (cu (app 2 2) (us 4 (c (ac (slc 0 2)) (c ai (cl ai (us 15 nil))))))))) fun a => (pl (c (so (cl (gs a.1.1 (c kci (cl (ki .u64 hole) nil))) nil)) Q1q20) nil))) : RS _)
def Z_wide_Add_0_0 := (open Rq in (st (pu (us 2 (cu (app 1 2) (cu (ac (cf (fb (bool false)))) (us 23 nil)))) (pl (cl Q1q12 (cu Q1q13 nil)) nil))) : RS _)
def Z_wide_Add_0_1 := (open Rq in (st (pr (us 2 (cu (app 1 2) (us 1 (cu (app 2 2) (us 4 (c (ac (slc 0 2)) (c ai (c ai (cl ab (us 14 nil)))))))))) (pl (c Q1q12 Q1q20) nil))) : RS _)
abbrev X_AO_0 := Z_wide_Add_0_0.B ⊕ (((Nat × Bool) × Int × Int × Bool) × (NI × NI) × Int × Int)
def E_AO_0 {ρ : Type} (x : X_AO_0) (K : AX → St → Option ρ) : Option ρ := (Sum.elim (fun d => K AX.ret (Z_wide_Add_0_0.em d)) (fun d => K (AX.ex 0) (Z_wide_Add_0_1.em (d.1, (d.1.1.1, d.2.1), d.2.2)))) x
def S_AO_0 (g_CX : G_CX) (d : QL_AO_0.B) : Pg (QL_AO_0.B ⊕ X_AO_0) := let y0 := Int.toNat d.1.2.2; let y1 := decide (d.1.2.2 < d.1.2.1); cnd y1 (cnd (inR d.1.2.2 d.1.1.1) (opt (g_CX d.2.2.1 d.2.2.2 (d.2.1.1 y0) (d.2.1.2 y0)) fun d_1 => cnd (!d_1.2) (ret (Sum.inr (Sum.inl (d.1.1.1, d.2.1)))) (ret (Sum.inl ((d.1.1, d.1.2.1, wI (d.1.2.2 + 1)), d.2.1, d_1.1)))) no) (ret (Sum.inr (Sum.inr ((d.1.1, d.1.2.1, d.1.2.2, y1), d.2))))
def L_AO_0 : QL_AO_0.B → Option X_AO_0 := loopP (S_AO_0 f_CX) 2000
def H_AO (l_0 : QL_AO_0.B → Option X_AO_0) : Hs := ⟨[⟨3, (0 :: 1 :: 3 :: rg 5 4 (rg 12 15 [])), []⟩], [smQ 3 1 QL_AO_0 E_AO_0 l_0], [], [], (some ⟨0, (0 :: 1 :: rg 4 23 []), []⟩)⟩
def B_AO (l_0 : QL_AO_0.B → Option X_AO_0) (x0 : Nat) (x1 : Nat → Int) (x2 : Nat → Int) (w0 : Bool) : Pg D_AO := cnd (Nat.beq x0 x0) (opt (l_0 (((x0, w0), Int.ofNat x0, 0), (x1, x2), 0, 0)) fun x => sum x (fun d => ret ((0, 0), false)) fun d => ret (d.2.2, true)) no
def f_AO (x0 : Nat) (x1 : Nat → Int) (x2 : Nat → Int) (w0 : Bool) : Option D_AO := (B_AO L_AO_0 x0 x1 x2 w0).val
theorem dl_AO_0 : ∀ g_CX l_0, LoopIs Tryz.prog [e_CX g_CX] (H_AO l_0) 1 2000 92 3 QL_AO_0 E_AO_0 (S_AO_0 g_CX) := fun _ _ _ d c K => by kernel_rfl
theorem d_AO : ∀ g_CX l_0, DenIs Tryz.prog [e_CX g_CX] (H_AO l_0) 2000 92 Q_AO R_AO fun b => B_AO l_0 b.1.1 b.2.1 b.2.2 b.1.2 := fun _ _ b => by kernel_rfl
theorem s_AO [Amb] : Snd Tryz.prog (e_AO f_AO) := Snd.of (Sound.nil 0 [.i .i64, .i .u64] <| mkS mixed (.c s_CX (.nil _)) (by kernel_rfl) (Sums.by (l := [loopIn Tryz.prog 92 3]) (lj := []) (by kernel_rfl) ⟨mkL (S := S_AO_0 f_CX) (by kernel_rfl) (dl_AO_0 f_CX L_AO_0), trivial⟩ (by kernel_rfl) trivial) (d_AO f_CX L_AO_0)) (by kernel_rfl)

def Q_Aa := (open Rq in (dp (cu (app 0 1) (cl (ac (slc 1 1)) nil)) fun a => (c (cl gb nil) (cl (cl (gs a.1 (cl kci nil)) nil) nil))) : RA _)
def RR_Aa := (open Rq in Q1q8 : RE _)
abbrev D_Aa := RR_Aa.B
def R_Aa (d : D_Aa) : T := (fun d => .leaf (RR_Aa.em d)) d
abbrev G_Aa := Nat → Bool → NI → Bool → Option D_Aa
def e_Aa (g : G_Aa) : Ct := (169, nilF 1 [.i .i64] (FC Q_Aa R_Aa (fun b => g b.1.1 b.2.1 b.2.2 b.1.2)))
def QL_Aa_0 := (open Rq in (st (dp (cu (app 0 1) (us 4 (cu (app 2 2) (us 4 (c (ac (slc 1 1)) (c ai (cl ai (us 26 nil)))))))) fun a => (pl (c (so (cl gb nil)) (c (so (cl (gs a.1.1 (cl kci nil)) nil)) (cl (so (c gi (cl gn nil))) nil))) (cu (nat 0) nil)))) : RS _)
def Z_Aa_0 := (open Rq in (st (pr (cu (app 0 1) (us 4 (cu (app 2 2) (us 4 (c (ac (slc 1 1)) (c ai (c ai (cl ab (us 25 nil))))))))) (pl (c (so (cl gb nil)) (c Q1q4 (cl (so (c gi (cl gn nil))) nil))) (cu (nat 0) nil)))) : RS _)
abbrev X_Aa_0 := (((Nat × Bool) × Int × Int × Bool) × Bool × NI × Int × Int)
def E_Aa_0 {ρ : Type} (x : X_Aa_0) (K : AX → St → Option ρ) : Option ρ := (fun d => K (AX.ex 0) (Z_Aa_0.em (d.1, d.2.1, (d.1.1.1, d.2.2.1), d.2.2.2))) x
def S_Aa_0 (g_Z : G_Z) (g_Ci : G_Ci) (g_AO : G_AO) (d : QL_Aa_0.B) : Pg (QL_Aa_0.B ⊕ X_Aa_0) := let y0 := decide (d.1.2.2 < d.1.2.1); cnd y0 (cnd (inR d.1.2.2 d.1.1.1) (opt (g_Z (d.2.2.1 (Int.toNat d.1.2.2)) d.2.1) fun d_1 => opt (g_Ci d_1.1) fun d_2 => opt (g_AO 2 (fun j => bif Nat.beq j 1 then d_2.1 else bif Nat.beq j 0 then d.2.2.2.1 else d.2.2.2.1) (fun j => bif Nat.beq j 1 then d_2.2 else bif Nat.beq j 0 then d.2.2.2.2 else d.2.2.2.2) true) fun d_3 => ret (Sum.inl ((d.1.1,
 d.1.2.1, wI (d.1.2.2 + 1)), d_1.2, d.2.2.1, d_3.1))) no) (ret (Sum.inr ((d.1.1, d.1.2.1, d.1.2.2, y0), d.2)))
def L_Aa_0 : QL_Aa_0.B → Option X_Aa_0 := loopP (S_Aa_0 f_Z f_Ci f_AO) 2000
def H_Aa (l_0 : QL_Aa_0.B → Option X_Aa_0) : Hs := ⟨[⟨3, (rg 1 4 (rg 6 4 (rg 13 26 []))), []⟩], [smQ 3 2 QL_Aa_0 E_Aa_0 l_0], [0], [], (some ⟨0, (rg 0 4 (rg 5 34 [])), []⟩)⟩
def B_Aa (g_BI : G_BI) (g_BY : G_BY) (l_0 : QL_Aa_0.B → Option X_Aa_0) (x0 : Nat) (x1 : Bool) (x2 : Nat → Int) (w0 : Bool) : Pg D_Aa := cnd (Nat.beq x0 x0) (opt (l_0 (((x0, w0), Int.ofNat x0, 0), x1, x2, 0, 0)) fun d => opt (g_BI d.2.2.2.1 d.2.2.2.2 0) fun d_1 => opt (g_BY d_1.1 d_1.2 (decide (d.2.2.2.1 < 0)) d.2.1) fun d => ret d) no
def f_Aa (x0 : Nat) (x1 : Bool) (x2 : Nat → Int) (w0 : Bool) : Option D_Aa := (B_Aa f_BI f_BY L_Aa_0 x0 x1 x2 w0).val
theorem dl_Aa_0 : ∀ g_Z g_Ci g_AO g_BI g_BY l_0, LoopIs Tryz.prog [e_Z g_Z, e_Ci g_Ci, e_AO g_AO, e_BI g_BI, e_BY g_BY] (H_Aa l_0) 2 2000 169 3 QL_Aa_0 E_Aa_0 (S_Aa_0 g_Z g_Ci g_AO) := fun _ _ _ _ _ _ _ d c K => by kernel_rfl
theorem d_Aa : ∀ g_Z g_Ci g_AO g_BI g_BY l_0, DenIs Tryz.prog [e_Z g_Z, e_Ci g_Ci, e_AO g_AO, e_BI g_BI, e_BY g_BY] (H_Aa l_0) 2000 169 Q_Aa R_Aa fun b => B_Aa g_BI g_BY l_0 b.1.1 b.2.1 b.2.2 b.1.2 := fun _ _ _ _ _ _ b => by kernel_rfl
theorem s_Aa [Amb] : Snd Tryz.prog (e_Aa f_Aa) := Snd.of (Sound.nil 1 [.i .i64] <| mkS mixed (.c s_Z (.c s_Ci (.c s_AO (.c s_BI (.c s_BY (.nil _)))))) (by kernel_rfl) (Sums.by (l := [loopIn Tryz.prog 169 3]) (lj := []) (by kernel_rfl) ⟨mkL (S := S_Aa_0 f_Z f_Ci f_AO) (by kernel_rfl) (dl_Aa_0 f_Z f_Ci f_AO f_BI f_BY L_Aa_0), trivial⟩ (by kernel_rfl) trivial) (d_Aa f_Z f_Ci f_AO f_BI f_BY L_Aa_0)) (by kernel_rfl)

def Q_As := (open Rq in (dp (cu (app 0 1) (c ai (cl (ac (slc 1 1)) nil))) fun a => (c (cl gb nil) (cl (cl (gs a.2.1 (cl kci nil)) nil) nil))) : RA _)
def RR_As := (open Rq in Q1q8 : RE _)
abbrev D_As := RR_As.B
def R_As (d : D_As) : T := (fun d => .leaf (RR_As.em d)) d
abbrev G_As := Int → Nat → Bool → NI → Bool → Option D_As
def e_As (g : G_As) : Ct := (102, nilF 2 [.i .i64] (FC Q_As R_As (fun b => g b.1.1 b.1.2.1 b.2.1 b.2.2 b.1.2.2)))
def QL_As_0 := (open Rq in (st (pr (cu (app 0 1) (c ai (us 5 (c ai (us 6 (c Q1q18 (c ai (cl ai (us 13 nil))))))))) (pl (c (so (cl gb nil)) (cl Q1q4 nil)) (cu (nat 0) nil)))) : RS _)
def Z_As_0 := (open Rq in (st (pr (cu (app 0 1) (c ai (us 5 (c ai (us 6 (c Q1q18 (c ai (c ai (cl ab (us 12 nil)))))))))) (pl (c (so (cl gb nil)) (cl Q1q4 nil)) (cu (nat 0) nil)))) : RS _)
abbrev X_As_0 := Z_As_0.B
def E_As_0 {ρ : Type} (x : X_As_0) (K : AX → St → Option ρ) : Option ρ := (fun d => K (AX.ex 0) (Z_As_0.em d)) x
def S_As_0 (g_Be : G_Be) (g_Aa : G_Aa) (d : QL_As_0.B) : Pg (QL_As_0.B ⊕ X_As_0) := let y0 := decide (d.1.2.2.2.2 < d.1.2.2.2.1); cnd y0 (cnd (inR d.1.2.2.2.2 d.1.2.2.1.1) (opt (g_Be d.1.1 d.1.2.1 d.2.1) fun d_1 => opt (g_Aa 2 d_1.2 (fun j => bif Nat.beq j 1 then d_1.1 else bif Nat.beq j 0 then d.2.2.2 (1 + Int.toNat d.1.2.2.2.2) else d.2.2.2 (1 + Int.toNat d.1.2.2.2.2)) true) fun d_2 => ret (Sum.inl ((d.1.1,
 d_2.1, d.1.2.2.1, d.1.2.2.2.1, wI (d.1.2.2.2.2 + 1)), d_2.2, d.2.2))) no) (ret (Sum.inr ((d.1.1, d.1.2.1, d.1.2.2.1, d.1.2.2.2.1, d.1.2.2.2.2, y0), d.2)))
def L_As_0 : QL_As_0.B → Option X_As_0 := loopP (S_As_0 f_Be f_Aa) 2000
def H_As (l_0 : QL_As_0.B → Option X_As_0) : Hs := ⟨[⟨3, (rg 2 5 (rg 8 6 (rg 17 13 []))), []⟩], [smQ 3 2 QL_As_0 E_As_0 l_0], [0], [], (some ⟨0, (rg 0 6 (rg 7 23 [])), []⟩)⟩
def B_As (l_0 : QL_As_0.B → Option X_As_0) (x0 : Int) (x1 : Nat) (x2 : Bool) (x3 : Nat → Int) (w0 : Bool) : Pg D_As := let y0 := x1 - 1; cnd (inR 0 x1) (cnd (inRe 1 x1) (opt (l_0 ((x0, x3 0, (y0, w0 && true), Int.ofNat y0, 0), x2, x1, x3)) fun d => ret (d.1.2.1, d.2.1)) no) no
def f_As (x0 : Int) (x1 : Nat) (x2 : Bool) (x3 : Nat → Int) (w0 : Bool) : Option D_As := (B_As L_As_0 x0 x1 x2 x3 w0).val
theorem dl_As_0 : ∀ g_Be g_Aa l_0, LoopIs Tryz.prog [e_Be g_Be, e_Aa g_Aa] (H_As l_0) 2 2000 102 3 QL_As_0 E_As_0 (S_As_0 g_Be g_Aa) := fun _ _ _ _ d c K => by kernel_rfl
theorem d_As : ∀ g_Be g_Aa l_0, DenIs Tryz.prog [e_Be g_Be, e_Aa g_Aa] (H_As l_0) 2000 102 Q_As R_As fun b => B_As l_0 b.1.1 b.1.2.1 b.2.1 b.2.2 b.1.2.2 := fun _ _ _ b => by kernel_rfl
theorem s_As [Amb] : Snd Tryz.prog (e_As f_As) := Snd.of (Sound.nil 2 [.i .i64] <| mkS mixed (.c s_Be (.c s_Aa (.nil _))) (by kernel_rfl) (Sums.by (l := [loopIn Tryz.prog 102 3]) (lj := []) (by kernel_rfl) ⟨mkL (S := S_As_0 f_Be f_Aa) (by kernel_rfl) (dl_As_0 f_Be f_Aa L_As_0), trivial⟩ (by kernel_rfl) trivial) (d_As f_Be f_Aa L_As_0)) (by kernel_rfl)

def Q_BP := (open Rq in (pr (cu (app 0 1) (cl ai nil)) (cl (cl gb nil) nil)) : RA _)
def RR_BP := (open Rq in Q1q5 : RE _)
abbrev D_BP := RR_BP.B
def R_BP (d : D_BP) : T := (fun d => .leaf (RR_BP.em d)) d
abbrev G_BP := Int → Bool → Option D_BP
def e_BP (g : G_BP) : Ct := (57, FC Q_BP R_BP (fun b => g b.1 b.2))
def B_BP (g_Z : G_Z) (g_CN : G_CN) (g_Ap : G_Ap) (g_Be : G_Be) (g_As : G_As) (x0 : Int) (x1 : Bool) : Pg D_BP := opt (g_Z x0 x1) fun d => opt (g_CN d.1) fun d_1 => let y0 := wI (3373259426 - d_1); let y1 := wI (-3373259426 - d_1); cnd (decide (d_1 > 1686629713)) (opt (g_Ap y0) fun d_2 => let y0_1 := wI (1686629713 - d_2); cnd (decide (d_2 ≤ 843314857)) (opt (g_Be y0 y0 d.2) fun d => opt (g_As d.1 6 d.2 (fun j => bif Nat.beq j 5 then 1073741824 else bif Nat.beq j 4 then -178956971 else bif Nat.beq j 3 then 8947849 else bif Nat.beq j 2 then -213044 else bif Nat.beq j 1 then 2959 else bif Nat.beq j 0 then -27 else -27) true) fun d => opt (g_Be y0 d.1 d.2) fun d => let y0 := if -1073741824 > d.1 then -1073741824 else d.1; ret (if 1073741824 < y0 then 1073741824 else y0,
 d.2)) (opt (g_Be y0_1 y0_1 d.2) fun d => opt (g_As d.1 7 d.2 (fun j => bif Nat.beq j 6 then 1073741824 else bif Nat.beq j 5 then -536870912 else bif Nat.beq j 4 then 44739243 else bif Nat.beq j 3 then -1491308 else bif Nat.beq j 2 then 26631 else bif Nat.beq j 1 then -296 else bif Nat.beq j 0 then 2 else 2) true) fun d => let y0_2 := wI (0 - d.1); let y1 := if -1073741824 > d.1 then -1073741824 else d.1; let y2 := if -1073741824 > y0_2 then -1073741824 else y0_2; cnd (decide (y0 < 0)) (ret (if 1073741824 < y2 then 1073741824 else y2,
 d.2)) (ret (if 1073741824 < y1 then 1073741824 else y1, d.2)))) (cnd (decide (d_1 < -1686629713)) (opt (g_Ap y1) fun d_2 => let y0 := wI (1686629713 - d_2); cnd (decide (d_2 ≤ 843314857)) (opt (g_Be y1 y1 d.2) fun d => opt (g_As d.1 6 d.2 (fun j => bif Nat.beq j 5 then 1073741824 else bif Nat.beq j 4 then -178956971 else bif Nat.beq j 3 then 8947849 else bif Nat.beq j 2 then -213044 else bif Nat.beq j 1 then 2959 else bif Nat.beq j 0 then -27 else -27) true) fun d => opt (g_Be y1 d.1 d.2) fun d => let y0 := if -1073741824 > d.1 then -1073741824 else d.1; ret (if 1073741824 < y0 then 1073741824 else y0,
 d.2)) (opt (g_Be y0 y0 d.2) fun d => opt (g_As d.1 7 d.2 (fun j => bif Nat.beq j 6 then 1073741824 else bif Nat.beq j 5 then -536870912 else bif Nat.beq j 4 then 44739243 else bif Nat.beq j 3 then -1491308 else bif Nat.beq j 2 then 26631 else bif Nat.beq j 1 then -296 else bif Nat.beq j 0 then 2 else 2) true) fun d => let y0 := wI (0 - d.1); let y1_1 := if -1073741824 > d.1 then -1073741824 else d.1; let y2 := if -1073741824 > y0 then -1073741824 else y0; cnd (decide (y1 < 0)) (ret (if 1073741824 < y2 then 1073741824 else y2,
 d.2)) (ret (if 1073741824 < y1_1 then 1073741824 else y1_1, d.2)))) (opt (g_Ap d_1) fun d_2 => let y0 := wI (1686629713 - d_2); cnd (decide (d_2 ≤ 843314857)) (opt (g_Be d_1 d_1 d.2) fun d => opt (g_As d.1 6 d.2 (fun j => bif Nat.beq j 5 then 1073741824 else bif Nat.beq j 4 then -178956971 else bif Nat.beq j 3 then 8947849 else bif Nat.beq j 2 then -213044 else bif Nat.beq j 1 then 2959 else bif Nat.beq j 0 then -27 else -27) true) fun d => opt (g_Be d_1 d.1 d.2) fun d => let y0 := if -1073741824 > d.1 then -1073741824 else d.1; ret (if 1073741824 < y0 then 1073741824 else y0,
 d.2)) (opt (g_Be y0 y0 d.2) fun d => opt (g_As d.1 7 d.2 (fun j => bif Nat.beq j 6 then 1073741824 else bif Nat.beq j 5 then -536870912 else bif Nat.beq j 4 then 44739243 else bif Nat.beq j 3 then -1491308 else bif Nat.beq j 2 then 26631 else bif Nat.beq j 1 then -296 else bif Nat.beq j 0 then 2 else 2) true) fun d => let y0 := wI (0 - d.1); let y1 := if -1073741824 > d.1 then -1073741824 else d.1; let y2 := if -1073741824 > y0 then -1073741824 else y0; cnd (decide (d_1 < 0)) (ret (if 1073741824 < y2 then 1073741824 else y2,
 d.2)) (ret (if 1073741824 < y1 then 1073741824 else y1, d.2)))))
def f_BP (x0 : Int) (x1 : Bool) : Option D_BP := (B_BP f_Z f_CN f_Ap f_Be f_As x0 x1).val
theorem d_BP : ∀ g_Z g_CN g_Ap g_Be g_As, DenIs Tryz.prog [e_Z g_Z, e_CN g_CN, e_Ap g_Ap, e_Be g_Be, e_As g_As] ⟨[], [], [], [], none⟩ 2000 57 Q_BP R_BP fun b => B_BP g_Z g_CN g_Ap g_Be g_As b.1 b.2 := fun _ _ _ _ _ b => by kernel_rfl
theorem s_BP [Amb] : Snd Tryz.prog (e_BP f_BP) := Snd.of (mk0 mixed (.c s_Z (.c s_CN (.c s_Ap (.c s_Be (.c s_As (.nil _)))))) (by kernel_rfl) (d_BP f_Z f_CN f_Ap f_Be f_As)) (by kernel_rfl)

def Q_Bi := (open Rq in (pr (cu (app 0 1) (cl ai nil)) (cl (cl gb nil) nil)) : RA _)
def RR_Bi := (open Rq in Q1q5 : RE _)
abbrev D_Bi := RR_Bi.B
def R_Bi (d : D_Bi) : T := (fun d => .leaf (RR_Bi.em d)) d
abbrev G_Bi := Int → Bool → Option D_Bi
def e_Bi (g : G_Bi) : Ct := (58, FC Q_Bi R_Bi (fun b => g b.1 b.2))
def B_Bi (g_CN : G_CN) (g_BP : G_BP) (x0 : Int) (x1 : Bool) : Pg D_Bi := opt (g_CN x0) fun d => opt (g_BP (wI (1686629713 + d)) x1) fun d => ret d
def f_Bi (x0 : Int) (x1 : Bool) : Option D_Bi := (B_Bi f_CN f_BP x0 x1).val
theorem d_Bi : ∀ g_CN g_BP, DenIs Tryz.prog [e_CN g_CN, e_BP g_BP] ⟨[], [], [], [], none⟩ 2000 58 Q_Bi R_Bi fun b => B_Bi g_CN g_BP b.1 b.2 := fun _ _ b => by kernel_rfl
theorem s_Bi [Amb] : Snd Tryz.prog (e_Bi f_Bi) := Snd.of (mk0 mixed (.c s_CN (.c s_BP (.nil _))) (by kernel_rfl) (d_Bi f_CN f_BP)) (by kernel_rfl)

def Q_Ae := (open Rq in (pr (cu (app 0 1) (c ai (cl ai nil))) (cl (cl gb nil) nil)) : RA _)
def RR_Ae := (open Rq in Q1q5 : RE _)
abbrev D_Ae := RR_Ae.B
def R_Ae (d : D_Ae) : T := (fun d => .leaf (RR_Ae.em d)) d
abbrev G_Ae := Int → Int → Bool → Option D_Ae
def e_Ae (g : G_Ae) : Ct := (176, FC Q_Ae R_Ae (fun b => g b.1.1 b.1.2 b.2))
def B_Ae (g_Z : G_Z) (x0 : Int) (x1 : Int) (x2 : Bool) : Pg D_Ae := opt (g_Z x0 x2) fun d => opt (g_Z x1 d.2) fun d_1 => opt (g_Z (wI (d.1 - d_1.1)) d_1.2) fun d => ret d
def f_Ae (x0 : Int) (x1 : Int) (x2 : Bool) : Option D_Ae := (B_Ae f_Z x0 x1 x2).val
theorem d_Ae : ∀ g_Z, DenIs Tryz.prog [e_Z g_Z] ⟨[], [], [], [], none⟩ 2000 176 Q_Ae R_Ae fun b => B_Ae g_Z b.1.1 b.1.2 b.2 := fun _ b => by kernel_rfl
theorem s_Ae [Amb] : Snd Tryz.prog (e_Ae f_Ae) := Snd.of (mk0 mixed (.c s_Z (.nil _)) (by kernel_rfl) (d_Ae f_Z)) (by kernel_rfl)

def Q_Bd := (open Rq in (pr (cu (app 0 1) (c (aa (c gi (c gi (cl gi nil)))) (cl (aa (c gi (c gi (cl gi nil)))) nil))) (cl (cl gb nil) nil)) : RA _)
def RR_Bd := (open Rq in Q1q16 : RE _)
abbrev D_Bd := RR_Bd.B
def R_Bd (d : D_Bd) : T := (fun d => .leaf (RR_Bd.em d)) d
abbrev G_Bd := Int → Int → Int → Int → Int → Int → Bool → Option D_Bd
def e_Bd (g : G_Bd) : Ct := (135, FC Q_Bd R_Bd (fun b => g b.1.1.1 b.1.1.2.1 b.1.1.2.2 b.1.2.1 b.1.2.2.1 b.1.2.2.2 b.2))
def B_Bd (g_Ae : G_Ae) (x0 : Int) (x1 : Int) (x2 : Int) (x3 : Int) (x4 : Int) (x5 : Int) (x6 : Bool) : Pg D_Bd := opt (g_Ae x0 x3 x6) fun d => opt (g_Ae x1 x4 d.2) fun d_1 => opt (g_Ae x2 x5 d_1.2) fun d_2 => ret ((d.1, d_1.1, d_2.1), d_2.2)
def f_Bd (x0 : Int) (x1 : Int) (x2 : Int) (x3 : Int) (x4 : Int) (x5 : Int) (x6 : Bool) : Option D_Bd := (B_Bd f_Ae x0 x1 x2 x3 x4 x5 x6).val
theorem d_Bd : ∀ g_Ae, DenIs Tryz.prog [e_Ae g_Ae] ⟨[], [], [], [], none⟩ 2000 135 Q_Bd R_Bd fun b => B_Bd g_Ae b.1.1.1 b.1.1.2.1 b.1.1.2.2 b.1.2.1 b.1.2.2.1 b.1.2.2.2 b.2 := fun _ b => by kernel_rfl
theorem s_Bd [Amb] : Snd Tryz.prog (e_Bd f_Bd) := Snd.of (mk0 mixed (.c s_Ae (.nil _)) (by kernel_rfl) (d_Bd f_Ae)) (by kernel_rfl)

def Q_Bf := (open Rq in (pr (cu (app 0 1) (c (aa (c gi (c gi (cl gi nil)))) (cl ai nil))) (cl (cl gb nil) nil)) : RA _)
def RR_Bf := (open Rq in Q1q16 : RE _)
abbrev D_Bf := RR_Bf.B
def R_Bf (d : D_Bf) : T := (fun d => .leaf (RR_Bf.em d)) d
abbrev G_Bf := Int → Int → Int → Int → Bool → Option D_Bf
def e_Bf (g : G_Bf) : Ct := (110, FC Q_Bf R_Bf (fun b => g b.1.1.1 b.1.1.2.1 b.1.1.2.2 b.1.2 b.2))
def B_Bf (g_AF : G_AF) (x0 : Int) (x1 : Int) (x2 : Int) (x3 : Int) (x4 : Bool) : Pg D_Bf := opt (g_AF x0 x3 30 x4) fun d => opt (g_AF x1 x3 30 d.2) fun d_1 => opt (g_AF x2 x3 30 d_1.2) fun d_2 => ret ((d.1, d_1.1, d_2.1), d_2.2)
def f_Bf (x0 : Int) (x1 : Int) (x2 : Int) (x3 : Int) (x4 : Bool) : Option D_Bf := (B_Bf f_AF x0 x1 x2 x3 x4).val
theorem d_Bf : ∀ g_AF, DenIs Tryz.prog [e_AF g_AF] ⟨[], [], [], [], none⟩ 2000 110 Q_Bf R_Bf fun b => B_Bf g_AF b.1.1.1 b.1.1.2.1 b.1.1.2.2 b.1.2 b.2 := fun _ b => by kernel_rfl
theorem s_Bf [Amb] : Snd Tryz.prog (e_Bf f_Bf) := Snd.of (mk0 mixed (.c s_AF (.nil _)) (by kernel_rfl) (d_Bf f_AF)) (by kernel_rfl)

def Q_Af := (open Rq in (dp (cu (app 0 1) (cl (ac (slc 1 1)) nil)) fun a => (c (cl gb nil) (cl (cl (gs a.1 (cl kci nil)) nil) nil))) : RA _)
def RR_Af := (open Rq in Q1q8 : RE _)
abbrev D_Af := RR_Af.B
def R_Af (d : D_Af) : T := (fun d => .leaf (RR_Af.em d)) d
abbrev G_Af := Nat → Bool → NI → Bool → Option D_Af
def e_Af (g : G_Af) : Ct := (95, nilF 1 [.i .i64] (FC Q_Af R_Af (fun b => g b.1.1 b.2.1 b.2.2 b.1.2)))
def QL_Af_0 := (open Rq in (st (pr (cu (app 0 1) (us 4 (cu (app 2 2) (us 6 (c (ac (slc 1 1)) (c ai (cl ai (us 19 nil)))))))) (pl (c (so (cl gb nil)) (c Q1q4 (cl (so (c gi (cl gn nil))) nil))) (cu (nat 0) nil)))) : RS _)
def Z_Af_0 := (open Rq in (st (pr (cu (app 0 1) (us 4 (cu (app 2 2) (us 6 (c (ac (slc 1 1)) (c ai (c ai (cl ab (us 18 nil))))))))) (pl (c (so (cl gb nil)) (c Q1q4 (cl (so (c gi (cl gn nil))) nil))) (cu (nat 0) nil)))) : RS _)
abbrev X_Af_0 := Z_Af_0.B
def E_Af_0 {ρ : Type} (x : X_Af_0) (K : AX → St → Option ρ) : Option ρ := (fun d => K (AX.ex 0) (Z_Af_0.em d)) x
def S_Af_0 (g_Z : G_Z) (g_AU : G_AU) (g_AO : G_AO) (d : QL_Af_0.B) : Pg (QL_Af_0.B ⊕ X_Af_0) := let y0 := decide (d.1.2.2 < d.1.2.1); cnd y0 (cnd (inR d.1.2.2 d.1.1.1) (opt (g_Z (d.2.2.1.2 (Int.toNat d.1.2.2)) d.2.1) fun d_1 => opt (g_AU d_1.1 d_1.1) fun d_2 => opt (g_AO 2 (fun j => bif Nat.beq j 1 then d_2.1 else bif Nat.beq j 0 then d.2.2.2.1 else d.2.2.2.1) (fun j => bif Nat.beq j 1 then d_2.2 else bif Nat.beq j 0 then d.2.2.2.2 else d.2.2.2.2) true) fun d_3 => ret (Sum.inl ((d.1.1,
 d.1.2.1, wI (d.1.2.2 + 1)), d_1.2, d.2.2.1, d_3.1))) no) (ret (Sum.inr ((d.1.1, d.1.2.1, d.1.2.2, y0), d.2)))
def L_Af_0 : QL_Af_0.B → Option X_Af_0 := loopP (S_Af_0 f_Z f_AU f_AO) 2000
def H_Af (l_0 : QL_Af_0.B → Option X_Af_0) : Hs := ⟨[⟨3, (rg 1 4 (rg 6 6 (rg 15 19 []))), []⟩], [smQ 3 2 QL_Af_0 E_Af_0 l_0], [0], [], (some ⟨0, (rg 0 4 (rg 5 29 [])), []⟩)⟩
def B_Af (g_Bx : G_Bx) (l_0 : QL_Af_0.B → Option X_Af_0) (x0 : Nat) (x1 : Bool) (x2 : Nat → Int) (w0 : Bool) : Pg D_Af := let y0 := if 64 < Int.ofNat x0 then 64 else Int.ofNat x0; let y1 := Int.toNat y0; cnd (inRe y0 x0) (opt (l_0 (((y1, w0 && false), Int.ofNat y1, 0), x1, (x0, x2), 0, 0)) fun d => opt (g_Bx d.2.2.2.1 d.2.2.2.2 d.2.1) fun d => ret d) no
def f_Af (x0 : Nat) (x1 : Bool) (x2 : Nat → Int) (w0 : Bool) : Option D_Af := (B_Af f_Bx L_Af_0 x0 x1 x2 w0).val
theorem dl_Af_0 : ∀ g_Z g_AU g_AO g_Bx l_0, LoopIs Tryz.prog [e_Z g_Z, e_AU g_AU, e_AO g_AO, e_Bx g_Bx] (H_Af l_0) 2 2000 95 3 QL_Af_0 E_Af_0 (S_Af_0 g_Z g_AU g_AO) := fun _ _ _ _ _ _ d c K => by kernel_rfl
theorem d_Af : ∀ g_Z g_AU g_AO g_Bx l_0, DenIs Tryz.prog [e_Z g_Z, e_AU g_AU, e_AO g_AO, e_Bx g_Bx] (H_Af l_0) 2000 95 Q_Af R_Af fun b => B_Af g_Bx l_0 b.1.1 b.2.1 b.2.2 b.1.2 := fun _ _ _ _ _ b => by kernel_rfl
theorem s_Af [Amb] : Snd Tryz.prog (e_Af f_Af) := Snd.of (Sound.nil 1 [.i .i64] <| mkS mixed (.c s_Z (.c s_AU (.c s_AO (.c s_Bx (.nil _))))) (by kernel_rfl) (Sums.by (l := [loopIn Tryz.prog 95 3]) (lj := []) (by kernel_rfl) ⟨mkL (S := S_Af_0 f_Z f_AU f_AO) (by kernel_rfl) (dl_Af_0 f_Z f_AU f_AO f_Bx L_Af_0), trivial⟩ (by kernel_rfl) trivial) (d_Af f_Z f_AU f_AO f_Bx L_Af_0)) (by kernel_rfl)

def Q_BU := (open Rq in (pr (cu (app 0 1) (cl (aa (c gi (c gi (cl gi nil)))) nil)) (cl (cl gb nil) nil)) : RA _)
def RR_BU := (open Rq in Q1q5 : RE _)
abbrev D_BU := RR_BU.B
def R_BU (d : D_BU) : T := (fun d => .leaf (RR_BU.em d)) d
abbrev G_BU := Int → Int → Int → Bool → Option D_BU
def e_BU (g : G_BU) : Ct := (112, FC Q_BU R_BU (fun b => g b.1.1 b.1.2.1 b.1.2.2 b.2))
def B_BU (g_Af : G_Af) (x0 : Int) (x1 : Int) (x2 : Int) (x3 : Bool) : Pg D_BU := opt (g_Af 3 x3 (fun j => bif Nat.beq j 2 then x2 else bif Nat.beq j 1 then x1 else bif Nat.beq j 0 then x0 else x0) false) fun d => ret d
def f_BU (x0 : Int) (x1 : Int) (x2 : Int) (x3 : Bool) : Option D_BU := (B_BU f_Af x0 x1 x2 x3).val
theorem d_BU : ∀ g_Af, DenIs Tryz.prog [e_Af g_Af] ⟨[], [], [], [], none⟩ 2000 112 Q_BU R_BU fun b => B_BU g_Af b.1.1 b.1.2.1 b.1.2.2 b.2 := fun _ b => by kernel_rfl
theorem s_BU [Amb] : Snd Tryz.prog (e_BU f_BU) := Snd.of (mk0 mixed (.c s_Af (.nil _)) (by kernel_rfl) (d_BU f_Af)) (by kernel_rfl)

def Q_By := (open Rq in (pr (cu (app 0 1) (cl (aa (c gi (c gi (cl gi nil)))) nil)) (cl (cl gb nil) nil)) : RA _)
def RR_By := (open Rq in Q1q16 : RE _)
abbrev D_By := RR_By.B
def R_By (d : D_By) : T := (fun d => .leaf (RR_By.em d)) d
abbrev G_By := Int → Int → Int → Bool → Option D_By
def e_By (g : G_By) : Ct := (175, FC Q_By R_By (fun b => g b.1.1 b.1.2.1 b.1.2.2 b.2))
def B_By (g_Z : G_Z) (x0 : Int) (x1 : Int) (x2 : Int) (x3 : Bool) : Pg D_By := opt (g_Z x0 x3) fun d => opt (g_Z x1 d.2) fun d_1 => opt (g_Z x2 d_1.2) fun d_2 => ret ((d.1, d_1.1, d_2.1), d_2.2)
def f_By (x0 : Int) (x1 : Int) (x2 : Int) (x3 : Bool) : Option D_By := (B_By f_Z x0 x1 x2 x3).val
theorem d_By : ∀ g_Z, DenIs Tryz.prog [e_Z g_Z] ⟨[], [], [], [], none⟩ 2000 175 Q_By R_By fun b => B_By g_Z b.1.1 b.1.2.1 b.1.2.2 b.2 := fun _ b => by kernel_rfl
theorem s_By [Amb] : Snd Tryz.prog (e_By f_By) := Snd.of (mk0 mixed (.c s_Z (.nil _)) (by kernel_rfl) (d_By f_Z)) (by kernel_rfl)

def Q_AS := (open Rq in (pr (cu (app 0 1) Q1q1) (cl (cl gb nil) nil)) : RA _)
def RR_AS := (open Rq in (res (pr (aa (c gi (c gi (c gi (cl gi nil))))) (pl (cl (chs (cl gb nil)) nil) nil))) : RE _)
abbrev D_AS := RR_AS.B
def R_AS (d : D_AS) : T := (fun d => .leaf (RR_AS.em d)) d
abbrev G_AS := Int → Int → Int → Int → Bool → Option D_AS
def e_AS (g : G_AS) : Ct := (94, FC Q_AS R_AS (fun b => g b.1.1 b.1.2.1 b.1.2.2.1 b.1.2.2.2 b.2))
def QL_AS_0 := (open Rq in (st (pr (cu (app 0 1) (us 2 (cu (app 1 4) (cu (app 2 4) (us 1 (cl ai (us 11 nil))))))) (pl (c (so (cl gb nil)) (cl (so (c gi (c gi (c gi (cl gi nil))))) (cu (so (cu (gc (cf (fi .i64 (int 0)))) Q1q19)) nil))) (cu (nat 0) nil)))) : RS _)
def Z_AS_0 := (open Rq in (st (pr (cu (app 0 1) (us 2 (cu (app 1 4) (cu (app 2 4) (us 1 (c ai (cl ab (us 10 nil)))))))) (pl (c (so (cl gb nil)) (cl (so (c gi (c gi (c gi (cl gi nil))))) (cu (so (cu (gc (cf (fi .i64 (int 0)))) Q1q19)) nil))) (cu (nat 0) nil)))) : RS _)
abbrev X_AS_0 := Z_AS_0.B
def E_AS_0 {ρ : Type} (x : X_AS_0) (K : AX → St → Option ρ) : Option ρ := (fun d => K (AX.ex 0) (Z_AS_0.em d)) x
def S_AS_0 (g_Z : G_Z) (d : QL_AS_0.B) : Pg (QL_AS_0.B ⊕ X_AS_0) := let y0 := inR d.1 4; let y1 := d.1 == 3; let y2 := d.1 == 2; let y3 := d.1 == 1; let y4 := wI (d.1 + 1); let y5 := decide (d.1 < 4); cnd y5 (cnd y0 (cnd y1 (opt (g_Z d.2.2.2.2.2 d.2.1) fun d_1 => cnd y0 (cnd y1 (ret (Sum.inl (y4, d_1.2, d.2.2.1, d.2.2.2.1, d.2.2.2.2.1, d_1.1))) (cnd y2 (ret (Sum.inl (y4, d_1.2, d.2.2.1, d.2.2.2.1,
 d_1.1, d.2.2.2.2.2))) (cnd y3 (ret (Sum.inl (y4, d_1.2, d.2.2.1, d_1.1, d.2.2.2.2))) (ret (Sum.inl (y4, d_1.2, d_1.1, d.2.2.2)))))) no) (cnd y2 (opt (g_Z d.2.2.2.2.1 d.2.1) fun d_1 => cnd y0 (cnd y1 (ret (Sum.inl (y4, d_1.2, d.2.2.1, d.2.2.2.1, d.2.2.2.2.1, d_1.1))) (cnd y2 (ret (Sum.inl (y4, d_1.2, d.2.2.1, d.2.2.2.1, d_1.1, d.2.2.2.2.2))) (cnd y3 (ret (Sum.inl (y4, d_1.2, d.2.2.1, d_1.1, d.2.2.2.2))) (ret (Sum.inl (y4,
 d_1.2, d_1.1, d.2.2.2)))))) no) (cnd y3 (opt (g_Z d.2.2.2.1 d.2.1) fun d_1 => cnd y0 (cnd y1 (ret (Sum.inl (y4, d_1.2, d.2.2.1, d.2.2.2.1, d.2.2.2.2.1, d_1.1))) (cnd y2 (ret (Sum.inl (y4, d_1.2, d.2.2.1, d.2.2.2.1, d_1.1, d.2.2.2.2.2))) (cnd y3 (ret (Sum.inl (y4, d_1.2, d.2.2.1, d_1.1, d.2.2.2.2))) (ret (Sum.inl (y4, d_1.2, d_1.1, d.2.2.2)))))) no) (opt (g_Z d.2.2.1 d.2.1) fun d_1 => cnd y0 (cnd y1 (ret (Sum.inl (y4,
 d_1.2, d.2.2.1, d.2.2.2.1, d.2.2.2.2.1, d_1.1))) (cnd y2 (ret (Sum.inl (y4, d_1.2, d.2.2.1, d.2.2.2.1, d_1.1, d.2.2.2.2.2))) (cnd y3 (ret (Sum.inl (y4, d_1.2, d.2.2.1, d_1.1, d.2.2.2.2))) (ret (Sum.inl (y4, d_1.2, d_1.1, d.2.2.2)))))) no)))) no) (ret (Sum.inr ((d.1, y5), d.2)))
def L_AS_0 : QL_AS_0.B → Option X_AS_0 := loopP (S_AS_0 f_Z) 2000
def H_AS (l_0 : QL_AS_0.B → Option X_AS_0) : Hs := ⟨[⟨2, (1 :: 2 :: 5 :: rg 7 11 []), []⟩], [smQ 2 1 QL_AS_0 E_AS_0 l_0], [0], [], (some ⟨0, (rg 0 4 (rg 5 13 [])), []⟩)⟩
def B_AS (l_0 : QL_AS_0.B → Option X_AS_0) (x0 : Int) (x1 : Int) (x2 : Int) (x3 : Int) (x4 : Bool) : Pg D_AS := opt (l_0 (0, x4, x0, x1, x2, x3)) fun d => ret (d.2.2, d.2.1)
def f_AS (x0 : Int) (x1 : Int) (x2 : Int) (x3 : Int) (x4 : Bool) : Option D_AS := (B_AS L_AS_0 x0 x1 x2 x3 x4).val
theorem dl_AS_0 : ∀ g_Z l_0, LoopIs Tryz.prog [e_Z g_Z] (H_AS l_0) 1 2000 94 2 QL_AS_0 E_AS_0 (S_AS_0 g_Z) := fun _ _ _ d c K => by kernel_rfl
theorem d_AS : ∀ g_Z l_0, DenIs Tryz.prog [e_Z g_Z] (H_AS l_0) 2000 94 Q_AS R_AS fun b => B_AS l_0 b.1.1 b.1.2.1 b.1.2.2.1 b.1.2.2.2 b.2 := fun _ _ b => by kernel_rfl
theorem s_AS [Amb] : Snd Tryz.prog (e_AS f_AS) := Snd.of (mkS mixed (.c s_Z (.nil _)) (by kernel_rfl) (Sums.by (l := [loopIn Tryz.prog 94 2]) (lj := []) (by kernel_rfl) ⟨mkL (S := S_AS_0 f_Z) (by kernel_rfl) (dl_AS_0 f_Z L_AS_0), trivial⟩ (by kernel_rfl) trivial) (d_AS f_Z L_AS_0)) (by kernel_rfl)

def Q_Ar := (open Rq in (pu nil nil) : RA _)
def RR_Ar := (open Rq in (res (pu (aa (cu (gc (cf (fi .i64 (int 1073741824)))) Q1q19)) (pu nil nil))) : RE _)
abbrev D_Ar := RR_Ar.B
def R_Ar (d : D_Ar) : T := (fun d => .leaf (RR_Ar.em d)) d
abbrev G_Ar := Option D_Ar
def e_Ar (g : G_Ar) : Ct := (46, FC Q_Ar R_Ar (fun _ => g))
def B_Ar : Pg D_Ar := ret ()
def f_Ar : Option D_Ar := (B_Ar).val
theorem d_Ar : DenIs Tryz.prog [] ⟨[], [], [], [], none⟩ 2000 46 Q_Ar R_Ar fun b => B_Ar := fun b => by kernel_rfl
theorem s_Ar [Amb] : Snd Tryz.prog (e_Ar f_Ar) := Snd.of (mk0 mixed (.nil _) (by kernel_rfl) d_Ar) (by kernel_rfl)

def Q_CF := (open Rq in (pl Q1q1 nil) : RA _)
def RR_CF := (open Rq in (res (pl (aa (c gi (c gi (c gi (cl gi nil))))) (pu nil nil))) : RE _)
abbrev D_CF := RR_CF.B
def R_CF (d : D_CF) : T := (fun d => .leaf (RR_CF.em d)) d
abbrev G_CF := Int → Int → Int → Int → Option D_CF
def e_CF (g : G_CF) : Ct := (136, FC Q_CF R_CF (fun b => g b.1 b.2.1 b.2.2.1 b.2.2.2))
def B_CF (g_AS : G_AS) (x0 : Int) (x1 : Int) (x2 : Int) (x3 : Int) : Pg D_CF := opt (g_AS x0 x1 x2 x3 false) fun d => ret (d.1.1, wI (0 - d.1.2.1), wI (0 - d.1.2.2.1), wI (0 - d.1.2.2.2))
def f_CF (x0 : Int) (x1 : Int) (x2 : Int) (x3 : Int) : Option D_CF := (B_CF f_AS x0 x1 x2 x3).val
theorem d_CF : ∀ g_AS, DenIs Tryz.prog [e_AS g_AS] ⟨[], [], [], [], none⟩ 2000 136 Q_CF R_CF fun b => B_CF g_AS b.1 b.2.1 b.2.2.1 b.2.2.2 := fun _ b => by kernel_rfl
theorem s_CF [Amb] : Snd Tryz.prog (e_CF f_CF) := Snd.of (mk0 mixed (.c s_AS (.nil _)) (by kernel_rfl) (d_CF f_AS)) (by kernel_rfl)

def Q_Ac := (open Rq in (pl (c (aa (cl (gl 24 (cl kci nil)) nil)) (cl ai nil)) nil) : RA _)
def RR_Ac := (open Rq in (res (pl (aa (c gi (c gi (cl gi nil)))) (pu nil nil))) : RE _)
abbrev D_Ac := RR_Ac.B
def R_Ac (d : D_Ac) : T := (fun d => .leaf (RR_Ac.em d)) d
abbrev G_Ac := NI → Int → Option D_Ac
def e_Ac (g : G_Ac) : Ct := (106, FC Q_Ac R_Ac (fun b => g b.1 b.2))
def QL_Ac_0 := (open Rq in (st (pr (us 1 (c ai (cu (app 0 24) (us 1 (cu (app 1 3) (cu (app 2 3) (us 2 (cl ai (us 18 nil))))))))) (pl (c (so (cl (gl 24 (cl kci nil)) nil)) (cu (so Q1q19) (cl (so (c gi (c gi (cl gi nil)))) nil))) nil))) : RS _)
def Z_Ac_0 := (open Rq in (st (pr (us 1 (c ai (cu (app 0 24) (us 1 (cu (app 1 3) (cu (app 2 3) (us 2 (c ai (cl ab (us 17 nil)))))))))) (pl (c (so (cl (gl 24 (cl kci nil)) nil)) (cu (so Q1q19) (cl (so (c gi (c gi (cl gi nil)))) nil))) nil))) : RS _)
abbrev X_Ac_0 := Z_Ac_0.B
def E_Ac_0 {ρ : Type} (x : X_Ac_0) (K : AX → St → Option ρ) : Option ρ := (fun d => K (AX.ex 0) (Z_Ac_0.em d)) x
def S_Ac_0 (d : QL_Ac_0.B) : Pg (QL_Ac_0.B ⊕ X_Ac_0) := let y0 := wI (d.1.1 + d.1.2); let y1 := decide (d.1.2 < 3); cnd y1 (cnd (decide (y0 ≥ 0)) (cnd (decide (y0 < 24)) (cnd (inR y0 24) (cnd (inR d.1.2 3) (cnd (d.1.2 == 2) (ret (Sum.inl ((d.1.1, wI (d.1.2 + 1)), d.2.1, d.2.2.1, d.2.2.2.1, d.2.1 (Int.toNat y0)))) (cnd (d.1.2 == 1) (ret (Sum.inl ((d.1.1, wI (d.1.2 + 1)), d.2.1, d.2.2.1, d.2.1 (Int.toNat y0),
 d.2.2.2.2))) (ret (Sum.inl ((d.1.1, wI (d.1.2 + 1)), d.2.1, d.2.1 (Int.toNat y0), d.2.2.2))))) no) no) (ret (Sum.inl ((d.1.1, wI (d.1.2 + 1)), d.2)))) (ret (Sum.inl ((d.1.1, wI (d.1.2 + 1)), d.2)))) (ret (Sum.inr ((d.1.1, d.1.2, y1), d.2)))
def L_Ac_0 : QL_Ac_0.B → Option X_Ac_0 := loopP (S_Ac_0) 2000
def H_Ac (l_0 : QL_Ac_0.B → Option X_Ac_0) : Hs := ⟨[⟨3, [0, 3, 6, 7, 9, 10, 11, 12, 13, 14, 15, 16, 19, 20, 21, 22, 23, 24, 25, 26, 17, 18], []⟩], [smQ 3 0 QL_Ac_0 E_Ac_0 l_0], [], [], (some ⟨0, (rg 0 4 (rg 5 22 [])), []⟩)⟩
def B_Ac (l_0 : QL_Ac_0.B → Option X_Ac_0) (x0 : Nat → Int) (x1 : Int) : Pg D_Ac := opt (l_0 ((x1, 0), x0, 0, 0, 0)) fun d => ret d.2.2
def f_Ac (x0 : Nat → Int) (x1 : Int) : Option D_Ac := (B_Ac L_Ac_0 x0 x1).val
theorem dl_Ac_0 : ∀ l_0, LoopIs Tryz.prog [] (H_Ac l_0) 0 2000 106 3 QL_Ac_0 E_Ac_0 (S_Ac_0) := fun _ _ d c K => by kernel_rfl
theorem d_Ac : ∀ l_0, DenIs Tryz.prog [] (H_Ac l_0) 2000 106 Q_Ac R_Ac fun b => B_Ac l_0 b.1 b.2 := fun _ b => by kernel_rfl
theorem s_Ac [Amb] : Snd Tryz.prog (e_Ac f_Ac) := Snd.of (mkS mixed (.nil _) (by kernel_rfl) (Sums.by (l := [loopIn Tryz.prog 106 3]) (lj := []) (by kernel_rfl) ⟨mkL (S := S_Ac_0) (by kernel_rfl) (dl_Ac_0 L_Ac_0), trivial⟩ (by kernel_rfl) trivial) (d_Ac L_Ac_0)) (by kernel_rfl)

def Q_AT := (open Rq in (dp (c (aa (cl (gl 24 (cl kci nil)) nil)) (c ai (cl (ac (slc 0 1)) nil))) fun a => (cl (cl (gs a.2.2.1 (cl kci nil)) nil) nil)) : RA _)
def RR_AT := (open Rq in (res (pl (aa (cl (gl 24 (cl kci nil)) nil)) (pu (cu chk nil) nil))) : RE _)
abbrev D_AT := RR_AT.B
def R_AT (d : D_AT) : T := (fun d => .leaf (RR_AT.em d)) d
abbrev G_AT := NI → Int → Nat → NI → Bool → Option D_AT
def e_AT (g : G_AT) : Ct := (111, nilF 2 [.i .i64] (FC Q_AT R_AT (fun b => g b.1.1 b.1.2.1 b.1.2.2.1 b.2 b.1.2.2.2)))
def QL_AT_0 := (open Rq in (st (dp (us 1 (c ai (c (ac (slc 0 1)) (cu (app 1 24) (us 2 (cu (app 2 24) (us 3 (c (ac (slc 0 1)) (c ai (cl ai (us 18 nil))))))))))) fun a => (pl (c (so (cl (gs a.2.1.1 (cl kci nil)) nil)) Q1q17) nil))) : RS _)
def Z_AT_0 := (open Rq in (st (pr (us 1 (c ai (c (ac (slc 0 1)) (cu (app 1 24) (us 2 (cu (app 2 24) (us 3 (c (ac (slc 0 1)) (c ai (c ai (cl ab (us 17 nil)))))))))))) (pl (c Q1q4 Q1q17) nil))) : RS _)
abbrev X_AT_0 := ((Int × (Nat × Bool) × (Nat × Bool) × Int × Int × Bool) × NI × NI × NI)
def E_AT_0 {ρ : Type} (x : X_AT_0) (K : AX → St → Option ρ) : Option ρ := (fun d => K (AX.ex 0) (Z_AT_0.em (d.1, (d.1.2.1.1, d.2.1), d.2.2))) x
def S_AT_0 (d : QL_AT_0.B) : Pg (QL_AT_0.B ⊕ X_AT_0) := let y0 := wI (d.1.1 + d.1.2.2.2.2); let y1 := Int.toNat y0; let y2 := decide (d.1.2.2.2.2 < d.1.2.2.2.1); cnd y2 (cnd (inR d.1.2.2.2.2 d.1.2.2.1.1) (cnd (decide (y0 ≥ 0)) (cnd (decide (y0 < 24)) (cnd (inR y0 24) (cnd (true && Nat.ble (0 + y1 * 1 + 1) 24) (ret (Sum.inl ((d.1.1, d.1.2.1, d.1.2.2.1, d.1.2.2.2.1, wI (d.1.2.2.2.2 + 1)), d.2.1, fun j => bif Nat.beq j y1 then d.2.1 (Int.toNat d.1.2.2.2.2) else d.2.2.1 j,
 d.2.2.2))) no) no) (ret (Sum.inl ((d.1.1, d.1.2.1, d.1.2.2.1, d.1.2.2.2.1, wI (d.1.2.2.2.2 + 1)), d.2)))) (ret (Sum.inl ((d.1.1, d.1.2.1, d.1.2.2.1, d.1.2.2.2.1, wI (d.1.2.2.2.2 + 1)), d.2)))) no) (ret (Sum.inr ((d.1.1, d.1.2.1, d.1.2.2.1, d.1.2.2.2.1, d.1.2.2.2.2, y2), d.2)))
def L_AT_0 : QL_AT_0.B → Option X_AT_0 := loopP (S_AT_0) 2000
def H_AT (l_0 : QL_AT_0.B → Option X_AT_0) : Hs := ⟨[⟨2, [0, 4, 5, 7, 8, 9, 13, 14, 15, 16, 17, 18, 19, 20, 21, 22, 25, 26, 27, 28, 29, 30, 23, 24], []⟩], [smQ 2 1 QL_AT_0 E_AT_0 l_0], [], [], (some ⟨0, (rg 0 6 (rg 7 24 [])), []⟩)⟩
def B_AT (l_0 : QL_AT_0.B → Option X_AT_0) (x0 : Nat → Int) (x1 : Int) (x2 : Nat) (x3 : Nat → Int) (w0 : Bool) : Pg D_AT := cnd (Nat.beq x2 x2) (opt (l_0 ((x1, (x2, w0), (x2, w0), Int.ofNat x2, 0), x3, x0, fun x => 0)) fun d => ret d.2.2.1) no
def f_AT (x0 : Nat → Int) (x1 : Int) (x2 : Nat) (x3 : Nat → Int) (w0 : Bool) : Option D_AT := (B_AT L_AT_0 x0 x1 x2 x3 w0).val
theorem dl_AT_0 : ∀ l_0, LoopIs Tryz.prog [] (H_AT l_0) 1 2000 111 2 QL_AT_0 E_AT_0 (S_AT_0) := fun _ _ d c K => by kernel_rfl
theorem d_AT : ∀ l_0, DenIs Tryz.prog [] (H_AT l_0) 2000 111 Q_AT R_AT fun b => B_AT l_0 b.1.1 b.1.2.1 b.1.2.2.1 b.2 b.1.2.2.2 := fun _ b => by kernel_rfl
theorem s_AT [Amb] : Snd Tryz.prog (e_AT f_AT) := Snd.of (Sound.nil 2 [.i .i64] <| mkS mixed (.nil _) (by kernel_rfl) (Sums.by (l := [loopIn Tryz.prog 111 2]) (lj := []) (by kernel_rfl) ⟨mkL (S := S_AT_0) (by kernel_rfl) (dl_AT_0 L_AT_0), trivial⟩ (by kernel_rfl) trivial) (d_AT L_AT_0)) (by kernel_rfl)

end Go.Proofs.YtphkdkkbbfnkaaaGreat
