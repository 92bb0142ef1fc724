/-
  Contracts by plain functions: (*astrolaberef2.Acc).Clamp, (*astrolaberef2.Acc).Sat, astrolaberef2.size, astrolaberef2.product, astrolaberef2.mul, astrolaberef2.less, astrolaberef2.add, astrolaberef2.divided, (*astrolaberef2.Acc).end, (*astrolaberef2.Acc).MulDiv, astrolaberef16.Seconds, astrolaberef2.shifted, (*astrolaberef2.Acc).Mul, (*astrolaberef2.Acc).M, astrolabelaw28.still, (*ekf.Filter).State, (*output.Predictor).All, (*ekf.Filter).Outs, (*ekf.Filter).Counts, (*ring.Buffer).Len, (*ekf.Filter).Len, astrolabelaw28.rested, astrolabelaw28.run
-/
import Derived.Test.YtphkdkkbbfnkaaaGreatZA
import Derived.Test.YtphkdkkbbfnkaaaGreatQ7
set_option maxRecDepth 100000
set_option maxHeartbeats 4000000
set_option linter.unusedVariables false
noncomputable section
namespace Go.Proofs.YtphkdkkbbfnkaaaGreat
open Go.Ab Go.Ab.Pg
def Q8q1 := open Rq in (c gi (c gi (c gi (c gi (c gi (cl gi nil))))))
def Q8q2 := open Rq in (res (pr ai (pl (cl (chs (cl gb nil)) nil) nil)))
def Q8q3 := open Rq in (a 3 (c gi (c gi (cl gi nil))) (c gi (cl gi nil)))
def Q8q5 := open Rq in (res (pl (aa (c gn (c gn (cl gb nil)))) (pu nil nil)))
def Q8q6 := open Rq in (c (gl 276 (cl kci nil)) (cl (gl 24 (cl kci nil)) nil))
def Q8q8 := open Rq in (a 3 (c gi (c gi (cl gi nil))) (c gi (c gi (cl gi nil))))
def Q8q9 := open Rq in (c gi (c gi Q8q1))
def Q8q10 := open Rq in (c kci (c kci (c kci (c kci (c kci (c kci (c kci (cl kci nil))))))))
def Q8q12 := open Rq in (c (gl 6 (c kci (c kci (c kcb (c kci (c kci (cl kci nil))))))) (cl gi nil))
def Q8q13 := open Rq in (c kci Q8q10)
def Q8q15 := open Rq in (a 5 (c gi (c gi (c gi (c gi (cl gi nil))))) (c gi (c (gc (slo 14 9)) (cl gi nil))))
def Q8q16 := open Rq in (a 5 (c gi (c gi (c gi (c gi (cl gi nil))))) (c gi (c (gc (slo 15 9)) (cl gi nil))))
def Q8q17 := open Rq in (a 5 (c gi (c gi (c gi (c gi (cl gi nil))))) (c gi (c (gc (slo 16 9)) (cl gi nil))))
def Q8q18 := open Rq in (a 5 (c gi (c gi (c gi (c gi (cl gi nil))))) (c gi (c (gc (slo 17 9)) (cl gi nil))))
def Q8q19 := open Rq in (a 5 (c gi (c gi (c gi (c gi (cl gi nil))))) (c gi (c (gc (slo 18 9)) (cl gi nil))))
def Q8q20 := open Rq in (c kci Q8q13)
def Q8q22 := open Rq in (c kci Q8q20)
def Q8q23 := open Rq in (a 4 (c gi (c gi (c gi (cl gi nil)))) Q8q8)
def Q8q24 := open Rq in (c gi (a 8 (c gi (c gi Q8q8)) (cl gb nil)))
def Q8q31 := open Rq in (cl (ga (pr (szs hole) Q8q22)) nil)
def Q8q32 := open Rq in (cl Q8q31 nil)
def Q8q48 := open Rq in (cu chk (cu chk (cu chk (cu chk (cu chk (cu chk (cu chk (cu chk (cu chk (cu chk (cu chk (cu chk (cu chk (cu chk (cu chk (cu chk (cu chk (cu chk (cu chk (cu chk nil))))))))))))))))))))
def Q8q58 := open Rq in (c gi (c gi (c gi (c gi (a 6 Q8q1 (a 6 Q8q1 (c (gl 24 (cl kci nil)) (c (gl 24 (cl kci nil)) Q8q9))))))))
def Q_DX := (open Rq in (pr (cu (app 0 1) (c ai (c ai (cl ai nil)))) (cl (cl gb nil) nil)) : RA _)
def RR_DX := (open Rq in Q8q2 : RE _)
abbrev D_DX := RR_DX.B
def R_DX (d : D_DX) : T := (fun d => .leaf (RR_DX.em d)) d
abbrev G_DX := Int → Int → Int → Bool → Option D_DX
def e_DX (g : G_DX) : Ct := (206, FC Q_DX R_DX (fun b => g b.1.1 b.1.2.1 b.1.2.2 b.2))
def B_DX (x0 : Int) (x1 : Int) (x2 : Int) (x3 : Bool) : Pg D_DX := let y0 := decide (x1 > x2); cnd (decide (x0 < x1)) (cnd (x1 != x0) (ret (x1, true)) (cnd y0 (ret (x1, true)) (ret (x1, x3)))) (cnd y0 (cnd (x1 != x0) (ret (x1, true)) (cnd y0 (ret (x1, true)) (ret (x1, x3)))) (cnd (decide (x0 > x2)) (cnd (x2 != x0) (ret (x2, true)) (cnd y0 (ret (x2, true)) (ret (x2, x3)))) (cnd (x0 != x0) (ret (x0, true)) (cnd y0 (ret (x0, true)) (ret (x0, x3))))))
def f_DX (x0 : Int) (x1 : Int) (x2 : Int) (x3 : Bool) : Option D_DX := (B_DX x0 x1 x2 x3).val
theorem d_DX : DenIs Tryz.prog [] ⟨[], [], [0], [], none⟩ 2000 206 Q_DX R_DX fun b => B_DX b.1.1 b.1.2.1 b.1.2.2 b.2 := fun b => by kernel_rfl
theorem s_DX [Amb] : Snd Tryz.prog (e_DX f_DX) := Snd.of (mk0 mixed (.nil _) (by kernel_rfl) d_DX) (by kernel_rfl)

def Q_CC := (open Rq in (pr (cu (app 0 1) (cl ai nil)) (cl (cl gb nil) nil)) : RA _)
def RR_CC := (open Rq in Q8q2 : RE _)
abbrev D_CC := RR_CC.B
def R_CC (d : D_CC) : T := (fun d => .leaf (RR_CC.em d)) d
abbrev G_CC := Int → Bool → Option D_CC
def e_CC (g : G_CC) : Ct := (141, FC Q_CC R_CC (fun b => g b.1 b.2))
def B_CC (g_DX : G_DX) (x0 : Int) (x1 : Bool) : Pg D_CC := opt (g_DX x0 (-1152921504606846976) 1152921504606846976 x1) fun d => ret d
def f_CC (x0 : Int) (x1 : Bool) : Option D_CC := (B_CC f_DX x0 x1).val
theorem d_CC : ∀ g_DX, DenIs Tryz.prog [e_DX g_DX] ⟨[], [], [], [], none⟩ 2000 141 Q_CC R_CC fun b => B_CC g_DX b.1 b.2 := fun _ b => by kernel_rfl
theorem s_CC [Amb] : Snd Tryz.prog (e_CC f_CC) := Snd.of (mk0 mixed (.c s_DX (.nil _)) (by kernel_rfl) (d_CC f_DX)) (by kernel_rfl)

def Q_CH := (open Rq in (pl (cl ai nil) nil) : RA _)
def RR_CH := (open Rq in (res (pl an (pu nil nil))) : RE _)
abbrev D_CH := RR_CH.B
def R_CH (d : D_CH) : T := (fun d => .leaf (RR_CH.em d)) d
abbrev G_CH := Int → Option D_CH
def e_CH (g : G_CH) : Ct := (143, FC Q_CH R_CH (fun b => g b))
def B_CH (x0 : Int) : Pg D_CH := cnd (decide (x0 < 0)) (ret (wU (wI (0 - x0)))) (ret (wU x0))
def f_CH (x0 : Int) : Option D_CH := (B_CH x0).val
theorem d_CH : DenIs Tryz.prog [] ⟨[], [], [], [], none⟩ 2000 143 Q_CH R_CH fun b => B_CH b := fun b => by kernel_rfl
theorem s_CH [Amb] : Snd Tryz.prog (e_CH f_CH) := Snd.of (mk0 mixed (.nil _) (by kernel_rfl) d_CH) (by kernel_rfl)

def Q_DY := (open Rq in (pl (c an (cl an nil)) nil) : RA _)
def RR_DY := (open Rq in (res (pl (atup (c (rc cn) (cl (rc cn) nil))) (pu nil nil))) : RE _)
abbrev D_DY := RR_DY.B
def R_DY (d : D_DY) : T := (fun d => .leaf (RR_DY.em d)) d
abbrev G_DY := Int → Int → Option D_DY
def e_DY (g : G_DY) : Ct := (205, FC Q_DY R_DY (fun b => g b.1 b.2))
def B_DY (x0 : Int) (x1 : Int) : Pg D_DY := let y0 := Int.fdiv x0 4294967296; let y1 := Int.fdiv x1 4294967296; let y2 := wU (Int.ofNat (BitVec.toNat (BitVec.ofInt 64 x0 &&& BitVec.ofInt 64 4294967295))); let y3 := wU (Int.ofNat (BitVec.toNat (BitVec.ofInt 64 x1 &&& BitVec.ofInt 64 4294967295))); let y4 := wU (y2 * y3); let y5 := wU (wU (y0 * y3) + Int.fdiv y4 4294967296); let y6 := wU (wU (y2 * y1) + wU (Int.ofNat (BitVec.toNat (BitVec.ofInt 64 y5 &&& BitVec.ofInt 64 4294967295)))); ret (wU (wU (wU (y0 * y1) + Int.fdiv y5 4294967296) + Int.fdiv y6 4294967296),
 wU (Int.ofNat (BitVec.toNat (BitVec.ofInt 64 (wU (y6 * 4294967296)) ||| BitVec.ofInt 64 (wU (Int.ofNat (BitVec.toNat (BitVec.ofInt 64 y4 &&& BitVec.ofInt 64 4294967295))))))))
def f_DY (x0 : Int) (x1 : Int) : Option D_DY := (B_DY x0 x1).val
theorem d_DY : DenIs Tryz.prog [] ⟨[], [], [], [], none⟩ 2000 205 Q_DY R_DY fun b => B_DY b.1 b.2 := fun b => by kernel_rfl
theorem s_DY [Amb] : Snd Tryz.prog (e_DY f_DY) := Snd.of (mk0 mixed (.nil _) (by kernel_rfl) d_DY) (by kernel_rfl)

def Q_CT := (open Rq in (pl (c ai (cl ai nil)) nil) : RA _)
def RR_CT := (open Rq in Q8q5 : RE _)
abbrev D_CT := RR_CT.B
def R_CT (d : D_CT) : T := (fun d => .leaf (RR_CT.em d)) d
abbrev G_CT := Int → Int → Option D_CT
def e_CT (g : G_CT) : Ct := (140, FC Q_CT R_CT (fun b => g b.1 b.2))
def B_CT (g_CH : G_CH) (g_DY : G_DY) (x0 : Int) (x1 : Int) : Pg D_CT := opt (g_CH x0) fun d => opt (g_CH x1) fun d_1 => opt (g_DY d d_1) fun d => ret (d.1, d.2, !decide (x0 < 0) == decide (x1 < 0))
def f_CT (x0 : Int) (x1 : Int) : Option D_CT := (B_CT f_CH f_DY x0 x1).val
theorem d_CT : ∀ g_CH g_DY, DenIs Tryz.prog [e_CH g_CH, e_DY g_DY] ⟨[], [], [], [], none⟩ 2000 140 Q_CT R_CT fun b => B_CT g_CH g_DY b.1 b.2 := fun _ _ b => by kernel_rfl
theorem s_CT [Amb] : Snd Tryz.prog (e_CT f_CT) := Snd.of (mk0 mixed (.c s_CH (.c s_DY (.nil _))) (by kernel_rfl) (d_CT f_CH f_DY)) (by kernel_rfl)

def Q_DZ := (open Rq in (pl (c (aa (c gn (c gn (cl gb nil)))) (cl (aa (c gn (c gn (cl gb nil)))) nil)) nil) : RA _)
def RR_DZ := (open Rq in (res (pl ab (pu nil nil))) : RE _)
abbrev D_DZ := RR_DZ.B
def R_DZ (d : D_DZ) : T := (fun d => .leaf (RR_DZ.em d)) d
abbrev G_DZ := Int → Int → Bool → Int → Int → Bool → Option D_DZ
def e_DZ (g : G_DZ) : Ct := (236, FC Q_DZ R_DZ (fun b => g b.1.1 b.1.2.1 b.1.2.2 b.2.1 b.2.2.1 b.2.2.2))
def B_DZ (x0 : Int) (x1 : Int) (x2 : Bool) (x3 : Int) (x4 : Int) (x5 : Bool) : Pg D_DZ := cnd (decide (x0 < x3)) (ret true) (cnd (x0 == x3) (ret (decide (x1 < x4))) (ret false))
def f_DZ (x0 : Int) (x1 : Int) (x2 : Bool) (x3 : Int) (x4 : Int) (x5 : Bool) : Option D_DZ := (B_DZ x0 x1 x2 x3 x4 x5).val
theorem d_DZ : DenIs Tryz.prog [] ⟨[], [], [], [], none⟩ 2000 236 Q_DZ R_DZ fun b => B_DZ b.1.1 b.1.2.1 b.1.2.2 b.2.1 b.2.2.1 b.2.2.2 := fun b => by kernel_rfl
theorem s_DZ [Amb] : Snd Tryz.prog (e_DZ f_DZ) := Snd.of (mk0 mixed (.nil _) (by kernel_rfl) d_DZ) (by kernel_rfl)

def Q_Bv := (open Rq in (pl (c (aa (c gn (c gn (cl gb nil)))) (cl (aa (c gn (c gn (cl gb nil)))) nil)) nil) : RA _)
def RR_Bv := (open Rq in Q8q5 : RE _)
abbrev D_Bv := RR_Bv.B
def R_Bv (d : D_Bv) : T := (fun d => .leaf (RR_Bv.em d)) d
abbrev G_Bv := Int → Int → Bool → Int → Int → Bool → Option D_Bv
def e_Bv (g : G_Bv) : Ct := (204, FC Q_Bv R_Bv (fun b => g b.1.1 b.1.2.1 b.1.2.2 b.2.1 b.2.2.1 b.2.2.2))
def B_Bv (g_DZ : G_DZ) (x0 : Int) (x1 : Int) (x2 : Bool) (x3 : Int) (x4 : Int) (x5 : Bool) : Pg D_Bv := let y0 := wU (x0 - x3); let y1 := wU (x3 - x0); let y2 := wU (x0 + x3); let y3 := wU (x1 + x4); cnd (x2 == x5) (cnd (decide (y3 < x1)) (ret (wU (y2 + 1), y3, x2)) (ret (y2, y3, x2))) (opt (g_DZ x0 x1 x2 x3 x4 x5) fun d => cnd d (cnd (decide (x4 < x1)) (ret (wU (y1 - 1), wU (x4 - x1), x5)) (ret (y1,
 wU (x4 - x1), x5))) (cnd (decide (x1 < x4)) (ret (wU (y0 - 1), wU (x1 - x4), x2)) (ret (y0, wU (x1 - x4), x2))))
def f_Bv (x0 : Int) (x1 : Int) (x2 : Bool) (x3 : Int) (x4 : Int) (x5 : Bool) : Option D_Bv := (B_Bv f_DZ x0 x1 x2 x3 x4 x5).val
theorem d_Bv : ∀ g_DZ, DenIs Tryz.prog [e_DZ g_DZ] ⟨[], [], [], [], none⟩ 2000 204 Q_Bv R_Bv fun b => B_Bv g_DZ b.1.1 b.1.2.1 b.1.2.2 b.2.1 b.2.2.1 b.2.2.2 := fun _ b => by kernel_rfl
theorem s_Bv [Amb] : Snd Tryz.prog (e_Bv f_Bv) := Snd.of (mk0 mixed (.c s_DZ (.nil _)) (by kernel_rfl) (d_Bv f_DZ)) (by kernel_rfl)

def Q_BF := (open Rq in (pl (c (aa (c gn (c gn (cl gb nil)))) (cl an nil)) nil) : RA _)
def RR_BF := (open Rq in Q8q5 : RE _)
abbrev D_BF := RR_BF.B
def R_BF (d : D_BF) : T := (fun d => .leaf (RR_BF.em d)) d
abbrev G_BF := Int → Int → Bool → Int → Option D_BF
def e_BF (g : G_BF) : Ct := (142, FC Q_BF R_BF (fun b => g b.1.1 b.1.2.1 b.1.2.2 b.2))
def QL_BF_0 := (open Rq in (st (pr (us 1 (c an (cu (app 0 3) (us 1 (cu (app 1 3) (cu (app 2 3) (c an (cl ai (us 63 nil))))))))) (pl (c (so (c gn (c gn (cl gb nil)))) (cu (so (cu (gc (cf (fi .u64 (int 0)))) (cu (gc (cf (fi .u64 (int 0)))) (cu (gc (cf (fb (bool false)))) nil)))) (cl (so (c gn (c gn (cl gb nil)))) nil))) nil))) : RS _)
def Z_BF_0 := (open Rq in (st (pr (us 1 (c an (cu (app 0 3) (us 1 (cu (app 1 3) (cu (app 2 3) (c an (c ai (us 4 (c ai (cl ab (us 57 nil)))))))))))) (pl (c (so (c gn (c gn (cl gb nil)))) (cu (so (cu (gc (cf (fi .u64 (int 0)))) (cu (gc (cf (fi .u64 (int 0)))) (cu (gc (cf (fb (bool false)))) nil)))) (cl (so (c gn (c gn (cl gb nil)))) nil))) nil))) : RS _)
abbrev X_BF_0 := ((Int × Int × Int × Bool) × (Int × Int × Bool) × Int × Int × Bool)
def E_BF_0 {ρ : Type} (x : X_BF_0) (K : AX → St → Option ρ) : Option ρ := (fun d => K (AX.ex 0) (Z_BF_0.em ((d.1.1, d.1.2.1, d.1.2.2.1, d.1.2.2), d.2))) x
def S_BF_0 (d : QL_BF_0.B) : Pg (QL_BF_0.B ⊕ X_BF_0) := let y0 := wI (d.1.2.2 - 1); let y1 := decide (d.1.2.2 ≥ 0); let y2 := decide (d.1.2.2 ≥ 64); let y3 := wU (wI (Int.ofNat (BitVec.toNat (BitVec.ofInt 64 d.1.2.2 &&& BitVec.ofInt 64 63)))); let y4 := 2 ^ min (Int.toNat y3) 64; let y5 := !decide (y3 < 0); let y6 := wU (Int.ofNat (BitVec.toNat (BitVec.ofInt 64 (wU (d.1.2.1 * 2)) ||| BitVec.ofInt 64 (wU (Int.ofNat (BitVec.toNat (BitVec.ofInt 64 (Int.fdiv d.2.1.1 y4) &&& BitVec.ofInt 64 1))))))); let y7 := wU (Int.ofNat (BitVec.toNat (BitVec.ofInt 64 (wU (d.1.2.1 * 2)) ||| BitVec.ofInt 64 (wU (Int.ofNat (BitVec.toNat (BitVec.ofInt 64 (Int.fdiv d.2.1.2.1 y4) &&& BitVec.ofInt 64 1))))))); cnd y1 (cnd y5 (cnd y2 (cnd y5 (cnd (decide (y6 ≥ d.1.1)) (cnd y2 (cnd y5 (ret (Sum.inl ((d.1.1,
 wU (y6 - d.1.1), y0), d.2.1, wU (Int.ofNat (BitVec.toNat (BitVec.ofInt 64 d.2.2.1 ||| BitVec.ofInt 64 (wU (1 * y4))))), d.2.2.2))) no) (cnd y5 (ret (Sum.inl ((d.1.1, wU (y6 - d.1.1), y0), d.2.1, d.2.2.1, wU (Int.ofNat (BitVec.toNat (BitVec.ofInt 64 d.2.2.2.1 ||| BitVec.ofInt 64 (wU (1 * y4))))), d.c4))) no)) (ret (Sum.inl ((d.1.1, y6, y0), d.2)))) no) (cnd (decide (y7 ≥ d.1.1)) (cnd y2 (cnd y5 (ret (Sum.inl ((d.1.1,
 wU (y7 - d.1.1), y0), d.2.1, wU (Int.ofNat (BitVec.toNat (BitVec.ofInt 64 d.2.2.1 ||| BitVec.ofInt 64 (wU (1 * y4))))), d.2.2.2))) no) (cnd y5 (ret (Sum.inl ((d.1.1, wU (y7 - d.1.1), y0), d.2.1, d.2.2.1, wU (Int.ofNat (BitVec.toNat (BitVec.ofInt 64 d.2.2.2.1 ||| BitVec.ofInt 64 (wU (1 * y4))))), d.c4))) no)) (ret (Sum.inl ((d.1.1, y7, y0), d.2))))) no) (ret (Sum.inr ((d.1.1, d.1.2.1, d.1.2.2, y1),
 d.2)))
def L_BF_0 : QL_BF_0.B → Option X_BF_0 := loopP (S_BF_0) 2000
def H_BF (l_0 : QL_BF_0.B → Option X_BF_0) : Hs := ⟨[⟨4, (0 :: 3 :: rg 8 63 []), []⟩], [smQ 4 0 QL_BF_0 E_BF_0 l_0], [], [], (some ⟨0, (rg 0 4 (rg 5 66 [])), []⟩)⟩
def B_BF (g_Bv : G_Bv) (l_0 : QL_BF_0.B → Option X_BF_0) (x0 : Int) (x1 : Int) (x2 : Bool) (x3 : Int) : Pg D_BF := opt (l_0 ((x3, 0, 127), (x0, x1, x2), 0, 0, x2)) fun d => cnd (decide (d.1.2.1 ≥ wU (d.1.1 - d.1.2.1))) (opt (g_Bv d.2.2.1 d.2.2.2.1 d.c4 0 1 d.c4) fun d => ret d) (ret d.2.2)
def f_BF (x0 : Int) (x1 : Int) (x2 : Bool) (x3 : Int) : Option D_BF := (B_BF f_Bv L_BF_0 x0 x1 x2 x3).val
theorem dl_BF_0 : ∀ g_Bv l_0, LoopIs Tryz.prog [e_Bv g_Bv] (H_BF l_0) 0 2000 142 4 QL_BF_0 E_BF_0 (S_BF_0) := fun _ _ _ d c K => by kernel_rfl
theorem d_BF : ∀ g_Bv l_0, DenIs Tryz.prog [e_Bv g_Bv] (H_BF l_0) 2000 142 Q_BF R_BF fun b => B_BF g_Bv l_0 b.1.1 b.1.2.1 b.1.2.2 b.2 := fun _ _ b => by kernel_rfl
theorem s_BF [Amb] : Snd Tryz.prog (e_BF f_BF) := Snd.of (mkS mixed (.c s_Bv (.nil _)) (by kernel_rfl) (Sums.by (l := [loopIn Tryz.prog 142 4]) (lj := []) (by kernel_rfl) ⟨mkL (S := S_BF_0) (by kernel_rfl) (dl_BF_0 f_Bv L_BF_0), trivial⟩ (by kernel_rfl) trivial) (d_BF f_Bv L_BF_0)) (by kernel_rfl)

def Q_CU := (open Rq in (pr (cu (app 0 1) (cl (aa (c gn (c gn (cl gb nil)))) nil)) (cl (cl gb nil) nil)) : RA _)
def RR_CU := (open Rq in Q8q2 : RE _)
abbrev D_CU := RR_CU.B
def R_CU (d : D_CU) : T := (fun d => .leaf (RR_CU.em d)) d
abbrev G_CU := Int → Int → Bool → Bool → Option D_CU
def e_CU (g : G_CU) : Ct := (138, FC Q_CU R_CU (fun b => g b.1.1 b.1.2.1 b.1.2.2 b.2))
def B_CU (x0 : Int) (x1 : Int) (x2 : Bool) (x3 : Bool) : Pg D_CU := cnd (decide (x0 > 0)) (cnd x2 (ret (-1152921504606846976, true)) (ret (1152921504606846976, true))) (cnd (decide (x1 > 1152921504606846976)) (cnd x2 (ret (-1152921504606846976, true)) (ret (1152921504606846976, true))) (cnd x2 (ret (wI (0 - wI x1), x3)) (ret (wI x1, x3))))
def f_CU (x0 : Int) (x1 : Int) (x2 : Bool) (x3 : Bool) : Option D_CU := (B_CU x0 x1 x2 x3).val
theorem d_CU : DenIs Tryz.prog [] ⟨[], [], [0], [], none⟩ 2000 138 Q_CU R_CU fun b => B_CU b.1.1 b.1.2.1 b.1.2.2 b.2 := fun b => by kernel_rfl
theorem s_CU [Amb] : Snd Tryz.prog (e_CU f_CU) := Snd.of (mk0 mixed (.nil _) (by kernel_rfl) d_CU) (by kernel_rfl)

def Q_Da := (open Rq in (pr (cu (app 0 1) (c ai (c ai (cl ai nil)))) (cl (cl gb nil) nil)) : RA _)
def RR_Da := (open Rq in Q8q2 : RE _)
abbrev D_Da := RR_Da.B
def R_Da (d : D_Da) : T := (fun d => .leaf (RR_Da.em d)) d
abbrev G_Da := Int → Int → Int → Bool → Option D_Da
def e_Da (g : G_Da) : Ct := (76, FC Q_Da R_Da (fun b => g b.1.1 b.1.2.1 b.1.2.2 b.2))
def B_Da (g_CC : G_CC) (g_CT : G_CT) (g_CH : G_CH) (g_BF : G_BF) (g_CU : G_CU) (x0 : Int) (x1 : Int) (x2 : Int) (x3 : Bool) : Pg D_Da := opt (g_CC x0 x3) fun d => opt (g_CC x1 d.2) fun d_1 => opt (g_CT d.1 d_1.1) fun d => opt (g_CC x2 d_1.2) fun d_2 => cnd (d_2.1 == 0) (cnd (d.1 == 0) (cnd (d.2.1 == 0) (ret (0, true)) (cnd d.2.2 (ret (-1152921504606846976, true)) (ret (1152921504606846976, true)))) (cnd d.2.2 (ret (-1152921504606846976,
 true)) (ret (1152921504606846976, true)))) (opt (g_CH d_2.1) fun d_3 => opt (g_BF d.1 d.2.1 (!d.2.2 == decide (d_2.1 < 0)) d_3) fun d => opt (g_CU d.1 d.2.1 d.2.2 d_2.2) fun d => ret d)
def f_Da (x0 : Int) (x1 : Int) (x2 : Int) (x3 : Bool) : Option D_Da := (B_Da f_CC f_CT f_CH f_BF f_CU x0 x1 x2 x3).val
theorem d_Da : ∀ g_CC g_CT g_CH g_BF g_CU, DenIs Tryz.prog [e_CC g_CC, e_CT g_CT, e_CH g_CH, e_BF g_BF, e_CU g_CU] ⟨[], [], [], [], none⟩ 2000 76 Q_Da R_Da fun b => B_Da g_CC g_CT g_CH g_BF g_CU b.1.1 b.1.2.1 b.1.2.2 b.2 := fun _ _ _ _ _ b => by kernel_rfl
theorem s_Da [Amb] : Snd Tryz.prog (e_Da f_Da) := Snd.of (mk0 mixed (.c s_CC (.c s_CT (.c s_CH (.c s_BF (.c s_CU (.nil _)))))) (by kernel_rfl) (d_Da f_CC f_CT f_CH f_BF f_CU)) (by kernel_rfl)

def Q_Db := (open Rq in (pr (cu (app 0 1) (cl ai nil)) (cl (cl gb nil) nil)) : RA _)
def RR_Db := (open Rq in Q8q2 : RE _)
abbrev D_Db := RR_Db.B
def R_Db (d : D_Db) : T := (fun d => .leaf (RR_Db.em d)) d
abbrev G_Db := Int → Bool → Option D_Db
def e_Db (g : G_Db) : Ct := (34, FC Q_Db R_Db (fun b => g b.1 b.2))
def B_Db (g_Da : G_Da) (x0 : Int) (x1 : Bool) : Pg D_Db := opt (g_Da x0 1073741824 1000000 x1) fun d => ret d
def f_Db (x0 : Int) (x1 : Bool) : Option D_Db := (B_Db f_Da x0 x1).val
theorem d_Db : ∀ g_Da, DenIs Tryz.prog [e_Da g_Da] ⟨[], [], [], [], none⟩ 2000 34 Q_Db R_Db fun b => B_Db g_Da b.1 b.2 := fun _ b => by kernel_rfl
theorem s_Db [Amb] : Snd Tryz.prog (e_Db f_Db) := Snd.of (mk0 mixed (.c s_Da (.nil _)) (by kernel_rfl) (d_Db f_Da)) (by kernel_rfl)

def Q_Dc := (open Rq in (pl (c (aa (c gn (c gn (cl gb nil)))) (cl ai nil)) nil) : RA _)
def RR_Dc := (open Rq in Q8q5 : RE _)
abbrev D_Dc := RR_Dc.B
def R_Dc (d : D_Dc) : T := (fun d => .leaf (RR_Dc.em d)) d
abbrev G_Dc := Int → Int → Bool → Int → Option D_Dc
def e_Dc (g : G_Dc) : Ct := (139, FC Q_Dc R_Dc (fun b => g b.1.1 b.1.2.1 b.1.2.2 b.2))
def B_Dc (g_Bv : G_Bv) (x0 : Int) (x1 : Int) (x2 : Bool) (x3 : Int) : Pg D_Dc := let y0 := wI (x3 - 1); let y1 := wU (wI (x3 - 64)); let y2 := wU (wI (64 - x3)); let y3 := wU y0; let y4 := wU (wI (x3 - 65)); let y5 := 2 ^ min (Int.toNat (wU x3)) 64; let y6 := !decide (wU x3 < 0); cnd (x3 == 0) (ret (x0, x1, x2)) (cnd (decide (y0 ≥ 64)) (cnd (!decide (y4 < 0)) (opt (g_Bv x0 x1 x2 (wU (1 * 2 ^ min (Int.toNat y4) 64)) 0 x2) fun d => cnd (decide (x3 ≥ 64)) (cnd (!decide (y1 < 0)) (ret (0,
 Int.fdiv d.1 (2 ^ min (Int.toNat y1) 64), d.2.2)) no) (cnd y6 (cnd y6 (cnd (!decide (y2 < 0)) (ret (Int.fdiv d.1 y5, wU (Int.ofNat (BitVec.toNat (BitVec.ofInt 64 (Int.fdiv d.2.1 y5) ||| BitVec.ofInt 64 (wU (d.1 * 2 ^ min (Int.toNat y2) 64))))), d.2.2)) no) no) no)) no) (cnd (!decide (y3 < 0)) (opt (g_Bv x0 x1 x2 0 (wU (1 * 2 ^ min (Int.toNat y3) 64)) x2) fun d => cnd (decide (x3 ≥ 64)) (cnd (!decide (y1 < 0)) (ret (0,
 Int.fdiv d.1 (2 ^ min (Int.toNat y1) 64), d.2.2)) no) (cnd y6 (cnd y6 (cnd (!decide (y2 < 0)) (ret (Int.fdiv d.1 y5, wU (Int.ofNat (BitVec.toNat (BitVec.ofInt 64 (Int.fdiv d.2.1 y5) ||| BitVec.ofInt 64 (wU (d.1 * 2 ^ min (Int.toNat y2) 64))))), d.2.2)) no) no) no)) no))
def f_Dc (x0 : Int) (x1 : Int) (x2 : Bool) (x3 : Int) : Option D_Dc := (B_Dc f_Bv x0 x1 x2 x3).val
theorem d_Dc : ∀ g_Bv, DenIs Tryz.prog [e_Bv g_Bv] ⟨[], [], [], [], none⟩ 2000 139 Q_Dc R_Dc fun b => B_Dc g_Bv b.1.1 b.1.2.1 b.1.2.2 b.2 := fun _ b => by kernel_rfl
theorem s_Dc [Amb] : Snd Tryz.prog (e_Dc f_Dc) := Snd.of (mk0 mixed (.c s_Bv (.nil _)) (by kernel_rfl) (d_Dc f_Bv)) (by kernel_rfl)

def Q_Dd := (open Rq in (pr (cu (app 0 1) (c ai (c ai (cl ai nil)))) (cl (cl gb nil) nil)) : RA _)
def RR_Dd := (open Rq in Q8q2 : RE _)
abbrev D_Dd := RR_Dd.B
def R_Dd (d : D_Dd) : T := (fun d => .leaf (RR_Dd.em d)) d
abbrev G_Dd := Int → Int → Int → Bool → Option D_Dd
def e_Dd (g : G_Dd) : Ct := (75, FC Q_Dd R_Dd (fun b => g b.1.1 b.1.2.1 b.1.2.2 b.2))
def B_Dd (g_CC : G_CC) (g_CT : G_CT) (g_Dc : G_Dc) (g_CU : G_CU) (x0 : Int) (x1 : Int) (x2 : Int) (x3 : Bool) : Pg D_Dd := opt (g_CC x0 x3) fun d => opt (g_CC x1 d.2) fun d_1 => opt (g_CT d.1 d_1.1) fun d => opt (g_Dc d.1 d.2.1 d.2.2 x2) fun d => opt (g_CU d.1 d.2.1 d.2.2 d_1.2) fun d => ret d
def f_Dd (x0 : Int) (x1 : Int) (x2 : Int) (x3 : Bool) : Option D_Dd := (B_Dd f_CC f_CT f_Dc f_CU x0 x1 x2 x3).val
theorem d_Dd : ∀ g_CC g_CT g_Dc g_CU, DenIs Tryz.prog [e_CC g_CC, e_CT g_CT, e_Dc g_Dc, e_CU g_CU] ⟨[], [], [], [], none⟩ 2000 75 Q_Dd R_Dd fun b => B_Dd g_CC g_CT g_Dc g_CU b.1.1 b.1.2.1 b.1.2.2 b.2 := fun _ _ _ _ b => by kernel_rfl
theorem s_Dd [Amb] : Snd Tryz.prog (e_Dd f_Dd) := Snd.of (mk0 mixed (.c s_CC (.c s_CT (.c s_Dc (.c s_CU (.nil _))))) (by kernel_rfl) (d_Dd f_CC f_CT f_Dc f_CU)) (by kernel_rfl)

def Q_De := (open Rq in (pr (cu (app 0 1) (c ai (cl ai nil))) (cl (cl gb nil) nil)) : RA _)
def RR_De := (open Rq in Q8q2 : RE _)
abbrev D_De := RR_De.B
def R_De (d : D_De) : T := (fun d => .leaf (RR_De.em d)) d
abbrev G_De := Int → Int → Bool → Option D_De
def e_De (g : G_De) : Ct := (33, FC Q_De R_De (fun b => g b.1.1 b.1.2 b.2))
def B_De (g_Dd : G_Dd) (x0 : Int) (x1 : Int) (x2 : Bool) : Pg D_De := opt (g_Dd x0 x1 30 x2) fun d => ret d
def f_De (x0 : Int) (x1 : Int) (x2 : Bool) : Option D_De := (B_De f_Dd x0 x1 x2).val
theorem d_De : ∀ g_Dd, DenIs Tryz.prog [e_Dd g_Dd] ⟨[], [], [], [], none⟩ 2000 33 Q_De R_De fun b => B_De g_Dd b.1.1 b.1.2 b.2 := fun _ b => by kernel_rfl
theorem s_De [Amb] : Snd Tryz.prog (e_De f_De) := Snd.of (mk0 mixed (.c s_Dd (.nil _)) (by kernel_rfl) (d_De f_Dd)) (by kernel_rfl)

def Q_Ax := (open Rq in (pl (c ai (cl ai nil)) nil) : RA _)
def RR_Ax := (open Rq in (res (pl (aa (c gi (c gi (cu (gc (cf (fi .i64 (int 0)))) (cu (gc (cf (fi .i64 (int 0)))) (cu (gc (cf (fi .i64 (int 0)))) (cu (gc (cf (fi .i64 (int 0)))) (cu (gc (cf (fi .i64 (int 0)))) (cl gi nil))))))))) (pu nil nil))) : RE _)
abbrev D_Ax := RR_Ax.B
def R_Ax (d : D_Ax) : T := (fun d => .leaf (RR_Ax.em d)) d
abbrev G_Ax := Int → Int → Option D_Ax
def e_Ax (g : G_Ax) : Ct := (10, FC Q_Ax R_Ax (fun b => g b.1 b.2))
def B_Ax (g_Db : G_Db) (g_De : G_De) (x0 : Int) (x1 : Int) : Pg D_Ax := opt (g_Db x1 false) fun d => opt (g_De 10529810258 d.1 d.2) fun d => ret (x0, x1, wI (0 - d.1))
def f_Ax (x0 : Int) (x1 : Int) : Option D_Ax := (B_Ax f_Db f_De x0 x1).val
theorem d_Ax : ∀ g_Db g_De, DenIs Tryz.prog [e_Db g_Db, e_De g_De] ⟨[], [], [], [], none⟩ 2000 10 Q_Ax R_Ax fun b => B_Ax g_Db g_De b.1 b.2 := fun _ _ b => by kernel_rfl
theorem s_Ax [Amb] : Snd Tryz.prog (e_Ax f_Ax) := Snd.of (mk0 mixed (.c s_Db (.c s_De (.nil _))) (by kernel_rfl) (d_Ax f_Db f_De)) (by kernel_rfl)

def Q_Bh := (open Rq in (pu (cu (app 0 434) nil) (cd (a 26 Q8q58 (c gb (c (gl 24 (cl kci nil)) (a 2 Q8q6 (cu (gp 1 5) (cu (gp 2 10) (c (gc (slo 3 8)) (au 6 (cu (gp 4 8) (cu (gp 5 8) (cu (gp 6 8) (cu (gp 7 8) (cu (gp 8 8) (cu (gp 9 8) nil)))))) (cu (gp 10 37) (a 4 (c gi (c gi (c gb (cl gb nil)))) (cu (gp 11 3) (c gb (c gi (a 3 (c gi (c gi (cl gi nil))) (c gb (c gb (c gb (c gi (c gi (c gi (a 10 Q8q23 (cl (gc (slo 12 10)) nil)))))))))))))))))))))) fun b0 => (c Q8q3 (c Q8q24 (c (cl (gs b0.c4.1 Q8q10) nil) (cd (a 5 (c gi (c gi (c gi (c gi (cl gi nil))))) (c gi (c (gc (slo 13 9)) (cl gi nil)))) fun b4 => (cd Q8q15 fun b5 => (cd Q8q16 fun b6 => (cd Q8q17 fun b7 => (cd Q8q18 fun b8 => (cd Q8q19 fun b9 => (c Q8q12 (cd (c gi (c gi (cl (gc (slo 19 11)) nil))) fun b11 => (c (cl (gs b0.c16 Q8q20) nil) (c (cl (gs b4.2.2.1 Q8q13) nil) (c (cl (gs b5.2.2.1 Q8q13) nil) (c (cl (gs b6.2.2.1 Q8q13) nil) (c (cl (gs b7.2.2.1 Q8q13) nil) (c (cl (gs b8.2.2.1 Q8q13) nil) (c (cl (gs b9.2.2.1 Q8q13) nil) (cl (cl (gs b11.2.2 Q8q22) nil) nil))))))))))))))))))))) : RA _)
def RR_Bh := (open Rq in (res (pl (atup (c (ra (cl (gl 24 (cl kci nil)) nil)) (cl (ra Q8q6) nil))) (pu Q8q48 nil))) : RE _)
abbrev D_Bh := RR_Bh.B
def R_Bh (d : D_Bh) : T := (fun d => .leaf (RR_Bh.em d)) d
abbrev G_Bh := Q_Bh.B → Option D_Bh
def e_Bh (g : G_Bh) : Ct := (17, FC Q_Bh R_Bh g)
def B_Bh (x : Q_Bh.B) : Pg D_Bh := ret (x.1.2.2.1, x.1.2.2.2.1)
def f_Bh (x : Q_Bh.B) : Option D_Bh := (B_Bh x).val
theorem d_Bh : DenIs Tryz.prog [] ⟨[], [], [], [], none⟩ 2000 17 Q_Bh R_Bh fun b => B_Bh b := fun b => by kernel_rfl
theorem s_Bh [Amb] : Snd Tryz.prog (e_Bh f_Bh) := Snd.of (mk0 mixed (.nil _) (by kernel_rfl) d_Bh) (by kernel_rfl)

def Q_Df := (open Rq in (pu (cu (app 0 3) nil) (cd (c gi (c gi (cl (gc (slo 1 11)) nil))) fun b0 => (cl (cl (gs b0.2.2 Q8q22) nil) nil))) : RA _)
def RR_Df := (open Rq in (res (pr (ac (slo 2 11)) (pu (cu chk (cu chk nil)) Q8q32))) : RE _)
abbrev D_Df := RR_Df.B
def R_Df (d : D_Df) : T := (fun d => .leaf (RR_Df.em d)) d
abbrev G_Df := Int → Int → Nat → NI → NI → NI → NI → NI → NI → NI → NI → NI → NI → NI → Option D_Df
def e_Df (g : G_Df) : Ct := (38, FC Q_Df R_Df (fun b => g b.1.1 b.1.2.1 b.1.2.2 b.2.1 b.2.2.1 b.2.2.2.1 b.c4.1 b.c4.2.1 b.c4.2.2.1 b.c4.2.2.2.1 b.c8.1 b.c8.2.1 b.c8.2.2.1 b.c8.2.2.2))
def B_Df (x0 : Int) (x1 : Int) (x2 : Nat) (x3 : Nat → Int) (x4 : Nat → Int) (x5 : Nat → Int) (x6 : Nat → Int) (x7 : Nat → Int) (x8 : Nat → Int) (x9 : Nat → Int) (x10 : Nat → Int) (x11 : Nat → Int) (x12 : Nat → Int) (x13 : Nat → Int) : Pg D_Df := let y0 := 0 + x2; cnd (Nat.ble (y0 * 88) 140737488355328) (ret (y0, x2, x3, x4, x5, x6, x7, x8, x9, x10, x11, x12, x13)) no
def f_Df (x0 : Int) (x1 : Int) (x2 : Nat) (x3 : Nat → Int) (x4 : Nat → Int) (x5 : Nat → Int) (x6 : Nat → Int) (x7 : Nat → Int) (x8 : Nat → Int) (x9 : Nat → Int) (x10 : Nat → Int) (x11 : Nat → Int) (x12 : Nat → Int) (x13 : Nat → Int) : Option D_Df := (B_Df x0 x1 x2 x3 x4 x5 x6 x7 x8 x9 x10 x11 x12 x13).val
theorem d_Df : DenIs Tryz.prog [] ⟨[], [], [], [], none⟩ 2000 38 Q_Df R_Df fun b => B_Df b.1.1 b.1.2.1 b.1.2.2 b.2.1 b.2.2.1 b.2.2.2.1 b.c4.1 b.c4.2.1 b.c4.2.2.1 b.c4.2.2.2.1 b.c8.1 b.c8.2.1 b.c8.2.2.1 b.c8.2.2.2 := fun b => by kernel_rfl
theorem s_Df [Amb] : Snd Tryz.prog (e_Df f_Df) := Snd.of (mk0 mixed (.nil _) (by kernel_rfl) d_Df) (by kernel_rfl)

def Q_Ai := (open Rq in (pu (cu (app 0 434) nil) (cd (a 26 Q8q58 (c gb (c (gl 24 (cl kci nil)) (a 2 Q8q6 (cu (gp 1 5) (cu (gp 2 10) (c (gc (slo 3 8)) (au 6 (cu (gp 4 8) (cu (gp 5 8) (cu (gp 6 8) (cu (gp 7 8) (cu (gp 8 8) (cu (gp 9 8) nil)))))) (cu (gp 10 37) (a 4 (c gi (c gi (c gb (cl gb nil)))) (cu (gp 11 3) (c gb (c gi (a 3 (c gi (c gi (cl gi nil))) (c gb (c gb (c gb (c gi (c gi (c gi (a 10 Q8q23 (cl (gc (slo 12 10)) nil)))))))))))))))))))))) fun b0 => (c Q8q3 (c Q8q24 (c (cl (gs b0.c4.1 Q8q10) nil) (cd (a 5 (c gi (c gi (c gi (c gi (cl gi nil))))) (c gi (c (gc (slo 13 9)) (cl gi nil)))) fun b4 => (cd Q8q15 fun b5 => (cd Q8q16 fun b6 => (cd Q8q17 fun b7 => (cd Q8q18 fun b8 => (cd Q8q19 fun b9 => (c Q8q12 (cd (c gi (c gi (cl (gc (slo 19 11)) nil))) fun b11 => (c (cl (gs b0.c16 Q8q20) nil) (c (cl (gs b4.2.2.1 Q8q13) nil) (c (cl (gs b5.2.2.1 Q8q13) nil) (c (cl (gs b6.2.2.1 Q8q13) nil) (c (cl (gs b7.2.2.1 Q8q13) nil) (c (cl (gs b8.2.2.1 Q8q13) nil) (c (cl (gs b9.2.2.1 Q8q13) nil) (cl (cl (gs b11.2.2 Q8q22) nil) nil))))))))))))))))))))) : RA _)
def RR_Ai := (open Rq in (res (pr (ac (slo 20 11)) (pu Q8q48 Q8q32))) : RE _)
abbrev D_Ai := RR_Ai.B
def R_Ai (d : D_Ai) : T := (fun d => .leaf (RR_Ai.em d)) d
abbrev G_Ai := Q_Ai.B → Option D_Ai
def e_Ai (g : G_Ai) : Ct := (13, FC Q_Ai R_Ai g)
def B_Ai (g_Df : G_Df) (x : Q_Ai.B) : Pg D_Ai := cnd (nB x.c8.2.2.2.1.2.2) (opt (g_Df x.c8.2.2.2.1.1 x.c8.2.2.2.1.2.1 x.c8.2.2.2.1.2.2 x.c16.2.2.2.1 x.c16.c4.1 x.c16.c4.2.1 x.c16.c4.2.2.1 x.c16.c4.2.2.2.1 x.c16.c8.1 x.c16.c8.2.1 x.c16.c8.2.2.1 x.c16.c8.2.2.2.1 x.c16.c8.c4.1 x.c16.c8.c4.2) fun d => ret d) no
def f_Ai (x : Q_Ai.B) : Option D_Ai := (B_Ai f_Df x).val
theorem d_Ai : ∀ g_Df, DenIs Tryz.prog [e_Df g_Df] ⟨[], [], [], [], none⟩ 2000 13 Q_Ai R_Ai fun b => B_Ai g_Df b := fun _ b => by kernel_rfl
theorem s_Ai [Amb] : Snd Tryz.prog (e_Ai f_Ai) := Snd.of (mk0 mixed (.c s_Df (.nil _)) (by kernel_rfl) (d_Ai f_Df)) (by kernel_rfl)

def Q_Aj := (open Rq in (pr (cu (app 0 434) (cl ai nil)) (cd (a 26 Q8q58 (c gb (c (gl 24 (cl kci nil)) (a 2 Q8q6 (cu (gp 1 5) (cu (gp 2 10) (c (gc (slo 3 8)) (au 6 (cu (gp 4 8) (cu (gp 5 8) (cu (gp 6 8) (cu (gp 7 8) (cu (gp 8 8) (cu (gp 9 8) nil)))))) (cu (gp 10 37) (a 4 (c gi (c gi (c gb (cl gb nil)))) (cu (gp 11 3) (c gb (c gi (a 3 (c gi (c gi (cl gi nil))) (c gb (c gb (c gb (c gi (c gi (c gi (a 10 Q8q23 (cl (gc (slo 12 10)) nil)))))))))))))))))))))) fun b0 => (c Q8q3 (c Q8q24 (c (cl (gs b0.c4.1 Q8q10) nil) (cd (a 5 (c gi (c gi (c gi (c gi (cl gi nil))))) (c gi (c (gc (slo 13 9)) (cl gi nil)))) fun b4 => (cd Q8q15 fun b5 => (cd Q8q16 fun b6 => (cd Q8q17 fun b7 => (cd Q8q18 fun b8 => (cd Q8q19 fun b9 => (c Q8q12 (cd (c gi (c gi (cl (gc (slo 19 11)) nil))) fun b11 => (c (cl (gs b0.c16 Q8q20) nil) (c (cl (gs b4.2.2.1 Q8q13) nil) (c (cl (gs b5.2.2.1 Q8q13) nil) (c (cl (gs b6.2.2.1 Q8q13) nil) (c (cl (gs b7.2.2.1 Q8q13) nil) (c (cl (gs b8.2.2.1 Q8q13) nil) (c (cl (gs b9.2.2.1 Q8q13) nil) (cl (cl (gs b11.2.2 Q8q22) nil) nil))))))))))))))))))))) : RA _)
def RR_Aj := (open Rq in (res (pl (aa (c gi (c gi (c gi (c gi (cl gi nil)))))) (pu Q8q48 nil))) : RE _)
abbrev D_Aj := RR_Aj.B
def R_Aj (d : D_Aj) : T := (fun d => .leaf (RR_Aj.em d)) d
abbrev G_Aj := Q_Aj.B → Option D_Aj
def e_Aj (g : G_Aj) : Ct := (14, FC Q_Aj R_Aj g)
def B_Aj (g_Bm : G_Bm) (x : Q_Aj.B) : Pg D_Aj := opt (g_Bm x.1) fun d => cnd (!d) (ret (0, 0, 0, 0, 0)) (cnd (inR x.1 6) (cnd (x.1 == 5) (ret x.c8.2.2.1.1) (cnd (x.1 == 4) (ret x.c8.2.1.1) (cnd (x.1 == 3) (ret x.c8.1.1) (cnd (x.1 == 2) (ret x.c4.2.2.2.1.1) (cnd (x.1 == 1) (ret x.c4.2.2.1.1) (ret x.c4.2.1.1)))))) no)
def f_Aj (x : Q_Aj.B) : Option D_Aj := (B_Aj f_Bm x).val
theorem d_Aj : ∀ g_Bm, DenIs Tryz.prog [e_Bm g_Bm] ⟨[], [], [], [], none⟩ 2000 14 Q_Aj R_Aj fun b => B_Aj g_Bm b := fun _ b => by kernel_rfl
theorem s_Aj [Amb] : Snd Tryz.prog (e_Aj f_Aj) := Snd.of (mk0 mixed (.c s_Bm (.nil _)) (by kernel_rfl) (d_Aj f_Bm)) (by kernel_rfl)

def Q_Cd := (open Rq in (pu (cu (app 0 8) nil) (cd (a 5 (c gi (c gi (c gi (c gi (cl gi nil))))) (c gi (c (gc (slo 1 9)) (cl gi nil)))) fun b0 => (cl (cl (gs b0.2.2.1 Q8q13) nil) nil))) : RA _)
def RR_Cd := (open Rq in (res (pl ai (pu (cu chk (cu chk nil)) nil))) : RE _)
abbrev D_Cd := RR_Cd.B
def R_Cd (d : D_Cd) : T := (fun d => .leaf (RR_Cd.em d)) d
abbrev G_Cd := Q_Cd.B → Option D_Cd
def e_Cd (g : G_Cd) : Ct := (45, FC Q_Cd R_Cd g)
def B_Cd (x : Q_Cd.B) : Pg D_Cd := ret (Int.ofNat x.1.2.2.1)
def f_Cd (x : Q_Cd.B) : Option D_Cd := (B_Cd x).val
theorem d_Cd : DenIs Tryz.prog [] ⟨[], [], [], [], none⟩ 2000 45 Q_Cd R_Cd fun b => B_Cd b := fun b => by kernel_rfl
theorem s_Cd [Amb] : Snd Tryz.prog (e_Cd f_Cd) := Snd.of (mk0 mixed (.nil _) (by kernel_rfl) d_Cd) (by kernel_rfl)

def Q_Bg := (open Rq in (pr (cu (app 0 434) (cl ai nil)) (cd (a 26 Q8q58 (c gb (c (gl 24 (cl kci nil)) (a 2 Q8q6 (cu (gp 1 5) (cu (gp 2 10) (c (gc (slo 3 8)) (au 6 (cu (gp 4 8) (cu (gp 5 8) (cu (gp 6 8) (cu (gp 7 8) (cu (gp 8 8) (cu (gp 9 8) nil)))))) (cu (gp 10 37) (a 4 (c gi (c gi (c gb (cl gb nil)))) (cu (gp 11 3) (c gb (c gi (a 3 (c gi (c gi (cl gi nil))) (c gb (c gb (c gb (c gi (c gi (c gi (a 10 Q8q23 (cl (gc (slo 12 10)) nil)))))))))))))))))))))) fun b0 => (c Q8q3 (c Q8q24 (c (cl (gs b0.c4.1 Q8q10) nil) (cd (a 5 (c gi (c gi (c gi (c gi (cl gi nil))))) (c gi (c (gc (slo 13 9)) (cl gi nil)))) fun b4 => (cd Q8q15 fun b5 => (cd Q8q16 fun b6 => (cd Q8q17 fun b7 => (cd Q8q18 fun b8 => (cd Q8q19 fun b9 => (c Q8q12 (cd (c gi (c gi (cl (gc (slo 19 11)) nil))) fun b11 => (c (cl (gs b0.c16 Q8q20) nil) (c (cl (gs b4.2.2.1 Q8q13) nil) (c (cl (gs b5.2.2.1 Q8q13) nil) (c (cl (gs b6.2.2.1 Q8q13) nil) (c (cl (gs b7.2.2.1 Q8q13) nil) (c (cl (gs b8.2.2.1 Q8q13) nil) (c (cl (gs b9.2.2.1 Q8q13) nil) (cl (cl (gs b11.2.2 Q8q22) nil) nil))))))))))))))))))))) : RA _)
def RR_Bg := (open Rq in (res (pl ai (pu Q8q48 nil))) : RE _)
abbrev D_Bg := RR_Bg.B
def R_Bg (d : D_Bg) : T := (fun d => .leaf (RR_Bg.em d)) d
abbrev G_Bg := Q_Bg.B → Option D_Bg
def e_Bg (g : G_Bg) : Ct := (19, FC Q_Bg R_Bg g)
def B_Bg (g_Bm : G_Bm) (g_Cd : G_Cd) (x : Q_Bg.B) : Pg D_Bg := opt (g_Bm x.1) fun d => cnd (!d) (ret 0) (cnd (inR x.1 6) (cnd (x.1 == 5) (cnd (nB x.c8.2.2.1.2.2.1) (opt (g_Cd (x.c8.2.2.1, x.c16.2.2.2.1)) fun d => ret d) no) (cnd (x.1 == 4) (cnd (nB x.c8.2.1.2.2.1) (opt (g_Cd (x.c8.2.1, x.c16.2.2.1)) fun d => ret d) no) (cnd (x.1 == 3) (cnd (nB x.c8.1.2.2.1) (opt (g_Cd (x.c8.1, x.c16.2.1)) fun d => ret d) no) (cnd (x.1 == 2) (cnd (nB x.c4.2.2.2.1.2.2.1) (opt (g_Cd (x.c4.2.2.2.1,
 x.c16.1)) fun d => ret d) no) (cnd (x.1 == 1) (cnd (nB x.c4.2.2.1.2.2.1) (opt (g_Cd (x.c4.2.2.1, x.c8.c4.2.2.2.1)) fun d => ret d) no) (cnd (nB x.c4.2.1.2.2.1) (opt (g_Cd (x.c4.2.1, x.c8.c4.2.2.1)) fun d => ret d) no)))))) no)
def f_Bg (x : Q_Bg.B) : Option D_Bg := (B_Bg f_Bm f_Cd x).val
theorem d_Bg : ∀ g_Bm g_Cd, DenIs Tryz.prog [e_Bm g_Bm, e_Cd g_Cd] ⟨[], [], [], [], none⟩ 2000 19 Q_Bg R_Bg fun b => B_Bg g_Bm g_Cd b := fun _ _ b => by kernel_rfl
theorem s_Bg [Amb] : Snd Tryz.prog (e_Bg f_Bg) := Snd.of (mk0 mixed (.c s_Bm (.c s_Cd (.nil _))) (by kernel_rfl) (d_Bg f_Bm f_Cd)) (by kernel_rfl)

end Go.Proofs.YtphkdkkbbfnkaaaGreat
