/-
  Parts of the proof: Q2 PWS PWT PWU PWV
-/
import Derived.Test.YtldgljclcgaibaaGreatZAE
import Derived.Test.YtldgljclcgaibaaGreatZAF
open Nat renaming beq→z9,ble→wl
open Int renaming toNat→z4,ofNat→wr
open Sum renaming inl→ww,inr→ws
open BitVec renaming ofInt→wd,toNat→v6
set_option linter.unusedVariables false
set_option linter.unusedSimpArgs false
set_option maxRecDepth 100000
set_option maxHeartbeats 4000000
noncomputable section
namespace Go.Proofs.YtldgljclcgaibaaGreat
open Go.Ab Go.Ab.Pg Go.Ab.Rq
def aqY:=qa (pl asv nil)
def Xe:=qe Fv
abbrev aqZ:=Xe.B
abbrev aq0:=Int->Int->Int->Int->Option aqZ
def aq1 (g:aq0):Ct:=(67,FC aqY (lf Xe) (λb=>g b.1 b.2.1 b.b.1 b.b.2))
def mh:=qs (st (dp (us 1 (cu xM (us 1 (c aWj (us 6 (c afI (cl ai (us 24 aPt)))))))) λa=>(pl (c xP (cl (so (cl (gs a.1 aJR) nil)) nil)) nil)))
def aar:=qs (st (pu (us 2 (cu tQ (us 42 nil))) (pu nil nil)))
def avl:=qs (st (pr (us 1 (cu xM (us 1 (c aWj (us 6 (c afI (c ai (cl ab (us 23 aPt))))))))) (pl (c xP (cl aPK nil)) nil)))
abbrev yx:=aar.B⊕((Nat×aIg×Int×Bool)×aIg×NI×NI)
def aiT {ρ:Type}(x:yx)(K:AX->St->Option ρ):Option ρ:=(Sum.elim (λd=>K .ret (aar.em d)) (λd=>K (.ex 0) (avl.em (d.1,d.2.1,d.1.1,d.b)))) x
def Tj (c7:GX)(cU:oy)(d:mh.B):PL mh yx:=let n5:=d.2.2;let n3:=d.1.1;let n2:=d.1.2;let n4:=n2.1.2;let y0:=n3+1;let n1:=(y0,n2.1,wI (n2.2+1));let y1:=decide (n2.2<4);ae y1 (ae (bg n2.2 4) (ae (n2.2==3) (opt (c7 n4.2.2) λak=>ae (decide (ak>1073741840)) (ret (ws (ww ()))) (opt (cU n4.2.2 n4.2.2) λaF=>ae (wl (y0*16) 140737488355328) (ret (ww (n1,d.2.1,λj=>bif z9 j n3 then aF.1 else n5.1 j,λj=>bif z9 j n3 then aF.2 else n5.2 j))) no)) (ae (n2.2==2) (opt (c7 n4.2.1) λak=>ae (decide (ak>1073741840)) (ret (ws (ww ()))) (opt (cU n4.2.1 n4.2.1) λaF=>ae (wl (y0*16) 140737488355328) (ret (ww (n1,d.2.1,λj=>bif z9 j n3 then aF.1 else n5.1 j,λj=>bif z9 j n3 then aF.2 else n5.2 j))) no)) (ae (n2.2==1) (opt (c7 n4.1) λak=>ae (decide (ak>1073741840)) (ret (ws (ww ()))) (opt (cU n4.1 n4.1) λaF=>ae (wl (y0*16) 140737488355328) (ret (ww (n1,d.2.1,λj=>bif z9 j n3 then aF.1 else n5.1 j,λj=>bif z9 j n3 then aF.2 else n5.2 j))) no)) (opt (c7 n2.1.1) λak=>ae (decide (ak>1073741840)) (ret (ws (ww ()))) (opt (cU n2.1.1 n2.1.1) λaF=>ae (wl (y0*16) 140737488355328) (ret (ww (n1,d.2.1,λj=>bif z9 j n3 then aF.1 else n5.1 j,λj=>bif z9 j n3 then aF.2 else n5.2 j))) no))))) no) (ret (ws (ws ((n3,n2.1,n2.2,y1),d.2))))
def Tk:=bI (Tj pV fE) 2000
def acr (yQ:sD)(vC:Eb)(dR:LT mh yx)(x0:Int)(x1:Int)(x2:Int)(x3:Int):Pg aqZ:=ae true (opt (dR ((0,(x0,x1,x2,x3),0),(x0,x1,x2,x3),λx=>0,λx=>0)) λx=>sum x (λd=>ret false) λd=>ae (z9 d.1.1 d.1.1) (opt (yQ d.1.1 d.2.2.1 d.2.2.2 true) λd=>opt (vC d.1.1 d.1.2 0) λd=>let y0:=wI (d.1-1152921504606846976);ae d.2 (ae (decide (y0>= -4294967296)) (ret (decide (y0<=4294967296))) (ret false)) (ret false)) no) no
def z7:=λx0 x1 x2 x3=>(acr ku rM Tk x0 x1 x2 x3).val
abbrev QF:=GX×oy×sD×Eb×(LT mh yx)
def acs (p:QF):KK:=⟨[V8 p.1,yK p.2.1,K8 p.b.1,Qs p.b.2.1],⟨[⟨3,(0::2::rg 4 6 (rg 12 24 [39,40,44])),[(3,[.i .i64,.i .u64])]⟩],[fQ 3 0 mh aiT p.c],[],[],(some ⟨0,(0::1::rg 3 42 []),[]⟩)⟩,0,67⟩
theorem aym (p:QF):LI (acs p) 3 mh aiT (Tj p.1 p.2.1):=λ_ d c K=>by kernel_rfl
theorem aHo (p:QF):D2 (acs p) aqY (lf Xe) λb=>acr p.b.1 p.b.2.1 p.c b.1 b.2.1 b.b.1 b.b.2:=λb=>by kernel_rfl
abbrev acu:QF:=(pV,fE,ku,rM,Tk)
theorem aHp [aA]:SC (aq1 z7):=sc (kS (k:=acs acu) (.c ad4 (.c BU (.c Rl (.c abX (.nil _))))) [3] [] ⟨kL (aym acu),trivial⟩ trivial (aHo acu))
def aq2:=qa (dp (cu aS (c ai (c zU (cl aO6 nil)))) λa=>(c xL (c (cl (gs a.2.1.1 nN) nil) (cl (cl (gs a.b.1 nN) nil) nil))))
def Xf:=qe (res (pr ai (pl (cl aup aDG) nil)))
abbrev aq3:=Xf.B
abbrev dM:=Int->Nat->Nat->Bool->NI->NI->Bool->Bool->Option aq3
def lV (g:dM):Ct:=(73,vA 3 [.i .i64] (vA 2 [.i .i64] (FC aq2 (lf Xf) (λb=>g b.1.1 b.1.2.1.1 b.1.b.1 b.2.1 b.b.1 b.b.2 b.1.2.1.2 b.1.b.2))))
def vR:=qs (st (dp (cu aS (c ai (c zU (c aO6 (us 5 (cu (app 3 2) aVR)))))) λa=>(pl (c bE (c (so (cl (gs a.2.1.1 nN) nil)) (c (so (cl (gs a.b.1.1 nN) nil)) aby))) bK)))
def aCf:=qs (st (pr (cu aS (c ai (c zU (c aO6 (us 5 (cu (app 3 2) (us 15 aJ0))))))) (pl (c bE (c HW (c HW aby))) bK)))
abbrev Jz:=(aU8×Bool×NI×NI×Int×Int)
def aiU {ρ:Type}(x:Jz)(K:AX->St->Option ρ):Option ρ:=(λd=>K (.ex 0) (aCf.em (d.1,d.2.1,(d.1.2.1.1,d.b.1),(d.1.b.1.1,d.b.2.1),d.c))) x
def JA (ay:bW)(cU:oy)(yQ:sD)(d:vR.B):PL vR Jz:=let y0:=z4 d.1.2.2.2.2;let y1:=decide (d.1.2.2.2.2<d.1.2.2.2.1);ae y1 (ae (bg d.1.2.2.2.2 d.1.2.1.1) (opt (ay (d.2.2.1 y0) d.2.1) λak=>ae (bg d.1.2.2.2.2 d.1.2.2.1.1) (opt (ay (d.2.2.2.1 y0) ak.2) λaF=>opt (cU ak.1 aF.1) λbA=>opt (yQ 2 (λj=>bif z9 j 1 then bA.1 else bif z9 j 0 then d.2.2.2.2.1 else d.2.2.2.2.1) (λj=>bif z9 j 1 then bA.2 else bif z9 j 0 then d.2.2.2.2.2 else d.2.2.2.2.2) true) λcD=>ret (ww ((d.1.1,d.1.2.1,d.1.2.2.1,d.1.2.2.2.1,wI (d.1.2.2.2.2+1)),aF.2,d.2.2.1,d.2.2.2.1,cD.1))) no) no) (ret (ws ((d.1.1,d.1.2.1,d.1.2.2.1,d.1.2.2.2.1,d.1.2.2.2.2,y1),d.2)))
def Tl:=bI (JA aP fE ku) 2000
def acv (iV:yu)(dR:LT vR Jz)(x0:Int)(x1:Nat)(x2:Nat)(x3:Bool)(x4:Nat->Int)(x5:Nat->Int)(w0:Bool)(w1:Bool):Pg aq3:=let y0:=if wr x2<wr x1 then wr x2 else wr x1;ae (decide (x0<0)) (opt (iV 0 0 x0 x3) λd=>ret d) (ae (decide (x0>120)) (opt (iV 0 0 x0 x3) λd=>ret d) (ae (z9 x1 x1) (ae (z9 x2 x2) (opt (dR ((x0,(x1,w0),(x2,w1),if 100<y0 then 100 else y0,0),x3,x4,x5,0,0)) λd=>opt (iV d.2.2.2.2.1 d.2.2.2.2.2 d.1.1 d.2.1) λd=>ret d) no) no))
def bx:=λx0 x1 x2 x3 x4 x5 w0 w1=>(acv nE Tl x0 x1 x2 x3 x4 x5 w0 w1).val
abbrev QG:=yu×bW×oy×sD×(LT vR Jz)
def acw (p:QG):KK:=⟨[Jo p.1,dr p.2.1,yK p.b.1,K8 p.b.2.1],⟨[⟨5,(rg 4 5 (rg 10 15 (rg 27 26 []))),[]⟩],[fQ 5 3 vR aiU p.c],[0],[],(some ⟨0,(rg 0 8 (rg 9 44 [])),[]⟩)⟩,3,73⟩
theorem ayn (p:QG):LI (acw p) 5 vR aiU (JA p.2.1 p.b.1 p.b.2.1):=λ_ d c K=>by kernel_rfl
theorem aHq (p:QG):D2 (acw p) aq2 (lf Xf) λb=>acv p.1 p.c b.1.1 b.1.2.1.1 b.1.b.1 b.2.1 b.b.1 b.b.2 b.1.2.1.2 b.1.b.2:=λb=>by kernel_rfl
abbrev acx:QG:=(nE,aP,fE,ku,Tl)
theorem nj [aA]:SC (lV bx):=sc (Sound.nil 3 [.i .i64]<|Sound.nil 2 [.i .i64]<|kS (k:=acw acx) (.c Tb (.c dx (.c BU (.c Rl (.nil _))))) [5] [] ⟨kL (ayn acx),trivial⟩ trivial (aHq acx))
def aAr:=qa (pr (c ai (c ai (c ai (cl ai (cu aS (cu ait nil)))))) (cu aPj (c afH bJ)))
def ag0:=qe aWc
abbrev aAs:=ag0.B
abbrev al6:=Int->Int->Int->Int->Int->Int->Int->Int->Bool->Option aAs
def aAt (g:al6):Ct:=(196,FC aAr (lf ag0) (λb=>g b.1.1 b.1.2.1 b.1.b.1 b.1.b.2 b.2.1.1 b.2.1.2.1 b.2.1.b.1 b.2.1.b.2 b.b))
def al7 (bj:dM)(x0:Int)(x1:Int)(x2:Int)(x3:Int)(x4:Int)(x5:Int)(x6:Int)(x7:Int)(x8:Bool):Pg aAs:=let y0:=wI (x0*x4);opt (bj 30 4 4 x8 (cr x4 [x7,x6,x5,x4]) (cr y0 [wI (x3*x7),wI (x2*x6),wI (x1*x5),y0]) false true) λd=>ret d
def Rt:=λx0 x1 x2 x3 x4 x5 x6 x7 x8=>(al7 bx x0 x1 x2 x3 x4 x5 x6 x7 x8).val
theorem aNU:∀bj,D0 [lV bj] 196 aAr (lf ag0) λb=>al7 bj b.1.1 b.1.2.1 b.1.b.1 b.1.b.2 b.2.1.1 b.2.1.2.1 b.2.1.b.1 b.2.1.b.2 b.b:=λ_ b=>by kernel_rfl
theorem aNV [aA]:SC (aAt Rt):=s0 (.c nj (.nil _)) (aNU bx)
def aAu:=qa (pr (c ai (c ai aJZ)) (cu asp bJ))
def ag1:=qe aPG
abbrev aAv:=ag1.B
abbrev al8:=Int->Int->Int->Int->Bool->Option aAv
def aAw (g:al8):Ct:=(197,FC aAu (lf ag1) (λb=>g b.1.1 b.1.2.1 b.1.b.1 b.1.b.2 b.2))
def al9 (bj:dM)(x0:Int)(x1:Int)(x2:Int)(x3:Int)(x4:Bool):Pg aAv:=opt (bj 30 4 4 x4 (cr x0 [x2,x2,x0,x0]) (cr x1 [x3,x3,x1,x1]) true true) λd=>ret d
def Ru:=λx0 x1 x2 x3 x4=>(al9 bx x0 x1 x2 x3 x4).val
theorem aNW:∀bj,D0 [lV bj] 197 aAu (lf ag1) λb=>al9 bj b.1.1 b.1.2.1 b.1.b.1 b.1.b.2 b.2:=λ_ b=>by kernel_rfl
theorem aNX [aA]:SC (aAw Ru):=s0 (.c nj (.nil _)) (aNW bx)
def aas:=qa (pr (c ai (c ai (cl ai (cu azz nil)))) (cl asr nil))
def Kj:=qe aWg
abbrev aat:=Kj.B
abbrev aau:=Int->Int->Int->NI->Option aat
def aav (g:aau):Ct:=(115,FC aas (lf Kj) (λb=>g b.1.1 b.1.2.1 b.1.b b.2))
def js:=qs (st (pr (us 1 (c ai (c ai (cu azz (us 3 (cl ai (us 9 nil))))))) (pl J3 bK)))
def apf:=qs (st (pr (us 1 (c ai (c ai (cu azz (us 3 (c ai (us 1 aVS))))))) (pl J3 bK)))
abbrev uu:=(aIf×NI)
def Uz {ρ:Type}(x:uu)(K:AX->St->Option ρ):Option ρ:=(λd=>K (.ex 0) (apf.em ((d.1.1,d.1.2.1,d.1.b.1,d.1.b.1,d.1.1,d.1.b.2),d.2))) x
def H6 (d:js.B):PL js uu:=let n1:=d.1.2;let y0:=z4 n1.2;let y1:=decide (n1.2<d.1.1);ae y1 (ae (bg n1.2 24) (ae (true&&wl (0+y0*1+1) 24) (ret (ww ((d.1.1,n1.1,wI (n1.2+1)),λj=>bif z9 j y0 then n1.1 else d.2 j))) no) no) (ret (ws ((d.1.1,n1.1,n1.2,y1),d.2)))
def H7:=bI (H6) 2000
def Mm (dR:LT js uu)(x0:Int)(x1:Int)(x2:Int)(x3:Nat->Int):Pg aat:=opt (dR ((x1,x2,x0),x3)) λd=>ret d.2
def yR:=λx0 x1 x2 x3=>(Mm H7 x0 x1 x2 x3).val
abbrev ER:=(LT js uu)
def Mn (p:ER):KK:=⟨[],⟨[⟨1,(0::4::5::6::rg 8 9 []),[]⟩],[fQ 1 1 js Uz p],[0],[],(some ⟨0,(rg 0 17 []),[]⟩)⟩,1,115⟩
theorem ama (p:ER):LI (Mn p) 1 js Uz (H6):=λ_ d c K=>by kernel_rfl
theorem avm (p:ER):D2 (Mn p) aas (lf Kj) λb=>Mm p b.1.1 b.1.2.1 b.1.b b.2:=λb=>by kernel_rfl
abbrev Mo:ER:=H7
theorem avn [aA]:SC (aav yR):=sc (kS (k:=Mn Mo) (.nil _) [1] [] ⟨kL (ama Mo),trivial⟩ trivial (avm Mo))
def aiV:=qa (pr (cu aS iA) bJ)
def OT:=qe qu
abbrev aiW:=OT.B
abbrev DI:=Int->Bool->Option aiW
def Tn (g:DI):Ct:=(88,FC aiV (lf OT) (λb=>g b.1 b.2))
def DJ (aG:cw)(x0:Int)(x1:Bool):Pg aiW:=opt (aG x0 1 72057594037927936 x1) λd=>ret d
def kc:=λx0 x1=>(DJ aY x0 x1).val
theorem aCg:∀aG,D0 [dZ aG] 88 aiV (lf OT) λb=>DJ aG b.1 b.2:=λ_ b=>by kernel_rfl
theorem aiX [aA]:SC (Tn kc):=s0 (.c eP (.nil _)) (aCg aY)
def ad8:=qa (pr (cu aS (cl Fx nil)) bJ)
def Mp:=qe aPT
abbrev OU:=Mp.B
abbrev vS:=NI->NI->Bool->Option OU
def GY (g:vS):Ct:=(69,FC ad8 (lf Mp) (λb=>g b.1.1 b.1.2 b.2))
def fG:=qs (st (pr (cu aS (us 2 (cu EK (cu ZR (us 2 aPh))))) (pl (c bE axw) bK)))
def Xg:=qs (st (pr (cu aS (us 2 (cu EK (cu ZR (us 2 aVA))))) (pl (c bE axw) bK)))
abbrev nT:=Xg.B
def Xh {ρ:Type}:=@ef nT ((.ex 0)) Xg ρ
def wq (To:DI)(d:fG.B):PL fG nT:=let y0:=z4 d.1;let y1:=bg d.1 24;let y2:=decide (d.1<24);ae y2 (ae y1 (opt (To (d.2.2.1.2 y0) d.2.1) λak=>ae y1 (ae (true&&wl (276+y0*1+1) 300) (ret (ww (wI (d.1+1),ak.2,(d.2.2.1.1,λj=>bif z9 j y0 then ak.1 else d.2.2.1.2 j),d.2.2.2))) no) no) no) (ret (ws ((d.1,y2),d.2)))
def wu:=bI (wq kc) 2000
def fH:=qs (st (pr (cu aS (us 2 (cu EK (cu ZR (us 15 aJL))))) (pl (c bE axw) bK)))
def Xi:=qs (st (pr (cu aS (us 2 (cu EK (cu ZR (us 15 aJS))))) (pl (c bE axw) bK)))
abbrev nU:=Xi.B
def Xj {ρ:Type}:=@ef nU ((.ex 2)) Xi ρ
def wx (aG:cw)(d:fH.B):PL fH nU:=let y0:=z4 d.1;let y1:=bg d.1 276;let y2:=decide (d.1<276);let y3:=0+y0*1+1;let y4:=wl y3 276;ae y2 (ae y1 (ae y4 (opt (aG (d.2.2.1.1 y0) (-1152921504606846976) 1152921504606846976 d.2.1) λak=>ae y1 (ae (y4&&wl y3 300) (ret (ww (wI (d.1+1),ak.2,(λj=>bif z9 j y0 then ak.1 else d.2.2.1.1 j,d.2.2.1.2),d.2.2.2))) no) no) no) no) (ret (ws ((d.1,y2),d.2)))
def wy:=bI (wx aY) 2000
def Bl (dR:LT fG nT)(pD:LT fH nU)(x0:Nat->Int)(x1:Nat->Int)(x2:Bool):Pg OU:=opt (dR (0,x2,(x0,x1),λx=>0,λx=>0)) λd=>opt (pD (0,d.2)) λd=>ret (d.2.2.1,d.2.1)
def fS:=λx0 x1 x2=>(Bl wu wy x0 x1 x2).val
abbrev Bm:=DI×cw×(LT fG nT)×(LT fH nU)
def GZ (p:Bm):KK:=⟨[Tn p.1,dZ p.2.1],⟨[⟨2,(1::2::5::6::rg 8 26 []),[]⟩,⟨7,(1::2::rg 5 15 (rg 21 13 [])),[]⟩],[fQ 2 1 fG Xh p.b.1,fQ 7 1 fH Xj p.b.2],[0],[],(some ⟨0,(rg 0 4 (rg 5 29 [])),[]⟩)⟩,1,69⟩
theorem apg (p:Bm):LI (GZ p) 2 fG Xh (wq p.1):=λ_ d c K=>by kernel_rfl
theorem aph (p:Bm):LI (GZ p) 7 fH Xj (wx p.2.1):=λ_ d c K=>by kernel_rfl
theorem ayo (p:Bm):D2 (GZ p) ad8 (lf Mp) λb=>Bl p.b.1 p.b.2 b.1.1 b.1.2 b.2:=λb=>by kernel_rfl
abbrev G0:Bm:=(kc,aY,wu,wy)
theorem OV [aA]:SC (GY fS):=sc (kS (k:=GZ G0) (.c aiX (.c eP (.nil _))) [2,7] [] ⟨kL (apg G0),⟨kL (aph G0),trivial⟩⟩ trivial (ayo G0))
def aFz:=qa (dp (cu aS axn) λa=>(c xL (cl (cl (gs a.1 nN) nil) nil)))
def amb:=qe aWB
abbrev aFA:=amb.B
abbrev atg:=Nat->Bool->NI->Bool->Option aFA
def aFB (g:atg):Ct:=(50,vA 1 [.i .i64] (FC aFz (lf amb) (λb=>g b.1.1 b.2.1 b.b b.1.2)))
def rR:=qs (st (dp (cu aS (c zU (us 2 (cu ZR (cu aIm (us 1 aJN)))))) λa=>(pl (c bE (c (so (cl (gs a.1.1 nN) nil)) axw)) bK)))
def aK5:=qs (st (pr (cu aS (c zU (us 2 (cu ZR (cu aIm (us 1 aPn)))))) (pl (c bE (c HW axw)) bK)))
abbrev G3:=(((Nat×Bool)×Int×Bool)×Bool×NI×(NI×NI)×NI×NI)
def avo {ρ:Type}(x:G3)(K:AX->St->Option ρ):Option ρ:=(λd=>K (.ex 0) (aK5.em (d.1,d.2.1,(d.1.1.1,d.b.1),d.b.2))) x
def Vm (To:DI)(d:rR.B):PL rR G3:=let n3:=d.1.1;let n2:=d.1.2;let n1:=d.2.2;let y0:=z4 n2;let y1:=bg n2 24;let y2:=decide (n2<24);let y3:=true&&wl (276+y0*1+1) 300;ae y2 (ae y1 (ae y3 (ae (decide (n2<wr n3.1)) (ae (bg n2 n3.1) (opt (To (n1.1 y0) d.2.1) λak=>ae y1 (ae y3 (ret (ww ((n3,wI (n2+1)),ak.2,n1.1,n1.2.1,n1.2.2.1,λj=>let y0:=z9 j y0;bif y0 then ak.1 else bif y0 then 1 else n1.2.2.2 j))) no) no) no) (ret (ww ((n3,wI (n2+1)),d.2.1,n1.1,n1.2.1,n1.2.2.1,λj=>bif z9 j y0 then 1 else n1.2.2.2 j)))) no) no) (ret (ws ((n3,n2,y2),d.2)))
def Vn:=bI (Vm kc) 2000
def ag2 (dR:LT rR G3)(x0:Nat)(x1:Bool)(x2:Nat->Int)(w0:Bool):Pg aFA:=ae (z9 x0 x0) (opt (dR (((x0,w0),0),x1,x2,(λx=>0,λx=>0),λx=>0,λx=>0)) λd=>ret (d.2.2.2.2,d.2.1)) no
def Kk:=λx0 x1 x2 w0=>(ag2 Vn x0 x1 x2 w0).val
abbrev ag3:=DI×(LT rR G3)
def ath (p:ag3):KK:=⟨[Tn p.1],⟨[⟨3,(2::3::6::rg 8 20 []),[]⟩],[fQ 3 2 rR avo p.2],[0],[],(some ⟨0,(rg 0 4 (rg 5 23 [])),[]⟩)⟩,2,50⟩
theorem aHr (p:ag3):LI (ath p) 3 rR avo (Vm p.1):=λ_ d c K=>by kernel_rfl
theorem aQY (p:ag3):D2 (ath p) aFz (lf amb) λb=>ag2 p.2 b.1.1 b.2.1 b.b b.1.2:=λb=>by kernel_rfl
abbrev ati:ag3:=(kc,Vn)
theorem aQZ [aA]:SC (aFB Kk):=sc (Sound.nil 1 [.i .i64]<|kS (k:=ath ati) (.c aiX (.nil _)) [3] [] ⟨kL (aHr ati),trivial⟩ trivial (aQY ati))
def avp:=qa (pl A4 nil)
def acy:=qe axs
abbrev Vo:=acy.B
abbrev ag4:=Int->Int->Option Vo
def ag5 (g:ag4):Ct:=(125,FC avp (lf acy) (λb=>g b.1 b.2))
def yS (x0:Int)(x1:Int):Pg Vo:=let y0:=wI (wI (Int.tdiv (wI (x1*wI (x1-1))) 2)+x0);ae (decide (x0>=0)) (ae (decide (x0<x1)) (ret (y0,decide (x1<24))) (ret (y0,false))) (ret (y0,false))
def fx:=λx0 x1=>(yS x0 x1).val
theorem aK6:D0 [] 125 avp (lf acy) λb=>yS b.1 b.2:=λb=>by kernel_rfl
theorem avq [aA]:SC (ag5 fx):=s0 (.nil _) aK6
def aNY:=qa (pl aKb nil)
def ayp:=qe HT
abbrev aNZ:=ayp.B
abbrev Mq:=NI->NI->Int->Int->Option aNZ
def amc (g:Mq):Ct:=(71,FC aNY (lf ayp) (λb=>g b.1.1 b.1.2 b.2.1 b.b))
def amd (pE:ag4)(x0:Nat->Int)(x1:Nat->Int)(x2:Int)(x3:Int):Pg aNZ:=ae (x2==x3) (ae (decide (x2>=0)) (ae (decide (x2<24)) (ret 1073741824) (opt (pE x2 x3) λd=>ae (!d.2) (ret 0) (ae (bg d.1 276) (ae (wl (0+z4 d.1*1+1) 276) (ret (x0 (z4 d.1))) no) no))) (opt (pE x2 x3) λd=>ae (!d.2) (ret 0) (ae (bg d.1 276) (ae (wl (0+z4 d.1*1+1) 276) (ret (x0 (z4 d.1))) no) no))) (opt (pE x2 x3) λd=>ae (!d.2) (ret 0) (ae (bg d.1 276) (ae (wl (0+z4 d.1*1+1) 276) (ret (x0 (z4 d.1))) no) no))
def wA:=λx0 x1 x2 x3=>(amd fx x0 x1 x2 x3).val
theorem aYs:∀pE,D0 [ag5 pE] 71 aNY (lf ayp) λb=>amd pE b.1.1 b.1.2 b.2.1 b.b:=λ_ b=>by kernel_rfl
theorem avr [aA]:SC (amc wA):=s0 (.c avq (.nil _)) (aYs fx)
def aFC:=qa (pl (c Fx Fw) nil)
def ame:=qe (res (pl Fx (pu nil nil)))
abbrev aFD:=ame.B
abbrev Xk:=NI->NI->Int->Int->Int->Option aFD
def atj (g:Xk):Ct:=(217,FC aFC (lf ame) (λb=>g b.1.1 b.1.2 b.2.1 b.b.1 b.b.2))
def Xl (pE:ag4)(x0:Nat->Int)(x1:Nat->Int)(x2:Int)(x3:Int)(x4:Int):Pg aFD:=opt (pE x2 x3) λd=>let y0:=0+z4 d.1*1+1;ae d.2 (ae (bg d.1 276) (ae (wl y0 276&&wl y0 300) (ret (λj=>bif z9 j (z4 d.1) then x4 else x0 j,x1)) no) no) (ret (x0,x1))
def ua:=λx0 x1 x2 x3 x4=>(Xl fx x0 x1 x2 x3 x4).val
theorem aQ0:∀pE,D0 [ag5 pE] 217 aFC (lf ame) λb=>Xl pE b.1.1 b.1.2 b.2.1 b.b.1 b.b.2:=λ_ b=>by kernel_rfl
theorem aFE [aA]:SC (atj ua):=s0 (.c avq (.nil _)) (aQ0 fx)
def aiY:=qa (pu nil nil)
def OW:=qe (res (pl (aa aDI) (pu nil nil)))
abbrev DK:=OW.B
abbrev DL:=Option DK
def Tp (g:DL):Ct:=(213,FC aiY (lf OW) (λ_=>g))
def ib:=qs (st (pr (cu (app 0 576) (cu Ra (us 1 aPk))) (pl (c mG (cl mG nil)) nil)))
def aaw:=qs (st (pr (cu (app 0 576) (cu Ra (us 1 aJU))) (pl (c mG (cl mG nil)) nil)))
abbrev tC:=aaw.B
def aax {ρ:Type}:=@ef tC ((.ex 0)) aaw ρ
def ES (d:ib.B):PL ib tC:=let y0:=z4 d.1;let y1:=bg d.1 24;let y2:=decide (d.1<24);let y3:=y0*24+y0;ae y2 (ae y1 (ae y1 (ae (true&&wl (0+y3*1+1) 576) (ret (ww (wI (d.1+1),d.2.1,λj=>bif z9 j y3 then 1073741824 else d.2.2 j))) no) no) no) (ret (ws ((d.1,y2),d.2)))
def ET:=bI (ES) 2000
def JB (dR:LT ib tC):Pg DK:=opt (dR (0,λx=>0,λx=>0)) λd=>ret d.2.2
def nF:Option DK:=(JB ET).val
abbrev JC:=(LT ib tC)
def Ts (p:JC):KK:=⟨[],⟨[⟨3,(2::rg 4 8 []),[]⟩],[fQ 3 0 ib aax p],[],[],(some ⟨0,(rg 1 11 []),[]⟩)⟩,0,213⟩
theorem atk (p:JC):LI (Ts p) 3 ib aax (ES):=λ_ d c K=>by kernel_rfl
theorem aCh (p:JC):D2 (Ts p) aiY (lf OW) λb=>JB p:=λb=>by kernel_rfl
abbrev Tt:JC:=ET
theorem aiZ [aA]:SC (Tp nF):=sc (kS (k:=Ts Tt) (.nil _) [3] [] ⟨kL (atk Tt),trivial⟩ trivial (aCh Tt))
def avs:=qa (pr (cu aS (c (aa abx) HV)) bJ)
def acz:=qe axt
abbrev avt:=acz.B
abbrev yT:=NI->Int->Int->Int->Bool->Option avt
def G4 (g:yT):Ct:=(124,FC avs (lf acz) (λb=>g b.1.1 b.1.2.1 b.1.b.1 b.1.b.2 b.2))
def qg:=qs (st (pr (cu aS (us 3 (cu aIn (cu ZQ (cu akI (cu aRX (us 1 aPg))))))) (pl (c bE (c (so abx) (c zV akV))) bK)))
def amf:=qs (st (pr (cu aS (us 3 (cu aIn (cu ZQ (cu akI (cu aRX (us 1 (c ai aPe)))))))) (pl (c bE (c (so abx) (c zV akV))) bK)))
abbrev FO:=amf.B
def amg {ρ:Type}:=@ef FO ((.ex 0)) amf ρ
def Xm (bj:dM)(d:qg.B):PL qg FO:=let n2:=d.2.2.1;let n1:=d.2.2.2;let y0:=wI (3*d.1);let y1:=wI (d.1+1);let y2:=z4 y0;let y3:=wI (y0+3);let y4:=z4 y3;let y5:=decide (d.1<3);let y6:=y4-y2;ae y5 (ae (HF y3 9) (ae (HF y0 y4) (ae (z9 y6 y6) (opt (bj 30 y6 3 d.2.1 (λj=>n2 (y2+j)) (cr n1.1.1 [n1.1.2.2,n1.1.2.1,n1.1.1]) false false) λak=>ae (bg d.1 3) (ae (d.1==2) (ret (ww (y1,ak.2,n2,n1.1,n1.2.1,n1.2.2.1,ak.1))) (ae (d.1==1) (ret (ww (y1,ak.2,n2,n1.1,n1.2.1,ak.1,n1.2.2.2))) (ret (ww (y1,ak.2,n2,n1.1,ak.1,n1.2.2))))) no) no) no) no) (ret (ws ((d.1,y5),d.2)))
def Xn:=bI (Xm bx) 2000
def ag6 (dR:LT qg FO)(x0:Nat->Int)(x1:Int)(x2:Int)(x3:Int)(x4:Bool):Pg avt:=opt (dR (0,x4,x0,(x1,x2,x3),0,0,0)) λd=>ret (d.2.2.2.2,d.2.1)
def mi:=λx0 x1 x2 x3 x4=>(ag6 Xn x0 x1 x2 x3 x4).val
abbrev Vp:=dM×(LT qg FO)
def ag7 (p:Vp):KK:=⟨[lV p.1],⟨[⟨3,(1::2::3::8::rg 10 15 []),[]⟩],[fQ 3 1 qg amg p.2],[0],[],(some ⟨0,(rg 0 6 (rg 7 18 [])),[]⟩)⟩,1,124⟩
theorem aCi (p:Vp):LI (ag7 p) 3 qg amg (Xm p.1):=λ_ d c K=>by kernel_rfl
theorem aK7 (p:Vp):D2 (ag7 p) avs (lf acz) λb=>ag6 p.2 b.1.1 b.1.2.1 b.1.b.1 b.1.b.2 b.2:=λb=>by kernel_rfl
abbrev ag8:Vp:=(bx,Xn)
theorem Mr [aA]:SC (G4 mi):=sc (kS (k:=ag7 ag8) (.c nj (.nil _)) [3] [] ⟨kL (aCi ag8),trivial⟩ trivial (aK7 ag8))
def aAx:=qa (pr (cu aS (c (aa abx) HV)) bJ)
def ag9:=qe axt
abbrev aAy:=ag9.B
abbrev yU:=NI->Int->Int->Int->Bool->Option aAy
def Rv (g:yU):Ct:=(121,FC aAx (lf ag9) (λb=>g b.1.1 b.1.2.1 b.1.b.1 b.1.b.2 b.2))
def sH:=qs (st (pr (cu aS (us 3 (cu aIn (cu ZQ (cu akI (cu aRX (us 1 aVj))))))) (pl (c bE (c (so abx) (c zV akV))) bK)))
def aq4:=qs (st (pr (cu aS (us 3 (cu aIn (cu ZQ (cu akI (cu aRX (us 1 aVB))))))) (pl (c bE (c (so abx) (c zV akV))) bK)))
abbrev IS:=aq4.B
def aq5 {ρ:Type}:=@ef IS ((.ex 0)) aq4 ρ
def acA (bj:dM)(d:sH.B):PL sH IS:=let n1:=d.2.2;let n3:=n1.2.2;let n2:=n1.2.1;let y0:=wI (6+d.1);let y1:=wI (d.1+1);let y2:=wI (3+d.1);let y3:=decide (d.1<3);ae y3 (ae (bg d.1 9) (ae (bg y2 9) (ae (bg y0 9) (opt (bj 30 3 3 d.2.1 (cr (n1.1 (z4 d.1)) [n1.1 (z4 y0),n1.1 (z4 y2),n1.1 (z4 d.1)]) (cr n2.1 [n2.2.2,n2.2.1,n2.1]) true false) λak=>ae (bg d.1 3) (ae (d.1==2) (ret (ww (y1,ak.2,n1.1,n2,n3.1,n3.2.1,ak.1))) (ae (d.1==1) (ret (ww (y1,ak.2,n1.1,n2,n3.1,ak.1,n3.2.2))) (ret (ww (y1,ak.2,n1.1,n2,ak.1,n3.2))))) no) no) no) no) (ret (ws ((d.1,y3),d.2)))
def acB:=bI (acA bx) 2000
def amh (dR:LT sH IS)(x0:Nat->Int)(x1:Int)(x2:Int)(x3:Int)(x4:Bool):Pg aAy:=opt (dR (0,x4,x0,(x1,x2,x3),0,0,0)) λd=>ret (d.2.2.2.2,d.2.1)
def sI:=λx0 x1 x2 x3 x4=>(amh acB x0 x1 x2 x3 x4).val
abbrev aay:=dM×(LT sH IS)
def ami (p:aay):KK:=⟨[lV p.1],⟨[⟨3,(1::2::3::8::rg 10 21 []),[]⟩],[fQ 3 1 sH aq5 p.2],[0],[],(some ⟨0,(rg 0 6 (rg 7 24 [])),[]⟩)⟩,1,121⟩
theorem aFF (p:aay):LI (ami p) 3 sH aq5 (acA p.1):=λ_ d c K=>by kernel_rfl
theorem aN0 (p:aay):D2 (ami p) aAx (lf ag9) λb=>amh p.2 b.1.1 b.1.2.1 b.1.b.1 b.1.b.2 b.2:=λb=>by kernel_rfl
abbrev amj:aay:=(bx,acB)
theorem aaz [aA]:SC (Rv sI):=sc (kS (k:=ami amj) (.c nj (.nil _)) [3] [] ⟨kL (aFF amj),trivial⟩ trivial (aN0 amj))
def avu:=qa (pl (cl (aa A5) nil) nil)
def acC:=qe Fv
abbrev avv:=acC.B
abbrev avw:=Int->Int->Bool->Bool->Option avv
def avx (g:avw):Ct:=(176,FC avu (lf acC) (λb=>g b.1 b.2.1 b.b.1 b.b.2))
def Vq (x0:Int)(x1:Int)(x2:Bool)(x3:Bool):Pg avv:=let y0:=x0==0;let y1:=x0==2;ae y0 (ae y0 (ae (x1==0) (ae (!x2) (ret !x3) (ret false)) (ret false)) (ae y1 (ae y1 (ae (decide (x1>=1)) (ae (decide (x1<=3)) (ae x2 (ret true) (ret y1)) (ret false)) (ret false)) (ret false)) (ae (x0==3) (ae (decide (x1>=1)) (ae (decide (x1<=3)) (ae x2 (ret true) (ret y1)) (ret false)) (ret false)) (ret false)))) (ae (x0==1) (ae (x1==0) (ae (!x2) (ret !x3) (ret false)) (ret false)) (ae y1 (ae y1 (ae (decide (x1>=1)) (ae (decide (x1<=3)) (ae x2 (ret true) (ret y1)) (ret false)) (ret false)) (ret false)) (ae (x0==3) (ae (decide (x1>=1)) (ae (decide (x1<=3)) (ae x2 (ret true) (ret y1)) (ret false)) (ret false)) (ret false))))
def Cr:=λx0 x1 x2 x3=>(Vq x0 x1 x2 x3).val
theorem aK8:D0 [] 176 avu (lf acC) λb=>Vq b.1 b.2.1 b.b.1 b.b.2:=λb=>by kernel_rfl
theorem aK9 [aA]:SC (avx Cr):=s0 (.nil _) aK8
def avy:=qa (pl (c ai aPZ) nil)
def acD:=qe HT
abbrev avz:=acD.B
abbrev avA:=Int->Bool->Bool->Bool->Bool->Bool->Bool->Bool->Bool->Int->Int->Int->Option avz
def avB (g:avA):Ct:=(177,FC avy (lf acD) (λb=>g b.1 b.2.1 b.b.1 b.b.2.1.1 b.b.2.1.2.1 b.b.2.1.b.1 b.b.2.1.b.2.1 b.b.2.1.c.1 b.b.2.1.c.2 b.c.1 b.c.2.1 b.c.b))
def Vr (x0:Int)(x1:Bool)(x2:Bool)(x3:Bool)(x4:Bool)(x5:Bool)(x6:Bool)(x7:Bool)(x8:Bool)(x9:Int)(fU:Int)(fV:Int):Pg avz:=let y0:=x0==0;let y1:=x0==1;ae x3 (ae y0 (ae x1 (ret 1) (ae y0 (ret x0) (ae y1 (ae (!x2) (ret x0) (ret 3)) (ret 3)))) (ae y0 (ret x0) (ae y1 (ae (!x2) (ret x0) (ret 3)) (ret 3)))) (ae y0 (ae x1 (ret 1) (ae y0 (ret x0) (ae y1 (ae (!x2) (ret x0) (ae x8 (ret 3) (ret 2))) (ae x8 (ret 3) (ret 2))))) (ae y0 (ret x0) (ae y1 (ae (!x2) (ret x0) (ae x8 (ret 3) (ret 2))) (ae x8 (ret 3) (ret 2)))))
def Cs:=λx0 x1 x2 x3 x4 x5 x6 x7 x8 x9 fU fV=>(Vr x0 x1 x2 x3 x4 x5 x6 x7 x8 x9 fU fV).val
theorem aLa:D0 [] 177 avy (lf acD) λb=>Vr b.1 b.2.1 b.b.1 b.b.2.1.1 b.b.2.1.2.1 b.b.2.1.b.1 b.b.2.1.b.2.1 b.b.2.1.c.1 b.b.2.1.c.2 b.c.1 b.c.2.1 b.c.b:=λb=>by kernel_rfl
theorem aLb [aA]:SC (avB Cs):=s0 (.nil _) aLa
def amk:=qa (pl iA nil)
def Tu:=qe HT
abbrev aml:=Tu.B
abbrev Xo:=Int->Option aml
def amm (g:Xo):Ct:=(239,FC amk (lf Tu) (λb=>g b))
def FP (x0:Int):Pg aml:=ae (x0==1) (ret 1) (ae (x0==2) (ret 0) (ret 2))
def Bn:=λx0=>(FP x0).val
theorem aFG:D0 [] 239 amk (lf Tu) λb=>FP b:=λb=>by kernel_rfl
theorem aFH [aA]:SC (amm Bn):=s0 (.nil _) aFG
def amn:=qa (pl (c ai aPZ) nil)
def Tv:=qe axs
abbrev amo:=Tv.B
abbrev amp:=Int->Bool->Bool->Bool->Bool->Bool->Bool->Bool->Bool->Int->Int->Int->Option amo
def amq (g:amp):Ct:=(178,FC amn (lf Tv) (λb=>g b.1 b.2.1 b.b.1 b.b.2.1.1 b.b.2.1.2.1 b.b.2.1.b.1 b.b.2.1.b.2.1 b.b.2.1.c.1 b.b.2.1.c.2 b.c.1 b.c.2.1 b.c.b))
def kK:=qs (st (pr (c ai (us 1 (xs 1 (cu (app 0 11) (us 2 (xs 1 (us 3 (cu aWs (cu (ac aPl) aJN))))))))) (pl (c aPS (cl (so (cl gi (cu (gc axm) (cu aPo aPu)))) nil)) nil)))
def Xp:=qs (st (pl (us 4 (cl ai (cu J1 aVa))) (pu nil nil)))
def Xq:=qs (st (pr (c ai (us 1 (xs 1 (cu (app 0 11) (us 2 (xs 1 (us 3 (cu aWs (cu (ac aPl) aPn))))))))) (pl (c aPS (cl (so (cl gi (cu (gc axm) (cu aPo aPu)))) nil)) nil)))
abbrev vT:=Xp.B⊕Xq.B
def ad9 {ρ:Type}(x:vT)(K:AX->St->Option ρ):Option ρ:=(Sum.elim (λd=>K .ret (Xp.em d)) (λd=>K (.ex 0) (Xq.em d))) x
def G5 (Ms:Xo)(d:kK.B):PL kK vT:=let n6:=d.2.2;let n5:=d.2.1.2.2;let n3:=d.1.1;let n2:=d.1.2;let n1:=n5.2;let n4:=n1.2.2;let n7:=n4.2.2.1;let y0:=decide (n2<4);ae y0 (ae (bg n2 4) (ae (n2==3) (opt (Ms 3) λak=>ae (bg ak 6) (ae (ak==5) (ae n7 (ret (ws (ww 3))) (ret (ww ((n3,wI (n2+1)),d.2)))) (ae (ak==4) (ae n4.2.1 (ret (ws (ww 3))) (ret (ww ((n3,wI (n2+1)),d.2)))) (ae (ak==3) (ae n4.1 (ret (ws (ww 3))) (ret (ww ((n3,wI (n2+1)),d.2)))) (ae (ak==2) (ae n1.2.1 (ret (ws (ww 3))) (ret (ww ((n3,wI (n2+1)),d.2)))) (ae (ak==1) (ae n1.1 (ret (ws (ww 3))) (ret (ww ((n3,wI (n2+1)),d.2)))) (ae n5.1 (ret (ws (ww 3))) (ret (ww ((n3,wI (n2+1)),d.2))))))))) no) (ae (n2==2) (opt (Ms 2) λak=>ae (bg ak 6) (ae (ak==5) (ae n7 (ret (ws (ww 2))) (ret (ww ((n3,wI (n2+1)),d.2)))) (ae (ak==4) (ae n4.2.1 (ret (ws (ww 2))) (ret (ww ((n3,wI (n2+1)),d.2)))) (ae (ak==3) (ae n4.1 (ret (ws (ww 2))) (ret (ww ((n3,wI (n2+1)),d.2)))) (ae (ak==2) (ae n1.2.1 (ret (ws (ww 2))) (ret (ww ((n3,wI (n2+1)),d.2)))) (ae (ak==1) (ae n1.1 (ret (ws (ww 2))) (ret (ww ((n3,wI (n2+1)),d.2)))) (ae n5.1 (ret (ws (ww 2))) (ret (ww ((n3,wI (n2+1)),d.2))))))))) no) (ae (n2==1) (opt (Ms 1) λak=>ae (bg ak 6) (ae (ak==5) (ae n7 (ret (ws (ww 1))) (ret (ww ((n3,wI (n2+1)),d.2)))) (ae (ak==4) (ae n4.2.1 (ret (ws (ww 1))) (ret (ww ((n3,wI (n2+1)),d.2)))) (ae (ak==3) (ae n4.1 (ret (ws (ww 1))) (ret (ww ((n3,wI (n2+1)),d.2)))) (ae (ak==2) (ae n1.2.1 (ret (ws (ww 1))) (ret (ww ((n3,wI (n2+1)),d.2)))) (ae (ak==1) (ae n1.1 (ret (ws (ww 1))) (ret (ww ((n3,wI (n2+1)),d.2)))) (ae n5.1 (ret (ws (ww 1))) (ret (ww ((n3,wI (n2+1)),d.2))))))))) no) (ae (decide (n6>=1)) (ae (decide (n6<=3)) (opt (Ms n6) λak=>ae (bg ak 6) (ae (ak==5) (ae n7 (ret (ws (ww n6))) (ret (ww ((n3,wI (n2+1)),d.2)))) (ae (ak==4) (ae n4.2.1 (ret (ws (ww n6))) (ret (ww ((n3,wI (n2+1)),d.2)))) (ae (ak==3) (ae n4.1 (ret (ws (ww n6))) (ret (ww ((n3,wI (n2+1)),d.2)))) (ae (ak==2) (ae n1.2.1 (ret (ws (ww n6))) (ret (ww ((n3,wI (n2+1)),d.2)))) (ae (ak==1) (ae n1.1 (ret (ws (ww n6))) (ret (ww ((n3,wI (n2+1)),d.2)))) (ae n5.1 (ret (ws (ww n6))) (ret (ww ((n3,wI (n2+1)),d.2))))))))) no) (ret (ww ((n3,wI (n2+1)),d.2)))) (ret (ww ((n3,wI (n2+1)),d.2))))))) no) (ret (ws (ws ((n3,n2,y0),d.2))))
def G6:=bI (G5 Bn) 2000
def Mt (dR:LT kK vT)(x0:Int)(x1:Bool)(x2:Bool)(x3:Bool)(x4:Bool)(x5:Bool)(x6:Bool)(x7:Bool)(x8:Bool)(x9:Int)(fU:Int)(fV:Int):Pg amo:=opt (dR ((x0,0),(x1,x2,x3,x4,x5,x6,x7,x8,x9,fU,fV),fV)) λx=>sum x (λd=>ret (d,true)) λd=>ret (if 1>d.1.1 then 1 else d.1.1,false)
def wB:=λx0 x1 x2 x3 x4 x5 x6 x7 x8 x9 fU fV=>(Mt G6 x0 x1 x2 x3 x4 x5 x6 x7 x8 x9 fU fV).val
abbrev Mu:=Xo×(LT kK vT)
def Xr (p:Mu):KK:=⟨[amm p.1],⟨[⟨2,(1::4::5::7::8::9::rg 13 6 (21::22::rg 28 5 (19::20::rg 23 5 []))),[]⟩],[fQ 2 0 kK ad9 p.2],[],[],(some ⟨0,(rg 0 4 (rg 6 27 [])),[]⟩)⟩,0,178⟩
theorem avC (p:Mu):LI (Xr p) 2 kK ad9 (G5 p.1):=λ_ d c K=>by kernel_rfl
theorem aFI (p:Mu):D2 (Xr p) amn (lf Tv) λb=>Mt p.2 b.1 b.2.1 b.b.1 b.b.2.1.1 b.b.2.1.2.1 b.b.2.1.b.1 b.b.2.1.b.2.1 b.b.2.1.c.1 b.b.2.1.c.2 b.c.1 b.c.2.1 b.c.b:=λb=>by kernel_rfl
abbrev Xs:Mu:=(Bn,G6)
theorem aFJ [aA]:SC (amq wB):=sc (kS (k:=Xr Xs) (.c aFH (.nil _)) [2] [] ⟨kL (avC Xs),trivial⟩ trivial (aFI Xs))
def G7:=qa (pl (c (aa A5) aPZ) nil)
def aHs:=qe (res (pl (rH (c (ra A5) (cl (ra (c gi (c gi (c gb aJV)))) nil))) (pu nil nil)))
abbrev aha:=(qF×Int×Int)
def avD:aha->T:=λd=>lf aHs (d.1,d.1.1,d.1.2.1,d.1.b.1,d.1.b.2,d.2)
abbrev ahb:=G7.B->Option aha
def avE (g:ahb):Ct:=(111,FC G7 avD g)
def Vs (Vt:avw)(Mv:avA)(FQ:amp)(x:G7.B):Pg aha:=let n8:=x.2.2.1;let n7:=x.1.1;let n4:=x.1.2.1;let n1:=x.2.2.2;let n9:=n1.1.2.1;let n6:=n1.2.1;let n3:=n1.2.2;let n2:=n1.1.2.2;let n5:=n2.2.2;let y0:=decide (n6>=0);opt (Vt n7 n4 x.1.2.2.1 x.1.2.2.2) λd=>ae (!d) (opt (Mv 0 x.2.1 n8 n1.1.1 n9 n2.1 n2.2.1 n5.1 n5.2 n6 n3.1 n3.2) λd=>ae (decide (d>=2)) (opt (FQ 0 x.2.1 n8 n1.1.1 n9 n2.1 n2.2.1 n5.1 n5.2 n6 n3.1 n3.2) λak=>ae (d==3) (ret ((d,ak.1,true,!ak.2),0,0)) (ae y0 (ret ((d,ak.1,decide (n6<=n3.1),!ak.2),0,0)) (ret ((d,ak.1,false,!ak.2),0,0)))) (ret ((d,0,false,false),0,0))) (opt (Mv n7 x.2.1 n8 n1.1.1 n9 n2.1 n2.2.1 n5.1 n5.2 n6 n3.1 n3.2) λd=>ae (decide (d>=2)) (opt (FQ n4 x.2.1 n8 n1.1.1 n9 n2.1 n2.2.1 n5.1 n5.2 n6 n3.1 n3.2) λak=>ae (d==3) (ret ((d,ak.1,true,!ak.2),n7,n4)) (ae y0 (ret ((d,ak.1,decide (n6<=n3.1),!ak.2),n7,n4)) (ret ((d,ak.1,false,!ak.2),n7,n4)))) (ret ((d,0,false,false),n7,n4)))
def Cu:=λx=>(Vs Cr Cs wB x).val
theorem aLc:∀Vt Mv FQ,D0 [avx Vt,avB Mv,amq FQ] 111 G7 avD λb=>Vs Vt Mv FQ b:=λ_ _ _ b=>by kernel_rfl
theorem aLd [aA]:SC (avE Cu):=s0 (.c aK9 (.c aLb (.c aFJ (.nil _)))) (aLc Cr Cs wB)
def aFK:=qa (dp (cu aS aJQ) λa=>(c xL (cl (cl (gs a.1 ass) nil) nil)))
def amr:=qe (res (pr afE (pl Om nil)))
abbrev aFL:=amr.B
abbrev Cv:=Nat->Bool->NI->NI->NI->Bool->Option aFL
def Kl (g:Cv):Ct:=(153,vA 1 [.i .i64,.i .i64,.i .i64] (FC aFK (lf amr) (λb=>g b.1.1 b.2.1 b.b.1 b.b.2.1 b.c b.1.2)))
def vF:=qs (st (dp (cu aS (c aso (us 2 (cu ZQ (cu akI (c ai (c aWk (us 2 (c ai (us 2 (c aso (c ai (cl ai (us 17 nil)))))))))))))) λa=>(pl (c bE (c (so (cl (gs a.1.1 ass) nil)) (cu (so asx) (c zV (cl (so (cl (gs a.b.1 nN) nil)) nil))))) bK)))
def aLe:=qs (st (pr (cu aS (c aso (us 2 (cu ZQ (cu akI (c ai (c aWk (us 2 (c ai (us 2 (c aso (c ai (c ai (cl ab (us 16 nil))))))))))))))) (pl (c bE (c aDQ (cu (so asx) (c zV abz)))) bK)))
abbrev Mw:=(((Nat×Bool)×Int×Nat×Int×(Nat×Bool)×Int×Int×Bool)×Bool×(NI×NI×NI)×kG×NI)
def avF {ρ:Type}(x:Mw)(K:AX->St->Option ρ):Option ρ:=(λd=>K (.ex 2) (aLe.em (d.1,d.2.1,(d.1.1.1,d.b.1),d.b.2.1,d.1.b.1,d.c))) x
def ahc (d:vF.B):PL vF Mw:=let n5:=d.1.2.1;let n3:=d.2.2;let n2:=d.1.2.2;let n4:=n2.2.2.2;let y0:=n2.1+1;let n1:=(d.1.1,n5,y0,n2.2.1,n2.2.2.1,n4.1,wI (n4.2+1));let y1:=z4 n4.2;let y2:=wl (y0*8) 140737488355328;let y3:=decide (n4.2<n4.1);ae y3 (ae (bg n4.2 n2.2.2.1.1) (ae (bg n5 3) (ae (n5==2) (ae y2 (ret (ww (n1,d.2.1,n3.1,n3.2.1,λj=>bif z9 j n2.1 then n3.1.2.2 y1 else n3.2.2 j))) no) (ae (n5==1) (ae y2 (ret (ww (n1,d.2.1,n3.1,n3.2.1,λj=>bif z9 j n2.1 then n3.1.2.1 y1 else n3.2.2 j))) no) (ae y2 (ret (ww (n1,d.2.1,n3.1,n3.2.1,λj=>bif z9 j n2.1 then n3.1.1 y1 else n3.2.2 j))) no))) no) no) (ret (ws ((d.1.1,n5,n2.1,n2.2.1,n2.2.2.1,n4.1,n4.2,y3),d.2)))
def ahd:=bI (ahc) 2000
def vG:=qs (st (dp (cu aS (c aso (us 2 (cu ZQ (cu akI (us 4 aVk)))))) λa=>(pl (c bE (c (so (cl (gs a.1.1 ass) nil)) akV)) bK)))
def aLf:=qs (st (pr (cu aS (c aso (us 2 (cu ZQ (cu akI (us 4 (c ai aPf))))))) (pl (c bE (c aDQ akV)) bK)))
abbrev Mx:=(((Nat×Bool)×Int×Bool)×Bool×(NI×NI×NI)×Int×Int×Int)
def avG {ρ:Type}(x:Mx)(K:AX->St->Option ρ):Option ρ:=(λd=>K (.ex 0) (aLf.em (d.1,d.2.1,(d.1.1.1,d.b.1),d.b.2))) x
def ahe (cA:fB)(pD:LT vF Mw)(d:vG.B):PL vG Mx:=let n3:=d.1.1;let y0:=decide (d.1.2<3);ae y0 (ae (z9 n3.1 n3.1) (ae true (opt (pD ((n3,d.1.2,0,d.1.2,n3,wr n3.1,0),d.2.1,d.2.2.1,d.2.2.2,λx=>0)) λd=>let n2:=d.2.2;let n4:=n2.2.1;let n1:=d.1.2;ae (z9 n1.2.1 n1.2.1) (opt (cA n1.2.1 d.2.1 n2.2.2 true) λak=>ae (bg n1.1 3) (ae (n1.1==2) (ret (ww ((d.1.1,wI (n1.2.2.1+1)),ak.2,n2.1,n4.1,n4.2.1,ak.1))) (ae (n1.1==1) (ret (ww ((d.1.1,wI (n1.2.2.1+1)),ak.2,n2.1,n4.1,ak.1,n4.2.2))) (ret (ww ((d.1.1,wI (n1.2.2.1+1)),ak.2,n2.1,ak.1,n4.2))))) no) no) no) no) (ret (ws ((n3,d.1.2,y0),d.2)))
def ahf:=bI (ahe cJ ahd) 2000
def atl (dR:LT vG Mx)(x0:Nat)(x1:Bool)(x2:Nat->Int)(x3:Nat->Int)(x4:Nat->Int)(w0:Bool):Pg aFL:=ae (z9 x0 x0) (opt (dR (((x0,w0),0),x1,(x2,x3,x4),0,0,0)) λd=>ret (d.2.2.2,d.2.1)) no
def kE:=λx0 x1 x2 x3 x4 w0=>(atl ahf x0 x1 x2 x3 x4 w0).val
abbrev Xt:=fB×(LT vF Mw)×(LT vG Mx)
def ahg (p:Xt):KK:=⟨[pf p.1],⟨[⟨3,(2::3::rg 6 4 (rg 11 22 [])),[]⟩,⟨7,(2::3::8::9::11::12::rg 16 17 []),[(7,[.i .i64])]⟩],[fQ 7 2 vF avF p.2.1,fQ 3 2 vG avG p.b],[0],[],(some ⟨0,(rg 0 4 (rg 5 28 [])),[]⟩)⟩,2,153⟩
theorem aHt (p:Xt):LI (ahg p) 7 vF avF (ahc):=λ_ d c K=>by kernel_rfl
theorem aHu (p:Xt):LI (ahg p) 3 vG avG (ahe p.1 p.2.1):=λ_ d c K=>by kernel_rfl
theorem aQ1 (p:Xt):D2 (ahg p) aFK (lf amr) λb=>atl p.b b.1.1 b.2.1 b.b.1 b.b.2.1 b.c b.1.2:=λb=>by kernel_rfl
abbrev ahh:Xt:=(cJ,ahd,ahf)
theorem OX [aA]:SC (Kl kE):=sc (Sound.nil 1 [.i .i64,.i .i64,.i .i64]<|kS (k:=ahg ahh) (.c rP (.nil _)) [3,7] [] ⟨kL (aHu ahh),⟨kL (aHt ahh),trivial⟩⟩ trivial (aQ1 ahh))
def avH:=qa (pr (cu aS asv) bJ)
def acE:=qe axu
abbrev avI:=acE.B
abbrev iM:=Int->Int->Int->Int->Bool->Option avI
def nG (g:iM):Ct:=(86,FC avH (lf acE) (λb=>g b.1.1 b.1.2.1 b.1.b.1 b.1.b.2 b.2))
def qh:=qs (st (pr (cu aS (us 2 (cu ait (cu ap2 (c ai (us 8 (c ai (us 4 aJL)))))))) (pl (c bE (cl xP (cu akU nil))) bK)))
def ams:=qs (st (pr (cu aS (us 2 (cu ait (cu ap2 (c ai (us 8 (c ai (us 4 aJS)))))))) (pl (c bE (cl xP (cu akU nil))) bK)))
abbrev FR:=ams.B
def amt {ρ:Type}:=@ef FR ((.ex 2)) ams ρ
def Xu (aE:cN)(d:qh.B):PL qh FR:=let n6:=d.1.1;let n4:=d.1.2.2;let n2:=d.2.2;let n5:=n2.2.1;let n3:=n2.2.2;let n1:=(n6,d.1.2.1,wI (n4+1));let y0:=bg n4 4;let y1:=n4==2;let y2:=n4==1;let y3:=n4==3;let y4:=decide (n4<4);ae y4 (ae y0 (ae y3 (opt (aE n3.2 n6 30 d.2.1) λak=>ae y0 (ae y3 (ret (ww (n1,ak.2,n2.1,n5,n3.1,ak.1))) (ae y1 (ret (ww (n1,ak.2,n2.1,n5,ak.1,n3.2))) (ae y2 (ret (ww (n1,ak.2,n2.1,ak.1,n3))) (ret (ww (n1,ak.2,ak.1,n2.2)))))) no) (ae y1 (opt (aE n3.1 n6 30 d.2.1) λak=>ae y0 (ae y3 (ret (ww (n1,ak.2,n2.1,n5,n3.1,ak.1))) (ae y1 (ret (ww (n1,ak.2,n2.1,n5,ak.1,n3.2))) (ae y2 (ret (ww (n1,ak.2,n2.1,ak.1,n3))) (ret (ww (n1,ak.2,ak.1,n2.2)))))) no) (ae y2 (opt (aE n5 n6 30 d.2.1) λak=>ae y0 (ae y3 (ret (ww (n1,ak.2,n2.1,n5,n3.1,ak.1))) (ae y1 (ret (ww (n1,ak.2,n2.1,n5,ak.1,n3.2))) (ae y2 (ret (ww (n1,ak.2,n2.1,ak.1,n3))) (ret (ww (n1,ak.2,ak.1,n2.2)))))) no) (opt (aE n2.1 n6 30 d.2.1) λak=>ae y0 (ae y3 (ret (ww (n1,ak.2,n2.1,n5,n3.1,ak.1))) (ae y1 (ret (ww (n1,ak.2,n2.1,n5,ak.1,n3.2))) (ae y2 (ret (ww (n1,ak.2,n2.1,ak.1,n3))) (ret (ww (n1,ak.2,ak.1,n2.2)))))) no)))) no) (ret (ws ((n6,d.1.2.1,n4,y4),d.2)))
def fI:=bI (Xu bk) 2000
def qi:=qs (st (pr (cu aS (us 2 (cu ait (cu ap2 (us 9 aPi))))) (pl (c bE (cl xP (cu akU nil))) bK)))
def amu:=qs (st (pr (cu aS (us 2 (cu ait (cu ap2 (us 9 aJT))))) (pl (c bE (cl xP (cu akU nil))) bK)))
abbrev FT:=amu.B
def amv {ρ:Type}:=@ef FT ((.ex 0)) amu ρ
def kd (km:z5)(pD:LT qh FR)(d:qi.B):PL qi FT:=let n1:=d.2.2;let y0:=decide (d.1<2);ae y0 (opt (km 4 d.2.1 (cr n1.1 [n1.2.2.2,n1.2.2.1,n1.2.1,n1.1]) false) λak=>opt (pD ((ak.1,d.1,0),ak.2,n1)) λd=>ret (ww (wI (d.1.2.1+1),d.2))) (ret (ws ((d.1,y0),d.2)))
def FU:=bI (kd cB fI) 2000
def Vu (qf:Rr)(iC:BX)(dR:LT qi FT)(x0:Int)(x1:Int)(x2:Int)(x3:Int)(x4:Bool):Pg avI:=opt (qf x0 x1 x2 x3 x4) λd=>ae (d.1.1==0&&(d.1.2.1==0&&(d.1.2.2.1==0&&(d.1.2.2.2==0&&true)))) (opt iC λak=>ret ((1073741824,0,0,0),d.2)) (opt (dR (0,d.2,d.1)) λd=>ret (d.2.2,d.2.1))
def c9:=λx0 x1 x2 x3 x4=>(Vu sG oA FU x0 x1 x2 x3 x4).val
abbrev My:=Rr×BX×z5×cN×(LT qh FR)×(LT qi FT)
def Vv (p:My):KK:=⟨[aap p.1,La p.2.1,IL p.b.1,gu p.b.2.1],⟨[⟨5,(1::2::rg 5 9 (rg 15 18 [])),[]⟩,⟨8,(1::2::rg 6 8 (rg 15 4 (rg 20 13 []))),[]⟩],[fQ 8 1 qh amt p.c.1,fQ 5 1 qi amv p.c.2],[],[],(some ⟨0,(rg 0 4 (rg 5 28 [])),[]⟩)⟩,1,86⟩
theorem aCj (p:My):LI (Vv p) 8 qh amt (Xu p.b.2.1):=λ_ d c K=>by kernel_rfl
theorem aCk (p:My):LI (Vv p) 5 qi amv (kd p.b.1 p.c.1):=λ_ d c K=>by kernel_rfl
theorem aLg (p:My):D2 (Vv p) avH (lf acE) λb=>Vu p.1 p.2.1 p.c.2 b.1.1 b.1.2.1 b.1.b.1 b.1.b.2 b.2:=λb=>by kernel_rfl
abbrev Vx:My:=(sG,oA,cB,bk,fI,FU)
theorem pF [aA]:SC (nG c9):=sc (kS (k:=Vv Vx) (.c al3 (.c Rs (.c QC (.c hX (.nil _))))) [5,8] [] ⟨kL (aCk Vx),⟨kL (aCj Vx),trivial⟩⟩ trivial (aLg Vx))
def aea:=qa (pr (cu aS (cl Fx (cu Ra nil))) (c xL (cl aDI nil)))
def Mz:=qe (res (pu aVb (pr Om (cl aVC nil))))
abbrev OY:=Mz.B
abbrev OZ:=NI->NI->Bool->NI->Option OY
def aeb (g:OZ):Ct:=(216,FC aea (lf Mz) (λb=>g b.1.1 b.1.2 b.2.1 b.b))
def fJ:=qs (st (pr (cu aS (us 1 (cu Ra (us 1 (cu ZR (us 2 (cu ZS (c ai (cu ap3 (us 3 (c ai (us 3 (c ai (cl ai (us 35 nil))))))))))))))) (pl (c bE (c mG (c gC (c HU J3)))) bK)))
def Xv:=qs (st (pr (cu aS (us 1 (cu Ra (us 1 (cu ZR (us 2 (cu ZS (c ai (cu ap3 (us 3 (c ai (us 3 (c ai (c ai (cl ab (us 34 nil)))))))))))))))) (pl (c bE (c mG (c gC (c HU J3)))) bK)))
abbrev nV:=Xv.B
def Xw {ρ:Type}:=@ef nV ((.ex 2)) Xv ρ
def Cw (Rw:Mq)(d:fJ.B):PL fJ nV:=let n2:=d.2.2.2;let n1:=d.1.2.2;let y0:=z4 n1.2;let y1:=decide (n1.2<n1.1);ae y1 (opt (Rw n2.1.1 n2.1.2 n1.2 d.1.1) λak=>ae (bg n1.2 24) (ae (true&&wl (0+y0*1+1) 24) (ret (ww ((d.1.1,d.1.2.1,n1.1,wI (n1.2+1)),d.2.1,d.2.2.1,n2.1,n2.2.1,λj=>bif z9 j y0 then ak else n2.2.2 j))) no) no) (ret (ws ((d.1.1,d.1.2.1,n1.1,n1.2,y1),d.2)))
def Cy:=bI (Cw wA) 2000
def fK:=qs (st (pr (cu aS (us 1 (cu Ra (us 1 (cu ZR (us 2 (cu ZS (c ai (cu ap3 (us 3 (c ai (us 14 (cl ai (us 25 nil)))))))))))))) (pl (c bE (c mG (c gC (c HU J3)))) bK)))
def Xx:=qs (st (pr (cu aS (us 1 (cu Ra (us 1 (cu ZR (us 2 (cu ZS (c ai (cu ap3 (us 3 (c ai (us 14 (c ai (cl ab (us 24 nil))))))))))))))) (pl (c bE (c mG (c gC (c HU J3)))) bK)))
abbrev nW:=Xx.B
def Xy {ρ:Type}:=@ef nW ((.ex 4)) Xx ρ
def Cz (bj:dM)(d:fK.B):PL fK nW:=let n2:=d.2.2;let n1:=d.1.2;let y0:=z4 n1.2;let y1:=bg n1.2 24;let y2:=decide (n1.2<24);let y3:=y0*48+z4 d.1.1;ae y2 (ae y1 (opt (bj 30 24 24 d.2.1 (λj=>n2.1 (0+y0*24+j)) n2.2.2.2 false false) λak=>ae y1 (ae (bg d.1.1 48) (ae (true&&wl (0+y3*1+1) 1152) (ret (ww ((d.1.1,n1.1,wI (n1.2+1)),ak.2,n2.1,n2.2.1,λj=>bif z9 j y3 then ak.1 else n2.2.2.1 j,n2.2.2.2))) no) no) no) no) (ret (ws ((d.1.1,n1.1,n1.2,y2),d.2)))
def CA:=bI (Cz bx) 2000
def gw:=qs (st (pr (us 7 (cu aVb (us 37 aPk))) (pl (c bE (c mG (cl HU nil))) bK)))
def Xz:=qs (st (pr (us 7 (cu aVb (us 37 aJU))) (pl (c bE (c mG (cl HU nil))) bK)))
abbrev qY:=Xz.B
def XA {ρ:Type}:=@ef qY ((.ex 6)) Xz ρ
def CB (d:gw.B):PL gw qY:=let y0:=wI (24+d.1);let y1:=decide (d.1<24);let y2:=z4 d.1*48+z4 y0;ae y1 (ae (bg d.1 24) (ae (bg y0 48) (ae (true&&wl (0+y2*1+1) 1152) (ret (ww (wI (d.1+1),d.2.1,d.2.2.1,λj=>bif z9 j y2 then 1073741824 else d.2.2.2 j))) no) no) no) (ret (ws ((d.1,y1),d.2)))
def CC:=bI (CB) 2000
def fL:=qs (st (pr (cu aS (us 1 (cu Ra (us 1 (cu ZR (us 2 (cu ZS (us 5 (cl ai (us 40 nil)))))))))) (pl (c bE (c mG (c gC (cl HU nil)))) bK)))
def XB:=qs (st (pr (cu aS (us 1 (cu Ra (us 1 (cu ZR (us 2 (cu ZS (us 5 (c ai (cl ab (us 39 nil))))))))))) (pl (c bE (c mG (c gC (cl HU nil)))) bK)))
abbrev nX:=XB.B
def XC {ρ:Type}:=@ef nX ((.ex 0)) XB ρ
def CD (pD:LT fJ nV)(Km:LT fK nW)(d:fL.B):PL fL nX:=let y0:=decide (d.1<24);ae y0 (opt (pD ((d.1,d.1,wI (d.1+1),0),d.2.1,d.2.2.1,d.2.2.2.1,d.2.2.2.2,λx=>0)) λd=>opt (Km ((d.1.1,d.1.2.1,0),d.2)) λd=>ret (ww (wI (d.1.2.1+1),d.2.1,d.2.2.1,d.2.2.2.1,d.2.2.2.2.1))) (ret (ws ((d.1,y0),d.2)))
def CE:=bI (CD Cy CA) 2000
def G8 (l_3:LT gw qY)(dR:LT fL nX)(x0:Nat->Int)(x1:Nat->Int)(x2:Bool)(x3:Nat->Int):Pg OY:=opt (dR (0,x2,x3,(x0,x1),λx=>0)) λd=>opt (l_3 (0,d.2.1,d.2.2.1,d.2.2.2.2)) λd=>ret (d.2.1,d.2.2.2)
def qZ:=λx0 x1 x2 x3=>(G8 CC CE x0 x1 x2 x3).val
abbrev rb:=Mq×dM×(LT fJ nV)×(LT fK nW)×(LT gw qY)×(LT fL nX)
def vU (p:rb):KK:=⟨[amc p.1,lV p.2.1],⟨[⟨3,(1::3::5::6::rg 8 5 (rg 14 40 [])),[]⟩,⟨7,(1::3::5::6::10::11::12::14::15::16::rg 19 35 []),[]⟩,⟨12,(1::3::5::6::10::11::12::rg 14 14 (rg 29 25 [])),[]⟩,⟨18,(rg 0 7 (rg 8 37 (rg 46 8 []))),[]⟩],[fQ 7 2 fJ Xw p.b.1,fQ 12 2 fK Xy p.b.2.1,fQ 18 2 gw XA p.c.1,fQ 3 2 fL XC p.c.2],[0],[],(some ⟨0,(rg 0 6 (rg 7 47 [])),[]⟩)⟩,2,216⟩
theorem api (p:rb):LI (vU p) 7 fJ Xw (Cw p.1):=λ_ d c K=>by kernel_rfl
theorem apj (p:rb):LI (vU p) 12 fK Xy (Cz p.2.1):=λ_ d c K=>by kernel_rfl
theorem apk (p:rb):LI (vU p) 18 gw XA (CB):=λ_ d c K=>by kernel_rfl
theorem apl (p:rb):LI (vU p) 3 fL XC (CD p.b.1 p.b.2.1):=λ_ d c K=>by kernel_rfl
theorem ayq (p:rb):D2 (vU p) aea (lf Mz) λb=>G8 p.c.1 p.c.2 b.1.1 b.1.2 b.2.1 b.b:=λb=>by kernel_rfl
abbrev vV:rb:=(wA,bx,Cy,CA,CC,CE)
theorem ayr [aA]:SC (aeb qZ):=sc (kS (k:=vU vV) (.c avr (.c nj (.nil _))) [3,7,12,18] [] ⟨kL (apl vV),⟨kL (api vV),⟨kL (apj vV),⟨kL (apk vV),trivial⟩⟩⟩⟩ trivial (ayq vV))
def avJ:=qa (pl asu nil)
def acF:=qe aWa
abbrev avK:=acF.B
abbrev ey:=NI->Option avK
def jM (g:ey):Ct:=(68,FC avJ (lf acF) (λb=>g b))
def ahi (x0:Nat->Int):Pg avK:=ret (x0 0,x0 1,x0 2,x0 3)
def cC:=λx0=>(ahi x0).val
theorem aLh:D0 [] 68 avJ (lf acF) λb=>ahi b:=λb=>by kernel_rfl
theorem kM [aA]:SC (jM cC):=s0 (.nil _) aLh
def ai0:=qa (pl (c lz asv) nil)
def O0:=qe aPH
abbrev Tw:=O0.B
abbrev JD:=NI->Int->Int->Int->Int->Option Tw
def Tx (g:JD):Ct:=(85,FC ai0 (lf O0) (λb=>g b.1 b.2.1 b.b.1 b.b.2.1 b.c))
def JE (x0:Nat->Int)(x1:Int)(x2:Int)(x3:Int)(x4:Int):Pg Tw:=ret λj=>bif z9 j 3 then x4 else bif z9 j 2 then x3 else bif z9 j 1 then x2 else bif z9 j 0 then x1 else x0 j
def lW:=λx0 x1 x2 x3 x4=>(JE x0 x1 x2 x3 x4).val
theorem aCl:D0 [] 85 ai0 (lf O0) λb=>JE b.1 b.2.1 b.b.1 b.b.2.1 b.c:=λb=>by kernel_rfl
theorem ai1 [aA]:SC (Tx lW):=s0 (.nil _) aCl
def aq6:=qa (pr (c ai (c ai (c ai (cl ai (cu aS (cu ait nil)))))) (cu aPj (c afH bJ)))
def XD:=qe aWc
abbrev aq7:=XD.B
abbrev aq8:=Int->Int->Int->Int->Int->Int->Int->Int->Bool->Option aq7
def aq9 (g:aq8):Ct:=(210,FC aq6 (lf XD) (λb=>g b.1.1 b.1.2.1 b.1.b.1 b.1.b.2 b.2.1.1 b.2.1.2.1 b.2.1.b.1 b.2.1.b.2 b.b))
def acG (bj:dM)(x0:Int)(x1:Int)(x2:Int)(x3:Int)(x4:Int)(x5:Int)(x6:Int)(x7:Int)(x8:Bool):Pg aq7:=opt (bj 30 4 4 x8 (cr x4 [x7,x6,x5,x4]) (cr x0 [x3,x2,x1,x0]) false true) λd=>ret d
def IT:=λx0 x1 x2 x3 x4 x5 x6 x7 x8=>(acG bx x0 x1 x2 x3 x4 x5 x6 x7 x8).val
theorem aHv:∀bj,D0 [lV bj] 210 aq6 (lf XD) λb=>acG bj b.1.1 b.1.2.1 b.1.b.1 b.1.b.2 b.2.1.1 b.2.1.2.1 b.2.1.b.1 b.2.1.b.2 b.b:=λ_ b=>by kernel_rfl
theorem aHw [aA]:SC (aq9 IT):=s0 (.c nj (.nil _)) (aHv bx)
def amw:=qa (pr (cu aS iA) bJ)
def Ty:=qe axu
abbrev amx:=Ty.B
abbrev MA:=Int->Bool->Option amx
def XE (g:MA):Ct:=(123,FC amw (lf Ty) (λb=>g b.1 b.2))
def XF (di:yP)(aC:bR)(gN:Rn)(eI:K9)(bH:iM)(x0:Int)(x1:Bool):Pg amx:=opt (di x0) λd=>opt (aC d 536870912 30 x1) λd=>opt (gN d.1 d.2) λak=>opt (eI d.1 ak.2) λd=>opt (bH ak.1 0 0 d.1 d.2) λd=>ret d
def wC:=λx0 x1=>(XF kI aW sE oz c9 x0 x1).val
theorem aFM:∀di aC gN eI bH,D0 [Co di,eT aC,Ro gN,K' eI,nG bH] 123 amw (lf Ty) λb=>XF di aC gN eI bH b.1 b.2:=λ_ _ _ _ _ b=>by kernel_rfl
theorem amy [aA]:SC (XE wC):=s0 (.c GW (.c fA (.c aam (.c Rm (.c pF (.nil _)))))) (aFM kI aW sE oz c9)
def aAz:=qa (pr (cu aS (c afI asv)) bJ)
def ahj:=qe axu
abbrev aAA:=ahj.B
abbrev yV:=Int->Int->Int->Int->Int->Int->Int->Int->Bool->Option aAA
def FW (g:yV):Ct:=(156,FC aAz (lf ahj) (λb=>g b.1.1.1 b.1.1.2.1 b.1.1.b.1 b.1.1.b.2 b.1.2.1 b.1.b.1 b.1.b.2.1 b.1.c b.2))
def amz (qf:Rr)(z8:aq8)(x0:Int)(x1:Int)(x2:Int)(x3:Int)(x4:Int)(x5:Int)(x6:Int)(x7:Int)(x8:Bool):Pg aAA:=opt (qf x0 x1 x2 x3 x8) λd=>let n1:=d.1.2;opt (qf x4 x5 x6 x7 d.2) λak=>let n2:=ak.1.2;let y0:=wI (0-n2.1);let y1:=wI (0-n2.2.1);let y2:=wI (0-n2.2.2);opt (z8 ak.1.1 y0 y1 y2 d.1.1 n1.1 n1.2.1 n1.2.2 ak.2) λaF=>opt (z8 n2.1 ak.1.1 n2.2.2 y1 d.1.1 n1.1 n1.2.1 n1.2.2 aF.2) λbA=>opt (z8 n2.2.1 y2 ak.1.1 n2.1 d.1.1 n1.1 n1.2.1 n1.2.2 bA.2) λcD=>opt (z8 n2.2.2 n2.2.1 y0 ak.1.1 d.1.1 n1.1 n1.2.1 n1.2.2 cD.2) λd=>ret ((aF.1,bA.1,cD.1,d.1),d.2)
def lE:=λx0 x1 x2 x3 x4 x5 x6 x7 x8=>(amz sG IT x0 x1 x2 x3 x4 x5 x6 x7 x8).val
theorem aN1:∀qf z8,D0 [aap qf,aq9 z8] 156 aAz (lf ahj) λb=>amz qf z8 b.1.1.1 b.1.1.2.1 b.1.1.b.1 b.1.1.b.2 b.1.2.1 b.1.b.1 b.1.b.2.1 b.1.c b.2:=λ_ _ b=>by kernel_rfl
theorem Lb [aA]:SC (FW lE):=s0 (.c al3 (.c aHw (.nil _))) (aN1 sG IT)
def aI6:=qa (pr (cu aS asv) bJ)
def atm:=qe (res (pr (aa abx) (pl mF nil)))
abbrev aI7:=atm.B
abbrev oD:=Int->Int->Int->Int->Bool->Option aI7
def Bo (g:oD):Ct:=(122,FC aI6 (lf atm) (λb=>g b.1.1 b.1.2.1 b.1.b.1 b.1.b.2 b.2))
def yW:=qs (st (pr (us 2 (cu LA (cu ap2 (cu (app 3 9) (us 3 aVl))))) (pl (c bE (cu (so (cu (gp 0 1) nil)) (c xP (cl (so abx) nil)))) bK)))
def aAB:=qs (st (pr (us 2 (cu LA (cu ap2 (cu (app 3 9) (us 3 aVD))))) (pl (c bE (cu (so (cu (gp 0 1) nil)) (c xP (cl (so abx) nil)))) bK)))
abbrev Rx:=aAB.B
def aAC {ρ:Type}:=@ef Rx ((.ex 0)) aAB ρ
def amA (ay:bW)(d:yW.B):PL yW Rx:=let n2:=d.2.2.2;let n1:=d.2.2.1;let n4:=n1.2.1;let n3:=n1.2.2;let y0:=bg d.1 4;let y1:=d.1==2;let y2:=d.1==1;let y3:=d.1==3;let y4:=wI (d.1+1);let y5:=decide (d.1<4);ae y5 (ae y0 (ae y3 (opt (ay n3.2 d.2.1) λak=>ae y0 (ae y3 (ret (ww (y4,ak.2,(n1.1,n4,n3.1,ak.1),n2))) (ae y1 (ret (ww (y4,ak.2,(n1.1,n4,ak.1,n3.2),n2))) (ae y2 (ret (ww (y4,ak.2,(n1.1,ak.1,n3),n2))) (ret (ww (y4,ak.2,(ak.1,n1.2),n2)))))) no) (ae y1 (opt (ay n3.1 d.2.1) λak=>ae y0 (ae y3 (ret (ww (y4,ak.2,(n1.1,n4,n3.1,ak.1),n2))) (ae y1 (ret (ww (y4,ak.2,(n1.1,n4,ak.1,n3.2),n2))) (ae y2 (ret (ww (y4,ak.2,(n1.1,ak.1,n3),n2))) (ret (ww (y4,ak.2,(ak.1,n1.2),n2)))))) no) (ae y2 (opt (ay n4 d.2.1) λak=>ae y0 (ae y3 (ret (ww (y4,ak.2,(n1.1,n4,n3.1,ak.1),n2))) (ae y1 (ret (ww (y4,ak.2,(n1.1,n4,ak.1,n3.2),n2))) (ae y2 (ret (ww (y4,ak.2,(n1.1,ak.1,n3),n2))) (ret (ww (y4,ak.2,(ak.1,n1.2),n2)))))) no) (opt (ay n1.1 d.2.1) λak=>ae y0 (ae y3 (ret (ww (y4,ak.2,(n1.1,n4,n3.1,ak.1),n2))) (ae y1 (ret (ww (y4,ak.2,(n1.1,n4,ak.1,n3.2),n2))) (ae y2 (ret (ww (y4,ak.2,(n1.1,ak.1,n3),n2))) (ret (ww (y4,ak.2,(ak.1,n1.2),n2)))))) no)))) no) (ret (ws ((d.1,y5),d.2)))
def amB:=bI (amA aP) 2000
def ays (amC:al6)(Lc:al8)(dR:LT yW Rx)(x0:Int)(x1:Int)(x2:Int)(x3:Int)(x4:Bool):Pg aI7:=opt (dR (0,x4,(x0,x1,x2,x3),λx=>0)) λd=>let n2:=d.2.2.1.1;let n1:=d.2.2.1.2;let n4:=n1.2.2;let n3:=n1.2.1;let y0:=wI (0-n2);opt (amC 1 1 (-1) (-1) n2 n1.1 n3 n4 d.2.1) λak=>opt (Lc n1.1 n3 y0 n4 ak.2) λaF=>opt (Lc n1.1 n4 n2 n3 aF.2) λbA=>opt (Lc n1.1 n3 n2 n4 bA.2) λcD=>opt (amC 1 (-1) 1 (-1) n2 n1.1 n3 n4 cD.2) λeU=>opt (Lc n3 n4 y0 n1.1 eU.2) λc8=>opt (Lc n1.1 n4 y0 n3 c8.2) λmg=>opt (Lc n3 n4 n2 n1.1 mg.2) λqX=>opt (amC 1 (-1) (-1) 1 n2 n1.1 n3 n4 qX.2) λd=>ret (cr 0 [d.1,qX.1,mg.1,c8.1,eU.1,cD.1,bA.1,aF.1,ak.1],d.2)
def ja:=λx0 x1 x2 x3 x4=>(ays Rt Ru amB x0 x1 x2 x3 x4).val
abbrev ao4:=bW×al6×al8×(LT yW Rx)
def ayt (p:ao4):KK:=⟨[dr p.1,aAt p.2.1,aAw p.b.1],⟨[⟨2,(0::1::5::6::7::rg 9 82 []),[]⟩],[fQ 2 1 yW aAC p.b.2],[0],[],(some ⟨0,(rg 0 4 (rg 5 86 [])),[]⟩)⟩,1,122⟩
theorem aLi (p:ao4):LI (ayt p) 2 yW aAC (amA p.1):=λ_ d c K=>by kernel_rfl
theorem aTJ (p:ao4):D2 (ayt p) aI6 (lf atm) λb=>ays p.2.1 p.b.1 p.b.2 b.1.1 b.1.2.1 b.1.b.1 b.1.b.2 b.2:=λb=>by kernel_rfl
abbrev ayu:ao4:=(aP,Rt,Ru,amB)
theorem Ef [aA]:SC (Bo ja):=sc (kS (k:=ayt ayu) (.c dx (.c aNV (.c aNX (.nil _)))) [2] [] ⟨kL (aLi ayu),trivial⟩ trivial (aTJ ayu))
def ai2:=qa (pu nil nil)
def O1:=qe aPH
abbrev ub:=O1.B
abbrev DM:=Option ub
def Tz (g:DM):Ct:=(66,FC ai2 (lf O1) (λ_=>g))
def TA (jk:aau):Pg ub:=opt (jk 0 4 1073741840 λx=>0) λd=>opt (jk 4 7 549755813888 d) λd=>opt (jk 7 10 9007199254740992 d) λd=>opt (jk 10 13 134217728 d) λd=>opt (jk 13 16 1073741824 d) λd=>opt (jk 16 22 2147483648 d) λd=>opt (jk 22 24 137438953472 d) λd=>ret d
def nH:Option ub:=(TA yR).val
theorem aCm:∀jk,D0 [aav jk] 66 ai2 (lf O1) λb=>TA jk:=λ_ b=>by kernel_rfl
theorem ai3 [aA]:SC (Tz nH):=s0 (.c avn (.nil _)) (aCm yR)
def amD:=qa (pr (cu aS asu) bJ)
def TB:=qe aDR
abbrev MB:=TB.B
abbrev MC:=NI->Bool->Option MB
def XG (g:MC):Ct:=(87,FC amD (lf TB) (λb=>g b.1 b.2))
def kO:=qs (st (pr (cu aS (us 2 (cu Uu (cu EJ (cu aiu aJN))))) (pl (c bE aKi) bK)))
def ayv:=qs (st (pr (cu aS (us 2 (cu Uu (cu EJ (cu aiu (c ai (us 1 aJT))))))) (pl (c bE aKi) bK)))
abbrev vX:=((Int×Bool)×Bool×NI×NI×ub)
def aec {ρ:Type}(x:vX)(K:AX->St->Option ρ):Option ρ:=(λd=>K (.ex 0) (ayv.em ((d.1.1,d.1),d.2))) x
def G9 (aG:cw)(d:kO.B):PL kO vX:=let y0:=z4 d.1;let y1:=bg d.1 24;let y2:=decide (d.1<24);ae y2 (ae y1 (ae y1 (ae y1 (opt (aG (d.2.2.1 y0) (wI (0-d.2.2.2.2 y0)) (d.2.2.2.2 y0) d.2.1) λak=>ae y1 (ae (true&&wl (0+y0*1+1) 24) (ret (ww (wI (d.1+1),ak.2,λj=>bif z9 j y0 then ak.1 else d.2.2.1 j,d.2.2.2))) no) no) no) no) no) (ret (ws ((d.1,y2),d.2)))
def G':=bI (G9 aY) 2000
def MD (TC:DM)(dR:LT kO vX)(x0:Nat->Int)(x1:Bool):Pg MB:=opt TC λd=>opt (dR (4,x1,x0,λx=>0,d)) λd=>ret (d.2.2.1,d.2.1)
def nk:=λx0 x1=>(MD nH G' x0 x1).val
abbrev ME:=DM×cw×(LT kO vX)
def XH (p:ME):KK:=⟨[Tz p.1,dZ p.2.1],⟨[⟨3,(1::2::rg 7 20 []),[]⟩],[fQ 3 1 kO aec p.b],[0],[],(some ⟨0,(rg 0 4 (rg 5 22 [])),[]⟩)⟩,1,87⟩
theorem avL (p:ME):LI (XH p) 3 kO aec (G9 p.2.1):=λ_ d c K=>by kernel_rfl
theorem aFN (p:ME):D2 (XH p) amD (lf TB) λb=>MD p.1 p.b b.1 b.2:=λb=>by kernel_rfl
abbrev XI:ME:=(nH,aY,G')
theorem amE [aA]:SC (XG nk):=sc (kS (k:=XH XI) (.c ai3 (.c eP (.nil _))) [3] [] ⟨kL (avL XI),trivial⟩ trivial (aFN XI))
def ara:=qa (pr (cu aS asu) bJ)
def XJ:=qe aDR
abbrev arb:=XJ.B
abbrev fC:=NI->Bool->Option arb
def jl (g:fC):Ct:=(49,FC ara (lf XJ) (λb=>g b.1 b.2))
def QH (bn:ey)(QI:aq0)(bH:iM)(yy:JD)(wD:MC)(x0:Nat->Int)(x1:Bool):Pg arb:=opt (bn x0) λd=>opt (QI d.1 d.2.1 d.2.2.1 d.2.2.2) λd=>ae (!d) (opt (bn x0) λd=>opt (bH d.1 d.2.1 d.2.2.1 d.2.2.2 x1) λd=>opt (yy x0 d.1.1 d.1.2.1 d.1.2.2.1 d.1.2.2.2) λak=>opt (wD ak d.2) λd=>ret d) (opt (wD x0 x1) λd=>ret d)
def cg:=λx0 x1=>(QH cC z7 c9 lW nk x0 x1).val
theorem aHx:∀bn QI bH yy wD,D0 [jM bn,aq1 QI,nG bH,Tx yy,XG wD] 49 ara (lf XJ) λb=>QH bn QI bH yy wD b.1 b.2:=λ_ _ _ _ _ b=>by kernel_rfl
theorem kn [aA]:SC (jl cg):=s0 (.c kM (.c aHp (.c pF (.c ai1 (.c amE (.nil _)))))) (aHx cC z7 c9 lW nk)
def aed:=qa (pr (cu aS iA) bJ)
def MF:=qe qu
abbrev aee:=MF.B
abbrev vY:=Int->Bool->Option aee
def Ha (g:vY):Ct:=(159,FC aed (lf MF) (λb=>g b.1 b.2))
def O2 (av:cj)(x0:Int)(x1:Bool):Pg aee:=opt (av x0 1073741824 1000000 x1) λd=>ret d
def ko:=λx0 x1=>(O2 aU x0 x1).val
theorem ayw:∀av,D0 [cZ av] 159 aed (lf MF) λb=>O2 av b.1 b.2:=λ_ b=>by kernel_rfl
theorem O3 [aA]:SC (Ha ko):=s0 (.c dm (.nil _)) (ayw aU)
def aFO:=qa (pr (cu aS HV) bJ)
def amF:=qe axu
abbrev aFP:=amF.B
abbrev aFQ:=Int->Int->Int->Bool->Option aFP
def aFR (g:aFQ):Ct:=(209,FC aFO (lf amF) (λb=>g b.1.1 b.1.2.1 b.1.b b.2))
def atn (FX:OS)(vH:BW)(iC:BX)(aC:bR)(eI:K9)(aE:cN)(gN:Rn)(bH:iM)(x0:Int)(x1:Int)(x2:Int)(x3:Bool):Pg aFP:=opt (FX x0 x1 x2 x3) λd=>opt (vH d.1.1 d.1.2.1 d.1.2.2 d.2) λak=>ae (ak.1==0) (opt iC λd=>ret ((1073741824,0,0,0),ak.2)) (opt (aC ak.1 536870912 30 ak.2) λaF=>opt (eI aF.1 aF.2) λbA=>opt (aE bA.1 ak.1 30 bA.2) λcD=>opt (gN aF.1 cD.2) λeU=>opt (aC d.1.1 cD.1 30 eU.2) λc8=>opt (aC d.1.2.1 cD.1 30 c8.2) λmg=>opt (aC d.1.2.2 cD.1 30 mg.2) λd=>opt (bH eU.1 c8.1 mg.1 d.1 d.2) λd=>ret d)
def XK:=λx0 x1 x2 x3=>(atn Cp qd oA aW oz bk sE c9 x0 x1 x2 x3).val
theorem aQ2:∀FX vH iC aC eI aE gN bH,D0 [agV FX,Rp vH,La iC,eT aC,K' eI,gu aE,Ro gN,nG bH] 209 aFO (lf amF) λb=>atn FX vH iC aC eI aE gN bH b.1.1 b.1.2.1 b.1.b b.2:=λ_ _ _ _ _ _ _ _ b=>by kernel_rfl
theorem aQ3 [aA]:SC (aFR XK):=s0 (.c atf (.c aao (.c Rs (.c fA (.c Rm (.c hX (.c aam (.c pF (.nil _))))))))) (aQ2 Cp qd oA aW oz bk sE c9)
def amG:=qa (pr (cu aS (c lz abA)) bJ)
def TD:=qe (res (pr (aa afL) (pl mF nil)))
abbrev amH:=TD.B
abbrev MH:=NI->Int->Int->Int->Int->Int->Int->Int->Int->Bool->Option amH
def XL (g:MH):Ct:=(155,FC amG (lf TD) (λb=>g b.1.1 b.1.2.1 b.1.b.1 b.1.b.2.1.1 b.1.b.2.1.2.1 b.1.b.2.1.b b.1.c.1 b.1.c.2.1 b.1.c.b b.2))
def XM (aR:fC)(oE:vY)(bN:lU)(iN:Vk)(nY:Ki)(ahk:aFQ)(bn:ey)(ew:oD)(x0:Nat->Int)(x1:Int)(x2:Int)(x3:Int)(x4:Int)(x5:Int)(x6:Int)(x7:Int)(x8:Int)(x9:Bool):Pg amH:=opt (aR x0 x9) λd=>opt (oE x2 d.2) λak=>opt (bN d.1 10) λaF=>opt (iN aF.1 aF.2.1 aF.2.2 ak.1 ak.2) λbA=>opt (nY x3 x4 x5 bA.1.1 bA.1.2.1 bA.1.2.2 bA.2) λcD=>opt (bN d.1 13) λeU=>opt (iN eU.1 eU.2.1 eU.2.2 ak.1 cD.2) λc8=>opt (nY x6 x7 x8 c8.1.1 c8.1.2.1 c8.1.2.2 c8.2) λmg=>opt (ahk cD.1.1 cD.1.2.1 cD.1.2.2 mg.2) λqX=>opt (bn d.1) λd=>opt (ew d.1 d.2.1 d.2.2.1 d.2.2.2 qX.2) λd=>ret ((ak.1,cD.1.1,cD.1.2.1,cD.1.2.2,mg.1.1,mg.1.2.1,mg.1.2.2,qX.1.1,qX.1.2.1,qX.1.2.2.1,qX.1.2.2.2,d.1),d.2)
def wE:=λx0 x1 x2 x3 x4 x5 x6 x7 x8 x9=>(XM cg ko eV uJ wo XK cC ja x0 x1 x2 x3 x4 x5 x6 x7 x8 x9).val
theorem aFS:∀aR oE bN iN nY ahk bn ew,D0 [jl aR,Ha oE,rQ bN,Vl iN,Xa nY,aFR ahk,jM bn,Bo ew] 155 amG (lf TD) λb=>XM aR oE bN iN nY ahk bn ew b.1.1 b.1.2.1 b.1.b.1 b.1.b.2.1.1 b.1.b.2.1.2.1 b.1.b.2.1.b b.1.c.1 b.1.c.2.1 b.1.c.b b.2:=λ_ _ _ _ _ _ _ _ b=>by kernel_rfl
theorem amI [aA]:SC (XL wE):=s0 (.c kn (.c O3 (.c vE (.c agT (.c agR (.c aQ3 (.c kM (.c Ef (.nil _))))))))) (aFS cg ko eV uJ wo XK cC ja)
def arc:=qa (pr (cu aS (c lz abA)) bJ)
def XN:=qe aDR
abbrev ard:=XN.B
abbrev QJ:=NI->Int->Int->Int->Int->Int->Int->Int->Int->Bool->Option ard
def acH (g:QJ):Ct:=(104,FC arc (lf XN) (λb=>g b.1.1 b.1.2.1 b.1.b.1 b.1.b.2.1.1 b.1.b.2.1.2.1 b.1.b.2.1.b b.1.c.1 b.1.c.2.1 b.1.c.b b.2))
def QK (Bp:MH)(aR:fC)(bn:ey)(eZ:yV)(bH:iM)(bN:lU)(gf:yT)(aC:bR)(dN:Cv)(iN:Vk)(cW:z6)(x0:Nat->Int)(x1:Int)(x2:Int)(x3:Int)(x4:Int)(x5:Int)(x6:Int)(x7:Int)(x8:Int)(x9:Bool):Pg ard:=opt (Bp x0 x1 x2 x3 x4 x5 x6 x7 x8 x9) λd=>let n1:=d.1.2.2.2.2.2;let n2:=n1.2.2.2;opt (aR x0 d.2) λak=>opt (bn ak.1) λaF=>opt (eZ aF.1 aF.2.1 aF.2.2.1 aF.2.2.2 n1.2.2.1 n2.1 n2.2.1 n2.2.2.1 ak.2) λbA=>opt (bH bA.1.1 bA.1.2.1 bA.1.2.2.1 bA.1.2.2.2 bA.2) λcD=>opt (bN ak.1 4) λeU=>opt (gf n2.2.2.2 d.1.2.2.2.2.1 n1.1 n1.2.1 cD.2) λc8=>opt (aC 10529810258 d.1.1 30 c8.2) λmg=>opt (dN 3 mg.2 (cr eU.1 [0,c8.1.1,eU.1]) (cr eU.2.1 [0,c8.1.2.1,eU.2.1]) (cr eU.2.2 [mg.1,c8.1.2.2,eU.2.2]) true) λqX=>opt (aC d.1.1 536870912 30 qX.2) λd=>opt (bN ak.1 7) λpd=>opt (dN 2 d.2 (cr eU.1 [qX.1.1,eU.1]) (cr eU.2.1 [qX.1.2.1,eU.2.1]) (cr eU.2.2 [qX.1.2.2,eU.2.2]) true) λjh=>opt (iN jh.1.1 jh.1.2.1 jh.1.2.2 d.1 jh.2) λd=>opt (dN 2 d.2 (cr pd.1 [d.1.1,pd.1]) (cr pd.2.1 [d.1.2.1,pd.2.1]) (cr pd.2.2 [d.1.2.2,pd.2.2]) true) λd=>opt (cW ak.1 0 4 (cr cD.1.1 [cD.1.2.2.2,cD.1.2.2.1,cD.1.2.1,cD.1.1]) false) λqc=>opt (cW qc 4 3 (cr qX.1.1 [qX.1.2.2,qX.1.2.1,qX.1.1]) false) λLd=>opt (cW Ld 7 3 (cr d.1.1 [d.1.2.2,d.1.2.1,d.1.1]) false) λMI=>opt (aR MI d.2) λd=>ret d
def pg:=λx0 x1 x2 x3 x4 x5 x6 x7 x8 x9=>(QK wE cg cC lE c9 eV mi aW kE uJ eW x0 x1 x2 x3 x4 x5 x6 x7 x8 x9).val
theorem aHy:∀Bp aR bn eZ bH bN gf aC dN iN cW,D0 [XL Bp,jl aR,jM bn,FW eZ,nG bH,rQ bN,G4 gf,eT aC,Kl dN,Vl iN,Ee cW] 104 arc (lf XN) λb=>QK Bp aR bn eZ bH bN gf aC dN iN cW b.1.1 b.1.2.1 b.1.b.1 b.1.b.2.1.1 b.1.b.2.1.2.1 b.1.b.2.1.b b.1.c.1 b.1.c.2.1 b.1.c.b b.2:=λ_ _ _ _ _ _ _ _ _ _ _ b=>by kernel_rfl
theorem are [aA]:SC (acH pg):=s0 (.c amI (.c kn (.c kM (.c Lb (.c pF (.c vE (.c Mr (.c fA (.c OX (.c agT (.c IQ (.nil _)))))))))))) (aHy wE cg cC lE c9 eV mi aW kE uJ eW)
def aAD:=qa (pr (cu aS HV) bJ)
def ahl:=qe axu
abbrev aAE:=ahl.B
abbrev amJ:=Int->Int->Int->Bool->Option aAE
def aAF (g:amJ):Ct:=(160,FC aAD (lf ahl) (λb=>g b.1.1 b.1.2.1 b.1.b b.2))
def sJ:=qs (st (pr (cu aS (us 3 (cu ait (cu ZQ (c ai (cu akI (us 12 (cl ai aVa)))))))) (pl (c bE (cu akU (c zV (cl zV nil)))) bK)))
def arf:=qs (st (pr (cu aS (us 3 (cu ait (cu ZQ (c ai (cu akI (us 12 aVE))))))) (pl (c bE (cu akU (c zV (cl zV nil)))) bK)))
abbrev IU:=arf.B
def arh {ρ:Type}:=@ef IU ((.ex 0)) arf ρ
def acI (aE:cN)(d:sJ.B):PL sJ IU:=let n3:=d.1.1;let n2:=d.1.2;let n1:=d.2.2;let n5:=n1.2.1;let n4:=n1.2.2;let y0:=bg n2 3;let y1:=n2==2;let y2:=n2==1;let y3:=decide (n2<3);ae y3 (ae y0 (ae y1 (opt (aE n1.1.2.2 n3 30 d.2.1) λak=>ae y0 (ae y1 (ret (ww ((n3,wI (n2+1)),ak.2,n1.1,n5,n4.1,ak.1))) (ae y2 (ret (ww ((n3,wI (n2+1)),ak.2,n1.1,n5,ak.1,n4.2))) (ret (ww ((n3,wI (n2+1)),ak.2,n1.1,ak.1,n4))))) no) (ae y2 (opt (aE n1.1.2.1 n3 30 d.2.1) λak=>ae y0 (ae y1 (ret (ww ((n3,wI (n2+1)),ak.2,n1.1,n5,n4.1,ak.1))) (ae y2 (ret (ww ((n3,wI (n2+1)),ak.2,n1.1,n5,ak.1,n4.2))) (ret (ww ((n3,wI (n2+1)),ak.2,n1.1,ak.1,n4))))) no) (opt (aE n1.1.1 n3 30 d.2.1) λak=>ae y0 (ae y1 (ret (ww ((n3,wI (n2+1)),ak.2,n1.1,n5,n4.1,ak.1))) (ae y2 (ret (ww ((n3,wI (n2+1)),ak.2,n1.1,n5,ak.1,n4.2))) (ret (ww ((n3,wI (n2+1)),ak.2,n1.1,ak.1,n4))))) no))) no) (ret (ws ((n3,n2,y3),d.2)))
def acJ:=bI (acI bk) 2000
def aaA (FX:OS)(iC:BX)(vH:BW)(aX:de)(bH:iM)(dR:LT sJ IU)(x0:Int)(x1:Int)(x2:Int)(x3:Bool):Pg aAE:=opt (FX x0 x1 x2 x3) λd=>ae (d.1.1==0&&(d.1.2.1==0&&(d.1.2.2==0&&true))) (opt iC λak=>ret ((1073741824,0,0,0),d.2)) (opt (vH d.1.1 d.1.2.1 d.1.2.2 d.2) λak=>opt (dR ((ak.1,0),ak.2,d.1,0,0,0)) λd=>opt (aX 1073741824 d.2.2.2.2.2 d.2.1) λaF=>ae (decide (aF.1<=16)) (ret ((0,1073741824,0,0),aF.2)) (opt (bH aF.1 (wI (0-d.2.2.2.2.1)) d.2.2.2.1 0 aF.2) λd=>ret d))
def BY:=λx0 x1 x2 x3=>(aaA Cp oA qd bX c9 acJ x0 x1 x2 x3).val
abbrev aaB:=OS×BX×BW×cN×de×iM×(LT sJ IU)
def amK (p:aaB):KK:=⟨[agV p.1,La p.2.1,Rp p.b.1,gu p.b.2.1,ia p.c.1,nG p.c.2.1],⟨[⟨7,(1::2::3::rg 8 12 (rg 21 27 [])),[]⟩],[fQ 7 1 sJ arh p.c.b],[],[],(some ⟨0,(rg 0 4 (rg 5 43 [])),[]⟩)⟩,1,160⟩
theorem aFT (p:aaB):LI (amK p) 7 sJ arh (acI p.b.2.1):=λ_ d c K=>by kernel_rfl
theorem aN2 (p:aaB):D2 (amK p) aAD (lf ahl) λb=>aaA p.1 p.2.1 p.b.1 p.c.1 p.c.2.1 p.c.b b.1.1 b.1.2.1 b.1.b b.2:=λb=>by kernel_rfl
abbrev amL:aaB:=(Cp,oA,qd,bk,bX,c9,acJ)
theorem aN3 [aA]:SC (aAF BY):=sc (kS (k:=amK amL) (.c atf (.c Rs (.c aao (.c hX (.c ji (.c pF (.nil _))))))) [7] [] ⟨kL (aFT amL),trivial⟩ trivial (aN2 amL))
def aef:=qa (pr (cu aS (c Fx (c (aa aDI) asu))) bJ)
def MJ:=qe aPT
abbrev O4:=MJ.B
abbrev Hb:=NI->NI->NI->NI->Bool->Option O4
def O5 (g:Hb):Ct:=(163,FC aef (lf MJ) (λb=>g b.1.1.1 b.1.1.2 b.1.2.1 b.1.b b.2))
def fM:=qs (st (pr (cu aS (us 4 (cu EK (cu aRY (cu aiu (cu NX (cu ap4 (c ai (us 13 (c ai (us 16 (cl ai (us 105 nil))))))))))))) (pl (c bE (c gC (c mG (c nQ abB)))) bK)))
def XO:=qs (st (pr (cu aS (us 4 (cu EK (cu aRY (cu aiu (cu NX (cu ap4 (c ai (us 13 (c ai (us 16 (c ai (cl ab (us 104 nil)))))))))))))) (pl (c bE (c gC (c mG (c nQ abB)))) bK)))
abbrev nZ:=XO.B
def XP {ρ:Type}:=@ef nZ ((.ex 2)) XO ρ
def CF (ay:bW)(d:fM.B):PL fM nZ:=let y0:=bg d.1.1 24;let y1:=bg d.1.2.2 24;let y2:=decide (d.1.2.2<24);let y3:=z4 d.1.1*24+z4 d.1.2.2;ae y2 (ae y0 (ae y1 (opt (ay (d.2.2.2.1 y3) d.2.1) λak=>ae y0 (ae y1 (ae (true&&wl (0+y3*1+1) 576) (ret (ww ((d.1.1,d.1.2.1,wI (d.1.2.2+1)),ak.2,d.2.2.1,λj=>bif z9 j y3 then ak.1 else d.2.2.2.1 j,d.2.2.2.2))) no) no) no) no) no) (ret (ws ((d.1.1,d.1.2.1,d.1.2.2,y2),d.2)))
def CG:=bI (CF aP) 2000
def eQ:=qs (st (pr (cu aS (us 7 (cu EK (cu azA (us 2 (cu ZS (cu NX (c ai (cu ap4 (us 48 aVl)))))))))) (pl (c bE (c gC (c afF (c HU abB)))) bK)))
def XQ:=qs (st (pr (cu aS (us 7 (cu EK (cu azA (us 2 (cu ZS (cu NX (c ai (cu ap4 (us 48 aVD)))))))))) (pl (c bE (c gC (c afF (c HU abB)))) bK)))
abbrev lF:=XQ.B
def XR {ρ:Type}:=@ef lF ((.ex 6)) XQ ρ
def wF (aC:bR)(d:eQ.B):PL eQ lF:=let n2:=d.1.2;let n1:=d.2.2.2;let y0:=z4 n2;let y1:=bg n2 48;let y2:=decide (n2<48);ae y2 (ae (bg d.1.1 24) (ae y1 (ae y1 (opt (aC (n1.2.1 (z4 d.1.1*48+y0)) (n1.1 y0) 30 d.2.1) λak=>ae y1 (ae (true&&wl (0+y0*1+1) 48) (ret (ww ((d.1.1,wI (n2+1)),ak.2,d.2.2.1,n1.1,n1.2.1,n1.2.2.1,λj=>bif z9 j y0 then ak.1 else n1.2.2.2 j))) no) no) no) no) no) (ret (ws ((d.1.1,n2,y2),d.2)))
def wG:=bI (wF aW) 2000
def eR:=qs (st (pr (cu aS (us 7 (cu EK (cu azA (us 2 (cu ZS (cu NX (c ai (cu ap4 (us 1 (c ai (c ai (c ai (us 76 (c ai (c ai (us 18 (cl ai (us 30 nil))))))))))))))))))) (pl (c bE (c gC (c afF (c HU abB)))) bK)))
def XS:=qs (st (pr (cu aS (us 7 (cu EK (cu azA (us 2 (cu ZS (cu NX (c ai (cu ap4 (us 1 (c ai (c ai (c ai (us 76 (c ai (c ai (us 18 aVF))))))))))))))))) (pl (c bE (c gC (c afF (c HU abB)))) bK)))
abbrev lG:=XS.B
def XT {ρ:Type}:=@ef lG ((.ex 10)) XS ρ
def wH (aC:bR)(aX:de)(d:eR.B):PL eR lG:=let n3:=d.2.2.2;let n1:=d.1.2.2;let n2:=n1.2.2.2;let y0:=bg n1.1 24;let y1:=z4 n2.2;let y2:=bg n2.2 48;let y3:=z4 n1.1*48+y1;let y4:=decide (n2.2<48);ae y4 (ae y0 (ae y2 (ae (bg d.1.1 24) (ae y2 (opt (aC n1.2.1 (n3.2.1 (z4 d.1.1*48+y1)) 30 d.2.1) λak=>opt (aX (n3.2.1 y3) ak.1 ak.2) λaF=>ae y0 (ae y2 (ae (true&&wl (0+y3*1+1) 1152) (ret (ww ((d.1.1,d.1.2.1,n1.1,n1.2.1,n1.2.2.1,n2.1,wI (n2.2+1)),aF.2,d.2.2.1,n3.1,λj=>bif z9 j y3 then aF.1 else n3.2.1 j,n3.2.2))) no) no) no) no) no) no) no) (ret (ws ((d.1.1,d.1.2.1,n1.1,n1.2.1,n1.2.2.1,n2.1,n2.2,y4),d.2)))
def wJ:=bI (wH aW bX) 2000
def fN:=qs (st (pr (cu aS (us 4 (cu EK (cu aRY (cu aiu (cu NX (cu ap4 (us 14 aVm)))))))) (pl (c bE (c gC (c mG (c nQ abB)))) bK)))
def XU:=qs (st (pr (cu aS (us 4 (cu EK (cu aRY (cu aiu (cu NX (cu ap4 (us 14 (c ai (cl ab (us 121 nil))))))))))) (pl (c bE (c gC (c mG (c nQ abB)))) bK)))
abbrev oc:=XU.B
def XV {ρ:Type}:=@ef oc ((.ex 0)) XU ρ
def CI (aG:cw)(pD:LT fM nZ)(d:fN.B):PL fN oc:=let y0:=z4 d.1;let y1:=bg d.1 24;let y2:=wI (24+d.1);let y3:=z4 y2;let y4:=decide (d.1<24);ae y4 (ae y1 (ae y1 (opt (aG (d.2.2.2.2.1 y0) 0 72057594037927936 d.2.1) λak=>ae (bg d.1 48) (ae (true&&wl (0+y0*1+1) 48) (ae (bg y2 48) (ae (true&&wl (0+y3*1+1) 48) (opt (pD ((d.1,d.1,0),ak.2,d.2.2.1,d.2.2.2.1,d.2.2.2.2.1,d.2.2.2.2.2.1,λj=>bif z9 j y3 then ak.1 else bif z9 j y0 then d.2.2.1.2 y0 else d.2.2.2.2.2.2 j)) λd=>ret (ww (wI (d.1.2.1+1),d.2))) no) no) no) no) no) no) (ret (ws ((d.1,y4),d.2)))
def CJ:=bI (CI aY CG) 2000
def eS:=qs (st (pr (cu aS (us 7 (cu EK (cu azA (us 2 (cu ZS (cu NX (c ai (cu ap4 (us 1 (c ai (us 78 (c ai (cl ai aVc)))))))))))))) (pl (c bE (c gC (c afF (c HU abB)))) bK)))
def XW:=qs (st (pr (cu aS (us 7 (cu EK (cu azA (us 2 (cu ZS (cu NX (c ai (cu ap4 (us 1 (c ai (us 78 (c ai (c ai (cl ab (us 48 nil)))))))))))))))) (pl (c bE (c gC (c afF (c HU abB)))) bK)))
abbrev od:=XW.B
def XX {ρ:Type}:=@ef od ((.ex 8)) XW ρ
def wK (bj:dM)(aE:cN)(ato:Xk)(l_5:LT eR lG)(d:eS.B):PL eS od:=let n2:=d.2.2.2.2;let n1:=d.1.2.2;let y0:=decide (n1.2<n1.1);ae y0 (ae (bg n1.2 24) (opt (bj 30 48 48 d.2.1 (λj=>n2.1 (0+z4 n1.2*48+j)) n2.2.2 false false) λak=>opt (aE ak.1 d.1.2.1 30 ak.2) λaF=>opt (ato n2.2.1.1 n2.2.1.2 n1.2 d.1.1 aF.1) λbA=>opt (l_5 ((d.1.1,d.1.2.1,n1.2,aF.1,n1.1,n1.2,0),aF.2,d.2.2.1,d.2.2.2.1,n2.1,bA,n2.2.2)) λd=>ret (ww ((d.1.1,d.1.2.1,d.1.2.2.2.2.1,wI (d.1.2.2.2.2.2.1+1)),d.2))) no) (ret (ws ((d.1.1,d.1.2.1,n1.1,n1.2,y0),d.2)))
def wL:=bI (wK bx bk ua wJ) 2000
def fO:=qs (st (pr (cu aS (us 7 (cu EK (cu azA (us 2 (cu ZS (cu NX (cl ai (us 132 nil))))))))) (pl (c bE (c gC (c afF (c HU (cl gC nil))))) bK)))
def atp:=qs (st (pr (cu aS (us 7 (cu EK (cu azA (us 2 (cu ZS (cu NX (c ai (us 45 (c ai (cl ab (us 85 nil)))))))))))) (pl (c bE (c gC (c afF (c HU (cl gC nil))))) bK)))
abbrev oe:=((Int×Bool)×Bool×(NI×NI)×NI×NI×NI×NI)
def XY {ρ:Type}(x:oe)(K:AX->St->Option ρ):Option ρ:=(λd=>K (.ex 4) (atp.em ((d.1.1,d.1),d.2))) x
def wM (aG:cw)(bj:dM)(l_3:LT eQ lF)(l_4:LT eS od)(d:fO.B):PL fO oe:=let y0:=decide (d.1>=0);ae y0 (opt (l_3 ((d.1,0),d.2.1,d.2.2.1,d.2.2.2.1,d.2.2.2.2.1,d.2.2.2.2.2,λx=>0)) λd=>let n1:=d.2.2.2.2;let y0:=z4 d.1.1;let y1:=bg d.1.1 24;ae y1 (opt (bj 30 48 48 d.2.1 (λj=>n1.1 (0+y0*48+j)) n1.2.2 false false) λak=>opt (aG ak.1 1 72057594037927936 ak.2) λaF=>ae y1 (ae (true&&wl (276+y0*1+1) 300) (opt (l_4 ((d.1.1,aF.1,d.1.1,0),aF.2,d.2.2.1,d.2.2.2.1,n1.1,(n1.2.1.1,λj=>bif z9 j y0 then aF.1 else n1.2.1.2 j),n1.2.2)) λd=>ret (ww (wI (d.1.1-1),d.2.1,d.2.2.1,d.2.2.2.1,d.2.2.2.2.1,d.2.2.2.2.2.1))) no) no) no) (ret (ws ((d.1,y0),d.2)))
def wN:=bI (wM aY bx wG wL) 2000
def Bq (oF:vS)(ayx:OZ)(dR:LT fN oc)(Km:LT fO oe)(x0:Nat->Int)(x1:Nat->Int)(x2:Nat->Int)(x3:Nat->Int)(x4:Bool):Pg O4:=opt (oF x0 x1 x4) λd=>opt (dR (0,d.2,d.1,x2,x3,(λx=>0,λx=>0),λx=>0)) λd=>opt (ayx d.2.2.1.1 d.2.2.1.2 d.2.1 d.2.2.2.1) λak=>opt (Km (23,ak.1,d.2.2.2.2.2.1,d.2.2.2.2.2.2,ak.2,λx=>0,λx=>0)) λd=>ret (d.2.2.2.2.2,d.2.1)
def gI:=λx0 x1 x2 x3 x4=>(Bq fS qZ CJ wN x0 x1 x2 x3 x4).val
abbrev mj:=vS×cw×bW×OZ×bR×dM×cN×Xk×de×(LT fM nZ)×(LT eQ lF)×(LT eR lG)×(LT fN oc)×(LT eS od)×(LT fO oe)
def oG (p:mj):KK:=⟨[GY p.1,dZ p.2.1,dr p.b.1,aeb p.b.2.1,eT p.c.1,lV p.c.2.1,gu p.c.b.1,atj p.c.b.2.1,ia p.d.1],⟨[⟨4,(rg 1 4 (rg 10 14 (rg 25 122 []))),[]⟩,⟨8,(rg 1 4 (rg 11 13 (rg 25 16 (rg 42 105 [])))),[]⟩,⟨16,(rg 1 7 (10::11::rg 15 132 [])),[]⟩,⟨20,(rg 1 7 (10::11::rg 16 48 (rg 65 82 []))),[]⟩,⟨27,(rg 1 7 (10::11::16::rg 18 78 (rg 98 49 []))),[]⟩,⟨32,(rg 1 7 (10::11::16::rg 20 76 (rg 98 18 (rg 117 30 [])))),[]⟩],[fQ 8 1 fM XP p.d.2.1,fQ 20 1 eQ XR p.d.b.1,fQ 32 1 eR XT p.d.b.2.1,fQ 4 1 fN XV p.d.c.1,fQ 27 1 eS XX p.d.c.2.1,fQ 16 1 fO XY p.d.c.b],[],[],(some ⟨0,(rg 0 8 (rg 9 138 [])),[]⟩)⟩,1,163⟩
theorem apm (p:mj):LI (oG p) 8 fM XP (CF p.b.1):=λ_ d c K=>by kernel_rfl
theorem apn (p:mj):LI (oG p) 20 eQ XR (wF p.c.1):=λ_ d c K=>by kernel_rfl
theorem apo (p:mj):LI (oG p) 32 eR XT (wH p.c.1 p.d.1):=λ_ d c K=>by kernel_rfl
theorem apq (p:mj):LI (oG p) 4 fN XV (CI p.2.1 p.d.2.1):=λ_ d c K=>by kernel_rfl
theorem apr (p:mj):LI (oG p) 27 eS XX (wK p.c.2.1 p.c.b.1 p.c.b.2.1 p.d.b.2.1):=λ_ d c K=>by kernel_rfl
theorem aps (p:mj):LI (oG p) 16 fO XY (wM p.2.1 p.c.2.1 p.d.b.1 p.d.c.2.1):=λ_ d c K=>by kernel_rfl
theorem ayy (p:mj):D2 (oG p) aef (lf MJ) λb=>Bq p.1 p.b.2.1 p.d.c.1 p.d.c.b b.1.1.1 b.1.1.2 b.1.2.1 b.1.b b.2:=λb=>by kernel_rfl
abbrev oH:mj:=(fS,aY,aP,qZ,aW,bx,bk,ua,bX,CG,wG,wJ,CJ,wL,wN)
theorem aeg [aA]:SC (O5 gI):=sc (kS (k:=oG oH) (.c OV (.c eP (.c dx (.c ayr (.c fA (.c nj (.c hX (.c aFE (.c ji (.nil _)))))))))) [4,8,16,20,27,32] [] ⟨kL (apq oH),⟨kL (apm oH),⟨kL (aps oH),⟨kL (apn oH),⟨kL (apr oH),⟨kL (apo oH),trivial⟩⟩⟩⟩⟩⟩ trivial (ayy oH))
def aAG:=qa (pl iA nil)
def ahm:=qe Fv
abbrev aAH:=ahm.B
abbrev amM:=Int->Option aAH
def aAI (g:amM):Ct:=(214,FC aAG (lf ahm) (λb=>g b))
def Ry (x0:Int):Pg aAH:=ae (decide (x0>=0)) (ret (decide (x0<24))) (ret false)
def yX:=λx0=>(Ry x0).val
theorem aN4:D0 [] 214 aAG (lf ahm) λb=>Ry b:=λb=>by kernel_rfl
theorem aN5 [aA]:SC (aAI yX):=s0 (.nil _) aN4
def aaC:=qa (pr (cu aS iA) bJ)
def Kn:=qe qu
abbrev aaD:=Kn.B
abbrev MK:=Int->Bool->Option aaD
def aaE (g:MK):Ct:=(215,FC aaC (lf Kn) (λb=>g b.1 b.2))
def EU (aG:cw)(x0:Int)(x1:Bool):Pg aaD:=opt (aG x0 1 72057594037927936 x1) λd=>ret d
def pG:=λx0 x1=>(EU aY x0 x1).val
theorem avM:∀aG,D0 [dZ aG] 215 aaC (lf Kn) λb=>EU aG b.1 b.2:=λ_ b=>by kernel_rfl
theorem avN [aA]:SC (aaE pG):=s0 (.c eP (.nil _)) (avM aY)
def amN:=qa (dp (cu aS (c Fx aPr)) λa=>(c xL (cl (cl (gs a.b.1 nN) nil) nil)))
def TE:=qe aWB
abbrev XZ:=TE.B
abbrev jb:=NI->NI->Int->Nat->Bool->NI->Bool->Option XZ
def Br (g:jb):Ct:=(161,vA 3 [.i .i64] (FC amN (lf TE) (λb=>g b.1.1.1 b.1.1.2 b.1.2.1 b.1.b.1 b.2.1 b.b b.1.b.2)))
def gO:=qs (st (dp (cu aS (us 1 (c ai (us 2 (cu ZR (us 2 (cu aIm (cu aIo (cu ap5 (us 4 (c zU (c ai aJO)))))))))))) λa=>(pl (c bE (c (so (cl (gs a.2.1.1 nN) nil)) aW2)) bK)))
def ayz:=qs (st (pr (cu aS (us 1 (c ai (us 2 (cu ZR (us 2 (cu aIm (cu aIo (cu ap5 (us 4 (c zU (c ai aJW)))))))))))) (pl (c bE (c HW aW2)) bK)))
abbrev re:=((Int×(Nat×Bool)×Int×Int×Bool)×Bool×NI×(NI×NI)×(NI×NI)×DK×NI)
def aeh {ρ:Type}(x:re)(K:AX->St->Option ρ):Option ρ:=(λd=>K (.ex 0) (ayz.em (d.1,d.2.1,(d.1.2.1.1,d.b.1),d.b.2))) x
def Hc (aN6:amM)(avO:MK)(d:gO.B):PL gO re:=let n3:=d.2.2;let n2:=d.1.2.2;let n1:=(d.1.1,d.1.2.1,n2.1,wI (n2.2+1));let y0:=wI (d.1.1+n2.2);let y1:=z4 y0;let y2:=bg y0 24;let y3:=decide (n2.2<n2.1);let y4:=y1*24+y1;ae y3 (ae (bg n2.2 d.1.2.1.1) (opt (aN6 y0) λak=>ae ak (opt (avO (n3.1 (z4 n2.2)) d.2.1) λaF=>ae y2 (ae y2 (ae (true&&wl (0+y4*1+1) 576) (ae y2 (ae (true&&wl (0+y1*1+1) 24) (ret (ww (n1,aF.2,n3.1,n3.2.1,n3.2.2.1,λj=>bif z9 j y4 then 0 else n3.2.2.2.1 j,λj=>bif z9 j y1 then aF.1 else n3.2.2.2.2 j))) no) no) no) no) no) (ret (ww (n1,d.2)))) no) (ret (ws ((d.1.1,d.1.2.1,n2.1,n2.2,y3),d.2)))
def He:=bI (Hc yX pG) 2000
def FY (TF:DL)(vZ:Hb)(dR:LT gO re)(x0:Nat->Int)(x1:Nat->Int)(x2:Int)(x3:Nat)(x4:Bool)(x5:Nat->Int)(w0:Bool):Pg XZ:=opt TF λd=>ae (z9 x3 x3) (opt (dR ((x2,(x3,w0),wr x3,0),x4,x5,(x0,x1),(λx=>0,λx=>0),d,λx=>0)) λd=>opt (vZ d.2.2.2.1.1 d.2.2.2.1.2 d.2.2.2.2.2.1 d.2.2.2.2.2.2 d.2.1) λd=>ret d) no
def cM:=λx0 x1 x2 x3 x4 x5 w0=>(FY nF gI He x0 x1 x2 x3 x4 x5 w0).val
abbrev ML:=DL×amM×MK×Hb×(LT gO re)
def X0 (p:ML):KK:=⟨[Tp p.1,aAI p.2.1,aaE p.b.1,O5 p.b.2.1],⟨[⟨4,(1::3::4::6::7::rg 11 4 (rg 18 24 [])),[]⟩],[fQ 4 2 gO aeh p.c],[0],[],(some ⟨0,(rg 0 8 (rg 9 33 [])),[]⟩)⟩,2,161⟩
theorem avP (p:ML):LI (X0 p) 4 gO aeh (Hc p.2.1 p.b.1):=λ_ d c K=>by kernel_rfl
theorem aFU (p:ML):D2 (X0 p) amN (lf TE) λb=>FY p.1 p.b.2.1 p.c b.1.1.1 b.1.1.2 b.1.2.1 b.1.b.1 b.2.1 b.b b.1.b.2:=λb=>by kernel_rfl
abbrev X1:ML:=(nF,yX,pG,gI,He)
theorem FZ [aA]:SC (Br cM):=sc (Sound.nil 3 [.i .i64]<|kS (k:=X0 X1) (.c aiZ (.c aN5 (.c avN (.c aeg (.nil _))))) [4] [] ⟨kL (avP X1),trivial⟩ trivial (aFU X1))
def avQ:=qa (pr (cu aS afK) bJ)
def acK:=qe aDR
abbrev avR:=acK.B
abbrev avS:=NI->Int->Bool->Option avR
def avT (g:avS):Ct:=(165,FC avQ (lf acK) (λb=>g b.1.1 b.1.2 b.2))
def qj:=qs (st (pr (cu aS (us 3 (cu Uu (us 1 (cu EJ (c ai (us 4 (cl ai (us 14 nil))))))))) (pl (c bE Oo) bK)))
def amO:=qs (st (pr (cu aS (us 3 (cu Uu (us 1 (cu EJ (c ai (us 4 (c ai (cl ab (us 13 nil)))))))))) (pl (c bE Oo) bK)))
abbrev F1:=amO.B
def amP {ρ:Type}:=@ef F1 ((.ex 0)) amO ρ
def X2 (aC:bR)(aG:cw)(d:qj.B):PL qj F1:=let y0:=z4 d.1.2;let y1:=bg d.1.2 24;let y2:=decide (d.1.2<24);ae y2 (ae y1 (opt (aC (d.2.2.1 y0) d.1.1 30 d.2.1) λak=>opt (aG ak.1 0 72057594037927936 ak.2) λaF=>ae y1 (ae (true&&wl (0+y0*1+1) 24) (ret (ww ((d.1.1,wI (d.1.2+1)),aF.2,λj=>bif z9 j y0 then aF.1 else d.2.2.1 j,d.2.2.2))) no) no) no) (ret (ws ((d.1.1,d.1.2,y2),d.2)))
def X3:=bI (X2 aW aY) 2000
def ahn (oE:vY)(dR:LT qj F1)(x0:Nat->Int)(x1:Int)(x2:Bool):Pg avR:=opt (oE x1 x2) λd=>opt (dR ((d.1,0),d.2,x0,λx=>0)) λd=>ret (d.2.2.1,d.2.1)
def MM:=λx0 x1 x2=>(ahn ko X3 x0 x1 x2).val
abbrev Vy:=vY×bR×cw×(LT qj F1)
def aho (p:Vy):KK:=⟨[Ha p.1,eT p.2.1,dZ p.b.1],⟨[⟨3,(1::2::3::5::rg 8 4 (rg 13 14 [])),[]⟩],[fQ 3 1 qj amP p.b.2],[],[],(some ⟨0,(rg 0 6 (rg 7 20 [])),[]⟩)⟩,1,165⟩
theorem aCn (p:Vy):LI (aho p) 3 qj amP (X2 p.2.1 p.b.1):=λ_ d c K=>by kernel_rfl
theorem aLj (p:Vy):D2 (aho p) avQ (lf acK) λb=>ahn p.1 p.b.2 b.1.1 b.1.2 b.2:=λb=>by kernel_rfl
abbrev ahp:Vy:=(ko,aW,aY,X3)
theorem aLk [aA]:SC (avT MM):=sc (kS (k:=aho ahp) (.c O3 (.c fA (.c eP (.nil _)))) [3] [] ⟨kL (aCn ahp),trivial⟩ trivial (aLj ahp))
def ai4:=qa (pr (cu aS (c Fx afK)) bJ)
def O6:=qe (res (pu (app 1 373) (pr mF (cl aWI nil))))
abbrev ai5:=O6.B
abbrev JF:=NI->NI->NI->Int->Bool->Option ai5
def TG (g:JF):Ct:=(273,FC ai4 (lf O6) (λb=>g b.1.1.1 b.1.1.2 b.1.2.1 b.1.b b.2))
def jN:=qs (st (pr (cu aS (us 2 (c ai (us 2 (cu Uu (us 2 (cu aIp (us 9 aVn)))))))) (pl (c bE (c nQ (cl SL nil))) bK)))
def aaF:=qs (st (pr (cu aS (us 2 (c ai (us 2 (cu Uu (us 2 (cu aIp (us 9 (c ai (cl ab (us 97 nil))))))))))) (pl (c bE (c nQ (cl SL nil))) bK)))
abbrev tD:=aaF.B
def aaG {ρ:Type}:=@ef tD ((.ex 0)) aaF ρ
def EV (ay:bW)(d:jN.B):PL jN tD:=let y0:=z4 d.1.2;let y1:=bg d.1.2 24;let y2:=decide (d.1.2<24);ae y2 (ae y1 (opt (ay (d.2.2.1 y0) d.2.1) λak=>ae y1 (ae (true&&wl (0+y0*1+1) 24) (ret (ww ((d.1.1,wI (d.1.2+1)),ak.2,λj=>bif z9 j y0 then ak.1 else d.2.2.1 j,d.2.2.2))) no) no) no) (ret (ws ((d.1.1,d.1.2,y2),d.2)))
def EW:=bI (EV aP) 2000
def jO:=qs (st (dp (cu aS (us 5 (cu Uu (us 2 (cu aIp (us 1 (c ai (c aWl (us 24 (c ai (us 3 (c ai aVo)))))))))))) λa=>(pl (c bE (c nQ (c SL (cl (so (cl (gs a.2.1 nN) nil)) nil)))) bK)))
def avU:=qs (st (pr (cu aS (us 5 (cu Uu (us 2 (cu aIp (us 1 (c ai (c aWl (us 24 (c ai (us 3 (c ai (c ai (cl ab (us 74 nil))))))))))))))) (pl (c bE (c nQ (c SL abz))) bK)))
abbrev tE:=((Int×Nat×Int×Int×Int×Bool)×Bool×NI×(NI×NI×NI×NI×NI)×NI)
def aaH {ρ:Type}(x:tE)(K:AX->St->Option ρ):Option ρ:=(λd=>K (.ex 4) (avU.em (d.1,d.2.1,d.b.1,d.b.2.1,d.1.2.1,d.c))) x
def EX (Rw:Mq)(d:jO.B):PL jO tE:=let n2:=d.2.2.2;let n1:=d.1.2.2;let y0:=d.1.2.1+1;let y1:=decide (n1.2.2<n1.2.1);ae y1 (opt (Rw n2.1.1 n2.1.2.1 n1.2.2 d.1.1) λak=>ae (wl (y0*8) 140737488355328) (ret (ww ((d.1.1,y0,n1.1,n1.2.1,wI (n1.2.2+1)),d.2.1,d.2.2.1,n2.1,λj=>bif z9 j d.1.2.1 then ak else n2.2 j))) no) (ret (ws ((d.1.1,d.1.2.1,n1.1,n1.2.1,n1.2.2,y1),d.2)))
def EY:=bI (EX wA) 2000
def jP:=qs (st (pr (cu aS (us 5 (cu Uu (us 2 (cu aIp (us 27 aVp)))))) (pl (c bE (c nQ (cl SL nil))) bK)))
def aaI:=qs (st (pr (cu aS (us 5 (cu Uu (us 2 (cu aIp (us 27 (c ai (cl ab (us 79 nil))))))))) (pl (c bE (c nQ (cl SL nil))) bK)))
abbrev tF:=aaI.B
def aaJ {ρ:Type}:=@ef tF ((.ex 2)) aaI ρ
def EZ (bj:dM)(aC:bR)(cA:fB)(Km:LT jO tE)(d:jP.B):PL jP tF:=let y0:=decide (d.1<24);ae y0 (ae true (opt (Km ((d.1,0,d.1,wI (d.1+1),0),d.2.1,d.2.2.1,d.2.2.2,λx=>0)) λd=>let n2:=d.2.2;let n1:=n2.2.1.2;let n3:=n1.2.2;let y0:=z4 d.1.1;let y1:=bg d.1.1 24;let y2:=y0*1;let y3:=wI (d.1.1+1);let y4:=z4 y3;let y5:=wl (0+y2+1) 24;let y6:=z9 y0 y0;ae (HF y3 24) (ae (z9 y4 y4) (ae (z9 d.1.2.1 d.1.2.1) (opt (bj 30 y4 d.1.2.1 d.2.1 n2.1 n2.2.2 false true) λak=>let ur:=bif y6 then ak.1 else n1.2.1 y0;ae y1 (ae (y5&&wl (300+y2+1) 373) (ae y1 (ae y5 (ae y1 (ae y5 (opt (aC (n1.1 y0) ur 30 ak.2) λaF=>ae y1 (ae (y5&&wl (324+y2+1) 373) (ae (bg d.1.1 25) (ae y1 (ae y5 (ae y1 (ae y5 (opt (aC ur (bif y6 then aF.1 else n3.1 y0) 30 aF.2) λbA=>opt (cA 2 bA.2 (cr (n3.2 y0) [bA.1,n3.2 y0]) true) λcD=>ae (bg y3 25) (ae (true&&wl (348+y4*1+1) 373) (ret (ww (wI (d.1.2.2.1+1),cD.2,n2.1,n2.2.1.1,n1.1,λj=>bif z9 j y0 then ak.1 else n1.2.1 j,λj=>bif z9 j y0 then aF.1 else n3.1 j,λj=>bif z9 j y4 then cD.1 else n3.2 j))) no) no) no) no) no) no) no) no) no) no) no) no) no) no) no) no) no) no) no) (ret (ws ((d.1,y0),d.2)))
def E0:=bI (EZ bx aW cJ EY) 2000
def JG (oF:vS)(aG:cw)(dR:LT jN tD)(pD:LT jP tF)(x0:Nat->Int)(x1:Nat->Int)(x2:Nat->Int)(x3:Int)(x4:Bool):Pg ai5:=opt (oF x0 x1 x4) λd=>opt (dR ((x3,0),d.2,x2,d.1.1,d.1.2,λx=>0,λx=>0,λx=>0)) λd=>let n1:=d.2.2.2;opt (aG d.1.1 1 72057594037927936 d.2.1) λak=>opt (pD (0,ak.2,d.2.2.1,n1.1,n1.2.1,n1.2.2.1,n1.2.2.2.1,λj=>bif z9 j 0 then ak.1 else n1.2.2.2.2 j)) λd=>ret (d.2.1,d.2.2.2)
def nI:=λx0 x1 x2 x3 x4=>(JG fS aY EW E0 x0 x1 x2 x3 x4).val
abbrev yA:=vS×bW×cw×Mq×dM×bR×fB×(LT jN tD)×(LT jO tE)×(LT jP tF)
def DN (p:yA):KK:=⟨[GY p.1,dr p.2.1,dZ p.b.1,amc p.b.2.1,lV p.c.1,eT p.c.2.1,pf p.c.b.1],⟨[⟨3,(1::2::4::5::7::8::rg 10 9 (rg 20 98 [])),[]⟩,⟨9,(rg 1 5 (7::8::rg 10 27 (rg 38 80 []))),[]⟩,⟨13,(rg 1 5 (7::8::10::rg 13 24 (38::39::40::rg 43 75 []))),[(12,[.i .i64])]⟩],[fQ 3 1 jN aaG p.c.b.2.1,fQ 13 1 jO aaH p.d.1,fQ 9 1 jP aaJ p.d.2],[],[],(some ⟨0,(rg 0 8 (rg 9 109 [])),[]⟩)⟩,1,273⟩
theorem atq (p:yA):LI (DN p) 3 jN aaG (EV p.2.1):=λ_ d c K=>by kernel_rfl
theorem atr (p:yA):LI (DN p) 13 jO aaH (EX p.b.2.1):=λ_ d c K=>by kernel_rfl
theorem ats (p:yA):LI (DN p) 9 jP aaJ (EZ p.c.1 p.c.2.1 p.c.b.1 p.d.1):=λ_ d c K=>by kernel_rfl
theorem aCo (p:yA):D2 (DN p) ai4 (lf O6) λb=>JG p.1 p.b.1 p.c.b.2.1 p.d.2 b.1.1.1 b.1.1.2 b.1.2.1 b.1.b b.2:=λb=>by kernel_rfl
abbrev DO:yA:=(fS,aP,aY,wA,bx,aW,cJ,EW,EY,E0)
theorem ai6 [aA]:SC (TG nI):=sc (kS (k:=DN DO) (.c OV (.c dx (.c eP (.c avr (.c nj (.c fA (.c rP (.nil _)))))))) [3,9,13] [] ⟨kL (atq DO),⟨kL (ats DO),⟨kL (atr DO),trivial⟩⟩⟩ trivial (aCo DO))
def NY:=qa (pr (cu aS (c Fx afK)) bJ)
def CL:=qe qu
abbrev NZ:=CL.B
abbrev N3:=NI->NI->NI->Int->Bool->Option NZ
def N4 (g:N3):Ct:=(268,FC NY (lf CL) (λb=>g b.1.1.1 b.1.1.2 b.1.2.1 b.1.b b.2))
def Eu (yB:JF)(x0:Nat->Int)(x1:Nat->Int)(x2:Nat->Int)(x3:Int)(x4:Bool):Pg NZ:=opt (yB x0 x1 x2 x3 x4) λd=>ret (d.2.2.2.2.2 24,d.1)
def qI:=λx0 x1 x2 x3 x4=>(Eu nI x0 x1 x2 x3 x4).val
theorem akh:∀yB,D0 [TG yB] 268 NY (lf CL) λb=>Eu yB b.1.1.1 b.1.1.2 b.1.2.1 b.1.b b.2:=λ_ b=>by kernel_rfl
theorem aki [aA]:SC (N4 qI):=s0 (.c ai6 (.nil _)) (akh nI)
def aAJ:=qa (pl (c afC aDM) nil)
def ahq:=qe HT
abbrev aAK:=ahq.B
abbrev aAL:=Int->Int->Int->Int->Option aAK
def aAM (g:aAL):Ct:=(274,FC aAJ (lf ahq) (λb=>g b.1.1 b.1.2 b.2.1 b.b))
def amQ (x0:Int)(x1:Int)(x2:Int)(x3:Int):Pg aAK:=let y0:=x0==x2;ae (y0&&(x1==x3&&true)) (ret 0) (ae (decide (x0<x2)) (ret (-1)) (ae y0 (ae (decide (x1<x3)) (ret (-1)) (ret 1)) (ret 1)))
def Rz:=λx0 x1 x2 x3=>(amQ x0 x1 x2 x3).val
theorem aN7:D0 [] 274 aAJ (lf ahq) λb=>amQ b.1.1 b.1.2 b.2.1 b.b:=λb=>by kernel_rfl
theorem aN8 [aA]:SC (aAM Rz):=s0 (.nil _) aN7
def amR:=qa (pl Fw nil)
def TH:=qe Fv
abbrev amS:=TH.B
abbrev amT:=Int->Int->Int->Option amS
def amU (g:amT):Ct:=(269,FC amR (lf TH) (λb=>g b.1 b.2.1 b.b))
def X4 (ay:bW)(cU:oy)(aaK:aAL)(x0:Int)(x1:Int)(x2:Int):Pg amS:=opt (ay x0 false) λd=>opt (ay x1 d.2) λak=>ae (decide (x2<1)) (ret false) (ae (decide (x2>1000)) (ret false) (ae (decide (ak.1<1)) (ret false) (opt (cU d.1 d.1) λd=>opt (cU (wI (wI (x2*x2)*65536)) ak.1) λaF=>opt (aaK d.1 d.2 aF.1 aF.2) λd=>ret (decide (d<=0)))))
def F2:=λx0 x1 x2=>(X4 aP fE Rz x0 x1 x2).val
theorem aFV:∀ay cU aaK,D0 [dr ay,yK cU,aAM aaK] 269 amR (lf TH) λb=>X4 ay cU aaK b.1 b.2.1 b.b:=λ_ _ _ b=>by kernel_rfl
theorem aFW [aA]:SC (amU F2):=s0 (.c dx (.c BU (.c aN8 (.nil _)))) (aFV aP fE Rz)
def aaL:=qa (pr (cu aS (c Fx afK)) bJ)
def Ko:=qe (res (pr (rH (c akP (c afG afB))) (pl mF nil)))
abbrev aaM:=Ko.B
abbrev aaN:=NI->NI->NI->Int->Bool->Option aaM
def aaO (g:aaN):Ct:=(270,FC aaL (lf Ko) (λb=>g b.1.1.1 b.1.1.2 b.1.2.1 b.1.b b.2))
def gP:=qs (st (pr (cu aS (us 7 (cu EK (cu EJ (us 1 (cu aIq (cu NX (cu ap5 (c ai (c ai (us 13 (c ai (us 52 (c ai (cl ai (us 65 nil)))))))))))))))) (pl (c bE (c gC (c nQ (c SL (c gC J3))))) bK)))
def UA:=qs (st (pr (cu aS (us 7 (cu EK (cu EJ (us 1 (cu aIq (cu NX (cu ap5 (c ai (c ai (us 13 (c ai (us 52 (c ai (c ai (cl ab (us 64 nil))))))))))))))))) (pl (c bE (c gC (c nQ (c SL (c gC J3))))) bK)))
abbrev pW:=UA.B
def UB {ρ:Type}:=@ef pW ((.ex 2)) UA ρ
def AJ (Rw:Mq)(aC:bR)(cA:fB)(ato:Xk)(d:gP.B):PL gP pW:=let n4:=d.1.1;let n3:=d.1.2;let n2:=d.2.2.2.2;let n1:=n3.2.2;let y0:=z4 n4;let y1:=z4 n1.2;let y2:=bg n1.2 24;let y3:=decide (n1.2<n1.1);ae y3 (opt (Rw n2.1.1 n2.1.2.1 n1.2 n4) λak=>ae y2 (opt (aC (n2.2.2 y1) n3.1 44 d.2.1) λaF=>opt (cA 2 aF.2 (cr ak [aF.1,ak]) true) λbA=>opt (ato n2.2.1.1 n2.2.1.2 n1.2 n4 bA.1) λcD=>ae y2 (ae (bg n4 24) (ae (wl (0+y0*1+1) 24) (opt (aC ak (n2.1.2.2.2.1 y0) 30 bA.2) λeU=>opt (cA 2 eU.2 (cr (n2.2.2 y1) [eU.1,n2.2.2 y1]) true) λc8=>ae y2 (ae (true&&wl (0+y1*1+1) 24) (ret (ww ((n4,n3.1,n3.2.1,n1.1,wI (n1.2+1)),c8.2,d.2.2.1,d.2.2.2.1,n2.1,cD,λj=>bif z9 j y1 then c8.1 else n2.2.2 j))) no) no) no) no) no) no) (ret (ws ((n4,n3.1,n3.2.1,n1.1,n1.2,y3),d.2)))
def AK:=bI (AJ wA aW cJ ua) 2000
def gQ:=qs (st (pr (cu aS (us 7 (cu EK (cu EJ (us 1 (cu aIq (cu NX (cu ap5 (us 4 (cu (app 6 24) (us 107 aVk))))))))))) (pl (c bE (c gC (c nQ (c SL (c gC Oo))))) bK)))
def UC:=qs (st (pr (cu aS (us 7 (cu EK (cu EJ (us 1 (cu aIq (cu NX (cu ap5 (us 4 (cu (app 6 24) (us 107 (c ai aPf)))))))))))) (pl (c bE (c gC (c nQ (c SL (c gC Oo))))) bK)))
abbrev pX:=UC.B
def UD {ρ:Type}:=@ef pX ((.ex 4)) UC ρ
def AL (aE:cN)(d:gQ.B):PL gQ pX:=let n1:=d.2.2.2.2;let y0:=z4 d.1;let y1:=bg d.1 24;let y2:=decide (d.1<24);ae y2 (ae y1 (opt (aE (n1.2.2.1 y0) (n1.1.2.2.2.2 24) 30 d.2.1) λak=>ae y1 (ae (true&&wl (0+y0*1+1) 24) (ret (ww (wI (d.1+1),ak.2,d.2.2.1,d.2.2.2.1,n1.1,n1.2.1,n1.2.2.1,λj=>bif z9 j y0 then ak.1 else n1.2.2.2 j))) no) no) no) (ret (ws ((d.1,y2),d.2)))
def AM:=bI (AL bk) 2000
def gR:=qs (st (pr (cu aS (us 7 (cu EK (cu EJ (us 1 (cu aIq (cu NX (cu ap5 (us 15 (cl ai (us 119 nil))))))))))) (pl (c bE (c gC (c nQ (c SL (c gC J3))))) bK)))
def UE:=qs (st (pr (cu aS (us 7 (cu EK (cu EJ (us 1 (cu aIq (cu NX (cu ap5 (us 15 (c ai (cl ab (us 118 nil)))))))))))) (pl (c bE (c gC (c nQ (c SL (c gC J3))))) bK)))
abbrev pY:=UE.B
def UF {ρ:Type}:=@ef pY ((.ex 0)) UE ρ
def AN (av:cj)(aG:cw)(aE:cN)(pD:LT gP pW)(d:gR.B):PL gR pY:=let n1:=d.2.2.2.2;let n2:=n1.1.2.2;let y0:=z4 d.1;let y1:=bg d.1 25;let y2:=bg d.1 24;let y3:=y0*1;let y4:=wI (d.1+1);let y5:=wl (0+y3+1) 24;let y6:=decide (d.1<24);ae y6 (ae y2 (ae y5 (ae y1 (ae (bg y4 25) (opt (av (n1.1.2.1 y0) (n2.2.2 y0) (n2.2.2 (z4 y4)) d.2.1) λak=>opt (aG ak.1 1 72057594037927936 ak.2) λaF=>ae y2 (ae (true&&wl (276+y3+1) 300) (ae y2 (ae y5 (ae y1 (opt (aE (n2.1 y0) (n2.2.2 y0) 44 aF.2) λbA=>ae y2 (ae y5 (ae y2 (ae (true&&y5) (opt (pD ((d.1,wI (0-bA.1),d.1,d.1,0),bA.2,d.2.2.1,d.2.2.2.1,n1.1,(n1.2.1.1,λj=>bif z9 j y0 then aF.1 else n1.2.1.2 j),λj=>bif z9 j y0 then n2.2.1 y0 else n1.2.2 j)) λd=>ret (ww (wI (d.1.2.2.1+1),d.2))) no) no) no) no) no) no) no) no) no) no) no) no) no) (ret (ws ((d.1,y6),d.2)))
def AO:=bI (AN aU aY bk AK) 2000
def E1 (yB:JF)(Km:LT gQ pX)(dR:LT gR pY)(x0:Nat->Int)(x1:Nat->Int)(x2:Nat->Int)(x3:Int)(x4:Bool):Pg aaM:=opt (yB x0 x1 x2 x3 x4) λd=>opt (dR (0,d.1,(λx=>0,λx=>0),λx=>0,d.2,(d.2.1,d.2.2.1),λx=>0)) λd=>opt (Km (0,d.2.1,d.2.2.1,d.2.2.2.1,d.2.2.2.2.1,d.2.2.2.2.2.1,d.2.2.2.2.2.2,λx=>0)) λd=>ret ((d.2.2.2.2.2.1,d.2.2.2.2.2.2.2,d.2.2.2.2.1.2.2.2.2 24),d.2.1)
def pH:=λx0 x1 x2 x3 x4=>(E1 nI AM AO x0 x1 x2 x3 x4).val
abbrev tG:=JF×cj×cw×cN×Mq×bR×fB×Xk×(LT gP pW)×(LT gQ pX)×(LT gR pY)
def yY (p:tG):KK:=⟨[TG p.1,cZ p.2.1,dZ p.b.1,gu p.b.2.1,amc p.c.1,eT p.c.2.1,pf p.c.b.1,atj p.c.b.2.1],⟨[⟨5,(rg 1 7 (10::rg 14 15 (rg 30 119 []))),[]⟩,⟨11,(rg 1 7 (10::rg 16 13 (rg 30 52 (rg 84 65 [])))),[]⟩,⟨20,(rg 1 7 (10::rg 14 4 (rg 19 107 (rg 127 22 [])))),[]⟩],[fQ 11 1 gP UB p.d.1,fQ 20 1 gQ UD p.d.2.1,fQ 5 1 gR UF p.d.b],[],[],(some ⟨0,(rg 0 8 (rg 11 138 [])),[]⟩)⟩,1,270⟩
theorem amV (p:tG):LI (yY p) 11 gP UB (AJ p.c.1 p.c.2.1 p.c.b.1 p.c.b.2.1):=λ_ d c K=>by kernel_rfl
theorem amW (p:tG):LI (yY p) 20 gQ UD (AL p.b.2.1):=λ_ d c K=>by kernel_rfl
theorem amX (p:tG):LI (yY p) 5 gR UF (AN p.2.1 p.b.1 p.b.2.1 p.d.1):=λ_ d c K=>by kernel_rfl
theorem avV (p:tG):D2 (yY p) aaL (lf Ko) λb=>E1 p.1 p.d.2.1 p.d.b b.1.1.1 b.1.1.2 b.1.2.1 b.1.b b.2:=λb=>by kernel_rfl
abbrev yZ:tG:=(nI,aU,aY,bk,wA,aW,cJ,ua,AK,AM,AO)
theorem avW [aA]:SC (aaO pH):=sc (kS (k:=yY yZ) (.c ai6 (.c dm (.c eP (.c hX (.c avr (.c fA (.c rP (.c aFE (.nil _))))))))) [5,11,20] [] ⟨kL (amX yZ),⟨kL (amV yZ),⟨kL (amW yZ),trivial⟩⟩⟩ trivial (avV yZ))
def ai7:=qa (pr (cu aS afK) bJ)
def O7:=qe aDR
abbrev ai8:=O7.B
abbrev ai9:=NI->Int->Bool->Option ai8
def aja (g:ai9):Ct:=(272,FC ai7 (lf O7) (λb=>g b.1.1 b.1.2 b.2))
def lH:=qs (st (pr (cu aS (us 1 (c ai (us 1 (cu Uu (us 1 (cu EJ (us 1 aVq)))))))) (pl (c bE Oo) bK)))
def aaP:=qs (st (pr (cu aS (us 1 (c ai (us 1 (cu Uu (us 1 (cu EJ (us 1 aVG)))))))) (pl (c bE Oo) bK)))
abbrev za:=aaP.B
def aaQ {ρ:Type}:=@ef za ((.ex 0)) aaP ρ
def MN (aC:bR)(d:lH.B):PL lH za:=let y0:=z4 d.1.2;let y1:=bg d.1.2 24;let y2:=decide (d.1.2<24);ae y2 (ae y1 (opt (aC (d.2.2.1 y0) d.1.1 30 d.2.1) λak=>ae y1 (ae (true&&wl (0+y0*1+1) 24) (ret (ww ((d.1.1,wI (d.1.2+1)),ak.2,λj=>bif z9 j y0 then ak.1 else d.2.2.1 j,d.2.2.2))) no) no) no) (ret (ws ((d.1.1,d.1.2,y2),d.2)))
def MO:=bI (MN aW) 2000
def TI (dR:LT lH za)(x0:Nat->Int)(x1:Int)(x2:Bool):Pg ai8:=opt (dR ((x1,0),x2,x0,λx=>0)) λd=>ret (d.2.2.1,d.2.1)
def DP:=λx0 x1 x2=>(TI MO x0 x1 x2).val
abbrev JH:=bR×(LT lH za)
def TJ (p:JH):KK:=⟨[eT p.1],⟨[⟨2,(1::3::5::7::rg 9 12 []),[]⟩],[fQ 2 1 lH aaQ p.2],[0],[],(some ⟨0,(rg 0 6 (rg 7 14 [])),[]⟩)⟩,1,272⟩
theorem att (p:JH):LI (TJ p) 2 lH aaQ (MN p.1):=λ_ d c K=>by kernel_rfl
theorem aCp (p:JH):D2 (TJ p) ai7 (lf O7) λb=>TI p.2 b.1.1 b.1.2 b.2:=λb=>by kernel_rfl
abbrev TK:JH:=(aW,MO)
theorem aCq [aA]:SC (aja DP):=sc (kS (k:=TJ TK) (.c fA (.nil _)) [2] [] ⟨kL (att TK),trivial⟩ trivial (aCp TK))
def Hf:=qa (dp (cu aS (c lz (cl aDF nil))) λa=>(c xL (cl (cl (gs a.2.1 aD5) nil) nil)))
def acL:=qe (res (pr lz (pl Om nil)))
abbrev avX:=acL.B
abbrev avY:=Hf.B->Option avX
def avZ (g:avY):Ct:=(271,vA 2 [.i .i64,.i .i64,.i .i64,.i .i64,.i .i64,.i .i64,.i .i64,.i .i64,.i .i64,.i .i64,.i .i64,.i .i64,.i .i64,.i .i64,.i .i64,.i .i64,.i .i64,.i .i64,.i .i64,.i .i64,.i .i64,.i .i64,.i .i64,.i .i64] (FC Hf (lf acL) g))
def qk:=qs (st (dp (cu aS (us 3 (cu EJ (us 1 (cu aiu (us 1 (cu ap3 (us 7 (c aDF (c ai (c ai (us 3 aJO)))))))))))) λa=>(pl (c bE (c (so (cl (gs a.1.1 aD5) nil)) aKi)) bK)))
def aFX:=qs (st (pr (cu aS (us 3 (cu EJ (us 1 (cu aiu (us 1 (cu ap3 (us 7 (c aDF (c ai (c ai (us 3 aJW)))))))))))) (pl (c bE (c aW5 aKi)) bK)))
abbrev F3:=(((Nat×Bool)×Int×Int×Int×Bool)×Bool×a0N×NI×NI×NI)
def amY {ρ:Type}(x:F3)(K:AX->St->Option ρ):Option ρ:=(λd=>K (.ex 2) (aFX.em (d.1,d.2.1,(d.1.1.1,d.b.1),d.b.2))) x
def X5 (cA:fB)(d:qk.B):PL qk F3:=let n2:=d.2.2.2;let n1:=d.1.2.2;let y0:=z4 n1.2;let y1:=bg n1.2 24;let y2:=decide (n1.2<24);ae y2 (ae y1 (ae y1 (opt (cA 2 d.2.1 (cr (n2.1 y0) [n2.2.2 y0,n2.1 y0]) true) λak=>ae y1 (ae (true&&wl (0+y0*1+1) 24) (ret (ww ((d.1.1,d.1.2.1,n1.1,wI (n1.2+1)),ak.2,d.2.2.1,λj=>bif z9 j y0 then ak.1 else n2.1 j,n2.2))) no) no) no) no) (ret (ws ((d.1.1,d.1.2.1,n1.1,n1.2,y2),d.2)))
def X6:=bI (X5 cJ) 2000
def nJ:=qs (st (dp (cu aS (us 3 (cu EJ (us 1 (cu aiu (us 9 (c aDF (c ai (cl ai (us 28 nil)))))))))) λa=>(pl (c bE (c (so (cl (gs a.1.1 aD5) nil)) Oo)) bK)))
def aFY:=qs (st (pr (cu aS (us 3 (cu EJ (us 1 (cu aiu (us 9 (c aDF (c ai (c ai (cl ab aVa)))))))))) (pl (c bE (c aW5 Oo)) bK)))
abbrev Bs:=(aMu×Bool×a0N×NI×NI)
def amZ {ρ:Type}(x:Bs)(K:AX->St->Option ρ):Option ρ:=(λd=>K (.ex 0) (aFY.em (d.1,d.2.1,(d.1.1.1,d.b.1),d.b.2))) x
def MP (bn:ey)(bH:iM)(yy:JD)(wD:MC)(pD:LT qk F3)(d:nJ.B):PL nJ Bs:=let n9:=d.1.1;let n5:=d.1.2;let n4:=d.2.2.1;let n2:=n4.2.2.2;let n6:=n2.2.2.2;let n1:=n6.2.2.2.2;let n8:=n1.2.2.2;let n3:=n8.2.2.2;let n7:=n3.2.2.2;let y0:=z4 n5.2;let y1:=decide (n5.2<n5.1);ae y1 (ae (bg n5.2 n9.1) (ae (z9 n9.1 n9.1) (opt (pD ((n9,n5.1,n5.2,0),d.2.1,n4,d.2.2.2.1,d.2.2.2.2,cr (n4.1 y0) [n7.2.2.2.2 y0,n7.2.2.2.1 y0,n7.2.2.1 y0,n7.2.1 y0,n7.1 y0,n3.2.2.1 y0,n3.2.1 y0,n3.1 y0,n8.2.2.1 y0,n8.2.1 y0,n8.1 y0,n1.2.2.1 y0,n1.2.1 y0,n1.1 y0,n6.2.2.2.1 y0,n6.2.2.1 y0,n6.2.1 y0,n6.1 y0,n2.2.2.1 y0,n2.2.1 y0,n2.1 y0,n4.2.2.1 y0,n4.2.1 y0,n4.1 y0])) λd=>opt (bn d.2.2.2.1) λak=>opt (bH ak.1 ak.2.1 ak.2.2.1 ak.2.2.2 d.2.1) λaF=>opt (yy d.2.2.2.1 aF.1.1 aF.1.2.1 aF.1.2.2.1 aF.1.2.2.2) λbA=>opt (wD bA aF.2) λcD=>ret (ww ((d.1.1,d.1.2.1,wI (d.1.2.2.1+1)),cD.2,d.2.2.1,cD.1,d.2.2.2.2.1))) no) no) (ret (ws ((n9,n5.1,n5.2,y1),d.2)))
def MQ:=bI (MP cC c9 lW nk X6) 2000
def Vz (aR:fC)(dR:LT nJ Bs)(x:Hf.B):Pg avX:=let y0:=wr x.1.2.1;ae (y0==0) (opt (aR x.1.1 x.2.1) λd=>ret d) (ae (z9 x.1.2.1 x.1.2.1) (opt (dR ((x.1.2,y0,0),x.2.1,x.2.2,x.1.1,λx=>0)) λd=>ret (d.2.2.2.1,d.2.1)) no)
def CM:=λx=>(Vz cg MQ x).val
abbrev MR:=fC×fB×ey×iM×JD×MC×(LT qk F3)×(LT nJ Bs)
def VA (p:MR):KK:=⟨[jl p.1,pf p.2.1,jM p.b.1,nG p.b.2.1,Tx p.c.1,XG p.c.2.1],⟨[⟨4,(1::2::3::5::rg 7 9 (rg 19 28 [])),[]⟩,⟨7,(1::2::3::5::7::rg 9 7 (19::20::21::rg 23 24 [])),[]⟩],[fQ 7 2 qk amY p.c.b.1,fQ 4 2 nJ amZ p.c.b.2],[0],[],(some ⟨0,(rg 0 6 (rg 7 40 [])),[]⟩)⟩,2,271⟩
theorem aCr (p:MR):LI (VA p) 7 qk amY (X5 p.2.1):=λ_ d c K=>by kernel_rfl
theorem aCs (p:MR):LI (VA p) 4 nJ amZ (MP p.b.1 p.b.2.1 p.c.1 p.c.2.1 p.c.b.1):=λ_ d c K=>by kernel_rfl
theorem aLl (p:MR):D2 (VA p) Hf (lf acL) λb=>Vz p.1 p.c.b.2 b:=λb=>by kernel_rfl
abbrev VB:MR:=(cg,cJ,cC,c9,lW,nk,X6,MQ)
theorem aLm [aA]:SC (avZ CM):=sc (Sound.nil 2 [.i .i64,.i .i64,.i .i64,.i .i64,.i .i64,.i .i64,.i .i64,.i .i64,.i .i64,.i .i64,.i .i64,.i .i64,.i .i64,.i .i64,.i .i64,.i .i64,.i .i64,.i .i64,.i .i64,.i .i64,.i .i64,.i .i64,.i .i64,.i .i64]<|kS (k:=VA VB) (.c kn (.c rP (.c kM (.c pF (.c ai1 (.c amE (.nil _))))))) [4,7] [] ⟨kL (aCs VB),⟨kL (aCr VB),trivial⟩⟩ trivial (aLl VB))
def aAN:=qa (pr (cu aS (c lz (c Fx aWd))) bJ)
def ahr:=qe (res (pr (rH (c afG (c akP (cl (ra aJV) nil)))) (pl mF nil)))
abbrev aAO:=ahr.B
abbrev am0:=NI->NI->NI->NI->Int->Int->Int->Bool->Option aAO
def aAP (g:am0):Ct:=(264,FC aAN (lf ahr) (λb=>g b.1.1 b.1.2.1.1 b.1.2.1.2 b.1.b.1 b.1.b.2.1 b.1.c.1 b.1.c.2 b.2))
def aaR (aR:fC)(oF:vS)(ay:bW)(xE:N3)(MS:amT)(E2:aaN)(JJ:ai9)(VC:avY)(x0:Nat->Int)(x1:Nat->Int)(x2:Nat->Int)(x3:Nat->Int)(x4:Int)(x5:Int)(x6:Int)(x7:Bool):Pg aAO:=opt (aR x0 x7) λd=>opt (oF x1 x2 d.2) λak=>opt (ay x4 ak.2) λaF=>opt (xE ak.1.1 ak.1.2 x3 x5 aF.2) λbA=>opt (MS aF.1 bA.1 x6) λcD=>ae (!cD) (ret ((d.1,ak.1,false,aF.1,bA.1),bA.2)) (opt (E2 ak.1.1 ak.1.2 x3 x5 bA.2) λeU=>opt (JJ eU.1.2.1 aF.1 eU.2) λc8=>opt (VC ((d.1,1,true),c8.2,λj=>bif z9 j 0 then c8.1 0 else c8.1 0,λj=>bif z9 j 0 then c8.1 1 else c8.1 1,λj=>bif z9 j 0 then c8.1 2 else c8.1 2,λj=>bif z9 j 0 then c8.1 3 else c8.1 3,λj=>bif z9 j 0 then c8.1 4 else c8.1 4,λj=>bif z9 j 0 then c8.1 5 else c8.1 5,λj=>bif z9 j 0 then c8.1 6 else c8.1 6,λj=>bif z9 j 0 then c8.1 7 else c8.1 7,λj=>bif z9 j 0 then c8.1 8 else c8.1 8,λj=>bif z9 j 0 then c8.1 9 else c8.1 9,λj=>bif z9 j 0 then c8.1 10 else c8.1 10,λj=>bif z9 j 0 then c8.1 11 else c8.1 11,λj=>bif z9 j 0 then c8.1 12 else c8.1 12,λj=>bif z9 j 0 then c8.1 13 else c8.1 13,λj=>bif z9 j 0 then c8.1 14 else c8.1 14,λj=>bif z9 j 0 then c8.1 15 else c8.1 15,λj=>bif z9 j 0 then c8.1 16 else c8.1 16,λj=>bif z9 j 0 then c8.1 17 else c8.1 17,λj=>bif z9 j 0 then c8.1 18 else c8.1 18,λj=>bif z9 j 0 then c8.1 19 else c8.1 19,λj=>bif z9 j 0 then c8.1 20 else c8.1 20,λj=>bif z9 j 0 then c8.1 21 else c8.1 21,λj=>bif z9 j 0 then c8.1 22 else c8.1 22,λj=>bif z9 j 0 then c8.1 23 else c8.1 23)) λd=>ret ((d.1,eU.1.1,true,aF.1,bA.1),d.2))
def F4:=λx0 x1 x2 x3 x4 x5 x6 x7=>(aaR cg fS aP qI F2 pH DP CM x0 x1 x2 x3 x4 x5 x6 x7).val
theorem aN9:∀aR oF ay xE MS E2 JJ VC,D0 [jl aR,GY oF,dr ay,N4 xE,amU MS,aaO E2,aja JJ,avZ VC] 264 aAN (lf ahr) λb=>aaR aR oF ay xE MS E2 JJ VC b.1.1 b.1.2.1.1 b.1.2.1.2 b.1.b.1 b.1.b.2.1 b.1.c.1 b.1.c.2 b.2:=λ_ _ _ _ _ _ _ _ b=>by kernel_rfl
theorem aOa [aA]:SC (aAP F4):=s0 (.c kn (.c OV (.c dx (.c aki (.c aFW (.c avW (.c aCq (.c aLm (.nil _))))))))) (aN9 cg fS aP qI F2 pH DP CM)
end Go.Proofs.YtldgljclcgaibaaGreat
namespace Go.Ab
theorem Hg (n:Int):IntKind.wrap .i64 n=if 9223372036854775808<=n%18446744073709551616 then n%18446744073709551616-18446744073709551616 else n%18446744073709551616:=by
 unfold IntKind.wrap;simp only[IntKind.signed,IntKind.bits,o8,jG,show(2:Int)^64=18446744073709551616 from rfl,show(2:Int)^(64-1)=9223372036854775808 from rfl,EL]
theorem rf (a b:Int)(h:0<=b):Int.fdiv a b=a/b:=Int.fdiv_eq_ediv_of_nonneg a h
theorem VD (x:Int)(h0:0<=x)(h1:x<18446744073709551616):(wd 64 x).toNat=x.toNat:=by
 rw[BitVec.toNat_ofInt];congr 1
 simp only[Nat.reducePow,Int.cast_ofNat_Int];omega
theorem aei (x:Int)(h0:0<=x)(h1:x<18446744073709551616):wr (v6 (wd 64 18446744073709551615^^^wd 64 x))=18446744073709551615-x:=by
 have e:wd 64 18446744073709551615=BitVec.allOnes 64:=by decide
 rw[e,BitVec.allOnes_xor,BitVec.toNat_not,VD x h0 h1];simp only[dH];omega
theorem ao5 (x:Int)(h0:0<=x)(h1:x<18446744073709551616):wr (v6 (wd 64 x&&&wd 64 4294967295))=x%4294967296:=by
 rw[BitVec.toNat_and,VD x h0 h1];have e:(wd 64 4294967295).toNat=2^32-1:=by decide
 rw[e,Nat.and_two_pow_sub_one_eq_mod];simp only[dH];omega
theorem ayA (x y:Int)(k:Nat)(h0:0<=x)(h1:x<2^k)(h2:0<=y)(h3:y<18446744073709551616)(h4:x<18446744073709551616)(h5:y%2^k=0):
  wr (v6 (wd 64 x|||wd 64 y))=x+y:=by
 rw[BitVec.toNat_or,VD x h0 h4,VD y h2 h3]
 obtain⟨q,hq⟩:∃q:Nat,y.toNat=2^k*q:=by
  refine⟨y.toNat/2^k,?_⟩
  have:y.toNat%2^k=0:=by
   have e:((y.toNat%2^k:Nat):Int)=y%2^k:=by
    rw[Int.natCast_emod,Int.toNat_of_nonneg h2];simp
   omega
  exact(Nat.mul_div_cancel' (aEb this)).symm
 have hx:x.toNat<2^k:=by
  have e:((2^k:Nat):Int)=(2:Int)^k:=by simp
  omega
 rw[hq,Nat.or_comm,<-Nat.two_pow_add_eq_or_of_lt hx,<-hq];simp only[dH];omega
end Go.Ab
namespace Go.Proofs.YtldgljclcgaibaaGreat
open Go.Ab
abbrev okW (h l:Int):Prop:= -9223372036854775808<=h/\h<=9223372036854775807/\0<=l/\l<18446744073709551616
abbrev vW (h l:Int):Int:=h*18446744073709551616+l
theorem aYt (x:Int)(h0: -9223372036854775808<=x)(h1:x<=9223372036854775807):∃h l,WU x=some (h,l)/\okW h l/\vW h l=x:=by
 unfold vW;simp only[WU,atc,Pg.bS,Pg.bM,Pg.ck,Pg.dX,Pg.dt];try delta wI wU
 refine⟨_,_,rfl,?_,?_⟩<;>rw[wrap_u64,rf _ _ (by omega)]<;>omega
theorem O8 (x y c:Int)(x0:0<=x)(y0:0<=y)(c0:0<=c)(c1:c<=1):DA x y c=some ((x+y+c)%18446744073709551616,(x+y+c)/18446744073709551616):=by
 unfold DA;have h:wl c.toNat 1=true:=axF (by omega);rw[h,bo];congr 1
 unfold aX8 aX9;simp only[dH,qT];constructor<;>omega
theorem ayB (h1 l1 h2 l2:Int)(o1:okW h1 l1)(o2:okW h2 l2):∃h l b,K7 h1 l1 h2 l2=some ((h,l),b)/\okW h l/\(b=true↔ -170141183460469231731687303715884105728<=vW h1 l1+vW h2 l2/\vW h1 l1+vW h2 l2<170141183460469231731687303715884105728)/\(b=true->vW h l=vW h1 l1+vW h2 l2):=by
 obtain⟨a1,a2,a3,a4⟩:=o1;obtain⟨b1,b2,b3,b4⟩:=o2;unfold vW;simp only[K7,alP,Pg.bS,Pg.bM,Pg.ck,Pg.dX,Pg.dt];try delta wI wU
 rw[O8 l1 l2 0 a3 b3 (by omega) (by omega)];simp only[bG,wrap_u64];rw[O8 _ _ _ (by omega) (by omega) (by omega) (by omega)];simp only[bG];generalize hc:(l1+l2+0)/18446744073709551616=c
 generalize hl:(l1+l2+0)%18446744073709551616=l
 generalize hm:(h1%18446744073709551616+h2%18446744073709551616+c)%18446744073709551616=m
 have hw:=Hg m;generalize IntKind.wrap IntKind.i64 m=w at*
 have hw1:w=m∨w=m-18446744073709551616:=by split at hw<;>omega
 have hw2: -9223372036854775808<=w/\w<=9223372036854775807:=by split at hw<;>omega
 by_cases n1:h1<0
 .by_cases n2:h2<0
  .have e:(!decide (h1<0)==decide (h2<0))=false:=by simp[n1,n2]
   simp only[e,bq];refine⟨w,l,_,rfl,⟨hw2.1,hw2.2,by omega,by omega⟩,?_,?_⟩
   .simp only[n1,Ji,beq_true,jG];constructor<;>intro h<;>omega
   .simp only[n1,Ji,beq_true,jG];intro h;omega
  .have e:(!decide (h1<0)==decide (h2<0))=true:=by simp[n1,n2]
   simp only[e,bo];refine⟨w,l,_,rfl,⟨hw2.1,hw2.2,by omega,by omega⟩,?_,?_⟩
   .simp only[true_iff];constructor<;>omega
   .intro h;omega
 .by_cases n2:h2<0
  .have e:(!decide (h1<0)==decide (h2<0))=true:=by simp[n1,n2]
   simp only[e,bo];refine⟨w,l,_,rfl,⟨hw2.1,hw2.2,by omega,by omega⟩,?_,?_⟩
   .simp only[true_iff];constructor<;>omega
   .intro h;omega
  .have e:(!decide (h1<0)==decide (h2<0))=false:=by simp[n1,n2]
   simp only[e,bq];refine⟨w,l,_,rfl,⟨hw2.1,hw2.2,by omega,by omega⟩,?_,?_⟩
   .simp only[n1,Kb,_root_.beq_false,o7,Ot];constructor<;>intro h<;>omega
   .simp only[n1,Kb,_root_.beq_false,o7,Ot];intro h;omega
theorem aI8 (h l:Int)(o:okW h l):∃ah al,FN h l=some ((ah,al),decide (h<0))/\0<=ah/\ah<=9223372036854775808/\0<=al/\al<18446744073709551616/\ah*18446744073709551616+al=(if h<0 then -vW h l else vW h l):=by
 obtain⟨a1,a2,a3,a4⟩:=o;unfold vW;simp only[FN,alB,Pg.bS,Pg.bM,Pg.ck,Pg.dX,Pg.dt];try delta wI wU
 by_cases n:h<0
 .have e:decide (h>=0)=false:=cE (by omega);simp only[e,bq,aei l a3 a4,wrap_u64];rw[aei (h%18446744073709551616) (by omega) (by omega),O8 _ _ _ (by omega) (by omega) (by omega) (by omega)];simp only[bG,n,Ji,lr];refine⟨_,_,rfl,?_,?_,?_,?_,?_⟩<;>omega
 .have e:decide (h>=0)=true:=dy (by omega);simp only[e,bo,wrap_u64,n,Kb,fT];refine⟨_,_,rfl,?_,?_,?_,?_,?_⟩<;>omega
theorem aI9 (h1 l1 h2 l2:Int)(a0:0<=h1)(b0:0<=l1)(c0:0<=h2)(d0:0<=l2)(b1:l1<18446744073709551616)(d1:l2<18446744073709551616):
  iY h1 l1 h2 l2=some ((h1+h2+(l1+l2)/18446744073709551616)%18446744073709551616,(l1+l2)%18446744073709551616):=by
 simp only[iY,OG,Pg.bS,Pg.bM,Pg.ck,Pg.dX,Pg.dt];try delta wI wU
 rw[O8 _ _ _ b0 d0 (by omega) (by omega)];simp only[bG,Int.add_zero];rw[O8 _ _ _ a0 c0 (by omega) (by omega)];rfl
theorem aYu (n:Nat)(hn:n<126):gH 0 1 (wr n)=some (2^n/18446744073709551616,2^n%18446744073709551616):=by
 have key:∀n:Fin 126,gH 0 1 (wr n.val)=some ((2:Int)^n.val/18446744073709551616,(2:Int)^n.val%18446744073709551616):=by decide+kernel
 exact key ⟨n,hn⟩
theorem ml (n:Nat):(0:Int)<2^n:=Int.pow_pos (by decide)
theorem av0 (h l:Int)(s:Nat)(hs:s<=126)(h0:0<=h)(h1:h<18446744073709551616)(l0:0<=l)(l1:l<18446744073709551616):
  ∃h' l',iT h l (wr s)=some (h',l')/\0<=h'/\0<=l'/\l'<18446744073709551616/\h'*18446744073709551616+l'=(h*18446744073709551616+l)/2^s:=by
 simp only[iT,Jm,Pg.bS,Pg.bM,Pg.ck,Pg.dX,Pg.dt];try delta wI wU
 by_cases c:64<=s
 .have e:decide (wr s>=64)=true:=by simp only[dH];exact dy (by omega)
  have e2:IntKind.wrap .i64 (wr s-64)=wr (s-64):=(wrap_i64 (by simp only[dH];omega) (by simp only[dH];omega)).trans (by simp only[dH];omega);have e3:(!decide (wr (s-64)<0))=true:=by simp
  have e4:min (z4 (wr (s-64))) 64=s-64:=by
   show min (s-64) 64=s-64;omega
  simp only[e,e2,e3,e4,bo];rw[rf _ _ (pk (ml _))];refine⟨_,_,rfl,by omega,Ep h0 (pk (ml _)),Int.lt_of_le_of_lt (axJ _ h0) h1,?_⟩
  have p:(2:Int)^s=18446744073709551616*2^(s-64):=by
   rw[show(18446744073709551616:Int)=2^64 from rfl,<-Int.pow_add];congr 1;omega
  rw[p,<-Int.ediv_ediv_of_nonneg (by decide)];have:(h*18446744073709551616+l)/18446744073709551616=h:=by omega
  rw[this];omega
 .have e:decide (wr s>=64)=false:=by simp only[dH];exact cE (by omega)
  have e2:IntKind.wrap .i64 (64-wr s)=wr (64-s):=(wrap_i64 (by simp only[dH];omega) (by simp only[dH];omega)).trans (by simp only[dH];omega);have e3:∀n,(!decide (wr n<0))=true:=by simp
  have e4:min (z4 (wr (64-s))) 64=64-s:=by
   show min (64-s) 64=64-s;omega
  have e5:min (z4 (wr s)) 64=s:=by
   show min s 64=s;omega
  simp only[e,e2,e3,e4,e5,bo,bq,wrap_u64];rw[rf _ _ (pk (ml _)),rf _ _ (pk (ml _))]
  have pq:(18446744073709551616:Int)=2^s*2^(64-s):=by
   rw[<-Int.pow_add,show s+(64-s)=64 by omega];rfl
  generalize hP:(2:Int)^s=P at*
  generalize hQ:(2:Int)^(64-s)=Q at*
  have P0:0<P:=by rw[<-hP];exact ml s
  have Q0:0<Q:=by rw[<-hQ];exact ml (64-s)
  have m:h*Q%18446744073709551616=h%P*Q:=by
   rw[pq,xT h Q,xT P Q,Int.mul_emod_mul_of_pos _ _ Q0,xT]
  have x0:0<=l/P:=Ep l0 (pk P0);have x1:l/P<Q:=abG P0 (by rw[xT,<-pq];exact l1);have y0:0<=h%P:=Wj _ (by omega);have y1:h%P<P:=SN _ P0
  have y2:h%P*Q+Q<=18446744073709551616:=by
   have:(h%P+1)*Q<=P*Q:=Wf (by omega) (pk Q0);rw[Vd,<-pq] at this;omega
  have y3:0<=h%P*Q:=pj y0 (pk Q0)
  have key:wr (v6 (wd 64 (l/P)|||wd 64 (h*Q%18446744073709551616)))=l/P+h%P*Q:=by
   rw[m];exact ayA _ _ (64-s) x0 (by rw[hQ];exact x1) y3 (by omega) (by omega) (by rw[hQ];exact Int.mul_emod_left _ _)
  rw[key];have z:(l/P+h%P*Q)%18446744073709551616=l/P+h%P*Q:=FB (by omega) (by omega);rw[z];refine⟨_,_,rfl,Ep h0 (pk P0),by omega,by omega,?_⟩
  have f1:(h*18446744073709551616+l)/P=h*Q+l/P:=by
   rw[pq,show h*(P*Q)+l=l+h*Q*P by rw[xT P Q,<-akZ,Int.add_comm],Int.add_mul_ediv_right _ _ (by omega)];omega
  have f2:h/P*18446744073709551616=h/P*P*Q:=by rw[pq,akZ]
  have f3:h/P*P+h%P=h:=Int.ediv_mul_add_emod h P;rw[f1,f2];have f4:(h/P*P+h%P)*Q=h*Q:=by rw[f3]
  rw[Vd] at f4;omega
theorem MT (h l:Int)(neg:Bool)(h0:0<=h)(l0:0<=l)(l1:l<18446744073709551616):
  iZ h l neg=if h*18446744073709551616+l<=(if neg=true then 9223372036854775808 else 9223372036854775807) then some (if neg=true then -l else l,true) else some (0,false):=by
 simp only[iZ,OK,Pg.bS,Pg.bM,Pg.ck,Pg.dX,Pg.dt];try delta wI wU
 by_cases c:h=0
 .subst c;have e:((0:Int)!=0)=false:=rfl;simp only[e,bq,af0,ak0];cases neg
  .by_cases d:l>9223372036854775807
   .have d2:¬l<=9223372036854775807:=by omega
    simp[d,d2]
   .have d2:l<=9223372036854775807:=by omega
    simp only[Bool.not_false,bo,d,Kb,bq,xS,fT,d2,lr];rw[wrap_i64 (by omega) d2]
  .by_cases d:l>9223372036854775808
   .have d2:¬l<=9223372036854775808:=by omega
    simp[d,d2]
   .have d2:l<=9223372036854775808:=by omega
    have e3:IntKind.wrap .i64 (IntKind.wrap .u64 (0-l))= -l:=by
     rw[wrap_u64,Hg];split<;>omega
    have e4:IntKind.wrap .i64 (IntKind.wrap .u64 (-l))= -l:=by
     rw[wrap_u64,Hg];split<;>omega
    simp[d,d2,e3,e4]
 .have e:(h !=0)=true:=by simp[c]
  have d2:¬h*18446744073709551616+l<=(if neg=true then 9223372036854775808 else 9223372036854775807):=by split<;>omega
  simp only[e,bo,d2,fT]
def half (s:Nat):Int:=if s=0 then 0 else 2^(s-1)
def rS (v:Int)(s:Nat):Int:=if v<0 then -((-v+half s)/2^s) else(v+half s)/2^s
theorem aOb (s:Nat)(hs:s<=126):0<=half s/\half s<=42535295865117307932921825928971026432:=by
 unfold half;split
 .omega
 .refine⟨pk (ml _),?_⟩
  have:(2:Int)^(s-1)<=2^125:=by
   have h2:(2:Nat)^(s-1)<=2^125:=Nat.pow_le_pow_right (by decide) (by omega);have h3:((2^(s-1):Nat):Int)<=((2^125:Nat):Int):=by exact_mod_cast h2
   simpa using h3
  exact this
theorem wide_round (h l:Int)(s:Nat)(hs:s<=126)(o:okW h l):
  rM h l (wr s)=if -9223372036854775808<=rS (vW h l) s/\rS (vW h l) s<=9223372036854775807 then some (rS (vW h l) s,true) else some (0,false):=by
 simp only[rM,abW,Pg.bS,Pg.bM,Pg.ck,Pg.dX,Pg.dt];try delta wI wU
 obtain⟨ah,al,e1,a0,a1,a2,a3,a4⟩:=aI8 h l o;have n0:decide (wr s<0)=false:=by simp
 have n1:decide (wr s>126)=false:=by simp only[dH];exact cE (by omega)
 simp only[n0,n1,bq,e1,bG];obtain⟨hh0,hh1⟩:=aOb s hs
 have fin:∀h' l':Int,0<=h'->0<=l'->l'<18446744073709551616->h'*18446744073709551616+l'=((if h<0 then -vW h l else vW h l)+half s)/2^s->
   (iZ h' l' (decide (h<0))).bind (λd=>some (d.fst,d.snd))=if -9223372036854775808<=rS (vW h l) s/\rS (vW h l) s<=9223372036854775807 then some (rS (vW h l) s,true) else some (0,false):=by
  intro h' l' b0 b1 b2 b3;rw[MT h' l' _ b0 b1 b2];obtain⟨o1,o2,o3,o4⟩:=o;by_cases n:h<0
  .have nv:vW h l<0:=by show h*18446744073709551616+l<0;omega
   simp only[n,Ji,lr] at b3 ⊢;unfold rS;simp only[nv,lr];rw[<-b3];by_cases c:h'*18446744073709551616+l'<=9223372036854775808
   .rw[if_pos c,if_pos (by omega)];simp only[bG,hM,qT,Cf];omega
   .rw[if_neg c,if_neg (by omega)];rfl
  .have nv:¬vW h l<0:=by show ¬h*18446744073709551616+l<0;omega
   simp only[n,Kb,fT,xS] at b3 ⊢;unfold rS;simp only[nv,fT];rw[<-b3];by_cases c:h'*18446744073709551616+l'<=9223372036854775807
   .rw[if_pos c,if_pos (by omega)];simp only[bG,hM,qT,Cf];omega
   .rw[if_neg c,if_neg (by omega)];rfl
 by_cases z:s=0
 .subst z;have n2:decide (wr 0>0)=false:=by decide
  simp only[n2,bq];obtain⟨h',l',e2,b0,b1,b2,b3⟩:=av0 ah al 0 (by omega) a0 (by omega) a2 a3;rw[e2];simp only[bG];exact fin h' l' b0 b1 b2 (by rw[b3,a4];simp[half])
 .have n2:decide (wr s>0)=true:=by simp only[dH];exact dy (by omega)
  simp only[n2,bo];have n3:IntKind.wrap .i64 (wr s-1)=wr (s-1):=(wrap_i64 (by simp only[dH];omega) (by simp only[dH];omega)).trans (by simp only[dH];omega);have hf:half s=2^(s-1):=by unfold half;rw[if_neg z]
  rw[n3,aYu (s-1) (by omega),<-hf];simp only[bG];rw[aI9 _ _ _ _ a0 a2 (by omega) (by omega) a3 (by omega)];simp only[bG];obtain⟨h',l',e2,b0,b1,b2,b3⟩:=av0 ((ah+half s/18446744073709551616+(al+half s%18446744073709551616)/18446744073709551616)%18446744073709551616) ((al+half s%18446744073709551616)%18446744073709551616) s hs (by omega) (by omega) (by omega) (by omega);rw[e2];simp only[bG];refine fin h' l' b0 b1 b2 ?_;rw[b3,<-a4];congr 1
  omega
def sat (x:Int):Int:=if x< -1152921504606846976 then -1152921504606846976 else if 1152921504606846976<x then 1152921504606846976 else x
def dq (x:Int):Bool:=decide (x< -1152921504606846976)||decide (1152921504606846976<x)
theorem ly (x:Int): -1152921504606846976<=sat x/\sat x<=1152921504606846976:=by
 unfold sat;split<;>(try split)<;>omega
theorem oI (x:Int)(eA:Bool):aP x eA=some (sat x,eA||dq x):=by
 simp only[aP,Qo,aY,tY,Pg.bS,Pg.bM,Pg.ck,Pg.dX,Pg.dt];try delta wI wU
 unfold sat dq;have e:decide ((-1152921504606846976:Int)>1152921504606846976)=false:=by decide
 by_cases c:x< -1152921504606846976
 .simp[e,c]
 .by_cases d:1152921504606846976<x
  .have d2:x>1152921504606846976:=d;simp[e,c,d]
  .simp[e,c,d]
theorem aej (a:Int)(ok neg eA:Bool):kl a ok neg eA=if ok=true then some (sat a,eA||dq a) else some (if neg=true then -1152921504606846976 else 1152921504606846976,true):=by
 simp only[kl,Ec,nS,OM,Pg.bS,Pg.bM,Pg.ck,Pg.dX,Pg.dt];try delta wI wU
 cases ok
 .cases neg<;>rfl
 .simp only[HZ,bq,oI,bG,lr]
theorem ahs (h l:Int)(s:Nat)(eA:Bool)(hs:s<=120)(o:okW h l):nE h l (wr s) eA=some (sat (rS (vW h l) s),eA||dq (rS (vW h l) s)):=by
 simp only[nE,Ta,Pg.bS,Pg.bM,Pg.ck,Pg.dX,Pg.dt];try delta wI wU
 have n0:decide (wr s<0)=false:=by simp
 have n1:decide (wr s>120)=false:=by simp only[dH];exact cE (by omega)
 simp only[n0,n1,bq,wide_round h l s (by omega) o];by_cases c: -9223372036854775808<=rS (vW h l) s/\rS (vW h l) s<=9223372036854775807
 .simp only[c,and_self,lr,bG,aej]
 .rw[if_neg c];simp only[bG,aej,xS,fT]
  have sg:(h<0->rS (vW h l) s<=0)/\(¬h<0->0<=rS (vW h l) s):=by
   obtain⟨o1,o2,o3,o4⟩:=o;obtain⟨hh0,hh1⟩:=aOb s (by omega);have p:=ml s;unfold rS;refine⟨λn=> ?_,λn=> ?_⟩
   .have nv:vW h l<0:=by show h*18446744073709551616+l<0;omega
    rw[if_pos nv];have:0<=(-vW h l+half s)/2^s:=Ep (by omega) (pk p);omega
   .have nv:¬vW h l<0:=by show ¬h*18446744073709551616+l<0;omega
    rw[if_neg nv];exact Ep (by omega) (pk p)
  unfold sat dq;by_cases n:h<0
  .have:=sg.1 n;have c1:rS (vW h l) s< -1152921504606846976:=by omega
   simp[n,c1]
  .have:=sg.2 n;have c1:¬rS (vW h l) s< -1152921504606846976:=by omega
   have c2:1152921504606846976<rS (vW h l) s:=by omega
   simp[n,c1,c2]
theorem ao6 (x:Int)(h0: -9223372036854775808<=x)(h1:x<=9223372036854775807):rL x=some (if x<0 then -x else x):=by
 simp only[rL,abT,Pg.bS,Pg.bM,Pg.ck,Pg.dX,Pg.dt];try delta wI wU
 by_cases c:x<0
 .simp only[c,Ji,bo,lr,wrap_u64];exact fe (some:Int->Option Int) (by omega)
 .simp only[c,Kb,bq,fT,wrap_u64];exact fe (some:Int->Option Int) (by omega)
theorem ao7 {a b:Int}(a0:0<=a)(a1:a<=4294967295)(b0:0<=b)(b1:b<=4294967295):0<=a*b/\a*b<=18446744065119617025:=by
 refine⟨pj a0 b0,?_⟩;have:=LK a1 b1 b0 (by omega);omega
theorem aTK (x y:Int)(x0:0<=x)(x1:x<18446744073709551616)(y0:0<=y)(y1:y<18446744073709551616):IC x y=some (x*y/18446744073709551616,x*y%18446744073709551616):=by
 simp only[IC,abV,Pg.bS,Pg.bM,Pg.ck,Pg.dX,Pg.dt];try delta wI wU
 rw[ao5 x x0 x1,ao5 y y0 y1];simp only[rf _ 4294967296 (by decide),wrap_u64];have xe:x=x/4294967296*4294967296+x%4294967296:=by omega
 have ye:y=y/4294967296*4294967296+y%4294967296:=by omega
 have xh:0<=x/4294967296/\x/4294967296<=4294967295:=by omega
 have yh:0<=y/4294967296/\y/4294967296<=4294967295:=by omega
 have xl:0<=x%4294967296/\x%4294967296<=4294967295:=by omega
 have yl:0<=y%4294967296/\y%4294967296<=4294967295:=by omega
 have hxy:x*y=(x/4294967296)*(y/4294967296)*18446744073709551616+((x/4294967296)*(y%4294967296)+(x%4294967296)*(y/4294967296))*4294967296+(x%4294967296)*(y%4294967296):=by
  conv=>lhs;rw[xe,ye]
  generalize x/4294967296=a
  generalize x%4294967296=b
  generalize y/4294967296=c
  generalize y%4294967296=d
  rw[Vd,Int.mul_add,Int.mul_add,Vd];rw[show a*4294967296*(c*4294967296)=a*c*18446744073709551616 by rw[akZ,Int.mul_left_comm 4294967296 c,<-akZ,show(4294967296:Int)*4294967296=18446744073709551616 from rfl]];rw[show a*4294967296*d=a*d*4294967296 by rw[akZ,xT 4294967296 d,<-akZ],show b*(c*4294967296)=b*c*4294967296 by rw[akZ]];omega
 obtain⟨A0,A1⟩:=ao7 xh.1 xh.2 yh.1 yh.2;obtain⟨B0,B1⟩:=ao7 xh.1 xh.2 yl.1 yl.2;obtain⟨C0,C1⟩:=ao7 xl.1 xl.2 yh.1 yh.2;obtain⟨D0,D1⟩:=ao7 xl.1 xl.2 yl.1 yl.2;simp only[FB xl.1 (show x%4294967296<18446744073709551616 by omega),FB yl.1 (show y%4294967296<18446744073709551616 by omega)];rw[hxy];generalize x/4294967296*(y/4294967296)=A at*
 generalize x/4294967296*(y%4294967296)=B at*
 generalize x%4294967296*(y/4294967296)=C at*
 generalize x%4294967296*(y%4294967296)=D at*
 have r1:A%18446744073709551616=A:=FB A0 (by omega);have r2:B%18446744073709551616=B:=FB B0 (by omega);have r3:C%18446744073709551616=C:=FB C0 (by omega);have r4:D%18446744073709551616=D:=FB D0 (by omega);simp only[r1,r2,r3,r4];have r5:(B+D/4294967296)%18446744073709551616=B+D/4294967296:=FB (by omega) (by omega);simp only[r5];rw[ao5 (B+D/4294967296) (by omega) (by omega)];have r6:(B+D/4294967296)%4294967296%18446744073709551616=(B+D/4294967296)%4294967296:=FB (by omega) (by omega);simp only[r6];have r7:((B+D/4294967296)%4294967296+C)%18446744073709551616=(B+D/4294967296)%4294967296+C:=FB (by omega) (by omega);simp only[r7];refine fe some (Prod.ext ?_ rfl);simp only;omega
theorem aLn (h l:Int)(neg:Bool)(h0:0<=h)(h1:h<9223372036854775808)(l0:0<=l)(l1:l<18446744073709551616):
  ∃h' l' b,nd h l neg=some ((h',l'),b)/\okW h' l'/\vW h' l'=if neg=true then -(h*18446744073709551616+l) else h*18446744073709551616+l:=by
 simp only[nd,L4,Pg.bS,Pg.bM,Pg.ck,Pg.dX,Pg.dt];try delta wI wU
 cases neg
 .refine⟨_,_,_,rfl,?_,?_⟩
  .rw[wrap_i64 (by omega) (by omega)];omega
  .rw[wrap_i64 (by omega) (by omega)];rfl
 .simp only[HZ,bq,aei l l0 l1,wrap_u64,aei h h0 (by omega)];rw[O8 _ _ _ (by omega) (by omega) (by omega) (by omega)];simp only[bG];generalize hm:(18446744073709551615-h)%18446744073709551616+((18446744073709551615-l)%18446744073709551616+1+0)/18446744073709551616=m
  have hw:=Hg (m%18446744073709551616);generalize IntKind.wrap IntKind.i64 (m%18446744073709551616)=w at*
  have ok:okW w (((18446744073709551615-l)%18446744073709551616+1+0)%18446744073709551616)/\vW w (((18446744073709551615-l)%18446744073709551616+1+0)%18446744073709551616)= -(h*18446744073709551616+l):=by
   unfold vW;refine⟨⟨?_,?_,?_,?_⟩,?_⟩<;>(split at hw<;>omega)
  cases decide (w<0)
  .exact⟨_,_,_,rfl,ok.1,by simp only[lr];exact ok.2⟩
  .exact⟨_,_,_,rfl,ok.1,by simp only[lr];exact ok.2⟩
theorem Bt (a b:Int)(a0: -9223372036854775808<=a)(a1:a<=9223372036854775807)(b0: -9223372036854775808<=b)(b1:b<=9223372036854775807):∃h l,fE a b=some (h,l)/\okW h l/\vW h l=a*b:=by
 simp only[fE,aly,Pg.bS,Pg.bM,Pg.ck,Pg.dX,Pg.dt];try delta wI wU
 simp only[ao6 a a0 a1,ao6 b b0 b1,bG];generalize hx:(if a<0 then -a else a)=x
 generalize hy:(if b<0 then -b else b)=y
 have x0:0<=x/\x<=9223372036854775808:=by rw[<-hx];split<;>omega
 have y0:0<=y/\y<=9223372036854775808:=by rw[<-hy];split<;>omega
 have hp:0<=x*y:=pj x0.1 y0.1
 have hq:x*y<=85070591730234615865843651857942052864:=by
  have:=LK x0.2 y0.2 y0.1 (by omega);omega
 rw[aTK x y x0.1 (by omega) y0.1 (by omega)];simp only[bG];obtain⟨h,l,c,e1,e2,e3⟩:=aLn (x*y/18446744073709551616) (x*y%18446744073709551616) (!decide (a<0)==decide (b<0)) (by omega) (by omega) (by omega) (by omega);rw[e1];simp only[bG];refine⟨h,l,rfl,e2,?_⟩;have e4:x*y/18446744073709551616*18446744073709551616+x*y%18446744073709551616=x*y:=by omega
 rw[e3,e4];by_cases p:a<0
 .by_cases q:b<0
  .rw[if_pos p] at hx;rw[if_pos q] at hy;simp only[p,q,Ji];rw[if_neg (by decide)];rw[<-hx,<-hy,Int.neg_mul_neg]
  .rw[if_pos p] at hx;rw[if_neg q] at hy;simp only[p,q,Ji,Kb];rw[if_pos (by decide)];rw[<-hx,<-hy,Int.neg_mul,Int.neg_neg]
 .by_cases q:b<0
  .rw[if_neg p] at hx;rw[if_pos q] at hy;simp only[p,q,Ji,Kb];rw[if_pos (by decide)];rw[<-hx,<-hy,Int.mul_neg,Int.neg_neg]
  .rw[if_neg p] at hx;rw[if_neg q] at hy;simp only[p,q,Kb];rw[if_neg (by decide)];rw[<-hx,<-hy]
theorem aFZ (a b:Int)(s:Nat)(eA:Bool)(hs:s<=120):aW a b (wr s) eA=some (sat (rS (sat a*sat b) s),eA||dq a||dq b||dq (rS (sat a*sat b) s)):=by
 simp only[aW,abZ,Pg.bS,Pg.bM,Pg.ck,Pg.dX,Pg.dt];try delta wI wU
 have:=ly a;have:=ly b;obtain⟨h,l,e1,e2,e3⟩:=Bt (sat a) (sat b) (by omega) (by omega) (by omega) (by omega);simp only[oI,bG,e1,ahs h l s _ hs e2,e3]
theorem X7 (f g:Nat->Int)(w:Bool)(o1:okW (f 0) (g 0))(o2:okW (f 1) (g 1))(r0: -170141183460469231731687303715884105728<=vW (f 0) (g 0)+vW (f 1) (g 1))(r1:vW (f 0) (g 0)+vW (f 1) (g 1)<170141183460469231731687303715884105728):
  ∃h l,ku 2 f g w=some ((h,l),true)/\okW h l/\vW h l=vW (f 0) (g 0)+vW (f 1) (g 1):=by
 simp only[ku,aak,Pg.bS,Pg.bM,Pg.ck,Pg.dX,Pg.dt];try delta wI wU
 unfold IJ;rw[show z9 2 2=true from rfl,bo,alp];obtain⟨h1,l1,b1,e1,a1,c1,d1⟩:=ayB 0 0 (f 0) (g 0) ⟨by omega,by omega,by omega,by omega⟩ o1
 have t1:b1=true:=by
  rw[c1];obtain⟨p1,p2,p3,p4⟩:=o1;simp only[vW];omega
 subst t1;have d1:=d1 rfl;obtain⟨h2,l2,b2,e2,a2,c2,d2⟩:=ayB h1 l1 (f 1) (g 1) a1 o2;have z:vW 0 0=0:=rfl;have t2:b2=true:=by rw[c2,d1,z];omega
 subst t2;have d2:=d2 rfl;refine⟨h2,l2,?_,a2,by rw[d2,d1,z];omega⟩;have k0:decide ((0:Int)<wr 2)=true:=by decide
 have k1:bg 0 2=true:=by decide
 have k2:IntKind.wrap .i64 (0+1)=1:=by decide
 have k3:decide ((1:Int)<wr 2)=true:=by decide
 have k4:bg 1 2=true:=by decide
 have k5:IntKind.wrap .i64 (1+1)=2:=by decide
 have k6:decide ((2:Int)<wr 2)=false:=by decide
 have k7:z4 0=0:=rfl;have k8:z4 1=1:=rfl;rw[aab];simp only[Ed,Pg.px,Pg.py,Pg.si,Pg.yJ,Pg.pA,mK,jI,wI,k0,k1,k2,k7,bo,e1,bG,HZ,bq];rw[aab];simp only[k3,k4,k5,k8,bo,e2,bG,HZ,bq];rw[aab];simp only[k6,bq,jI]
def eJ (f:Nat->Int):Nat->Int
 |0=>0
 |n+1=>eJ f n+f n
def mA (f:Nat->Bool):Nat->Bool
 |0=>false
 |n+1=>mA f n||f n
theorem aek (f:Nat->Int)(B:Int)(hB:0<=B)(n:Nat)(h:∀j,j<n-> -B<=f j/\f j<=B): -(n*B)<=eJ f n/\eJ f n<=n*B:=by
 induction n with
 |zero=>simp[eJ]
 |succ n ih=>
  have:=ih λj hj=>h j (by omega)
  have h2:=h n (by omega);have e:((n+1:Nat):Int)*B=n*B+B:=by rw[Int.natCast_add,Vd];simp
  rw[e,eJ];omega
theorem aJa (v:Int):rS v 0=v:=by
 unfold rS half;simp only[lr,Int.add_zero];have:(2:Int)^0=1:=rfl;rw[this,Int.ediv_one,Int.ediv_one];split<;>omega
theorem ao8 {i n t:Nat}(h:i+t=n)(ht:0<t):decide (wr i<wr n)=true:=by simp only[dH];exact dy (by omega)
theorem ao9 {i n:Nat}(h:n<=i):decide (wr i<wr n)=false:=by simp only[dH];exact cE (by omega)
theorem aaS {i n:Nat}(h:i<n):bg (wr i) n=true:=by unfold bg;simp only[dH,cK,jG];omega
theorem apa {i:Nat}(h:i<9000000000000000000):IntKind.wrap .i64 (wr i+1)=wr (i+1):=(wrap_i64 (by simp only[dH];omega) (by simp only[dH];omega)).trans rfl
theorem aYv (n:Nat)(hn:n<=1900)(eA:Bool)(l:Nat->Int)(w:Bool):
  cJ n eA l w=some (sat (eJ (λj=>sat (l j)) n),(eA||mA (λj=>dq (l j)) n)||dq (eJ (λj=>sat (l j)) n)):=by
 simp only[cJ,Qy,Pg.bS,Pg.bM,Pg.ck,Pg.dX,Pg.dt];try delta wI wU
 unfold Td;rw[FE,bo]
 refine FI (λt d=>∃(i:Nat) (h l':Int),i+t=n/\okW h l'/\vW h l'=eJ (λj=>sat (l j)) i/\d=(((n,w),wr n,wr i),(eA||mA (λj=>dq (l j)) i),l,h,l')) ?_ 2000 n _ (by omega)
  ⟨0,0,0,by omega,⟨by omega,by omega,by omega,by omega⟩,rfl,by simp only[mA,LL];rfl⟩
 rintro t _ c ⟨i,h,l',hi,ho,hv,rfl⟩ hc
 have bnd:=aek (λj=>sat (l j)) 1152921504606846976 (by omega) i (λj _=>ly _);rcases SO t with t0|t0
 .have e:i=n:=by omega
  subst e;have r:=ahs h l' 0;have r2:=wide_round h l' 0 (by omega) ho;rw[aJa] at r2;have r3:wr 0=0:=rfl;rw[r3] at r2;simp only[Jw,Pg.px,Pg.py,Pg.si,Pg.yJ,Pg.pA,mK,jI,wI,ao9 (cR i),bq,r2];by_cases k: -9223372036854775808<=vW h l'/\vW h l'<=9223372036854775807
  .rw[if_pos k];simp only[lr,bG,aej,hv]
  .rw[if_neg k];simp only[bG,aej,xS,fT];rw[<-hv];unfold sat dq;by_cases ng:h<0
   .have c1:vW h l'< -1152921504606846976:=by
     obtain⟨o1,o2,o3,o4⟩:=ho;simp only[vW] at*;omega
    simp[ng,c1]
   .have c1:¬vW h l'< -1152921504606846976:=by
     obtain⟨o1,o2,o3,o4⟩:=ho;simp only[vW] at*;omega
    have c2:1152921504606846976<vW h l':=by
     obtain⟨o1,o2,o3,o4⟩:=ho;simp only[vW] at*;omega
    simp[ng,c1,c2]
 .have hs:=ly (l i);obtain⟨h1,l1,e1,o1,v1⟩:=aYt (sat (l i)) (by omega) (by omega)
  obtain⟨h2,l2,e2,o2,v2⟩:=X7 (λj:Nat=>bif z9 j 1 then h1 else bif z9 j 0 then h else h) (λj:Nat=>bif z9 j 1 then l1 else bif z9 j 0 then l' else l') true
   ho o1 (by show _<=vW h l'+vW h1 l1;rw[hv,v1];omega) (by show vW h l'+vW h1 l1<_;rw[hv,v1];omega)
  have v2:vW h2 l2=vW h l'+vW h1 l1:=v2;rw[hv,v1] at v2;have q:z4 (wr i)=i:=rfl;simp only[Jw,Pg.px,Pg.py,Pg.si,Pg.yJ,Pg.pA,mK,jI,wI,ao8 hi t0,aaS (show i<n by omega),bo,q,oI,bG,e1,e2,apa (show i<9000000000000000000 by omega)];refine hc (t-1) _ (by omega) ⟨i+1,h2,l2,by omega,o2,v2,?_⟩;simp only[mA,Bool.or_assoc]
theorem RB (a b:Int): -1329227995784915872903807060280344576<=sat a*sat b/\sat a*sat b<=1329227995784915872903807060280344576:=by
 have h1:=ly a;have h2:=ly b;generalize sat a=x at*
 generalize sat b=y at*
 have key:∀u v:Int,0<=u->u<=1152921504606846976->0<=v->v<=1152921504606846976->0<=u*v/\u*v<=1329227995784915872903807060280344576:=λu v u0 u1 v0 v1=>by
  refine⟨pj u0 v0,?_⟩;have:=LK u1 v1 v0 (by omega);omega
 rcases Wk 0 x with hx|hx<;>rcases Wk 0 y with hy|hy
 .have:=key x y hx (by omega) hy (by omega);omega
 .have:=key x (-y) hx (by omega) (by omega) (by omega);rw[Int.mul_neg] at this;omega
 .have:=key (-x) y (by omega) (by omega) hy (by omega);rw[Int.neg_mul] at this;omega
 .have:=key (-x) (-y) (by omega) (by omega) (by omega) (by omega);rw[Int.neg_mul_neg] at this;omega
theorem aF0 (s:Nat)(hs:s<=120)(n:Nat)(hn:n<=100)(eA:Bool)(f g:Nat->Int)(w w':Bool):
  bx (wr s) n n eA f g w w'=some (sat (rS (eJ (λj=>sat (f j)*sat (g j)) n) s),(eA||mA (λj=>dq (f j)||dq (g j)) n)||dq (rS (eJ (λj=>sat (f j)*sat (g j)) n) s)):=by
 simp only[bx,acv,Pg.bS,Pg.bM,Pg.ck,Pg.dX,Pg.dt];try delta wI wU
 unfold Tl;have n0:decide (wr s<0)=false:=by simp
 have n1:decide (wr s>120)=false:=by simp only[dH];exact cE (by omega)
 have m:(if 100<if wr n<wr n then wr n else wr n then 100 else if wr n<wr n then wr n else wr n)=wr n:=by
  have e:¬wr n<wr n:=by omega
  rw[if_neg e,if_neg (by simp only[dH];omega)]
 rw[n0,n1,bq,bq,FE,bo,bo,m]
 refine FI (λt d=>∃(i:Nat) (h l':Int),i+t=n/\okW h l'/\vW h l'=eJ (λj=>sat (f j)*sat (g j)) i/\d=((wr s,(n,w),(n,w'),wr n,wr i),(eA||mA (λj=>dq (f j)||dq (g j)) i),f,g,h,l')) ?_ 2000 n _ (by omega)
  ⟨0,0,0,by omega,⟨by omega,by omega,by omega,by omega⟩,rfl,by simp only[mA,LL];rfl⟩
 rintro t _ c ⟨i,h,l',hi,ho,hv,rfl⟩ hc
 have bnd:=aek (λj=>sat (f j)*sat (g j)) 1329227995784915872903807060280344576 (by omega) i (λj _=>RB _ _);rcases SO t with t0|t0
 .have e:i=n:=by omega
  subst e;simp only[JA,Pg.px,Pg.py,Pg.si,Pg.yJ,Pg.pA,mK,jI,wI,ao9 (cR i),bq,ahs h l' s _ hs ho,hv,bG]
 .have hs1:=ly (f i);have Wr:=ly (g i);have hm:=RB (f i) (g i);obtain⟨h1,l1,e1,o1,v1⟩:=Bt (sat (f i)) (sat (g i)) (by omega) (by omega) (by omega) (by omega)
  obtain⟨h2,l2,e2,o2,v2⟩:=X7 (λj:Nat=>bif z9 j 1 then h1 else bif z9 j 0 then h else h) (λj:Nat=>bif z9 j 1 then l1 else bif z9 j 0 then l' else l') true
   ho o1 (by show _<=vW h l'+vW h1 l1;rw[hv,v1];omega) (by show vW h l'+vW h1 l1<_;rw[hv,v1];omega)
  have v2:vW h2 l2=vW h l'+vW h1 l1:=v2;rw[hv,v1] at v2;have q:z4 (wr i)=i:=rfl;simp only[JA,Pg.px,Pg.py,Pg.si,Pg.yJ,Pg.pA,mK,jI,wI,ao8 hi t0,aaS (show i<n by omega),bo,q,oI,bG,e1,e2,apa (show i<9000000000000000000 by omega)];refine hc (t-1) _ (by omega) ⟨i+1,h2,l2,by omega,o2,v2,?_⟩;simp only[mA,Bool.or_assoc]
theorem aOc (x:Int):rS (x*1073741824) 30=x:=by
 unfold rS half;rw[if_neg (by omega:¬(30:Nat)=0),show(2:Int)^(30-1)=536870912 from rfl,show(2:Int)^30=1073741824 from rfl];split<;>omega
theorem Hh {x:Int}(h: -1152921504606846976<=x/\x<=1152921504606846976):sat x=x/\dq x=false:=by
 unfold sat dq;have h1:¬x< -1152921504606846976:=by omega
 have h2:¬1152921504606846976<x:=by omega
 simp[h1,h2]
end Go.Proofs.YtldgljclcgaibaaGreat
