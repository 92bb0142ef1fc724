/-
  Parts of the proof: Q2 PWS PWT PWU PWV
-/
import Derived.Test.YtldgljclcgaibaaGreatZAE
import Derived.Test.YtldgljclcgaibaaGreatZAF
open Nat renaming beq→z9,ble→wr
open Int renaming toNat→z4,ofNat→ws
open Sum renaming inl→ww,inr→wt
open BitVec renaming ofInt→wn,toNat→wd
set_option linter.unusedVariables false
set_option linter.unusedSimpArgs false
set_option maxRecDepth 100000
set_option maxHeartbeats 4000000
noncomputable section
namespace Go.Proofs.YtldgljclcgaibaaGreat
open Go.Ab Go.Ab.Pg Go.Ab.Rq
def aru:=qa (pl as6 nil)
def Xy:=qe AT
abbrev arv:=Xy.B
abbrev QV:=Int->Int->Int->Int->Option arv
def acR (g:QV):Ct:=(67,FC aru (lf Xy) (λb=>g b.1 b.2.1 b.b.1 b.b.2))
def mo:=qs (st (dp (us 1 (cu (app 0 4) (us 1 (c aWz (us 6 (c agi (cl ai (us 24 aPI)))))))) λa=>(pl (c xX (cl (so (cl (gs a.1 aJ8) nil)) nil)) nil)))
def aaU:=qs (st (pu (us 2 (cu uy (us 42 nil))) (pu nil nil)))
def avT:=qs (st (pr (us 1 (cu (app 0 4) (us 1 (c aWz (us 6 (c agi (c ai (cl ab (us 23 aPI))))))))) (pl (c xX (cl aPZ nil)) nil)))
abbrev yH:=aaU.B⊕((Nat×aIM×Int×Bool)×aIM×NI×NI)
def ajl {ρ:Type}(x:yH)(K:AX->St->Option ρ):Option ρ:=(Sum.elim (λd=>K .ret (aaU.em d)) (λd=>K (.ex 0) (avT.em (d.1,d.2.1,d.1.1,d.b)))) x
def TF (dF:O3)(c9:oG)(d:mo.B):PL mo yH:=let n5:=d.2.2;let n3:=d.1.1;let n2:=d.1.2;let n4:=n2.1.2;let y0:=n3+1;let n1:=(y0,n2.1,wI (n2.2+1));let y1:=decide (n2.2<4);ae y1 (ae (bf n2.2 4) (ae (n2.2==3) (opt (dF n4.2.2) λak=>ae (decide (ak>1073741840)) (ret (wt (ww ()))) (opt (c9 n4.2.2 n4.2.2) λaK=>ae (wr (y0*16) 140737488355328) (ret (ww (n1,d.2.1,λj=>bif z9 j n3 then aK.1 else n5.1 j,λj=>bif z9 j n3 then aK.2 else n5.2 j))) no)) (ae (n2.2==2) (opt (dF n4.2.1) λak=>ae (decide (ak>1073741840)) (ret (wt (ww ()))) (opt (c9 n4.2.1 n4.2.1) λaK=>ae (wr (y0*16) 140737488355328) (ret (ww (n1,d.2.1,λj=>bif z9 j n3 then aK.1 else n5.1 j,λj=>bif z9 j n3 then aK.2 else n5.2 j))) no)) (ae (n2.2==1) (opt (dF n4.1) λak=>ae (decide (ak>1073741840)) (ret (wt (ww ()))) (opt (c9 n4.1 n4.1) λaK=>ae (wr (y0*16) 140737488355328) (ret (ww (n1,d.2.1,λj=>bif z9 j n3 then aK.1 else n5.1 j,λj=>bif z9 j n3 then aK.2 else n5.2 j))) no)) (opt (dF n2.1.1) λak=>ae (decide (ak>1073741840)) (ret (wt (ww ()))) (opt (c9 n2.1.1 n2.1.1) λaK=>ae (wr (y0*16) 140737488355328) (ret (ww (n1,d.2.1,λj=>bif z9 j n3 then aK.1 else n5.1 j,λj=>bif z9 j n3 then aK.2 else n5.2 j))) no))))) no) (ret (wt (wt ((n3,n2.1,n2.2,y1),d.2))))
def TG:=bE (TF yG fK) 2000
def acS (yZ:ti)(vS:D5)(eB:LT mo yH)(x0:Int)(x1:Int)(x2:Int)(x3:Int):Pg arv:=ae true (opt (eB ((0,(x0,x1,x2,x3),0),(x0,x1,x2,x3),λx=>0,λx=>0)) λx=>sum x (λd=>ret false) λd=>ae (z9 d.1.1 d.1.1) (opt (yZ d.1.1 d.2.2.1 d.2.2.2 true) λd=>opt (vS d.1.1 d.1.2 0) λd=>let y0:=wI (d.1-1152921504606846976);ae d.2 (ae (decide (y0>= -4294967296)) (ret (decide (y0<=4294967296))) (ret false)) (ret false)) no) no
def sE:=λx0 x1 x2 x3=>(acS kT sk TG x0 x1 x2 x3).val
abbrev QW:=O3×oG×ti×D5×(LT mo yH)
def acT (p:QW):KK:=⟨[aeF p.1,yT p.2.1,Lf p.b.1,QI p.b.2.1],⟨[⟨3,(0::2::rg 4 6 (rg 12 24 [39,40,44])),[(3,[.i .i64,.i .u64])]⟩],[gx 3 0 mo ajl p.c],[],[],(some ⟨0,(0::1::rg 3 42 []),[]⟩)⟩,0,67⟩
theorem ayX (p:QW):LI (acT p) 3 mo ajl (TF p.1 p.2.1):=λ_ d c K=>by kernel_rfl
theorem aHQ (p:QW):D2 (acT p) aru (lf Xy) λb=>acS p.b.1 p.b.2.1 p.c b.1 b.2.1 b.b.1 b.b.2:=λb=>by kernel_rfl
abbrev acU:QW:=(yG,fK,kT,sk,TG)
theorem arw [ay]:SC (acR sE):=sc (kS (k:=acT acU) (.c apr (.c BO (.c RG (.c aco (.nil _))))) [3] [] ⟨kL (ayX acU),trivial⟩ trivial (aHQ acU))
def arx:=qa (dp (cu aS (c ai (c IC (cl aVx nil)))) λa=>(c xU (c (cl (gs a.2.1.1 oF) nil) (cl (cl (gs a.b.1 oF) nil) nil))))
def Xz:=qe (res (pr ai (pl (cl auX axR) nil)))
abbrev ary:=Xz.B
abbrev eU:=Int->Nat->Nat->Bool->NI->NI->Bool->Bool->Option ary
def nw (g:eU):Ct:=(73,vR 3 [.i .i64] (vR 2 [.i .i64] (FC arx (lf Xz) (λb=>g b.1.1 b.1.2.1.1 b.1.b.1 b.2.1 b.b.1 b.b.2 b.1.2.1.2 b.1.b.2))))
def wo:=qs (st (dp (cu aS (c ai (c IC (c aVx (us 5 (cu (app 3 2) aV6)))))) λa=>(pl (c cG (c (so (cl (gs a.2.1.1 oF) nil)) (c (so (cl (gs a.b.1.1 oF) nil)) ab0))) cY)))
def aCL:=qs (st (pr (cu aS (c ai (c IC (c aVx (us 5 (cu (app 3 2) aWa)))))) (pl (c cG (c J8 (c J8 ab0))) cY)))
abbrev JE:=(aVq×Bool×NI×NI×Int×Int)
def ajm {ρ:Type}(x:JE)(K:AX->St->Option ρ):Option ρ:=(λd=>K (.ex 0) (aCL.em (d.1,d.2.1,(d.1.2.1.1,d.b.1),(d.1.b.1.1,d.b.2.1),d.c))) x
def JF (ax:bS)(c9:oG)(yZ:ti)(d:wo.B):PL wo JE:=let y0:=z4 d.1.2.2.2.2;let y1:=decide (d.1.2.2.2.2<d.1.2.2.2.1);ae y1 (ae (bf d.1.2.2.2.2 d.1.2.1.1) (opt (ax (d.2.2.1 y0) d.2.1) λak=>ae (bf d.1.2.2.2.2 d.1.2.2.1.1) (opt (ax (d.2.2.2.1 y0) ak.2) λaK=>opt (c9 ak.1 aK.1) λbJ=>opt (yZ 2 (λj=>bif z9 j 1 then bJ.1 else bif z9 j 0 then d.2.2.2.2.1 else d.2.2.2.2.1) (λj=>bif z9 j 1 then bJ.2 else bif z9 j 0 then d.2.2.2.2.2 else d.2.2.2.2.2) true) λcI=>ret (ww ((d.1.1,d.1.2.1,d.1.2.2.1,d.1.2.2.2.1,wI (d.1.2.2.2.2+1)),aK.2,d.2.2.1,d.2.2.2.1,cI.1))) no) no) (ret (wt ((d.1.1,d.1.2.1,d.1.2.2.1,d.1.2.2.2.1,d.1.2.2.2.2,y1),d.2)))
def TH:=bE (JF aP fK kT) 2000
def acV (ju:yE)(eB:LT wo JE)(x0:Int)(x1:Nat)(x2:Nat)(x3:Bool)(x4:Nat->Int)(x5:Nat->Int)(w0:Bool)(w1:Bool):Pg ary:=let y0:=if ws x2<ws x1 then ws x2 else ws x1;ae (decide (x0<0)) (opt (ju 0 0 x0 x3) λd=>ret d) (ae (decide (x0>120)) (opt (ju 0 0 x0 x3) λd=>ret d) (ae (z9 x1 x1) (ae (z9 x2 x2) (opt (eB ((x0,(x1,w0),(x2,w1),if 100<y0 then 100 else y0,0),x3,x4,x5,0,0)) λd=>opt (ju d.2.2.2.2.1 d.2.2.2.2.2 d.1.1 d.2.1) λd=>ret d) no) no))
def bD:=λx0 x1 x2 x3 x4 x5 w0 w1=>(acV nN TH x0 x1 x2 x3 x4 x5 w0 w1).val
abbrev QX:=yE×bS×oG×ti×(LT wo JE)
def acW (p:QX):KK:=⟨[Jt p.1,dD p.2.1,yT p.b.1,Lf p.b.2.1],⟨[⟨5,(rg 4 5 (rg 10 15 (rg 27 26 []))),[]⟩],[gx 5 3 wo ajm p.c],[0],[],(some ⟨0,(rg 0 8 (rg 9 44 [])),[]⟩)⟩,3,73⟩
theorem ayY (p:QX):LI (acW p) 5 wo ajm (JF p.2.1 p.b.1 p.b.2.1):=λ_ d c K=>by kernel_rfl
theorem aHR (p:QX):D2 (acW p) arx (lf Xz) λb=>acV p.1 p.c b.1.1 b.1.2.1.1 b.1.b.1 b.2.1 b.b.1 b.b.2 b.1.2.1.2 b.1.b.2:=λb=>by kernel_rfl
abbrev acX:QX:=(nN,aP,fK,kT,TH)
theorem pF [ay]:SC (nw bD):=sc (Sound.nil 3 [.i .i64]<|Sound.nil 2 [.i .i64]<|kS (k:=acW acX) (.c Tx (.c dI (.c BO (.c RG (.nil _))))) [5] [] ⟨kL (ayY acX),trivial⟩ trivial (aHR acX))
def aAV:=qa (pr (c ai (c ai (c ai (cl ai (cu aS (cu aqs nil)))))) (cu aPv (c agh bK)))
def ahv:=qe aWr
abbrev aAW:=ahv.B
abbrev amq:=Int->Int->Int->Int->Int->Int->Int->Int->Bool->Option aAW
def aAX (g:amq):Ct:=(196,FC aAV (lf ahv) (λb=>g b.1.1 b.1.2.1 b.1.b.1 b.1.b.2 b.2.1.1 b.2.1.2.1 b.2.1.b.1 b.2.1.b.2 b.b))
def amr (bp:eU)(x0:Int)(x1:Int)(x2:Int)(x3:Int)(x4:Int)(x5:Int)(x6:Int)(x7:Int)(x8:Bool):Pg aAW:=let y0:=wI (x0*x4);opt (bp 30 4 4 x8 (cr x4 [x7,x6,x5,x4]) (cr y0 [wI (x3*x7),wI (x2*x6),wI (x1*x5),y0]) false true) λd=>ret d
def RN:=λx0 x1 x2 x3 x4 x5 x6 x7 x8=>(amr bD x0 x1 x2 x3 x4 x5 x6 x7 x8).val
theorem aNV:∀bp,D0 [nw bp] 196 aAV (lf ahv) λb=>amr bp b.1.1 b.1.2.1 b.1.b.1 b.1.b.2 b.2.1.1 b.2.1.2.1 b.2.1.b.1 b.2.1.b.2 b.b:=λ_ b=>by kernel_rfl
theorem aNW [ay]:SC (aAX RN):=s0 (.c pF (.nil _)) (aNV bD)
def aAY:=qa (pr (c ai (c ai aKh)) (cu as1 bK))
def ahw:=qe aPV
abbrev aAZ:=ahw.B
abbrev ams:=Int->Int->Int->Int->Bool->Option aAZ
def aA0 (g:ams):Ct:=(197,FC aAY (lf ahw) (λb=>g b.1.1 b.1.2.1 b.1.b.1 b.1.b.2 b.2))
def amt (bp:eU)(x0:Int)(x1:Int)(x2:Int)(x3:Int)(x4:Bool):Pg aAZ:=opt (bp 30 4 4 x4 (cr x0 [x2,x2,x0,x0]) (cr x1 [x3,x3,x1,x1]) true true) λd=>ret d
def RO:=λx0 x1 x2 x3 x4=>(amt bD x0 x1 x2 x3 x4).val
theorem aNX:∀bp,D0 [nw bp] 197 aAY (lf ahw) λb=>amt bp b.1.1 b.1.2.1 b.1.b.1 b.1.b.2 b.2:=λ_ b=>by kernel_rfl
theorem aNY [ay]:SC (aA0 RO):=s0 (.c pF (.nil _)) (aNX bD)
def aaV:=qa (pr (c ai (c ai (cl ai (cu aqt nil)))) (cl as2 nil))
def Kq:=qe aWv
abbrev aaW:=Kq.B
abbrev aaX:=Int->Int->Int->NI->Option aaW
def aaY (g:aaX):Ct:=(115,FC aaV (lf Kq) (λb=>g b.1.1 b.1.2.1 b.1.b b.2))
def jL:=qs (st (pr (us 1 (c ai (c ai (cu aqt (us 3 (cl ai (us 9 nil))))))) (pl Ft cY)))
def apH:=qs (st (pr (us 1 (c ai (c ai (cu aqt (us 3 (c ai (us 1 (c ai (c ai (cl ab (us 5 nil))))))))))) (pl Ft cY)))
abbrev vd:=((Int×Int×Int×Bool)×NI)
def UU {ρ:Type}(x:vd)(K:AX->St->Option ρ):Option ρ:=(λd=>K (.ex 0) (apH.em ((d.1.1,d.1.2.1,d.1.b.1,d.1.b.1,d.1.1,d.1.b.2),d.2))) x
def H4 (d:jL.B):PL jL vd:=let n1:=d.1.2;let y0:=z4 n1.2;let y1:=decide (n1.2<d.1.1);ae y1 (ae (bf n1.2 24) (ae (true&&wr (0+y0*1+1) 24) (ret (ww ((d.1.1,n1.1,wI (n1.2+1)),λj=>bif z9 j y0 then n1.1 else d.2 j))) no) no) (ret (wt ((d.1.1,n1.1,n1.2,y1),d.2)))
def H5:=bE (H4) 2000
def Mw (eB:LT jL vd)(x0:Int)(x1:Int)(x2:Int)(x3:Nat->Int):Pg aaW:=opt (eB ((x1,x2,x0),x3)) λd=>ret d.2
def za:=λx0 x1 x2 x3=>(Mw H5 x0 x1 x2 x3).val
abbrev ET:=(LT jL vd)
def Mx (p:ET):KK:=⟨[],⟨[⟨1,(0::4::5::6::rg 8 9 []),[]⟩],[gx 1 1 jL UU p],[0],[],(some ⟨0,(rg 0 17 []),[]⟩)⟩,1,115⟩
theorem amu (p:ET):LI (Mx p) 1 jL UU (H4):=λ_ d c K=>by kernel_rfl
theorem avU (p:ET):D2 (Mx p) aaV (lf Kq) λb=>Mw p b.1.1 b.1.2.1 b.1.b b.2:=λb=>by kernel_rfl
abbrev My:ET:=H5
theorem avV [ay]:SC (aaY za):=sc (kS (k:=Mx My) (.nil _) [1] [] ⟨kL (amu My),trivial⟩ trivial (avU My))
def ajn:=qa (pr (cu aS gZ) bK)
def O7:=qe rf
abbrev ajo:=O7.B
abbrev DA:=Int->Bool->Option ajo
def TI (g:DA):Ct:=(88,FC ajn (lf O7) (λb=>g b.1 b.2))
def yI (aG:cm)(x0:Int)(x1:Bool):Pg ajo:=opt (aG x0 1 72057594037927936 x1) λd=>ret d
def hO:=λx0 x1=>(yI aV x0 x1).val
theorem aCM:∀aG,D0 [ey aG] 88 ajn (lf O7) λb=>yI aG b.1 b.2:=λ_ b=>by kernel_rfl
theorem ajp [ay]:SC (TI hO):=s0 (.c eO (.nil _)) (aCM aV)
def aeJ:=qa (pr (cu aS (cl AU nil)) bK)
def Mz:=qe aQa
abbrev O8:=Mz.B
abbrev rv:=NI->NI->Bool->Option O8
def Bd (g:rv):Ct:=(69,FC aeJ (lf Mz) (λb=>g b.1.1 b.1.2 b.2))
def eP:=qs (st (pr (cu aS (us 2 (cu HC (cu aah (us 2 aPt))))) (pl (c cG ax5) cY)))
def XA:=qs (st (pr (cu aS (us 2 (cu HC (cu aah (us 2 aPC))))) (pl (c cG ax5) cY)))
abbrev lP:=XA.B
def XB {ρ:Type}:=@ef lP ((.ex 0)) XA ρ
def ry (TJ:DA)(d:eP.B):PL eP lP:=let y0:=z4 d.1;let y1:=bf d.1 24;let y2:=decide (d.1<24);ae y2 (ae y1 (opt (TJ (d.2.2.1.2 y0) d.2.1) λak=>ae y1 (ae (true&&wr (276+y0*1+1) 300) (ret (ww (wI (d.1+1),ak.2,(d.2.2.1.1,λj=>bif z9 j y0 then ak.1 else d.2.2.1.2 j),d.2.2.2))) no) no) no) (ret (wt ((d.1,y2),d.2)))
def rz:=bE (ry hO) 2000
def eQ:=qs (st (pr (cu aS (us 2 (cu HC (cu aah (us 15 aJ5))))) (pl (c cG ax5) cY)))
def XC:=qs (st (pr (cu aS (us 2 (cu HC (cu aah (us 15 aJ9))))) (pl (c cG ax5) cY)))
abbrev lQ:=XC.B
def XD {ρ:Type}:=@ef lQ ((.ex 2)) XC ρ
def rA (aG:cm)(d:eQ.B):PL eQ lQ:=let y0:=z4 d.1;let y1:=bf d.1 276;let y2:=decide (d.1<276);let y3:=0+y0*1+1;let y4:=wr y3 276;ae y2 (ae y1 (ae y4 (opt (aG (d.2.2.1.1 y0) (-1152921504606846976) 1152921504606846976 d.2.1) λak=>ae y1 (ae (y4&&wr y3 300) (ret (ww (wI (d.1+1),ak.2,(λj=>bif z9 j y0 then ak.1 else d.2.2.1.1 j,d.2.2.1.2),d.2.2.2))) no) no) no) no) (ret (wt ((d.1,y2),d.2)))
def rB:=bE (rA aV) 2000
def wq (eB:LT eP lP)(ru:LT eQ lQ)(x0:Nat->Int)(x1:Nat->Int)(x2:Bool):Pg O8:=opt (eB (0,x2,(x0,x1),λx=>0,λx=>0)) λd=>opt (ru (0,d.2)) λd=>ret (d.2.2.1,d.2.1)
def dO:=λx0 x1 x2=>(wq rz rB x0 x1 x2).val
abbrev Be:=DA×cm×(LT eP lP)×(LT eQ lQ)
def G0 (p:Be):KK:=⟨[TI p.1,ey p.2.1],⟨[⟨2,(1::2::5::6::rg 8 26 []),[]⟩,⟨7,(1::2::rg 5 15 (rg 21 13 [])),[]⟩],[gx 2 1 eP XB p.b.1,gx 7 1 eQ XD p.b.2],[0],[],(some ⟨0,(rg 0 4 (rg 5 29 [])),[]⟩)⟩,1,69⟩
theorem apI (p:Be):LI (G0 p) 2 eP XB (ry p.1):=λ_ d c K=>by kernel_rfl
theorem apJ (p:Be):LI (G0 p) 7 eQ XD (rA p.2.1):=λ_ d c K=>by kernel_rfl
theorem ayZ (p:Be):D2 (G0 p) aeJ (lf Mz) λb=>wq p.b.1 p.b.2 b.1.1 b.1.2 b.2:=λb=>by kernel_rfl
abbrev G3:Be:=(hO,aV,rz,rB)
theorem G4 [ay]:SC (Bd dO):=sc (kS (k:=G0 G3) (.c ajp (.c eO (.nil _))) [2,7] [] ⟨kL (apI G3),⟨kL (apJ G3),trivial⟩⟩ trivial (ayZ G3))
def aFV:=qa (dp (cu aS axT) λa=>(c xU (cl (cl (gs a.1 oF) nil) nil)))
def amv:=qe aWO
abbrev aFW:=amv.B
abbrev atL:=Nat->Bool->NI->Bool->Option aFW
def aFX (g:atL):Ct:=(50,vR 1 [.i .i64] (FC aFV (lf amv) (λb=>g b.1.1 b.2.1 b.b b.1.2)))
def sF:=qs (st (dp (cu aS (c IC (us 2 (cu aah (cu aIP (us 1 aEc)))))) λa=>(pl (c cG (c (so (cl (gs a.1.1 oF) nil)) ax5)) cY)))
def aLb:=qs (st (pr (cu aS (c IC (us 2 (cu aah (cu aIP (us 1 aKb)))))) (pl (c cG (c J8 ax5)) cY)))
abbrev G5:=(((Nat×Bool)×Int×Bool)×Bool×NI×(NI×NI)×NI×NI)
def avW {ρ:Type}(x:G5)(K:AX->St->Option ρ):Option ρ:=(λd=>K (.ex 0) (aLb.em (d.1,d.2.1,(d.1.1.1,d.b.1),d.b.2))) x
def VD (TJ:DA)(d:sF.B):PL sF G5:=let n3:=d.1.1;let n2:=d.1.2;let n1:=d.2.2;let y0:=z4 n2;let y1:=bf n2 24;let y2:=decide (n2<24);let y3:=true&&wr (276+y0*1+1) 300;ae y2 (ae y1 (ae y3 (ae (decide (n2<ws n3.1)) (ae (bf n2 n3.1) (opt (TJ (n1.1 y0) d.2.1) λak=>ae y1 (ae y3 (ret (ww ((n3,wI (n2+1)),ak.2,n1.1,n1.2.1,n1.2.2.1,λj=>let y0:=z9 j y0;bif y0 then ak.1 else bif y0 then 1 else n1.2.2.2 j))) no) no) no) (ret (ww ((n3,wI (n2+1)),d.2.1,n1.1,n1.2.1,n1.2.2.1,λj=>bif z9 j y0 then 1 else n1.2.2.2 j)))) no) no) (ret (wt ((n3,n2,y2),d.2)))
def VE:=bE (VD hO) 2000
def ahx (eB:LT sF G5)(x0:Nat)(x1:Bool)(x2:Nat->Int)(w0:Bool):Pg aFW:=ae (z9 x0 x0) (opt (eB (((x0,w0),0),x1,x2,(λx=>0,λx=>0),λx=>0,λx=>0)) λd=>ret (d.2.2.2.2,d.2.1)) no
def Kr:=λx0 x1 x2 w0=>(ahx VE x0 x1 x2 w0).val
abbrev ahy:=DA×(LT sF G5)
def atM (p:ahy):KK:=⟨[TI p.1],⟨[⟨3,(2::3::6::rg 8 20 []),[]⟩],[gx 3 2 sF avW p.2],[0],[],(some ⟨0,(rg 0 4 (rg 5 23 [])),[]⟩)⟩,2,50⟩
theorem aHS (p:ahy):LI (atM p) 3 sF avW (VD p.1):=λ_ d c K=>by kernel_rfl
theorem aRi (p:ahy):D2 (atM p) aFV (lf amv) λb=>ahx p.2 b.1.1 b.2.1 b.b b.1.2:=λb=>by kernel_rfl
abbrev atN:ahy:=(hO,VE)
theorem aRj [ay]:SC (aFX Kr):=sc (Sound.nil 1 [.i .i64]<|kS (k:=atM atN) (.c ajp (.nil _)) [3] [] ⟨kL (aHS atN),trivial⟩ trivial (aRi atN))
def avX:=qa (pl zW nil)
def acY:=qe ax0
abbrev VF:=acY.B
abbrev ahz:=Int->Int->Option VF
def ahA (g:ahz):Ct:=(125,FC avX (lf acY) (λb=>g b.1 b.2))
def G6 (x0:Int)(x1:Int):Pg VF:=let y0:=wI (wI (Int.tdiv (wI (x1*wI (x1-1))) 2)+x0);ae (decide (x0>=0)) (ae (decide (x0<x1)) (ret (y0,decide (x1<24))) (ret (y0,false))) (ret (y0,false))
def j7:=λx0 x1=>(G6 x0 x1).val
theorem aLc:D0 [] 125 avX (lf acY) λb=>G6 b.1 b.2:=λb=>by kernel_rfl
theorem avY [ay]:SC (ahA j7):=s0 (.nil _) aLc
def aNZ:=qa (pl (c AU zW) nil)
def ay0:=qe Fq
abbrev aN0:=ay0.B
abbrev XE:=NI->NI->Int->Int->Option aN0
def avZ (g:XE):Ct:=(71,FC aNZ (lf ay0) (λb=>g b.1.1 b.1.2 b.2.1 b.b))
def av0 (pP:ahz)(x0:Nat->Int)(x1:Nat->Int)(x2:Int)(x3:Int):Pg aN0:=ae (x2==x3) (ae (decide (x2>=0)) (ae (decide (x2<24)) (ret 1073741824) (opt (pP x2 x3) λd=>ae (!d.2) (ret 0) (ae (bf d.1 276) (ae (wr (0+z4 d.1*1+1) 276) (ret (x0 (z4 d.1))) no) no))) (opt (pP x2 x3) λd=>ae (!d.2) (ret 0) (ae (bf d.1 276) (ae (wr (0+z4 d.1*1+1) 276) (ret (x0 (z4 d.1))) no) no))) (opt (pP x2 x3) λd=>ae (!d.2) (ret 0) (ae (bf d.1 276) (ae (wr (0+z4 d.1*1+1) 276) (ret (x0 (z4 d.1))) no) no))
def FJ:=λx0 x1 x2 x3=>(av0 j7 x0 x1 x2 x3).val
theorem aYo:∀pP,D0 [ahA pP] 71 aNZ (lf ay0) λb=>av0 pP b.1.1 b.1.2 b.2.1 b.b:=λ_ b=>by kernel_rfl
theorem aFY [ay]:SC (avZ FJ):=s0 (.c avY (.nil _)) (aYo j7)
def aFZ:=qa (pl (c AU Fs) nil)
def amw:=qe (res (pl AU (pu nil nil)))
abbrev aF0:=amw.B
abbrev XF:=NI->NI->Int->Int->Int->Option aF0
def atO (g:XF):Ct:=(217,FC aFZ (lf amw) (λb=>g b.1.1 b.1.2 b.2.1 b.b.1 b.b.2))
def XG (pP:ahz)(x0:Nat->Int)(x1:Nat->Int)(x2:Int)(x3:Int)(x4:Int):Pg aF0:=opt (pP x2 x3) λd=>let y0:=0+z4 d.1*1+1;ae d.2 (ae (bf d.1 276) (ae (wr y0 276&&wr y0 300) (ret (λj=>bif z9 j (z4 d.1) then x4 else x0 j,x1)) no) no) (ret (x0,x1))
def uG:=λx0 x1 x2 x3 x4=>(XG j7 x0 x1 x2 x3 x4).val
theorem aRk:∀pP,D0 [ahA pP] 217 aFZ (lf amw) λb=>XG pP b.1.1 b.1.2 b.2.1 b.b.1 b.b.2:=λ_ b=>by kernel_rfl
theorem aF1 [ay]:SC (atO uG):=s0 (.c avY (.nil _)) (aRk j7)
def ajq:=qa (pu nil nil)
def O9:=qe (res (pl (aa aEe) (pu nil nil)))
abbrev DB:=O9.B
abbrev DD:=Option DB
def TK (g:DD):Ct:=(213,FC ajq (lf O9) (λ_=>g))
def iM:=qs (st (pr (cu (app 0 576) (cu Ru (us 1 aPx))) (pl (c mH (cl mH nil)) nil)))
def aaZ:=qs (st (pr (cu (app 0 576) (cu Ru (us 1 aKc))) (pl (c mH (cl mH nil)) nil)))
abbrev uc:=aaZ.B
def aa0 {ρ:Type}:=@ef uc ((.ex 0)) aaZ ρ
def EU (d:iM.B):PL iM uc:=let y0:=z4 d.1;let y1:=bf d.1 24;let y2:=decide (d.1<24);let y3:=y0*24+y0;ae y2 (ae y1 (ae y1 (ae (true&&wr (0+y3*1+1) 576) (ret (ww (wI (d.1+1),d.2.1,λj=>bif z9 j y3 then 1073741824 else d.2.2 j))) no) no) no) (ret (wt ((d.1,y2),d.2)))
def EV:=bE (EU) 2000
def JG (eB:LT iM uc):Pg DB:=opt (eB (0,λx=>0,λx=>0)) λd=>ret d.2.2
def nP:Option DB:=(JG EV).val
abbrev JH:=(LT iM uc)
def TL (p:JH):KK:=⟨[],⟨[⟨3,(2::rg 4 8 []),[]⟩],[gx 3 0 iM aa0 p],[],[],(some ⟨0,(rg 1 11 []),[]⟩)⟩,0,213⟩
theorem atP (p:JH):LI (TL p) 3 iM aa0 (EU):=λ_ d c K=>by kernel_rfl
theorem aCN (p:JH):D2 (TL p) ajq (lf O9) λb=>JG p:=λb=>by kernel_rfl
abbrev TM:JH:=EV
theorem ajr [ay]:SC (TK nP):=sc (kS (k:=TL TM) (.nil _) [3] [] ⟨kL (atP TM),trivial⟩ trivial (aCN TM))
def av1:=qa (pr (cu aS (c (aa abZ) HV)) bK)
def acZ:=qe ax2
abbrev av2:=acZ.B
abbrev G7:=NI->Int->Int->Int->Bool->Option av2
def MA (g:G7):Ct:=(124,FC av1 (lf acZ) (λb=>g b.1.1 b.1.2.1 b.1.b.1 b.1.b.2 b.2))
def qC:=qs (st (pr (cu aS (us 3 (cu aIQ (cu aag (cu ak4 (cu aSj (us 1 aPs))))))) (pl (c cG (c (so abZ) (c zX ale))) cY)))
def amx:=qs (st (pr (cu aS (us 3 (cu aIQ (cu aag (cu ak4 (cu aSj (us 1 (c ai aPq)))))))) (pl (c cG (c (so abZ) (c zX ale))) cY)))
abbrev FK:=amx.B
def amy {ρ:Type}:=@ef FK ((.ex 0)) amx ρ
def XH (bp:eU)(d:qC.B):PL qC FK:=let n2:=d.2.2.1;let n1:=d.2.2.2;let y0:=wI (3*d.1);let y1:=wI (d.1+1);let y2:=z4 y0;let y3:=wI (y0+3);let y4:=z4 y3;let y5:=decide (d.1<3);let y6:=y4-y2;ae y5 (ae (HE y3 9) (ae (HE y0 y4) (ae (z9 y6 y6) (opt (bp 30 y6 3 d.2.1 (λj=>n2 (y2+j)) (cr n1.1.1 [n1.1.2.2,n1.1.2.1,n1.1.1]) false false) λak=>ae (bf d.1 3) (ae (d.1==2) (ret (ww (y1,ak.2,n2,n1.1,n1.2.1,n1.2.2.1,ak.1))) (ae (d.1==1) (ret (ww (y1,ak.2,n2,n1.1,n1.2.1,ak.1,n1.2.2.2))) (ret (ww (y1,ak.2,n2,n1.1,ak.1,n1.2.2))))) no) no) no) no) (ret (wt ((d.1,y5),d.2)))
def XI:=bE (XH bD) 2000
def ahB (eB:LT qC FK)(x0:Nat->Int)(x1:Int)(x2:Int)(x3:Int)(x4:Bool):Pg av2:=opt (eB (0,x4,x0,(x1,x2,x3),0,0,0)) λd=>ret (d.2.2.2.2,d.2.1)
def pQ:=λx0 x1 x2 x3 x4=>(ahB XI x0 x1 x2 x3 x4).val
abbrev VG:=eU×(LT qC FK)
def ahC (p:VG):KK:=⟨[nw p.1],⟨[⟨3,(1::2::3::8::rg 10 15 []),[]⟩],[gx 3 1 qC amy p.2],[0],[],(some ⟨0,(rg 0 6 (rg 7 18 [])),[]⟩)⟩,1,124⟩
theorem aCO (p:VG):LI (ahC p) 3 qC amy (XH p.1):=λ_ d c K=>by kernel_rfl
theorem aLd (p:VG):D2 (ahC p) av1 (lf acZ) λb=>ahB p.2 b.1.1 b.1.2.1 b.1.b.1 b.1.b.2 b.2:=λb=>by kernel_rfl
abbrev ahD:VG:=(bD,XI)
theorem VH [ay]:SC (MA pQ):=sc (kS (k:=ahC ahD) (.c pF (.nil _)) [3] [] ⟨kL (aCO ahD),trivial⟩ trivial (aLd ahD))
def aA1:=qa (pr (cu aS (c (aa abZ) HV)) bK)
def ahE:=qe ax2
abbrev aA2:=ahE.B
abbrev FL:=NI->Int->Int->Int->Bool->Option aA2
def aa1 (g:FL):Ct:=(121,FC aA1 (lf ahE) (λb=>g b.1.1 b.1.2.1 b.1.b.1 b.1.b.2 b.2))
def tn:=qs (st (pr (cu aS (us 3 (cu aIQ (cu aag (cu ak4 (cu aSj (us 1 aVB))))))) (pl (c cG (c (so abZ) (c zX ale))) cY)))
def arz:=qs (st (pr (cu aS (us 3 (cu aIQ (cu aag (cu ak4 (cu aSj (us 1 aVO))))))) (pl (c cG (c (so abZ) (c zX ale))) cY)))
abbrev IT:=arz.B
def arA {ρ:Type}:=@ef IT ((.ex 0)) arz ρ
def ac0 (bp:eU)(d:tn.B):PL tn IT:=let n1:=d.2.2;let n3:=n1.2.2;let n2:=n1.2.1;let y0:=wI (6+d.1);let y1:=wI (d.1+1);let y2:=wI (3+d.1);let y3:=decide (d.1<3);ae y3 (ae (bf d.1 9) (ae (bf y2 9) (ae (bf y0 9) (opt (bp 30 3 3 d.2.1 (cr (n1.1 (z4 d.1)) [n1.1 (z4 y0),n1.1 (z4 y2),n1.1 (z4 d.1)]) (cr n2.1 [n2.2.2,n2.2.1,n2.1]) true false) λak=>ae (bf d.1 3) (ae (d.1==2) (ret (ww (y1,ak.2,n1.1,n2,n3.1,n3.2.1,ak.1))) (ae (d.1==1) (ret (ww (y1,ak.2,n1.1,n2,n3.1,ak.1,n3.2.2))) (ret (ww (y1,ak.2,n1.1,n2,ak.1,n3.2))))) no) no) no) no) (ret (wt ((d.1,y3),d.2)))
def ac1:=bE (ac0 bD) 2000
def amz (eB:LT tn IT)(x0:Nat->Int)(x1:Int)(x2:Int)(x3:Int)(x4:Bool):Pg aA2:=opt (eB (0,x4,x0,(x1,x2,x3),0,0,0)) λd=>ret (d.2.2.2.2,d.2.1)
def zb:=λx0 x1 x2 x3 x4=>(amz ac1 x0 x1 x2 x3 x4).val
abbrev aa2:=eU×(LT tn IT)
def amA (p:aa2):KK:=⟨[nw p.1],⟨[⟨3,(1::2::3::8::rg 10 21 []),[]⟩],[gx 3 1 tn arA p.2],[0],[],(some ⟨0,(rg 0 6 (rg 7 24 [])),[]⟩)⟩,1,121⟩
theorem aF2 (p:aa2):LI (amA p) 3 tn arA (ac0 p.1):=λ_ d c K=>by kernel_rfl
theorem aN1 (p:aa2):D2 (amA p) aA1 (lf ahE) λb=>amz p.2 b.1.1 b.1.2.1 b.1.b.1 b.1.b.2 b.2:=λb=>by kernel_rfl
abbrev amB:aa2:=(bD,ac1)
theorem amC [ay]:SC (aa1 zb):=sc (kS (k:=amA amB) (.c pF (.nil _)) [3] [] ⟨kL (aF2 amB),trivial⟩ trivial (aN1 amB))
def av3:=qa (pl (cl (aa wJ) nil) nil)
def ac2:=qe AT
abbrev av4:=ac2.B
abbrev av5:=Int->Int->Bool->Bool->Option av4
def av6 (g:av5):Ct:=(176,FC av3 (lf ac2) (λb=>g b.1 b.2.1 b.b.1 b.b.2))
def VI (x0:Int)(x1:Int)(x2:Bool)(x3:Bool):Pg av4:=let y0:=x0==0;let y1:=x0==2;ae y0 (ae y0 (ae (x1==0) (ae (!x2) (ret !x3) (ret false)) (ret false)) (ae y1 (ae y1 (ae (decide (x1>=1)) (ae (decide (x1<=3)) (ae x2 (ret true) (ret y1)) (ret false)) (ret false)) (ret false)) (ae (x0==3) (ae (decide (x1>=1)) (ae (decide (x1<=3)) (ae x2 (ret true) (ret y1)) (ret false)) (ret false)) (ret false)))) (ae (x0==1) (ae (x1==0) (ae (!x2) (ret !x3) (ret false)) (ret false)) (ae y1 (ae y1 (ae (decide (x1>=1)) (ae (decide (x1<=3)) (ae x2 (ret true) (ret y1)) (ret false)) (ret false)) (ret false)) (ae (x0==3) (ae (decide (x1>=1)) (ae (decide (x1<=3)) (ae x2 (ret true) (ret y1)) (ret false)) (ret false)) (ret false))))
def Cq:=λx0 x1 x2 x3=>(VI x0 x1 x2 x3).val
theorem aLe:D0 [] 176 av3 (lf ac2) λb=>VI b.1 b.2.1 b.b.1 b.b.2:=λb=>by kernel_rfl
theorem aLf [ay]:SC (av6 Cq):=s0 (.nil _) aLe
def av7:=qa (pl (c ai aQh) nil)
def ac3:=qe Fq
abbrev av8:=ac3.B
abbrev av9:=Int->Bool->Bool->Bool->Bool->Bool->Bool->Bool->Bool->Int->Int->Int->Option av8
def awa (g:av9):Ct:=(177,FC av7 (lf ac3) (λb=>g b.1 b.2.1 b.b.1 b.b.2.1.1 b.b.2.1.2.1 b.b.2.1.b.1 b.b.2.1.b.2.1 b.b.2.1.c.1 b.b.2.1.c.2 b.c.1 b.c.2.1 b.c.b))
def VJ (x0:Int)(x1:Bool)(x2:Bool)(x3:Bool)(x4:Bool)(x5:Bool)(x6:Bool)(x7:Bool)(x8:Bool)(x9:Int)(fX:Int)(fY:Int):Pg av8:=let y0:=x0==0;let y1:=x0==1;ae x3 (ae y0 (ae x1 (ret 1) (ae y0 (ret x0) (ae y1 (ae (!x2) (ret x0) (ret 3)) (ret 3)))) (ae y0 (ret x0) (ae y1 (ae (!x2) (ret x0) (ret 3)) (ret 3)))) (ae y0 (ae x1 (ret 1) (ae y0 (ret x0) (ae y1 (ae (!x2) (ret x0) (ae x8 (ret 3) (ret 2))) (ae x8 (ret 3) (ret 2))))) (ae y0 (ret x0) (ae y1 (ae (!x2) (ret x0) (ae x8 (ret 3) (ret 2))) (ae x8 (ret 3) (ret 2)))))
def Cr:=λx0 x1 x2 x3 x4 x5 x6 x7 x8 x9 fX fY=>(VJ x0 x1 x2 x3 x4 x5 x6 x7 x8 x9 fX fY).val
theorem aLg:D0 [] 177 av7 (lf ac3) λb=>VJ b.1 b.2.1 b.b.1 b.b.2.1.1 b.b.2.1.2.1 b.b.2.1.b.1 b.b.2.1.b.2.1 b.b.2.1.c.1 b.b.2.1.c.2 b.c.1 b.c.2.1 b.c.b:=λb=>by kernel_rfl
theorem aLh [ay]:SC (awa Cr):=s0 (.nil _) aLg
def amD:=qa (pl gZ nil)
def TN:=qe Fq
abbrev amE:=TN.B
abbrev XJ:=Int->Option amE
def amF (g:XJ):Ct:=(239,FC amD (lf TN) (λb=>g b))
def FM (x0:Int):Pg amE:=ae (x0==1) (ret 1) (ae (x0==2) (ret 0) (ret 2))
def Bg:=λx0=>(FM x0).val
theorem aF3:D0 [] 239 amD (lf TN) λb=>FM b:=λb=>by kernel_rfl
theorem aF4 [ay]:SC (amF Bg):=s0 (.nil _) aF3
def amG:=qa (pl (c ai aQh) nil)
def TO:=qe ax0
abbrev amH:=TO.B
abbrev amI:=Int->Bool->Bool->Bool->Bool->Bool->Bool->Bool->Bool->Int->Int->Int->Option amH
def amJ (g:amI):Ct:=(178,FC amG (lf TO) (λb=>g b.1 b.2.1 b.b.1 b.b.2.1.1 b.b.2.1.2.1 b.b.2.1.b.1 b.b.2.1.b.2.1 b.b.2.1.c.1 b.b.2.1.c.2 b.c.1 b.c.2.1 b.c.b))
def lr:=qs (st (pr (c ai (us 1 (xs 1 (cu (app 0 11) (us 2 (xs 1 (us 3 (cu aWI (cu (ac aPA) aEc))))))))) (pl (c aP9 (cl (so (cl gi (cu (gc axS) (cu aPD aPJ)))) nil)) nil)))
def XK:=qs (st (pl (us 4 (cl ai (cu Ta aVs))) (pu nil nil)))
def XL:=qs (st (pr (c ai (us 1 (xs 1 (cu (app 0 11) (us 2 (xs 1 (us 3 (cu aWI (cu (ac aPA) aKb))))))))) (pl (c aP9 (cl (so (cl gi (cu (gc axS) (cu aPD aPJ)))) nil)) nil)))
abbrev wu:=XK.B⊕XL.B
def aeK {ρ:Type}(x:wu)(K:AX->St->Option ρ):Option ρ:=(Sum.elim (λd=>K .ret (XK.em d)) (λd=>K (.ex 0) (XL.em d))) x
def G8 (MB:XJ)(d:lr.B):PL lr wu:=let n6:=d.2.2;let n5:=d.2.1.2.2;let n3:=d.1.1;let n2:=d.1.2;let n1:=n5.2;let n4:=n1.2.2;let n7:=n4.2.2.1;let y0:=decide (n2<4);ae y0 (ae (bf n2 4) (ae (n2==3) (opt (MB 3) λak=>ae (bf ak 6) (ae (ak==5) (ae n7 (ret (wt (ww 3))) (ret (ww ((n3,wI (n2+1)),d.2)))) (ae (ak==4) (ae n4.2.1 (ret (wt (ww 3))) (ret (ww ((n3,wI (n2+1)),d.2)))) (ae (ak==3) (ae n4.1 (ret (wt (ww 3))) (ret (ww ((n3,wI (n2+1)),d.2)))) (ae (ak==2) (ae n1.2.1 (ret (wt (ww 3))) (ret (ww ((n3,wI (n2+1)),d.2)))) (ae (ak==1) (ae n1.1 (ret (wt (ww 3))) (ret (ww ((n3,wI (n2+1)),d.2)))) (ae n5.1 (ret (wt (ww 3))) (ret (ww ((n3,wI (n2+1)),d.2))))))))) no) (ae (n2==2) (opt (MB 2) λak=>ae (bf ak 6) (ae (ak==5) (ae n7 (ret (wt (ww 2))) (ret (ww ((n3,wI (n2+1)),d.2)))) (ae (ak==4) (ae n4.2.1 (ret (wt (ww 2))) (ret (ww ((n3,wI (n2+1)),d.2)))) (ae (ak==3) (ae n4.1 (ret (wt (ww 2))) (ret (ww ((n3,wI (n2+1)),d.2)))) (ae (ak==2) (ae n1.2.1 (ret (wt (ww 2))) (ret (ww ((n3,wI (n2+1)),d.2)))) (ae (ak==1) (ae n1.1 (ret (wt (ww 2))) (ret (ww ((n3,wI (n2+1)),d.2)))) (ae n5.1 (ret (wt (ww 2))) (ret (ww ((n3,wI (n2+1)),d.2))))))))) no) (ae (n2==1) (opt (MB 1) λak=>ae (bf ak 6) (ae (ak==5) (ae n7 (ret (wt (ww 1))) (ret (ww ((n3,wI (n2+1)),d.2)))) (ae (ak==4) (ae n4.2.1 (ret (wt (ww 1))) (ret (ww ((n3,wI (n2+1)),d.2)))) (ae (ak==3) (ae n4.1 (ret (wt (ww 1))) (ret (ww ((n3,wI (n2+1)),d.2)))) (ae (ak==2) (ae n1.2.1 (ret (wt (ww 1))) (ret (ww ((n3,wI (n2+1)),d.2)))) (ae (ak==1) (ae n1.1 (ret (wt (ww 1))) (ret (ww ((n3,wI (n2+1)),d.2)))) (ae n5.1 (ret (wt (ww 1))) (ret (ww ((n3,wI (n2+1)),d.2))))))))) no) (ae (decide (n6>=1)) (ae (decide (n6<=3)) (opt (MB n6) λak=>ae (bf ak 6) (ae (ak==5) (ae n7 (ret (wt (ww n6))) (ret (ww ((n3,wI (n2+1)),d.2)))) (ae (ak==4) (ae n4.2.1 (ret (wt (ww n6))) (ret (ww ((n3,wI (n2+1)),d.2)))) (ae (ak==3) (ae n4.1 (ret (wt (ww n6))) (ret (ww ((n3,wI (n2+1)),d.2)))) (ae (ak==2) (ae n1.2.1 (ret (wt (ww n6))) (ret (ww ((n3,wI (n2+1)),d.2)))) (ae (ak==1) (ae n1.1 (ret (wt (ww n6))) (ret (ww ((n3,wI (n2+1)),d.2)))) (ae n5.1 (ret (wt (ww n6))) (ret (ww ((n3,wI (n2+1)),d.2))))))))) no) (ret (ww ((n3,wI (n2+1)),d.2)))) (ret (ww ((n3,wI (n2+1)),d.2))))))) no) (ret (wt (wt ((n3,n2,y0),d.2))))
def G9:=bE (G8 Bg) 2000
def MC (eB:LT lr wu)(x0:Int)(x1:Bool)(x2:Bool)(x3:Bool)(x4:Bool)(x5:Bool)(x6:Bool)(x7:Bool)(x8:Bool)(x9:Int)(fX:Int)(fY:Int):Pg amH:=opt (eB ((x0,0),(x1,x2,x3,x4,x5,x6,x7,x8,x9,fX,fY),fY)) λx=>sum x (λd=>ret (d,true)) λd=>ret (if 1>d.1.1 then 1 else d.1.1,false)
def wQ:=λx0 x1 x2 x3 x4 x5 x6 x7 x8 x9 fX fY=>(MC G9 x0 x1 x2 x3 x4 x5 x6 x7 x8 x9 fX fY).val
abbrev MD:=XJ×(LT lr wu)
def XM (p:MD):KK:=⟨[amF p.1],⟨[⟨2,(1::4::5::7::8::9::rg 13 6 (21::22::rg 28 5 (19::20::rg 23 5 []))),[]⟩],[gx 2 0 lr aeK p.2],[],[],(some ⟨0,(rg 0 4 (rg 6 27 [])),[]⟩)⟩,0,178⟩
theorem awb (p:MD):LI (XM p) 2 lr aeK (G8 p.1):=λ_ d c K=>by kernel_rfl
theorem aF5 (p:MD):D2 (XM p) amG (lf TO) λb=>MC p.2 b.1 b.2.1 b.b.1 b.b.2.1.1 b.b.2.1.2.1 b.b.2.1.b.1 b.b.2.1.b.2.1 b.b.2.1.c.1 b.b.2.1.c.2 b.c.1 b.c.2.1 b.c.b:=λb=>by kernel_rfl
abbrev XN:MD:=(Bg,G9)
theorem aF6 [ay]:SC (amJ wQ):=sc (kS (k:=XM XN) (.c aF4 (.nil _)) [2] [] ⟨kL (awb XN),trivial⟩ trivial (aF5 XN))
def G':=qa (pl (c (aa wJ) aQh) nil)
def aHT:=qe (res (pl (rZ (c (ra wJ) (cl (ra (c gi (c gi (c gb aKd)))) nil))) (pu nil nil)))
abbrev ahF:=(uW×Int×Int)
def awc:ahF->T:=λd=>lf aHT (d.1,d.1.1,d.1.2.1,d.1.b.1,d.1.b.2,d.2)
abbrev ahG:=G'.B->Option ahF
def awd (g:ahG):Ct:=(111,FC G' awc g)
def VK (VL:av5)(ME:av9)(FN:amI)(x:G'.B):Pg ahF:=let n8:=x.2.2.1;let n7:=x.1.1;let n4:=x.1.2.1;let n1:=x.2.2.2;let n9:=n1.1.2.1;let n6:=n1.2.1;let n3:=n1.2.2;let n2:=n1.1.2.2;let n5:=n2.2.2;let y0:=decide (n6>=0);opt (VL n7 n4 x.1.2.2.1 x.1.2.2.2) λd=>ae (!d) (opt (ME 0 x.2.1 n8 n1.1.1 n9 n2.1 n2.2.1 n5.1 n5.2 n6 n3.1 n3.2) λd=>ae (decide (d>=2)) (opt (FN 0 x.2.1 n8 n1.1.1 n9 n2.1 n2.2.1 n5.1 n5.2 n6 n3.1 n3.2) λak=>ae (d==3) (ret ((d,ak.1,true,!ak.2),0,0)) (ae y0 (ret ((d,ak.1,decide (n6<=n3.1),!ak.2),0,0)) (ret ((d,ak.1,false,!ak.2),0,0)))) (ret ((d,0,false,false),0,0))) (opt (ME n7 x.2.1 n8 n1.1.1 n9 n2.1 n2.2.1 n5.1 n5.2 n6 n3.1 n3.2) λd=>ae (decide (d>=2)) (opt (FN n4 x.2.1 n8 n1.1.1 n9 n2.1 n2.2.1 n5.1 n5.2 n6 n3.1 n3.2) λak=>ae (d==3) (ret ((d,ak.1,true,!ak.2),n7,n4)) (ae y0 (ret ((d,ak.1,decide (n6<=n3.1),!ak.2),n7,n4)) (ret ((d,ak.1,false,!ak.2),n7,n4)))) (ret ((d,0,false,false),n7,n4)))
def Cs:=λx=>(VK Cq Cr wQ x).val
theorem aLi:∀VL ME FN,D0 [av6 VL,awa ME,amJ FN] 111 G' awc λb=>VK VL ME FN b:=λ_ _ _ b=>by kernel_rfl
theorem aLj [ay]:SC (awd Cs):=s0 (.c aLf (.c aLh (.c aF6 (.nil _)))) (aLi Cq Cr wQ)
def aF7:=qa (dp (cu aS aJ7) λa=>(c xU (cl (cl (gs a.1 as3) nil) nil)))
def amK:=qe (res (pr agd (pl Ow nil)))
abbrev aF8:=amK.B
abbrev Cu:=Nat->Bool->NI->NI->NI->Bool->Option aF8
def Ks (g:Cu):Ct:=(153,vR 1 [.i .i64,.i .i64,.i .i64] (FC aF7 (lf amK) (λb=>g b.1.1 b.2.1 b.b.1 b.b.2.1 b.c b.1.2)))
def vV:=qs (st (dp (cu aS (c aEa (us 2 (cu aag (cu ak4 (c ai (c aWA (us 2 (c ai (us 2 (c aEa (c ai (cl ai (us 17 nil)))))))))))))) λa=>(pl (c cG (c (so (cl (gs a.1.1 as3) nil)) (cu (so as7) (c zX (cl (so (cl (gs a.b.1 oF) nil)) nil))))) cY)))
def aLk:=qs (st (pr (cu aS (c aEa (us 2 (cu aag (cu ak4 (c ai (c aWA (us 2 (c ai (us 2 (c aEa (c ai (c ai (cl ab (us 16 nil))))))))))))))) (pl (c cG (c aEj (cu (so as7) (c zX ak9)))) cY)))
abbrev MF:=(((Nat×Bool)×Int×Nat×Int×(Nat×Bool)×Int×Int×Bool)×Bool×(NI×NI×NI)×nJ×NI)
def awe {ρ:Type}(x:MF)(K:AX->St->Option ρ):Option ρ:=(λd=>K (.ex 2) (aLk.em (d.1,d.2.1,(d.1.1.1,d.b.1),d.b.2.1,d.1.b.1,d.c))) x
def ahH (d:vV.B):PL vV MF:=let n5:=d.1.2.1;let n3:=d.2.2;let n2:=d.1.2.2;let n4:=n2.2.2.2;let y0:=n2.1+1;let n1:=(d.1.1,n5,y0,n2.2.1,n2.2.2.1,n4.1,wI (n4.2+1));let y1:=z4 n4.2;let y2:=wr (y0*8) 140737488355328;let y3:=decide (n4.2<n4.1);ae y3 (ae (bf n4.2 n2.2.2.1.1) (ae (bf n5 3) (ae (n5==2) (ae y2 (ret (ww (n1,d.2.1,n3.1,n3.2.1,λj=>bif z9 j n2.1 then n3.1.2.2 y1 else n3.2.2 j))) no) (ae (n5==1) (ae y2 (ret (ww (n1,d.2.1,n3.1,n3.2.1,λj=>bif z9 j n2.1 then n3.1.2.1 y1 else n3.2.2 j))) no) (ae y2 (ret (ww (n1,d.2.1,n3.1,n3.2.1,λj=>bif z9 j n2.1 then n3.1.1 y1 else n3.2.2 j))) no))) no) no) (ret (wt ((d.1.1,n5,n2.1,n2.2.1,n2.2.2.1,n4.1,n4.2,y3),d.2)))
def ahI:=bE (ahH) 2000
def vX:=qs (st (dp (cu aS (c aEa (us 2 (cu aag (cu ak4 (us 4 aVC)))))) λa=>(pl (c cG (c (so (cl (gs a.1.1 as3) nil)) ale)) cY)))
def aLl:=qs (st (pr (cu aS (c aEa (us 2 (cu aag (cu ak4 (us 4 (c ai aPr))))))) (pl (c cG (c aEj ale)) cY)))
abbrev MH:=(((Nat×Bool)×Int×Bool)×Bool×(NI×NI×NI)×Int×Int×Int)
def awf {ρ:Type}(x:MH)(K:AX->St->Option ρ):Option ρ:=(λd=>K (.ex 0) (aLl.em (d.1,d.2.1,(d.1.1.1,d.b.1),d.b.2))) x
def ahJ (cy:fG)(ru:LT vV MF)(d:vX.B):PL vX MH:=let n3:=d.1.1;let y0:=decide (d.1.2<3);ae y0 (ae (z9 n3.1 n3.1) (ae true (opt (ru ((n3,d.1.2,0,d.1.2,n3,ws n3.1,0),d.2.1,d.2.2.1,d.2.2.2,λx=>0)) λd=>let n2:=d.2.2;let n4:=n2.2.1;let n1:=d.1.2;ae (z9 n1.2.1 n1.2.1) (opt (cy n1.2.1 d.2.1 n2.2.2 true) λak=>ae (bf n1.1 3) (ae (n1.1==2) (ret (ww ((d.1.1,wI (n1.2.2.1+1)),ak.2,n2.1,n4.1,n4.2.1,ak.1))) (ae (n1.1==1) (ret (ww ((d.1.1,wI (n1.2.2.1+1)),ak.2,n2.1,n4.1,ak.1,n4.2.2))) (ret (ww ((d.1.1,wI (n1.2.2.1+1)),ak.2,n2.1,ak.1,n4.2))))) no) no) no) no) (ret (wt ((n3,d.1.2,y0),d.2)))
def ahK:=bE (ahJ cJ ahI) 2000
def atQ (eB:LT vX MH)(x0:Nat)(x1:Bool)(x2:Nat->Int)(x3:Nat->Int)(x4:Nat->Int)(w0:Bool):Pg aF8:=ae (z9 x0 x0) (opt (eB (((x0,w0),0),x1,(x2,x3,x4),0,0,0)) λd=>ret (d.2.2.2,d.2.1)) no
def lg:=λx0 x1 x2 x3 x4 w0=>(atQ ahK x0 x1 x2 x3 x4 w0).val
abbrev XO:=fG×(LT vV MF)×(LT vX MH)
def ahL (p:XO):KK:=⟨[pE p.1],⟨[⟨3,(2::3::rg 6 4 (rg 11 22 [])),[]⟩,⟨7,(2::3::8::9::11::12::rg 16 17 []),[(7,[.i .i64])]⟩],[gx 7 2 vV awe p.2.1,gx 3 2 vX awf p.b],[0],[],(some ⟨0,(rg 0 4 (rg 5 28 [])),[]⟩)⟩,2,153⟩
theorem aHU (p:XO):LI (ahL p) 7 vV awe (ahH):=λ_ d c K=>by kernel_rfl
theorem aHV (p:XO):LI (ahL p) 3 vX awf (ahJ p.1 p.2.1):=λ_ d c K=>by kernel_rfl
theorem aRl (p:XO):D2 (ahL p) aF7 (lf amK) λb=>atQ p.b b.1.1 b.2.1 b.b.1 b.b.2.1 b.c b.1.2:=λb=>by kernel_rfl
abbrev ahM:XO:=(cJ,ahI,ahK)
theorem O' [ay]:SC (Ks lg):=sc (Sound.nil 1 [.i .i64,.i .i64,.i .i64]<|kS (k:=ahL ahM) (.c sy (.nil _)) [3,7] [] ⟨kL (aHV ahM),⟨kL (aHU ahM),trivial⟩⟩ trivial (aRl ahM))
def awg:=qa (pr (cu aS as6) bK)
def ac4:=qe ax3
abbrev awh:=ac4.B
abbrev jg:=Int->Int->Int->Int->Bool->Option awh
def nQ (g:jg):Ct:=(86,FC awg (lf ac4) (λb=>g b.1.1 b.1.2.1 b.1.b.1 b.1.b.2 b.2))
def qD:=qs (st (pr (cu aS (us 2 (cu aqs (cu az1 (c ai (us 8 (c ai (us 4 aJ5)))))))) (pl (c cG (cl xX (cu ald nil))) cY)))
def amL:=qs (st (pr (cu aS (us 2 (cu aqs (cu az1 (c ai (us 8 (c ai (us 4 aJ9)))))))) (pl (c cG (cl xX (cu ald nil))) cY)))
abbrev FO:=amL.B
def amM {ρ:Type}:=@ef FO ((.ex 2)) amL ρ
def XP (aF:cT)(d:qD.B):PL qD FO:=let n6:=d.1.1;let n4:=d.1.2.2;let n2:=d.2.2;let n5:=n2.2.1;let n3:=n2.2.2;let n1:=(n6,d.1.2.1,wI (n4+1));let y0:=bf n4 4;let y1:=n4==2;let y2:=n4==1;let y3:=n4==3;let y4:=decide (n4<4);ae y4 (ae y0 (ae y3 (opt (aF n3.2 n6 30 d.2.1) λak=>ae y0 (ae y3 (ret (ww (n1,ak.2,n2.1,n5,n3.1,ak.1))) (ae y1 (ret (ww (n1,ak.2,n2.1,n5,ak.1,n3.2))) (ae y2 (ret (ww (n1,ak.2,n2.1,ak.1,n3))) (ret (ww (n1,ak.2,ak.1,n2.2)))))) no) (ae y1 (opt (aF n3.1 n6 30 d.2.1) λak=>ae y0 (ae y3 (ret (ww (n1,ak.2,n2.1,n5,n3.1,ak.1))) (ae y1 (ret (ww (n1,ak.2,n2.1,n5,ak.1,n3.2))) (ae y2 (ret (ww (n1,ak.2,n2.1,ak.1,n3))) (ret (ww (n1,ak.2,ak.1,n2.2)))))) no) (ae y2 (opt (aF n5 n6 30 d.2.1) λak=>ae y0 (ae y3 (ret (ww (n1,ak.2,n2.1,n5,n3.1,ak.1))) (ae y1 (ret (ww (n1,ak.2,n2.1,n5,ak.1,n3.2))) (ae y2 (ret (ww (n1,ak.2,n2.1,ak.1,n3))) (ret (ww (n1,ak.2,ak.1,n2.2)))))) no) (opt (aF n2.1 n6 30 d.2.1) λak=>ae y0 (ae y3 (ret (ww (n1,ak.2,n2.1,n5,n3.1,ak.1))) (ae y1 (ret (ww (n1,ak.2,n2.1,n5,ak.1,n3.2))) (ae y2 (ret (ww (n1,ak.2,n2.1,ak.1,n3))) (ret (ww (n1,ak.2,ak.1,n2.2)))))) no)))) no) (ret (wt ((n6,d.1.2.1,n4,y4),d.2)))
def fM:=bE (XP bl) 2000
def qE:=qs (st (pr (cu aS (us 2 (cu aqs (cu az1 (us 9 aPu))))) (pl (c cG (cl xX (cu ald nil))) cY)))
def amN:=qs (st (pr (cu aS (us 2 (cu aqs (cu az1 (us 9 aKa))))) (pl (c cG (cl xX (cu ald nil))) cY)))
abbrev FP:=amN.B
def amO {ρ:Type}:=@ef FP ((.ex 0)) amN ρ
def ky (kI:zZ)(ru:LT qD FO)(d:qE.B):PL qE FP:=let n1:=d.2.2;let y0:=decide (d.1<2);ae y0 (opt (kI 4 d.2.1 (cr n1.1 [n1.2.2.2,n1.2.2.1,n1.2.1,n1.1]) false) λak=>opt (ru ((ak.1,d.1,0),ak.2,n1)) λd=>ret (ww (wI (d.1.2.1+1),d.2))) (ret (wt ((d.1,y0),d.2)))
def FQ:=bE (ky cz fM) 2000
def VM (qB:RL)(jb:BS)(eB:LT qE FP)(x0:Int)(x1:Int)(x2:Int)(x3:Int)(x4:Bool):Pg awh:=opt (qB x0 x1 x2 x3 x4) λd=>ae (d.1.1==0&&(d.1.2.1==0&&(d.1.2.2.1==0&&(d.1.2.2.2==0&&true)))) (opt jb λak=>ret ((1073741824,0,0,0),d.2)) (opt (eB (0,d.2,d.1)) λd=>ret (d.2.2,d.2.1))
def di:=λx0 x1 x2 x3 x4=>(VM tl oI FQ x0 x1 x2 x3 x4).val
abbrev MI:=RL×BS×zZ×cT×(LT qD FO)×(LT qE FP)
def VN (p:MI):KK:=⟨[aaS p.1,Li p.2.1,IN p.b.1,gR p.b.2.1],⟨[⟨5,(1::2::rg 5 9 (rg 15 18 [])),[]⟩,⟨8,(1::2::rg 6 8 (rg 15 4 (rg 20 13 []))),[]⟩],[gx 8 1 qD amM p.c.1,gx 5 1 qE amO p.c.2],[],[],(some ⟨0,(rg 0 4 (rg 5 28 [])),[]⟩)⟩,1,86⟩
theorem aCP (p:MI):LI (VN p) 8 qD amM (XP p.b.2.1):=λ_ d c K=>by kernel_rfl
theorem aCQ (p:MI):LI (VN p) 5 qE amO (ky p.b.1 p.c.1):=λ_ d c K=>by kernel_rfl
theorem aLm (p:MI):D2 (VN p) awg (lf ac4) λb=>VM p.1 p.2.1 p.c.2 b.1.1 b.1.2.1 b.1.b.1 b.1.b.2 b.2:=λb=>by kernel_rfl
abbrev VO:MI:=(tl,oI,cz,bl,fM,FQ)
theorem pR [ay]:SC (nQ di):=sc (kS (k:=VN VO) (.c amn (.c RM (.c QS (.c iK (.nil _))))) [5,8] [] ⟨kL (aCQ VO),⟨kL (aCP VO),trivial⟩⟩ trivial (aLm VO))
def aeL:=qa (pr (cu aS (cl AU (cu Ru nil))) (c xU (cl aEe nil)))
def MJ:=qe (res (pu aVt (pr Ow (cl aVP nil))))
abbrev Pb:=MJ.B
abbrev Pc:=NI->NI->Bool->NI->Option Pb
def aeM (g:Pc):Ct:=(216,FC aeL (lf MJ) (λb=>g b.1.1 b.1.2 b.2.1 b.b))
def fN:=qs (st (pr (cu aS (us 1 (cu Ru (us 1 (cu aah (us 2 (cu aai (c ai (cu aqu (us 3 (c ai (us 3 (c ai (cl ai (us 35 nil))))))))))))))) (pl (c cG (c mH (c jx (c HU Ft)))) cY)))
def XQ:=qs (st (pr (cu aS (us 1 (cu Ru (us 1 (cu aah (us 2 (cu aai (c ai (cu aqu (us 3 (c ai (us 3 (c ai aVQ))))))))))))) (pl (c cG (c mH (c jx (c HU Ft)))) cY)))
abbrev od:=XQ.B
def XR {ρ:Type}:=@ef od ((.ex 2)) XQ ρ
def Cv (amP:XE)(d:fN.B):PL fN od:=let n2:=d.2.2.2;let n1:=d.1.2.2;let y0:=z4 n1.2;let y1:=decide (n1.2<n1.1);ae y1 (opt (amP n2.1.1 n2.1.2 n1.2 d.1.1) λak=>ae (bf n1.2 24) (ae (true&&wr (0+y0*1+1) 24) (ret (ww ((d.1.1,d.1.2.1,n1.1,wI (n1.2+1)),d.2.1,d.2.2.1,n2.1,n2.2.1,λj=>bif z9 j y0 then ak else n2.2.2 j))) no) no) (ret (wt ((d.1.1,d.1.2.1,n1.1,n1.2,y1),d.2)))
def Cw:=bE (Cv FJ) 2000
def fO:=qs (st (pr (cu aS (us 1 (cu Ru (us 1 (cu aah (us 2 (cu aai (c ai (cu aqu (us 3 (c ai (us 14 (cl ai (us 25 nil)))))))))))))) (pl (c cG (c mH (c jx (c HU Ft)))) cY)))
def XS:=qs (st (pr (cu aS (us 1 (cu Ru (us 1 (cu aah (us 2 (cu aai (c ai (cu aqu (us 3 (c ai (us 14 (c ai (cl ab aVu)))))))))))))) (pl (c cG (c mH (c jx (c HU Ft)))) cY)))
abbrev oi:=XS.B
def XT {ρ:Type}:=@ef oi ((.ex 4)) XS ρ
def Cy (bp:eU)(d:fO.B):PL fO oi:=let n2:=d.2.2;let n1:=d.1.2;let y0:=z4 n1.2;let y1:=bf n1.2 24;let y2:=decide (n1.2<24);let y3:=y0*48+z4 d.1.1;ae y2 (ae y1 (opt (bp 30 24 24 d.2.1 (λj=>n2.1 (0+y0*24+j)) n2.2.2.2 false false) λak=>ae y1 (ae (bf d.1.1 48) (ae (true&&wr (0+y3*1+1) 1152) (ret (ww ((d.1.1,n1.1,wI (n1.2+1)),ak.2,n2.1,n2.2.1,λj=>bif z9 j y3 then ak.1 else n2.2.2.1 j,n2.2.2.2))) no) no) no) no) (ret (wt ((d.1.1,n1.1,n1.2,y2),d.2)))
def Cz:=bE (Cy bD) 2000
def gS:=qs (st (pr (us 7 (cu aVt (us 37 aPx))) (pl (c cG (c mH (cl HU nil))) cY)))
def XU:=qs (st (pr (us 7 (cu aVt (us 37 aKc))) (pl (c cG (c mH (cl HU nil))) cY)))
abbrev rC:=XU.B
def XV {ρ:Type}:=@ef rC ((.ex 6)) XU ρ
def CA (d:gS.B):PL gS rC:=let y0:=wI (24+d.1);let y1:=decide (d.1<24);let y2:=z4 d.1*48+z4 y0;ae y1 (ae (bf d.1 24) (ae (bf y0 48) (ae (true&&wr (0+y2*1+1) 1152) (ret (ww (wI (d.1+1),d.2.1,d.2.2.1,λj=>bif z9 j y2 then 1073741824 else d.2.2.2 j))) no) no) no) (ret (wt ((d.1,y1),d.2)))
def CB:=bE (CA) 2000
def fP:=qs (st (pr (cu aS (us 1 (cu Ru (us 1 (cu aah (us 2 (cu aai (us 5 (cl ai (us 40 nil)))))))))) (pl (c cG (c mH (c jx (cl HU nil)))) cY)))
def XW:=qs (st (pr (cu aS (us 1 (cu Ru (us 1 (cu aah (us 2 (cu aai (us 5 (c ai (cl ab (us 39 nil))))))))))) (pl (c cG (c mH (c jx (cl HU nil)))) cY)))
abbrev om:=XW.B
def XX {ρ:Type}:=@ef om ((.ex 0)) XW ρ
def CC (ru:LT fN od)(MK:LT fO oi)(d:fP.B):PL fP om:=let y0:=decide (d.1<24);ae y0 (opt (ru ((d.1,d.1,wI (d.1+1),0),d.2.1,d.2.2.1,d.2.2.2.1,d.2.2.2.2,λx=>0)) λd=>opt (MK ((d.1.1,d.1.2.1,0),d.2)) λd=>ret (ww (wI (d.1.2.1+1),d.2.1,d.2.2.1,d.2.2.2.1,d.2.2.2.2.1))) (ret (wt ((d.1,y0),d.2)))
def CD:=bE (CC Cw Cz) 2000
def Ha (l_3:LT gS rC)(eB:LT fP om)(x0:Nat->Int)(x1:Nat->Int)(x2:Bool)(x3:Nat->Int):Pg Pb:=opt (eB (0,x2,x3,(x0,x1),λx=>0)) λd=>opt (l_3 (0,d.2.1,d.2.2.1,d.2.2.2.2)) λd=>ret (d.2.1,d.2.2.2)
def rD:=λx0 x1 x2 x3=>(Ha CB CD x0 x1 x2 x3).val
abbrev rE:=XE×eU×(LT fN od)×(LT fO oi)×(LT gS rC)×(LT fP om)
def wx (p:rE):KK:=⟨[avZ p.1,nw p.2.1],⟨[⟨3,(1::3::5::6::rg 8 5 (rg 14 40 [])),[]⟩,⟨7,(1::3::5::6::10::11::12::14::15::16::rg 19 35 []),[]⟩,⟨12,(1::3::5::6::10::11::12::rg 14 14 (rg 29 25 [])),[]⟩,⟨18,(rg 0 7 (rg 8 37 (rg 46 8 []))),[]⟩],[gx 7 2 fN XR p.b.1,gx 12 2 fO XT p.b.2.1,gx 18 2 gS XV p.c.1,gx 3 2 fP XX p.c.2],[0],[],(some ⟨0,(rg 0 6 (rg 7 47 [])),[]⟩)⟩,2,216⟩
theorem apK (p:rE):LI (wx p) 7 fN XR (Cv p.1):=λ_ d c K=>by kernel_rfl
theorem apL (p:rE):LI (wx p) 12 fO XT (Cy p.2.1):=λ_ d c K=>by kernel_rfl
theorem apM (p:rE):LI (wx p) 18 gS XV (CA):=λ_ d c K=>by kernel_rfl
theorem apN (p:rE):LI (wx p) 3 fP XX (CC p.b.1 p.b.2.1):=λ_ d c K=>by kernel_rfl
theorem ay1 (p:rE):D2 (wx p) aeL (lf MJ) λb=>Ha p.c.1 p.c.2 b.1.1 b.1.2 b.2.1 b.b:=λb=>by kernel_rfl
abbrev wy:rE:=(FJ,bD,Cw,Cz,CB,CD)
theorem ay2 [ay]:SC (aeM rD):=sc (kS (k:=wx wy) (.c aFY (.c pF (.nil _))) [3,7,12,18] [] ⟨kL (apN wy),⟨kL (apK wy),⟨kL (apL wy),⟨kL (apM wy),trivial⟩⟩⟩⟩ trivial (ay1 wy))
def awi:=qa (pl ak8 nil)
def ac5:=qe aWp
abbrev awj:=ac5.B
abbrev dU:=NI->Option awj
def jh (g:dU):Ct:=(68,FC awi (lf ac5) (λb=>g b))
def ahN (x0:Nat->Int):Pg awj:=ret (x0 0,x0 1,x0 2,x0 3)
def cg:=λx0=>(ahN x0).val
theorem aLn:D0 [] 68 awi (lf ac5) λb=>ahN b:=λb=>by kernel_rfl
theorem j8 [ay]:SC (jh cg):=s0 (.nil _) aLn
def ajs:=qa (pl (c kY as6) nil)
def Pd:=qe aPW
abbrev TQ:=Pd.B
abbrev JJ:=NI->Int->Int->Int->Int->Option TQ
def TR (g:JJ):Ct:=(85,FC ajs (lf Pd) (λb=>g b.1 b.2.1 b.b.1 b.b.2.1 b.c))
def JK (x0:Nat->Int)(x1:Int)(x2:Int)(x3:Int)(x4:Int):Pg TQ:=ret λj=>bif z9 j 3 then x4 else bif z9 j 2 then x3 else bif z9 j 1 then x2 else bif z9 j 0 then x1 else x0 j
def mg:=λx0 x1 x2 x3 x4=>(JK x0 x1 x2 x3 x4).val
theorem aCR:D0 [] 85 ajs (lf Pd) λb=>JK b.1 b.2.1 b.b.1 b.b.2.1 b.c:=λb=>by kernel_rfl
theorem ajt [ay]:SC (TR mg):=s0 (.nil _) aCR
def arB:=qa (pr (c ai (c ai (c ai (cl ai (cu aS (cu aqs nil)))))) (cu aPv (c agh bK)))
def XY:=qe aWr
abbrev arC:=XY.B
abbrev arD:=Int->Int->Int->Int->Int->Int->Int->Int->Bool->Option arC
def arE (g:arD):Ct:=(210,FC arB (lf XY) (λb=>g b.1.1 b.1.2.1 b.1.b.1 b.1.b.2 b.2.1.1 b.2.1.2.1 b.2.1.b.1 b.2.1.b.2 b.b))
def ac6 (bp:eU)(x0:Int)(x1:Int)(x2:Int)(x3:Int)(x4:Int)(x5:Int)(x6:Int)(x7:Int)(x8:Bool):Pg arC:=opt (bp 30 4 4 x8 (cr x4 [x7,x6,x5,x4]) (cr x0 [x3,x2,x1,x0]) false true) λd=>ret d
def IU:=λx0 x1 x2 x3 x4 x5 x6 x7 x8=>(ac6 bD x0 x1 x2 x3 x4 x5 x6 x7 x8).val
theorem aHW:∀bp,D0 [nw bp] 210 arB (lf XY) λb=>ac6 bp b.1.1 b.1.2.1 b.1.b.1 b.1.b.2 b.2.1.1 b.2.1.2.1 b.2.1.b.1 b.2.1.b.2 b.b:=λ_ b=>by kernel_rfl
theorem aHX [ay]:SC (arE IU):=s0 (.c pF (.nil _)) (aHW bD)
def amQ:=qa (pr (cu aS gZ) bK)
def TS:=qe ax3
abbrev amR:=TS.B
abbrev amS:=Int->Bool->Option amR
def amT (g:amS):Ct:=(123,FC amQ (lf TS) (λb=>g b.1 b.2))
def XZ (dw:yY)(aD:bX)(il:RI)(eI:Lg)(bC:jg)(x0:Int)(x1:Bool):Pg amR:=opt (dw x0) λd=>opt (aD d 536870912 30 x1) λd=>opt (il d.1 d.2) λak=>opt (eI d.1 ak.2) λd=>opt (bC ak.1 0 0 d.1 d.2) λd=>ret d
def FR:=λx0 x1=>(XZ lq aZ tj oH di x0 x1).val
theorem aF9:∀dw aD il eI bC,D0 [Cn dw,fF aD,RJ il,Lh eI,nQ bC] 123 amQ (lf TS) λb=>XZ dw aD il eI bC b.1 b.2:=λ_ _ _ _ _ b=>by kernel_rfl
theorem aGa [ay]:SC (amT FR):=s0 (.c GZ (.c gk (.c aaP (.c RH (.c pR (.nil _)))))) (aF9 lq aZ tj oH di)
def aA3:=qa (pr (cu aS (c agi as6)) bK)
def ahO:=qe ax3
abbrev aA4:=ahO.B
abbrev zd:=Int->Int->Int->Int->Int->Int->Int->Int->Bool->Option aA4
def FT (g:zd):Ct:=(156,FC aA3 (lf ahO) (λb=>g b.1.1.1 b.1.1.2.1 b.1.1.b.1 b.1.1.b.2 b.1.2.1 b.1.b.1 b.1.b.2.1 b.1.c b.2))
def amU (qB:RL)(z6:arD)(x0:Int)(x1:Int)(x2:Int)(x3:Int)(x4:Int)(x5:Int)(x6:Int)(x7:Int)(x8:Bool):Pg aA4:=opt (qB x0 x1 x2 x3 x8) λd=>let n1:=d.1.2;opt (qB x4 x5 x6 x7 d.2) λak=>let n2:=ak.1.2;let y0:=wI (0-n2.1);let y1:=wI (0-n2.2.1);let y2:=wI (0-n2.2.2);opt (z6 ak.1.1 y0 y1 y2 d.1.1 n1.1 n1.2.1 n1.2.2 ak.2) λaK=>opt (z6 n2.1 ak.1.1 n2.2.2 y1 d.1.1 n1.1 n1.2.1 n1.2.2 aK.2) λbJ=>opt (z6 n2.2.1 y2 ak.1.1 n2.1 d.1.1 n1.1 n1.2.1 n1.2.2 bJ.2) λcI=>opt (z6 n2.2.2 n2.2.1 y0 ak.1.1 d.1.1 n1.1 n1.2.1 n1.2.2 cI.2) λd=>ret ((aK.1,bJ.1,cI.1,d.1),d.2)
def lR:=λx0 x1 x2 x3 x4 x5 x6 x7 x8=>(amU tl IU x0 x1 x2 x3 x4 x5 x6 x7 x8).val
theorem aN2:∀qB z6,D0 [aaS qB,arE z6] 156 aA3 (lf ahO) λb=>amU qB z6 b.1.1.1 b.1.1.2.1 b.1.1.b.1 b.1.1.b.2 b.1.2.1 b.1.b.1 b.1.b.2.1 b.1.c b.2:=λ_ _ b=>by kernel_rfl
theorem Lj [ay]:SC (FT lR):=s0 (.c amn (.c aHX (.nil _))) (aN2 tl IU)
def aJw:=qa (pr (cu aS as6) bK)
def atS:=qe (res (pr (aa abZ) (pl mG nil)))
abbrev aJx:=atS.B
abbrev rF:=Int->Int->Int->Int->Bool->Option aJx
def Ea (g:rF):Ct:=(122,FC aJw (lf atS) (λb=>g b.1.1 b.1.2.1 b.1.b.1 b.1.b.2 b.2))
def ze:=qs (st (pr (us 2 (cu Rv (cu az1 (cu (app 3 9) (us 3 aPy))))) (pl (c cG (cu (so (cu (gp 0 1) nil)) (c xX (cl (so abZ) nil)))) cY)))
def aA5:=qs (st (pr (us 2 (cu Rv (cu az1 (cu (app 3 9) (us 3 aVR))))) (pl (c cG (cu (so (cu (gp 0 1) nil)) (c xX (cl (so abZ) nil)))) cY)))
abbrev RP:=aA5.B
def aA6 {ρ:Type}:=@ef RP ((.ex 0)) aA5 ρ
def amV (ax:bS)(d:ze.B):PL ze RP:=let n2:=d.2.2.2;let n1:=d.2.2.1;let n4:=n1.2.1;let n3:=n1.2.2;let y0:=bf d.1 4;let y1:=d.1==2;let y2:=d.1==1;let y3:=d.1==3;let y4:=wI (d.1+1);let y5:=decide (d.1<4);ae y5 (ae y0 (ae y3 (opt (ax n3.2 d.2.1) λak=>ae y0 (ae y3 (ret (ww (y4,ak.2,(n1.1,n4,n3.1,ak.1),n2))) (ae y1 (ret (ww (y4,ak.2,(n1.1,n4,ak.1,n3.2),n2))) (ae y2 (ret (ww (y4,ak.2,(n1.1,ak.1,n3),n2))) (ret (ww (y4,ak.2,(ak.1,n1.2),n2)))))) no) (ae y1 (opt (ax n3.1 d.2.1) λak=>ae y0 (ae y3 (ret (ww (y4,ak.2,(n1.1,n4,n3.1,ak.1),n2))) (ae y1 (ret (ww (y4,ak.2,(n1.1,n4,ak.1,n3.2),n2))) (ae y2 (ret (ww (y4,ak.2,(n1.1,ak.1,n3),n2))) (ret (ww (y4,ak.2,(ak.1,n1.2),n2)))))) no) (ae y2 (opt (ax n4 d.2.1) λak=>ae y0 (ae y3 (ret (ww (y4,ak.2,(n1.1,n4,n3.1,ak.1),n2))) (ae y1 (ret (ww (y4,ak.2,(n1.1,n4,ak.1,n3.2),n2))) (ae y2 (ret (ww (y4,ak.2,(n1.1,ak.1,n3),n2))) (ret (ww (y4,ak.2,(ak.1,n1.2),n2)))))) no) (opt (ax n1.1 d.2.1) λak=>ae y0 (ae y3 (ret (ww (y4,ak.2,(n1.1,n4,n3.1,ak.1),n2))) (ae y1 (ret (ww (y4,ak.2,(n1.1,n4,ak.1,n3.2),n2))) (ae y2 (ret (ww (y4,ak.2,(n1.1,ak.1,n3),n2))) (ret (ww (y4,ak.2,(ak.1,n1.2),n2)))))) no)))) no) (ret (wt ((d.1,y5),d.2)))
def amW:=bE (amV aP) 2000
def ay3 (amX:amq)(Lk:ams)(eB:LT ze RP)(x0:Int)(x1:Int)(x2:Int)(x3:Int)(x4:Bool):Pg aJx:=opt (eB (0,x4,(x0,x1,x2,x3),λx=>0)) λd=>let n2:=d.2.2.1.1;let n1:=d.2.2.1.2;let n4:=n1.2.2;let n3:=n1.2.1;let y0:=wI (0-n2);opt (amX 1 1 (-1) (-1) n2 n1.1 n3 n4 d.2.1) λak=>opt (Lk n1.1 n3 y0 n4 ak.2) λaK=>opt (Lk n1.1 n4 n2 n3 aK.2) λbJ=>opt (Lk n1.1 n3 n2 n4 bJ.2) λcI=>opt (amX 1 (-1) 1 (-1) n2 n1.1 n3 n4 cI.2) λeV=>opt (Lk n3 n4 y0 n1.1 eV.2) λdq=>opt (Lk n1.1 n4 y0 n3 dq.2) λnu=>opt (Lk n3 n4 n2 n1.1 nu.2) λtX=>opt (amX 1 (-1) (-1) 1 n2 n1.1 n3 n4 tX.2) λd=>ret (cr 0 [d.1,tX.1,nu.1,dq.1,eV.1,cI.1,bJ.1,aK.1,ak.1],d.2)
def kK:=λx0 x1 x2 x3 x4=>(ay3 RN RO amW x0 x1 x2 x3 x4).val
abbrev apu:=bS×amq×ams×(LT ze RP)
def ay4 (p:apu):KK:=⟨[dD p.1,aAX p.2.1,aA0 p.b.1],⟨[⟨2,(0::1::5::6::7::rg 9 82 []),[]⟩],[gx 2 1 ze aA6 p.b.2],[0],[],(some ⟨0,(rg 0 4 (rg 5 86 [])),[]⟩)⟩,1,122⟩
theorem aLo (p:apu):LI (ay4 p) 2 ze aA6 (amV p.1):=λ_ d c K=>by kernel_rfl
theorem aT5 (p:apu):D2 (ay4 p) aJw (lf atS) λb=>ay3 p.2.1 p.b.1 p.b.2 b.1.1 b.1.2.1 b.1.b.1 b.1.b.2 b.2:=λb=>by kernel_rfl
abbrev ay5:apu:=(aP,RN,RO,amW)
theorem Hb [ay]:SC (Ea kK):=sc (kS (k:=ay4 ay5) (.c dI (.c aNW (.c aNY (.nil _)))) [2] [] ⟨kL (aLo ay5),trivial⟩ trivial (aT5 ay5))
def aju:=qa (pu nil nil)
def Pe:=qe aPW
abbrev uH:=Pe.B
abbrev uJ:=Option uH
def JL (g:uJ):Ct:=(66,FC aju (lf Pe) (λ_=>g))
def TT (jI:aaX):Pg uH:=opt (jI 0 4 1073741840 λx=>0) λd=>opt (jI 4 7 549755813888 d) λd=>opt (jI 7 10 9007199254740992 d) λd=>opt (jI 10 13 134217728 d) λd=>opt (jI 13 16 1073741824 d) λd=>opt (jI 16 22 2147483648 d) λd=>opt (jI 22 24 137438953472 d) λd=>ret d
def kC:Option uH:=(TT za).val
theorem aCS:∀jI,D0 [aaY jI] 66 aju (lf Pe) λb=>TT jI:=λ_ b=>by kernel_rfl
theorem TU [ay]:SC (JL kC):=s0 (.c avV (.nil _)) (aCS za)
def amY:=qa (pr (cu aS ak8) bK)
def TV:=qe aEk
abbrev ML:=TV.B
abbrev MM:=NI->Bool->Option ML
def X0 (g:MM):Ct:=(87,FC amY (lf TV) (λb=>g b.1 b.2))
def lu:=qs (st (pr (cu aS (us 2 (cu UP (cu EL (cu aiU aEc))))) (pl (c cG aKu) cY)))
def ay6:=qs (st (pr (cu aS (us 2 (cu UP (cu EL (cu aiU (c ai (us 1 aKa))))))) (pl (c cG aKu) cY)))
abbrev wz:=((Int×Bool)×Bool×NI×NI×uH)
def aeN {ρ:Type}(x:wz)(K:AX->St->Option ρ):Option ρ:=(λd=>K (.ex 0) (ay6.em ((d.1.1,d.1),d.2))) x
def Hc (aG:cm)(d:lu.B):PL lu wz:=let y0:=z4 d.1;let y1:=bf d.1 24;let y2:=decide (d.1<24);ae y2 (ae y1 (ae y1 (ae y1 (opt (aG (d.2.2.1 y0) (wI (0-d.2.2.2.2 y0)) (d.2.2.2.2 y0) d.2.1) λak=>ae y1 (ae (true&&wr (0+y0*1+1) 24) (ret (ww (wI (d.1+1),ak.2,λj=>bif z9 j y0 then ak.1 else d.2.2.1 j,d.2.2.2))) no) no) no) no) no) (ret (wt ((d.1,y2),d.2)))
def He:=bE (Hc aV) 2000
def MN (DE:uJ)(eB:LT lu wz)(x0:Nat->Int)(x1:Bool):Pg ML:=opt DE λd=>opt (eB (4,x1,x0,λx=>0,d)) λd=>ret (d.2.2.1,d.2.1)
def nx:=λx0 x1=>(MN kC He x0 x1).val
abbrev MO:=uJ×cm×(LT lu wz)
def X1 (p:MO):KK:=⟨[JL p.1,ey p.2.1],⟨[⟨3,(1::2::rg 7 20 []),[]⟩],[gx 3 1 lu aeN p.b],[0],[],(some ⟨0,(rg 0 4 (rg 5 22 [])),[]⟩)⟩,1,87⟩
theorem awk (p:MO):LI (X1 p) 3 lu aeN (Hc p.2.1):=λ_ d c K=>by kernel_rfl
theorem aGb (p:MO):D2 (X1 p) amY (lf TV) λb=>MN p.1 p.b b.1 b.2:=λb=>by kernel_rfl
abbrev X2:MO:=(kC,aV,He)
theorem amZ [ay]:SC (X0 nx):=sc (kS (k:=X1 X2) (.c TU (.c eO (.nil _))) [3] [] ⟨kL (awk X2),trivial⟩ trivial (aGb X2))
def arF:=qa (pr (cu aS ak8) bK)
def X3:=qe aEk
abbrev arG:=X3.B
abbrev fH:=NI->Bool->Option arG
def jJ (g:fH):Ct:=(49,FC arF (lf X3) (λb=>g b.1 b.2))
def QY (bk:dU)(Eb:QV)(bC:jg)(yJ:JJ)(wR:MM)(x0:Nat->Int)(x1:Bool):Pg arG:=opt (bk x0) λd=>opt (Eb d.1 d.2.1 d.2.2.1 d.2.2.2) λd=>ae (!d) (opt (bk x0) λd=>opt (bC d.1 d.2.1 d.2.2.1 d.2.2.2 x1) λd=>opt (yJ x0 d.1.1 d.1.2.1 d.1.2.2.1 d.1.2.2.2) λak=>opt (wR ak d.2) λd=>ret d) (opt (wR x0 x1) λd=>ret d)
def bY:=λx0 x1=>(QY cg sE di mg nx x0 x1).val
theorem aHY:∀bk Eb bC yJ wR,D0 [jh bk,acR Eb,nQ bC,TR yJ,X0 wR] 49 arF (lf X3) λb=>QY bk Eb bC yJ wR b.1 b.2:=λ_ _ _ _ _ b=>by kernel_rfl
theorem kM [ay]:SC (jJ bY):=s0 (.c j8 (.c arw (.c pR (.c ajt (.c amZ (.nil _)))))) (aHY cg sE di mg nx)
def aeO:=qa (pr (cu aS gZ) bK)
def MP:=qe rf
abbrev aeP:=MP.B
abbrev wA:=Int->Bool->Option aeP
def Hf (g:wA):Ct:=(159,FC aeO (lf MP) (λb=>g b.1 b.2))
def Pf (av:cA)(x0:Int)(x1:Bool):Pg aeP:=opt (av x0 1073741824 1000000 x1) λd=>ret d
def kO:=λx0 x1=>(Pf aY x0 x1).val
theorem ay7:∀av,D0 [dA av] 159 aeO (lf MP) λb=>Pf av b.1 b.2:=λ_ b=>by kernel_rfl
theorem Ph [ay]:SC (Hf kO):=s0 (.c dN (.nil _)) (ay7 aY)
def aGc:=qa (pr (cu aS HV) bK)
def am0:=qe ax3
abbrev aGd:=am0.B
abbrev aGe:=Int->Int->Int->Bool->Option aGd
def aGf (g:aGe):Ct:=(209,FC aGc (lf am0) (λb=>g b.1.1 b.1.2.1 b.1.b b.2))
def atT (FU:O6)(vY:BQ)(jb:BS)(aD:bX)(eI:Lg)(aF:cT)(il:RI)(bC:jg)(x0:Int)(x1:Int)(x2:Int)(x3:Bool):Pg aGd:=opt (FU x0 x1 x2 x3) λd=>opt (vY d.1.1 d.1.2.1 d.1.2.2 d.2) λak=>ae (ak.1==0) (opt jb λd=>ret ((1073741824,0,0,0),ak.2)) (opt (aD ak.1 536870912 30 ak.2) λaK=>opt (eI aK.1 aK.2) λbJ=>opt (aF bJ.1 ak.1 30 bJ.2) λcI=>opt (il aK.1 cI.2) λeV=>opt (aD d.1.1 cI.1 30 eV.2) λdq=>opt (aD d.1.2.1 cI.1 30 dq.2) λnu=>opt (aD d.1.2.2 cI.1 30 nu.2) λd=>opt (bC eV.1 dq.1 nu.1 d.1 d.2) λd=>ret d)
def X4:=λx0 x1 x2 x3=>(atT Co qA oI aZ oH bl tj di x0 x1 x2 x3).val
theorem aRm:∀FU vY jb aD eI aF il bC,D0 [ahq FU,RK vY,Li jb,fF aD,Lh eI,gR aF,RJ il,nQ bC] 209 aGc (lf am0) λb=>atT FU vY jb aD eI aF il bC b.1.1 b.1.2.1 b.1.b b.2:=λ_ _ _ _ _ _ _ _ b=>by kernel_rfl
theorem aRn [ay]:SC (aGf X4):=s0 (.c atK (.c aaR (.c RM (.c gk (.c RH (.c iK (.c aaP (.c pR (.nil _))))))))) (aRm Co qA oI aZ oH bl tj di)
def am3:=qa (pr (cu aS (c kY ab1)) bK)
def TW:=qe (res (pr (aa agn) (pl mG nil)))
abbrev am4:=TW.B
abbrev MQ:=NI->Int->Int->Int->Int->Int->Int->Int->Int->Bool->Option am4
def X5 (g:MQ):Ct:=(155,FC am3 (lf TW) (λb=>g b.1.1 b.1.2.1 b.1.b.1 b.1.b.2.1.1 b.1.b.2.1.2.1 b.1.b.2.1.b b.1.c.1 b.1.c.2.1 b.1.c.b b.2))
def X6 (aR:fH)(oL:wA)(bM:mf)(ji:VB)(oo:Kp)(ahP:aGe)(bk:dU)(fD:rF)(x0:Nat->Int)(x1:Int)(x2:Int)(x3:Int)(x4:Int)(x5:Int)(x6:Int)(x7:Int)(x8:Int)(x9:Bool):Pg am4:=opt (aR x0 x9) λd=>opt (oL x2 d.2) λak=>opt (bM d.1 10) λaK=>opt (ji aK.1 aK.2.1 aK.2.2 ak.1 ak.2) λbJ=>opt (oo x3 x4 x5 bJ.1.1 bJ.1.2.1 bJ.1.2.2 bJ.2) λcI=>opt (bM d.1 13) λeV=>opt (ji eV.1 eV.2.1 eV.2.2 ak.1 cI.2) λdq=>opt (oo x6 x7 x8 dq.1.1 dq.1.2.1 dq.1.2.2 dq.2) λnu=>opt (ahP cI.1.1 cI.1.2.1 cI.1.2.2 nu.2) λtX=>opt (bk d.1) λd=>opt (fD d.1 d.2.1 d.2.2.1 d.2.2.2 tX.2) λd=>ret ((ak.1,cI.1.1,cI.1.2.1,cI.1.2.2,nu.1.1,nu.1.2.1,nu.1.2.2,tX.1.1,tX.1.2.1,tX.1.2.2.1,tX.1.2.2.2,d.1),d.2)
def wS:=λx0 x1 x2 x3 x4 x5 x6 x7 x8 x9=>(X6 bY kO dZ vo wP X4 cg kK x0 x1 x2 x3 x4 x5 x6 x7 x8 x9).val
theorem aGg:∀aR oL bM ji oo ahP bk fD,D0 [jJ aR,Hf oL,sC bM,VC ji,Xu oo,aGf ahP,jh bk,Ea fD] 155 am3 (lf TW) λb=>X6 aR oL bM ji oo ahP bk fD b.1.1 b.1.2.1 b.1.b.1 b.1.b.2.1.1 b.1.b.2.1.2.1 b.1.b.2.1.b b.1.c.1 b.1.c.2.1 b.1.c.b b.2:=λ_ _ _ _ _ _ _ _ b=>by kernel_rfl
theorem am5 [ay]:SC (X5 wS):=s0 (.c kM (.c Ph (.c vU (.c aho (.c ahm (.c aRn (.c j8 (.c Hb (.nil _))))))))) (aGg bY kO dZ vo wP X4 cg kK)
def arH:=qa (pr (cu aS (c kY ab1)) bK)
def X7:=qe aEk
abbrev arI:=X7.B
abbrev QZ:=NI->Int->Int->Int->Int->Int->Int->Int->Int->Bool->Option arI
def ac7 (g:QZ):Ct:=(104,FC arH (lf X7) (λb=>g b.1.1 b.1.2.1 b.1.b.1 b.1.b.2.1.1 b.1.b.2.1.2.1 b.1.b.2.1.b b.1.c.1 b.1.c.2.1 b.1.c.b b.2))
def Q3 (Bh:MQ)(aR:fH)(bk:dU)(eY:zd)(bC:jg)(bM:mf)(jk:G7)(aD:bX)(ec:Cu)(ji:VB)(cL:sD)(x0:Nat->Int)(x1:Int)(x2:Int)(x3:Int)(x4:Int)(x5:Int)(x6:Int)(x7:Int)(x8:Int)(x9:Bool):Pg arI:=opt (Bh x0 x1 x2 x3 x4 x5 x6 x7 x8 x9) λd=>let n1:=d.1.2.2.2.2.2;let n2:=n1.2.2.2;opt (aR x0 d.2) λak=>opt (bk ak.1) λaK=>opt (eY aK.1 aK.2.1 aK.2.2.1 aK.2.2.2 n1.2.2.1 n2.1 n2.2.1 n2.2.2.1 ak.2) λbJ=>opt (bC bJ.1.1 bJ.1.2.1 bJ.1.2.2.1 bJ.1.2.2.2 bJ.2) λcI=>opt (bM ak.1 4) λeV=>opt (jk n2.2.2.2 d.1.2.2.2.2.1 n1.1 n1.2.1 cI.2) λdq=>opt (aD 10529810258 d.1.1 30 dq.2) λnu=>opt (ec 3 nu.2 (cr eV.1 [0,dq.1.1,eV.1]) (cr eV.2.1 [0,dq.1.2.1,eV.2.1]) (cr eV.2.2 [nu.1,dq.1.2.2,eV.2.2]) true) λtX=>opt (aD d.1.1 536870912 30 tX.2) λd=>opt (bM ak.1 7) λpO=>opt (ec 2 d.2 (cr eV.1 [tX.1.1,eV.1]) (cr eV.2.1 [tX.1.2.1,eV.2.1]) (cr eV.2.2 [tX.1.2.2,eV.2.2]) true) λmj=>opt (ji mj.1.1 mj.1.2.1 mj.1.2.2 d.1 mj.2) λd=>opt (ec 2 d.2 (cr pO.1 [d.1.1,pO.1]) (cr pO.2.1 [d.1.2.1,pO.2.1]) (cr pO.2.2 [d.1.2.2,pO.2.2]) true) λd=>opt (cL ak.1 0 4 (cr cI.1.1 [cI.1.2.2.2,cI.1.2.2.1,cI.1.2.1,cI.1.1]) false) λxV=>opt (cL xV 4 3 (cr tX.1.1 [tX.1.2.2,tX.1.2.1,tX.1.1]) false) λLl=>opt (cL Ll 7 3 (cr d.1.1 [d.1.2.2,d.1.2.1,d.1.1]) false) λMR=>opt (aR MR d.2) λd=>ret d
def pG:=λx0 x1 x2 x3 x4 x5 x6 x7 x8 x9=>(Q3 wS bY cg lR di dZ pQ aZ lg vo dJ x0 x1 x2 x3 x4 x5 x6 x7 x8 x9).val
theorem aHZ:∀Bh aR bk eY bC bM jk aD ec ji cL,D0 [X5 Bh,jJ aR,jh bk,FT eY,nQ bC,sC bM,MA jk,fF aD,Ks ec,VC ji,z5 cL] 104 arH (lf X7) λb=>Q3 Bh aR bk eY bC bM jk aD ec ji cL b.1.1 b.1.2.1 b.1.b.1 b.1.b.2.1.1 b.1.b.2.1.2.1 b.1.b.2.1.b b.1.c.1 b.1.c.2.1 b.1.c.b b.2:=λ_ _ _ _ _ _ _ _ _ _ _ b=>by kernel_rfl
theorem arJ [ay]:SC (ac7 pG):=s0 (.c am5 (.c kM (.c j8 (.c Lj (.c pR (.c vU (.c VH (.c gk (.c O' (.c aho (.c D9 (.nil _)))))))))))) (aHZ wS bY cg lR di dZ pQ aZ lg vo dJ)
def aA7:=qa (pr (cu aS HV) bK)
def ahQ:=qe ax3
abbrev aA8:=ahQ.B
abbrev am6:=Int->Int->Int->Bool->Option aA8
def aA9 (g:am6):Ct:=(160,FC aA7 (lf ahQ) (λb=>g b.1.1 b.1.2.1 b.1.b b.2))
def tp:=qs (st (pr (cu aS (us 3 (cu aqs (cu aag (c ai (cu ak4 (us 12 (cl ai aVs)))))))) (pl (c cG (cu ald (c zX (cl zX nil)))) cY)))
def arK:=qs (st (pr (cu aS (us 3 (cu aqs (cu aag (c ai (cu ak4 (us 12 (c ai (cl ab (us 26 nil)))))))))) (pl (c cG (cu ald (c zX (cl zX nil)))) cY)))
abbrev IV:=arK.B
def arL {ρ:Type}:=@ef IV ((.ex 0)) arK ρ
def ac8 (aF:cT)(d:tp.B):PL tp IV:=let n3:=d.1.1;let n2:=d.1.2;let n1:=d.2.2;let n5:=n1.2.1;let n4:=n1.2.2;let y0:=bf n2 3;let y1:=n2==2;let y2:=n2==1;let y3:=decide (n2<3);ae y3 (ae y0 (ae y1 (opt (aF n1.1.2.2 n3 30 d.2.1) λak=>ae y0 (ae y1 (ret (ww ((n3,wI (n2+1)),ak.2,n1.1,n5,n4.1,ak.1))) (ae y2 (ret (ww ((n3,wI (n2+1)),ak.2,n1.1,n5,ak.1,n4.2))) (ret (ww ((n3,wI (n2+1)),ak.2,n1.1,ak.1,n4))))) no) (ae y2 (opt (aF n1.1.2.1 n3 30 d.2.1) λak=>ae y0 (ae y1 (ret (ww ((n3,wI (n2+1)),ak.2,n1.1,n5,n4.1,ak.1))) (ae y2 (ret (ww ((n3,wI (n2+1)),ak.2,n1.1,n5,ak.1,n4.2))) (ret (ww ((n3,wI (n2+1)),ak.2,n1.1,ak.1,n4))))) no) (opt (aF n1.1.1 n3 30 d.2.1) λak=>ae y0 (ae y1 (ret (ww ((n3,wI (n2+1)),ak.2,n1.1,n5,n4.1,ak.1))) (ae y2 (ret (ww ((n3,wI (n2+1)),ak.2,n1.1,n5,ak.1,n4.2))) (ret (ww ((n3,wI (n2+1)),ak.2,n1.1,ak.1,n4))))) no))) no) (ret (wt ((n3,n2,y3),d.2)))
def ac9:=bE (ac8 bl) 2000
def aa3 (FU:O6)(jb:BS)(vY:BQ)(ba:dr)(bC:jg)(eB:LT tp IV)(x0:Int)(x1:Int)(x2:Int)(x3:Bool):Pg aA8:=opt (FU x0 x1 x2 x3) λd=>ae (d.1.1==0&&(d.1.2.1==0&&(d.1.2.2==0&&true))) (opt jb λak=>ret ((1073741824,0,0,0),d.2)) (opt (vY d.1.1 d.1.2.1 d.1.2.2 d.2) λak=>opt (eB ((ak.1,0),ak.2,d.1,0,0,0)) λd=>opt (ba 1073741824 d.2.2.2.2.2 d.2.1) λaK=>ae (decide (aK.1<=16)) (ret ((0,1073741824,0,0),aK.2)) (opt (bC aK.1 (wI (0-d.2.2.2.2.1)) d.2.2.2.1 0 aK.2) λd=>ret d))
def BT:=λx0 x1 x2 x3=>(aa3 Co oI qA bT di ac9 x0 x1 x2 x3).val
abbrev aa4:=O6×BS×BQ×cT×dr×jg×(LT tp IV)
def am7 (p:aa4):KK:=⟨[ahq p.1,Li p.2.1,RK p.b.1,gR p.b.2.1,iL p.c.1,nQ p.c.2.1],⟨[⟨7,(1::2::3::rg 8 12 (rg 21 27 [])),[]⟩],[gx 7 1 tp arL p.c.b],[],[],(some ⟨0,(rg 0 4 (rg 5 43 [])),[]⟩)⟩,1,160⟩
theorem aGh (p:aa4):LI (am7 p) 7 tp arL (ac8 p.b.2.1):=λ_ d c K=>by kernel_rfl
theorem aN3 (p:aa4):D2 (am7 p) aA7 (lf ahQ) λb=>aa3 p.1 p.2.1 p.b.1 p.c.1 p.c.2.1 p.c.b b.1.1 b.1.2.1 b.1.b b.2:=λb=>by kernel_rfl
abbrev am8:aa4:=(Co,oI,qA,bl,bT,di,ac9)
theorem aN4 [ay]:SC (aA9 BT):=sc (kS (k:=am7 am8) (.c atK (.c RM (.c aaR (.c iK (.c jH (.c pR (.nil _))))))) [7] [] ⟨kL (aGh am8),trivial⟩ trivial (aN3 am8))
def aeQ:=qa (pr (cu aS (c AU (c (aa aEe) ak8))) bK)
def MS:=qe aQa
abbrev Pj:=MS.B
abbrev Hg:=NI->NI->NI->NI->Bool->Option Pj
def Pm (g:Hg):Ct:=(163,FC aeQ (lf MS) (λb=>g b.1.1.1 b.1.1.2 b.1.2.1 b.1.b b.2))
def fQ:=qs (st (pr (cu aS (us 4 (cu HC (cu aSk (cu aiU (cu N6 (cu aqv (c ai (us 13 (c ai (us 16 (cl ai (us 105 nil))))))))))))) (pl (c cG (c jx (c mH (c nX ab2)))) cY)))
def X8:=qs (st (pr (cu aS (us 4 (cu HC (cu aSk (cu aiU (cu N6 (cu aqv (c ai (us 13 (c ai (us 16 (c ai (cl ab (us 104 nil)))))))))))))) (pl (c cG (c jx (c mH (c nX ab2)))) cY)))
abbrev oq:=X8.B
def X9 {ρ:Type}:=@ef oq ((.ex 2)) X8 ρ
def CE (ax:bS)(d:fQ.B):PL fQ oq:=let y0:=bf d.1.1 24;let y1:=bf d.1.2.2 24;let y2:=decide (d.1.2.2<24);let y3:=z4 d.1.1*24+z4 d.1.2.2;ae y2 (ae y0 (ae y1 (opt (ax (d.2.2.2.1 y3) d.2.1) λak=>ae y0 (ae y1 (ae (true&&wr (0+y3*1+1) 576) (ret (ww ((d.1.1,d.1.2.1,wI (d.1.2.2+1)),ak.2,d.2.2.1,λj=>bif z9 j y3 then ak.1 else d.2.2.2.1 j,d.2.2.2.2))) no) no) no) no) no) (ret (wt ((d.1.1,d.1.2.1,d.1.2.2,y2),d.2)))
def CF:=bE (CE aP) 2000
def eR:=qs (st (pr (cu aS (us 7 (cu HC (cu az2 (us 2 (cu aai (cu N6 (c ai (cu aqv (us 48 aPy)))))))))) (pl (c cG (c jx (c age (c HU ab2)))) cY)))
def X':=qs (st (pr (cu aS (us 7 (cu HC (cu az2 (us 2 (cu aai (cu N6 (c ai (cu aqv (us 48 aVR)))))))))) (pl (c cG (c jx (c age (c HU ab2)))) cY)))
abbrev lS:=X'.B
def Ya {ρ:Type}:=@ef lS ((.ex 6)) X' ρ
def wT (aD:bX)(d:eR.B):PL eR lS:=let n2:=d.1.2;let n1:=d.2.2.2;let y0:=z4 n2;let y1:=bf n2 48;let y2:=decide (n2<48);ae y2 (ae (bf d.1.1 24) (ae y1 (ae y1 (opt (aD (n1.2.1 (z4 d.1.1*48+y0)) (n1.1 y0) 30 d.2.1) λak=>ae y1 (ae (true&&wr (0+y0*1+1) 48) (ret (ww ((d.1.1,wI (n2+1)),ak.2,d.2.2.1,n1.1,n1.2.1,n1.2.2.1,λj=>bif z9 j y0 then ak.1 else n1.2.2.2 j))) no) no) no) no) no) (ret (wt ((d.1.1,n2,y2),d.2)))
def wV:=bE (wT aZ) 2000
def eS:=qs (st (pr (cu aS (us 7 (cu HC (cu az2 (us 2 (cu aai (cu N6 (c ai (cu aqv (us 1 (c ai (c ai (c ai (us 76 (c ai (c ai (us 18 (cl ai (us 30 nil))))))))))))))))))) (pl (c cG (c jx (c age (c HU ab2)))) cY)))
def Yb:=qs (st (pr (cu aS (us 7 (cu HC (cu az2 (us 2 (cu aai (cu N6 (c ai (cu aqv (us 1 (c ai (c ai (c ai (us 76 (c ai (c ai (us 18 aVS))))))))))))))))) (pl (c cG (c jx (c age (c HU ab2)))) cY)))
abbrev lT:=Yb.B
def Yc {ρ:Type}:=@ef lT ((.ex 10)) Yb ρ
def wW (aD:bX)(ba:dr)(d:eS.B):PL eS lT:=let n3:=d.2.2.2;let n1:=d.1.2.2;let n2:=n1.2.2.2;let y0:=bf n1.1 24;let y1:=z4 n2.2;let y2:=bf n2.2 48;let y3:=z4 n1.1*48+y1;let y4:=decide (n2.2<48);ae y4 (ae y0 (ae y2 (ae (bf d.1.1 24) (ae y2 (opt (aD n1.2.1 (n3.2.1 (z4 d.1.1*48+y1)) 30 d.2.1) λak=>opt (ba (n3.2.1 y3) ak.1 ak.2) λaK=>ae y0 (ae y2 (ae (true&&wr (0+y3*1+1) 1152) (ret (ww ((d.1.1,d.1.2.1,n1.1,n1.2.1,n1.2.2.1,n2.1,wI (n2.2+1)),aK.2,d.2.2.1,n3.1,λj=>bif z9 j y3 then aK.1 else n3.2.1 j,n3.2.2))) no) no) no) no) no) no) no) (ret (wt ((d.1.1,d.1.2.1,n1.1,n1.2.1,n1.2.2.1,n2.1,n2.2,y4),d.2)))
def wX:=bE (wW aZ bT) 2000
def fR:=qs (st (pr (cu aS (us 4 (cu HC (cu aSk (cu aiU (cu N6 (cu aqv (us 14 (cl ai (us 122 nil)))))))))) (pl (c cG (c jx (c mH (c nX ab2)))) cY)))
def Yd:=qs (st (pr (cu aS (us 4 (cu HC (cu aSk (cu aiU (cu N6 (cu aqv (us 14 (c ai (cl ab (us 121 nil))))))))))) (pl (c cG (c jx (c mH (c nX ab2)))) cY)))
abbrev ot:=Yd.B
def Ye {ρ:Type}:=@ef ot ((.ex 0)) Yd ρ
def CG (aG:cm)(ru:LT fQ oq)(d:fR.B):PL fR ot:=let y0:=z4 d.1;let y1:=bf d.1 24;let y2:=wI (24+d.1);let y3:=z4 y2;let y4:=decide (d.1<24);ae y4 (ae y1 (ae y1 (opt (aG (d.2.2.2.2.1 y0) 0 72057594037927936 d.2.1) λak=>ae (bf d.1 48) (ae (true&&wr (0+y0*1+1) 48) (ae (bf y2 48) (ae (true&&wr (0+y3*1+1) 48) (opt (ru ((d.1,d.1,0),ak.2,d.2.2.1,d.2.2.2.1,d.2.2.2.2.1,d.2.2.2.2.2.1,λj=>bif z9 j y3 then ak.1 else bif z9 j y0 then d.2.2.1.2 y0 else d.2.2.2.2.2.2 j)) λd=>ret (ww (wI (d.1.2.1+1),d.2))) no) no) no) no) no) no) (ret (wt ((d.1,y4),d.2)))
def CI:=bE (CG aV CF) 2000
def eT:=qs (st (pr (cu aS (us 7 (cu HC (cu az2 (us 2 (cu aai (cu N6 (c ai (cu aqv (us 1 (c ai (us 78 (c ai (cl ai (us 49 nil))))))))))))))) (pl (c cG (c jx (c age (c HU ab2)))) cY)))
def Yf:=qs (st (pr (cu aS (us 7 (cu HC (cu az2 (us 2 (cu aai (cu N6 (c ai (cu aqv (us 1 (c ai (us 78 (c ai (c ai (cl ab (us 48 nil)))))))))))))))) (pl (c cG (c jx (c age (c HU ab2)))) cY)))
abbrev ov:=Yf.B
def Yg {ρ:Type}:=@ef ov ((.ex 8)) Yf ρ
def wY (bp:eU)(aF:cT)(atU:XF)(l_5:LT eS lT)(d:eT.B):PL eT ov:=let n2:=d.2.2.2.2;let n1:=d.1.2.2;let y0:=decide (n1.2<n1.1);ae y0 (ae (bf n1.2 24) (opt (bp 30 48 48 d.2.1 (λj=>n2.1 (0+z4 n1.2*48+j)) n2.2.2 false false) λak=>opt (aF ak.1 d.1.2.1 30 ak.2) λaK=>opt (atU n2.2.1.1 n2.2.1.2 n1.2 d.1.1 aK.1) λbJ=>opt (l_5 ((d.1.1,d.1.2.1,n1.2,aK.1,n1.1,n1.2,0),aK.2,d.2.2.1,d.2.2.2.1,n2.1,bJ,n2.2.2)) λd=>ret (ww ((d.1.1,d.1.2.1,d.1.2.2.2.2.1,wI (d.1.2.2.2.2.2.1+1)),d.2))) no) (ret (wt ((d.1.1,d.1.2.1,n1.1,n1.2,y0),d.2)))
def wZ:=bE (wY bD bl uG wX) 2000
def fS:=qs (st (pr (cu aS (us 7 (cu HC (cu az2 (us 2 (cu aai (cu N6 (cl ai (us 132 nil))))))))) (pl (c cG (c jx (c age (c HU (cl jx nil))))) cY)))
def atV:=qs (st (pr (cu aS (us 7 (cu HC (cu az2 (us 2 (cu aai (cu N6 (c ai (us 45 (c ai (cl ab (us 85 nil)))))))))))) (pl (c cG (c jx (c age (c HU (cl jx nil))))) cY)))
abbrev oy:=((Int×Bool)×Bool×(NI×NI)×NI×NI×NI×NI)
def Yh {ρ:Type}(x:oy)(K:AX->St->Option ρ):Option ρ:=(λd=>K (.ex 4) (atV.em ((d.1.1,d.1),d.2))) x
def w7 (aG:cm)(bp:eU)(l_3:LT eR lS)(l_4:LT eT ov)(d:fS.B):PL fS oy:=let y0:=decide (d.1>=0);ae y0 (opt (l_3 ((d.1,0),d.2.1,d.2.2.1,d.2.2.2.1,d.2.2.2.2.1,d.2.2.2.2.2,λx=>0)) λd=>let n1:=d.2.2.2.2;let y0:=z4 d.1.1;let y1:=bf d.1.1 24;ae y1 (opt (bp 30 48 48 d.2.1 (λj=>n1.1 (0+y0*48+j)) n1.2.2 false false) λak=>opt (aG ak.1 1 72057594037927936 ak.2) λaK=>ae y1 (ae (true&&wr (276+y0*1+1) 300) (opt (l_4 ((d.1.1,aK.1,d.1.1,0),aK.2,d.2.2.1,d.2.2.2.1,n1.1,(n1.2.1.1,λj=>bif z9 j y0 then aK.1 else n1.2.1.2 j),n1.2.2)) λd=>ret (ww (wI (d.1.1-1),d.2.1,d.2.2.1,d.2.2.2.1,d.2.2.2.2.1,d.2.2.2.2.2.1))) no) no) no) (ret (wt ((d.1,y0),d.2)))
def w8:=bE (w7 aV bD wV wZ) 2000
def Bi (gy:rv)(ay8:Pc)(eB:LT fR ot)(MK:LT fS oy)(x0:Nat->Int)(x1:Nat->Int)(x2:Nat->Int)(x3:Nat->Int)(x4:Bool):Pg Pj:=opt (gy x0 x1 x4) λd=>opt (eB (0,d.2,d.1,x2,x3,(λx=>0,λx=>0),λx=>0)) λd=>opt (ay8 d.2.2.1.1 d.2.2.1.2 d.2.1 d.2.2.2.1) λak=>opt (MK (23,ak.1,d.2.2.2.2.2.1,d.2.2.2.2.2.2,ak.2,λx=>0,λx=>0)) λd=>ret (d.2.2.2.2.2,d.2.1)
def hX:=λx0 x1 x2 x3 x4=>(Bi dO rD CI w8 x0 x1 x2 x3 x4).val
abbrev mq:=rv×cm×bS×Pc×bX×eU×cT×XF×dr×(LT fQ oq)×(LT eR lS)×(LT eS lT)×(LT fR ot)×(LT eT ov)×(LT fS oy)
def oM (p:mq):KK:=⟨[Bd p.1,ey p.2.1,dD p.b.1,aeM p.b.2.1,fF p.c.1,nw p.c.2.1,gR p.c.b.1,atO p.c.b.2.1,iL p.d.1],⟨[⟨4,(rg 1 4 (rg 10 14 (rg 25 122 []))),[]⟩,⟨8,(rg 1 4 (rg 11 13 (rg 25 16 (rg 42 105 [])))),[]⟩,⟨16,(rg 1 7 (10::11::rg 15 132 [])),[]⟩,⟨20,(rg 1 7 (10::11::rg 16 48 (rg 65 82 []))),[]⟩,⟨27,(rg 1 7 (10::11::16::rg 18 78 (rg 98 49 []))),[]⟩,⟨32,(rg 1 7 (10::11::16::rg 20 76 (rg 98 18 (rg 117 30 [])))),[]⟩],[gx 8 1 fQ X9 p.d.2.1,gx 20 1 eR Ya p.d.b.1,gx 32 1 eS Yc p.d.b.2.1,gx 4 1 fR Ye p.d.c.1,gx 27 1 eT Yg p.d.c.2.1,gx 16 1 fS Yh p.d.c.b],[],[],(some ⟨0,(rg 0 8 (rg 9 138 [])),[]⟩)⟩,1,163⟩
theorem apO (p:mq):LI (oM p) 8 fQ X9 (CE p.b.1):=λ_ d c K=>by kernel_rfl
theorem apP (p:mq):LI (oM p) 20 eR Ya (wT p.c.1):=λ_ d c K=>by kernel_rfl
theorem apQ (p:mq):LI (oM p) 32 eS Yc (wW p.c.1 p.d.1):=λ_ d c K=>by kernel_rfl
theorem apR (p:mq):LI (oM p) 4 fR Ye (CG p.2.1 p.d.2.1):=λ_ d c K=>by kernel_rfl
theorem apS (p:mq):LI (oM p) 27 eT Yg (wY p.c.2.1 p.c.b.1 p.c.b.2.1 p.d.b.2.1):=λ_ d c K=>by kernel_rfl
theorem apT (p:mq):LI (oM p) 16 fS Yh (w7 p.2.1 p.c.2.1 p.d.b.1 p.d.c.2.1):=λ_ d c K=>by kernel_rfl
theorem ay9 (p:mq):D2 (oM p) aeQ (lf MS) λb=>Bi p.1 p.b.2.1 p.d.c.1 p.d.c.b b.1.1.1 b.1.1.2 b.1.2.1 b.1.b b.2:=λb=>by kernel_rfl
abbrev oN:mq:=(dO,aV,aP,rD,aZ,bD,bl,uG,bT,CF,wV,wX,CI,wZ,w8)
theorem aeR [ay]:SC (Pm hX):=sc (kS (k:=oM oN) (.c G4 (.c eO (.c dI (.c ay2 (.c gk (.c pF (.c iK (.c aF1 (.c jH (.nil _)))))))))) [4,8,16,20,27,32] [] ⟨kL (apR oN),⟨kL (apO oN),⟨kL (apT oN),⟨kL (apP oN),⟨kL (apS oN),⟨kL (apQ oN),trivial⟩⟩⟩⟩⟩⟩ trivial (ay9 oN))
def aBa:=qa (pl gZ nil)
def ahR:=qe AT
abbrev aBb:=ahR.B
abbrev am9:=Int->Option aBb
def aBc (g:am9):Ct:=(214,FC aBa (lf ahR) (λb=>g b))
def RQ (x0:Int):Pg aBb:=ae (decide (x0>=0)) (ret (decide (x0<24))) (ret false)
def zf:=λx0=>(RQ x0).val
theorem aN5:D0 [] 214 aBa (lf ahR) λb=>RQ b:=λb=>by kernel_rfl
theorem aN6 [ay]:SC (aBc zf):=s0 (.nil _) aN5
def aa5:=qa (pr (cu aS gZ) bK)
def Kt:=qe rf
abbrev aa6:=Kt.B
abbrev MT:=Int->Bool->Option aa6
def aa7 (g:MT):Ct:=(215,FC aa5 (lf Kt) (λb=>g b.1 b.2))
def EW (aG:cm)(x0:Int)(x1:Bool):Pg aa6:=opt (aG x0 1 72057594037927936 x1) λd=>ret d
def pS:=λx0 x1=>(EW aV x0 x1).val
theorem awl:∀aG,D0 [ey aG] 215 aa5 (lf Kt) λb=>EW aG b.1 b.2:=λ_ b=>by kernel_rfl
theorem awm [ay]:SC (aa7 pS):=s0 (.c eO (.nil _)) (awl aV)
def ana:=qa (dp (cu aS (c AU aPG)) λa=>(c xU (cl (cl (gs a.b.1 oF) nil) nil)))
def TX:=qe aWO
abbrev Yi:=TX.B
abbrev gE:=NI->NI->Int->Nat->Bool->NI->Bool->Option Yi
def Bj (g:gE):Ct:=(161,vR 3 [.i .i64] (FC ana (lf TX) (λb=>g b.1.1.1 b.1.1.2 b.1.2.1 b.1.b.1 b.2.1 b.b b.1.b.2)))
def im:=qs (st (dp (cu aS (us 1 (c ai (us 2 (cu aah (us 2 (cu aIP (cu aIR (cu aqw (us 4 (c IC (c ai aJ6)))))))))))) λa=>(pl (c cG (c (so (cl (gs a.2.1.1 oF) nil)) aXa)) cY)))
def aza:=qs (st (pr (cu aS (us 1 (c ai (us 2 (cu aah (us 2 (cu aIP (cu aIR (cu aqw (us 4 (c IC (c ai aKe)))))))))))) (pl (c cG (c J8 aXa)) cY)))
abbrev rG:=((Int×(Nat×Bool)×Int×Int×Bool)×Bool×NI×(NI×NI)×(NI×NI)×DB×NI)
def aeS {ρ:Type}(x:rG)(K:AX->St->Option ρ):Option ρ:=(λd=>K (.ex 0) (aza.em (d.1,d.2.1,(d.1.2.1.1,d.b.1),d.b.2))) x
def Hh (aN7:am9)(awn:MT)(d:im.B):PL im rG:=let n3:=d.2.2;let n2:=d.1.2.2;let n1:=(d.1.1,d.1.2.1,n2.1,wI (n2.2+1));let y0:=wI (d.1.1+n2.2);let y1:=z4 y0;let y2:=bf y0 24;let y3:=decide (n2.2<n2.1);let y4:=y1*24+y1;ae y3 (ae (bf n2.2 d.1.2.1.1) (opt (aN7 y0) λak=>ae ak (opt (awn (n3.1 (z4 n2.2)) d.2.1) λaK=>ae y2 (ae y2 (ae (true&&wr (0+y4*1+1) 576) (ae y2 (ae (true&&wr (0+y1*1+1) 24) (ret (ww (n1,aK.2,n3.1,n3.2.1,n3.2.2.1,λj=>bif z9 j y4 then 0 else n3.2.2.2.1 j,λj=>bif z9 j y1 then aK.1 else n3.2.2.2.2 j))) no) no) no) no) no) (ret (ww (n1,d.2)))) no) (ret (wt ((d.1.1,d.1.2.1,n2.1,n2.2,y3),d.2)))
def Hi:=bE (Hh zf pS) 2000
def FW (TY:DD)(wB:Hg)(eB:LT im rG)(x0:Nat->Int)(x1:Nat->Int)(x2:Int)(x3:Nat)(x4:Bool)(x5:Nat->Int)(w0:Bool):Pg Yi:=opt TY λd=>ae (z9 x3 x3) (opt (eB ((x2,(x3,w0),ws x3,0),x4,x5,(x0,x1),(λx=>0,λx=>0),d,λx=>0)) λd=>opt (wB d.2.2.2.1.1 d.2.2.2.1.2 d.2.2.2.2.2.1 d.2.2.2.2.2.2 d.2.1) λd=>ret d) no
def cS:=λx0 x1 x2 x3 x4 x5 w0=>(FW nP hX Hi x0 x1 x2 x3 x4 x5 w0).val
abbrev MU:=DD×am9×MT×Hg×(LT im rG)
def Yj (p:MU):KK:=⟨[TK p.1,aBc p.2.1,aa7 p.b.1,Pm p.b.2.1],⟨[⟨4,(1::3::4::6::7::rg 11 4 (rg 18 24 [])),[]⟩],[gx 4 2 im aeS p.c],[0],[],(some ⟨0,(rg 0 8 (rg 9 33 [])),[]⟩)⟩,2,161⟩
theorem awo (p:MU):LI (Yj p) 4 im aeS (Hh p.2.1 p.b.1):=λ_ d c K=>by kernel_rfl
theorem aGi (p:MU):D2 (Yj p) ana (lf TX) λb=>FW p.1 p.b.2.1 p.c b.1.1.1 b.1.1.2 b.1.2.1 b.1.b.1 b.2.1 b.b b.1.b.2:=λb=>by kernel_rfl
abbrev Yk:MU:=(nP,zf,pS,hX,Hi)
theorem FX [ay]:SC (Bj cS):=sc (Sound.nil 3 [.i .i64]<|kS (k:=Yj Yk) (.c ajr (.c aN6 (.c awm (.c aeR (.nil _))))) [4] [] ⟨kL (awo Yk),trivial⟩ trivial (aGi Yk))
def awp:=qa (pr (cu aS agk) bK)
def ada:=qe aEk
abbrev awq:=ada.B
abbrev awr:=NI->Int->Bool->Option awq
def aws (g:awr):Ct:=(165,FC awp (lf ada) (λb=>g b.1.1 b.1.2 b.2))
def qF:=qs (st (pr (cu aS (us 3 (cu UP (us 1 (cu EL (c ai (us 4 (cl ai (us 14 nil))))))))) (pl (c cG Oz) cY)))
def anb:=qs (st (pr (cu aS (us 3 (cu UP (us 1 (cu EL (c ai (us 4 aVT))))))) (pl (c cG Oz) cY)))
abbrev FY:=anb.B
def anc {ρ:Type}:=@ef FY ((.ex 0)) anb ρ
def Yl (aD:bX)(aG:cm)(d:qF.B):PL qF FY:=let y0:=z4 d.1.2;let y1:=bf d.1.2 24;let y2:=decide (d.1.2<24);ae y2 (ae y1 (opt (aD (d.2.2.1 y0) d.1.1 30 d.2.1) λak=>opt (aG ak.1 0 72057594037927936 ak.2) λaK=>ae y1 (ae (true&&wr (0+y0*1+1) 24) (ret (ww ((d.1.1,wI (d.1.2+1)),aK.2,λj=>bif z9 j y0 then aK.1 else d.2.2.1 j,d.2.2.2))) no) no) no) (ret (wt ((d.1.1,d.1.2,y2),d.2)))
def Ym:=bE (Yl aZ aV) 2000
def ahS (oL:wA)(eB:LT qF FY)(x0:Nat->Int)(x1:Int)(x2:Bool):Pg awq:=opt (oL x1 x2) λd=>opt (eB ((d.1,0),d.2,x0,λx=>0)) λd=>ret (d.2.2.1,d.2.1)
def MV:=λx0 x1 x2=>(ahS kO Ym x0 x1 x2).val
abbrev VP:=wA×bX×cm×(LT qF FY)
def ahT (p:VP):KK:=⟨[Hf p.1,fF p.2.1,ey p.b.1],⟨[⟨3,(1::2::3::5::rg 8 4 (rg 13 14 [])),[]⟩],[gx 3 1 qF anc p.b.2],[],[],(some ⟨0,(rg 0 6 (rg 7 20 [])),[]⟩)⟩,1,165⟩
theorem aCT (p:VP):LI (ahT p) 3 qF anc (Yl p.2.1 p.b.1):=λ_ d c K=>by kernel_rfl
theorem aLp (p:VP):D2 (ahT p) awp (lf ada) λb=>ahS p.1 p.b.2 b.1.1 b.1.2 b.2:=λb=>by kernel_rfl
abbrev ahU:VP:=(kO,aZ,aV,Ym)
theorem aLq [ay]:SC (aws MV):=sc (kS (k:=ahT ahU) (.c Ph (.c gk (.c eO (.nil _)))) [3] [] ⟨kL (aCT ahU),trivial⟩ trivial (aLp ahU))
def ajv:=qa (pr (cu aS (c AU agk)) bK)
def Pn:=qe (res (pu (app 1 373) (pr mG (cl aWV nil))))
abbrev ajw:=Pn.B
abbrev JM:=NI->NI->NI->Int->Bool->Option ajw
def TZ (g:JM):Ct:=(273,FC ajv (lf Pn) (λb=>g b.1.1.1 b.1.1.2 b.1.2.1 b.1.b b.2))
def j9:=qs (st (pr (cu aS (us 2 (c ai (us 2 (cu UP (us 2 (cu aIS (us 9 (cl ai (us 98 nil)))))))))) (pl (c cG (c nX (cl Td nil))) cY)))
def aa8:=qs (st (pr (cu aS (us 2 (c ai (us 2 (cu UP (us 2 (cu aIS (us 9 (c ai (cl ab (us 97 nil))))))))))) (pl (c cG (c nX (cl Td nil))) cY)))
abbrev ud:=aa8.B
def aa9 {ρ:Type}:=@ef ud ((.ex 0)) aa8 ρ
def EX (ax:bS)(d:j9.B):PL j9 ud:=let y0:=z4 d.1.2;let y1:=bf d.1.2 24;let y2:=decide (d.1.2<24);ae y2 (ae y1 (opt (ax (d.2.2.1 y0) d.2.1) λak=>ae y1 (ae (true&&wr (0+y0*1+1) 24) (ret (ww ((d.1.1,wI (d.1.2+1)),ak.2,λj=>bif z9 j y0 then ak.1 else d.2.2.1 j,d.2.2.2))) no) no) no) (ret (wt ((d.1.1,d.1.2,y2),d.2)))
def EY:=bE (EX aP) 2000
def ka:=qs (st (dp (cu aS (us 5 (cu UP (us 2 (cu aIS (us 1 (c ai (c aWB (us 24 (c ai (us 3 (c ai (cl ai (us 75 nil)))))))))))))) λa=>(pl (c cG (c nX (c Td (cl (so (cl (gs a.2.1 oF) nil)) nil)))) cY)))
def awt:=qs (st (pr (cu aS (us 5 (cu UP (us 2 (cu aIS (us 1 (c ai (c aWB (us 24 (c ai (us 3 (c ai (c ai (cl ab (us 74 nil))))))))))))))) (pl (c cG (c nX (c Td ak9))) cY)))
abbrev ue:=((Int×Nat×Int×Int×Int×Bool)×Bool×NI×(NI×NI×NI×NI×NI)×NI)
def aba {ρ:Type}(x:ue)(K:AX->St->Option ρ):Option ρ:=(λd=>K (.ex 4) (awt.em (d.1,d.2.1,d.b.1,d.b.2.1,d.1.2.1,d.c))) x
def EZ (amP:XE)(d:ka.B):PL ka ue:=let n2:=d.2.2.2;let n1:=d.1.2.2;let y0:=d.1.2.1+1;let y1:=decide (n1.2.2<n1.2.1);ae y1 (opt (amP n2.1.1 n2.1.2.1 n1.2.2 d.1.1) λak=>ae (wr (y0*8) 140737488355328) (ret (ww ((d.1.1,y0,n1.1,n1.2.1,wI (n1.2.2+1)),d.2.1,d.2.2.1,n2.1,λj=>bif z9 j d.1.2.1 then ak else n2.2 j))) no) (ret (wt ((d.1.1,d.1.2.1,n1.1,n1.2.1,n1.2.2,y1),d.2)))
def E0:=bE (EZ FJ) 2000
def kc:=qs (st (pr (cu aS (us 5 (cu UP (us 2 (cu aIS (us 27 aVD)))))) (pl (c cG (c nX (cl Td nil))) cY)))
def abb:=qs (st (pr (cu aS (us 5 (cu UP (us 2 (cu aIS (us 27 (c ai (cl ab (us 79 nil))))))))) (pl (c cG (c nX (cl Td nil))) cY)))
abbrev uf:=abb.B
def abc {ρ:Type}:=@ef uf ((.ex 2)) abb ρ
def E1 (bp:eU)(aD:bX)(cy:fG)(MK:LT ka ue)(d:kc.B):PL kc uf:=let y0:=decide (d.1<24);ae y0 (ae true (opt (MK ((d.1,0,d.1,wI (d.1+1),0),d.2.1,d.2.2.1,d.2.2.2,λx=>0)) λd=>let n2:=d.2.2;let n1:=n2.2.1.2;let n3:=n1.2.2;let y0:=z4 d.1.1;let y1:=bf d.1.1 24;let y2:=y0*1;let y3:=wI (d.1.1+1);let y4:=z4 y3;let y5:=wr (0+y2+1) 24;let y6:=z9 y0 y0;ae (HE y3 24) (ae (z9 y4 y4) (ae (z9 d.1.2.1 d.1.2.1) (opt (bp 30 y4 d.1.2.1 d.2.1 n2.1 n2.2.2 false true) λak=>let se:=bif y6 then ak.1 else n1.2.1 y0;ae y1 (ae (y5&&wr (300+y2+1) 373) (ae y1 (ae y5 (ae y1 (ae y5 (opt (aD (n1.1 y0) se 30 ak.2) λaK=>ae y1 (ae (y5&&wr (324+y2+1) 373) (ae (bf d.1.1 25) (ae y1 (ae y5 (ae y1 (ae y5 (opt (aD se (bif y6 then aK.1 else n3.1 y0) 30 aK.2) λbJ=>opt (cy 2 bJ.2 (cr (n3.2 y0) [bJ.1,n3.2 y0]) true) λcI=>ae (bf y3 25) (ae (true&&wr (348+y4*1+1) 373) (ret (ww (wI (d.1.2.2.1+1),cI.2,n2.1,n2.2.1.1,n1.1,λj=>bif z9 j y0 then ak.1 else n1.2.1 j,λj=>bif z9 j y0 then aK.1 else n3.1 j,λj=>bif z9 j y4 then cI.1 else n3.2 j))) no) no) no) no) no) no) no) no) no) no) no) no) no) no) no) no) no) no) no) (ret (wt ((d.1,y0),d.2)))
def E2:=bE (E1 bD aZ cJ E0) 2000
def JN (gy:rv)(aG:cm)(eB:LT j9 ud)(ru:LT kc uf)(x0:Nat->Int)(x1:Nat->Int)(x2:Nat->Int)(x3:Int)(x4:Bool):Pg ajw:=opt (gy x0 x1 x4) λd=>opt (eB ((x3,0),d.2,x2,d.1.1,d.1.2,λx=>0,λx=>0,λx=>0)) λd=>let n1:=d.2.2.2;opt (aG d.1.1 1 72057594037927936 d.2.1) λak=>opt (ru (0,ak.2,d.2.2.1,n1.1,n1.2.1,n1.2.2.1,n1.2.2.2.1,λj=>bif z9 j 0 then ak.1 else n1.2.2.2.2 j)) λd=>ret (d.2.1,d.2.2.2)
def nR:=λx0 x1 x2 x3 x4=>(JN dO aV EY E2 x0 x1 x2 x3 x4).val
abbrev yK:=rv×bS×cm×XE×eU×bX×fG×(LT j9 ud)×(LT ka ue)×(LT kc uf)
def DF (p:yK):KK:=⟨[Bd p.1,dD p.2.1,ey p.b.1,avZ p.b.2.1,nw p.c.1,fF p.c.2.1,pE p.c.b.1],⟨[⟨3,(1::2::4::5::7::8::rg 10 9 (rg 20 98 [])),[]⟩,⟨9,(rg 1 5 (7::8::rg 10 27 (rg 38 80 []))),[]⟩,⟨13,(rg 1 5 (7::8::10::rg 13 24 (38::39::40::rg 43 75 []))),[(12,[.i .i64])]⟩],[gx 3 1 j9 aa9 p.c.b.2.1,gx 13 1 ka aba p.d.1,gx 9 1 kc abc p.d.2],[],[],(some ⟨0,(rg 0 8 (rg 9 109 [])),[]⟩)⟩,1,273⟩
theorem atW (p:yK):LI (DF p) 3 j9 aa9 (EX p.2.1):=λ_ d c K=>by kernel_rfl
theorem atX (p:yK):LI (DF p) 13 ka aba (EZ p.b.2.1):=λ_ d c K=>by kernel_rfl
theorem atY (p:yK):LI (DF p) 9 kc abc (E1 p.c.1 p.c.2.1 p.c.b.1 p.d.1):=λ_ d c K=>by kernel_rfl
theorem aCU (p:yK):D2 (DF p) ajv (lf Pn) λb=>JN p.1 p.b.1 p.c.b.2.1 p.d.2 b.1.1.1 b.1.1.2 b.1.2.1 b.1.b b.2:=λb=>by kernel_rfl
abbrev DG:yK:=(dO,aP,aV,FJ,bD,aZ,cJ,EY,E0,E2)
theorem ajx [ay]:SC (TZ nR):=sc (kS (k:=DF DG) (.c G4 (.c dI (.c eO (.c aFY (.c pF (.c gk (.c sy (.nil _)))))))) [3,9,13] [] ⟨kL (atW DG),⟨kL (atY DG),⟨kL (atX DG),trivial⟩⟩⟩ trivial (aCU DG))
def N9:=qa (pr (cu aS (c AU agk)) bK)
def CJ:=qe rf
abbrev N':=CJ.B
abbrev Oa:=NI->NI->NI->Int->Bool->Option N'
def Ob (g:Oa):Ct:=(268,FC N9 (lf CJ) (λb=>g b.1.1.1 b.1.1.2 b.1.2.1 b.1.b b.2))
def Es (yL:JM)(x0:Nat->Int)(x1:Nat->Int)(x2:Nat->Int)(x3:Int)(x4:Bool):Pg N':=opt (yL x0 x1 x2 x3 x4) λd=>ret (d.2.2.2.2.2 24,d.1)
def qW:=λx0 x1 x2 x3 x4=>(Es nR x0 x1 x2 x3 x4).val
theorem akK:∀yL,D0 [TZ yL] 268 N9 (lf CJ) λb=>Es yL b.1.1.1 b.1.1.2 b.1.2.1 b.1.b b.2:=λ_ b=>by kernel_rfl
theorem akL [ay]:SC (Ob qW):=s0 (.c ajx (.nil _)) (akK nR)
def aBd:=qa (pl (c agb aEh) nil)
def ahV:=qe Fq
abbrev aBe:=ahV.B
abbrev aBf:=Int->Int->Int->Int->Option aBe
def aBg (g:aBf):Ct:=(274,FC aBd (lf ahV) (λb=>g b.1.1 b.1.2 b.2.1 b.b))
def ane (x0:Int)(x1:Int)(x2:Int)(x3:Int):Pg aBe:=let y0:=x0==x2;ae (y0&&(x1==x3&&true)) (ret 0) (ae (decide (x0<x2)) (ret (-1)) (ae y0 (ae (decide (x1<x3)) (ret (-1)) (ret 1)) (ret 1)))
def RR:=λx0 x1 x2 x3=>(ane x0 x1 x2 x3).val
theorem aN8:D0 [] 274 aBd (lf ahV) λb=>ane b.1.1 b.1.2 b.2.1 b.b:=λb=>by kernel_rfl
theorem aN9 [ay]:SC (aBg RR):=s0 (.nil _) aN8
def anf:=qa (pl Fs nil)
def T0:=qe AT
abbrev ang:=T0.B
abbrev anh:=Int->Int->Int->Option ang
def ani (g:anh):Ct:=(269,FC anf (lf T0) (λb=>g b.1 b.2.1 b.b))
def Yn (ax:bS)(c9:oG)(abd:aBf)(x0:Int)(x1:Int)(x2:Int):Pg ang:=opt (ax x0 false) λd=>opt (ax x1 d.2) λak=>ae (decide (x2<1)) (ret false) (ae (decide (x2>1000)) (ret false) (ae (decide (ak.1<1)) (ret false) (opt (c9 d.1 d.1) λd=>opt (c9 (wI (wI (x2*x2)*65536)) ak.1) λaK=>opt (abd d.1 d.2 aK.1 aK.2) λd=>ret (decide (d<=0)))))
def FZ:=λx0 x1 x2=>(Yn aP fK RR x0 x1 x2).val
theorem aGj:∀ax c9 abd,D0 [dD ax,yT c9,aBg abd] 269 anf (lf T0) λb=>Yn ax c9 abd b.1 b.2.1 b.b:=λ_ _ _ b=>by kernel_rfl
theorem aGk [ay]:SC (ani FZ):=s0 (.c dI (.c BO (.c aN9 (.nil _)))) (aGj aP fK RR)
def abe:=qa (pr (cu aS (c AU agk)) bK)
def Ku:=qe (res (pr (rZ (c ala (c agf auY))) (pl mG nil)))
abbrev abf:=Ku.B
abbrev abg:=NI->NI->NI->Int->Bool->Option abf
def abh (g:abg):Ct:=(270,FC abe (lf Ku) (λb=>g b.1.1.1 b.1.1.2 b.1.2.1 b.1.b b.2))
def iu:=qs (st (pr (cu aS (us 7 (cu HC (cu EL (us 1 (cu aIT (cu N6 (cu aqw (c ai (c ai (us 13 (c ai (us 52 (c ai (cl ai (us 65 nil)))))))))))))))) (pl (c cG (c jx (c nX (c Td (c jx Ft))))) cY)))
def UW:=qs (st (pr (cu aS (us 7 (cu HC (cu EL (us 1 (cu aIT (cu N6 (cu aqw (c ai (c ai (us 13 (c ai (us 52 (c ai (c ai (cl ab (us 64 nil))))))))))))))))) (pl (c cG (c jx (c nX (c Td (c jx Ft))))) cY)))
abbrev qj:=UW.B
def UX {ρ:Type}:=@ef qj ((.ex 2)) UW ρ
def AG (amP:XE)(aD:bX)(cy:fG)(atU:XF)(d:iu.B):PL iu qj:=let n4:=d.1.1;let n3:=d.1.2;let n2:=d.2.2.2.2;let n1:=n3.2.2;let y0:=z4 n4;let y1:=z4 n1.2;let y2:=bf n1.2 24;let y3:=decide (n1.2<n1.1);ae y3 (opt (amP n2.1.1 n2.1.2.1 n1.2 n4) λak=>ae y2 (opt (aD (n2.2.2 y1) n3.1 44 d.2.1) λaK=>opt (cy 2 aK.2 (cr ak [aK.1,ak]) true) λbJ=>opt (atU n2.2.1.1 n2.2.1.2 n1.2 n4 bJ.1) λcI=>ae y2 (ae (bf n4 24) (ae (wr (0+y0*1+1) 24) (opt (aD ak (n2.1.2.2.2.1 y0) 30 bJ.2) λeV=>opt (cy 2 eV.2 (cr (n2.2.2 y1) [eV.1,n2.2.2 y1]) true) λdq=>ae y2 (ae (true&&wr (0+y1*1+1) 24) (ret (ww ((n4,n3.1,n3.2.1,n1.1,wI (n1.2+1)),dq.2,d.2.2.1,d.2.2.2.1,n2.1,cI,λj=>bif z9 j y1 then dq.1 else n2.2.2 j))) no) no) no) no) no) no) (ret (wt ((n4,n3.1,n3.2.1,n1.1,n1.2,y3),d.2)))
def AH:=bE (AG FJ aZ cJ uG) 2000
def iv:=qs (st (pr (cu aS (us 7 (cu HC (cu EL (us 1 (cu aIT (cu N6 (cu aqw (us 4 (cu (app 6 24) (us 107 aVC))))))))))) (pl (c cG (c jx (c nX (c Td (c jx Oz))))) cY)))
def UY:=qs (st (pr (cu aS (us 7 (cu HC (cu EL (us 1 (cu aIT (cu N6 (cu aqw (us 4 (cu (app 6 24) (us 107 (c ai aPr)))))))))))) (pl (c cG (c jx (c nX (c Td (c jx Oz))))) cY)))
abbrev qk:=UY.B
def UZ {ρ:Type}:=@ef qk ((.ex 4)) UY ρ
def AI (aF:cT)(d:iv.B):PL iv qk:=let n1:=d.2.2.2.2;let y0:=z4 d.1;let y1:=bf d.1 24;let y2:=decide (d.1<24);ae y2 (ae y1 (opt (aF (n1.2.2.1 y0) (n1.1.2.2.2.2 24) 30 d.2.1) λak=>ae y1 (ae (true&&wr (0+y0*1+1) 24) (ret (ww (wI (d.1+1),ak.2,d.2.2.1,d.2.2.2.1,n1.1,n1.2.1,n1.2.2.1,λj=>bif z9 j y0 then ak.1 else n1.2.2.2 j))) no) no) no) (ret (wt ((d.1,y2),d.2)))
def AJ:=bE (AI bl) 2000
def iw:=qs (st (pr (cu aS (us 7 (cu HC (cu EL (us 1 (cu aIT (cu N6 (cu aqw (us 15 (cl ai (us 119 nil))))))))))) (pl (c cG (c jx (c nX (c Td (c jx Ft))))) cY)))
def U0:=qs (st (pr (cu aS (us 7 (cu HC (cu EL (us 1 (cu aIT (cu N6 (cu aqw (us 15 (c ai (cl ab (us 118 nil)))))))))))) (pl (c cG (c jx (c nX (c Td (c jx Ft))))) cY)))
abbrev ql:=U0.B
def U2 {ρ:Type}:=@ef ql ((.ex 0)) U0 ρ
def AK (av:cA)(aG:cm)(aF:cT)(ru:LT iu qj)(d:iw.B):PL iw ql:=let n1:=d.2.2.2.2;let n2:=n1.1.2.2;let y0:=z4 d.1;let y1:=bf d.1 25;let y2:=bf d.1 24;let y3:=y0*1;let y4:=wI (d.1+1);let y5:=wr (0+y3+1) 24;let y6:=decide (d.1<24);ae y6 (ae y2 (ae y5 (ae y1 (ae (bf y4 25) (opt (av (n1.1.2.1 y0) (n2.2.2 y0) (n2.2.2 (z4 y4)) d.2.1) λak=>opt (aG ak.1 1 72057594037927936 ak.2) λaK=>ae y2 (ae (true&&wr (276+y3+1) 300) (ae y2 (ae y5 (ae y1 (opt (aF (n2.1 y0) (n2.2.2 y0) 44 aK.2) λbJ=>ae y2 (ae y5 (ae y2 (ae (true&&y5) (opt (ru ((d.1,wI (0-bJ.1),d.1,d.1,0),bJ.2,d.2.2.1,d.2.2.2.1,n1.1,(n1.2.1.1,λj=>bif z9 j y0 then aK.1 else n1.2.1.2 j),λj=>bif z9 j y0 then n2.2.1 y0 else n1.2.2 j)) λd=>ret (ww (wI (d.1.2.2.1+1),d.2))) no) no) no) no) no) no) no) no) no) no) no) no) no) (ret (wt ((d.1,y6),d.2)))
def AL:=bE (AK aY aV bl AH) 2000
def E3 (yL:JM)(MK:LT iv qk)(eB:LT iw ql)(x0:Nat->Int)(x1:Nat->Int)(x2:Nat->Int)(x3:Int)(x4:Bool):Pg abf:=opt (yL x0 x1 x2 x3 x4) λd=>opt (eB (0,d.1,(λx=>0,λx=>0),λx=>0,d.2,(d.2.1,d.2.2.1),λx=>0)) λd=>opt (MK (0,d.2.1,d.2.2.1,d.2.2.2.1,d.2.2.2.2.1,d.2.2.2.2.2.1,d.2.2.2.2.2.2,λx=>0)) λd=>ret ((d.2.2.2.2.2.1,d.2.2.2.2.2.2.2,d.2.2.2.2.1.2.2.2.2 24),d.2.1)
def pT:=λx0 x1 x2 x3 x4=>(E3 nR AJ AL x0 x1 x2 x3 x4).val
abbrev ug:=JM×cA×cm×cT×XE×bX×fG×XF×(LT iu qj)×(LT iv qk)×(LT iw ql)
def zh (p:ug):KK:=⟨[TZ p.1,dA p.2.1,ey p.b.1,gR p.b.2.1,avZ p.c.1,fF p.c.2.1,pE p.c.b.1,atO p.c.b.2.1],⟨[⟨5,(rg 1 7 (10::rg 14 15 (rg 30 119 []))),[]⟩,⟨11,(rg 1 7 (10::rg 16 13 (rg 30 52 (rg 84 65 [])))),[]⟩,⟨20,(rg 1 7 (10::rg 14 4 (rg 19 107 (rg 127 22 [])))),[]⟩],[gx 11 1 iu UX p.d.1,gx 20 1 iv UZ p.d.2.1,gx 5 1 iw U2 p.d.b],[],[],(some ⟨0,(rg 0 8 (rg 11 138 [])),[]⟩)⟩,1,270⟩
theorem anj (p:ug):LI (zh p) 11 iu UX (AG p.c.1 p.c.2.1 p.c.b.1 p.c.b.2.1):=λ_ d c K=>by kernel_rfl
theorem ank (p:ug):LI (zh p) 20 iv UZ (AI p.b.2.1):=λ_ d c K=>by kernel_rfl
theorem anl (p:ug):LI (zh p) 5 iw U2 (AK p.2.1 p.b.1 p.b.2.1 p.d.1):=λ_ d c K=>by kernel_rfl
theorem awu (p:ug):D2 (zh p) abe (lf Ku) λb=>E3 p.1 p.d.2.1 p.d.b b.1.1.1 b.1.1.2 b.1.2.1 b.1.b b.2:=λb=>by kernel_rfl
abbrev zi:ug:=(nR,aY,aV,bl,FJ,aZ,cJ,uG,AH,AJ,AL)
theorem awv [ay]:SC (abh pT):=sc (kS (k:=zh zi) (.c ajx (.c dN (.c eO (.c iK (.c aFY (.c gk (.c sy (.c aF1 (.nil _))))))))) [5,11,20] [] ⟨kL (anl zi),⟨kL (anj zi),⟨kL (ank zi),trivial⟩⟩⟩ trivial (awu zi))
def ajy:=qa (pr (cu aS agk) bK)
def Pp:=qe aEk
abbrev ajz:=Pp.B
abbrev ajA:=NI->Int->Bool->Option ajz
def ajB (g:ajA):Ct:=(272,FC ajy (lf Pp) (λb=>g b.1.1 b.1.2 b.2))
def lU:=qs (st (pr (cu aS (us 1 (c ai (us 1 (cu UP (us 1 (cu EL (us 1 aVE)))))))) (pl (c cG Oz) cY)))
def abi:=qs (st (pr (cu aS (us 1 (c ai (us 1 (cu UP (us 1 (cu EL (us 1 aVU)))))))) (pl (c cG Oz) cY)))
abbrev zj:=abi.B
def abj {ρ:Type}:=@ef zj ((.ex 0)) abi ρ
def MW (aD:bX)(d:lU.B):PL lU zj:=let y0:=z4 d.1.2;let y1:=bf d.1.2 24;let y2:=decide (d.1.2<24);ae y2 (ae y1 (opt (aD (d.2.2.1 y0) d.1.1 30 d.2.1) λak=>ae y1 (ae (true&&wr (0+y0*1+1) 24) (ret (ww ((d.1.1,wI (d.1.2+1)),ak.2,λj=>bif z9 j y0 then ak.1 else d.2.2.1 j,d.2.2.2))) no) no) no) (ret (wt ((d.1.1,d.1.2,y2),d.2)))
def MX:=bE (MW aZ) 2000
def T1 (eB:LT lU zj)(x0:Nat->Int)(x1:Int)(x2:Bool):Pg ajz:=opt (eB ((x1,0),x2,x0,λx=>0)) λd=>ret (d.2.2.1,d.2.1)
def DH:=λx0 x1 x2=>(T1 MX x0 x1 x2).val
abbrev JO:=bX×(LT lU zj)
def T2 (p:JO):KK:=⟨[fF p.1],⟨[⟨2,(1::3::5::7::rg 9 12 []),[]⟩],[gx 2 1 lU abj p.2],[0],[],(some ⟨0,(rg 0 6 (rg 7 14 [])),[]⟩)⟩,1,272⟩
theorem atZ (p:JO):LI (T2 p) 2 lU abj (MW p.1):=λ_ d c K=>by kernel_rfl
theorem aCV (p:JO):D2 (T2 p) ajy (lf Pp) λb=>T1 p.2 b.1.1 b.1.2 b.2:=λb=>by kernel_rfl
abbrev T3:JO:=(aZ,MX)
theorem aCW [ay]:SC (ajB DH):=sc (kS (k:=T2 T3) (.c gk (.nil _)) [2] [] ⟨kL (atZ T3),trivial⟩ trivial (aCV T3))
def Hj:=qa (dp (cu aS (c kY (cl aEb nil))) λa=>(c xU (cl (cl (gs a.2.1 aEt) nil) nil)))
def adb:=qe (res (pr kY (pl Ow nil)))
abbrev aww:=adb.B
abbrev awx:=Hj.B->Option aww
def awy (g:awx):Ct:=(271,vR 2 [.i .i64,.i .i64,.i .i64,.i .i64,.i .i64,.i .i64,.i .i64,.i .i64,.i .i64,.i .i64,.i .i64,.i .i64,.i .i64,.i .i64,.i .i64,.i .i64,.i .i64,.i .i64,.i .i64,.i .i64,.i .i64,.i .i64,.i .i64,.i .i64] (FC Hj (lf adb) g))
def qG:=qs (st (dp (cu aS (us 3 (cu EL (us 1 (cu aiU (us 1 (cu aqu (us 7 (c aEb (c ai (c ai (us 3 aJ6)))))))))))) λa=>(pl (c cG (c (so (cl (gs a.1.1 aEt) nil)) aKu)) cY)))
def aGl:=qs (st (pr (cu aS (us 3 (cu EL (us 1 (cu aiU (us 1 (cu aqu (us 7 (c aEb (c ai (c ai (us 3 aKe)))))))))))) (pl (c cG (c aXc aKu)) cY)))
abbrev F1:=(((Nat×Bool)×Int×Int×Int×Bool)×Bool×a0O×NI×NI×NI)
def anm {ρ:Type}(x:F1)(K:AX->St->Option ρ):Option ρ:=(λd=>K (.ex 2) (aGl.em (d.1,d.2.1,(d.1.1.1,d.b.1),d.b.2))) x
def Yo (cy:fG)(d:qG.B):PL qG F1:=let n2:=d.2.2.2;let n1:=d.1.2.2;let y0:=z4 n1.2;let y1:=bf n1.2 24;let y2:=decide (n1.2<24);ae y2 (ae y1 (ae y1 (opt (cy 2 d.2.1 (cr (n2.1 y0) [n2.2.2 y0,n2.1 y0]) true) λak=>ae y1 (ae (true&&wr (0+y0*1+1) 24) (ret (ww ((d.1.1,d.1.2.1,n1.1,wI (n1.2+1)),ak.2,d.2.2.1,λj=>bif z9 j y0 then ak.1 else n2.1 j,n2.2))) no) no) no) no) (ret (wt ((d.1.1,d.1.2.1,n1.1,n1.2,y2),d.2)))
def Yp:=bE (Yo cJ) 2000
def nS:=qs (st (dp (cu aS (us 3 (cu EL (us 1 (cu aiU (us 9 (c aEb (c ai (cl ai (us 28 nil)))))))))) λa=>(pl (c cG (c (so (cl (gs a.1.1 aEt) nil)) Oz)) cY)))
def aGm:=qs (st (pr (cu aS (us 3 (cu EL (us 1 (cu aiU (us 9 (c aEb (c ai (c ai (cl ab aVs)))))))))) (pl (c cG (c aXc Oz)) cY)))
abbrev Bk:=(aMw×Bool×a0O×NI×NI)
def ann {ρ:Type}(x:Bk)(K:AX->St->Option ρ):Option ρ:=(λd=>K (.ex 0) (aGm.em (d.1,d.2.1,(d.1.1.1,d.b.1),d.b.2))) x
def MY (bk:dU)(bC:jg)(yJ:JJ)(wR:MM)(ru:LT qG F1)(d:nS.B):PL nS Bk:=let n9:=d.1.1;let n5:=d.1.2;let n4:=d.2.2.1;let n2:=n4.2.2.2;let n6:=n2.2.2.2;let n1:=n6.2.2.2.2;let n8:=n1.2.2.2;let n3:=n8.2.2.2;let n7:=n3.2.2.2;let y0:=z4 n5.2;let y1:=decide (n5.2<n5.1);ae y1 (ae (bf n5.2 n9.1) (ae (z9 n9.1 n9.1) (opt (ru ((n9,n5.1,n5.2,0),d.2.1,n4,d.2.2.2.1,d.2.2.2.2,cr (n4.1 y0) [n7.2.2.2.2 y0,n7.2.2.2.1 y0,n7.2.2.1 y0,n7.2.1 y0,n7.1 y0,n3.2.2.1 y0,n3.2.1 y0,n3.1 y0,n8.2.2.1 y0,n8.2.1 y0,n8.1 y0,n1.2.2.1 y0,n1.2.1 y0,n1.1 y0,n6.2.2.2.1 y0,n6.2.2.1 y0,n6.2.1 y0,n6.1 y0,n2.2.2.1 y0,n2.2.1 y0,n2.1 y0,n4.2.2.1 y0,n4.2.1 y0,n4.1 y0])) λd=>opt (bk d.2.2.2.1) λak=>opt (bC ak.1 ak.2.1 ak.2.2.1 ak.2.2.2 d.2.1) λaK=>opt (yJ d.2.2.2.1 aK.1.1 aK.1.2.1 aK.1.2.2.1 aK.1.2.2.2) λbJ=>opt (wR bJ aK.2) λcI=>ret (ww ((d.1.1,d.1.2.1,wI (d.1.2.2.1+1)),cI.2,d.2.2.1,cI.1,d.2.2.2.2.1))) no) no) (ret (wt ((n9,n5.1,n5.2,y1),d.2)))
def MZ:=bE (MY cg di mg nx Yp) 2000
def VQ (aR:fH)(eB:LT nS Bk)(x:Hj.B):Pg aww:=let y0:=ws x.1.2.1;ae (y0==0) (opt (aR x.1.1 x.2.1) λd=>ret d) (ae (z9 x.1.2.1 x.1.2.1) (opt (eB ((x.1.2,y0,0),x.2.1,x.2.2,x.1.1,λx=>0)) λd=>ret (d.2.2.2.1,d.2.1)) no)
def CL:=λx=>(VQ bY MZ x).val
abbrev M0:=fH×fG×dU×jg×JJ×MM×(LT qG F1)×(LT nS Bk)
def VR (p:M0):KK:=⟨[jJ p.1,pE p.2.1,jh p.b.1,nQ p.b.2.1,TR p.c.1,X0 p.c.2.1],⟨[⟨4,(1::2::3::5::rg 7 9 (rg 19 28 [])),[]⟩,⟨7,(1::2::3::5::7::rg 9 7 (19::20::21::rg 23 24 [])),[]⟩],[gx 7 2 qG anm p.c.b.1,gx 4 2 nS ann p.c.b.2],[0],[],(some ⟨0,(rg 0 6 (rg 7 40 [])),[]⟩)⟩,2,271⟩
theorem aCX (p:M0):LI (VR p) 7 qG anm (Yo p.2.1):=λ_ d c K=>by kernel_rfl
theorem aCY (p:M0):LI (VR p) 4 nS ann (MY p.b.1 p.b.2.1 p.c.1 p.c.2.1 p.c.b.1):=λ_ d c K=>by kernel_rfl
theorem aLr (p:M0):D2 (VR p) Hj (lf adb) λb=>VQ p.1 p.c.b.2 b:=λb=>by kernel_rfl
abbrev VS:M0:=(bY,cJ,cg,di,mg,nx,Yp,MZ)
theorem aLs [ay]:SC (awy CL):=sc (Sound.nil 2 [.i .i64,.i .i64,.i .i64,.i .i64,.i .i64,.i .i64,.i .i64,.i .i64,.i .i64,.i .i64,.i .i64,.i .i64,.i .i64,.i .i64,.i .i64,.i .i64,.i .i64,.i .i64,.i .i64,.i .i64,.i .i64,.i .i64,.i .i64,.i .i64]<|kS (k:=VR VS) (.c kM (.c sy (.c j8 (.c pR (.c ajt (.c amZ (.nil _))))))) [4,7] [] ⟨kL (aCY VS),⟨kL (aCX VS),trivial⟩⟩ trivial (aLr VS))
def aBh:=qa (pr (cu aS (c kY (c AU aWs))) bK)
def ahW:=qe (res (pr (rZ (c agf (c ala (cl (ra aKd) nil)))) (pl mG nil)))
abbrev aBi:=ahW.B
abbrev ano:=NI->NI->NI->NI->Int->Int->Int->Bool->Option aBi
def aBj (g:ano):Ct:=(264,FC aBh (lf ahW) (λb=>g b.1.1 b.1.2.1.1 b.1.2.1.2 b.1.b.1 b.1.b.2.1 b.1.c.1 b.1.c.2 b.2))
def abk (aR:fH)(gy:rv)(ax:bS)(xN:Oa)(M1:anh)(E4:abg)(JP:ajA)(VT:awx)(x0:Nat->Int)(x1:Nat->Int)(x2:Nat->Int)(x3:Nat->Int)(x4:Int)(x5:Int)(x6:Int)(x7:Bool):Pg aBi:=opt (aR x0 x7) λd=>opt (gy x1 x2 d.2) λak=>opt (ax x4 ak.2) λaK=>opt (xN ak.1.1 ak.1.2 x3 x5 aK.2) λbJ=>opt (M1 aK.1 bJ.1 x6) λcI=>ae (!cI) (ret ((d.1,ak.1,false,aK.1,bJ.1),bJ.2)) (opt (E4 ak.1.1 ak.1.2 x3 x5 bJ.2) λeV=>opt (JP eV.1.2.1 aK.1 eV.2) λdq=>opt (VT ((d.1,1,true),dq.2,λj=>bif z9 j 0 then dq.1 0 else dq.1 0,λj=>bif z9 j 0 then dq.1 1 else dq.1 1,λj=>bif z9 j 0 then dq.1 2 else dq.1 2,λj=>bif z9 j 0 then dq.1 3 else dq.1 3,λj=>bif z9 j 0 then dq.1 4 else dq.1 4,λj=>bif z9 j 0 then dq.1 5 else dq.1 5,λj=>bif z9 j 0 then dq.1 6 else dq.1 6,λj=>bif z9 j 0 then dq.1 7 else dq.1 7,λj=>bif z9 j 0 then dq.1 8 else dq.1 8,λj=>bif z9 j 0 then dq.1 9 else dq.1 9,λj=>bif z9 j 0 then dq.1 10 else dq.1 10,λj=>bif z9 j 0 then dq.1 11 else dq.1 11,λj=>bif z9 j 0 then dq.1 12 else dq.1 12,λj=>bif z9 j 0 then dq.1 13 else dq.1 13,λj=>bif z9 j 0 then dq.1 14 else dq.1 14,λj=>bif z9 j 0 then dq.1 15 else dq.1 15,λj=>bif z9 j 0 then dq.1 16 else dq.1 16,λj=>bif z9 j 0 then dq.1 17 else dq.1 17,λj=>bif z9 j 0 then dq.1 18 else dq.1 18,λj=>bif z9 j 0 then dq.1 19 else dq.1 19,λj=>bif z9 j 0 then dq.1 20 else dq.1 20,λj=>bif z9 j 0 then dq.1 21 else dq.1 21,λj=>bif z9 j 0 then dq.1 22 else dq.1 22,λj=>bif z9 j 0 then dq.1 23 else dq.1 23)) λd=>ret ((d.1,eV.1.1,true,aK.1,bJ.1),d.2))
def F2:=λx0 x1 x2 x3 x4 x5 x6 x7=>(abk bY dO aP qW FZ pT DH CL x0 x1 x2 x3 x4 x5 x6 x7).val
theorem aOa:∀aR gy ax xN M1 E4 JP VT,D0 [jJ aR,Bd gy,dD ax,Ob xN,ani M1,abh E4,ajB JP,awy VT] 264 aBh (lf ahW) λb=>abk aR gy ax xN M1 E4 JP VT b.1.1 b.1.2.1.1 b.1.2.1.2 b.1.b.1 b.1.b.2.1 b.1.c.1 b.1.c.2 b.2:=λ_ _ _ _ _ _ _ _ b=>by kernel_rfl
theorem aOb [ay]:SC (aBj F2):=s0 (.c kM (.c G4 (.c dI (.c akL (.c aGk (.c awv (.c aCW (.c aLs (.nil _))))))))) (aOa bY dO aP qW FZ pT DH CL)
end Go.Proofs.YtldgljclcgaibaaGreat
namespace Go.Ab
theorem Hk (n:Int):IntKind.wrap .i64 n=if 9223372036854775808<=n%18446744073709551616 then n%18446744073709551616-18446744073709551616 else n%18446744073709551616:=by
 unfold IntKind.wrap;simp only[IntKind.signed,IntKind.bits,nY,jW,show(2:Int)^64=18446744073709551616 from rfl,show(2:Int)^(64-1)=9223372036854775808 from rfl,EM]
theorem rH (a b:Int)(h:0<=b):Int.fdiv a b=a/b:=Int.fdiv_eq_ediv_of_nonneg a h
theorem VU (x:Int)(h0:0<=x)(h1:x<18446744073709551616):(wn 64 x).toNat=x.toNat:=by
 rw[BitVec.toNat_ofInt];congr 1
 simp only[Nat.reducePow,Int.cast_ofNat_Int];omega
theorem aeT (x:Int)(h0:0<=x)(h1:x<18446744073709551616):ws (wd (wn 64 18446744073709551615^^^wn 64 x))=18446744073709551615-x:=by
 have e:wn 64 18446744073709551615=BitVec.allOnes 64:=by decide
 rw[e,BitVec.allOnes_xor,BitVec.toNat_not,VU x h0 h1];simp only[dz];omega
theorem apv (x:Int)(h0:0<=x)(h1:x<18446744073709551616):ws (wd (wn 64 x&&&wn 64 4294967295))=x%4294967296:=by
 rw[BitVec.toNat_and,VU x h0 h1];have e:(wn 64 4294967295).toNat=2^32-1:=by decide
 rw[e,Nat.and_two_pow_sub_one_eq_mod];simp only[dz];omega
theorem azb (x y:Int)(k:Nat)(h0:0<=x)(h1:x<2^k)(h2:0<=y)(h3:y<18446744073709551616)(h4:x<18446744073709551616)(h5:y%2^k=0):
  ws (wd (wn 64 x|||wn 64 y))=x+y:=by
 rw[BitVec.toNat_or,VU x h0 h4,VU y h2 h3]
 obtain⟨q,hq⟩:∃q:Nat,y.toNat=2^k*q:=by
  refine⟨y.toNat/2^k,?_⟩
  have:y.toNat%2^k=0:=by
   have e:((y.toNat%2^k:Nat):Int)=y%2^k:=by
    rw[Int.natCast_emod,Int.toNat_of_nonneg h2];simp
   omega
  exact(Nat.mul_div_cancel' (aEz this)).symm
 have hx:x.toNat<2^k:=by
  have e:((2^k:Nat):Int)=(2:Int)^k:=by simp
  omega
 rw[hq,Nat.or_comm,<-Nat.two_pow_add_eq_or_of_lt hx,<-hq];simp only[dz];omega
end Go.Ab
namespace Go.Proofs.YtldgljclcgaibaaGreat
open Go.Ab
abbrev okW (h l:Int):Prop:= -9223372036854775808<=h/\h<=9223372036854775807/\0<=l/\l<18446744073709551616
abbrev vW (h l:Int):Int:=h*18446744073709551616+l
theorem aYp (x:Int)(h0: -9223372036854775808<=x)(h1:x<=9223372036854775807):∃h l,Xl x=some (h,l)/\okW h l/\vW h l=x:=by
 unfold vW;simp only[Xl,atH,Pg.bQ,Pg.bN,Pg.cx,Pg.fq,Pg.ew];try delta wI wU
 refine⟨_,_,rfl,?_,?_⟩<;>rw[wrap_u64,rH _ _ (by omega)]<;>omega
theorem Pq (x y c:Int)(x0:0<=x)(y0:0<=y)(c0:0<=c)(c1:c<=1):Dt x y c=some ((x+y+c)%18446744073709551616,(x+y+c)/18446744073709551616):=by
 unfold Dt;have h:wr c.toNat 1=true:=aEA (by omega);rw[h,bB];congr 1
 unfold aX5 aX6;simp only[dz,rm];constructor<;>omega
theorem azc (h1 l1 h2 l2:Int)(o1:okW h1 l1)(o2:okW h2 l2):∃h l b,Le h1 l1 h2 l2=some ((h,l),b)/\okW h l/\(b=true↔ -170141183460469231731687303715884105728<=vW h1 l1+vW h2 l2/\vW h1 l1+vW h2 l2<170141183460469231731687303715884105728)/\(b=true->vW h l=vW h1 l1+vW h2 l2):=by
 obtain⟨a1,a2,a3,a4⟩:=o1;obtain⟨b1,b2,b3,b4⟩:=o2;unfold vW;simp only[Le,al9,Pg.bQ,Pg.bN,Pg.cx,Pg.fq,Pg.ew];try delta wI wU
 rw[Pq l1 l2 0 a3 b3 (by omega) (by omega)];simp only[bG,wrap_u64];rw[Pq _ _ _ (by omega) (by omega) (by omega) (by omega)];simp only[bG];generalize hc:(l1+l2+0)/18446744073709551616=c
 generalize hl:(l1+l2+0)%18446744073709551616=l
 generalize hm:(h1%18446744073709551616+h2%18446744073709551616+c)%18446744073709551616=m
 have hw:=Hk m;generalize IntKind.wrap IntKind.i64 m=w at*
 have hw1:w=m∨w=m-18446744073709551616:=by split at hw<;>omega
 have hw2: -9223372036854775808<=w/\w<=9223372036854775807:=by split at hw<;>omega
 by_cases n1:h1<0
 .by_cases n2:h2<0
  .have e:(!decide (h1<0)==decide (h2<0))=false:=by simp[n1,n2]
   simp only[e,bI];refine⟨w,l,_,rfl,⟨hw2.1,hw2.2,by omega,by omega⟩,?_,?_⟩
   .simp only[n1,Jo,beq_true,jW];constructor<;>intro h<;>omega
   .simp only[n1,Jo,beq_true,jW];intro h;omega
  .have e:(!decide (h1<0)==decide (h2<0))=true:=by simp[n1,n2]
   simp only[e,bB];refine⟨w,l,_,rfl,⟨hw2.1,hw2.2,by omega,by omega⟩,?_,?_⟩
   .simp only[true_iff];constructor<;>omega
   .intro h;omega
 .by_cases n2:h2<0
  .have e:(!decide (h1<0)==decide (h2<0))=true:=by simp[n1,n2]
   simp only[e,bB];refine⟨w,l,_,rfl,⟨hw2.1,hw2.2,by omega,by omega⟩,?_,?_⟩
   .simp only[true_iff];constructor<;>omega
   .intro h;omega
  .have e:(!decide (h1<0)==decide (h2<0))=false:=by simp[n1,n2]
   simp only[e,bI];refine⟨w,l,_,rfl,⟨hw2.1,hw2.2,by omega,by omega⟩,?_,?_⟩
   .simp only[n1,Kh,_root_.beq_false,pB,OD];constructor<;>intro h<;>omega
   .simp only[n1,Kh,_root_.beq_false,pB,OD];intro h;omega
theorem aJy (h l:Int)(o:okW h l):∃ah al,FI h l=some ((ah,al),decide (h<0))/\0<=ah/\ah<=9223372036854775808/\0<=al/\al<18446744073709551616/\ah*18446744073709551616+al=(if h<0 then -vW h l else vW h l):=by
 obtain⟨a1,a2,a3,a4⟩:=o;unfold vW;simp only[FI,alV,Pg.bQ,Pg.bN,Pg.cx,Pg.fq,Pg.ew];try delta wI wU
 by_cases n:h<0
 .have e:decide (h>=0)=false:=cV (by omega);simp only[e,bI,aeT l a3 a4,wrap_u64];rw[aeT (h%18446744073709551616) (by omega) (by omega),Pq _ _ _ (by omega) (by omega) (by omega) (by omega)];simp only[bG,n,Jo,lI];refine⟨_,_,rfl,?_,?_,?_,?_,?_⟩<;>omega
 .have e:decide (h>=0)=true:=dW (by omega);simp only[e,bB,wrap_u64,n,Kh,gA];refine⟨_,_,rfl,?_,?_,?_,?_,?_⟩<;>omega
theorem aJz (h1 l1 h2 l2:Int)(a0:0<=h1)(b0:0<=l1)(c0:0<=h2)(d0:0<=l2)(b1:l1<18446744073709551616)(d1:l2<18446744073709551616):
  jz h1 l1 h2 l2=some ((h1+h2+(l1+l2)/18446744073709551616)%18446744073709551616,(l1+l2)%18446744073709551616):=by
 simp only[jz,OU,Pg.bQ,Pg.bN,Pg.cx,Pg.fq,Pg.ew];try delta wI wU
 rw[Pq _ _ _ b0 d0 (by omega) (by omega)];simp only[bG,Int.add_zero];rw[Pq _ _ _ a0 c0 (by omega) (by omega)];rfl
theorem aYq (n:Nat)(hn:n<126):hM 0 1 (ws n)=some (2^n/18446744073709551616,2^n%18446744073709551616):=by
 have key:∀n:Fin 126,hM 0 1 (ws n.val)=some ((2:Int)^n.val/18446744073709551616,(2:Int)^n.val%18446744073709551616):=by decide+kernel
 exact key ⟨n,hn⟩
theorem mr (n:Nat):(0:Int)<2^n:=Int.pow_pos (by decide)
theorem awz (h l:Int)(s:Nat)(hs:s<=126)(h0:0<=h)(h1:h<18446744073709551616)(l0:0<=l)(l1:l<18446744073709551616):
  ∃h' l',js h l (ws s)=some (h',l')/\0<=h'/\0<=l'/\l'<18446744073709551616/\h'*18446744073709551616+l'=(h*18446744073709551616+l)/2^s:=by
 simp only[js,Js,Pg.bQ,Pg.bN,Pg.cx,Pg.fq,Pg.ew];try delta wI wU
 by_cases c:64<=s
 .have e:decide (ws s>=64)=true:=by simp only[dz];exact dW (by omega)
  have e2:IntKind.wrap .i64 (ws s-64)=ws (s-64):=(wrap_i64 (by simp only[dz];omega) (by simp only[dz];omega)).trans (by simp only[dz];omega);have e3:(!decide (ws (s-64)<0))=true:=by simp
  have e4:min (z4 (ws (s-64))) 64=s-64:=by
   show min (s-64) 64=s-64;omega
  simp only[e,e2,e3,e4,bB];rw[rH _ _ (pJ (mr _))];refine⟨_,_,rfl,by omega,En h0 (pJ (mr _)),Int.lt_of_le_of_lt (ayk _ h0) h1,?_⟩
  have p:(2:Int)^s=18446744073709551616*2^(s-64):=by
   rw[show(18446744073709551616:Int)=2^64 from rfl,<-Int.pow_add];congr 1;omega
  rw[p,<-Int.ediv_ediv_of_nonneg (by decide)];have:(h*18446744073709551616+l)/18446744073709551616=h:=by omega
  rw[this];omega
 .have e:decide (ws s>=64)=false:=by simp only[dz];exact cV (by omega)
  have e2:IntKind.wrap .i64 (64-ws s)=ws (64-s):=(wrap_i64 (by simp only[dz];omega) (by simp only[dz];omega)).trans (by simp only[dz];omega);have e3:∀n,(!decide (ws n<0))=true:=by simp
  have e4:min (z4 (ws (64-s))) 64=64-s:=by
   show min (64-s) 64=64-s;omega
  have e5:min (z4 (ws s)) 64=s:=by
   show min s 64=s;omega
  simp only[e,e2,e3,e4,e5,bB,bI,wrap_u64];rw[rH _ _ (pJ (mr _)),rH _ _ (pJ (mr _))]
  have pq:(18446744073709551616:Int)=2^s*2^(64-s):=by
   rw[<-Int.pow_add,show s+(64-s)=64 by omega];rfl
  generalize hP:(2:Int)^s=P at*
  generalize hQ:(2:Int)^(64-s)=Q at*
  have P0:0<P:=by rw[<-hP];exact mr s
  have Q0:0<Q:=by rw[<-hQ];exact mr (64-s)
  have m:h*Q%18446744073709551616=h%P*Q:=by
   rw[pq,yb h Q,yb P Q,Int.mul_emod_mul_of_pos _ _ Q0,yb]
  have x0:0<=l/P:=En l0 (pJ P0);have x1:l/P<Q:=ab4 P0 (by rw[yb,<-pq];exact l1);have y0:0<=h%P:=WE _ (by omega);have y1:h%P<P:=Tf _ P0
  have y2:h%P*Q+Q<=18446744073709551616:=by
   have:(h%P+1)*Q<=P*Q:=aam (by omega) (pJ Q0);rw[aan,<-pq] at this;omega
  have y3:0<=h%P*Q:=Cb y0 (pJ Q0)
  have key:ws (wd (wn 64 (l/P)|||wn 64 (h*Q%18446744073709551616)))=l/P+h%P*Q:=by
   rw[m];exact azb _ _ (64-s) x0 (by rw[hQ];exact x1) y3 (by omega) (by omega) (by rw[hQ];exact Int.mul_emod_left _ _)
  rw[key];have z:(l/P+h%P*Q)%18446744073709551616=l/P+h%P*Q:=Fy (by omega) (by omega);rw[z];refine⟨_,_,rfl,En h0 (pJ P0),by omega,by omega,?_⟩
  have f1:(h*18446744073709551616+l)/P=h*Q+l/P:=by
   rw[pq,show h*(P*Q)+l=l+h*Q*P by rw[yb P Q,<-alj,Int.add_comm],Int.add_mul_ediv_right _ _ (by omega)];omega
  have f2:h/P*18446744073709551616=h/P*P*Q:=by rw[pq,alj]
  have f3:h/P*P+h%P=h:=Int.ediv_mul_add_emod h P;rw[f1,f2];have f4:(h/P*P+h%P)*Q=h*Q:=by rw[f3]
  rw[aan] at f4;omega
theorem M3 (h l:Int)(neg:Bool)(h0:0<=h)(l0:0<=l)(l1:l<18446744073709551616):
  jA h l neg=if h*18446744073709551616+l<=(if neg=true then 9223372036854775808 else 9223372036854775807) then some (if neg=true then -l else l,true) else some (0,false):=by
 simp only[jA,OX,Pg.bQ,Pg.bN,Pg.cx,Pg.fq,Pg.ew];try delta wI wU
 by_cases c:h=0
 .subst c;have e:((0:Int)!=0)=false:=rfl;simp only[e,bI,agw,alk];cases neg
  .by_cases d:l>9223372036854775807
   .have d2:¬l<=9223372036854775807:=by omega
    simp[d,d2]
   .have d2:l<=9223372036854775807:=by omega
    simp only[Bool.not_false,bB,d,Kh,bI,ya,gA,d2,lI];rw[wrap_i64 (by omega) d2]
  .by_cases d:l>9223372036854775808
   .have d2:¬l<=9223372036854775808:=by omega
    simp[d,d2]
   .have d2:l<=9223372036854775808:=by omega
    have e3:IntKind.wrap .i64 (IntKind.wrap .u64 (0-l))= -l:=by
     rw[wrap_u64,Hk];split<;>omega
    have e4:IntKind.wrap .i64 (IntKind.wrap .u64 (-l))= -l:=by
     rw[wrap_u64,Hk];split<;>omega
    simp[d,d2,e3,e4]
 .have e:(h !=0)=true:=by simp[c]
  have d2:¬h*18446744073709551616+l<=(if neg=true then 9223372036854775808 else 9223372036854775807):=by split<;>omega
  simp only[e,bB,d2,gA]
def half (s:Nat):Int:=if s=0 then 0 else 2^(s-1)
def M4 (v:Int)(s:Nat):Int:=if v<0 then -((-v+half s)/2^s) else(v+half s)/2^s
theorem aOc (s:Nat)(hs:s<=126):0<=half s/\half s<=42535295865117307932921825928971026432:=by
 unfold half;split
 .omega
 .refine⟨pJ (mr _),?_⟩
  have:(2:Int)^(s-1)<=2^125:=by
   have h2:(2:Nat)^(s-1)<=2^125:=Nat.pow_le_pow_right (by decide) (by omega);have h3:((2^(s-1):Nat):Int)<=((2^125:Nat):Int):=by exact_mod_cast h2
   simpa using h3
  exact this
theorem wide_round (h l:Int)(s:Nat)(hs:s<=126)(o:okW h l):
  sk h l (ws s)=if -9223372036854775808<=M4 (vW h l) s/\M4 (vW h l) s<=9223372036854775807 then some (M4 (vW h l) s,true) else some (0,false):=by
 simp only[sk,acn,Pg.bQ,Pg.bN,Pg.cx,Pg.fq,Pg.ew];try delta wI wU
 obtain⟨ah,al,e1,a0,a1,a2,a3,a4⟩:=aJy h l o;have n0:decide (ws s<0)=false:=by simp
 have n1:decide (ws s>126)=false:=by simp only[dz];exact cV (by omega)
 simp only[n0,n1,bI,e1,bG];obtain⟨hh0,hh1⟩:=aOc s hs
 have fin:∀h' l':Int,0<=h'->0<=l'->l'<18446744073709551616->h'*18446744073709551616+l'=((if h<0 then -vW h l else vW h l)+half s)/2^s->
   (jA h' l' (decide (h<0))).bind (λd=>some (d.fst,d.snd))=if -9223372036854775808<=M4 (vW h l) s/\M4 (vW h l) s<=9223372036854775807 then some (M4 (vW h l) s,true) else some (0,false):=by
  intro h' l' b0 b1 b2 b3;rw[M3 h' l' _ b0 b1 b2];obtain⟨o1,o2,o3,o4⟩:=o;by_cases n:h<0
  .have nv:vW h l<0:=by show h*18446744073709551616+l<0;omega
   simp only[n,Jo,lI] at b3 ⊢;unfold M4;simp only[nv,lI];rw[<-b3];by_cases c:h'*18446744073709551616+l'<=9223372036854775808
   .rw[if_pos c,if_pos (by omega)];simp only[bG,iI,rm,Cd];omega
   .rw[if_neg c,if_neg (by omega)];rfl
  .have nv:¬vW h l<0:=by show ¬h*18446744073709551616+l<0;omega
   simp only[n,Kh,gA,ya] at b3 ⊢;unfold M4;simp only[nv,gA];rw[<-b3];by_cases c:h'*18446744073709551616+l'<=9223372036854775807
   .rw[if_pos c,if_pos (by omega)];simp only[bG,iI,rm,Cd];omega
   .rw[if_neg c,if_neg (by omega)];rfl
 by_cases z:s=0
 .subst z;have n2:decide (ws 0>0)=false:=by decide
  simp only[n2,bI];obtain⟨h',l',e2,b0,b1,b2,b3⟩:=awz ah al 0 (by omega) a0 (by omega) a2 a3;rw[e2];simp only[bG];exact fin h' l' b0 b1 b2 (by rw[b3,a4];simp[half])
 .have n2:decide (ws s>0)=true:=by simp only[dz];exact dW (by omega)
  simp only[n2,bB];have n3:IntKind.wrap .i64 (ws s-1)=ws (s-1):=(wrap_i64 (by simp only[dz];omega) (by simp only[dz];omega)).trans (by simp only[dz];omega);have hf:half s=2^(s-1):=by unfold half;rw[if_neg z]
  rw[n3,aYq (s-1) (by omega),<-hf];simp only[bG];rw[aJz _ _ _ _ a0 a2 (by omega) (by omega) a3 (by omega)];simp only[bG];obtain⟨h',l',e2,b0,b1,b2,b3⟩:=awz ((ah+half s/18446744073709551616+(al+half s%18446744073709551616)/18446744073709551616)%18446744073709551616) ((al+half s%18446744073709551616)%18446744073709551616) s hs (by omega) (by omega) (by omega) (by omega);rw[e2];simp only[bG];refine fin h' l' b0 b1 b2 ?_;rw[b3,<-a4];congr 1
  omega
def sat (x:Int):Int:=if x< -1152921504606846976 then -1152921504606846976 else if 1152921504606846976<x then 1152921504606846976 else x
def eN (x:Int):Bool:=decide (x< -1152921504606846976)||decide (1152921504606846976<x)
theorem mu (x:Int): -1152921504606846976<=sat x/\sat x<=1152921504606846976:=by
 unfold sat;split<;>(try split)<;>omega
theorem oO (x:Int)(eZ:Bool):aP x eZ=some (sat x,eZ||eN x):=by
 simp only[aP,QE,aV,qz,Pg.bQ,Pg.bN,Pg.cx,Pg.fq,Pg.ew];try delta wI wU
 unfold sat eN;have e:decide ((-1152921504606846976:Int)>1152921504606846976)=false:=by decide
 by_cases c:x< -1152921504606846976
 .simp[e,c]
 .by_cases d:1152921504606846976<x
  .have d2:x>1152921504606846976:=d;simp[e,c,d]
  .simp[e,c,d]
theorem aeU (a:Int)(ok neg eZ:Bool):kH a ok neg eZ=if ok=true then some (sat a,eZ||eN a) else some (if neg=true then -1152921504606846976 else 1152921504606846976,true):=by
 simp only[kH,D6,oc,OZ,Pg.bQ,Pg.bN,Pg.cx,Pg.fq,Pg.ew];try delta wI wU
 cases ok
 .cases neg<;>rfl
 .simp only[Kg,bI,oO,bG,lI]
theorem ahX (h l:Int)(s:Nat)(eZ:Bool)(hs:s<=120)(o:okW h l):nN h l (ws s) eZ=some (sat (M4 (vW h l) s),eZ||eN (M4 (vW h l) s)):=by
 simp only[nN,Tw,Pg.bQ,Pg.bN,Pg.cx,Pg.fq,Pg.ew];try delta wI wU
 have n0:decide (ws s<0)=false:=by simp
 have n1:decide (ws s>120)=false:=by simp only[dz];exact cV (by omega)
 simp only[n0,n1,bI,wide_round h l s (by omega) o];by_cases c: -9223372036854775808<=M4 (vW h l) s/\M4 (vW h l) s<=9223372036854775807
 .simp only[c,and_self,lI,bG,aeU]
 .rw[if_neg c];simp only[bG,aeU,ya,gA]
  have sg:(h<0->M4 (vW h l) s<=0)/\(¬h<0->0<=M4 (vW h l) s):=by
   obtain⟨o1,o2,o3,o4⟩:=o;obtain⟨hh0,hh1⟩:=aOc s (by omega);have p:=mr s;unfold M4;refine⟨λn=> ?_,λn=> ?_⟩
   .have nv:vW h l<0:=by show h*18446744073709551616+l<0;omega
    rw[if_pos nv];have:0<=(-vW h l+half s)/2^s:=En (by omega) (pJ p);omega
   .have nv:¬vW h l<0:=by show ¬h*18446744073709551616+l<0;omega
    rw[if_neg nv];exact En (by omega) (pJ p)
  unfold sat eN;by_cases n:h<0
  .have:=sg.1 n;have c1:M4 (vW h l) s< -1152921504606846976:=by omega
   simp[n,c1]
  .have:=sg.2 n;have c1:¬M4 (vW h l) s< -1152921504606846976:=by omega
   have c2:1152921504606846976<M4 (vW h l) s:=by omega
   simp[n,c1,c2]
theorem apw (x:Int)(h0: -9223372036854775808<=x)(h1:x<=9223372036854775807):sj x=some (if x<0 then -x else x):=by
 simp only[sj,acj,Pg.bQ,Pg.bN,Pg.cx,Pg.fq,Pg.ew];try delta wI wU
 by_cases c:x<0
 .simp only[c,Jo,bB,lI,wrap_u64];exact cW (some:Int->Option Int) (by omega)
 .simp only[c,Kh,bI,gA,wrap_u64];exact cW (some:Int->Option Int) (by omega)
theorem apx {a b:Int}(a0:0<=a)(a1:a<=4294967295)(b0:0<=b)(b1:b<=4294967295):0<=a*b/\a*b<=18446744065119617025:=by
 refine⟨Cb a0 b0,?_⟩;have:=LW a1 b1 b0 (by omega);omega
theorem aT6 (x y:Int)(x0:0<=x)(x1:x<18446744073709551616)(y0:0<=y)(y1:y<18446744073709551616):IE x y=some (x*y/18446744073709551616,x*y%18446744073709551616):=by
 simp only[IE,acm,Pg.bQ,Pg.bN,Pg.cx,Pg.fq,Pg.ew];try delta wI wU
 rw[apv x x0 x1,apv y y0 y1];simp only[rH _ 4294967296 (by decide),wrap_u64];have xe:x=x/4294967296*4294967296+x%4294967296:=by omega
 have ye:y=y/4294967296*4294967296+y%4294967296:=by omega
 have xh:0<=x/4294967296/\x/4294967296<=4294967295:=by omega
 have yh:0<=y/4294967296/\y/4294967296<=4294967295:=by omega
 have xl:0<=x%4294967296/\x%4294967296<=4294967295:=by omega
 have yl:0<=y%4294967296/\y%4294967296<=4294967295:=by omega
 have hxy:x*y=(x/4294967296)*(y/4294967296)*18446744073709551616+((x/4294967296)*(y%4294967296)+(x%4294967296)*(y/4294967296))*4294967296+(x%4294967296)*(y%4294967296):=by
  conv=>lhs;rw[xe,ye]
  generalize x/4294967296=a
  generalize x%4294967296=b
  generalize y/4294967296=c
  generalize y%4294967296=d
  rw[aan,Int.mul_add,Int.mul_add,aan];rw[show a*4294967296*(c*4294967296)=a*c*18446744073709551616 by rw[alj,Int.mul_left_comm 4294967296 c,<-alj,show(4294967296:Int)*4294967296=18446744073709551616 from rfl]];rw[show a*4294967296*d=a*d*4294967296 by rw[alj,yb 4294967296 d,<-alj],show b*(c*4294967296)=b*c*4294967296 by rw[alj]];omega
 obtain⟨A0,A1⟩:=apx xh.1 xh.2 yh.1 yh.2;obtain⟨B0,B1⟩:=apx xh.1 xh.2 yl.1 yl.2;obtain⟨C0,C1⟩:=apx xl.1 xl.2 yh.1 yh.2;obtain⟨D0,D1⟩:=apx xl.1 xl.2 yl.1 yl.2;simp only[Fy xl.1 (show x%4294967296<18446744073709551616 by omega),Fy yl.1 (show y%4294967296<18446744073709551616 by omega)];rw[hxy];generalize x/4294967296*(y/4294967296)=A at*
 generalize x/4294967296*(y%4294967296)=B at*
 generalize x%4294967296*(y/4294967296)=C at*
 generalize x%4294967296*(y%4294967296)=D at*
 have r1:A%18446744073709551616=A:=Fy A0 (by omega);have r2:B%18446744073709551616=B:=Fy B0 (by omega);have r3:C%18446744073709551616=C:=Fy C0 (by omega);have r4:D%18446744073709551616=D:=Fy D0 (by omega);simp only[r1,r2,r3,r4];have r5:(B+D/4294967296)%18446744073709551616=B+D/4294967296:=Fy (by omega) (by omega);simp only[r5];rw[apv (B+D/4294967296) (by omega) (by omega)];have r6:(B+D/4294967296)%4294967296%18446744073709551616=(B+D/4294967296)%4294967296:=Fy (by omega) (by omega);simp only[r6];have r7:((B+D/4294967296)%4294967296+C)%18446744073709551616=(B+D/4294967296)%4294967296+C:=Fy (by omega) (by omega);simp only[r7];refine cW some (Prod.ext ?_ rfl);simp only;omega
theorem aLt (h l:Int)(neg:Bool)(h0:0<=h)(h1:h<9223372036854775808)(l0:0<=l)(l1:l<18446744073709551616):
  ∃h' l' b,nm h l neg=some ((h',l'),b)/\okW h' l'/\vW h' l'=if neg=true then -(h*18446744073709551616+l) else h*18446744073709551616+l:=by
 simp only[nm,Me,Pg.bQ,Pg.bN,Pg.cx,Pg.fq,Pg.ew];try delta wI wU
 cases neg
 .refine⟨_,_,_,rfl,?_,?_⟩
  .rw[wrap_i64 (by omega) (by omega)];omega
  .rw[wrap_i64 (by omega) (by omega)];rfl
 .simp only[Kg,bI,aeT l l0 l1,wrap_u64,aeT h h0 (by omega)];rw[Pq _ _ _ (by omega) (by omega) (by omega) (by omega)];simp only[bG];generalize hm:(18446744073709551615-h)%18446744073709551616+((18446744073709551615-l)%18446744073709551616+1+0)/18446744073709551616=m
  have hw:=Hk (m%18446744073709551616);generalize IntKind.wrap IntKind.i64 (m%18446744073709551616)=w at*
  have ok:okW w (((18446744073709551615-l)%18446744073709551616+1+0)%18446744073709551616)/\vW w (((18446744073709551615-l)%18446744073709551616+1+0)%18446744073709551616)= -(h*18446744073709551616+l):=by
   unfold vW;refine⟨⟨?_,?_,?_,?_⟩,?_⟩<;>(split at hw<;>omega)
  cases decide (w<0)
  .exact⟨_,_,_,rfl,ok.1,by simp only[lI];exact ok.2⟩
  .exact⟨_,_,_,rfl,ok.1,by simp only[lI];exact ok.2⟩
theorem Bl (a b:Int)(a0: -9223372036854775808<=a)(a1:a<=9223372036854775807)(b0: -9223372036854775808<=b)(b1:b<=9223372036854775807):∃h l,fK a b=some (h,l)/\okW h l/\vW h l=a*b:=by
 simp only[fK,alS,Pg.bQ,Pg.bN,Pg.cx,Pg.fq,Pg.ew];try delta wI wU
 simp only[apw a a0 a1,apw b b0 b1,bG];generalize hx:(if a<0 then -a else a)=x
 generalize hy:(if b<0 then -b else b)=y
 have x0:0<=x/\x<=9223372036854775808:=by rw[<-hx];split<;>omega
 have y0:0<=y/\y<=9223372036854775808:=by rw[<-hy];split<;>omega
 have hp:0<=x*y:=Cb x0.1 y0.1
 have hq:x*y<=85070591730234615865843651857942052864:=by
  have:=LW x0.2 y0.2 y0.1 (by omega);omega
 rw[aT6 x y x0.1 (by omega) y0.1 (by omega)];simp only[bG];obtain⟨h,l,c,e1,e2,e3⟩:=aLt (x*y/18446744073709551616) (x*y%18446744073709551616) (!decide (a<0)==decide (b<0)) (by omega) (by omega) (by omega) (by omega);rw[e1];simp only[bG];refine⟨h,l,rfl,e2,?_⟩;have e4:x*y/18446744073709551616*18446744073709551616+x*y%18446744073709551616=x*y:=by omega
 rw[e3,e4];by_cases p:a<0
 .by_cases q:b<0
  .rw[if_pos p] at hx;rw[if_pos q] at hy;simp only[p,q,Jo];rw[if_neg (by decide)];rw[<-hx,<-hy,Int.neg_mul_neg]
  .rw[if_pos p] at hx;rw[if_neg q] at hy;simp only[p,q,Jo,Kh];rw[if_pos (by decide)];rw[<-hx,<-hy,Int.neg_mul,Int.neg_neg]
 .by_cases q:b<0
  .rw[if_neg p] at hx;rw[if_pos q] at hy;simp only[p,q,Jo,Kh];rw[if_pos (by decide)];rw[<-hx,<-hy,Int.mul_neg,Int.neg_neg]
  .rw[if_neg p] at hx;rw[if_neg q] at hy;simp only[p,q,Kh];rw[if_neg (by decide)];rw[<-hx,<-hy]
theorem aOd (a b:Int)(s:Nat)(eZ:Bool)(hs:s<=120):aZ a b (ws s) eZ=some (sat (M4 (sat a*sat b) s),eZ||eN a||eN b||eN (M4 (sat a*sat b) s)):=by
 simp only[aZ,acq,Pg.bQ,Pg.bN,Pg.cx,Pg.fq,Pg.ew];try delta wI wU
 have:=mu a;have:=mu b;obtain⟨h,l,e1,e2,e3⟩:=Bl (sat a) (sat b) (by omega) (by omega) (by omega) (by omega);simp only[oO,bG,e1,ahX h l s _ hs e2,e3]
theorem Yq (f g:Nat->Int)(w:Bool)(o1:okW (f 0) (g 0))(o2:okW (f 1) (g 1))(r0: -170141183460469231731687303715884105728<=vW (f 0) (g 0)+vW (f 1) (g 1))(r1:vW (f 0) (g 0)+vW (f 1) (g 1)<170141183460469231731687303715884105728):
  ∃h l,kT 2 f g w=some ((h,l),true)/\okW h l/\vW h l=vW (f 0) (g 0)+vW (f 1) (g 1):=by
 simp only[kT,aaN,Pg.bQ,Pg.bN,Pg.cx,Pg.fq,Pg.ew];try delta wI wU
 unfold IL;rw[show z9 2 2=true from rfl,bB,alK];obtain⟨h1,l1,b1,e1,a1,c1,d1⟩:=azc 0 0 (f 0) (g 0) ⟨by omega,by omega,by omega,by omega⟩ o1
 have t1:b1=true:=by
  rw[c1];obtain⟨p1,p2,p3,p4⟩:=o1;simp only[vW];omega
 subst t1;have d1:=d1 rfl;obtain⟨h2,l2,b2,e2,a2,c2,d2⟩:=azc h1 l1 (f 1) (g 1) a1 o2;have z:vW 0 0=0:=rfl;have t2:b2=true:=by rw[c2,d1,z];omega
 subst t2;have d2:=d2 rfl;refine⟨h2,l2,?_,a2,by rw[d2,d1,z];omega⟩;have k0:decide ((0:Int)<ws 2)=true:=by decide
 have k1:bf 0 2=true:=by decide
 have k2:IntKind.wrap .i64 (0+1)=1:=by decide
 have k3:decide ((1:Int)<ws 2)=true:=by decide
 have k4:bf 1 2=true:=by decide
 have k5:IntKind.wrap .i64 (1+1)=2:=by decide
 have k6:decide ((2:Int)<ws 2)=false:=by decide
 have k7:z4 0=0:=rfl;have k8:z4 1=1:=rfl;rw[aaE];simp only[D8,Pg.sV,Pg.sW,Pg.wM,Pg.Cf,Pg.sX,nZ,ld,wI,k0,k1,k2,k7,bB,e1,bG,Kg,bI];rw[aaE];simp only[k3,k4,k5,k8,bB,e2,bG,Kg,bI];rw[aaE];simp only[k6,bI,ld]
def vf (f:Nat->Int):Nat->Int
 |0=>0
 |n+1=>vf f n+f n
def zk (f:Nat->Bool):Nat->Bool
 |0=>false
 |n+1=>zk f n||f n
theorem aeV (f:Nat->Int)(B:Int)(hB:0<=B)(n:Nat)(h:∀j,j<n-> -B<=f j/\f j<=B): -(n*B)<=vf f n/\vf f n<=n*B:=by
 induction n with
 |zero=>simp[vf]
 |succ n ih=>
  have:=ih λj hj=>h j (by omega)
  have h2:=h n (by omega);have e:((n+1:Nat):Int)*B=n*B+B:=by rw[Int.natCast_add,aan];simp
  rw[e,vf];omega
theorem aJA (v:Int):M4 v 0=v:=by
 unfold M4 half;simp only[lI,Int.add_zero];have:(2:Int)^0=1:=rfl;rw[this,Int.ediv_one,Int.ediv_one];split<;>omega
theorem apy {i n t:Nat}(h:i+t=n)(ht:0<t):decide (ws i<ws n)=true:=by simp only[dz];exact dW (by omega)
theorem apz {i n:Nat}(h:n<=i):decide (ws i<ws n)=false:=by simp only[dz];exact cV (by omega)
theorem apA {i n:Nat}(h:i<n):bf (ws i) n=true:=by unfold bf;simp only[dz,cB,jW];omega
theorem apB {i:Nat}(h:i<9000000000000000000):IntKind.wrap .i64 (ws i+1)=ws (i+1):=(wrap_i64 (by simp only[dz];omega) (by simp only[dz];omega)).trans rfl
theorem aYr (n:Nat)(hn:n<=1900)(eZ:Bool)(l:Nat->Int)(w:Bool):
  cJ n eZ l w=some (sat (vf (λj=>sat (l j)) n),(eZ||zk (λj=>eN (l j)) n)||eN (vf (λj=>sat (l j)) n)):=by
 simp only[cJ,QO,Pg.bQ,Pg.bN,Pg.cx,Pg.fq,Pg.ew];try delta wI wU
 unfold Tz;rw[Fz,bB]
 refine Km (λt d=>∃(i:Nat) (h l':Int),i+t=n/\okW h l'/\vW h l'=vf (λj=>sat (l j)) i/\d=(((n,w),ws n,ws i),(eZ||zk (λj=>eN (l j)) i),l,h,l')) ?_ 2000 n _ (by omega)
  ⟨0,0,0,by omega,⟨by omega,by omega,by omega,by omega⟩,rfl,by simp only[zk,OF];rfl⟩
 rintro t _ c ⟨i,h,l',hi,ho,hv,rfl⟩ hc
 have bnd:=aeV (λj=>sat (l j)) 1152921504606846976 (by omega) i (λj _=>mu _);rcases WD t with t0|t0
 .have e:i=n:=by omega
  subst e;have r:=ahX h l' 0;have r2:=wide_round h l' 0 (by omega) ho;rw[aJA] at r2;have r3:ws 0=0:=rfl;rw[r3] at r2;simp only[JB,Pg.sV,Pg.sW,Pg.wM,Pg.Cf,Pg.sX,nZ,ld,wI,apz (cZ i),bI,r2];by_cases k: -9223372036854775808<=vW h l'/\vW h l'<=9223372036854775807
  .rw[if_pos k];simp only[lI,bG,aeU,hv]
  .rw[if_neg k];simp only[bG,aeU,ya,gA];rw[<-hv];unfold sat eN;by_cases ng:h<0
   .have c1:vW h l'< -1152921504606846976:=by
     obtain⟨o1,o2,o3,o4⟩:=ho;simp only[vW] at*;omega
    simp[ng,c1]
   .have c1:¬vW h l'< -1152921504606846976:=by
     obtain⟨o1,o2,o3,o4⟩:=ho;simp only[vW] at*;omega
    have c2:1152921504606846976<vW h l':=by
     obtain⟨o1,o2,o3,o4⟩:=ho;simp only[vW] at*;omega
    simp[ng,c1,c2]
 .have hs:=mu (l i);obtain⟨h1,l1,e1,o1,v1⟩:=aYp (sat (l i)) (by omega) (by omega)
  obtain⟨h2,l2,e2,o2,v2⟩:=Yq (λj:Nat=>bif z9 j 1 then h1 else bif z9 j 0 then h else h) (λj:Nat=>bif z9 j 1 then l1 else bif z9 j 0 then l' else l') true
   ho o1 (by show _<=vW h l'+vW h1 l1;rw[hv,v1];omega) (by show vW h l'+vW h1 l1<_;rw[hv,v1];omega)
  have v2:vW h2 l2=vW h l'+vW h1 l1:=v2;rw[hv,v1] at v2;have q:z4 (ws i)=i:=rfl;simp only[JB,Pg.sV,Pg.sW,Pg.wM,Pg.Cf,Pg.sX,nZ,ld,wI,apy hi t0,apA (show i<n by omega),bB,q,oO,bG,e1,e2,apB (show i<9000000000000000000 by omega)];refine hc (t-1) _ (by omega) ⟨i+1,h2,l2,by omega,o2,v2,?_⟩;simp only[zk,Bool.or_assoc]
theorem RT (a b:Int): -1329227995784915872903807060280344576<=sat a*sat b/\sat a*sat b<=1329227995784915872903807060280344576:=by
 have h1:=mu a;have h2:=mu b;generalize sat a=x at*
 generalize sat b=y at*
 have key:∀u v:Int,0<=u->u<=1152921504606846976->0<=v->v<=1152921504606846976->0<=u*v/\u*v<=1329227995784915872903807060280344576:=λu v u0 u1 v0 v1=>by
  refine⟨Cb u0 v0,?_⟩;have:=LW u1 v1 v0 (by omega);omega
 rcases agv 0 x with hx|hx<;>rcases agv 0 y with hy|hy
 .have:=key x y hx (by omega) hy (by omega);omega
 .have:=key x (-y) hx (by omega) (by omega) (by omega);rw[Int.mul_neg] at this;omega
 .have:=key (-x) y (by omega) (by omega) hy (by omega);rw[Int.neg_mul] at this;omega
 .have:=key (-x) (-y) (by omega) (by omega) (by omega) (by omega);rw[Int.neg_mul_neg] at this;omega
theorem aOe (s:Nat)(hs:s<=120)(n:Nat)(hn:n<=100)(eZ:Bool)(f g:Nat->Int)(w w':Bool):
  bD (ws s) n n eZ f g w w'=some (sat (M4 (vf (λj=>sat (f j)*sat (g j)) n) s),(eZ||zk (λj=>eN (f j)||eN (g j)) n)||eN (M4 (vf (λj=>sat (f j)*sat (g j)) n) s)):=by
 simp only[bD,acV,Pg.bQ,Pg.bN,Pg.cx,Pg.fq,Pg.ew];try delta wI wU
 unfold TH;have n0:decide (ws s<0)=false:=by simp
 have n1:decide (ws s>120)=false:=by simp only[dz];exact cV (by omega)
 have m:(if 100<if ws n<ws n then ws n else ws n then 100 else if ws n<ws n then ws n else ws n)=ws n:=by
  have e:¬ws n<ws n:=by omega
  rw[if_neg e,if_neg (by simp only[dz];omega)]
 rw[n0,n1,bI,bI,Fz,bB,bB,m]
 refine Km (λt d=>∃(i:Nat) (h l':Int),i+t=n/\okW h l'/\vW h l'=vf (λj=>sat (f j)*sat (g j)) i/\d=((ws s,(n,w),(n,w'),ws n,ws i),(eZ||zk (λj=>eN (f j)||eN (g j)) i),f,g,h,l')) ?_ 2000 n _ (by omega)
  ⟨0,0,0,by omega,⟨by omega,by omega,by omega,by omega⟩,rfl,by simp only[zk,OF];rfl⟩
 rintro t _ c ⟨i,h,l',hi,ho,hv,rfl⟩ hc
 have bnd:=aeV (λj=>sat (f j)*sat (g j)) 1329227995784915872903807060280344576 (by omega) i (λj _=>RT _ _);rcases WD t with t0|t0
 .have e:i=n:=by omega
  subst e;simp only[JF,Pg.sV,Pg.sW,Pg.wM,Pg.Cf,Pg.sX,nZ,ld,wI,apz (cZ i),bI,ahX h l' s _ hs ho,hv,bG]
 .have hs1:=mu (f i);have WM:=mu (g i);have hm:=RT (f i) (g i);obtain⟨h1,l1,e1,o1,v1⟩:=Bl (sat (f i)) (sat (g i)) (by omega) (by omega) (by omega) (by omega)
  obtain⟨h2,l2,e2,o2,v2⟩:=Yq (λj:Nat=>bif z9 j 1 then h1 else bif z9 j 0 then h else h) (λj:Nat=>bif z9 j 1 then l1 else bif z9 j 0 then l' else l') true
   ho o1 (by show _<=vW h l'+vW h1 l1;rw[hv,v1];omega) (by show vW h l'+vW h1 l1<_;rw[hv,v1];omega)
  have v2:vW h2 l2=vW h l'+vW h1 l1:=v2;rw[hv,v1] at v2;have q:z4 (ws i)=i:=rfl;simp only[JF,Pg.sV,Pg.sW,Pg.wM,Pg.Cf,Pg.sX,nZ,ld,wI,apy hi t0,apA (show i<n by omega),bB,q,oO,bG,e1,e2,apB (show i<9000000000000000000 by omega)];refine hc (t-1) _ (by omega) ⟨i+1,h2,l2,by omega,o2,v2,?_⟩;simp only[zk,Bool.or_assoc]
theorem aOf (x:Int):M4 (x*1073741824) 30=x:=by
 unfold M4 half;rw[if_neg (by omega:¬(30:Nat)=0),show(2:Int)^(30-1)=536870912 from rfl,show(2:Int)^30=1073741824 from rfl];split<;>omega
theorem JQ {x:Int}(h: -1152921504606846976<=x/\x<=1152921504606846976):sat x=x/\eN x=false:=by
 unfold sat eN;have h1:¬x< -1152921504606846976:=by omega
 have h2:¬1152921504606846976<x:=by omega
 simp[h1,h2]
end Go.Proofs.YtldgljclcgaibaaGreat
