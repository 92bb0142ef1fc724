/-
  Parts of the proof: Q4 QS
-/
import Derived.Test.YtldgljclcgaibaaGreatZAE
import Derived.Test.YtldgljclcgaibaaGreatZAH
open Nat renaming beq→ww,ble→wd,blt→v6
open Int renaming toNat→ws,ofNat→wl
open Sum renaming inl→wr,inr→wn,elim→t8
set_option linter.all false
set_option maxRecDepth 100000
set_option maxHeartbeats 4000000
noncomputable section
namespace Go.Proofs.YtldgljclcgaibaaGreat
open Go.Ab Go.Ab.Pg Go.Ab.Rq
def II:=qa (pr (cu ay7 jc) aDe)
def xK:=qe (res (pu (app 1 6) (pu Zm (cl aVN nil))))
abbrev Aa:=xK.B
abbrev IJ:=Int->NI->NI->(Nat->Bool)->NI->NI->NI->Int->Option Aa
def IK (g:IJ):Ct:=(45,FC II (lf xK) (λb=>g b.1 b.2.1.1 b.2.1.2.1 b.2.1.b.1 b.2.1.b.2.1 b.2.1.c.1 b.2.1.c.2 b.b))
def sr (lM:Va)(x0:Int)(x1:Nat->Int)(x2:Nat->Int)(x3:Nat->Bool)(x4:Nat->Int)(x5:Nat->Int)(x6:Nat->Int)(x7:Int):Pg Aa:=opt (lM x0) λd=>ae (!d) (ret (0,0,false,0,0,0)) (ae (bb x0 6) (ae (wd (0+ws x0*6+6) 36) (ret ((x1,x2,x3,x4,x5,x6).1 (ws x0),(x2,x3,x4,x5,x6).1 (ws x0),(x3,x4,x5,x6).1 (ws x0),(x4,x5,x6).1 (ws x0),x5 (ws x0),x6 (ws x0))) no) no)
def ln:=λx0 x1 x2 x3 x4 x5 x6 x7=>(sr pO x0 x1 x2 x3 x4 x5 x6 x7).val
theorem acX:∀lM,D0 [Vb lM] 45 II (lf xK) λb=>sr lM b.1 b.2.1.1 b.2.1.2.1 b.2.1.b.1 b.2.1.b.2.1 b.2.1.c.1 b.2.1.c.2 b.b:=λ_ b=>by kernel_rfl
theorem acY [ax]:SC (IK ln):=s0 (.c ahq (.nil _)) (acX pO)
def awj:=qa (pr (cu aP afk) bG)
def acZ:=qe (res (pr (aa aw8) (pl nk nil)))
abbrev awk:=acZ.B
abbrev uU:=NI->Int->Bool->Option awk
def GP (g:uU):Ct:=(103,FC awj (lf acZ) (λb=>g b.1.1 b.1.2 b.2))
def ahr (aO:fK)(bg:eI)(bI:mT)(x0:Nat->Int)(x1:Int)(x2:Bool):Pg awk:=opt (aO x0 x2) λd=>opt (bg d.1) λaj=>opt (bI d.1 4) λaD=>opt (bI d.1 7) λbC=>ret ((x1,aj.1,aj.2.1,aj.2.2.1,aj.2.2.2,aD.1,aD.2.1,aD.2.2,bC),d.2)
def lN:=λx0 x1 x2=>(ahr cz cC fe x0 x1 x2).val
theorem aKW:∀aO bg bI,D0 [jU aO,kD bg,rZ bI] 103 awj (lf acZ) λb=>ahr aO bg bI b.1.1 b.1.2 b.2:=λ_ _ _ b=>by kernel_rfl
theorem M8 [ax]:SC (GP lN):=s0 (.c ld (.c lK (.c vH (.nil _)))) (aKW cz cC fe)
def arn:=qa (pl (c mh (cl aQj nil)) nil)
def Yb:=qe aPZ
abbrev aro:=Yb.B
abbrev D5:=NI->Int->Int->Int->Int->Int->Int->Int->Int->Int->Int->Int->Option aro
def QB (g:D5):Ct:=(105,FC arn (lf Yb) (λb=>g b.1 b.2.1 b.b.1.1 b.b.1.2.1 b.b.1.b.1 b.b.1.b.2 b.b.2.1.1 b.b.2.1.2.1 b.b.2.1.b b.c.1 b.c.2.1 b.c.b))
def ac0 (de:zK)(x0:Nat->Int)(x1:Int)(x2:Int)(x3:Int)(x4:Int)(x5:Int)(x6:Int)(x7:Int)(x8:Int)(x9:Int)(gA:Int)(fX:Int):Pg aro:=opt (de x0 0 4 (cr x2 [x5,x4,x3,x2]) false) λd=>opt (de d 4 3 (cr x6 [x8,x7,x6]) false) λd=>opt (de d 7 3 (cr x9 [fX,gA,x9]) false) λd=>ret d
def su:=λx0 x1 x2 x3 x4 x5 x6 x7 x8 x9 gA fX=>(ac0 gQ x0 x1 x2 x3 x4 x5 x6 x7 x8 x9 gA fX).val
theorem aG1:∀de,D0 [DX de] 105 arn (lf Yb) λb=>ac0 de b.1 b.2.1 b.b.1.1 b.b.1.2.1 b.b.1.b.1 b.b.1.b.2 b.b.2.1.1 b.b.2.1.2.1 b.b.2.1.b b.c.1 b.c.2.1 b.c.b:=λ_ b=>by kernel_rfl
theorem ac1 [ax]:SC (QB su):=s0 (.c Ip (.nil _)) (aG1 gQ)
def arp:=qa (pl aa1 nil)
def Yc:=qe E5
abbrev IL:=Yc.B
abbrev arq:=Int->Int->Int->Int->Int->Int->Int->Int->Option IL
def ars (g:arq):Ct:=(101,FC arp (lf Yc) (λb=>g b.1 b.2.1 b.b.1.1 b.b.1.2.1 b.b.1.b b.b.2.1 b.c.1 b.c.2))
def iy:=qs (st (pr (us 1 (cu Zq (us 2 (cl ai (us 21 aPV))))) (pl (cl E8 nil) nil)))
def aax:=qs (st (pu (us 2 (cu mW (us 37 nil))) (pu nil nil)))
def aay:=qs (st (pr (us 1 (cu Zq (us 2 (c ai (cl ab (us 20 aPV)))))) (pl (cl E8 nil) nil)))
abbrev qj:=aax.B⊕aay.B
def ajn {ρ:Type}(x:qj)(K:AX->St->Option ρ):Option ρ:=(t8 (λd=>K .ret (aax.em d)) (λd=>K (.ex 0) (aay.em d))) x
def yk (dL:OE)(d:iy.B):PL iy qj:=let n2:=d.2.2.2;let n1:=n2.2.2.2;let y0:=bb d.1 3;let y1:=d.1==1;let y2:=d.1==2;let y3:=decide (d.1<3);ae y3 (ae y0 (ae y2 (opt (dL n2.2.2.1) λaj=>ae (decide (aj>34359738368)) (ret (wn (wr ()))) (ae y0 (ae y2 (opt (dL n1.2.2) λaD=>ae (decide (aD>34359738368)) (ret (wn (wr ()))) (ret (wr (wI (d.1+1),d.2)))) (ae y1 (opt (dL n1.2.1) λaD=>ae (decide (aD>34359738368)) (ret (wn (wr ()))) (ret (wr (wI (d.1+1),d.2)))) (opt (dL n1.1) λaD=>ae (decide (aD>34359738368)) (ret (wn (wr ()))) (ret (wr (wI (d.1+1),d.2)))))) no)) (ae y1 (opt (dL n2.2.1) λaj=>ae (decide (aj>34359738368)) (ret (wn (wr ()))) (ae y0 (ae y2 (opt (dL n1.2.2) λaD=>ae (decide (aD>34359738368)) (ret (wn (wr ()))) (ret (wr (wI (d.1+1),d.2)))) (ae y1 (opt (dL n1.2.1) λaD=>ae (decide (aD>34359738368)) (ret (wn (wr ()))) (ret (wr (wI (d.1+1),d.2)))) (opt (dL n1.1) λaD=>ae (decide (aD>34359738368)) (ret (wn (wr ()))) (ret (wr (wI (d.1+1),d.2)))))) no)) (opt (dL n2.1) λaj=>ae (decide (aj>34359738368)) (ret (wn (wr ()))) (ae y0 (ae y2 (opt (dL n1.2.2) λaD=>ae (decide (aD>34359738368)) (ret (wn (wr ()))) (ret (wr (wI (d.1+1),d.2)))) (ae y1 (opt (dL n1.2.1) λaD=>ae (decide (aD>34359738368)) (ret (wn (wr ()))) (ret (wr (wI (d.1+1),d.2)))) (opt (dL n1.1) λaD=>ae (decide (aD>34359738368)) (ret (wn (wr ()))) (ret (wr (wI (d.1+1),d.2)))))) no)))) no) (ret (wn (wn ((d.1,y3),d.2))))
def DH:=bD (yk yd) 2000
def Ac (eH:LT iy qj)(x0:Int)(x1:Int)(x2:Int)(x3:Int)(x4:Int)(x5:Int)(x6:Int)(x7:Int):Pg IL:=opt (eH (0,x0,x1,x2,x3,x4,x5,x6,x7)) λx=>sum x (λd=>ret false) λd=>ae (decide (d.2.2.1>=1)) (ae (decide (d.2.2.1<=100000)) (ae (decide (d.2.1>=0)) (ret (decide (d.2.1<=1125899906842624))) (ret false)) (ret false)) (ret false)
def lp:=λx0 x1 x2 x3 x4 x5 x6 x7=>(Ac DH x0 x1 x2 x3 x4 x5 x6 x7).val
abbrev QC:=OE×(LT iy qj)
def ac2 (p:QC):KK:=⟨[adJ p.1],⟨[⟨2,(0::2::5::6::7::rg 9 4 (rg 20 6 (29::30::34::35::39::3::8::rg 13 7 []))),[]⟩],[fW 2 0 iy ajn p.2],[],[],(some ⟨0,(0::1::rg 3 37 []),[]⟩)⟩,0,101⟩
theorem ayr (p:QC):LI (ac2 p) 2 iy ajn (yk p.1):=λ_ d c K=>by kernel_rfl
theorem aG2 (p:QC):D2 (ac2 p) arp (lf Yc) λb=>Ac p.2 b.1 b.2.1 b.b.1.1 b.b.1.2.1 b.b.1.b b.b.2.1 b.c.1 b.c.2:=λb=>by kernel_rfl
abbrev ac3:QC:=(yd,DH)
theorem aG3 [ax]:SC (ars lp):=sc (kS (k:=ac2 ac3) (.c aoL (.nil _)) [2] [] ⟨kL (ayr ac3),trivial⟩ trivial (aG2 ac3))
def Ad:=qa (pr (cu aP (c (aa aDc) aa1)) bG)
def Yd:=qe (res (pr (aa aw5) (pl nk nil)))
abbrev ac4:=Yd.B
abbrev art:=Ad.B->Option ac4
def aru (g:art):Ct:=(102,FC Ad (lf Yd) g)
def IM (ee:B5)(x:Ad.B):Pg ac4:=let n2:=x.1.2.2.2;let n1:=x.1.1.2.2;opt (ee 2 x.2 (cr n1.1.1 [n2.1.1,n1.1.1]) (cr n1.1.2.1 [n2.1.2.1,n1.1.2.1]) (cr n1.1.2.2 [n2.1.2.2,n1.1.2.2]) true) λd=>opt (ee 2 d.2 (cr n1.2.1 [n2.2.1,n1.2.1]) (cr n1.2.2.1 [n2.2.2.1,n1.2.2.1]) (cr n1.2.2.2 [n2.2.2.2,n1.2.2.2]) true) λaj=>ret ((x.1.2.1,wI (x.1.1.2.1+x.1.2.2.1),d.1.1,d.1.2.1,d.1.2.2,aj.1),aj.2)
def sw:=λx=>(IM lD x).val
theorem aG4:∀ee,D0 [JY ee] 102 Ad (lf Yd) λb=>IM ee b:=λ_ b=>by kernel_rfl
theorem aG5 [ax]:SC (aru sw):=s0 (.c OO (.nil _)) (aG4 lD)
def gf:=qa (pr (cu (app 0 10) (cu QR aa1)) (c oD bG))
def El:=qe (res (pr (sH (c (ra aw5) (c (rc cb) afd))) (pl (c (zD oD) nk) nil)))
abbrev sX:=El.B
abbrev FU:=gf.B->Option sX
def Rr (g:FU):Ct:=(62,FC gf (lf El) g)
def mA (QD:arq)(QE:art)(x:gf.B):Pg sX:=let n3:=x.1.2.2;let n2:=x.2.1;let n1:=(QE ((n2.2.1,x.1),x.2.2));opt (QD x.1.1 x.1.2.1 n3.1.1 n3.1.2.1 n3.1.2.2 n3.2.1 n3.2.2.1 n3.2.2.2) λd=>ae (!d) (ret (((0,0,0,0,0,0,0,0),false,1),x.2)) (ae n2.2.2 (ae (decide (x.1.1<=n2.2.1.1)) (ret (((0,0,0,0,0,0,0,0),false,1),x.2)) (opt n1 λd=>let n4:=d.1.2;ae (decide (n4.1<n2.1)) (ret (((0,0,0,0,0,0,0,0),false,0),(n2.1,(d.1.1,n4.1,(n4.2.1,n4.2.2.1,n4.2.2.2.1),n4.2.2.2.2),true),d.2)) (ret ((d.1,true,0),(n2.1,(x.1.1,0,(0,0,0),0,0,0),true),d.2)))) (opt n1 λd=>let n5:=d.1.2;ae (decide (n5.1<n2.1)) (ret (((0,0,0,0,0,0,0,0),false,0),(n2.1,(d.1.1,n5.1,(n5.2.1,n5.2.2.1,n5.2.2.2.1),n5.2.2.2.2),true),d.2)) (ret ((d.1,true,0),(n2.1,(x.1.1,0,(0,0,0),0,0,0),true),d.2))))
def cX:=λx=>(mA lp sw x).val
theorem anu:∀QD QE,D1 [ars QD,aru QE] [0,1] 62 gf (lf El) λb=>mA QD QE b:=λ_ _ b=>by kernel_rfl
theorem anv [ax]:SC (Rr cX):=s0 (.c aG3 (.c aG5 (.nil _))) (anu lp sw)
def im:=qa (pr (cu KG (cu QR afk)) (cd afj λb0=>(c xx (cl (cl (gs b0.b jY) nil) nil))))
def wW:=qe (res (pu QP (pr (c (zD (c gi (cl gi (cu (gc (jr (pu rq7 (pu wA (pu (szl AD) (pu Bn jP)))))) nil)))) N') (cl aw8 nil))))
abbrev xL:=wW.B
abbrev xM:=im.B->Option xL
def Hb (g:xM):Ct:=(162,FC im (lf wW) g)
def qz (kE:uU)(x:im.B):Pg xL:=opt (kE x.1.1 x.1.2 x.2.2.1) λd=>ret (((x.2.1.1,x.2.1.2.1),d.2),d.1)
def eJ:=λx=>(qz lN x).val
theorem Za:∀kE,D0 [GP kE] 162 im (lf wW) λb=>qz kE b:=λ_ b=>by kernel_rfl
theorem Zb [ax]:SC (Hb eJ):=s0 (.c M8 (.nil _)) (Za lN)
def od:=qa (pr (cu KG (cu QR (c mh aa1))) (cd afj λb0=>(c xx (cl (cl (gs b0.b jY) nil) nil))))
def EJ:=qe (res (pr ai (pl (c (zD afj) N') nil)))
def EK:=qe (res (pu (ac aJa) (pr (c (zD aJm) (cl at5 aMu)) aQl)))
abbrev sx:=EJ.B⊕EK.B
def IN:sx->T:=ls (lf EJ) (lf EK)
abbrev oe:=od.B->Option sx
def Ae (g:oe):Ct:=(63,FC od IN g)
def Af (vP:D5)(D6:Qx)(kE:uU)(x:od.B):Pg sx:=let bx:=x.2.2.1;let n8:=x.2.1;let n6:=x.1.2.2;let n4:=x.2.2.2;let aT:=n4.2.2;let n2:=n8.2.2;let n1:=aT.2.2;let n5:=n1.2.2.2;let bj:=n5.2.2;let y0:=wl n2;let y1:=n2+1;let y2:=wI (y0-1);let y3:=ws y2;let y4:=y1-1;let y5:=0+y4;ae (y0==0) (ret (wr (4,n8,bx))) (ae (bb y2 n2) (ae (decide (n6.1<1)) (ret (wr (1,n8,bx))) (ae (decide (x.1.2.1<=n4.1 y3)) (ret (wr (1,n8,bx))) (opt (vP x.1.1 (n4.1 y3) (n4.2.1 y3) (aT.1 y3) (aT.2.1 y3) (n1.1 y3) (n1.2.1 y3) (n1.2.2.1 y3) (n5.1 y3) (n5.2.1 y3) (bj.1 y3) (bj.2 y3)) λd=>opt (D6 d x.1.2.1 n6.1 n6.2.1.1 n6.2.1.2.1 n6.2.1.2.2 n6.2.2.1 n6.2.2.2.1 n6.2.2.2.2 bx) λd=>opt (kE d.1 x.1.2.1 d.2) λd=>let n7:=d.1.2.2;let n3:=n7.2.2.2;let n9:=n3.2.2.2;ae (wd (y1*88) 140737488355328) (ae (decide (wl y1>n8.1)) (ae (KI 1 y1) (ae (wd (y5*88) 140737488355328) (ret (wn (((n8.1,n8.2.1,y5),d.2),y4,λj=>let y0:=1+j;bif ww y0 n2 then d.1.1 else n4.1 y0,λj=>let y0:=1+j;bif ww y0 n2 then d.1.2.1 else n4.2.1 y0,λj=>let y0:=1+j;bif ww y0 n2 then n7.1 else aT.1 y0,λj=>let y0:=1+j;bif ww y0 n2 then n7.2.1 else aT.2.1 y0,λj=>let y0:=1+j;bif ww y0 n2 then n7.2.2.1 else n1.1 y0,λj=>let y0:=1+j;bif ww y0 n2 then n3.1 else n1.2.1 y0,λj=>let y0:=1+j;bif ww y0 n2 then n3.2.1 else n1.2.2.1 y0,λj=>let y0:=1+j;bif ww y0 n2 then n3.2.2.1 else n5.1 y0,λj=>let y0:=1+j;bif ww y0 n2 then n9.1 else n5.2.1 y0,λj=>let y0:=1+j;bif ww y0 n2 then n9.2.1 else bj.1 y0,λj=>let y0:=1+j;bif ww y0 n2 then n9.2.2 else bj.2 y0))) no) no) (ret (wn (((n8.1,n8.2.1,y1),d.2),y1,λj=>bif ww j n2 then d.1.1 else n4.1 j,λj=>bif ww j n2 then d.1.2.1 else n4.2.1 j,λj=>bif ww j n2 then n7.1 else aT.1 j,λj=>bif ww j n2 then n7.2.1 else aT.2.1 j,λj=>bif ww j n2 then n7.2.2.1 else n1.1 j,λj=>bif ww j n2 then n3.1 else n1.2.1 j,λj=>bif ww j n2 then n3.2.1 else n1.2.2.1 j,λj=>bif ww j n2 then n3.2.2.1 else n5.1 j,λj=>bif ww j n2 then n9.1 else n5.2.1 j,λj=>bif ww j n2 then n9.2.1 else bj.1 j,λj=>bif ww j n2 then n9.2.2 else bj.2 j)))) no))) no)
def gh:=λx=>(Af su vN lN x).val
theorem ac5:∀vP D6 kE,D1 [QB vP,ach D6,GP kE] [0,1] 63 od IN λb=>Af vP D6 kE b:=λ_ _ _ b=>by kernel_rfl
theorem IP [ax]:SC (Ae gh):=s0 (.c ac1 (.c aqY (.c M8 (.nil _)))) (ac5 su vN lN)
def K2:=qa (pu (cu KG nil) (cd (c gi (c gi (cl (gc (Dd 1 11)) nil))) λb0=>(cl (cl (gs b0.b jY) nil) nil)))
def Ag:=qe (res (pl aWx (pu aCZ nil)))
abbrev K3:=Ag.B
abbrev K4:=Int->Int->Nat->NI->NI->NI->NI->NI->NI->NI->NI->NI->NI->NI->Option K3
def K5 (g:K4):Ct:=(75,FC K2 (lf Ag) (λb=>g b.1.1 b.1.2.1 b.1.b b.2.1 b.b.1 b.b.2.1 b.c.1 b.c.2.1 b.c.b.1 b.c.b.2.1 b.d.1 b.d.2.1 b.d.b.1 b.d.b.2))
def K6 (x0:Int)(x1:Int)(x2:Nat)(x3:Nat->Int)(x4:Nat->Int)(x5:Nat->Int)(x6:Nat->Int)(x7:Nat->Int)(x8:Nat->Int)(x9:Nat->Int)(gA:Nat->Int)(fX:Nat->Int)(BL:Nat->Int)(x13:Nat->Int):Pg K3:=let y0:=wI (wl x2-1);let y1:=ws y0;ae (wl x2==0) (ret ((0,0,0,0,0,0,0,0,0,0,0),false)) (ae (bb y0 x2) (ret (((x3,x4,x5,x6,x7,x8,x9,gA,fX,BL,x13).1 y1,(x4,x5,x6,x7,x8,x9,gA,fX,BL,x13).1 y1,(x5,x6,x7,x8,x9,gA,fX,BL,x13).1 y1,(x6,x7,x8,x9,gA,fX,BL,x13).1 y1,(x7,x8,x9,gA,fX,BL,x13).1 y1,(x8,x9,gA,fX,BL,x13).1 y1,(x9,gA,fX,BL,x13).1 y1,(gA,fX,BL,x13).1 y1,(fX,BL,x13).1 y1,BL y1,x13 y1),true)) no)
def A8:=λx0 x1 x2 x3 x4 x5 x6 x7 x8 x9 gA fX BL x13=>(K6 x0 x1 x2 x3 x4 x5 x6 x7 x8 x9 gA fX BL x13).val
theorem aem:D0 [] 75 K2 (lf Ag) λb=>K6 b.1.1 b.1.2.1 b.1.b b.2.1 b.b.1 b.b.2.1 b.c.1 b.c.2.1 b.c.b.1 b.c.b.2.1 b.d.1 b.d.2.1 b.d.b.1 b.d.b.2:=λb=>by kernel_rfl
theorem aen [ax]:SC (K5 A8):=s0 (.nil _) aem
def lF:=qa (pu (cu Zq nil) (cd akx λb0=>(cl (cl (gs b0.b.1 aA) nil) nil)))
def CB:=qe (res (pu QP (pl (cl (zD akx) Zm) nil)))
abbrev xr:=CB.B
abbrev Em:=lF.B->Option xr
def N3 (g:Em):Ct:=(57,FC lF (lf CB) g)
def xt (x:lF.B):Pg xr:=ret ((wI (x.1.1.1+1),x.1.1.2.1,x.1.1.2.2.1,wI (x.1.1.2.2.2.1+1),x.1.1.2.2.2.2),x.1.2)
def ji:=λx=>(xt x).val
theorem aj1:D0 [] 57 lF (lf CB) λb=>xt b:=λb=>by kernel_rfl
theorem aj2 [ax]:SC (N3 ji):=s0 (.nil _) aj1
def anw:=qa (pl E6 nil)
def TO:=qe E5
abbrev anx:=TO.B
abbrev A9:=Int->Int->Int->Option anx
def Ye (g:A9):Ct:=(41,FC anw (lf TO) (λb=>g b.1 b.2.1 b.b))
def M9 (x0:Int)(x1:Int)(x2:Int):Pg anx:=ae (decide (x0>=x1)) (ret (decide (x0<=x2))) (ret false)
def og:=λx0 x1 x2=>(M9 x0 x1 x2).val
theorem aFw:D0 [] 41 anw (lf TO) λb=>M9 b.1 b.2.1 b.b:=λb=>by kernel_rfl
theorem anz [ax]:SC (Ye og):=s0 (.nil _) aFw
def awl:=qa (pl Hq nil)
def aeo:=qe aDb
def aep:=qe aWz
abbrev ahs:=aeo.B⊕aep.B
def awm:ahs->T:=ls (lf aeo) (lf aep)
abbrev aht:=Int->Int->Int->Option ahs
def awn (g:aht):Ct:=(42,FC awl awm (λb=>g b.1 b.2.1 b.b))
def ahu (cP:vO)(fu:V8)(aq:cB)(eQ:KU)(iB:Q4)(uV:agi)(aE:cO)(x0:Int)(x1:Int)(x2:Int):Pg ahs:=opt (cP x0 x1 x2) λd=>ae (!d) (ret (wr ())) (ae (decide (x0>850000000)) (ret (wr ())) (ae (decide (x0< -850000000)) (ret (wr ())) (opt (aq x0 3373259426 1800000000 false) λd=>opt (eQ d.1 d.2) λaj=>opt (iB d.1 aj.2) λd=>opt (fu aj.1 aj.1 d.2) λaD=>opt (fu 7188036 aD.1 aD.2) λbC=>let y0:=wI (1073741824-bC.1);opt (uV y0 bC.2) λcM=>opt (aE 6531212288 cM.1 30 cM.2) λfA=>opt (fu 6531212288 1066553788 fA.2) λdB=>opt (fu y0 cM.1 dB.2) λnX=>opt (aE dB.1 nX.1 30 nX.2) λtP=>opt (aq tP.1 3373259426 1800000000 tP.2) λpI=>opt (fu fA.1 d.1 pI.2) λd=>opt (aq d.1 3373259426 1800000000 d.2) λd=>ret (wn (x0,x1,x2,pI.1,d.1)))))
def zb:=λx0 x1 x2=>(ahu ia wH aU oM sR BS bo x0 x1 x2).val
theorem aKX:∀cP fu aq eQ iB uV aE,D0 [zT cP,V9 fu,dD aq,KV eQ,Q5 iB,agj uV,gO aE] 42 awl awm λb=>ahu cP fu aq eQ iB uV aE b.1 b.2.1 b.b:=λ_ _ _ _ _ _ _ b=>by kernel_rfl
theorem aKY [ax]:SC (awn zb):=s0 (.c D3 (.c aln (.c dQ (.c Q3 (.c ZV (.c auS (.c iT (.nil _)))))))) (aKX ia wH aU oM sR BS bo)
def aA5:=qa (pr (cu ay5 E6) (cl ar7 nil))
def ahv:=qe aV4
abbrev aA6:=ahv.B
abbrev anA:=Int->Int->Int->NI->Option aA6
def aA7 (g:anA):Ct:=(74,FC aA5 (lf ahv) (λb=>g b.1.1 b.1.2.1 b.1.b b.2))
def A':=qs (st (pr (cu ay5 (us 1 (c ai (c ai (us 4 aU8))))) (pl JC cR)))
def aG6:=qs (st (pr (cu ay5 (us 1 (c ai (c ai (us 4 (c ai (us 1 (c ai aJf)))))))) (pl JC cR)))
abbrev QF:=(aR2×NI)
def arv {ρ:Type}(x:QF)(K:AX->St->Option ρ):Option ρ:=(λd=>K (.ex 0) (aG6.em ((d.1.1,d.1.2.1,d.1.b.1,d.1.b.1,d.1.1,d.1.b.2),d.2))) x
def arw (d:A'.B):PL A' QF:=let n1:=d.1.2;let y0:=ws n1.2;let y1:=decide (n1.2<d.1.1);ae y1 (ae (bb n1.2 24) (ae (true&&wd (0+y0*1+1) 24) (ret (wr ((d.1.1,n1.1,wI (n1.2+1)),λj=>bif ww j y0 then n1.1 else d.2 j))) no) no) (ret (wn ((d.1.1,n1.1,n1.2,y1),d.2)))
def arx:=bD (arw) 2000
def aA8 (eH:LT A' QF)(x0:Int)(x1:Int)(x2:Int)(x3:Nat->Int):Pg aA6:=opt (eH ((x1,x2,x0),x3)) λd=>ret d.2
def anB:=λx0 x1 x2 x3=>(aA8 arx x0 x1 x2 x3).val
abbrev aaz:=(LT A' QF)
def anC (p:aaz):KK:=⟨[],⟨[⟨1,(1::rg 4 4 (rg 9 11 [])),[]⟩],[fW 1 1 A' arv p],[0],[],(some ⟨0,(rg 0 20 []),[]⟩)⟩,1,74⟩
theorem aFx (p:aaz):LI (anC p) 1 A' arv (arw):=λ_ d c K=>by kernel_rfl
theorem aOh (p:aaz):D2 (anC p) aA5 (lf ahv) λb=>aA8 p b.1.1 b.1.2.1 b.1.b b.2:=λb=>by kernel_rfl
abbrev anD:aaz:=arx
theorem aOi [ax]:SC (aA7 anB):=sc (kS (k:=anC anD) (.nil _) [1] [] ⟨kL (aFx anD),trivial⟩ trivial (aOh anD))
def anE:=qa (pu nil nil)
def TQ:=qe (res (pl (aa aQy) (pu nil nil)))
abbrev Yf:=TQ.B
abbrev aFy:=Option Yf
def anF (g:aFy):Ct:=(38,FC anE (lf TQ) (λ_=>g))
def uc:=qs (st (pr (cu aCW (cu (app 1 72) (us 2 aVf))) (pl (c (so (cu aM (cu aM (cu aM (cu aM (cu aM (cu aM (cu aM (cu aM (cu aM (cu aM (cu aM (cu aM (cu aM (cu aM (cu aM (cu aM (c iR (cl iR aJK))))))))))))))))))) (cl (so aQy) nil)) nil)))
def aeq:=qs (st (pr (cu aCW (cu (app 1 72) (us 2 aVt))) (pl (c (so (cu aM (cu aM (cu aM (cu aM (cu aM (cu aM (cu aM (cu aM (cu aM (cu aM (cu aM (cu aM (cu aM (cu aM (cu aM (cu aM (c iR (cl iR aJK))))))))))))))))))) (cl (so aQy) nil)) nil)))
abbrev GQ:=aeq.B
def aer {ρ:Type}:=@ef GQ ((.ex 0)) aeq ρ
def aes (d:uc.B):PL uc GQ:=let n8:=d.2.1;let n4:=d.2.2.1;let n3:=d.2.2.2;let n9:=n3.2.1;let n5:=n3.2.2.1;let n1:=n3.2.2.2;let aT:=n1.2.1;let n6:=n1.2.2.1;let n2:=n1.2.2.2;let bj:=n2.2.1;let n7:=n2.2.2;let bA:=n7.2.1;let bx:=n7.2.2;let y0:=bb d.1 6;let y1:=d.1==5;let y2:=d.1==4;let y3:=d.1==1;let y4:=d.1==3;let y5:=d.1==2;let y6:=wI (d.1+1);let y7:=decide (d.1<6);ae y7 (ae y0 (ae y1 (ae y0 (ae y1 (ret (wr (y6,n8,n4,n3.1,n9,n5,n1.1,5,n6,n2.1,bj,n7.1,bA,1000000,bx.2))) (ae y2 (ret (wr (y6,n8,n4,n3.1,n9,n5,n1.1,5,n6,n2.1,bj,n7.1,1000000,bx))) (ae y4 (ret (wr (y6,n8,n4,n3.1,n9,n5,n1.1,5,n6,n2.1,bj,1000000,n7.2))) (ae y5 (ret (wr (y6,n8,n4,n3.1,n9,n5,n1.1,5,n6,n2.1,1000000,n7))) (ae y3 (ret (wr (y6,n8,n4,n3.1,n9,n5,n1.1,5,n6,1000000,n2.2))) (ret (wr (y6,n8,n4,n3.1,n9,n5,n1.1,5,1000000,n2)))))))) no) (ae y2 (ae y0 (ae y1 (ret (wr (y6,n8,n4,n3.1,n9,n5,5,aT,n6,n2.1,bj,n7.1,bA,1000000,bx.2))) (ae y2 (ret (wr (y6,n8,n4,n3.1,n9,n5,5,aT,n6,n2.1,bj,n7.1,1000000,bx))) (ae y4 (ret (wr (y6,n8,n4,n3.1,n9,n5,5,aT,n6,n2.1,bj,1000000,n7.2))) (ae y5 (ret (wr (y6,n8,n4,n3.1,n9,n5,5,aT,n6,n2.1,1000000,n7))) (ae y3 (ret (wr (y6,n8,n4,n3.1,n9,n5,5,aT,n6,1000000,n2.2))) (ret (wr (y6,n8,n4,n3.1,n9,n5,5,aT,1000000,n2)))))))) no) (ae y4 (ae y0 (ae y1 (ret (wr (y6,n8,n4,n3.1,n9,5,n1.1,aT,n6,n2.1,bj,n7.1,bA,1000000,bx.2))) (ae y2 (ret (wr (y6,n8,n4,n3.1,n9,5,n1.1,aT,n6,n2.1,bj,n7.1,1000000,bx))) (ae y4 (ret (wr (y6,n8,n4,n3.1,n9,5,n1.1,aT,n6,n2.1,bj,1000000,n7.2))) (ae y5 (ret (wr (y6,n8,n4,n3.1,n9,5,n1.1,aT,n6,n2.1,1000000,n7))) (ae y3 (ret (wr (y6,n8,n4,n3.1,n9,5,n1.1,aT,n6,1000000,n2.2))) (ret (wr (y6,n8,n4,n3.1,n9,5,n1.1,aT,1000000,n2)))))))) no) (ae y5 (ae y0 (ae y1 (ret (wr (y6,n8,n4,n3.1,5,n5,n1.1,aT,n6,n2.1,bj,n7.1,bA,1000000,bx.2))) (ae y2 (ret (wr (y6,n8,n4,n3.1,5,n5,n1.1,aT,n6,n2.1,bj,n7.1,1000000,bx))) (ae y4 (ret (wr (y6,n8,n4,n3.1,5,n5,n1.1,aT,n6,n2.1,bj,1000000,n7.2))) (ae y5 (ret (wr (y6,n8,n4,n3.1,5,n5,n1.1,aT,n6,n2.1,1000000,n7))) (ae y3 (ret (wr (y6,n8,n4,n3.1,5,n5,n1.1,aT,n6,1000000,n2.2))) (ret (wr (y6,n8,n4,n3.1,5,n5,n1.1,aT,1000000,n2)))))))) no) (ae y3 (ae y0 (ae y1 (ret (wr (y6,n8,n4,5,n9,n5,n1.1,aT,n6,n2.1,bj,n7.1,bA,1000000,bx.2))) (ae y2 (ret (wr (y6,n8,n4,5,n9,n5,n1.1,aT,n6,n2.1,bj,n7.1,1000000,bx))) (ae y4 (ret (wr (y6,n8,n4,5,n9,n5,n1.1,aT,n6,n2.1,bj,1000000,n7.2))) (ae y5 (ret (wr (y6,n8,n4,5,n9,n5,n1.1,aT,n6,n2.1,1000000,n7))) (ae y3 (ret (wr (y6,n8,n4,5,n9,n5,n1.1,aT,n6,1000000,n2.2))) (ret (wr (y6,n8,n4,5,n9,n5,n1.1,aT,1000000,n2)))))))) no) (ae y0 (ae y1 (ret (wr (y6,n8,5,n3.1,n9,n5,n1.1,aT,n6,n2.1,bj,n7.1,bA,1000000,bx.2))) (ae y2 (ret (wr (y6,n8,5,n3.1,n9,n5,n1.1,aT,n6,n2.1,bj,n7.1,1000000,bx))) (ae y4 (ret (wr (y6,n8,5,n3.1,n9,n5,n1.1,aT,n6,n2.1,bj,1000000,n7.2))) (ae y5 (ret (wr (y6,n8,5,n3.1,n9,n5,n1.1,aT,n6,n2.1,1000000,n7))) (ae y3 (ret (wr (y6,n8,5,n3.1,n9,n5,n1.1,aT,n6,1000000,n2.2))) (ret (wr (y6,n8,5,n3.1,n9,n5,n1.1,aT,1000000,n2)))))))) no)))))) no) (ret (wn ((d.1,y7),d.2)))
def aet:=bD (aes) 2000
def anG (sY:anA)(eH:LT uc GQ):Pg Yf:=opt (eH (0,(λx=>0,λx=>0),0,0,0,0,0,0,0,0,0,0,0,0,λx=>0,λx=>0)) λd=>let n3:=d.2.2.2;let n1:=n3.2.2.2.2;let n2:=n1.2.2.2.2;opt (sY 0 24 16384 n2.2.2.2.1) λaj=>opt (sY 0 4 1048576 aj) λaD=>opt (sY 4 7 17179869184 aD) λbC=>opt (sY 10 13 1024 bC) λcM=>opt (sY 13 16 65536 cM) λfA=>opt (sY 22 24 17179869184 fA) λdB=>opt (sY 0 24 17592186044416 n2.2.2.2.2) λnX=>opt (sY 0 4 68719476736 nX) λtP=>opt (sY 10 13 67108864 tP) λpI=>opt (sY 13 16 4294967296 pI) λmV=>opt (sY 16 22 17179869184 mV) λxy=>ret (d.2.2.1,n3.1,n3.2.1,n3.2.2.1,n3.2.2.2.1,n1.1,n1.2.1,n1.2.2.1,n1.2.2.2.1,n2.1,n2.2.1,n2.2.2.1,dB,xy)
def anH:Option Yf:=(anG anB aet).val
abbrev M':=anA×(LT uc GQ)
def Yg (p:M'):KK:=⟨[aA7 p.1],⟨[⟨3,(2::3::rg 5 32 []),[]⟩],[fW 3 0 uc aer p.2],[],[],(some ⟨0,(rg 1 36 []),[]⟩)⟩,0,38⟩
theorem awo (p:M'):LI (Yg p) 3 uc aer (aes):=λ_ d c K=>by kernel_rfl
theorem aFz (p:M'):D2 (Yg p) anE (lf TQ) λb=>anG p.1 p.2:=λb=>by kernel_rfl
abbrev Yh:M':=(anB,aet)
theorem aFA [ax]:SC (anF anH):=sc (kS (k:=Yg Yh) (.c aOi (.nil _)) [3] [] ⟨kL (awo Yh),trivial⟩ trivial (aFz Yh))
def aaA:=qa (pr (cu aP (c mh (c BG (c aff jc)))) bG)
def J9:=qe (res (pr (sH (c akq (c asd (cl (ra (cu ar6 (cu aM (cu aM (cu aM (c gi (c gi (cl gi (cu aM (cu aM (cu aM (cu aPG nil)))))))))))) nil)))) (pl nk nil)))
abbrev aaB:=J9.B
abbrev aaC:=NI->NI->NI->Int->Int->Int->Int->Bool->Option aaB
def aaD (g:aaC):Ct:=(250,FC aaA (lf J9) (λb=>g b.1.1 b.1.2.1.1 b.1.2.1.2 b.1.b.1.1 b.1.b.1.2.1 b.1.b.1.b b.1.b.2 b.2))
def Na (aO:fK)(iD:MS)(cw:m9)(bZ:jM)(x0:Nat->Int)(x1:Nat->Int)(x2:Nat->Int)(x3:Int)(x4:Int)(x5:Int)(x6:Int)(x7:Bool):Pg aaB:=opt (aO x0 x7) λd=>opt (iD d.1 4 3 d.2 (cr x3 [x5,x4,x3]) false) λd=>let n3:=d.1.2;let n2:=d.2.1;let n1:=d.2.2;opt cw λaj=>ae (wd 3 n3) (opt (bZ x1 x2 4 3 n2 (cr x6 [x6,x6,x6]) true) λaD=>ret (((d.1,n2,n3,n1).1.1,aD.1,n1 0,n1 1,n1 2),aD.2)) (ae (wd 2 n3) (opt (bZ x1 x2 4 3 n2 (cr x6 [x6,x6,x6]) true) λaD=>ret (((d.1,n2,n3,n1).1.1,aD.1,n1 0,n1 1,0),aD.2)) (ae (wd 1 n3) (opt (bZ x1 x2 4 3 n2 (cr x6 [x6,x6,x6]) true) λaD=>ret (((d.1,n2,n3,n1).1.1,aD.1,n1 0,0,0),aD.2)) (opt (bZ x1 x2 4 3 n2 (cr x6 [x6,x6,x6]) true) λaD=>ret (((d.1,n2,n3,n1).1.1,aD.1,0,0,0),aD.2))))
def zd:=λx0 x1 x2 x3 x4 x5 x6 x7=>(Na cz kT eV dr x0 x1 x2 x3 x4 x5 x6 x7).val
theorem awp:∀aO iD cw bZ,D0 [jU aO,MT iD,rA cw,AY bZ] 250 aaA (lf J9) λb=>Na aO iD cw bZ b.1.1 b.1.2.1.1 b.1.2.1.2 b.1.b.1.1 b.1.b.1.2.1 b.1.b.1.b b.1.b.2 b.2:=λ_ _ _ _ b=>by kernel_rfl
theorem awq [ax]:SC (aaD zd):=s0 (.c ld (.c XJ (.c wh (.c Fz (.nil _))))) (awp cz kT eV dr)
def Un:=qa (pr (cu aP (c mh (c BG E6))) bG)
def FW:=qe (res (pr (sH (c akq (c asd (cl (ra (cu ar6 (cu aM (cu aM (cu aM (cu aM (cu aM (cu aM (c gi (c gi (cl gi aPM))))))))))) nil)))) (pl nk nil)))
abbrev Uo:=FW.B
abbrev Uq:=NI->NI->NI->Int->Int->Int->Bool->Option Uo
def Ur (g:Uq):Ct:=(251,FC Un (lf FW) (λb=>g b.1.1 b.1.2.1.1 b.1.2.1.2 b.1.b.1 b.1.b.2.1 b.1.c b.2))
def HN (aO:fK)(iD:MS)(cw:m9)(bZ:jM)(x0:Nat->Int)(x1:Nat->Int)(x2:Nat->Int)(x3:Int)(x4:Int)(x5:Int)(x6:Bool):Pg Uo:=opt (aO x0 x6) λd=>opt (iD d.1 7 2 d.2 (cr x3 [x4,x3]) true) λd=>let n3:=d.1.2;let n2:=d.2.1;let n1:=d.2.2;opt cw λaj=>ae (wd 3 n3) (opt (bZ x1 x2 7 2 n2 (cr x5 [x5,x5]) true) λaD=>ret (((d.1,n2,n3,n1).1.1,aD.1,n1 0,n1 1,n1 2),aD.2)) (ae (wd 2 n3) (opt (bZ x1 x2 7 2 n2 (cr x5 [x5,x5]) true) λaD=>ret (((d.1,n2,n3,n1).1.1,aD.1,n1 0,n1 1,0),aD.2)) (ae (wd 1 n3) (opt (bZ x1 x2 7 2 n2 (cr x5 [x5,x5]) true) λaD=>ret (((d.1,n2,n3,n1).1.1,aD.1,n1 0,0,0),aD.2)) (opt (bZ x1 x2 7 2 n2 (cr x5 [x5,x5]) true) λaD=>ret (((d.1,n2,n3,n1).1.1,aD.1,0,0,0),aD.2))))
def uM:=λx0 x1 x2 x3 x4 x5 x6=>(HN cz kT eV dr x0 x1 x2 x3 x4 x5 x6).val
theorem ao9:∀aO iD cw bZ,D0 [jU aO,MT iD,rA cw,AY bZ] 251 Un (lf FW) λb=>HN aO iD cw bZ b.1.1 b.1.2.1.1 b.1.2.1.2 b.1.b.1 b.1.b.2.1 b.1.c b.2:=λ_ _ _ _ b=>by kernel_rfl
theorem apa [ax]:SC (Ur uM):=s0 (.c ld (.c XJ (.c wh (.c Fz (.nil _))))) (ao9 cz kT eV dr)
def ajo:=qa (pr (cu aP (c mh (c BG zE))) bG)
def Pr:=qe (res (pr (sH (c akq (c asd (cl (ra (cu ar6 (cu aM (cu aM (cu aM (cu aM (cu aM (cu aM (cu aM (cu aM (cl gi (cu (gc aPC) nil)))))))))))) nil)))) (pl nk nil)))
abbrev ajp:=Pr.B
abbrev ajq:=NI->NI->NI->Int->Int->Bool->Option ajp
def ajr (g:ajq):Ct:=(252,FC ajo (lf Pr) (λb=>g b.1.1 b.1.2.1.1 b.1.2.1.2 b.1.b.1 b.1.b.2 b.2))
def TR (aO:fK)(iD:MS)(cw:m9)(bZ:jM)(x0:Nat->Int)(x1:Nat->Int)(x2:Nat->Int)(x3:Int)(x4:Int)(x5:Bool):Pg ajp:=opt (aO x0 x5) λd=>opt (iD d.1 9 1 d.2 (λj=>bif ww j 0 then x3 else x3) true) λd=>opt cw λaj=>ae (wd 1 d.1.2) (opt (bZ x1 x2 9 1 d.2.1 (λj=>bif ww j 0 then x4 else x4) true) λaD=>ret (((d.1,d.2.1,d.1.2,d.2.2).1.1,aD.1,d.2.2 0),aD.2)) (opt (bZ x1 x2 9 1 d.2.1 (λj=>bif ww j 0 then x4 else x4) true) λaD=>ret (((d.1,d.2.1,d.1.2,d.2.2).1.1,aD.1,0),aD.2))
def DI:=λx0 x1 x2 x3 x4 x5=>(TR cz kT eV dr x0 x1 x2 x3 x4 x5).val
theorem aCe:∀aO iD cw bZ,D0 [jU aO,MT iD,rA cw,AY bZ] 252 ajo (lf Pr) λb=>TR aO iD cw bZ b.1.1 b.1.2.1.1 b.1.2.1.2 b.1.b.1 b.1.b.2 b.2:=λ_ _ _ _ b=>by kernel_rfl
theorem aCf [ax]:SC (ajr DI):=s0 (.c ld (.c XJ (.c wh (.c Fz (.nil _))))) (aCe cz kT eV dr)
def FX:=qa (pl (cl (aa xD) nil) nil)
def ahw:=qe E5
abbrev anI:=ahw.B
abbrev Rs:=FX.B->Option anI
def anJ (g:Rs):Ct:=(13,FC FX (lf ahw) g)
def mB:=qs (st (pr (us 1 (cu aCW (cu mW (us 3 (xs 1 (cu aVv (us 4 (cu aVO (us 4 (cu aVP (us 4 (cu mW (us 4 (c ab (us 3 (cl ai (us 26 aWN))))))))))))))))) (pl (cl (so (c gi (c gi (c gi (c gi (c gi (c gi (c gi (c gi (c gi (c gi (c gi (c gi (c gi (c gi (c gi (c gi aQi))))))))))))))))) nil) nil)))
def ajs:=qs (st (pu (us 2 (cu mW (us 119 nil))) (pu nil nil)))
def ajt:=qs (st (pr (us 1 (cu aCW (cu mW (us 3 (xs 1 (cu aVv (us 4 (cu aVO (us 4 (cu aVP (us 4 (cu mW (us 4 (c ab (us 3 (c ai (cl ab (us 25 aWN)))))))))))))))))) (pl (cl (so (c gi (c gi (c gi (c gi (c gi (c gi (c gi (c gi (c gi (c gi (c gi (c gi (c gi (c gi (c gi (c gi aQi))))))))))))))))) nil) nil)))
abbrev D7:=ajs.B⊕ajt.B
def ary {ρ:Type}(x:D7)(K:AX->St->Option ρ):Option ρ:=(t8 (λd=>K .ret (ajs.em d)) (λd=>K (.ex 2) (ajt.em d))) x
def QG (fR:A9)(d:mB.B):PL mB D7:=let n2:=d.1.2;let n1:=d.2.2.2.2.2.2.2.2.2.2.2.2.2.2.2.2.2;let y0:=ws n2;let y1:=bb n2 24;let y2:=wd (0+y0*1+1) 24;let y3:=decide (n2<24);ae y3 (ae y1 (ae y2 (opt (fR (n1.1 y0) 0 72057594037927936) λaj=>ae (!aj) (ret (wn (wr ()))) (ae y1 (ae y2 (opt (fR (n1.2.1 y0) 1 72057594037927936) λaD=>ae (!aD) (ret (wn (wr ()))) (ret (wr ((d.1.1,wI (n2+1)),d.2)))) no) no)) no) no) (ret (wn (wn ((d.1.1,n2,y3),d.2))))
def IQ:=bD (QG og) 2000
def aaE (fR:A9)(aKZ:aht)(qG:LT mB D7)(x:FX.B):Pg anI:=let n2:=x.2.2.2.2;let n8:=n2.2.1;let n4:=n8.2.2;let n3:=n2.1.2.2;let n7:=n3.2.2;ae (decide (n2.1.1<1)) (ret false) (ae (decide (n2.1.1>1000)) (ret false) (opt (fR n8.1 1 1099511627776) λd=>ae (!d) (ret false) (ae (decide (n2.1.2.1<1)) (ret false) (ae (decide (n2.1.2.1>1000)) (ret false) (opt (fR n8.2.1 1 1099511627776) λd=>ae (!d) (ret false) (ae (decide (n3.1<1)) (ret false) (ae (decide (n3.1>1000)) (ret false) (opt (fR n4.1 1 1099511627776) λd=>ae (!d) (ret false) (ae (decide (n3.2.1<1)) (ret false) (ae (decide (n3.2.1>1000)) (ret false) (opt (fR n4.2.1 1 1099511627776) λd=>ae (!d) (ret false) (ae (decide (n7.1<1)) (ret false) (ae (decide (n7.1>1000)) (ret false) (opt (fR n4.2.2.1 1 1099511627776) λd=>ae (!d) (ret false) (ae (decide (n7.2<1)) (ret false) (ae (decide (n7.2>1000)) (ret false) (opt (fR n4.2.2.2 1 1099511627776) λd=>ae (!d) (ret false) (opt (qG ((d,0),x.1,x.2.1,x.2.2.1,x.2.2.2.1,n2.1.1,n2.1.2.1,n3.1,n3.2.1,n7.1,n7.2,n8.1,n8.2.1,n4.1,n4.2.1,n4.2.2.1,n4.2.2.2,n2.2.2)) λx=>sum x (λd=>ret false) λd=>let n6:=d.2.2.2;let n1:=n6.2.2.2.2.2.2.2.2.2.2.2.2.2.2.2.2;let n5:=n1.2.2.2.2;opt (aKZ n5.2.1 n5.2.2.1 n5.2.2.2) λaj=>sm aj (λd=>ret false) (λaD=>opt (fR d.2.1 1000 100000) λbC=>ae bC (opt (fR d.2.2.1 0 300000) λcM=>ae cM (ae (decide (n6.1>=1)) (ae (decide (n6.1<=64)) (ae (decide (n6.2.1>=0)) (ae (decide (n6.2.1<=100)) (opt (fR n1.1 0 1099511627776) λfA=>ae fA (opt (fR n1.2.1 1 72057594037927936) λdB=>ae dB (ae (decide (n1.2.2.1>=0)) (ae (decide (n1.2.2.1<=3)) (opt (fR n1.2.2.2.1 1 1073741824) λnX=>ae nX (ae (decide (n5.1>=1)) (ret (decide (n5.1<=64))) (ret false)) (ret false)) (ret false)) (ret false)) (ret false)) (ret false)) (ret false)) (ret false)) (ret false)) (ret false)) (ret false)) (ret false))))))))))))))))))))
def oY:=λx=>(aaE og zb IQ x).val
abbrev aaF:=A9×aht×(LT mB D7)
def anK (p:aaF):KK:=⟨[Ye p.1,awn p.2.1],⟨[⟨2,(0::3::4::rg 8 4 (13::14::15::21::rg 29 8 (38::39::40::rg 48 10 [61,62,66,67,71,72,76,77,81,82,86,87,91,92,96,97,101,102,106,107,111,112,116,117,121]))),[]⟩,⟨8,(0::3::4::5::rg 8 4 (rg 13 4 (rg 18 4 (rg 23 4 (28::29::30::rg 32 5 (38::39::40::rg 48 10 (61::62::66::67::71::72::76::77::81::82::86::87::91::92::96::97::101::102::106::107::111::112::116::117::121::37::rg 41 7 []))))))),[]⟩],[fW 8 0 mB ary p.b],[],[],(some ⟨0,(0::1::rg 3 119 []),[]⟩)⟩,0,13⟩
theorem aFB (p:aaF):LI (anK p) 8 mB ary (QG p.1):=λ_ d c K=>by kernel_rfl
theorem aOj (p:aaF):D2 (anK p) FX (lf ahw) λb=>aaE p.1 p.2.1 p.b b:=λb=>by kernel_rfl
abbrev anL:aaF:=(og,zb,IQ)
theorem aA9 [ax]:SC (anJ oY):=sc (kS (k:=anK anL) (.c anz (.c aKY (.nil _))) [2,8] [] ⟨kN,⟨kL (aFB anL),trivial⟩⟩ trivial (aOj anL))
def aeu:=qa (dp (cu aP (c ai (c H9 awY))) λa=>(c xx (cl (cl (gs a.2.1.1 oK) nil) nil)))
def Nb:=qe aJs
abbrev aev:=Nb.B
abbrev aew:=Int->Nat->Nat->Bool->NI->Bool->Bool->Option aev
def aex (g:aew):Ct:=(73,vE 3 [.i .i64] (vE 2 [.i .i64] (FC aeu (lf Nb) (λb=>g b.1.1 b.1.2.1.1 b.1.b.1 b.2.1 b.b b.1.2.1.2 b.1.b.2))))
def pW:=qs (st (dp (cu aP (c ai (c H9 (c H9 (us 5 (cu ay3 aVE)))))) λa=>(pl (c cH (c (so (cl (gs a.2.1.1 oK) nil)) aa0)) cR)))
def ath:=qs (st (pr (cu aP (c ai (c H9 (c H9 (us 5 (cu ay3 aVJ)))))) (pl (c cH (c JD aa0)) cR)))
abbrev CC:=(aUZ×Bool×NI×Int×Int)
def Yi {ρ:Type}(x:CC)(K:AX->St->Option ρ):Option ρ:=(λd=>K (.ex 0) (ath.em (d.1,d.2.1,(d.1.2.1.1,d.b.1),d.b.2))) x
def CD (aw:bO)(cW:oL)(yF:sQ)(d:pW.B):PL pW CC:=let y0:=decide (d.1.2.2.2.2<d.1.2.2.2.1);ae y0 (ae (bb d.1.2.2.2.2 d.1.2.1.1) (opt (aw (d.2.2.1 (ws d.1.2.2.2.2)) d.2.1) λaj=>ae (bb d.1.2.2.2.2 d.1.2.2.1.1) (opt (aw (d.2.2.1 (ws d.1.2.2.2.2)) aj.2) λaD=>opt (cW aj.1 aD.1) λbC=>opt (yF 2 (λj=>bif ww j 1 then bC.1 else bif ww j 0 then d.2.2.2.1 else d.2.2.2.1) (λj=>bif ww j 1 then bC.2 else bif ww j 0 then d.2.2.2.2 else d.2.2.2.2) true) λcM=>ret (wr ((d.1.1,d.1.2.1,d.1.2.2.1,d.1.2.2.2.1,wI (d.1.2.2.2.2+1)),aD.2,d.2.2.1,cM.1))) no) no) (ret (wn ((d.1.1,d.1.2.1,d.1.2.2.1,d.1.2.2.2.1,d.1.2.2.2.2,y0),d.2)))
def J':=bD (CD aR fP lr) 2000
def Ps (jF:yb)(eH:LT pW CC)(x0:Int)(x1:Nat)(x2:Nat)(x3:Bool)(x4:Nat->Int)(w0:Bool)(w1:Bool):Pg aev:=let y0:=if wl x2<wl x1 then wl x2 else wl x1;ae (decide (x0<0)) (opt (jF 0 0 x0 x3) λd=>ret d) (ae (decide (x0>120)) (opt (jF 0 0 x0 x3) λd=>ret d) (ae (ww x1 x1) (opt (eH ((x0,(x1,w0),(x2,w1),if 100<y0 then 100 else y0,0),x3,x4,0,0)) λd=>opt (jF d.2.2.2.1 d.2.2.2.2 d.1.1 d.2.1) λd=>ret d) no))
def wj:=λx0 x1 x2 x3 x4 w0 w1=>(Ps oq J' x0 x1 x2 x3 x4 w0 w1).val
abbrev GR:=yb×bO×oL×sQ×(LT pW CC)
def Pu (p:GR):KK:=⟨[I5 p.1,dH p.2.1,yx p.b.1,KS p.b.2.1],⟨[⟨5,(rg 4 5 (rg 10 15 (rg 27 26 []))),[]⟩],[fW 5 2 pW Yi p.c],[0],[],(some ⟨0,(rg 0 8 (rg 9 44 [])),[]⟩)⟩,2,73⟩
theorem apb (p:GR):LI (Pu p) 5 pW Yi (CD p.2.1 p.b.1 p.b.2.1):=λ_ d c K=>by kernel_rfl
theorem ays (p:GR):D2 (Pu p) aeu (lf Nb) λb=>Ps p.1 p.c b.1.1 b.1.2.1.1 b.1.b.1 b.2.1 b.b b.1.2.1.2 b.1.b.2:=λb=>by kernel_rfl
abbrev Pv:GR:=(oq,aR,fP,lr,J')
theorem ayt [ax]:SC (aex wj):=sc (Sound.nil 3 [.i .i64]<|Sound.nil 2 [.i .i64]<|kS (k:=Pu Pv) (.c SI (.c dM (.c Br (.c QZ (.nil _))))) [5] [] ⟨kL (apb Pv),trivial⟩ trivial (ays Pv))
def Yj:=qa (pr (cu aP (c mh E6)) bG)
def HO:=qe aDg
abbrev Yk:=HO.B
abbrev Yl:=NI->Int->Int->Int->Bool->Option Yk
def Ym (g:Yl):Ct:=(234,FC Yj (lf HO) (λb=>g b.1.1 b.1.2.1 b.1.b.1 b.1.b.2 b.2))
def Ka (bI:mT)(GS:aew)(sd:abJ)(aW:dt)(dA:yE)(aE:cO)(x0:Nat->Int)(x1:Int)(x2:Int)(x3:Int)(x4:Bool):Pg Yk:=opt (bI x0 16) λd=>opt (GS 30 2 2 x4 (cr d.1 [d.2.1,d.1]) false false) λaj=>ae (decide (aj.1<1048576)) (ret (((λx=>0,0,0,0),4),aj.2)) (opt (sd d.2.1 d.1 aj.2) λaD=>opt (aW x1 aD.1 aD.2) λbC=>opt (dA bC.1) λcM=>opt (aE d.2.1 aj.1 30 bC.2) λfA=>opt (aE d.1 aj.1 30 fA.2) λd=>ret (((λj=>bif ww j 17 then d.1 else bif ww j 16 then wI (0-fA.1) else 0,cM,x2,x3),0),d.2))
def wX:=λx0 x1 x2 x3 x4=>(Ka fe wj zI bP lI bo x0 x1 x2 x3 x4).val
theorem ati:∀bI GS sd aW dA aE,D0 [rZ bI,aex GS,abK sd,iU aW,BT dA,gO aE] 234 Yj (lf HO) λb=>Ka bI GS sd aW dA aE b.1.1 b.1.2.1 b.1.b.1 b.1.b.2 b.2:=λ_ _ _ _ _ _ b=>by kernel_rfl
theorem atj [ax]:SC (Ym wX):=s0 (.c vH (.c ayt (.c aqy (.c jR (.c Gy (.c iT (.nil _))))))) (ati fe wj zI bP lI bo)
def lO:=qa (pr (cl aQj (cu aP (cu (app 1 10) nil))) (cu aPA (c Eb bG)))
def uu:=qe (res (pr (aa aw8) (pl aPQ nil)))
abbrev EL:=uu.B
abbrev pf:=lO.B->Option EL
def uW (g:pf):Ct:=(180,FC lO (lf uu) g)
def uX (ee:B5)(jh:Bu)(fq:yK)(bq:ju)(x:lO.B):Pg EL:=let n2:=x.2.1;let n6:=n2.1.2;let n1:=x.1.2;let n5:=n1.1.2;let n4:=n1.2.2;let n3:=n1.2.1;opt (ee 2 x.2.2 (cr n3.1 [n2.2.1.1,n3.1]) (cr n3.2.1 [n2.2.1.2.1,n3.2.1]) (cr n3.2.2 [n2.2.1.2.2,n3.2.2]) true) λd=>opt (ee 2 d.2 (cr n4.1 [n2.2.2.1,n4.1]) (cr n4.2.1 [n2.2.2.2.1,n4.2.1]) (cr n4.2.2 [n2.2.2.2.2,n4.2.2]) true) λaj=>opt jh λaD=>ae (!(n2.1.1==1073741824&&(n6.1==0&&(n6.2.1==0&&(n6.2.2==0&&true))))) (opt (fq n2.1.1 n6.1 n6.2.1 n6.2.2 n1.1.1 n5.1 n5.2.1 n5.2.2 aj.2) λbC=>opt (bq bC.1.1 bC.1.2.1 bC.1.2.2.1 bC.1.2.2.2 bC.2) λcM=>ret ((x.1.1,cM.1.1,cM.1.2.1,cM.1.2.2.1,cM.1.2.2.2,d.1.1,d.1.2.1,d.1.2.2,aj.1),cM.2)) (ret ((x.1.1,n1.1.1,n5.1,n5.2.1,n5.2.2,d.1.1,d.1.2.1,d.1.2.2,aj.1),aj.2))
def iZ:=λx=>(uX lD oN mm dI x).val
theorem Ve:∀ee jh fq bq,D0 [JY ee,KW jh,Fx fq,ov bq] 180 lO (lf uu) λb=>uX ee jh fq bq b:=λ_ _ _ _ b=>by kernel_rfl
theorem EM [ax]:SC (uW iZ):=s0 (.c OO (.c Q8 (.c KX (.c pL (.nil _))))) (Ve lD oN mm dI)
def ka:=qa (pr (cl aQj (cu aP (cu aMt (cu (app 2 1) (cu akm (cu (app 4 4) nil)))))) (cu (cu (gp 5 1) nil) (c mX (cu (cu (gp 6 3) nil) (c mX (c afh (c xx (cd aJn λb6=>(cl (cl (gs b6.b jY) nil) nil)))))))))
def rB:=qe (res (pr (aa aw8) (pl (cu fL (cu fL (cu fL (cu fL (cu fL (cl at5 aCZ)))))) nil)))
abbrev Bv:=rB.B
abbrev nE:=ka.B->Option Bv
def sZ (g:nE):Ct:=(183,FC ka (lf rB) g)
def te (jx:UT)(ee:B5)(fq:yK)(bq:ju)(x:ka.B):Pg Bv:=let n3:=x.1.2.1;let n2:=x.2.2;let n1:=x.1.2.2;opt (jx x.2.1.1 x.2.1.2.1 x.2.1.2.2 n2.2.2.2.1.2.1 n2.2.2.1) λd=>opt (ee 2 d.2 (cr n1.1.1 [d.1.1,n1.1.1]) (cr n1.1.2.1 [d.1.2.1,n1.1.2.1]) (cr n1.1.2.2 [d.1.2.2,n1.1.2.2]) true) λd=>opt (jx n2.1.1 n2.1.2.1 n2.1.2.2 n2.2.2.2.1.2.1 d.2) λaj=>opt (ee 2 aj.2 (cr n1.2.1 [aj.1.1,n1.2.1]) (cr n1.2.2.1 [aj.1.2.1,n1.2.2.1]) (cr n1.2.2.2 [aj.1.2.2,n1.2.2.2]) true) λaD=>opt (fq n2.2.1.1 n2.2.1.2.1 n2.2.1.2.2.1 n2.2.1.2.2.2 n3.1 n3.2.1 n3.2.2.1 n3.2.2.2 aD.2) λbC=>opt (bq bC.1.1 bC.1.2.1 bC.1.2.2.1 bC.1.2.2.2 bC.2) λcM=>ret ((x.1.1,cM.1.1,cM.1.2.1,cM.1.2.2.1,cM.1.2.2.2,d.1.1,d.1.2.1,d.1.2.2,aD.1),cM.2)
def gL:=λx=>(te uR lD mm dI x).val
theorem Rt:∀jx ee fq bq,D0 [UU jx,JY ee,Fx fq,ov bq] 183 ka (lf rB) λb=>te jx ee fq bq b:=λ_ _ _ _ b=>by kernel_rfl
theorem Bw [ax]:SC (sZ gL):=s0 (.c agr (.c OO (.c KX (.c pL (.nil _))))) (Rt uR lD mm dI)
def lP:=qa (pu (cu KG (cu QR (cu aQm nil))) (cd aJn λb0=>(c xx (cu ar5 (c mX (cu aVh (c mX (c afh (cl (cl (gs b0.b jY) nil) nil)))))))))
def uv:=qe (res (pu QP (pl (cu fL (c at5 (cu fL (cu fL (cu fL aWC))))) nil)))
abbrev uY:=uv.B
abbrev uZ:=lP.B->Option uY
def EN (g:uZ):Ct:=(179,FC lP (lf uv) g)
def dR:=qs (st (dp (cu KG (cu QR (cu aQm (us 8 (c (ac (Dd 7 11)) aPI))))) λv=>(pl (c (so aJn) (c cH (cu aaY (c zF (cu aw0 (c zF (c xB (cl (so (cl (gs v.1 jY) nil)) nil)))))))) (cu (nat 7) awV))))
def Ru:=qs (st (pr (cu KG (cu QR (cu aQm (us 8 (c (ac (Dd 7 11)) aPN))))) (pl (c (so aJn) (c cH (cu aaY (c zF (cu aw0 (c zF (c xB Ht))))))) (cu (nat 7) awV))))
abbrev kc:=((Nat×Int×Int×Bool)×tQ×Bool×lG×lG×aHF×NI×NI×NI×NI×NI×NI×NI×NI×NI×NI×NI)
def Bx {ρ:Type}(x:kc)(K:AX->St->Option ρ):Option ρ:=(λd=>K (.ex 0) (Ru.em (d.1,d.2.1,d.b.1,d.b.2.1,d.c.1,d.c.2.1,d.1.1,d.c.b))) x
def tf (vP:D5)(kE:uU)(Rv:nE)(d:dR.B):PL dR kc:=let bj:=d.2.1;let n6:=d.1.2;let n5:=d.2.2.2;let n1:=n5.2.2.2;let n8:=n1.2.2;let n2:=n8.2.2.2;let n7:=n2.2.2.2;let y0:=ws n6.2;let y1:=decide (n6.2<n6.1);ae y1 (ae (bb n6.2 d.1.1) (ae (ww bj.2.2 bj.2.2) (opt (Rv ((n1.1 y0,(n1.2.1 y0,n8.1 y0,n8.2.1 y0,n8.2.2.1 y0),(n2.1 y0,n2.2.1 y0,n2.2.2.1 y0),n7.1 y0,n7.2.1 y0,n7.2.2 y0),n5.1,n5.2.1,n5.2.2.1,d.2.2.1,bj,n1)) λaj=>let n3:=aj.1.2.2.2.2;let n9:=n3.2.2.2;opt (vP (λx=>0) aj.1.1 aj.1.2.1 aj.1.2.2.1 aj.1.2.2.2.1 n3.1 n3.2.1 n3.2.2.1 n9.1 n9.2.1 n9.2.2.1 n9.2.2.2) λaD=>opt (kE aD (n1.1 y0) aj.2) λbC=>let n4:=bC.1.2.2.2.2;let aT:=n4.2.2.2;ae (bb n6.2 bj.2.2) (ae (true&&wd (0+y0*11+11) (d.1.1*11+0)) (ret (wr ((d.1.1,n6.1,wI (n6.2+1)),bj,bC.2,n5.1,n5.2.1,n5.2.2.1,λj=>bif ww j y0 then bC.1.1 else n1.1 j,λj=>bif ww j y0 then bC.1.2.1 else n1.2.1 j,λj=>bif ww j y0 then bC.1.2.2.1 else n8.1 j,λj=>bif ww j y0 then bC.1.2.2.2.1 else n8.2.1 j,λj=>bif ww j y0 then n4.1 else n8.2.2.1 j,λj=>bif ww j y0 then n4.2.1 else n2.1 j,λj=>bif ww j y0 then n4.2.2.1 else n2.2.1 j,λj=>bif ww j y0 then aT.1 else n2.2.2.1 j,λj=>bif ww j y0 then aT.2.1 else n7.1 j,λj=>bif ww j y0 then aT.2.2.1 else n7.2.1 j,λj=>bif ww j y0 then aT.2.2.2 else n7.2.2 j))) no) no) no) no) (ret (wn ((d.1.1,n6.1,n6.2,y1),d.2)))
def th:=bD (tf su lN gL) 2000
def vf (eH:LT dR kc)(x:lP.B):Pg uY:=ae (ww x.1.2.2 x.1.2.2) (opt (eH ((x.1.2.2,wl x.1.2.2,0),x)) λd=>ret (d.2.2.1,d.1.1,d.2.2.2.2.2.2)) no
def lQ:=λx=>(vf th x).val
abbrev pg:=D5×uU×nE×(LT dR kc)
def vh (p:pg):KK:=⟨[QB p.1,GP p.2.1,sZ p.b.1],⟨[⟨1,(rg 3 8 (rg 14 20 [])),[]⟩],[fW 1 8 dR Bx p.b.2],[7,1],[],(some ⟨0,(rg 0 34 []),[]⟩)⟩,8,179⟩
theorem Pw (p:pg):LI (vh p) 1 dR Bx (tf p.1 p.2.1 p.b.1):=λ_ d c K=>by kernel_rfl
theorem Vf (p:pg):D2 (vh p) lP (lf uv) λb=>vf p.b.2 b:=λb=>by kernel_rfl
abbrev vi:pg:=(su,lN,gL,th)
theorem Vg [ax]:SC (EN lQ):=sc (kS (k:=vh vi) (.c ac1 (.c M8 (.c Bw (.nil _)))) [1] [] ⟨kL (Pw vi),trivial⟩ trivial (Vf vi))
def lR:=qa (pu (cu KG (cu QR (cu aP3 nil))) (cd aPR λb0=>(c xx (cu ar5 (c Eb (cl (cl (gs b0.b jY) nil) nil))))))
def uw:=qe (res (pu QP (pl (cu fL (c at5 aWC)) nil)))
abbrev vj:=uw.B
abbrev vk:=lR.B->Option vj
def EO (g:vk):Ct:=(179,FC lR (lf uw) g)
def dS:=qs (st (dp (cu KG (cu QR (cu aP3 (us 8 (c (ac (Dd 4 11)) aPI))))) λv=>(pl (c (so aPR) (c cH (cu aaY (c (so Eb) (cl (so (cl (gs v.1 jY) nil)) nil))))) (cu rq6 awV))))
def Rw:=qs (st (pr (cu KG (cu QR (cu aP3 (us 8 (c (ac (Dd 4 11)) aPN))))) (pl (c (so aPR) (c cH (cu aaY (c (so Eb) Ht)))) (cu rq6 awV))))
abbrev kd:=((Nat×Int×Int×Bool)×tQ×Bool×D9×NI×NI×NI×NI×NI×NI×NI×NI×NI×NI×NI)
def By {ρ:Type}(x:kd)(K:AX->St->Option ρ):Option ρ:=(λd=>K (.ex 0) (Rw.em (d.1,d.2.1,d.b.1,d.b.2.1,d.1.1,d.c))) x
def ti (vP:D5)(kE:uU)(Vh:pf)(d:dS.B):PL dS kd:=let n6:=d.1.2;let n4:=d.2.2.2.2;let n1:=n4.2.2.2;let n9:=n1.2.2;let n5:=n9.2.2;let y0:=ws n6.2;let y1:=decide (n6.2<n6.1);ae y1 (ae (bb n6.2 d.1.1) (opt (Vh ((n4.1 y0,(n4.2.1 y0,n4.2.2.1 y0,n1.1 y0,n1.2.1 y0),(n9.1 y0,n9.2.1 y0,n5.1 y0),n5.2.1 y0,n5.2.2.1 y0,n5.2.2.2 y0),d.2.2.2.1,d.2.2.1)) λaj=>let n2:=aj.1.2.2.2.2;let n7:=n2.2.2.2;opt (vP (λx=>0) aj.1.1 aj.1.2.1 aj.1.2.2.1 aj.1.2.2.2.1 n2.1 n2.2.1 n2.2.2.1 n7.1 n7.2.1 n7.2.2.1 n7.2.2.2) λaD=>opt (kE aD (n4.1 y0) aj.2) λbC=>let n3:=bC.1.2.2.2.2;let n8:=n3.2.2.2;ae (bb n6.2 d.2.1.2.2) (ae (true&&wd (0+y0*11+11) (d.1.1*11+0)) (ret (wr ((d.1.1,n6.1,wI (n6.2+1)),d.2.1,bC.2,d.2.2.2.1,λj=>bif ww j y0 then bC.1.1 else n4.1 j,λj=>bif ww j y0 then bC.1.2.1 else n4.2.1 j,λj=>bif ww j y0 then bC.1.2.2.1 else n4.2.2.1 j,λj=>bif ww j y0 then bC.1.2.2.2.1 else n1.1 j,λj=>bif ww j y0 then n3.1 else n1.2.1 j,λj=>bif ww j y0 then n3.2.1 else n9.1 j,λj=>bif ww j y0 then n3.2.2.1 else n9.2.1 j,λj=>bif ww j y0 then n8.1 else n5.1 j,λj=>bif ww j y0 then n8.2.1 else n5.2.1 j,λj=>bif ww j y0 then n8.2.2.1 else n5.2.2.1 j,λj=>bif ww j y0 then n8.2.2.2 else n5.2.2.2 j))) no) no) no) (ret (wn ((d.1.1,n6.1,n6.2,y1),d.2)))
def tk:=bD (ti su lN iZ) 2000
def vm (eH:LT dS kd)(x:lR.B):Pg vj:=ae (ww x.1.2.2 x.1.2.2) (opt (eH ((x.1.2.2,wl x.1.2.2,0),x)) λd=>ret (d.2.2.1,d.1.1,d.2.2.2.2)) no
def lS:=λx=>(vm tk x).val
abbrev ph:=D5×uU×pf×(LT dS kd)
def vn (p:ph):KK:=⟨[QB p.1,GP p.2.1,uW p.b.1],⟨[⟨1,(rg 3 8 (rg 14 20 [])),[]⟩],[fW 1 5 dS By p.b.2],[4,1],[],(some ⟨0,(rg 0 34 []),[]⟩)⟩,5,179⟩
theorem Px (p:ph):LI (vn p) 1 dS By (ti p.1 p.2.1 p.b.1):=λ_ d c K=>by kernel_rfl
theorem Vi (p:ph):D2 (vn p) lR (lf uw) λb=>vm p.b.2 b:=λb=>by kernel_rfl
abbrev vo:ph:=(su,lN,iZ,tk)
theorem Vj [ax]:SC (EO lS):=sc (kS (k:=vn vo) (.c ac1 (.c M8 (.c EM (.nil _)))) [1] [] ⟨kL (Px vo),trivial⟩ trivial (Vi vo))
def nh:=qa (dp (cu KG (cu QR (cl aPq nil))) λv=>(cd aJm λb0=>(c xx (c (cl (gs v.1 mY) nil) (cl (cl (gs b0.b jY) nil) nil)))))
def wY:=qe (res (pu QP (pl (cu fL (c at5 (cu fL aQq))) nil)))
abbrev xN:=wY.B
abbrev xO:=nh.B->Option xN
def Hc (g:xO):Ct:=(112,vE 2 [.i .i64,.i .i64,.i .i64,.i .i64,.i .i64,.i .i64,.i .i64,.i .i64,.i .i64,.i .i64] (FC nh (lf wY) g))
def eB:=qs (st (dp (cu KG (us 3 (cu aCX (us 3 (c aPq (c ai aPB)))))) λv=>(pl (cd (so aJm) λb0=>(c cH (c (so (cl (gs v.1.1 mY) nil)) (cl (so (cl (gs b0.b jY) nil)) (cu aaY nil))))) (cu rq7 awV))))
def Vk:=qs (st (pr (cu KG (us 3 (cu aCX (us 3 (c aPq (c ai aJf)))))) (pl (c (so aJm) (c cH (c uO (cl akA (cu aaY nil))))) (cu rq7 awV))))
abbrev lT:=(aMk×tQ×Bool×aMj×NI×NI×NI×NI×NI×NI×NI×NI×NI×NI×NI)
def EP {ρ:Type}(x:lT)(K:AX->St->Option ρ):Option ρ:=(λd=>K (.ex 0) (Vk.em (d.1,d.2.1,d.b.1,(d.1.1.1,d.b.2.1),d.2.1.b,d.c))) x
def vp (Vl:vk)(d:eB.B):PL eB lT:=let aT:=d.2.1;let n6:=d.1.2;let n1:=d.2.2.2;let n4:=n1.1.2.2.2.2;let n3:=n1.2.2.2.2.2;let n9:=n3.2.2.2;let y0:=ws n6.2;let y1:=aT.2.2*11;let y2:=decide (n6.2<n6.1);ae y2 (ae (bb n6.2 d.1.1.1) (ae (ww aT.2.2 aT.2.2) (opt (Vl (aT,d.2.2.1,((n1.1.1 y0,n1.1.2.1 y0,n1.1.2.2.1 y0,n1.1.2.2.2.1 y0),(n4.1 y0,n4.2.1 y0,n4.2.2.1 y0),n4.2.2.2.1 y0,n4.2.2.2.2.1 y0,n4.2.2.2.2.2 y0),n1.2)) λaj=>let n7:=aj.2.2.2;let n5:=aj.2.1;let n2:=n7.2.2.2;let n8:=n2.2.2.2;let y0:=n5*11+0;ae (true&&ww y0 y1&&true) (ae (true&&wd (0+y0) (y1+0)) (ret (wr ((d.1.1,n6.1,wI (n6.2+1)),aT,aj.1,n1.1,λj=>bif true&&v6 j (0+n5) then aj.2.2.1 j else n1.2.1 j,λj=>bif true&&v6 j (0+n5) then n7.1 j else n1.2.2.1 j,λj=>bif true&&v6 j (0+n5) then n7.2.1 j else n1.2.2.2.1 j,λj=>bif true&&v6 j (0+n5) then n7.2.2.1 j else n1.2.2.2.2.1 j,λj=>bif true&&v6 j (0+n5) then n2.1 j else n3.1 j,λj=>bif true&&v6 j (0+n5) then n2.2.1 j else n3.2.1 j,λj=>bif true&&v6 j (0+n5) then n2.2.2.1 j else n3.2.2.1 j,λj=>bif true&&v6 j (0+n5) then n8.1 j else n9.1 j,λj=>bif true&&v6 j (0+n5) then n8.2.1 j else n9.2.1 j,λj=>bif true&&v6 j (0+n5) then n8.2.2.1 j else n9.2.2.1 j,λj=>bif true&&v6 j (0+n5) then n8.2.2.2 j else n9.2.2.2 j))) no) no) no) no) (ret (wn ((d.1.1,n6.1,n6.2,y2),d.2)))
def vr:=bD (vp lS) 2000
def xP (eH:LT eB lT)(x:nh.B):Pg xN:=ae (ww x.1.1 x.1.1) (ae (ww x.2.1.2.2 x.2.1.2.2) (opt (eH ((x.1,wl x.1.1,0),x.2)) λd=>ret (d.2.2.1,d.2.1.2.2,d.2.2.2.2)) no) no
def ni:=λx=>(xP vr x).val
abbrev qA:=pf×vk×(LT eB lT)
def xQ (p:qA):KK:=⟨[uW p.1,EO p.2.1],⟨[⟨2,(1::2::3::5::6::7::rg 11 8 []),[]⟩],[fW 2 4 eB EP p.b],[3,1],[],(some ⟨0,(rg 0 19 []),[]⟩)⟩,4,112⟩
theorem TS (p:qA):LI (xQ p) 2 eB EP (vp p.2.1):=λ_ d c K=>by kernel_rfl
theorem Zc (p:qA):D2 (xQ p) nh (lf wY) λb=>xP p.b b:=λb=>by kernel_rfl
abbrev xR:qA:=(iZ,lS,vr)
theorem Zd [ax]:SC (Hc ni):=sc (Sound.nil 2 [.i .i64,.i .i64,.i .i64,.i .i64,.i .i64,.i .i64,.i .i64,.i .i64,.i .i64,.i .i64]<|kS (k:=xQ xR) (.c EM (.c Vj (.nil _))) [2] [] ⟨kL (TS xR),trivial⟩ trivial (Zc xR))
def Yn:=qa (pl jc nil)
def HP:=qe E5
abbrev Yo:=HP.B
abbrev Yp:=Int->Option Yo
def Yq (g:Yp):Ct:=(204,FC Yn (lf HP) (λb=>g b))
def Kb (x0:Int):Pg Yo:=ret (x0 !=x0)
def wZ:=λx0=>(Kb x0).val
theorem atk:D0 [] 204 Yn (lf HP) λb=>Kb b:=λb=>by kernel_rfl
theorem atl [ax]:SC (Yq wZ):=s0 (.nil _) atk
def Rx:=qa (pl zE nil)
def En:=qe Hn
abbrev Ry:=En.B
abbrev ze:=Int->Int->Option Ry
def FY (g:ze):Ct:=(143,FC Rx (lf En) (λb=>g b.1 b.2))
def FZ (w7:Yp)(x0:Int)(x1:Int):Pg Ry:=opt (w7 x0) λd=>opt (w7 x1) λaj=>ae d (ae aj (ret 0) (ret (-1))) (ae aj (ret 1) (ae (decide (x0<x1)) (ret (-1)) (ae (decide (x0>x1)) (ret 1) (ret 0))))
def mC:=λx0 x1=>(FZ wZ x0 x1).val
theorem anM:∀w7,D0 [Yq w7] 143 Rx (lf En) λb=>FZ w7 b.1 b.2:=λ_ b=>by kernel_rfl
theorem Rz [ax]:SC (FY mC):=s0 (.c atl (.nil _)) (anM wZ)
def Bz:=qa (dp (c JA awY) λv=>(c (cl (gs v.1.1 oK) nil) (cl (cl (gs v.2.1 oK) nil) nil)))
def rC:=qe aVI
abbrev BA:=rC.B
abbrev BB:=Nat->Nat->NI->NI->Bool->Bool->Option BA
def BC (g:BB):Ct:=(144,vE 1 [.i .i64] (vE 0 [.i .i64] (FC Bz (lf rC) (λb=>g b.1.1.1 b.1.2.1 b.2.1 b.b b.1.1.2 b.1.b))))
def dC:=qs (st (dp (c JA (c H9 (us 7 (c JA (c ai aI9))))) λv=>(pl (c (so (cl (gs v.1.1 oK) nil)) (cl (so (cl (gs v.2.1.1 oK) nil)) nil)) nil)))
def xA:=qs (st (pr (us 4 aVi) (pl (c JD akw) nil)))
def Lj:=qs (st (pr (c JA (c H9 (us 7 (c JA (c ai aJh))))) (pl (c JD akw) nil)))
abbrev jd:=xA.B⊕(((Nat×Bool)×(Nat×Bool)×(Nat×Bool)×Int×Int×Bool)×NI×NI)
def Ar {ρ:Type}(x:jd)(K:AX->St->Option ρ):Option ρ:=(t8 (λd=>K .ret (xA.em d)) (λd=>K (.ex 0) (Lj.em (d.1,(d.1.1.1,d.2.1),d.1.2.1.1,d.b)))) x
def qv (oZ:ze)(d:dC.B):PL dC jd:=let n1:=d.1.2;let n2:=n1.2.2;let y0:=ws n2.2;let y1:=decide (n2.2<n2.1);ae y1 (ae (bb n2.2 n1.2.1.1) (ae (decide (n2.2>=wl n1.1.1)) (ret (wn (wr (1,(d.1.1.1,d.2.1),n1.1.1,d.2.2)))) (ae (bb n2.2 n1.1.1) (opt (oZ (d.2.1 y0) (d.2.2 y0)) λaj=>ae (aj !=0) (ret (wn (wr (aj,(d.1.1.1,d.2.1),n1.1.1,d.2.2)))) (ret (wr ((d.1.1,n1.1,n1.2.1,n2.1,wI (n2.2+1)),d.2)))) no)) no) (ret (wn (wn ((d.1.1,n1.1,n1.2.1,n2.1,n2.2,y1),d.2))))
def qw:=bD (qv mC) 2000
def tp (eH:LT dC jd)(x0:Nat)(x1:Nat)(x2:Nat->Int)(x3:Nat->Int)(w0:Bool)(w1:Bool):Pg BA:=ae (ww x0 x0) (ae (ww x1 x1) (opt (eH (((x0,w0),(x1,w1),(x0,w0),wl x0,0),x2,x3)) λx=>sum x (λd=>ret d.1) λd=>ae (decide (wl d.1.1.1<wl d.1.2.1.1)) (ret (-1)) (ret 0)) no) no
def gM:=λx0 x1 x2 x3 w0 w1=>(tp qw x0 x1 x2 x3 w0 w1).val
abbrev nF:=ze×(LT dC jd)
def tt (p:nF):KK:=⟨[FY p.1],⟨[⟨2,(rg 2 7 (rg 12 24 [])),[]⟩],[fW 2 2 dC Ar p.2],[],[],(some ⟨0,(rg 0 4 (rg 5 31 [])),[]⟩)⟩,2,144⟩
theorem Nc (p:nF):LI (tt p) 2 dC Ar (qv p.1):=λ_ d c K=>by kernel_rfl
theorem RB (p:nF):D2 (tt p) Bz (lf rC) λb=>tp p.2 b.1.1.1 b.1.2.1 b.2.1 b.b b.1.1.2 b.1.b:=λb=>by kernel_rfl
abbrev tu:nF:=(mC,qw)
theorem RC [ax]:SC (BC gM):=sc (Sound.nil 1 [.i .i64]<|Sound.nil 0 [.i .i64]<|kS (k:=tt tu) (.c Rz (.nil _)) [2] [] ⟨kL (Nc tu),trivial⟩ trivial (RB tu))
def DJ:=qa (pl (c aJx Ea) nil)
def Py:=qe Hn
abbrev aju:=Py.B
abbrev Jq:=DJ.B->Option aju
def TT (g:Jq):Ct:=(96,FC DJ (lf Py) g)
def TU (oZ:ze)(nG:BB)(x:DJ.B):Pg aju:=let n2:=x.2.2.2.2;let n1:=x.1.2.2.2;opt (oZ x.1.1 x.2.1) λd=>ae (d !=0) (ret d) (opt (nG 8 8 (cr x.1.2.1 [n1.2.2.2.2.2,n1.2.2.2.2.1,n1.2.2.2.1,n1.2.2.1,n1.2.1,n1.1,x.1.2.2.1,x.1.2.1]) (cr x.2.2.1 [n2.2.2.2.2.2,n2.2.2.2.2.1,n2.2.2.2.1,n2.2.2.1,n2.2.1,n2.1,x.2.2.2.1,x.2.2.1]) false false) λd=>ret d)
def ux:=λx=>(TU mC gM x).val
theorem aCg:∀oZ nG,D0 [FY oZ,BC nG] 96 DJ (lf Py) λb=>TU oZ nG b:=λ_ _ b=>by kernel_rfl
theorem ajv [ax]:SC (TT ux):=s0 (.c Rz (.c RC (.nil _))) (aCg mC gM)
def ch:=qa (dp (c aPr (cl aJx (cu aPD nil))) λv=>(cl (cl (gs v.1.1 aA) nil) nil))
def eG:=qe (res (pl aPK (pu Zm nil)))
abbrev eM:=eG.B
abbrev jj:=ch.B->Option eM
def jk (g:jj):Ct:=(95,vE 0 [.i .i64,.i .i64,.i .i64,.i .i64,.i .i64,.i .i64,.i .i64,.i .i64,.i .i64] (FC ch (lf eG) g))
def aZ:=qs (st (dp (c aPr (us 1 (cu aPD (us 1 (cu aHK (us 3 (c ai (c ai (cl ai (us 29 aVj)))))))))) λv=>(pl (c (so (cl (gs v.1.1 aA) nil)) aWk) nil)))
def pY:=qs (st (pr (c aPr (us 1 (cu aPD (us 1 (cu aHK (us 3 (c ai (c ai (c ai (us 4 (c ai (c ai (cl ab (us 22 aVj)))))))))))))) (pl (c Hr aWk) nil)))
abbrev bW:=(((Nat×Bool)×Int×Int×Int×Bool)×dk×Int×Int×Int×Int×Int×Int×Int×Int×Int)
def iQ {ρ:Type}(x:bW)(K:AX->St->Option ρ):Option ρ:=(λd=>K (.ex 0) (pY.em ((d.1.1,d.1.2.1,d.1.b.1,d.1.b.2.1,d.1.b),(d.1.1.1,d.2.1),d.b))) x
def ep (DK:Jq)(d:aZ.B):PL aZ bW:=let n2:=d.1.2.2;let n1:=d.2.1.2.2.2;let y0:=wI (Int.fdiv (wU (wI (n2.1+n2.2))) 2);let y1:=ws y0;let y2:=decide (n2.1<n2.2);ae y2 (ae (bb y0 d.1.1.1) (opt (DK ((d.2.1.1 y1,d.2.1.2.1 y1,d.2.1.2.2.1 y1,n1.1 y1,n1.2.1 y1,n1.2.2.1 y1,n1.2.2.2.1 y1,n1.2.2.2.2.1 y1,n1.2.2.2.2.2 y1),d.2.2)) λaj=>ae (decide (aj<0)) (ret (wr ((d.1.1,d.1.2.1,wI (y0+1),n2.2),d.2))) (ret (wr ((d.1.1,d.1.2.1,n2.1,y0),d.2)))) no) (ret (wn ((d.1.1,d.1.2.1,n2.1,n2.2,y2),d.2)))
def eu:=bD (ep ux) 2000
def eN (DK:Jq)(eH:LT aZ bW)(x:ch.B):Pg eM:=let y0:=wl x.1.1.1;ae (ww x.1.1.1 x.1.1.1) (opt (eH ((x.1.1,y0,0,y0),x.2,x.1.2)) λd=>let n2:=d.1.2.2.1;let n1:=d.2.1.2.2.2;let y0:=ws n2;ae (decide (n2<d.1.2.1)) (ae (bb n2 d.1.1.1) (opt (DK ((d.2.1.1 y0,d.2.1.2.1 y0,d.2.1.2.2.1 y0,n1.1 y0,n1.2.1 y0,n1.2.2.1 y0,n1.2.2.2.1 y0,n1.2.2.2.2.1 y0,n1.2.2.2.2.2 y0),d.2.2)) λaj=>ret (n2,aj==0)) no) (ret (n2,false))) no
def cj:=λx=>(eN ux eu x).val
abbrev dh:=Jq×(LT aZ bW)
def eO (p:dh):KK:=⟨[TT p.1],⟨[⟨3,(1::3::5::6::7::rg 11 29 [48]),[]⟩],[fW 3 1 aZ iQ p.2],[],[],(some ⟨0,(rg 0 6 (rg 8 41 [])),[]⟩)⟩,1,95⟩
theorem pP (p:dh):LI (eO p) 3 aZ iQ (ep p.1):=λ_ d c K=>by kernel_rfl
theorem qK (p:dh):D2 (eO p) ch (lf eG) λb=>eN p.1 p.2 b:=λb=>by kernel_rfl
abbrev eP:dh:=(ux,eu)
theorem qL [ax]:SC (jk cj):=sc (Sound.nil 0 [.i .i64,.i .i64,.i .i64,.i .i64,.i .i64,.i .i64,.i .i64,.i .i64,.i .i64]<|kS (k:=eO eP) (.c ajv (.nil _)) [3] [] ⟨kL (pP eP),trivial⟩ trivial (qK eP))
def rD:=qa (pr (cu Zq Ea) (cd akx λb0=>(cl (cl (gs b0.b.1 aA) nil) nil)))
def N4:=qe (res (pu mW (pl (cl (zD akx) Zm) nil)))
def aj3:=qe (res (pr ab (pr (cl (zD (a 5 lB (c gi (c (gc (Dd 2 9)) nN)))) aMu) (cl aa3 nil))))
abbrev w8:=N4.B⊕(Bool×bN×NI×NI×NI×NI×NI×NI×NI×NI×NI)
def Yr:w8->T:=ls (lf N4) (λd=>lf aj3 (d.1,d.2.1,d.2.1.b.1,d.b))
abbrev Kc:=rD.B->Option w8
def Ys (g:Kc):Ct:=(58,FC rD Yr g)
def CE (di:jj)(iF:sL)(cY:iA)(x:rD.B):Pg w8:=let bj:=x.2.2;let n5:=x.1.2;let n4:=bj.2.2.2;let n3:=x.2.1;let n9:=n3.1.2;let n7:=n3.2.2;let n1:=n5.2.2.2;let n6:=n1.2.2;let y0:=wI (n3.1.1+1);let y1:=ww n7.1 n7.1;ae (decide (x.1.1<=n7.2)) (ret (wr ((y0,wI (n9.1+1),n9.2),n3.2))) (ae y1 (opt (di (((n7.1,true),x.1),bj)) λd=>ae y1 (opt (iF n7.1 d.1 bj.1 bj.2.1 bj.2.2.1 n4.1 n4.2.1 n4.2.2.1 n4.2.2.2.1 n4.2.2.2.2.1 n4.2.2.2.2.2 (λj=>bif ww j 0 then x.1.1 else x.1.1) (λj=>bif ww j 0 then n5.1 else n5.1) (λj=>bif ww j 0 then n5.2.1 else n5.2.1) (λj=>bif ww j 0 then n5.2.2.1 else n5.2.2.1) (λj=>bif ww j 0 then n1.1 else n1.1) (λj=>bif ww j 0 then n1.2.1 else n1.2.1) (λj=>bif ww j 0 then n6.1 else n6.1) (λj=>bif ww j 0 then n6.2.1 else n6.2.1) (λj=>bif ww j 0 then n6.2.2 else n6.2.2) 1 true true) λd=>let n8:=d.2.2;let n2:=n8.2.2.2;let aT:=n2.2.2;ae (decide (wl d.1<=n3.2.1)) (ret (wn (true,((y0,n9),n3.2.1,d.1,n7.2),d.2))) (ae (bb 0 d.1) (ae (ww d.1 d.1) (opt (cY d.1 0 1 d.2.1 n8.1 n8.2.1 n8.2.2.1 n2.1 n2.2.1 aT.1 aT.2.1 aT.2.2 true) λaj=>ret (wn (!(d.2.1 0==x.1.1&&(n8.1 0==n5.1&&(n8.2.1 0==n5.2.1&&(n8.2.2.1 0==n5.2.2.1&&(n2.1 0==n1.1&&(n2.2.1 0==n1.2.1&&(aT.1 0==n6.1&&(aT.2.1 0==n6.2.1&&(aT.2.2 0==n6.2.2&&true)))))))&&true)),((y0,n9.1,wI (n9.2.1+1),n9.2.2),n3.2.1,aj.1,n7.2),aj.2))) no) no)) no) no)
def oG:=λx=>(CE cj cV bU x).val
theorem atm:∀di DK iF cY,D0 [jk di,TT DK,sM iF,ml cY] 58 rD Yr λb=>CE di iF cY b:=λ_ _ _ _ b=>by kernel_rfl
theorem atn [ax]:SC (Ys oG):=s0 (.c qL (.c ajv (.c Fh (.c sO (.nil _))))) (atm cj ux cV bU)
def oH:=qa (pr (cu Zq jc) (cd akx λb0=>(cl (cl (gs b0.b.1 aA) nil) nil)))
def apc:=qe (res (pr (ac (Dd 2 9)) (pr (cl (zD (a 5 lB (c gi (c (gc (Dd 3 9)) nN)))) aMu) (c aa3 (cl aa3 nil)))))
abbrev w9:=(Nat×bN×dk×NI×NI×NI×NI×NI×NI×NI×NI×NI)
def Yt:w9->T:=λd=>lf apc (d.1,d.2.1,(d.1,d.b.1),d.2.1.b.1,d.b.2)
abbrev Kd:=oH.B->Option w9
def Yu (g:Kd):Ct:=(108,FC oH Yt g)
def gJ:=qs (st (pr (cu Zq (c ai (us 3 (cl ai (us 58 nil))))) (pl (cd (so akx) λb0=>(cl (so (cl (gs b0.b.1 aA) nil)) nil)) nil)))
def ahx:=qs (st (pr (cu Zq (c ai (us 3 (c ai (us 1 (c ai (cu Zq (cu Zq (cu aPW (c aPs (c ai (c ab (cu Ho (cu Zq (cu Zq (cu aPW (c aPs (c ai (c (ac (H' (pu AD (pl aVH iv)))) (c (ac (H' (pu AD (pl aVH AD)))) (c ai (c ai (c ab aVg))))))))))))))))))))))) (pl (c (so akx) (cl Hr nil)) nil)))
def ahy:=qs (st (pr (cu Zq (c ai (us 3 (c ai (us 1 (c ai (cu Zq (cu Zq (cu aPW (c aPs (c ai (cl ab (cu mW (xs 10 (cu mW (us 38 nil)))))))))))))))) (pl (c (so akx) (cl Hr nil)) nil)))
abbrev o6:=((Int×Int×Nat×Int×Bool×Nat×Int×Bool)×((Int×Int×Int×Int×Int)×Int×Int)×NI×NI×NI×NI×NI×NI×NI×NI×NI)⊕((Int×Int×Nat×Int×Bool)×((Int×Int×Int×Int×Int)×Int×Int)×NI×NI×NI×NI×NI×NI×NI×NI×NI)
def RD {ρ:Type}(x:o6)(K:AX->St->Option ρ):Option ρ:=(t8 (λd=>K (.ex 0) (ahx.em ((d.1.1,d.1.2.1,d.1.2.1,d.1.b.1,d.1.b.2.1,d.1.c.1,d.1.b.1,d.1.2.1,d.1.c.2.1,d.1.c.2.1,d.1.c.b.1,d.1.1,d.1.c.b.2,d.1.c.b.2),(d.2.1.1,d.2.1.2.1,d.1.b.1,d.2.1.b),d.1.b.1,d.b))) (λd=>K (.ex 0) (ahy.em ((d.1.1,d.1.2.1,d.1.2),(d.2.1.1,d.2.1.2.1,d.1.b.1,d.2.1.b),d.1.b.1,d.b)))) x
def zf (d:gJ.B):PL gJ o6:=let n3:=d.1.2;let n2:=d.2.1.2.2;let n1:=(d.2.1.1,d.2.1.2.1,n2.2);let y0:=ws n3;let y1:=wl n2.1;let y2:=decide (n3<y1);let y3:=decide (d.2.2.1 y0<=d.1.1);ae y2 (ae (bb n3 n2.1) (ae y3 (ret (wr ((d.1.1,wI (n3+1)),d.2))) (ret (wn (wr ((d.1.1,n3,n2.1,y1,y2,y0,d.2.2.1 y0,y3),n1,d.2.2))))) no) (ret (wn (wn ((d.1.1,n3,n2.1,y1,y2),n1,d.2.2))))
def zh:=bD (zf) 2000
def CF (ud:m6)(cY:iA)(eH:LT gJ o6)(x:oH.B):Pg w9:=ae (ww x.2.1.2.2.1 x.2.1.2.2.1) (opt (eH ((x.1,0),x.2)) λx=>sum x (λd=>let n9:=d.2.2;let n6:=d.2.1;let n5:=d.1.2;let n1:=n9.2.2.2;let n3:=n1.2.2.2;let y0:=ws n5.1;ae (KI n5.1 n5.2.1) (ae (ww y0 y0) (opt (ud y0 n9.1 n9.2.1 n9.2.2.1 n1.1 n1.2.1 n1.2.2.1 n3.1 n3.2.1 n3.2.2 false) λaj=>ae (ww n5.2.1 n5.2.1) (opt (cY n5.2.1 0 n5.1 n9.1 n9.2.1 n9.2.2.1 n1.1 n1.2.1 n1.2.2.1 n3.1 n3.2.1 n3.2.2 true) λaD=>ret (aj.1,((n6.1.1,n6.1.2.1,n6.1.2.2.1,n6.1.2.2.2.1,wI (n6.1.2.2.2.2+n5.1)),n6.2.1,aD.1,if d.1.1>n6.2.2 then d.1.1 else n6.2.2),aj.2,aD.2)) no) no) no) λd=>let aT:=d.2.2;let n8:=d.2.1;let n7:=d.1.2;let n2:=aT.2.2.2;let n4:=n2.2.2.2;let y0:=ws n7.1;ae (KI n7.1 n7.2.1) (ae (ww y0 y0) (opt (ud y0 aT.1 aT.2.1 aT.2.2.1 n2.1 n2.2.1 n2.2.2.1 n4.1 n4.2.1 n4.2.2 false) λaj=>ae (ww n7.2.1 n7.2.1) (opt (cY n7.2.1 0 n7.1 aT.1 aT.2.1 aT.2.2.1 n2.1 n2.2.1 n2.2.2.1 n4.1 n4.2.1 n4.2.2 true) λaD=>ret (aj.1,((n8.1.1,n8.1.2.1,n8.1.2.2.1,n8.1.2.2.2.1,wI (n8.1.2.2.2.2+n7.1)),n8.2.1,aD.1,if d.1.1>n8.2.2 then d.1.1 else n8.2.2),aj.2,aD.2)) no) no) no) no
def mD:=λx=>(CF fE bU zh x).val
abbrev CG:=m6×iA×(LT gJ o6)
def Ke (p:CG):KK:=⟨[tY p.1,ml p.2.1],⟨[⟨2,(2::3::4::rg 6 9 (rg 25 39 (rg 15 10 []))),[]⟩],[fW 2 2 gJ RD p.b],[],[],(some ⟨0,(rg 0 4 (rg 5 59 [])),[]⟩)⟩,2,108⟩
theorem aj4 (p:CG):LI (Ke p) 2 gJ RD (zf):=λ_ d c K=>by kernel_rfl
theorem ato (p:CG):D2 (Ke p) oH Yt λb=>CF p.1 p.2.1 p.b b:=λb=>by kernel_rfl
abbrev Kf:CG:=(fE,bU,zh)
theorem atp [ax]:SC (Yu mD):=sc (kS (k:=Ke Kf) (.c Gs (.c sO (.nil _))) [2] [] ⟨kL (aj4 Kf),trivial⟩ trivial (ato Kf))
def Nd:=qa (pr (cl (aa aJu) (cu aP (cu QR (cu (app 2 1) nil)))) (cu (cu (gc (ccl (pu (nat 194) (pu rq7 (pu wA AD))))) nil) (c nN (c nN (cu (cu (gp 4 1) nil) bG)))))
def Ba:=qe (res (pr ai (pl (cu fL (cu fL aPQ)) nil)))
abbrev Nf:=Ba.B
abbrev Ng:=Int->Int->Int->Int->Int->Int->Int->Int->Int->Bool->Option Nf
def Nh (g:Ng):Ct:=(195,FC Nd (lf Ba) (λb=>g b.1.1 b.1.2.1 b.1.b.1 b.1.b.2.1 b.1.c.1 b.1.c.2.1 b.1.c.b b.2.1 b.b.1 b.b.2))
def CI (ao:BO)(x0:Int)(x1:Int)(x2:Int)(x3:Int)(x4:Int)(x5:Int)(x6:Int)(x7:Int)(x8:Int)(x9:Bool):Pg Nf:=let y0:=wI (x7+1);let y1:=wI (x0*1073741824);let y2:=wI (x5*1073741824);let y3:=wI (x4*1073741824);let y4:=wI (x6*1073741824);let y5:=wI (x2*1073741824);let y6:=wI (x1*1073741824);let y7:=wI (x3*1073741824);let y8:=bb y0 7;let y9:=y0==1;let Ah:=y0==4;let vu:=y0==6;let CJ:=y0==2;let CL:=y0==3;let xS:=y0==5;ae (bb x7 7) (ae (x7==6) (ae y8 (ae vu (opt (ao y4 y4 x8 600000000 x9) λd=>ret d) (ae xS (opt (ao y4 y2 x8 600000000 x9) λd=>ret d) (ae Ah (opt (ao y4 y3 x8 600000000 x9) λd=>ret d) (ae CL (opt (ao y4 y7 x8 600000000 x9) λd=>ret d) (ae CJ (opt (ao y4 y5 x8 600000000 x9) λd=>ret d) (ae y9 (opt (ao y4 y6 x8 600000000 x9) λd=>ret d) (opt (ao y4 y1 x8 600000000 x9) λd=>ret d))))))) no) (ae (x7==5) (ae y8 (ae vu (opt (ao y2 y4 x8 600000000 x9) λd=>ret d) (ae xS (opt (ao y2 y2 x8 600000000 x9) λd=>ret d) (ae Ah (opt (ao y2 y3 x8 600000000 x9) λd=>ret d) (ae CL (opt (ao y2 y7 x8 600000000 x9) λd=>ret d) (ae CJ (opt (ao y2 y5 x8 600000000 x9) λd=>ret d) (ae y9 (opt (ao y2 y6 x8 600000000 x9) λd=>ret d) (opt (ao y2 y1 x8 600000000 x9) λd=>ret d))))))) no) (ae (x7==4) (ae y8 (ae vu (opt (ao y3 y4 x8 600000000 x9) λd=>ret d) (ae xS (opt (ao y3 y2 x8 600000000 x9) λd=>ret d) (ae Ah (opt (ao y3 y3 x8 600000000 x9) λd=>ret d) (ae CL (opt (ao y3 y7 x8 600000000 x9) λd=>ret d) (ae CJ (opt (ao y3 y5 x8 600000000 x9) λd=>ret d) (ae y9 (opt (ao y3 y6 x8 600000000 x9) λd=>ret d) (opt (ao y3 y1 x8 600000000 x9) λd=>ret d))))))) no) (ae (x7==3) (ae y8 (ae vu (opt (ao y7 y4 x8 600000000 x9) λd=>ret d) (ae xS (opt (ao y7 y2 x8 600000000 x9) λd=>ret d) (ae Ah (opt (ao y7 y3 x8 600000000 x9) λd=>ret d) (ae CL (opt (ao y7 y7 x8 600000000 x9) λd=>ret d) (ae CJ (opt (ao y7 y5 x8 600000000 x9) λd=>ret d) (ae y9 (opt (ao y7 y6 x8 600000000 x9) λd=>ret d) (opt (ao y7 y1 x8 600000000 x9) λd=>ret d))))))) no) (ae (x7==2) (ae y8 (ae vu (opt (ao y5 y4 x8 600000000 x9) λd=>ret d) (ae xS (opt (ao y5 y2 x8 600000000 x9) λd=>ret d) (ae Ah (opt (ao y5 y3 x8 600000000 x9) λd=>ret d) (ae CL (opt (ao y5 y7 x8 600000000 x9) λd=>ret d) (ae CJ (opt (ao y5 y5 x8 600000000 x9) λd=>ret d) (ae y9 (opt (ao y5 y6 x8 600000000 x9) λd=>ret d) (opt (ao y5 y1 x8 600000000 x9) λd=>ret d))))))) no) (ae (x7==1) (ae y8 (ae vu (opt (ao y6 y4 x8 600000000 x9) λd=>ret d) (ae xS (opt (ao y6 y2 x8 600000000 x9) λd=>ret d) (ae Ah (opt (ao y6 y3 x8 600000000 x9) λd=>ret d) (ae CL (opt (ao y6 y7 x8 600000000 x9) λd=>ret d) (ae CJ (opt (ao y6 y5 x8 600000000 x9) λd=>ret d) (ae y9 (opt (ao y6 y6 x8 600000000 x9) λd=>ret d) (opt (ao y6 y1 x8 600000000 x9) λd=>ret d))))))) no) (ae y8 (ae vu (opt (ao y1 y4 x8 600000000 x9) λd=>ret d) (ae xS (opt (ao y1 y2 x8 600000000 x9) λd=>ret d) (ae Ah (opt (ao y1 y3 x8 600000000 x9) λd=>ret d) (ae CL (opt (ao y1 y7 x8 600000000 x9) λd=>ret d) (ae CJ (opt (ao y1 y5 x8 600000000 x9) λd=>ret d) (ae y9 (opt (ao y1 y6 x8 600000000 x9) λd=>ret d) (opt (ao y1 y1 x8 600000000 x9) λd=>ret d))))))) no))))))) no
def pQ:=λx0 x1 x2 x3 x4 x5 x6 x7 x8 x9=>(CI ky x0 x1 x2 x3 x4 x5 x6 x7 x8 x9).val
theorem ahz:∀ao,D0 [BP ao] 195 Nd (lf Ba) λb=>CI ao b.1.1 b.1.2.1 b.1.b.1 b.1.b.2.1 b.1.c.1 b.1.c.2.1 b.1.c.b b.2.1 b.b.1 b.b.2:=λ_ b=>by kernel_rfl
theorem ahA [ax]:SC (Nh pQ):=s0 (.c LZ (.nil _)) (ahz ky)
def Us:=qa (pu nil nil)
def F1:=qe (res (pu (aa (cu aVw (cu (gc (cf (fi .i64 (int 6000)))) (cu (gc (cf (fi .i64 (int (-2000))))) (cu (gc (cf (fi .i64 (int (-1500))))) (cu (gc (cf (fi .i64 (int (-6000))))) (cu (gc (cf (fi .i64 (int (-9000))))) (cu aVw (cu aVx (cu (gc (cf (fi .i64 (int 2500)))) (cu aJi (cu (gc (cf (fi .i64 (int (-2200))))) (cu (gc (cf (fi .i64 (int (-3800))))) (cu aM (cu aVx (cu aVy (cu (gc (cf (fi .i64 (int 900)))) (cu (gc (cf (fi .i64 (int (-1400))))) (cu (gc (cf (fi .i64 (int (-500))))) (cu (gc (cf (fi .i64 (int (-300))))) (cu aVz (cu aVy (cu aJi (cu (gc (cf (fi .i64 (int 1500)))) (cu (gc (cf (fi .i64 (int (-1700))))) (cu aVz (cu (gc (cf (fi .i64 (int 700)))) (cu (gc (cf (fi .i64 (int (-800))))) (cu aJi (cu aVA (cu (gc (cf (fi .i64 (int 4000)))) (cu (gc (cf (fi .i64 (int (-3000))))) (cu aJi (cu (gc (cf (fi .i64 (int 3500)))) (cu (gc (cf (fi .i64 (int (-1200))))) (cu aVA nil)))))))))))))))))))))))))))))))))))) (pu nil nil)))
abbrev HQ:=F1.B
abbrev HR:=Option HQ
def HS (g:HR):Ct:=(193,FC Us (lf F1) (λ_=>g))
def HT:Pg HQ:=ret ()
def ns:Option HQ:=(HT).val
theorem apd:D0 [] 193 Us (lf F1) λb=>HT:=λb=>by kernel_rfl
theorem Ut [ax]:SC (HS ns):=s0 (.nil _) apd
def RF:=qa (pr (cu aP Hq) bG)
def Eo:=qe aP7
abbrev RG:=Eo.B
abbrev RH:=Int->Int->Int->Bool->Option RG
def RI (g:RH):Ct:=(120,FC RF (lf Eo) (λb=>g b.1.1 b.1.2.1 b.1.b b.2))
def F2 (cP:vO)(jz:HR)(ao:BO)(aL:Ng)(aq:cB)(x0:Int)(x1:Int)(x2:Int)(x3:Bool):Pg RG:=let y0:=wI (x0+900000000);let y1:=wI (x1+1800000000);let y2:=wI (Int.tdiv y0 450000000);let y3:=wI (Int.tdiv y1 600000000);let y4:=if 3<y2 then 3 else y2;let y5:=if 5<y3 then 5 else y3;let y6:=wI (y4+1);let y7:=wI (y1-wI (y5*600000000));opt (cP x0 x1 x2) λd=>ae (!d) (ret ((0,1),x3)) (opt jz λd=>ae (bb y4 5) (ae (y4==4) (opt (aL 1000 4000 (-3000) 500 3500 (-1200) 1000 y5 y7 x3) λd=>ae (bb y6 5) (ae (y6==4) (opt (aL 1000 4000 (-3000) 500 3500 (-1200) 1000 y5 y7 d.2) λaj=>opt (ao d.1 aj.1 (wI (y0-wI (y4*450000000))) 450000000 aj.2) λd=>opt (aq d.1 3373259426 19327352832000 d.2) λd=>ret ((d.1,0),d.2)) (ae (y6==3) (opt (aL 500 1500 (-1700) 100 700 (-800) 500 y5 y7 d.2) λaj=>opt (ao d.1 aj.1 (wI (y0-wI (y4*450000000))) 450000000 aj.2) λd=>opt (aq d.1 3373259426 19327352832000 d.2) λd=>ret ((d.1,0),d.2)) (ae (y6==2) (opt (aL 950 900 (-1400) (-500) (-300) 100 950 y5 y7 d.2) λaj=>opt (ao d.1 aj.1 (wI (y0-wI (y4*450000000))) 450000000 aj.2) λd=>opt (aq d.1 3373259426 19327352832000 d.2) λd=>ret ((d.1,0),d.2)) (ae (y6==1) (opt (aL 2200 2500 500 (-2200) (-3800) 0 2200 y5 y7 d.2) λaj=>opt (ao d.1 aj.1 (wI (y0-wI (y4*450000000))) 450000000 aj.2) λd=>opt (aq d.1 3373259426 19327352832000 d.2) λd=>ret ((d.1,0),d.2)) (opt (aL 3000 6000 (-2000) (-1500) (-6000) (-9000) 3000 y5 y7 d.2) λaj=>opt (ao d.1 aj.1 (wI (y0-wI (y4*450000000))) 450000000 aj.2) λd=>opt (aq d.1 3373259426 19327352832000 d.2) λd=>ret ((d.1,0),d.2)))))) no) (ae (y4==3) (opt (aL 500 1500 (-1700) 100 700 (-800) 500 y5 y7 x3) λd=>ae (bb y6 5) (ae (y6==4) (opt (aL 1000 4000 (-3000) 500 3500 (-1200) 1000 y5 y7 d.2) λaj=>opt (ao d.1 aj.1 (wI (y0-wI (y4*450000000))) 450000000 aj.2) λd=>opt (aq d.1 3373259426 19327352832000 d.2) λd=>ret ((d.1,0),d.2)) (ae (y6==3) (opt (aL 500 1500 (-1700) 100 700 (-800) 500 y5 y7 d.2) λaj=>opt (ao d.1 aj.1 (wI (y0-wI (y4*450000000))) 450000000 aj.2) λd=>opt (aq d.1 3373259426 19327352832000 d.2) λd=>ret ((d.1,0),d.2)) (ae (y6==2) (opt (aL 950 900 (-1400) (-500) (-300) 100 950 y5 y7 d.2) λaj=>opt (ao d.1 aj.1 (wI (y0-wI (y4*450000000))) 450000000 aj.2) λd=>opt (aq d.1 3373259426 19327352832000 d.2) λd=>ret ((d.1,0),d.2)) (ae (y6==1) (opt (aL 2200 2500 500 (-2200) (-3800) 0 2200 y5 y7 d.2) λaj=>opt (ao d.1 aj.1 (wI (y0-wI (y4*450000000))) 450000000 aj.2) λd=>opt (aq d.1 3373259426 19327352832000 d.2) λd=>ret ((d.1,0),d.2)) (opt (aL 3000 6000 (-2000) (-1500) (-6000) (-9000) 3000 y5 y7 d.2) λaj=>opt (ao d.1 aj.1 (wI (y0-wI (y4*450000000))) 450000000 aj.2) λd=>opt (aq d.1 3373259426 19327352832000 d.2) λd=>ret ((d.1,0),d.2)))))) no) (ae (y4==2) (opt (aL 950 900 (-1400) (-500) (-300) 100 950 y5 y7 x3) λd=>ae (bb y6 5) (ae (y6==4) (opt (aL 1000 4000 (-3000) 500 3500 (-1200) 1000 y5 y7 d.2) λaj=>opt (ao d.1 aj.1 (wI (y0-wI (y4*450000000))) 450000000 aj.2) λd=>opt (aq d.1 3373259426 19327352832000 d.2) λd=>ret ((d.1,0),d.2)) (ae (y6==3) (opt (aL 500 1500 (-1700) 100 700 (-800) 500 y5 y7 d.2) λaj=>opt (ao d.1 aj.1 (wI (y0-wI (y4*450000000))) 450000000 aj.2) λd=>opt (aq d.1 3373259426 19327352832000 d.2) λd=>ret ((d.1,0),d.2)) (ae (y6==2) (opt (aL 950 900 (-1400) (-500) (-300) 100 950 y5 y7 d.2) λaj=>opt (ao d.1 aj.1 (wI (y0-wI (y4*450000000))) 450000000 aj.2) λd=>opt (aq d.1 3373259426 19327352832000 d.2) λd=>ret ((d.1,0),d.2)) (ae (y6==1) (opt (aL 2200 2500 500 (-2200) (-3800) 0 2200 y5 y7 d.2) λaj=>opt (ao d.1 aj.1 (wI (y0-wI (y4*450000000))) 450000000 aj.2) λd=>opt (aq d.1 3373259426 19327352832000 d.2) λd=>ret ((d.1,0),d.2)) (opt (aL 3000 6000 (-2000) (-1500) (-6000) (-9000) 3000 y5 y7 d.2) λaj=>opt (ao d.1 aj.1 (wI (y0-wI (y4*450000000))) 450000000 aj.2) λd=>opt (aq d.1 3373259426 19327352832000 d.2) λd=>ret ((d.1,0),d.2)))))) no) (ae (y4==1) (opt (aL 2200 2500 500 (-2200) (-3800) 0 2200 y5 y7 x3) λd=>ae (bb y6 5) (ae (y6==4) (opt (aL 1000 4000 (-3000) 500 3500 (-1200) 1000 y5 y7 d.2) λaj=>opt (ao d.1 aj.1 (wI (y0-wI (y4*450000000))) 450000000 aj.2) λd=>opt (aq d.1 3373259426 19327352832000 d.2) λd=>ret ((d.1,0),d.2)) (ae (y6==3) (opt (aL 500 1500 (-1700) 100 700 (-800) 500 y5 y7 d.2) λaj=>opt (ao d.1 aj.1 (wI (y0-wI (y4*450000000))) 450000000 aj.2) λd=>opt (aq d.1 3373259426 19327352832000 d.2) λd=>ret ((d.1,0),d.2)) (ae (y6==2) (opt (aL 950 900 (-1400) (-500) (-300) 100 950 y5 y7 d.2) λaj=>opt (ao d.1 aj.1 (wI (y0-wI (y4*450000000))) 450000000 aj.2) λd=>opt (aq d.1 3373259426 19327352832000 d.2) λd=>ret ((d.1,0),d.2)) (ae (y6==1) (opt (aL 2200 2500 500 (-2200) (-3800) 0 2200 y5 y7 d.2) λaj=>opt (ao d.1 aj.1 (wI (y0-wI (y4*450000000))) 450000000 aj.2) λd=>opt (aq d.1 3373259426 19327352832000 d.2) λd=>ret ((d.1,0),d.2)) (opt (aL 3000 6000 (-2000) (-1500) (-6000) (-9000) 3000 y5 y7 d.2) λaj=>opt (ao d.1 aj.1 (wI (y0-wI (y4*450000000))) 450000000 aj.2) λd=>opt (aq d.1 3373259426 19327352832000 d.2) λd=>ret ((d.1,0),d.2)))))) no) (opt (aL 3000 6000 (-2000) (-1500) (-6000) (-9000) 3000 y5 y7 x3) λd=>ae (bb y6 5) (ae (y6==4) (opt (aL 1000 4000 (-3000) 500 3500 (-1200) 1000 y5 y7 d.2) λaj=>opt (ao d.1 aj.1 (wI (y0-wI (y4*450000000))) 450000000 aj.2) λd=>opt (aq d.1 3373259426 19327352832000 d.2) λd=>ret ((d.1,0),d.2)) (ae (y6==3) (opt (aL 500 1500 (-1700) 100 700 (-800) 500 y5 y7 d.2) λaj=>opt (ao d.1 aj.1 (wI (y0-wI (y4*450000000))) 450000000 aj.2) λd=>opt (aq d.1 3373259426 19327352832000 d.2) λd=>ret ((d.1,0),d.2)) (ae (y6==2) (opt (aL 950 900 (-1400) (-500) (-300) 100 950 y5 y7 d.2) λaj=>opt (ao d.1 aj.1 (wI (y0-wI (y4*450000000))) 450000000 aj.2) λd=>opt (aq d.1 3373259426 19327352832000 d.2) λd=>ret ((d.1,0),d.2)) (ae (y6==1) (opt (aL 2200 2500 500 (-2200) (-3800) 0 2200 y5 y7 d.2) λaj=>opt (ao d.1 aj.1 (wI (y0-wI (y4*450000000))) 450000000 aj.2) λd=>opt (aq d.1 3373259426 19327352832000 d.2) λd=>ret ((d.1,0),d.2)) (opt (aL 3000 6000 (-2000) (-1500) (-6000) (-9000) 3000 y5 y7 d.2) λaj=>opt (ao d.1 aj.1 (wI (y0-wI (y4*450000000))) 450000000 aj.2) λd=>opt (aq d.1 3373259426 19327352832000 d.2) λd=>ret ((d.1,0),d.2)))))) no))))) no)
def tv:=λx0 x1 x2 x3=>(F2 ia ns ky pQ aU x0 x1 x2 x3).val
theorem anN:∀cP jz ao aL aq,D1 [zT cP,HS jz,BP ao,Nh aL,dD aq] [0] 120 RF (lf Eo) λb=>F2 cP jz ao aL aq b.1.1 b.1.2.1 b.1.b b.2:=λ_ _ _ _ _ b=>by kernel_rfl
theorem anO [ax]:SC (RI tv):=s0 (.c D3 (.c Ut (.c LZ (.c ahA (.c dQ (.nil _)))))) (anN ia ns ky pQ aU)
def aIs:=qa (pl jc nil)
def atq:=qe E5
abbrev aIt:=atq.B
abbrev ayu:=Int->Option aIt
def aIu (g:ayu):Ct:=(55,FC aIs (lf atq) (λb=>g b))
def aoP (x0:Int):Pg aIt:=ae (decide (x0>=0)) (ret (decide (x0<6))) (ret false)
def Pz:=λx0=>(aoP x0).val
theorem aTS:D0 [] 55 aIs (lf atq) λb=>aoP b:=λb=>by kernel_rfl
theorem aTT [ax]:SC (aIu Pz):=s0 (.nil _) aTS
def ajw:=qa (pl (c ai Ea) nil)
def PA:=qe E5
abbrev ajx:=PA.B
abbrev TV:=Int->Int->Int->Int->Int->Int->Int->Int->Int->Int->Option ajx
def ajy (g:TV):Ct:=(56,FC ajw (lf PA) (λb=>g b.1 b.2.1 b.b.1 b.b.2.1 b.c.1 b.c.2.1 b.c.b.1 b.c.b.2.1 b.d.1 b.d.2))
def TW (vv:ag9)(kF:J6)(jA:HK)(nH:aav)(zi:anm)(vx:ahl)(x0:Int)(x1:Int)(x2:Int)(x3:Int)(x4:Int)(x5:Int)(x6:Int)(x7:Int)(x8:Int)(x9:Int):Pg ajx:=ae (x0==0) (opt (vv x1 x2 x3 x4 x5 x6 x7 x8 x9 false) λd=>ret (d.1.2==0)) (ae (x0==1) (opt (kF x1 x2 x3 x4 x5 x6 x7 x8 x9 false) λd=>ret (d.1.2==0)) (ae (x0==2) (opt (jA x1 x2 x3 x4 x5 x6 x7 x8 x9 false) λd=>ret (d.1.2==0)) (ae (x0==3) (opt (nH x1 x2 x3 x4 x5 x6 x7 x8 x9 false) λd=>ret (d.1.2==0)) (ae (x0==4) (opt (zi x1 x2 x3 x4 x5 x6 x7 x8 x9 false) λd=>ret (d.1.2==0)) (ae (x0==5) (opt (vx x1 x2 x3 x4 x5 x6 x7 x8 x9 false) λd=>ret (d.1.2==0)) (ret true))))))
def DL:=λx0 x1 x2 x3 x4 x5 x6 x7 x8 x9=>(TW Cs oF nr yW FK Cw x0 x1 x2 x3 x4 x5 x6 x7 x8 x9).val
theorem aCh:∀vv kF jA nH zi vx,D0 [aha vv,J7 kF,HL jA,aaw nH,ann zi,ahm vx] 56 ajw (lf PA) λb=>TW vv kF jA nH zi vx b.1 b.2.1 b.b.1 b.b.2.1 b.c.1 b.c.2.1 b.c.b.1 b.c.b.2.1 b.d.1 b.d.2:=λ_ _ _ _ _ _ b=>by kernel_rfl
theorem aCi [ax]:SC (ajy DL):=s0 (.c avU (.c X5 (.c Um (.c anb (.c aA4 (.c awa (.nil _))))))) (aCh Cs oF nr yW FK Cw)
def oI:=qa (dp (cu jG (c ai aJb)) λv=>(cd asi λb0=>(c (cl (gs v.2.1 ar9) nil) (c np (c oD (c (cl (gs b0.c.1 pj) nil) (cd qP λb5=>(cd qQ λb6=>(cd qR λb7=>(cd qS λb8=>(cd qT λb9=>(cd aDf λb10=>(c nP (cd aC5 λb12=>(c (cl (gs b0.e mY) nil) (c (cl (gs b5.b.1 aA) nil) (c (cl (gs b6.b.1 aA) nil) (c (cl (gs b7.b.1 aA) nil) (c (cl (gs b8.b.1 aA) nil) (c (cl (gs b9.b.1 aA) nil) (c (cl (gs b10.b.1 aA) nil) (cl (cl (gs b12.b jY) nil) nil))))))))))))))))))))))
def HU:=qe (res (pu QP (pl (cu fL aQv) nil)))
abbrev Yv:=HU.B
abbrev CM:=oI.B->Option Yv
def CN (g:CM):Ct:=(232,vE 2 [.b,.i .i64,.i .i64] (FC oI (lf HU) g))
def Kg (sy:IA)(x:oI.B):Pg Yv:=let n1:=x.2.2.2.2.2.2.2.2.2.2.2.2.1;let n2:=n1.1.2.2;ae (ww x.1.2.1 x.1.2.1) (opt (sy x.1.1 x.2.1.2.2.2.2.2.2.2.2.2.2.2.2.2.1 x.1.2.1 n1.1.1 n1.1.2.1 n2.1 n2.2.1 n2.2.2.1 n2.2.2.2 n1.2 x.2.2.1.1 x.2.2.1.2.1 x.2.2.1.2.2 (x.1.2.2&&true)) λd=>ret d) no
def gF:=λx=>(Kg fh x).val
theorem atr:∀sy,D0 [IB sy] 232 oI (lf HU) λb=>Kg sy b:=λ_ b=>by kernel_rfl
theorem Kh [ax]:SC (CN gF):=sc (Sound.nil 2 [.b,.i .i64,.i .i64]<|k0 (.c acS (.nil _)) (atr fh))
def nu:=qa (pr (cu jG jc) (cd wB λb0=>(c np (c oD (c (cl (gs b0.c.1 pj) nil) (cd xC λb4=>(cd qP λb5=>(cd qQ λb6=>(cd qR λb7=>(cd qS λb8=>(cd qT λb9=>(c nP (cd zG λBc=>(c (cl (gs b0.e mY) nil) (c (cl (gs b4.b.1 aA) nil) (c (cl (gs b5.b.1 aA) nil) (c (cl (gs b6.b.1 aA) nil) (c (cl (gs b7.b.1 aA) nil) (c (cl (gs b8.b.1 aA) nil) (c (cl (gs b9.b.1 aA) nil) (cl (cl (gs Bc.b jY) nil) nil)))))))))))))))))))))
def F3:=qe aWR
abbrev Uu:=F3.B
abbrev Aw:=nu.B->Option Uu
def Ax (g:Aw):Ct:=(223,FC nu (lf F3) g)
def HV (ek:CM)(x:nu.B):Pg Uu:=let n5:=x.2.2.2.2.2;let n2:=x.2.1.2.2.2.2;let n4:=n2.2.2.2.2.2.2.2.2.2.2.2.2;let n1:=n5.2;let n3:=n1.2.2.2;ae (ww n2.1 n2.1) (ae (ww n4 n4) (ae (ww n5.1.2.2.1 n5.1.2.2.1) (ae (ww n1.1.2.2.1 n1.1.2.2.1) (ae (ww n1.2.1.2.2.1 n1.2.1.2.2.1) (ae (ww n1.2.2.1.2.2.1 n1.2.2.1.2.2.1) (ae (ww n3.1.2.2.1 n3.1.2.2.1) (ae (ww n3.2.1.2.2.1 n3.2.1.2.2.1) (ae (ww n3.2.2.2.1.2.2 n3.2.2.2.1.2.2) (opt (ek ((x.1,1,true),x.2.1,(λj=>bif ww j 0 then true else true,λj=>bif ww j 0 then 0 else 0,λj=>bif ww j 0 then 0 else 0),x.2.2)) λd=>ret d) no) no) no) no) no) no) no) no) no
def fS:=λx=>(HV gF x).val
theorem ape:∀ek,D0 [CN ek] 223 nu (lf F3) λb=>HV ek b:=λ_ b=>by kernel_rfl
theorem HW [ax]:SC (Ax fS):=s0 (.c Kh (.nil _)) (ape gF)
def mE:=qa (pr (cu jG jc) (cd wB λb0=>(c np (c oD (c (cl (gs b0.c.1 pj) nil) (cd xC λb4=>(cd qP λb5=>(cd qQ λb6=>(cd qR λb7=>(cd qS λb8=>(cd qT λb9=>(c nP (cd zG λBc=>(c (cl (gs b0.e mY) nil) (c (cl (gs b4.b.1 aA) nil) (c (cl (gs b5.b.1 aA) nil) (c (cl (gs b6.b.1 aA) nil) (c (cl (gs b7.b.1 aA) nil) (c (cl (gs b8.b.1 aA) nil) (c (cl (gs b9.b.1 aA) nil) (cl (cl (gs Bc.b jY) nil) nil)))))))))))))))))))))
def Ep:=qe aWR
abbrev RJ:=Ep.B
abbrev o7:=mE.B->Option RJ
def o8 (g:o7):Ct:=(172,FC mE (lf Ep) g)
def F4 (ek:CM)(x:mE.B):Pg RJ:=let n5:=x.2.2.2.2.2;let n2:=x.2.1.2.2.2.2;let n4:=n2.2.2.2.2.2.2.2.2.2.2.2.2;let n1:=n5.2;let n3:=n1.2.2.2;ae (ww n2.1 n2.1) (ae (ww n4 n4) (ae (ww n5.1.2.2.1 n5.1.2.2.1) (ae (ww n1.1.2.2.1 n1.1.2.2.1) (ae (ww n1.2.1.2.2.1 n1.2.1.2.2.1) (ae (ww n1.2.2.1.2.2.1 n1.2.2.1.2.2.1) (ae (ww n3.1.2.2.1 n3.1.2.2.1) (ae (ww n3.2.1.2.2.1 n3.2.1.2.2.1) (ae (ww n3.2.2.2.1.2.2 n3.2.2.2.1.2.2) (opt (ek ((x.1,1,true),x.2.1,(λj=>bif ww j 0 then false else false,λj=>bif ww j 0 then 0 else 0,λj=>bif ww j 0 then 0 else 0),x.2.2)) λd=>ret d) no) no) no) no) no) no) no) no) no
def cZ:=λx=>(F4 gF x).val
theorem anP:∀ek,D0 [CN ek] 172 mE (lf Ep) λb=>F4 ek b:=λ_ b=>by kernel_rfl
theorem tw [ax]:SC (o8 cZ):=s0 (.c Kh (.nil _)) (anP gF)
def mF:=qa (pr (cu jG (cl (aa (a 10 Eb nN)) nil)) (cd wB λb0=>(c np (c oD (c (cl (gs b0.c.1 pj) nil) (cd xC λb4=>(cd qP λb5=>(cd qQ λb6=>(cd qR λb7=>(cd qS λb8=>(cd qT λb9=>(c nP (cd zG λBc=>(c (cl (gs b0.e mY) nil) (c (cl (gs b4.b.1 aA) nil) (c (cl (gs b5.b.1 aA) nil) (c (cl (gs b6.b.1 aA) nil) (c (cl (gs b7.b.1 aA) nil) (c (cl (gs b8.b.1 aA) nil) (c (cl (gs b9.b.1 aA) nil) (cl (cl (gs Bc.b jY) nil) nil)))))))))))))))))))))
def apf:=qe aW5
abbrev CO:=((E4×Bool×NI×(NI×NI)×Nat×qE×Bool×Int×lG×Bool×Bool×Bool×Int×Int×Int×D9×Nat)×NI×NI×NI×NI×NI×NI×NI×NI×NI×NI)
def Yw:CO->T:=λd=>lf apf (d.1,d.1.e,d.2)
abbrev Ki:=mF.B->Option CO
def Kj (g:Ki):Ct:=(222,FC mF Yw g)
def Kk (x:mF.B):Pg CO:=let n7:=x.2.1.2;let n6:=x.1.1;let n3:=n7.2.2.2.2;let n8:=n3.2.2.2;let n2:=x.2.2.2.2.2.2.2.2.2.2.2.2.2.1;let n5:=n2.2.2.2.2;let n1:=n8.2.2.2.2;let n4:=n1.2.2.2.2;let y0:=n4+1;ae (wd (y0*80) 140737488355328) (ret ((x.2.1.1,n7.1,n7.2.1,n7.2.2.1,n7.2.2.2.1,n3.1,n3.2.1,n3.2.2.1,n8.1,n8.2.1,n8.2.2.1,n8.2.2.2.1,n1.1,n1.2.1,n1.2.2.1,n1.2.2.2.1,y0),λj=>bif ww j n4 then n6.1.1 else n2.1 j,λj=>bif ww j n4 then n6.1.2.1 else n2.2.1 j,λj=>bif ww j n4 then n6.1.2.2.1 else n2.2.2.1 j,λj=>bif ww j n4 then n6.1.2.2.2 else n2.2.2.2.1 j,λj=>bif ww j n4 then n6.2.1.1 else n5.1 j,λj=>bif ww j n4 then n6.2.1.2.1 else n5.2.1 j,λj=>bif ww j n4 then n6.2.1.2.2 else n5.2.2.1 j,λj=>bif ww j n4 then n6.2.2.1 else n5.2.2.2.1 j,λj=>bif ww j n4 then n6.2.2.2.1 else n5.2.2.2.2.1 j,λj=>bif ww j n4 then n6.2.2.2.2 else n5.2.2.2.2.2 j)) no
def iW:=λx=>(Kk x).val
theorem ats:D0 [] 222 mF Yw λb=>Kk b:=λb=>by kernel_rfl
theorem Yx [ax]:SC (Kj iW):=s0 (.nil _) ats
def mG:=qa (dp (cu jG (c ai (cl aI4 nil))) λv=>(cd asi λb0=>(c (cl (gs v.2.1 aJJ) nil) (c np (c oD (c (cl (gs b0.c.1 pj) nil) (cd qP λb5=>(cd qQ λb6=>(cd qR λb7=>(cd qS λb8=>(cd qT λb9=>(cd aDf λb10=>(c nP (cd aC5 λb12=>(c (cl (gs b0.e mY) nil) (c (cl (gs b5.b.1 aA) nil) (c (cl (gs b6.b.1 aA) nil) (c (cl (gs b7.b.1 aA) nil) (c (cl (gs b8.b.1 aA) nil) (c (cl (gs b9.b.1 aA) nil) (c (cl (gs b10.b.1 aA) nil) (cl (cl (gs b12.b jY) nil) nil))))))))))))))))))))))
def apg:=qe (res (pr (ac (Dd 21 3)) (pr (c (zD asi) aQv) (cl aP0 nil))))
abbrev CP:=(Nat×((E4×Bool×NI×(NI×NI)×Nat×qE×Bool×Int×lG×Bool×Bool×Bool×Int×Int×Int×D9×Nat)×aR1×Int)×(Nat->Bool)×NI×NI)
def Yy:CP->T:=λd=>lf apg (d.1,d.2.1,d.1,d.b)
abbrev rE:=mG.B->Option CP
def rF (g:rE):Ct:=(228,vE 2 [.i .i64,.i .i64,.i .i64,.i .i64,.i .i64,.i .i64,.i .i64,.i .i64,.i .i64,.i .i64,.i .i64,.i .i64,.i .i64,.i .i64,.i .i64,.i .i64,.i .i64,.i .i64,.i .i64,.i .i64,.i .i64,.i .i64,.i .i64,.i .i64,.i .i64,.i .i64,.i .i64] (FC mG Yy g))
def Kl (aaG:aAp)(ek:CM)(x:mG.B):Pg CP:=let n3:=x.2.1.2.2.2;let n5:=n3.2.2.2.2.2.2.2.2.2.2.2.2.2;let n2:=x.2.2.2.2.2.2;let n4:=n2.2.2.2;ae (ww x.1.2.1 x.1.2.1) (opt (aaG ((x.2.1.2.2.1,n3.1,x.1.2.1,x.1.2.2&&true),x.2.1.2.1,x.2.2.1)) λd=>let n6:=d.1.2.2;let n1:=(x.2.1.1,d.2.1,d.1.1,d.1.2.1,n3.2);ae (ww n6 n6) (ae (ww n3.2.1 n3.2.1) (ae (ww n5 n5) (ae (ww n2.1.2.2.1 n2.1.2.2.1) (ae (ww n2.2.1.2.2.1 n2.2.1.2.2.1) (ae (ww n2.2.2.1.2.2.1 n2.2.2.1.2.2.1) (ae (ww n4.1.2.2.1 n4.1.2.2.1) (ae (ww n4.2.1.2.2.1 n4.2.1.2.2.1) (ae (ww n4.2.2.1.2.2.1 n4.2.2.1.2.2.1) (ae (ww n4.2.2.2.2.1.2.2 n4.2.2.2.2.1.2.2) (opt (ek ((x.1.1,n6,true),n1,d.2.2,x.2.2.2)) λaj=>ret (n6,(n1,aj),d.2.2)) no) no) no) no) no) no) no) no) no) no) no
def dw:=λx=>(Kl Rh gF x).val
theorem att:∀aaG ek,D0 [aAq aaG,CN ek] 228 mG Yy λb=>Kl aaG ek b:=λ_ _ b=>by kernel_rfl
theorem xc [ax]:SC (rF dw):=sc (Sound.nil 2 [.i .i64,.i .i64,.i .i64,.i .i64,.i .i64,.i .i64,.i .i64,.i .i64,.i .i64,.i .i64,.i .i64,.i .i64,.i .i64,.i .i64,.i .i64,.i .i64,.i .i64,.i .i64,.i .i64,.i .i64,.i .i64,.i .i64,.i .i64,.i .i64,.i .i64,.i .i64,.i .i64]<|k0 (.c aOc (.c Kh (.nil _))) (att Rh gF))
def ke:=qa (dp (cu jG aJb) λv=>(cd asi λb0=>(c (cl (gs v.1 ar9) nil) (c np (c oD (c (cl (gs b0.c.1 pj) nil) (cd qP λb5=>(cd qQ λb6=>(cd qR λb7=>(cd qS λb8=>(cd qT λb9=>(cd aDf λb10=>(c nP (cd aC5 λb12=>(c (cl (gs b0.e mY) nil) (c (cl (gs b5.b.1 aA) nil) (c (cl (gs b6.b.1 aA) nil) (c (cl (gs b7.b.1 aA) nil) (c (cl (gs b8.b.1 aA) nil) (c (cl (gs b9.b.1 aA) nil) (c (cl (gs b10.b.1 aA) nil) (cl (cl (gs b12.b jY) nil) nil))))))))))))))))))))))
def Er:=qe (res (pu QP (pl (cl (zD asi) (cu fL axb)) nil)))
abbrev F5:=Er.B
abbrev F6:=ke.B->Option F5
def F7 (g:F6):Ct:=(229,vE 1 [.b,.i .i64,.i .i64] (FC ke (lf Er) g))
def F8 (sf:acq)(x:ke.B):Pg F5:=let n2:=x.2.1;let n1:=n2.2.2.2.2.2;let n3:=n1.2.2.2;ae (ww x.1.1 x.1.1) (opt (sf x.1.1 x.2.2.1.1 x.2.2.1.2.1 x.2.2.1.2.2 (x.1.2&&true)) λd=>ae (decide (d.1>0)) (ret (n2.1,n2.2.1,n2.2.2.1,n2.2.2.2.1,n2.2.2.2.2.1,n1.1,n1.2.1,n1.2.2.1,n3.1,n3.2.1,n3.2.2.1,true,n3.2.2.2.2.2.1,n3.2.2.2.2.2)) (ret n2)) no
def gk:=λx=>(F8 zO x).val
theorem anQ:∀sf,D1 [acr sf] [0] 229 ke (lf Er) λb=>F8 sf b:=λ_ b=>by kernel_rfl
theorem RK [ax]:SC (F7 gk):=sc (Sound.nil 1 [.b,.i .i64,.i .i64]<|k0 (.c aq4 (.nil _)) (anQ zO))
def iG:=qa (pr (cu jG (c ai (c ai aV1))) (cd wB λb0=>(c np (c oD (c (cl (gs b0.c.1 pj) nil) (cd xC λb4=>(cd qP λb5=>(cd qQ λb6=>(cd qR λb7=>(cd qS λb8=>(cd qT λb9=>(c nP (cd zG λBc=>(c (cl (gs b0.e mY) nil) (c (cl (gs b4.b.1 aA) nil) (c (cl (gs b5.b.1 aA) nil) (c (cl (gs b6.b.1 aA) nil) (c (cl (gs b7.b.1 aA) nil) (c (cl (gs b8.b.1 aA) nil) (c (cl (gs b9.b.1 aA) nil) (cl (cl (gs Bc.b jY) nil) nil)))))))))))))))))))))
def Be:=qe asj
abbrev CQ:=Be.B
abbrev Ni:=iG.B->Option CQ
def Nj (g:Ni):Ct:=(169,FC iG (lf Be) g)
def CR (bf:rE)(dx:Aw)(x:iG.B):Pg CQ:=let n7:=x.2.2.2.2.2;let n4:=x.1.2.2.2;let n3:=x.2.1.2.2.2.2;let n6:=n3.2.2.2.2.2.2.2.2.2.2.2.2;let n2:=n7.2;let n5:=n2.2.2.2;let n1:=x.1.2.2.1;let y0:=ww n3.1 n3.1;let y1:=ww n6 n6;let y2:=ww n7.1.2.2.1 n7.1.2.2.1;let y3:=ww n2.1.2.2.1 n2.1.2.2.1;let y4:=ww n2.2.1.2.2.1 n2.2.1.2.2.1;let y5:=ww n2.2.2.1.2.2.1 n2.2.2.1.2.2.1;let y6:=ww n5.1.2.2.1 n5.1.2.2.1;let y7:=ww n5.2.1.2.2.1 n5.2.1.2.2.1;let y8:=ww n5.2.2.2.1.2.2 n5.2.2.2.1.2.2;ae (n3.2.1.2.1==x.1.2.1) (ae y0 (ae y1 (ae y2 (ae y3 (ae y4 (ae y5 (ae y6 (ae y7 (ae y8 (opt (bf ((x.1.1,1,true),x.2.1,(λj=>bif ww j 0 then n1 0 else n1 0,λj=>bif ww j 0 then n1 1 else n1 1,λj=>bif ww j 0 then n1 2 else n1 2,λj=>bif ww j 0 then n1 3 else n1 3,λj=>bif ww j 0 then n1 4 else n1 4,λj=>bif ww j 0 then n1 5 else n1 5,λj=>bif ww j 0 then n1 6 else n1 6,λj=>bif ww j 0 then n1 7 else n1 7,λj=>bif ww j 0 then n1 8 else n1 8,λj=>bif ww j 0 then n1 9 else n1 9,λj=>bif ww j 0 then n1 10 else n1 10,λj=>bif ww j 0 then n1 11 else n1 11,λj=>bif ww j 0 then n1 12 else n1 12,λj=>bif ww j 0 then n1 13 else n1 13,λj=>bif ww j 0 then n1 14 else n1 14,λj=>bif ww j 0 then n1 15 else n1 15,λj=>bif ww j 0 then n1 16 else n1 16,λj=>bif ww j 0 then n1 17 else n1 17,λj=>bif ww j 0 then n1 18 else n1 18,λj=>bif ww j 0 then n1 19 else n1 19,λj=>bif ww j 0 then n1 20 else n1 20,λj=>bif ww j 0 then n1 21 else n1 21,λj=>bif ww j 0 then n1 22 else n1 22,λj=>bif ww j 0 then n1 23 else n1 23,λj=>bif ww j 0 then n4.1 else n4.1,λj=>bif ww j 0 then n4.2.1 else n4.2.1,λj=>bif ww j 0 then n4.2.2 else n4.2.2),x.2.2)) λd=>ret d.2.1) no) no) no) no) no) no) no) no) no) (ae y0 (ae y1 (ae y2 (ae y3 (ae y4 (ae y5 (ae y6 (ae y7 (ae y8 (opt (dx (x.1.1,x.2)) λd=>ret (x.2.1,d)) no) no) no) no) no) no) no) no) no)
def iH:=λx=>(CR dw fS x).val
theorem ahB:∀bf dx,D1 [rF bf,Ax dx] [0] 169 iG (lf Be) λb=>CR bf dx b:=λ_ _ b=>by kernel_rfl
theorem ahC [ax]:SC (Nj iH):=s0 (.c xc (.c HW (.nil _))) (ahB dw fS)
def eK:=qa (pu (cu jG nil) (cd wB λb0=>(c np (c oD (c (cl (gs b0.c.1 pj) nil) (cd xC λb4=>(cd qP λb5=>(cd qQ λb6=>(cd qR λb7=>(cd qS λb8=>(cd qT λb9=>(c nP (cd zG λBc=>(c (cl (gs b0.e mY) nil) (c (cl (gs b4.b.1 aA) nil) (c (cl (gs b5.b.1 aA) nil) (c (cl (gs b6.b.1 aA) nil) (c (cl (gs b7.b.1 aA) nil) (c (cl (gs b8.b.1 aA) nil) (c (cl (gs b9.b.1 aA) nil) (cl (cl (gs Bc.b jY) nil) nil)))))))))))))))))))))
def xd:=qe (res (pr ai (pl (cl (zD wB) axb) nil)))
abbrev xT:=xd.B
abbrev He:=eK.B->Option xT
def Hf (g:He):Ct:=(220,FC eK (lf xd) g)
def qB (zj:RH)(x:eK.B):Pg xT:=let n1:=x.1.1.2.2.2.2.2.2.2.2.2.2.2.2.2;opt (zj n1.1 n1.2.1 n1.2.2 x.1.2.1) λd=>ret (d.1.1,x.1.1,d.2,x.1.2.2)
def dN:=λx=>(qB tv x).val
theorem Ze:∀zj,D0 [RI zj] 220 eK (lf xd) λb=>qB zj b:=λ_ b=>by kernel_rfl
theorem Zf [ax]:SC (Hf dN):=s0 (.c anO (.nil _)) (Ze tv)
def mH:=qa (pr (cu jG Ea) (cd wB λb0=>(c np (c oD (c (cl (gs b0.c.1 pj) nil) (cd xC λb4=>(cd qP λb5=>(cd qQ λb6=>(cd qR λb7=>(cd qS λb8=>(cd qT λb9=>(c nP (cd zG λBc=>(c (cl (gs b0.e mY) nil) (c (cl (gs b4.b.1 aA) nil) (c (cl (gs b5.b.1 aA) nil) (c (cl (gs b6.b.1 aA) nil) (c (cl (gs b7.b.1 aA) nil) (c (cl (gs b8.b.1 aA) nil) (c (cl (gs b9.b.1 aA) nil) (cl (cl (gs Bc.b jY) nil) nil)))))))))))))))))))))
def N5:=qe asj
def aj5:=qe (res (pu QP (pr (c (zD (a 26 xD (c gb (c iR (a 2 zH (cu akn (cu ako (c aI5 (au 6 aky (cu at3 (a 4 E7 (cu at4 (c gb (c gi (a 3 mX (c gb (cu awZ (c gb aQs)))))))))))))))))) aQu) aJE)))
abbrev CS:=N5.B⊕(((E4×Bool×NI×(NI×NI)×Nat×qE×Bool×Int×lG×Bool×Bool×Int×Int×Int×D9×Nat)×aR1×Int)×NI×NI×NI×NI×NI×NI×NI×NI×NI×NI)
def Yz:CS->T:=ls (lf N5) (λd=>lf aj5 (d.1,d.1.1.d.c.b.2,d.2))
abbrev YA:=mH.B->Option CS
def YB (g:YA):Ct:=(167,FC mH Yz g)
def Km (nH:aav)(bg:eI)(qC:He)(Vm:avZ)(ba:o7)(Vn:avI)(gG:Ki)(fH:rp)(jy:GF)(de:zK)(aO:fK)(dx:Aw)(x:mH.B):Pg CS:=let n8:=x.2.2;let bA:=n8.2.2.2;let n7:=x.2.1.2.2;let n9:=n7.2.2.2.2.2.2.2.2.2.2.2.2.2.2;let n6:=x.1.2.2.2;let n1:=bA.2;let n3:=n1.2.2.2;let bK:=n3.2.2.2;let y0:=ww bA.1.2.2.1 bA.1.2.2.1;let y1:=ww n1.1.2.2.1 n1.1.2.2.1;let y2:=ww n1.2.1.2.2.1 n1.2.1.2.2.1;let y3:=ww n1.2.2.1.2.2.1 n1.2.2.1.2.2.1;let y4:=ww n3.1.2.2.1 n3.1.2.2.1;let y5:=ww n3.2.1.2.2.1 n3.2.1.2.2.1;let y6:=ww bK.1.2.2 bK.1.2.2;opt (nH x.1.1 x.1.2.1 x.1.2.2.1 n6.1 n6.2.1 n6.2.2.1 n6.2.2.2.1 n6.2.2.2.2.1 n6.2.2.2.2.2 x.2.1.2.1) λd=>let bj:=d.1.1;opt (bg n7.1) λaj=>ae (ww n7.2.2.1 n7.2.2.1) (ae (ww n9 n9) (ae y0 (ae y1 (ae y2 (ae y3 (ae y4 (ae y5 (ae y6 (opt (qC ((x.2.1.1,d.2,n7),n8)) λaD=>let n5:=aD.2.2.2;let aT:=n5.2.2.2.2.2.2.2.2.2.2.2.2.2.2;let uG:=ww n5.2.2.1 n5.2.2.1;let azR:=ww aT aT;opt (Vm aj.1 aj.2.1 aj.2.2.1 aj.2.2.2 bj.1 bj.2.1 bj.2.2.1 bj.2.2.2 aD.1 aD.2.2.1) λbC=>ae (bC.1.2!=0) (ae uG (ae azR (ae y0 (ae y1 (ae y2 (ae y3 (ae y4 (ae y5 (ae y6 (opt (ba (3,(aD.2.1,bC.2,n5),n8)) λd=>ret (wr ((aD.2.1,bC.2,n5),d))) no) no) no) no) no) no) no) no) no) (opt (Vn n5.1 n5.2.1.1 n5.2.1.2 bC.1.1 (aD.2.1.2.2.2.2.2.2.2.1 0) bC.2) λcM=>ae uG (ae azR (ae y0 (ae y1 (ae y2 (ae y3 (ae y4 (ae y5 (ae y6 (opt (gG (((cM.1.2.2,(0,0,0),0,0,0),1),(aD.2.1,cM.2,cM.1.1,cM.1.2.1,n5.2.2),n8)) λfA=>let bx:=fA.1.2.2;let n2:=bx.2.2;let n16:=n2.2.2;let n4:=n16.2.2;let n15:=n4.2.2.2;opt (bg bx.1) λdB=>opt (fH dB.1 dB.2.1 dB.2.2.1 dB.2.2.2 fA.1.2.1) λnX=>opt (jy nX.1 bj.1 bj.2.1 bj.2.2.1 nX.2) λd=>opt (de bx.1 16 3 (cr d.1.1 [d.1.2.2,d.1.2.1,d.1.1]) false) λtP=>opt (aO tP d.2) λd=>ae (ww n2.1 n2.1) (ae (ww n15.2.2.2.2.2 n15.2.2.2.2.2) (ae y0 (ae y1 (ae y2 (ae y3 (ae y4 (ae y5 (ae y6 (opt (dx (3,(fA.1.1,d.2,d.1,bx.2.1,n2.1,n2.2.1,n16.1,n16.2.1,n4.1,n4.2.1,true,n15),n8.1,n8.2.1,n8.2.2.1,bA.1,n1.1,n1.2.1,n1.2.2.1,n3.1,n3.2.1,n3.2.2.1,bK.1,fA.2,bK.2.2)) λpI=>ret (wn (((fA.1.1,d.2,d.1,bx.2.1,n2.1,n2.2.1,n16.1,n16.2.1,n4.1,n4.2.1,n15),pI),fA.2))) no) no) no) no) no) no) no) no) no) no) no) no) no) no) no) no) no) no)) no) no) no) no) no) no) no) no) no
def mI:=λx=>(Km yW cC dN M4 cZ MR iW kZ pK gQ cz fS x).val
theorem atu:∀nH bg qC Vm ba Vn gG fH jy de aO dx,D0 [aaw nH,kD bg,Hf qC,av0 Vm,o8 ba,avJ Vn,Kj gG,DZ fH,Mg jy,DX de,jU aO,Ax dx] 167 mH Yz λb=>Km nH bg qC Vm ba Vn gG fH jy de aO dx b:=λ_ _ _ _ _ _ _ _ _ _ _ _ b=>by kernel_rfl
theorem atv [ax]:SC (YB mI):=s0 (.c anb (.c lK (.c Zf (.c aKQ (.c tw (.c aKJ (.c Yx (.c GI (.c UY (.c Ip (.c ld (.c HW (.nil _))))))))))))) (atu yW cC dN M4 cZ MR iW kZ pK gQ cz fS)
def mJ:=qa (pr (cu jG (cl aJy nil)) (cd wB λb0=>(c np (c oD (c (cl (gs b0.c.1 pj) nil) (cd xC λb4=>(cd qP λb5=>(cd qQ λb6=>(cd qR λb7=>(cd qS λb8=>(cd qT λb9=>(c nP (cd zG λBc=>(c (cl (gs b0.e mY) nil) (c (cl (gs b4.b.1 aA) nil) (c (cl (gs b5.b.1 aA) nil) (c (cl (gs b6.b.1 aA) nil) (c (cl (gs b7.b.1 aA) nil) (c (cl (gs b8.b.1 aA) nil) (c (cl (gs b9.b.1 aA) nil) (cl (cl (gs Bc.b jY) nil) nil)))))))))))))))))))))
def aph:=qe aW5
abbrev CT:=((E4×Bool×NI×(NI×NI)×Nat×qE×Bool×Int×lG×Bool×Bool×Bool×Int×Int×Int×D9×Nat)×NI×NI×NI×NI×NI×NI×NI×NI×NI×NI)
def YC:CT->T:=λd=>lf aph (d.1,d.1.e,d.2)
abbrev YD:=mJ.B->Option CT
def YE (g:YD):Ct:=(224,FC mJ YC g)
def Kn (iC:yV)(ER:aaC)(gG:Ki)(Ay:Uq)(Jr:ajq)(x:mJ.B):Pg CT:=let bx:=x.1.2;let n4:=x.2.1.2.2.2;let n8:=n4.2.2.2.2.2.2.2.2.2.2.2.2.2;let n3:=x.2.2;let bj:=n3.2.2;let n1:=bj.2.2;let bA:=n1.2.2.1;let n2:=n1.2.2.2;let n7:=n2.2.2.2;let y0:=ww bj.2.1.2.2.1 bj.2.1.2.2.1;let y1:=ww n1.1.2.2.1 n1.1.2.2.1;let y2:=ww n1.2.1.2.2.1 n1.2.1.2.2.1;let y3:=ww bA.2.2.1 bA.2.2.1;let y4:=ww n2.1.2.2.1 n2.1.2.2.1;let y5:=ww n2.2.1.2.2.1 n2.2.1.2.2.1;let y6:=ww n7.1.2.2 n7.1.2.2;opt (iC x.1.1.1 x.1.1.2.1 x.1.1.2.2 n3.1.1.1 n3.1.1.2.1 n3.1.1.2.2 n3.1.2.1 n3.1.2.2 x.2.1.2.1) λd=>opt (ER x.2.1.2.2.1 n4.1.1 n4.1.2 bx.1.1 bx.1.2.1 bx.1.2.2 bx.2.2 d.2) λaj=>ae (ww n4.2.1 n4.2.1) (ae (ww n8 n8) (ae y0 (ae y1 (ae y2 (ae y3 (ae y4 (ae y5 (ae y6 (opt (gG ((((1073741824,0,0,0),aj.1.2.2,0,0,0),2),(x.2.1.1,aj.2,aj.1.1,aj.1.2.1,n4.2),n3)) λaD=>let n6:=aD.1.2.2.2;let n9:=n6.2.2.2.2.2.2.2.2.2.2.2.2.2;opt (Ay aD.1.2.2.1 n6.1.1 n6.1.2 d.1.1.1 d.1.1.2.1 bx.2.1 aD.1.2.1) λbC=>ae (ww n6.2.1 n6.2.1) (ae (ww n9 n9) (ae y0 (ae y1 (ae y2 (ae y3 (ae y4 (ae y5 (ae y6 (opt (gG ((((1073741824,0,0,0),(0,0,0),bC.1.2.2),3),(aD.1.1,bC.2,bC.1.1,bC.1.2.1,n6.2),n3.1,n3.2.1,bj.1,bj.2.1,n1.1,n1.2.1,bA,n2.1,n2.2.1,n2.2.2.1,n7.1,aD.2,n7.2.2)) λcM=>let n5:=cM.1.2.2.2;let aT:=n5.2.2.2.2.2.2.2.2.2.2.2.2.2;ae (n5.2.2.1.2.1==2) (opt (Jr cM.1.2.2.1 n5.1.1 n5.1.2 d.1.1.2.2 bx.2.1 cM.1.2.1) λd=>ae (ww n5.2.1 n5.2.1) (ae (ww aT aT) (ae y0 (ae y1 (ae y2 (ae y3 (ae y4 (ae y5 (ae y6 (opt (gG ((((1073741824,0,0,0),(0,0,0),0,0,d.1.2.2),4),(cM.1.1,d.2,d.1.1,d.1.2.1,n5.2),n3.1,n3.2.1,bj.1,bj.2.1,n1.1,n1.2.1,bA,n2.1,n2.2.1,n2.2.2.1,n7.1,cM.2,n7.2.2)) λd=>ret d) no) no) no) no) no) no) no) no) no) (ret cM)) no) no) no) no) no) no) no) no) no) no) no) no) no) no) no) no) no) no
def mK:=λx=>(Kn lL zd iW uM DI x).val
theorem atw:∀iC ER gG Ay Jr,D0 [EI iC,aaD ER,Kj gG,Ur Ay,ajr Jr] 224 mJ YC λb=>Kn iC ER gG Ay Jr b:=λ_ _ _ _ _ b=>by kernel_rfl
theorem atx [ax]:SC (YE mK):=s0 (.c M3 (.c awq (.c Yx (.c apa (.c aCf (.nil _)))))) (atw lL zd iW uM DI)
def iI:=qa (pr (cu jG Ea) (cd wB λb0=>(c np (c oD (c (cl (gs b0.c.1 pj) nil) (cd xC λb4=>(cd qP λb5=>(cd qQ λb6=>(cd qR λb7=>(cd qS λb8=>(cd qT λb9=>(c nP (cd zG λBc=>(c (cl (gs b0.e mY) nil) (c (cl (gs b4.b.1 aA) nil) (c (cl (gs b5.b.1 aA) nil) (c (cl (gs b6.b.1 aA) nil) (c (cl (gs b7.b.1 aA) nil) (c (cl (gs b8.b.1 aA) nil) (c (cl (gs b9.b.1 aA) nil) (cl (cl (gs Bc.b jY) nil) nil)))))))))))))))))))))
def Bg:=qe asj
abbrev CU:=Bg.B
abbrev Nk:=iI.B->Option CU
def Nl (g:Nk):Ct:=(174,FC iI (lf Bg) g)
def CW (zi:anm)(Jt:ajc)(DM:aji)(ba:o7)(bf:rE)(x:iI.B):Pg CU:=let bx:=x.2.2;let n8:=x.2.1.1;let n7:=x.1.2.2.2;let n6:=n8.2.2.2.2.1.2.2.2.2.1;let n4:=x.2.1.2.2;let bj:=n4.2.2.2.2.2.2.2.2.2.2.2.2.2.2;let n3:=bx.2.2.2.2;let n9:=n3.2.2.2;let y0:=ww n4.2.2.1 n4.2.2.1;let y1:=ww bj bj;let y2:=ww bx.2.2.2.1.2.2.1 bx.2.2.2.1.2.2.1;let y3:=ww n3.1.2.2.1 n3.1.2.2.1;let y4:=ww n3.2.1.2.2.1 n3.2.1.2.2.1;let y5:=ww n3.2.2.1.2.2.1 n3.2.2.1.2.2.1;let y6:=ww n9.1.2.2.1 n9.1.2.2.1;let y7:=ww n9.2.1.2.2.1 n9.2.1.2.2.1;let y8:=ww n9.2.2.2.1.2.2 n9.2.2.2.1.2.2;opt (zi x.1.1 x.1.2.1 x.1.2.2.1 n7.1 n7.2.1 n7.2.2.1 n7.2.2.2.1 n7.2.2.2.2.1 n7.2.2.2.2.2 x.2.1.2.1) λd=>opt (Jt n4.1 d.1.1.1 d.1.1.2 n6 d.2) λd=>let n5:=d.1.1.2;let n1:=d.1.1.1;ae (d.1.2==0) (opt (DM n4.1 17592186044416 n6 d.2) λaj=>ae (aj.1.2==0) (ae y0 (ae y1 (ae y2 (ae y3 (ae y4 (ae y5 (ae y6 (ae y7 (ae y8 (opt (bf ((4,2,true),(n8,aj.2,n4),(ay1 (λk=>cr (n1 k) [aj.1.1.1 k,n1 k]) (cr n5.1 [aj.1.1.2.1,n5.1],cr n5.2.1 [aj.1.1.2.2.1,n5.2.1],cr n5.2.2 [aj.1.1.2.2.2,n5.2.2])),bx)) λd=>ret d.2.1) no) no) no) no) no) no) no) no) no) (ae y0 (ae y1 (ae y2 (ae y3 (ae y4 (ae y5 (ae y6 (ae y7 (ae y8 (opt (bf ((4,1,true),(n8,aj.2,n4),(λj=>bif ww j 0 then n1 0 else n1 0,λj=>bif ww j 0 then n1 1 else n1 1,λj=>bif ww j 0 then n1 2 else n1 2,λj=>bif ww j 0 then n1 3 else n1 3,λj=>bif ww j 0 then n1 4 else n1 4,λj=>bif ww j 0 then n1 5 else n1 5,λj=>bif ww j 0 then n1 6 else n1 6,λj=>bif ww j 0 then n1 7 else n1 7,λj=>bif ww j 0 then n1 8 else n1 8,λj=>bif ww j 0 then n1 9 else n1 9,λj=>bif ww j 0 then n1 10 else n1 10,λj=>bif ww j 0 then n1 11 else n1 11,λj=>bif ww j 0 then n1 12 else n1 12,λj=>bif ww j 0 then n1 13 else n1 13,λj=>bif ww j 0 then n1 14 else n1 14,λj=>bif ww j 0 then n1 15 else n1 15,λj=>bif ww j 0 then n1 16 else n1 16,λj=>bif ww j 0 then n1 17 else n1 17,λj=>bif ww j 0 then n1 18 else n1 18,λj=>bif ww j 0 then n1 19 else n1 19,λj=>bif ww j 0 then n1 20 else n1 20,λj=>bif ww j 0 then n1 21 else n1 21,λj=>bif ww j 0 then n1 22 else n1 22,λj=>bif ww j 0 then n1 23 else n1 23,λj=>bif ww j 0 then n5.1 else n5.1,λj=>bif ww j 0 then n5.2.1 else n5.2.1,λj=>bif ww j 0 then n5.2.2 else n5.2.2),bx)) λd=>ret d.2.1) no) no) no) no) no) no) no) no) no)) (opt (DM n4.1 17592186044416 n6 d.2) λd=>let aT:=d.1.1.2;let n2:=d.1.1.1;ae (d.1.2==0) (ae y0 (ae y1 (ae y2 (ae y3 (ae y4 (ae y5 (ae y6 (ae y7 (ae y8 (opt (bf ((4,1,true),(n8,d.2,n4),(λj=>bif ww j 0 then n2 0 else n2 0,λj=>bif ww j 0 then n2 1 else n2 1,λj=>bif ww j 0 then n2 2 else n2 2,λj=>bif ww j 0 then n2 3 else n2 3,λj=>bif ww j 0 then n2 4 else n2 4,λj=>bif ww j 0 then n2 5 else n2 5,λj=>bif ww j 0 then n2 6 else n2 6,λj=>bif ww j 0 then n2 7 else n2 7,λj=>bif ww j 0 then n2 8 else n2 8,λj=>bif ww j 0 then n2 9 else n2 9,λj=>bif ww j 0 then n2 10 else n2 10,λj=>bif ww j 0 then n2 11 else n2 11,λj=>bif ww j 0 then n2 12 else n2 12,λj=>bif ww j 0 then n2 13 else n2 13,λj=>bif ww j 0 then n2 14 else n2 14,λj=>bif ww j 0 then n2 15 else n2 15,λj=>bif ww j 0 then n2 16 else n2 16,λj=>bif ww j 0 then n2 17 else n2 17,λj=>bif ww j 0 then n2 18 else n2 18,λj=>bif ww j 0 then n2 19 else n2 19,λj=>bif ww j 0 then n2 20 else n2 20,λj=>bif ww j 0 then n2 21 else n2 21,λj=>bif ww j 0 then n2 22 else n2 22,λj=>bif ww j 0 then n2 23 else n2 23,λj=>bif ww j 0 then aT.1 else aT.1,λj=>bif ww j 0 then aT.2.1 else aT.2.1,λj=>bif ww j 0 then aT.2.2 else aT.2.2),bx)) λd=>ret d.2.1) no) no) no) no) no) no) no) no) no) (ae y0 (ae y1 (ae y2 (ae y3 (ae y4 (ae y5 (ae y6 (ae y7 (ae y8 (opt (ba (4,(n8,d.2,n4),bx)) λaj=>ret ((n8,d.2,n4),aj)) no) no) no) no) no) no) no) no) no))
def iJ:=λx=>(CW FK DF DG cZ dw x).val
theorem ahD:∀zi Jt DM ba bf,D0 [ann zi,ajd Jt,ajj DM,o8 ba,rF bf] 174 iI (lf Bg) λb=>CW zi Jt DM ba bf b:=λ_ _ _ _ _ b=>by kernel_rfl
theorem ahE [ax]:SC (Nl iJ):=s0 (.c aA4 (.c aCa (.c aCc (.c tw (.c xc (.nil _)))))) (ahD FK DF DG cZ dw)
def mL:=qa (pr (cu jG Ea) (cd wB λb0=>(c np (c oD (c (cl (gs b0.c.1 pj) nil) (cd xC λb4=>(cd qP λb5=>(cd qQ λb6=>(cd qR λb7=>(cd qS λb8=>(cd qT λb9=>(c nP (cd zG λBc=>(c (cl (gs b0.e mY) nil) (c (cl (gs b4.b.1 aA) nil) (c (cl (gs b5.b.1 aA) nil) (c (cl (gs b6.b.1 aA) nil) (c (cl (gs b7.b.1 aA) nil) (c (cl (gs b8.b.1 aA) nil) (c (cl (gs b9.b.1 aA) nil) (cl (cl (gs Bc.b jY) nil) nil)))))))))))))))))))))
def HX:=qe asj
abbrev Ko:=HX.B
abbrev YF:=mL.B->Option Ko
def YG (g:YF):Ct:=(175,FC mL (lf HX) g)
def Kp (vx:ahl)(Vo:awd)(ba:o7)(bf:rE)(eC:F6)(x:mL.B):Pg Ko:=let aT:=x.2.1;let n7:=x.2.2;let bj:=n7.2.2.2;let n6:=x.1.2.2.2;let n2:=aT.2.2;let n8:=n2.2.2.2.2.2.2.2.2.2.2.2.2.2.2;let n1:=bj.2;let n3:=n1.2.2.2;let y0:=ww n2.2.2.1 n2.2.2.1;let y1:=ww n8 n8;let y2:=ww bj.1.2.2.1 bj.1.2.2.1;let y3:=ww n1.1.2.2.1 n1.1.2.2.1;let y4:=ww n1.2.1.2.2.1 n1.2.1.2.2.1;let y5:=ww n1.2.2.1.2.2.1 n1.2.2.1.2.2.1;let y6:=ww n3.1.2.2.1 n3.1.2.2.1;let y7:=ww n3.2.1.2.2.1 n3.2.1.2.2.1;let y8:=ww n3.2.2.2.1.2.2 n3.2.2.2.1.2.2;opt (vx x.1.1 x.1.2.1 x.1.2.2.1 n6.1 n6.2.1 n6.2.2.1 n6.2.2.2.1 n6.2.2.2.2.1 n6.2.2.2.2.2 aT.2.1) λd=>opt (Vo n2.1 d.1.1.1 d.1.1.2.1 d.1.1.2.2.1 d.1.1.2.2.2 aT.1.2.2.2.2.1.2.2.2.2.2 d.2) λd=>sm d (λd=>ae (d.1!=0) (ae y0 (ae y1 (ae y2 (ae y3 (ae y4 (ae y5 (ae y6 (ae y7 (ae y8 (opt (ba (5,(aT.1,d.2,n2),n7)) λaj=>ret ((aT.1,d.2,n2),aj)) no) no) no) no) no) no) no) no) no) no) (λd=>let n4:=d.2.2.2;ae y0 (ae y1 (ae y2 (ae y3 (ae y4 (ae y5 (ae y6 (ae y7 (ae y8 (opt (bf ((5,2,true),(aT.1,d.1,n2),(ay1 (λk=>cr (d.2.1 k) [n4.2.2.1 k,d.2.1 k]) (cr d.2.2.1 [n4.2.2.2,d.2.2.1],cr n4.1 [n4.1,n4.1],cr n4.2.1 [n4.2.1,n4.2.1])),n7)) λd=>let n5:=d.2.1.1.2.2.2.2;let n9:=n5.2.2.2.2.2.2.2.2.2.2.2.2;ae (ww d.1 d.1) (ae (ww n5.1 n5.1) (ae (ww n9 n9) (ae y2 (ae y3 (ae y4 (ae y5 (ae y6 (ae y7 (ae y8 (opt (eC ((d.1,true),d.2.1.1,d.2.2,n7.1,n7.2.1,n7.2.2.1,bj.1,n1.1,n1.2.1,n1.2.2.1,n3.1,n3.2.1,d.2.1.2,n3.2.2.2)) λaj=>ret (aj,d.2.1.2)) no) no) no) no) no) no) no) no) no) no) no) no) no) no) no) no) no) no) no)
def mM:=λx=>(Kp Cw Cy cZ dw gk x).val
theorem aty:∀vx Vo ba bf eC,D0 [ahm vx,awe Vo,o8 ba,rF bf,F7 eC] 175 mL (lf HX) λb=>Kp vx Vo ba bf eC b:=λ_ _ _ _ _ b=>by kernel_rfl
theorem atz [ax]:SC (YG mM):=s0 (.c awa (.c aKU (.c tw (.c xc (.c RK (.nil _)))))) (aty Cw Cy cZ dw gk)
def mN:=qa (pu (cu jG nil) (cd wB λb0=>(c np (c oD (c (cl (gs b0.c.1 pj) nil) (cd xC λb4=>(cd qP λb5=>(cd qQ λb6=>(cd qR λb7=>(cd qS λb8=>(cd qT λb9=>(c nP (cd zG λBc=>(c (cl (gs b0.e mY) nil) (c (cl (gs b4.b.1 aA) nil) (c (cl (gs b5.b.1 aA) nil) (c (cl (gs b6.b.1 aA) nil) (c (cl (gs b7.b.1 aA) nil) (c (cl (gs b8.b.1 aA) nil) (c (cl (gs b9.b.1 aA) nil) (cl (cl (gs Bc.b jY) nil) nil)))))))))))))))))))))
def Es:=qe (res (pl (aa aQr) (pu (cu fL axb) nil)))
abbrev tx:=Es.B
abbrev zk:=mN.B->Option tx
def F9 (g:zk):Ct:=(16,FC mN (lf Es) g)
def tz (sC:IG)(xu:NY)(x:mN.B):Pg tx:=let n3:=x.1.2.2.2.2.2;let n2:=n3.2.2.2.2.2.2.2.2;let n4:=n2.2.2.1;let n1:=x.2.2.2.2.2.2.2.2.2.2.1;let n5:=n1.1.2.2;opt (sC n2.1 n1.1.1 n1.1.2.1 n5.1 n5.2.1 n5.2.2.1 n5.2.2.2 n1.2) λd=>opt (xu n1.1.1 n1.1.2.1 n5.1 n5.2.1 n5.2.2.1 n5.2.2.2 n1.2) λaj=>ret (n3.1.1,n3.1.2.1,n3.1.2.2.1,n3.1.2.2.2,n2.1,d,n2.2.1,aj,x.1.2.1,n4.1.1,n4.1.2.1,n4.1.2.2.1,n4.1.2.2.2,n4.2.1.1,n4.2.1.2.1,n4.2.1.2.2,n4.2.2)
def gm:=λx=>(tz oc qJ x).val
theorem anR:∀sC xu,D0 [IH sC,NZ xu] 16 mN (lf Es) λb=>tz sC xu b:=λ_ _ b=>by kernel_rfl
theorem RL [ax]:SC (F9 gm):=s0 (.c acW (.c aj0 (.nil _))) (anR oc qJ)
def ES:=qa (pu (cu jG nil) (cd wB λb0=>(c np (c oD (c (cl (gs b0.c.1 pj) nil) (cd xC λb4=>(cd qP λb5=>(cd qQ λb6=>(cd qR λb7=>(cd qS λb8=>(cd qT λb9=>(c nP (cd zG λBc=>(c (cl (gs b0.e mY) nil) (c (cl (gs b4.b.1 aA) nil) (c (cl (gs b5.b.1 aA) nil) (c (cl (gs b6.b.1 aA) nil) (c (cl (gs b7.b.1 aA) nil) (c (cl (gs b8.b.1 aA) nil) (c (cl (gs b9.b.1 aA) nil) (cl (cl (gs Bc.b jY) nil) nil)))))))))))))))))))))
def Kq:=qe (res (pl aWx (pu (cu fL axb) nil)))
abbrev aaH:=Kq.B
abbrev awr:=ES.B->Option aaH
def aaI (g:awr):Ct:=(40,FC ES (lf Kq) g)
def aaJ (ue:K4)(x:ES.B):Pg aaH:=let n2:=x.2.2.2.2.2.2.2.2.2.2.2;let n1:=n2.2.2.2.2.2.2.2.2;let n3:=n1.2.2.2.2.2;ae (ww n2.1.2.2 n2.1.2.2) (opt (ue n2.1.1 n2.1.2.1 n2.1.2.2 n1.1 n1.2.1 n1.2.2.1 n1.2.2.2.1 n1.2.2.2.2.1 n3.1 n3.2.1 n3.2.2.1 n3.2.2.2.1 n3.2.2.2.2.1 n3.2.2.2.2.2) λd=>ret d) no
def aaK:=λx=>(aaJ A8 x).val
theorem aws:∀ue,D0 [K5 ue] 40 ES (lf Kq) λb=>aaJ ue b:=λ_ b=>by kernel_rfl
theorem awt [ax]:SC (aaI aaK):=s0 (.c aen (.nil _)) (aws A8)
def o9:=qa (pr (cu jG jc) (cd wB λb0=>(c np (c oD (c (cl (gs b0.c.1 pj) nil) (cd xC λb4=>(cd qP λb5=>(cd qQ λb6=>(cd qR λb7=>(cd qS λb8=>(cd qT λb9=>(c nP (cd zG λBc=>(c (cl (gs b0.e mY) nil) (c (cl (gs b4.b.1 aA) nil) (c (cl (gs b5.b.1 aA) nil) (c (cl (gs b6.b.1 aA) nil) (c (cl (gs b7.b.1 aA) nil) (c (cl (gs b8.b.1 aA) nil) (c (cl (gs b9.b.1 aA) nil) (cl (cl (gs Bc.b jY) nil) nil)))))))))))))))))))))
def Et:=qe (res (pl (aa aVN) (pu (cu fL axb) nil)))
abbrev F':=Et.B
abbrev Ga:=o9.B->Option F'
def RM (g:Ga):Ct:=(17,FC o9 (lf Et) g)
def zm (sD:IJ)(x:o9.B):Pg F':=let n1:=x.2.2.2.2.2.2.2.2.2.2.2.1;let n2:=n1.1.2.2;opt (sD x.1 n1.1.1 n1.1.2.1 n2.1 n2.2.1 n2.2.2.1 n2.2.2.2 n1.2) λd=>ret d
def mO:=λx=>(zm ln x).val
theorem anS:∀sD,D0 [IK sD] 17 o9 (lf Et) λb=>zm sD b:=λ_ b=>by kernel_rfl
theorem anT [ax]:SC (RM mO):=s0 (.c acY (.nil _)) (anS ln)
def gu:=qa (pr (cu jG Ea) (cd wB λb0=>(c np (c oD (c (cl (gs b0.c.1 pj) nil) (cd xC λb4=>(cd qP λb5=>(cd qQ λb6=>(cd qR λb7=>(cd qS λb8=>(cd qT λb9=>(c nP (cd zG λBc=>(c (cl (gs b0.e mY) nil) (c (cl (gs b4.b.1 aA) nil) (c (cl (gs b5.b.1 aA) nil) (c (cl (gs b6.b.1 aA) nil) (c (cl (gs b7.b.1 aA) nil) (c (cl (gs b8.b.1 aA) nil) (c (cl (gs b9.b.1 aA) nil) (cl (cl (gs Bc.b jY) nil) nil)))))))))))))))))))))
def Vp:=qe (res (pu QP (pr (c (zD (a 26 xD (c gb (c iR (a 2 zH (cu akn (cu ako (c aI5 (au 6 aky (cu at3 (a 4 E7 (cu at4 (c gb (c gi (a 3 mX (c gb (c gb (cu awZ aQs)))))))))))))))))) aQu) aJE)))
def ET:=qe asj
abbrev sE:=(((E4×Bool×NI×(NI×NI)×Nat×qE×Bool×Int×lG×Bool×Bool×Int×Int×D9×Nat)×aR1×Int)×NI×NI×NI×NI×NI×NI×NI×NI×NI×NI)⊕ET.B
def IT:sE->T:=ls (λd=>lf Vp (((d.1.1.1,d.1.1.2.1,d.1.1.b.1,d.1.1.b.2.1,d.1.1.c.1,d.1.1.c.2.1,d.1.1.c.b.1,d.1.1.c.b.2.1,d.1.1.d.1,d.1.1.d.2.1,d.1.1.d.b.1,d.1.1.d.b.2.1,d.1.1.d.b.2),d.1.2),d.1.1.d.c.b,d.2)) (lf ET)
abbrev IU:=gu.B->Option sE
def IV (g:IU):Ct:=(168,FC gu IT g)
def Ai (vv:ag9)(CX:YD)(dx:Aw)(GU:aeb)(CY:XR)(Gb:amY)(bf:rE)(eC:F6)(gH:FR)(x:gu.B):Pg sE:=let n25:=x.1.2.2.2;let n22:=x.2.1.1;let n58:=n22.2.2.2.2;let n9:=x.2.1.2.2;let bK:=n9.2.2.2.2.2.2.2.2.2;let n7:=x.2.2;let n47:=n7.2.1;let n16:=n7.2.2;let n32:=n16.2.1;let n4:=n16.2.2;let n33:=n4.2.1;let n23:=n4.2.2.1;let n6:=n4.2.2.2;let n34:=n6.2.1;let n17:=n6.2.2.2;let y0:=n9.2.2.2.1.2.1==2;let y1:=ww n9.2.2.1 n9.2.2.1;let y2:=ww bK.2.2.2.2.2 bK.2.2.2.2.2;let y3:=ww n32.2.2.1 n32.2.2.1;let y4:=ww n4.1.2.2.1 n4.1.2.2.1;let y5:=ww n33.2.2.1 n33.2.2.1;let y6:=ww n23.2.2.1 n23.2.2.1;let y7:=ww n6.1.2.2.1 n6.1.2.2.1;let y8:=ww n34.2.2.1 n34.2.2.1;let y9:=ww n17.1.2.2 n17.1.2.2;opt (vv x.1.1 x.1.2.1 x.1.2.2.1 n25.1 n25.2.1 n25.2.2.1 n25.2.2.2.1 n25.2.2.2.2.1 n25.2.2.2.2.2 x.2.1.2.1) λd=>let n57:=d.1.1;let bA:=n57.2.2;let n38:=bA.2.2;let n1:=((n57.1,n57.2.1,bA.1),(bA.2.1,n38.1,n38.2.1),n38.2.2);let n3:=(CX (n1,(n22,d.2,n9),n7));let n2:=(n9.1,n1,n58.1.1);ae (!bK.1) (ae y1 (ae y2 (ae y3 (ae y4 (ae y5 (ae y6 (ae y7 (ae y8 (ae y9 (opt n3 λd=>let aT:=d.1.2.2.2.2;let n26:=aT.2.2.2.2;let n48:=n26.2.2.2.2.2;ae (ww aT.1 aT.1) (ae (ww n48.2.2.2 n48.2.2.2) (ae y3 (ae y4 (ae y5 (ae y6 (ae y7 (ae y8 (ae y9 (opt (dx (0,d.1,n7.1,n47,n16.1,n32,n4.1,n33,n23,n6.1,n34,n6.2.2.1,n17.1,d.2,n17.2.2)) λaj=>ret (wr (((d.1.1,d.1.2.1,d.1.2.2.1,d.1.2.2.2.1,aT.1,aT.2.1,aT.2.2.1,aT.2.2.2.1,n26.1,n26.2.1,n26.2.2.1,n48),aj),d.2))) no) no) no) no) no) no) no) no) no) no) no) no) no) no) no) no) no) no) (ae (decide (wI (bK.2.2.1-bK.2.1)>n58.2.2.2.2.1)) (ae y1 (ae y2 (ae y3 (ae y4 (ae y5 (ae y6 (ae y7 (ae y8 (ae y9 (opt n3 λd=>let bj:=d.1.2.2.2.2;let n27:=bj.2.2.2.2;let n49:=n27.2.2.2.2.2;ae (ww bj.1 bj.1) (ae (ww n49.2.2.2 n49.2.2.2) (ae y3 (ae y4 (ae y5 (ae y6 (ae y7 (ae y8 (ae y9 (opt (dx (0,d.1,n7.1,n47,n16.1,n32,n4.1,n33,n23,n6.1,n34,n6.2.2.1,n17.1,d.2,n17.2.2)) λaj=>ret (wr (((d.1.1,d.1.2.1,d.1.2.2.1,d.1.2.2.2.1,bj.1,bj.2.1,bj.2.2.1,bj.2.2.2.1,n27.1,n27.2.1,n27.2.2.1,n49),aj),d.2))) no) no) no) no) no) no) no) no) no) no) no) no) no) no) no) no) no) no) (opt (GU n9.1 n57.1 n57.2.1 bA.1 bA.2.1 n38.1 n38.2.1 n38.2.2.1 n38.2.2.2 n58.1.1 d.2) λaj=>let n35:=aj.2.1;let n24:=aj.2.2.1;let n8:=aj.2.2.2;let n55:=n8.2.2.1;let n36:=n8.2.1;let n5:=n8.2.2.2;let n56:=n5.2.2.1;let bx:=n5.2.2.2;let n37:=bx.2.2;opt (CY (n2,aj.1,n7.1)) λaD=>sm aD (λbC=>ae y0 (opt (Gb (n2,bC.2,n7.1)) λd=>ae y1 (ae y2 (ae y3 (ae y4 (ae y5 (ae y6 (ae y7 (ae y8 (ae y9 (opt (bf ((0,4,true),(n22,d.2,n9),(ay1 (λk=>cr (n35 k) [d.1.1.1 k,bx.1 k,n55 k,n35 k]) (cr n24 [d.1.1.2.1,bx.2.1,n5.1,n24],cr n8.1 [d.1.1.2.2.1,n37.1,n5.2.1,n8.1],cr n36 [d.1.1.2.2.2,n37.2,n56,n36])),n7)) λd=>let n39:=d.2.2;let n18:=d.2.1;let n50:=n18.1.2.2.2.2;let TX:=n18.2.1.2;let n28:=n50.2.2.2.2.2.2.2.2.2.2.2.2;let y0:=wI (wl d.1-1);let y1:=ws y0;ae (ww d.1 d.1) (ae (ww n50.1 n50.1) (ae (ww n28 n28) (ae y3 (ae y4 (ae y5 (ae y6 (ae y7 (ae y8 (ae y9 (opt (eC ((d.1,true),n18.1,n39,n7.1,n47,n16.1,n32,n4.1,n33,n23,n6.1,n34,n18.2,n17)) λcM=>ae (cM.2.2.2.2.2.1.2.1==2) (ae (bb 2 d.1) (ae (bb y0 d.1) (opt (gH (n39.1 2) (n39.2.1 2) (n39.2.2 2) (n39.1 y1) (n39.2.1 y1) (n39.2.2 y1) n18.2.1.1 TX.1 TX.2.1 TX.2.2.1 TX.2.2.2.1 TX.2.2.2.2 n18.2.2) λd=>ret (wn (cM,d))) no) no) (ret (wn (cM,n18.2)))) no) no) no) no) no) no) no) no) no) no) no) no) no) no) no) no) no) no) no) (ae y1 (ae y2 (ae y3 (ae y4 (ae y5 (ae y6 (ae y7 (ae y8 (ae y9 (opt (bf ((0,3,true),(n22,bC.2,n9),(ay1 (λk=>cr (n35 k) [bx.1 k,n55 k,n35 k]) (cr n24 [bx.2.1,n5.1,n24],cr n8.1 [n37.1,n5.2.1,n8.1],cr n36 [n37.2,n56,n36])),n7)) λd=>let PC:=d.2.2;let n19:=d.2.1;let n51:=n19.1.2.2.2.2;let TY:=n19.2.1.2;let n29:=n51.2.2.2.2.2.2.2.2.2.2.2.2;let y0:=wI (wl d.1-1);let y1:=ws y0;ae (ww d.1 d.1) (ae (ww n51.1 n51.1) (ae (ww n29 n29) (ae y3 (ae y4 (ae y5 (ae y6 (ae y7 (ae y8 (ae y9 (opt (eC ((d.1,true),n19.1,PC,n7.1,n47,n16.1,n32,n4.1,n33,n23,n6.1,n34,n19.2,n17)) λcM=>ae (cM.2.2.2.2.2.1.2.1==2) (ae (bb 2 d.1) (ae (bb y0 d.1) (opt (gH (PC.1 2) (PC.2.1 2) (PC.2.2 2) (PC.1 y1) (PC.2.1 y1) (PC.2.2 y1) n19.2.1.1 TY.1 TY.2.1 TY.2.2.1 TY.2.2.2.1 TY.2.2.2.2 n19.2.2) λd=>ret (wn (cM,d))) no) no) (ret (wn (cM,n19.2)))) no) no) no) no) no) no) no) no) no) no) no) no) no) no) no) no) no) no) no)) (λbC=>let n59:=bC.2.2;let n15:=n59.2.2;let n52:=n15.2.2;ae y0 (opt (Gb (n2,bC.1,n7.1)) λd=>ae y1 (ae y2 (ae y3 (ae y4 (ae y5 (ae y6 (ae y7 (ae y8 (ae y9 (opt (bf ((0,6,true),(n22,d.2,n9),(ay1 (λk=>cr (n35 k) [d.1.1.1 k,n15.2.1 k,bC.2.1 k,bx.1 k,n55 k,n35 k]) (cr n24 [d.1.1.2.1,n52.1,n59.1,bx.2.1,n5.1,n24],cr n8.1 [d.1.1.2.2.1,n52.2.1,n59.2.1,n37.1,n5.2.1,n8.1],cr n36 [d.1.1.2.2.2,n52.2.2,n15.1,n37.2,n56,n36])),n7)) λd=>let n43:=d.2.2;let n20:=d.2.1;let n53:=n20.1.2.2.2.2;let n44:=n20.2.1.2;let n30:=n53.2.2.2.2.2.2.2.2.2.2.2.2;let y0:=wI (wl d.1-1);let y1:=ws y0;ae (ww d.1 d.1) (ae (ww n53.1 n53.1) (ae (ww n30 n30) (ae y3 (ae y4 (ae y5 (ae y6 (ae y7 (ae y8 (ae y9 (opt (eC ((d.1,true),n20.1,n43,n7.1,n47,n16.1,n32,n4.1,n33,n23,n6.1,n34,n20.2,n17)) λcM=>ae (cM.2.2.2.2.2.1.2.1==2) (ae (bb 2 d.1) (ae (bb y0 d.1) (opt (gH (n43.1 2) (n43.2.1 2) (n43.2.2 2) (n43.1 y1) (n43.2.1 y1) (n43.2.2 y1) n20.2.1.1 n44.1 n44.2.1 n44.2.2.1 n44.2.2.2.1 n44.2.2.2.2 n20.2.2) λd=>ret (wn (cM,d))) no) no) (ret (wn (cM,n20.2)))) no) no) no) no) no) no) no) no) no) no) no) no) no) no) no) no) no) no) no) (ae y1 (ae y2 (ae y3 (ae y4 (ae y5 (ae y6 (ae y7 (ae y8 (ae y9 (opt (bf ((0,5,true),(n22,bC.1,n9),(ay1 (λk=>cr (n35 k) [n15.2.1 k,bC.2.1 k,bx.1 k,n55 k,n35 k]) (cr n24 [n52.1,n59.1,bx.2.1,n5.1,n24],cr n8.1 [n52.2.1,n59.2.1,n37.1,n5.2.1,n8.1],cr n36 [n52.2.2,n15.1,n37.2,n56,n36])),n7)) λd=>let n45:=d.2.2;let n21:=d.2.1;let n54:=n21.1.2.2.2.2;let n46:=n21.2.1.2;let n31:=n54.2.2.2.2.2.2.2.2.2.2.2.2;let y0:=wI (wl d.1-1);let y1:=ws y0;ae (ww d.1 d.1) (ae (ww n54.1 n54.1) (ae (ww n31 n31) (ae y3 (ae y4 (ae y5 (ae y6 (ae y7 (ae y8 (ae y9 (opt (eC ((d.1,true),n21.1,n45,n7.1,n47,n16.1,n32,n4.1,n33,n23,n6.1,n34,n21.2,n17)) λcM=>ae (cM.2.2.2.2.2.1.2.1==2) (ae (bb 2 d.1) (ae (bb y0 d.1) (opt (gH (n45.1 2) (n45.2.1 2) (n45.2.2 2) (n45.1 y1) (n45.2.1 y1) (n45.2.2 y1) n21.2.1.1 n46.1 n46.2.1 n46.2.2.1 n46.2.2.2.1 n46.2.2.2.2 n21.2.2) λd=>ret (wn (cM,d))) no) no) (ret (wn (cM,n21.2)))) no) no) no) no) no) no) no) no) no) no) no) no) no) no) no) no) no) no) no))))
def gv:=λx=>(Ai Cs mK fS A4 wP FG dw gk gE x).val
theorem ac6:∀vv CX dx GU CY Gb bf eC gH,D0 [aha vv,YE CX,Ax dx,aec GU,XS CY,amZ Gb,rF bf,F7 eC,FT gH] 168 gu IT λb=>Ai vv CX dx GU CY Gb bf eC gH b:=λ_ _ _ _ _ _ _ _ _ b=>by kernel_rfl
theorem ac7 [ax]:SC (IV gv):=s0 (.c avU (.c atx (.c HW (.c ayk (.c atd (.c aFq (.c xc (.c RK (.c Ya (.nil _)))))))))) (ac6 Cs mK fS A4 wP FG dw gk gE)
def fV:=qa (pr (cu jG (c ai Ea)) (cd wB λb0=>(c np (c oD (c (cl (gs b0.c.1 pj) nil) (cd xC λb4=>(cd qP λb5=>(cd qQ λb6=>(cd qR λb7=>(cd qS λb8=>(cd qT λb9=>(c nP (cd zG λBc=>(c (cl (gs b0.e mY) nil) (c (cl (gs b4.b.1 aA) nil) (c (cl (gs b5.b.1 aA) nil) (c (cl (gs b6.b.1 aA) nil) (c (cl (gs b7.b.1 aA) nil) (c (cl (gs b8.b.1 aA) nil) (c (cl (gs b9.b.1 aA) nil) (cl (cl (gs Bc.b jY) nil) nil)))))))))))))))))))))
def ae4:=qe (res (pr ab (pr (cl (zD (a 26 xD (c gb (c iR (a 2 zH (cu (gp 20 5) (cu (gp 21 10) (c (gc (jr (pu (nat 22) (pu (ox (pu eS (pu eS G7))) (pl mg (pu G7 jP)))))) aWZ)))))))) aDj) aW6)))
abbrev kH:=(Bool×(E4×Bool×NI×(NI×NI)×Nat×qE×Bool×Int×lG×Bool×Bool×Bool×Int×Int×Int×D9×Nat)×(lG×Int×Int)×Lk×aU0×bN×bN×bN×bN×bN×bN×Lg×tQ×aMj×At×At×At×At×At×At×NI×NI×NI×NI×NI×NI×NI×NI×NI×NI×NI)
def Nu:kH->T:=λd=>lf ae4 (d.1,d.2.1,d.b.1,d.b.2.1,(d.2.1.c.1,d.c.1),d.c.2.1,d.c.b.1,d.c.b.2.1,d.d.1,d.d.2.1,d.d.b.1,d.d.b.2.1,d.d.c.1,(d.2.1.e,d.d.c.2.1),d.d.c.b.1,d.d.c.b.2.1,d.e.1,d.e.2.1,d.e.b.1,d.e.b.2.1,d.d.c.1.b,d.e.c)
abbrev C':=fV.B->Option kH
def Nv (g:C'):Ct:=(22,FC fV Nu g)
def pS (aTY:ayu)(fR:A9)(aCu:TV)(nM:Em)(rL:Kc)(x:fV.B):Pg kH:=let n30:=x.1.1;let n28:=x.1.2;let n29:=n28.2.2.2.2;let n23:=x.2.1;let n19:=x.2.2;let n24:=n19.2.1;let bK:=n19.2.2;let n20:=bK.2.1;let n17:=bK.2.2;let n33:=n17.1.2.2.1;let n21:=n17.2.1;let bA:=n17.2.2;let n34:=bA.1.2.2.1;let n22:=bA.2.1;let n18:=bA.2.2;let n35:=n18.1.2.2.1;let n25:=n18.2.1;let n15:=n18.2.2;let n31:=n15.2.2;let n27:=n15.2.1;let n26:=n31.2.2;let n32:=n26.2.2;let n16:=n32.2.2;let bx:=(nM (n20,n31.1));let bj:=(nM (n17.1,n31.2.1));let aT:=(nM (n21,n26.1));let n9:=(nM (bA.1,n26.2.1));let n8:=(nM (n22,n32.1));let n7:=(nM (n18.1,n32.2.1));let n6:=(n20.2.2.1,n31.1);let n5:=(n33,n31.2.1);let n4:=(n21.2.2.1,n26.1);let n3:=(n34,n26.2.1);let n2:=(n22.2.2.1,n32.1);let n1:=(n35,n32.2.1);let y0:=bb n30 6;let y1:=n30==1;let y2:=n30==4;let y3:=n30==3;let y4:=n30==2;let y5:=n30==5;let y6:=ww n20.2.2.1 n20.2.2.1;let y7:=ww n33 n33;let y8:=ww n21.2.2.1 n21.2.2.1;let y9:=ww n34 n34;let Ah:=ww n22.2.2.1 n22.2.2.1;let vu:=ww n35 n35;opt (aTY n30) λd=>ae (!d) (ret (false,n23,n19.1,n24,bK.1,n20,n17.1,n21,bA.1,n22,n18.1,n25,n15.1,n27,n6,n5,n4,n3,n2,n1,n16)) (opt (fR n28.1 0 1125899906842624) λd=>ae (!d) (ae y0 (ae y5 (ae vu (opt n7 λd=>ret (false,n23,n19.1,n24,bK.1,n20,n17.1,n21,bA.1,n22,d,n25,n15.1,n27,n6,n5,n4,n3,n2,n1,n16)) no) (ae y2 (ae Ah (opt n8 λd=>ret (false,n23,n19.1,n24,bK.1,n20,n17.1,n21,bA.1,d,n18.1,n25,n15.1,n27,n6,n5,n4,n3,n2,n1,n16)) no) (ae y3 (ae y9 (opt n9 λd=>ret (false,n23,n19.1,n24,bK.1,n20,n17.1,n21,d,n22,n18.1,n25,n15.1,n27,n6,n5,n4,n3,n2,n1,n16)) no) (ae y4 (ae y8 (opt aT λd=>ret (false,n23,n19.1,n24,bK.1,n20,n17.1,d,bA.1,n22,n18.1,n25,n15.1,n27,n6,n5,n4,n3,n2,n1,n16)) no) (ae y1 (ae y7 (opt bj λd=>ret (false,n23,n19.1,n24,bK.1,n20,d,n21,bA.1,n22,n18.1,n25,n15.1,n27,n6,n5,n4,n3,n2,n1,n16)) no) (ae y6 (opt bx λd=>ret (false,n23,n19.1,n24,bK.1,d,n17.1,n21,bA.1,n22,n18.1,n25,n15.1,n27,n6,n5,n4,n3,n2,n1,n16)) no)))))) no) (opt (aCu n30 n28.1 n28.2.1 n28.2.2.1 n28.2.2.2.1 n29.1 n29.2.1 n29.2.2.1 n29.2.2.2.1 n29.2.2.2.2) λd=>ae (!d) (ae y0 (ae y5 (ae vu (opt n7 λd=>ret (false,n23,n19.1,n24,bK.1,n20,n17.1,n21,bA.1,n22,d,n25,n15.1,n27,n6,n5,n4,n3,n2,n1,n16)) no) (ae y2 (ae Ah (opt n8 λd=>ret (false,n23,n19.1,n24,bK.1,n20,n17.1,n21,bA.1,d,n18.1,n25,n15.1,n27,n6,n5,n4,n3,n2,n1,n16)) no) (ae y3 (ae y9 (opt n9 λd=>ret (false,n23,n19.1,n24,bK.1,n20,n17.1,n21,d,n22,n18.1,n25,n15.1,n27,n6,n5,n4,n3,n2,n1,n16)) no) (ae y4 (ae y8 (opt aT λd=>ret (false,n23,n19.1,n24,bK.1,n20,n17.1,d,bA.1,n22,n18.1,n25,n15.1,n27,n6,n5,n4,n3,n2,n1,n16)) no) (ae y1 (ae y7 (opt bj λd=>ret (false,n23,n19.1,n24,bK.1,n20,d,n21,bA.1,n22,n18.1,n25,n15.1,n27,n6,n5,n4,n3,n2,n1,n16)) no) (ae y6 (opt bx λd=>ret (false,n23,n19.1,n24,bK.1,d,n17.1,n21,bA.1,n22,n18.1,n25,n15.1,n27,n6,n5,n4,n3,n2,n1,n16)) no)))))) no) (ae y0 (ae y5 (ae vu (opt (rL (n28,n18.1,n32.2.1)) λd=>sm d (λd=>ret (false,n23,n19.1,n24,bK.1,n20,n17.1,n21,bA.1,n22,d,n25,n15.1,n27,n6,n5,n4,n3,n2,n1,n16)) (λd=>ret (d.1,n23,n19.1,n24,bK.1,n20,n17.1,n21,bA.1,n22,d.2.1,n25,n15.1,n27,n6,n5,n4,n3,n2,(d.2.1.2.2.1,d.2.2),n16))) no) (ae y2 (ae Ah (opt (rL (n28,n22,n32.1)) λd=>sm d (λd=>ret (false,n23,n19.1,n24,bK.1,n20,n17.1,n21,bA.1,d,n18.1,n25,n15.1,n27,n6,n5,n4,n3,n2,n1,n16)) (λd=>ret (d.1,n23,n19.1,n24,bK.1,n20,n17.1,n21,bA.1,d.2.1,n18.1,n25,n15.1,n27,n6,n5,n4,n3,(d.2.1.2.2.1,d.2.2),n1,n16))) no) (ae y3 (ae y9 (opt (rL (n28,bA.1,n26.2.1)) λd=>sm d (λd=>ret (false,n23,n19.1,n24,bK.1,n20,n17.1,n21,d,n22,n18.1,n25,n15.1,n27,n6,n5,n4,n3,n2,n1,n16)) (λd=>ret (d.1,n23,n19.1,n24,bK.1,n20,n17.1,n21,d.2.1,n22,n18.1,n25,n15.1,n27,n6,n5,n4,(d.2.1.2.2.1,d.2.2),n2,n1,n16))) no) (ae y4 (ae y8 (opt (rL (n28,n21,n26.1)) λd=>sm d (λd=>ret (false,n23,n19.1,n24,bK.1,n20,n17.1,d,bA.1,n22,n18.1,n25,n15.1,n27,n6,n5,n4,n3,n2,n1,n16)) (λd=>ret (d.1,n23,n19.1,n24,bK.1,n20,n17.1,d.2.1,bA.1,n22,n18.1,n25,n15.1,n27,n6,n5,(d.2.1.2.2.1,d.2.2),n3,n2,n1,n16))) no) (ae y1 (ae y7 (opt (rL (n28,n17.1,n31.2.1)) λd=>sm d (λd=>ret (false,n23,n19.1,n24,bK.1,n20,d,n21,bA.1,n22,n18.1,n25,n15.1,n27,n6,n5,n4,n3,n2,n1,n16)) (λd=>ret (d.1,n23,n19.1,n24,bK.1,n20,d.2.1,n21,bA.1,n22,n18.1,n25,n15.1,n27,n6,(d.2.1.2.2.1,d.2.2),n4,n3,n2,n1,n16))) no) (ae y6 (opt (rL (n28,n20,n31.1)) λd=>sm d (λd=>ret (false,n23,n19.1,n24,bK.1,d,n17.1,n21,bA.1,n22,n18.1,n25,n15.1,n27,n6,n5,n4,n3,n2,n1,n16)) (λd=>ret (d.1,n23,n19.1,n24,bK.1,d.2.1,n17.1,n21,bA.1,n22,n18.1,n25,n15.1,n27,(d.2.1.2.2.1,d.2.2),n5,n4,n3,n2,n1,n16))) no)))))) no)))
def dK:=λx=>(pS Pz og DL ji oG x).val
abbrev Da:=ayu×A9×TV×Em×Kc
def Nw (p:Da):KK:=⟨[aIu p.1,Ye p.2.1,ajy p.b.1,N3 p.b.2.1,Ys p.c],⟨[],[],(0::rg 4 6 []),[],(some ⟨0,(rg 0 6 (rg 7 28 [])),[(3,[]),(4,[]),(5,[]),(6,[]),(7,[]),(8,[]),(9,[]),(10,[]),(11,[]),(12,[]),(13,[]),(14,[]),(15,[]),(16,[]),(17,[]),(18,[]),(19,[]),(20,[]),(21,[]),(0,[])]⟩)⟩,0,22⟩
theorem ahL (p:Da):D2 (Nw p) fV Nu λb=>pS p.1 p.2.1 p.b.1 p.b.2.1 p.c b:=λb=>by kernel_rfl
abbrev Nx:Da:=(Pz,og,DL,ji,oG)
theorem ahM [ax]:SC (Nv dK):=sc (kS (k:=Nw Nx) (.c aTT (.c anz (.c aCi (.c aj2 (.c atn (.nil _)))))) [] [] trivial trivial (ahL Nx))
end Go.Proofs.YtldgljclcgaibaaGreat
