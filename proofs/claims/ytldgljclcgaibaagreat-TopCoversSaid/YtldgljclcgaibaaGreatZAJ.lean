/-
  Parts of the proof: Q4 TI TJ TK TL TM TN TO
-/
import Derived.Test.YtldgljclcgaibaaGreatZAE
import Derived.Test.YtldgljclcgaibaaGreatZAI
open Nat renaming beq→z9,ble→wl,blt→v9
open Int renaming toNat→z4,ofNat→wr,tdiv→t8
open Sum renaming inl→ww,inr→ws,elim→t9
set_option linter.unusedVariables false
set_option linter.unusedSimpArgs false
set_option maxRecDepth 100000
set_option maxHeartbeats 4000000
noncomputable section
namespace Go.Proofs.YtldgljclcgaibaaGreat
open Go.Ab Go.Ab.Pg Go.Ab.Rq
def awK:=qa (pr (cu aS afK) bJ)
def adj:=qe (res (pr (aa axv) (pl mF nil)))
abbrev awL:=adj.B
abbrev uN:=NI->Int->Bool->Option awL
def Hk (g:uN):Ct:=(103,FC awK (lf adj) (λb=>g b.1.1 b.1.2 b.2))
def ahT (aR:fC)(bn:ey)(bN:lU)(x0:Nat->Int)(x1:Int)(x2:Bool):Pg awL:=opt (aR x0 x2) λd=>opt (bn d.1) λak=>opt (bN d.1 4) λaF=>opt (bN d.1 7) λbA=>ret ((x1,ak.1,ak.2.1,ak.2.2.1,ak.2.2.2,aF.1,aF.2.1,aF.2.2,bA),d.2)
def mq:=λx0 x1 x2=>(ahT cg cC eV x0 x1 x2).val
theorem aLM:∀aR bn bN,D0 [jl aR,jM bn,rQ bN] 103 awK (lf adj) λb=>ahT aR bn bN b.1.1 b.1.2 b.2:=λ_ _ _ b=>by kernel_rfl
theorem Nf [aA]:SC (Hk mq):=s0 (.c kn (.c kM (.c vE (.nil _)))) (aLM cg cC eV)
def arG:=qa (pl (c lz (cl aP0 nil)) nil)
def YF:=qe aPH
abbrev arH:=YF.B
abbrev Ej:=NI->Int->Int->Int->Int->Int->Int->Int->Int->Int->Int->Int->Option arH
def QR (g:Ej):Ct:=(105,FC arG (lf YF) (λb=>g b.1 b.2.1 b.b.1.1 b.b.1.2.1 b.b.1.b.1 b.b.1.b.2 b.b.2.1.1 b.b.2.1.2.1 b.b.2.1.b b.c.1 b.c.2.1 b.c.b))
def adk (cW:z6)(x0:Nat->Int)(x1:Int)(x2:Int)(x3:Int)(x4:Int)(x5:Int)(x6:Int)(x7:Int)(x8:Int)(x9:Int)(fU:Int)(fV:Int):Pg arH:=opt (cW x0 0 4 (cr x2 [x5,x4,x3,x2]) false) λd=>opt (cW d 4 3 (cr x6 [x8,x7,x6]) false) λd=>opt (cW d 7 3 (cr x9 [fV,fU,x9]) false) λd=>ret d
def rW:=λx0 x1 x2 x3 x4 x5 x6 x7 x8 x9 fU fV=>(adk eW x0 x1 x2 x3 x4 x5 x6 x7 x8 x9 fU fV).val
theorem aHL:∀cW,D0 [Ee cW] 105 arG (lf YF) λb=>adk cW b.1 b.2.1 b.b.1.1 b.b.1.2.1 b.b.1.b.1 b.b.1.b.2 b.b.2.1.1 b.b.2.1.2.1 b.b.2.1.b b.c.1 b.c.2.1 b.c.b:=λ_ b=>by kernel_rfl
theorem adl [aA]:SC (QR rW):=s0 (.c IQ (.nil _)) (aHL eW)
def arI:=qa (pl abA nil)
def YG:=qe Fv
abbrev arJ:=YG.B
abbrev arK:=Int->Int->Int->Int->Int->Int->Int->Int->Option arJ
def arL (g:arK):Ct:=(101,FC arI (lf YG) (λb=>g b.1 b.2.1 b.b.1.1 b.b.1.2.1 b.b.1.b b.b.2.1 b.c.1 b.c.2))
def kq:=qs (st (pr (us 1 (cu Uv (us 2 (cl ai (us 21 aPC))))) (pl (cl zX nil) nil)))
def aa3:=qs (st (pu (us 2 (cu tQ (us 37 nil))) (pu nil nil)))
def aa4:=qs (st (pr (us 1 (cu Uv (us 2 (c ai (cl ab (us 20 aPC)))))) (pl (cl zX nil) nil)))
abbrev yD:=aa3.B⊕aa4.B
def ajK {ρ:Type}(x:yD)(K:AX->St->Option ρ):Option ρ:=(t9 (λd=>K .ret (aa3.em d)) (λd=>K (.ex 0) (aa4.em d))) x
def JO (c7:GX)(d:kq.B):PL kq yD:=let n2:=d.2.2.2;let n1:=n2.2.2.2;let y0:=bg d.1 3;let y1:=d.1==1;let y2:=d.1==2;let y3:=decide (d.1<3);ae y3 (ae y0 (ae y2 (opt (c7 n2.2.2.1) λak=>ae (decide (ak>34359738368)) (ret (ws (ww ()))) (ae y0 (ae y2 (opt (c7 n1.2.2) λaF=>ae (decide (aF>34359738368)) (ret (ws (ww ()))) (ret (ww (wI (d.1+1),d.2)))) (ae y1 (opt (c7 n1.2.1) λaF=>ae (decide (aF>34359738368)) (ret (ws (ww ()))) (ret (ww (wI (d.1+1),d.2)))) (opt (c7 n1.1) λaF=>ae (decide (aF>34359738368)) (ret (ws (ww ()))) (ret (ww (wI (d.1+1),d.2)))))) no)) (ae y1 (opt (c7 n2.2.1) λak=>ae (decide (ak>34359738368)) (ret (ws (ww ()))) (ae y0 (ae y2 (opt (c7 n1.2.2) λaF=>ae (decide (aF>34359738368)) (ret (ws (ww ()))) (ret (ww (wI (d.1+1),d.2)))) (ae y1 (opt (c7 n1.2.1) λaF=>ae (decide (aF>34359738368)) (ret (ws (ww ()))) (ret (ww (wI (d.1+1),d.2)))) (opt (c7 n1.1) λaF=>ae (decide (aF>34359738368)) (ret (ws (ww ()))) (ret (ww (wI (d.1+1),d.2)))))) no)) (opt (c7 n2.1) λak=>ae (decide (ak>34359738368)) (ret (ws (ww ()))) (ae y0 (ae y2 (opt (c7 n1.2.2) λaF=>ae (decide (aF>34359738368)) (ret (ws (ww ()))) (ret (ww (wI (d.1+1),d.2)))) (ae y1 (opt (c7 n1.2.1) λaF=>ae (decide (aF>34359738368)) (ret (ws (ww ()))) (ret (ww (wI (d.1+1),d.2)))) (opt (c7 n1.1) λaF=>ae (decide (aF>34359738368)) (ret (ws (ww ()))) (ret (ww (wI (d.1+1),d.2)))))) no)))) no) (ret (ws (ws ((d.1,y3),d.2))))
def JP:=bI (JO pV) 2000
def QS (dR:LT kq yD)(x0:Int)(x1:Int)(x2:Int)(x3:Int)(x4:Int)(x5:Int)(x6:Int)(x7:Int):Pg arJ:=opt (dR (0,x0,x1,x2,x3,x4,x5,x6,x7)) λx=>sum x (λd=>ret false) λd=>ae (decide (d.2.2.1>=1)) (ae (decide (d.2.2.1<=100000)) (ae (decide (d.2.1>=0)) (ret (decide (d.2.1<=1125899906842624))) (ret false)) (ret false)) (ret false)
def Ao:=λx0 x1 x2 x3 x4 x5 x6 x7=>(QS JP x0 x1 x2 x3 x4 x5 x6 x7).val
abbrev QT:=GX×(LT kq yD)
def adm (p:QT):KK:=⟨[V8 p.1],⟨[⟨2,(0::2::5::6::7::rg 9 4 (rg 20 6 (29::30::34::35::39::3::8::rg 13 7 []))),[]⟩],[fQ 2 0 kq ajK p.2],[],[],(some ⟨0,(0::1::rg 3 37 []),[]⟩)⟩,0,101⟩
theorem ayX (p:QT):LI (adm p) 2 kq ajK (JO p.1):=λ_ d c K=>by kernel_rfl
theorem aHM (p:QT):D2 (adm p) arI (lf YG) λb=>QS p.2 b.1 b.2.1 b.b.1.1 b.b.1.2.1 b.b.1.b b.b.2.1 b.c.1 b.c.2:=λb=>by kernel_rfl
abbrev adn:QT:=(pV,JP)
theorem aHN [aA]:SC (arL Ao):=sc (kS (k:=adm adn) (.c ad4 (.nil _)) [2] [] ⟨kL (ayX adn),trivial⟩ trivial (aHM adn))
def Ek:=qa (pr (cu aS (c (aa aDT) abA)) bJ)
def YH:=qe (res (pr (aa asw) (pl mF nil)))
abbrev arM:=YH.B
abbrev arN:=Ek.B->Option arM
def arO (g:arN):Ct:=(102,FC Ek (lf YH) g)
def QU (dN:Cv)(x:Ek.B):Pg arM:=let n2:=x.1.2.2.2;let n1:=x.1.1.2.2;opt (dN 2 x.2 (cr n1.1.1 [n2.1.1,n1.1.1]) (cr n1.1.2.1 [n2.1.2.1,n1.1.2.1]) (cr n1.1.2.2 [n2.1.2.2,n1.1.2.2]) true) λd=>opt (dN 2 d.2 (cr n1.2.1 [n2.2.1,n1.2.1]) (cr n1.2.2.1 [n2.2.2.1,n1.2.2.1]) (cr n1.2.2.2 [n2.2.2.2,n1.2.2.2]) true) λak=>ret ((x.1.2.1,wI (x.1.1.2.1+x.1.2.2.1),d.1.1,d.1.2.1,d.1.2.2,ak.1),ak.2)
def Ap:=λx=>(QU kE x).val
theorem aHO:∀dN,D0 [Kl dN] 102 Ek (lf YH) λb=>QU dN b:=λ_ b=>by kernel_rfl
theorem aHP [aA]:SC (arO Ap):=s0 (.c OX (.nil _)) (aHO kE)
def oK:=qa (pr (cu (app 0 10) (cu LA abA)) (c m8 bJ))
def EA:=qe (res (pr (rH (c (ra asw) (c (rc cb) afB))) (pl (c (zT m8) mF) nil)))
abbrev RN:=EA.B
abbrev Gm:=oK.B->Option RN
def RO (g:Gm):Ct:=(62,FC oK (lf EA) g)
def zj (QV:arK)(QW:arN)(x:oK.B):Pg RN:=let n3:=x.1.2.2;let n2:=x.2.1;let n1:=(QW ((n2.2.1,x.1),x.2.2));opt (QV x.1.1 x.1.2.1 n3.1.1 n3.1.2.1 n3.1.2.2 n3.2.1 n3.2.2.1 n3.2.2.2) λd=>ae (!d) (ret (((0,0,0,0,0,0,0,0),false,1),x.2)) (ae n2.2.2 (ae (decide (x.1.1<=n2.2.1.1)) (ret (((0,0,0,0,0,0,0,0),false,1),x.2)) (opt n1 λd=>let n4:=d.1.2;ae (decide (n4.1<n2.1)) (ret (((0,0,0,0,0,0,0,0),false,0),(n2.1,(d.1.1,n4.1,(n4.2.1,n4.2.2.1,n4.2.2.2.1),n4.2.2.2.2),true),d.2)) (ret ((d.1,true,0),(n2.1,(x.1.1,0,(0,0,0),0,0,0),true),d.2)))) (opt n1 λd=>let n5:=d.1.2;ae (decide (n5.1<n2.1)) (ret (((0,0,0,0,0,0,0,0),false,0),(n2.1,(d.1.1,n5.1,(n5.2.1,n5.2.2.1,n5.2.2.2.1),n5.2.2.2.2),true),d.2)) (ret ((d.1,true,0),(n2.1,(x.1.1,0,(0,0,0),0,0,0),true),d.2))))
def jt:=λx=>(zj Ao Ap x).val
theorem anP:∀QV QW,D1 [arL QV,arO QW] [0,1] 62 oK (lf EA) λb=>zj QV QW b:=λ_ _ b=>by kernel_rfl
theorem anQ [aA]:SC (RO jt):=s0 (.c aHN (.c aHP (.nil _))) (anP Ao Ap)
def jF:=qa (pr (cu KY (cu LA afK)) (cd afJ λb0=>(c xL (cl (cl (gs b0.b jo) nil) nil))))
def wY:=qe (res (pu Q' (pr (c (zT (c gi (cl gi (cu (gc (gr (pu rq7 (pu we (pu (szl Dx) (pu xK gB)))))) nil)))) Om) (cl axv nil))))
abbrev xZ:=wY.B
abbrev ya:=jF.B->Option xZ
def HI (g:ya):Ct:=(162,FC jF (lf wY) g)
def qA (jQ:uN)(x:jF.B):Pg xZ:=opt (jQ x.1.1 x.1.2 x.2.2.1) λd=>ret (((x.2.1.1,x.2.1.2.1),d.2),d.1)
def fF:=λx=>(qA mq x).val
theorem ZE:∀jQ,D0 [Hk jQ] 162 jF (lf wY) λb=>qA jQ b:=λ_ b=>by kernel_rfl
theorem ZF [aA]:SC (HI fF):=s0 (.c Nf (.nil _)) (ZE mq)
def nw:=qa (pr (cu KY (cu LA (c lz abA))) (cd afJ λb0=>(c xL (cl (cl (gs b0.b jo) nil) nil))))
def E4:=qe (res (pr ai (pl (c (zT afJ) Om) nil)))
def E5:=qe (res (pu (ac aJP) (pr (c (zT aJ2) (cl aup aMC)) aP2)))
abbrev rX:=E4.B⊕E5.B
def I':rX->T:=ls (lf E4) (lf E5)
abbrev nx:=nw.B->Option rX
def Aq (g:nx):Ct:=(63,FC nw I' g)
def Ar (vJ:Ej)(El:QJ)(jQ:uN)(x:nw.B):Pg rX:=let bB:=x.2.2.1;let n8:=x.2.1;let n6:=x.1.2.2;let n4:=x.2.2.2;let aT:=n4.2.2;let n2:=n8.2.2;let n1:=aT.2.2;let n5:=n1.2.2.2;let bh:=n5.2.2;let y0:=wr n2;let y1:=n2+1;let y2:=wI (y0-1);let y3:=z4 y2;let y4:=y1-1;let y5:=0+y4;ae (y0==0) (ret (ww (4,n8,bB))) (ae (bg y2 n2) (ae (decide (n6.1<1)) (ret (ww (1,n8,bB))) (ae (decide (x.1.2.1<=n4.1 y3)) (ret (ww (1,n8,bB))) (opt (vJ x.1.1 (n4.1 y3) (n4.2.1 y3) (aT.1 y3) (aT.2.1 y3) (n1.1 y3) (n1.2.1 y3) (n1.2.2.1 y3) (n5.1 y3) (n5.2.1 y3) (bh.1 y3) (bh.2 y3)) λd=>opt (El d x.1.2.1 n6.1 n6.2.1.1 n6.2.1.2.1 n6.2.1.2.2 n6.2.2.1 n6.2.2.2.1 n6.2.2.2.2 bB) λd=>opt (jQ d.1 x.1.2.1 d.2) λd=>let n7:=d.1.2.2;let n3:=n7.2.2.2;let n9:=n3.2.2.2;ae (wl (y1*88) 140737488355328) (ae (decide (wr y1>n8.1)) (ae (HF 1 y1) (ae (wl (y5*88) 140737488355328) (ret (ws (((n8.1,n8.2.1,y5),d.2),y4,λj=>let y0:=1+j;bif z9 y0 n2 then d.1.1 else n4.1 y0,λj=>let y0:=1+j;bif z9 y0 n2 then d.1.2.1 else n4.2.1 y0,λj=>let y0:=1+j;bif z9 y0 n2 then n7.1 else aT.1 y0,λj=>let y0:=1+j;bif z9 y0 n2 then n7.2.1 else aT.2.1 y0,λj=>let y0:=1+j;bif z9 y0 n2 then n7.2.2.1 else n1.1 y0,λj=>let y0:=1+j;bif z9 y0 n2 then n3.1 else n1.2.1 y0,λj=>let y0:=1+j;bif z9 y0 n2 then n3.2.1 else n1.2.2.1 y0,λj=>let y0:=1+j;bif z9 y0 n2 then n3.2.2.1 else n5.1 y0,λj=>let y0:=1+j;bif z9 y0 n2 then n9.1 else n5.2.1 y0,λj=>let y0:=1+j;bif z9 y0 n2 then n9.2.1 else bh.1 y0,λj=>let y0:=1+j;bif z9 y0 n2 then n9.2.2 else bh.2 y0))) no) no) (ret (ws (((n8.1,n8.2.1,y1),d.2),y1,λj=>bif z9 j n2 then d.1.1 else n4.1 j,λj=>bif z9 j n2 then d.1.2.1 else n4.2.1 j,λj=>bif z9 j n2 then n7.1 else aT.1 j,λj=>bif z9 j n2 then n7.2.1 else aT.2.1 j,λj=>bif z9 j n2 then n7.2.2.1 else n1.1 j,λj=>bif z9 j n2 then n3.1 else n1.2.1 j,λj=>bif z9 j n2 then n3.2.1 else n1.2.2.1 j,λj=>bif z9 j n2 then n3.2.2.1 else n5.1 j,λj=>bif z9 j n2 then n9.1 else n5.2.1 j,λj=>bif z9 j n2 then n9.2.1 else bh.1 j,λj=>bif z9 j n2 then n9.2.2 else bh.2 j)))) no))) no)
def fR:=λx=>(Ar rW pg mq x).val
theorem ado:∀vJ El jQ,D1 [QR vJ,acH El,Hk jQ] [0,1] 63 nw I' λb=>Ar vJ El jQ b:=λ_ _ _ b=>by kernel_rfl
theorem Ja [aA]:SC (Aq fR):=s0 (.c adl (.c are (.c Nf (.nil _)))) (ado rW pg mq)
def Li:=qa (pu (cu KY nil) (cd (c gi (c gi (cl (gc (AG 1 11)) nil))) λb0=>(cl (cl (gs b0.b jo) nil) nil)))
def As:=qe (res (pl aWJ (pu aDG nil)))
abbrev Lj:=As.B
abbrev Lk:=Int->Int->Nat->NI->NI->NI->NI->NI->NI->NI->NI->NI->NI->NI->Option Lj
def Ll (g:Lk):Ct:=(75,FC Li (lf As) (λb=>g b.1.1 b.1.2.1 b.1.b b.2.1 b.b.1 b.b.2.1 b.c.1 b.c.2.1 b.c.b.1 b.c.b.2.1 b.d.1 b.d.2.1 b.d.b.1 b.d.b.2))
def Lm (x0:Int)(x1:Int)(x2:Nat)(x3:Nat->Int)(x4:Nat->Int)(x5:Nat->Int)(x6:Nat->Int)(x7:Nat->Int)(x8:Nat->Int)(x9:Nat->Int)(fU:Nat->Int)(fV:Nat->Int)(Et:Nat->Int)(x13:Nat->Int):Pg Lj:=let y0:=wI (wr x2-1);let y1:=z4 y0;ae (wr x2==0) (ret ((0,0,0,0,0,0,0,0,0,0,0),false)) (ae (bg y0 x2) (ret (((x3,x4,x5,x6,x7,x8,x9,fU,fV,Et,x13).1 y1,(x4,x5,x6,x7,x8,x9,fU,fV,Et,x13).1 y1,(x5,x6,x7,x8,x9,fU,fV,Et,x13).1 y1,(x6,x7,x8,x9,fU,fV,Et,x13).1 y1,(x7,x8,x9,fU,fV,Et,x13).1 y1,(x8,x9,fU,fV,Et,x13).1 y1,(x9,fU,fV,Et,x13).1 y1,(fU,fV,Et,x13).1 y1,(fV,Et,x13).1 y1,Et y1,x13 y1),true)) no)
def BB:=λx0 x1 x2 x3 x4 x5 x6 x7 x8 x9 fU fV Et x13=>(Lm x0 x1 x2 x3 x4 x5 x6 x7 x8 x9 fU fV Et x13).val
theorem aeI:D0 [] 75 Li (lf As) λb=>Lm b.1.1 b.1.2.1 b.1.b b.2.1 b.b.1 b.b.2.1 b.c.1 b.c.2.1 b.c.b.1 b.c.b.2.1 b.d.1 b.d.2.1 b.d.b.1 b.d.b.2:=λb=>by kernel_rfl
theorem aeJ [aA]:SC (Ll BB):=s0 (.nil _) aeI
def m5:=qa (pu (cu Uv nil) (cd akQ λb0=>(cl (cl (gs b0.b.1 aB) nil) nil)))
def CW:=qe (res (pu Q' (pl (cl (zT akQ) adF) nil)))
abbrev EB:=CW.B
abbrev EC:=m5.B->Option EB
def Oe (g:EC):Ct:=(57,FC m5 (lf CW) g)
def xG (x:m5.B):Pg EB:=ret ((wI (x.1.1.1+1),x.1.1.2.1,x.1.1.2.2.1,wI (x.1.1.2.2.2.1+1),x.1.1.2.2.2.2),x.1.2)
def kF:=λx=>(xG x).val
theorem akn:D0 [] 57 m5 (lf CW) λb=>xG b:=λb=>by kernel_rfl
theorem ako [aA]:SC (Oe kF):=s0 (.nil _) akn
def anR:=qa (pl Fw nil)
def T9:=qe Fv
abbrev anS:=T9.B
abbrev BC:=Int->Int->Int->Option anS
def YI (g:BC):Ct:=(41,FC anR (lf T9) (λb=>g b.1 b.2.1 b.b))
def Ng (x0:Int)(x1:Int)(x2:Int):Pg anS:=ae (decide (x0>=x1)) (ret (decide (x0<=x2))) (ret false)
def ny:=λx0 x1 x2=>(Ng x0 x1 x2).val
theorem aGm:D0 [] 41 anR (lf T9) λb=>Ng b.1 b.2.1 b.b:=λb=>by kernel_rfl
theorem anT [aA]:SC (YI ny):=s0 (.nil _) aGm
def awM:=qa (pl HV nil)
def aeK:=qe aDS
def aeL:=qe aWL
abbrev ahU:=aeK.B⊕aeL.B
def awN:ahU->T:=ls (lf aeK) (lf aeL)
abbrev ahV:=Int->Int->Int->Option ahU
def awO (g:ahV):Ct:=(42,FC awM awN (λb=>g b.1 b.2.1 b.b))
def ahW (cO:vI)(fa:WK)(av:cj)(eI:K9)(gN:Rn)(uO:agK)(aE:cN)(x0:Int)(x1:Int)(x2:Int):Pg ahU:=opt (cO x0 x1 x2) λd=>ae (!d) (ret (ww ())) (ae (decide (x0>850000000)) (ret (ww ())) (ae (decide (x0< -850000000)) (ret (ww ())) (opt (av x0 3373259426 1800000000 false) λd=>opt (eI d.1 d.2) λak=>opt (gN d.1 ak.2) λd=>opt (fa ak.1 ak.1 d.2) λaF=>opt (fa 7188036 aF.1 aF.2) λbA=>let y0:=wI (1073741824-bA.1);opt (uO y0 bA.2) λcD=>opt (aE 6531212288 cD.1 30 cD.2) λeU=>opt (fa 6531212288 1066553788 eU.2) λc8=>opt (fa y0 cD.1 c8.2) λmg=>opt (aE c8.1 mg.1 30 mg.2) λqX=>opt (av qX.1 3373259426 1800000000 qX.2) λpd=>opt (fa eU.1 d.1 pd.2) λd=>opt (av d.1 3373259426 1800000000 d.2) λd=>ret (ws (x0,x1,x2,pd.1,d.1)))))
def zk:=λx0 x1 x2=>(ahW gx wj aU oz sE Cn bk x0 x1 x2).val
theorem aLN:∀cO fa av eI gN uO aE,D0 [Af cO,WL fa,cZ av,K' eI,Ro gN,agL uO,gu aE] 42 awM awN λb=>ahW cO fa av eI gN uO aE b.1 b.2.1 b.b:=λ_ _ _ _ _ _ _ b=>by kernel_rfl
theorem aLO [aA]:SC (awO zk):=s0 (.c Eh (.c alF (.c dm (.c Rm (.c aam (.c avc (.c hX (.nil _)))))))) (aLN gx wj aU oz sE Cn bk)
def aBy:=qa (pr (cu azz Fw) (cl asr nil))
def ahX:=qe aWg
abbrev aBz:=ahX.B
abbrev anU:=Int->Int->Int->NI->Option aBz
def aBA (g:anU):Ct:=(74,FC aBy (lf ahX) (λb=>g b.1.1 b.1.2.1 b.1.b b.2))
def BD:=qs (st (pr (cu azz (us 1 (c ai (c ai (us 4 aVi))))) (pl J3 bK)))
def aHQ:=qs (st (pr (cu azz (us 1 (c ai (c ai (us 4 (c ai (us 1 (c ai aJU)))))))) (pl J3 bK)))
abbrev QX:=(aIf×NI)
def arP {ρ:Type}(x:QX)(K:AX->St->Option ρ):Option ρ:=(λd=>K (.ex 0) (aHQ.em ((d.1.1,d.1.2.1,d.1.b.1,d.1.b.1,d.1.1,d.1.b.2),d.2))) x
def arQ (d:BD.B):PL BD QX:=let n1:=d.1.2;let y0:=z4 n1.2;let y1:=decide (n1.2<d.1.1);ae y1 (ae (bg n1.2 24) (ae (true&&wl (0+y0*1+1) 24) (ret (ww ((d.1.1,n1.1,wI (n1.2+1)),λj=>bif z9 j y0 then n1.1 else d.2 j))) no) no) (ret (ws ((d.1.1,n1.1,n1.2,y1),d.2)))
def arR:=bI (arQ) 2000
def aBB (dR:LT BD QX)(x0:Int)(x1:Int)(x2:Int)(x3:Nat->Int):Pg aBz:=opt (dR ((x1,x2,x0),x3)) λd=>ret d.2
def anV:=λx0 x1 x2 x3=>(aBB arR x0 x1 x2 x3).val
abbrev aa5:=(LT BD QX)
def anW (p:aa5):KK:=⟨[],⟨[⟨1,(1::rg 4 4 (rg 9 11 [])),[]⟩],[fQ 1 1 BD arP p],[0],[],(some ⟨0,(rg 0 20 []),[]⟩)⟩,1,74⟩
theorem aGn (p:aa5):LI (anW p) 1 BD arP (arQ):=λ_ d c K=>by kernel_rfl
theorem aOr (p:aa5):D2 (anW p) aBy (lf ahX) λb=>aBB p b.1.1 b.1.2.1 b.1.b b.2:=λb=>by kernel_rfl
abbrev anX:aa5:=arR
theorem aOs [aA]:SC (aBA anV):=sc (kS (k:=anW anX) (.nil _) [1] [] ⟨kL (aGn anX),trivial⟩ trivial (aOr anX))
def anY:=qa (pu nil nil)
def T':=qe (res (pl (aa aQe) (pu nil nil)))
abbrev YJ:=T'.B
abbrev anZ:=Option YJ
def YK (g:anZ):Ct:=(38,FC anY (lf T') (λ_=>g))
def tI:=qs (st (pr (cu aDA (cu (app 1 72) (us 2 aVr))) (pl (c (so (cu aO (cu aO (cu aO (cu aO (cu aO (cu aO (cu aO (cu aO (cu aO (cu aO (cu aO (cu aO (cu aO (cu aO (cu aO (cu aO (c gJ (cl gJ aKr))))))))))))))))))) (cl (so aQe) nil)) nil)))
def aeM:=qs (st (pr (cu aDA (cu (app 1 72) (us 2 aVH))) (pl (c (so (cu aO (cu aO (cu aO (cu aO (cu aO (cu aO (cu aO (cu aO (cu aO (cu aO (cu aO (cu aO (cu aO (cu aO (cu aO (cu aO (c gJ (cl gJ aKr))))))))))))))))))) (cl (so aQe) nil)) nil)))
abbrev Hl:=aeM.B
def aeN {ρ:Type}:=@ef Hl ((.ex 0)) aeM ρ
def aeO (d:tI.B):PL tI Hl:=let n8:=d.2.1;let n4:=d.2.2.1;let n3:=d.2.2.2;let n9:=n3.2.1;let n5:=n3.2.2.1;let n1:=n3.2.2.2;let aT:=n1.2.1;let n6:=n1.2.2.1;let n2:=n1.2.2.2;let bh:=n2.2.1;let n7:=n2.2.2;let bC:=n7.2.1;let bB:=n7.2.2;let y0:=bg d.1 6;let y1:=d.1==5;let y2:=d.1==4;let y3:=d.1==1;let y4:=d.1==3;let y5:=d.1==2;let y6:=wI (d.1+1);let y7:=decide (d.1<6);ae y7 (ae y0 (ae y1 (ae y0 (ae y1 (ret (ww (y6,n8,n4,n3.1,n9,n5,n1.1,5,n6,n2.1,bh,n7.1,bC,1000000,bB.2))) (ae y2 (ret (ww (y6,n8,n4,n3.1,n9,n5,n1.1,5,n6,n2.1,bh,n7.1,1000000,bB))) (ae y4 (ret (ww (y6,n8,n4,n3.1,n9,n5,n1.1,5,n6,n2.1,bh,1000000,n7.2))) (ae y5 (ret (ww (y6,n8,n4,n3.1,n9,n5,n1.1,5,n6,n2.1,1000000,n7))) (ae y3 (ret (ww (y6,n8,n4,n3.1,n9,n5,n1.1,5,n6,1000000,n2.2))) (ret (ww (y6,n8,n4,n3.1,n9,n5,n1.1,5,1000000,n2)))))))) no) (ae y2 (ae y0 (ae y1 (ret (ww (y6,n8,n4,n3.1,n9,n5,5,aT,n6,n2.1,bh,n7.1,bC,1000000,bB.2))) (ae y2 (ret (ww (y6,n8,n4,n3.1,n9,n5,5,aT,n6,n2.1,bh,n7.1,1000000,bB))) (ae y4 (ret (ww (y6,n8,n4,n3.1,n9,n5,5,aT,n6,n2.1,bh,1000000,n7.2))) (ae y5 (ret (ww (y6,n8,n4,n3.1,n9,n5,5,aT,n6,n2.1,1000000,n7))) (ae y3 (ret (ww (y6,n8,n4,n3.1,n9,n5,5,aT,n6,1000000,n2.2))) (ret (ww (y6,n8,n4,n3.1,n9,n5,5,aT,1000000,n2)))))))) no) (ae y4 (ae y0 (ae y1 (ret (ww (y6,n8,n4,n3.1,n9,5,n1.1,aT,n6,n2.1,bh,n7.1,bC,1000000,bB.2))) (ae y2 (ret (ww (y6,n8,n4,n3.1,n9,5,n1.1,aT,n6,n2.1,bh,n7.1,1000000,bB))) (ae y4 (ret (ww (y6,n8,n4,n3.1,n9,5,n1.1,aT,n6,n2.1,bh,1000000,n7.2))) (ae y5 (ret (ww (y6,n8,n4,n3.1,n9,5,n1.1,aT,n6,n2.1,1000000,n7))) (ae y3 (ret (ww (y6,n8,n4,n3.1,n9,5,n1.1,aT,n6,1000000,n2.2))) (ret (ww (y6,n8,n4,n3.1,n9,5,n1.1,aT,1000000,n2)))))))) no) (ae y5 (ae y0 (ae y1 (ret (ww (y6,n8,n4,n3.1,5,n5,n1.1,aT,n6,n2.1,bh,n7.1,bC,1000000,bB.2))) (ae y2 (ret (ww (y6,n8,n4,n3.1,5,n5,n1.1,aT,n6,n2.1,bh,n7.1,1000000,bB))) (ae y4 (ret (ww (y6,n8,n4,n3.1,5,n5,n1.1,aT,n6,n2.1,bh,1000000,n7.2))) (ae y5 (ret (ww (y6,n8,n4,n3.1,5,n5,n1.1,aT,n6,n2.1,1000000,n7))) (ae y3 (ret (ww (y6,n8,n4,n3.1,5,n5,n1.1,aT,n6,1000000,n2.2))) (ret (ww (y6,n8,n4,n3.1,5,n5,n1.1,aT,1000000,n2)))))))) no) (ae y3 (ae y0 (ae y1 (ret (ww (y6,n8,n4,5,n9,n5,n1.1,aT,n6,n2.1,bh,n7.1,bC,1000000,bB.2))) (ae y2 (ret (ww (y6,n8,n4,5,n9,n5,n1.1,aT,n6,n2.1,bh,n7.1,1000000,bB))) (ae y4 (ret (ww (y6,n8,n4,5,n9,n5,n1.1,aT,n6,n2.1,bh,1000000,n7.2))) (ae y5 (ret (ww (y6,n8,n4,5,n9,n5,n1.1,aT,n6,n2.1,1000000,n7))) (ae y3 (ret (ww (y6,n8,n4,5,n9,n5,n1.1,aT,n6,1000000,n2.2))) (ret (ww (y6,n8,n4,5,n9,n5,n1.1,aT,1000000,n2)))))))) no) (ae y0 (ae y1 (ret (ww (y6,n8,5,n3.1,n9,n5,n1.1,aT,n6,n2.1,bh,n7.1,bC,1000000,bB.2))) (ae y2 (ret (ww (y6,n8,5,n3.1,n9,n5,n1.1,aT,n6,n2.1,bh,n7.1,1000000,bB))) (ae y4 (ret (ww (y6,n8,5,n3.1,n9,n5,n1.1,aT,n6,n2.1,bh,1000000,n7.2))) (ae y5 (ret (ww (y6,n8,5,n3.1,n9,n5,n1.1,aT,n6,n2.1,1000000,n7))) (ae y3 (ret (ww (y6,n8,5,n3.1,n9,n5,n1.1,aT,n6,1000000,n2.2))) (ret (ww (y6,n8,5,n3.1,n9,n5,n1.1,aT,1000000,n2)))))))) no)))))) no) (ret (ws ((d.1,y7),d.2)))
def aeP:=bI (aeO) 2000
def an0 (sM:anU)(dR:LT tI Hl):Pg YJ:=opt (dR (0,(λx=>0,λx=>0),0,0,0,0,0,0,0,0,0,0,0,0,λx=>0,λx=>0)) λd=>let n3:=d.2.2.2;let n1:=n3.2.2.2.2;let n2:=n1.2.2.2.2;opt (sM 0 24 16384 n2.2.2.2.1) λak=>opt (sM 0 4 1048576 ak) λaF=>opt (sM 4 7 17179869184 aF) λbA=>opt (sM 10 13 1024 bA) λcD=>opt (sM 13 16 65536 cD) λeU=>opt (sM 22 24 17179869184 eU) λc8=>opt (sM 0 24 17592186044416 n2.2.2.2.2) λmg=>opt (sM 0 4 68719476736 mg) λqX=>opt (sM 10 13 67108864 qX) λpd=>opt (sM 13 16 4294967296 pd) λjh=>opt (sM 16 22 17179869184 jh) λqc=>ret (d.2.2.1,n3.1,n3.2.1,n3.2.2.1,n3.2.2.2.1,n1.1,n1.2.1,n1.2.2.1,n1.2.2.2.1,n2.1,n2.2.1,n2.2.2.1,c8,qc)
def wZ:Option YJ:=(an0 anV aeP).val
abbrev Nh:=anU×(LT tI Hl)
def YL (p:Nh):KK:=⟨[aBA p.1],⟨[⟨3,(2::3::rg 5 32 []),[]⟩],[fQ 3 0 tI aeN p.2],[],[],(some ⟨0,(rg 1 36 []),[]⟩)⟩,0,38⟩
theorem awP (p:Nh):LI (YL p) 3 tI aeN (aeO):=λ_ d c K=>by kernel_rfl
theorem aGo (p:Nh):D2 (YL p) anY (lf T') λb=>an0 p.1 p.2:=λb=>by kernel_rfl
abbrev YM:Nh:=(anV,aeP)
theorem an1 [aA]:SC (YK wZ):=sc (kS (k:=YL YM) (.c aOs (.nil _)) [3] [] ⟨kL (awP YM),trivial⟩ trivial (aGo YM))
def aa6:=qa (pr (cu aS (c lz (c Fx (c afE iA)))) bJ)
def Kx:=qe (res (pr (rH (c afG (c akP (cl (ra (cu asq (cu aO (cu aO (cu aO (c gi (c gi (cl gi (cu aO (cu aO (cu aO (cu aPo nil)))))))))))) nil)))) (pl mF nil)))
abbrev aa7:=Kx.B
abbrev aa8:=NI->NI->NI->Int->Int->Int->Int->Bool->Option aa7
def aa9 (g:aa8):Ct:=(250,FC aa6 (lf Kx) (λb=>g b.1.1 b.1.2.1.1 b.1.2.1.2 b.1.b.1.1 b.1.b.1.2.1 b.1.b.1.b b.1.b.2 b.2))
def E6 (aR:fC)(gV:MY)(cz:mn)(cm:jb)(x0:Nat->Int)(x1:Nat->Int)(x2:Nat->Int)(x3:Int)(x4:Int)(x5:Int)(x6:Int)(x7:Bool):Pg aa7:=opt (aR x0 x7) λd=>opt (gV d.1 4 3 d.2 (cr x3 [x5,x4,x3]) false) λd=>let n3:=d.1.2;let n2:=d.2.1;let n1:=d.2.2;opt cz λak=>ae (wl 3 n3) (opt (cm x1 x2 4 3 n2 (cr x6 [x6,x6,x6]) true) λaF=>ret (((d.1,n2,n3,n1).1.1,aF.1,n1 0,n1 1,n1 2),aF.2)) (ae (wl 2 n3) (opt (cm x1 x2 4 3 n2 (cr x6 [x6,x6,x6]) true) λaF=>ret (((d.1,n2,n3,n1).1.1,aF.1,n1 0,n1 1,0),aF.2)) (ae (wl 1 n3) (opt (cm x1 x2 4 3 n2 (cr x6 [x6,x6,x6]) true) λaF=>ret (((d.1,n2,n3,n1).1.1,aF.1,n1 0,0,0),aF.2)) (opt (cm x1 x2 4 3 n2 (cr x6 [x6,x6,x6]) true) λaF=>ret (((d.1,n2,n3,n1).1.1,aF.1,0,0,0),aF.2))))
def pL:=λx0 x1 x2 x3 x4 x5 x6 x7=>(E6 cg gT eM cM x0 x1 x2 x3 x4 x5 x6 x7).val
theorem awQ:∀aR gV cz cm,D0 [jl aR,MZ gV,ri cz,Br cm] 250 aa6 (lf Kx) λb=>E6 aR gV cz cm b.1.1 b.1.2.1.1 b.1.2.1.2 b.1.b.1.1 b.1.b.1.2.1 b.1.b.1.b b.1.b.2 b.2:=λ_ _ _ _ b=>by kernel_rfl
theorem awR [aA]:SC (aa9 pL):=s0 (.c kn (.c Yb (.c v5 (.c FZ (.nil _))))) (awQ cg gT eM cM)
def UJ:=qa (pr (cu aS (c lz (c Fx Fw))) bJ)
def Gn:=qe (res (pr (rH (c afG (c akP (cl (ra (cu asq (cu aO (cu aO (cu aO (cu aO (cu aO (cu aO (c gi (c gi (cl gi aPu))))))))))) nil)))) (pl mF nil)))
abbrev UK:=Gn.B
abbrev UL:=NI->NI->NI->Int->Int->Int->Bool->Option UK
def UM (g:UL):Ct:=(251,FC UJ (lf Gn) (λb=>g b.1.1 b.1.2.1.1 b.1.2.1.2 b.1.b.1 b.1.b.2.1 b.1.c b.2))
def AP (aR:fC)(gV:MY)(cz:mn)(cm:jb)(x0:Nat->Int)(x1:Nat->Int)(x2:Nat->Int)(x3:Int)(x4:Int)(x5:Int)(x6:Bool):Pg UK:=opt (aR x0 x6) λd=>opt (gV d.1 7 2 d.2 (cr x3 [x4,x3]) true) λd=>let n3:=d.1.2;let n2:=d.2.1;let n1:=d.2.2;opt cz λak=>ae (wl 3 n3) (opt (cm x1 x2 7 2 n2 (cr x5 [x5,x5]) true) λaF=>ret (((d.1,n2,n3,n1).1.1,aF.1,n1 0,n1 1,n1 2),aF.2)) (ae (wl 2 n3) (opt (cm x1 x2 7 2 n2 (cr x5 [x5,x5]) true) λaF=>ret (((d.1,n2,n3,n1).1.1,aF.1,n1 0,n1 1,0),aF.2)) (ae (wl 1 n3) (opt (cm x1 x2 7 2 n2 (cr x5 [x5,x5]) true) λaF=>ret (((d.1,n2,n3,n1).1.1,aF.1,n1 0,0,0),aF.2)) (opt (cm x1 x2 7 2 n2 (cr x5 [x5,x5]) true) λaF=>ret (((d.1,n2,n3,n1).1.1,aF.1,0,0,0),aF.2))))
def mM:=λx0 x1 x2 x3 x4 x5 x6=>(AP cg gT eM cM x0 x1 x2 x3 x4 x5 x6).val
theorem apG:∀aR gV cz cm,D0 [jl aR,MZ gV,ri cz,Br cm] 251 UJ (lf Gn) λb=>AP aR gV cz cm b.1.1 b.1.2.1.1 b.1.2.1.2 b.1.b.1 b.1.b.2.1 b.1.c b.2:=λ_ _ _ _ b=>by kernel_rfl
theorem apH [aA]:SC (UM mM):=s0 (.c kn (.c Yb (.c v5 (.c FZ (.nil _))))) (apG cg gT eM cM)
def ajL:=qa (pr (cu aS (c lz aKb)) bJ)
def PA:=qe (res (pr (rH (c afG (c akP (cl (ra (cu asq (cu aO (cu aO (cu aO (cu aO (cu aO (cu aO (cu aO (cu aO (cl gi (cu (gc aPl) nil)))))))))))) nil)))) (pl mF nil)))
abbrev ajM:=PA.B
abbrev ajN:=NI->NI->NI->Int->Int->Bool->Option ajM
def ajO (g:ajN):Ct:=(252,FC ajL (lf PA) (λb=>g b.1.1 b.1.2.1.1 b.1.2.1.2 b.1.b.1 b.1.b.2 b.2))
def JQ (aR:fC)(gV:MY)(cz:mn)(cm:jb)(x0:Nat->Int)(x1:Nat->Int)(x2:Nat->Int)(x3:Int)(x4:Int)(x5:Bool):Pg ajM:=opt (aR x0 x5) λd=>opt (gV d.1 9 1 d.2 (λj=>bif z9 j 0 then x3 else x3) true) λd=>opt cz λak=>ae (wl 1 d.1.2) (opt (cm x1 x2 9 1 d.2.1 (λj=>bif z9 j 0 then x4 else x4) true) λaF=>ret (((d.1,d.2.1,d.1.2,d.2.2).1.1,aF.1,d.2.2 0),aF.2)) (opt (cm x1 x2 9 1 d.2.1 (λj=>bif z9 j 0 then x4 else x4) true) λaF=>ret (((d.1,d.2.1,d.1.2,d.2.2).1.1,aF.1,0),aF.2))
def ud:=λx0 x1 x2 x3 x4 x5=>(JQ cg gT eM cM x0 x1 x2 x3 x4 x5).val
theorem aCS:∀aR gV cz cm,D0 [jl aR,MZ gV,ri cz,Br cm] 252 ajL (lf PA) λb=>JQ aR gV cz cm b.1.1 b.1.2.1.1 b.1.2.1.2 b.1.b.1 b.1.b.2 b.2:=λ_ _ _ _ b=>by kernel_rfl
theorem aCT [aA]:SC (ajO ud):=s0 (.c kn (.c Yb (.c v5 (.c FZ (.nil _))))) (aCS cg gT eM cM)
def Gp:=qa (pl (cl (aa tU) nil) nil)
def ahY:=qe Fv
abbrev an2:=ahY.B
abbrev an3:=Gp.B->Option an2
def aBC (g:an3):Ct:=(13,FC Gp (lf ahY) g)
def lL:=qs (st (pr (us 1 (cu aDA (cu tQ (us 3 (xs 1 (cu aVI (us 4 (cu aV1 (us 4 (cu aV2 (us 4 (cu tQ (us 4 (c ab (us 3 (cl ai (us 26 aW4))))))))))))))))) (pl (cl aKq nil) nil)))
def ajP:=qs (st (pu (us 2 (cu tQ (us 119 nil))) (pu nil nil)))
def ajQ:=qs (st (pr (us 1 (cu aDA (cu tQ (us 3 (xs 1 (cu aVI (us 4 (cu aV1 (us 4 (cu aV2 (us 4 (cu tQ (us 4 (c ab (us 3 (c ai (cl ab (us 25 aW4)))))))))))))))))) (pl (cl aKq nil) nil)))
abbrev Em:=ajP.B⊕ajQ.B
def arS {ρ:Type}(x:Em)(K:AX->St->Option ρ):Option ρ:=(t9 (λd=>K .ret (ajP.em d)) (λd=>K (.ex 2) (ajQ.em d))) x
def QY (fP:BC)(d:lL.B):PL lL Em:=let n2:=d.1.2;let n1:=d.2.2.2.2.2.2.2.2.2.2.2.2.2.2.2.2.2;let y0:=z4 n2;let y1:=bg n2 24;let y2:=wl (0+y0*1+1) 24;let y3:=decide (n2<24);ae y3 (ae y1 (ae y2 (opt (fP (n1.1 y0) 0 72057594037927936) λak=>ae (!ak) (ret (ws (ww ()))) (ae y1 (ae y2 (opt (fP (n1.2.1 y0) 1 72057594037927936) λaF=>ae (!aF) (ret (ws (ww ()))) (ret (ww ((d.1.1,wI (n2+1)),d.2)))) no) no)) no) no) (ret (ws (ws ((d.1.1,n2,y3),d.2))))
def Jb:=bI (QY ny) 2000
def aba (fP:BC)(aLP:ahV)(pD:LT lL Em)(x:Gp.B):Pg an2:=let n2:=x.2.2.2.2;let n8:=n2.2.1;let n4:=n8.2.2;let n3:=n2.1.2.2;let n7:=n3.2.2;ae (decide (n2.1.1<1)) (ret false) (ae (decide (n2.1.1>1000)) (ret false) (opt (fP n8.1 1 1099511627776) λd=>ae (!d) (ret false) (ae (decide (n2.1.2.1<1)) (ret false) (ae (decide (n2.1.2.1>1000)) (ret false) (opt (fP n8.2.1 1 1099511627776) λd=>ae (!d) (ret false) (ae (decide (n3.1<1)) (ret false) (ae (decide (n3.1>1000)) (ret false) (opt (fP n4.1 1 1099511627776) λd=>ae (!d) (ret false) (ae (decide (n3.2.1<1)) (ret false) (ae (decide (n3.2.1>1000)) (ret false) (opt (fP n4.2.1 1 1099511627776) λd=>ae (!d) (ret false) (ae (decide (n7.1<1)) (ret false) (ae (decide (n7.1>1000)) (ret false) (opt (fP n4.2.2.1 1 1099511627776) λd=>ae (!d) (ret false) (ae (decide (n7.2<1)) (ret false) (ae (decide (n7.2>1000)) (ret false) (opt (fP n4.2.2.2 1 1099511627776) λd=>ae (!d) (ret false) (opt (pD ((d,0),x.1,x.2.1,x.2.2.1,x.2.2.2.1,n2.1.1,n2.1.2.1,n3.1,n3.2.1,n7.1,n7.2,n8.1,n8.2.1,n4.1,n4.2.1,n4.2.2.1,n4.2.2.2,n2.2.2)) λx=>sum x (λd=>ret false) λd=>let n6:=d.2.2.2;let n1:=n6.2.2.2.2.2.2.2.2.2.2.2.2.2.2.2.2;let n5:=n1.2.2.2.2;opt (aLP n5.2.1 n5.2.2.1 n5.2.2.2) λak=>sm ak (λd=>ret false) (λaF=>opt (fP d.2.1 1000 100000) λbA=>ae bA (opt (fP d.2.2.1 0 300000) λcD=>ae cD (ae (decide (n6.1>=1)) (ae (decide (n6.1<=64)) (ae (decide (n6.2.1>=0)) (ae (decide (n6.2.1<=100)) (opt (fP n1.1 0 1099511627776) λeU=>ae eU (opt (fP n1.2.1 1 72057594037927936) λc8=>ae c8 (ae (decide (n1.2.2.1>=0)) (ae (decide (n1.2.2.1<=3)) (opt (fP n1.2.2.2.1 1 1073741824) λmg=>ae mg (ae (decide (n5.1>=1)) (ret (decide (n5.1<=64))) (ret false)) (ret false)) (ret false)) (ret false)) (ret false)) (ret false)) (ret false)) (ret false)) (ret false)) (ret false)) (ret false)) (ret false))))))))))))))))))))
def qo:=λx=>(aba ny zk Jb x).val
abbrev abb:=BC×ahV×(LT lL Em)
def an4 (p:abb):KK:=⟨[YI p.1,awO p.2.1],⟨[⟨2,(0::3::4::rg 8 4 (13::14::15::21::rg 29 8 (38::39::40::rg 48 10 [61,62,66,67,71,72,76,77,81,82,86,87,91,92,96,97,101,102,106,107,111,112,116,117,121]))),[]⟩,⟨8,(0::3::4::5::rg 8 4 (rg 13 4 (rg 18 4 (rg 23 4 (28::29::30::rg 32 5 (38::39::40::rg 48 10 (61::62::66::67::71::72::76::77::81::82::86::87::91::92::96::97::101::102::106::107::111::112::116::117::121::37::rg 41 7 []))))))),[]⟩],[fQ 8 0 lL arS p.b],[],[],(some ⟨0,(0::1::rg 3 119 []),[]⟩)⟩,0,13⟩
theorem aGp (p:abb):LI (an4 p) 8 lL arS (QY p.1):=λ_ d c K=>by kernel_rfl
theorem aOt (p:abb):D2 (an4 p) Gp (lf ahY) λb=>aba p.1 p.2.1 p.b b:=λb=>by kernel_rfl
abbrev an5:abb:=(ny,zk,Jb)
theorem aOu [aA]:SC (aBC qo):=sc (kS (k:=an4 an5) (.c anT (.c aLO (.nil _))) [2,8] [] ⟨kN,⟨kL (aGp an5),trivial⟩⟩ trivial (aOt an5))
def aeQ:=qa (dp (cu aS (c ai (c zU axn))) λa=>(c xL (cl (cl (gs a.2.1.1 nN) nil) nil)))
def Ni:=qe aJ7
abbrev aeR:=Ni.B
abbrev aeS:=Int->Nat->Nat->Bool->NI->Bool->Bool->Option aeR
def aeT (g:aeS):Ct:=(73,vA 3 [.i .i64] (vA 2 [.i .i64] (FC aeQ (lf Ni) (λb=>g b.1.1 b.1.2.1.1 b.1.b.1 b.2.1 b.b b.1.2.1.2 b.1.b.2))))
def pZ:=qs (st (dp (cu aS (c ai (c zU (c zU (us 5 (cu azy aVR)))))) λa=>(pl (c bE (c (so (cl (gs a.2.1.1 nN) nil)) aby)) bK)))
def atH:=qs (st (pr (cu aS (c ai (c zU (c zU (us 5 (cu azy (us 15 aJ0))))))) (pl (c bE (c HW aby)) bK)))
abbrev CX:=(aU8×Bool×NI×Int×Int)
def YN {ρ:Type}(x:CX)(K:AX->St->Option ρ):Option ρ:=(λd=>K (.ex 0) (atH.em (d.1,d.2.1,(d.1.2.1.1,d.b.1),d.b.2))) x
def CY (ay:bW)(cU:oy)(yQ:sD)(d:pZ.B):PL pZ CX:=let y0:=decide (d.1.2.2.2.2<d.1.2.2.2.1);ae y0 (ae (bg d.1.2.2.2.2 d.1.2.1.1) (opt (ay (d.2.2.1 (z4 d.1.2.2.2.2)) d.2.1) λak=>ae (bg d.1.2.2.2.2 d.1.2.2.1.1) (opt (ay (d.2.2.1 (z4 d.1.2.2.2.2)) ak.2) λaF=>opt (cU ak.1 aF.1) λbA=>opt (yQ 2 (λj=>bif z9 j 1 then bA.1 else bif z9 j 0 then d.2.2.2.1 else d.2.2.2.1) (λj=>bif z9 j 1 then bA.2 else bif z9 j 0 then d.2.2.2.2 else d.2.2.2.2) true) λcD=>ret (ww ((d.1.1,d.1.2.1,d.1.2.2.1,d.1.2.2.2.1,wI (d.1.2.2.2.2+1)),aF.2,d.2.2.1,cD.1))) no) no) (ret (ws ((d.1.1,d.1.2.1,d.1.2.2.1,d.1.2.2.2.1,d.1.2.2.2.2,y0),d.2)))
def Ky:=bI (CY aP fE ku) 2000
def PC (iV:yu)(dR:LT pZ CX)(x0:Int)(x1:Nat)(x2:Nat)(x3:Bool)(x4:Nat->Int)(w0:Bool)(w1:Bool):Pg aeR:=let y0:=if wr x2<wr x1 then wr x2 else wr x1;ae (decide (x0<0)) (opt (iV 0 0 x0 x3) λd=>ret d) (ae (decide (x0>120)) (opt (iV 0 0 x0 x3) λd=>ret d) (ae (z9 x1 x1) (opt (dR ((x0,(x1,w0),(x2,w1),if 100<y0 then 100 else y0,0),x3,x4,0,0)) λd=>opt (iV d.2.2.2.1 d.2.2.2.2 d.1.1 d.2.1) λd=>ret d) no))
def wa:=λx0 x1 x2 x3 x4 w0 w1=>(PC nE Ky x0 x1 x2 x3 x4 w0 w1).val
abbrev Hm:=yu×bW×oy×sD×(LT pZ CX)
def PD (p:Hm):KK:=⟨[Jo p.1,dr p.2.1,yK p.b.1,K8 p.b.2.1],⟨[⟨5,(rg 4 5 (rg 10 15 (rg 27 26 []))),[]⟩],[fQ 5 2 pZ YN p.c],[0],[],(some ⟨0,(rg 0 8 (rg 9 44 [])),[]⟩)⟩,2,73⟩
theorem apI (p:Hm):LI (PD p) 5 pZ YN (CY p.2.1 p.b.1 p.b.2.1):=λ_ d c K=>by kernel_rfl
theorem ayY (p:Hm):D2 (PD p) aeQ (lf Ni) λb=>PC p.1 p.c b.1.1 b.1.2.1.1 b.1.b.1 b.2.1 b.b b.1.2.1.2 b.1.b.2:=λb=>by kernel_rfl
abbrev PE:Hm:=(nE,aP,fE,ku,Ky)
theorem ayZ [aA]:SC (aeT wa):=sc (Sound.nil 3 [.i .i64]<|Sound.nil 2 [.i .i64]<|kS (k:=PD PE) (.c Tb (.c dx (.c BU (.c Rl (.nil _))))) [5] [] ⟨kL (apI PE),trivial⟩ trivial (ayY PE))
def YO:=qa (pr (cu aS (c lz Fw)) bJ)
def Ic:=qe aDX
abbrev YP:=Ic.B
abbrev YQ:=NI->Int->Int->Int->Bool->Option YP
def YR (g:YQ):Ct:=(234,FC YO (lf Ic) (λb=>g b.1.1 b.1.2.1 b.1.b.1 b.1.b.2 b.2))
def Kz (bN:lU)(Hn:aeS)(rT:acb)(aX:de)(di:yP)(aE:cN)(x0:Nat->Int)(x1:Int)(x2:Int)(x3:Int)(x4:Bool):Pg YP:=opt (bN x0 16) λd=>opt (Hn 30 2 2 x4 (cr d.1 [d.2.1,d.1]) false false) λak=>ae (decide (ak.1<1048576)) (ret (((λx=>0,0,0,0),4),ak.2)) (opt (rT d.2.1 d.1 ak.2) λaF=>opt (aX x1 aF.1 aF.2) λbA=>opt (di bA.1) λcD=>opt (aE d.2.1 ak.1 30 bA.2) λeU=>opt (aE d.1 ak.1 30 eU.2) λd=>ret (((λj=>bif z9 j 17 then d.1 else bif z9 j 16 then wI (0-eU.1) else 0,cD,x2,x3),0),d.2))
def w7:=λx0 x1 x2 x3 x4=>(Kz eV wa zZ bX kI bk x0 x1 x2 x3 x4).val
theorem atI:∀bN Hn rT aX di aE,D0 [rQ bN,aeT Hn,acd rT,ia aX,Co di,gu aE] 234 YO (lf Ic) λb=>Kz bN Hn rT aX di aE b.1.1 b.1.2.1 b.1.b.1 b.1.b.2 b.2:=λ_ _ _ _ _ _ b=>by kernel_rfl
theorem atJ [aA]:SC (YR w7):=s0 (.c vE (.c ayZ (.c aqO (.c ji (.c GW (.c hX (.nil _))))))) (atI eV wa zZ bX kI bk)
def kQ:=qa (pr (cl aP0 (cu aS (cu (app 1 10) nil))) (cu aPj (c zY bJ)))
def ue:=qe (res (pr (aa axv) (pl aPy nil)))
abbrev E7:=ue.B
abbrev oX:=kQ.B->Option E7
def uP (g:oX):Ct:=(180,FC kQ (lf ue) g)
def uQ (dN:Cv)(iC:BX)(eZ:yV)(bH:iM)(x:kQ.B):Pg E7:=let n2:=x.2.1;let n6:=n2.1.2;let n1:=x.1.2;let n5:=n1.1.2;let n4:=n1.2.2;let n3:=n1.2.1;opt (dN 2 x.2.2 (cr n3.1 [n2.2.1.1,n3.1]) (cr n3.2.1 [n2.2.1.2.1,n3.2.1]) (cr n3.2.2 [n2.2.1.2.2,n3.2.2]) true) λd=>opt (dN 2 d.2 (cr n4.1 [n2.2.2.1,n4.1]) (cr n4.2.1 [n2.2.2.2.1,n4.2.1]) (cr n4.2.2 [n2.2.2.2.2,n4.2.2]) true) λak=>opt iC λaF=>ae (!(n2.1.1==1073741824&&(n6.1==0&&(n6.2.1==0&&(n6.2.2==0&&true))))) (opt (eZ n2.1.1 n6.1 n6.2.1 n6.2.2 n1.1.1 n5.1 n5.2.1 n5.2.2 ak.2) λbA=>opt (bH bA.1.1 bA.1.2.1 bA.1.2.2.1 bA.1.2.2.2 bA.2) λcD=>ret ((x.1.1,cD.1.1,cD.1.2.1,cD.1.2.2.1,cD.1.2.2.2,d.1.1,d.1.2.1,d.1.2.2,ak.1),cD.2)) (ret ((x.1.1,n1.1.1,n5.1,n5.2.1,n5.2.2,d.1.1,d.1.2.1,d.1.2.2,ak.1),ak.2))
def iw:=λx=>(uQ kE oA lE c9 x).val
theorem VJ:∀dN iC eZ bH,D0 [Kl dN,La iC,FW eZ,nG bH] 180 kQ (lf ue) λb=>uQ dN iC eZ bH b:=λ_ _ _ _ b=>by kernel_rfl
theorem E8 [aA]:SC (uP iw):=s0 (.c OX (.c Rs (.c Lb (.c pF (.nil _))))) (VJ kE oA lE c9)
def ju:=qa (pr (cl aP0 (cu aS (cu aMB (cu (app 2 1) (cu akI (cu (app 4 4) nil)))))) (cu (cu (gp 5 1) nil) (c ld (cu (cu (gp 6 3) nil) (c ld (c afH (c xL (cd aJ3 λb6=>(cl (cl (gs b6.b jo) nil) nil)))))))))
def rj:=qe (res (pr (aa axv) (pl (cu fD (cu fD (cu fD (cu fD (cu fD (cl aup aDG)))))) nil)))
abbrev BZ:=rj.B
abbrev mT:=ju.B->Option BZ
def sN (g:mT):Ct:=(183,FC ju (lf rj) g)
def sO (iN:Vk)(dN:Cv)(eZ:yV)(bH:iM)(x:ju.B):Pg BZ:=let n3:=x.1.2.1;let n2:=x.2.2;let n1:=x.1.2.2;opt (iN x.2.1.1 x.2.1.2.1 x.2.1.2.2 n2.2.2.2.1.2.1 n2.2.2.1) λd=>opt (dN 2 d.2 (cr n1.1.1 [d.1.1,n1.1.1]) (cr n1.1.2.1 [d.1.2.1,n1.1.2.1]) (cr n1.1.2.2 [d.1.2.2,n1.1.2.2]) true) λd=>opt (iN n2.1.1 n2.1.2.1 n2.1.2.2 n2.2.2.2.1.2.1 d.2) λak=>opt (dN 2 ak.2 (cr n1.2.1 [ak.1.1,n1.2.1]) (cr n1.2.2.1 [ak.1.2.1,n1.2.2.1]) (cr n1.2.2.2 [ak.1.2.2,n1.2.2.2]) true) λaF=>opt (eZ n2.2.1.1 n2.2.1.2.1 n2.2.1.2.2.1 n2.2.1.2.2.2 n3.1 n3.2.1 n3.2.2.1 n3.2.2.2 aF.2) λbA=>opt (bH bA.1.1 bA.1.2.1 bA.1.2.2.1 bA.1.2.2.2 bA.2) λcD=>ret ((x.1.1,cD.1.1,cD.1.2.1,cD.1.2.2.1,cD.1.2.2.2,d.1.1,d.1.2.1,d.1.2.2,aF.1),cD.2)
def gk:=λx=>(sO uJ kE lE c9 x).val
theorem RP:∀iN dN eZ bH,D0 [Vl iN,Kl dN,FW eZ,nG bH] 183 ju (lf rj) λb=>sO iN dN eZ bH b:=λ_ _ _ _ b=>by kernel_rfl
theorem B3 [aA]:SC (sN gk):=s0 (.c agT (.c OX (.c Lb (.c pF (.nil _))))) (RP uJ kE lE c9)
def kR:=qa (pu (cu KY (cu LA (cu aP3 nil))) (cd aJ3 λb0=>(c xL (cu asp (c ld (cu aVt (c ld (c afH (cl (cl (gs b0.b jo) nil) nil)))))))))
def uf:=qe (res (pu Q' (pl (cu fD (c aup (cu fD (cu fD (cu fD aWP))))) nil)))
abbrev uR:=uf.B
abbrev uS:=kR.B->Option uR
def E9 (g:uS):Ct:=(179,FC kR (lf uf) g)
def dA:=qs (st (dp (cu KY (cu LA (cu aP3 (us 8 (c (ac (AG 7 11)) aPp))))) λv=>(pl (c (so aJ3) (c bE (cu abw (c zV (cu axp (c zV (c xP (cl (so (cl (gs v.1 jo) nil)) nil)))))))) (cu (nat 7) axk))))
def RQ:=qs (st (pr (cu KY (cu LA (cu aP3 (us 8 (c (ac (AG 7 11)) aPv))))) (pl (c (so aJ3) (c bE (cu abw (c zV (cu axp (c zV (c xP Fy))))))) (cu (nat 7) axk))))
abbrev jw:=((Nat×Int×Int×Bool)×tt×Bool×kG×kG×aIg×NI×NI×NI×NI×NI×NI×NI×NI×NI×NI×NI)
def B4 {ρ:Type}(x:jw)(K:AX->St->Option ρ):Option ρ:=(λd=>K (.ex 0) (RQ.em (d.1,d.2.1,d.b.1,d.b.2.1,d.c.1,d.c.2.1,d.1.1,d.c.b))) x
def sP (vJ:Ej)(jQ:uN)(RR:mT)(d:dA.B):PL dA jw:=let bh:=d.2.1;let n6:=d.1.2;let n5:=d.2.2.2;let n1:=n5.2.2.2;let n8:=n1.2.2;let n2:=n8.2.2.2;let n7:=n2.2.2.2;let y0:=z4 n6.2;let y1:=decide (n6.2<n6.1);ae y1 (ae (bg n6.2 d.1.1) (ae (z9 bh.2.2 bh.2.2) (opt (RR ((n1.1 y0,(n1.2.1 y0,n8.1 y0,n8.2.1 y0,n8.2.2.1 y0),(n2.1 y0,n2.2.1 y0,n2.2.2.1 y0),n7.1 y0,n7.2.1 y0,n7.2.2 y0),n5.1,n5.2.1,n5.2.2.1,d.2.2.1,bh,n1)) λak=>let n3:=ak.1.2.2.2.2;let n9:=n3.2.2.2;opt (vJ (λx=>0) ak.1.1 ak.1.2.1 ak.1.2.2.1 ak.1.2.2.2.1 n3.1 n3.2.1 n3.2.2.1 n9.1 n9.2.1 n9.2.2.1 n9.2.2.2) λaF=>opt (jQ aF (n1.1 y0) ak.2) λbA=>let n4:=bA.1.2.2.2.2;let aT:=n4.2.2.2;ae (bg n6.2 bh.2.2) (ae (true&&wl (0+y0*11+11) (d.1.1*11+0)) (ret (ww ((d.1.1,n6.1,wI (n6.2+1)),bh,bA.2,n5.1,n5.2.1,n5.2.2.1,λj=>bif z9 j y0 then bA.1.1 else n1.1 j,λj=>bif z9 j y0 then bA.1.2.1 else n1.2.1 j,λj=>bif z9 j y0 then bA.1.2.2.1 else n8.1 j,λj=>bif z9 j y0 then bA.1.2.2.2.1 else n8.2.1 j,λj=>bif z9 j y0 then n4.1 else n8.2.2.1 j,λj=>bif z9 j y0 then n4.2.1 else n2.1 j,λj=>bif z9 j y0 then n4.2.2.1 else n2.2.1 j,λj=>bif z9 j y0 then aT.1 else n2.2.2.1 j,λj=>bif z9 j y0 then aT.2.1 else n7.1 j,λj=>bif z9 j y0 then aT.2.2.1 else n7.2.1 j,λj=>bif z9 j y0 then aT.2.2.2 else n7.2.2 j))) no) no) no) no) (ret (ws ((d.1.1,n6.1,n6.2,y1),d.2)))
def sQ:=bI (sP rW mq gk) 2000
def uU (dR:LT dA jw)(x:kR.B):Pg uR:=ae (z9 x.1.2.2 x.1.2.2) (opt (dR ((x.1.2.2,wr x.1.2.2,0),x)) λd=>ret (d.2.2.1,d.1.1,d.2.2.2.2.2.2)) no
def kT:=λx=>(uU sQ x).val
abbrev oY:=Ej×uN×mT×(LT dA jw)
def uW (p:oY):KK:=⟨[QR p.1,Hk p.2.1,sN p.b.1],⟨[⟨1,(rg 3 8 (rg 14 20 [])),[]⟩],[fQ 1 8 dA B4 p.b.2],[7,1],[],(some ⟨0,(rg 0 34 []),[]⟩)⟩,8,179⟩
theorem PF (p:oY):LI (uW p) 1 dA B4 (sP p.1 p.2.1 p.b.1):=λ_ d c K=>by kernel_rfl
theorem VK (p:oY):D2 (uW p) kR (lf uf) λb=>uU p.b.2 b:=λb=>by kernel_rfl
abbrev uX:oY:=(rW,mq,gk,sQ)
theorem VL [aA]:SC (E9 kT):=sc (kS (k:=uW uX) (.c adl (.c Nf (.c B3 (.nil _)))) [1] [] ⟨kL (PF uX),trivial⟩ trivial (VK uX))
def kU:=qa (pu (cu KY (cu LA (cu aPL nil))) (cd aPz λb0=>(c xL (cu asp (c zY (cl (cl (gs b0.b jo) nil) nil))))))
def ug:=qe (res (pu Q' (pl (cu fD (c aup aWP)) nil)))
abbrev uY:=ug.B
abbrev uZ:=kU.B->Option uY
def E' (g:uZ):Ct:=(179,FC kU (lf ug) g)
def dB:=qs (st (dp (cu KY (cu LA (cu aPL (us 8 (c (ac (AG 4 11)) aPp))))) λv=>(pl (c (so aPz) (c bE (cu abw (c (so zY) (cl (so (cl (gs v.1 jo) nil)) nil))))) (cu rq6 axk))))
def RT:=qs (st (pr (cu KY (cu LA (cu aPL (us 8 (c (ac (AG 4 11)) aPv))))) (pl (c (so aPz) (c bE (cu abw (c (so zY) Fy)))) (cu rq6 axk))))
abbrev jx:=((Nat×Int×Int×Bool)×tt×Bool×En×NI×NI×NI×NI×NI×NI×NI×NI×NI×NI×NI)
def B5 {ρ:Type}(x:jx)(K:AX->St->Option ρ):Option ρ:=(λd=>K (.ex 0) (RT.em (d.1,d.2.1,d.b.1,d.b.2.1,d.1.1,d.c))) x
def sR (vJ:Ej)(jQ:uN)(VM:oX)(d:dB.B):PL dB jx:=let n6:=d.1.2;let n4:=d.2.2.2.2;let n1:=n4.2.2.2;let n9:=n1.2.2;let n5:=n9.2.2;let y0:=z4 n6.2;let y1:=decide (n6.2<n6.1);ae y1 (ae (bg n6.2 d.1.1) (opt (VM ((n4.1 y0,(n4.2.1 y0,n4.2.2.1 y0,n1.1 y0,n1.2.1 y0),(n9.1 y0,n9.2.1 y0,n5.1 y0),n5.2.1 y0,n5.2.2.1 y0,n5.2.2.2 y0),d.2.2.2.1,d.2.2.1)) λak=>let n2:=ak.1.2.2.2.2;let n7:=n2.2.2.2;opt (vJ (λx=>0) ak.1.1 ak.1.2.1 ak.1.2.2.1 ak.1.2.2.2.1 n2.1 n2.2.1 n2.2.2.1 n7.1 n7.2.1 n7.2.2.1 n7.2.2.2) λaF=>opt (jQ aF (n4.1 y0) ak.2) λbA=>let n3:=bA.1.2.2.2.2;let n8:=n3.2.2.2;ae (bg n6.2 d.2.1.2.2) (ae (true&&wl (0+y0*11+11) (d.1.1*11+0)) (ret (ww ((d.1.1,n6.1,wI (n6.2+1)),d.2.1,bA.2,d.2.2.2.1,λj=>bif z9 j y0 then bA.1.1 else n4.1 j,λj=>bif z9 j y0 then bA.1.2.1 else n4.2.1 j,λj=>bif z9 j y0 then bA.1.2.2.1 else n4.2.2.1 j,λj=>bif z9 j y0 then bA.1.2.2.2.1 else n1.1 j,λj=>bif z9 j y0 then n3.1 else n1.2.1 j,λj=>bif z9 j y0 then n3.2.1 else n9.1 j,λj=>bif z9 j y0 then n3.2.2.1 else n9.2.1 j,λj=>bif z9 j y0 then n8.1 else n5.1 j,λj=>bif z9 j y0 then n8.2.1 else n5.2.1 j,λj=>bif z9 j y0 then n8.2.2.1 else n5.2.2.1 j,λj=>bif z9 j y0 then n8.2.2.2 else n5.2.2.2 j))) no) no) no) (ret (ws ((d.1.1,n6.1,n6.2,y1),d.2)))
def sS:=bI (sR rW mq iw) 2000
def u3 (dR:LT dB jx)(x:kU.B):Pg uY:=ae (z9 x.1.2.2 x.1.2.2) (opt (dR ((x.1.2.2,wr x.1.2.2,0),x)) λd=>ret (d.2.2.1,d.1.1,d.2.2.2.2)) no
def kV:=λx=>(u3 sS x).val
abbrev oZ:=Ej×uN×oX×(LT dB jx)
def vd (p:oZ):KK:=⟨[QR p.1,Hk p.2.1,uP p.b.1],⟨[⟨1,(rg 3 8 (rg 14 20 [])),[]⟩],[fQ 1 5 dB B5 p.b.2],[4,1],[],(some ⟨0,(rg 0 34 []),[]⟩)⟩,5,179⟩
theorem PG (p:oZ):LI (vd p) 1 dB B5 (sR p.1 p.2.1 p.b.1):=λ_ d c K=>by kernel_rfl
theorem VN (p:oZ):D2 (vd p) kU (lf ug) λb=>u3 p.b.2 b:=λb=>by kernel_rfl
abbrev vf:oZ:=(rW,mq,iw,sS)
theorem VO [aA]:SC (E' kV):=sc (kS (k:=vd vf) (.c adl (.c Nf (.c E8 (.nil _)))) [1] [] ⟨kL (PG vf),trivial⟩ trivial (VN vf))
def mB:=qa (dp (cu KY (cu LA (cl aO9 nil))) λv=>(cd aJ2 λb0=>(c xL (c (cl (gs v.1 mc) nil) (cl (cl (gs b0.b jo) nil) nil)))))
def w8:=qe (res (pu Q' (pl (cu fD (c aup (cu fD aP6))) nil)))
abbrev yb:=w8.B
abbrev yc:=mB.B->Option yb
def HJ (g:yc):Ct:=(112,vA 2 [.i .i64,.i .i64,.i .i64,.i .i64,.i .i64,.i .i64,.i .i64,.i .i64,.i .i64,.i .i64] (FC mB (lf w8) g))
def ee:=qs (st (dp (cu KY (us 3 (cu aDB (us 3 (c aO9 (c ai aPk)))))) λv=>(pl (cd (so aJ2) λb0=>(c bE (c (so (cl (gs v.1.1 mc) nil)) (cl (so (cl (gs b0.b jo) nil)) (cu abw nil))))) (cu rq7 axk))))
def VP:=qs (st (pr (cu KY (us 3 (cu aDB (us 3 (c aO9 (c ai aJU)))))) (pl (c (so aJ2) (c bE (c tT (cl akT (cu abw nil))))) (cu rq7 axk))))
abbrev kW:=(aMu×tt×Bool×aMt×NI×NI×NI×NI×NI×NI×NI×NI×NI×NI×NI)
def Fa {ρ:Type}(x:kW)(K:AX->St->Option ρ):Option ρ:=(λd=>K (.ex 0) (VP.em (d.1,d.2.1,d.b.1,(d.1.1.1,d.b.2.1),d.2.1.b,d.c))) x
def vg (VQ:uZ)(d:ee.B):PL ee kW:=let aT:=d.2.1;let n6:=d.1.2;let n1:=d.2.2.2;let n4:=n1.1.2.2.2.2;let n3:=n1.2.2.2.2.2;let n9:=n3.2.2.2;let y0:=z4 n6.2;let y1:=aT.2.2*11;let y2:=decide (n6.2<n6.1);ae y2 (ae (bg n6.2 d.1.1.1) (ae (z9 aT.2.2 aT.2.2) (opt (VQ (aT,d.2.2.1,((n1.1.1 y0,n1.1.2.1 y0,n1.1.2.2.1 y0,n1.1.2.2.2.1 y0),(n4.1 y0,n4.2.1 y0,n4.2.2.1 y0),n4.2.2.2.1 y0,n4.2.2.2.2.1 y0,n4.2.2.2.2.2 y0),n1.2)) λak=>let n7:=ak.2.2.2;let n5:=ak.2.1;let n2:=n7.2.2.2;let n8:=n2.2.2.2;let y0:=n5*11+0;ae (true&&z9 y0 y1&&true) (ae (true&&wl (0+y0) (y1+0)) (ret (ww ((d.1.1,n6.1,wI (n6.2+1)),aT,ak.1,n1.1,λj=>bif true&&v9 j (0+n5) then ak.2.2.1 j else n1.2.1 j,λj=>bif true&&v9 j (0+n5) then n7.1 j else n1.2.2.1 j,λj=>bif true&&v9 j (0+n5) then n7.2.1 j else n1.2.2.2.1 j,λj=>bif true&&v9 j (0+n5) then n7.2.2.1 j else n1.2.2.2.2.1 j,λj=>bif true&&v9 j (0+n5) then n2.1 j else n3.1 j,λj=>bif true&&v9 j (0+n5) then n2.2.1 j else n3.2.1 j,λj=>bif true&&v9 j (0+n5) then n2.2.2.1 j else n3.2.2.1 j,λj=>bif true&&v9 j (0+n5) then n8.1 j else n9.1 j,λj=>bif true&&v9 j (0+n5) then n8.2.1 j else n9.2.1 j,λj=>bif true&&v9 j (0+n5) then n8.2.2.1 j else n9.2.2.1 j,λj=>bif true&&v9 j (0+n5) then n8.2.2.2 j else n9.2.2.2 j))) no) no) no) no) (ret (ws ((d.1.1,n6.1,n6.2,y2),d.2)))
def vh:=bI (vg kV) 2000
def yd (dR:LT ee kW)(x:mB.B):Pg yb:=ae (z9 x.1.1 x.1.1) (ae (z9 x.2.1.2.2 x.2.1.2.2) (opt (dR ((x.1,wr x.1.1,0),x.2)) λd=>ret (d.2.2.1,d.2.1.2.2,d.2.2.2.2)) no) no
def mC:=λx=>(yd vh x).val
abbrev qB:=oX×uZ×(LT ee kW)
def yf (p:qB):KK:=⟨[uP p.1,E' p.2.1],⟨[⟨2,(1::2::3::5::6::7::rg 11 8 []),[]⟩],[fQ 2 4 ee Fa p.b],[3,1],[],(some ⟨0,(rg 0 19 []),[]⟩)⟩,4,112⟩
theorem Ua (p:qB):LI (yf p) 2 ee Fa (vg p.2.1):=λ_ d c K=>by kernel_rfl
theorem ZG (p:qB):D2 (yf p) mB (lf w8) λb=>yd p.b b:=λb=>by kernel_rfl
abbrev yg:qB:=(iw,kV,vh)
theorem ZH [aA]:SC (HJ mC):=sc (Sound.nil 2 [.i .i64,.i .i64,.i .i64,.i .i64,.i .i64,.i .i64,.i .i64,.i .i64,.i .i64,.i .i64]<|kS (k:=yf yg) (.c E8 (.c VO (.nil _))) [2] [] ⟨kL (Ua yg),trivial⟩ trivial (ZG yg))
def YS:=qa (pl iA nil)
def Ie:=qe Fv
abbrev YT:=Ie.B
abbrev YU:=Int->Option YT
def YV (g:YU):Ct:=(204,FC YS (lf Ie) (λb=>g b))
def KA (x0:Int):Pg YT:=ret (x0 !=x0)
def w9:=λx0=>(KA x0).val
theorem atK:D0 [] 204 YS (lf Ie) λb=>KA b:=λb=>by kernel_rfl
theorem atL [aA]:SC (YV w9):=s0 (.nil _) atK
def RU:=qa (pl A4 nil)
def ED:=qe HT
abbrev RW:=ED.B
abbrev zm:=Int->Int->Option RW
def Gq (g:zm):Ct:=(143,FC RU (lf ED) (λb=>g b.1 b.2))
def Gr (xc:YU)(x0:Int)(x1:Int):Pg RW:=opt (xc x0) λd=>opt (xc x1) λak=>ae d (ae ak (ret 0) (ret (-1))) (ae ak (ret 1) (ae (decide (x0<x1)) (ret (-1)) (ae (decide (x0>x1)) (ret 1) (ret 0))))
def lM:=λx0 x1=>(Gr w9 x0 x1).val
theorem an6:∀xc,D0 [YV xc] 143 RU (lf ED) λb=>Gr xc b.1 b.2:=λ_ b=>by kernel_rfl
theorem RX [aA]:SC (Gq lM):=s0 (.c atL (.nil _)) (an6 w9)
def B6:=qa (dp (c J0 axn) λv=>(c (cl (gs v.1.1 nN) nil) (cl (cl (gs v.2.1 nN) nil) nil)))
def rm:=qe aVW
abbrev B7:=rm.B
abbrev B8:=Nat->Nat->NI->NI->Bool->Bool->Option B7
def B9 (g:B8):Ct:=(144,vA 1 [.i .i64] (vA 0 [.i .i64] (FC B6 (lf rm) (λb=>g b.1.1.1 b.1.2.1 b.2.1 b.b b.1.1.2 b.1.b))))
def dk:=qs (st (dp (c J0 (c zU (us 7 (c J0 (c ai aJO))))) λv=>(pl (c (so (cl (gs v.1.1 nN) nil)) (cl (so (cl (gs v.2.1.1 nN) nil)) nil)) nil)))
def xN:=qs (st (pr (us 4 aVu) (pl (c HW abz) nil)))
def Lx:=qs (st (pr (c J0 (c zU (us 7 (c J0 (c ai aJW))))) (pl (c HW abz) nil)))
abbrev iy:=xN.B⊕(((Nat×Bool)×(Nat×Bool)×(Nat×Bool)×Int×Int×Bool)×NI×NI)
def AF {ρ:Type}(x:iy)(K:AX->St->Option ρ):Option ρ:=(t9 (λd=>K .ret (xN.em d)) (λd=>K (.ex 0) (Lx.em (d.1,(d.1.1.1,d.2.1),d.1.2.1.1,d.b)))) x
def qx (oL:zm)(d:dk.B):PL dk iy:=let n1:=d.1.2;let n2:=n1.2.2;let y0:=z4 n2.2;let y1:=decide (n2.2<n2.1);ae y1 (ae (bg n2.2 n1.2.1.1) (ae (decide (n2.2>=wr n1.1.1)) (ret (ws (ww (1,(d.1.1.1,d.2.1),n1.1.1,d.2.2)))) (ae (bg n2.2 n1.1.1) (opt (oL (d.2.1 y0) (d.2.2 y0)) λak=>ae (ak !=0) (ret (ws (ww (ak,(d.1.1.1,d.2.1),n1.1.1,d.2.2)))) (ret (ww ((d.1.1,n1.1,n1.2.1,n2.1,wI (n2.2+1)),d.2)))) no)) no) (ret (ws (ws ((d.1.1,n1.1,n1.2.1,n2.1,n2.2,y1),d.2))))
def qy:=bI (qx lM) 2000
def sU (dR:LT dk iy)(x0:Nat)(x1:Nat)(x2:Nat->Int)(x3:Nat->Int)(w0:Bool)(w1:Bool):Pg B7:=ae (z9 x0 x0) (ae (z9 x1 x1) (opt (dR (((x0,w0),(x1,w1),(x0,w0),wr x0,0),x2,x3)) λx=>sum x (λd=>ret d.1) λd=>ae (decide (wr d.1.1.1<wr d.1.2.1.1)) (ret (-1)) (ret 0)) no) no
def gm:=λx0 x1 x2 x3 w0 w1=>(sU qy x0 x1 x2 x3 w0 w1).val
abbrev mU:=zm×(LT dk iy)
def sV (p:mU):KK:=⟨[Gq p.1],⟨[⟨2,(rg 2 7 (rg 12 24 [])),[]⟩],[fQ 2 2 dk AF p.2],[],[],(some ⟨0,(rg 0 4 (rg 5 31 [])),[]⟩)⟩,2,144⟩
theorem Nj (p:mU):LI (sV p) 2 dk AF (qx p.1):=λ_ d c K=>by kernel_rfl
theorem RY (p:mU):D2 (sV p) B6 (lf rm) λb=>sU p.2 b.1.1.1 b.1.2.1 b.2.1 b.b b.1.1.2 b.1.b:=λb=>by kernel_rfl
abbrev sW:mU:=(lM,qy)
theorem RZ [aA]:SC (B9 gm):=sc (Sound.nil 1 [.i .i64]<|Sound.nil 0 [.i .i64]<|kS (k:=sV sW) (.c RX (.nil _)) [2] [] ⟨kL (Nj sW),trivial⟩ trivial (RY sW))
def DX:=qa (pl (c aKc Eo) nil)
def PH:=qe HT
abbrev ajR:=PH.B
abbrev JR:=DX.B->Option ajR
def Ub (g:JR):Ct:=(96,FC DX (lf PH) g)
def Uc (oL:zm)(mV:B8)(x:DX.B):Pg ajR:=let n2:=x.2.2.2.2;let n1:=x.1.2.2.2;opt (oL x.1.1 x.2.1) λd=>ae (d !=0) (ret d) (opt (mV 8 8 (cr x.1.2.1 [n1.2.2.2.2.2,n1.2.2.2.2.1,n1.2.2.2.1,n1.2.2.1,n1.2.1,n1.1,x.1.2.2.1,x.1.2.1]) (cr x.2.2.1 [n2.2.2.2.2.2,n2.2.2.2.2.1,n2.2.2.2.1,n2.2.2.1,n2.2.1,n2.1,x.2.2.2.1,x.2.2.1]) false false) λd=>ret d)
def uh:=λx=>(Uc lM gm x).val
theorem aCU:∀oL mV,D0 [Gq oL,B9 mV] 96 DX (lf PH) λb=>Uc oL mV b:=λ_ _ b=>by kernel_rfl
theorem ajS [aA]:SC (Ub uh):=s0 (.c RX (.c RZ (.nil _))) (aCU lM gm)
def cq:=qa (dp (c aPa (cl aKc (cu aPm nil))) λv=>(cl (cl (gs v.1.1 aB) nil) nil))
def eu:=qe (res (pl aPs (pu adF nil)))
abbrev eC:=eu.B
abbrev iD:=cq.B->Option eC
def iF (g:iD):Ct:=(95,vA 0 [.i .i64,.i .i64,.i .i64,.i .i64,.i .i64,.i .i64,.i .i64,.i .i64,.i .i64] (FC cq (lf eu) g))
def bc:=qs (st (dp (c aPa (us 1 (cu aPm (us 1 (cu aIn (us 3 (c ai (c ai (cl ai (us 29 aVv)))))))))) λv=>(pl (c (so (cl (gs v.1.1 aB) nil)) aWu) nil)))
def p8:=qs (st (pr (c aPa (us 1 (cu aPm (us 1 (cu aIn (us 3 (c ai (c ai (c ai (us 4 (c ai (c ai (cl ab (us 22 aVv)))))))))))))) (pl (c HX aWu) nil)))
abbrev bZ:=(((Nat×Bool)×Int×Int×Int×Bool)×cP×Int×Int×Int×Int×Int×Int×Int×Int×Int)
def hI {ρ:Type}(x:bZ)(K:AX->St->Option ρ):Option ρ:=(λd=>K (.ex 0) (p8.em ((d.1.1,d.1.2.1,d.1.b.1,d.1.b.2.1,d.1.b),(d.1.1.1,d.2.1),d.b))) x
def dU (DY:JR)(d:bc.B):PL bc bZ:=let n2:=d.1.2.2;let n1:=d.2.1.2.2.2;let y0:=wI (Int.fdiv (wU (wI (n2.1+n2.2))) 2);let y1:=z4 y0;let y2:=decide (n2.1<n2.2);ae y2 (ae (bg y0 d.1.1.1) (opt (DY ((d.2.1.1 y1,d.2.1.2.1 y1,d.2.1.2.2.1 y1,n1.1 y1,n1.2.1 y1,n1.2.2.1 y1,n1.2.2.2.1 y1,n1.2.2.2.2.1 y1,n1.2.2.2.2.2 y1),d.2.2)) λak=>ae (decide (ak<0)) (ret (ww ((d.1.1,d.1.2.1,wI (y0+1),n2.2),d.2))) (ret (ww ((d.1.1,d.1.2.1,n2.1,y0),d.2)))) no) (ret (ws ((d.1.1,d.1.2.1,n2.1,n2.2,y2),d.2)))
def dV:=bI (dU uh) 2000
def eD (DY:JR)(dR:LT bc bZ)(x:cq.B):Pg eC:=let y0:=wr x.1.1.1;ae (z9 x.1.1.1 x.1.1.1) (opt (dR ((x.1.1,y0,0,y0),x.2,x.1.2)) λd=>let n2:=d.1.2.2.1;let n1:=d.2.1.2.2.2;let y0:=z4 n2;ae (decide (n2<d.1.2.1)) (ae (bg n2 d.1.1.1) (opt (DY ((d.2.1.1 y0,d.2.1.2.1 y0,d.2.1.2.2.1 y0,n1.1 y0,n1.2.1 y0,n1.2.2.1 y0,n1.2.2.2.1 y0,n1.2.2.2.2.1 y0,n1.2.2.2.2.2 y0),d.2.2)) λak=>ret (n2,ak==0)) no) (ret (n2,false))) no
def cv:=λx=>(eD uh dV x).val
abbrev cX:=JR×(LT bc bZ)
def eE (p:cX):KK:=⟨[Ub p.1],⟨[⟨3,(1::3::5::6::7::rg 11 29 [48]),[]⟩],[fQ 3 1 bc hI p.2],[],[],(some ⟨0,(rg 0 6 (rg 8 41 [])),[]⟩)⟩,1,95⟩
theorem pM (p:cX):LI (eE p) 3 bc hI (dU p.1):=λ_ d c K=>by kernel_rfl
theorem qL (p:cX):D2 (eE p) cq (lf eu) λb=>eD p.1 p.2 b:=λb=>by kernel_rfl
abbrev eF:cX:=(uh,dV)
theorem qM [aA]:SC (iF cv):=sc (Sound.nil 0 [.i .i64,.i .i64,.i .i64,.i .i64,.i .i64,.i .i64,.i .i64,.i .i64,.i .i64]<|kS (k:=eE eF) (.c ajS (.nil _)) [3] [] ⟨kL (pM eF),trivial⟩ trivial (qL eF))
def xd:=qa (pr (cu Uv Eo) (cd akQ λb0=>(cl (cl (gs b0.b.1 aB) nil) nil)))
def Of:=qe (res (pu tQ (pl (cl (zT akQ) adF) nil)))
def akp:=qe (res (pr ab (pr (cl (zT (a 5 j7 (c gi (c (gc (AG 2 9)) mQ)))) aMC) (cl abC nil))))
abbrev CZ:=Of.B⊕(Bool×bT×NI×NI×NI×NI×NI×NI×NI×NI×NI)
def YW:CZ->T:=ls (lf Of) (λd=>lf akp (d.1,d.2.1,d.2.1.b.1,d.b))
abbrev KB:=xd.B->Option CZ
def YX (g:KB):Ct:=(58,FC xd YW g)
def KC (cY:iD)(gW:sk)(cV:gM)(x:xd.B):Pg CZ:=let bh:=x.2.2;let n5:=x.1.2;let n4:=bh.2.2.2;let n3:=x.2.1;let n9:=n3.1.2;let n7:=n3.2.2;let n1:=n5.2.2.2;let n6:=n1.2.2;let y0:=wI (n3.1.1+1);let y1:=z9 n7.1 n7.1;ae (decide (x.1.1<=n7.2)) (ret (ww ((y0,wI (n9.1+1),n9.2),n3.2))) (ae y1 (opt (cY (((n7.1,true),x.1),bh)) λd=>ae y1 (opt (gW n7.1 d.1 bh.1 bh.2.1 bh.2.2.1 n4.1 n4.2.1 n4.2.2.1 n4.2.2.2.1 n4.2.2.2.2.1 n4.2.2.2.2.2 (λj=>bif z9 j 0 then x.1.1 else x.1.1) (λj=>bif z9 j 0 then n5.1 else n5.1) (λj=>bif z9 j 0 then n5.2.1 else n5.2.1) (λj=>bif z9 j 0 then n5.2.2.1 else n5.2.2.1) (λj=>bif z9 j 0 then n1.1 else n1.1) (λj=>bif z9 j 0 then n1.2.1 else n1.2.1) (λj=>bif z9 j 0 then n6.1 else n6.1) (λj=>bif z9 j 0 then n6.2.1 else n6.2.1) (λj=>bif z9 j 0 then n6.2.2 else n6.2.2) 1 true true) λd=>let n8:=d.2.2;let n2:=n8.2.2.2;let aT:=n2.2.2;ae (decide (wr d.1<=n3.2.1)) (ret (ws (true,((y0,n9),n3.2.1,d.1,n7.2),d.2))) (ae (bg 0 d.1) (ae (z9 d.1 d.1) (opt (cV d.1 0 1 d.2.1 n8.1 n8.2.1 n8.2.2.1 n2.1 n2.2.1 aT.1 aT.2.1 aT.2.2 true) λak=>ret (ws (!(d.2.1 0==x.1.1&&(n8.1 0==n5.1&&(n8.2.1 0==n5.2.1&&(n8.2.2.1 0==n5.2.2.1&&(n2.1 0==n1.1&&(n2.2.1 0==n1.2.1&&(aT.1 0==n6.1&&(aT.2.1 0==n6.2.1&&(aT.2.2 0==n6.2.2&&true)))))))&&true)),((y0,n9.1,wI (n9.2.1+1),n9.2.2),n3.2.1,ak.1,n7.2),ak.2))) no) no)) no) no)
def xf:=λx=>(KC cv eY cT x).val
theorem atM:∀cY DY gW cV,D0 [iF cY,Ub DY,su gW,lD cV] 58 xd YW λb=>KC cY gW cV b:=λ_ _ _ _ b=>by kernel_rfl
theorem atN [aA]:SC (YX xf):=s0 (.c qM (.c ajS (.c FK (.c sy (.nil _))))) (atM cv uh eY cT)
def xg:=qa (pr (cu Uv iA) (cd akQ λb0=>(cl (cl (gs b0.b.1 aB) nil) nil)))
def apJ:=qe (res (pr (ac (AG 2 9)) (pr (cl (zT (a 5 j7 (c gi (c (gc (AG 3 9)) mQ)))) aMC) (c abC (cl abC nil)))))
abbrev C2:=(Nat×bT×cP×NI×NI×NI×NI×NI×NI×NI×NI×NI)
def YY:C2->T:=λd=>lf apJ (d.1,d.2.1,(d.1,d.b.1),d.2.1.b.1,d.b.2)
abbrev KD:=xg.B->Option C2
def YZ (g:KD):Ct:=(108,FC xg YY g)
def iG:=qs (st (pr (cu Uv (c ai (us 3 (cl ai (us 58 nil))))) (pl (cd (so akQ) λb0=>(cl (so (cl (gs b0.b.1 aB) nil)) nil)) nil)))
def ahZ:=qs (st (pr (cu Uv (c ai (us 3 (c ai (us 1 (c ai (cu Uv (cu Uv (cu aPD (c aPb (c ai (c ab (cu J1 (cu Uv (cu Uv (cu aPD (c aPb (c ai (c (ac (LC (pu Dx (pl aVV gh)))) (c (ac (LC (pu Dx (pl aVV Dx)))) (c ai (c ai (c ab aVs))))))))))))))))))))))) (pl (c (so akQ) (cl HX nil)) nil)))
def ah0:=qs (st (pr (cu Uv (c ai (us 3 (c ai (us 1 (c ai (cu Uv (cu Uv (cu aPD (c aPb (c ai (cl ab (cu tQ (xs 10 (cu tQ (us 38 nil)))))))))))))))) (pl (c (so akQ) (cl HX nil)) nil)))
abbrev sX:=((Int×Int×Nat×Int×Bool×Nat×Int×Bool)×((Int×Int×Int×Int×Int)×Int×Int)×NI×NI×NI×NI×NI×NI×NI×NI×NI)⊕((Int×Int×Nat×Int×Bool)×((Int×Int×Int×Int×Int)×Int×Int)×NI×NI×NI×NI×NI×NI×NI×NI×NI)
def R4 {ρ:Type}(x:sX)(K:AX->St->Option ρ):Option ρ:=(t9 (λd=>K (.ex 0) (ahZ.em ((d.1.1,d.1.2.1,d.1.2.1,d.1.b.1,d.1.b.2.1,d.1.c.1,d.1.b.1,d.1.2.1,d.1.c.2.1,d.1.c.2.1,d.1.c.b.1,d.1.1,d.1.c.b.2,d.1.c.b.2),(d.2.1.1,d.2.1.2.1,d.1.b.1,d.2.1.b),d.1.b.1,d.b))) (λd=>K (.ex 0) (ah0.em ((d.1.1,d.1.2.1,d.1.2),(d.2.1.1,d.2.1.2.1,d.1.b.1,d.2.1.b),d.1.b.1,d.b)))) x
def Gs (d:iG.B):PL iG sX:=let n3:=d.1.2;let n2:=d.2.1.2.2;let n1:=(d.2.1.1,d.2.1.2.1,n2.2);let y0:=z4 n3;let y1:=wr n2.1;let y2:=decide (n3<y1);let y3:=decide (d.2.2.1 y0<=d.1.1);ae y2 (ae (bg n3 n2.1) (ae y3 (ret (ww ((d.1.1,wI (n3+1)),d.2))) (ret (ws (ww ((d.1.1,n3,n2.1,y1,y2,y0,d.2.2.1 y0,y3),n1,d.2.2))))) no) (ret (ws (ws ((d.1.1,n3,n2.1,y1,y2),n1,d.2.2))))
def Gu:=bI (Gs) 2000
def KE (tJ:mf)(cV:gM)(dR:LT iG sX)(x:xg.B):Pg C2:=ae (z9 x.2.1.2.2.1 x.2.1.2.2.1) (opt (dR ((x.1,0),x.2)) λx=>sum x (λd=>let n9:=d.2.2;let n6:=d.2.1;let n5:=d.1.2;let n1:=n9.2.2.2;let n3:=n1.2.2.2;let y0:=z4 n5.1;ae (HF n5.1 n5.2.1) (ae (z9 y0 y0) (opt (tJ y0 n9.1 n9.2.1 n9.2.2.1 n1.1 n1.2.1 n1.2.2.1 n3.1 n3.2.1 n3.2.2 false) λak=>ae (z9 n5.2.1 n5.2.1) (opt (cV n5.2.1 0 n5.1 n9.1 n9.2.1 n9.2.2.1 n1.1 n1.2.1 n1.2.2.1 n3.1 n3.2.1 n3.2.2 true) λaF=>ret (ak.1,((n6.1.1,n6.1.2.1,n6.1.2.2.1,n6.1.2.2.2.1,wI (n6.1.2.2.2.2+n5.1)),n6.2.1,aF.1,if d.1.1>n6.2.2 then d.1.1 else n6.2.2),ak.2,aF.2)) no) no) no) λd=>let aT:=d.2.2;let n8:=d.2.1;let n7:=d.1.2;let n2:=aT.2.2.2;let n4:=n2.2.2.2;let y0:=z4 n7.1;ae (HF n7.1 n7.2.1) (ae (z9 y0 y0) (opt (tJ y0 aT.1 aT.2.1 aT.2.2.1 n2.1 n2.2.1 n2.2.2.1 n4.1 n4.2.1 n4.2.2 false) λak=>ae (z9 n7.2.1 n7.2.1) (opt (cV n7.2.1 0 n7.1 aT.1 aT.2.1 aT.2.2.1 n2.1 n2.2.1 n2.2.2.1 n4.1 n4.2.1 n4.2.2 true) λaF=>ret (ak.1,((n8.1.1,n8.1.2.1,n8.1.2.2.1,n8.1.2.2.2.1,wI (n8.1.2.2.2.2+n7.1)),n8.2.1,aF.1,if d.1.1>n8.2.2 then d.1.1 else n8.2.2),ak.2,aF.2)) no) no) no) no
def xi:=λx=>(KE fq cT Gu x).val
abbrev C4:=mf×gM×(LT iG sX)
def KF (p:C4):KK:=⟨[tz p.1,lD p.2.1],⟨[⟨2,(2::3::4::rg 6 9 (rg 25 39 (rg 15 10 []))),[]⟩],[fQ 2 2 iG R4 p.b],[],[],(some ⟨0,(rg 0 4 (rg 5 59 [])),[]⟩)⟩,2,108⟩
theorem akq (p:C4):LI (KF p) 2 iG R4 (Gs):=λ_ d c K=>by kernel_rfl
theorem atP (p:C4):D2 (KF p) xg YY λb=>KE p.1 p.2.1 p.b b:=λb=>by kernel_rfl
abbrev KG:C4:=(fq,cT,Gu)
theorem atQ [aA]:SC (YZ xi):=sc (kS (k:=KF KG) (.c GP (.c sy (.nil _))) [2] [] ⟨kL (akq KG),trivial⟩ trivial (atP KG))
def Nk:=qa (pr (cl (aa (c gi aDP)) (cu aS (cu LA (cu (app 2 1) nil)))) (cu (cu (gc (ccl (pu (nat 194) (pu rq7 (pu we Dx))))) nil) (c mQ (c mQ (cu (cu (gp 4 1) nil) bJ)))))
def BE:=qe (res (pr ai (pl (cu fD (cu fD aPy)) nil)))
abbrev Nl:=BE.B
abbrev Nm:=Int->Int->Int->Int->Int->Int->Int->Int->Int->Bool->Option Nl
def Nn (g:Nm):Ct:=(195,FC Nk (lf BE) (λb=>g b.1.1 b.1.2.1 b.1.b.1 b.1.b.2.1 b.1.c.1 b.1.c.2.1 b.1.c.b b.2.1 b.b.1 b.b.2))
def C5 (aq:Ck)(x0:Int)(x1:Int)(x2:Int)(x3:Int)(x4:Int)(x5:Int)(x6:Int)(x7:Int)(x8:Int)(x9:Bool):Pg Nl:=let y0:=wI (x7+1);let y1:=wI (x0*1073741824);let y2:=wI (x5*1073741824);let y3:=wI (x4*1073741824);let y4:=wI (x6*1073741824);let y5:=wI (x2*1073741824);let y6:=wI (x1*1073741824);let y7:=wI (x3*1073741824);let y8:=bg y0 7;let y9:=y0==1;let At:=y0==4;let Au:=y0==6;let C6:=y0==2;let C7:=y0==3;let C8:=y0==5;ae (bg x7 7) (ae (x7==6) (ae y8 (ae Au (opt (aq y4 y4 x8 600000000 x9) λd=>ret d) (ae C8 (opt (aq y4 y2 x8 600000000 x9) λd=>ret d) (ae At (opt (aq y4 y3 x8 600000000 x9) λd=>ret d) (ae C7 (opt (aq y4 y7 x8 600000000 x9) λd=>ret d) (ae C6 (opt (aq y4 y5 x8 600000000 x9) λd=>ret d) (ae y9 (opt (aq y4 y6 x8 600000000 x9) λd=>ret d) (opt (aq y4 y1 x8 600000000 x9) λd=>ret d))))))) no) (ae (x7==5) (ae y8 (ae Au (opt (aq y2 y4 x8 600000000 x9) λd=>ret d) (ae C8 (opt (aq y2 y2 x8 600000000 x9) λd=>ret d) (ae At (opt (aq y2 y3 x8 600000000 x9) λd=>ret d) (ae C7 (opt (aq y2 y7 x8 600000000 x9) λd=>ret d) (ae C6 (opt (aq y2 y5 x8 600000000 x9) λd=>ret d) (ae y9 (opt (aq y2 y6 x8 600000000 x9) λd=>ret d) (opt (aq y2 y1 x8 600000000 x9) λd=>ret d))))))) no) (ae (x7==4) (ae y8 (ae Au (opt (aq y3 y4 x8 600000000 x9) λd=>ret d) (ae C8 (opt (aq y3 y2 x8 600000000 x9) λd=>ret d) (ae At (opt (aq y3 y3 x8 600000000 x9) λd=>ret d) (ae C7 (opt (aq y3 y7 x8 600000000 x9) λd=>ret d) (ae C6 (opt (aq y3 y5 x8 600000000 x9) λd=>ret d) (ae y9 (opt (aq y3 y6 x8 600000000 x9) λd=>ret d) (opt (aq y3 y1 x8 600000000 x9) λd=>ret d))))))) no) (ae (x7==3) (ae y8 (ae Au (opt (aq y7 y4 x8 600000000 x9) λd=>ret d) (ae C8 (opt (aq y7 y2 x8 600000000 x9) λd=>ret d) (ae At (opt (aq y7 y3 x8 600000000 x9) λd=>ret d) (ae C7 (opt (aq y7 y7 x8 600000000 x9) λd=>ret d) (ae C6 (opt (aq y7 y5 x8 600000000 x9) λd=>ret d) (ae y9 (opt (aq y7 y6 x8 600000000 x9) λd=>ret d) (opt (aq y7 y1 x8 600000000 x9) λd=>ret d))))))) no) (ae (x7==2) (ae y8 (ae Au (opt (aq y5 y4 x8 600000000 x9) λd=>ret d) (ae C8 (opt (aq y5 y2 x8 600000000 x9) λd=>ret d) (ae At (opt (aq y5 y3 x8 600000000 x9) λd=>ret d) (ae C7 (opt (aq y5 y7 x8 600000000 x9) λd=>ret d) (ae C6 (opt (aq y5 y5 x8 600000000 x9) λd=>ret d) (ae y9 (opt (aq y5 y6 x8 600000000 x9) λd=>ret d) (opt (aq y5 y1 x8 600000000 x9) λd=>ret d))))))) no) (ae (x7==1) (ae y8 (ae Au (opt (aq y6 y4 x8 600000000 x9) λd=>ret d) (ae C8 (opt (aq y6 y2 x8 600000000 x9) λd=>ret d) (ae At (opt (aq y6 y3 x8 600000000 x9) λd=>ret d) (ae C7 (opt (aq y6 y7 x8 600000000 x9) λd=>ret d) (ae C6 (opt (aq y6 y5 x8 600000000 x9) λd=>ret d) (ae y9 (opt (aq y6 y6 x8 600000000 x9) λd=>ret d) (opt (aq y6 y1 x8 600000000 x9) λd=>ret d))))))) no) (ae y8 (ae Au (opt (aq y1 y4 x8 600000000 x9) λd=>ret d) (ae C8 (opt (aq y1 y2 x8 600000000 x9) λd=>ret d) (ae At (opt (aq y1 y3 x8 600000000 x9) λd=>ret d) (ae C7 (opt (aq y1 y7 x8 600000000 x9) λd=>ret d) (ae C6 (opt (aq y1 y5 x8 600000000 x9) λd=>ret d) (ae y9 (opt (aq y1 y6 x8 600000000 x9) λd=>ret d) (opt (aq y1 y1 x8 600000000 x9) λd=>ret d))))))) no))))))) no
def pN:=λx0 x1 x2 x3 x4 x5 x6 x7 x8 x9=>(C5 jL x0 x1 x2 x3 x4 x5 x6 x7 x8 x9).val
theorem ah1:∀aq,D0 [Cl aq] 195 Nk (lf BE) λb=>C5 aq b.1.1 b.1.2.1 b.1.b.1 b.1.b.2.1 b.1.c.1 b.1.c.2.1 b.1.c.b b.2.1 b.b.1 b.b.2:=λ_ b=>by kernel_rfl
theorem ah2 [aA]:SC (Nn pN):=s0 (.c Md (.nil _)) (ah1 jL)
def UN:=qa (pu nil nil)
def Gv:=qe (res (pu (aa (cu aVJ (cu (gc (cf (fi .i64 (int 6000)))) (cu (gc (cf (fi .i64 (int (-2000))))) (cu (gc (cf (fi .i64 (int (-1500))))) (cu (gc (cf (fi .i64 (int (-6000))))) (cu (gc (cf (fi .i64 (int (-9000))))) (cu aVJ (cu aVK (cu (gc (cf (fi .i64 (int 2500)))) (cu aJX (cu (gc (cf (fi .i64 (int (-2200))))) (cu (gc (cf (fi .i64 (int (-3800))))) (cu aO (cu aVK (cu aVL (cu (gc (cf (fi .i64 (int 900)))) (cu (gc (cf (fi .i64 (int (-1400))))) (cu (gc (cf (fi .i64 (int (-500))))) (cu (gc (cf (fi .i64 (int (-300))))) (cu aVM (cu aVL (cu aJX (cu (gc (cf (fi .i64 (int 1500)))) (cu (gc (cf (fi .i64 (int (-1700))))) (cu aVM (cu (gc (cf (fi .i64 (int 700)))) (cu (gc (cf (fi .i64 (int (-800))))) (cu aJX (cu aVN (cu (gc (cf (fi .i64 (int 4000)))) (cu (gc (cf (fi .i64 (int (-3000))))) (cu aJX (cu (gc (cf (fi .i64 (int 3500)))) (cu (gc (cf (fi .i64 (int (-1200))))) (cu aVN nil)))))))))))))))))))))))))))))))))))) (pu nil nil)))
abbrev Ig:=Gv.B
abbrev Ih:=Option Ig
def Ii (g:Ih):Ct:=(193,FC UN (lf Gv) (λ_=>g))
def Ij:Pg Ig:=ret ()
def mN:Option Ig:=(Ij).val
theorem apK:D0 [] 193 UN (lf Gv) λb=>Ij:=λb=>by kernel_rfl
theorem UO [aA]:SC (Ii mN):=s0 (.nil _) apK
def R5:=qa (pr (cu aS HV) bJ)
def EE:=qe aPP
abbrev R6:=EE.B
abbrev zn:=Int->Int->Int->Bool->Option R6
def Gw (g:zn):Ct:=(120,FC R5 (lf EE) (λb=>g b.1.1 b.1.2.1 b.1.b b.2))
def Gx (cO:vI)(iO:Ih)(aq:Ck)(aN:Nm)(av:cj)(x0:Int)(x1:Int)(x2:Int)(x3:Bool):Pg R6:=let y0:=wI (x0+900000000);let y1:=wI (x1+1800000000);let y2:=wI (t8 y0 450000000);let y3:=wI (t8 y1 600000000);let y4:=if 3<y2 then 3 else y2;let y5:=if 5<y3 then 5 else y3;let y6:=wI (y4+1);let y7:=wI (y1-wI (y5*600000000));opt (cO x0 x1 x2) λd=>ae (!d) (ret ((0,1),x3)) (opt iO λd=>ae (bg y4 5) (ae (y4==4) (opt (aN 1000 4000 (-3000) 500 3500 (-1200) 1000 y5 y7 x3) λd=>ae (bg y6 5) (ae (y6==4) (opt (aN 1000 4000 (-3000) 500 3500 (-1200) 1000 y5 y7 d.2) λak=>opt (aq d.1 ak.1 (wI (y0-wI (y4*450000000))) 450000000 ak.2) λd=>opt (av d.1 3373259426 19327352832000 d.2) λd=>ret ((d.1,0),d.2)) (ae (y6==3) (opt (aN 500 1500 (-1700) 100 700 (-800) 500 y5 y7 d.2) λak=>opt (aq d.1 ak.1 (wI (y0-wI (y4*450000000))) 450000000 ak.2) λd=>opt (av d.1 3373259426 19327352832000 d.2) λd=>ret ((d.1,0),d.2)) (ae (y6==2) (opt (aN 950 900 (-1400) (-500) (-300) 100 950 y5 y7 d.2) λak=>opt (aq d.1 ak.1 (wI (y0-wI (y4*450000000))) 450000000 ak.2) λd=>opt (av d.1 3373259426 19327352832000 d.2) λd=>ret ((d.1,0),d.2)) (ae (y6==1) (opt (aN 2200 2500 500 (-2200) (-3800) 0 2200 y5 y7 d.2) λak=>opt (aq d.1 ak.1 (wI (y0-wI (y4*450000000))) 450000000 ak.2) λd=>opt (av d.1 3373259426 19327352832000 d.2) λd=>ret ((d.1,0),d.2)) (opt (aN 3000 6000 (-2000) (-1500) (-6000) (-9000) 3000 y5 y7 d.2) λak=>opt (aq d.1 ak.1 (wI (y0-wI (y4*450000000))) 450000000 ak.2) λd=>opt (av d.1 3373259426 19327352832000 d.2) λd=>ret ((d.1,0),d.2)))))) no) (ae (y4==3) (opt (aN 500 1500 (-1700) 100 700 (-800) 500 y5 y7 x3) λd=>ae (bg y6 5) (ae (y6==4) (opt (aN 1000 4000 (-3000) 500 3500 (-1200) 1000 y5 y7 d.2) λak=>opt (aq d.1 ak.1 (wI (y0-wI (y4*450000000))) 450000000 ak.2) λd=>opt (av d.1 3373259426 19327352832000 d.2) λd=>ret ((d.1,0),d.2)) (ae (y6==3) (opt (aN 500 1500 (-1700) 100 700 (-800) 500 y5 y7 d.2) λak=>opt (aq d.1 ak.1 (wI (y0-wI (y4*450000000))) 450000000 ak.2) λd=>opt (av d.1 3373259426 19327352832000 d.2) λd=>ret ((d.1,0),d.2)) (ae (y6==2) (opt (aN 950 900 (-1400) (-500) (-300) 100 950 y5 y7 d.2) λak=>opt (aq d.1 ak.1 (wI (y0-wI (y4*450000000))) 450000000 ak.2) λd=>opt (av d.1 3373259426 19327352832000 d.2) λd=>ret ((d.1,0),d.2)) (ae (y6==1) (opt (aN 2200 2500 500 (-2200) (-3800) 0 2200 y5 y7 d.2) λak=>opt (aq d.1 ak.1 (wI (y0-wI (y4*450000000))) 450000000 ak.2) λd=>opt (av d.1 3373259426 19327352832000 d.2) λd=>ret ((d.1,0),d.2)) (opt (aN 3000 6000 (-2000) (-1500) (-6000) (-9000) 3000 y5 y7 d.2) λak=>opt (aq d.1 ak.1 (wI (y0-wI (y4*450000000))) 450000000 ak.2) λd=>opt (av d.1 3373259426 19327352832000 d.2) λd=>ret ((d.1,0),d.2)))))) no) (ae (y4==2) (opt (aN 950 900 (-1400) (-500) (-300) 100 950 y5 y7 x3) λd=>ae (bg y6 5) (ae (y6==4) (opt (aN 1000 4000 (-3000) 500 3500 (-1200) 1000 y5 y7 d.2) λak=>opt (aq d.1 ak.1 (wI (y0-wI (y4*450000000))) 450000000 ak.2) λd=>opt (av d.1 3373259426 19327352832000 d.2) λd=>ret ((d.1,0),d.2)) (ae (y6==3) (opt (aN 500 1500 (-1700) 100 700 (-800) 500 y5 y7 d.2) λak=>opt (aq d.1 ak.1 (wI (y0-wI (y4*450000000))) 450000000 ak.2) λd=>opt (av d.1 3373259426 19327352832000 d.2) λd=>ret ((d.1,0),d.2)) (ae (y6==2) (opt (aN 950 900 (-1400) (-500) (-300) 100 950 y5 y7 d.2) λak=>opt (aq d.1 ak.1 (wI (y0-wI (y4*450000000))) 450000000 ak.2) λd=>opt (av d.1 3373259426 19327352832000 d.2) λd=>ret ((d.1,0),d.2)) (ae (y6==1) (opt (aN 2200 2500 500 (-2200) (-3800) 0 2200 y5 y7 d.2) λak=>opt (aq d.1 ak.1 (wI (y0-wI (y4*450000000))) 450000000 ak.2) λd=>opt (av d.1 3373259426 19327352832000 d.2) λd=>ret ((d.1,0),d.2)) (opt (aN 3000 6000 (-2000) (-1500) (-6000) (-9000) 3000 y5 y7 d.2) λak=>opt (aq d.1 ak.1 (wI (y0-wI (y4*450000000))) 450000000 ak.2) λd=>opt (av d.1 3373259426 19327352832000 d.2) λd=>ret ((d.1,0),d.2)))))) no) (ae (y4==1) (opt (aN 2200 2500 500 (-2200) (-3800) 0 2200 y5 y7 x3) λd=>ae (bg y6 5) (ae (y6==4) (opt (aN 1000 4000 (-3000) 500 3500 (-1200) 1000 y5 y7 d.2) λak=>opt (aq d.1 ak.1 (wI (y0-wI (y4*450000000))) 450000000 ak.2) λd=>opt (av d.1 3373259426 19327352832000 d.2) λd=>ret ((d.1,0),d.2)) (ae (y6==3) (opt (aN 500 1500 (-1700) 100 700 (-800) 500 y5 y7 d.2) λak=>opt (aq d.1 ak.1 (wI (y0-wI (y4*450000000))) 450000000 ak.2) λd=>opt (av d.1 3373259426 19327352832000 d.2) λd=>ret ((d.1,0),d.2)) (ae (y6==2) (opt (aN 950 900 (-1400) (-500) (-300) 100 950 y5 y7 d.2) λak=>opt (aq d.1 ak.1 (wI (y0-wI (y4*450000000))) 450000000 ak.2) λd=>opt (av d.1 3373259426 19327352832000 d.2) λd=>ret ((d.1,0),d.2)) (ae (y6==1) (opt (aN 2200 2500 500 (-2200) (-3800) 0 2200 y5 y7 d.2) λak=>opt (aq d.1 ak.1 (wI (y0-wI (y4*450000000))) 450000000 ak.2) λd=>opt (av d.1 3373259426 19327352832000 d.2) λd=>ret ((d.1,0),d.2)) (opt (aN 3000 6000 (-2000) (-1500) (-6000) (-9000) 3000 y5 y7 d.2) λak=>opt (aq d.1 ak.1 (wI (y0-wI (y4*450000000))) 450000000 ak.2) λd=>opt (av d.1 3373259426 19327352832000 d.2) λd=>ret ((d.1,0),d.2)))))) no) (opt (aN 3000 6000 (-2000) (-1500) (-6000) (-9000) 3000 y5 y7 x3) λd=>ae (bg y6 5) (ae (y6==4) (opt (aN 1000 4000 (-3000) 500 3500 (-1200) 1000 y5 y7 d.2) λak=>opt (aq d.1 ak.1 (wI (y0-wI (y4*450000000))) 450000000 ak.2) λd=>opt (av d.1 3373259426 19327352832000 d.2) λd=>ret ((d.1,0),d.2)) (ae (y6==3) (opt (aN 500 1500 (-1700) 100 700 (-800) 500 y5 y7 d.2) λak=>opt (aq d.1 ak.1 (wI (y0-wI (y4*450000000))) 450000000 ak.2) λd=>opt (av d.1 3373259426 19327352832000 d.2) λd=>ret ((d.1,0),d.2)) (ae (y6==2) (opt (aN 950 900 (-1400) (-500) (-300) 100 950 y5 y7 d.2) λak=>opt (aq d.1 ak.1 (wI (y0-wI (y4*450000000))) 450000000 ak.2) λd=>opt (av d.1 3373259426 19327352832000 d.2) λd=>ret ((d.1,0),d.2)) (ae (y6==1) (opt (aN 2200 2500 500 (-2200) (-3800) 0 2200 y5 y7 d.2) λak=>opt (aq d.1 ak.1 (wI (y0-wI (y4*450000000))) 450000000 ak.2) λd=>opt (av d.1 3373259426 19327352832000 d.2) λd=>ret ((d.1,0),d.2)) (opt (aN 3000 6000 (-2000) (-1500) (-6000) (-9000) 3000 y5 y7 d.2) λak=>opt (aq d.1 ak.1 (wI (y0-wI (y4*450000000))) 450000000 ak.2) λd=>opt (av d.1 3373259426 19327352832000 d.2) λd=>ret ((d.1,0),d.2)))))) no))))) no)
def jy:=λx0 x1 x2 x3=>(Gx gx mN jL pN aU x0 x1 x2 x3).val
theorem an7:∀cO iO aq aN av,D1 [Af cO,Ii iO,Cl aq,Nn aN,cZ av] [0] 120 R5 (lf EE) λb=>Gx cO iO aq aN av b.1.1 b.1.2.1 b.1.b b.2:=λ_ _ _ _ _ b=>by kernel_rfl
theorem R7 [aA]:SC (Gw jy):=s0 (.c Eh (.c UO (.c Md (.c ah2 (.c dm (.nil _)))))) (an7 gx mN jL pN aU)
def aJh:=qa (pl iA nil)
def atT:=qe Fv
abbrev aJi:=atT.B
abbrev ay0:=Int->Option aJi
def aJj (g:ay0):Ct:=(55,FC aJh (lf atT) (λb=>g b))
def apb (x0:Int):Pg aJi:=ae (decide (x0>=0)) (ret (decide (x0<6))) (ret false)
def PI:=λx0=>(apb x0).val
theorem aT5:D0 [] 55 aJh (lf atT) λb=>apb b:=λb=>by kernel_rfl
theorem aT6 [aA]:SC (aJj PI):=s0 (.nil _) aT5
def ajT:=qa (pl (c ai Eo) nil)
def PJ:=qe Fv
abbrev ajU:=PJ.B
abbrev Ud:=Int->Int->Int->Int->Int->Int->Int->Int->Int->Int->Option ajU
def ajV (g:Ud):Ct:=(56,FC ajT (lf PJ) (λb=>g b.1 b.2.1 b.b.1 b.b.2.1 b.c.1 b.c.2.1 b.c.b.1 b.c.b.2.1 b.d.1 b.d.2))
def Ue (vi:ahA)(jR:Ku)(iP:H')(mW:aa1)(zp:anI)(vj:ahM)(x0:Int)(x1:Int)(x2:Int)(x3:Int)(x4:Int)(x5:Int)(x6:Int)(x7:Int)(x8:Int)(x9:Int):Pg ajU:=ae (x0==0) (opt (vi x1 x2 x3 x4 x5 x6 x7 x8 x9 false) λd=>ret (d.1.2==0)) (ae (x0==1) (opt (jR x1 x2 x3 x4 x5 x6 x7 x8 x9 false) λd=>ret (d.1.2==0)) (ae (x0==2) (opt (iP x1 x2 x3 x4 x5 x6 x7 x8 x9 false) λd=>ret (d.1.2==0)) (ae (x0==3) (opt (mW x1 x2 x3 x4 x5 x6 x7 x8 x9 false) λd=>ret (d.1.2==0)) (ae (x0==4) (opt (zp x1 x2 x3 x4 x5 x6 x7 x8 x9 false) λd=>ret (d.1.2==0)) (ae (x0==5) (opt (vj x1 x2 x3 x4 x5 x6 x7 x8 x9 false) λd=>ret (d.1.2==0)) (ret true))))))
def DZ:=λx0 x1 x2 x3 x4 x5 x6 x7 x8 x9=>(Ue CO og mL zf Gd CR x0 x1 x2 x3 x4 x5 x6 x7 x8 x9).val
theorem aCV:∀vi jR iP mW zp vj,D0 [ahB vi,Kv jR,Ia iP,aa2 mW,anJ zp,ahN vj] 56 ajT (lf PJ) λb=>Ue vi jR iP mW zp vj b.1 b.2.1 b.b.1 b.b.2.1 b.c.1 b.c.2.1 b.c.b.1 b.c.b.2.1 b.d.1 b.d.2:=λ_ _ _ _ _ _ b=>by kernel_rfl
theorem aCW [aA]:SC (ajV DZ):=s0 (.c awj (.c Yx (.c UI (.c anx (.c aBx (.c awz (.nil _))))))) (aCV CO og mL zf Gd CR)
def xj:=qa (dp (cu iW (c ai aJQ)) λv=>(cd asD λb0=>(c (cl (gs v.2.1 ast) nil) (c mb (c m8 (c (cl (gs b0.c.1 o6) nil) (cd qO λb5=>(cd qP λb6=>(cd qQ λb7=>(cd qR λb8=>(cd qS λb9=>(cd aDV λb10=>(c mH (cd aDN λb12=>(c (cl (gs b0.e mc) nil) (c (cl (gs b5.b.1 aB) nil) (c (cl (gs b6.b.1 aB) nil) (c (cl (gs b7.b.1 aB) nil) (c (cl (gs b8.b.1 aB) nil) (c (cl (gs b9.b.1 aB) nil) (c (cl (gs b10.b.1 aB) nil) (cl (cl (gs b12.b jo) nil) nil))))))))))))))))))))))
def Ik:=qe (res (pu Q' (pl (cu fD aQb) nil)))
abbrev Y0:=Ik.B
abbrev C9:=xj.B->Option Y0
def C' (g:C9):Ct:=(232,vA 2 [.b,.i .i64,.i .i64] (FC xj (lf Ik) g))
def KH (rY:I1)(x:xj.B):Pg Y0:=let n1:=x.2.2.2.2.2.2.2.2.2.2.2.2.1;let n2:=n1.1.2.2;ae (z9 x.1.2.1 x.1.2.1) (opt (rY x.1.1 x.2.1.2.2.2.2.2.2.2.2.2.2.2.2.2.1 x.1.2.1 n1.1.1 n1.1.2.1 n2.1 n2.2.1 n2.2.2.1 n2.2.2.2 n1.2 x.2.2.1.1 x.2.2.1.2.1 x.2.2.1.2.2 (x.1.2.2&&true)) λd=>ret d) no
def jS:=λx=>(KH nq x).val
theorem atU:∀rY,D0 [I2 rY] 232 xj (lf Ik) λb=>KH rY b:=λ_ b=>by kernel_rfl
theorem KI [aA]:SC (C' jS):=sc (Sound.nil 2 [.b,.i .i64,.i .i64]<|k0 (.c ade (.nil _)) (atU nq))
def uv:=qa (pr (cu iW iA) (cd wg λb0=>(c mb (c m8 (c (cl (gs b0.c.1 o6) nil) (cd xQ λb4=>(cd qO λb5=>(cd qP λb6=>(cd qQ λb7=>(cd qR λb8=>(cd qS λb9=>(c mH (cd zW λAv=>(c (cl (gs b0.e mc) nil) (c (cl (gs b4.b.1 aB) nil) (c (cl (gs b5.b.1 aB) nil) (c (cl (gs b6.b.1 aB) nil) (c (cl (gs b7.b.1 aB) nil) (c (cl (gs b8.b.1 aB) nil) (c (cl (gs b9.b.1 aB) nil) (cl (cl (gs Av.b jo) nil) nil)))))))))))))))))))))
def Gy:=qe aW8
abbrev UP:=Gy.B
abbrev AQ:=uv.B->Option UP
def AR (g:AQ):Ct:=(223,FC uv (lf Gy) g)
def Il (dO:C9)(x:uv.B):Pg UP:=let n5:=x.2.2.2.2.2;let n2:=x.2.1.2.2.2.2;let n4:=n2.2.2.2.2.2.2.2.2.2.2.2.2;let n1:=n5.2;let n3:=n1.2.2.2;ae (z9 n2.1 n2.1) (ae (z9 n4 n4) (ae (z9 n5.1.2.2.1 n5.1.2.2.1) (ae (z9 n1.1.2.2.1 n1.1.2.2.1) (ae (z9 n1.2.1.2.2.1 n1.2.1.2.2.1) (ae (z9 n1.2.2.1.2.2.1 n1.2.2.1.2.2.1) (ae (z9 n3.1.2.2.1 n3.1.2.2.1) (ae (z9 n3.2.1.2.2.1 n3.2.1.2.2.1) (ae (z9 n3.2.2.2.1.2.2 n3.2.2.2.1.2.2) (opt (dO ((x.1,1,true),x.2.1,(λj=>bif z9 j 0 then true else true,λj=>bif z9 j 0 then 0 else 0,λj=>bif z9 j 0 then 0 else 0),x.2.2)) λd=>ret d) no) no) no) no) no) no) no) no) no
def iQ:=λx=>(Il jS x).val
theorem apL:∀dO,D0 [C' dO] 223 uv (lf Gy) λb=>Il dO b:=λ_ b=>by kernel_rfl
theorem Im [aA]:SC (AR iQ):=s0 (.c KI (.nil _)) (apL jS)
def sY:=qa (pr (cu iW iA) (cd wg λb0=>(c mb (c m8 (c (cl (gs b0.c.1 o6) nil) (cd xQ λb4=>(cd qO λb5=>(cd qP λb6=>(cd qQ λb7=>(cd qR λb8=>(cd qS λb9=>(c mH (cd zW λAv=>(c (cl (gs b0.e mc) nil) (c (cl (gs b4.b.1 aB) nil) (c (cl (gs b5.b.1 aB) nil) (c (cl (gs b6.b.1 aB) nil) (c (cl (gs b7.b.1 aB) nil) (c (cl (gs b8.b.1 aB) nil) (c (cl (gs b9.b.1 aB) nil) (cl (cl (gs Av.b jo) nil) nil)))))))))))))))))))))
def EF:=qe aW8
abbrev R8:=EF.B
abbrev oM:=sY.B->Option R8
def oN (g:oM):Ct:=(172,FC sY (lf EF) g)
def Gz (dO:C9)(x:sY.B):Pg R8:=let n5:=x.2.2.2.2.2;let n2:=x.2.1.2.2.2.2;let n4:=n2.2.2.2.2.2.2.2.2.2.2.2.2;let n1:=n5.2;let n3:=n1.2.2.2;ae (z9 n2.1 n2.1) (ae (z9 n4 n4) (ae (z9 n5.1.2.2.1 n5.1.2.2.1) (ae (z9 n1.1.2.2.1 n1.1.2.2.1) (ae (z9 n1.2.1.2.2.1 n1.2.1.2.2.1) (ae (z9 n1.2.2.1.2.2.1 n1.2.2.1.2.2.1) (ae (z9 n3.1.2.2.1 n3.1.2.2.1) (ae (z9 n3.2.1.2.2.1 n3.2.1.2.2.1) (ae (z9 n3.2.2.2.1.2.2 n3.2.2.2.1.2.2) (opt (dO ((x.1,1,true),x.2.1,(λj=>bif z9 j 0 then false else false,λj=>bif z9 j 0 then 0 else 0,λj=>bif z9 j 0 then 0 else 0),x.2.2)) λd=>ret d) no) no) no) no) no) no) no) no) no
def dC:=λx=>(Gz jS x).val
theorem an8:∀dO,D0 [C' dO] 172 sY (lf EF) λb=>Gz dO b:=λ_ b=>by kernel_rfl
theorem sZ [aA]:SC (oN dC):=s0 (.c KI (.nil _)) (an8 jS)
def rn:=qa (pr (cu iW (cl (aa (a 10 zY mQ)) nil)) (cd wg λb0=>(c mb (c m8 (c (cl (gs b0.c.1 o6) nil) (cd xQ λb4=>(cd qO λb5=>(cd qP λb6=>(cd qQ λb7=>(cd qR λb8=>(cd qS λb9=>(c mH (cd zW λAv=>(c (cl (gs b0.e mc) nil) (c (cl (gs b4.b.1 aB) nil) (c (cl (gs b5.b.1 aB) nil) (c (cl (gs b6.b.1 aB) nil) (c (cl (gs b7.b.1 aB) nil) (c (cl (gs b8.b.1 aB) nil) (c (cl (gs b9.b.1 aB) nil) (cl (cl (gs Av.b jo) nil) nil)))))))))))))))))))))
def apM:=qe aXn
abbrev xm:=((Fu×Bool×NI×(NI×NI)×Nat×qF×Bool×Int×kG×Bool×Bool×Bool×Int×Int×Int×En×Nat)×NI×NI×NI×NI×NI×NI×NI×NI×NI×NI)
def Y1:xm->T:=λd=>lf apM (d.1,d.1.e,d.2)
abbrev KJ:=rn.B->Option xm
def KL (g:KJ):Ct:=(222,FC rn Y1 g)
def Da (x:rn.B):Pg xm:=let n7:=x.2.1.2;let n6:=x.1.1;let n3:=n7.2.2.2.2;let n8:=n3.2.2.2;let n2:=x.2.2.2.2.2.2.2.2.2.2.2.2.2.1;let n5:=n2.2.2.2.2;let n1:=n8.2.2.2.2;let n4:=n1.2.2.2.2;let y0:=n4+1;ae (wl (y0*80) 140737488355328) (ret ((x.2.1.1,n7.1,n7.2.1,n7.2.2.1,n7.2.2.2.1,n3.1,n3.2.1,n3.2.2.1,n8.1,n8.2.1,n8.2.2.1,n8.2.2.2.1,n1.1,n1.2.1,n1.2.2.1,n1.2.2.2.1,y0),λj=>bif z9 j n4 then n6.1.1 else n2.1 j,λj=>bif z9 j n4 then n6.1.2.1 else n2.2.1 j,λj=>bif z9 j n4 then n6.1.2.2.1 else n2.2.2.1 j,λj=>bif z9 j n4 then n6.1.2.2.2 else n2.2.2.2.1 j,λj=>bif z9 j n4 then n6.2.1.1 else n5.1 j,λj=>bif z9 j n4 then n6.2.1.2.1 else n5.2.1 j,λj=>bif z9 j n4 then n6.2.1.2.2 else n5.2.2.1 j,λj=>bif z9 j n4 then n6.2.2.1 else n5.2.2.2.1 j,λj=>bif z9 j n4 then n6.2.2.2.1 else n5.2.2.2.2.1 j,λj=>bif z9 j n4 then n6.2.2.2.2 else n5.2.2.2.2.2 j)) no
def jT:=λx=>(Da x).val
theorem atV:D0 [] 222 rn Y1 λb=>Da b:=λb=>by kernel_rfl
theorem Y2 [aA]:SC (KL jT):=s0 (.nil _) atV
def rq:=qa (dp (cu iW (c ai (cl aJJ nil))) λv=>(cd asD λb0=>(c (cl (gs v.2.1 aKp) nil) (c mb (c m8 (c (cl (gs b0.c.1 o6) nil) (cd qO λb5=>(cd qP λb6=>(cd qQ λb7=>(cd qR λb8=>(cd qS λb9=>(cd aDV λb10=>(c mH (cd aDN λb12=>(c (cl (gs b0.e mc) nil) (c (cl (gs b5.b.1 aB) nil) (c (cl (gs b6.b.1 aB) nil) (c (cl (gs b7.b.1 aB) nil) (c (cl (gs b8.b.1 aB) nil) (c (cl (gs b9.b.1 aB) nil) (c (cl (gs b10.b.1 aB) nil) (cl (cl (gs b12.b jo) nil) nil))))))))))))))))))))))
def apN:=qe (res (pr (ac (AG 21 3)) (pr (c (zT asD) aQb) (cl aPI nil))))
abbrev xo:=(Nat×((Fu×Bool×NI×(NI×NI)×Nat×qF×Bool×Int×kG×Bool×Bool×Bool×Int×Int×Int×En×Nat)×aRV×Int)×(Nat->Bool)×NI×NI)
def Y3:xo->T:=λd=>lf apN (d.1,d.2.1,d.1,d.b)
abbrev rr:=rq.B->Option xo
def ru (g:rr):Ct:=(228,vA 2 [.i .i64,.i .i64,.i .i64,.i .i64,.i .i64,.i .i64,.i .i64,.i .i64,.i .i64,.i .i64,.i .i64,.i .i64,.i .i64,.i .i64,.i .i64,.i .i64,.i .i64,.i .i64,.i .i64,.i .i64,.i .i64,.i .i64,.i .i64,.i .i64,.i .i64,.i .i64,.i .i64] (FC rq Y3 g))
def Db (abc:aAS)(dO:C9)(x:rq.B):Pg xo:=let n3:=x.2.1.2.2.2;let n5:=n3.2.2.2.2.2.2.2.2.2.2.2.2.2;let n2:=x.2.2.2.2.2.2;let n4:=n2.2.2.2;ae (z9 x.1.2.1 x.1.2.1) (opt (abc ((x.2.1.2.2.1,n3.1,x.1.2.1,x.1.2.2&&true),x.2.1.2.1,x.2.2.1)) λd=>let n6:=d.1.2.2;let n1:=(x.2.1.1,d.2.1,d.1.1,d.1.2.1,n3.2);ae (z9 n6 n6) (ae (z9 n3.2.1 n3.2.1) (ae (z9 n5 n5) (ae (z9 n2.1.2.2.1 n2.1.2.2.1) (ae (z9 n2.2.1.2.2.1 n2.2.1.2.2.1) (ae (z9 n2.2.2.1.2.2.1 n2.2.2.1.2.2.1) (ae (z9 n4.1.2.2.1 n4.1.2.2.1) (ae (z9 n4.2.1.2.2.1 n4.2.1.2.2.1) (ae (z9 n4.2.2.1.2.2.1 n4.2.2.1.2.2.1) (ae (z9 n4.2.2.2.2.1.2.2 n4.2.2.2.2.1.2.2) (opt (dO ((x.1.1,n6,true),n1,d.2.2,x.2.2.2)) λak=>ret (n6,(n1,ak),d.2.2)) no) no) no) no) no) no) no) no) no) no) no
def dw:=λx=>(Db F6 jS x).val
theorem atW:∀abc dO,D0 [aAT abc,C' dO] 228 rq Y3 λb=>Db abc dO b:=λ_ _ b=>by kernel_rfl
theorem xp [aA]:SC (ru dw):=sc (Sound.nil 2 [.i .i64,.i .i64,.i .i64,.i .i64,.i .i64,.i .i64,.i .i64,.i .i64,.i .i64,.i .i64,.i .i64,.i .i64,.i .i64,.i .i64,.i .i64,.i .i64,.i .i64,.i .i64,.i .i64,.i .i64,.i .i64,.i .i64,.i .i64,.i .i64,.i .i64,.i .i64,.i .i64]<|k0 (.c aOk (.c KI (.nil _))) (atW F6 jS))
def oO:=qa (dp (cu iW aJQ) λv=>(cd asD λb0=>(c (cl (gs v.1 ast) nil) (c mb (c m8 (c (cl (gs b0.c.1 o6) nil) (cd qO λb5=>(cd qP λb6=>(cd qQ λb7=>(cd qR λb8=>(cd qS λb9=>(cd aDV λb10=>(c mH (cd aDN λb12=>(c (cl (gs b0.e mc) nil) (c (cl (gs b5.b.1 aB) nil) (c (cl (gs b6.b.1 aB) nil) (c (cl (gs b7.b.1 aB) nil) (c (cl (gs b8.b.1 aB) nil) (c (cl (gs b9.b.1 aB) nil) (c (cl (gs b10.b.1 aB) nil) (cl (cl (gs b12.b jo) nil) nil))))))))))))))))))))))
def EG:=qe (res (pu Q' (pl (cl (zT asD) (cu fD axy)) nil)))
abbrev zq:=EG.B
abbrev GA:=oO.B->Option zq
def GB (g:GA):Ct:=(229,vA 1 [.b,.i .i64,.i .i64] (FC oO (lf EG) g))
def zr (rU:acM)(x:oO.B):Pg zq:=let n2:=x.2.1;let n1:=n2.2.2.2.2.2;let n3:=n1.2.2.2;ae (z9 x.1.1 x.1.1) (opt (rU x.1.1 x.2.2.1.1 x.2.2.1.2.1 x.2.2.1.2.2 (x.1.2&&true)) λd=>ae (decide (d.1>0)) (ret (n2.1,n2.2.1,n2.2.2.1,n2.2.2.2.1,n2.2.2.2.2.1,n1.1,n1.2.1,n1.2.2.1,n3.1,n3.2.1,n3.2.2.1,true,n3.2.2.2.2.2.1,n3.2.2.2.2.2)) (ret n2)) no
def gX:=λx=>(zr Aa x).val
theorem an9:∀rU,D1 [acN rU] [0] 229 oO (lf EG) λb=>zr rU b:=λ_ b=>by kernel_rfl
theorem R9 [aA]:SC (GB gX):=sc (Sound.nil 1 [.b,.i .i64,.i .i64]<|k0 (.c arn (.nil _)) (an9 Aa))
def mr:=qa (pr (cu iW (c ai (c ai aWd))) (cd wg λb0=>(c mb (c m8 (c (cl (gs b0.c.1 o6) nil) (cd xQ λb4=>(cd qO λb5=>(cd qP λb6=>(cd qQ λb7=>(cd qR λb8=>(cd qS λb9=>(c mH (cd zW λAv=>(c (cl (gs b0.e mc) nil) (c (cl (gs b4.b.1 aB) nil) (c (cl (gs b5.b.1 aB) nil) (c (cl (gs b6.b.1 aB) nil) (c (cl (gs b7.b.1 aB) nil) (c (cl (gs b8.b.1 aB) nil) (c (cl (gs b9.b.1 aB) nil) (cl (cl (gs Av.b jo) nil) nil)))))))))))))))))))))
def BF:=qe asE
abbrev vk:=BF.B
abbrev No:=mr.B->Option vk
def Np (g:No):Ct:=(169,FC mr (lf BF) g)
def vm (bm:rr)(dg:AQ)(x:mr.B):Pg vk:=let n7:=x.2.2.2.2.2;let n4:=x.1.2.2.2;let n3:=x.2.1.2.2.2.2;let n6:=n3.2.2.2.2.2.2.2.2.2.2.2.2;let n2:=n7.2;let n5:=n2.2.2.2;let n1:=x.1.2.2.1;let y0:=z9 n3.1 n3.1;let y1:=z9 n6 n6;let y2:=z9 n7.1.2.2.1 n7.1.2.2.1;let y3:=z9 n2.1.2.2.1 n2.1.2.2.1;let y4:=z9 n2.2.1.2.2.1 n2.2.1.2.2.1;let y5:=z9 n2.2.2.1.2.2.1 n2.2.2.1.2.2.1;let y6:=z9 n5.1.2.2.1 n5.1.2.2.1;let y7:=z9 n5.2.1.2.2.1 n5.2.1.2.2.1;let y8:=z9 n5.2.2.2.1.2.2 n5.2.2.2.1.2.2;ae (n3.2.1.2.1==x.1.2.1) (ae y0 (ae y1 (ae y2 (ae y3 (ae y4 (ae y5 (ae y6 (ae y7 (ae y8 (opt (bm ((x.1.1,1,true),x.2.1,(λj=>bif z9 j 0 then n1 0 else n1 0,λj=>bif z9 j 0 then n1 1 else n1 1,λj=>bif z9 j 0 then n1 2 else n1 2,λj=>bif z9 j 0 then n1 3 else n1 3,λj=>bif z9 j 0 then n1 4 else n1 4,λj=>bif z9 j 0 then n1 5 else n1 5,λj=>bif z9 j 0 then n1 6 else n1 6,λj=>bif z9 j 0 then n1 7 else n1 7,λj=>bif z9 j 0 then n1 8 else n1 8,λj=>bif z9 j 0 then n1 9 else n1 9,λj=>bif z9 j 0 then n1 10 else n1 10,λj=>bif z9 j 0 then n1 11 else n1 11,λj=>bif z9 j 0 then n1 12 else n1 12,λj=>bif z9 j 0 then n1 13 else n1 13,λj=>bif z9 j 0 then n1 14 else n1 14,λj=>bif z9 j 0 then n1 15 else n1 15,λj=>bif z9 j 0 then n1 16 else n1 16,λj=>bif z9 j 0 then n1 17 else n1 17,λj=>bif z9 j 0 then n1 18 else n1 18,λj=>bif z9 j 0 then n1 19 else n1 19,λj=>bif z9 j 0 then n1 20 else n1 20,λj=>bif z9 j 0 then n1 21 else n1 21,λj=>bif z9 j 0 then n1 22 else n1 22,λj=>bif z9 j 0 then n1 23 else n1 23,λj=>bif z9 j 0 then n4.1 else n4.1,λj=>bif z9 j 0 then n4.2.1 else n4.2.1,λj=>bif z9 j 0 then n4.2.2 else n4.2.2),x.2.2)) λd=>ret d.2.1) no) no) no) no) no) no) no) no) no) (ae y0 (ae y1 (ae y2 (ae y3 (ae y4 (ae y5 (ae y6 (ae y7 (ae y8 (opt (dg (x.1.1,x.2)) λd=>ret (x.2.1,d)) no) no) no) no) no) no) no) no) no)
def jU:=λx=>(vm dw iQ x).val
theorem ah3:∀bm dg,D1 [ru bm,AR dg] [0] 169 mr (lf BF) λb=>vm bm dg b:=λ_ _ b=>by kernel_rfl
theorem ah4 [aA]:SC (Np jU):=s0 (.c xp (.c Im (.nil _))) (ah3 dw iQ)
def gE:=qa (pu (cu iW nil) (cd wg λb0=>(c mb (c m8 (c (cl (gs b0.c.1 o6) nil) (cd xQ λb4=>(cd qO λb5=>(cd qP λb6=>(cd qQ λb7=>(cd qR λb8=>(cd qS λb9=>(c mH (cd zW λAv=>(c (cl (gs b0.e mc) nil) (c (cl (gs b4.b.1 aB) nil) (c (cl (gs b5.b.1 aB) nil) (c (cl (gs b6.b.1 aB) nil) (c (cl (gs b7.b.1 aB) nil) (c (cl (gs b8.b.1 aB) nil) (c (cl (gs b9.b.1 aB) nil) (cl (cl (gs Av.b jo) nil) nil)))))))))))))))))))))
def xq:=qe (res (pr ai (pl (cl (zT wg) axy) nil)))
abbrev qC:=xq.B
abbrev HK:=gE.B->Option qC
def HL (g:HK):Ct:=(220,FC gE (lf xq) g)
def mD (oP:zn)(x:gE.B):Pg qC:=let n1:=x.1.1.2.2.2.2.2.2.2.2.2.2.2.2.2;opt (oP n1.1 n1.2.1 n1.2.2 x.1.2.1) λd=>ret (d.1.1,x.1.1,d.2,x.1.2.2)
def eB:=λx=>(mD jy x).val
theorem ZI:∀oP,D0 [Gw oP] 220 gE (lf xq) λb=>mD oP b:=λ_ b=>by kernel_rfl
theorem ZJ [aA]:SC (HL eB):=s0 (.c R7 (.nil _)) (ZI jy)
def rv:=qa (pr (cu iW Eo) (cd wg λb0=>(c mb (c m8 (c (cl (gs b0.c.1 o6) nil) (cd xQ λb4=>(cd qO λb5=>(cd qP λb6=>(cd qQ λb7=>(cd qR λb8=>(cd qS λb9=>(c mH (cd zW λAv=>(c (cl (gs b0.e mc) nil) (c (cl (gs b4.b.1 aB) nil) (c (cl (gs b5.b.1 aB) nil) (c (cl (gs b6.b.1 aB) nil) (c (cl (gs b7.b.1 aB) nil) (c (cl (gs b8.b.1 aB) nil) (c (cl (gs b9.b.1 aB) nil) (cl (cl (gs Av.b jo) nil) nil)))))))))))))))))))))
def Og:=qe asE
def akr:=qe (res (pu Q' (pr (c (zT (a 26 tU (c gb (c gJ (a 2 uF (cu akJ (cu akK (c aJK (au 6 akR (cu aun (a 4 A5 (cu auo (c gb (c gi (a 3 ld (c gb (cu axo (c gb aP7)))))))))))))))))) aQa) aKj)))
abbrev xr:=Og.B⊕(((Fu×Bool×NI×(NI×NI)×Nat×qF×Bool×Int×kG×Bool×Bool×Int×Int×Int×En×Nat)×aRV×Int)×NI×NI×NI×NI×NI×NI×NI×NI×NI×NI)
def Y4:xr->T:=ls (lf Og) (λd=>lf akr (d.1,d.1.1.d.c.b.2,d.2))
abbrev Y5:=rv.B->Option xr
def Y6 (g:Y5):Ct:=(167,FC rv Y4 g)
def Dc (mW:aa1)(bn:ey)(qD:HK)(VR:awo)(bf:oM)(VS:av7)(fX:KJ)(ew:oD)(gf:yT)(cW:z6)(aR:fC)(dg:AQ)(x:rv.B):Pg xr:=let n8:=x.2.2;let bC:=n8.2.2.2;let n7:=x.2.1.2.2;let n9:=n7.2.2.2.2.2.2.2.2.2.2.2.2.2.2;let n6:=x.1.2.2.2;let n1:=bC.2;let n3:=n1.2.2.2;let bP:=n3.2.2.2;let y0:=z9 bC.1.2.2.1 bC.1.2.2.1;let y1:=z9 n1.1.2.2.1 n1.1.2.2.1;let y2:=z9 n1.2.1.2.2.1 n1.2.1.2.2.1;let y3:=z9 n1.2.2.1.2.2.1 n1.2.2.1.2.2.1;let y4:=z9 n3.1.2.2.1 n3.1.2.2.1;let y5:=z9 n3.2.1.2.2.1 n3.2.1.2.2.1;let y6:=z9 bP.1.2.2 bP.1.2.2;opt (mW x.1.1 x.1.2.1 x.1.2.2.1 n6.1 n6.2.1 n6.2.2.1 n6.2.2.2.1 n6.2.2.2.2.1 n6.2.2.2.2.2 x.2.1.2.1) λd=>let bh:=d.1.1;opt (bn n7.1) λak=>ae (z9 n7.2.2.1 n7.2.2.1) (ae (z9 n9 n9) (ae y0 (ae y1 (ae y2 (ae y3 (ae y4 (ae y5 (ae y6 (opt (qD ((x.2.1.1,d.2,n7),n8)) λaF=>let n5:=aF.2.2.2;let aT:=n5.2.2.2.2.2.2.2.2.2.2.2.2.2.2;let ur:=z9 n5.2.2.1 n5.2.2.1;let aAj:=z9 aT aT;opt (VR ak.1 ak.2.1 ak.2.2.1 ak.2.2.2 bh.1 bh.2.1 bh.2.2.1 bh.2.2.2 aF.1 aF.2.2.1) λbA=>ae (bA.1.2!=0) (ae ur (ae aAj (ae y0 (ae y1 (ae y2 (ae y3 (ae y4 (ae y5 (ae y6 (opt (bf (3,(aF.2.1,bA.2,n5),n8)) λd=>ret (ww ((aF.2.1,bA.2,n5),d))) no) no) no) no) no) no) no) no) no) (opt (VS n5.1 n5.2.1.1 n5.2.1.2 bA.1.1 (aF.2.1.2.2.2.2.2.2.2.1 0) bA.2) λcD=>ae ur (ae aAj (ae y0 (ae y1 (ae y2 (ae y3 (ae y4 (ae y5 (ae y6 (opt (fX (((cD.1.2.2,(0,0,0),0,0,0),1),(aF.2.1,cD.2,cD.1.1,cD.1.2.1,n5.2.2),n8)) λeU=>let bB:=eU.1.2.2;let n2:=bB.2.2;let n16:=n2.2.2;let n4:=n16.2.2;let n15:=n4.2.2.2;opt (bn bB.1) λc8=>opt (ew c8.1 c8.2.1 c8.2.2.1 c8.2.2.2 eU.1.2.1) λmg=>opt (gf mg.1 bh.1 bh.2.1 bh.2.2.1 mg.2) λd=>opt (cW bB.1 16 3 (cr d.1.1 [d.1.2.2,d.1.2.1,d.1.1]) false) λqX=>opt (aR qX d.2) λd=>ae (z9 n2.1 n2.1) (ae (z9 n15.2.2.2.2.2 n15.2.2.2.2.2) (ae y0 (ae y1 (ae y2 (ae y3 (ae y4 (ae y5 (ae y6 (opt (dg (3,(eU.1.1,d.2,d.1,bB.2.1,n2.1,n2.2.1,n16.1,n16.2.1,n4.1,n4.2.1,true,n15),n8.1,n8.2.1,n8.2.2.1,bC.1,n1.1,n1.2.1,n1.2.2.1,n3.1,n3.2.1,n3.2.2.1,bP.1,eU.2,bP.2.2)) λpd=>ret (ws (((eU.1.1,d.2,d.1,bB.2.1,n2.1,n2.2.1,n16.1,n16.2.1,n4.1,n4.2.1,n15),pd),eU.2))) no) no) no) no) no) no) no) no) no) no) no) no) no) no) no) no) no) no)) no) no) no) no) no) no) no) no) no
def oi:=λx=>(Dc zf cC eB Na dC CN jT ja mi eW cg iQ x).val
theorem atX:∀mW bn qD VR bf VS fX ew gf cW aR dg,D0 [aa2 mW,jM bn,HL qD,awp VR,oN bf,av8 VS,KL fX,Bo ew,G4 gf,Ee cW,jl aR,AR dg] 167 rv Y4 λb=>Dc mW bn qD VR bf VS fX ew gf cW aR dg b:=λ_ _ _ _ _ _ _ _ _ _ _ _ b=>by kernel_rfl
theorem atY [aA]:SC (Y6 oi):=s0 (.c anx (.c kM (.c ZJ (.c aLE (.c sZ (.c aLx (.c Y2 (.c Ef (.c Mr (.c IQ (.c kn (.c Im (.nil _))))))))))))) (atX zf cC eB Na dC CN jT ja mi eW cg iQ)
def ry:=qa (pr (cu iW (cl aKe nil)) (cd wg λb0=>(c mb (c m8 (c (cl (gs b0.c.1 o6) nil) (cd xQ λb4=>(cd qO λb5=>(cd qP λb6=>(cd qQ λb7=>(cd qR λb8=>(cd qS λb9=>(c mH (cd zW λAv=>(c (cl (gs b0.e mc) nil) (c (cl (gs b4.b.1 aB) nil) (c (cl (gs b5.b.1 aB) nil) (c (cl (gs b6.b.1 aB) nil) (c (cl (gs b7.b.1 aB) nil) (c (cl (gs b8.b.1 aB) nil) (c (cl (gs b9.b.1 aB) nil) (cl (cl (gs Av.b jo) nil) nil)))))))))))))))))))))
def apO:=qe aXn
abbrev xt:=((Fu×Bool×NI×(NI×NI)×Nat×qF×Bool×Int×kG×Bool×Bool×Bool×Int×Int×Int×En×Nat)×NI×NI×NI×NI×NI×NI×NI×NI×NI×NI)
def Y7:xt->T:=λd=>lf apO (d.1,d.1.e,d.2)
abbrev Y8:=ry.B->Option xt
def Y9 (g:Y8):Ct:=(224,FC ry Y7 g)
def Dd (gU:ze)(Fb:aa8)(fX:KJ)(AS:UL)(JS:ajN)(x:ry.B):Pg xt:=let bB:=x.1.2;let n4:=x.2.1.2.2.2;let n8:=n4.2.2.2.2.2.2.2.2.2.2.2.2.2;let n3:=x.2.2;let bh:=n3.2.2;let n1:=bh.2.2;let bC:=n1.2.2.1;let n2:=n1.2.2.2;let n7:=n2.2.2.2;let y0:=z9 bh.2.1.2.2.1 bh.2.1.2.2.1;let y1:=z9 n1.1.2.2.1 n1.1.2.2.1;let y2:=z9 n1.2.1.2.2.1 n1.2.1.2.2.1;let y3:=z9 bC.2.2.1 bC.2.2.1;let y4:=z9 n2.1.2.2.1 n2.1.2.2.1;let y5:=z9 n2.2.1.2.2.1 n2.2.1.2.2.1;let y6:=z9 n7.1.2.2 n7.1.2.2;opt (gU x.1.1.1 x.1.1.2.1 x.1.1.2.2 n3.1.1.1 n3.1.1.2.1 n3.1.1.2.2 n3.1.2.1 n3.1.2.2 x.2.1.2.1) λd=>opt (Fb x.2.1.2.2.1 n4.1.1 n4.1.2 bB.1.1 bB.1.2.1 bB.1.2.2 bB.2.2 d.2) λak=>ae (z9 n4.2.1 n4.2.1) (ae (z9 n8 n8) (ae y0 (ae y1 (ae y2 (ae y3 (ae y4 (ae y5 (ae y6 (opt (fX ((((1073741824,0,0,0),ak.1.2.2,0,0,0),2),(x.2.1.1,ak.2,ak.1.1,ak.1.2.1,n4.2),n3)) λaF=>let n6:=aF.1.2.2.2;let n9:=n6.2.2.2.2.2.2.2.2.2.2.2.2.2;opt (AS aF.1.2.2.1 n6.1.1 n6.1.2 d.1.1.1 d.1.1.2.1 bB.2.1 aF.1.2.1) λbA=>ae (z9 n6.2.1 n6.2.1) (ae (z9 n9 n9) (ae y0 (ae y1 (ae y2 (ae y3 (ae y4 (ae y5 (ae y6 (opt (fX ((((1073741824,0,0,0),(0,0,0),bA.1.2.2),3),(aF.1.1,bA.2,bA.1.1,bA.1.2.1,n6.2),n3.1,n3.2.1,bh.1,bh.2.1,n1.1,n1.2.1,bC,n2.1,n2.2.1,n2.2.2.1,n7.1,aF.2,n7.2.2)) λcD=>let n5:=cD.1.2.2.2;let aT:=n5.2.2.2.2.2.2.2.2.2.2.2.2.2;ae (n5.2.2.1.2.1==2) (opt (JS cD.1.2.2.1 n5.1.1 n5.1.2 d.1.1.2.2 bB.2.1 cD.1.2.1) λd=>ae (z9 n5.2.1 n5.2.1) (ae (z9 aT aT) (ae y0 (ae y1 (ae y2 (ae y3 (ae y4 (ae y5 (ae y6 (opt (fX ((((1073741824,0,0,0),(0,0,0),0,0,d.1.2.2),4),(cD.1.1,d.2,d.1.1,d.1.2.1,n5.2),n3.1,n3.2.1,bh.1,bh.2.1,n1.1,n1.2.1,bC,n2.1,n2.2.1,n2.2.2.1,n7.1,cD.2,n7.2.2)) λd=>ret d) no) no) no) no) no) no) no) no) no) (ret cD)) no) no) no) no) no) no) no) no) no) no) no) no) no) no) no) no) no) no
def om:=λx=>(Dd kP pL jT mM ud x).val
theorem atZ:∀gU Fb fX AS JS,D0 [E3 gU,aa9 Fb,KL fX,UM AS,ajO JS] 224 ry Y7 λb=>Dd gU Fb fX AS JS b:=λ_ _ _ _ _ b=>by kernel_rfl
theorem at1 [aA]:SC (Y9 om):=s0 (.c M' (.c awR (.c Y2 (.c apH (.c aCT (.nil _)))))) (atZ kP pL jT mM ud)
def mw:=qa (pr (cu iW Eo) (cd wg λb0=>(c mb (c m8 (c (cl (gs b0.c.1 o6) nil) (cd xQ λb4=>(cd qO λb5=>(cd qP λb6=>(cd qQ λb7=>(cd qR λb8=>(cd qS λb9=>(c mH (cd zW λAv=>(c (cl (gs b0.e mc) nil) (c (cl (gs b4.b.1 aB) nil) (c (cl (gs b5.b.1 aB) nil) (c (cl (gs b6.b.1 aB) nil) (c (cl (gs b7.b.1 aB) nil) (c (cl (gs b8.b.1 aB) nil) (c (cl (gs b9.b.1 aB) nil) (cl (cl (gs Av.b jo) nil) nil)))))))))))))))))))))
def BG:=qe asE
abbrev vn:=BG.B
abbrev Nq:=mw.B->Option vn
def Ns (g:Nq):Ct:=(174,FC mw (lf BG) g)
def vo (zp:anI)(JT:ajy)(D3:ajE)(bf:oM)(bm:rr)(x:mw.B):Pg vn:=let bB:=x.2.2;let n8:=x.2.1.1;let n7:=x.1.2.2.2;let n6:=n8.2.2.2.2.1.2.2.2.2.1;let n4:=x.2.1.2.2;let bh:=n4.2.2.2.2.2.2.2.2.2.2.2.2.2.2;let n3:=bB.2.2.2.2;let n9:=n3.2.2.2;let y0:=z9 n4.2.2.1 n4.2.2.1;let y1:=z9 bh bh;let y2:=z9 bB.2.2.2.1.2.2.1 bB.2.2.2.1.2.2.1;let y3:=z9 n3.1.2.2.1 n3.1.2.2.1;let y4:=z9 n3.2.1.2.2.1 n3.2.1.2.2.1;let y5:=z9 n3.2.2.1.2.2.1 n3.2.2.1.2.2.1;let y6:=z9 n9.1.2.2.1 n9.1.2.2.1;let y7:=z9 n9.2.1.2.2.1 n9.2.1.2.2.1;let y8:=z9 n9.2.2.2.1.2.2 n9.2.2.2.1.2.2;opt (zp x.1.1 x.1.2.1 x.1.2.2.1 n7.1 n7.2.1 n7.2.2.1 n7.2.2.2.1 n7.2.2.2.2.1 n7.2.2.2.2.2 x.2.1.2.1) λd=>opt (JT n4.1 d.1.1.1 d.1.1.2 n6 d.2) λd=>let n5:=d.1.1.2;let n1:=d.1.1.1;ae (d.1.2==0) (opt (D3 n4.1 17592186044416 n6 d.2) λak=>ae (ak.1.2==0) (ae y0 (ae y1 (ae y2 (ae y3 (ae y4 (ae y5 (ae y6 (ae y7 (ae y8 (opt (bm ((4,2,true),(n8,ak.2,n4),(azx (λk=>cr (n1 k) [ak.1.1.1 k,n1 k]) (cr n5.1 [ak.1.1.2.1,n5.1],cr n5.2.1 [ak.1.1.2.2.1,n5.2.1],cr n5.2.2 [ak.1.1.2.2.2,n5.2.2])),bB)) λd=>ret d.2.1) no) no) no) no) no) no) no) no) no) (ae y0 (ae y1 (ae y2 (ae y3 (ae y4 (ae y5 (ae y6 (ae y7 (ae y8 (opt (bm ((4,1,true),(n8,ak.2,n4),(λj=>bif z9 j 0 then n1 0 else n1 0,λj=>bif z9 j 0 then n1 1 else n1 1,λj=>bif z9 j 0 then n1 2 else n1 2,λj=>bif z9 j 0 then n1 3 else n1 3,λj=>bif z9 j 0 then n1 4 else n1 4,λj=>bif z9 j 0 then n1 5 else n1 5,λj=>bif z9 j 0 then n1 6 else n1 6,λj=>bif z9 j 0 then n1 7 else n1 7,λj=>bif z9 j 0 then n1 8 else n1 8,λj=>bif z9 j 0 then n1 9 else n1 9,λj=>bif z9 j 0 then n1 10 else n1 10,λj=>bif z9 j 0 then n1 11 else n1 11,λj=>bif z9 j 0 then n1 12 else n1 12,λj=>bif z9 j 0 then n1 13 else n1 13,λj=>bif z9 j 0 then n1 14 else n1 14,λj=>bif z9 j 0 then n1 15 else n1 15,λj=>bif z9 j 0 then n1 16 else n1 16,λj=>bif z9 j 0 then n1 17 else n1 17,λj=>bif z9 j 0 then n1 18 else n1 18,λj=>bif z9 j 0 then n1 19 else n1 19,λj=>bif z9 j 0 then n1 20 else n1 20,λj=>bif z9 j 0 then n1 21 else n1 21,λj=>bif z9 j 0 then n1 22 else n1 22,λj=>bif z9 j 0 then n1 23 else n1 23,λj=>bif z9 j 0 then n5.1 else n5.1,λj=>bif z9 j 0 then n5.2.1 else n5.2.1,λj=>bif z9 j 0 then n5.2.2 else n5.2.2),bB)) λd=>ret d.2.1) no) no) no) no) no) no) no) no) no)) (opt (D3 n4.1 17592186044416 n6 d.2) λd=>let aT:=d.1.1.2;let n2:=d.1.1.1;ae (d.1.2==0) (ae y0 (ae y1 (ae y2 (ae y3 (ae y4 (ae y5 (ae y6 (ae y7 (ae y8 (opt (bm ((4,1,true),(n8,d.2,n4),(λj=>bif z9 j 0 then n2 0 else n2 0,λj=>bif z9 j 0 then n2 1 else n2 1,λj=>bif z9 j 0 then n2 2 else n2 2,λj=>bif z9 j 0 then n2 3 else n2 3,λj=>bif z9 j 0 then n2 4 else n2 4,λj=>bif z9 j 0 then n2 5 else n2 5,λj=>bif z9 j 0 then n2 6 else n2 6,λj=>bif z9 j 0 then n2 7 else n2 7,λj=>bif z9 j 0 then n2 8 else n2 8,λj=>bif z9 j 0 then n2 9 else n2 9,λj=>bif z9 j 0 then n2 10 else n2 10,λj=>bif z9 j 0 then n2 11 else n2 11,λj=>bif z9 j 0 then n2 12 else n2 12,λj=>bif z9 j 0 then n2 13 else n2 13,λj=>bif z9 j 0 then n2 14 else n2 14,λj=>bif z9 j 0 then n2 15 else n2 15,λj=>bif z9 j 0 then n2 16 else n2 16,λj=>bif z9 j 0 then n2 17 else n2 17,λj=>bif z9 j 0 then n2 18 else n2 18,λj=>bif z9 j 0 then n2 19 else n2 19,λj=>bif z9 j 0 then n2 20 else n2 20,λj=>bif z9 j 0 then n2 21 else n2 21,λj=>bif z9 j 0 then n2 22 else n2 22,λj=>bif z9 j 0 then n2 23 else n2 23,λj=>bif z9 j 0 then aT.1 else aT.1,λj=>bif z9 j 0 then aT.2.1 else aT.2.1,λj=>bif z9 j 0 then aT.2.2 else aT.2.2),bB)) λd=>ret d.2.1) no) no) no) no) no) no) no) no) no) (ae y0 (ae y1 (ae y2 (ae y3 (ae y4 (ae y5 (ae y6 (ae y7 (ae y8 (opt (bf (4,(n8,d.2,n4),bB)) λak=>ret ((n8,d.2,n4),ak)) no) no) no) no) no) no) no) no) no))
def jV:=λx=>(vo Gd DV DW dC dw x).val
theorem ah5:∀zp JT D3 bf bm,D0 [anJ zp,ajz JT,ajF D3,oN bf,ru bm] 174 mw (lf BG) λb=>vo zp JT D3 bf bm b:=λ_ _ _ _ _ b=>by kernel_rfl
theorem ah6 [aA]:SC (Ns jV):=s0 (.c aBx (.c aCL (.c aCN (.c sZ (.c xp (.nil _)))))) (ah5 Gd DV DW dC dw)
def rz:=qa (pr (cu iW Eo) (cd wg λb0=>(c mb (c m8 (c (cl (gs b0.c.1 o6) nil) (cd xQ λb4=>(cd qO λb5=>(cd qP λb6=>(cd qQ λb7=>(cd qR λb8=>(cd qS λb9=>(c mH (cd zW λAv=>(c (cl (gs b0.e mc) nil) (c (cl (gs b4.b.1 aB) nil) (c (cl (gs b5.b.1 aB) nil) (c (cl (gs b6.b.1 aB) nil) (c (cl (gs b7.b.1 aB) nil) (c (cl (gs b8.b.1 aB) nil) (c (cl (gs b9.b.1 aB) nil) (cl (cl (gs Av.b jo) nil) nil)))))))))))))))))))))
def Io:=qe asE
abbrev De:=Io.B
abbrev Y':=rz.B->Option De
def Za (g:Y'):Ct:=(175,FC rz (lf Io) g)
def Df (vj:ahM)(VT:awC)(bf:oM)(bm:rr)(ek:GA)(x:rz.B):Pg De:=let aT:=x.2.1;let n7:=x.2.2;let bh:=n7.2.2.2;let n6:=x.1.2.2.2;let n2:=aT.2.2;let n8:=n2.2.2.2.2.2.2.2.2.2.2.2.2.2.2;let n1:=bh.2;let n3:=n1.2.2.2;let y0:=z9 n2.2.2.1 n2.2.2.1;let y1:=z9 n8 n8;let y2:=z9 bh.1.2.2.1 bh.1.2.2.1;let y3:=z9 n1.1.2.2.1 n1.1.2.2.1;let y4:=z9 n1.2.1.2.2.1 n1.2.1.2.2.1;let y5:=z9 n1.2.2.1.2.2.1 n1.2.2.1.2.2.1;let y6:=z9 n3.1.2.2.1 n3.1.2.2.1;let y7:=z9 n3.2.1.2.2.1 n3.2.1.2.2.1;let y8:=z9 n3.2.2.2.1.2.2 n3.2.2.2.1.2.2;opt (vj x.1.1 x.1.2.1 x.1.2.2.1 n6.1 n6.2.1 n6.2.2.1 n6.2.2.2.1 n6.2.2.2.2.1 n6.2.2.2.2.2 aT.2.1) λd=>opt (VT n2.1 d.1.1.1 d.1.1.2.1 d.1.1.2.2.1 d.1.1.2.2.2 aT.1.2.2.2.2.1.2.2.2.2.2 d.2) λd=>sm d (λd=>ae (d.1!=0) (ae y0 (ae y1 (ae y2 (ae y3 (ae y4 (ae y5 (ae y6 (ae y7 (ae y8 (opt (bf (5,(aT.1,d.2,n2),n7)) λak=>ret ((aT.1,d.2,n2),ak)) no) no) no) no) no) no) no) no) no) no) (λd=>let n4:=d.2.2.2;ae y0 (ae y1 (ae y2 (ae y3 (ae y4 (ae y5 (ae y6 (ae y7 (ae y8 (opt (bm ((5,2,true),(aT.1,d.1,n2),(azx (λk=>cr (d.2.1 k) [n4.2.2.1 k,d.2.1 k]) (cr d.2.2.1 [n4.2.2.2,d.2.2.1],cr n4.1 [n4.1,n4.1],cr n4.2.1 [n4.2.1,n4.2.1])),n7)) λd=>let n5:=d.2.1.1.2.2.2.2;let n9:=n5.2.2.2.2.2.2.2.2.2.2.2.2;ae (z9 d.1 d.1) (ae (z9 n5.1 n5.1) (ae (z9 n9 n9) (ae y2 (ae y3 (ae y4 (ae y5 (ae y6 (ae y7 (ae y8 (opt (ek ((d.1,true),d.2.1.1,d.2.2,n7.1,n7.2.1,n7.2.2.1,bh.1,n1.1,n1.2.1,n1.2.2.1,n3.1,n3.2.1,d.2.1.2,n3.2.2.2)) λak=>ret (ak,d.2.1.2)) no) no) no) no) no) no) no) no) no) no) no) no) no) no) no) no) no) no) no)
def oo:=λx=>(Df CR CS dC dw gX x).val
theorem at2:∀vj VT bf bm ek,D0 [ahN vj,awD VT,oN bf,ru bm,GB ek] 175 rz (lf Io) λb=>Df vj VT bf bm ek b:=λ_ _ _ _ _ b=>by kernel_rfl
theorem at3 [aA]:SC (Za oo):=s0 (.c awz (.c aLI (.c sZ (.c xp (.c R9 (.nil _)))))) (at2 CR CS dC dw gX)
def te:=qa (pu (cu iW nil) (cd wg λb0=>(c mb (c m8 (c (cl (gs b0.c.1 o6) nil) (cd xQ λb4=>(cd qO λb5=>(cd qP λb6=>(cd qQ λb7=>(cd qR λb8=>(cd qS λb9=>(c mH (cd zW λAv=>(c (cl (gs b0.e mc) nil) (c (cl (gs b4.b.1 aB) nil) (c (cl (gs b5.b.1 aB) nil) (c (cl (gs b6.b.1 aB) nil) (c (cl (gs b7.b.1 aB) nil) (c (cl (gs b8.b.1 aB) nil) (c (cl (gs b9.b.1 aB) nil) (cl (cl (gs Av.b jo) nil) nil)))))))))))))))))))))
def EH:=qe (res (pl (aa (c gi (c gi (c gb (c gb (c gi (c gi (c gi (c gb (c gb aPQ)))))))))) (pu (cu fD axy) nil)))
abbrev Sa:=EH.B
abbrev aoa:=te.B->Option Sa
def Sb (g:aoa):Ct:=(16,FC te (lf EH) g)
def GC (rZ:I8)(xH:Oc)(x:te.B):Pg Sa:=let n3:=x.1.2.2.2.2.2;let n2:=n3.2.2.2.2.2.2.2.2;let n4:=n2.2.2.1;let n1:=x.2.2.2.2.2.2.2.2.2.2.1;let n5:=n1.1.2.2;opt (rZ n2.1 n1.1.1 n1.1.2.1 n5.1 n5.2.1 n5.2.2.1 n5.2.2.2 n1.2) λd=>opt (xH n1.1.1 n1.1.2.1 n5.1 n5.2.1 n5.2.2.1 n5.2.2.2 n1.2) λak=>ret (n3.1.1,n3.1.2.1,n3.1.2.2.1,n3.1.2.2.2,n2.1,d,n2.2.1,ak,x.1.2.1,n4.1.1,n4.1.2.1,n4.1.2.2.1,n4.1.2.2.2,n4.2.1.1,n4.2.1.2.1,n4.2.1.2.2,n4.2.2)
def zt:=λx=>(GC nu qK x).val
theorem aob:∀rZ xH,D0 [I9 rZ,Od xH] 16 te (lf EH) λb=>GC rZ xH b:=λ_ _ b=>by kernel_rfl
theorem aoc [aA]:SC (Sb zt):=s0 (.c adi (.c akm (.nil _))) (aob nu qK)
def Fc:=qa (pu (cu iW nil) (cd wg λb0=>(c mb (c m8 (c (cl (gs b0.c.1 o6) nil) (cd xQ λb4=>(cd qO λb5=>(cd qP λb6=>(cd qQ λb7=>(cd qR λb8=>(cd qS λb9=>(c mH (cd zW λAv=>(c (cl (gs b0.e mc) nil) (c (cl (gs b4.b.1 aB) nil) (c (cl (gs b5.b.1 aB) nil) (c (cl (gs b6.b.1 aB) nil) (c (cl (gs b7.b.1 aB) nil) (c (cl (gs b8.b.1 aB) nil) (c (cl (gs b9.b.1 aB) nil) (cl (cl (gs Av.b jo) nil) nil)))))))))))))))))))))
def KM:=qe (res (pl aWJ (pu (cu fD axy) nil)))
abbrev abd:=KM.B
abbrev awS:=Fc.B->Option abd
def abe (g:awS):Ct:=(40,FC Fc (lf KM) g)
def abf (tK:Lk)(x:Fc.B):Pg abd:=let n2:=x.2.2.2.2.2.2.2.2.2.2.2;let n1:=n2.2.2.2.2.2.2.2.2;let n3:=n1.2.2.2.2.2;ae (z9 n2.1.2.2 n2.1.2.2) (opt (tK n2.1.1 n2.1.2.1 n2.1.2.2 n1.1 n1.2.1 n1.2.2.1 n1.2.2.2.1 n1.2.2.2.2.1 n3.1 n3.2.1 n3.2.2.1 n3.2.2.2.1 n3.2.2.2.2.1 n3.2.2.2.2.2) λd=>ret d) no
def abg:=λx=>(abf BB x).val
theorem awT:∀tK,D0 [Ll tK] 40 Fc (lf KM) λb=>abf tK b:=λ_ b=>by kernel_rfl
theorem awU [aA]:SC (abe abg):=s0 (.c aeJ (.nil _)) (awT BB)
def kr:=qa (pr (cu iW Eo) (cd wg λb0=>(c mb (c m8 (c (cl (gs b0.c.1 o6) nil) (cd xQ λb4=>(cd qO λb5=>(cd qP λb6=>(cd qQ λb7=>(cd qR λb8=>(cd qS λb9=>(c mH (cd zW λAv=>(c (cl (gs b0.e mc) nil) (c (cl (gs b4.b.1 aB) nil) (c (cl (gs b5.b.1 aB) nil) (c (cl (gs b6.b.1 aB) nil) (c (cl (gs b7.b.1 aB) nil) (c (cl (gs b8.b.1 aB) nil) (c (cl (gs b9.b.1 aB) nil) (cl (cl (gs Av.b jo) nil) nil)))))))))))))))))))))
def VU:=qe (res (pu Q' (pr (c (zT (a 26 tU (c gb (c gJ (a 2 uF (cu akJ (cu akK (c aJK (au 6 akR (cu aun (a 4 A5 (cu auo (c gb (c gi (a 3 ld (c gb (c gb (cu axo aP7)))))))))))))))))) aQa) aKj)))
def Fe:=qe asE
abbrev nA:=(((Fu×Bool×NI×(NI×NI)×Nat×qF×Bool×Int×kG×Bool×Bool×Int×Int×En×Nat)×aRV×Int)×NI×NI×NI×NI×NI×NI×NI×NI×NI×NI)⊕Fe.B
def Jc:nA->T:=ls (λd=>lf VU (((d.1.1.1,d.1.1.2.1,d.1.1.b.1,d.1.1.b.2.1,d.1.1.c.1,d.1.1.c.2.1,d.1.1.c.b.1,d.1.1.c.b.2.1,d.1.1.d.1,d.1.1.d.2.1,d.1.1.d.b.1,d.1.1.d.b.2.1,d.1.1.d.b.2),d.1.2),d.1.1.d.c.b,d.2)) (lf Fe)
abbrev Jd:=kr.B->Option nA
def Je (g:Jd):Ct:=(168,FC kr Jc g)
def r9 (vi:ahA)(Dg:Y8)(dg:AQ)(Ho:aex)(Dh:Yj)(GD:anl)(bm:rr)(ek:GA)(fY:Gk)(x:kr.B):Pg nA:=let n25:=x.1.2.2.2;let n22:=x.2.1.1;let n58:=n22.2.2.2.2;let n9:=x.2.1.2.2;let bP:=n9.2.2.2.2.2.2.2.2.2;let n7:=x.2.2;let n47:=n7.2.1;let n16:=n7.2.2;let n32:=n16.2.1;let n4:=n16.2.2;let n33:=n4.2.1;let n23:=n4.2.2.1;let n6:=n4.2.2.2;let n34:=n6.2.1;let n17:=n6.2.2.2;let y0:=n9.2.2.2.1.2.1==2;let y1:=z9 n9.2.2.1 n9.2.2.1;let y2:=z9 bP.2.2.2.2.2 bP.2.2.2.2.2;let y3:=z9 n32.2.2.1 n32.2.2.1;let y4:=z9 n4.1.2.2.1 n4.1.2.2.1;let y5:=z9 n33.2.2.1 n33.2.2.1;let y6:=z9 n23.2.2.1 n23.2.2.1;let y7:=z9 n6.1.2.2.1 n6.1.2.2.1;let y8:=z9 n34.2.2.1 n34.2.2.1;let y9:=z9 n17.1.2.2 n17.1.2.2;opt (vi x.1.1 x.1.2.1 x.1.2.2.1 n25.1 n25.2.1 n25.2.2.1 n25.2.2.2.1 n25.2.2.2.2.1 n25.2.2.2.2.2 x.2.1.2.1) λd=>let n57:=d.1.1;let bC:=n57.2.2;let n38:=bC.2.2;let n1:=((n57.1,n57.2.1,bC.1),(bC.2.1,n38.1,n38.2.1),n38.2.2);let n3:=(Dg (n1,(n22,d.2,n9),n7));let n2:=(n9.1,n1,n58.1.1);ae (!bP.1) (ae y1 (ae y2 (ae y3 (ae y4 (ae y5 (ae y6 (ae y7 (ae y8 (ae y9 (opt n3 λd=>let aT:=d.1.2.2.2.2;let n26:=aT.2.2.2.2;let n48:=n26.2.2.2.2.2;ae (z9 aT.1 aT.1) (ae (z9 n48.2.2.2 n48.2.2.2) (ae y3 (ae y4 (ae y5 (ae y6 (ae y7 (ae y8 (ae y9 (opt (dg (0,d.1,n7.1,n47,n16.1,n32,n4.1,n33,n23,n6.1,n34,n6.2.2.1,n17.1,d.2,n17.2.2)) λak=>ret (ww (((d.1.1,d.1.2.1,d.1.2.2.1,d.1.2.2.2.1,aT.1,aT.2.1,aT.2.2.1,aT.2.2.2.1,n26.1,n26.2.1,n26.2.2.1,n48),ak),d.2))) no) no) no) no) no) no) no) no) no) no) no) no) no) no) no) no) no) no) (ae (decide (wI (bP.2.2.1-bP.2.1)>n58.2.2.2.2.1)) (ae y1 (ae y2 (ae y3 (ae y4 (ae y5 (ae y6 (ae y7 (ae y8 (ae y9 (opt n3 λd=>let bh:=d.1.2.2.2.2;let n27:=bh.2.2.2.2;let n49:=n27.2.2.2.2.2;ae (z9 bh.1 bh.1) (ae (z9 n49.2.2.2 n49.2.2.2) (ae y3 (ae y4 (ae y5 (ae y6 (ae y7 (ae y8 (ae y9 (opt (dg (0,d.1,n7.1,n47,n16.1,n32,n4.1,n33,n23,n6.1,n34,n6.2.2.1,n17.1,d.2,n17.2.2)) λak=>ret (ww (((d.1.1,d.1.2.1,d.1.2.2.1,d.1.2.2.2.1,bh.1,bh.2.1,bh.2.2.1,bh.2.2.2.1,n27.1,n27.2.1,n27.2.2.1,n49),ak),d.2))) no) no) no) no) no) no) no) no) no) no) no) no) no) no) no) no) no) no) (opt (Ho n9.1 n57.1 n57.2.1 bC.1 bC.2.1 n38.1 n38.2.1 n38.2.2.1 n38.2.2.2 n58.1.1 d.2) λak=>let n35:=ak.2.1;let n24:=ak.2.2.1;let n8:=ak.2.2.2;let n55:=n8.2.2.1;let n36:=n8.2.1;let n5:=n8.2.2.2;let n56:=n5.2.2.1;let bB:=n5.2.2.2;let n37:=bB.2.2;opt (Dh (n2,ak.1,n7.1)) λaF=>sm aF (λbA=>ae y0 (opt (GD (n2,bA.2,n7.1)) λd=>ae y1 (ae y2 (ae y3 (ae y4 (ae y5 (ae y6 (ae y7 (ae y8 (ae y9 (opt (bm ((0,4,true),(n22,d.2,n9),(azx (λk=>cr (n35 k) [d.1.1.1 k,bB.1 k,n55 k,n35 k]) (cr n24 [d.1.1.2.1,bB.2.1,n5.1,n24],cr n8.1 [d.1.1.2.2.1,n37.1,n5.2.1,n8.1],cr n36 [d.1.1.2.2.2,n37.2,n56,n36])),n7)) λd=>let n39:=d.2.2;let n18:=d.2.1;let n50:=n18.1.2.2.2.2;let GG:=n18.2.1.2;let n28:=n50.2.2.2.2.2.2.2.2.2.2.2.2;let y0:=wI (wr d.1-1);let y1:=z4 y0;ae (z9 d.1 d.1) (ae (z9 n50.1 n50.1) (ae (z9 n28 n28) (ae y3 (ae y4 (ae y5 (ae y6 (ae y7 (ae y8 (ae y9 (opt (ek ((d.1,true),n18.1,n39,n7.1,n47,n16.1,n32,n4.1,n33,n23,n6.1,n34,n18.2,n17)) λcD=>ae (cD.2.2.2.2.2.1.2.1==2) (ae (bg 2 d.1) (ae (bg y0 d.1) (opt (fY (n39.1 2) (n39.2.1 2) (n39.2.2 2) (n39.1 y1) (n39.2.1 y1) (n39.2.2 y1) n18.2.1.1 GG.1 GG.2.1 GG.2.2.1 GG.2.2.2.1 GG.2.2.2.2 n18.2.2) λd=>ret (ws (cD,d))) no) no) (ret (ws (cD,n18.2)))) no) no) no) no) no) no) no) no) no) no) no) no) no) no) no) no) no) no) no) (ae y1 (ae y2 (ae y3 (ae y4 (ae y5 (ae y6 (ae y7 (ae y8 (ae y9 (opt (bm ((0,3,true),(n22,bA.2,n9),(azx (λk=>cr (n35 k) [bB.1 k,n55 k,n35 k]) (cr n24 [bB.2.1,n5.1,n24],cr n8.1 [n37.1,n5.2.1,n8.1],cr n36 [n37.2,n56,n36])),n7)) λd=>let Hp:=d.2.2;let n19:=d.2.1;let n51:=n19.1.2.2.2.2;let Ip:=n19.2.1.2;let n29:=n51.2.2.2.2.2.2.2.2.2.2.2.2;let y0:=wI (wr d.1-1);let y1:=z4 y0;ae (z9 d.1 d.1) (ae (z9 n51.1 n51.1) (ae (z9 n29 n29) (ae y3 (ae y4 (ae y5 (ae y6 (ae y7 (ae y8 (ae y9 (opt (ek ((d.1,true),n19.1,Hp,n7.1,n47,n16.1,n32,n4.1,n33,n23,n6.1,n34,n19.2,n17)) λcD=>ae (cD.2.2.2.2.2.1.2.1==2) (ae (bg 2 d.1) (ae (bg y0 d.1) (opt (fY (Hp.1 2) (Hp.2.1 2) (Hp.2.2 2) (Hp.1 y1) (Hp.2.1 y1) (Hp.2.2 y1) n19.2.1.1 Ip.1 Ip.2.1 Ip.2.2.1 Ip.2.2.2.1 Ip.2.2.2.2 n19.2.2) λd=>ret (ws (cD,d))) no) no) (ret (ws (cD,n19.2)))) no) no) no) no) no) no) no) no) no) no) no) no) no) no) no) no) no) no) no)) (λbA=>let n59:=bA.2.2;let n15:=n59.2.2;let n52:=n15.2.2;ae y0 (opt (GD (n2,bA.1,n7.1)) λd=>ae y1 (ae y2 (ae y3 (ae y4 (ae y5 (ae y6 (ae y7 (ae y8 (ae y9 (opt (bm ((0,6,true),(n22,d.2,n9),(azx (λk=>cr (n35 k) [d.1.1.1 k,n15.2.1 k,bA.2.1 k,bB.1 k,n55 k,n35 k]) (cr n24 [d.1.1.2.1,n52.1,n59.1,bB.2.1,n5.1,n24],cr n8.1 [d.1.1.2.2.1,n52.2.1,n59.2.1,n37.1,n5.2.1,n8.1],cr n36 [d.1.1.2.2.2,n52.2.2,n15.1,n37.2,n56,n36])),n7)) λd=>let PK:=d.2.2;let n20:=d.2.1;let n53:=n20.1.2.2.2.2;let Uf:=n20.2.1.2;let n30:=n53.2.2.2.2.2.2.2.2.2.2.2.2;let y0:=wI (wr d.1-1);let y1:=z4 y0;ae (z9 d.1 d.1) (ae (z9 n53.1 n53.1) (ae (z9 n30 n30) (ae y3 (ae y4 (ae y5 (ae y6 (ae y7 (ae y8 (ae y9 (opt (ek ((d.1,true),n20.1,PK,n7.1,n47,n16.1,n32,n4.1,n33,n23,n6.1,n34,n20.2,n17)) λcD=>ae (cD.2.2.2.2.2.1.2.1==2) (ae (bg 2 d.1) (ae (bg y0 d.1) (opt (fY (PK.1 2) (PK.2.1 2) (PK.2.2 2) (PK.1 y1) (PK.2.1 y1) (PK.2.2 y1) n20.2.1.1 Uf.1 Uf.2.1 Uf.2.2.1 Uf.2.2.2.1 Uf.2.2.2.2 n20.2.2) λd=>ret (ws (cD,d))) no) no) (ret (ws (cD,n20.2)))) no) no) no) no) no) no) no) no) no) no) no) no) no) no) no) no) no) no) no) (ae y1 (ae y2 (ae y3 (ae y4 (ae y5 (ae y6 (ae y7 (ae y8 (ae y9 (opt (bm ((0,5,true),(n22,bA.1,n9),(azx (λk=>cr (n35 k) [n15.2.1 k,bA.2.1 k,bB.1 k,n55 k,n35 k]) (cr n24 [n52.1,n59.1,bB.2.1,n5.1,n24],cr n8.1 [n52.2.1,n59.2.1,n37.1,n5.2.1,n8.1],cr n36 [n52.2.2,n15.1,n37.2,n56,n36])),n7)) λd=>let VV:=d.2.2;let n21:=d.2.1;let n54:=n21.1.2.2.2.2;let n46:=n21.2.1.2;let n31:=n54.2.2.2.2.2.2.2.2.2.2.2.2;let y0:=wI (wr d.1-1);let y1:=z4 y0;ae (z9 d.1 d.1) (ae (z9 n54.1 n54.1) (ae (z9 n31 n31) (ae y3 (ae y4 (ae y5 (ae y6 (ae y7 (ae y8 (ae y9 (opt (ek ((d.1,true),n21.1,VV,n7.1,n47,n16.1,n32,n4.1,n33,n23,n6.1,n34,n21.2,n17)) λcD=>ae (cD.2.2.2.2.2.1.2.1==2) (ae (bg 2 d.1) (ae (bg y0 d.1) (opt (fY (VV.1 2) (VV.2.1 2) (VV.2.2 2) (VV.1 y1) (VV.2.1 y1) (VV.2.2 y1) n21.2.1.1 n46.1 n46.2.1 n46.2.2.1 n46.2.2.2.1 n46.2.2.2.2 n21.2.2) λd=>ret (ws (cD,d))) no) no) (ret (ws (cD,n21.2)))) no) no) no) no) no) no) no) no) no) no) no) no) no) no) no) no) no) no) no))))
def ig:=λx=>(r9 CO om iQ Bw wR F8 dw gX lK x).val
theorem adp:∀vi Dg dg Ho Dh GD bm ek fY,D0 [ahB vi,Y9 Dg,AR dg,aey Ho,Yk Dh,anm GD,ru bm,GB ek,Gl fY] 168 kr Jc λb=>r9 vi Dg dg Ho Dh GD bm ek fY b:=λ_ _ _ _ _ _ _ _ _ b=>by kernel_rfl
theorem adq [aA]:SC (Je ig):=s0 (.c awj (.c at1 (.c Im (.c ayO (.c atC (.c aGe (.c xp (.c R9 (.c YD (.nil _)))))))))) (adp CO om iQ Bw wR F8 dw gX lK)
end Go.Proofs.YtldgljclcgaibaaGreat
namespace Go.Proofs.YtldgljclcgaibaaGreat
open Go.Ab Go.Ab.Pg
theorem arT (x:Int):uK x=some (decide (0<=x)&&decide (x<6)):=by
 simp only[uK,VH,bM,bS];by_cases h0:0<=x<;>simp[h0]
theorem aYK {x:Int}(h:(decide (0<=x)&&decide (x<6))=true)(k:Nat)(hk:k<=6):bg x 6=true/\wl (0+z4 x*6+k) 36=true/\wl (0+z4 x*6+k) 37=true:=by
 simp only[cK,jG] at h;simp only[bz,ch];omega
instance aHR (x0:Int)(x1:Int)(x2:Nat->Int)(x3:Nat->Int)(x4:Nat->Bool)(x5:Nat->Int)(x6:Nat->Int)(x7:Nat->Int)(x8:Int):bp (ns x0 x1 x2 x3 x4 x5 x6 x7 x8):=by
 unfold ns Ak;refine aJ ?_;rw[arT,cy,aL];refine⟨λh=> ?_,λ_=>by rw[aw];trivial⟩;obtain⟨h1,h2,h3⟩:=aYK h 6 (by omega);simp only[bU,h1,h2,SQ,Ou,FD]
theorem Aw (x0:Int)(x1:Int)(x2:Nat)(x3:Nat->Int)(x4:Nat->Int)(x5:Nat->Bool)(x6:Nat->Int)(x7:Nat->Int)(x8:Nat->Int)(x9:Int)(fU:Nat->Bool)(fV:Nat->Int)(Et:Nat->Int)(w0:Bool)(h:x2<=1999):bp (nq x0 x1 x2 x3 x4 x5 x6 x7 x8 x9 fU fV Et w0):=by
 have tc:=λa b c e=>arF x2 a b c e h
 unfold nq Ah;try dsimp only
 refine aJ ?_;rw[arT,cy,aL];refine⟨λ_=>by rw[aw];trivial,λh=> ?_⟩;rw[aEd] at h;obtain⟨h1,h2,h3⟩:=aYK h 3 (by omega);simp only[bU,h1,h2,h3,Bool.and_self,aQ,SQ,Ou,FD]
theorem VW:∀(d:eK.B) (hd:0<=d.1.2.2/\d.1.2.2<=6),Ok (wW d) (λx:lJ=>True):=
 bV (λd:eK.B=>z4 (6-d.1.2.2)) (λd hd=>by
  have hw:wI (d.1.2.2+1)=d.1.2.2+1:=aZ;unfold wV;simp only[bU];simp only[nf,o7,uq,hw];repeat' (first|exact True.intro|omega|(intro _)|(apply And.intro))) (λd hd=>by omega)
instance aHS (x0:Int)(x1:Nat->Int)(x2:Nat->Int)(x3:Nat->Bool)(x4:Nat->Int)(x5:Nat->Int)(x6:Nat->Int)(x7:Int):bp (nu x0 x1 x2 x3 x4 x5 x6 x7):=by
 unfold nu Al;refine aJ ?_;refine ax (VW _ (by simp)) λd _ hd=> ?_;simp only[bU]
instance a4q (x:Int)(eA:Bool):bp (Cn x eA):=by
 have h1:=ly x;obtain⟨a,b,q,e,ho,hq,hv,_⟩:=am4 (sat x) 30 (by omega) (by omega) (by omega);unfold Cn agM;refine aJ ?_;rw[oI,cy,aL];refine⟨λ_=>by rw[aw];trivial,λc=> ?_⟩;have c:=kD c;have e30:(2:Int)^30=1073741824:=rfl;have q1:q=true:=by rw[hq,e30];omega
 have v:=hv q1;rw[e30] at v;have e':vD (sat x) 30=some ((a,b),q):=e
 have h0:0<=a:=by
  obtain⟨o1,o2,o3,o4⟩:=ho;simp only[vW] at v;omega
 obtain⟨r,hr,_,_⟩:=atu a b ho h0;rw[e',cy,ahu a b r _ ho h0 hr,cy,aw];trivial
instance a2S (x0:Nat->Int)(x3:Bool)(x4:Nat->Int)(w0:Bool):bp (gT x0 4 3 x3 x4 w0):=YE _ _ _ _ _ _ (by omega) (by omega)
instance a2T (x0:Nat->Int)(x3:Bool)(x4:Nat->Int)(w0:Bool):bp (gT x0 7 2 x3 x4 w0):=YE _ _ _ _ _ _ (by omega) (by omega)
instance a2U (x0:Nat->Int)(x3:Bool)(x4:Nat->Int)(w0:Bool):bp (gT x0 9 1 x3 x4 w0):=YE _ _ _ _ _ _ (by omega) (by omega)
instance a0f (x0:Nat->Int)(x1:Int)(x2:Bool):bp (mq x0 x1 x2):=by
 unfold mq ahT;exact aJ (by simp only[bU,qW])
instance aZv (x0:Nat->Int)(x1:Int)(x2:Int)(x3:Int)(x4:Int)(x5:Int)(x6:Int)(x7:Int)(x8:Int)(x9:Int)(fU:Int)(fV:Int):bp (rW x0 x1 x2 x3 x4 x5 x6 x7 x8 x9 fU fV):=by
 unfold rW adk;exact aJ (by simp only[bU,qW])
instance aZw (x:Ek.B):bp (Ap x):=by
 unfold Ap QU;try dsimp only
 exact aJ (by simp only[bU,qW])
instance aGY (x:jF.B):bp (fF x):=by
 unfold fF qA;exact aJ (by simp only[bU,qW])
instance aMs (x:m5.B):bp (kF x):=by
 unfold kF xG;exact aJ (by simp only[bU,qW])
instance aYL (x0:Int)(x1:Int)(x2:Int):bp (ny x0 x1 x2):=by
 unfold ny Ng;exact aJ (by simp only[bU,qW])
instance a0g (x0:Int)(x1:Int)(x2:Int):bp (zk x0 x1 x2):=by
 unfold zk ahW;exact aJ (by simp only[bU,qW])
instance aSS (x0:Nat->Int)(x1:Nat->Int)(x2:Nat->Int)(x3:Int)(x4:Int)(x5:Int)(x6:Int)(x7:Bool):bp (pL x0 x1 x2 x3 x4 x5 x6 x7):=by
 unfold pL E6;try dsimp only
 exact aJ (by simp only[bU,qW])
instance aO4 (x0:Nat->Int)(x1:Nat->Int)(x2:Nat->Int)(x3:Int)(x4:Int)(x5:Int)(x6:Bool):bp (mM x0 x1 x2 x3 x4 x5 x6):=by
 unfold mM AP;try dsimp only
 exact aJ (by simp only[bU,qW])
instance aU4 (x0:Nat->Int)(x1:Nat->Int)(x2:Nat->Int)(x3:Int)(x4:Int)(x5:Bool):bp (ud x0 x1 x2 x3 x4 x5):=by
 unfold ud JQ;exact aJ (by simp only[bU,qW])
instance aDq (x:kQ.B):bp (iw x):=by
 unfold iw uQ;try dsimp only
 exact aJ (by simp only[bU,qW])
instance aBD (x:ju.B):bp (gk x):=by
 unfold gk sO;try dsimp only
 exact aJ (by simp only[bU,qW])
instance aRc (x0:Int):bp (w9 x0):=by
 unfold w9 KA;exact aJ (by simp only[bU,qW])
instance aOv (x0:Int)(x1:Int):bp (lM x0 x1):=by
 unfold lM Gr;exact aJ (by simp only[bU,qW])
instance aO5:bp mN:=by
 unfold mN Ij;exact aJ (by simp only[bU,qW])
instance a2V (x0:Int):bp (PI x0):=by
 unfold PI apb;exact aJ (by simp only[bU,qW])
theorem ay1:∀(d:kq.B) (hd:0<=d.1/\d.1<=3),Ok (JP d) (λx:yD=>True):=
 bV (λd:kq.B=>z4 (3-d.1)) (λd hd=>by
  have hw:wI (d.1+1)=d.1+1:=aZ;unfold JO;simp only[bU];simp only[nf,o7,uq,hw];repeat' (first|exact True.intro|omega|(intro _)|(apply And.intro))) (λd hd=>by omega)
theorem aGq:∀(d:lL.B) (hd:0<=d.1.2/\d.1.2<=24),Ok (Jb d) (λx:Em=>True):=
 bV (λd:lL.B=>z4 (24-d.1.2)) (λd hd=>by
  have hw:wI (d.1.2+1)=d.1.2+1:=aZ;unfold QY;simp only[bU];simp only[nf,o7,uq,hw];repeat' (first|exact True.intro|omega|(intro _)|(apply And.intro))) (λd hd=>by omega)
instance aZx (x0:Int)(x1:Int)(x2:Int)(x3:Int)(x4:Int)(x5:Int)(x6:Int)(x7:Int):bp (Ao x0 x1 x2 x3 x4 x5 x6 x7):=by
 unfold Ao QS;refine aJ ?_;refine ax (ay1 _ (by simp)) λd _ hd=> ?_;simp only[bU]
instance aOw (x:oK.B):bp (jt x):=by
 unfold jt zj;try dsimp only
 exact aJ (by simp only[bU,qW])
instance a1C (x:Gp.B):bp (qo x):=by
 have key:∀d,(0<=d.1.2/\d.1.2<=24)->∀(k1 k2),(∀a,PQ (k1 a) λ_=>True)->(∀a,PQ (k2 a) λ_=>True)->PQ (opt (Jb d) λx=>sum x k1 k2) (δ:=an2) (λ_=>True):=λd hd k1 k2 h1 h2=>by
  refine ax (aGq d hd) λx _ _=> ?_;rw[tw];exact⟨λa _=>h1 a,λa _=>h2 a⟩
 unfold qo aba;try dsimp only
 refine aJ ?_;repeat' (first|(rw[aL];refine⟨λ_=>by rw[aw];trivial,λ_=> ?_⟩)|(rw[bL];intro _ _))
 refine key _ (by simp) _ _ (λ_=>by rw[aw];trivial) (λ_=> ?_);simp only[bU]
theorem PM (n:Nat):∀(d:dA.B) (hd:0<=d.1.2.2/\d.1.2.2<=d.1.2.1/\d.1.2.1<=1999/\d.1.2.1=((d.1.1:Nat):Int)/\d.2.1.2.2=d.1.1/\d.1.1=n),Ok (sQ d) (λx:jw=>x.1.1=n):=
 bV (λd:dA.B=>z4 (d.1.2.1-d.1.2.2)) (λd hd=>by
  have hw:wI (d.1.2.2+1)=d.1.2.2+1:=aZ;unfold sP;simp only[bU];simp only[nf,o7,uq,hw];repeat' (first|exact True.intro|exact hd.c.1|exact hd.c.2|omega|(intro _)|(apply And.intro))) (λd hd=>by omega)
theorem PN (n:Nat):∀(d:dB.B) (hd:0<=d.1.2.2/\d.1.2.2<=d.1.2.1/\d.1.2.1<=1999/\d.1.2.1=((d.1.1:Nat):Int)/\d.2.1.2.2=d.1.1/\d.1.1=n),Ok (sS d) (λx:jx=>x.1.1=n):=
 bV (λd:dB.B=>z4 (d.1.2.1-d.1.2.2)) (λd hd=>by
  have hw:wI (d.1.2.2+1)=d.1.2.2+1:=aZ;unfold sR;simp only[bU];simp only[nf,o7,uq,hw];repeat' (first|exact True.intro|exact hd.c.1|exact hd.c.2|omega|(intro _)|(apply And.intro))) (λd hd=>by omega)
theorem Ug (x:kR.B)(h:x.1.2.2<=1999):Ok (kT x) (λr:uR=>r.2.1=x.1.2.2):=by
 unfold kT uU;show PQ _ _;rw[aQ,bO];refine⟨rfl,ax (PM x.1.2.2 _ ?_) λd _ hd=> ?_⟩
 .dsimp only;simp only[dH];exact⟨by omega,by omega,by omega,trivial,trivial,trivial⟩
 .rw[aw];exact hd
theorem Uh (x:kU.B)(h:x.1.2.2<=1999):Ok (kV x) (λr:uY=>r.2.1=x.1.2.2):=by
 unfold kV u3;show PQ _ _;rw[aQ,bO];refine⟨rfl,ax (PN x.1.2.2 _ ?_) λd _ hd=> ?_⟩
 .dsimp only;simp only[dH];exact⟨by omega,by omega,by omega,trivial,trivial,trivial⟩
 .rw[aw];exact hd
theorem Nt:∀(d:dk.B) (hd:0<=d.1.2.2.2.2/\d.1.2.2.2.2<=d.1.2.2.2.1/\d.1.2.2.2.1<=1999/\d.1.2.2.2.1=((d.1.2.2.1.1:Nat):Int)),Ok (qy d) (λx:iy=>True):=
 bV (λd:dk.B=>z4 (d.1.2.2.2.1-d.1.2.2.2.2)) (λd hd=>by
  have hw:wI (d.1.2.2.2.2+1)=d.1.2.2.2.2+1:=aZ;unfold qx;simp only[bU];simp only[nf,o7,uq,hw];repeat' (first|exact True.intro|omega|(intro _)|(apply And.intro))) (λd hd=>by omega)
theorem Sc (x0:Nat)(x1:Nat)(x2:Nat->Int)(x3:Nat->Int)(w0:Bool)(w1:Bool)(h:x0<=1999):bp (gm x0 x1 x2 x3 w0 w1):=by
 unfold gm sU;refine aJ ?_;rw[aQ,aQ,bO,bO];refine⟨rfl,rfl,ax (Nt _ (hdN x0 h)) λd _ hd=> ?_⟩;simp only[bU]
instance a1D (x2 x3:Nat->Int)(w0 w1:Bool):bp (gm 8 8 x2 x3 w0 w1):=Sc _ _ _ _ _ _ (by omega)
instance aU5 (x:DX.B):bp (uh x):=by
 unfold uh Uc;try dsimp only
 exact aJ (by simp only[bU,qW])
theorem pO (n:Nat):∀(d:bc.B) (hd:0<=d.1.2.2.1/\d.1.2.2.1<=d.1.2.2.2/\d.1.2.2.2<=(n:Int)/\d.1.1.1=n/\n<=1999/\d.1.2.1=(n:Int)),Ok (dV d) (λx:bZ=>0<=x.1.2.2.1/\x.1.2.2.1<=(n:Int)/\x.1.1.1=n/\x.1.2.1=(n:Int)):=
 bV (λd:bc.B=>z4 (d.1.2.2.2-d.1.2.2.1)) (λd hd=>by
  have h1:wI (d.1.2.2.1+d.1.2.2.2)=d.1.2.2.1+d.1.2.2.2:=dS;have h2:wU (d.1.2.2.1+d.1.2.2.2)=d.1.2.2.1+d.1.2.2.2:=by show IntKind.wrap .u64 _=_;rw[wrap_u64];omega
  have h3:Int.fdiv (d.1.2.2.1+d.1.2.2.2) 2=(d.1.2.2.1+d.1.2.2.2)/2:=Int.fdiv_eq_ediv_of_nonneg _ (by omega);have h4:wI ((d.1.2.2.1+d.1.2.2.2)/2)=(d.1.2.2.1+d.1.2.2.2)/2:=dS;have h5:wI ((d.1.2.2.1+d.1.2.2.2)/2+1)=(d.1.2.2.1+d.1.2.2.2)/2+1:=dS;unfold dU;simp only[h1,h2,h3,h4,h5];simp only[bU];simp only[nf,o7,uq];repeat' (first|exact True.intro|omega|(intro _)|(apply And.intro))) (λd hd=>by omega)
theorem aRd (x:cq.B)(h:x.1.1.1<=1999):Ok (cv x) (λr:eC=>0<=r.1/\r.1<=(x.1.1.1:Int)):=by
 unfold cv eD;try dsimp only
 show PQ _ _;rw[aQ,bO];refine⟨rfl,ax (pO x.1.1.1 _ ?_) λd _ hd=> ?_⟩
 .try dsimp only
  simp only[dH];exact⟨by omega,by omega,by omega,trivial,h,trivial⟩
 .obtain⟨a1,a2,a3,a4⟩:=hd;simp only[bU,a3,a4];simp only[nf,o7,uq];exact⟨λc=>⟨λ_ _ _=>⟨a1,a2⟩,⟨a1,c⟩⟩,λ_=>⟨a1,a2⟩⟩
theorem aOx (n:Nat)(i:Int)(h0:0<=i)(h1:i<=(n:Int))(hn:n<=1999)(x2 x3 x4 x5 x6 x7 x8 x9 fU fV Et x13 x14 x15 x16 x17 x18 x19:Nat->Int)(w1:Bool):
  Ok (eY n i x2 x3 x4 x5 x6 x7 x8 x9 fU fV Et x13 x14 x15 x16 x17 x18 x19 1 true w1) (λr:gK=>r.1=n+1):=by
 have b1:wl (z4 i) n=true:=by rw[ch];omega
 have b2:wl ((n+1)*72) 140737488355328=true:=by rw[ch];omega
 unfold eY;rw[b1,b2,dy h0];exact⟨_,rfl,rfl⟩
theorem aBE (n:Nat)(i j:Int)(h0:0<=i)(h1:i<=j)(h2:j<=(n:Int))(x3 x4 x5 x6 x7 x8 x9 fU fV:Nat->Int):
  Ok (cT n i j x3 x4 x5 x6 x7 x8 x9 fU fV true) (λr:gL=>r.1=z4 i+(n-z4 j)):=by
 have b1:wl (z4 i) (z4 j)=true:=by rw[ch];omega
 have b2:wl (z4 j) n=true:=by rw[ch];omega
 unfold cT;rw[b1,b2,dy h0,dy (show 0<=j by omega)];exact⟨_,rfl,rfl⟩
theorem aRe (n:Nat)(hn:n<=1999)(x1 x2 x3 x4 x5 x6 x7 x8 x9:Nat->Int)(w:Bool):
  Ok (fq n x1 x2 x3 x4 x5 x6 x7 x8 x9 w) (λr:im=>r.1=n):=by
 have b1:wl (n*72) 140737488355328=true:=by rw[ch];omega
 unfold fq;rw[b1];exact⟨_,rfl,rfl⟩
theorem aOy (s:Nat)(hs:s<=120)(n:Nat)(hn:n<=100)(eA:Bool)(f:Nat->Int)(w w':Bool):
  wa (wr s) n n eA f w w'=some (sat (rS (eJ (λj=>sat (f j)*sat (f j)) n) s),(eA||mA (λj=>dq (f j)||dq (f j)) n)||dq (rS (eJ (λj=>sat (f j)*sat (f j)) n) s)):=by
 simp only[wa,PC,Pg.bS,Pg.bM,Pg.ck,Pg.dX,Pg.dt];try delta wI wU
 unfold Ky;have n0:decide (wr s<0)=false:=by simp
 have n1:decide (wr s>120)=false:=by simp only[dH];exact cE (by omega)
 have m:(if 100<if wr n<wr n then wr n else wr n then 100 else if wr n<wr n then wr n else wr n)=wr n:=by
  have e:¬wr n<wr n:=by omega
  rw[if_neg e,if_neg (by simp only[dH];omega)]
 rw[n0,n1,bq,bq,FE,bo,m]
 refine FI (λt d=>∃(i:Nat) (h l':Int),i+t=n/\okW h l'/\vW h l'=eJ (λj=>sat (f j)*sat (f j)) i/\d=((wr s,(n,w),(n,w'),wr n,wr i),(eA||mA (λj=>dq (f j)||dq (f j)) i),f,h,l')) ?_ 2000 n _ (by omega)
  ⟨0,0,0,by omega,⟨by omega,by omega,by omega,by omega⟩,rfl,by simp only[mA,LL];rfl⟩
 rintro t _ c ⟨i,h,l',hi,ho,hv,rfl⟩ hc
 have bnd:=aek (λj=>sat (f j)*sat (f j)) 1329227995784915872903807060280344576 (by omega) i (λj _=>RB _ _);rcases SO t with t0|t0
 .have e:i=n:=by omega
  subst e;simp only[CY,Pg.px,Pg.py,Pg.si,Pg.yJ,Pg.pA,mK,jI,wI,ao9 (cR i),bq,ahs h l' s _ hs ho,hv,bG]
 .have hs1:=ly (f i);have Wr:=ly (f i);have hm:=RB (f i) (f i);obtain⟨h1,l1,e1,o1,v1⟩:=Bt (sat (f i)) (sat (f i)) (by omega) (by omega) (by omega) (by omega)
  obtain⟨h2,l2,e2,o2,v2⟩:=X7 (λj:Nat=>bif z9 j 1 then h1 else bif z9 j 0 then h else h) (λj:Nat=>bif z9 j 1 then l1 else bif z9 j 0 then l' else l') true
   ho o1 (by show _<=vW h l'+vW h1 l1;rw[hv,v1];omega) (by show vW h l'+vW h1 l1<_;rw[hv,v1];omega)
  have v2:vW h2 l2=vW h l'+vW h1 l1:=v2;rw[hv,v1] at v2;have q:z4 (wr i)=i:=rfl;simp only[CY,Pg.px,Pg.py,Pg.si,Pg.yJ,Pg.pA,mK,jI,wI,ao8 hi t0,aaS (show i<n by omega),bo,q,oI,bG,e1,e2,apa (show i<9000000000000000000 by omega)];refine hc (t-1) _ (by omega) ⟨i+1,h2,l2,by omega,o2,v2,?_⟩;simp only[mA,Bool.or_assoc]
instance a2W (eA:Bool)(f:Nat->Int)(w w':Bool):bp (wa 30 2 2 eA f w w'):=⟨_,aOy 30 (by omega) 2 (by omega) eA f w w'⟩
instance aRf (x0:Nat->Int)(x1:Int)(x2:Int)(x3:Int)(x4:Bool):bp (w7 x0 x1 x2 x3 x4):=by
 unfold w7 Kz;exact aJ (by simp only[bU,qW])
instance aU6 (x0:Int)(x1:Int)(x2:Int)(x3:Int)(x4:Int)(x5:Int)(x6:Int)(x7:Int)(x8:Int)(x9:Int):bp (DZ x0 x1 x2 x3 x4 x5 x6 x7 x8 x9):=by
 unfold DZ Ue;exact aJ (by simp only[bU,qW])
theorem aLQ (x:xj.B)(h:x.1.2.1<=1999):bp (jS x):=by
 have tr:=λa b c d e g i j k l m w=>Aw a b x.1.2.1 c d e g i j k l m w
 unfold jS KH;try dsimp only
 refine aJ ?_;rw[aQ,bO];refine⟨rfl,?_⟩;have:=Aw;refine ax (bp.Ok (Aw _ _ _ _ _ _ _ _ _ _ _ _ _ _ h) (Q:=λ_=>True) λ_ _=>trivial) λd _ _=> ?_;rw[aw];trivial
instance a3L (x:uv.B):bp (iQ x):=by
 unfold iQ Il;try dsimp only
 refine aJ ?_;iterate 9 (rw[aQ,bO];refine⟨rfl,?_⟩)
 refine ax (bp.Ok (aLQ ((x.1,1,true),_) (by show 1<=1999;omega)) (Q:=λ_=>True) λ_ _=>trivial) λd _ _=> ?_;rw[aw];trivial
instance a2X (x:sY.B):bp (dC x):=by
 unfold dC Gz;try dsimp only
 refine aJ ?_;iterate 9 (rw[aQ,bO];refine⟨rfl,?_⟩)
 refine ax (bp.Ok (aLQ ((x.1,1,true),_) (by show 1<=1999;omega)) (Q:=λ_=>True) λ_ _=>trivial) λd _ _=> ?_;rw[aw];trivial
theorem Sd (x:rn.B)(h:x.2.1.2.2.2.2.2.2.2.2.2.2.2.2.2.2.2.2<=100000):Ok (jT x) (λr:xm=>r.1.2.2.2.2.2.2.2.2.2.2.2.2.2.2.2.2=x.2.1.2.2.2.2.2.2.2.2.2.2.2.2.2.2.2.2+1/\r.1.2.2.2.2.1=x.2.1.2.2.2.2.1/\r.1.2.2.2.2.2.2.2.2.2.2.2.2.2.1=x.2.1.2.2.2.2.2.2.2.2.2.2.2.2.2.1):=by
 unfold jT Da;try dsimp only
 show PQ _ _;rw[bO,aw];exact⟨by rw[ch];omega,rfl,rfl,rfl⟩
theorem aeU (x:rq.B)(h:x.1.2.1<=1999):Ok (dw x) (λr:xo=>r.1=x.1.2.1/\r.2.1.1.d.c.b.2.2=x.2.1.d.c.b.2.2/\r.2.1.1.c.1=x.2.1.c.1/\r.2.1.1.d.c.2.1=x.2.1.d.c.2.1):=by
 unfold dw Db;try dsimp only
 show PQ _ _;rw[aQ,bO];refine⟨rfl,ax (aLL _ h) λd _ hd=> ?_⟩;iterate 10 (rw[aQ,bO];refine⟨rfl,?_⟩)
 refine ax (bp.Ok (aLQ ((x.1.1,d.1.2.2,true),_) (by show d.1.2.2<=1999;rw[hd];exact h)) (Q:=λ_=>True) λ_ _=>trivial) λd1 _ _=> ?_;rw[aw];exact⟨hd,rfl,rfl,rfl⟩
theorem Zb (x:oO.B)(h:x.1.1<=1999):Ok (gX x) (λr:zq=>r.d.c.b.2.2=x.2.1.d.c.b.2.2/\r.c.1=x.2.1.c.1/\r.d.c.2.1=x.2.1.d.c.2.1):=by
 unfold gX zr;try dsimp only
 show PQ _ _;rw[aQ,bO];refine⟨rfl,ax (bp.Ok (arF x.1.1 _ _ _ _ h) (Q:=λ_=>True) λ_ _=>trivial) λd1 _ _=> ?_⟩;rw[aL];exact⟨λ_=>by rw[aw];exact⟨rfl,rfl,rfl⟩,λ_=>by rw[aw];exact⟨rfl,rfl,rfl⟩⟩
theorem aYM (x:ry.B)(h:x.2.1.d.c.b.2.2<=90000):Ok (om x) (λr:xt=>r.1.d.c.b.2.2<=x.2.1.d.c.b.2.2+3/\r.1.c.1=x.2.1.c.1/\r.1.d.c.2.1=x.2.1.d.c.2.1):=by
 unfold om Dd;try dsimp only
 show PQ _ _;simp only[aQ];rw[bL];intro d _;rw[bL];intro d1 _;iterate 9 (rw[bO];refine⟨rfl,?_⟩)
 refine ax (Sd _ (show x.2.1.d.c.b.2.2<=100000 by omega)) λd2 _ h2=> ?_;have h2:d2.1.d.c.b.2.2=x.2.1.d.c.b.2.2+1/\d2.1.c.1=x.2.1.c.1/\d2.1.d.c.2.1=x.2.1.d.c.2.1:=h2;rw[bL];intro d3 _;iterate 9 (rw[bO];refine⟨rfl,?_⟩)
 refine ax (Sd _ (show d2.1.d.c.b.2.2<=100000 by omega)) λd4 _ h4=> ?_;have h4:d4.1.d.c.b.2.2=d2.1.d.c.b.2.2+1/\d4.1.c.1=d2.1.c.1/\d4.1.d.c.2.1=d2.1.d.c.2.1:=h4;rw[aL];refine⟨λ_=> ?_,λ_=>by rw[aw];omega⟩;rw[bL];intro d5 _;iterate 9 (rw[bO];refine⟨rfl,?_⟩)
 refine ax (Sd _ (show d4.1.d.c.b.2.2<=100000 by omega)) λd6 _ h6=> ?_;have h6:d6.1.d.c.b.2.2=d4.1.d.c.b.2.2+1/\d6.1.c.1=d4.1.c.1/\d6.1.d.c.2.1=d4.1.d.c.2.1:=h6;rw[aw];omega
theorem aLR (x:mr.B):Ok (jU x) (λr:vk=>r.1.d.c.b.2.2=x.2.1.d.c.b.2.2/\r.1.c.1=x.2.1.c.1/\r.1.d.c.2.1=x.2.1.d.c.2.1):=by
 unfold jU vm;try dsimp only
 show PQ _ _;simp only[aQ]
 repeat' (first
  |rw[aD]
  |(rw[aL];refine⟨λ_=> ?_,λ_=> ?_⟩)
  |(rw[tX];refine⟨λ_ _=> ?_,λ_ _=> ?_⟩)
  |(with_reducible refine ax (aeU _ ?_) λe _ he=> ?_)
  |(with_reducible refine ax (Zb _ ?_) λq _ hq=> ?_)
  |(with_reducible refine ax (Sd _ ?_) λt _ ht=> ?_)
  |(rw[bL];intro _ _))
 all_goals first|(rw[aw];exact⟨hq.1.trans he.2.1,hq.2.1.trans he.b.1,hq.2.2.trans he.b.2⟩)|(rw[aw];exact he.2)|(rw[aw];exact⟨rfl,rfl,rfl⟩)|omega|(dsimp only;omega)|(have h1:=he.1;(try dsimp only at h1);(try dsimp only);omega)
theorem aLS (x:mw.B):Ok (jV x) (λr:vn=>r.1.d.c.b.2.2=x.2.1.d.c.b.2.2/\r.1.c.1=x.2.1.c.1/\r.1.d.c.2.1=x.2.1.d.c.2.1):=by
 unfold jV vo;try dsimp only
 show PQ _ _;simp only[aQ]
 repeat' (first
  |rw[aD]
  |(rw[aL];refine⟨λ_=> ?_,λ_=> ?_⟩)
  |(rw[tX];refine⟨λ_ _=> ?_,λ_ _=> ?_⟩)
  |(with_reducible refine ax (aeU _ ?_) λe _ he=> ?_)
  |(with_reducible refine ax (Zb _ ?_) λq _ hq=> ?_)
  |(with_reducible refine ax (Sd _ ?_) λt _ ht=> ?_)
  |(rw[bL];intro _ _))
 all_goals first|(rw[aw];exact⟨hq.1.trans he.2.1,hq.2.1.trans he.b.1,hq.2.2.trans he.b.2⟩)|(rw[aw];exact he.2)|(rw[aw];exact⟨rfl,rfl,rfl⟩)|omega|(dsimp only;omega)|(have h1:=he.1;(try dsimp only at h1);(try dsimp only);omega)
theorem aHT (x0:Nat->Int)(x1:Int)(x2:Int)(x3:Int)(x4:Int)(x5:Int)(x6:Bool):Ok (CS x0 x1 x2 x3 x4 x5 x6) (λr:VF=>match r with|.inl e=>(e.1!=0)=true|.inr _=>True):=by
 unfold CS VG;try dsimp only
 show PQ _ _;simp only[bU];repeat' (first|exact True.intro|rfl|assumption|(apply And.intro)|(intro _))
theorem aYN (x:rz.B):Ok (oo x) (λr:De=>r.1.d.c.b.2.2=x.2.1.d.c.b.2.2/\r.1.c.1=x.2.1.c.1/\r.1.d.c.2.1=x.2.1.d.c.2.1):=by
 unfold oo Df;try dsimp only
 show PQ _ _;simp only[aQ];rw[bL];intro d _;with_reducible refine ax (aHT _ _ _ _ _ _ _) λfb _ hfb=> ?_
 rw[tX];refine⟨λa ha=> ?_,λa ha=> ?_⟩
 .subst ha;have hfb:(a.1!=0)=true:=hfb;rw[hfb]
  repeat' (first
   |rw[aD]
   |(rw[aL];refine⟨λ_=> ?_,λ_=> ?_⟩)
   |(rw[tX];refine⟨λ_ _=> ?_,λ_ _=> ?_⟩)
   |(with_reducible refine ax (aeU _ ?_) λe _ he=> ?_)
   |(with_reducible refine ax (Zb _ ?_) λq _ hq=> ?_)
   |(with_reducible refine ax (Sd _ ?_) λt _ ht=> ?_)
   |(rw[bL];intro _ _))
  all_goals first|(rw[aw];exact⟨hq.1.trans he.2.1,hq.2.1.trans he.b.1,hq.2.2.trans he.b.2⟩)|(rw[aw];exact he.2)|(rw[aw];exact⟨rfl,rfl,rfl⟩)|omega|(dsimp only;omega)|(have h1:=he.1;(try dsimp only at h1);(try dsimp only);omega)
 .subst ha
  repeat' (first
   |rw[aD]
   |(rw[aL];refine⟨λ_=> ?_,λ_=> ?_⟩)
   |(rw[tX];refine⟨λ_ _=> ?_,λ_ _=> ?_⟩)
   |(with_reducible refine ax (aeU _ ?_) λe _ he=> ?_)
   |(with_reducible refine ax (Zb _ ?_) λq _ hq=> ?_)
   |(with_reducible refine ax (Sd _ ?_) λt _ ht=> ?_)
   |(rw[bL];intro _ _))
  all_goals first|(rw[aw];exact⟨hq.1.trans he.2.1,hq.2.1.trans he.b.1,hq.2.2.trans he.b.2⟩)|(rw[aw];exact he.2)|(rw[aw];exact⟨rfl,rfl,rfl⟩)|omega|(dsimp only;omega)|(have h1:=he.1;(try dsimp only at h1);(try dsimp only);omega)
theorem ah7 (x0:Int)(x1:Int)(x2:Int)(x3:Int)(x4:Int)(x5:Int)(x6:Int)(x7:Int)(x8:Int)(x9:Bool)(h0:0<=x7)(h1:x7<=5):bp (pN x0 x1 x2 x3 x4 x5 x6 x7 x8 x9):=by
 have hw:wI (x7+1)=x7+1:=dS;have b1:bg x7 7=true:=by simp only[bz];omega
 have b2:bg (x7+1) 7=true:=by simp only[bz];omega
 unfold pN C5;refine aJ ?_;simp only[hw,b1,b2];simp only[bU,SQ,Ou,FD]
theorem arU {x0 x1 x2:Int}{d:ac0}(h:gx x0 x1 x2=some d)(k:d=true): -900000000<=x0/\x0<=900000000/\ -1800000000<=x1/\x1<=1800000000:=by
 have e:PQ (IY x0 x1 x2) (λd:Bool=>d=true-> -900000000<=x0/\x0<=900000000/\ -1800000000<=x1/\x1<=1800000000):=by
  simp only[IY,aL,aw,EL,jG,Ot,xS,FD,Ov,Cf];omega
 exact Ok.post e h k
instance aod (x0:Int)(x1:Int)(x2:Int)(x3:Bool):bp (jy x0 x1 x2 x3):=by
 unfold jy Gx;refine aJ ?_;rw[bL];intro d hd;rw[aL];refine⟨λ_=>by rw[aw];trivial,λh=> ?_⟩;obtain⟨a0,a1,a2,a3⟩:=arU hd (by simpa using h);have w0:wI (x0+900000000)=x0+900000000:=dS;have w1:wI (x1+1800000000)=x1+1800000000:=dS;have e0:t8 (x0+900000000) 450000000=(x0+900000000)/450000000:=azD (by omega);have e1:t8 (x1+1800000000) 600000000=(x1+1800000000)/600000000:=azD (by omega);rw[w0,w1,e0,e1];have w2:wI ((x0+900000000)/450000000)=(x0+900000000)/450000000:=dS;have w3:wI ((x1+1800000000)/600000000)=(x1+1800000000)/600000000:=dS;rw[w2,w3];have r1:0<=(if 3<(x0+900000000)/450000000 then 3 else(x0+900000000)/450000000)/\(if 3<(x0+900000000)/450000000 then 3 else(x0+900000000)/450000000)<=3:=by split<;>omega
 have r2:0<=(if 5<(x1+1800000000)/600000000 then 5 else(x1+1800000000)/600000000)/\(if 5<(x1+1800000000)/600000000 then 5 else(x1+1800000000)/600000000)<=5:=by split<;>omega
 generalize (if 3<(x0+900000000)/450000000 then 3 else(x0+900000000)/450000000)=row at*
 generalize (if 5<(x1+1800000000)/600000000 then 5 else(x1+1800000000)/600000000)=nR at*
 have t2:=λa b c d e f g i j=>ah7 a b c d e f g nR i j r2.1 r2.2
 have hw:wI (row+1)=row+1:=dS;have b1:bg row 5=true:=by simp only[bz];omega
 have b2:bg (row+1) 5=true:=by simp only[bz];omega
 simp only[hw,b1,b2];simp only[bU,SQ,Ou,FD]
instance aGZ (x:gE.B):bp (eB x):=by
 unfold eB mD;try dsimp only
 exact aJ (by simp only[bU])
end Go.Proofs.YtldgljclcgaibaaGreat
