/-
  Parts of the proof: Q4 TI TJ TK TL TM TN
-/
import Derived.Test.YtldgljclcgaibaaGreatZAE
import Derived.Test.YtldgljclcgaibaaGreatZAI
set_option linter.unusedVariables false
set_option linter.unusedSimpArgs false
set_option maxRecDepth 100000
set_option maxHeartbeats 4000000
noncomputable section
namespace Go.Proofs.YtldgljclcgaibaaGreat
open Go.Ab Go.Ab.Pg Go.Ab.Rq
def Gw:=qa (pr (cu awa fM) az8)
def uL:=qe (res (pu (app 1 6) (pu Xc (cl aP6 nil))))
abbrev Gx:=uL.B
abbrev Gy:=Int->NI->NI->(Nat->Bool)->NI->NI->NI->Int->Option Gx
def Gz (g:Gy):Ct:=(45,FC Gw (lf uL) (λb=>g b.1 b.2.1.1 b.2.1.2.1 b.2.1.b.1 b.2.1.b.2.1 b.2.1.c.1 b.2.1.c.2 b.b))
def wT (jE:SG)(x0:Int)(x1:Nat->Int)(x2:Nat->Int)(x3:Nat->Bool)(x4:Nat->Int)(x5:Nat->Int)(x6:Nat->Int)(x7:Int):Pg Gx:=opt (jE x0) λd=>ae (!d) (ret (0,0,false,0,0,0)) (ae (aW x0 6) (ae (Nat.ble (0+Int.toNat x0*6+6) 36) (ret ((x1,x2,x3,x4,x5,x6).1 (Int.toNat x0),(x2,x3,x4,x5,x6).1 (Int.toNat x0),(x3,x4,x5,x6).1 (Int.toNat x0),(x4,x5,x6).1 (Int.toNat x0),x5 (Int.toNat x0),x6 (Int.toNat x0))) no) no)
def lS:=λx0 x1 x2 x3 x4 x5 x6 x7=>(wT nD x0 x1 x2 x3 x4 x5 x6 x7).val
theorem aaz:∀jE,D0 [SH jE] 45 Gw (lf uL) λb=>wT jE b.1 b.2.1.1 b.2.1.2.1 b.2.1.b.1 b.2.1.b.2.1 b.2.1.c.1 b.2.1.c.2 b.b:=λ_ b=>by kernel_rfl
theorem aaA [ax]:SC (Gz lS):=s0 (.c ae9 (.nil _)) (aaz nD)
def atA:=qa (pr (cu aN ac0) cq)
def aaB:=qe (res (pr (aa auh) (pl k9 nil)))
abbrev atB:=aaB.B
abbrev rN:=NI->Int->Bool->Option atB
def Eo (g:rN):Ct:=(103,FC atA (lf aaB) (λb=>g b.1.1 b.1.2 b.2))
def afa (aM:eI)(ba:dA)(bz:ky)(x0:Nat->Int)(x1:Int)(x2:Bool):Pg atB:=opt (aM x0 x2) λd=>opt (ba d.1) λaj=>opt (bz d.1 4) λaI=>opt (bz d.1 7) λbp=>ret ((x1,aj.1,aj.2.1,aj.2.2.1,aj.2.2.2,aI.1,aI.2.1,aI.2.2,bp),d.2)
def kT:=λx0 x1 x2=>(afa bT bV ee x0 x1 x2).val
theorem aHa:∀aM ba bz,D0 [ix aM,iI ba,pn bz] 103 atA (lf aaB) λb=>afa aM ba bz b.1.1 b.1.2 b.2:=λ_ _ _ b=>by kernel_rfl
theorem KL [ax]:SC (Eo kT):=s0 (.c ji (.c jA (.c sH (.nil _)))) (aHa bT bV ee)
def aoy:=qa (pl (c jW (cl aK5 nil)) nil)
def VJ:=qe aKJ
abbrev aoz:=VJ.B
abbrev By:=NI->Int->Int->Int->Int->Int->Int->Int->Int->Int->Int->Int->Option aoz
def NZ (g:By):Ct:=(105,FC aoy (lf VJ) (λb=>g b.1 b.2.1 b.b.1.1 b.b.1.2.1 b.b.1.b.1 b.b.1.b.2 b.b.2.1.1 b.b.2.1.2.1 b.b.2.1.b b.c.1 b.c.2.1 b.c.b))
def aaC (cD:wD)(x0:Nat->Int)(x1:Int)(x2:Int)(x3:Int)(x4:Int)(x5:Int)(x6:Int)(x7:Int)(x8:Int)(x9:Int)(fS:Int)(fT:Int):Pg aoz:=opt (cD x0 0 4 (cr x2 [x5,x4,x3,x2]) false) λd=>opt (cD d 4 3 (cr x6 [x8,x7,x6]) false) λd=>opt (cD d 7 3 (cr x9 [fT,fS,x9]) false) λd=>ret d
def pB:=λx0 x1 x2 x3 x4 x5 x6 x7 x8 x9 fS fT=>(aaC fK x0 x1 x2 x3 x4 x5 x6 x7 x8 x9 fS fT).val
theorem aDz:∀cD,D0 [Bp cD] 105 aoy (lf VJ) λb=>aaC cD b.1 b.2.1 b.b.1.1 b.b.1.2.1 b.b.1.b.1 b.b.1.b.2 b.b.2.1.1 b.b.2.1.2.1 b.b.2.1.b b.c.1 b.c.2.1 b.c.b:=λ_ b=>by kernel_rfl
theorem aaD [ax]:SC (NZ pB):=s0 (.c Gd (.nil _)) (aDz fK)
def aoA:=qa (pl YS nil)
def VK:=qe BB
abbrev aoB:=VK.B
abbrev aoC:=Int->Int->Int->Int->Int->Int->Int->Int->Option aoB
def aoD (g:aoC):Ct:=(101,FC aoA (lf VK) (λb=>g b.1 b.2.1 b.b.1.1 b.b.1.2.1 b.b.1.b b.b.2.1 b.c.1 b.c.2))
def fR:=qs (st (pr (us 1 (cu Te (us 2 (cl ai (us 21 aKF))))) (pl (cl CA nil) nil)))
def Yn:=qs (st (pu (us 2 (cu Cy (us 37 nil))) (pu nil nil)))
def Yo:=qs (st (pr (us 1 (cu Te (us 2 (c ai (cl ab (us 20 aKF)))))) (pl (cl CA nil) nil)))
abbrev oc:=Yn.B⊕Yo.B
def agZ {ρ:Type}(x:oc)(K:AX->St->Option ρ):Option ρ:=(Sum.elim (λd=>K .ret (Yn.em d)) (λd=>K (.ex 0) (Yo.em d))) x
def Hc (cX:Mc)(d:fR.B):PL fR oc:=let n2:=d.2.2.2;let n1:=n2.2.2.2;let y0:=aW d.1 3;let y1:=d.1==1;let y2:=d.1==2;let y3:=decide (d.1<3);ae y3 (ae y0 (ae y2 (opt (cX n2.2.2.1) λaj=>ae (decide (aj>34359738368)) (ret (Sum.inr (Sum.inl ()))) (ae y0 (ae y2 (opt (cX n1.2.2) λaI=>ae (decide (aI>34359738368)) (ret (Sum.inr (Sum.inl ()))) (ret (Sum.inl (wI (d.1+1),d.2)))) (ae y1 (opt (cX n1.2.1) λaI=>ae (decide (aI>34359738368)) (ret (Sum.inr (Sum.inl ()))) (ret (Sum.inl (wI (d.1+1),d.2)))) (opt (cX n1.1) λaI=>ae (decide (aI>34359738368)) (ret (Sum.inr (Sum.inl ()))) (ret (Sum.inl (wI (d.1+1),d.2)))))) no)) (ae y1 (opt (cX n2.2.1) λaj=>ae (decide (aj>34359738368)) (ret (Sum.inr (Sum.inl ()))) (ae y0 (ae y2 (opt (cX n1.2.2) λaI=>ae (decide (aI>34359738368)) (ret (Sum.inr (Sum.inl ()))) (ret (Sum.inl (wI (d.1+1),d.2)))) (ae y1 (opt (cX n1.2.1) λaI=>ae (decide (aI>34359738368)) (ret (Sum.inr (Sum.inl ()))) (ret (Sum.inl (wI (d.1+1),d.2)))) (opt (cX n1.1) λaI=>ae (decide (aI>34359738368)) (ret (Sum.inr (Sum.inl ()))) (ret (Sum.inl (wI (d.1+1),d.2)))))) no)) (opt (cX n2.1) λaj=>ae (decide (aj>34359738368)) (ret (Sum.inr (Sum.inl ()))) (ae y0 (ae y2 (opt (cX n1.2.2) λaI=>ae (decide (aI>34359738368)) (ret (Sum.inr (Sum.inl ()))) (ret (Sum.inl (wI (d.1+1),d.2)))) (ae y1 (opt (cX n1.2.1) λaI=>ae (decide (aI>34359738368)) (ret (Sum.inr (Sum.inl ()))) (ret (Sum.inl (wI (d.1+1),d.2)))) (opt (cX n1.1) λaI=>ae (decide (aI>34359738368)) (ret (Sum.inr (Sum.inl ()))) (ret (Sum.inl (wI (d.1+1),d.2)))))) no)))) no) (ret (Sum.inr (Sum.inr ((d.1,y3),d.2))))
def He:=bA (Hc vi) 2000
def N3 (dI:LT fR oc)(x0:Int)(x1:Int)(x2:Int)(x3:Int)(x4:Int)(x5:Int)(x6:Int)(x7:Int):Pg aoB:=opt (dI (0,x0,x1,x2,x3,x4,x5,x6,x7)) λx=>sum x (λd=>ret false) λd=>ae (decide (d.2.2.1>=1)) (ae (decide (d.2.2.1<=100000)) (ae (decide (d.2.1>=0)) (ret (decide (d.2.1<=1125899906842624))) (ret false)) (ret false)) (ret false)
def wV:=λx0 x1 x2 x3 x4 x5 x6 x7=>(N3 He x0 x1 x2 x3 x4 x5 x6 x7).val
abbrev N4:=Mc×(LT fR oc)
def aaE (p:N4):KK:=⟨[abm p.1],⟨[⟨2,(0::2::5::6::7::rg 9 4 (rg 20 6 (29::30::34::35::39::3::8::rg 13 7 []))),[]⟩],[fH 2 0 fR agZ p.2],[],[],(some ⟨0,(0::1::rg 3 37 []),[]⟩)⟩,0,101⟩
theorem avA (p:N4):LI (aaE p) 2 fR agZ (Hc p.1):=λ_ d c K=>by kernel_rfl
theorem aDA (p:N4):D2 (aaE p) aoA (lf VK) λb=>N3 p.2 b.1 b.2.1 b.b.1.1 b.b.1.2.1 b.b.1.b b.b.2.1 b.c.1 b.c.2:=λb=>by kernel_rfl
abbrev aaF:N4:=(vi,He)
theorem aDB [ax]:SC (aoD wV):=sc (kS (k:=aaE aaF) (.c alY (.nil _)) [2] [] ⟨kL (avA aaF),trivial⟩ trivial (aDA aaF))
def Bz:=qa (pr (cu aN (c (aa aFE) YS)) cq)
def VL:=qe (res (pr (aa aue) (pl k9 nil)))
abbrev aoE:=VL.B
abbrev aoF:=Bz.B->Option aoE
def aoG (g:aoF):Ct:=(102,FC Bz (lf VL) g)
def N5 (dq:zz)(x:Bz.B):Pg aoE:=let n2:=x.1.2.2.2;let n1:=x.1.1.2.2;opt (dq 2 x.2 (cr n1.1.1 [n2.1.1,n1.1.1]) (cr n1.1.2.1 [n2.1.2.1,n1.1.2.1]) (cr n1.1.2.2 [n2.1.2.2,n1.1.2.2]) true) λd=>opt (dq 2 d.2 (cr n1.2.1 [n2.2.1,n1.2.1]) (cr n1.2.2.1 [n2.2.2.1,n1.2.2.1]) (cr n1.2.2.2 [n2.2.2.2,n1.2.2.2]) true) λaj=>ret ((x.1.2.1,wI (x.1.1.2.1+x.1.2.2.1),d.1.1,d.1.2.1,d.1.2.2,aj.1),aj.2)
def wW:=λx=>(N5 jq x).val
theorem aDC:∀dq,D0 [HE dq] 102 Bz (lf VL) λb=>N5 dq b:=λ_ b=>by kernel_rfl
theorem aDD [ax]:SC (aoG wW):=s0 (.c Ml (.nil _)) (aDC jq)
def mJ:=qa (pr (cu (app 0 10) (cu Oj YS)) (c lG cq))
def BL:=qe (res (pr (o9 (c (ra aue) (c (rc cb) aqY))) (pl (c (AF lG) k9) nil)))
abbrev OX:=BL.B
abbrev Dh:=mJ.B->Option OX
def OY (g:Dh):Ct:=(62,FC mJ (lf BL) g)
def vX (N6:aoC)(N7:aoF)(x:mJ.B):Pg OX:=let n3:=x.1.2.2;let n2:=x.2.1;let n1:=(N7 ((n2.2.1,x.1),x.2.2));opt (N6 x.1.1 x.1.2.1 n3.1.1 n3.1.2.1 n3.1.2.2 n3.2.1 n3.2.2.1 n3.2.2.2) λd=>ae (!d) (ret (((0,0,0,0,0,0,0,0),false,1),x.2)) (ae n2.2.2 (ae (decide (x.1.1<=n2.2.1.1)) (ret (((0,0,0,0,0,0,0,0),false,1),x.2)) (opt n1 λd=>let n4:=d.1.2;ae (decide (n4.1<n2.1)) (ret (((0,0,0,0,0,0,0,0),false,0),(n2.1,(d.1.1,n4.1,(n4.2.1,n4.2.2.1,n4.2.2.2.1),n4.2.2.2.2),true),d.2)) (ret ((d.1,true,0),(n2.1,(x.1.1,0,(0,0,0),0,0,0),true),d.2)))) (opt n1 λd=>let n5:=d.1.2;ae (decide (n5.1<n2.1)) (ret (((0,0,0,0,0,0,0,0),false,0),(n2.1,(d.1.1,n5.1,(n5.2.1,n5.2.2.1,n5.2.2.2.1),n5.2.2.2.2),true),d.2)) (ret ((d.1,true,0),(n2.1,(x.1.1,0,(0,0,0),0,0,0),true),d.2))))
def bH:=λx=>(vX wV wW x).val
theorem akP:∀N6 N7,D1 [aoD N6,aoG N7] [0,1] 62 mJ (lf BL) λb=>vX N6 N7 b:=λ_ _ b=>by kernel_rfl
theorem akQ [ax]:SC (OY bH):=s0 (.c aDB (.c aDD (.nil _))) (akP wV wW)
def iB:=qa (pr (cu FX (cu Oj ac0)) (cd acZ λb0=>(c ux (cl (cl (gs b0.b gA) nil) nil))))
def tM:=qe (res (pu Tc (pr (c (AF (c gi (cl gi (cu (gc (je (pu rq7 (pu xE (pu (szl Cw) (pu WN ju)))))) nil)))) LM) (cl auh nil))))
abbrev uM:=tM.B
abbrev uN:=iB.B->Option uM
def EI (g:uN):Ct:=(162,FC iB (lf tM) g)
def om (iO:rN)(x:iB.B):Pg uM:=opt (iO x.1.1 x.1.2 x.2.2.1) λd=>ret (((x.2.1.1,x.2.1.2.1),d.2),d.1)
def eO:=λx=>(om kT x).val
theorem WR:∀iO,D0 [Eo iO] 162 iB (lf tM) λb=>om iO b:=λ_ b=>by kernel_rfl
theorem WT [ax]:SC (EI eO):=s0 (.c KL (.nil _)) (WR kT)
def lT:=qa (pr (cu FX (cu Oj (c jW YS))) (cd acZ λb0=>(c ux (cl (cl (gs b0.b gA) nil) nil))))
def Cd:=qe (res (pr ai (pl (c (AF acZ) LM) nil)))
def Ce:=qe (res (pu aFt (pr (c (AF aFy) (cl aqX aHM)) aAa)))
abbrev pC:=Cd.B⊕Ce.B
def GA:pC->T:=ls (lf Cd) (lf Ce)
abbrev lU:=lT.B->Option pC
def wX (g:lU):Ct:=(63,FC lT GA g)
def wY (sL:By)(BA:NV)(iO:rN)(x:lT.B):Pg pC:=let bq:=x.2.2.1;let n8:=x.2.1;let n6:=x.1.2.2;let n4:=x.2.2.2;let bc:=n4.2.2;let n2:=n8.2.2;let n1:=bc.2.2;let n5:=n1.2.2.2;let bg:=n5.2.2;let y0:=Int.ofNat n2;let y1:=n2+1;let y2:=wI (y0-1);let y3:=Int.toNat y2;let y4:=y1-1;let y5:=0+y4;ae (y0==0) (ret (Sum.inl (4,n8,bq))) (ae (aW y2 n2) (ae (decide (n6.1<1)) (ret (Sum.inl (1,n8,bq))) (ae (decide (x.1.2.1<=n4.1 y3)) (ret (Sum.inl (1,n8,bq))) (opt (sL x.1.1 (n4.1 y3) (n4.2.1 y3) (bc.1 y3) (bc.2.1 y3) (n1.1 y3) (n1.2.1 y3) (n1.2.2.1 y3) (n5.1 y3) (n5.2.1 y3) (bg.1 y3) (bg.2 y3)) λd=>opt (BA d x.1.2.1 n6.1 n6.2.1.1 n6.2.1.2.1 n6.2.1.2.2 n6.2.2.1 n6.2.2.2.1 n6.2.2.2.2 bq) λd=>opt (iO d.1 x.1.2.1 d.2) λd=>let n7:=d.1.2.2;let n3:=n7.2.2.2;let n9:=n3.2.2.2;ae (Nat.ble (y1*88) 140737488355328) (ae (decide (Int.ofNat y1>n8.1)) (ae (Ir 1 y1) (ae (Nat.ble (y5*88) 140737488355328) (ret (Sum.inr (((n8.1,n8.2.1,y5),d.2),y4,λj=>let y0:=1+j;bif Nat.beq y0 n2 then d.1.1 else n4.1 y0,λj=>let y0:=1+j;bif Nat.beq y0 n2 then d.1.2.1 else n4.2.1 y0,λj=>let y0:=1+j;bif Nat.beq y0 n2 then n7.1 else bc.1 y0,λj=>let y0:=1+j;bif Nat.beq y0 n2 then n7.2.1 else bc.2.1 y0,λj=>let y0:=1+j;bif Nat.beq y0 n2 then n7.2.2.1 else n1.1 y0,λj=>let y0:=1+j;bif Nat.beq y0 n2 then n3.1 else n1.2.1 y0,λj=>let y0:=1+j;bif Nat.beq y0 n2 then n3.2.1 else n1.2.2.1 y0,λj=>let y0:=1+j;bif Nat.beq y0 n2 then n3.2.2.1 else n5.1 y0,λj=>let y0:=1+j;bif Nat.beq y0 n2 then n9.1 else n5.2.1 y0,λj=>let y0:=1+j;bif Nat.beq y0 n2 then n9.2.1 else bg.1 y0,λj=>let y0:=1+j;bif Nat.beq y0 n2 then n9.2.2 else bg.2 y0))) no) no) (ret (Sum.inr (((n8.1,n8.2.1,y1),d.2),y1,λj=>bif Nat.beq j n2 then d.1.1 else n4.1 j,λj=>bif Nat.beq j n2 then d.1.2.1 else n4.2.1 j,λj=>bif Nat.beq j n2 then n7.1 else bc.1 j,λj=>bif Nat.beq j n2 then n7.2.1 else bc.2.1 j,λj=>bif Nat.beq j n2 then n7.2.2.1 else n1.1 j,λj=>bif Nat.beq j n2 then n3.1 else n1.2.1 j,λj=>bif Nat.beq j n2 then n3.2.1 else n1.2.2.1 j,λj=>bif Nat.beq j n2 then n3.2.2.1 else n5.1 j,λj=>bif Nat.beq j n2 then n9.1 else n5.2.1 j,λj=>bif Nat.beq j n2 then n9.2.1 else bg.1 j,λj=>bif Nat.beq j n2 then n9.2.2 else bg.2 j)))) no))) no)
def eW:=λx=>(wY pB sJ kT x).val
theorem aaG:∀sL BA iO,D1 [NZ sL,ZW BA,Eo iO] [0,1] 63 lT GA λb=>wY sL BA iO b:=λ_ _ _ b=>by kernel_rfl
theorem GB [ax]:SC (wX eW):=s0 (.c aaD (.c an8 (.c KL (.nil _)))) (aaG pB sJ kT)
def IM:=qa (pu (cu FX nil) (cd (c gi (c gi (cl (gc (wz 1 11)) nil))) λb0=>(cl (cl (gs b0.b gA) nil) nil)))
def wZ:=qe (res (pl aQM (pu at4 nil)))
abbrev IN:=wZ.B
abbrev IP:=Int->Int->Nat->NI->NI->NI->NI->NI->NI->NI->NI->NI->NI->NI->Option IN
def IQ (g:IP):Ct:=(75,FC IM (lf wZ) (λb=>g b.1.1 b.1.2.1 b.1.b b.2.1 b.b.1 b.b.2.1 b.c.1 b.c.2.1 b.c.b.1 b.c.b.2.1 b.d.1 b.d.2.1 b.d.b.1 b.d.b.2))
def IS (x0:Int)(x1:Int)(x2:Nat)(x3:Nat->Int)(x4:Nat->Int)(x5:Nat->Int)(x6:Nat->Int)(x7:Nat->Int)(x8:Nat->Int)(x9:Nat->Int)(fS:Nat->Int)(fT:Nat->Int)(BF:Nat->Int)(x13:Nat->Int):Pg IN:=let y0:=wI (Int.ofNat x2-1);let y1:=Int.toNat y0;ae (Int.ofNat x2==0) (ret ((0,0,0,0,0,0,0,0,0,0,0),false)) (ae (aW y0 x2) (ret (((x3,x4,x5,x6,x7,x8,x9,fS,fT,BF,x13).1 y1,(x4,x5,x6,x7,x8,x9,fS,fT,BF,x13).1 y1,(x5,x6,x7,x8,x9,fS,fT,BF,x13).1 y1,(x6,x7,x8,x9,fS,fT,BF,x13).1 y1,(x7,x8,x9,fS,fT,BF,x13).1 y1,(x8,x9,fS,fT,BF,x13).1 y1,(x9,fS,fT,BF,x13).1 y1,(fS,fT,BF,x13).1 y1,(fT,BF,x13).1 y1,BF y1,x13 y1),true)) no)
def yo:=λx0 x1 x2 x3 x4 x5 x6 x7 x8 x9 fS fT BF x13=>(IS x0 x1 x2 x3 x4 x5 x6 x7 x8 x9 fS fT BF x13).val
theorem ab1:D0 [] 75 IM (lf wZ) λb=>IS b.1.1 b.1.2.1 b.1.b b.2.1 b.b.1 b.b.2.1 b.c.1 b.c.2.1 b.c.b.1 b.c.b.2.1 b.d.1 b.d.2.1 b.d.b.1 b.d.b.2:=λb=>by kernel_rfl
theorem ab2 [ax]:SC (IQ yo):=s0 (.nil _) ab1
def oC:=qa (pu (cu Te nil) (cd ac1 λb0=>(cl (cl (gs b0.b.1 ay) nil) nil)))
def z8:=qe (res (pu Tc (pl (cl (AF ac1) Xc) nil)))
abbrev LA:=z8.B
abbrev BM:=oC.B->Option LA
def LB (g:BM):Ct:=(57,FC oC (lf z8) g)
def BN (x:oC.B):Pg LA:=ret ((wI (x.1.1.1+1),x.1.1.2.1,x.1.1.2.2.1,wI (x.1.1.2.2.2.1+1),x.1.1.2.2.2.2),x.1.2)
def oD:=λx=>(BN x).val
theorem ahD:D0 [] 57 oC (lf z8) λb=>BN b:=λb=>by kernel_rfl
theorem ahE [ax]:SC (LB oD):=s0 (.nil _) ahD
def akR:=qa (pl Cz nil)
def Rc:=qe BB
abbrev akS:=Rc.B
abbrev yp:=Int->Int->Int->Option akS
def VM (g:yp):Ct:=(41,FC akR (lf Rc) (λb=>g b.1 b.2.1 b.b))
def KM (x0:Int)(x1:Int)(x2:Int):Pg akS:=ae (decide (x0>=x1)) (ret (decide (x0<=x2))) (ret false)
def lV:=λx0 x1 x2=>(KM x0 x1 x2).val
theorem aCi:D0 [] 41 akR (lf Rc) λb=>KM b.1 b.2.1 b.b:=λb=>by kernel_rfl
theorem akT [ax]:SC (VM lV):=s0 (.nil _) aCi
def atC:=qa (pl EX nil)
def ab3:=qe az6
def ab4:=qe aQO
abbrev afb:=ab3.B⊕ab4.B
def atD:afb->T:=ls (lf ab3) (lf ab4)
abbrev afc:=Int->Int->Int->Option afb
def atE (g:afc):Ct:=(42,FC atC atD (λb=>g b.1 b.2.1 b.b))
def afd (cw:sK)(ep:TL)(aq:bU)(dG:IB)(fX:Oz)(rO:adR)(aD:cv)(x0:Int)(x1:Int)(x2:Int):Pg afb:=opt (cw x0 x1 x2) λd=>ae (!d) (ret (Sum.inl ())) (ae (decide (x0>850000000)) (ret (Sum.inl ())) (ae (decide (x0< -850000000)) (ret (Sum.inl ())) (opt (aq x0 3373259426 1800000000 false) λd=>opt (dG d.1 d.2) λaj=>opt (fX d.1 aj.2) λd=>opt (ep aj.1 aj.1 d.2) λaI=>opt (ep 7188036 aI.1 aI.2) λbp=>let y0:=wI (1073741824-bp.1);opt (rO y0 bp.2) λcg=>opt (aD 6531212288 cg.1 30 cg.2) λdF=>opt (ep 6531212288 1066553788 dF.2) λcH=>opt (ep y0 cg.1 cH.2) λln=>opt (aD cH.1 ln.1 30 ln.2) λqC=>opt (aq qC.1 3373259426 1800000000 qC.2) λnm=>opt (ep dF.1 d.1 nm.2) λd=>opt (aq d.1 3373259426 1800000000 d.2) λd=>ret (Sum.inr (x0,x1,x2,nm.1,d.1)))))
def vY:=λx0 x1 x2=>(afd fL tx aS mD pU zn bk x0 x1 x2).val
theorem aHb:∀cw ep aq dG fX rO aD,D0 [wK cw,TM ep,cT aq,IC dG,OA fX,adS rO,fI aD] 42 atC atD λb=>afd cw ep aq dG fX rO aD b.1 b.2.1 b.b:=λ_ _ _ _ _ _ _ b=>by kernel_rfl
theorem aHc [ax]:SC (atE vY):=s0 (.c Bw (.c aiF (.c c7 (.c Oy (.c XL (.c arP (.c gC (.nil _)))))))) (aHb fL tx aS mD pU zn bk)
def ax8:=qa (pr (cu av8 Cz) (cl aph nil))
def afe:=qe aQn
abbrev ax9:=afe.B
abbrev akU:=Int->Int->Int->NI->Option ax9
def aya (g:akU):Ct:=(74,FC ax8 (lf afe) (λb=>g b.1.1 b.1.2.1 b.1.b b.2))
def yu:=qs (st (pr (cu av8 (us 1 (c ai (c ai (us 4 aPu))))) (pl Ho cy)))
def aDE:=qs (st (pr (cu av8 (us 1 (c ai (c ai (us 4 (c ai (us 1 (c ai aFq)))))))) (pl Ho cy)))
abbrev N8:=((Int×Int×Int×Bool)×NI)
def aoH {ρ:Type}(x:N8)(K:AX->St->Option ρ):Option ρ:=(λd=>K (.ex 0) (aDE.em ((d.1.1,d.1.2.1,d.1.b.1,d.1.b.1,d.1.1,d.1.b.2),d.2))) x
def aoI (d:yu.B):PL yu N8:=let n1:=d.1.2;let y0:=Int.toNat n1.2;let y1:=decide (n1.2<d.1.1);ae y1 (ae (aW n1.2 24) (ae (true&&Nat.ble (0+y0*1+1) 24) (ret (Sum.inl ((d.1.1,n1.1,wI (n1.2+1)),λj=>bif Nat.beq j y0 then n1.1 else d.2 j))) no) no) (ret (Sum.inr ((d.1.1,n1.1,n1.2,y1),d.2)))
def aoJ:=bA (aoI) 2000
def ayb (dI:LT yu N8)(x0:Int)(x1:Int)(x2:Int)(x3:Nat->Int):Pg ax9:=opt (dI ((x1,x2,x0),x3)) λd=>ret d.2
def akV:=λx0 x1 x2 x3=>(ayb aoJ x0 x1 x2 x3).val
abbrev Yp:=(LT yu N8)
def akW (p:Yp):KK:=⟨[],⟨[⟨1,(1::rg 4 4 (rg 9 11 [])),[]⟩],[fH 1 1 yu aoH p],[0],[],(some ⟨0,(rg 0 20 []),[]⟩)⟩,1,74⟩
theorem aCj (p:Yp):LI (akW p) 1 yu aoH (aoI):=λ_ d c K=>by kernel_rfl
theorem aJD (p:Yp):D2 (akW p) ax8 (lf afe) λb=>ayb p b.1.1 b.1.2.1 b.1.b b.2:=λb=>by kernel_rfl
abbrev akX:Yp:=aoJ
theorem aJE [ax]:SC (aya akV):=sc (kS (k:=akW akX) (.nil _) [1] [] ⟨kL (aCj akX),trivial⟩ trivial (aJD akX))
def akY:=qa (pu nil nil)
def Re:=qe (res (pl (aa aLl) (pu nil nil)))
abbrev VN:=Re.B
abbrev aCk:=Option VN
def akZ (g:aCk):Ct:=(38,FC akY (lf Re) (λ_=>g))
def qO:=qs (st (pr (cu aHN (cu (app 1 72) (us 2 aPA))) (pl (c (so (cu aQ (cu aQ (cu aQ (cu aQ (cu aQ (cu aQ (cu aQ (cu aQ (cu aQ (cu aQ (cu aQ (cu aQ (cu aQ (cu aQ (cu aQ (cu aQ (c jV (cl jV aFR))))))))))))))))))) (cl (so aLl) nil)) nil)))
def ab5:=qs (st (pr (cu aHN (cu (app 1 72) (us 2 aPO))) (pl (c (so (cu aQ (cu aQ (cu aQ (cu aQ (cu aQ (cu aQ (cu aQ (cu aQ (cu aQ (cu aQ (cu aQ (cu aQ (cu aQ (cu aQ (cu aQ (cu aQ (c jV (cl jV aFR))))))))))))))))))) (cl (so aLl) nil)) nil)))
abbrev Ep:=ab5.B
def ab6 {ρ:Type}:=@ef Ep ((.ex 0)) ab5 ρ
def ab7 (d:qO.B):PL qO Ep:=let n8:=d.2.1;let n4:=d.2.2.1;let n3:=d.2.2.2;let n9:=n3.2.1;let n5:=n3.2.2.1;let n1:=n3.2.2.2;let bc:=n1.2.1;let n6:=n1.2.2.1;let n2:=n1.2.2.2;let bg:=n2.2.1;let n7:=n2.2.2;let bu:=n7.2.1;let bq:=n7.2.2;let y0:=aW d.1 6;let y1:=d.1==5;let y2:=d.1==4;let y3:=d.1==1;let y4:=d.1==3;let y5:=d.1==2;let y6:=wI (d.1+1);let y7:=decide (d.1<6);ae y7 (ae y0 (ae y1 (ae y0 (ae y1 (ret (Sum.inl (y6,n8,n4,n3.1,n9,n5,n1.1,5,n6,n2.1,bg,n7.1,bu,1000000,bq.2))) (ae y2 (ret (Sum.inl (y6,n8,n4,n3.1,n9,n5,n1.1,5,n6,n2.1,bg,n7.1,1000000,bq))) (ae y4 (ret (Sum.inl (y6,n8,n4,n3.1,n9,n5,n1.1,5,n6,n2.1,bg,1000000,n7.2))) (ae y5 (ret (Sum.inl (y6,n8,n4,n3.1,n9,n5,n1.1,5,n6,n2.1,1000000,n7))) (ae y3 (ret (Sum.inl (y6,n8,n4,n3.1,n9,n5,n1.1,5,n6,1000000,n2.2))) (ret (Sum.inl (y6,n8,n4,n3.1,n9,n5,n1.1,5,1000000,n2)))))))) no) (ae y2 (ae y0 (ae y1 (ret (Sum.inl (y6,n8,n4,n3.1,n9,n5,5,bc,n6,n2.1,bg,n7.1,bu,1000000,bq.2))) (ae y2 (ret (Sum.inl (y6,n8,n4,n3.1,n9,n5,5,bc,n6,n2.1,bg,n7.1,1000000,bq))) (ae y4 (ret (Sum.inl (y6,n8,n4,n3.1,n9,n5,5,bc,n6,n2.1,bg,1000000,n7.2))) (ae y5 (ret (Sum.inl (y6,n8,n4,n3.1,n9,n5,5,bc,n6,n2.1,1000000,n7))) (ae y3 (ret (Sum.inl (y6,n8,n4,n3.1,n9,n5,5,bc,n6,1000000,n2.2))) (ret (Sum.inl (y6,n8,n4,n3.1,n9,n5,5,bc,1000000,n2)))))))) no) (ae y4 (ae y0 (ae y1 (ret (Sum.inl (y6,n8,n4,n3.1,n9,5,n1.1,bc,n6,n2.1,bg,n7.1,bu,1000000,bq.2))) (ae y2 (ret (Sum.inl (y6,n8,n4,n3.1,n9,5,n1.1,bc,n6,n2.1,bg,n7.1,1000000,bq))) (ae y4 (ret (Sum.inl (y6,n8,n4,n3.1,n9,5,n1.1,bc,n6,n2.1,bg,1000000,n7.2))) (ae y5 (ret (Sum.inl (y6,n8,n4,n3.1,n9,5,n1.1,bc,n6,n2.1,1000000,n7))) (ae y3 (ret (Sum.inl (y6,n8,n4,n3.1,n9,5,n1.1,bc,n6,1000000,n2.2))) (ret (Sum.inl (y6,n8,n4,n3.1,n9,5,n1.1,bc,1000000,n2)))))))) no) (ae y5 (ae y0 (ae y1 (ret (Sum.inl (y6,n8,n4,n3.1,5,n5,n1.1,bc,n6,n2.1,bg,n7.1,bu,1000000,bq.2))) (ae y2 (ret (Sum.inl (y6,n8,n4,n3.1,5,n5,n1.1,bc,n6,n2.1,bg,n7.1,1000000,bq))) (ae y4 (ret (Sum.inl (y6,n8,n4,n3.1,5,n5,n1.1,bc,n6,n2.1,bg,1000000,n7.2))) (ae y5 (ret (Sum.inl (y6,n8,n4,n3.1,5,n5,n1.1,bc,n6,n2.1,1000000,n7))) (ae y3 (ret (Sum.inl (y6,n8,n4,n3.1,5,n5,n1.1,bc,n6,1000000,n2.2))) (ret (Sum.inl (y6,n8,n4,n3.1,5,n5,n1.1,bc,1000000,n2)))))))) no) (ae y3 (ae y0 (ae y1 (ret (Sum.inl (y6,n8,n4,5,n9,n5,n1.1,bc,n6,n2.1,bg,n7.1,bu,1000000,bq.2))) (ae y2 (ret (Sum.inl (y6,n8,n4,5,n9,n5,n1.1,bc,n6,n2.1,bg,n7.1,1000000,bq))) (ae y4 (ret (Sum.inl (y6,n8,n4,5,n9,n5,n1.1,bc,n6,n2.1,bg,1000000,n7.2))) (ae y5 (ret (Sum.inl (y6,n8,n4,5,n9,n5,n1.1,bc,n6,n2.1,1000000,n7))) (ae y3 (ret (Sum.inl (y6,n8,n4,5,n9,n5,n1.1,bc,n6,1000000,n2.2))) (ret (Sum.inl (y6,n8,n4,5,n9,n5,n1.1,bc,1000000,n2)))))))) no) (ae y0 (ae y1 (ret (Sum.inl (y6,n8,5,n3.1,n9,n5,n1.1,bc,n6,n2.1,bg,n7.1,bu,1000000,bq.2))) (ae y2 (ret (Sum.inl (y6,n8,5,n3.1,n9,n5,n1.1,bc,n6,n2.1,bg,n7.1,1000000,bq))) (ae y4 (ret (Sum.inl (y6,n8,5,n3.1,n9,n5,n1.1,bc,n6,n2.1,bg,1000000,n7.2))) (ae y5 (ret (Sum.inl (y6,n8,5,n3.1,n9,n5,n1.1,bc,n6,n2.1,1000000,n7))) (ae y3 (ret (Sum.inl (y6,n8,5,n3.1,n9,n5,n1.1,bc,n6,1000000,n2.2))) (ret (Sum.inl (y6,n8,5,n3.1,n9,n5,n1.1,bc,1000000,n2)))))))) no)))))) no) (ret (Sum.inr ((d.1,y7),d.2)))
def ab8:=bA (ab7) 2000
def ak0 (pX:akU)(dI:LT qO Ep):Pg VN:=opt (dI (0,(λx=>0,λx=>0),0,0,0,0,0,0,0,0,0,0,0,0,λx=>0,λx=>0)) λd=>let n3:=d.2.2.2;let n1:=n3.2.2.2.2;let n2:=n1.2.2.2.2;opt (pX 0 24 16384 n2.2.2.2.1) λaj=>opt (pX 0 4 1048576 aj) λaI=>opt (pX 4 7 17179869184 aI) λbp=>opt (pX 10 13 1024 bp) λcg=>opt (pX 13 16 65536 cg) λdF=>opt (pX 22 24 17179869184 dF) λcH=>opt (pX 0 24 17592186044416 n2.2.2.2.2) λln=>opt (pX 0 4 68719476736 ln) λqC=>opt (pX 10 13 67108864 qC) λnm=>opt (pX 13 16 4294967296 nm) λkE=>opt (pX 16 22 17179869184 kE) λuA=>ret (d.2.2.1,n3.1,n3.2.1,n3.2.2.1,n3.2.2.2.1,n1.1,n1.2.1,n1.2.2.1,n1.2.2.2.1,n2.1,n2.2.1,n2.2.2.1,cH,uA)
def ak1:Option VN:=(ak0 akV ab8).val
abbrev KN:=akU×(LT qO Ep)
def VO (p:KN):KK:=⟨[aya p.1],⟨[⟨3,(2::3::rg 5 32 []),[]⟩],[fH 3 0 qO ab6 p.2],[],[],(some ⟨0,(rg 1 36 []),[]⟩)⟩,0,38⟩
theorem atF (p:KN):LI (VO p) 3 qO ab6 (ab7):=λ_ d c K=>by kernel_rfl
theorem aCl (p:KN):D2 (VO p) akY (lf Re) λb=>ak0 p.1 p.2:=λb=>by kernel_rfl
abbrev VP:KN:=(akV,ab8)
theorem aCm [ax]:SC (akZ ak1):=sc (kS (k:=VO VP) (.c aJE (.nil _)) [3] [] ⟨kL (atF VP),trivial⟩ trivial (aCl VP))
def Yq:=qa (pr (cu aN (c jW (c xF (c acU fM)))) cq)
def HP:=qe (res (pr (o9 (c acW (c ahW (cl (ra (cu at9 (cu aQ (cu aQ (cu aQ (c gi (c gi (cl gi (cu aQ (cu aQ (cu aQ (cu aKr nil)))))))))))) nil)))) (pl k9 nil)))
abbrev Yr:=HP.B
abbrev Ys:=NI->NI->NI->Int->Int->Int->Int->Bool->Option Yr
def Yt (g:Ys):Ct:=(250,FC Yq (lf HP) (λb=>g b.1.1 b.1.2.1.1 b.1.2.1.2 b.1.b.1.1 b.1.b.1.2.1 b.1.b.1.b b.1.b.2 b.2))
def KO (aM:eI)(gm:Kv)(bQ:kQ)(bK:fk)(x0:Nat->Int)(x1:Nat->Int)(x2:Nat->Int)(x3:Int)(x4:Int)(x5:Int)(x6:Int)(x7:Bool):Pg Yr:=opt (aM x0 x7) λd=>opt (gm d.1 4 3 d.2 (cr x3 [x5,x4,x3]) false) λd=>let n3:=d.1.2;let n2:=d.2.1;let n1:=d.2.2;opt bQ λaj=>ae (Nat.ble 3 n3) (opt (bK x1 x2 4 3 n2 (cr x6 [x6,x6,x6]) true) λaI=>ret (((d.1,n2,n3,n1).1.1,aI.1,n1 0,n1 1,n1 2),aI.2)) (ae (Nat.ble 2 n3) (opt (bK x1 x2 4 3 n2 (cr x6 [x6,x6,x6]) true) λaI=>ret (((d.1,n2,n3,n1).1.1,aI.1,n1 0,n1 1,0),aI.2)) (ae (Nat.ble 1 n3) (opt (bK x1 x2 4 3 n2 (cr x6 [x6,x6,x6]) true) λaI=>ret (((d.1,n2,n3,n1).1.1,aI.1,n1 0,0,0),aI.2)) (opt (bK x1 x2 4 3 n2 (cr x6 [x6,x6,x6]) true) λaI=>ret (((d.1,n2,n3,n1).1.1,aI.1,0,0,0),aI.2))))
def vZ:=λx0 x1 x2 x3 x4 x5 x6 x7=>(KO bT iX dJ cN x0 x1 x2 x3 x4 x5 x6 x7).val
theorem atG:∀aM gm bQ bK,D0 [ix aM,Kw gm,oQ bQ,xZ bK] 250 Yq (lf HP) λb=>KO aM gm bQ bK b.1.1 b.1.2.1.1 b.1.2.1.2 b.1.b.1.1 b.1.b.1.2.1 b.1.b.1.b b.1.b.2 b.2:=λ_ _ _ _ b=>by kernel_rfl
theorem atH [ax]:SC (Yt vZ):=s0 (.c ji (.c Ve (.c ti (.c CX (.nil _))))) (atG bT iX dJ cN)
def RO:=qa (pr (cu aN (c jW (c xF Cz))) cq)
def Di:=qe (res (pr (o9 (c acW (c ahW (cl (ra (cu at9 (cu aQ (cu aQ (cu aQ (cu aQ (cu aQ (cu aQ (c gi (c gi (cl gi aKx))))))))))) nil)))) (pl k9 nil)))
abbrev RP:=Di.B
abbrev RQ:=NI->NI->NI->Int->Int->Int->Bool->Option RP
def RR (g:RQ):Ct:=(251,FC RO (lf Di) (λb=>g b.1.1 b.1.2.1.1 b.1.2.1.2 b.1.b.1 b.1.b.2.1 b.1.c b.2))
def Ft (aM:eI)(gm:Kv)(bQ:kQ)(bK:fk)(x0:Nat->Int)(x1:Nat->Int)(x2:Nat->Int)(x3:Int)(x4:Int)(x5:Int)(x6:Bool):Pg RP:=opt (aM x0 x6) λd=>opt (gm d.1 7 2 d.2 (cr x3 [x4,x3]) true) λd=>let n3:=d.1.2;let n2:=d.2.1;let n1:=d.2.2;opt bQ λaj=>ae (Nat.ble 3 n3) (opt (bK x1 x2 7 2 n2 (cr x5 [x5,x5]) true) λaI=>ret (((d.1,n2,n3,n1).1.1,aI.1,n1 0,n1 1,n1 2),aI.2)) (ae (Nat.ble 2 n3) (opt (bK x1 x2 7 2 n2 (cr x5 [x5,x5]) true) λaI=>ret (((d.1,n2,n3,n1).1.1,aI.1,n1 0,n1 1,0),aI.2)) (ae (Nat.ble 1 n3) (opt (bK x1 x2 7 2 n2 (cr x5 [x5,x5]) true) λaI=>ret (((d.1,n2,n3,n1).1.1,aI.1,n1 0,0,0),aI.2)) (opt (bK x1 x2 7 2 n2 (cr x5 [x5,x5]) true) λaI=>ret (((d.1,n2,n3,n1).1.1,aI.1,0,0,0),aI.2))))
def rv:=λx0 x1 x2 x3 x4 x5 x6=>(Ft bT iX dJ cN x0 x1 x2 x3 x4 x5 x6).val
theorem amy:∀aM gm bQ bK,D0 [ix aM,Kw gm,oQ bQ,xZ bK] 251 RO (lf Di) λb=>Ft aM gm bQ bK b.1.1 b.1.2.1.1 b.1.2.1.2 b.1.b.1 b.1.b.2.1 b.1.c b.2:=λ_ _ _ _ b=>by kernel_rfl
theorem amz [ax]:SC (RR rv):=s0 (.c ji (.c Ve (.c ti (.c CX (.nil _))))) (amy bT iX dJ cN)
def ag0:=qa (pr (cu aN (c jW (c xF FZ))) cq)
def MU:=qe (res (pr (o9 (c acW (c ahW (cl (ra (cu at9 (cu aQ (cu aQ (cu aQ (cu aQ (cu aQ (cu aQ (cu aQ (cu aQ (cl gi (cu (gc aKn) nil)))))))))))) nil)))) (pl k9 nil)))
abbrev ag1:=MU.B
abbrev ag2:=NI->NI->NI->Int->Int->Bool->Option ag1
def ag3 (g:ag2):Ct:=(252,FC ag0 (lf MU) (λb=>g b.1.1 b.1.2.1.1 b.1.2.1.2 b.1.b.1 b.1.b.2 b.2))
def Rf (aM:eI)(gm:Kv)(bQ:kQ)(bK:fk)(x0:Nat->Int)(x1:Nat->Int)(x2:Nat->Int)(x3:Int)(x4:Int)(x5:Bool):Pg ag1:=opt (aM x0 x5) λd=>opt (gm d.1 9 1 d.2 (λj=>bif Nat.beq j 0 then x3 else x3) true) λd=>opt bQ λaj=>ae (Nat.ble 1 d.1.2) (opt (bK x1 x2 9 1 d.2.1 (λj=>bif Nat.beq j 0 then x4 else x4) true) λaI=>ret (((d.1,d.2.1,d.1.2,d.2.2).1.1,aI.1,d.2.2 0),aI.2)) (opt (bK x1 x2 9 1 d.2.1 (λj=>bif Nat.beq j 0 then x4 else x4) true) λaI=>ret (((d.1,d.2.1,d.1.2,d.2.2).1.1,aI.1,0),aI.2))
def A7:=λx0 x1 x2 x3 x4 x5=>(Rf bT iX dJ cN x0 x1 x2 x3 x4 x5).val
theorem azp:∀aM gm bQ bK,D0 [ix aM,Kw gm,oQ bQ,xZ bK] 252 ag0 (lf MU) λb=>Rf aM gm bQ bK b.1.1 b.1.2.1.1 b.1.2.1.2 b.1.b.1 b.1.b.2 b.2:=λ_ _ _ _ b=>by kernel_rfl
theorem azq [ax]:SC (ag3 A7):=s0 (.c ji (.c Ve (.c ti (.c CX (.nil _))))) (azp bT iX dJ cN)
def Dj:=qa (pl (cl (aa xG) nil) nil)
def aff:=qe BB
abbrev ak2:=aff.B
abbrev ak3:=Dj.B->Option ak2
def ak4 (g:ak3):Ct:=(13,FC Dj (lf aff) g)
def iY:=qs (st (pr (us 1 (cu aHN (cu Cy (us 3 (xs 1 (cu aPP (us 4 (cu aP7 (us 4 (cu aP8 (us 4 (cu Cy (us 4 (c ab (us 3 (cl ai (us 26 aQ7))))))))))))))))) (pl (cl (so (c gi (c gi (c gi (c gi (c gi (c gi (c gi (c gi (c gi (c gi (c gi (c gi (c gi (c gi (c gi (c gi aK4))))))))))))))))) nil) nil)))
def ag4:=qs (st (pu (us 2 (cu Cy (us 119 nil))) (pu nil nil)))
def ag5:=qs (st (pr (us 1 (cu aHN (cu Cy (us 3 (xs 1 (cu aPP (us 4 (cu aP7 (us 4 (cu aP8 (us 4 (cu Cy (us 4 (c ab (us 3 (c ai (cl ab (us 25 aQ7)))))))))))))))))) (pl (cl (so (c gi (c gi (c gi (c gi (c gi (c gi (c gi (c gi (c gi (c gi (c gi (c gi (c gi (c gi (c gi (c gi aK4))))))))))))))))) nil) nil)))
abbrev sM:=ag4.B⊕ag5.B
def aoK {ρ:Type}(x:sM)(K:AX->St->Option ρ):Option ρ:=(Sum.elim (λd=>K .ret (ag4.em d)) (λd=>K (.ex 2) (ag5.em d))) x
def N9 (eQ:yp)(d:iY.B):PL iY sM:=let n2:=d.1.2;let n1:=d.2.2.2.2.2.2.2.2.2.2.2.2.2.2.2.2.2;let y0:=Int.toNat n2;let y1:=aW n2 24;let y2:=Nat.ble (0+y0*1+1) 24;let y3:=decide (n2<24);ae y3 (ae y1 (ae y2 (opt (eQ (n1.1 y0) 0 72057594037927936) λaj=>ae (!aj) (ret (Sum.inr (Sum.inl ()))) (ae y1 (ae y2 (opt (eQ (n1.2.1 y0) 1 72057594037927936) λaI=>ae (!aI) (ret (Sum.inr (Sum.inl ()))) (ret (Sum.inl ((d.1.1,wI (n2+1)),d.2)))) no) no)) no) no) (ret (Sum.inr (Sum.inr ((d.1.1,n2,y3),d.2))))
def GC:=bA (N9 lV) 2000
def Yu (eQ:yp)(aHd:afc)(qX:LT iY sM)(x:Dj.B):Pg ak2:=let n2:=x.2.2.2.2;let n8:=n2.2.1;let n4:=n8.2.2;let n3:=n2.1.2.2;let n7:=n3.2.2;ae (decide (n2.1.1<1)) (ret false) (ae (decide (n2.1.1>1000)) (ret false) (opt (eQ n8.1 1 1099511627776) λd=>ae (!d) (ret false) (ae (decide (n2.1.2.1<1)) (ret false) (ae (decide (n2.1.2.1>1000)) (ret false) (opt (eQ n8.2.1 1 1099511627776) λd=>ae (!d) (ret false) (ae (decide (n3.1<1)) (ret false) (ae (decide (n3.1>1000)) (ret false) (opt (eQ n4.1 1 1099511627776) λd=>ae (!d) (ret false) (ae (decide (n3.2.1<1)) (ret false) (ae (decide (n3.2.1>1000)) (ret false) (opt (eQ n4.2.1 1 1099511627776) λd=>ae (!d) (ret false) (ae (decide (n7.1<1)) (ret false) (ae (decide (n7.1>1000)) (ret false) (opt (eQ n4.2.2.1 1 1099511627776) λd=>ae (!d) (ret false) (ae (decide (n7.2<1)) (ret false) (ae (decide (n7.2>1000)) (ret false) (opt (eQ n4.2.2.2 1 1099511627776) λd=>ae (!d) (ret false) (opt (qX ((d,0),x.1,x.2.1,x.2.2.1,x.2.2.2.1,n2.1.1,n2.1.2.1,n3.1,n3.2.1,n7.1,n7.2,n8.1,n8.2.1,n4.1,n4.2.1,n4.2.2.1,n4.2.2.2,n2.2.2)) λx=>sum x (λd=>ret false) λd=>let n6:=d.2.2.2;let n1:=n6.2.2.2.2.2.2.2.2.2.2.2.2.2.2.2.2;let n5:=n1.2.2.2.2;opt (aHd n5.2.1 n5.2.2.1 n5.2.2.2) λaj=>sm aj (λd=>ret false) (λaI=>opt (eQ d.2.1 1000 100000) λbp=>ae bp (opt (eQ d.2.2.1 0 300000) λcg=>ae cg (ae (decide (n6.1>=1)) (ae (decide (n6.1<=64)) (ae (decide (n6.2.1>=0)) (ae (decide (n6.2.1<=100)) (opt (eQ n1.1 0 1099511627776) λdF=>ae dF (opt (eQ n1.2.1 1 72057594037927936) λcH=>ae cH (ae (decide (n1.2.2.1>=0)) (ae (decide (n1.2.2.1<=3)) (opt (eQ n1.2.2.2.1 1 1073741824) λln=>ae ln (ae (decide (n5.1>=1)) (ret (decide (n5.1<=64))) (ret false)) (ret false)) (ret false)) (ret false)) (ret false)) (ret false)) (ret false)) (ret false)) (ret false)) (ret false)) (ret false)) (ret false))))))))))))))))))))
def yQ:=λx=>(Yu lV vY GC x).val
abbrev Yv:=yp×afc×(LT iY sM)
def ak5 (p:Yv):KK:=⟨[VM p.1,atE p.2.1],⟨[⟨2,(0::3::4::rg 8 4 (13::14::15::21::rg 29 8 (38::39::40::rg 48 10 [61,62,66,67,71,72,76,77,81,82,86,87,91,92,96,97,101,102,106,107,111,112,116,117,121]))),[]⟩,⟨8,(0::3::4::5::rg 8 4 (rg 13 4 (rg 18 4 (rg 23 4 (28::29::30::rg 32 5 (38::39::40::rg 48 10 (61::62::66::67::71::72::76::77::81::82::86::87::91::92::96::97::101::102::106::107::111::112::116::117::121::37::rg 41 7 []))))))),[]⟩],[fH 8 0 iY aoK p.b],[],[],(some ⟨0,(0::1::rg 3 119 []),[]⟩)⟩,0,13⟩
theorem aCn (p:Yv):LI (ak5 p) 8 iY aoK (N9 p.1):=λ_ d c K=>by kernel_rfl
theorem aJF (p:Yv):D2 (ak5 p) Dj (lf aff) λb=>Yu p.1 p.2.1 p.b b:=λb=>by kernel_rfl
abbrev ak6:Yv:=(lV,vY,GC)
theorem ayc [ax]:SC (ak4 yQ):=sc (kS (k:=ak5 ak6) (.c akT (.c aHc (.nil _))) [2,8] [] ⟨kN,⟨kL (aCn ak6),trivial⟩⟩ trivial (aJF ak6))
def ab9:=qa (dp (cu aN (c ai (c FY at6))) λa=>(c ux (cl (cl (gs a.2.1.1 mB) nil) nil)))
def KP:=qe aFB
abbrev aca:=KP.B
abbrev acb:=Int->Nat->Nat->Bool->NI->Bool->Bool->Option aca
def acd (g:acb):Ct:=(73,sE 3 [.i .i64] (sE 2 [.i .i64] (FC ab9 (lf KP) (λb=>g b.1.1 b.1.2.1.1 b.1.b.1 b.2.1 b.b b.1.2.1.2 b.1.b.2))))
def nS:=qs (st (dp (cu aN (c ai (c FY (c FY (us 5 (cu av6 aPY)))))) λa=>(pl (c ch (c (so (cl (gs a.2.1.1 mB) nil)) YR)) cy)))
def aql:=qs (st (pr (cu aN (c ai (c FY (c FY (us 5 (cu av6 aP2)))))) (pl (c ch (c Hp YR)) cy)))
abbrev Aa:=(aPe×Bool×NI×Int×Int)
def VQ {ρ:Type}(x:Aa)(K:AX->St->Option ρ):Option ρ:=(λd=>K (.ex 0) (aql.em (d.1,d.2.1,(d.1.2.1.1,d.b.1),d.b.2))) x
def Ac (aw:bC)(cA:mC)(vI:pT)(d:nS.B):PL nS Aa:=let y0:=decide (d.1.2.2.2.2<d.1.2.2.2.1);ae y0 (ae (aW d.1.2.2.2.2 d.1.2.1.1) (opt (aw (d.2.2.1 (Int.toNat d.1.2.2.2.2)) d.2.1) λaj=>ae (aW d.1.2.2.2.2 d.1.2.2.1.1) (opt (aw (d.2.2.1 (Int.toNat d.1.2.2.2.2)) aj.2) λaI=>opt (cA aj.1 aI.1) λbp=>opt (vI 2 (λj=>bif Nat.beq j 1 then bp.1 else bif Nat.beq j 0 then d.2.2.2.1 else d.2.2.2.1) (λj=>bif Nat.beq j 1 then bp.2 else bif Nat.beq j 0 then d.2.2.2.2 else d.2.2.2.2) true) λcg=>ret (Sum.inl ((d.1.1,d.1.2.1,d.1.2.2.1,d.1.2.2.2.1,wI (d.1.2.2.2.2+1)),aI.2,d.2.2.1,cg.1))) no) no) (ret (Sum.inr ((d.1.1,d.1.2.1,d.1.2.2.1,d.1.2.2.2.1,d.1.2.2.2.2,y0),d.2)))
def HQ:=bA (Ac aO eN jl) 2000
def MV (hO:vg)(dI:LT nS Aa)(x0:Int)(x1:Nat)(x2:Nat)(x3:Bool)(x4:Nat->Int)(w0:Bool)(w1:Bool):Pg aca:=let y0:=if Int.ofNat x2<Int.ofNat x1 then Int.ofNat x2 else Int.ofNat x1;ae (decide (x0<0)) (opt (hO 0 0 x0 x3) λd=>ret d) (ae (decide (x0>120)) (opt (hO 0 0 x0 x3) λd=>ret d) (ae (Nat.beq x1 x1) (opt (dI ((x0,(x1,w0),(x2,w1),if 100<y0 then 100 else y0,0),x3,x4,0,0)) λd=>opt (hO d.2.2.2.1 d.2.2.2.2 d.1.1 d.2.1) λd=>ret d) no))
def tn:=λx0 x1 x2 x3 x4 w0 w1=>(MV mc HQ x0 x1 x2 x3 x4 w0 w1).val
abbrev Er:=vg×bC×mC×pT×(LT nS Aa)
def MW (p:Er):KK:=⟨[GP p.1,cU p.2.1,vA p.b.1,IA p.b.2.1],⟨[⟨5,(rg 4 5 (rg 10 15 (rg 27 26 []))),[]⟩],[fH 5 2 nS VQ p.c],[0],[],(some ⟨0,(rg 0 8 (rg 9 44 [])),[]⟩)⟩,2,73⟩
theorem amA (p:Er):LI (MW p) 5 nS VQ (Ac p.2.1 p.b.1 p.b.2.1):=λ_ d c K=>by kernel_rfl
theorem avB (p:Er):D2 (MW p) ab9 (lf KP) λb=>MV p.1 p.c b.1.1 b.1.2.1.1 b.1.b.1 b.2.1 b.b b.1.2.1.2 b.1.b.2:=λb=>by kernel_rfl
abbrev MX:Er:=(mc,aO,eN,jl,HQ)
theorem avC [ax]:SC (acd tn):=sc (Sound.nil 3 [.i .i64]<|Sound.nil 2 [.i .i64]<|kS (k:=MW MX) (.c Qb (.c cY (.c yM (.c Ox (.nil _))))) [5] [] ⟨kL (amA MX),trivial⟩ trivial (avB MX))
def VR:=qa (pr (cu aN (c jW Cz)) cq)
def Fu:=qe az9
abbrev VS:=Fu.B
abbrev VT:=NI->Int->Int->Int->Bool->Option VS
def VU (g:VT):Ct:=(234,FC VR (lf Fu) (λb=>g b.1.1 b.1.2.1 b.1.b.1 b.1.b.2 b.2))
def HR (bz:ky)(Es:acb)(py:Zp)(aU:cO)(cR:vH)(aD:cv)(x0:Nat->Int)(x1:Int)(x2:Int)(x3:Int)(x4:Bool):Pg VS:=opt (bz x0 16) λd=>opt (Es 30 2 2 x4 (cr d.1 [d.2.1,d.1]) false false) λaj=>ae (decide (aj.1<1048576)) (ret (((λx=>0,0,0,0),4),aj.2)) (opt (py d.2.1 d.1 aj.2) λaI=>opt (aU x1 aI.1 aI.2) λbp=>opt (cR bp.1) λcg=>opt (aD d.2.1 aj.1 30 bp.2) λdF=>opt (aD d.1 aj.1 30 dF.2) λd=>ret (((λj=>bif Nat.beq j 17 then d.1 else bif Nat.beq j 16 then wI (0-dF.1) else 0,cg,x2,x3),0),d.2))
def tN:=λx0 x1 x2 x3 x4=>(HR ee tn wB bD jx bk x0 x1 x2 x3 x4).val
theorem aqm:∀bz Es py aU cR aD,D0 [pn bz,acd Es,Zq py,gD aU,zp cR,fI aD] 234 VR (lf Fu) λb=>HR bz Es py aU cR aD b.1.1 b.1.2.1 b.1.b.1 b.1.b.2 b.2:=λ_ _ _ _ _ _ b=>by kernel_rfl
theorem aqn [ax]:SC (VU tN):=s0 (.c sH (.c avC (.c anI (.c iv (.c D5 (.c gC (.nil _))))))) (aqm ee tn wB bD jx bk)
def jF:=qa (pr (cl aK5 (cu aN (cu (app 1 10) nil))) (cu aKj (c EY cq)))
def rf:=qe (res (pr (aa auh) (pl aKB nil)))
abbrev Cf:=rf.B
abbrev mW:=jF.B->Option Cf
def rP (g:mW):Ct:=(180,FC jF (lf rf) g)
def rQ (dq:zz)(gL:yP)(eo:vM)(bm:gR)(x:jF.B):Pg Cf:=let n2:=x.2.1;let n6:=n2.1.2;let n1:=x.1.2;let n5:=n1.1.2;let n4:=n1.2.2;let n3:=n1.2.1;opt (dq 2 x.2.2 (cr n3.1 [n2.2.1.1,n3.1]) (cr n3.2.1 [n2.2.1.2.1,n3.2.1]) (cr n3.2.2 [n2.2.1.2.2,n3.2.2]) true) λd=>opt (dq 2 d.2 (cr n4.1 [n2.2.2.1,n4.1]) (cr n4.2.1 [n2.2.2.2.1,n4.2.1]) (cr n4.2.2 [n2.2.2.2.2,n4.2.2]) true) λaj=>opt gL λaI=>ae (!(n2.1.1==1073741824&&(n6.1==0&&(n6.2.1==0&&(n6.2.2==0&&true))))) (opt (eo n2.1.1 n6.1 n6.2.1 n6.2.2 n1.1.1 n5.1 n5.2.1 n5.2.2 aj.2) λbp=>opt (bm bp.1.1 bp.1.2.1 bp.1.2.2.1 bp.1.2.2.2 bp.2) λcg=>ret ((x.1.1,cg.1.1,cg.1.2.1,cg.1.2.2.1,cg.1.2.2.2,d.1.1,d.1.2.1,d.1.2.2,aj.1),cg.2)) (ret ((x.1.1,n1.1.1,n5.1,n5.2.1,n5.2.2,d.1.1,d.1.2.1,d.1.2.2,aj.1),aj.2))
def gG:=λx=>(rQ jq mE ke cV x).val
theorem SK:∀dq gL eo bm,D0 [HE dq,ID gL,CU eo,mh bm] 180 jF (lf rf) λb=>rQ dq gL eo bm b:=λ_ _ _ _ b=>by kernel_rfl
theorem Cg [ax]:SC (rP gG):=s0 (.c Ml (.c OD (.c IE (.c nu (.nil _))))) (SK jq mE ke cV)
def iz:=qa (pr (cl aK5 (cu aN (cu aHL (cu (app 2 1) (cu ahR (cu (app 4 4) nil)))))) (cu (cu (gp 5 1) nil) (c ld (cu (cu (gp 6 3) nil) (c ld (c acX (c ux (cd aFz λb6=>(cl (cl (gs b6.b gA) nil) nil)))))))))
def oR:=qe (res (pr (aa auh) (pl (cu eT (cu eT (cu eT (cu eT (cu eT (cl aqX at4)))))) nil)))
abbrev yR:=oR.B
abbrev lu:=iz.B->Option yR
def pY (g:lu):Ct:=(183,FC iz (lf oR) g)
def pZ (gS:So)(dq:zz)(eo:vM)(bm:gR)(x:iz.B):Pg yR:=let n3:=x.1.2.1;let n2:=x.2.2;let n1:=x.1.2.2;opt (gS x.2.1.1 x.2.1.2.1 x.2.1.2.2 n2.2.2.2.1.2.1 n2.2.2.1) λd=>opt (dq 2 d.2 (cr n1.1.1 [d.1.1,n1.1.1]) (cr n1.1.2.1 [d.1.2.1,n1.1.2.1]) (cr n1.1.2.2 [d.1.2.2,n1.1.2.2]) true) λd=>opt (gS n2.1.1 n2.1.2.1 n2.1.2.2 n2.2.2.2.1.2.1 d.2) λaj=>opt (dq 2 aj.2 (cr n1.2.1 [aj.1.1,n1.2.1]) (cr n1.2.2.1 [aj.1.2.1,n1.2.2.1]) (cr n1.2.2.2 [aj.1.2.2,n1.2.2.2]) true) λaI=>opt (eo n2.2.1.1 n2.2.1.2.1 n2.2.1.2.2.1 n2.2.1.2.2.2 n3.1 n3.2.1 n3.2.2.1 n3.2.2.2 aI.2) λbp=>opt (bm bp.1.1 bp.1.2.1 bp.1.2.2.1 bp.1.2.2.2 bp.2) λcg=>ret ((x.1.1,cg.1.1,cg.1.2.1,cg.1.2.2.1,cg.1.2.2.2,d.1.1,d.1.2.1,d.1.2.2,aI.1),cg.2)
def fA:=λx=>(pZ rK jq ke cV x).val
theorem OZ:∀gS dq eo bm,D0 [Sp gS,HE dq,CU eo,mh bm] 183 iz (lf oR) λb=>pZ gS dq eo bm b:=λ_ _ _ _ b=>by kernel_rfl
theorem yS [ax]:SC (pY fA):=s0 (.c ad3 (.c Ml (.c IE (.c nu (.nil _))))) (OZ rK jq ke cV)
def jG:=qa (pu (cu FX (cu Oj (cu aK7 nil))) (cd aFz λb0=>(c ux (cu azX (c ld (cu aPC (c ld (c acX (cl (cl (gs b0.b gA) nil) nil)))))))))
def ri:=qe (res (pu Tc (pl (cu eT (c aqX (cu eT (cu eT (cu eT aQS))))) nil)))
abbrev rR:=ri.B
abbrev rS:=jG.B->Option rR
def Ci (g:rS):Ct:=(179,FC jG (lf ri) g)
def cJ:=qs (st (dp (cu FX (cu Oj (cu aK7 (us 8 (c (ac (wz 7 11)) aKs))))) λv=>(pl (c (so aFz) (c ch (cu YP (c wA (cu at8 (c wA (c uC (cl (so (cl (gs v.1 gA) nil)) nil)))))))) (cu (nat 7) aEe))))
def O0:=qs (st (pr (cu FX (cu Oj (cu aK7 (us 8 (c (ac (wz 7 11)) aKy))))) (pl (c (so aFz) (c ch (cu YP (c wA (cu at8 (c wA (c uC Hq))))))) (cu (nat 7) aEe))))
abbrev fB:=((Nat×Int×Int×Bool)×BY×Bool×qB×qB×aD6×NI×NI×NI×NI×NI×NI×NI×NI×NI×NI×NI)
def yT {ρ:Type}(x:fB)(K:AX->St->Option ρ):Option ρ:=(λd=>K (.ex 0) (O0.em (d.1,d.2.1,d.b.1,d.b.2.1,d.c.1,d.c.2.1,d.1.1,d.c.b))) x
def p5 (sL:By)(iO:rN)(O1:lu)(d:cJ.B):PL cJ fB:=let bg:=d.2.1;let n6:=d.1.2;let n5:=d.2.2.2;let n1:=n5.2.2.2;let n8:=n1.2.2;let n2:=n8.2.2.2;let n7:=n2.2.2.2;let y0:=Int.toNat n6.2;let y1:=decide (n6.2<n6.1);ae y1 (ae (aW n6.2 d.1.1) (ae (Nat.beq bg.2.2 bg.2.2) (opt (O1 ((n1.1 y0,(n1.2.1 y0,n8.1 y0,n8.2.1 y0,n8.2.2.1 y0),(n2.1 y0,n2.2.1 y0,n2.2.2.1 y0),n7.1 y0,n7.2.1 y0,n7.2.2 y0),n5.1,n5.2.1,n5.2.2.1,d.2.2.1,bg,n1)) λaj=>let n3:=aj.1.2.2.2.2;let n9:=n3.2.2.2;opt (sL (λx=>0) aj.1.1 aj.1.2.1 aj.1.2.2.1 aj.1.2.2.2.1 n3.1 n3.2.1 n3.2.2.1 n9.1 n9.2.1 n9.2.2.1 n9.2.2.2) λaI=>opt (iO aI (n1.1 y0) aj.2) λbp=>let n4:=bp.1.2.2.2.2;let bc:=n4.2.2.2;ae (aW n6.2 bg.2.2) (ae (true&&Nat.ble (0+y0*11+11) (d.1.1*11+0)) (ret (Sum.inl ((d.1.1,n6.1,wI (n6.2+1)),bg,bp.2,n5.1,n5.2.1,n5.2.2.1,λj=>bif Nat.beq j y0 then bp.1.1 else n1.1 j,λj=>bif Nat.beq j y0 then bp.1.2.1 else n1.2.1 j,λj=>bif Nat.beq j y0 then bp.1.2.2.1 else n8.1 j,λj=>bif Nat.beq j y0 then bp.1.2.2.2.1 else n8.2.1 j,λj=>bif Nat.beq j y0 then n4.1 else n8.2.2.1 j,λj=>bif Nat.beq j y0 then n4.2.1 else n2.1 j,λj=>bif Nat.beq j y0 then n4.2.2.1 else n2.2.1 j,λj=>bif Nat.beq j y0 then bc.1 else n2.2.2.1 j,λj=>bif Nat.beq j y0 then bc.2.1 else n7.1 j,λj=>bif Nat.beq j y0 then bc.2.2.1 else n7.2.1 j,λj=>bif Nat.beq j y0 then bc.2.2.2 else n7.2.2 j))) no) no) no) no) (ret (Sum.inr ((d.1.1,n6.1,n6.2,y1),d.2)))
def p6:=bA (p5 pB kT fA) 2000
def rT (dI:LT cJ fB)(x:jG.B):Pg rR:=ae (Nat.beq x.1.2.2 x.1.2.2) (opt (dI ((x.1.2.2,Int.ofNat x.1.2.2,0),x)) λd=>ret (d.2.2.1,d.1.1,d.2.2.2.2.2.2)) no
def jH:=λx=>(rT p6 x).val
abbrev mX:=By×rN×lu×(LT cJ fB)
def rU (p:mX):KK:=⟨[NZ p.1,Eo p.2.1,pY p.b.1],⟨[⟨1,(rg 3 8 (rg 14 20 [])),[]⟩],[fH 1 8 cJ yT p.b.2],[7,1],[],(some ⟨0,(rg 0 34 []),[]⟩)⟩,8,179⟩
theorem MY (p:mX):LI (rU p) 1 cJ yT (p5 p.1 p.2.1 p.b.1):=λ_ d c K=>by kernel_rfl
theorem SL (p:mX):D2 (rU p) jG (lf ri) λb=>rT p.b.2 b:=λb=>by kernel_rfl
abbrev rV:mX:=(pB,kT,fA,p6)
theorem SM [ax]:SC (Ci jH):=sc (kS (k:=rU rV) (.c aaD (.c KL (.c yS (.nil _)))) [1] [] ⟨kL (MY rV),trivial⟩ trivial (SL rV))
def jI:=qa (pu (cu FX (cu Oj (cu aKN nil))) (cd aKC λb0=>(c ux (cu azX (c EY (cl (cl (gs b0.b gA) nil) nil))))))
def rj:=qe (res (pu Tc (pl (cu eT (c aqX aQS)) nil)))
abbrev rW:=rj.B
abbrev rX:=jI.B->Option rW
def Cj (g:rX):Ct:=(179,FC jI (lf rj) g)
def cK:=qs (st (dp (cu FX (cu Oj (cu aKN (us 8 (c (ac (wz 4 11)) aKs))))) λv=>(pl (c (so aKC) (c ch (cu YP (c (so EY) (cl (so (cl (gs v.1 gA) nil)) nil))))) (cu rq6 aEe))))
def O2:=qs (st (pr (cu FX (cu Oj (cu aKN (us 8 (c (ac (wz 4 11)) aKy))))) (pl (c (so aKC) (c ch (cu YP (c (so EY) Hq)))) (cu rq6 aEe))))
abbrev fC:=((Nat×Int×Int×Bool)×BY×Bool×LJ×NI×NI×NI×NI×NI×NI×NI×NI×NI×NI×NI)
def yU {ρ:Type}(x:fC)(K:AX->St->Option ρ):Option ρ:=(λd=>K (.ex 0) (O2.em (d.1,d.2.1,d.b.1,d.b.2.1,d.1.1,d.c))) x
def p7 (sL:By)(iO:rN)(SN:mW)(d:cK.B):PL cK fC:=let n6:=d.1.2;let n4:=d.2.2.2.2;let n1:=n4.2.2.2;let n9:=n1.2.2;let n5:=n9.2.2;let y0:=Int.toNat n6.2;let y1:=decide (n6.2<n6.1);ae y1 (ae (aW n6.2 d.1.1) (opt (SN ((n4.1 y0,(n4.2.1 y0,n4.2.2.1 y0,n1.1 y0,n1.2.1 y0),(n9.1 y0,n9.2.1 y0,n5.1 y0),n5.2.1 y0,n5.2.2.1 y0,n5.2.2.2 y0),d.2.2.2.1,d.2.2.1)) λaj=>let n2:=aj.1.2.2.2.2;let n7:=n2.2.2.2;opt (sL (λx=>0) aj.1.1 aj.1.2.1 aj.1.2.2.1 aj.1.2.2.2.1 n2.1 n2.2.1 n2.2.2.1 n7.1 n7.2.1 n7.2.2.1 n7.2.2.2) λaI=>opt (iO aI (n4.1 y0) aj.2) λbp=>let n3:=bp.1.2.2.2.2;let n8:=n3.2.2.2;ae (aW n6.2 d.2.1.2.2) (ae (true&&Nat.ble (0+y0*11+11) (d.1.1*11+0)) (ret (Sum.inl ((d.1.1,n6.1,wI (n6.2+1)),d.2.1,bp.2,d.2.2.2.1,λj=>bif Nat.beq j y0 then bp.1.1 else n4.1 j,λj=>bif Nat.beq j y0 then bp.1.2.1 else n4.2.1 j,λj=>bif Nat.beq j y0 then bp.1.2.2.1 else n4.2.2.1 j,λj=>bif Nat.beq j y0 then bp.1.2.2.2.1 else n1.1 j,λj=>bif Nat.beq j y0 then n3.1 else n1.2.1 j,λj=>bif Nat.beq j y0 then n3.2.1 else n9.1 j,λj=>bif Nat.beq j y0 then n3.2.2.1 else n9.2.1 j,λj=>bif Nat.beq j y0 then n8.1 else n5.1 j,λj=>bif Nat.beq j y0 then n8.2.1 else n5.2.1 j,λj=>bif Nat.beq j y0 then n8.2.2.1 else n5.2.2.1 j,λj=>bif Nat.beq j y0 then n8.2.2.2 else n5.2.2.2 j))) no) no) no) (ret (Sum.inr ((d.1.1,n6.1,n6.2,y1),d.2)))
def p8:=bA (p7 pB kT gG) 2000
def rY (dI:LT cK fC)(x:jI.B):Pg rW:=ae (Nat.beq x.1.2.2 x.1.2.2) (opt (dI ((x.1.2.2,Int.ofNat x.1.2.2,0),x)) λd=>ret (d.2.2.1,d.1.1,d.2.2.2.2)) no
def jJ:=λx=>(rY p8 x).val
abbrev mY:=By×rN×mW×(LT cK fC)
def rZ (p:mY):KK:=⟨[NZ p.1,Eo p.2.1,rP p.b.1],⟨[⟨1,(rg 3 8 (rg 14 20 [])),[]⟩],[fH 1 5 cK yU p.b.2],[4,1],[],(some ⟨0,(rg 0 34 []),[]⟩)⟩,5,179⟩
theorem MZ (p:mY):LI (rZ p) 1 cK yU (p7 p.1 p.2.1 p.b.1):=λ_ d c K=>by kernel_rfl
theorem SO (p:mY):D2 (rZ p) jI (lf rj) λb=>rY p.b.2 b:=λb=>by kernel_rfl
abbrev r8:mY:=(pB,kT,gG,p8)
theorem SP [ax]:SC (Cj jJ):=sc (kS (k:=rZ r8) (.c aaD (.c KL (.c Cg (.nil _)))) [1] [] ⟨kL (MZ r8),trivial⟩ trivial (SO r8))
def kW:=qa (dp (cu FX (cu Oj (cl aPn nil))) λv=>(cd aFy λb0=>(c ux (c (cl (gs v.1 jP) nil) (cl (cl (gs b0.b gA) nil) nil)))))
def tO:=qe (res (pu Tc (pl (cu eT (c aqX (cu eT aLa))) nil)))
abbrev uO:=tO.B
abbrev uP:=kW.B->Option uO
def EJ (g:uP):Ct:=(112,sE 2 [.i .i64,.i .i64,.i .i64,.i .i64,.i .i64,.i .i64,.i .i64,.i .i64,.i .i64,.i .i64] (FC kW (lf tO) g))
def cW:=qs (st (dp (cu FX (us 3 (cu azV (us 3 (c aPn (c ai aKl)))))) λv=>(pl (cd (so aFy) λb0=>(c ch (c (so (cl (gs v.1.1 jP) nil)) (cl (so (cl (gs b0.b gA) nil)) (cu YP nil))))) (cu rq7 aEe))))
def SQ:=qs (st (pr (cu FX (us 3 (cu azV (us 3 (c aPn (c ai aFq)))))) (pl (c (so aFy) (c ch (c pL (cl YV (cu YP nil))))) (cu rq7 aEe))))
abbrev gH:=(aHG×BY×Bool×aMA×NI×NI×NI×NI×NI×NI×NI×NI×NI×NI×NI)
def Ck {ρ:Type}(x:gH)(K:AX->St->Option ρ):Option ρ:=(λd=>K (.ex 0) (SQ.em (d.1,d.2.1,d.b.1,(d.1.1.1,d.b.2.1),d.2.1.b,d.c))) x
def r9 (SS:rX)(d:cW.B):PL cW gH:=let bc:=d.2.1;let n6:=d.1.2;let n1:=d.2.2.2;let n4:=n1.1.2.2.2.2;let n3:=n1.2.2.2.2.2;let n9:=n3.2.2.2;let y0:=Int.toNat n6.2;let y1:=bc.2.2*11;let y2:=decide (n6.2<n6.1);ae y2 (ae (aW n6.2 d.1.1.1) (ae (Nat.beq bc.2.2 bc.2.2) (opt (SS (bc,d.2.2.1,((n1.1.1 y0,n1.1.2.1 y0,n1.1.2.2.1 y0,n1.1.2.2.2.1 y0),(n4.1 y0,n4.2.1 y0,n4.2.2.1 y0),n4.2.2.2.1 y0,n4.2.2.2.2.1 y0,n4.2.2.2.2.2 y0),n1.2)) λaj=>let n7:=aj.2.2.2;let n5:=aj.2.1;let n2:=n7.2.2.2;let n8:=n2.2.2.2;let y0:=n5*11+0;ae (true&&Nat.beq y0 y1&&true) (ae (true&&Nat.ble (0+y0) (y1+0)) (ret (Sum.inl ((d.1.1,n6.1,wI (n6.2+1)),bc,aj.1,n1.1,λj=>bif true&&Nat.blt j (0+n5) then aj.2.2.1 j else n1.2.1 j,λj=>bif true&&Nat.blt j (0+n5) then n7.1 j else n1.2.2.1 j,λj=>bif true&&Nat.blt j (0+n5) then n7.2.1 j else n1.2.2.2.1 j,λj=>bif true&&Nat.blt j (0+n5) then n7.2.2.1 j else n1.2.2.2.2.1 j,λj=>bif true&&Nat.blt j (0+n5) then n2.1 j else n3.1 j,λj=>bif true&&Nat.blt j (0+n5) then n2.2.1 j else n3.2.1 j,λj=>bif true&&Nat.blt j (0+n5) then n2.2.2.1 j else n3.2.2.1 j,λj=>bif true&&Nat.blt j (0+n5) then n8.1 j else n9.1 j,λj=>bif true&&Nat.blt j (0+n5) then n8.2.1 j else n9.2.1 j,λj=>bif true&&Nat.blt j (0+n5) then n8.2.2.1 j else n9.2.2.1 j,λj=>bif true&&Nat.blt j (0+n5) then n8.2.2.2 j else n9.2.2.2 j))) no) no) no) no) (ret (Sum.inr ((d.1.1,n6.1,n6.2,y2),d.2)))
def sd:=bA (r9 jJ) 2000
def uQ (dI:LT cW gH)(x:kW.B):Pg uO:=ae (Nat.beq x.1.1 x.1.1) (ae (Nat.beq x.2.1.2.2 x.2.1.2.2) (opt (dI ((x.1,Int.ofNat x.1.1,0),x.2)) λd=>ret (d.2.2.1,d.2.1.2.2,d.2.2.2.2)) no) no
def kX:=λx=>(uQ sd x).val
abbrev oo:=mW×rX×(LT cW gH)
def uR (p:oo):KK:=⟨[rP p.1,Cj p.2.1],⟨[⟨2,(1::2::3::5::6::7::rg 11 8 []),[]⟩],[fH 2 4 cW Ck p.b],[3,1],[],(some ⟨0,(rg 0 19 []),[]⟩)⟩,4,112⟩
theorem Rg (p:oo):LI (uR p) 2 cW Ck (r9 p.2.1):=λ_ d c K=>by kernel_rfl
theorem WU (p:oo):D2 (uR p) kW (lf tO) λb=>uQ p.b b:=λb=>by kernel_rfl
abbrev uS:oo:=(gG,jJ,sd)
theorem WV [ax]:SC (EJ kX):=sc (Sound.nil 2 [.i .i64,.i .i64,.i .i64,.i .i64,.i .i64,.i .i64,.i .i64,.i .i64,.i .i64,.i .i64]<|kS (k:=uR uS) (.c Cg (.c SP (.nil _))) [2] [] ⟨kL (Rg uS),trivial⟩ trivial (WU uS))
def VV:=qa (pl fM nil)
def Fv:=qe BB
abbrev VW:=Fv.B
abbrev VX:=Int->Option VW
def VY (g:VX):Ct:=(204,FC VV (lf Fv) (λb=>g b))
def HS (x0:Int):Pg VW:=ret (x0 !=x0)
def tP:=λx0=>(HS x0).val
theorem aqo:D0 [] 204 VV (lf Fv) λb=>HS b:=λb=>by kernel_rfl
theorem aqp [ax]:SC (VY tP):=s0 (.nil _) aqo
def O3:=qa (pl FZ nil)
def BO:=qe EU
abbrev O4:=BO.B
abbrev v7:=Int->Int->Option O4
def Dk (g:v7):Ct:=(143,FC O3 (lf BO) (λb=>g b.1 b.2))
def Dl (tQ:VX)(x0:Int)(x1:Int):Pg O4:=opt (tQ x0) λd=>opt (tQ x1) λaj=>ae d (ae aj (ret 0) (ret (-1))) (ae aj (ret 1) (ae (decide (x0<x1)) (ret (-1)) (ae (decide (x0>x1)) (ret 1) (ret 0))))
def kq:=λx0 x1=>(Dl tP x0 x1).val
theorem ak7:∀tQ,D0 [VY tQ] 143 O3 (lf BO) λb=>Dl tQ b.1 b.2:=λ_ b=>by kernel_rfl
theorem O5 [ax]:SC (Dk kq):=s0 (.c aqp (.nil _)) (ak7 tP)
def yV:=qa (dp (c Tg at6) λv=>(c (cl (gs v.1.1 mB) nil) (cl (cl (gs v.2.1 mB) nil) nil)))
def oS:=qe aKD
abbrev yW:=oS.B
abbrev yX:=Nat->Nat->NI->NI->Bool->Bool->Option yW
def yY (g:yX):Ct:=(144,sE 1 [.i .i64] (sE 0 [.i .i64] (FC yV (lf oS) (λb=>g b.1.1.1 b.1.2.1 b.2.1 b.b b.1.1.2 b.1.b))))
def cm:=qs (st (dp (c Tg (c FY (us 7 (c Tg (c ai aFl))))) λv=>(pl (c (so (cl (gs v.1.1 mB) nil)) (cl (so (cl (gs v.2.1.1 mB) nil)) nil)) nil)))
def uB:=qs (st (pr (us 4 aPD) (pl (c Hp ahV) nil)))
def I':=qs (st (pr (c Tg (c FY (us 7 (c Tg (c ai aFs))))) (pl (c Hp ahV) nil)))
abbrev eR:=uB.B⊕(((Nat×Bool)×(Nat×Bool)×(Nat×Bool)×Int×Int×Bool)×NI×NI)
def xu {ρ:Type}(x:eR)(K:AX->St->Option ρ):Option ρ:=(Sum.elim (λd=>K .ret (uB.em d)) (λd=>K (.ex 0) (I'.em (d.1,(d.1.1.1,d.2.1),d.1.2.1.1,d.b)))) x
def oe (mK:v7)(d:cm.B):PL cm eR:=let n1:=d.1.2;let n2:=n1.2.2;let y0:=Int.toNat n2.2;let y1:=decide (n2.2<n2.1);ae y1 (ae (aW n2.2 n1.2.1.1) (ae (decide (n2.2>=Int.ofNat n1.1.1)) (ret (Sum.inr (Sum.inl (1,(d.1.1.1,d.2.1),n1.1.1,d.2.2)))) (ae (aW n2.2 n1.1.1) (opt (mK (d.2.1 y0) (d.2.2 y0)) λaj=>ae (aj !=0) (ret (Sum.inr (Sum.inl (aj,(d.1.1.1,d.2.1),n1.1.1,d.2.2)))) (ret (Sum.inl ((d.1.1,n1.1,n1.2.1,n2.1,wI (n2.2+1)),d.2)))) no)) no) (ret (Sum.inr (Sum.inr ((d.1.1,n1.1,n1.2.1,n2.1,n2.2,y1),d.2))))
def og:=bA (oe kq) 2000
def p9 (dI:LT cm eR)(x0:Nat)(x1:Nat)(x2:Nat->Int)(x3:Nat->Int)(w0:Bool)(w1:Bool):Pg yW:=ae (Nat.beq x0 x0) (ae (Nat.beq x1 x1) (opt (dI (((x0,w0),(x1,w1),(x0,w0),Int.ofNat x0,0),x2,x3)) λx=>sum x (λd=>ret d.1) λd=>ae (decide (Int.ofNat d.1.1.1<Int.ofNat d.1.2.1.1)) (ret (-1)) (ret 0)) no) no
def fD:=λx0 x1 x2 x3 w0 w1=>(p9 og x0 x1 x2 x3 w0 w1).val
abbrev lx:=v7×(LT cm eR)
def qc (p:lx):KK:=⟨[Dk p.1],⟨[⟨2,(rg 2 7 (rg 12 24 [])),[]⟩],[fH 2 2 cm xu p.2],[],[],(some ⟨0,(rg 0 4 (rg 5 31 [])),[]⟩)⟩,2,144⟩
theorem KQ (p:lx):LI (qc p) 2 cm xu (oe p.1):=λ_ d c K=>by kernel_rfl
theorem O6 (p:lx):D2 (qc p) yV (lf oS) λb=>p9 p.2 b.1.1.1 b.1.2.1 b.2.1 b.b b.1.1.2 b.1.b:=λb=>by kernel_rfl
abbrev qd:lx:=(kq,og)
theorem O7 [ax]:SC (yY fD):=sc (Sound.nil 1 [.i .i64]<|Sound.nil 0 [.i .i64]<|kS (k:=qc qd) (.c O5 (.nil _)) [2] [] ⟨kL (KQ qd),trivial⟩ trivial (O6 qd))
def A8:=qa (pl (c aFF BC) nil)
def M0:=qe EU
abbrev ag6:=M0.B
abbrev Hf:=A8.B->Option ag6
def Rh (g:Hf):Ct:=(96,FC A8 (lf M0) g)
def Ri (mK:v7)(ly:yX)(x:A8.B):Pg ag6:=let n2:=x.2.2.2.2;let n1:=x.1.2.2.2;opt (mK x.1.1 x.2.1) λd=>ae (d !=0) (ret d) (opt (ly 8 8 (cr x.1.2.1 [n1.2.2.2.2.2,n1.2.2.2.2.1,n1.2.2.2.1,n1.2.2.1,n1.2.1,n1.1,x.1.2.2.1,x.1.2.1]) (cr x.2.2.1 [n2.2.2.2.2.2,n2.2.2.2.2.1,n2.2.2.2.1,n2.2.2.1,n2.2.1,n2.1,x.2.2.2.1,x.2.2.1]) false false) λd=>ret d)
def rm:=λx=>(Ri kq fD x).val
theorem azr:∀mK ly,D0 [Dk mK,yY ly] 96 A8 (lf M0) λb=>Ri mK ly b:=λ_ _ b=>by kernel_rfl
theorem ag7 [ax]:SC (Rh rm):=s0 (.c O5 (.c O7 (.nil _))) (azr kq fD)
def cE:=qa (dp (c aPo (cl aFF (cu aKo nil))) λv=>(cl (cl (gs v.1.1 ay) nil) nil))
def dz:=qe (res (pl aKv (pu Xc nil)))
abbrev gM:=dz.B
abbrev gN:=cE.B->Option gM
def gO (g:gN):Ct:=(95,sE 0 [.i .i64,.i .i64,.i .i64,.i .i64,.i .i64,.i .i64,.i .i64,.i .i64,.i .i64] (FC cE (lf dz) g))
def bo:=qs (st (dp (c aPo (us 1 (cu aKo (us 1 (cu aEa (us 3 (c ai (c ai (cl ai (us 29 aPE)))))))))) λv=>(pl (c (so (cl (gs v.1.1 ay) nil)) aQA) nil)))
def nV:=qs (st (pr (c aPo (us 1 (cu aKo (us 1 (cu aEa (us 3 (c ai (c ai (c ai (us 4 (c ai (c ai (cl ab (us 22 aPE)))))))))))))) (pl (c uF aQA) nil)))
abbrev cx:=(((Nat×Bool)×Int×Int×Int×Bool)×dt×Int×Int×Int×Int×Int×Int×Int×Int×Int)
def gw {ρ:Type}(x:cx)(K:AX->St->Option ρ):Option ρ:=(λd=>K (.ex 0) (nV.em ((d.1.1,d.1.2.1,d.1.b.1,d.1.b.2.1,d.1.b),(d.1.1.1,d.2.1),d.b))) x
def gx (A9:Hf)(d:bo.B):PL bo cx:=let n2:=d.1.2.2;let n1:=d.2.1.2.2.2;let y0:=wI (Int.fdiv (wU (wI (n2.1+n2.2))) 2);let y1:=Int.toNat y0;let y2:=decide (n2.1<n2.2);ae y2 (ae (aW y0 d.1.1.1) (opt (A9 ((d.2.1.1 y1,d.2.1.2.1 y1,d.2.1.2.2.1 y1,n1.1 y1,n1.2.1 y1,n1.2.2.1 y1,n1.2.2.2.1 y1,n1.2.2.2.2.1 y1,n1.2.2.2.2.2 y1),d.2.2)) λaj=>ae (decide (aj<0)) (ret (Sum.inl ((d.1.1,d.1.2.1,wI (y0+1),n2.2),d.2))) (ret (Sum.inl ((d.1.1,d.1.2.1,n2.1,y0),d.2)))) no) (ret (Sum.inr ((d.1.1,d.1.2.1,n2.1,n2.2,y2),d.2)))
def gy:=bA (gx rm) 2000
def gP (A9:Hf)(dI:LT bo cx)(x:cE.B):Pg gM:=let y0:=Int.ofNat x.1.1.1;ae (Nat.beq x.1.1.1 x.1.1.1) (opt (dI ((x.1.1,y0,0,y0),x.2,x.1.2)) λd=>let n2:=d.1.2.2.1;let n1:=d.2.1.2.2.2;let y0:=Int.toNat n2;ae (decide (n2<d.1.2.1)) (ae (aW n2 d.1.1.1) (opt (A9 ((d.2.1.1 y0,d.2.1.2.1 y0,d.2.1.2.2.1 y0,n1.1 y0,n1.2.1 y0,n1.2.2.1 y0,n1.2.2.2.1 y0,n1.2.2.2.2.1 y0,n1.2.2.2.2.2 y0),d.2.2)) λaj=>ret (n2,aj==0)) no) (ret (n2,false))) no
def dC:=λx=>(gP rm gy x).val
abbrev cF:=Hf×(LT bo cx)
def dD (p:cF):KK:=⟨[Rh p.1],⟨[⟨3,(1::3::5::6::7::rg 11 29 [48]),[]⟩],[fH 3 1 bo gw p.2],[],[],(some ⟨0,(rg 0 6 (rg 8 41 [])),[]⟩)⟩,1,95⟩
theorem nE (p:cF):LI (dD p) 3 bo gw (gx p.1):=λ_ d c K=>by kernel_rfl
theorem oE (p:cF):D2 (dD p) cE (lf dz) λb=>gP p.1 p.2 b:=λb=>by kernel_rfl
abbrev dE:cF:=(rm,gy)
theorem oF [ax]:SC (gO dC):=sc (Sound.nil 0 [.i .i64,.i .i64,.i .i64,.i .i64,.i .i64,.i .i64,.i .i64,.i .i64,.i .i64]<|kS (k:=dD dE) (.c ag7 (.nil _)) [3] [] ⟨kL (nE dE),trivial⟩ trivial (oE dE))
def Ad:=qa (pr (cu Te BC) (cd ac1 λb0=>(cl (cl (gs b0.b.1 ay) nil) nil)))
def LC:=qe (res (pu Cy (pl (cl (AF ac1) Xc) nil)))
def ahF:=qe (res (pr ab (pr (cl (AF (a 5 iy (c gi (c (gc (wz 2 9)) kD)))) aHM) (cl YU nil))))
abbrev HT:=LC.B⊕(Bool×dh×NI×NI×NI×NI×NI×NI×NI×NI×NI)
def VZ:HT->T:=ls (lf LC) (λd=>lf ahF (d.1,d.2.1,d.2.1.b.1,d.b))
abbrev HU:=Ad.B->Option HT
def V0 (g:HU):Ct:=(58,FC Ad VZ g)
def V1 (cG:gN)(gq:pO)(cB:fV)(x:Ad.B):Pg HT:=let bg:=x.2.2;let n5:=x.1.2;let n4:=bg.2.2.2;let n3:=x.2.1;let n9:=n3.1.2;let n7:=n3.2.2;let n1:=n5.2.2.2;let n6:=n1.2.2;let y0:=wI (n3.1.1+1);let y1:=Nat.beq n7.1 n7.1;ae (decide (x.1.1<=n7.2)) (ret (Sum.inl ((y0,wI (n9.1+1),n9.2),n3.2))) (ae y1 (opt (cG (((n7.1,true),x.1),bg)) λd=>ae y1 (opt (gq n7.1 d.1 bg.1 bg.2.1 bg.2.2.1 n4.1 n4.2.1 n4.2.2.1 n4.2.2.2.1 n4.2.2.2.2.1 n4.2.2.2.2.2 (λj=>bif Nat.beq j 0 then x.1.1 else x.1.1) (λj=>bif Nat.beq j 0 then n5.1 else n5.1) (λj=>bif Nat.beq j 0 then n5.2.1 else n5.2.1) (λj=>bif Nat.beq j 0 then n5.2.2.1 else n5.2.2.1) (λj=>bif Nat.beq j 0 then n1.1 else n1.1) (λj=>bif Nat.beq j 0 then n1.2.1 else n1.2.1) (λj=>bif Nat.beq j 0 then n6.1 else n6.1) (λj=>bif Nat.beq j 0 then n6.2.1 else n6.2.1) (λj=>bif Nat.beq j 0 then n6.2.2 else n6.2.2) 1 true true) λd=>let n8:=d.2.2;let n2:=n8.2.2.2;let bc:=n2.2.2;ae (decide (Int.ofNat d.1<=n3.2.1)) (ret (Sum.inr (true,((y0,n9),n3.2.1,d.1,n7.2),d.2))) (ae (aW 0 d.1) (ae (Nat.beq d.1 d.1) (opt (cB d.1 0 1 d.2.1 n8.1 n8.2.1 n8.2.2.1 n2.1 n2.2.1 bc.1 bc.2.1 bc.2.2 true) λaj=>ret (Sum.inr (!(d.2.1 0==x.1.1&&(n8.1 0==n5.1&&(n8.2.1 0==n5.2.1&&(n8.2.2.1 0==n5.2.2.1&&(n2.1 0==n1.1&&(n2.2.1 0==n1.2.1&&(bc.1 0==n6.1&&(bc.2.1 0==n6.2.1&&(bc.2.2 0==n6.2.2&&true)))))))&&true)),((y0,n9.1,wI (n9.2.1+1),n9.2.2),n3.2.1,aj.1,n7.2),aj.2))) no) no)) no) no)
def HV:=λx=>(V1 dC jZ cz x).val
theorem aqq:∀cG A9 gq cB,D0 [gO cG,Rh A9,pP gq,j6 cB] 58 Ad VZ λb=>V1 cG gq cB b:=λ_ _ _ _ b=>by kernel_rfl
theorem aqr [ax]:SC (V0 HV):=s0 (.c oF (.c ag7 (.c CJ (.c pR (.nil _))))) (aqq dC rm jZ cz)
def tT:=qa (pr (cu Te fM) (cd ac1 λb0=>(cl (cl (gs b0.b.1 ay) nil) nil)))
def amB:=qe (res (pr (ac (wz 2 9)) (pr (cl (AF (a 5 iy (c gi (c (gc (wz 3 9)) kD)))) aHM) (c YU (cl YU nil)))))
abbrev Ae:=(Nat×dh×dt×NI×NI×NI×NI×NI×NI×NI×NI×NI)
def V2:Ae->T:=λd=>lf amB (d.1,d.2.1,(d.1,d.b.1),d.2.1.b.1,d.b.2)
abbrev HW:=tT.B->Option Ae
def V3 (g:HW):Ct:=(108,FC tT V2 g)
def fw:=qs (st (pr (cu Te (c ai (us 3 (cl ai (us 58 nil))))) (pl (cd (so ac1) λb0=>(cl (so (cl (gs b0.b.1 ay) nil)) nil)) nil)))
def afg:=qs (st (pr (cu Te (c ai (us 3 (c ai (us 1 (c ai (cu Te (cu Te (cu aKG (c aPp (c ai (c ab (cu apg (cu Te (cu Te (cu aKG (c aPp (c ai (c (ac (Ol (pu Cw (pl aP1 m5)))) (c (ac (Ol (pu Cw (pl aP1 Cw)))) (c ai (c ai (c ab aPB))))))))))))))))))))))) (pl (c (so ac1) (cl uF nil)) nil)))
def afh:=qs (st (pr (cu Te (c ai (us 3 (c ai (us 1 (c ai (cu Te (cu Te (cu aKG (c aPp (c ai (cl ab (cu Cy (xs 10 (cu Cy (us 38 nil)))))))))))))))) (pl (c (so ac1) (cl uF nil)) nil)))
abbrev mL:=((Int×Int×Nat×Int×Bool×Nat×Int×Bool)×(aPf×Int×Int)×NI×NI×NI×NI×NI×NI×NI×NI×NI)⊕((Int×Int×Nat×Int×Bool)×(aPf×Int×Int)×NI×NI×NI×NI×NI×NI×NI×NI×NI)
def O8 {ρ:Type}(x:mL)(K:AX->St->Option ρ):Option ρ:=(Sum.elim (λd=>K (.ex 0) (afg.em ((d.1.1,d.1.2.1,d.1.2.1,d.1.b.1,d.1.b.2.1,d.1.c.1,d.1.b.1,d.1.2.1,d.1.c.2.1,d.1.c.2.1,d.1.c.b.1,d.1.1,d.1.c.b.2,d.1.c.b.2),(d.2.1.1,d.2.1.2.1,d.1.b.1,d.2.1.b),d.1.b.1,d.b))) (λd=>K (.ex 0) (afh.em ((d.1.1,d.1.2.1,d.1.2),(d.2.1.1,d.2.1.2.1,d.1.b.1,d.2.1.b),d.1.b.1,d.b)))) x
def Dm (d:fw.B):PL fw mL:=let n3:=d.1.2;let n2:=d.2.1.2.2;let n1:=(d.2.1.1,d.2.1.2.1,n2.2);let y0:=Int.toNat n3;let y1:=Int.ofNat n2.1;let y2:=decide (n3<y1);let y3:=decide (d.2.2.1 y0<=d.1.1);ae y2 (ae (aW n3 n2.1) (ae y3 (ret (Sum.inl ((d.1.1,wI (n3+1)),d.2))) (ret (Sum.inr (Sum.inl ((d.1.1,n3,n2.1,y1,y2,y0,d.2.2.1 y0,y3),n1,d.2.2))))) no) (ret (Sum.inr (Sum.inr ((d.1.1,n3,n2.1,y1,y2),n1,d.2.2))))
def Dn:=bA (Dm) 2000
def HX (qP:kG)(cB:fV)(dI:LT fw mL)(x:tT.B):Pg Ae:=ae (Nat.beq x.2.1.2.2.1 x.2.1.2.2.1) (opt (dI ((x.1,0),x.2)) λx=>sum x (λd=>let n9:=d.2.2;let n6:=d.2.1;let n5:=d.1.2;let n1:=n9.2.2.2;let n3:=n1.2.2.2;let y0:=Int.toNat n5.1;ae (Ir n5.1 n5.2.1) (ae (Nat.beq y0 y0) (opt (qP y0 n9.1 n9.2.1 n9.2.2.1 n1.1 n1.2.1 n1.2.2.1 n3.1 n3.2.1 n3.2.2 false) λaj=>ae (Nat.beq n5.2.1 n5.2.1) (opt (cB n5.2.1 0 n5.1 n9.1 n9.2.1 n9.2.2.1 n1.1 n1.2.1 n1.2.2.1 n3.1 n3.2.1 n3.2.2 true) λaI=>ret (aj.1,((n6.1.1,n6.1.2.1,n6.1.2.2.1,n6.1.2.2.2.1,wI (n6.1.2.2.2.2+n5.1)),n6.2.1,aI.1,if d.1.1>n6.2.2 then d.1.1 else n6.2.2),aj.2,aI.2)) no) no) no) λd=>let bc:=d.2.2;let n8:=d.2.1;let n7:=d.1.2;let n2:=bc.2.2.2;let n4:=n2.2.2.2;let y0:=Int.toNat n7.1;ae (Ir n7.1 n7.2.1) (ae (Nat.beq y0 y0) (opt (qP y0 bc.1 bc.2.1 bc.2.2.1 n2.1 n2.2.1 n2.2.2.1 n4.1 n4.2.1 n4.2.2 false) λaj=>ae (Nat.beq n7.2.1 n7.2.1) (opt (cB n7.2.1 0 n7.1 bc.1 bc.2.1 bc.2.2.1 n2.1 n2.2.1 n2.2.2.1 n4.1 n4.2.1 n4.2.2 true) λaI=>ret (aj.1,((n8.1.1,n8.1.2.1,n8.1.2.2.1,n8.1.2.2.2.1,wI (n8.1.2.2.2.2+n7.1)),n8.2.1,aI.1,if d.1.1>n8.2.2 then d.1.1 else n8.2.2),aj.2,aI.2)) no) no) no) no
def tU:=λx=>(HX eC cz Dn x).val
abbrev Af:=kG×fV×(LT fw mL)
def HY (p:Af):KK:=⟨[qG p.1,j6 p.2.1],⟨[⟨2,(2::3::4::rg 6 9 (rg 25 39 (rg 15 10 []))),[]⟩],[fH 2 2 fw O8 p.b],[],[],(some ⟨0,(rg 0 4 (rg 5 59 [])),[]⟩)⟩,2,108⟩
theorem ahG (p:Af):LI (HY p) 2 fw O8 (Dm):=λ_ d c K=>by kernel_rfl
theorem aqs (p:Af):D2 (HY p) tT V2 λb=>HX p.1 p.2.1 p.b b:=λb=>by kernel_rfl
abbrev HZ:Af:=(eC,cz,Dn)
theorem aqt [ax]:SC (V3 tU):=sc (kS (k:=HY HZ) (.c DX (.c pR (.nil _))) [2] [] ⟨kL (ahG HZ),trivial⟩ trivial (aqs HZ))
def KR:=qa (pr (cl (aa (c gi az3)) (cu aN (cu Oj (cu (app 2 1) nil)))) (cu (cu (gc (ccl (pu (nat 194) (pu rq7 (pu xE Cw))))) nil) (c kD (c kD (cu (cu (gp 4 1) nil) cq)))))
def yw:=qe (res (pr ai (pl (cu eT (cu eT aKB)) nil)))
abbrev KS:=yw.B
abbrev KU:=Int->Int->Int->Int->Int->Int->Int->Int->Int->Bool->Option KS
def KV (g:KU):Ct:=(195,FC KR (lf yw) (λb=>g b.1.1 b.1.2.1 b.1.b.1 b.1.b.2.1 b.1.c.1 b.1.c.2.1 b.1.c.b b.2.1 b.b.1 b.b.2))
def Ag (ao:zj)(x0:Int)(x1:Int)(x2:Int)(x3:Int)(x4:Int)(x5:Int)(x6:Int)(x7:Int)(x8:Int)(x9:Bool):Pg KS:=let y0:=wI (x7+1);let y1:=wI (x0*1073741824);let y2:=wI (x5*1073741824);let y3:=wI (x4*1073741824);let y4:=wI (x6*1073741824);let y5:=wI (x2*1073741824);let y6:=wI (x1*1073741824);let y7:=wI (x3*1073741824);let y8:=aW y0 7;let y9:=y0==1;let tV:=y0==4;let tW:=y0==6;let w7:=y0==2;let w9:=y0==3;let xc:=y0==5;ae (aW x7 7) (ae (x7==6) (ae y8 (ae tW (opt (ao y4 y4 x8 600000000 x9) λd=>ret d) (ae xc (opt (ao y4 y2 x8 600000000 x9) λd=>ret d) (ae tV (opt (ao y4 y3 x8 600000000 x9) λd=>ret d) (ae w9 (opt (ao y4 y7 x8 600000000 x9) λd=>ret d) (ae w7 (opt (ao y4 y5 x8 600000000 x9) λd=>ret d) (ae y9 (opt (ao y4 y6 x8 600000000 x9) λd=>ret d) (opt (ao y4 y1 x8 600000000 x9) λd=>ret d))))))) no) (ae (x7==5) (ae y8 (ae tW (opt (ao y2 y4 x8 600000000 x9) λd=>ret d) (ae xc (opt (ao y2 y2 x8 600000000 x9) λd=>ret d) (ae tV (opt (ao y2 y3 x8 600000000 x9) λd=>ret d) (ae w9 (opt (ao y2 y7 x8 600000000 x9) λd=>ret d) (ae w7 (opt (ao y2 y5 x8 600000000 x9) λd=>ret d) (ae y9 (opt (ao y2 y6 x8 600000000 x9) λd=>ret d) (opt (ao y2 y1 x8 600000000 x9) λd=>ret d))))))) no) (ae (x7==4) (ae y8 (ae tW (opt (ao y3 y4 x8 600000000 x9) λd=>ret d) (ae xc (opt (ao y3 y2 x8 600000000 x9) λd=>ret d) (ae tV (opt (ao y3 y3 x8 600000000 x9) λd=>ret d) (ae w9 (opt (ao y3 y7 x8 600000000 x9) λd=>ret d) (ae w7 (opt (ao y3 y5 x8 600000000 x9) λd=>ret d) (ae y9 (opt (ao y3 y6 x8 600000000 x9) λd=>ret d) (opt (ao y3 y1 x8 600000000 x9) λd=>ret d))))))) no) (ae (x7==3) (ae y8 (ae tW (opt (ao y7 y4 x8 600000000 x9) λd=>ret d) (ae xc (opt (ao y7 y2 x8 600000000 x9) λd=>ret d) (ae tV (opt (ao y7 y3 x8 600000000 x9) λd=>ret d) (ae w9 (opt (ao y7 y7 x8 600000000 x9) λd=>ret d) (ae w7 (opt (ao y7 y5 x8 600000000 x9) λd=>ret d) (ae y9 (opt (ao y7 y6 x8 600000000 x9) λd=>ret d) (opt (ao y7 y1 x8 600000000 x9) λd=>ret d))))))) no) (ae (x7==2) (ae y8 (ae tW (opt (ao y5 y4 x8 600000000 x9) λd=>ret d) (ae xc (opt (ao y5 y2 x8 600000000 x9) λd=>ret d) (ae tV (opt (ao y5 y3 x8 600000000 x9) λd=>ret d) (ae w9 (opt (ao y5 y7 x8 600000000 x9) λd=>ret d) (ae w7 (opt (ao y5 y5 x8 600000000 x9) λd=>ret d) (ae y9 (opt (ao y5 y6 x8 600000000 x9) λd=>ret d) (opt (ao y5 y1 x8 600000000 x9) λd=>ret d))))))) no) (ae (x7==1) (ae y8 (ae tW (opt (ao y6 y4 x8 600000000 x9) λd=>ret d) (ae xc (opt (ao y6 y2 x8 600000000 x9) λd=>ret d) (ae tV (opt (ao y6 y3 x8 600000000 x9) λd=>ret d) (ae w9 (opt (ao y6 y7 x8 600000000 x9) λd=>ret d) (ae w7 (opt (ao y6 y5 x8 600000000 x9) λd=>ret d) (ae y9 (opt (ao y6 y6 x8 600000000 x9) λd=>ret d) (opt (ao y6 y1 x8 600000000 x9) λd=>ret d))))))) no) (ae y8 (ae tW (opt (ao y1 y4 x8 600000000 x9) λd=>ret d) (ae xc (opt (ao y1 y2 x8 600000000 x9) λd=>ret d) (ae tV (opt (ao y1 y3 x8 600000000 x9) λd=>ret d) (ae w9 (opt (ao y1 y7 x8 600000000 x9) λd=>ret d) (ae w7 (opt (ao y1 y5 x8 600000000 x9) λd=>ret d) (ae y9 (opt (ao y1 y6 x8 600000000 x9) λd=>ret d) (opt (ao y1 y1 x8 600000000 x9) λd=>ret d))))))) no))))))) no
def nF:=λx0 x1 x2 x3 x4 x5 x6 x7 x8 x9=>(Ag iG x0 x1 x2 x3 x4 x5 x6 x7 x8 x9).val
theorem afi:∀ao,D0 [zk ao] 195 KR (lf yw) λb=>Ag ao b.1.1 b.1.2.1 b.1.b.1 b.1.b.2.1 b.1.c.1 b.1.c.2.1 b.1.c.b b.2.1 b.b.1 b.b.2:=λ_ b=>by kernel_rfl
theorem afj [ax]:SC (KV nF):=s0 (.c JD (.nil _)) (afi iG)
def RT:=qa (pu nil nil)
def Dp:=qe (res (pu (aa (cu aPQ (cu (gc (cf (fi .i64 (int 6000)))) (cu (gc (cf (fi .i64 (int (-2000))))) (cu (gc (cf (fi .i64 (int (-1500))))) (cu (gc (cf (fi .i64 (int (-6000))))) (cu (gc (cf (fi .i64 (int (-9000))))) (cu aPQ (cu aPR (cu (gc (cf (fi .i64 (int 2500)))) (cu aFu (cu (gc (cf (fi .i64 (int (-2200))))) (cu (gc (cf (fi .i64 (int (-3800))))) (cu aQ (cu aPR (cu aPS (cu (gc (cf (fi .i64 (int 900)))) (cu (gc (cf (fi .i64 (int (-1400))))) (cu (gc (cf (fi .i64 (int (-500))))) (cu (gc (cf (fi .i64 (int (-300))))) (cu aPT (cu aPS (cu aFu (cu (gc (cf (fi .i64 (int 1500)))) (cu (gc (cf (fi .i64 (int (-1700))))) (cu aPT (cu (gc (cf (fi .i64 (int 700)))) (cu (gc (cf (fi .i64 (int (-800))))) (cu aFu (cu aPU (cu (gc (cf (fi .i64 (int 4000)))) (cu (gc (cf (fi .i64 (int (-3000))))) (cu aFu (cu (gc (cf (fi .i64 (int 3500)))) (cu (gc (cf (fi .i64 (int (-1200))))) (cu aPU nil)))))))))))))))))))))))))))))))))))) (pu nil nil)))
abbrev Fw:=Dp.B
abbrev Fx:=Option Fw
def Fy (g:Fx):Ct:=(193,FC RT (lf Dp) (λ_=>g))
def Fz:Pg Fw:=ret ()
def lq:Option Fw:=(Fz).val
theorem amC:D0 [] 193 RT (lf Dp) λb=>Fz:=λb=>by kernel_rfl
theorem RU [ax]:SC (Fy lq):=s0 (.nil _) amC
def O9:=qa (pr (cu aN EX) cq)
def BP:=qe aKS
abbrev O':=BP.B
abbrev Pb:=Int->Int->Int->Bool->Option O'
def Pc (g:Pb):Ct:=(120,FC O9 (lf BP) (λb=>g b.1.1 b.1.2.1 b.1.b b.2))
def Dq (cw:sK)(gU:Fx)(ao:zj)(aK:KU)(aq:bU)(x0:Int)(x1:Int)(x2:Int)(x3:Bool):Pg O':=let y0:=wI (x0+900000000);let y1:=wI (x1+1800000000);let y2:=wI (Int.tdiv y0 450000000);let y3:=wI (Int.tdiv y1 600000000);let y4:=if 3<y2 then 3 else y2;let y5:=if 5<y3 then 5 else y3;let y6:=wI (y4+1);let y7:=wI (y1-wI (y5*600000000));opt (cw x0 x1 x2) λd=>ae (!d) (ret ((0,1),x3)) (opt gU λd=>ae (aW y4 5) (ae (y4==4) (opt (aK 1000 4000 (-3000) 500 3500 (-1200) 1000 y5 y7 x3) λd=>ae (aW y6 5) (ae (y6==4) (opt (aK 1000 4000 (-3000) 500 3500 (-1200) 1000 y5 y7 d.2) λaj=>opt (ao d.1 aj.1 (wI (y0-wI (y4*450000000))) 450000000 aj.2) λd=>opt (aq d.1 3373259426 19327352832000 d.2) λd=>ret ((d.1,0),d.2)) (ae (y6==3) (opt (aK 500 1500 (-1700) 100 700 (-800) 500 y5 y7 d.2) λaj=>opt (ao d.1 aj.1 (wI (y0-wI (y4*450000000))) 450000000 aj.2) λd=>opt (aq d.1 3373259426 19327352832000 d.2) λd=>ret ((d.1,0),d.2)) (ae (y6==2) (opt (aK 950 900 (-1400) (-500) (-300) 100 950 y5 y7 d.2) λaj=>opt (ao d.1 aj.1 (wI (y0-wI (y4*450000000))) 450000000 aj.2) λd=>opt (aq d.1 3373259426 19327352832000 d.2) λd=>ret ((d.1,0),d.2)) (ae (y6==1) (opt (aK 2200 2500 500 (-2200) (-3800) 0 2200 y5 y7 d.2) λaj=>opt (ao d.1 aj.1 (wI (y0-wI (y4*450000000))) 450000000 aj.2) λd=>opt (aq d.1 3373259426 19327352832000 d.2) λd=>ret ((d.1,0),d.2)) (opt (aK 3000 6000 (-2000) (-1500) (-6000) (-9000) 3000 y5 y7 d.2) λaj=>opt (ao d.1 aj.1 (wI (y0-wI (y4*450000000))) 450000000 aj.2) λd=>opt (aq d.1 3373259426 19327352832000 d.2) λd=>ret ((d.1,0),d.2)))))) no) (ae (y4==3) (opt (aK 500 1500 (-1700) 100 700 (-800) 500 y5 y7 x3) λd=>ae (aW y6 5) (ae (y6==4) (opt (aK 1000 4000 (-3000) 500 3500 (-1200) 1000 y5 y7 d.2) λaj=>opt (ao d.1 aj.1 (wI (y0-wI (y4*450000000))) 450000000 aj.2) λd=>opt (aq d.1 3373259426 19327352832000 d.2) λd=>ret ((d.1,0),d.2)) (ae (y6==3) (opt (aK 500 1500 (-1700) 100 700 (-800) 500 y5 y7 d.2) λaj=>opt (ao d.1 aj.1 (wI (y0-wI (y4*450000000))) 450000000 aj.2) λd=>opt (aq d.1 3373259426 19327352832000 d.2) λd=>ret ((d.1,0),d.2)) (ae (y6==2) (opt (aK 950 900 (-1400) (-500) (-300) 100 950 y5 y7 d.2) λaj=>opt (ao d.1 aj.1 (wI (y0-wI (y4*450000000))) 450000000 aj.2) λd=>opt (aq d.1 3373259426 19327352832000 d.2) λd=>ret ((d.1,0),d.2)) (ae (y6==1) (opt (aK 2200 2500 500 (-2200) (-3800) 0 2200 y5 y7 d.2) λaj=>opt (ao d.1 aj.1 (wI (y0-wI (y4*450000000))) 450000000 aj.2) λd=>opt (aq d.1 3373259426 19327352832000 d.2) λd=>ret ((d.1,0),d.2)) (opt (aK 3000 6000 (-2000) (-1500) (-6000) (-9000) 3000 y5 y7 d.2) λaj=>opt (ao d.1 aj.1 (wI (y0-wI (y4*450000000))) 450000000 aj.2) λd=>opt (aq d.1 3373259426 19327352832000 d.2) λd=>ret ((d.1,0),d.2)))))) no) (ae (y4==2) (opt (aK 950 900 (-1400) (-500) (-300) 100 950 y5 y7 x3) λd=>ae (aW y6 5) (ae (y6==4) (opt (aK 1000 4000 (-3000) 500 3500 (-1200) 1000 y5 y7 d.2) λaj=>opt (ao d.1 aj.1 (wI (y0-wI (y4*450000000))) 450000000 aj.2) λd=>opt (aq d.1 3373259426 19327352832000 d.2) λd=>ret ((d.1,0),d.2)) (ae (y6==3) (opt (aK 500 1500 (-1700) 100 700 (-800) 500 y5 y7 d.2) λaj=>opt (ao d.1 aj.1 (wI (y0-wI (y4*450000000))) 450000000 aj.2) λd=>opt (aq d.1 3373259426 19327352832000 d.2) λd=>ret ((d.1,0),d.2)) (ae (y6==2) (opt (aK 950 900 (-1400) (-500) (-300) 100 950 y5 y7 d.2) λaj=>opt (ao d.1 aj.1 (wI (y0-wI (y4*450000000))) 450000000 aj.2) λd=>opt (aq d.1 3373259426 19327352832000 d.2) λd=>ret ((d.1,0),d.2)) (ae (y6==1) (opt (aK 2200 2500 500 (-2200) (-3800) 0 2200 y5 y7 d.2) λaj=>opt (ao d.1 aj.1 (wI (y0-wI (y4*450000000))) 450000000 aj.2) λd=>opt (aq d.1 3373259426 19327352832000 d.2) λd=>ret ((d.1,0),d.2)) (opt (aK 3000 6000 (-2000) (-1500) (-6000) (-9000) 3000 y5 y7 d.2) λaj=>opt (ao d.1 aj.1 (wI (y0-wI (y4*450000000))) 450000000 aj.2) λd=>opt (aq d.1 3373259426 19327352832000 d.2) λd=>ret ((d.1,0),d.2)))))) no) (ae (y4==1) (opt (aK 2200 2500 500 (-2200) (-3800) 0 2200 y5 y7 x3) λd=>ae (aW y6 5) (ae (y6==4) (opt (aK 1000 4000 (-3000) 500 3500 (-1200) 1000 y5 y7 d.2) λaj=>opt (ao d.1 aj.1 (wI (y0-wI (y4*450000000))) 450000000 aj.2) λd=>opt (aq d.1 3373259426 19327352832000 d.2) λd=>ret ((d.1,0),d.2)) (ae (y6==3) (opt (aK 500 1500 (-1700) 100 700 (-800) 500 y5 y7 d.2) λaj=>opt (ao d.1 aj.1 (wI (y0-wI (y4*450000000))) 450000000 aj.2) λd=>opt (aq d.1 3373259426 19327352832000 d.2) λd=>ret ((d.1,0),d.2)) (ae (y6==2) (opt (aK 950 900 (-1400) (-500) (-300) 100 950 y5 y7 d.2) λaj=>opt (ao d.1 aj.1 (wI (y0-wI (y4*450000000))) 450000000 aj.2) λd=>opt (aq d.1 3373259426 19327352832000 d.2) λd=>ret ((d.1,0),d.2)) (ae (y6==1) (opt (aK 2200 2500 500 (-2200) (-3800) 0 2200 y5 y7 d.2) λaj=>opt (ao d.1 aj.1 (wI (y0-wI (y4*450000000))) 450000000 aj.2) λd=>opt (aq d.1 3373259426 19327352832000 d.2) λd=>ret ((d.1,0),d.2)) (opt (aK 3000 6000 (-2000) (-1500) (-6000) (-9000) 3000 y5 y7 d.2) λaj=>opt (ao d.1 aj.1 (wI (y0-wI (y4*450000000))) 450000000 aj.2) λd=>opt (aq d.1 3373259426 19327352832000 d.2) λd=>ret ((d.1,0),d.2)))))) no) (opt (aK 3000 6000 (-2000) (-1500) (-6000) (-9000) 3000 y5 y7 x3) λd=>ae (aW y6 5) (ae (y6==4) (opt (aK 1000 4000 (-3000) 500 3500 (-1200) 1000 y5 y7 d.2) λaj=>opt (ao d.1 aj.1 (wI (y0-wI (y4*450000000))) 450000000 aj.2) λd=>opt (aq d.1 3373259426 19327352832000 d.2) λd=>ret ((d.1,0),d.2)) (ae (y6==3) (opt (aK 500 1500 (-1700) 100 700 (-800) 500 y5 y7 d.2) λaj=>opt (ao d.1 aj.1 (wI (y0-wI (y4*450000000))) 450000000 aj.2) λd=>opt (aq d.1 3373259426 19327352832000 d.2) λd=>ret ((d.1,0),d.2)) (ae (y6==2) (opt (aK 950 900 (-1400) (-500) (-300) 100 950 y5 y7 d.2) λaj=>opt (ao d.1 aj.1 (wI (y0-wI (y4*450000000))) 450000000 aj.2) λd=>opt (aq d.1 3373259426 19327352832000 d.2) λd=>ret ((d.1,0),d.2)) (ae (y6==1) (opt (aK 2200 2500 500 (-2200) (-3800) 0 2200 y5 y7 d.2) λaj=>opt (ao d.1 aj.1 (wI (y0-wI (y4*450000000))) 450000000 aj.2) λd=>opt (aq d.1 3373259426 19327352832000 d.2) λd=>ret ((d.1,0),d.2)) (opt (aK 3000 6000 (-2000) (-1500) (-6000) (-9000) 3000 y5 y7 d.2) λaj=>opt (ao d.1 aj.1 (wI (y0-wI (y4*450000000))) 450000000 aj.2) λd=>opt (aq d.1 3373259426 19327352832000 d.2) λd=>ret ((d.1,0),d.2)))))) no))))) no)
def qf:=λx0 x1 x2 x3=>(Dq fL lq iG nF aS x0 x1 x2 x3).val
theorem ak8:∀cw gU ao aK aq,D1 [wK cw,Fy gU,zk ao,KV aK,cT aq] [0] 120 O9 (lf BP) λb=>Dq cw gU ao aK aq b.1.1 b.1.2.1 b.1.b b.2:=λ_ _ _ _ _ b=>by kernel_rfl
theorem ak9 [ax]:SC (Pc qf):=s0 (.c Bw (.c RU (.c JD (.c afj (.c c7 (.nil _)))))) (ak8 fL lq iG nF aS)
def aE1:=qa (pl fM nil)
def aqu:=qe BB
abbrev aE2:=aqu.B
abbrev ace:=Int->Option aE2
def al5 (g:ace):Ct:=(55,FC aE1 (lf aqu) (λb=>g b))
def avD (x0:Int):Pg aE2:=ae (decide (x0>=0)) (ret (decide (x0<6))) (ret false)
def Et:=λx0=>(avD x0).val
theorem aOC:D0 [] 55 aE1 (lf aqu) λb=>avD b:=λb=>by kernel_rfl
theorem avE [ax]:SC (al5 Et):=s0 (.nil _) aOC
def ag8:=qa (pl (c ai BC) nil)
def M1:=qe BB
abbrev ag9:=M1.B
abbrev Rj:=Int->Int->Int->Int->Int->Int->Int->Int->Int->Int->Option ag9
def aha (g:Rj):Ct:=(56,FC ag8 (lf M1) (λb=>g b.1 b.2.1 b.b.1 b.b.2.1 b.c.1 b.c.2.1 b.c.b.1 b.c.b.2.1 b.d.1 b.d.2))
def Rk (se:aeS)(iP:HM)(gV:Fo)(lz:Yl)(v8:akI)(sf:ae4)(x0:Int)(x1:Int)(x2:Int)(x3:Int)(x4:Int)(x5:Int)(x6:Int)(x7:Int)(x8:Int)(x9:Int):Pg ag9:=ae (x0==0) (opt (se x1 x2 x3 x4 x5 x6 x7 x8 x9 false) λd=>ret (d.1.2==0)) (ae (x0==1) (opt (iP x1 x2 x3 x4 x5 x6 x7 x8 x9 false) λd=>ret (d.1.2==0)) (ae (x0==2) (opt (gV x1 x2 x3 x4 x5 x6 x7 x8 x9 false) λd=>ret (d.1.2==0)) (ae (x0==3) (opt (lz x1 x2 x3 x4 x5 x6 x7 x8 x9 false) λd=>ret (d.1.2==0)) (ae (x0==4) (opt (v8 x1 x2 x3 x4 x5 x6 x7 x8 x9 false) λd=>ret (d.1.2==0)) (ae (x0==5) (opt (sf x1 x2 x3 x4 x5 x6 x7 x8 x9 false) λd=>ret (d.1.2==0)) (ret true))))))
def A':=λx0 x1 x2 x3 x4 x5 x6 x7 x8 x9=>(Rk zW mz lp vT C9 zZ x0 x1 x2 x3 x4 x5 x6 x7 x8 x9).val
theorem azs:∀se iP gV lz v8 sf,D0 [aeT se,HN iP,Fq gV,Ym lz,akJ v8,ae5 sf] 56 ag8 (lf M1) λb=>Rk se iP gV lz v8 sf b.1 b.2.1 b.b.1 b.b.2.1 b.c.1 b.c.2.1 b.c.b.1 b.c.b.2.1 b.d.1 b.d.2:=λ_ _ _ _ _ _ b=>by kernel_rfl
theorem azt [ax]:SC (aha A'):=s0 (.c ata (.c VB (.c RN (.c aky (.c ax7 (.c atq (.nil _))))))) (azs zW mz lp vT C9 zZ)
def tX:=qa (dp (cu eZ (c ai aFm)) λv=>(cd aAd λb0=>(c (cl (gs v.2.1 apj) nil) (c kF (c lG (c (cl (gs b0.c.1 lF) nil) (cd m8 λb5=>(cd m9 λb6=>(cd na λb7=>(cd nc λb8=>(cd nd λb9=>(cd (a 5 iy (c gi (c (gc (wz 19 9)) kD))) λb10=>(c lk (cd (c gi (c gi (cl (gc (wz 20 11)) nil))) λb12=>(c (cl (gs b0.e jP) nil) (c (cl (gs b5.b.1 ay) nil) (c (cl (gs b6.b.1 ay) nil) (c (cl (gs b7.b.1 ay) nil) (c (cl (gs b8.b.1 ay) nil) (c (cl (gs b9.b.1 ay) nil) (c (cl (gs b10.b.1 ay) nil) (cl (cl (gs b12.b gA) nil) nil))))))))))))))))))))))
def FA:=qe (res (pu Tc (pl (cu eT aLj) nil)))
abbrev V4:=FA.B
abbrev Ah:=tX.B->Option V4
def Ai (g:Ah):Ct:=(232,sE 2 [.b,.i .i64,.i .i64] (FC tX (lf FA) g))
def H0 (pD:Gl)(x:tX.B):Pg V4:=let n1:=x.2.2.2.2.2.2.2.2.2.2.2.2.1;let n2:=n1.1.2.2;ae (Nat.beq x.1.2.1 x.1.2.1) (opt (pD x.1.1 x.2.1.2.2.2.2.2.2.2.2.2.2.2.2.2.1 x.1.2.1 n1.1.1 n1.1.2.1 n2.1 n2.2.1 n2.2.2.1 n2.2.2.2 n1.2 x.2.2.1.1 x.2.2.1.2.1 x.2.2.1.2.2 (x.1.2.2&&true)) λd=>ret d) no
def iQ:=λx=>(H0 lP x).val
theorem aqv:∀pD,D0 [Gm pD] 232 tX (lf FA) λb=>H0 pD b:=λ_ b=>by kernel_rfl
theorem H2 [ax]:SC (Ai iQ):=sc (Sound.nil 2 [.b,.i .i64,.i .i64]<|k0 (.c aau (.nil _)) (aqv lP))
def ry:=qa (pr (cu eZ fM) (cd oH λb0=>(c kF (c lG (c (cl (gs b0.c.1 lF) nil) (cd pK λb4=>(cd m8 λb5=>(cd m9 λb6=>(cd na λb7=>(cd nc λb8=>(cd nd λb9=>(c lk (cd qU λsi=>(c (cl (gs b0.e jP) nil) (c (cl (gs b4.b.1 ay) nil) (c (cl (gs b5.b.1 ay) nil) (c (cl (gs b6.b.1 ay) nil) (c (cl (gs b7.b.1 ay) nil) (c (cl (gs b8.b.1 ay) nil) (c (cl (gs b9.b.1 ay) nil) (cl (cl (gs si.b gA) nil) nil)))))))))))))))))))))
def Dr:=qe aRc
abbrev RW:=Dr.B
abbrev xx:=ry.B->Option RW
def xy (g:xx):Ct:=(223,FC ry (lf Dr) g)
def FB (dr:Ah)(x:ry.B):Pg RW:=let n5:=x.2.2.2.2.2;let n2:=x.2.1.2.2.2.2;let n4:=n2.2.2.2.2.2.2.2.2.2.2.2.2;let n1:=n5.2;let n3:=n1.2.2.2;ae (Nat.beq n2.1 n2.1) (ae (Nat.beq n4 n4) (ae (Nat.beq n5.1.2.2.1 n5.1.2.2.1) (ae (Nat.beq n1.1.2.2.1 n1.1.2.2.1) (ae (Nat.beq n1.2.1.2.2.1 n1.2.1.2.2.1) (ae (Nat.beq n1.2.2.1.2.2.1 n1.2.2.1.2.2.1) (ae (Nat.beq n3.1.2.2.1 n3.1.2.2.1) (ae (Nat.beq n3.2.1.2.2.1 n3.2.1.2.2.1) (ae (Nat.beq n3.2.2.2.1.2.2 n3.2.2.2.1.2.2) (opt (dr ((x.1,1,true),x.2.1,(λj=>bif Nat.beq j 0 then true else true,λj=>bif Nat.beq j 0 then 0 else 0,λj=>bif Nat.beq j 0 then 0 else 0),x.2.2)) λd=>ret d) no) no) no) no) no) no) no) no) no
def gW:=λx=>(FB iQ x).val
theorem amD:∀dr,D0 [Ai dr] 223 ry (lf Dr) λb=>FB dr b:=λ_ b=>by kernel_rfl
theorem FD [ax]:SC (xy gW):=s0 (.c H2 (.nil _)) (amD iQ)
def qg:=qa (pr (cu eZ fM) (cd oH λb0=>(c kF (c lG (c (cl (gs b0.c.1 lF) nil) (cd pK λb4=>(cd m8 λb5=>(cd m9 λb6=>(cd na λb7=>(cd nc λb8=>(cd nd λb9=>(c lk (cd qU λsi=>(c (cl (gs b0.e jP) nil) (c (cl (gs b4.b.1 ay) nil) (c (cl (gs b5.b.1 ay) nil) (c (cl (gs b6.b.1 ay) nil) (c (cl (gs b7.b.1 ay) nil) (c (cl (gs b8.b.1 ay) nil) (c (cl (gs b9.b.1 ay) nil) (cl (cl (gs si.b gA) nil) nil)))))))))))))))))))))
def BQ:=qe aRc
abbrev Pd:=BQ.B
abbrev mM:=qg.B->Option Pd
def mN (g:mM):Ct:=(172,FC qg (lf BQ) g)
def Ds (dr:Ah)(x:qg.B):Pg Pd:=let n5:=x.2.2.2.2.2;let n2:=x.2.1.2.2.2.2;let n4:=n2.2.2.2.2.2.2.2.2.2.2.2.2;let n1:=n5.2;let n3:=n1.2.2.2;ae (Nat.beq n2.1 n2.1) (ae (Nat.beq n4 n4) (ae (Nat.beq n5.1.2.2.1 n5.1.2.2.1) (ae (Nat.beq n1.1.2.2.1 n1.1.2.2.1) (ae (Nat.beq n1.2.1.2.2.1 n1.2.1.2.2.1) (ae (Nat.beq n1.2.2.1.2.2.1 n1.2.2.1.2.2.1) (ae (Nat.beq n3.1.2.2.1 n3.1.2.2.1) (ae (Nat.beq n3.2.1.2.2.1 n3.2.1.2.2.1) (ae (Nat.beq n3.2.2.2.1.2.2 n3.2.2.2.1.2.2) (opt (dr ((x.1,1,true),x.2.1,(λj=>bif Nat.beq j 0 then false else false,λj=>bif Nat.beq j 0 then 0 else 0,λj=>bif Nat.beq j 0 then 0 else 0),x.2.2)) λd=>ret d) no) no) no) no) no) no) no) no) no
def c8:=λx=>(Ds iQ x).val
theorem ala:∀dr,D0 [Ai dr] 172 qg (lf BQ) λb=>Ds dr b:=λ_ b=>by kernel_rfl
theorem qh [ax]:SC (mN c8):=s0 (.c H2 (.nil _)) (ala iQ)
def tY:=qa (pr (cu eZ (cl (aa (a 10 EY kD)) nil)) (cd oH λb0=>(c kF (c lG (c (cl (gs b0.c.1 lF) nil) (cd pK λb4=>(cd m8 λb5=>(cd m9 λb6=>(cd na λb7=>(cd nc λb8=>(cd nd λb9=>(c lk (cd qU λsi=>(c (cl (gs b0.e jP) nil) (c (cl (gs b4.b.1 ay) nil) (c (cl (gs b5.b.1 ay) nil) (c (cl (gs b6.b.1 ay) nil) (c (cl (gs b7.b.1 ay) nil) (c (cl (gs b8.b.1 ay) nil) (c (cl (gs b9.b.1 ay) nil) (cl (cl (gs si.b gA) nil) nil)))))))))))))))))))))
def amE:=qe aRn
abbrev Aj:=((PS×Bool×NI×(NI×NI)×Nat×LL×Bool×Int×qB×Bool×Bool×Bool×Int×Int×Int×LJ×Nat)×NI×NI×NI×NI×NI×NI×NI×NI×NI×NI)
def V5:Aj->T:=λd=>lf amE (d.1,d.1.e,d.2)
abbrev H4:=tY.B->Option Aj
def H5 (g:H4):Ct:=(222,FC tY V5 g)
def H6 (x:tY.B):Pg Aj:=let n7:=x.2.1.2;let n6:=x.1.1;let n3:=n7.2.2.2.2;let n8:=n3.2.2.2;let n2:=x.2.2.2.2.2.2.2.2.2.2.2.2.2.1;let n5:=n2.2.2.2.2;let n1:=n8.2.2.2.2;let n4:=n1.2.2.2.2;let y0:=n4+1;ae (Nat.ble (y0*80) 140737488355328) (ret ((x.2.1.1,n7.1,n7.2.1,n7.2.2.1,n7.2.2.2.1,n3.1,n3.2.1,n3.2.2.1,n8.1,n8.2.1,n8.2.2.1,n8.2.2.2.1,n1.1,n1.2.1,n1.2.2.1,n1.2.2.2.1,y0),λj=>bif Nat.beq j n4 then n6.1.1 else n2.1 j,λj=>bif Nat.beq j n4 then n6.1.2.1 else n2.2.1 j,λj=>bif Nat.beq j n4 then n6.1.2.2.1 else n2.2.2.1 j,λj=>bif Nat.beq j n4 then n6.1.2.2.2 else n2.2.2.2.1 j,λj=>bif Nat.beq j n4 then n6.2.1.1 else n5.1 j,λj=>bif Nat.beq j n4 then n6.2.1.2.1 else n5.2.1 j,λj=>bif Nat.beq j n4 then n6.2.1.2.2 else n5.2.2.1 j,λj=>bif Nat.beq j n4 then n6.2.2.1 else n5.2.2.2.1 j,λj=>bif Nat.beq j n4 then n6.2.2.2.1 else n5.2.2.2.2.1 j,λj=>bif Nat.beq j n4 then n6.2.2.2.2 else n5.2.2.2.2.2 j)) no
def mA:=λx=>(H6 x).val
theorem aqw:D0 [] 222 tY V5 λb=>H6 b:=λb=>by kernel_rfl
theorem V6 [ax]:SC (H5 mA):=s0 (.nil _) aqw
def tZ:=qa (dp (cu eZ (c ai (cl aML nil))) λv=>(cd aAd λb0=>(c (cl (gs v.2.1 aFQ) nil) (c kF (c lG (c (cl (gs b0.c.1 lF) nil) (cd m8 λb5=>(cd m9 λb6=>(cd na λb7=>(cd nc λb8=>(cd nd λb9=>(cd (a 5 iy (c gi (c (gc (wz 19 9)) kD))) λb10=>(c lk (cd (c gi (c gi (cl (gc (wz 20 11)) nil))) λb12=>(c (cl (gs b0.e jP) nil) (c (cl (gs b5.b.1 ay) nil) (c (cl (gs b6.b.1 ay) nil) (c (cl (gs b7.b.1 ay) nil) (c (cl (gs b8.b.1 ay) nil) (c (cl (gs b9.b.1 ay) nil) (c (cl (gs b10.b.1 ay) nil) (cl (cl (gs b12.b gA) nil) nil))))))))))))))))))))))
def amF:=qe (res (pr (ac (wz 21 3)) (pr (c (AF aAd) aLj) (cl aKK nil))))
abbrev Ak:=(Nat×((PS×Bool×NI×(NI×NI)×Nat×LL×Bool×Int×qB×Bool×Bool×Bool×Int×Int×Int×LJ×Nat)×PU×Int)×(Nat->Bool)×NI×NI)
def V7:Ak->T:=λd=>lf amF (d.1,d.2.1,d.1,d.b)
abbrev oT:=tZ.B->Option Ak
def oU (g:oT):Ct:=(228,sE 2 [.i .i64,.i .i64,.i .i64,.i .i64,.i .i64,.i .i64,.i .i64,.i .i64,.i .i64,.i .i64,.i .i64,.i .i64,.i .i64,.i .i64,.i .i64,.i .i64,.i .i64,.i .i64,.i .i64,.i .i64,.i .i64,.i .i64,.i .i64,.i .i64,.i .i64,.i .i64,.i .i64] (FC tZ V7 g))
def H7 (Yw:axs)(dr:Ah)(x:tZ.B):Pg Ak:=let n3:=x.2.1.2.2.2;let n5:=n3.2.2.2.2.2.2.2.2.2.2.2.2.2;let n2:=x.2.2.2.2.2.2;let n4:=n2.2.2.2;ae (Nat.beq x.1.2.1 x.1.2.1) (opt (Yw ((x.2.1.2.2.1,n3.1,x.1.2.1,x.1.2.2&&true),x.2.1.2.1,x.2.2.1)) λd=>let n6:=d.1.2.2;let n1:=(x.2.1.1,d.2.1,d.1.1,d.1.2.1,n3.2);ae (Nat.beq n6 n6) (ae (Nat.beq n3.2.1 n3.2.1) (ae (Nat.beq n5 n5) (ae (Nat.beq n2.1.2.2.1 n2.1.2.2.1) (ae (Nat.beq n2.2.1.2.2.1 n2.2.1.2.2.1) (ae (Nat.beq n2.2.2.1.2.2.1 n2.2.2.1.2.2.1) (ae (Nat.beq n4.1.2.2.1 n4.1.2.2.1) (ae (Nat.beq n4.2.1.2.2.1 n4.2.1.2.2.1) (ae (Nat.beq n4.2.2.1.2.2.1 n4.2.2.1.2.2.1) (ae (Nat.beq n4.2.2.2.2.1.2.2 n4.2.2.2.2.1.2.2) (opt (dr ((x.1.1,n6,true),n1,d.2.2,x.2.2.2)) λaj=>ret (n6,(n1,aj),d.2.2)) no) no) no) no) no) no) no) no) no) no) no
def dL:=λx=>(H7 OM iQ x).val
theorem aqx:∀Yw dr,D0 [axt Yw,Ai dr] 228 tZ V7 λb=>H7 Yw dr b:=λ_ _ b=>by kernel_rfl
theorem ua [ax]:SC (oU dL):=sc (Sound.nil 2 [.i .i64,.i .i64,.i .i64,.i .i64,.i .i64,.i .i64,.i .i64,.i .i64,.i .i64,.i .i64,.i .i64,.i .i64,.i .i64,.i .i64,.i .i64,.i .i64,.i .i64,.i .i64,.i .i64,.i .i64,.i .i64,.i .i64,.i .i64,.i .i64,.i .i64,.i .i64,.i .i64]<|k0 (.c aJw (.c H2 (.nil _))) (aqx OM iQ))
def qi:=qa (dp (cu eZ aFm) λv=>(cd aAd λb0=>(c (cl (gs v.1 apj) nil) (c kF (c lG (c (cl (gs b0.c.1 lF) nil) (cd m8 λb5=>(cd m9 λb6=>(cd na λb7=>(cd nc λb8=>(cd nd λb9=>(cd (a 5 iy (c gi (c (gc (wz 19 9)) kD))) λb10=>(c lk (cd (c gi (c gi (cl (gc (wz 20 11)) nil))) λb12=>(c (cl (gs b0.e jP) nil) (c (cl (gs b5.b.1 ay) nil) (c (cl (gs b6.b.1 ay) nil) (c (cl (gs b7.b.1 ay) nil) (c (cl (gs b8.b.1 ay) nil) (c (cl (gs b9.b.1 ay) nil) (c (cl (gs b10.b.1 ay) nil) (cl (cl (gs b12.b gA) nil) nil))))))))))))))))))))))
def BS:=qe (res (pu Tc (pl (cl (AF aAd) ah0) nil)))
abbrev Dt:=BS.B
abbrev Du:=qi.B->Option Dt
def Dv (g:Du):Ct:=(229,sE 1 [.b,.i .i64,.i .i64] (FC qi (lf BS) g))
def Dw (pz:Z4)(x:qi.B):Pg Dt:=let n2:=x.2.1;let n1:=n2.2.2.2.2.2;let n3:=n1.2.2.2;ae (Nat.beq x.1.1 x.1.1) (opt (pz x.1.1 x.2.2.1.1 x.2.2.1.2.1 x.2.2.1.2.2 (x.1.2&&true)) λd=>ae (decide (d.1>0)) (ret (n2.1,n2.2.1,n2.2.2.1,n2.2.2.2.1,n2.2.2.2.2.1,n1.1,n1.2.1,n1.2.2.1,n3.1,n3.2.1,n3.2.2.1,true,n3.2.2.2.2.2.1,n3.2.2.2.2.2)) (ret n2)) no
def kr:=λx=>(Dw wG x).val
theorem alb:∀pz,D1 [Z5 pz] [0] 229 qi (lf BS) λb=>Dw pz b:=λ_ b=>by kernel_rfl
theorem Pe [ax]:SC (Dv kr):=sc (Sound.nil 1 [.b,.i .i64,.i .i64]<|k0 (.c aof (.nil _)) (alb wG))
def nG:=qa (pr (cu eZ (c ai (c ai aQk))) (cd oH λb0=>(c kF (c lG (c (cl (gs b0.c.1 lF) nil) (cd pK λb4=>(cd m8 λb5=>(cd m9 λb6=>(cd na λb7=>(cd nc λb8=>(cd nd λb9=>(c lk (cd qU λsi=>(c (cl (gs b0.e jP) nil) (c (cl (gs b4.b.1 ay) nil) (c (cl (gs b5.b.1 ay) nil) (c (cl (gs b6.b.1 ay) nil) (c (cl (gs b7.b.1 ay) nil) (c (cl (gs b8.b.1 ay) nil) (c (cl (gs b9.b.1 ay) nil) (cl (cl (gs si.b gA) nil) nil)))))))))))))))))))))
def yx:=qe aps
abbrev Al:=yx.B
abbrev KW:=nG.B->Option Al
def KX (g:KW):Ct:=(169,FC nG (lf yx) g)
def Am (aZ:oT)(cP:xx)(x:nG.B):Pg Al:=let n7:=x.2.2.2.2.2;let n4:=x.1.2.2.2;let n3:=x.2.1.2.2.2.2;let n6:=n3.2.2.2.2.2.2.2.2.2.2.2.2;let n2:=n7.2;let n5:=n2.2.2.2;let n1:=x.1.2.2.1;let y0:=Nat.beq n3.1 n3.1;let y1:=Nat.beq n6 n6;let y2:=Nat.beq n7.1.2.2.1 n7.1.2.2.1;let y3:=Nat.beq n2.1.2.2.1 n2.1.2.2.1;let y4:=Nat.beq n2.2.1.2.2.1 n2.2.1.2.2.1;let y5:=Nat.beq n2.2.2.1.2.2.1 n2.2.2.1.2.2.1;let y6:=Nat.beq n5.1.2.2.1 n5.1.2.2.1;let y7:=Nat.beq n5.2.1.2.2.1 n5.2.1.2.2.1;let y8:=Nat.beq n5.2.2.2.1.2.2 n5.2.2.2.1.2.2;ae (n3.2.1.2.1==x.1.2.1) (ae y0 (ae y1 (ae y2 (ae y3 (ae y4 (ae y5 (ae y6 (ae y7 (ae y8 (opt (aZ ((x.1.1,1,true),x.2.1,(λj=>bif Nat.beq j 0 then n1 0 else n1 0,λj=>bif Nat.beq j 0 then n1 1 else n1 1,λj=>bif Nat.beq j 0 then n1 2 else n1 2,λj=>bif Nat.beq j 0 then n1 3 else n1 3,λj=>bif Nat.beq j 0 then n1 4 else n1 4,λj=>bif Nat.beq j 0 then n1 5 else n1 5,λj=>bif Nat.beq j 0 then n1 6 else n1 6,λj=>bif Nat.beq j 0 then n1 7 else n1 7,λj=>bif Nat.beq j 0 then n1 8 else n1 8,λj=>bif Nat.beq j 0 then n1 9 else n1 9,λj=>bif Nat.beq j 0 then n1 10 else n1 10,λj=>bif Nat.beq j 0 then n1 11 else n1 11,λj=>bif Nat.beq j 0 then n1 12 else n1 12,λj=>bif Nat.beq j 0 then n1 13 else n1 13,λj=>bif Nat.beq j 0 then n1 14 else n1 14,λj=>bif Nat.beq j 0 then n1 15 else n1 15,λj=>bif Nat.beq j 0 then n1 16 else n1 16,λj=>bif Nat.beq j 0 then n1 17 else n1 17,λj=>bif Nat.beq j 0 then n1 18 else n1 18,λj=>bif Nat.beq j 0 then n1 19 else n1 19,λj=>bif Nat.beq j 0 then n1 20 else n1 20,λj=>bif Nat.beq j 0 then n1 21 else n1 21,λj=>bif Nat.beq j 0 then n1 22 else n1 22,λj=>bif Nat.beq j 0 then n1 23 else n1 23,λj=>bif Nat.beq j 0 then n4.1 else n4.1,λj=>bif Nat.beq j 0 then n4.2.1 else n4.2.1,λj=>bif Nat.beq j 0 then n4.2.2 else n4.2.2),x.2.2)) λd=>ret d.2.1) no) no) no) no) no) no) no) no) no) (ae y0 (ae y1 (ae y2 (ae y3 (ae y4 (ae y5 (ae y6 (ae y7 (ae y8 (opt (cP (x.1.1,x.2)) λd=>ret (x.2.1,d)) no) no) no) no) no) no) no) no) no)
def nH:=λx=>(Am dL gW x).val
theorem afk:∀aZ cP,D1 [oU aZ,xy cP] [0] 169 nG (lf yx) λb=>Am aZ cP b:=λ_ _ b=>by kernel_rfl
theorem afl [ax]:SC (KX nH):=s0 (.c ua (.c FD (.nil _))) (afk dL gW)
def iC:=qa (pu (cu eZ nil) (cd oH λb0=>(c kF (c lG (c (cl (gs b0.c.1 lF) nil) (cd pK λb4=>(cd m8 λb5=>(cd m9 λb6=>(cd na λb7=>(cd nc λb8=>(cd nd λb9=>(c lk (cd qU λsi=>(c (cl (gs b0.e jP) nil) (c (cl (gs b4.b.1 ay) nil) (c (cl (gs b5.b.1 ay) nil) (c (cl (gs b6.b.1 ay) nil) (c (cl (gs b7.b.1 ay) nil) (c (cl (gs b8.b.1 ay) nil) (c (cl (gs b9.b.1 ay) nil) (cl (cl (gs si.b gA) nil) nil)))))))))))))))))))))
def ub:=qe (res (pr ai (pl (cl (AF oH) aQT) nil)))
abbrev uU:=ub.B
abbrev EK:=iC.B->Option uU
def EL (g:EK):Ct:=(220,FC iC (lf ub) g)
def oq (wa:Pb)(x:iC.B):Pg uU:=let n1:=x.1.1.2.2.2.2.2.2.2.2.2.2.2.2.2;opt (wa n1.1 n1.2.1 n1.2.2 x.1.2.1) λd=>ret (d.1.1,x.1.1,d.2,x.1.2.2)
def fN:=λx=>(oq qf x).val
theorem WW:∀wa,D0 [Pc wa] 220 iC (lf ub) λb=>oq wa b:=λ_ b=>by kernel_rfl
theorem WX [ax]:SC (EL fN):=s0 (.c ak9 (.nil _)) (WW qf)
def uc:=qa (pr (cu eZ BC) (cd oH λb0=>(c kF (c lG (c (cl (gs b0.c.1 lF) nil) (cd pK λb4=>(cd m8 λb5=>(cd m9 λb6=>(cd na λb7=>(cd nc λb8=>(cd nd λb9=>(c lk (cd qU λsi=>(c (cl (gs b0.e jP) nil) (c (cl (gs b4.b.1 ay) nil) (c (cl (gs b5.b.1 ay) nil) (c (cl (gs b6.b.1 ay) nil) (c (cl (gs b7.b.1 ay) nil) (c (cl (gs b8.b.1 ay) nil) (c (cl (gs b9.b.1 ay) nil) (cl (cl (gs si.b gA) nil) nil)))))))))))))))))))))
def LD:=qe aps
def ahH:=qe (res (pu Tc (pr (c (AF (a 26 xG (c gb (c jV (a 2 zd (cu afH (cu afI (c aMM (au 6 ac2 (cu amU (a 4 EW (cu amV (c gb (c gi (a 3 ld (c gb (cu at7 (c gb aLb)))))))))))))))))) aLi) aFK)))
abbrev An:=LD.B⊕(((PS×Bool×NI×(NI×NI)×Nat×LL×Bool×Int×qB×Bool×Bool×Int×Int×Int×LJ×Nat)×PU×Int)×NI×NI×NI×NI×NI×NI×NI×NI×NI×NI)
def V8:An->T:=ls (lf LD) (λd=>lf ahH (d.1,d.1.1.d.c.b.2,d.2))
abbrev V9:=uc.B->Option An
def Wa (g:V9):Ct:=(167,FC uc V8 g)
def H8 (lz:Yl)(ba:dA)(ot:EK)(SU:atf)(aV:mM)(SV:asY)(fm:H4)(eF:oO)(gT:Ec)(cD:wD)(aM:eI)(cP:xx)(x:uc.B):Pg An:=let n8:=x.2.2;let bu:=n8.2.2.2;let n7:=x.2.1.2.2;let n9:=n7.2.2.2.2.2.2.2.2.2.2.2.2.2.2;let n6:=x.1.2.2.2;let n1:=bu.2;let n3:=n1.2.2.2;let bL:=n3.2.2.2;let y0:=Nat.beq bu.1.2.2.1 bu.1.2.2.1;let y1:=Nat.beq n1.1.2.2.1 n1.1.2.2.1;let y2:=Nat.beq n1.2.1.2.2.1 n1.2.1.2.2.1;let y3:=Nat.beq n1.2.2.1.2.2.1 n1.2.2.1.2.2.1;let y4:=Nat.beq n3.1.2.2.1 n3.1.2.2.1;let y5:=Nat.beq n3.2.1.2.2.1 n3.2.1.2.2.1;let y6:=Nat.beq bL.1.2.2 bL.1.2.2;opt (lz x.1.1 x.1.2.1 x.1.2.2.1 n6.1 n6.2.1 n6.2.2.1 n6.2.2.2.1 n6.2.2.2.2.1 n6.2.2.2.2.2 x.2.1.2.1) λd=>let bg:=d.1.1;opt (ba n7.1) λaj=>ae (Nat.beq n7.2.2.1 n7.2.2.1) (ae (Nat.beq n9 n9) (ae y0 (ae y1 (ae y2 (ae y3 (ae y4 (ae y5 (ae y6 (opt (ot ((x.2.1.1,d.2,n7),n8)) λaI=>let n5:=aI.2.2.2;let bc:=n5.2.2.2.2.2.2.2.2.2.2.2.2.2.2;let uy:=Nat.beq n5.2.2.1 n5.2.2.1;let awT:=Nat.beq bc bc;opt (SU aj.1 aj.2.1 aj.2.2.1 aj.2.2.2 bg.1 bg.2.1 bg.2.2.1 bg.2.2.2 aI.1 aI.2.2.1) λbp=>ae (bp.1.2!=0) (ae uy (ae awT (ae y0 (ae y1 (ae y2 (ae y3 (ae y4 (ae y5 (ae y6 (opt (aV (3,(aI.2.1,bp.2,n5),n8)) λd=>ret (Sum.inl ((aI.2.1,bp.2,n5),d))) no) no) no) no) no) no) no) no) no) (opt (SV n5.1 n5.2.1.1 n5.2.1.2 bp.1.1 (aI.2.1.2.2.2.2.2.2.2.1 0) bp.2) λcg=>ae uy (ae awT (ae y0 (ae y1 (ae y2 (ae y3 (ae y4 (ae y5 (ae y6 (opt (fm (((cg.1.2.2,(0,0,0),0,0,0),1),(aI.2.1,cg.2,cg.1.1,cg.1.2.1,n5.2.2),n8)) λdF=>let bq:=dF.1.2.2;let n2:=bq.2.2;let n16:=n2.2.2;let n4:=n16.2.2;let n15:=n4.2.2.2;opt (ba bq.1) λcH=>opt (eF cH.1 cH.2.1 cH.2.2.1 cH.2.2.2 dF.1.2.1) λln=>opt (gT ln.1 bg.1 bg.2.1 bg.2.2.1 ln.2) λd=>opt (cD bq.1 16 3 (cr d.1.1 [d.1.2.2,d.1.2.1,d.1.1]) false) λqC=>opt (aM qC d.2) λd=>ae (Nat.beq n2.1 n2.1) (ae (Nat.beq n15.2.2.2.2.2 n15.2.2.2.2.2) (ae y0 (ae y1 (ae y2 (ae y3 (ae y4 (ae y5 (ae y6 (opt (cP (3,(dF.1.1,d.2,d.1,bq.2.1,n2.1,n2.2.1,n16.1,n16.2.1,n4.1,n4.2.1,true,n15),n8.1,n8.2.1,n8.2.2.1,bu.1,n1.1,n1.2.1,n1.2.2.1,n3.1,n3.2.1,n3.2.2.1,bL.1,dF.2,bL.2.2)) λnm=>ret (Sum.inr (((dF.1.1,d.2,d.1,bq.2.1,n2.1,n2.2.1,n16.1,n16.2.1,n4.1,n4.2.1,n15),nm),dF.2))) no) no) no) no) no) no) no) no) no) no) no) no) no) no) no) no) no) no)) no) no) no) no) no) no) no) no) no
def ud:=λx=>(H8 vT bV fN KG c8 Ku mA jh nr fK bT gW x).val
theorem aqy:∀lz ba ot SU aV SV fm eF gT cD aM cP,D0 [Ym lz,iI ba,EL ot,atg SU,mN aV,asZ SV,H5 fm,Bs eF,JR gT,Bp cD,ix aM,xy cP] 167 uc V8 λb=>H8 lz ba ot SU aV SV fm eF gT cD aM cP b:=λ_ _ _ _ _ _ _ _ _ _ _ _ b=>by kernel_rfl
theorem aqz [ax]:SC (Wa ud):=s0 (.c aky (.c jA (.c WX (.c aG2 (.c qh (.c aGV (.c V6 (.c Eg (.c Ss (.c Gd (.c ji (.c FD (.nil _))))))))))))) (aqy vT bV fN KG c8 Ku mA jh nr fK bT gW)
def ue:=qa (pr (cu eZ (cl aFG nil)) (cd oH λb0=>(c kF (c lG (c (cl (gs b0.c.1 lF) nil) (cd pK λb4=>(cd m8 λb5=>(cd m9 λb6=>(cd na λb7=>(cd nc λb8=>(cd nd λb9=>(c lk (cd qU λsi=>(c (cl (gs b0.e jP) nil) (c (cl (gs b4.b.1 ay) nil) (c (cl (gs b5.b.1 ay) nil) (c (cl (gs b6.b.1 ay) nil) (c (cl (gs b7.b.1 ay) nil) (c (cl (gs b8.b.1 ay) nil) (c (cl (gs b9.b.1 ay) nil) (cl (cl (gs si.b gA) nil) nil)))))))))))))))))))))
def amG:=qe aRn
abbrev Ao:=((PS×Bool×NI×(NI×NI)×Nat×LL×Bool×Int×qB×Bool×Bool×Bool×Int×Int×Int×LJ×Nat)×NI×NI×NI×NI×NI×NI×NI×NI×NI×NI)
def Wb:Ao->T:=λd=>lf amG (d.1,d.1.e,d.2)
abbrev Wc:=ue.B->Option Ao
def Wd (g:Wc):Ct:=(224,FC ue Wb g)
def H9 (gk:vS)(Cl:Ys)(fm:H4)(xA:RQ)(Hg:ag2)(x:ue.B):Pg Ao:=let bq:=x.1.2;let n4:=x.2.1.2.2.2;let n8:=n4.2.2.2.2.2.2.2.2.2.2.2.2.2;let n3:=x.2.2;let bg:=n3.2.2;let n1:=bg.2.2;let bu:=n1.2.2.1;let n2:=n1.2.2.2;let n7:=n2.2.2.2;let y0:=Nat.beq bg.2.1.2.2.1 bg.2.1.2.2.1;let y1:=Nat.beq n1.1.2.2.1 n1.1.2.2.1;let y2:=Nat.beq n1.2.1.2.2.1 n1.2.1.2.2.1;let y3:=Nat.beq bu.2.2.1 bu.2.2.1;let y4:=Nat.beq n2.1.2.2.1 n2.1.2.2.1;let y5:=Nat.beq n2.2.1.2.2.1 n2.2.1.2.2.1;let y6:=Nat.beq n7.1.2.2 n7.1.2.2;opt (gk x.1.1.1 x.1.1.2.1 x.1.1.2.2 n3.1.1.1 n3.1.1.2.1 n3.1.1.2.2 n3.1.2.1 n3.1.2.2 x.2.1.2.1) λd=>opt (Cl x.2.1.2.2.1 n4.1.1 n4.1.2 bq.1.1 bq.1.2.1 bq.1.2.2 bq.2.2 d.2) λaj=>ae (Nat.beq n4.2.1 n4.2.1) (ae (Nat.beq n8 n8) (ae y0 (ae y1 (ae y2 (ae y3 (ae y4 (ae y5 (ae y6 (opt (fm ((((1073741824,0,0,0),aj.1.2.2,0,0,0),2),(x.2.1.1,aj.2,aj.1.1,aj.1.2.1,n4.2),n3)) λaI=>let n6:=aI.1.2.2.2;let n9:=n6.2.2.2.2.2.2.2.2.2.2.2.2.2;opt (xA aI.1.2.2.1 n6.1.1 n6.1.2 d.1.1.1 d.1.1.2.1 bq.2.1 aI.1.2.1) λbp=>ae (Nat.beq n6.2.1 n6.2.1) (ae (Nat.beq n9 n9) (ae y0 (ae y1 (ae y2 (ae y3 (ae y4 (ae y5 (ae y6 (opt (fm ((((1073741824,0,0,0),(0,0,0),bp.1.2.2),3),(aI.1.1,bp.2,bp.1.1,bp.1.2.1,n6.2),n3.1,n3.2.1,bg.1,bg.2.1,n1.1,n1.2.1,bu,n2.1,n2.2.1,n2.2.2.1,n7.1,aI.2,n7.2.2)) λcg=>let n5:=cg.1.2.2.2;let bc:=n5.2.2.2.2.2.2.2.2.2.2.2.2.2;ae (n5.2.2.1.2.1==2) (opt (Hg cg.1.2.2.1 n5.1.1 n5.1.2 d.1.1.2.2 bq.2.1 cg.1.2.1) λd=>ae (Nat.beq n5.2.1 n5.2.1) (ae (Nat.beq bc bc) (ae y0 (ae y1 (ae y2 (ae y3 (ae y4 (ae y5 (ae y6 (opt (fm ((((1073741824,0,0,0),(0,0,0),0,0,d.1.2.2),4),(cg.1.1,d.2,d.1.1,d.1.2.1,n5.2),n3.1,n3.2.1,bg.1,bg.2.1,n1.1,n1.2.1,bu,n2.1,n2.2.1,n2.2.2.1,n7.1,cg.2,n7.2.2)) λd=>ret d) no) no) no) no) no) no) no) no) no) (ret cg)) no) no) no) no) no) no) no) no) no) no) no) no) no) no) no) no) no) no
def uf:=λx=>(H9 jD vZ mA rv A7 x).val
theorem aqA:∀gk Cl fm xA Hg,D0 [Cc gk,Yt Cl,H5 fm,RR xA,ag3 Hg] 224 ue Wb λb=>H9 gk Cl fm xA Hg b:=λ_ _ _ _ _ b=>by kernel_rfl
theorem aqB [ax]:SC (Wd uf):=s0 (.c KF (.c atH (.c V6 (.c amz (.c azq (.nil _)))))) (aqA jD vZ mA rv A7)
def nI:=qa (pr (cu eZ BC) (cd oH λb0=>(c kF (c lG (c (cl (gs b0.c.1 lF) nil) (cd pK λb4=>(cd m8 λb5=>(cd m9 λb6=>(cd na λb7=>(cd nc λb8=>(cd nd λb9=>(c lk (cd qU λsi=>(c (cl (gs b0.e jP) nil) (c (cl (gs b4.b.1 ay) nil) (c (cl (gs b5.b.1 ay) nil) (c (cl (gs b6.b.1 ay) nil) (c (cl (gs b7.b.1 ay) nil) (c (cl (gs b8.b.1 ay) nil) (c (cl (gs b9.b.1 ay) nil) (cl (cl (gs si.b gA) nil) nil)))))))))))))))))))))
def yy:=qe aps
abbrev Ap:=yy.B
abbrev KY:=nI.B->Option Ap
def KZ (g:KY):Ct:=(174,FC nI (lf yy) g)
def Aq (v8:akI)(Hh:agN)(Ba:agT)(aV:mM)(aZ:oT)(x:nI.B):Pg Ap:=let bq:=x.2.2;let n8:=x.2.1.1;let n7:=x.1.2.2.2;let n6:=n8.2.2.2.2.1.2.2.2.2.1;let n4:=x.2.1.2.2;let bg:=n4.2.2.2.2.2.2.2.2.2.2.2.2.2.2;let n3:=bq.2.2.2.2;let n9:=n3.2.2.2;let y0:=Nat.beq n4.2.2.1 n4.2.2.1;let y1:=Nat.beq bg bg;let y2:=Nat.beq bq.2.2.2.1.2.2.1 bq.2.2.2.1.2.2.1;let y3:=Nat.beq n3.1.2.2.1 n3.1.2.2.1;let y4:=Nat.beq n3.2.1.2.2.1 n3.2.1.2.2.1;let y5:=Nat.beq n3.2.2.1.2.2.1 n3.2.2.1.2.2.1;let y6:=Nat.beq n9.1.2.2.1 n9.1.2.2.1;let y7:=Nat.beq n9.2.1.2.2.1 n9.2.1.2.2.1;let y8:=Nat.beq n9.2.2.2.1.2.2 n9.2.2.2.1.2.2;opt (v8 x.1.1 x.1.2.1 x.1.2.2.1 n7.1 n7.2.1 n7.2.2.1 n7.2.2.2.1 n7.2.2.2.2.1 n7.2.2.2.2.2 x.2.1.2.1) λd=>opt (Hh n4.1 d.1.1.1 d.1.1.2 n6 d.2) λd=>let n5:=d.1.1.2;let n1:=d.1.1.1;ae (d.1.2==0) (opt (Ba n4.1 17592186044416 n6 d.2) λaj=>ae (aj.1.2==0) (ae y0 (ae y1 (ae y2 (ae y3 (ae y4 (ae y5 (ae y6 (ae y7 (ae y8 (opt (aZ ((4,2,true),(n8,aj.2,n4),(av5 (λk=>cr (n1 k) [aj.1.1.1 k,n1 k]) (cr n5.1 [aj.1.1.2.1,n5.1],cr n5.2.1 [aj.1.1.2.2.1,n5.2.1],cr n5.2.2 [aj.1.1.2.2.2,n5.2.2])),bq)) λd=>ret d.2.1) no) no) no) no) no) no) no) no) no) (ae y0 (ae y1 (ae y2 (ae y3 (ae y4 (ae y5 (ae y6 (ae y7 (ae y8 (opt (aZ ((4,1,true),(n8,aj.2,n4),(λj=>bif Nat.beq j 0 then n1 0 else n1 0,λj=>bif Nat.beq j 0 then n1 1 else n1 1,λj=>bif Nat.beq j 0 then n1 2 else n1 2,λj=>bif Nat.beq j 0 then n1 3 else n1 3,λj=>bif Nat.beq j 0 then n1 4 else n1 4,λj=>bif Nat.beq j 0 then n1 5 else n1 5,λj=>bif Nat.beq j 0 then n1 6 else n1 6,λj=>bif Nat.beq j 0 then n1 7 else n1 7,λj=>bif Nat.beq j 0 then n1 8 else n1 8,λj=>bif Nat.beq j 0 then n1 9 else n1 9,λj=>bif Nat.beq j 0 then n1 10 else n1 10,λj=>bif Nat.beq j 0 then n1 11 else n1 11,λj=>bif Nat.beq j 0 then n1 12 else n1 12,λj=>bif Nat.beq j 0 then n1 13 else n1 13,λj=>bif Nat.beq j 0 then n1 14 else n1 14,λj=>bif Nat.beq j 0 then n1 15 else n1 15,λj=>bif Nat.beq j 0 then n1 16 else n1 16,λj=>bif Nat.beq j 0 then n1 17 else n1 17,λj=>bif Nat.beq j 0 then n1 18 else n1 18,λj=>bif Nat.beq j 0 then n1 19 else n1 19,λj=>bif Nat.beq j 0 then n1 20 else n1 20,λj=>bif Nat.beq j 0 then n1 21 else n1 21,λj=>bif Nat.beq j 0 then n1 22 else n1 22,λj=>bif Nat.beq j 0 then n1 23 else n1 23,λj=>bif Nat.beq j 0 then n5.1 else n5.1,λj=>bif Nat.beq j 0 then n5.2.1 else n5.2.1,λj=>bif Nat.beq j 0 then n5.2.2 else n5.2.2),bq)) λd=>ret d.2.1) no) no) no) no) no) no) no) no) no)) (opt (Ba n4.1 17592186044416 n6 d.2) λd=>let bc:=d.1.1.2;let n2:=d.1.1.1;ae (d.1.2==0) (ae y0 (ae y1 (ae y2 (ae y3 (ae y4 (ae y5 (ae y6 (ae y7 (ae y8 (opt (aZ ((4,1,true),(n8,d.2,n4),(λj=>bif Nat.beq j 0 then n2 0 else n2 0,λj=>bif Nat.beq j 0 then n2 1 else n2 1,λj=>bif Nat.beq j 0 then n2 2 else n2 2,λj=>bif Nat.beq j 0 then n2 3 else n2 3,λj=>bif Nat.beq j 0 then n2 4 else n2 4,λj=>bif Nat.beq j 0 then n2 5 else n2 5,λj=>bif Nat.beq j 0 then n2 6 else n2 6,λj=>bif Nat.beq j 0 then n2 7 else n2 7,λj=>bif Nat.beq j 0 then n2 8 else n2 8,λj=>bif Nat.beq j 0 then n2 9 else n2 9,λj=>bif Nat.beq j 0 then n2 10 else n2 10,λj=>bif Nat.beq j 0 then n2 11 else n2 11,λj=>bif Nat.beq j 0 then n2 12 else n2 12,λj=>bif Nat.beq j 0 then n2 13 else n2 13,λj=>bif Nat.beq j 0 then n2 14 else n2 14,λj=>bif Nat.beq j 0 then n2 15 else n2 15,λj=>bif Nat.beq j 0 then n2 16 else n2 16,λj=>bif Nat.beq j 0 then n2 17 else n2 17,λj=>bif Nat.beq j 0 then n2 18 else n2 18,λj=>bif Nat.beq j 0 then n2 19 else n2 19,λj=>bif Nat.beq j 0 then n2 20 else n2 20,λj=>bif Nat.beq j 0 then n2 21 else n2 21,λj=>bif Nat.beq j 0 then n2 22 else n2 22,λj=>bif Nat.beq j 0 then n2 23 else n2 23,λj=>bif Nat.beq j 0 then bc.1 else bc.1,λj=>bif Nat.beq j 0 then bc.2.1 else bc.2.1,λj=>bif Nat.beq j 0 then bc.2.2 else bc.2.2),bq)) λd=>ret d.2.1) no) no) no) no) no) no) no) no) no) (ae y0 (ae y1 (ae y2 (ae y3 (ae y4 (ae y5 (ae y6 (ae y7 (ae y8 (opt (aV (4,(n8,d.2,n4),bq)) λaj=>ret ((n8,d.2,n4),aj)) no) no) no) no) no) no) no) no) no))
def nJ:=λx=>(Aq C9 A5 A6 c8 dL x).val
theorem afm:∀v8 Hh Ba aV aZ,D0 [akJ v8,agO Hh,agU Ba,mN aV,oU aZ] 174 nI (lf yy) λb=>Aq v8 Hh Ba aV aZ b:=λ_ _ _ _ _ b=>by kernel_rfl
theorem afo [ax]:SC (KZ nJ):=s0 (.c ax7 (.c azi (.c azk (.c qh (.c ua (.nil _)))))) (afm C9 A5 A6 c8 dL)
def ug:=qa (pr (cu eZ BC) (cd oH λb0=>(c kF (c lG (c (cl (gs b0.c.1 lF) nil) (cd pK λb4=>(cd m8 λb5=>(cd m9 λb6=>(cd na λb7=>(cd nc λb8=>(cd nd λb9=>(c lk (cd qU λsi=>(c (cl (gs b0.e jP) nil) (c (cl (gs b4.b.1 ay) nil) (c (cl (gs b5.b.1 ay) nil) (c (cl (gs b6.b.1 ay) nil) (c (cl (gs b7.b.1 ay) nil) (c (cl (gs b8.b.1 ay) nil) (c (cl (gs b9.b.1 ay) nil) (cl (cl (gs si.b gA) nil) nil)))))))))))))))))))))
def FE:=qe aps
abbrev H':=FE.B
abbrev We:=ug.B->Option H'
def Wf (g:We):Ct:=(175,FC ug (lf FE) g)
def Ia (sf:ae4)(SW:att)(aV:mM)(aZ:oT)(dx:Du)(x:ug.B):Pg H':=let bc:=x.2.1;let n7:=x.2.2;let bg:=n7.2.2.2;let n6:=x.1.2.2.2;let n2:=bc.2.2;let n8:=n2.2.2.2.2.2.2.2.2.2.2.2.2.2.2;let n1:=bg.2;let n3:=n1.2.2.2;let y0:=Nat.beq n2.2.2.1 n2.2.2.1;let y1:=Nat.beq n8 n8;let y2:=Nat.beq bg.1.2.2.1 bg.1.2.2.1;let y3:=Nat.beq n1.1.2.2.1 n1.1.2.2.1;let y4:=Nat.beq n1.2.1.2.2.1 n1.2.1.2.2.1;let y5:=Nat.beq n1.2.2.1.2.2.1 n1.2.2.1.2.2.1;let y6:=Nat.beq n3.1.2.2.1 n3.1.2.2.1;let y7:=Nat.beq n3.2.1.2.2.1 n3.2.1.2.2.1;let y8:=Nat.beq n3.2.2.2.1.2.2 n3.2.2.2.1.2.2;opt (sf x.1.1 x.1.2.1 x.1.2.2.1 n6.1 n6.2.1 n6.2.2.1 n6.2.2.2.1 n6.2.2.2.2.1 n6.2.2.2.2.2 bc.2.1) λd=>opt (SW n2.1 d.1.1.1 d.1.1.2.1 d.1.1.2.2.1 d.1.1.2.2.2 bc.1.2.2.2.2.1.2.2.2.2.2 d.2) λd=>sm d (λd=>ae (d.1!=0) (ae y0 (ae y1 (ae y2 (ae y3 (ae y4 (ae y5 (ae y6 (ae y7 (ae y8 (opt (aV (5,(bc.1,d.2,n2),n7)) λaj=>ret ((bc.1,d.2,n2),aj)) no) no) no) no) no) no) no) no) no) no) (λd=>let n4:=d.2.2.2;ae y0 (ae y1 (ae y2 (ae y3 (ae y4 (ae y5 (ae y6 (ae y7 (ae y8 (opt (aZ ((5,2,true),(bc.1,d.1,n2),(av5 (λk=>cr (d.2.1 k) [n4.2.2.1 k,d.2.1 k]) (cr d.2.2.1 [n4.2.2.2,d.2.2.1],cr n4.1 [n4.1,n4.1],cr n4.2.1 [n4.2.1,n4.2.1])),n7)) λd=>let n5:=d.2.1.1.2.2.2.2;let n9:=n5.2.2.2.2.2.2.2.2.2.2.2.2;ae (Nat.beq d.1 d.1) (ae (Nat.beq n5.1 n5.1) (ae (Nat.beq n9 n9) (ae y2 (ae y3 (ae y4 (ae y5 (ae y6 (ae y7 (ae y8 (opt (dx ((d.1,true),d.2.1.1,d.2.2,n7.1,n7.2.1,n7.2.2.1,bg.1,n1.1,n1.2.1,n1.2.2.1,n3.1,n3.2.1,d.2.1.2,n3.2.2.2)) λaj=>ret (aj,d.2.1.2)) no) no) no) no) no) no) no) no) no) no) no) no) no) no) no) no) no) no) no)
def uh:=λx=>(Ia zZ z5 c8 dL kr x).val
theorem aqC:∀sf SW aV aZ dx,D0 [ae5 sf,atu SW,mN aV,oU aZ,Dv dx] 175 ug (lf FE) λb=>Ia sf SW aV aZ dx b:=λ_ _ _ _ _ b=>by kernel_rfl
theorem aqD [ax]:SC (Wf uh):=s0 (.c atq (.c aG6 (.c qh (.c ua (.c Pe (.nil _)))))) (aqC zZ z5 c8 dL kr)
def qj:=qa (pu (cu eZ nil) (cd oH λb0=>(c kF (c lG (c (cl (gs b0.c.1 lF) nil) (cd pK λb4=>(cd m8 λb5=>(cd m9 λb6=>(cd na λb7=>(cd nc λb8=>(cd nd λb9=>(c lk (cd qU λsi=>(c (cl (gs b0.e jP) nil) (c (cl (gs b4.b.1 ay) nil) (c (cl (gs b5.b.1 ay) nil) (c (cl (gs b6.b.1 ay) nil) (c (cl (gs b7.b.1 ay) nil) (c (cl (gs b8.b.1 ay) nil) (c (cl (gs b9.b.1 ay) nil) (cl (cl (gs si.b gA) nil) nil)))))))))))))))))))))
def BT:=qe (res (pl (aa (c gi (c gi (c gb (c gb (c gi (c gi (c gi (c gb (c gb aKT)))))))))) (pu ah0 nil)))
abbrev Pf:=BT.B
abbrev Dx:=qj.B->Option Pf
def Dy (g:Dx):Ct:=(16,FC qj (lf BT) g)
def Dz (pE:Gu)(uv:Lx)(x:qj.B):Pg Pf:=let n3:=x.1.2.2.2.2.2;let n2:=n3.2.2.2.2.2.2.2.2;let n4:=n2.2.2.1;let n1:=x.2.2.2.2.2.2.2.2.2.2.1;let n5:=n1.1.2.2;opt (pE n2.1 n1.1.1 n1.1.2.1 n5.1 n5.2.1 n5.2.2.1 n5.2.2.2 n1.2) λd=>opt (uv n1.1.1 n1.1.2.1 n5.1 n5.2.1 n5.2.2.1 n5.2.2.2 n1.2) λaj=>ret (n3.1.1,n3.1.2.1,n3.1.2.2.1,n3.1.2.2.2,n2.1,d,n2.2.1,aj,x.1.2.1,n4.1.1,n4.1.2.1,n4.1.2.2.1,n4.1.2.2.2,n4.2.1.1,n4.2.1.2.1,n4.2.1.2.2,n4.2.2)
def mO:=λx=>(Dz lR oB x).val
theorem alc:∀pE uv,D0 [Gv pE,Ly uv] 16 qj (lf BT) λb=>Dz pE uv b:=λ_ _ b=>by kernel_rfl
theorem Ph [ax]:SC (Dy mO):=s0 (.c aay (.c ahC (.nil _))) (alc lR oB)
def Cm:=qa (pu (cu eZ nil) (cd oH λb0=>(c kF (c lG (c (cl (gs b0.c.1 lF) nil) (cd pK λb4=>(cd m8 λb5=>(cd m9 λb6=>(cd na λb7=>(cd nc λb8=>(cd nd λb9=>(c lk (cd qU λsi=>(c (cl (gs b0.e jP) nil) (c (cl (gs b4.b.1 ay) nil) (c (cl (gs b5.b.1 ay) nil) (c (cl (gs b6.b.1 ay) nil) (c (cl (gs b7.b.1 ay) nil) (c (cl (gs b8.b.1 ay) nil) (c (cl (gs b9.b.1 ay) nil) (cl (cl (gs si.b gA) nil) nil)))))))))))))))))))))
def Ib:=qe (res (pl aQM (pu ah0 nil)))
abbrev Yx:=Ib.B
abbrev atI:=Cm.B->Option Yx
def Yy (g:atI):Ct:=(40,FC Cm (lf Ib) g)
def Yz (qQ:IP)(x:Cm.B):Pg Yx:=let n2:=x.2.2.2.2.2.2.2.2.2.2.2;let n1:=n2.2.2.2.2.2.2.2.2;let n3:=n1.2.2.2.2.2;ae (Nat.beq n2.1.2.2 n2.1.2.2) (opt (qQ n2.1.1 n2.1.2.1 n2.1.2.2 n1.1 n1.2.1 n1.2.2.1 n1.2.2.2.1 n1.2.2.2.2.1 n3.1 n3.2.1 n3.2.2.1 n3.2.2.2.1 n3.2.2.2.2.1 n3.2.2.2.2.2) λd=>ret d) no
def YA:=λx=>(Yz yo x).val
theorem atJ:∀qQ,D0 [IQ qQ] 40 Cm (lf Ib) λb=>Yz qQ b:=λ_ b=>by kernel_rfl
theorem atK [ax]:SC (Yy YA):=s0 (.c ab2 (.nil _)) (atJ yo)
def qk:=qa (pr (cu eZ fM) (cd oH λb0=>(c kF (c lG (c (cl (gs b0.c.1 lF) nil) (cd pK λb4=>(cd m8 λb5=>(cd m9 λb6=>(cd na λb7=>(cd nc λb8=>(cd nd λb9=>(c lk (cd qU λsi=>(c (cl (gs b0.e jP) nil) (c (cl (gs b4.b.1 ay) nil) (c (cl (gs b5.b.1 ay) nil) (c (cl (gs b6.b.1 ay) nil) (c (cl (gs b7.b.1 ay) nil) (c (cl (gs b8.b.1 ay) nil) (c (cl (gs b9.b.1 ay) nil) (cl (cl (gs si.b gA) nil) nil)))))))))))))))))))))
def BU:=qe (res (pl (aa aP6) (pu ah0 nil)))
abbrev Pj:=BU.B
abbrev ald:=qk.B->Option Pj
def Pk (g:ald):Ct:=(17,FC qk (lf BU) g)
def DA (pF:Gy)(x:qk.B):Pg Pj:=let n1:=x.2.2.2.2.2.2.2.2.2.2.2.1;let n2:=n1.1.2.2;opt (pF x.1 n1.1.1 n1.1.2.1 n2.1 n2.2.1 n2.2.2.1 n2.2.2.2 n1.2) λd=>ret d
def wb:=λx=>(DA lS x).val
theorem ale:∀pF,D0 [Gz pF] 17 qk (lf BU) λb=>DA pF b:=λ_ b=>by kernel_rfl
theorem alf [ax]:SC (Pk wb):=s0 (.c aaA (.nil _)) (ale lS)
def lW:=qa (pr (cu eZ BC) (cd oH λb0=>(c kF (c lG (c (cl (gs b0.c.1 lF) nil) (cd pK λb4=>(cd m8 λb5=>(cd m9 λb6=>(cd na λb7=>(cd nc λb8=>(cd nd λb9=>(c lk (cd qU λsi=>(c (cl (gs b0.e jP) nil) (c (cl (gs b4.b.1 ay) nil) (c (cl (gs b5.b.1 ay) nil) (c (cl (gs b6.b.1 ay) nil) (c (cl (gs b7.b.1 ay) nil) (c (cl (gs b8.b.1 ay) nil) (c (cl (gs b9.b.1 ay) nil) (cl (cl (gs si.b gA) nil) nil)))))))))))))))))))))
def SX:=qe (res (pu Tc (pr (c (AF (a 26 xG (c gb (c jV (a 2 zd (cu afH (cu afI (c aMM (au 6 ac2 (cu amU (a 4 EW (cu amV (c gb (c gi (a 3 ld (c gb (c gb (cu at7 aLb)))))))))))))))))) aLi) aFK)))
def Cn:=qe aps
abbrev pG:=(((PS×Bool×NI×(NI×NI)×Nat×LL×Bool×Int×qB×Bool×Bool×Int×Int×LJ×Nat)×PU×Int)×NI×NI×NI×NI×NI×NI×NI×NI×NI×NI)⊕Cn.B
def GD:pG->T:=ls (λd=>lf SX (((d.1.1.1,d.1.1.2.1,d.1.1.b.1,d.1.1.b.2.1,d.1.1.c.1,d.1.1.c.2.1,d.1.1.c.b.1,d.1.1.c.b.2.1,d.1.1.d.1,d.1.1.d.2.1,d.1.1.d.b.1,d.1.1.d.b.2.1,d.1.1.d.b.2),d.1.2),d.1.1.d.c.b,d.2)) (lf Cn)
abbrev GF:=lW.B->Option pG
def GG (g:GF):Ct:=(168,FC lW GD g)
def xd (se:aeS)(Ar:Wc)(cP:xx)(Eu:abQ)(As:Vm)(DB:akn)(aZ:oT)(dx:Du)(fq:Df)(x:lW.B):Pg pG:=let n25:=x.1.2.2.2;let n22:=x.2.1.1;let n58:=n22.2.2.2.2;let n9:=x.2.1.2.2;let bL:=n9.2.2.2.2.2.2.2.2.2;let n7:=x.2.2;let SY:=n7.2.1;let n16:=n7.2.2;let n32:=n16.2.1;let n4:=n16.2.2;let n33:=n4.2.1;let n23:=n4.2.2.1;let n6:=n4.2.2.2;let n34:=n6.2.1;let n17:=n6.2.2.2;let y0:=n9.2.2.2.1.2.1==2;let y1:=Nat.beq n9.2.2.1 n9.2.2.1;let y2:=Nat.beq bL.2.2.2.2.2 bL.2.2.2.2.2;let y3:=Nat.beq n32.2.2.1 n32.2.2.1;let y4:=Nat.beq n4.1.2.2.1 n4.1.2.2.1;let y5:=Nat.beq n33.2.2.1 n33.2.2.1;let y6:=Nat.beq n23.2.2.1 n23.2.2.1;let y7:=Nat.beq n6.1.2.2.1 n6.1.2.2.1;let y8:=Nat.beq n34.2.2.1 n34.2.2.1;let y9:=Nat.beq n17.1.2.2 n17.1.2.2;opt (se x.1.1 x.1.2.1 x.1.2.2.1 n25.1 n25.2.1 n25.2.2.1 n25.2.2.2.1 n25.2.2.2.2.1 n25.2.2.2.2.2 x.2.1.2.1) λd=>let n57:=d.1.1;let bu:=n57.2.2;let n38:=bu.2.2;let n1:=((n57.1,n57.2.1,bu.1),(bu.2.1,n38.1,n38.2.1),n38.2.2);let n3:=(Ar (n1,(n22,d.2,n9),n7));let n2:=(n9.1,n1,n58.1.1);ae (!bL.1) (ae y1 (ae y2 (ae y3 (ae y4 (ae y5 (ae y6 (ae y7 (ae y8 (ae y9 (opt n3 λd=>let bc:=d.1.2.2.2.2;let n26:=bc.2.2.2.2;let n48:=n26.2.2.2.2.2;ae (Nat.beq bc.1 bc.1) (ae (Nat.beq n48.2.2.2 n48.2.2.2) (ae y3 (ae y4 (ae y5 (ae y6 (ae y7 (ae y8 (ae y9 (opt (cP (0,d.1,n7.1,SY,n16.1,n32,n4.1,n33,n23,n6.1,n34,n6.2.2.1,n17.1,d.2,n17.2.2)) λaj=>ret (Sum.inl (((d.1.1,d.1.2.1,d.1.2.2.1,d.1.2.2.2.1,bc.1,bc.2.1,bc.2.2.1,bc.2.2.2.1,n26.1,n26.2.1,n26.2.2.1,n48),aj),d.2))) no) no) no) no) no) no) no) no) no) no) no) no) no) no) no) no) no) no) (ae (decide (wI (bL.2.2.1-bL.2.1)>n58.2.2.2.2.1)) (ae y1 (ae y2 (ae y3 (ae y4 (ae y5 (ae y6 (ae y7 (ae y8 (ae y9 (opt n3 λd=>let bg:=d.1.2.2.2.2;let n27:=bg.2.2.2.2;let n49:=n27.2.2.2.2.2;ae (Nat.beq bg.1 bg.1) (ae (Nat.beq n49.2.2.2 n49.2.2.2) (ae y3 (ae y4 (ae y5 (ae y6 (ae y7 (ae y8 (ae y9 (opt (cP (0,d.1,n7.1,SY,n16.1,n32,n4.1,n33,n23,n6.1,n34,n6.2.2.1,n17.1,d.2,n17.2.2)) λaj=>ret (Sum.inl (((d.1.1,d.1.2.1,d.1.2.2.1,d.1.2.2.2.1,bg.1,bg.2.1,bg.2.2.1,bg.2.2.2.1,n27.1,n27.2.1,n27.2.2.1,n49),aj),d.2))) no) no) no) no) no) no) no) no) no) no) no) no) no) no) no) no) no) no) (opt (Eu n9.1 n57.1 n57.2.1 bu.1 bu.2.1 n38.1 n38.2.1 n38.2.2.1 n38.2.2.2 n58.1.1 d.2) λaj=>let n35:=aj.2.1;let n24:=aj.2.2.1;let n8:=aj.2.2.2;let n55:=n8.2.2.1;let n36:=n8.2.1;let n5:=n8.2.2.2;let n56:=n5.2.2.1;let bq:=n5.2.2.2;let n37:=bq.2.2;opt (As (n2,aj.1,n7.1)) λaI=>sm aI (λbp=>ae y0 (opt (DB (n2,bp.2,n7.1)) λd=>ae y1 (ae y2 (ae y3 (ae y4 (ae y5 (ae y6 (ae y7 (ae y8 (ae y9 (opt (aZ ((0,4,true),(n22,d.2,n9),(av5 (λk=>cr (n35 k) [d.1.1.1 k,bq.1 k,n55 k,n35 k]) (cr n24 [d.1.1.2.1,bq.2.1,n5.1,n24],cr n8.1 [d.1.1.2.2.1,n37.1,n5.2.1,n8.1],cr n36 [d.1.1.2.2.2,n37.2,n56,n36])),n7)) λd=>let n39:=d.2.2;let n18:=d.2.1;let n50:=n18.1.2.2.2.2;let FF:=n18.2.1.2;let n28:=n50.2.2.2.2.2.2.2.2.2.2.2.2;let y0:=wI (Int.ofNat d.1-1);let y1:=Int.toNat y0;ae (Nat.beq d.1 d.1) (ae (Nat.beq n50.1 n50.1) (ae (Nat.beq n28 n28) (ae y3 (ae y4 (ae y5 (ae y6 (ae y7 (ae y8 (ae y9 (opt (dx ((d.1,true),n18.1,n39,n7.1,SY,n16.1,n32,n4.1,n33,n23,n6.1,n34,n18.2,n17)) λcg=>ae (cg.2.2.2.2.2.1.2.1==2) (ae (aW 2 d.1) (ae (aW y0 d.1) (opt (fq (n39.1 2) (n39.2.1 2) (n39.2.2 2) (n39.1 y1) (n39.2.1 y1) (n39.2.2 y1) n18.2.1.1 FF.1 FF.2.1 FF.2.2.1 FF.2.2.2.1 FF.2.2.2.2 n18.2.2) λd=>ret (Sum.inr (cg,d))) no) no) (ret (Sum.inr (cg,n18.2)))) no) no) no) no) no) no) no) no) no) no) no) no) no) no) no) no) no) no) no) (ae y1 (ae y2 (ae y3 (ae y4 (ae y5 (ae y6 (ae y7 (ae y8 (ae y9 (opt (aZ ((0,3,true),(n22,bp.2,n9),(av5 (λk=>cr (n35 k) [bq.1 k,n55 k,n35 k]) (cr n24 [bq.2.1,n5.1,n24],cr n8.1 [n37.1,n5.2.1,n8.1],cr n36 [n37.2,n56,n36])),n7)) λd=>let DD:=d.2.2;let n19:=d.2.1;let n51:=n19.1.2.2.2.2;let FG:=n19.2.1.2;let n29:=n51.2.2.2.2.2.2.2.2.2.2.2.2;let y0:=wI (Int.ofNat d.1-1);let y1:=Int.toNat y0;ae (Nat.beq d.1 d.1) (ae (Nat.beq n51.1 n51.1) (ae (Nat.beq n29 n29) (ae y3 (ae y4 (ae y5 (ae y6 (ae y7 (ae y8 (ae y9 (opt (dx ((d.1,true),n19.1,DD,n7.1,SY,n16.1,n32,n4.1,n33,n23,n6.1,n34,n19.2,n17)) λcg=>ae (cg.2.2.2.2.2.1.2.1==2) (ae (aW 2 d.1) (ae (aW y0 d.1) (opt (fq (DD.1 2) (DD.2.1 2) (DD.2.2 2) (DD.1 y1) (DD.2.1 y1) (DD.2.2 y1) n19.2.1.1 FG.1 FG.2.1 FG.2.2.1 FG.2.2.2.1 FG.2.2.2.2 n19.2.2) λd=>ret (Sum.inr (cg,d))) no) no) (ret (Sum.inr (cg,n19.2)))) no) no) no) no) no) no) no) no) no) no) no) no) no) no) no) no) no) no) no)) (λbp=>let n59:=bp.2.2;let n15:=n59.2.2;let n52:=n15.2.2;ae y0 (opt (DB (n2,bp.1,n7.1)) λd=>ae y1 (ae y2 (ae y3 (ae y4 (ae y5 (ae y6 (ae y7 (ae y8 (ae y9 (opt (aZ ((0,6,true),(n22,d.2,n9),(av5 (λk=>cr (n35 k) [d.1.1.1 k,n15.2.1 k,bp.2.1 k,bq.1 k,n55 k,n35 k]) (cr n24 [d.1.1.2.1,n52.1,n59.1,bq.2.1,n5.1,n24],cr n8.1 [d.1.1.2.2.1,n52.2.1,n59.2.1,n37.1,n5.2.1,n8.1],cr n36 [d.1.1.2.2.2,n52.2.2,n15.1,n37.2,n56,n36])),n7)) λd=>let K0:=d.2.2;let n20:=d.2.1;let n53:=n20.1.2.2.2.2;let Rl:=n20.2.1.2;let n30:=n53.2.2.2.2.2.2.2.2.2.2.2.2;let y0:=wI (Int.ofNat d.1-1);let y1:=Int.toNat y0;ae (Nat.beq d.1 d.1) (ae (Nat.beq n53.1 n53.1) (ae (Nat.beq n30 n30) (ae y3 (ae y4 (ae y5 (ae y6 (ae y7 (ae y8 (ae y9 (opt (dx ((d.1,true),n20.1,K0,n7.1,SY,n16.1,n32,n4.1,n33,n23,n6.1,n34,n20.2,n17)) λcg=>ae (cg.2.2.2.2.2.1.2.1==2) (ae (aW 2 d.1) (ae (aW y0 d.1) (opt (fq (K0.1 2) (K0.2.1 2) (K0.2.2 2) (K0.1 y1) (K0.2.1 y1) (K0.2.2 y1) n20.2.1.1 Rl.1 Rl.2.1 Rl.2.2.1 Rl.2.2.2.1 Rl.2.2.2.2 n20.2.2) λd=>ret (Sum.inr (cg,d))) no) no) (ret (Sum.inr (cg,n20.2)))) no) no) no) no) no) no) no) no) no) no) no) no) no) no) no) no) no) no) no) (ae y1 (ae y2 (ae y3 (ae y4 (ae y5 (ae y6 (ae y7 (ae y8 (ae y9 (opt (aZ ((0,5,true),(n22,bp.1,n9),(av5 (λk=>cr (n35 k) [n15.2.1 k,bp.2.1 k,bq.1 k,n55 k,n35 k]) (cr n24 [n52.1,n59.1,bq.2.1,n5.1,n24],cr n8.1 [n52.2.1,n59.2.1,n37.1,n5.2.1,n8.1],cr n36 [n52.2.2,n15.1,n37.2,n56,n36])),n7)) λd=>let M3:=d.2.2;let n21:=d.2.1;let n54:=n21.1.2.2.2.2;let WY:=n21.2.1.2;let n31:=n54.2.2.2.2.2.2.2.2.2.2.2.2;let y0:=wI (Int.ofNat d.1-1);let y1:=Int.toNat y0;ae (Nat.beq d.1 d.1) (ae (Nat.beq n54.1 n54.1) (ae (Nat.beq n31 n31) (ae y3 (ae y4 (ae y5 (ae y6 (ae y7 (ae y8 (ae y9 (opt (dx ((d.1,true),n21.1,M3,n7.1,SY,n16.1,n32,n4.1,n33,n23,n6.1,n34,n21.2,n17)) λcg=>ae (cg.2.2.2.2.2.1.2.1==2) (ae (aW 2 d.1) (ae (aW y0 d.1) (opt (fq (M3.1 2) (M3.2.1 2) (M3.2.2 2) (M3.1 y1) (M3.2.1 y1) (M3.2.2 y1) n21.2.1.1 WY.1 WY.2.1 WY.2.2.1 WY.2.2.2.1 WY.2.2.2.2 n21.2.2) λd=>ret (Sum.inr (cg,d))) no) no) (ret (Sum.inr (cg,n21.2)))) no) no) no) no) no) no) no) no) no) no) no) no) no) no) no) no) no) no) no))))
def lX:=λx=>(xd zW uf gW yg tG C5 dL kr ko x).val
theorem aaH:∀se Ar cP Eu As DB aZ dx fq,D0 [aeT se,Wd Ar,xy cP,abR Eu,Vn As,ako DB,oU aZ,Dv dx,Dg fq] 168 lW GD λb=>xd se Ar cP Eu As DB aZ dx fq b:=λ_ _ _ _ _ _ _ _ _ b=>by kernel_rfl
theorem aaI [ax]:SC (GG lX):=s0 (.c ata (.c aqB (.c FD (.c avr (.c aqg (.c aCa (.c ua (.c Pe (.c VH (.nil _)))))))))) (aaH zW uf gW yg tG C5 dL kr ko)
end Go.Proofs.YtldgljclcgaibaaGreat
namespace Go.Proofs.YtldgljclcgaibaaGreat
open Go.Ab Go.Ab.Pg
theorem aaJ (x:Int):nD x=some (decide (0<=x)&&decide (x<6)):=by
 simp only[nD,SI,bI,bO]
 by_cases h0:0<=x<;>simp[h0]
theorem aSL {x:Int}(h:(decide (0<=x)&&decide (x<6))=true)(k:Nat)(hk:k<=6):aW x 6=true∧Nat.ble (0+Int.toNat x*6+k) 36=true∧Nat.ble (0+Int.toNat x*6+k) 37=true:=by
 simp only[Bool.and_eq_true,decide_eq_true_eq] at h
 simp only[bl,bP];omega
instance aDF (x0:Int)(x1:Int)(x2:Nat->Int)(x3:Nat->Int)(x4:Nat->Bool)(x5:Nat->Int)(x6:Nat->Int)(x7:Nat->Int)(x8:Int):bj (lQ x0 x1 x2 x3 x4 x5 x6 x7 x8):=by
 unfold lQ wP
 refine aF ?_
 rw[aaJ,bR,aL]
 refine⟨λh=> ?_,λ_=>by rw[av];trivial⟩
 obtain⟨h1,h2,h3⟩:=aSL h 6 (by omega)
 simp only[bB,h1,h2,true_implies,Bool.true_eq_false,false_implies]
theorem xf (x0:Int)(x1:Int)(x2:Nat)(x3:Nat->Int)(x4:Nat->Int)(x5:Nat->Bool)(x6:Nat->Int)(x7:Nat->Int)(x8:Nat->Int)(x9:Int)(fS:Nat->Bool)(fT:Nat->Int)(BF:Nat->Int)(w0:Bool)(h:x2<=1999):bj (lP x0 x1 x2 x3 x4 x5 x6 x7 x8 x9 fS fT BF w0):=by
 have tc:=λa b c e=>aox x2 a b c e h
 unfold lP wM
 try dsimp only
 refine aF ?_
 rw[aaJ,bR,aL]
 refine⟨λ_=>by rw[av];trivial,λh=> ?_⟩
 rw[Bool.not_eq_false'] at h
 obtain⟨h1,h2,h3⟩:=aSL h 3 (by omega)
 simp only[bB,h1,h2,h3,Bool.and_self,aR,true_implies,Bool.true_eq_false,false_implies]
theorem SZ (d:dg.B)(hd:0<=d.1.2.2∧d.1.2.2<=6):Ok (tK d) (λx:im=>True):=
 bd (s:=_) (λd:dg.B=>0<=d.1.2.2∧d.1.2.2<=6) (λd:dg.B=>Int.toNat (6-d.1.2.2)) (λx:im=>True) (λd hd=>by
  have hw:wI (d.1.2.2+1)=d.1.2.2+1:=bf (by omega) (by omega)
  unfold tJ
  simp only[bB]
  simp only[nf,Bool.not_eq_true',sO,hw]
  repeat' (first|exact True.intro|omega|(intro _)|(apply And.intro))) 2000 d hd (by omega)
instance aDG (x0:Int)(x1:Nat->Int)(x2:Nat->Int)(x3:Nat->Bool)(x4:Nat->Int)(x5:Nat->Int)(x6:Nat->Int)(x7:Int):bj (lR x0 x1 x2 x3 x4 x5 x6 x7):=by
 unfold lR wQ
 refine aF ?_
 refine aA (SZ _ (by simp)) λd _ hd=> ?_
 simp only[bB]
instance aXM (x:Int)(eM:Bool):bj (zn x eM):=by
 have h1:=oi x
 obtain⟨a,b,q,e,ho,hq,hv,_⟩:=aj7 (sat x) 30 (by omega) (by omega) (by omega)
 unfold zn adT
 refine aF ?_
 rw[oz,bR,aL]
 refine⟨λ_=>by rw[av];trivial,λc=> ?_⟩
 have c:=of_decide_eq_false c
 have e30:(2:Int)^30=1073741824:=rfl
 have q1:q=true:=by rw[hq,e30];omega
 have v:=hv q1
 rw[e30] at v
 have e':sG (sat x) 30=some ((a,b),q):=e
 have h0:0<=a:=by
  obtain⟨o1,o2,o3,o4⟩:=ho
  simp only[vW] at v;omega
 obtain⟨r,hr,_,_⟩:=ap8 a b ho h0
 rw[e',bR,asO a b r _ ho h0 hr,bR,av]
 trivial
instance aWi (x0:Nat->Int)(x3:Bool)(x4:Nat->Int)(w0:Bool):bj (iX x0 4 3 x3 x4 w0):=VI _ _ _ _ _ _ (by omega) (by omega)
instance aWj (x0:Nat->Int)(x3:Bool)(x4:Nat->Int)(w0:Bool):bj (iX x0 7 2 x3 x4 w0):=VI _ _ _ _ _ _ (by omega) (by omega)
instance aWk (x0:Nat->Int)(x3:Bool)(x4:Nat->Int)(w0:Bool):bj (iX x0 9 1 x3 x4 w0):=VI _ _ _ _ _ _ (by omega) (by omega)
instance aT3 (x0:Nat->Int)(x1:Int)(x2:Bool):bj (kT x0 x1 x2):=by
 unfold kT afa
 exact aF (by simp only[bB,ov])
instance aTi (x0:Nat->Int)(x1:Int)(x2:Int)(x3:Int)(x4:Int)(x5:Int)(x6:Int)(x7:Int)(x8:Int)(x9:Int)(fS:Int)(fT:Int):bj (pB x0 x1 x2 x3 x4 x5 x6 x7 x8 x9 fS fT):=by
 unfold pB aaC
 exact aF (by simp only[bB,ov])
instance aTj (x:Bz.B):bj (wW x):=by
 unfold wW N5
 try dsimp only
 exact aF (by simp only[bB,ov])
instance aCM (x:iB.B):bj (eO x):=by
 unfold eO om
 exact aF (by simp only[bB,ov])
instance aHF (x:oC.B):bj (oD x):=by
 unfold oD BN
 exact aF (by simp only[bB,ov])
instance aSM (x0:Int)(x1:Int)(x2:Int):bj (lV x0 x1 x2):=by
 unfold lV KM
 exact aF (by simp only[bB,ov])
instance aT4 (x0:Int)(x1:Int)(x2:Int):bj (vY x0 x1 x2):=by
 unfold vY afd
 exact aF (by simp only[bB,ov])
instance aNu (x0:Nat->Int)(x1:Nat->Int)(x2:Nat->Int)(x3:Int)(x4:Int)(x5:Int)(x6:Int)(x7:Bool):bj (vZ x0 x1 x2 x3 x4 x5 x6 x7):=by
 unfold vZ KO
 try dsimp only
 exact aF (by simp only[bB,ov])
instance aKb (x0:Nat->Int)(x1:Nat->Int)(x2:Nat->Int)(x3:Int)(x4:Int)(x5:Int)(x6:Bool):bj (rv x0 x1 x2 x3 x4 x5 x6):=by
 unfold rv Ft
 try dsimp only
 exact aF (by simp only[bB,ov])
instance aPb (x0:Nat->Int)(x1:Nat->Int)(x2:Nat->Int)(x3:Int)(x4:Int)(x5:Bool):bj (A7 x0 x1 x2 x3 x4 x5):=by
 unfold A7 Rf
 exact aF (by simp only[bB,ov])
instance azR (x:jF.B):bj (gG x):=by
 unfold gG rQ
 try dsimp only
 exact aF (by simp only[bB,ov])
instance ayd (x:iz.B):bj (fA x):=by
 unfold fA pZ
 try dsimp only
 exact aF (by simp only[bB,ov])
instance aMk (x0:Int):bj (tP x0):=by
 unfold tP HS
 exact aF (by simp only[bB,ov])
instance aJG (x0:Int)(x1:Int):bj (kq x0 x1):=by
 unfold kq Dl
 exact aF (by simp only[bB,ov])
instance aKc:bj lq:=by
 unfold lq Fz
 exact aF (by simp only[bB,ov])
instance aWl (x0:Int):bj (Et x0):=by
 unfold Et avD
 exact aF (by simp only[bB,ov])
theorem avF (d:fR.B)(hd:0<=d.1∧d.1<=3):Ok (He d) (λx:oc=>True):=
 bd (s:=_) (λd:fR.B=>0<=d.1∧d.1<=3) (λd:fR.B=>Int.toNat (3-d.1)) (λx:oc=>True) (λd hd=>by
  have hw:wI (d.1+1)=d.1+1:=bf (by omega) (by omega)
  unfold Hc
  simp only[bB]
  simp only[nf,Bool.not_eq_true',sO,hw]
  repeat' (first|exact True.intro|omega|(intro _)|(apply And.intro))) 2000 d hd (by omega)
theorem aCo (d:iY.B)(hd:0<=d.1.2∧d.1.2<=24):Ok (GC d) (λx:sM=>True):=
 bd (s:=_) (λd:iY.B=>0<=d.1.2∧d.1.2<=24) (λd:iY.B=>Int.toNat (24-d.1.2)) (λx:sM=>True) (λd hd=>by
  have hw:wI (d.1.2+1)=d.1.2+1:=bf (by omega) (by omega)
  unfold N9
  simp only[bB]
  simp only[nf,Bool.not_eq_true',sO,hw]
  repeat' (first|exact True.intro|omega|(intro _)|(apply And.intro))) 2000 d hd (by omega)
end Go.Proofs.YtldgljclcgaibaaGreat
namespace Go.Proofs.YtldgljclcgaibaaGreat
open Go.Ab Go.Ab.Pg
instance aDH (x0:Int)(x1:Nat->Int)(x2:Nat->Int)(x3:Nat->Bool)(x4:Nat->Int)(x5:Nat->Int)(x6:Nat->Int)(x7:Int):bj (lS x0 x1 x2 x3 x4 x5 x6 x7):=by
 unfold lS wT
 refine aF ?_
 rw[aaJ,bR,aL]
 refine⟨λ_=>by rw[av];trivial,λh=> ?_⟩
 rw[Bool.not_eq_false'] at h
 obtain⟨h1,h2,h3⟩:=aSL h 6 (by omega)
 simp only[bB,h1,h2,true_implies,Bool.true_eq_false,false_implies]
instance aTk (x0:Int)(x1:Int)(x2:Int)(x3:Int)(x4:Int)(x5:Int)(x6:Int)(x7:Int):bj (wV x0 x1 x2 x3 x4 x5 x6 x7):=by
 unfold wV N3
 refine aF ?_
 refine aA (avF _ (by simp)) λd _ hd=> ?_
 simp only[bB]
instance aJH (x:mJ.B):bj (bH x):=by
 unfold bH vX
 try dsimp only
 exact aF (by simp only[bB,ov])
instance aU8 (x:Dj.B):bj (yQ x):=by
 have key:∀d,(0<=d.1.2∧d.1.2<=24)->∀(k1 k2),(∀a,PQ (k1 a) λ_=>True)->(∀a,PQ (k2 a) λ_=>True)->PQ (opt (GC d) λx=>sum x k1 k2) (δ:=ak2) (λ_=>True):=λd hd k1 k2 h1 h2=>by
  refine aA (aCo d hd) λx _ _=> ?_
  rw[zf]
  exact⟨λa _=>h1 a,λa _=>h2 a⟩
 unfold yQ Yu
 try dsimp only
 refine aF ?_
 repeat' (first|(rw[aL];refine⟨λ_=>by rw[av];trivial,λ_=> ?_⟩)|(rw[bx];intro _ _))
 refine key _ (by simp) _ _ (λ_=>by rw[av];trivial) (λ_=> ?_)
 simp only[bB]
theorem M4 (n:Nat)(d:cJ.B)(hd:0<=d.1.2.2∧d.1.2.2<=d.1.2.1∧d.1.2.1<=1999∧d.1.2.1=((d.1.1:Nat):Int)∧d.2.1.2.2=d.1.1∧d.1.1=n):Ok (p6 d) (λx:fB=>x.1.1=n):=
 bd (s:=_) (λd:cJ.B=>0<=d.1.2.2∧d.1.2.2<=d.1.2.1∧d.1.2.1<=1999∧d.1.2.1=((d.1.1:Nat):Int)∧d.2.1.2.2=d.1.1∧d.1.1=n) (λd:cJ.B=>Int.toNat (d.1.2.1-d.1.2.2)) (λx:fB=>x.1.1=n) (λd hd=>by
  have hw:wI (d.1.2.2+1)=d.1.2.2+1:=bf (by omega) (by omega)
  unfold p5
  simp only[bB]
  simp only[nf,Bool.not_eq_true',sO,hw]
  repeat' (first|exact True.intro|exact hd.2.2.2.2.1|exact hd.2.2.2.2.2|omega|(intro _)|(apply And.intro))) 2000 d hd (by omega)
theorem M5 (n:Nat)(d:cK.B)(hd:0<=d.1.2.2∧d.1.2.2<=d.1.2.1∧d.1.2.1<=1999∧d.1.2.1=((d.1.1:Nat):Int)∧d.2.1.2.2=d.1.1∧d.1.1=n):Ok (p8 d) (λx:fC=>x.1.1=n):=
 bd (s:=_) (λd:cK.B=>0<=d.1.2.2∧d.1.2.2<=d.1.2.1∧d.1.2.1<=1999∧d.1.2.1=((d.1.1:Nat):Int)∧d.2.1.2.2=d.1.1∧d.1.1=n) (λd:cK.B=>Int.toNat (d.1.2.1-d.1.2.2)) (λx:fC=>x.1.1=n) (λd hd=>by
  have hw:wI (d.1.2.2+1)=d.1.2.2+1:=bf (by omega) (by omega)
  unfold p7
  simp only[bB]
  simp only[nf,Bool.not_eq_true',sO,hw]
  repeat' (first|exact True.intro|exact hd.2.2.2.2.1|exact hd.2.2.2.2.2|omega|(intro _)|(apply And.intro))) 2000 d hd (by omega)
end Go.Proofs.YtldgljclcgaibaaGreat
namespace Go.Proofs.YtldgljclcgaibaaGreat
open Go.Ab Go.Ab.Pg
theorem Rm (x:jG.B)(h:x.1.2.2<=1999):Ok (jH x) (λr:rR=>r.2.1=x.1.2.2):=by
 unfold jH rT
 show PQ _ _
 rw[aR,bG]
 refine⟨rfl,aA (M4 x.1.2.2 _ ?_) λd _ hd=> ?_⟩
 ·dsimp only
  simp only[Int.ofNat_eq_natCast]
  exact⟨by omega,by omega,by omega,trivial,trivial,trivial⟩
 ·rw[av];exact hd
theorem Rn (x:jI.B)(h:x.1.2.2<=1999):Ok (jJ x) (λr:rW=>r.2.1=x.1.2.2):=by
 unfold jJ rY
 show PQ _ _
 rw[aR,bG]
 refine⟨rfl,aA (M5 x.1.2.2 _ ?_) λd _ hd=> ?_⟩
 ·dsimp only
  simp only[Int.ofNat_eq_natCast]
  exact⟨by omega,by omega,by omega,trivial,trivial,trivial⟩
 ·rw[av];exact hd
theorem K1 (d:cm.B)(hd:0<=d.1.2.2.2.2∧d.1.2.2.2.2<=d.1.2.2.2.1∧d.1.2.2.2.1<=1999∧d.1.2.2.2.1=((d.1.2.2.1.1:Nat):Int)):Ok (og d) (λx:eR=>True):=
 bd (s:=_) (λd:cm.B=>0<=d.1.2.2.2.2∧d.1.2.2.2.2<=d.1.2.2.2.1∧d.1.2.2.2.1<=1999∧d.1.2.2.2.1=((d.1.2.2.1.1:Nat):Int)) (λd:cm.B=>Int.toNat (d.1.2.2.2.1-d.1.2.2.2.2)) (λx:eR=>True) (λd hd=>by
  have hw:wI (d.1.2.2.2.2+1)=d.1.2.2.2.2+1:=bf (by omega) (by omega)
  unfold oe
  simp only[bB]
  simp only[nf,Bool.not_eq_true',sO,hw]
  repeat' (first|exact True.intro|omega|(intro _)|(apply And.intro))) 2000 d hd (by omega)
theorem Pm (x0:Nat)(x1:Nat)(x2:Nat->Int)(x3:Nat->Int)(w0:Bool)(w1:Bool)(h:x0<=1999):bj (fD x0 x1 x2 x3 w0 w1):=by
 unfold fD p9
 refine aF ?_
 rw[aR,aR,bG,bG]
 refine⟨rfl,rfl,aA (K1 _ (hdN x0 h)) λd _ hd=> ?_⟩
 simp only[bB]
instance aU9 (x2 x3:Nat->Int)(w0 w1:Bool):bj (fD 8 8 x2 x3 w0 w1):=Pm _ _ _ _ _ _ (by omega)
instance aPc (x:A8.B):bj (rm x):=by
 unfold rm Ri
 try dsimp only
 exact aF (by simp only[bB,ov])
theorem aJI (n:Nat)(i j:Int)(h0:0<=i)(h1:i<=j)(h2:j<=(n:Int))(x3 x4 x5 x6 x7 x8 x9 fS fT:Nat->Int):
  Ok (cz n i j x3 x4 x5 x6 x7 x8 x9 fS fT true) (λr:fU=>r.1=Int.toNat i+(n-Int.toNat j)):=by
 have b1:Nat.ble (Int.toNat i) (Int.toNat j)=true:=by rw[bP];omega
 have b2:Nat.ble (Int.toNat j) n=true:=by rw[bP];omega
 unfold cz
 rw[b1,b2,decide_eq_true h0,decide_eq_true (show 0<=j by omega)]
 exact⟨_,rfl,rfl⟩
theorem aMl (n:Nat)(hn:n<=1999)(x1 x2 x3 x4 x5 x6 x7 x8 x9:Nat->Int)(w:Bool):
  Ok (eC n x1 x2 x3 x4 x5 x6 x7 x8 x9 w) (λr:gF=>r.1=n):=by
 have b1:Nat.ble (n*72) 140737488355328=true:=by rw[bP];omega
 unfold eC
 rw[b1]
 exact⟨_,rfl,rfl⟩
end Go.Proofs.YtldgljclcgaibaaGreat
namespace Go.Proofs.YtldgljclcgaibaaGreat
open Go.Ab Go.Ab.Pg
theorem aJJ (s:Nat)(hs:s<=120)(n:Nat)(hn:n<=100)(eM:Bool)(f:Nat->Int)(w w':Bool):
  tn (Int.ofNat s) n n eM f w w'=some (sat (Kp (xt (λj=>sat (f j)*sat (f j)) n) s),(eM||CZ (λj=>eS (f j)||eS (f j)) n)||eS (Kp (xt (λj=>sat (f j)*sat (f j)) n) s)):=by
 simp only[tn,MV,Pg.bO,Pg.bI,Pg.bZ,Pg.eB,Pg.dB]
 try delta wI wU
 unfold HQ
 have n0:decide (Int.ofNat s<0)=false:=by simp
 have n1:decide (Int.ofNat s>120)=false:=by simp only[Int.ofNat_eq_natCast];exact decide_eq_false (by omega)
 have m:(if 100<if Int.ofNat n<Int.ofNat n then Int.ofNat n else Int.ofNat n then 100 else if Int.ofNat n<Int.ofNat n then Int.ofNat n else Int.ofNat n)=Int.ofNat n:=by
  have e:¬Int.ofNat n<Int.ofNat n:=by omega
  rw[if_neg e,if_neg (by simp only[Int.ofNat_eq_natCast];omega)]
 rw[n0,n1,cond_false,cond_false,Nat.beq_refl,cond_true,m]
 refine LZ (λt d=>∃(i:Nat) (h l':Int),i+t=n∧okW h l'∧vW h l'=xt (λj=>sat (f j)*sat (f j)) i∧d=((Int.ofNat s,(n,w),(n,w'),Int.ofNat n,Int.ofNat i),(eM||CZ (λj=>eS (f j)||eS (f j)) i),f,h,l')) ?_ 2000 n _ (by omega)
  ⟨0,0,0,by omega,⟨by omega,by omega,by omega,by omega⟩,rfl,by simp only[CZ,Bool.or_false];rfl⟩
 rintro t _ c ⟨i,h,l',hi,ho,hv,rfl⟩ hc
 have bnd:=aj5 (λj=>sat (f j)*sat (f j)) 1329227995784915872903807060280344576 (by omega) i (λj _=>abD _ _)
 rcases Nat.eq_zero_or_pos t with t0|t0
 ·have e:i=n:=by omega
  subst e
  simp only[Ac,Pg.tu,Pg.tv,Pg.xN,Pg.DV,Pg.tw,Sum.elim_inl,Sum.elim_inr,wI,asL (Nat.le_refl i),cond_false,aeJ h l' s _ hs ho,hv,Option.bind_some]
 ·have hs1:=oi (f i)
  have Ts:=oi (f i)
  have hm:=abD (f i) (f i)
  obtain⟨h1,l1,e1,o1,v1⟩:=Bu (sat (f i)) (sat (f i)) (by omega) (by omega) (by omega) (by omega)
  obtain⟨h2,l2,e2,o2,v2⟩:=aeK (λj:Nat=>bif Nat.beq j 1 then h1 else bif Nat.beq j 0 then h else h) (λj:Nat=>bif Nat.beq j 1 then l1 else bif Nat.beq j 0 then l' else l') true
   ho o1 (by show _<=vW h l'+vW h1 l1;rw[hv,v1];omega) (by show vW h l'+vW h1 l1<_;rw[hv,v1];omega)
  have v2:vW h2 l2=vW h l'+vW h1 l1:=v2
  rw[hv,v1] at v2
  have q:Int.toNat (Int.ofNat i)=i:=rfl
  simp only[Ac,Pg.tu,Pg.tv,Pg.xN,Pg.DV,Pg.tw,Sum.elim_inl,Sum.elim_inr,wI,asK hi t0,asM (show i<n by omega),cond_true,q,oz,Option.bind_some,e1,e2,asN (show i<9000000000000000000 by omega)]
  refine hc (t-1) _ (by omega) ⟨i+1,h2,l2,by omega,o2,v2,?_⟩
  simp only[CZ,Bool.or_assoc]
instance aWm (eM:Bool)(f:Nat->Int)(w w':Bool):bj (tn 30 2 2 eM f w w'):=⟨_,aJJ 30 (by omega) 2 (by omega) eM f w w'⟩
instance aMm (x0:Nat->Int)(x1:Int)(x2:Int)(x3:Int)(x4:Bool):bj (tN x0 x1 x2 x3 x4):=by
 unfold tN HR
 exact aF (by simp only[bB,ov])
instance aPd (x0:Int)(x1:Int)(x2:Int)(x3:Int)(x4:Int)(x5:Int)(x6:Int)(x7:Int)(x8:Int)(x9:Int):bj (A' x0 x1 x2 x3 x4 x5 x6 x7 x8 x9):=by
 unfold A' Rk
 exact aF (by simp only[bB,ov])
end Go.Proofs.YtldgljclcgaibaaGreat
namespace Go.Proofs.YtldgljclcgaibaaGreat
open Go.Ab Go.Ab.Pg
theorem aHe (x:tX.B)(h:x.1.2.1<=1999):bj (iQ x):=by
 have tr:=λa b c d e g i j k l m w=>xf a b x.1.2.1 c d e g i j k l m w
 unfold iQ H0
 try dsimp only
 refine aF ?_
 rw[aR,bG]
 refine⟨rfl,?_⟩
 have:=xf
 refine aA (bj.Ok (xf _ _ _ _ _ _ _ _ _ _ _ _ _ _ h) (Q:=λ_=>True) λ_ _=>trivial) λd _ _=> ?_
 rw[av];trivial
instance aW8 (x:ry.B):bj (gW x):=by
 unfold gW FB
 try dsimp only
 refine aF ?_
 iterate 9 (rw[aR,bG];refine⟨rfl,?_⟩)
 refine aA (bj.Ok (aHe ((x.1,1,true),_) (by show 1<=1999;omega)) (Q:=λ_=>True) λ_ _=>trivial) λd _ _=> ?_
 rw[av];trivial
instance aWn (x:qg.B):bj (c8 x):=by
 unfold c8 Ds
 try dsimp only
 refine aF ?_
 iterate 9 (rw[aR,bG];refine⟨rfl,?_⟩)
 refine aA (bj.Ok (aHe ((x.1,1,true),_) (by show 1<=1999;omega)) (Q:=λ_=>True) λ_ _=>trivial) λd _ _=> ?_
 rw[av];trivial
theorem Pn (x:tY.B)(h:x.2.1.2.2.2.2.2.2.2.2.2.2.2.2.2.2.2.2<=100000):Ok (mA x) (λr:Aj=>r.1.2.2.2.2.2.2.2.2.2.2.2.2.2.2.2.2=x.2.1.2.2.2.2.2.2.2.2.2.2.2.2.2.2.2.2+1∧r.1.2.2.2.2.1=x.2.1.2.2.2.2.1∧r.1.2.2.2.2.2.2.2.2.2.2.2.2.2.1=x.2.1.2.2.2.2.2.2.2.2.2.2.2.2.2.1):=by
 unfold mA H6
 try dsimp only
 show PQ _ _
 rw[bG,av]
 exact⟨by rw[bP];omega,rfl,rfl,rfl⟩
theorem acf (x:tZ.B)(h:x.1.2.1<=1999):Ok (dL x) (λr:Ak=>r.1=x.1.2.1∧r.2.1.1.2.2.2.2.2.2.2.2.2.2.2.2.2.2.2.2=x.2.1.2.2.2.2.2.2.2.2.2.2.2.2.2.2.2.2∧r.2.1.1.2.2.2.2.1=x.2.1.2.2.2.2.1∧r.2.1.1.2.2.2.2.2.2.2.2.2.2.2.2.2.1=x.2.1.2.2.2.2.2.2.2.2.2.2.2.2.2.1):=by
 unfold dL H7
 try dsimp only
 show PQ _ _
 rw[aR,bG]
 refine⟨rfl,aA (aG9 _ h) λd _ hd=> ?_⟩
 iterate 10 (rw[aR,bG];refine⟨rfl,?_⟩)
 refine aA (bj.Ok (aHe ((x.1.1,d.1.2.2,true),_) (by show d.1.2.2<=1999;rw[hd];exact h)) (Q:=λ_=>True) λ_ _=>trivial) λd1 _ _=> ?_
 rw[av]
 exact⟨hd,rfl,rfl,rfl⟩
theorem Wg (x:qi.B)(h:x.1.1<=1999):Ok (kr x) (λr:Dt=>r.2.2.2.2.2.2.2.2.2.2.2.2.2.2.2.2=x.2.1.2.2.2.2.2.2.2.2.2.2.2.2.2.2.2.2∧r.2.2.2.2.1=x.2.1.2.2.2.2.1∧r.2.2.2.2.2.2.2.2.2.2.2.2.2.1=x.2.1.2.2.2.2.2.2.2.2.2.2.2.2.2.1):=by
 unfold kr Dw
 try dsimp only
 show PQ _ _
 rw[aR,bG]
 refine⟨rfl,aA (bj.Ok (aox x.1.1 _ _ _ _ h) (Q:=λ_=>True) λ_ _=>trivial) λd1 _ _=> ?_⟩
 rw[aL]
 exact⟨λ_=>by rw[av];exact⟨rfl,rfl,rfl⟩,λ_=>by rw[av];exact⟨rfl,rfl,rfl⟩⟩
theorem aSN (x:ue.B)(h:x.2.1.2.2.2.2.2.2.2.2.2.2.2.2.2.2.2.2<=90000):Ok (uf x) (λr:Ao=>r.1.2.2.2.2.2.2.2.2.2.2.2.2.2.2.2.2<=x.2.1.2.2.2.2.2.2.2.2.2.2.2.2.2.2.2.2+3∧r.1.2.2.2.2.1=x.2.1.2.2.2.2.1∧r.1.2.2.2.2.2.2.2.2.2.2.2.2.2.1=x.2.1.2.2.2.2.2.2.2.2.2.2.2.2.2.1):=by
 unfold uf H9
 try dsimp only
 show PQ _ _
 simp only[aR]
 rw[bx];intro d _
 rw[bx];intro d1 _
 iterate 9 (rw[bG];refine⟨rfl,?_⟩)
 refine aA (Pn _ (show x.2.1.2.2.2.2.2.2.2.2.2.2.2.2.2.2.2.2<=100000 by omega)) λd2 _ h2=> ?_
 have h2:d2.1.2.2.2.2.2.2.2.2.2.2.2.2.2.2.2.2=x.2.1.2.2.2.2.2.2.2.2.2.2.2.2.2.2.2.2+1∧d2.1.2.2.2.2.1=x.2.1.2.2.2.2.1∧d2.1.2.2.2.2.2.2.2.2.2.2.2.2.2.1=x.2.1.2.2.2.2.2.2.2.2.2.2.2.2.2.1:=h2
 rw[bx];intro d3 _
 iterate 9 (rw[bG];refine⟨rfl,?_⟩)
 refine aA (Pn _ (show d2.1.2.2.2.2.2.2.2.2.2.2.2.2.2.2.2.2<=100000 by omega)) λd4 _ h4=> ?_
 have h4:d4.1.2.2.2.2.2.2.2.2.2.2.2.2.2.2.2.2=d2.1.2.2.2.2.2.2.2.2.2.2.2.2.2.2.2.2+1∧d4.1.2.2.2.2.1=d2.1.2.2.2.2.1∧d4.1.2.2.2.2.2.2.2.2.2.2.2.2.2.1=d2.1.2.2.2.2.2.2.2.2.2.2.2.2.2.1:=h4
 rw[aL]
 refine⟨λ_=> ?_,λ_=>by rw[av];omega⟩
 rw[bx];intro d5 _
 iterate 9 (rw[bG];refine⟨rfl,?_⟩)
 refine aA (Pn _ (show d4.1.2.2.2.2.2.2.2.2.2.2.2.2.2.2.2.2<=100000 by omega)) λd6 _ h6=> ?_
 have h6:d6.1.2.2.2.2.2.2.2.2.2.2.2.2.2.2.2.2=d4.1.2.2.2.2.2.2.2.2.2.2.2.2.2.2.2.2+1∧d6.1.2.2.2.2.1=d4.1.2.2.2.2.1∧d6.1.2.2.2.2.2.2.2.2.2.2.2.2.2.1=d4.1.2.2.2.2.2.2.2.2.2.2.2.2.2.1:=h6
 rw[av];omega
end Go.Proofs.YtldgljclcgaibaaGreat
namespace Go.Proofs.YtldgljclcgaibaaGreat
open Go.Ab Go.Ab.Pg
theorem aHf (x:nG.B):Ok (nH x) (λr:Al=>r.1.2.2.2.2.2.2.2.2.2.2.2.2.2.2.2.2=x.2.1.2.2.2.2.2.2.2.2.2.2.2.2.2.2.2.2∧r.1.2.2.2.2.1=x.2.1.2.2.2.2.1∧r.1.2.2.2.2.2.2.2.2.2.2.2.2.2.1=x.2.1.2.2.2.2.2.2.2.2.2.2.2.2.2.1):=by
 unfold nH Am
 try dsimp only
 show PQ _ _
 simp only[aR]
 repeat' (first
  |rw[aC]
  |(rw[aL];refine⟨λ_=> ?_,λ_=> ?_⟩)
  |(rw[rI];refine⟨λ_ _=> ?_,λ_ _=> ?_⟩)
  |(with_reducible refine aA (acf _ ?_) λe _ he=> ?_)
  |(with_reducible refine aA (Wg _ ?_) λq _ hq=> ?_)
  |(with_reducible refine aA (Pn _ ?_) λt _ ht=> ?_)
  |(rw[bx];intro _ _))
 all_goals first|(rw[av];exact⟨hq.1.trans he.2.1,hq.2.1.trans he.2.2.1,hq.2.2.trans he.2.2.2⟩)|(rw[av];exact he.2)|(rw[av];exact⟨rfl,rfl,rfl⟩)|omega|(dsimp only;omega)|(have h1:=he.1;(try dsimp only at h1);(try dsimp only);omega)
theorem aHg (x:nI.B):Ok (nJ x) (λr:Ap=>r.1.2.2.2.2.2.2.2.2.2.2.2.2.2.2.2.2=x.2.1.2.2.2.2.2.2.2.2.2.2.2.2.2.2.2.2∧r.1.2.2.2.2.1=x.2.1.2.2.2.2.1∧r.1.2.2.2.2.2.2.2.2.2.2.2.2.2.1=x.2.1.2.2.2.2.2.2.2.2.2.2.2.2.2.1):=by
 unfold nJ Aq
 try dsimp only
 show PQ _ _
 simp only[aR]
 repeat' (first
  |rw[aC]
  |(rw[aL];refine⟨λ_=> ?_,λ_=> ?_⟩)
  |(rw[rI];refine⟨λ_ _=> ?_,λ_ _=> ?_⟩)
  |(with_reducible refine aA (acf _ ?_) λe _ he=> ?_)
  |(with_reducible refine aA (Wg _ ?_) λq _ hq=> ?_)
  |(with_reducible refine aA (Pn _ ?_) λt _ ht=> ?_)
  |(rw[bx];intro _ _))
 all_goals first|(rw[av];exact⟨hq.1.trans he.2.1,hq.2.1.trans he.2.2.1,hq.2.2.trans he.2.2.2⟩)|(rw[av];exact he.2)|(rw[av];exact⟨rfl,rfl,rfl⟩)|omega|(dsimp only;omega)|(have h1:=he.1;(try dsimp only at h1);(try dsimp only);omega)
theorem aDI (x0:Nat->Int)(x1:Int)(x2:Int)(x3:Int)(x4:Int)(x5:Int)(x6:Bool):Ok (z5 x0 x1 x2 x3 x4 x5 x6) (λr:SE=>match r with|.inl e=>(e.1!=0)=true|.inr _=>True):=by
 unfold z5 SF
 try dsimp only
 show PQ _ _
 simp only[bB]
 repeat' (first|exact True.intro|rfl|assumption|(apply And.intro)|(intro _))
theorem aSO (x:ug.B):Ok (uh x) (λr:H'=>r.1.2.2.2.2.2.2.2.2.2.2.2.2.2.2.2.2=x.2.1.2.2.2.2.2.2.2.2.2.2.2.2.2.2.2.2∧r.1.2.2.2.2.1=x.2.1.2.2.2.2.1∧r.1.2.2.2.2.2.2.2.2.2.2.2.2.2.1=x.2.1.2.2.2.2.2.2.2.2.2.2.2.2.2.1):=by
 unfold uh Ia
 try dsimp only
 show PQ _ _
 simp only[aR]
 rw[bx];intro d _
 with_reducible refine aA (aDI _ _ _ _ _ _ _) λfb _ hfb=> ?_
 rw[rI]
 refine⟨λa ha=> ?_,λa ha=> ?_⟩
 ·subst ha
  have hfb:(a.1!=0)=true:=hfb
  rw[hfb]
  repeat' (first
   |rw[aC]
   |(rw[aL];refine⟨λ_=> ?_,λ_=> ?_⟩)
   |(rw[rI];refine⟨λ_ _=> ?_,λ_ _=> ?_⟩)
   |(with_reducible refine aA (acf _ ?_) λe _ he=> ?_)
   |(with_reducible refine aA (Wg _ ?_) λq _ hq=> ?_)
   |(with_reducible refine aA (Pn _ ?_) λt _ ht=> ?_)
   |(rw[bx];intro _ _))
  all_goals first|(rw[av];exact⟨hq.1.trans he.2.1,hq.2.1.trans he.2.2.1,hq.2.2.trans he.2.2.2⟩)|(rw[av];exact he.2)|(rw[av];exact⟨rfl,rfl,rfl⟩)|omega|(dsimp only;omega)|(have h1:=he.1;(try dsimp only at h1);(try dsimp only);omega)
 ·subst ha
  repeat' (first
   |rw[aC]
   |(rw[aL];refine⟨λ_=> ?_,λ_=> ?_⟩)
   |(rw[rI];refine⟨λ_ _=> ?_,λ_ _=> ?_⟩)
   |(with_reducible refine aA (acf _ ?_) λe _ he=> ?_)
   |(with_reducible refine aA (Wg _ ?_) λq _ hq=> ?_)
   |(with_reducible refine aA (Pn _ ?_) λt _ ht=> ?_)
   |(rw[bx];intro _ _))
  all_goals first|(rw[av];exact⟨hq.1.trans he.2.1,hq.2.1.trans he.2.2.1,hq.2.2.trans he.2.2.2⟩)|(rw[av];exact he.2)|(rw[av];exact⟨rfl,rfl,rfl⟩)|omega|(dsimp only;omega)|(have h1:=he.1;(try dsimp only at h1);(try dsimp only);omega)
end Go.Proofs.YtldgljclcgaibaaGreat
