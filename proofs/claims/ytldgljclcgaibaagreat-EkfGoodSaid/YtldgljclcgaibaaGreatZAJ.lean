/-
  Parts of the proof: Q4 TI TJ TK TL TM TN
-/
import Derived.Test.YtldgljclcgaibaaGreatZAE
import Derived.Test.YtldgljclcgaibaaGreatZAI
open Nat renaming beq→z9,ble→wr,blt→wl
open Int renaming toNat→z4,ofNat→ws
open Sum renaming inl→ww,inr→wt,elim→t9
set_option linter.unusedVariables false
set_option linter.unusedSimpArgs false
set_option maxRecDepth 100000
set_option maxHeartbeats 4000000
noncomputable section
namespace Go.Proofs.YtldgljclcgaibaaGreat
open Go.Ab Go.Ab.Pg Go.Ab.Rq
def I':=qa (pr (cu az3 gZ) aEn)
def yj:=qe (res (pu (app 1 6) (pu aaf (cl aWe nil))))
abbrev Ja:=yj.B
abbrev Jb:=Int->NI->NI->(Nat->Bool)->NI->NI->NI->Int->Option Ja
def Jc (g:Jb):Ct:=(45,FC I' (lf yj) (λb=>g b.1 b.2.1.1 b.2.1.2.1 b.2.1.b.1 b.2.1.b.2.1 b.2.1.c.1 b.2.1.c.2 b.b))
def Am (ly:VY)(x0:Int)(x1:Nat->Int)(x2:Nat->Int)(x3:Nat->Bool)(x4:Nat->Int)(x5:Nat->Int)(x6:Nat->Int)(x7:Int):Pg Ja:=opt (ly x0) λd=>ae (!d) (ret (0,0,false,0,0,0)) (ae (bf x0 6) (ae (wr (0+z4 x0*6+6) 36) (ret ((x1,x2,x3,x4,x5,x6).1 (z4 x0),(x2,x3,x4,x5,x6).1 (z4 x0),(x3,x4,x5,x6).1 (z4 x0),(x4,x5,x6).1 (z4 x0),x5 (z4 x0),x6 (z4 x0))) no) no)
def nE:=λx0 x1 x2 x3 x4 x5 x6 x7=>(Am pX x0 x1 x2 x3 x4 x5 x6 x7).val
theorem adJ:∀ly,D0 [VZ ly] 45 I' (lf yj) λb=>Am ly b.1 b.2.1.1 b.2.1.2.1 b.2.1.b.1 b.2.1.b.2.1 b.2.1.c.1 b.2.1.c.2 b.b:=λ_ b=>by kernel_rfl
theorem adK [ay]:SC (Jc nE):=s0 (.c ain (.nil _)) (adJ pX)
def axi:=qa (pr (cu aS agk) bK)
def adL:=qe (res (pr (aa ax4) (pl mG nil)))
abbrev axj:=adL.B
abbrev vr:=NI->Int->Bool->Option axj
def Hn (g:vr):Ct:=(103,FC axi (lf adL) (λb=>g b.1.1 b.1.2 b.2))
def V2 (aR:fH)(bk:dU)(bM:mf)(x0:Nat->Int)(x1:Int)(x2:Bool):Pg axj:=opt (aR x0 x2) λd=>opt (bk d.1) λak=>opt (bM d.1 4) λaK=>opt (bM d.1 7) λbJ=>ret ((x1,ak.1,ak.2.1,ak.2.2.1,ak.2.2.2,aK.1,aK.2.1,aK.2.2,bJ),d.2)
def kd:=λx0 x1 x2=>(V2 bY cg dZ x0 x1 x2).val
theorem aLR:∀aR bk bM,D0 [jJ aR,jh bk,sC bM] 103 axi (lf adL) λb=>V2 aR bk bM b.1.1 b.1.2 b.2:=λ_ _ _ b=>by kernel_rfl
theorem Nq [ay]:SC (Hn kd):=s0 (.c kM (.c j8 (.c vU (.nil _)))) (aLR bY cg dZ)
def ar8:=qa (pl (c kY (cl aQi nil)) nil)
def YZ:=qe aPW
abbrev ar9:=YZ.B
abbrev Ef:=NI->Int->Int->Int->Int->Int->Int->Int->Int->Int->Int->Int->Option ar9
def Q' (g:Ef):Ct:=(105,FC ar8 (lf YZ) (λb=>g b.1 b.2.1 b.b.1.1 b.b.1.2.1 b.b.1.b.1 b.b.1.b.2 b.b.2.1.1 b.b.2.1.2.1 b.b.2.1.b b.c.1 b.c.2.1 b.c.b))
def adM (cL:sD)(x0:Nat->Int)(x1:Int)(x2:Int)(x3:Int)(x4:Int)(x5:Int)(x6:Int)(x7:Int)(x8:Int)(x9:Int)(fX:Int)(fY:Int):Pg ar9:=opt (cL x0 0 4 (cr x2 [x5,x4,x3,x2]) false) λd=>opt (cL d 4 3 (cr x6 [x8,x7,x6]) false) λd=>opt (cL d 7 3 (cr x9 [fY,fX,x9]) false) λd=>ret d
def sJ:=λx0 x1 x2 x3 x4 x5 x6 x7 x8 x9 fX fY=>(adM dJ x0 x1 x2 x3 x4 x5 x6 x7 x8 x9 fX fY).val
theorem aIc:∀cL,D0 [z5 cL] 105 ar8 (lf YZ) λb=>adM cL b.1 b.2.1 b.b.1.1 b.b.1.2.1 b.b.1.b.1 b.b.1.b.2 b.b.2.1.1 b.b.2.1.2.1 b.b.2.1.b b.c.1 b.c.2.1 b.c.b:=λ_ b=>by kernel_rfl
theorem adN [ay]:SC (Q' sJ):=s0 (.c D9 (.nil _)) (aIc dJ)
def asa:=qa (pl ab1 nil)
def Y0:=qe AT
abbrev asb:=Y0.B
abbrev asc:=Int->Int->Int->Int->Int->Int->Int->Int->Option asb
def asd (g:asc):Ct:=(101,FC asa (lf Y0) (λb=>g b.1 b.2.1 b.b.1.1 b.b.1.2.1 b.b.1.b b.b.2.1 b.c.1 b.c.2))
def kP:=qs (st (pr (us 1 (cu Wv (us 2 (cl ai (us 21 aPR))))) (pl (cl Fu nil) nil)))
def abw:=qs (st (pu (us 2 (cu uy (us 37 nil))) (pu nil nil)))
def abx:=qs (st (pr (us 1 (cu Wv (us 2 (c ai (cl ab (us 20 aPR)))))) (pl (cl Fu nil) nil)))
abbrev yN:=abw.B⊕abx.B
def akb {ρ:Type}(x:yN)(K:AX->St->Option ρ):Option ρ:=(t9 (λd=>K .ret (abw.em d)) (λd=>K (.ex 0) (abx.em d))) x
def JV (dF:O3)(d:kP.B):PL kP yN:=let n2:=d.2.2.2;let n1:=n2.2.2.2;let y0:=bf d.1 3;let y1:=d.1==1;let y2:=d.1==2;let y3:=decide (d.1<3);ae y3 (ae y0 (ae y2 (opt (dF n2.2.2.1) λak=>ae (decide (ak>34359738368)) (ret (wt (ww ()))) (ae y0 (ae y2 (opt (dF n1.2.2) λaK=>ae (decide (aK>34359738368)) (ret (wt (ww ()))) (ret (ww (wI (d.1+1),d.2)))) (ae y1 (opt (dF n1.2.1) λaK=>ae (decide (aK>34359738368)) (ret (wt (ww ()))) (ret (ww (wI (d.1+1),d.2)))) (opt (dF n1.1) λaK=>ae (decide (aK>34359738368)) (ret (wt (ww ()))) (ret (ww (wI (d.1+1),d.2)))))) no)) (ae y1 (opt (dF n2.2.1) λak=>ae (decide (ak>34359738368)) (ret (wt (ww ()))) (ae y0 (ae y2 (opt (dF n1.2.2) λaK=>ae (decide (aK>34359738368)) (ret (wt (ww ()))) (ret (ww (wI (d.1+1),d.2)))) (ae y1 (opt (dF n1.2.1) λaK=>ae (decide (aK>34359738368)) (ret (wt (ww ()))) (ret (ww (wI (d.1+1),d.2)))) (opt (dF n1.1) λaK=>ae (decide (aK>34359738368)) (ret (wt (ww ()))) (ret (ww (wI (d.1+1),d.2)))))) no)) (opt (dF n2.1) λak=>ae (decide (ak>34359738368)) (ret (wt (ww ()))) (ae y0 (ae y2 (opt (dF n1.2.2) λaK=>ae (decide (aK>34359738368)) (ret (wt (ww ()))) (ret (ww (wI (d.1+1),d.2)))) (ae y1 (opt (dF n1.2.1) λaK=>ae (decide (aK>34359738368)) (ret (wt (ww ()))) (ret (ww (wI (d.1+1),d.2)))) (opt (dF n1.1) λaK=>ae (decide (aK>34359738368)) (ret (wt (ww ()))) (ret (ww (wI (d.1+1),d.2)))))) no)))) no) (ret (wt (wt ((d.1,y3),d.2))))
def JW:=bE (JV yG) 2000
def Ra (eB:LT kP yN)(x0:Int)(x1:Int)(x2:Int)(x3:Int)(x4:Int)(x5:Int)(x6:Int)(x7:Int):Pg asb:=opt (eB (0,x0,x1,x2,x3,x4,x5,x6,x7)) λx=>sum x (λd=>ret false) λd=>ae (decide (d.2.2.1>=1)) (ae (decide (d.2.2.1<=100000)) (ae (decide (d.2.1>=0)) (ret (decide (d.2.1<=1125899906842624))) (ret false)) (ret false)) (ret false)
def An:=λx0 x1 x2 x3 x4 x5 x6 x7=>(Ra JW x0 x1 x2 x3 x4 x5 x6 x7).val
abbrev Rb:=O3×(LT kP yN)
def adO (p:Rb):KK:=⟨[aeF p.1],⟨[⟨2,(0::2::5::6::7::rg 9 4 (rg 20 6 (29::30::34::35::39::3::8::rg 13 7 []))),[]⟩],[gx 2 0 kP akb p.2],[],[],(some ⟨0,(0::1::rg 3 37 []),[]⟩)⟩,0,101⟩
theorem azy (p:Rb):LI (adO p) 2 kP akb (JV p.1):=λ_ d c K=>by kernel_rfl
theorem aId (p:Rb):D2 (adO p) asa (lf Y0) λb=>Ra p.2 b.1 b.2.1 b.b.1.1 b.b.1.2.1 b.b.1.b b.b.2.1 b.c.1 b.c.2:=λb=>by kernel_rfl
abbrev adP:Rb:=(yG,JW)
theorem aIe [ay]:SC (asd An):=sc (kS (k:=adO adP) (.c apr (.nil _)) [2] [] ⟨kL (azy adP),trivial⟩ trivial (aId adP))
def Eg:=qa (pr (cu aS (c (aa aKp) ab1)) bK)
def Y1:=qe (res (pr (aa ax1) (pl mG nil)))
abbrev ase:=Y1.B
abbrev asf:=Eg.B->Option ase
def asg (g:asf):Ct:=(102,FC Eg (lf Y1) g)
def Rc (ec:Cu)(x:Eg.B):Pg ase:=let n2:=x.1.2.2.2;let n1:=x.1.1.2.2;opt (ec 2 x.2 (cr n1.1.1 [n2.1.1,n1.1.1]) (cr n1.1.2.1 [n2.1.2.1,n1.1.2.1]) (cr n1.1.2.2 [n2.1.2.2,n1.1.2.2]) true) λd=>opt (ec 2 d.2 (cr n1.2.1 [n2.2.1,n1.2.1]) (cr n1.2.2.1 [n2.2.2.1,n1.2.2.1]) (cr n1.2.2.2 [n2.2.2.2,n1.2.2.2]) true) λak=>ret ((x.1.2.1,wI (x.1.1.2.1+x.1.2.2.1),d.1.1,d.1.2.1,d.1.2.2,ak.1),ak.2)
def Ao:=λx=>(Rc lg x).val
theorem aIf:∀ec,D0 [Ks ec] 102 Eg (lf Y1) λb=>Rc ec b:=λ_ b=>by kernel_rfl
theorem aIg [ay]:SC (asg Ao):=s0 (.c O' (.nil _)) (aIf lg)
def oQ:=qa (pr (cu (app 0 10) (cu Rv ab1)) (c mJ bK))
def Ey:=qe (res (pr (rZ (c (ra ax1) (c (rc cb) auY))) (pl (c (B9 mJ) mG) nil)))
abbrev Sa:=Ey.B
abbrev Gj:=oQ.B->Option Sa
def Sb (g:Gj):Ct:=(62,FC oQ (lf Ey) g)
def zu (Re:asc)(Rf:asf)(x:oQ.B):Pg Sa:=let n3:=x.1.2.2;let n2:=x.2.1;let n1:=(Rf ((n2.2.1,x.1),x.2.2));opt (Re x.1.1 x.1.2.1 n3.1.1 n3.1.2.1 n3.1.2.2 n3.2.1 n3.2.2.1 n3.2.2.2) λd=>ae (!d) (ret (((0,0,0,0,0,0,0,0),false,1),x.2)) (ae n2.2.2 (ae (decide (x.1.1<=n2.2.1.1)) (ret (((0,0,0,0,0,0,0,0),false,1),x.2)) (opt n1 λd=>let n4:=d.1.2;ae (decide (n4.1<n2.1)) (ret (((0,0,0,0,0,0,0,0),false,0),(n2.1,(d.1.1,n4.1,(n4.2.1,n4.2.2.1,n4.2.2.2.1),n4.2.2.2.2),true),d.2)) (ret ((d.1,true,0),(n2.1,(x.1.1,0,(0,0,0),0,0,0),true),d.2)))) (opt n1 λd=>let n5:=d.1.2;ae (decide (n5.1<n2.1)) (ret (((0,0,0,0,0,0,0,0),false,0),(n2.1,(d.1.1,n5.1,(n5.2.1,n5.2.2.1,n5.2.2.2.1),n5.2.2.2.2),true),d.2)) (ret ((d.1,true,0),(n2.1,(x.1.1,0,(0,0,0),0,0,0),true),d.2))))
def jM:=λx=>(zu An Ao x).val
theorem an9:∀Re Rf,D1 [asd Re,asg Rf] [0,1] 62 oQ (lf Ey) λb=>zu Re Rf b:=λ_ _ b=>by kernel_rfl
theorem aoa [ay]:SC (Sb jM):=s0 (.c aIe (.c aIg (.nil _))) (an9 An Ao)
def gV:=qa (pr (cu IB (cu Rv agk)) (cd agj λb0=>(c xU (cl (cl (gs b0.b ia) nil) nil))))
def xo:=qe (res (pu Wt (pr (c (B9 (c gi (cl gi (cu (gc (fJ (pu rq7 (pu AS (pu (szl Ek) (pu El fL)))))) nil)))) Ow) (cl ax4 nil))))
abbrev yk:=xo.B
abbrev ym:=gV.B->Option yk
def HH (g:ym):Ct:=(162,FC gV (lf xo) g)
def mD (ke:vr)(x:gV.B):Pg yk:=opt (ke x.1.1 x.1.2 x.2.2.1) λd=>ret (((x.2.1.1,x.2.1.2.1),d.2),d.1)
def dK:=λx=>(mD kd x).val
theorem Z5:∀ke,D0 [Hn ke] 162 gV (lf xo) λb=>mD ke b:=λ_ b=>by kernel_rfl
theorem Z6 [ay]:SC (HH dK):=s0 (.c Nq (.nil _)) (Z5 kd)
def iN:=qa (pr (cu IB (cu Rv (c kY ab1))) (cd agj λb0=>(c xU (cl (cl (gs b0.b ia) nil) nil))))
def E6:=qe (res (pr ai (pl (c (B9 agj) Ow) nil)))
def E7:=qe (res (pu Tb (pr (c (B9 aKj) (cl auX aMF)) aEq)))
abbrev iO:=E6.B⊕E7.B
def Jd:iO->T:=ls (lf E6) (lf E7)
abbrev nF:=iN.B->Option iO
def Ap (g:nF):Ct:=(63,FC iN Jd g)
def nG (v7:Ef)(Eh:QZ)(ke:vr)(x:iN.B):Pg iO:=let bx:=x.2.2.1;let n8:=x.2.1;let n6:=x.1.2.2;let n4:=x.2.2.2;let bc:=n4.2.2;let n2:=n8.2.2;let n1:=bc.2.2;let n5:=n1.2.2.2;let bn:=n5.2.2;let y0:=ws n2;let y1:=n2+1;let y2:=wI (y0-1);let y3:=z4 y2;let y4:=y1-1;let y5:=0+y4;ae (y0==0) (ret (ww (4,n8,bx))) (ae (bf y2 n2) (ae (decide (n6.1<1)) (ret (ww (1,n8,bx))) (ae (decide (x.1.2.1<=n4.1 y3)) (ret (ww (1,n8,bx))) (opt (v7 x.1.1 (n4.1 y3) (n4.2.1 y3) (bc.1 y3) (bc.2.1 y3) (n1.1 y3) (n1.2.1 y3) (n1.2.2.1 y3) (n5.1 y3) (n5.2.1 y3) (bn.1 y3) (bn.2 y3)) λd=>opt (Eh d x.1.2.1 n6.1 n6.2.1.1 n6.2.1.2.1 n6.2.1.2.2 n6.2.2.1 n6.2.2.2.1 n6.2.2.2.2 bx) λd=>opt (ke d.1 x.1.2.1 d.2) λd=>let n7:=d.1.2.2;let n3:=n7.2.2.2;let n9:=n3.2.2.2;ae (wr (y1*88) 140737488355328) (ae (decide (ws y1>n8.1)) (ae (HE 1 y1) (ae (wr (y5*88) 140737488355328) (ret (wt (((n8.1,n8.2.1,y5),d.2),y4,λj=>let y0:=1+j;bif z9 y0 n2 then d.1.1 else n4.1 y0,λj=>let y0:=1+j;bif z9 y0 n2 then d.1.2.1 else n4.2.1 y0,λj=>let y0:=1+j;bif z9 y0 n2 then n7.1 else bc.1 y0,λj=>let y0:=1+j;bif z9 y0 n2 then n7.2.1 else bc.2.1 y0,λj=>let y0:=1+j;bif z9 y0 n2 then n7.2.2.1 else n1.1 y0,λj=>let y0:=1+j;bif z9 y0 n2 then n3.1 else n1.2.1 y0,λj=>let y0:=1+j;bif z9 y0 n2 then n3.2.1 else n1.2.2.1 y0,λj=>let y0:=1+j;bif z9 y0 n2 then n3.2.2.1 else n5.1 y0,λj=>let y0:=1+j;bif z9 y0 n2 then n9.1 else n5.2.1 y0,λj=>let y0:=1+j;bif z9 y0 n2 then n9.2.1 else bn.1 y0,λj=>let y0:=1+j;bif z9 y0 n2 then n9.2.2 else bn.2 y0))) no) no) (ret (wt (((n8.1,n8.2.1,y1),d.2),y1,λj=>bif z9 j n2 then d.1.1 else n4.1 j,λj=>bif z9 j n2 then d.1.2.1 else n4.2.1 j,λj=>bif z9 j n2 then n7.1 else bc.1 j,λj=>bif z9 j n2 then n7.2.1 else bc.2.1 j,λj=>bif z9 j n2 then n7.2.2.1 else n1.1 j,λj=>bif z9 j n2 then n3.1 else n1.2.1 j,λj=>bif z9 j n2 then n3.2.1 else n1.2.2.1 j,λj=>bif z9 j n2 then n3.2.2.1 else n5.1 j,λj=>bif z9 j n2 then n9.1 else n5.2.1 j,λj=>bif z9 j n2 then n9.2.1 else bn.1 j,λj=>bif z9 j n2 then n9.2.2 else bn.2 j)))) no))) no)
def cM:=λx=>(nG sJ pG kd x).val
theorem adQ:∀v7 Eh ke,D1 [Q' v7,ac7 Eh,Hn ke] [0,1] 63 iN Jd λb=>nG v7 Eh ke b:=λ_ _ _ b=>by kernel_rfl
theorem Je [ay]:SC (Ap cM):=s0 (.c adN (.c arJ (.c Nq (.nil _)))) (adQ sJ pG kd)
def Lq:=qa (pu (cu IB nil) (cd (c gi (c gi (cl (gc (zV 1 11)) nil))) λb0=>(cl (cl (gs b0.b ia) nil) nil)))
def Aq:=qe (res (pl aWW (pu axR nil)))
abbrev Lr:=Aq.B
abbrev Ls:=Int->Int->Nat->NI->NI->NI->NI->NI->NI->NI->NI->NI->NI->NI->Option Lr
def Lt (g:Ls):Ct:=(75,FC Lq (lf Aq) (λb=>g b.1.1 b.1.2.1 b.1.b b.2.1 b.b.1 b.b.2.1 b.c.1 b.c.2.1 b.c.b.1 b.c.b.2.1 b.d.1 b.d.2.1 b.d.b.1 b.d.b.2))
def Lu (x0:Int)(x1:Int)(x2:Nat)(x3:Nat->Int)(x4:Nat->Int)(x5:Nat->Int)(x6:Nat->Int)(x7:Nat->Int)(x8:Nat->Int)(x9:Nat->Int)(fX:Nat->Int)(fY:Nat->Int)(A7:Nat->Int)(x13:Nat->Int):Pg Lr:=let y0:=wI (ws x2-1);let y1:=z4 y0;ae (ws x2==0) (ret ((0,0,0,0,0,0,0,0,0,0,0),false)) (ae (bf y0 x2) (ret (((x3,x4,x5,x6,x7,x8,x9,fX,fY,A7,x13).1 y1,(x4,x5,x6,x7,x8,x9,fX,fY,A7,x13).1 y1,(x5,x6,x7,x8,x9,fX,fY,A7,x13).1 y1,(x6,x7,x8,x9,fX,fY,A7,x13).1 y1,(x7,x8,x9,fX,fY,A7,x13).1 y1,(x8,x9,fX,fY,A7,x13).1 y1,(x9,fX,fY,A7,x13).1 y1,(fX,fY,A7,x13).1 y1,(fY,A7,x13).1 y1,A7 y1,x13 y1),true)) no)
def Bt:=λx0 x1 x2 x3 x4 x5 x6 x7 x8 x9 fX fY A7 x13=>(Lu x0 x1 x2 x3 x4 x5 x6 x7 x8 x9 fX fY A7 x13).val
theorem afj:D0 [] 75 Lq (lf Aq) λb=>Lu b.1.1 b.1.2.1 b.1.b b.2.1 b.b.1 b.b.2.1 b.c.1 b.c.2.1 b.c.b.1 b.c.b.2.1 b.d.1 b.d.2.1 b.d.b.1 b.d.b.2:=λb=>by kernel_rfl
theorem afk [ay]:SC (Lt Bt):=s0 (.nil _) afj
def nc:=qa (pu (cu Wv nil) (cd agl λb0=>(cl (cl (gs b0.b.1 aB) nil) nil)))
def CU:=qe (res (pu Wt (pl (cl (B9 agl) aaf) nil)))
abbrev Ez:=CU.B
abbrev EA:=nc.B->Option Ez
def On (g:EA):Ct:=(57,FC nc (lf CU) g)
def xP (x:nc.B):Pg Ez:=ret ((wI (x.1.1.1+1),x.1.1.2.1,x.1.1.2.2.1,wI (x.1.1.2.2.2.1+1),x.1.1.2.2.2.2),x.1.2)
def lk:=λx=>(xP x).val
theorem akQ:D0 [] 57 nc (lf CU) λb=>xP b:=λb=>by kernel_rfl
theorem akR [ay]:SC (On lk):=s0 (.nil _) akQ
def aob:=qa (pl Fs nil)
def Us:=qe AT
abbrev aoc:=Us.B
abbrev Bu:=Int->Int->Int->Option aoc
def Y2 (g:Bu):Ct:=(41,FC aob (lf Us) (λb=>g b.1 b.2.1 b.b))
def Ns (x0:Int)(x1:Int)(x2:Int):Pg aoc:=ae (decide (x0>=x1)) (ret (decide (x0<=x2))) (ret false)
def nH:=λx0 x1 x2=>(Ns x0 x1 x2).val
theorem aGJ:D0 [] 41 aob (lf Us) λb=>Ns b.1 b.2.1 b.b:=λb=>by kernel_rfl
theorem aod [ay]:SC (Y2 nH):=s0 (.nil _) aGJ
def axk:=qa (pl HV nil)
def afl:=qe aEl
def afm:=qe aWY
abbrev aio:=afl.B⊕afm.B
def axl:aio->T:=ls (lf afl) (lf afm)
abbrev aip:=Int->Int->Int->Option aio
def axm (g:aip):Ct:=(42,FC axk axl (λb=>g b.1 b.2.1 b.b))
def aiq (cU:vZ)(fa:Xd)(av:cA)(eI:Lg)(il:RI)(vt:ahf)(aF:cT)(x0:Int)(x1:Int)(x2:Int):Pg aio:=opt (cU x0 x1 x2) λd=>ae (!d) (ret (ww ())) (ae (decide (x0>850000000)) (ret (ww ())) (ae (decide (x0< -850000000)) (ret (ww ())) (opt (av x0 3373259426 1800000000 false) λd=>opt (eI d.1 d.2) λak=>opt (il d.1 ak.2) λd=>opt (fa ak.1 ak.1 d.2) λaK=>opt (fa 7188036 aK.1 aK.2) λbJ=>let y0:=wI (1073741824-bJ.1);opt (vt y0 bJ.2) λcI=>opt (aF 6531212288 cI.1 30 cI.2) λeV=>opt (fa 6531212288 1066553788 eV.2) λdq=>opt (fa y0 cI.1 dq.2) λnu=>opt (aF dq.1 nu.1 30 nu.2) λtX=>opt (av tX.1 3373259426 1800000000 tX.2) λpO=>opt (fa eV.1 d.1 pO.2) λd=>opt (av d.1 3373259426 1800000000 d.2) λd=>ret (wt (x0,x1,x2,pO.1,d.1)))))
def zw:=λx0 x1 x2=>(aiq gT wO aY oH tj Cm bl x0 x1 x2).val
theorem aLS:∀cU fa av eI il vt aF,D0 [Ad cU,Xe fa,dA av,Lh eI,RJ il,ahg vt,gR aF] 42 axk axl λb=>aiq cU fa av eI il vt aF b.1 b.2.1 b.b:=λ_ _ _ _ _ _ _ b=>by kernel_rfl
theorem aLT [ay]:SC (axm zw):=s0 (.c Ed (.c alZ (.c dN (.c RH (.c aaP (.c avK (.c iK (.nil _)))))))) (aLS gT wO aY oH tj Cm bl)
def aB2:=qa (pr (cu aqt Fs) (cl as2 nil))
def air:=qe aWv
abbrev aB3:=air.B
abbrev aoe:=Int->Int->Int->NI->Option aB3
def aB4 (g:aoe):Ct:=(74,FC aB2 (lf air) (λb=>g b.1.1 b.1.2.1 b.1.b b.2))
def Bv:=qs (st (pr (cu aqt (us 1 (c ai (c ai (us 4 aVA))))) (pl Ft cY)))
def aIh:=qs (st (pr (cu aqt (us 1 (c ai (c ai (us 4 (c ai (us 1 (c ai aKc)))))))) (pl Ft cY)))
abbrev Rg:=((Int×Int×Int×Bool)×NI)
def ash {ρ:Type}(x:Rg)(K:AX->St->Option ρ):Option ρ:=(λd=>K (.ex 0) (aIh.em ((d.1.1,d.1.2.1,d.1.b.1,d.1.b.1,d.1.1,d.1.b.2),d.2))) x
def asi (d:Bv.B):PL Bv Rg:=let n1:=d.1.2;let y0:=z4 n1.2;let y1:=decide (n1.2<d.1.1);ae y1 (ae (bf n1.2 24) (ae (true&&wr (0+y0*1+1) 24) (ret (ww ((d.1.1,n1.1,wI (n1.2+1)),λj=>bif z9 j y0 then n1.1 else d.2 j))) no) no) (ret (wt ((d.1.1,n1.1,n1.2,y1),d.2)))
def asj:=bE (asi) 2000
def aB5 (eB:LT Bv Rg)(x0:Int)(x1:Int)(x2:Int)(x3:Nat->Int):Pg aB3:=opt (eB ((x1,x2,x0),x3)) λd=>ret d.2
def aof:=λx0 x1 x2 x3=>(aB5 asj x0 x1 x2 x3).val
abbrev aby:=(LT Bv Rg)
def aog (p:aby):KK:=⟨[],⟨[⟨1,(1::rg 4 4 (rg 9 11 [])),[]⟩],[gx 1 1 Bv ash p],[0],[],(some ⟨0,(rg 0 20 []),[]⟩)⟩,1,74⟩
theorem aGK (p:aby):LI (aog p) 1 Bv ash (asi):=λ_ d c K=>by kernel_rfl
theorem aOs (p:aby):D2 (aog p) aB2 (lf air) λb=>aB5 p b.1.1 b.1.2.1 b.1.b b.2:=λb=>by kernel_rfl
abbrev aoh:aby:=asj
theorem aOt [ay]:SC (aB4 aof):=sc (kS (k:=aog aoh) (.nil _) [1] [] ⟨kL (aGK aoh),trivial⟩ trivial (aOs aoh))
def aoi:=qa (pu nil nil)
def Ut:=qe (res (pl (aa aQw) (pu nil nil)))
abbrev Y3:=Ut.B
abbrev aGL:=Option Y3
def aoj (g:aGL):Ct:=(38,FC aoi (lf Ut) (λ_=>g))
def ui:=qs (st (pr (cu auW (cu (app 1 72) (us 2 aVF))) (pl (c (so (cu aX (cu aX (cu aX (cu aX (cu aX (cu aX (cu aX (cu aX (cu aX (cu aX (cu aX (cu aX (cu aX (cu aX (cu aX (cu aX (c jw (cl jw aKx))))))))))))))))))) (cl (so aQw) nil)) nil)))
def afo:=qs (st (pr (cu auW (cu (app 1 72) (us 2 aVV))) (pl (c (so (cu aX (cu aX (cu aX (cu aX (cu aX (cu aX (cu aX (cu aX (cu aX (cu aX (cu aX (cu aX (cu aX (cu aX (cu aX (cu aX (c jw (cl jw aKx))))))))))))))))))) (cl (so aQw) nil)) nil)))
abbrev Ho:=afo.B
def afp {ρ:Type}:=@ef Ho ((.ex 0)) afo ρ
def afq (d:ui.B):PL ui Ho:=let n8:=d.2.1;let n4:=d.2.2.1;let n3:=d.2.2.2;let n9:=n3.2.1;let n5:=n3.2.2.1;let n1:=n3.2.2.2;let bc:=n1.2.1;let n6:=n1.2.2.1;let n2:=n1.2.2.2;let bn:=n2.2.1;let n7:=n2.2.2;let bA:=n7.2.1;let bx:=n7.2.2;let y0:=bf d.1 6;let y1:=d.1==5;let y2:=d.1==4;let y3:=d.1==1;let y4:=d.1==3;let y5:=d.1==2;let y6:=wI (d.1+1);let y7:=decide (d.1<6);ae y7 (ae y0 (ae y1 (ae y0 (ae y1 (ret (ww (y6,n8,n4,n3.1,n9,n5,n1.1,5,n6,n2.1,bn,n7.1,bA,1000000,bx.2))) (ae y2 (ret (ww (y6,n8,n4,n3.1,n9,n5,n1.1,5,n6,n2.1,bn,n7.1,1000000,bx))) (ae y4 (ret (ww (y6,n8,n4,n3.1,n9,n5,n1.1,5,n6,n2.1,bn,1000000,n7.2))) (ae y5 (ret (ww (y6,n8,n4,n3.1,n9,n5,n1.1,5,n6,n2.1,1000000,n7))) (ae y3 (ret (ww (y6,n8,n4,n3.1,n9,n5,n1.1,5,n6,1000000,n2.2))) (ret (ww (y6,n8,n4,n3.1,n9,n5,n1.1,5,1000000,n2)))))))) no) (ae y2 (ae y0 (ae y1 (ret (ww (y6,n8,n4,n3.1,n9,n5,5,bc,n6,n2.1,bn,n7.1,bA,1000000,bx.2))) (ae y2 (ret (ww (y6,n8,n4,n3.1,n9,n5,5,bc,n6,n2.1,bn,n7.1,1000000,bx))) (ae y4 (ret (ww (y6,n8,n4,n3.1,n9,n5,5,bc,n6,n2.1,bn,1000000,n7.2))) (ae y5 (ret (ww (y6,n8,n4,n3.1,n9,n5,5,bc,n6,n2.1,1000000,n7))) (ae y3 (ret (ww (y6,n8,n4,n3.1,n9,n5,5,bc,n6,1000000,n2.2))) (ret (ww (y6,n8,n4,n3.1,n9,n5,5,bc,1000000,n2)))))))) no) (ae y4 (ae y0 (ae y1 (ret (ww (y6,n8,n4,n3.1,n9,5,n1.1,bc,n6,n2.1,bn,n7.1,bA,1000000,bx.2))) (ae y2 (ret (ww (y6,n8,n4,n3.1,n9,5,n1.1,bc,n6,n2.1,bn,n7.1,1000000,bx))) (ae y4 (ret (ww (y6,n8,n4,n3.1,n9,5,n1.1,bc,n6,n2.1,bn,1000000,n7.2))) (ae y5 (ret (ww (y6,n8,n4,n3.1,n9,5,n1.1,bc,n6,n2.1,1000000,n7))) (ae y3 (ret (ww (y6,n8,n4,n3.1,n9,5,n1.1,bc,n6,1000000,n2.2))) (ret (ww (y6,n8,n4,n3.1,n9,5,n1.1,bc,1000000,n2)))))))) no) (ae y5 (ae y0 (ae y1 (ret (ww (y6,n8,n4,n3.1,5,n5,n1.1,bc,n6,n2.1,bn,n7.1,bA,1000000,bx.2))) (ae y2 (ret (ww (y6,n8,n4,n3.1,5,n5,n1.1,bc,n6,n2.1,bn,n7.1,1000000,bx))) (ae y4 (ret (ww (y6,n8,n4,n3.1,5,n5,n1.1,bc,n6,n2.1,bn,1000000,n7.2))) (ae y5 (ret (ww (y6,n8,n4,n3.1,5,n5,n1.1,bc,n6,n2.1,1000000,n7))) (ae y3 (ret (ww (y6,n8,n4,n3.1,5,n5,n1.1,bc,n6,1000000,n2.2))) (ret (ww (y6,n8,n4,n3.1,5,n5,n1.1,bc,1000000,n2)))))))) no) (ae y3 (ae y0 (ae y1 (ret (ww (y6,n8,n4,5,n9,n5,n1.1,bc,n6,n2.1,bn,n7.1,bA,1000000,bx.2))) (ae y2 (ret (ww (y6,n8,n4,5,n9,n5,n1.1,bc,n6,n2.1,bn,n7.1,1000000,bx))) (ae y4 (ret (ww (y6,n8,n4,5,n9,n5,n1.1,bc,n6,n2.1,bn,1000000,n7.2))) (ae y5 (ret (ww (y6,n8,n4,5,n9,n5,n1.1,bc,n6,n2.1,1000000,n7))) (ae y3 (ret (ww (y6,n8,n4,5,n9,n5,n1.1,bc,n6,1000000,n2.2))) (ret (ww (y6,n8,n4,5,n9,n5,n1.1,bc,1000000,n2)))))))) no) (ae y0 (ae y1 (ret (ww (y6,n8,5,n3.1,n9,n5,n1.1,bc,n6,n2.1,bn,n7.1,bA,1000000,bx.2))) (ae y2 (ret (ww (y6,n8,5,n3.1,n9,n5,n1.1,bc,n6,n2.1,bn,n7.1,1000000,bx))) (ae y4 (ret (ww (y6,n8,5,n3.1,n9,n5,n1.1,bc,n6,n2.1,bn,1000000,n7.2))) (ae y5 (ret (ww (y6,n8,5,n3.1,n9,n5,n1.1,bc,n6,n2.1,1000000,n7))) (ae y3 (ret (ww (y6,n8,5,n3.1,n9,n5,n1.1,bc,n6,1000000,n2.2))) (ret (ww (y6,n8,5,n3.1,n9,n5,n1.1,bc,1000000,n2)))))))) no)))))) no) (ret (wt ((d.1,y7),d.2)))
def afr:=bE (afq) 2000
def aok (tv:aoe)(eB:LT ui Ho):Pg Y3:=opt (eB (0,(λx=>0,λx=>0),0,0,0,0,0,0,0,0,0,0,0,0,λx=>0,λx=>0)) λd=>let n3:=d.2.2.2;let n1:=n3.2.2.2.2;let n2:=n1.2.2.2.2;opt (tv 0 24 16384 n2.2.2.2.1) λak=>opt (tv 0 4 1048576 ak) λaK=>opt (tv 4 7 17179869184 aK) λbJ=>opt (tv 10 13 1024 bJ) λcI=>opt (tv 13 16 65536 cI) λeV=>opt (tv 22 24 17179869184 eV) λdq=>opt (tv 0 24 17592186044416 n2.2.2.2.2) λnu=>opt (tv 0 4 68719476736 nu) λtX=>opt (tv 10 13 67108864 tX) λpO=>opt (tv 13 16 4294967296 pO) λmj=>opt (tv 16 22 17179869184 mj) λxV=>ret (d.2.2.1,n3.1,n3.2.1,n3.2.2.1,n3.2.2.2.1,n1.1,n1.2.1,n1.2.2.1,n1.2.2.2.1,n2.1,n2.2.1,n2.2.2.1,dq,xV)
def aol:Option Y3:=(aok aof afr).val
abbrev Nt:=aoe×(LT ui Ho)
def Y4 (p:Nt):KK:=⟨[aB4 p.1],⟨[⟨3,(2::3::rg 5 32 []),[]⟩],[gx 3 0 ui afp p.2],[],[],(some ⟨0,(rg 1 36 []),[]⟩)⟩,0,38⟩
theorem axn (p:Nt):LI (Y4 p) 3 ui afp (afq):=λ_ d c K=>by kernel_rfl
theorem aGM (p:Nt):D2 (Y4 p) aoi (lf Ut) λb=>aok p.1 p.2:=λb=>by kernel_rfl
abbrev Y5:Nt:=(aof,afr)
theorem aGN [ay]:SC (aoj aol):=sc (kS (k:=Y4 Y5) (.c aOt (.nil _)) [3] [] ⟨kL (axn Y5),trivial⟩ trivial (aGM Y5))
def abz:=qa (pr (cu aS (c kY (c AU (c agd gZ)))) bK)
def KD:=qe (res (pr (rZ (c agf (c ala (cl (ra (cu axW (cu aX (cu aX (cu aX (c gi (c gi (cl gi (cu aX (cu aX (cu aX (cu aPD nil)))))))))))) nil)))) (pl mG nil)))
abbrev abA:=KD.B
abbrev abB:=NI->NI->NI->Int->Int->Int->Int->Bool->Option abA
def abC (g:abB):Ct:=(250,FC abz (lf KD) (λb=>g b.1.1 b.1.2.1.1 b.1.2.1.2 b.1.b.1.1 b.1.b.1.2.1 b.1.b.1.b b.1.b.2 b.2))
def E8 (aR:fH)(iA:M')(cv:mw)(ch:gE)(x0:Nat->Int)(x1:Nat->Int)(x2:Nat->Int)(x3:Int)(x4:Int)(x5:Int)(x6:Int)(x7:Bool):Pg abA:=opt (aR x0 x7) λd=>opt (iA d.1 4 3 d.2 (cr x3 [x5,x4,x3]) false) λd=>let n3:=d.1.2;let n2:=d.2.1;let n1:=d.2.2;opt cv λak=>ae (wr 3 n3) (opt (ch x1 x2 4 3 n2 (cr x6 [x6,x6,x6]) true) λaK=>ret (((d.1,n2,n3,n1).1.1,aK.1,n1 0,n1 1,n1 2),aK.2)) (ae (wr 2 n3) (opt (ch x1 x2 4 3 n2 (cr x6 [x6,x6,x6]) true) λaK=>ret (((d.1,n2,n3,n1).1.1,aK.1,n1 0,n1 1,0),aK.2)) (ae (wr 1 n3) (opt (ch x1 x2 4 3 n2 (cr x6 [x6,x6,x6]) true) λaK=>ret (((d.1,n2,n3,n1).1.1,aK.1,n1 0,0,0),aK.2)) (opt (ch x1 x2 4 3 n2 (cr x6 [x6,x6,x6]) true) λaK=>ret (((d.1,n2,n3,n1).1.1,aK.1,0,0,0),aK.2))))
def pY:=λx0 x1 x2 x3 x4 x5 x6 x7=>(E8 bY iy eL cS x0 x1 x2 x3 x4 x5 x6 x7).val
theorem axo:∀aR iA cv ch,D0 [jJ aR,Na iA,rI cv,Bj ch] 250 abz (lf KD) λb=>E8 aR iA cv ch b.1.1 b.1.2.1.1 b.1.2.1.2 b.1.b.1.1 b.1.b.1.2.1 b.1.b.1.b b.1.b.2 b.2:=λ_ _ _ _ b=>by kernel_rfl
theorem axp [ay]:SC (abC pY):=s0 (.c kM (.c Yv (.c wC (.c FX (.nil _))))) (axo bY iy eL cS)
def U6:=qa (pr (cu aS (c kY (c AU Fs))) bK)
def Gk:=qe (res (pr (rZ (c agf (c ala (cl (ra (cu axW (cu aX (cu aX (cu aX (cu aX (cu aX (cu aX (c gi (c gi (cl gi aPJ))))))))))) nil)))) (pl mG nil)))
abbrev U7:=Gk.B
abbrev U8:=NI->NI->NI->Int->Int->Int->Bool->Option U7
def U9 (g:U8):Ct:=(251,FC U6 (lf Gk) (λb=>g b.1.1 b.1.2.1.1 b.1.2.1.2 b.1.b.1 b.1.b.2.1 b.1.c b.2))
def AM (aR:fH)(iA:M')(cv:mw)(ch:gE)(x0:Nat->Int)(x1:Nat->Int)(x2:Nat->Int)(x3:Int)(x4:Int)(x5:Int)(x6:Bool):Pg U7:=opt (aR x0 x6) λd=>opt (iA d.1 7 2 d.2 (cr x3 [x4,x3]) true) λd=>let n3:=d.1.2;let n2:=d.2.1;let n1:=d.2.2;opt cv λak=>ae (wr 3 n3) (opt (ch x1 x2 7 2 n2 (cr x5 [x5,x5]) true) λaK=>ret (((d.1,n2,n3,n1).1.1,aK.1,n1 0,n1 1,n1 2),aK.2)) (ae (wr 2 n3) (opt (ch x1 x2 7 2 n2 (cr x5 [x5,x5]) true) λaK=>ret (((d.1,n2,n3,n1).1.1,aK.1,n1 0,n1 1,0),aK.2)) (ae (wr 1 n3) (opt (ch x1 x2 7 2 n2 (cr x5 [x5,x5]) true) λaK=>ret (((d.1,n2,n3,n1).1.1,aK.1,n1 0,0,0),aK.2)) (opt (ch x1 x2 7 2 n2 (cr x5 [x5,x5]) true) λaK=>ret (((d.1,n2,n3,n1).1.1,aK.1,0,0,0),aK.2))))
def mN:=λx0 x1 x2 x3 x4 x5 x6=>(AM bY iy eL cS x0 x1 x2 x3 x4 x5 x6).val
theorem ap7:∀aR iA cv ch,D0 [jJ aR,Na iA,rI cv,Bj ch] 251 U6 (lf Gk) λb=>AM aR iA cv ch b.1.1 b.1.2.1.1 b.1.2.1.2 b.1.b.1 b.1.b.2.1 b.1.c b.2:=λ_ _ _ _ b=>by kernel_rfl
theorem ap8 [ay]:SC (U9 mN):=s0 (.c kM (.c Yv (.c wC (.c FX (.nil _))))) (ap7 bY iy eL cS)
def akc:=qa (pr (cu aS (c kY (c AU zW))) bK)
def PU:=qe (res (pr (rZ (c agf (c ala (cl (ra (cu axW (cu aX (cu aX (cu aX (cu aX (cu aX (cu aX (cu aX (cu aX (cl gi (cu (gc aPA) nil)))))))))))) nil)))) (pl mG nil)))
abbrev akd:=PU.B
abbrev ake:=NI->NI->NI->Int->Int->Bool->Option akd
def akf (g:ake):Ct:=(252,FC akc (lf PU) (λb=>g b.1.1 b.1.2.1.1 b.1.2.1.2 b.1.b.1 b.1.b.2 b.2))
def JX (aR:fH)(iA:M')(cv:mw)(ch:gE)(x0:Nat->Int)(x1:Nat->Int)(x2:Nat->Int)(x3:Int)(x4:Int)(x5:Bool):Pg akd:=opt (aR x0 x5) λd=>opt (iA d.1 9 1 d.2 (λj=>bif z9 j 0 then x3 else x3) true) λd=>opt cv λak=>ae (wr 1 d.1.2) (opt (ch x1 x2 9 1 d.2.1 (λj=>bif z9 j 0 then x4 else x4) true) λaK=>ret (((d.1,d.2.1,d.1.2,d.2.2).1.1,aK.1,d.2.2 0),aK.2)) (opt (ch x1 x2 9 1 d.2.1 (λj=>bif z9 j 0 then x4 else x4) true) λaK=>ret (((d.1,d.2.1,d.1.2,d.2.2).1.1,aK.1,0),aK.2))
def uL:=λx0 x1 x2 x3 x4 x5=>(JX bY iy eL cS x0 x1 x2 x3 x4 x5).val
theorem aDo:∀aR iA cv ch,D0 [jJ aR,Na iA,rI cv,Bj ch] 252 akc (lf PU) λb=>JX aR iA cv ch b.1.1 b.1.2.1.1 b.1.2.1.2 b.1.b.1 b.1.b.2 b.2:=λ_ _ _ _ b=>by kernel_rfl
theorem aDp [ay]:SC (akf uL):=s0 (.c kM (.c Yv (.c wC (.c FX (.nil _))))) (aDo bY iy eL cS)
def Gl:=qa (pl (cl (aa sS) nil) nil)
def ais:=qe AT
abbrev aom:=ais.B
abbrev Sc:=Gl.B->Option aom
def abD (g:Sc):Ct:=(13,FC Gl (lf ais) g)
def lY:=qs (st (pr (us 1 (cu auW (cu uy (us 3 (xs 1 (cu aVW (us 4 (cu aWf (us 4 (cu aWg (us 4 (cu uy (us 4 (c ab (us 3 (cl ai (us 26 aXb))))))))))))))))) (pl (cl ayc nil) nil)))
def akg:=qs (st (pu (us 2 (cu uy (us 119 nil))) (pu nil nil)))
def akh:=qs (st (pr (us 1 (cu auW (cu uy (us 3 (xs 1 (cu aVW (us 4 (cu aWf (us 4 (cu aWg (us 4 (cu uy (us 4 (c ab (us 3 (c ai (cl ab (us 25 aXb)))))))))))))))))) (pl (cl ayc nil) nil)))
abbrev Ei:=akg.B⊕akh.B
def asl {ρ:Type}(x:Ei)(K:AX->St->Option ρ):Option ρ:=(t9 (λd=>K .ret (akg.em d)) (λd=>K (.ex 2) (akh.em d))) x
def Rh (fT:Bu)(d:lY.B):PL lY Ei:=let n2:=d.1.2;let n1:=d.2.2.2.2.2.2.2.2.2.2.2.2.2.2.2.2.2;let y0:=z4 n2;let y1:=bf n2 24;let y2:=wr (0+y0*1+1) 24;let y3:=decide (n2<24);ae y3 (ae y1 (ae y2 (opt (fT (n1.1 y0) 0 72057594037927936) λak=>ae (!ak) (ret (wt (ww ()))) (ae y1 (ae y2 (opt (fT (n1.2.1 y0) 1 72057594037927936) λaK=>ae (!aK) (ret (wt (ww ()))) (ret (ww ((d.1.1,wI (n2+1)),d.2)))) no) no)) no) no) (ret (wt (wt ((d.1.1,n2,y3),d.2))))
def Jf:=bE (Rh nH) 2000
def abE (fT:Bu)(aLU:aip)(ru:LT lY Ei)(x:Gl.B):Pg aom:=let n2:=x.2.2.2.2;let n8:=n2.2.1;let n4:=n8.2.2;let n3:=n2.1.2.2;let n7:=n3.2.2;ae (decide (n2.1.1<1)) (ret false) (ae (decide (n2.1.1>1000)) (ret false) (opt (fT n8.1 1 1099511627776) λd=>ae (!d) (ret false) (ae (decide (n2.1.2.1<1)) (ret false) (ae (decide (n2.1.2.1>1000)) (ret false) (opt (fT n8.2.1 1 1099511627776) λd=>ae (!d) (ret false) (ae (decide (n3.1<1)) (ret false) (ae (decide (n3.1>1000)) (ret false) (opt (fT n4.1 1 1099511627776) λd=>ae (!d) (ret false) (ae (decide (n3.2.1<1)) (ret false) (ae (decide (n3.2.1>1000)) (ret false) (opt (fT n4.2.1 1 1099511627776) λd=>ae (!d) (ret false) (ae (decide (n7.1<1)) (ret false) (ae (decide (n7.1>1000)) (ret false) (opt (fT n4.2.2.1 1 1099511627776) λd=>ae (!d) (ret false) (ae (decide (n7.2<1)) (ret false) (ae (decide (n7.2>1000)) (ret false) (opt (fT n4.2.2.2 1 1099511627776) λd=>ae (!d) (ret false) (opt (ru ((d,0),x.1,x.2.1,x.2.2.1,x.2.2.2.1,n2.1.1,n2.1.2.1,n3.1,n3.2.1,n7.1,n7.2,n8.1,n8.2.1,n4.1,n4.2.1,n4.2.2.1,n4.2.2.2,n2.2.2)) λx=>sum x (λd=>ret false) λd=>let n6:=d.2.2.2;let n1:=n6.2.2.2.2.2.2.2.2.2.2.2.2.2.2.2.2;let n5:=n1.2.2.2.2;opt (aLU n5.2.1 n5.2.2.1 n5.2.2.2) λak=>sm ak (λd=>ret false) (λaK=>opt (fT d.2.1 1000 100000) λbJ=>ae bJ (opt (fT d.2.2.1 0 300000) λcI=>ae cI (ae (decide (n6.1>=1)) (ae (decide (n6.1<=64)) (ae (decide (n6.2.1>=0)) (ae (decide (n6.2.1<=100)) (opt (fT n1.1 0 1099511627776) λeV=>ae eV (opt (fT n1.2.1 1 72057594037927936) λdq=>ae dq (ae (decide (n1.2.2.1>=0)) (ae (decide (n1.2.2.1<=3)) (opt (fT n1.2.2.2.1 1 1073741824) λnu=>ae nu (ae (decide (n5.1>=1)) (ret (decide (n5.1<=64))) (ret false)) (ret false)) (ret false)) (ret false)) (ret false)) (ret false)) (ret false)) (ret false)) (ret false)) (ret false)) (ret false)) (ret false))))))))))))))))))))
def qI:=λx=>(abE nH zw Jf x).val
abbrev abF:=Bu×aip×(LT lY Ei)
def aon (p:abF):KK:=⟨[Y2 p.1,axm p.2.1],⟨[⟨2,(0::3::4::rg 8 4 (13::14::15::21::rg 29 8 (38::39::40::rg 48 10 [61,62,66,67,71,72,76,77,81,82,86,87,91,92,96,97,101,102,106,107,111,112,116,117,121]))),[]⟩,⟨8,(0::3::4::5::rg 8 4 (rg 13 4 (rg 18 4 (rg 23 4 (28::29::30::rg 32 5 (38::39::40::rg 48 10 (61::62::66::67::71::72::76::77::81::82::86::87::91::92::96::97::101::102::106::107::111::112::116::117::121::37::rg 41 7 []))))))),[]⟩],[gx 8 0 lY asl p.b],[],[],(some ⟨0,(0::1::rg 3 119 []),[]⟩)⟩,0,13⟩
theorem aGO (p:abF):LI (aon p) 8 lY asl (Rh p.1):=λ_ d c K=>by kernel_rfl
theorem aOu (p:abF):D2 (aon p) Gl (lf ais) λb=>abE p.1 p.2.1 p.b b:=λb=>by kernel_rfl
abbrev aoo:abF:=(nH,zw,Jf)
theorem aoq [ay]:SC (abD qI):=sc (kS (k:=aon aoo) (.c aod (.c aLT (.nil _))) [2,8] [] ⟨kN,⟨kL (aGO aoo),trivial⟩⟩ trivial (aOu aoo))
def afs:=qa (dp (cu aS (c ai (c IC axT))) λa=>(c xU (cl (cl (gs a.2.1.1 oF) nil) nil)))
def Nu:=qe aKm
abbrev aft:=Nu.B
abbrev afu:=Int->Nat->Nat->Bool->NI->Bool->Bool->Option aft
def afv (g:afu):Ct:=(73,vR 3 [.i .i64] (vR 2 [.i .i64] (FC afs (lf Nu) (λb=>g b.1.1 b.1.2.1.1 b.1.b.1 b.2.1 b.b b.1.2.1.2 b.1.b.2))))
def qo:=qs (st (dp (cu aS (c ai (c IC (c IC (us 5 (cu az0 aV6)))))) λa=>(pl (c cG (c (so (cl (gs a.2.1.1 oF) nil)) ab0)) cY)))
def aue:=qs (st (pr (cu aS (c ai (c IC (c IC (us 5 (cu az0 aWa)))))) (pl (c cG (c J8 ab0)) cY)))
abbrev CW:=(aVq×Bool×NI×Int×Int)
def Y6 {ρ:Type}(x:CW)(K:AX->St->Option ρ):Option ρ:=(λd=>K (.ex 0) (aue.em (d.1,d.2.1,(d.1.2.1.1,d.b.1),d.b.2))) x
def CX (ax:bS)(c9:oG)(yZ:ti)(d:qo.B):PL qo CW:=let y0:=decide (d.1.2.2.2.2<d.1.2.2.2.1);ae y0 (ae (bf d.1.2.2.2.2 d.1.2.1.1) (opt (ax (d.2.2.1 (z4 d.1.2.2.2.2)) d.2.1) λak=>ae (bf d.1.2.2.2.2 d.1.2.2.1.1) (opt (ax (d.2.2.1 (z4 d.1.2.2.2.2)) ak.2) λaK=>opt (c9 ak.1 aK.1) λbJ=>opt (yZ 2 (λj=>bif z9 j 1 then bJ.1 else bif z9 j 0 then d.2.2.2.1 else d.2.2.2.1) (λj=>bif z9 j 1 then bJ.2 else bif z9 j 0 then d.2.2.2.2 else d.2.2.2.2) true) λcI=>ret (ww ((d.1.1,d.1.2.1,d.1.2.2.1,d.1.2.2.2.1,wI (d.1.2.2.2.2+1)),aK.2,d.2.2.1,cI.1))) no) no) (ret (wt ((d.1.1,d.1.2.1,d.1.2.2.1,d.1.2.2.2.1,d.1.2.2.2.2,y0),d.2)))
def KE:=bE (CX aP fK kT) 2000
def PX (ju:yE)(eB:LT qo CW)(x0:Int)(x1:Nat)(x2:Nat)(x3:Bool)(x4:Nat->Int)(w0:Bool)(w1:Bool):Pg aft:=let y0:=if ws x2<ws x1 then ws x2 else ws x1;ae (decide (x0<0)) (opt (ju 0 0 x0 x3) λd=>ret d) (ae (decide (x0>120)) (opt (ju 0 0 x0 x3) λd=>ret d) (ae (z9 x1 x1) (opt (eB ((x0,(x1,w0),(x2,w1),if 100<y0 then 100 else y0,0),x3,x4,0,0)) λd=>opt (ju d.2.2.2.1 d.2.2.2.2 d.1.1 d.2.1) λd=>ret d) no))
def wF:=λx0 x1 x2 x3 x4 w0 w1=>(PX nN KE x0 x1 x2 x3 x4 w0 w1).val
abbrev Hp:=yE×bS×oG×ti×(LT qo CW)
def PY (p:Hp):KK:=⟨[Jt p.1,dD p.2.1,yT p.b.1,Lf p.b.2.1],⟨[⟨5,(rg 4 5 (rg 10 15 (rg 27 26 []))),[]⟩],[gx 5 2 qo Y6 p.c],[0],[],(some ⟨0,(rg 0 8 (rg 9 44 [])),[]⟩)⟩,2,73⟩
theorem ap9 (p:Hp):LI (PY p) 5 qo Y6 (CX p.2.1 p.b.1 p.b.2.1):=λ_ d c K=>by kernel_rfl
theorem azz (p:Hp):D2 (PY p) afs (lf Nu) λb=>PX p.1 p.c b.1.1 b.1.2.1.1 b.1.b.1 b.2.1 b.b b.1.2.1.2 b.1.b.2:=λb=>by kernel_rfl
abbrev PZ:Hp:=(nN,aP,fK,kT,KE)
theorem azA [ay]:SC (afv wF):=sc (Sound.nil 3 [.i .i64]<|Sound.nil 2 [.i .i64]<|kS (k:=PY PZ) (.c Tx (.c dI (.c BO (.c RG (.nil _))))) [5] [] ⟨kL (ap9 PZ),trivial⟩ trivial (azz PZ))
def Y7:=qa (pr (cu aS (c kY Fs)) bK)
def Ia:=qe aEp
abbrev Y8:=Ia.B
abbrev Y9:=NI->Int->Int->Int->Bool->Option Y8
def Y' (g:Y9):Ct:=(234,FC Y7 (lf Ia) (λb=>g b.1.1 b.1.2.1 b.1.b.1 b.1.b.2 b.2))
def KF (bM:mf)(Hq:afu)(sG:acD)(ba:dr)(dw:yY)(aF:cT)(x0:Nat->Int)(x1:Int)(x2:Int)(x3:Int)(x4:Bool):Pg Y8:=opt (bM x0 16) λd=>opt (Hq 30 2 2 x4 (cr d.1 [d.2.1,d.1]) false false) λak=>ae (decide (ak.1<1048576)) (ret (((λx=>0,0,0,0),4),ak.2)) (opt (sG d.2.1 d.1 ak.2) λaK=>opt (ba x1 aK.1 aK.2) λbJ=>opt (dw bJ.1) λcI=>opt (aF d.2.1 ak.1 30 bJ.2) λeV=>opt (aF d.1 ak.1 30 eV.2) λd=>ret (((λj=>bif z9 j 17 then d.1 else bif z9 j 16 then wI (0-eV.1) else 0,cI,x2,x3),0),d.2))
def xp:=λx0 x1 x2 x3 x4=>(KF dZ wF zY bT lq bl x0 x1 x2 x3 x4).val
theorem auf:∀bM Hq sG ba dw aF,D0 [sC bM,afv Hq,acE sG,iL ba,Cn dw,gR aF] 234 Y7 (lf Ia) λb=>KF bM Hq sG ba dw aF b.1.1 b.1.2.1 b.1.b.1 b.1.b.2 b.2:=λ_ _ _ _ _ _ b=>by kernel_rfl
theorem aug [ay]:SC (Y' xp):=s0 (.c vU (.c azA (.c ari (.c jH (.c GZ (.c iK (.nil _))))))) (auf dZ wF zY bT lq bl)
def lz:=qa (pr (cl aQi (cu aS (cu (app 1 10) nil))) (cu aPv (c xY bK)))
def uM:=qe (res (pr (aa ax4) (pl aPN nil)))
abbrev E9:=uM.B
abbrev o8:=lz.B->Option E9
def vu (g:o8):Ct:=(180,FC lz (lf uM) g)
def vv (ec:Cu)(jb:BS)(eY:zd)(bC:jg)(x:lz.B):Pg E9:=let n2:=x.2.1;let n6:=n2.1.2;let n1:=x.1.2;let n5:=n1.1.2;let n4:=n1.2.2;let n3:=n1.2.1;opt (ec 2 x.2.2 (cr n3.1 [n2.2.1.1,n3.1]) (cr n3.2.1 [n2.2.1.2.1,n3.2.1]) (cr n3.2.2 [n2.2.1.2.2,n3.2.2]) true) λd=>opt (ec 2 d.2 (cr n4.1 [n2.2.2.1,n4.1]) (cr n4.2.1 [n2.2.2.2.1,n4.2.1]) (cr n4.2.2 [n2.2.2.2.2,n4.2.2]) true) λak=>opt jb λaK=>ae (!(n2.1.1==1073741824&&(n6.1==0&&(n6.2.1==0&&(n6.2.2==0&&true))))) (opt (eY n2.1.1 n6.1 n6.2.1 n6.2.2 n1.1.1 n5.1 n5.2.1 n5.2.2 ak.2) λbJ=>opt (bC bJ.1.1 bJ.1.2.1 bJ.1.2.2.1 bJ.1.2.2.2 bJ.2) λcI=>ret ((x.1.1,cI.1.1,cI.1.2.1,cI.1.2.2.1,cI.1.2.2.2,d.1.1,d.1.2.1,d.1.2.2,ak.1),cI.2)) (ret ((x.1.1,n1.1.1,n5.1,n5.2.1,n5.2.2,d.1.1,d.1.2.1,d.1.2.2,ak.1),ak.2))
def iS:=λx=>(vv lg oI lR di x).val
theorem V3:∀ec jb eY bC,D0 [Ks ec,Li jb,FT eY,nQ bC] 180 lz (lf uM) λb=>vv ec jb eY bC b:=λ_ _ _ _ b=>by kernel_rfl
theorem E' [ay]:SC (vu iS):=s0 (.c O' (.c RM (.c Lj (.c pR (.nil _))))) (V3 lg oI lR di)
def jN:=qa (pr (cl aQi (cu aS (cu aME (cu (app 2 1) (cu ak4 (cu (app 4 4) nil)))))) (cu (cu (gp 5 1) nil) (c jV (cu (cu (gp 6 3) nil) (c jV (c agh (c xU (cd aKk λb6=>(cl (cl (gs b6.b ia) nil) nil)))))))))
def rJ:=qe (res (pr (aa ax4) (pl (cu fV (cu fV (cu fV (cu fV (cu fV (cl auX axR)))))) nil)))
abbrev BU:=rJ.B
abbrev mS:=jN.B->Option BU
def tw (g:mS):Ct:=(183,FC jN (lf rJ) g)
def tx (ji:VB)(ec:Cu)(eY:zd)(bC:jg)(x:jN.B):Pg BU:=let n3:=x.1.2.1;let n2:=x.2.2;let n1:=x.1.2.2;opt (ji x.2.1.1 x.2.1.2.1 x.2.1.2.2 n2.2.2.2.1.2.1 n2.2.2.1) λd=>opt (ec 2 d.2 (cr n1.1.1 [d.1.1,n1.1.1]) (cr n1.1.2.1 [d.1.2.1,n1.1.2.1]) (cr n1.1.2.2 [d.1.2.2,n1.1.2.2]) true) λd=>opt (ji n2.1.1 n2.1.2.1 n2.1.2.2 n2.2.2.2.1.2.1 d.2) λak=>opt (ec 2 ak.2 (cr n1.2.1 [ak.1.1,n1.2.1]) (cr n1.2.2.1 [ak.1.2.1,n1.2.2.1]) (cr n1.2.2.2 [ak.1.2.2,n1.2.2.2]) true) λaK=>opt (eY n2.2.1.1 n2.2.1.2.1 n2.2.1.2.2.1 n2.2.1.2.2.2 n3.1 n3.2.1 n3.2.2.1 n3.2.2.2 aK.2) λbJ=>opt (bC bJ.1.1 bJ.1.2.1 bJ.1.2.2.1 bJ.1.2.2.2 bJ.2) λcI=>ret ((x.1.1,cI.1.1,cI.1.2.1,cI.1.2.2.1,cI.1.2.2.2,d.1.1,d.1.2.1,d.1.2.2,aK.1),cI.2)
def gM:=λx=>(tx vo lg lR di x).val
theorem Sd:∀ji ec eY bC,D0 [VC ji,Ks ec,FT eY,nQ bC] 183 jN (lf rJ) λb=>tx ji ec eY bC b:=λ_ _ _ _ b=>by kernel_rfl
theorem BV [ay]:SC (tw gM):=s0 (.c aho (.c O' (.c Lj (.c pR (.nil _))))) (Sd vo lg lR di)
def iT:=qa (pu (cu IB (cu Rv (cu aQk nil))) (cd aKk λb0=>(c xU (cu as1 (c jV (cu aVH (c jV (c agh (cl (cl (gs b0.b ia) nil) nil)))))))))
def uN:=qe (res (pu Wt (pl (cu fV (c auX (cu fV (cu fV (cu fV aW0))))) nil)))
abbrev vx:=uN.B
abbrev vy:=iT.B->Option vx
def Fa (g:vy):Ct:=(179,FC iT (lf uN) g)
def cN:=qs (st (dp (cu IB (cu Rv (cu aQk (us 8 (c (ac (zV 7 11)) aPE))))) λv=>(pl (c (so aKk) (c cG (cu abY (c zX (cu axV (c zX (c xX (cl (so (cl (gs v.1 ia) nil)) nil)))))))) (cu (nat 7) axP))))
def Se:=qs (st (pr (cu IB (cu Rv (cu aQk (us 8 (c (ac (zV 7 11)) aPK))))) (pl (c (so aKk) (c cG (cu abY (c zX (cu axV (c zX (c xX LO))))))) (cu (nat 7) axP))))
abbrev fe:=(aSh×xT×Bool×nJ×nJ×aIM×NI×NI×NI×NI×NI×NI×NI×NI×NI×NI×NI)
def BW {ρ:Type}(x:fe)(K:AX->St->Option ρ):Option ρ:=(λd=>K (.ex 0) (Se.em (d.1,d.2.1,d.b.1,d.b.2.1,d.c.1,d.c.2.1,d.1.1,d.c.b))) x
def mT (v7:Ef)(ke:vr)(Sf:mS)(d:cN.B):PL cN fe:=let bn:=d.2.1;let n6:=d.1.2;let n5:=d.2.2.2;let n1:=n5.2.2.2;let n8:=n1.2.2;let n2:=n8.2.2.2;let n7:=n2.2.2.2;let y0:=z4 n6.2;let y1:=decide (n6.2<n6.1);ae y1 (ae (bf n6.2 d.1.1) (ae (z9 bn.2.2 bn.2.2) (opt (Sf ((n1.1 y0,(n1.2.1 y0,n8.1 y0,n8.2.1 y0,n8.2.2.1 y0),(n2.1 y0,n2.2.1 y0,n2.2.2.1 y0),n7.1 y0,n7.2.1 y0,n7.2.2 y0),n5.1,n5.2.1,n5.2.2.1,d.2.2.1,bn,n1)) λak=>let n3:=ak.1.2.2.2.2;let n9:=n3.2.2.2;opt (v7 (λx=>0) ak.1.1 ak.1.2.1 ak.1.2.2.1 ak.1.2.2.2.1 n3.1 n3.2.1 n3.2.2.1 n9.1 n9.2.1 n9.2.2.1 n9.2.2.2) λaK=>opt (ke aK (n1.1 y0) ak.2) λbJ=>let n4:=bJ.1.2.2.2.2;let bc:=n4.2.2.2;ae (bf n6.2 bn.2.2) (ae (true&&wr (0+y0*11+11) (d.1.1*11+0)) (ret (ww ((d.1.1,n6.1,wI (n6.2+1)),bn,bJ.2,n5.1,n5.2.1,n5.2.2.1,λj=>bif z9 j y0 then bJ.1.1 else n1.1 j,λj=>bif z9 j y0 then bJ.1.2.1 else n1.2.1 j,λj=>bif z9 j y0 then bJ.1.2.2.1 else n8.1 j,λj=>bif z9 j y0 then bJ.1.2.2.2.1 else n8.2.1 j,λj=>bif z9 j y0 then n4.1 else n8.2.2.1 j,λj=>bif z9 j y0 then n4.2.1 else n2.1 j,λj=>bif z9 j y0 then n4.2.2.1 else n2.2.1 j,λj=>bif z9 j y0 then bc.1 else n2.2.2.1 j,λj=>bif z9 j y0 then bc.2.1 else n7.1 j,λj=>bif z9 j y0 then bc.2.2.1 else n7.2.1 j,λj=>bif z9 j y0 then bc.2.2.2 else n7.2.2 j))) no) no) no) no) (ret (wt ((d.1.1,n6.1,n6.2,y1),d.2)))
def mU:=bE (mT sJ kd gM) 2000
def o9 (eB:LT cN fe)(x:iT.B):Pg vx:=ae (z9 x.1.2.2 x.1.2.2) (opt (eB ((x.1.2.2,ws x.1.2.2,0),x)) λd=>ret (d.2.2.1,d.1.1,d.2.2.2.2.2.2)) no
def fZ:=λx=>(o9 mU x).val
abbrev pd:=Ef×vr×mS×(LT cN fe)
def vz (p:pd):KK:=⟨[Q' p.1,Hn p.2.1,tw p.b.1],⟨[⟨1,(rg 3 8 (rg 14 20 [])),[]⟩],[gx 1 8 cN BW p.b.2],[7,1],[],(some ⟨0,(rg 0 34 []),[]⟩)⟩,8,179⟩
theorem P1 (p:pd):LI (vz p) 1 cN BW (mT p.1 p.2.1 p.b.1):=λ_ d c K=>by kernel_rfl
theorem V4 (p:pd):D2 (vz p) iT (lf uN) λb=>o9 p.b.2 b:=λb=>by kernel_rfl
abbrev vA:pd:=(sJ,kd,gM,mU)
theorem V5 [ay]:SC (Fa fZ):=sc (kS (k:=vz vA) (.c adN (.c Nq (.c BV (.nil _)))) [1] [] ⟨kL (P1 vA),trivial⟩ trivial (V4 vA))
def iU:=qa (pu (cu IB (cu Rv (cu aP0 nil))) (cd aPO λb0=>(c xU (cu as1 (c xY (cl (cl (gs b0.b ia) nil) nil))))))
def uO:=qe (res (pu Wt (pl (cu fV (c auX aW0)) nil)))
abbrev vC:=uO.B
abbrev vD:=iU.B->Option vC
def Fb (g:vD):Ct:=(179,FC iU (lf uO) g)
def cO:=qs (st (dp (cu IB (cu Rv (cu aP0 (us 8 (c (ac (zV 4 11)) aPE))))) λv=>(pl (c (so aPO) (c cG (cu abY (c (so xY) (cl (so (cl (gs v.1 ia) nil)) nil))))) (cu rq6 axP))))
def Sh:=qs (st (pr (cu IB (cu Rv (cu aP0 (us 8 (c (ac (zV 4 11)) aPK))))) (pl (c (so aPO) (c cG (cu abY (c (so xY) LO)))) (cu rq6 axP))))
abbrev fg:=(aSh×xT×Bool×HS×NI×NI×NI×NI×NI×NI×NI×NI×NI×NI×NI)
def BX {ρ:Type}(x:fg)(K:AX->St->Option ρ):Option ρ:=(λd=>K (.ex 0) (Sh.em (d.1,d.2.1,d.b.1,d.b.2.1,d.1.1,d.c))) x
def mV (v7:Ef)(ke:vr)(V6:o8)(d:cO.B):PL cO fg:=let n6:=d.1.2;let n4:=d.2.2.2.2;let n1:=n4.2.2.2;let n9:=n1.2.2;let n5:=n9.2.2;let y0:=z4 n6.2;let y1:=decide (n6.2<n6.1);ae y1 (ae (bf n6.2 d.1.1) (opt (V6 ((n4.1 y0,(n4.2.1 y0,n4.2.2.1 y0,n1.1 y0,n1.2.1 y0),(n9.1 y0,n9.2.1 y0,n5.1 y0),n5.2.1 y0,n5.2.2.1 y0,n5.2.2.2 y0),d.2.2.2.1,d.2.2.1)) λak=>let n2:=ak.1.2.2.2.2;let n7:=n2.2.2.2;opt (v7 (λx=>0) ak.1.1 ak.1.2.1 ak.1.2.2.1 ak.1.2.2.2.1 n2.1 n2.2.1 n2.2.2.1 n7.1 n7.2.1 n7.2.2.1 n7.2.2.2) λaK=>opt (ke aK (n4.1 y0) ak.2) λbJ=>let n3:=bJ.1.2.2.2.2;let n8:=n3.2.2.2;ae (bf n6.2 d.2.1.2.2) (ae (true&&wr (0+y0*11+11) (d.1.1*11+0)) (ret (ww ((d.1.1,n6.1,wI (n6.2+1)),d.2.1,bJ.2,d.2.2.2.1,λj=>bif z9 j y0 then bJ.1.1 else n4.1 j,λj=>bif z9 j y0 then bJ.1.2.1 else n4.2.1 j,λj=>bif z9 j y0 then bJ.1.2.2.1 else n4.2.2.1 j,λj=>bif z9 j y0 then bJ.1.2.2.2.1 else n1.1 j,λj=>bif z9 j y0 then n3.1 else n1.2.1 j,λj=>bif z9 j y0 then n3.2.1 else n9.1 j,λj=>bif z9 j y0 then n3.2.2.1 else n9.2.1 j,λj=>bif z9 j y0 then n8.1 else n5.1 j,λj=>bif z9 j y0 then n8.2.1 else n5.2.1 j,λj=>bif z9 j y0 then n8.2.2.1 else n5.2.2.1 j,λj=>bif z9 j y0 then n8.2.2.2 else n5.2.2.2 j))) no) no) no) (ret (wt ((d.1.1,n6.1,n6.2,y1),d.2)))
def mW:=bE (mV sJ kd iS) 2000
def pe (eB:LT cO fg)(x:iU.B):Pg vC:=ae (z9 x.1.2.2 x.1.2.2) (opt (eB ((x.1.2.2,ws x.1.2.2,0),x)) λd=>ret (d.2.2.1,d.1.1,d.2.2.2.2)) no
def gf:=λx=>(pe mW x).val
abbrev pf:=Ef×vr×o8×(LT cO fg)
def vE (p:pf):KK:=⟨[Q' p.1,Hn p.2.1,vu p.b.1],⟨[⟨1,(rg 3 8 (rg 14 20 [])),[]⟩],[gx 1 5 cO BX p.b.2],[4,1],[],(some ⟨0,(rg 0 34 []),[]⟩)⟩,5,179⟩
theorem P3 (p:pf):LI (vE p) 1 cO BX (mV p.1 p.2.1 p.b.1):=λ_ d c K=>by kernel_rfl
theorem V7 (p:pf):D2 (vE p) iU (lf uO) λb=>pe p.b.2 b:=λb=>by kernel_rfl
abbrev vF:pf:=(sJ,kd,iS,mW)
theorem V8 [ay]:SC (Fb gf):=sc (kS (k:=vE vF) (.c adN (.c Nq (.c E' (.nil _)))) [1] [] ⟨kL (P3 vF),trivial⟩ trivial (V7 vF))
def jU:=qa (dp (cu IB (cu Rv (cl aPk nil))) λv=>(cd aKj λb0=>(c xU (c (cl (gs v.1 kZ) nil) (cl (cl (gs b0.b ia) nil) nil)))))
def xq:=qe (res (pu Wt (pl (cu fV (c auX (cu fV aQn))) nil)))
abbrev yo:=xq.B
abbrev yp:=jU.B->Option yo
def HI (g:yp):Ct:=(112,vR 2 [.i .i64,.i .i64,.i .i64,.i .i64,.i .i64,.i .i64,.i .i64,.i .i64,.i .i64,.i .i64] (FC jU (lf xq) g))
def dE:=qs (st (dp (cu IB (us 3 (cu aD6 (us 3 (c aPk (c ai aPx)))))) λv=>(pl (cd (so aKj) λb0=>(c cG (c (so (cl (gs v.1.1 kZ) nil)) (cl (so (cl (gs b0.b ia) nil)) (cu abY nil))))) (cu rq7 axP))))
def V9:=qs (st (pr (cu IB (us 3 (cu aD6 (us 3 (c aPk (c ai aKc)))))) (pl (c (so aKj) (c cG (c xZ (cl Tc (cu abY nil))))) (cu rq7 axP))))
abbrev iV:=(aMw×xT×Bool×aSf×NI×NI×NI×NI×NI×NI×NI×NI×NI×NI×NI)
def Fc {ρ:Type}(x:iV)(K:AX->St->Option ρ):Option ρ:=(λd=>K (.ex 0) (V9.em (d.1,d.2.1,d.b.1,(d.1.1.1,d.b.2.1),d.2.1.b,d.c))) x
def pg (Wa:vD)(d:dE.B):PL dE iV:=let bc:=d.2.1;let n6:=d.1.2;let n1:=d.2.2.2;let n4:=n1.1.2.2.2.2;let n3:=n1.2.2.2.2.2;let n9:=n3.2.2.2;let y0:=z4 n6.2;let y1:=bc.2.2*11;let y2:=decide (n6.2<n6.1);ae y2 (ae (bf n6.2 d.1.1.1) (ae (z9 bc.2.2 bc.2.2) (opt (Wa (bc,d.2.2.1,((n1.1.1 y0,n1.1.2.1 y0,n1.1.2.2.1 y0,n1.1.2.2.2.1 y0),(n4.1 y0,n4.2.1 y0,n4.2.2.1 y0),n4.2.2.2.1 y0,n4.2.2.2.2.1 y0,n4.2.2.2.2.2 y0),n1.2)) λak=>let n7:=ak.2.2.2;let n5:=ak.2.1;let n2:=n7.2.2.2;let n8:=n2.2.2.2;let y0:=n5*11+0;ae (true&&z9 y0 y1&&true) (ae (true&&wr (0+y0) (y1+0)) (ret (ww ((d.1.1,n6.1,wI (n6.2+1)),bc,ak.1,n1.1,λj=>bif true&&wl j (0+n5) then ak.2.2.1 j else n1.2.1 j,λj=>bif true&&wl j (0+n5) then n7.1 j else n1.2.2.1 j,λj=>bif true&&wl j (0+n5) then n7.2.1 j else n1.2.2.2.1 j,λj=>bif true&&wl j (0+n5) then n7.2.2.1 j else n1.2.2.2.2.1 j,λj=>bif true&&wl j (0+n5) then n2.1 j else n3.1 j,λj=>bif true&&wl j (0+n5) then n2.2.1 j else n3.2.1 j,λj=>bif true&&wl j (0+n5) then n2.2.2.1 j else n3.2.2.1 j,λj=>bif true&&wl j (0+n5) then n8.1 j else n9.1 j,λj=>bif true&&wl j (0+n5) then n8.2.1 j else n9.2.1 j,λj=>bif true&&wl j (0+n5) then n8.2.2.1 j else n9.2.2.1 j,λj=>bif true&&wl j (0+n5) then n8.2.2.2 j else n9.2.2.2 j))) no) no) no) no) (ret (wt ((d.1.1,n6.1,n6.2,y2),d.2)))
def ph:=bE (pg gf) 2000
def qR (eB:LT dE iV)(x:jU.B):Pg yo:=ae (z9 x.1.1 x.1.1) (ae (z9 x.2.1.2.2 x.2.1.2.2) (opt (eB ((x.1,ws x.1.1,0),x.2)) λd=>ret (d.2.2.1,d.2.1.2.2,d.2.2.2.2)) no) no
def gW:=λx=>(qR ph x).val
abbrev qS:=o8×vD×(LT dE iV)
def yu (p:qS):KK:=⟨[vu p.1,Fb p.2.1],⟨[⟨2,(1::2::3::5::6::7::rg 11 8 []),[]⟩],[gx 2 4 dE Fc p.b],[3,1],[],(some ⟨0,(rg 0 19 []),[]⟩)⟩,4,112⟩
theorem Uu (p:qS):LI (yu p) 2 dE Fc (pg p.2.1):=λ_ d c K=>by kernel_rfl
theorem Z7 (p:qS):D2 (yu p) jU (lf xq) λb=>qR p.b b:=λb=>by kernel_rfl
abbrev yw:qS:=(iS,gf,ph)
theorem Z8 [ay]:SC (HI gW):=sc (Sound.nil 2 [.i .i64,.i .i64,.i .i64,.i .i64,.i .i64,.i .i64,.i .i64,.i .i64,.i .i64,.i .i64]<|kS (k:=yu yw) (.c E' (.c V8 (.nil _))) [2] [] ⟨kL (Uu yw),trivial⟩ trivial (Z7 yw))
def Za:=qa (pl gZ nil)
def Ib:=qe AT
abbrev Zb:=Ib.B
abbrev Zc:=Int->Option Zb
def Zd (g:Zc):Ct:=(204,FC Za (lf Ib) (λb=>g b))
def KG (x0:Int):Pg Zb:=ret (x0 !=x0)
def xr:=λx0=>(KG x0).val
theorem auh:D0 [] 204 Za (lf Ib) λb=>KG b:=λb=>by kernel_rfl
theorem aui [ay]:SC (Zd xr):=s0 (.nil _) auh
def Si:=qa (pl zW nil)
def EB:=qe Fq
abbrev Sj:=EB.B
abbrev zy:=Int->Int->Option Sj
def Gm (g:zy):Ct:=(143,FC Si (lf EB) (λb=>g b.1 b.2))
def Gn (xt:Zc)(x0:Int)(x1:Int):Pg Sj:=opt (xt x0) λd=>opt (xt x1) λak=>ae d (ae ak (ret 0) (ret (-1))) (ae ak (ret 1) (ae (decide (x0<x1)) (ret (-1)) (ae (decide (x0>x1)) (ret 1) (ret 0))))
def lZ:=λx0 x1=>(Gn xr x0 x1).val
theorem aor:∀xt,D0 [Zd xt] 143 Si (lf EB) λb=>Gn xt b.1 b.2:=λ_ b=>by kernel_rfl
theorem Sk [ay]:SC (Gm lZ):=s0 (.c aui (.nil _)) (aor xr)
def BY:=qa (dp (c Wx axT) λv=>(c (cl (gs v.1.1 oF) nil) (cl (cl (gs v.2.1 oF) nil) nil)))
def rK:=qe aPP
abbrev BZ:=rK.B
abbrev B3:=Nat->Nat->NI->NI->Bool->Bool->Option BZ
def B4 (g:B3):Ct:=(144,vR 1 [.i .i64] (vR 0 [.i .i64] (FC BY (lf rK) (λb=>g b.1.1.1 b.1.2.1 b.2.1 b.b b.1.1.2 b.1.b))))
def dx:=qs (st (dp (c Wx (c IC (us 7 (c Wx (c ai aJ6))))) λv=>(pl (c (so (cl (gs v.1.1 oF) nil)) (cl (so (cl (gs v.2.1.1 oF) nil)) nil)) nil)))
def xW:=qs (st (pr (us 4 aVI) (pl (c J8 ak9) nil)))
def LM:=qs (st (pr (c Wx (c IC (us 7 (c Wx (c ai aKe))))) (pl (c J8 ak9) nil)))
abbrev iY:=xW.B⊕(((Nat×Bool)×(Nat×Bool)×(Nat×Bool)×Int×Int×Bool)×NI×NI)
def Az {ρ:Type}(x:iY)(K:AX->St->Option ρ):Option ρ:=(t9 (λd=>K .ret (xW.em d)) (λd=>K (.ex 0) (LM.em (d.1,(d.1.1.1,d.2.1),d.1.2.1.1,d.b)))) x
def qN (oR:zy)(d:dx.B):PL dx iY:=let n1:=d.1.2;let n2:=n1.2.2;let y0:=z4 n2.2;let y1:=decide (n2.2<n2.1);ae y1 (ae (bf n2.2 n1.2.1.1) (ae (decide (n2.2>=ws n1.1.1)) (ret (wt (ww (1,(d.1.1.1,d.2.1),n1.1.1,d.2.2)))) (ae (bf n2.2 n1.1.1) (opt (oR (d.2.1 y0) (d.2.2 y0)) λak=>ae (ak !=0) (ret (wt (ww (ak,(d.1.1.1,d.2.1),n1.1.1,d.2.2)))) (ret (ww ((d.1.1,n1.1,n1.2.1,n2.1,wI (n2.2+1)),d.2)))) no)) no) (ret (wt (wt ((d.1.1,n1.1,n1.2.1,n2.1,n2.2,y1),d.2))))
def qO:=bE (qN lZ) 2000
def tz (eB:LT dx iY)(x0:Nat)(x1:Nat)(x2:Nat->Int)(x3:Nat->Int)(w0:Bool)(w1:Bool):Pg BZ:=ae (z9 x0 x0) (ae (z9 x1 x1) (opt (eB (((x0,w0),(x1,w1),(x0,w0),ws x0,0),x2,x3)) λx=>sum x (λd=>ret d.1) λd=>ae (decide (ws d.1.1.1<ws d.1.2.1.1)) (ret (-1)) (ret 0)) no) no
def gN:=λx0 x1 x2 x3 w0 w1=>(tz qO x0 x1 x2 x3 w0 w1).val
abbrev mX:=zy×(LT dx iY)
def tC (p:mX):KK:=⟨[Gm p.1],⟨[⟨2,(rg 2 7 (rg 12 24 [])),[]⟩],[gx 2 2 dx Az p.2],[],[],(some ⟨0,(rg 0 4 (rg 5 31 [])),[]⟩)⟩,2,144⟩
theorem Nv (p:mX):LI (tC p) 2 dx Az (qN p.1):=λ_ d c K=>by kernel_rfl
theorem Sl (p:mX):D2 (tC p) BY (lf rK) λb=>tz p.2 b.1.1.1 b.1.2.1 b.2.1 b.b b.1.1.2 b.1.b:=λb=>by kernel_rfl
abbrev tD:mX:=(lZ,qO)
theorem Sn [ay]:SC (B4 gN):=sc (Sound.nil 1 [.i .i64]<|Sound.nil 0 [.i .i64]<|kS (k:=tC tD) (.c Sk (.nil _)) [2] [] ⟨kL (Nv tD),trivial⟩ trivial (Sl tD))
def DP:=qa (pl (c aKq Em) nil)
def P4:=qe Fq
abbrev aki:=P4.B
abbrev JY:=DP.B->Option aki
def Uv (g:JY):Ct:=(96,FC DP (lf P4) g)
def Uw (oR:zy)(mY:B3)(x:DP.B):Pg aki:=let n2:=x.2.2.2.2;let n1:=x.1.2.2.2;opt (oR x.1.1 x.2.1) λd=>ae (d !=0) (ret d) (opt (mY 8 8 (cr x.1.2.1 [n1.2.2.2.2.2,n1.2.2.2.2.1,n1.2.2.2.1,n1.2.2.1,n1.2.1,n1.1,x.1.2.2.1,x.1.2.1]) (cr x.2.2.1 [n2.2.2.2.2.2,n2.2.2.2.2.1,n2.2.2.2.1,n2.2.2.1,n2.2.1,n2.1,x.2.2.2.1,x.2.2.1]) false false) λd=>ret d)
def uP:=λx=>(Uw lZ gN x).val
theorem aDq:∀oR mY,D0 [Gm oR,B4 mY] 96 DP (lf P4) λb=>Uw oR mY b:=λ_ _ b=>by kernel_rfl
theorem akj [ay]:SC (Uv uP):=s0 (.c Sk (.c Sn (.nil _))) (aDq lZ gN)
def cj:=qa (dp (c aPl (cl aKq (cu aPB nil))) λv=>(cl (cl (gs v.1.1 aB) nil) nil))
def eC:=qe (res (pl aPH (pu aaf nil)))
abbrev eE:=eC.B
abbrev jc:=cj.B->Option eE
def jd (g:jc):Ct:=(95,vR 0 [.i .i64,.i .i64,.i .i64,.i .i64,.i .i64,.i .i64,.i .i64,.i .i64,.i .i64] (FC cj (lf eC) g))
def bh:=qs (st (dp (c aPl (us 1 (cu aPB (us 1 (cu aIQ (us 3 (c ai (c ai (cl ai (us 29 aVJ)))))))))) λv=>(pl (c (so (cl (gs v.1.1 aB) nil)) aWK) nil)))
def qx:=qs (st (pr (c aPl (us 1 (cu aPB (us 1 (cu aIQ (us 3 (c ai (c ai (c ai (us 4 (c ai (c ai (cl ab (us 22 aVJ)))))))))))))) (pl (c HW aWK) nil)))
abbrev bW:=(((Nat×Bool)×Int×Int×Int×Bool)×fw×Int×Int×Int×Int×Int×Int×Int×Int×Int)
def iH {ρ:Type}(x:bW)(K:AX->St->Option ρ):Option ρ:=(λd=>K (.ex 0) (qx.em ((d.1.1,d.1.2.1,d.1.b.1,d.1.b.2.1,d.1.b),(d.1.1.1,d.2.1),d.b))) x
def ek (DQ:JY)(d:bh.B):PL bh bW:=let n2:=d.1.2.2;let n1:=d.2.1.2.2.2;let y0:=wI (Int.fdiv (wU (wI (n2.1+n2.2))) 2);let y1:=z4 y0;let y2:=decide (n2.1<n2.2);ae y2 (ae (bf y0 d.1.1.1) (opt (DQ ((d.2.1.1 y1,d.2.1.2.1 y1,d.2.1.2.2.1 y1,n1.1 y1,n1.2.1 y1,n1.2.2.1 y1,n1.2.2.2.1 y1,n1.2.2.2.2.1 y1,n1.2.2.2.2.2 y1),d.2.2)) λak=>ae (decide (ak<0)) (ret (ww ((d.1.1,d.1.2.1,wI (y0+1),n2.2),d.2))) (ret (ww ((d.1.1,d.1.2.1,n2.1,y0),d.2)))) no) (ret (wt ((d.1.1,d.1.2.1,n2.1,n2.2,y2),d.2)))
def eo:=bE (ek uP) 2000
def eF (DQ:JY)(eB:LT bh bW)(x:cj.B):Pg eE:=let y0:=ws x.1.1.1;ae (z9 x.1.1.1 x.1.1.1) (opt (eB ((x.1.1,y0,0,y0),x.2,x.1.2)) λd=>let n2:=d.1.2.2.1;let n1:=d.2.1.2.2.2;let y0:=z4 n2;ae (decide (n2<d.1.2.1)) (ae (bf n2 d.1.1.1) (opt (DQ ((d.2.1.1 y0,d.2.1.2.1 y0,d.2.1.2.2.1 y0,n1.1 y0,n1.2.1 y0,n1.2.2.1 y0,n1.2.2.2.1 y0,n1.2.2.2.2.1 y0,n1.2.2.2.2.2 y0),d.2.2)) λak=>ret (n2,ak==0)) no) (ret (n2,false))) no
def ck:=λx=>(eF uP eo x).val
abbrev de:=JY×(LT bh bW)
def eG (p:de):KK:=⟨[Uv p.1],⟨[⟨3,(1::3::5::6::7::rg 11 29 [48]),[]⟩],[gx 3 1 bh iH p.2],[],[],(some ⟨0,(rg 0 6 (rg 8 41 [])),[]⟩)⟩,1,95⟩
theorem pZ (p:de):LI (eG p) 3 bh iH (ek p.1):=λ_ d c K=>by kernel_rfl
theorem qZ (p:de):D2 (eG p) cj (lf eC) λb=>eF p.1 p.2 b:=λb=>by kernel_rfl
abbrev eH:de:=(uP,eo)
theorem rb [ay]:SC (jd ck):=sc (Sound.nil 0 [.i .i64,.i .i64,.i .i64,.i .i64,.i .i64,.i .i64,.i .i64,.i .i64,.i .i64]<|kS (k:=eG eH) (.c akj (.nil _)) [3] [] ⟨kL (pZ eH),trivial⟩ trivial (qZ eH))
def xu:=qa (pr (cu Wv Em) (cd agl λb0=>(cl (cl (gs b0.b.1 aB) nil) nil)))
def Oo:=qe (res (pu uy (pl (cl (B9 agl) aaf) nil)))
def akS:=qe (res (pr ab (pr (cl (B9 (a 5 fW (c gi (c (gc (zV 2 9)) jG)))) aMF) (cl ab3 nil))))
abbrev CY:=Oo.B⊕(Bool×cD×NI×NI×NI×NI×NI×NI×NI×NI×NI)
def Ze:CY->T:=ls (lf Oo) (λd=>lf akS (d.1,d.2.1,d.2.1.b.1,d.b))
abbrev KH:=xu.B->Option CY
def Zf (g:KH):Ct:=(58,FC xu Ze g)
def KI (dg:jc)(iB:sZ)(db:ij)(x:xu.B):Pg CY:=let bn:=x.2.2;let n5:=x.1.2;let n4:=bn.2.2.2;let n3:=x.2.1;let n9:=n3.1.2;let n7:=n3.2.2;let n1:=n5.2.2.2;let n6:=n1.2.2;let y0:=wI (n3.1.1+1);let y1:=z9 n7.1 n7.1;ae (decide (x.1.1<=n7.2)) (ret (ww ((y0,wI (n9.1+1),n9.2),n3.2))) (ae y1 (opt (dg (((n7.1,true),x.1),bn)) λd=>ae y1 (opt (iB n7.1 d.1 bn.1 bn.2.1 bn.2.2.1 n4.1 n4.2.1 n4.2.2.1 n4.2.2.2.1 n4.2.2.2.2.1 n4.2.2.2.2.2 (λj=>bif z9 j 0 then x.1.1 else x.1.1) (λj=>bif z9 j 0 then n5.1 else n5.1) (λj=>bif z9 j 0 then n5.2.1 else n5.2.1) (λj=>bif z9 j 0 then n5.2.2.1 else n5.2.2.1) (λj=>bif z9 j 0 then n1.1 else n1.1) (λj=>bif z9 j 0 then n1.2.1 else n1.2.1) (λj=>bif z9 j 0 then n6.1 else n6.1) (λj=>bif z9 j 0 then n6.2.1 else n6.2.1) (λj=>bif z9 j 0 then n6.2.2 else n6.2.2) 1 true true) λd=>let n8:=d.2.2;let n2:=n8.2.2.2;let bc:=n2.2.2;ae (decide (ws d.1<=n3.2.1)) (ret (wt (true,((y0,n9),n3.2.1,d.1,n7.2),d.2))) (ae (bf 0 d.1) (ae (z9 d.1 d.1) (opt (db d.1 0 1 d.2.1 n8.1 n8.2.1 n8.2.2.1 n2.1 n2.2.1 bc.1 bc.2.1 bc.2.2 true) λak=>ret (wt (!(d.2.1 0==x.1.1&&(n8.1 0==n5.1&&(n8.2.1 0==n5.2.1&&(n8.2.2.1 0==n5.2.2.1&&(n2.1 0==n1.1&&(n2.2.1 0==n1.2.1&&(bc.1 0==n6.1&&(bc.2.1 0==n6.2.1&&(bc.2.2 0==n6.2.2&&true)))))))&&true)),((y0,n9.1,wI (n9.2.1+1),n9.2.2),n3.2.1,ak.1,n7.2),ak.2))) no) no)) no) no)
def xw:=λx=>(KI ck eX c8 x).val
theorem auj:∀dg DQ iB db,D0 [jd dg,Uv DQ,te iB,lO db] 58 xu Ze λb=>KI dg iB db b:=λ_ _ _ _ b=>by kernel_rfl
theorem auk [ay]:SC (Zf xw):=s0 (.c rb (.c akj (.c FF (.c tg (.nil _))))) (auj ck uP eX c8)
def xx:=qa (pr (cu Wv gZ) (cd agl λb0=>(cl (cl (gs b0.b.1 aB) nil) nil)))
def aqa:=qe (res (pr (ac (zV 2 9)) (pr (cl (B9 (a 5 fW (c gi (c (gc (zV 3 9)) jG)))) aMF) (c ab3 (cl ab3 nil)))))
abbrev CZ:=(Nat×cD×fw×NI×NI×NI×NI×NI×NI×NI×NI×NI)
def Zg:CZ->T:=λd=>lf aqa (d.1,d.2.1,(d.1,d.b.1),d.2.1.b.1,d.b.2)
abbrev KJ:=xx.B->Option CZ
def Zh (g:KJ):Ct:=(108,FC xx Zg g)
def je:=qs (st (pr (cu Wv (c ai (us 3 (cl ai (us 58 nil))))) (pl (cd (so agl) λb0=>(cl (so (cl (gs b0.b.1 aB) nil)) nil)) nil)))
def ait:=qs (st (pr (cu Wv (c ai (us 3 (c ai (us 1 (c ai (cu Wv (cu Wv (cu aPS (c aPm (c ai (c ab (cu Ta (cu Wv (cu Wv (cu aPS (c aPm (c ai (c (ac (N7 (pu Ek (pl aV9 ep)))) (c (ac (N7 (pu Ek (pl aV9 Ek)))) (c ai (c ai (c ab aVG))))))))))))))))))))))) (pl (c (so agl) (cl HW nil)) nil)))
def aiu:=qs (st (pr (cu Wv (c ai (us 3 (c ai (us 1 (c ai (cu Wv (cu Wv (cu aPS (c aPm (c ai (cl ab (cu uy (xs 10 (cu uy (us 38 nil)))))))))))))))) (pl (c (so agl) (cl HW nil)) nil)))
abbrev tE:=((Int×Int×Nat×Int×Bool×Nat×Int×Bool)×(aVr×Int×Int)×NI×NI×NI×NI×NI×NI×NI×NI×NI)⊕((Int×Int×Nat×Int×Bool)×(aVr×Int×Int)×NI×NI×NI×NI×NI×NI×NI×NI×NI)
def So {ρ:Type}(x:tE)(K:AX->St->Option ρ):Option ρ:=(t9 (λd=>K (.ex 0) (ait.em ((d.1.1,d.1.2.1,d.1.2.1,d.1.b.1,d.1.b.2.1,d.1.c.1,d.1.b.1,d.1.2.1,d.1.c.2.1,d.1.c.2.1,d.1.c.b.1,d.1.1,d.1.c.b.2,d.1.c.b.2),(d.2.1.1,d.2.1.2.1,d.1.b.1,d.2.1.b),d.1.b.1,d.b))) (λd=>K (.ex 0) (aiu.em ((d.1.1,d.1.2.1,d.1.2),(d.2.1.1,d.2.1.2.1,d.1.b.1,d.2.1.b),d.1.b.1,d.b)))) x
def Gp (d:je.B):PL je tE:=let n3:=d.1.2;let n2:=d.2.1.2.2;let n1:=(d.2.1.1,d.2.1.2.1,n2.2);let y0:=z4 n3;let y1:=ws n2.1;let y2:=decide (n3<y1);let y3:=decide (d.2.2.1 y0<=d.1.1);ae y2 (ae (bf n3 n2.1) (ae y3 (ret (ww ((d.1.1,wI (n3+1)),d.2))) (ret (wt (ww ((d.1.1,n3,n2.1,y1,y2,y0,d.2.2.1 y0,y3),n1,d.2.2))))) no) (ret (wt (wt ((d.1.1,n3,n2.1,y1,y2),n1,d.2.2))))
def Gq:=bE (Gp) 2000
def KL (uj:mn)(db:ij)(eB:LT je tE)(x:xx.B):Pg CZ:=ae (z9 x.2.1.2.2.1 x.2.1.2.2.1) (opt (eB ((x.1,0),x.2)) λx=>sum x (λd=>let n9:=d.2.2;let n6:=d.2.1;let n5:=d.1.2;let n1:=n9.2.2.2;let n3:=n1.2.2.2;let y0:=z4 n5.1;ae (HE n5.1 n5.2.1) (ae (z9 y0 y0) (opt (uj y0 n9.1 n9.2.1 n9.2.2.1 n1.1 n1.2.1 n1.2.2.1 n3.1 n3.2.1 n3.2.2 false) λak=>ae (z9 n5.2.1 n5.2.1) (opt (db n5.2.1 0 n5.1 n9.1 n9.2.1 n9.2.2.1 n1.1 n1.2.1 n1.2.2.1 n3.1 n3.2.1 n3.2.2 true) λaK=>ret (ak.1,((n6.1.1,n6.1.2.1,n6.1.2.2.1,n6.1.2.2.2.1,wI (n6.1.2.2.2.2+n5.1)),n6.2.1,aK.1,if d.1.1>n6.2.2 then d.1.1 else n6.2.2),ak.2,aK.2)) no) no) no) λd=>let bc:=d.2.2;let n8:=d.2.1;let n7:=d.1.2;let n2:=bc.2.2.2;let n4:=n2.2.2.2;let y0:=z4 n7.1;ae (HE n7.1 n7.2.1) (ae (z9 y0 y0) (opt (uj y0 bc.1 bc.2.1 bc.2.2.1 n2.1 n2.2.1 n2.2.2.1 n4.1 n4.2.1 n4.2.2 false) λak=>ae (z9 n7.2.1 n7.2.1) (opt (db n7.2.1 0 n7.1 bc.1 bc.2.1 bc.2.2.1 n2.1 n2.2.1 n2.2.2.1 n4.1 n4.2.1 n4.2.2 true) λaK=>ret (ak.1,((n8.1.1,n8.1.2.1,n8.1.2.2.1,n8.1.2.2.2.1,wI (n8.1.2.2.2.2+n7.1)),n8.2.1,aK.1,if d.1.1>n8.2.2 then d.1.1 else n8.2.2),ak.2,aK.2)) no) no) no) no
def xy:=λx=>(KL fA c8 Gq x).val
abbrev C2:=mn×ij×(LT je tE)
def KM (p:C2):KK:=⟨[ub p.1,lO p.2.1],⟨[⟨2,(2::3::4::rg 6 9 (rg 25 39 (rg 15 10 []))),[]⟩],[gx 2 2 je So p.b],[],[],(some ⟨0,(rg 0 4 (rg 5 59 [])),[]⟩)⟩,2,108⟩
theorem akT (p:C2):LI (KM p) 2 je So (Gp):=λ_ d c K=>by kernel_rfl
theorem aul (p:C2):D2 (KM p) xx Zg λb=>KL p.1 p.2.1 p.b b:=λb=>by kernel_rfl
abbrev KN:C2:=(fA,c8,Gq)
theorem aum [ay]:SC (Zh xy):=sc (kS (k:=KM KN) (.c GS (.c tg (.nil _))) [2] [] ⟨kL (akT KN),trivial⟩ trivial (aul KN))
def Nw:=qa (pr (cl (aa (c gi aEi)) (cu aS (cu Rv (cu (app 2 1) nil)))) (cu (cu (gc (ccl (pu (nat 194) (pu rq7 (pu AS Ek))))) nil) (c jG (c jG (cu (cu (gp 4 1) nil) bK)))))
def Bw:=qe (res (pr ai (pl (cu fV (cu fV aPN)) nil)))
abbrev Nx:=Bw.B
abbrev Ny:=Int->Int->Int->Int->Int->Int->Int->Int->Int->Bool->Option Nx
def Nz (g:Ny):Ct:=(195,FC Nw (lf Bw) (λb=>g b.1.1 b.1.2.1 b.1.b.1 b.1.b.2.1 b.1.c.1 b.1.c.2.1 b.1.c.b b.2.1 b.b.1 b.b.2))
def C4 (aq:Cj)(x0:Int)(x1:Int)(x2:Int)(x3:Int)(x4:Int)(x5:Int)(x6:Int)(x7:Int)(x8:Int)(x9:Bool):Pg Nx:=let y0:=wI (x7+1);let y1:=wI (x0*1073741824);let y2:=wI (x5*1073741824);let y3:=wI (x4*1073741824);let y4:=wI (x6*1073741824);let y5:=wI (x2*1073741824);let y6:=wI (x1*1073741824);let y7:=wI (x3*1073741824);let y8:=bf y0 7;let y9:=y0==1;let xR:=y0==4;let xS:=y0==6;let AB:=y0==2;let AD:=y0==3;let AE:=y0==5;ae (bf x7 7) (ae (x7==6) (ae y8 (ae xS (opt (aq y4 y4 x8 600000000 x9) λd=>ret d) (ae AE (opt (aq y4 y2 x8 600000000 x9) λd=>ret d) (ae xR (opt (aq y4 y3 x8 600000000 x9) λd=>ret d) (ae AD (opt (aq y4 y7 x8 600000000 x9) λd=>ret d) (ae AB (opt (aq y4 y5 x8 600000000 x9) λd=>ret d) (ae y9 (opt (aq y4 y6 x8 600000000 x9) λd=>ret d) (opt (aq y4 y1 x8 600000000 x9) λd=>ret d))))))) no) (ae (x7==5) (ae y8 (ae xS (opt (aq y2 y4 x8 600000000 x9) λd=>ret d) (ae AE (opt (aq y2 y2 x8 600000000 x9) λd=>ret d) (ae xR (opt (aq y2 y3 x8 600000000 x9) λd=>ret d) (ae AD (opt (aq y2 y7 x8 600000000 x9) λd=>ret d) (ae AB (opt (aq y2 y5 x8 600000000 x9) λd=>ret d) (ae y9 (opt (aq y2 y6 x8 600000000 x9) λd=>ret d) (opt (aq y2 y1 x8 600000000 x9) λd=>ret d))))))) no) (ae (x7==4) (ae y8 (ae xS (opt (aq y3 y4 x8 600000000 x9) λd=>ret d) (ae AE (opt (aq y3 y2 x8 600000000 x9) λd=>ret d) (ae xR (opt (aq y3 y3 x8 600000000 x9) λd=>ret d) (ae AD (opt (aq y3 y7 x8 600000000 x9) λd=>ret d) (ae AB (opt (aq y3 y5 x8 600000000 x9) λd=>ret d) (ae y9 (opt (aq y3 y6 x8 600000000 x9) λd=>ret d) (opt (aq y3 y1 x8 600000000 x9) λd=>ret d))))))) no) (ae (x7==3) (ae y8 (ae xS (opt (aq y7 y4 x8 600000000 x9) λd=>ret d) (ae AE (opt (aq y7 y2 x8 600000000 x9) λd=>ret d) (ae xR (opt (aq y7 y3 x8 600000000 x9) λd=>ret d) (ae AD (opt (aq y7 y7 x8 600000000 x9) λd=>ret d) (ae AB (opt (aq y7 y5 x8 600000000 x9) λd=>ret d) (ae y9 (opt (aq y7 y6 x8 600000000 x9) λd=>ret d) (opt (aq y7 y1 x8 600000000 x9) λd=>ret d))))))) no) (ae (x7==2) (ae y8 (ae xS (opt (aq y5 y4 x8 600000000 x9) λd=>ret d) (ae AE (opt (aq y5 y2 x8 600000000 x9) λd=>ret d) (ae xR (opt (aq y5 y3 x8 600000000 x9) λd=>ret d) (ae AD (opt (aq y5 y7 x8 600000000 x9) λd=>ret d) (ae AB (opt (aq y5 y5 x8 600000000 x9) λd=>ret d) (ae y9 (opt (aq y5 y6 x8 600000000 x9) λd=>ret d) (opt (aq y5 y1 x8 600000000 x9) λd=>ret d))))))) no) (ae (x7==1) (ae y8 (ae xS (opt (aq y6 y4 x8 600000000 x9) λd=>ret d) (ae AE (opt (aq y6 y2 x8 600000000 x9) λd=>ret d) (ae xR (opt (aq y6 y3 x8 600000000 x9) λd=>ret d) (ae AD (opt (aq y6 y7 x8 600000000 x9) λd=>ret d) (ae AB (opt (aq y6 y5 x8 600000000 x9) λd=>ret d) (ae y9 (opt (aq y6 y6 x8 600000000 x9) λd=>ret d) (opt (aq y6 y1 x8 600000000 x9) λd=>ret d))))))) no) (ae y8 (ae xS (opt (aq y1 y4 x8 600000000 x9) λd=>ret d) (ae AE (opt (aq y1 y2 x8 600000000 x9) λd=>ret d) (ae xR (opt (aq y1 y3 x8 600000000 x9) λd=>ret d) (ae AD (opt (aq y1 y7 x8 600000000 x9) λd=>ret d) (ae AB (opt (aq y1 y5 x8 600000000 x9) λd=>ret d) (ae y9 (opt (aq y1 y6 x8 600000000 x9) λd=>ret d) (opt (aq y1 y1 x8 600000000 x9) λd=>ret d))))))) no))))))) no
def p6:=λx0 x1 x2 x3 x4 x5 x6 x7 x8 x9=>(C4 j6 x0 x1 x2 x3 x4 x5 x6 x7 x8 x9).val
theorem aiv:∀aq,D0 [Ck aq] 195 Nw (lf Bw) λb=>C4 aq b.1.1 b.1.2.1 b.1.b.1 b.1.b.2.1 b.1.c.1 b.1.c.2.1 b.1.c.b b.2.1 b.b.1 b.b.2:=λ_ b=>by kernel_rfl
theorem aiw [ay]:SC (Nz p6):=s0 (.c Mn (.nil _)) (aiv j6)
def U':=qa (pu nil nil)
def Gr:=qe (res (pu (aa (cu aVX (cu (gc (cf (fi .i64 (int 6000)))) (cu (gc (cf (fi .i64 (int (-2000))))) (cu (gc (cf (fi .i64 (int (-1500))))) (cu (gc (cf (fi .i64 (int (-6000))))) (cu (gc (cf (fi .i64 (int (-9000))))) (cu aVX (cu aVY (cu (gc (cf (fi .i64 (int 2500)))) (cu aKf (cu (gc (cf (fi .i64 (int (-2200))))) (cu (gc (cf (fi .i64 (int (-3800))))) (cu aX (cu aVY (cu aVZ (cu (gc (cf (fi .i64 (int 900)))) (cu (gc (cf (fi .i64 (int (-1400))))) (cu (gc (cf (fi .i64 (int (-500))))) (cu (gc (cf (fi .i64 (int (-300))))) (cu aV0 (cu aVZ (cu aKf (cu (gc (cf (fi .i64 (int 1500)))) (cu (gc (cf (fi .i64 (int (-1700))))) (cu aV0 (cu (gc (cf (fi .i64 (int 700)))) (cu (gc (cf (fi .i64 (int (-800))))) (cu aKf (cu aV1 (cu (gc (cf (fi .i64 (int 4000)))) (cu (gc (cf (fi .i64 (int (-3000))))) (cu aKf (cu (gc (cf (fi .i64 (int 3500)))) (cu (gc (cf (fi .i64 (int (-1200))))) (cu aV1 nil)))))))))))))))))))))))))))))))))))) (pu nil nil)))
abbrev Ic:=Gr.B
abbrev Ie:=Option Ic
def Ig (g:Ie):Ct:=(193,FC U' (lf Gr) (λ_=>g))
def Ih:Pg Ic:=ret ()
def mO:Option Ic:=(Ih).val
theorem aqb:D0 [] 193 U' (lf Gr) λb=>Ih:=λb=>by kernel_rfl
theorem Va [ay]:SC (Ig mO):=s0 (.nil _) aqb
def Sp:=qa (pr (cu aS HV) bK)
def EC:=qe aP5
abbrev Sq:=EC.B
abbrev Sr:=Int->Int->Int->Bool->Option Sq
def Ss (g:Sr):Ct:=(120,FC Sp (lf EC) (λb=>g b.1.1 b.1.2.1 b.1.b b.2))
def Gs (cU:vZ)(jl:Ie)(aq:Cj)(aO:Ny)(av:cA)(x0:Int)(x1:Int)(x2:Int)(x3:Bool):Pg Sq:=let y0:=wI (x0+900000000);let y1:=wI (x1+1800000000);let y2:=wI (Int.tdiv y0 450000000);let y3:=wI (Int.tdiv y1 600000000);let y4:=if 3<y2 then 3 else y2;let y5:=if 5<y3 then 5 else y3;let y6:=wI (y4+1);let y7:=wI (y1-wI (y5*600000000));opt (cU x0 x1 x2) λd=>ae (!d) (ret ((0,1),x3)) (opt jl λd=>ae (bf y4 5) (ae (y4==4) (opt (aO 1000 4000 (-3000) 500 3500 (-1200) 1000 y5 y7 x3) λd=>ae (bf y6 5) (ae (y6==4) (opt (aO 1000 4000 (-3000) 500 3500 (-1200) 1000 y5 y7 d.2) λak=>opt (aq d.1 ak.1 (wI (y0-wI (y4*450000000))) 450000000 ak.2) λd=>opt (av d.1 3373259426 19327352832000 d.2) λd=>ret ((d.1,0),d.2)) (ae (y6==3) (opt (aO 500 1500 (-1700) 100 700 (-800) 500 y5 y7 d.2) λak=>opt (aq d.1 ak.1 (wI (y0-wI (y4*450000000))) 450000000 ak.2) λd=>opt (av d.1 3373259426 19327352832000 d.2) λd=>ret ((d.1,0),d.2)) (ae (y6==2) (opt (aO 950 900 (-1400) (-500) (-300) 100 950 y5 y7 d.2) λak=>opt (aq d.1 ak.1 (wI (y0-wI (y4*450000000))) 450000000 ak.2) λd=>opt (av d.1 3373259426 19327352832000 d.2) λd=>ret ((d.1,0),d.2)) (ae (y6==1) (opt (aO 2200 2500 500 (-2200) (-3800) 0 2200 y5 y7 d.2) λak=>opt (aq d.1 ak.1 (wI (y0-wI (y4*450000000))) 450000000 ak.2) λd=>opt (av d.1 3373259426 19327352832000 d.2) λd=>ret ((d.1,0),d.2)) (opt (aO 3000 6000 (-2000) (-1500) (-6000) (-9000) 3000 y5 y7 d.2) λak=>opt (aq d.1 ak.1 (wI (y0-wI (y4*450000000))) 450000000 ak.2) λd=>opt (av d.1 3373259426 19327352832000 d.2) λd=>ret ((d.1,0),d.2)))))) no) (ae (y4==3) (opt (aO 500 1500 (-1700) 100 700 (-800) 500 y5 y7 x3) λd=>ae (bf y6 5) (ae (y6==4) (opt (aO 1000 4000 (-3000) 500 3500 (-1200) 1000 y5 y7 d.2) λak=>opt (aq d.1 ak.1 (wI (y0-wI (y4*450000000))) 450000000 ak.2) λd=>opt (av d.1 3373259426 19327352832000 d.2) λd=>ret ((d.1,0),d.2)) (ae (y6==3) (opt (aO 500 1500 (-1700) 100 700 (-800) 500 y5 y7 d.2) λak=>opt (aq d.1 ak.1 (wI (y0-wI (y4*450000000))) 450000000 ak.2) λd=>opt (av d.1 3373259426 19327352832000 d.2) λd=>ret ((d.1,0),d.2)) (ae (y6==2) (opt (aO 950 900 (-1400) (-500) (-300) 100 950 y5 y7 d.2) λak=>opt (aq d.1 ak.1 (wI (y0-wI (y4*450000000))) 450000000 ak.2) λd=>opt (av d.1 3373259426 19327352832000 d.2) λd=>ret ((d.1,0),d.2)) (ae (y6==1) (opt (aO 2200 2500 500 (-2200) (-3800) 0 2200 y5 y7 d.2) λak=>opt (aq d.1 ak.1 (wI (y0-wI (y4*450000000))) 450000000 ak.2) λd=>opt (av d.1 3373259426 19327352832000 d.2) λd=>ret ((d.1,0),d.2)) (opt (aO 3000 6000 (-2000) (-1500) (-6000) (-9000) 3000 y5 y7 d.2) λak=>opt (aq d.1 ak.1 (wI (y0-wI (y4*450000000))) 450000000 ak.2) λd=>opt (av d.1 3373259426 19327352832000 d.2) λd=>ret ((d.1,0),d.2)))))) no) (ae (y4==2) (opt (aO 950 900 (-1400) (-500) (-300) 100 950 y5 y7 x3) λd=>ae (bf y6 5) (ae (y6==4) (opt (aO 1000 4000 (-3000) 500 3500 (-1200) 1000 y5 y7 d.2) λak=>opt (aq d.1 ak.1 (wI (y0-wI (y4*450000000))) 450000000 ak.2) λd=>opt (av d.1 3373259426 19327352832000 d.2) λd=>ret ((d.1,0),d.2)) (ae (y6==3) (opt (aO 500 1500 (-1700) 100 700 (-800) 500 y5 y7 d.2) λak=>opt (aq d.1 ak.1 (wI (y0-wI (y4*450000000))) 450000000 ak.2) λd=>opt (av d.1 3373259426 19327352832000 d.2) λd=>ret ((d.1,0),d.2)) (ae (y6==2) (opt (aO 950 900 (-1400) (-500) (-300) 100 950 y5 y7 d.2) λak=>opt (aq d.1 ak.1 (wI (y0-wI (y4*450000000))) 450000000 ak.2) λd=>opt (av d.1 3373259426 19327352832000 d.2) λd=>ret ((d.1,0),d.2)) (ae (y6==1) (opt (aO 2200 2500 500 (-2200) (-3800) 0 2200 y5 y7 d.2) λak=>opt (aq d.1 ak.1 (wI (y0-wI (y4*450000000))) 450000000 ak.2) λd=>opt (av d.1 3373259426 19327352832000 d.2) λd=>ret ((d.1,0),d.2)) (opt (aO 3000 6000 (-2000) (-1500) (-6000) (-9000) 3000 y5 y7 d.2) λak=>opt (aq d.1 ak.1 (wI (y0-wI (y4*450000000))) 450000000 ak.2) λd=>opt (av d.1 3373259426 19327352832000 d.2) λd=>ret ((d.1,0),d.2)))))) no) (ae (y4==1) (opt (aO 2200 2500 500 (-2200) (-3800) 0 2200 y5 y7 x3) λd=>ae (bf y6 5) (ae (y6==4) (opt (aO 1000 4000 (-3000) 500 3500 (-1200) 1000 y5 y7 d.2) λak=>opt (aq d.1 ak.1 (wI (y0-wI (y4*450000000))) 450000000 ak.2) λd=>opt (av d.1 3373259426 19327352832000 d.2) λd=>ret ((d.1,0),d.2)) (ae (y6==3) (opt (aO 500 1500 (-1700) 100 700 (-800) 500 y5 y7 d.2) λak=>opt (aq d.1 ak.1 (wI (y0-wI (y4*450000000))) 450000000 ak.2) λd=>opt (av d.1 3373259426 19327352832000 d.2) λd=>ret ((d.1,0),d.2)) (ae (y6==2) (opt (aO 950 900 (-1400) (-500) (-300) 100 950 y5 y7 d.2) λak=>opt (aq d.1 ak.1 (wI (y0-wI (y4*450000000))) 450000000 ak.2) λd=>opt (av d.1 3373259426 19327352832000 d.2) λd=>ret ((d.1,0),d.2)) (ae (y6==1) (opt (aO 2200 2500 500 (-2200) (-3800) 0 2200 y5 y7 d.2) λak=>opt (aq d.1 ak.1 (wI (y0-wI (y4*450000000))) 450000000 ak.2) λd=>opt (av d.1 3373259426 19327352832000 d.2) λd=>ret ((d.1,0),d.2)) (opt (aO 3000 6000 (-2000) (-1500) (-6000) (-9000) 3000 y5 y7 d.2) λak=>opt (aq d.1 ak.1 (wI (y0-wI (y4*450000000))) 450000000 ak.2) λd=>opt (av d.1 3373259426 19327352832000 d.2) λd=>ret ((d.1,0),d.2)))))) no) (opt (aO 3000 6000 (-2000) (-1500) (-6000) (-9000) 3000 y5 y7 x3) λd=>ae (bf y6 5) (ae (y6==4) (opt (aO 1000 4000 (-3000) 500 3500 (-1200) 1000 y5 y7 d.2) λak=>opt (aq d.1 ak.1 (wI (y0-wI (y4*450000000))) 450000000 ak.2) λd=>opt (av d.1 3373259426 19327352832000 d.2) λd=>ret ((d.1,0),d.2)) (ae (y6==3) (opt (aO 500 1500 (-1700) 100 700 (-800) 500 y5 y7 d.2) λak=>opt (aq d.1 ak.1 (wI (y0-wI (y4*450000000))) 450000000 ak.2) λd=>opt (av d.1 3373259426 19327352832000 d.2) λd=>ret ((d.1,0),d.2)) (ae (y6==2) (opt (aO 950 900 (-1400) (-500) (-300) 100 950 y5 y7 d.2) λak=>opt (aq d.1 ak.1 (wI (y0-wI (y4*450000000))) 450000000 ak.2) λd=>opt (av d.1 3373259426 19327352832000 d.2) λd=>ret ((d.1,0),d.2)) (ae (y6==1) (opt (aO 2200 2500 500 (-2200) (-3800) 0 2200 y5 y7 d.2) λak=>opt (aq d.1 ak.1 (wI (y0-wI (y4*450000000))) 450000000 ak.2) λd=>opt (av d.1 3373259426 19327352832000 d.2) λd=>ret ((d.1,0),d.2)) (opt (aO 3000 6000 (-2000) (-1500) (-6000) (-9000) 3000 y5 y7 d.2) λak=>opt (aq d.1 ak.1 (wI (y0-wI (y4*450000000))) 450000000 ak.2) λd=>opt (av d.1 3373259426 19327352832000 d.2) λd=>ret ((d.1,0),d.2)))))) no))))) no)
def tF:=λx0 x1 x2 x3=>(Gs gT mO j6 p6 aY x0 x1 x2 x3).val
theorem aos:∀cU jl aq aO av,D1 [Ad cU,Ig jl,Ck aq,Nz aO,dA av] [0] 120 Sp (lf EC) λb=>Gs cU jl aq aO av b.1.1 b.1.2.1 b.1.b b.2:=λ_ _ _ _ _ b=>by kernel_rfl
theorem aot [ay]:SC (Ss tF):=s0 (.c Ed (.c Va (.c Mn (.c aiw (.c dN (.nil _)))))) (aos gT mO j6 p6 aY)
def aJF:=qa (pl gZ nil)
def aun:=qe AT
abbrev aJG:=aun.B
abbrev afw:=Int->Option aJG
def apC (g:afw):Ct:=(55,FC aJF (lf aun) (λb=>g b))
def apD (x0:Int):Pg aJG:=ae (decide (x0>=0)) (ret (decide (x0<6))) (ret false)
def Bx:=λx0=>(apD x0).val
theorem aUr:D0 [] 55 aJF (lf aun) λb=>apD b:=λb=>by kernel_rfl
theorem azB [ay]:SC (apC Bx):=s0 (.nil _) aUr
def akk:=qa (pl (c ai Em) nil)
def P5:=qe AT
abbrev akl:=P5.B
abbrev Ux:=Int->Int->Int->Int->Int->Int->Int->Int->Int->Int->Option akl
def akm (g:Ux):Ct:=(56,FC akk (lf P5) (λb=>g b.1 b.2.1 b.b.1 b.b.2.1 b.c.1 b.c.2.1 b.c.b.1 b.c.b.2.1 b.d.1 b.d.2))
def Uy (vG:ah5)(kg:KA)(jm:H8)(mZ:abu)(zz:an2)(vH:aii)(x0:Int)(x1:Int)(x2:Int)(x3:Int)(x4:Int)(x5:Int)(x6:Int)(x7:Int)(x8:Int)(x9:Int):Pg akl:=ae (x0==0) (opt (vG x1 x2 x3 x4 x5 x6 x7 x8 x9 false) λd=>ret (d.1.2==0)) (ae (x0==1) (opt (kg x1 x2 x3 x4 x5 x6 x7 x8 x9 false) λd=>ret (d.1.2==0)) (ae (x0==2) (opt (jm x1 x2 x3 x4 x5 x6 x7 x8 x9 false) λd=>ret (d.1.2==0)) (ae (x0==3) (opt (mZ x1 x2 x3 x4 x5 x6 x7 x8 x9 false) λd=>ret (d.1.2==0)) (ae (x0==4) (opt (zz x1 x2 x3 x4 x5 x6 x7 x8 x9 false) λd=>ret (d.1.2==0)) (ae (x0==5) (opt (vH x1 x2 x3 x4 x5 x6 x7 x8 x9 false) λd=>ret (d.1.2==0)) (ret true))))))
def DR:=λx0 x1 x2 x3 x4 x5 x6 x7 x8 x9=>(Uy CN oz mM zq F' CQ x0 x1 x2 x3 x4 x5 x6 x7 x8 x9).val
theorem aDr:∀vG kg jm mZ zz vH,D0 [ah6 vG,KB kg,H9 jm,abv mZ,an3 zz,aij vH] 56 akk (lf P5) λb=>Uy vG kg jm mZ zz vH b.1 b.2.1 b.b.1 b.b.2.1 b.c.1 b.c.2.1 b.c.b.1 b.c.b.2.1 b.d.1 b.d.2:=λ_ _ _ _ _ _ b=>by kernel_rfl
theorem aDs [ay]:SC (akm DR):=s0 (.c awS (.c YR (.c U5 (.c anS (.c aB1 (.c aw8 (.nil _))))))) (aDr CN oz mM zq F' CQ)
def xA:=qa (dp (cu eW (c ai aJ7)) λv=>(cd aEv λb0=>(c (cl (gs v.2.1 as4) nil) (c lK (c mJ (c (cl (gs b0.c.1 mI) nil) (cd pn λb5=>(cd px λb6=>(cd py λb7=>(cd pz λb8=>(cd pA λb9=>(cd (a 5 fW (c gi (c (gc (zV 19 9)) jG))) λb10=>(c ml (cd (c gi (c gi (cl (gc (zV 20 11)) nil))) λb12=>(c (cl (gs b0.e kZ) nil) (c (cl (gs b5.b.1 aB) nil) (c (cl (gs b6.b.1 aB) nil) (c (cl (gs b7.b.1 aB) nil) (c (cl (gs b8.b.1 aB) nil) (c (cl (gs b9.b.1 aB) nil) (c (cl (gs b10.b.1 aB) nil) (cl (cl (gs b12.b ia) nil) nil))))))))))))))))))))))
def Ii:=qe (res (pu Wt (pl (cu fV aQu) nil)))
abbrev Zi:=Ii.B
abbrev C5:=xA.B->Option Zi
def C6 (g:C5):Ct:=(232,vR 2 [.b,.i .i64,.i .i64] (FC xA (lf Ii) g))
def KO (sK:I1)(x:xA.B):Pg Zi:=let n1:=x.2.2.2.2.2.2.2.2.2.2.2.2.1;let n2:=n1.1.2.2;ae (z9 x.1.2.1 x.1.2.1) (opt (sK x.1.1 x.2.1.2.2.2.2.2.2.2.2.2.2.2.2.2.1 x.1.2.1 n1.1.1 n1.1.2.1 n2.1 n2.2.1 n2.2.2.1 n2.2.2.2 n1.2 x.2.2.1.1 x.2.2.1.2.1 x.2.2.1.2.2 (x.1.2.2&&true)) λd=>ret d) no
def kh:=λx=>(KO nA x).val
theorem auo:∀sK,D0 [I2 sK] 232 xA (lf Ii) λb=>KO sK b:=λ_ b=>by kernel_rfl
theorem KP [ay]:SC (C6 kh):=sc (Sound.nil 2 [.b,.i .i64,.i .i64]<|k0 (.c adE (.nil _)) (auo nA))
def vg:=qa (pr (cu eW gZ) (cd qL λb0=>(c lK (c mJ (c (cl (gs b0.c.1 mI) nil) (cd rj λb4=>(cd pn λb5=>(cd px λb6=>(cd py λb7=>(cd pz λb8=>(cd pA λb9=>(c ml (cd sQ λuQ=>(c (cl (gs b0.e kZ) nil) (c (cl (gs b4.b.1 aB) nil) (c (cl (gs b5.b.1 aB) nil) (c (cl (gs b6.b.1 aB) nil) (c (cl (gs b7.b.1 aB) nil) (c (cl (gs b8.b.1 aB) nil) (c (cl (gs b9.b.1 aB) nil) (cl (cl (gs uQ.b ia) nil) nil)))))))))))))))))))))
def Gu:=qe aXg
abbrev Vb:=Gu.B
abbrev AN:=vg.B->Option Vb
def AO (g:AN):Ct:=(223,FC vg (lf Gu) g)
def Ij (ee:C5)(x:vg.B):Pg Vb:=let n5:=x.2.2.2.2.2;let n2:=x.2.1.2.2.2.2;let n4:=n2.2.2.2.2.2.2.2.2.2.2.2.2;let n1:=n5.2;let n3:=n1.2.2.2;ae (z9 n2.1 n2.1) (ae (z9 n4 n4) (ae (z9 n5.1.2.2.1 n5.1.2.2.1) (ae (z9 n1.1.2.2.1 n1.1.2.2.1) (ae (z9 n1.2.1.2.2.1 n1.2.1.2.2.1) (ae (z9 n1.2.2.1.2.2.1 n1.2.2.1.2.2.1) (ae (z9 n3.1.2.2.1 n3.1.2.2.1) (ae (z9 n3.2.1.2.2.1 n3.2.1.2.2.1) (ae (z9 n3.2.2.2.1.2.2 n3.2.2.2.1.2.2) (opt (ee ((x.1,1,true),x.2.1,(λj=>bif z9 j 0 then true else true,λj=>bif z9 j 0 then 0 else 0,λj=>bif z9 j 0 then 0 else 0),x.2.2)) λd=>ret d) no) no) no) no) no) no) no) no) no
def jo:=λx=>(Ij kh x).val
theorem aqc:∀ee,D0 [C6 ee] 223 vg (lf Gu) λb=>Ij ee b:=λ_ b=>by kernel_rfl
theorem Ik [ay]:SC (AO jo):=s0 (.c KP (.nil _)) (aqc kh)
def tG:=qa (pr (cu eW gZ) (cd qL λb0=>(c lK (c mJ (c (cl (gs b0.c.1 mI) nil) (cd rj λb4=>(cd pn λb5=>(cd px λb6=>(cd py λb7=>(cd pz λb8=>(cd pA λb9=>(c ml (cd sQ λuQ=>(c (cl (gs b0.e kZ) nil) (c (cl (gs b4.b.1 aB) nil) (c (cl (gs b5.b.1 aB) nil) (c (cl (gs b6.b.1 aB) nil) (c (cl (gs b7.b.1 aB) nil) (c (cl (gs b8.b.1 aB) nil) (c (cl (gs b9.b.1 aB) nil) (cl (cl (gs uQ.b ia) nil) nil)))))))))))))))))))))
def ED:=qe aXg
abbrev Su:=ED.B
abbrev oS:=tG.B->Option Su
def oT (g:oS):Ct:=(172,FC tG (lf ED) g)
def Gv (ee:C5)(x:tG.B):Pg Su:=let n5:=x.2.2.2.2.2;let n2:=x.2.1.2.2.2.2;let n4:=n2.2.2.2.2.2.2.2.2.2.2.2.2;let n1:=n5.2;let n3:=n1.2.2.2;ae (z9 n2.1 n2.1) (ae (z9 n4 n4) (ae (z9 n5.1.2.2.1 n5.1.2.2.1) (ae (z9 n1.1.2.2.1 n1.1.2.2.1) (ae (z9 n1.2.1.2.2.1 n1.2.1.2.2.1) (ae (z9 n1.2.2.1.2.2.1 n1.2.2.1.2.2.1) (ae (z9 n3.1.2.2.1 n3.1.2.2.1) (ae (z9 n3.2.1.2.2.1 n3.2.1.2.2.1) (ae (z9 n3.2.2.2.1.2.2 n3.2.2.2.1.2.2) (opt (ee ((x.1,1,true),x.2.1,(λj=>bif z9 j 0 then false else false,λj=>bif z9 j 0 then 0 else 0,λj=>bif z9 j 0 then 0 else 0),x.2.2)) λd=>ret d) no) no) no) no) no) no) no) no) no
def dP:=λx=>(Gv kh x).val
theorem aou:∀ee,D0 [C6 ee] 172 tG (lf ED) λb=>Gv ee b:=λ_ b=>by kernel_rfl
theorem tH [ay]:SC (oT dP):=s0 (.c KP (.nil _)) (aou kh)
def rL:=qa (pr (cu eW (cl (aa (a 10 xY jG)) nil)) (cd qL λb0=>(c lK (c mJ (c (cl (gs b0.c.1 mI) nil) (cd rj λb4=>(cd pn λb5=>(cd px λb6=>(cd py λb7=>(cd pz λb8=>(cd pA λb9=>(c ml (cd sQ λuQ=>(c (cl (gs b0.e kZ) nil) (c (cl (gs b4.b.1 aB) nil) (c (cl (gs b5.b.1 aB) nil) (c (cl (gs b6.b.1 aB) nil) (c (cl (gs b7.b.1 aB) nil) (c (cl (gs b8.b.1 aB) nil) (c (cl (gs b9.b.1 aB) nil) (cl (cl (gs uQ.b ia) nil) nil)))))))))))))))))))))
def aqd:=qe aXn
abbrev xB:=((J7×Bool×NI×(NI×NI)×Nat×uW×Bool×Int×nJ×Bool×Bool×Bool×Int×Int×Int×HS×Nat)×NI×NI×NI×NI×NI×NI×NI×NI×NI×NI)
def Zj:xB->T:=λd=>lf aqd (d.1,d.1.e,d.2)
abbrev KQ:=rL.B->Option xB
def KR (g:KQ):Ct:=(222,FC rL Zj g)
def C7 (x:rL.B):Pg xB:=let n7:=x.2.1.2;let n6:=x.1.1;let n3:=n7.2.2.2.2;let n8:=n3.2.2.2;let n2:=x.2.2.2.2.2.2.2.2.2.2.2.2.2.1;let n5:=n2.2.2.2.2;let n1:=n8.2.2.2.2;let n4:=n1.2.2.2.2;let y0:=n4+1;ae (wr (y0*80) 140737488355328) (ret ((x.2.1.1,n7.1,n7.2.1,n7.2.2.1,n7.2.2.2.1,n3.1,n3.2.1,n3.2.2.1,n8.1,n8.2.1,n8.2.2.1,n8.2.2.2.1,n1.1,n1.2.1,n1.2.2.1,n1.2.2.2.1,y0),λj=>bif z9 j n4 then n6.1.1 else n2.1 j,λj=>bif z9 j n4 then n6.1.2.1 else n2.2.1 j,λj=>bif z9 j n4 then n6.1.2.2.1 else n2.2.2.1 j,λj=>bif z9 j n4 then n6.1.2.2.2 else n2.2.2.2.1 j,λj=>bif z9 j n4 then n6.2.1.1 else n5.1 j,λj=>bif z9 j n4 then n6.2.1.2.1 else n5.2.1 j,λj=>bif z9 j n4 then n6.2.1.2.2 else n5.2.2.1 j,λj=>bif z9 j n4 then n6.2.2.1 else n5.2.2.2.1 j,λj=>bif z9 j n4 then n6.2.2.2.1 else n5.2.2.2.2.1 j,λj=>bif z9 j n4 then n6.2.2.2.2 else n5.2.2.2.2.2 j)) no
def kj:=λx=>(C7 x).val
theorem aup:D0 [] 222 rL Zj λb=>C7 b:=λb=>by kernel_rfl
theorem Zk [ay]:SC (KR kj):=s0 (.nil _) aup
def rM:=qa (dp (cu eW (c ai (cl aJ3 nil))) λv=>(cd aEv λb0=>(c (cl (gs v.2.1 aKw) nil) (c lK (c mJ (c (cl (gs b0.c.1 mI) nil) (cd pn λb5=>(cd px λb6=>(cd py λb7=>(cd pz λb8=>(cd pA λb9=>(cd (a 5 fW (c gi (c (gc (zV 19 9)) jG))) λb10=>(c ml (cd (c gi (c gi (cl (gc (zV 20 11)) nil))) λb12=>(c (cl (gs b0.e kZ) nil) (c (cl (gs b5.b.1 aB) nil) (c (cl (gs b6.b.1 aB) nil) (c (cl (gs b7.b.1 aB) nil) (c (cl (gs b8.b.1 aB) nil) (c (cl (gs b9.b.1 aB) nil) (c (cl (gs b10.b.1 aB) nil) (cl (cl (gs b12.b ia) nil) nil))))))))))))))))))))))
def aqe:=qe (res (pr (ac (zV 21 3)) (pr (c (B9 aEv) aQu) (cl aPX nil))))
abbrev xC:=(Nat×((J7×Bool×NI×(NI×NI)×Nat×uW×Bool×Int×nJ×Bool×Bool×Bool×Int×Int×Int×HS×Nat)×aMv×Int)×(Nat->Bool)×NI×NI)
def Zl:xC->T:=λd=>lf aqe (d.1,d.2.1,d.1,d.b)
abbrev rN:=rM.B->Option xC
def rO (g:rN):Ct:=(228,vR 2 [.i .i64,.i .i64,.i .i64,.i .i64,.i .i64,.i .i64,.i .i64,.i .i64,.i .i64,.i .i64,.i .i64,.i .i64,.i .i64,.i .i64,.i .i64,.i .i64,.i .i64,.i .i64,.i .i64,.i .i64,.i .i64,.i .i64,.i .i64,.i .i64,.i .i64,.i .i64,.i .i64] (FC rM Zl g))
def C8 (abG:aBm)(ee:C5)(x:rM.B):Pg xC:=let n3:=x.2.1.2.2.2;let n5:=n3.2.2.2.2.2.2.2.2.2.2.2.2.2;let n2:=x.2.2.2.2.2.2;let n4:=n2.2.2.2;ae (z9 x.1.2.1 x.1.2.1) (opt (abG ((x.2.1.2.2.1,n3.1,x.1.2.1,x.1.2.2&&true),x.2.1.2.1,x.2.2.1)) λd=>let n6:=d.1.2.2;let n1:=(x.2.1.1,d.2.1,d.1.1,d.1.2.1,n3.2);ae (z9 n6 n6) (ae (z9 n3.2.1 n3.2.1) (ae (z9 n5 n5) (ae (z9 n2.1.2.2.1 n2.1.2.2.1) (ae (z9 n2.2.1.2.2.1 n2.2.1.2.2.1) (ae (z9 n2.2.2.1.2.2.1 n2.2.2.1.2.2.1) (ae (z9 n4.1.2.2.1 n4.1.2.2.1) (ae (z9 n4.2.1.2.2.1 n4.2.1.2.2.1) (ae (z9 n4.2.2.1.2.2.1 n4.2.2.1.2.2.1) (ae (z9 n4.2.2.2.2.1.2.2 n4.2.2.2.2.1.2.2) (opt (ee ((x.1.1,n6,true),n1,d.2.2,x.2.2.2)) λak=>ret (n6,(n1,ak),d.2.2)) no) no) no) no) no) no) no) no) no) no) no
def dH:=λx=>(C8 F4 kh x).val
theorem auq:∀abG ee,D0 [aBn abG,C6 ee] 228 rM Zl λb=>C8 abG ee b:=λ_ _ b=>by kernel_rfl
theorem xD [ay]:SC (rO dH):=sc (Sound.nil 2 [.i .i64,.i .i64,.i .i64,.i .i64,.i .i64,.i .i64,.i .i64,.i .i64,.i .i64,.i .i64,.i .i64,.i .i64,.i .i64,.i .i64,.i .i64,.i .i64,.i .i64,.i .i64,.i .i64,.i .i64,.i .i64,.i .i64,.i .i64,.i .i64,.i .i64,.i .i64,.i .i64]<|k0 (.c aOl (.c KP (.nil _))) (auq F4 kh))
def oU:=qa (dp (cu eW aJ7) λv=>(cd aEv λb0=>(c (cl (gs v.1 as4) nil) (c lK (c mJ (c (cl (gs b0.c.1 mI) nil) (cd pn λb5=>(cd px λb6=>(cd py λb7=>(cd pz λb8=>(cd pA λb9=>(cd (a 5 fW (c gi (c (gc (zV 19 9)) jG))) λb10=>(c ml (cd (c gi (c gi (cl (gc (zV 20 11)) nil))) λb12=>(c (cl (gs b0.e kZ) nil) (c (cl (gs b5.b.1 aB) nil) (c (cl (gs b6.b.1 aB) nil) (c (cl (gs b7.b.1 aB) nil) (c (cl (gs b8.b.1 aB) nil) (c (cl (gs b9.b.1 aB) nil) (c (cl (gs b10.b.1 aB) nil) (cl (cl (gs b12.b ia) nil) nil))))))))))))))))))))))
def EE:=qe (res (pu Wt (pl (cl (B9 aEv) alf) nil)))
abbrev zA:=EE.B
abbrev Gw:=oU.B->Option zA
def Gx (g:Gw):Ct:=(229,vR 1 [.b,.i .i64,.i .i64] (FC oU (lf EE) g))
def zB (sH:ade)(x:oU.B):Pg zA:=let n2:=x.2.1;let n1:=n2.2.2.2.2.2;let n3:=n1.2.2.2;ae (z9 x.1.1 x.1.1) (opt (sH x.1.1 x.2.2.1.1 x.2.2.1.2.1 x.2.2.1.2.2 (x.1.2&&true)) λd=>ae (decide (d.1>0)) (ret (n2.1,n2.2.1,n2.2.2.1,n2.2.2.2.1,n2.2.2.2.2.1,n1.1,n1.2.1,n1.2.2.1,n3.1,n3.2.1,n3.2.2.1,true,n3.2.2.2.2.2.1,n3.2.2.2.2.2)) (ret n2)) no
def iC:=λx=>(zB z7 x).val
theorem aov:∀sH,D1 [adf sH] [0] 229 oU (lf EE) λb=>zB sH b:=λ_ b=>by kernel_rfl
theorem Sv [ay]:SC (Gx iC):=sc (Sound.nil 1 [.b,.i .i64,.i .i64]<|k0 (.c arQ (.nil _)) (aov z7))
def my:=qa (pr (cu eW (c ai (c ai aWs))) (cd qL λb0=>(c lK (c mJ (c (cl (gs b0.c.1 mI) nil) (cd rj λb4=>(cd pn λb5=>(cd px λb6=>(cd py λb7=>(cd pz λb8=>(cd pA λb9=>(c ml (cd sQ λuQ=>(c (cl (gs b0.e kZ) nil) (c (cl (gs b4.b.1 aB) nil) (c (cl (gs b5.b.1 aB) nil) (c (cl (gs b6.b.1 aB) nil) (c (cl (gs b7.b.1 aB) nil) (c (cl (gs b8.b.1 aB) nil) (c (cl (gs b9.b.1 aB) nil) (cl (cl (gs uQ.b ia) nil) nil)))))))))))))))))))))
def By:=qe atd
abbrev vI:=By.B
abbrev NA:=my.B->Option vI
def NB (g:NA):Ct:=(169,FC my (lf By) g)
def vJ (bo:rN)(dt:AN)(x:my.B):Pg vI:=let n7:=x.2.2.2.2.2;let n4:=x.1.2.2.2;let n3:=x.2.1.2.2.2.2;let n6:=n3.2.2.2.2.2.2.2.2.2.2.2.2;let n2:=n7.2;let n5:=n2.2.2.2;let n1:=x.1.2.2.1;let y0:=z9 n3.1 n3.1;let y1:=z9 n6 n6;let y2:=z9 n7.1.2.2.1 n7.1.2.2.1;let y3:=z9 n2.1.2.2.1 n2.1.2.2.1;let y4:=z9 n2.2.1.2.2.1 n2.2.1.2.2.1;let y5:=z9 n2.2.2.1.2.2.1 n2.2.2.1.2.2.1;let y6:=z9 n5.1.2.2.1 n5.1.2.2.1;let y7:=z9 n5.2.1.2.2.1 n5.2.1.2.2.1;let y8:=z9 n5.2.2.2.1.2.2 n5.2.2.2.1.2.2;ae (n3.2.1.2.1==x.1.2.1) (ae y0 (ae y1 (ae y2 (ae y3 (ae y4 (ae y5 (ae y6 (ae y7 (ae y8 (opt (bo ((x.1.1,1,true),x.2.1,(λj=>bif z9 j 0 then n1 0 else n1 0,λj=>bif z9 j 0 then n1 1 else n1 1,λj=>bif z9 j 0 then n1 2 else n1 2,λj=>bif z9 j 0 then n1 3 else n1 3,λj=>bif z9 j 0 then n1 4 else n1 4,λj=>bif z9 j 0 then n1 5 else n1 5,λj=>bif z9 j 0 then n1 6 else n1 6,λj=>bif z9 j 0 then n1 7 else n1 7,λj=>bif z9 j 0 then n1 8 else n1 8,λj=>bif z9 j 0 then n1 9 else n1 9,λj=>bif z9 j 0 then n1 10 else n1 10,λj=>bif z9 j 0 then n1 11 else n1 11,λj=>bif z9 j 0 then n1 12 else n1 12,λj=>bif z9 j 0 then n1 13 else n1 13,λj=>bif z9 j 0 then n1 14 else n1 14,λj=>bif z9 j 0 then n1 15 else n1 15,λj=>bif z9 j 0 then n1 16 else n1 16,λj=>bif z9 j 0 then n1 17 else n1 17,λj=>bif z9 j 0 then n1 18 else n1 18,λj=>bif z9 j 0 then n1 19 else n1 19,λj=>bif z9 j 0 then n1 20 else n1 20,λj=>bif z9 j 0 then n1 21 else n1 21,λj=>bif z9 j 0 then n1 22 else n1 22,λj=>bif z9 j 0 then n1 23 else n1 23,λj=>bif z9 j 0 then n4.1 else n4.1,λj=>bif z9 j 0 then n4.2.1 else n4.2.1,λj=>bif z9 j 0 then n4.2.2 else n4.2.2),x.2.2)) λd=>ret d.2.1) no) no) no) no) no) no) no) no) no) (ae y0 (ae y1 (ae y2 (ae y3 (ae y4 (ae y5 (ae y6 (ae y7 (ae y8 (opt (dt (x.1.1,x.2)) λd=>ret (x.2.1,d)) no) no) no) no) no) no) no) no) no)
def kl:=λx=>(vJ dH jo x).val
theorem aix:∀bo dt,D1 [rO bo,AO dt] [0] 169 my (lf By) λb=>vJ bo dt b:=λ_ _ b=>by kernel_rfl
theorem aiy [ay]:SC (NB kl):=s0 (.c xD (.c Ik (.nil _))) (aix dH jo)
def gX:=qa (pu (cu eW nil) (cd qL λb0=>(c lK (c mJ (c (cl (gs b0.c.1 mI) nil) (cd rj λb4=>(cd pn λb5=>(cd px λb6=>(cd py λb7=>(cd pz λb8=>(cd pA λb9=>(c ml (cd sQ λuQ=>(c (cl (gs b0.e kZ) nil) (c (cl (gs b4.b.1 aB) nil) (c (cl (gs b5.b.1 aB) nil) (c (cl (gs b6.b.1 aB) nil) (c (cl (gs b7.b.1 aB) nil) (c (cl (gs b8.b.1 aB) nil) (c (cl (gs b9.b.1 aB) nil) (cl (cl (gs uQ.b ia) nil) nil)))))))))))))))))))))
def xE:=qe (res (pr ai (pl (cl (B9 qL) aW1) nil)))
abbrev qT:=xE.B
abbrev HJ:=gX.B->Option qT
def HK (g:HJ):Ct:=(220,FC gX (lf xE) g)
def mE (zC:Sr)(x:gX.B):Pg qT:=let n1:=x.1.1.2.2.2.2.2.2.2.2.2.2.2.2.2;opt (zC n1.1 n1.2.1 n1.2.2 x.1.2.1) λd=>ret (d.1.1,x.1.1,d.2,x.1.2.2)
def eD:=λx=>(mE tF x).val
theorem Z9:∀zC,D0 [Ss zC] 220 gX (lf xE) λb=>mE zC b:=λ_ b=>by kernel_rfl
theorem Z' [ay]:SC (HK eD):=s0 (.c aot (.nil _)) (Z9 tF)
def rP:=qa (pr (cu eW Em) (cd qL λb0=>(c lK (c mJ (c (cl (gs b0.c.1 mI) nil) (cd rj λb4=>(cd pn λb5=>(cd px λb6=>(cd py λb7=>(cd pz λb8=>(cd pA λb9=>(c ml (cd sQ λuQ=>(c (cl (gs b0.e kZ) nil) (c (cl (gs b4.b.1 aB) nil) (c (cl (gs b5.b.1 aB) nil) (c (cl (gs b6.b.1 aB) nil) (c (cl (gs b7.b.1 aB) nil) (c (cl (gs b8.b.1 aB) nil) (c (cl (gs b9.b.1 aB) nil) (cl (cl (gs uQ.b ia) nil) nil)))))))))))))))))))))
def Oq:=qe atd
def akU:=qe (res (pu Wt (pr (c (B9 (a 26 sS (c gb (c jw (a 2 uA (cu aiV (cu aiW (c aJ4 (au 6 agm (cu aqx (a 4 wJ (cu aqy (c gb (c gi (a 3 jV (c gb (cu axU (c gb aQp)))))))))))))))))) aQt) aKv)))
abbrev xF:=Oq.B⊕(((J7×Bool×NI×(NI×NI)×Nat×uW×Bool×Int×nJ×Bool×Bool×Int×Int×Int×HS×Nat)×aMv×Int)×NI×NI×NI×NI×NI×NI×NI×NI×NI×NI)
def Zm:xF->T:=ls (lf Oq) (λd=>lf akU (d.1,d.1.1.d.c.b.2,d.2))
abbrev Zn:=rP.B->Option xF
def Zo (g:Zn):Ct:=(167,FC rP Zm g)
def C9 (mZ:abu)(bk:dU)(qU:HJ)(Wb:awX)(bj:oS)(Wc:awG)(gF:KQ)(fD:rF)(jk:G7)(cL:sD)(aR:fH)(dt:AN)(x:rP.B):Pg xF:=let n8:=x.2.2;let bA:=n8.2.2.2;let n7:=x.2.1.2.2;let n9:=n7.2.2.2.2.2.2.2.2.2.2.2.2.2.2;let n6:=x.1.2.2.2;let n1:=bA.2;let n3:=n1.2.2.2;let bR:=n3.2.2.2;let y0:=z9 bA.1.2.2.1 bA.1.2.2.1;let y1:=z9 n1.1.2.2.1 n1.1.2.2.1;let y2:=z9 n1.2.1.2.2.1 n1.2.1.2.2.1;let y3:=z9 n1.2.2.1.2.2.1 n1.2.2.1.2.2.1;let y4:=z9 n3.1.2.2.1 n3.1.2.2.1;let y5:=z9 n3.2.1.2.2.1 n3.2.1.2.2.1;let y6:=z9 bR.1.2.2 bR.1.2.2;opt (mZ x.1.1 x.1.2.1 x.1.2.2.1 n6.1 n6.2.1 n6.2.2.1 n6.2.2.2.1 n6.2.2.2.2.1 n6.2.2.2.2.2 x.2.1.2.1) λd=>let bn:=d.1.1;opt (bk n7.1) λak=>ae (z9 n7.2.2.1 n7.2.2.1) (ae (z9 n9 n9) (ae y0 (ae y1 (ae y2 (ae y3 (ae y4 (ae y5 (ae y6 (opt (qU ((x.2.1.1,d.2,n7),n8)) λaK=>let n5:=aK.2.2.2;let bc:=n5.2.2.2.2.2.2.2.2.2.2.2.2.2.2;let se:=z9 n5.2.2.1 n5.2.2.1;let aAN:=z9 bc bc;opt (Wb ak.1 ak.2.1 ak.2.2.1 ak.2.2.2 bn.1 bn.2.1 bn.2.2.1 bn.2.2.2 aK.1 aK.2.2.1) λbJ=>ae (bJ.1.2!=0) (ae se (ae aAN (ae y0 (ae y1 (ae y2 (ae y3 (ae y4 (ae y5 (ae y6 (opt (bj (3,(aK.2.1,bJ.2,n5),n8)) λd=>ret (ww ((aK.2.1,bJ.2,n5),d))) no) no) no) no) no) no) no) no) no) (opt (Wc n5.1 n5.2.1.1 n5.2.1.2 bJ.1.1 (aK.2.1.2.2.2.2.2.2.2.1 0) bJ.2) λcI=>ae se (ae aAN (ae y0 (ae y1 (ae y2 (ae y3 (ae y4 (ae y5 (ae y6 (opt (gF (((cI.1.2.2,(0,0,0),0,0,0),1),(aK.2.1,cI.2,cI.1.1,cI.1.2.1,n5.2.2),n8)) λeV=>let bx:=eV.1.2.2;let n2:=bx.2.2;let n16:=n2.2.2;let n4:=n16.2.2;let n15:=n4.2.2.2;opt (bk bx.1) λdq=>opt (fD dq.1 dq.2.1 dq.2.2.1 dq.2.2.2 eV.1.2.1) λnu=>opt (jk nu.1 bn.1 bn.2.1 bn.2.2.1 nu.2) λd=>opt (cL bx.1 16 3 (cr d.1.1 [d.1.2.2,d.1.2.1,d.1.1]) false) λtX=>opt (aR tX d.2) λd=>ae (z9 n2.1 n2.1) (ae (z9 n15.2.2.2.2.2 n15.2.2.2.2.2) (ae y0 (ae y1 (ae y2 (ae y3 (ae y4 (ae y5 (ae y6 (opt (dt (3,(eV.1.1,d.2,d.1,bx.2.1,n2.1,n2.2.1,n16.1,n16.2.1,n4.1,n4.2.1,true,n15),n8.1,n8.2.1,n8.2.2.1,bA.1,n1.1,n1.2.1,n1.2.2.1,n3.1,n3.2.1,n3.2.2.1,bR.1,eV.2,bR.2.2)) λpO=>ret (wt (((eV.1.1,d.2,d.1,bx.2.1,n2.1,n2.2.1,n16.1,n16.2.1,n4.1,n4.2.1,n15),pO),eV.2))) no) no) no) no) no) no) no) no) no) no) no) no) no) no) no) no) no) no)) no) no) no) no) no) no) no) no) no
def oA:=λx=>(C9 zq cg eD Nm dP CM kj kK pQ dJ bY jo x).val
theorem aur:∀mZ bk qU Wb bj Wc gF fD jk cL aR dt,D0 [abv mZ,jh bk,HK qU,awY Wb,oT bj,awH Wc,KR gF,Ea fD,MA jk,z5 cL,jJ aR,AO dt] 167 rP Zm λb=>C9 mZ bk qU Wb bj Wc gF fD jk cL aR dt b:=λ_ _ _ _ _ _ _ _ _ _ _ _ b=>by kernel_rfl
theorem aus [ay]:SC (Zo oA):=s0 (.c anS (.c j8 (.c Z' (.c aLJ (.c tH (.c aLC (.c Zk (.c Hb (.c VH (.c D9 (.c kM (.c Ik (.nil _))))))))))))) (aur zq cg eD Nm dP CM kj kK pQ dJ bY jo)
def rQ:=qa (pr (cu eW (cl aKr nil)) (cd qL λb0=>(c lK (c mJ (c (cl (gs b0.c.1 mI) nil) (cd rj λb4=>(cd pn λb5=>(cd px λb6=>(cd py λb7=>(cd pz λb8=>(cd pA λb9=>(c ml (cd sQ λuQ=>(c (cl (gs b0.e kZ) nil) (c (cl (gs b4.b.1 aB) nil) (c (cl (gs b5.b.1 aB) nil) (c (cl (gs b6.b.1 aB) nil) (c (cl (gs b7.b.1 aB) nil) (c (cl (gs b8.b.1 aB) nil) (c (cl (gs b9.b.1 aB) nil) (cl (cl (gs uQ.b ia) nil) nil)))))))))))))))))))))
def aqf:=qe aXn
abbrev xG:=((J7×Bool×NI×(NI×NI)×Nat×uW×Bool×Int×nJ×Bool×Bool×Bool×Int×Int×Int×HS×Nat)×NI×NI×NI×NI×NI×NI×NI×NI×NI×NI)
def Zp:xG->T:=λd=>lf aqf (d.1,d.1.e,d.2)
abbrev Zq:=rQ.B->Option xG
def Zr (g:Zq):Ct:=(224,FC rQ Zp g)
def C' (iz:zp)(Fe:abB)(gF:KQ)(AP:U8)(JZ:ake)(x:rQ.B):Pg xG:=let bx:=x.1.2;let n4:=x.2.1.2.2.2;let n8:=n4.2.2.2.2.2.2.2.2.2.2.2.2.2;let n3:=x.2.2;let bn:=n3.2.2;let n1:=bn.2.2;let bA:=n1.2.2.1;let n2:=n1.2.2.2;let n7:=n2.2.2.2;let y0:=z9 bn.2.1.2.2.1 bn.2.1.2.2.1;let y1:=z9 n1.1.2.2.1 n1.1.2.2.1;let y2:=z9 n1.2.1.2.2.1 n1.2.1.2.2.1;let y3:=z9 bA.2.2.1 bA.2.2.1;let y4:=z9 n2.1.2.2.1 n2.1.2.2.1;let y5:=z9 n2.2.1.2.2.1 n2.2.1.2.2.1;let y6:=z9 n7.1.2.2 n7.1.2.2;opt (iz x.1.1.1 x.1.1.2.1 x.1.1.2.2 n3.1.1.1 n3.1.1.2.1 n3.1.1.2.2 n3.1.2.1 n3.1.2.2 x.2.1.2.1) λd=>opt (Fe x.2.1.2.2.1 n4.1.1 n4.1.2 bx.1.1 bx.1.2.1 bx.1.2.2 bx.2.2 d.2) λak=>ae (z9 n4.2.1 n4.2.1) (ae (z9 n8 n8) (ae y0 (ae y1 (ae y2 (ae y3 (ae y4 (ae y5 (ae y6 (opt (gF ((((1073741824,0,0,0),ak.1.2.2,0,0,0),2),(x.2.1.1,ak.2,ak.1.1,ak.1.2.1,n4.2),n3)) λaK=>let n6:=aK.1.2.2.2;let n9:=n6.2.2.2.2.2.2.2.2.2.2.2.2.2;opt (AP aK.1.2.2.1 n6.1.1 n6.1.2 d.1.1.1 d.1.1.2.1 bx.2.1 aK.1.2.1) λbJ=>ae (z9 n6.2.1 n6.2.1) (ae (z9 n9 n9) (ae y0 (ae y1 (ae y2 (ae y3 (ae y4 (ae y5 (ae y6 (opt (gF ((((1073741824,0,0,0),(0,0,0),bJ.1.2.2),3),(aK.1.1,bJ.2,bJ.1.1,bJ.1.2.1,n6.2),n3.1,n3.2.1,bn.1,bn.2.1,n1.1,n1.2.1,bA,n2.1,n2.2.1,n2.2.2.1,n7.1,aK.2,n7.2.2)) λcI=>let n5:=cI.1.2.2.2;let bc:=n5.2.2.2.2.2.2.2.2.2.2.2.2.2;ae (n5.2.2.1.2.1==2) (opt (JZ cI.1.2.2.1 n5.1.1 n5.1.2 d.1.1.2.2 bx.2.1 cI.1.2.1) λd=>ae (z9 n5.2.1 n5.2.1) (ae (z9 bc bc) (ae y0 (ae y1 (ae y2 (ae y3 (ae y4 (ae y5 (ae y6 (opt (gF ((((1073741824,0,0,0),(0,0,0),0,0,d.1.2.2),4),(cI.1.1,d.2,d.1.1,d.1.2.1,n5.2),n3.1,n3.2.1,bn.1,bn.2.1,n1.1,n1.2.1,bA,n2.1,n2.2.1,n2.2.2.1,n7.1,cI.2,n7.2.2)) λd=>ret d) no) no) no) no) no) no) no) no) no) (ret cI)) no) no) no) no) no) no) no) no) no) no) no) no) no) no) no) no) no) no
def oB:=λx=>(C' lx pY kj mN uL x).val
theorem aut:∀iz Fe gF AP JZ,D0 [E5 iz,abC Fe,KR gF,U9 AP,akf JZ] 224 rQ Zp λb=>C' iz Fe gF AP JZ b:=λ_ _ _ _ _ b=>by kernel_rfl
theorem auu [ay]:SC (Zr oB):=s0 (.c Nl (.c axp (.c Zk (.c ap8 (.c aDp (.nil _)))))) (aut lx pY kj mN uL)
def mz:=qa (pr (cu eW Em) (cd qL λb0=>(c lK (c mJ (c (cl (gs b0.c.1 mI) nil) (cd rj λb4=>(cd pn λb5=>(cd px λb6=>(cd py λb7=>(cd pz λb8=>(cd pA λb9=>(c ml (cd sQ λuQ=>(c (cl (gs b0.e kZ) nil) (c (cl (gs b4.b.1 aB) nil) (c (cl (gs b5.b.1 aB) nil) (c (cl (gs b6.b.1 aB) nil) (c (cl (gs b7.b.1 aB) nil) (c (cl (gs b8.b.1 aB) nil) (c (cl (gs b9.b.1 aB) nil) (cl (cl (gs uQ.b ia) nil) nil)))))))))))))))))))))
def Bz:=qe atd
abbrev vK:=Bz.B
abbrev NC:=mz.B->Option vK
def ND (g:NC):Ct:=(174,FC mz (lf Bz) g)
def vL (zz:an2)(J0:ajZ)(DS:aj5)(bj:oS)(bo:rN)(x:mz.B):Pg vK:=let bx:=x.2.2;let n8:=x.2.1.1;let n7:=x.1.2.2.2;let n6:=n8.2.2.2.2.1.2.2.2.2.1;let n4:=x.2.1.2.2;let bn:=n4.2.2.2.2.2.2.2.2.2.2.2.2.2.2;let n3:=bx.2.2.2.2;let n9:=n3.2.2.2;let y0:=z9 n4.2.2.1 n4.2.2.1;let y1:=z9 bn bn;let y2:=z9 bx.2.2.2.1.2.2.1 bx.2.2.2.1.2.2.1;let y3:=z9 n3.1.2.2.1 n3.1.2.2.1;let y4:=z9 n3.2.1.2.2.1 n3.2.1.2.2.1;let y5:=z9 n3.2.2.1.2.2.1 n3.2.2.1.2.2.1;let y6:=z9 n9.1.2.2.1 n9.1.2.2.1;let y7:=z9 n9.2.1.2.2.1 n9.2.1.2.2.1;let y8:=z9 n9.2.2.2.1.2.2 n9.2.2.2.1.2.2;opt (zz x.1.1 x.1.2.1 x.1.2.2.1 n7.1 n7.2.1 n7.2.2.1 n7.2.2.2.1 n7.2.2.2.2.1 n7.2.2.2.2.2 x.2.1.2.1) λd=>opt (J0 n4.1 d.1.1.1 d.1.1.2 n6 d.2) λd=>let n5:=d.1.1.2;let n1:=d.1.1.1;ae (d.1.2==0) (opt (DS n4.1 17592186044416 n6 d.2) λak=>ae (ak.1.2==0) (ae y0 (ae y1 (ae y2 (ae y3 (ae y4 (ae y5 (ae y6 (ae y7 (ae y8 (opt (bo ((4,2,true),(n8,ak.2,n4),(azX (λk=>cr (n1 k) [ak.1.1.1 k,n1 k]) (cr n5.1 [ak.1.1.2.1,n5.1],cr n5.2.1 [ak.1.1.2.2.1,n5.2.1],cr n5.2.2 [ak.1.1.2.2.2,n5.2.2])),bx)) λd=>ret d.2.1) no) no) no) no) no) no) no) no) no) (ae y0 (ae y1 (ae y2 (ae y3 (ae y4 (ae y5 (ae y6 (ae y7 (ae y8 (opt (bo ((4,1,true),(n8,ak.2,n4),(λj=>bif z9 j 0 then n1 0 else n1 0,λj=>bif z9 j 0 then n1 1 else n1 1,λj=>bif z9 j 0 then n1 2 else n1 2,λj=>bif z9 j 0 then n1 3 else n1 3,λj=>bif z9 j 0 then n1 4 else n1 4,λj=>bif z9 j 0 then n1 5 else n1 5,λj=>bif z9 j 0 then n1 6 else n1 6,λj=>bif z9 j 0 then n1 7 else n1 7,λj=>bif z9 j 0 then n1 8 else n1 8,λj=>bif z9 j 0 then n1 9 else n1 9,λj=>bif z9 j 0 then n1 10 else n1 10,λj=>bif z9 j 0 then n1 11 else n1 11,λj=>bif z9 j 0 then n1 12 else n1 12,λj=>bif z9 j 0 then n1 13 else n1 13,λj=>bif z9 j 0 then n1 14 else n1 14,λj=>bif z9 j 0 then n1 15 else n1 15,λj=>bif z9 j 0 then n1 16 else n1 16,λj=>bif z9 j 0 then n1 17 else n1 17,λj=>bif z9 j 0 then n1 18 else n1 18,λj=>bif z9 j 0 then n1 19 else n1 19,λj=>bif z9 j 0 then n1 20 else n1 20,λj=>bif z9 j 0 then n1 21 else n1 21,λj=>bif z9 j 0 then n1 22 else n1 22,λj=>bif z9 j 0 then n1 23 else n1 23,λj=>bif z9 j 0 then n5.1 else n5.1,λj=>bif z9 j 0 then n5.2.1 else n5.2.1,λj=>bif z9 j 0 then n5.2.2 else n5.2.2),bx)) λd=>ret d.2.1) no) no) no) no) no) no) no) no) no)) (opt (DS n4.1 17592186044416 n6 d.2) λd=>let bc:=d.1.1.2;let n2:=d.1.1.1;ae (d.1.2==0) (ae y0 (ae y1 (ae y2 (ae y3 (ae y4 (ae y5 (ae y6 (ae y7 (ae y8 (opt (bo ((4,1,true),(n8,d.2,n4),(λj=>bif z9 j 0 then n2 0 else n2 0,λj=>bif z9 j 0 then n2 1 else n2 1,λj=>bif z9 j 0 then n2 2 else n2 2,λj=>bif z9 j 0 then n2 3 else n2 3,λj=>bif z9 j 0 then n2 4 else n2 4,λj=>bif z9 j 0 then n2 5 else n2 5,λj=>bif z9 j 0 then n2 6 else n2 6,λj=>bif z9 j 0 then n2 7 else n2 7,λj=>bif z9 j 0 then n2 8 else n2 8,λj=>bif z9 j 0 then n2 9 else n2 9,λj=>bif z9 j 0 then n2 10 else n2 10,λj=>bif z9 j 0 then n2 11 else n2 11,λj=>bif z9 j 0 then n2 12 else n2 12,λj=>bif z9 j 0 then n2 13 else n2 13,λj=>bif z9 j 0 then n2 14 else n2 14,λj=>bif z9 j 0 then n2 15 else n2 15,λj=>bif z9 j 0 then n2 16 else n2 16,λj=>bif z9 j 0 then n2 17 else n2 17,λj=>bif z9 j 0 then n2 18 else n2 18,λj=>bif z9 j 0 then n2 19 else n2 19,λj=>bif z9 j 0 then n2 20 else n2 20,λj=>bif z9 j 0 then n2 21 else n2 21,λj=>bif z9 j 0 then n2 22 else n2 22,λj=>bif z9 j 0 then n2 23 else n2 23,λj=>bif z9 j 0 then bc.1 else bc.1,λj=>bif z9 j 0 then bc.2.1 else bc.2.1,λj=>bif z9 j 0 then bc.2.2 else bc.2.2),bx)) λd=>ret d.2.1) no) no) no) no) no) no) no) no) no) (ae y0 (ae y1 (ae y2 (ae y3 (ae y4 (ae y5 (ae y6 (ae y7 (ae y8 (opt (bj (4,(n8,d.2,n4),bx)) λak=>ret ((n8,d.2,n4),ak)) no) no) no) no) no) no) no) no) no))
def km:=λx=>(vL F' DN DO dP dH x).val
theorem aiz:∀zz J0 DS bj bo,D0 [an3 zz,aj0 J0,aj6 DS,oT bj,rO bo] 174 mz (lf Bz) λb=>vL zz J0 DS bj bo b:=λ_ _ _ _ _ b=>by kernel_rfl
theorem aiA [ay]:SC (ND km):=s0 (.c aB1 (.c aDh (.c aDj (.c tH (.c xD (.nil _)))))) (aiz F' DN DO dP dH)
def rR:=qa (pr (cu eW Em) (cd qL λb0=>(c lK (c mJ (c (cl (gs b0.c.1 mI) nil) (cd rj λb4=>(cd pn λb5=>(cd px λb6=>(cd py λb7=>(cd pz λb8=>(cd pA λb9=>(c ml (cd sQ λuQ=>(c (cl (gs b0.e kZ) nil) (c (cl (gs b4.b.1 aB) nil) (c (cl (gs b5.b.1 aB) nil) (c (cl (gs b6.b.1 aB) nil) (c (cl (gs b7.b.1 aB) nil) (c (cl (gs b8.b.1 aB) nil) (c (cl (gs b9.b.1 aB) nil) (cl (cl (gs uQ.b ia) nil) nil)))))))))))))))))))))
def Il:=qe atd
abbrev Da:=Il.B
abbrev Zs:=rR.B->Option Da
def Zt (g:Zs):Ct:=(175,FC rR (lf Il) g)
def Db (vH:aii)(Wd:axb)(bj:oS)(bo:rN)(eA:Gw)(x:rR.B):Pg Da:=let bc:=x.2.1;let n7:=x.2.2;let bn:=n7.2.2.2;let n6:=x.1.2.2.2;let n2:=bc.2.2;let n8:=n2.2.2.2.2.2.2.2.2.2.2.2.2.2.2;let n1:=bn.2;let n3:=n1.2.2.2;let y0:=z9 n2.2.2.1 n2.2.2.1;let y1:=z9 n8 n8;let y2:=z9 bn.1.2.2.1 bn.1.2.2.1;let y3:=z9 n1.1.2.2.1 n1.1.2.2.1;let y4:=z9 n1.2.1.2.2.1 n1.2.1.2.2.1;let y5:=z9 n1.2.2.1.2.2.1 n1.2.2.1.2.2.1;let y6:=z9 n3.1.2.2.1 n3.1.2.2.1;let y7:=z9 n3.2.1.2.2.1 n3.2.1.2.2.1;let y8:=z9 n3.2.2.2.1.2.2 n3.2.2.2.1.2.2;opt (vH x.1.1 x.1.2.1 x.1.2.2.1 n6.1 n6.2.1 n6.2.2.1 n6.2.2.2.1 n6.2.2.2.2.1 n6.2.2.2.2.2 bc.2.1) λd=>opt (Wd n2.1 d.1.1.1 d.1.1.2.1 d.1.1.2.2.1 d.1.1.2.2.2 bc.1.2.2.2.2.1.2.2.2.2.2 d.2) λd=>sm d (λd=>ae (d.1!=0) (ae y0 (ae y1 (ae y2 (ae y3 (ae y4 (ae y5 (ae y6 (ae y7 (ae y8 (opt (bj (5,(bc.1,d.2,n2),n7)) λak=>ret ((bc.1,d.2,n2),ak)) no) no) no) no) no) no) no) no) no) no) (λd=>let n4:=d.2.2.2;ae y0 (ae y1 (ae y2 (ae y3 (ae y4 (ae y5 (ae y6 (ae y7 (ae y8 (opt (bo ((5,2,true),(bc.1,d.1,n2),(azX (λk=>cr (d.2.1 k) [n4.2.2.1 k,d.2.1 k]) (cr d.2.2.1 [n4.2.2.2,d.2.2.1],cr n4.1 [n4.1,n4.1],cr n4.2.1 [n4.2.1,n4.2.1])),n7)) λd=>let n5:=d.2.1.1.2.2.2.2;let n9:=n5.2.2.2.2.2.2.2.2.2.2.2.2;ae (z9 d.1 d.1) (ae (z9 n5.1 n5.1) (ae (z9 n9 n9) (ae y2 (ae y3 (ae y4 (ae y5 (ae y6 (ae y7 (ae y8 (opt (eA ((d.1,true),d.2.1.1,d.2.2,n7.1,n7.2.1,n7.2.2.1,bn.1,n1.1,n1.2.1,n1.2.2.1,n3.1,n3.2.1,d.2.1.2,n3.2.2.2)) λak=>ret (ak,d.2.1.2)) no) no) no) no) no) no) no) no) no) no) no) no) no) no) no) no) no) no) no)
def oC:=λx=>(Db CQ CR dP dH iC x).val
theorem auv:∀vH Wd bj bo eA,D0 [aij vH,axc Wd,oT bj,rO bo,Gx eA] 175 rR (lf Il) λb=>Db vH Wd bj bo eA b:=λ_ _ _ _ _ b=>by kernel_rfl
theorem auw [ay]:SC (Zt oC):=s0 (.c aw8 (.c aLN (.c tH (.c xD (.c Sv (.nil _)))))) (auv CQ CR dP dH iC)
def oV:=qa (pu (cu eW nil) (cd qL λb0=>(c lK (c mJ (c (cl (gs b0.c.1 mI) nil) (cd rj λb4=>(cd pn λb5=>(cd px λb6=>(cd py λb7=>(cd pz λb8=>(cd pA λb9=>(c ml (cd sQ λuQ=>(c (cl (gs b0.e kZ) nil) (c (cl (gs b4.b.1 aB) nil) (c (cl (gs b5.b.1 aB) nil) (c (cl (gs b6.b.1 aB) nil) (c (cl (gs b7.b.1 aB) nil) (c (cl (gs b8.b.1 aB) nil) (c (cl (gs b9.b.1 aB) nil) (cl (cl (gs uQ.b ia) nil) nil)))))))))))))))))))))
def EF:=qe (res (pl (aa aEr) (pu alf nil)))
abbrev zD:=EF.B
abbrev tI:=oV.B->Option zD
def zE (g:tI):Ct:=(16,FC oV (lf EF) g)
def zF (sL:I8)(xQ:Ol)(x:oV.B):Pg zD:=let n3:=x.1.2.2.2.2.2;let n2:=n3.2.2.2.2.2.2.2.2;let n4:=n2.2.2.1;let n1:=x.2.2.2.2.2.2.2.2.2.2.1;let n5:=n1.1.2.2;opt (sL n2.1 n1.1.1 n1.1.2.1 n5.1 n5.2.1 n5.2.2.1 n5.2.2.2 n1.2) λd=>opt (xQ n1.1.1 n1.1.2.1 n5.1 n5.2.1 n5.2.2.1 n5.2.2.2 n1.2) λak=>ret (n3.1.1,n3.1.2.1,n3.1.2.2.1,n3.1.2.2.2,n2.1,d,n2.2.1,ak,x.1.2.1,n4.1.1,n4.1.2.1,n4.1.2.2.1,n4.1.2.2.2,n4.2.1.1,n4.2.1.2.1,n4.2.1.2.2,n4.2.2)
def gm:=λx=>(zF nD qY x).val
theorem aow:∀sL xQ,D0 [I9 sL,Om xQ] 16 oV (lf EF) λb=>zF sL xQ b:=λ_ _ b=>by kernel_rfl
theorem Gy [ay]:SC (zE gm):=s0 (.c adI (.c akP (.nil _))) (aow nD qY)
def Ff:=qa (pu (cu eW nil) (cd qL λb0=>(c lK (c mJ (c (cl (gs b0.c.1 mI) nil) (cd rj λb4=>(cd pn λb5=>(cd px λb6=>(cd py λb7=>(cd pz λb8=>(cd pA λb9=>(c ml (cd sQ λuQ=>(c (cl (gs b0.e kZ) nil) (c (cl (gs b4.b.1 aB) nil) (c (cl (gs b5.b.1 aB) nil) (c (cl (gs b6.b.1 aB) nil) (c (cl (gs b7.b.1 aB) nil) (c (cl (gs b8.b.1 aB) nil) (c (cl (gs b9.b.1 aB) nil) (cl (cl (gs uQ.b ia) nil) nil)))))))))))))))))))))
def KS:=qe (res (pl aWW (pu alf nil)))
abbrev abH:=KS.B
abbrev axq:=Ff.B->Option abH
def abI (g:axq):Ct:=(40,FC Ff (lf KS) g)
def abJ (uk:Ls)(x:Ff.B):Pg abH:=let n2:=x.2.2.2.2.2.2.2.2.2.2.2;let n1:=n2.2.2.2.2.2.2.2.2;let n3:=n1.2.2.2.2.2;ae (z9 n2.1.2.2 n2.1.2.2) (opt (uk n2.1.1 n2.1.2.1 n2.1.2.2 n1.1 n1.2.1 n1.2.2.1 n1.2.2.2.1 n1.2.2.2.2.1 n3.1 n3.2.1 n3.2.2.1 n3.2.2.2.1 n3.2.2.2.2.1 n3.2.2.2.2.2) λd=>ret d) no
def abK:=λx=>(abJ Bt x).val
theorem axr:∀uk,D0 [Lt uk] 40 Ff (lf KS) λb=>abJ uk b:=λ_ b=>by kernel_rfl
theorem axs [ay]:SC (abI abK):=s0 (.c afk (.nil _)) (axr Bt)
def tJ:=qa (pr (cu eW gZ) (cd qL λb0=>(c lK (c mJ (c (cl (gs b0.c.1 mI) nil) (cd rj λb4=>(cd pn λb5=>(cd px λb6=>(cd py λb7=>(cd pz λb8=>(cd pA λb9=>(c ml (cd sQ λuQ=>(c (cl (gs b0.e kZ) nil) (c (cl (gs b4.b.1 aB) nil) (c (cl (gs b5.b.1 aB) nil) (c (cl (gs b6.b.1 aB) nil) (c (cl (gs b7.b.1 aB) nil) (c (cl (gs b8.b.1 aB) nil) (c (cl (gs b9.b.1 aB) nil) (cl (cl (gs uQ.b ia) nil) nil)))))))))))))))))))))
def EG:=qe (res (pl (aa aWe) (pu alf nil)))
abbrev Sw:=EG.B
abbrev aox:=tJ.B->Option Sw
def Sx (g:aox):Ct:=(17,FC tJ (lf EG) g)
def Gz (sM:Jb)(x:tJ.B):Pg Sw:=let n1:=x.2.2.2.2.2.2.2.2.2.2.2.1;let n2:=n1.1.2.2;opt (sM x.1 n1.1.1 n1.1.2.1 n2.1 n2.2.1 n2.2.2.1 n2.2.2.2 n1.2) λd=>ret d
def zG:=λx=>(Gz nE x).val
theorem aoy:∀sM,D0 [Jc sM] 17 tJ (lf EG) λb=>Gz sM b:=λ_ b=>by kernel_rfl
theorem aoz [ay]:SC (Sx zG):=s0 (.c adK (.nil _)) (aoy nE)
def kQ:=qa (pr (cu eW Em) (cd qL λb0=>(c lK (c mJ (c (cl (gs b0.c.1 mI) nil) (cd rj λb4=>(cd pn λb5=>(cd px λb6=>(cd py λb7=>(cd pz λb8=>(cd pA λb9=>(c ml (cd sQ λuQ=>(c (cl (gs b0.e kZ) nil) (c (cl (gs b4.b.1 aB) nil) (c (cl (gs b5.b.1 aB) nil) (c (cl (gs b6.b.1 aB) nil) (c (cl (gs b7.b.1 aB) nil) (c (cl (gs b8.b.1 aB) nil) (c (cl (gs b9.b.1 aB) nil) (cl (cl (gs uQ.b ia) nil) nil)))))))))))))))))))))
def We:=qe (res (pu Wt (pr (c (B9 (a 26 sS (c gb (c jw (a 2 uA (cu aiV (cu aiW (c aJ4 (au 6 agm (cu aqx (a 4 wJ (cu aqy (c gb (c gi (a 3 jV (c gb (c gb (cu axU aQp)))))))))))))))))) aQt) aKv)))
def Fg:=qe atd
abbrev nI:=(((J7×Bool×NI×(NI×NI)×Nat×uW×Bool×Int×nJ×Bool×Bool×Int×Int×HS×Nat)×aMv×Int)×NI×NI×NI×NI×NI×NI×NI×NI×NI×NI)⊕Fg.B
def Jg:nI->T:=ls (λd=>lf We (((d.1.1.1,d.1.1.2.1,d.1.1.b.1,d.1.1.b.2.1,d.1.1.c.1,d.1.1.c.2.1,d.1.1.c.b.1,d.1.1.c.b.2.1,d.1.1.d.1,d.1.1.d.2.1,d.1.1.d.b.1,d.1.1.d.b.2.1,d.1.1.d.b.2),d.1.2),d.1.1.d.c.b,d.2)) (lf Fg)
abbrev Jh:=kQ.B->Option nI
def Ji (g:Jh):Ct:=(168,FC kQ Jg g)
def sN (vG:ah5)(Dc:Zq)(dt:AN)(Hr:ae8)(Dd:YD)(GA:anH)(bo:rN)(eA:Gw)(gG:Gh)(x:kQ.B):Pg nI:=let n25:=x.1.2.2.2;let n22:=x.2.1.1;let n58:=n22.2.2.2.2;let n9:=x.2.1.2.2;let bR:=n9.2.2.2.2.2.2.2.2.2;let n7:=x.2.2;let n47:=n7.2.1;let n16:=n7.2.2;let n32:=n16.2.1;let n4:=n16.2.2;let n33:=n4.2.1;let n23:=n4.2.2.1;let n6:=n4.2.2.2;let n34:=n6.2.1;let n17:=n6.2.2.2;let y0:=n9.2.2.2.1.2.1==2;let y1:=z9 n9.2.2.1 n9.2.2.1;let y2:=z9 bR.2.2.2.2.2 bR.2.2.2.2.2;let y3:=z9 n32.2.2.1 n32.2.2.1;let y4:=z9 n4.1.2.2.1 n4.1.2.2.1;let y5:=z9 n33.2.2.1 n33.2.2.1;let y6:=z9 n23.2.2.1 n23.2.2.1;let y7:=z9 n6.1.2.2.1 n6.1.2.2.1;let y8:=z9 n34.2.2.1 n34.2.2.1;let y9:=z9 n17.1.2.2 n17.1.2.2;opt (vG x.1.1 x.1.2.1 x.1.2.2.1 n25.1 n25.2.1 n25.2.2.1 n25.2.2.2.1 n25.2.2.2.2.1 n25.2.2.2.2.2 x.2.1.2.1) λd=>let n57:=d.1.1;let bA:=n57.2.2;let n38:=bA.2.2;let n1:=((n57.1,n57.2.1,bA.1),(bA.2.1,n38.1,n38.2.1),n38.2.2);let n3:=(Dc (n1,(n22,d.2,n9),n7));let n2:=(n9.1,n1,n58.1.1);ae (!bR.1) (ae y1 (ae y2 (ae y3 (ae y4 (ae y5 (ae y6 (ae y7 (ae y8 (ae y9 (opt n3 λd=>let bc:=d.1.2.2.2.2;let n26:=bc.2.2.2.2;let n48:=n26.2.2.2.2.2;ae (z9 bc.1 bc.1) (ae (z9 n48.2.2.2 n48.2.2.2) (ae y3 (ae y4 (ae y5 (ae y6 (ae y7 (ae y8 (ae y9 (opt (dt (0,d.1,n7.1,n47,n16.1,n32,n4.1,n33,n23,n6.1,n34,n6.2.2.1,n17.1,d.2,n17.2.2)) λak=>ret (ww (((d.1.1,d.1.2.1,d.1.2.2.1,d.1.2.2.2.1,bc.1,bc.2.1,bc.2.2.1,bc.2.2.2.1,n26.1,n26.2.1,n26.2.2.1,n48),ak),d.2))) no) no) no) no) no) no) no) no) no) no) no) no) no) no) no) no) no) no) (ae (decide (wI (bR.2.2.1-bR.2.1)>n58.2.2.2.2.1)) (ae y1 (ae y2 (ae y3 (ae y4 (ae y5 (ae y6 (ae y7 (ae y8 (ae y9 (opt n3 λd=>let bn:=d.1.2.2.2.2;let n27:=bn.2.2.2.2;let n49:=n27.2.2.2.2.2;ae (z9 bn.1 bn.1) (ae (z9 n49.2.2.2 n49.2.2.2) (ae y3 (ae y4 (ae y5 (ae y6 (ae y7 (ae y8 (ae y9 (opt (dt (0,d.1,n7.1,n47,n16.1,n32,n4.1,n33,n23,n6.1,n34,n6.2.2.1,n17.1,d.2,n17.2.2)) λak=>ret (ww (((d.1.1,d.1.2.1,d.1.2.2.1,d.1.2.2.2.1,bn.1,bn.2.1,bn.2.2.1,bn.2.2.2.1,n27.1,n27.2.1,n27.2.2.1,n49),ak),d.2))) no) no) no) no) no) no) no) no) no) no) no) no) no) no) no) no) no) no) (opt (Hr n9.1 n57.1 n57.2.1 bA.1 bA.2.1 n38.1 n38.2.1 n38.2.2.1 n38.2.2.2 n58.1.1 d.2) λak=>let n35:=ak.2.1;let n24:=ak.2.2.1;let n8:=ak.2.2.2;let n55:=n8.2.2.1;let n36:=n8.2.1;let n5:=n8.2.2.2;let n56:=n5.2.2.1;let bx:=n5.2.2.2;let n37:=bx.2.2;opt (Dd (n2,ak.1,n7.1)) λaK=>sm aK (λbJ=>ae y0 (opt (GA (n2,bJ.2,n7.1)) λd=>ae y1 (ae y2 (ae y3 (ae y4 (ae y5 (ae y6 (ae y7 (ae y8 (ae y9 (opt (bo ((0,4,true),(n22,d.2,n9),(azX (λk=>cr (n35 k) [d.1.1.1 k,bx.1 k,n55 k,n35 k]) (cr n24 [d.1.1.2.1,bx.2.1,n5.1,n24],cr n8.1 [d.1.1.2.2.1,n37.1,n5.2.1,n8.1],cr n36 [d.1.1.2.2.2,n37.2,n56,n36])),n7)) λd=>let n39:=d.2.2;let n18:=d.2.1;let n50:=n18.1.2.2.2.2;let KU:=n18.2.1.2;let n28:=n50.2.2.2.2.2.2.2.2.2.2.2.2;let y0:=wI (ws d.1-1);let y1:=z4 y0;ae (z9 d.1 d.1) (ae (z9 n50.1 n50.1) (ae (z9 n28 n28) (ae y3 (ae y4 (ae y5 (ae y6 (ae y7 (ae y8 (ae y9 (opt (eA ((d.1,true),n18.1,n39,n7.1,n47,n16.1,n32,n4.1,n33,n23,n6.1,n34,n18.2,n17)) λcI=>ae (cI.2.2.2.2.2.1.2.1==2) (ae (bf 2 d.1) (ae (bf y0 d.1) (opt (gG (n39.1 2) (n39.2.1 2) (n39.2.2 2) (n39.1 y1) (n39.2.1 y1) (n39.2.2 y1) n18.2.1.1 KU.1 KU.2.1 KU.2.2.1 KU.2.2.2.1 KU.2.2.2.2 n18.2.2) λd=>ret (wt (cI,d))) no) no) (ret (wt (cI,n18.2)))) no) no) no) no) no) no) no) no) no) no) no) no) no) no) no) no) no) no) no) (ae y1 (ae y2 (ae y3 (ae y4 (ae y5 (ae y6 (ae y7 (ae y8 (ae y9 (opt (bo ((0,3,true),(n22,bJ.2,n9),(azX (λk=>cr (n35 k) [bx.1 k,n55 k,n35 k]) (cr n24 [bx.2.1,n5.1,n24],cr n8.1 [n37.1,n5.2.1,n8.1],cr n36 [n37.2,n56,n36])),n7)) λd=>let KV:=d.2.2;let n19:=d.2.1;let n51:=n19.1.2.2.2.2;let LN:=n19.2.1.2;let n29:=n51.2.2.2.2.2.2.2.2.2.2.2.2;let y0:=wI (ws d.1-1);let y1:=z4 y0;ae (z9 d.1 d.1) (ae (z9 n51.1 n51.1) (ae (z9 n29 n29) (ae y3 (ae y4 (ae y5 (ae y6 (ae y7 (ae y8 (ae y9 (opt (eA ((d.1,true),n19.1,KV,n7.1,n47,n16.1,n32,n4.1,n33,n23,n6.1,n34,n19.2,n17)) λcI=>ae (cI.2.2.2.2.2.1.2.1==2) (ae (bf 2 d.1) (ae (bf y0 d.1) (opt (gG (KV.1 2) (KV.2.1 2) (KV.2.2 2) (KV.1 y1) (KV.2.1 y1) (KV.2.2 y1) n19.2.1.1 LN.1 LN.2.1 LN.2.2.1 LN.2.2.2.1 LN.2.2.2.2 n19.2.2) λd=>ret (wt (cI,d))) no) no) (ret (wt (cI,n19.2)))) no) no) no) no) no) no) no) no) no) no) no) no) no) no) no) no) no) no) no)) (λbJ=>let n59:=bJ.2.2;let n15:=n59.2.2;let n52:=n15.2.2;ae y0 (opt (GA (n2,bJ.1,n7.1)) λd=>ae y1 (ae y2 (ae y3 (ae y4 (ae y5 (ae y6 (ae y7 (ae y8 (ae y9 (opt (bo ((0,6,true),(n22,d.2,n9),(azX (λk=>cr (n35 k) [d.1.1.1 k,n15.2.1 k,bJ.2.1 k,bx.1 k,n55 k,n35 k]) (cr n24 [d.1.1.2.1,n52.1,n59.1,bx.2.1,n5.1,n24],cr n8.1 [d.1.1.2.2.1,n52.2.1,n59.2.1,n37.1,n5.2.1,n8.1],cr n36 [d.1.1.2.2.2,n52.2.2,n15.1,n37.2,n56,n36])),n7)) λd=>let P6:=d.2.2;let n20:=d.2.1;let n53:=n20.1.2.2.2.2;let Zu:=n20.2.1.2;let n30:=n53.2.2.2.2.2.2.2.2.2.2.2.2;let y0:=wI (ws d.1-1);let y1:=z4 y0;ae (z9 d.1 d.1) (ae (z9 n53.1 n53.1) (ae (z9 n30 n30) (ae y3 (ae y4 (ae y5 (ae y6 (ae y7 (ae y8 (ae y9 (opt (eA ((d.1,true),n20.1,P6,n7.1,n47,n16.1,n32,n4.1,n33,n23,n6.1,n34,n20.2,n17)) λcI=>ae (cI.2.2.2.2.2.1.2.1==2) (ae (bf 2 d.1) (ae (bf y0 d.1) (opt (gG (P6.1 2) (P6.2.1 2) (P6.2.2 2) (P6.1 y1) (P6.2.1 y1) (P6.2.2 y1) n20.2.1.1 Zu.1 Zu.2.1 Zu.2.2.1 Zu.2.2.2.1 Zu.2.2.2.2 n20.2.2) λd=>ret (wt (cI,d))) no) no) (ret (wt (cI,n20.2)))) no) no) no) no) no) no) no) no) no) no) no) no) no) no) no) no) no) no) no) (ae y1 (ae y2 (ae y3 (ae y4 (ae y5 (ae y6 (ae y7 (ae y8 (ae y9 (opt (bo ((0,5,true),(n22,bJ.1,n9),(azX (λk=>cr (n35 k) [n15.2.1 k,bJ.2.1 k,bx.1 k,n55 k,n35 k]) (cr n24 [n52.1,n59.1,bx.2.1,n5.1,n24],cr n8.1 [n52.2.1,n59.2.1,n37.1,n5.2.1,n8.1],cr n36 [n52.2.2,n15.1,n37.2,n56,n36])),n7)) λd=>let n45:=d.2.2;let n21:=d.2.1;let n54:=n21.1.2.2.2.2;let n46:=n21.2.1.2;let n31:=n54.2.2.2.2.2.2.2.2.2.2.2.2;let y0:=wI (ws d.1-1);let y1:=z4 y0;ae (z9 d.1 d.1) (ae (z9 n54.1 n54.1) (ae (z9 n31 n31) (ae y3 (ae y4 (ae y5 (ae y6 (ae y7 (ae y8 (ae y9 (opt (eA ((d.1,true),n21.1,n45,n7.1,n47,n16.1,n32,n4.1,n33,n23,n6.1,n34,n21.2,n17)) λcI=>ae (cI.2.2.2.2.2.1.2.1==2) (ae (bf 2 d.1) (ae (bf y0 d.1) (opt (gG (n45.1 2) (n45.2.1 2) (n45.2.2 2) (n45.1 y1) (n45.2.1 y1) (n45.2.2 y1) n21.2.1.1 n46.1 n46.2.1 n46.2.2.1 n46.2.2.2.1 n46.2.2.2.2 n21.2.2) λd=>ret (wt (cI,d))) no) no) (ret (wt (cI,n21.2)))) no) no) no) no) no) no) no) no) no) no) no) no) no) no) no) no) no) no) no))))
def iP:=λx=>(sN CN oB jo Bo xd F6 dH iC lX x).val
theorem adR:∀vG Dc dt Hr Dd GA bo eA gG,D0 [ah6 vG,Zr Dc,AO dt,ae9 Hr,YE Dd,anI GA,rO bo,Gx eA,Gi gG] 168 kQ Jg λb=>sN vG Dc dt Hr Dd GA bo eA gG b:=λ_ _ _ _ _ _ _ _ _ b=>by kernel_rfl
theorem adS [ay]:SC (Ji iP):=s0 (.c awS (.c auu (.c Ik (.c azp (.c at9 (.c aGB (.c xD (.c Sv (.c YX (.nil _)))))))))) (adR CN oB jo Bo xd F6 dH iC lX)
end Go.Proofs.YtldgljclcgaibaaGreat
namespace Go.Proofs.YtldgljclcgaibaaGreat
open Go.Ab Go.Ab.Pg
theorem adT (x:Int):pX x=some (decide (0<=x)&&decide (x<6)):=by
 simp only[pX,V0,bN,bQ];by_cases h0:0<=x<;>simp[h0]
theorem aJH {x:Int}(h:(decide (0<=x)&&decide (x<6))=true)(k:Nat)(hk:k<=6):bf x 6=true/\wr (0+z4 x*6+k) 36=true/\wr (0+z4 x*6+k) 37=true:=by
 simp only[cB,jW] at h;simp only[bq,bZ];omega
instance aIi (x0:Int)(x1:Int)(x2:Nat->Int)(x3:Nat->Int)(x4:Nat->Bool)(x5:Nat->Int)(x6:Nat->Int)(x7:Nat->Int)(x8:Int):bz (nC x0 x1 x2 x3 x4 x5 x6 x7 x8):=by
 unfold nC Ai;refine aH ?_;rw[adT,bV,aN];refine⟨λh=> ?_,λ_=>by rw[aw];trivial⟩;obtain⟨h1,h2,h3⟩:=aJH h 6 (by omega);simp only[bP,h1,h2,OH,LS,Eo]
theorem Ar (x0:Int)(x1:Int)(x2:Nat)(x3:Nat->Int)(x4:Nat->Int)(x5:Nat->Bool)(x6:Nat->Int)(x7:Nat->Int)(x8:Nat->Int)(x9:Int)(fX:Nat->Bool)(fY:Nat->Int)(A7:Nat->Int)(w0:Bool)(h:x2<=1999):bz (nA x0 x1 x2 x3 x4 x5 x6 x7 x8 x9 fX fY A7 w0):=by
 have tc:=λa b c e=>ar7 x2 a b c e h
 unfold nA Af;try dsimp only
 refine aH ?_;rw[adT,bV,aN];refine⟨λ_=>by rw[aw];trivial,λh=> ?_⟩;rw[ayh] at h;obtain⟨h1,h2,h3⟩:=aJH h 3 (by omega);simp only[bP,h1,h2,h3,Bool.and_self,aQ,OH,LS,Eo]
theorem Wf:∀(d:eJ.B) (hd:0<=d.1.2.2/\d.1.2.2<=6),Ok (xj d) (λx:lW=>True):=
 bO (λd:eJ.B=>z4 (6-d.1.2.2)) (λd hd=>by
  have hw:wI (d.1.2.2+1)=d.1.2.2+1:=aW;unfold xi;simp only[bP];simp only[nf,pB,uZ,hw];repeat' (first|exact True.intro|omega|(intro _)|(apply And.intro))) (λd hd=>by omega)
instance aIj (x0:Int)(x1:Nat->Int)(x2:Nat->Int)(x3:Nat->Bool)(x4:Nat->Int)(x5:Nat->Int)(x6:Nat->Int)(x7:Int):bz (nD x0 x1 x2 x3 x4 x5 x6 x7):=by
 unfold nD Aj;refine aH ?_;refine aA (Wf _ (by simp)) λd _ hd=> ?_;simp only[bP]
instance a4S (x:Int)(eZ:Bool):bz (Cm x eZ):=by
 have h1:=mu x;obtain⟨a,b,q,e,ho,hq,hv,_⟩:=anq (sat x) 30 (by omega) (by omega) (by omega);unfold Cm ahh;refine aH ?_;rw[oO,bV,aN];refine⟨λ_=>by rw[aw];trivial,λc=> ?_⟩;have c:=vk c;have e30:(2:Int)^30=1073741824:=rfl;have q1:q=true:=by rw[hq,e30];omega
 have v:=hv q1;rw[e30] at v;have e':vT (sat x) 30=some ((a,b),q):=e
 have h0:0<=a:=by
  obtain⟨o1,o2,o3,o4⟩:=ho;simp only[vW] at v;omega
 obtain⟨r,hr,_,_⟩:=at1 a b ho h0;rw[e',bV,ahZ a b r _ ho h0 hr,bV,aw];trivial
instance a3e (x0:Nat->Int)(x3:Bool)(x4:Nat->Int)(w0:Bool):bz (iy x0 4 3 x3 x4 w0):=YY _ _ _ _ _ _ (by omega) (by omega)
instance a3f (x0:Nat->Int)(x3:Bool)(x4:Nat->Int)(w0:Bool):bz (iy x0 7 2 x3 x4 w0):=YY _ _ _ _ _ _ (by omega) (by omega)
instance a3g (x0:Nat->Int)(x3:Bool)(x4:Nat->Int)(w0:Bool):bz (iy x0 9 1 x3 x4 w0):=YY _ _ _ _ _ _ (by omega) (by omega)
instance a0g (x0:Nat->Int)(x1:Int)(x2:Bool):bz (kd x0 x1 x2):=by
 unfold kd V2;exact aH (by simp only[bP,qV])
instance aZu (x0:Nat->Int)(x1:Int)(x2:Int)(x3:Int)(x4:Int)(x5:Int)(x6:Int)(x7:Int)(x8:Int)(x9:Int)(fX:Int)(fY:Int):bz (sJ x0 x1 x2 x3 x4 x5 x6 x7 x8 x9 fX fY):=by
 unfold sJ adM;exact aH (by simp only[bP,qV])
instance aZv (x:Eg.B):bz (Ao x):=by
 unfold Ao Rc;try dsimp only
 exact aH (by simp only[bP,qV])
instance aHq (x:gV.B):bz (dK x):=by
 unfold dK mD;exact aH (by simp only[bP,qV])
instance aMt (x:nc.B):bz (lk x):=by
 unfold lk xP;exact aH (by simp only[bP,qV])
instance aYH (x0:Int)(x1:Int)(x2:Int):bz (nH x0 x1 x2):=by
 unfold nH Ns;exact aH (by simp only[bP,qV])
instance a0h (x0:Int)(x1:Int)(x2:Int):bz (zw x0 x1 x2):=by
 unfold zw aiq;exact aH (by simp only[bP,qV])
instance aTc (x0:Nat->Int)(x1:Nat->Int)(x2:Nat->Int)(x3:Int)(x4:Int)(x5:Int)(x6:Int)(x7:Bool):bz (pY x0 x1 x2 x3 x4 x5 x6 x7):=by
 unfold pY E8;try dsimp only
 exact aH (by simp only[bP,qV])
instance aPg (x0:Nat->Int)(x1:Nat->Int)(x2:Nat->Int)(x3:Int)(x4:Int)(x5:Int)(x6:Bool):bz (mN x0 x1 x2 x3 x4 x5 x6):=by
 unfold mN AM;try dsimp only
 exact aH (by simp only[bP,qV])
instance aVm (x0:Nat->Int)(x1:Nat->Int)(x2:Nat->Int)(x3:Int)(x4:Int)(x5:Bool):bz (uL x0 x1 x2 x3 x4 x5):=by
 unfold uL JX;exact aH (by simp only[bP,qV])
instance aD0 (x:lz.B):bz (iS x):=by
 unfold iS vv;try dsimp only
 exact aH (by simp only[bP,qV])
instance aB6 (x:jN.B):bz (gM x):=by
 unfold gM tx;try dsimp only
 exact aH (by simp only[bP,qV])
instance aRw (x0:Int):bz (xr x0):=by
 unfold xr KG;exact aH (by simp only[bP,qV])
instance aOv (x0:Int)(x1:Int):bz (lZ x0 x1):=by
 unfold lZ Gn;exact aH (by simp only[bP,qV])
instance aPh:bz mO:=by
 unfold mO Ih;exact aH (by simp only[bP,qV])
instance a3h (x0:Int):bz (Bx x0):=by
 unfold Bx apD;exact aH (by simp only[bP,qV])
theorem azC:∀(d:kP.B) (hd:0<=d.1/\d.1<=3),Ok (JW d) (λx:yN=>True):=
 bO (λd:kP.B=>z4 (3-d.1)) (λd hd=>by
  have hw:wI (d.1+1)=d.1+1:=aW;unfold JV;simp only[bP];simp only[nf,pB,uZ,hw];repeat' (first|exact True.intro|omega|(intro _)|(apply And.intro))) (λd hd=>by omega)
theorem aGP:∀(d:lY.B) (hd:0<=d.1.2/\d.1.2<=24),Ok (Jf d) (λx:Ei=>True):=
 bO (λd:lY.B=>z4 (24-d.1.2)) (λd hd=>by
  have hw:wI (d.1.2+1)=d.1.2+1:=aW;unfold Rh;simp only[bP];simp only[nf,pB,uZ,hw];repeat' (first|exact True.intro|omega|(intro _)|(apply And.intro))) (λd hd=>by omega)
instance aIk (x0:Int)(x1:Nat->Int)(x2:Nat->Int)(x3:Nat->Bool)(x4:Nat->Int)(x5:Nat->Int)(x6:Nat->Int)(x7:Int):bz (nE x0 x1 x2 x3 x4 x5 x6 x7):=by
 unfold nE Am;refine aH ?_;rw[adT,bV,aN];refine⟨λ_=>by rw[aw];trivial,λh=> ?_⟩;rw[ayh] at h;obtain⟨h1,h2,h3⟩:=aJH h 6 (by omega);simp only[bP,h1,h2,OH,LS,Eo]
instance aZw (x0:Int)(x1:Int)(x2:Int)(x3:Int)(x4:Int)(x5:Int)(x6:Int)(x7:Int):bz (An x0 x1 x2 x3 x4 x5 x6 x7):=by
 unfold An Ra;refine aH ?_;refine aA (azC _ (by simp)) λd _ hd=> ?_;simp only[bP]
instance aOw (x:oQ.B):bz (jM x):=by
 unfold jM zu;try dsimp only
 exact aH (by simp only[bP,qV])
instance a1E (x:Gl.B):bz (qI x):=by
 have key:∀d,(0<=d.1.2/\d.1.2<=24)->∀(k1 k2),(∀a,PQ (k1 a) λ_=>True)->(∀a,PQ (k2 a) λ_=>True)->PQ (opt (Jf d) λx=>sum x k1 k2) (δ:=aom) (λ_=>True):=λd hd k1 k2 h1 h2=>by
  refine aA (aGP d hd) λx _ _=> ?_;rw[qQ];exact⟨λa _=>h1 a,λa _=>h2 a⟩
 unfold qI abE;try dsimp only
 refine aH ?_;repeat' (first|(rw[aN];refine⟨λ_=>by rw[aw];trivial,λ_=> ?_⟩)|(rw[bH];intro _ _))
 refine key _ (by simp) _ _ (λ_=>by rw[aw];trivial) (λ_=> ?_);simp only[bP]
theorem P7 (n:Nat):∀(d:cN.B) (hd:0<=d.1.2.2/\d.1.2.2<=d.1.2.1/\d.1.2.1<=1999/\d.1.2.1=((d.1.1:Nat):Int)/\d.2.1.2.2=d.1.1/\d.1.1=n),Ok (mU d) (λx:fe=>x.1.1=n):=
 bO (λd:cN.B=>z4 (d.1.2.1-d.1.2.2)) (λd hd=>by
  have hw:wI (d.1.2.2+1)=d.1.2.2+1:=aW;unfold mT;simp only[bP];simp only[nf,pB,uZ,hw];repeat' (first|exact True.intro|exact hd.c.1|exact hd.c.2|omega|(intro _)|(apply And.intro))) (λd hd=>by omega)
theorem P8 (n:Nat):∀(d:cO.B) (hd:0<=d.1.2.2/\d.1.2.2<=d.1.2.1/\d.1.2.1<=1999/\d.1.2.1=((d.1.1:Nat):Int)/\d.2.1.2.2=d.1.1/\d.1.1=n),Ok (mW d) (λx:fg=>x.1.1=n):=
 bO (λd:cO.B=>z4 (d.1.2.1-d.1.2.2)) (λd hd=>by
  have hw:wI (d.1.2.2+1)=d.1.2.2+1:=aW;unfold mV;simp only[bP];simp only[nf,pB,uZ,hw];repeat' (first|exact True.intro|exact hd.c.1|exact hd.c.2|omega|(intro _)|(apply And.intro))) (λd hd=>by omega)
theorem Uz (x:iT.B)(h:x.1.2.2<=1999):Ok (fZ x) (λr:vx=>r.2.1=x.1.2.2):=by
 unfold fZ o9;show PQ _ _;rw[aQ,bL];refine⟨rfl,aA (P7 x.1.2.2 _ ?_) λd _ hd=> ?_⟩
 .dsimp only;simp only[dz];exact⟨by omega,by omega,by omega,trivial,trivial,trivial⟩
 .rw[aw];exact hd
theorem UA (x:iU.B)(h:x.1.2.2<=1999):Ok (gf x) (λr:vC=>r.2.1=x.1.2.2):=by
 unfold gf pe;show PQ _ _;rw[aQ,bL];refine⟨rfl,aA (P8 x.1.2.2 _ ?_) λd _ hd=> ?_⟩
 .dsimp only;simp only[dz];exact⟨by omega,by omega,by omega,trivial,trivial,trivial⟩
 .rw[aw];exact hd
theorem NF:∀(d:dx.B) (hd:0<=d.1.2.2.2.2/\d.1.2.2.2.2<=d.1.2.2.2.1/\d.1.2.2.2.1<=1999/\d.1.2.2.2.1=((d.1.2.2.1.1:Nat):Int)),Ok (qO d) (λx:iY=>True):=
 bO (λd:dx.B=>z4 (d.1.2.2.2.1-d.1.2.2.2.2)) (λd hd=>by
  have hw:wI (d.1.2.2.2.2+1)=d.1.2.2.2.2+1:=aW;unfold qN;simp only[bP];simp only[nf,pB,uZ,hw];repeat' (first|exact True.intro|omega|(intro _)|(apply And.intro))) (λd hd=>by omega)
theorem Sy (x0:Nat)(x1:Nat)(x2:Nat->Int)(x3:Nat->Int)(w0:Bool)(w1:Bool)(h:x0<=1999):bz (gN x0 x1 x2 x3 w0 w1):=by
 unfold gN tz;refine aH ?_;rw[aQ,aQ,bL,bL];refine⟨rfl,rfl,aA (NF _ (hdN x0 h)) λd _ hd=> ?_⟩;simp only[bP]
instance a1F (x2 x3:Nat->Int)(w0 w1:Bool):bz (gN 8 8 x2 x3 w0 w1):=Sy _ _ _ _ _ _ (by omega)
instance aVn (x:DP.B):bz (uP x):=by
 unfold uP Uw;try dsimp only
 exact aH (by simp only[bP,qV])
theorem qc (n:Nat):∀(d:bh.B) (hd:0<=d.1.2.2.1/\d.1.2.2.1<=d.1.2.2.2/\d.1.2.2.2<=(n:Int)/\d.1.1.1=n/\n<=1999/\d.1.2.1=(n:Int)),Ok (eo d) (λx:bW=>0<=x.1.2.2.1/\x.1.2.2.1<=(n:Int)/\x.1.1.1=n/\x.1.2.1=(n:Int)):=
 bO (λd:bh.B=>z4 (d.1.2.2.2-d.1.2.2.1)) (λd hd=>by
  have h1:wI (d.1.2.2.1+d.1.2.2.2)=d.1.2.2.1+d.1.2.2.2:=dV;have h2:wU (d.1.2.2.1+d.1.2.2.2)=d.1.2.2.1+d.1.2.2.2:=by show IntKind.wrap .u64 _=_;rw[wrap_u64];omega
  have h3:Int.fdiv (d.1.2.2.1+d.1.2.2.2) 2=(d.1.2.2.1+d.1.2.2.2)/2:=Int.fdiv_eq_ediv_of_nonneg _ (by omega);have h4:wI ((d.1.2.2.1+d.1.2.2.2)/2)=(d.1.2.2.1+d.1.2.2.2)/2:=dV;have h5:wI ((d.1.2.2.1+d.1.2.2.2)/2+1)=(d.1.2.2.1+d.1.2.2.2)/2+1:=dV;unfold ek;simp only[h1,h2,h3,h4,h5];simp only[bP];simp only[nf,pB,uZ];repeat' (first|exact True.intro|omega|(intro _)|(apply And.intro))) (λd hd=>by omega)
theorem aRx (x:cj.B)(h:x.1.1.1<=1999):Ok (ck x) (λr:eE=>0<=r.1/\r.1<=(x.1.1.1:Int)):=by
 unfold ck eF;try dsimp only
 show PQ _ _;rw[aQ,bL];refine⟨rfl,aA (qc x.1.1.1 _ ?_) λd _ hd=> ?_⟩
 .try dsimp only
  simp only[dz];exact⟨by omega,by omega,by omega,trivial,h,trivial⟩
 .obtain⟨a1,a2,a3,a4⟩:=hd;simp only[bP,a3,a4];simp only[nf,pB,uZ];exact⟨λc=>⟨λ_ _ _=>⟨a1,a2⟩,⟨a1,c⟩⟩,λ_=>⟨a1,a2⟩⟩
theorem aOx (n:Nat)(i:Int)(h0:0<=i)(h1:i<=(n:Int))(hn:n<=1999)(x2 x3 x4 x5 x6 x7 x8 x9 fX fY A7 x13 x14 x15 x16 x17 x18 x19:Nat->Int)(w1:Bool):
  Ok (eX n i x2 x3 x4 x5 x6 x7 x8 x9 fX fY A7 x13 x14 x15 x16 x17 x18 x19 1 true w1) (λr:ib=>r.1=n+1):=by
 have b1:wr (z4 i) n=true:=by rw[bZ];omega
 have b2:wr ((n+1)*72) 140737488355328=true:=by rw[bZ];omega
 unfold eX;rw[b1,b2,dW h0];exact⟨_,rfl,rfl⟩
theorem aB7 (n:Nat)(i j:Int)(h0:0<=i)(h1:i<=j)(h2:j<=(n:Int))(x3 x4 x5 x6 x7 x8 x9 fX fY:Nat->Int):
  Ok (c8 n i j x3 x4 x5 x6 x7 x8 x9 fX fY true) (λr:ig=>r.1=z4 i+(n-z4 j)):=by
 have b1:wr (z4 i) (z4 j)=true:=by rw[bZ];omega
 have b2:wr (z4 j) n=true:=by rw[bZ];omega
 unfold c8;rw[b1,b2,dW h0,dW (show 0<=j by omega)];exact⟨_,rfl,rfl⟩
theorem aRy (n:Nat)(hn:n<=1999)(x1 x2 x3 x4 x5 x6 x7 x8 x9:Nat->Int)(w:Bool):
  Ok (fA n x1 x2 x3 x4 x5 x6 x7 x8 x9 w) (λr:iR=>r.1=n):=by
 have b1:wr (n*72) 140737488355328=true:=by rw[bZ];omega
 unfold fA;rw[b1];exact⟨_,rfl,rfl⟩
theorem aOy (s:Nat)(hs:s<=120)(n:Nat)(hn:n<=100)(eZ:Bool)(f:Nat->Int)(w w':Bool):
  wF (ws s) n n eZ f w w'=some (sat (M4 (vf (λj=>sat (f j)*sat (f j)) n) s),(eZ||zk (λj=>eN (f j)||eN (f j)) n)||eN (M4 (vf (λj=>sat (f j)*sat (f j)) n) s)):=by
 simp only[wF,PX,Pg.bQ,Pg.bN,Pg.cx,Pg.fq,Pg.ew];try delta wI wU
 unfold KE;have n0:decide (ws s<0)=false:=by simp
 have n1:decide (ws s>120)=false:=by simp only[dz];exact cV (by omega)
 have m:(if 100<if ws n<ws n then ws n else ws n then 100 else if ws n<ws n then ws n else ws n)=ws n:=by
  have e:¬ws n<ws n:=by omega
  rw[if_neg e,if_neg (by simp only[dz];omega)]
 rw[n0,n1,bI,bI,Fz,bB,m]
 refine Km (λt d=>∃(i:Nat) (h l':Int),i+t=n/\okW h l'/\vW h l'=vf (λj=>sat (f j)*sat (f j)) i/\d=((ws s,(n,w),(n,w'),ws n,ws i),(eZ||zk (λj=>eN (f j)||eN (f j)) i),f,h,l')) ?_ 2000 n _ (by omega)
  ⟨0,0,0,by omega,⟨by omega,by omega,by omega,by omega⟩,rfl,by simp only[zk,OF];rfl⟩
 rintro t _ c ⟨i,h,l',hi,ho,hv,rfl⟩ hc
 have bnd:=aeV (λj=>sat (f j)*sat (f j)) 1329227995784915872903807060280344576 (by omega) i (λj _=>RT _ _);rcases WD t with t0|t0
 .have e:i=n:=by omega
  subst e;simp only[CX,Pg.sV,Pg.sW,Pg.wM,Pg.Cf,Pg.sX,nZ,ld,wI,apz (cZ i),bI,ahX h l' s _ hs ho,hv,bG]
 .have hs1:=mu (f i);have WM:=mu (f i);have hm:=RT (f i) (f i);obtain⟨h1,l1,e1,o1,v1⟩:=Bl (sat (f i)) (sat (f i)) (by omega) (by omega) (by omega) (by omega)
  obtain⟨h2,l2,e2,o2,v2⟩:=Yq (λj:Nat=>bif z9 j 1 then h1 else bif z9 j 0 then h else h) (λj:Nat=>bif z9 j 1 then l1 else bif z9 j 0 then l' else l') true
   ho o1 (by show _<=vW h l'+vW h1 l1;rw[hv,v1];omega) (by show vW h l'+vW h1 l1<_;rw[hv,v1];omega)
  have v2:vW h2 l2=vW h l'+vW h1 l1:=v2;rw[hv,v1] at v2;have q:z4 (ws i)=i:=rfl;simp only[CX,Pg.sV,Pg.sW,Pg.wM,Pg.Cf,Pg.sX,nZ,ld,wI,apy hi t0,apA (show i<n by omega),bB,q,oO,bG,e1,e2,apB (show i<9000000000000000000 by omega)];refine hc (t-1) _ (by omega) ⟨i+1,h2,l2,by omega,o2,v2,?_⟩;simp only[zk,Bool.or_assoc]
instance a3i (eZ:Bool)(f:Nat->Int)(w w':Bool):bz (wF 30 2 2 eZ f w w'):=⟨_,aOy 30 (by omega) 2 (by omega) eZ f w w'⟩
instance aRz (x0:Nat->Int)(x1:Int)(x2:Int)(x3:Int)(x4:Bool):bz (xp x0 x1 x2 x3 x4):=by
 unfold xp KF;exact aH (by simp only[bP,qV])
instance aVo (x0:Int)(x1:Int)(x2:Int)(x3:Int)(x4:Int)(x5:Int)(x6:Int)(x7:Int)(x8:Int)(x9:Int):bz (DR x0 x1 x2 x3 x4 x5 x6 x7 x8 x9):=by
 unfold DR Uy;exact aH (by simp only[bP,qV])
theorem aLV (x:xA.B)(h:x.1.2.1<=1999):bz (kh x):=by
 have tr:=λa b c d e g i j k l m w=>Ar a b x.1.2.1 c d e g i j k l m w
 unfold kh KO;try dsimp only
 refine aH ?_;rw[aQ,bL];refine⟨rfl,?_⟩;have:=Ar;refine aA (bz.Ok (Ar _ _ _ _ _ _ _ _ _ _ _ _ _ _ h) (Q:=λ_=>True) λ_ _=>trivial) λd _ _=> ?_;rw[aw];trivial
instance a34 (x:vg.B):bz (jo x):=by
 unfold jo Ij;try dsimp only
 refine aH ?_;iterate 9 (rw[aQ,bL];refine⟨rfl,?_⟩)
 refine aA (bz.Ok (aLV ((x.1,1,true),_) (by show 1<=1999;omega)) (Q:=λ_=>True) λ_ _=>trivial) λd _ _=> ?_;rw[aw];trivial
instance a3j (x:tG.B):bz (dP x):=by
 unfold dP Gv;try dsimp only
 refine aH ?_;iterate 9 (rw[aQ,bL];refine⟨rfl,?_⟩)
 refine aA (bz.Ok (aLV ((x.1,1,true),_) (by show 1<=1999;omega)) (Q:=λ_=>True) λ_ _=>trivial) λd _ _=> ?_;rw[aw];trivial
theorem SA (x:rL.B)(h:x.2.1.2.2.2.2.2.2.2.2.2.2.2.2.2.2.2.2<=100000):Ok (kj x) (λr:xB=>r.1.2.2.2.2.2.2.2.2.2.2.2.2.2.2.2.2=x.2.1.2.2.2.2.2.2.2.2.2.2.2.2.2.2.2.2+1/\r.1.2.2.2.2.1=x.2.1.2.2.2.2.1/\r.1.2.2.2.2.2.2.2.2.2.2.2.2.2.1=x.2.1.2.2.2.2.2.2.2.2.2.2.2.2.2.1):=by
 unfold kj C7;try dsimp only
 show PQ _ _;rw[bL,aw];exact⟨by rw[bZ];omega,rfl,rfl,rfl⟩
theorem afx (x:rM.B)(h:x.1.2.1<=1999):Ok (dH x) (λr:xC=>r.1=x.1.2.1/\r.2.1.1.d.c.b.2.2=x.2.1.d.c.b.2.2/\r.2.1.1.c.1=x.2.1.c.1/\r.2.1.1.d.c.2.1=x.2.1.d.c.2.1):=by
 unfold dH C8;try dsimp only
 show PQ _ _;rw[aQ,bL];refine⟨rfl,aA (aLQ _ h) λd _ hd=> ?_⟩;iterate 10 (rw[aQ,bL];refine⟨rfl,?_⟩)
 refine aA (bz.Ok (aLV ((x.1.1,d.1.2.2,true),_) (by show d.1.2.2<=1999;rw[hd];exact h)) (Q:=λ_=>True) λ_ _=>trivial) λd1 _ _=> ?_;rw[aw];exact⟨hd,rfl,rfl,rfl⟩
theorem Zv (x:oU.B)(h:x.1.1<=1999):Ok (iC x) (λr:zA=>r.d.c.b.2.2=x.2.1.d.c.b.2.2/\r.c.1=x.2.1.c.1/\r.d.c.2.1=x.2.1.d.c.2.1):=by
 unfold iC zB;try dsimp only
 show PQ _ _;rw[aQ,bL];refine⟨rfl,aA (bz.Ok (ar7 x.1.1 _ _ _ _ h) (Q:=λ_=>True) λ_ _=>trivial) λd1 _ _=> ?_⟩;rw[aN];exact⟨λ_=>by rw[aw];exact⟨rfl,rfl,rfl⟩,λ_=>by rw[aw];exact⟨rfl,rfl,rfl⟩⟩
theorem aYI (x:rQ.B)(h:x.2.1.d.c.b.2.2<=90000):Ok (oB x) (λr:xG=>r.1.d.c.b.2.2<=x.2.1.d.c.b.2.2+3/\r.1.c.1=x.2.1.c.1/\r.1.d.c.2.1=x.2.1.d.c.2.1):=by
 unfold oB C';try dsimp only
 show PQ _ _;simp only[aQ];rw[bH];intro d _;rw[bH];intro d1 _;iterate 9 (rw[bL];refine⟨rfl,?_⟩)
 refine aA (SA _ (show x.2.1.d.c.b.2.2<=100000 by omega)) λd2 _ h2=> ?_;have h2:d2.1.d.c.b.2.2=x.2.1.d.c.b.2.2+1/\d2.1.c.1=x.2.1.c.1/\d2.1.d.c.2.1=x.2.1.d.c.2.1:=h2;rw[bH];intro d3 _;iterate 9 (rw[bL];refine⟨rfl,?_⟩)
 refine aA (SA _ (show d2.1.d.c.b.2.2<=100000 by omega)) λd4 _ h4=> ?_;have h4:d4.1.d.c.b.2.2=d2.1.d.c.b.2.2+1/\d4.1.c.1=d2.1.c.1/\d4.1.d.c.2.1=d2.1.d.c.2.1:=h4;rw[aN];refine⟨λ_=> ?_,λ_=>by rw[aw];omega⟩;rw[bH];intro d5 _;iterate 9 (rw[bL];refine⟨rfl,?_⟩)
 refine aA (SA _ (show d4.1.d.c.b.2.2<=100000 by omega)) λd6 _ h6=> ?_;have h6:d6.1.d.c.b.2.2=d4.1.d.c.b.2.2+1/\d6.1.c.1=d4.1.c.1/\d6.1.d.c.2.1=d4.1.d.c.2.1:=h6;rw[aw];omega
theorem aLW (x:my.B):Ok (kl x) (λr:vI=>r.1.d.c.b.2.2=x.2.1.d.c.b.2.2/\r.1.c.1=x.2.1.c.1/\r.1.d.c.2.1=x.2.1.d.c.2.1):=by
 unfold kl vJ;try dsimp only
 show PQ _ _;simp only[aQ]
 repeat' (first
  |rw[aE]
  |(rw[aN];refine⟨λ_=> ?_,λ_=> ?_⟩)
  |(rw[uD];refine⟨λ_ _=> ?_,λ_ _=> ?_⟩)
  |(with_reducible refine aA (afx _ ?_) λe _ he=> ?_)
  |(with_reducible refine aA (Zv _ ?_) λq _ hq=> ?_)
  |(with_reducible refine aA (SA _ ?_) λt _ ht=> ?_)
  |(rw[bH];intro _ _))
 all_goals first|(rw[aw];exact⟨hq.1.trans he.2.1,hq.2.1.trans he.b.1,hq.2.2.trans he.b.2⟩)|(rw[aw];exact he.2)|(rw[aw];exact⟨rfl,rfl,rfl⟩)|omega|(dsimp only;omega)|(have h1:=he.1;(try dsimp only at h1);(try dsimp only);omega)
theorem aLX (x:mz.B):Ok (km x) (λr:vK=>r.1.d.c.b.2.2=x.2.1.d.c.b.2.2/\r.1.c.1=x.2.1.c.1/\r.1.d.c.2.1=x.2.1.d.c.2.1):=by
 unfold km vL;try dsimp only
 show PQ _ _;simp only[aQ]
 repeat' (first
  |rw[aE]
  |(rw[aN];refine⟨λ_=> ?_,λ_=> ?_⟩)
  |(rw[uD];refine⟨λ_ _=> ?_,λ_ _=> ?_⟩)
  |(with_reducible refine aA (afx _ ?_) λe _ he=> ?_)
  |(with_reducible refine aA (Zv _ ?_) λq _ hq=> ?_)
  |(with_reducible refine aA (SA _ ?_) λt _ ht=> ?_)
  |(rw[bH];intro _ _))
 all_goals first|(rw[aw];exact⟨hq.1.trans he.2.1,hq.2.1.trans he.b.1,hq.2.2.trans he.b.2⟩)|(rw[aw];exact he.2)|(rw[aw];exact⟨rfl,rfl,rfl⟩)|omega|(dsimp only;omega)|(have h1:=he.1;(try dsimp only at h1);(try dsimp only);omega)
theorem aIl (x0:Nat->Int)(x1:Int)(x2:Int)(x3:Int)(x4:Int)(x5:Int)(x6:Bool):Ok (CR x0 x1 x2 x3 x4 x5 x6) (λr:VW=>match r with|.inl e=>(e.1!=0)=true|.inr _=>True):=by
 unfold CR VX;try dsimp only
 show PQ _ _;simp only[bP];repeat' (first|exact True.intro|rfl|assumption|(apply And.intro)|(intro _))
theorem aYJ (x:rR.B):Ok (oC x) (λr:Da=>r.1.d.c.b.2.2=x.2.1.d.c.b.2.2/\r.1.c.1=x.2.1.c.1/\r.1.d.c.2.1=x.2.1.d.c.2.1):=by
 unfold oC Db;try dsimp only
 show PQ _ _;simp only[aQ];rw[bH];intro d _;with_reducible refine aA (aIl _ _ _ _ _ _ _) λfb _ hfb=> ?_
 rw[uD];refine⟨λa ha=> ?_,λa ha=> ?_⟩
 .subst ha;have hfb:(a.1!=0)=true:=hfb;rw[hfb]
  repeat' (first
   |rw[aE]
   |(rw[aN];refine⟨λ_=> ?_,λ_=> ?_⟩)
   |(rw[uD];refine⟨λ_ _=> ?_,λ_ _=> ?_⟩)
   |(with_reducible refine aA (afx _ ?_) λe _ he=> ?_)
   |(with_reducible refine aA (Zv _ ?_) λq _ hq=> ?_)
   |(with_reducible refine aA (SA _ ?_) λt _ ht=> ?_)
   |(rw[bH];intro _ _))
  all_goals first|(rw[aw];exact⟨hq.1.trans he.2.1,hq.2.1.trans he.b.1,hq.2.2.trans he.b.2⟩)|(rw[aw];exact he.2)|(rw[aw];exact⟨rfl,rfl,rfl⟩)|omega|(dsimp only;omega)|(have h1:=he.1;(try dsimp only at h1);(try dsimp only);omega)
 .subst ha
  repeat' (first
   |rw[aE]
   |(rw[aN];refine⟨λ_=> ?_,λ_=> ?_⟩)
   |(rw[uD];refine⟨λ_ _=> ?_,λ_ _=> ?_⟩)
   |(with_reducible refine aA (afx _ ?_) λe _ he=> ?_)
   |(with_reducible refine aA (Zv _ ?_) λq _ hq=> ?_)
   |(with_reducible refine aA (SA _ ?_) λt _ ht=> ?_)
   |(rw[bH];intro _ _))
  all_goals first|(rw[aw];exact⟨hq.1.trans he.2.1,hq.2.1.trans he.b.1,hq.2.2.trans he.b.2⟩)|(rw[aw];exact he.2)|(rw[aw];exact⟨rfl,rfl,rfl⟩)|omega|(dsimp only;omega)|(have h1:=he.1;(try dsimp only at h1);(try dsimp only);omega)
end Go.Proofs.YtldgljclcgaibaaGreat
