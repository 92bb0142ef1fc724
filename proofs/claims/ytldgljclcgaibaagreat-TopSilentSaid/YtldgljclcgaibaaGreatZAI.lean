/-
  Parts of the proof: Q4 QS
-/
import Derived.Test.YtldgljclcgaibaaGreatZAE
import Derived.Test.YtldgljclcgaibaaGreatZAH
open Nat renaming beq→ww,ble→wd,blt→v6
open Int renaming toNat→ws,ofNat→wl
open Sum renaming inl→wr,inr→wn,elim→t8
set_option linter.all false
set_option maxRecDepth 100000
set_option maxHeartbeats 4000000
noncomputable section
namespace Go.Proofs.YtldgljclcgaibaaGreat
open Go.Ab Go.Ab.Pg Go.Ab.Rq
def HT:=qa (pr (cu ayW iL) aC2)
def xA:=qe (res (pu (app 1 6) (pu Y2 (cl aVk nil))))
abbrev zO:=xA.B
abbrev HU:=Int->NI->NI->(Nat->Bool)->NI->NI->NI->Int->Option zO
def HV (g:HU):Ct:=(45,FC HT (lf xA) (λb=>g b.1 b.2.1.1 b.2.1.2.1 b.2.1.b.1 b.2.1.b.2.1 b.2.1.c.1 b.2.1.c.2 b.b))
def rI (lB:UN)(x0:Int)(x1:Nat->Int)(x2:Nat->Int)(x3:Nat->Bool)(x4:Nat->Int)(x5:Nat->Int)(x6:Nat->Int)(x7:Int):Pg zO:=opt (lB x0) λd=>ae (!d) (ret (0,0,false,0,0,0)) (ae (bg x0 6) (ae (wd (0+ws x0*6+6) 36) (ret ((x1,x2,x3,x4,x5,x6).1 (ws x0),(x2,x3,x4,x5,x6).1 (ws x0),(x3,x4,x5,x6).1 (ws x0),(x4,x5,x6).1 (ws x0),x5 (ws x0),x6 (ws x0))) no) no)
def kC:=λx0 x1 x2 x3 x4 x5 x6 x7=>(rI pB x0 x1 x2 x3 x4 x5 x6 x7).val
theorem acC:∀lB,D0 [UO lB] 45 HT (lf xA) λb=>rI lB b.1 b.2.1.1 b.2.1.2.1 b.2.1.b.1 b.2.1.b.2.1 b.2.1.c.1 b.2.1.c.2 b.b:=λ_ b=>by kernel_rfl
theorem acD [ax]:SC (HV kC):=s0 (.c ag6 (.nil _)) (acC pB)
def av7:=qa (pr (cu aO ae2) bB)
def acE:=qe (res (pr (aa awX) (pl mX nil)))
abbrev av8:=acE.B
abbrev ur:=NI->Int->Bool->Option av8
def F2 (g:ur):Ct:=(103,FC av7 (lf acE) (λb=>g b.1.1 b.1.2 b.2))
def ag7 (aN:fJ)(bc:eC)(bE:mG)(x0:Nat->Int)(x1:Int)(x2:Bool):Pg av8:=opt (aN x0 x2) λd=>opt (bc d.1) λaj=>opt (bE d.1 4) λaC=>opt (bE d.1 7) λbx=>ret ((x1,aj.1,aj.2.1,aj.2.2.1,aj.2.2.2,aC.1,aC.2.1,aC.2.2,bx),d.2)
def lC:=λx0 x1 x2=>(ag7 bD bX eX x0 x1 x2).val
theorem aKJ:∀aN bc bE,D0 [jB aN,j5 bc,rA bE] 103 av7 (lf acE) λb=>ag7 aN bc bE b.1.1 b.1.2 b.2:=λ_ _ _ b=>by kernel_rfl
theorem MH [ax]:SC (F2 lC):=s0 (.c ky (.c lA (.c uY (.nil _)))) (aKJ bD bX eX)
def aq8:=qa (pl (c lW (cl aP0 nil)) nil)
def XR:=qe aPG
abbrev aq9:=XR.B
abbrev Dt:=NI->Int->Int->Int->Int->Int->Int->Int->Int->Int->Int->Int->Option aq9
def Qf (g:Dt):Ct:=(105,FC aq8 (lf XR) (λb=>g b.1 b.2.1 b.b.1.1 b.b.1.2.1 b.b.1.b.1 b.b.1.b.2 b.b.2.1.1 b.b.2.1.2.1 b.b.2.1.b b.c.1 b.c.2.1 b.c.b))
def acF (cZ:zB)(x0:Nat->Int)(x1:Int)(x2:Int)(x3:Int)(x4:Int)(x5:Int)(x6:Int)(x7:Int)(x8:Int)(x9:Int)(fS:Int)(fR:Int):Pg aq9:=opt (cZ x0 0 4 (cr x2 [x5,x4,x3,x2]) false) λd=>opt (cZ d 4 3 (cr x6 [x8,x7,x6]) false) λd=>opt (cZ d 7 3 (cr x9 [fR,fS,x9]) false) λd=>ret d
def rJ:=λx0 x1 x2 x3 x4 x5 x6 x7 x8 x9 fS fR=>(acF fI x0 x1 x2 x3 x4 x5 x6 x7 x8 x9 fS fR).val
theorem aGQ:∀cZ,D0 [Dn cZ] 105 aq8 (lf XR) λb=>acF cZ b.1 b.2.1 b.b.1.1 b.b.1.2.1 b.b.1.b.1 b.b.1.b.2 b.b.2.1.1 b.b.2.1.2.1 b.b.2.1.b b.c.1 b.c.2.1 b.c.b:=λ_ b=>by kernel_rfl
theorem acG [ax]:SC (Qf rJ):=s0 (.c HA (.nil _)) (aGQ fI)
def ara:=qa (pl aaG nil)
def XS:=qe Et
abbrev HW:=XS.B
abbrev arb:=Int->Int->Int->Int->Int->Int->Int->Int->Option HW
def arc (g:arb):Ct:=(101,FC ara (lf XS) (λb=>g b.1 b.2.1 b.b.1.1 b.b.1.2.1 b.b.1.b b.b.2.1 b.c.1 b.c.2))
def hU:=qs (st (pr (us 1 (cu Y6 (us 2 (cl ai (us 21 aPC))))) (pl (cl Ew nil) nil)))
def aad:=qs (st (pu (us 2 (cu mJ (us 37 nil))) (pu nil nil)))
def aae:=qs (st (pr (us 1 (cu Y6 (us 2 (c ai (cl ab (us 20 aPC)))))) (pl (cl Ew nil) nil)))
abbrev pW:=aad.B⊕aae.B
def ai3 {ρ:Type}(x:pW)(K:AX->St->Option ρ):Option ρ:=(t8 (λd=>K .ret (aad.em d)) (λd=>K (.ex 0) (aae.em d))) x
def xY (dG:Oa)(d:hU.B):PL hU pW:=let n2:=d.2.2.2;let n1:=n2.2.2.2;let y0:=bg d.1 3;let y1:=d.1==1;let y2:=d.1==2;let y3:=decide (d.1<3);ae y3 (ae y0 (ae y2 (opt (dG n2.2.2.1) λaj=>ae (decide (aj>34359738368)) (ret (wn (wr ()))) (ae y0 (ae y2 (opt (dG n1.2.2) λaC=>ae (decide (aC>34359738368)) (ret (wn (wr ()))) (ret (wr (wI (d.1+1),d.2)))) (ae y1 (opt (dG n1.2.1) λaC=>ae (decide (aC>34359738368)) (ret (wn (wr ()))) (ret (wr (wI (d.1+1),d.2)))) (opt (dG n1.1) λaC=>ae (decide (aC>34359738368)) (ret (wn (wr ()))) (ret (wr (wI (d.1+1),d.2)))))) no)) (ae y1 (opt (dG n2.2.1) λaj=>ae (decide (aj>34359738368)) (ret (wn (wr ()))) (ae y0 (ae y2 (opt (dG n1.2.2) λaC=>ae (decide (aC>34359738368)) (ret (wn (wr ()))) (ret (wr (wI (d.1+1),d.2)))) (ae y1 (opt (dG n1.2.1) λaC=>ae (decide (aC>34359738368)) (ret (wn (wr ()))) (ret (wr (wI (d.1+1),d.2)))) (opt (dG n1.1) λaC=>ae (decide (aC>34359738368)) (ret (wn (wr ()))) (ret (wr (wI (d.1+1),d.2)))))) no)) (opt (dG n2.1) λaj=>ae (decide (aj>34359738368)) (ret (wn (wr ()))) (ae y0 (ae y2 (opt (dG n1.2.2) λaC=>ae (decide (aC>34359738368)) (ret (wn (wr ()))) (ret (wr (wI (d.1+1),d.2)))) (ae y1 (opt (dG n1.2.1) λaC=>ae (decide (aC>34359738368)) (ret (wn (wr ()))) (ret (wr (wI (d.1+1),d.2)))) (opt (dG n1.1) λaC=>ae (decide (aC>34359738368)) (ret (wn (wr ()))) (ret (wr (wI (d.1+1),d.2)))))) no)))) no) (ret (wn (wn ((d.1,y3),d.2))))
def C8:=bw (xY xS) 2000
def zQ (eB:LT hU pW)(x0:Int)(x1:Int)(x2:Int)(x3:Int)(x4:Int)(x5:Int)(x6:Int)(x7:Int):Pg HW:=opt (eB (0,x0,x1,x2,x3,x4,x5,x6,x7)) λx=>sum x (λd=>ret false) λd=>ae (decide (d.2.2.1>=1)) (ae (decide (d.2.2.1<=100000)) (ae (decide (d.2.1>=0)) (ret (decide (d.2.1<=1125899906842624))) (ret false)) (ret false)) (ret false)
def kD:=λx0 x1 x2 x3 x4 x5 x6 x7=>(zQ C8 x0 x1 x2 x3 x4 x5 x6 x7).val
abbrev Qg:=Oa×(LT hU pW)
def acH (p:Qg):KK:=⟨[adp p.1],⟨[⟨2,(0::2::5::6::7::rg 9 4 (rg 20 6 (29::30::34::35::39::3::8::rg 13 7 []))),[]⟩],[fY 2 0 hU ai3 p.2],[],[],(some ⟨0,(0::1::rg 3 37 []),[]⟩)⟩,0,101⟩
theorem ayg (p:Qg):LI (acH p) 2 hU ai3 (xY p.1):=λ_ d c K=>by kernel_rfl
theorem aGR (p:Qg):D2 (acH p) ara (lf XS) λb=>zQ p.2 b.1 b.2.1 b.b.1.1 b.b.1.2.1 b.b.1.b b.b.2.1 b.c.1 b.c.2:=λb=>by kernel_rfl
abbrev acI:Qg:=(xS,C8)
theorem aGS [ax]:SC (arc kD):=sc (kS (k:=acH acI) (.c aow (.nil _)) [2] [] ⟨kL (ayg acI),trivial⟩ trivial (aGR acI))
def zR:=qa (pr (cu aO (c (aa aC0) aaG)) bB)
def XT:=qe (res (pr (aa awU) (pl mX nil)))
abbrev acJ:=XT.B
abbrev ard:=zR.B->Option acJ
def are (g:ard):Ct:=(102,FC zR (lf XT) g)
def HX (dW:BP)(x:zR.B):Pg acJ:=let n2:=x.1.2.2.2;let n1:=x.1.1.2.2;opt (dW 2 x.2 (cr n1.1.1 [n2.1.1,n1.1.1]) (cr n1.1.2.1 [n2.1.2.1,n1.1.2.1]) (cr n1.1.2.2 [n2.1.2.2,n1.1.2.2]) true) λd=>opt (dW 2 d.2 (cr n1.2.1 [n2.2.1,n1.2.1]) (cr n1.2.2.1 [n2.2.2.1,n1.2.2.1]) (cr n1.2.2.2 [n2.2.2.2,n1.2.2.2]) true) λaj=>ret ((x.1.2.1,wI (x.1.1.2.1+x.1.2.2.1),d.1.1,d.1.2.1,d.1.2.2,aj.1),aj.2)
def rK:=λx=>(HX lp x).val
theorem aGT:∀dW,D0 [Ja dW] 102 zR (lf XT) λb=>HX dW b:=λ_ b=>by kernel_rfl
theorem aGU [ax]:SC (are rK):=s0 (.c Oj (.nil _)) (aGT lp)
def gh:=qa (pr (cu (app 0 10) (cu Qu aaG)) (c od bB))
def DJ:=qe (res (pr (rU (c (ra awU) (c (rc cb) aeV))) (pl (c (zp od) mX) nil)))
abbrev sx:=DJ.B
abbrev Fc:=gh.B->Option sx
def QY (g:Fc):Ct:=(62,FC gh (lf DJ) g)
def mn (Qh:arb)(Qi:ard)(x:gh.B):Pg sx:=let n3:=x.1.2.2;let n2:=x.2.1;let n1:=(Qi ((n2.2.1,x.1),x.2.2));opt (Qh x.1.1 x.1.2.1 n3.1.1 n3.1.2.1 n3.1.2.2 n3.2.1 n3.2.2.1 n3.2.2.2) λd=>ae (!d) (ret (((0,0,0,0,0,0,0,0),false,1),x.2)) (ae n2.2.2 (ae (decide (x.1.1<=n2.2.1.1)) (ret (((0,0,0,0,0,0,0,0),false,1),x.2)) (opt n1 λd=>let n4:=d.1.2;ae (decide (n4.1<n2.1)) (ret (((0,0,0,0,0,0,0,0),false,0),(n2.1,(d.1.1,n4.1,(n4.2.1,n4.2.2.1,n4.2.2.2.1),n4.2.2.2.2),true),d.2)) (ret ((d.1,true,0),(n2.1,(x.1.1,0,(0,0,0),0,0,0),true),d.2)))) (opt n1 λd=>let n5:=d.1.2;ae (decide (n5.1<n2.1)) (ret (((0,0,0,0,0,0,0,0),false,0),(n2.1,(d.1.1,n5.1,(n5.2.1,n5.2.2.1,n5.2.2.2.1),n5.2.2.2.2),true),d.2)) (ret ((d.1,true,0),(n2.1,(x.1.1,0,(0,0,0),0,0,0),true),d.2))))
def cU:=λx=>(mn kD rK x).val
theorem anb:∀Qh Qi,D1 [arc Qh,are Qi] [0,1] 62 gh (lf DJ) λb=>mn Qh Qi b:=λ_ _ b=>by kernel_rfl
theorem anc [ax]:SC (QY cU):=s0 (.c aGS (.c aGU (.nil _))) (anb kD rK)
def gX:=qa (pr (cu Ke (cu Qu ae2)) (cd ae1 λb0=>(c xi (cl (cl (gs b0.b jF) nil) nil))))
def wJ:=qe (res (pu Qs (pr (c (zp (c gi (cl gi (cu (gc (iW (pu rq7 (pu vT (pu (szl Ar) (pu Bg jx)))))) nil)))) ND) (cl awX nil))))
abbrev xB:=wJ.B
abbrev xC:=gX.B->Option xB
def Gl (g:xC):Ct:=(162,FC gX (lf wJ) g)
def qd (j6:ur)(x:gX.B):Pg xB:=opt (j6 x.1.1 x.1.2 x.2.2.1) λd=>ret (((x.2.1.1,x.2.1.2.1),d.2),d.1)
def eD:=λx=>(qd lC x).val
theorem YQ:∀j6,D0 [F2 j6] 162 gX (lf wJ) λb=>qd j6 b:=λ_ b=>by kernel_rfl
theorem YR [ax]:SC (Gl eD):=s0 (.c MH (.nil _)) (YQ lC)
def nL:=qa (pr (cu Ke (cu Qu (c lW aaG))) (cd ae1 λb0=>(c xi (cl (cl (gs b0.b jF) nil) nil))))
def D5:=qe (res (pr ai (pl (c (zp ae1) ND) nil)))
def D6:=qe (res (pu (ac aIW) (pr (c (zp aI8) (cl atU aMh)) aP2)))
abbrev rL:=D5.B⊕D6.B
def HY:rL->T:=ls (lf D5) (lf D6)
abbrev nM:=nL.B->Option rL
def zT (g:nM):Ct:=(63,FC nL HY g)
def zU (vn:Dt)(Du:Qa)(j6:ur)(x:nL.B):Pg rL:=let bp:=x.2.2.1;let n8:=x.2.1;let n6:=x.1.2.2;let n4:=x.2.2.2;let aT:=n4.2.2;let n2:=n8.2.2;let n1:=aT.2.2;let n5:=n1.2.2.2;let bf:=n5.2.2;let y0:=wl n2;let y1:=n2+1;let y2:=wI (y0-1);let y3:=ws y2;let y4:=y1-1;let y5:=0+y4;ae (y0==0) (ret (wr (4,n8,bp))) (ae (bg y2 n2) (ae (decide (n6.1<1)) (ret (wr (1,n8,bp))) (ae (decide (x.1.2.1<=n4.1 y3)) (ret (wr (1,n8,bp))) (opt (vn x.1.1 (n4.1 y3) (n4.2.1 y3) (aT.1 y3) (aT.2.1 y3) (n1.1 y3) (n1.2.1 y3) (n1.2.2.1 y3) (n5.1 y3) (n5.2.1 y3) (bf.1 y3) (bf.2 y3)) λd=>opt (Du d x.1.2.1 n6.1 n6.2.1.1 n6.2.1.2.1 n6.2.1.2.2 n6.2.2.1 n6.2.2.2.1 n6.2.2.2.2 bp) λd=>opt (j6 d.1 x.1.2.1 d.2) λd=>let n7:=d.1.2.2;let n3:=n7.2.2.2;let n9:=n3.2.2.2;ae (wd (y1*88) 140737488355328) (ae (decide (wl y1>n8.1)) (ae (Kg 1 y1) (ae (wd (y5*88) 140737488355328) (ret (wn (((n8.1,n8.2.1,y5),d.2),y4,λj=>let y0:=1+j;bif ww y0 n2 then d.1.1 else n4.1 y0,λj=>let y0:=1+j;bif ww y0 n2 then d.1.2.1 else n4.2.1 y0,λj=>let y0:=1+j;bif ww y0 n2 then n7.1 else aT.1 y0,λj=>let y0:=1+j;bif ww y0 n2 then n7.2.1 else aT.2.1 y0,λj=>let y0:=1+j;bif ww y0 n2 then n7.2.2.1 else n1.1 y0,λj=>let y0:=1+j;bif ww y0 n2 then n3.1 else n1.2.1 y0,λj=>let y0:=1+j;bif ww y0 n2 then n3.2.1 else n1.2.2.1 y0,λj=>let y0:=1+j;bif ww y0 n2 then n3.2.2.1 else n5.1 y0,λj=>let y0:=1+j;bif ww y0 n2 then n9.1 else n5.2.1 y0,λj=>let y0:=1+j;bif ww y0 n2 then n9.2.1 else bf.1 y0,λj=>let y0:=1+j;bif ww y0 n2 then n9.2.2 else bf.2 y0))) no) no) (ret (wn (((n8.1,n8.2.1,y1),d.2),y1,λj=>bif ww j n2 then d.1.1 else n4.1 j,λj=>bif ww j n2 then d.1.2.1 else n4.2.1 j,λj=>bif ww j n2 then n7.1 else aT.1 j,λj=>bif ww j n2 then n7.2.1 else aT.2.1 j,λj=>bif ww j n2 then n7.2.2.1 else n1.1 j,λj=>bif ww j n2 then n3.1 else n1.2.1 j,λj=>bif ww j n2 then n3.2.1 else n1.2.2.1 j,λj=>bif ww j n2 then n3.2.2.1 else n5.1 j,λj=>bif ww j n2 then n9.1 else n5.2.1 j,λj=>bif ww j n2 then n9.2.1 else bf.1 j,λj=>bif ww j n2 then n9.2.2 else bf.2 j)))) no))) no)
def gj:=λx=>(zU rJ vj lC x).val
theorem acK:∀vn Du j6,D1 [Qf vn,abV Du,F2 j6] [0,1] 63 nL HY λb=>zU vn Du j6 b:=λ_ _ _ b=>by kernel_rfl
theorem HZ [ax]:SC (zT gj):=s0 (.c acG (.c aqL (.c MH (.nil _)))) (acK rJ vj lC)
def Ky:=qa (pu (cu Ke nil) (cd (c gi (c gi (cl (gc (CB 1 11)) nil))) λb0=>(cl (cl (gs b0.b jF) nil) nil)))
def zV:=qe (res (pl aV4 (pu aCN nil)))
abbrev Kz:=zV.B
abbrev KA:=Int->Int->Nat->NI->NI->NI->NI->NI->NI->NI->NI->NI->NI->NI->Option Kz
def KB (g:KA):Ct:=(75,FC Ky (lf zV) (λb=>g b.1.1 b.1.2.1 b.1.b b.2.1 b.b.1 b.b.2.1 b.c.1 b.c.2.1 b.c.b.1 b.c.b.2.1 b.d.1 b.d.2.1 b.d.b.1 b.d.b.2))
def KC (x0:Int)(x1:Int)(x2:Nat)(x3:Nat->Int)(x4:Nat->Int)(x5:Nat->Int)(x6:Nat->Int)(x7:Nat->Int)(x8:Nat->Int)(x9:Nat->Int)(fS:Nat->Int)(fR:Nat->Int)(zy:Nat->Int)(x13:Nat->Int):Pg Kz:=let y0:=wI (wl x2-1);let y1:=ws y0;ae (wl x2==0) (ret ((0,0,0,0,0,0,0,0,0,0,0),false)) (ae (bg y0 x2) (ret (((x3,x4,x5,x6,x7,x8,x9,fS,fR,zy,x13).1 y1,(x4,x5,x6,x7,x8,x9,fS,fR,zy,x13).1 y1,(x5,x6,x7,x8,x9,fS,fR,zy,x13).1 y1,(x6,x7,x8,x9,fS,fR,zy,x13).1 y1,(x7,x8,x9,fS,fR,zy,x13).1 y1,(x8,x9,fS,fR,zy,x13).1 y1,(x9,fS,fR,zy,x13).1 y1,(fS,fR,zy,x13).1 y1,(fR,zy,x13).1 y1,zy y1,x13 y1),true)) no)
def AW:=λx0 x1 x2 x3 x4 x5 x6 x7 x8 x9 fS fR zy x13=>(KC x0 x1 x2 x3 x4 x5 x6 x7 x8 x9 fS fR zy x13).val
theorem ad5:D0 [] 75 Ky (lf zV) λb=>KC b.1.1 b.1.2.1 b.1.b b.2.1 b.b.1 b.b.2.1 b.c.1 b.c.2.1 b.c.b.1 b.c.b.2.1 b.d.1 b.d.2.1 b.d.b.1 b.d.b.2:=λb=>by kernel_rfl
theorem ad6 [ax]:SC (KB AW):=s0 (.nil _) ad5
def lr:=qa (pu (cu Y6 nil) (cd akf λb0=>(cl (cl (gs b0.b.1 aA) nil) nil)))
def BY:=qe (res (pu Qs (pl (cl (zp akf) Y2) nil)))
abbrev xc:=BY.B
abbrev DK:=lr.B->Option xc
def Nw (g:DK):Ct:=(57,FC lr (lf BY) g)
def xd (x:lr.B):Pg xc:=ret ((wI (x.1.1.1+1),x.1.1.2.1,x.1.1.2.2.1,wI (x.1.1.2.2.2.1+1),x.1.1.2.2.2.2),x.1.2)
def iR:=λx=>(xd x).val
theorem ajG:D0 [] 57 lr (lf BY) λb=>xd b:=λb=>by kernel_rfl
theorem ajH [ax]:SC (Nw iR):=s0 (.nil _) ajG
def ane:=qa (pl Eu nil)
def Ts:=qe Et
abbrev anf:=Ts.B
abbrev AY:=Int->Int->Int->Option anf
def XU (g:AY):Ct:=(41,FC ane (lf Ts) (λb=>g b.1 b.2.1 b.b))
def MI (x0:Int)(x1:Int)(x2:Int):Pg anf:=ae (decide (x0>=x1)) (ret (decide (x0<=x2))) (ret false)
def nN:=λx0 x1 x2=>(MI x0 x1 x2).val
theorem aFm:D0 [] 41 ane (lf Ts) λb=>MI b.1 b.2.1 b.b:=λb=>by kernel_rfl
theorem ang [ax]:SC (XU nN):=s0 (.nil _) aFm
def av9:=qa (pl GB nil)
def ad7:=qe aCZ
def ad8:=qe aV6
abbrev ag8:=ad7.B⊕ad8.B
def awa:ag8->T:=ls (lf ad7) (lf ad8)
abbrev ag9:=Int->Int->Int->Option ag8
def awb (g:ag9):Ct:=(42,FC av9 awa (λb=>g b.1 b.2.1 b.b))
def aha (cL:vk)(fk:VM)(aq:cx)(eL:Kq)(ib:QE)(uu:afX)(aD:cK)(x0:Int)(x1:Int)(x2:Int):Pg ag8:=opt (cL x0 x1 x2) λd=>ae (!d) (ret (wr ())) (ae (decide (x0>850000000)) (ret (wr ())) (ae (decide (x0< -850000000)) (ret (wr ())) (opt (aq x0 3373259426 1800000000 false) λd=>opt (eL d.1 d.2) λaj=>opt (ib d.1 aj.2) λd=>opt (fk aj.1 aj.1 d.2) λaC=>opt (fk 7188036 aC.1 aC.2) λbx=>let y0:=wI (1073741824-bx.1);opt (uu y0 bx.2) λcH=>opt (aD 6531212288 cH.1 30 cH.2) λfx=>opt (fk 6531212288 1066553788 fx.2) λdx=>opt (fk y0 cH.1 dx.2) λnH=>opt (aD dx.1 nH.1 30 nH.2) λte=>opt (aq te.1 3373259426 1800000000 te.2) λpx=>opt (fk fx.1 d.1 px.2) λd=>opt (aq d.1 3373259426 1800000000 d.2) λd=>ret (wn (x0,x1,x2,px.1,d.1)))))
def yR:=λx0 x1 x2=>(aha gQ v7 aU ov sj BJ bo x0 x1 x2).val
theorem aKK:∀cL fk aq eL ib uu aD,D0 [zG cL,VN fk,dA aq,Kr eL,QF ib,afY uu,gO aD] 42 av9 awa λb=>aha cL fk aq eL ib uu aD b.1 b.2.1 b.b:=λ_ _ _ _ _ _ _ b=>by kernel_rfl
theorem aKL [ax]:SC (awb yR):=s0 (.c Dr (.c ak5 (.c dL (.c QD (.c ZA (.c auI (.c iF (.nil _)))))))) (aKK gQ v7 aU ov sj BJ bo)
def aAU:=qa (pr (cu ayU Eu) (cl arU nil))
def ahb:=qe aVB
abbrev aAV:=ahb.B
abbrev anh:=Int->Int->Int->NI->Option aAV
def aAW (g:anh):Ct:=(74,FC aAU (lf ahb) (λb=>g b.1.1 b.1.2.1 b.1.b b.2))
def AZ:=qs (st (pr (cu ayU (us 1 (c ai (c ai (us 4 aUF))))) (pl IL cN)))
def aGV:=qs (st (pr (cu ayU (us 1 (c ai (c ai (us 4 (c ai (us 1 (c ai aI1)))))))) (pl IL cN)))
abbrev Qj:=(aRF×NI)
def arf {ρ:Type}(x:Qj)(K:AX->St->Option ρ):Option ρ:=(λd=>K (.ex 0) (aGV.em ((d.1.1,d.1.2.1,d.1.b.1,d.1.b.1,d.1.1,d.1.b.2),d.2))) x
def arh (d:AZ.B):PL AZ Qj:=let n1:=d.1.2;let y0:=ws n1.2;let y1:=decide (n1.2<d.1.1);ae y1 (ae (bg n1.2 24) (ae (true&&wd (0+y0*1+1) 24) (ret (wr ((d.1.1,n1.1,wI (n1.2+1)),λj=>bif ww j y0 then n1.1 else d.2 j))) no) no) (ret (wn ((d.1.1,n1.1,n1.2,y1),d.2)))
def ari:=bw (arh) 2000
def aAX (eB:LT AZ Qj)(x0:Int)(x1:Int)(x2:Int)(x3:Nat->Int):Pg aAV:=opt (eB ((x1,x2,x0),x3)) λd=>ret d.2
def ani:=λx0 x1 x2 x3=>(aAX ari x0 x1 x2 x3).val
abbrev aaf:=(LT AZ Qj)
def anj (p:aaf):KK:=⟨[],⟨[⟨1,(1::rg 4 4 (rg 9 11 [])),[]⟩],[fY 1 1 AZ arf p],[0],[],(some ⟨0,(rg 0 20 []),[]⟩)⟩,1,74⟩
theorem aFn (p:aaf):LI (anj p) 1 AZ arf (arh):=λ_ d c K=>by kernel_rfl
theorem aN4 (p:aaf):D2 (anj p) aAU (lf ahb) λb=>aAX p b.1.1 b.1.2.1 b.1.b b.2:=λb=>by kernel_rfl
abbrev ank:aaf:=ari
theorem aN5 [ax]:SC (aAW ani):=sc (kS (k:=anj ank) (.nil _) [1] [] ⟨kL (aFn ank),trivial⟩ trivial (aN4 ank))
def anl:=qa (pu nil nil)
def Tt:=qe (res (pl (aa aQf) (pu nil nil)))
abbrev XV:=Tt.B
abbrev aFo:=Option XV
def anm (g:aFo):Ct:=(38,FC anl (lf Tt) (λ_=>g))
def tw:=qs (st (pr (cu aCK (cu (app 1 72) (us 2 aUM))) (pl (c (so (cu aL (cu aL (cu aL (cu aL (cu aL (cu aL (cu aL (cu aL (cu aL (cu aL (cu aL (cu aL (cu aL (cu aL (cu aL (cu aL (c iC (cl iC aJw))))))))))))))))))) (cl (so aQf) nil)) nil)))
def ad9:=qs (st (pr (cu aCK (cu (app 1 72) (us 2 aU0))) (pl (c (so (cu aL (cu aL (cu aL (cu aL (cu aL (cu aL (cu aL (cu aL (cu aL (cu aL (cu aL (cu aL (cu aL (cu aL (cu aL (cu aL (c iC (cl iC aJw))))))))))))))))))) (cl (so aQf) nil)) nil)))
abbrev F3:=ad9.B
def aea {ρ:Type}:=@ef F3 ((.ex 0)) ad9 ρ
def aeb (d:tw.B):PL tw F3:=let n8:=d.2.1;let n4:=d.2.2.1;let n3:=d.2.2.2;let n9:=n3.2.1;let n5:=n3.2.2.1;let n1:=n3.2.2.2;let aT:=n1.2.1;let n6:=n1.2.2.1;let n2:=n1.2.2.2;let bf:=n2.2.1;let n7:=n2.2.2;let bq:=n7.2.1;let bp:=n7.2.2;let y0:=bg d.1 6;let y1:=d.1==5;let y2:=d.1==4;let y3:=d.1==1;let y4:=d.1==3;let y5:=d.1==2;let y6:=wI (d.1+1);let y7:=decide (d.1<6);ae y7 (ae y0 (ae y1 (ae y0 (ae y1 (ret (wr (y6,n8,n4,n3.1,n9,n5,n1.1,5,n6,n2.1,bf,n7.1,bq,1000000,bp.2))) (ae y2 (ret (wr (y6,n8,n4,n3.1,n9,n5,n1.1,5,n6,n2.1,bf,n7.1,1000000,bp))) (ae y4 (ret (wr (y6,n8,n4,n3.1,n9,n5,n1.1,5,n6,n2.1,bf,1000000,n7.2))) (ae y5 (ret (wr (y6,n8,n4,n3.1,n9,n5,n1.1,5,n6,n2.1,1000000,n7))) (ae y3 (ret (wr (y6,n8,n4,n3.1,n9,n5,n1.1,5,n6,1000000,n2.2))) (ret (wr (y6,n8,n4,n3.1,n9,n5,n1.1,5,1000000,n2)))))))) no) (ae y2 (ae y0 (ae y1 (ret (wr (y6,n8,n4,n3.1,n9,n5,5,aT,n6,n2.1,bf,n7.1,bq,1000000,bp.2))) (ae y2 (ret (wr (y6,n8,n4,n3.1,n9,n5,5,aT,n6,n2.1,bf,n7.1,1000000,bp))) (ae y4 (ret (wr (y6,n8,n4,n3.1,n9,n5,5,aT,n6,n2.1,bf,1000000,n7.2))) (ae y5 (ret (wr (y6,n8,n4,n3.1,n9,n5,5,aT,n6,n2.1,1000000,n7))) (ae y3 (ret (wr (y6,n8,n4,n3.1,n9,n5,5,aT,n6,1000000,n2.2))) (ret (wr (y6,n8,n4,n3.1,n9,n5,5,aT,1000000,n2)))))))) no) (ae y4 (ae y0 (ae y1 (ret (wr (y6,n8,n4,n3.1,n9,5,n1.1,aT,n6,n2.1,bf,n7.1,bq,1000000,bp.2))) (ae y2 (ret (wr (y6,n8,n4,n3.1,n9,5,n1.1,aT,n6,n2.1,bf,n7.1,1000000,bp))) (ae y4 (ret (wr (y6,n8,n4,n3.1,n9,5,n1.1,aT,n6,n2.1,bf,1000000,n7.2))) (ae y5 (ret (wr (y6,n8,n4,n3.1,n9,5,n1.1,aT,n6,n2.1,1000000,n7))) (ae y3 (ret (wr (y6,n8,n4,n3.1,n9,5,n1.1,aT,n6,1000000,n2.2))) (ret (wr (y6,n8,n4,n3.1,n9,5,n1.1,aT,1000000,n2)))))))) no) (ae y5 (ae y0 (ae y1 (ret (wr (y6,n8,n4,n3.1,5,n5,n1.1,aT,n6,n2.1,bf,n7.1,bq,1000000,bp.2))) (ae y2 (ret (wr (y6,n8,n4,n3.1,5,n5,n1.1,aT,n6,n2.1,bf,n7.1,1000000,bp))) (ae y4 (ret (wr (y6,n8,n4,n3.1,5,n5,n1.1,aT,n6,n2.1,bf,1000000,n7.2))) (ae y5 (ret (wr (y6,n8,n4,n3.1,5,n5,n1.1,aT,n6,n2.1,1000000,n7))) (ae y3 (ret (wr (y6,n8,n4,n3.1,5,n5,n1.1,aT,n6,1000000,n2.2))) (ret (wr (y6,n8,n4,n3.1,5,n5,n1.1,aT,1000000,n2)))))))) no) (ae y3 (ae y0 (ae y1 (ret (wr (y6,n8,n4,5,n9,n5,n1.1,aT,n6,n2.1,bf,n7.1,bq,1000000,bp.2))) (ae y2 (ret (wr (y6,n8,n4,5,n9,n5,n1.1,aT,n6,n2.1,bf,n7.1,1000000,bp))) (ae y4 (ret (wr (y6,n8,n4,5,n9,n5,n1.1,aT,n6,n2.1,bf,1000000,n7.2))) (ae y5 (ret (wr (y6,n8,n4,5,n9,n5,n1.1,aT,n6,n2.1,1000000,n7))) (ae y3 (ret (wr (y6,n8,n4,5,n9,n5,n1.1,aT,n6,1000000,n2.2))) (ret (wr (y6,n8,n4,5,n9,n5,n1.1,aT,1000000,n2)))))))) no) (ae y0 (ae y1 (ret (wr (y6,n8,5,n3.1,n9,n5,n1.1,aT,n6,n2.1,bf,n7.1,bq,1000000,bp.2))) (ae y2 (ret (wr (y6,n8,5,n3.1,n9,n5,n1.1,aT,n6,n2.1,bf,n7.1,1000000,bp))) (ae y4 (ret (wr (y6,n8,5,n3.1,n9,n5,n1.1,aT,n6,n2.1,bf,1000000,n7.2))) (ae y5 (ret (wr (y6,n8,5,n3.1,n9,n5,n1.1,aT,n6,n2.1,1000000,n7))) (ae y3 (ret (wr (y6,n8,5,n3.1,n9,n5,n1.1,aT,n6,1000000,n2.2))) (ret (wr (y6,n8,5,n3.1,n9,n5,n1.1,aT,1000000,n2)))))))) no)))))) no) (ret (wn ((d.1,y7),d.2)))
def aec:=bw (aeb) 2000
def ann (sy:anh)(eB:LT tw F3):Pg XV:=opt (eB (0,(λx=>0,λx=>0),0,0,0,0,0,0,0,0,0,0,0,0,λx=>0,λx=>0)) λd=>let n3:=d.2.2.2;let n1:=n3.2.2.2.2;let n2:=n1.2.2.2.2;opt (sy 0 24 16384 n2.2.2.2.1) λaj=>opt (sy 0 4 1048576 aj) λaC=>opt (sy 4 7 17179869184 aC) λbx=>opt (sy 10 13 1024 bx) λcH=>opt (sy 13 16 65536 cH) λfx=>opt (sy 22 24 17179869184 fx) λdx=>opt (sy 0 24 17592186044416 n2.2.2.2.2) λnH=>opt (sy 0 4 68719476736 nH) λte=>opt (sy 10 13 67108864 te) λpx=>opt (sy 13 16 4294967296 px) λmI=>opt (sy 16 22 17179869184 mI) λxj=>ret (d.2.2.1,n3.1,n3.2.1,n3.2.2.1,n3.2.2.2.1,n1.1,n1.2.1,n1.2.2.1,n1.2.2.2.1,n2.1,n2.2.1,n2.2.2.1,dx,xj)
def ano:Option XV:=(ann ani aec).val
abbrev MJ:=anh×(LT tw F3)
def XW (p:MJ):KK:=⟨[aAW p.1],⟨[⟨3,(2::3::rg 5 32 []),[]⟩],[fY 3 0 tw aea p.2],[],[],(some ⟨0,(rg 1 36 []),[]⟩)⟩,0,38⟩
theorem awc (p:MJ):LI (XW p) 3 tw aea (aeb):=λ_ d c K=>by kernel_rfl
theorem aFp (p:MJ):D2 (XW p) anl (lf Tt) λb=>ann p.1 p.2:=λb=>by kernel_rfl
abbrev XX:MJ:=(ani,aec)
theorem aFq [ax]:SC (anm ano):=sc (kS (k:=XW XX) (.c aN5 (.nil _)) [3] [] ⟨kL (awc XX),trivial⟩ trivial (aFp XX))
def aag:=qa (pr (cu aO (c lW (c Bz (c aeX iL)))) bB)
def JJ:=qe (res (pr (rU (c aj8 (c ar0 (cl (ra (cu arT (cu aL (cu aL (cu aL (c gi (c gi (cl gi (cu aL (cu aL (cu aL (cu aPn nil)))))))))))) nil)))) (pl mX nil)))
abbrev MK:=JJ.B
abbrev aah:=NI->NI->NI->Int->Int->Int->Int->Bool->Option MK
def aai (g:aah):Ct:=(250,FC aag (lf JJ) (λb=>g b.1.1 b.1.2.1.1 b.1.2.1.2 b.1.b.1.1 b.1.b.1.2.1 b.1.b.1.b b.1.b.2 b.2))
def D7 (aN:fJ)(ij:Mt)(cj:mR)(bT:cJ)(x0:Nat->Int)(x1:Nat->Int)(x2:Nat->Int)(x3:Int)(x4:Int)(x5:Int)(x6:Int)(x7:Bool):Pg MK:=opt (aN x0 x7) λd=>opt (ij d.1 4 3 d.2 (cr x3 [x5,x4,x3]) false) λd=>let n3:=d.1.2;let n2:=d.2.1;let n1:=d.2.2;opt cj λaj=>ae (wd 3 n3) (opt (bT x1 x2 4 3 n2 (cr x6 [x6,x6,x6]) true) λaC=>ret (((d.1,n2,n3,n1).1.1,aC.1,n1 0,n1 1,n1 2),aC.2)) (ae (wd 2 n3) (opt (bT x1 x2 4 3 n2 (cr x6 [x6,x6,x6]) true) λaC=>ret (((d.1,n2,n3,n1).1.1,aC.1,n1 0,n1 1,0),aC.2)) (ae (wd 1 n3) (opt (bT x1 x2 4 3 n2 (cr x6 [x6,x6,x6]) true) λaC=>ret (((d.1,n2,n3,n1).1.1,aC.1,n1 0,0,0),aC.2)) (opt (bT x1 x2 4 3 n2 (cr x6 [x6,x6,x6]) true) λaC=>ret (((d.1,n2,n3,n1).1.1,aC.1,0,0,0),aC.2))))
def yS:=λx0 x1 x2 x3 x4 x5 x6 x7=>(D7 bD gD dh dX x0 x1 x2 x3 x4 x5 x6 x7).val
theorem awd:∀aN ij cj bT,D0 [jB aN,Mu ij,qO cj,AM bT] 250 aag (lf JJ) λb=>D7 aN ij cj bT b.1.1 b.1.2.1.1 b.1.2.1.2 b.1.b.1.1 b.1.b.1.2.1 b.1.b.1.b b.1.b.2 b.2:=λ_ _ _ _ b=>by kernel_rfl
theorem awe [ax]:SC (aai yS):=s0 (.c ky (.c Xo (.c vI (.c EW (.nil _))))) (awd bD gD dh dX)
def T2:=qa (pr (cu aO (c lW (c Bz Eu))) bB)
def Fe:=qe (res (pr (rU (c aj8 (c ar0 (cl (ra (cu arT (cu aL (cu aL (cu aL (cu aL (cu aL (cu aL (c gi (c gi (cl gi aPt))))))))))) nil)))) (pl mX nil)))
abbrev GZ:=Fe.B
abbrev T3:=NI->NI->NI->Int->Int->Int->Bool->Option GZ
def T4 (g:T3):Ct:=(251,FC T2 (lf Fe) (λb=>g b.1.1 b.1.2.1.1 b.1.2.1.2 b.1.b.1 b.1.b.2.1 b.1.c b.2))
def Ak (aN:fJ)(ij:Mt)(cj:mR)(bT:cJ)(x0:Nat->Int)(x1:Nat->Int)(x2:Nat->Int)(x3:Int)(x4:Int)(x5:Int)(x6:Bool):Pg GZ:=opt (aN x0 x6) λd=>opt (ij d.1 7 2 d.2 (cr x3 [x4,x3]) true) λd=>let n3:=d.1.2;let n2:=d.2.1;let n1:=d.2.2;opt cj λaj=>ae (wd 3 n3) (opt (bT x1 x2 7 2 n2 (cr x5 [x5,x5]) true) λaC=>ret (((d.1,n2,n3,n1).1.1,aC.1,n1 0,n1 1,n1 2),aC.2)) (ae (wd 2 n3) (opt (bT x1 x2 7 2 n2 (cr x5 [x5,x5]) true) λaC=>ret (((d.1,n2,n3,n1).1.1,aC.1,n1 0,n1 1,0),aC.2)) (ae (wd 1 n3) (opt (bT x1 x2 7 2 n2 (cr x5 [x5,x5]) true) λaC=>ret (((d.1,n2,n3,n1).1.1,aC.1,n1 0,0,0),aC.2)) (opt (bT x1 x2 7 2 n2 (cr x5 [x5,x5]) true) λaC=>ret (((d.1,n2,n3,n1).1.1,aC.1,0,0,0),aC.2))))
def ug:=λx0 x1 x2 x3 x4 x5 x6=>(Ak bD gD dh dX x0 x1 x2 x3 x4 x5 x6).val
theorem aoU:∀aN ij cj bT,D0 [jB aN,Mu ij,qO cj,AM bT] 251 T2 (lf Fe) λb=>Ak aN ij cj bT b.1.1 b.1.2.1.1 b.1.2.1.2 b.1.b.1 b.1.b.2.1 b.1.c b.2:=λ_ _ _ _ b=>by kernel_rfl
theorem aoV [ax]:SC (T4 ug):=s0 (.c ky (.c Xo (.c vI (.c EW (.nil _))))) (aoU bD gD dh dX)
def ai4:=qa (pr (cu aO (c lW (c Bz zq))) bB)
def OY:=qe (res (pr (rU (c aj8 (c ar0 (cl (ra (cu arT (cu aL (cu aL (cu aL (cu aL (cu aL (cu aL (cu aL (cu aL (cl gi (cu (gc aPj) nil)))))))))))) nil)))) (pl mX nil)))
abbrev Tu:=OY.B
abbrev ai5:=NI->NI->NI->Int->Int->Bool->Option Tu
def ai6 (g:ai5):Ct:=(252,FC ai4 (lf OY) (λb=>g b.1.1 b.1.2.1.1 b.1.2.1.2 b.1.b.1 b.1.b.2 b.2))
def Iz (aN:fJ)(ij:Mt)(cj:mR)(bT:cJ)(x0:Nat->Int)(x1:Nat->Int)(x2:Nat->Int)(x3:Int)(x4:Int)(x5:Bool):Pg Tu:=opt (aN x0 x5) λd=>opt (ij d.1 9 1 d.2 (λj=>bif ww j 0 then x3 else x3) true) λd=>opt cj λaj=>ae (wd 1 d.1.2) (opt (bT x1 x2 9 1 d.2.1 (λj=>bif ww j 0 then x4 else x4) true) λaC=>ret (((d.1,d.2.1,d.1.2,d.2.2).1.1,aC.1,d.2.2 0),aC.2)) (opt (bT x1 x2 9 1 d.2.1 (λj=>bif ww j 0 then x4 else x4) true) λaC=>ret (((d.1,d.2.1,d.1.2,d.2.2).1.1,aC.1,0),aC.2))
def C9:=λx0 x1 x2 x3 x4 x5=>(Iz bD gD dh dX x0 x1 x2 x3 x4 x5).val
theorem aB2:∀aN ij cj bT,D0 [jB aN,Mu ij,qO cj,AM bT] 252 ai4 (lf OY) λb=>Iz aN ij cj bT b.1.1 b.1.2.1.1 b.1.2.1.2 b.1.b.1 b.1.b.2 b.2:=λ_ _ _ _ b=>by kernel_rfl
theorem aB3 [ax]:SC (ai6 C9):=s0 (.c ky (.c Xo (.c vI (.c EW (.nil _))))) (aB2 bD gD dh dX)
def Ff:=qa (pl (cl (aa xq) nil) nil)
def ahc:=qe Et
abbrev anp:=ahc.B
abbrev QZ:=Ff.B->Option anp
def anq (g:QZ):Ct:=(13,FC Ff (lf ahc) g)
def mo:=qs (st (pr (us 1 (cu aCK (cu mJ (us 3 (xs 1 (cu aU2 (us 4 (cu aVl (us 4 (cu aVm (us 4 (cu mJ (us 4 (c ab (us 3 (cl ai (us 26 aWk))))))))))))))))) (pl (cl (so (c gi (c gi (c gi (c gi (c gi (c gi (c gi (c gi (c gi (c gi (c gi (c gi (c gi (c gi (c gi (c gi aPZ))))))))))))))))) nil) nil)))
def ai7:=qs (st (pu (us 2 (cu mJ (us 119 nil))) (pu nil nil)))
def ai8:=qs (st (pr (us 1 (cu aCK (cu mJ (us 3 (xs 1 (cu aU2 (us 4 (cu aVl (us 4 (cu aVm (us 4 (cu mJ (us 4 (c ab (us 3 (c ai (cl ab (us 25 aWk)))))))))))))))))) (pl (cl (so (c gi (c gi (c gi (c gi (c gi (c gi (c gi (c gi (c gi (c gi (c gi (c gi (c gi (c gi (c gi (c gi aPZ))))))))))))))))) nil) nil)))
abbrev Dv:=ai7.B⊕ai8.B
def arj {ρ:Type}(x:Dv)(K:AX->St->Option ρ):Option ρ:=(t8 (λd=>K .ret (ai7.em d)) (λd=>K (.ex 2) (ai8.em d))) x
def Qk (fT:AY)(d:mo.B):PL mo Dv:=let n2:=d.1.2;let n1:=d.2.2.2.2.2.2.2.2.2.2.2.2.2.2.2.2.2;let y0:=ws n2;let y1:=bg n2 24;let y2:=wd (0+y0*1+1) 24;let y3:=decide (n2<24);ae y3 (ae y1 (ae y2 (opt (fT (n1.1 y0) 0 72057594037927936) λaj=>ae (!aj) (ret (wn (wr ()))) (ae y1 (ae y2 (opt (fT (n1.2.1 y0) 1 72057594037927936) λaC=>ae (!aC) (ret (wn (wr ()))) (ret (wr ((d.1.1,wI (n2+1)),d.2)))) no) no)) no) no) (ret (wn (wn ((d.1.1,n2,y3),d.2))))
def H0:=bw (Qk nN) 2000
def aaj (fT:AY)(aKM:ag9)(qo:LT mo Dv)(x:Ff.B):Pg anp:=let n2:=x.2.2.2.2;let n8:=n2.2.1;let n4:=n8.2.2;let n3:=n2.1.2.2;let n7:=n3.2.2;ae (decide (n2.1.1<1)) (ret false) (ae (decide (n2.1.1>1000)) (ret false) (opt (fT n8.1 1 1099511627776) λd=>ae (!d) (ret false) (ae (decide (n2.1.2.1<1)) (ret false) (ae (decide (n2.1.2.1>1000)) (ret false) (opt (fT n8.2.1 1 1099511627776) λd=>ae (!d) (ret false) (ae (decide (n3.1<1)) (ret false) (ae (decide (n3.1>1000)) (ret false) (opt (fT n4.1 1 1099511627776) λd=>ae (!d) (ret false) (ae (decide (n3.2.1<1)) (ret false) (ae (decide (n3.2.1>1000)) (ret false) (opt (fT n4.2.1 1 1099511627776) λd=>ae (!d) (ret false) (ae (decide (n7.1<1)) (ret false) (ae (decide (n7.1>1000)) (ret false) (opt (fT n4.2.2.1 1 1099511627776) λd=>ae (!d) (ret false) (ae (decide (n7.2<1)) (ret false) (ae (decide (n7.2>1000)) (ret false) (opt (fT n4.2.2.2 1 1099511627776) λd=>ae (!d) (ret false) (opt (qo ((d,0),x.1,x.2.1,x.2.2.1,x.2.2.2.1,n2.1.1,n2.1.2.1,n3.1,n3.2.1,n7.1,n7.2,n8.1,n8.2.1,n4.1,n4.2.1,n4.2.2.1,n4.2.2.2,n2.2.2)) λx=>sum x (λd=>ret false) λd=>let n6:=d.2.2.2;let n1:=n6.2.2.2.2.2.2.2.2.2.2.2.2.2.2.2.2;let n5:=n1.2.2.2.2;opt (aKM n5.2.1 n5.2.2.1 n5.2.2.2) λaj=>sm aj (λd=>ret false) (λaC=>opt (fT d.2.1 1000 100000) λbx=>ae bx (opt (fT d.2.2.1 0 300000) λcH=>ae cH (ae (decide (n6.1>=1)) (ae (decide (n6.1<=64)) (ae (decide (n6.2.1>=0)) (ae (decide (n6.2.1<=100)) (opt (fT n1.1 0 1099511627776) λfx=>ae fx (opt (fT n1.2.1 1 72057594037927936) λdx=>ae dx (ae (decide (n1.2.2.1>=0)) (ae (decide (n1.2.2.1<=3)) (opt (fT n1.2.2.2.1 1 1073741824) λnH=>ae nH (ae (decide (n5.1>=1)) (ret (decide (n5.1<=64))) (ret false)) (ret false)) (ret false)) (ret false)) (ret false)) (ret false)) (ret false)) (ret false)) (ret false)) (ret false)) (ret false)) (ret false))))))))))))))))))))
def oJ:=λx=>(aaj nN yR H0 x).val
abbrev aak:=AY×ag9×(LT mo Dv)
def anr (p:aak):KK:=⟨[XU p.1,awb p.2.1],⟨[⟨2,(0::3::4::rg 8 4 (13::14::15::21::rg 29 8 (38::39::40::rg 48 10 [61,62,66,67,71,72,76,77,81,82,86,87,91,92,96,97,101,102,106,107,111,112,116,117,121]))),[]⟩,⟨8,(0::3::4::5::rg 8 4 (rg 13 4 (rg 18 4 (rg 23 4 (28::29::30::rg 32 5 (38::39::40::rg 48 10 (61::62::66::67::71::72::76::77::81::82::86::87::91::92::96::97::101::102::106::107::111::112::116::117::121::37::rg 41 7 []))))))),[]⟩],[fY 8 0 mo arj p.b],[],[],(some ⟨0,(0::1::rg 3 119 []),[]⟩)⟩,0,13⟩
theorem aFr (p:aak):LI (anr p) 8 mo arj (Qk p.1):=λ_ d c K=>by kernel_rfl
theorem aN6 (p:aak):D2 (anr p) Ff (lf ahc) λb=>aaj p.1 p.2.1 p.b b:=λb=>by kernel_rfl
abbrev ant:aak:=(nN,yR,H0)
theorem aAY [ax]:SC (anq oJ):=sc (kS (k:=anr ant) (.c ang (.c aKL (.nil _))) [2,8] [] ⟨kN,⟨kL (aFr ant),trivial⟩⟩ trivial (aN6 ant))
def aed:=qa (dp (cu aO (c ai (c Hl awN))) λa=>(c xi (cl (cl (gs a.2.1.1 ot) nil) nil)))
def ML:=qe aJe
abbrev aee:=ML.B
abbrev aef:=Int->Nat->Nat->Bool->NI->Bool->Bool->Option aee
def aeg (g:aef):Ct:=(73,uV 3 [.i .i64] (uV 2 [.i .i64] (FC aed (lf ML) (λb=>g b.1.1 b.1.2.1.1 b.1.b.1 b.2.1 b.b b.1.2.1.2 b.1.b.2))))
def pJ:=qs (st (dp (cu aO (c ai (c Hl (c Hl (us 5 (cu ayS aVb)))))) λa=>(pl (c cD (c (so (cl (gs a.2.1.1 ot) nil)) aaF)) cN)))
def as4:=qs (st (pr (cu aO (c ai (c Hl (c Hl (us 5 (cu ayS aVg)))))) (pl (c cD (c IM aaF)) cN)))
abbrev BZ:=(aUw×Bool×NI×Int×Int)
def XY {ρ:Type}(x:BZ)(K:AX->St->Option ρ):Option ρ:=(λd=>K (.ex 0) (as4.em (d.1,d.2.1,(d.1.2.1.1,d.b.1),d.b.2))) x
def B3 (aw:bM)(cT:ou)(yp:si)(d:pJ.B):PL pJ BZ:=let y0:=decide (d.1.2.2.2.2<d.1.2.2.2.1);ae y0 (ae (bg d.1.2.2.2.2 d.1.2.1.1) (opt (aw (d.2.2.1 (ws d.1.2.2.2.2)) d.2.1) λaj=>ae (bg d.1.2.2.2.2 d.1.2.2.1.1) (opt (aw (d.2.2.1 (ws d.1.2.2.2.2)) aj.2) λaC=>opt (cT aj.1 aC.1) λbx=>opt (yp 2 (λj=>bif ww j 1 then bx.1 else bif ww j 0 then d.2.2.2.1 else d.2.2.2.1) (λj=>bif ww j 1 then bx.2 else bif ww j 0 then d.2.2.2.2 else d.2.2.2.2) true) λcH=>ret (wr ((d.1.1,d.1.2.1,d.1.2.2.1,d.1.2.2.2.1,wI (d.1.2.2.2.2+1)),aC.2,d.2.2.1,cH.1))) no) no) (ret (wn ((d.1.1,d.1.2.1,d.1.2.2.1,d.1.2.2.2.1,d.1.2.2.2.2,y0),d.2)))
def JK:=bw (B3 aS fQ kF) 2000
def OZ (ji:xQ)(eB:LT pJ BZ)(x0:Int)(x1:Nat)(x2:Nat)(x3:Bool)(x4:Nat->Int)(w0:Bool)(w1:Bool):Pg aee:=let y0:=if wl x2<wl x1 then wl x2 else wl x1;ae (decide (x0<0)) (opt (ji 0 0 x0 x3) λd=>ret d) (ae (decide (x0>120)) (opt (ji 0 0 x0 x3) λd=>ret d) (ae (ww x1 x1) (opt (eB ((x0,(x1,w0),(x2,w1),if 100<y0 then 100 else y0,0),x3,x4,0,0)) λd=>opt (ji d.2.2.2.1 d.2.2.2.2 d.1.1 d.2.1) λd=>ret d) no))
def vM:=λx0 x1 x2 x3 x4 w0 w1=>(OZ nT JK x0 x1 x2 x3 x4 w0 w1).val
abbrev F4:=xQ×bM×ou×si×(LT pJ BZ)
def O0 (p:F4):KK:=⟨[Ie p.1,dD p.2.1,yf p.b.1,Kp p.b.2.1],⟨[⟨5,(rg 4 5 (rg 10 15 (rg 27 26 []))),[]⟩],[fY 5 2 pJ XY p.c],[0],[],(some ⟨0,(rg 0 8 (rg 9 44 [])),[]⟩)⟩,2,73⟩
theorem aoW (p:F4):LI (O0 p) 5 pJ XY (B3 p.2.1 p.b.1 p.b.2.1):=λ_ d c K=>by kernel_rfl
theorem ayh (p:F4):D2 (O0 p) aed (lf ML) λb=>OZ p.1 p.c b.1.1 b.1.2.1.1 b.1.b.1 b.2.1 b.b b.1.2.1.2 b.1.b.2:=λb=>by kernel_rfl
abbrev O1:F4:=(nT,aS,fQ,kF,JK)
theorem ayi [ax]:SC (aeg vM):=sc (Sound.nil 3 [.i .i64]<|Sound.nil 2 [.i .i64]<|kS (k:=O0 O1) (.c Sf (.c dI (.c Bk (.c QC (.nil _))))) [5] [] ⟨kL (aoW O1),trivial⟩ trivial (ayh O1))
def XZ:=qa (pr (cu aO (c lW Eu)) bB)
def G0:=qe aC4
abbrev X0:=G0.B
abbrev X1:=NI->Int->Int->Int->Bool->Option X0
def X2 (g:X1):Ct:=(234,FC XZ (lf G0) (λb=>g b.1.1 b.1.2.1 b.1.b.1 b.1.b.2 b.2))
def JL (bE:mG)(F5:aef)(rC:abn)(aV:dk)(dw:yo)(aD:cK)(x0:Nat->Int)(x1:Int)(x2:Int)(x3:Int)(x4:Bool):Pg X0:=opt (bE x0 16) λd=>opt (F5 30 2 2 x4 (cr d.1 [d.2.1,d.1]) false false) λaj=>ae (decide (aj.1<1048576)) (ret (((λx=>0,0,0,0),4),aj.2)) (opt (rC d.2.1 d.1 aj.2) λaC=>opt (aV x1 aC.1 aC.2) λbx=>opt (dw bx.1) λcH=>opt (aD d.2.1 aj.1 30 bx.2) λfx=>opt (aD d.1 aj.1 30 fx.2) λd=>ret (((λj=>bif ww j 17 then d.1 else bif ww j 16 then wI (0-fx.1) else 0,cH,x2,x3),0),d.2))
def wK:=λx0 x1 x2 x3 x4=>(JL eX vM zz bW ly bo x0 x1 x2 x3 x4).val
theorem as5:∀bE F5 rC aV dw aD,D0 [rA bE,aeg F5,abo rC,iG aV,BK dw,gO aD] 234 XZ (lf G0) λb=>JL bE F5 rC aV dw aD b.1.1 b.1.2.1 b.1.b.1 b.1.b.2 b.2:=λ_ _ _ _ _ _ b=>by kernel_rfl
theorem as6 [ax]:SC (X2 wK):=s0 (.c uY (.c ayi (.c aql (.c jz (.c FO (.c iF (.nil _))))))) (as5 eX vM zz bW ly bo)
def lD:=qa (pr (cl aP0 (cu aO (cu (app 1 10) nil))) (cu aPh (c Dz bB)))
def tO:=qe (res (pr (aa awX) (pl aPx nil)))
abbrev D8:=tO.B
abbrev oU:=lD.B->Option D8
def uv (g:oU):Ct:=(180,FC lD (lf tO) g)
def uw (dW:BP)(iQ:Bn)(fh:yA)(bn:iY)(x:lD.B):Pg D8:=let n2:=x.2.1;let n6:=n2.1.2;let n1:=x.1.2;let n5:=n1.1.2;let n4:=n1.2.2;let n3:=n1.2.1;opt (dW 2 x.2.2 (cr n3.1 [n2.2.1.1,n3.1]) (cr n3.2.1 [n2.2.1.2.1,n3.2.1]) (cr n3.2.2 [n2.2.1.2.2,n3.2.2]) true) λd=>opt (dW 2 d.2 (cr n4.1 [n2.2.2.1,n4.1]) (cr n4.2.1 [n2.2.2.2.1,n4.2.1]) (cr n4.2.2 [n2.2.2.2.2,n4.2.2]) true) λaj=>opt iQ λaC=>ae (!(n2.1.1==1073741824&&(n6.1==0&&(n6.2.1==0&&(n6.2.2==0&&true))))) (opt (fh n2.1.1 n6.1 n6.2.1 n6.2.2 n1.1.1 n5.1 n5.2.1 n5.2.2 aj.2) λbx=>opt (bn bx.1.1 bx.1.2.1 bx.1.2.2.1 bx.1.2.2.2 bx.2) λcH=>ret ((x.1.1,cH.1.1,cH.1.2.1,cH.1.2.2.1,cH.1.2.2.2,d.1.1,d.1.2.1,d.1.2.2,aj.1),cH.2)) (ret ((x.1.1,n1.1.1,n5.1,n5.2.1,n5.2.2,d.1.1,d.1.2.1,d.1.2.2,aj.1),aj.2))
def iJ:=λx=>(uw lp oy kP dy x).val
theorem UR:∀dW iQ fh bn,D0 [Ja dW,Ks iQ,ET fh,nV bn] 180 lD (lf tO) λb=>uw dW iQ fh bn b:=λ_ _ _ _ b=>by kernel_rfl
theorem D9 [ax]:SC (uv iJ):=s0 (.c Oj (.c QI (.c Kt (.c pz (.nil _))))) (UR lp oy kP dy)
def jK:=qa (pr (cl aP0 (cu aO (cu aMg (cu (app 2 1) (cu aj4 (cu (app 4 4) nil)))))) (cu (cu (gp 5 1) nil) (c mK (cu (cu (gp 6 3) nil) (c mK (c aeZ (c xi (cd aI9 λb6=>(cl (cl (gs b6.b jF) nil) nil)))))))))
def qQ:=qe (res (pr (aa awX) (pl (cu fK (cu fK (cu fK (cu fK (cu fK (cl atU aCN)))))) nil)))
abbrev Bo:=qQ.B
abbrev nk:=jK.B->Option Bo
def sC (g:nk):Ct:=(183,FC jK (lf qQ) g)
def sD (iZ:Uw)(dW:BP)(fh:yA)(bn:iY)(x:jK.B):Pg Bo:=let n3:=x.1.2.1;let n2:=x.2.2;let n1:=x.1.2.2;opt (iZ x.2.1.1 x.2.1.2.1 x.2.1.2.2 n2.2.2.2.1.2.1 n2.2.2.1) λd=>opt (dW 2 d.2 (cr n1.1.1 [d.1.1,n1.1.1]) (cr n1.1.2.1 [d.1.2.1,n1.1.2.1]) (cr n1.1.2.2 [d.1.2.2,n1.1.2.2]) true) λd=>opt (iZ n2.1.1 n2.1.2.1 n2.1.2.2 n2.2.2.2.1.2.1 d.2) λaj=>opt (dW 2 aj.2 (cr n1.2.1 [aj.1.1,n1.2.1]) (cr n1.2.2.1 [aj.1.2.1,n1.2.2.1]) (cr n1.2.2.2 [aj.1.2.2,n1.2.2.2]) true) λaC=>opt (fh n2.2.1.1 n2.2.1.2.1 n2.2.1.2.2.1 n2.2.1.2.2.2 n3.1 n3.2.1 n3.2.2.1 n3.2.2.2 aC.2) λbx=>opt (bn bx.1.1 bx.1.2.1 bx.1.2.2.1 bx.1.2.2.2 bx.2) λcH=>ret ((x.1.1,cH.1.1,cH.1.2.1,cH.1.2.2.1,cH.1.2.2.2,d.1.1,d.1.2.1,d.1.2.2,aC.1),cH.2)
def gK:=λx=>(sD uo lp kP dy x).val
theorem Q3:∀iZ dW fh bn,D0 [Ux iZ,Ja dW,ET fh,nV bn] 183 jK (lf qQ) λb=>sD iZ dW fh bn b:=λ_ _ _ _ b=>by kernel_rfl
theorem Bp [ax]:SC (sC gK):=s0 (.c af6 (.c Oj (.c Kt (.c pz (.nil _))))) (Q3 uo lp kP dy)
def lE:=qa (pu (cu Ke (cu Qu (cu aP3 nil))) (cd aI9 λb0=>(c xi (cu arS (c mK (cu aUO (c mK (c aeZ (cl (cl (gs b0.b jF) nil) nil)))))))))
def tP:=qe (res (pu Qs (pl (cu fK (c atU (cu fK (cu fK (cu fK aV9))))) nil)))
abbrev ux:=tP.B
abbrev uy:=lE.B->Option ux
def Ea (g:uy):Ct:=(179,FC lE (lf tP) g)
def dM:=qs (st (dp (cu Ke (cu Qu (cu aP3 (us 8 (c (ac (CB 7 11)) aPp))))) λv=>(pl (c (so aI9) (c cD (cu aaD (c zt (cu awP (c zt (c xo (cl (so (cl (gs v.1 jF) nil)) nil)))))))) (cu (nat 7) awK))))
def Q4:=qs (st (pr (cu Ke (cu Qu (cu aP3 (us 8 (c (ac (CB 7 11)) aPu))))) (pl (c (so aI9) (c cD (cu aaD (c zt (cu awP (c zt (c xo GD))))))) (cu (nat 7) awK))))
abbrev jL:=((Nat×Int×Int×Bool)×tf×Bool×lu×lu×aHt×NI×NI×NI×NI×NI×NI×NI×NI×NI×NI×NI)
def Bq {ρ:Type}(x:jL)(K:AX->St->Option ρ):Option ρ:=(λd=>K (.ex 0) (Q4.em (d.1,d.2.1,d.b.1,d.b.2.1,d.c.1,d.c.2.1,d.1.1,d.c.b))) x
def sE (vn:Dt)(j6:ur)(Q5:nk)(d:dM.B):PL dM jL:=let bf:=d.2.1;let n6:=d.1.2;let n5:=d.2.2.2;let n1:=n5.2.2.2;let n8:=n1.2.2;let n2:=n8.2.2.2;let n7:=n2.2.2.2;let y0:=ws n6.2;let y1:=decide (n6.2<n6.1);ae y1 (ae (bg n6.2 d.1.1) (ae (ww bf.2.2 bf.2.2) (opt (Q5 ((n1.1 y0,(n1.2.1 y0,n8.1 y0,n8.2.1 y0,n8.2.2.1 y0),(n2.1 y0,n2.2.1 y0,n2.2.2.1 y0),n7.1 y0,n7.2.1 y0,n7.2.2 y0),n5.1,n5.2.1,n5.2.2.1,d.2.2.1,bf,n1)) λaj=>let n3:=aj.1.2.2.2.2;let n9:=n3.2.2.2;opt (vn (λx=>0) aj.1.1 aj.1.2.1 aj.1.2.2.1 aj.1.2.2.2.1 n3.1 n3.2.1 n3.2.2.1 n9.1 n9.2.1 n9.2.2.1 n9.2.2.2) λaC=>opt (j6 aC (n1.1 y0) aj.2) λbx=>let n4:=bx.1.2.2.2.2;let aT:=n4.2.2.2;ae (bg n6.2 bf.2.2) (ae (true&&wd (0+y0*11+11) (d.1.1*11+0)) (ret (wr ((d.1.1,n6.1,wI (n6.2+1)),bf,bx.2,n5.1,n5.2.1,n5.2.2.1,λj=>bif ww j y0 then bx.1.1 else n1.1 j,λj=>bif ww j y0 then bx.1.2.1 else n1.2.1 j,λj=>bif ww j y0 then bx.1.2.2.1 else n8.1 j,λj=>bif ww j y0 then bx.1.2.2.2.1 else n8.2.1 j,λj=>bif ww j y0 then n4.1 else n8.2.2.1 j,λj=>bif ww j y0 then n4.2.1 else n2.1 j,λj=>bif ww j y0 then n4.2.2.1 else n2.2.1 j,λj=>bif ww j y0 then aT.1 else n2.2.2.1 j,λj=>bif ww j y0 then aT.2.1 else n7.1 j,λj=>bif ww j y0 then aT.2.2.1 else n7.2.1 j,λj=>bif ww j y0 then aT.2.2.2 else n7.2.2 j))) no) no) no) no) (ret (wn ((d.1.1,n6.1,n6.2,y1),d.2)))
def sF:=bw (sE rJ lC gK) 2000
def uA (eB:LT dM jL)(x:lE.B):Pg ux:=ae (ww x.1.2.2 x.1.2.2) (opt (eB ((x.1.2.2,wl x.1.2.2,0),x)) λd=>ret (d.2.2.1,d.1.1,d.2.2.2.2.2.2)) no
def lF:=λx=>(uA sF x).val
abbrev oV:=Dt×ur×nk×(LT dM jL)
def uB (p:oV):KK:=⟨[Qf p.1,F2 p.2.1,sC p.b.1],⟨[⟨1,(rg 3 8 (rg 14 20 [])),[]⟩],[fY 1 8 dM Bq p.b.2],[7,1],[],(some ⟨0,(rg 0 34 []),[]⟩)⟩,8,179⟩
theorem O2 (p:oV):LI (uB p) 1 dM Bq (sE p.1 p.2.1 p.b.1):=λ_ d c K=>by kernel_rfl
theorem US (p:oV):D2 (uB p) lE (lf tP) λb=>uA p.b.2 b:=λb=>by kernel_rfl
abbrev uC:oV:=(rJ,lC,gK,sF)
theorem UT [ax]:SC (Ea lF):=sc (kS (k:=uB uC) (.c acG (.c MH (.c Bp (.nil _)))) [1] [] ⟨kL (O2 uC),trivial⟩ trivial (US uC))
def lG:=qa (pu (cu Ke (cu Qu (cu aPK nil))) (cd aPy λb0=>(c xi (cu arS (c Dz (cl (cl (gs b0.b jF) nil) nil))))))
def tQ:=qe (res (pu Qs (pl (cu fK (c atU aV9)) nil)))
abbrev uD:=tQ.B
abbrev uF:=lG.B->Option uD
def Eb (g:uF):Ct:=(179,FC lG (lf tQ) g)
def dN:=qs (st (dp (cu Ke (cu Qu (cu aPK (us 8 (c (ac (CB 4 11)) aPp))))) λv=>(pl (c (so aPy) (c cD (cu aaD (c (so Dz) (cl (so (cl (gs v.1 jF) nil)) nil))))) (cu rq6 awK))))
def Q6:=qs (st (pr (cu Ke (cu Qu (cu aPK (us 8 (c (ac (CB 4 11)) aPu))))) (pl (c (so aPy) (c cD (cu aaD (c (so Dz) GD)))) (cu rq6 awK))))
abbrev jM:=((Nat×Int×Int×Bool)×tf×Bool×Dx×NI×NI×NI×NI×NI×NI×NI×NI×NI×NI×NI)
def Br {ρ:Type}(x:jM)(K:AX->St->Option ρ):Option ρ:=(λd=>K (.ex 0) (Q6.em (d.1,d.2.1,d.b.1,d.b.2.1,d.1.1,d.c))) x
def sG (vn:Dt)(j6:ur)(UU:oU)(d:dN.B):PL dN jM:=let n6:=d.1.2;let n4:=d.2.2.2.2;let n1:=n4.2.2.2;let n9:=n1.2.2;let n5:=n9.2.2;let y0:=ws n6.2;let y1:=decide (n6.2<n6.1);ae y1 (ae (bg n6.2 d.1.1) (opt (UU ((n4.1 y0,(n4.2.1 y0,n4.2.2.1 y0,n1.1 y0,n1.2.1 y0),(n9.1 y0,n9.2.1 y0,n5.1 y0),n5.2.1 y0,n5.2.2.1 y0,n5.2.2.2 y0),d.2.2.2.1,d.2.2.1)) λaj=>let n2:=aj.1.2.2.2.2;let n7:=n2.2.2.2;opt (vn (λx=>0) aj.1.1 aj.1.2.1 aj.1.2.2.1 aj.1.2.2.2.1 n2.1 n2.2.1 n2.2.2.1 n7.1 n7.2.1 n7.2.2.1 n7.2.2.2) λaC=>opt (j6 aC (n4.1 y0) aj.2) λbx=>let n3:=bx.1.2.2.2.2;let n8:=n3.2.2.2;ae (bg n6.2 d.2.1.2.2) (ae (true&&wd (0+y0*11+11) (d.1.1*11+0)) (ret (wr ((d.1.1,n6.1,wI (n6.2+1)),d.2.1,bx.2,d.2.2.2.1,λj=>bif ww j y0 then bx.1.1 else n4.1 j,λj=>bif ww j y0 then bx.1.2.1 else n4.2.1 j,λj=>bif ww j y0 then bx.1.2.2.1 else n4.2.2.1 j,λj=>bif ww j y0 then bx.1.2.2.2.1 else n1.1 j,λj=>bif ww j y0 then n3.1 else n1.2.1 j,λj=>bif ww j y0 then n3.2.1 else n9.1 j,λj=>bif ww j y0 then n3.2.2.1 else n9.2.1 j,λj=>bif ww j y0 then n8.1 else n5.1 j,λj=>bif ww j y0 then n8.2.1 else n5.2.1 j,λj=>bif ww j y0 then n8.2.2.1 else n5.2.2.1 j,λj=>bif ww j y0 then n8.2.2.2 else n5.2.2.2 j))) no) no) no) (ret (wn ((d.1.1,n6.1,n6.2,y1),d.2)))
def sH:=bw (sG rJ lC iJ) 2000
def uG (eB:LT dN jM)(x:lG.B):Pg uD:=ae (ww x.1.2.2 x.1.2.2) (opt (eB ((x.1.2.2,wl x.1.2.2,0),x)) λd=>ret (d.2.2.1,d.1.1,d.2.2.2.2)) no
def lH:=λx=>(uG sH x).val
abbrev oW:=Dt×ur×oU×(LT dN jM)
def uH (p:oW):KK:=⟨[Qf p.1,F2 p.2.1,uv p.b.1],⟨[⟨1,(rg 3 8 (rg 14 20 [])),[]⟩],[fY 1 5 dN Br p.b.2],[4,1],[],(some ⟨0,(rg 0 34 []),[]⟩)⟩,5,179⟩
theorem O3 (p:oW):LI (uH p) 1 dN Br (sG p.1 p.2.1 p.b.1):=λ_ d c K=>by kernel_rfl
theorem UW (p:oW):D2 (uH p) lG (lf tQ) λb=>uG p.b.2 b:=λb=>by kernel_rfl
abbrev uJ:oW:=(rJ,lC,iJ,sH)
theorem UX [ax]:SC (Eb lH):=sc (kS (k:=uH uJ) (.c acG (.c MH (.c D9 (.nil _)))) [1] [] ⟨kL (O3 uJ),trivial⟩ trivial (UW uJ))
def mU:=qa (dp (cu Ke (cu Qu (cl aO7 nil))) λv=>(cd aI8 λb0=>(c xi (c (cl (gs v.1 mL) nil) (cl (cl (gs b0.b jF) nil) nil)))))
def wL:=qe (res (pu Qs (pl (cu fK (c atU (cu fK aP7))) nil)))
abbrev xD:=wL.B
abbrev xE:=mU.B->Option xD
def Gm (g:xE):Ct:=(112,uV 2 [.i .i64,.i .i64,.i .i64,.i .i64,.i .i64,.i .i64,.i .i64,.i .i64,.i .i64,.i .i64] (FC mU (lf wL) g))
def eo:=qs (st (dp (cu Ke (us 3 (cu aCL (us 3 (c aO7 (c ai aPi)))))) λv=>(pl (cd (so aI8) λb0=>(c cD (c (so (cl (gs v.1.1 mL) nil)) (cl (so (cl (gs b0.b jF) nil)) (cu aaD nil))))) (cu rq7 awK))))
def UY:=qs (st (pr (cu Ke (us 3 (cu aCL (us 3 (c aO7 (c ai aI1)))))) (pl (c (so aI8) (c cD (c uj (cl aki (cu aaD nil))))) (cu rq7 awK))))
abbrev lI:=(aL7×tf×Bool×aL6×NI×NI×NI×NI×NI×NI×NI×NI×NI×NI×NI)
def Ec {ρ:Type}(x:lI)(K:AX->St->Option ρ):Option ρ:=(λd=>K (.ex 0) (UY.em (d.1,d.2.1,d.b.1,(d.1.1.1,d.b.2.1),d.2.1.b,d.c))) x
def uK (UZ:uF)(d:eo.B):PL eo lI:=let aT:=d.2.1;let n6:=d.1.2;let n1:=d.2.2.2;let n4:=n1.1.2.2.2.2;let n3:=n1.2.2.2.2.2;let n9:=n3.2.2.2;let y0:=ws n6.2;let y1:=aT.2.2*11;let y2:=decide (n6.2<n6.1);ae y2 (ae (bg n6.2 d.1.1.1) (ae (ww aT.2.2 aT.2.2) (opt (UZ (aT,d.2.2.1,((n1.1.1 y0,n1.1.2.1 y0,n1.1.2.2.1 y0,n1.1.2.2.2.1 y0),(n4.1 y0,n4.2.1 y0,n4.2.2.1 y0),n4.2.2.2.1 y0,n4.2.2.2.2.1 y0,n4.2.2.2.2.2 y0),n1.2)) λaj=>let n7:=aj.2.2.2;let n5:=aj.2.1;let n2:=n7.2.2.2;let n8:=n2.2.2.2;let y0:=n5*11+0;ae (true&&ww y0 y1&&true) (ae (true&&wd (0+y0) (y1+0)) (ret (wr ((d.1.1,n6.1,wI (n6.2+1)),aT,aj.1,n1.1,λj=>bif true&&v6 j (0+n5) then aj.2.2.1 j else n1.2.1 j,λj=>bif true&&v6 j (0+n5) then n7.1 j else n1.2.2.1 j,λj=>bif true&&v6 j (0+n5) then n7.2.1 j else n1.2.2.2.1 j,λj=>bif true&&v6 j (0+n5) then n7.2.2.1 j else n1.2.2.2.2.1 j,λj=>bif true&&v6 j (0+n5) then n2.1 j else n3.1 j,λj=>bif true&&v6 j (0+n5) then n2.2.1 j else n3.2.1 j,λj=>bif true&&v6 j (0+n5) then n2.2.2.1 j else n3.2.2.1 j,λj=>bif true&&v6 j (0+n5) then n8.1 j else n9.1 j,λj=>bif true&&v6 j (0+n5) then n8.2.1 j else n9.2.1 j,λj=>bif true&&v6 j (0+n5) then n8.2.2.1 j else n9.2.2.1 j,λj=>bif true&&v6 j (0+n5) then n8.2.2.2 j else n9.2.2.2 j))) no) no) no) no) (ret (wn ((d.1.1,n6.1,n6.2,y2),d.2)))
def uL:=bw (uK lH) 2000
def xF (eB:LT eo lI)(x:mU.B):Pg xD:=ae (ww x.1.1 x.1.1) (ae (ww x.2.1.2.2 x.2.1.2.2) (opt (eB ((x.1,wl x.1.1,0),x.2)) λd=>ret (d.2.2.1,d.2.1.2.2,d.2.2.2.2)) no) no
def mV:=λx=>(xF uL x).val
abbrev qf:=oU×uF×(LT eo lI)
def xG (p:qf):KK:=⟨[uv p.1,Eb p.2.1],⟨[⟨2,(1::2::3::5::6::7::rg 11 8 []),[]⟩],[fY 2 4 eo Ec p.b],[3,1],[],(some ⟨0,(rg 0 19 []),[]⟩)⟩,4,112⟩
theorem Tv (p:qf):LI (xG p) 2 eo Ec (uK p.2.1):=λ_ d c K=>by kernel_rfl
theorem YS (p:qf):D2 (xG p) mU (lf wL) λb=>xF p.b b:=λb=>by kernel_rfl
abbrev xH:qf:=(iJ,lH,uL)
theorem YT [ax]:SC (Gm mV):=sc (Sound.nil 2 [.i .i64,.i .i64,.i .i64,.i .i64,.i .i64,.i .i64,.i .i64,.i .i64,.i .i64,.i .i64]<|kS (k:=xG xH) (.c D9 (.c UX (.nil _))) [2] [] ⟨kL (Tv xH),trivial⟩ trivial (YS xH))
def X3:=qa (pl iL nil)
def G3:=qe Et
abbrev X4:=G3.B
abbrev X5:=Int->Option X4
def X6 (g:X5):Ct:=(204,FC X3 (lf G3) (λb=>g b))
def JM (x0:Int):Pg X4:=ret (x0 !=x0)
def wM:=λx0=>(JM x0).val
theorem as7:D0 [] 204 X3 (lf G3) λb=>JM b:=λb=>by kernel_rfl
theorem as8 [ax]:SC (X6 wM):=s0 (.nil _) as7
def Q7:=qa (pl zq nil)
def DL:=qe Gy
abbrev Q8:=DL.B
abbrev yT:=Int->Int->Option Q8
def Fg (g:yT):Ct:=(143,FC Q7 (lf DL) (λb=>g b.1 b.2))
def Fh (wN:X5)(x0:Int)(x1:Int):Pg Q8:=opt (wN x0) λd=>opt (wN x1) λaj=>ae d (ae aj (ret 0) (ret (-1))) (ae aj (ret 1) (ae (decide (x0<x1)) (ret (-1)) (ae (decide (x0>x1)) (ret 1) (ret 0))))
def mq:=λx0 x1=>(Fh wM x0 x1).val
theorem anu:∀wN,D0 [X6 wN] 143 Q7 (lf DL) λb=>Fh wN b.1 b.2:=λ_ b=>by kernel_rfl
theorem Q9 [ax]:SC (Fg mq):=s0 (.c as8 (.nil _)) (anu wM)
def Bs:=qa (dp (c IJ awN) λv=>(c (cl (gs v.1.1 ot) nil) (cl (cl (gs v.2.1 ot) nil) nil)))
def qR:=qe aVf
abbrev Bt:=qR.B
abbrev Bu:=Nat->Nat->NI->NI->Bool->Bool->Option Bt
def Bv (g:Bu):Ct:=(144,uV 1 [.i .i64] (uV 0 [.i .i64] (FC Bs (lf qR) (λb=>g b.1.1.1 b.1.2.1 b.2.1 b.b b.1.1.2 b.1.b))))
def dz:=qs (st (dp (c IJ (c Hl (us 7 (c IJ (c ai aIV))))) λv=>(pl (c (so (cl (gs v.1.1 ot) nil)) (cl (so (cl (gs v.2.1.1 ot) nil)) nil)) nil)))
def xm:=qs (st (pr (us 4 aUP) (pl (c IM ake) nil)))
def KQ:=qs (st (pr (c IJ (c Hl (us 7 (c IJ (c ai aI3))))) (pl (c IM ake) nil)))
abbrev iN:=xm.B⊕(((Nat×Bool)×(Nat×Bool)×(Nat×Bool)×Int×Int×Bool)×NI×NI)
def Ag {ρ:Type}(x:iN)(K:AX->St->Option ρ):Option ρ:=(t8 (λd=>K .ret (xm.em d)) (λd=>K (.ex 0) (KQ.em (d.1,(d.1.1.1,d.2.1),d.1.2.1.1,d.b)))) x
def p6 (oK:yT)(d:dz.B):PL dz iN:=let n1:=d.1.2;let n2:=n1.2.2;let y0:=ws n2.2;let y1:=decide (n2.2<n2.1);ae y1 (ae (bg n2.2 n1.2.1.1) (ae (decide (n2.2>=wl n1.1.1)) (ret (wn (wr (1,(d.1.1.1,d.2.1),n1.1.1,d.2.2)))) (ae (bg n2.2 n1.1.1) (opt (oK (d.2.1 y0) (d.2.2 y0)) λaj=>ae (aj !=0) (ret (wn (wr (aj,(d.1.1.1,d.2.1),n1.1.1,d.2.2)))) (ret (wr ((d.1.1,n1.1,n1.2.1,n2.1,wI (n2.2+1)),d.2)))) no)) no) (ret (wn (wn ((d.1.1,n1.1,n1.2.1,n2.1,n2.2,y1),d.2))))
def p7:=bw (p6 mq) 2000
def sI (eB:LT dz iN)(x0:Nat)(x1:Nat)(x2:Nat->Int)(x3:Nat->Int)(w0:Bool)(w1:Bool):Pg Bt:=ae (ww x0 x0) (ae (ww x1 x1) (opt (eB (((x0,w0),(x1,w1),(x0,w0),wl x0,0),x2,x3)) λx=>sum x (λd=>ret d.1) λd=>ae (decide (wl d.1.1.1<wl d.1.2.1.1)) (ret (-1)) (ret 0)) no) no
def gL:=λx0 x1 x2 x3 w0 w1=>(sI p7 x0 x1 x2 x3 w0 w1).val
abbrev nm:=yT×(LT dz iN)
def sJ (p:nm):KK:=⟨[Fg p.1],⟨[⟨2,(rg 2 7 (rg 12 24 [])),[]⟩],[fY 2 2 dz Ag p.2],[],[],(some ⟨0,(rg 0 4 (rg 5 31 [])),[]⟩)⟩,2,144⟩
theorem MM (p:nm):LI (sJ p) 2 dz Ag (p6 p.1):=λ_ d c K=>by kernel_rfl
theorem Q' (p:nm):D2 (sJ p) Bs (lf qR) λb=>sI p.2 b.1.1.1 b.1.2.1 b.2.1 b.b b.1.1.2 b.1.b:=λb=>by kernel_rfl
abbrev sK:nm:=(mq,p7)
theorem Ra [ax]:SC (Bv gL):=sc (Sound.nil 1 [.i .i64]<|Sound.nil 0 [.i .i64]<|kS (k:=sJ sK) (.c Q9 (.nil _)) [2] [] ⟨kL (MM sK),trivial⟩ trivial (Q' sK))
def C':=qa (pl (c aJj Dy) nil)
def O4:=qe Gy
abbrev ai9:=O4.B
abbrev IA:=C'.B->Option ai9
def Tw (g:IA):Ct:=(96,FC C' (lf O4) g)
def Tx (oK:yT)(np:Bu)(x:C'.B):Pg ai9:=let n2:=x.2.2.2.2;let n1:=x.1.2.2.2;opt (oK x.1.1 x.2.1) λd=>ae (d !=0) (ret d) (opt (np 8 8 (cr x.1.2.1 [n1.2.2.2.2.2,n1.2.2.2.2.1,n1.2.2.2.1,n1.2.2.1,n1.2.1,n1.1,x.1.2.2.1,x.1.2.1]) (cr x.2.2.1 [n2.2.2.2.2.2,n2.2.2.2.2.1,n2.2.2.2.1,n2.2.2.1,n2.2.1,n2.1,x.2.2.2.1,x.2.2.1]) false false) λd=>ret d)
def tU:=λx=>(Tx mq gL x).val
theorem aB4:∀oK np,D0 [Fg oK,Bv np] 96 C' (lf O4) λb=>Tx oK np b:=λ_ _ b=>by kernel_rfl
theorem aja [ax]:SC (Tw tU):=s0 (.c Q9 (.c Ra (.nil _))) (aB4 mq gL)
def bU:=qa (dp (c aO8 (cl aJj (cu aPk nil))) λv=>(cl (cl (gs v.1.1 aA) nil) nil))
def eA:=qe (res (pl aPr (pu Y2 nil)))
abbrev eH:=eA.B
abbrev iS:=bU.B->Option eH
def iT (g:iS):Ct:=(95,uV 0 [.i .i64,.i .i64,.i .i64,.i .i64,.i .i64,.i .i64,.i .i64,.i .i64,.i .i64] (FC bU (lf eA) g))
def aX:=qs (st (dp (c aO8 (us 1 (cu aPk (us 1 (cu aHy (us 3 (c ai (c ai (cl ai (us 29 aUQ)))))))))) λv=>(pl (c (so (cl (gs v.1.1 aA) nil)) aVR) nil)))
def pL:=qs (st (pr (c aO8 (us 1 (cu aPk (us 1 (cu aHy (us 3 (c ai (c ai (c ai (us 4 (c ai (c ai (cl ab (us 22 aUQ)))))))))))))) (pl (c GC aVR) nil)))
abbrev bR:=(((Nat×Bool)×Int×Int×Int×Bool)×dg×Int×Int×Int×Int×Int×Int×Int×Int×Int)
def iB {ρ:Type}(x:bR)(K:AX->St->Option ρ):Option ρ:=(λd=>K (.ex 0) (pL.em ((d.1.1,d.1.2.1,d.1.b.1,d.1.b.2.1,d.1.b),(d.1.1.1,d.2.1),d.b))) x
def ee (Da:IA)(d:aX.B):PL aX bR:=let n2:=d.1.2.2;let n1:=d.2.1.2.2.2;let y0:=wI (Int.fdiv (wU (wI (n2.1+n2.2))) 2);let y1:=ws y0;let y2:=decide (n2.1<n2.2);ae y2 (ae (bg y0 d.1.1.1) (opt (Da ((d.2.1.1 y1,d.2.1.2.1 y1,d.2.1.2.2.1 y1,n1.1 y1,n1.2.1 y1,n1.2.2.1 y1,n1.2.2.2.1 y1,n1.2.2.2.2.1 y1,n1.2.2.2.2.2 y1),d.2.2)) λaj=>ae (decide (aj<0)) (ret (wr ((d.1.1,d.1.2.1,wI (y0+1),n2.2),d.2))) (ret (wr ((d.1.1,d.1.2.1,n2.1,y0),d.2)))) no) (ret (wn ((d.1.1,d.1.2.1,n2.1,n2.2,y2),d.2)))
def ei:=bw (ee tU) 2000
def eI (Da:IA)(eB:LT aX bR)(x:bU.B):Pg eH:=let y0:=wl x.1.1.1;ae (ww x.1.1.1 x.1.1.1) (opt (eB ((x.1.1,y0,0,y0),x.2,x.1.2)) λd=>let n2:=d.1.2.2.1;let n1:=d.2.1.2.2.2;let y0:=ws n2;ae (decide (n2<d.1.2.1)) (ae (bg n2 d.1.1.1) (opt (Da ((d.2.1.1 y0,d.2.1.2.1 y0,d.2.1.2.2.1 y0,n1.1 y0,n1.2.1 y0,n1.2.2.1 y0,n1.2.2.2.1 y0,n1.2.2.2.2.1 y0,n1.2.2.2.2.2 y0),d.2.2)) λaj=>ret (n2,aj==0)) no) (ret (n2,false))) no
def bV:=λx=>(eI tU ei x).val
abbrev c9:=IA×(LT aX bR)
def eJ (p:c9):KK:=⟨[Tw p.1],⟨[⟨3,(1::3::5::6::7::rg 11 29 [48]),[]⟩],[fY 3 1 aX iB p.2],[],[],(some ⟨0,(rg 0 6 (rg 8 41 [])),[]⟩)⟩,1,95⟩
theorem pC (p:c9):LI (eJ p) 3 aX iB (ee p.1):=λ_ d c K=>by kernel_rfl
theorem qx (p:c9):D2 (eJ p) bU (lf eA) λb=>eI p.1 p.2 b:=λb=>by kernel_rfl
abbrev eK:c9:=(tU,ei)
theorem qy [ax]:SC (iT bV):=sc (Sound.nil 0 [.i .i64,.i .i64,.i .i64,.i .i64,.i .i64,.i .i64,.i .i64,.i .i64,.i .i64]<|kS (k:=eJ eK) (.c aja (.nil _)) [3] [] ⟨kL (pC eK),trivial⟩ trivial (qx eK))
def qS:=qa (pr (cu Y6 Dy) (cd akf λb0=>(cl (cl (gs b0.b.1 aA) nil) nil)))
def Nx:=qe (res (pu mJ (pl (cl (zp akf) Y2) nil)))
def ajI:=qe (res (pr ab (pr (cl (zp (a 5 ln (c gi (c (gc (CB 2 9)) nx)))) aMh) (cl aaI nil))))
abbrev wO:=Nx.B⊕(Bool×bK×NI×NI×NI×NI×NI×NI×NI×NI×NI)
def X7:wO->T:=ls (lf Nx) (λd=>lf ajI (d.1,d.2.1,d.2.1.b.1,d.b))
abbrev JN:=qS.B->Option wO
def X8 (g:JN):Ct:=(58,FC qS X7 g)
def B4 (db:iS)(il:rY)(cV:ia)(x:qS.B):Pg wO:=let bf:=x.2.2;let n5:=x.1.2;let n4:=bf.2.2.2;let n3:=x.2.1;let n9:=n3.1.2;let n7:=n3.2.2;let n1:=n5.2.2.2;let n6:=n1.2.2;let y0:=wI (n3.1.1+1);let y1:=ww n7.1 n7.1;ae (decide (x.1.1<=n7.2)) (ret (wr ((y0,wI (n9.1+1),n9.2),n3.2))) (ae y1 (opt (db (((n7.1,true),x.1),bf)) λd=>ae y1 (opt (il n7.1 d.1 bf.1 bf.2.1 bf.2.2.1 n4.1 n4.2.1 n4.2.2.1 n4.2.2.2.1 n4.2.2.2.2.1 n4.2.2.2.2.2 (λj=>bif ww j 0 then x.1.1 else x.1.1) (λj=>bif ww j 0 then n5.1 else n5.1) (λj=>bif ww j 0 then n5.2.1 else n5.2.1) (λj=>bif ww j 0 then n5.2.2.1 else n5.2.2.1) (λj=>bif ww j 0 then n1.1 else n1.1) (λj=>bif ww j 0 then n1.2.1 else n1.2.1) (λj=>bif ww j 0 then n6.1 else n6.1) (λj=>bif ww j 0 then n6.2.1 else n6.2.1) (λj=>bif ww j 0 then n6.2.2 else n6.2.2) 1 true true) λd=>let n8:=d.2.2;let n2:=n8.2.2.2;let aT:=n2.2.2;ae (decide (wl d.1<=n3.2.1)) (ret (wn (true,((y0,n9),n3.2.1,d.1,n7.2),d.2))) (ae (bg 0 d.1) (ae (ww d.1 d.1) (opt (cV d.1 0 1 d.2.1 n8.1 n8.2.1 n8.2.2.1 n2.1 n2.2.1 aT.1 aT.2.1 aT.2.2 true) λaj=>ret (wn (!(d.2.1 0==x.1.1&&(n8.1 0==n5.1&&(n8.2.1 0==n5.2.1&&(n8.2.2.1 0==n5.2.2.1&&(n2.1 0==n1.1&&(n2.2.1 0==n1.2.1&&(aT.1 0==n6.1&&(aT.2.1 0==n6.2.1&&(aT.2.2 0==n6.2.2&&true)))))))&&true)),((y0,n9.1,wI (n9.2.1+1),n9.2.2),n3.2.1,aj.1,n7.2),aj.2))) no) no)) no) no)
def oi:=λx=>(B4 bV cS bP x).val
theorem as9:∀db Da il cV,D0 [iT db,Tw Da,rZ il,ma cV] 58 qS X7 λb=>B4 db il cV b:=λ_ _ _ _ b=>by kernel_rfl
theorem ata [ax]:SC (X8 oi):=s0 (.c qy (.c aja (.c EI (.c se (.nil _))))) (as9 bV tU cS bP)
def om:=qa (pr (cu Y6 iL) (cd akf λb0=>(cl (cl (gs b0.b.1 aA) nil) nil)))
def aoX:=qe (res (pr (ac (CB 2 9)) (pr (cl (zp (a 5 ln (c gi (c (gc (CB 3 9)) nx)))) aMh) (c aaI (cl aaI nil)))))
abbrev wP:=(Nat×bK×dg×NI×NI×NI×NI×NI×NI×NI×NI×NI)
def X9:wP->T:=λd=>lf aoX (d.1,d.2.1,(d.1,d.b.1),d.2.1.b.1,d.b.2)
abbrev JO:=om.B->Option wP
def X' (g:JO):Ct:=(108,FC om X9 g)
def gI:=qs (st (pr (cu Y6 (c ai (us 3 (cl ai (us 58 nil))))) (pl (cd (so akf) λb0=>(cl (so (cl (gs b0.b.1 aA) nil)) nil)) nil)))
def ahd:=qs (st (pr (cu Y6 (c ai (us 3 (c ai (us 1 (c ai (cu Y6 (cu Y6 (cu aPD (c aO9 (c ai (c ab (cu Gz (cu Y6 (cu Y6 (cu aPD (c aO9 (c ai (c (ac (Hm (pu Ar (pl aVe gZ)))) (c (ac (Hm (pu Ar (pl aVe Ar)))) (c ai (c ai (c ab aUN))))))))))))))))))))))) (pl (c (so akf) (cl GC nil)) nil)))
def ahe:=qs (st (pr (cu Y6 (c ai (us 3 (c ai (us 1 (c ai (cu Y6 (cu Y6 (cu aPD (c aO9 (c ai (cl ab (cu mJ (xs 10 (cu mJ (us 38 nil)))))))))))))))) (pl (c (so akf) (cl GC nil)) nil)))
abbrev oL:=((Int×Int×Nat×Int×Bool×Nat×Int×Bool)×((Int×Int×Int×Int×Int)×Int×Int)×NI×NI×NI×NI×NI×NI×NI×NI×NI)⊕((Int×Int×Nat×Int×Bool)×((Int×Int×Int×Int×Int)×Int×Int)×NI×NI×NI×NI×NI×NI×NI×NI×NI)
def Rc {ρ:Type}(x:oL)(K:AX->St->Option ρ):Option ρ:=(t8 (λd=>K (.ex 0) (ahd.em ((d.1.1,d.1.2.1,d.1.2.1,d.1.b.1,d.1.b.2.1,d.1.c.1,d.1.b.1,d.1.2.1,d.1.c.2.1,d.1.c.2.1,d.1.c.b.1,d.1.1,d.1.c.b.2,d.1.c.b.2),(d.2.1.1,d.2.1.2.1,d.1.b.1,d.2.1.b),d.1.b.1,d.b))) (λd=>K (.ex 0) (ahe.em ((d.1.1,d.1.2.1,d.1.2),(d.2.1.1,d.2.1.2.1,d.1.b.1,d.2.1.b),d.1.b.1,d.b)))) x
def yU (d:gI.B):PL gI oL:=let n3:=d.1.2;let n2:=d.2.1.2.2;let n1:=(d.2.1.1,d.2.1.2.1,n2.2);let y0:=ws n3;let y1:=wl n2.1;let y2:=decide (n3<y1);let y3:=decide (d.2.2.1 y0<=d.1.1);ae y2 (ae (bg n3 n2.1) (ae y3 (ret (wr ((d.1.1,wI (n3+1)),d.2))) (ret (wn (wr ((d.1.1,n3,n2.1,y1,y2,y0,d.2.2.1 y0,y3),n1,d.2.2))))) no) (ret (wn (wn ((d.1.1,n3,n2.1,y1,y2),n1,d.2.2))))
def yV:=bw (yU) 2000
def B5 (tx:mN)(cV:ia)(eB:LT gI oL)(x:om.B):Pg wP:=ae (ww x.2.1.2.2.1 x.2.1.2.2.1) (opt (eB ((x.1,0),x.2)) λx=>sum x (λd=>let n9:=d.2.2;let n6:=d.2.1;let n5:=d.1.2;let n1:=n9.2.2.2;let n3:=n1.2.2.2;let y0:=ws n5.1;ae (Kg n5.1 n5.2.1) (ae (ww y0 y0) (opt (tx y0 n9.1 n9.2.1 n9.2.2.1 n1.1 n1.2.1 n1.2.2.1 n3.1 n3.2.1 n3.2.2 false) λaj=>ae (ww n5.2.1 n5.2.1) (opt (cV n5.2.1 0 n5.1 n9.1 n9.2.1 n9.2.2.1 n1.1 n1.2.1 n1.2.2.1 n3.1 n3.2.1 n3.2.2 true) λaC=>ret (aj.1,((n6.1.1,n6.1.2.1,n6.1.2.2.1,n6.1.2.2.2.1,wI (n6.1.2.2.2.2+n5.1)),n6.2.1,aC.1,if d.1.1>n6.2.2 then d.1.1 else n6.2.2),aj.2,aC.2)) no) no) no) λd=>let aT:=d.2.2;let n8:=d.2.1;let n7:=d.1.2;let n2:=aT.2.2.2;let n4:=n2.2.2.2;let y0:=ws n7.1;ae (Kg n7.1 n7.2.1) (ae (ww y0 y0) (opt (tx y0 aT.1 aT.2.1 aT.2.2.1 n2.1 n2.2.1 n2.2.2.1 n4.1 n4.2.1 n4.2.2 false) λaj=>ae (ww n7.2.1 n7.2.1) (opt (cV n7.2.1 0 n7.1 aT.1 aT.2.1 aT.2.2.1 n2.1 n2.2.1 n2.2.2.1 n4.1 n4.2.1 n4.2.2 true) λaC=>ret (aj.1,((n8.1.1,n8.1.2.1,n8.1.2.2.1,n8.1.2.2.2.1,wI (n8.1.2.2.2.2+n7.1)),n8.2.1,aC.1,if d.1.1>n8.2.2 then d.1.1 else n8.2.2),aj.2,aC.2)) no) no) no) no
def j7:=λx=>(B5 fC bP yV x).val
abbrev B6:=mN×ia×(LT gI oL)
def JP (p:B6):KK:=⟨[tt p.1,ma p.2.1],⟨[⟨2,(2::3::4::rg 6 9 (rg 25 39 (rg 15 10 []))),[]⟩],[fY 2 2 gI Rc p.b],[],[],(some ⟨0,(rg 0 4 (rg 5 59 [])),[]⟩)⟩,2,108⟩
theorem ajJ (p:B6):LI (JP p) 2 gI Rc (yU):=λ_ d c K=>by kernel_rfl
theorem atb (p:B6):D2 (JP p) om X9 λb=>B5 p.1 p.2.1 p.b b:=λb=>by kernel_rfl
abbrev JQ:B6:=(fC,bP,yV)
theorem atc [ax]:SC (X' j7):=sc (kS (k:=JP JQ) (.c FJ (.c se (.nil _))) [2] [] ⟨kL (ajJ JQ),trivial⟩ trivial (atb JQ))
def MN:=qa (pr (cl (aa aJg) (cu aO (cu Qu (cu (app 2 1) nil)))) (cu (cu (gc (ccl (pu (nat 194) (pu rq7 (pu vT Ar))))) nil) (c nx (c nx (cu (cu (gp 4 1) nil) bB)))))
def A3:=qe (res (pr ai (pl (cu fK (cu fK aPx)) nil)))
abbrev MO:=A3.B
abbrev MP:=Int->Int->Int->Int->Int->Int->Int->Int->Int->Bool->Option MO
def MQ (g:MP):Ct:=(195,FC MN (lf A3) (λb=>g b.1.1 b.1.2.1 b.1.b.1 b.1.b.2.1 b.1.c.1 b.1.c.2.1 b.1.c.b b.2.1 b.b.1 b.b.2))
def B7 (ao:BG)(x0:Int)(x1:Int)(x2:Int)(x3:Int)(x4:Int)(x5:Int)(x6:Int)(x7:Int)(x8:Int)(x9:Bool):Pg MO:=let y0:=wI (x7+1);let y1:=wI (x0*1073741824);let y2:=wI (x5*1073741824);let y3:=wI (x4*1073741824);let y4:=wI (x6*1073741824);let y5:=wI (x2*1073741824);let y6:=wI (x1*1073741824);let y7:=wI (x3*1073741824);let y8:=bg y0 7;let y9:=y0==1;let zW:=y0==4;let uM:=y0==6;let B8:=y0==2;let B9:=y0==3;let xI:=y0==5;ae (bg x7 7) (ae (x7==6) (ae y8 (ae uM (opt (ao y4 y4 x8 600000000 x9) λd=>ret d) (ae xI (opt (ao y4 y2 x8 600000000 x9) λd=>ret d) (ae zW (opt (ao y4 y3 x8 600000000 x9) λd=>ret d) (ae B9 (opt (ao y4 y7 x8 600000000 x9) λd=>ret d) (ae B8 (opt (ao y4 y5 x8 600000000 x9) λd=>ret d) (ae y9 (opt (ao y4 y6 x8 600000000 x9) λd=>ret d) (opt (ao y4 y1 x8 600000000 x9) λd=>ret d))))))) no) (ae (x7==5) (ae y8 (ae uM (opt (ao y2 y4 x8 600000000 x9) λd=>ret d) (ae xI (opt (ao y2 y2 x8 600000000 x9) λd=>ret d) (ae zW (opt (ao y2 y3 x8 600000000 x9) λd=>ret d) (ae B9 (opt (ao y2 y7 x8 600000000 x9) λd=>ret d) (ae B8 (opt (ao y2 y5 x8 600000000 x9) λd=>ret d) (ae y9 (opt (ao y2 y6 x8 600000000 x9) λd=>ret d) (opt (ao y2 y1 x8 600000000 x9) λd=>ret d))))))) no) (ae (x7==4) (ae y8 (ae uM (opt (ao y3 y4 x8 600000000 x9) λd=>ret d) (ae xI (opt (ao y3 y2 x8 600000000 x9) λd=>ret d) (ae zW (opt (ao y3 y3 x8 600000000 x9) λd=>ret d) (ae B9 (opt (ao y3 y7 x8 600000000 x9) λd=>ret d) (ae B8 (opt (ao y3 y5 x8 600000000 x9) λd=>ret d) (ae y9 (opt (ao y3 y6 x8 600000000 x9) λd=>ret d) (opt (ao y3 y1 x8 600000000 x9) λd=>ret d))))))) no) (ae (x7==3) (ae y8 (ae uM (opt (ao y7 y4 x8 600000000 x9) λd=>ret d) (ae xI (opt (ao y7 y2 x8 600000000 x9) λd=>ret d) (ae zW (opt (ao y7 y3 x8 600000000 x9) λd=>ret d) (ae B9 (opt (ao y7 y7 x8 600000000 x9) λd=>ret d) (ae B8 (opt (ao y7 y5 x8 600000000 x9) λd=>ret d) (ae y9 (opt (ao y7 y6 x8 600000000 x9) λd=>ret d) (opt (ao y7 y1 x8 600000000 x9) λd=>ret d))))))) no) (ae (x7==2) (ae y8 (ae uM (opt (ao y5 y4 x8 600000000 x9) λd=>ret d) (ae xI (opt (ao y5 y2 x8 600000000 x9) λd=>ret d) (ae zW (opt (ao y5 y3 x8 600000000 x9) λd=>ret d) (ae B9 (opt (ao y5 y7 x8 600000000 x9) λd=>ret d) (ae B8 (opt (ao y5 y5 x8 600000000 x9) λd=>ret d) (ae y9 (opt (ao y5 y6 x8 600000000 x9) λd=>ret d) (opt (ao y5 y1 x8 600000000 x9) λd=>ret d))))))) no) (ae (x7==1) (ae y8 (ae uM (opt (ao y6 y4 x8 600000000 x9) λd=>ret d) (ae xI (opt (ao y6 y2 x8 600000000 x9) λd=>ret d) (ae zW (opt (ao y6 y3 x8 600000000 x9) λd=>ret d) (ae B9 (opt (ao y6 y7 x8 600000000 x9) λd=>ret d) (ae B8 (opt (ao y6 y5 x8 600000000 x9) λd=>ret d) (ae y9 (opt (ao y6 y6 x8 600000000 x9) λd=>ret d) (opt (ao y6 y1 x8 600000000 x9) λd=>ret d))))))) no) (ae y8 (ae uM (opt (ao y1 y4 x8 600000000 x9) λd=>ret d) (ae xI (opt (ao y1 y2 x8 600000000 x9) λd=>ret d) (ae zW (opt (ao y1 y3 x8 600000000 x9) λd=>ret d) (ae B9 (opt (ao y1 y7 x8 600000000 x9) λd=>ret d) (ae B8 (opt (ao y1 y5 x8 600000000 x9) λd=>ret d) (ae y9 (opt (ao y1 y6 x8 600000000 x9) λd=>ret d) (opt (ao y1 y1 x8 600000000 x9) λd=>ret d))))))) no))))))) no
def pD:=λx0 x1 x2 x3 x4 x5 x6 x7 x8 x9=>(B7 j4 x0 x1 x2 x3 x4 x5 x6 x7 x8 x9).val
theorem ahf:∀ao,D0 [BH ao] 195 MN (lf A3) λb=>B7 ao b.1.1 b.1.2.1 b.1.b.1 b.1.b.2.1 b.1.c.1 b.1.c.2.1 b.1.c.b b.2.1 b.b.1 b.b.2:=λ_ b=>by kernel_rfl
theorem ahg [ax]:SC (MQ pD):=s0 (.c Lt (.nil _)) (ahf j4)
def T5:=qa (pu nil nil)
def Fi:=qe (res (pu (aa (cu aU3 (cu (gc (cf (fi .i64 (int 6000)))) (cu (gc (cf (fi .i64 (int (-2000))))) (cu (gc (cf (fi .i64 (int (-1500))))) (cu (gc (cf (fi .i64 (int (-6000))))) (cu (gc (cf (fi .i64 (int (-9000))))) (cu aU3 (cu aU4 (cu (gc (cf (fi .i64 (int 2500)))) (cu aI4 (cu (gc (cf (fi .i64 (int (-2200))))) (cu (gc (cf (fi .i64 (int (-3800))))) (cu aL (cu aU4 (cu aU5 (cu (gc (cf (fi .i64 (int 900)))) (cu (gc (cf (fi .i64 (int (-1400))))) (cu (gc (cf (fi .i64 (int (-500))))) (cu (gc (cf (fi .i64 (int (-300))))) (cu aU6 (cu aU5 (cu aI4 (cu (gc (cf (fi .i64 (int 1500)))) (cu (gc (cf (fi .i64 (int (-1700))))) (cu aU6 (cu (gc (cf (fi .i64 (int 700)))) (cu (gc (cf (fi .i64 (int (-800))))) (cu aI4 (cu aU7 (cu (gc (cf (fi .i64 (int 4000)))) (cu (gc (cf (fi .i64 (int (-3000))))) (cu aI4 (cu (gc (cf (fi .i64 (int 3500)))) (cu (gc (cf (fi .i64 (int (-1200))))) (cu aU7 nil)))))))))))))))))))))))))))))))))))) (pu nil nil)))
abbrev G4:=Fi.B
abbrev G5:=Option G4
def G6 (g:G5):Ct:=(193,FC T5 (lf Fi) (λ_=>g))
def G7:Pg G4:=ret ()
def m7:Option G4:=(G7).val
theorem aoY:D0 [] 193 T5 (lf Fi) λb=>G7:=λb=>by kernel_rfl
theorem T6 [ax]:SC (G6 m7):=s0 (.nil _) aoY
def Re:=qa (pr (cu aO GB) bB)
def DM:=qe aPO
abbrev Rf:=DM.B
abbrev Rg:=Int->Int->Int->Bool->Option Rf
def Rh (g:Rg):Ct:=(120,FC Re (lf DM) (λb=>g b.1.1 b.1.2.1 b.1.b b.2))
def Fj (cL:vk)(jc:G5)(ao:BG)(aJ:MP)(aq:cx)(x0:Int)(x1:Int)(x2:Int)(x3:Bool):Pg Rf:=let y0:=wI (x0+900000000);let y1:=wI (x1+1800000000);let y2:=wI (Int.tdiv y0 450000000);let y3:=wI (Int.tdiv y1 600000000);let y4:=if 3<y2 then 3 else y2;let y5:=if 5<y3 then 5 else y3;let y6:=wI (y4+1);let y7:=wI (y1-wI (y5*600000000));opt (cL x0 x1 x2) λd=>ae (!d) (ret ((0,1),x3)) (opt jc λd=>ae (bg y4 5) (ae (y4==4) (opt (aJ 1000 4000 (-3000) 500 3500 (-1200) 1000 y5 y7 x3) λd=>ae (bg y6 5) (ae (y6==4) (opt (aJ 1000 4000 (-3000) 500 3500 (-1200) 1000 y5 y7 d.2) λaj=>opt (ao d.1 aj.1 (wI (y0-wI (y4*450000000))) 450000000 aj.2) λd=>opt (aq d.1 3373259426 19327352832000 d.2) λd=>ret ((d.1,0),d.2)) (ae (y6==3) (opt (aJ 500 1500 (-1700) 100 700 (-800) 500 y5 y7 d.2) λaj=>opt (ao d.1 aj.1 (wI (y0-wI (y4*450000000))) 450000000 aj.2) λd=>opt (aq d.1 3373259426 19327352832000 d.2) λd=>ret ((d.1,0),d.2)) (ae (y6==2) (opt (aJ 950 900 (-1400) (-500) (-300) 100 950 y5 y7 d.2) λaj=>opt (ao d.1 aj.1 (wI (y0-wI (y4*450000000))) 450000000 aj.2) λd=>opt (aq d.1 3373259426 19327352832000 d.2) λd=>ret ((d.1,0),d.2)) (ae (y6==1) (opt (aJ 2200 2500 500 (-2200) (-3800) 0 2200 y5 y7 d.2) λaj=>opt (ao d.1 aj.1 (wI (y0-wI (y4*450000000))) 450000000 aj.2) λd=>opt (aq d.1 3373259426 19327352832000 d.2) λd=>ret ((d.1,0),d.2)) (opt (aJ 3000 6000 (-2000) (-1500) (-6000) (-9000) 3000 y5 y7 d.2) λaj=>opt (ao d.1 aj.1 (wI (y0-wI (y4*450000000))) 450000000 aj.2) λd=>opt (aq d.1 3373259426 19327352832000 d.2) λd=>ret ((d.1,0),d.2)))))) no) (ae (y4==3) (opt (aJ 500 1500 (-1700) 100 700 (-800) 500 y5 y7 x3) λd=>ae (bg y6 5) (ae (y6==4) (opt (aJ 1000 4000 (-3000) 500 3500 (-1200) 1000 y5 y7 d.2) λaj=>opt (ao d.1 aj.1 (wI (y0-wI (y4*450000000))) 450000000 aj.2) λd=>opt (aq d.1 3373259426 19327352832000 d.2) λd=>ret ((d.1,0),d.2)) (ae (y6==3) (opt (aJ 500 1500 (-1700) 100 700 (-800) 500 y5 y7 d.2) λaj=>opt (ao d.1 aj.1 (wI (y0-wI (y4*450000000))) 450000000 aj.2) λd=>opt (aq d.1 3373259426 19327352832000 d.2) λd=>ret ((d.1,0),d.2)) (ae (y6==2) (opt (aJ 950 900 (-1400) (-500) (-300) 100 950 y5 y7 d.2) λaj=>opt (ao d.1 aj.1 (wI (y0-wI (y4*450000000))) 450000000 aj.2) λd=>opt (aq d.1 3373259426 19327352832000 d.2) λd=>ret ((d.1,0),d.2)) (ae (y6==1) (opt (aJ 2200 2500 500 (-2200) (-3800) 0 2200 y5 y7 d.2) λaj=>opt (ao d.1 aj.1 (wI (y0-wI (y4*450000000))) 450000000 aj.2) λd=>opt (aq d.1 3373259426 19327352832000 d.2) λd=>ret ((d.1,0),d.2)) (opt (aJ 3000 6000 (-2000) (-1500) (-6000) (-9000) 3000 y5 y7 d.2) λaj=>opt (ao d.1 aj.1 (wI (y0-wI (y4*450000000))) 450000000 aj.2) λd=>opt (aq d.1 3373259426 19327352832000 d.2) λd=>ret ((d.1,0),d.2)))))) no) (ae (y4==2) (opt (aJ 950 900 (-1400) (-500) (-300) 100 950 y5 y7 x3) λd=>ae (bg y6 5) (ae (y6==4) (opt (aJ 1000 4000 (-3000) 500 3500 (-1200) 1000 y5 y7 d.2) λaj=>opt (ao d.1 aj.1 (wI (y0-wI (y4*450000000))) 450000000 aj.2) λd=>opt (aq d.1 3373259426 19327352832000 d.2) λd=>ret ((d.1,0),d.2)) (ae (y6==3) (opt (aJ 500 1500 (-1700) 100 700 (-800) 500 y5 y7 d.2) λaj=>opt (ao d.1 aj.1 (wI (y0-wI (y4*450000000))) 450000000 aj.2) λd=>opt (aq d.1 3373259426 19327352832000 d.2) λd=>ret ((d.1,0),d.2)) (ae (y6==2) (opt (aJ 950 900 (-1400) (-500) (-300) 100 950 y5 y7 d.2) λaj=>opt (ao d.1 aj.1 (wI (y0-wI (y4*450000000))) 450000000 aj.2) λd=>opt (aq d.1 3373259426 19327352832000 d.2) λd=>ret ((d.1,0),d.2)) (ae (y6==1) (opt (aJ 2200 2500 500 (-2200) (-3800) 0 2200 y5 y7 d.2) λaj=>opt (ao d.1 aj.1 (wI (y0-wI (y4*450000000))) 450000000 aj.2) λd=>opt (aq d.1 3373259426 19327352832000 d.2) λd=>ret ((d.1,0),d.2)) (opt (aJ 3000 6000 (-2000) (-1500) (-6000) (-9000) 3000 y5 y7 d.2) λaj=>opt (ao d.1 aj.1 (wI (y0-wI (y4*450000000))) 450000000 aj.2) λd=>opt (aq d.1 3373259426 19327352832000 d.2) λd=>ret ((d.1,0),d.2)))))) no) (ae (y4==1) (opt (aJ 2200 2500 500 (-2200) (-3800) 0 2200 y5 y7 x3) λd=>ae (bg y6 5) (ae (y6==4) (opt (aJ 1000 4000 (-3000) 500 3500 (-1200) 1000 y5 y7 d.2) λaj=>opt (ao d.1 aj.1 (wI (y0-wI (y4*450000000))) 450000000 aj.2) λd=>opt (aq d.1 3373259426 19327352832000 d.2) λd=>ret ((d.1,0),d.2)) (ae (y6==3) (opt (aJ 500 1500 (-1700) 100 700 (-800) 500 y5 y7 d.2) λaj=>opt (ao d.1 aj.1 (wI (y0-wI (y4*450000000))) 450000000 aj.2) λd=>opt (aq d.1 3373259426 19327352832000 d.2) λd=>ret ((d.1,0),d.2)) (ae (y6==2) (opt (aJ 950 900 (-1400) (-500) (-300) 100 950 y5 y7 d.2) λaj=>opt (ao d.1 aj.1 (wI (y0-wI (y4*450000000))) 450000000 aj.2) λd=>opt (aq d.1 3373259426 19327352832000 d.2) λd=>ret ((d.1,0),d.2)) (ae (y6==1) (opt (aJ 2200 2500 500 (-2200) (-3800) 0 2200 y5 y7 d.2) λaj=>opt (ao d.1 aj.1 (wI (y0-wI (y4*450000000))) 450000000 aj.2) λd=>opt (aq d.1 3373259426 19327352832000 d.2) λd=>ret ((d.1,0),d.2)) (opt (aJ 3000 6000 (-2000) (-1500) (-6000) (-9000) 3000 y5 y7 d.2) λaj=>opt (ao d.1 aj.1 (wI (y0-wI (y4*450000000))) 450000000 aj.2) λd=>opt (aq d.1 3373259426 19327352832000 d.2) λd=>ret ((d.1,0),d.2)))))) no) (opt (aJ 3000 6000 (-2000) (-1500) (-6000) (-9000) 3000 y5 y7 x3) λd=>ae (bg y6 5) (ae (y6==4) (opt (aJ 1000 4000 (-3000) 500 3500 (-1200) 1000 y5 y7 d.2) λaj=>opt (ao d.1 aj.1 (wI (y0-wI (y4*450000000))) 450000000 aj.2) λd=>opt (aq d.1 3373259426 19327352832000 d.2) λd=>ret ((d.1,0),d.2)) (ae (y6==3) (opt (aJ 500 1500 (-1700) 100 700 (-800) 500 y5 y7 d.2) λaj=>opt (ao d.1 aj.1 (wI (y0-wI (y4*450000000))) 450000000 aj.2) λd=>opt (aq d.1 3373259426 19327352832000 d.2) λd=>ret ((d.1,0),d.2)) (ae (y6==2) (opt (aJ 950 900 (-1400) (-500) (-300) 100 950 y5 y7 d.2) λaj=>opt (ao d.1 aj.1 (wI (y0-wI (y4*450000000))) 450000000 aj.2) λd=>opt (aq d.1 3373259426 19327352832000 d.2) λd=>ret ((d.1,0),d.2)) (ae (y6==1) (opt (aJ 2200 2500 500 (-2200) (-3800) 0 2200 y5 y7 d.2) λaj=>opt (ao d.1 aj.1 (wI (y0-wI (y4*450000000))) 450000000 aj.2) λd=>opt (aq d.1 3373259426 19327352832000 d.2) λd=>ret ((d.1,0),d.2)) (opt (aJ 3000 6000 (-2000) (-1500) (-6000) (-9000) 3000 y5 y7 d.2) λaj=>opt (ao d.1 aj.1 (wI (y0-wI (y4*450000000))) 450000000 aj.2) λd=>opt (aq d.1 3373259426 19327352832000 d.2) λd=>ret ((d.1,0),d.2)))))) no))))) no)
def sL:=λx0 x1 x2 x3=>(Fj gQ m7 j4 pD aU x0 x1 x2 x3).val
theorem anv:∀cL jc ao aJ aq,D1 [zG cL,G6 jc,BH ao,MQ aJ,dA aq] [0] 120 Re (lf DM) λb=>Fj cL jc ao aJ aq b.1.1 b.1.2.1 b.1.b b.2:=λ_ _ _ _ _ b=>by kernel_rfl
theorem anw [ax]:SC (Rh sL):=s0 (.c Dr (.c T6 (.c Lt (.c ahg (.c dL (.nil _)))))) (anv gQ m7 j4 pD aU)
def aIg:=qa (pl iL nil)
def atd:=qe Et
abbrev aIh:=atd.B
abbrev ayj:=Int->Option aIh
def aIi (g:ayj):Ct:=(55,FC aIg (lf atd) (λb=>g b))
def aoA (x0:Int):Pg aIh:=ae (decide (x0>=0)) (ret (decide (x0<6))) (ret false)
def O5:=λx0=>(aoA x0).val
theorem aTs:D0 [] 55 aIg (lf atd) λb=>aoA b:=λb=>by kernel_rfl
theorem aTt [ax]:SC (aIi O5):=s0 (.nil _) aTs
def ajb:=qa (pl (c ai Dy) nil)
def O6:=qe Et
abbrev ajc:=O6.B
abbrev Ty:=Int->Int->Int->Int->Int->Int->Int->Int->Int->Int->Option ajc
def ajd (g:Ty):Ct:=(56,FC ajb (lf O6) (λb=>g b.1 b.2.1 b.b.1 b.b.2.1 b.c.1 b.c.2.1 b.c.b.1 b.c.b.2.1 b.d.1 b.d.2))
def Tz (uN:agP)(j9:JF)(jd:GW)(nq:aab)(yW:am4)(uO:ag1)(x0:Int)(x1:Int)(x2:Int)(x3:Int)(x4:Int)(x5:Int)(x6:Int)(x7:Int)(x8:Int)(x9:Int):Pg ajc:=ae (x0==0) (opt (uN x1 x2 x3 x4 x5 x6 x7 x8 x9 false) λd=>ret (d.1.2==0)) (ae (x0==1) (opt (j9 x1 x2 x3 x4 x5 x6 x7 x8 x9 false) λd=>ret (d.1.2==0)) (ae (x0==2) (opt (jd x1 x2 x3 x4 x5 x6 x7 x8 x9 false) λd=>ret (d.1.2==0)) (ae (x0==3) (opt (nq x1 x2 x3 x4 x5 x6 x7 x8 x9 false) λd=>ret (d.1.2==0)) (ae (x0==4) (opt (yW x1 x2 x3 x4 x5 x6 x7 x8 x9 false) λd=>ret (d.1.2==0)) (ae (x0==5) (opt (uO x1 x2 x3 x4 x5 x6 x7 x8 x9 false) λd=>ret (d.1.2==0)) (ret true))))))
def Db:=λx0 x1 x2 x3 x4 x5 x6 x7 x8 x9=>(Tz yK mi kX vm E4 BU x0 x1 x2 x3 x4 x5 x6 x7 x8 x9).val
theorem aB5:∀uN j9 jd nq yW uO,D0 [agQ uN,JG j9,GX jd,aac nq,am5 yW,ag2 uO] 56 ajb (lf O6) λb=>Tz uN j9 jd nq yW uO b.1 b.2.1 b.b.1 b.b.2.1 b.c.1 b.c.2.1 b.c.b.1 b.c.b.2.1 b.d.1 b.d.2:=λ_ _ _ _ _ _ b=>by kernel_rfl
theorem aB6 [ax]:SC (ajd Db):=s0 (.c avI (.c XK (.c T1 (.c amS (.c aAT (.c avY (.nil _))))))) (aB5 yK mi kX vm E4 BU)
def oo:=qa (dp (cu jj (c ai aIX)) λv=>(cd ar5 λb0=>(c (cl (gs v.2.1 arW) nil) (c mZ (c od (c (cl (gs b0.c.1 oX) nil) (cd qB λb5=>(cd qC λb6=>(cd qD λb7=>(cd qE λb8=>(cd qF λb9=>(cd aC3 λb10=>(c ny (cd aCT λb12=>(c (cl (gs b0.e mL) nil) (c (cl (gs b5.b.1 aA) nil) (c (cl (gs b6.b.1 aA) nil) (c (cl (gs b7.b.1 aA) nil) (c (cl (gs b8.b.1 aA) nil) (c (cl (gs b9.b.1 aA) nil) (c (cl (gs b10.b.1 aA) nil) (cl (cl (gs b12.b jF) nil) nil))))))))))))))))))))))
def G8:=qe (res (pu Qs (pl (cu fK aQc) nil)))
abbrev Ya:=G8.B
abbrev Ca:=oo.B->Option Ya
def Cb (g:Ca):Ct:=(232,uV 2 [.b,.i .i64,.i .i64] (FC oo (lf G8) g))
def JR (rM:HL)(x:oo.B):Pg Ya:=let n1:=x.2.2.2.2.2.2.2.2.2.2.2.2.1;let n2:=n1.1.2.2;ae (ww x.1.2.1 x.1.2.1) (opt (rM x.1.1 x.2.1.2.2.2.2.2.2.2.2.2.2.2.2.2.1 x.1.2.1 n1.1.1 n1.1.2.1 n2.1 n2.2.1 n2.2.2.1 n2.2.2.2 n1.2 x.2.2.1.1 x.2.2.1.2.1 x.2.2.1.2.2 (x.1.2.2&&true)) λd=>ret d) no
def gE:=λx=>(JR eZ x).val
theorem ate:∀rM,D0 [HM rM] 232 oo (lf G8) λb=>JR rM b:=λ_ b=>by kernel_rfl
theorem JS [ax]:SC (Cb gE):=sc (Sound.nil 2 [.b,.i .i64,.i .i64]<|k0 (.c acx (.nil _)) (ate eZ))
def m8:=qa (pr (cu jj iL) (cd vU λb0=>(c mZ (c od (c (cl (gs b0.c.1 oX) nil) (cd xp λb4=>(cd qB λb5=>(cd qC λb6=>(cd qD λb7=>(cd qE λb8=>(cd qF λb9=>(c ny (cd zu λA4=>(c (cl (gs b0.e mL) nil) (c (cl (gs b4.b.1 aA) nil) (c (cl (gs b5.b.1 aA) nil) (c (cl (gs b6.b.1 aA) nil) (c (cl (gs b7.b.1 aA) nil) (c (cl (gs b8.b.1 aA) nil) (c (cl (gs b9.b.1 aA) nil) (cl (cl (gs A4.b jF) nil) nil)))))))))))))))))))))
def Fk:=qe aWo
abbrev T7:=Fk.B
abbrev Al:=m8.B->Option T7
def Am (g:Al):Ct:=(223,FC m8 (lf Fk) g)
def G9 (dY:Ca)(x:m8.B):Pg T7:=let n5:=x.2.2.2.2.2;let n2:=x.2.1.2.2.2.2;let n4:=n2.2.2.2.2.2.2.2.2.2.2.2.2;let n1:=n5.2;let n3:=n1.2.2.2;ae (ww n2.1 n2.1) (ae (ww n4 n4) (ae (ww n5.1.2.2.1 n5.1.2.2.1) (ae (ww n1.1.2.2.1 n1.1.2.2.1) (ae (ww n1.2.1.2.2.1 n1.2.1.2.2.1) (ae (ww n1.2.2.1.2.2.1 n1.2.2.1.2.2.1) (ae (ww n3.1.2.2.1 n3.1.2.2.1) (ae (ww n3.2.1.2.2.1 n3.2.1.2.2.1) (ae (ww n3.2.2.2.1.2.2 n3.2.2.2.1.2.2) (opt (dY ((x.1,1,true),x.2.1,(λj=>bif ww j 0 then true else true,λj=>bif ww j 0 then 0 else 0,λj=>bif ww j 0 then 0 else 0),x.2.2)) λd=>ret d) no) no) no) no) no) no) no) no) no
def ec:=λx=>(G9 gE x).val
theorem aoZ:∀dY,D0 [Cb dY] 223 m8 (lf Fk) λb=>G9 dY b:=λ_ b=>by kernel_rfl
theorem G' [ax]:SC (Am ec):=s0 (.c JS (.nil _)) (aoZ gE)
def mr:=qa (pr (cu jj iL) (cd vU λb0=>(c mZ (c od (c (cl (gs b0.c.1 oX) nil) (cd xp λb4=>(cd qB λb5=>(cd qC λb6=>(cd qD λb7=>(cd qE λb8=>(cd qF λb9=>(c ny (cd zu λA4=>(c (cl (gs b0.e mL) nil) (c (cl (gs b4.b.1 aA) nil) (c (cl (gs b5.b.1 aA) nil) (c (cl (gs b6.b.1 aA) nil) (c (cl (gs b7.b.1 aA) nil) (c (cl (gs b8.b.1 aA) nil) (c (cl (gs b9.b.1 aA) nil) (cl (cl (gs A4.b jF) nil) nil)))))))))))))))))))))
def DN:=qe aWo
abbrev Ri:=DN.B
abbrev oM:=mr.B->Option Ri
def oN (g:oM):Ct:=(172,FC mr (lf DN) g)
def Fl (dY:Ca)(x:mr.B):Pg Ri:=let n5:=x.2.2.2.2.2;let n2:=x.2.1.2.2.2.2;let n4:=n2.2.2.2.2.2.2.2.2.2.2.2.2;let n1:=n5.2;let n3:=n1.2.2.2;ae (ww n2.1 n2.1) (ae (ww n4 n4) (ae (ww n5.1.2.2.1 n5.1.2.2.1) (ae (ww n1.1.2.2.1 n1.1.2.2.1) (ae (ww n1.2.1.2.2.1 n1.2.1.2.2.1) (ae (ww n1.2.2.1.2.2.1 n1.2.2.1.2.2.1) (ae (ww n3.1.2.2.1 n3.1.2.2.1) (ae (ww n3.2.1.2.2.1 n3.2.1.2.2.1) (ae (ww n3.2.2.2.1.2.2 n3.2.2.2.1.2.2) (opt (dY ((x.1,1,true),x.2.1,(λj=>bif ww j 0 then false else false,λj=>bif ww j 0 then 0 else 0,λj=>bif ww j 0 then 0 else 0),x.2.2)) λd=>ret d) no) no) no) no) no) no) no) no) no
def cq:=λx=>(Fl gE x).val
theorem anx:∀dY,D0 [Cb dY] 172 mr (lf DN) λb=>Fl dY b:=λ_ b=>by kernel_rfl
theorem sM [ax]:SC (oN cq):=s0 (.c JS (.nil _)) (anx gE)
def mu:=qa (pr (cu jj (cl (aa (a 10 Dz nx)) nil)) (cd vU λb0=>(c mZ (c od (c (cl (gs b0.c.1 oX) nil) (cd xp λb4=>(cd qB λb5=>(cd qC λb6=>(cd qD λb7=>(cd qE λb8=>(cd qF λb9=>(c ny (cd zu λA4=>(c (cl (gs b0.e mL) nil) (c (cl (gs b4.b.1 aA) nil) (c (cl (gs b5.b.1 aA) nil) (c (cl (gs b6.b.1 aA) nil) (c (cl (gs b7.b.1 aA) nil) (c (cl (gs b8.b.1 aA) nil) (c (cl (gs b9.b.1 aA) nil) (cl (cl (gs A4.b jF) nil) nil)))))))))))))))))))))
def ao0:=qe aWC
abbrev Cc:=((Es×Bool×NI×(NI×NI)×Nat×qj×Bool×Int×lu×Bool×Bool×Bool×Int×Int×Int×Dx×Nat)×NI×NI×NI×NI×NI×NI×NI×NI×NI×NI)
def Yb:Cc->T:=λd=>lf ao0 (d.1,d.1.e,d.2)
abbrev JT:=mu.B->Option Cc
def JU (g:JT):Ct:=(222,FC mu Yb g)
def JV (x:mu.B):Pg Cc:=let n7:=x.2.1.2;let n6:=x.1.1;let n3:=n7.2.2.2.2;let n8:=n3.2.2.2;let n2:=x.2.2.2.2.2.2.2.2.2.2.2.2.2.1;let n5:=n2.2.2.2.2;let n1:=n8.2.2.2.2;let n4:=n1.2.2.2.2;let y0:=n4+1;ae (wd (y0*80) 140737488355328) (ret ((x.2.1.1,n7.1,n7.2.1,n7.2.2.1,n7.2.2.2.1,n3.1,n3.2.1,n3.2.2.1,n8.1,n8.2.1,n8.2.2.1,n8.2.2.2.1,n1.1,n1.2.1,n1.2.2.1,n1.2.2.2.1,y0),λj=>bif ww j n4 then n6.1.1 else n2.1 j,λj=>bif ww j n4 then n6.1.2.1 else n2.2.1 j,λj=>bif ww j n4 then n6.1.2.2.1 else n2.2.2.1 j,λj=>bif ww j n4 then n6.1.2.2.2 else n2.2.2.2.1 j,λj=>bif ww j n4 then n6.2.1.1 else n5.1 j,λj=>bif ww j n4 then n6.2.1.2.1 else n5.2.1 j,λj=>bif ww j n4 then n6.2.1.2.2 else n5.2.2.1 j,λj=>bif ww j n4 then n6.2.2.1 else n5.2.2.2.1 j,λj=>bif ww j n4 then n6.2.2.2.1 else n5.2.2.2.2.1 j,λj=>bif ww j n4 then n6.2.2.2.2 else n5.2.2.2.2.2 j)) no
def fM:=λx=>(JV x).val
theorem atf:D0 [] 222 mu Yb λb=>JV b:=λb=>by kernel_rfl
theorem Yc [ax]:SC (JU fM):=s0 (.nil _) atf
def mw:=qa (dp (cu jj (c ai (cl aIQ nil))) λv=>(cd ar5 λb0=>(c (cl (gs v.2.1 aJv) nil) (c mZ (c od (c (cl (gs b0.c.1 oX) nil) (cd qB λb5=>(cd qC λb6=>(cd qD λb7=>(cd qE λb8=>(cd qF λb9=>(cd aC3 λb10=>(c ny (cd aCT λb12=>(c (cl (gs b0.e mL) nil) (c (cl (gs b5.b.1 aA) nil) (c (cl (gs b6.b.1 aA) nil) (c (cl (gs b7.b.1 aA) nil) (c (cl (gs b8.b.1 aA) nil) (c (cl (gs b9.b.1 aA) nil) (c (cl (gs b10.b.1 aA) nil) (cl (cl (gs b12.b jF) nil) nil))))))))))))))))))))))
def ao1:=qe (res (pr (ac (CB 21 3)) (pr (c (zp ar5) aQc) (cl aPH nil))))
abbrev Cd:=(Nat×((Es×Bool×NI×(NI×NI)×Nat×qj×Bool×Int×lu×Bool×Bool×Bool×Int×Int×Int×Dx×Nat)×aRE×Int)×(Nat->Bool)×NI×NI)
def Yd:Cd->T:=λd=>lf ao1 (d.1,d.2.1,d.1,d.b)
abbrev qT:=mw.B->Option Cd
def qU (g:qT):Ct:=(228,uV 2 [.i .i64,.i .i64,.i .i64,.i .i64,.i .i64,.i .i64,.i .i64,.i .i64,.i .i64,.i .i64,.i .i64,.i .i64,.i .i64,.i .i64,.i .i64,.i .i64,.i .i64,.i .i64,.i .i64,.i .i64,.i .i64,.i .i64,.i .i64,.i .i64,.i .i64,.i .i64,.i .i64] (FC mw Yd g))
def JW (aal:aAe)(dY:Ca)(x:mw.B):Pg Cd:=let n3:=x.2.1.2.2.2;let n5:=n3.2.2.2.2.2.2.2.2.2.2.2.2.2;let n2:=x.2.2.2.2.2.2;let n4:=n2.2.2.2;ae (ww x.1.2.1 x.1.2.1) (opt (aal ((x.2.1.2.2.1,n3.1,x.1.2.1,x.1.2.2&&true),x.2.1.2.1,x.2.2.1)) λd=>let n6:=d.1.2.2;let n1:=(x.2.1.1,d.2.1,d.1.1,d.1.2.1,n3.2);ae (ww n6 n6) (ae (ww n3.2.1 n3.2.1) (ae (ww n5 n5) (ae (ww n2.1.2.2.1 n2.1.2.2.1) (ae (ww n2.2.1.2.2.1 n2.2.1.2.2.1) (ae (ww n2.2.2.1.2.2.1 n2.2.2.1.2.2.1) (ae (ww n4.1.2.2.1 n4.1.2.2.1) (ae (ww n4.2.1.2.2.1 n4.2.1.2.2.1) (ae (ww n4.2.2.1.2.2.1 n4.2.2.1.2.2.1) (ae (ww n4.2.2.2.2.1.2.2 n4.2.2.2.2.1.2.2) (opt (dY ((x.1.1,n6,true),n1,d.2.2,x.2.2.2)) λaj=>ret (n6,(n1,aj),d.2.2)) no) no) no) no) no) no) no) no) no) no) no
def cW:=λx=>(JW QP gE x).val
theorem atg:∀aal dY,D0 [aAf aal,Cb dY] 228 mw Yd λb=>JW aal dY b:=λ_ _ b=>by kernel_rfl
theorem wQ [ax]:SC (qU cW):=sc (Sound.nil 2 [.i .i64,.i .i64,.i .i64,.i .i64,.i .i64,.i .i64,.i .i64,.i .i64,.i .i64,.i .i64,.i .i64,.i .i64,.i .i64,.i .i64,.i .i64,.i .i64,.i .i64,.i .i64,.i .i64,.i .i64,.i .i64,.i .i64,.i .i64,.i .i64,.i .i64,.i .i64,.i .i64]<|k0 (.c aNZ (.c JS (.nil _))) (atg QP gE))
def jN:=qa (dp (cu jj aIX) λv=>(cd ar5 λb0=>(c (cl (gs v.1 arW) nil) (c mZ (c od (c (cl (gs b0.c.1 oX) nil) (cd qB λb5=>(cd qC λb6=>(cd qD λb7=>(cd qE λb8=>(cd qF λb9=>(cd aC3 λb10=>(c ny (cd aCT λb12=>(c (cl (gs b0.e mL) nil) (c (cl (gs b5.b.1 aA) nil) (c (cl (gs b6.b.1 aA) nil) (c (cl (gs b7.b.1 aA) nil) (c (cl (gs b8.b.1 aA) nil) (c (cl (gs b9.b.1 aA) nil) (c (cl (gs b10.b.1 aA) nil) (cl (cl (gs b12.b jF) nil) nil))))))))))))))))))))))
def DO:=qe (res (pu Qs (pl (cl (zp ar5) (cu fK aw0)) nil)))
abbrev Fm:=DO.B
abbrev Fo:=jN.B->Option Fm
def Fq (g:Fo):Ct:=(229,uV 1 [.b,.i .i64,.i .i64] (FC jN (lf DO) g))
def Fs (rE:ab3)(x:jN.B):Pg Fm:=let n2:=x.2.1;let n1:=n2.2.2.2.2.2;let n3:=n1.2.2.2;ae (ww x.1.1 x.1.1) (opt (rE x.1.1 x.2.2.1.1 x.2.2.1.2.1 x.2.2.1.2.2 (x.1.2&&true)) λd=>ae (decide (d.1>0)) (ret (n2.1,n2.2.1,n2.2.2.1,n2.2.2.2.1,n2.2.2.2.2.1,n1.1,n1.2.1,n1.2.2.1,n3.1,n3.2.1,n3.2.2.1,true,n3.2.2.2.2.2.1,n3.2.2.2.2.2)) (ret n2)) no
def fm:=λx=>(Fs zD x).val
theorem anz:∀rE,D1 [ab4 rE] [0] 229 jN (lf DO) λb=>Fs rE b:=λ_ b=>by kernel_rfl
theorem Rj [ax]:SC (Fq fm):=sc (Sound.nil 1 [.b,.i .i64,.i .i64]<|k0 (.c aqR (.nil _)) (anz zD))
def im:=qa (pr (cu jj (c ai (c ai aVy))) (cd vU λb0=>(c mZ (c od (c (cl (gs b0.c.1 oX) nil) (cd xp λb4=>(cd qB λb5=>(cd qC λb6=>(cd qD λb7=>(cd qE λb8=>(cd qF λb9=>(c ny (cd zu λA4=>(c (cl (gs b0.e mL) nil) (c (cl (gs b4.b.1 aA) nil) (c (cl (gs b5.b.1 aA) nil) (c (cl (gs b6.b.1 aA) nil) (c (cl (gs b7.b.1 aA) nil) (c (cl (gs b8.b.1 aA) nil) (c (cl (gs b9.b.1 aA) nil) (cl (cl (gs A4.b jF) nil) nil)))))))))))))))))))))
def A5:=qe ar6
abbrev Ce:=A5.B
abbrev MR:=im.B->Option Ce
def MS (g:MR):Ct:=(169,FC im (lf A5) g)
def Cf (bb:qT)(dr:Al)(x:im.B):Pg Ce:=let n7:=x.2.2.2.2.2;let n4:=x.1.2.2.2;let n3:=x.2.1.2.2.2.2;let n6:=n3.2.2.2.2.2.2.2.2.2.2.2.2;let n2:=n7.2;let n5:=n2.2.2.2;let n1:=x.1.2.2.1;let y0:=ww n3.1 n3.1;let y1:=ww n6 n6;let y2:=ww n7.1.2.2.1 n7.1.2.2.1;let y3:=ww n2.1.2.2.1 n2.1.2.2.1;let y4:=ww n2.2.1.2.2.1 n2.2.1.2.2.1;let y5:=ww n2.2.2.1.2.2.1 n2.2.2.1.2.2.1;let y6:=ww n5.1.2.2.1 n5.1.2.2.1;let y7:=ww n5.2.1.2.2.1 n5.2.1.2.2.1;let y8:=ww n5.2.2.2.1.2.2 n5.2.2.2.1.2.2;ae (n3.2.1.2.1==x.1.2.1) (ae y0 (ae y1 (ae y2 (ae y3 (ae y4 (ae y5 (ae y6 (ae y7 (ae y8 (opt (bb ((x.1.1,1,true),x.2.1,(λj=>bif ww j 0 then n1 0 else n1 0,λj=>bif ww j 0 then n1 1 else n1 1,λj=>bif ww j 0 then n1 2 else n1 2,λj=>bif ww j 0 then n1 3 else n1 3,λj=>bif ww j 0 then n1 4 else n1 4,λj=>bif ww j 0 then n1 5 else n1 5,λj=>bif ww j 0 then n1 6 else n1 6,λj=>bif ww j 0 then n1 7 else n1 7,λj=>bif ww j 0 then n1 8 else n1 8,λj=>bif ww j 0 then n1 9 else n1 9,λj=>bif ww j 0 then n1 10 else n1 10,λj=>bif ww j 0 then n1 11 else n1 11,λj=>bif ww j 0 then n1 12 else n1 12,λj=>bif ww j 0 then n1 13 else n1 13,λj=>bif ww j 0 then n1 14 else n1 14,λj=>bif ww j 0 then n1 15 else n1 15,λj=>bif ww j 0 then n1 16 else n1 16,λj=>bif ww j 0 then n1 17 else n1 17,λj=>bif ww j 0 then n1 18 else n1 18,λj=>bif ww j 0 then n1 19 else n1 19,λj=>bif ww j 0 then n1 20 else n1 20,λj=>bif ww j 0 then n1 21 else n1 21,λj=>bif ww j 0 then n1 22 else n1 22,λj=>bif ww j 0 then n1 23 else n1 23,λj=>bif ww j 0 then n4.1 else n4.1,λj=>bif ww j 0 then n4.2.1 else n4.2.1,λj=>bif ww j 0 then n4.2.2 else n4.2.2),x.2.2)) λd=>ret d.2.1) no) no) no) no) no) no) no) no) no) (ae y0 (ae y1 (ae y2 (ae y3 (ae y4 (ae y5 (ae y6 (ae y7 (ae y8 (opt (dr (x.1.1,x.2)) λd=>ret (x.2.1,d)) no) no) no) no) no) no) no) no) no)
def fV:=λx=>(Cf cW ec x).val
theorem ahh:∀bb dr,D1 [qU bb,Am dr] [0] 169 im (lf A5) λb=>Cf bb dr b:=λ_ _ b=>by kernel_rfl
theorem ahi [ax]:SC (MS fV):=s0 (.c wQ (.c G' (.nil _))) (ahh cW ec)
def eE:=qa (pu (cu jj nil) (cd vU λb0=>(c mZ (c od (c (cl (gs b0.c.1 oX) nil) (cd xp λb4=>(cd qB λb5=>(cd qC λb6=>(cd qD λb7=>(cd qE λb8=>(cd qF λb9=>(c ny (cd zu λA4=>(c (cl (gs b0.e mL) nil) (c (cl (gs b4.b.1 aA) nil) (c (cl (gs b5.b.1 aA) nil) (c (cl (gs b6.b.1 aA) nil) (c (cl (gs b7.b.1 aA) nil) (c (cl (gs b8.b.1 aA) nil) (c (cl (gs b9.b.1 aA) nil) (cl (cl (gs A4.b jF) nil) nil)))))))))))))))))))))
def wR:=qe (res (pr ai (pl (cl (zp vU) aw0) nil)))
abbrev xJ:=wR.B
abbrev Gn:=eE.B->Option xJ
def Gp (g:Gn):Ct:=(220,FC eE (lf wR) g)
def qg (yX:Rg)(x:eE.B):Pg xJ:=let n1:=x.1.1.2.2.2.2.2.2.2.2.2.2.2.2.2;opt (yX n1.1 n1.2.1 n1.2.2 x.1.2.1) λd=>ret (d.1.1,x.1.1,d.2,x.1.2.2)
def di:=λx=>(qg sL x).val
theorem YU:∀yX,D0 [Rh yX] 220 eE (lf wR) λb=>qg yX b:=λ_ b=>by kernel_rfl
theorem YV [ax]:SC (Gp di):=s0 (.c anw (.nil _)) (YU sL)
def ka:=qa (pr (cu jj Dy) (cd vU λb0=>(c mZ (c od (c (cl (gs b0.c.1 oX) nil) (cd xp λb4=>(cd qB λb5=>(cd qC λb6=>(cd qD λb7=>(cd qE λb8=>(cd qF λb9=>(c ny (cd zu λA4=>(c (cl (gs b0.e mL) nil) (c (cl (gs b4.b.1 aA) nil) (c (cl (gs b5.b.1 aA) nil) (c (cl (gs b6.b.1 aA) nil) (c (cl (gs b7.b.1 aA) nil) (c (cl (gs b8.b.1 aA) nil) (c (cl (gs b9.b.1 aA) nil) (cl (cl (gs A4.b jF) nil) nil)))))))))))))))))))))
def Ny:=qe ar6
def ajK:=qe (res (pu Qs (pr (c (zp (a 26 xq (c gb (c iC (a 2 zw (cu aj5 (cu aj6 (c aIR (au 6 akg (cu atS (a 4 Ev (cu atT (c gb (c gi (a 3 mK (c gb (cu awO (c gb aP9)))))))))))))))))) aQb) aJq)))
abbrev wS:=Ny.B⊕(((Es×Bool×NI×(NI×NI)×Nat×qj×Bool×Int×lu×Bool×Bool×Int×Int×Int×Dx×Nat)×aRE×Int)×NI×NI×NI×NI×NI×NI×NI×NI×NI×NI)
def Ye:wS->T:=ls (lf Ny) (λd=>lf ajK (d.1,d.1.1.d.c.b.2,d.2))
abbrev Yf:=ka.B->Option wS
def Yg (g:Yf):Ct:=(167,FC ka Ye g)
def Cg (nq:aab)(bc:eC)(qh:Gn)(U0:avN)(aY:oM)(U2:avw)(gF:JT)(fF:qM)(jb:FT)(cZ:zB)(aN:fJ)(dr:Al)(x:ka.B):Pg wS:=let n8:=x.2.2;let bq:=n8.2.2.2;let n7:=x.2.1.2.2;let n9:=n7.2.2.2.2.2.2.2.2.2.2.2.2.2.2;let n6:=x.1.2.2.2;let n1:=bq.2;let n3:=n1.2.2.2;let bI:=n3.2.2.2;let y0:=ww bq.1.2.2.1 bq.1.2.2.1;let y1:=ww n1.1.2.2.1 n1.1.2.2.1;let y2:=ww n1.2.1.2.2.1 n1.2.1.2.2.1;let y3:=ww n1.2.2.1.2.2.1 n1.2.2.1.2.2.1;let y4:=ww n3.1.2.2.1 n3.1.2.2.1;let y5:=ww n3.2.1.2.2.1 n3.2.1.2.2.1;let y6:=ww bI.1.2.2 bI.1.2.2;opt (nq x.1.1 x.1.2.1 x.1.2.2.1 n6.1 n6.2.1 n6.2.2.1 n6.2.2.2.1 n6.2.2.2.2.1 n6.2.2.2.2.2 x.2.1.2.1) λd=>let bf:=d.1.1;opt (bc n7.1) λaj=>ae (ww n7.2.2.1 n7.2.2.1) (ae (ww n9 n9) (ae y0 (ae y1 (ae y2 (ae y3 (ae y4 (ae y5 (ae y6 (opt (qh ((x.2.1.1,d.2,n7),n8)) λaC=>let n5:=aC.2.2.2;let aT:=n5.2.2.2.2.2.2.2.2.2.2.2.2.2.2;let ub:=ww n5.2.2.1 n5.2.2.1;let azG:=ww aT aT;opt (U0 aj.1 aj.2.1 aj.2.2.1 aj.2.2.2 bf.1 bf.2.1 bf.2.2.1 bf.2.2.2 aC.1 aC.2.2.1) λbx=>ae (bx.1.2!=0) (ae ub (ae azG (ae y0 (ae y1 (ae y2 (ae y3 (ae y4 (ae y5 (ae y6 (opt (aY (3,(aC.2.1,bx.2,n5),n8)) λd=>ret (wr ((aC.2.1,bx.2,n5),d))) no) no) no) no) no) no) no) no) no) (opt (U2 n5.1 n5.2.1.1 n5.2.1.2 bx.1.1 (aC.2.1.2.2.2.2.2.2.2.1 0) bx.2) λcH=>ae ub (ae azG (ae y0 (ae y1 (ae y2 (ae y3 (ae y4 (ae y5 (ae y6 (opt (gF (((cH.1.2.2,(0,0,0),0,0,0),1),(aC.2.1,cH.2,cH.1.1,cH.1.2.1,n5.2.2),n8)) λfx=>let bp:=fx.1.2.2;let n2:=bp.2.2;let n16:=n2.2.2;let n4:=n16.2.2;let n15:=n4.2.2.2;opt (bc bp.1) λdx=>opt (fF dx.1 dx.2.1 dx.2.2.1 dx.2.2.2 fx.1.2.1) λnH=>opt (jb nH.1 bf.1 bf.2.1 bf.2.2.1 nH.2) λd=>opt (cZ bp.1 16 3 (cr d.1.1 [d.1.2.2,d.1.2.1,d.1.1]) false) λte=>opt (aN te d.2) λd=>ae (ww n2.1 n2.1) (ae (ww n15.2.2.2.2.2 n15.2.2.2.2.2) (ae y0 (ae y1 (ae y2 (ae y3 (ae y4 (ae y5 (ae y6 (opt (dr (3,(fx.1.1,d.2,d.1,bp.2.1,n2.1,n2.2.1,n16.1,n16.2.1,n4.1,n4.2.1,true,n15),n8.1,n8.2.1,n8.2.2.1,bq.1,n1.1,n1.2.1,n1.2.2.1,n3.1,n3.2.1,n3.2.2.1,bI.1,fx.2,bI.2.2)) λpx=>ret (wn (((fx.1.1,d.2,d.1,bp.2.1,n2.1,n2.2.1,n16.1,n16.2.1,n4.1,n4.2.1,n15),px),fx.2))) no) no) no) no) no) no) no) no) no) no) no) no) no) no) no) no) no) no)) no) no) no) no) no) no) no) no) no
def mx:=λx=>(Cg vm bX di F1 cq Ms fM jX nU fI bD ec x).val
theorem ath:∀nq bc qh U0 aY U2 gF fF jb cZ aN dr,D0 [aac nq,j5 bc,Gp qh,avO U0,oN aY,avx U2,JU gF,Dq fF,LN jb,Dn cZ,jB aN,Am dr] 167 ka Ye λb=>Cg nq bc qh U0 aY U2 gF fF jb cZ aN dr b:=λ_ _ _ _ _ _ _ _ _ _ _ _ b=>by kernel_rfl
theorem ati [ax]:SC (Yg mx):=s0 (.c amS (.c lA (.c YV (.c aKD (.c sM (.c aKw (.c Yc (.c FW (.c UA (.c HA (.c ky (.c G' (.nil _))))))))))))) (ath vm bX di F1 cq Ms fM jX nU fI bD ec)
def kc:=qa (pr (cu jj (cl aJk nil)) (cd vU λb0=>(c mZ (c od (c (cl (gs b0.c.1 oX) nil) (cd xp λb4=>(cd qB λb5=>(cd qC λb6=>(cd qD λb7=>(cd qE λb8=>(cd qF λb9=>(c ny (cd zu λA4=>(c (cl (gs b0.e mL) nil) (c (cl (gs b4.b.1 aA) nil) (c (cl (gs b5.b.1 aA) nil) (c (cl (gs b6.b.1 aA) nil) (c (cl (gs b7.b.1 aA) nil) (c (cl (gs b8.b.1 aA) nil) (c (cl (gs b9.b.1 aA) nil) (cl (cl (gs A4.b jF) nil) nil)))))))))))))))))))))
def ao2:=qe aWC
abbrev wT:=((Es×Bool×NI×(NI×NI)×Nat×qj×Bool×Int×lu×Bool×Bool×Bool×Int×Int×Int×Dx×Nat)×NI×NI×NI×NI×NI×NI×NI×NI×NI×NI)
def Yh:wT->T:=λd=>lf ao2 (d.1,d.1.e,d.2)
abbrev Yi:=kc.B->Option wT
def Yj (g:Yi):Ct:=(224,FC kc Yh g)
def Ci (ig:yM)(Ed:aah)(gF:JT)(An:T3)(IB:ai5)(x:kc.B):Pg wT:=let bp:=x.1.2;let n4:=x.2.1.2.2.2;let n8:=n4.2.2.2.2.2.2.2.2.2.2.2.2.2;let n3:=x.2.2;let bf:=n3.2.2;let n1:=bf.2.2;let bq:=n1.2.2.1;let n2:=n1.2.2.2;let n7:=n2.2.2.2;let y0:=ww bf.2.1.2.2.1 bf.2.1.2.2.1;let y1:=ww n1.1.2.2.1 n1.1.2.2.1;let y2:=ww n1.2.1.2.2.1 n1.2.1.2.2.1;let y3:=ww bq.2.2.1 bq.2.2.1;let y4:=ww n2.1.2.2.1 n2.1.2.2.1;let y5:=ww n2.2.1.2.2.1 n2.2.1.2.2.1;let y6:=ww n7.1.2.2 n7.1.2.2;opt (ig x.1.1.1 x.1.1.2.1 x.1.1.2.2 n3.1.1.1 n3.1.1.2.1 n3.1.1.2.2 n3.1.2.1 n3.1.2.2 x.2.1.2.1) λd=>opt (Ed x.2.1.2.2.1 n4.1.1 n4.1.2 bp.1.1 bp.1.2.1 bp.1.2.2 bp.2.2 d.2) λaj=>ae (ww n4.2.1 n4.2.1) (ae (ww n8 n8) (ae y0 (ae y1 (ae y2 (ae y3 (ae y4 (ae y5 (ae y6 (opt (gF ((((1073741824,0,0,0),aj.1.2.2,0,0,0),2),(x.2.1.1,aj.2,aj.1.1,aj.1.2.1,n4.2),n3)) λaC=>let n6:=aC.1.2.2.2;let n9:=n6.2.2.2.2.2.2.2.2.2.2.2.2.2;opt (An aC.1.2.2.1 n6.1.1 n6.1.2 d.1.1.1 d.1.1.2.1 bp.2.1 aC.1.2.1) λbx=>ae (ww n6.2.1 n6.2.1) (ae (ww n9 n9) (ae y0 (ae y1 (ae y2 (ae y3 (ae y4 (ae y5 (ae y6 (opt (gF ((((1073741824,0,0,0),(0,0,0),bx.1.2.2),3),(aC.1.1,bx.2,bx.1.1,bx.1.2.1,n6.2),n3.1,n3.2.1,bf.1,bf.2.1,n1.1,n1.2.1,bq,n2.1,n2.2.1,n2.2.2.1,n7.1,aC.2,n7.2.2)) λcH=>let n5:=cH.1.2.2.2;let aT:=n5.2.2.2.2.2.2.2.2.2.2.2.2.2;ae (n5.2.2.1.2.1==2) (opt (IB cH.1.2.2.1 n5.1.1 n5.1.2 d.1.1.2.2 bp.2.1 cH.1.2.1) λd=>ae (ww n5.2.1 n5.2.1) (ae (ww aT aT) (ae y0 (ae y1 (ae y2 (ae y3 (ae y4 (ae y5 (ae y6 (opt (gF ((((1073741824,0,0,0),(0,0,0),0,0,d.1.2.2),4),(cH.1.1,d.2,d.1.1,d.1.2.1,n5.2),n3.1,n3.2.1,bf.1,bf.2.1,n1.1,n1.2.1,bq,n2.1,n2.2.1,n2.2.2.1,n7.1,cH.2,n7.2.2)) λd=>ret d) no) no) no) no) no) no) no) no) no) (ret cH)) no) no) no) no) no) no) no) no) no) no) no) no) no) no) no) no) no) no
def mz:=λx=>(Ci jC yS fM ug C9 x).val
theorem atj:∀ig Ed gF An IB,D0 [D4 ig,aai Ed,JU gF,T4 An,ai6 IB] 224 kc Yh λb=>Ci ig Ed gF An IB b:=λ_ _ _ _ _ b=>by kernel_rfl
theorem atk [ax]:SC (Yj mz):=s0 (.c MD (.c awe (.c Yc (.c aoV (.c aB3 (.nil _)))))) (atj jC yS fM ug C9)
def iu:=qa (pr (cu jj Dy) (cd vU λb0=>(c mZ (c od (c (cl (gs b0.c.1 oX) nil) (cd xp λb4=>(cd qB λb5=>(cd qC λb6=>(cd qD λb7=>(cd qE λb8=>(cd qF λb9=>(c ny (cd zu λA4=>(c (cl (gs b0.e mL) nil) (c (cl (gs b4.b.1 aA) nil) (c (cl (gs b5.b.1 aA) nil) (c (cl (gs b6.b.1 aA) nil) (c (cl (gs b7.b.1 aA) nil) (c (cl (gs b8.b.1 aA) nil) (c (cl (gs b9.b.1 aA) nil) (cl (cl (gs A4.b jF) nil) nil)))))))))))))))))))))
def A6:=qe ar6
abbrev Cj:=A6.B
abbrev MT:=iu.B->Option Cj
def MU (g:MT):Ct:=(174,FC iu (lf A6) g)
def Ck (yW:am4)(IC:aiS)(Dc:aiY)(aY:oM)(bb:qT)(x:iu.B):Pg Cj:=let bp:=x.2.2;let n8:=x.2.1.1;let n7:=x.1.2.2.2;let n6:=n8.2.2.2.2.1.2.2.2.2.1;let n4:=x.2.1.2.2;let bf:=n4.2.2.2.2.2.2.2.2.2.2.2.2.2.2;let n3:=bp.2.2.2.2;let n9:=n3.2.2.2;let y0:=ww n4.2.2.1 n4.2.2.1;let y1:=ww bf bf;let y2:=ww bp.2.2.2.1.2.2.1 bp.2.2.2.1.2.2.1;let y3:=ww n3.1.2.2.1 n3.1.2.2.1;let y4:=ww n3.2.1.2.2.1 n3.2.1.2.2.1;let y5:=ww n3.2.2.1.2.2.1 n3.2.2.1.2.2.1;let y6:=ww n9.1.2.2.1 n9.1.2.2.1;let y7:=ww n9.2.1.2.2.1 n9.2.1.2.2.1;let y8:=ww n9.2.2.2.1.2.2 n9.2.2.2.1.2.2;opt (yW x.1.1 x.1.2.1 x.1.2.2.1 n7.1 n7.2.1 n7.2.2.1 n7.2.2.2.1 n7.2.2.2.2.1 n7.2.2.2.2.2 x.2.1.2.1) λd=>opt (IC n4.1 d.1.1.1 d.1.1.2 n6 d.2) λd=>let n5:=d.1.1.2;let n1:=d.1.1.1;ae (d.1.2==0) (opt (Dc n4.1 17592186044416 n6 d.2) λaj=>ae (aj.1.2==0) (ae y0 (ae y1 (ae y2 (ae y3 (ae y4 (ae y5 (ae y6 (ae y7 (ae y8 (opt (bb ((4,2,true),(n8,aj.2,n4),(ayQ (λk=>cr (n1 k) [aj.1.1.1 k,n1 k]) (cr n5.1 [aj.1.1.2.1,n5.1],cr n5.2.1 [aj.1.1.2.2.1,n5.2.1],cr n5.2.2 [aj.1.1.2.2.2,n5.2.2])),bp)) λd=>ret d.2.1) no) no) no) no) no) no) no) no) no) (ae y0 (ae y1 (ae y2 (ae y3 (ae y4 (ae y5 (ae y6 (ae y7 (ae y8 (opt (bb ((4,1,true),(n8,aj.2,n4),(λj=>bif ww j 0 then n1 0 else n1 0,λj=>bif ww j 0 then n1 1 else n1 1,λj=>bif ww j 0 then n1 2 else n1 2,λj=>bif ww j 0 then n1 3 else n1 3,λj=>bif ww j 0 then n1 4 else n1 4,λj=>bif ww j 0 then n1 5 else n1 5,λj=>bif ww j 0 then n1 6 else n1 6,λj=>bif ww j 0 then n1 7 else n1 7,λj=>bif ww j 0 then n1 8 else n1 8,λj=>bif ww j 0 then n1 9 else n1 9,λj=>bif ww j 0 then n1 10 else n1 10,λj=>bif ww j 0 then n1 11 else n1 11,λj=>bif ww j 0 then n1 12 else n1 12,λj=>bif ww j 0 then n1 13 else n1 13,λj=>bif ww j 0 then n1 14 else n1 14,λj=>bif ww j 0 then n1 15 else n1 15,λj=>bif ww j 0 then n1 16 else n1 16,λj=>bif ww j 0 then n1 17 else n1 17,λj=>bif ww j 0 then n1 18 else n1 18,λj=>bif ww j 0 then n1 19 else n1 19,λj=>bif ww j 0 then n1 20 else n1 20,λj=>bif ww j 0 then n1 21 else n1 21,λj=>bif ww j 0 then n1 22 else n1 22,λj=>bif ww j 0 then n1 23 else n1 23,λj=>bif ww j 0 then n5.1 else n5.1,λj=>bif ww j 0 then n5.2.1 else n5.2.1,λj=>bif ww j 0 then n5.2.2 else n5.2.2),bp)) λd=>ret d.2.1) no) no) no) no) no) no) no) no) no)) (opt (Dc n4.1 17592186044416 n6 d.2) λd=>let aT:=d.1.1.2;let n2:=d.1.1.1;ae (d.1.2==0) (ae y0 (ae y1 (ae y2 (ae y3 (ae y4 (ae y5 (ae y6 (ae y7 (ae y8 (opt (bb ((4,1,true),(n8,d.2,n4),(λj=>bif ww j 0 then n2 0 else n2 0,λj=>bif ww j 0 then n2 1 else n2 1,λj=>bif ww j 0 then n2 2 else n2 2,λj=>bif ww j 0 then n2 3 else n2 3,λj=>bif ww j 0 then n2 4 else n2 4,λj=>bif ww j 0 then n2 5 else n2 5,λj=>bif ww j 0 then n2 6 else n2 6,λj=>bif ww j 0 then n2 7 else n2 7,λj=>bif ww j 0 then n2 8 else n2 8,λj=>bif ww j 0 then n2 9 else n2 9,λj=>bif ww j 0 then n2 10 else n2 10,λj=>bif ww j 0 then n2 11 else n2 11,λj=>bif ww j 0 then n2 12 else n2 12,λj=>bif ww j 0 then n2 13 else n2 13,λj=>bif ww j 0 then n2 14 else n2 14,λj=>bif ww j 0 then n2 15 else n2 15,λj=>bif ww j 0 then n2 16 else n2 16,λj=>bif ww j 0 then n2 17 else n2 17,λj=>bif ww j 0 then n2 18 else n2 18,λj=>bif ww j 0 then n2 19 else n2 19,λj=>bif ww j 0 then n2 20 else n2 20,λj=>bif ww j 0 then n2 21 else n2 21,λj=>bif ww j 0 then n2 22 else n2 22,λj=>bif ww j 0 then n2 23 else n2 23,λj=>bif ww j 0 then aT.1 else aT.1,λj=>bif ww j 0 then aT.2.1 else aT.2.1,λj=>bif ww j 0 then aT.2.2 else aT.2.2),bp)) λd=>ret d.2.1) no) no) no) no) no) no) no) no) no) (ae y0 (ae y1 (ae y2 (ae y3 (ae y4 (ae y5 (ae y6 (ae y7 (ae y8 (opt (aY (4,(n8,d.2,n4),bp)) λaj=>ret ((n8,d.2,n4),aj)) no) no) no) no) no) no) no) no) no))
def fW:=λx=>(Ck E4 C6 C7 cq cW x).val
theorem ahj:∀yW IC Dc aY bb,D0 [am5 yW,aiT IC,aiZ Dc,oN aY,qU bb] 174 iu (lf A6) λb=>Ck yW IC Dc aY bb b:=λ_ _ _ _ _ b=>by kernel_rfl
theorem ahk [ax]:SC (MU fW):=s0 (.c aAT (.c aBY (.c aB0 (.c sM (.c wQ (.nil _)))))) (ahj E4 C6 C7 cq cW)
def mA:=qa (pr (cu jj Dy) (cd vU λb0=>(c mZ (c od (c (cl (gs b0.c.1 oX) nil) (cd xp λb4=>(cd qB λb5=>(cd qC λb6=>(cd qD λb7=>(cd qE λb8=>(cd qF λb9=>(c ny (cd zu λA4=>(c (cl (gs b0.e mL) nil) (c (cl (gs b4.b.1 aA) nil) (c (cl (gs b5.b.1 aA) nil) (c (cl (gs b6.b.1 aA) nil) (c (cl (gs b7.b.1 aA) nil) (c (cl (gs b8.b.1 aA) nil) (c (cl (gs b9.b.1 aA) nil) (cl (cl (gs A4.b jF) nil) nil)))))))))))))))))))))
def Ha:=qe ar6
abbrev JX:=Ha.B
abbrev Yk:=mA.B->Option JX
def Yl (g:Yk):Ct:=(175,FC mA (lf Ha) g)
def JY (uO:ag1)(U3:av1)(aY:oM)(bb:qT)(ep:Fo)(x:mA.B):Pg JX:=let aT:=x.2.1;let n7:=x.2.2;let bf:=n7.2.2.2;let n6:=x.1.2.2.2;let n2:=aT.2.2;let n8:=n2.2.2.2.2.2.2.2.2.2.2.2.2.2.2;let n1:=bf.2;let n3:=n1.2.2.2;let y0:=ww n2.2.2.1 n2.2.2.1;let y1:=ww n8 n8;let y2:=ww bf.1.2.2.1 bf.1.2.2.1;let y3:=ww n1.1.2.2.1 n1.1.2.2.1;let y4:=ww n1.2.1.2.2.1 n1.2.1.2.2.1;let y5:=ww n1.2.2.1.2.2.1 n1.2.2.1.2.2.1;let y6:=ww n3.1.2.2.1 n3.1.2.2.1;let y7:=ww n3.2.1.2.2.1 n3.2.1.2.2.1;let y8:=ww n3.2.2.2.1.2.2 n3.2.2.2.1.2.2;opt (uO x.1.1 x.1.2.1 x.1.2.2.1 n6.1 n6.2.1 n6.2.2.1 n6.2.2.2.1 n6.2.2.2.2.1 n6.2.2.2.2.2 aT.2.1) λd=>opt (U3 n2.1 d.1.1.1 d.1.1.2.1 d.1.1.2.2.1 d.1.1.2.2.2 aT.1.2.2.2.2.1.2.2.2.2.2 d.2) λd=>sm d (λd=>ae (d.1!=0) (ae y0 (ae y1 (ae y2 (ae y3 (ae y4 (ae y5 (ae y6 (ae y7 (ae y8 (opt (aY (5,(aT.1,d.2,n2),n7)) λaj=>ret ((aT.1,d.2,n2),aj)) no) no) no) no) no) no) no) no) no) no) (λd=>let n4:=d.2.2.2;ae y0 (ae y1 (ae y2 (ae y3 (ae y4 (ae y5 (ae y6 (ae y7 (ae y8 (opt (bb ((5,2,true),(aT.1,d.1,n2),(ayQ (λk=>cr (d.2.1 k) [n4.2.2.1 k,d.2.1 k]) (cr d.2.2.1 [n4.2.2.2,d.2.2.1],cr n4.1 [n4.1,n4.1],cr n4.2.1 [n4.2.1,n4.2.1])),n7)) λd=>let n5:=d.2.1.1.2.2.2.2;let n9:=n5.2.2.2.2.2.2.2.2.2.2.2.2;ae (ww d.1 d.1) (ae (ww n5.1 n5.1) (ae (ww n9 n9) (ae y2 (ae y3 (ae y4 (ae y5 (ae y6 (ae y7 (ae y8 (opt (ep ((d.1,true),d.2.1.1,d.2.2,n7.1,n7.2.1,n7.2.2.1,bf.1,n1.1,n1.2.1,n1.2.2.1,n3.1,n3.2.1,d.2.1.2,n3.2.2.2)) λaj=>ret (aj,d.2.1.2)) no) no) no) no) no) no) no) no) no) no) no) no) no) no) no) no) no) no) no)
def kd:=λx=>(JY BU BV cq cW fm x).val
theorem atl:∀uO U3 aY bb ep,D0 [ag2 uO,av2 U3,oN aY,qU bb,Fq ep] 175 mA (lf Ha) λb=>JY uO U3 aY bb ep b:=λ_ _ _ _ _ b=>by kernel_rfl
theorem atm [ax]:SC (Yl kd):=s0 (.c avY (.c aKH (.c sM (.c wQ (.c Rj (.nil _)))))) (atl BU BV cq cW fm)
def mB:=qa (pu (cu jj nil) (cd vU λb0=>(c mZ (c od (c (cl (gs b0.c.1 oX) nil) (cd xp λb4=>(cd qB λb5=>(cd qC λb6=>(cd qD λb7=>(cd qE λb8=>(cd qF λb9=>(c ny (cd zu λA4=>(c (cl (gs b0.e mL) nil) (c (cl (gs b4.b.1 aA) nil) (c (cl (gs b5.b.1 aA) nil) (c (cl (gs b6.b.1 aA) nil) (c (cl (gs b7.b.1 aA) nil) (c (cl (gs b8.b.1 aA) nil) (c (cl (gs b9.b.1 aA) nil) (cl (cl (gs A4.b jF) nil) nil)))))))))))))))))))))
def DP:=qe (res (pl (aa aP8) (pu (cu fK aw0) nil)))
abbrev sN:=DP.B
abbrev yY:=mB.B->Option sN
def Ft (g:yY):Ct:=(16,FC mB (lf DP) g)
def sO (rN:HR)(xf:Nu)(x:mB.B):Pg sN:=let n3:=x.1.2.2.2.2.2;let n2:=n3.2.2.2.2.2.2.2.2;let n4:=n2.2.2.1;let n1:=x.2.2.2.2.2.2.2.2.2.2.1;let n5:=n1.1.2.2;opt (rN n2.1 n1.1.1 n1.1.2.1 n5.1 n5.2.1 n5.2.2.1 n5.2.2.2 n1.2) λd=>opt (xf n1.1.1 n1.1.2.1 n5.1 n5.2.1 n5.2.2.1 n5.2.2.2 n1.2) λaj=>ret (n3.1.1,n3.1.2.1,n3.1.2.2.1,n3.1.2.2.2,n2.1,d,n2.2.1,aj,x.1.2.1,n4.1.1,n4.1.2.1,n4.1.2.2.1,n4.1.2.2.2,n4.2.1.1,n4.2.1.2.1,n4.2.1.2.2,n4.2.2)
def gk:=λx=>(sO nK qw x).val
theorem anA:∀rN xf,D0 [HS rN,Nv xf] 16 mB (lf DP) λb=>sO rN xf b:=λ_ _ b=>by kernel_rfl
theorem Rk [ax]:SC (Ft gk):=s0 (.c acB (.c ajF (.nil _))) (anA nK qw)
def Ee:=qa (pu (cu jj nil) (cd vU λb0=>(c mZ (c od (c (cl (gs b0.c.1 oX) nil) (cd xp λb4=>(cd qB λb5=>(cd qC λb6=>(cd qD λb7=>(cd qE λb8=>(cd qF λb9=>(c ny (cd zu λA4=>(c (cl (gs b0.e mL) nil) (c (cl (gs b4.b.1 aA) nil) (c (cl (gs b5.b.1 aA) nil) (c (cl (gs b6.b.1 aA) nil) (c (cl (gs b7.b.1 aA) nil) (c (cl (gs b8.b.1 aA) nil) (c (cl (gs b9.b.1 aA) nil) (cl (cl (gs A4.b jF) nil) nil)))))))))))))))))))))
def JZ:=qe (res (pl aV4 (pu (cu fK aw0) nil)))
abbrev aam:=JZ.B
abbrev awf:=Ee.B->Option aam
def aan (g:awf):Ct:=(40,FC Ee (lf JZ) g)
def aao (tz:KA)(x:Ee.B):Pg aam:=let n2:=x.2.2.2.2.2.2.2.2.2.2.2;let n1:=n2.2.2.2.2.2.2.2.2;let n3:=n1.2.2.2.2.2;ae (ww n2.1.2.2 n2.1.2.2) (opt (tz n2.1.1 n2.1.2.1 n2.1.2.2 n1.1 n1.2.1 n1.2.2.1 n1.2.2.2.1 n1.2.2.2.2.1 n3.1 n3.2.1 n3.2.2.1 n3.2.2.2.1 n3.2.2.2.2.1 n3.2.2.2.2.2) λd=>ret d) no
def aap:=λx=>(aao AW x).val
theorem awg:∀tz,D0 [KB tz] 40 Ee (lf JZ) λb=>aao tz b:=λ_ b=>by kernel_rfl
theorem awh [ax]:SC (aan aap):=s0 (.c ad6 (.nil _)) (awg AW)
def oO:=qa (pr (cu jj iL) (cd vU λb0=>(c mZ (c od (c (cl (gs b0.c.1 oX) nil) (cd xp λb4=>(cd qB λb5=>(cd qC λb6=>(cd qD λb7=>(cd qE λb8=>(cd qF λb9=>(c ny (cd zu λA4=>(c (cl (gs b0.e mL) nil) (c (cl (gs b4.b.1 aA) nil) (c (cl (gs b5.b.1 aA) nil) (c (cl (gs b6.b.1 aA) nil) (c (cl (gs b7.b.1 aA) nil) (c (cl (gs b8.b.1 aA) nil) (c (cl (gs b9.b.1 aA) nil) (cl (cl (gs A4.b jF) nil) nil)))))))))))))))))))))
def DQ:=qe (res (pl (aa aVk) (pu (cu fK aw0) nil)))
abbrev Fu:=DQ.B
abbrev Fv:=oO.B->Option Fu
def Rl (g:Fv):Ct:=(17,FC oO (lf DQ) g)
def yZ (rO:HU)(x:oO.B):Pg Fu:=let n1:=x.2.2.2.2.2.2.2.2.2.2.2.1;let n2:=n1.1.2.2;opt (rO x.1 n1.1.1 n1.1.2.1 n2.1 n2.2.1 n2.2.2.1 n2.2.2.2 n1.2) λd=>ret d
def mC:=λx=>(yZ kC x).val
theorem anB:∀rO,D0 [HV rO] 17 oO (lf DQ) λb=>yZ rO b:=λ_ b=>by kernel_rfl
theorem anC [ax]:SC (Rl mC):=s0 (.c acD (.nil _)) (anB kC)
def fa:=qa (pr (cu jj Dy) (cd vU λb0=>(c mZ (c od (c (cl (gs b0.c.1 oX) nil) (cd xp λb4=>(cd qB λb5=>(cd qC λb6=>(cd qD λb7=>(cd qE λb8=>(cd qF λb9=>(c ny (cd zu λA4=>(c (cl (gs b0.e mL) nil) (c (cl (gs b4.b.1 aA) nil) (c (cl (gs b5.b.1 aA) nil) (c (cl (gs b6.b.1 aA) nil) (c (cl (gs b7.b.1 aA) nil) (c (cl (gs b8.b.1 aA) nil) (c (cl (gs b9.b.1 aA) nil) (cl (cl (gs A4.b jF) nil) nil)))))))))))))))))))))
def U4:=qe (res (pu Qs (pr (c (zp (a 26 xq (c gb (c iC (a 2 zw (cu aj5 (cu aj6 (c aIR (au 6 akg (cu atS (a 4 Ev (cu atT (c gb (c gi (a 3 mK (c gb (c gb (cu awO aP9)))))))))))))))))) aQb) aJq)))
def Ef:=qe ar6
abbrev nP:=(((Es×Bool×NI×(NI×NI)×Nat×qj×Bool×Int×lu×Bool×Bool×Int×Int×Dx×Nat)×aRE×Int)×NI×NI×NI×NI×NI×NI×NI×NI×NI×NI)⊕Ef.B
def H2:nP->T:=ls (λd=>lf U4 (((d.1.1.1,d.1.1.2.1,d.1.1.b.1,d.1.1.b.2.1,d.1.1.c.1,d.1.1.c.2.1,d.1.1.c.b.1,d.1.1.c.b.2.1,d.1.1.d.1,d.1.1.d.2.1,d.1.1.d.b.1,d.1.1.d.b.2.1,d.1.1.d.b.2),d.1.2),d.1.1.d.c.b,d.2)) (lf Ef)
abbrev H4:=fa.B->Option nP
def H5 (g:H4):Ct:=(168,FC fa H2 g)
def rP (uN:agP)(Cl:Yi)(dr:Al)(F6:adR)(Cm:Xw)(Fw:amH)(bb:qT)(ep:Fo)(gG:Fa)(x:fa.B):Pg nP:=let n25:=x.1.2.2.2;let n22:=x.2.1.1;let n58:=n22.2.2.2.2;let n9:=x.2.1.2.2;let bI:=n9.2.2.2.2.2.2.2.2.2;let n7:=x.2.2;let n47:=n7.2.1;let n16:=n7.2.2;let n32:=n16.2.1;let n4:=n16.2.2;let n33:=n4.2.1;let n23:=n4.2.2.1;let n6:=n4.2.2.2;let n34:=n6.2.1;let n17:=n6.2.2.2;let y0:=n9.2.2.2.1.2.1==2;let y1:=ww n9.2.2.1 n9.2.2.1;let y2:=ww bI.2.2.2.2.2 bI.2.2.2.2.2;let y3:=ww n32.2.2.1 n32.2.2.1;let y4:=ww n4.1.2.2.1 n4.1.2.2.1;let y5:=ww n33.2.2.1 n33.2.2.1;let y6:=ww n23.2.2.1 n23.2.2.1;let y7:=ww n6.1.2.2.1 n6.1.2.2.1;let y8:=ww n34.2.2.1 n34.2.2.1;let y9:=ww n17.1.2.2 n17.1.2.2;opt (uN x.1.1 x.1.2.1 x.1.2.2.1 n25.1 n25.2.1 n25.2.2.1 n25.2.2.2.1 n25.2.2.2.2.1 n25.2.2.2.2.2 x.2.1.2.1) λd=>let n57:=d.1.1;let bq:=n57.2.2;let n38:=bq.2.2;let n1:=((n57.1,n57.2.1,bq.1),(bq.2.1,n38.1,n38.2.1),n38.2.2);let n3:=(Cl (n1,(n22,d.2,n9),n7));let n2:=(n9.1,n1,n58.1.1);ae (!bI.1) (ae y1 (ae y2 (ae y3 (ae y4 (ae y5 (ae y6 (ae y7 (ae y8 (ae y9 (opt n3 λd=>let aT:=d.1.2.2.2.2;let n26:=aT.2.2.2.2;let n48:=n26.2.2.2.2.2;ae (ww aT.1 aT.1) (ae (ww n48.2.2.2 n48.2.2.2) (ae y3 (ae y4 (ae y5 (ae y6 (ae y7 (ae y8 (ae y9 (opt (dr (0,d.1,n7.1,n47,n16.1,n32,n4.1,n33,n23,n6.1,n34,n6.2.2.1,n17.1,d.2,n17.2.2)) λaj=>ret (wr (((d.1.1,d.1.2.1,d.1.2.2.1,d.1.2.2.2.1,aT.1,aT.2.1,aT.2.2.1,aT.2.2.2.1,n26.1,n26.2.1,n26.2.2.1,n48),aj),d.2))) no) no) no) no) no) no) no) no) no) no) no) no) no) no) no) no) no) no) (ae (decide (wI (bI.2.2.1-bI.2.1)>n58.2.2.2.2.1)) (ae y1 (ae y2 (ae y3 (ae y4 (ae y5 (ae y6 (ae y7 (ae y8 (ae y9 (opt n3 λd=>let bf:=d.1.2.2.2.2;let n27:=bf.2.2.2.2;let n49:=n27.2.2.2.2.2;ae (ww bf.1 bf.1) (ae (ww n49.2.2.2 n49.2.2.2) (ae y3 (ae y4 (ae y5 (ae y6 (ae y7 (ae y8 (ae y9 (opt (dr (0,d.1,n7.1,n47,n16.1,n32,n4.1,n33,n23,n6.1,n34,n6.2.2.1,n17.1,d.2,n17.2.2)) λaj=>ret (wr (((d.1.1,d.1.2.1,d.1.2.2.1,d.1.2.2.2.1,bf.1,bf.2.1,bf.2.2.1,bf.2.2.2.1,n27.1,n27.2.1,n27.2.2.1,n49),aj),d.2))) no) no) no) no) no) no) no) no) no) no) no) no) no) no) no) no) no) no) (opt (F6 n9.1 n57.1 n57.2.1 bq.1 bq.2.1 n38.1 n38.2.1 n38.2.2.1 n38.2.2.2 n58.1.1 d.2) λaj=>let n35:=aj.2.1;let n24:=aj.2.2.1;let n8:=aj.2.2.2;let n55:=n8.2.2.1;let n36:=n8.2.1;let n5:=n8.2.2.2;let n56:=n5.2.2.1;let bp:=n5.2.2.2;let n37:=bp.2.2;opt (Cm (n2,aj.1,n7.1)) λaC=>sm aC (λbx=>ae y0 (opt (Fw (n2,bx.2,n7.1)) λd=>ae y1 (ae y2 (ae y3 (ae y4 (ae y5 (ae y6 (ae y7 (ae y8 (ae y9 (opt (bb ((0,4,true),(n22,d.2,n9),(ayQ (λk=>cr (n35 k) [d.1.1.1 k,bp.1 k,n55 k,n35 k]) (cr n24 [d.1.1.2.1,bp.2.1,n5.1,n24],cr n8.1 [d.1.1.2.2.1,n37.1,n5.2.1,n8.1],cr n36 [d.1.1.2.2.2,n37.2,n56,n36])),n7)) λd=>let n39:=d.2.2;let n18:=d.2.1;let n50:=n18.1.2.2.2.2;let TA:=n18.2.1.2;let n28:=n50.2.2.2.2.2.2.2.2.2.2.2.2;let y0:=wI (wl d.1-1);let y1:=ws y0;ae (ww d.1 d.1) (ae (ww n50.1 n50.1) (ae (ww n28 n28) (ae y3 (ae y4 (ae y5 (ae y6 (ae y7 (ae y8 (ae y9 (opt (ep ((d.1,true),n18.1,n39,n7.1,n47,n16.1,n32,n4.1,n33,n23,n6.1,n34,n18.2,n17)) λcH=>ae (cH.2.2.2.2.2.1.2.1==2) (ae (bg 2 d.1) (ae (bg y0 d.1) (opt (gG (n39.1 2) (n39.2.1 2) (n39.2.2 2) (n39.1 y1) (n39.2.1 y1) (n39.2.2 y1) n18.2.1.1 TA.1 TA.2.1 TA.2.2.1 TA.2.2.2.1 TA.2.2.2.2 n18.2.2) λd=>ret (wn (cH,d))) no) no) (ret (wn (cH,n18.2)))) no) no) no) no) no) no) no) no) no) no) no) no) no) no) no) no) no) no) no) (ae y1 (ae y2 (ae y3 (ae y4 (ae y5 (ae y6 (ae y7 (ae y8 (ae y9 (opt (bb ((0,3,true),(n22,bx.2,n9),(ayQ (λk=>cr (n35 k) [bp.1 k,n55 k,n35 k]) (cr n24 [bp.2.1,n5.1,n24],cr n8.1 [n37.1,n5.2.1,n8.1],cr n36 [n37.2,n56,n36])),n7)) λd=>let O7:=d.2.2;let n19:=d.2.1;let n51:=n19.1.2.2.2.2;let TB:=n19.2.1.2;let n29:=n51.2.2.2.2.2.2.2.2.2.2.2.2;let y0:=wI (wl d.1-1);let y1:=ws y0;ae (ww d.1 d.1) (ae (ww n51.1 n51.1) (ae (ww n29 n29) (ae y3 (ae y4 (ae y5 (ae y6 (ae y7 (ae y8 (ae y9 (opt (ep ((d.1,true),n19.1,O7,n7.1,n47,n16.1,n32,n4.1,n33,n23,n6.1,n34,n19.2,n17)) λcH=>ae (cH.2.2.2.2.2.1.2.1==2) (ae (bg 2 d.1) (ae (bg y0 d.1) (opt (gG (O7.1 2) (O7.2.1 2) (O7.2.2 2) (O7.1 y1) (O7.2.1 y1) (O7.2.2 y1) n19.2.1.1 TB.1 TB.2.1 TB.2.2.1 TB.2.2.2.1 TB.2.2.2.2 n19.2.2) λd=>ret (wn (cH,d))) no) no) (ret (wn (cH,n19.2)))) no) no) no) no) no) no) no) no) no) no) no) no) no) no) no) no) no) no) no)) (λbx=>let n59:=bx.2.2;let n15:=n59.2.2;let n52:=n15.2.2;ae y0 (opt (Fw (n2,bx.1,n7.1)) λd=>ae y1 (ae y2 (ae y3 (ae y4 (ae y5 (ae y6 (ae y7 (ae y8 (ae y9 (opt (bb ((0,6,true),(n22,d.2,n9),(ayQ (λk=>cr (n35 k) [d.1.1.1 k,n15.2.1 k,bx.2.1 k,bp.1 k,n55 k,n35 k]) (cr n24 [d.1.1.2.1,n52.1,n59.1,bp.2.1,n5.1,n24],cr n8.1 [d.1.1.2.2.1,n52.2.1,n59.2.1,n37.1,n5.2.1,n8.1],cr n36 [d.1.1.2.2.2,n52.2.2,n15.1,n37.2,n56,n36])),n7)) λd=>let n43:=d.2.2;let n20:=d.2.1;let n53:=n20.1.2.2.2.2;let n44:=n20.2.1.2;let n30:=n53.2.2.2.2.2.2.2.2.2.2.2.2;let y0:=wI (wl d.1-1);let y1:=ws y0;ae (ww d.1 d.1) (ae (ww n53.1 n53.1) (ae (ww n30 n30) (ae y3 (ae y4 (ae y5 (ae y6 (ae y7 (ae y8 (ae y9 (opt (ep ((d.1,true),n20.1,n43,n7.1,n47,n16.1,n32,n4.1,n33,n23,n6.1,n34,n20.2,n17)) λcH=>ae (cH.2.2.2.2.2.1.2.1==2) (ae (bg 2 d.1) (ae (bg y0 d.1) (opt (gG (n43.1 2) (n43.2.1 2) (n43.2.2 2) (n43.1 y1) (n43.2.1 y1) (n43.2.2 y1) n20.2.1.1 n44.1 n44.2.1 n44.2.2.1 n44.2.2.2.1 n44.2.2.2.2 n20.2.2) λd=>ret (wn (cH,d))) no) no) (ret (wn (cH,n20.2)))) no) no) no) no) no) no) no) no) no) no) no) no) no) no) no) no) no) no) no) (ae y1 (ae y2 (ae y3 (ae y4 (ae y5 (ae y6 (ae y7 (ae y8 (ae y9 (opt (bb ((0,5,true),(n22,bx.1,n9),(ayQ (λk=>cr (n35 k) [n15.2.1 k,bx.2.1 k,bp.1 k,n55 k,n35 k]) (cr n24 [n52.1,n59.1,bp.2.1,n5.1,n24],cr n8.1 [n52.2.1,n59.2.1,n37.1,n5.2.1,n8.1],cr n36 [n52.2.2,n15.1,n37.2,n56,n36])),n7)) λd=>let n45:=d.2.2;let n21:=d.2.1;let n54:=n21.1.2.2.2.2;let n46:=n21.2.1.2;let n31:=n54.2.2.2.2.2.2.2.2.2.2.2.2;let y0:=wI (wl d.1-1);let y1:=ws y0;ae (ww d.1 d.1) (ae (ww n54.1 n54.1) (ae (ww n31 n31) (ae y3 (ae y4 (ae y5 (ae y6 (ae y7 (ae y8 (ae y9 (opt (ep ((d.1,true),n21.1,n45,n7.1,n47,n16.1,n32,n4.1,n33,n23,n6.1,n34,n21.2,n17)) λcH=>ae (cH.2.2.2.2.2.1.2.1==2) (ae (bg 2 d.1) (ae (bg y0 d.1) (opt (gG (n45.1 2) (n45.2.1 2) (n45.2.2 2) (n45.1 y1) (n45.2.1 y1) (n45.2.2 y1) n21.2.1.1 n46.1 n46.2.1 n46.2.2.1 n46.2.2.2.1 n46.2.2.2.2 n21.2.2) λd=>ret (wn (cH,d))) no) no) (ret (wn (cH,n21.2)))) no) no) no) no) no) no) no) no) no) no) no) no) no) no) no) no) no) no) no))))
def gm:=λx=>(rP yK mz ec vK qP AQ cW fm fj x).val
theorem acL:∀uN Cl dr F6 Cm Fw bb ep gG,D0 [agQ uN,Yj Cl,Am dr,adS F6,Xx Cm,amI Fw,qU bb,Fq ep,Fb gG] 168 fa H2 λb=>rP uN Cl dr F6 Cm Fw bb ep gG b:=λ_ _ _ _ _ _ _ _ _ b=>by kernel_rfl
theorem acM [ax]:SC (H5 gm):=s0 (.c avI (.c atk (.c G' (.c ax9 (.c as0 (.c aFg (.c wQ (.c Rj (.c XQ (.nil _)))))))))) (acL yK mz ec vK qP AQ cW fm fj)
def fX:=qa (pr (cu jj (c ai Dy)) (cd vU λb0=>(c mZ (c od (c (cl (gs b0.c.1 oX) nil) (cd xp λb4=>(cd qB λb5=>(cd qC λb6=>(cd qD λb7=>(cd qE λb8=>(cd qF λb9=>(c ny (cd zu λA4=>(c (cl (gs b0.e mL) nil) (c (cl (gs b4.b.1 aA) nil) (c (cl (gs b5.b.1 aA) nil) (c (cl (gs b6.b.1 aA) nil) (c (cl (gs b7.b.1 aA) nil) (c (cl (gs b8.b.1 aA) nil) (c (cl (gs b9.b.1 aA) nil) (cl (cl (gs A4.b jF) nil) nil)))))))))))))))))))))
def aeN:=qe (res (pr ab (pr (cl (zp (a 26 xq (c gb (c iC (a 2 zw (cu (gp 20 5) (cu (gp 21 10) (c (gc (iW (pu (nat 22) (pu (ox (pu eN (pu eN Gg))) (pl lV (pu Gg jx)))))) aWw)))))))) aC7) aWD)))
abbrev kg:=(Bool×(Es×Bool×NI×(NI×NI)×Nat×qj×Bool×Int×lu×Bool×Bool×Bool×Int×Int×Int×Dx×Nat)×(lu×Int×Int)×KR×aUx×bK×bK×bK×bK×bK×bK×KN×tf×aL6×Ah×Ah×Ah×Ah×Ah×Ah×NI×NI×NI×NI×NI×NI×NI×NI×NI×NI×NI)
def M3:kg->T:=λd=>lf aeN (d.1,d.2.1,d.b.1,d.b.2.1,(d.2.1.c.1,d.c.1),d.c.2.1,d.c.b.1,d.c.b.2.1,d.d.1,d.d.2.1,d.d.b.1,d.d.b.2.1,d.d.c.1,(d.2.1.e,d.d.c.2.1),d.d.c.b.1,d.d.c.b.2.1,d.e.1,d.e.2.1,d.e.b.1,d.e.b.2.1,d.d.c.1.b,d.e.c)
abbrev Cw:=fX.B->Option kg
def M4 (g:Cw):Ct:=(22,FC fX M3 g)
def pF (aTy:ayj)(fT:AY)(aCi:Ty)(nw:DK)(rb:JN)(x:fX.B):Pg kg:=let n30:=x.1.1;let n28:=x.1.2;let n29:=n28.2.2.2.2;let n23:=x.2.1;let n19:=x.2.2;let n24:=n19.2.1;let bI:=n19.2.2;let n20:=bI.2.1;let n17:=bI.2.2;let n33:=n17.1.2.2.1;let n21:=n17.2.1;let bq:=n17.2.2;let n34:=bq.1.2.2.1;let n22:=bq.2.1;let n18:=bq.2.2;let n35:=n18.1.2.2.1;let n25:=n18.2.1;let n15:=n18.2.2;let n31:=n15.2.2;let n27:=n15.2.1;let n26:=n31.2.2;let n32:=n26.2.2;let n16:=n32.2.2;let bp:=(nw (n20,n31.1));let bf:=(nw (n17.1,n31.2.1));let aT:=(nw (n21,n26.1));let n9:=(nw (bq.1,n26.2.1));let n8:=(nw (n22,n32.1));let n7:=(nw (n18.1,n32.2.1));let n6:=(n20.2.2.1,n31.1);let n5:=(n33,n31.2.1);let n4:=(n21.2.2.1,n26.1);let n3:=(n34,n26.2.1);let n2:=(n22.2.2.1,n32.1);let n1:=(n35,n32.2.1);let y0:=bg n30 6;let y1:=n30==1;let y2:=n30==4;let y3:=n30==3;let y4:=n30==2;let y5:=n30==5;let y6:=ww n20.2.2.1 n20.2.2.1;let y7:=ww n33 n33;let y8:=ww n21.2.2.1 n21.2.2.1;let y9:=ww n34 n34;let zW:=ww n22.2.2.1 n22.2.2.1;let uM:=ww n35 n35;opt (aTy n30) λd=>ae (!d) (ret (false,n23,n19.1,n24,bI.1,n20,n17.1,n21,bq.1,n22,n18.1,n25,n15.1,n27,n6,n5,n4,n3,n2,n1,n16)) (opt (fT n28.1 0 1125899906842624) λd=>ae (!d) (ae y0 (ae y5 (ae uM (opt n7 λd=>ret (false,n23,n19.1,n24,bI.1,n20,n17.1,n21,bq.1,n22,d,n25,n15.1,n27,n6,n5,n4,n3,n2,n1,n16)) no) (ae y2 (ae zW (opt n8 λd=>ret (false,n23,n19.1,n24,bI.1,n20,n17.1,n21,bq.1,d,n18.1,n25,n15.1,n27,n6,n5,n4,n3,n2,n1,n16)) no) (ae y3 (ae y9 (opt n9 λd=>ret (false,n23,n19.1,n24,bI.1,n20,n17.1,n21,d,n22,n18.1,n25,n15.1,n27,n6,n5,n4,n3,n2,n1,n16)) no) (ae y4 (ae y8 (opt aT λd=>ret (false,n23,n19.1,n24,bI.1,n20,n17.1,d,bq.1,n22,n18.1,n25,n15.1,n27,n6,n5,n4,n3,n2,n1,n16)) no) (ae y1 (ae y7 (opt bf λd=>ret (false,n23,n19.1,n24,bI.1,n20,d,n21,bq.1,n22,n18.1,n25,n15.1,n27,n6,n5,n4,n3,n2,n1,n16)) no) (ae y6 (opt bp λd=>ret (false,n23,n19.1,n24,bI.1,d,n17.1,n21,bq.1,n22,n18.1,n25,n15.1,n27,n6,n5,n4,n3,n2,n1,n16)) no)))))) no) (opt (aCi n30 n28.1 n28.2.1 n28.2.2.1 n28.2.2.2.1 n29.1 n29.2.1 n29.2.2.1 n29.2.2.2.1 n29.2.2.2.2) λd=>ae (!d) (ae y0 (ae y5 (ae uM (opt n7 λd=>ret (false,n23,n19.1,n24,bI.1,n20,n17.1,n21,bq.1,n22,d,n25,n15.1,n27,n6,n5,n4,n3,n2,n1,n16)) no) (ae y2 (ae zW (opt n8 λd=>ret (false,n23,n19.1,n24,bI.1,n20,n17.1,n21,bq.1,d,n18.1,n25,n15.1,n27,n6,n5,n4,n3,n2,n1,n16)) no) (ae y3 (ae y9 (opt n9 λd=>ret (false,n23,n19.1,n24,bI.1,n20,n17.1,n21,d,n22,n18.1,n25,n15.1,n27,n6,n5,n4,n3,n2,n1,n16)) no) (ae y4 (ae y8 (opt aT λd=>ret (false,n23,n19.1,n24,bI.1,n20,n17.1,d,bq.1,n22,n18.1,n25,n15.1,n27,n6,n5,n4,n3,n2,n1,n16)) no) (ae y1 (ae y7 (opt bf λd=>ret (false,n23,n19.1,n24,bI.1,n20,d,n21,bq.1,n22,n18.1,n25,n15.1,n27,n6,n5,n4,n3,n2,n1,n16)) no) (ae y6 (opt bp λd=>ret (false,n23,n19.1,n24,bI.1,d,n17.1,n21,bq.1,n22,n18.1,n25,n15.1,n27,n6,n5,n4,n3,n2,n1,n16)) no)))))) no) (ae y0 (ae y5 (ae uM (opt (rb (n28,n18.1,n32.2.1)) λd=>sm d (λd=>ret (false,n23,n19.1,n24,bI.1,n20,n17.1,n21,bq.1,n22,d,n25,n15.1,n27,n6,n5,n4,n3,n2,n1,n16)) (λd=>ret (d.1,n23,n19.1,n24,bI.1,n20,n17.1,n21,bq.1,n22,d.2.1,n25,n15.1,n27,n6,n5,n4,n3,n2,(d.2.1.2.2.1,d.2.2),n16))) no) (ae y2 (ae zW (opt (rb (n28,n22,n32.1)) λd=>sm d (λd=>ret (false,n23,n19.1,n24,bI.1,n20,n17.1,n21,bq.1,d,n18.1,n25,n15.1,n27,n6,n5,n4,n3,n2,n1,n16)) (λd=>ret (d.1,n23,n19.1,n24,bI.1,n20,n17.1,n21,bq.1,d.2.1,n18.1,n25,n15.1,n27,n6,n5,n4,n3,(d.2.1.2.2.1,d.2.2),n1,n16))) no) (ae y3 (ae y9 (opt (rb (n28,bq.1,n26.2.1)) λd=>sm d (λd=>ret (false,n23,n19.1,n24,bI.1,n20,n17.1,n21,d,n22,n18.1,n25,n15.1,n27,n6,n5,n4,n3,n2,n1,n16)) (λd=>ret (d.1,n23,n19.1,n24,bI.1,n20,n17.1,n21,d.2.1,n22,n18.1,n25,n15.1,n27,n6,n5,n4,(d.2.1.2.2.1,d.2.2),n2,n1,n16))) no) (ae y4 (ae y8 (opt (rb (n28,n21,n26.1)) λd=>sm d (λd=>ret (false,n23,n19.1,n24,bI.1,n20,n17.1,d,bq.1,n22,n18.1,n25,n15.1,n27,n6,n5,n4,n3,n2,n1,n16)) (λd=>ret (d.1,n23,n19.1,n24,bI.1,n20,n17.1,d.2.1,bq.1,n22,n18.1,n25,n15.1,n27,n6,n5,(d.2.1.2.2.1,d.2.2),n3,n2,n1,n16))) no) (ae y1 (ae y7 (opt (rb (n28,n17.1,n31.2.1)) λd=>sm d (λd=>ret (false,n23,n19.1,n24,bI.1,n20,d,n21,bq.1,n22,n18.1,n25,n15.1,n27,n6,n5,n4,n3,n2,n1,n16)) (λd=>ret (d.1,n23,n19.1,n24,bI.1,n20,d.2.1,n21,bq.1,n22,n18.1,n25,n15.1,n27,n6,(d.2.1.2.2.1,d.2.2),n4,n3,n2,n1,n16))) no) (ae y6 (opt (rb (n28,n20,n31.1)) λd=>sm d (λd=>ret (false,n23,n19.1,n24,bI.1,d,n17.1,n21,bq.1,n22,n18.1,n25,n15.1,n27,n6,n5,n4,n3,n2,n1,n16)) (λd=>ret (d.1,n23,n19.1,n24,bI.1,d.2.1,n17.1,n21,bq.1,n22,n18.1,n25,n15.1,n27,(d.2.1.2.2.1,d.2.2),n5,n4,n3,n2,n1,n16))) no)))))) no)))
def dF:=λx=>(pF O5 nN Db iR oi x).val
abbrev Cy:=ayj×AY×Ty×DK×JN
def M5 (p:Cy):KK:=⟨[aIi p.1,XU p.2.1,ajd p.b.1,Nw p.b.2.1,X8 p.c],⟨[],[],(0::rg 4 6 []),[],(some ⟨0,(rg 0 6 (rg 7 28 [])),[(3,[]),(4,[]),(5,[]),(6,[]),(7,[]),(8,[]),(9,[]),(10,[]),(11,[]),(12,[]),(13,[]),(14,[]),(15,[]),(16,[]),(17,[]),(18,[]),(19,[]),(20,[]),(21,[]),(0,[])]⟩)⟩,0,22⟩
theorem ahr (p:Cy):D2 (M5 p) fX M3 λb=>pF p.1 p.2.1 p.b.1 p.b.2.1 p.c b:=λb=>by kernel_rfl
abbrev M6:Cy:=(O5,nN,Db,iR,oi)
theorem ahs [ax]:SC (M4 dF):=sc (kS (k:=M5 M6) (.c aTt (.c ang (.c aB6 (.c ajH (.c ata (.nil _)))))) [] [] trivial trivial (ahr M6))
end Go.Proofs.YtldgljclcgaibaaGreat
