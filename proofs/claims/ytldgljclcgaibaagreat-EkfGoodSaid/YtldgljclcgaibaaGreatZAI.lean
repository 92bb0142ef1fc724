/-
  Parts of the proof: Q3 TF TG TH
-/
import Derived.Test.YtldgljclcgaibaaGreatZAE
import Derived.Test.YtldgljclcgaibaaGreatZAG
import Derived.Test.YtldgljclcgaibaaGreatZAH
open Nat renaming beq→z9,ble→wr
open Int renaming toNat→z4,ofNat→ws
open Sum renaming inl→ww,inr→wt
set_option linter.unusedVariables false
set_option linter.unusedSimpArgs false
set_option maxRecDepth 100000
set_option maxHeartbeats 4000000
noncomputable section
namespace Go.Proofs.YtldgljclcgaibaaGreat
open Go.Ab Go.Ab.Pg Go.Ab.Rq
def Lm:=qa (dp (cu aS (c kY (c AU (cl aJ3 nil)))) λa=>(c xU (cl (cl (gs a.b.1 aKw) nil) nil)))
def aLA:=qe (res (pr (rZ (c agf (c ala (cl (rc (fJ (pu rq4 (pu AS (pl gH (pu rq7 fL)))))) nil)))) (pr Ow (cl aPX nil))))
abbrev abl:=((NI×(NI×NI)×Nat)×Bool×(Nat->Bool)×NI×NI)
def aBl:abl->T:=λd=>lf aLA (d.1,d.2.1,d.1.b,d.b)
abbrev aBm:=Lm.B->Option abl
def aBn (g:aBm):Ct:=(254,vR 3 [.i .i64,.i .i64,.i .i64,.i .i64,.i .i64,.i .i64,.i .i64,.i .i64,.i .i64,.i .i64,.i .i64,.i .i64,.i .i64,.i .i64,.i .i64,.i .i64,.i .i64,.i .i64,.i .i64,.i .i64,.i .i64,.i .i64,.i .i64,.i .i64,.i .i64,.i .i64,.i .i64] (FC Lm aBl g))
def pV:=qs (st (dp (cu aS (us 4 (cu EL (cu aIP (us 1 (cu aqu (cu (app 5 300) (us 1 (c aWC (us 3 (c aJ3 aPE))))))))))) λa=>(pl (c cG (c (so (cl (gs a.2.1.1 aKw) nil)) (c nX (c jx (c nX (c jx (cl (so (cl (gs a.1 as4) nil)) nil))))))) cY)))
def aH3:=qs (st (pr (cu aS (us 4 (cu EL (cu aIP (us 1 (cu aqu (cu (app 5 300) (us 1 (c aWC (us 3 (c aJ3 aPK))))))))))) (pl (c cG (c (so (cl (ga (pr gH aKw)) nil)) (c nX (c jx (c nX (c jx aWw)))))) cY)))
abbrev Ec:=((Nat×(Nat×Bool)×Int×Int×Bool)×Bool×(NI×NI×NI×NI×NI×NI×NI×NI×NI×NI×NI×NI×NI×NI×NI×NI×NI×NI×NI×NI×NI×NI×NI×NI×NI×NI×NI)×NI×(NI×NI)×NI×(NI×NI)×(Nat->Bool)×NI×NI)
def arN {ρ:Type}(x:Ec)(K:AX->St->Option ρ):Option ρ:=(λd=>K (.ex 0) (aH3.em (d.1,d.2.1,(d.1.2.1.1,d.b.1),d.b.2.1,d.c.1,d.c.2.1,d.c.b.1,d.1.1,d.c.b.2))) x
def Q4 (aOj:ano)(d:pV.B):PL pV Ec:=let bc:=d.1.1;let n5:=d.1.2.2;let n4:=d.2.2;let n7:=n4.2.2;let n3:=n4.1.2.2.2.2;let n8:=n3.2.2.2;let n1:=n8.2.2.2.2;let n9:=n1.2.2.2;let n2:=n9.2.2.2.2;let n6:=n2.2.2.2.2;let y0:=z4 n5.2;let y1:=bc+1;let y2:=decide (n5.2<n5.1);ae y2 (ae (bf n5.2 d.1.2.1.1) (opt (aOj n4.2.1 n7.1.1 n7.1.2 (cr (n4.1.1 y0) [n6.2.1 y0,n6.1 y0,n2.2.2.2.1 y0,n2.2.2.1 y0,n2.2.1 y0,n2.1 y0,n9.2.2.2.1 y0,n9.2.2.1 y0,n9.2.1 y0,n9.1 y0,n1.2.2.1 y0,n1.2.1 y0,n1.1 y0,n8.2.2.2.1 y0,n8.2.2.1 y0,n8.2.1 y0,n8.1 y0,n3.2.2.1 y0,n3.2.1 y0,n3.1 y0,n4.1.2.2.2.1 y0,n4.1.2.2.1 y0,n4.1.2.1 y0,n4.1.1 y0]) (n6.2.2.1 y0) (n6.2.2.2.1 y0) (n6.2.2.2.2 y0) d.2.1) λak=>ae (wr (y1*24) 140737488355328) (ret (ww ((y1,d.1.2.1,n5.1,wI (n5.2+1)),ak.2,n4.1,ak.1.1,ak.1.2.1,n7.2.1,n7.2.2.1,λj=>bif z9 j bc then ak.1.2.2.1 else n7.2.2.2.1 j,λj=>bif z9 j bc then ak.1.2.2.2.1 else n7.2.2.2.2.1 j,λj=>bif z9 j bc then ak.1.2.2.2.2 else n7.2.2.2.2.2 j))) no) no) (ret (wt ((bc,d.1.2.1,n5.1,n5.2,y2),d.2)))
def Q5:=bE (Q4 F2) 2000
def abm (eB:LT pV Ec)(x:Lm.B):Pg abl:=ae (z9 x.1.2.2.1 x.1.2.2.1) (ae true (opt (eB ((0,x.1.2.2,ws x.1.2.2.1,0),x.2.1,x.2.2,x.1.1,x.1.2.1,λx=>0,(λx=>0,λx=>0),λx=>false,λx=>0,λx=>0)) λd=>ret ((d.2.2.2.1,d.2.2.2.2.1,d.1.1),d.2.1,d.2.2.2.2.2.2.2)) no) no
def F4:=λx=>(abm Q5 x).val
abbrev abn:=ano×(LT pV Ec)
def anw (p:abn):KK:=⟨[aBj p.1],⟨[⟨3,(rg 1 4 (7::10::12::13::14::rg 18 20 [])),[(11,[.b,.i .i64,.i .i64])]⟩],[gx 3 2 pV arN p.2],[0],[],(some ⟨0,(rg 0 8 (rg 11 27 [])),[]⟩)⟩,2,254⟩
theorem aGu (p:abn):LI (anw p) 3 pV arN (Q4 p.1):=λ_ d c K=>by kernel_rfl
theorem aOk (p:abn):D2 (anw p) Lm aBl λb=>abm p.2 b:=λb=>by kernel_rfl
abbrev anx:abn:=(F2,Q5)
theorem aOl [ay]:SC (aBn F4):=sc (Sound.nil 3 [.i .i64,.i .i64,.i .i64,.i .i64,.i .i64,.i .i64,.i .i64,.i .i64,.i .i64,.i .i64,.i .i64,.i .i64,.i .i64,.i .i64,.i .i64,.i .i64,.i .i64,.i .i64,.i .i64,.i .i64,.i .i64,.i .i64,.i .i64,.i .i64,.i .i64,.i .i64,.i .i64]<|kS (k:=anw anx) (.c aOb (.nil _)) [3] [] ⟨kL (aGu anx),trivial⟩ trivial (aOk anx))
def arO:=qa (dp (cl aPi nil) λa=>(cl (cl (gs a.1 as4) nil) nil))
def Yr:=qe aWt
abbrev arP:=Yr.B
abbrev ade:=Nat->(Nat->Bool)->NI->NI->Bool->Option arP
def adf (g:ade):Ct:=(255,vR 0 [.b,.i .i64,.i .i64] (FC arO (lf Yr) (λb=>g b.1.1 b.2.1 b.b.1 b.b.2 b.1.2)))
def oP:=qs (st (dp (us 2 (c ai (c ai (us 2 (c aPi (c ai aVE)))))) λa=>(pl (cl (so (cl (gs a.b.1.1 as4) nil)) nil) nil)))
def aC3:=qs (st (pr (us 2 (c ai (c ai (us 2 (c aPi (c ai aVU)))))) (pl aWw nil)))
abbrev DI:=((Int×Int×(Nat×Bool)×Int×Int×Bool)×(Nat->Bool)×NI×NI)
def ajC {ρ:Type}(x:DI)(K:AX->St->Option ρ):Option ρ:=(λd=>K (.ex 0) (aC3.em (d.1,d.1.b.1.1,d.2))) x
def T4 (d:oP.B):PL oP DI:=let n1:=d.1.2.2;let n2:=n1.2.2;let y0:=decide (n2<n1.2.1);ae y0 (ae (bf n2 n1.1.1) (ae (d.2.1 (z4 n2)) (ret (ww ((wI (d.1.1+1),d.1.2.1,n1.1,n1.2.1,wI (n2+1)),d.2))) (ret (ww ((d.1.1,wI (d.1.2.1+1),n1.1,n1.2.1,wI (n2+1)),d.2)))) no) (ret (wt ((d.1.1,d.1.2.1,n1.1,n1.2.1,n2,y0),d.2)))
def T5:=bE (T4) 2000
def adg (eB:LT oP DI)(x0:Nat)(x1:Nat->Bool)(x2:Nat->Int)(x3:Nat->Int)(w0:Bool):Pg arP:=ae (z9 x0 x0) (opt (eB ((0,0,(x0,w0),ws x0,0),x1,x2,x3)) λd=>ret (d.1.1,d.1.2.1)) no
def z7:=λx0 x1 x2 x3 w0=>(adg T5 x0 x1 x2 x3 w0).val
abbrev Q6:=(LT oP DI)
def adh (p:Q6):KK:=⟨[],⟨[⟨2,(0::1::4::5::rg 9 12 []),[]⟩],[gx 2 1 oP ajC p],[],[],(some ⟨0,(0::1::rg 4 17 []),[]⟩)⟩,1,255⟩
theorem azh (p:Q6):LI (adh p) 2 oP ajC (T4):=λ_ d c K=>by kernel_rfl
theorem aH4 (p:Q6):D2 (adh p) arO (lf Yr) λb=>adg p b.1.1 b.2.1 b.b.1 b.b.2 b.1.2:=λb=>by kernel_rfl
abbrev adi:Q6:=T5
theorem arQ [ay]:SC (adf z7):=sc (Sound.nil 0 [.b,.i .i64,.i .i64]<|kS (k:=adh adi) (.nil _) [2] [] ⟨kL (azh adi),trivial⟩ trivial (aH4 adi))
def aeX:=qa (pu nil nil)
def M7:=qe (res (pu (aa (cu axW (cu aX aKx))) (pu nil nil)))
abbrev Pr:=M7.B
abbrev mw:=Option Pr
def rI (g:mw):Ct:=(48,FC aeX (lf M7) (λ_=>g))
def Ps (jb:BS):Pg Pr:=opt jb λd=>ret ()
def eL:Option Pr:=(Ps oI).val
theorem azi:∀jb,D0 [Li jb] 48 aeX (lf M7) λb=>Ps jb:=λ_ b=>by kernel_rfl
theorem wC [ay]:SC (rI eL):=s0 (.c RM (.nil _)) (azi oI)
def arR:=qa (dp (cu aS (cl aPj nil)) λa=>(c xU (cl (cl (gs a.1 kZ) nil) nil)))
def Ys:=qe (res (pr (aa aP6) (pl Ow nil)))
abbrev arS:=Ys.B
abbrev adj:=Nat->Bool->NI->NI->NI->NI->NI->NI->NI->NI->NI->NI->Bool->Option arS
def arT (g:adj):Ct:=(113,vR 1 [.i .i64,.i .i64,.i .i64,.i .i64,.i .i64,.i .i64,.i .i64,.i .i64,.i .i64,.i .i64] (FC arR (lf Ys) (λb=>g b.1.1 b.2.1 b.b.1 b.b.2.1 b.c.1 b.c.2.1 b.c.b.1 b.c.b.2.1 b.d.1 b.d.2.1 b.d.b.1 b.d.b.2 b.1.2)))
def mx:=qs (st (dp (cu aS (us 3 (cu (app 2 10) (cu (app 3 10) (c aWD (c aWE (us 3 (c aPj (c ai aVF))))))))) λa=>(pl (c cG (c (so (cl (gs a.b.1.1 kZ) nil)) (cu aXj (c aXd (c (so (cl (gs a.1 as3) nil)) (cl aEj nil)))))) cY)))
def aC4:=qs (st (pr (cu aS (us 3 (cu (app 2 10) (cu (app 3 10) (c aWD (c aWE (us 3 (c aPj (c ai aVV))))))))) (pl (c cG (c xZ (cu aXj (c aXd (c aEj (cl aEj nil)))))) cY)))
abbrev yM:=((Nat×Nat×(Nat×Bool)×Int×Int×Bool)×Bool×aSf×aIM×(NI×NI×NI)×Nat×NI×NI×NI)
def ajD {ρ:Type}(x:yM)(K:AX->St->Option ρ):Option ρ:=(λd=>K (.ex 0) (aC4.em (d.1,d.2.1,(d.1.b.1.1,d.b.1),d.b.2.1,(d.1.1,d.c.1),d.c.2))) x
def JR (eY:zd)(bC:jg)(d:mx.B):PL mx yM:=let n6:=d.1.1;let n2:=d.1.2;let n4:=n2.2.2;let n1:=d.2.2;let n5:=n1.2.2;let n3:=n1.1.2.2.2.2;let y0:=n6+1;let y1:=z4 n4.2;let y2:=n2.1+1;let y3:=decide (n4.2<n4.1);ae y3 (ae (bf n4.2 n2.2.1.1) (opt (eY (n1.1.1 y1) (n1.1.2.1 y1) (n1.1.2.2.1 y1) (n1.1.2.2.2.1 y1) n1.2.1.1 n1.2.1.2.1 n1.2.1.2.2.1 n1.2.1.2.2.2 d.2.1) λak=>opt (bC ak.1.1 ak.1.2.1 ak.1.2.2.1 ak.1.2.2.2 ak.2) λaK=>ae (wr (y0*24) 140737488355328) (ae (wr (y2*24) 140737488355328) (ret (ww ((y0,y2,n2.2.1,n4.1,wI (n4.2+1)),aK.2,n1.1,aK.1,(λj=>bif z9 j n6 then n3.1 y1 else n5.1.1 j,λj=>bif z9 j n6 then n3.2.1 y1 else n5.1.2.1 j,λj=>bif z9 j n6 then n3.2.2.1 y1 else n5.1.2.2 j),y2,λj=>bif z9 j n2.1 then n3.2.2.2.1 y1 else n5.2.2.1 j,λj=>bif z9 j n2.1 then n3.2.2.2.2.1 y1 else n5.2.2.2.1 j,λj=>bif z9 j n2.1 then n3.2.2.2.2.2 y1 else n5.2.2.2.2 j))) no) no) no) (ret (wt ((n6,n2.1,n2.2.1,n4.1,n4.2,y3),d.2)))
def JS:=bE (JR lR di) 2000
def Q7 (cv:mw)(ec:Cu)(eB:LT mx yM)(x0:Nat)(x1:Bool)(x2:Nat->Int)(x3:Nat->Int)(x4:Nat->Int)(x5:Nat->Int)(x6:Nat->Int)(x7:Nat->Int)(x8:Nat->Int)(x9:Nat->Int)(fX:Nat->Int)(fY:Nat->Int)(w0:Bool):Pg arS:=opt cv λd=>ae (z9 x0 x0) (ae true (opt (eB ((0,0,(x0,w0),ws x0,0),x1,(x2,x3,x4,x5,x6,x7,x8,x9,fX,fY),(1073741824,0,0,0),(λx=>0,λx=>0,λx=>0),0,λx=>0,λx=>0,λx=>0)) λd=>let n1:=d.2.2.2;ae (z9 d.1.1 d.1.1) (opt (ec d.1.1 d.2.1 n1.2.1.1 n1.2.1.2.1 n1.2.1.2.2 true) λak=>ae (z9 d.1.2.1 d.1.2.1) (opt (ec d.1.2.1 ak.2 n1.2.2.2.1 n1.2.2.2.2.1 n1.2.2.2.2.2 true) λaK=>ret ((n1.1.1,n1.1.2.1,n1.1.2.2.1,n1.1.2.2.2,ak.1.1,ak.1.2.1,ak.1.2.2,aK.1),aK.2)) no) no) no) no
def z8:=λx0 x1 x2 x3 x4 x5 x6 x7 x8 x9 fX fY w0=>(Q7 eL lg JS x0 x1 x2 x3 x4 x5 x6 x7 x8 x9 fX fY w0).val
abbrev Q8:=mw×zd×jg×Cu×(LT mx yM)
def adk (p:Q8):KK:=⟨[rI p.1,FT p.2.1,nQ p.b.1,Ks p.b.2.1],⟨[⟨4,(1::2::3::8::9::10::rg 14 32 []),[(6,[.i .i64,.i .i64,.i .i64]),(7,[.i .i64,.i .i64,.i .i64])]⟩],[gx 4 2 mx ajD p.c],[0],[],(some ⟨0,(rg 0 4 (rg 5 41 [])),[]⟩)⟩,2,113⟩
theorem azj (p:Q8):LI (adk p) 4 mx ajD (JR p.2.1 p.b.1):=λ_ d c K=>by kernel_rfl
theorem aH5 (p:Q8):D2 (adk p) arR (lf Ys) λb=>Q7 p.1 p.b.2.1 p.c b.1.1 b.2.1 b.b.1 b.b.2.1 b.c.1 b.c.2.1 b.c.b.1 b.c.b.2.1 b.d.1 b.d.2.1 b.d.b.1 b.d.b.2 b.1.2:=λb=>by kernel_rfl
abbrev adl:Q8:=(eL,lR,di,lg,JS)
theorem aH6 [ay]:SC (arT z8):=sc (Sound.nil 1 [.i .i64,.i .i64,.i .i64,.i .i64,.i .i64,.i .i64,.i .i64,.i .i64,.i .i64,.i .i64]<|kS (k:=adk adl) (.c wC (.c Lj (.c pR (.c O' (.nil _))))) [4] [] ⟨kL (azj adl),trivial⟩ trivial (aH5 adl))
def awE:=qa (pr (cu aS (c kY (c AU zW))) bK)
def adm:=qe (res (pr (rZ (c agf (c ala (cl (ra (c gi (c gi (c gi (cl gi (cu aX (cu aX (cu aX (cu aX (cu aX (cu aX (cu (gc axS) nil)))))))))))) nil)))) (pl mG nil)))
abbrev awF:=adm.B
abbrev awG:=NI->NI->NI->Int->Int->Bool->Option awF
def awH (g:awG):Ct:=(221,FC awE (lf adm) (λb=>g b.1.1 b.1.2.1.1 b.1.2.1.2 b.1.b.1 b.1.b.2 b.2))
def VV (aR:fH)(cv:mw)(M8:amS)(bk:dU)(eY:zd)(bC:jg)(cL:sD)(ch:gE)(x0:Nat->Int)(x1:Nat->Int)(x2:Nat->Int)(x3:Int)(x4:Int)(x5:Bool):Pg awF:=opt (aR x0 x5) λd=>opt cv λak=>opt (M8 x3 d.2) λaK=>opt (bk d.1) λbJ=>opt (eY aK.1.1 aK.1.2.1 aK.1.2.2.1 aK.1.2.2.2 bJ.1 bJ.2.1 bJ.2.2.1 bJ.2.2.2 aK.2) λcI=>opt (bC cI.1.1 cI.1.2.1 cI.1.2.2.1 cI.1.2.2.2 cI.2) λeV=>opt (cL d.1 0 4 (cr eV.1.1 [eV.1.2.2.2,eV.1.2.2.1,eV.1.2.1,eV.1.1]) false) λd=>opt (aR d eV.2) λd=>opt (ch x1 x2 0 4 d.2 (cr x4 [x4,x4,x4,x4]) true) λdq=>ret ((d.1,dq.1,aK.1),dq.2)
def CM:=λx0 x1 x2 x3 x4 x5=>(VV bY eL FR cg lR di dJ cS x0 x1 x2 x3 x4 x5).val
theorem aLB:∀aR cv M8 bk eY bC cL ch,D0 [jJ aR,rI cv,amT M8,jh bk,FT eY,nQ bC,z5 cL,Bj ch] 221 awE (lf adm) λb=>VV aR cv M8 bk eY bC cL ch b.1.1 b.1.2.1.1 b.1.2.1.2 b.1.b.1 b.1.b.2 b.2:=λ_ _ _ _ _ _ _ _ b=>by kernel_rfl
theorem aLC [ay]:SC (awH CM):=s0 (.c kM (.c wC (.c aGa (.c j8 (.c Lj (.c pR (.c D9 (.c FX (.nil _))))))))) (aLB bY eL FR cg lR di dJ cS)
def anz:=qa (dp (cu aS (c kY aPG)) λa=>(c xU (cl (cl (gs a.b.1 oF) nil) nil)))
def aC5:=qe (res (pr (rZ (c agf (cl (rc (fJ (pu rq4 (pu AS (pl gH (pu Ek fL)))))) nil))) (pr Ow (cl aKi nil))))
abbrev M9:=((NI×Nat)×Bool×NI)
def anA:M9->T:=λd=>lf aC5 (d.1,d.2.1,d.1.2,d.b)
abbrev M':=NI->Int->Nat->Bool->NI->Bool->Option M9
def Na (g:M'):Ct:=(263,vR 3 [.i .i64] (FC anz anA (λb=>g b.1.1 b.1.2.1 b.1.b.1 b.2.1 b.b b.1.b.2)))
def mR:=qs (st (dp (cu aS (us 1 (c ai (us 2 (cu EL (us 2 (cu aiU (us 1 (cu aqu (c aWF (us 3 (c IC (c ai (cl ai (us 39 nil))))))))))))))) λa=>(pl (c cG (c (so (cl (gs a.b.1.1 oF) nil)) (c nX (c nX (c nX (cl (so (cl (gs a.2.1 oF) nil)) nil)))))) cY)))
def azk:=qs (st (pr (cu aS (us 1 (c ai (us 2 (cu EL (us 2 (cu aiU (us 1 (cu aqu (c aWF (us 3 (c IC (c ai (c ai aVG)))))))))))))) (pl (c cG (c J8 (c nX (c nX (c nX ak9))))) cY)))
abbrev Bm:=((Int×Nat×(Nat×Bool)×Int×Int×Bool)×Bool×NI×NI×NI×uH×NI)
def aeY {ρ:Type}(x:Bm)(K:AX->St->Option ρ):Option ρ:=(λd=>K (.ex 0) (azk.em (d.1,d.2.1,(d.1.b.1.1,d.b.1),d.b.2.1,d.c.1,d.c.2.1,d.1.2.1,d.c.b))) x
def Pu (aG:cm)(ba:dr)(d:mR.B):PL mR Bm:=let n2:=d.2.2.2;let n1:=d.1.2.2;let n3:=n1.2.2;let y0:=d.1.2.1+1;let y1:=wI (d.1.1+n3);let y2:=z4 y1;let y3:=bf y1 24;let y4:=decide (n3<n1.2.1);ae y4 (ae (bf n3 n1.1.1) (ae y3 (ae y3 (opt (aG (d.2.2.1 (z4 n3)) (wI (0-n2.2.2.1 y2)) (n2.2.2.1 y2) d.2.1) λak=>ae y3 (opt (ba ak.1 (n2.1 y2) ak.2) λaK=>ae (wr (y0*8) 140737488355328) (ae y3 (ae (true&&wr (0+y2*1+1) 24) (ret (ww ((d.1.1,y0,n1.1,n1.2.1,wI (n3+1)),aK.2,d.2.2.1,λj=>bif z9 j y2 then ak.1 else n2.1 j,n2.2.1,n2.2.2.1,λj=>bif z9 j d.1.2.1 then aK.1 else n2.2.2.2 j))) no) no) no) no) no) no) no) (ret (wt ((d.1.1,d.1.2.1,n1.1,n1.2.1,n3,y4),d.2)))
def Pv:=bE (Pu aV bT) 2000
def Nb (DE:uJ)(aR:fH)(eB:LT mR Bm)(x0:Nat->Int)(x1:Int)(x2:Nat)(x3:Bool)(x4:Nat->Int)(w0:Bool):Pg M9:=opt DE λd=>ae (z9 x2 x2) (ae true (opt (eB ((x1,0,(x2,w0),ws x2,0),x3,x4,x0,λx=>0,d,λx=>0)) λd=>opt (aR d.2.2.2.1 d.2.1) λak=>ret ((ak.1,d.1.2.1),ak.2,d.2.2.2.2.2.2)) no) no
def iy:=λx0 x1 x2 x3 x4 w0=>(Nb kC bY Pv x0 x1 x2 x3 x4 w0).val
abbrev Nc:=uJ×cm×dr×fH×(LT mR Bm)
def Yt (p:Nc):KK:=⟨[JL p.1,ey p.2.1,iL p.b.1,jJ p.b.2.1],⟨[⟨4,(1::3::4::6::7::9::12::13::14::rg 18 39 []),[(11,[.i .i64])]⟩],[gx 4 2 mR aeY p.c],[0],[],(some ⟨0,(rg 0 8 (rg 10 47 [])),[]⟩)⟩,2,263⟩
theorem awI (p:Nc):LI (Yt p) 4 mR aeY (Pu p.2.1 p.b.1):=λ_ d c K=>by kernel_rfl
theorem aGv (p:Nc):D2 (Yt p) anz anA λb=>Nb p.1 p.b.2.1 p.c b.1.1 b.1.2.1 b.1.b.1 b.2.1 b.b b.1.b.2:=λb=>by kernel_rfl
abbrev Yu:Nc:=(kC,aV,bT,bY,Pv)
theorem Yv [ay]:SC (Na iy):=sc (Sound.nil 3 [.i .i64]<|kS (k:=Yt Yu) (.c TU (.c eO (.c jH (.c kM (.nil _))))) [4] [] ⟨kL (awI Yu),trivial⟩ trivial (aGv Yu))
def anB:=qa (pr (cu (app 0 2) zW) (cd (c (gc (zV 1 1)) (cl (gc (zV 2 1)) nil)) λb0=>(c (cl (gs b0.1 oF) nil) (cl (cl (gs b0.2 oF) nil) nil))))
def aC6:=qe (res (pu Wt (pr (cl (B9 (c (gc (zV 3 1)) (cl (gc (zV 4 1)) nil))) (cu Wu aMF)) (c aKi (cl aKi nil)))))
abbrev Yw:=((Nat×Nat)×NI×NI)
def anC:Yw->T:=λd=>lf aC6 (d.1,(d.1.1,d.2.1),d.1.2,d.b)
abbrev Yx:=Int->Int->Nat->Nat->NI->NI->Option Yw
def anD (g:Yx):Ct:=(247,FC anB anC (λb=>g b.1.1 b.1.2 b.2.1.1 b.2.1.2 b.b.1 b.b.2))
def Yy (x0:Int)(x1:Int)(x2:Nat)(x3:Nat)(x4:Nat->Int)(x5:Nat->Int):Pg Yw:=let y0:=x2+2;let y1:=x3+2;ae (wr (y0*8) 140737488355328) (ae (wr (y1*8) 140737488355328) (ret ((y0,y1),λj=>bif z9 j (x2+1) then x0 else bif z9 j x2 then x0 else x4 j,λj=>bif z9 j (x3+1) then x1 else bif z9 j x3 then x1 else x5 j)) no) no
def ny:=λx0 x1 x2 x3 x4 x5=>(Yy x0 x1 x2 x3 x4 x5).val
theorem aGw:D0 [] 247 anB anC λb=>Yy b.1.1 b.1.2 b.2.1.1 b.2.1.2 b.b.1 b.b.2:=λb=>by kernel_rfl
theorem aGx [ay]:SC (anD ny):=s0 (.nil _) aGw
def arU:=qa (pr (cu aS (c agi HV)) bK)
def Yz:=qe (res (pr (aa aQb) (pl mG nil)))
abbrev arV:=Yz.B
abbrev IW:=Int->Int->Int->Int->Int->Int->Int->Bool->Option arV
def adn (g:IW):Ct:=(218,FC arU (lf Yz) (λb=>g b.1.1.1 b.1.1.2.1 b.1.1.b.1 b.1.1.b.2 b.1.2.1 b.1.b.1 b.1.b.2 b.2))
def ado (ax:bS)(FU:O6)(bm:Yx)(bp:eU)(x0:Int)(x1:Int)(x2:Int)(x3:Int)(x4:Int)(x5:Int)(x6:Int)(x7:Bool):Pg arV:=opt (ax x0 x7) λd=>let y0:=wI (0-d.1);opt (ax x1 d.2) λak=>let se:=wI (0-ak.1);opt (ax x2 ak.2) λaK=>let are:=wI (0-aK.1);opt (ax x3 aK.2) λbJ=>let aaQ:=wI (0-bJ.1);opt (FU x4 x5 x6 bJ.2) λcI=>let n2:=cI.1.1;let n1:=cI.1.2;opt (bm d.1 n2 0 0 (λx=>0) λx=>0) λeV=>ae (z9 eV.1.1 eV.1.1) (ae (z9 eV.1.2 eV.1.2) (opt (bm aK.1 n1.2 eV.1.1 eV.1.2 eV.2.1 eV.2.2) λdq=>ae (z9 dq.1.1 dq.1.1) (ae (z9 dq.1.2 dq.1.2) (opt (bm aaQ n1.1 dq.1.1 dq.1.2 dq.2.1 dq.2.2) λnu=>ae (z9 nu.1.1 nu.1.1) (ae (z9 nu.1.2 nu.1.2) (opt (bp 30 nu.1.1 nu.1.2 cI.2 nu.2.1 nu.2.2 true true) λtX=>opt (bm se n2 0 0 (λx=>0) λx=>0) λpO=>ae (z9 pO.1.1 pO.1.1) (ae (z9 pO.1.2 pO.1.2) (opt (bm ak.1 n2 pO.1.1 pO.1.2 pO.2.1 pO.2.2) λmj=>ae (z9 mj.1.1 mj.1.1) (ae (z9 mj.1.2 mj.1.2) (opt (bm ak.1 n2 mj.1.1 mj.1.2 mj.2.1 mj.2.2) λxV=>ae (z9 xV.1.1 xV.1.1) (ae (z9 xV.1.2 xV.1.2) (opt (bm aK.1 n1.1 xV.1.1 xV.1.2 xV.2.1 xV.2.2) λLl=>ae (z9 Ll.1.1 Ll.1.1) (ae (z9 Ll.1.2 Ll.1.2) (opt (bm bJ.1 n1.2 Ll.1.1 Ll.1.2 Ll.2.1 Ll.2.2) λMR=>ae (z9 MR.1.1 MR.1.1) (ae (z9 MR.1.2 MR.1.2) (opt (bp 30 MR.1.1 MR.1.2 tX.2 MR.2.1 MR.2.2 true true) λaGy=>opt (bm are n2 0 0 (λx=>0) λx=>0) λabo=>ae (z9 abo.1.1 abo.1.1) (ae (z9 abo.1.2 abo.1.2) (opt (bm ak.1 n1.1 abo.1.1 abo.1.2 abo.2.1 abo.2.2) λaeZ=>ae (z9 aeZ.1.1 aeZ.1.1) (ae (z9 aeZ.1.2 aeZ.1.2) (opt (bm d.1 n1.2 aeZ.1.1 aeZ.1.2 aeZ.2.1 aeZ.2.2) λabp=>ae (z9 abp.1.1 abp.1.1) (ae (z9 abp.1.2 abp.1.2) (opt (bp 30 abp.1.1 abp.1.2 aGy.2 abp.2.1 abp.2.2 true true) λaGz=>opt (bm aaQ n2 0 0 (λx=>0) λx=>0) λanE=>ae (z9 anE.1.1 anE.1.1) (ae (z9 anE.1.2 anE.1.2) (opt (bm ak.1 n1.2 anE.1.1 anE.1.2 anE.2.1 anE.2.2) λarW=>ae (z9 arW.1.1 arW.1.1) (ae (z9 arW.1.2 arW.1.2) (opt (bm y0 n1.1 arW.1.1 arW.1.2 arW.2.1 arW.2.2) λanF=>ae (z9 anF.1.1 anF.1.1) (ae (z9 anF.1.2 anF.1.2) (opt (bp 30 anF.1.1 anF.1.2 aGz.2 anF.2.1 anF.2.2 true true) λa1s=>opt (bm d.1 n1.1 0 0 (λx=>0) λx=>0) λaBo=>ae (z9 aBo.1.1 aBo.1.1) (ae (z9 aBo.1.2 aBo.1.2) (opt (bm bJ.1 n2 aBo.1.1 aBo.1.2 aBo.2.1 aBo.2.2) λaBp=>ae (z9 aBp.1.1 aBp.1.1) (ae (z9 aBp.1.2 aBp.1.2) (opt (bm se n1.2 aBp.1.1 aBp.1.2 aBp.2.1 aBp.2.2) λaBq=>ae (z9 aBq.1.1 aBq.1.1) (ae (z9 aBq.1.2 aBq.1.2) (opt (bp 30 aBq.1.1 aBq.1.2 a1s.2 aBq.2.1 aBq.2.2 true true) λa1t=>opt (bm se n1.1 0 0 (λx=>0) λx=>0) λaBr=>ae (z9 aBr.1.1 aBr.1.1) (ae (z9 aBr.1.2 aBr.1.2) (opt (bm aK.1 n2 aBr.1.1 aBr.1.2 aBr.2.1 aBr.2.2) λaBs=>ae (z9 aBs.1.1 aBs.1.1) (ae (z9 aBs.1.2 aBs.1.2) (opt (bm y0 n1.2 aBs.1.1 aBs.1.2 aBs.2.1 aBs.2.2) λaBt=>ae (z9 aBt.1.1 aBt.1.1) (ae (z9 aBt.1.2 aBt.1.2) (opt (bp 30 aBt.1.1 aBt.1.2 a1t.2 aBt.2.1 aBt.2.2 true true) λa1u=>opt (bm are n1.1 0 0 (λx=>0) λx=>0) λaBu=>ae (z9 aBu.1.1 aBu.1.1) (ae (z9 aBu.1.2 aBu.1.2) (opt (bm aK.1 n1.1 aBu.1.1 aBu.1.2 aBu.2.1 aBu.2.2) λaBv=>ae (z9 aBv.1.1 aBv.1.1) (ae (z9 aBv.1.2 aBv.1.2) (opt (bm ak.1 n2 aBv.1.1 aBv.1.2 aBv.2.1 aBv.2.2) λaBw=>ae (z9 aBw.1.1 aBw.1.1) (ae (z9 aBw.1.2 aBw.1.2) (opt (bm aK.1 n1.1 aBw.1.1 aBw.1.2 aBw.2.1 aBw.2.2) λaBx=>ae (z9 aBx.1.1 aBx.1.1) (ae (z9 aBx.1.2 aBx.1.2) (opt (bm bJ.1 n1.2 aBx.1.1 aBx.1.2 aBx.2.1 aBx.2.2) λaBy=>ae (z9 aBy.1.1 aBy.1.1) (ae (z9 aBy.1.2 aBy.1.2) (opt (bp 30 aBy.1.1 aBy.1.2 a1u.2 aBy.2.1 aBy.2.2 true true) λa1v=>opt (bm aaQ n1.1 0 0 (λx=>0) λx=>0) λaBz=>ae (z9 aBz.1.1 aBz.1.1) (ae (z9 aBz.1.2 aBz.1.2) (opt (bm aK.1 n1.2 aBz.1.1 aBz.1.2 aBz.2.1 aBz.2.2) λaBA=>ae (z9 aBA.1.1 aBA.1.1) (ae (z9 aBA.1.2 aBA.1.2) (opt (bm d.1 n2 aBA.1.1 aBA.1.2 aBA.2.1 aBA.2.2) λaBB=>ae (z9 aBB.1.1 aBB.1.1) (ae (z9 aBB.1.2 aBB.1.2) (opt (bp 30 aBB.1.1 aBB.1.2 a1v.2 aBB.2.1 aBB.2.2 true true) λa1w=>opt (bm d.1 n1.2 0 0 (λx=>0) λx=>0) λaBC=>ae (z9 aBC.1.1 aBC.1.1) (ae (z9 aBC.1.2 aBC.1.2) (opt (bm ak.1 n1.1 aBC.1.1 aBC.1.2 aBC.2.1 aBC.2.2) λaBD=>ae (z9 aBD.1.1 aBD.1.1) (ae (z9 aBD.1.2 aBD.1.2) (opt (bm are n2 aBD.1.1 aBD.1.2 aBD.2.1 aBD.2.2) λaBE=>ae (z9 aBE.1.1 aBE.1.1) (ae (z9 aBE.1.2 aBE.1.2) (opt (bp 30 aBE.1.1 aBE.1.2 a1w.2 aBE.2.1 aBE.2.2 true true) λa1x=>opt (bm se n1.2 0 0 (λx=>0) λx=>0) λaBF=>ae (z9 aBF.1.1 aBF.1.1) (ae (z9 aBF.1.2 aBF.1.2) (opt (bm bJ.1 n2 aBF.1.1 aBF.1.2 aBF.2.1 aBF.2.2) λaBG=>ae (z9 aBG.1.1 aBG.1.1) (ae (z9 aBG.1.2 aBG.1.2) (opt (bm d.1 n1.1 aBG.1.1 aBG.1.2 aBG.2.1 aBG.2.2) λd=>ae (z9 d.1.1 d.1.1) (ae (z9 d.1.2 d.1.2) (opt (bp 30 d.1.1 d.1.2 a1x.2 d.2.1 d.2.2 true true) λd=>opt (bm are n1.2 0 0 (λx=>0) λx=>0) λaBH=>ae (z9 aBH.1.1 aBH.1.1) (ae (z9 aBH.1.2 aBH.1.2) (opt (bm bJ.1 n1.1 aBH.1.1 aBH.1.2 aBH.2.1 aBH.2.2) λaBI=>ae (z9 aBI.1.1 aBI.1.1) (ae (z9 aBI.1.2 aBI.1.2) (opt (bm y0 n2 aBI.1.1 aBI.1.2 aBI.2.1 aBI.2.2) λaBJ=>ae (z9 aBJ.1.1 aBJ.1.1) (ae (z9 aBJ.1.2 aBJ.1.2) (opt (bp 30 aBJ.1.1 aBJ.1.2 d.2 aBJ.2.1 aBJ.2.2 true true) λa1y=>opt (bm aaQ n1.2 0 0 (λx=>0) λx=>0) λaBK=>ae (z9 aBK.1.1 aBK.1.1) (ae (z9 aBK.1.2 aBK.1.2) (opt (bm bJ.1 n1.2 aBK.1.1 aBK.1.2 aBK.2.1 aBK.2.2) λaBL=>ae (z9 aBL.1.1 aBL.1.1) (ae (z9 aBL.1.2 aBL.1.2) (opt (bm ak.1 n2 aBL.1.1 aBL.1.2 aBL.2.1 aBL.2.2) λaBM=>ae (z9 aBM.1.1 aBM.1.1) (ae (z9 aBM.1.2 aBM.1.2) (opt (bm aK.1 n1.1 aBM.1.1 aBM.1.2 aBM.2.1 aBM.2.2) λaBN=>ae (z9 aBN.1.1 aBN.1.1) (ae (z9 aBN.1.2 aBN.1.2) (opt (bm bJ.1 n1.2 aBN.1.1 aBN.1.2 aBN.2.1 aBN.2.2) λaBO=>ae (z9 aBO.1.1 aBO.1.1) (ae (z9 aBO.1.2 aBO.1.2) (opt (bp 30 aBO.1.1 aBO.1.2 a1y.2 aBO.2.1 aBO.2.2 true true) λa1z=>ret ((tX.1,aGy.1,aGz.1,a1s.1,a1t.1,a1u.1,a1v.1,a1w.1,a1x.1,d.1,a1y.1,a1z.1),a1z.2)) no) no) no) no) no) no) no) no) no) no) no) no) no) no) no) no) no) no) no) no) no) no) no) no) no) no) no) no) no) no) no) no) no) no) no) no) no) no) no) no) no) no) no) no) no) no) no) no) no) no) no) no) no) no) no) no) no) no) no) no) no) no) no) no) no) no) no) no) no) no) no) no) no) no) no) no) no) no) no) no) no) no) no) no
def Aa:=λx0 x1 x2 x3 x4 x5 x6 x7=>(ado aP Co ny bD x0 x1 x2 x3 x4 x5 x6 x7).val
abbrev adp:=bS×O6×Yx×eU
def arX (p:adp):KK:=⟨[dD p.1,ahq p.2.1,anD p.b.1,nw p.b.2],⟨[⟨2,(1::2::3::rg 7 10 (rg 18 124 [])),[]⟩,⟨10,(1::2::3::7::rg 10 24 (rg 35 107 [])),[]⟩,⟨19,(1::2::3::7::rg 11 23 (rg 35 38 (rg 74 68 []))),[]⟩,⟨28,(1::2::3::7::11::12::13::rg 16 18 (rg 35 38 (rg 74 29 (rg 104 38 [])))),[]⟩],[],[],[],(some ⟨0,(rg 0 6 (rg 7 135 [])),[]⟩)⟩,0,218⟩
theorem aH7 (p:adp):D2 (arX p) arU (lf Yz) λb=>ado p.1 p.2.1 p.b.1 p.b.2 b.1.1.1 b.1.1.2.1 b.1.1.b.1 b.1.1.b.2 b.1.2.1 b.1.b.1 b.1.b.2 b.2:=λb=>by kernel_rfl
abbrev arY:adp:=(aP,Co,ny,bD)
theorem arZ [ay]:SC (adn Aa):=sc (kS (k:=arX arY) (.c dI (.c atK (.c aGx (.c pF (.nil _))))) [2,10,19,28] [] ⟨kN,⟨kN,⟨kN,⟨kN,trivial⟩⟩⟩⟩ trivial (aH7 arY))
def ar0:=qa (pl Em nil)
def YA:=qe aWj
abbrev ar1:=YA.B
abbrev IX:=Int->Int->Int->Int->Int->Int->Int->Int->Int->Option ar1
def adq (g:IX):Ct:=(137,FC ar0 (lf YA) (λb=>g b.1 b.2.1 b.b.1 b.b.2.1 b.c.1 b.c.2.1 b.c.b.1 b.c.b.2.1 b.d))
def adr (x0:Int)(x1:Int)(x2:Int)(x3:Int)(x4:Int)(x5:Int)(x6:Int)(x7:Int)(x8:Int):Pg ar1:=ret (x1,x2,x3)
def Ac:=λx0 x1 x2 x3 x4 x5 x6 x7 x8=>(adr x0 x1 x2 x3 x4 x5 x6 x7 x8).val
theorem aH8:D0 [] 137 ar0 (lf YA) λb=>adr b.1 b.2.1 b.b.1 b.b.2.1 b.c.1 b.c.2.1 b.c.b.1 b.c.b.2.1 b.d:=λb=>by kernel_rfl
theorem ar2 [ay]:SC (adq Ac):=s0 (.nil _) aH8
def ar3:=qa (pl HV nil)
def YB:=qe AT
abbrev ads:=YB.B
abbrev vZ:=Int->Int->Int->Option ads
def Ad (g:vZ):Ct:=(76,FC ar3 (lf YB) (λb=>g b.1 b.2.1 b.b))
def IY (x0:Int)(x1:Int)(x2:Int):Pg ads:=ae (decide (x0>= -900000000)) (ae (decide (x0<=900000000)) (ae (decide (x1>= -1800000000)) (ae (decide (x1<=1800000000)) (ae (decide (x2>= -100000000)) (ret (decide (x2<=100000000))) (ret false)) (ret false)) (ret false)) (ret false)) (ret false)
def gT:=λx0 x1 x2=>(IY x0 x1 x2).val
theorem aH9:D0 [] 76 ar3 (lf YB) λb=>IY b.1 b.2.1 b.b:=λb=>by kernel_rfl
theorem Ed [ay]:SC (Ad gT):=s0 (.nil _) aH9
def awJ:=qa (pl Em nil)
def adt:=qe AT
abbrev awK:=adt.B
abbrev ah2:=Int->Int->Int->Int->Int->Int->Int->Int->Int->Option awK
def awL (g:ah2):Ct:=(136,FC awJ (lf adt) (λb=>g b.1 b.2.1 b.b.1 b.b.2.1 b.c.1 b.c.2.1 b.c.b.1 b.c.b.2.1 b.d))
def ah3 (adu:IX)(cU:vZ)(x0:Int)(x1:Int)(x2:Int)(x3:Int)(x4:Int)(x5:Int)(x6:Int)(x7:Int)(x8:Int):Pg awK:=ae (decide (x4< -1000000)) (ret false) (ae (decide (x4>1000000)) (ret false) (ae (decide (x5< -1000000)) (ret false) (ae (decide (x5>1000000)) (ret false) (ae (decide (x6< -1000000)) (ret false) (ae (decide (x6>1000000)) (ret false) (ae (decide (x7<1)) (ret false) (ae (decide (x7>1000000)) (ret false) (ae (decide (x8<1)) (ret false) (ae (decide (x8>1000000)) (ret false) (opt (adu x0 x1 x2 x3 x4 x5 x6 x7 x8) λd=>opt (cU d.1 d.2.1 d.2.2) λd=>ret d))))))))))
def Nd:=λx0 x1 x2 x3 x4 x5 x6 x7 x8=>(ah3 Ac gT x0 x1 x2 x3 x4 x5 x6 x7 x8).val
abbrev ah4:=IX×vZ
def awM (p:ah4):KK:=⟨[adq p.1,Ad p.2],⟨[⟨2,(0::rg 3 5 (rg 11 6 (rg 19 12 (rg 33 5 [])))),[]⟩,⟨8,(0::rg 3 19 (rg 25 6 (rg 33 5 []))),[]⟩],[],[],[],(some ⟨0,(0::1::rg 3 35 []),[]⟩)⟩,0,136⟩
theorem aLD (p:ah4):D2 (awM p) awJ (lf adt) λb=>ah3 p.1 p.2 b.1 b.2.1 b.b.1 b.b.2.1 b.c.1 b.c.2.1 b.c.b.1 b.c.b.2.1 b.d:=λb=>by kernel_rfl
abbrev awN:ah4:=(Ac,gT)
theorem aLE [ay]:SC (awL Nd):=sc (kS (k:=awM awN) (.c ar2 (.c Ed (.nil _))) [2,8] [] ⟨kN,⟨kN,trivial⟩⟩ trivial (aLD awN))
def ae0:=qa (pl gZ nil)
def Nf:=qe Fq
abbrev ae1:=Nf.B
abbrev Px:=Int->Option ae1
def ae2 (g:Px):Ct:=(138,FC ae0 (lf Nf) (λb=>g b))
def Py (av:cA)(aG:cm)(x0:Int):Pg ae1:=opt (av (wI (x0*x0)) 17592186044416 1000000 false) λd=>opt (aG d.1 1 72057594037927936 d.2) λd=>ret d.1
def Bn:=λx0=>(Py aY aV x0).val
theorem azl:∀av aG,D0 [dA av,ey aG] 138 ae0 (lf Nf) λb=>Py av aG b:=λ_ _ b=>by kernel_rfl
theorem azm [ay]:SC (ae2 Bn):=s0 (.c dN (.c eO (.nil _))) (azl aY aV)
def awO:=qa (pr (cu aS Em) bK)
def adv:=qe (res (pr (rZ (c (ra ax1) auY)) (pl mG nil)))
abbrev awP:=adv.B
abbrev ah5:=Int->Int->Int->Int->Int->Int->Int->Int->Int->Bool->Option awP
def ah6 (g:ah5):Ct:=(89,FC awO (lf adv) (λb=>g b.1.1 b.1.2.1 b.1.b.1 b.1.b.2.1 b.1.c.1 b.1.c.2.1 b.1.c.b.1 b.1.c.b.2.1 b.1.d b.2))
def ah7 (aLF:ah2)(adu:IX)(ae3:Px)(av:cA)(x0:Int)(x1:Int)(x2:Int)(x3:Int)(x4:Int)(x5:Int)(x6:Int)(x7:Int)(x8:Int)(x9:Bool):Pg awP:=opt (aLF x0 x1 x2 x3 x4 x5 x6 x7 x8) λd=>ae (!d) (ret (((0,0,0,0,0,0,0,0),1),x9)) (opt (adu x0 x1 x2 x3 x4 x5 x6 x7 x8) λd=>opt (ae3 x7) λak=>opt (ae3 x8) λaK=>opt (av x4 1073741824 1000 x9) λbJ=>opt (av x5 1073741824 1000 bJ.2) λcI=>opt (av x6 1073741824 1000 cI.2) λeV=>ret (((d.1,d.2.1,d.2.2,bJ.1,cI.1,eV.1,ak,aK),0),eV.2))
def CN:=λx0 x1 x2 x3 x4 x5 x6 x7 x8 x9=>(ah7 Nd Ac Bn aY x0 x1 x2 x3 x4 x5 x6 x7 x8 x9).val
abbrev ah8:=ah2×IX×Px×cA
def awQ (p:ah8):KK:=⟨[awL p.1,adq p.2.1,ae2 p.b.1,dA p.b.2],⟨[⟨5,(1::2::5::rg 7 16 (rg 24 14 [])),[]⟩],[],[0],[],(some ⟨0,(rg 0 4 (rg 6 32 [])),[]⟩)⟩,0,89⟩
theorem aLG (p:ah8):D2 (awQ p) awO (lf adv) λb=>ah7 p.1 p.2.1 p.b.1 p.b.2 b.1.1 b.1.2.1 b.1.b.1 b.1.b.2.1 b.1.c.1 b.1.c.2.1 b.1.c.b.1 b.1.c.b.2.1 b.1.d b.2:=λb=>by kernel_rfl
abbrev awR:ah8:=(Nd,Ac,Bn,aY)
theorem awS [ay]:SC (ah6 CN):=sc (kS (k:=awQ awR) (.c aLE (.c ar2 (.c azm (.c dN (.nil _))))) [5] [] ⟨kN,trivial⟩ trivial (aLG awR))
def ajE:=qa (dp (cl Wx nil) λa=>(cl (cl (gs a.1 oF) nil) nil))
def Pz:=qe aWq
abbrev ajF:=Pz.B
abbrev T6:=Nat->NI->Bool->Option ajF
def T7 (g:T6):Ct:=(231,vR 0 [.i .i64] (FC ajE (lf Pz) (λb=>g b.1.1 b.2 b.1.2)))
def lV:=qs (st (dp (us 2 (cu UP (cu EL (us 2 (c Wx (c ai aJ5)))))) λa=>(pl (c (so (cl (gs a.1.1 oF) nil)) Oz) nil)))
def awT:=qs (st (pr (us 2 (cu UP (cu EL (us 2 (c Wx (c ai aJ9)))))) (pl (c J8 Oz) nil)))
abbrev zn:=(aMw×NI×NI×NI)
def abq {ρ:Type}(x:zn)(K:AX->St->Option ρ):Option ρ:=(λd=>K (.ex 0) (awT.em (d.1,(d.1.1.1,d.2.1),d.b))) x
def Ng (d:lV.B):PL lV zn:=let n3:=d.2.1;let n2:=d.1.2.2;let n1:=(d.1.1,d.1.2.1,wI (n2+1));let y0:=z4 (n3 (z4 n2));let y1:=decide (n2<d.1.2.1);ae y1 (ae (bf n2 d.1.1.1) (ae (decide (n3 (z4 n2)>=0)) (ae (decide (n3 (z4 n2)<24)) (ae (bf (n3 (z4 n2)) 24) (ae (true&&wr (0+y0*1+1) 24) (ret (ww (n1,n3,d.2.2.1,λj=>bif z9 j y0 then 1073741824 else d.2.2.2 j))) no) no) (ret (ww (n1,d.2)))) (ret (ww (n1,d.2)))) no) (ret (wt ((d.1.1,d.1.2.1,n2,y1),d.2)))
def Nh:=bE (Ng) 2000
def T8 (eB:LT lV zn)(x0:Nat)(x1:Nat->Int)(w0:Bool):Pg ajF:=ae (z9 x0 x0) (opt (eB (((x0,w0),ws x0,0),x1,λx=>0,λx=>0)) λd=>ret d.2.2.2) no
def qH:=λx0 x1 w0=>(T8 Nh x0 x1 w0).val
abbrev JT:=(LT lV zn)
def T9 (p:JT):KK:=⟨[],⟨[⟨3,(0::1::4::5::rg 9 6 (rg 17 5 [15,16])),[]⟩],[gx 3 1 lV abq p],[],[],(some ⟨0,(0::1::rg 3 19 []),[]⟩)⟩,1,231⟩
theorem at7 (p:JT):LI (T9 p) 3 lV abq (Ng):=λ_ d c K=>by kernel_rfl
theorem aC7 (p:JT):D2 (T9 p) ajE (lf Pz) λb=>T8 p b.1.1 b.2 b.1.2:=λb=>by kernel_rfl
abbrev T':JT:=Nh
theorem ajG [ay]:SC (T7 qH):=sc (Sound.nil 0 [.i .i64]<|kS (k:=T9 T') (.nil _) [3] [] ⟨kL (at7 T'),trivial⟩ trivial (aC7 T'))
def ae4:=qa (pr (cu aS (c kY (c ai Fs))) bK)
def Ni:=qe aWM
abbrev ae5:=Ni.B
abbrev wD:=NI->Int->Int->Int->Int->Bool->Option ae5
def Hm (g:wD):Ct:=(253,FC ae4 (lf Ni) (λb=>g b.1.1 b.1.2.1 b.1.b.1 b.1.b.2.1 b.1.c b.2))
def PA (nT:T6)(ba:dr)(x0:Nat->Int)(x1:Int)(x2:Int)(x3:Int)(x4:Int)(x5:Bool):Pg ae5:=opt (nT 1 (λj=>bif z9 j 0 then x1 else x1) true) λd=>ae (bf x1 24) (opt (ba x2 (x0 (z4 x1)) x5) λak=>ret ((d,ak.1,x3,x4),ak.2)) no
def eM:=λx0 x1 x2 x3 x4 x5=>(PA qH bT x0 x1 x2 x3 x4 x5).val
theorem azn:∀nT ba,D0 [T7 nT,iL ba] 253 ae4 (lf Ni) λb=>PA nT ba b.1.1 b.1.2.1 b.1.b.1 b.1.b.2.1 b.1.c b.2:=λ_ _ b=>by kernel_rfl
theorem PC [ay]:SC (Hm eM):=s0 (.c ajG (.c jH (.nil _))) (azn qH bT)
def ae6:=qa (pr (cu aS (c kY (c aKr gZ))) bK)
def Nj:=qe aXh
abbrev ae7:=Nj.B
abbrev ae8:=NI->Int->Int->Int->Int->Int->Int->Int->Int->Int->Bool->Option ae7
def ae9 (g:ae8):Ct:=(225,FC ae6 (lf Nj) (λb=>g b.1.1 b.1.2.1.1.1 b.1.2.1.1.2.1 b.1.2.1.1.b b.1.2.1.2.1.1 b.1.2.1.2.1.2.1 b.1.2.1.2.1.b b.1.2.1.b.1 b.1.2.1.b.2 b.1.b b.2))
def PD (jB:wD)(x0:Nat->Int)(x1:Int)(x2:Int)(x3:Int)(x4:Int)(x5:Int)(x6:Int)(x7:Int)(x8:Int)(x9:Int)(fX:Bool):Pg ae7:=opt (jB x0 4 x4 x8 x9 fX) λd=>opt (jB x0 5 x5 x8 x9 d.2) λak=>opt (jB x0 6 x6 x8 x9 ak.2) λaK=>ret (aK.2,d.1.1,d.1.2.1,d.1.2.2.1,d.1.2.2.2,ak.1.1,ak.1.2.1,ak.1.2.2.1,ak.1.2.2.2,aK.1)
def Bo:=λx0 x1 x2 x3 x4 x5 x6 x7 x8 x9 fX=>(PD eM x0 x1 x2 x3 x4 x5 x6 x7 x8 x9 fX).val
abbrev PE:=wD
def afa (p:PE):KK:=⟨[Hm p],⟨[⟨3,(1::2::4::7::8::10::11::12::rg 15 17 []),[]⟩],[],[],[],(some ⟨0,(rg 0 8 (rg 9 23 [])),[]⟩)⟩,0,225⟩
theorem azo (p:PE):D2 (afa p) ae6 (lf Nj) λb=>PD p b.1.1 b.1.2.1.1.1 b.1.2.1.1.2.1 b.1.2.1.1.b b.1.2.1.2.1.1 b.1.2.1.2.1.2.1 b.1.2.1.2.1.b b.1.2.1.b.1 b.1.2.1.b.2 b.1.b b.2:=λb=>by kernel_rfl
abbrev afb:PE:=eM
theorem azp [ay]:SC (ae9 Bo):=sc (kS (k:=afa afb) (.c PC (.nil _)) [3] [] ⟨kN,trivial⟩ trivial (azo afb))
def abr:=qa (pr (cu (app 0 5) (cu Rv HV)) (c lK bK))
def Kv:=qe (res (pr aWl (pl (cu fV mG) nil)))
abbrev abt:=Kv.B
abbrev zp:=Int->Int->Int->Int->Int->Int->Int->Int->Bool->Option abt
def E5 (g:zp):Ct:=(249,FC abr (lf Kv) (λb=>g b.1.1 b.1.2.1 b.1.b b.2.1.1.1 b.2.1.1.2.1 b.2.1.1.b b.2.1.2.1 b.2.1.b b.b))
def Nk (cU:vZ)(aD:bX)(av:cA)(x0:Int)(x1:Int)(x2:Int)(x3:Int)(x4:Int)(x5:Int)(x6:Int)(x7:Int)(x8:Bool):Pg abt:=let y0:=wI (x1-x4);opt (cU x0 x1 x2) λd=>ae (!d) (ret (((0,0,0),1),x8)) (ae (decide (y0>1800000000)) (opt (aD (wI (x0-x3)) x6 10 x8) λd=>opt (aD (wI (y0-3600000000)) x7 10 d.2) λak=>opt (av (wI (x5-x2)) 1073741824 1000 ak.2) λaK=>ret (((d.1,ak.1,aK.1),0),aK.2)) (ae (decide (y0<= -1800000000)) (opt (aD (wI (x0-x3)) x6 10 x8) λd=>opt (aD (wI (y0+3600000000)) x7 10 d.2) λak=>opt (av (wI (x5-x2)) 1073741824 1000 ak.2) λaK=>ret (((d.1,ak.1,aK.1),0),aK.2)) (opt (aD (wI (x0-x3)) x6 10 x8) λd=>opt (aD y0 x7 10 d.2) λak=>opt (av (wI (x5-x2)) 1073741824 1000 ak.2) λaK=>ret (((d.1,ak.1,aK.1),0),aK.2))))
def lx:=λx0 x1 x2 x3 x4 x5 x6 x7 x8=>(Nk gT aZ aY x0 x1 x2 x3 x4 x5 x6 x7 x8).val
theorem awU:∀cU aD av,D1 [Ad cU,fF aD,dA av] [1] 249 abr (lf Kv) λb=>Nk cU aD av b.1.1 b.1.2.1 b.1.b b.2.1.1.1 b.2.1.1.2.1 b.2.1.1.b b.2.1.2.1 b.2.1.b b.b:=λ_ _ _ b=>by kernel_rfl
theorem Nl [ay]:SC (E5 lx):=s0 (.c Ed (.c gk (.c dN (.nil _)))) (awU gT aZ aY)
def xc:=qa (pr (cu aS (c kY (c aKr (cu (app 1 5) gZ)))) (c xU (cl lK nil)))
def Oc:=qe (res (pr aV7 (pl Ow nil)))
def Od:=qe (res (pu (rZ (cu (rc (fJ (pu rq4 (pu AS (pu (szl rq4) (pu (nat 27) fL)))))) ak7)) (pr Ow (cl aQc nil))))
abbrev Kw:=Oc.B⊕Od.B
def YC:Kw->T:=ls (lf Oc) (lf Od)
abbrev YD:=xc.B->Option Kw
def YE (g:YD):Ct:=(226,FC xc YC g)
def Kx (iz:zp)(jB:wD)(x:xc.B):Pg Kw:=opt (iz x.1.2.1.1.1 x.1.2.1.1.2.1 x.1.2.1.1.2.2 x.2.2.1.1 x.2.2.1.2.1 x.2.2.1.2.2 x.2.2.2.1 x.2.2.2.2 x.2.1) λd=>ae (d.1.2!=0) (ret (ww (d.1.2,d.2))) (opt (jB x.1.1 7 d.1.1.1 x.1.2.1.2.2.1 x.1.2.2 d.2) λak=>opt (jB x.1.1 8 d.1.1.2.1 x.1.2.1.2.2.1 x.1.2.2 ak.2) λd=>ret (wt (d.2,ak.1.1,ak.1.2.1,ak.1.2.2.1,ak.1.2.2.2,d.1)))
def xd:=λx=>(Kx lx eM x).val
abbrev Ky:=zp×wD
def YF (p:Ky):KK:=⟨[E5 p.1,Hm p.2],⟨[⟨6,(1::2::3::5::rg 8 6 (rg 15 13 (rg 31 18 []))),[]⟩],[],[],[],(some ⟨0,(rg 0 10 (rg 12 37 [])),[]⟩)⟩,0,226⟩
theorem at8 (p:Ky):D2 (YF p) xc YC λb=>Kx p.1 p.2 b:=λb=>by kernel_rfl
abbrev YG:Ky:=(lx,eM)
theorem at9 [ay]:SC (YE xd):=sc (kS (k:=YF YG) (.c Nl (.c PC (.nil _))) [6] [] ⟨kN,trivial⟩ trivial (at8 YG))
def F5:=qa (pr (cu aS (c kY (c aKr (cu (app 1 5) gZ)))) (c xU (cl lK nil)))
def Ua:=qe (res (pr aWJ (pl Ow nil)))
abbrev anG:=Ua.B
abbrev anH:=F5.B->Option anG
def anI (g:anH):Ct:=(227,FC F5 (lf Ua) g)
def YH (iz:zp)(cy:fG)(aG:cm)(jB:wD)(x:F5.B):Pg anG:=let n3:=x.2.2;let n2:=x.1.2.1;let n1:=n2.2.2.1;opt (iz n2.1.1 n2.1.2.1 n2.1.2.2 n3.1.1 n3.1.2.1 n3.1.2.2 n3.2.1 n3.2.2 x.2.1) λd=>ae (d.1.2!=0) (ret (((λx=>0,0,0,0),d.1.2),d.2)) (opt (cy 4 false (cr n1 [n1,n1,n1,n1]) true) λak=>opt (aG ak.1 1 72057594037927936 ak.2) λaK=>opt (jB x.1.1 9 d.1.1.2.2 aK.1 x.1.2.2 d.2) λd=>ret ((d.1,0),d.2))
def F6:=λx=>(YH lx cJ aV eM x).val
theorem aGA:∀iz cy aG jB,D0 [E5 iz,pE cy,ey aG,Hm jB] 227 F5 (lf Ua) λb=>YH iz cy aG jB b:=λ_ _ _ _ b=>by kernel_rfl
theorem aGB [ay]:SC (anI F6):=s0 (.c Nl (.c sy (.c eO (.c PC (.nil _))))) (aGA lx cJ aV eM)
def YI:=qa (pl gZ nil)
def H6:=qe Fq
abbrev YJ:=H6.B
abbrev YK:=Int->Option YJ
def YL (g:YK):Ct:=(203,FC YI (lf H6) (λb=>g b))
def Kz (av:cA)(aG:cm)(x0:Int):Pg YJ:=opt (av (wI (x0*x0)) 17592186044416 1000000 false) λd=>opt (aG d.1 1 72057594037927936 d.2) λd=>ret d.1
def xf:=λx0=>(Kz aY aV x0).val
theorem aua:∀av aG,D0 [dA av,ey aG] 203 YI (lf H6) λb=>Kz av aG b:=λ_ _ b=>by kernel_rfl
theorem aub [ay]:SC (YL xf):=s0 (.c dN (.c eO (.nil _))) (aua aY aV)
def anJ:=qa (pr (cu aS (c aKq zW)) bK)
def Ub:=qe aP7
abbrev anK:=Ub.B
abbrev YM:=Int->Int->Int->Int->Int->Int->Int->Int->Int->Int->Int->Bool->Option anK
def YN (g:YM):Ct:=(139,FC anJ (lf Ub) (λb=>g b.1.1.1 b.1.1.2.1 b.1.1.b.1 b.1.1.b.2.1 b.1.1.c.1 b.1.1.c.2.1 b.1.1.c.b.1 b.1.1.c.b.2.1 b.1.1.d b.1.2.1 b.1.b b.2))
def YO (av:cA)(CO:YK)(x0:Int)(x1:Int)(x2:Int)(x3:Int)(x4:Int)(x5:Int)(x6:Int)(x7:Int)(x8:Int)(x9:Int)(fX:Int)(fY:Bool):Pg anK:=ae (decide (x1<x9)) (ret (((0,0),1),fY)) (ae (decide (x1>fX)) (ret (((0,0),1),fY)) (ae (decide (x2<1)) (ret (((0,0),1),fY)) (ae (decide (x2>1000000)) (ret (((0,0),1),fY)) (opt (av x1 1073741824 1000 fY) λd=>opt (CO x2) λak=>ret (((d.1,ak),0),d.2)))))
def xg:=λx0 x1 x2 x3 x4 x5 x6 x7 x8 x9 fX fY=>(YO aY xf x0 x1 x2 x3 x4 x5 x6 x7 x8 x9 fX fY).val
theorem aGC:∀av CO,D1 [dA av,YL CO] [0] 139 anJ (lf Ub) λb=>YO av CO b.1.1.1 b.1.1.2.1 b.1.1.b.1 b.1.1.b.2.1 b.1.1.c.1 b.1.1.c.2.1 b.1.1.c.b.1 b.1.1.c.b.2.1 b.1.1.d b.1.2.1 b.1.b b.2:=λ_ _ b=>by kernel_rfl
theorem anL [ay]:SC (YN xg):=s0 (.c dN (.c aub (.nil _))) (aGC aY xf)
def YP:=qa (pr (cu aS Em) bK)
def H7:=qe aP7
abbrev YQ:=H7.B
abbrev KA:=Int->Int->Int->Int->Int->Int->Int->Int->Int->Bool->Option YQ
def KB (g:KA):Ct:=(90,FC YP (lf H7) (λb=>g b.1.1 b.1.2.1 b.1.b.1 b.1.b.2.1 b.1.c.1 b.1.c.2.1 b.1.c.b.1 b.1.c.b.2.1 b.1.d b.2))
def KC (pW:YM)(x0:Int)(x1:Int)(x2:Int)(x3:Int)(x4:Int)(x5:Int)(x6:Int)(x7:Int)(x8:Int)(x9:Bool):Pg YQ:=opt (pW x0 x1 x2 x3 x4 x5 x6 x7 x8 (-100000000) 100000000 x9) λd=>ret d
def oz:=λx0 x1 x2 x3 x4 x5 x6 x7 x8 x9=>(KC xg x0 x1 x2 x3 x4 x5 x6 x7 x8 x9).val
theorem auc:∀pW,D0 [YN pW] 90 YP (lf H7) λb=>KC pW b.1.1 b.1.2.1 b.1.b.1 b.1.b.2.1 b.1.c.1 b.1.c.2.1 b.1.c.b.1 b.1.c.b.2.1 b.1.d b.2:=λ_ b=>by kernel_rfl
theorem YR [ay]:SC (KB oz):=s0 (.c anL (.nil _)) (auc xg)
def anM:=qa (pr (cu aS (c kY (c (aa ak5) gZ))) bK)
def Uc:=qe aWM
abbrev anN:=Uc.B
abbrev anO:=NI->Int->Int->Int->Bool->Option anN
def anP (g:anO):Ct:=(170,FC anM (lf Uc) (λb=>g b.1.1 b.1.2.1.1 b.1.2.1.2 b.1.b b.2))
def YS (nT:T6)(ax:bS)(ba:dr)(x0:Nat->Int)(x1:Int)(x2:Int)(x3:Int)(x4:Bool):Pg anN:=opt (nT 1 (λj=>bif z9 j 0 then 9 else 9) true) λd=>opt (ax x1 x4) λak=>opt (ba (wI (0-ak.1)) (x0 9) ak.2) λaK=>ret ((d,aK.1,x2,x3),aK.2)
def F7:=λx0 x1 x2 x3 x4=>(YS qH aP bT x0 x1 x2 x3 x4).val
theorem aGD:∀nT ax ba,D0 [T7 nT,dD ax,iL ba] 170 anM (lf Uc) λb=>YS nT ax ba b.1.1 b.1.2.1.1 b.1.2.1.2 b.1.b b.2:=λ_ _ _ b=>by kernel_rfl
theorem aGE [ay]:SC (anP F7):=s0 (.c ajG (.c dI (.c jH (.nil _)))) (aGD qH aP bT)
def U3:=qa (pr (cu aS Em) bK)
def F8:=qe (res (pr aWl (pl mG nil)))
abbrev U4:=F8.B
abbrev H8:=Int->Int->Int->Int->Int->Int->Int->Int->Int->Bool->Option U4
def H9 (g:H8):Ct:=(91,FC U3 (lf F8) (λb=>g b.1.1 b.1.2.1 b.1.b.1 b.1.b.2.1 b.1.c.1 b.1.c.2.1 b.1.c.b.1 b.1.c.b.2.1 b.1.d b.2))
def H' (pW:YM)(x0:Int)(x1:Int)(x2:Int)(x3:Int)(x4:Int)(x5:Int)(x6:Int)(x7:Int)(x8:Int)(x9:Bool):Pg U4:=ae (decide (x3<0)) (ret (((0,0,0),1),x9)) (ae (decide (x3>100)) (ret (((0,0,0),1),x9)) (opt (pW x0 x1 x2 x3 x4 x5 x6 x7 x8 1 1000000 x9) λd=>ae (d.1.2!=0) (ret (((0,0,0),d.1.2),d.2)) (ret (((d.1.1.1,d.1.1.2,x3),0),d.2))))
def mM:=λx0 x1 x2 x3 x4 x5 x6 x7 x8 x9=>(H' xg x0 x1 x2 x3 x4 x5 x6 x7 x8 x9).val
theorem ap6:∀pW,D1 [YN pW] [0] 91 U3 (lf F8) λb=>H' pW b.1.1 b.1.2.1 b.1.b.1 b.1.b.2.1 b.1.c.1 b.1.c.2.1 b.1.c.b.1 b.1.c.b.2.1 b.1.d b.2:=λ_ b=>by kernel_rfl
theorem U5 [ay]:SC (H9 mM):=s0 (.c anL (.nil _)) (ap6 xg)
def ajH:=qa (pr (cu aS (c kY (c (aa (a 2 ak5 jG)) gZ))) bK)
def PF:=qe aEp
abbrev ajI:=PF.B
abbrev ajJ:=NI->Int->Int->Int->Int->Bool->Option ajI
def ajK (g:ajJ):Ct:=(171,FC ajH (lf PF) (λb=>g b.1.1 b.1.2.1.1.1 b.1.2.1.1.2 b.1.2.1.2 b.1.b b.2))
def Ud (bk:dU)(fD:rF)(aF:cT)(ba:dr)(cy:fG)(aD:bX)(x0:Nat->Int)(x1:Int)(x2:Int)(x3:Int)(x4:Int)(x5:Bool):Pg ajI:=opt (bk x0) λd=>let n1:=d.2.2;opt (fD d.1 d.2.1 n1.1 n1.2 x5) λak=>ae (decide (ak.1 8<751619277)) (ret (((λx=>0,0,0,0),4),ak.2)) (ae (decide (x3<50)) (ret (((λx=>0,0,0,0),4),ak.2)) (opt (aF (x0 9) (ak.1 8) 30 ak.2) λaK=>opt (ba x1 (wI (0-aK.1)) aK.2) λbJ=>opt (aF 1073741824 (ak.1 8) 30 bJ.2) λcI=>opt (aF aK.1 (ak.1 8) 30 cI.2) λeV=>opt (cy 2 eV.2 (cr d.1 [d.1,d.1]) true) λdq=>opt (aD eV.1 dq.1 30 dq.2) λnu=>opt (cy 2 nu.2 (cr d.2.1 [d.2.1,d.2.1]) true) λtX=>opt (aD eV.1 (wI (0-tX.1)) 30 tX.2) λpO=>opt (cy 2 pO.2 (cr n1.1 [n1.1,n1.1]) true) λmj=>opt (aD eV.1 (wI (0-mj.1)) 30 mj.2) λxV=>opt (cy 2 xV.2 (cr n1.2 [n1.2,n1.2]) true) λd=>opt (aD eV.1 d.1 30 d.2) λd=>ret (((λj=>bif z9 j 3 then d.1 else bif z9 j 2 then xV.1 else bif z9 j 1 then pO.1 else bif z9 j 0 then nu.1 else bif z9 j 9 then wI (0-cI.1) else 0,bJ.1,x2,x4),0),d.2)))
def DJ:=λx0 x1 x2 x3 x4 x5=>(Ud cg kK bl bT cJ aZ x0 x1 x2 x3 x4 x5).val
abbrev Ue:=dU×rF×cT×dr×fG×bX
def ajL (p:Ue):KK:=⟨[jh p.1,Ea p.2.1,gR p.b.1,iL p.b.2.1,pE p.c.1,fF p.c.2],⟨[⟨10,(1::rg 3 5 (rg 9 4 (rg 15 43 (rg 60 11 (rg 73 13 []))))),[]⟩],[],[],[],(some ⟨0,(rg 0 8 (rg 10 76 [])),[]⟩)⟩,0,171⟩
theorem aC8 (p:Ue):D2 (ajL p) ajH (lf PF) λb=>Ud p.1 p.2.1 p.b.1 p.b.2.1 p.c.1 p.c.2 b.1.1 b.1.2.1.1.1 b.1.2.1.1.2 b.1.2.1.2 b.1.b b.2:=λb=>by kernel_rfl
abbrev ajM:Ue:=(cg,kK,bl,bT,cJ,aZ)
theorem aC9 [ay]:SC (ajK DJ):=sc (kS (k:=ajL ajM) (.c j8 (.c Hb (.c iK (.c jH (.c sy (.c gk (.nil _))))))) [10] [] ⟨kN,trivial⟩ trivial (aC8 ajM))
def ajN:=qa (pl gZ nil)
def PG:=qe Fq
abbrev ajO:=PG.B
abbrev Uf:=Int->Option ajO
def ajP (g:Uf):Ct:=(140,FC ajN (lf PG) (λb=>g b))
def Ug (av:cA)(aG:cm)(x0:Int):Pg ajO:=opt (av (wI (x0*x0)) 17592186044416 1000000000000 false) λd=>opt (aG d.1 1 72057594037927936 d.2) λd=>ret d.1
def DK:=λx0=>(Ug aY aV x0).val
theorem aDa:∀av aG,D0 [dA av,ey aG] 140 ajN (lf PG) λb=>Ug av aG b:=λ_ _ b=>by kernel_rfl
theorem aDb [ay]:SC (ajP DK):=s0 (.c dN (.c eO (.nil _))) (aDa aY aV)
def aBP:=qa (pr (cu aS Em) bK)
def ah9:=qe aWQ
abbrev aBQ:=ah9.B
abbrev abu:=Int->Int->Int->Int->Int->Int->Int->Int->Int->Bool->Option aBQ
def abv (g:abu):Ct:=(92,FC aBP (lf ah9) (λb=>g b.1.1 b.1.2.1 b.1.b.1 b.1.b.2.1 b.1.c.1 b.1.c.2.1 b.1.c.b.1 b.1.c.b.2.1 b.1.d b.2))
def anQ (aDc:Uf)(av:cA)(x0:Int)(x1:Int)(x2:Int)(x3:Int)(x4:Int)(x5:Int)(x6:Int)(x7:Int)(x8:Int)(x9:Bool):Pg aBQ:=ae (decide (x4<1)) (ret (((0,0,0,0),1),x9)) (ae (decide (x4>1000000)) (ret (((0,0,0,0),1),x9)) (opt (aDc x4) λd=>ae (decide (x1< -2000000)) (ret (((0,0,0,0),1),x9)) (ae (decide (x1>2000000)) (ret (((0,0,0,0),1),x9)) (opt (av x1 1073741824 1000000 x9) λak=>ae (decide (x2< -2000000)) (ret (((0,0,0,0),1),ak.2)) (ae (decide (x2>2000000)) (ret (((0,0,0,0),1),ak.2)) (opt (av x2 1073741824 1000000 ak.2) λaK=>ae (decide (x3< -2000000)) (ret (((0,0,0,0),1),aK.2)) (ae (decide (x3>2000000)) (ret (((0,0,0,0),1),aK.2)) (opt (av x3 1073741824 1000000 aK.2) λbJ=>ret (((ak.1,aK.1,bJ.1,d),0),bJ.2)))))))))
def zq:=λx0 x1 x2 x3 x4 x5 x6 x7 x8 x9=>(anQ DK aY x0 x1 x2 x3 x4 x5 x6 x7 x8 x9).val
abbrev anR:=Uf×cA
def aBR (p:anR):KK:=⟨[ajP p.1,dA p.2],⟨[⟨5,(1::2::rg 7 17 (rg 25 8 (rg 38 13 []))),[]⟩],[],[0],[],(some ⟨0,(rg 0 4 (rg 6 45 [])),[]⟩)⟩,0,92⟩
theorem aOm (p:anR):D2 (aBR p) aBP (lf ah9) λb=>anQ p.1 p.2 b.1.1 b.1.2.1 b.1.b.1 b.1.b.2.1 b.1.c.1 b.1.c.2.1 b.1.c.b.1 b.1.c.b.2.1 b.1.d b.2:=λb=>by kernel_rfl
abbrev aBS:anR:=(DK,aY)
theorem anS [ay]:SC (abv zq):=sc (kS (k:=aBR aBS) (.c aDb (.c dN (.nil _))) [5] [] ⟨kN,trivial⟩ trivial (aOm aBS))
def aBT:=qa (pr (cu aS (c kY (c aPQ gZ))) bK)
def aLH:=qe aXh
abbrev anT:=(Bool×NI×Int×Int×Int×NI×Int×NI×Int)
def aBU:anT->T:=λd=>lf aLH (d.1,d.2.1,d.b.1,d.b.2.1,d.c.1,d.c.2.1,d.c.b.1,d.b.2.1,d.c.1,d.c.b.2.1,d.d,d.b.2.1,d.c.1)
abbrev aBV:=NI->Int->Int->Int->Int->Int->Bool->Option anT
def aBW (g:aBV):Ct:=(233,FC aBT aBU (λb=>g b.1.1 b.1.2.1.1.1 b.1.2.1.1.2.1 b.1.2.1.1.b b.1.2.1.2 b.1.b b.2))
def anU (bk:dU)(bM:mf)(fD:rF)(RW:FL)(aia:Mv)(adw:IW)(cy:fG)(ba:dr)(x0:Nat->Int)(x1:Int)(x2:Int)(x3:Int)(x4:Int)(x5:Int)(x6:Bool):Pg anT:=opt (bk x0) λd=>opt (bM x0 16) λak=>opt (bM x0 19) λaK=>opt (fD d.1 d.2.1 d.2.2.1 d.2.2.2 x6) λbJ=>opt (RW bJ.1 ak.1 ak.2.1 ak.2.2 bJ.2) λcI=>opt (aia d.1 d.2.1 d.2.2.1 d.2.2.2) λd=>opt (adw d.1 d.2.1 d.2.2.1 d.2.2.2 ak.1 ak.2.1 ak.2.2 cI.2) λd=>let n2:=d.1.2.2;let n1:=n2.2.2.2;let n3:=n1.2.2.2;opt (cy 2 d.2 (cr cI.1.1 [aK.1,cI.1.1]) true) λeV=>opt (ba x1 eV.1 eV.2) λdq=>opt (cy 2 dq.2 (cr cI.1.2.1 [aK.2.1,cI.1.2.1]) true) λnu=>opt (ba x2 nu.1 nu.2) λtX=>opt (cy 2 tX.2 (cr cI.1.2.2 [aK.2.2,cI.1.2.2]) true) λpO=>opt (ba x3 pO.1 pO.2) λmj=>ret (mj.2,λj=>bif z9 j 19 then 1073741824 else bif z9 j 18 then bJ.1 6 else bif z9 j 17 then bJ.1 3 else bif z9 j 16 then bJ.1 0 else bif z9 j 3 then wI (0-n2.2.1) else bif z9 j 2 then wI (0-n2.1) else bif z9 j 1 then wI (0-d.1.2.1) else bif z9 j 0 then d.1.1 else 0,dq.1,x4,x5,λj=>bif z9 j 20 then 1073741824 else bif z9 j 18 then bJ.1 7 else bif z9 j 17 then bJ.1 4 else bif z9 j 16 then bJ.1 1 else bif z9 j 3 then wI (0-n1.2.2.1) else bif z9 j 2 then wI (0-n1.2.1) else bif z9 j 1 then wI (0-n1.1) else bif z9 j 0 then n2.2.2.1 else 0,tX.1,λj=>bif z9 j 21 then 1073741824 else bif z9 j 18 then bJ.1 8 else bif z9 j 17 then bJ.1 5 else bif z9 j 16 then bJ.1 2 else bif z9 j 3 then wI (0-n3.2.2.2) else bif z9 j 2 then wI (0-n3.2.2.1) else bif z9 j 1 then wI (0-n3.2.1) else bif z9 j 0 then n3.1 else 0,mj.1)
def RX:=λx0 x1 x2 x3 x4 x5 x6=>(anU cg dZ kK zb Cp Aa cJ bT x0 x1 x2 x3 x4 x5 x6).val
abbrev anV:=dU×mf×rF×FL×Mv×IW×fG×dr
def aBX (p:anV):KK:=⟨[jh p.1,sC p.2.1,Ea p.b.1,aa1 p.b.2.1,aht p.c.1,adn p.c.2.1,pE p.c.b.1,iL p.c.b.2],⟨[⟨7,(1::2::4::5::rg 7 4 (rg 16 23 (rg 40 62 []))),[]⟩,⟨11,(1::2::4::5::rg 7 4 (rg 18 21 (rg 40 23 (rg 65 37 [])))),[]⟩,⟨18,(1::2::4::5::rg 7 4 (rg 18 21 (rg 40 38 (rg 79 23 [])))),[]⟩],[],[],[],(some ⟨0,(rg 0 8 (rg 9 93 [])),[]⟩)⟩,0,233⟩
theorem aOn (p:anV):D2 (aBX p) aBT aBU λb=>anU p.1 p.2.1 p.b.1 p.b.2.1 p.c.1 p.c.2.1 p.c.b.1 p.c.b.2 b.1.1 b.1.2.1.1.1 b.1.2.1.1.2.1 b.1.2.1.1.b b.1.2.1.2 b.1.b b.2:=λb=>by kernel_rfl
abbrev aBY:anV:=(cg,dZ,kK,zb,Cp,Aa,cJ,bT)
theorem aOo [ay]:SC (aBW RX):=sc (kS (k:=aBX aBY) (.c j8 (.c vU (.c Hb (.c amC (.c avS (.c arZ (.c sy (.c jH (.nil _))))))))) [7,11,18] [] ⟨kN,⟨kN,⟨kN,trivial⟩⟩⟩ trivial (aOn aBY))
def ar4:=qa (pr (cu aS HV) bK)
def YT:=qe (res (pr aPH (pl mG nil)))
abbrev ar5:=YT.B
abbrev Q9:=Int->Int->Int->Bool->Option ar5
def adx (g:Q9):Ct:=(248,FC ar4 (lf YT) (λb=>g b.1.1 b.1.2.1 b.1.b b.2))
def ady (kI:zZ)(sG:acD)(x0:Int)(x1:Int)(x2:Int)(x3:Bool):Pg ar5:=opt (kI 2 x3 (cr x0 [x1,x0]) true) λd=>ae (decide (d.1<16777216)) (ret ((0,false),d.2)) (opt (sG x1 x0 d.2) λd=>ret ((d.1,true),d.2))
def Ae:=λx0 x1 x2 x3=>(ady cz zY x0 x1 x2 x3).val
theorem aIa:∀kI sG,D0 [IN kI,acE sG] 248 ar4 (lf YT) λb=>ady kI sG b.1.1 b.1.2.1 b.1.b b.2:=λ_ _ b=>by kernel_rfl
theorem ar6 [ay]:SC (adx Ae):=s0 (.c QS (.c ari (.nil _))) (aIa cz zY)
def anW:=qa (pr (cu aS (c kY (c aPQ Fs))) bK)
def Uh:=qe aEp
abbrev anX:=Uh.B
abbrev anY:=NI->Int->Int->Int->Int->Int->Int->Int->Bool->Option anX
def anZ (g:anY):Ct:=(235,FC anW (lf Uh) (λb=>g b.1.1 b.1.2.1.1.1 b.1.2.1.1.2.1 b.1.2.1.1.b b.1.2.1.2 b.1.b.1 b.1.b.2.1 b.1.c b.2))
def YU (bk:dU)(fD:rF)(bM:mf)(oo:Kp)(jk:G7)(Ee:Q9)(kI:zZ)(ba:dr)(dw:yY)(bp:eU)(cy:fG)(aF:cT)(x0:Nat->Int)(x1:Int)(x2:Int)(x3:Int)(x4:Int)(x5:Int)(x6:Int)(x7:Int)(x8:Bool):Pg anX:=opt (bk x0) λd=>let n1:=d.2.2;opt (fD d.1 d.2.1 n1.1 n1.2 x8) λak=>opt (bM x0 19) λaK=>opt (oo x1 x2 x3 aK.1 aK.2.1 aK.2.2 ak.2) λbJ=>opt (jk ak.1 bJ.1.1 bJ.1.2.1 bJ.1.2.2 bJ.2) λcI=>opt (Ee cI.1.1 cI.1.2.1 cI.1.2.2 cI.2) λeV=>ae (!eV.1.2) (ret (((λx=>0,0,0,0),4),eV.2)) (opt (kI 2 eV.2 (cr (ak.1 0) [ak.1 3,ak.1 0]) true) λdq=>ae (decide (dq.1<16777216)) (ret (((λx=>0,0,0,0),4),dq.2)) (opt (ba x5 eV.1.1 dq.2) λnu=>opt (dw nu.1) λtX=>opt (bp 30 2 2 nu.2 (cr (ak.1 0) [ak.1 3,ak.1 0]) (cr (ak.1 0) [ak.1 3,ak.1 0]) true true) λpO=>opt (cy 2 pO.2 (cr d.1 [d.1,d.1]) true) λmj=>opt (cy 2 mj.2 (cr d.2.1 [d.2.1,d.2.1]) true) λxV=>opt (cy 2 xV.2 (cr n1.1 [n1.1,n1.1]) true) λLl=>opt (cy 2 Ll.2 (cr n1.2 [n1.2,n1.2]) true) λd=>opt (bp 30 2 2 d.2 (cr (ak.1 0) [wI (0-ak.1 3),ak.1 0]) (cr d.1 [mj.1,d.1]) true true) λMR=>opt (aF MR.1 pO.1 30 MR.2) λaGy=>opt (bp 30 2 2 aGy.2 (cr (ak.1 0) [wI (0-ak.1 3),ak.1 0]) (cr Ll.1 [xV.1,Ll.1]) true true) λabo=>opt (aF abo.1 pO.1 30 abo.2) λaeZ=>opt (bp 30 2 2 aeZ.2 (cr (ak.1 0) [wI (0-ak.1 3),ak.1 0]) (cr xV.1 [wI (0-Ll.1),xV.1]) true true) λabp=>opt (aF abp.1 pO.1 30 abp.2) λaGz=>opt (bp 30 2 2 aGz.2 (cr (ak.1 0) [wI (0-ak.1 3),ak.1 0]) (cr mj.1 [wI (0-d.1),mj.1]) true true) λd=>opt (aF d.1 pO.1 30 d.2) λd=>ret (((cr 0 [d.1,aGz.1,aeZ.1,aGy.1],tX,x6,x7),0),d.2)))
def F9:=λx0 x1 x2 x3 x4 x5 x6 x7 x8=>(YU cg kK dZ wP pQ Ae cz bT lq bD cJ bl x0 x1 x2 x3 x4 x5 x6 x7 x8).val
abbrev YV:=dU×rF×mf×Kp×G7×Q9×zZ×dr×yY×eU×fG×cT
def an0 (p:YV):KK:=⟨[jh p.1,Ea p.2.1,sC p.b.1,Xu p.b.2.1,MA p.c.1,adx p.c.2.1,IN p.c.b.1,iL p.c.b.2.1,Cn p.d.1,nw p.d.2.1,pE p.d.b.1,gR p.d.b.2],⟨[⟨10,(rg 1 11 (13::14::16::17::rg 21 57 (rg 80 58 []))),[]⟩,⟨17,(rg 1 11 (13::14::16::17::20::21::22::rg 25 86 (rg 112 26 []))),[]⟩],[],[],[],(some ⟨0,(rg 0 12 (rg 14 124 [])),[]⟩)⟩,0,235⟩
theorem aGF (p:YV):D2 (an0 p) anW (lf Uh) λb=>YU p.1 p.2.1 p.b.1 p.b.2.1 p.c.1 p.c.2.1 p.c.b.1 p.c.b.2.1 p.d.1 p.d.2.1 p.d.b.1 p.d.b.2 b.1.1 b.1.2.1.1.1 b.1.2.1.1.2.1 b.1.2.1.1.b b.1.2.1.2 b.1.b.1 b.1.b.2.1 b.1.c b.2:=λb=>by kernel_rfl
abbrev an1:YV:=(cg,kK,dZ,wP,pQ,Ae,cz,bT,lq,bD,cJ,bl)
theorem aGG [ay]:SC (anZ F9):=sc (kS (k:=an0 an1) (.c j8 (.c Hb (.c vU (.c ahm (.c VH (.c ar6 (.c QS (.c jH (.c GZ (.c pF (.c sy (.c iK (.nil _))))))))))))) [10,17] [] ⟨kN,⟨kN,trivial⟩⟩ trivial (aGF an1))
def awV:=qa (pr (cu aS (c agi (c aPQ gZ))) bK)
def adz:=qe aP5
abbrev awW:=adz.B
abbrev awX:=Int->Int->Int->Int->Int->Int->Int->Int->Int->Bool->Option awW
def awY (g:awX):Ct:=(219,FC awV (lf adz) (λb=>g b.1.1.1 b.1.1.2.1 b.1.1.b.1 b.1.1.b.2 b.1.2.1.1.1 b.1.2.1.1.2.1 b.1.2.1.1.b b.1.2.1.2 b.1.b b.2))
def aib (fD:rF)(jk:G7)(Ee:Q9)(ba:dr)(dw:yY)(x0:Int)(x1:Int)(x2:Int)(x3:Int)(x4:Int)(x5:Int)(x6:Int)(x7:Int)(x8:Int)(x9:Bool):Pg awW:=opt (fD x0 x1 x2 x3 x9) λd=>opt (jk d.1 x4 x5 x6 d.2) λd=>opt (Ee d.1.1 d.1.2.1 d.1.2.2 d.2) λd=>ae (!d.1.2) (ret ((0,4),d.2)) (opt (ba x8 d.1.1 d.2) λd=>opt (dw d.1) λak=>ret ((ak,0),d.2))
def Nm:=λx0 x1 x2 x3 x4 x5 x6 x7 x8 x9=>(aib kK pQ Ae bT lq x0 x1 x2 x3 x4 x5 x6 x7 x8 x9).val
theorem aLI:∀fD jk Ee ba dw,D0 [Ea fD,MA jk,adx Ee,iL ba,Cn dw] 219 awV (lf adz) λb=>aib fD jk Ee ba dw b.1.1.1 b.1.1.2.1 b.1.1.b.1 b.1.1.b.2 b.1.2.1.1.1 b.1.2.1.1.2.1 b.1.2.1.1.b b.1.2.1.2 b.1.b b.2:=λ_ _ _ _ _ b=>by kernel_rfl
theorem aLJ [ay]:SC (awY Nm):=s0 (.c Hb (.c VH (.c ar6 (.c jH (.c GZ (.nil _)))))) (aLI kK pQ Ae bT lq)
def ajQ:=qa (pl gZ nil)
def PH:=qe Fq
abbrev ajR:=PH.B
abbrev ajS:=Int->Option ajR
def ajT (g:ajS):Ct:=(141,FC ajQ (lf PH) (λb=>g b))
def Ui (av:cA)(aG:cm)(x0:Int):Pg ajR:=opt (av (wI (x0*x0)) 17592186044416 1000000 false) λd=>opt (aG d.1 1 72057594037927936 d.2) λd=>ret d.1
def DL:=λx0=>(Ui aY aV x0).val
theorem aDd:∀av aG,D0 [dA av,ey aG] 141 ajQ (lf PH) λb=>Ui av aG b:=λ_ _ b=>by kernel_rfl
theorem aDe [ay]:SC (ajT DL):=s0 (.c dN (.c eO (.nil _))) (aDd aY aV)
def aBZ:=qa (pr (cu aS Em) bK)
def aic:=qe aP7
abbrev aB0:=aic.B
abbrev an2:=Int->Int->Int->Int->Int->Int->Int->Int->Int->Bool->Option aB0
def an3 (g:an2):Ct:=(93,FC aBZ (lf aic) (λb=>g b.1.1 b.1.2.1 b.1.b.1 b.1.b.2.1 b.1.c.1 b.1.c.2.1 b.1.c.b.1 b.1.c.b.2.1 b.1.d b.2))
def an4 (av:cA)(JU:ajS)(x0:Int)(x1:Int)(x2:Int)(x3:Int)(x4:Int)(x5:Int)(x6:Int)(x7:Int)(x8:Int)(x9:Bool):Pg aB0:=ae (decide (x1<0)) (ret (((0,0),1),x9)) (ae (decide (x1>300000)) (ret (((0,0),1),x9)) (ae (decide (x2<1)) (ret (((0,0),1),x9)) (ae (decide (x2>1000000)) (ret (((0,0),1),x9)) (opt (av x1 1073741824 1000 x9) λd=>opt (JU x2) λak=>ret (((d.1,ak),0),d.2)))))
def F':=λx0 x1 x2 x3 x4 x5 x6 x7 x8 x9=>(an4 aY DL x0 x1 x2 x3 x4 x5 x6 x7 x8 x9).val
theorem aOp:∀av JU,D1 [dA av,ajT JU] [0] 93 aBZ (lf aic) λb=>an4 av JU b.1.1 b.1.2.1 b.1.b.1 b.1.b.2.1 b.1.c.1 b.1.c.2.1 b.1.c.b.1 b.1.c.b.2.1 b.1.d b.2:=λ_ _ b=>by kernel_rfl
theorem aB1 [ay]:SC (an3 F'):=s0 (.c dN (.c aDe (.nil _))) (aOp aY DL)
def ajU:=qa (pr (cu aS ak8) bK)
def PI:=qe ax2
abbrev ajV:=PI.B
abbrev DM:=NI->Bool->Option ajV
def Uj (g:DM):Ct:=(258,FC ajU (lf PI) (λb=>g b.1 b.2))
def Uk (bM:mf)(oo:Kp)(x0:Nat->Int)(x1:Bool):Pg ajV:=opt (bM x0 4) λd=>opt (oo d.1 d.2.1 d.2.2 (x0 22) (x0 23) 0 x1) λd=>ret d
def uK:=λx0 x1=>(Uk dZ wP x0 x1).val
theorem aDf:∀bM oo,D0 [sC bM,Xu oo] 258 ajU (lf PI) λb=>Uk bM oo b.1 b.2:=λ_ _ b=>by kernel_rfl
theorem ajW [ay]:SC (Uj uK):=s0 (.c vU (.c ahm (.nil _))) (aDf dZ wP)
def awZ:=qa (pr (cu (app 0 27) HV) (cl axY nil))
def adA:=qe (res (pu Wt (pl (cl (B9 axY) nil) nil)))
abbrev aw0:=adA.B
abbrev Nn:=Int->Int->Int->NI->Int->Int->Int->Option aw0
def aid (g:Nn):Ct:=(259,FC awZ (lf adA) (λb=>g b.1.1 b.1.2.1 b.1.b b.2.1 b.b.1 b.b.2.1 b.c))
def aie (x0:Int)(x1:Int)(x2:Int)(x3:Nat->Int)(x4:Int)(x5:Int)(x6:Int):Pg aw0:=ret (λj=>bif z9 j 6 then x2 else bif z9 j 23 then wI (0-x1) else bif z9 j 5 then x1 else bif z9 j 22 then wI (0-x0) else bif z9 j 4 then x0 else x3 j,x4,x5,x6)
def CP:=λx0 x1 x2 x3 x4 x5 x6=>(aie x0 x1 x2 x3 x4 x5 x6).val
abbrev aif:=Unit
def aw1 (p:aif):KK:=⟨[],⟨[⟨2,(1::2::4::rg 6 24 []),[]⟩],[],[],[],(some ⟨0,(rg 0 30 []),[]⟩)⟩,0,259⟩
theorem aLK (p:aif):D2 (aw1 p) awZ (lf adA) λb=>aie b.1.1 b.1.2.1 b.1.b b.2.1 b.b.1 b.b.2.1 b.c:=λb=>by kernel_rfl
abbrev aw2:aif:=()
theorem aw3 [ay]:SC (aid CP):=sc (kS (k:=aw1 aw2) (.nil _) [2] [] ⟨kN,trivial⟩ trivial (aLK aw2))
def ajX:=qa (pr (cu aS (c kY (c (aa ak5) gZ))) bK)
def PJ:=qe aEp
abbrev ajY:=PJ.B
abbrev ajZ:=NI->Int->Int->Int->Bool->Option ajY
def aj0 (g:ajZ):Ct:=(236,FC ajX (lf PJ) (λb=>g b.1.1 b.1.2.1.1 b.1.2.1.2 b.1.b b.2))
def Ul (Um:DM)(vY:BQ)(ba:dr)(aF:cT)(aih:Nn)(x0:Nat->Int)(x1:Int)(x2:Int)(x3:Int)(x4:Bool):Pg ajY:=opt (Um x0 x4) λd=>opt (vY d.1.1 d.1.2.1 d.1.2.2 d.2) λak=>ae (decide (ak.1<1073741824)) (ret (((λx=>0,0,0,0),4),ak.2)) (opt (ba x1 ak.1 ak.2) λaK=>opt (aF d.1.1 ak.1 30 aK.2) λbJ=>opt (aF d.1.2.1 ak.1 30 bJ.2) λcI=>opt (aF d.1.2.2 ak.1 30 cI.2) λd=>opt (aih bJ.1 cI.1 d.1 (λx=>0) aK.1 x2 x3) λeV=>ret ((eV,0),d.2))
def DN:=λx0 x1 x2 x3 x4=>(Ul uK qA bT bl CP x0 x1 x2 x3 x4).val
abbrev Un:=DM×BQ×dr×cT×Nn
def aj1 (p:Un):KK:=⟨[Uj p.1,RK p.2.1,iL p.b.1,gR p.b.2.1,aid p.c],⟨[⟨8,(rg 1 7 (9::rg 14 19 (rg 34 14 []))),[]⟩],[],[],[],(some ⟨0,(rg 0 8 (rg 10 38 [])),[]⟩)⟩,0,236⟩
theorem aDg (p:Un):D2 (aj1 p) ajX (lf PJ) λb=>Ul p.1 p.2.1 p.b.1 p.b.2.1 p.c b.1.1 b.1.2.1.1 b.1.2.1.2 b.1.b b.2:=λb=>by kernel_rfl
abbrev aj2:Un:=(uK,qA,bT,bl,CP)
theorem aDh [ay]:SC (aj0 DN):=sc (kS (k:=aj1 aj2) (.c ajW (.c aaR (.c jH (.c iK (.c aw3 (.nil _)))))) [8] [] ⟨kN,trivial⟩ trivial (aDg aj2))
def aj3:=qa (pr (cu aS (c kY zW)) bK)
def PK:=qe aEp
abbrev aj4:=PK.B
abbrev aj5:=NI->Int->Int->Bool->Option aj4
def aj6 (g:aj5):Ct:=(237,FC aj3 (lf PK) (λb=>g b.1.1 b.1.2.1 b.1.b b.2))
def Uo (bk:dU)(fD:rF)(Um:DM)(RW:FL)(aF:cT)(aD:bX)(ba:dr)(aih:Nn)(x0:Nat->Int)(x1:Int)(x2:Int)(x3:Bool):Pg aj4:=opt (bk x0) λd=>opt (fD d.1 d.2.1 d.2.2.1 d.2.2.2 x3) λd=>opt (Um x0 d.2) λak=>opt (RW d.1 ak.1.1 ak.1.2.1 ak.1.2.2 ak.2) λaK=>let n1:=aK.1.1;ae (decide (n1<5368709120)) (ret (((λx=>0,0,0,0),4),aK.2)) (opt (aF aK.1.2.1 n1 30 aK.2) λbJ=>opt (aD bJ.1 (d.1 0) 30 bJ.2) λcI=>opt (ba (d.1 1) cI.1 cI.2) λeV=>opt (aF eV.1 n1 30 eV.2) λdq=>opt (aD bJ.1 (d.1 3) 30 dq.2) λnu=>opt (ba (d.1 4) nu.1 nu.2) λtX=>opt (aF tX.1 n1 30 tX.2) λpO=>opt (aD bJ.1 (d.1 6) 30 pO.2) λmj=>opt (ba (d.1 7) mj.1 mj.2) λd=>opt (aF d.1 n1 30 d.2) λd=>opt (aih dq.1 pO.1 d.1 (λx=>0) (wI (0-bJ.1)) x1 x2) λxV=>ret ((xV,0),d.2))
def DO:=λx0 x1 x2 x3=>(Uo cg kK uK zb bl aZ bT CP x0 x1 x2 x3).val
abbrev Uq:=dU×rF×DM×FL×cT×bX×dr×Nn
def aj7 (p:Uq):KK:=⟨[jh p.1,Ea p.2.1,Uj p.b.1,aa1 p.b.2.1,gR p.c.1,fF p.c.2.1,iL p.c.b.1,aid p.c.b.2],⟨[⟨9,(rg 1 7 (9::rg 15 26 (rg 42 26 []))),[]⟩],[],[],[],(some ⟨0,(rg 0 8 (rg 10 58 [])),[]⟩)⟩,0,237⟩
theorem aDi (p:Uq):D2 (aj7 p) aj3 (lf PK) λb=>Uo p.1 p.2.1 p.b.1 p.b.2.1 p.c.1 p.c.2.1 p.c.b.1 p.c.b.2 b.1.1 b.1.2.1 b.1.b b.2:=λb=>by kernel_rfl
abbrev aj8:Uq:=(cg,kK,uK,zb,bl,aZ,bT,CP)
theorem aDj [ay]:SC (aj6 DO):=sc (kS (k:=aj7 aj8) (.c j8 (.c Hb (.c ajW (.c amC (.c iK (.c gk (.c jH (.c aw3 (.nil _))))))))) [9] [] ⟨kN,trivial⟩ trivial (aDi aj8))
def afc:=qa (pl gZ nil)
def No:=qe Fq
abbrev afd:=No.B
abbrev PM:=Int->Option afd
def afe (g:PM):Ct:=(142,FC afc (lf No) (λb=>g b))
def PN (av:cA)(aG:cm)(x0:Int):Pg afd:=opt (av (wI (x0*x0)) 17592186044416 1000000000000 false) λd=>opt (aG d.1 1 72057594037927936 d.2) λd=>ret d.1
def Bp:=λx0=>(PN aY aV x0).val
theorem azq:∀av aG,D0 [dA av,ey aG] 142 afc (lf No) λb=>PN av aG b:=λ_ _ b=>by kernel_rfl
theorem azr [ay]:SC (afe Bp):=s0 (.c dN (.c eO (.nil _))) (azq aY aV)
def aw4:=qa (pr (cu aS Em) bK)
def adB:=qe aWQ
abbrev aw5:=adB.B
abbrev aii:=Int->Int->Int->Int->Int->Int->Int->Int->Int->Bool->Option aw5
def aij (g:aii):Ct:=(94,FC aw4 (lf adB) (λb=>g b.1.1 b.1.2.1 b.1.b.1 b.1.b.2.1 b.1.c.1 b.1.c.2.1 b.1.c.b.1 b.1.c.b.2.1 b.1.d b.2))
def aik (av:cA)(azs:PM)(x0:Int)(x1:Int)(x2:Int)(x3:Int)(x4:Int)(x5:Int)(x6:Int)(x7:Int)(x8:Int)(x9:Bool):Pg aw5:=ae (decide (x1< -10000000)) (ret (((0,0,0,0),1),x9)) (ae (decide (x1>10000000)) (ret (((0,0,0,0),1),x9)) (ae (decide (x2< -10000000)) (ret (((0,0,0,0),1),x9)) (ae (decide (x2>10000000)) (ret (((0,0,0,0),1),x9)) (ae (decide (x3<1)) (ret (((0,0,0,0),1),x9)) (ae (decide (x3>10000000)) (ret (((0,0,0,0),1),x9)) (ae (decide (x4<0)) (ret (((0,0,0,0),1),x9)) (ae (decide (x4>100)) (ret (((0,0,0,0),1),x9)) (opt (av x1 1073741824 1000000 x9) λd=>opt (av x2 1073741824 1000000 d.2) λak=>opt (azs x3) λaK=>ret (((d.1,ak.1,aK,x4),0),ak.2)))))))))
def CQ:=λx0 x1 x2 x3 x4 x5 x6 x7 x8 x9=>(aik aY Bp x0 x1 x2 x3 x4 x5 x6 x7 x8 x9).val
abbrev ail:=cA×PM
def aw6 (p:ail):KK:=⟨[dA p.1,afe p.2],⟨[⟨2,(1::rg 5 4 (rg 12 4 (17::rg 20 8 (32::33::38::39::rg 44 20 [])))),[]⟩],[],[0],[],(some ⟨0,(rg 0 4 (rg 6 58 [])),[]⟩)⟩,0,94⟩
theorem aLL (p:ail):D2 (aw6 p) aw4 (lf adB) λb=>aik p.1 p.2 b.1.1 b.1.2.1 b.1.b.1 b.1.b.2.1 b.1.c.1 b.1.c.2.1 b.1.c.b.1 b.1.c.b.2.1 b.1.d b.2:=λb=>by kernel_rfl
abbrev aw7:ail:=(aY,Bp)
theorem aw8 [ay]:SC (aij CQ):=sc (kS (k:=aw6 aw7) (.c dN (.c azr (.nil _))) [2] [] ⟨kN,trivial⟩ trivial (aLL aw7))
def aff:=qa (pr (cu aS ak8) bK)
def Np:=qe aP5
abbrev afg:=Np.B
abbrev PO:=NI->Bool->Option afg
def afh (g:PO):Ct:=(260,FC aff (lf Np) (λb=>g b.1 b.2))
def PS (bk:dU)(fD:rF)(aF:cT)(x0:Nat->Int)(x1:Bool):Pg afg:=opt (bk x0) λd=>opt (fD d.1 d.2.1 d.2.2.1 d.2.2.2 x1) λd=>ae (decide (d.1 8<751619277)) (ret ((0,4),d.2)) (opt (aF (x0 9) (d.1 8) 30 d.2) λd=>let y0:=wI (0-d.1);ae (decide (y0<536870912)) (ret ((0,4),d.2)) (ret ((y0,0),d.2)))
def Bq:=λx0 x1=>(PS cg kK bl x0 x1).val
theorem azt:∀bk fD aF,D0 [jh bk,Ea fD,gR aF] 260 aff (lf Np) λb=>PS bk fD aF b.1 b.2:=λ_ _ _ b=>by kernel_rfl
theorem azu [ay]:SC (afh Bq):=s0 (.c j8 (.c Hb (.c iK (.nil _)))) (azt cg kK bl)
def aw9:=qa (pr (cu aS (c kY (c agi gZ))) bK)
def aj9:=qe (res (pr aV7 (pl mG nil)))
def aDk:=qe (res (pu (rZ (cu (rc (fJ (pu Ek (pu AS (pu (szl rq4) (pu (nat 27) fL)))))) ak7)) (pr mG (cl aQc nil))))
abbrev VW:=aj9.B⊕(Bool×NI×Int×Int×Int×NI×Int)
def axa:VW->T:=ls (lf aj9) (λd=>lf aDk (d.1,d.2.1,d.b.1,d.b.2.1,d.c.1,d.c.2.1,d.c.b,d.b.2.1,d.c.1))
abbrev axb:=NI->Int->Int->Int->Int->Int->Bool->Option VW
def axc (g:axb):Ct:=(238,FC aw9 axa (λb=>g b.1.1 b.1.2.1.1 b.1.2.1.2.1 b.1.2.1.b.1 b.1.2.1.b.2 b.1.b b.2))
def VX (azv:PO)(bk:dU)(fD:rF)(bM:mf)(RW:FL)(aF:cT)(ba:dr)(x0:Nat->Int)(x1:Int)(x2:Int)(x3:Int)(x4:Int)(x5:Int)(x6:Bool):Pg VW:=ae (decide (x4<30)) (ret (ww (4,x6))) (opt (azv x0 x6) λd=>let n1:=d.1.1;ae (d.1.2!=0) (ret (ww (d.1.2,d.2))) (opt (bk x0) λak=>opt (fD ak.1 ak.2.1 ak.2.2.1 ak.2.2.2 d.2) λaK=>opt (bM x0 4) λbJ=>opt (RW aK.1 bJ.1 bJ.2.1 bJ.2.2 aK.2) λcI=>opt (aF cI.1.2.1 n1 30 cI.2) λeV=>opt (ba x1 eV.1 eV.2) λdq=>opt (aF cI.1.1 n1 30 dq.2) λnu=>opt (ba x2 (wI (0-nu.1)) nu.2) λtX=>opt (aF (aK.1 1) n1 30 tX.2) λpO=>opt (aF (aK.1 0) n1 30 pO.2) λmj=>opt (aF (aK.1 4) n1 30 mj.2) λxV=>opt (aF (aK.1 3) n1 30 xV.2) λLl=>opt (aF (aK.1 7) n1 30 Ll.2) λMR=>opt (aF (aK.1 6) n1 30 MR.2) λd=>ret (wt (d.2,λj=>bif z9 j 6 then MR.1 else bif z9 j 5 then xV.1 else bif z9 j 4 then pO.1 else 0,dq.1,x3,x5,λj=>bif z9 j 6 then wI (0-d.1) else bif z9 j 5 then wI (0-Ll.1) else bif z9 j 4 then wI (0-mj.1) else 0,tX.1))))
def CR:=λx0 x1 x2 x3 x4 x5 x6=>(VX Bq cg kK dZ zb bl bT x0 x1 x2 x3 x4 x5 x6).val
abbrev aim:=PO×dU×rF×mf×FL×cT×dr
def axd (p:aim):KK:=⟨[afh p.1,jh p.2.1,Ea p.b.1,sC p.b.2.1,aa1 p.c.1,gR p.c.2.1,iL p.c.b],⟨[⟨11,(rg 1 9 (11::13::rg 16 49 (rg 66 30 []))),[]⟩],[],[0],[],(some ⟨0,(rg 0 8 (rg 10 86 [])),[]⟩)⟩,0,238⟩
theorem aLM (p:aim):D2 (axd p) aw9 axa λb=>VX p.1 p.2.1 p.b.1 p.b.2.1 p.c.1 p.c.2.1 p.c.b b.1.1 b.1.2.1.1 b.1.2.1.2.1 b.1.2.1.b.1 b.1.2.1.b.2 b.1.b b.2:=λb=>by kernel_rfl
abbrev axe:aim:=(Bq,cg,kK,dZ,zb,bl,bT)
theorem aLN [ay]:SC (axc CR):=sc (kS (k:=axd axe) (.c azu (.c j8 (.c Hb (.c vU (.c amC (.c iK (.c jH (.nil _)))))))) [11] [] ⟨kN,trivial⟩ trivial (aLM axe))
def axf:=qa (pl gZ nil)
def adC:=qe AT
abbrev axg:=adC.B
abbrev VY:=Int->Option axg
def VZ (g:VY):Ct:=(83,FC axf (lf adC) (λb=>g b))
def V0 (x0:Int):Pg axg:=ae (decide (x0>=0)) (ret (decide (x0<6))) (ret false)
def pX:=λx0=>(V0 x0).val
theorem aLO:D0 [] 83 axf (lf adC) λb=>V0 b:=λb=>by kernel_rfl
theorem ain [ay]:SC (VZ pX):=s0 (.nil _) aLO
def RY:=qa (pr (cu IB gZ) aPM)
def Et:=qe (res (pu Wt (pl (cl (B9 (cl gi (cu aX (cu axU nil)))) nil) nil)))
abbrev RZ:=Et.B
abbrev R4:=Int->Int->Int->Bool->Option RZ
def R5 (g:R4):Ct:=(265,FC RY (lf Et) (λb=>g b.1 b.2.1 b.b.1 b.b.2))
def Ga (x0:Int)(x1:Int)(x2:Int)(x3:Bool):Pg RZ:=ae (!x3) (ret x0) (ae (decide (x0>x1)) (ret x0) (ret x1))
def tt:=λx0 x1 x2 x3=>(Ga x0 x1 x2 x3).val
theorem an5:D0 [] 265 RY (lf Et) λb=>Ga b.1 b.2.1 b.b.1 b.b.2:=λb=>by kernel_rfl
theorem an6 [ay]:SC (R5 tt):=s0 (.nil _) an5
def R6:=qa (pu (cu IB nil) aPM)
def Eu:=qe (res (pu Wt (pl (cl (B9 aPF) nil) nil)))
abbrev R7:=Eu.B
abbrev R8:=Int->Int->Bool->Option R7
def R9 (g:R8):Ct:=(266,FC R6 (lf Eu) (λb=>g b.1 b.2.1 b.b))
def Gb (x0:Int)(x1:Int)(x2:Bool):Pg R7:=let y0:=wI (x1+1);ret (x0,if 1000<y0 then 1000 else y0,x2)
def tu:=λx0 x1 x2=>(Gb x0 x1 x2).val
theorem an7:D0 [] 266 R6 (lf Eu) λb=>Gb b.1 b.2.1 b.b:=λb=>by kernel_rfl
theorem an8 [ay]:SC (R9 tu):=s0 (.nil _) an7
def IZ:=qa (dp (cu az3 (c ai (c ai aJ7))) λa=>(c ml (cl (cl (gs a.b.1 as4) nil) nil)))
def yf:=qe (res (pu Wt (pl (cl aEm aaf) nil)))
abbrev I0:=yf.B
abbrev I1:=Int->Int->Nat->NI->NI->(Nat->Bool)->NI->NI->NI->Int->(Nat->Bool)->NI->NI->Bool->Option I0
def I2 (g:I1):Ct:=(256,vR 3 [.b,.i .i64,.i .i64] (FC IZ (lf yf) (λb=>g b.1.1 b.1.2.1 b.1.b.1 b.2.1.1.1 b.2.1.1.2.1 b.2.1.1.b.1 b.2.1.1.b.2.1 b.2.1.1.c.1 b.2.1.1.c.2 b.2.1.2 b.b.1 b.b.2.1 b.c b.1.b.2)))
def Af (ly:VY)(sH:ade)(zr:R4)(zt:R8)(x0:Int)(x1:Int)(x2:Nat)(x3:Nat->Int)(x4:Nat->Int)(x5:Nat->Bool)(x6:Nat->Int)(x7:Nat->Int)(x8:Nat->Int)(x9:Int)(fX:Nat->Bool)(fY:Nat->Int)(A7:Nat->Int)(w0:Bool):Pg I0:=let n3:=((x5,x6,x7,x8).1 (z4 x0));let n2:=((x4,x5,x6,x7,x8).1 (z4 x0));let n1:=((x3,x4,x5,x6,x7,x8).1 (z4 x0));let y0:=bf x0 6;let y1:=0+z4 x0*6+3;let y2:=wr y1 36;let y3:=y2&&wr y1 37;opt (ly x0) λd=>ae (!d) (ret ((x3,x4,x5,x6,x7,x8),x9)) (ae (ws x2==0) (ret ((x3,x4,x5,x6,x7,x8),x9)) (ae (z9 x2 x2) (opt (sH x2 fX fY A7 (w0&&true)) λd=>ae (decide (d.1>0)) (ae y0 (ae y2 (opt (zr x1 n1 n2 n3) λd=>ae y3 (ret ((λj=>bif z9 j (z4 x0) then d else(x3,x4,x5,x6,x7,x8).1 j,λj=>bif z9 j (z4 x0) then 0 else(x4,x5,x6,x7,x8).1 j,λj=>bif z9 j (z4 x0) then true else(x5,x6,x7,x8).1 j,x6,x7,x8),x9)) no) no) no) (ae y0 (ae y2 (opt (zt n1 n2 n3) λd=>ae y3 (ret ((λj=>bif z9 j (z4 x0) then d.1 else(x3,x4,x5,x6,x7,x8).1 j,λj=>bif z9 j (z4 x0) then d.2.1 else(x4,x5,x6,x7,x8).1 j,λj=>bif z9 j (z4 x0) then d.2.2 else(x5,x6,x7,x8).1 j,x6,x7,x8),x9)) no) no) no)) no))
def nA:=λx0 x1 x2 x3 x4 x5 x6 x7 x8 x9 fX fY A7 w0=>(Af pX z7 tt tu x0 x1 x2 x3 x4 x5 x6 x7 x8 x9 fX fY A7 w0).val
theorem adD:∀ly sH zr zt,D1 [VZ ly,adf sH,R5 zr,R9 zt] [0] 256 IZ (lf yf) λb=>Af ly sH zr zt b.1.1 b.1.2.1 b.1.b.1 b.2.1.1.1 b.2.1.1.2.1 b.2.1.1.b.1 b.2.1.1.b.2.1 b.2.1.1.c.1 b.2.1.1.c.2 b.2.1.2 b.b.1 b.b.2.1 b.c b.1.b.2:=λ_ _ _ _ b=>by kernel_rfl
theorem adE [ay]:SC (I2 nA):=sc (Sound.nil 3 [.b,.i .i64,.i .i64]<|k0 (.c ain (.c arQ (.c an6 (.c an8 (.nil _))))) (adD pX z7 tt tu))
def Oe:=qa (pr (cu IB zW) aPM)
def CS:=qe aKg
abbrev Of:=CS.B
abbrev Og:=Int->Int->Int->Int->Bool->Option Of
def Oh (g:Og):Ct:=(46,FC Oe (lf CS) (λb=>g b.1.1 b.1.2 b.2.1 b.b.1 b.b.2))
def Ev (x0:Int)(x1:Int)(x2:Int)(x3:Int)(x4:Bool):Pg Of:=let y0:=decide (x1>=0);ae (!x4) (ret false) (ae (decide (x0>=x2)) (ae y0 (ret (decide (wU (wU x0-wU x2)<=wU x1))) (ret false)) (ae y0 (ret true) (ret (decide (wU (wU x2-wU x0)>=wU (0-wU x1))))))
def qX:=λx0 x1 x2 x3 x4=>(Ev x0 x1 x2 x3 x4).val
theorem akM:D0 [] 46 Oe (lf CS) λb=>Ev b.1.1 b.1.2 b.2.1 b.b.1 b.b.2:=λb=>by kernel_rfl
theorem akN [ay]:SC (Oh qX):=s0 (.nil _) akM
def Ln:=qa (pr (cu (app 0 6) gZ) (cl (a 3 aPF jV) nil))
def Ag:=qe aKg
abbrev Lo:=Ag.B
abbrev uh:=Int->Int->Int->Bool->Int->Int->Int->Option Lo
def Br (g:uh):Ct:=(18,FC Ln (lf Ag) (λb=>g b.1 b.2.1.1 b.2.1.2.1 b.2.1.b b.b.1 b.b.2.1 b.c))
def Bs (xO:Og)(x0:Int)(x1:Int)(x2:Int)(x3:Bool)(x4:Int)(x5:Int)(x6:Int):Pg Lo:=opt (xO x0 x5 x1 x2 x3) λd=>ae d (ret (decide (x2<=x6))) (ret false)
def jC:=λx0 x1 x2 x3 x4 x5 x6=>(Bs qX x0 x1 x2 x3 x4 x5 x6).val
theorem afi:∀xO,D0 [Oh xO] 18 Ln (lf Ag) λb=>Bs xO b.1 b.2.1.1 b.2.1.2.1 b.2.1.b b.b.1 b.b.2.1 b.c:=λ_ b=>by kernel_rfl
theorem Lp [ay]:SC (Br jC):=s0 (.c akN (.nil _)) (afi qX)
def I3:=qa (pr (cu az3 zW) aEn)
def yg:=qe aKg
abbrev I4:=yg.B
abbrev Ah:=Int->Int->NI->NI->(Nat->Bool)->NI->NI->NI->Int->Option I4
def I5 (g:Ah):Ct:=(110,FC I3 (lf yg) (λb=>g b.1.1 b.1.2 b.2.1.1 b.2.1.2.1 b.2.1.b.1 b.2.1.b.2.1 b.2.1.c.1 b.2.1.c.2 b.b))
def Ai (ly:VY)(lH:uh)(x0:Int)(x1:Int)(x2:Nat->Int)(x3:Nat->Int)(x4:Nat->Bool)(x5:Nat->Int)(x6:Nat->Int)(x7:Nat->Int)(x8:Int):Pg I4:=opt (ly x0) λd=>ae d (ae (bf x0 6) (ae (wr (0+z4 x0*6+6) 36) (opt (lH x1 ((x2,x3,x4,x5,x6,x7).1 (z4 x0)) ((x3,x4,x5,x6,x7).1 (z4 x0)) ((x4,x5,x6,x7).1 (z4 x0)) ((x5,x6,x7).1 (z4 x0)) (x6 (z4 x0)) (x7 (z4 x0))) λd=>ret d) no) no) (ret false)
def nC:=λx0 x1 x2 x3 x4 x5 x6 x7 x8=>(Ai pX jC x0 x1 x2 x3 x4 x5 x6 x7 x8).val
theorem adF:∀ly lH,D0 [VZ ly,Br lH] 110 I3 (lf yg) λb=>Ai ly lH b.1.1 b.1.2 b.2.1.1 b.2.1.2.1 b.2.1.b.1 b.2.1.b.2.1 b.2.1.c.1 b.2.1.c.2 b.b:=λ_ _ b=>by kernel_rfl
theorem adG [ay]:SC (I5 nC):=s0 (.c ain (.c Lp (.nil _))) (adF pX jC)
def I6:=qa (pr (cu az3 gZ) aEn)
def yi:=qe axX
abbrev I7:=yi.B
abbrev I8:=Int->NI->NI->(Nat->Bool)->NI->NI->NI->Int->Option I7
def I9 (g:I8):Ct:=(43,FC I6 (lf yi) (λb=>g b.1 b.2.1.1 b.2.1.2.1 b.2.1.b.1 b.2.1.b.2.1 b.2.1.c.1 b.2.1.c.2 b.b))
def eJ:=qs (st (pr (cu az3 (c ai (us 3 (c ai (us 2 aJ6))))) (pl (cl pk nil) nil)))
def Gd:=qs (st (pr (cu az3 (c ai (us 3 (c ai (us 2 aKe))))) (pl (cl pk nil) nil)))
abbrev lW:=Gd.B
def Ge {ρ:Type}:=@ef lW ((.ex 0)) Gd ρ
def xi (lH:uh)(d:eJ.B):PL eJ lW:=let n3:=d.1.1;let n2:=d.2.1.2.2;let n1:=d.1.2;let y0:=z4 n1.2;let y1:=y0*6;let y2:=wI (n1.2+1);let y3:=decide (n1.2<6);ae y3 (ae (bf n1.2 6) (ae (wr (2+y1+1) 36) (ae (n2.1 y0) (ae (wr (0+y1+6) 36) (opt (lH n3 (d.2.1.1 y0) (d.2.1.2.1 y0) (n2.1 y0) (n2.2.1 y0) (n2.2.2.1 y0) (n2.2.2.2 y0)) λak=>ae (!ak) (ae (!decide (n1.2<0)) (ret (ww ((n3,wI (n1.1+wI (1*2^min y0 64)),y2),d.2))) no) (ret (ww ((n3,n1.1,y2),d.2)))) no) (ret (ww ((n3,n1.1,y2),d.2)))) no) no) (ret (wt ((n3,n1.1,n1.2,y3),d.2)))
def xj:=bE (xi jC) 2000
def Aj (eB:LT eJ lW)(x0:Int)(x1:Nat->Int)(x2:Nat->Int)(x3:Nat->Bool)(x4:Nat->Int)(x5:Nat->Int)(x6:Nat->Int)(x7:Int):Pg I7:=opt (eB ((x0,0,0),(x1,x2,x3,x4,x5,x6),x7)) λd=>ret d.1.2.1
def nD:=λx0 x1 x2 x3 x4 x5 x6 x7=>(Aj xj x0 x1 x2 x3 x4 x5 x6 x7).val
abbrev sI:=uh×(LT eJ lW)
def Ak (p:sI):KK:=⟨[Br p.1],⟨[⟨3,(2::3::4::6::7::rg 9 13 (rg 26 7 (rg 22 4 []))),[]⟩],[gx 3 1 eJ Ge p.2],[],[],(some ⟨0,(rg 0 4 (rg 5 28 [])),[]⟩)⟩,1,43⟩
theorem V1 (p:sI):LI (Ak p) 3 eJ Ge (xi p.1):=λ_ d c K=>by kernel_rfl
theorem adH (p:sI):D2 (Ak p) I6 (lf yi) λb=>Aj p.2 b.1 b.2.1.1 b.2.1.2.1 b.2.1.b.1 b.2.1.b.2.1 b.2.1.c.1 b.2.1.c.2 b.b:=λb=>by kernel_rfl
abbrev Al:sI:=(jC,xj)
theorem adI [ay]:SC (I9 nD):=sc (kS (k:=Ak Al) (.c Lp (.nil _)) [3] [] ⟨kL (V1 Al),trivial⟩ trivial (adH Al))
def Oi:=qa (pu (cu az3 nil) aEn)
def CT:=qe aKg
abbrev Oj:=CT.B
abbrev Ol:=NI->NI->(Nat->Bool)->NI->NI->NI->Int->Option Oj
def Om (g:Ol):Ct:=(44,FC Oi (lf CT) (λb=>g b.1.1 b.1.2.1 b.1.b.1 b.1.b.2.1 b.1.c.1 b.1.c.2 b.2))
def Ew (x0:Nat->Int)(x1:Nat->Int)(x2:Nat->Bool)(x3:Nat->Int)(x4:Nat->Int)(x5:Nat->Int)(x6:Int):Pg Oj:=ret (decide (x6>=10))
def qY:=λx0 x1 x2 x3 x4 x5 x6=>(Ew x0 x1 x2 x3 x4 x5 x6).val
theorem akO:D0 [] 44 Oi (lf CT) λb=>Ew b.1.1 b.1.2.1 b.1.b.1 b.1.b.2.1 b.1.c.1 b.1.c.2 b.2:=λb=>by kernel_rfl
theorem akP [ay]:SC (Om qY):=s0 (.nil _) akO
def Gf:=qa (pr (cu az3 (c (aa aKd) (cl (aa aKd) nil))) aEn)
def vp:=qe (res (pu Wt (pl (cl aEm nil) nil)))
abbrev Gg:=vp.B
abbrev Gh:=Bool->Int->Int->Bool->Int->Int->NI->NI->(Nat->Bool)->NI->NI->NI->Int->Option Gg
def Gi (g:Gh):Ct:=(230,FC Gf (lf vp) (λb=>g b.1.1.1 b.1.1.2.1 b.1.1.b b.1.2.1 b.1.b.1 b.1.b.2 b.2.1.1 b.2.1.2.1 b.2.1.b.1 b.2.1.b.2.1 b.2.1.c.1 b.2.1.c.2 b.b))
def xm (x0:Bool)(x1:Int)(x2:Int)(x3:Bool)(x4:Int)(x5:Int)(x6:Nat->Int)(x7:Nat->Int)(x8:Nat->Bool)(x9:Nat->Int)(fX:Nat->Int)(fY:Nat->Int)(A7:Int):Pg Gg:=let y0:=wI (A7+1);let y1:=wI (A7-1);ae (decide (x1>0)) (ae (decide (x4>0)) (ae (!x0) (ae (!x3) (ret ((x6,x7,x8,x9,fX,fY),if 1000<y0 then 1000 else y0)) (ret ((x6,x7,x8,x9,fX,fY),if 0>y1 then 0 else y1))) (ret ((x6,x7,x8,x9,fX,fY),if 0>y1 then 0 else y1))) (ae (decide (x1<0)) (ae (!x0) (ae (!x3) (ae (decide (x4<0)) (ret ((x6,x7,x8,x9,fX,fY),if 1000<y0 then 1000 else y0)) (ret ((x6,x7,x8,x9,fX,fY),if 0>y1 then 0 else y1))) (ret ((x6,x7,x8,x9,fX,fY),if 0>y1 then 0 else y1))) (ret ((x6,x7,x8,x9,fX,fY),if 0>y1 then 0 else y1))) (ae (!x0) (ae (!x3) (ret ((x6,x7,x8,x9,fX,fY),if 0>y1 then 0 else y1)) (ret ((x6,x7,x8,x9,fX,fY),if 0>y1 then 0 else y1))) (ret ((x6,x7,x8,x9,fX,fY),if 0>y1 then 0 else y1))))) (ae (decide (x1<0)) (ae (!x0) (ae (!x3) (ae (decide (x4<0)) (ret ((x6,x7,x8,x9,fX,fY),if 1000<y0 then 1000 else y0)) (ret ((x6,x7,x8,x9,fX,fY),if 0>y1 then 0 else y1))) (ret ((x6,x7,x8,x9,fX,fY),if 0>y1 then 0 else y1))) (ret ((x6,x7,x8,x9,fX,fY),if 0>y1 then 0 else y1))) (ae (!x0) (ae (!x3) (ret ((x6,x7,x8,x9,fX,fY),if 0>y1 then 0 else y1)) (ret ((x6,x7,x8,x9,fX,fY),if 0>y1 then 0 else y1))) (ret ((x6,x7,x8,x9,fX,fY),if 0>y1 then 0 else y1))))
def lX:=λx0 x1 x2 x3 x4 x5 x6 x7 x8 x9 fX fY A7=>(xm x0 x1 x2 x3 x4 x5 x6 x7 x8 x9 fX fY A7).val
theorem YW:D0 [] 230 Gf (lf vp) λb=>xm b.1.1.1 b.1.1.2.1 b.1.1.b b.1.2.1 b.1.b.1 b.1.b.2 b.2.1.1 b.2.1.2.1 b.2.1.b.1 b.2.1.b.2.1 b.2.1.c.1 b.2.1.c.2 b.b:=λb=>by kernel_rfl
theorem YX [ay]:SC (Gi lX):=s0 (.nil _) YW
end Go.Proofs.YtldgljclcgaibaaGreat
namespace Go.Proofs.YtldgljclcgaibaaGreat
open Go.Ab Go.Ab.Pg
instance aTa (x0:Nat->Int)(x1:Nat->Int)(x2:Nat->Int)(x3:Int)(x4:Bool):bz (pT x0 x1 x2 x3 x4):=by
 unfold pT E3;refine aH ?_;rw[bH];intro d1 _;refine aA (anv _ (by simp)) λd _ hd=> ?_;refine aA (anu _ (by simp)) λd _ hd=> ?_;simp only[bP]
instance a28 (x0 x1 x2:Int):bz (FZ x0 x1 x2):=by
 have h1:=mu x0;have h2:=mu x1;obtain⟨a,b,e,_,_⟩:=Bl (sat x0) (sat x0) (by omega) (by omega) (by omega) (by omega);unfold FZ Yn;refine aH ?_;rw[oO,bV,oO,bV,aN];refine⟨λ_=>by rw[aw];trivial,λc1=> ?_⟩;rw[aN];refine⟨λ_=>by rw[aw];trivial,λc2=> ?_⟩;rw[aN];refine⟨λ_=>by rw[aw];trivial,λc3=> ?_⟩;have c1:=vk c1;have c2:=vk c2
 have sq:0<=x2*x2/\x2*x2<=1000000:=by
  refine⟨Cb (by omega) (by omega),?_⟩;have:=LW (show x2<=1000 by omega) (show x2<=1000 by omega) (by omega) (by omega);omega
 have w1:wI (x2*x2)=x2*x2:=dV;have w2:wI (x2*x2*65536)=x2*x2*65536:=dV;obtain⟨a2,b2,e2,_,_⟩:=Bl (x2*x2*65536) (sat x1) (by omega) (by omega) (by omega) (by omega);rw[e,bV,w1,w2,e2,bV];simp only[bP]
theorem aDl (p:Nat×Bool)(a b:Int):∀(d:qG.B) (hd:0<=d.1.2.2.2/\d.1.2.2.2<=24/\d.1.1=p/\d.1.2.1=a/\d.1.2.2.1=b),Ok (Yp d) (λx:F1=>x.1.1=p/\x.1.2.1=a/\x.1.2.2.1=b):=
 bO (λd:qG.B=>z4 (24-d.1.2.2.2)) (λd hd=>by
  have hw:wI (d.1.2.2.2+1)=d.1.2.2.2+1:=aW;unfold Yo;simp only[bP];simp only[nf,uZ,hw];repeat' (first|exact True.intro|exact hd.2.2.1|exact hd.2.2.2.1|exact hd.2.2.2.2|omega|(intro _)|(apply And.intro))) (λd hd=>by omega)
theorem aDm:∀(d:nS.B) (hd:0<=d.1.2.2/\d.1.2.2<=d.1.2.1/\d.1.2.1<=1999/\d.1.2.1=((d.1.1.1:Nat):Int)),Ok (MZ d) (λx:Bk=>True):=
 bO (λd:nS.B=>z4 (d.1.2.1-d.1.2.2)) (λd hd=>by
  unfold MY;try dsimp only
  rw[aN];refine⟨λh=> ?_,λ_=>by simp only[aw,ld]⟩;have h:=dm h;have hw:wI (d.1.2.2+1)=d.1.2.2+1:=aW;rw[bL,aQ,bL];refine⟨by simp only[bq];omega,rfl,?_⟩;refine aA (aDl d.1.1 d.1.2.1 d.1.2.2 _ (by simp)) λx _ hx=> ?_;obtain⟨a1,a2,a3⟩:=hx;simp only[bP,a1,a2,a3,hw];omega) (λd hd=>by omega)
theorem aLP (x:Hj.B)(h:x.1.2.1<=1999):bz (CL x):=by
 unfold CL VQ;refine aH ?_;rw[aN,aQ,bL];refine⟨λ_=>by simp only[bP],λ_=>⟨rfl,?_⟩⟩;refine aA (aDm _ (hdN x.1.2.1 h)) λd _ hd=> ?_;simp only[aw]
instance a1A (x0:Nat->Int)(x1:Nat->Int)(x2:Nat->Int)(x3:Nat->Int)(x4:Int)(x5:Int)(x6:Int)(x7:Bool):bz (F2 x0 x1 x2 x3 x4 x5 x6 x7):=by
 have ta:=λ(d:Nat->Int) a b=>aLP ((d,1,true),a,b) (by show 1<=1999;omega)
 unfold F2 abk;refine aH ?_;simp only[bP]
theorem aGH (n:Int):∀(d:pV.B) (hd:0<=d.1.2.2.2/\d.1.2.2.2<=d.1.2.2.1/\d.1.2.2.1<=1999/\d.1.2.2.1=((d.1.2.1.1:Nat):Int)/\(d.1.1:Int)=d.1.2.2.2/\d.1.2.2.1=n),Ok (Q5 d) (λx:Ec=>(x.1.1:Int)=n):=
 bO (λd:pV.B=>z4 (d.1.2.2.1-d.1.2.2.2)) (λd hd=>by
  have hw:wI (d.1.2.2.2+1)=d.1.2.2.2+1:=aW;unfold Q4;simp only[bP];simp only[nf,uZ,hw];repeat' (first|exact True.intro|omega|(intro _)|(apply And.intro))) (λd hd=>by omega)
theorem aLQ (x:Lm.B)(h:x.1.2.2.1<=1999):Ok (F4 x) (λr:abl=>r.1.2.2=x.1.2.2.1):=by
 unfold F4 abm;show PQ _ _;rw[aQ,bL,bL];refine⟨rfl,rfl,?_⟩;refine aA (aGH ((x.1.2.2.1:Nat):Int) _ ?_) λd _ hd=> ?_
 .dsimp only;simp only[dz];exact⟨by omega,by omega,by omega,trivial,rfl,trivial⟩
 .rw[aw];exact Int.ofNat.inj hd
theorem azw:∀(d:oP.B) (hd:0<=d.1.2.2.2.2/\d.1.2.2.2.2<=d.1.2.2.2.1/\d.1.2.2.2.1<=1999/\d.1.2.2.2.1=((d.1.2.2.1.1:Nat):Int)),Ok (T5 d) (λx:DI=>True):=
 bO (λd:oP.B=>z4 (d.1.2.2.2.1-d.1.2.2.2.2)) (λd hd=>by
  have hw:wI (d.1.2.2.2.2+1)=d.1.2.2.2.2+1:=aW;unfold T4;simp only[bP];simp only[nf,pB,uZ,hw];repeat' (first|exact True.intro|omega|(intro _)|(apply And.intro))) (λd hd=>by omega)
theorem ar7 (x0:Nat)(x1:Nat->Bool)(x2:Nat->Int)(x3:Nat->Int)(w0:Bool)(h:x0<=1999):bz (z7 x0 x1 x2 x3 w0):=by
 unfold z7 adg;refine aH ?_;rw[aQ,bL];refine⟨rfl,?_⟩;refine aA (azw _ (hdN x0 h)) λd _ hd=> ?_;simp only[bP]
instance aUh:bz eL:=by
 unfold eL Ps;exact aH (by simp only[bP])
theorem azx:∀(d:mx.B) (hd:0<=d.1.2.2.2.2/\d.1.2.2.2.2<=d.1.2.2.2.1/\d.1.2.2.2.1<=1999/\d.1.2.2.2.1=((d.1.2.2.1.1:Nat):Int)/\(d.1.1:Int)<=d.1.2.2.2.2/\(d.1.2.1:Int)<=d.1.2.2.2.2/\d.1.2.2.2.1<=1900),Ok (JS d) (λx:yM=>x.1.1<=1900/\x.1.2.1<=1900):=
 bO (λd:mx.B=>z4 (d.1.2.2.2.1-d.1.2.2.2.2)) (λd hd=>by
  have hw:wI (d.1.2.2.2.2+1)=d.1.2.2.2.2+1:=aW;unfold JR;simp only[bP];simp only[nf,pB,uZ,hw];repeat' (first|exact True.intro|omega|(intro _)|(apply And.intro))) (λd hd=>by omega)
theorem aIb (x0:Nat)(x1:Bool)(x2:Nat->Int)(x3:Nat->Int)(x4:Nat->Int)(x5:Nat->Int)(x6:Nat->Int)(x7:Nat->Int)(x8:Nat->Int)(x9:Nat->Int)(fX:Nat->Int)(fY:Nat->Int)(w0:Bool)(h:x0<=1900):bz (z8 x0 x1 x2 x3 x4 x5 x6 x7 x8 x9 fX fY w0):=by
 unfold z8 Q7;try dsimp only
 refine aH ?_;rw[bH];intro d1 _;rw[aQ,bL,bL];refine⟨rfl,rfl,?_⟩;refine aA (azx _ ?_) λd _ hd=> ?_
 .try dsimp only
  simp only[dz];exact⟨by omega,by omega,by omega,trivial,by omega,by omega,by omega⟩
 .have t1:=λa b c e g=>ah0 d.1.1 a b c e g hd.1
  have t2:=λa b c e g=>ah0 d.1.2.1 a b c e g hd.2
  simp only[bP,aQ,LS,Eo]
instance a29 (x0 x1:Nat->Int)(x2:Int)(x4:Bool)(x5:Nat->Int)(w0:Bool):bz (cS x0 x1 x2 4 x4 x5 w0):=M6 _ _ _ _ _ _ _ (by omega)
instance a3a (x0 x1:Nat->Int)(x2:Int)(x4:Bool)(x5:Nat->Int)(w0:Bool):bz (cS x0 x1 x2 3 x4 x5 w0):=M6 _ _ _ _ _ _ _ (by omega)
instance a3b (x0 x1:Nat->Int)(x2:Int)(x4:Bool)(x5:Nat->Int)(w0:Bool):bz (cS x0 x1 x2 2 x4 x5 w0):=M6 _ _ _ _ _ _ _ (by omega)
instance a3c (x0 x1:Nat->Int)(x2:Int)(x4:Bool)(x5:Nat->Int)(w0:Bool):bz (cS x0 x1 x2 1 x4 x5 w0):=M6 _ _ _ _ _ _ _ (by omega)
instance aZ2 (x0:Nat->Int)(x1:Nat->Int)(x2:Nat->Int)(x3:Int)(x4:Int)(x5:Bool):bz (CM x0 x1 x2 x3 x4 x5):=by
 unfold CM VV;exact aH (by simp only[bP])
theorem axh:∀(d:mR.B) (hd:0<=d.1.2.2.2.2/\d.1.2.2.2.2<=d.1.2.2.2.1/\d.1.2.2.2.1<=1999/\d.1.2.2.2.1=((d.1.2.2.1.1:Nat):Int)/\(d.1.2.1:Int)=d.1.2.2.2.2/\0<=d.1.1/\d.1.1+d.1.2.2.2.1<=24),Ok (Pv d) (λx:Bm=>True):=
 bO (λd:mR.B=>z4 (d.1.2.2.2.1-d.1.2.2.2.2)) (λd hd=>by
  have hw:wI (d.1.2.2.2.2+1)=d.1.2.2.2.2+1:=aW;unfold Pu;try dsimp only
  have h1:wI (d.1.1+d.1.2.2.2.2)=d.1.1+d.1.2.2.2.2:=dV;simp only[h1];simp only[bP];simp only[nf,pB,uZ,hw];repeat' (first|exact True.intro|omega|(intro _)|(apply And.intro))) (λd hd=>by omega)
theorem YY (x0:Nat->Int)(x1:Int)(x2:Nat)(x3:Bool)(x4:Nat->Int)(w0:Bool)(h0:0<=x1)(h1:x1+(x2:Int)<=24):bz (iy x0 x1 x2 x3 x4 w0):=by
 unfold iy Nb;refine aH ?_;rw[bH];intro d1 _;rw[aQ,bL,bL];refine⟨rfl,rfl,?_⟩;refine aA (axh _ ?_) λd _ hd=> ?_
 .dsimp only;simp only[dz];exact⟨by omega,by omega,by omega,trivial,rfl,h0,h1⟩
 .simp only[bP]
def aka (a:Int)(n:Nat)(f:Nat->Int):Nat->Int:=λj=>bif z9 j (n+1) then a else bif z9 j n then a else f j
theorem sum_add (a b:Int)(n:Nat)(hn:n<=1000)(f g:Nat->Int):ny a b n n f g=some ((n+2,n+2),aka a n f,aka b n g):=by
 have hb:wr ((n+2)*8) 140737488355328=true:=by rw[bZ];omega
 simp only[ny,Yy,bN,bQ,fq,hb,bB];rfl
theorem aUi (a b:Int)(f g:Nat->Int):ny a b 0 0 f g=some ((2,2),aka a 0 f,aka b 0 g):=sum_add a b 0 (by omega) f g
theorem aUj (a b:Int)(f g:Nat->Int):ny a b 2 2 f g=some ((4,4),aka a 2 f,aka b 2 g):=sum_add a b 2 (by omega) f g
theorem aUk (a b:Int)(f g:Nat->Int):ny a b 4 4 f g=some ((6,6),aka a 4 f,aka b 4 g):=sum_add a b 4 (by omega) f g
theorem aUl (a b:Int)(f g:Nat->Int):ny a b 6 6 f g=some ((8,8),aka a 6 f,aka b 6 g):=sum_add a b 6 (by omega) f g
theorem aUm (a b:Int)(f g:Nat->Int):ny a b 8 8 f g=some ((10,10),aka a 8 f,aka b 8 g):=sum_add a b 8 (by omega) f g
instance a4P (eZ:Bool)(f g:Nat->Int)(w w':Bool):bz (bD 30 6 6 eZ f g w w'):=M5 6 (by omega) eZ f g w w'
instance a4Q (eZ:Bool)(f g:Nat->Int)(w w':Bool):bz (bD 30 8 8 eZ f g w w'):=M5 8 (by omega) eZ f g w w'
instance a32 (eZ:Bool)(f g:Nat->Int)(w w':Bool):bz (bD 30 10 10 eZ f g w w'):=M5 10 (by omega) eZ f g w w'
instance aZq (x0:Int)(x1:Int)(x2:Int)(x3:Int)(x4:Int)(x5:Int)(x6:Int)(x7:Bool):bz (Aa x0 x1 x2 x3 x4 x5 x6 x7):=by
 unfold Aa ado;try dsimp only
 exact aH (by simp only[bP,aUi,aUj,aUk,aUl,aUm,bV,aQ,OH,LS,Eo])
instance aZr (x0:Int)(x1:Int)(x2:Int)(x3:Int)(x4:Int)(x5:Int)(x6:Int)(x7:Int)(x8:Int):bz (Ac x0 x1 x2 x3 x4 x5 x6 x7 x8):=by
 unfold Ac adr;exact aH (by simp only[bP])
instance aZs (x0:Int)(x1:Int)(x2:Int):bz (gT x0 x1 x2):=by
 unfold gT IY;exact aH (by simp only[bP])
instance aZ3 (x0:Int)(x1:Int)(x2:Int)(x3:Int)(x4:Int)(x5:Int)(x6:Int)(x7:Int)(x8:Int):bz (Nd x0 x1 x2 x3 x4 x5 x6 x7 x8):=by
 unfold Nd ah3;exact aH (by simp only[bP])
instance aUn (x0:Int):bz (Bn x0):=by
 unfold Bn Py;exact aH (by simp only[bP])
instance aZ4 (x0:Int)(x1:Int)(x2:Int)(x3:Int)(x4:Int)(x5:Int)(x6:Int)(x7:Int)(x8:Int)(x9:Bool):bz (CN x0 x1 x2 x3 x4 x5 x6 x7 x8 x9):=by
 unfold CN ah7;exact aH (by simp only[bP])
theorem aud:∀(d:lV.B) (hd:0<=d.1.2.2/\d.1.2.2<=d.1.2.1/\d.1.2.1<=1999/\d.1.2.1=((d.1.1.1:Nat):Int)),Ok (Nh d) (λx:zn=>True):=
 bO (λd:lV.B=>z4 (d.1.2.1-d.1.2.2)) (λd hd=>by
  have hw:wI (d.1.2.2+1)=d.1.2.2+1:=aW;unfold Ng;simp only[bP];simp only[nf,pB,uZ,hw];repeat' (first|exact True.intro|omega|(intro _)|(apply And.intro))) (λd hd=>by omega)
theorem aDn (x0:Nat)(x1:Nat->Int)(w0:Bool)(h:x0<=1999):bz (qH x0 x1 w0):=by
 unfold qH T8;refine aH ?_;rw[aQ,bL];refine⟨rfl,?_⟩;refine aA (aud _ (hdN x0 h)) λd _ hd=> ?_;simp only[bP]
instance a33 (x1:Nat->Int)(w0:Bool):bz (qH 1 x1 w0):=aDn _ _ _ (by omega)
theorem wE (x0:Nat->Int)(x1:Int)(x2:Int)(x3:Int)(x4:Int)(x5:Bool)(h0:0<=x1)(h1:x1<24):bz (eM x0 x1 x2 x3 x4 x5):=by
 have hr:bf x1 24=true:=by simp only[bq];omega
 unfold eM PA;exact aH (by simp only[bP,hr,LS,Eo])
instance aZ5 (x0:Nat->Int)(x2 x3 x4:Int)(x5:Bool):bz (eM x0 4 x2 x3 x4 x5):=wE _ _ _ _ _ _ (by omega) (by omega)
instance aZ6 (x0:Nat->Int)(x2 x3 x4:Int)(x5:Bool):bz (eM x0 5 x2 x3 x4 x5):=wE _ _ _ _ _ _ (by omega) (by omega)
instance aZ7 (x0:Nat->Int)(x2 x3 x4:Int)(x5:Bool):bz (eM x0 6 x2 x3 x4 x5):=wE _ _ _ _ _ _ (by omega) (by omega)
instance aZ8 (x0:Nat->Int)(x2 x3 x4:Int)(x5:Bool):bz (eM x0 7 x2 x3 x4 x5):=wE _ _ _ _ _ _ (by omega) (by omega)
instance aZ9 (x0:Nat->Int)(x2 x3 x4:Int)(x5:Bool):bz (eM x0 8 x2 x3 x4 x5):=wE _ _ _ _ _ _ (by omega) (by omega)
instance a0a (x0:Nat->Int)(x2 x3 x4:Int)(x5:Bool):bz (eM x0 9 x2 x3 x4 x5):=wE _ _ _ _ _ _ (by omega) (by omega)
instance a4R (eZ:Bool)(l:Nat->Int)(w:Bool):bz (cJ 4 eZ l w):=aLw 4 (by omega) eZ l w
instance a3d (eZ:Bool)(f:Nat->Int)(w:Bool):bz (cz 2 eZ f w):=aGo 2 (by omega) eZ f w
instance aUo (x0:Nat->Int)(x1:Int)(x2:Int)(x3:Int)(x4:Int)(x5:Int)(x6:Int)(x7:Int)(x8:Int)(x9:Int)(fX:Bool):bz (Bo x0 x1 x2 x3 x4 x5 x6 x7 x8 x9 fX):=by
 unfold Bo PD;exact aH (by simp only[bP,qV])
instance aTb (x0:Int)(x1:Int)(x2:Int)(x3:Int)(x4:Int)(x5:Int)(x6:Int)(x7:Int)(x8:Bool):bz (lx x0 x1 x2 x3 x4 x5 x6 x7 x8):=by
 unfold lx Nk;exact aH (by simp only[bP,qV])
instance aRt (x:xc.B):bz (xd x):=by
 unfold xd Kx;exact aH (by simp only[bP,qV])
instance aYD (x:F5.B):bz (F6 x):=by
 unfold F6 YH;try dsimp only
 exact aH (by simp only[bP,qV])
instance aRu (x0:Int):bz (xf x0):=by
 unfold xf Kz;exact aH (by simp only[bP,qV])
instance aYE (x0:Int)(x1:Int)(x2:Int)(x3:Int)(x4:Int)(x5:Int)(x6:Int)(x7:Int)(x8:Int)(x9:Int)(fX:Int)(fY:Bool):bz (xg x0 x1 x2 x3 x4 x5 x6 x7 x8 x9 fX fY):=by
 unfold xg YO;exact aH (by simp only[bP,qV])
instance aRv (x0:Int)(x1:Int)(x2:Int)(x3:Int)(x4:Int)(x5:Int)(x6:Int)(x7:Int)(x8:Int)(x9:Bool):bz (oz x0 x1 x2 x3 x4 x5 x6 x7 x8 x9):=by
 unfold oz KC;exact aH (by simp only[bP,qV])
instance aYF (x0:Nat->Int)(x1:Int)(x2:Int)(x3:Int)(x4:Bool):bz (F7 x0 x1 x2 x3 x4):=by
 unfold F7 YS;exact aH (by simp only[bP,qV])
instance aPf (x0:Int)(x1:Int)(x2:Int)(x3:Int)(x4:Int)(x5:Int)(x6:Int)(x7:Int)(x8:Int)(x9:Bool):bz (mM x0 x1 x2 x3 x4 x5 x6 x7 x8 x9):=by
 unfold mM H';exact aH (by simp only[bP,qV])
instance aVg (x0:Nat->Int)(x1:Int)(x2:Int)(x3:Int)(x4:Int)(x5:Bool):bz (DJ x0 x1 x2 x3 x4 x5):=by
 unfold DJ Ud;try dsimp only
 exact aH (by simp only[bP,qV])
instance aVh (x0:Int):bz (DK x0):=by
 unfold DK Ug;exact aH (by simp only[bP,qV])
instance a1B (x0:Int)(x1:Int)(x2:Int)(x3:Int)(x4:Int)(x5:Int)(x6:Int)(x7:Int)(x8:Int)(x9:Bool):bz (zq x0 x1 x2 x3 x4 x5 x6 x7 x8 x9):=by
 unfold zq anQ;exact aH (by simp only[bP,qV])
instance a1C (x0:Nat->Int)(x1:Int)(x2:Int)(x3:Int)(x4:Int)(x5:Int)(x6:Bool):bz (RX x0 x1 x2 x3 x4 x5 x6):=by
 unfold RX anU;try dsimp only
 exact aH (by simp only[bP,qV])
instance aZt (x0:Int)(x1:Int)(x2:Int)(x3:Bool):bz (Ae x0 x1 x2 x3):=by
 unfold Ae ady;exact aH (by simp only[bP,qV])
instance aYG (x0:Nat->Int)(x1:Int)(x2:Int)(x3:Int)(x4:Int)(x5:Int)(x6:Int)(x7:Int)(x8:Bool):bz (F9 x0 x1 x2 x3 x4 x5 x6 x7 x8):=by
 unfold F9 YU;try dsimp only
 exact aH (by simp only[bP,qV])
instance a0b (x0:Int)(x1:Int)(x2:Int)(x3:Int)(x4:Int)(x5:Int)(x6:Int)(x7:Int)(x8:Int)(x9:Bool):bz (Nm x0 x1 x2 x3 x4 x5 x6 x7 x8 x9):=by
 unfold Nm aib;exact aH (by simp only[bP,qV])
instance aVi (x0:Int):bz (DL x0):=by
 unfold DL Ui;exact aH (by simp only[bP,qV])
instance a1D (x0:Int)(x1:Int)(x2:Int)(x3:Int)(x4:Int)(x5:Int)(x6:Int)(x7:Int)(x8:Int)(x9:Bool):bz (F' x0 x1 x2 x3 x4 x5 x6 x7 x8 x9):=by
 unfold F' an4;exact aH (by simp only[bP,qV])
instance aVj (x0:Nat->Int)(x1:Bool):bz (uK x0 x1):=by
 unfold uK Uk;exact aH (by simp only[bP,qV])
instance a0c (x0:Int)(x1:Int)(x2:Int)(x3:Nat->Int)(x4:Int)(x5:Int)(x6:Int):bz (CP x0 x1 x2 x3 x4 x5 x6):=by
 unfold CP aie;exact aH (by simp only[bP,qV])
instance aVk (x0:Nat->Int)(x1:Int)(x2:Int)(x3:Int)(x4:Bool):bz (DN x0 x1 x2 x3 x4):=by
 unfold DN Ul;exact aH (by simp only[bP,qV])
instance aVl (x0:Nat->Int)(x1:Int)(x2:Int)(x3:Bool):bz (DO x0 x1 x2 x3):=by
 unfold DO Uo;try dsimp only
 exact aH (by simp only[bP,qV])
instance aUp (x0:Int):bz (Bp x0):=by
 unfold Bp PN;exact aH (by simp only[bP,qV])
instance a0d (x0:Int)(x1:Int)(x2:Int)(x3:Int)(x4:Int)(x5:Int)(x6:Int)(x7:Int)(x8:Int)(x9:Bool):bz (CQ x0 x1 x2 x3 x4 x5 x6 x7 x8 x9):=by
 unfold CQ aik;exact aH (by simp only[bP,qV])
instance aUq (x0:Nat->Int)(x1:Bool):bz (Bq x0 x1):=by
 unfold Bq PS;exact aH (by simp only[bP,qV])
instance a0e (x0:Nat->Int)(x1:Int)(x2:Int)(x3:Int)(x4:Int)(x5:Int)(x6:Bool):bz (CR x0 x1 x2 x3 x4 x5 x6):=by
 unfold CR VX;try dsimp only
 exact aH (by simp only[bP,qV])
instance a0f (x0:Int):bz (pX x0):=by
 unfold pX V0;exact aH (by simp only[bP,qV])
instance aOq (x0:Int)(x1:Int)(x2:Int)(x3:Bool):bz (tt x0 x1 x2 x3):=by
 unfold tt Ga;exact aH (by simp only[bP,qV])
instance aOr (x0:Int)(x1:Int)(x2:Bool):bz (tu x0 x1 x2):=by
 unfold tu Gb;exact aH (by simp only[bP,qV])
instance aMr (x0:Int)(x1:Int)(x2:Int)(x3:Int)(x4:Bool):bz (qX x0 x1 x2 x3 x4):=by
 unfold qX Ev;exact aH (by simp only[bP,qV])
instance aJE (x0:Int)(x1:Int)(x2:Int)(x3:Bool)(x4:Int)(x5:Int)(x6:Int):bz (jC x0 x1 x2 x3 x4 x5 x6):=by
 unfold jC Bs;exact aH (by simp only[bP,qV])
instance aMs (x0:Nat->Int)(x1:Nat->Int)(x2:Nat->Bool)(x3:Nat->Int)(x4:Nat->Int)(x5:Nat->Int)(x6:Int):bz (qY x0 x1 x2 x3 x4 x5 x6):=by
 unfold qY Ew;exact aH (by simp only[bP,qV])
instance aGI (x0:Bool)(x1:Int)(x2:Int)(x3:Bool)(x4:Int)(x5:Int)(x6:Nat->Int)(x7:Nat->Int)(x8:Nat->Bool)(x9:Nat->Int)(fX:Nat->Int)(fY:Nat->Int)(A7:Int):bz (lX x0 x1 x2 x3 x4 x5 x6 x7 x8 x9 fX fY A7):=by
 unfold lX xm;exact aH (by simp only[bP,qV])
end Go.Proofs.YtldgljclcgaibaaGreat
