/-
  Parts of the proof: Q3 TF TG TH
-/
import Derived.Test.YtldgljclcgaibaaGreatZAE
import Derived.Test.YtldgljclcgaibaaGreatZAG
import Derived.Test.YtldgljclcgaibaaGreatZAH
open Nat renaming beq→z9,ble→wl
open Int renaming toNat→z4,ofNat→wr
open Sum renaming inl→ww,inr→ws
set_option linter.unusedVariables false
set_option linter.unusedSimpArgs false
set_option maxRecDepth 100000
set_option maxHeartbeats 4000000
noncomputable section
namespace Go.Proofs.YtldgljclcgaibaaGreat
open Go.Ab Go.Ab.Pg Go.Ab.Rq
def Le:=qa (dp (cu aS (c lz (c Fx (cl aJJ nil)))) λa=>(c xL (cl (cl (gs a.b.1 aKp) nil) nil)))
def aLv:=qe (res (pr (rH (c afG (c akP (cl (rc (gr (pu rq4 (pu we (pl jr (pu rq7 gB)))))) nil)))) (pr Om (cl aPI nil))))
abbrev aaT:=((NI×(NI×NI)×Nat)×Bool×(Nat->Bool)×NI×NI)
def aAR:aaT->T:=λd=>lf aLv (d.1,d.2.1,d.1.b,d.b)
abbrev aAS:=Le.B->Option aaT
def aAT (g:aAS):Ct:=(254,vA 3 [.i .i64,.i .i64,.i .i64,.i .i64,.i .i64,.i .i64,.i .i64,.i .i64,.i .i64,.i .i64,.i .i64,.i .i64,.i .i64,.i .i64,.i .i64,.i .i64,.i .i64,.i .i64,.i .i64,.i .i64,.i .i64,.i .i64,.i .i64,.i .i64,.i .i64,.i .i64,.i .i64] (FC Le aAR g))
def pJ:=qs (st (dp (cu aS (us 4 (cu EJ (cu aIm (us 1 (cu ap3 (cu (app 5 300) (us 1 (c aWm (us 3 (c aJJ aPp))))))))))) λa=>(pl (c bE (c (so (cl (gs a.2.1.1 aKp) nil)) (c nQ (c gC (c nQ (c gC (cl (so (cl (gs a.1 ast) nil)) nil))))))) bK)))
def aHC:=qs (st (pr (cu aS (us 4 (cu EJ (cu aIm (us 1 (cu ap3 (cu (app 5 300) (us 1 (c aWm (us 3 (c aJJ aPv))))))))))) (pl (c bE (c (so (cl (ga (pr jr aKp)) nil)) (c nQ (c gC (c nQ (c gC aWh)))))) bK)))
abbrev Eg:=((Nat×(Nat×Bool)×Int×Int×Bool)×Bool×(NI×NI×NI×NI×NI×NI×NI×NI×NI×NI×NI×NI×NI×NI×NI×NI×NI×NI×NI×NI×NI×NI×NI×NI×NI×NI×NI)×NI×(NI×NI)×NI×(NI×NI)×(Nat->Bool)×NI×NI)
def arj {ρ:Type}(x:Eg)(K:AX->St->Option ρ):Option ρ:=(λd=>K (.ex 0) (aHC.em (d.1,d.2.1,(d.1.2.1.1,d.b.1),d.b.2.1,d.c.1,d.c.2.1,d.c.b.1,d.1.1,d.c.b.2))) x
def QL (aOi:am0)(d:pJ.B):PL pJ Eg:=let aT:=d.1.1;let n5:=d.1.2.2;let n4:=d.2.2;let n7:=n4.2.2;let n3:=n4.1.2.2.2.2;let n8:=n3.2.2.2;let n1:=n8.2.2.2.2;let n9:=n1.2.2.2;let n2:=n9.2.2.2.2;let n6:=n2.2.2.2.2;let y0:=z4 n5.2;let y1:=aT+1;let y2:=decide (n5.2<n5.1);ae y2 (ae (bg n5.2 d.1.2.1.1) (opt (aOi n4.2.1 n7.1.1 n7.1.2 (cr (n4.1.1 y0) [n6.2.1 y0,n6.1 y0,n2.2.2.2.1 y0,n2.2.2.1 y0,n2.2.1 y0,n2.1 y0,n9.2.2.2.1 y0,n9.2.2.1 y0,n9.2.1 y0,n9.1 y0,n1.2.2.1 y0,n1.2.1 y0,n1.1 y0,n8.2.2.2.1 y0,n8.2.2.1 y0,n8.2.1 y0,n8.1 y0,n3.2.2.1 y0,n3.2.1 y0,n3.1 y0,n4.1.2.2.2.1 y0,n4.1.2.2.1 y0,n4.1.2.1 y0,n4.1.1 y0]) (n6.2.2.1 y0) (n6.2.2.2.1 y0) (n6.2.2.2.2 y0) d.2.1) λak=>ae (wl (y1*24) 140737488355328) (ret (ww ((y1,d.1.2.1,n5.1,wI (n5.2+1)),ak.2,n4.1,ak.1.1,ak.1.2.1,n7.2.1,n7.2.2.1,λj=>bif z9 j aT then ak.1.2.2.1 else n7.2.2.2.1 j,λj=>bif z9 j aT then ak.1.2.2.2.1 else n7.2.2.2.2.1 j,λj=>bif z9 j aT then ak.1.2.2.2.2 else n7.2.2.2.2.2 j))) no) no) (ret (ws ((aT,d.1.2.1,n5.1,n5.2,y2),d.2)))
def QM:=bI (QL F4) 2000
def aaU (dR:LT pJ Eg)(x:Le.B):Pg aaT:=ae (z9 x.1.2.2.1 x.1.2.2.1) (ae true (opt (dR ((0,x.1.2.2,wr x.1.2.2.1,0),x.2.1,x.2.2,x.1.1,x.1.2.1,λx=>0,(λx=>0,λx=>0),λx=>false,λx=>0,λx=>0)) λd=>ret ((d.2.2.2.1,d.2.2.2.2.1,d.1.1),d.2.1,d.2.2.2.2.2.2.2)) no) no
def F6:=λx=>(aaU QM x).val
abbrev aaV:=am0×(LT pJ Eg)
def ana (p:aaV):KK:=⟨[aAP p.1],⟨[⟨3,(rg 1 4 (7::10::12::13::14::rg 18 20 [])),[(11,[.b,.i .i64,.i .i64])]⟩],[fQ 3 2 pJ arj p.2],[0],[],(some ⟨0,(rg 0 8 (rg 11 27 [])),[]⟩)⟩,2,254⟩
theorem aF7 (p:aaV):LI (ana p) 3 pJ arj (QL p.1):=λ_ d c K=>by kernel_rfl
theorem aOj (p:aaV):D2 (ana p) Le aAR λb=>aaU p.2 b:=λb=>by kernel_rfl
abbrev anb:aaV:=(F4,QM)
theorem aOk [aA]:SC (aAT F6):=sc (Sound.nil 3 [.i .i64,.i .i64,.i .i64,.i .i64,.i .i64,.i .i64,.i .i64,.i .i64,.i .i64,.i .i64,.i .i64,.i .i64,.i .i64,.i .i64,.i .i64,.i .i64,.i .i64,.i .i64,.i .i64,.i .i64,.i .i64,.i .i64,.i .i64,.i .i64,.i .i64,.i .i64,.i .i64]<|kS (k:=ana anb) (.c aOa (.nil _)) [3] [] ⟨kL (aF7 anb),trivial⟩ trivial (aOj anb))
def ark:=qa (dp (cl aO7 nil) λa=>(cl (cl (gs a.1 ast) nil) nil))
def X8:=qe aWe
abbrev arl:=X8.B
abbrev acM:=Nat->(Nat->Bool)->NI->NI->Bool->Option arl
def acN (g:acM):Ct:=(255,vA 0 [.b,.i .i64,.i .i64] (FC ark (lf X8) (λb=>g b.1.1 b.2.1 b.b.1 b.b.2 b.1.2)))
def oJ:=qs (st (dp (us 2 (c ai (c ai (us 2 (c aO7 (c ai aVq)))))) λa=>(pl (cl (so (cl (gs a.b.1.1 ast) nil)) nil) nil)))
def aCx:=qs (st (pr (us 2 (c ai (c ai (us 2 (c aO7 (c ai aVG)))))) (pl aWh nil)))
abbrev DQ:=((Int×Int×(Nat×Bool)×Int×Int×Bool)×(Nat->Bool)×NI×NI)
def ajb {ρ:Type}(x:DQ)(K:AX->St->Option ρ):Option ρ:=(λd=>K (.ex 0) (aCx.em (d.1,d.1.b.1.1,d.2))) x
def TL (d:oJ.B):PL oJ DQ:=let n1:=d.1.2.2;let n2:=n1.2.2;let y0:=decide (n2<n1.2.1);ae y0 (ae (bg n2 n1.1.1) (ae (d.2.1 (z4 n2)) (ret (ww ((wI (d.1.1+1),d.1.2.1,n1.1,n1.2.1,wI (n2+1)),d.2))) (ret (ww ((d.1.1,wI (d.1.2.1+1),n1.1,n1.2.1,wI (n2+1)),d.2)))) no) (ret (ws ((d.1.1,d.1.2.1,n1.1,n1.2.1,n2,y0),d.2)))
def TM:=bI (TL) 2000
def acO (dR:LT oJ DQ)(x0:Nat)(x1:Nat->Bool)(x2:Nat->Int)(x3:Nat->Int)(w0:Bool):Pg arl:=ae (z9 x0 x0) (opt (dR ((0,0,(x0,w0),wr x0,0),x1,x2,x3)) λd=>ret (d.1.1,d.1.2.1)) no
def Aa:=λx0 x1 x2 x3 w0=>(acO TM x0 x1 x2 x3 w0).val
abbrev QN:=(LT oJ DQ)
def acP (p:QN):KK:=⟨[],⟨[⟨2,(0::1::4::5::rg 9 12 []),[]⟩],[fQ 2 1 oJ ajb p],[],[],(some ⟨0,(0::1::rg 4 17 []),[]⟩)⟩,1,255⟩
theorem ayG (p:QN):LI (acP p) 2 oJ ajb (TL):=λ_ d c K=>by kernel_rfl
theorem aHD (p:QN):D2 (acP p) ark (lf X8) λb=>acO p b.1.1 b.2.1 b.b.1 b.b.2 b.1.2:=λb=>by kernel_rfl
abbrev acQ:QN:=TM
theorem arn [aA]:SC (acN Aa):=sc (Sound.nil 0 [.b,.i .i64,.i .i64]<|kS (k:=acP acQ) (.nil _) [2] [] ⟨kL (ayG acQ),trivial⟩ trivial (aHD acQ))
def aem:=qa (pu nil nil)
def MW:=qe (res (pu (aa (cu asq (cu aO aKr))) (pu nil nil)))
abbrev O9:=MW.B
abbrev mn:=Option O9
def ri (g:mn):Ct:=(48,FC aem (lf MW) (λ_=>g))
def O' (iC:BX):Pg O9:=opt iC λd=>ret ()
def eM:Option O9:=(O' oA).val
theorem ayH:∀iC,D0 [La iC] 48 aem (lf MW) λb=>O' iC:=λ_ b=>by kernel_rfl
theorem v5 [aA]:SC (ri eM):=s0 (.c Rs (.nil _)) (ayH oA)
def aro:=qa (dp (cu aS (cl aO8 nil)) λa=>(c xL (cl (cl (gs a.1 mc) nil) nil)))
def X9:=qe (res (pr (aa aPQ) (pl Om nil)))
abbrev arp:=X9.B
abbrev acR:=Nat->Bool->NI->NI->NI->NI->NI->NI->NI->NI->NI->NI->Bool->Option arp
def arq (g:acR):Ct:=(113,vA 1 [.i .i64,.i .i64,.i .i64,.i .i64,.i .i64,.i .i64,.i .i64,.i .i64,.i .i64,.i .i64] (FC aro (lf X9) (λb=>g b.1.1 b.2.1 b.b.1 b.b.2.1 b.c.1 b.c.2.1 b.c.b.1 b.c.b.2.1 b.d.1 b.d.2.1 b.d.b.1 b.d.b.2 b.1.2)))
def mo:=qs (st (dp (cu aS (us 3 (cu (app 2 10) (cu (app 3 10) (c aWn (c aWo (us 3 (c aO8 (c ai aVr))))))))) λa=>(pl (c bE (c (so (cl (gs a.b.1.1 mc) nil)) (cu aXf (c aW6 (c (so (cl (gs a.1 ass) nil)) (cl aDQ nil)))))) bK)))
def aCy:=qs (st (pr (cu aS (us 3 (cu (app 2 10) (cu (app 3 10) (c aWn (c aWo (us 3 (c aO8 (c ai aVH))))))))) (pl (c bE (c tT (cu aXf (c aW6 (c aDQ (cl aDQ nil)))))) bK)))
abbrev yC:=((Nat×Nat×(Nat×Bool)×Int×Int×Bool)×Bool×aMt×aIg×(NI×NI×NI)×Nat×NI×NI×NI)
def ajc {ρ:Type}(x:yC)(K:AX->St->Option ρ):Option ρ:=(λd=>K (.ex 0) (aCy.em (d.1,d.2.1,(d.1.b.1.1,d.b.1),d.b.2.1,(d.1.1,d.c.1),d.c.2))) x
def JK (eZ:yV)(bH:iM)(d:mo.B):PL mo yC:=let n6:=d.1.1;let n2:=d.1.2;let n4:=n2.2.2;let n1:=d.2.2;let n5:=n1.2.2;let n3:=n1.1.2.2.2.2;let y0:=n6+1;let y1:=z4 n4.2;let y2:=n2.1+1;let y3:=decide (n4.2<n4.1);ae y3 (ae (bg n4.2 n2.2.1.1) (opt (eZ (n1.1.1 y1) (n1.1.2.1 y1) (n1.1.2.2.1 y1) (n1.1.2.2.2.1 y1) n1.2.1.1 n1.2.1.2.1 n1.2.1.2.2.1 n1.2.1.2.2.2 d.2.1) λak=>opt (bH ak.1.1 ak.1.2.1 ak.1.2.2.1 ak.1.2.2.2 ak.2) λaF=>ae (wl (y0*24) 140737488355328) (ae (wl (y2*24) 140737488355328) (ret (ww ((y0,y2,n2.2.1,n4.1,wI (n4.2+1)),aF.2,n1.1,aF.1,(λj=>bif z9 j n6 then n3.1 y1 else n5.1.1 j,λj=>bif z9 j n6 then n3.2.1 y1 else n5.1.2.1 j,λj=>bif z9 j n6 then n3.2.2.1 y1 else n5.1.2.2 j),y2,λj=>bif z9 j n2.1 then n3.2.2.2.1 y1 else n5.2.2.1 j,λj=>bif z9 j n2.1 then n3.2.2.2.2.1 y1 else n5.2.2.2.1 j,λj=>bif z9 j n2.1 then n3.2.2.2.2.2 y1 else n5.2.2.2.2 j))) no) no) no) (ret (ws ((n6,n2.1,n2.2.1,n4.1,n4.2,y3),d.2)))
def JL:=bI (JK lE c9) 2000
def QO (cz:mn)(dN:Cv)(dR:LT mo yC)(x0:Nat)(x1:Bool)(x2:Nat->Int)(x3:Nat->Int)(x4:Nat->Int)(x5:Nat->Int)(x6:Nat->Int)(x7:Nat->Int)(x8:Nat->Int)(x9:Nat->Int)(fU:Nat->Int)(fV:Nat->Int)(w0:Bool):Pg arp:=opt cz λd=>ae (z9 x0 x0) (ae true (opt (dR ((0,0,(x0,w0),wr x0,0),x1,(x2,x3,x4,x5,x6,x7,x8,x9,fU,fV),(1073741824,0,0,0),(λx=>0,λx=>0,λx=>0),0,λx=>0,λx=>0,λx=>0)) λd=>let n1:=d.2.2.2;ae (z9 d.1.1 d.1.1) (opt (dN d.1.1 d.2.1 n1.2.1.1 n1.2.1.2.1 n1.2.1.2.2 true) λak=>ae (z9 d.1.2.1 d.1.2.1) (opt (dN d.1.2.1 ak.2 n1.2.2.2.1 n1.2.2.2.2.1 n1.2.2.2.2.2 true) λaF=>ret ((n1.1.1,n1.1.2.1,n1.1.2.2.1,n1.1.2.2.2,ak.1.1,ak.1.2.1,ak.1.2.2,aF.1),aF.2)) no) no) no) no
def Ac:=λx0 x1 x2 x3 x4 x5 x6 x7 x8 x9 fU fV w0=>(QO eM kE JL x0 x1 x2 x3 x4 x5 x6 x7 x8 x9 fU fV w0).val
abbrev QP:=mn×yV×iM×Cv×(LT mo yC)
def acS (p:QP):KK:=⟨[ri p.1,FW p.2.1,nG p.b.1,Kl p.b.2.1],⟨[⟨4,(1::2::3::8::9::10::rg 14 32 []),[(6,[.i .i64,.i .i64,.i .i64]),(7,[.i .i64,.i .i64,.i .i64])]⟩],[fQ 4 2 mo ajc p.c],[0],[],(some ⟨0,(rg 0 4 (rg 5 41 [])),[]⟩)⟩,2,113⟩
theorem ayI (p:QP):LI (acS p) 4 mo ajc (JK p.2.1 p.b.1):=λ_ d c K=>by kernel_rfl
theorem aHE (p:QP):D2 (acS p) aro (lf X9) λb=>QO p.1 p.b.2.1 p.c b.1.1 b.2.1 b.b.1 b.b.2.1 b.c.1 b.c.2.1 b.c.b.1 b.c.b.2.1 b.d.1 b.d.2.1 b.d.b.1 b.d.b.2 b.1.2:=λb=>by kernel_rfl
abbrev acT:QP:=(eM,lE,c9,kE,JL)
theorem aHF [aA]:SC (arq Ac):=sc (Sound.nil 1 [.i .i64,.i .i64,.i .i64,.i .i64,.i .i64,.i .i64,.i .i64,.i .i64,.i .i64,.i .i64]<|kS (k:=acS acT) (.c v5 (.c Lb (.c pF (.c OX (.nil _))))) [4] [] ⟨kL (ayI acT),trivial⟩ trivial (aHE acT))
def av5:=qa (pr (cu aS (c lz aKb)) bJ)
def acU:=qe (res (pr (rH (c afG (c akP (cl (ra (c gi (c gi (c gi (cl gi (cu aO (cu aO (cu aO (cu aO (cu aO (cu aO (cu (gc axm) nil)))))))))))) nil)))) (pl mF nil)))
abbrev av6:=acU.B
abbrev av7:=NI->NI->NI->Int->Int->Bool->Option av6
def av8 (g:av7):Ct:=(221,FC av5 (lf acU) (λb=>g b.1.1 b.1.2.1.1 b.1.2.1.2 b.1.b.1 b.1.b.2 b.2))
def VE (aR:fC)(cz:mn)(wP:MA)(bn:ey)(eZ:yV)(bH:iM)(cW:z6)(cm:jb)(x0:Nat->Int)(x1:Nat->Int)(x2:Nat->Int)(x3:Int)(x4:Int)(x5:Bool):Pg av6:=opt (aR x0 x5) λd=>opt cz λak=>opt (wP x3 d.2) λaF=>opt (bn d.1) λbA=>opt (eZ aF.1.1 aF.1.2.1 aF.1.2.2.1 aF.1.2.2.2 bA.1 bA.2.1 bA.2.2.1 bA.2.2.2 aF.2) λcD=>opt (bH cD.1.1 cD.1.2.1 cD.1.2.2.1 cD.1.2.2.2 cD.2) λeU=>opt (cW d.1 0 4 (cr eU.1.1 [eU.1.2.2.2,eU.1.2.2.1,eU.1.2.1,eU.1.1]) false) λd=>opt (aR d eU.2) λd=>opt (cm x1 x2 0 4 d.2 (cr x4 [x4,x4,x4,x4]) true) λc8=>ret ((d.1,c8.1,aF.1),c8.2)
def CN:=λx0 x1 x2 x3 x4 x5=>(VE cg eM wC cC lE c9 eW cM x0 x1 x2 x3 x4 x5).val
theorem aLw:∀aR cz wP bn eZ bH cW cm,D0 [jl aR,ri cz,XE wP,jM bn,FW eZ,nG bH,Ee cW,Br cm] 221 av5 (lf acU) λb=>VE aR cz wP bn eZ bH cW cm b.1.1 b.1.2.1.1 b.1.2.1.2 b.1.b.1 b.1.b.2 b.2:=λ_ _ _ _ _ _ _ _ b=>by kernel_rfl
theorem aLx [aA]:SC (av8 CN):=s0 (.c kn (.c v5 (.c amy (.c kM (.c Lb (.c pF (.c IQ (.c FZ (.nil _))))))))) (aLw cg eM wC cC lE c9 eW cM)
def anc:=qa (dp (cu aS (c lz aPr)) λa=>(c xL (cl (cl (gs a.b.1 nN) nil) nil)))
def aCz:=qe (res (pr (rH (c afG (cl (rc (gr (pu rq4 (pu we (pl jr (pu Dx gB)))))) nil))) (pr Om (cl aJ1 nil))))
abbrev MX:=((NI×Nat)×Bool×NI)
def ane:MX->T:=λd=>lf aCz (d.1,d.2.1,d.1.2,d.b)
abbrev MY:=NI->Int->Nat->Bool->NI->Bool->Option MX
def MZ (g:MY):Ct:=(263,vA 3 [.i .i64] (FC anc ane (λb=>g b.1.1 b.1.2.1 b.1.b.1 b.2.1 b.b b.1.b.2)))
def mS:=qs (st (dp (cu aS (us 1 (c ai (us 2 (cu EJ (us 2 (cu aiu (us 1 (cu ap3 (c aWp (us 3 (c zU (c ai (cl ai (us 39 nil))))))))))))))) λa=>(pl (c bE (c (so (cl (gs a.b.1.1 nN) nil)) (c nQ (c nQ (c nQ (cl (so (cl (gs a.2.1 nN) nil)) nil)))))) bK)))
def ayJ:=qs (st (pr (cu aS (us 1 (c ai (us 2 (cu EJ (us 2 (cu aiu (us 1 (cu ap3 (c aWp (us 3 (c zU (c ai (c ai aVs)))))))))))))) (pl (c bE (c HW (c nQ (c nQ (c nQ abz))))) bK)))
abbrev Bu:=((Int×Nat×(Nat×Bool)×Int×Int×Bool)×Bool×NI×NI×NI×ub×NI)
def aen {ρ:Type}(x:Bu)(K:AX->St->Option ρ):Option ρ:=(λd=>K (.ex 0) (ayJ.em (d.1,d.2.1,(d.1.b.1.1,d.b.1),d.b.2.1,d.c.1,d.c.2.1,d.1.2.1,d.c.b))) x
def Pb (aG:cw)(aX:de)(d:mS.B):PL mS Bu:=let n2:=d.2.2.2;let n1:=d.1.2.2;let n3:=n1.2.2;let y0:=d.1.2.1+1;let y1:=wI (d.1.1+n3);let y2:=z4 y1;let y3:=bg y1 24;let y4:=decide (n3<n1.2.1);ae y4 (ae (bg n3 n1.1.1) (ae y3 (ae y3 (opt (aG (d.2.2.1 (z4 n3)) (wI (0-n2.2.2.1 y2)) (n2.2.2.1 y2) d.2.1) λak=>ae y3 (opt (aX ak.1 (n2.1 y2) ak.2) λaF=>ae (wl (y0*8) 140737488355328) (ae y3 (ae (true&&wl (0+y2*1+1) 24) (ret (ww ((d.1.1,y0,n1.1,n1.2.1,wI (n3+1)),aF.2,d.2.2.1,λj=>bif z9 j y2 then ak.1 else n2.1 j,n2.2.1,n2.2.2.1,λj=>bif z9 j d.1.2.1 then aF.1 else n2.2.2.2 j))) no) no) no) no) no) no) no) (ret (ws ((d.1.1,d.1.2.1,n1.1,n1.2.1,n3,y4),d.2)))
def Pc:=bI (Pb aY bX) 2000
def M0 (TC:DM)(aR:fC)(dR:LT mS Bu)(x0:Nat->Int)(x1:Int)(x2:Nat)(x3:Bool)(x4:Nat->Int)(w0:Bool):Pg MX:=opt TC λd=>ae (z9 x2 x2) (ae true (opt (dR ((x1,0,(x2,w0),wr x2,0),x3,x4,x0,λx=>0,d,λx=>0)) λd=>opt (aR d.2.2.2.1 d.2.1) λak=>ret ((ak.1,d.1.2.1),ak.2,d.2.2.2.2.2.2)) no) no
def gT:=λx0 x1 x2 x3 x4 w0=>(M0 nH cg Pc x0 x1 x2 x3 x4 w0).val
abbrev M1:=DM×cw×de×fC×(LT mS Bu)
def X' (p:M1):KK:=⟨[Tz p.1,dZ p.2.1,ia p.b.1,jl p.b.2.1],⟨[⟨4,(1::3::4::6::7::9::12::13::14::rg 18 39 []),[(11,[.i .i64])]⟩],[fQ 4 2 mS aen p.c],[0],[],(some ⟨0,(rg 0 8 (rg 10 47 [])),[]⟩)⟩,2,263⟩
theorem av9 (p:M1):LI (X' p) 4 mS aen (Pb p.2.1 p.b.1):=λ_ d c K=>by kernel_rfl
theorem aF8 (p:M1):D2 (X' p) anc ane λb=>M0 p.1 p.b.2.1 p.c b.1.1 b.1.2.1 b.1.b.1 b.2.1 b.b b.1.b.2:=λb=>by kernel_rfl
abbrev Ya:M1:=(nH,aY,bX,cg,Pc)
theorem Yb [aA]:SC (MZ gT):=sc (Sound.nil 3 [.i .i64]<|kS (k:=X' Ya) (.c ai3 (.c eP (.c ji (.c kn (.nil _))))) [4] [] ⟨kL (av9 Ya),trivial⟩ trivial (aF8 Ya))
def anf:=qa (pr (cu (app 0 2) A4) (cd (c (gc (AG 1 1)) (cl (gc (AG 2 1)) nil)) λb0=>(c (cl (gs b0.1 nN) nil) (cl (cl (gs b0.2 nN) nil) nil))))
def aCA:=qe (res (pu Q' (pr (cl (zT (c (gc (AG 3 1)) (cl (gc (AG 4 1)) nil))) (cu Vb aMC)) (c aJ1 (cl aJ1 nil)))))
abbrev Yc:=((Nat×Nat)×NI×NI)
def ang:Yc->T:=λd=>lf aCA (d.1,(d.1.1,d.2.1),d.1.2,d.b)
abbrev Yd:=Int->Int->Nat->Nat->NI->NI->Option Yc
def anh (g:Yd):Ct:=(247,FC anf ang (λb=>g b.1.1 b.1.2 b.2.1.1 b.2.1.2 b.b.1 b.b.2))
def Ye (x0:Int)(x1:Int)(x2:Nat)(x3:Nat)(x4:Nat->Int)(x5:Nat->Int):Pg Yc:=let y0:=x2+2;let y1:=x3+2;ae (wl (y0*8) 140737488355328) (ae (wl (y1*8) 140737488355328) (ret ((y0,y1),λj=>bif z9 j (x2+1) then x0 else bif z9 j x2 then x0 else x4 j,λj=>bif z9 j (x3+1) then x1 else bif z9 j x3 then x1 else x5 j)) no) no
def nm:=λx0 x1 x2 x3 x4 x5=>(Ye x0 x1 x2 x3 x4 x5).val
theorem aF9:D0 [] 247 anf ang λb=>Ye b.1.1 b.1.2 b.2.1.1 b.2.1.2 b.b.1 b.b.2:=λb=>by kernel_rfl
theorem aGa [aA]:SC (anh nm):=s0 (.nil _) aF9
def ars:=qa (pr (cu aS (c afI HV)) bJ)
def Yf:=qe (res (pr (aa aPU) (pl mF nil)))
abbrev art:=Yf.B
abbrev IW:=Int->Int->Int->Int->Int->Int->Int->Bool->Option art
def acV (g:IW):Ct:=(218,FC ars (lf Yf) (λb=>g b.1.1.1 b.1.1.2.1 b.1.1.b.1 b.1.1.b.2 b.1.2.1 b.1.b.1 b.1.b.2 b.2))
def acW (ay:bW)(FX:OS)(bl:Yd)(bj:dM)(x0:Int)(x1:Int)(x2:Int)(x3:Int)(x4:Int)(x5:Int)(x6:Int)(x7:Bool):Pg art:=opt (ay x0 x7) λd=>let y0:=wI (0-d.1);opt (ay x1 d.2) λak=>let ur:=wI (0-ak.1);opt (ay x2 ak.2) λaF=>let aqL:=wI (0-aF.1);opt (ay x3 aF.2) λbA=>let aan:=wI (0-bA.1);opt (FX x4 x5 x6 bA.2) λcD=>let n2:=cD.1.1;let n1:=cD.1.2;opt (bl d.1 n2 0 0 (λx=>0) λx=>0) λeU=>ae (z9 eU.1.1 eU.1.1) (ae (z9 eU.1.2 eU.1.2) (opt (bl aF.1 n1.2 eU.1.1 eU.1.2 eU.2.1 eU.2.2) λc8=>ae (z9 c8.1.1 c8.1.1) (ae (z9 c8.1.2 c8.1.2) (opt (bl aan n1.1 c8.1.1 c8.1.2 c8.2.1 c8.2.2) λmg=>ae (z9 mg.1.1 mg.1.1) (ae (z9 mg.1.2 mg.1.2) (opt (bj 30 mg.1.1 mg.1.2 cD.2 mg.2.1 mg.2.2 true true) λqX=>opt (bl ur n2 0 0 (λx=>0) λx=>0) λpd=>ae (z9 pd.1.1 pd.1.1) (ae (z9 pd.1.2 pd.1.2) (opt (bl ak.1 n2 pd.1.1 pd.1.2 pd.2.1 pd.2.2) λjh=>ae (z9 jh.1.1 jh.1.1) (ae (z9 jh.1.2 jh.1.2) (opt (bl ak.1 n2 jh.1.1 jh.1.2 jh.2.1 jh.2.2) λqc=>ae (z9 qc.1.1 qc.1.1) (ae (z9 qc.1.2 qc.1.2) (opt (bl aF.1 n1.1 qc.1.1 qc.1.2 qc.2.1 qc.2.2) λLd=>ae (z9 Ld.1.1 Ld.1.1) (ae (z9 Ld.1.2 Ld.1.2) (opt (bl bA.1 n1.2 Ld.1.1 Ld.1.2 Ld.2.1 Ld.2.2) λMI=>ae (z9 MI.1.1 MI.1.1) (ae (z9 MI.1.2 MI.1.2) (opt (bj 30 MI.1.1 MI.1.2 qX.2 MI.2.1 MI.2.2 true true) λaGb=>opt (bl aqL n2 0 0 (λx=>0) λx=>0) λaaW=>ae (z9 aaW.1.1 aaW.1.1) (ae (z9 aaW.1.2 aaW.1.2) (opt (bl ak.1 n1.1 aaW.1.1 aaW.1.2 aaW.2.1 aaW.2.2) λaeo=>ae (z9 aeo.1.1 aeo.1.1) (ae (z9 aeo.1.2 aeo.1.2) (opt (bl d.1 n1.2 aeo.1.1 aeo.1.2 aeo.2.1 aeo.2.2) λaaX=>ae (z9 aaX.1.1 aaX.1.1) (ae (z9 aaX.1.2 aaX.1.2) (opt (bj 30 aaX.1.1 aaX.1.2 aGb.2 aaX.2.1 aaX.2.2 true true) λaGc=>opt (bl aan n2 0 0 (λx=>0) λx=>0) λani=>ae (z9 ani.1.1 ani.1.1) (ae (z9 ani.1.2 ani.1.2) (opt (bl ak.1 n1.2 ani.1.1 ani.1.2 ani.2.1 ani.2.2) λaru=>ae (z9 aru.1.1 aru.1.1) (ae (z9 aru.1.2 aru.1.2) (opt (bl y0 n1.1 aru.1.1 aru.1.2 aru.2.1 aru.2.2) λanj=>ae (z9 anj.1.1 anj.1.1) (ae (z9 anj.1.2 anj.1.2) (opt (bj 30 anj.1.1 anj.1.2 aGc.2 anj.2.1 anj.2.2 true true) λa1q=>opt (bl d.1 n1.1 0 0 (λx=>0) λx=>0) λaAU=>ae (z9 aAU.1.1 aAU.1.1) (ae (z9 aAU.1.2 aAU.1.2) (opt (bl bA.1 n2 aAU.1.1 aAU.1.2 aAU.2.1 aAU.2.2) λaAV=>ae (z9 aAV.1.1 aAV.1.1) (ae (z9 aAV.1.2 aAV.1.2) (opt (bl ur n1.2 aAV.1.1 aAV.1.2 aAV.2.1 aAV.2.2) λaAW=>ae (z9 aAW.1.1 aAW.1.1) (ae (z9 aAW.1.2 aAW.1.2) (opt (bj 30 aAW.1.1 aAW.1.2 a1q.2 aAW.2.1 aAW.2.2 true true) λa1r=>opt (bl ur n1.1 0 0 (λx=>0) λx=>0) λaAX=>ae (z9 aAX.1.1 aAX.1.1) (ae (z9 aAX.1.2 aAX.1.2) (opt (bl aF.1 n2 aAX.1.1 aAX.1.2 aAX.2.1 aAX.2.2) λaAY=>ae (z9 aAY.1.1 aAY.1.1) (ae (z9 aAY.1.2 aAY.1.2) (opt (bl y0 n1.2 aAY.1.1 aAY.1.2 aAY.2.1 aAY.2.2) λaAZ=>ae (z9 aAZ.1.1 aAZ.1.1) (ae (z9 aAZ.1.2 aAZ.1.2) (opt (bj 30 aAZ.1.1 aAZ.1.2 a1r.2 aAZ.2.1 aAZ.2.2 true true) λa1s=>opt (bl aqL n1.1 0 0 (λx=>0) λx=>0) λaA0=>ae (z9 aA0.1.1 aA0.1.1) (ae (z9 aA0.1.2 aA0.1.2) (opt (bl aF.1 n1.1 aA0.1.1 aA0.1.2 aA0.2.1 aA0.2.2) λaA1=>ae (z9 aA1.1.1 aA1.1.1) (ae (z9 aA1.1.2 aA1.1.2) (opt (bl ak.1 n2 aA1.1.1 aA1.1.2 aA1.2.1 aA1.2.2) λaA2=>ae (z9 aA2.1.1 aA2.1.1) (ae (z9 aA2.1.2 aA2.1.2) (opt (bl aF.1 n1.1 aA2.1.1 aA2.1.2 aA2.2.1 aA2.2.2) λaA3=>ae (z9 aA3.1.1 aA3.1.1) (ae (z9 aA3.1.2 aA3.1.2) (opt (bl bA.1 n1.2 aA3.1.1 aA3.1.2 aA3.2.1 aA3.2.2) λaA4=>ae (z9 aA4.1.1 aA4.1.1) (ae (z9 aA4.1.2 aA4.1.2) (opt (bj 30 aA4.1.1 aA4.1.2 a1s.2 aA4.2.1 aA4.2.2 true true) λa1t=>opt (bl aan n1.1 0 0 (λx=>0) λx=>0) λaA5=>ae (z9 aA5.1.1 aA5.1.1) (ae (z9 aA5.1.2 aA5.1.2) (opt (bl aF.1 n1.2 aA5.1.1 aA5.1.2 aA5.2.1 aA5.2.2) λaA6=>ae (z9 aA6.1.1 aA6.1.1) (ae (z9 aA6.1.2 aA6.1.2) (opt (bl d.1 n2 aA6.1.1 aA6.1.2 aA6.2.1 aA6.2.2) λaA7=>ae (z9 aA7.1.1 aA7.1.1) (ae (z9 aA7.1.2 aA7.1.2) (opt (bj 30 aA7.1.1 aA7.1.2 a1t.2 aA7.2.1 aA7.2.2 true true) λa1u=>opt (bl d.1 n1.2 0 0 (λx=>0) λx=>0) λaA8=>ae (z9 aA8.1.1 aA8.1.1) (ae (z9 aA8.1.2 aA8.1.2) (opt (bl ak.1 n1.1 aA8.1.1 aA8.1.2 aA8.2.1 aA8.2.2) λaA9=>ae (z9 aA9.1.1 aA9.1.1) (ae (z9 aA9.1.2 aA9.1.2) (opt (bl aqL n2 aA9.1.1 aA9.1.2 aA9.2.1 aA9.2.2) λaBa=>ae (z9 aBa.1.1 aBa.1.1) (ae (z9 aBa.1.2 aBa.1.2) (opt (bj 30 aBa.1.1 aBa.1.2 a1u.2 aBa.2.1 aBa.2.2 true true) λa1v=>opt (bl ur n1.2 0 0 (λx=>0) λx=>0) λaBb=>ae (z9 aBb.1.1 aBb.1.1) (ae (z9 aBb.1.2 aBb.1.2) (opt (bl bA.1 n2 aBb.1.1 aBb.1.2 aBb.2.1 aBb.2.2) λaBc=>ae (z9 aBc.1.1 aBc.1.1) (ae (z9 aBc.1.2 aBc.1.2) (opt (bl d.1 n1.1 aBc.1.1 aBc.1.2 aBc.2.1 aBc.2.2) λd=>ae (z9 d.1.1 d.1.1) (ae (z9 d.1.2 d.1.2) (opt (bj 30 d.1.1 d.1.2 a1v.2 d.2.1 d.2.2 true true) λd=>opt (bl aqL n1.2 0 0 (λx=>0) λx=>0) λaBd=>ae (z9 aBd.1.1 aBd.1.1) (ae (z9 aBd.1.2 aBd.1.2) (opt (bl bA.1 n1.1 aBd.1.1 aBd.1.2 aBd.2.1 aBd.2.2) λaBe=>ae (z9 aBe.1.1 aBe.1.1) (ae (z9 aBe.1.2 aBe.1.2) (opt (bl y0 n2 aBe.1.1 aBe.1.2 aBe.2.1 aBe.2.2) λaBf=>ae (z9 aBf.1.1 aBf.1.1) (ae (z9 aBf.1.2 aBf.1.2) (opt (bj 30 aBf.1.1 aBf.1.2 d.2 aBf.2.1 aBf.2.2 true true) λa1w=>opt (bl aan n1.2 0 0 (λx=>0) λx=>0) λaBg=>ae (z9 aBg.1.1 aBg.1.1) (ae (z9 aBg.1.2 aBg.1.2) (opt (bl bA.1 n1.2 aBg.1.1 aBg.1.2 aBg.2.1 aBg.2.2) λaBh=>ae (z9 aBh.1.1 aBh.1.1) (ae (z9 aBh.1.2 aBh.1.2) (opt (bl ak.1 n2 aBh.1.1 aBh.1.2 aBh.2.1 aBh.2.2) λaBi=>ae (z9 aBi.1.1 aBi.1.1) (ae (z9 aBi.1.2 aBi.1.2) (opt (bl aF.1 n1.1 aBi.1.1 aBi.1.2 aBi.2.1 aBi.2.2) λaBj=>ae (z9 aBj.1.1 aBj.1.1) (ae (z9 aBj.1.2 aBj.1.2) (opt (bl bA.1 n1.2 aBj.1.1 aBj.1.2 aBj.2.1 aBj.2.2) λaBk=>ae (z9 aBk.1.1 aBk.1.1) (ae (z9 aBk.1.2 aBk.1.2) (opt (bj 30 aBk.1.1 aBk.1.2 a1w.2 aBk.2.1 aBk.2.2 true true) λa1x=>ret ((qX.1,aGb.1,aGc.1,a1q.1,a1r.1,a1s.1,a1t.1,a1u.1,a1v.1,d.1,a1w.1,a1x.1),a1x.2)) no) no) no) no) no) no) no) no) no) no) no) no) no) no) no) no) no) no) no) no) no) no) no) no) no) no) no) no) no) no) no) no) no) no) no) no) no) no) no) no) no) no) no) no) no) no) no) no) no) no) no) no) no) no) no) no) no) no) no) no) no) no) no) no) no) no) no) no) no) no) no) no) no) no) no) no) no) no) no) no) no) no) no) no
def Ad:=λx0 x1 x2 x3 x4 x5 x6 x7=>(acW aP Cp nm bx x0 x1 x2 x3 x4 x5 x6 x7).val
abbrev acX:=bW×OS×Yd×dM
def arv (p:acX):KK:=⟨[dr p.1,agV p.2.1,anh p.b.1,lV p.b.2],⟨[⟨2,(1::2::3::rg 7 10 (rg 18 124 [])),[]⟩,⟨10,(1::2::3::7::rg 10 24 (rg 35 107 [])),[]⟩,⟨19,(1::2::3::7::rg 11 23 (rg 35 38 (rg 74 68 []))),[]⟩,⟨28,(1::2::3::7::11::12::13::rg 16 18 (rg 35 38 (rg 74 29 (rg 104 38 [])))),[]⟩],[],[],[],(some ⟨0,(rg 0 6 (rg 7 135 [])),[]⟩)⟩,0,218⟩
theorem aHG (p:acX):D2 (arv p) ars (lf Yf) λb=>acW p.1 p.2.1 p.b.1 p.b.2 b.1.1.1 b.1.1.2.1 b.1.1.b.1 b.1.1.b.2 b.1.2.1 b.1.b.1 b.1.b.2 b.2:=λb=>by kernel_rfl
abbrev arw:acX:=(aP,Cp,nm,bx)
theorem arx [aA]:SC (acV Ad):=sc (kS (k:=arv arw) (.c dx (.c atf (.c aGa (.c nj (.nil _))))) [2,10,19,28] [] ⟨kN,⟨kN,⟨kN,⟨kN,trivial⟩⟩⟩⟩ trivial (aHG arw))
def ary:=qa (pl Eo nil)
def Yg:=qe aV4
abbrev arz:=Yg.B
abbrev IX:=Int->Int->Int->Int->Int->Int->Int->Int->Int->Option arz
def acY (g:IX):Ct:=(137,FC ary (lf Yg) (λb=>g b.1 b.2.1 b.b.1 b.b.2.1 b.c.1 b.c.2.1 b.c.b.1 b.c.b.2.1 b.d))
def acZ (x0:Int)(x1:Int)(x2:Int)(x3:Int)(x4:Int)(x5:Int)(x6:Int)(x7:Int)(x8:Int):Pg arz:=ret (x1,x2,x3)
def Ae:=λx0 x1 x2 x3 x4 x5 x6 x7 x8=>(acZ x0 x1 x2 x3 x4 x5 x6 x7 x8).val
theorem aHH:D0 [] 137 ary (lf Yg) λb=>acZ b.1 b.2.1 b.b.1 b.b.2.1 b.c.1 b.c.2.1 b.c.b.1 b.c.b.2.1 b.d:=λb=>by kernel_rfl
theorem arA [aA]:SC (acY Ae):=s0 (.nil _) aHH
def arB:=qa (pl HV nil)
def Yh:=qe Fv
abbrev ac0:=Yh.B
abbrev vI:=Int->Int->Int->Option ac0
def Af (g:vI):Ct:=(76,FC arB (lf Yh) (λb=>g b.1 b.2.1 b.b))
def IY (x0:Int)(x1:Int)(x2:Int):Pg ac0:=ae (decide (x0>= -900000000)) (ae (decide (x0<=900000000)) (ae (decide (x1>= -1800000000)) (ae (decide (x1<=1800000000)) (ae (decide (x2>= -100000000)) (ret (decide (x2<=100000000))) (ret false)) (ret false)) (ret false)) (ret false)) (ret false)
def gx:=λx0 x1 x2=>(IY x0 x1 x2).val
theorem aHI:D0 [] 76 arB (lf Yh) λb=>IY b.1 b.2.1 b.b:=λb=>by kernel_rfl
theorem Eh [aA]:SC (Af gx):=s0 (.nil _) aHI
def awa:=qa (pl Eo nil)
def ac1:=qe Fv
abbrev awb:=ac1.B
abbrev ahx:=Int->Int->Int->Int->Int->Int->Int->Int->Int->Option awb
def awc (g:ahx):Ct:=(136,FC awa (lf ac1) (λb=>g b.1 b.2.1 b.b.1 b.b.2.1 b.c.1 b.c.2.1 b.c.b.1 b.c.b.2.1 b.d))
def ahy (ac2:IX)(cO:vI)(x0:Int)(x1:Int)(x2:Int)(x3:Int)(x4:Int)(x5:Int)(x6:Int)(x7:Int)(x8:Int):Pg awb:=ae (decide (x4< -1000000)) (ret false) (ae (decide (x4>1000000)) (ret false) (ae (decide (x5< -1000000)) (ret false) (ae (decide (x5>1000000)) (ret false) (ae (decide (x6< -1000000)) (ret false) (ae (decide (x6>1000000)) (ret false) (ae (decide (x7<1)) (ret false) (ae (decide (x7>1000000)) (ret false) (ae (decide (x8<1)) (ret false) (ae (decide (x8>1000000)) (ret false) (opt (ac2 x0 x1 x2 x3 x4 x5 x6 x7 x8) λd=>opt (cO d.1 d.2.1 d.2.2) λd=>ret d))))))))))
def M3:=λx0 x1 x2 x3 x4 x5 x6 x7 x8=>(ahy Ae gx x0 x1 x2 x3 x4 x5 x6 x7 x8).val
abbrev ahz:=IX×vI
def awd (p:ahz):KK:=⟨[acY p.1,Af p.2],⟨[⟨2,(0::rg 3 5 (rg 11 6 (rg 19 12 (rg 33 5 [])))),[]⟩,⟨8,(0::rg 3 19 (rg 25 6 (rg 33 5 []))),[]⟩],[],[],[],(some ⟨0,(0::1::rg 3 35 []),[]⟩)⟩,0,136⟩
theorem aLy (p:ahz):D2 (awd p) awa (lf ac1) λb=>ahy p.1 p.2 b.1 b.2.1 b.b.1 b.b.2.1 b.c.1 b.c.2.1 b.c.b.1 b.c.b.2.1 b.d:=λb=>by kernel_rfl
abbrev awe:ahz:=(Ae,gx)
theorem aLz [aA]:SC (awc M3):=sc (kS (k:=awd awe) (.c arA (.c Eh (.nil _))) [2,8] [] ⟨kN,⟨kN,trivial⟩⟩ trivial (aLy awe))
def aep:=qa (pl iA nil)
def M4:=qe HT
abbrev aeq:=M4.B
abbrev Pd:=Int->Option aeq
def aer (g:Pd):Ct:=(138,FC aep (lf M4) (λb=>g b))
def Pe (av:cj)(aG:cw)(x0:Int):Pg aeq:=opt (av (wI (x0*x0)) 17592186044416 1000000 false) λd=>opt (aG d.1 1 72057594037927936 d.2) λd=>ret d.1
def Bv:=λx0=>(Pe aU aY x0).val
theorem ayK:∀av aG,D0 [cZ av,dZ aG] 138 aep (lf M4) λb=>Pe av aG b:=λ_ _ b=>by kernel_rfl
theorem ayL [aA]:SC (aer Bv):=s0 (.c dm (.c eP (.nil _))) (ayK aU aY)
def awf:=qa (pr (cu aS Eo) bJ)
def ac3:=qe (res (pr (rH (c (ra asw) afB)) (pl mF nil)))
abbrev awg:=ac3.B
abbrev ahA:=Int->Int->Int->Int->Int->Int->Int->Int->Int->Bool->Option awg
def ahB (g:ahA):Ct:=(89,FC awf (lf ac3) (λb=>g b.1.1 b.1.2.1 b.1.b.1 b.1.b.2.1 b.1.c.1 b.1.c.2.1 b.1.c.b.1 b.1.c.b.2.1 b.1.d b.2))
def ahC (aLA:ahx)(ac2:IX)(aes:Pd)(av:cj)(x0:Int)(x1:Int)(x2:Int)(x3:Int)(x4:Int)(x5:Int)(x6:Int)(x7:Int)(x8:Int)(x9:Bool):Pg awg:=opt (aLA x0 x1 x2 x3 x4 x5 x6 x7 x8) λd=>ae (!d) (ret (((0,0,0,0,0,0,0,0),1),x9)) (opt (ac2 x0 x1 x2 x3 x4 x5 x6 x7 x8) λd=>opt (aes x7) λak=>opt (aes x8) λaF=>opt (av x4 1073741824 1000 x9) λbA=>opt (av x5 1073741824 1000 bA.2) λcD=>opt (av x6 1073741824 1000 cD.2) λeU=>ret (((d.1,d.2.1,d.2.2,bA.1,cD.1,eU.1,ak,aF),0),eU.2))
def CO:=λx0 x1 x2 x3 x4 x5 x6 x7 x8 x9=>(ahC M3 Ae Bv aU x0 x1 x2 x3 x4 x5 x6 x7 x8 x9).val
abbrev ahD:=ahx×IX×Pd×cj
def awh (p:ahD):KK:=⟨[awc p.1,acY p.2.1,aer p.b.1,cZ p.b.2],⟨[⟨5,(1::2::5::rg 7 16 (rg 24 14 [])),[]⟩],[],[0],[],(some ⟨0,(rg 0 4 (rg 6 32 [])),[]⟩)⟩,0,89⟩
theorem aLB (p:ahD):D2 (awh p) awf (lf ac3) λb=>ahC p.1 p.2.1 p.b.1 p.b.2 b.1.1 b.1.2.1 b.1.b.1 b.1.b.2.1 b.1.c.1 b.1.c.2.1 b.1.c.b.1 b.1.c.b.2.1 b.1.d b.2:=λb=>by kernel_rfl
abbrev awi:ahD:=(M3,Ae,Bv,aU)
theorem awj [aA]:SC (ahB CO):=sc (kS (k:=awh awi) (.c aLz (.c arA (.c ayL (.c dm (.nil _))))) [5] [] ⟨kN,trivial⟩ trivial (aLB awi))
def ajd:=qa (dp (cl J0 nil) λa=>(cl (cl (gs a.1 nN) nil) nil))
def Pf:=qe aWb
abbrev aje:=Pf.B
abbrev TN:=Nat->NI->Bool->Option aje
def TO (g:TN):Ct:=(231,vA 0 [.i .i64] (FC ajd (lf Pf) (λb=>g b.1.1 b.2 b.1.2)))
def lI:=qs (st (dp (us 2 (cu Uu (cu EJ (us 2 (c J0 (c ai aJL)))))) λa=>(pl (c (so (cl (gs a.1.1 nN) nil)) Oo) nil)))
def awk:=qs (st (pr (us 2 (cu Uu (cu EJ (us 2 (c J0 (c ai aJS)))))) (pl (c HW Oo) nil)))
abbrev zd:=(aMu×NI×NI×NI)
def aaY {ρ:Type}(x:zd)(K:AX->St->Option ρ):Option ρ:=(λd=>K (.ex 0) (awk.em (d.1,(d.1.1.1,d.2.1),d.b))) x
def M5 (d:lI.B):PL lI zd:=let n3:=d.2.1;let n2:=d.1.2.2;let n1:=(d.1.1,d.1.2.1,wI (n2+1));let y0:=z4 (n3 (z4 n2));let y1:=decide (n2<d.1.2.1);ae y1 (ae (bg n2 d.1.1.1) (ae (decide (n3 (z4 n2)>=0)) (ae (decide (n3 (z4 n2)<24)) (ae (bg (n3 (z4 n2)) 24) (ae (true&&wl (0+y0*1+1) 24) (ret (ww (n1,n3,d.2.2.1,λj=>bif z9 j y0 then 1073741824 else d.2.2.2 j))) no) no) (ret (ww (n1,d.2)))) (ret (ww (n1,d.2)))) no) (ret (ws ((d.1.1,d.1.2.1,n2,y1),d.2)))
def M6:=bI (M5) 2000
def TQ (dR:LT lI zd)(x0:Nat)(x1:Nat->Int)(w0:Bool):Pg aje:=ae (z9 x0 x0) (opt (dR (((x0,w0),wr x0,0),x1,λx=>0,λx=>0)) λd=>ret d.2.2.2) no
def ql:=λx0 x1 w0=>(TQ M6 x0 x1 w0).val
abbrev JM:=(LT lI zd)
def TR (p:JM):KK:=⟨[],⟨[⟨3,(0::1::4::5::rg 9 6 (rg 17 5 [15,16])),[]⟩],[fQ 3 1 lI aaY p],[],[],(some ⟨0,(0::1::rg 3 19 []),[]⟩)⟩,1,231⟩
theorem atA (p:JM):LI (TR p) 3 lI aaY (M5):=λ_ d c K=>by kernel_rfl
theorem aCB (p:JM):D2 (TR p) ajd (lf Pf) λb=>TQ p b.1.1 b.2 b.1.2:=λb=>by kernel_rfl
abbrev TS:JM:=M6
theorem ajf [aA]:SC (TO ql):=sc (Sound.nil 0 [.i .i64]<|kS (k:=TR TS) (.nil _) [3] [] ⟨kL (atA TS),trivial⟩ trivial (aCB TS))
def aet:=qa (pr (cu aS (c lz (c ai Fw))) bJ)
def M7:=qe aWx
abbrev aeu:=M7.B
abbrev v7:=NI->Int->Int->Int->Int->Bool->Option aeu
def Hj (g:v7):Ct:=(253,FC aet (lf M7) (λb=>g b.1.1 b.1.2.1 b.1.b.1 b.1.b.2.1 b.1.c b.2))
def Ph (nK:TN)(aX:de)(x0:Nat->Int)(x1:Int)(x2:Int)(x3:Int)(x4:Int)(x5:Bool):Pg aeu:=opt (nK 1 (λj=>bif z9 j 0 then x1 else x1) true) λd=>ae (bg x1 24) (opt (aX x2 (x0 (z4 x1)) x5) λak=>ret ((d,ak.1,x3,x4),ak.2)) no
def eN:=λx0 x1 x2 x3 x4 x5=>(Ph ql bX x0 x1 x2 x3 x4 x5).val
theorem ayM:∀nK aX,D0 [TO nK,ia aX] 253 aet (lf M7) λb=>Ph nK aX b.1.1 b.1.2.1 b.1.b.1 b.1.b.2.1 b.1.c b.2:=λ_ _ b=>by kernel_rfl
theorem Pj [aA]:SC (Hj eN):=s0 (.c ajf (.c ji (.nil _))) (ayM ql bX)
def aev:=qa (pr (cu aS (c lz (c aKe iA))) bJ)
def M8:=qe aW9
abbrev aew:=M8.B
abbrev aex:=NI->Int->Int->Int->Int->Int->Int->Int->Int->Int->Bool->Option aew
def aey (g:aex):Ct:=(225,FC aev (lf M8) (λb=>g b.1.1 b.1.2.1.1.1 b.1.2.1.1.2.1 b.1.2.1.1.b b.1.2.1.2.1.1 b.1.2.1.2.1.2.1 b.1.2.1.2.1.b b.1.2.1.b.1 b.1.2.1.b.2 b.1.b b.2))
def Pk (jc:v7)(x0:Nat->Int)(x1:Int)(x2:Int)(x3:Int)(x4:Int)(x5:Int)(x6:Int)(x7:Int)(x8:Int)(x9:Int)(fU:Bool):Pg aew:=opt (jc x0 4 x4 x8 x9 fU) λd=>opt (jc x0 5 x5 x8 x9 d.2) λak=>opt (jc x0 6 x6 x8 x9 ak.2) λaF=>ret (aF.2,d.1.1,d.1.2.1,d.1.2.2.1,d.1.2.2.2,ak.1.1,ak.1.2.1,ak.1.2.2.1,ak.1.2.2.2,aF.1)
def Bw:=λx0 x1 x2 x3 x4 x5 x6 x7 x8 x9 fU=>(Pk eN x0 x1 x2 x3 x4 x5 x6 x7 x8 x9 fU).val
abbrev Pm:=v7
def aez (p:Pm):KK:=⟨[Hj p],⟨[⟨3,(1::2::4::7::8::10::11::12::rg 15 17 []),[]⟩],[],[],[],(some ⟨0,(rg 0 8 (rg 9 23 [])),[]⟩)⟩,0,225⟩
theorem ayN (p:Pm):D2 (aez p) aev (lf M8) λb=>Pk p b.1.1 b.1.2.1.1.1 b.1.2.1.1.2.1 b.1.2.1.1.b b.1.2.1.2.1.1 b.1.2.1.2.1.2.1 b.1.2.1.2.1.b b.1.2.1.b.1 b.1.2.1.b.2 b.1.b b.2:=λb=>by kernel_rfl
abbrev aeA:Pm:=eN
theorem ayO [aA]:SC (aey Bw):=sc (kS (k:=aez aeA) (.c Pj (.nil _)) [3] [] ⟨kN,trivial⟩ trivial (ayN aeA))
def aaZ:=qa (pr (cu (app 0 5) (cu LA HV)) (c mb bJ))
def Kp:=qe (res (pr aV6 (pl (cu fD mF) nil)))
abbrev aa0:=Kp.B
abbrev ze:=Int->Int->Int->Int->Int->Int->Int->Int->Bool->Option aa0
def E3 (g:ze):Ct:=(249,FC aaZ (lf Kp) (λb=>g b.1.1 b.1.2.1 b.1.b b.2.1.1.1 b.2.1.1.2.1 b.2.1.1.b b.2.1.2.1 b.2.1.b b.b))
def M9 (cO:vI)(aC:bR)(av:cj)(x0:Int)(x1:Int)(x2:Int)(x3:Int)(x4:Int)(x5:Int)(x6:Int)(x7:Int)(x8:Bool):Pg aa0:=let y0:=wI (x1-x4);opt (cO x0 x1 x2) λd=>ae (!d) (ret (((0,0,0),1),x8)) (ae (decide (y0>1800000000)) (opt (aC (wI (x0-x3)) x6 10 x8) λd=>opt (aC (wI (y0-3600000000)) x7 10 d.2) λak=>opt (av (wI (x5-x2)) 1073741824 1000 ak.2) λaF=>ret (((d.1,ak.1,aF.1),0),aF.2)) (ae (decide (y0<= -1800000000)) (opt (aC (wI (x0-x3)) x6 10 x8) λd=>opt (aC (wI (y0+3600000000)) x7 10 d.2) λak=>opt (av (wI (x5-x2)) 1073741824 1000 ak.2) λaF=>ret (((d.1,ak.1,aF.1),0),aF.2)) (opt (aC (wI (x0-x3)) x6 10 x8) λd=>opt (aC y0 x7 10 d.2) λak=>opt (av (wI (x5-x2)) 1073741824 1000 ak.2) λaF=>ret (((d.1,ak.1,aF.1),0),aF.2))))
def kP:=λx0 x1 x2 x3 x4 x5 x6 x7 x8=>(M9 gx aW aU x0 x1 x2 x3 x4 x5 x6 x7 x8).val
theorem awl:∀cO aC av,D1 [Af cO,eT aC,cZ av] [1] 249 aaZ (lf Kp) λb=>M9 cO aC av b.1.1 b.1.2.1 b.1.b b.2.1.1.1 b.2.1.1.2.1 b.2.1.1.b b.2.1.2.1 b.2.1.b b.b:=λ_ _ _ b=>by kernel_rfl
theorem M' [aA]:SC (E3 kP):=s0 (.c Eh (.c fA (.c dm (.nil _)))) (awl gx aW aU)
def wQ:=qa (pr (cu aS (c lz (c aKe (cu (app 1 5) iA)))) (c xL (cl mb nil)))
def N5:=qe (res (pr aVT (pl Om nil)))
def N6:=qe (res (pu (rH (cu (rc (gr (pu rq4 (pu we (pu (szl rq4) (pu (nat 27) gB)))))) akN)) (pr Om (cl aPV nil))))
abbrev Kq:=N5.B⊕N6.B
def Yi:Kq->T:=ls (lf N5) (lf N6)
abbrev Yj:=wQ.B->Option Kq
def Yk (g:Yj):Ct:=(226,FC wQ Yi g)
def Kr (gU:ze)(jc:v7)(x:wQ.B):Pg Kq:=opt (gU x.1.2.1.1.1 x.1.2.1.1.2.1 x.1.2.1.1.2.2 x.2.2.1.1 x.2.2.1.2.1 x.2.2.1.2.2 x.2.2.2.1 x.2.2.2.2 x.2.1) λd=>ae (d.1.2!=0) (ret (ww (d.1.2,d.2))) (opt (jc x.1.1 7 d.1.1.1 x.1.2.1.2.2.1 x.1.2.2 d.2) λak=>opt (jc x.1.1 8 d.1.1.2.1 x.1.2.1.2.2.1 x.1.2.2 ak.2) λd=>ret (ws (d.2,ak.1.1,ak.1.2.1,ak.1.2.2.1,ak.1.2.2.2,d.1)))
def wR:=λx=>(Kr kP eN x).val
abbrev Ks:=ze×v7
def Yl (p:Ks):KK:=⟨[E3 p.1,Hj p.2],⟨[⟨6,(1::2::3::5::rg 8 6 (rg 15 13 (rg 31 18 []))),[]⟩],[],[],[],(some ⟨0,(rg 0 10 (rg 12 37 [])),[]⟩)⟩,0,226⟩
theorem atB (p:Ks):D2 (Yl p) wQ Yi λb=>Kr p.1 p.2 b:=λb=>by kernel_rfl
abbrev Ym:Ks:=(kP,eN)
theorem atC [aA]:SC (Yk wR):=sc (kS (k:=Yl Ym) (.c M' (.c Pj (.nil _))) [6] [] ⟨kN,trivial⟩ trivial (atB Ym))
def F7:=qa (pr (cu aS (c lz (c aKe (cu (app 1 5) iA)))) (c xL (cl mb nil)))
def TT:=qe (res (pr aWt (pl Om nil)))
abbrev ank:=TT.B
abbrev anl:=F7.B->Option ank
def anm (g:anl):Ct:=(227,FC F7 (lf TT) g)
def Yn (gU:ze)(cA:fB)(aG:cw)(jc:v7)(x:F7.B):Pg ank:=let n3:=x.2.2;let n2:=x.1.2.1;let n1:=n2.2.2.1;opt (gU n2.1.1 n2.1.2.1 n2.1.2.2 n3.1.1 n3.1.2.1 n3.1.2.2 n3.2.1 n3.2.2 x.2.1) λd=>ae (d.1.2!=0) (ret (((λx=>0,0,0,0),d.1.2),d.2)) (opt (cA 4 false (cr n1 [n1,n1,n1,n1]) true) λak=>opt (aG ak.1 1 72057594037927936 ak.2) λaF=>opt (jc x.1.1 9 d.1.1.2.2 aF.1 x.1.2.2 d.2) λd=>ret ((d.1,0),d.2))
def F8:=λx=>(Yn kP cJ aY eN x).val
theorem aGd:∀gU cA aG jc,D0 [E3 gU,pf cA,dZ aG,Hj jc] 227 F7 (lf TT) λb=>Yn gU cA aG jc b:=λ_ _ _ _ b=>by kernel_rfl
theorem aGe [aA]:SC (anm F8):=s0 (.c M' (.c rP (.c eP (.c Pj (.nil _))))) (aGd kP cJ aY eN)
def Yo:=qa (pl iA nil)
def H8:=qe HT
abbrev Yp:=H8.B
abbrev Yq:=Int->Option Yp
def Yr (g:Yq):Ct:=(203,FC Yo (lf H8) (λb=>g b))
def Kt (av:cj)(aG:cw)(x0:Int):Pg Yp:=opt (av (wI (x0*x0)) 17592186044416 1000000 false) λd=>opt (aG d.1 1 72057594037927936 d.2) λd=>ret d.1
def wS:=λx0=>(Kt aU aY x0).val
theorem atD:∀av aG,D0 [cZ av,dZ aG] 203 Yo (lf H8) λb=>Kt av aG b:=λ_ _ b=>by kernel_rfl
theorem atE [aA]:SC (Yr wS):=s0 (.c dm (.c eP (.nil _))) (atD aU aY)
def ann:=qa (pr (cu aS (c aKc A4)) bJ)
def TU:=qe aPR
abbrev ano:=TU.B
abbrev Ys:=Int->Int->Int->Int->Int->Int->Int->Int->Int->Int->Int->Bool->Option ano
def Yt (g:Ys):Ct:=(139,FC ann (lf TU) (λb=>g b.1.1.1 b.1.1.2.1 b.1.1.b.1 b.1.1.b.2.1 b.1.1.c.1 b.1.1.c.2.1 b.1.1.c.b.1 b.1.1.c.b.2.1 b.1.1.d b.1.2.1 b.1.b b.2))
def Yu (av:cj)(CP:Yq)(x0:Int)(x1:Int)(x2:Int)(x3:Int)(x4:Int)(x5:Int)(x6:Int)(x7:Int)(x8:Int)(x9:Int)(fU:Int)(fV:Bool):Pg ano:=ae (decide (x1<x9)) (ret (((0,0),1),fV)) (ae (decide (x1>fU)) (ret (((0,0),1),fV)) (ae (decide (x2<1)) (ret (((0,0),1),fV)) (ae (decide (x2>1000000)) (ret (((0,0),1),fV)) (opt (av x1 1073741824 1000 fV) λd=>opt (CP x2) λak=>ret (((d.1,ak),0),d.2)))))
def wT:=λx0 x1 x2 x3 x4 x5 x6 x7 x8 x9 fU fV=>(Yu aU wS x0 x1 x2 x3 x4 x5 x6 x7 x8 x9 fU fV).val
theorem aGf:∀av CP,D1 [cZ av,Yr CP] [0] 139 ann (lf TU) λb=>Yu av CP b.1.1.1 b.1.1.2.1 b.1.1.b.1 b.1.1.b.2.1 b.1.1.c.1 b.1.1.c.2.1 b.1.1.c.b.1 b.1.1.c.b.2.1 b.1.1.d b.1.2.1 b.1.b b.2:=λ_ _ b=>by kernel_rfl
theorem anp [aA]:SC (Yt wT):=s0 (.c dm (.c atE (.nil _))) (aGf aU wS)
def Yv:=qa (pr (cu aS Eo) bJ)
def H9:=qe aPR
abbrev Yw:=H9.B
abbrev Ku:=Int->Int->Int->Int->Int->Int->Int->Int->Int->Bool->Option Yw
def Kv (g:Ku):Ct:=(90,FC Yv (lf H9) (λb=>g b.1.1 b.1.2.1 b.1.b.1 b.1.b.2.1 b.1.c.1 b.1.c.2.1 b.1.c.b.1 b.1.c.b.2.1 b.1.d b.2))
def Kw (pK:Ys)(x0:Int)(x1:Int)(x2:Int)(x3:Int)(x4:Int)(x5:Int)(x6:Int)(x7:Int)(x8:Int)(x9:Bool):Pg Yw:=opt (pK x0 x1 x2 x3 x4 x5 x6 x7 x8 (-100000000) 100000000 x9) λd=>ret d
def og:=λx0 x1 x2 x3 x4 x5 x6 x7 x8 x9=>(Kw wT x0 x1 x2 x3 x4 x5 x6 x7 x8 x9).val
theorem atF:∀pK,D0 [Yt pK] 90 Yv (lf H9) λb=>Kw pK b.1.1 b.1.2.1 b.1.b.1 b.1.b.2.1 b.1.c.1 b.1.c.2.1 b.1.c.b.1 b.1.c.b.2.1 b.1.d b.2:=λ_ b=>by kernel_rfl
theorem Yx [aA]:SC (Kv og):=s0 (.c anp (.nil _)) (atF wT)
def anq:=qa (pr (cu aS (c lz (c (aa akL) iA))) bJ)
def TV:=qe aWx
abbrev anr:=TV.B
abbrev ant:=NI->Int->Int->Int->Bool->Option anr
def anu (g:ant):Ct:=(170,FC anq (lf TV) (λb=>g b.1.1 b.1.2.1.1 b.1.2.1.2 b.1.b b.2))
def Yy (nK:TN)(ay:bW)(aX:de)(x0:Nat->Int)(x1:Int)(x2:Int)(x3:Int)(x4:Bool):Pg anr:=opt (nK 1 (λj=>bif z9 j 0 then 9 else 9) true) λd=>opt (ay x1 x4) λak=>opt (aX (wI (0-ak.1)) (x0 9) ak.2) λaF=>ret ((d,aF.1,x2,x3),aF.2)
def F9:=λx0 x1 x2 x3 x4=>(Yy ql aP bX x0 x1 x2 x3 x4).val
theorem aGg:∀nK ay aX,D0 [TO nK,dr ay,ia aX] 170 anq (lf TV) λb=>Yy nK ay aX b.1.1 b.1.2.1.1 b.1.2.1.2 b.1.b b.2:=λ_ _ _ b=>by kernel_rfl
theorem aGh [aA]:SC (anu F9):=s0 (.c ajf (.c dx (.c ji (.nil _)))) (aGg ql aP bX)
def UG:=qa (pr (cu aS Eo) bJ)
def F':=qe (res (pr aV6 (pl mF nil)))
abbrev UH:=F'.B
abbrev H':=Int->Int->Int->Int->Int->Int->Int->Int->Int->Bool->Option UH
def Ia (g:H'):Ct:=(91,FC UG (lf F') (λb=>g b.1.1 b.1.2.1 b.1.b.1 b.1.b.2.1 b.1.c.1 b.1.c.2.1 b.1.c.b.1 b.1.c.b.2.1 b.1.d b.2))
def Ib (pK:Ys)(x0:Int)(x1:Int)(x2:Int)(x3:Int)(x4:Int)(x5:Int)(x6:Int)(x7:Int)(x8:Int)(x9:Bool):Pg UH:=ae (decide (x3<0)) (ret (((0,0,0),1),x9)) (ae (decide (x3>100)) (ret (((0,0,0),1),x9)) (opt (pK x0 x1 x2 x3 x4 x5 x6 x7 x8 1 1000000 x9) λd=>ae (d.1.2!=0) (ret (((0,0,0),d.1.2),d.2)) (ret (((d.1.1.1,d.1.1.2,x3),0),d.2))))
def mL:=λx0 x1 x2 x3 x4 x5 x6 x7 x8 x9=>(Ib wT x0 x1 x2 x3 x4 x5 x6 x7 x8 x9).val
theorem apF:∀pK,D1 [Yt pK] [0] 91 UG (lf F') λb=>Ib pK b.1.1 b.1.2.1 b.1.b.1 b.1.b.2.1 b.1.c.1 b.1.c.2.1 b.1.c.b.1 b.1.c.b.2.1 b.1.d b.2:=λ_ b=>by kernel_rfl
theorem UI [aA]:SC (Ia mL):=s0 (.c anp (.nil _)) (apF wT)
def ajg:=qa (pr (cu aS (c lz (c (aa (a 2 akL mQ)) iA))) bJ)
def Pn:=qe aDX
abbrev ajh:=Pn.B
abbrev aji:=NI->Int->Int->Int->Int->Bool->Option ajh
def ajj (g:aji):Ct:=(171,FC ajg (lf Pn) (λb=>g b.1.1 b.1.2.1.1.1 b.1.2.1.1.2 b.1.2.1.2 b.1.b b.2))
def TW (bn:ey)(ew:oD)(aE:cN)(aX:de)(cA:fB)(aC:bR)(x0:Nat->Int)(x1:Int)(x2:Int)(x3:Int)(x4:Int)(x5:Bool):Pg ajh:=opt (bn x0) λd=>let n1:=d.2.2;opt (ew d.1 d.2.1 n1.1 n1.2 x5) λak=>ae (decide (ak.1 8<751619277)) (ret (((λx=>0,0,0,0),4),ak.2)) (ae (decide (x3<50)) (ret (((λx=>0,0,0,0),4),ak.2)) (opt (aE (x0 9) (ak.1 8) 30 ak.2) λaF=>opt (aX x1 (wI (0-aF.1)) aF.2) λbA=>opt (aE 1073741824 (ak.1 8) 30 bA.2) λcD=>opt (aE aF.1 (ak.1 8) 30 cD.2) λeU=>opt (cA 2 eU.2 (cr d.1 [d.1,d.1]) true) λc8=>opt (aC eU.1 c8.1 30 c8.2) λmg=>opt (cA 2 mg.2 (cr d.2.1 [d.2.1,d.2.1]) true) λqX=>opt (aC eU.1 (wI (0-qX.1)) 30 qX.2) λpd=>opt (cA 2 pd.2 (cr n1.1 [n1.1,n1.1]) true) λjh=>opt (aC eU.1 (wI (0-jh.1)) 30 jh.2) λqc=>opt (cA 2 qc.2 (cr n1.2 [n1.2,n1.2]) true) λd=>opt (aC eU.1 d.1 30 d.2) λd=>ret (((λj=>bif z9 j 3 then d.1 else bif z9 j 2 then qc.1 else bif z9 j 1 then pd.1 else bif z9 j 0 then mg.1 else bif z9 j 9 then wI (0-cD.1) else 0,bA.1,x2,x4),0),d.2)))
def DR:=λx0 x1 x2 x3 x4 x5=>(TW cC ja bk bX cJ aW x0 x1 x2 x3 x4 x5).val
abbrev TX:=ey×oD×cN×de×fB×bR
def ajk (p:TX):KK:=⟨[jM p.1,Bo p.2.1,gu p.b.1,ia p.b.2.1,pf p.c.1,eT p.c.2],⟨[⟨10,(1::rg 3 5 (rg 9 4 (rg 15 43 (rg 60 11 (rg 73 13 []))))),[]⟩],[],[],[],(some ⟨0,(rg 0 8 (rg 10 76 [])),[]⟩)⟩,0,171⟩
theorem aCC (p:TX):D2 (ajk p) ajg (lf Pn) λb=>TW p.1 p.2.1 p.b.1 p.b.2.1 p.c.1 p.c.2 b.1.1 b.1.2.1.1.1 b.1.2.1.1.2 b.1.2.1.2 b.1.b b.2:=λb=>by kernel_rfl
abbrev ajl:TX:=(cC,ja,bk,bX,cJ,aW)
theorem aCD [aA]:SC (ajj DR):=sc (kS (k:=ajk ajl) (.c kM (.c Ef (.c hX (.c ji (.c rP (.c fA (.nil _))))))) [10] [] ⟨kN,trivial⟩ trivial (aCC ajl))
def ajm:=qa (pl iA nil)
def Pp:=qe HT
abbrev ajn:=Pp.B
abbrev TY:=Int->Option ajn
def ajo (g:TY):Ct:=(140,FC ajm (lf Pp) (λb=>g b))
def TZ (av:cj)(aG:cw)(x0:Int):Pg ajn:=opt (av (wI (x0*x0)) 17592186044416 1000000000000 false) λd=>opt (aG d.1 1 72057594037927936 d.2) λd=>ret d.1
def DS:=λx0=>(TZ aU aY x0).val
theorem aCE:∀av aG,D0 [cZ av,dZ aG] 140 ajm (lf Pp) λb=>TZ av aG b:=λ_ _ b=>by kernel_rfl
theorem aCF [aA]:SC (ajo DS):=s0 (.c dm (.c eP (.nil _))) (aCE aU aY)
def aBl:=qa (pr (cu aS Eo) bJ)
def ahE:=qe aWD
abbrev aBm:=ahE.B
abbrev aa1:=Int->Int->Int->Int->Int->Int->Int->Int->Int->Bool->Option aBm
def aa2 (g:aa1):Ct:=(92,FC aBl (lf ahE) (λb=>g b.1.1 b.1.2.1 b.1.b.1 b.1.b.2.1 b.1.c.1 b.1.c.2.1 b.1.c.b.1 b.1.c.b.2.1 b.1.d b.2))
def anv (aCG:TY)(av:cj)(x0:Int)(x1:Int)(x2:Int)(x3:Int)(x4:Int)(x5:Int)(x6:Int)(x7:Int)(x8:Int)(x9:Bool):Pg aBm:=ae (decide (x4<1)) (ret (((0,0,0,0),1),x9)) (ae (decide (x4>1000000)) (ret (((0,0,0,0),1),x9)) (opt (aCG x4) λd=>ae (decide (x1< -2000000)) (ret (((0,0,0,0),1),x9)) (ae (decide (x1>2000000)) (ret (((0,0,0,0),1),x9)) (opt (av x1 1073741824 1000000 x9) λak=>ae (decide (x2< -2000000)) (ret (((0,0,0,0),1),ak.2)) (ae (decide (x2>2000000)) (ret (((0,0,0,0),1),ak.2)) (opt (av x2 1073741824 1000000 ak.2) λaF=>ae (decide (x3< -2000000)) (ret (((0,0,0,0),1),aF.2)) (ae (decide (x3>2000000)) (ret (((0,0,0,0),1),aF.2)) (opt (av x3 1073741824 1000000 aF.2) λbA=>ret (((ak.1,aF.1,bA.1,d),0),bA.2)))))))))
def zf:=λx0 x1 x2 x3 x4 x5 x6 x7 x8 x9=>(anv DS aU x0 x1 x2 x3 x4 x5 x6 x7 x8 x9).val
abbrev anw:=TY×cj
def aBn (p:anw):KK:=⟨[ajo p.1,cZ p.2],⟨[⟨5,(1::2::rg 7 17 (rg 25 8 (rg 38 13 []))),[]⟩],[],[0],[],(some ⟨0,(rg 0 4 (rg 6 45 [])),[]⟩)⟩,0,92⟩
theorem aOl (p:anw):D2 (aBn p) aBl (lf ahE) λb=>anv p.1 p.2 b.1.1 b.1.2.1 b.1.b.1 b.1.b.2.1 b.1.c.1 b.1.c.2.1 b.1.c.b.1 b.1.c.b.2.1 b.1.d b.2:=λb=>by kernel_rfl
abbrev aBo:anw:=(DS,aU)
theorem anx [aA]:SC (aa2 zf):=sc (kS (k:=aBn aBo) (.c aCF (.c dm (.nil _))) [5] [] ⟨kN,trivial⟩ trivial (aOl aBo))
def aBp:=qa (pr (cu aS (c lz (c aPB iA))) bJ)
def aLC:=qe aW9
abbrev anz:=(Bool×NI×Int×Int×Int×NI×Int×NI×Int)
def aBq:anz->T:=λd=>lf aLC (d.1,d.2.1,d.b.1,d.b.2.1,d.c.1,d.c.2.1,d.c.b.1,d.b.2.1,d.c.1,d.c.b.2.1,d.d,d.b.2.1,d.c.1)
abbrev aBr:=NI->Int->Int->Int->Int->Int->Bool->Option anz
def aBs (g:aBr):Ct:=(233,FC aBp aBq (λb=>g b.1.1 b.1.2.1.1.1 b.1.2.1.1.2.1 b.1.2.1.1.b b.1.2.1.2 b.1.b b.2))
def anA (bn:ey)(bN:lU)(ew:oD)(Ga:yU)(ahF:Ml)(ac4:IW)(cA:fB)(aX:de)(x0:Nat->Int)(x1:Int)(x2:Int)(x3:Int)(x4:Int)(x5:Int)(x6:Bool):Pg anz:=opt (bn x0) λd=>opt (bN x0 16) λak=>opt (bN x0 19) λaF=>opt (ew d.1 d.2.1 d.2.2.1 d.2.2.2 x6) λbA=>opt (Ga bA.1 ak.1 ak.2.1 ak.2.2 bA.2) λcD=>opt (ahF d.1 d.2.1 d.2.2.1 d.2.2.2) λd=>opt (ac4 d.1 d.2.1 d.2.2.1 d.2.2.2 ak.1 ak.2.1 ak.2.2 cD.2) λd=>let n2:=d.1.2.2;let n1:=n2.2.2.2;let n3:=n1.2.2.2;opt (cA 2 d.2 (cr cD.1.1 [aF.1,cD.1.1]) true) λeU=>opt (aX x1 eU.1 eU.2) λc8=>opt (cA 2 c8.2 (cr cD.1.2.1 [aF.2.1,cD.1.2.1]) true) λmg=>opt (aX x2 mg.1 mg.2) λqX=>opt (cA 2 qX.2 (cr cD.1.2.2 [aF.2.2,cD.1.2.2]) true) λpd=>opt (aX x3 pd.1 pd.2) λjh=>ret (jh.2,λj=>bif z9 j 19 then 1073741824 else bif z9 j 18 then bA.1 6 else bif z9 j 17 then bA.1 3 else bif z9 j 16 then bA.1 0 else bif z9 j 3 then wI (0-n2.2.1) else bif z9 j 2 then wI (0-n2.1) else bif z9 j 1 then wI (0-d.1.2.1) else bif z9 j 0 then d.1.1 else 0,c8.1,x4,x5,λj=>bif z9 j 20 then 1073741824 else bif z9 j 18 then bA.1 7 else bif z9 j 17 then bA.1 4 else bif z9 j 16 then bA.1 1 else bif z9 j 3 then wI (0-n1.2.2.1) else bif z9 j 2 then wI (0-n1.2.1) else bif z9 j 1 then wI (0-n1.1) else bif z9 j 0 then n2.2.2.1 else 0,qX.1,λj=>bif z9 j 21 then 1073741824 else bif z9 j 18 then bA.1 8 else bif z9 j 17 then bA.1 5 else bif z9 j 16 then bA.1 2 else bif z9 j 3 then wI (0-n3.2.2.2) else bif z9 j 2 then wI (0-n3.2.2.1) else bif z9 j 1 then wI (0-n3.2.1) else bif z9 j 0 then n3.1 else 0,jh.1)
def RD:=λx0 x1 x2 x3 x4 x5 x6=>(anA cC eV ja sI Cq Ad cJ bX x0 x1 x2 x3 x4 x5 x6).val
abbrev anB:=ey×lU×oD×yU×Ml×IW×fB×de
def aBt (p:anB):KK:=⟨[jM p.1,rQ p.2.1,Bo p.b.1,Rv p.b.2.1,agY p.c.1,acV p.c.2.1,pf p.c.b.1,ia p.c.b.2],⟨[⟨7,(1::2::4::5::rg 7 4 (rg 16 23 (rg 40 62 []))),[]⟩,⟨11,(1::2::4::5::rg 7 4 (rg 18 21 (rg 40 23 (rg 65 37 [])))),[]⟩,⟨18,(1::2::4::5::rg 7 4 (rg 18 21 (rg 40 38 (rg 79 23 [])))),[]⟩],[],[],[],(some ⟨0,(rg 0 8 (rg 9 93 [])),[]⟩)⟩,0,233⟩
theorem aOm (p:anB):D2 (aBt p) aBp aBq λb=>anA p.1 p.2.1 p.b.1 p.b.2.1 p.c.1 p.c.2.1 p.c.b.1 p.c.b.2 b.1.1 b.1.2.1.1.1 b.1.2.1.1.2.1 b.1.2.1.1.b b.1.2.1.2 b.1.b b.2:=λb=>by kernel_rfl
abbrev aBu:anB:=(cC,eV,ja,sI,Cq,Ad,cJ,bX)
theorem aOn [aA]:SC (aBs RD):=sc (kS (k:=aBt aBu) (.c kM (.c vE (.c Ef (.c aaz (.c avk (.c arx (.c rP (.c ji (.nil _))))))))) [7,11,18] [] ⟨kN,⟨kN,⟨kN,trivial⟩⟩⟩ trivial (aOm aBu))
def arC:=qa (pr (cu aS HV) bJ)
def Yz:=qe (res (pr aPs (pl mF nil)))
abbrev arD:=Yz.B
abbrev QQ:=Int->Int->Int->Bool->Option arD
def ac5 (g:QQ):Ct:=(248,FC arC (lf Yz) (λb=>g b.1.1 b.1.2.1 b.1.b b.2))
def ac6 (km:z5)(rT:acb)(x0:Int)(x1:Int)(x2:Int)(x3:Bool):Pg arD:=opt (km 2 x3 (cr x0 [x1,x0]) true) λd=>ae (decide (d.1<16777216)) (ret ((0,false),d.2)) (opt (rT x1 x0 d.2) λd=>ret ((d.1,true),d.2))
def Ag:=λx0 x1 x2 x3=>(ac6 cB zZ x0 x1 x2 x3).val
theorem aHJ:∀km rT,D0 [IL km,acd rT] 248 arC (lf Yz) λb=>ac6 km rT b.1.1 b.1.2.1 b.1.b b.2:=λ_ _ b=>by kernel_rfl
theorem arE [aA]:SC (ac5 Ag):=s0 (.c QC (.c aqO (.nil _))) (aHJ cB zZ)
def anC:=qa (pr (cu aS (c lz (c aPB Fw))) bJ)
def T0:=qe aDX
abbrev anD:=T0.B
abbrev anE:=NI->Int->Int->Int->Int->Int->Int->Int->Bool->Option anD
def anF (g:anE):Ct:=(235,FC anC (lf T0) (λb=>g b.1.1 b.1.2.1.1.1 b.1.2.1.1.2.1 b.1.2.1.1.b b.1.2.1.2 b.1.b.1 b.1.b.2.1 b.1.c b.2))
def YA (bn:ey)(ew:oD)(bN:lU)(nY:Ki)(gf:yT)(Ei:QQ)(km:z5)(aX:de)(di:yP)(bj:dM)(cA:fB)(aE:cN)(x0:Nat->Int)(x1:Int)(x2:Int)(x3:Int)(x4:Int)(x5:Int)(x6:Int)(x7:Int)(x8:Bool):Pg anD:=opt (bn x0) λd=>let n1:=d.2.2;opt (ew d.1 d.2.1 n1.1 n1.2 x8) λak=>opt (bN x0 19) λaF=>opt (nY x1 x2 x3 aF.1 aF.2.1 aF.2.2 ak.2) λbA=>opt (gf ak.1 bA.1.1 bA.1.2.1 bA.1.2.2 bA.2) λcD=>opt (Ei cD.1.1 cD.1.2.1 cD.1.2.2 cD.2) λeU=>ae (!eU.1.2) (ret (((λx=>0,0,0,0),4),eU.2)) (opt (km 2 eU.2 (cr (ak.1 0) [ak.1 3,ak.1 0]) true) λc8=>ae (decide (c8.1<16777216)) (ret (((λx=>0,0,0,0),4),c8.2)) (opt (aX x5 eU.1.1 c8.2) λmg=>opt (di mg.1) λqX=>opt (bj 30 2 2 mg.2 (cr (ak.1 0) [ak.1 3,ak.1 0]) (cr (ak.1 0) [ak.1 3,ak.1 0]) true true) λpd=>opt (cA 2 pd.2 (cr d.1 [d.1,d.1]) true) λjh=>opt (cA 2 jh.2 (cr d.2.1 [d.2.1,d.2.1]) true) λqc=>opt (cA 2 qc.2 (cr n1.1 [n1.1,n1.1]) true) λLd=>opt (cA 2 Ld.2 (cr n1.2 [n1.2,n1.2]) true) λd=>opt (bj 30 2 2 d.2 (cr (ak.1 0) [wI (0-ak.1 3),ak.1 0]) (cr d.1 [jh.1,d.1]) true true) λMI=>opt (aE MI.1 pd.1 30 MI.2) λaGb=>opt (bj 30 2 2 aGb.2 (cr (ak.1 0) [wI (0-ak.1 3),ak.1 0]) (cr Ld.1 [qc.1,Ld.1]) true true) λaaW=>opt (aE aaW.1 pd.1 30 aaW.2) λaeo=>opt (bj 30 2 2 aeo.2 (cr (ak.1 0) [wI (0-ak.1 3),ak.1 0]) (cr qc.1 [wI (0-Ld.1),qc.1]) true true) λaaX=>opt (aE aaX.1 pd.1 30 aaX.2) λaGc=>opt (bj 30 2 2 aGc.2 (cr (ak.1 0) [wI (0-ak.1 3),ak.1 0]) (cr jh.1 [wI (0-d.1),jh.1]) true true) λd=>opt (aE d.1 pd.1 30 d.2) λd=>ret (((cr 0 [d.1,aGc.1,aeo.1,aGb.1],qX,x6,x7),0),d.2)))
def Gb:=λx0 x1 x2 x3 x4 x5 x6 x7 x8=>(YA cC ja eV wo mi Ag cB bX kI bx cJ bk x0 x1 x2 x3 x4 x5 x6 x7 x8).val
abbrev YB:=ey×oD×lU×Ki×yT×QQ×z5×de×yP×dM×fB×cN
def anG (p:YB):KK:=⟨[jM p.1,Bo p.2.1,rQ p.b.1,Xa p.b.2.1,G4 p.c.1,ac5 p.c.2.1,IL p.c.b.1,ia p.c.b.2.1,Co p.d.1,lV p.d.2.1,pf p.d.b.1,gu p.d.b.2],⟨[⟨10,(rg 1 11 (13::14::16::17::rg 21 57 (rg 80 58 []))),[]⟩,⟨17,(rg 1 11 (13::14::16::17::20::21::22::rg 25 86 (rg 112 26 []))),[]⟩],[],[],[],(some ⟨0,(rg 0 12 (rg 14 124 [])),[]⟩)⟩,0,235⟩
theorem aGi (p:YB):D2 (anG p) anC (lf T0) λb=>YA p.1 p.2.1 p.b.1 p.b.2.1 p.c.1 p.c.2.1 p.c.b.1 p.c.b.2.1 p.d.1 p.d.2.1 p.d.b.1 p.d.b.2 b.1.1 b.1.2.1.1.1 b.1.2.1.1.2.1 b.1.2.1.1.b b.1.2.1.2 b.1.b.1 b.1.b.2.1 b.1.c b.2:=λb=>by kernel_rfl
abbrev anH:YB:=(cC,ja,eV,wo,mi,Ag,cB,bX,kI,bx,cJ,bk)
theorem aGj [aA]:SC (anF Gb):=sc (kS (k:=anG anH) (.c kM (.c Ef (.c vE (.c agR (.c Mr (.c arE (.c QC (.c ji (.c GW (.c nj (.c rP (.c hX (.nil _))))))))))))) [10,17] [] ⟨kN,⟨kN,trivial⟩⟩ trivial (aGi anH))
def awm:=qa (pr (cu aS (c afI (c aPB iA))) bJ)
def ac7:=qe aPP
abbrev awn:=ac7.B
abbrev awo:=Int->Int->Int->Int->Int->Int->Int->Int->Int->Bool->Option awn
def awp (g:awo):Ct:=(219,FC awm (lf ac7) (λb=>g b.1.1.1 b.1.1.2.1 b.1.1.b.1 b.1.1.b.2 b.1.2.1.1.1 b.1.2.1.1.2.1 b.1.2.1.1.b b.1.2.1.2 b.1.b b.2))
def ahG (ew:oD)(gf:yT)(Ei:QQ)(aX:de)(di:yP)(x0:Int)(x1:Int)(x2:Int)(x3:Int)(x4:Int)(x5:Int)(x6:Int)(x7:Int)(x8:Int)(x9:Bool):Pg awn:=opt (ew x0 x1 x2 x3 x9) λd=>opt (gf d.1 x4 x5 x6 d.2) λd=>opt (Ei d.1.1 d.1.2.1 d.1.2.2 d.2) λd=>ae (!d.1.2) (ret ((0,4),d.2)) (opt (aX x8 d.1.1 d.2) λd=>opt (di d.1) λak=>ret ((ak,0),d.2))
def Na:=λx0 x1 x2 x3 x4 x5 x6 x7 x8 x9=>(ahG ja mi Ag bX kI x0 x1 x2 x3 x4 x5 x6 x7 x8 x9).val
theorem aLD:∀ew gf Ei aX di,D0 [Bo ew,G4 gf,ac5 Ei,ia aX,Co di] 219 awm (lf ac7) λb=>ahG ew gf Ei aX di b.1.1.1 b.1.1.2.1 b.1.1.b.1 b.1.1.b.2 b.1.2.1.1.1 b.1.2.1.1.2.1 b.1.2.1.1.b b.1.2.1.2 b.1.b b.2:=λ_ _ _ _ _ b=>by kernel_rfl
theorem aLE [aA]:SC (awp Na):=s0 (.c Ef (.c Mr (.c arE (.c ji (.c GW (.nil _)))))) (aLD ja mi Ag bX kI)
def ajp:=qa (pl iA nil)
def Pq:=qe HT
abbrev ajq:=Pq.B
abbrev ajr:=Int->Option ajq
def ajs (g:ajr):Ct:=(141,FC ajp (lf Pq) (λb=>g b))
def T1 (av:cj)(aG:cw)(x0:Int):Pg ajq:=opt (av (wI (x0*x0)) 17592186044416 1000000 false) λd=>opt (aG d.1 1 72057594037927936 d.2) λd=>ret d.1
def DT:=λx0=>(T1 aU aY x0).val
theorem aCH:∀av aG,D0 [cZ av,dZ aG] 141 ajp (lf Pq) λb=>T1 av aG b:=λ_ _ b=>by kernel_rfl
theorem aCI [aA]:SC (ajs DT):=s0 (.c dm (.c eP (.nil _))) (aCH aU aY)
def aBv:=qa (pr (cu aS Eo) bJ)
def ahH:=qe aPR
abbrev aBw:=ahH.B
abbrev anI:=Int->Int->Int->Int->Int->Int->Int->Int->Int->Bool->Option aBw
def anJ (g:anI):Ct:=(93,FC aBv (lf ahH) (λb=>g b.1.1 b.1.2.1 b.1.b.1 b.1.b.2.1 b.1.c.1 b.1.c.2.1 b.1.c.b.1 b.1.c.b.2.1 b.1.d b.2))
def anK (av:cj)(JN:ajr)(x0:Int)(x1:Int)(x2:Int)(x3:Int)(x4:Int)(x5:Int)(x6:Int)(x7:Int)(x8:Int)(x9:Bool):Pg aBw:=ae (decide (x1<0)) (ret (((0,0),1),x9)) (ae (decide (x1>300000)) (ret (((0,0),1),x9)) (ae (decide (x2<1)) (ret (((0,0),1),x9)) (ae (decide (x2>1000000)) (ret (((0,0),1),x9)) (opt (av x1 1073741824 1000 x9) λd=>opt (JN x2) λak=>ret (((d.1,ak),0),d.2)))))
def Gd:=λx0 x1 x2 x3 x4 x5 x6 x7 x8 x9=>(anK aU DT x0 x1 x2 x3 x4 x5 x6 x7 x8 x9).val
theorem aOo:∀av JN,D1 [cZ av,ajs JN] [0] 93 aBv (lf ahH) λb=>anK av JN b.1.1 b.1.2.1 b.1.b.1 b.1.b.2.1 b.1.c.1 b.1.c.2.1 b.1.c.b.1 b.1.c.b.2.1 b.1.d b.2:=λ_ _ b=>by kernel_rfl
theorem aBx [aA]:SC (anJ Gd):=s0 (.c dm (.c aCI (.nil _))) (aOo aU DT)
def ajt:=qa (pr (cu aS asu) bJ)
def Pr:=qe axt
abbrev aju:=Pr.B
abbrev DU:=NI->Bool->Option aju
def T2 (g:DU):Ct:=(258,FC ajt (lf Pr) (λb=>g b.1 b.2))
def T3 (bN:lU)(nY:Ki)(x0:Nat->Int)(x1:Bool):Pg aju:=opt (bN x0 4) λd=>opt (nY d.1 d.2.1 d.2.2 (x0 22) (x0 23) 0 x1) λd=>ret d
def uc:=λx0 x1=>(T3 eV wo x0 x1).val
theorem aCJ:∀bN nY,D0 [rQ bN,Xa nY] 258 ajt (lf Pr) λb=>T3 bN nY b.1 b.2:=λ_ _ b=>by kernel_rfl
theorem ajv [aA]:SC (T2 uc):=s0 (.c vE (.c agR (.nil _))) (aCJ eV wo)
def awq:=qa (pr (cu (app 0 27) HV) (cl axr nil))
def ac8:=qe (res (pu Q' (pl (cl (zT axr) nil) nil)))
abbrev awr:=ac8.B
abbrev Nb:=Int->Int->Int->NI->Int->Int->Int->Option awr
def ahI (g:Nb):Ct:=(259,FC awq (lf ac8) (λb=>g b.1.1 b.1.2.1 b.1.b b.2.1 b.b.1 b.b.2.1 b.c))
def ahJ (x0:Int)(x1:Int)(x2:Int)(x3:Nat->Int)(x4:Int)(x5:Int)(x6:Int):Pg awr:=ret (λj=>bif z9 j 6 then x2 else bif z9 j 23 then wI (0-x1) else bif z9 j 5 then x1 else bif z9 j 22 then wI (0-x0) else bif z9 j 4 then x0 else x3 j,x4,x5,x6)
def CQ:=λx0 x1 x2 x3 x4 x5 x6=>(ahJ x0 x1 x2 x3 x4 x5 x6).val
abbrev ahK:=Unit
def aws (p:ahK):KK:=⟨[],⟨[⟨2,(1::2::4::rg 6 24 []),[]⟩],[],[],[],(some ⟨0,(rg 0 30 []),[]⟩)⟩,0,259⟩
theorem aLF (p:ahK):D2 (aws p) awq (lf ac8) λb=>ahJ b.1.1 b.1.2.1 b.1.b b.2.1 b.b.1 b.b.2.1 b.c:=λb=>by kernel_rfl
abbrev awt:ahK:=()
theorem awu [aA]:SC (ahI CQ):=sc (kS (k:=aws awt) (.nil _) [2] [] ⟨kN,trivial⟩ trivial (aLF awt))
def ajw:=qa (pr (cu aS (c lz (c (aa akL) iA))) bJ)
def Ps:=qe aDX
abbrev ajx:=Ps.B
abbrev ajy:=NI->Int->Int->Int->Bool->Option ajx
def ajz (g:ajy):Ct:=(236,FC ajw (lf Ps) (λb=>g b.1.1 b.1.2.1.1 b.1.2.1.2 b.1.b b.2))
def T4 (T5:DU)(vH:BW)(aX:de)(aE:cN)(ahL:Nb)(x0:Nat->Int)(x1:Int)(x2:Int)(x3:Int)(x4:Bool):Pg ajx:=opt (T5 x0 x4) λd=>opt (vH d.1.1 d.1.2.1 d.1.2.2 d.2) λak=>ae (decide (ak.1<1073741824)) (ret (((λx=>0,0,0,0),4),ak.2)) (opt (aX x1 ak.1 ak.2) λaF=>opt (aE d.1.1 ak.1 30 aF.2) λbA=>opt (aE d.1.2.1 ak.1 30 bA.2) λcD=>opt (aE d.1.2.2 ak.1 30 cD.2) λd=>opt (ahL bA.1 cD.1 d.1 (λx=>0) aF.1 x2 x3) λeU=>ret ((eU,0),d.2))
def DV:=λx0 x1 x2 x3 x4=>(T4 uc qd bX bk CQ x0 x1 x2 x3 x4).val
abbrev T6:=DU×BW×de×cN×Nb
def ajA (p:T6):KK:=⟨[T2 p.1,Rp p.2.1,ia p.b.1,gu p.b.2.1,ahI p.c],⟨[⟨8,(rg 1 7 (9::rg 14 19 (rg 34 14 []))),[]⟩],[],[],[],(some ⟨0,(rg 0 8 (rg 10 38 [])),[]⟩)⟩,0,236⟩
theorem aCK (p:T6):D2 (ajA p) ajw (lf Ps) λb=>T4 p.1 p.2.1 p.b.1 p.b.2.1 p.c b.1.1 b.1.2.1.1 b.1.2.1.2 b.1.b b.2:=λb=>by kernel_rfl
abbrev ajB:T6:=(uc,qd,bX,bk,CQ)
theorem aCL [aA]:SC (ajz DV):=sc (kS (k:=ajA ajB) (.c ajv (.c aao (.c ji (.c hX (.c awu (.nil _)))))) [8] [] ⟨kN,trivial⟩ trivial (aCK ajB))
def ajC:=qa (pr (cu aS (c lz A4)) bJ)
def Pu:=qe aDX
abbrev ajD:=Pu.B
abbrev ajE:=NI->Int->Int->Bool->Option ajD
def ajF (g:ajE):Ct:=(237,FC ajC (lf Pu) (λb=>g b.1.1 b.1.2.1 b.1.b b.2))
def T7 (bn:ey)(ew:oD)(T5:DU)(Ga:yU)(aE:cN)(aC:bR)(aX:de)(ahL:Nb)(x0:Nat->Int)(x1:Int)(x2:Int)(x3:Bool):Pg ajD:=opt (bn x0) λd=>opt (ew d.1 d.2.1 d.2.2.1 d.2.2.2 x3) λd=>opt (T5 x0 d.2) λak=>opt (Ga d.1 ak.1.1 ak.1.2.1 ak.1.2.2 ak.2) λaF=>let n1:=aF.1.1;ae (decide (n1<5368709120)) (ret (((λx=>0,0,0,0),4),aF.2)) (opt (aE aF.1.2.1 n1 30 aF.2) λbA=>opt (aC bA.1 (d.1 0) 30 bA.2) λcD=>opt (aX (d.1 1) cD.1 cD.2) λeU=>opt (aE eU.1 n1 30 eU.2) λc8=>opt (aC bA.1 (d.1 3) 30 c8.2) λmg=>opt (aX (d.1 4) mg.1 mg.2) λqX=>opt (aE qX.1 n1 30 qX.2) λpd=>opt (aC bA.1 (d.1 6) 30 pd.2) λjh=>opt (aX (d.1 7) jh.1 jh.2) λd=>opt (aE d.1 n1 30 d.2) λd=>opt (ahL c8.1 pd.1 d.1 (λx=>0) (wI (0-bA.1)) x1 x2) λqc=>ret ((qc,0),d.2))
def DW:=λx0 x1 x2 x3=>(T7 cC ja uc sI bk aW bX CQ x0 x1 x2 x3).val
abbrev T8:=ey×oD×DU×yU×cN×bR×de×Nb
def ajG (p:T8):KK:=⟨[jM p.1,Bo p.2.1,T2 p.b.1,Rv p.b.2.1,gu p.c.1,eT p.c.2.1,ia p.c.b.1,ahI p.c.b.2],⟨[⟨9,(rg 1 7 (9::rg 15 26 (rg 42 26 []))),[]⟩],[],[],[],(some ⟨0,(rg 0 8 (rg 10 58 [])),[]⟩)⟩,0,237⟩
theorem aCM (p:T8):D2 (ajG p) ajC (lf Pu) λb=>T7 p.1 p.2.1 p.b.1 p.b.2.1 p.c.1 p.c.2.1 p.c.b.1 p.c.b.2 b.1.1 b.1.2.1 b.1.b b.2:=λb=>by kernel_rfl
abbrev ajH:T8:=(cC,ja,uc,sI,bk,aW,bX,CQ)
theorem aCN [aA]:SC (ajF DW):=sc (kS (k:=ajG ajH) (.c kM (.c Ef (.c ajv (.c aaz (.c hX (.c fA (.c ji (.c awu (.nil _))))))))) [9] [] ⟨kN,trivial⟩ trivial (aCM ajH))
def aeB:=qa (pl iA nil)
def Nc:=qe HT
abbrev aeC:=Nc.B
abbrev Pv:=Int->Option aeC
def aeD (g:Pv):Ct:=(142,FC aeB (lf Nc) (λb=>g b))
def Pw (av:cj)(aG:cw)(x0:Int):Pg aeC:=opt (av (wI (x0*x0)) 17592186044416 1000000000000 false) λd=>opt (aG d.1 1 72057594037927936 d.2) λd=>ret d.1
def Bx:=λx0=>(Pw aU aY x0).val
theorem ayP:∀av aG,D0 [cZ av,dZ aG] 142 aeB (lf Nc) λb=>Pw av aG b:=λ_ _ b=>by kernel_rfl
theorem ayQ [aA]:SC (aeD Bx):=s0 (.c dm (.c eP (.nil _))) (ayP aU aY)
def awv:=qa (pr (cu aS Eo) bJ)
def ac9:=qe aWD
abbrev aww:=ac9.B
abbrev ahM:=Int->Int->Int->Int->Int->Int->Int->Int->Int->Bool->Option aww
def ahN (g:ahM):Ct:=(94,FC awv (lf ac9) (λb=>g b.1.1 b.1.2.1 b.1.b.1 b.1.b.2.1 b.1.c.1 b.1.c.2.1 b.1.c.b.1 b.1.c.b.2.1 b.1.d b.2))
def ahO (av:cj)(ayR:Pv)(x0:Int)(x1:Int)(x2:Int)(x3:Int)(x4:Int)(x5:Int)(x6:Int)(x7:Int)(x8:Int)(x9:Bool):Pg aww:=ae (decide (x1< -10000000)) (ret (((0,0,0,0),1),x9)) (ae (decide (x1>10000000)) (ret (((0,0,0,0),1),x9)) (ae (decide (x2< -10000000)) (ret (((0,0,0,0),1),x9)) (ae (decide (x2>10000000)) (ret (((0,0,0,0),1),x9)) (ae (decide (x3<1)) (ret (((0,0,0,0),1),x9)) (ae (decide (x3>10000000)) (ret (((0,0,0,0),1),x9)) (ae (decide (x4<0)) (ret (((0,0,0,0),1),x9)) (ae (decide (x4>100)) (ret (((0,0,0,0),1),x9)) (opt (av x1 1073741824 1000000 x9) λd=>opt (av x2 1073741824 1000000 d.2) λak=>opt (ayR x3) λaF=>ret (((d.1,ak.1,aF,x4),0),ak.2)))))))))
def CR:=λx0 x1 x2 x3 x4 x5 x6 x7 x8 x9=>(ahO aU Bx x0 x1 x2 x3 x4 x5 x6 x7 x8 x9).val
abbrev ahP:=cj×Pv
def awx (p:ahP):KK:=⟨[cZ p.1,aeD p.2],⟨[⟨2,(1::rg 5 4 (rg 12 4 (17::rg 20 8 (32::33::38::39::rg 44 20 [])))),[]⟩],[],[0],[],(some ⟨0,(rg 0 4 (rg 6 58 [])),[]⟩)⟩,0,94⟩
theorem aLG (p:ahP):D2 (awx p) awv (lf ac9) λb=>ahO p.1 p.2 b.1.1 b.1.2.1 b.1.b.1 b.1.b.2.1 b.1.c.1 b.1.c.2.1 b.1.c.b.1 b.1.c.b.2.1 b.1.d b.2:=λb=>by kernel_rfl
abbrev awy:ahP:=(aU,Bx)
theorem awz [aA]:SC (ahN CR):=sc (kS (k:=awx awy) (.c dm (.c ayQ (.nil _))) [2] [] ⟨kN,trivial⟩ trivial (aLG awy))
def aeE:=qa (pr (cu aS asu) bJ)
def Nd:=qe aPP
abbrev aeF:=Nd.B
abbrev Px:=NI->Bool->Option aeF
def aeG (g:Px):Ct:=(260,FC aeE (lf Nd) (λb=>g b.1 b.2))
def Py (bn:ey)(ew:oD)(aE:cN)(x0:Nat->Int)(x1:Bool):Pg aeF:=opt (bn x0) λd=>opt (ew d.1 d.2.1 d.2.2.1 d.2.2.2 x1) λd=>ae (decide (d.1 8<751619277)) (ret ((0,4),d.2)) (opt (aE (x0 9) (d.1 8) 30 d.2) λd=>let y0:=wI (0-d.1);ae (decide (y0<536870912)) (ret ((0,4),d.2)) (ret ((y0,0),d.2)))
def By:=λx0 x1=>(Py cC ja bk x0 x1).val
theorem ayS:∀bn ew aE,D0 [jM bn,Bo ew,gu aE] 260 aeE (lf Nd) λb=>Py bn ew aE b.1 b.2:=λ_ _ _ b=>by kernel_rfl
theorem ayT [aA]:SC (aeG By):=s0 (.c kM (.c Ef (.c hX (.nil _)))) (ayS cC ja bk)
def awA:=qa (pr (cu aS (c lz (c afI iA))) bJ)
def ajI:=qe (res (pr aVT (pl mF nil)))
def aCO:=qe (res (pu (rH (cu (rc (gr (pu Dx (pu we (pu (szl rq4) (pu (nat 27) gB)))))) akN)) (pr mF (cl aPV nil))))
abbrev VF:=ajI.B⊕(Bool×NI×Int×Int×Int×NI×Int)
def awB:VF->T:=ls (lf ajI) (λd=>lf aCO (d.1,d.2.1,d.b.1,d.b.2.1,d.c.1,d.c.2.1,d.c.b,d.b.2.1,d.c.1))
abbrev awC:=NI->Int->Int->Int->Int->Int->Bool->Option VF
def awD (g:awC):Ct:=(238,FC awA awB (λb=>g b.1.1 b.1.2.1.1 b.1.2.1.2.1 b.1.2.1.b.1 b.1.2.1.b.2 b.1.b b.2))
def VG (ayU:Px)(bn:ey)(ew:oD)(bN:lU)(Ga:yU)(aE:cN)(aX:de)(x0:Nat->Int)(x1:Int)(x2:Int)(x3:Int)(x4:Int)(x5:Int)(x6:Bool):Pg VF:=ae (decide (x4<30)) (ret (ww (4,x6))) (opt (ayU x0 x6) λd=>let n1:=d.1.1;ae (d.1.2!=0) (ret (ww (d.1.2,d.2))) (opt (bn x0) λak=>opt (ew ak.1 ak.2.1 ak.2.2.1 ak.2.2.2 d.2) λaF=>opt (bN x0 4) λbA=>opt (Ga aF.1 bA.1 bA.2.1 bA.2.2 aF.2) λcD=>opt (aE cD.1.2.1 n1 30 cD.2) λeU=>opt (aX x1 eU.1 eU.2) λc8=>opt (aE cD.1.1 n1 30 c8.2) λmg=>opt (aX x2 (wI (0-mg.1)) mg.2) λqX=>opt (aE (aF.1 1) n1 30 qX.2) λpd=>opt (aE (aF.1 0) n1 30 pd.2) λjh=>opt (aE (aF.1 4) n1 30 jh.2) λqc=>opt (aE (aF.1 3) n1 30 qc.2) λLd=>opt (aE (aF.1 7) n1 30 Ld.2) λMI=>opt (aE (aF.1 6) n1 30 MI.2) λd=>ret (ws (d.2,λj=>bif z9 j 6 then MI.1 else bif z9 j 5 then qc.1 else bif z9 j 4 then pd.1 else 0,c8.1,x3,x5,λj=>bif z9 j 6 then wI (0-d.1) else bif z9 j 5 then wI (0-Ld.1) else bif z9 j 4 then wI (0-jh.1) else 0,qX.1))))
def CS:=λx0 x1 x2 x3 x4 x5 x6=>(VG By cC ja eV sI bk bX x0 x1 x2 x3 x4 x5 x6).val
abbrev ahQ:=Px×ey×oD×lU×yU×cN×de
def awE (p:ahQ):KK:=⟨[aeG p.1,jM p.2.1,Bo p.b.1,rQ p.b.2.1,Rv p.c.1,gu p.c.2.1,ia p.c.b],⟨[⟨11,(rg 1 9 (11::13::rg 16 49 (rg 66 30 []))),[]⟩],[],[0],[],(some ⟨0,(rg 0 8 (rg 10 86 [])),[]⟩)⟩,0,238⟩
theorem aLH (p:ahQ):D2 (awE p) awA awB λb=>VG p.1 p.2.1 p.b.1 p.b.2.1 p.c.1 p.c.2.1 p.c.b b.1.1 b.1.2.1.1 b.1.2.1.2.1 b.1.2.1.b.1 b.1.2.1.b.2 b.1.b b.2:=λb=>by kernel_rfl
abbrev awF:ahQ:=(By,cC,ja,eV,sI,bk,bX)
theorem aLI [aA]:SC (awD CS):=sc (kS (k:=awE awF) (.c ayT (.c kM (.c Ef (.c vE (.c aaz (.c hX (.c ji (.nil _)))))))) [11] [] ⟨kN,trivial⟩ trivial (aLH awF))
def awG:=qa (pl iA nil)
def ada:=qe Fv
abbrev awH:=ada.B
abbrev ahR:=Int->Option awH
def ahS (g:ahR):Ct:=(83,FC awG (lf ada) (λb=>g b))
def VH (x0:Int):Pg awH:=ae (decide (x0>=0)) (ret (decide (x0<6))) (ret false)
def uK:=λx0=>(VH x0).val
theorem aLJ:D0 [] 83 awG (lf ada) λb=>VH b:=λb=>by kernel_rfl
theorem awI [aA]:SC (ahS uK):=s0 (.nil _) aLJ
def RF:=qa (pr (cu KY iA) aPx)
def Ev:=qe (res (pu Q' (pl (cl (zT (cl gi (cu aO (cu axo nil)))) nil) nil)))
abbrev RG:=Ev.B
abbrev RH:=Int->Int->Int->Bool->Option RG
def RI (g:RH):Ct:=(265,FC RF (lf Ev) (λb=>g b.1 b.2.1 b.b.1 b.b.2))
def Ge (x0:Int)(x1:Int)(x2:Int)(x3:Bool):Pg RG:=ae (!x3) (ret x0) (ae (decide (x0>x1)) (ret x0) (ret x1))
def sK:=λx0 x1 x2 x3=>(Ge x0 x1 x2 x3).val
theorem anL:D0 [] 265 RF (lf Ev) λb=>Ge b.1 b.2.1 b.b.1 b.b.2:=λb=>by kernel_rfl
theorem anM [aA]:SC (RI sK):=s0 (.nil _) anL
def RJ:=qa (pu (cu KY nil) aPx)
def Ew:=qe (res (pu Q' (pl (cl (zT afD) nil) nil)))
abbrev RK:=Ew.B
abbrev RL:=Int->Int->Bool->Option RK
def RM (g:RL):Ct:=(266,FC RJ (lf Ew) (λb=>g b.1 b.2.1 b.b))
def Gf (x0:Int)(x1:Int)(x2:Bool):Pg RK:=let y0:=wI (x1+1);ret (x0,if 1000<y0 then 1000 else y0,x2)
def sL:=λx0 x1 x2=>(Gf x0 x1 x2).val
theorem anN:D0 [] 266 RJ (lf Ew) λb=>Gf b.1 b.2.1 b.b:=λb=>by kernel_rfl
theorem anO [aA]:SC (RM sL):=s0 (.nil _) anN
def IZ:=qa (dp (cu aDz (c ai (c ai aJQ))) λa=>(c mH (cl (cl (gs a.b.1 ast) nil) nil)))
def xW:=qe (res (pu Q' (pl (cl aDU adF) nil)))
abbrev I0:=xW.B
abbrev I1:=Int->Int->Nat->NI->NI->(Nat->Bool)->NI->NI->NI->Int->(Nat->Bool)->NI->NI->Bool->Option I0
def I2 (g:I1):Ct:=(256,vA 3 [.b,.i .i64,.i .i64] (FC IZ (lf xW) (λb=>g b.1.1 b.1.2.1 b.1.b.1 b.2.1.1.1 b.2.1.1.2.1 b.2.1.1.b.1 b.2.1.1.b.2.1 b.2.1.1.c.1 b.2.1.1.c.2 b.2.1.2 b.b.1 b.b.2.1 b.c b.1.b.2)))
def Ah (uL:ahR)(rU:acM)(zh:RH)(zi:RL)(x0:Int)(x1:Int)(x2:Nat)(x3:Nat->Int)(x4:Nat->Int)(x5:Nat->Bool)(x6:Nat->Int)(x7:Nat->Int)(x8:Nat->Int)(x9:Int)(fU:Nat->Bool)(fV:Nat->Int)(Et:Nat->Int)(w0:Bool):Pg I0:=let n3:=((x5,x6,x7,x8).1 (z4 x0));let n2:=((x4,x5,x6,x7,x8).1 (z4 x0));let n1:=((x3,x4,x5,x6,x7,x8).1 (z4 x0));let y0:=bg x0 6;let y1:=0+z4 x0*6+3;let y2:=wl y1 36;let y3:=y2&&wl y1 37;opt (uL x0) λd=>ae (!d) (ret ((x3,x4,x5,x6,x7,x8),x9)) (ae (wr x2==0) (ret ((x3,x4,x5,x6,x7,x8),x9)) (ae (z9 x2 x2) (opt (rU x2 fU fV Et (w0&&true)) λd=>ae (decide (d.1>0)) (ae y0 (ae y2 (opt (zh x1 n1 n2 n3) λd=>ae y3 (ret ((λj=>bif z9 j (z4 x0) then d else(x3,x4,x5,x6,x7,x8).1 j,λj=>bif z9 j (z4 x0) then 0 else(x4,x5,x6,x7,x8).1 j,λj=>bif z9 j (z4 x0) then true else(x5,x6,x7,x8).1 j,x6,x7,x8),x9)) no) no) no) (ae y0 (ae y2 (opt (zi n1 n2 n3) λd=>ae y3 (ret ((λj=>bif z9 j (z4 x0) then d.1 else(x3,x4,x5,x6,x7,x8).1 j,λj=>bif z9 j (z4 x0) then d.2.1 else(x4,x5,x6,x7,x8).1 j,λj=>bif z9 j (z4 x0) then d.2.2 else(x5,x6,x7,x8).1 j,x6,x7,x8),x9)) no) no) no)) no))
def nq:=λx0 x1 x2 x3 x4 x5 x6 x7 x8 x9 fU fV Et w0=>(Ah uK Aa sK sL x0 x1 x2 x3 x4 x5 x6 x7 x8 x9 fU fV Et w0).val
theorem adb:∀uL rU zh zi,D1 [ahS uL,acN rU,RI zh,RM zi] [0] 256 IZ (lf xW) λb=>Ah uL rU zh zi b.1.1 b.1.2.1 b.1.b.1 b.2.1.1.1 b.2.1.1.2.1 b.2.1.1.b.1 b.2.1.1.b.2.1 b.2.1.1.c.1 b.2.1.1.c.2 b.2.1.2 b.b.1 b.b.2.1 b.c b.1.b.2:=λ_ _ _ _ b=>by kernel_rfl
theorem ade [aA]:SC (I2 nq):=sc (Sound.nil 3 [.b,.i .i64,.i .i64]<|k0 (.c awI (.c arn (.c anM (.c anO (.nil _))))) (adb uK Aa sK sL))
def N7:=qa (pr (cu KY A4) aPx)
def CT:=qe aJY
abbrev N8:=CT.B
abbrev N9:=Int->Int->Int->Int->Bool->Option N8
def N' (g:N9):Ct:=(46,FC N7 (lf CT) (λb=>g b.1.1 b.1.2 b.2.1 b.b.1 b.b.2))
def Ey (x0:Int)(x1:Int)(x2:Int)(x3:Int)(x4:Bool):Pg N8:=let y0:=decide (x1>=0);ae (!x4) (ret false) (ae (decide (x0>=x2)) (ae y0 (ret (decide (wU (wU x0-wU x2)<=wU x1))) (ret false)) (ae y0 (ret true) (ret (decide (wU (wU x2-wU x0)>=wU (0-wU x1))))))
def qJ:=λx0 x1 x2 x3 x4=>(Ey x0 x1 x2 x3 x4).val
theorem akj:D0 [] 46 N7 (lf CT) λb=>Ey b.1.1 b.1.2 b.2.1 b.b.1 b.b.2:=λb=>by kernel_rfl
theorem akk [aA]:SC (N' qJ):=s0 (.nil _) akj
def Lf:=qa (pr (cu (app 0 6) iA) (cl (a 3 afD ld) nil))
def Ai:=qe aJY
abbrev Lg:=Ai.B
abbrev tH:=Int->Int->Int->Bool->Int->Int->Int->Option Lg
def Bz (g:tH):Ct:=(18,FC Lf (lf Ai) (λb=>g b.1 b.2.1.1 b.2.1.2.1 b.2.1.b b.b.1 b.b.2.1 b.c))
def BA (xF:N9)(x0:Int)(x1:Int)(x2:Int)(x3:Bool)(x4:Int)(x5:Int)(x6:Int):Pg Lg:=opt (xF x0 x5 x1 x2 x3) λd=>ae d (ret (decide (x2<=x6))) (ret false)
def jd:=λx0 x1 x2 x3 x4 x5 x6=>(BA qJ x0 x1 x2 x3 x4 x5 x6).val
theorem aeH:∀xF,D0 [N' xF] 18 Lf (lf Ai) λb=>BA xF b.1 b.2.1.1 b.2.1.2.1 b.2.1.b b.b.1 b.b.2.1 b.c:=λ_ b=>by kernel_rfl
theorem Lh [aA]:SC (Bz jd):=s0 (.c akk (.nil _)) (aeH qJ)
def I3:=qa (pr (cu aDz A4) aKd)
def xX:=qe aJY
abbrev I4:=xX.B
abbrev Aj:=Int->Int->NI->NI->(Nat->Bool)->NI->NI->NI->Int->Option I4
def I5 (g:Aj):Ct:=(110,FC I3 (lf xX) (λb=>g b.1.1 b.1.2 b.2.1.1 b.2.1.2.1 b.2.1.b.1 b.2.1.b.2.1 b.2.1.c.1 b.2.1.c.2 b.b))
def Ak (uL:ahR)(lq:tH)(x0:Int)(x1:Int)(x2:Nat->Int)(x3:Nat->Int)(x4:Nat->Bool)(x5:Nat->Int)(x6:Nat->Int)(x7:Nat->Int)(x8:Int):Pg I4:=opt (uL x0) λd=>ae d (ae (bg x0 6) (ae (wl (0+z4 x0*6+6) 36) (opt (lq x1 ((x2,x3,x4,x5,x6,x7).1 (z4 x0)) ((x3,x4,x5,x6,x7).1 (z4 x0)) ((x4,x5,x6,x7).1 (z4 x0)) ((x5,x6,x7).1 (z4 x0)) (x6 (z4 x0)) (x7 (z4 x0))) λd=>ret d) no) no) (ret false)
def ns:=λx0 x1 x2 x3 x4 x5 x6 x7 x8=>(Ak uK jd x0 x1 x2 x3 x4 x5 x6 x7 x8).val
theorem adf:∀uL lq,D0 [ahS uL,Bz lq] 110 I3 (lf xX) λb=>Ak uL lq b.1.1 b.1.2 b.2.1.1 b.2.1.2.1 b.2.1.b.1 b.2.1.b.2.1 b.2.1.c.1 b.2.1.c.2 b.b:=λ_ _ b=>by kernel_rfl
theorem adg [aA]:SC (I5 ns):=s0 (.c awI (.c Lh (.nil _))) (adf uK jd)
def I6:=qa (pr (cu aDz iA) aKd)
def xY:=qe axq
abbrev I7:=xY.B
abbrev I8:=Int->NI->NI->(Nat->Bool)->NI->NI->NI->Int->Option I7
def I9 (g:I8):Ct:=(43,FC I6 (lf xY) (λb=>g b.1 b.2.1.1 b.2.1.2.1 b.2.1.b.1 b.2.1.b.2.1 b.2.1.c.1 b.2.1.c.2 b.b))
def eK:=qs (st (pr (cu aDz (c ai (us 3 (c ai (us 2 aJO))))) (pl (cl j8 nil) nil)))
def Gg:=qs (st (pr (cu aDz (c ai (us 3 (c ai (us 2 aJW))))) (pl (cl j8 nil) nil)))
abbrev lJ:=Gg.B
def Gh {ρ:Type}:=@ef lJ ((.ex 0)) Gg ρ
def wV (lq:tH)(d:eK.B):PL eK lJ:=let n3:=d.1.1;let n2:=d.2.1.2.2;let n1:=d.1.2;let y0:=z4 n1.2;let y1:=y0*6;let y2:=wI (n1.2+1);let y3:=decide (n1.2<6);ae y3 (ae (bg n1.2 6) (ae (wl (2+y1+1) 36) (ae (n2.1 y0) (ae (wl (0+y1+6) 36) (opt (lq n3 (d.2.1.1 y0) (d.2.1.2.1 y0) (n2.1 y0) (n2.2.1 y0) (n2.2.2.1 y0) (n2.2.2.2 y0)) λak=>ae (!ak) (ae (!decide (n1.2<0)) (ret (ww ((n3,wI (n1.1+wI (1*2^min y0 64)),y2),d.2))) no) (ret (ww ((n3,n1.1,y2),d.2)))) no) (ret (ww ((n3,n1.1,y2),d.2)))) no) no) (ret (ws ((n3,n1.1,n1.2,y3),d.2)))
def wW:=bI (wV jd) 2000
def Al (dR:LT eK lJ)(x0:Int)(x1:Nat->Int)(x2:Nat->Int)(x3:Nat->Bool)(x4:Nat->Int)(x5:Nat->Int)(x6:Nat->Int)(x7:Int):Pg I7:=opt (dR ((x0,0,0),(x1,x2,x3,x4,x5,x6),x7)) λd=>ret d.1.2.1
def nu:=λx0 x1 x2 x3 x4 x5 x6 x7=>(Al wW x0 x1 x2 x3 x4 x5 x6 x7).val
abbrev rV:=tH×(LT eK lJ)
def Am (p:rV):KK:=⟨[Bz p.1],⟨[⟨3,(2::3::4::6::7::rg 9 13 (rg 26 7 (rg 22 4 []))),[]⟩],[fQ 3 1 eK Gh p.2],[],[],(some ⟨0,(rg 0 4 (rg 5 28 [])),[]⟩)⟩,1,43⟩
theorem VI (p:rV):LI (Am p) 3 eK Gh (wV p.1):=λ_ d c K=>by kernel_rfl
theorem adh (p:rV):D2 (Am p) I6 (lf xY) λb=>Al p.2 b.1 b.2.1.1 b.2.1.2.1 b.2.1.b.1 b.2.1.b.2.1 b.2.1.c.1 b.2.1.c.2 b.b:=λb=>by kernel_rfl
abbrev An:rV:=(jd,wW)
theorem adi [aA]:SC (I9 nu):=sc (kS (k:=Am An) (.c Lh (.nil _)) [3] [] ⟨kL (VI An),trivial⟩ trivial (adh An))
def Oa:=qa (pu (cu aDz nil) aKd)
def CU:=qe aJY
abbrev Ob:=CU.B
abbrev Oc:=NI->NI->(Nat->Bool)->NI->NI->NI->Int->Option Ob
def Od (g:Oc):Ct:=(44,FC Oa (lf CU) (λb=>g b.1.1 b.1.2.1 b.1.b.1 b.1.b.2.1 b.1.c.1 b.1.c.2 b.2))
def Ez (x0:Nat->Int)(x1:Nat->Int)(x2:Nat->Bool)(x3:Nat->Int)(x4:Nat->Int)(x5:Nat->Int)(x6:Int):Pg Ob:=ret (decide (x6>=10))
def qK:=λx0 x1 x2 x3 x4 x5 x6=>(Ez x0 x1 x2 x3 x4 x5 x6).val
theorem akl:D0 [] 44 Oa (lf CU) λb=>Ez b.1.1 b.1.2.1 b.1.b.1 b.1.b.2.1 b.1.c.1 b.1.c.2 b.2:=λb=>by kernel_rfl
theorem akm [aA]:SC (Od qK):=s0 (.nil _) akl
def Gi:=qa (pr (cu aDz (c (aa aJV) (cl (aa aJV) nil))) aKd)
def uM:=qe (res (pu Q' (pl (cl aDU nil) nil)))
abbrev Gj:=uM.B
abbrev Gk:=Bool->Int->Int->Bool->Int->Int->NI->NI->(Nat->Bool)->NI->NI->NI->Int->Option Gj
def Gl (g:Gk):Ct:=(230,FC Gi (lf uM) (λb=>g b.1.1.1 b.1.1.2.1 b.1.1.b b.1.2.1 b.1.b.1 b.1.b.2 b.2.1.1 b.2.1.2.1 b.2.1.b.1 b.2.1.b.2.1 b.2.1.c.1 b.2.1.c.2 b.b))
def wX (x0:Bool)(x1:Int)(x2:Int)(x3:Bool)(x4:Int)(x5:Int)(x6:Nat->Int)(x7:Nat->Int)(x8:Nat->Bool)(x9:Nat->Int)(fU:Nat->Int)(fV:Nat->Int)(Et:Int):Pg Gj:=let y0:=wI (Et+1);let y1:=wI (Et-1);ae (decide (x1>0)) (ae (decide (x4>0)) (ae (!x0) (ae (!x3) (ret ((x6,x7,x8,x9,fU,fV),if 1000<y0 then 1000 else y0)) (ret ((x6,x7,x8,x9,fU,fV),if 0>y1 then 0 else y1))) (ret ((x6,x7,x8,x9,fU,fV),if 0>y1 then 0 else y1))) (ae (decide (x1<0)) (ae (!x0) (ae (!x3) (ae (decide (x4<0)) (ret ((x6,x7,x8,x9,fU,fV),if 1000<y0 then 1000 else y0)) (ret ((x6,x7,x8,x9,fU,fV),if 0>y1 then 0 else y1))) (ret ((x6,x7,x8,x9,fU,fV),if 0>y1 then 0 else y1))) (ret ((x6,x7,x8,x9,fU,fV),if 0>y1 then 0 else y1))) (ae (!x0) (ae (!x3) (ret ((x6,x7,x8,x9,fU,fV),if 0>y1 then 0 else y1)) (ret ((x6,x7,x8,x9,fU,fV),if 0>y1 then 0 else y1))) (ret ((x6,x7,x8,x9,fU,fV),if 0>y1 then 0 else y1))))) (ae (decide (x1<0)) (ae (!x0) (ae (!x3) (ae (decide (x4<0)) (ret ((x6,x7,x8,x9,fU,fV),if 1000<y0 then 1000 else y0)) (ret ((x6,x7,x8,x9,fU,fV),if 0>y1 then 0 else y1))) (ret ((x6,x7,x8,x9,fU,fV),if 0>y1 then 0 else y1))) (ret ((x6,x7,x8,x9,fU,fV),if 0>y1 then 0 else y1))) (ae (!x0) (ae (!x3) (ret ((x6,x7,x8,x9,fU,fV),if 0>y1 then 0 else y1)) (ret ((x6,x7,x8,x9,fU,fV),if 0>y1 then 0 else y1))) (ret ((x6,x7,x8,x9,fU,fV),if 0>y1 then 0 else y1))))
def lK:=λx0 x1 x2 x3 x4 x5 x6 x7 x8 x9 fU fV Et=>(wX x0 x1 x2 x3 x4 x5 x6 x7 x8 x9 fU fV Et).val
theorem YC:D0 [] 230 Gi (lf uM) λb=>wX b.1.1.1 b.1.1.2.1 b.1.1.b b.1.2.1 b.1.b.1 b.1.b.2 b.2.1.1 b.2.1.2.1 b.2.1.b.1 b.2.1.b.2.1 b.2.1.c.1 b.2.1.c.2 b.b:=λb=>by kernel_rfl
theorem YD [aA]:SC (Gl lK):=s0 (.nil _) YC
end Go.Proofs.YtldgljclcgaibaaGreat
namespace Go.Proofs.YtldgljclcgaibaaGreat
open Go.Ab Go.Ab.Pg
instance aSQ (x0:Nat->Int)(x1:Nat->Int)(x2:Nat->Int)(x3:Int)(x4:Bool):bp (pH x0 x1 x2 x3 x4):=by
 unfold pH E1;refine aJ ?_;rw[bL];intro d1 _;refine ax (am9 _ (by simp)) λd _ hd=> ?_;refine ax (am8 _ (by simp)) λd _ hd=> ?_;simp only[bU]
instance a2M (x0 x1 x2:Int):bp (F2 x0 x1 x2):=by
 have h1:=ly x0;have h2:=ly x1;obtain⟨a,b,e,_,_⟩:=Bt (sat x0) (sat x0) (by omega) (by omega) (by omega) (by omega);unfold F2 X4;refine aJ ?_;rw[oI,cy,oI,cy,aL];refine⟨λ_=>by rw[aw];trivial,λc1=> ?_⟩;rw[aL];refine⟨λ_=>by rw[aw];trivial,λc2=> ?_⟩;rw[aL];refine⟨λ_=>by rw[aw];trivial,λc3=> ?_⟩;have c1:=kD c1;have c2:=kD c2
 have sq:0<=x2*x2/\x2*x2<=1000000:=by
  refine⟨pj (by omega) (by omega),?_⟩;have:=LK (show x2<=1000 by omega) (show x2<=1000 by omega) (by omega) (by omega);omega
 have w1:wI (x2*x2)=x2*x2:=dS;have w2:wI (x2*x2*65536)=x2*x2*65536:=dS;obtain⟨a2,b2,e2,_,_⟩:=Bt (x2*x2*65536) (sat x1) (by omega) (by omega) (by omega) (by omega);rw[e,cy,w1,w2,e2,cy];simp only[bU]
theorem aCP (p:Nat×Bool)(a b:Int):∀(d:qk.B) (hd:0<=d.1.2.2.2/\d.1.2.2.2<=24/\d.1.1=p/\d.1.2.1=a/\d.1.2.2.1=b),Ok (X6 d) (λx:F3=>x.1.1=p/\x.1.2.1=a/\x.1.2.2.1=b):=
 bV (λd:qk.B=>z4 (24-d.1.2.2.2)) (λd hd=>by
  have hw:wI (d.1.2.2.2+1)=d.1.2.2.2+1:=aZ;unfold X5;simp only[bU];simp only[nf,uq,hw];repeat' (first|exact True.intro|exact hd.2.2.1|exact hd.2.2.2.1|exact hd.2.2.2.2|omega|(intro _)|(apply And.intro))) (λd hd=>by omega)
theorem aCQ:∀(d:nJ.B) (hd:0<=d.1.2.2/\d.1.2.2<=d.1.2.1/\d.1.2.1<=1999/\d.1.2.1=((d.1.1.1:Nat):Int)),Ok (MQ d) (λx:Bs=>True):=
 bV (λd:nJ.B=>z4 (d.1.2.1-d.1.2.2)) (λd hd=>by
  unfold MP;try dsimp only
  rw[aL];refine⟨λh=> ?_,λ_=>by simp only[aw,jI]⟩;have h:=db h;have hw:wI (d.1.2.2+1)=d.1.2.2+1:=aZ;rw[bO,aQ,bO];refine⟨by simp only[bz];omega,rfl,?_⟩;refine ax (aCP d.1.1 d.1.2.1 d.1.2.2 _ (by simp)) λx _ hx=> ?_;obtain⟨a1,a2,a3⟩:=hx;simp only[bU,a1,a2,a3,hw];omega) (λd hd=>by omega)
theorem aLK (x:Hf.B)(h:x.1.2.1<=1999):bp (CM x):=by
 unfold CM Vz;refine aJ ?_;rw[aL,aQ,bO];refine⟨λ_=>by simp only[bU],λ_=>⟨rfl,?_⟩⟩;refine ax (aCQ _ (hdN x.1.2.1 h)) λd _ hd=> ?_;simp only[aw]
instance a1y (x0:Nat->Int)(x1:Nat->Int)(x2:Nat->Int)(x3:Nat->Int)(x4:Int)(x5:Int)(x6:Int)(x7:Bool):bp (F4 x0 x1 x2 x3 x4 x5 x6 x7):=by
 have ta:=λ(d:Nat->Int) a b=>aLK ((d,1,true),a,b) (by show 1<=1999;omega)
 unfold F4 aaR;refine aJ ?_;simp only[bU]
theorem aGk (n:Int):∀(d:pJ.B) (hd:0<=d.1.2.2.2/\d.1.2.2.2<=d.1.2.2.1/\d.1.2.2.1<=1999/\d.1.2.2.1=((d.1.2.1.1:Nat):Int)/\(d.1.1:Int)=d.1.2.2.2/\d.1.2.2.1=n),Ok (QM d) (λx:Eg=>(x.1.1:Int)=n):=
 bV (λd:pJ.B=>z4 (d.1.2.2.1-d.1.2.2.2)) (λd hd=>by
  have hw:wI (d.1.2.2.2+1)=d.1.2.2.2+1:=aZ;unfold QL;simp only[bU];simp only[nf,uq,hw];repeat' (first|exact True.intro|omega|(intro _)|(apply And.intro))) (λd hd=>by omega)
theorem aLL (x:Le.B)(h:x.1.2.2.1<=1999):Ok (F6 x) (λr:aaT=>r.1.2.2=x.1.2.2.1):=by
 unfold F6 aaU;show PQ _ _;rw[aQ,bO,bO];refine⟨rfl,rfl,?_⟩;refine ax (aGk ((x.1.2.2.1:Nat):Int) _ ?_) λd _ hd=> ?_
 .dsimp only;simp only[dH];exact⟨by omega,by omega,by omega,trivial,rfl,trivial⟩
 .rw[aw];exact Int.ofNat.inj hd
theorem ayV:∀(d:oJ.B) (hd:0<=d.1.2.2.2.2/\d.1.2.2.2.2<=d.1.2.2.2.1/\d.1.2.2.2.1<=1999/\d.1.2.2.2.1=((d.1.2.2.1.1:Nat):Int)),Ok (TM d) (λx:DQ=>True):=
 bV (λd:oJ.B=>z4 (d.1.2.2.2.1-d.1.2.2.2.2)) (λd hd=>by
  have hw:wI (d.1.2.2.2.2+1)=d.1.2.2.2.2+1:=aZ;unfold TL;simp only[bU];simp only[nf,o7,uq,hw];repeat' (first|exact True.intro|omega|(intro _)|(apply And.intro))) (λd hd=>by omega)
theorem arF (x0:Nat)(x1:Nat->Bool)(x2:Nat->Int)(x3:Nat->Int)(w0:Bool)(h:x0<=1999):bp (Aa x0 x1 x2 x3 w0):=by
 unfold Aa acO;refine aJ ?_;rw[aQ,bO];refine⟨rfl,?_⟩;refine ax (ayV _ (hdN x0 h)) λd _ hd=> ?_;simp only[bU]
instance aTV:bp eM:=by
 unfold eM O';exact aJ (by simp only[bU])
theorem ayW:∀(d:mo.B) (hd:0<=d.1.2.2.2.2/\d.1.2.2.2.2<=d.1.2.2.2.1/\d.1.2.2.2.1<=1999/\d.1.2.2.2.1=((d.1.2.2.1.1:Nat):Int)/\(d.1.1:Int)<=d.1.2.2.2.2/\(d.1.2.1:Int)<=d.1.2.2.2.2/\d.1.2.2.2.1<=1900),Ok (JL d) (λx:yC=>x.1.1<=1900/\x.1.2.1<=1900):=
 bV (λd:mo.B=>z4 (d.1.2.2.2.1-d.1.2.2.2.2)) (λd hd=>by
  have hw:wI (d.1.2.2.2.2+1)=d.1.2.2.2.2+1:=aZ;unfold JK;simp only[bU];simp only[nf,o7,uq,hw];repeat' (first|exact True.intro|omega|(intro _)|(apply And.intro))) (λd hd=>by omega)
theorem aHK (x0:Nat)(x1:Bool)(x2:Nat->Int)(x3:Nat->Int)(x4:Nat->Int)(x5:Nat->Int)(x6:Nat->Int)(x7:Nat->Int)(x8:Nat->Int)(x9:Nat->Int)(fU:Nat->Int)(fV:Nat->Int)(w0:Bool)(h:x0<=1900):bp (Ac x0 x1 x2 x3 x4 x5 x6 x7 x8 x9 fU fV w0):=by
 unfold Ac QO;try dsimp only
 refine aJ ?_;rw[bL];intro d1 _;rw[aQ,bO,bO];refine⟨rfl,rfl,?_⟩;refine ax (ayW _ ?_) λd _ hd=> ?_
 .try dsimp only
  simp only[dH];exact⟨by omega,by omega,by omega,trivial,by omega,by omega,by omega⟩
 .have t1:=λa b c e g=>ahv d.1.1 a b c e g hd.1
  have t2:=λa b c e g=>ahv d.1.2.1 a b c e g hd.2
  simp only[bU,aQ,Ou,FD]
instance a2N (x0 x1:Nat->Int)(x2:Int)(x4:Bool)(x5:Nat->Int)(w0:Bool):bp (cM x0 x1 x2 4 x4 x5 w0):=MV _ _ _ _ _ _ _ (by omega)
instance a2O (x0 x1:Nat->Int)(x2:Int)(x4:Bool)(x5:Nat->Int)(w0:Bool):bp (cM x0 x1 x2 3 x4 x5 w0):=MV _ _ _ _ _ _ _ (by omega)
instance a2P (x0 x1:Nat->Int)(x2:Int)(x4:Bool)(x5:Nat->Int)(w0:Bool):bp (cM x0 x1 x2 2 x4 x5 w0):=MV _ _ _ _ _ _ _ (by omega)
instance a2Q (x0 x1:Nat->Int)(x2:Int)(x4:Bool)(x5:Nat->Int)(w0:Bool):bp (cM x0 x1 x2 1 x4 x5 w0):=MV _ _ _ _ _ _ _ (by omega)
instance aZ1 (x0:Nat->Int)(x1:Nat->Int)(x2:Nat->Int)(x3:Int)(x4:Int)(x5:Bool):bp (CN x0 x1 x2 x3 x4 x5):=by
 unfold CN VE;exact aJ (by simp only[bU])
theorem awJ:∀(d:mS.B) (hd:0<=d.1.2.2.2.2/\d.1.2.2.2.2<=d.1.2.2.2.1/\d.1.2.2.2.1<=1999/\d.1.2.2.2.1=((d.1.2.2.1.1:Nat):Int)/\(d.1.2.1:Int)=d.1.2.2.2.2/\0<=d.1.1/\d.1.1+d.1.2.2.2.1<=24),Ok (Pc d) (λx:Bu=>True):=
 bV (λd:mS.B=>z4 (d.1.2.2.2.1-d.1.2.2.2.2)) (λd hd=>by
  have hw:wI (d.1.2.2.2.2+1)=d.1.2.2.2.2+1:=aZ;unfold Pb;try dsimp only
  have h1:wI (d.1.1+d.1.2.2.2.2)=d.1.1+d.1.2.2.2.2:=dS;simp only[h1];simp only[bU];simp only[nf,o7,uq,hw];repeat' (first|exact True.intro|omega|(intro _)|(apply And.intro))) (λd hd=>by omega)
theorem YE (x0:Nat->Int)(x1:Int)(x2:Nat)(x3:Bool)(x4:Nat->Int)(w0:Bool)(h0:0<=x1)(h1:x1+(x2:Int)<=24):bp (gT x0 x1 x2 x3 x4 w0):=by
 unfold gT M0;refine aJ ?_;rw[bL];intro d1 _;rw[aQ,bO,bO];refine⟨rfl,rfl,?_⟩;refine ax (awJ _ ?_) λd _ hd=> ?_
 .dsimp only;simp only[dH];exact⟨by omega,by omega,by omega,trivial,rfl,h0,h1⟩
 .simp only[bU]
def ajJ (a:Int)(n:Nat)(f:Nat->Int):Nat->Int:=λj=>bif z9 j (n+1) then a else bif z9 j n then a else f j
theorem sum_add (a b:Int)(n:Nat)(hn:n<=1000)(f g:Nat->Int):nm a b n n f g=some ((n+2,n+2),ajJ a n f,ajJ b n g):=by
 have hb:wl ((n+2)*8) 140737488355328=true:=by rw[ch];omega
 simp only[nm,Ye,bM,bS,dX,hb,bo];rfl
theorem aTW (a b:Int)(f g:Nat->Int):nm a b 0 0 f g=some ((2,2),ajJ a 0 f,ajJ b 0 g):=sum_add a b 0 (by omega) f g
theorem aTX (a b:Int)(f g:Nat->Int):nm a b 2 2 f g=some ((4,4),ajJ a 2 f,ajJ b 2 g):=sum_add a b 2 (by omega) f g
theorem aTY (a b:Int)(f g:Nat->Int):nm a b 4 4 f g=some ((6,6),ajJ a 4 f,ajJ b 4 g):=sum_add a b 4 (by omega) f g
theorem aTZ (a b:Int)(f g:Nat->Int):nm a b 6 6 f g=some ((8,8),ajJ a 6 f,ajJ b 6 g):=sum_add a b 6 (by omega) f g
theorem aT0 (a b:Int)(f g:Nat->Int):nm a b 8 8 f g=some ((10,10),ajJ a 8 f,ajJ b 8 g):=sum_add a b 8 (by omega) f g
instance a4n (eA:Bool)(f g:Nat->Int)(w w':Bool):bp (bx 30 6 6 eA f g w w'):=MU 6 (by omega) eA f g w w'
instance a4o (eA:Bool)(f g:Nat->Int)(w w':Bool):bp (bx 30 8 8 eA f g w w'):=MU 8 (by omega) eA f g w w'
instance a3J (eA:Bool)(f g:Nat->Int)(w w':Bool):bp (bx 30 10 10 eA f g w w'):=MU 10 (by omega) eA f g w w'
instance aZr (x0:Int)(x1:Int)(x2:Int)(x3:Int)(x4:Int)(x5:Int)(x6:Int)(x7:Bool):bp (Ad x0 x1 x2 x3 x4 x5 x6 x7):=by
 unfold Ad acW;try dsimp only
 exact aJ (by simp only[bU,aTW,aTX,aTY,aTZ,aT0,cy,aQ,SQ,Ou,FD])
instance aZs (x0:Int)(x1:Int)(x2:Int)(x3:Int)(x4:Int)(x5:Int)(x6:Int)(x7:Int)(x8:Int):bp (Ae x0 x1 x2 x3 x4 x5 x6 x7 x8):=by
 unfold Ae acZ;exact aJ (by simp only[bU])
instance aZt (x0:Int)(x1:Int)(x2:Int):bp (gx x0 x1 x2):=by
 unfold gx IY;exact aJ (by simp only[bU])
instance aZ2 (x0:Int)(x1:Int)(x2:Int)(x3:Int)(x4:Int)(x5:Int)(x6:Int)(x7:Int)(x8:Int):bp (M3 x0 x1 x2 x3 x4 x5 x6 x7 x8):=by
 unfold M3 ahy;exact aJ (by simp only[bU])
instance aT1 (x0:Int):bp (Bv x0):=by
 unfold Bv Pe;exact aJ (by simp only[bU])
instance aZ3 (x0:Int)(x1:Int)(x2:Int)(x3:Int)(x4:Int)(x5:Int)(x6:Int)(x7:Int)(x8:Int)(x9:Bool):bp (CO x0 x1 x2 x3 x4 x5 x6 x7 x8 x9):=by
 unfold CO ahC;exact aJ (by simp only[bU])
theorem atG:∀(d:lI.B) (hd:0<=d.1.2.2/\d.1.2.2<=d.1.2.1/\d.1.2.1<=1999/\d.1.2.1=((d.1.1.1:Nat):Int)),Ok (M6 d) (λx:zd=>True):=
 bV (λd:lI.B=>z4 (d.1.2.1-d.1.2.2)) (λd hd=>by
  have hw:wI (d.1.2.2+1)=d.1.2.2+1:=aZ;unfold M5;simp only[bU];simp only[nf,o7,uq,hw];repeat' (first|exact True.intro|omega|(intro _)|(apply And.intro))) (λd hd=>by omega)
theorem aCR (x0:Nat)(x1:Nat->Int)(w0:Bool)(h:x0<=1999):bp (ql x0 x1 w0):=by
 unfold ql TQ;refine aJ ?_;rw[aQ,bO];refine⟨rfl,?_⟩;refine ax (atG _ (hdN x0 h)) λd _ hd=> ?_;simp only[bU]
instance a3K (x1:Nat->Int)(w0:Bool):bp (ql 1 x1 w0):=aCR _ _ _ (by omega)
theorem v8 (x0:Nat->Int)(x1:Int)(x2:Int)(x3:Int)(x4:Int)(x5:Bool)(h0:0<=x1)(h1:x1<24):bp (eN x0 x1 x2 x3 x4 x5):=by
 have hr:bg x1 24=true:=by simp only[bz];omega
 unfold eN Ph;exact aJ (by simp only[bU,hr,Ou,FD])
instance aZ4 (x0:Nat->Int)(x2 x3 x4:Int)(x5:Bool):bp (eN x0 4 x2 x3 x4 x5):=v8 _ _ _ _ _ _ (by omega) (by omega)
instance aZ5 (x0:Nat->Int)(x2 x3 x4:Int)(x5:Bool):bp (eN x0 5 x2 x3 x4 x5):=v8 _ _ _ _ _ _ (by omega) (by omega)
instance aZ6 (x0:Nat->Int)(x2 x3 x4:Int)(x5:Bool):bp (eN x0 6 x2 x3 x4 x5):=v8 _ _ _ _ _ _ (by omega) (by omega)
instance aZ7 (x0:Nat->Int)(x2 x3 x4:Int)(x5:Bool):bp (eN x0 7 x2 x3 x4 x5):=v8 _ _ _ _ _ _ (by omega) (by omega)
instance aZ8 (x0:Nat->Int)(x2 x3 x4:Int)(x5:Bool):bp (eN x0 8 x2 x3 x4 x5):=v8 _ _ _ _ _ _ (by omega) (by omega)
instance aZ9 (x0:Nat->Int)(x2 x3 x4:Int)(x5:Bool):bp (eN x0 9 x2 x3 x4 x5):=v8 _ _ _ _ _ _ (by omega) (by omega)
instance a4p (eA:Bool)(l:Nat->Int)(w:Bool):bp (cJ 4 eA l w):=aLq 4 (by omega) eA l w
instance a2R (eA:Bool)(f:Nat->Int)(w:Bool):bp (cB 2 eA f w):=aF2 2 (by omega) eA f w
instance aT2 (x0:Nat->Int)(x1:Int)(x2:Int)(x3:Int)(x4:Int)(x5:Int)(x6:Int)(x7:Int)(x8:Int)(x9:Int)(fU:Bool):bp (Bw x0 x1 x2 x3 x4 x5 x6 x7 x8 x9 fU):=by
 unfold Bw Pk;exact aJ (by simp only[bU,qW])
instance aSR (x0:Int)(x1:Int)(x2:Int)(x3:Int)(x4:Int)(x5:Int)(x6:Int)(x7:Int)(x8:Bool):bp (kP x0 x1 x2 x3 x4 x5 x6 x7 x8):=by
 unfold kP M9;exact aJ (by simp only[bU,qW])
instance aQ9 (x:wQ.B):bp (wR x):=by
 unfold wR Kr;exact aJ (by simp only[bU,qW])
instance aYG (x:F7.B):bp (F8 x):=by
 unfold F8 Yn;try dsimp only
 exact aJ (by simp only[bU,qW])
instance aRa (x0:Int):bp (wS x0):=by
 unfold wS Kt;exact aJ (by simp only[bU,qW])
instance aYH (x0:Int)(x1:Int)(x2:Int)(x3:Int)(x4:Int)(x5:Int)(x6:Int)(x7:Int)(x8:Int)(x9:Int)(fU:Int)(fV:Bool):bp (wT x0 x1 x2 x3 x4 x5 x6 x7 x8 x9 fU fV):=by
 unfold wT Yu;exact aJ (by simp only[bU,qW])
instance aRb (x0:Int)(x1:Int)(x2:Int)(x3:Int)(x4:Int)(x5:Int)(x6:Int)(x7:Int)(x8:Int)(x9:Bool):bp (og x0 x1 x2 x3 x4 x5 x6 x7 x8 x9):=by
 unfold og Kw;exact aJ (by simp only[bU,qW])
instance aYI (x0:Nat->Int)(x1:Int)(x2:Int)(x3:Int)(x4:Bool):bp (F9 x0 x1 x2 x3 x4):=by
 unfold F9 Yy;exact aJ (by simp only[bU,qW])
instance aO3 (x0:Int)(x1:Int)(x2:Int)(x3:Int)(x4:Int)(x5:Int)(x6:Int)(x7:Int)(x8:Int)(x9:Bool):bp (mL x0 x1 x2 x3 x4 x5 x6 x7 x8 x9):=by
 unfold mL Ib;exact aJ (by simp only[bU,qW])
instance aUY (x0:Nat->Int)(x1:Int)(x2:Int)(x3:Int)(x4:Int)(x5:Bool):bp (DR x0 x1 x2 x3 x4 x5):=by
 unfold DR TW;try dsimp only
 exact aJ (by simp only[bU,qW])
instance aUZ (x0:Int):bp (DS x0):=by
 unfold DS TZ;exact aJ (by simp only[bU,qW])
instance a1z (x0:Int)(x1:Int)(x2:Int)(x3:Int)(x4:Int)(x5:Int)(x6:Int)(x7:Int)(x8:Int)(x9:Bool):bp (zf x0 x1 x2 x3 x4 x5 x6 x7 x8 x9):=by
 unfold zf anv;exact aJ (by simp only[bU,qW])
instance a1A (x0:Nat->Int)(x1:Int)(x2:Int)(x3:Int)(x4:Int)(x5:Int)(x6:Bool):bp (RD x0 x1 x2 x3 x4 x5 x6):=by
 unfold RD anA;try dsimp only
 exact aJ (by simp only[bU,qW])
instance aZu (x0:Int)(x1:Int)(x2:Int)(x3:Bool):bp (Ag x0 x1 x2 x3):=by
 unfold Ag ac6;exact aJ (by simp only[bU,qW])
instance aYJ (x0:Nat->Int)(x1:Int)(x2:Int)(x3:Int)(x4:Int)(x5:Int)(x6:Int)(x7:Int)(x8:Bool):bp (Gb x0 x1 x2 x3 x4 x5 x6 x7 x8):=by
 unfold Gb YA;try dsimp only
 exact aJ (by simp only[bU,qW])
instance a0a (x0:Int)(x1:Int)(x2:Int)(x3:Int)(x4:Int)(x5:Int)(x6:Int)(x7:Int)(x8:Int)(x9:Bool):bp (Na x0 x1 x2 x3 x4 x5 x6 x7 x8 x9):=by
 unfold Na ahG;exact aJ (by simp only[bU,qW])
instance aU0 (x0:Int):bp (DT x0):=by
 unfold DT T1;exact aJ (by simp only[bU,qW])
instance a1B (x0:Int)(x1:Int)(x2:Int)(x3:Int)(x4:Int)(x5:Int)(x6:Int)(x7:Int)(x8:Int)(x9:Bool):bp (Gd x0 x1 x2 x3 x4 x5 x6 x7 x8 x9):=by
 unfold Gd anK;exact aJ (by simp only[bU,qW])
instance aU1 (x0:Nat->Int)(x1:Bool):bp (uc x0 x1):=by
 unfold uc T3;exact aJ (by simp only[bU,qW])
instance a0b (x0:Int)(x1:Int)(x2:Int)(x3:Nat->Int)(x4:Int)(x5:Int)(x6:Int):bp (CQ x0 x1 x2 x3 x4 x5 x6):=by
 unfold CQ ahJ;exact aJ (by simp only[bU,qW])
instance aU2 (x0:Nat->Int)(x1:Int)(x2:Int)(x3:Int)(x4:Bool):bp (DV x0 x1 x2 x3 x4):=by
 unfold DV T4;exact aJ (by simp only[bU,qW])
instance aU3 (x0:Nat->Int)(x1:Int)(x2:Int)(x3:Bool):bp (DW x0 x1 x2 x3):=by
 unfold DW T7;try dsimp only
 exact aJ (by simp only[bU,qW])
instance aT3 (x0:Int):bp (Bx x0):=by
 unfold Bx Pw;exact aJ (by simp only[bU,qW])
instance a0c (x0:Int)(x1:Int)(x2:Int)(x3:Int)(x4:Int)(x5:Int)(x6:Int)(x7:Int)(x8:Int)(x9:Bool):bp (CR x0 x1 x2 x3 x4 x5 x6 x7 x8 x9):=by
 unfold CR ahO;exact aJ (by simp only[bU,qW])
instance aT4 (x0:Nat->Int)(x1:Bool):bp (By x0 x1):=by
 unfold By Py;exact aJ (by simp only[bU,qW])
instance a0d (x0:Nat->Int)(x1:Int)(x2:Int)(x3:Int)(x4:Int)(x5:Int)(x6:Bool):bp (CS x0 x1 x2 x3 x4 x5 x6):=by
 unfold CS VG;try dsimp only
 exact aJ (by simp only[bU,qW])
instance a0e (x0:Int):bp (uK x0):=by
 unfold uK VH;exact aJ (by simp only[bU,qW])
instance aOp (x0:Int)(x1:Int)(x2:Int)(x3:Bool):bp (sK x0 x1 x2 x3):=by
 unfold sK Ge;exact aJ (by simp only[bU,qW])
instance aOq (x0:Int)(x1:Int)(x2:Bool):bp (sL x0 x1 x2):=by
 unfold sL Gf;exact aJ (by simp only[bU,qW])
instance aMq (x0:Int)(x1:Int)(x2:Int)(x3:Int)(x4:Bool):bp (qJ x0 x1 x2 x3 x4):=by
 unfold qJ Ey;exact aJ (by simp only[bU,qW])
instance aJg (x0:Int)(x1:Int)(x2:Int)(x3:Bool)(x4:Int)(x5:Int)(x6:Int):bp (jd x0 x1 x2 x3 x4 x5 x6):=by
 unfold jd BA;exact aJ (by simp only[bU,qW])
instance aMr (x0:Nat->Int)(x1:Nat->Int)(x2:Nat->Bool)(x3:Nat->Int)(x4:Nat->Int)(x5:Nat->Int)(x6:Int):bp (qK x0 x1 x2 x3 x4 x5 x6):=by
 unfold qK Ez;exact aJ (by simp only[bU,qW])
instance aGl (x0:Bool)(x1:Int)(x2:Int)(x3:Bool)(x4:Int)(x5:Int)(x6:Nat->Int)(x7:Nat->Int)(x8:Nat->Bool)(x9:Nat->Int)(fU:Nat->Int)(fV:Nat->Int)(Et:Int):bp (lK x0 x1 x2 x3 x4 x5 x6 x7 x8 x9 fU fV Et):=by
 unfold lK wX;exact aJ (by simp only[bU,qW])
end Go.Proofs.YtldgljclcgaibaaGreat
