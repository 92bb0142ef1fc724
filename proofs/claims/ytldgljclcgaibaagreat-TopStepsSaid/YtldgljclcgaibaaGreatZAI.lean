/-
  Parts of the proof: Q3 TF TG TH
-/
import Derived.Test.YtldgljclcgaibaaGreatZAE
import Derived.Test.YtldgljclcgaibaaGreatZAG
import Derived.Test.YtldgljclcgaibaaGreatZAH
open Nat renaming beq→z9,ble→wr
open Int renaming toNat→z4,ofNat→ws
open Sum renaming inl→w7,inr→ww
set_option linter.unusedVariables false
set_option linter.unusedSimpArgs false
set_option maxRecDepth 100000
set_option maxHeartbeats 4000000
noncomputable section
namespace Go.Proofs.YtldgljclcgaibaaGreat
open Go.Ab Go.Ab.Pg Go.Ab.Rq
def F9:=qa (dp (cu aQ (c lk (c Cz (cl aJV nil)))) λa=>(c xY (cl (cl (gs a.b.1 aKB) nil) nil)))
def aLG:=qe (res (pr (sf (c afJ (c akH (cl (rc (fO (pu rq4 (pu wO (pl gT (pu rq7 fR)))))) nil)))) (pr Oh (cl aQG nil))))
abbrev aaM:=((NI×(NI×NI)×Nat)×Bool×(Nat->Bool)×NI×NI)
def aAS:aaM->T:=λd=>lf aLG (d.1,d.2.1,d.1.b,d.b)
abbrev aAT:=F9.B->Option aaM
def aAU (g:aAT):Ct:=(254,vX 3 [.i .i64,.i .i64,.i .i64,.i .i64,.i .i64,.i .i64,.i .i64,.i .i64,.i .i64,.i .i64,.i .i64,.i .i64,.i .i64,.i .i64,.i .i64,.i .i64,.i .i64,.i .i64,.i .i64,.i .i64,.i .i64,.i .i64,.i .i64,.i .i64,.i .i64,.i .i64,.i .i64] (FC F9 aAS g))
def nS:=qs (st (dp (cu aQ (us 4 (cu AT (cu aIz (us 1 (cu apZ (cu (app 5 300) (us 1 (c aXZ (us 3 (c aJV aQp))))))))))) λa=>(pl (c bD (c (so (cl (gs a.2.1.1 aKB) nil)) (c lN (c gO (c lN (c gO (cl (so (cl (gs a.1 asu) nil)) nil))))))) bK)))
def aHU:=qs (st (pr (cu aQ (us 4 (cu AT (cu aIz (us 1 (cu apZ (cu (app 5 300) (us 1 (c aXZ (us 3 (c aJV aQu))))))))))) (pl (c bD (c (so (cl (ga (pr gT aKB)) nil)) (c lN (c gO (c lN (c gO aXT)))))) bK)))
abbrev Er:=((Nat×(Nat×Bool)×Int×Int×Bool)×Bool×(NI×NI×NI×NI×NI×NI×NI×NI×NI×NI×NI×NI×NI×NI×NI×NI×NI×NI×NI×NI×NI×NI×NI×NI×NI×NI×NI)×NI×(NI×NI)×NI×(NI×NI)×(Nat->Bool)×NI×NI)
def ard {ρ:Type}(x:Er)(K:AX->St->Option ρ):Option ρ:=(λd=>K (.ex 0) (aHU.em (d.1,d.2.1,(d.1.2.1.1,d.b.1),d.b.2.1,d.c.1,d.c.2.1,d.c.b.1,d.1.1,d.c.b.2))) x
def QK (aOI:amS)(d:nS.B):PL nS Er:=let bk:=d.1.1;let n5:=d.1.2.2;let n4:=d.2.2;let n7:=n4.2.2;let n3:=n4.1.2.2.2.2;let n8:=n3.2.2.2;let n1:=n8.2.2.2.2;let n9:=n1.2.2.2;let n2:=n9.2.2.2.2;let n6:=n2.2.2.2.2;let y0:=z4 n5.2;let y1:=bk+1;let y2:=decide (n5.2<n5.1);ae y2 (ae (aZ n5.2 d.1.2.1.1) (opt (aOI n4.2.1 n7.1.1 n7.1.2 (cr (n4.1.1 y0) [n6.2.1 y0,n6.1 y0,n2.2.2.2.1 y0,n2.2.2.1 y0,n2.2.1 y0,n2.1 y0,n9.2.2.2.1 y0,n9.2.2.1 y0,n9.2.1 y0,n9.1 y0,n1.2.2.1 y0,n1.2.1 y0,n1.1 y0,n8.2.2.2.1 y0,n8.2.2.1 y0,n8.2.1 y0,n8.1 y0,n3.2.2.1 y0,n3.2.1 y0,n3.1 y0,n4.1.2.2.2.1 y0,n4.1.2.2.1 y0,n4.1.2.1 y0,n4.1.1 y0]) (n6.2.2.1 y0) (n6.2.2.2.1 y0) (n6.2.2.2.2 y0) d.2.1) λak=>ae (wr (y1*24) 140737488355328) (ret (w7 ((y1,d.1.2.1,n5.1,wI (n5.2+1)),ak.2,n4.1,ak.1.1,ak.1.2.1,n7.2.1,n7.2.2.1,λj=>bif z9 j bk then ak.1.2.2.1 else n7.2.2.2.1 j,λj=>bif z9 j bk then ak.1.2.2.2.1 else n7.2.2.2.2.1 j,λj=>bif z9 j bk then ak.1.2.2.2.2 else n7.2.2.2.2.2 j))) no) no) (ret (ww ((bk,d.1.2.1,n5.1,n5.2,y2),d.2)))
def IQ:=bG (QK Cg) 2000
def aaN (dX:LT nS Er)(x:F9.B):Pg aaM:=ae (z9 x.1.2.2.1 x.1.2.2.1) (ae true (opt (dX ((0,x.1.2.2,ws x.1.2.2.1,0),x.2.1,x.2.2,x.1.1,x.1.2.1,λx=>0,(λx=>0,λx=>0),λx=>false,λx=>0,λx=>0)) λd=>ret ((d.2.2.2.1,d.2.2.2.2.1,d.1.1),d.2.1,d.2.2.2.2.2.2.2)) no) no
def Ci:=λx=>(aaN IQ x).val
abbrev aaO:=amS×(LT nS Er)
def amZ (p:aaO):KK:=⟨[aAQ p.1],⟨[⟨3,(rg 1 4 (7::10::12::13::14::rg 18 20 [])),[(11,[.b,.i .i64,.i .i64])]⟩],[fU 3 2 nS ard p.2],[0],[],(some ⟨0,(rg 0 8 (rg 11 27 [])),[]⟩)⟩,2,254⟩
theorem aGm (p:aaO):LI (amZ p) 3 nS ard (QK p.1):=λ_ d c K=>by kernel_rfl
theorem aOJ (p:aaO):D2 (amZ p) F9 aAS λb=>aaN p.2 b:=λb=>by kernel_rfl
abbrev am0:aaO:=(Cg,IQ)
theorem aOK [aA]:SC (aAU Ci):=sc (Sound.nil 3 [.i .i64,.i .i64,.i .i64,.i .i64,.i .i64,.i .i64,.i .i64,.i .i64,.i .i64,.i .i64,.i .i64,.i .i64,.i .i64,.i .i64,.i .i64,.i .i64,.i .i64,.i .i64,.i .i64,.i .i64,.i .i64,.i .i64,.i .i64,.i .i64,.i .i64,.i .i64,.i .i64]<|kS (k:=amZ am0) (.c aOC (.nil _)) [3] [] ⟨kL (aGm am0),trivial⟩ trivial (aOJ am0))
def are:=qa (dp (cl aP5 nil) λa=>(cl (cl (gs a.1 asu) nil) nil))
def XW:=qe aXQ
abbrev arf:=XW.B
abbrev acQ:=Nat->(Nat->Bool)->NI->NI->Bool->Option arf
def acR (g:acQ):Ct:=(255,vX 0 [.b,.i .i64,.i .i64] (FC are (lf XW) (λb=>g b.1.1 b.2.1 b.b.1 b.b.2 b.1.2)))
def pn:=qs (st (dp (us 2 (c ai (c ai (us 2 (c aP5 (c ai aW4)))))) λa=>(pl (cl (so (cl (gs a.b.1.1 asu) nil)) nil) nil)))
def aCG:=qs (st (pr (us 2 (c ai (c ai (us 2 (c aP5 (c ai aXi)))))) (pl aXT nil)))
abbrev DW:=((Int×Int×(Nat×Bool)×Int×Int×Bool)×(Nat->Bool)×NI×NI)
def ai4 {ρ:Type}(x:DW)(K:AX->St->Option ρ):Option ρ:=(λd=>K (.ex 0) (aCG.em (d.1,d.1.b.1.1,d.2))) x
def TI (d:pn.B):PL pn DW:=let n1:=d.1.2.2;let n2:=n1.2.2;let y0:=decide (n2<n1.2.1);ae y0 (ae (aZ n2 n1.1.1) (ae (d.2.1 (z4 n2)) (ret (w7 ((wI (d.1.1+1),d.1.2.1,n1.1,n1.2.1,wI (n2+1)),d.2))) (ret (w7 ((d.1.1,wI (d.1.2.1+1),n1.1,n1.2.1,wI (n2+1)),d.2)))) no) (ret (ww ((d.1.1,d.1.2.1,n1.1,n1.2.1,n2,y0),d.2)))
def TJ:=bG (TI) 2000
def acS (dX:LT pn DW)(x0:Nat)(x1:Nat->Bool)(x2:Nat->Int)(x3:Nat->Int)(w0:Bool):Pg arf:=ae (z9 x0 x0) (opt (dX ((0,0,(x0,w0),ws x0,0),x1,x2,x3)) λd=>ret (d.1.1,d.1.2.1)) no
def Aw:=λx0 x1 x2 x3 w0=>(acS TJ x0 x1 x2 x3 w0).val
abbrev QL:=(LT pn DW)
def acT (p:QL):KK:=⟨[],⟨[⟨2,(0::1::4::5::rg 9 12 []),[]⟩],[fU 2 1 pn ai4 p],[],[],(some ⟨0,(0::1::rg 4 17 []),[]⟩)⟩,1,255⟩
theorem ayI (p:QL):LI (acT p) 2 pn ai4 (TI):=λ_ d c K=>by kernel_rfl
theorem aHV (p:QL):D2 (acT p) are (lf XW) λb=>acS p b.1.1 b.2.1 b.b.1 b.b.2 b.1.2:=λb=>by kernel_rfl
abbrev acU:QL:=TJ
theorem arh [aA]:SC (acR Aw):=sc (Sound.nil 0 [.b,.i .i64,.i .i64]<|kS (k:=acT acU) (.nil _) [2] [] ⟨kL (ayI acU),trivial⟩ trivial (aHV acU))
def aex:=qa (pu nil nil)
def MX:=qe (res (pu (aa (cu asr (cu aP aKC))) (pu nil nil)))
abbrev O8:=MX.B
abbrev mU:=Option O8
def rO (g:mU):Ct:=(48,FC aex (lf MX) (λ_=>g))
def O9 (iT:Cf):Pg O8:=opt iT λd=>ret ()
def eT:Option O8:=(O9 o8).val
theorem ayJ:∀iT,D0 [K8 iT] 48 aex (lf MX) λb=>O9 iT:=λ_ b=>by kernel_rfl
theorem wH [aA]:SC (rO eT):=s0 (.c Rr (.nil _)) (ayJ o8)
def ari:=qa (dp (cu aQ (cl aP6 nil)) λa=>(c xY (cl (cl (gs a.1 mN) nil) nil)))
def XX:=qe (res (pr (aa aQO) (pl Oh nil)))
abbrev arj:=XX.B
abbrev acV:=Nat->Bool->NI->NI->NI->NI->NI->NI->NI->NI->NI->NI->Bool->Option arj
def ark (g:acV):Ct:=(113,vX 1 [.i .i64,.i .i64,.i .i64,.i .i64,.i .i64,.i .i64,.i .i64,.i .i64,.i .i64,.i .i64] (FC ari (lf XX) (λb=>g b.1.1 b.2.1 b.b.1 b.b.2.1 b.c.1 b.c.2.1 b.c.b.1 b.c.b.2.1 b.d.1 b.d.2.1 b.d.b.1 b.d.b.2 b.1.2)))
def kP:=qs (st (dp (cu aQ (us 3 (cu (app 2 10) (cu (app 3 10) (c aX0 (c aX1 (us 3 (c aP6 (c ai aW5))))))))) λa=>(pl (c bD (c (so (cl (gs a.b.1.1 mN) nil)) (cu aYM (c aYD (c (so (cl (gs a.1 ast) nil)) (cl aD6 nil)))))) bK)))
def aCH:=qs (st (pr (cu aQ (us 3 (cu (app 2 10) (cu (app 3 10) (c aX0 (c aX1 (us 3 (c aP6 (c ai aXj))))))))) (pl (c bD (c vd (cu aYM (c aYD (c aD6 (cl aD6 nil)))))) bK)))
abbrev yR:=((Nat×Nat×(Nat×Bool)×Int×Int×Bool)×Bool×aMW×aIv×(NI×NI×NI)×Nat×NI×NI×NI)
def ai5 {ρ:Type}(x:yR)(K:AX->St->Option ρ):Option ρ:=(λd=>K (.ex 0) (aCH.em (d.1,d.2.1,(d.1.b.1.1,d.b.1),d.b.2.1,(d.1.1,d.c.1),d.c.2))) x
def JN (fw:zu)(bE:ja)(d:kP.B):PL kP yR:=let n6:=d.1.1;let n2:=d.1.2;let n4:=n2.2.2;let n1:=d.2.2;let n5:=n1.2.2;let n3:=n1.1.2.2.2.2;let y0:=n6+1;let y1:=z4 n4.2;let y2:=n2.1+1;let y3:=decide (n4.2<n4.1);ae y3 (ae (aZ n4.2 n2.2.1.1) (opt (fw (n1.1.1 y1) (n1.1.2.1 y1) (n1.1.2.2.1 y1) (n1.1.2.2.2.1 y1) n1.2.1.1 n1.2.1.2.1 n1.2.1.2.2.1 n1.2.1.2.2.2 d.2.1) λak=>opt (bE ak.1.1 ak.1.2.1 ak.1.2.2.1 ak.1.2.2.2 ak.2) λaJ=>ae (wr (y0*24) 140737488355328) (ae (wr (y2*24) 140737488355328) (ret (w7 ((y0,y2,n2.2.1,n4.1,wI (n4.2+1)),aJ.2,n1.1,aJ.1,(λj=>bif z9 j n6 then n3.1 y1 else n5.1.1 j,λj=>bif z9 j n6 then n3.2.1 y1 else n5.1.2.1 j,λj=>bif z9 j n6 then n3.2.2.1 y1 else n5.1.2.2 j),y2,λj=>bif z9 j n2.1 then n3.2.2.2.1 y1 else n5.2.2.1 j,λj=>bif z9 j n2.1 then n3.2.2.2.2.1 y1 else n5.2.2.2.1 j,λj=>bif z9 j n2.1 then n3.2.2.2.2.2 y1 else n5.2.2.2.2 j))) no) no) no) (ret (ww ((n6,n2.1,n2.2.1,n4.1,n4.2,y3),d.2)))
def DX:=bG (JN kV cQ) 2000
def QM (cA:mU)(ec:CR)(dX:LT kP yR)(x0:Nat)(x1:Bool)(x2:Nat->Int)(x3:Nat->Int)(x4:Nat->Int)(x5:Nat->Int)(x6:Nat->Int)(x7:Nat->Int)(x8:Nat->Int)(x9:Nat->Int)(gw:Nat->Int)(gx:Nat->Int)(w0:Bool):Pg arj:=opt cA λd=>ae (z9 x0 x0) (ae true (opt (dX ((0,0,(x0,w0),ws x0,0),x1,(x2,x3,x4,x5,x6,x7,x8,x9,gw,gx),(1073741824,0,0,0),(λx=>0,λx=>0,λx=>0),0,λx=>0,λx=>0,λx=>0)) λd=>let n1:=d.2.2.2;ae (z9 d.1.1 d.1.1) (opt (ec d.1.1 d.2.1 n1.2.1.1 n1.2.1.2.1 n1.2.1.2.2 true) λak=>ae (z9 d.1.2.1 d.1.2.1) (opt (ec d.1.2.1 ak.2 n1.2.2.2.1 n1.2.2.2.2.1 n1.2.2.2.2.2 true) λaJ=>ret ((n1.1.1,n1.1.2.1,n1.1.2.2.1,n1.1.2.2.2,ak.1.1,ak.1.2.1,ak.1.2.2,aJ.1),aJ.2)) no) no) no) no
def wc:=λx0 x1 x2 x3 x4 x5 x6 x7 x8 x9 gw gx w0=>(QM eT kc DX x0 x1 x2 x3 x4 x5 x6 x7 x8 x9 gw gx w0).val
abbrev QN:=mU×zu×ja×CR×(LT kP yR)
def acW (p:QN):KK:=⟨[rO p.1,FZ p.2.1,oq p.b.1,Kn p.b.2.1],⟨[⟨4,(1::2::3::8::9::10::rg 14 32 []),[(6,[.i .i64,.i .i64,.i .i64]),(7,[.i .i64,.i .i64,.i .i64])]⟩],[fU 4 2 kP ai5 p.c],[0],[],(some ⟨0,(rg 0 4 (rg 5 41 [])),[]⟩)⟩,2,113⟩
theorem ayK (p:QN):LI (acW p) 4 kP ai5 (JN p.2.1 p.b.1):=λ_ d c K=>by kernel_rfl
theorem aHW (p:QN):D2 (acW p) ari (lf XX) λb=>QM p.1 p.b.2.1 p.c b.1.1 b.2.1 b.b.1 b.b.2.1 b.c.1 b.c.2.1 b.c.b.1 b.c.b.2.1 b.d.1 b.d.2.1 b.d.b.1 b.d.b.2 b.1.2:=λb=>by kernel_rfl
abbrev acX:QN:=(eT,kV,cQ,kc,DX)
theorem aHX [aA]:SC (ark wc):=sc (Sound.nil 1 [.i .i64,.i .i64,.i .i64,.i .i64,.i .i64,.i .i64,.i .i64,.i .i64,.i .i64,.i .i64]<|kS (k:=acW acX) (.c wH (.c La (.c qf (.c OV (.nil _))))) [4] [] ⟨kL (ayK acX),trivial⟩ trivial (aHW acX))
def av8:=qa (pr (cu aQ (c lk aKn)) bL)
def acY:=qe (res (pr (sf (c afJ (c akH (cl (ra (c gi (c gi (c gi (cl gi (cu aP (cu aP (cu aP (cu aP (cu aP (cu aP (cu (gc axl) nil)))))))))))) nil)))) (pl m4 nil)))
abbrev av9:=acY.B
abbrev awa:=NI->NI->NI->Int->Int->Bool->Option av9
def awb (g:awa):Ct:=(221,FC av8 (lf acY) (λb=>g b.1.1 b.1.2.1.1 b.1.2.1.2 b.1.b.1 b.1.b.2 b.2))
def VG (aR:fM)(cA:mU)(MY:amq)(bg:dP)(fw:zu)(bE:ja)(cV:Au)(ck:jw)(x0:Nat->Int)(x1:Nat->Int)(x2:Nat->Int)(x3:Int)(x4:Int)(x5:Bool):Pg av9:=opt (aR x0 x5) λd=>opt cA λak=>opt (MY x3 d.2) λaJ=>opt (bg d.1) λbB=>opt (fw aJ.1.1 aJ.1.2.1 aJ.1.2.2.1 aJ.1.2.2.2 bB.1 bB.2.1 bB.2.2.1 bB.2.2.2 aJ.2) λcK=>opt (bE cK.1.1 cK.1.2.1 cK.1.2.2.1 cK.1.2.2.2 cK.2) λeU=>opt (cV d.1 0 4 (cr eU.1.1 [eU.1.2.2.2,eU.1.2.2.1,eU.1.2.1,eU.1.1]) false) λd=>opt (aR d eU.2) λd=>opt (ck x1 x2 0 4 d.2 (cr x4 [x4,x4,x4,x4]) true) λde=>ret ((d.1,de.1,aJ.1),de.2)
def zH:=λx0 x1 x2 x3 x4 x5=>(VG bW eT Bz cj kV cQ fk cJ x0 x1 x2 x3 x4 x5).val
theorem aLH:∀aR cA MY bg fw bE cV ck,D0 [jG aR,rO cA,amr MY,jb bg,FZ fw,oq bE,Em cV,BD ck] 221 av8 (lf acY) λb=>VG aR cA MY bg fw bE cV ck b.1.1 b.1.2.1.1 b.1.2.1.2 b.1.b.1 b.1.b.2 b.2:=λ_ _ _ _ _ _ _ _ b=>by kernel_rfl
theorem aLI [aA]:SC (awb zH):=s0 (.c kO (.c wH (.c aF0 (.c kd (.c La (.c qf (.c IM (.c F3 (.nil _))))))))) (aLH bW eT Bz cj kV cQ fk cJ)
def am3:=qa (dp (cu aQ (c lk aQq)) λa=>(c xY (cl (cl (gs a.b.1 oC) nil) nil)))
def aCI:=qe (res (pr (sf (c afJ (cl (rc (fO (pu rq4 (pu wO (pl gT (pu DG fR)))))) nil))) (pr Oh (cl aKc nil))))
abbrev MZ:=((NI×Nat)×Bool×NI)
def am4:MZ->T:=λd=>lf aCI (d.1,d.2.1,d.1.2,d.b)
abbrev M0:=NI->Int->Nat->Bool->NI->Bool->Option MZ
def M1 (g:M0):Ct:=(263,vX 3 [.i .i64] (FC am3 am4 (λb=>g b.1.1 b.1.2.1 b.1.b.1 b.2.1 b.b b.1.b.2)))
def ly:=qs (st (dp (cu aQ (us 1 (c ai (us 2 (cu AT (us 2 (cu ZH (us 1 (cu apZ (c aX2 (us 3 (c Ix (c ai (cl ai (us 39 nil))))))))))))))) λa=>(pl (c bD (c (so (cl (gs a.b.1.1 oC) nil)) (c lN (c lN (c lN (cl (so (cl (gs a.2.1 oC) nil)) nil)))))) bK)))
def ayL:=qs (st (pr (cu aQ (us 1 (c ai (us 2 (cu AT (us 2 (cu ZH (us 1 (cu apZ (c aX2 (us 3 (c Ix (c ai (c ai aW6)))))))))))))) (pl (c bD (c HS (c lN (c lN (c lN abC))))) bK)))
abbrev BH:=((Int×Nat×(Nat×Bool)×Int×Int×Bool)×Bool×NI×NI×NI×uu×NI)
def aey {ρ:Type}(x:BH)(K:AX->St->Option ρ):Option ρ:=(λd=>K (.ex 0) (ayL.em (d.1,d.2.1,(d.1.b.1.1,d.b.1),d.b.2.1,d.c.1,d.c.2.1,d.1.2.1,d.c.b))) x
def O' (aF:cx)(aY:dg)(d:ly.B):PL ly BH:=let n2:=d.2.2.2;let n1:=d.1.2.2;let n3:=n1.2.2;let y0:=d.1.2.1+1;let y1:=wI (d.1.1+n3);let y2:=z4 y1;let y3:=aZ y1 24;let y4:=decide (n3<n1.2.1);ae y4 (ae (aZ n3 n1.1.1) (ae y3 (ae y3 (opt (aF (d.2.2.1 (z4 n3)) (wI (0-n2.2.2.1 y2)) (n2.2.2.1 y2) d.2.1) λak=>ae y3 (opt (aY ak.1 (n2.1 y2) ak.2) λaJ=>ae (wr (y0*8) 140737488355328) (ae y3 (ae (true&&wr (0+y2*1+1) 24) (ret (w7 ((d.1.1,y0,n1.1,n1.2.1,wI (n3+1)),aJ.2,d.2.2.1,λj=>bif z9 j y2 then ak.1 else n2.1 j,n2.2.1,n2.2.2.1,λj=>bif z9 j d.1.2.1 then aJ.1 else n2.2.2.2 j))) no) no) no) no) no) no) no) (ret (ww ((d.1.1,d.1.2.1,n1.1,n1.2.1,n3,y4),d.2)))
def Hf:=bG (O' aT bS) 2000
def M3 (DT:uv)(aR:fM)(dX:LT ly BH)(x0:Nat->Int)(x1:Int)(x2:Nat)(x3:Bool)(x4:Nat->Int)(w0:Bool):Pg MZ:=opt DT λd=>ae (z9 x2 x2) (ae true (opt (dX ((x1,0,(x2,w0),ws x2,0),x3,x4,x0,λx=>0,d,λx=>0)) λd=>opt (aR d.2.2.2.1 d.2.1) λak=>ret ((ak.1,d.1.2.1),ak.2,d.2.2.2.2.2.2)) no) no
def gA:=λx0 x1 x2 x3 x4 w0=>(M3 kE bW Hf x0 x1 x2 x3 x4 w0).val
abbrev M4:=uv×cx×dg×fM×(LT ly BH)
def XY (p:M4):KK:=⟨[JG p.1,eF p.2.1,iy p.b.1,jG p.b.2.1],⟨[⟨4,(1::3::4::6::7::9::12::13::14::rg 18 39 []),[(11,[.i .i64])]⟩],[fU 4 2 ly aey p.c],[0],[],(some ⟨0,(rg 0 8 (rg 10 47 [])),[]⟩)⟩,2,263⟩
theorem awc (p:M4):LI (XY p) 4 ly aey (O' p.2.1 p.b.1):=λ_ d c K=>by kernel_rfl
theorem aGn (p:M4):D2 (XY p) am3 am4 λb=>M3 p.1 p.b.2.1 p.c b.1.1 b.1.2.1 b.1.b.1 b.2.1 b.b b.1.b.2:=λb=>by kernel_rfl
abbrev XZ:M4:=(kE,aT,bS,bW,Hf)
theorem X0 [aA]:SC (M1 gA):=sc (Sound.nil 3 [.i .i64]<|kS (k:=XY XZ) (.c Ty (.c eV (.c jD (.c kO (.nil _))))) [4] [] ⟨kL (awc XZ),trivial⟩ trivial (aGn XZ))
def am5:=qa (pr (cu (app 0 2) Cw) (cd (c (gc (A4 1 1)) (cl (gc (A4 2 1)) nil)) λb0=>(c (cl (gs b0.1 oC) nil) (cl (cl (gs b0.2 oC) nil) nil))))
def aCJ:=qe (res (pu Q8 (pr (cl (An (c (gc (A4 3 1)) (cl (gc (A4 4 1)) nil))) (cu Vb aM4)) (c aKc (cl aKc nil)))))
abbrev X1:=((Nat×Nat)×NI×NI)
def am6:X1->T:=λd=>lf aCJ (d.1,(d.1.1,d.2.1),d.1.2,d.b)
abbrev X2:=Int->Int->Nat->Nat->NI->NI->Option X1
def am7 (g:X2):Ct:=(247,FC am5 am6 (λb=>g b.1.1 b.1.2 b.2.1.1 b.2.1.2 b.b.1 b.b.2))
def X3 (x0:Int)(x1:Int)(x2:Nat)(x3:Nat)(x4:Nat->Int)(x5:Nat->Int):Pg X1:=let y0:=x2+2;let y1:=x3+2;ae (wr (y0*8) 140737488355328) (ae (wr (y1*8) 140737488355328) (ret ((y0,y1),λj=>bif z9 j (x2+1) then x0 else bif z9 j x2 then x0 else x4 j,λj=>bif z9 j (x3+1) then x1 else bif z9 j x3 then x1 else x5 j)) no) no
def nT:=λx0 x1 x2 x3 x4 x5=>(X3 x0 x1 x2 x3 x4 x5).val
theorem aGo:D0 [] 247 am5 am6 λb=>X3 b.1.1 b.1.2 b.2.1.1 b.2.1.2 b.b.1 b.b.2:=λb=>by kernel_rfl
theorem aGp [aA]:SC (am7 nT):=s0 (.nil _) aGo
def arl:=qa (pr (cu aQ (c afL HR)) bL)
def X4:=qe (res (pr (aa aQS) (pl m4 nil)))
abbrev arn:=X4.B
abbrev IT:=Int->Int->Int->Int->Int->Int->Int->Bool->Option arn
def acZ (g:IT):Ct:=(218,FC arl (lf X4) (λb=>g b.1.1.1 b.1.1.2.1 b.1.1.b.1 b.1.1.b.2 b.1.2.1 b.1.b.1 b.1.b.2 b.2))
def ac0 (ay:bV)(F1:OR)(bl:X2)(bj:dY)(x0:Int)(x1:Int)(x2:Int)(x3:Int)(x4:Int)(x5:Int)(x6:Int)(x7:Bool):Pg arn:=opt (ay x0 x7) λd=>let y0:=wI (0-d.1);opt (ay x1 d.2) λak=>let uM:=wI (0-ak.1);opt (ay x2 ak.2) λaJ=>let aqH:=wI (0-aJ.1);opt (ay x3 aJ.2) λbB=>let aaf:=wI (0-bB.1);opt (F1 x4 x5 x6 bB.2) λcK=>let n2:=cK.1.1;let n1:=cK.1.2;opt (bl d.1 n2 0 0 (λx=>0) λx=>0) λeU=>ae (z9 eU.1.1 eU.1.1) (ae (z9 eU.1.2 eU.1.2) (opt (bl aJ.1 n1.2 eU.1.1 eU.1.2 eU.2.1 eU.2.2) λde=>ae (z9 de.1.1 de.1.1) (ae (z9 de.1.2 de.1.2) (opt (bl aaf n1.1 de.1.1 de.1.2 de.2.1 de.2.2) λlG=>ae (z9 lG.1.1 lG.1.1) (ae (z9 lG.1.2 lG.1.2) (opt (bj 30 lG.1.1 lG.1.2 cK.2 lG.2.1 lG.2.2 true true) λtP=>opt (bl uM n2 0 0 (λx=>0) λx=>0) λp8=>ae (z9 p8.1.1 p8.1.1) (ae (z9 p8.1.2 p8.1.2) (opt (bl ak.1 n2 p8.1.1 p8.1.2 p8.2.1 p8.2.2) λmM=>ae (z9 mM.1.1 mM.1.1) (ae (z9 mM.1.2 mM.1.2) (opt (bl ak.1 n2 mM.1.1 mM.1.2 mM.2.1 mM.2.2) λxZ=>ae (z9 xZ.1.1 xZ.1.1) (ae (z9 xZ.1.2 xZ.1.2) (opt (bl aJ.1 n1.1 xZ.1.1 xZ.1.2 xZ.2.1 xZ.2.2) λLc=>ae (z9 Lc.1.1 Lc.1.1) (ae (z9 Lc.1.2 Lc.1.2) (opt (bl bB.1 n1.2 Lc.1.1 Lc.1.2 Lc.2.1 Lc.2.2) λMK=>ae (z9 MK.1.1 MK.1.1) (ae (z9 MK.1.2 MK.1.2) (opt (bj 30 MK.1.1 MK.1.2 tP.2 MK.2.1 MK.2.2 true true) λaGq=>opt (bl aqH n2 0 0 (λx=>0) λx=>0) λaaP=>ae (z9 aaP.1.1 aaP.1.1) (ae (z9 aaP.1.2 aaP.1.2) (opt (bl ak.1 n1.1 aaP.1.1 aaP.1.2 aaP.2.1 aaP.2.2) λaez=>ae (z9 aez.1.1 aez.1.1) (ae (z9 aez.1.2 aez.1.2) (opt (bl d.1 n1.2 aez.1.1 aez.1.2 aez.2.1 aez.2.2) λaaQ=>ae (z9 aaQ.1.1 aaQ.1.1) (ae (z9 aaQ.1.2 aaQ.1.2) (opt (bj 30 aaQ.1.1 aaQ.1.2 aGq.2 aaQ.2.1 aaQ.2.2 true true) λaGr=>opt (bl aaf n2 0 0 (λx=>0) λx=>0) λam8=>ae (z9 am8.1.1 am8.1.1) (ae (z9 am8.1.2 am8.1.2) (opt (bl ak.1 n1.2 am8.1.1 am8.1.2 am8.2.1 am8.2.2) λaro=>ae (z9 aro.1.1 aro.1.1) (ae (z9 aro.1.2 aro.1.2) (opt (bl y0 n1.1 aro.1.1 aro.1.2 aro.2.1 aro.2.2) λam9=>ae (z9 am9.1.1 am9.1.1) (ae (z9 am9.1.2 am9.1.2) (opt (bj 30 am9.1.1 am9.1.2 aGr.2 am9.2.1 am9.2.2 true true) λa3S=>opt (bl d.1 n1.1 0 0 (λx=>0) λx=>0) λaAV=>ae (z9 aAV.1.1 aAV.1.1) (ae (z9 aAV.1.2 aAV.1.2) (opt (bl bB.1 n2 aAV.1.1 aAV.1.2 aAV.2.1 aAV.2.2) λaAW=>ae (z9 aAW.1.1 aAW.1.1) (ae (z9 aAW.1.2 aAW.1.2) (opt (bl uM n1.2 aAW.1.1 aAW.1.2 aAW.2.1 aAW.2.2) λaAX=>ae (z9 aAX.1.1 aAX.1.1) (ae (z9 aAX.1.2 aAX.1.2) (opt (bj 30 aAX.1.1 aAX.1.2 a3S.2 aAX.2.1 aAX.2.2 true true) λa3T=>opt (bl uM n1.1 0 0 (λx=>0) λx=>0) λaAY=>ae (z9 aAY.1.1 aAY.1.1) (ae (z9 aAY.1.2 aAY.1.2) (opt (bl aJ.1 n2 aAY.1.1 aAY.1.2 aAY.2.1 aAY.2.2) λaAZ=>ae (z9 aAZ.1.1 aAZ.1.1) (ae (z9 aAZ.1.2 aAZ.1.2) (opt (bl y0 n1.2 aAZ.1.1 aAZ.1.2 aAZ.2.1 aAZ.2.2) λaA0=>ae (z9 aA0.1.1 aA0.1.1) (ae (z9 aA0.1.2 aA0.1.2) (opt (bj 30 aA0.1.1 aA0.1.2 a3T.2 aA0.2.1 aA0.2.2 true true) λa3U=>opt (bl aqH n1.1 0 0 (λx=>0) λx=>0) λaA1=>ae (z9 aA1.1.1 aA1.1.1) (ae (z9 aA1.1.2 aA1.1.2) (opt (bl aJ.1 n1.1 aA1.1.1 aA1.1.2 aA1.2.1 aA1.2.2) λaA2=>ae (z9 aA2.1.1 aA2.1.1) (ae (z9 aA2.1.2 aA2.1.2) (opt (bl ak.1 n2 aA2.1.1 aA2.1.2 aA2.2.1 aA2.2.2) λaA3=>ae (z9 aA3.1.1 aA3.1.1) (ae (z9 aA3.1.2 aA3.1.2) (opt (bl aJ.1 n1.1 aA3.1.1 aA3.1.2 aA3.2.1 aA3.2.2) λaA4=>ae (z9 aA4.1.1 aA4.1.1) (ae (z9 aA4.1.2 aA4.1.2) (opt (bl bB.1 n1.2 aA4.1.1 aA4.1.2 aA4.2.1 aA4.2.2) λaA5=>ae (z9 aA5.1.1 aA5.1.1) (ae (z9 aA5.1.2 aA5.1.2) (opt (bj 30 aA5.1.1 aA5.1.2 a3U.2 aA5.2.1 aA5.2.2 true true) λa3V=>opt (bl aaf n1.1 0 0 (λx=>0) λx=>0) λaA6=>ae (z9 aA6.1.1 aA6.1.1) (ae (z9 aA6.1.2 aA6.1.2) (opt (bl aJ.1 n1.2 aA6.1.1 aA6.1.2 aA6.2.1 aA6.2.2) λaA7=>ae (z9 aA7.1.1 aA7.1.1) (ae (z9 aA7.1.2 aA7.1.2) (opt (bl d.1 n2 aA7.1.1 aA7.1.2 aA7.2.1 aA7.2.2) λaA8=>ae (z9 aA8.1.1 aA8.1.1) (ae (z9 aA8.1.2 aA8.1.2) (opt (bj 30 aA8.1.1 aA8.1.2 a3V.2 aA8.2.1 aA8.2.2 true true) λa3W=>opt (bl d.1 n1.2 0 0 (λx=>0) λx=>0) λaA9=>ae (z9 aA9.1.1 aA9.1.1) (ae (z9 aA9.1.2 aA9.1.2) (opt (bl ak.1 n1.1 aA9.1.1 aA9.1.2 aA9.2.1 aA9.2.2) λaBa=>ae (z9 aBa.1.1 aBa.1.1) (ae (z9 aBa.1.2 aBa.1.2) (opt (bl aqH n2 aBa.1.1 aBa.1.2 aBa.2.1 aBa.2.2) λaBb=>ae (z9 aBb.1.1 aBb.1.1) (ae (z9 aBb.1.2 aBb.1.2) (opt (bj 30 aBb.1.1 aBb.1.2 a3W.2 aBb.2.1 aBb.2.2 true true) λa3X=>opt (bl uM n1.2 0 0 (λx=>0) λx=>0) λaBc=>ae (z9 aBc.1.1 aBc.1.1) (ae (z9 aBc.1.2 aBc.1.2) (opt (bl bB.1 n2 aBc.1.1 aBc.1.2 aBc.2.1 aBc.2.2) λaBd=>ae (z9 aBd.1.1 aBd.1.1) (ae (z9 aBd.1.2 aBd.1.2) (opt (bl d.1 n1.1 aBd.1.1 aBd.1.2 aBd.2.1 aBd.2.2) λd=>ae (z9 d.1.1 d.1.1) (ae (z9 d.1.2 d.1.2) (opt (bj 30 d.1.1 d.1.2 a3X.2 d.2.1 d.2.2 true true) λd=>opt (bl aqH n1.2 0 0 (λx=>0) λx=>0) λaBe=>ae (z9 aBe.1.1 aBe.1.1) (ae (z9 aBe.1.2 aBe.1.2) (opt (bl bB.1 n1.1 aBe.1.1 aBe.1.2 aBe.2.1 aBe.2.2) λaBf=>ae (z9 aBf.1.1 aBf.1.1) (ae (z9 aBf.1.2 aBf.1.2) (opt (bl y0 n2 aBf.1.1 aBf.1.2 aBf.2.1 aBf.2.2) λaBg=>ae (z9 aBg.1.1 aBg.1.1) (ae (z9 aBg.1.2 aBg.1.2) (opt (bj 30 aBg.1.1 aBg.1.2 d.2 aBg.2.1 aBg.2.2 true true) λa3Y=>opt (bl aaf n1.2 0 0 (λx=>0) λx=>0) λaBh=>ae (z9 aBh.1.1 aBh.1.1) (ae (z9 aBh.1.2 aBh.1.2) (opt (bl bB.1 n1.2 aBh.1.1 aBh.1.2 aBh.2.1 aBh.2.2) λaBi=>ae (z9 aBi.1.1 aBi.1.1) (ae (z9 aBi.1.2 aBi.1.2) (opt (bl ak.1 n2 aBi.1.1 aBi.1.2 aBi.2.1 aBi.2.2) λaBj=>ae (z9 aBj.1.1 aBj.1.1) (ae (z9 aBj.1.2 aBj.1.2) (opt (bl aJ.1 n1.1 aBj.1.1 aBj.1.2 aBj.2.1 aBj.2.2) λaBk=>ae (z9 aBk.1.1 aBk.1.1) (ae (z9 aBk.1.2 aBk.1.2) (opt (bl bB.1 n1.2 aBk.1.1 aBk.1.2 aBk.2.1 aBk.2.2) λaBl=>ae (z9 aBl.1.1 aBl.1.1) (ae (z9 aBl.1.2 aBl.1.2) (opt (bj 30 aBl.1.1 aBl.1.2 a3Y.2 aBl.2.1 aBl.2.2 true true) λa3Z=>ret ((tP.1,aGq.1,aGr.1,a3S.1,a3T.1,a3U.1,a3V.1,a3W.1,a3X.1,d.1,a3Y.1,a3Z.1),a3Z.2)) no) no) no) no) no) no) no) no) no) no) no) no) no) no) no) no) no) no) no) no) no) no) no) no) no) no) no) no) no) no) no) no) no) no) no) no) no) no) no) no) no) no) no) no) no) no) no) no) no) no) no) no) no) no) no) no) no) no) no) no) no) no) no) no) no) no) no) no) no) no) no) no) no) no) no) no) no) no) no) no) no) no) no) no
def we:=λx0 x1 x2 x3 x4 x5 x6 x7=>(ac0 aO At nT bu x0 x1 x2 x3 x4 x5 x6 x7).val
abbrev ac1:=bV×OR×X2×dY
def arp (p:ac1):KK:=⟨[dy p.1,agT p.2.1,am7 p.b.1,mH p.b.2],⟨[⟨2,(1::2::3::rg 7 10 (rg 18 124 [])),[]⟩,⟨10,(1::2::3::7::rg 10 24 (rg 35 107 [])),[]⟩,⟨19,(1::2::3::7::rg 11 23 (rg 35 38 (rg 74 68 []))),[]⟩,⟨28,(1::2::3::7::11::12::13::rg 16 18 (rg 35 38 (rg 74 29 (rg 104 38 [])))),[]⟩],[],[],[],(some ⟨0,(rg 0 6 (rg 7 135 [])),[]⟩)⟩,0,218⟩
theorem aHY (p:ac1):D2 (arp p) arl (lf X4) λb=>ac0 p.1 p.2.1 p.b.1 p.b.2 b.1.1.1 b.1.1.2.1 b.1.1.b.1 b.1.1.b.2 b.1.2.1 b.1.b.1 b.1.b.2 b.2:=λb=>by kernel_rfl
abbrev arq:ac1:=(aO,At,nT,bu)
theorem ars [aA]:SC (acZ we):=sc (kS (k:=arp arq) (.c dF (.c atf (.c aGp (.c nQ (.nil _))))) [2,10,19,28] [] ⟨kN,⟨kN,⟨kN,⟨kN,trivial⟩⟩⟩⟩ trivial (aHY arq))
def art:=qa (pl Ey nil)
def X5:=qe aXG
abbrev aru:=X5.B
abbrev IU:=Int->Int->Int->Int->Int->Int->Int->Int->Int->Option aru
def ac2 (g:IU):Ct:=(137,FC art (lf X5) (λb=>g b.1 b.2.1 b.b.1 b.b.2.1 b.c.1 b.c.2.1 b.c.b.1 b.c.b.2.1 b.d))
def ac3 (x0:Int)(x1:Int)(x2:Int)(x3:Int)(x4:Int)(x5:Int)(x6:Int)(x7:Int)(x8:Int):Pg aru:=ret (x1,x2,x3)
def Ax:=λx0 x1 x2 x3 x4 x5 x6 x7 x8=>(ac3 x0 x1 x2 x3 x4 x5 x6 x7 x8).val
theorem aHZ:D0 [] 137 art (lf X5) λb=>ac3 b.1 b.2.1 b.b.1 b.b.2.1 b.c.1 b.c.2.1 b.c.b.1 b.c.b.2.1 b.d:=λb=>by kernel_rfl
theorem arv [aA]:SC (ac2 Ax):=s0 (.nil _) aHZ
def arw:=qa (pl HR nil)
def X6:=qe Cy
abbrev ac4:=X6.B
abbrev wg:=Int->Int->Int->Option ac4
def Ay (g:wg):Ct:=(76,FC arw (lf X6) (λb=>g b.1 b.2.1 b.b))
def IV (x0:Int)(x1:Int)(x2:Int):Pg ac4:=ae (decide (x0>= -900000000)) (ae (decide (x0<=900000000)) (ae (decide (x1>= -1800000000)) (ae (decide (x1<=1800000000)) (ae (decide (x2>= -100000000)) (ret (decide (x2<=100000000))) (ret false)) (ret false)) (ret false)) (ret false)) (ret false)
def gM:=λx0 x1 x2=>(IV x0 x1 x2).val
theorem aH0:D0 [] 76 arw (lf X6) λb=>IV b.1 b.2.1 b.b:=λb=>by kernel_rfl
theorem Es [aA]:SC (Ay gM):=s0 (.nil _) aH0
def awd:=qa (pl Ey nil)
def ac5:=qe Cy
abbrev awe:=ac5.B
abbrev aht:=Int->Int->Int->Int->Int->Int->Int->Int->Int->Option awe
def awf (g:aht):Ct:=(136,FC awd (lf ac5) (λb=>g b.1 b.2.1 b.b.1 b.b.2.1 b.c.1 b.c.2.1 b.c.b.1 b.c.b.2.1 b.d))
def ahu (ac6:IU)(cO:wg)(x0:Int)(x1:Int)(x2:Int)(x3:Int)(x4:Int)(x5:Int)(x6:Int)(x7:Int)(x8:Int):Pg awe:=ae (decide (x4< -1000000)) (ret false) (ae (decide (x4>1000000)) (ret false) (ae (decide (x5< -1000000)) (ret false) (ae (decide (x5>1000000)) (ret false) (ae (decide (x6< -1000000)) (ret false) (ae (decide (x6>1000000)) (ret false) (ae (decide (x7<1)) (ret false) (ae (decide (x7>1000000)) (ret false) (ae (decide (x8<1)) (ret false) (ae (decide (x8>1000000)) (ret false) (opt (ac6 x0 x1 x2 x3 x4 x5 x6 x7 x8) λd=>opt (cO d.1 d.2.1 d.2.2) λd=>ret d))))))))))
def M5:=λx0 x1 x2 x3 x4 x5 x6 x7 x8=>(ahu Ax gM x0 x1 x2 x3 x4 x5 x6 x7 x8).val
abbrev ahv:=IU×wg
def awg (p:ahv):KK:=⟨[ac2 p.1,Ay p.2],⟨[⟨2,(0::rg 3 5 (rg 11 6 (rg 19 12 (rg 33 5 [])))),[]⟩,⟨8,(0::rg 3 19 (rg 25 6 (rg 33 5 []))),[]⟩],[],[],[],(some ⟨0,(0::1::rg 3 35 []),[]⟩)⟩,0,136⟩
theorem aLJ (p:ahv):D2 (awg p) awd (lf ac5) λb=>ahu p.1 p.2 b.1 b.2.1 b.b.1 b.b.2.1 b.c.1 b.c.2.1 b.c.b.1 b.c.b.2.1 b.d:=λb=>by kernel_rfl
abbrev awh:ahv:=(Ax,gM)
theorem aLK [aA]:SC (awf M5):=sc (kS (k:=awg awh) (.c arv (.c Es (.nil _))) [2,8] [] ⟨kN,⟨kN,trivial⟩⟩ trivial (aLJ awh))
def aeA:=qa (pl jo nil)
def M6:=qe HO
abbrev aeB:=M6.B
abbrev Pc:=Int->Option aeB
def aeC (g:Pc):Ct:=(138,FC aeA (lf M6) (λb=>g b))
def Pd (av:cD)(aF:cx)(x0:Int):Pg aeB:=opt (av (wI (x0*x0)) 17592186044416 1000000 false) λd=>opt (aF d.1 1 72057594037927936 d.2) λd=>ret d.1
def BI:=λx0=>(Pd aX aT x0).val
theorem ayM:∀av aF,D0 [dt av,eF aF] 138 aeA (lf M6) λb=>Pd av aF b:=λ_ _ b=>by kernel_rfl
theorem ayN [aA]:SC (aeC BI):=s0 (.c dI (.c eV (.nil _))) (ayM aX aT)
def awi:=qa (pr (cu aQ Ey) bL)
def ac7:=qe (res (pr (sf (c (ra axs) afF)) (pl m4 nil)))
abbrev awj:=ac7.B
abbrev ahw:=Int->Int->Int->Int->Int->Int->Int->Int->Int->Bool->Option awj
def ahx (g:ahw):Ct:=(89,FC awi (lf ac7) (λb=>g b.1.1 b.1.2.1 b.1.b.1 b.1.b.2.1 b.1.c.1 b.1.c.2.1 b.1.c.b.1 b.1.c.b.2.1 b.1.d b.2))
def ahy (aLL:aht)(ac6:IU)(aeD:Pc)(av:cD)(x0:Int)(x1:Int)(x2:Int)(x3:Int)(x4:Int)(x5:Int)(x6:Int)(x7:Int)(x8:Int)(x9:Bool):Pg awj:=opt (aLL x0 x1 x2 x3 x4 x5 x6 x7 x8) λd=>ae (!d) (ret (((0,0,0,0,0,0,0,0),1),x9)) (opt (ac6 x0 x1 x2 x3 x4 x5 x6 x7 x8) λd=>opt (aeD x7) λak=>opt (aeD x8) λaJ=>opt (av x4 1073741824 1000 x9) λbB=>opt (av x5 1073741824 1000 bB.2) λcK=>opt (av x6 1073741824 1000 cK.2) λeU=>ret (((d.1,d.2.1,d.2.2,bB.1,cK.1,eU.1,ak,aJ),0),eU.2))
def zI:=λx0 x1 x2 x3 x4 x5 x6 x7 x8 x9=>(ahy M5 Ax BI aX x0 x1 x2 x3 x4 x5 x6 x7 x8 x9).val
abbrev ahz:=aht×IU×Pc×cD
def awk (p:ahz):KK:=⟨[awf p.1,ac2 p.2.1,aeC p.b.1,dt p.b.2],⟨[⟨5,(1::2::5::rg 7 16 (rg 24 14 [])),[]⟩],[],[0],[],(some ⟨0,(rg 0 4 (rg 6 32 [])),[]⟩)⟩,0,89⟩
theorem aLM (p:ahz):D2 (awk p) awi (lf ac7) λb=>ahy p.1 p.2.1 p.b.1 p.b.2 b.1.1 b.1.2.1 b.1.b.1 b.1.b.2.1 b.1.c.1 b.1.c.2.1 b.1.c.b.1 b.1.c.b.2.1 b.1.d b.2:=λb=>by kernel_rfl
abbrev awl:ahz:=(M5,Ax,BI,aX)
theorem awm [aA]:SC (ahx zI):=sc (kS (k:=awk awl) (.c aLK (.c arv (.c ayN (.c dI (.nil _))))) [5] [] ⟨kN,trivial⟩ trivial (aLM awl))
def ai6:=qa (dp (cl J4 nil) λa=>(cl (cl (gs a.1 oC) nil) nil))
def Pe:=qe aXN
abbrev ai7:=Pe.B
abbrev TK:=Nat->NI->Bool->Option ai7
def TL (g:TK):Ct:=(231,vX 0 [.i .i64] (FC ai6 (lf Pe) (λb=>g b.1.1 b.2 b.1.2)))
def lY:=qs (st (dp (us 2 (cu NT (cu AT (us 2 (c J4 (c ai aJX)))))) λa=>(pl (c (so (cl (gs a.1.1 oC) nil)) J6) nil)))
def awn:=qs (st (pr (us 2 (cu NT (cu AT (us 2 (c J4 (c ai aJ3)))))) (pl (c HS J6) nil)))
abbrev zJ:=(aMX×NI×NI×NI)
def aaR {ρ:Type}(x:zJ)(K:AX->St->Option ρ):Option ρ:=(λd=>K (.ex 0) (awn.em (d.1,(d.1.1.1,d.2.1),d.b))) x
def M7 (d:lY.B):PL lY zJ:=let n3:=d.2.1;let n2:=d.1.2.2;let n1:=(d.1.1,d.1.2.1,wI (n2+1));let y0:=z4 (n3 (z4 n2));let y1:=decide (n2<d.1.2.1);ae y1 (ae (aZ n2 d.1.1.1) (ae (decide (n3 (z4 n2)>=0)) (ae (decide (n3 (z4 n2)<24)) (ae (aZ (n3 (z4 n2)) 24) (ae (true&&wr (0+y0*1+1) 24) (ret (w7 (n1,n3,d.2.2.1,λj=>bif z9 j y0 then 1073741824 else d.2.2.2 j))) no) no) (ret (w7 (n1,d.2)))) (ret (w7 (n1,d.2)))) no) (ret (ww ((d.1.1,d.1.2.1,n2,y1),d.2)))
def M8:=bG (M7) 2000
def TM (dX:LT lY zJ)(x0:Nat)(x1:Nat->Int)(w0:Bool):Pg ai7:=ae (z9 x0 x0) (opt (dX (((x0,w0),ws x0,0),x1,λx=>0,λx=>0)) λd=>ret d.2.2.2) no
def qJ:=λx0 x1 w0=>(TM M8 x0 x1 w0).val
abbrev JO:=(LT lY zJ)
def TN (p:JO):KK:=⟨[],⟨[⟨3,(0::1::4::5::rg 9 6 (rg 17 5 [15,16])),[]⟩],[fU 3 1 lY aaR p],[],[],(some ⟨0,(0::1::rg 3 19 []),[]⟩)⟩,1,231⟩
theorem atA (p:JO):LI (TN p) 3 lY aaR (M7):=λ_ d c K=>by kernel_rfl
theorem aCK (p:JO):D2 (TN p) ai6 (lf Pe) λb=>TM p b.1.1 b.2 b.1.2:=λb=>by kernel_rfl
abbrev TO:JO:=M8
theorem ai8 [aA]:SC (TL qJ):=sc (Sound.nil 0 [.i .i64]<|kS (k:=TN TO) (.nil _) [3] [] ⟨kL (atA TO),trivial⟩ trivial (aCK TO))
def aeE:=qa (pr (cu aQ (c lk (c ai FA))) bL)
def M9:=qe aYb
abbrev aeF:=M9.B
abbrev wJ:=NI->Int->Int->Int->Int->Bool->Option aeF
def Hg (g:wJ):Ct:=(253,FC aeE (lf M9) (λb=>g b.1.1 b.1.2.1 b.1.b.1 b.1.b.2.1 b.1.c b.2))
def Pf (oz:TK)(aY:dg)(x0:Nat->Int)(x1:Int)(x2:Int)(x3:Int)(x4:Int)(x5:Bool):Pg aeF:=opt (oz 1 (λj=>bif z9 j 0 then x1 else x1) true) λd=>ae (aZ x1 24) (opt (aY x2 (x0 (z4 x1)) x5) λak=>ret ((d,ak.1,x3,x4),ak.2)) no
def ey:=λx0 x1 x2 x3 x4 x5=>(Pf qJ bS x0 x1 x2 x3 x4 x5).val
theorem ayO:∀oz aY,D0 [TL oz,iy aY] 253 aeE (lf M9) λb=>Pf oz aY b.1.1 b.1.2.1 b.1.b.1 b.1.b.2.1 b.1.c b.2:=λ_ _ b=>by kernel_rfl
theorem Ph [aA]:SC (Hg ey):=s0 (.c ai8 (.c jD (.nil _))) (ayO qJ bS)
def aeG:=qa (pr (cu aQ (c lk (c aKq jo))) bL)
def M':=qe aYG
abbrev aeH:=M'.B
abbrev aeI:=NI->Int->Int->Int->Int->Int->Int->Int->Int->Int->Bool->Option aeH
def aeJ (g:aeI):Ct:=(225,FC aeG (lf M') (λb=>g b.1.1 b.1.2.1.1.1 b.1.2.1.1.2.1 b.1.2.1.1.b b.1.2.1.2.1.1 b.1.2.1.2.1.2.1 b.1.2.1.2.1.b b.1.2.1.b.1 b.1.2.1.b.2 b.1.b b.2))
def Pj (jx:wJ)(x0:Nat->Int)(x1:Int)(x2:Int)(x3:Int)(x4:Int)(x5:Int)(x6:Int)(x7:Int)(x8:Int)(x9:Int)(gw:Bool):Pg aeH:=opt (jx x0 4 x4 x8 x9 gw) λd=>opt (jx x0 5 x5 x8 x9 d.2) λak=>opt (jx x0 6 x6 x8 x9 ak.2) λaJ=>ret (aJ.2,d.1.1,d.1.2.1,d.1.2.2.1,d.1.2.2.2,ak.1.1,ak.1.2.1,ak.1.2.2.1,ak.1.2.2.2,aJ.1)
def wK:=λx0 x1 x2 x3 x4 x5 x6 x7 x8 x9 gw=>(Pj ey x0 x1 x2 x3 x4 x5 x6 x7 x8 x9 gw).val
abbrev Pk:=wJ
def aeK (p:Pk):KK:=⟨[Hg p],⟨[⟨3,(1::2::4::7::8::10::11::12::rg 15 17 []),[]⟩],[],[],[],(some ⟨0,(rg 0 8 (rg 9 23 [])),[]⟩)⟩,0,225⟩
theorem ayP (p:Pk):D2 (aeK p) aeG (lf M') λb=>Pj p b.1.1 b.1.2.1.1.1 b.1.2.1.1.2.1 b.1.2.1.1.b b.1.2.1.2.1.1 b.1.2.1.2.1.2.1 b.1.2.1.2.1.b b.1.2.1.b.1 b.1.2.1.b.2 b.1.b b.2:=λb=>by kernel_rfl
abbrev aeL:Pk:=ey
theorem ayQ [aA]:SC (aeJ wK):=sc (kS (k:=aeK aeL) (.c Ph (.nil _)) [3] [] ⟨kN,trivial⟩ trivial (ayP aeL))
def aaS:=qa (pr (cu (app 0 5) (cu Q' HR)) (c m6 bL))
def Kq:=qe (res (pr aXI (pl (cu fN m4) nil)))
abbrev aaT:=Kq.B
abbrev zK:=Int->Int->Int->Int->Int->Int->Int->Int->Bool->Option aaT
def E8 (g:zK):Ct:=(249,FC aaS (lf Kq) (λb=>g b.1.1 b.1.2.1 b.1.b b.2.1.1.1 b.2.1.1.2.1 b.2.1.1.b b.2.1.2.1 b.2.1.b b.b))
def Na (cO:wg)(aB:bR)(av:cD)(x0:Int)(x1:Int)(x2:Int)(x3:Int)(x4:Int)(x5:Int)(x6:Int)(x7:Int)(x8:Bool):Pg aaT:=let y0:=wI (x1-x4);opt (cO x0 x1 x2) λd=>ae (!d) (ret (((0,0,0),1),x8)) (ae (decide (y0>1800000000)) (opt (aB (wI (x0-x3)) x6 10 x8) λd=>opt (aB (wI (y0-3600000000)) x7 10 d.2) λak=>opt (av (wI (x5-x2)) 1073741824 1000 ak.2) λaJ=>ret (((d.1,ak.1,aJ.1),0),aJ.2)) (ae (decide (y0<= -1800000000)) (opt (aB (wI (x0-x3)) x6 10 x8) λd=>opt (aB (wI (y0+3600000000)) x7 10 d.2) λak=>opt (av (wI (x5-x2)) 1073741824 1000 ak.2) λaJ=>ret (((d.1,ak.1,aJ.1),0),aJ.2)) (opt (aB (wI (x0-x3)) x6 10 x8) λd=>opt (aB y0 x7 10 d.2) λak=>opt (av (wI (x5-x2)) 1073741824 1000 ak.2) λaJ=>ret (((d.1,ak.1,aJ.1),0),aJ.2))))
def jH:=λx0 x1 x2 x3 x4 x5 x6 x7 x8=>(Na gM aU aX x0 x1 x2 x3 x4 x5 x6 x7 x8).val
theorem awo:∀cO aB av,D1 [Ay cO,fg aB,dt av] [1] 249 aaS (lf Kq) λb=>Na cO aB av b.1.1 b.1.2.1 b.1.b b.2.1.1.1 b.2.1.1.2.1 b.2.1.1.b b.2.1.2.1 b.2.1.b b.b:=λ_ _ _ b=>by kernel_rfl
theorem Nb [aA]:SC (E8 jH):=s0 (.c Es (.c fK (.c dI (.nil _)))) (awo gM aU aX)
def rP:=qa (pr (cu aQ (c lk (c aKq (cu (app 1 5) jo)))) (c xY (cl m6 nil)))
def NZ:=qe (res (pr aXv (pl Oh nil)))
def N3:=qe (res (pu (sf (cu (rc (fO (pu rq4 (pu wO (pu (szl rq4) (pu (nat 27) fR)))))) akE)) (pr Oh (cl aQT nil))))
abbrev Kr:=NZ.B⊕N3.B
def X7:Kr->T:=ls (lf NZ) (lf N3)
abbrev X8:=rP.B->Option Kr
def X9 (g:X8):Ct:=(226,FC rP X7 g)
def Ks (hM:zK)(jx:wJ)(x:rP.B):Pg Kr:=opt (hM x.1.2.1.1.1 x.1.2.1.1.2.1 x.1.2.1.1.2.2 x.2.2.1.1 x.2.2.1.2.1 x.2.2.1.2.2 x.2.2.2.1 x.2.2.2.2 x.2.1) λd=>ae (d.1.2!=0) (ret (w7 (d.1.2,d.2))) (opt (jx x.1.1 7 d.1.1.1 x.1.2.1.2.2.1 x.1.2.2 d.2) λak=>opt (jx x.1.1 8 d.1.1.2.1 x.1.2.1.2.2.1 x.1.2.2 ak.2) λd=>ret (ww (d.2,ak.1.1,ak.1.2.1,ak.1.2.2.1,ak.1.2.2.2,d.1)))
def rQ:=λx=>(Ks jH ey x).val
abbrev Kt:=zK×wJ
def X' (p:Kt):KK:=⟨[E8 p.1,Hg p.2],⟨[⟨6,(1::2::3::5::rg 8 6 (rg 15 13 (rg 31 18 []))),[]⟩],[],[],[],(some ⟨0,(rg 0 10 (rg 12 37 [])),[]⟩)⟩,0,226⟩
theorem atB (p:Kt):D2 (X' p) rP X7 λb=>Ks p.1 p.2 b:=λb=>by kernel_rfl
abbrev Ya:Kt:=(jH,ey)
theorem atC [aA]:SC (X9 rQ):=sc (kS (k:=X' Ya) (.c Nb (.c Ph (.nil _))) [6] [] ⟨kN,trivial⟩ trivial (atB Ya))
def BJ:=qa (pr (cu aQ (c lk (c aKq (cu (app 1 5) jo)))) (c xY (cl m6 nil)))
def TQ:=qe (res (pr aX7 (pl Oh nil)))
abbrev ana:=TQ.B
abbrev anb:=BJ.B->Option ana
def anc (g:anb):Ct:=(227,FC BJ (lf TQ) g)
def Yb (hM:zK)(cB:fL)(aF:cx)(jx:wJ)(x:BJ.B):Pg ana:=let n3:=x.2.2;let n2:=x.1.2.1;let n1:=n2.2.2.1;opt (hM n2.1.1 n2.1.2.1 n2.1.2.2 n3.1.1 n3.1.2.1 n3.1.2.2 n3.2.1 n3.2.2 x.2.1) λd=>ae (d.1.2!=0) (ret (((λx=>0,0,0,0),d.1.2),d.2)) (opt (cB 4 false (cr n1 [n1,n1,n1,n1]) true) λak=>opt (aF ak.1 1 72057594037927936 ak.2) λaJ=>opt (jx x.1.1 9 d.1.1.2.2 aJ.1 x.1.2.2 d.2) λd=>ret ((d.1,0),d.2))
def BK:=λx=>(Yb jH cF aT ey x).val
theorem aGs:∀hM cB aF jx,D0 [E8 hM,pQ cB,eF aF,Hg jx] 227 BJ (lf TQ) λb=>Yb hM cB aF jx b:=λ_ _ _ _ b=>by kernel_rfl
theorem aGt [aA]:SC (anc BK):=s0 (.c Nb (.c sC (.c eV (.c Ph (.nil _))))) (aGs jH cF aT ey)
def Yc:=qa (pl jo nil)
def H5:=qe HO
abbrev Yd:=H5.B
abbrev Ye:=Int->Option Yd
def Yf (g:Ye):Ct:=(203,FC Yc (lf H5) (λb=>g b))
def Ku (av:cD)(aF:cx)(x0:Int):Pg Yd:=opt (av (wI (x0*x0)) 17592186044416 1000000 false) λd=>opt (aF d.1 1 72057594037927936 d.2) λd=>ret d.1
def xp:=λx0=>(Ku aX aT x0).val
theorem atD:∀av aF,D0 [dt av,eF aF] 203 Yc (lf H5) λb=>Ku av aF b:=λ_ _ b=>by kernel_rfl
theorem atE [aA]:SC (Yf xp):=s0 (.c dI (.c eV (.nil _))) (atD aX aT)
def ane:=qa (pr (cu aQ (c aKo Cw)) bL)
def TR:=qe aQP
abbrev anf:=TR.B
abbrev Yg:=Int->Int->Int->Int->Int->Int->Int->Int->Int->Int->Int->Bool->Option anf
def Yh (g:Yg):Ct:=(139,FC ane (lf TR) (λb=>g b.1.1.1 b.1.1.2.1 b.1.1.b.1 b.1.1.b.2.1 b.1.1.c.1 b.1.1.c.2.1 b.1.1.c.b.1 b.1.1.c.b.2.1 b.1.1.d b.1.2.1 b.1.b b.2))
def Yi (av:cD)(C5:Ye)(x0:Int)(x1:Int)(x2:Int)(x3:Int)(x4:Int)(x5:Int)(x6:Int)(x7:Int)(x8:Int)(x9:Int)(gw:Int)(gx:Bool):Pg anf:=ae (decide (x1<x9)) (ret (((0,0),1),gx)) (ae (decide (x1>gw)) (ret (((0,0),1),gx)) (ae (decide (x2<1)) (ret (((0,0),1),gx)) (ae (decide (x2>1000000)) (ret (((0,0),1),gx)) (opt (av x1 1073741824 1000 gx) λd=>opt (C5 x2) λak=>ret (((d.1,ak),0),d.2)))))
def tj:=λx0 x1 x2 x3 x4 x5 x6 x7 x8 x9 gw gx=>(Yi aX xp x0 x1 x2 x3 x4 x5 x6 x7 x8 x9 gw gx).val
theorem aGu:∀av C5,D1 [dt av,Yf C5] [0] 139 ane (lf TR) λb=>Yi av C5 b.1.1.1 b.1.1.2.1 b.1.1.b.1 b.1.1.b.2.1 b.1.1.c.1 b.1.1.c.2.1 b.1.1.c.b.1 b.1.1.c.b.2.1 b.1.1.d b.1.2.1 b.1.b b.2:=λ_ _ b=>by kernel_rfl
theorem ang [aA]:SC (Yh tj):=s0 (.c dI (.c atE (.nil _))) (aGu aX xp)
def Yj:=qa (pr (cu aQ Ey) bL)
def H6:=qe aQP
abbrev Yk:=H6.B
abbrev Kv:=Int->Int->Int->Int->Int->Int->Int->Int->Int->Bool->Option Yk
def Kw (g:Kv):Ct:=(90,FC Yj (lf H6) (λb=>g b.1.1 b.1.2.1 b.1.b.1 b.1.b.2.1 b.1.c.1 b.1.c.2.1 b.1.c.b.1 b.1.c.b.2.1 b.1.d b.2))
def Kx (qi:Yg)(x0:Int)(x1:Int)(x2:Int)(x3:Int)(x4:Int)(x5:Int)(x6:Int)(x7:Int)(x8:Int)(x9:Bool):Pg Yk:=opt (qi x0 x1 x2 x3 x4 x5 x6 x7 x8 (-100000000) 100000000 x9) λd=>ret d
def lZ:=λx0 x1 x2 x3 x4 x5 x6 x7 x8 x9=>(Kx tj x0 x1 x2 x3 x4 x5 x6 x7 x8 x9).val
theorem atF:∀qi,D0 [Yh qi] 90 Yj (lf H6) λb=>Kx qi b.1.1 b.1.2.1 b.1.b.1 b.1.b.2.1 b.1.c.1 b.1.c.2.1 b.1.c.b.1 b.1.c.b.2.1 b.1.d b.2:=λ_ b=>by kernel_rfl
theorem Yl [aA]:SC (Kw lZ):=s0 (.c ang (.nil _)) (atF tj)
def anh:=qa (pr (cu aQ (c lk (c (aa akB) jo))) bL)
def TS:=qe aYb
abbrev ani:=TS.B
abbrev anj:=NI->Int->Int->Int->Bool->Option ani
def ank (g:anj):Ct:=(170,FC anh (lf TS) (λb=>g b.1.1 b.1.2.1.1 b.1.2.1.2 b.1.b b.2))
def Ym (oz:TK)(ay:bV)(aY:dg)(x0:Nat->Int)(x1:Int)(x2:Int)(x3:Int)(x4:Bool):Pg ani:=opt (oz 1 (λj=>bif z9 j 0 then 9 else 9) true) λd=>opt (ay x1 x4) λak=>opt (aY (wI (0-ak.1)) (x0 9) ak.2) λaJ=>ret ((d,aJ.1,x2,x3),aJ.2)
def BL:=λx0 x1 x2 x3 x4=>(Ym qJ aO bS x0 x1 x2 x3 x4).val
theorem aGv:∀oz ay aY,D0 [TL oz,dy ay,iy aY] 170 anh (lf TS) λb=>Ym oz ay aY b.1.1 b.1.2.1.1 b.1.2.1.2 b.1.b b.2:=λ_ _ _ b=>by kernel_rfl
theorem aGw [aA]:SC (ank BL):=s0 (.c ai8 (.c dF (.c jD (.nil _)))) (aGv qJ aO bS)
def UE:=qa (pr (cu aQ Ey) bL)
def F':=qe (res (pr aXI (pl m4 nil)))
abbrev UF:=F'.B
abbrev H7:=Int->Int->Int->Int->Int->Int->Int->Int->Int->Bool->Option UF
def H8 (g:H7):Ct:=(91,FC UE (lf F') (λb=>g b.1.1 b.1.2.1 b.1.b.1 b.1.b.2.1 b.1.c.1 b.1.c.2.1 b.1.c.b.1 b.1.c.b.2.1 b.1.d b.2))
def H9 (qi:Yg)(x0:Int)(x1:Int)(x2:Int)(x3:Int)(x4:Int)(x5:Int)(x6:Int)(x7:Int)(x8:Int)(x9:Bool):Pg UF:=ae (decide (x3<0)) (ret (((0,0,0),1),x9)) (ae (decide (x3>100)) (ret (((0,0,0),1),x9)) (opt (qi x0 x1 x2 x3 x4 x5 x6 x7 x8 1 1000000 x9) λd=>ae (d.1.2!=0) (ret (((0,0,0),d.1.2),d.2)) (ret (((d.1.1.1,d.1.1.2,x3),0),d.2))))
def kW:=λx0 x1 x2 x3 x4 x5 x6 x7 x8 x9=>(H9 tj x0 x1 x2 x3 x4 x5 x6 x7 x8 x9).val
theorem apB:∀qi,D1 [Yh qi] [0] 91 UE (lf F') λb=>H9 qi b.1.1 b.1.2.1 b.1.b.1 b.1.b.2.1 b.1.c.1 b.1.c.2.1 b.1.c.b.1 b.1.c.b.2.1 b.1.d b.2:=λ_ b=>by kernel_rfl
theorem UG [aA]:SC (H8 kW):=s0 (.c ang (.nil _)) (apB tj)
def ai9:=qa (pr (cu aQ (c lk (c (aa (a 2 akB ku)) jo))) bL)
def Pm:=qe aEc
abbrev aja:=Pm.B
abbrev ajb:=NI->Int->Int->Int->Int->Bool->Option aja
def ajc (g:ajb):Ct:=(171,FC ai9 (lf Pm) (λb=>g b.1.1 b.1.2.1.1.1 b.1.2.1.1.2 b.1.2.1.2 b.1.b b.2))
def TT (bg:dP)(fI:rH)(aE:cN)(aY:dg)(cB:fL)(aB:bR)(x0:Nat->Int)(x1:Int)(x2:Int)(x3:Int)(x4:Int)(x5:Bool):Pg aja:=opt (bg x0) λd=>let n1:=d.2.2;opt (fI d.1 d.2.1 n1.1 n1.2 x5) λak=>ae (decide (ak.1 8<751619277)) (ret (((λx=>0,0,0,0),4),ak.2)) (ae (decide (x3<50)) (ret (((λx=>0,0,0,0),4),ak.2)) (opt (aE (x0 9) (ak.1 8) 30 ak.2) λaJ=>opt (aY x1 (wI (0-aJ.1)) aJ.2) λbB=>opt (aE 1073741824 (ak.1 8) 30 bB.2) λcK=>opt (aE aJ.1 (ak.1 8) 30 cK.2) λeU=>opt (cB 2 eU.2 (cr d.1 [d.1,d.1]) true) λde=>opt (aB eU.1 de.1 30 de.2) λlG=>opt (cB 2 lG.2 (cr d.2.1 [d.2.1,d.2.1]) true) λtP=>opt (aB eU.1 (wI (0-tP.1)) 30 tP.2) λp8=>opt (cB 2 p8.2 (cr n1.1 [n1.1,n1.1]) true) λmM=>opt (aB eU.1 (wI (0-mM.1)) 30 mM.2) λxZ=>opt (cB 2 xZ.2 (cr n1.2 [n1.2,n1.2]) true) λd=>opt (aB eU.1 d.1 30 d.2) λd=>ret (((λj=>bif z9 j 3 then d.1 else bif z9 j 2 then xZ.1 else bif z9 j 1 then p8.1 else bif z9 j 0 then lG.1 else bif z9 j 9 then wI (0-cK.1) else 0,bB.1,x2,x4),0),d.2)))
def yS:=λx0 x1 x2 x3 x4 x5=>(TT cj jY bh bS cF aU x0 x1 x2 x3 x4 x5).val
abbrev TU:=dP×rH×cN×dg×fL×bR
def ajd (p:TU):KK:=⟨[jb p.1,Eo p.2.1,gL p.b.1,iy p.b.2.1,pQ p.c.1,fg p.c.2],⟨[⟨10,(1::rg 3 5 (rg 9 4 (rg 15 43 (rg 60 11 (rg 73 13 []))))),[]⟩],[],[],[],(some ⟨0,(rg 0 8 (rg 10 76 [])),[]⟩)⟩,0,171⟩
theorem aCL (p:TU):D2 (ajd p) ai9 (lf Pm) λb=>TT p.1 p.2.1 p.b.1 p.b.2.1 p.c.1 p.c.2 b.1.1 b.1.2.1.1.1 b.1.2.1.1.2 b.1.2.1.2 b.1.b b.2:=λb=>by kernel_rfl
abbrev aje:TU:=(cj,jY,bh,bS,cF,aU)
theorem aCM [aA]:SC (ajc yS):=sc (kS (k:=ajd aje) (.c kd (.c G7 (.c ix (.c jD (.c sC (.c fK (.nil _))))))) [10] [] ⟨kN,trivial⟩ trivial (aCL aje))
def ajf:=qa (pl jo nil)
def Pn:=qe HO
abbrev ajg:=Pn.B
abbrev TV:=Int->Option ajg
def ajh (g:TV):Ct:=(140,FC ajf (lf Pn) (λb=>g b))
def TW (av:cD)(aF:cx)(x0:Int):Pg ajg:=opt (av (wI (x0*x0)) 17592186044416 1000000000000 false) λd=>opt (aF d.1 1 72057594037927936 d.2) λd=>ret d.1
def DY:=λx0=>(TW aX aT x0).val
theorem aCN:∀av aF,D0 [dt av,eF aF] 140 ajf (lf Pn) λb=>TW av aF b:=λ_ _ b=>by kernel_rfl
theorem aCO [aA]:SC (ajh DY):=s0 (.c dI (.c eV (.nil _))) (aCN aX aT)
def aBm:=qa (pr (cu aQ Ey) bL)
def ahA:=qe aYg
abbrev aBn:=ahA.B
abbrev aaU:=Int->Int->Int->Int->Int->Int->Int->Int->Int->Bool->Option aBn
def aaV (g:aaU):Ct:=(92,FC aBm (lf ahA) (λb=>g b.1.1 b.1.2.1 b.1.b.1 b.1.b.2.1 b.1.c.1 b.1.c.2.1 b.1.c.b.1 b.1.c.b.2.1 b.1.d b.2))
def anl (aCP:TV)(av:cD)(x0:Int)(x1:Int)(x2:Int)(x3:Int)(x4:Int)(x5:Int)(x6:Int)(x7:Int)(x8:Int)(x9:Bool):Pg aBn:=ae (decide (x4<1)) (ret (((0,0,0,0),1),x9)) (ae (decide (x4>1000000)) (ret (((0,0,0,0),1),x9)) (opt (aCP x4) λd=>ae (decide (x1< -2000000)) (ret (((0,0,0,0),1),x9)) (ae (decide (x1>2000000)) (ret (((0,0,0,0),1),x9)) (opt (av x1 1073741824 1000000 x9) λak=>ae (decide (x2< -2000000)) (ret (((0,0,0,0),1),ak.2)) (ae (decide (x2>2000000)) (ret (((0,0,0,0),1),ak.2)) (opt (av x2 1073741824 1000000 ak.2) λaJ=>ae (decide (x3< -2000000)) (ret (((0,0,0,0),1),aJ.2)) (ae (decide (x3>2000000)) (ret (((0,0,0,0),1),aJ.2)) (opt (av x3 1073741824 1000000 aJ.2) λbB=>ret (((ak.1,aJ.1,bB.1,d),0),bB.2)))))))))
def wh:=λx0 x1 x2 x3 x4 x5 x6 x7 x8 x9=>(anl DY aX x0 x1 x2 x3 x4 x5 x6 x7 x8 x9).val
abbrev anm:=TV×cD
def aBo (p:anm):KK:=⟨[ajh p.1,dt p.2],⟨[⟨5,(1::2::rg 7 17 (rg 25 8 (rg 38 13 []))),[]⟩],[],[0],[],(some ⟨0,(rg 0 4 (rg 6 45 [])),[]⟩)⟩,0,92⟩
theorem aOL (p:anm):D2 (aBo p) aBm (lf ahA) λb=>anl p.1 p.2 b.1.1 b.1.2.1 b.1.b.1 b.1.b.2.1 b.1.c.1 b.1.c.2.1 b.1.c.b.1 b.1.c.b.2.1 b.1.d b.2:=λb=>by kernel_rfl
abbrev aBp:anm:=(DY,aX)
theorem ann [aA]:SC (aaV wh):=sc (kS (k:=aBo aBp) (.c aCO (.c dI (.nil _))) [5] [] ⟨kN,trivial⟩ trivial (aOL aBp))
def aBq:=qa (pr (cu aQ (c lk (c aQA jo))) bL)
def aLN:=qe aYG
abbrev ano:=(Bool×NI×Int×Int×Int×NI×Int×NI×Int)
def aBr:ano->T:=λd=>lf aLN (d.1,d.2.1,d.b.1,d.b.2.1,d.c.1,d.c.2.1,d.c.b.1,d.b.2.1,d.c.1,d.c.b.2.1,d.d,d.b.2.1,d.c.1)
abbrev aBs:=NI->Int->Int->Int->Int->Int->Bool->Option ano
def aBt (g:aBs):Ct:=(233,FC aBq aBr (λb=>g b.1.1 b.1.2.1.1.1 b.1.2.1.1.2.1 b.1.2.1.1.b b.1.2.1.2 b.1.b b.2))
def anp (bg:dP)(bO:mG)(fI:rH)(Ry:FT)(ahB:Ml)(ac8:IT)(cB:fL)(aY:dg)(x0:Nat->Int)(x1:Int)(x2:Int)(x3:Int)(x4:Int)(x5:Int)(x6:Bool):Pg ano:=opt (bg x0) λd=>opt (bO x0 16) λak=>opt (bO x0 19) λaJ=>opt (fI d.1 d.2.1 d.2.2.1 d.2.2.2 x6) λbB=>opt (Ry bB.1 ak.1 ak.2.1 ak.2.2 bB.2) λcK=>opt (ahB d.1 d.2.1 d.2.2.1 d.2.2.2) λd=>opt (ac8 d.1 d.2.1 d.2.2.1 d.2.2.2 ak.1 ak.2.1 ak.2.2 cK.2) λd=>let n2:=d.1.2.2;let n1:=n2.2.2.2;let n3:=n1.2.2.2;opt (cB 2 d.2 (cr cK.1.1 [aJ.1,cK.1.1]) true) λeU=>opt (aY x1 eU.1 eU.2) λde=>opt (cB 2 de.2 (cr cK.1.2.1 [aJ.2.1,cK.1.2.1]) true) λlG=>opt (aY x2 lG.1 lG.2) λtP=>opt (cB 2 tP.2 (cr cK.1.2.2 [aJ.2.2,cK.1.2.2]) true) λp8=>opt (aY x3 p8.1 p8.2) λmM=>ret (mM.2,λj=>bif z9 j 19 then 1073741824 else bif z9 j 18 then bB.1 6 else bif z9 j 17 then bB.1 3 else bif z9 j 16 then bB.1 0 else bif z9 j 3 then wI (0-n2.2.1) else bif z9 j 2 then wI (0-n2.1) else bif z9 j 1 then wI (0-d.1.2.1) else bif z9 j 0 then d.1.1 else 0,de.1,x4,x5,λj=>bif z9 j 20 then 1073741824 else bif z9 j 18 then bB.1 7 else bif z9 j 17 then bB.1 4 else bif z9 j 16 then bB.1 1 else bif z9 j 3 then wI (0-n1.2.2.1) else bif z9 j 2 then wI (0-n1.2.1) else bif z9 j 1 then wI (0-n1.1) else bif z9 j 0 then n2.2.2.1 else 0,tP.1,λj=>bif z9 j 21 then 1073741824 else bif z9 j 18 then bB.1 8 else bif z9 j 17 then bB.1 5 else bif z9 j 16 then bB.1 2 else bif z9 j 3 then wI (0-n3.2.2.2) else bif z9 j 2 then wI (0-n3.2.2.1) else bif z9 j 1 then wI (0-n3.2.1) else bif z9 j 0 then n3.1 else 0,mM.1)
def Ld:=λx0 x1 x2 x3 x4 x5 x6=>(anp cj fh jY wa CN we cF bS x0 x1 x2 x3 x4 x5 x6).val
abbrev anq:=dP×mG×rH×FT×Ml×IT×fL×dg
def aBu (p:anq):KK:=⟨[jb p.1,sE p.2.1,Eo p.b.1,aaq p.b.2.1,agW p.c.1,acZ p.c.2.1,pQ p.c.b.1,iy p.c.b.2],⟨[⟨7,(1::2::4::5::rg 7 4 (rg 16 23 (rg 40 62 []))),[]⟩,⟨11,(1::2::4::5::rg 7 4 (rg 18 21 (rg 40 23 (rg 65 37 [])))),[]⟩,⟨18,(1::2::4::5::rg 7 4 (rg 18 21 (rg 40 38 (rg 79 23 [])))),[]⟩],[],[],[],(some ⟨0,(rg 0 8 (rg 9 93 [])),[]⟩)⟩,0,233⟩
theorem aOM (p:anq):D2 (aBu p) aBq aBr λb=>anp p.1 p.2.1 p.b.1 p.b.2.1 p.c.1 p.c.2.1 p.c.b.1 p.c.b.2 b.1.1 b.1.2.1.1.1 b.1.2.1.1.2.1 b.1.2.1.1.b b.1.2.1.2 b.1.b b.2:=λb=>by kernel_rfl
abbrev aBv:anq:=(cj,fh,jY,wa,CN,we,cF,bS)
theorem aON [aA]:SC (aBt Ld):=sc (kS (k:=aBu aBv) (.c kd (.c v8 (.c G7 (.c amb (.c avn (.c ars (.c sC (.c jD (.nil _))))))))) [7,11,18] [] ⟨kN,⟨kN,⟨kN,trivial⟩⟩⟩ trivial (aOM aBv))
def arx:=qa (pr (cu aQ HR) bL)
def Yn:=qe (res (pr aQr (pl m4 nil)))
abbrev ary:=Yn.B
abbrev QO:=Int->Int->Int->Bool->Option ary
def ac9 (g:QO):Ct:=(248,FC arx (lf Yn) (λb=>g b.1.1 b.1.2.1 b.1.b b.2))
def ada (kM:As)(sJ:ach)(x0:Int)(x1:Int)(x2:Int)(x3:Bool):Pg ary:=opt (kM 2 x3 (cr x0 [x1,x0]) true) λd=>ae (decide (d.1<16777216)) (ret ((0,false),d.2)) (opt (sJ x1 x0 d.2) λd=>ret ((d.1,true),d.2))
def wi:=λx0 x1 x2 x3=>(ada cw v7 x0 x1 x2 x3).val
theorem aH1:∀kM sJ,D0 [IJ kM,aci sJ] 248 arx (lf Yn) λb=>ada kM sJ b.1.1 b.1.2.1 b.1.b b.2:=λ_ _ b=>by kernel_rfl
theorem arz [aA]:SC (ac9 wi):=s0 (.c Qz (.c aqK (.nil _))) (aH1 cw v7)
def anr:=qa (pr (cu aQ (c lk (c aQA FA))) bL)
def TX:=qe aEc
abbrev ant:=TX.B
abbrev anu:=NI->Int->Int->Int->Int->Int->Int->Int->Bool->Option ant
def anv (g:anu):Ct:=(235,FC anr (lf TX) (λb=>g b.1.1 b.1.2.1.1.1 b.1.2.1.1.2.1 b.1.2.1.1.b b.1.2.1.2 b.1.b.1 b.1.b.2.1 b.1.c b.2))
def Yo (bg:dP)(fI:rH)(bO:mG)(oN:Kk)(jd:G0)(Et:QO)(kM:As)(aY:dg)(dq:zm)(bj:dY)(cB:fL)(aE:cN)(x0:Nat->Int)(x1:Int)(x2:Int)(x3:Int)(x4:Int)(x5:Int)(x6:Int)(x7:Int)(x8:Bool):Pg ant:=opt (bg x0) λd=>let n1:=d.2.2;opt (fI d.1 d.2.1 n1.1 n1.2 x8) λak=>opt (bO x0 19) λaJ=>opt (oN x1 x2 x3 aJ.1 aJ.2.1 aJ.2.2 ak.2) λbB=>opt (jd ak.1 bB.1.1 bB.1.2.1 bB.1.2.2 bB.2) λcK=>opt (Et cK.1.1 cK.1.2.1 cK.1.2.2 cK.2) λeU=>ae (!eU.1.2) (ret (((λx=>0,0,0,0),4),eU.2)) (opt (kM 2 eU.2 (cr (ak.1 0) [ak.1 3,ak.1 0]) true) λde=>ae (decide (de.1<16777216)) (ret (((λx=>0,0,0,0),4),de.2)) (opt (aY x5 eU.1.1 de.2) λlG=>opt (dq lG.1) λtP=>opt (bj 30 2 2 lG.2 (cr (ak.1 0) [ak.1 3,ak.1 0]) (cr (ak.1 0) [ak.1 3,ak.1 0]) true true) λp8=>opt (cB 2 p8.2 (cr d.1 [d.1,d.1]) true) λmM=>opt (cB 2 mM.2 (cr d.2.1 [d.2.1,d.2.1]) true) λxZ=>opt (cB 2 xZ.2 (cr n1.1 [n1.1,n1.1]) true) λLc=>opt (cB 2 Lc.2 (cr n1.2 [n1.2,n1.2]) true) λd=>opt (bj 30 2 2 d.2 (cr (ak.1 0) [wI (0-ak.1 3),ak.1 0]) (cr d.1 [mM.1,d.1]) true true) λMK=>opt (aE MK.1 p8.1 30 MK.2) λaGq=>opt (bj 30 2 2 aGq.2 (cr (ak.1 0) [wI (0-ak.1 3),ak.1 0]) (cr Lc.1 [xZ.1,Lc.1]) true true) λaaP=>opt (aE aaP.1 p8.1 30 aaP.2) λaez=>opt (bj 30 2 2 aez.2 (cr (ak.1 0) [wI (0-ak.1 3),ak.1 0]) (cr xZ.1 [wI (0-Lc.1),xZ.1]) true true) λaaQ=>opt (aE aaQ.1 p8.1 30 aaQ.2) λaGr=>opt (bj 30 2 2 aGr.2 (cr (ak.1 0) [wI (0-ak.1 3),ak.1 0]) (cr mM.1 [wI (0-d.1),mM.1]) true true) λd=>opt (aE d.1 p8.1 30 d.2) λd=>ret (((cr 0 [d.1,aGr.1,aez.1,aGq.1],tP,x6,x7),0),d.2)))
def BM:=λx0 x1 x2 x3 x4 x5 x6 x7 x8=>(Yo cj jY fh uo oo wi cw bS lr bu cF bh x0 x1 x2 x3 x4 x5 x6 x7 x8).val
abbrev Yp:=dP×rH×mG×Kk×G0×QO×As×dg×zm×dY×fL×cN
def anw (p:Yp):KK:=⟨[jb p.1,Eo p.2.1,sE p.b.1,WW p.b.2.1,Ms p.c.1,ac9 p.c.2.1,IJ p.c.b.1,iy p.c.b.2.1,CM p.d.1,mH p.d.2.1,pQ p.d.b.1,gL p.d.b.2],⟨[⟨10,(rg 1 11 (13::14::16::17::rg 21 57 (rg 80 58 []))),[]⟩,⟨17,(rg 1 11 (13::14::16::17::20::21::22::rg 25 86 (rg 112 26 []))),[]⟩],[],[],[],(some ⟨0,(rg 0 12 (rg 14 124 [])),[]⟩)⟩,0,235⟩
theorem aGx (p:Yp):D2 (anw p) anr (lf TX) λb=>Yo p.1 p.2.1 p.b.1 p.b.2.1 p.c.1 p.c.2.1 p.c.b.1 p.c.b.2.1 p.d.1 p.d.2.1 p.d.b.1 p.d.b.2 b.1.1 b.1.2.1.1.1 b.1.2.1.1.2.1 b.1.2.1.1.b b.1.2.1.2 b.1.b.1 b.1.b.2.1 b.1.c b.2:=λb=>by kernel_rfl
abbrev anx:Yp:=(cj,jY,fh,uo,oo,wi,cw,bS,lr,bu,cF,bh)
theorem aGy [aA]:SC (anv BM):=sc (kS (k:=anw anx) (.c kd (.c G7 (.c v8 (.c agP (.c Vp (.c arz (.c Qz (.c jD (.c GS (.c nQ (.c sC (.c ix (.nil _))))))))))))) [10,17] [] ⟨kN,⟨kN,trivial⟩⟩ trivial (aGx anx))
def awp:=qa (pr (cu aQ (c afL (c aQA jo))) bL)
def adb:=qe aQN
abbrev awq:=adb.B
abbrev awr:=Int->Int->Int->Int->Int->Int->Int->Int->Int->Bool->Option awq
def aws (g:awr):Ct:=(219,FC awp (lf adb) (λb=>g b.1.1.1 b.1.1.2.1 b.1.1.b.1 b.1.1.b.2 b.1.2.1.1.1 b.1.2.1.1.2.1 b.1.2.1.1.b b.1.2.1.2 b.1.b b.2))
def ahC (fI:rH)(jd:G0)(Et:QO)(aY:dg)(dq:zm)(x0:Int)(x1:Int)(x2:Int)(x3:Int)(x4:Int)(x5:Int)(x6:Int)(x7:Int)(x8:Int)(x9:Bool):Pg awq:=opt (fI x0 x1 x2 x3 x9) λd=>opt (jd d.1 x4 x5 x6 d.2) λd=>opt (Et d.1.1 d.1.2.1 d.1.2.2 d.2) λd=>ae (!d.1.2) (ret ((0,4),d.2)) (opt (aY x8 d.1.1 d.2) λd=>opt (dq d.1) λak=>ret ((ak,0),d.2))
def Hh:=λx0 x1 x2 x3 x4 x5 x6 x7 x8 x9=>(ahC jY oo wi bS lr x0 x1 x2 x3 x4 x5 x6 x7 x8 x9).val
theorem aLO:∀fI jd Et aY dq,D0 [Eo fI,Ms jd,ac9 Et,iy aY,CM dq] 219 awp (lf adb) λb=>ahC fI jd Et aY dq b.1.1.1 b.1.1.2.1 b.1.1.b.1 b.1.1.b.2 b.1.2.1.1.1 b.1.2.1.1.2.1 b.1.2.1.1.b b.1.2.1.2 b.1.b b.2:=λ_ _ _ _ _ b=>by kernel_rfl
theorem aLP [aA]:SC (aws Hh):=s0 (.c G7 (.c Vp (.c arz (.c jD (.c GS (.nil _)))))) (aLO jY oo wi bS lr)
def aji:=qa (pl jo nil)
def Pp:=qe HO
abbrev ajj:=Pp.B
abbrev ajk:=Int->Option ajj
def ajl (g:ajk):Ct:=(141,FC aji (lf Pp) (λb=>g b))
def TY (av:cD)(aF:cx)(x0:Int):Pg ajj:=opt (av (wI (x0*x0)) 17592186044416 1000000 false) λd=>opt (aF d.1 1 72057594037927936 d.2) λd=>ret d.1
def DZ:=λx0=>(TY aX aT x0).val
theorem aCQ:∀av aF,D0 [dt av,eF aF] 141 aji (lf Pp) λb=>TY av aF b:=λ_ _ b=>by kernel_rfl
theorem aCR [aA]:SC (ajl DZ):=s0 (.c dI (.c eV (.nil _))) (aCQ aX aT)
def aBw:=qa (pr (cu aQ Ey) bL)
def ahD:=qe aQP
abbrev aBx:=ahD.B
abbrev anz:=Int->Int->Int->Int->Int->Int->Int->Int->Int->Bool->Option aBx
def anA (g:anz):Ct:=(93,FC aBw (lf ahD) (λb=>g b.1.1 b.1.2.1 b.1.b.1 b.1.b.2.1 b.1.c.1 b.1.c.2.1 b.1.c.b.1 b.1.c.b.2.1 b.1.d b.2))
def anB (av:cD)(JP:ajk)(x0:Int)(x1:Int)(x2:Int)(x3:Int)(x4:Int)(x5:Int)(x6:Int)(x7:Int)(x8:Int)(x9:Bool):Pg aBx:=ae (decide (x1<0)) (ret (((0,0),1),x9)) (ae (decide (x1>300000)) (ret (((0,0),1),x9)) (ae (decide (x2<1)) (ret (((0,0),1),x9)) (ae (decide (x2>1000000)) (ret (((0,0),1),x9)) (opt (av x1 1073741824 1000 x9) λd=>opt (JP x2) λak=>ret (((d.1,ak),0),d.2)))))
def Cj:=λx0 x1 x2 x3 x4 x5 x6 x7 x8 x9=>(anB aX DZ x0 x1 x2 x3 x4 x5 x6 x7 x8 x9).val
theorem aOO:∀av JP,D1 [dt av,ajl JP] [0] 93 aBw (lf ahD) λb=>anB av JP b.1.1 b.1.2.1 b.1.b.1 b.1.b.2.1 b.1.c.1 b.1.c.2.1 b.1.c.b.1 b.1.c.b.2.1 b.1.d b.2:=λ_ _ b=>by kernel_rfl
theorem aBy [aA]:SC (anA Cj):=s0 (.c dI (.c aCR (.nil _))) (aOO aX DZ)
def ajm:=qa (pr (cu aQ akG) bL)
def Pq:=qe axt
abbrev ajn:=Pq.B
abbrev D3:=NI->Bool->Option ajn
def TZ (g:D3):Ct:=(258,FC ajm (lf Pq) (λb=>g b.1 b.2))
def T0 (bO:mG)(oN:Kk)(x0:Nat->Int)(x1:Bool):Pg ajn:=opt (bO x0 4) λd=>opt (oN d.1 d.2.1 d.2.2 (x0 22) (x0 23) 0 x1) λd=>ret d
def qK:=λx0 x1=>(T0 fh uo x0 x1).val
theorem aCS:∀bO oN,D0 [sE bO,WW oN] 258 ajm (lf Pq) λb=>T0 bO oN b.1 b.2:=λ_ _ b=>by kernel_rfl
theorem ajo [aA]:SC (TZ qK):=s0 (.c v8 (.c agP (.nil _))) (aCS fh uo)
def awt:=qa (pr (cu (app 0 27) HR) (cl axq nil))
def ade:=qe (res (pu Q8 (pl (cl (An axq) nil) nil)))
abbrev awu:=ade.B
abbrev Nc:=Int->Int->Int->NI->Int->Int->Int->Option awu
def ahE (g:Nc):Ct:=(259,FC awt (lf ade) (λb=>g b.1.1 b.1.2.1 b.1.b b.2.1 b.b.1 b.b.2.1 b.c))
def ahF (x0:Int)(x1:Int)(x2:Int)(x3:Nat->Int)(x4:Int)(x5:Int)(x6:Int):Pg awu:=ret (λj=>bif z9 j 6 then x2 else bif z9 j 23 then wI (0-x1) else bif z9 j 5 then x1 else bif z9 j 22 then wI (0-x0) else bif z9 j 4 then x0 else x3 j,x4,x5,x6)
def C6:=λx0 x1 x2 x3 x4 x5 x6=>(ahF x0 x1 x2 x3 x4 x5 x6).val
abbrev ahG:=Unit
def awv (p:ahG):KK:=⟨[],⟨[⟨2,(1::2::4::rg 6 24 []),[]⟩],[],[],[],(some ⟨0,(rg 0 30 []),[]⟩)⟩,0,259⟩
theorem aLQ (p:ahG):D2 (awv p) awt (lf ade) λb=>ahF b.1.1 b.1.2.1 b.1.b b.2.1 b.b.1 b.b.2.1 b.c:=λb=>by kernel_rfl
abbrev aww:ahG:=()
theorem awx [aA]:SC (ahE C6):=sc (kS (k:=awv aww) (.nil _) [2] [] ⟨kN,trivial⟩ trivial (aLQ aww))
def ajp:=qa (pr (cu aQ (c lk (c (aa akB) jo))) bL)
def Pr:=qe aEc
abbrev ajq:=Pr.B
abbrev ajr:=NI->Int->Int->Int->Bool->Option ajq
def ajs (g:ajr):Ct:=(236,FC ajp (lf Pr) (λb=>g b.1.1 b.1.2.1.1 b.1.2.1.2 b.1.b b.2))
def T1 (T2:D3)(wb:Ce)(aY:dg)(aE:cN)(ahH:Nc)(x0:Nat->Int)(x1:Int)(x2:Int)(x3:Int)(x4:Bool):Pg ajq:=opt (T2 x0 x4) λd=>opt (wb d.1.1 d.1.2.1 d.1.2.2 d.2) λak=>ae (decide (ak.1<1073741824)) (ret (((λx=>0,0,0,0),4),ak.2)) (opt (aY x1 ak.1 ak.2) λaJ=>opt (aE d.1.1 ak.1 30 aJ.2) λbB=>opt (aE d.1.2.1 ak.1 30 bB.2) λcK=>opt (aE d.1.2.2 ak.1 30 cK.2) λd=>opt (ahH bB.1 cK.1 d.1 (λx=>0) aJ.1 x2 x3) λeU=>ret ((eU,0),d.2))
def yT:=λx0 x1 x2 x3 x4=>(T1 qK o7 bS bh C6 x0 x1 x2 x3 x4).val
abbrev T3:=D3×Ce×dg×cN×Nc
def ajt (p:T3):KK:=⟨[TZ p.1,Ro p.2.1,iy p.b.1,gL p.b.2.1,ahE p.c],⟨[⟨8,(rg 1 7 (9::rg 14 19 (rg 34 14 []))),[]⟩],[],[],[],(some ⟨0,(rg 0 8 (rg 10 38 [])),[]⟩)⟩,0,236⟩
theorem aCT (p:T3):D2 (ajt p) ajp (lf Pr) λb=>T1 p.1 p.2.1 p.b.1 p.b.2.1 p.c b.1.1 b.1.2.1.1 b.1.2.1.2 b.1.b b.2:=λb=>by kernel_rfl
abbrev aju:T3:=(qK,o7,bS,bh,C6)
theorem aCU [aA]:SC (ajs yT):=sc (kS (k:=ajt aju) (.c ajo (.c aag (.c jD (.c ix (.c awx (.nil _)))))) [8] [] ⟨kN,trivial⟩ trivial (aCT aju))
def ajv:=qa (pr (cu aQ (c lk Cw)) bL)
def Ps:=qe aEc
abbrev ajw:=Ps.B
abbrev ajx:=NI->Int->Int->Bool->Option ajw
def ajy (g:ajx):Ct:=(237,FC ajv (lf Ps) (λb=>g b.1.1 b.1.2.1 b.1.b b.2))
def T4 (bg:dP)(fI:rH)(T2:D3)(Ry:FT)(aE:cN)(aB:bR)(aY:dg)(ahH:Nc)(x0:Nat->Int)(x1:Int)(x2:Int)(x3:Bool):Pg ajw:=opt (bg x0) λd=>opt (fI d.1 d.2.1 d.2.2.1 d.2.2.2 x3) λd=>opt (T2 x0 d.2) λak=>opt (Ry d.1 ak.1.1 ak.1.2.1 ak.1.2.2 ak.2) λaJ=>let n1:=aJ.1.1;ae (decide (n1<5368709120)) (ret (((λx=>0,0,0,0),4),aJ.2)) (opt (aE aJ.1.2.1 n1 30 aJ.2) λbB=>opt (aB bB.1 (d.1 0) 30 bB.2) λcK=>opt (aY (d.1 1) cK.1 cK.2) λeU=>opt (aE eU.1 n1 30 eU.2) λde=>opt (aB bB.1 (d.1 3) 30 de.2) λlG=>opt (aY (d.1 4) lG.1 lG.2) λtP=>opt (aE tP.1 n1 30 tP.2) λp8=>opt (aB bB.1 (d.1 6) 30 p8.2) λmM=>opt (aY (d.1 7) mM.1 mM.2) λd=>opt (aE d.1 n1 30 d.2) λd=>opt (ahH de.1 p8.1 d.1 (λx=>0) (wI (0-bB.1)) x1 x2) λxZ=>ret ((xZ,0),d.2))
def yU:=λx0 x1 x2 x3=>(T4 cj jY qK wa bh aU bS C6 x0 x1 x2 x3).val
abbrev T5:=dP×rH×D3×FT×cN×bR×dg×Nc
def ajz (p:T5):KK:=⟨[jb p.1,Eo p.2.1,TZ p.b.1,aaq p.b.2.1,gL p.c.1,fg p.c.2.1,iy p.c.b.1,ahE p.c.b.2],⟨[⟨9,(rg 1 7 (9::rg 15 26 (rg 42 26 []))),[]⟩],[],[],[],(some ⟨0,(rg 0 8 (rg 10 58 [])),[]⟩)⟩,0,237⟩
theorem aCV (p:T5):D2 (ajz p) ajv (lf Ps) λb=>T4 p.1 p.2.1 p.b.1 p.b.2.1 p.c.1 p.c.2.1 p.c.b.1 p.c.b.2 b.1.1 b.1.2.1 b.1.b b.2:=λb=>by kernel_rfl
abbrev ajA:T5:=(cj,jY,qK,wa,bh,aU,bS,C6)
theorem aCW [aA]:SC (ajy yU):=sc (kS (k:=ajz ajA) (.c kd (.c G7 (.c ajo (.c amb (.c ix (.c fK (.c jD (.c awx (.nil _))))))))) [9] [] ⟨kN,trivial⟩ trivial (aCV ajA))
def aeM:=qa (pl jo nil)
def Nd:=qe HO
abbrev aeN:=Nd.B
abbrev Pu:=Int->Option aeN
def aeO (g:Pu):Ct:=(142,FC aeM (lf Nd) (λb=>g b))
def Pv (av:cD)(aF:cx)(x0:Int):Pg aeN:=opt (av (wI (x0*x0)) 17592186044416 1000000000000 false) λd=>opt (aF d.1 1 72057594037927936 d.2) λd=>ret d.1
def BN:=λx0=>(Pv aX aT x0).val
theorem ayR:∀av aF,D0 [dt av,eF aF] 142 aeM (lf Nd) λb=>Pv av aF b:=λ_ _ b=>by kernel_rfl
theorem ayS [aA]:SC (aeO BN):=s0 (.c dI (.c eV (.nil _))) (ayR aX aT)
def awy:=qa (pr (cu aQ Ey) bL)
def adf:=qe aYg
abbrev awz:=adf.B
abbrev ahI:=Int->Int->Int->Int->Int->Int->Int->Int->Int->Bool->Option awz
def ahJ (g:ahI):Ct:=(94,FC awy (lf adf) (λb=>g b.1.1 b.1.2.1 b.1.b.1 b.1.b.2.1 b.1.c.1 b.1.c.2.1 b.1.c.b.1 b.1.c.b.2.1 b.1.d b.2))
def ahK (av:cD)(ayT:Pu)(x0:Int)(x1:Int)(x2:Int)(x3:Int)(x4:Int)(x5:Int)(x6:Int)(x7:Int)(x8:Int)(x9:Bool):Pg awz:=ae (decide (x1< -10000000)) (ret (((0,0,0,0),1),x9)) (ae (decide (x1>10000000)) (ret (((0,0,0,0),1),x9)) (ae (decide (x2< -10000000)) (ret (((0,0,0,0),1),x9)) (ae (decide (x2>10000000)) (ret (((0,0,0,0),1),x9)) (ae (decide (x3<1)) (ret (((0,0,0,0),1),x9)) (ae (decide (x3>10000000)) (ret (((0,0,0,0),1),x9)) (ae (decide (x4<0)) (ret (((0,0,0,0),1),x9)) (ae (decide (x4>100)) (ret (((0,0,0,0),1),x9)) (opt (av x1 1073741824 1000000 x9) λd=>opt (av x2 1073741824 1000000 d.2) λak=>opt (ayT x3) λaJ=>ret (((d.1,ak.1,aJ,x4),0),ak.2)))))))))
def zL:=λx0 x1 x2 x3 x4 x5 x6 x7 x8 x9=>(ahK aX BN x0 x1 x2 x3 x4 x5 x6 x7 x8 x9).val
abbrev ahL:=cD×Pu
def awA (p:ahL):KK:=⟨[dt p.1,aeO p.2],⟨[⟨2,(1::rg 5 4 (rg 12 4 (17::rg 20 8 (32::33::38::39::rg 44 20 [])))),[]⟩],[],[0],[],(some ⟨0,(rg 0 4 (rg 6 58 [])),[]⟩)⟩,0,94⟩
theorem aLR (p:ahL):D2 (awA p) awy (lf adf) λb=>ahK p.1 p.2 b.1.1 b.1.2.1 b.1.b.1 b.1.b.2.1 b.1.c.1 b.1.c.2.1 b.1.c.b.1 b.1.c.b.2.1 b.1.d b.2:=λb=>by kernel_rfl
abbrev awB:ahL:=(aX,BN)
theorem awC [aA]:SC (ahJ zL):=sc (kS (k:=awA awB) (.c dI (.c ayS (.nil _))) [2] [] ⟨kN,trivial⟩ trivial (aLR awB))
def aeP:=qa (pr (cu aQ akG) bL)
def Nf:=qe aQN
abbrev aeQ:=Nf.B
abbrev Pw:=NI->Bool->Option aeQ
def aeR (g:Pw):Ct:=(260,FC aeP (lf Nf) (λb=>g b.1 b.2))
def Px (bg:dP)(fI:rH)(aE:cN)(x0:Nat->Int)(x1:Bool):Pg aeQ:=opt (bg x0) λd=>opt (fI d.1 d.2.1 d.2.2.1 d.2.2.2 x1) λd=>ae (decide (d.1 8<751619277)) (ret ((0,4),d.2)) (opt (aE (x0 9) (d.1 8) 30 d.2) λd=>let y0:=wI (0-d.1);ae (decide (y0<536870912)) (ret ((0,4),d.2)) (ret ((y0,0),d.2)))
def wL:=λx0 x1=>(Px cj jY bh x0 x1).val
theorem ayU:∀bg fI aE,D0 [jb bg,Eo fI,gL aE] 260 aeP (lf Nf) λb=>Px bg fI aE b.1 b.2:=λ_ _ _ b=>by kernel_rfl
theorem ayV [aA]:SC (aeR wL):=s0 (.c kd (.c G7 (.c ix (.nil _)))) (ayU cj jY bh)
def awD:=qa (pr (cu aQ (c lk (c afL jo))) bL)
def ajB:=qe (res (pr aXv (pl m4 nil)))
def aCX:=qe (res (pu (sf (cu (rc (fO (pu DG (pu wO (pu (szl rq4) (pu (nat 27) fR)))))) akE)) (pr m4 (cl aQT nil))))
abbrev VH:=ajB.B⊕(Bool×NI×Int×Int×Int×NI×Int)
def awE:VH->T:=ls (lf ajB) (λd=>lf aCX (d.1,d.2.1,d.b.1,d.b.2.1,d.c.1,d.c.2.1,d.c.b,d.b.2.1,d.c.1))
abbrev awF:=NI->Int->Int->Int->Int->Int->Bool->Option VH
def awG (g:awF):Ct:=(238,FC awD awE (λb=>g b.1.1 b.1.2.1.1 b.1.2.1.2.1 b.1.2.1.b.1 b.1.2.1.b.2 b.1.b b.2))
def VI (ayW:Pw)(bg:dP)(fI:rH)(bO:mG)(Ry:FT)(aE:cN)(aY:dg)(x0:Nat->Int)(x1:Int)(x2:Int)(x3:Int)(x4:Int)(x5:Int)(x6:Bool):Pg VH:=ae (decide (x4<30)) (ret (w7 (4,x6))) (opt (ayW x0 x6) λd=>let n1:=d.1.1;ae (d.1.2!=0) (ret (w7 (d.1.2,d.2))) (opt (bg x0) λak=>opt (fI ak.1 ak.2.1 ak.2.2.1 ak.2.2.2 d.2) λaJ=>opt (bO x0 4) λbB=>opt (Ry aJ.1 bB.1 bB.2.1 bB.2.2 aJ.2) λcK=>opt (aE cK.1.2.1 n1 30 cK.2) λeU=>opt (aY x1 eU.1 eU.2) λde=>opt (aE cK.1.1 n1 30 de.2) λlG=>opt (aY x2 (wI (0-lG.1)) lG.2) λtP=>opt (aE (aJ.1 1) n1 30 tP.2) λp8=>opt (aE (aJ.1 0) n1 30 p8.2) λmM=>opt (aE (aJ.1 4) n1 30 mM.2) λxZ=>opt (aE (aJ.1 3) n1 30 xZ.2) λLc=>opt (aE (aJ.1 7) n1 30 Lc.2) λMK=>opt (aE (aJ.1 6) n1 30 MK.2) λd=>ret (ww (d.2,λj=>bif z9 j 6 then MK.1 else bif z9 j 5 then xZ.1 else bif z9 j 4 then p8.1 else 0,de.1,x3,x5,λj=>bif z9 j 6 then wI (0-d.1) else bif z9 j 5 then wI (0-Lc.1) else bif z9 j 4 then wI (0-mM.1) else 0,tP.1))))
def zM:=λx0 x1 x2 x3 x4 x5 x6=>(VI wL cj jY fh wa bh bS x0 x1 x2 x3 x4 x5 x6).val
abbrev ahM:=Pw×dP×rH×mG×FT×cN×dg
def awH (p:ahM):KK:=⟨[aeR p.1,jb p.2.1,Eo p.b.1,sE p.b.2.1,aaq p.c.1,gL p.c.2.1,iy p.c.b],⟨[⟨11,(rg 1 9 (11::13::rg 16 49 (rg 66 30 []))),[]⟩],[],[0],[],(some ⟨0,(rg 0 8 (rg 10 86 [])),[]⟩)⟩,0,238⟩
theorem aLS (p:ahM):D2 (awH p) awD awE λb=>VI p.1 p.2.1 p.b.1 p.b.2.1 p.c.1 p.c.2.1 p.c.b b.1.1 b.1.2.1.1 b.1.2.1.2.1 b.1.2.1.b.1 b.1.2.1.b.2 b.1.b b.2:=λb=>by kernel_rfl
abbrev awI:ahM:=(wL,cj,jY,fh,wa,bh,bS)
theorem aLT [aA]:SC (awG zM):=sc (kS (k:=awH awI) (.c ayV (.c kd (.c G7 (.c v8 (.c amb (.c ix (.c jD (.nil _)))))))) [11] [] ⟨kN,trivial⟩ trivial (aLS awI))
def awJ:=qa (pl jo nil)
def adg:=qe Cy
abbrev awK:=adg.B
abbrev ahN:=Int->Option awK
def ahO (g:ahN):Ct:=(83,FC awJ (lf adg) (λb=>g b))
def VJ (x0:Int):Pg awK:=ae (decide (x0>=0)) (ret (decide (x0<6))) (ret false)
def vi:=λx0=>(VJ x0).val
theorem aLU:D0 [] 83 awJ (lf adg) λb=>VJ b:=λb=>by kernel_rfl
theorem awL [aA]:SC (ahO vi):=s0 (.nil _) aLU
def Rz:=qa (pr (cu KW jo) aQw)
def EE:=qe (res (pu Q8 (pl (cl (An (cl gi (cu aP (cu axn nil)))) nil) nil)))
abbrev RB:=EE.B
abbrev RC:=Int->Int->Int->Bool->Option RB
def RD (g:RC):Ct:=(265,FC Rz (lf EE) (λb=>g b.1 b.2.1 b.b.1 b.b.2))
def Ga (x0:Int)(x1:Int)(x2:Int)(x3:Bool):Pg RB:=ae (!x3) (ret x0) (ae (decide (x0>x1)) (ret x0) (ret x1))
def tk:=λx0 x1 x2 x3=>(Ga x0 x1 x2 x3).val
theorem anC:D0 [] 265 Rz (lf EE) λb=>Ga b.1 b.2.1 b.b.1 b.b.2:=λb=>by kernel_rfl
theorem anD [aA]:SC (RD tk):=s0 (.nil _) anC
def RF:=qa (pu (cu KW nil) aQw)
def EF:=qe (res (pu Q8 (pl (cl (An akC) nil) nil)))
abbrev RG:=EF.B
abbrev RH:=Int->Int->Bool->Option RG
def RI (g:RH):Ct:=(266,FC RF (lf EF) (λb=>g b.1 b.2.1 b.b))
def Gb (x0:Int)(x1:Int)(x2:Bool):Pg RG:=let y0:=wI (x1+1);ret (x0,if 1000<y0 then 1000 else y0,x2)
def tl:=λx0 x1 x2=>(Gb x0 x1 x2).val
theorem anE:D0 [] 266 RF (lf EF) λb=>Gb b.1 b.2.1 b.b:=λb=>by kernel_rfl
theorem anF [aA]:SC (RI tl):=s0 (.nil _) anE
def IW:=qa (dp (cu aDS (c ai (c ai aJ1))) λa=>(c nK (cl (cl (gs a.b.1 asu) nil) nil)))
def yk:=qe (res (pu Q8 (pl (cl aD9 adP) nil)))
abbrev IX:=yk.B
abbrev IY:=Int->Int->Nat->NI->NI->(Nat->Bool)->NI->NI->NI->Int->(Nat->Bool)->NI->NI->Bool->Option IX
def IZ (g:IY):Ct:=(256,vX 3 [.b,.i .i64,.i .i64] (FC IW (lf yk) (λb=>g b.1.1 b.1.2.1 b.1.b.1 b.2.1.1.1 b.2.1.1.2.1 b.2.1.1.b.1 b.2.1.1.b.2.1 b.2.1.1.c.1 b.2.1.1.c.2 b.2.1.2 b.b.1 b.b.2.1 b.c b.1.b.2)))
def Az (vj:ahN)(sK:acQ)(zN:RC)(zO:RH)(x0:Int)(x1:Int)(x2:Nat)(x3:Nat->Int)(x4:Nat->Int)(x5:Nat->Bool)(x6:Nat->Int)(x7:Nat->Int)(x8:Nat->Int)(x9:Int)(gw:Nat->Bool)(gx:Nat->Int)(EC:Nat->Int)(w0:Bool):Pg IX:=let n3:=((x5,x6,x7,x8).1 (z4 x0));let n2:=((x4,x5,x6,x7,x8).1 (z4 x0));let n1:=((x3,x4,x5,x6,x7,x8).1 (z4 x0));let y0:=aZ x0 6;let y1:=0+z4 x0*6+3;let y2:=wr y1 36;let y3:=y2&&wr y1 37;opt (vj x0) λd=>ae (!d) (ret ((x3,x4,x5,x6,x7,x8),x9)) (ae (ws x2==0) (ret ((x3,x4,x5,x6,x7,x8),x9)) (ae (z9 x2 x2) (opt (sK x2 gw gx EC (w0&&true)) λd=>ae (decide (d.1>0)) (ae y0 (ae y2 (opt (zN x1 n1 n2 n3) λd=>ae y3 (ret ((λj=>bif z9 j (z4 x0) then d else(x3,x4,x5,x6,x7,x8).1 j,λj=>bif z9 j (z4 x0) then 0 else(x4,x5,x6,x7,x8).1 j,λj=>bif z9 j (z4 x0) then true else(x5,x6,x7,x8).1 j,x6,x7,x8),x9)) no) no) no) (ae y0 (ae y2 (opt (zO n1 n2 n3) λd=>ae y3 (ret ((λj=>bif z9 j (z4 x0) then d.1 else(x3,x4,x5,x6,x7,x8).1 j,λj=>bif z9 j (z4 x0) then d.2.1 else(x4,x5,x6,x7,x8).1 j,λj=>bif z9 j (z4 x0) then d.2.2 else(x5,x6,x7,x8).1 j,x6,x7,x8),x9)) no) no) no)) no))
def nU:=λx0 x1 x2 x3 x4 x5 x6 x7 x8 x9 gw gx EC w0=>(Az vi Aw tk tl x0 x1 x2 x3 x4 x5 x6 x7 x8 x9 gw gx EC w0).val
theorem adh:∀vj sK zN zO,D1 [ahO vj,acR sK,RD zN,RI zO] [0] 256 IW (lf yk) λb=>Az vj sK zN zO b.1.1 b.1.2.1 b.1.b.1 b.2.1.1.1 b.2.1.1.2.1 b.2.1.1.b.1 b.2.1.1.b.2.1 b.2.1.1.c.1 b.2.1.1.c.2 b.2.1.2 b.b.1 b.b.2.1 b.c b.1.b.2:=λ_ _ _ _ b=>by kernel_rfl
theorem adi [aA]:SC (IZ nU):=sc (Sound.nil 3 [.b,.i .i64,.i .i64]<|k0 (.c awL (.c arh (.c anD (.c anF (.nil _))))) (adh vi Aw tk tl))
def N4:=qa (pr (cu KW Cw) aQw)
def C7:=qe aKa
abbrev N5:=C7.B
abbrev N6:=Int->Int->Int->Int->Bool->Option N5
def N7 (g:N6):Ct:=(46,FC N4 (lf C7) (λb=>g b.1.1 b.1.2 b.2.1 b.b.1 b.b.2))
def EG (x0:Int)(x1:Int)(x2:Int)(x3:Int)(x4:Bool):Pg N5:=let y0:=decide (x1>=0);ae (!x4) (ret false) (ae (decide (x0>=x2)) (ae y0 (ret (decide (wU (wU x0-wU x2)<=wU x1))) (ret false)) (ae y0 (ret true) (ret (decide (wU (wU x2-wU x0)>=wU (0-wU x1))))))
def qW:=λx0 x1 x2 x3 x4=>(EG x0 x1 x2 x3 x4).val
theorem akd:D0 [] 46 N4 (lf C7) λb=>EG b.1.1 b.1.2 b.2.1 b.b.1 b.b.2:=λb=>by kernel_rfl
theorem ake [aA]:SC (N7 qW):=s0 (.nil _) akd
def Le:=qa (pr (cu (app 0 6) jo) (cl (a 3 akC kv) nil))
def AA:=qe aKa
abbrev Lf:=AA.B
abbrev ub:=Int->Int->Int->Bool->Int->Int->Int->Option Lf
def BO (g:ub):Ct:=(18,FC Le (lf AA) (λb=>g b.1 b.2.1.1 b.2.1.2.1 b.2.1.b b.b.1 b.b.2.1 b.c))
def BP (xT:N6)(x0:Int)(x1:Int)(x2:Int)(x3:Bool)(x4:Int)(x5:Int)(x6:Int):Pg Lf:=opt (xT x0 x5 x1 x2 x3) λd=>ae d (ret (decide (x2<=x6))) (ret false)
def jy:=λx0 x1 x2 x3 x4 x5 x6=>(BP qW x0 x1 x2 x3 x4 x5 x6).val
theorem aeS:∀xT,D0 [N7 xT] 18 Le (lf AA) λb=>BP xT b.1 b.2.1.1 b.2.1.2.1 b.2.1.b b.b.1 b.b.2.1 b.c:=λ_ b=>by kernel_rfl
theorem Lg [aA]:SC (BO jy):=s0 (.c ake (.nil _)) (aeS qW)
def I0:=qa (pr (cu aDS Cw) aKp)
def ym:=qe aKa
abbrev I1:=ym.B
abbrev AB:=Int->Int->NI->NI->(Nat->Bool)->NI->NI->NI->Int->Option I1
def I2 (g:AB):Ct:=(110,FC I0 (lf ym) (λb=>g b.1.1 b.1.2 b.2.1.1 b.2.1.2.1 b.2.1.b.1 b.2.1.b.2.1 b.2.1.c.1 b.2.1.c.2 b.b))
def AD (vj:ahN)(lI:ub)(x0:Int)(x1:Int)(x2:Nat->Int)(x3:Nat->Int)(x4:Nat->Bool)(x5:Nat->Int)(x6:Nat->Int)(x7:Nat->Int)(x8:Int):Pg I1:=opt (vj x0) λd=>ae d (ae (aZ x0 6) (ae (wr (0+z4 x0*6+6) 36) (opt (lI x1 ((x2,x3,x4,x5,x6,x7).1 (z4 x0)) ((x3,x4,x5,x6,x7).1 (z4 x0)) ((x4,x5,x6,x7).1 (z4 x0)) ((x5,x6,x7).1 (z4 x0)) (x6 (z4 x0)) (x7 (z4 x0))) λd=>ret d) no) no) (ret false)
def nV:=λx0 x1 x2 x3 x4 x5 x6 x7 x8=>(AD vi jy x0 x1 x2 x3 x4 x5 x6 x7 x8).val
theorem adj:∀vj lI,D0 [ahO vj,BO lI] 110 I0 (lf ym) λb=>AD vj lI b.1.1 b.1.2 b.2.1.1 b.2.1.2.1 b.2.1.b.1 b.2.1.b.2.1 b.2.1.c.1 b.2.1.c.2 b.b:=λ_ _ b=>by kernel_rfl
theorem adk [aA]:SC (I2 nV):=s0 (.c awL (.c Lg (.nil _))) (adj vi jy)
def I3:=qa (pr (cu aDS jo) aKp)
def yo:=qe axp
abbrev I4:=yo.B
abbrev I5:=Int->NI->NI->(Nat->Bool)->NI->NI->NI->Int->Option I4
def I6 (g:I5):Ct:=(43,FC I3 (lf yo) (λb=>g b.1 b.2.1.1 b.2.1.2.1 b.2.1.b.1 b.2.1.b.2.1 b.2.1.c.1 b.2.1.c.2 b.b))
def eQ:=qs (st (pr (cu aDS (c ai (us 3 (c ai (us 2 aJZ))))) (pl (cl lO nil) nil)))
def Gd:=qs (st (pr (cu aDS (c ai (us 3 (c ai (us 2 aJ8))))) (pl (cl lO nil) nil)))
abbrev ma:=Gd.B
def Ge {ρ:Type}:=@ef ma ((.ex 0)) Gd ρ
def xq (lI:ub)(d:eQ.B):PL eQ ma:=let n3:=d.1.1;let n2:=d.2.1.2.2;let n1:=d.1.2;let y0:=z4 n1.2;let y1:=y0*6;let y2:=wI (n1.2+1);let y3:=decide (n1.2<6);ae y3 (ae (aZ n1.2 6) (ae (wr (2+y1+1) 36) (ae (n2.1 y0) (ae (wr (0+y1+6) 36) (opt (lI n3 (d.2.1.1 y0) (d.2.1.2.1 y0) (n2.1 y0) (n2.2.1 y0) (n2.2.2.1 y0) (n2.2.2.2 y0)) λak=>ae (!ak) (ae (!decide (n1.2<0)) (ret (w7 ((n3,wI (n1.1+wI (1*2^min y0 64)),y2),d.2))) no) (ret (w7 ((n3,n1.1,y2),d.2)))) no) (ret (w7 ((n3,n1.1,y2),d.2)))) no) no) (ret (ww ((n3,n1.1,n1.2,y3),d.2)))
def xr:=bG (xq jy) 2000
def AE (dX:LT eQ ma)(x0:Int)(x1:Nat->Int)(x2:Nat->Int)(x3:Nat->Bool)(x4:Nat->Int)(x5:Nat->Int)(x6:Nat->Int)(x7:Int):Pg I4:=opt (dX ((x0,0,0),(x1,x2,x3,x4,x5,x6),x7)) λd=>ret d.1.2.1
def nW:=λx0 x1 x2 x3 x4 x5 x6 x7=>(AE xr x0 x1 x2 x3 x4 x5 x6 x7).val
abbrev sL:=ub×(LT eQ ma)
def AF (p:sL):KK:=⟨[BO p.1],⟨[⟨3,(2::3::4::6::7::rg 9 13 (rg 26 7 (rg 22 4 []))),[]⟩],[fU 3 1 eQ Ge p.2],[],[],(some ⟨0,(rg 0 4 (rg 5 28 [])),[]⟩)⟩,1,43⟩
theorem VK (p:sL):LI (AF p) 3 eQ Ge (xq p.1):=λ_ d c K=>by kernel_rfl
theorem adl (p:sL):D2 (AF p) I3 (lf yo) λb=>AE p.2 b.1 b.2.1.1 b.2.1.2.1 b.2.1.b.1 b.2.1.b.2.1 b.2.1.c.1 b.2.1.c.2 b.b:=λb=>by kernel_rfl
abbrev AG:sL:=(jy,xr)
theorem adm [aA]:SC (I6 nW):=sc (kS (k:=AF AG) (.c Lg (.nil _)) [3] [] ⟨kL (VK AG),trivial⟩ trivial (adl AG))
def N8:=qa (pu (cu aDS nil) aKp)
def C8:=qe aKa
abbrev N9:=C8.B
abbrev N':=NI->NI->(Nat->Bool)->NI->NI->NI->Int->Option N9
def Oa (g:N'):Ct:=(44,FC N8 (lf C8) (λb=>g b.1.1 b.1.2.1 b.1.b.1 b.1.b.2.1 b.1.c.1 b.1.c.2 b.2))
def EH (x0:Nat->Int)(x1:Nat->Int)(x2:Nat->Bool)(x3:Nat->Int)(x4:Nat->Int)(x5:Nat->Int)(x6:Int):Pg N9:=ret (decide (x6>=10))
def qX:=λx0 x1 x2 x3 x4 x5 x6=>(EH x0 x1 x2 x3 x4 x5 x6).val
theorem akf:D0 [] 44 N8 (lf C8) λb=>EH b.1.1 b.1.2.1 b.1.b.1 b.1.b.2.1 b.1.c.1 b.1.c.2 b.2:=λb=>by kernel_rfl
theorem akg [aA]:SC (Oa qX):=s0 (.nil _) akf
def Gf:=qa (pr (cu aDS (c (aa aJ7) (cl (aa aJ7) nil))) aKp)
def vk:=qe (res (pu Q8 (pl (cl aD9 nil) nil)))
abbrev Gg:=vk.B
abbrev Gh:=Bool->Int->Int->Bool->Int->Int->NI->NI->(Nat->Bool)->NI->NI->NI->Int->Option Gg
def Gi (g:Gh):Ct:=(230,FC Gf (lf vk) (λb=>g b.1.1.1 b.1.1.2.1 b.1.1.b b.1.2.1 b.1.b.1 b.1.b.2 b.2.1.1 b.2.1.2.1 b.2.1.b.1 b.2.1.b.2.1 b.2.1.c.1 b.2.1.c.2 b.b))
def xt (x0:Bool)(x1:Int)(x2:Int)(x3:Bool)(x4:Int)(x5:Int)(x6:Nat->Int)(x7:Nat->Int)(x8:Nat->Bool)(x9:Nat->Int)(gw:Nat->Int)(gx:Nat->Int)(EC:Int):Pg Gg:=let y0:=wI (EC+1);let y1:=wI (EC-1);ae (decide (x1>0)) (ae (decide (x4>0)) (ae (!x0) (ae (!x3) (ret ((x6,x7,x8,x9,gw,gx),if 1000<y0 then 1000 else y0)) (ret ((x6,x7,x8,x9,gw,gx),if 0>y1 then 0 else y1))) (ret ((x6,x7,x8,x9,gw,gx),if 0>y1 then 0 else y1))) (ae (decide (x1<0)) (ae (!x0) (ae (!x3) (ae (decide (x4<0)) (ret ((x6,x7,x8,x9,gw,gx),if 1000<y0 then 1000 else y0)) (ret ((x6,x7,x8,x9,gw,gx),if 0>y1 then 0 else y1))) (ret ((x6,x7,x8,x9,gw,gx),if 0>y1 then 0 else y1))) (ret ((x6,x7,x8,x9,gw,gx),if 0>y1 then 0 else y1))) (ae (!x0) (ae (!x3) (ret ((x6,x7,x8,x9,gw,gx),if 0>y1 then 0 else y1)) (ret ((x6,x7,x8,x9,gw,gx),if 0>y1 then 0 else y1))) (ret ((x6,x7,x8,x9,gw,gx),if 0>y1 then 0 else y1))))) (ae (decide (x1<0)) (ae (!x0) (ae (!x3) (ae (decide (x4<0)) (ret ((x6,x7,x8,x9,gw,gx),if 1000<y0 then 1000 else y0)) (ret ((x6,x7,x8,x9,gw,gx),if 0>y1 then 0 else y1))) (ret ((x6,x7,x8,x9,gw,gx),if 0>y1 then 0 else y1))) (ret ((x6,x7,x8,x9,gw,gx),if 0>y1 then 0 else y1))) (ae (!x0) (ae (!x3) (ret ((x6,x7,x8,x9,gw,gx),if 0>y1 then 0 else y1)) (ret ((x6,x7,x8,x9,gw,gx),if 0>y1 then 0 else y1))) (ret ((x6,x7,x8,x9,gw,gx),if 0>y1 then 0 else y1))))
def mb:=λx0 x1 x2 x3 x4 x5 x6 x7 x8 x9 gw gx EC=>(xt x0 x1 x2 x3 x4 x5 x6 x7 x8 x9 gw gx EC).val
theorem Yq:D0 [] 230 Gf (lf vk) λb=>xt b.1.1.1 b.1.1.2.1 b.1.1.b b.1.2.1 b.1.b.1 b.1.b.2 b.2.1.1 b.2.1.2.1 b.2.1.b.1 b.2.1.b.2.1 b.2.1.c.1 b.2.1.c.2 b.b:=λb=>by kernel_rfl
theorem Yr [aA]:SC (Gi mb):=s0 (.nil _) Yq
end Go.Proofs.YtldgljclcgaibaaGreat
namespace Go.Proofs.YtldgljclcgaibaaGreat
open Go.Ab Go.Ab.Pg
instance aTX (x0:Nat->Int)(x1:Nat->Int)(x2:Nat->Int)(x3:Int)(x4:Bool):bA (nk x0 x1 x2 x3 x4):=by
 unfold nk E5;refine aK ?_;rw[bI];intro d1 _;refine ax (amY _ (by simp)) λd _ hd=> ?_;refine ax (amX _ (by simp)) λd _ hd=> ?_;simp only[bU]
instance a5Q (x0 x1 x2:Int):bA (F5 x0 x1 x2):=by
 have h1:=mT x0;have h2:=mT x1;obtain⟨a,b,e,_,_⟩:=BG (sat x0) (sat x0) (by omega) (by omega) (by omega) (by omega);unfold F5 XT;refine aK ?_;rw[pj,cz,pj,cz,aM];refine⟨λ_=>by rw[aw];trivial,λc1=> ?_⟩;rw[aM];refine⟨λ_=>by rw[aw];trivial,λc2=> ?_⟩;rw[aM];refine⟨λ_=>by rw[aw];trivial,λc3=> ?_⟩;have c1:=wS c1;have c2:=wS c2
 have sq:0<=x2*x2/\x2*x2<=1000000:=by
  refine⟨Aq (by omega) (by omega),?_⟩;have:=LH (show x2<=1000 by omega) (show x2<=1000 by omega) (by omega) (by omega);omega
 have w1:wI (x2*x2)=x2*x2:=eS;have w2:wI (x2*x2*65536)=x2*x2*65536:=eS;obtain⟨a2,b2,e2,_,_⟩:=BG (x2*x2*65536) (sat x1) (by omega) (by omega) (by omega) (by omega);rw[e,cz,w1,w2,e2,cz];simp only[bU]
theorem aCY (p:Nat×Bool)(a b:Int):∀(d:oy.B) (hd:0<=d.1.2.2.2/\d.1.2.2.2<=24/\d.1.1=p/\d.1.2.1=a/\d.1.2.2.1=b),Ok (MQ d) (λx:F6=>x.1.1=p/\x.1.2.1=a/\x.1.2.2.1=b):=
 bT (λd:oy.B=>z4 (24-d.1.2.2.2)) (λd hd=>by
  have hw:wI (d.1.2.2.2+1)=d.1.2.2.2+1:=bf;unfold XU;simp only[bU];simp only[nf,uL,hw];repeat' (first|exact True.intro|exact hd.2.2.1|exact hd.2.2.2.1|exact hd.2.2.2.2|omega|(intro _)|(apply And.intro))) (λd hd=>by omega)
theorem aCZ:∀(d:mK.B) (hd:0<=d.1.2.2/\d.1.2.2<=d.1.2.1/\d.1.2.1<=1999/\d.1.2.1=((d.1.1.1:Nat):Int)),Ok (F7 d) (λx:BF=>True):=
 bT (λd:mK.B=>z4 (d.1.2.1-d.1.2.2)) (λd hd=>by
  unfold MR;try dsimp only
  rw[aM];refine⟨λh=> ?_,λ_=>by simp only[aw,j8]⟩;have h:=dh h;have hw:wI (d.1.2.2+1)=d.1.2.2+1:=bf;rw[bQ,aS,bQ];refine⟨by simp only[bp];omega,rfl,?_⟩;refine ax (aCY d.1.1 d.1.2.1 d.1.2.2 _ (by simp)) λx _ hx=> ?_;obtain⟨a1,a2,a3⟩:=hx;simp only[bU,a1,a2,a3,hw];omega) (λd hd=>by omega)
theorem aLV (x:C2.B)(h:x.1.2.1<=1999):bA (zF x):=by
 unfold zF VB;refine aK ?_;rw[aM,aS,bQ];refine⟨λ_=>by simp only[bU],λ_=>⟨rfl,?_⟩⟩;refine ax (aCZ _ (hdN x.1.2.1 h)) λd _ hd=> ?_;simp only[aw]
instance a30 (x0:Nat->Int)(x1:Nat->Int)(x2:Nat->Int)(x3:Nat->Int)(x4:Int)(x5:Int)(x6:Int)(x7:Bool):bA (Cg x0 x1 x2 x3 x4 x5 x6 x7):=by
 have ta:=λ(d:Nat->Int) a b=>aLV ((d,1,true),a,b) (by show 1<=1999;omega)
 unfold Cg aaK;refine aK ?_;simp only[bU]
theorem aGz (n:Int):∀(d:nS.B) (hd:0<=d.1.2.2.2/\d.1.2.2.2<=d.1.2.2.1/\d.1.2.2.1<=1999/\d.1.2.2.1=((d.1.2.1.1:Nat):Int)/\(d.1.1:Int)=d.1.2.2.2/\d.1.2.2.1=n),Ok (IQ d) (λx:Er=>(x.1.1:Int)=n):=
 bT (λd:nS.B=>z4 (d.1.2.2.1-d.1.2.2.2)) (λd hd=>by
  have hw:wI (d.1.2.2.2+1)=d.1.2.2.2+1:=bf;unfold QK;simp only[bU];simp only[nf,uL,hw];repeat' (first|exact True.intro|omega|(intro _)|(apply And.intro))) (λd hd=>by omega)
theorem aLW (x:F9.B)(h:x.1.2.2.1<=1999):Ok (Ci x) (λr:aaM=>r.1.2.2=x.1.2.2.1):=by
 unfold Ci aaN;show PQ _ _;rw[aS,bQ,bQ];refine⟨rfl,rfl,?_⟩;refine ax (aGz ((x.1.2.2.1:Nat):Int) _ ?_) λd _ hd=> ?_
 .dsimp only;simp only[dQ];exact⟨by omega,by omega,by omega,trivial,rfl,trivial⟩
 .rw[aw];exact Int.ofNat.inj hd
theorem ayX:∀(d:pn.B) (hd:0<=d.1.2.2.2.2/\d.1.2.2.2.2<=d.1.2.2.2.1/\d.1.2.2.2.1<=1999/\d.1.2.2.2.1=((d.1.2.2.1.1:Nat):Int)),Ok (TJ d) (λx:DW=>True):=
 bT (λd:pn.B=>z4 (d.1.2.2.2.1-d.1.2.2.2.2)) (λd hd=>by
  have hw:wI (d.1.2.2.2.2+1)=d.1.2.2.2.2+1:=bf;unfold TI;simp only[bU];simp only[nf,pL,uL,hw];repeat' (first|exact True.intro|omega|(intro _)|(apply And.intro))) (λd hd=>by omega)
theorem arA (x0:Nat)(x1:Nat->Bool)(x2:Nat->Int)(x3:Nat->Int)(w0:Bool)(h:x0<=1999):bA (Aw x0 x1 x2 x3 w0):=by
 unfold Aw acS;refine aK ?_;rw[aS,bQ];refine⟨rfl,?_⟩;refine ax (ayX _ (hdN x0 h)) λd _ hd=> ?_;simp only[bU]
instance aVd:bA eT:=by
 unfold eT O9;exact aK (by simp only[bU])
theorem ayY:∀(d:kP.B) (hd:0<=d.1.2.2.2.2/\d.1.2.2.2.2<=d.1.2.2.2.1/\d.1.2.2.2.1<=1999/\d.1.2.2.2.1=((d.1.2.2.1.1:Nat):Int)/\(d.1.1:Int)<=d.1.2.2.2.2/\(d.1.2.1:Int)<=d.1.2.2.2.2/\d.1.2.2.2.1<=1900),Ok (DX d) (λx:yR=>x.1.1<=1900/\x.1.2.1<=1900):=
 bT (λd:kP.B=>z4 (d.1.2.2.2.1-d.1.2.2.2.2)) (λd hd=>by
  have hw:wI (d.1.2.2.2.2+1)=d.1.2.2.2.2+1:=bf;unfold JN;simp only[bU];simp only[nf,pL,uL,hw];repeat' (first|exact True.intro|omega|(intro _)|(apply And.intro))) (λd hd=>by omega)
theorem aH2 (x0:Nat)(x1:Bool)(x2:Nat->Int)(x3:Nat->Int)(x4:Nat->Int)(x5:Nat->Int)(x6:Nat->Int)(x7:Nat->Int)(x8:Nat->Int)(x9:Nat->Int)(gw:Nat->Int)(gx:Nat->Int)(w0:Bool)(h:x0<=1900):bA (wc x0 x1 x2 x3 x4 x5 x6 x7 x8 x9 gw gx w0):=by
 unfold wc QM;try dsimp only
 refine aK ?_;rw[bI];intro d1 _;rw[aS,bQ,bQ];refine⟨rfl,rfl,?_⟩;refine ax (ayY _ ?_) λd _ hd=> ?_
 .try dsimp only
  simp only[dQ];exact⟨by omega,by omega,by omega,trivial,by omega,by omega,by omega⟩
 .have t1:=λa b c e g=>ahr d.1.1 a b c e g hd.1
  have t2:=λa b c e g=>ahr d.1.2.1 a b c e g hd.2
  simp only[bU,aS,On,FH]
instance a5R (x0 x1:Nat->Int)(x2:Int)(x4:Bool)(x5:Nat->Int)(w0:Bool):bA (cJ x0 x1 x2 4 x4 x5 w0):=MW _ _ _ _ _ _ _ (by omega)
instance a5S (x0 x1:Nat->Int)(x2:Int)(x4:Bool)(x5:Nat->Int)(w0:Bool):bA (cJ x0 x1 x2 3 x4 x5 w0):=MW _ _ _ _ _ _ _ (by omega)
instance a5T (x0 x1:Nat->Int)(x2:Int)(x4:Bool)(x5:Nat->Int)(w0:Bool):bA (cJ x0 x1 x2 2 x4 x5 w0):=MW _ _ _ _ _ _ _ (by omega)
instance a5U (x0 x1:Nat->Int)(x2:Int)(x4:Bool)(x5:Nat->Int)(w0:Bool):bA (cJ x0 x1 x2 1 x4 x5 w0):=MW _ _ _ _ _ _ _ (by omega)
instance a18 (x0:Nat->Int)(x1:Nat->Int)(x2:Nat->Int)(x3:Int)(x4:Int)(x5:Bool):bA (zH x0 x1 x2 x3 x4 x5):=by
 unfold zH VG;exact aK (by simp only[bU])
theorem awM:∀(d:ly.B) (hd:0<=d.1.2.2.2.2/\d.1.2.2.2.2<=d.1.2.2.2.1/\d.1.2.2.2.1<=1999/\d.1.2.2.2.1=((d.1.2.2.1.1:Nat):Int)/\(d.1.2.1:Int)=d.1.2.2.2.2/\0<=d.1.1/\d.1.1+d.1.2.2.2.1<=24),Ok (Hf d) (λx:BH=>True):=
 bT (λd:ly.B=>z4 (d.1.2.2.2.1-d.1.2.2.2.2)) (λd hd=>by
  have hw:wI (d.1.2.2.2.2+1)=d.1.2.2.2.2+1:=bf;unfold O';try dsimp only
  have h1:wI (d.1.1+d.1.2.2.2.2)=d.1.1+d.1.2.2.2.2:=eS;simp only[h1];simp only[bU];simp only[nf,pL,uL,hw];repeat' (first|exact True.intro|omega|(intro _)|(apply And.intro))) (λd hd=>by omega)
theorem Ys (x0:Nat->Int)(x1:Int)(x2:Nat)(x3:Bool)(x4:Nat->Int)(w0:Bool)(h0:0<=x1)(h1:x1+(x2:Int)<=24):bA (gA x0 x1 x2 x3 x4 w0):=by
 unfold gA M3;refine aK ?_;rw[bI];intro d1 _;rw[aS,bQ,bQ];refine⟨rfl,rfl,?_⟩;refine ax (awM _ ?_) λd _ hd=> ?_
 .dsimp only;simp only[dQ];exact⟨by omega,by omega,by omega,trivial,rfl,h0,h1⟩
 .simp only[bU]
def ajC (a:Int)(n:Nat)(f:Nat->Int):Nat->Int:=λj=>bif z9 j (n+1) then a else bif z9 j n then a else f j
theorem sum_add (a b:Int)(n:Nat)(hn:n<=1000)(f g:Nat->Int):nT a b n n f g=some ((n+2,n+2),ajC a n f,ajC b n g):=by
 have hb:wr ((n+2)*8) 140737488355328=true:=by rw[ch];omega
 simp only[nT,X3,bN,bP,eD,hb,bn];rfl
theorem aVe (a b:Int)(f g:Nat->Int):nT a b 0 0 f g=some ((2,2),ajC a 0 f,ajC b 0 g):=sum_add a b 0 (by omega) f g
theorem aVf (a b:Int)(f g:Nat->Int):nT a b 2 2 f g=some ((4,4),ajC a 2 f,ajC b 2 g):=sum_add a b 2 (by omega) f g
theorem aVg (a b:Int)(f g:Nat->Int):nT a b 4 4 f g=some ((6,6),ajC a 4 f,ajC b 4 g):=sum_add a b 4 (by omega) f g
theorem aVh (a b:Int)(f g:Nat->Int):nT a b 6 6 f g=some ((8,8),ajC a 6 f,ajC b 6 g):=sum_add a b 6 (by omega) f g
theorem aVi (a b:Int)(f g:Nat->Int):nT a b 8 8 f g=some ((10,10),ajC a 8 f,ajC b 8 g):=sum_add a b 8 (by omega) f g
instance a7B (eJ:Bool)(f g:Nat->Int)(w w':Bool):bA (bu 30 6 6 eJ f g w w'):=MV 6 (by omega) eJ f g w w'
instance a7C (eJ:Bool)(f g:Nat->Int)(w w':Bool):bA (bu 30 8 8 eJ f g w w'):=MV 8 (by omega) eJ f g w w'
instance a6N (eJ:Bool)(f g:Nat->Int)(w w':Bool):bA (bu 30 10 10 eJ f g w w'):=MV 10 (by omega) eJ f g w w'
instance a1d (x0:Int)(x1:Int)(x2:Int)(x3:Int)(x4:Int)(x5:Int)(x6:Int)(x7:Bool):bA (we x0 x1 x2 x3 x4 x5 x6 x7):=by
 unfold we ac0;try dsimp only
 exact aK (by simp only[bU,aVe,aVf,aVg,aVh,aVi,cz,aS,SU,On,FH])
instance a1e (x0:Int)(x1:Int)(x2:Int)(x3:Int)(x4:Int)(x5:Int)(x6:Int)(x7:Int)(x8:Int):bA (Ax x0 x1 x2 x3 x4 x5 x6 x7 x8):=by
 unfold Ax ac3;exact aK (by simp only[bU])
instance a1f (x0:Int)(x1:Int)(x2:Int):bA (gM x0 x1 x2):=by
 unfold gM IV;exact aK (by simp only[bU])
instance a19 (x0:Int)(x1:Int)(x2:Int)(x3:Int)(x4:Int)(x5:Int)(x6:Int)(x7:Int)(x8:Int):bA (M5 x0 x1 x2 x3 x4 x5 x6 x7 x8):=by
 unfold M5 ahu;exact aK (by simp only[bU])
instance aVj (x0:Int):bA (BI x0):=by
 unfold BI Pd;exact aK (by simp only[bU])
instance a2a (x0:Int)(x1:Int)(x2:Int)(x3:Int)(x4:Int)(x5:Int)(x6:Int)(x7:Int)(x8:Int)(x9:Bool):bA (zI x0 x1 x2 x3 x4 x5 x6 x7 x8 x9):=by
 unfold zI ahy;exact aK (by simp only[bU])
theorem atG:∀(d:lY.B) (hd:0<=d.1.2.2/\d.1.2.2<=d.1.2.1/\d.1.2.1<=1999/\d.1.2.1=((d.1.1.1:Nat):Int)),Ok (M8 d) (λx:zJ=>True):=
 bT (λd:lY.B=>z4 (d.1.2.1-d.1.2.2)) (λd hd=>by
  have hw:wI (d.1.2.2+1)=d.1.2.2+1:=bf;unfold M7;simp only[bU];simp only[nf,pL,uL,hw];repeat' (first|exact True.intro|omega|(intro _)|(apply And.intro))) (λd hd=>by omega)
theorem aC0 (x0:Nat)(x1:Nat->Int)(w0:Bool)(h:x0<=1999):bA (qJ x0 x1 w0):=by
 unfold qJ TM;refine aK ?_;rw[aS,bQ];refine⟨rfl,?_⟩;refine ax (atG _ (hdN x0 h)) λd _ hd=> ?_;simp only[bU]
instance a6O (x1:Nat->Int)(w0:Bool):bA (qJ 1 x1 w0):=aC0 _ _ _ (by omega)
theorem wM (x0:Nat->Int)(x1:Int)(x2:Int)(x3:Int)(x4:Int)(x5:Bool)(h0:0<=x1)(h1:x1<24):bA (ey x0 x1 x2 x3 x4 x5):=by
 have hr:aZ x1 24=true:=by simp only[bp];omega
 unfold ey Pf;exact aK (by simp only[bU,hr,On,FH])
instance a2b (x0:Nat->Int)(x2 x3 x4:Int)(x5:Bool):bA (ey x0 4 x2 x3 x4 x5):=wM _ _ _ _ _ _ (by omega) (by omega)
instance a2c (x0:Nat->Int)(x2 x3 x4:Int)(x5:Bool):bA (ey x0 5 x2 x3 x4 x5):=wM _ _ _ _ _ _ (by omega) (by omega)
instance a2d (x0:Nat->Int)(x2 x3 x4:Int)(x5:Bool):bA (ey x0 6 x2 x3 x4 x5):=wM _ _ _ _ _ _ (by omega) (by omega)
instance a2e (x0:Nat->Int)(x2 x3 x4:Int)(x5:Bool):bA (ey x0 7 x2 x3 x4 x5):=wM _ _ _ _ _ _ (by omega) (by omega)
instance a2f (x0:Nat->Int)(x2 x3 x4:Int)(x5:Bool):bA (ey x0 8 x2 x3 x4 x5):=wM _ _ _ _ _ _ (by omega) (by omega)
instance a2g (x0:Nat->Int)(x2 x3 x4:Int)(x5:Bool):bA (ey x0 9 x2 x3 x4 x5):=wM _ _ _ _ _ _ (by omega) (by omega)
instance a7D (eJ:Bool)(l:Nat->Int)(w:Bool):bA (cF 4 eJ l w):=aLC 4 (by omega) eJ l w
instance a5V (eJ:Bool)(f:Nat->Int)(w:Bool):bA (cw 2 eJ f w):=aGg 2 (by omega) eJ f w
instance aVk (x0:Nat->Int)(x1:Int)(x2:Int)(x3:Int)(x4:Int)(x5:Int)(x6:Int)(x7:Int)(x8:Int)(x9:Int)(gw:Bool):bA (wK x0 x1 x2 x3 x4 x5 x6 x7 x8 x9 gw):=by
 unfold wK Pj;exact aK (by simp only[bU,ry])
instance aTY (x0:Int)(x1:Int)(x2:Int)(x3:Int)(x4:Int)(x5:Int)(x6:Int)(x7:Int)(x8:Bool):bA (jH x0 x1 x2 x3 x4 x5 x6 x7 x8):=by
 unfold jH Na;exact aK (by simp only[bU,ry])
instance aR8 (x:rP.B):bA (rQ x):=by
 unfold rQ Ks;exact aK (by simp only[bU,ry])
instance a0b (x:BJ.B):bA (BK x):=by
 unfold BK Yb;try dsimp only
 exact aK (by simp only[bU,ry])
instance aR9 (x0:Int):bA (xp x0):=by
 unfold xp Ku;exact aK (by simp only[bU,ry])
instance a0c (x0:Int)(x1:Int)(x2:Int)(x3:Int)(x4:Int)(x5:Int)(x6:Int)(x7:Int)(x8:Int)(x9:Int)(gw:Int)(gx:Bool):bA (tj x0 x1 x2 x3 x4 x5 x6 x7 x8 x9 gw gx):=by
 unfold tj Yi;exact aK (by simp only[bU,ry])
instance aSa (x0:Int)(x1:Int)(x2:Int)(x3:Int)(x4:Int)(x5:Int)(x6:Int)(x7:Int)(x8:Int)(x9:Bool):bA (lZ x0 x1 x2 x3 x4 x5 x6 x7 x8 x9):=by
 unfold lZ Kx;exact aK (by simp only[bU,ry])
instance a0d (x0:Nat->Int)(x1:Int)(x2:Int)(x3:Int)(x4:Bool):bA (BL x0 x1 x2 x3 x4):=by
 unfold BL Ym;exact aK (by simp only[bU,ry])
instance aPL (x0:Int)(x1:Int)(x2:Int)(x3:Int)(x4:Int)(x5:Int)(x6:Int)(x7:Int)(x8:Int)(x9:Bool):bA (kW x0 x1 x2 x3 x4 x5 x6 x7 x8 x9):=by
 unfold kW H9;exact aK (by simp only[bU,ry])
instance aWq (x0:Nat->Int)(x1:Int)(x2:Int)(x3:Int)(x4:Int)(x5:Bool):bA (yS x0 x1 x2 x3 x4 x5):=by
 unfold yS TT;try dsimp only
 exact aK (by simp only[bU,ry])
instance aWr (x0:Int):bA (DY x0):=by
 unfold DY TW;exact aK (by simp only[bU,ry])
instance a31 (x0:Int)(x1:Int)(x2:Int)(x3:Int)(x4:Int)(x5:Int)(x6:Int)(x7:Int)(x8:Int)(x9:Bool):bA (wh x0 x1 x2 x3 x4 x5 x6 x7 x8 x9):=by
 unfold wh anl;exact aK (by simp only[bU,ry])
instance a32 (x0:Nat->Int)(x1:Int)(x2:Int)(x3:Int)(x4:Int)(x5:Int)(x6:Bool):bA (Ld x0 x1 x2 x3 x4 x5 x6):=by
 unfold Ld anp;try dsimp only
 exact aK (by simp only[bU,ry])
instance a1g (x0:Int)(x1:Int)(x2:Int)(x3:Bool):bA (wi x0 x1 x2 x3):=by
 unfold wi ada;exact aK (by simp only[bU,ry])
instance a0e (x0:Nat->Int)(x1:Int)(x2:Int)(x3:Int)(x4:Int)(x5:Int)(x6:Int)(x7:Int)(x8:Bool):bA (BM x0 x1 x2 x3 x4 x5 x6 x7 x8):=by
 unfold BM Yo;try dsimp only
 exact aK (by simp only[bU,ry])
instance a2h (x0:Int)(x1:Int)(x2:Int)(x3:Int)(x4:Int)(x5:Int)(x6:Int)(x7:Int)(x8:Int)(x9:Bool):bA (Hh x0 x1 x2 x3 x4 x5 x6 x7 x8 x9):=by
 unfold Hh ahC;exact aK (by simp only[bU,ry])
instance aWs (x0:Int):bA (DZ x0):=by
 unfold DZ TY;exact aK (by simp only[bU,ry])
instance a33 (x0:Int)(x1:Int)(x2:Int)(x3:Int)(x4:Int)(x5:Int)(x6:Int)(x7:Int)(x8:Int)(x9:Bool):bA (Cj x0 x1 x2 x3 x4 x5 x6 x7 x8 x9):=by
 unfold Cj anB;exact aK (by simp only[bU,ry])
instance aWt (x0:Nat->Int)(x1:Bool):bA (qK x0 x1):=by
 unfold qK T0;exact aK (by simp only[bU,ry])
instance a2i (x0:Int)(x1:Int)(x2:Int)(x3:Nat->Int)(x4:Int)(x5:Int)(x6:Int):bA (C6 x0 x1 x2 x3 x4 x5 x6):=by
 unfold C6 ahF;exact aK (by simp only[bU,ry])
instance aWu (x0:Nat->Int)(x1:Int)(x2:Int)(x3:Int)(x4:Bool):bA (yT x0 x1 x2 x3 x4):=by
 unfold yT T1;exact aK (by simp only[bU,ry])
instance aWv (x0:Nat->Int)(x1:Int)(x2:Int)(x3:Bool):bA (yU x0 x1 x2 x3):=by
 unfold yU T4;try dsimp only
 exact aK (by simp only[bU,ry])
instance aVl (x0:Int):bA (BN x0):=by
 unfold BN Pv;exact aK (by simp only[bU,ry])
instance a2j (x0:Int)(x1:Int)(x2:Int)(x3:Int)(x4:Int)(x5:Int)(x6:Int)(x7:Int)(x8:Int)(x9:Bool):bA (zL x0 x1 x2 x3 x4 x5 x6 x7 x8 x9):=by
 unfold zL ahK;exact aK (by simp only[bU,ry])
instance aVm (x0:Nat->Int)(x1:Bool):bA (wL x0 x1):=by
 unfold wL Px;exact aK (by simp only[bU,ry])
instance a2k (x0:Nat->Int)(x1:Int)(x2:Int)(x3:Int)(x4:Int)(x5:Int)(x6:Bool):bA (zM x0 x1 x2 x3 x4 x5 x6):=by
 unfold zM VI;try dsimp only
 exact aK (by simp only[bU,ry])
instance a2l (x0:Int):bA (vi x0):=by
 unfold vi VJ;exact aK (by simp only[bU,ry])
instance aOP (x0:Int)(x1:Int)(x2:Int)(x3:Bool):bA (tk x0 x1 x2 x3):=by
 unfold tk Ga;exact aK (by simp only[bU,ry])
instance aOQ (x0:Int)(x1:Int)(x2:Bool):bA (tl x0 x1 x2):=by
 unfold tl Gb;exact aK (by simp only[bU,ry])
instance aMK (x0:Int)(x1:Int)(x2:Int)(x3:Int)(x4:Bool):bA (qW x0 x1 x2 x3 x4):=by
 unfold qW EG;exact aK (by simp only[bU,ry])
instance aJs (x0:Int)(x1:Int)(x2:Int)(x3:Bool)(x4:Int)(x5:Int)(x6:Int):bA (jy x0 x1 x2 x3 x4 x5 x6):=by
 unfold jy BP;exact aK (by simp only[bU,ry])
instance aML (x0:Nat->Int)(x1:Nat->Int)(x2:Nat->Bool)(x3:Nat->Int)(x4:Nat->Int)(x5:Nat->Int)(x6:Int):bA (qX x0 x1 x2 x3 x4 x5 x6):=by
 unfold qX EH;exact aK (by simp only[bU,ry])
instance aGA (x0:Bool)(x1:Int)(x2:Int)(x3:Bool)(x4:Int)(x5:Int)(x6:Nat->Int)(x7:Nat->Int)(x8:Nat->Bool)(x9:Nat->Int)(gw:Nat->Int)(gx:Nat->Int)(EC:Int):bA (mb x0 x1 x2 x3 x4 x5 x6 x7 x8 x9 gw gx EC):=by
 unfold mb xt;exact aK (by simp only[bU,ry])
end Go.Proofs.YtldgljclcgaibaaGreat
