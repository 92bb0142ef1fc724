/-
  Parts of the proof: Q3
-/
import Derived.Test.YtldgljclcgaibaaGreatZAE
import Derived.Test.YtldgljclcgaibaaGreatZAG
open Nat renaming beq→ww,ble→wd
open Int renaming toNat→ws,ofNat→wl
open Sum renaming inl→wr,inr→wn
set_option linter.all false
set_option maxRecDepth 100000
set_option maxHeartbeats 4000000
noncomputable section
namespace Go.Proofs.YtldgljclcgaibaaGreat
open Go.Ab Go.Ab.Pg Go.Ab.Rq
def QO:=qa (dp (cu aO (c lW (c Bz (cl aIQ nil)))) λa=>(c xi (cl (cl (gs a.b.1 aJv) nil) nil)))
def aKu:=qe (res (pr (rU (c aj8 (c ar0 (cl (rc (iW (pu rq4 (pu vT (pl lV (pu rq7 jx)))))) nil)))) (pr ND (cl aPH nil))))
abbrev Z5:=((NI×(NI×NI)×Nat)×Bool×(Nat->Bool)×NI×NI)
def aAd:Z5->T:=λd=>lf aKu (d.1,d.2.1,d.1.b,d.b)
abbrev aAe:=QO.B->Option Z5
def aAf (g:aAe):Ct:=(254,uV 3 [.i .i64,.i .i64,.i .i64,.i .i64,.i .i64,.i .i64,.i .i64,.i .i64,.i .i64,.i .i64,.i .i64,.i .i64,.i .i64,.i .i64,.i .i64,.i .i64,.i .i64,.i .i64,.i .i64,.i .i64,.i .i64,.i .i64,.i .i64,.i .i64,.i .i64,.i .i64,.i .i64] (FC QO aAd g))
def sw:=qs (st (dp (cu aO (us 4 (cu DT (cu aHx (us 1 (cu apz (cu (app 5 300) (us 1 (c aVI (us 3 (c aIQ aPp))))))))))) λa=>(pl (c cD (c (so (cl (gs a.2.1.1 aJv) nil)) (c oc (c jk (c oc (c jk (cl (so (cl (gs a.1 arW) nil)) nil))))))) cN)))
def aGI:=qs (st (pr (cu aO (us 4 (cu DT (cu aHx (us 1 (cu apz (cu (app 5 300) (us 1 (c aVI (us 3 (c aIQ aPu))))))))))) (pl (c cD (c (so (cl (ga (pr lV aJv)) nil)) (c oc (c jk (c oc (c jk aVC)))))) cN)))
abbrev HE:=((Nat×(Nat×Bool)×Int×Int×Bool)×Bool×(NI×NI×NI×NI×NI×NI×NI×NI×NI×NI×NI×NI×NI×NI×NI×NI×NI×NI×NI×NI×NI×NI×NI×NI×NI×NI×NI)×NI×(NI×NI)×NI×(NI×NI)×(Nat->Bool)×NI×NI)
def aqO {ρ:Type}(x:HE)(K:AX->St->Option ρ):Option ρ:=(λd=>K (.ex 0) (aGI.em (d.1,d.2.1,(d.1.2.1.1,d.b.1),d.b.2.1,d.c.1,d.c.2.1,d.c.b.1,d.1.1,d.c.b.2))) x
def ab1 (aNX:amu)(d:sw.B):PL sw HE:=let aT:=d.1.1;let n5:=d.1.2.2;let n4:=d.2.2;let n7:=n4.2.2;let n3:=n4.1.2.2.2.2;let n8:=n3.2.2.2;let n1:=n8.2.2.2.2;let n9:=n1.2.2.2;let n2:=n9.2.2.2.2;let n6:=n2.2.2.2.2;let y0:=ws n5.2;let y1:=aT+1;let y2:=decide (n5.2<n5.1);ae y2 (ae (bg n5.2 d.1.2.1.1) (opt (aNX n4.2.1 n7.1.1 n7.1.2 (cr (n4.1.1 y0) [n6.2.1 y0,n6.1 y0,n2.2.2.2.1 y0,n2.2.2.1 y0,n2.2.1 y0,n2.1 y0,n9.2.2.2.1 y0,n9.2.2.1 y0,n9.2.1 y0,n9.1 y0,n1.2.2.1 y0,n1.2.1 y0,n1.1 y0,n8.2.2.2.1 y0,n8.2.2.1 y0,n8.2.1 y0,n8.1 y0,n3.2.2.1 y0,n3.2.1 y0,n3.1 y0,n4.1.2.2.2.1 y0,n4.1.2.2.1 y0,n4.1.2.1 y0,n4.1.1 y0]) (n6.2.2.1 y0) (n6.2.2.2.1 y0) (n6.2.2.2.2 y0) d.2.1) λaj=>ae (wd (y1*24) 140737488355328) (ret (wr ((y1,d.1.2.1,n5.1,wI (n5.2+1)),aj.2,n4.1,aj.1.1,aj.1.2.1,n7.2.1,n7.2.2.1,λj=>bif ww j aT then aj.1.2.2.1 else n7.2.2.2.1 j,λj=>bif ww j aT then aj.1.2.2.2.1 else n7.2.2.2.2.1 j,λj=>bif ww j aT then aj.1.2.2.2.2 else n7.2.2.2.2.2 j))) no) no) (ret (wn ((aT,d.1.2.1,n5.1,n5.2,y2),d.2)))
def ab2:=bw (ab1 QN) 2000
def amw (eB:LT sw HE)(x:QO.B):Pg Z5:=ae (ww x.1.2.2.1 x.1.2.2.1) (ae true (opt (eB ((0,x.1.2.2,wl x.1.2.2.1,0),x.2.1,x.2.2,x.1.1,x.1.2.1,λx=>0,(λx=>0,λx=>0),λx=>false,λx=>0,λx=>0)) λd=>ret ((d.2.2.2.1,d.2.2.2.2.1,d.1.1),d.2.1,d.2.2.2.2.2.2.2)) no) no
def QP:=λx=>(amw ab2 x).val
abbrev Z6:=amu×(LT sw HE)
def amx (p:Z6):KK:=⟨[aAc p.1],⟨[⟨3,(rg 1 4 (7::10::12::13::14::rg 18 20 [])),[(11,[.b,.i .i64,.i .i64])]⟩],[fY 3 2 sw aqO p.2],[0],[],(some ⟨0,(rg 0 8 (rg 11 27 [])),[]⟩)⟩,2,254⟩
theorem aE9 (p:Z6):LI (amx p) 3 sw aqO (ab1 p.1):=λ_ d c K=>by kernel_rfl
theorem aNY (p:Z6):D2 (amx p) QO aAd λb=>amw p.2 b:=λb=>by kernel_rfl
abbrev amy:Z6:=(QN,ab2)
theorem aNZ [ax]:SC (aAf QP):=sc (Sound.nil 3 [.i .i64,.i .i64,.i .i64,.i .i64,.i .i64,.i .i64,.i .i64,.i .i64,.i .i64,.i .i64,.i .i64,.i .i64,.i .i64,.i .i64,.i .i64,.i .i64,.i .i64,.i .i64,.i .i64,.i .i64,.i .i64,.i .i64,.i .i64,.i .i64,.i .i64,.i .i64,.i .i64]<|kS (k:=amx amy) (.c aNW (.nil _)) [3] [] ⟨kL (aE9 amy),trivial⟩ trivial (aNY amy))
def aqP:=qa (dp (cl aO5 nil) λa=>(cl (cl (gs a.1 arW) nil) nil))
def Xi:=qe aVz
abbrev aqQ:=Xi.B
abbrev ab3:=Nat->(Nat->Bool)->NI->NI->Bool->Option aqQ
def ab4 (g:ab3):Ct:=(255,uV 0 [.b,.i .i64,.i .i64] (FC aqP (lf Xi) (λb=>g b.1.1 b.2.1 b.b.1 b.b.2 b.1.2)))
def oF:=qs (st (dp (us 2 (c ai (c ai (us 2 (c aO5 (c ai aUL)))))) λa=>(pl (cl (so (cl (gs a.b.1.1 arW) nil)) nil) nil)))
def aBK:=qs (st (pr (us 2 (c ai (c ai (us 2 (c aO5 (c ai aPo)))))) (pl aVC nil)))
abbrev CY:=((Int×Int×(Nat×Bool)×Int×Int×Bool)×(Nat->Bool)×NI×NI)
def aiv {ρ:Type}(x:CY)(K:AX->St->Option ρ):Option ρ:=(λd=>K (.ex 0) (aBK.em (d.1,d.1.b.1.1,d.2))) x
def SX (d:oF.B):PL oF CY:=let n1:=d.1.2.2;let n2:=n1.2.2;let y0:=decide (n2<n1.2.1);ae y0 (ae (bg n2 n1.1.1) (ae (d.2.1 (ws n2)) (ret (wr ((wI (d.1.1+1),d.1.2.1,n1.1,n1.2.1,wI (n2+1)),d.2))) (ret (wr ((d.1.1,wI (d.1.2.1+1),n1.1,n1.2.1,wI (n2+1)),d.2)))) no) (ret (wn ((d.1.1,d.1.2.1,n1.1,n1.2.1,n2,y0),d.2)))
def SY:=bw (SX) 2000
def ab5 (eB:LT oF CY)(x0:Nat)(x1:Nat->Bool)(x2:Nat->Int)(x3:Nat->Int)(w0:Bool):Pg aqQ:=ae (ww x0 x0) (opt (eB ((0,0,(x0,w0),wl x0,0),x1,x2,x3)) λd=>ret (d.1.1,d.1.2.1)) no
def zD:=λx0 x1 x2 x3 w0=>(ab5 SY x0 x1 x2 x3 w0).val
abbrev Qb:=(LT oF CY)
def ab6 (p:Qb):KK:=⟨[],⟨[⟨2,(0::1::4::5::rg 9 12 []),[]⟩],[fY 2 1 oF aiv p],[],[],(some ⟨0,(0::1::rg 4 17 []),[]⟩)⟩,1,255⟩
theorem ax1 (p:Qb):LI (ab6 p) 2 oF aiv (SX):=λ_ d c K=>by kernel_rfl
theorem aGJ (p:Qb):D2 (ab6 p) aqP (lf Xi) λb=>ab5 p b.1.1 b.2.1 b.b.1 b.b.2 b.1.2:=λb=>by kernel_rfl
abbrev ab7:Qb:=SY
theorem aqR [ax]:SC (ab4 zD):=sc (Sound.nil 0 [.b,.i .i64,.i .i64]<|kS (k:=ab6 ab7) (.nil _) [2] [] ⟨kL (ax1 ab7),trivial⟩ trivial (aGJ ab7))
def adG:=qa (pu nil nil)
def Mq:=qe (res (pu (aa (cu arT (cu aL aJw))) (pu nil nil)))
abbrev OC:=Mq.B
abbrev mR:=Option OC
def qO (g:mR):Ct:=(48,FC adG (lf Mq) (λ_=>g))
def OD (iQ:Bn):Pg OC:=opt iQ λd=>ret ()
def dh:Option OC:=(OD oy).val
theorem ax2:∀iQ,D0 [Ks iQ] 48 adG (lf Mq) λb=>OD iQ:=λ_ b=>by kernel_rfl
theorem vI [ax]:SC (qO dh):=s0 (.c QI (.nil _)) (ax2 oy)
def aqS:=qa (dp (cu aO (cl aO6 nil)) λa=>(c xi (cl (cl (gs a.1 mL) nil) nil)))
def Xj:=qe (res (pr (aa aPP) (pl ND nil)))
abbrev aqT:=Xj.B
abbrev ab8:=Nat->Bool->NI->NI->NI->NI->NI->NI->NI->NI->NI->NI->Bool->Option aqT
def aqU (g:ab8):Ct:=(113,uV 1 [.i .i64,.i .i64,.i .i64,.i .i64,.i .i64,.i .i64,.i .i64,.i .i64,.i .i64,.i .i64] (FC aqS (lf Xj) (λb=>g b.1.1 b.2.1 b.b.1 b.b.2.1 b.c.1 b.c.2.1 b.c.b.1 b.c.b.2.1 b.d.1 b.d.2.1 b.d.b.1 b.d.b.2 b.1.2)))
def oG:=qs (st (dp (cu aO (us 3 (cu (app 2 10) (cu (app 3 10) (c aVJ (c aVK (us 3 (c aO6 (c ai aUM))))))))) λa=>(pl (c cD (c (so (cl (gs a.b.1.1 mL) nil)) (cu aWv (c aWm (c (so (cl (gs a.1 arV) nil)) (cl aCX nil)))))) cN)))
def aBL:=qs (st (pr (cu aO (us 3 (cu (app 2 10) (cu (app 3 10) (c aVJ (c aVK (us 3 (c aO6 (c ai aU0))))))))) (pl (c cD (c uj (cu aWv (c aWm (c aCX (cl aCX nil)))))) cN)))
abbrev CZ:=((Nat×Nat×(Nat×Bool)×Int×Int×Bool)×Bool×aL6×aHt×(NI×NI×NI)×Nat×NI×NI×NI)
def aiw {ρ:Type}(x:CZ)(K:AX->St->Option ρ):Option ρ:=(λd=>K (.ex 0) (aBL.em (d.1,d.2.1,(d.1.b.1.1,d.b.1),d.b.2.1,(d.1.1,d.c.1),d.c.2))) x
def SZ (fh:yA)(bn:iY)(d:oG.B):PL oG CZ:=let n6:=d.1.1;let n2:=d.1.2;let n4:=n2.2.2;let n1:=d.2.2;let n5:=n1.2.2;let n3:=n1.1.2.2.2.2;let y0:=n6+1;let y1:=ws n4.2;let y2:=n2.1+1;let y3:=decide (n4.2<n4.1);ae y3 (ae (bg n4.2 n2.2.1.1) (opt (fh (n1.1.1 y1) (n1.1.2.1 y1) (n1.1.2.2.1 y1) (n1.1.2.2.2.1 y1) n1.2.1.1 n1.2.1.2.1 n1.2.1.2.2.1 n1.2.1.2.2.2 d.2.1) λaj=>opt (bn aj.1.1 aj.1.2.1 aj.1.2.2.1 aj.1.2.2.2 aj.2) λaC=>ae (wd (y0*24) 140737488355328) (ae (wd (y2*24) 140737488355328) (ret (wr ((y0,y2,n2.2.1,n4.1,wI (n4.2+1)),aC.2,n1.1,aC.1,(λj=>bif ww j n6 then n3.1 y1 else n5.1.1 j,λj=>bif ww j n6 then n3.2.1 y1 else n5.1.2.1 j,λj=>bif ww j n6 then n3.2.2.1 y1 else n5.1.2.2 j),y2,λj=>bif ww j n2.1 then n3.2.2.2.1 y1 else n5.2.2.1 j,λj=>bif ww j n2.1 then n3.2.2.2.2.1 y1 else n5.2.2.2.1 j,λj=>bif ww j n2.1 then n3.2.2.2.2.2 y1 else n5.2.2.2.2 j))) no) no) no) (ret (wn ((n6,n2.1,n2.2.1,n4.1,n4.2,y3),d.2)))
def S3:=bw (SZ kP dy) 2000
def ab9 (cj:mR)(dW:BP)(eB:LT oG CZ)(x0:Nat)(x1:Bool)(x2:Nat->Int)(x3:Nat->Int)(x4:Nat->Int)(x5:Nat->Int)(x6:Nat->Int)(x7:Nat->Int)(x8:Nat->Int)(x9:Nat->Int)(fS:Nat->Int)(fR:Nat->Int)(w0:Bool):Pg aqT:=opt cj λd=>ae (ww x0 x0) (ae true (opt (eB ((0,0,(x0,w0),wl x0,0),x1,(x2,x3,x4,x5,x6,x7,x8,x9,fS,fR),(1073741824,0,0,0),(λx=>0,λx=>0,λx=>0),0,λx=>0,λx=>0,λx=>0)) λd=>let n1:=d.2.2.2;ae (ww d.1.1 d.1.1) (opt (dW d.1.1 d.2.1 n1.2.1.1 n1.2.1.2.1 n1.2.1.2.2 true) λaj=>ae (ww d.1.2.1 d.1.2.1) (opt (dW d.1.2.1 aj.2 n1.2.2.2.1 n1.2.2.2.2.1 n1.2.2.2.2.2 true) λaC=>ret ((n1.1.1,n1.1.2.1,n1.1.2.2.1,n1.1.2.2.2,aj.1.1,aj.1.2.1,aj.1.2.2,aC.1),aC.2)) no) no) no) no
def HF:=λx0 x1 x2 x3 x4 x5 x6 x7 x8 x9 fS fR w0=>(ab9 dh lp S3 x0 x1 x2 x3 x4 x5 x6 x7 x8 x9 fS fR w0).val
abbrev Qc:=mR×yA×iY×BP×(LT oG CZ)
def aca (p:Qc):KK:=⟨[qO p.1,ET p.2.1,nV p.b.1,Ja p.b.2.1],⟨[⟨4,(1::2::3::8::9::10::rg 14 32 []),[(6,[.i .i64,.i .i64,.i .i64]),(7,[.i .i64,.i .i64,.i .i64])]⟩],[fY 4 2 oG aiw p.c],[0],[],(some ⟨0,(rg 0 4 (rg 5 41 [])),[]⟩)⟩,2,113⟩
theorem ax3 (p:Qc):LI (aca p) 4 oG aiw (SZ p.2.1 p.b.1):=λ_ d c K=>by kernel_rfl
theorem aGK (p:Qc):D2 (aca p) aqS (lf Xj) λb=>ab9 p.1 p.b.2.1 p.c b.1.1 b.2.1 b.b.1 b.b.2.1 b.c.1 b.c.2.1 b.c.b.1 b.c.b.2.1 b.d.1 b.d.2.1 b.d.b.1 b.d.b.2 b.1.2:=λb=>by kernel_rfl
abbrev acb:Qc:=(dh,kP,dy,lp,S3)
theorem aGL [ax]:SC (aqU HF):=sc (Sound.nil 1 [.i .i64,.i .i64,.i .i64,.i .i64,.i .i64,.i .i64,.i .i64,.i .i64,.i .i64,.i .i64]<|kS (k:=aca acb) (.c vI (.c Kt (.c pz (.c Oj (.nil _))))) [4] [] ⟨kL (ax3 acb),trivial⟩ trivial (aGK acb))
def avv:=qa (pr (cu aO (c lW (c Bz zq))) bB)
def acd:=qe (res (pr (rU (c aj8 (c ar0 (cl (ra (c gi (c gi (c gi (cl gi (cu aL (cu aL (cu aL (cu aL (cu aL (cu aL (cu (gc awM) nil)))))))))))) nil)))) (pl mX nil)))
abbrev agL:=acd.B
abbrev avw:=NI->NI->NI->Int->Int->Bool->Option agL
def avx (g:avw):Ct:=(221,FC avv (lf acd) (λb=>g b.1.1 b.1.2.1.1 b.1.2.1.2 b.1.b.1 b.1.b.2 b.2))
def UK (aN:fJ)(cj:mR)(Mr:alZ)(bc:eC)(fh:yA)(bn:iY)(cZ:zB)(bT:cJ)(x0:Nat->Int)(x1:Nat->Int)(x2:Nat->Int)(x3:Int)(x4:Int)(x5:Bool):Pg agL:=opt (aN x0 x5) λd=>opt cj λaj=>opt (Mr x3 d.2) λaC=>opt (bc d.1) λbx=>opt (fh aC.1.1 aC.1.2.1 aC.1.2.2.1 aC.1.2.2.2 bx.1 bx.2.1 bx.2.2.1 bx.2.2.2 aC.2) λcH=>opt (bn cH.1.1 cH.1.2.1 cH.1.2.2.1 cH.1.2.2.2 cH.2) λfx=>opt (cZ d.1 0 4 (cr fx.1.1 [fx.1.2.2.2,fx.1.2.2.1,fx.1.2.1,fx.1.1]) false) λd=>opt (aN d fx.2) λd=>opt (bT x1 x2 0 4 d.2 (cr x4 [x4,x4,x4,x4]) true) λdx=>ret ((d.1,dx.1,aC.1),dx.2)
def Ms:=λx0 x1 x2 x3 x4 x5=>(UK bD dh AJ bX kP dy fI dX x0 x1 x2 x3 x4 x5).val
theorem aKv:∀aN cj Mr bc fh bn cZ bT,D0 [jB aN,qO cj,al0 Mr,j5 bc,ET fh,nV bn,Dn cZ,AM bT] 221 avv (lf acd) λb=>UK aN cj Mr bc fh bn cZ bT b.1.1 b.1.2.1.1 b.1.2.1.2 b.1.b.1 b.1.b.2 b.2:=λ_ _ _ _ _ _ _ _ b=>by kernel_rfl
theorem aKw [ax]:SC (avx Ms):=s0 (.c ky (.c vI (.c aEW (.c lA (.c Kt (.c pz (.c HA (.c EW (.nil _))))))))) (aKv bD dh AJ bX kP dy fI dX)
def amz:=qa (dp (cu aO (c lW aPq)) λa=>(c xi (cl (cl (gs a.b.1 ot) nil) nil)))
def aBM:=qe (res (pr (rU (c aj8 (cl (rc (iW (pu rq4 (pu vT (pl lV (pu Ar jx)))))) nil))) (pr ND (cl aI7 nil))))
abbrev Xk:=((NI×Nat)×Bool×NI)
def amA:Xk->T:=λd=>lf aBM (d.1,d.2.1,d.1.2,d.b)
abbrev Mt:=NI->Int->Nat->Bool->NI->Bool->Option Xk
def Mu (g:Mt):Ct:=(263,uV 3 [.i .i64] (FC amz amA (λb=>g b.1.1 b.1.2.1 b.1.b.1 b.2.1 b.b b.1.b.2)))
def nj:=qs (st (dp (cu aO (us 1 (c ai (us 2 (cu DT (us 2 (cu ahL (us 1 (cu apz (c aVL (us 3 (c Hl (c ai (cl ai (us 39 nil))))))))))))))) λa=>(pl (c cD (c (so (cl (gs a.b.1.1 ot) nil)) (c oc (c oc (c oc (cl (so (cl (gs a.2.1 ot) nil)) nil)))))) cN)))
def ax4:=qs (st (pr (cu aO (us 1 (c ai (us 2 (cu DT (us 2 (cu ahL (us 1 (cu apz (c aVL (us 3 (c Hl (c ai (c ai aUN)))))))))))))) (pl (c cD (c IM (c oc (c oc (c oc ake))))) cN)))
abbrev AO:=((Int×Nat×(Nat×Bool)×Int×Int×Bool)×Bool×NI×NI×NI×CS×NI)
def adH {ρ:Type}(x:AO)(K:AX->St->Option ρ):Option ρ:=(λd=>K (.ex 0) (ax4.em (d.1,d.2.1,(d.1.b.1.1,d.b.1),d.b.2.1,d.c.1,d.c.2.1,d.1.2.1,d.c.b))) x
def OE (aE:bY)(aV:dk)(d:nj.B):PL nj AO:=let n2:=d.2.2.2;let n1:=d.1.2.2;let n3:=n1.2.2;let y0:=d.1.2.1+1;let y1:=wI (d.1.1+n3);let y2:=ws y1;let y3:=bg y1 24;let y4:=decide (n3<n1.2.1);ae y4 (ae (bg n3 n1.1.1) (ae y3 (ae y3 (opt (aE (d.2.2.1 (ws n3)) (wI (0-n2.2.2.1 y2)) (n2.2.2.1 y2) d.2.1) λaj=>ae y3 (opt (aV aj.1 (n2.1 y2) aj.2) λaC=>ae (wd (y0*8) 140737488355328) (ae y3 (ae (true&&wd (0+y2*1+1) 24) (ret (wr ((d.1.1,y0,n1.1,n1.2.1,wI (n3+1)),aC.2,d.2.2.1,λj=>bif ww j y2 then aj.1 else n2.1 j,n2.2.1,n2.2.2.1,λj=>bif ww j d.1.2.1 then aC.1 else n2.2.2.2 j))) no) no) no) no) no) no) no) (ret (wn ((d.1.1,d.1.2.1,n1.1,n1.2.1,n3,y4),d.2)))
def OF:=bw (OE bh bW) 2000
def Xl (SL:CT)(aN:fJ)(eB:LT nj AO)(x0:Nat->Int)(x1:Int)(x2:Nat)(x3:Bool)(x4:Nat->Int)(w0:Bool):Pg Xk:=opt SL λd=>ae (ww x2 x2) (ae true (opt (eB ((x1,0,(x2,w0),wl x2,0),x3,x4,x0,λx=>0,d,λx=>0)) λd=>opt (aN d.2.2.2.1 d.2.1) λaj=>ret ((aj.1,d.1.2.1),aj.2,d.2.2.2.2.2.2)) no) no
def gD:=λx0 x1 x2 x3 x4 w0=>(Xl tL bD OF x0 x1 x2 x3 x4 w0).val
abbrev Mv:=CT×bY×dk×fJ×(LT nj AO)
def Xm (p:Mv):KK:=⟨[SI p.1,ek p.2.1,iG p.b.1,jB p.b.2.1],⟨[⟨4,(1::3::4::6::7::9::12::13::14::rg 18 39 []),[(11,[.i .i64])]⟩],[fY 4 2 nj adH p.c],[0],[],(some ⟨0,(rg 0 8 (rg 10 47 [])),[]⟩)⟩,2,263⟩
theorem avy (p:Mv):LI (Xm p) 4 nj adH (OE p.2.1 p.b.1):=λ_ d c K=>by kernel_rfl
theorem aFa (p:Mv):D2 (Xm p) amz amA λb=>Xl p.1 p.b.2.1 p.c b.1.1 b.1.2.1 b.1.b.1 b.2.1 b.b b.1.b.2:=λb=>by kernel_rfl
abbrev Xn:Mv:=(tL,bh,bW,bD,OF)
theorem Xo [ax]:SC (Mu gD):=sc (Sound.nil 3 [.i .i64]<|kS (k:=Xm Xn) (.c ain (.c eU (.c jz (.c ky (.nil _))))) [4] [] ⟨kL (avy Xn),trivial⟩ trivial (aFa Xn))
def amB:=qa (pr (cu (app 0 2) zq) (cd (c (gc (CB 1 1)) (cl (gc (CB 2 1)) nil)) λb0=>(c (cl (gs b0.1 ot) nil) (cl (cl (gs b0.2 ot) nil) nil))))
def aBN:=qe (res (pu Qs (pr (cl (zp (c (gc (CB 3 1)) (cl (gc (CB 4 1)) nil))) (cu Un aMh)) (c aI7 (cl aI7 nil)))))
abbrev Xp:=((Nat×Nat)×NI×NI)
def amC:Xp->T:=λd=>lf aBN (d.1,(d.1.1,d.2.1),d.1.2,d.b)
abbrev Xq:=Int->Int->Nat->Nat->NI->NI->Option Xp
def amD (g:Xq):Ct:=(247,FC amB amC (λb=>g b.1.1 b.1.2 b.2.1.1 b.2.1.2 b.b.1 b.b.2))
def Xr (x0:Int)(x1:Int)(x2:Nat)(x3:Nat)(x4:Nat->Int)(x5:Nat->Int):Pg Xp:=let y0:=x2+2;let y1:=x3+2;ae (wd (y0*8) 140737488355328) (ae (wd (y1*8) 140737488355328) (ret ((y0,y1),λj=>bif ww j (x2+1) then x0 else bif ww j x2 then x0 else x4 j,λj=>bif ww j (x3+1) then x1 else bif ww j x3 then x1 else x5 j)) no) no
def nJ:=λx0 x1 x2 x3 x4 x5=>(Xr x0 x1 x2 x3 x4 x5).val
theorem aFb:D0 [] 247 amB amC λb=>Xr b.1.1 b.1.2 b.2.1.1 b.2.1.2 b.b.1 b.b.2:=λb=>by kernel_rfl
theorem aFc [ax]:SC (amD nJ):=s0 (.nil _) aFb
def aqV:=qa (pr (cu aO (c ae0 GB)) bB)
def Xs:=qe (res (pr (aa aPT) (pl mX nil)))
abbrev aqW:=Xs.B
abbrev HG:=Int->Int->Int->Int->Int->Int->Int->Bool->Option aqW
def ace (g:HG):Ct:=(218,FC aqV (lf Xs) (λb=>g b.1.1.1 b.1.1.2.1 b.1.1.b.1 b.1.1.b.2 b.1.2.1 b.1.b.1 b.1.b.2 b.2))
def acf (aw:bM)(EU:Od)(ba:Xq)(bd:eY)(x0:Int)(x1:Int)(x2:Int)(x3:Int)(x4:Int)(x5:Int)(x6:Int)(x7:Bool):Pg aqW:=opt (aw x0 x7) λd=>let y0:=wI (0-d.1);opt (aw x1 d.2) λaj=>let ub:=wI (0-aj.1);opt (aw x2 aj.2) λaC=>let aqi:=wI (0-aC.1);opt (aw x3 aC.2) λbx=>let ZB:=wI (0-bx.1);opt (EU x4 x5 x6 bx.2) λcH=>let n2:=cH.1.1;let n1:=cH.1.2;opt (ba d.1 n2 0 0 (λx=>0) λx=>0) λfx=>ae (ww fx.1.1 fx.1.1) (ae (ww fx.1.2 fx.1.2) (opt (ba aC.1 n1.2 fx.1.1 fx.1.2 fx.2.1 fx.2.2) λdx=>ae (ww dx.1.1 dx.1.1) (ae (ww dx.1.2 dx.1.2) (opt (ba ZB n1.1 dx.1.1 dx.1.2 dx.2.1 dx.2.2) λnH=>ae (ww nH.1.1 nH.1.1) (ae (ww nH.1.2 nH.1.2) (opt (bd 30 nH.1.1 nH.1.2 cH.2 nH.2.1 nH.2.2 true true) λte=>opt (ba ub n2 0 0 (λx=>0) λx=>0) λpx=>ae (ww px.1.1 px.1.1) (ae (ww px.1.2 px.1.2) (opt (ba aj.1 n2 px.1.1 px.1.2 px.2.1 px.2.2) λmI=>ae (ww mI.1.1 mI.1.1) (ae (ww mI.1.2 mI.1.2) (opt (ba aj.1 n2 mI.1.1 mI.1.2 mI.2.1 mI.2.2) λxj=>ae (ww xj.1.1 xj.1.1) (ae (ww xj.1.2 xj.1.2) (opt (ba aC.1 n1.1 xj.1.1 xj.1.2 xj.2.1 xj.2.2) λKv=>ae (ww Kv.1.1 Kv.1.1) (ae (ww Kv.1.2 Kv.1.2) (opt (ba bx.1 n1.2 Kv.1.1 Kv.1.2 Kv.2.1 Kv.2.2) λL6=>ae (ww L6.1.1 L6.1.1) (ae (ww L6.1.2 L6.1.2) (opt (bd 30 L6.1.1 L6.1.2 te.2 L6.2.1 L6.2.2 true true) λaFd=>opt (ba aqi n2 0 0 (λx=>0) λx=>0) λZ7=>ae (ww Z7.1.1 Z7.1.1) (ae (ww Z7.1.2 Z7.1.2) (opt (ba aj.1 n1.1 Z7.1.1 Z7.1.2 Z7.2.1 Z7.2.2) λadI=>ae (ww adI.1.1 adI.1.1) (ae (ww adI.1.2 adI.1.2) (opt (ba d.1 n1.2 adI.1.1 adI.1.2 adI.2.1 adI.2.2) λZ8=>ae (ww Z8.1.1 Z8.1.1) (ae (ww Z8.1.2 Z8.1.2) (opt (bd 30 Z8.1.1 Z8.1.2 aFd.2 Z8.2.1 Z8.2.2 true true) λaFe=>opt (ba ZB n2 0 0 (λx=>0) λx=>0) λamE=>ae (ww amE.1.1 amE.1.1) (ae (ww amE.1.2 amE.1.2) (opt (ba aj.1 n1.2 amE.1.1 amE.1.2 amE.2.1 amE.2.2) λaqX=>ae (ww aqX.1.1 aqX.1.1) (ae (ww aqX.1.2 aqX.1.2) (opt (ba y0 n1.1 aqX.1.1 aqX.1.2 aqX.2.1 aqX.2.2) λamF=>ae (ww amF.1.1 amF.1.1) (ae (ww amF.1.2 amF.1.2) (opt (bd 30 amF.1.1 amF.1.2 aFe.2 amF.2.1 amF.2.2 true true) λa0m=>opt (ba d.1 n1.1 0 0 (λx=>0) λx=>0) λaAg=>ae (ww aAg.1.1 aAg.1.1) (ae (ww aAg.1.2 aAg.1.2) (opt (ba bx.1 n2 aAg.1.1 aAg.1.2 aAg.2.1 aAg.2.2) λaAh=>ae (ww aAh.1.1 aAh.1.1) (ae (ww aAh.1.2 aAh.1.2) (opt (ba ub n1.2 aAh.1.1 aAh.1.2 aAh.2.1 aAh.2.2) λaAi=>ae (ww aAi.1.1 aAi.1.1) (ae (ww aAi.1.2 aAi.1.2) (opt (bd 30 aAi.1.1 aAi.1.2 a0m.2 aAi.2.1 aAi.2.2 true true) λa0n=>opt (ba ub n1.1 0 0 (λx=>0) λx=>0) λaAj=>ae (ww aAj.1.1 aAj.1.1) (ae (ww aAj.1.2 aAj.1.2) (opt (ba aC.1 n2 aAj.1.1 aAj.1.2 aAj.2.1 aAj.2.2) λaAk=>ae (ww aAk.1.1 aAk.1.1) (ae (ww aAk.1.2 aAk.1.2) (opt (ba y0 n1.2 aAk.1.1 aAk.1.2 aAk.2.1 aAk.2.2) λaAl=>ae (ww aAl.1.1 aAl.1.1) (ae (ww aAl.1.2 aAl.1.2) (opt (bd 30 aAl.1.1 aAl.1.2 a0n.2 aAl.2.1 aAl.2.2 true true) λa0o=>opt (ba aqi n1.1 0 0 (λx=>0) λx=>0) λaAm=>ae (ww aAm.1.1 aAm.1.1) (ae (ww aAm.1.2 aAm.1.2) (opt (ba aC.1 n1.1 aAm.1.1 aAm.1.2 aAm.2.1 aAm.2.2) λaAn=>ae (ww aAn.1.1 aAn.1.1) (ae (ww aAn.1.2 aAn.1.2) (opt (ba aj.1 n2 aAn.1.1 aAn.1.2 aAn.2.1 aAn.2.2) λaAo=>ae (ww aAo.1.1 aAo.1.1) (ae (ww aAo.1.2 aAo.1.2) (opt (ba aC.1 n1.1 aAo.1.1 aAo.1.2 aAo.2.1 aAo.2.2) λaAp=>ae (ww aAp.1.1 aAp.1.1) (ae (ww aAp.1.2 aAp.1.2) (opt (ba bx.1 n1.2 aAp.1.1 aAp.1.2 aAp.2.1 aAp.2.2) λaAq=>ae (ww aAq.1.1 aAq.1.1) (ae (ww aAq.1.2 aAq.1.2) (opt (bd 30 aAq.1.1 aAq.1.2 a0o.2 aAq.2.1 aAq.2.2 true true) λa0p=>opt (ba ZB n1.1 0 0 (λx=>0) λx=>0) λaAr=>ae (ww aAr.1.1 aAr.1.1) (ae (ww aAr.1.2 aAr.1.2) (opt (ba aC.1 n1.2 aAr.1.1 aAr.1.2 aAr.2.1 aAr.2.2) λaAs=>ae (ww aAs.1.1 aAs.1.1) (ae (ww aAs.1.2 aAs.1.2) (opt (ba d.1 n2 aAs.1.1 aAs.1.2 aAs.2.1 aAs.2.2) λaAt=>ae (ww aAt.1.1 aAt.1.1) (ae (ww aAt.1.2 aAt.1.2) (opt (bd 30 aAt.1.1 aAt.1.2 a0p.2 aAt.2.1 aAt.2.2 true true) λa0q=>opt (ba d.1 n1.2 0 0 (λx=>0) λx=>0) λaAu=>ae (ww aAu.1.1 aAu.1.1) (ae (ww aAu.1.2 aAu.1.2) (opt (ba aj.1 n1.1 aAu.1.1 aAu.1.2 aAu.2.1 aAu.2.2) λaAv=>ae (ww aAv.1.1 aAv.1.1) (ae (ww aAv.1.2 aAv.1.2) (opt (ba aqi n2 aAv.1.1 aAv.1.2 aAv.2.1 aAv.2.2) λaAw=>ae (ww aAw.1.1 aAw.1.1) (ae (ww aAw.1.2 aAw.1.2) (opt (bd 30 aAw.1.1 aAw.1.2 a0q.2 aAw.2.1 aAw.2.2 true true) λa0r=>opt (ba ub n1.2 0 0 (λx=>0) λx=>0) λaAx=>ae (ww aAx.1.1 aAx.1.1) (ae (ww aAx.1.2 aAx.1.2) (opt (ba bx.1 n2 aAx.1.1 aAx.1.2 aAx.2.1 aAx.2.2) λaAy=>ae (ww aAy.1.1 aAy.1.1) (ae (ww aAy.1.2 aAy.1.2) (opt (ba d.1 n1.1 aAy.1.1 aAy.1.2 aAy.2.1 aAy.2.2) λd=>ae (ww d.1.1 d.1.1) (ae (ww d.1.2 d.1.2) (opt (bd 30 d.1.1 d.1.2 a0r.2 d.2.1 d.2.2 true true) λd=>opt (ba aqi n1.2 0 0 (λx=>0) λx=>0) λaAz=>ae (ww aAz.1.1 aAz.1.1) (ae (ww aAz.1.2 aAz.1.2) (opt (ba bx.1 n1.1 aAz.1.1 aAz.1.2 aAz.2.1 aAz.2.2) λaAA=>ae (ww aAA.1.1 aAA.1.1) (ae (ww aAA.1.2 aAA.1.2) (opt (ba y0 n2 aAA.1.1 aAA.1.2 aAA.2.1 aAA.2.2) λaAB=>ae (ww aAB.1.1 aAB.1.1) (ae (ww aAB.1.2 aAB.1.2) (opt (bd 30 aAB.1.1 aAB.1.2 d.2 aAB.2.1 aAB.2.2 true true) λa0s=>opt (ba ZB n1.2 0 0 (λx=>0) λx=>0) λaAC=>ae (ww aAC.1.1 aAC.1.1) (ae (ww aAC.1.2 aAC.1.2) (opt (ba bx.1 n1.2 aAC.1.1 aAC.1.2 aAC.2.1 aAC.2.2) λaAD=>ae (ww aAD.1.1 aAD.1.1) (ae (ww aAD.1.2 aAD.1.2) (opt (ba aj.1 n2 aAD.1.1 aAD.1.2 aAD.2.1 aAD.2.2) λaAE=>ae (ww aAE.1.1 aAE.1.1) (ae (ww aAE.1.2 aAE.1.2) (opt (ba aC.1 n1.1 aAE.1.1 aAE.1.2 aAE.2.1 aAE.2.2) λaAF=>ae (ww aAF.1.1 aAF.1.1) (ae (ww aAF.1.2 aAF.1.2) (opt (ba bx.1 n1.2 aAF.1.1 aAF.1.2 aAF.2.1 aAF.2.2) λaAG=>ae (ww aAG.1.1 aAG.1.1) (ae (ww aAG.1.2 aAG.1.2) (opt (bd 30 aAG.1.1 aAG.1.2 a0s.2 aAG.2.1 aAG.2.2 true true) λa0t=>ret ((te.1,aFd.1,aFe.1,a0m.1,a0n.1,a0o.1,a0p.1,a0q.1,a0r.1,d.1,a0s.1,a0t.1),a0t.2)) no) no) no) no) no) no) no) no) no) no) no) no) no) no) no) no) no) no) no) no) no) no) no) no) no) no) no) no) no) no) no) no) no) no) no) no) no) no) no) no) no) no) no) no) no) no) no) no) no) no) no) no) no) no) no) no) no) no) no) no) no) no) no) no) no) no) no) no) no) no) no) no) no) no) no) no) no) no) no) no) no) no) no) no
def zE:=λx0 x1 x2 x3 x4 x5 x6 x7=>(acf aS BL nJ bC x0 x1 x2 x3 x4 x5 x6 x7).val
abbrev acg:=bM×Od×Xq×eY
def aqY (p:acg):KK:=⟨[dD p.1,af8 p.2.1,amD p.b.1,nI p.b.2],⟨[⟨2,(1::2::3::rg 7 10 (rg 18 124 [])),[]⟩,⟨10,(1::2::3::7::rg 10 24 (rg 35 107 [])),[]⟩,⟨19,(1::2::3::7::rg 11 23 (rg 35 38 (rg 74 68 []))),[]⟩,⟨28,(1::2::3::7::11::12::13::rg 16 18 (rg 35 38 (rg 74 29 (rg 104 38 [])))),[]⟩],[],[],[],(some ⟨0,(rg 0 6 (rg 7 135 [])),[]⟩)⟩,0,218⟩
theorem aGM (p:acg):D2 (aqY p) aqV (lf Xs) λb=>acf p.1 p.2.1 p.b.1 p.b.2 b.1.1.1 b.1.1.2.1 b.1.1.b.1 b.1.1.b.2 b.1.2.1 b.1.b.1 b.1.b.2 b.2:=λb=>by kernel_rfl
abbrev aqZ:acg:=(aS,BL,nJ,bC)
theorem aq0 [ax]:SC (ace zE):=sc (kS (k:=aqY aqZ) (.c dI (.c asA (.c aFc (.c pe (.nil _))))) [2,10,19,28] [] ⟨kN,⟨kN,⟨kN,⟨kN,trivial⟩⟩⟩⟩ trivial (aGM aqZ))
def aq1:=qa (pl Dy nil)
def Xt:=qe aVp
abbrev aq2:=Xt.B
abbrev HH:=Int->Int->Int->Int->Int->Int->Int->Int->Int->Option aq2
def ach (g:HH):Ct:=(137,FC aq1 (lf Xt) (λb=>g b.1 b.2.1 b.b.1 b.b.2.1 b.c.1 b.c.2.1 b.c.b.1 b.c.b.2.1 b.d))
def aci (x0:Int)(x1:Int)(x2:Int)(x3:Int)(x4:Int)(x5:Int)(x6:Int)(x7:Int)(x8:Int):Pg aq2:=ret (x1,x2,x3)
def zF:=λx0 x1 x2 x3 x4 x5 x6 x7 x8=>(aci x0 x1 x2 x3 x4 x5 x6 x7 x8).val
theorem aGN:D0 [] 137 aq1 (lf Xt) λb=>aci b.1 b.2.1 b.b.1 b.b.2.1 b.c.1 b.c.2.1 b.c.b.1 b.c.b.2.1 b.d:=λb=>by kernel_rfl
theorem aq3 [ax]:SC (ach zF):=s0 (.nil _) aGN
def aq4:=qa (pl GB nil)
def Xu:=qe Et
abbrev acj:=Xu.B
abbrev vk:=Int->Int->Int->Option acj
def zG (g:vk):Ct:=(76,FC aq4 (lf Xu) (λb=>g b.1 b.2.1 b.b))
def HI (x0:Int)(x1:Int)(x2:Int):Pg acj:=ae (decide (x0>= -900000000)) (ae (decide (x0<=900000000)) (ae (decide (x1>= -1800000000)) (ae (decide (x1<=1800000000)) (ae (decide (x2>= -100000000)) (ret (decide (x2<=100000000))) (ret false)) (ret false)) (ret false)) (ret false)) (ret false)
def gQ:=λx0 x1 x2=>(HI x0 x1 x2).val
theorem aGO:D0 [] 76 aq4 (lf Xu) λb=>HI b.1 b.2.1 b.b:=λb=>by kernel_rfl
theorem Dr [ax]:SC (zG gQ):=s0 (.nil _) aGO
def avz:=qa (pl Dy nil)
def ack:=qe Et
abbrev avA:=ack.B
abbrev agM:=Int->Int->Int->Int->Int->Int->Int->Int->Int->Option avA
def avB (g:agM):Ct:=(136,FC avz (lf ack) (λb=>g b.1 b.2.1 b.b.1 b.b.2.1 b.c.1 b.c.2.1 b.c.b.1 b.c.b.2.1 b.d))
def agN (acm:HH)(cL:vk)(x0:Int)(x1:Int)(x2:Int)(x3:Int)(x4:Int)(x5:Int)(x6:Int)(x7:Int)(x8:Int):Pg avA:=ae (decide (x4< -1000000)) (ret false) (ae (decide (x4>1000000)) (ret false) (ae (decide (x5< -1000000)) (ret false) (ae (decide (x5>1000000)) (ret false) (ae (decide (x6< -1000000)) (ret false) (ae (decide (x6>1000000)) (ret false) (ae (decide (x7<1)) (ret false) (ae (decide (x7>1000000)) (ret false) (ae (decide (x8<1)) (ret false) (ae (decide (x8>1000000)) (ret false) (opt (acm x0 x1 x2 x3 x4 x5 x6 x7 x8) λd=>opt (cL d.1 d.2.1 d.2.2) λd=>ret d))))))))))
def Mw:=λx0 x1 x2 x3 x4 x5 x6 x7 x8=>(agN zF gQ x0 x1 x2 x3 x4 x5 x6 x7 x8).val
abbrev agO:=HH×vk
def avC (p:agO):KK:=⟨[ach p.1,zG p.2],⟨[⟨2,(0::rg 3 5 (rg 11 6 (rg 19 12 (rg 33 5 [])))),[]⟩,⟨8,(0::rg 3 19 (rg 25 6 (rg 33 5 []))),[]⟩],[],[],[],(some ⟨0,(0::1::rg 3 35 []),[]⟩)⟩,0,136⟩
theorem aKx (p:agO):D2 (avC p) avz (lf ack) λb=>agN p.1 p.2 b.1 b.2.1 b.b.1 b.b.2.1 b.c.1 b.c.2.1 b.c.b.1 b.c.b.2.1 b.d:=λb=>by kernel_rfl
abbrev avD:agO:=(zF,gQ)
theorem aKy [ax]:SC (avB Mw):=sc (kS (k:=avC avD) (.c aq3 (.c Dr (.nil _))) [2,8] [] ⟨kN,⟨kN,trivial⟩⟩ trivial (aKx avD))
def adJ:=qa (pl iL nil)
def Mx:=qe Gy
abbrev adK:=Mx.B
abbrev OG:=Int->Option adK
def adL (g:OG):Ct:=(138,FC adJ (lf Mx) (λb=>g b))
def OH (aq:cx)(aE:bY)(x0:Int):Pg adK:=opt (aq (wI (x0*x0)) 17592186044416 1000000 false) λd=>opt (aE d.1 1 72057594037927936 d.2) λd=>ret d.1
def AP:=λx0=>(OH aU bh x0).val
theorem ax5:∀aq aE,D0 [dA aq,ek aE] 138 adJ (lf Mx) λb=>OH aq aE b:=λ_ _ b=>by kernel_rfl
theorem ax6 [ax]:SC (adL AP):=s0 (.c dL (.c eU (.nil _))) (ax5 aU bh)
def avE:=qa (pr (cu aO Dy) bB)
def acn:=qe (res (pr (rU (c (ra awU) aeV)) (pl mX nil)))
abbrev avF:=acn.B
abbrev agP:=Int->Int->Int->Int->Int->Int->Int->Int->Int->Bool->Option avF
def agQ (g:agP):Ct:=(89,FC avE (lf acn) (λb=>g b.1.1 b.1.2.1 b.1.b.1 b.1.b.2.1 b.1.c.1 b.1.c.2.1 b.1.c.b.1 b.1.c.b.2.1 b.1.d b.2))
def agR (aKz:agM)(acm:HH)(adM:OG)(aq:cx)(x0:Int)(x1:Int)(x2:Int)(x3:Int)(x4:Int)(x5:Int)(x6:Int)(x7:Int)(x8:Int)(x9:Bool):Pg avF:=opt (aKz x0 x1 x2 x3 x4 x5 x6 x7 x8) λd=>ae (!d) (ret (((0,0,0,0,0,0,0,0),1),x9)) (opt (acm x0 x1 x2 x3 x4 x5 x6 x7 x8) λd=>opt (adM x7) λaj=>opt (adM x8) λaC=>opt (aq x4 1073741824 1000 x9) λbx=>opt (aq x5 1073741824 1000 bx.2) λcH=>opt (aq x6 1073741824 1000 cH.2) λfx=>ret (((d.1,d.2.1,d.2.2,bx.1,cH.1,fx.1,aj,aC),0),fx.2))
def yK:=λx0 x1 x2 x3 x4 x5 x6 x7 x8 x9=>(agR Mw zF AP aU x0 x1 x2 x3 x4 x5 x6 x7 x8 x9).val
abbrev agS:=agM×HH×OG×cx
def avG (p:agS):KK:=⟨[avB p.1,ach p.2.1,adL p.b.1,dA p.b.2],⟨[⟨5,(1::2::5::rg 7 16 (rg 24 14 [])),[]⟩],[],[0],[],(some ⟨0,(rg 0 4 (rg 6 32 [])),[]⟩)⟩,0,89⟩
theorem aKA (p:agS):D2 (avG p) avE (lf acn) λb=>agR p.1 p.2.1 p.b.1 p.b.2 b.1.1 b.1.2.1 b.1.b.1 b.1.b.2.1 b.1.c.1 b.1.c.2.1 b.1.c.b.1 b.1.c.b.2.1 b.1.d b.2:=λb=>by kernel_rfl
abbrev avH:agS:=(Mw,zF,AP,aU)
theorem avI [ax]:SC (agQ yK):=sc (kS (k:=avG avH) (.c aKy (.c aq3 (.c ax6 (.c dL (.nil _))))) [5] [] ⟨kN,trivial⟩ trivial (aKA avH))
def aix:=qa (dp (cl IJ nil) λa=>(cl (cl (gs a.1 ot) nil) nil))
def OJ:=qe aVw
abbrev aiy:=OJ.B
abbrev S4:=Nat->NI->Bool->Option aiy
def S5 (g:S4):Ct:=(231,uV 0 [.i .i64] (FC aix (lf OJ) (λb=>g b.1.1 b.2 b.1.2)))
def mh:=qs (st (dp (us 2 (cu TN (cu DT (us 2 (c IJ (c ai aIS)))))) λa=>(pl (c (so (cl (gs a.1.1 ot) nil)) NG) nil)))
def avJ:=qs (st (pr (us 2 (cu TN (cu DT (us 2 (c IJ (c ai aIZ)))))) (pl (c IM NG) nil)))
abbrev yL:=(aL7×NI×NI×NI)
def Z9 {ρ:Type}(x:yL)(K:AX->St->Option ρ):Option ρ:=(λd=>K (.ex 0) (avJ.em (d.1,(d.1.1.1,d.2.1),d.b))) x
def My (d:mh.B):PL mh yL:=let n3:=d.2.1;let n2:=d.1.2.2;let n1:=(d.1.1,d.1.2.1,wI (n2+1));let y0:=ws (n3 (ws n2));let y1:=decide (n2<d.1.2.1);ae y1 (ae (bg n2 d.1.1.1) (ae (decide (n3 (ws n2)>=0)) (ae (decide (n3 (ws n2)<24)) (ae (bg (n3 (ws n2)) 24) (ae (true&&wd (0+y0*1+1) 24) (ret (wr (n1,n3,d.2.2.1,λj=>bif ww j y0 then 1073741824 else d.2.2.2 j))) no) no) (ret (wr (n1,d.2)))) (ret (wr (n1,d.2)))) no) (ret (wn ((d.1.1,d.1.2.1,n2,y1),d.2)))
def Mz:=bw (My) 2000
def S6 (eB:LT mh yL)(x0:Nat)(x1:Nat->Int)(w0:Bool):Pg aiy:=ae (ww x0 x0) (opt (eB (((x0,w0),wl x0,0),x1,λx=>0,λx=>0)) λd=>ret d.2.2.2) no
def pV:=λx0 x1 w0=>(S6 Mz x0 x1 w0).val
abbrev Ix:=(LT mh yL)
def S7 (p:Ix):KK:=⟨[],⟨[⟨3,(0::1::4::5::rg 9 6 (rg 17 5 [15,16])),[]⟩],[fY 3 1 mh Z9 p],[],[],(some ⟨0,(0::1::rg 3 19 []),[]⟩)⟩,1,231⟩
theorem asY (p:Ix):LI (S7 p) 3 mh Z9 (My):=λ_ d c K=>by kernel_rfl
theorem aBO (p:Ix):D2 (S7 p) aix (lf OJ) λb=>S6 p b.1.1 b.2 b.1.2:=λb=>by kernel_rfl
abbrev S8:Ix:=Mz
theorem aiz [ax]:SC (S5 pV):=sc (Sound.nil 0 [.i .i64]<|kS (k:=S7 S8) (.nil _) [3] [] ⟨kL (asY S8),trivial⟩ trivial (aBO S8))
def adN:=qa (pr (cu aO (c lW (c ai Eu))) bB)
def MA:=qe aVU
abbrev adO:=MA.B
abbrev vJ:=NI->Int->Int->Int->Int->Bool->Option adO
def FZ (g:vJ):Ct:=(253,FC adN (lf MA) (λb=>g b.1.1 b.1.2.1 b.1.b.1 b.1.b.2.1 b.1.c b.2))
def OK (nW:S4)(aV:dk)(x0:Nat->Int)(x1:Int)(x2:Int)(x3:Int)(x4:Int)(x5:Bool):Pg adO:=opt (nW 1 (λj=>bif ww j 0 then x1 else x1) true) λd=>ae (bg x1 24) (opt (aV x2 (x0 (ws x1)) x5) λaj=>ret ((d,aj.1,x3,x4),aj.2)) no
def eR:=λx0 x1 x2 x3 x4 x5=>(OK pV bW x0 x1 x2 x3 x4 x5).val
theorem ax7:∀nW aV,D0 [S5 nW,iG aV] 253 adN (lf MA) λb=>OK nW aV b.1.1 b.1.2.1 b.1.b.1 b.1.b.2.1 b.1.c b.2:=λ_ _ b=>by kernel_rfl
theorem OL [ax]:SC (FZ eR):=s0 (.c aiz (.c jz (.nil _))) (ax7 pV bW)
def adP:=qa (pr (cu aO (c lW (c aJk iL))) bB)
def MB:=qe aWp
abbrev adQ:=MB.B
abbrev adR:=NI->Int->Int->Int->Int->Int->Int->Int->Int->Int->Bool->Option adQ
def adS (g:adR):Ct:=(225,FC adP (lf MB) (λb=>g b.1.1 b.1.2.1.1.1 b.1.2.1.1.2.1 b.1.2.1.1.b b.1.2.1.2.1.1 b.1.2.1.2.1.2.1 b.1.2.1.2.1.b b.1.2.1.b.1 b.1.2.1.b.2 b.1.b b.2))
def OM (js:vJ)(x0:Nat->Int)(x1:Int)(x2:Int)(x3:Int)(x4:Int)(x5:Int)(x6:Int)(x7:Int)(x8:Int)(x9:Int)(fS:Bool):Pg adQ:=opt (js x0 4 x4 x8 x9 fS) λd=>opt (js x0 5 x5 x8 x9 d.2) λaj=>opt (js x0 6 x6 x8 x9 aj.2) λaC=>ret (aC.2,d.1.1,d.1.2.1,d.1.2.2.1,d.1.2.2.2,aj.1.1,aj.1.2.1,aj.1.2.2.1,aj.1.2.2.2,aC.1)
def vK:=λx0 x1 x2 x3 x4 x5 x6 x7 x8 x9 fS=>(OM eR x0 x1 x2 x3 x4 x5 x6 x7 x8 x9 fS).val
abbrev ON:=vJ
def adT (p:ON):KK:=⟨[FZ p],⟨[⟨3,(1::2::4::7::8::10::11::12::rg 15 17 []),[]⟩],[],[],[],(some ⟨0,(rg 0 8 (rg 9 23 [])),[]⟩)⟩,0,225⟩
theorem ax8 (p:ON):D2 (adT p) adP (lf MB) λb=>OM p b.1.1 b.1.2.1.1.1 b.1.2.1.1.2.1 b.1.2.1.1.b b.1.2.1.2.1.1 b.1.2.1.2.1.2.1 b.1.2.1.2.1.b b.1.2.1.b.1 b.1.2.1.b.2 b.1.b b.2:=λb=>by kernel_rfl
abbrev adU:ON:=eR
theorem ax9 [ax]:SC (adS vK):=sc (kS (k:=adT adU) (.c OL (.nil _)) [3] [] ⟨kN,trivial⟩ trivial (ax8 adU))
def Z':=qa (pr (cu (app 0 5) (cu Qu GB)) (c mZ bB))
def JA:=qe (res (pr aVr (pl (cu fK mX) nil)))
abbrev aaa:=JA.B
abbrev yM:=Int->Int->Int->Int->Int->Int->Int->Int->Bool->Option aaa
def D4 (g:yM):Ct:=(249,FC Z' (lf JA) (λb=>g b.1.1 b.1.2.1 b.1.b b.2.1.1.1 b.2.1.1.2.1 b.2.1.1.b b.2.1.2.1 b.2.1.b b.b))
def MC (cL:vk)(aB:bS)(aq:cx)(x0:Int)(x1:Int)(x2:Int)(x3:Int)(x4:Int)(x5:Int)(x6:Int)(x7:Int)(x8:Bool):Pg aaa:=let y0:=wI (x1-x4);opt (cL x0 x1 x2) λd=>ae (!d) (ret (((0,0,0),1),x8)) (ae (decide (y0>1800000000)) (opt (aB (wI (x0-x3)) x6 10 x8) λd=>opt (aB (wI (y0-3600000000)) x7 10 d.2) λaj=>opt (aq (wI (x5-x2)) 1073741824 1000 aj.2) λaC=>ret (((d.1,aj.1,aC.1),0),aC.2)) (ae (decide (y0<= -1800000000)) (opt (aB (wI (x0-x3)) x6 10 x8) λd=>opt (aB (wI (y0+3600000000)) x7 10 d.2) λaj=>opt (aq (wI (x5-x2)) 1073741824 1000 aj.2) λaC=>ret (((d.1,aj.1,aC.1),0),aC.2)) (opt (aB (wI (x0-x3)) x6 10 x8) λd=>opt (aB y0 x7 10 d.2) λaj=>opt (aq (wI (x5-x2)) 1073741824 1000 aj.2) λaC=>ret (((d.1,aj.1,aC.1),0),aC.2))))
def jC:=λx0 x1 x2 x3 x4 x5 x6 x7 x8=>(MC gQ aZ aU x0 x1 x2 x3 x4 x5 x6 x7 x8).val
theorem avK:∀cL aB aq,D1 [zG cL,fG aB,dA aq] [1] 249 Z' (lf JA) λb=>MC cL aB aq b.1.1 b.1.2.1 b.1.b b.2.1.1.1 b.2.1.1.2.1 b.2.1.1.b b.2.1.2.1 b.2.1.b b.b:=λ_ _ _ b=>by kernel_rfl
theorem MD [ax]:SC (D4 jC):=s0 (.c Dr (.c fZ (.c dL (.nil _)))) (avK gQ aZ aU)
def wC:=qa (pr (cu aO (c lW (c aJk (cu (app 1 5) iL)))) (c xi (cl mZ nil)))
def Nn:=qe (res (pr aVc (pl ND nil)))
def No:=qe (res (pu (rU (cu (rc (iW (pu rq4 (pu vT (pu (szl rq4) (pu (nat 27) jx)))))) aka)) (pr ND (cl aPU nil))))
abbrev JB:=Nn.B⊕No.B
def Xv:JB->T:=ls (lf Nn) (lf No)
abbrev Xw:=wC.B->Option JB
def Xx (g:Xw):Ct:=(226,FC wC Xv g)
def JC (ig:yM)(js:vJ)(x:wC.B):Pg JB:=opt (ig x.1.2.1.1.1 x.1.2.1.1.2.1 x.1.2.1.1.2.2 x.2.2.1.1 x.2.2.1.2.1 x.2.2.1.2.2 x.2.2.2.1 x.2.2.2.2 x.2.1) λd=>ae (d.1.2!=0) (ret (wr (d.1.2,d.2))) (opt (js x.1.1 7 d.1.1.1 x.1.2.1.2.2.1 x.1.2.2 d.2) λaj=>opt (js x.1.1 8 d.1.1.2.1 x.1.2.1.2.2.1 x.1.2.2 aj.2) λd=>ret (wn (d.2,aj.1.1,aj.1.2.1,aj.1.2.2.1,aj.1.2.2.2,d.1)))
def qP:=λx=>(JC jC eR x).val
abbrev JD:=yM×vJ
def Xy (p:JD):KK:=⟨[D4 p.1,FZ p.2],⟨[⟨6,(1::2::3::5::rg 8 6 (rg 15 13 (rg 31 18 []))),[]⟩],[],[],[],(some ⟨0,(rg 0 10 (rg 12 37 [])),[]⟩)⟩,0,226⟩
theorem asZ (p:JD):D2 (Xy p) wC Xv λb=>JC p.1 p.2 b:=λb=>by kernel_rfl
abbrev Xz:JD:=(jC,eR)
theorem as0 [ax]:SC (Xx qP):=sc (kS (k:=Xy Xz) (.c MD (.c OL (.nil _))) [6] [] ⟨kN,trivial⟩ trivial (asZ Xz))
def E1:=qa (pr (cu aO (c lW (c aJk (cu (app 1 5) iL)))) (c xi (cl mZ nil)))
def S9:=qe (res (pr aVQ (pl ND nil)))
abbrev amG:=S9.B
abbrev amH:=E1.B->Option amG
def amI (g:amH):Ct:=(227,FC E1 (lf S9) g)
def XA (ig:yM)(ck:fH)(aE:bY)(js:vJ)(x:E1.B):Pg amG:=let n3:=x.2.2;let n2:=x.1.2.1;let n1:=n2.2.2.1;opt (ig n2.1.1 n2.1.2.1 n2.1.2.2 n3.1.1 n3.1.2.1 n3.1.2.2 n3.2.1 n3.2.2 x.2.1) λd=>ae (d.1.2!=0) (ret (((λx=>0,0,0,0),d.1.2),d.2)) (opt (ck 4 false (cr n1 [n1,n1,n1,n1]) true) λaj=>opt (aE aj.1 1 72057594037927936 aj.2) λaC=>opt (js x.1.1 9 d.1.1.2.2 aC.1 x.1.2.2 d.2) λd=>ret ((d.1,0),d.2))
def AQ:=λx=>(XA jC cY bh eR x).val
theorem aFf:∀ig ck aE js,D0 [D4 ig,pd ck,ek aE,FZ js] 227 E1 (lf S9) λb=>XA ig ck aE js b:=λ_ _ _ _ b=>by kernel_rfl
theorem aFg [ax]:SC (amI AQ):=s0 (.c MD (.c rz (.c eU (.c OL (.nil _))))) (aFf jC cY bh eR)
def XB:=qa (pl iL nil)
def GU:=qe Gy
abbrev XC:=GU.B
abbrev XD:=Int->Option XC
def XE (g:XD):Ct:=(203,FC XB (lf GU) (λb=>g b))
def JE (aq:cx)(aE:bY)(x0:Int):Pg XC:=opt (aq (wI (x0*x0)) 17592186044416 1000000 false) λd=>opt (aE d.1 1 72057594037927936 d.2) λd=>ret d.1
def wD:=λx0=>(JE aU bh x0).val
theorem as1:∀aq aE,D0 [dA aq,ek aE] 203 XB (lf GU) λb=>JE aq aE b:=λ_ _ b=>by kernel_rfl
theorem as2 [ax]:SC (XE wD):=s0 (.c dL (.c eU (.nil _))) (as1 aU bh)
def amJ:=qa (pr (cu aO (c aJj zq)) bB)
def Ta:=qe aPQ
abbrev amK:=Ta.B
abbrev XF:=Int->Int->Int->Int->Int->Int->Int->Int->Int->Int->Int->Bool->Option amK
def XG (g:XF):Ct:=(139,FC amJ (lf Ta) (λb=>g b.1.1.1 b.1.1.2.1 b.1.1.b.1 b.1.1.b.2.1 b.1.1.c.1 b.1.1.c.2.1 b.1.1.c.b.1 b.1.1.c.b.2.1 b.1.1.d b.1.2.1 b.1.b b.2))
def XH (aq:cx)(BS:XD)(x0:Int)(x1:Int)(x2:Int)(x3:Int)(x4:Int)(x5:Int)(x6:Int)(x7:Int)(x8:Int)(x9:Int)(fS:Int)(fR:Bool):Pg amK:=ae (decide (x1<x9)) (ret (((0,0),1),fR)) (ae (decide (x1>fS)) (ret (((0,0),1),fR)) (ae (decide (x2<1)) (ret (((0,0),1),fR)) (ae (decide (x2>1000000)) (ret (((0,0),1),fR)) (opt (aq x1 1073741824 1000 fR) λd=>opt (BS x2) λaj=>ret (((d.1,aj),0),d.2)))))
def wE:=λx0 x1 x2 x3 x4 x5 x6 x7 x8 x9 fS fR=>(XH aU wD x0 x1 x2 x3 x4 x5 x6 x7 x8 x9 fS fR).val
theorem aFh:∀aq BS,D1 [dA aq,XE BS] [0] 139 amJ (lf Ta) λb=>XH aq BS b.1.1.1 b.1.1.2.1 b.1.1.b.1 b.1.1.b.2.1 b.1.1.c.1 b.1.1.c.2.1 b.1.1.c.b.1 b.1.1.c.b.2.1 b.1.1.d b.1.2.1 b.1.b b.2:=λ_ _ b=>by kernel_rfl
theorem amL [ax]:SC (XG wE):=s0 (.c dL (.c as2 (.nil _))) (aFh aU wD)
def XI:=qa (pr (cu aO Dy) bB)
def GV:=qe aPQ
abbrev XJ:=GV.B
abbrev JF:=Int->Int->Int->Int->Int->Int->Int->Int->Int->Bool->Option XJ
def JG (g:JF):Ct:=(90,FC XI (lf GV) (λb=>g b.1.1 b.1.2.1 b.1.b.1 b.1.b.2.1 b.1.c.1 b.1.c.2.1 b.1.c.b.1 b.1.c.b.2.1 b.1.d b.2))
def JH (pA:XF)(x0:Int)(x1:Int)(x2:Int)(x3:Int)(x4:Int)(x5:Int)(x6:Int)(x7:Int)(x8:Int)(x9:Bool):Pg XJ:=opt (pA x0 x1 x2 x3 x4 x5 x6 x7 x8 (-100000000) 100000000 x9) λd=>ret d
def mi:=λx0 x1 x2 x3 x4 x5 x6 x7 x8 x9=>(JH wE x0 x1 x2 x3 x4 x5 x6 x7 x8 x9).val
theorem as3:∀pA,D0 [XG pA] 90 XI (lf GV) λb=>JH pA b.1.1 b.1.2.1 b.1.b.1 b.1.b.2.1 b.1.c.1 b.1.c.2.1 b.1.c.b.1 b.1.c.b.2.1 b.1.d b.2:=λ_ b=>by kernel_rfl
theorem XK [ax]:SC (JG mi):=s0 (.c amL (.nil _)) (as3 wE)
def amM:=qa (pr (cu aO (c lW (c (aa aj7) iL))) bB)
def Tb:=qe aVU
abbrev amN:=Tb.B
abbrev amO:=NI->Int->Int->Int->Bool->Option amN
def amP (g:amO):Ct:=(170,FC amM (lf Tb) (λb=>g b.1.1 b.1.2.1.1 b.1.2.1.2 b.1.b b.2))
def XL (nW:S4)(aw:bM)(aV:dk)(x0:Nat->Int)(x1:Int)(x2:Int)(x3:Int)(x4:Bool):Pg amN:=opt (nW 1 (λj=>bif ww j 0 then 9 else 9) true) λd=>opt (aw x1 x4) λaj=>opt (aV (wI (0-aj.1)) (x0 9) aj.2) λaC=>ret ((d,aC.1,x2,x3),aC.2)
def AR:=λx0 x1 x2 x3 x4=>(XL pV aS bW x0 x1 x2 x3 x4).val
theorem aFi:∀nW aw aV,D0 [S5 nW,dD aw,iG aV] 170 amM (lf Tb) λb=>XL nW aw aV b.1.1 b.1.2.1.1 b.1.2.1.2 b.1.b b.2:=λ_ _ _ b=>by kernel_rfl
theorem aFj [ax]:SC (amP AR):=s0 (.c aiz (.c dI (.c jz (.nil _)))) (aFi pV aS bW)
def TZ:=qa (pr (cu aO Dy) bB)
def E2:=qe (res (pr aVr (pl mX nil)))
abbrev T0:=E2.B
abbrev GW:=Int->Int->Int->Int->Int->Int->Int->Int->Int->Bool->Option T0
def GX (g:GW):Ct:=(91,FC TZ (lf E2) (λb=>g b.1.1 b.1.2.1 b.1.b.1 b.1.b.2.1 b.1.c.1 b.1.c.2.1 b.1.c.b.1 b.1.c.b.2.1 b.1.d b.2))
def GY (pA:XF)(x0:Int)(x1:Int)(x2:Int)(x3:Int)(x4:Int)(x5:Int)(x6:Int)(x7:Int)(x8:Int)(x9:Bool):Pg T0:=ae (decide (x3<0)) (ret (((0,0,0),1),x9)) (ae (decide (x3>100)) (ret (((0,0,0),1),x9)) (opt (pA x0 x1 x2 x3 x4 x5 x6 x7 x8 1 1000000 x9) λd=>ae (d.1.2!=0) (ret (((0,0,0),d.1.2),d.2)) (ret (((d.1.1.1,d.1.1.2,x3),0),d.2))))
def kX:=λx0 x1 x2 x3 x4 x5 x6 x7 x8 x9=>(GY wE x0 x1 x2 x3 x4 x5 x6 x7 x8 x9).val
theorem aoT:∀pA,D1 [XG pA] [0] 91 TZ (lf E2) λb=>GY pA b.1.1 b.1.2.1 b.1.b.1 b.1.b.2.1 b.1.c.1 b.1.c.2.1 b.1.c.b.1 b.1.c.b.2.1 b.1.d b.2:=λ_ b=>by kernel_rfl
theorem T1 [ax]:SC (GX kX):=s0 (.c amL (.nil _)) (aoT wE)
def aiA:=qa (pr (cu aO (c lW (c (aa (a 2 aj7 nx)) iL))) bB)
def OO:=qe aC4
abbrev aiB:=OO.B
abbrev aiC:=NI->Int->Int->Int->Int->Bool->Option aiB
def aiD (g:aiC):Ct:=(171,FC aiA (lf OO) (λb=>g b.1.1 b.1.2.1.1.1 b.1.2.1.1.2 b.1.2.1.2 b.1.b b.2))
def Tc (bc:eC)(fF:qM)(aD:cK)(aV:dk)(ck:fH)(aB:bS)(x0:Nat->Int)(x1:Int)(x2:Int)(x3:Int)(x4:Int)(x5:Bool):Pg aiB:=opt (bc x0) λd=>let n1:=d.2.2;opt (fF d.1 d.2.1 n1.1 n1.2 x5) λaj=>ae (decide (aj.1 8<751619277)) (ret (((λx=>0,0,0,0),4),aj.2)) (ae (decide (x3<50)) (ret (((λx=>0,0,0,0),4),aj.2)) (opt (aD (x0 9) (aj.1 8) 30 aj.2) λaC=>opt (aV x1 (wI (0-aC.1)) aC.2) λbx=>opt (aD 1073741824 (aj.1 8) 30 bx.2) λcH=>opt (aD aC.1 (aj.1 8) 30 cH.2) λfx=>opt (ck 2 fx.2 (cr d.1 [d.1,d.1]) true) λdx=>opt (aB fx.1 dx.1 30 dx.2) λnH=>opt (ck 2 nH.2 (cr d.2.1 [d.2.1,d.2.1]) true) λte=>opt (aB fx.1 (wI (0-te.1)) 30 te.2) λpx=>opt (ck 2 px.2 (cr n1.1 [n1.1,n1.1]) true) λmI=>opt (aB fx.1 (wI (0-mI.1)) 30 mI.2) λxj=>opt (ck 2 xj.2 (cr n1.2 [n1.2,n1.2]) true) λd=>opt (aB fx.1 d.1 30 d.2) λd=>ret (((λj=>bif ww j 3 then d.1 else bif ww j 2 then xj.1 else bif ww j 1 then px.1 else bif ww j 0 then nH.1 else bif ww j 9 then wI (0-cH.1) else 0,bx.1,x2,x4),0),d.2)))
def xX:=λx0 x1 x2 x3 x4 x5=>(Tc bX jX bo bW cY aZ x0 x1 x2 x3 x4 x5).val
abbrev Td:=eC×qM×cK×dk×fH×bS
def aiE (p:Td):KK:=⟨[j5 p.1,Dq p.2.1,gO p.b.1,iG p.b.2.1,pd p.c.1,fG p.c.2],⟨[⟨10,(1::rg 3 5 (rg 9 4 (rg 15 43 (rg 60 11 (rg 73 13 []))))),[]⟩],[],[],[],(some ⟨0,(rg 0 8 (rg 10 76 [])),[]⟩)⟩,0,171⟩
theorem aBP (p:Td):D2 (aiE p) aiA (lf OO) λb=>Tc p.1 p.2.1 p.b.1 p.b.2.1 p.c.1 p.c.2 b.1.1 b.1.2.1.1.1 b.1.2.1.1.2 b.1.2.1.2 b.1.b b.2:=λb=>by kernel_rfl
abbrev aiF:Td:=(bX,jX,bo,bW,cY,aZ)
theorem aBQ [ax]:SC (aiD xX):=sc (kS (k:=aiE aiF) (.c lA (.c FW (.c iF (.c jz (.c rz (.c fZ (.nil _))))))) [10] [] ⟨kN,trivial⟩ trivial (aBP aiF))
def aiG:=qa (pl iL nil)
def OP:=qe Gy
abbrev aiH:=OP.B
abbrev Te:=Int->Option aiH
def aiI (g:Te):Ct:=(140,FC aiG (lf OP) (λb=>g b))
def Tf (aq:cx)(aE:bY)(x0:Int):Pg aiH:=opt (aq (wI (x0*x0)) 17592186044416 1000000000000 false) λd=>opt (aE d.1 1 72057594037927936 d.2) λd=>ret d.1
def C2:=λx0=>(Tf aU bh x0).val
theorem aBR:∀aq aE,D0 [dA aq,ek aE] 140 aiG (lf OP) λb=>Tf aq aE b:=λ_ _ b=>by kernel_rfl
theorem aBS [ax]:SC (aiI C2):=s0 (.c dL (.c eU (.nil _))) (aBR aU bh)
def aAH:=qa (pr (cu aO Dy) bB)
def agT:=qe aVZ
abbrev aAI:=agT.B
abbrev aab:=Int->Int->Int->Int->Int->Int->Int->Int->Int->Bool->Option aAI
def aac (g:aab):Ct:=(92,FC aAH (lf agT) (λb=>g b.1.1 b.1.2.1 b.1.b.1 b.1.b.2.1 b.1.c.1 b.1.c.2.1 b.1.c.b.1 b.1.c.b.2.1 b.1.d b.2))
def amQ (aBT:Te)(aq:cx)(x0:Int)(x1:Int)(x2:Int)(x3:Int)(x4:Int)(x5:Int)(x6:Int)(x7:Int)(x8:Int)(x9:Bool):Pg aAI:=ae (decide (x4<1)) (ret (((0,0,0,0),1),x9)) (ae (decide (x4>1000000)) (ret (((0,0,0,0),1),x9)) (opt (aBT x4) λd=>ae (decide (x1< -2000000)) (ret (((0,0,0,0),1),x9)) (ae (decide (x1>2000000)) (ret (((0,0,0,0),1),x9)) (opt (aq x1 1073741824 1000000 x9) λaj=>ae (decide (x2< -2000000)) (ret (((0,0,0,0),1),aj.2)) (ae (decide (x2>2000000)) (ret (((0,0,0,0),1),aj.2)) (opt (aq x2 1073741824 1000000 aj.2) λaC=>ae (decide (x3< -2000000)) (ret (((0,0,0,0),1),aC.2)) (ae (decide (x3>2000000)) (ret (((0,0,0,0),1),aC.2)) (opt (aq x3 1073741824 1000000 aC.2) λbx=>ret (((aj.1,aC.1,bx.1,d),0),bx.2)))))))))
def vm:=λx0 x1 x2 x3 x4 x5 x6 x7 x8 x9=>(amQ C2 aU x0 x1 x2 x3 x4 x5 x6 x7 x8 x9).val
abbrev amR:=Te×cx
def aAJ (p:amR):KK:=⟨[aiI p.1,dA p.2],⟨[⟨5,(1::2::rg 7 17 (rg 25 8 (rg 38 13 []))),[]⟩],[],[0],[],(some ⟨0,(rg 0 4 (rg 6 45 [])),[]⟩)⟩,0,92⟩
theorem aN0 (p:amR):D2 (aAJ p) aAH (lf agT) λb=>amQ p.1 p.2 b.1.1 b.1.2.1 b.1.b.1 b.1.b.2.1 b.1.c.1 b.1.c.2.1 b.1.c.b.1 b.1.c.b.2.1 b.1.d b.2:=λb=>by kernel_rfl
abbrev aAK:amR:=(C2,aU)
theorem amS [ax]:SC (aac vm):=sc (kS (k:=aAJ aAK) (.c aBS (.c dL (.nil _))) [5] [] ⟨kN,trivial⟩ trivial (aN0 aAK))
def aAL:=qa (pr (cu aO (c lW (c aPB iL))) bB)
def aKB:=qe aWp
abbrev amT:=(Bool×NI×Int×Int×Int×NI×Int×NI×Int)
def aAM:amT->T:=λd=>lf aKB (d.1,d.2.1,d.b.1,d.b.2.1,d.c.1,d.c.2.1,d.c.b.1,d.b.2.1,d.c.1,d.c.b.2.1,d.d,d.b.2.1,d.c.1)
abbrev aAN:=NI->Int->Int->Int->Int->Int->Bool->Option amT
def aAO (g:aAN):Ct:=(233,FC aAL aAM (λb=>g b.1.1 b.1.2.1.1.1 b.1.2.1.1.2.1 b.1.2.1.1.b b.1.2.1.2 b.1.b b.2))
def amU (bc:eC)(bE:mG)(fF:qM)(QQ:EN)(agU:LC)(aco:HG)(ck:fH)(aV:dk)(x0:Nat->Int)(x1:Int)(x2:Int)(x3:Int)(x4:Int)(x5:Int)(x6:Bool):Pg amT:=opt (bc x0) λd=>opt (bE x0 16) λaj=>opt (bE x0 19) λaC=>opt (fF d.1 d.2.1 d.2.2.1 d.2.2.2 x6) λbx=>opt (QQ bx.1 aj.1 aj.2.1 aj.2.2 bx.2) λcH=>opt (agU d.1 d.2.1 d.2.2.1 d.2.2.2) λd=>opt (aco d.1 d.2.1 d.2.2.1 d.2.2.2 aj.1 aj.2.1 aj.2.2 cH.2) λd=>let n2:=d.1.2.2;let n1:=n2.2.2.2;let n3:=n1.2.2.2;opt (ck 2 d.2 (cr cH.1.1 [aC.1,cH.1.1]) true) λfx=>opt (aV x1 fx.1 fx.2) λdx=>opt (ck 2 dx.2 (cr cH.1.2.1 [aC.2.1,cH.1.2.1]) true) λnH=>opt (aV x2 nH.1 nH.2) λte=>opt (ck 2 te.2 (cr cH.1.2.2 [aC.2.2,cH.1.2.2]) true) λpx=>opt (aV x3 px.1 px.2) λmI=>ret (mI.2,λj=>bif ww j 19 then 1073741824 else bif ww j 18 then bx.1 6 else bif ww j 17 then bx.1 3 else bif ww j 16 then bx.1 0 else bif ww j 3 then wI (0-n2.2.1) else bif ww j 2 then wI (0-n2.1) else bif ww j 1 then wI (0-d.1.2.1) else bif ww j 0 then d.1.1 else 0,dx.1,x4,x5,λj=>bif ww j 20 then 1073741824 else bif ww j 18 then bx.1 7 else bif ww j 17 then bx.1 4 else bif ww j 16 then bx.1 1 else bif ww j 3 then wI (0-n1.2.2.1) else bif ww j 2 then wI (0-n1.2.1) else bif ww j 1 then wI (0-n1.1) else bif ww j 0 then n2.2.2.1 else 0,te.1,λj=>bif ww j 21 then 1073741824 else bif ww j 18 then bx.1 8 else bif ww j 17 then bx.1 5 else bif ww j 16 then bx.1 2 else bif ww j 3 then wI (0-n3.2.2.2) else bif ww j 2 then wI (0-n3.2.2.1) else bif ww j 1 then wI (0-n3.2.1) else bif ww j 0 then n3.1 else 0,mI.1)
def QR:=λx0 x1 x2 x3 x4 x5 x6=>(amU bX eX jX yx BM zE cY bW x0 x1 x2 x3 x4 x5 x6).val
abbrev amV:=eC×mG×qM×EN×LC×HG×fH×dk
def aAP (p:amV):KK:=⟨[j5 p.1,rA p.2.1,Dq p.b.1,ZM p.b.2.1,agb p.c.1,ace p.c.2.1,pd p.c.b.1,iG p.c.b.2],⟨[⟨7,(1::2::4::5::rg 7 4 (rg 16 23 (rg 40 62 []))),[]⟩,⟨11,(1::2::4::5::rg 7 4 (rg 18 21 (rg 40 23 (rg 65 37 [])))),[]⟩,⟨18,(1::2::4::5::rg 7 4 (rg 18 21 (rg 40 38 (rg 79 23 [])))),[]⟩],[],[],[],(some ⟨0,(rg 0 8 (rg 9 93 [])),[]⟩)⟩,0,233⟩
theorem aN1 (p:amV):D2 (aAP p) aAL aAM λb=>amU p.1 p.2.1 p.b.1 p.b.2.1 p.c.1 p.c.2.1 p.c.b.1 p.c.b.2 b.1.1 b.1.2.1.1.1 b.1.2.1.1.2.1 b.1.2.1.1.b b.1.2.1.2 b.1.b b.2:=λb=>by kernel_rfl
abbrev aAQ:amV:=(bX,eX,jX,yx,BM,zE,cY,bW)
theorem aN2 [ax]:SC (aAO QR):=sc (kS (k:=aAP aAQ) (.c lA (.c uY (.c FW (.c alK (.c auQ (.c aq0 (.c rz (.c jz (.nil _))))))))) [7,11,18] [] ⟨kN,⟨kN,⟨kN,trivial⟩⟩⟩ trivial (aN1 aAQ))
def aq5:=qa (pr (cu aO GB) bB)
def XM:=qe (res (pr aPr (pl mX nil)))
abbrev aq6:=XM.B
abbrev Qe:=Int->Int->Int->Bool->Option aq6
def acp (g:Qe):Ct:=(248,FC aq5 (lf XM) (λb=>g b.1.1 b.1.2.1 b.1.b b.2))
def acq (kv:zA)(rC:abn)(x0:Int)(x1:Int)(x2:Int)(x3:Bool):Pg aq6:=opt (kv 2 x3 (cr x0 [x1,x0]) true) λd=>ae (decide (d.1<16777216)) (ret ((0,false),d.2)) (opt (rC x1 x0 d.2) λd=>ret ((d.1,true),d.2))
def zH:=λx0 x1 x2 x3=>(acq gP zz x0 x1 x2 x3).val
theorem aGP:∀kv rC,D0 [Hy kv,abo rC] 248 aq5 (lf XM) λb=>acq kv rC b.1.1 b.1.2.1 b.1.b b.2:=λ_ _ b=>by kernel_rfl
theorem aq7 [ax]:SC (acp zH):=s0 (.c P5 (.c aql (.nil _))) (aGP gP zz)
def amW:=qa (pr (cu aO (c lW (c aPB Eu))) bB)
def Tg:=qe aC4
abbrev amX:=Tg.B
abbrev amY:=NI->Int->Int->Int->Int->Int->Int->Int->Bool->Option amX
def amZ (g:amY):Ct:=(235,FC amW (lf Tg) (λb=>g b.1.1 b.1.2.1.1.1 b.1.2.1.1.2.1 b.1.2.1.1.b b.1.2.1.2 b.1.b.1 b.1.b.2.1 b.1.c b.2))
def XN (bc:eC)(fF:qM)(bE:mG)(og:I4)(jb:FT)(Ds:Qe)(kv:zA)(aV:dk)(dw:yo)(bd:eY)(ck:fH)(aD:cK)(x0:Nat->Int)(x1:Int)(x2:Int)(x3:Int)(x4:Int)(x5:Int)(x6:Int)(x7:Int)(x8:Bool):Pg amX:=opt (bc x0) λd=>let n1:=d.2.2;opt (fF d.1 d.2.1 n1.1 n1.2 x8) λaj=>opt (bE x0 19) λaC=>opt (og x1 x2 x3 aC.1 aC.2.1 aC.2.2 aj.2) λbx=>opt (jb aj.1 bx.1.1 bx.1.2.1 bx.1.2.2 bx.2) λcH=>opt (Ds cH.1.1 cH.1.2.1 cH.1.2.2 cH.2) λfx=>ae (!fx.1.2) (ret (((λx=>0,0,0,0),4),fx.2)) (opt (kv 2 fx.2 (cr (aj.1 0) [aj.1 3,aj.1 0]) true) λdx=>ae (decide (dx.1<16777216)) (ret (((λx=>0,0,0,0),4),dx.2)) (opt (aV x5 fx.1.1 dx.2) λnH=>opt (dw nH.1) λte=>opt (bd 30 2 2 nH.2 (cr (aj.1 0) [aj.1 3,aj.1 0]) (cr (aj.1 0) [aj.1 3,aj.1 0]) true true) λpx=>opt (ck 2 px.2 (cr d.1 [d.1,d.1]) true) λmI=>opt (ck 2 mI.2 (cr d.2.1 [d.2.1,d.2.1]) true) λxj=>opt (ck 2 xj.2 (cr n1.1 [n1.1,n1.1]) true) λKv=>opt (ck 2 Kv.2 (cr n1.2 [n1.2,n1.2]) true) λd=>opt (bd 30 2 2 d.2 (cr (aj.1 0) [wI (0-aj.1 3),aj.1 0]) (cr d.1 [mI.1,d.1]) true true) λL6=>opt (aD L6.1 px.1 30 L6.2) λaFd=>opt (bd 30 2 2 aFd.2 (cr (aj.1 0) [wI (0-aj.1 3),aj.1 0]) (cr Kv.1 [xj.1,Kv.1]) true true) λZ7=>opt (aD Z7.1 px.1 30 Z7.2) λadI=>opt (bd 30 2 2 adI.2 (cr (aj.1 0) [wI (0-aj.1 3),aj.1 0]) (cr xj.1 [wI (0-Kv.1),xj.1]) true true) λZ8=>opt (aD Z8.1 px.1 30 Z8.2) λaFe=>opt (bd 30 2 2 aFe.2 (cr (aj.1 0) [wI (0-aj.1 3),aj.1 0]) (cr mI.1 [wI (0-d.1),mI.1]) true true) λd=>opt (aD d.1 px.1 30 d.2) λd=>ret (((cr 0 [d.1,aFe.1,adI.1,aFd.1],te,x6,x7),0),d.2)))
def E3:=λx0 x1 x2 x3 x4 x5 x6 x7 x8=>(XN bX jX eX wa nU zH gP bW ly bC cY bo x0 x1 x2 x3 x4 x5 x6 x7 x8).val
abbrev XO:=eC×qM×mG×I4×FT×Qe×zA×dk×yo×eY×fH×cK
def am0 (p:XO):KK:=⟨[j5 p.1,Dq p.2.1,rA p.b.1,V3 p.b.2.1,LN p.c.1,acp p.c.2.1,Hy p.c.b.1,iG p.c.b.2.1,BK p.d.1,nI p.d.2.1,pd p.d.b.1,gO p.d.b.2],⟨[⟨10,(rg 1 11 (13::14::16::17::rg 21 57 (rg 80 58 []))),[]⟩,⟨17,(rg 1 11 (13::14::16::17::20::21::22::rg 25 86 (rg 112 26 []))),[]⟩],[],[],[],(some ⟨0,(rg 0 12 (rg 14 124 [])),[]⟩)⟩,0,235⟩
theorem aFk (p:XO):D2 (am0 p) amW (lf Tg) λb=>XN p.1 p.2.1 p.b.1 p.b.2.1 p.c.1 p.c.2.1 p.c.b.1 p.c.b.2.1 p.d.1 p.d.2.1 p.d.b.1 p.d.b.2 b.1.1 b.1.2.1.1.1 b.1.2.1.1.2.1 b.1.2.1.1.b b.1.2.1.2 b.1.b.1 b.1.b.2.1 b.1.c b.2:=λb=>by kernel_rfl
abbrev am3:XO:=(bX,jX,eX,wa,nU,zH,gP,bW,ly,bC,cY,bo)
theorem aFl [ax]:SC (amZ E3):=sc (kS (k:=am0 am3) (.c lA (.c FW (.c uY (.c af4 (.c UA (.c aq7 (.c P5 (.c jz (.c FO (.c pe (.c rz (.c iF (.nil _))))))))))))) [10,17] [] ⟨kN,⟨kN,trivial⟩⟩ trivial (aFk am3))
def avL:=qa (pr (cu aO (c ae0 (c aPB iL))) bB)
def acr:=qe aPO
abbrev avM:=acr.B
abbrev avN:=Int->Int->Int->Int->Int->Int->Int->Int->Int->Bool->Option avM
def avO (g:avN):Ct:=(219,FC avL (lf acr) (λb=>g b.1.1.1 b.1.1.2.1 b.1.1.b.1 b.1.1.b.2 b.1.2.1.1.1 b.1.2.1.1.2.1 b.1.2.1.1.b b.1.2.1.2 b.1.b b.2))
def agV (fF:qM)(jb:FT)(Ds:Qe)(aV:dk)(dw:yo)(x0:Int)(x1:Int)(x2:Int)(x3:Int)(x4:Int)(x5:Int)(x6:Int)(x7:Int)(x8:Int)(x9:Bool):Pg avM:=opt (fF x0 x1 x2 x3 x9) λd=>opt (jb d.1 x4 x5 x6 d.2) λd=>opt (Ds d.1.1 d.1.2.1 d.1.2.2 d.2) λd=>ae (!d.1.2) (ret ((0,4),d.2)) (opt (aV x8 d.1.1 d.2) λd=>opt (dw d.1) λaj=>ret ((aj,0),d.2))
def F1:=λx0 x1 x2 x3 x4 x5 x6 x7 x8 x9=>(agV jX nU zH bW ly x0 x1 x2 x3 x4 x5 x6 x7 x8 x9).val
theorem aKC:∀fF jb Ds aV dw,D0 [Dq fF,LN jb,acp Ds,iG aV,BK dw] 219 avL (lf acr) λb=>agV fF jb Ds aV dw b.1.1.1 b.1.1.2.1 b.1.1.b.1 b.1.1.b.2 b.1.2.1.1.1 b.1.2.1.1.2.1 b.1.2.1.1.b b.1.2.1.2 b.1.b b.2:=λ_ _ _ _ _ b=>by kernel_rfl
theorem aKD [ax]:SC (avO F1):=s0 (.c FW (.c UA (.c aq7 (.c jz (.c FO (.nil _)))))) (aKC jX nU zH bW ly)
def aiJ:=qa (pl iL nil)
def OQ:=qe Gy
abbrev aiK:=OQ.B
abbrev aiL:=Int->Option aiK
def aiM (g:aiL):Ct:=(141,FC aiJ (lf OQ) (λb=>g b))
def Th (aq:cx)(aE:bY)(x0:Int):Pg aiK:=opt (aq (wI (x0*x0)) 17592186044416 1000000 false) λd=>opt (aE d.1 1 72057594037927936 d.2) λd=>ret d.1
def C4:=λx0=>(Th aU bh x0).val
theorem aBU:∀aq aE,D0 [dA aq,ek aE] 141 aiJ (lf OQ) λb=>Th aq aE b:=λ_ _ b=>by kernel_rfl
theorem aBV [ax]:SC (aiM C4):=s0 (.c dL (.c eU (.nil _))) (aBU aU bh)
def aAR:=qa (pr (cu aO Dy) bB)
def agW:=qe aPQ
abbrev aAS:=agW.B
abbrev am4:=Int->Int->Int->Int->Int->Int->Int->Int->Int->Bool->Option aAS
def am5 (g:am4):Ct:=(93,FC aAR (lf agW) (λb=>g b.1.1 b.1.2.1 b.1.b.1 b.1.b.2.1 b.1.c.1 b.1.c.2.1 b.1.c.b.1 b.1.c.b.2.1 b.1.d b.2))
def am6 (aq:cx)(Iy:aiL)(x0:Int)(x1:Int)(x2:Int)(x3:Int)(x4:Int)(x5:Int)(x6:Int)(x7:Int)(x8:Int)(x9:Bool):Pg aAS:=ae (decide (x1<0)) (ret (((0,0),1),x9)) (ae (decide (x1>300000)) (ret (((0,0),1),x9)) (ae (decide (x2<1)) (ret (((0,0),1),x9)) (ae (decide (x2>1000000)) (ret (((0,0),1),x9)) (opt (aq x1 1073741824 1000 x9) λd=>opt (Iy x2) λaj=>ret (((d.1,aj),0),d.2)))))
def E4:=λx0 x1 x2 x3 x4 x5 x6 x7 x8 x9=>(am6 aU C4 x0 x1 x2 x3 x4 x5 x6 x7 x8 x9).val
theorem aN3:∀aq Iy,D1 [dA aq,aiM Iy] [0] 93 aAR (lf agW) λb=>am6 aq Iy b.1.1 b.1.2.1 b.1.b.1 b.1.b.2.1 b.1.c.1 b.1.c.2.1 b.1.c.b.1 b.1.c.b.2.1 b.1.d b.2:=λ_ _ b=>by kernel_rfl
theorem aAT [ax]:SC (am5 E4):=s0 (.c dL (.c aBV (.nil _))) (aN3 aU C4)
def aiN:=qa (pr (cu aO arY) bB)
def OR:=qe awV
abbrev aiO:=OR.B
abbrev C5:=NI->Bool->Option aiO
def Ti (g:C5):Ct:=(258,FC aiN (lf OR) (λb=>g b.1 b.2))
def Tj (bE:mG)(og:I4)(x0:Nat->Int)(x1:Bool):Pg aiO:=opt (bE x0 4) λd=>opt (og d.1 d.2.1 d.2.2 (x0 22) (x0 23) 0 x1) λd=>ret d
def tN:=λx0 x1=>(Tj eX wa x0 x1).val
theorem aBW:∀bE og,D0 [rA bE,V3 og] 258 aiN (lf OR) λb=>Tj bE og b.1 b.2:=λ_ _ b=>by kernel_rfl
theorem aiP [ax]:SC (Ti tN):=s0 (.c uY (.c af4 (.nil _))) (aBW eX wa)
def avP:=qa (pr (cu (app 0 27) GB) (cl awS nil))
def acs:=qe (res (pu Qs (pl (cl (zp awS) nil) nil)))
abbrev avQ:=acs.B
abbrev ME:=Int->Int->Int->NI->Int->Int->Int->Option avQ
def agX (g:ME):Ct:=(259,FC avP (lf acs) (λb=>g b.1.1 b.1.2.1 b.1.b b.2.1 b.b.1 b.b.2.1 b.c))
def agY (x0:Int)(x1:Int)(x2:Int)(x3:Nat->Int)(x4:Int)(x5:Int)(x6:Int):Pg avQ:=ret (λj=>bif ww j 6 then x2 else bif ww j 23 then wI (0-x1) else bif ww j 5 then x1 else bif ww j 22 then wI (0-x0) else bif ww j 4 then x0 else x3 j,x4,x5,x6)
def BT:=λx0 x1 x2 x3 x4 x5 x6=>(agY x0 x1 x2 x3 x4 x5 x6).val
abbrev agZ:=Unit
def avR (p:agZ):KK:=⟨[],⟨[⟨2,(1::2::4::rg 6 24 []),[]⟩],[],[],[],(some ⟨0,(rg 0 30 []),[]⟩)⟩,0,259⟩
theorem aKE (p:agZ):D2 (avR p) avP (lf acs) λb=>agY b.1.1 b.1.2.1 b.1.b b.2.1 b.b.1 b.b.2.1 b.c:=λb=>by kernel_rfl
abbrev avS:agZ:=()
theorem avT [ax]:SC (agX BT):=sc (kS (k:=avR avS) (.nil _) [2] [] ⟨kN,trivial⟩ trivial (aKE avS))
def aiQ:=qa (pr (cu aO (c lW (c (aa aj7) iL))) bB)
def OS:=qe aC4
abbrev aiR:=OS.B
abbrev aiS:=NI->Int->Int->Int->Bool->Option aiR
def aiT (g:aiS):Ct:=(236,FC aiQ (lf OS) (λb=>g b.1.1 b.1.2.1.1 b.1.2.1.2 b.1.b b.2))
def Tk (Tl:C5)(vi:Bm)(aV:dk)(aD:cK)(ag0:ME)(x0:Nat->Int)(x1:Int)(x2:Int)(x3:Int)(x4:Bool):Pg aiR:=opt (Tl x0 x4) λd=>opt (vi d.1.1 d.1.2.1 d.1.2.2 d.2) λaj=>ae (decide (aj.1<1073741824)) (ret (((λx=>0,0,0,0),4),aj.2)) (opt (aV x1 aj.1 aj.2) λaC=>opt (aD d.1.1 aj.1 30 aC.2) λbx=>opt (aD d.1.2.1 aj.1 30 bx.2) λcH=>opt (aD d.1.2.2 aj.1 30 cH.2) λd=>opt (ag0 bx.1 cH.1 d.1 (λx=>0) aC.1 x2 x3) λfx=>ret ((fx,0),d.2))
def C6:=λx0 x1 x2 x3 x4=>(Tk tN pN bW bo BT x0 x1 x2 x3 x4).val
abbrev Tn:=C5×Bm×dk×cK×ME
def aiU (p:Tn):KK:=⟨[Ti p.1,QG p.2.1,iG p.b.1,gO p.b.2.1,agX p.c],⟨[⟨8,(rg 1 7 (9::rg 14 19 (rg 34 14 []))),[]⟩],[],[],[],(some ⟨0,(rg 0 8 (rg 10 38 [])),[]⟩)⟩,0,236⟩
theorem aBX (p:Tn):D2 (aiU p) aiQ (lf OS) λb=>Tk p.1 p.2.1 p.b.1 p.b.2.1 p.c b.1.1 b.1.2.1.1 b.1.2.1.2 b.1.b b.2:=λb=>by kernel_rfl
abbrev aiV:Tn:=(tN,pN,bW,bo,BT)
theorem aBY [ax]:SC (aiT C6):=sc (kS (k:=aiU aiV) (.c aiP (.c ZC (.c jz (.c iF (.c avT (.nil _)))))) [8] [] ⟨kN,trivial⟩ trivial (aBX aiV))
def aiW:=qa (pr (cu aO (c lW zq)) bB)
def OT:=qe aC4
abbrev aiX:=OT.B
abbrev aiY:=NI->Int->Int->Bool->Option aiX
def aiZ (g:aiY):Ct:=(237,FC aiW (lf OT) (λb=>g b.1.1 b.1.2.1 b.1.b b.2))
def To (bc:eC)(fF:qM)(Tl:C5)(QQ:EN)(aD:cK)(aB:bS)(aV:dk)(ag0:ME)(x0:Nat->Int)(x1:Int)(x2:Int)(x3:Bool):Pg aiX:=opt (bc x0) λd=>opt (fF d.1 d.2.1 d.2.2.1 d.2.2.2 x3) λd=>opt (Tl x0 d.2) λaj=>opt (QQ d.1 aj.1.1 aj.1.2.1 aj.1.2.2 aj.2) λaC=>let n1:=aC.1.1;ae (decide (n1<5368709120)) (ret (((λx=>0,0,0,0),4),aC.2)) (opt (aD aC.1.2.1 n1 30 aC.2) λbx=>opt (aB bx.1 (d.1 0) 30 bx.2) λcH=>opt (aV (d.1 1) cH.1 cH.2) λfx=>opt (aD fx.1 n1 30 fx.2) λdx=>opt (aB bx.1 (d.1 3) 30 dx.2) λnH=>opt (aV (d.1 4) nH.1 nH.2) λte=>opt (aD te.1 n1 30 te.2) λpx=>opt (aB bx.1 (d.1 6) 30 px.2) λmI=>opt (aV (d.1 7) mI.1 mI.2) λd=>opt (aD d.1 n1 30 d.2) λd=>opt (ag0 dx.1 px.1 d.1 (λx=>0) (wI (0-bx.1)) x1 x2) λxj=>ret ((xj,0),d.2))
def C7:=λx0 x1 x2 x3=>(To bX jX tN yx bo aZ bW BT x0 x1 x2 x3).val
abbrev Tp:=eC×qM×C5×EN×cK×bS×dk×ME
def ai0 (p:Tp):KK:=⟨[j5 p.1,Dq p.2.1,Ti p.b.1,ZM p.b.2.1,gO p.c.1,fG p.c.2.1,iG p.c.b.1,agX p.c.b.2],⟨[⟨9,(rg 1 7 (9::rg 15 26 (rg 42 26 []))),[]⟩],[],[],[],(some ⟨0,(rg 0 8 (rg 10 58 [])),[]⟩)⟩,0,237⟩
theorem aBZ (p:Tp):D2 (ai0 p) aiW (lf OT) λb=>To p.1 p.2.1 p.b.1 p.b.2.1 p.c.1 p.c.2.1 p.c.b.1 p.c.b.2 b.1.1 b.1.2.1 b.1.b b.2:=λb=>by kernel_rfl
abbrev ai1:Tp:=(bX,jX,tN,yx,bo,aZ,bW,BT)
theorem aB0 [ax]:SC (aiZ C7):=sc (kS (k:=ai0 ai1) (.c lA (.c FW (.c aiP (.c alK (.c iF (.c fZ (.c jz (.c avT (.nil _))))))))) [9] [] ⟨kN,trivial⟩ trivial (aBZ ai1))
def adV:=qa (pl iL nil)
def MF:=qe Gy
abbrev adW:=MF.B
abbrev OU:=Int->Option adW
def adX (g:OU):Ct:=(142,FC adV (lf MF) (λb=>g b))
def OV (aq:cx)(aE:bY)(x0:Int):Pg adW:=opt (aq (wI (x0*x0)) 17592186044416 1000000000000 false) λd=>opt (aE d.1 1 72057594037927936 d.2) λd=>ret d.1
def AS:=λx0=>(OV aU bh x0).val
theorem aya:∀aq aE,D0 [dA aq,ek aE] 142 adV (lf MF) λb=>OV aq aE b:=λ_ _ b=>by kernel_rfl
theorem ayb [ax]:SC (adX AS):=s0 (.c dL (.c eU (.nil _))) (aya aU bh)
def avU:=qa (pr (cu aO Dy) bB)
def acu:=qe aVZ
abbrev avV:=acu.B
abbrev ag1:=Int->Int->Int->Int->Int->Int->Int->Int->Int->Bool->Option avV
def ag2 (g:ag1):Ct:=(94,FC avU (lf acu) (λb=>g b.1.1 b.1.2.1 b.1.b.1 b.1.b.2.1 b.1.c.1 b.1.c.2.1 b.1.c.b.1 b.1.c.b.2.1 b.1.d b.2))
def ag3 (aq:cx)(ayc:OU)(x0:Int)(x1:Int)(x2:Int)(x3:Int)(x4:Int)(x5:Int)(x6:Int)(x7:Int)(x8:Int)(x9:Bool):Pg avV:=ae (decide (x1< -10000000)) (ret (((0,0,0,0),1),x9)) (ae (decide (x1>10000000)) (ret (((0,0,0,0),1),x9)) (ae (decide (x2< -10000000)) (ret (((0,0,0,0),1),x9)) (ae (decide (x2>10000000)) (ret (((0,0,0,0),1),x9)) (ae (decide (x3<1)) (ret (((0,0,0,0),1),x9)) (ae (decide (x3>10000000)) (ret (((0,0,0,0),1),x9)) (ae (decide (x4<0)) (ret (((0,0,0,0),1),x9)) (ae (decide (x4>100)) (ret (((0,0,0,0),1),x9)) (opt (aq x1 1073741824 1000000 x9) λd=>opt (aq x2 1073741824 1000000 d.2) λaj=>opt (ayc x3) λaC=>ret (((d.1,aj.1,aC,x4),0),aj.2)))))))))
def BU:=λx0 x1 x2 x3 x4 x5 x6 x7 x8 x9=>(ag3 aU AS x0 x1 x2 x3 x4 x5 x6 x7 x8 x9).val
abbrev ag4:=cx×OU
def avW (p:ag4):KK:=⟨[dA p.1,adX p.2],⟨[⟨2,(1::rg 5 4 (rg 12 4 (17::rg 20 8 (32::33::38::39::rg 44 20 [])))),[]⟩],[],[0],[],(some ⟨0,(rg 0 4 (rg 6 58 [])),[]⟩)⟩,0,94⟩
theorem aKF (p:ag4):D2 (avW p) avU (lf acu) λb=>ag3 p.1 p.2 b.1.1 b.1.2.1 b.1.b.1 b.1.b.2.1 b.1.c.1 b.1.c.2.1 b.1.c.b.1 b.1.c.b.2.1 b.1.d b.2:=λb=>by kernel_rfl
abbrev avX:ag4:=(aU,AS)
theorem avY [ax]:SC (ag2 BU):=sc (kS (k:=avW avX) (.c dL (.c ayb (.nil _))) [2] [] ⟨kN,trivial⟩ trivial (aKF avX))
def adY:=qa (pr (cu aO arY) bB)
def MG:=qe aPO
abbrev adZ:=MG.B
abbrev OW:=NI->Bool->Option adZ
def ad3 (g:OW):Ct:=(260,FC adY (lf MG) (λb=>g b.1 b.2))
def OX (bc:eC)(fF:qM)(aD:cK)(x0:Nat->Int)(x1:Bool):Pg adZ:=opt (bc x0) λd=>opt (fF d.1 d.2.1 d.2.2.1 d.2.2.2 x1) λd=>ae (decide (d.1 8<751619277)) (ret ((0,4),d.2)) (opt (aD (x0 9) (d.1 8) 30 d.2) λd=>let y0:=wI (0-d.1);ae (decide (y0<536870912)) (ret ((0,4),d.2)) (ret ((y0,0),d.2)))
def AT:=λx0 x1=>(OX bX jX bo x0 x1).val
theorem ayd:∀bc fF aD,D0 [j5 bc,Dq fF,gO aD] 260 adY (lf MG) λb=>OX bc fF aD b.1 b.2:=λ_ _ _ b=>by kernel_rfl
theorem aye [ax]:SC (ad3 AT):=s0 (.c lA (.c FW (.c iF (.nil _)))) (ayd bX jX bo)
def avZ:=qa (pr (cu aO (c lW (c ae0 iL))) bB)
def ai2:=qe (res (pr aVc (pl mX nil)))
def aB1:=qe (res (pu (rU (cu (rc (iW (pu Ar (pu vT (pu (szl rq4) (pu (nat 27) jx)))))) aka)) (pr mX (cl aPU nil))))
abbrev UL:=ai2.B⊕(Bool×NI×Int×Int×Int×NI×Int)
def av0:UL->T:=ls (lf ai2) (λd=>lf aB1 (d.1,d.2.1,d.b.1,d.b.2.1,d.c.1,d.c.2.1,d.c.b,d.b.2.1,d.c.1))
abbrev av1:=NI->Int->Int->Int->Int->Int->Bool->Option UL
def av2 (g:av1):Ct:=(238,FC avZ av0 (λb=>g b.1.1 b.1.2.1.1 b.1.2.1.2.1 b.1.2.1.b.1 b.1.2.1.b.2 b.1.b b.2))
def UM (ayf:OW)(bc:eC)(fF:qM)(bE:mG)(QQ:EN)(aD:cK)(aV:dk)(x0:Nat->Int)(x1:Int)(x2:Int)(x3:Int)(x4:Int)(x5:Int)(x6:Bool):Pg UL:=ae (decide (x4<30)) (ret (wr (4,x6))) (opt (ayf x0 x6) λd=>let n1:=d.1.1;ae (d.1.2!=0) (ret (wr (d.1.2,d.2))) (opt (bc x0) λaj=>opt (fF aj.1 aj.2.1 aj.2.2.1 aj.2.2.2 d.2) λaC=>opt (bE x0 4) λbx=>opt (QQ aC.1 bx.1 bx.2.1 bx.2.2 aC.2) λcH=>opt (aD cH.1.2.1 n1 30 cH.2) λfx=>opt (aV x1 fx.1 fx.2) λdx=>opt (aD cH.1.1 n1 30 dx.2) λnH=>opt (aV x2 (wI (0-nH.1)) nH.2) λte=>opt (aD (aC.1 1) n1 30 te.2) λpx=>opt (aD (aC.1 0) n1 30 px.2) λmI=>opt (aD (aC.1 4) n1 30 mI.2) λxj=>opt (aD (aC.1 3) n1 30 xj.2) λKv=>opt (aD (aC.1 7) n1 30 Kv.2) λL6=>opt (aD (aC.1 6) n1 30 L6.2) λd=>ret (wn (d.2,λj=>bif ww j 6 then L6.1 else bif ww j 5 then xj.1 else bif ww j 4 then px.1 else 0,dx.1,x3,x5,λj=>bif ww j 6 then wI (0-d.1) else bif ww j 5 then wI (0-Kv.1) else bif ww j 4 then wI (0-mI.1) else 0,te.1))))
def BV:=λx0 x1 x2 x3 x4 x5 x6=>(UM AT bX jX eX yx bo bW x0 x1 x2 x3 x4 x5 x6).val
abbrev ag5:=OW×eC×qM×mG×EN×cK×dk
def av3 (p:ag5):KK:=⟨[ad3 p.1,j5 p.2.1,Dq p.b.1,rA p.b.2.1,ZM p.c.1,gO p.c.2.1,iG p.c.b],⟨[⟨11,(rg 1 9 (11::13::rg 16 49 (rg 66 30 []))),[]⟩],[],[0],[],(some ⟨0,(rg 0 8 (rg 10 86 [])),[]⟩)⟩,0,238⟩
theorem aKG (p:ag5):D2 (av3 p) avZ av0 λb=>UM p.1 p.2.1 p.b.1 p.b.2.1 p.c.1 p.c.2.1 p.c.b b.1.1 b.1.2.1.1 b.1.2.1.2.1 b.1.2.1.b.1 b.1.2.1.b.2 b.1.b b.2:=λb=>by kernel_rfl
abbrev av4:ag5:=(AT,bX,jX,eX,yx,bo,bW)
theorem aKH [ax]:SC (av2 BV):=sc (kS (k:=av3 av4) (.c aye (.c lA (.c FW (.c uY (.c alK (.c iF (.c jz (.nil _)))))))) [11] [] ⟨kN,trivial⟩ trivial (aKG av4))
def av5:=qa (pl iL nil)
def acv:=qe Et
abbrev av6:=acv.B
abbrev UN:=Int->Option av6
def UO (g:UN):Ct:=(83,FC av5 (lf acv) (λb=>g b))
def UP (x0:Int):Pg av6:=ae (decide (x0>=0)) (ret (decide (x0<6))) (ret false)
def pB:=λx0=>(UP x0).val
theorem aKI:D0 [] 83 av5 (lf acv) λb=>UP b:=λb=>by kernel_rfl
theorem ag6 [ax]:SC (UO pB):=s0 (.nil _) aKI
def QS:=qa (pr (cu Ke iL) aPw)
def DG:=qe (res (pu Qs (pl (cl (zp (cl gi (cu aL (cu awO nil)))) nil) nil)))
abbrev E5:=DG.B
abbrev QT:=Int->Int->Int->Bool->Option E5
def QU (g:QT):Ct:=(265,FC QS (lf DG) (λb=>g b.1 b.2.1 b.b.1 b.b.2))
def yN (x0:Int)(x1:Int)(x2:Int)(x3:Bool):Pg E5:=ae (!x3) (ret x0) (ae (decide (x0>x1)) (ret x0) (ret x1))
def mj:=λx0 x1 x2 x3=>(yN x0 x1 x2 x3).val
theorem am7:D0 [] 265 QS (lf DG) λb=>yN b.1 b.2.1 b.b.1 b.b.2:=λb=>by kernel_rfl
theorem am8 [ax]:SC (QU mj):=s0 (.nil _) am7
def QV:=qa (pu (cu Ke nil) aPw)
def DH:=qe (res (pu Qs (pl (cl (zp arX) nil) nil)))
abbrev E6:=DH.B
abbrev QW:=Int->Int->Bool->Option E6
def QX (g:QW):Ct:=(266,FC QV (lf DH) (λb=>g b.1 b.2.1 b.b))
def yO (x0:Int)(x1:Int)(x2:Bool):Pg E6:=let y0:=wI (x1+1);ret (x0,if 1000<y0 then 1000 else y0,x2)
def ml:=λx0 x1 x2=>(yO x0 x1 x2).val
theorem am9:D0 [] 266 QV (lf DH) λb=>yO b.1 b.2.1 b.b:=λb=>by kernel_rfl
theorem ana [ax]:SC (QX ml):=s0 (.nil _) am9
def HJ:=qa (dp (cu ayW (c ai (c ai aIX))) λa=>(c ny (cl (cl (gs a.b.1 arW) nil) nil)))
def xw:=qe (res (pu Qs (pl (cl aC1 Y2) nil)))
abbrev HK:=xw.B
abbrev HL:=Int->Int->Nat->NI->NI->(Nat->Bool)->NI->NI->NI->Int->(Nat->Bool)->NI->NI->Bool->Option HK
def HM (g:HL):Ct:=(256,uV 3 [.b,.i .i64,.i .i64] (FC HJ (lf xw) (λb=>g b.1.1 b.1.2.1 b.1.b.1 b.2.1.1.1 b.2.1.1.2.1 b.2.1.1.b.1 b.2.1.1.b.2.1 b.2.1.1.c.1 b.2.1.1.c.2 b.2.1.2 b.b.1 b.b.2.1 b.c b.1.b.2)))
def rD (lB:UN)(rE:ab3)(yP:QT)(yQ:QW)(x0:Int)(x1:Int)(x2:Nat)(x3:Nat->Int)(x4:Nat->Int)(x5:Nat->Bool)(x6:Nat->Int)(x7:Nat->Int)(x8:Nat->Int)(x9:Int)(fS:Nat->Bool)(fR:Nat->Int)(zy:Nat->Int)(w0:Bool):Pg HK:=let n3:=((x5,x6,x7,x8).1 (ws x0));let n2:=((x4,x5,x6,x7,x8).1 (ws x0));let n1:=((x3,x4,x5,x6,x7,x8).1 (ws x0));let y0:=bg x0 6;let y1:=0+ws x0*6+3;let y2:=wd y1 36;let y3:=y2&&wd y1 37;opt (lB x0) λd=>ae (!d) (ret ((x3,x4,x5,x6,x7,x8),x9)) (ae (wl x2==0) (ret ((x3,x4,x5,x6,x7,x8),x9)) (ae (ww x2 x2) (opt (rE x2 fS fR zy (w0&&true)) λd=>ae (decide (d.1>0)) (ae y0 (ae y2 (opt (yP x1 n1 n2 n3) λd=>ae y3 (ret ((λj=>bif ww j (ws x0) then d else(x3,x4,x5,x6,x7,x8).1 j,λj=>bif ww j (ws x0) then 0 else(x4,x5,x6,x7,x8).1 j,λj=>bif ww j (ws x0) then true else(x5,x6,x7,x8).1 j,x6,x7,x8),x9)) no) no) no) (ae y0 (ae y2 (opt (yQ n1 n2 n3) λd=>ae y3 (ret ((λj=>bif ww j (ws x0) then d.1 else(x3,x4,x5,x6,x7,x8).1 j,λj=>bif ww j (ws x0) then d.2.1 else(x4,x5,x6,x7,x8).1 j,λj=>bif ww j (ws x0) then d.2.2 else(x5,x6,x7,x8).1 j,x6,x7,x8),x9)) no) no) no)) no))
def eZ:=λx0 x1 x2 x3 x4 x5 x6 x7 x8 x9 fS fR zy w0=>(rD pB zD mj ml x0 x1 x2 x3 x4 x5 x6 x7 x8 x9 fS fR zy w0).val
theorem acw:∀lB rE yP yQ,D1 [UO lB,ab4 rE,QU yP,QX yQ] [0] 256 HJ (lf xw) λb=>rD lB rE yP yQ b.1.1 b.1.2.1 b.1.b.1 b.2.1.1.1 b.2.1.1.2.1 b.2.1.1.b.1 b.2.1.1.b.2.1 b.2.1.1.c.1 b.2.1.1.c.2 b.2.1.2 b.b.1 b.b.2.1 b.c b.1.b.2:=λ_ _ _ _ b=>by kernel_rfl
theorem acx [ax]:SC (HM eZ):=sc (Sound.nil 3 [.b,.i .i64,.i .i64]<|k0 (.c ag6 (.c aqR (.c am8 (.c ana (.nil _))))) (acw pB zD mj ml))
def Np:=qa (pr (cu Ke zq) aPw)
def BW:=qe aI5
abbrev w8:=BW.B
abbrev Nq:=Int->Int->Int->Int->Bool->Option w8
def Nr (g:Nq):Ct:=(46,FC Np (lf BW) (λb=>g b.1.1 b.1.2 b.2.1 b.b.1 b.b.2))
def qv (x0:Int)(x1:Int)(x2:Int)(x3:Int)(x4:Bool):Pg w8:=let y0:=decide (x1>=0);ae (!x4) (ret false) (ae (decide (x0>=x2)) (ae y0 (ret (decide (wU (wU x0-wU x2)<=wU x1))) (ret false)) (ae y0 (ret true) (ret (decide (wU (wU x2-wU x0)>=wU (0-wU x1))))))
def lq:=λx0 x1 x2 x3 x4=>(qv x0 x1 x2 x3 x4).val
theorem ajC:D0 [] 46 Np (lf BW) λb=>qv b.1.1 b.1.2 b.2.1 b.b.1 b.b.2:=λb=>by kernel_rfl
theorem ajD [ax]:SC (Nr lq):=s0 (.nil _) ajC
def Kx:=qa (pr (cu (app 0 6) iL) (cl (a 3 arX mK) nil))
def zI:=qe aI5
abbrev oH:=zI.B
abbrev lS:=Int->Int->Int->Bool->Int->Int->Int->Option oH
def tv (g:lS):Ct:=(18,FC Kx (lf zI) (λb=>g b.1 b.2.1.1 b.2.1.2.1 b.2.1.b b.b.1 b.b.2.1 b.c))
def oI (w9:Nq)(x0:Int)(x1:Int)(x2:Int)(x3:Bool)(x4:Int)(x5:Int)(x6:Int):Pg oH:=opt (w9 x0 x5 x1 x2 x3) λd=>ae d (ret (decide (x2<=x6))) (ret false)
def dm:=λx0 x1 x2 x3 x4 x5 x6=>(oI lq x0 x1 x2 x3 x4 x5 x6).val
theorem ad4:∀w9,D0 [Nr w9] 18 Kx (lf zI) λb=>oI w9 b.1 b.2.1.1 b.2.1.2.1 b.2.1.b b.b.1 b.b.2.1 b.c:=λ_ b=>by kernel_rfl
theorem AU [ax]:SC (tv dm):=s0 (.c ajD (.nil _)) (ad4 lq)
def HN:=qa (pr (cu ayW zq) aC2)
def xx:=qe aI5
abbrev rF:=xx.B
abbrev zJ:=Int->Int->NI->NI->(Nat->Bool)->NI->NI->NI->Int->Option rF
def HO (g:zJ):Ct:=(110,FC HN (lf xx) (λb=>g b.1.1 b.1.2 b.2.1.1 b.2.1.2.1 b.2.1.b.1 b.2.1.b.2.1 b.2.1.c.1 b.2.1.c.2 b.b))
def rG (lB:UN)(gJ:lS)(x0:Int)(x1:Int)(x2:Nat->Int)(x3:Nat->Int)(x4:Nat->Bool)(x5:Nat->Int)(x6:Nat->Int)(x7:Nat->Int)(x8:Int):Pg rF:=opt (lB x0) λd=>ae d (ae (bg x0 6) (ae (wd (0+ws x0*6+6) 36) (opt (gJ x1 ((x2,x3,x4,x5,x6,x7).1 (ws x0)) ((x3,x4,x5,x6,x7).1 (ws x0)) ((x4,x5,x6,x7).1 (ws x0)) ((x5,x6,x7).1 (ws x0)) (x6 (ws x0)) (x7 (ws x0))) λd=>ret d) no) no) (ret false)
def gf:=λx0 x1 x2 x3 x4 x5 x6 x7 x8=>(rG pB dm x0 x1 x2 x3 x4 x5 x6 x7 x8).val
theorem acy:∀lB gJ,D0 [UO lB,tv gJ] 110 HN (lf xx) λb=>rG lB gJ b.1.1 b.1.2 b.2.1.1 b.2.1.2.1 b.2.1.b.1 b.2.1.b.2.1 b.2.1.c.1 b.2.1.c.2 b.b:=λ_ _ b=>by kernel_rfl
theorem acz [ax]:SC (HO gf):=s0 (.c ag6 (.c AU (.nil _))) (acy pB dm)
def HP:=qa (pr (cu ayW iL) aC2)
def xy:=qe awQ
abbrev HQ:=xy.B
abbrev HR:=Int->NI->NI->(Nat->Bool)->NI->NI->NI->Int->Option HQ
def HS (g:HR):Ct:=(43,FC HP (lf xy) (λb=>g b.1 b.2.1.1 b.2.1.2.1 b.2.1.b.1 b.2.1.b.2.1 b.2.1.c.1 b.2.1.c.2 b.b))
def eM:=qs (st (pr (cu ayW (c ai (us 3 (c ai (us 2 aIV))))) (pl (cl oY nil) nil)))
def E7:=qs (st (pr (cu ayW (c ai (us 3 (c ai (us 2 aI3))))) (pl (cl oY nil) nil)))
abbrev mm:=E7.B
def E8 {ρ:Type}:=@ef mm ((.ex 0)) E7 ρ
def wF (gJ:lS)(d:eM.B):PL eM mm:=let n3:=d.1.1;let n2:=d.2.1.2.2;let n1:=d.1.2;let y0:=ws n1.2;let y1:=y0*6;let y2:=wI (n1.2+1);let y3:=decide (n1.2<6);ae y3 (ae (bg n1.2 6) (ae (wd (2+y1+1) 36) (ae (n2.1 y0) (ae (wd (0+y1+6) 36) (opt (gJ n3 (d.2.1.1 y0) (d.2.1.2.1 y0) (n2.1 y0) (n2.2.1 y0) (n2.2.2.1 y0) (n2.2.2.2 y0)) λaj=>ae (!aj) (ae (!decide (n1.2<0)) (ret (wr ((n3,wI (n1.1+wI (1*2^min y0 64)),y2),d.2))) no) (ret (wr ((n3,n1.1,y2),d.2)))) no) (ret (wr ((n3,n1.1,y2),d.2)))) no) no) (ret (wn ((n3,n1.1,n1.2,y3),d.2)))
def wG:=bw (wF dm) 2000
def zK (eB:LT eM mm)(x0:Int)(x1:Nat->Int)(x2:Nat->Int)(x3:Nat->Bool)(x4:Nat->Int)(x5:Nat->Int)(x6:Nat->Int)(x7:Int):Pg HQ:=opt (eB ((x0,0,0),(x1,x2,x3,x4,x5,x6),x7)) λd=>ret d.1.2.1
def nK:=λx0 x1 x2 x3 x4 x5 x6 x7=>(zK wG x0 x1 x2 x3 x4 x5 x6 x7).val
abbrev rH:=lS×(LT eM mm)
def zM (p:rH):KK:=⟨[tv p.1],⟨[⟨3,(2::3::4::6::7::rg 9 13 (rg 26 7 (rg 22 4 []))),[]⟩],[fY 3 1 eM E8 p.2],[],[],(some ⟨0,(rg 0 4 (rg 5 28 [])),[]⟩)⟩,1,43⟩
theorem UQ (p:rH):LI (zM p) 3 eM E8 (wF p.1):=λ_ d c K=>by kernel_rfl
theorem acA (p:rH):D2 (zM p) HP (lf xy) λb=>zK p.2 b.1 b.2.1.1 b.2.1.2.1 b.2.1.b.1 b.2.1.b.2.1 b.2.1.c.1 b.2.1.c.2 b.b:=λb=>by kernel_rfl
abbrev zN:rH:=(dm,wG)
theorem acB [ax]:SC (HS nK):=sc (kS (k:=zM zN) (.c AU (.nil _)) [3] [] ⟨kL (UQ zN),trivial⟩ trivial (acA zN))
def Ns:=qa (pu (cu ayW nil) aC2)
def BX:=qe aI5
abbrev Nt:=BX.B
abbrev Nu:=NI->NI->(Nat->Bool)->NI->NI->NI->Int->Option Nt
def Nv (g:Nu):Ct:=(44,FC Ns (lf BX) (λb=>g b.1.1 b.1.2.1 b.1.b.1 b.1.b.2.1 b.1.c.1 b.1.c.2 b.2))
def DI (x0:Nat->Int)(x1:Nat->Int)(x2:Nat->Bool)(x3:Nat->Int)(x4:Nat->Int)(x5:Nat->Int)(x6:Int):Pg Nt:=ret (decide (x6>=10))
def qw:=λx0 x1 x2 x3 x4 x5 x6=>(DI x0 x1 x2 x3 x4 x5 x6).val
theorem ajE:D0 [] 44 Ns (lf BX) λb=>DI b.1.1 b.1.2.1 b.1.b.1 b.1.b.2.1 b.1.c.1 b.1.c.2 b.2:=λb=>by kernel_rfl
theorem ajF [ax]:SC (Nv qw):=s0 (.nil _) ajE
def E9:=qa (pr (cu ayW (c (aa aI2) (cl (aa aI2) nil))) aC2)
def uq:=qe (res (pu Qs (pl (cl aC1 nil) nil)))
abbrev E':=uq.B
abbrev Fa:=Bool->Int->Int->Bool->Int->Int->NI->NI->(Nat->Bool)->NI->NI->NI->Int->Option E'
def Fb (g:Fa):Ct:=(230,FC E9 (lf uq) (λb=>g b.1.1.1 b.1.1.2.1 b.1.1.b b.1.2.1 b.1.b.1 b.1.b.2 b.2.1.1 b.2.1.2.1 b.2.1.b.1 b.2.1.b.2.1 b.2.1.c.1 b.2.1.c.2 b.b))
def wH (x0:Bool)(x1:Int)(x2:Int)(x3:Bool)(x4:Int)(x5:Int)(x6:Nat->Int)(x7:Nat->Int)(x8:Nat->Bool)(x9:Nat->Int)(fS:Nat->Int)(fR:Nat->Int)(zy:Int):Pg E':=let y0:=wI (zy+1);let y1:=wI (zy-1);ae (decide (x1>0)) (ae (decide (x4>0)) (ae (!x0) (ae (!x3) (ret ((x6,x7,x8,x9,fS,fR),if 1000<y0 then 1000 else y0)) (ret ((x6,x7,x8,x9,fS,fR),if 0>y1 then 0 else y1))) (ret ((x6,x7,x8,x9,fS,fR),if 0>y1 then 0 else y1))) (ae (decide (x1<0)) (ae (!x0) (ae (!x3) (ae (decide (x4<0)) (ret ((x6,x7,x8,x9,fS,fR),if 1000<y0 then 1000 else y0)) (ret ((x6,x7,x8,x9,fS,fR),if 0>y1 then 0 else y1))) (ret ((x6,x7,x8,x9,fS,fR),if 0>y1 then 0 else y1))) (ret ((x6,x7,x8,x9,fS,fR),if 0>y1 then 0 else y1))) (ae (!x0) (ae (!x3) (ret ((x6,x7,x8,x9,fS,fR),if 0>y1 then 0 else y1)) (ret ((x6,x7,x8,x9,fS,fR),if 0>y1 then 0 else y1))) (ret ((x6,x7,x8,x9,fS,fR),if 0>y1 then 0 else y1))))) (ae (decide (x1<0)) (ae (!x0) (ae (!x3) (ae (decide (x4<0)) (ret ((x6,x7,x8,x9,fS,fR),if 1000<y0 then 1000 else y0)) (ret ((x6,x7,x8,x9,fS,fR),if 0>y1 then 0 else y1))) (ret ((x6,x7,x8,x9,fS,fR),if 0>y1 then 0 else y1))) (ret ((x6,x7,x8,x9,fS,fR),if 0>y1 then 0 else y1))) (ae (!x0) (ae (!x3) (ret ((x6,x7,x8,x9,fS,fR),if 0>y1 then 0 else y1)) (ret ((x6,x7,x8,x9,fS,fR),if 0>y1 then 0 else y1))) (ret ((x6,x7,x8,x9,fS,fR),if 0>y1 then 0 else y1))))
def fj:=λx0 x1 x2 x3 x4 x5 x6 x7 x8 x9 fS fR zy=>(wH x0 x1 x2 x3 x4 x5 x6 x7 x8 x9 fS fR zy).val
theorem XP:D0 [] 230 E9 (lf uq) λb=>wH b.1.1.1 b.1.1.2.1 b.1.1.b b.1.2.1 b.1.b.1 b.1.b.2 b.2.1.1 b.2.1.2.1 b.2.1.b.1 b.2.1.b.2.1 b.2.1.c.1 b.2.1.c.2 b.b:=λb=>by kernel_rfl
theorem XQ [ax]:SC (Fb fj):=s0 (.nil _) XP
end Go.Proofs.YtldgljclcgaibaaGreat
