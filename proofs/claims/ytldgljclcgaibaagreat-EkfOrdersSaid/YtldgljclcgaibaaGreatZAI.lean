/-
  Parts of the proof: Q3 TF TG TH
-/
import Derived.Test.YtldgljclcgaibaaGreatZAE
import Derived.Test.YtldgljclcgaibaaGreatZAG
import Derived.Test.YtldgljclcgaibaaGreatZAH
open Nat renaming beq→ww,ble→wl
open Int renaming toNat→wt,ofNat→wn
open Sum renaming inl→ws,inr→wr
set_option linter.all false
set_option maxRecDepth 100000
set_option maxHeartbeats 4000000
noncomputable section
namespace Go.Proofs.YtldgljclcgaibaaGreat
open Go.Ab Go.Ab.Pg Go.Ab.Rq
def Rx:=qa (dp (cu aP (c kY (c Ae (cl aJ3 nil)))) λa=>(c wM (cl (cl (gs a.b.1 aKw) nil) nil)))
def aLE:=qe (res (pr (ry (c agb (c ali (cl (rc (dM (pu rq4 (pu Ad (pl eC (pu rq7 dR)))))) nil)))) (pr Oe (cl aQu nil))))
abbrev aa9:=((NI×(NI×NI)×Nat)×Bool×(Nat->Bool)×NI×NI)
def aBp:aa9->T:=λd=>lf aLE (d.1,d.2.1,d.1.b,d.b)
abbrev aBq:=Rx.B->Option aa9
def aBr (g:aBq):Ct:=(254,uW 3 [.i .i64,.i .i64,.i .i64,.i .i64,.i .i64,.i .i64,.i .i64,.i .i64,.i .i64,.i .i64,.i .i64,.i .i64,.i .i64,.i .i64,.i .i64,.i .i64,.i .i64,.i .i64,.i .i64,.i .i64,.i .i64,.i .i64,.i .i64,.i .i64,.i .i64,.i .i64,.i .i64] (FC Rx aBp g))
def sC:=qs (st (dp (cu aP (us 4 (cu Ej (cu aIJ (us 1 (cu aqs (cu (app 5 300) (us 1 (c aWR (us 3 (c aJ3 aQb))))))))))) λa=>(pl (c cD (c (so (cl (gs a.2.1.1 aKw) nil)) (c nr (c iX (c nr (c iX (cl (so (cl (gs a.1 as2) nil)) nil))))))) cP)))
def aHX:=qs (st (pr (cu aP (us 4 (cu Ej (cu aIJ (us 1 (cu aqs (cu (app 5 300) (us 1 (c aWR (us 3 (c aJ3 aQh))))))))))) (pl (c cD (c (so (cl (ga (pr eC aKw)) nil)) (c nr (c iX (c nr (c iX aWM)))))) cP)))
abbrev Iv:=((Nat×(Nat×Bool)×Int×Int×Bool)×Bool×(NI×NI×NI×NI×NI×NI×NI×NI×NI×NI×NI×NI×NI×NI×NI×NI×NI×NI×NI×NI×NI×NI×NI×NI×NI×NI×NI)×NI×(NI×NI)×NI×(NI×NI)×(Nat->Bool)×NI×NI)
def arN {ρ:Type}(x:Iv)(K:AX->St->Option ρ):Option ρ:=(λd=>K (.ex 0) (aHX.em (d.1,d.2.1,(d.1.2.1.1,d.b.1),d.b.2.1,d.c.1,d.c.2.1,d.c.b.1,d.1.1,d.c.b.2))) x
def ada (aOz:anD)(d:sC.B):PL sC Iv:=let aT:=d.1.1;let n5:=d.1.2.2;let n4:=d.2.2;let n7:=n4.2.2;let n3:=n4.1.2.2.2.2;let n8:=n3.2.2.2;let n1:=n8.2.2.2.2;let n9:=n1.2.2.2;let n2:=n9.2.2.2.2;let n6:=n2.2.2.2.2;let y0:=wt n5.2;let y1:=aT+1;let y2:=decide (n5.2<n5.1);ae y2 (ae (aX n5.2 d.1.2.1.1) (opt (aOz n4.2.1 n7.1.1 n7.1.2 (cr (n4.1.1 y0) [n6.2.1 y0,n6.1 y0,n2.2.2.2.1 y0,n2.2.2.1 y0,n2.2.1 y0,n2.1 y0,n9.2.2.2.1 y0,n9.2.2.1 y0,n9.2.1 y0,n9.1 y0,n1.2.2.1 y0,n1.2.1 y0,n1.1 y0,n8.2.2.2.1 y0,n8.2.2.1 y0,n8.2.1 y0,n8.1 y0,n3.2.2.1 y0,n3.2.1 y0,n3.1 y0,n4.1.2.2.2.1 y0,n4.1.2.2.1 y0,n4.1.2.1 y0,n4.1.1 y0]) (n6.2.2.1 y0) (n6.2.2.2.1 y0) (n6.2.2.2.2 y0) d.2.1) λaj=>ae (wl (y1*24) 140737488355328) (ret (ws ((y1,d.1.2.1,n5.1,wI (n5.2+1)),aj.2,n4.1,aj.1.1,aj.1.2.1,n7.2.1,n7.2.2.1,λj=>bif ww j aT then aj.1.2.2.1 else n7.2.2.2.1 j,λj=>bif ww j aT then aj.1.2.2.2.1 else n7.2.2.2.2.1 j,λj=>bif ww j aT then aj.1.2.2.2.2 else n7.2.2.2.2.2 j))) no) no) (ret (wr ((aT,d.1.2.1,n5.1,n5.2,y2),d.2)))
def adb:=bC (ada Ru) 2000
def anM (ew:LT sC Iv)(x:Rx.B):Pg aa9:=ae (ww x.1.2.2.1 x.1.2.2.1) (ae true (opt (ew ((0,x.1.2.2,wn x.1.2.2.1,0),x.2.1,x.2.2,x.1.1,x.1.2.1,λx=>0,(λx=>0,λx=>0),λx=>false,λx=>0,λx=>0)) λd=>ret ((d.2.2.2.1,d.2.2.2.2.1,d.1.1),d.2.1,d.2.2.2.2.2.2.2)) no) no
def Ry:=λx=>(anM adb x).val
abbrev aba:=anD×(LT sC Iv)
def anN (p:aba):KK:=⟨[aBn p.1],⟨[⟨3,(rg 1 4 (7::10::12::13::14::rg 18 20 [])),[(11,[.b,.i .i64,.i .i64])]⟩],[fV 3 2 sC arN p.2],[0],[],(some ⟨0,(rg 0 8 (rg 11 27 [])),[]⟩)⟩,2,254⟩
theorem aGn (p:aba):LI (anN p) 3 sC arN (ada p.1):=λ_ d c K=>by kernel_rfl
theorem aOA (p:aba):D2 (anN p) Rx aBp λb=>anM p.2 b:=λb=>by kernel_rfl
abbrev anO:aba:=(Ru,adb)
theorem aOB [ax]:SC (aBr Ry):=sc (Sound.nil 3 [.i .i64,.i .i64,.i .i64,.i .i64,.i .i64,.i .i64,.i .i64,.i .i64,.i .i64,.i .i64,.i .i64,.i .i64,.i .i64,.i .i64,.i .i64,.i .i64,.i .i64,.i .i64,.i .i64,.i .i64,.i .i64,.i .i64,.i .i64,.i .i64,.i .i64,.i .i64,.i .i64]<|kS (k:=anN anO) (.c aOs (.nil _)) [3] [] ⟨kL (aGn anO),trivial⟩ trivial (aOA anO))
def arO:=qa (dp (cl aPN nil) λa=>(cl (cl (gs a.1 as2) nil) nil))
def Yc:=qe aWJ
abbrev arP:=Yc.B
abbrev ade:=Nat->(Nat->Bool)->NI->NI->Bool->Option arP
def adf (g:ade):Ct:=(255,uW 0 [.b,.i .i64,.i .i64] (FC arO (lf Yc) (λb=>g b.1.1 b.2.1 b.b.1 b.b.2 b.1.2)))
def nL:=qs (st (dp (us 2 (c ai (c ai (us 2 (c aPN (c ai aVW)))))) λa=>(pl (cl (so (cl (gs a.b.1.1 as2) nil)) nil) nil)))
def aC5:=qs (st (pr (us 2 (c ai (c ai (us 2 (c aPN (c ai aQa)))))) (pl aWM nil)))
abbrev Dh:=((Int×Int×(Nat×Bool)×Int×Int×Bool)×(Nat->Bool)×NI×NI)
def ajJ {ρ:Type}(x:Dh)(K:AX->St->Option ρ):Option ρ:=(λd=>K (.ex 0) (aC5.em (d.1,d.1.b.1.1,d.2))) x
def TQ (d:nL.B):PL nL Dh:=let n1:=d.1.2.2;let n2:=n1.2.2;let y0:=decide (n2<n1.2.1);ae y0 (ae (aX n2 n1.1.1) (ae (d.2.1 (wt n2)) (ret (ws ((wI (d.1.1+1),d.1.2.1,n1.1,n1.2.1,wI (n2+1)),d.2))) (ret (ws ((d.1.1,wI (d.1.2.1+1),n1.1,n1.2.1,wI (n2+1)),d.2)))) no) (ret (wr ((d.1.1,d.1.2.1,n1.1,n1.2.1,n2,y0),d.2)))
def TR:=bC (TQ) 2000
def adg (ew:LT nL Dh)(x0:Nat)(x1:Nat->Bool)(x2:Nat->Int)(x3:Nat->Int)(w0:Bool):Pg arP:=ae (ww x0 x0) (opt (ew ((0,0,(x0,w0),wn x0,0),x1,x2,x3)) λd=>ret (d.1.1,d.1.2.1)) no
def zf:=λx0 x1 x2 x3 w0=>(adg TR x0 x1 x2 x3 w0).val
abbrev QK:=(LT nL Dh)
def adh (p:QK):KK:=⟨[],⟨[⟨2,(0::1::4::5::rg 9 12 []),[]⟩],[fV 2 1 nL ajJ p],[],[],(some ⟨0,(0::1::rg 4 17 []),[]⟩)⟩,1,255⟩
theorem azi (p:QK):LI (adh p) 2 nL ajJ (TQ):=λ_ d c K=>by kernel_rfl
theorem aHY (p:QK):D2 (adh p) arO (lf Yc) λb=>adg p b.1.1 b.2.1 b.b.1 b.b.2 b.1.2:=λb=>by kernel_rfl
abbrev adi:QK:=TR
theorem arQ [ax]:SC (adf zf):=sc (Sound.nil 0 [.b,.i .i64,.i .i64]<|kS (k:=adh adi) (.nil _) [2] [] ⟨kL (azi adi),trivial⟩ trivial (aHY adi))
def aeU:=qa (pu nil nil)
def MR:=qe (res (pu (aa (cu axY (cu aS aKx))) (pu nil nil)))
abbrev O':=MR.B
abbrev lV:=Option O'
def qP (g:lV):Ct:=(48,FC aeU (lf MR) (λ_=>g))
def Pc (iJ:Bh):Pg O':=opt iJ λd=>ret ()
def eG:Option O':=(Pc nF).val
theorem azj:∀iJ,D0 [KS iJ] 48 aeU (lf MR) λb=>Pc iJ:=λ_ b=>by kernel_rfl
theorem vD [ax]:SC (qP eG):=s0 (.c Rm (.nil _)) (azj nF)
def arR:=qa (dp (cu aP (cl aPO nil)) λa=>(c wM (cl (cl (gs a.1 kd) nil) nil)))
def Yd:=qe (res (pr (aa aQD) (pl Oe nil)))
abbrev arS:=Yd.B
abbrev adj:=Nat->Bool->NI->NI->NI->NI->NI->NI->NI->NI->NI->NI->Bool->Option arS
def arT (g:adj):Ct:=(113,uW 1 [.i .i64,.i .i64,.i .i64,.i .i64,.i .i64,.i .i64,.i .i64,.i .i64,.i .i64,.i .i64] (FC arR (lf Yd) (λb=>g b.1.1 b.2.1 b.b.1 b.b.2.1 b.c.1 b.c.2.1 b.c.b.1 b.c.b.2.1 b.d.1 b.d.2.1 b.d.b.1 b.d.b.2 b.1.2)))
def nM:=qs (st (dp (cu aP (us 3 (cu (app 2 10) (cu (app 3 10) (c aWS (c aWT (us 3 (c aPO (c ai aVX))))))))) λa=>(pl (c cD (c (so (cl (gs a.b.1.1 kd) nil)) (cu aXy (c aXs (c (so (cl (gs a.1 as1) nil)) (cl aEf nil)))))) cP)))
def aC6:=qs (st (pr (cu aP (us 3 (cu (app 2 10) (cu (app 3 10) (c aWS (c aWT (us 3 (c aPO (c ai aWb))))))))) (pl (c cD (c oH (cu aXy (c aXs (c aEf (cl aEf nil)))))) cP)))
abbrev Di:=((Nat×Nat×(Nat×Bool)×Int×Int×Bool)×Bool×aSA×aIG×(NI×NI×NI)×Nat×NI×NI×NI)
def ajK {ρ:Type}(x:Di)(K:AX->St->Option ρ):Option ρ:=(λd=>K (.ex 0) (aC6.em (d.1,d.2.1,(d.1.b.1.1,d.b.1),d.b.2.1,(d.1.1,d.c.1),d.c.2))) x
def TS (eS:xW)(bx:iO)(d:nM.B):PL nM Di:=let n6:=d.1.1;let n2:=d.1.2;let n4:=n2.2.2;let n1:=d.2.2;let n5:=n1.2.2;let n3:=n1.1.2.2.2.2;let y0:=n6+1;let y1:=wt n4.2;let y2:=n2.1+1;let y3:=decide (n4.2<n4.1);ae y3 (ae (aX n4.2 n2.2.1.1) (opt (eS (n1.1.1 y1) (n1.1.2.1 y1) (n1.1.2.2.1 y1) (n1.1.2.2.2.1 y1) n1.2.1.1 n1.2.1.2.1 n1.2.1.2.2.1 n1.2.1.2.2.2 d.2.1) λaj=>opt (bx aj.1.1 aj.1.2.1 aj.1.2.2.1 aj.1.2.2.2 aj.2) λaE=>ae (wl (y0*24) 140737488355328) (ae (wl (y2*24) 140737488355328) (ret (ws ((y0,y2,n2.2.1,n4.1,wI (n4.2+1)),aE.2,n1.1,aE.1,(λj=>bif ww j n6 then n3.1 y1 else n5.1.1 j,λj=>bif ww j n6 then n3.2.1 y1 else n5.1.2.1 j,λj=>bif ww j n6 then n3.2.2.1 y1 else n5.1.2.2 j),y2,λj=>bif ww j n2.1 then n3.2.2.2.1 y1 else n5.2.2.1 j,λj=>bif ww j n2.1 then n3.2.2.2.2.1 y1 else n5.2.2.2.1 j,λj=>bif ww j n2.1 then n3.2.2.2.2.2 y1 else n5.2.2.2.2 j))) no) no) no) (ret (wr ((n6,n2.1,n2.2.1,n4.1,n4.2,y3),d.2)))
def TT:=bC (TS ln dy) 2000
def adk (cm:lV)(dU:BM)(ew:LT nM Di)(x0:Nat)(x1:Bool)(x2:Nat->Int)(x3:Nat->Int)(x4:Nat->Int)(x5:Nat->Int)(x6:Nat->Int)(x7:Nat->Int)(x8:Nat->Int)(x9:Nat->Int)(gx:Nat->Int)(gy:Nat->Int)(w0:Bool):Pg arS:=opt cm λd=>ae (ww x0 x0) (ae true (opt (ew ((0,0,(x0,w0),wn x0,0),x1,(x2,x3,x4,x5,x6,x7,x8,x9,gx,gy),(1073741824,0,0,0),(λx=>0,λx=>0,λx=>0),0,λx=>0,λx=>0,λx=>0)) λd=>let n1:=d.2.2.2;ae (ww d.1.1 d.1.1) (opt (dU d.1.1 d.2.1 n1.2.1.1 n1.2.1.2.1 n1.2.1.2.2 true) λaj=>ae (ww d.1.2.1 d.1.2.1) (opt (dU d.1.2.1 aj.2 n1.2.2.2.1 n1.2.2.2.2.1 n1.2.2.2.2.2 true) λaE=>ret ((n1.1.1,n1.1.2.1,n1.1.2.2.1,n1.1.2.2.2,aj.1.1,aj.1.2.1,aj.1.2.2,aE.1),aE.2)) no) no) no) no
def Iw:=λx0 x1 x2 x3 x4 x5 x6 x7 x8 x9 gx gy w0=>(adk eG kg TT x0 x1 x2 x3 x4 x5 x6 x7 x8 x9 gx gy w0).val
abbrev QL:=lV×xW×iO×BM×(LT nM Di)
def adl (p:QL):KK:=⟨[qP p.1,Fl p.2.1,ni p.b.1,JU p.b.2.1],⟨[⟨4,(1::2::3::8::9::10::rg 14 32 []),[(6,[.i .i64,.i .i64,.i .i64]),(7,[.i .i64,.i .i64,.i .i64])]⟩],[fV 4 2 nM ajK p.c],[0],[],(some ⟨0,(rg 0 4 (rg 5 41 [])),[]⟩)⟩,2,113⟩
theorem azk (p:QL):LI (adl p) 4 nM ajK (TS p.2.1 p.b.1):=λ_ d c K=>by kernel_rfl
theorem aHZ (p:QL):D2 (adl p) arR (lf Yd) λb=>adk p.1 p.b.2.1 p.c b.1.1 b.2.1 b.b.1 b.b.2.1 b.c.1 b.c.2.1 b.c.b.1 b.c.b.2.1 b.d.1 b.d.2.1 b.d.b.1 b.d.b.2 b.1.2:=λb=>by kernel_rfl
abbrev adm:QL:=(eG,ln,dy,kg,TT)
theorem aH0 [ax]:SC (arT Iw):=sc (Sound.nil 1 [.i .i64,.i .i64,.i .i64,.i .i64,.i .i64,.i .i64,.i .i64,.i .i64,.i .i64,.i .i64]<|kS (k:=adl adm) (.c vD (.c KU (.c oZ (.c OW (.nil _))))) [4] [] ⟨kL (azk adm),trivial⟩ trivial (aHZ adm))
def awJ:=qa (pr (cu aP (c kY (c Ae yV))) bH)
def adn:=qe (res (pr (ry (c agb (c ali (cl (ra (c gi (c gi (c gi (cl gi (cu aS (cu aS (cu aS (cu aS (cu aS (cu aS (cu (gc axU) nil)))))))))))) nil)))) (pl mh nil)))
abbrev awK:=adn.B
abbrev awL:=NI->NI->NI->Int->Int->Bool->Option awK
def awM (g:awL):Ct:=(221,FC awJ (lf adn) (λb=>g b.1.1 b.1.2.1.1 b.1.2.1.2 b.1.b.1 b.1.b.2 b.2))
def ah3 (aN:fw)(cm:lV)(MS:am5)(bg:eo)(eS:xW)(bx:iO)(cV:zb)(bY:gf)(x0:Nat->Int)(x1:Nat->Int)(x2:Nat->Int)(x3:Int)(x4:Int)(x5:Bool):Pg awK:=opt (aN x0 x5) λd=>opt cm λaj=>opt (MS x3 d.2) λaE=>opt (bg d.1) λbE=>opt (eS aE.1.1 aE.1.2.1 aE.1.2.2.1 aE.1.2.2.2 bE.1 bE.2.1 bE.2.2.1 bE.2.2.2 aE.2) λcC=>opt (bx cC.1.1 cC.1.2.1 cC.1.2.2.1 cC.1.2.2.2 cC.2) λeJ=>opt (cV d.1 0 4 (cr eJ.1.1 [eJ.1.2.2.2,eJ.1.2.2.1,eJ.1.2.1,eJ.1.1]) false) λd=>opt (aN d eJ.2) λd=>opt (bY x1 x2 0 4 d.2 (cr x4 [x4,x4,x4,x4]) true) λc9=>ret ((d.1,c9.1,aE.1),c9.2)
def MT:=λx0 x1 x2 x3 x4 x5=>(ah3 cw eG Fk cy ln dy gC de x0 x1 x2 x3 x4 x5).val
theorem aLF:∀aN cm MS bg eS bx cV bY,D0 [ji aN,qP cm,am6 MS,jE bg,Fl eS,ni bx,DG cV,AD bY] 221 awJ (lf adn) λb=>ah3 aN cm MS bg eS bx cV bY b.1.1 b.1.2.1.1 b.1.2.1.2 b.1.b.1 b.1.b.2 b.2:=λ_ _ _ _ _ _ _ _ b=>by kernel_rfl
theorem aLG [ax]:SC (awM MT):=s0 (.c jV (.c vD (.c aF5 (.c km (.c KU (.c oZ (.c Ir (.c Fq (.nil _))))))))) (aLF cw eG Fk cy ln dy gC de)
def anP:=qa (dp (cu aP (c kY aQd)) λa=>(c wM (cl (cl (gs a.b.1 nC) nil) nil)))
def aC7:=qe (res (pr (ry (c agb (cl (rc (dM (pu rq4 (pu Ad (pl eC (pu CU dR)))))) nil))) (pr Oe (cl aKi nil))))
abbrev Ye:=((NI×Nat)×Bool×NI)
def anQ:Ye->T:=λd=>lf aC7 (d.1,d.2.1,d.1.2,d.b)
abbrev MU:=NI->Int->Nat->Bool->NI->Bool->Option Ye
def MV (g:MU):Ct:=(263,uW 3 [.i .i64] (FC anP anQ (λb=>g b.1.1 b.1.2.1 b.1.b.1 b.2.1 b.b b.1.b.2)))
def mz:=qs (st (dp (cu aP (us 1 (c ai (us 2 (cu Ej (us 2 (cu aiY (us 1 (cu aqs (c aWU (us 3 (c Ib (c ai (cl ai (us 39 nil))))))))))))))) λa=>(pl (c cD (c (so (cl (gs a.b.1.1 nC) nil)) (c nr (c nr (c nr (cl (so (cl (gs a.2.1 nC) nil)) nil)))))) cP)))
def azl:=qs (st (pr (cu aP (us 1 (c ai (us 2 (cu Ej (us 2 (cu aiY (us 1 (cu aqs (c aWU (us 3 (c Ib (c ai (c ai aVY)))))))))))))) (pl (c cD (c JD (c nr (c nr (c nr alh))))) cP)))
abbrev AF:=((Int×Nat×(Nat×Bool)×Int×Int×Bool)×Bool×NI×NI×NI×Dc×NI)
def aeV {ρ:Type}(x:AF)(K:AX->St->Option ρ):Option ρ:=(λd=>K (.ex 0) (azl.em (d.1,d.2.1,(d.1.b.1.1,d.b.1),d.b.2.1,d.c.1,d.c.2.1,d.1.2.1,d.c.b))) x
def Pd (aF:ch)(aW:dg)(d:mz.B):PL mz AF:=let n2:=d.2.2.2;let n1:=d.1.2.2;let n3:=n1.2.2;let y0:=d.1.2.1+1;let y1:=wI (d.1.1+n3);let y2:=wt y1;let y3:=aX y1 24;let y4:=decide (n3<n1.2.1);ae y4 (ae (aX n3 n1.1.1) (ae y3 (ae y3 (opt (aF (d.2.2.1 (wt n3)) (wI (0-n2.2.2.1 y2)) (n2.2.2.1 y2) d.2.1) λaj=>ae y3 (opt (aW aj.1 (n2.1 y2) aj.2) λaE=>ae (wl (y0*8) 140737488355328) (ae y3 (ae (true&&wl (0+y2*1+1) 24) (ret (ws ((d.1.1,y0,n1.1,n1.2.1,wI (n3+1)),aE.2,d.2.2.1,λj=>bif ww j y2 then aj.1 else n2.1 j,n2.2.1,n2.2.2.1,λj=>bif ww j d.1.2.1 then aE.1 else n2.2.2.2 j))) no) no) no) no) no) no) no) (ret (wr ((d.1.1,d.1.2.1,n1.1,n1.2.1,n3,y4),d.2)))
def Pe:=bC (Pd bc bQ) 2000
def Yf (TF:Dd)(aN:fw)(ew:LT mz AF)(x0:Nat->Int)(x1:Int)(x2:Nat)(x3:Bool)(x4:Nat->Int)(w0:Bool):Pg Ye:=opt TF λd=>ae (ww x2 x2) (ae true (opt (ew ((x1,0,(x2,w0),wn x2,0),x3,x4,x0,λx=>0,d,λx=>0)) λd=>opt (aN d.2.2.2.1 d.2.1) λaj=>ret ((aj.1,d.1.2.1),aj.2,d.2.2.2.2.2.2)) no) no
def jO:=λx0 x1 x2 x3 x4 w0=>(Yf tK cw Pe x0 x1 x2 x3 x4 w0).val
abbrev MW:=Dd×ch×dg×fw×(LT mz AF)
def Yg (p:MW):KK:=⟨[TC p.1,dY p.2.1,iz p.b.1,ji p.b.2.1],⟨[⟨4,(1::3::4::6::7::9::12::13::14::rg 18 39 []),[(11,[.i .i64])]⟩],[fV 4 2 mz aeV p.c],[0],[],(some ⟨0,(rg 0 8 (rg 10 47 [])),[]⟩)⟩,2,263⟩
theorem awN (p:MW):LI (Yg p) 4 mz aeV (Pd p.2.1 p.b.1):=λ_ d c K=>by kernel_rfl
theorem aGo (p:MW):D2 (Yg p) anP anQ λb=>Yf p.1 p.b.2.1 p.c b.1.1 b.1.2.1 b.1.b.1 b.2.1 b.b b.1.b.2:=λb=>by kernel_rfl
abbrev Yh:MW:=(tK,bc,bQ,cw,Pe)
theorem Yi [ax]:SC (MV jO):=sc (Sound.nil 3 [.i .i64]<|kS (k:=Yg Yh) (.c ajB (.c eK (.c jg (.c jV (.nil _))))) [4] [] ⟨kL (awN Yh),trivial⟩ trivial (aGo Yh))
def anR:=qa (pr (cu (app 0 2) yV) (cd (c (gc (yU 1 1)) (cl (gc (yU 2 1)) nil)) λb0=>(c (cl (gs b0.1 nC) nil) (cl (cl (gs b0.2 nC) nil) nil))))
def aC8:=qe (res (pu V4 (pr (cl (Bu (c (gc (yU 3 1)) (cl (gc (yU 4 1)) nil))) (cu V5 aMU)) (c aKi (cl aKi nil)))))
abbrev Yj:=((Nat×Nat)×NI×NI)
def anS:Yj->T:=λd=>lf aC8 (d.1,(d.1.1,d.2.1),d.1.2,d.b)
abbrev Yk:=Int->Int->Nat->Nat->NI->NI->Option Yj
def anT (g:Yk):Ct:=(247,FC anR anS (λb=>g b.1.1 b.1.2 b.2.1.1 b.2.1.2 b.b.1 b.b.2))
def Yl (x0:Int)(x1:Int)(x2:Nat)(x3:Nat)(x4:Nat->Int)(x5:Nat->Int):Pg Yj:=let y0:=x2+2;let y1:=x3+2;ae (wl (y0*8) 140737488355328) (ae (wl (y1*8) 140737488355328) (ret ((y0,y1),λj=>bif ww j (x2+1) then x0 else bif ww j x2 then x0 else x4 j,λj=>bif ww j (x3+1) then x1 else bif ww j x3 then x1 else x5 j)) no) no
def mX:=λx0 x1 x2 x3 x4 x5=>(Yl x0 x1 x2 x3 x4 x5).val
theorem aGp:D0 [] 247 anR anS λb=>Yl b.1.1 b.1.2 b.2.1.1 b.2.1.2 b.b.1 b.b.2:=λb=>by kernel_rfl
theorem aGq [ax]:SC (anT mX):=s0 (.nil _) aGp
def arU:=qa (pr (cu aP (c agd Hq)) bH)
def Ym:=qe (res (pr (aa aQI) (pl mh nil)))
abbrev arV:=Ym.B
abbrev Ix:=Int->Int->Int->Int->Int->Int->Int->Bool->Option arV
def ado (g:Ix):Ct:=(218,FC arU (lf Ym) (λb=>g b.1.1.1 b.1.1.2.1 b.1.1.b.1 b.1.1.b.2 b.1.2.1 b.1.b.1 b.1.b.2 b.2))
def adp (aw:bP)(Fo:OQ)(bd:Yk)(bh:eM)(x0:Int)(x1:Int)(x2:Int)(x3:Int)(x4:Int)(x5:Int)(x6:Int)(x7:Bool):Pg arV:=opt (aw x0 x7) λd=>let y0:=wI (0-d.1);opt (aw x1 d.2) λaj=>let oN:=wI (0-aj.1);opt (aw x2 aj.2) λaE=>let ard:=wI (0-aE.1);opt (aw x3 aE.2) λbE=>let aaG:=wI (0-bE.1);opt (Fo x4 x5 x6 bE.2) λcC=>let n2:=cC.1.1;let n1:=cC.1.2;opt (bd d.1 n2 0 0 (λx=>0) λx=>0) λeJ=>ae (ww eJ.1.1 eJ.1.1) (ae (ww eJ.1.2 eJ.1.2) (opt (bd aE.1 n1.2 eJ.1.1 eJ.1.2 eJ.2.1 eJ.2.2) λc9=>ae (ww c9.1.1 c9.1.1) (ae (ww c9.1.2 c9.1.2) (opt (bd aaG n1.1 c9.1.1 c9.1.2 c9.2.1 c9.2.2) λlR=>ae (ww lR.1.1 lR.1.1) (ae (ww lR.1.2 lR.1.2) (opt (bh 30 lR.1.1 lR.1.2 cC.2 lR.2.1 lR.2.2 true true) λpY=>opt (bd oN n2 0 0 (λx=>0) λx=>0) λmV=>ae (ww mV.1.1 mV.1.1) (ae (ww mV.1.2 mV.1.2) (opt (bd aj.1 n2 mV.1.1 mV.1.2 mV.2.1 mV.2.2) λlM=>ae (ww lM.1.1 lM.1.1) (ae (ww lM.1.2 lM.1.2) (opt (bd aj.1 n2 lM.1.1 lM.1.2 lM.2.1 lM.2.2) λwO=>ae (ww wO.1.1 wO.1.1) (ae (ww wO.1.2 wO.1.2) (opt (bd aE.1 n1.1 wO.1.1 wO.1.2 wO.2.1 wO.2.2) λKW=>ae (ww KW.1.1 KW.1.1) (ae (ww KW.1.2 KW.1.2) (opt (bd bE.1 n1.2 KW.1.1 KW.1.2 KW.2.1 KW.2.2) λMu=>ae (ww Mu.1.1 Mu.1.1) (ae (ww Mu.1.2 Mu.1.2) (opt (bh 30 Mu.1.1 Mu.1.2 pY.2 Mu.2.1 Mu.2.2 true true) λaGr=>opt (bd ard n2 0 0 (λx=>0) λx=>0) λabb=>ae (ww abb.1.1 abb.1.1) (ae (ww abb.1.2 abb.1.2) (opt (bd aj.1 n1.1 abb.1.1 abb.1.2 abb.2.1 abb.2.2) λaeW=>ae (ww aeW.1.1 aeW.1.1) (ae (ww aeW.1.2 aeW.1.2) (opt (bd d.1 n1.2 aeW.1.1 aeW.1.2 aeW.2.1 aeW.2.2) λabc=>ae (ww abc.1.1 abc.1.1) (ae (ww abc.1.2 abc.1.2) (opt (bh 30 abc.1.1 abc.1.2 aGr.2 abc.2.1 abc.2.2 true true) λaGs=>opt (bd aaG n2 0 0 (λx=>0) λx=>0) λanU=>ae (ww anU.1.1 anU.1.1) (ae (ww anU.1.2 anU.1.2) (opt (bd aj.1 n1.2 anU.1.1 anU.1.2 anU.2.1 anU.2.2) λarW=>ae (ww arW.1.1 arW.1.1) (ae (ww arW.1.2 arW.1.2) (opt (bd y0 n1.1 arW.1.1 arW.1.2 arW.2.1 arW.2.2) λanV=>ae (ww anV.1.1 anV.1.1) (ae (ww anV.1.2 anV.1.2) (opt (bh 30 anV.1.1 anV.1.2 aGs.2 anV.2.1 anV.2.2 true true) λa1u=>opt (bd d.1 n1.1 0 0 (λx=>0) λx=>0) λaBs=>ae (ww aBs.1.1 aBs.1.1) (ae (ww aBs.1.2 aBs.1.2) (opt (bd bE.1 n2 aBs.1.1 aBs.1.2 aBs.2.1 aBs.2.2) λaBt=>ae (ww aBt.1.1 aBt.1.1) (ae (ww aBt.1.2 aBt.1.2) (opt (bd oN n1.2 aBt.1.1 aBt.1.2 aBt.2.1 aBt.2.2) λaBu=>ae (ww aBu.1.1 aBu.1.1) (ae (ww aBu.1.2 aBu.1.2) (opt (bh 30 aBu.1.1 aBu.1.2 a1u.2 aBu.2.1 aBu.2.2 true true) λa1v=>opt (bd oN n1.1 0 0 (λx=>0) λx=>0) λaBv=>ae (ww aBv.1.1 aBv.1.1) (ae (ww aBv.1.2 aBv.1.2) (opt (bd aE.1 n2 aBv.1.1 aBv.1.2 aBv.2.1 aBv.2.2) λaBw=>ae (ww aBw.1.1 aBw.1.1) (ae (ww aBw.1.2 aBw.1.2) (opt (bd y0 n1.2 aBw.1.1 aBw.1.2 aBw.2.1 aBw.2.2) λaBx=>ae (ww aBx.1.1 aBx.1.1) (ae (ww aBx.1.2 aBx.1.2) (opt (bh 30 aBx.1.1 aBx.1.2 a1v.2 aBx.2.1 aBx.2.2 true true) λa1w=>opt (bd ard n1.1 0 0 (λx=>0) λx=>0) λaBy=>ae (ww aBy.1.1 aBy.1.1) (ae (ww aBy.1.2 aBy.1.2) (opt (bd aE.1 n1.1 aBy.1.1 aBy.1.2 aBy.2.1 aBy.2.2) λaBz=>ae (ww aBz.1.1 aBz.1.1) (ae (ww aBz.1.2 aBz.1.2) (opt (bd aj.1 n2 aBz.1.1 aBz.1.2 aBz.2.1 aBz.2.2) λaBA=>ae (ww aBA.1.1 aBA.1.1) (ae (ww aBA.1.2 aBA.1.2) (opt (bd aE.1 n1.1 aBA.1.1 aBA.1.2 aBA.2.1 aBA.2.2) λaBB=>ae (ww aBB.1.1 aBB.1.1) (ae (ww aBB.1.2 aBB.1.2) (opt (bd bE.1 n1.2 aBB.1.1 aBB.1.2 aBB.2.1 aBB.2.2) λaBC=>ae (ww aBC.1.1 aBC.1.1) (ae (ww aBC.1.2 aBC.1.2) (opt (bh 30 aBC.1.1 aBC.1.2 a1w.2 aBC.2.1 aBC.2.2 true true) λa1x=>opt (bd aaG n1.1 0 0 (λx=>0) λx=>0) λaBD=>ae (ww aBD.1.1 aBD.1.1) (ae (ww aBD.1.2 aBD.1.2) (opt (bd aE.1 n1.2 aBD.1.1 aBD.1.2 aBD.2.1 aBD.2.2) λaBE=>ae (ww aBE.1.1 aBE.1.1) (ae (ww aBE.1.2 aBE.1.2) (opt (bd d.1 n2 aBE.1.1 aBE.1.2 aBE.2.1 aBE.2.2) λaBF=>ae (ww aBF.1.1 aBF.1.1) (ae (ww aBF.1.2 aBF.1.2) (opt (bh 30 aBF.1.1 aBF.1.2 a1x.2 aBF.2.1 aBF.2.2 true true) λa1y=>opt (bd d.1 n1.2 0 0 (λx=>0) λx=>0) λaBG=>ae (ww aBG.1.1 aBG.1.1) (ae (ww aBG.1.2 aBG.1.2) (opt (bd aj.1 n1.1 aBG.1.1 aBG.1.2 aBG.2.1 aBG.2.2) λaBH=>ae (ww aBH.1.1 aBH.1.1) (ae (ww aBH.1.2 aBH.1.2) (opt (bd ard n2 aBH.1.1 aBH.1.2 aBH.2.1 aBH.2.2) λaBI=>ae (ww aBI.1.1 aBI.1.1) (ae (ww aBI.1.2 aBI.1.2) (opt (bh 30 aBI.1.1 aBI.1.2 a1y.2 aBI.2.1 aBI.2.2 true true) λa1z=>opt (bd oN n1.2 0 0 (λx=>0) λx=>0) λaBJ=>ae (ww aBJ.1.1 aBJ.1.1) (ae (ww aBJ.1.2 aBJ.1.2) (opt (bd bE.1 n2 aBJ.1.1 aBJ.1.2 aBJ.2.1 aBJ.2.2) λaBK=>ae (ww aBK.1.1 aBK.1.1) (ae (ww aBK.1.2 aBK.1.2) (opt (bd d.1 n1.1 aBK.1.1 aBK.1.2 aBK.2.1 aBK.2.2) λd=>ae (ww d.1.1 d.1.1) (ae (ww d.1.2 d.1.2) (opt (bh 30 d.1.1 d.1.2 a1z.2 d.2.1 d.2.2 true true) λd=>opt (bd ard n1.2 0 0 (λx=>0) λx=>0) λaBL=>ae (ww aBL.1.1 aBL.1.1) (ae (ww aBL.1.2 aBL.1.2) (opt (bd bE.1 n1.1 aBL.1.1 aBL.1.2 aBL.2.1 aBL.2.2) λaBM=>ae (ww aBM.1.1 aBM.1.1) (ae (ww aBM.1.2 aBM.1.2) (opt (bd y0 n2 aBM.1.1 aBM.1.2 aBM.2.1 aBM.2.2) λaBN=>ae (ww aBN.1.1 aBN.1.1) (ae (ww aBN.1.2 aBN.1.2) (opt (bh 30 aBN.1.1 aBN.1.2 d.2 aBN.2.1 aBN.2.2 true true) λa1A=>opt (bd aaG n1.2 0 0 (λx=>0) λx=>0) λaBO=>ae (ww aBO.1.1 aBO.1.1) (ae (ww aBO.1.2 aBO.1.2) (opt (bd bE.1 n1.2 aBO.1.1 aBO.1.2 aBO.2.1 aBO.2.2) λaBP=>ae (ww aBP.1.1 aBP.1.1) (ae (ww aBP.1.2 aBP.1.2) (opt (bd aj.1 n2 aBP.1.1 aBP.1.2 aBP.2.1 aBP.2.2) λaBQ=>ae (ww aBQ.1.1 aBQ.1.1) (ae (ww aBQ.1.2 aBQ.1.2) (opt (bd aE.1 n1.1 aBQ.1.1 aBQ.1.2 aBQ.2.1 aBQ.2.2) λaBR=>ae (ww aBR.1.1 aBR.1.1) (ae (ww aBR.1.2 aBR.1.2) (opt (bd bE.1 n1.2 aBR.1.1 aBR.1.2 aBR.2.1 aBR.2.2) λaBS=>ae (ww aBS.1.1 aBS.1.1) (ae (ww aBS.1.2 aBS.1.2) (opt (bh 30 aBS.1.1 aBS.1.2 a1A.2 aBS.2.1 aBS.2.2 true true) λa1B=>ret ((pY.1,aGr.1,aGs.1,a1u.1,a1v.1,a1w.1,a1x.1,a1y.1,a1z.1,d.1,a1A.1,a1B.1),a1B.2)) no) no) no) no) no) no) no) no) no) no) no) no) no) no) no) no) no) no) no) no) no) no) no) no) no) no) no) no) no) no) no) no) no) no) no) no) no) no) no) no) no) no) no) no) no) no) no) no) no) no) no) no) no) no) no) no) no) no) no) no) no) no) no) no) no) no) no) no) no) no) no) no) no) no) no) no) no) no) no) no) no) no) no) no
def zh:=λx0 x1 x2 x3 x4 x5 x6 x7=>(adp aQ BG mX bz x0 x1 x2 x3 x4 x5 x6 x7).val
abbrev adq:=bP×OQ×Yk×eM
def arX (p:adq):KK:=⟨[dx p.1,ahk p.2.1,anT p.b.1,mW p.b.2],⟨[⟨2,(1::2::3::rg 7 10 (rg 18 124 [])),[]⟩,⟨10,(1::2::3::7::rg 10 24 (rg 35 107 [])),[]⟩,⟨19,(1::2::3::7::rg 11 23 (rg 35 38 (rg 74 68 []))),[]⟩,⟨28,(1::2::3::7::11::12::13::rg 16 18 (rg 35 38 (rg 74 29 (rg 104 38 [])))),[]⟩],[],[],[],(some ⟨0,(rg 0 6 (rg 7 135 [])),[]⟩)⟩,0,218⟩
theorem aH1 (p:adq):D2 (arX p) arU (lf Ym) λb=>adp p.1 p.2.1 p.b.1 p.b.2 b.1.1.1 b.1.1.2.1 b.1.1.b.1 b.1.1.b.2 b.1.2.1 b.1.b.1 b.1.b.2 b.2:=λb=>by kernel_rfl
abbrev arY:adq:=(aQ,BG,mX,bz)
theorem arZ [ax]:SC (ado zh):=sc (kS (k:=arX arY) (.c dB (.c atE (.c aGq (.c oQ (.nil _))))) [2,10,19,28] [] ⟨kN,⟨kN,⟨kN,⟨kN,trivial⟩⟩⟩⟩ trivial (aH1 arY))
def ar0:=qa (pl DR nil)
def Yn:=qe aWz
abbrev ar1:=Yn.B
abbrev Iy:=Int->Int->Int->Int->Int->Int->Int->Int->Int->Option ar1
def adr (g:Iy):Ct:=(137,FC ar0 (lf Yn) (λb=>g b.1 b.2.1 b.b.1 b.b.2.1 b.c.1 b.c.2.1 b.c.b.1 b.c.b.2.1 b.d))
def ads (x0:Int)(x1:Int)(x2:Int)(x3:Int)(x4:Int)(x5:Int)(x6:Int)(x7:Int)(x8:Int):Pg ar1:=ret (x1,x2,x3)
def zj:=λx0 x1 x2 x3 x4 x5 x6 x7 x8=>(ads x0 x1 x2 x3 x4 x5 x6 x7 x8).val
theorem aH2:D0 [] 137 ar0 (lf Yn) λb=>ads b.1 b.2.1 b.b.1 b.b.2.1 b.c.1 b.c.2.1 b.c.b.1 b.c.b.2.1 b.d:=λb=>by kernel_rfl
theorem ar2 [ax]:SC (adr zj):=s0 (.nil _) aH2
def ar3:=qa (pl Hq nil)
def Yo:=qe DQ
abbrev adt:=Yo.B
abbrev vj:=Int->Int->Int->Option adt
def zm (g:vj):Ct:=(76,FC ar3 (lf Yo) (λb=>g b.1 b.2.1 b.b))
def Iz (x0:Int)(x1:Int)(x2:Int):Pg adt:=ae (decide (x0>= -900000000)) (ae (decide (x0<=900000000)) (ae (decide (x1>= -1800000000)) (ae (decide (x1<=1800000000)) (ae (decide (x2>= -100000000)) (ret (decide (x2<=100000000))) (ret false)) (ret false)) (ret false)) (ret false)) (ret false)
def gO:=λx0 x1 x2=>(Iz x0 x1 x2).val
theorem aH3:D0 [] 76 ar3 (lf Yo) λb=>Iz b.1 b.2.1 b.b:=λb=>by kernel_rfl
theorem DK [ax]:SC (zm gO):=s0 (.nil _) aH3
def awO:=qa (pl DR nil)
def adu:=qe DQ
abbrev awP:=adu.B
abbrev ah4:=Int->Int->Int->Int->Int->Int->Int->Int->Int->Option awP
def awQ (g:ah4):Ct:=(136,FC awO (lf adu) (λb=>g b.1 b.2.1 b.b.1 b.b.2.1 b.c.1 b.c.2.1 b.c.b.1 b.c.b.2.1 b.d))
def ah5 (adv:Iy)(cM:vj)(x0:Int)(x1:Int)(x2:Int)(x3:Int)(x4:Int)(x5:Int)(x6:Int)(x7:Int)(x8:Int):Pg awP:=ae (decide (x4< -1000000)) (ret false) (ae (decide (x4>1000000)) (ret false) (ae (decide (x5< -1000000)) (ret false) (ae (decide (x5>1000000)) (ret false) (ae (decide (x6< -1000000)) (ret false) (ae (decide (x6>1000000)) (ret false) (ae (decide (x7<1)) (ret false) (ae (decide (x7>1000000)) (ret false) (ae (decide (x8<1)) (ret false) (ae (decide (x8>1000000)) (ret false) (opt (adv x0 x1 x2 x3 x4 x5 x6 x7 x8) λd=>opt (cM d.1 d.2.1 d.2.2) λd=>ret d))))))))))
def MX:=λx0 x1 x2 x3 x4 x5 x6 x7 x8=>(ah5 zj gO x0 x1 x2 x3 x4 x5 x6 x7 x8).val
abbrev ah6:=Iy×vj
def awR (p:ah6):KK:=⟨[adr p.1,zm p.2],⟨[⟨2,(0::rg 3 5 (rg 11 6 (rg 19 12 (rg 33 5 [])))),[]⟩,⟨8,(0::rg 3 19 (rg 25 6 (rg 33 5 []))),[]⟩],[],[],[],(some ⟨0,(0::1::rg 3 35 []),[]⟩)⟩,0,136⟩
theorem aLH (p:ah6):D2 (awR p) awO (lf adu) λb=>ah5 p.1 p.2 b.1 b.2.1 b.b.1 b.b.2.1 b.c.1 b.c.2.1 b.c.b.1 b.c.b.2.1 b.d:=λb=>by kernel_rfl
abbrev awS:ah6:=(zj,gO)
theorem aLI [ax]:SC (awQ MX):=sc (kS (k:=awR awS) (.c ar2 (.c DK (.nil _))) [2,8] [] ⟨kN,⟨kN,trivial⟩⟩ trivial (aLH awS))
def aeX:=qa (pl gW nil)
def MY:=qe Ho
abbrev aeY:=MY.B
abbrev Ph:=Int->Option aeY
def aeZ (g:Ph):Ct:=(138,FC aeX (lf MY) (λb=>g b))
def Pj (aq:cx)(aF:ch)(x0:Int):Pg aeY:=opt (aq (wI (x0*x0)) 17592186044416 1000000 false) λd=>opt (aF d.1 1 72057594037927936 d.2) λd=>ret d.1
def AG:=λx0=>(Pj aU bc x0).val
theorem azm:∀aq aF,D0 [dt aq,dY aF] 138 aeX (lf MY) λb=>Pj aq aF b:=λ_ _ b=>by kernel_rfl
theorem azn [ax]:SC (aeZ AG):=s0 (.c dE (.c eK (.nil _))) (azm aU bc)
def awT:=qa (pr (cu aP DR) bH)
def adw:=qe (res (pr (ry (c (ra ax3) auW)) (pl mh nil)))
abbrev awU:=adw.B
abbrev ah7:=Int->Int->Int->Int->Int->Int->Int->Int->Int->Bool->Option awU
def ah8 (g:ah7):Ct:=(89,FC awT (lf adw) (λb=>g b.1.1 b.1.2.1 b.1.b.1 b.1.b.2.1 b.1.c.1 b.1.c.2.1 b.1.c.b.1 b.1.c.b.2.1 b.1.d b.2))
def ah9 (aLJ:ah4)(adv:Iy)(ae0:Ph)(aq:cx)(x0:Int)(x1:Int)(x2:Int)(x3:Int)(x4:Int)(x5:Int)(x6:Int)(x7:Int)(x8:Int)(x9:Bool):Pg awU:=opt (aLJ x0 x1 x2 x3 x4 x5 x6 x7 x8) λd=>ae (!d) (ret (((0,0,0,0,0,0,0,0),1),x9)) (opt (adv x0 x1 x2 x3 x4 x5 x6 x7 x8) λd=>opt (ae0 x7) λaj=>opt (ae0 x8) λaE=>opt (aq x4 1073741824 1000 x9) λbE=>opt (aq x5 1073741824 1000 bE.2) λcC=>opt (aq x6 1073741824 1000 cC.2) λeJ=>ret (((d.1,d.2.1,d.2.2,bE.1,cC.1,eJ.1,aj,aE),0),eJ.2))
def Cc:=λx0 x1 x2 x3 x4 x5 x6 x7 x8 x9=>(ah9 MX zj AG aU x0 x1 x2 x3 x4 x5 x6 x7 x8 x9).val
abbrev aia:=ah4×Iy×Ph×cx
def awV (p:aia):KK:=⟨[awQ p.1,adr p.2.1,aeZ p.b.1,dt p.b.2],⟨[⟨5,(1::2::5::rg 7 16 (rg 24 14 [])),[]⟩],[],[0],[],(some ⟨0,(rg 0 4 (rg 6 32 [])),[]⟩)⟩,0,89⟩
theorem aLK (p:aia):D2 (awV p) awT (lf adw) λb=>ah9 p.1 p.2.1 p.b.1 p.b.2 b.1.1 b.1.2.1 b.1.b.1 b.1.b.2.1 b.1.c.1 b.1.c.2.1 b.1.c.b.1 b.1.c.b.2.1 b.1.d b.2:=λb=>by kernel_rfl
abbrev awW:aia:=(MX,zj,AG,aU)
theorem awX [ax]:SC (ah8 Cc):=sc (kS (k:=awV awW) (.c aLI (.c ar2 (.c azn (.c dE (.nil _))))) [5] [] ⟨kN,trivial⟩ trivial (aLK awW))
def ajL:=qa (dp (cl V8 nil) λa=>(cl (cl (gs a.1 nC) nil) nil))
def Pk:=qe aWG
abbrev ajM:=Pk.B
abbrev TU:=Nat->NI->Bool->Option ajM
def TV (g:TU):Ct:=(231,uW 0 [.i .i64] (FC ajL (lf Pk) (λb=>g b.1.1 b.2 b.1.2)))
def lx:=qs (st (dp (us 2 (cu UB (cu Ej (us 2 (c V8 (c ai aJ5)))))) λa=>(pl (c (so (cl (gs a.1.1 nC) nil)) Og) nil)))
def awY:=qs (st (pr (us 2 (cu UB (cu Ej (us 2 (c V8 (c ai aKa)))))) (pl (c JD Og) nil)))
abbrev yj:=(aML×NI×NI×NI)
def abd {ρ:Type}(x:yj)(K:AX->St->Option ρ):Option ρ:=(λd=>K (.ex 0) (awY.em (d.1,(d.1.1.1,d.2.1),d.b))) x
def MZ (d:lx.B):PL lx yj:=let n3:=d.2.1;let n2:=d.1.2.2;let n1:=(d.1.1,d.1.2.1,wI (n2+1));let y0:=wt (n3 (wt n2));let y1:=decide (n2<d.1.2.1);ae y1 (ae (aX n2 d.1.1.1) (ae (decide (n3 (wt n2)>=0)) (ae (decide (n3 (wt n2)<24)) (ae (aX (n3 (wt n2)) 24) (ae (true&&wl (0+y0*1+1) 24) (ret (ws (n1,n3,d.2.2.1,λj=>bif ww j y0 then 1073741824 else d.2.2.2 j))) no) no) (ret (ws (n1,d.2)))) (ret (ws (n1,d.2)))) no) (ret (wr ((d.1.1,d.1.2.1,n2,y1),d.2)))
def M0:=bC (MZ) 2000
def TW (ew:LT lx yj)(x0:Nat)(x1:Nat->Int)(w0:Bool):Pg ajM:=ae (ww x0 x0) (opt (ew (((x0,w0),wn x0,0),x1,λx=>0,λx=>0)) λd=>ret d.2.2.2) no
def pN:=λx0 x1 w0=>(TW M0 x0 x1 w0).val
abbrev Jo:=(LT lx yj)
def TX (p:Jo):KK:=⟨[],⟨[⟨3,(0::1::4::5::rg 9 6 (rg 17 5 [15,16])),[]⟩],[fV 3 1 lx abd p],[],[],(some ⟨0,(0::1::rg 3 19 []),[]⟩)⟩,1,231⟩
theorem at2 (p:Jo):LI (TX p) 3 lx abd (MZ):=λ_ d c K=>by kernel_rfl
theorem aC9 (p:Jo):D2 (TX p) ajL (lf Pk) λb=>TW p b.1.1 b.2 b.1.2:=λb=>by kernel_rfl
abbrev TY:Jo:=M0
theorem ajN [ax]:SC (TV pN):=sc (Sound.nil 0 [.i .i64]<|kS (k:=TX TY) (.nil _) [3] [] ⟨kL (at2 TY),trivial⟩ trivial (aC9 TY))
def ae1:=qa (pr (cu aP (c kY (c ai EV))) bH)
def M1:=qe aW1
abbrev ae2:=M1.B
abbrev vE:=NI->Int->Int->Int->Int->Bool->Option ae2
def GR (g:vE):Ct:=(253,FC ae1 (lf M1) (λb=>g b.1.1 b.1.2.1 b.1.b.1 b.1.b.2.1 b.1.c b.2))
def Pm (nj:TU)(aW:dg)(x0:Nat->Int)(x1:Int)(x2:Int)(x3:Int)(x4:Int)(x5:Bool):Pg ae2:=opt (nj 1 (λj=>bif ww j 0 then x1 else x1) true) λd=>ae (aX x1 24) (opt (aW x2 (x0 (wt x1)) x5) λaj=>ret ((d,aj.1,x3,x4),aj.2)) no
def eH:=λx0 x1 x2 x3 x4 x5=>(Pm pN bQ x0 x1 x2 x3 x4 x5).val
theorem azo:∀nj aW,D0 [TV nj,iz aW] 253 ae1 (lf M1) λb=>Pm nj aW b.1.1 b.1.2.1 b.1.b.1 b.1.b.2.1 b.1.c b.2:=λ_ _ b=>by kernel_rfl
theorem Pn [ax]:SC (GR eH):=s0 (.c ajN (.c jg (.nil _))) (azo pN bQ)
def ae3:=qa (pr (cu aP (c kY (c aKr gW))) bH)
def M3:=qe aXw
abbrev ae4:=M3.B
abbrev ae5:=NI->Int->Int->Int->Int->Int->Int->Int->Int->Int->Bool->Option ae4
def ae6 (g:ae5):Ct:=(225,FC ae3 (lf M3) (λb=>g b.1.1 b.1.2.1.1.1 b.1.2.1.1.2.1 b.1.2.1.1.b b.1.2.1.2.1.1 b.1.2.1.2.1.2.1 b.1.2.1.2.1.b b.1.2.1.b.1 b.1.2.1.b.2 b.1.b b.2))
def Pp (jb:vE)(x0:Nat->Int)(x1:Int)(x2:Int)(x3:Int)(x4:Int)(x5:Int)(x6:Int)(x7:Int)(x8:Int)(x9:Int)(gx:Bool):Pg ae4:=opt (jb x0 4 x4 x8 x9 gx) λd=>opt (jb x0 5 x5 x8 x9 d.2) λaj=>opt (jb x0 6 x6 x8 x9 aj.2) λaE=>ret (aE.2,d.1.1,d.1.2.1,d.1.2.2.1,d.1.2.2.2,aj.1.1,aj.1.2.1,aj.1.2.2.1,aj.1.2.2.2,aE.1)
def AH:=λx0 x1 x2 x3 x4 x5 x6 x7 x8 x9 gx=>(Pp eH x0 x1 x2 x3 x4 x5 x6 x7 x8 x9 gx).val
abbrev Pq:=vE
def ae7 (p:Pq):KK:=⟨[GR p],⟨[⟨3,(1::2::4::7::8::10::11::12::rg 15 17 []),[]⟩],[],[],[],(some ⟨0,(rg 0 8 (rg 9 23 [])),[]⟩)⟩,0,225⟩
theorem azp (p:Pq):D2 (ae7 p) ae3 (lf M3) λb=>Pp p b.1.1 b.1.2.1.1.1 b.1.2.1.1.2.1 b.1.2.1.1.b b.1.2.1.2.1.1 b.1.2.1.2.1.2.1 b.1.2.1.2.1.b b.1.2.1.b.1 b.1.2.1.b.2 b.1.b b.2:=λb=>by kernel_rfl
abbrev ae8:Pq:=eH
theorem azq [ax]:SC (ae6 AH):=sc (kS (k:=ae7 ae8) (.c Pn (.nil _)) [3] [] ⟨kN,trivial⟩ trivial (azp ae8))
def abe:=qa (pr (cu (app 0 5) (cu Q8 Hq)) (c kZ bH))
def JY:=qe (res (pr aWB (pl (cu fJ mh) nil)))
abbrev abf:=JY.B
abbrev yk:=Int->Int->Int->Int->Int->Int->Int->Int->Bool->Option abf
def Ey (g:yk):Ct:=(249,FC abe (lf JY) (λb=>g b.1.1 b.1.2.1 b.1.b b.2.1.1.1 b.2.1.1.2.1 b.2.1.1.b b.2.1.2.1 b.2.1.b b.b))
def M4 (cM:vj)(aB:bT)(aq:cx)(x0:Int)(x1:Int)(x2:Int)(x3:Int)(x4:Int)(x5:Int)(x6:Int)(x7:Int)(x8:Bool):Pg abf:=let y0:=wI (x1-x4);opt (cM x0 x1 x2) λd=>ae (!d) (ret (((0,0,0),1),x8)) (ae (decide (y0>1800000000)) (opt (aB (wI (x0-x3)) x6 10 x8) λd=>opt (aB (wI (y0-3600000000)) x7 10 d.2) λaj=>opt (aq (wI (x5-x2)) 1073741824 1000 aj.2) λaE=>ret (((d.1,aj.1,aE.1),0),aE.2)) (ae (decide (y0<= -1800000000)) (opt (aB (wI (x0-x3)) x6 10 x8) λd=>opt (aB (wI (y0+3600000000)) x7 10 d.2) λaj=>opt (aq (wI (x5-x2)) 1073741824 1000 aj.2) λaE=>ret (((d.1,aj.1,aE.1),0),aE.2)) (opt (aB (wI (x0-x3)) x6 10 x8) λd=>opt (aB y0 x7 10 d.2) λaj=>opt (aq (wI (x5-x2)) 1073741824 1000 aj.2) λaE=>ret (((d.1,aj.1,aE.1),0),aE.2))))
def kn:=λx0 x1 x2 x3 x4 x5 x6 x7 x8=>(M4 gO aV aU x0 x1 x2 x3 x4 x5 x6 x7 x8).val
theorem awZ:∀cM aB aq,D1 [zm cM,fq aB,dt aq] [1] 249 abe (lf JY) λb=>M4 cM aB aq b.1.1 b.1.2.1 b.1.b b.2.1.1.1 b.2.1.1.2.1 b.2.1.1.b b.2.1.2.1 b.2.1.b b.b:=λ_ _ _ b=>by kernel_rfl
theorem M5 [ax]:SC (Ey kn):=s0 (.c DK (.c fO (.c dE (.nil _)))) (awZ gO aV aU)
def vV:=qa (pr (cu aP (c kY (c aKr (cu (app 1 5) gW)))) (c wM (cl kZ nil)))
def NS:=qe (res (pr aWn (pl Oe nil)))
def NT:=qe (res (pu (ry (cu (rc (dM (pu rq4 (pu Ad (pu (szl rq4) (pu (nat 27) dR)))))) alg)) (pr Oe (cl aQJ nil))))
abbrev JZ:=NS.B⊕NT.B
def Yp:JZ->T:=ls (lf NS) (lf NT)
abbrev Yq:=vV.B->Option JZ
def Yr (g:Yq):Ct:=(226,FC vV Yp g)
def J0 (ia:yk)(jb:vE)(x:vV.B):Pg JZ:=opt (ia x.1.2.1.1.1 x.1.2.1.1.2.1 x.1.2.1.1.2.2 x.2.2.1.1 x.2.2.1.2.1 x.2.2.1.2.2 x.2.2.2.1 x.2.2.2.2 x.2.1) λd=>ae (d.1.2!=0) (ret (ws (d.1.2,d.2))) (opt (jb x.1.1 7 d.1.1.1 x.1.2.1.2.2.1 x.1.2.2 d.2) λaj=>opt (jb x.1.1 8 d.1.1.2.1 x.1.2.1.2.2.1 x.1.2.2 aj.2) λd=>ret (wr (d.2,aj.1.1,aj.1.2.1,aj.1.2.2.1,aj.1.2.2.2,d.1)))
def vX:=λx=>(J0 kn eH x).val
abbrev J1:=yk×vE
def Ys (p:J1):KK:=⟨[Ey p.1,GR p.2],⟨[⟨6,(1::2::3::5::rg 8 6 (rg 15 13 (rg 31 18 []))),[]⟩],[],[],[],(some ⟨0,(rg 0 10 (rg 12 37 [])),[]⟩)⟩,0,226⟩
theorem at3 (p:J1):D2 (Ys p) vV Yp λb=>J0 p.1 p.2 b:=λb=>by kernel_rfl
abbrev Yt:J1:=(kn,eH)
theorem at4 [ax]:SC (Yr vX):=sc (kS (k:=Ys Yt) (.c M5 (.c Pn (.nil _))) [6] [] ⟨kN,trivial⟩ trivial (at3 Yt))
def Fy:=qa (pr (cu aP (c kY (c aKr (cu (app 1 5) gW)))) (c wM (cl kZ nil)))
def TZ:=qe (res (pr aWY (pl Oe nil)))
abbrev anW:=TZ.B
abbrev anX:=Fy.B->Option anW
def anY (g:anX):Ct:=(227,FC Fy (lf TZ) g)
def Yu (ia:yk)(cv:fu)(aF:ch)(jb:vE)(x:Fy.B):Pg anW:=let n3:=x.2.2;let n2:=x.1.2.1;let n1:=n2.2.2.1;opt (ia n2.1.1 n2.1.2.1 n2.1.2.2 n3.1.1 n3.1.2.1 n3.1.2.2 n3.2.1 n3.2.2 x.2.1) λd=>ae (d.1.2!=0) (ret (((λx=>0,0,0,0),d.1.2),d.2)) (opt (cv 4 false (cr n1 [n1,n1,n1,n1]) true) λaj=>opt (aF aj.1 1 72057594037927936 aj.2) λaE=>opt (jb x.1.1 9 d.1.1.2.2 aE.1 x.1.2.2 d.2) λd=>ret ((d.1,0),d.2))
def Fz:=λx=>(Yu kn cU bc eH x).val
theorem aGt:∀ia cv aF jb,D0 [Ey ia,oP cv,dY aF,GR jb] 227 Fy (lf TZ) λb=>Yu ia cv aF jb b:=λ_ _ _ _ b=>by kernel_rfl
theorem aGu [ax]:SC (anY Fz):=s0 (.c M5 (.c rG (.c eK (.c Pn (.nil _))))) (aGt kn cU bc eH)
def Yv:=qa (pl gW nil)
def HG:=qe Ho
abbrev Yw:=HG.B
abbrev Yx:=Int->Option Yw
def Yy (g:Yx):Ct:=(203,FC Yv (lf HG) (λb=>g b))
def J2 (aq:cx)(aF:ch)(x0:Int):Pg Yw:=opt (aq (wI (x0*x0)) 17592186044416 1000000 false) λd=>opt (aF d.1 1 72057594037927936 d.2) λd=>ret d.1
def vY:=λx0=>(J2 aU bc x0).val
theorem at5:∀aq aF,D0 [dt aq,dY aF] 203 Yv (lf HG) λb=>J2 aq aF b:=λ_ _ b=>by kernel_rfl
theorem at6 [ax]:SC (Yy vY):=s0 (.c dE (.c eK (.nil _))) (at5 aU bc)
def anZ:=qa (pr (cu aP (c aKq yV)) bH)
def T0:=qe aQE
abbrev an0:=T0.B
abbrev Yz:=Int->Int->Int->Int->Int->Int->Int->Int->Int->Int->Int->Bool->Option an0
def YA (g:Yz):Ct:=(139,FC anZ (lf T0) (λb=>g b.1.1.1 b.1.1.2.1 b.1.1.b.1 b.1.1.b.2.1 b.1.1.c.1 b.1.1.c.2.1 b.1.1.c.b.1 b.1.1.c.b.2.1 b.1.1.d b.1.2.1 b.1.b b.2))
def YB (aq:cx)(Cd:Yx)(x0:Int)(x1:Int)(x2:Int)(x3:Int)(x4:Int)(x5:Int)(x6:Int)(x7:Int)(x8:Int)(x9:Int)(gx:Int)(gy:Bool):Pg an0:=ae (decide (x1<x9)) (ret (((0,0),1),gy)) (ae (decide (x1>gx)) (ret (((0,0),1),gy)) (ae (decide (x2<1)) (ret (((0,0),1),gy)) (ae (decide (x2>1000000)) (ret (((0,0),1),gy)) (opt (aq x1 1073741824 1000 gy) λd=>opt (Cd x2) λaj=>ret (((d.1,aj),0),d.2)))))
def vZ:=λx0 x1 x2 x3 x4 x5 x6 x7 x8 x9 gx gy=>(YB aU vY x0 x1 x2 x3 x4 x5 x6 x7 x8 x9 gx gy).val
theorem aGv:∀aq Cd,D1 [dt aq,Yy Cd] [0] 139 anZ (lf T0) λb=>YB aq Cd b.1.1.1 b.1.1.2.1 b.1.1.b.1 b.1.1.b.2.1 b.1.1.c.1 b.1.1.c.2.1 b.1.1.c.b.1 b.1.1.c.b.2.1 b.1.1.d b.1.2.1 b.1.b b.2:=λ_ _ b=>by kernel_rfl
theorem an1 [ax]:SC (YA vZ):=s0 (.c dE (.c at6 (.nil _))) (aGv aU vY)
def YC:=qa (pr (cu aP DR) bH)
def HH:=qe aQE
abbrev YD:=HH.B
abbrev J3:=Int->Int->Int->Int->Int->Int->Int->Int->Int->Bool->Option YD
def J4 (g:J3):Ct:=(90,FC YC (lf HH) (λb=>g b.1.1 b.1.2.1 b.1.b.1 b.1.b.2.1 b.1.c.1 b.1.c.2.1 b.1.c.b.1 b.1.c.b.2.1 b.1.d b.2))
def J5 (o8:Yz)(x0:Int)(x1:Int)(x2:Int)(x3:Int)(x4:Int)(x5:Int)(x6:Int)(x7:Int)(x8:Int)(x9:Bool):Pg YD:=opt (o8 x0 x1 x2 x3 x4 x5 x6 x7 x8 (-100000000) 100000000 x9) λd=>ret d
def nw:=λx0 x1 x2 x3 x4 x5 x6 x7 x8 x9=>(J5 vZ x0 x1 x2 x3 x4 x5 x6 x7 x8 x9).val
theorem at7:∀o8,D0 [YA o8] 90 YC (lf HH) λb=>J5 o8 b.1.1 b.1.2.1 b.1.b.1 b.1.b.2.1 b.1.c.1 b.1.c.2.1 b.1.c.b.1 b.1.c.b.2.1 b.1.d b.2:=λ_ b=>by kernel_rfl
theorem YE [ax]:SC (J4 nw):=s0 (.c an1 (.nil _)) (at7 vZ)
def an2:=qa (pr (cu aP (c kY (c (aa ale) gW))) bH)
def T1:=qe aW1
abbrev an3:=T1.B
abbrev an4:=NI->Int->Int->Int->Bool->Option an3
def an5 (g:an4):Ct:=(170,FC an2 (lf T1) (λb=>g b.1.1 b.1.2.1.1 b.1.2.1.2 b.1.b b.2))
def YF (nj:TU)(aw:bP)(aW:dg)(x0:Nat->Int)(x1:Int)(x2:Int)(x3:Int)(x4:Bool):Pg an3:=opt (nj 1 (λj=>bif ww j 0 then 9 else 9) true) λd=>opt (aw x1 x4) λaj=>opt (aW (wI (0-aj.1)) (x0 9) aj.2) λaE=>ret ((d,aE.1,x2,x3),aE.2)
def FA:=λx0 x1 x2 x3 x4=>(YF pN aQ bQ x0 x1 x2 x3 x4).val
theorem aGw:∀nj aw aW,D0 [TV nj,dx aw,iz aW] 170 an2 (lf T1) λb=>YF nj aw aW b.1.1 b.1.2.1.1 b.1.2.1.2 b.1.b b.2:=λ_ _ _ b=>by kernel_rfl
theorem aGx [ax]:SC (an5 FA):=s0 (.c ajN (.c dB (.c jg (.nil _)))) (aGw pN aQ bQ)
def UM:=qa (pr (cu aP DR) bH)
def FB:=qe (res (pr aWB (pl mh nil)))
abbrev UN:=FB.B
abbrev HI:=Int->Int->Int->Int->Int->Int->Int->Int->Int->Bool->Option UN
def HJ (g:HI):Ct:=(91,FC UM (lf FB) (λb=>g b.1.1 b.1.2.1 b.1.b.1 b.1.b.2.1 b.1.c.1 b.1.c.2.1 b.1.c.b.1 b.1.c.b.2.1 b.1.d b.2))
def HK (o8:Yz)(x0:Int)(x1:Int)(x2:Int)(x3:Int)(x4:Int)(x5:Int)(x6:Int)(x7:Int)(x8:Int)(x9:Bool):Pg UN:=ae (decide (x3<0)) (ret (((0,0,0),1),x9)) (ae (decide (x3>100)) (ret (((0,0,0),1),x9)) (opt (o8 x0 x1 x2 x3 x4 x5 x6 x7 x8 1 1000000 x9) λd=>ae (d.1.2!=0) (ret (((0,0,0),d.1.2),d.2)) (ret (((d.1.1.1,d.1.1.2,x3),0),d.2))))
def mn:=λx0 x1 x2 x3 x4 x5 x6 x7 x8 x9=>(HK vZ x0 x1 x2 x3 x4 x5 x6 x7 x8 x9).val
theorem ap6:∀o8,D1 [YA o8] [0] 91 UM (lf FB) λb=>HK o8 b.1.1 b.1.2.1 b.1.b.1 b.1.b.2.1 b.1.c.1 b.1.c.2.1 b.1.c.b.1 b.1.c.b.2.1 b.1.d b.2:=λ_ b=>by kernel_rfl
theorem UO [ax]:SC (HJ mn):=s0 (.c an1 (.nil _)) (ap6 vZ)
def ajO:=qa (pr (cu aP (c kY (c (aa (a 2 ale gZ)) gW))) bH)
def Pr:=qe aEk
abbrev ajP:=Pr.B
abbrev ajQ:=NI->Int->Int->Int->Int->Bool->Option ajP
def ajR (g:ajQ):Ct:=(171,FC ajO (lf Pr) (λb=>g b.1.1 b.1.2.1.1.1 b.1.2.1.1.2 b.1.2.1.2 b.1.b b.2))
def T2 (bg:eo)(fm:qH)(aD:cL)(aW:dg)(cv:fu)(aB:bT)(x0:Nat->Int)(x1:Int)(x2:Int)(x3:Int)(x4:Int)(x5:Bool):Pg ajP:=opt (bg x0) λd=>let n1:=d.2.2;opt (fm d.1 d.2.1 n1.1 n1.2 x5) λaj=>ae (decide (aj.1 8<751619277)) (ret (((λx=>0,0,0,0),4),aj.2)) (ae (decide (x3<50)) (ret (((λx=>0,0,0,0),4),aj.2)) (opt (aD (x0 9) (aj.1 8) 30 aj.2) λaE=>opt (aW x1 (wI (0-aE.1)) aE.2) λbE=>opt (aD 1073741824 (aj.1 8) 30 bE.2) λcC=>opt (aD aE.1 (aj.1 8) 30 cC.2) λeJ=>opt (cv 2 eJ.2 (cr d.1 [d.1,d.1]) true) λc9=>opt (aB eJ.1 c9.1 30 c9.2) λlR=>opt (cv 2 lR.2 (cr d.2.1 [d.2.1,d.2.1]) true) λpY=>opt (aB eJ.1 (wI (0-pY.1)) 30 pY.2) λmV=>opt (cv 2 mV.2 (cr n1.1 [n1.1,n1.1]) true) λlM=>opt (aB eJ.1 (wI (0-lM.1)) 30 lM.2) λwO=>opt (cv 2 wO.2 (cr n1.2 [n1.2,n1.2]) true) λd=>opt (aB eJ.1 d.1 30 d.2) λd=>ret (((λj=>bif ww j 3 then d.1 else bif ww j 2 then wO.1 else bif ww j 1 then mV.1 else bif ww j 0 then lR.1 else bif ww j 9 then wI (0-cC.1) else 0,bE.1,x2,x4),0),d.2)))
def Dj:=λx0 x1 x2 x3 x4 x5=>(T2 cy jU bu bQ cU aV x0 x1 x2 x3 x4 x5).val
abbrev T3:=eo×qH×cL×dg×fu×bT
def ajS (p:T3):KK:=⟨[jE p.1,DI p.2.1,gA p.b.1,iz p.b.2.1,oP p.c.1,fq p.c.2],⟨[⟨10,(1::rg 3 5 (rg 9 4 (rg 15 43 (rg 60 11 (rg 73 13 []))))),[]⟩],[],[],[],(some ⟨0,(rg 0 8 (rg 10 76 [])),[]⟩)⟩,0,171⟩
theorem aDa (p:T3):D2 (ajS p) ajO (lf Pr) λb=>T2 p.1 p.2.1 p.b.1 p.b.2.1 p.c.1 p.c.2 b.1.1 b.1.2.1.1.1 b.1.2.1.1.2 b.1.2.1.2 b.1.b b.2:=λb=>by kernel_rfl
abbrev ajT:T3:=(cy,jU,bu,bQ,cU,aV)
theorem aDb [ax]:SC (ajR Dj):=sc (kS (k:=ajS ajT) (.c km (.c GK (.c iy (.c jg (.c rG (.c fO (.nil _))))))) [10] [] ⟨kN,trivial⟩ trivial (aDa ajT))
def ajU:=qa (pl gW nil)
def Ps:=qe Ho
abbrev ajV:=Ps.B
abbrev T4:=Int->Option ajV
def ajW (g:T4):Ct:=(140,FC ajU (lf Ps) (λb=>g b))
def T5 (aq:cx)(aF:ch)(x0:Int):Pg ajV:=opt (aq (wI (x0*x0)) 17592186044416 1000000000000 false) λd=>opt (aF d.1 1 72057594037927936 d.2) λd=>ret d.1
def Dk:=λx0=>(T5 aU bc x0).val
theorem aDc:∀aq aF,D0 [dt aq,dY aF] 140 ajU (lf Ps) λb=>T5 aq aF b:=λ_ _ b=>by kernel_rfl
theorem aDd [ax]:SC (ajW Dk):=s0 (.c dE (.c eK (.nil _))) (aDc aU bc)
def aBT:=qa (pr (cu aP DR) bH)
def aib:=qe aW6
abbrev aBU:=aib.B
abbrev abg:=Int->Int->Int->Int->Int->Int->Int->Int->Int->Bool->Option aBU
def abh (g:abg):Ct:=(92,FC aBT (lf aib) (λb=>g b.1.1 b.1.2.1 b.1.b.1 b.1.b.2.1 b.1.c.1 b.1.c.2.1 b.1.c.b.1 b.1.c.b.2.1 b.1.d b.2))
def an6 (aDe:T4)(aq:cx)(x0:Int)(x1:Int)(x2:Int)(x3:Int)(x4:Int)(x5:Int)(x6:Int)(x7:Int)(x8:Int)(x9:Bool):Pg aBU:=ae (decide (x4<1)) (ret (((0,0,0,0),1),x9)) (ae (decide (x4>1000000)) (ret (((0,0,0,0),1),x9)) (opt (aDe x4) λd=>ae (decide (x1< -2000000)) (ret (((0,0,0,0),1),x9)) (ae (decide (x1>2000000)) (ret (((0,0,0,0),1),x9)) (opt (aq x1 1073741824 1000000 x9) λaj=>ae (decide (x2< -2000000)) (ret (((0,0,0,0),1),aj.2)) (ae (decide (x2>2000000)) (ret (((0,0,0,0),1),aj.2)) (opt (aq x2 1073741824 1000000 aj.2) λaE=>ae (decide (x3< -2000000)) (ret (((0,0,0,0),1),aE.2)) (ae (decide (x3>2000000)) (ret (((0,0,0,0),1),aE.2)) (opt (aq x3 1073741824 1000000 aE.2) λbE=>ret (((aj.1,aE.1,bE.1,d),0),bE.2)))))))))
def ym:=λx0 x1 x2 x3 x4 x5 x6 x7 x8 x9=>(an6 Dk aU x0 x1 x2 x3 x4 x5 x6 x7 x8 x9).val
abbrev an7:=T4×cx
def aBV (p:an7):KK:=⟨[ajW p.1,dt p.2],⟨[⟨5,(1::2::rg 7 17 (rg 25 8 (rg 38 13 []))),[]⟩],[],[0],[],(some ⟨0,(rg 0 4 (rg 6 45 [])),[]⟩)⟩,0,92⟩
theorem aOC (p:an7):D2 (aBV p) aBT (lf aib) λb=>an6 p.1 p.2 b.1.1 b.1.2.1 b.1.b.1 b.1.b.2.1 b.1.c.1 b.1.c.2.1 b.1.c.b.1 b.1.c.b.2.1 b.1.d b.2:=λb=>by kernel_rfl
abbrev aBW:an7:=(Dk,aU)
theorem an8 [ax]:SC (abh ym):=sc (kS (k:=aBV aBW) (.c aDd (.c dE (.nil _))) [5] [] ⟨kN,trivial⟩ trivial (aOC aBW))
def aBX:=qa (pr (cu aP (c kY (c aQn gW))) bH)
def aLL:=qe aXw
abbrev an9:=(Bool×NI×Int×Int×Int×NI×Int×NI×Int)
def aBY:an9->T:=λd=>lf aLL (d.1,d.2.1,d.b.1,d.b.2.1,d.c.1,d.c.2.1,d.c.b.1,d.b.2.1,d.c.1,d.c.b.2.1,d.d,d.b.2.1,d.c.1)
abbrev aBZ:=NI->Int->Int->Int->Int->Int->Bool->Option an9
def aB0 (g:aBZ):Ct:=(233,FC aBX aBY (λb=>g b.1.1 b.1.2.1.1.1 b.1.2.1.1.2.1 b.1.2.1.1.b b.1.2.1.2 b.1.b b.2))
def aoa (bg:eo)(bK:lK)(fm:qH)(Rz:Fe)(aic:L7)(adx:Ix)(cv:fu)(aW:dg)(x0:Nat->Int)(x1:Int)(x2:Int)(x3:Int)(x4:Int)(x5:Int)(x6:Bool):Pg an9:=opt (bg x0) λd=>opt (bK x0 16) λaj=>opt (bK x0 19) λaE=>opt (fm d.1 d.2.1 d.2.2.1 d.2.2.2 x6) λbE=>opt (Rz bE.1 aj.1 aj.2.1 aj.2.2 bE.2) λcC=>opt (aic d.1 d.2.1 d.2.2.1 d.2.2.2) λd=>opt (adx d.1 d.2.1 d.2.2.1 d.2.2.2 aj.1 aj.2.1 aj.2.2 cC.2) λd=>let n2:=d.1.2.2;let n1:=n2.2.2.2;let n3:=n1.2.2.2;opt (cv 2 d.2 (cr cC.1.1 [aE.1,cC.1.1]) true) λeJ=>opt (aW x1 eJ.1 eJ.2) λc9=>opt (cv 2 c9.2 (cr cC.1.2.1 [aE.2.1,cC.1.2.1]) true) λlR=>opt (aW x2 lR.1 lR.2) λpY=>opt (cv 2 pY.2 (cr cC.1.2.2 [aE.2.2,cC.1.2.2]) true) λmV=>opt (aW x3 mV.1 mV.2) λlM=>ret (lM.2,λj=>bif ww j 19 then 1073741824 else bif ww j 18 then bE.1 6 else bif ww j 17 then bE.1 3 else bif ww j 16 then bE.1 0 else bif ww j 3 then wI (0-n2.2.1) else bif ww j 2 then wI (0-n2.1) else bif ww j 1 then wI (0-d.1.2.1) else bif ww j 0 then d.1.1 else 0,c9.1,x4,x5,λj=>bif ww j 20 then 1073741824 else bif ww j 18 then bE.1 7 else bif ww j 17 then bE.1 4 else bif ww j 16 then bE.1 1 else bif ww j 3 then wI (0-n1.2.2.1) else bif ww j 2 then wI (0-n1.2.1) else bif ww j 1 then wI (0-n1.1) else bif ww j 0 then n2.2.2.1 else 0,pY.1,λj=>bif ww j 21 then 1073741824 else bif ww j 18 then bE.1 8 else bif ww j 17 then bE.1 5 else bif ww j 16 then bE.1 2 else bif ww j 3 then wI (0-n3.2.2.2) else bif ww j 2 then wI (0-n3.2.2.1) else bif ww j 1 then wI (0-n3.2.1) else bif ww j 0 then n3.1 else 0,lM.1)
def RB:=λx0 x1 x2 x3 x4 x5 x6=>(aoa cy eL jU xV BH zh cU bQ x0 x1 x2 x3 x4 x5 x6).val
abbrev aob:=eo×lK×qH×Fe×L7×Ix×fu×dg
def aB1 (p:aob):KK:=⟨[jE p.1,rH p.2.1,DI p.b.1,aaR p.b.2.1,ahn p.c.1,ado p.c.2.1,oP p.c.b.1,iz p.c.b.2],⟨[⟨7,(1::2::4::5::rg 7 4 (rg 16 23 (rg 40 62 []))),[]⟩,⟨11,(1::2::4::5::rg 7 4 (rg 18 21 (rg 40 23 (rg 65 37 [])))),[]⟩,⟨18,(1::2::4::5::rg 7 4 (rg 18 21 (rg 40 38 (rg 79 23 [])))),[]⟩],[],[],[],(some ⟨0,(rg 0 8 (rg 9 93 [])),[]⟩)⟩,0,233⟩
theorem aOD (p:aob):D2 (aB1 p) aBX aBY λb=>aoa p.1 p.2.1 p.b.1 p.b.2.1 p.c.1 p.c.2.1 p.c.b.1 p.c.b.2 b.1.1 b.1.2.1.1.1 b.1.2.1.1.2.1 b.1.2.1.1.b b.1.2.1.2 b.1.b b.2:=λb=>by kernel_rfl
abbrev aB2:aob:=(cy,eL,jU,xV,BH,zh,cU,bQ)
theorem aOE [ax]:SC (aB0 RB):=sc (kS (k:=aB1 aB2) (.c km (.c uZ (.c GK (.c amN (.c avS (.c arZ (.c rG (.c jg (.nil _))))))))) [7,11,18] [] ⟨kN,⟨kN,⟨kN,trivial⟩⟩⟩ trivial (aOD aB2))
def ar4:=qa (pr (cu aP Hq) bH)
def YG:=qe (res (pr aQe (pl mh nil)))
abbrev ar5:=YG.B
abbrev QM:=Int->Int->Int->Bool->Option ar5
def ady (g:QM):Ct:=(248,FC ar4 (lf YG) (λb=>g b.1.1 b.1.2.1 b.1.b b.2))
def adz (jT:yZ)(rI:acx)(x0:Int)(x1:Int)(x2:Int)(x3:Bool):Pg ar5:=opt (jT 2 x3 (cr x0 [x1,x0]) true) λd=>ae (decide (d.1<16777216)) (ret ((0,false),d.2)) (opt (rI x1 x0 d.2) λd=>ret ((d.1,true),d.2))
def zn:=λx0 x1 x2 x3=>(adz gB yY x0 x1 x2 x3).val
theorem aH4:∀jT rI,D0 [Ip jT,acy rI] 248 ar4 (lf YG) λb=>adz jT rI b.1.1 b.1.2.1 b.1.b b.2:=λ_ _ b=>by kernel_rfl
theorem ar6 [ax]:SC (ady zn):=s0 (.c QD (.c arh (.nil _))) (aH4 gB yY)
def aoc:=qa (pr (cu aP (c kY (c aQn EV))) bH)
def T6:=qe aEk
abbrev aod:=T6.B
abbrev aoe:=NI->Int->Int->Int->Int->Int->Int->Int->Bool->Option aod
def aof (g:aoe):Ct:=(235,FC aoc (lf T6) (λb=>g b.1.1 b.1.2.1.1.1 b.1.2.1.1.2.1 b.1.2.1.1.b b.1.2.1.2 b.1.b.1 b.1.b.2.1 b.1.c b.2))
def YH (bg:eo)(fm:qH)(bK:lK)(nu:JS)(iQ:GI)(DL:QM)(jT:yZ)(aW:dg)(dm:xR)(bh:eM)(cv:fu)(aD:cL)(x0:Nat->Int)(x1:Int)(x2:Int)(x3:Int)(x4:Int)(x5:Int)(x6:Int)(x7:Int)(x8:Bool):Pg aod:=opt (bg x0) λd=>let n1:=d.2.2;opt (fm d.1 d.2.1 n1.1 n1.2 x8) λaj=>opt (bK x0 19) λaE=>opt (nu x1 x2 x3 aE.1 aE.2.1 aE.2.2 aj.2) λbE=>opt (iQ aj.1 bE.1.1 bE.1.2.1 bE.1.2.2 bE.2) λcC=>opt (DL cC.1.1 cC.1.2.1 cC.1.2.2 cC.2) λeJ=>ae (!eJ.1.2) (ret (((λx=>0,0,0,0),4),eJ.2)) (opt (jT 2 eJ.2 (cr (aj.1 0) [aj.1 3,aj.1 0]) true) λc9=>ae (decide (c9.1<16777216)) (ret (((λx=>0,0,0,0),4),c9.2)) (opt (aW x5 eJ.1.1 c9.2) λlR=>opt (dm lR.1) λpY=>opt (bh 30 2 2 lR.2 (cr (aj.1 0) [aj.1 3,aj.1 0]) (cr (aj.1 0) [aj.1 3,aj.1 0]) true true) λmV=>opt (cv 2 mV.2 (cr d.1 [d.1,d.1]) true) λlM=>opt (cv 2 lM.2 (cr d.2.1 [d.2.1,d.2.1]) true) λwO=>opt (cv 2 wO.2 (cr n1.1 [n1.1,n1.1]) true) λKW=>opt (cv 2 KW.2 (cr n1.2 [n1.2,n1.2]) true) λd=>opt (bh 30 2 2 d.2 (cr (aj.1 0) [wI (0-aj.1 3),aj.1 0]) (cr d.1 [lM.1,d.1]) true true) λMu=>opt (aD Mu.1 mV.1 30 Mu.2) λaGr=>opt (bh 30 2 2 aGr.2 (cr (aj.1 0) [wI (0-aj.1 3),aj.1 0]) (cr KW.1 [wO.1,KW.1]) true true) λabb=>opt (aD abb.1 mV.1 30 abb.2) λaeW=>opt (bh 30 2 2 aeW.2 (cr (aj.1 0) [wI (0-aj.1 3),aj.1 0]) (cr wO.1 [wI (0-KW.1),wO.1]) true true) λabc=>opt (aD abc.1 mV.1 30 abc.2) λaGs=>opt (bh 30 2 2 aGs.2 (cr (aj.1 0) [wI (0-aj.1 3),aj.1 0]) (cr lM.1 [wI (0-d.1),lM.1]) true true) λd=>opt (aD d.1 mV.1 30 d.2) λd=>ret (((cr 0 [d.1,aGs.1,aeW.1,aGr.1],pY,x6,x7),0),d.2)))
def FD:=λx0 x1 x2 x3 x4 x5 x6 x7 x8=>(YH cy jU eL vR oY zn gB bQ kl bz cU bu x0 x1 x2 x3 x4 x5 x6 x7 x8).val
abbrev YI:=eo×qH×lK×JS×GI×QM×yZ×dg×xR×eM×fu×cL
def aog (p:YI):KK:=⟨[jE p.1,DI p.2.1,rH p.b.1,W3 p.b.2.1,Md p.c.1,ady p.c.2.1,Ip p.c.b.1,iz p.c.b.2.1,BF p.d.1,mW p.d.2.1,oP p.d.b.1,gA p.d.b.2],⟨[⟨10,(rg 1 11 (13::14::16::17::rg 21 57 (rg 80 58 []))),[]⟩,⟨17,(rg 1 11 (13::14::16::17::20::21::22::rg 25 86 (rg 112 26 []))),[]⟩],[],[],[],(some ⟨0,(rg 0 12 (rg 14 124 [])),[]⟩)⟩,0,235⟩
theorem aGy (p:YI):D2 (aog p) aoc (lf T6) λb=>YH p.1 p.2.1 p.b.1 p.b.2.1 p.c.1 p.c.2.1 p.c.b.1 p.c.b.2.1 p.d.1 p.d.2.1 p.d.b.1 p.d.b.2 b.1.1 b.1.2.1.1.1 b.1.2.1.1.2.1 b.1.2.1.1.b b.1.2.1.2 b.1.b.1 b.1.b.2.1 b.1.c b.2:=λb=>by kernel_rfl
abbrev aoh:YI:=(cy,jU,eL,vR,oY,zn,gB,bQ,kl,bz,cU,bu)
theorem aGz [ax]:SC (aof FD):=sc (kS (k:=aog aoh) (.c km (.c GK (.c uZ (.c ahg (.c Vq (.c ar6 (.c QD (.c jg (.c GB (.c oQ (.c rG (.c iy (.nil _))))))))))))) [10,17] [] ⟨kN,⟨kN,trivial⟩⟩ trivial (aGy aoh))
def aw0:=qa (pr (cu aP (c agd (c aQn gW))) bH)
def adA:=qe aQC
abbrev aw1:=adA.B
abbrev aw2:=Int->Int->Int->Int->Int->Int->Int->Int->Int->Bool->Option aw1
def aw3 (g:aw2):Ct:=(219,FC aw0 (lf adA) (λb=>g b.1.1.1 b.1.1.2.1 b.1.1.b.1 b.1.1.b.2 b.1.2.1.1.1 b.1.2.1.1.2.1 b.1.2.1.1.b b.1.2.1.2 b.1.b b.2))
def aid (fm:qH)(iQ:GI)(DL:QM)(aW:dg)(dm:xR)(x0:Int)(x1:Int)(x2:Int)(x3:Int)(x4:Int)(x5:Int)(x6:Int)(x7:Int)(x8:Int)(x9:Bool):Pg aw1:=opt (fm x0 x1 x2 x3 x9) λd=>opt (iQ d.1 x4 x5 x6 d.2) λd=>opt (DL d.1.1 d.1.2.1 d.1.2.2 d.2) λd=>ae (!d.1.2) (ret ((0,4),d.2)) (opt (aW x8 d.1.1 d.2) λd=>opt (dm d.1) λaj=>ret ((aj,0),d.2))
def M6:=λx0 x1 x2 x3 x4 x5 x6 x7 x8 x9=>(aid jU oY zn bQ kl x0 x1 x2 x3 x4 x5 x6 x7 x8 x9).val
theorem aLM:∀fm iQ DL aW dm,D0 [DI fm,Md iQ,ady DL,iz aW,BF dm] 219 aw0 (lf adA) λb=>aid fm iQ DL aW dm b.1.1.1 b.1.1.2.1 b.1.1.b.1 b.1.1.b.2 b.1.2.1.1.1 b.1.2.1.1.2.1 b.1.2.1.1.b b.1.2.1.2 b.1.b b.2:=λ_ _ _ _ _ b=>by kernel_rfl
theorem aLN [ax]:SC (aw3 M6):=s0 (.c GK (.c Vq (.c ar6 (.c jg (.c GB (.nil _)))))) (aLM jU oY zn bQ kl)
def ajX:=qa (pl gW nil)
def Pu:=qe Ho
abbrev ajY:=Pu.B
abbrev ajZ:=Int->Option ajY
def aj0 (g:ajZ):Ct:=(141,FC ajX (lf Pu) (λb=>g b))
def T7 (aq:cx)(aF:ch)(x0:Int):Pg ajY:=opt (aq (wI (x0*x0)) 17592186044416 1000000 false) λd=>opt (aF d.1 1 72057594037927936 d.2) λd=>ret d.1
def Dl:=λx0=>(T7 aU bc x0).val
theorem aDf:∀aq aF,D0 [dt aq,dY aF] 141 ajX (lf Pu) λb=>T7 aq aF b:=λ_ _ b=>by kernel_rfl
theorem aDg [ax]:SC (aj0 Dl):=s0 (.c dE (.c eK (.nil _))) (aDf aU bc)
def aB3:=qa (pr (cu aP DR) bH)
def aie:=qe aQE
abbrev aB4:=aie.B
abbrev aoi:=Int->Int->Int->Int->Int->Int->Int->Int->Int->Bool->Option aB4
def aoj (g:aoi):Ct:=(93,FC aB3 (lf aie) (λb=>g b.1.1 b.1.2.1 b.1.b.1 b.1.b.2.1 b.1.c.1 b.1.c.2.1 b.1.c.b.1 b.1.c.b.2.1 b.1.d b.2))
def aok (aq:cx)(Jp:ajZ)(x0:Int)(x1:Int)(x2:Int)(x3:Int)(x4:Int)(x5:Int)(x6:Int)(x7:Int)(x8:Int)(x9:Bool):Pg aB4:=ae (decide (x1<0)) (ret (((0,0),1),x9)) (ae (decide (x1>300000)) (ret (((0,0),1),x9)) (ae (decide (x2<1)) (ret (((0,0),1),x9)) (ae (decide (x2>1000000)) (ret (((0,0),1),x9)) (opt (aq x1 1073741824 1000 x9) λd=>opt (Jp x2) λaj=>ret (((d.1,aj),0),d.2)))))
def FE:=λx0 x1 x2 x3 x4 x5 x6 x7 x8 x9=>(aok aU Dl x0 x1 x2 x3 x4 x5 x6 x7 x8 x9).val
theorem aOF:∀aq Jp,D1 [dt aq,aj0 Jp] [0] 93 aB3 (lf aie) λb=>aok aq Jp b.1.1 b.1.2.1 b.1.b.1 b.1.b.2.1 b.1.c.1 b.1.c.2.1 b.1.c.b.1 b.1.c.b.2.1 b.1.d b.2:=λ_ _ b=>by kernel_rfl
theorem aB5 [ax]:SC (aoj FE):=s0 (.c dE (.c aDg (.nil _))) (aOF aU Dl)
def aj1:=qa (pr (cu aP as4) bH)
def Pv:=qe ax4
abbrev aj2:=Pv.B
abbrev Dm:=NI->Bool->Option aj2
def T8 (g:Dm):Ct:=(258,FC aj1 (lf Pv) (λb=>g b.1 b.2))
def T9 (bK:lK)(nu:JS)(x0:Nat->Int)(x1:Bool):Pg aj2:=opt (bK x0 4) λd=>opt (nu d.1 d.2.1 d.2.2 (x0 22) (x0 23) 0 x1) λd=>ret d
def tM:=λx0 x1=>(T9 eL vR x0 x1).val
theorem aDh:∀bK nu,D0 [rH bK,W3 nu] 258 aj1 (lf Pv) λb=>T9 bK nu b.1 b.2:=λ_ _ b=>by kernel_rfl
theorem aj3 [ax]:SC (T8 tM):=s0 (.c uZ (.c ahg (.nil _))) (aDh eL vR)
def aw4:=qa (pr (cu (app 0 27) Hq) (cl ax0 nil))
def adB:=qe (res (pu V4 (pl (cl (Bu ax0) nil) nil)))
abbrev aw5:=adB.B
abbrev M7:=Int->Int->Int->NI->Int->Int->Int->Option aw5
def aif (g:M7):Ct:=(259,FC aw4 (lf adB) (λb=>g b.1.1 b.1.2.1 b.1.b b.2.1 b.b.1 b.b.2.1 b.c))
def aih (x0:Int)(x1:Int)(x2:Int)(x3:Nat->Int)(x4:Int)(x5:Int)(x6:Int):Pg aw5:=ret (λj=>bif ww j 6 then x2 else bif ww j 23 then wI (0-x1) else bif ww j 5 then x1 else bif ww j 22 then wI (0-x0) else bif ww j 4 then x0 else x3 j,x4,x5,x6)
def Ce:=λx0 x1 x2 x3 x4 x5 x6=>(aih x0 x1 x2 x3 x4 x5 x6).val
abbrev aii:=Unit
def aw6 (p:aii):KK:=⟨[],⟨[⟨2,(1::2::4::rg 6 24 []),[]⟩],[],[],[],(some ⟨0,(rg 0 30 []),[]⟩)⟩,0,259⟩
theorem aLO (p:aii):D2 (aw6 p) aw4 (lf adB) λb=>aih b.1.1 b.1.2.1 b.1.b b.2.1 b.b.1 b.b.2.1 b.c:=λb=>by kernel_rfl
abbrev aw7:aii:=()
theorem aw8 [ax]:SC (aif Ce):=sc (kS (k:=aw6 aw7) (.nil _) [2] [] ⟨kN,trivial⟩ trivial (aLO aw7))
def aj4:=qa (pr (cu aP (c kY (c (aa ale) gW))) bH)
def Px:=qe aEk
abbrev aj5:=Px.B
abbrev aj6:=NI->Int->Int->Int->Bool->Option aj5
def aj7 (g:aj6):Ct:=(236,FC aj4 (lf Px) (λb=>g b.1.1 b.1.2.1.1 b.1.2.1.2 b.1.b b.2))
def T' (Ua:Dm)(vh:Bg)(aW:dg)(aD:cL)(aij:M7)(x0:Nat->Int)(x1:Int)(x2:Int)(x3:Int)(x4:Bool):Pg aj5:=opt (Ua x0 x4) λd=>opt (vh d.1.1 d.1.2.1 d.1.2.2 d.2) λaj=>ae (decide (aj.1<1073741824)) (ret (((λx=>0,0,0,0),4),aj.2)) (opt (aW x1 aj.1 aj.2) λaE=>opt (aD d.1.1 aj.1 30 aE.2) λbE=>opt (aD d.1.2.1 aj.1 30 bE.2) λcC=>opt (aD d.1.2.2 aj.1 30 cC.2) λd=>opt (aij bE.1 cC.1 d.1 (λx=>0) aE.1 x2 x3) λeJ=>ret ((eJ,0),d.2))
def Dn:=λx0 x1 x2 x3 x4=>(T' tM pF bQ bu Ce x0 x1 x2 x3 x4).val
abbrev Ub:=Dm×Bg×dg×cL×M7
def aj8 (p:Ub):KK:=⟨[T8 p.1,Rk p.2.1,iz p.b.1,gA p.b.2.1,aif p.c],⟨[⟨8,(rg 1 7 (9::rg 14 19 (rg 34 14 []))),[]⟩],[],[],[],(some ⟨0,(rg 0 8 (rg 10 38 [])),[]⟩)⟩,0,236⟩
theorem aDi (p:Ub):D2 (aj8 p) aj4 (lf Px) λb=>T' p.1 p.2.1 p.b.1 p.b.2.1 p.c b.1.1 b.1.2.1.1 b.1.2.1.2 b.1.b b.2:=λb=>by kernel_rfl
abbrev aj9:Ub:=(tM,pF,bQ,bu,Ce)
theorem aDj [ax]:SC (aj7 Dn):=sc (kS (k:=aj8 aj9) (.c aj3 (.c aaH (.c jg (.c iy (.c aw8 (.nil _)))))) [8] [] ⟨kN,trivial⟩ trivial (aDi aj9))
def aka:=qa (pr (cu aP (c kY yV)) bH)
def Py:=qe aEk
abbrev akb:=Py.B
abbrev akc:=NI->Int->Int->Bool->Option akb
def akd (g:akc):Ct:=(237,FC aka (lf Py) (λb=>g b.1.1 b.1.2.1 b.1.b b.2))
def Uc (bg:eo)(fm:qH)(Ua:Dm)(Rz:Fe)(aD:cL)(aB:bT)(aW:dg)(aij:M7)(x0:Nat->Int)(x1:Int)(x2:Int)(x3:Bool):Pg akb:=opt (bg x0) λd=>opt (fm d.1 d.2.1 d.2.2.1 d.2.2.2 x3) λd=>opt (Ua x0 d.2) λaj=>opt (Rz d.1 aj.1.1 aj.1.2.1 aj.1.2.2 aj.2) λaE=>let n1:=aE.1.1;ae (decide (n1<5368709120)) (ret (((λx=>0,0,0,0),4),aE.2)) (opt (aD aE.1.2.1 n1 30 aE.2) λbE=>opt (aB bE.1 (d.1 0) 30 bE.2) λcC=>opt (aW (d.1 1) cC.1 cC.2) λeJ=>opt (aD eJ.1 n1 30 eJ.2) λc9=>opt (aB bE.1 (d.1 3) 30 c9.2) λlR=>opt (aW (d.1 4) lR.1 lR.2) λpY=>opt (aD pY.1 n1 30 pY.2) λmV=>opt (aB bE.1 (d.1 6) 30 mV.2) λlM=>opt (aW (d.1 7) lM.1 lM.2) λd=>opt (aD d.1 n1 30 d.2) λd=>opt (aij c9.1 mV.1 d.1 (λx=>0) (wI (0-bE.1)) x1 x2) λwO=>ret ((wO,0),d.2))
def Dp:=λx0 x1 x2 x3=>(Uc cy jU tM xV bu aV bQ Ce x0 x1 x2 x3).val
abbrev Ud:=eo×qH×Dm×Fe×cL×bT×dg×M7
def ake (p:Ud):KK:=⟨[jE p.1,DI p.2.1,T8 p.b.1,aaR p.b.2.1,gA p.c.1,fq p.c.2.1,iz p.c.b.1,aif p.c.b.2],⟨[⟨9,(rg 1 7 (9::rg 15 26 (rg 42 26 []))),[]⟩],[],[],[],(some ⟨0,(rg 0 8 (rg 10 58 [])),[]⟩)⟩,0,237⟩
theorem aDk (p:Ud):D2 (ake p) aka (lf Py) λb=>Uc p.1 p.2.1 p.b.1 p.b.2.1 p.c.1 p.c.2.1 p.c.b.1 p.c.b.2 b.1.1 b.1.2.1 b.1.b b.2:=λb=>by kernel_rfl
abbrev akf:Ud:=(cy,jU,tM,xV,bu,aV,bQ,Ce)
theorem aDl [ax]:SC (akd Dp):=sc (kS (k:=ake akf) (.c km (.c GK (.c aj3 (.c amN (.c iy (.c fO (.c jg (.c aw8 (.nil _))))))))) [9] [] ⟨kN,trivial⟩ trivial (aDk akf))
def ae9:=qa (pl gW nil)
def M8:=qe Ho
abbrev afa:=M8.B
abbrev Pz:=Int->Option afa
def afb (g:Pz):Ct:=(142,FC ae9 (lf M8) (λb=>g b))
def PA (aq:cx)(aF:ch)(x0:Int):Pg afa:=opt (aq (wI (x0*x0)) 17592186044416 1000000000000 false) λd=>opt (aF d.1 1 72057594037927936 d.2) λd=>ret d.1
def AI:=λx0=>(PA aU bc x0).val
theorem azr:∀aq aF,D0 [dt aq,dY aF] 142 ae9 (lf M8) λb=>PA aq aF b:=λ_ _ b=>by kernel_rfl
theorem azs [ax]:SC (afb AI):=s0 (.c dE (.c eK (.nil _))) (azr aU bc)
def aw9:=qa (pr (cu aP DR) bH)
def adC:=qe aW6
abbrev axa:=adC.B
abbrev aik:=Int->Int->Int->Int->Int->Int->Int->Int->Int->Bool->Option axa
def ail (g:aik):Ct:=(94,FC aw9 (lf adC) (λb=>g b.1.1 b.1.2.1 b.1.b.1 b.1.b.2.1 b.1.c.1 b.1.c.2.1 b.1.c.b.1 b.1.c.b.2.1 b.1.d b.2))
def aim (aq:cx)(azt:Pz)(x0:Int)(x1:Int)(x2:Int)(x3:Int)(x4:Int)(x5:Int)(x6:Int)(x7:Int)(x8:Int)(x9:Bool):Pg axa:=ae (decide (x1< -10000000)) (ret (((0,0,0,0),1),x9)) (ae (decide (x1>10000000)) (ret (((0,0,0,0),1),x9)) (ae (decide (x2< -10000000)) (ret (((0,0,0,0),1),x9)) (ae (decide (x2>10000000)) (ret (((0,0,0,0),1),x9)) (ae (decide (x3<1)) (ret (((0,0,0,0),1),x9)) (ae (decide (x3>10000000)) (ret (((0,0,0,0),1),x9)) (ae (decide (x4<0)) (ret (((0,0,0,0),1),x9)) (ae (decide (x4>100)) (ret (((0,0,0,0),1),x9)) (opt (aq x1 1073741824 1000000 x9) λd=>opt (aq x2 1073741824 1000000 d.2) λaj=>opt (azt x3) λaE=>ret (((d.1,aj.1,aE,x4),0),aj.2)))))))))
def Cf:=λx0 x1 x2 x3 x4 x5 x6 x7 x8 x9=>(aim aU AI x0 x1 x2 x3 x4 x5 x6 x7 x8 x9).val
abbrev ain:=cx×Pz
def axb (p:ain):KK:=⟨[dt p.1,afb p.2],⟨[⟨2,(1::rg 5 4 (rg 12 4 (17::rg 20 8 (32::33::38::39::rg 44 20 [])))),[]⟩],[],[0],[],(some ⟨0,(rg 0 4 (rg 6 58 [])),[]⟩)⟩,0,94⟩
theorem aLP (p:ain):D2 (axb p) aw9 (lf adC) λb=>aim p.1 p.2 b.1.1 b.1.2.1 b.1.b.1 b.1.b.2.1 b.1.c.1 b.1.c.2.1 b.1.c.b.1 b.1.c.b.2.1 b.1.d b.2:=λb=>by kernel_rfl
abbrev axc:ain:=(aU,AI)
theorem axd [ax]:SC (ail Cf):=sc (kS (k:=axb axc) (.c dE (.c azs (.nil _))) [2] [] ⟨kN,trivial⟩ trivial (aLP axc))
def afc:=qa (pr (cu aP as4) bH)
def M9:=qe aQC
abbrev afd:=M9.B
abbrev PC:=NI->Bool->Option afd
def afe (g:PC):Ct:=(260,FC afc (lf M9) (λb=>g b.1 b.2))
def PD (bg:eo)(fm:qH)(aD:cL)(x0:Nat->Int)(x1:Bool):Pg afd:=opt (bg x0) λd=>opt (fm d.1 d.2.1 d.2.2.1 d.2.2.2 x1) λd=>ae (decide (d.1 8<751619277)) (ret ((0,4),d.2)) (opt (aD (x0 9) (d.1 8) 30 d.2) λd=>let y0:=wI (0-d.1);ae (decide (y0<536870912)) (ret ((0,4),d.2)) (ret ((y0,0),d.2)))
def AJ:=λx0 x1=>(PD cy jU bu x0 x1).val
theorem azu:∀bg fm aD,D0 [jE bg,DI fm,gA aD] 260 afc (lf M9) λb=>PD bg fm aD b.1 b.2:=λ_ _ _ b=>by kernel_rfl
theorem azv [ax]:SC (afe AJ):=s0 (.c km (.c GK (.c iy (.nil _)))) (azu cy jU bu)
def axe:=qa (pr (cu aP (c kY (c agd gW))) bH)
def akg:=qe (res (pr aWn (pl mh nil)))
def aDm:=qe (res (pu (ry (cu (rc (dM (pu CU (pu Ad (pu (szl rq4) (pu (nat 27) dR)))))) alg)) (pr mh (cl aQJ nil))))
abbrev VA:=akg.B⊕(Bool×NI×Int×Int×Int×NI×Int)
def axf:VA->T:=ls (lf akg) (λd=>lf aDm (d.1,d.2.1,d.b.1,d.b.2.1,d.c.1,d.c.2.1,d.c.b,d.b.2.1,d.c.1))
abbrev axg:=NI->Int->Int->Int->Int->Int->Bool->Option VA
def axh (g:axg):Ct:=(238,FC axe axf (λb=>g b.1.1 b.1.2.1.1 b.1.2.1.2.1 b.1.2.1.b.1 b.1.2.1.b.2 b.1.b b.2))
def VB (azw:PC)(bg:eo)(fm:qH)(bK:lK)(Rz:Fe)(aD:cL)(aW:dg)(x0:Nat->Int)(x1:Int)(x2:Int)(x3:Int)(x4:Int)(x5:Int)(x6:Bool):Pg VA:=ae (decide (x4<30)) (ret (ws (4,x6))) (opt (azw x0 x6) λd=>let n1:=d.1.1;ae (d.1.2!=0) (ret (ws (d.1.2,d.2))) (opt (bg x0) λaj=>opt (fm aj.1 aj.2.1 aj.2.2.1 aj.2.2.2 d.2) λaE=>opt (bK x0 4) λbE=>opt (Rz aE.1 bE.1 bE.2.1 bE.2.2 aE.2) λcC=>opt (aD cC.1.2.1 n1 30 cC.2) λeJ=>opt (aW x1 eJ.1 eJ.2) λc9=>opt (aD cC.1.1 n1 30 c9.2) λlR=>opt (aW x2 (wI (0-lR.1)) lR.2) λpY=>opt (aD (aE.1 1) n1 30 pY.2) λmV=>opt (aD (aE.1 0) n1 30 mV.2) λlM=>opt (aD (aE.1 4) n1 30 lM.2) λwO=>opt (aD (aE.1 3) n1 30 wO.2) λKW=>opt (aD (aE.1 7) n1 30 KW.2) λMu=>opt (aD (aE.1 6) n1 30 Mu.2) λd=>ret (wr (d.2,λj=>bif ww j 6 then Mu.1 else bif ww j 5 then wO.1 else bif ww j 4 then mV.1 else 0,c9.1,x3,x5,λj=>bif ww j 6 then wI (0-d.1) else bif ww j 5 then wI (0-KW.1) else bif ww j 4 then wI (0-lM.1) else 0,pY.1))))
def Cg:=λx0 x1 x2 x3 x4 x5 x6=>(VB AJ cy jU eL xV bu bQ x0 x1 x2 x3 x4 x5 x6).val
abbrev aio:=PC×eo×qH×lK×Fe×cL×dg
def axi (p:aio):KK:=⟨[afe p.1,jE p.2.1,DI p.b.1,rH p.b.2.1,aaR p.c.1,gA p.c.2.1,iz p.c.b],⟨[⟨11,(rg 1 9 (11::13::rg 16 49 (rg 66 30 []))),[]⟩],[],[0],[],(some ⟨0,(rg 0 8 (rg 10 86 [])),[]⟩)⟩,0,238⟩
theorem aLQ (p:aio):D2 (axi p) axe axf λb=>VB p.1 p.2.1 p.b.1 p.b.2.1 p.c.1 p.c.2.1 p.c.b b.1.1 b.1.2.1.1 b.1.2.1.2.1 b.1.2.1.b.1 b.1.2.1.b.2 b.1.b b.2:=λb=>by kernel_rfl
abbrev axj:aio:=(AJ,cy,jU,eL,xV,bu,bQ)
theorem aLR [ax]:SC (axh Cg):=sc (kS (k:=axi axj) (.c azv (.c km (.c GK (.c uZ (.c amN (.c iy (.c jg (.nil _)))))))) [11] [] ⟨kN,trivial⟩ trivial (aLQ axj))
def axk:=qa (pl gW nil)
def adD:=qe DQ
abbrev axl:=adD.B
abbrev VC:=Int->Option axl
def VD (g:VC):Ct:=(83,FC axk (lf adD) (λb=>g b))
def VE (x0:Int):Pg axl:=ae (decide (x0>=0)) (ret (decide (x0<6))) (ret false)
def o9:=λx0=>(VE x0).val
theorem aLS:D0 [] 83 axk (lf adD) λb=>VE b:=λb=>by kernel_rfl
theorem aip [ax]:SC (VD o9):=s0 (.nil _) aLS
def RC:=qa (pr (cu Ia gW) aQj)
def D3:=qe (res (pu V4 (pl (cl (Bu (cl gi (cu aS (cu axW nil)))) nil) nil)))
abbrev FF:=D3.B
abbrev RD:=Int->Int->Int->Bool->Option FF
def RF (g:RD):Ct:=(265,FC RC (lf D3) (λb=>g b.1 b.2.1 b.b.1 b.b.2))
def yo (x0:Int)(x1:Int)(x2:Int)(x3:Bool):Pg FF:=ae (!x3) (ret x0) (ae (decide (x0>x1)) (ret x0) (ret x1))
def ly:=λx0 x1 x2 x3=>(yo x0 x1 x2 x3).val
theorem aol:D0 [] 265 RC (lf D3) λb=>yo b.1 b.2.1 b.b.1 b.b.2:=λb=>by kernel_rfl
theorem aom [ax]:SC (RF ly):=s0 (.nil _) aol
def RG:=qa (pu (cu Ia nil) aQj)
def D4:=qe (res (pu V4 (pl (cl (Bu aQc) nil) nil)))
abbrev FG:=D4.B
abbrev RH:=Int->Int->Bool->Option FG
def RI (g:RH):Ct:=(266,FC RG (lf D4) (λb=>g b.1 b.2.1 b.b))
def yp (x0:Int)(x1:Int)(x2:Bool):Pg FG:=let y0:=wI (x1+1);ret (x0,if 1000<y0 then 1000 else y0,x2)
def lz:=λx0 x1 x2=>(yp x0 x1 x2).val
theorem aon:D0 [] 266 RG (lf D4) λb=>yp b.1 b.2.1 b.b:=λb=>by kernel_rfl
theorem aoo [ax]:SC (RI lz):=s0 (.nil _) aon
def IA:=qa (dp (cu az8 (c ai (c ai aJ8))) λa=>(c lN (cl (cl (gs a.b.1 as2) nil) nil)))
def wV:=qe (res (pu V4 (pl (cl aEi Z8) nil)))
abbrev IB:=wV.B
abbrev IC:=Int->Int->Nat->NI->NI->(Nat->Bool)->NI->NI->NI->Int->(Nat->Bool)->NI->NI->Bool->Option IB
def ID (g:IC):Ct:=(256,uW 3 [.b,.i .i64,.i .i64] (FC IA (lf wV) (λb=>g b.1.1 b.1.2.1 b.1.b.1 b.2.1.1.1 b.2.1.1.2.1 b.2.1.1.b.1 b.2.1.1.b.2.1 b.2.1.1.c.1 b.2.1.1.c.2 b.2.1.2 b.b.1 b.b.2.1 b.c b.1.b.2)))
def rJ (ko:VC)(rK:ade)(yu:RD)(yw:RH)(x0:Int)(x1:Int)(x2:Nat)(x3:Nat->Int)(x4:Nat->Int)(x5:Nat->Bool)(x6:Nat->Int)(x7:Nat->Int)(x8:Nat->Int)(x9:Int)(gx:Nat->Bool)(gy:Nat->Int)(Aq:Nat->Int)(w0:Bool):Pg IB:=let n3:=((x5,x6,x7,x8).1 (wt x0));let n2:=((x4,x5,x6,x7,x8).1 (wt x0));let n1:=((x3,x4,x5,x6,x7,x8).1 (wt x0));let y0:=aX x0 6;let y1:=0+wt x0*6+3;let y2:=wl y1 36;let y3:=y2&&wl y1 37;opt (ko x0) λd=>ae (!d) (ret ((x3,x4,x5,x6,x7,x8),x9)) (ae (wn x2==0) (ret ((x3,x4,x5,x6,x7,x8),x9)) (ae (ww x2 x2) (opt (rK x2 gx gy Aq (w0&&true)) λd=>ae (decide (d.1>0)) (ae y0 (ae y2 (opt (yu x1 n1 n2 n3) λd=>ae y3 (ret ((λj=>bif ww j (wt x0) then d else(x3,x4,x5,x6,x7,x8).1 j,λj=>bif ww j (wt x0) then 0 else(x4,x5,x6,x7,x8).1 j,λj=>bif ww j (wt x0) then true else(x5,x6,x7,x8).1 j,x6,x7,x8),x9)) no) no) no) (ae y0 (ae y2 (opt (yw n1 n2 n3) λd=>ae y3 (ret ((λj=>bif ww j (wt x0) then d.1 else(x3,x4,x5,x6,x7,x8).1 j,λj=>bif ww j (wt x0) then d.2.1 else(x4,x5,x6,x7,x8).1 j,λj=>bif ww j (wt x0) then d.2.2 else(x5,x6,x7,x8).1 j,x6,x7,x8),x9)) no) no) no)) no))
def fP:=λx0 x1 x2 x3 x4 x5 x6 x7 x8 x9 gx gy Aq w0=>(rJ o9 zf ly lz x0 x1 x2 x3 x4 x5 x6 x7 x8 x9 gx gy Aq w0).val
theorem adE:∀ko rK yu yw,D1 [VD ko,adf rK,RF yu,RI yw] [0] 256 IA (lf wV) λb=>rJ ko rK yu yw b.1.1 b.1.2.1 b.1.b.1 b.2.1.1.1 b.2.1.1.2.1 b.2.1.1.b.1 b.2.1.1.b.2.1 b.2.1.1.c.1 b.2.1.1.c.2 b.2.1.2 b.b.1 b.b.2.1 b.c b.1.b.2:=λ_ _ _ _ b=>by kernel_rfl
theorem adF [ax]:SC (ID fP):=sc (Sound.nil 3 [.b,.i .i64,.i .i64]<|k0 (.c aip (.c arQ (.c aom (.c aoo (.nil _))))) (adE o9 zf ly lz))
def NU:=qa (pr (cu Ia yV) aQj)
def Ci:=qe aKg
abbrev NV:=Ci.B
abbrev NW:=Int->Int->Int->Int->Bool->Option NV
def NX (g:NW):Ct:=(46,FC NU (lf Ci) (λb=>g b.1.1 b.1.2 b.2.1 b.b.1 b.b.2))
def D5 (x0:Int)(x1:Int)(x2:Int)(x3:Int)(x4:Bool):Pg NV:=let y0:=decide (x1>=0);ae (!x4) (ret false) (ae (decide (x0>=x2)) (ae y0 (ret (decide (wU (wU x0-wU x2)<=wU x1))) (ret false)) (ae y0 (ret true) (ret (decide (wU (wU x2-wU x0)>=wU (0-wU x1))))))
def p7:=λx0 x1 x2 x3 x4=>(D5 x0 x1 x2 x3 x4).val
theorem akT:D0 [] 46 NU (lf Ci) λb=>D5 b.1.1 b.1.2 b.2.1 b.b.1 b.b.2:=λb=>by kernel_rfl
theorem akU [ax]:SC (NX p7):=s0 (.nil _) akT
def KY:=qa (pr (cu (app 0 6) gW) (cl (a 3 aQc iw) nil))
def zp:=qe aKg
abbrev KZ:=zp.B
abbrev tp:=Int->Int->Int->Bool->Int->Int->Int->Option KZ
def AK (g:tp):Ct:=(18,FC KY (lf zp) (λb=>g b.1 b.2.1.1 b.2.1.2.1 b.2.1.b b.b.1 b.b.2.1 b.c))
def AL (wF:NW)(x0:Int)(x1:Int)(x2:Int)(x3:Bool)(x4:Int)(x5:Int)(x6:Int):Pg KZ:=opt (wF x0 x5 x1 x2 x3) λd=>ae d (ret (decide (x2<=x6))) (ret false)
def jc:=λx0 x1 x2 x3 x4 x5 x6=>(AL p7 x0 x1 x2 x3 x4 x5 x6).val
theorem aff:∀wF,D0 [NX wF] 18 KY (lf zp) λb=>AL wF b.1 b.2.1.1 b.2.1.2.1 b.2.1.b b.b.1 b.b.2.1 b.c:=λ_ b=>by kernel_rfl
theorem K0 [ax]:SC (AK jc):=s0 (.c akU (.nil _)) (aff p7)
def IE:=qa (pr (cu az8 yV) aEj)
def wW:=qe aKg
abbrev IF:=wW.B
abbrev zq:=Int->Int->NI->NI->(Nat->Bool)->NI->NI->NI->Int->Option IF
def IG (g:zq):Ct:=(110,FC IE (lf wW) (λb=>g b.1.1 b.1.2 b.2.1.1 b.2.1.2.1 b.2.1.b.1 b.2.1.b.2.1 b.2.1.c.1 b.2.1.c.2 b.b))
def zu (ko:VC)(kP:tp)(x0:Int)(x1:Int)(x2:Nat->Int)(x3:Nat->Int)(x4:Nat->Bool)(x5:Nat->Int)(x6:Nat->Int)(x7:Nat->Int)(x8:Int):Pg IF:=opt (ko x0) λd=>ae d (ae (aX x0 6) (ae (wl (0+wt x0*6+6) 36) (opt (kP x1 ((x2,x3,x4,x5,x6,x7).1 (wt x0)) ((x3,x4,x5,x6,x7).1 (wt x0)) ((x4,x5,x6,x7).1 (wt x0)) ((x5,x6,x7).1 (wt x0)) (x6 (wt x0)) (x7 (wt x0))) λd=>ret d) no) no) (ret false)
def mY:=λx0 x1 x2 x3 x4 x5 x6 x7 x8=>(zu o9 jc x0 x1 x2 x3 x4 x5 x6 x7 x8).val
theorem adG:∀ko kP,D0 [VD ko,AK kP] 110 IE (lf wW) λb=>zu ko kP b.1.1 b.1.2 b.2.1.1 b.2.1.2.1 b.2.1.b.1 b.2.1.b.2.1 b.2.1.c.1 b.2.1.c.2 b.b:=λ_ _ b=>by kernel_rfl
theorem adH [ax]:SC (IG mY):=s0 (.c aip (.c K0 (.nil _))) (adG o9 jc)
def IH:=qa (pr (cu az8 gW) aEj)
def wX:=qe axZ
abbrev II:=wX.B
abbrev IJ:=Int->NI->NI->(Nat->Bool)->NI->NI->NI->Int->Option II
def IK (g:IJ):Ct:=(43,FC IH (lf wX) (λb=>g b.1 b.2.1.1 b.2.1.2.1 b.2.1.b.1 b.2.1.b.2.1 b.2.1.c.1 b.2.1.c.2 b.b))
def eE:=qs (st (pr (cu az8 (c ai (us 3 (c ai (us 2 aJ7))))) (pl (cl lO nil) nil)))
def FH:=qs (st (pr (cu az8 (c ai (us 3 (c ai (us 2 aKe))))) (pl (cl lO nil) nil)))
abbrev lA:=FH.B
def FI {ρ:Type}:=@ef lA ((.ex 0)) FH ρ
def v8 (kP:tp)(d:eE.B):PL eE lA:=let n3:=d.1.1;let n2:=d.2.1.2.2;let n1:=d.1.2;let y0:=wt n1.2;let y1:=y0*6;let y2:=wI (n1.2+1);let y3:=decide (n1.2<6);ae y3 (ae (aX n1.2 6) (ae (wl (2+y1+1) 36) (ae (n2.1 y0) (ae (wl (0+y1+6) 36) (opt (kP n3 (d.2.1.1 y0) (d.2.1.2.1 y0) (n2.1 y0) (n2.2.1 y0) (n2.2.2.1 y0) (n2.2.2.2 y0)) λaj=>ae (!aj) (ae (!decide (n1.2<0)) (ret (ws ((n3,wI (n1.1+wI (1*2^min y0 64)),y2),d.2))) no) (ret (ws ((n3,n1.1,y2),d.2)))) no) (ret (ws ((n3,n1.1,y2),d.2)))) no) no) (ret (wr ((n3,n1.1,n1.2,y3),d.2)))
def wb:=bC (v8 jc) 2000
def zw (ew:LT eE lA)(x0:Int)(x1:Nat->Int)(x2:Nat->Int)(x3:Nat->Bool)(x4:Nat->Int)(x5:Nat->Int)(x6:Nat->Int)(x7:Int):Pg II:=opt (ew ((x0,0,0),(x1,x2,x3,x4,x5,x6),x7)) λd=>ret d.1.2.1
def mZ:=λx0 x1 x2 x3 x4 x5 x6 x7=>(zw wb x0 x1 x2 x3 x4 x5 x6 x7).val
abbrev rL:=tp×(LT eE lA)
def zA (p:rL):KK:=⟨[AK p.1],⟨[⟨3,(2::3::4::6::7::rg 9 13 (rg 26 7 (rg 22 4 []))),[]⟩],[fV 3 1 eE FI p.2],[],[],(some ⟨0,(rg 0 4 (rg 5 28 [])),[]⟩)⟩,1,43⟩
theorem VF (p:rL):LI (zA p) 3 eE FI (v8 p.1):=λ_ d c K=>by kernel_rfl
theorem adI (p:rL):D2 (zA p) IH (lf wX) λb=>zw p.2 b.1 b.2.1.1 b.2.1.2.1 b.2.1.b.1 b.2.1.b.2.1 b.2.1.c.1 b.2.1.c.2 b.b:=λb=>by kernel_rfl
abbrev zB:rL:=(jc,wb)
theorem adJ [ax]:SC (IK mZ):=sc (kS (k:=zA zB) (.c K0 (.nil _)) [3] [] ⟨kL (VF zB),trivial⟩ trivial (adI zB))
def NY:=qa (pu (cu az8 nil) aEj)
def Cj:=qe aKg
abbrev NZ:=Cj.B
abbrev N3:=NI->NI->(Nat->Bool)->NI->NI->NI->Int->Option NZ
def N4 (g:N3):Ct:=(44,FC NY (lf Cj) (λb=>g b.1.1 b.1.2.1 b.1.b.1 b.1.b.2.1 b.1.c.1 b.1.c.2 b.2))
def D6 (x0:Nat->Int)(x1:Nat->Int)(x2:Nat->Bool)(x3:Nat->Int)(x4:Nat->Int)(x5:Nat->Int)(x6:Int):Pg NZ:=ret (decide (x6>=10))
def p8:=λx0 x1 x2 x3 x4 x5 x6=>(D6 x0 x1 x2 x3 x4 x5 x6).val
theorem akV:D0 [] 44 NY (lf Cj) λb=>D6 b.1.1 b.1.2.1 b.1.b.1 b.1.b.2.1 b.1.c.1 b.1.c.2 b.2:=λb=>by kernel_rfl
theorem akW [ax]:SC (N4 p8):=s0 (.nil _) akV
def FJ:=qa (pr (cu az8 (c (aa aKd) (cl (aa aKd) nil))) aEj)
def uo:=qe (res (pu V4 (pl (cl aEi nil) nil)))
abbrev FK:=uo.B
abbrev FL:=Bool->Int->Int->Bool->Int->Int->NI->NI->(Nat->Bool)->NI->NI->NI->Int->Option FK
def FM (g:FL):Ct:=(230,FC FJ (lf uo) (λb=>g b.1.1.1 b.1.1.2.1 b.1.1.b b.1.2.1 b.1.b.1 b.1.b.2 b.2.1.1 b.2.1.2.1 b.2.1.b.1 b.2.1.b.2.1 b.2.1.c.1 b.2.1.c.2 b.b))
def wc (x0:Bool)(x1:Int)(x2:Int)(x3:Bool)(x4:Int)(x5:Int)(x6:Nat->Int)(x7:Nat->Int)(x8:Nat->Bool)(x9:Nat->Int)(gx:Nat->Int)(gy:Nat->Int)(Aq:Int):Pg FK:=let y0:=wI (Aq+1);let y1:=wI (Aq-1);ae (decide (x1>0)) (ae (decide (x4>0)) (ae (!x0) (ae (!x3) (ret ((x6,x7,x8,x9,gx,gy),if 1000<y0 then 1000 else y0)) (ret ((x6,x7,x8,x9,gx,gy),if 0>y1 then 0 else y1))) (ret ((x6,x7,x8,x9,gx,gy),if 0>y1 then 0 else y1))) (ae (decide (x1<0)) (ae (!x0) (ae (!x3) (ae (decide (x4<0)) (ret ((x6,x7,x8,x9,gx,gy),if 1000<y0 then 1000 else y0)) (ret ((x6,x7,x8,x9,gx,gy),if 0>y1 then 0 else y1))) (ret ((x6,x7,x8,x9,gx,gy),if 0>y1 then 0 else y1))) (ret ((x6,x7,x8,x9,gx,gy),if 0>y1 then 0 else y1))) (ae (!x0) (ae (!x3) (ret ((x6,x7,x8,x9,gx,gy),if 0>y1 then 0 else y1)) (ret ((x6,x7,x8,x9,gx,gy),if 0>y1 then 0 else y1))) (ret ((x6,x7,x8,x9,gx,gy),if 0>y1 then 0 else y1))))) (ae (decide (x1<0)) (ae (!x0) (ae (!x3) (ae (decide (x4<0)) (ret ((x6,x7,x8,x9,gx,gy),if 1000<y0 then 1000 else y0)) (ret ((x6,x7,x8,x9,gx,gy),if 0>y1 then 0 else y1))) (ret ((x6,x7,x8,x9,gx,gy),if 0>y1 then 0 else y1))) (ret ((x6,x7,x8,x9,gx,gy),if 0>y1 then 0 else y1))) (ae (!x0) (ae (!x3) (ret ((x6,x7,x8,x9,gx,gy),if 0>y1 then 0 else y1)) (ret ((x6,x7,x8,x9,gx,gy),if 0>y1 then 0 else y1))) (ret ((x6,x7,x8,x9,gx,gy),if 0>y1 then 0 else y1))))
def jd:=λx0 x1 x2 x3 x4 x5 x6 x7 x8 x9 gx gy Aq=>(wc x0 x1 x2 x3 x4 x5 x6 x7 x8 x9 gx gy Aq).val
theorem YJ:D0 [] 230 FJ (lf uo) λb=>wc b.1.1.1 b.1.1.2.1 b.1.1.b b.1.2.1 b.1.b.1 b.1.b.2 b.2.1.1 b.2.1.2.1 b.2.1.b.1 b.2.1.b.2.1 b.2.1.c.1 b.2.1.c.2 b.b:=λb=>by kernel_rfl
theorem YK [ax]:SC (FM jd):=s0 (.nil _) YJ
end Go.Proofs.YtldgljclcgaibaaGreat
namespace Go.Proofs.YtldgljclcgaibaaGreat
open Go.Ab Go.Ab.Pg
instance aTu (x0:Nat->Int)(x1:Nat->Int)(x2:Nat->Int)(x3:Int)(x4:Bool):bp (yc x0 x1 x2 x3 x4):=by
 unfold yc MG;refine aG ?_;rw[bD];intro d1 _;refine ay (anL _ (by simp)) λd _ hd=> ?_;refine ay (anK _ (by simp)) λd _ hd=> ?_;simp only[bO]
instance a3k (x0 x1 x2:Int):bp (Ft x0 x1 x2):=by
 have h1:=pS x0;have h2:=pS x1;obtain⟨a,b,e,_,_⟩:=DJ (sat x0) (sat x0) (by omega) (by omega) (by omega) (by omega);unfold Ft X8;refine aG ?_;rw[p6,bX,p6,bX,aK];refine⟨λ_=>by rw[av];trivial,λc1=> ?_⟩;rw[aK];refine⟨λ_=>by rw[av];trivial,λc2=> ?_⟩;rw[aK];refine⟨λ_=>by rw[av];trivial,λc3=> ?_⟩;have c1:=qk c1;have c2:=qk c2
 have sq:0<=x2*x2/\x2*x2<=1000000:=by
  refine⟨JL (by omega) (by omega),?_⟩;have:=On (show x2<=1000 by omega) (show x2<=1000 by omega) (by omega) (by omega);omega
 have w1:wI (x2*x2)=x2*x2:=dS;have w2:wI (x2*x2*65536)=x2*x2*65536:=dS;obtain⟨a2,b2,e2,_,_⟩:=DJ (x2*x2*65536) (sat x1) (by omega) (by omega) (by omega) (by omega);rw[e,bX,w1,w2,e2,bX];simp only[bO]
theorem aDn (p:Nat×Bool)(a b:Int):∀(d:pL.B) (hd:0<=d.1.2.2.2/\d.1.2.2.2<=24/\d.1.1=p/\d.1.2.1=a/\d.1.2.2.1=b),Ok (X' d) (λx:Fu=>x.1.1=p/\x.1.2.1=a/\x.1.2.2.1=b):=
 bq (λd:pL.B=>wt (24-d.1.2.2.2)) (λd hd=>by
  have hw:wI (d.1.2.2.2+1)=d.1.2.2.2+1:=aY;unfold X9;simp only[bO];simp only[nf,tW,hw];repeat' (first|exact True.intro|exact hd.2.2.1|exact hd.2.2.2.1|exact hd.2.2.2.2|omega|(intro _)|(apply And.intro))) (λd hd=>by omega)
theorem aDo:∀(d:pM.B) (hd:0<=d.1.2.2/\d.1.2.2<=d.1.2.1/\d.1.2.1<=1999/\d.1.2.1=((d.1.1.1:Nat):Int)),Ok (Yb d) (λx:Fv=>True):=
 bq (λd:pM.B=>wt (d.1.2.1-d.1.2.2)) (λd hd=>by
  unfold Ya;try dsimp only
  rw[aK];refine⟨λh=> ?_,λ_=>by simp only[av,lP]⟩;have h:=dq h;have hw:wI (d.1.2.2+1)=d.1.2.2+1:=aY;rw[bJ,aM,bJ];refine⟨by simp only[bk];omega,rfl,?_⟩;refine ay (aDn d.1.1 d.1.2.1 d.1.2.2 _ (by simp)) λx _ hx=> ?_;obtain⟨a1,a2,a3⟩:=hx;simp only[bO,a1,a2,a3,hw];omega) (λd hd=>by omega)
theorem aLT (x:MJ.B)(h:x.1.2.1<=1999):bp (MK x):=by
 unfold MK ahW;refine aG ?_;rw[aK,aM,bJ];refine⟨λ_=>by simp only[bO],λ_=>⟨rfl,?_⟩⟩;refine ay (aDo _ (hdN x.1.2.1 h)) λd _ hd=> ?_;simp only[av]
instance a1C (x0:Nat->Int)(x1:Nat->Int)(x2:Nat->Int)(x3:Nat->Int)(x4:Int)(x5:Int)(x6:Int)(x7:Bool):bp (Ru x0 x1 x2 x3 x4 x5 x6 x7):=by
 have ta:=λ(d:Nat->Int) a b=>aLT ((d,1,true),a,b) (by show 1<=1999;omega)
 unfold Ru anE;refine aG ?_;simp only[bO]
theorem aGA (n:Int):∀(d:sC.B) (hd:0<=d.1.2.2.2/\d.1.2.2.2<=d.1.2.2.1/\d.1.2.2.1<=1999/\d.1.2.2.1=((d.1.2.1.1:Nat):Int)/\(d.1.1:Int)=d.1.2.2.2/\d.1.2.2.1=n),Ok (adb d) (λx:Iv=>(x.1.1:Int)=n):=
 bq (λd:sC.B=>wt (d.1.2.2.1-d.1.2.2.2)) (λd hd=>by
  have hw:wI (d.1.2.2.2+1)=d.1.2.2.2+1:=aY;unfold ada;simp only[bO];simp only[nf,tW,hw];repeat' (first|exact True.intro|omega|(intro _)|(apply And.intro))) (λd hd=>by omega)
theorem aLU (x:Rx.B)(h:x.1.2.2.1<=1999):Ok (Ry x) (λr:aa9=>r.1.2.2=x.1.2.2.1):=by
 unfold Ry anM;show PQ _ _;rw[aM,bJ,bJ];refine⟨rfl,rfl,?_⟩;refine ay (aGA ((x.1.2.2.1:Nat):Int) _ ?_) λd _ hd=> ?_
 .dsimp only;simp only[cF];exact⟨by omega,by omega,by omega,trivial,rfl,trivial⟩
 .rw[av];exact Int.ofNat.inj hd
theorem azx:∀(d:nL.B) (hd:0<=d.1.2.2.2.2/\d.1.2.2.2.2<=d.1.2.2.2.1/\d.1.2.2.2.1<=1999/\d.1.2.2.2.1=((d.1.2.2.1.1:Nat):Int)),Ok (TR d) (λx:Dh=>True):=
 bq (λd:nL.B=>wt (d.1.2.2.2.1-d.1.2.2.2.2)) (λd hd=>by
  have hw:wI (d.1.2.2.2.2+1)=d.1.2.2.2.2+1:=aY;unfold TQ;simp only[bO];simp only[nf,oJ,tW,hw];repeat' (first|exact True.intro|omega|(intro _)|(apply And.intro))) (λd hd=>by omega)
theorem ar7 (x0:Nat)(x1:Nat->Bool)(x2:Nat->Int)(x3:Nat->Int)(w0:Bool)(h:x0<=1999):bp (zf x0 x1 x2 x3 w0):=by
 unfold zf adg;refine aG ?_;rw[aM,bJ];refine⟨rfl,?_⟩;refine ay (azx _ (hdN x0 h)) λd _ hd=> ?_;simp only[bO]
instance aUM:bp eG:=by
 unfold eG Pc;exact aG (by simp only[bO])
theorem azy:∀(d:nM.B) (hd:0<=d.1.2.2.2.2/\d.1.2.2.2.2<=d.1.2.2.2.1/\d.1.2.2.2.1<=1999/\d.1.2.2.2.1=((d.1.2.2.1.1:Nat):Int)/\(d.1.1:Int)<=d.1.2.2.2.2/\(d.1.2.1:Int)<=d.1.2.2.2.2/\d.1.2.2.2.1<=1900),Ok (TT d) (λx:Di=>x.1.1<=1900/\x.1.2.1<=1900):=
 bq (λd:nM.B=>wt (d.1.2.2.2.1-d.1.2.2.2.2)) (λd hd=>by
  have hw:wI (d.1.2.2.2.2+1)=d.1.2.2.2.2+1:=aY;unfold TS;simp only[bO];simp only[nf,oJ,tW,hw];repeat' (first|exact True.intro|omega|(intro _)|(apply And.intro))) (λd hd=>by omega)
theorem aH5 (x0:Nat)(x1:Bool)(x2:Nat->Int)(x3:Nat->Int)(x4:Nat->Int)(x5:Nat->Int)(x6:Nat->Int)(x7:Nat->Int)(x8:Nat->Int)(x9:Nat->Int)(gx:Nat->Int)(gy:Nat->Int)(w0:Bool)(h:x0<=1900):bp (Iw x0 x1 x2 x3 x4 x5 x6 x7 x8 x9 gx gy w0):=by
 unfold Iw adk;try dsimp only
 refine aG ?_;rw[bD];intro d1 _;rw[aM,bJ,bJ];refine⟨rfl,rfl,?_⟩;refine ay (azy _ ?_) λd _ hd=> ?_
 .try dsimp only
  simp only[cF];exact⟨by omega,by omega,by omega,trivial,by omega,by omega,by omega⟩
 .have t1:=λa b c e g=>ah1 d.1.1 a b c e g hd.1
  have t2:=λa b c e g=>ah1 d.1.2.1 a b c e g hd.2
  simp only[bO,aM,Lo,DU]
instance a3l (x0 x1:Nat->Int)(x2:Int)(x4:Bool)(x5:Nat->Int)(w0:Bool):bp (de x0 x1 x2 4 x4 x5 w0):=MQ _ _ _ _ _ _ _ (by omega)
instance a3m (x0 x1:Nat->Int)(x2:Int)(x4:Bool)(x5:Nat->Int)(w0:Bool):bp (de x0 x1 x2 3 x4 x5 w0):=MQ _ _ _ _ _ _ _ (by omega)
instance a3n (x0 x1:Nat->Int)(x2:Int)(x4:Bool)(x5:Nat->Int)(w0:Bool):bp (de x0 x1 x2 2 x4 x5 w0):=MQ _ _ _ _ _ _ _ (by omega)
instance a3o (x0 x1:Nat->Int)(x2:Int)(x4:Bool)(x5:Nat->Int)(w0:Bool):bp (de x0 x1 x2 1 x4 x5 w0):=MQ _ _ _ _ _ _ _ (by omega)
instance a0l (x0:Nat->Int)(x1:Nat->Int)(x2:Nat->Int)(x3:Int)(x4:Int)(x5:Bool):bp (MT x0 x1 x2 x3 x4 x5):=by
 unfold MT ah3;exact aG (by simp only[bO])
theorem axm:∀(d:mz.B) (hd:0<=d.1.2.2.2.2/\d.1.2.2.2.2<=d.1.2.2.2.1/\d.1.2.2.2.1<=1999/\d.1.2.2.2.1=((d.1.2.2.1.1:Nat):Int)/\(d.1.2.1:Int)=d.1.2.2.2.2/\0<=d.1.1/\d.1.1+d.1.2.2.2.1<=24),Ok (Pe d) (λx:AF=>True):=
 bq (λd:mz.B=>wt (d.1.2.2.2.1-d.1.2.2.2.2)) (λd hd=>by
  have hw:wI (d.1.2.2.2.2+1)=d.1.2.2.2.2+1:=aY;unfold Pd;try dsimp only
  have h1:wI (d.1.1+d.1.2.2.2.2)=d.1.1+d.1.2.2.2.2:=dS;simp only[h1];simp only[bO];simp only[nf,oJ,tW,hw];repeat' (first|exact True.intro|omega|(intro _)|(apply And.intro))) (λd hd=>by omega)
theorem YL (x0:Nat->Int)(x1:Int)(x2:Nat)(x3:Bool)(x4:Nat->Int)(w0:Bool)(h0:0<=x1)(h1:x1+(x2:Int)<=24):bp (jO x0 x1 x2 x3 x4 w0):=by
 unfold jO Yf;refine aG ?_;rw[bD];intro d1 _;rw[aM,bJ,bJ];refine⟨rfl,rfl,?_⟩;refine ay (axm _ ?_) λd _ hd=> ?_
 .dsimp only;simp only[cF];exact⟨by omega,by omega,by omega,trivial,rfl,h0,h1⟩
 .simp only[bO]
def akh (a:Int)(n:Nat)(f:Nat->Int):Nat->Int:=λj=>bif ww j (n+1) then a else bif ww j n then a else f j
theorem sum_add (a b:Int)(n:Nat)(hn:n<=1000)(f g:Nat->Int):mX a b n n f g=some ((n+2,n+2),akh a n f,akh b n g):=by
 have hb:wl ((n+2)*8) 140737488355328=true:=by rw[bW];omega
 simp only[mX,Yl,bN,cg,fe,hb,bn];rfl
theorem aUN (a b:Int)(f g:Nat->Int):mX a b 0 0 f g=some ((2,2),akh a 0 f,akh b 0 g):=sum_add a b 0 (by omega) f g
theorem aUO (a b:Int)(f g:Nat->Int):mX a b 2 2 f g=some ((4,4),akh a 2 f,akh b 2 g):=sum_add a b 2 (by omega) f g
theorem aUP (a b:Int)(f g:Nat->Int):mX a b 4 4 f g=some ((6,6),akh a 4 f,akh b 4 g):=sum_add a b 4 (by omega) f g
theorem aUQ (a b:Int)(f g:Nat->Int):mX a b 6 6 f g=some ((8,8),akh a 6 f,akh b 6 g):=sum_add a b 6 (by omega) f g
theorem aUR (a b:Int)(f g:Nat->Int):mX a b 8 8 f g=some ((10,10),akh a 8 f,akh b 8 g):=sum_add a b 8 (by omega) f g
instance a5y (fA:Bool)(f g:Nat->Int)(w w':Bool):bp (bz 30 6 6 fA f g w w'):=MP 6 (by omega) fA f g w w'
instance a5z (fA:Bool)(f g:Nat->Int)(w w':Bool):bp (bz 30 8 8 fA f g w w'):=MP 8 (by omega) fA f g w w'
instance a4f (fA:Bool)(f g:Nat->Int)(w w':Bool):bp (bz 30 10 10 fA f g w w'):=MP 10 (by omega) fA f g w w'
instance aZK (x0:Int)(x1:Int)(x2:Int)(x3:Int)(x4:Int)(x5:Int)(x6:Int)(x7:Bool):bp (zh x0 x1 x2 x3 x4 x5 x6 x7):=by
 unfold zh adp;try dsimp only
 exact aG (by simp only[bO,aUN,aUO,aUP,aUQ,aUR,bX,aM,Oo,Lo,DU])
instance aZL (x0:Int)(x1:Int)(x2:Int)(x3:Int)(x4:Int)(x5:Int)(x6:Int)(x7:Int)(x8:Int):bp (zj x0 x1 x2 x3 x4 x5 x6 x7 x8):=by
 unfold zj ads;exact aG (by simp only[bO])
instance aZM (x0:Int)(x1:Int)(x2:Int):bp (gO x0 x1 x2):=by
 unfold gO Iz;exact aG (by simp only[bO])
instance a0m (x0:Int)(x1:Int)(x2:Int)(x3:Int)(x4:Int)(x5:Int)(x6:Int)(x7:Int)(x8:Int):bp (MX x0 x1 x2 x3 x4 x5 x6 x7 x8):=by
 unfold MX ah5;exact aG (by simp only[bO])
instance aUS (x0:Int):bp (AG x0):=by
 unfold AG Pj;exact aG (by simp only[bO])
instance a0n (x0:Int)(x1:Int)(x2:Int)(x3:Int)(x4:Int)(x5:Int)(x6:Int)(x7:Int)(x8:Int)(x9:Bool):bp (Cc x0 x1 x2 x3 x4 x5 x6 x7 x8 x9):=by
 unfold Cc ah9;exact aG (by simp only[bO])
theorem at8:∀(d:lx.B) (hd:0<=d.1.2.2/\d.1.2.2<=d.1.2.1/\d.1.2.1<=1999/\d.1.2.1=((d.1.1.1:Nat):Int)),Ok (M0 d) (λx:yj=>True):=
 bq (λd:lx.B=>wt (d.1.2.1-d.1.2.2)) (λd hd=>by
  have hw:wI (d.1.2.2+1)=d.1.2.2+1:=aY;unfold MZ;simp only[bO];simp only[nf,oJ,tW,hw];repeat' (first|exact True.intro|omega|(intro _)|(apply And.intro))) (λd hd=>by omega)
theorem aDp (x0:Nat)(x1:Nat->Int)(w0:Bool)(h:x0<=1999):bp (pN x0 x1 w0):=by
 unfold pN TW;refine aG ?_;rw[aM,bJ];refine⟨rfl,?_⟩;refine ay (at8 _ (hdN x0 h)) λd _ hd=> ?_;simp only[bO]
instance a4g (x1:Nat->Int)(w0:Bool):bp (pN 1 x1 w0):=aDp _ _ _ (by omega)
theorem vF (x0:Nat->Int)(x1:Int)(x2:Int)(x3:Int)(x4:Int)(x5:Bool)(h0:0<=x1)(h1:x1<24):bp (eH x0 x1 x2 x3 x4 x5):=by
 have hr:aX x1 24=true:=by simp only[bk];omega
 unfold eH Pm;exact aG (by simp only[bO,hr,Lo,DU])
instance a0o (x0:Nat->Int)(x2 x3 x4:Int)(x5:Bool):bp (eH x0 4 x2 x3 x4 x5):=vF _ _ _ _ _ _ (by omega) (by omega)
instance a0p (x0:Nat->Int)(x2 x3 x4:Int)(x5:Bool):bp (eH x0 5 x2 x3 x4 x5):=vF _ _ _ _ _ _ (by omega) (by omega)
instance a0q (x0:Nat->Int)(x2 x3 x4:Int)(x5:Bool):bp (eH x0 6 x2 x3 x4 x5):=vF _ _ _ _ _ _ (by omega) (by omega)
instance a0r (x0:Nat->Int)(x2 x3 x4:Int)(x5:Bool):bp (eH x0 7 x2 x3 x4 x5):=vF _ _ _ _ _ _ (by omega) (by omega)
instance a0s (x0:Nat->Int)(x2 x3 x4:Int)(x5:Bool):bp (eH x0 8 x2 x3 x4 x5):=vF _ _ _ _ _ _ (by omega) (by omega)
instance a0t (x0:Nat->Int)(x2 x3 x4:Int)(x5:Bool):bp (eH x0 9 x2 x3 x4 x5):=vF _ _ _ _ _ _ (by omega) (by omega)
instance a5A (fA:Bool)(l:Nat->Int)(w:Bool):bp (cU 4 fA l w):=aLA 4 (by omega) fA l w
instance a3p (fA:Bool)(f:Nat->Int)(w:Bool):bp (gB 2 fA f w):=aGi 2 (by omega) fA f w
instance aUT (x0:Nat->Int)(x1:Int)(x2:Int)(x3:Int)(x4:Int)(x5:Int)(x6:Int)(x7:Int)(x8:Int)(x9:Int)(gx:Bool):bp (AH x0 x1 x2 x3 x4 x5 x6 x7 x8 x9 gx):=by
 unfold AH Pp;exact aG (by simp only[bO,pX])
instance aTv (x0:Int)(x1:Int)(x2:Int)(x3:Int)(x4:Int)(x5:Int)(x6:Int)(x7:Int)(x8:Bool):bp (kn x0 x1 x2 x3 x4 x5 x6 x7 x8):=by
 unfold kn M4;exact aG (by simp only[bO,pX])
instance aR5 (x:vV.B):bp (vX x):=by
 unfold vX J0;exact aG (by simp only[bO,pX])
instance aYU (x:Fy.B):bp (Fz x):=by
 unfold Fz Yu;try dsimp only
 exact aG (by simp only[bO,pX])
instance aR6 (x0:Int):bp (vY x0):=by
 unfold vY J2;exact aG (by simp only[bO,pX])
instance aYV (x0:Int)(x1:Int)(x2:Int)(x3:Int)(x4:Int)(x5:Int)(x6:Int)(x7:Int)(x8:Int)(x9:Int)(gx:Int)(gy:Bool):bp (vZ x0 x1 x2 x3 x4 x5 x6 x7 x8 x9 gx gy):=by
 unfold vZ YB;exact aG (by simp only[bO,pX])
instance aR7 (x0:Int)(x1:Int)(x2:Int)(x3:Int)(x4:Int)(x5:Int)(x6:Int)(x7:Int)(x8:Int)(x9:Bool):bp (nw x0 x1 x2 x3 x4 x5 x6 x7 x8 x9):=by
 unfold nw J5;exact aG (by simp only[bO,pX])
instance aYW (x0:Nat->Int)(x1:Int)(x2:Int)(x3:Int)(x4:Bool):bp (FA x0 x1 x2 x3 x4):=by
 unfold FA YF;exact aG (by simp only[bO,pX])
instance aPC (x0:Int)(x1:Int)(x2:Int)(x3:Int)(x4:Int)(x5:Int)(x6:Int)(x7:Int)(x8:Int)(x9:Bool):bp (mn x0 x1 x2 x3 x4 x5 x6 x7 x8 x9):=by
 unfold mn HK;exact aG (by simp only[bO,pX])
instance aVz (x0:Nat->Int)(x1:Int)(x2:Int)(x3:Int)(x4:Int)(x5:Bool):bp (Dj x0 x1 x2 x3 x4 x5):=by
 unfold Dj T2;try dsimp only
 exact aG (by simp only[bO,pX])
instance aVA (x0:Int):bp (Dk x0):=by
 unfold Dk T5;exact aG (by simp only[bO,pX])
instance a1D (x0:Int)(x1:Int)(x2:Int)(x3:Int)(x4:Int)(x5:Int)(x6:Int)(x7:Int)(x8:Int)(x9:Bool):bp (ym x0 x1 x2 x3 x4 x5 x6 x7 x8 x9):=by
 unfold ym an6;exact aG (by simp only[bO,pX])
instance a1E (x0:Nat->Int)(x1:Int)(x2:Int)(x3:Int)(x4:Int)(x5:Int)(x6:Bool):bp (RB x0 x1 x2 x3 x4 x5 x6):=by
 unfold RB aoa;try dsimp only
 exact aG (by simp only[bO,pX])
instance aZN (x0:Int)(x1:Int)(x2:Int)(x3:Bool):bp (zn x0 x1 x2 x3):=by
 unfold zn adz;exact aG (by simp only[bO,pX])
instance aYX (x0:Nat->Int)(x1:Int)(x2:Int)(x3:Int)(x4:Int)(x5:Int)(x6:Int)(x7:Int)(x8:Bool):bp (FD x0 x1 x2 x3 x4 x5 x6 x7 x8):=by
 unfold FD YH;try dsimp only
 exact aG (by simp only[bO,pX])
instance a0u (x0:Int)(x1:Int)(x2:Int)(x3:Int)(x4:Int)(x5:Int)(x6:Int)(x7:Int)(x8:Int)(x9:Bool):bp (M6 x0 x1 x2 x3 x4 x5 x6 x7 x8 x9):=by
 unfold M6 aid;exact aG (by simp only[bO,pX])
instance aVB (x0:Int):bp (Dl x0):=by
 unfold Dl T7;exact aG (by simp only[bO,pX])
instance a1F (x0:Int)(x1:Int)(x2:Int)(x3:Int)(x4:Int)(x5:Int)(x6:Int)(x7:Int)(x8:Int)(x9:Bool):bp (FE x0 x1 x2 x3 x4 x5 x6 x7 x8 x9):=by
 unfold FE aok;exact aG (by simp only[bO,pX])
instance aVC (x0:Nat->Int)(x1:Bool):bp (tM x0 x1):=by
 unfold tM T9;exact aG (by simp only[bO,pX])
instance a0v (x0:Int)(x1:Int)(x2:Int)(x3:Nat->Int)(x4:Int)(x5:Int)(x6:Int):bp (Ce x0 x1 x2 x3 x4 x5 x6):=by
 unfold Ce aih;exact aG (by simp only[bO,pX])
instance aVD (x0:Nat->Int)(x1:Int)(x2:Int)(x3:Int)(x4:Bool):bp (Dn x0 x1 x2 x3 x4):=by
 unfold Dn T';exact aG (by simp only[bO,pX])
instance aVE (x0:Nat->Int)(x1:Int)(x2:Int)(x3:Bool):bp (Dp x0 x1 x2 x3):=by
 unfold Dp Uc;try dsimp only
 exact aG (by simp only[bO,pX])
instance aUU (x0:Int):bp (AI x0):=by
 unfold AI PA;exact aG (by simp only[bO,pX])
instance a0w (x0:Int)(x1:Int)(x2:Int)(x3:Int)(x4:Int)(x5:Int)(x6:Int)(x7:Int)(x8:Int)(x9:Bool):bp (Cf x0 x1 x2 x3 x4 x5 x6 x7 x8 x9):=by
 unfold Cf aim;exact aG (by simp only[bO,pX])
instance aUV (x0:Nat->Int)(x1:Bool):bp (AJ x0 x1):=by
 unfold AJ PD;exact aG (by simp only[bO,pX])
instance a0x (x0:Nat->Int)(x1:Int)(x2:Int)(x3:Int)(x4:Int)(x5:Int)(x6:Bool):bp (Cg x0 x1 x2 x3 x4 x5 x6):=by
 unfold Cg VB;try dsimp only
 exact aG (by simp only[bO,pX])
instance a0y (x0:Int):bp (o9 x0):=by
 unfold o9 VE;exact aG (by simp only[bO,pX])
instance aOG (x0:Int)(x1:Int)(x2:Int)(x3:Bool):bp (ly x0 x1 x2 x3):=by
 unfold ly yo;exact aG (by simp only[bO,pX])
instance aOH (x0:Int)(x1:Int)(x2:Bool):bp (lz x0 x1 x2):=by
 unfold lz yp;exact aG (by simp only[bO,pX])
instance aMC (x0:Int)(x1:Int)(x2:Int)(x3:Int)(x4:Bool):bp (p7 x0 x1 x2 x3 x4):=by
 unfold p7 D5;exact aG (by simp only[bO,pX])
instance aJy (x0:Int)(x1:Int)(x2:Int)(x3:Bool)(x4:Int)(x5:Int)(x6:Int):bp (jc x0 x1 x2 x3 x4 x5 x6):=by
 unfold jc AL;exact aG (by simp only[bO,pX])
instance aMD (x0:Nat->Int)(x1:Nat->Int)(x2:Nat->Bool)(x3:Nat->Int)(x4:Nat->Int)(x5:Nat->Int)(x6:Int):bp (p8 x0 x1 x2 x3 x4 x5 x6):=by
 unfold p8 D6;exact aG (by simp only[bO,pX])
instance aGB (x0:Bool)(x1:Int)(x2:Int)(x3:Bool)(x4:Int)(x5:Int)(x6:Nat->Int)(x7:Nat->Int)(x8:Nat->Bool)(x9:Nat->Int)(gx:Nat->Int)(gy:Nat->Int)(Aq:Int):bp (jd x0 x1 x2 x3 x4 x5 x6 x7 x8 x9 gx gy Aq):=by
 unfold jd wc;exact aG (by simp only[bO,pX])
end Go.Proofs.YtldgljclcgaibaaGreat
