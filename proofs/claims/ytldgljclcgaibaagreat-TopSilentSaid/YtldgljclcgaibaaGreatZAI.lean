/-
  Parts of the proof: Q4 QS
-/
import Derived.Test.YtldgljclcgaibaaGreatZAE
import Derived.Test.YtldgljclcgaibaaGreatZAH
open Nat renaming beq→ww,ble→wd,blt→v6
open Int renaming toNat→ws,ofNat→wl
open Sum renaming inl→wr,inr→wn,elim→t8
set_option linter.all false
set_option maxRecDepth 100000
set_option maxHeartbeats 4000000
noncomputable section
namespace Go.Proofs.YtldgljclcgaibaaGreat
open Go.Ab Go.Ab.Pg Go.Ab.Rq
def IC:=qa (pr (cu aAh jb) aEr)
def yk:=qe (res (pu (app 1 6) (pu aab (cl aW7 nil))))
abbrev At:=yk.B
abbrev ID:=Int->NI->NI->(Nat->Bool)->NI->NI->NI->Int->Option At
def IE (g:ID):Ct:=(45,FC IC (lf yk) (λb=>g b.1 b.2.1.1 b.2.1.2.1 b.2.1.b.1 b.2.1.b.2.1 b.2.1.c.1 b.2.1.c.2 b.b))
def sP (lM:VZ)(x0:Int)(x1:Nat->Int)(x2:Nat->Int)(x3:Nat->Bool)(x4:Nat->Int)(x5:Nat->Int)(x6:Nat->Int)(x7:Int):Pg At:=opt (lM x0) λd=>ae (!d) (ret (0,0,false,0,0,0)) (ae (bk x0 6) (ae (wd (0+ws x0*6+6) 36) (ret ((x1,x2,x3,x4,x5,x6).1 (ws x0),(x2,x3,x4,x5,x6).1 (ws x0),(x3,x4,x5,x6).1 (ws x0),(x4,x5,x6).1 (ws x0),x5 (ws x0),x6 (ws x0))) no) no)
def kQ:=λx0 x1 x2 x3 x4 x5 x6 x7=>(sP qu x0 x1 x2 x3 x4 x5 x6 x7).val
theorem adW:∀lM,D0 [V0 lM] 45 IC (lf yk) λb=>sP lM b.1 b.2.1.1 b.2.1.2.1 b.2.1.b.1 b.2.1.b.2.1 b.2.1.c.1 b.2.1.c.2 b.b:=λ_ b=>by kernel_rfl
theorem adX [ax]:SC (IE kQ):=s0 (.c ain (.nil _)) (adW qu)
def axl:=qa (pr (cu aQ agj) bF)
def adY:=qe (res (pr (aa ayc) (pl nd nil)))
abbrev aio:=adY.B
abbrev vk:=NI->Int->Bool->Option aio
def GN (g:vk):Ct:=(103,FC axl (lf adY) (λb=>g b.1.1 b.1.2 b.2))
def V3 (aO:fP)(bf:eJ)(bG:mL)(x0:Nat->Int)(x1:Int)(x2:Bool):Pg aio:=opt (aO x0 x2) λd=>opt (bf d.1) λaj=>opt (bG d.1 4) λaC=>opt (bG d.1 7) λbC=>ret ((x1,aj.1,aj.2.1,aj.2.2.1,aj.2.2.2,aC.1,aC.2.1,aC.2.2,bC),d.2)
def lN:=λx0 x1 x2=>(V3 cw bp cM x0 x1 x2).val
theorem aMg:∀aO bf bG,D0 [jP aO,ke bf,sG bG] 103 axl (lf adY) λb=>V3 aO bf bG b.1.1 b.1.2 b.2:=λ_ _ _ b=>by kernel_rfl
theorem Nx [ax]:SC (GN lN):=s0 (.c kP (.c lK (.c vQ (.nil _)))) (aMg cw bp cM)
def asn:=qa (pl (c mc (cl aRM nil)) nil)
def YY:=qe aRs
abbrev aso:=YY.B
abbrev D8:=NI->Int->Int->Int->Int->Int->Int->Int->Int->Int->Int->Int->Option aso
def Rl (g:D8):Ct:=(105,FC asn (lf YY) (λb=>g b.1 b.2.1 b.b.1.1 b.b.1.2.1 b.b.1.b.1 b.b.1.b.2 b.b.2.1.1 b.b.2.1.2.1 b.b.2.1.b b.c.1 b.c.2.1 b.c.b))
def adZ (cZ:Ag)(x0:Nat->Int)(x1:Int)(x2:Int)(x3:Int)(x4:Int)(x5:Int)(x6:Int)(x7:Int)(x8:Int)(x9:Int)(fG:Int)(fD:Int):Pg aso:=opt (cZ x0 0 4 (cr x2 [x5,x4,x3,x2]) false) λd=>opt (cZ d 4 3 (cr x6 [x8,x7,x6]) false) λd=>opt (cZ d 7 3 (cr x9 [fD,fG,x9]) false) λd=>ret d
def mM:=λx0 x1 x2 x3 x4 x5 x6 x7 x8 x9 fG fD=>(adZ fe x0 x1 x2 x3 x4 x5 x6 x7 x8 x9 fG fD).val
theorem aIk:∀cZ,D0 [DY cZ] 105 asn (lf YY) λb=>adZ cZ b.1 b.2.1 b.b.1.1 b.b.1.2.1 b.b.1.b.1 b.b.1.b.2 b.b.2.1.1 b.b.2.1.2.1 b.b.2.1.b b.c.1 b.c.2.1 b.c.b:=λ_ b=>by kernel_rfl
theorem ad3 [ax]:SC (Rl mM):=s0 (.c Ik (.nil _)) (aIk fe)
def asp:=qa (pl ab3 nil)
def YZ:=qe Fa
abbrev IF:=YZ.B
abbrev asq:=Int->Int->Int->Int->Int->Int->Int->Int->Option IF
def asr (g:asq):Ct:=(101,FC asp (lf YZ) (λb=>g b.1 b.2.1 b.b.1.1 b.b.1.2.1 b.b.1.b b.b.2.1 b.c.1 b.c.2))
def ib:=qs (st (pr (us 1 (cu aaf (us 2 (cl ai (us 21 aRo))))) (pl (cl Fe nil) nil)))
def abA:=qs (st (pu (us 2 (cu mP (us 37 nil))) (pu nil nil)))
def abB:=qs (st (pr (us 1 (cu aaf (us 2 (c ai (cl ab (us 20 aRo)))))) (pl (cl Fe nil) nil)))
abbrev qO:=abA.B⊕abB.B
def akg {ρ:Type}(x:qO)(K:AX->St->Option ρ):Option ρ:=(t8 (λd=>K .ret (abA.em d)) (λd=>K (.ex 0) (abB.em d))) x
def yK (dK:O4)(d:ib.B):PL ib qO:=let n2:=d.2.2.2;let n1:=n2.2.2.2;let y0:=bk d.1 3;let y1:=d.1==1;let y2:=d.1==2;let y3:=decide (d.1<3);ae y3 (ae y0 (ae y2 (opt (dK n2.2.2.1) λaj=>ae (decide (aj>34359738368)) (ret (wn (wr ()))) (ae y0 (ae y2 (opt (dK n1.2.2) λaC=>ae (decide (aC>34359738368)) (ret (wn (wr ()))) (ret (wr (wI (d.1+1),d.2)))) (ae y1 (opt (dK n1.2.1) λaC=>ae (decide (aC>34359738368)) (ret (wn (wr ()))) (ret (wr (wI (d.1+1),d.2)))) (opt (dK n1.1) λaC=>ae (decide (aC>34359738368)) (ret (wn (wr ()))) (ret (wr (wI (d.1+1),d.2)))))) no)) (ae y1 (opt (dK n2.2.1) λaj=>ae (decide (aj>34359738368)) (ret (wn (wr ()))) (ae y0 (ae y2 (opt (dK n1.2.2) λaC=>ae (decide (aC>34359738368)) (ret (wn (wr ()))) (ret (wr (wI (d.1+1),d.2)))) (ae y1 (opt (dK n1.2.1) λaC=>ae (decide (aC>34359738368)) (ret (wn (wr ()))) (ret (wr (wI (d.1+1),d.2)))) (opt (dK n1.1) λaC=>ae (decide (aC>34359738368)) (ret (wn (wr ()))) (ret (wr (wI (d.1+1),d.2)))))) no)) (opt (dK n2.1) λaj=>ae (decide (aj>34359738368)) (ret (wn (wr ()))) (ae y0 (ae y2 (opt (dK n1.2.2) λaC=>ae (decide (aC>34359738368)) (ret (wn (wr ()))) (ret (wr (wI (d.1+1),d.2)))) (ae y1 (opt (dK n1.2.1) λaC=>ae (decide (aC>34359738368)) (ret (wn (wr ()))) (ret (wr (wI (d.1+1),d.2)))) (opt (dK n1.1) λaC=>ae (decide (aC>34359738368)) (ret (wn (wr ()))) (ret (wr (wI (d.1+1),d.2)))))) no)))) no) (ret (wn (wn ((d.1,y3),d.2))))
def DH:=bj (yK uf) 2000
def Au (eI:LT ib qO)(x0:Int)(x1:Int)(x2:Int)(x3:Int)(x4:Int)(x5:Int)(x6:Int)(x7:Int):Pg IF:=opt (eI (0,x0,x1,x2,x3,x4,x5,x6,x7)) λx=>sum x (λd=>ret false) λd=>ae (decide (d.2.2.1>=1)) (ae (decide (d.2.2.1<=100000)) (ae (decide (d.2.1>=0)) (ret (decide (d.2.1<=1125899906842624))) (ret false)) (ret false)) (ret false)
def jQ:=λx0 x1 x2 x3 x4 x5 x6 x7=>(Au DH x0 x1 x2 x3 x4 x5 x6 x7).val
abbrev Rm:=O4×(LT ib qO)
def ad4 (p:Rm):KK:=⟨[aeJ p.1],⟨[⟨2,(0::2::5::6::7::rg 9 4 (rg 20 6 (29::30::34::35::39::3::8::rg 13 7 []))),[]⟩],[gv 2 0 ib akg p.2],[],[],(some ⟨0,(0::1::rg 3 37 []),[]⟩)⟩,0,101⟩
theorem azw (p:Rm):LI (ad4 p) 2 ib akg (yK p.1):=λ_ d c K=>by kernel_rfl
theorem aIl (p:Rm):D2 (ad4 p) asp (lf YZ) λb=>Au p.2 b.1 b.2.1 b.b.1.1 b.b.1.2.1 b.b.1.b b.b.2.1 b.c.1 b.c.2:=λb=>by kernel_rfl
abbrev ad5:Rm:=(uf,DH)
theorem aIm [ax]:SC (asr jQ):=sc (kS (k:=ad4 ad5) (.c apO (.nil _)) [2] [] ⟨kL (azw ad5),trivial⟩ trivial (aIl ad5))
def vY:=qa (pr (cu aQ (c (aa aEp) ab3)) bF)
def Y0:=qe (res (pr (aa ax9) (pl nd nil)))
abbrev Rn:=Y0.B
abbrev ass:=vY.B->Option Rn
def ast (g:ass):Ct:=(102,FC vY (lf Y0) g)
def D9 (ej:Cp)(x:vY.B):Pg Rn:=let n2:=x.1.2.2.2;let n1:=x.1.1.2.2;opt (ej 2 x.2 (cr n1.1.1 [n2.1.1,n1.1.1]) (cr n1.1.2.1 [n2.1.2.1,n1.1.2.1]) (cr n1.1.2.2 [n2.1.2.2,n1.1.2.2]) true) λd=>opt (ej 2 d.2 (cr n1.2.1 [n2.2.1,n1.2.1]) (cr n1.2.2.1 [n2.2.2.1,n1.2.2.1]) (cr n1.2.2.2 [n2.2.2.2,n1.2.2.2]) true) λaj=>ret ((x.1.2.1,wI (x.1.1.2.1+x.1.2.2.1),d.1.1,d.1.2.1,d.1.2.2,aj.1),aj.2)
def sQ:=λx=>(D9 ml x).val
theorem aIn:∀ej,D0 [J0 ej] 102 vY (lf Y0) λb=>D9 ej b:=λ_ b=>by kernel_rfl
theorem aIo [ax]:SC (ast sQ):=s0 (.c Pd (.nil _)) (aIn ml)
def fw:=qa (pr (cu (app 0 10) (cu RD ab3)) (c oJ bF))
def Ep:=qe (res (pr (sZ (c (ra ax9) (c (rc cb) agb))) (pl (c (zX oJ) nd) nil)))
abbrev pe:=Ep.B
abbrev FT:=fw.B->Option pe
def Sf (g:FT):Ct:=(62,FC fw (lf Ep) g)
def jX (Ro:asq)(Rp:ass)(x:fw.B):Pg pe:=let n3:=x.1.2.2;let n2:=x.2.1;let n1:=(Rp ((n2.2.1,x.1),x.2.2));opt (Ro x.1.1 x.1.2.1 n3.1.1 n3.1.2.1 n3.1.2.2 n3.2.1 n3.2.2.1 n3.2.2.2) λd=>ae (!d) (ret (((0,0,0,0,0,0,0,0),false,1),x.2)) (ae n2.2.2 (ae (decide (x.1.1<=n2.2.1.1)) (ret (((0,0,0,0,0,0,0,0),false,1),x.2)) (opt n1 λd=>let n4:=d.1.2;ae (decide (n4.1<n2.1)) (ret (((0,0,0,0,0,0,0,0),false,0),(n2.1,(d.1.1,n4.1,(n4.2.1,n4.2.2.1,n4.2.2.2.1),n4.2.2.2.2),true),d.2)) (ret ((d.1,true,0),(n2.1,(x.1.1,0,(0,0,0),0,0,0),true),d.2)))) (opt n1 λd=>let n5:=d.1.2;ae (decide (n5.1<n2.1)) (ret (((0,0,0,0,0,0,0,0),false,0),(n2.1,(d.1.1,n5.1,(n5.2.1,n5.2.2.1,n5.2.2.2.1),n5.2.2.2.2),true),d.2)) (ret ((d.1,true,0),(n2.1,(x.1.1,0,(0,0,0),0,0,0),true),d.2))))
def dD:=λx=>(jX jQ sQ x).val
theorem aol:∀Ro Rp,D1 [asr Ro,ast Rp] [0,1] 62 fw (lf Ep) λb=>jX Ro Rp b:=λ_ _ b=>by kernel_rfl
theorem aom [ax]:SC (Sf dD):=s0 (.c aIm (.c aIo (.nil _))) (aol jQ sQ)
def fZ:=qa (pr (cu KY (cu RD agj)) (cd agi λb0=>(c xV (cl (cl (gs b0.b jU) nil) nil))))
def xr:=qe (res (pu RB (pr (c (zX (c gi (cl gi (cu (gc (jk (pu rq7 (pu wJ (pu (szl AY) (pu BO jL)))))) nil)))) OA) (cl ayc nil))))
abbrev qX:=xr.B
abbrev ym:=fZ.B->Option qX
def G' (g:ym):Ct:=(162,FC fZ (lf xr) g)
def m8 (kj:vk)(x:fZ.B):Pg qX:=opt (kj x.1.1 x.1.2 x.2.2.1) λd=>ret (((x.2.1.1,x.2.1.2.1),d.2),d.1)
def gf:=λx=>(m8 lN x).val
theorem ZX:∀kj,D0 [GN kj] 162 fZ (lf xr) λb=>m8 kj b:=λ_ b=>by kernel_rfl
theorem ZY [ax]:SC (G' gf):=s0 (.c Nx (.nil _)) (ZX lN)
def kR:=qa (pr (cu KY (cu RD (c mc ab3))) (cd agi λb0=>(c xV (cl (cl (gs b0.b jU) nil) nil))))
def EP:=qe (res (pr ai (pl (c (zX agi) OA) nil)))
def ER:=qe (res (pu (ac aKt) (pr (c (zX aKF) (cl avh aNT)) aRO)))
abbrev oc:=EP.B⊕ER.B
def IG:oc->T:=ls (lf EP) (lf ER)
abbrev od:=kR.B->Option oc
def Av (g:od):Ct:=(63,FC kR IG g)
def sR (vZ:D8)(Ea:Q')(kj:vk)(x:kR.B):Pg oc:=let bz:=x.2.2.1;let n8:=x.2.1;let n6:=x.1.2.2;let n4:=x.2.2.2;let aW:=n4.2.2;let n2:=n8.2.2;let n1:=aW.2.2;let n5:=n1.2.2.2;let bh:=n5.2.2;let y0:=wl n2;let y1:=n2+1;let y2:=wI (y0-1);let y3:=ws y2;let y4:=y1-1;let y5:=0+y4;ae (y0==0) (ret (wr (4,n8,bz))) (ae (bk y2 n2) (ae (decide (n6.1<1)) (ret (wr (1,n8,bz))) (ae (decide (x.1.2.1<=n4.1 y3)) (ret (wr (1,n8,bz))) (opt (vZ x.1.1 (n4.1 y3) (n4.2.1 y3) (aW.1 y3) (aW.2.1 y3) (n1.1 y3) (n1.2.1 y3) (n1.2.2.1 y3) (n5.1 y3) (n5.2.1 y3) (bh.1 y3) (bh.2 y3)) λd=>opt (Ea d x.1.2.1 n6.1 n6.2.1.1 n6.2.1.2.1 n6.2.1.2.2 n6.2.2.1 n6.2.2.2.1 n6.2.2.2.2 bz) λd=>opt (kj d.1 x.1.2.1 d.2) λd=>let n7:=d.1.2.2;let n3:=n7.2.2.2;let n9:=n3.2.2.2;ae (wd (y1*88) 140737488355328) (ae (decide (wl y1>n8.1)) (ae (K0 1 y1) (ae (wd (y5*88) 140737488355328) (ret (wn (((n8.1,n8.2.1,y5),d.2),y4,λj=>let y0:=1+j;bif ww y0 n2 then d.1.1 else n4.1 y0,λj=>let y0:=1+j;bif ww y0 n2 then d.1.2.1 else n4.2.1 y0,λj=>let y0:=1+j;bif ww y0 n2 then n7.1 else aW.1 y0,λj=>let y0:=1+j;bif ww y0 n2 then n7.2.1 else aW.2.1 y0,λj=>let y0:=1+j;bif ww y0 n2 then n7.2.2.1 else n1.1 y0,λj=>let y0:=1+j;bif ww y0 n2 then n3.1 else n1.2.1 y0,λj=>let y0:=1+j;bif ww y0 n2 then n3.2.1 else n1.2.2.1 y0,λj=>let y0:=1+j;bif ww y0 n2 then n3.2.2.1 else n5.1 y0,λj=>let y0:=1+j;bif ww y0 n2 then n9.1 else n5.2.1 y0,λj=>let y0:=1+j;bif ww y0 n2 then n9.2.1 else bh.1 y0,λj=>let y0:=1+j;bif ww y0 n2 then n9.2.2 else bh.2 y0))) no) no) (ret (wn (((n8.1,n8.2.1,y1),d.2),y1,λj=>bif ww j n2 then d.1.1 else n4.1 j,λj=>bif ww j n2 then d.1.2.1 else n4.2.1 j,λj=>bif ww j n2 then n7.1 else aW.1 j,λj=>bif ww j n2 then n7.2.1 else aW.2.1 j,λj=>bif ww j n2 then n7.2.2.1 else n1.1 j,λj=>bif ww j n2 then n3.1 else n1.2.1 j,λj=>bif ww j n2 then n3.2.1 else n1.2.2.1 j,λj=>bif ww j n2 then n3.2.2.1 else n5.1 j,λj=>bif ww j n2 then n9.1 else n5.2.1 j,λj=>bif ww j n2 then n9.2.1 else bh.1 j,λj=>bif ww j n2 then n9.2.2 else bh.2 j)))) no))) no)
def iQ:=λx=>(sR mM Aj lN x).val
theorem ad6:∀vZ Ea kj,D1 [Rl vZ,adl Ea,GN kj] [0,1] 63 kR IG λb=>sR vZ Ea kj b:=λ_ _ _ b=>by kernel_rfl
theorem IH [ax]:SC (Av iQ):=s0 (.c ad3 (.c ar2 (.c Nx (.nil _)))) (ad6 mM Aj lN)
def Lj:=qa (pu (cu KY nil) (cd (c gi (c gi (cl (gc (De 1 11)) nil))) λb0=>(cl (cl (gs b0.b jU) nil) nil)))
def Aw:=qe (res (pl aXR (pu aEc nil)))
abbrev Lk:=Aw.B
abbrev Ll:=Int->Int->Nat->NI->NI->NI->NI->NI->NI->NI->NI->NI->NI->NI->Option Lk
def Ln (g:Ll):Ct:=(75,FC Lj (lf Aw) (λb=>g b.1.1 b.1.2.1 b.1.b b.2.1 b.b.1 b.b.2.1 b.c.1 b.c.2.1 b.c.b.1 b.c.b.2.1 b.d.1 b.d.2.1 b.d.b.1 b.d.b.2))
def Lo (x0:Int)(x1:Int)(x2:Nat)(x3:Nat->Int)(x4:Nat->Int)(x5:Nat->Int)(x6:Nat->Int)(x7:Nat->Int)(x8:Nat->Int)(x9:Nat->Int)(fG:Nat->Int)(fD:Nat->Int)(Ad:Nat->Int)(x13:Nat->Int):Pg Lk:=let y0:=wI (wl x2-1);let y1:=ws y0;ae (wl x2==0) (ret ((0,0,0,0,0,0,0,0,0,0,0),false)) (ae (bk y0 x2) (ret (((x3,x4,x5,x6,x7,x8,x9,fG,fD,Ad,x13).1 y1,(x4,x5,x6,x7,x8,x9,fG,fD,Ad,x13).1 y1,(x5,x6,x7,x8,x9,fG,fD,Ad,x13).1 y1,(x6,x7,x8,x9,fG,fD,Ad,x13).1 y1,(x7,x8,x9,fG,fD,Ad,x13).1 y1,(x8,x9,fG,fD,Ad,x13).1 y1,(x9,fG,fD,Ad,x13).1 y1,(fG,fD,Ad,x13).1 y1,(fD,Ad,x13).1 y1,Ad y1,x13 y1),true)) no)
def BA:=λx0 x1 x2 x3 x4 x5 x6 x7 x8 x9 fG fD Ad x13=>(Lo x0 x1 x2 x3 x4 x5 x6 x7 x8 x9 fG fD Ad x13).val
theorem afj:D0 [] 75 Lj (lf Aw) λb=>Lo b.1.1 b.1.2.1 b.1.b b.2.1 b.b.1 b.b.2.1 b.c.1 b.c.2.1 b.c.b.1 b.c.b.2.1 b.d.1 b.d.2.1 b.d.b.1 b.d.b.2:=λb=>by kernel_rfl
theorem afk [ax]:SC (Ln BA):=s0 (.nil _) afj
def lE:=qa (pu (cu aaf nil) (cd aly λb0=>(cl (cl (gs b0.b.1 aA) nil) nil)))
def CD:=qe (res (pu RB (pl (cl (zX aly) aab) nil)))
abbrev xQ:=CD.B
abbrev Er:=lE.B->Option xQ
def Ot (g:Er):Ct:=(57,FC lE (lf CD) g)
def xR (x:lE.B):Pg xQ:=ret ((wI (x.1.1.1+1),x.1.1.2.1,x.1.1.2.2.1,wI (x.1.1.2.2.2.1+1),x.1.1.2.2.2.2),x.1.2)
def jg:=λx=>(xR x).val
theorem akU:D0 [] 57 lE (lf CD) λb=>xR b:=λb=>by kernel_rfl
theorem akV [ax]:SC (Ot jg):=s0 (.nil _) akU
def aon:=qa (pl Fb nil)
def Uw:=qe Fa
abbrev aoo:=Uw.B
abbrev BB:=Int->Int->Int->Option aoo
def Y1 (g:BB):Ct:=(41,FC aon (lf Uw) (λb=>g b.1 b.2.1 b.b))
def Ny (x0:Int)(x1:Int)(x2:Int):Pg aoo:=ae (decide (x0>=x1)) (ret (decide (x0<=x2))) (ret false)
def oe:=λx0 x1 x2=>(Ny x0 x1 x2).val
theorem aGJ:D0 [] 41 aon (lf Uw) λb=>Ny b.1 b.2.1 b.b:=λb=>by kernel_rfl
theorem aoq [ax]:SC (Y1 oe):=s0 (.nil _) aGJ
def axm:=qa (pl Hp nil)
def afl:=qe aEo
def afm:=qe aXT
abbrev aip:=afl.B⊕afm.B
def axn:aip->T:=ls (lf afl) (lf afm)
abbrev aiq:=Int->Int->Int->Option aip
def axo (g:aiq):Ct:=(42,FC axm axn (λb=>g b.1 b.2.1 b.b))
def air (cN:vX)(fx:Xd)(aq:bW)(eQ:K')(im:RO)(vm:ahd)(aD:cB)(x0:Int)(x1:Int)(x2:Int):Pg aip:=opt (cN x0 x1 x2) λd=>ae (!d) (ret (wr ())) (ae (decide (x0>850000000)) (ret (wr ())) (ae (decide (x0< -850000000)) (ret (wr ())) (opt (aq x0 3373259426 1800000000 false) λd=>opt (eQ d.1 d.2) λaj=>opt (im d.1 aj.2) λd=>opt (fx aj.1 aj.1 d.2) λaC=>opt (fx 7188036 aC.1 aC.2) λbC=>let y0:=wI (1073741824-bC.1);opt (vm y0 bC.2) λcK=>opt (aD 6531212288 cK.1 30 cK.2) λfE=>opt (fx 6531212288 1066553788 fE.2) λdC=>opt (fx y0 cK.1 dC.2) λnX=>opt (aD dC.1 nX.1 30 nX.2) λtY=>opt (aq tY.1 3373259426 1800000000 tY.2) λp7=>opt (fx fE.1 d.1 p7.2) λd=>opt (aq d.1 3373259426 1800000000 d.2) λd=>ret (wn (x0,x1,x2,p7.1,d.1)))))
def zw:=λx0 x1 x2=>(air fQ wQ aP oV tw Cl bl x0 x1 x2).val
theorem aMh:∀cN fx aq eQ im vm aD,D0 [Am cN,Xe fx,dF aq,La eQ,RP im,ahe vm,gV aD] 42 axm axn λb=>air cN fx aq eQ im vm aD b.1 b.2.1 b.b:=λ_ _ _ _ _ _ _ b=>by kernel_rfl
theorem aMi [ax]:SC (axo zw):=s0 (.c D6 (.c amo (.c dS (.c RN (.c aaM (.c av3 (.c iO (.nil _)))))))) (aMh fQ wQ aP oV tw Cl bl)
def aB5:=qa (pr (cu aAf Fb) (cl atg nil))
def ais:=qe aXo
abbrev aB6:=ais.B
abbrev aor:=Int->Int->Int->NI->Option aB6
def aB7 (g:aor):Ct:=(74,FC aB5 (lf ais) (λb=>g b.1.1 b.1.2.1 b.1.b b.2))
def BC:=qs (st (pr (cu aAf (us 1 (c ai (c ai (us 4 aWs))))) (pl JD cQ)))
def aIp:=qs (st (pr (cu aAf (us 1 (c ai (c ai (us 4 (c ai (us 1 (c ai aKy)))))))) (pl JD cQ)))
abbrev Rr:=(aTs×NI)
def asu {ρ:Type}(x:Rr)(K:AX->St->Option ρ):Option ρ:=(λd=>K (.ex 0) (aIp.em ((d.1.1,d.1.2.1,d.1.b.1,d.1.b.1,d.1.1,d.1.b.2),d.2))) x
def asv (d:BC.B):PL BC Rr:=let n1:=d.1.2;let y0:=ws n1.2;let y1:=decide (n1.2<d.1.1);ae y1 (ae (bk n1.2 24) (ae (true&&wd (0+y0*1+1) 24) (ret (wr ((d.1.1,n1.1,wI (n1.2+1)),λj=>bif ww j y0 then n1.1 else d.2 j))) no) no) (ret (wn ((d.1.1,n1.1,n1.2,y1),d.2)))
def asw:=bj (asv) 2000
def aB8 (eI:LT BC Rr)(x0:Int)(x1:Int)(x2:Int)(x3:Nat->Int):Pg aB6:=opt (eI ((x1,x2,x0),x3)) λd=>ret d.2
def aos:=λx0 x1 x2 x3=>(aB8 asw x0 x1 x2 x3).val
abbrev abC:=(LT BC Rr)
def aot (p:abC):KK:=⟨[],⟨[⟨1,(1::rg 4 4 (rg 9 11 [])),[]⟩],[gv 1 1 BC asu p],[0],[],(some ⟨0,(rg 0 20 []),[]⟩)⟩,1,74⟩
theorem aGK (p:abC):LI (aot p) 1 BC asu (asv):=λ_ d c K=>by kernel_rfl
theorem aPG (p:abC):D2 (aot p) aB5 (lf ais) λb=>aB8 p b.1.1 b.1.2.1 b.1.b b.2:=λb=>by kernel_rfl
abbrev aou:abC:=asw
theorem aPH [ax]:SC (aB7 aos):=sc (kS (k:=aot aou) (.nil _) [1] [] ⟨kL (aGK aou),trivial⟩ trivial (aPG aou))
def aov:=qa (pu nil nil)
def Ux:=qe (res (pl (aa aR1) (pu nil nil)))
abbrev Y2:=Ux.B
abbrev aGL:=Option Y2
def aow (g:aGL):Ct:=(38,FC aov (lf Ux) (λ_=>g))
def uk:=qs (st (pr (cu aD9 (cu (app 1 72) (us 2 aWz))) (pl (c (so (cu aL (cu aL (cu aL (cu aL (cu aL (cu aL (cu aL (cu aL (cu aL (cu aL (cu aL (cu aL (cu aL (cu aL (cu aL (cu aL (c iM (cl iM aK3))))))))))))))))))) (cl (so aR1) nil)) nil)))
def afo:=qs (st (pr (cu aD9 (cu (app 1 72) (us 2 aWN))) (pl (c (so (cu aL (cu aL (cu aL (cu aL (cu aL (cu aL (cu aL (cu aL (cu aL (cu aL (cu aL (cu aL (cu aL (cu aL (cu aL (cu aL (c iM (cl iM aK3))))))))))))))))))) (cl (so aR1) nil)) nil)))
abbrev GO:=afo.B
def afp {ρ:Type}:=@ef GO ((.ex 0)) afo ρ
def afq (d:uk.B):PL uk GO:=let n8:=d.2.1;let n4:=d.2.2.1;let n3:=d.2.2.2;let n9:=n3.2.1;let n5:=n3.2.2.1;let n1:=n3.2.2.2;let aW:=n1.2.1;let n6:=n1.2.2.1;let n2:=n1.2.2.2;let bh:=n2.2.1;let n7:=n2.2.2;let bA:=n7.2.1;let bz:=n7.2.2;let y0:=bk d.1 6;let y1:=d.1==5;let y2:=d.1==4;let y3:=d.1==1;let y4:=d.1==3;let y5:=d.1==2;let y6:=wI (d.1+1);let y7:=decide (d.1<6);ae y7 (ae y0 (ae y1 (ae y0 (ae y1 (ret (wr (y6,n8,n4,n3.1,n9,n5,n1.1,5,n6,n2.1,bh,n7.1,bA,1000000,bz.2))) (ae y2 (ret (wr (y6,n8,n4,n3.1,n9,n5,n1.1,5,n6,n2.1,bh,n7.1,1000000,bz))) (ae y4 (ret (wr (y6,n8,n4,n3.1,n9,n5,n1.1,5,n6,n2.1,bh,1000000,n7.2))) (ae y5 (ret (wr (y6,n8,n4,n3.1,n9,n5,n1.1,5,n6,n2.1,1000000,n7))) (ae y3 (ret (wr (y6,n8,n4,n3.1,n9,n5,n1.1,5,n6,1000000,n2.2))) (ret (wr (y6,n8,n4,n3.1,n9,n5,n1.1,5,1000000,n2)))))))) no) (ae y2 (ae y0 (ae y1 (ret (wr (y6,n8,n4,n3.1,n9,n5,5,aW,n6,n2.1,bh,n7.1,bA,1000000,bz.2))) (ae y2 (ret (wr (y6,n8,n4,n3.1,n9,n5,5,aW,n6,n2.1,bh,n7.1,1000000,bz))) (ae y4 (ret (wr (y6,n8,n4,n3.1,n9,n5,5,aW,n6,n2.1,bh,1000000,n7.2))) (ae y5 (ret (wr (y6,n8,n4,n3.1,n9,n5,5,aW,n6,n2.1,1000000,n7))) (ae y3 (ret (wr (y6,n8,n4,n3.1,n9,n5,5,aW,n6,1000000,n2.2))) (ret (wr (y6,n8,n4,n3.1,n9,n5,5,aW,1000000,n2)))))))) no) (ae y4 (ae y0 (ae y1 (ret (wr (y6,n8,n4,n3.1,n9,5,n1.1,aW,n6,n2.1,bh,n7.1,bA,1000000,bz.2))) (ae y2 (ret (wr (y6,n8,n4,n3.1,n9,5,n1.1,aW,n6,n2.1,bh,n7.1,1000000,bz))) (ae y4 (ret (wr (y6,n8,n4,n3.1,n9,5,n1.1,aW,n6,n2.1,bh,1000000,n7.2))) (ae y5 (ret (wr (y6,n8,n4,n3.1,n9,5,n1.1,aW,n6,n2.1,1000000,n7))) (ae y3 (ret (wr (y6,n8,n4,n3.1,n9,5,n1.1,aW,n6,1000000,n2.2))) (ret (wr (y6,n8,n4,n3.1,n9,5,n1.1,aW,1000000,n2)))))))) no) (ae y5 (ae y0 (ae y1 (ret (wr (y6,n8,n4,n3.1,5,n5,n1.1,aW,n6,n2.1,bh,n7.1,bA,1000000,bz.2))) (ae y2 (ret (wr (y6,n8,n4,n3.1,5,n5,n1.1,aW,n6,n2.1,bh,n7.1,1000000,bz))) (ae y4 (ret (wr (y6,n8,n4,n3.1,5,n5,n1.1,aW,n6,n2.1,bh,1000000,n7.2))) (ae y5 (ret (wr (y6,n8,n4,n3.1,5,n5,n1.1,aW,n6,n2.1,1000000,n7))) (ae y3 (ret (wr (y6,n8,n4,n3.1,5,n5,n1.1,aW,n6,1000000,n2.2))) (ret (wr (y6,n8,n4,n3.1,5,n5,n1.1,aW,1000000,n2)))))))) no) (ae y3 (ae y0 (ae y1 (ret (wr (y6,n8,n4,5,n9,n5,n1.1,aW,n6,n2.1,bh,n7.1,bA,1000000,bz.2))) (ae y2 (ret (wr (y6,n8,n4,5,n9,n5,n1.1,aW,n6,n2.1,bh,n7.1,1000000,bz))) (ae y4 (ret (wr (y6,n8,n4,5,n9,n5,n1.1,aW,n6,n2.1,bh,1000000,n7.2))) (ae y5 (ret (wr (y6,n8,n4,5,n9,n5,n1.1,aW,n6,n2.1,1000000,n7))) (ae y3 (ret (wr (y6,n8,n4,5,n9,n5,n1.1,aW,n6,1000000,n2.2))) (ret (wr (y6,n8,n4,5,n9,n5,n1.1,aW,1000000,n2)))))))) no) (ae y0 (ae y1 (ret (wr (y6,n8,5,n3.1,n9,n5,n1.1,aW,n6,n2.1,bh,n7.1,bA,1000000,bz.2))) (ae y2 (ret (wr (y6,n8,5,n3.1,n9,n5,n1.1,aW,n6,n2.1,bh,n7.1,1000000,bz))) (ae y4 (ret (wr (y6,n8,5,n3.1,n9,n5,n1.1,aW,n6,n2.1,bh,1000000,n7.2))) (ae y5 (ret (wr (y6,n8,5,n3.1,n9,n5,n1.1,aW,n6,n2.1,1000000,n7))) (ae y3 (ret (wr (y6,n8,5,n3.1,n9,n5,n1.1,aW,n6,1000000,n2.2))) (ret (wr (y6,n8,5,n3.1,n9,n5,n1.1,aW,1000000,n2)))))))) no)))))) no) (ret (wn ((d.1,y7),d.2)))
def afr:=bj (afq) 2000
def aox (tC:aor)(eI:LT uk GO):Pg Y2:=opt (eI (0,(λx=>0,λx=>0),0,0,0,0,0,0,0,0,0,0,0,0,λx=>0,λx=>0)) λd=>let n3:=d.2.2.2;let n1:=n3.2.2.2.2;let n2:=n1.2.2.2.2;opt (tC 0 24 16384 n2.2.2.2.1) λaj=>opt (tC 0 4 1048576 aj) λaC=>opt (tC 4 7 17179869184 aC) λbC=>opt (tC 10 13 1024 bC) λcK=>opt (tC 13 16 65536 cK) λfE=>opt (tC 22 24 17179869184 fE) λdC=>opt (tC 0 24 17592186044416 n2.2.2.2.2) λnX=>opt (tC 0 4 68719476736 nX) λtY=>opt (tC 10 13 67108864 tY) λp7=>opt (tC 13 16 4294967296 p7) λmO=>opt (tC 16 22 17179869184 mO) λxW=>ret (d.2.2.1,n3.1,n3.2.1,n3.2.2.1,n3.2.2.2.1,n1.1,n1.2.1,n1.2.2.1,n1.2.2.2.1,n2.1,n2.2.1,n2.2.2.1,dC,xW)
def aoy:Option Y2:=(aox aos afr).val
abbrev Nz:=aor×(LT uk GO)
def Y3 (p:Nz):KK:=⟨[aB7 p.1],⟨[⟨3,(2::3::rg 5 32 []),[]⟩],[gv 3 0 uk afp p.2],[],[],(some ⟨0,(rg 1 36 []),[]⟩)⟩,0,38⟩
theorem axp (p:Nz):LI (Y3 p) 3 uk afp (afq):=λ_ d c K=>by kernel_rfl
theorem aGM (p:Nz):D2 (Y3 p) aov (lf Ux) λb=>aox p.1 p.2:=λb=>by kernel_rfl
abbrev Y4:Nz:=(aos,afr)
theorem aGN [ax]:SC (aow aoy):=sc (kS (k:=Y3 Y4) (.c aPH (.nil _)) [3] [] ⟨kL (axp Y4),trivial⟩ trivial (aGM Y4))
def abD:=qa (pr (cu aQ (c mc (c Ca (c agd jb)))) bF)
def Ks:=qe (res (pr (sZ (c alq (c atm (cl (ra (cu atf (cu aL (cu aL (cu aL (c gi (c gi (cl gi (cu aL (cu aL (cu aL (cu aQ9 nil)))))))))))) nil)))) (pl nd nil)))
abbrev NA:=Ks.B
abbrev abE:=NI->NI->NI->Int->Int->Int->Int->Bool->Option NA
def abF (g:abE):Ct:=(250,FC abD (lf Ks) (λb=>g b.1.1 b.1.2.1.1 b.1.2.1.2 b.1.b.1.1 b.1.b.1.2.1 b.1.b.1.b b.1.b.2 b.2))
def ES (aO:fP)(iy:Nc)(cm:mY)(bX:qj)(x0:Nat->Int)(x1:Nat->Int)(x2:Nat->Int)(x3:Int)(x4:Int)(x5:Int)(x6:Int)(x7:Bool):Pg NA:=opt (aO x0 x7) λd=>opt (iy d.1 4 3 d.2 (cr x3 [x5,x4,x3]) false) λd=>let n3:=d.1.2;let n2:=d.2.1;let n1:=d.2.2;opt cm λaj=>ae (wd 3 n3) (opt (bX x1 x2 4 3 n2 (cr x6 [x6,x6,x6]) true) λaC=>ret (((d.1,n2,n3,n1).1.1,aC.1,n1 0,n1 1,n1 2),aC.2)) (ae (wd 2 n3) (opt (bX x1 x2 4 3 n2 (cr x6 [x6,x6,x6]) true) λaC=>ret (((d.1,n2,n3,n1).1.1,aC.1,n1 0,n1 1,0),aC.2)) (ae (wd 1 n3) (opt (bX x1 x2 4 3 n2 (cr x6 [x6,x6,x6]) true) λaC=>ret (((d.1,n2,n3,n1).1.1,aC.1,n1 0,0,0),aC.2)) (opt (bX x1 x2 4 3 n2 (cr x6 [x6,x6,x6]) true) λaC=>ret (((d.1,n2,n3,n1).1.1,aC.1,0,0,0),aC.2))))
def zy:=λx0 x1 x2 x3 x4 x5 x6 x7=>(ES cw kG cP dU x0 x1 x2 x3 x4 x5 x6 x7).val
theorem axq:∀aO iy cm bX,D0 [jP aO,Nd iy,rM cm,Bo bX] 250 abD (lf Ks) λb=>ES aO iy cm bX b.1.1 b.1.2.1.1 b.1.2.1.2 b.1.b.1.1 b.1.b.1.2.1 b.1.b.1.b b.1.b.2 b.2:=λ_ _ _ _ b=>by kernel_rfl
theorem axr [ax]:SC (abF zy):=s0 (.c kP (.c Yx (.c wz (.c FE (.nil _))))) (axq cw kG cP dU)
def U7:=qa (pr (cu aQ (c mc (c Ca Fb))) bF)
def FU:=qe (res (pr (sZ (c alq (c atm (cl (ra (cu atf (cu aL (cu aL (cu aL (cu aL (cu aL (cu aL (c gi (c gi (cl gi aRf))))))))))) nil)))) (pl nd nil)))
abbrev HK:=FU.B
abbrev U8:=NI->NI->NI->Int->Int->Int->Bool->Option HK
def U9 (g:U8):Ct:=(251,FC U7 (lf FU) (λb=>g b.1.1 b.1.2.1.1 b.1.2.1.2 b.1.b.1 b.1.b.2.1 b.1.c b.2))
def AP (aO:fP)(iy:Nc)(cm:mY)(bX:qj)(x0:Nat->Int)(x1:Nat->Int)(x2:Nat->Int)(x3:Int)(x4:Int)(x5:Int)(x6:Bool):Pg HK:=opt (aO x0 x6) λd=>opt (iy d.1 7 2 d.2 (cr x3 [x4,x3]) true) λd=>let n3:=d.1.2;let n2:=d.2.1;let n1:=d.2.2;opt cm λaj=>ae (wd 3 n3) (opt (bX x1 x2 7 2 n2 (cr x5 [x5,x5]) true) λaC=>ret (((d.1,n2,n3,n1).1.1,aC.1,n1 0,n1 1,n1 2),aC.2)) (ae (wd 2 n3) (opt (bX x1 x2 7 2 n2 (cr x5 [x5,x5]) true) λaC=>ret (((d.1,n2,n3,n1).1.1,aC.1,n1 0,n1 1,0),aC.2)) (ae (wd 1 n3) (opt (bX x1 x2 7 2 n2 (cr x5 [x5,x5]) true) λaC=>ret (((d.1,n2,n3,n1).1.1,aC.1,n1 0,0,0),aC.2)) (opt (bX x1 x2 7 2 n2 (cr x5 [x5,x5]) true) λaC=>ret (((d.1,n2,n3,n1).1.1,aC.1,0,0,0),aC.2))))
def uR:=λx0 x1 x2 x3 x4 x5 x6=>(AP cw kG cP dU x0 x1 x2 x3 x4 x5 x6).val
theorem aqc:∀aO iy cm bX,D0 [jP aO,Nd iy,rM cm,Bo bX] 251 U7 (lf FU) λb=>AP aO iy cm bX b.1.1 b.1.2.1.1 b.1.2.1.2 b.1.b.1 b.1.b.2.1 b.1.c b.2:=λ_ _ _ _ b=>by kernel_rfl
theorem aqd [ax]:SC (U9 uR):=s0 (.c kP (.c Yx (.c wz (.c FE (.nil _))))) (aqc cw kG cP dU)
def akh:=qa (pr (cu aQ (c mc (c Ca zY))) bF)
def PZ:=qe (res (pr (sZ (c alq (c atm (cl (ra (cu atf (cu aL (cu aL (cu aL (cu aL (cu aL (cu aL (cu aL (cu aL (cl gi (cu (gc aQ5) nil)))))))))))) nil)))) (pl nd nil)))
abbrev Uy:=PZ.B
abbrev aki:=NI->NI->NI->Int->Int->Bool->Option Uy
def akj (g:aki):Ct:=(252,FC akh (lf PZ) (λb=>g b.1.1 b.1.2.1.1 b.1.2.1.2 b.1.b.1 b.1.b.2 b.2))
def Jq (aO:fP)(iy:Nc)(cm:mY)(bX:qj)(x0:Nat->Int)(x1:Nat->Int)(x2:Nat->Int)(x3:Int)(x4:Int)(x5:Bool):Pg Uy:=opt (aO x0 x5) λd=>opt (iy d.1 9 1 d.2 (λj=>bif ww j 0 then x3 else x3) true) λd=>opt cm λaj=>ae (wd 1 d.1.2) (opt (bX x1 x2 9 1 d.2.1 (λj=>bif ww j 0 then x4 else x4) true) λaC=>ret (((d.1,d.2.1,d.1.2,d.2.2).1.1,aC.1,d.2.2 0),aC.2)) (opt (bX x1 x2 9 1 d.2.1 (λj=>bif ww j 0 then x4 else x4) true) λaC=>ret (((d.1,d.2.1,d.1.2,d.2.2).1.1,aC.1,0),aC.2))
def DI:=λx0 x1 x2 x3 x4 x5=>(Jq cw kG cP dU x0 x1 x2 x3 x4 x5).val
theorem aDg:∀aO iy cm bX,D0 [jP aO,Nd iy,rM cm,Bo bX] 252 akh (lf PZ) λb=>Jq aO iy cm bX b.1.1 b.1.2.1.1 b.1.2.1.2 b.1.b.1 b.1.b.2 b.2:=λ_ _ _ _ b=>by kernel_rfl
theorem aDh [ax]:SC (akj DI):=s0 (.c kP (.c Yx (.c wz (.c FE (.nil _))))) (aDg cw kG cP dU)
def FW:=qa (pl (cl (aa ya) nil) nil)
def ait:=qe Fa
abbrev aoz:=ait.B
abbrev Sh:=FW.B->Option aoz
def aoA (g:Sh):Ct:=(13,FC FW (lf ait) g)
def mz:=qs (st (pr (us 1 (cu aD9 (cu mP (us 3 (xs 1 (cu aWP (us 4 (cu aW8 (us 4 (cu aW9 (us 4 (cu mP (us 4 (c ab (us 3 (cl ai (us 26 aX7))))))))))))))))) (pl (cl (so (c gi (c gi (c gi (c gi (c gi (c gi (c gi (c gi (c gi (c gi (c gi (c gi (c gi (c gi (c gi (c gi aRL))))))))))))))))) nil) nil)))
def akk:=qs (st (pu (us 2 (cu mP (us 119 nil))) (pu nil nil)))
def akl:=qs (st (pr (us 1 (cu aD9 (cu mP (us 3 (xs 1 (cu aWP (us 4 (cu aW8 (us 4 (cu aW9 (us 4 (cu mP (us 4 (c ab (us 3 (c ai (cl ab (us 25 aX7)))))))))))))))))) (pl (cl (so (c gi (c gi (c gi (c gi (c gi (c gi (c gi (c gi (c gi (c gi (c gi (c gi (c gi (c gi (c gi (c gi aRL))))))))))))))))) nil) nil)))
abbrev Eb:=akk.B⊕akl.B
def asx {ρ:Type}(x:Eb)(K:AX->St->Option ρ):Option ρ:=(t8 (λd=>K .ret (akk.em d)) (λd=>K (.ex 2) (akl.em d))) x
def Rs (gh:BB)(d:mz.B):PL mz Eb:=let n2:=d.1.2;let n1:=d.2.2.2.2.2.2.2.2.2.2.2.2.2.2.2.2.2;let y0:=ws n2;let y1:=bk n2 24;let y2:=wd (0+y0*1+1) 24;let y3:=decide (n2<24);ae y3 (ae y1 (ae y2 (opt (gh (n1.1 y0) 0 72057594037927936) λaj=>ae (!aj) (ret (wn (wr ()))) (ae y1 (ae y2 (opt (gh (n1.2.1 y0) 1 72057594037927936) λaC=>ae (!aC) (ret (wn (wr ()))) (ret (wr ((d.1.1,wI (n2+1)),d.2)))) no) no)) no) no) (ret (wn (wn ((d.1.1,n2,y3),d.2))))
def II:=bj (Rs oe) 2000
def abG (gh:BB)(aMj:aiq)(rn:LT mz Eb)(x:FW.B):Pg aoz:=let n2:=x.2.2.2.2;let n8:=n2.2.1;let n4:=n8.2.2;let n3:=n2.1.2.2;let n7:=n3.2.2;ae (decide (n2.1.1<1)) (ret false) (ae (decide (n2.1.1>1000)) (ret false) (opt (gh n8.1 1 1099511627776) λd=>ae (!d) (ret false) (ae (decide (n2.1.2.1<1)) (ret false) (ae (decide (n2.1.2.1>1000)) (ret false) (opt (gh n8.2.1 1 1099511627776) λd=>ae (!d) (ret false) (ae (decide (n3.1<1)) (ret false) (ae (decide (n3.1>1000)) (ret false) (opt (gh n4.1 1 1099511627776) λd=>ae (!d) (ret false) (ae (decide (n3.2.1<1)) (ret false) (ae (decide (n3.2.1>1000)) (ret false) (opt (gh n4.2.1 1 1099511627776) λd=>ae (!d) (ret false) (ae (decide (n7.1<1)) (ret false) (ae (decide (n7.1>1000)) (ret false) (opt (gh n4.2.2.1 1 1099511627776) λd=>ae (!d) (ret false) (ae (decide (n7.2<1)) (ret false) (ae (decide (n7.2>1000)) (ret false) (opt (gh n4.2.2.2 1 1099511627776) λd=>ae (!d) (ret false) (opt (rn ((d,0),x.1,x.2.1,x.2.2.1,x.2.2.2.1,n2.1.1,n2.1.2.1,n3.1,n3.2.1,n7.1,n7.2,n8.1,n8.2.1,n4.1,n4.2.1,n4.2.2.1,n4.2.2.2,n2.2.2)) λx=>sum x (λd=>ret false) λd=>let n6:=d.2.2.2;let n1:=n6.2.2.2.2.2.2.2.2.2.2.2.2.2.2.2.2;let n5:=n1.2.2.2.2;opt (aMj n5.2.1 n5.2.2.1 n5.2.2.2) λaj=>sm aj (λd=>ret false) (λaC=>opt (gh d.2.1 1000 100000) λbC=>ae bC (opt (gh d.2.2.1 0 300000) λcK=>ae cK (ae (decide (n6.1>=1)) (ae (decide (n6.1<=64)) (ae (decide (n6.2.1>=0)) (ae (decide (n6.2.1<=100)) (opt (gh n1.1 0 1099511627776) λfE=>ae fE (opt (gh n1.2.1 1 72057594037927936) λdC=>ae dC (ae (decide (n1.2.2.1>=0)) (ae (decide (n1.2.2.1<=3)) (opt (gh n1.2.2.2.1 1 1073741824) λnX=>ae nX (ae (decide (n5.1>=1)) (ret (decide (n5.1<=64))) (ret false)) (ret false)) (ret false)) (ret false)) (ret false)) (ret false)) (ret false)) (ret false)) (ret false)) (ret false)) (ret false)) (ret false))))))))))))))))))))
def pf:=λx=>(abG oe zw II x).val
abbrev abH:=BB×aiq×(LT mz Eb)
def aoB (p:abH):KK:=⟨[Y1 p.1,axo p.2.1],⟨[⟨2,(0::3::4::rg 8 4 (13::14::15::21::rg 29 8 (38::39::40::rg 48 10 [61,62,66,67,71,72,76,77,81,82,86,87,91,92,96,97,101,102,106,107,111,112,116,117,121]))),[]⟩,⟨8,(0::3::4::5::rg 8 4 (rg 13 4 (rg 18 4 (rg 23 4 (28::29::30::rg 32 5 (38::39::40::rg 48 10 (61::62::66::67::71::72::76::77::81::82::86::87::91::92::96::97::101::102::106::107::111::112::116::117::121::37::rg 41 7 []))))))),[]⟩],[gv 8 0 mz asx p.b],[],[],(some ⟨0,(0::1::rg 3 119 []),[]⟩)⟩,0,13⟩
theorem aGO (p:abH):LI (aoB p) 8 mz asx (Rs p.1):=λ_ d c K=>by kernel_rfl
theorem aPI (p:abH):D2 (aoB p) FW (lf ait) λb=>abG p.1 p.2.1 p.b b:=λb=>by kernel_rfl
abbrev aoC:abH:=(oe,zw,II)
theorem aB9 [ax]:SC (aoA pf):=sc (kS (k:=aoB aoC) (.c aoq (.c aMi (.nil _))) [2,8] [] ⟨kN,⟨kL (aGO aoC),trivial⟩⟩ trivial (aPI aoC))
def afs:=qa (dp (cu aQ (c ai (c H6 ax2))) λa=>(c xV (cl (cl (gs a.2.1.1 oT) nil) nil)))
def NB:=qe aKL
abbrev aft:=NB.B
abbrev afu:=Int->Nat->Nat->Bool->NI->Bool->Bool->Option aft
def afv (g:afu):Ct:=(73,vN 3 [.i .i64] (vN 2 [.i .i64] (FC afs (lf NB) (λb=>g b.1.1 b.1.2.1.1 b.1.b.1 b.2.1 b.b b.1.2.1.2 b.1.b.2))))
def qG:=qs (st (dp (cu aQ (c ai (c H6 (c H6 (us 5 (cu aAd aWY)))))) λa=>(pl (c cG (c (so (cl (gs a.2.1.1 oT) nil)) ab2)) cQ)))
def auk:=qs (st (pr (cu aQ (c ai (c H6 (c H6 (us 5 (cu aAd aW3)))))) (pl (c cG (c JE ab2)) cQ)))
abbrev CE:=(aWj×Bool×NI×Int×Int)
def Y5 {ρ:Type}(x:CE)(K:AX->St->Option ρ):Option ρ:=(λd=>K (.ex 0) (auk.em (d.1,d.2.1,(d.1.2.1.1,d.b.1),d.b.2))) x
def CF (aw:bQ)(cW:oU)(yX:tv)(d:qG.B):PL qG CE:=let y0:=decide (d.1.2.2.2.2<d.1.2.2.2.1);ae y0 (ae (bk d.1.2.2.2.2 d.1.2.1.1) (opt (aw (d.2.2.1 (ws d.1.2.2.2.2)) d.2.1) λaj=>ae (bk d.1.2.2.2.2 d.1.2.2.1.1) (opt (aw (d.2.2.1 (ws d.1.2.2.2.2)) aj.2) λaC=>opt (cW aj.1 aC.1) λbC=>opt (yX 2 (λj=>bif ww j 1 then bC.1 else bif ww j 0 then d.2.2.2.1 else d.2.2.2.1) (λj=>bif ww j 1 then bC.2 else bif ww j 0 then d.2.2.2.2 else d.2.2.2.2) true) λcK=>ret (wr ((d.1.1,d.1.2.1,d.1.2.2.1,d.1.2.2.2.1,wI (d.1.2.2.2.2+1)),aC.2,d.2.2.1,cK.1))) no) no) (ret (wn ((d.1.1,d.1.2.1,d.1.2.2.1,d.1.2.2.2.1,d.1.2.2.2.2,y0),d.2)))
def Kt:=bj (CF aM fY kU) 2000
def P1 (jC:yD)(eI:LT qG CE)(x0:Int)(x1:Nat)(x2:Nat)(x3:Bool)(x4:Nat->Int)(w0:Bool)(w1:Bool):Pg aft:=let y0:=if wl x2<wl x1 then wl x2 else wl x1;ae (decide (x0<0)) (opt (jC 0 0 x0 x3) λd=>ret d) (ae (decide (x0>120)) (opt (jC 0 0 x0 x3) λd=>ret d) (ae (ww x1 x1) (opt (eI ((x0,(x1,w0),(x2,w1),if 100<y0 then 100 else y0,0),x3,x4,0,0)) λd=>opt (jC d.2.2.2.1 d.2.2.2.2 d.1.1 d.2.1) λd=>ret d) no))
def rO:=λx0 x1 x2 x3 x4 w0 w1=>(P1 ot Kt x0 x1 x2 x3 x4 w0 w1).val
abbrev GP:=yD×bQ×oU×tv×(LT qG CE)
def P3 (p:GP):KK:=⟨[IY p.1,dG p.2.1,yQ p.b.1,K9 p.b.2.1],⟨[⟨5,(rg 4 5 (rg 10 15 (rg 27 26 []))),[]⟩],[gv 5 2 qG Y5 p.c],[0],[],(some ⟨0,(rg 0 8 (rg 9 44 [])),[]⟩)⟩,2,73⟩
theorem aqe (p:GP):LI (P3 p) 5 qG Y5 (CF p.2.1 p.b.1 p.b.2.1):=λ_ d c K=>by kernel_rfl
theorem azx (p:GP):D2 (P3 p) afs (lf NB) λb=>P1 p.1 p.c b.1.1 b.1.2.1.1 b.1.b.1 b.2.1 b.b b.1.2.1.2 b.1.b.2:=λb=>by kernel_rfl
abbrev P4:GP:=(ot,aM,fY,kU,Kt)
theorem azy [ax]:SC (afv rO):=sc (Sound.nil 3 [.i .i64]<|Sound.nil 2 [.i .i64]<|kS (k:=P3 P4) (.c Tw (.c dN (.c BT (.c RM (.nil _))))) [5] [] ⟨kL (aqe P4),trivial⟩ trivial (azx P4))
def Y6:=qa (pr (cu aQ (c mc Fb)) bF)
def HL:=qe aEt
abbrev Ku:=HL.B
abbrev Y7:=NI->Int->Int->Int->Bool->Option Ku
def Y8 (g:Y7):Ct:=(234,FC Y6 (lf HL) (λb=>g b.1.1 b.1.2.1 b.1.b.1 b.1.b.2 b.2))
def CG (bG:mL)(GQ:afu)(sJ:acN)(aY:dt)(dB:yW)(aD:cB)(x0:Nat->Int)(x1:Int)(x2:Int)(x3:Int)(x4:Bool):Pg Ku:=opt (bG x0 16) λd=>opt (GQ 30 2 2 x4 (cr d.1 [d.2.1,d.1]) false false) λaj=>ae (decide (aj.1<1048576)) (ret (((λx=>0,0,0,0),4),aj.2)) (opt (sJ d.2.1 d.1 aj.2) λaC=>opt (aY x1 aC.1 aC.2) λbC=>opt (dB bC.1) λcK=>opt (aD d.2.1 aj.1 30 bC.2) λfE=>opt (aD d.1 aj.1 30 fE.2) λd=>ret (((λj=>bif ww j 17 then d.1 else bif ww j 16 then wI (0-fE.1) else 0,cK,x2,x3),0),d.2))
def xt:=λx0 x1 x2 x3 x4=>(CG cM rO Ae bu fM bl x0 x1 x2 x3 x4).val
theorem aul:∀bG GQ sJ aY dB aD,D0 [sG bG,afv GQ,acO sJ,iP aY,Cm dB,gV aD] 234 Y6 (lf HL) λb=>CG bG GQ sJ aY dB aD b.1.1 b.1.2.1 b.1.b.1 b.1.b.2 b.2:=λ_ _ _ _ _ _ b=>by kernel_rfl
theorem aum [ax]:SC (Y8 xt):=s0 (.c vQ (.c azy (.c arF (.c jN (.c Gs (.c iO (.nil _))))))) (aul cM rO Ae bu fM bl)
def iT:=qa (pr (cl aRM (cu aQ (cu (app 1 10) nil))) (cu aQ3 (c Ef bF)))
def uD:=qe (res (pr (aa ayc) (pl aRj nil)))
abbrev vn:=uD.B
abbrev pC:=iT.B->Option vn
def vo (g:pC):Ct:=(180,FC iT (lf uD) g)
def pD (ej:Cp)(jf:BW)(fq:zb)(bw:jo)(x:iT.B):Pg vn:=let n2:=x.2.1;let n6:=n2.1.2;let n1:=x.1.2;let n5:=n1.1.2;let n4:=n1.2.2;let n3:=n1.2.1;opt (ej 2 x.2.2 (cr n3.1 [n2.2.1.1,n3.1]) (cr n3.2.1 [n2.2.1.2.1,n3.2.1]) (cr n3.2.2 [n2.2.1.2.2,n3.2.2]) true) λd=>opt (ej 2 d.2 (cr n4.1 [n2.2.2.1,n4.1]) (cr n4.2.1 [n2.2.2.2.1,n4.2.1]) (cr n4.2.2 [n2.2.2.2.2,n4.2.2]) true) λaj=>opt jf λaC=>ae (!(n2.1.1==1073741824&&(n6.1==0&&(n6.2.1==0&&(n6.2.2==0&&true))))) (opt (fq n2.1.1 n6.1 n6.2.1 n6.2.2 n1.1.1 n5.1 n5.2.1 n5.2.2 aj.2) λbC=>opt (bw bC.1.1 bC.1.2.1 bC.1.2.2.1 bC.1.2.2.2 bC.2) λcK=>ret ((x.1.1,cK.1.1,cK.1.2.1,cK.1.2.2.1,cK.1.2.2.2,d.1.1,d.1.2.1,d.1.2.2,aj.1),cK.2)) (ret ((x.1.1,n1.1.1,n5.1,n5.2.1,n5.2.2,d.1.1,d.1.2.1,d.1.2.2,aj.1),aj.2))
def iU:=λx=>(pD ml jV mm dH x).val
theorem V4:∀ej jf fq bw,D0 [J0 ej,Lc jf,FA fq,ov bw] 180 iT (lf uD) λb=>pD ej jf fq bw b:=λ_ _ _ _ b=>by kernel_rfl
theorem ET [ax]:SC (vo iU):=s0 (.c Pd (.c RT (.c Ld (.c qg (.nil _))))) (V4 ml jV mm dH)
def gO:=qa (pr (cl aRM (cu aQ (cu aNS (cu (app 2 1) (cu alm (cu (app 4 4) nil)))))) (cu (cu (gp 5 1) nil) (c mQ (cu (cu (gp 6 3) nil) (c mQ (c agf (c xV (cd aKG λb6=>(cl (cl (gs b6.b jU) nil) nil)))))))))
def rP:=qe (res (pr (aa ayc) (pl (cu fR (cu fR (cu fR (cu fR (cu fR (cl avh aEc)))))) nil)))
abbrev tD:=rP.B
abbrev nx:=gO.B->Option tD
def tE (g:nx):Ct:=(183,FC gO (lf rP) g)
def ny (jr:VB)(ej:Cp)(fq:zb)(bw:jo)(x:gO.B):Pg tD:=let n3:=x.1.2.1;let n2:=x.2.2;let n1:=x.1.2.2;opt (jr x.2.1.1 x.2.1.2.1 x.2.1.2.2 n2.2.2.2.1.2.1 n2.2.2.1) λd=>opt (ej 2 d.2 (cr n1.1.1 [d.1.1,n1.1.1]) (cr n1.1.2.1 [d.1.2.1,n1.1.2.1]) (cr n1.1.2.2 [d.1.2.2,n1.1.2.2]) true) λd=>opt (jr n2.1.1 n2.1.2.1 n2.1.2.2 n2.2.2.2.1.2.1 d.2) λaj=>opt (ej 2 aj.2 (cr n1.2.1 [aj.1.1,n1.2.1]) (cr n1.2.2.1 [aj.1.2.1,n1.2.2.1]) (cr n1.2.2.2 [aj.1.2.2,n1.2.2.2]) true) λaC=>opt (fq n2.2.1.1 n2.2.1.2.1 n2.2.1.2.2.1 n2.2.1.2.2.2 n3.1 n3.2.1 n3.2.2.1 n3.2.2.2 aC.2) λbC=>opt (bw bC.1.1 bC.1.2.1 bC.1.2.2.1 bC.1.2.2.2 bC.2) λcK=>ret ((x.1.1,cK.1.1,cK.1.2.1,cK.1.2.2.1,cK.1.2.2.2,d.1.1,d.1.2.1,d.1.2.2,aC.1),cK.2)
def gP:=λx=>(ny uZ ml mm dH x).val
theorem Si:∀jr ej fq bw,D0 [VC jr,J0 ej,FA fq,ov bw] 183 gO (lf rP) λb=>ny jr ej fq bw b:=λ_ _ _ _ b=>by kernel_rfl
theorem BX [ax]:SC (tE gP):=s0 (.c ahm (.c Pd (.c Ld (.c qg (.nil _))))) (Si uZ ml mm dH)
def iV:=qa (pu (cu KY (cu RD (cu aRP nil))) (cd aKG λb0=>(c xV (cu ate (c mQ (cu aWB (c mQ (c agf (cl (cl (gs b0.b jU) nil) nil)))))))))
def uF:=qe (res (pu RB (pl (cu fR (c avh (cu fR (cu fR (cu fR aXW))))) nil)))
abbrev pE:=uF.B
abbrev vp:=iV.B->Option pE
def EU (g:vp):Ct:=(179,FC iV (lf uF) g)
def dk:=qs (st (dp (cu KY (cu RD (cu aRP (us 8 (c (ac (De 7 11)) aRb))))) λv=>(pl (c (so aKG) (c cG (cu ab0 (c zZ (cu ax4 (c zZ (c xY (cl (so (cl (gs v.1 jU) nil)) nil)))))))) (cu (nat 7) axZ))))
def Sj:=qs (st (pr (cu KY (cu RD (cu aRP (us 8 (c (ac (De 7 11)) aRg))))) (pl (c (so aKG) (c cG (cu ab0 (c zZ (cu ax4 (c zZ (c xY Hr))))))) (cu (nat 7) axZ))))
abbrev gQ:=((Nat×Int×Int×Bool)×tZ×Bool×lG×lG×aI2×NI×NI×NI×NI×NI×NI×NI×NI×NI×NI×NI)
def BY {ρ:Type}(x:gQ)(K:AX->St->Option ρ):Option ρ:=(λd=>K (.ex 0) (Sj.em (d.1,d.2.1,d.b.1,d.b.2.1,d.c.1,d.c.2.1,d.1.1,d.c.b))) x
def nA (vZ:D8)(kj:vk)(Sk:nx)(d:dk.B):PL dk gQ:=let bh:=d.2.1;let n6:=d.1.2;let n5:=d.2.2.2;let n1:=n5.2.2.2;let n8:=n1.2.2;let n2:=n8.2.2.2;let n7:=n2.2.2.2;let y0:=ws n6.2;let y1:=decide (n6.2<n6.1);ae y1 (ae (bk n6.2 d.1.1) (ae (ww bh.2.2 bh.2.2) (opt (Sk ((n1.1 y0,(n1.2.1 y0,n8.1 y0,n8.2.1 y0,n8.2.2.1 y0),(n2.1 y0,n2.2.1 y0,n2.2.2.1 y0),n7.1 y0,n7.2.1 y0,n7.2.2 y0),n5.1,n5.2.1,n5.2.2.1,d.2.2.1,bh,n1)) λaj=>let n3:=aj.1.2.2.2.2;let n9:=n3.2.2.2;opt (vZ (λx=>0) aj.1.1 aj.1.2.1 aj.1.2.2.1 aj.1.2.2.2.1 n3.1 n3.2.1 n3.2.2.1 n9.1 n9.2.1 n9.2.2.1 n9.2.2.2) λaC=>opt (kj aC (n1.1 y0) aj.2) λbC=>let n4:=bC.1.2.2.2.2;let aW:=n4.2.2.2;ae (bk n6.2 bh.2.2) (ae (true&&wd (0+y0*11+11) (d.1.1*11+0)) (ret (wr ((d.1.1,n6.1,wI (n6.2+1)),bh,bC.2,n5.1,n5.2.1,n5.2.2.1,λj=>bif ww j y0 then bC.1.1 else n1.1 j,λj=>bif ww j y0 then bC.1.2.1 else n1.2.1 j,λj=>bif ww j y0 then bC.1.2.2.1 else n8.1 j,λj=>bif ww j y0 then bC.1.2.2.2.1 else n8.2.1 j,λj=>bif ww j y0 then n4.1 else n8.2.2.1 j,λj=>bif ww j y0 then n4.2.1 else n2.1 j,λj=>bif ww j y0 then n4.2.2.1 else n2.2.1 j,λj=>bif ww j y0 then aW.1 else n2.2.2.1 j,λj=>bif ww j y0 then aW.2.1 else n7.1 j,λj=>bif ww j y0 then aW.2.2.1 else n7.2.1 j,λj=>bif ww j y0 then aW.2.2.2 else n7.2.2 j))) no) no) no) no) (ret (wn ((d.1.1,n6.1,n6.2,y1),d.2)))
def tF:=bj (nA mM lN gP) 2000
def pF (eI:LT dk gQ)(x:iV.B):Pg pE:=ae (ww x.1.2.2 x.1.2.2) (opt (eI ((x.1.2.2,wl x.1.2.2,0),x)) λd=>ret (d.2.2.1,d.1.1,d.2.2.2.2.2.2)) no
def lO:=λx=>(pF tF x).val
abbrev pG:=D8×vk×nx×(LT dk gQ)
def vr (p:pG):KK:=⟨[Rl p.1,GN p.2.1,tE p.b.1],⟨[⟨1,(rg 3 8 (rg 14 20 [])),[]⟩],[gv 1 8 dk BY p.b.2],[7,1],[],(some ⟨0,(rg 0 34 []),[]⟩)⟩,8,179⟩
theorem P5 (p:pG):LI (vr p) 1 dk BY (nA p.1 p.2.1 p.b.1):=λ_ d c K=>by kernel_rfl
theorem V5 (p:pG):D2 (vr p) iV (lf uF) λb=>pF p.b.2 b:=λb=>by kernel_rfl
abbrev vu:pG:=(mM,lN,gP,tF)
theorem V6 [ax]:SC (EU lO):=sc (kS (k:=vr vu) (.c ad3 (.c Nx (.c BX (.nil _)))) [1] [] ⟨kL (P5 vu),trivial⟩ trivial (V5 vu))
def iW:=qa (pu (cu KY (cu RD (cu aRw nil))) (cd aRk λb0=>(c xV (cu ate (c Ef (cl (cl (gs b0.b jU) nil) nil))))))
def uG:=qe (res (pu RB (pl (cu fR (c avh aXW)) nil)))
abbrev pH:=uG.B
abbrev vv:=iW.B->Option pH
def EV (g:vv):Ct:=(179,FC iW (lf uG) g)
def dm:=qs (st (dp (cu KY (cu RD (cu aRw (us 8 (c (ac (De 4 11)) aRb))))) λv=>(pl (c (so aRk) (c cG (cu ab0 (c (so Ef) (cl (so (cl (gs v.1 jU) nil)) nil))))) (cu rq6 axZ))))
def Sl:=qs (st (pr (cu KY (cu RD (cu aRw (us 8 (c (ac (De 4 11)) aRg))))) (pl (c (so aRk) (c cG (cu ab0 (c (so Ef) Hr)))) (cu rq6 axZ))))
abbrev gR:=((Nat×Int×Int×Bool)×tZ×Bool×Ed×NI×NI×NI×NI×NI×NI×NI×NI×NI×NI×NI)
def BZ {ρ:Type}(x:gR)(K:AX->St->Option ρ):Option ρ:=(λd=>K (.ex 0) (Sl.em (d.1,d.2.1,d.b.1,d.b.2.1,d.1.1,d.c))) x
def nC (vZ:D8)(kj:vk)(V7:pC)(d:dm.B):PL dm gR:=let n6:=d.1.2;let n4:=d.2.2.2.2;let n1:=n4.2.2.2;let n9:=n1.2.2;let n5:=n9.2.2;let y0:=ws n6.2;let y1:=decide (n6.2<n6.1);ae y1 (ae (bk n6.2 d.1.1) (opt (V7 ((n4.1 y0,(n4.2.1 y0,n4.2.2.1 y0,n1.1 y0,n1.2.1 y0),(n9.1 y0,n9.2.1 y0,n5.1 y0),n5.2.1 y0,n5.2.2.1 y0,n5.2.2.2 y0),d.2.2.2.1,d.2.2.1)) λaj=>let n2:=aj.1.2.2.2.2;let n7:=n2.2.2.2;opt (vZ (λx=>0) aj.1.1 aj.1.2.1 aj.1.2.2.1 aj.1.2.2.2.1 n2.1 n2.2.1 n2.2.2.1 n7.1 n7.2.1 n7.2.2.1 n7.2.2.2) λaC=>opt (kj aC (n4.1 y0) aj.2) λbC=>let n3:=bC.1.2.2.2.2;let n8:=n3.2.2.2;ae (bk n6.2 d.2.1.2.2) (ae (true&&wd (0+y0*11+11) (d.1.1*11+0)) (ret (wr ((d.1.1,n6.1,wI (n6.2+1)),d.2.1,bC.2,d.2.2.2.1,λj=>bif ww j y0 then bC.1.1 else n4.1 j,λj=>bif ww j y0 then bC.1.2.1 else n4.2.1 j,λj=>bif ww j y0 then bC.1.2.2.1 else n4.2.2.1 j,λj=>bif ww j y0 then bC.1.2.2.2.1 else n1.1 j,λj=>bif ww j y0 then n3.1 else n1.2.1 j,λj=>bif ww j y0 then n3.2.1 else n9.1 j,λj=>bif ww j y0 then n3.2.2.1 else n9.2.1 j,λj=>bif ww j y0 then n8.1 else n5.1 j,λj=>bif ww j y0 then n8.2.1 else n5.2.1 j,λj=>bif ww j y0 then n8.2.2.1 else n5.2.2.1 j,λj=>bif ww j y0 then n8.2.2.2 else n5.2.2.2 j))) no) no) no) (ret (wn ((d.1.1,n6.1,n6.2,y1),d.2)))
def tG:=bj (nC mM lN iU) 2000
def pI (eI:LT dm gR)(x:iW.B):Pg pH:=ae (ww x.1.2.2 x.1.2.2) (opt (eI ((x.1.2.2,wl x.1.2.2,0),x)) λd=>ret (d.2.2.1,d.1.1,d.2.2.2.2)) no
def lP:=λx=>(pI tG x).val
abbrev pJ:=D8×vk×pC×(LT dm gR)
def vx (p:pJ):KK:=⟨[Rl p.1,GN p.2.1,vo p.b.1],⟨[⟨1,(rg 3 8 (rg 14 20 [])),[]⟩],[gv 1 5 dm BZ p.b.2],[4,1],[],(some ⟨0,(rg 0 34 []),[]⟩)⟩,5,179⟩
theorem P6 (p:pJ):LI (vx p) 1 dm BZ (nC p.1 p.2.1 p.b.1):=λ_ d c K=>by kernel_rfl
theorem V8 (p:pJ):D2 (vx p) iW (lf uG) λb=>pI p.b.2 b:=λb=>by kernel_rfl
abbrev vy:pJ:=(mM,lN,iU,tG)
theorem V9 [ax]:SC (EV lP):=sc (kS (k:=vx vy) (.c ad3 (.c Nx (.c ET (.nil _)))) [1] [] ⟨kL (P6 vy),trivial⟩ trivial (V8 vy))
def j7:=qa (dp (cu KY (cu RD (cl aQT nil))) λv=>(cd aKF λb0=>(c xV (c (cl (gs v.1 mR) nil) (cl (cl (gs b0.b jU) nil) nil)))))
def xu:=qe (res (pu RB (pl (cu fR (c avh (cu fR aRT))) nil)))
abbrev qY:=xu.B
abbrev yo:=j7.B->Option qY
def Ha (g:yo):Ct:=(112,vN 2 [.i .i64,.i .i64,.i .i64,.i .i64,.i .i64,.i .i64,.i .i64,.i .i64,.i .i64,.i .i64] (FC j7 (lf xu) g))
def dI:=qs (st (dp (cu KY (us 3 (cu aEa (us 3 (c aQT (c ai aQ4)))))) λv=>(pl (cd (so aKF) λb0=>(c cG (c (so (cl (gs v.1.1 mR) nil)) (cl (so (cl (gs b0.b jU) nil)) (cu ab0 nil))))) (cu rq7 axZ))))
def Wa:=qs (st (pr (cu KY (us 3 (cu aEa (us 3 (c aQT (c ai aKy)))))) (pl (c (so aKF) (c cG (c uV (cl alB (cu ab0 nil))))) (cu rq7 axZ))))
abbrev iX:=(aNJ×tZ×Bool×aNI×NI×NI×NI×NI×NI×NI×NI×NI×NI×NI×NI)
def EW {ρ:Type}(x:iX)(K:AX->St->Option ρ):Option ρ:=(λd=>K (.ex 0) (Wa.em (d.1,d.2.1,d.b.1,(d.1.1.1,d.b.2.1),d.2.1.b,d.c))) x
def pK (Wb:vv)(d:dI.B):PL dI iX:=let aW:=d.2.1;let n6:=d.1.2;let n1:=d.2.2.2;let n4:=n1.1.2.2.2.2;let n3:=n1.2.2.2.2.2;let n9:=n3.2.2.2;let y0:=ws n6.2;let y1:=aW.2.2*11;let y2:=decide (n6.2<n6.1);ae y2 (ae (bk n6.2 d.1.1.1) (ae (ww aW.2.2 aW.2.2) (opt (Wb (aW,d.2.2.1,((n1.1.1 y0,n1.1.2.1 y0,n1.1.2.2.1 y0,n1.1.2.2.2.1 y0),(n4.1 y0,n4.2.1 y0,n4.2.2.1 y0),n4.2.2.2.1 y0,n4.2.2.2.2.1 y0,n4.2.2.2.2.2 y0),n1.2)) λaj=>let n7:=aj.2.2.2;let n5:=aj.2.1;let n2:=n7.2.2.2;let n8:=n2.2.2.2;let y0:=n5*11+0;ae (true&&ww y0 y1&&true) (ae (true&&wd (0+y0) (y1+0)) (ret (wr ((d.1.1,n6.1,wI (n6.2+1)),aW,aj.1,n1.1,λj=>bif true&&v6 j (0+n5) then aj.2.2.1 j else n1.2.1 j,λj=>bif true&&v6 j (0+n5) then n7.1 j else n1.2.2.1 j,λj=>bif true&&v6 j (0+n5) then n7.2.1 j else n1.2.2.2.1 j,λj=>bif true&&v6 j (0+n5) then n7.2.2.1 j else n1.2.2.2.2.1 j,λj=>bif true&&v6 j (0+n5) then n2.1 j else n3.1 j,λj=>bif true&&v6 j (0+n5) then n2.2.1 j else n3.2.1 j,λj=>bif true&&v6 j (0+n5) then n2.2.2.1 j else n3.2.2.1 j,λj=>bif true&&v6 j (0+n5) then n8.1 j else n9.1 j,λj=>bif true&&v6 j (0+n5) then n8.2.1 j else n9.2.1 j,λj=>bif true&&v6 j (0+n5) then n8.2.2.1 j else n9.2.2.1 j,λj=>bif true&&v6 j (0+n5) then n8.2.2.2 j else n9.2.2.2 j))) no) no) no) no) (ret (wn ((d.1.1,n6.1,n6.2,y2),d.2)))
def vz:=bj (pK lP) 2000
def qZ (eI:LT dI iX)(x:j7.B):Pg qY:=ae (ww x.1.1 x.1.1) (ae (ww x.2.1.2.2 x.2.1.2.2) (opt (eI ((x.1,wl x.1.1,0),x.2)) λd=>ret (d.2.2.1,d.2.1.2.2,d.2.2.2.2)) no) no
def m9:=λx=>(qZ vz x).val
abbrev rb:=pC×vv×(LT dI iX)
def yp (p:rb):KK:=⟨[vo p.1,EV p.2.1],⟨[⟨2,(1::2::3::5::6::7::rg 11 8 []),[]⟩],[gv 2 4 dI EW p.b],[3,1],[],(some ⟨0,(rg 0 19 []),[]⟩)⟩,4,112⟩
theorem Uz (p:rb):LI (yp p) 2 dI EW (pK p.2.1):=λ_ d c K=>by kernel_rfl
theorem ZZ (p:rb):D2 (yp p) j7 (lf xu) λb=>qZ p.b b:=λb=>by kernel_rfl
abbrev yu:rb:=(iU,lP,vz)
theorem Z0 [ax]:SC (Ha m9):=sc (Sound.nil 2 [.i .i64,.i .i64,.i .i64,.i .i64,.i .i64,.i .i64,.i .i64,.i .i64,.i .i64,.i .i64]<|kS (k:=yp yu) (.c ET (.c V9 (.nil _))) [2] [] ⟨kL (Uz yu),trivial⟩ trivial (ZZ yu))
def Y9:=qa (pl jb nil)
def HM:=qe Fa
abbrev Y':=HM.B
abbrev Za:=Int->Option Y'
def Zb (g:Za):Ct:=(204,FC Y9 (lf HM) (λb=>g b))
def Kv (x0:Int):Pg Y':=ret (x0 !=x0)
def xw:=λx0=>(Kv x0).val
theorem aun:D0 [] 204 Y9 (lf HM) λb=>Kv b:=λb=>by kernel_rfl
theorem auo [ax]:SC (Zb xw):=s0 (.nil _) aun
def Sn:=qa (pl zY nil)
def Es:=qe Hm
abbrev So:=Es.B
abbrev zz:=Int->Int->Option So
def FX (g:zz):Ct:=(143,FC Sn (lf Es) (λb=>g b.1 b.2))
def FY (xx:Za)(x0:Int)(x1:Int):Pg So:=opt (xx x0) λd=>opt (xx x1) λaj=>ae d (ae aj (ret 0) (ret (-1))) (ae aj (ret 1) (ae (decide (x0<x1)) (ret (-1)) (ae (decide (x0>x1)) (ret 1) (ret 0))))
def mA:=λx0 x1=>(FY xw x0 x1).val
theorem aoD:∀xx,D0 [Zb xx] 143 Sn (lf Es) λb=>FY xx b.1 b.2:=λ_ b=>by kernel_rfl
theorem Sp [ax]:SC (FX mA):=s0 (.c auo (.nil _)) (aoD xw)
def B3:=qa (dp (c JB ax2) λv=>(c (cl (gs v.1.1 oT) nil) (cl (cl (gs v.2.1 oT) nil) nil)))
def rQ:=qe aW2
abbrev B4:=rQ.B
abbrev B5:=Nat->Nat->NI->NI->Bool->Bool->Option B4
def B6 (g:B5):Ct:=(144,vN 1 [.i .i64] (vN 0 [.i .i64] (FC B3 (lf rQ) (λb=>g b.1.1.1 b.1.2.1 b.2.1 b.b b.1.1.2 b.1.b))))
def dE:=qs (st (dp (c JB (c H6 (us 7 (c JB (c ai aKs))))) λv=>(pl (c (so (cl (gs v.1.1 oT) nil)) (cl (so (cl (gs v.2.1.1 oT) nil)) nil)) nil)))
def xX:=qs (st (pr (us 4 aWC) (pl (c JE alx) nil)))
def LC:=qs (st (pr (c JB (c H6 (us 7 (c JB (c ai aKA))))) (pl (c JE alx) nil)))
abbrev jc:=xX.B⊕(((Nat×Bool)×(Nat×Bool)×(Nat×Bool)×Int×Int×Bool)×NI×NI)
def AH {ρ:Type}(x:jc)(K:AX->St->Option ρ):Option ρ:=(t8 (λd=>K .ret (xX.em d)) (λd=>K (.ex 0) (LC.em (d.1,(d.1.1.1,d.2.1),d.1.2.1.1,d.b)))) x
def qT (pg:zz)(d:dE.B):PL dE jc:=let n1:=d.1.2;let n2:=n1.2.2;let y0:=ws n2.2;let y1:=decide (n2.2<n2.1);ae y1 (ae (bk n2.2 n1.2.1.1) (ae (decide (n2.2>=wl n1.1.1)) (ret (wn (wr (1,(d.1.1.1,d.2.1),n1.1.1,d.2.2)))) (ae (bk n2.2 n1.1.1) (opt (pg (d.2.1 y0) (d.2.2 y0)) λaj=>ae (aj !=0) (ret (wn (wr (aj,(d.1.1.1,d.2.1),n1.1.1,d.2.2)))) (ret (wr ((d.1.1,n1.1,n1.2.1,n2.1,wI (n2.2+1)),d.2)))) no)) no) (ret (wn (wn ((d.1.1,n1.1,n1.2.1,n2.1,n2.2,y1),d.2))))
def qU:=bj (qT mA) 2000
def tH (eI:LT dE jc)(x0:Nat)(x1:Nat)(x2:Nat->Int)(x3:Nat->Int)(w0:Bool)(w1:Bool):Pg B4:=ae (ww x0 x0) (ae (ww x1 x1) (opt (eI (((x0,w0),(x1,w1),(x0,w0),wl x0,0),x2,x3)) λx=>sum x (λd=>ret d.1) λd=>ae (decide (wl d.1.1.1<wl d.1.2.1.1)) (ret (-1)) (ret 0)) no) no
def gT:=λx0 x1 x2 x3 w0 w1=>(tH qU x0 x1 x2 x3 w0 w1).val
abbrev nD:=zz×(LT dE jc)
def tI (p:nD):KK:=⟨[FX p.1],⟨[⟨2,(rg 2 7 (rg 12 24 [])),[]⟩],[gv 2 2 dE AH p.2],[],[],(some ⟨0,(rg 0 4 (rg 5 31 [])),[]⟩)⟩,2,144⟩
theorem NC (p:nD):LI (tI p) 2 dE AH (qT p.1):=λ_ d c K=>by kernel_rfl
theorem Sq (p:nD):D2 (tI p) B3 (lf rQ) λb=>tH p.2 b.1.1.1 b.1.2.1 b.2.1 b.b b.1.1.2 b.1.b:=λb=>by kernel_rfl
abbrev tJ:nD:=(mA,qU)
theorem Sr [ax]:SC (B6 gT):=sc (Sound.nil 1 [.i .i64]<|Sound.nil 0 [.i .i64]<|kS (k:=tI tJ) (.c Sp (.nil _)) [2] [] ⟨kL (NC tJ),trivial⟩ trivial (Sq tJ))
def DJ:=qa (pl (c aKQ Ee) nil)
def P7:=qe Hm
abbrev akm:=P7.B
abbrev Jr:=DJ.B->Option akm
def UA (g:Jr):Ct:=(96,FC DJ (lf P7) g)
def UB (pg:zz)(nE:B5)(x:DJ.B):Pg akm:=let n2:=x.2.2.2.2;let n1:=x.1.2.2.2;opt (pg x.1.1 x.2.1) λd=>ae (d !=0) (ret d) (opt (nE 8 8 (cr x.1.2.1 [n1.2.2.2.2.2,n1.2.2.2.2.1,n1.2.2.2.1,n1.2.2.1,n1.2.1,n1.1,x.1.2.2.1,x.1.2.1]) (cr x.2.2.1 [n2.2.2.2.2.2,n2.2.2.2.2.1,n2.2.2.2.1,n2.2.2.1,n2.2.1,n2.1,x.2.2.2.1,x.2.2.1]) false false) λd=>ret d)
def uH:=λx=>(UB mA gT x).val
theorem aDi:∀pg nE,D0 [FX pg,B6 nE] 96 DJ (lf P7) λb=>UB pg nE b:=λ_ _ b=>by kernel_rfl
theorem akn [ax]:SC (UA uH):=s0 (.c Sp (.c Sr (.nil _))) (aDi mA gT)
def bY:=qa (dp (c aQU (cl aKQ (cu aQ6 nil))) λv=>(cl (cl (gs v.1.1 aA) nil) nil))
def eG:=qe (res (pl aRd (pu aab nil)))
abbrev eM:=eG.B
abbrev jh:=bY.B->Option eM
def ji (g:jh):Ct:=(95,vN 0 [.i .i64,.i .i64,.i .i64,.i .i64,.i .i64,.i .i64,.i .i64,.i .i64,.i .i64] (FC bY (lf eG) g))
def ba:=qs (st (dp (c aQU (us 1 (cu aQ6 (us 1 (cu aI7 (us 3 (c ai (c ai (cl ai (us 29 aWD)))))))))) λv=>(pl (c (so (cl (gs v.1.1 aA) nil)) aXE) nil)))
def qI:=qs (st (pr (c aQU (us 1 (cu aQ6 (us 1 (cu aI7 (us 3 (c ai (c ai (c ai (us 4 (c ai (c ai (cl ab (us 22 aWD)))))))))))))) (pl (c Hq aXE) nil)))
abbrev bV:=(((Nat×Bool)×Int×Int×Int×Bool)×di×Int×Int×Int×Int×Int×Int×Int×Int×Int)
def iL {ρ:Type}(x:bV)(K:AX->St->Option ρ):Option ρ:=(λd=>K (.ex 0) (qI.em ((d.1.1,d.1.2.1,d.1.b.1,d.1.b.2.1,d.1.b),(d.1.1.1,d.2.1),d.b))) x
def ep (DK:Jr)(d:ba.B):PL ba bV:=let n2:=d.1.2.2;let n1:=d.2.1.2.2.2;let y0:=wI (Int.fdiv (wU (wI (n2.1+n2.2))) 2);let y1:=ws y0;let y2:=decide (n2.1<n2.2);ae y2 (ae (bk y0 d.1.1.1) (opt (DK ((d.2.1.1 y1,d.2.1.2.1 y1,d.2.1.2.2.1 y1,n1.1 y1,n1.2.1 y1,n1.2.2.1 y1,n1.2.2.2.1 y1,n1.2.2.2.2.1 y1,n1.2.2.2.2.2 y1),d.2.2)) λaj=>ae (decide (aj<0)) (ret (wr ((d.1.1,d.1.2.1,wI (y0+1),n2.2),d.2))) (ret (wr ((d.1.1,d.1.2.1,n2.1,y0),d.2)))) no) (ret (wn ((d.1.1,d.1.2.1,n2.1,n2.2,y2),d.2)))
def eu:=bj (ep uH) 2000
def eN (DK:Jr)(eI:LT ba bV)(x:bY.B):Pg eM:=let y0:=wl x.1.1.1;ae (ww x.1.1.1 x.1.1.1) (opt (eI ((x.1.1,y0,0,y0),x.2,x.1.2)) λd=>let n2:=d.1.2.2.1;let n1:=d.2.1.2.2.2;let y0:=ws n2;ae (decide (n2<d.1.2.1)) (ae (bk n2 d.1.1.1) (opt (DK ((d.2.1.1 y0,d.2.1.2.1 y0,d.2.1.2.2.1 y0,n1.1 y0,n1.2.1 y0,n1.2.2.1 y0,n1.2.2.2.1 y0,n1.2.2.2.2.1 y0,n1.2.2.2.2.2 y0),d.2.2)) λaj=>ret (n2,aj==0)) no) (ret (n2,false))) no
def bZ:=λx=>(eN uH eu x).val
abbrev c9:=Jr×(LT ba bV)
def eO (p:c9):KK:=⟨[UA p.1],⟨[⟨3,(1::3::5::6::7::rg 11 29 [48]),[]⟩],[gv 3 1 ba iL p.2],[],[],(some ⟨0,(rg 0 6 (rg 8 41 [])),[]⟩)⟩,1,95⟩
theorem qv (p:c9):LI (eO p) 3 ba iL (ep p.1):=λ_ d c K=>by kernel_rfl
theorem ru (p:c9):D2 (eO p) bY (lf eG) λb=>eN p.1 p.2 b:=λb=>by kernel_rfl
abbrev eP:c9:=(uH,eu)
theorem rv [ax]:SC (ji bZ):=sc (Sound.nil 0 [.i .i64,.i .i64,.i .i64,.i .i64,.i .i64,.i .i64,.i .i64,.i .i64,.i .i64]<|kS (k:=eO eP) (.c akn (.nil _)) [3] [] ⟨kL (qv eP),trivial⟩ trivial (ru eP))
def rR:=qa (pr (cu aaf Ee) (cd aly λb0=>(cl (cl (gs b0.b.1 aA) nil) nil)))
def Ou:=qe (res (pu mP (pl (cl (zX aly) aab) nil)))
def akW:=qe (res (pr ab (pr (cl (zX (a 5 lC (c gi (c (gc (De 2 9)) nP)))) aNT) (cl ab5 nil))))
abbrev xy:=Ou.B⊕(Bool×bO×NI×NI×NI×NI×NI×NI×NI×NI×NI)
def Zc:xy->T:=ls (lf Ou) (λd=>lf akW (d.1,d.2.1,d.2.1.b.1,d.b))
abbrev Kw:=rR.B->Option xy
def Zd (g:Kw):Ct:=(58,FC rR Zc g)
def CI (db:jh)(iz:ti)(cX:il)(x:rR.B):Pg xy:=let bh:=x.2.2;let n5:=x.1.2;let n4:=bh.2.2.2;let n3:=x.2.1;let n9:=n3.1.2;let n7:=n3.2.2;let n1:=n5.2.2.2;let n6:=n1.2.2;let y0:=wI (n3.1.1+1);let y1:=ww n7.1 n7.1;ae (decide (x.1.1<=n7.2)) (ret (wr ((y0,wI (n9.1+1),n9.2),n3.2))) (ae y1 (opt (db (((n7.1,true),x.1),bh)) λd=>ae y1 (opt (iz n7.1 d.1 bh.1 bh.2.1 bh.2.2.1 n4.1 n4.2.1 n4.2.2.1 n4.2.2.2.1 n4.2.2.2.2.1 n4.2.2.2.2.2 (λj=>bif ww j 0 then x.1.1 else x.1.1) (λj=>bif ww j 0 then n5.1 else n5.1) (λj=>bif ww j 0 then n5.2.1 else n5.2.1) (λj=>bif ww j 0 then n5.2.2.1 else n5.2.2.1) (λj=>bif ww j 0 then n1.1 else n1.1) (λj=>bif ww j 0 then n1.2.1 else n1.2.1) (λj=>bif ww j 0 then n6.1 else n6.1) (λj=>bif ww j 0 then n6.2.1 else n6.2.1) (λj=>bif ww j 0 then n6.2.2 else n6.2.2) 1 true true) λd=>let n8:=d.2.2;let n2:=n8.2.2.2;let aW:=n2.2.2;ae (decide (wl d.1<=n3.2.1)) (ret (wn (true,((y0,n9),n3.2.1,d.1,n7.2),d.2))) (ae (bk 0 d.1) (ae (ww d.1 d.1) (opt (cX d.1 0 1 d.2.1 n8.1 n8.2.1 n8.2.2.1 n2.1 n2.2.1 aW.1 aW.2.1 aW.2.2 true) λaj=>ret (wn (!(d.2.1 0==x.1.1&&(n8.1 0==n5.1&&(n8.2.1 0==n5.2.1&&(n8.2.2.1 0==n5.2.2.1&&(n2.1 0==n1.1&&(n2.2.1 0==n1.2.1&&(aW.1 0==n6.1&&(aW.2.1 0==n6.2.1&&(aW.2.2 0==n6.2.2&&true)))))))&&true)),((y0,n9.1,wI (n9.2.1+1),n9.2.2),n3.2.1,aj.1,n7.2),aj.2))) no) no)) no) no)
def oP:=λx=>(CI bZ cV bT x).val
theorem aup:∀db DK iz cX,D0 [ji db,UA DK,tk iz,mh cX] 58 rR Zc λb=>CI db iz cX b:=λ_ _ _ _ b=>by kernel_rfl
theorem auq [ax]:SC (Zd oP):=s0 (.c rv (.c akn (.c Fq (.c tt (.nil _))))) (aup bZ uH cV bT)
def oQ:=qa (pr (cu aaf jb) (cd aly λb0=>(cl (cl (gs b0.b.1 aA) nil) nil)))
def aqf:=qe (res (pr (ac (De 2 9)) (pr (cl (zX (a 5 lC (c gi (c (gc (De 3 9)) nP)))) aNT) (c ab5 (cl ab5 nil)))))
abbrev xA:=(Nat×bO×di×NI×NI×NI×NI×NI×NI×NI×NI×NI)
def Ze:xA->T:=λd=>lf aqf (d.1,d.2.1,(d.1,d.b.1),d.2.1.b.1,d.b.2)
abbrev Kx:=oQ.B->Option xA
def Zf (g:Kx):Ct:=(108,FC oQ Ze g)
def gM:=qs (st (pr (cu aaf (c ai (us 3 (cl ai (us 58 nil))))) (pl (cd (so aly) λb0=>(cl (so (cl (gs b0.b.1 aA) nil)) nil)) nil)))
def aiu:=qs (st (pr (cu aaf (c ai (us 3 (c ai (us 1 (c ai (cu aaf (cu aaf (cu aRp (c aQV (c ai (c ab (cu Hn (cu aaf (cu aaf (cu aRp (c aQV (c ai (c (ac (H7 (pu AY (pl aW1 hU)))) (c (ac (H7 (pu AY (pl aW1 AY)))) (c ai (c ai (c ab aWA))))))))))))))))))))))) (pl (c (so aly) (cl Hq nil)) nil)))
def aiv:=qs (st (pr (cu aaf (c ai (us 3 (c ai (us 1 (c ai (cu aaf (cu aaf (cu aRp (c aQV (c ai (cl ab (cu mP (xs 10 (cu mP (us 38 nil)))))))))))))))) (pl (c (so aly) (cl Hq nil)) nil)))
abbrev ph:=((Int×Int×Nat×Int×Bool×Nat×Int×Bool)×((Int×Int×Int×Int×Int)×Int×Int)×NI×NI×NI×NI×NI×NI×NI×NI×NI)⊕((Int×Int×Nat×Int×Bool)×((Int×Int×Int×Int×Int)×Int×Int)×NI×NI×NI×NI×NI×NI×NI×NI×NI)
def Ss {ρ:Type}(x:ph)(K:AX->St->Option ρ):Option ρ:=(t8 (λd=>K (.ex 0) (aiu.em ((d.1.1,d.1.2.1,d.1.2.1,d.1.b.1,d.1.b.2.1,d.1.c.1,d.1.b.1,d.1.2.1,d.1.c.2.1,d.1.c.2.1,d.1.c.b.1,d.1.1,d.1.c.b.2,d.1.c.b.2),(d.2.1.1,d.2.1.2.1,d.1.b.1,d.2.1.b),d.1.b.1,d.b))) (λd=>K (.ex 0) (aiv.em ((d.1.1,d.1.2.1,d.1.2),(d.2.1.1,d.2.1.2.1,d.1.b.1,d.2.1.b),d.1.b.1,d.b)))) x
def zA (d:gM.B):PL gM ph:=let n3:=d.1.2;let n2:=d.2.1.2.2;let n1:=(d.2.1.1,d.2.1.2.1,n2.2);let y0:=ws n3;let y1:=wl n2.1;let y2:=decide (n3<y1);let y3:=decide (d.2.2.1 y0<=d.1.1);ae y2 (ae (bk n3 n2.1) (ae y3 (ret (wr ((d.1.1,wI (n3+1)),d.2))) (ret (wn (wr ((d.1.1,n3,n2.1,y1,y2,y0,d.2.2.1 y0,y3),n1,d.2.2))))) no) (ret (wn (wn ((d.1.1,n3,n2.1,y1,y2),n1,d.2.2))))
def zB:=bj (zA) 2000
def CJ (um:mU)(cX:il)(eI:LT gM ph)(x:oQ.B):Pg xA:=ae (ww x.2.1.2.2.1 x.2.1.2.2.1) (opt (eI ((x.1,0),x.2)) λx=>sum x (λd=>let n9:=d.2.2;let n6:=d.2.1;let n5:=d.1.2;let n1:=n9.2.2.2;let n3:=n1.2.2.2;let y0:=ws n5.1;ae (K0 n5.1 n5.2.1) (ae (ww y0 y0) (opt (um y0 n9.1 n9.2.1 n9.2.2.1 n1.1 n1.2.1 n1.2.2.1 n3.1 n3.2.1 n3.2.2 false) λaj=>ae (ww n5.2.1 n5.2.1) (opt (cX n5.2.1 0 n5.1 n9.1 n9.2.1 n9.2.2.1 n1.1 n1.2.1 n1.2.2.1 n3.1 n3.2.1 n3.2.2 true) λaC=>ret (aj.1,((n6.1.1,n6.1.2.1,n6.1.2.2.1,n6.1.2.2.2.1,wI (n6.1.2.2.2.2+n5.1)),n6.2.1,aC.1,if d.1.1>n6.2.2 then d.1.1 else n6.2.2),aj.2,aC.2)) no) no) no) λd=>let aW:=d.2.2;let n8:=d.2.1;let n7:=d.1.2;let n2:=aW.2.2.2;let n4:=n2.2.2.2;let y0:=ws n7.1;ae (K0 n7.1 n7.2.1) (ae (ww y0 y0) (opt (um y0 aW.1 aW.2.1 aW.2.2.1 n2.1 n2.2.1 n2.2.2.1 n4.1 n4.2.1 n4.2.2 false) λaj=>ae (ww n7.2.1 n7.2.1) (opt (cX n7.2.1 0 n7.1 aW.1 aW.2.1 aW.2.2.1 n2.1 n2.2.1 n2.2.2.1 n4.1 n4.2.1 n4.2.2 true) λaC=>ret (aj.1,((n8.1.1,n8.1.2.1,n8.1.2.2.1,n8.1.2.2.2.1,wI (n8.1.2.2.2.2+n7.1)),n8.2.1,aC.1,if d.1.1>n8.2.2 then d.1.1 else n8.2.2),aj.2,aC.2)) no) no) no) no
def kl:=λx=>(CJ fJ bT zB x).val
abbrev CL:=mU×il×(LT gM ph)
def Ky (p:CL):KK:=⟨[ue p.1,mh p.2.1],⟨[⟨2,(2::3::4::rg 6 9 (rg 25 39 (rg 15 10 []))),[]⟩],[gv 2 2 gM Ss p.b],[],[],(some ⟨0,(rg 0 4 (rg 5 59 [])),[]⟩)⟩,2,108⟩
theorem akX (p:CL):LI (Ky p) 2 gM Ss (zA):=λ_ d c K=>by kernel_rfl
theorem aur (p:CL):D2 (Ky p) oQ Ze λb=>CJ p.1 p.2.1 p.b b:=λb=>by kernel_rfl
abbrev Kz:CL:=(fJ,bT,zB)
theorem aus [ax]:SC (Zf kl):=sc (kS (k:=Ky Kz) (.c Gm (.c tt (.nil _))) [2] [] ⟨kL (akX Kz),trivial⟩ trivial (aur Kz))
def ND:=qa (pr (cl (aa aKN) (cu aQ (cu RD (cu (app 2 1) nil)))) (cu (cu (gc (ccl (pu (nat 194) (pu rq7 (pu wJ AY))))) nil) (c nP (c nP (cu (cu (gp 4 1) nil) bF)))))
def BD:=qe (res (pr ai (pl (cu fR (cu fR aRj)) nil)))
abbrev CM:=BD.B
abbrev NF:=Int->Int->Int->Int->Int->Int->Int->Int->Int->Bool->Option CM
def NG (g:NF):Ct:=(195,FC ND (lf BD) (λb=>g b.1.1 b.1.2.1 b.1.b.1 b.1.b.2.1 b.1.c.1 b.1.c.2.1 b.1.c.b b.2.1 b.b.1 b.b.2))
def vA (ao:Cj)(x0:Int)(x1:Int)(x2:Int)(x3:Int)(x4:Int)(x5:Int)(x6:Int)(x7:Int)(x8:Int)(x9:Bool):Pg CM:=let y0:=wI (x7+1);let y1:=wI (x0*1073741824);let y2:=wI (x5*1073741824);let y3:=wI (x4*1073741824);let y4:=wI (x6*1073741824);let y5:=wI (x2*1073741824);let y6:=wI (x1*1073741824);let y7:=wI (x3*1073741824);let y8:=bk y0 7;let y9:=y0==1;let Ax:=y0==4;let vC:=y0==6;let CN:=y0==2;let CO:=y0==3;let yv:=y0==5;ae (bk x7 7) (ae (x7==6) (ae y8 (ae vC (opt (ao y4 y4 x8 600000000 x9) λd=>ret d) (ae yv (opt (ao y4 y2 x8 600000000 x9) λd=>ret d) (ae Ax (opt (ao y4 y3 x8 600000000 x9) λd=>ret d) (ae CO (opt (ao y4 y7 x8 600000000 x9) λd=>ret d) (ae CN (opt (ao y4 y5 x8 600000000 x9) λd=>ret d) (ae y9 (opt (ao y4 y6 x8 600000000 x9) λd=>ret d) (opt (ao y4 y1 x8 600000000 x9) λd=>ret d))))))) no) (ae (x7==5) (ae y8 (ae vC (opt (ao y2 y4 x8 600000000 x9) λd=>ret d) (ae yv (opt (ao y2 y2 x8 600000000 x9) λd=>ret d) (ae Ax (opt (ao y2 y3 x8 600000000 x9) λd=>ret d) (ae CO (opt (ao y2 y7 x8 600000000 x9) λd=>ret d) (ae CN (opt (ao y2 y5 x8 600000000 x9) λd=>ret d) (ae y9 (opt (ao y2 y6 x8 600000000 x9) λd=>ret d) (opt (ao y2 y1 x8 600000000 x9) λd=>ret d))))))) no) (ae (x7==4) (ae y8 (ae vC (opt (ao y3 y4 x8 600000000 x9) λd=>ret d) (ae yv (opt (ao y3 y2 x8 600000000 x9) λd=>ret d) (ae Ax (opt (ao y3 y3 x8 600000000 x9) λd=>ret d) (ae CO (opt (ao y3 y7 x8 600000000 x9) λd=>ret d) (ae CN (opt (ao y3 y5 x8 600000000 x9) λd=>ret d) (ae y9 (opt (ao y3 y6 x8 600000000 x9) λd=>ret d) (opt (ao y3 y1 x8 600000000 x9) λd=>ret d))))))) no) (ae (x7==3) (ae y8 (ae vC (opt (ao y7 y4 x8 600000000 x9) λd=>ret d) (ae yv (opt (ao y7 y2 x8 600000000 x9) λd=>ret d) (ae Ax (opt (ao y7 y3 x8 600000000 x9) λd=>ret d) (ae CO (opt (ao y7 y7 x8 600000000 x9) λd=>ret d) (ae CN (opt (ao y7 y5 x8 600000000 x9) λd=>ret d) (ae y9 (opt (ao y7 y6 x8 600000000 x9) λd=>ret d) (opt (ao y7 y1 x8 600000000 x9) λd=>ret d))))))) no) (ae (x7==2) (ae y8 (ae vC (opt (ao y5 y4 x8 600000000 x9) λd=>ret d) (ae yv (opt (ao y5 y2 x8 600000000 x9) λd=>ret d) (ae Ax (opt (ao y5 y3 x8 600000000 x9) λd=>ret d) (ae CO (opt (ao y5 y7 x8 600000000 x9) λd=>ret d) (ae CN (opt (ao y5 y5 x8 600000000 x9) λd=>ret d) (ae y9 (opt (ao y5 y6 x8 600000000 x9) λd=>ret d) (opt (ao y5 y1 x8 600000000 x9) λd=>ret d))))))) no) (ae (x7==1) (ae y8 (ae vC (opt (ao y6 y4 x8 600000000 x9) λd=>ret d) (ae yv (opt (ao y6 y2 x8 600000000 x9) λd=>ret d) (ae Ax (opt (ao y6 y3 x8 600000000 x9) λd=>ret d) (ae CO (opt (ao y6 y7 x8 600000000 x9) λd=>ret d) (ae CN (opt (ao y6 y5 x8 600000000 x9) λd=>ret d) (ae y9 (opt (ao y6 y6 x8 600000000 x9) λd=>ret d) (opt (ao y6 y1 x8 600000000 x9) λd=>ret d))))))) no) (ae y8 (ae vC (opt (ao y1 y4 x8 600000000 x9) λd=>ret d) (ae yv (opt (ao y1 y2 x8 600000000 x9) λd=>ret d) (ae Ax (opt (ao y1 y3 x8 600000000 x9) λd=>ret d) (ae CO (opt (ao y1 y7 x8 600000000 x9) λd=>ret d) (ae CN (opt (ao y1 y5 x8 600000000 x9) λd=>ret d) (ae y9 (opt (ao y1 y6 x8 600000000 x9) λd=>ret d) (opt (ao y1 y1 x8 600000000 x9) λd=>ret d))))))) no))))))) no
def qw:=λx0 x1 x2 x3 x4 x5 x6 x7 x8 x9=>(vA kd x0 x1 x2 x3 x4 x5 x6 x7 x8 x9).val
theorem aiw:∀ao,D0 [Ck ao] 195 ND (lf BD) λb=>vA ao b.1.1 b.1.2.1 b.1.b.1 b.1.b.2.1 b.1.c.1 b.1.c.2.1 b.1.c.b b.2.1 b.b.1 b.b.2:=λ_ b=>by kernel_rfl
theorem aix [ax]:SC (NG qw):=s0 (.c Mh (.nil _)) (aiw kd)
def U':=qa (pu nil nil)
def FZ:=qe (res (pu (aa (cu aWQ (cu (gc (cf (fi .i64 (int 6000)))) (cu (gc (cf (fi .i64 (int (-2000))))) (cu (gc (cf (fi .i64 (int (-1500))))) (cu (gc (cf (fi .i64 (int (-6000))))) (cu (gc (cf (fi .i64 (int (-9000))))) (cu aWQ (cu aWR (cu (gc (cf (fi .i64 (int 2500)))) (cu aKB (cu (gc (cf (fi .i64 (int (-2200))))) (cu (gc (cf (fi .i64 (int (-3800))))) (cu aL (cu aWR (cu aWS (cu (gc (cf (fi .i64 (int 900)))) (cu (gc (cf (fi .i64 (int (-1400))))) (cu (gc (cf (fi .i64 (int (-500))))) (cu (gc (cf (fi .i64 (int (-300))))) (cu aWT (cu aWS (cu aKB (cu (gc (cf (fi .i64 (int 1500)))) (cu (gc (cf (fi .i64 (int (-1700))))) (cu aWT (cu (gc (cf (fi .i64 (int 700)))) (cu (gc (cf (fi .i64 (int (-800))))) (cu aKB (cu aWU (cu (gc (cf (fi .i64 (int 4000)))) (cu (gc (cf (fi .i64 (int (-3000))))) (cu aKB (cu (gc (cf (fi .i64 (int 3500)))) (cu (gc (cf (fi .i64 (int (-1200))))) (cu aWU nil)))))))))))))))))))))))))))))))))))) (pu nil nil)))
abbrev HN:=FZ.B
abbrev HO:=Option HN
def HP (g:HO):Ct:=(193,FC U' (lf FZ) (λ_=>g))
def HQ:Pg HN:=ret ()
def lu:Option HN:=(HQ).val
theorem aqg:D0 [] 193 U' (lf FZ) λb=>HQ:=λb=>by kernel_rfl
theorem Va [ax]:SC (HP lu):=s0 (.nil _) aqg
def Su:=qa (pr (cu aQ Hp) bF)
def Et:=qe aRA
abbrev F1:=Et.B
abbrev Sv:=Int->Int->Int->Bool->Option F1
def Sw (g:Sv):Ct:=(120,FC Su (lf Et) (λb=>g b.1.1 b.1.2.1 b.1.b b.2))
def zC (cN:vX)(ju:HO)(ao:Cj)(aJ:NF)(aq:bW)(x0:Int)(x1:Int)(x2:Int)(x3:Bool):Pg F1:=let y0:=wI (x0+900000000);let y1:=wI (x1+1800000000);let y2:=wI (Int.tdiv y0 450000000);let y3:=wI (Int.tdiv y1 600000000);let y4:=if 3<y2 then 3 else y2;let y5:=if 5<y3 then 5 else y3;let y6:=wI (y4+1);let y7:=wI (y1-wI (y5*600000000));opt (cN x0 x1 x2) λd=>ae (!d) (ret ((0,1),x3)) (opt ju λd=>ae (bk y4 5) (ae (y4==4) (opt (aJ 1000 4000 (-3000) 500 3500 (-1200) 1000 y5 y7 x3) λd=>ae (bk y6 5) (ae (y6==4) (opt (aJ 1000 4000 (-3000) 500 3500 (-1200) 1000 y5 y7 d.2) λaj=>opt (ao d.1 aj.1 (wI (y0-wI (y4*450000000))) 450000000 aj.2) λd=>opt (aq d.1 3373259426 19327352832000 d.2) λd=>ret ((d.1,0),d.2)) (ae (y6==3) (opt (aJ 500 1500 (-1700) 100 700 (-800) 500 y5 y7 d.2) λaj=>opt (ao d.1 aj.1 (wI (y0-wI (y4*450000000))) 450000000 aj.2) λd=>opt (aq d.1 3373259426 19327352832000 d.2) λd=>ret ((d.1,0),d.2)) (ae (y6==2) (opt (aJ 950 900 (-1400) (-500) (-300) 100 950 y5 y7 d.2) λaj=>opt (ao d.1 aj.1 (wI (y0-wI (y4*450000000))) 450000000 aj.2) λd=>opt (aq d.1 3373259426 19327352832000 d.2) λd=>ret ((d.1,0),d.2)) (ae (y6==1) (opt (aJ 2200 2500 500 (-2200) (-3800) 0 2200 y5 y7 d.2) λaj=>opt (ao d.1 aj.1 (wI (y0-wI (y4*450000000))) 450000000 aj.2) λd=>opt (aq d.1 3373259426 19327352832000 d.2) λd=>ret ((d.1,0),d.2)) (opt (aJ 3000 6000 (-2000) (-1500) (-6000) (-9000) 3000 y5 y7 d.2) λaj=>opt (ao d.1 aj.1 (wI (y0-wI (y4*450000000))) 450000000 aj.2) λd=>opt (aq d.1 3373259426 19327352832000 d.2) λd=>ret ((d.1,0),d.2)))))) no) (ae (y4==3) (opt (aJ 500 1500 (-1700) 100 700 (-800) 500 y5 y7 x3) λd=>ae (bk y6 5) (ae (y6==4) (opt (aJ 1000 4000 (-3000) 500 3500 (-1200) 1000 y5 y7 d.2) λaj=>opt (ao d.1 aj.1 (wI (y0-wI (y4*450000000))) 450000000 aj.2) λd=>opt (aq d.1 3373259426 19327352832000 d.2) λd=>ret ((d.1,0),d.2)) (ae (y6==3) (opt (aJ 500 1500 (-1700) 100 700 (-800) 500 y5 y7 d.2) λaj=>opt (ao d.1 aj.1 (wI (y0-wI (y4*450000000))) 450000000 aj.2) λd=>opt (aq d.1 3373259426 19327352832000 d.2) λd=>ret ((d.1,0),d.2)) (ae (y6==2) (opt (aJ 950 900 (-1400) (-500) (-300) 100 950 y5 y7 d.2) λaj=>opt (ao d.1 aj.1 (wI (y0-wI (y4*450000000))) 450000000 aj.2) λd=>opt (aq d.1 3373259426 19327352832000 d.2) λd=>ret ((d.1,0),d.2)) (ae (y6==1) (opt (aJ 2200 2500 500 (-2200) (-3800) 0 2200 y5 y7 d.2) λaj=>opt (ao d.1 aj.1 (wI (y0-wI (y4*450000000))) 450000000 aj.2) λd=>opt (aq d.1 3373259426 19327352832000 d.2) λd=>ret ((d.1,0),d.2)) (opt (aJ 3000 6000 (-2000) (-1500) (-6000) (-9000) 3000 y5 y7 d.2) λaj=>opt (ao d.1 aj.1 (wI (y0-wI (y4*450000000))) 450000000 aj.2) λd=>opt (aq d.1 3373259426 19327352832000 d.2) λd=>ret ((d.1,0),d.2)))))) no) (ae (y4==2) (opt (aJ 950 900 (-1400) (-500) (-300) 100 950 y5 y7 x3) λd=>ae (bk y6 5) (ae (y6==4) (opt (aJ 1000 4000 (-3000) 500 3500 (-1200) 1000 y5 y7 d.2) λaj=>opt (ao d.1 aj.1 (wI (y0-wI (y4*450000000))) 450000000 aj.2) λd=>opt (aq d.1 3373259426 19327352832000 d.2) λd=>ret ((d.1,0),d.2)) (ae (y6==3) (opt (aJ 500 1500 (-1700) 100 700 (-800) 500 y5 y7 d.2) λaj=>opt (ao d.1 aj.1 (wI (y0-wI (y4*450000000))) 450000000 aj.2) λd=>opt (aq d.1 3373259426 19327352832000 d.2) λd=>ret ((d.1,0),d.2)) (ae (y6==2) (opt (aJ 950 900 (-1400) (-500) (-300) 100 950 y5 y7 d.2) λaj=>opt (ao d.1 aj.1 (wI (y0-wI (y4*450000000))) 450000000 aj.2) λd=>opt (aq d.1 3373259426 19327352832000 d.2) λd=>ret ((d.1,0),d.2)) (ae (y6==1) (opt (aJ 2200 2500 500 (-2200) (-3800) 0 2200 y5 y7 d.2) λaj=>opt (ao d.1 aj.1 (wI (y0-wI (y4*450000000))) 450000000 aj.2) λd=>opt (aq d.1 3373259426 19327352832000 d.2) λd=>ret ((d.1,0),d.2)) (opt (aJ 3000 6000 (-2000) (-1500) (-6000) (-9000) 3000 y5 y7 d.2) λaj=>opt (ao d.1 aj.1 (wI (y0-wI (y4*450000000))) 450000000 aj.2) λd=>opt (aq d.1 3373259426 19327352832000 d.2) λd=>ret ((d.1,0),d.2)))))) no) (ae (y4==1) (opt (aJ 2200 2500 500 (-2200) (-3800) 0 2200 y5 y7 x3) λd=>ae (bk y6 5) (ae (y6==4) (opt (aJ 1000 4000 (-3000) 500 3500 (-1200) 1000 y5 y7 d.2) λaj=>opt (ao d.1 aj.1 (wI (y0-wI (y4*450000000))) 450000000 aj.2) λd=>opt (aq d.1 3373259426 19327352832000 d.2) λd=>ret ((d.1,0),d.2)) (ae (y6==3) (opt (aJ 500 1500 (-1700) 100 700 (-800) 500 y5 y7 d.2) λaj=>opt (ao d.1 aj.1 (wI (y0-wI (y4*450000000))) 450000000 aj.2) λd=>opt (aq d.1 3373259426 19327352832000 d.2) λd=>ret ((d.1,0),d.2)) (ae (y6==2) (opt (aJ 950 900 (-1400) (-500) (-300) 100 950 y5 y7 d.2) λaj=>opt (ao d.1 aj.1 (wI (y0-wI (y4*450000000))) 450000000 aj.2) λd=>opt (aq d.1 3373259426 19327352832000 d.2) λd=>ret ((d.1,0),d.2)) (ae (y6==1) (opt (aJ 2200 2500 500 (-2200) (-3800) 0 2200 y5 y7 d.2) λaj=>opt (ao d.1 aj.1 (wI (y0-wI (y4*450000000))) 450000000 aj.2) λd=>opt (aq d.1 3373259426 19327352832000 d.2) λd=>ret ((d.1,0),d.2)) (opt (aJ 3000 6000 (-2000) (-1500) (-6000) (-9000) 3000 y5 y7 d.2) λaj=>opt (ao d.1 aj.1 (wI (y0-wI (y4*450000000))) 450000000 aj.2) λd=>opt (aq d.1 3373259426 19327352832000 d.2) λd=>ret ((d.1,0),d.2)))))) no) (opt (aJ 3000 6000 (-2000) (-1500) (-6000) (-9000) 3000 y5 y7 x3) λd=>ae (bk y6 5) (ae (y6==4) (opt (aJ 1000 4000 (-3000) 500 3500 (-1200) 1000 y5 y7 d.2) λaj=>opt (ao d.1 aj.1 (wI (y0-wI (y4*450000000))) 450000000 aj.2) λd=>opt (aq d.1 3373259426 19327352832000 d.2) λd=>ret ((d.1,0),d.2)) (ae (y6==3) (opt (aJ 500 1500 (-1700) 100 700 (-800) 500 y5 y7 d.2) λaj=>opt (ao d.1 aj.1 (wI (y0-wI (y4*450000000))) 450000000 aj.2) λd=>opt (aq d.1 3373259426 19327352832000 d.2) λd=>ret ((d.1,0),d.2)) (ae (y6==2) (opt (aJ 950 900 (-1400) (-500) (-300) 100 950 y5 y7 d.2) λaj=>opt (ao d.1 aj.1 (wI (y0-wI (y4*450000000))) 450000000 aj.2) λd=>opt (aq d.1 3373259426 19327352832000 d.2) λd=>ret ((d.1,0),d.2)) (ae (y6==1) (opt (aJ 2200 2500 500 (-2200) (-3800) 0 2200 y5 y7 d.2) λaj=>opt (ao d.1 aj.1 (wI (y0-wI (y4*450000000))) 450000000 aj.2) λd=>opt (aq d.1 3373259426 19327352832000 d.2) λd=>ret ((d.1,0),d.2)) (opt (aJ 3000 6000 (-2000) (-1500) (-6000) (-9000) 3000 y5 y7 d.2) λaj=>opt (ao d.1 aj.1 (wI (y0-wI (y4*450000000))) 450000000 aj.2) λd=>opt (aq d.1 3373259426 19327352832000 d.2) λd=>ret ((d.1,0),d.2)))))) no))))) no)
def tK:=λx0 x1 x2 x3=>(zC fQ lu kd qw aP x0 x1 x2 x3).val
theorem aoE:∀cN ju ao aJ aq,D1 [Am cN,HP ju,Ck ao,NG aJ,dF aq] [0] 120 Su (lf Et) λb=>zC cN ju ao aJ aq b.1.1 b.1.2.1 b.1.b b.2:=λ_ _ _ _ _ b=>by kernel_rfl
theorem aoF [ax]:SC (Sw tK):=s0 (.c D6 (.c Va (.c Mh (.c aix (.c dS (.nil _)))))) (aoE fQ lu kd qw aP)
def aJN:=qa (pl jb nil)
def aut:=qe Fa
abbrev aJO:=aut.B
abbrev azz:=Int->Option aJO
def aJP (g:azz):Ct:=(55,FC aJN (lf aut) (λb=>g b))
def apS (x0:Int):Pg aJO:=ae (decide (x0>=0)) (ret (decide (x0<6))) (ret false)
def P8:=λx0=>(apS x0).val
theorem aVf:D0 [] 55 aJN (lf aut) λb=>apS b:=λb=>by kernel_rfl
theorem aVg [ax]:SC (aJP P8):=s0 (.nil _) aVf
def ako:=qa (pl (c ai Ee) nil)
def P9:=qe Fa
abbrev akp:=P9.B
abbrev UC:=Int->Int->Int->Int->Int->Int->Int->Int->Int->Int->Option akp
def akq (g:UC):Ct:=(56,FC ako (lf P9) (λb=>g b.1 b.2.1 b.b.1 b.b.2.1 b.c.1 b.c.2.1 b.c.b.1 b.c.b.2.1 b.d.1 b.d.2))
def UD (vD:ah5)(km:Kq)(jx:HI)(nF:abu)(zD:aof)(vE:aij)(x0:Int)(x1:Int)(x2:Int)(x3:Int)(x4:Int)(x5:Int)(x6:Int)(x7:Int)(x8:Int)(x9:Int):Pg akp:=ae (x0==0) (opt (vD x1 x2 x3 x4 x5 x6 x7 x8 x9 false) λd=>ret (d.1.2==0)) (ae (x0==1) (opt (km x1 x2 x3 x4 x5 x6 x7 x8 x9 false) λd=>ret (d.1.2==0)) (ae (x0==2) (opt (jx x1 x2 x3 x4 x5 x6 x7 x8 x9 false) λd=>ret (d.1.2==0)) (ae (x0==3) (opt (nF x1 x2 x3 x4 x5 x6 x7 x8 x9 false) λd=>ret (d.1.2==0)) (ae (x0==4) (opt (zD x1 x2 x3 x4 x5 x6 x7 x8 x9 false) λd=>ret (d.1.2==0)) (ae (x0==5) (opt (vE x1 x2 x3 x4 x5 x6 x7 x8 x9 false) λd=>ret (d.1.2==0)) (ret true))))))
def DL:=λx0 x1 x2 x3 x4 x5 x6 x7 x8 x9=>(UD Cr oO nk zo FJ Cz x0 x1 x2 x3 x4 x5 x6 x7 x8 x9).val
theorem aDj:∀vD km jx nF zD vE,D0 [ah6 vD,Kr km,HJ jx,abv nF,aog zD,aik vE] 56 ako (lf P9) λb=>UD vD km jx nF zD vE b.1 b.2.1 b.b.1 b.b.2.1 b.c.1 b.c.2.1 b.c.b.1 b.c.b.2.1 b.d.1 b.d.2:=λ_ _ _ _ _ _ b=>by kernel_rfl
theorem aDk [ax]:SC (akq DL):=s0 (.c awY (.c YR (.c U6 (.c an7 (.c aB4 (.c axc (.nil _))))))) (aDj Cr oO nk zo FJ Cz)
def oR:=qa (dp (cu jD (c ai aKu)) λv=>(cd atr λb0=>(c (cl (gs v.2.1 ati) nil) (c ni (c oJ (c (cl (gs b0.c.1 pN) nil) (cd rz λb5=>(cd rA λb6=>(cd rB λb7=>(cd rC λb8=>(cd rD λb9=>(cd aEs λb10=>(c nQ (cd aEi λb12=>(c (cl (gs b0.e mR) nil) (c (cl (gs b5.b.1 aA) nil) (c (cl (gs b6.b.1 aA) nil) (c (cl (gs b7.b.1 aA) nil) (c (cl (gs b8.b.1 aA) nil) (c (cl (gs b9.b.1 aA) nil) (c (cl (gs b10.b.1 aA) nil) (cl (cl (gs b12.b jU) nil) nil))))))))))))))))))))))
def HR:=qe (res (pu RB (pl (cu fR aRY) nil)))
abbrev Zg:=HR.B
abbrev CP:=oR.B->Option Zg
def CQ (g:CP):Ct:=(232,vN 2 [.b,.i .i64,.i .i64] (FC oR (lf HR) g))
def KA (sS:Iu)(x:oR.B):Pg Zg:=let n1:=x.2.2.2.2.2.2.2.2.2.2.2.2.1;let n2:=n1.1.2.2;ae (ww x.1.2.1 x.1.2.1) (opt (sS x.1.1 x.2.1.2.2.2.2.2.2.2.2.2.2.2.2.2.1 x.1.2.1 n1.1.1 n1.1.2.1 n2.1 n2.2.1 n2.2.2.1 n2.2.2.2 n1.2 x.2.2.1.1 x.2.2.1.2.1 x.2.2.1.2.2 (x.1.2.2&&true)) λd=>ret d) no
def fT:=λx=>(KA fg x).val
theorem auu:∀sS,D0 [Iv sS] 232 oR (lf HR) λb=>KA sS b:=λ_ b=>by kernel_rfl
theorem KB [ax]:SC (CQ fT):=sc (Sound.nil 2 [.b,.i .i64,.i .i64]<|k0 (.c adR (.nil _)) (auu fg))
def nm:=qa (pr (cu jD jb) (cd wK λb0=>(c ni (c oJ (c (cl (gs b0.c.1 pN) nil) (cd xZ λb4=>(cd rz λb5=>(cd rA λb6=>(cd rB λb7=>(cd rC λb8=>(cd rD λb9=>(c nQ (cd Aa λBE=>(c (cl (gs b0.e mR) nil) (c (cl (gs b4.b.1 aA) nil) (c (cl (gs b5.b.1 aA) nil) (c (cl (gs b6.b.1 aA) nil) (c (cl (gs b7.b.1 aA) nil) (c (cl (gs b8.b.1 aA) nil) (c (cl (gs b9.b.1 aA) nil) (cl (cl (gs BE.b jU) nil) nil)))))))))))))))))))))
def F2:=qe aYb
abbrev Vb:=F2.B
abbrev AQ:=nm.B->Option Vb
def AR (g:AQ):Ct:=(223,FC nm (lf F2) g)
def HS (ek:CP)(x:nm.B):Pg Vb:=let n5:=x.2.2.2.2.2;let n2:=x.2.1.2.2.2.2;let n4:=n2.2.2.2.2.2.2.2.2.2.2.2.2;let n1:=n5.2;let n3:=n1.2.2.2;ae (ww n2.1 n2.1) (ae (ww n4 n4) (ae (ww n5.1.2.2.1 n5.1.2.2.1) (ae (ww n1.1.2.2.1 n1.1.2.2.1) (ae (ww n1.2.1.2.2.1 n1.2.1.2.2.1) (ae (ww n1.2.2.1.2.2.1 n1.2.2.1.2.2.1) (ae (ww n3.1.2.2.1 n3.1.2.2.1) (ae (ww n3.2.1.2.2.1 n3.2.1.2.2.1) (ae (ww n3.2.2.2.1.2.2 n3.2.2.2.1.2.2) (opt (ek ((x.1,1,true),x.2.1,(λj=>bif ww j 0 then true else true,λj=>bif ww j 0 then 0 else 0,λj=>bif ww j 0 then 0 else 0),x.2.2)) λd=>ret d) no) no) no) no) no) no) no) no) no
def dM:=λx=>(HS fT x).val
theorem aqh:∀ek,D0 [CQ ek] 223 nm (lf F2) λb=>HS ek b:=λ_ b=>by kernel_rfl
theorem HT [ax]:SC (AR dM):=s0 (.c KB (.nil _)) (aqh fT)
def mB:=qa (pr (cu jD jb) (cd wK λb0=>(c ni (c oJ (c (cl (gs b0.c.1 pN) nil) (cd xZ λb4=>(cd rz λb5=>(cd rA λb6=>(cd rB λb7=>(cd rC λb8=>(cd rD λb9=>(c nQ (cd Aa λBE=>(c (cl (gs b0.e mR) nil) (c (cl (gs b4.b.1 aA) nil) (c (cl (gs b5.b.1 aA) nil) (c (cl (gs b6.b.1 aA) nil) (c (cl (gs b7.b.1 aA) nil) (c (cl (gs b8.b.1 aA) nil) (c (cl (gs b9.b.1 aA) nil) (cl (cl (gs BE.b jU) nil) nil)))))))))))))))))))))
def Eu:=qe aYb
abbrev Sx:=Eu.B
abbrev pj:=mB.B->Option Sx
def pk (g:pj):Ct:=(172,FC mB (lf Eu) g)
def F3 (ek:CP)(x:mB.B):Pg Sx:=let n5:=x.2.2.2.2.2;let n2:=x.2.1.2.2.2.2;let n4:=n2.2.2.2.2.2.2.2.2.2.2.2.2;let n1:=n5.2;let n3:=n1.2.2.2;ae (ww n2.1 n2.1) (ae (ww n4 n4) (ae (ww n5.1.2.2.1 n5.1.2.2.1) (ae (ww n1.1.2.2.1 n1.1.2.2.1) (ae (ww n1.2.1.2.2.1 n1.2.1.2.2.1) (ae (ww n1.2.2.1.2.2.1 n1.2.2.1.2.2.1) (ae (ww n3.1.2.2.1 n3.1.2.2.1) (ae (ww n3.2.1.2.2.1 n3.2.1.2.2.1) (ae (ww n3.2.2.2.1.2.2 n3.2.2.2.1.2.2) (opt (ek ((x.1,1,true),x.2.1,(λj=>bif ww j 0 then false else false,λj=>bif ww j 0 then 0 else 0,λj=>bif ww j 0 then 0 else 0),x.2.2)) λd=>ret d) no) no) no) no) no) no) no) no) no
def bJ:=λx=>(F3 fT x).val
theorem aoG:∀ek,D0 [CQ ek] 172 mB (lf Eu) λb=>F3 ek b:=λ_ b=>by kernel_rfl
theorem tL [ax]:SC (pk bJ):=s0 (.c KB (.nil _)) (aoG fT)
def mC:=qa (pr (cu jD (cl (aa (a 10 Ef nP)) nil)) (cd wK λb0=>(c ni (c oJ (c (cl (gs b0.c.1 pN) nil) (cd xZ λb4=>(cd rz λb5=>(cd rA λb6=>(cd rB λb7=>(cd rC λb8=>(cd rD λb9=>(c nQ (cd Aa λBE=>(c (cl (gs b0.e mR) nil) (c (cl (gs b4.b.1 aA) nil) (c (cl (gs b5.b.1 aA) nil) (c (cl (gs b6.b.1 aA) nil) (c (cl (gs b7.b.1 aA) nil) (c (cl (gs b8.b.1 aA) nil) (c (cl (gs b9.b.1 aA) nil) (cl (cl (gs BE.b jU) nil) nil)))))))))))))))))))))
def aqi:=qe aYp
abbrev CR:=((E'×Bool×NI×(NI×NI)×Nat×rj×Bool×Int×lG×Bool×Bool×Bool×Int×Int×Int×Ed×Nat)×NI×NI×NI×NI×NI×NI×NI×NI×NI×NI)
def Zh:CR->T:=λd=>lf aqi (d.1,d.1.e,d.2)
abbrev KC:=mC.B->Option CR
def KD (g:KC):Ct:=(222,FC mC Zh g)
def KE (x:mC.B):Pg CR:=let n7:=x.2.1.2;let n6:=x.1.1;let n3:=n7.2.2.2.2;let n8:=n3.2.2.2;let n2:=x.2.2.2.2.2.2.2.2.2.2.2.2.2.1;let n5:=n2.2.2.2.2;let n1:=n8.2.2.2.2;let n4:=n1.2.2.2.2;let y0:=n4+1;ae (wd (y0*80) 140737488355328) (ret ((x.2.1.1,n7.1,n7.2.1,n7.2.2.1,n7.2.2.2.1,n3.1,n3.2.1,n3.2.2.1,n8.1,n8.2.1,n8.2.2.1,n8.2.2.2.1,n1.1,n1.2.1,n1.2.2.1,n1.2.2.2.1,y0),λj=>bif ww j n4 then n6.1.1 else n2.1 j,λj=>bif ww j n4 then n6.1.2.1 else n2.2.1 j,λj=>bif ww j n4 then n6.1.2.2.1 else n2.2.2.1 j,λj=>bif ww j n4 then n6.1.2.2.2 else n2.2.2.2.1 j,λj=>bif ww j n4 then n6.2.1.1 else n5.1 j,λj=>bif ww j n4 then n6.2.1.2.1 else n5.2.1 j,λj=>bif ww j n4 then n6.2.1.2.2 else n5.2.2.1 j,λj=>bif ww j n4 then n6.2.2.1 else n5.2.2.2.1 j,λj=>bif ww j n4 then n6.2.2.2.1 else n5.2.2.2.2.1 j,λj=>bif ww j n4 then n6.2.2.2.2 else n5.2.2.2.2.2 j)) no
def fU:=λx=>(KE x).val
theorem auv:D0 [] 222 mC Zh λb=>KE b:=λb=>by kernel_rfl
theorem Zi [ax]:SC (KD fU):=s0 (.nil _) auv
def kn:=qa (dp (cu jD (c ai (cl aKn nil))) λv=>(cd atr λb0=>(c (cl (gs v.2.1 aK2) nil) (c ni (c oJ (c (cl (gs b0.c.1 pN) nil) (cd rz λb5=>(cd rA λb6=>(cd rB λb7=>(cd rC λb8=>(cd rD λb9=>(cd aEs λb10=>(c nQ (cd aEi λb12=>(c (cl (gs b0.e mR) nil) (c (cl (gs b5.b.1 aA) nil) (c (cl (gs b6.b.1 aA) nil) (c (cl (gs b7.b.1 aA) nil) (c (cl (gs b8.b.1 aA) nil) (c (cl (gs b9.b.1 aA) nil) (c (cl (gs b10.b.1 aA) nil) (cl (cl (gs b12.b jU) nil) nil))))))))))))))))))))))
def aqj:=qe (res (pr (ac (De 21 3)) (pr (c (zX atr) aRY) (cl aRt nil))))
abbrev xB:=(Nat×((E'×Bool×NI×(NI×NI)×Nat×rj×Bool×Int×lG×Bool×Bool×Bool×Int×Int×Int×Ed×Nat)×aTr×Int)×(Nat->Bool)×NI×NI)
def Zj:xB->T:=λd=>lf aqj (d.1,d.2.1,d.1,d.b)
abbrev rU:=kn.B->Option xB
def rV (g:rU):Ct:=(228,vN 2 [.i .i64,.i .i64,.i .i64,.i .i64,.i .i64,.i .i64,.i .i64,.i .i64,.i .i64,.i .i64,.i .i64,.i .i64,.i .i64,.i .i64,.i .i64,.i .i64,.i .i64,.i .i64,.i .i64,.i .i64,.i .i64,.i .i64,.i .i64,.i .i64,.i .i64,.i .i64,.i .i64] (FC kn Zj g))
def CS (abI:aBr)(ek:CP)(x:kn.B):Pg xB:=let n3:=x.2.1.2.2.2;let n5:=n3.2.2.2.2.2.2.2.2.2.2.2.2.2;let n2:=x.2.2.2.2.2.2;let n4:=n2.2.2.2;ae (ww x.1.2.1 x.1.2.1) (opt (abI ((x.2.1.2.2.1,n3.1,x.1.2.1,x.1.2.2&&true),x.2.1.2.1,x.2.2.1)) λd=>let n6:=d.1.2.2;let n1:=(x.2.1.1,d.2.1,d.1.1,d.1.2.1,n3.2);ae (ww n6 n6) (ae (ww n3.2.1 n3.2.1) (ae (ww n5 n5) (ae (ww n2.1.2.2.1 n2.1.2.2.1) (ae (ww n2.2.1.2.2.1 n2.2.1.2.2.1) (ae (ww n2.2.2.1.2.2.1 n2.2.2.1.2.2.1) (ae (ww n4.1.2.2.1 n4.1.2.2.1) (ae (ww n4.2.1.2.2.1 n4.2.1.2.2.1) (ae (ww n4.2.2.1.2.2.1 n4.2.2.1.2.2.1) (ae (ww n4.2.2.2.2.1.2.2 n4.2.2.2.2.1.2.2) (opt (ek ((x.1.1,n6,true),n1,d.2.2,x.2.2.2)) λaj=>ret (n6,(n1,aj),d.2.2)) no) no) no) no) no) no) no) no) no) no) no
def dx:=λx=>(CS R6 fT x).val
theorem auw:∀abI ek,D0 [aBs abI,CQ ek] 228 kn Zj λb=>CS abI ek b:=λ_ _ b=>by kernel_rfl
theorem xC [ax]:SC (rV dx):=sc (Sound.nil 2 [.i .i64,.i .i64,.i .i64,.i .i64,.i .i64,.i .i64,.i .i64,.i .i64,.i .i64,.i .i64,.i .i64,.i .i64,.i .i64,.i .i64,.i .i64,.i .i64,.i .i64,.i .i64,.i .i64,.i .i64,.i .i64,.i .i64,.i .i64,.i .i64,.i .i64,.i .i64,.i .i64]<|k0 (.c aPB (.c KB (.nil _))) (auw R6 fT))
def jY:=qa (dp (cu jD aKu) λv=>(cd atr λb0=>(c (cl (gs v.1 ati) nil) (c ni (c oJ (c (cl (gs b0.c.1 pN) nil) (cd rz λb5=>(cd rA λb6=>(cd rB λb7=>(cd rC λb8=>(cd rD λb9=>(cd aEs λb10=>(c nQ (cd aEi λb12=>(c (cl (gs b0.e mR) nil) (c (cl (gs b5.b.1 aA) nil) (c (cl (gs b6.b.1 aA) nil) (c (cl (gs b7.b.1 aA) nil) (c (cl (gs b8.b.1 aA) nil) (c (cl (gs b9.b.1 aA) nil) (c (cl (gs b10.b.1 aA) nil) (cl (cl (gs b12.b jU) nil) nil))))))))))))))))))))))
def Ev:=qe (res (pu RB (pl (cl (zX atr) (cu fR ayf)) nil)))
abbrev F4:=Ev.B
abbrev F5:=jY.B->Option F4
def F6 (g:F5):Ct:=(229,vN 1 [.b,.i .i64,.i .i64] (FC jY (lf Ev) g))
def F7 (sL:adq)(x:jY.B):Pg F4:=let n2:=x.2.1;let n1:=n2.2.2.2.2.2;let n3:=n1.2.2.2;ae (ww x.1.1 x.1.1) (opt (sL x.1.1 x.2.2.1.1 x.2.2.1.2.1 x.2.2.1.2.2 (x.1.2&&true)) λd=>ae (decide (d.1>0)) (ret (n2.1,n2.2.1,n2.2.2.1,n2.2.2.2.1,n2.2.2.2.2.1,n1.1,n1.2.1,n1.2.2.1,n3.1,n3.2.1,n3.2.2.1,true,n3.2.2.2.2.2.1,n3.2.2.2.2.2)) (ret n2)) no
def eB:=λx=>(F7 Ak x).val
theorem aoH:∀sL,D1 [adr sL] [0] 229 jY (lf Ev) λb=>F7 sL b:=λ_ b=>by kernel_rfl
theorem Sy [ax]:SC (F6 eB):=sc (Sound.nil 1 [.b,.i .i64,.i .i64]<|k0 (.c ar8 (.nil _)) (aoH Ak))
def gk:=qa (pr (cu jD (c ai (c ai aXl))) (cd wK λb0=>(c ni (c oJ (c (cl (gs b0.c.1 pN) nil) (cd xZ λb4=>(cd rz λb5=>(cd rA λb6=>(cd rB λb7=>(cd rC λb8=>(cd rD λb9=>(c nQ (cd Aa λBE=>(c (cl (gs b0.e mR) nil) (c (cl (gs b4.b.1 aA) nil) (c (cl (gs b5.b.1 aA) nil) (c (cl (gs b6.b.1 aA) nil) (c (cl (gs b7.b.1 aA) nil) (c (cl (gs b8.b.1 aA) nil) (c (cl (gs b9.b.1 aA) nil) (cl (cl (gs BE.b jU) nil) nil)))))))))))))))))))))
def BF:=qe ats
abbrev vF:=BF.B
abbrev NH:=gk.B->Option vF
def NJ (g:NH):Ct:=(169,FC gk (lf BF) g)
def vG (bd:rU)(dy:AQ)(x:gk.B):Pg vF:=let n7:=x.2.2.2.2.2;let n4:=x.1.2.2.2;let n3:=x.2.1.2.2.2.2;let n6:=n3.2.2.2.2.2.2.2.2.2.2.2.2;let n2:=n7.2;let n5:=n2.2.2.2;let n1:=x.1.2.2.1;let y0:=ww n3.1 n3.1;let y1:=ww n6 n6;let y2:=ww n7.1.2.2.1 n7.1.2.2.1;let y3:=ww n2.1.2.2.1 n2.1.2.2.1;let y4:=ww n2.2.1.2.2.1 n2.2.1.2.2.1;let y5:=ww n2.2.2.1.2.2.1 n2.2.2.1.2.2.1;let y6:=ww n5.1.2.2.1 n5.1.2.2.1;let y7:=ww n5.2.1.2.2.1 n5.2.1.2.2.1;let y8:=ww n5.2.2.2.1.2.2 n5.2.2.2.1.2.2;ae (n3.2.1.2.1==x.1.2.1) (ae y0 (ae y1 (ae y2 (ae y3 (ae y4 (ae y5 (ae y6 (ae y7 (ae y8 (opt (bd ((x.1.1,1,true),x.2.1,(λj=>bif ww j 0 then n1 0 else n1 0,λj=>bif ww j 0 then n1 1 else n1 1,λj=>bif ww j 0 then n1 2 else n1 2,λj=>bif ww j 0 then n1 3 else n1 3,λj=>bif ww j 0 then n1 4 else n1 4,λj=>bif ww j 0 then n1 5 else n1 5,λj=>bif ww j 0 then n1 6 else n1 6,λj=>bif ww j 0 then n1 7 else n1 7,λj=>bif ww j 0 then n1 8 else n1 8,λj=>bif ww j 0 then n1 9 else n1 9,λj=>bif ww j 0 then n1 10 else n1 10,λj=>bif ww j 0 then n1 11 else n1 11,λj=>bif ww j 0 then n1 12 else n1 12,λj=>bif ww j 0 then n1 13 else n1 13,λj=>bif ww j 0 then n1 14 else n1 14,λj=>bif ww j 0 then n1 15 else n1 15,λj=>bif ww j 0 then n1 16 else n1 16,λj=>bif ww j 0 then n1 17 else n1 17,λj=>bif ww j 0 then n1 18 else n1 18,λj=>bif ww j 0 then n1 19 else n1 19,λj=>bif ww j 0 then n1 20 else n1 20,λj=>bif ww j 0 then n1 21 else n1 21,λj=>bif ww j 0 then n1 22 else n1 22,λj=>bif ww j 0 then n1 23 else n1 23,λj=>bif ww j 0 then n4.1 else n4.1,λj=>bif ww j 0 then n4.2.1 else n4.2.1,λj=>bif ww j 0 then n4.2.2 else n4.2.2),x.2.2)) λd=>ret d.2.1) no) no) no) no) no) no) no) no) no) (ae y0 (ae y1 (ae y2 (ae y3 (ae y4 (ae y5 (ae y6 (ae y7 (ae y8 (opt (dy (x.1.1,x.2)) λd=>ret (x.2.1,d)) no) no) no) no) no) no) no) no) no)
def iA:=λx=>(vG dx dM x).val
theorem aiy:∀bd dy,D1 [rV bd,AR dy] [0] 169 gk (lf BF) λb=>vG bd dy b:=λ_ _ b=>by kernel_rfl
theorem aiz [ax]:SC (NJ iA):=s0 (.c xC (.c HT (.nil _))) (aiy dx dM)
def dO:=qa (pu (cu jD nil) (cd wK λb0=>(c ni (c oJ (c (cl (gs b0.c.1 pN) nil) (cd xZ λb4=>(cd rz λb5=>(cd rA λb6=>(cd rB λb7=>(cd rC λb8=>(cd rD λb9=>(c nQ (cd Aa λBE=>(c (cl (gs b0.e mR) nil) (c (cl (gs b4.b.1 aA) nil) (c (cl (gs b5.b.1 aA) nil) (c (cl (gs b6.b.1 aA) nil) (c (cl (gs b7.b.1 aA) nil) (c (cl (gs b8.b.1 aA) nil) (c (cl (gs b9.b.1 aA) nil) (cl (cl (gs BE.b jU) nil) nil)))))))))))))))))))))
def xD:=qe (res (pr ai (pl (cl (zX wK) ayf) nil)))
abbrev re:=xD.B
abbrev Hb:=dO.B->Option re
def Hc (g:Hb):Ct:=(220,FC dO (lf xD) g)
def na (zE:Sv)(x:dO.B):Pg re:=let n1:=x.1.1.2.2.2.2.2.2.2.2.2.2.2.2.2;opt (zE n1.1 n1.2.1 n1.2.2 x.1.2.1) λd=>ret (d.1.1,x.1.1,d.2,x.1.2.2)
def dP:=λx=>(na tK x).val
theorem Z1:∀zE,D0 [Sw zE] 220 dO (lf xD) λb=>na zE b:=λ_ b=>by kernel_rfl
theorem Z2 [ax]:SC (Hc dP):=s0 (.c aoF (.nil _)) (Z1 tK)
def ko:=qa (pr (cu jD Ee) (cd wK λb0=>(c ni (c oJ (c (cl (gs b0.c.1 pN) nil) (cd xZ λb4=>(cd rz λb5=>(cd rA λb6=>(cd rB λb7=>(cd rC λb8=>(cd rD λb9=>(c nQ (cd Aa λBE=>(c (cl (gs b0.e mR) nil) (c (cl (gs b4.b.1 aA) nil) (c (cl (gs b5.b.1 aA) nil) (c (cl (gs b6.b.1 aA) nil) (c (cl (gs b7.b.1 aA) nil) (c (cl (gs b8.b.1 aA) nil) (c (cl (gs b9.b.1 aA) nil) (cl (cl (gs BE.b jU) nil) nil)))))))))))))))))))))
def Ov:=qe ats
def akY:=qe (res (pu RB (pr (c (zX (a 26 ya (c gb (c iM (a 2 Ac (cu aln (cu alo (c aKo (au 6 alz (cu avf (a 4 Fc (cu avg (c gb (c gi (a 3 mQ (c gb (cu ax3 (c gb aRV)))))))))))))))))) aRX) aKX)))
abbrev xE:=Ov.B⊕(((E'×Bool×NI×(NI×NI)×Nat×rj×Bool×Int×lG×Bool×Bool×Int×Int×Int×Ed×Nat)×aTr×Int)×NI×NI×NI×NI×NI×NI×NI×NI×NI×NI)
def Zk:xE->T:=ls (lf Ov) (λd=>lf akY (d.1,d.1.1.d.c.b.2,d.2))
abbrev Zl:=ko.B->Option xE
def Zm (g:Zl):Ct:=(167,FC ko Zk g)
def CT (nF:abu)(bf:eJ)(rf:Hb)(Wc:aw2)(bb:pj)(Wd:awN)(gJ:KC)(fN:rK)(js:Gy)(cZ:Ag)(aO:fP)(dy:AQ)(x:ko.B):Pg xE:=let n8:=x.2.2;let bA:=n8.2.2.2;let n7:=x.2.1.2.2;let n9:=n7.2.2.2.2.2.2.2.2.2.2.2.2.2.2;let n6:=x.1.2.2.2;let n1:=bA.2;let n3:=n1.2.2.2;let bM:=n3.2.2.2;let y0:=ww bA.1.2.2.1 bA.1.2.2.1;let y1:=ww n1.1.2.2.1 n1.1.2.2.1;let y2:=ww n1.2.1.2.2.1 n1.2.1.2.2.1;let y3:=ww n1.2.2.1.2.2.1 n1.2.2.1.2.2.1;let y4:=ww n3.1.2.2.1 n3.1.2.2.1;let y5:=ww n3.2.1.2.2.1 n3.2.1.2.2.1;let y6:=ww bM.1.2.2 bM.1.2.2;opt (nF x.1.1 x.1.2.1 x.1.2.2.1 n6.1 n6.2.1 n6.2.2.1 n6.2.2.2.1 n6.2.2.2.2.1 n6.2.2.2.2.2 x.2.1.2.1) λd=>let bh:=d.1.1;opt (bf n7.1) λaj=>ae (ww n7.2.2.1 n7.2.2.1) (ae (ww n9 n9) (ae y0 (ae y1 (ae y2 (ae y3 (ae y4 (ae y5 (ae y6 (opt (rf ((x.2.1.1,d.2,n7),n8)) λaC=>let n5:=aC.2.2.2;let aW:=n5.2.2.2.2.2.2.2.2.2.2.2.2.2.2;let uP:=ww n5.2.2.1 n5.2.2.1;let aA0:=ww aW aW;opt (Wc aj.1 aj.2.1 aj.2.2.1 aj.2.2.2 bh.1 bh.2.1 bh.2.2.1 bh.2.2.2 aC.1 aC.2.2.1) λbC=>ae (bC.1.2!=0) (ae uP (ae aA0 (ae y0 (ae y1 (ae y2 (ae y3 (ae y4 (ae y5 (ae y6 (opt (bb (3,(aC.2.1,bC.2,n5),n8)) λd=>ret (wr ((aC.2.1,bC.2,n5),d))) no) no) no) no) no) no) no) no) no) (opt (Wd n5.1 n5.2.1.1 n5.2.1.2 bC.1.1 (aC.2.1.2.2.2.2.2.2.2.1 0) bC.2) λcK=>ae uP (ae aA0 (ae y0 (ae y1 (ae y2 (ae y3 (ae y4 (ae y5 (ae y6 (opt (gJ (((cK.1.2.2,(0,0,0),0,0,0),1),(aC.2.1,cK.2,cK.1.1,cK.1.2.1,n5.2.2),n8)) λfE=>let bz:=fE.1.2.2;let n2:=bz.2.2;let n16:=n2.2.2;let n4:=n16.2.2;let n15:=n4.2.2.2;opt (bf bz.1) λdC=>opt (fN dC.1 dC.2.1 dC.2.2.1 dC.2.2.2 fE.1.2.1) λnX=>opt (js nX.1 bh.1 bh.2.1 bh.2.2.1 nX.2) λd=>opt (cZ bz.1 16 3 (cr d.1.1 [d.1.2.2,d.1.2.1,d.1.1]) false) λtY=>opt (aO tY d.2) λd=>ae (ww n2.1 n2.1) (ae (ww n15.2.2.2.2.2 n15.2.2.2.2.2) (ae y0 (ae y1 (ae y2 (ae y3 (ae y4 (ae y5 (ae y6 (opt (dy (3,(fE.1.1,d.2,d.1,bz.2.1,n2.1,n2.2.1,n16.1,n16.2.1,n4.1,n4.2.1,true,n15),n8.1,n8.2.1,n8.2.2.1,bA.1,n1.1,n1.2.1,n1.2.2.1,n3.1,n3.2.1,n3.2.2.1,bM.1,fE.2,bM.2.2)) λp7=>ret (wn (((fE.1.1,d.2,d.1,bz.2.1,n2.1,n2.2.1,n16.1,n16.2.1,n4.1,n4.2.1,n15),p7),fE.2))) no) no) no) no) no) no) no) no) no) no) no) no) no) no) no) no) no) no)) no) no) no) no) no) no) no) no) no
def mD:=λx=>(CT zo bp dP Nr bJ Na fU kO qd fe cw dM x).val
theorem auy:∀nF bf rf Wc bb Wd gJ fN js cZ aO dy,D0 [abv nF,ke bf,Hc rf,aw3 Wc,pk bb,awO Wd,KD gJ,D3 fN,Mz js,DY cZ,jP aO,AR dy] 167 ko Zk λb=>CT nF bf rf Wc bb Wd gJ fN js cZ aO dy b:=λ_ _ _ _ _ _ _ _ _ _ _ _ b=>by kernel_rfl
theorem auz [ax]:SC (Zm mD):=s0 (.c an7 (.c lK (.c Z2 (.c aMa (.c tL (.c aL3 (.c Zi (.c GB (.c VH (.c Ik (.c kP (.c HT (.nil _))))))))))))) (auy zo bp dP Nr bJ Na fU kO qd fe cw dM)
def kp:=qa (pr (cu jD (cl aKR nil)) (cd wK λb0=>(c ni (c oJ (c (cl (gs b0.c.1 pN) nil) (cd xZ λb4=>(cd rz λb5=>(cd rA λb6=>(cd rB λb7=>(cd rC λb8=>(cd rD λb9=>(c nQ (cd Aa λBE=>(c (cl (gs b0.e mR) nil) (c (cl (gs b4.b.1 aA) nil) (c (cl (gs b5.b.1 aA) nil) (c (cl (gs b6.b.1 aA) nil) (c (cl (gs b7.b.1 aA) nil) (c (cl (gs b8.b.1 aA) nil) (c (cl (gs b9.b.1 aA) nil) (cl (cl (gs BE.b jU) nil) nil)))))))))))))))))))))
def aqk:=qe aYp
abbrev xF:=((E'×Bool×NI×(NI×NI)×Nat×rj×Bool×Int×lG×Bool×Bool×Bool×Int×Int×Int×Ed×Nat)×NI×NI×NI×NI×NI×NI×NI×NI×NI×NI)
def Zn:xF->T:=λd=>lf aqk (d.1,d.1.e,d.2)
abbrev Zo:=kp.B->Option xF
def Zp (g:Zo):Ct:=(224,FC kp Zn g)
def CU (ix:zn)(EX:abE)(gJ:KC)(AS:U8)(Jt:aki)(x:kp.B):Pg xF:=let bz:=x.1.2;let n4:=x.2.1.2.2.2;let n8:=n4.2.2.2.2.2.2.2.2.2.2.2.2.2;let n3:=x.2.2;let bh:=n3.2.2;let n1:=bh.2.2;let bA:=n1.2.2.1;let n2:=n1.2.2.2;let n7:=n2.2.2.2;let y0:=ww bh.2.1.2.2.1 bh.2.1.2.2.1;let y1:=ww n1.1.2.2.1 n1.1.2.2.1;let y2:=ww n1.2.1.2.2.1 n1.2.1.2.2.1;let y3:=ww bA.2.2.1 bA.2.2.1;let y4:=ww n2.1.2.2.1 n2.1.2.2.1;let y5:=ww n2.2.1.2.2.1 n2.2.1.2.2.1;let y6:=ww n7.1.2.2 n7.1.2.2;opt (ix x.1.1.1 x.1.1.2.1 x.1.1.2.2 n3.1.1.1 n3.1.1.2.1 n3.1.1.2.2 n3.1.2.1 n3.1.2.2 x.2.1.2.1) λd=>opt (EX x.2.1.2.2.1 n4.1.1 n4.1.2 bz.1.1 bz.1.2.1 bz.1.2.2 bz.2.2 d.2) λaj=>ae (ww n4.2.1 n4.2.1) (ae (ww n8 n8) (ae y0 (ae y1 (ae y2 (ae y3 (ae y4 (ae y5 (ae y6 (opt (gJ ((((1073741824,0,0,0),aj.1.2.2,0,0,0),2),(x.2.1.1,aj.2,aj.1.1,aj.1.2.1,n4.2),n3)) λaC=>let n6:=aC.1.2.2.2;let n9:=n6.2.2.2.2.2.2.2.2.2.2.2.2.2;opt (AS aC.1.2.2.1 n6.1.1 n6.1.2 d.1.1.1 d.1.1.2.1 bz.2.1 aC.1.2.1) λbC=>ae (ww n6.2.1 n6.2.1) (ae (ww n9 n9) (ae y0 (ae y1 (ae y2 (ae y3 (ae y4 (ae y5 (ae y6 (opt (gJ ((((1073741824,0,0,0),(0,0,0),bC.1.2.2),3),(aC.1.1,bC.2,bC.1.1,bC.1.2.1,n6.2),n3.1,n3.2.1,bh.1,bh.2.1,n1.1,n1.2.1,bA,n2.1,n2.2.1,n2.2.2.1,n7.1,aC.2,n7.2.2)) λcK=>let n5:=cK.1.2.2.2;let aW:=n5.2.2.2.2.2.2.2.2.2.2.2.2.2;ae (n5.2.2.1.2.1==2) (opt (Jt cK.1.2.2.1 n5.1.1 n5.1.2 d.1.1.2.2 bz.2.1 cK.1.2.1) λd=>ae (ww n5.2.1 n5.2.1) (ae (ww aW aW) (ae y0 (ae y1 (ae y2 (ae y3 (ae y4 (ae y5 (ae y6 (opt (gJ ((((1073741824,0,0,0),(0,0,0),0,0,d.1.2.2),4),(cK.1.1,d.2,d.1.1,d.1.2.1,n5.2),n3.1,n3.2.1,bh.1,bh.2.1,n1.1,n1.2.1,bA,n2.1,n2.2.1,n2.2.2.1,n7.1,cK.2,n7.2.2)) λd=>ret d) no) no) no) no) no) no) no) no) no) (ret cK)) no) no) no) no) no) no) no) no) no) no) no) no) no) no) no) no) no) no
def mE:=λx=>(CU lL zy fU uR DI x).val
theorem auA:∀ix EX gJ AS Jt,D0 [EN ix,abF EX,KD gJ,U9 AS,akj Jt] 224 kp Zn λb=>CU ix EX gJ AS Jt b:=λ_ _ _ _ _ b=>by kernel_rfl
theorem auB [ax]:SC (Zp mE):=s0 (.c Nn (.c axr (.c Zi (.c aqd (.c aDh (.nil _)))))) (auA lL zy fU uR DI)
def gm:=qa (pr (cu jD Ee) (cd wK λb0=>(c ni (c oJ (c (cl (gs b0.c.1 pN) nil) (cd xZ λb4=>(cd rz λb5=>(cd rA λb6=>(cd rB λb7=>(cd rC λb8=>(cd rD λb9=>(c nQ (cd Aa λBE=>(c (cl (gs b0.e mR) nil) (c (cl (gs b4.b.1 aA) nil) (c (cl (gs b5.b.1 aA) nil) (c (cl (gs b6.b.1 aA) nil) (c (cl (gs b7.b.1 aA) nil) (c (cl (gs b8.b.1 aA) nil) (c (cl (gs b9.b.1 aA) nil) (cl (cl (gs BE.b jU) nil) nil)))))))))))))))))))))
def BG:=qe ats
abbrev vH:=BG.B
abbrev NK:=gm.B->Option vH
def NL (g:NK):Ct:=(174,FC gm (lf BG) g)
def vI (zD:aof)(Ju:aj6)(DM:akb)(bb:pj)(bd:rU)(x:gm.B):Pg vH:=let bz:=x.2.2;let n8:=x.2.1.1;let n7:=x.1.2.2.2;let n6:=n8.2.2.2.2.1.2.2.2.2.1;let n4:=x.2.1.2.2;let bh:=n4.2.2.2.2.2.2.2.2.2.2.2.2.2.2;let n3:=bz.2.2.2.2;let n9:=n3.2.2.2;let y0:=ww n4.2.2.1 n4.2.2.1;let y1:=ww bh bh;let y2:=ww bz.2.2.2.1.2.2.1 bz.2.2.2.1.2.2.1;let y3:=ww n3.1.2.2.1 n3.1.2.2.1;let y4:=ww n3.2.1.2.2.1 n3.2.1.2.2.1;let y5:=ww n3.2.2.1.2.2.1 n3.2.2.1.2.2.1;let y6:=ww n9.1.2.2.1 n9.1.2.2.1;let y7:=ww n9.2.1.2.2.1 n9.2.1.2.2.1;let y8:=ww n9.2.2.2.1.2.2 n9.2.2.2.1.2.2;opt (zD x.1.1 x.1.2.1 x.1.2.2.1 n7.1 n7.2.1 n7.2.2.1 n7.2.2.2.1 n7.2.2.2.2.1 n7.2.2.2.2.2 x.2.1.2.1) λd=>opt (Ju n4.1 d.1.1.1 d.1.1.2 n6 d.2) λd=>let n5:=d.1.1.2;let n1:=d.1.1.1;ae (d.1.2==0) (opt (DM n4.1 17592186044416 n6 d.2) λaj=>ae (aj.1.2==0) (ae y0 (ae y1 (ae y2 (ae y3 (ae y4 (ae y5 (ae y6 (ae y7 (ae y8 (opt (bd ((4,2,true),(n8,aj.2,n4),(aAb (λk=>cr (n1 k) [aj.1.1.1 k,n1 k]) (cr n5.1 [aj.1.1.2.1,n5.1],cr n5.2.1 [aj.1.1.2.2.1,n5.2.1],cr n5.2.2 [aj.1.1.2.2.2,n5.2.2])),bz)) λd=>ret d.2.1) no) no) no) no) no) no) no) no) no) (ae y0 (ae y1 (ae y2 (ae y3 (ae y4 (ae y5 (ae y6 (ae y7 (ae y8 (opt (bd ((4,1,true),(n8,aj.2,n4),(λj=>bif ww j 0 then n1 0 else n1 0,λj=>bif ww j 0 then n1 1 else n1 1,λj=>bif ww j 0 then n1 2 else n1 2,λj=>bif ww j 0 then n1 3 else n1 3,λj=>bif ww j 0 then n1 4 else n1 4,λj=>bif ww j 0 then n1 5 else n1 5,λj=>bif ww j 0 then n1 6 else n1 6,λj=>bif ww j 0 then n1 7 else n1 7,λj=>bif ww j 0 then n1 8 else n1 8,λj=>bif ww j 0 then n1 9 else n1 9,λj=>bif ww j 0 then n1 10 else n1 10,λj=>bif ww j 0 then n1 11 else n1 11,λj=>bif ww j 0 then n1 12 else n1 12,λj=>bif ww j 0 then n1 13 else n1 13,λj=>bif ww j 0 then n1 14 else n1 14,λj=>bif ww j 0 then n1 15 else n1 15,λj=>bif ww j 0 then n1 16 else n1 16,λj=>bif ww j 0 then n1 17 else n1 17,λj=>bif ww j 0 then n1 18 else n1 18,λj=>bif ww j 0 then n1 19 else n1 19,λj=>bif ww j 0 then n1 20 else n1 20,λj=>bif ww j 0 then n1 21 else n1 21,λj=>bif ww j 0 then n1 22 else n1 22,λj=>bif ww j 0 then n1 23 else n1 23,λj=>bif ww j 0 then n5.1 else n5.1,λj=>bif ww j 0 then n5.2.1 else n5.2.1,λj=>bif ww j 0 then n5.2.2 else n5.2.2),bz)) λd=>ret d.2.1) no) no) no) no) no) no) no) no) no)) (opt (DM n4.1 17592186044416 n6 d.2) λd=>let aW:=d.1.1.2;let n2:=d.1.1.1;ae (d.1.2==0) (ae y0 (ae y1 (ae y2 (ae y3 (ae y4 (ae y5 (ae y6 (ae y7 (ae y8 (opt (bd ((4,1,true),(n8,d.2,n4),(λj=>bif ww j 0 then n2 0 else n2 0,λj=>bif ww j 0 then n2 1 else n2 1,λj=>bif ww j 0 then n2 2 else n2 2,λj=>bif ww j 0 then n2 3 else n2 3,λj=>bif ww j 0 then n2 4 else n2 4,λj=>bif ww j 0 then n2 5 else n2 5,λj=>bif ww j 0 then n2 6 else n2 6,λj=>bif ww j 0 then n2 7 else n2 7,λj=>bif ww j 0 then n2 8 else n2 8,λj=>bif ww j 0 then n2 9 else n2 9,λj=>bif ww j 0 then n2 10 else n2 10,λj=>bif ww j 0 then n2 11 else n2 11,λj=>bif ww j 0 then n2 12 else n2 12,λj=>bif ww j 0 then n2 13 else n2 13,λj=>bif ww j 0 then n2 14 else n2 14,λj=>bif ww j 0 then n2 15 else n2 15,λj=>bif ww j 0 then n2 16 else n2 16,λj=>bif ww j 0 then n2 17 else n2 17,λj=>bif ww j 0 then n2 18 else n2 18,λj=>bif ww j 0 then n2 19 else n2 19,λj=>bif ww j 0 then n2 20 else n2 20,λj=>bif ww j 0 then n2 21 else n2 21,λj=>bif ww j 0 then n2 22 else n2 22,λj=>bif ww j 0 then n2 23 else n2 23,λj=>bif ww j 0 then aW.1 else aW.1,λj=>bif ww j 0 then aW.2.1 else aW.2.1,λj=>bif ww j 0 then aW.2.2 else aW.2.2),bz)) λd=>ret d.2.1) no) no) no) no) no) no) no) no) no) (ae y0 (ae y1 (ae y2 (ae y3 (ae y4 (ae y5 (ae y6 (ae y7 (ae y8 (opt (bb (4,(n8,d.2,n4),bz)) λaj=>ret ((n8,d.2,n4),aj)) no) no) no) no) no) no) no) no) no))
def iB:=λx=>(vI FJ DF DG bJ dx x).val
theorem aiA:∀zD Ju DM bb bd,D0 [aog zD,aj7 Ju,akc DM,pk bb,rV bd] 174 gm (lf BG) λb=>vI zD Ju DM bb bd b:=λ_ _ _ _ _ b=>by kernel_rfl
theorem aiB [ax]:SC (NL iB):=s0 (.c aB4 (.c aDc (.c aDe (.c tL (.c xC (.nil _)))))) (aiA FJ DF DG bJ dx)
def kq:=qa (pr (cu jD Ee) (cd wK λb0=>(c ni (c oJ (c (cl (gs b0.c.1 pN) nil) (cd xZ λb4=>(cd rz λb5=>(cd rA λb6=>(cd rB λb7=>(cd rC λb8=>(cd rD λb9=>(c nQ (cd Aa λBE=>(c (cl (gs b0.e mR) nil) (c (cl (gs b4.b.1 aA) nil) (c (cl (gs b5.b.1 aA) nil) (c (cl (gs b6.b.1 aA) nil) (c (cl (gs b7.b.1 aA) nil) (c (cl (gs b8.b.1 aA) nil) (c (cl (gs b9.b.1 aA) nil) (cl (cl (gs BE.b jU) nil) nil)))))))))))))))))))))
def HU:=qe ats
abbrev CW:=HU.B
abbrev Zq:=kq.B->Option CW
def Zr (g:Zq):Ct:=(175,FC kq (lf HU) g)
def CX (vE:aij)(We:axf)(bb:pj)(bd:rU)(eC:F5)(x:kq.B):Pg CW:=let aW:=x.2.1;let n7:=x.2.2;let bh:=n7.2.2.2;let n6:=x.1.2.2.2;let n2:=aW.2.2;let n8:=n2.2.2.2.2.2.2.2.2.2.2.2.2.2.2;let n1:=bh.2;let n3:=n1.2.2.2;let y0:=ww n2.2.2.1 n2.2.2.1;let y1:=ww n8 n8;let y2:=ww bh.1.2.2.1 bh.1.2.2.1;let y3:=ww n1.1.2.2.1 n1.1.2.2.1;let y4:=ww n1.2.1.2.2.1 n1.2.1.2.2.1;let y5:=ww n1.2.2.1.2.2.1 n1.2.2.1.2.2.1;let y6:=ww n3.1.2.2.1 n3.1.2.2.1;let y7:=ww n3.2.1.2.2.1 n3.2.1.2.2.1;let y8:=ww n3.2.2.2.1.2.2 n3.2.2.2.1.2.2;opt (vE x.1.1 x.1.2.1 x.1.2.2.1 n6.1 n6.2.1 n6.2.2.1 n6.2.2.2.1 n6.2.2.2.2.1 n6.2.2.2.2.2 aW.2.1) λd=>opt (We n2.1 d.1.1.1 d.1.1.2.1 d.1.1.2.2.1 d.1.1.2.2.2 aW.1.2.2.2.2.1.2.2.2.2.2 d.2) λd=>sm d (λd=>ae (d.1!=0) (ae y0 (ae y1 (ae y2 (ae y3 (ae y4 (ae y5 (ae y6 (ae y7 (ae y8 (opt (bb (5,(aW.1,d.2,n2),n7)) λaj=>ret ((aW.1,d.2,n2),aj)) no) no) no) no) no) no) no) no) no) no) (λd=>let n4:=d.2.2.2;ae y0 (ae y1 (ae y2 (ae y3 (ae y4 (ae y5 (ae y6 (ae y7 (ae y8 (opt (bd ((5,2,true),(aW.1,d.1,n2),(aAb (λk=>cr (d.2.1 k) [n4.2.2.1 k,d.2.1 k]) (cr d.2.2.1 [n4.2.2.2,d.2.2.1],cr n4.1 [n4.1,n4.1],cr n4.2.1 [n4.2.1,n4.2.1])),n7)) λd=>let n5:=d.2.1.1.2.2.2.2;let n9:=n5.2.2.2.2.2.2.2.2.2.2.2.2;ae (ww d.1 d.1) (ae (ww n5.1 n5.1) (ae (ww n9 n9) (ae y2 (ae y3 (ae y4 (ae y5 (ae y6 (ae y7 (ae y8 (opt (eC ((d.1,true),d.2.1.1,d.2.2,n7.1,n7.2.1,n7.2.2.1,bh.1,n1.1,n1.2.1,n1.2.2.1,n3.1,n3.2.1,d.2.1.2,n3.2.2.2)) λaj=>ret (aj,d.2.1.2)) no) no) no) no) no) no) no) no) no) no) no) no) no) no) no) no) no) no) no)
def mF:=λx=>(CX Cz CA bJ dx eB x).val
theorem auC:∀vE We bb bd eC,D0 [aik vE,axg We,pk bb,rV bd,F6 eC] 175 kq (lf HU) λb=>CX vE We bb bd eC b:=λ_ _ _ _ _ b=>by kernel_rfl
theorem auD [ax]:SC (Zr mF):=s0 (.c axc (.c aMe (.c tL (.c xC (.c Sy (.nil _)))))) (auC Cz CA bJ dx eB)
def mG:=qa (pu (cu jD nil) (cd wK λb0=>(c ni (c oJ (c (cl (gs b0.c.1 pN) nil) (cd xZ λb4=>(cd rz λb5=>(cd rA λb6=>(cd rB λb7=>(cd rC λb8=>(cd rD λb9=>(c nQ (cd Aa λBE=>(c (cl (gs b0.e mR) nil) (c (cl (gs b4.b.1 aA) nil) (c (cl (gs b5.b.1 aA) nil) (c (cl (gs b6.b.1 aA) nil) (c (cl (gs b7.b.1 aA) nil) (c (cl (gs b8.b.1 aA) nil) (c (cl (gs b9.b.1 aA) nil) (cl (cl (gs BE.b jU) nil) nil)))))))))))))))))))))
def Ew:=qe (res (pl (aa aRU) (pu (cu fR ayf) nil)))
abbrev tM:=Ew.B
abbrev zF:=mG.B->Option tM
def F8 (g:zF):Ct:=(16,FC mG (lf Ew) g)
def tN (sU:IA)(xS:Oo)(x:mG.B):Pg tM:=let n3:=x.1.2.2.2.2.2;let n2:=n3.2.2.2.2.2.2.2.2;let n4:=n2.2.2.1;let n1:=x.2.2.2.2.2.2.2.2.2.2.1;let n5:=n1.1.2.2;opt (sU n2.1 n1.1.1 n1.1.2.1 n5.1 n5.2.1 n5.2.2.1 n5.2.2.2 n1.2) λd=>opt (xS n1.1.1 n1.1.2.1 n5.1 n5.2.1 n5.2.2.1 n5.2.2.2 n1.2) λaj=>ret (n3.1.1,n3.1.2.1,n3.1.2.2.1,n3.1.2.2.2,n2.1,d,n2.2.1,aj,x.1.2.1,n4.1.1,n4.1.2.1,n4.1.2.2.1,n4.1.2.2.2,n4.2.1.1,n4.2.1.2.1,n4.2.1.2.2,n4.2.2)
def gA:=λx=>(tN nZ rr x).val
theorem aoI:∀sU xS,D0 [IB sU,Oq xS] 16 mG (lf Ew) λb=>tN sU xS b:=λ_ _ b=>by kernel_rfl
theorem SA [ax]:SC (F8 gA):=s0 (.c adV (.c akT (.nil _))) (aoI nZ rr)
def EY:=qa (pu (cu jD nil) (cd wK λb0=>(c ni (c oJ (c (cl (gs b0.c.1 pN) nil) (cd xZ λb4=>(cd rz λb5=>(cd rA λb6=>(cd rB λb7=>(cd rC λb8=>(cd rD λb9=>(c nQ (cd Aa λBE=>(c (cl (gs b0.e mR) nil) (c (cl (gs b4.b.1 aA) nil) (c (cl (gs b5.b.1 aA) nil) (c (cl (gs b6.b.1 aA) nil) (c (cl (gs b7.b.1 aA) nil) (c (cl (gs b8.b.1 aA) nil) (c (cl (gs b9.b.1 aA) nil) (cl (cl (gs BE.b jU) nil) nil)))))))))))))))))))))
def KF:=qe (res (pl aXR (pu (cu fR ayf) nil)))
abbrev abJ:=KF.B
abbrev axs:=EY.B->Option abJ
def abK (g:axs):Ct:=(40,FC EY (lf KF) g)
def abL (uo:Ll)(x:EY.B):Pg abJ:=let n2:=x.2.2.2.2.2.2.2.2.2.2.2;let n1:=n2.2.2.2.2.2.2.2.2;let n3:=n1.2.2.2.2.2;ae (ww n2.1.2.2 n2.1.2.2) (opt (uo n2.1.1 n2.1.2.1 n2.1.2.2 n1.1 n1.2.1 n1.2.2.1 n1.2.2.2.1 n1.2.2.2.2.1 n3.1 n3.2.1 n3.2.2.1 n3.2.2.2.1 n3.2.2.2.2.1 n3.2.2.2.2.2) λd=>ret d) no
def abM:=λx=>(abL BA x).val
theorem axt:∀uo,D0 [Ln uo] 40 EY (lf KF) λb=>abL uo b:=λ_ b=>by kernel_rfl
theorem axu [ax]:SC (abK abM):=s0 (.c afk (.nil _)) (axt BA)
def pn:=qa (pr (cu jD jb) (cd wK λb0=>(c ni (c oJ (c (cl (gs b0.c.1 pN) nil) (cd xZ λb4=>(cd rz λb5=>(cd rA λb6=>(cd rB λb7=>(cd rC λb8=>(cd rD λb9=>(c nQ (cd Aa λBE=>(c (cl (gs b0.e mR) nil) (c (cl (gs b4.b.1 aA) nil) (c (cl (gs b5.b.1 aA) nil) (c (cl (gs b6.b.1 aA) nil) (c (cl (gs b7.b.1 aA) nil) (c (cl (gs b8.b.1 aA) nil) (c (cl (gs b9.b.1 aA) nil) (cl (cl (gs BE.b jU) nil) nil)))))))))))))))))))))
def Ey:=qe (res (pl (aa aW7) (pu (cu fR ayf) nil)))
abbrev F9:=Ey.B
abbrev F':=pn.B->Option F9
def SB (g:F'):Ct:=(17,FC pn (lf Ey) g)
def zG (sV:ID)(x:pn.B):Pg F9:=let n1:=x.2.2.2.2.2.2.2.2.2.2.2.1;let n2:=n1.1.2.2;opt (sV x.1 n1.1.1 n1.1.2.1 n2.1 n2.2.1 n2.2.2.1 n2.2.2.2 n1.2) λd=>ret d
def mH:=λx=>(zG kQ x).val
theorem aoJ:∀sV,D0 [IE sV] 17 pn (lf Ey) λb=>zG sV b:=λ_ b=>by kernel_rfl
theorem aoK [ax]:SC (SB mH):=s0 (.c adX (.nil _)) (aoJ kQ)
def fh:=qa (pr (cu jD Ee) (cd wK λb0=>(c ni (c oJ (c (cl (gs b0.c.1 pN) nil) (cd xZ λb4=>(cd rz λb5=>(cd rA λb6=>(cd rB λb7=>(cd rC λb8=>(cd rD λb9=>(c nQ (cd Aa λBE=>(c (cl (gs b0.e mR) nil) (c (cl (gs b4.b.1 aA) nil) (c (cl (gs b5.b.1 aA) nil) (c (cl (gs b6.b.1 aA) nil) (c (cl (gs b7.b.1 aA) nil) (c (cl (gs b8.b.1 aA) nil) (c (cl (gs b9.b.1 aA) nil) (cl (cl (gs BE.b jU) nil) nil)))))))))))))))))))))
def Wf:=qe (res (pu RB (pr (c (zX (a 26 ya (c gb (c iM (a 2 Ac (cu aln (cu alo (c aKo (au 6 alz (cu avf (a 4 Fc (cu avg (c gb (c gi (a 3 mQ (c gb (c gb (cu ax3 aRV)))))))))))))))))) aRX) aKX)))
def EZ:=qe ats
abbrev og:=(((E'×Bool×NI×(NI×NI)×Nat×rj×Bool×Int×lG×Bool×Bool×Int×Int×Ed×Nat)×aTr×Int)×NI×NI×NI×NI×NI×NI×NI×NI×NI×NI)⊕EZ.B
def IJ:og->T:=ls (λd=>lf Wf (((d.1.1.1,d.1.1.2.1,d.1.1.b.1,d.1.1.b.2.1,d.1.1.c.1,d.1.1.c.2.1,d.1.1.c.b.1,d.1.1.c.b.2.1,d.1.1.d.1,d.1.1.d.2.1,d.1.1.d.b.1,d.1.1.d.b.2.1,d.1.1.d.b.2),d.1.2),d.1.1.d.c.b,d.2)) (lf EZ)
abbrev IK:=fh.B->Option og
def IL (g:IK):Ct:=(168,FC fh IJ g)
def sW (vD:ah5)(CY:Zo)(dy:AQ)(GR:afa)(CZ:YF)(Ga:anX)(bd:rU)(eC:F5)(gK:FQ)(x:fh.B):Pg og:=let n25:=x.1.2.2.2;let n22:=x.2.1.1;let n58:=n22.2.2.2.2;let n9:=x.2.1.2.2;let bM:=n9.2.2.2.2.2.2.2.2.2;let n7:=x.2.2;let n47:=n7.2.1;let n16:=n7.2.2;let n32:=n16.2.1;let n4:=n16.2.2;let n33:=n4.2.1;let n23:=n4.2.2.1;let n6:=n4.2.2.2;let n34:=n6.2.1;let n17:=n6.2.2.2;let y0:=n9.2.2.2.1.2.1==2;let y1:=ww n9.2.2.1 n9.2.2.1;let y2:=ww bM.2.2.2.2.2 bM.2.2.2.2.2;let y3:=ww n32.2.2.1 n32.2.2.1;let y4:=ww n4.1.2.2.1 n4.1.2.2.1;let y5:=ww n33.2.2.1 n33.2.2.1;let y6:=ww n23.2.2.1 n23.2.2.1;let y7:=ww n6.1.2.2.1 n6.1.2.2.1;let y8:=ww n34.2.2.1 n34.2.2.1;let y9:=ww n17.1.2.2 n17.1.2.2;opt (vD x.1.1 x.1.2.1 x.1.2.2.1 n25.1 n25.2.1 n25.2.2.1 n25.2.2.2.1 n25.2.2.2.2.1 n25.2.2.2.2.2 x.2.1.2.1) λd=>let n57:=d.1.1;let bA:=n57.2.2;let n38:=bA.2.2;let n1:=((n57.1,n57.2.1,bA.1),(bA.2.1,n38.1,n38.2.1),n38.2.2);let n3:=(CY (n1,(n22,d.2,n9),n7));let n2:=(n9.1,n1,n58.1.1);ae (!bM.1) (ae y1 (ae y2 (ae y3 (ae y4 (ae y5 (ae y6 (ae y7 (ae y8 (ae y9 (opt n3 λd=>let aW:=d.1.2.2.2.2;let n26:=aW.2.2.2.2;let n48:=n26.2.2.2.2.2;ae (ww aW.1 aW.1) (ae (ww n48.2.2.2 n48.2.2.2) (ae y3 (ae y4 (ae y5 (ae y6 (ae y7 (ae y8 (ae y9 (opt (dy (0,d.1,n7.1,n47,n16.1,n32,n4.1,n33,n23,n6.1,n34,n6.2.2.1,n17.1,d.2,n17.2.2)) λaj=>ret (wr (((d.1.1,d.1.2.1,d.1.2.2.1,d.1.2.2.2.1,aW.1,aW.2.1,aW.2.2.1,aW.2.2.2.1,n26.1,n26.2.1,n26.2.2.1,n48),aj),d.2))) no) no) no) no) no) no) no) no) no) no) no) no) no) no) no) no) no) no) (ae (decide (wI (bM.2.2.1-bM.2.1)>n58.2.2.2.2.1)) (ae y1 (ae y2 (ae y3 (ae y4 (ae y5 (ae y6 (ae y7 (ae y8 (ae y9 (opt n3 λd=>let bh:=d.1.2.2.2.2;let n27:=bh.2.2.2.2;let n49:=n27.2.2.2.2.2;ae (ww bh.1 bh.1) (ae (ww n49.2.2.2 n49.2.2.2) (ae y3 (ae y4 (ae y5 (ae y6 (ae y7 (ae y8 (ae y9 (opt (dy (0,d.1,n7.1,n47,n16.1,n32,n4.1,n33,n23,n6.1,n34,n6.2.2.1,n17.1,d.2,n17.2.2)) λaj=>ret (wr (((d.1.1,d.1.2.1,d.1.2.2.1,d.1.2.2.2.1,bh.1,bh.2.1,bh.2.2.1,bh.2.2.2.1,n27.1,n27.2.1,n27.2.2.1,n49),aj),d.2))) no) no) no) no) no) no) no) no) no) no) no) no) no) no) no) no) no) no) (opt (GR n9.1 n57.1 n57.2.1 bA.1 bA.2.1 n38.1 n38.2.1 n38.2.2.1 n38.2.2.2 n58.1.1 d.2) λaj=>let n35:=aj.2.1;let n24:=aj.2.2.1;let n8:=aj.2.2.2;let n55:=n8.2.2.1;let n36:=n8.2.1;let n5:=n8.2.2.2;let n56:=n5.2.2.1;let bz:=n5.2.2.2;let n37:=bz.2.2;opt (CZ (n2,aj.1,n7.1)) λaC=>sm aC (λbC=>ae y0 (opt (Ga (n2,bC.2,n7.1)) λd=>ae y1 (ae y2 (ae y3 (ae y4 (ae y5 (ae y6 (ae y7 (ae y8 (ae y9 (opt (bd ((0,4,true),(n22,d.2,n9),(aAb (λk=>cr (n35 k) [d.1.1.1 k,bz.1 k,n55 k,n35 k]) (cr n24 [d.1.1.2.1,bz.2.1,n5.1,n24],cr n8.1 [d.1.1.2.2.1,n37.1,n5.2.1,n8.1],cr n36 [d.1.1.2.2.2,n37.2,n56,n36])),n7)) λd=>let n39:=d.2.2;let n18:=d.2.1;let n50:=n18.1.2.2.2.2;let UE:=n18.2.1.2;let n28:=n50.2.2.2.2.2.2.2.2.2.2.2.2;let y0:=wI (wl d.1-1);let y1:=ws y0;ae (ww d.1 d.1) (ae (ww n50.1 n50.1) (ae (ww n28 n28) (ae y3 (ae y4 (ae y5 (ae y6 (ae y7 (ae y8 (ae y9 (opt (eC ((d.1,true),n18.1,n39,n7.1,n47,n16.1,n32,n4.1,n33,n23,n6.1,n34,n18.2,n17)) λcK=>ae (cK.2.2.2.2.2.1.2.1==2) (ae (bk 2 d.1) (ae (bk y0 d.1) (opt (gK (n39.1 2) (n39.2.1 2) (n39.2.2 2) (n39.1 y1) (n39.2.1 y1) (n39.2.2 y1) n18.2.1.1 UE.1 UE.2.1 UE.2.2.1 UE.2.2.2.1 UE.2.2.2.2 n18.2.2) λd=>ret (wn (cK,d))) no) no) (ret (wn (cK,n18.2)))) no) no) no) no) no) no) no) no) no) no) no) no) no) no) no) no) no) no) no) (ae y1 (ae y2 (ae y3 (ae y4 (ae y5 (ae y6 (ae y7 (ae y8 (ae y9 (opt (bd ((0,3,true),(n22,bC.2,n9),(aAb (λk=>cr (n35 k) [bz.1 k,n55 k,n35 k]) (cr n24 [bz.2.1,n5.1,n24],cr n8.1 [n37.1,n5.2.1,n8.1],cr n36 [n37.2,n56,n36])),n7)) λd=>let P':=d.2.2;let n19:=d.2.1;let n51:=n19.1.2.2.2.2;let UF:=n19.2.1.2;let n29:=n51.2.2.2.2.2.2.2.2.2.2.2.2;let y0:=wI (wl d.1-1);let y1:=ws y0;ae (ww d.1 d.1) (ae (ww n51.1 n51.1) (ae (ww n29 n29) (ae y3 (ae y4 (ae y5 (ae y6 (ae y7 (ae y8 (ae y9 (opt (eC ((d.1,true),n19.1,P',n7.1,n47,n16.1,n32,n4.1,n33,n23,n6.1,n34,n19.2,n17)) λcK=>ae (cK.2.2.2.2.2.1.2.1==2) (ae (bk 2 d.1) (ae (bk y0 d.1) (opt (gK (P'.1 2) (P'.2.1 2) (P'.2.2 2) (P'.1 y1) (P'.2.1 y1) (P'.2.2 y1) n19.2.1.1 UF.1 UF.2.1 UF.2.2.1 UF.2.2.2.1 UF.2.2.2.2 n19.2.2) λd=>ret (wn (cK,d))) no) no) (ret (wn (cK,n19.2)))) no) no) no) no) no) no) no) no) no) no) no) no) no) no) no) no) no) no) no)) (λbC=>let n59:=bC.2.2;let n15:=n59.2.2;let n52:=n15.2.2;ae y0 (opt (Ga (n2,bC.1,n7.1)) λd=>ae y1 (ae y2 (ae y3 (ae y4 (ae y5 (ae y6 (ae y7 (ae y8 (ae y9 (opt (bd ((0,6,true),(n22,d.2,n9),(aAb (λk=>cr (n35 k) [d.1.1.1 k,n15.2.1 k,bC.2.1 k,bz.1 k,n55 k,n35 k]) (cr n24 [d.1.1.2.1,n52.1,n59.1,bz.2.1,n5.1,n24],cr n8.1 [d.1.1.2.2.1,n52.2.1,n59.2.1,n37.1,n5.2.1,n8.1],cr n36 [d.1.1.2.2.2,n52.2.2,n15.1,n37.2,n56,n36])),n7)) λd=>let n43:=d.2.2;let n20:=d.2.1;let n53:=n20.1.2.2.2.2;let n44:=n20.2.1.2;let n30:=n53.2.2.2.2.2.2.2.2.2.2.2.2;let y0:=wI (wl d.1-1);let y1:=ws y0;ae (ww d.1 d.1) (ae (ww n53.1 n53.1) (ae (ww n30 n30) (ae y3 (ae y4 (ae y5 (ae y6 (ae y7 (ae y8 (ae y9 (opt (eC ((d.1,true),n20.1,n43,n7.1,n47,n16.1,n32,n4.1,n33,n23,n6.1,n34,n20.2,n17)) λcK=>ae (cK.2.2.2.2.2.1.2.1==2) (ae (bk 2 d.1) (ae (bk y0 d.1) (opt (gK (n43.1 2) (n43.2.1 2) (n43.2.2 2) (n43.1 y1) (n43.2.1 y1) (n43.2.2 y1) n20.2.1.1 n44.1 n44.2.1 n44.2.2.1 n44.2.2.2.1 n44.2.2.2.2 n20.2.2) λd=>ret (wn (cK,d))) no) no) (ret (wn (cK,n20.2)))) no) no) no) no) no) no) no) no) no) no) no) no) no) no) no) no) no) no) no) (ae y1 (ae y2 (ae y3 (ae y4 (ae y5 (ae y6 (ae y7 (ae y8 (ae y9 (opt (bd ((0,5,true),(n22,bC.1,n9),(aAb (λk=>cr (n35 k) [n15.2.1 k,bC.2.1 k,bz.1 k,n55 k,n35 k]) (cr n24 [n52.1,n59.1,bz.2.1,n5.1,n24],cr n8.1 [n52.2.1,n59.2.1,n37.1,n5.2.1,n8.1],cr n36 [n52.2.2,n15.1,n37.2,n56,n36])),n7)) λd=>let n45:=d.2.2;let n21:=d.2.1;let n54:=n21.1.2.2.2.2;let n46:=n21.2.1.2;let n31:=n54.2.2.2.2.2.2.2.2.2.2.2.2;let y0:=wI (wl d.1-1);let y1:=ws y0;ae (ww d.1 d.1) (ae (ww n54.1 n54.1) (ae (ww n31 n31) (ae y3 (ae y4 (ae y5 (ae y6 (ae y7 (ae y8 (ae y9 (opt (eC ((d.1,true),n21.1,n45,n7.1,n47,n16.1,n32,n4.1,n33,n23,n6.1,n34,n21.2,n17)) λcK=>ae (cK.2.2.2.2.2.1.2.1==2) (ae (bk 2 d.1) (ae (bk y0 d.1) (opt (gK (n45.1 2) (n45.2.1 2) (n45.2.2 2) (n45.1 y1) (n45.2.1 y1) (n45.2.2 y1) n21.2.1.1 n46.1 n46.2.1 n46.2.2.1 n46.2.2.2.1 n46.2.2.2.2 n21.2.2) λd=>ret (wn (cK,d))) no) no) (ret (wn (cK,n21.2)))) no) no) no) no) no) no) no) no) no) no) no) no) no) no) no) no) no) no) no))))
def gB:=λx=>(sW Cr mE dM wB xi FG dx eB fu x).val
theorem ad7:∀vD CY dy GR CZ Ga bd eC gK,D0 [ah6 vD,Zp CY,AR dy,afb GR,YG CZ,anY Ga,rV bd,F6 eC,FR gK] 168 fh IJ λb=>sW vD CY dy GR CZ Ga bd eC gK b:=λ_ _ _ _ _ _ _ _ _ b=>by kernel_rfl
theorem ad8 [ax]:SC (IL gB):=s0 (.c awY (.c auB (.c HT (.c azp (.c aug (.c aGD (.c xC (.c Sy (.c YX (.nil _)))))))))) (ad7 Cr mE dM wB xi FG dx eB fu)
def gu:=qa (pr (cu jD (c ai Ee)) (cd wK λb0=>(c ni (c oJ (c (cl (gs b0.c.1 pN) nil) (cd xZ λb4=>(cd rz λb5=>(cd rA λb6=>(cd rB λb7=>(cd rC λb8=>(cd rD λb9=>(c nQ (cd Aa λBE=>(c (cl (gs b0.e mR) nil) (c (cl (gs b4.b.1 aA) nil) (c (cl (gs b5.b.1 aA) nil) (c (cl (gs b6.b.1 aA) nil) (c (cl (gs b7.b.1 aA) nil) (c (cl (gs b8.b.1 aA) nil) (c (cl (gs b9.b.1 aA) nil) (cl (cl (gs BE.b jU) nil) nil)))))))))))))))))))))
def af2:=qe (res (pr ab (pr (cl (zX (a 26 ya (c gb (c iM (a 2 Ac (cu (gp 20 5) (cu (gp 21 10) (c (gc (jk (pu (nat 22) (pu (ox (pu eS (pu eS G5))) (pl mb (pu G5 jL)))))) aYj)))))))) aEw) aYq)))
abbrev ku:=(Bool×(E'×Bool×NI×(NI×NI)×Nat×rj×Bool×Int×lG×Bool×Bool×Bool×Int×Int×Int×Ed×Nat)×(lG×Int×Int)×LF×aWk×bO×bO×bO×bO×bO×bO×Ly×tZ×aNI×AI×AI×AI×AI×AI×AI×NI×NI×NI×NI×NI×NI×NI×NI×NI×NI×NI)
def NT:ku->T:=λd=>lf af2 (d.1,d.2.1,d.b.1,d.b.2.1,(d.2.1.c.1,d.c.1),d.c.2.1,d.c.b.1,d.c.b.2.1,d.d.1,d.d.2.1,d.d.b.1,d.d.b.2.1,d.d.c.1,(d.2.1.e,d.d.c.2.1),d.d.c.b.1,d.d.c.b.2.1,d.e.1,d.e.2.1,d.e.b.1,d.e.b.2.1,d.d.c.1.b,d.e.c)
abbrev Da:=gu.B->Option ku
def NU (g:Da):Ct:=(22,FC gu NT g)
def qy (aVl:azz)(gh:BB)(aDw:UC)(nN:Er)(se:Kw)(x:gu.B):Pg ku:=let n30:=x.1.1;let n28:=x.1.2;let n29:=n28.2.2.2.2;let n23:=x.2.1;let n19:=x.2.2;let n24:=n19.2.1;let bM:=n19.2.2;let n20:=bM.2.1;let n17:=bM.2.2;let n33:=n17.1.2.2.1;let n21:=n17.2.1;let bA:=n17.2.2;let n34:=bA.1.2.2.1;let n22:=bA.2.1;let n18:=bA.2.2;let n35:=n18.1.2.2.1;let n25:=n18.2.1;let n15:=n18.2.2;let n31:=n15.2.2;let n27:=n15.2.1;let n26:=n31.2.2;let n32:=n26.2.2;let n16:=n32.2.2;let bz:=(nN (n20,n31.1));let bh:=(nN (n17.1,n31.2.1));let aW:=(nN (n21,n26.1));let n9:=(nN (bA.1,n26.2.1));let n8:=(nN (n22,n32.1));let n7:=(nN (n18.1,n32.2.1));let n6:=(n20.2.2.1,n31.1);let n5:=(n33,n31.2.1);let n4:=(n21.2.2.1,n26.1);let n3:=(n34,n26.2.1);let n2:=(n22.2.2.1,n32.1);let n1:=(n35,n32.2.1);let y0:=bk n30 6;let y1:=n30==1;let y2:=n30==4;let y3:=n30==3;let y4:=n30==2;let y5:=n30==5;let y6:=ww n20.2.2.1 n20.2.2.1;let y7:=ww n33 n33;let y8:=ww n21.2.2.1 n21.2.2.1;let y9:=ww n34 n34;let Ax:=ww n22.2.2.1 n22.2.2.1;let vC:=ww n35 n35;opt (aVl n30) λd=>ae (!d) (ret (false,n23,n19.1,n24,bM.1,n20,n17.1,n21,bA.1,n22,n18.1,n25,n15.1,n27,n6,n5,n4,n3,n2,n1,n16)) (opt (gh n28.1 0 1125899906842624) λd=>ae (!d) (ae y0 (ae y5 (ae vC (opt n7 λd=>ret (false,n23,n19.1,n24,bM.1,n20,n17.1,n21,bA.1,n22,d,n25,n15.1,n27,n6,n5,n4,n3,n2,n1,n16)) no) (ae y2 (ae Ax (opt n8 λd=>ret (false,n23,n19.1,n24,bM.1,n20,n17.1,n21,bA.1,d,n18.1,n25,n15.1,n27,n6,n5,n4,n3,n2,n1,n16)) no) (ae y3 (ae y9 (opt n9 λd=>ret (false,n23,n19.1,n24,bM.1,n20,n17.1,n21,d,n22,n18.1,n25,n15.1,n27,n6,n5,n4,n3,n2,n1,n16)) no) (ae y4 (ae y8 (opt aW λd=>ret (false,n23,n19.1,n24,bM.1,n20,n17.1,d,bA.1,n22,n18.1,n25,n15.1,n27,n6,n5,n4,n3,n2,n1,n16)) no) (ae y1 (ae y7 (opt bh λd=>ret (false,n23,n19.1,n24,bM.1,n20,d,n21,bA.1,n22,n18.1,n25,n15.1,n27,n6,n5,n4,n3,n2,n1,n16)) no) (ae y6 (opt bz λd=>ret (false,n23,n19.1,n24,bM.1,d,n17.1,n21,bA.1,n22,n18.1,n25,n15.1,n27,n6,n5,n4,n3,n2,n1,n16)) no)))))) no) (opt (aDw n30 n28.1 n28.2.1 n28.2.2.1 n28.2.2.2.1 n29.1 n29.2.1 n29.2.2.1 n29.2.2.2.1 n29.2.2.2.2) λd=>ae (!d) (ae y0 (ae y5 (ae vC (opt n7 λd=>ret (false,n23,n19.1,n24,bM.1,n20,n17.1,n21,bA.1,n22,d,n25,n15.1,n27,n6,n5,n4,n3,n2,n1,n16)) no) (ae y2 (ae Ax (opt n8 λd=>ret (false,n23,n19.1,n24,bM.1,n20,n17.1,n21,bA.1,d,n18.1,n25,n15.1,n27,n6,n5,n4,n3,n2,n1,n16)) no) (ae y3 (ae y9 (opt n9 λd=>ret (false,n23,n19.1,n24,bM.1,n20,n17.1,n21,d,n22,n18.1,n25,n15.1,n27,n6,n5,n4,n3,n2,n1,n16)) no) (ae y4 (ae y8 (opt aW λd=>ret (false,n23,n19.1,n24,bM.1,n20,n17.1,d,bA.1,n22,n18.1,n25,n15.1,n27,n6,n5,n4,n3,n2,n1,n16)) no) (ae y1 (ae y7 (opt bh λd=>ret (false,n23,n19.1,n24,bM.1,n20,d,n21,bA.1,n22,n18.1,n25,n15.1,n27,n6,n5,n4,n3,n2,n1,n16)) no) (ae y6 (opt bz λd=>ret (false,n23,n19.1,n24,bM.1,d,n17.1,n21,bA.1,n22,n18.1,n25,n15.1,n27,n6,n5,n4,n3,n2,n1,n16)) no)))))) no) (ae y0 (ae y5 (ae vC (opt (se (n28,n18.1,n32.2.1)) λd=>sm d (λd=>ret (false,n23,n19.1,n24,bM.1,n20,n17.1,n21,bA.1,n22,d,n25,n15.1,n27,n6,n5,n4,n3,n2,n1,n16)) (λd=>ret (d.1,n23,n19.1,n24,bM.1,n20,n17.1,n21,bA.1,n22,d.2.1,n25,n15.1,n27,n6,n5,n4,n3,n2,(d.2.1.2.2.1,d.2.2),n16))) no) (ae y2 (ae Ax (opt (se (n28,n22,n32.1)) λd=>sm d (λd=>ret (false,n23,n19.1,n24,bM.1,n20,n17.1,n21,bA.1,d,n18.1,n25,n15.1,n27,n6,n5,n4,n3,n2,n1,n16)) (λd=>ret (d.1,n23,n19.1,n24,bM.1,n20,n17.1,n21,bA.1,d.2.1,n18.1,n25,n15.1,n27,n6,n5,n4,n3,(d.2.1.2.2.1,d.2.2),n1,n16))) no) (ae y3 (ae y9 (opt (se (n28,bA.1,n26.2.1)) λd=>sm d (λd=>ret (false,n23,n19.1,n24,bM.1,n20,n17.1,n21,d,n22,n18.1,n25,n15.1,n27,n6,n5,n4,n3,n2,n1,n16)) (λd=>ret (d.1,n23,n19.1,n24,bM.1,n20,n17.1,n21,d.2.1,n22,n18.1,n25,n15.1,n27,n6,n5,n4,(d.2.1.2.2.1,d.2.2),n2,n1,n16))) no) (ae y4 (ae y8 (opt (se (n28,n21,n26.1)) λd=>sm d (λd=>ret (false,n23,n19.1,n24,bM.1,n20,n17.1,d,bA.1,n22,n18.1,n25,n15.1,n27,n6,n5,n4,n3,n2,n1,n16)) (λd=>ret (d.1,n23,n19.1,n24,bM.1,n20,n17.1,d.2.1,bA.1,n22,n18.1,n25,n15.1,n27,n6,n5,(d.2.1.2.2.1,d.2.2),n3,n2,n1,n16))) no) (ae y1 (ae y7 (opt (se (n28,n17.1,n31.2.1)) λd=>sm d (λd=>ret (false,n23,n19.1,n24,bM.1,n20,d,n21,bA.1,n22,n18.1,n25,n15.1,n27,n6,n5,n4,n3,n2,n1,n16)) (λd=>ret (d.1,n23,n19.1,n24,bM.1,n20,d.2.1,n21,bA.1,n22,n18.1,n25,n15.1,n27,n6,(d.2.1.2.2.1,d.2.2),n4,n3,n2,n1,n16))) no) (ae y6 (opt (se (n28,n20,n31.1)) λd=>sm d (λd=>ret (false,n23,n19.1,n24,bM.1,d,n17.1,n21,bA.1,n22,n18.1,n25,n15.1,n27,n6,n5,n4,n3,n2,n1,n16)) (λd=>ret (d.1,n23,n19.1,n24,bM.1,d.2.1,n17.1,n21,bA.1,n22,n18.1,n25,n15.1,n27,(d.2.1.2.2.1,d.2.2),n5,n4,n3,n2,n1,n16))) no)))))) no)))
def dJ:=λx=>(qy P8 oe DL jg oP x).val
abbrev Db:=azz×BB×UC×Er×Kw
def NV (p:Db):KK:=⟨[aJP p.1,Y1 p.2.1,akq p.b.1,Ot p.b.2.1,Zd p.c],⟨[],[],(0::rg 4 6 []),[],(some ⟨0,(rg 0 6 (rg 7 28 [])),[(3,[]),(4,[]),(5,[]),(6,[]),(7,[]),(8,[]),(9,[]),(10,[]),(11,[]),(12,[]),(13,[]),(14,[]),(15,[]),(16,[]),(17,[]),(18,[]),(19,[]),(20,[]),(21,[]),(0,[])]⟩)⟩,0,22⟩
theorem aiI (p:Db):D2 (NV p) gu NT λb=>qy p.1 p.2.1 p.b.1 p.b.2.1 p.c b:=λb=>by kernel_rfl
abbrev NW:Db:=(P8,oe,DL,jg,oP)
theorem aiJ [ax]:SC (NU dJ):=sc (kS (k:=NV NW) (.c aVg (.c aoq (.c aDk (.c akV (.c auq (.nil _)))))) [] [] trivial trivial (aiI NW))
end Go.Proofs.YtldgljclcgaibaaGreat
