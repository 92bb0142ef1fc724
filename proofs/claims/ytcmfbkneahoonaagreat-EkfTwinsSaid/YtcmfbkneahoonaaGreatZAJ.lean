/-
  Parts of the proof: Q4 TI TJ TK TL TM
-/
import Derived.Test.YtcmfbkneahoonaaGreatZAE
import Derived.Test.YtcmfbkneahoonaaGreatZAI
set_option maxRecDepth 100000
set_option maxHeartbeats 4000000
set_option linter.unusedVariables false
noncomputable section
namespace Go.Proofs.YtcmfbkneahoonaaGreat
open Go.Ab Go.Ab.Pg Go.Ab.Rq
def GH:=qa (pr (cu awy fU) aAI)
def uY:=qe (res (pu (app 1 6) (pu Xf (cl aQ3 nil))))
abbrev GI:=uY.B
abbrev GJ:=Int->NI->NI->(Nat->Bool)->NI->NI->NI->Int->Option GI
def GK (g:GJ):Ct:=(48,FC GH (lf uY) (λb=>g b.1 b.2.1.1 b.2.1.2.1 b.2.1.b.1 b.2.1.b.2.1 b.2.1.c.1 b.2.1.c.2 b.b))
def xx (jB:SL)(x0:Int)(x1:Nat->Int)(x2:Nat->Int)(x3:Nat->Bool)(x4:Nat->Int)(x5:Nat->Int)(x6:Nat->Int)(x7:Int):Pg GI:=opt (jB x0) λd=>ae (!d) (ret (0,0,false,0,0,0)) (ae (aX x0 6) (ae (Nat.ble (0+Int.toNat x0*6+6) 36) (ret ((x1,x2,x3,x4,x5,x6).1 (Int.toNat x0),(x2,x3,x4,x5,x6).1 (Int.toNat x0),(x3,x4,x5,x6).1 (Int.toNat x0),(x4,x5,x6).1 (Int.toNat x0),x5 (Int.toNat x0),x6 (Int.toNat x0))) no) no)
def lU:=λx0 x1 x2 x3 x4 x5 x6 x7=>(xx nK x0 x1 x2 x3 x4 x5 x6 x7).val
theorem aaI:∀jB,D0 [SM jB] 48 GH (lf uY) λb=>xx jB b.1 b.2.1.1 b.2.1.2.1 b.2.1.b.1 b.2.1.b.2.1 b.2.1.c.1 b.2.1.c.2 b.b:=λ_ b=>by kernel_rfl
theorem aaJ [ax]:SC (GK lU):=s0 (.c afk (.nil _)) (aaI nK)
def at1:=qa (pr (cu aP ada) bB)
def aaK:=qe (res (pr (aa auL) (pl kZ nil)))
abbrev at2:=aaK.B
abbrev rZ:=NI->Int->Bool->Option at2
def EO (g:rZ):Ct:=(72,FC at1 (lf aaK) (λb=>g b.1.1 b.1.2 b.2))
def afl (aN:eL)(bh:dz)(bE:kr)(x0:Nat->Int)(x1:Int)(x2:Bool):Pg at2:=opt (aN x0 x2) λd=>opt (bh d.1) λaj=>opt (bE d.1 4) λaF=>opt (bE d.1 7) λbx=>ret ((x1,aj.1,aj.2.1,aj.2.2.1,aj.2.2.2,aF.1,aF.2.1,aF.2.2,bx),d.2)
def kQ:=λx0 x1 x2=>(afl bX bZ en x0 x1 x2).val
theorem aHK:∀aN bh bE,D0 [ir aN,iF bh,pG bE] 72 at1 (lf aaK) λb=>afl aN bh bE b.1.1 b.1.2 b.2:=λ_ _ _ b=>by kernel_rfl
theorem KX [ax]:SC (EO kQ):=s0 (.c jf (.c jx (.c sU (.nil _)))) (aHK bX bZ en)
def aoS:=qa (pl (c jS (cl aLX nil)) nil)
def VN:=qe aLx
abbrev aoT:=VN.B
abbrev BX:=NI->Int->Int->Int->Int->Int->Int->Int->Int->Int->Int->Int->Option aoT
def Ob (g:BX):Ct:=(74,FC aoS (lf VN) (λb=>g b.1 b.2.1 b.b.1.1 b.b.1.2.1 b.b.1.b.1 b.b.1.b.2 b.b.2.1.1 b.b.2.1.2.1 b.b.2.1.b b.c.1 b.c.2.1 b.c.b))
def aaL (cH:w9)(x0:Nat->Int)(x1:Int)(x2:Int)(x3:Int)(x4:Int)(x5:Int)(x6:Int)(x7:Int)(x8:Int)(x9:Int)(fQ:Int)(fR:Int):Pg aoT:=opt (cH x0 0 4 (cr x2 [x5,x4,x3,x2]) false) λd=>opt (cH d 4 3 (cr x6 [x8,x7,x6]) false) λd=>opt (cH d 7 3 (cr x9 [fR,fQ,x9]) false) λd=>ret d
def pN:=λx0 x1 x2 x3 x4 x5 x6 x7 x8 x9 fQ fR=>(aaL fN x0 x1 x2 x3 x4 x5 x6 x7 x8 x9 fQ fR).val
theorem aEi:∀cH,D0 [BO cH] 74 aoS (lf VN) λb=>aaL cH b.1 b.2.1 b.b.1.1 b.b.1.2.1 b.b.1.b.1 b.b.1.b.2 b.b.2.1.1 b.b.2.1.2.1 b.b.2.1.b b.c.1 b.c.2.1 b.c.b:=λ_ b=>by kernel_rfl
theorem aaM [ax]:SC (Ob pN):=s0 (.c Gm (.nil _)) (aEi fN)
def aoU:=qa (pl YX nil)
def VO:=qe B3
abbrev aoV:=VO.B
abbrev aoW:=Int->Int->Int->Int->Int->Int->Int->Int->Option aoV
def aoX (g:aoW):Ct:=(70,FC aoU (lf VO) (λb=>g b.1 b.2.1 b.b.1.1 b.b.1.2.1 b.b.1.b b.b.2.1 b.c.1 b.c.2))
def kR:=qs (st (pr (us 1 (cu Tj (us 2 (cl ai (us 21 aLs))))) (pl (cl C5 nil) nil)))
def Yp:=qs (st (pu (us 2 (cu kv (us 37 nil))) (pu nil nil)))
def Yq:=qs (st (pr (us 1 (cu Tj (us 2 (c ai (cl ab (us 20 aLs)))))) (pl (cl C5 nil) nil)))
abbrev vK:=Yp.B⊕Yq.B
def ahf {ρ:Type}(x:vK)(K:AX->St->Option ρ):Option ρ:=(Sum.elim (λd=>K .ret (Yp.em d)) (λd=>K (.ex 0) (Yq.em d))) x
def Rc (cZ:Mq)(d:kR.B):PL kR vK:=let n2:=d.2.2.2;let n1:=n2.2.2.2;let y0:=aX d.1 3;let y1:=d.1==1;let y2:=d.1==2;let y3:=decide (d.1<3);ae y3 (ae y0 (ae y2 (opt (cZ n2.2.2.1) λaj=>ae (decide (aj>34359738368)) (ret (Sum.inr (Sum.inl ()))) (ae y0 (ae y2 (opt (cZ n1.2.2) λaF=>ae (decide (aF>34359738368)) (ret (Sum.inr (Sum.inl ()))) (ret (Sum.inl (wI (d.1+1),d.2)))) (ae y1 (opt (cZ n1.2.1) λaF=>ae (decide (aF>34359738368)) (ret (Sum.inr (Sum.inl ()))) (ret (Sum.inl (wI (d.1+1),d.2)))) (opt (cZ n1.1) λaF=>ae (decide (aF>34359738368)) (ret (Sum.inr (Sum.inl ()))) (ret (Sum.inl (wI (d.1+1),d.2)))))) no)) (ae y1 (opt (cZ n2.2.1) λaj=>ae (decide (aj>34359738368)) (ret (Sum.inr (Sum.inl ()))) (ae y0 (ae y2 (opt (cZ n1.2.2) λaF=>ae (decide (aF>34359738368)) (ret (Sum.inr (Sum.inl ()))) (ret (Sum.inl (wI (d.1+1),d.2)))) (ae y1 (opt (cZ n1.2.1) λaF=>ae (decide (aF>34359738368)) (ret (Sum.inr (Sum.inl ()))) (ret (Sum.inl (wI (d.1+1),d.2)))) (opt (cZ n1.1) λaF=>ae (decide (aF>34359738368)) (ret (Sum.inr (Sum.inl ()))) (ret (Sum.inl (wI (d.1+1),d.2)))))) no)) (opt (cZ n2.1) λaj=>ae (decide (aj>34359738368)) (ret (Sum.inr (Sum.inl ()))) (ae y0 (ae y2 (opt (cZ n1.2.2) λaF=>ae (decide (aF>34359738368)) (ret (Sum.inr (Sum.inl ()))) (ret (Sum.inl (wI (d.1+1),d.2)))) (ae y1 (opt (cZ n1.2.1) λaF=>ae (decide (aF>34359738368)) (ret (Sum.inr (Sum.inl ()))) (ret (Sum.inl (wI (d.1+1),d.2)))) (opt (cZ n1.1) λaF=>ae (decide (aF>34359738368)) (ret (Sum.inr (Sum.inl ()))) (ret (Sum.inl (wI (d.1+1),d.2)))))) no)))) no) (ret (Sum.inr (Sum.inr ((d.1,y3),d.2))))
def Re:=bD (Rc vA) 2000
def aaN (dA:LT kR vK)(x0:Int)(x1:Int)(x2:Int)(x3:Int)(x4:Int)(x5:Int)(x6:Int)(x7:Int):Pg aoV:=opt (dA (0,x0,x1,x2,x3,x4,x5,x6,x7)) λx=>sum x (λd=>ret false) λd=>ae (decide (d.2.2.1>=1)) (ae (decide (d.2.2.1<=100000)) (ae (decide (d.2.1>=0)) (ret (decide (d.2.1<=1125899906842624))) (ret false)) (ret false)) (ret false)
def GL:=λx0 x1 x2 x3 x4 x5 x6 x7=>(aaN Re x0 x1 x2 x3 x4 x5 x6 x7).val
abbrev Oc:=Mq×(LT kR vK)
def aaO (p:Oc):KK:=⟨[abx p.1],⟨[⟨2,(0::2::5::6::7::rg 9 4 (rg 20 6 (29::30::34::35::39::3::8::rg 13 7 []))),[]⟩],[fg 2 0 kR ahf p.2],[],[],(some ⟨0,(0::1::rg 3 37 []),[]⟩)⟩,0,70⟩
theorem av2 (p:Oc):LI (aaO p) 2 kR ahf (Rc p.1):=λ_ d c K=>by kernel_rfl
theorem aEj (p:Oc):D2 (aaO p) aoU (lf VO) λb=>aaN p.2 b.1 b.2.1 b.b.1.1 b.b.1.2.1 b.b.1.b b.b.2.1 b.c.1 b.c.2:=λb=>by kernel_rfl
abbrev aaP:Oc:=(vA,Re)
theorem aEk [ax]:SC (aoX GL):=sc (kS (k:=aaO aaP) (.c ami (.nil _)) [2] [] ⟨kL (av2 aaP),trivial⟩ trivial (aEj aaP))
def GM:=qa (pr (cu aP (c (aa aGg) YX)) bB)
def VP:=qe (res (pr (aa auI) (pl kZ nil)))
abbrev aoY:=VP.B
abbrev aoZ:=GM.B->Option aoY
def ao0 (g:aoZ):Ct:=(71,FC GM (lf VP) g)
def aaQ (dm:zU)(x:GM.B):Pg aoY:=let n2:=x.1.2.2.2;let n1:=x.1.1.2.2;opt (dm 2 x.2 (cr n1.1.1 [n2.1.1,n1.1.1]) (cr n1.1.2.1 [n2.1.2.1,n1.1.2.1]) (cr n1.1.2.2 [n2.1.2.2,n1.1.2.2]) true) λd=>opt (dm 2 d.2 (cr n1.2.1 [n2.2.1,n1.2.1]) (cr n1.2.2.1 [n2.2.2.1,n1.2.2.1]) (cr n1.2.2.2 [n2.2.2.2,n1.2.2.2]) true) λaj=>ret ((x.1.2.1,wI (x.1.1.2.1+x.1.2.2.1),d.1.1,d.1.2.1,d.1.2.2,aj.1),aj.2)
def GN:=λx=>(aaQ jl x).val
theorem aEl:∀dm,D0 [HQ dm] 71 GM (lf VP) λb=>aaQ dm b:=λ_ b=>by kernel_rfl
theorem aEm [ax]:SC (ao0 GN):=s0 (.c Mz (.nil _)) (aEl jl)
def qh:=qa (pr (cu (app 0 10) (cu Ou YX)) (c lk bB))
def Cd:=qe (res (pr (pw (c (ra auI) (c (rc cb) ars))) (pl (c (zC lk) kZ) nil)))
abbrev O3:=Cd.B
abbrev DH:=qh.B->Option O3
def O4 (g:DH):Ct:=(38,FC qh (lf Cd) g)
def DI (Od:aoW)(Oe:aoZ)(x:qh.B):Pg O3:=let n3:=x.1.2.2;let n2:=x.2.1;let n1:=(Oe ((n2.2.1,x.1),x.2.2));opt (Od x.1.1 x.1.2.1 n3.1.1 n3.1.2.1 n3.1.2.2 n3.2.1 n3.2.2.1 n3.2.2.2) λd=>ae (!d) (ret (((0,0,0,0,0,0,0,0),false,1),x.2)) (ae n2.2.2 (ae (decide (x.1.1<=n2.2.1.1)) (ret (((0,0,0,0,0,0,0,0),false,1),x.2)) (opt n1 λd=>let n4:=d.1.2;ae (decide (n4.1<n2.1)) (ret (((0,0,0,0,0,0,0,0),false,0),(n2.1,(d.1.1,n4.1,(n4.2.1,n4.2.2.1,n4.2.2.2.1),n4.2.2.2.2),true),d.2)) (ret ((d.1,true,0),(n2.1,(x.1.1,0,(0,0,0),0,0,0),true),d.2)))) (opt n1 λd=>let n5:=d.1.2;ae (decide (n5.1<n2.1)) (ret (((0,0,0,0,0,0,0,0),false,0),(n2.1,(d.1.1,n5.1,(n5.2.1,n5.2.2.1,n5.2.2.2.1),n5.2.2.2.2),true),d.2)) (ret ((d.1,true,0),(n2.1,(x.1.1,0,(0,0,0),0,0,0),true),d.2))))
def mM:=λx=>(DI GL GN x).val
theorem ak7:∀Od Oe,D1 [aoX Od,ao0 Oe] [0,1] 38 qh (lf Cd) λb=>DI Od Oe b:=λ_ _ b=>by kernel_rfl
theorem ak8 [ax]:SC (O4 mM):=s0 (.c aEk (.c aEm (.nil _))) (ak7 GL GN)
def iy:=qa (pr (cu F9 (cu Ou ada)) (cd ac9 λb0=>(c uN (cl (cl (gs b0.b fX) nil) nil))))
def tZ:=qe (res (pu Th (pr (c (zC (c gi (cl gi (cu (gc (dG (pu rq7 (pu xW (pu (szl A9) (pu mD ek)))))) nil)))) L0) (cl auL nil))))
abbrev uZ:=tZ.B
abbrev u3:=iy.B->Option uZ
def E7 (g:u3):Ct:=(124,FC iy (lf tZ) g)
def oF (iL:rZ)(x:iy.B):Pg uZ:=opt (iL x.1.1 x.1.2 x.2.2.1) λd=>ret (((x.2.1.1,x.2.1.2.1),d.2),d.1)
def eR:=λx=>(oF kQ x).val
theorem WV:∀iL,D0 [EO iL] 124 iy (lf tZ) λb=>oF iL b:=λ_ b=>by kernel_rfl
theorem WW [ax]:SC (E7 eR):=s0 (.c KX (.nil _)) (WV kQ)
def lV:=qa (pr (cu F9 (cu Ou (c jS YX))) (cd ac9 λb0=>(c uN (cl (cl (gs b0.b fX) nil) nil))))
def CG:=qe (res (pr ai (pl (c (zC ac9) L0) nil)))
def CH:=qe (res (pu HC (pr (c (zC aGa) (cl arq aIq)) aAK)))
abbrev pO:=CG.B⊕CH.B
def GO:pO->T:=ls (lf CG) (lf CH)
abbrev lW:=lV.B->Option pO
def xy (g:lW):Ct:=(39,FC lV GO g)
def xA (sY:BX)(BY:N8)(iL:rZ)(x:lV.B):Pg pO:=let bk:=x.2.2.1;let n8:=x.2.1;let n6:=x.1.2.2;let n4:=x.2.2.2;let aS:=n4.2.2;let n2:=n8.2.2;let n1:=aS.2.2;let n5:=n1.2.2.2;let ba:=n5.2.2;let y0:=Int.ofNat n2;let y1:=n2+1;let y2:=wI (y0-1);let y3:=Int.toNat y2;let y4:=y1-1;let y5:=0+y4;ae (y0==0) (ret (Sum.inl (4,n8,bk))) (ae (aX y2 n2) (ae (decide (n6.1<1)) (ret (Sum.inl (1,n8,bk))) (ae (decide (x.1.2.1<=n4.1 y3)) (ret (Sum.inl (1,n8,bk))) (opt (sY x.1.1 (n4.1 y3) (n4.2.1 y3) (aS.1 y3) (aS.2.1 y3) (n1.1 y3) (n1.2.1 y3) (n1.2.2.1 y3) (n5.1 y3) (n5.2.1 y3) (ba.1 y3) (ba.2 y3)) λd=>opt (BY d x.1.2.1 n6.1 n6.2.1.1 n6.2.1.2.1 n6.2.1.2.2 n6.2.2.1 n6.2.2.2.1 n6.2.2.2.2 bk) λd=>opt (iL d.1 x.1.2.1 d.2) λd=>let n7:=d.1.2.2;let n3:=n7.2.2.2;let n9:=n3.2.2.2;ae (Nat.ble (y1*88) 140737488355328) (ae (decide (Int.ofNat y1>n8.1)) (ae (Cu 1 y1) (ae (Nat.ble (y5*88) 140737488355328) (ret (Sum.inr (((n8.1,n8.2.1,y5),d.2),y4,λj=>let y0:=1+j;bif Nat.beq y0 n2 then d.1.1 else n4.1 y0,λj=>let y0:=1+j;bif Nat.beq y0 n2 then d.1.2.1 else n4.2.1 y0,λj=>let y0:=1+j;bif Nat.beq y0 n2 then n7.1 else aS.1 y0,λj=>let y0:=1+j;bif Nat.beq y0 n2 then n7.2.1 else aS.2.1 y0,λj=>let y0:=1+j;bif Nat.beq y0 n2 then n7.2.2.1 else n1.1 y0,λj=>let y0:=1+j;bif Nat.beq y0 n2 then n3.1 else n1.2.1 y0,λj=>let y0:=1+j;bif Nat.beq y0 n2 then n3.2.1 else n1.2.2.1 y0,λj=>let y0:=1+j;bif Nat.beq y0 n2 then n3.2.2.1 else n5.1 y0,λj=>let y0:=1+j;bif Nat.beq y0 n2 then n9.1 else n5.2.1 y0,λj=>let y0:=1+j;bif Nat.beq y0 n2 then n9.2.1 else ba.1 y0,λj=>let y0:=1+j;bif Nat.beq y0 n2 then n9.2.2 else ba.2 y0))) no) no) (ret (Sum.inr (((n8.1,n8.2.1,y1),d.2),y1,λj=>bif Nat.beq j n2 then d.1.1 else n4.1 j,λj=>bif Nat.beq j n2 then d.1.2.1 else n4.2.1 j,λj=>bif Nat.beq j n2 then n7.1 else aS.1 j,λj=>bif Nat.beq j n2 then n7.2.1 else aS.2.1 j,λj=>bif Nat.beq j n2 then n7.2.2.1 else n1.1 j,λj=>bif Nat.beq j n2 then n3.1 else n1.2.1 j,λj=>bif Nat.beq j n2 then n3.2.1 else n1.2.2.1 j,λj=>bif Nat.beq j n2 then n3.2.2.1 else n5.1 j,λj=>bif Nat.beq j n2 then n9.1 else n5.2.1 j,λj=>bif Nat.beq j n2 then n9.2.1 else ba.1 j,λj=>bif Nat.beq j n2 then n9.2.2 else ba.2 j)))) no))) no)
def fa:=λx=>(xA pN sW kQ x).val
theorem aaR:∀sY BY iL,D1 [Ob sY,Z5 BY,EO iL] [0,1] 39 lV GO λb=>xA sY BY iL b:=λ_ _ _ b=>by kernel_rfl
theorem GP [ax]:SC (xy fa):=s0 (.c aaM (.c aot (.c KX (.nil _)))) (aaR pN sW kQ)
def IW:=qa (pu (cu F9 nil) (cd (c gi (c gi (cl (gc (wX 1 11)) nil))) λb0=>(cl (cl (gs b0.b fX) nil) nil)))
def xB:=qe (res (pl aRJ (pu auy nil)))
abbrev IX:=xB.B
abbrev IY:=Int->Int->Nat->NI->NI->NI->NI->NI->NI->NI->NI->NI->NI->NI->Option IX
def IZ (g:IY):Ct:=(37,FC IW (lf xB) (λb=>g b.1.1 b.1.2.1 b.1.b b.2.1 b.b.1 b.b.2.1 b.c.1 b.c.2.1 b.c.b.1 b.c.b.2.1 b.d.1 b.d.2.1 b.d.b.1 b.d.b.2))
def I0 (x0:Int)(x1:Int)(x2:Nat)(x3:Nat->Int)(x4:Nat->Int)(x5:Nat->Int)(x6:Nat->Int)(x7:Nat->Int)(x8:Nat->Int)(x9:Nat->Int)(fQ:Nat->Int)(fR:Nat->Int)(zF:Nat->Int)(x13:Nat->Int):Pg IX:=let y0:=wI (Int.ofNat x2-1);let y1:=Int.toNat y0;ae (Int.ofNat x2==0) (ret ((0,0,0,0,0,0,0,0,0,0,0),false)) (ae (aX y0 x2) (ret (((x3,x4,x5,x6,x7,x8,x9,fQ,fR,zF,x13).1 y1,(x4,x5,x6,x7,x8,x9,fQ,fR,zF,x13).1 y1,(x5,x6,x7,x8,x9,fQ,fR,zF,x13).1 y1,(x6,x7,x8,x9,fQ,fR,zF,x13).1 y1,(x7,x8,x9,fQ,fR,zF,x13).1 y1,(x8,x9,fQ,fR,zF,x13).1 y1,(x9,fQ,fR,zF,x13).1 y1,(fQ,fR,zF,x13).1 y1,(fR,zF,x13).1 y1,zF y1,x13 y1),true)) no)
def yL:=λx0 x1 x2 x3 x4 x5 x6 x7 x8 x9 fQ fR zF x13=>(I0 x0 x1 x2 x3 x4 x5 x6 x7 x8 x9 fQ fR zF x13).val
theorem acb:D0 [] 37 IW (lf xB) λb=>I0 b.1.1 b.1.2.1 b.1.b b.2.1 b.b.1 b.b.2.1 b.c.1 b.c.2.1 b.c.b.1 b.c.b.2.1 b.d.1 b.d.2.1 b.d.b.1 b.d.b.2:=λb=>by kernel_rfl
theorem acd [ax]:SC (IZ yL):=s0 (.nil _) acb
def lE:=qa (pu (cu Tj nil) (cd adb λb0=>(cl (cl (gs b0.b.1 aA) nil) nil)))
def Au:=qe (res (pu Th (pl (cl (zC adb) Xf) nil)))
abbrev Ce:=Au.B
abbrev Cf:=lE.B->Option Ce
def LR (g:Cf):Ct:=(51,FC lE (lf Au) g)
def uJ (x:lE.B):Pg Ce:=ret ((wI (x.1.1.1+1),x.1.1.2.1,x.1.1.2.2.1,wI (x.1.1.2.2.2.1+1),x.1.1.2.2.2.2),x.1.2)
def jm:=λx=>(uJ x).val
theorem ahT:D0 [] 51 lE (lf Au) λb=>uJ b:=λb=>by kernel_rfl
theorem ahU [ax]:SC (LR jm):=s0 (.nil _) ahT
def ak9:=qa (pl C4 nil)
def Rf:=qe B3
abbrev ala:=Rf.B
abbrev yM:=Int->Int->Int->Option ala
def VQ (g:yM):Ct:=(45,FC ak9 (lf Rf) (λb=>g b.1 b.2.1 b.b))
def KY (x0:Int)(x1:Int)(x2:Int):Pg ala:=ae (decide (x0>=x1)) (ret (decide (x0<=x2))) (ret false)
def lX:=λx0 x1 x2=>(KY x0 x1 x2).val
theorem aCZ:D0 [] 45 ak9 (lf Rf) λb=>KY b.1 b.2.1 b.b:=λb=>by kernel_rfl
theorem alb [ax]:SC (VQ lX):=s0 (.nil _) aCZ
def at3:=qa (pl Fk nil)
def ace:=qe aAG
def acf:=qe aRL
abbrev afm:=ace.B⊕acf.B
def at4:afm->T:=ls (lf ace) (lf acf)
abbrev afo:=Int->Int->Int->Option afm
def at5 (g:afo):Ct:=(32,FC at3 at4 (λb=>g b.1 b.2.1 b.b))
def afp (cA:sX)(ew:TQ)(aq:bY)(dF:IJ)(gk:OF)(r8:ad5)(aD:cz)(x0:Int)(x1:Int)(x2:Int):Pg afm:=opt (cA x0 x1 x2) λd=>ae (!d) (ret (Sum.inl ())) (ae (decide (x0>850000000)) (ret (Sum.inl ())) (ae (decide (x0< -850000000)) (ret (Sum.inl ())) (opt (aq x0 3373259426 1800000000 false) λd=>opt (dF d.1 d.2) λaj=>opt (gk d.1 aj.2) λd=>opt (ew aj.1 aj.1 d.2) λaF=>opt (ew 7188036 aF.1 aF.2) λbx=>let y0:=wI (1073741824-bx.1);opt (r8 y0 bx.2) λcv=>opt (aD 6531212288 cv.1 30 cv.2) λdN=>opt (ew 6531212288 1066553788 dN.2) λcL=>opt (ew y0 cv.1 cL.2) λjW=>opt (aD cL.1 jW.1 30 jW.2) λpF=>opt (aq pF.1 3373259426 1800000000 pF.2) λnx=>opt (ew dN.1 d.1 nx.2) λd=>opt (aq d.1 3373259426 1800000000 d.2) λd=>ret (Sum.inr (x0,x1,x2,nx.1,d.1)))))
def wD:=λx0 x1 x2=>(afp fO tL aU mG qd zL bp x0 x1 x2).val
theorem aHL:∀cA ew aq dF gk r8 aD,D0 [xj cA,TR ew,cV aq,IK dF,OG gk,ad6 r8,fL aD] 32 at3 at4 λb=>afp cA ew aq dF gk r8 aD b.1 b.2.1 b.b:=λ_ _ _ _ _ _ _ b=>by kernel_rfl
theorem aHM [ax]:SC (at5 wD):=s0 (.c BV (.c aiX (.c c9 (.c OE (.c XL (.c ase (.c gC (.nil _)))))))) (aHL fO tL aU mG qd zL bp)
def ayw:=qa (pr (cu aww C4) (cl apC nil))
def afq:=qe aRk
abbrev ayx:=afq.B
abbrev alc:=Int->Int->Int->NI->Option ayx
def ayy (g:alc):Ct:=(28,FC ayw (lf afq) (λb=>g b.1.1 b.1.2.1 b.1.b b.2))
def yN:=qs (st (pr (cu aww (us 1 (c ai (c ai (us 4 aQo))))) (pl HD cB)))
def aEn:=qs (st (pr (cu aww (us 1 (c ai (c ai (us 4 (c ai (us 1 (c ai aF3)))))))) (pl HD cB)))
abbrev Of:=((Int×Int×Int×Bool)×NI)
def ao1 {ρ:Type}(x:Of)(K:AX->St->Option ρ):Option ρ:=(λd=>K (.ex 0) (aEn.em ((d.1.1,d.1.2.1,d.1.b.1,d.1.b.1,d.1.1,d.1.b.2),d.2))) x
def ao2 (d:yN.B):PL yN Of:=let n1:=d.1.2;let y0:=Int.toNat n1.2;let y1:=decide (n1.2<d.1.1);ae y1 (ae (aX n1.2 24) (ae (true&&Nat.ble (0+y0*1+1) 24) (ret (Sum.inl ((d.1.1,n1.1,wI (n1.2+1)),λj=>bif Nat.beq j y0 then n1.1 else d.2 j))) no) no) (ret (Sum.inr ((d.1.1,n1.1,n1.2,y1),d.2)))
def ao3:=bD (ao2) 2000
def ayz (dA:LT yN Of)(x0:Int)(x1:Int)(x2:Int)(x3:Nat->Int):Pg ayx:=opt (dA ((x1,x2,x0),x3)) λd=>ret d.2
def ald:=λx0 x1 x2 x3=>(ayz ao3 x0 x1 x2 x3).val
abbrev Yr:=(LT yN Of)
def ale (p:Yr):KK:=⟨[],⟨[⟨1,(1::rg 4 4 (rg 9 11 [])),[]⟩],[fg 1 1 yN ao1 p],[0],[],(some ⟨0,(rg 0 20 []),[]⟩)⟩,1,28⟩
theorem aC0 (p:Yr):LI (ale p) 1 yN ao1 (ao2):=λ_ d c K=>by kernel_rfl
theorem aKj (p:Yr):D2 (ale p) ayw (lf afq) λb=>ayz p b.1.1 b.1.2.1 b.1.b b.2:=λb=>by kernel_rfl
abbrev alf:Yr:=ao3
theorem aKk [ax]:SC (ayy ald):=sc (kS (k:=ale alf) (.nil _) [1] [] ⟨kL (aC0 alf),trivial⟩ trivial (aKj alf))
def alg:=qa (pu nil nil)
def Rg:=qe (res (pl (aa aMe) (pu nil nil)))
abbrev VR:=Rg.B
abbrev aC1:=Option VR
def alh (g:aC1):Ct:=(8,FC alg (lf Rg) (λ_=>g))
def re:=qs (st (pr (cu aIr (cu (app 1 72) (us 2 aQu))) (pl (c (so (cu aT (cu aT (cu aT (cu aT (cu aT (cu aT (cu aT (cu aT (cu aT (cu aT (cu aT (cu aT (cu aT (cu aT (cu aT (cu aT (c fq (cl fq aGq))))))))))))))))))) (cl (so aMe) nil)) nil)))
def acg:=qs (st (pr (cu aIr (cu (app 1 72) (us 2 aQK))) (pl (c (so (cu aT (cu aT (cu aT (cu aT (cu aT (cu aT (cu aT (cu aT (cu aT (cu aT (cu aT (cu aT (cu aT (cu aT (cu aT (cu aT (c fq (cl fq aGq))))))))))))))))))) (cl (so aMe) nil)) nil)))
abbrev EP:=acg.B
def ach {ρ:Type}:=@ef EP ((.ex 0)) acg ρ
def aci (d:re.B):PL re EP:=let n8:=d.2.1;let n4:=d.2.2.1;let n3:=d.2.2.2;let n9:=n3.2.1;let n5:=n3.2.2.1;let n1:=n3.2.2.2;let aS:=n1.2.1;let n6:=n1.2.2.1;let n2:=n1.2.2.2;let ba:=n2.2.1;let n7:=n2.2.2;let bl:=n7.2.1;let bk:=n7.2.2;let y0:=aX d.1 6;let y1:=d.1==5;let y2:=d.1==4;let y3:=d.1==1;let y4:=d.1==3;let y5:=d.1==2;let y6:=wI (d.1+1);let y7:=decide (d.1<6);ae y7 (ae y0 (ae y1 (ae y0 (ae y1 (ret (Sum.inl (y6,n8,n4,n3.1,n9,n5,n1.1,5,n6,n2.1,ba,n7.1,bl,1000000,bk.2))) (ae y2 (ret (Sum.inl (y6,n8,n4,n3.1,n9,n5,n1.1,5,n6,n2.1,ba,n7.1,1000000,bk))) (ae y4 (ret (Sum.inl (y6,n8,n4,n3.1,n9,n5,n1.1,5,n6,n2.1,ba,1000000,n7.2))) (ae y5 (ret (Sum.inl (y6,n8,n4,n3.1,n9,n5,n1.1,5,n6,n2.1,1000000,n7))) (ae y3 (ret (Sum.inl (y6,n8,n4,n3.1,n9,n5,n1.1,5,n6,1000000,n2.2))) (ret (Sum.inl (y6,n8,n4,n3.1,n9,n5,n1.1,5,1000000,n2)))))))) no) (ae y2 (ae y0 (ae y1 (ret (Sum.inl (y6,n8,n4,n3.1,n9,n5,5,aS,n6,n2.1,ba,n7.1,bl,1000000,bk.2))) (ae y2 (ret (Sum.inl (y6,n8,n4,n3.1,n9,n5,5,aS,n6,n2.1,ba,n7.1,1000000,bk))) (ae y4 (ret (Sum.inl (y6,n8,n4,n3.1,n9,n5,5,aS,n6,n2.1,ba,1000000,n7.2))) (ae y5 (ret (Sum.inl (y6,n8,n4,n3.1,n9,n5,5,aS,n6,n2.1,1000000,n7))) (ae y3 (ret (Sum.inl (y6,n8,n4,n3.1,n9,n5,5,aS,n6,1000000,n2.2))) (ret (Sum.inl (y6,n8,n4,n3.1,n9,n5,5,aS,1000000,n2)))))))) no) (ae y4 (ae y0 (ae y1 (ret (Sum.inl (y6,n8,n4,n3.1,n9,5,n1.1,aS,n6,n2.1,ba,n7.1,bl,1000000,bk.2))) (ae y2 (ret (Sum.inl (y6,n8,n4,n3.1,n9,5,n1.1,aS,n6,n2.1,ba,n7.1,1000000,bk))) (ae y4 (ret (Sum.inl (y6,n8,n4,n3.1,n9,5,n1.1,aS,n6,n2.1,ba,1000000,n7.2))) (ae y5 (ret (Sum.inl (y6,n8,n4,n3.1,n9,5,n1.1,aS,n6,n2.1,1000000,n7))) (ae y3 (ret (Sum.inl (y6,n8,n4,n3.1,n9,5,n1.1,aS,n6,1000000,n2.2))) (ret (Sum.inl (y6,n8,n4,n3.1,n9,5,n1.1,aS,1000000,n2)))))))) no) (ae y5 (ae y0 (ae y1 (ret (Sum.inl (y6,n8,n4,n3.1,5,n5,n1.1,aS,n6,n2.1,ba,n7.1,bl,1000000,bk.2))) (ae y2 (ret (Sum.inl (y6,n8,n4,n3.1,5,n5,n1.1,aS,n6,n2.1,ba,n7.1,1000000,bk))) (ae y4 (ret (Sum.inl (y6,n8,n4,n3.1,5,n5,n1.1,aS,n6,n2.1,ba,1000000,n7.2))) (ae y5 (ret (Sum.inl (y6,n8,n4,n3.1,5,n5,n1.1,aS,n6,n2.1,1000000,n7))) (ae y3 (ret (Sum.inl (y6,n8,n4,n3.1,5,n5,n1.1,aS,n6,1000000,n2.2))) (ret (Sum.inl (y6,n8,n4,n3.1,5,n5,n1.1,aS,1000000,n2)))))))) no) (ae y3 (ae y0 (ae y1 (ret (Sum.inl (y6,n8,n4,5,n9,n5,n1.1,aS,n6,n2.1,ba,n7.1,bl,1000000,bk.2))) (ae y2 (ret (Sum.inl (y6,n8,n4,5,n9,n5,n1.1,aS,n6,n2.1,ba,n7.1,1000000,bk))) (ae y4 (ret (Sum.inl (y6,n8,n4,5,n9,n5,n1.1,aS,n6,n2.1,ba,1000000,n7.2))) (ae y5 (ret (Sum.inl (y6,n8,n4,5,n9,n5,n1.1,aS,n6,n2.1,1000000,n7))) (ae y3 (ret (Sum.inl (y6,n8,n4,5,n9,n5,n1.1,aS,n6,1000000,n2.2))) (ret (Sum.inl (y6,n8,n4,5,n9,n5,n1.1,aS,1000000,n2)))))))) no) (ae y0 (ae y1 (ret (Sum.inl (y6,n8,5,n3.1,n9,n5,n1.1,aS,n6,n2.1,ba,n7.1,bl,1000000,bk.2))) (ae y2 (ret (Sum.inl (y6,n8,5,n3.1,n9,n5,n1.1,aS,n6,n2.1,ba,n7.1,1000000,bk))) (ae y4 (ret (Sum.inl (y6,n8,5,n3.1,n9,n5,n1.1,aS,n6,n2.1,ba,1000000,n7.2))) (ae y5 (ret (Sum.inl (y6,n8,5,n3.1,n9,n5,n1.1,aS,n6,n2.1,1000000,n7))) (ae y3 (ret (Sum.inl (y6,n8,5,n3.1,n9,n5,n1.1,aS,n6,1000000,n2.2))) (ret (Sum.inl (y6,n8,5,n3.1,n9,n5,n1.1,aS,1000000,n2)))))))) no)))))) no) (ret (Sum.inr ((d.1,y7),d.2)))
def acj:=bD (aci) 2000
def ali (qi:alc)(dA:LT re EP):Pg VR:=opt (dA (0,(λx=>0,λx=>0),0,0,0,0,0,0,0,0,0,0,0,0,λx=>0,λx=>0)) λd=>let n3:=d.2.2.2;let n1:=n3.2.2.2.2;let n2:=n1.2.2.2.2;opt (qi 0 24 16384 n2.2.2.2.1) λaj=>opt (qi 0 4 1048576 aj) λaF=>opt (qi 4 7 17179869184 aF) λbx=>opt (qi 10 13 1024 bx) λcv=>opt (qi 13 16 65536 cv) λdN=>opt (qi 22 24 17179869184 dN) λcL=>opt (qi 0 24 17592186044416 n2.2.2.2.2) λjW=>opt (qi 0 4 68719476736 jW) λpF=>opt (qi 10 13 67108864 pF) λnx=>opt (qi 13 16 4294967296 nx) λku=>opt (qi 16 22 17179869184 ku) λuO=>ret (d.2.2.1,n3.1,n3.2.1,n3.2.2.1,n3.2.2.2.1,n1.1,n1.2.1,n1.2.2.1,n1.2.2.2.1,n2.1,n2.2.1,n2.2.2.1,cL,uO)
def alj:Option VR:=(ali ald acj).val
abbrev KZ:=alc×(LT re EP)
def VS (p:KZ):KK:=⟨[ayy p.1],⟨[⟨3,(2::3::rg 5 32 []),[]⟩],[fg 3 0 re ach p.2],[],[],(some ⟨0,(rg 1 36 []),[]⟩)⟩,0,8⟩
theorem at6 (p:KZ):LI (VS p) 3 re ach (aci):=λ_ d c K=>by kernel_rfl
theorem aC2 (p:KZ):D2 (VS p) alg (lf Rg) λb=>ali p.1 p.2:=λb=>by kernel_rfl
abbrev VT:KZ:=(ald,acj)
theorem aC3 [ax]:SC (alh alj):=sc (kS (k:=VS VT) (.c aKk (.nil _)) [3] [] ⟨kL (at6 VT),trivial⟩ trivial (aC2 VT))
def Ys:=qa (pr (cu aP (c jS (c xX (c ac4 fU)))) bB)
def H2:=qe (res (pr (pw (c ac6 (c aic (cl (ra (cu auD (cu aT (cu aT (cu aT (c gi (c gi (cl gi (cu aT (cu aT (cu aT (cu aLe nil)))))))))))) nil)))) (pl kZ nil)))
abbrev Yt:=H2.B
abbrev Yu:=NI->NI->NI->Int->Int->Int->Int->Bool->Option Yt
def Yv (g:Yu):Ct:=(231,FC Ys (lf H2) (λb=>g b.1.1 b.1.2.1.1 b.1.2.1.2 b.1.b.1.1 b.1.b.1.2.1 b.1.b.1.b b.1.b.2 b.2))
def K0 (aN:eL)(gw:KG)(bV:kO)(bO:fw)(x0:Nat->Int)(x1:Nat->Int)(x2:Nat->Int)(x3:Int)(x4:Int)(x5:Int)(x6:Int)(x7:Bool):Pg Yt:=opt (aN x0 x7) λd=>opt (gw d.1 4 3 d.2 (cr x3 [x5,x4,x3]) false) λd=>let n3:=d.1.2;let n2:=d.2.1;let n1:=d.2.2;opt bV λaj=>ae (Nat.ble 3 n3) (opt (bO x1 x2 4 3 n2 (cr x6 [x6,x6,x6]) true) λaF=>ret (((d.1,n2,n3,n1).1.1,aF.1,n1 0,n1 1,n1 2),aF.2)) (ae (Nat.ble 2 n3) (opt (bO x1 x2 4 3 n2 (cr x6 [x6,x6,x6]) true) λaF=>ret (((d.1,n2,n3,n1).1.1,aF.1,n1 0,n1 1,0),aF.2)) (ae (Nat.ble 1 n3) (opt (bO x1 x2 4 3 n2 (cr x6 [x6,x6,x6]) true) λaF=>ret (((d.1,n2,n3,n1).1.1,aF.1,n1 0,0,0),aF.2)) (opt (bO x1 x2 4 3 n2 (cr x6 [x6,x6,x6]) true) λaF=>ret (((d.1,n2,n3,n1).1.1,aF.1,0,0,0),aF.2))))
def wE:=λx0 x1 x2 x3 x4 x5 x6 x7=>(K0 bX iX dI cQ x0 x1 x2 x3 x4 x5 x6 x7).val
theorem at7:∀aN gw bV bO,D0 [ir aN,KH gw,o7 bV,yA bO] 231 Ys (lf H2) λb=>K0 aN gw bV bO b.1.1 b.1.2.1.1 b.1.2.1.2 b.1.b.1.1 b.1.b.1.2.1 b.1.b.1.b b.1.b.2 b.2:=λ_ _ _ _ b=>by kernel_rfl
theorem at8 [ax]:SC (Yv wE):=s0 (.c jf (.c Vi (.c tx (.c Dn (.nil _))))) (at7 bX iX dI cQ)
def RT:=qa (pr (cu aP (c jS (c xX C4))) bB)
def DJ:=qe (res (pr (pw (c ac6 (c aic (cl (ra (cu auD (cu aT (cu aT (cu aT (cu aT (cu aT (cu aT (c gi (c gi (cl gi aLk))))))))))) nil)))) (pl kZ nil)))
abbrev RU:=DJ.B
abbrev RW:=NI->NI->NI->Int->Int->Int->Bool->Option RU
def RX (g:RW):Ct:=(232,FC RT (lf DJ) (λb=>g b.1.1 b.1.2.1.1 b.1.2.1.2 b.1.b.1 b.1.b.2.1 b.1.c b.2))
def FH (aN:eL)(gw:KG)(bV:kO)(bO:fw)(x0:Nat->Int)(x1:Nat->Int)(x2:Nat->Int)(x3:Int)(x4:Int)(x5:Int)(x6:Bool):Pg RU:=opt (aN x0 x6) λd=>opt (gw d.1 7 2 d.2 (cr x3 [x4,x3]) true) λd=>let n3:=d.1.2;let n2:=d.2.1;let n1:=d.2.2;opt bV λaj=>ae (Nat.ble 3 n3) (opt (bO x1 x2 7 2 n2 (cr x5 [x5,x5]) true) λaF=>ret (((d.1,n2,n3,n1).1.1,aF.1,n1 0,n1 1,n1 2),aF.2)) (ae (Nat.ble 2 n3) (opt (bO x1 x2 7 2 n2 (cr x5 [x5,x5]) true) λaF=>ret (((d.1,n2,n3,n1).1.1,aF.1,n1 0,n1 1,0),aF.2)) (ae (Nat.ble 1 n3) (opt (bO x1 x2 7 2 n2 (cr x5 [x5,x5]) true) λaF=>ret (((d.1,n2,n3,n1).1.1,aF.1,n1 0,0,0),aF.2)) (opt (bO x1 x2 7 2 n2 (cr x5 [x5,x5]) true) λaF=>ret (((d.1,n2,n3,n1).1.1,aF.1,0,0,0),aF.2))))
def rM:=λx0 x1 x2 x3 x4 x5 x6=>(FH bX iX dI cQ x0 x1 x2 x3 x4 x5 x6).val
theorem amT:∀aN gw bV bO,D0 [ir aN,KH gw,o7 bV,yA bO] 232 RT (lf DJ) λb=>FH aN gw bV bO b.1.1 b.1.2.1.1 b.1.2.1.2 b.1.b.1 b.1.b.2.1 b.1.c b.2:=λ_ _ _ _ b=>by kernel_rfl
theorem amU [ax]:SC (RX rM):=s0 (.c jf (.c Vi (.c tx (.c Dn (.nil _))))) (amT bX iX dI cQ)
def ahg:=qa (pr (cu aP (c jS (c xX wY))) bB)
def Na:=qe (res (pr (pw (c ac6 (c aic (cl (ra (cu auD (cu aT (cu aT (cu aT (cu aT (cu aT (cu aT (cu aT (cu aT (cl gi (cu (gc aLa) nil)))))))))))) nil)))) (pl kZ nil)))
abbrev ahh:=Na.B
abbrev ahi:=NI->NI->NI->Int->Int->Bool->Option ahh
def ahj (g:ahi):Ct:=(233,FC ahg (lf Na) (λb=>g b.1.1 b.1.2.1.1 b.1.2.1.2 b.1.b.1 b.1.b.2 b.2))
def Rh (aN:eL)(gw:KG)(bV:kO)(bO:fw)(x0:Nat->Int)(x1:Nat->Int)(x2:Nat->Int)(x3:Int)(x4:Int)(x5:Bool):Pg ahh:=opt (aN x0 x5) λd=>opt (gw d.1 9 1 d.2 (λj=>bif Nat.beq j 0 then x3 else x3) true) λd=>opt bV λaj=>ae (Nat.ble 1 d.1.2) (opt (bO x1 x2 9 1 d.2.1 (λj=>bif Nat.beq j 0 then x4 else x4) true) λaF=>ret (((d.1,d.2.1,d.1.2,d.2.2).1.1,aF.1,d.2.2 0),aF.2)) (opt (bO x1 x2 9 1 d.2.1 (λj=>bif Nat.beq j 0 then x4 else x4) true) λaF=>ret (((d.1,d.2.1,d.1.2,d.2.2).1.1,aF.1,0),aF.2))
def Bv:=λx0 x1 x2 x3 x4 x5=>(Rh bX iX dI cQ x0 x1 x2 x3 x4 x5).val
theorem azO:∀aN gw bV bO,D0 [ir aN,KH gw,o7 bV,yA bO] 233 ahg (lf Na) λb=>Rh aN gw bV bO b.1.1 b.1.2.1.1 b.1.2.1.2 b.1.b.1 b.1.b.2 b.2:=λ_ _ _ _ b=>by kernel_rfl
theorem azP [ax]:SC (ahj Bv):=s0 (.c jf (.c Vi (.c tx (.c Dn (.nil _))))) (azO bX iX dI cQ)
def DK:=qa (pl (cl (aa lI) nil) nil)
def afr:=qe B3
abbrev alk:=afr.B
abbrev alm:=DK.B->Option alk
def aln (g:alm):Ct:=(15,FC DK (lf afr) g)
def iY:=qs (st (pr (us 1 (cu aIr (cu kv (us 3 (xs 1 (cu aQL (us 4 (cu aQ4 (us 4 (cu aQ5 (us 4 (cu kv (us 4 (c ab (us 3 (cl ai (us 26 aR1))))))))))))))))) (pl (cl (so (c gi (c gi (c gi (c gi (c gi (c gi (c gi (c gi (c gi (c gi (c gi (c gi (c gi (c gi (c gi (c gi aLW))))))))))))))))) nil) nil)))
def ahk:=qs (st (pu (us 2 (cu kv (us 119 nil))) (pu nil nil)))
def ahl:=qs (st (pr (us 1 (cu aIr (cu kv (us 3 (xs 1 (cu aQL (us 4 (cu aQ4 (us 4 (cu aQ5 (us 4 (cu kv (us 4 (c ab (us 3 (c ai (cl ab (us 25 aR1)))))))))))))))))) (pl (cl (so (c gi (c gi (c gi (c gi (c gi (c gi (c gi (c gi (c gi (c gi (c gi (c gi (c gi (c gi (c gi (c gi aLW))))))))))))))))) nil) nil)))
abbrev sZ:=ahk.B⊕ahl.B
def ao4 {ρ:Type}(x:sZ)(K:AX->St->Option ρ):Option ρ:=(Sum.elim (λd=>K .ret (ahk.em d)) (λd=>K (.ex 2) (ahl.em d))) x
def Og (eT:yM)(d:iY.B):PL iY sZ:=let n2:=d.1.2;let n1:=d.2.2.2.2.2.2.2.2.2.2.2.2.2.2.2.2.2;let y0:=Int.toNat n2;let y1:=aX n2 24;let y2:=Nat.ble (0+y0*1+1) 24;let y3:=decide (n2<24);ae y3 (ae y1 (ae y2 (opt (eT (n1.1 y0) 0 72057594037927936) λaj=>ae (!aj) (ret (Sum.inr (Sum.inl ()))) (ae y1 (ae y2 (opt (eT (n1.2.1 y0) 1 72057594037927936) λaF=>ae (!aF) (ret (Sum.inr (Sum.inl ()))) (ret (Sum.inl ((d.1.1,wI (n2+1)),d.2)))) no) no)) no) no) (ret (Sum.inr (Sum.inr ((d.1.1,n2,y3),d.2))))
def GQ:=bD (Og lX) 2000
def Yw (eT:yM)(aHN:afo)(oV:LT iY sZ)(x:DK.B):Pg alk:=let n2:=x.2.2.2.2;let n8:=n2.2.1;let n4:=n8.2.2;let n3:=n2.1.2.2;let n7:=n3.2.2;ae (decide (n2.1.1<1)) (ret false) (ae (decide (n2.1.1>1000)) (ret false) (opt (eT n8.1 1 1099511627776) λd=>ae (!d) (ret false) (ae (decide (n2.1.2.1<1)) (ret false) (ae (decide (n2.1.2.1>1000)) (ret false) (opt (eT n8.2.1 1 1099511627776) λd=>ae (!d) (ret false) (ae (decide (n3.1<1)) (ret false) (ae (decide (n3.1>1000)) (ret false) (opt (eT n4.1 1 1099511627776) λd=>ae (!d) (ret false) (ae (decide (n3.2.1<1)) (ret false) (ae (decide (n3.2.1>1000)) (ret false) (opt (eT n4.2.1 1 1099511627776) λd=>ae (!d) (ret false) (ae (decide (n7.1<1)) (ret false) (ae (decide (n7.1>1000)) (ret false) (opt (eT n4.2.2.1 1 1099511627776) λd=>ae (!d) (ret false) (ae (decide (n7.2<1)) (ret false) (ae (decide (n7.2>1000)) (ret false) (opt (eT n4.2.2.2 1 1099511627776) λd=>ae (!d) (ret false) (opt (oV ((d,0),x.1,x.2.1,x.2.2.1,x.2.2.2.1,n2.1.1,n2.1.2.1,n3.1,n3.2.1,n7.1,n7.2,n8.1,n8.2.1,n4.1,n4.2.1,n4.2.2.1,n4.2.2.2,n2.2.2)) λx=>sum x (λd=>ret false) λd=>let n6:=d.2.2.2;let n1:=n6.2.2.2.2.2.2.2.2.2.2.2.2.2.2.2.2;let n5:=n1.2.2.2.2;opt (aHN n5.2.1 n5.2.2.1 n5.2.2.2) λaj=>sm aj (λd=>ret false) (λaF=>opt (eT d.2.1 1000 100000) λbx=>ae bx (opt (eT d.2.2.1 0 300000) λcv=>ae cv (ae (decide (n6.1>=1)) (ae (decide (n6.1<=64)) (ae (decide (n6.2.1>=0)) (ae (decide (n6.2.1<=100)) (opt (eT n1.1 0 1099511627776) λdN=>ae dN (opt (eT n1.2.1 1 72057594037927936) λcL=>ae cL (ae (decide (n1.2.2.1>=0)) (ae (decide (n1.2.2.1<=3)) (opt (eT n1.2.2.2.1 1 1073741824) λjW=>ae jW (ae (decide (n5.1>=1)) (ret (decide (n5.1<=64))) (ret false)) (ret false)) (ret false)) (ret false)) (ret false)) (ret false)) (ret false)) (ret false)) (ret false)) (ret false)) (ret false)) (ret false))))))))))))))))))))
def zm:=λx=>(Yw lX wD GQ x).val
abbrev Yx:=yM×afo×(LT iY sZ)
def alo (p:Yx):KK:=⟨[VQ p.1,at5 p.2.1],⟨[⟨2,(0::3::4::rg 8 4 (13::14::15::21::rg 29 8 (38::39::40::rg 48 10 [61,62,66,67,71,72,76,77,81,82,86,87,91,92,96,97,101,102,106,107,111,112,116,117,121]))),[]⟩,⟨8,(0::3::4::5::rg 8 4 (rg 13 4 (rg 18 4 (rg 23 4 (28::29::30::rg 32 5 (38::39::40::rg 48 10 (61::62::66::67::71::72::76::77::81::82::86::87::91::92::96::97::101::102::106::107::111::112::116::117::121::37::rg 41 7 []))))))),[]⟩],[fg 8 0 iY ao4 p.b],[],[],(some ⟨0,(0::1::rg 3 119 []),[]⟩)⟩,0,15⟩
theorem aC4 (p:Yx):LI (alo p) 8 iY ao4 (Og p.1):=λ_ d c K=>by kernel_rfl
theorem aKl (p:Yx):D2 (alo p) DK (lf afr) λb=>Yw p.1 p.2.1 p.b b:=λb=>by kernel_rfl
abbrev alp:Yx:=(lX,wD,GQ)
theorem ayA [ax]:SC (aln zm):=sc (kS (k:=alo alp) (.c alb (.c aHM (.nil _))) [2,8] [] ⟨kN,⟨kL (aC4 alp),trivial⟩⟩ trivial (aKl alp))
def ack:=qa (dp (cu aP (c ai (c F' auA))) λa=>(c uN (cl (cl (gs a.2.1.1 mE) nil) nil)))
def K1:=qe aGd
abbrev acm:=K1.B
abbrev acn:=Int->Nat->Nat->Bool->NI->Bool->Bool->Option acm
def aco (g:acn):Ct:=(181,sQ 3 [.i .i64] (sQ 2 [.i .i64] (FC ack (lf K1) (λb=>g b.1.1 b.1.2.1.1 b.1.b.1 b.2.1 b.b b.1.2.1.2 b.1.b.2))))
def oc:=qs (st (dp (cu aP (c ai (c F' (c F' (us 5 (cu awu aQV)))))) λa=>(pl (c ck (c (so (cl (gs a.2.1.1 mE) nil)) YW)) cB)))
def aqF:=qs (st (pr (cu aP (c ai (c F' (c F' (us 5 (cu awu aQZ)))))) (pl (c ck (c HE YW)) cB)))
abbrev Av:=(aQe×Bool×NI×Int×Int)
def VU {ρ:Type}(x:Av)(K:AX->St->Option ρ):Option ρ:=(λd=>K (.ex 0) (aqF.em (d.1,d.2.1,(d.1.2.1.1,d.b.1),d.b.2))) x
def Aw (aw:bI)(cE:mF)(wc:qc)(d:oc.B):PL oc Av:=let y0:=decide (d.1.2.2.2.2<d.1.2.2.2.1);ae y0 (ae (aX d.1.2.2.2.2 d.1.2.1.1) (opt (aw (d.2.2.1 (Int.toNat d.1.2.2.2.2)) d.2.1) λaj=>ae (aX d.1.2.2.2.2 d.1.2.2.1.1) (opt (aw (d.2.2.1 (Int.toNat d.1.2.2.2.2)) aj.2) λaF=>opt (cE aj.1 aF.1) λbx=>opt (wc 2 (λj=>bif Nat.beq j 1 then bx.1 else bif Nat.beq j 0 then d.2.2.2.1 else d.2.2.2.1) (λj=>bif Nat.beq j 1 then bx.2 else bif Nat.beq j 0 then d.2.2.2.2 else d.2.2.2.2) true) λcv=>ret (Sum.inl ((d.1.1,d.1.2.1,d.1.2.2.1,d.1.2.2.2.1,wI (d.1.2.2.2.2+1)),aF.2,d.2.2.1,cv.1))) no) no) (ret (Sum.inr ((d.1.1,d.1.2.1,d.1.2.2.1,d.1.2.2.2.1,d.1.2.2.2.2,y0),d.2)))
def H4:=bD (Aw aQ eQ ji) 2000
def Nb (gZ:vy)(dA:LT oc Av)(x0:Int)(x1:Nat)(x2:Nat)(x3:Bool)(x4:Nat->Int)(w0:Bool)(w1:Bool):Pg acm:=let y0:=if Int.ofNat x2<Int.ofNat x1 then Int.ofNat x2 else Int.ofNat x1;ae (decide (x0<0)) (opt (gZ 0 0 x0 x3) λd=>ret d) (ae (decide (x0>120)) (opt (gZ 0 0 x0 x3) λd=>ret d) (ae (Nat.beq x1 x1) (opt (dA ((x0,(x1,w0),(x2,w1),if 100<y0 then 100 else y0,0),x3,x4,0,0)) λd=>opt (gZ d.2.2.2.1 d.2.2.2.2 d.1.1 d.2.1) λd=>ret d) no))
def tE:=λx0 x1 x2 x3 x4 w0 w1=>(Nb me H4 x0 x1 x2 x3 x4 w0 w1).val
abbrev ER:=vy×bI×mF×qc×(LT oc Av)
def Nc (p:ER):KK:=⟨[G6 p.1,cW p.2.1,vT p.b.1,II p.b.2.1],⟨[⟨5,(rg 4 5 (rg 10 15 (rg 27 26 []))),[]⟩],[fg 5 2 oc VU p.c],[0],[],(some ⟨0,(rg 0 8 (rg 9 44 [])),[]⟩)⟩,2,181⟩
theorem amV (p:ER):LI (Nc p) 5 oc VU (Aw p.2.1 p.b.1 p.b.2.1):=λ_ d c K=>by kernel_rfl
theorem av3 (p:ER):D2 (Nc p) ack (lf K1) λb=>Nb p.1 p.c b.1.1 b.1.2.1.1 b.1.b.1 b.2.1 b.b b.1.2.1.2 b.1.b.2:=λb=>by kernel_rfl
abbrev Nd:ER:=(me,aQ,eQ,ji,H4)
theorem av4 [ax]:SC (aco tE):=sc (Sound.nil 3 [.i .i64]<|Sound.nil 2 [.i .i64]<|kS (k:=Nc Nd) (.c Qc (.c c7 (.c zh (.c OD (.nil _))))) [5] [] ⟨kL (amV Nd),trivial⟩ trivial (av3 Nd))
def VV:=qa (pr (cu aP (c jS C4)) bB)
def FI:=qe aAJ
abbrev VW:=FI.B
abbrev VX:=NI->Int->Int->Int->Bool->Option VW
def VY (g:VX):Ct:=(205,FC VV (lf FI) (λb=>g b.1.1 b.1.2.1 b.1.b.1 b.1.b.2 b.2))
def H5 (bE:kr)(ES:acn)(pK:Zy)(aW:cR)(cU:wb)(aD:cz)(x0:Nat->Int)(x1:Int)(x2:Int)(x3:Int)(x4:Bool):Pg VW:=opt (bE x0 16) λd=>opt (ES 30 2 2 x4 (cr d.1 [d.2.1,d.1]) false false) λaj=>ae (decide (aj.1<1048576)) (ret (((λx=>0,0,0,0),4),aj.2)) (opt (pK d.2.1 d.1 aj.2) λaF=>opt (aW x1 aF.1 aF.2) λbx=>opt (cU bx.1) λcv=>opt (aD d.2.1 aj.1 30 bx.2) λdN=>opt (aD d.1 aj.1 30 dN.2) λd=>ret (((λj=>bif Nat.beq j 17 then d.1 else bif Nat.beq j 16 then wI (0-dN.1) else 0,cv,x2,x3),0),d.2))
def ua:=λx0 x1 x2 x3 x4=>(H5 en tE w7 bJ jt bp x0 x1 x2 x3 x4).val
theorem aqG:∀bE ES pK aW cU aD,D0 [pG bE,aco ES,Zz pK,gD aW,zM cU,fL aD] 205 VV (lf FI) λb=>H5 bE ES pK aW cU aD b.1.1 b.1.2.1 b.1.b.1 b.1.b.2 b.2:=λ_ _ _ _ _ _ b=>by kernel_rfl
theorem aqH [ax]:SC (VY ua):=s0 (.c sU (.c av4 (.c an2 (.c il (.c Eu (.c gC (.nil _))))))) (aqG en tE w7 bJ jt bp)
def jC:=qa (pr (cl aLX (cu aP (cu (app 1 10) nil))) (cu aK5 (c ou bB)))
def rE:=qe (res (pr (aa auL) (pl aLo nil)))
abbrev CI:=rE.B
abbrev mX:=jC.B->Option CI
def r9 (g:mX):Ct:=(142,FC jC (lf rE) g)
def sd (dm:zU)(gM:zk)(eu:wj)(bq:gQ)(x:jC.B):Pg CI:=let n2:=x.2.1;let n6:=n2.1.2;let n1:=x.1.2;let n5:=n1.1.2;let n4:=n1.2.2;let n3:=n1.2.1;opt (dm 2 x.2.2 (cr n3.1 [n2.2.1.1,n3.1]) (cr n3.2.1 [n2.2.1.2.1,n3.2.1]) (cr n3.2.2 [n2.2.1.2.2,n3.2.2]) true) λd=>opt (dm 2 d.2 (cr n4.1 [n2.2.2.1,n4.1]) (cr n4.2.1 [n2.2.2.2.1,n4.2.1]) (cr n4.2.2 [n2.2.2.2.2,n4.2.2]) true) λaj=>opt gM λaF=>ae (!(n2.1.1==1073741824&&(n6.1==0&&(n6.2.1==0&&(n6.2.2==0&&true))))) (opt (eu n2.1.1 n6.1 n6.2.1 n6.2.2 n1.1.1 n5.1 n5.2.1 n5.2.2 aj.2) λbx=>opt (bq bx.1.1 bx.1.2.1 bx.1.2.2.1 bx.1.2.2.2 bx.2) λcv=>ret ((x.1.1,cv.1.1,cv.1.2.1,cv.1.2.2.1,cv.1.2.2.2,d.1.1,d.1.2.1,d.1.2.2,aj.1),cv.2)) (ret ((x.1.1,n1.1.1,n5.1,n5.2.1,n5.2.2,d.1.1,d.1.2.1,d.1.2.2,aj.1),aj.2))
def gG:=λx=>(sd jl mH j9 cX x).val
theorem SP:∀dm gM eu bq,D0 [HQ dm,IL gM,Dl eu,mi bq] 142 jC (lf rE) λb=>sd dm gM eu bq b:=λ_ _ _ _ b=>by kernel_rfl
theorem CJ [ax]:SC (r9 gG):=s0 (.c Mz (.c OK (.c IM (.c nE (.nil _))))) (SP jl mH j9 cX)
def iu:=qa (pr (cl aLX (cu aP (cu aIp (cu (app 2 1) (cu ah7 (cu (app 4 4) nil)))))) (cu (cu (gp 5 1) nil) (c fP (cu (cu (gp 6 3) nil) (c fP (c ac7 (c uN (cd aGb λb6=>(cl (cl (gs b6.b fX) nil) nil)))))))))
def o8:=qe (res (pr (aa auL) (pl (cu eW (cu eW (cu eW (cu eW (cu eW (cl arq auy)))))) nil)))
abbrev zn:=o8.B
abbrev lx:=iu.B->Option zn
def qj (g:lx):Ct:=(145,FC iu (lf o8) g)
def qk (gR:Su)(dm:zU)(eu:wj)(bq:gQ)(x:iu.B):Pg zn:=let n3:=x.1.2.1;let n2:=x.2.2;let n1:=x.1.2.2;opt (gR x.2.1.1 x.2.1.2.1 x.2.1.2.2 n2.2.2.2.1.2.1 n2.2.2.1) λd=>opt (dm 2 d.2 (cr n1.1.1 [d.1.1,n1.1.1]) (cr n1.1.2.1 [d.1.2.1,n1.1.2.1]) (cr n1.1.2.2 [d.1.2.2,n1.1.2.2]) true) λd=>opt (gR n2.1.1 n2.1.2.1 n2.1.2.2 n2.2.2.2.1.2.1 d.2) λaj=>opt (dm 2 aj.2 (cr n1.2.1 [aj.1.1,n1.2.1]) (cr n1.2.2.1 [aj.1.2.1,n1.2.2.1]) (cr n1.2.2.2 [aj.1.2.2,n1.2.2.2]) true) λaF=>opt (eu n2.2.1.1 n2.2.1.2.1 n2.2.1.2.2.1 n2.2.1.2.2.2 n3.1 n3.2.1 n3.2.2.1 n3.2.2.2 aF.2) λbx=>opt (bq bx.1.1 bx.1.2.1 bx.1.2.2.1 bx.1.2.2.2 bx.2) λcv=>ret ((x.1.1,cv.1.1,cv.1.2.1,cv.1.2.2.1,cv.1.2.2.2,d.1.1,d.1.2.1,d.1.2.2,aF.1),cv.2)
def fE:=λx=>(qk rV jl j9 cX x).val
theorem O5:∀gR dm eu bq,D0 [Sv gR,HQ dm,Dl eu,mi bq] 145 iu (lf o8) λb=>qk gR dm eu bq b:=λ_ _ _ _ b=>by kernel_rfl
theorem zp [ax]:SC (qj fE):=s0 (.c aee (.c Mz (.c IM (.c nE (.nil _))))) (O5 rV jl j9 cX)
def jD:=qa (pu (cu F9 (cu Ou (cu aLZ nil))) (cd aGb λb0=>(c uN (cu apB (c fP (cu aQw (c fP (c ac7 (cl (cl (gs b0.b fX) nil) nil)))))))))
def rF:=qe (res (pu Th (pl (cu eW (c arq (cu eW (cu eW (cu eW aRN))))) nil)))
abbrev se:=rF.B
abbrev sf:=jD.B->Option se
def CL (g:sf):Ct:=(141,FC jD (lf rF) g)
def cM:=qs (st (dp (cu F9 (cu Ou (cu aLZ (us 8 (c (ac (wX 7 11)) aLf))))) λv=>(pl (c (so aGb) (c ck (cu YU (c wZ (cu auC (c wZ (c uQ (cl (so (cl (gs v.1 fX) nil)) nil)))))))) (cu (nat 7) auv))))
def O6:=qs (st (pr (cu F9 (cu Ou (cu aLZ (us 8 (c (ac (wX 7 11)) aLl))))) (pl (c (so aGb) (c ck (cu YU (c wZ (cu auC (c wZ (c uQ L5))))))) (cu (nat 7) auv))))
abbrev fF:=((Nat×Int×Int×Bool)×qP×Bool×Lx×Lx×aEK×NI×NI×NI×NI×NI×NI×NI×NI×NI×NI×NI)
def zq {ρ:Type}(x:fF)(K:AX->St->Option ρ):Option ρ:=(λd=>K (.ex 0) (O6.em (d.1,d.2.1,d.b.1,d.b.2.1,d.c.1,d.c.2.1,d.1.1,d.c.b))) x
def ql (sY:BX)(iL:rZ)(O7:lx)(d:cM.B):PL cM fF:=let ba:=d.2.1;let n6:=d.1.2;let n5:=d.2.2.2;let n1:=n5.2.2.2;let n8:=n1.2.2;let n2:=n8.2.2.2;let n7:=n2.2.2.2;let y0:=Int.toNat n6.2;let y1:=decide (n6.2<n6.1);ae y1 (ae (aX n6.2 d.1.1) (ae (Nat.beq ba.2.2 ba.2.2) (opt (O7 ((n1.1 y0,(n1.2.1 y0,n8.1 y0,n8.2.1 y0,n8.2.2.1 y0),(n2.1 y0,n2.2.1 y0,n2.2.2.1 y0),n7.1 y0,n7.2.1 y0,n7.2.2 y0),n5.1,n5.2.1,n5.2.2.1,d.2.2.1,ba,n1)) λaj=>let n3:=aj.1.2.2.2.2;let n9:=n3.2.2.2;opt (sY (λx=>0) aj.1.1 aj.1.2.1 aj.1.2.2.1 aj.1.2.2.2.1 n3.1 n3.2.1 n3.2.2.1 n9.1 n9.2.1 n9.2.2.1 n9.2.2.2) λaF=>opt (iL aF (n1.1 y0) aj.2) λbx=>let n4:=bx.1.2.2.2.2;let aS:=n4.2.2.2;ae (aX n6.2 ba.2.2) (ae (true&&Nat.ble (0+y0*11+11) (d.1.1*11+0)) (ret (Sum.inl ((d.1.1,n6.1,wI (n6.2+1)),ba,bx.2,n5.1,n5.2.1,n5.2.2.1,λj=>bif Nat.beq j y0 then bx.1.1 else n1.1 j,λj=>bif Nat.beq j y0 then bx.1.2.1 else n1.2.1 j,λj=>bif Nat.beq j y0 then bx.1.2.2.1 else n8.1 j,λj=>bif Nat.beq j y0 then bx.1.2.2.2.1 else n8.2.1 j,λj=>bif Nat.beq j y0 then n4.1 else n8.2.2.1 j,λj=>bif Nat.beq j y0 then n4.2.1 else n2.1 j,λj=>bif Nat.beq j y0 then n4.2.2.1 else n2.2.1 j,λj=>bif Nat.beq j y0 then aS.1 else n2.2.2.1 j,λj=>bif Nat.beq j y0 then aS.2.1 else n7.1 j,λj=>bif Nat.beq j y0 then aS.2.2.1 else n7.2.1 j,λj=>bif Nat.beq j y0 then aS.2.2.2 else n7.2.2 j))) no) no) no) no) (ret (Sum.inr ((d.1.1,n6.1,n6.2,y1),d.2)))
def qo:=bD (ql pN kQ fE) 2000
def si (dA:LT cM fF)(x:jD.B):Pg se:=ae (Nat.beq x.1.2.2 x.1.2.2) (opt (dA ((x.1.2.2,Int.ofNat x.1.2.2,0),x)) λd=>ret (d.2.2.1,d.1.1,d.2.2.2.2.2.2)) no
def jE:=λx=>(si qo x).val
abbrev mY:=BX×rZ×lx×(LT cM fF)
def sj (p:mY):KK:=⟨[Ob p.1,EO p.2.1,qj p.b.1],⟨[⟨1,(rg 3 8 (rg 14 20 [])),[]⟩],[fg 1 8 cM zq p.b.2],[7,1],[],(some ⟨0,(rg 0 34 []),[]⟩)⟩,8,141⟩
theorem Nf (p:mY):LI (sj p) 1 cM zq (ql p.1 p.2.1 p.b.1):=λ_ d c K=>by kernel_rfl
theorem SQ (p:mY):D2 (sj p) jD (lf rF) λb=>si p.b.2 b:=λb=>by kernel_rfl
abbrev sk:mY:=(pN,kQ,fE,qo)
theorem SR [ax]:SC (CL jE):=sc (kS (k:=sj sk) (.c aaM (.c KX (.c zp (.nil _)))) [1] [] ⟨kL (Nf sk),trivial⟩ trivial (SQ sk))
def jF:=qa (pu (cu F9 (cu Ou (cu aLB nil))) (cd aLp λb0=>(c uN (cu apB (c ou (cl (cl (gs b0.b fX) nil) nil))))))
def rG:=qe (res (pu Th (pl (cu eW (c arq aRN)) nil)))
abbrev sr:=rG.B
abbrev ss:=jF.B->Option sr
def CM (g:ss):Ct:=(141,FC jF (lf rG) g)
def cN:=qs (st (dp (cu F9 (cu Ou (cu aLB (us 8 (c (ac (wX 4 11)) aLf))))) λv=>(pl (c (so aLp) (c ck (cu YU (c (so ou) (cl (so (cl (gs v.1 fX) nil)) nil))))) (cu rq6 auv))))
def O8:=qs (st (pr (cu F9 (cu Ou (cu aLB (us 8 (c (ac (wX 4 11)) aLl))))) (pl (c (so aLp) (c ck (cu YU (c (so ou) L5)))) (cu rq6 auv))))
abbrev fG:=((Nat×Int×Int×Bool)×qP×Bool×afU×NI×NI×NI×NI×NI×NI×NI×NI×NI×NI×NI)
def zr {ρ:Type}(x:fG)(K:AX->St->Option ρ):Option ρ:=(λd=>K (.ex 0) (O8.em (d.1,d.2.1,d.b.1,d.b.2.1,d.1.1,d.c))) x
def qt (sY:BX)(iL:rZ)(SS:mX)(d:cN.B):PL cN fG:=let n6:=d.1.2;let n4:=d.2.2.2.2;let n1:=n4.2.2.2;let n9:=n1.2.2;let n5:=n9.2.2;let y0:=Int.toNat n6.2;let y1:=decide (n6.2<n6.1);ae y1 (ae (aX n6.2 d.1.1) (opt (SS ((n4.1 y0,(n4.2.1 y0,n4.2.2.1 y0,n1.1 y0,n1.2.1 y0),(n9.1 y0,n9.2.1 y0,n5.1 y0),n5.2.1 y0,n5.2.2.1 y0,n5.2.2.2 y0),d.2.2.2.1,d.2.2.1)) λaj=>let n2:=aj.1.2.2.2.2;let n7:=n2.2.2.2;opt (sY (λx=>0) aj.1.1 aj.1.2.1 aj.1.2.2.1 aj.1.2.2.2.1 n2.1 n2.2.1 n2.2.2.1 n7.1 n7.2.1 n7.2.2.1 n7.2.2.2) λaF=>opt (iL aF (n4.1 y0) aj.2) λbx=>let n3:=bx.1.2.2.2.2;let n8:=n3.2.2.2;ae (aX n6.2 d.2.1.2.2) (ae (true&&Nat.ble (0+y0*11+11) (d.1.1*11+0)) (ret (Sum.inl ((d.1.1,n6.1,wI (n6.2+1)),d.2.1,bx.2,d.2.2.2.1,λj=>bif Nat.beq j y0 then bx.1.1 else n4.1 j,λj=>bif Nat.beq j y0 then bx.1.2.1 else n4.2.1 j,λj=>bif Nat.beq j y0 then bx.1.2.2.1 else n4.2.2.1 j,λj=>bif Nat.beq j y0 then bx.1.2.2.2.1 else n1.1 j,λj=>bif Nat.beq j y0 then n3.1 else n1.2.1 j,λj=>bif Nat.beq j y0 then n3.2.1 else n9.1 j,λj=>bif Nat.beq j y0 then n3.2.2.1 else n9.2.1 j,λj=>bif Nat.beq j y0 then n8.1 else n5.1 j,λj=>bif Nat.beq j y0 then n8.2.1 else n5.2.1 j,λj=>bif Nat.beq j y0 then n8.2.2.1 else n5.2.2.1 j,λj=>bif Nat.beq j y0 then n8.2.2.2 else n5.2.2.2 j))) no) no) no) (ret (Sum.inr ((d.1.1,n6.1,n6.2,y1),d.2)))
def qu:=bD (qt pN kQ gG) 2000
def su (dA:LT cN fG)(x:jF.B):Pg sr:=ae (Nat.beq x.1.2.2 x.1.2.2) (opt (dA ((x.1.2.2,Int.ofNat x.1.2.2,0),x)) λd=>ret (d.2.2.1,d.1.1,d.2.2.2.2)) no
def jG:=λx=>(su qu x).val
abbrev mZ:=BX×rZ×mX×(LT cN fG)
def sw (p:mZ):KK:=⟨[Ob p.1,EO p.2.1,r9 p.b.1],⟨[⟨1,(rg 3 8 (rg 14 20 [])),[]⟩],[fg 1 5 cN zr p.b.2],[4,1],[],(some ⟨0,(rg 0 34 []),[]⟩)⟩,5,141⟩
theorem Ng (p:mZ):LI (sw p) 1 cN zr (qt p.1 p.2.1 p.b.1):=λ_ d c K=>by kernel_rfl
theorem SU (p:mZ):D2 (sw p) jF (lf rG) λb=>su p.b.2 b:=λb=>by kernel_rfl
abbrev sx:mZ:=(pN,kQ,gG,qu)
theorem SV [ax]:SC (CM jG):=sc (kS (k:=sw sx) (.c aaM (.c KX (.c CJ (.nil _)))) [1] [] ⟨kL (Ng sx),trivial⟩ trivial (SU sx))
def kW:=qa (dp (cu F9 (cu Ou (cl aKU nil))) λv=>(cd aGa λb0=>(c uN (c (cl (gs v.1 jk) nil) (cl (cl (gs b0.b fX) nil) nil)))))
def ub:=qe (res (pu Th (pl (cu eW (c arq (cu eW aL2))) nil)))
abbrev vd:=ub.B
abbrev vf:=kW.B->Option vd
def E8 (g:vf):Ct:=(81,sQ 2 [.i .i64,.i .i64,.i .i64,.i .i64,.i .i64,.i .i64,.i .i64,.i .i64,.i .i64,.i .i64] (FC kW (lf ub) g))
def cY:=qs (st (dp (cu F9 (us 3 (cu aAw (us 3 (c aKU (c ai aK7)))))) λv=>(pl (cd (so aGa) λb0=>(c ck (c (so (cl (gs v.1.1 jk) nil)) (cl (so (cl (gs b0.b fX) nil)) (cu YU nil))))) (cu rq7 auv))))
def SW:=qs (st (pr (cu F9 (us 3 (cu aAw (us 3 (c aKU (c ai aF3)))))) (pl (c (so aGa) (c ck (c ov (cl Y0 (cu YU nil))))) (cu rq7 auv))))
abbrev gH:=(aIj×qP×Bool×aNB×NI×NI×NI×NI×NI×NI×NI×NI×NI×NI×NI)
def CN {ρ:Type}(x:gH)(K:AX->St->Option ρ):Option ρ:=(λd=>K (.ex 0) (SW.em (d.1,d.2.1,d.b.1,(d.1.1.1,d.b.2.1),d.2.1.b,d.c))) x
def sy (SX:ss)(d:cY.B):PL cY gH:=let aS:=d.2.1;let n6:=d.1.2;let n1:=d.2.2.2;let n4:=n1.1.2.2.2.2;let n3:=n1.2.2.2.2.2;let n9:=n3.2.2.2;let y0:=Int.toNat n6.2;let y1:=aS.2.2*11;let y2:=decide (n6.2<n6.1);ae y2 (ae (aX n6.2 d.1.1.1) (ae (Nat.beq aS.2.2 aS.2.2) (opt (SX (aS,d.2.2.1,((n1.1.1 y0,n1.1.2.1 y0,n1.1.2.2.1 y0,n1.1.2.2.2.1 y0),(n4.1 y0,n4.2.1 y0,n4.2.2.1 y0),n4.2.2.2.1 y0,n4.2.2.2.2.1 y0,n4.2.2.2.2.2 y0),n1.2)) λaj=>let n7:=aj.2.2.2;let n5:=aj.2.1;let n2:=n7.2.2.2;let n8:=n2.2.2.2;let y0:=n5*11+0;ae (true&&Nat.beq y0 y1&&true) (ae (true&&Nat.ble (0+y0) (y1+0)) (ret (Sum.inl ((d.1.1,n6.1,wI (n6.2+1)),aS,aj.1,n1.1,λj=>bif true&&Nat.blt j (0+n5) then aj.2.2.1 j else n1.2.1 j,λj=>bif true&&Nat.blt j (0+n5) then n7.1 j else n1.2.2.1 j,λj=>bif true&&Nat.blt j (0+n5) then n7.2.1 j else n1.2.2.2.1 j,λj=>bif true&&Nat.blt j (0+n5) then n7.2.2.1 j else n1.2.2.2.2.1 j,λj=>bif true&&Nat.blt j (0+n5) then n2.1 j else n3.1 j,λj=>bif true&&Nat.blt j (0+n5) then n2.2.1 j else n3.2.1 j,λj=>bif true&&Nat.blt j (0+n5) then n2.2.2.1 j else n3.2.2.1 j,λj=>bif true&&Nat.blt j (0+n5) then n8.1 j else n9.1 j,λj=>bif true&&Nat.blt j (0+n5) then n8.2.1 j else n9.2.1 j,λj=>bif true&&Nat.blt j (0+n5) then n8.2.2.1 j else n9.2.2.1 j,λj=>bif true&&Nat.blt j (0+n5) then n8.2.2.2 j else n9.2.2.2 j))) no) no) no) no) (ret (Sum.inr ((d.1.1,n6.1,n6.2,y2),d.2)))
def sC:=bD (sy jG) 2000
def vg (dA:LT cY gH)(x:kW.B):Pg vd:=ae (Nat.beq x.1.1 x.1.1) (ae (Nat.beq x.2.1.2.2 x.2.1.2.2) (opt (dA ((x.1,Int.ofNat x.1.1,0),x.2)) λd=>ret (d.2.2.1,d.2.1.2.2,d.2.2.2.2)) no) no
def kX:=λx=>(vg sC x).val
abbrev oG:=mX×ss×(LT cY gH)
def vh (p:oG):KK:=⟨[r9 p.1,CM p.2.1],⟨[⟨2,(1::2::3::5::6::7::rg 11 8 []),[]⟩],[fg 2 4 cY CN p.b],[3,1],[],(some ⟨0,(rg 0 19 []),[]⟩)⟩,4,81⟩
theorem Ri (p:oG):LI (vh p) 2 cY CN (sy p.2.1):=λ_ d c K=>by kernel_rfl
theorem WX (p:oG):D2 (vh p) kW (lf ub) λb=>vg p.b b:=λb=>by kernel_rfl
abbrev vi:oG:=(gG,jG,sC)
theorem WY [ax]:SC (E8 kX):=sc (Sound.nil 2 [.i .i64,.i .i64,.i .i64,.i .i64,.i .i64,.i .i64,.i .i64,.i .i64,.i .i64,.i .i64]<|kS (k:=vh vi) (.c CJ (.c SV (.nil _))) [2] [] ⟨kL (Ri vi),trivial⟩ trivial (WX vi))
def VZ:=qa (pl fU nil)
def FJ:=qe B3
abbrev V0:=FJ.B
abbrev V1:=Int->Option V0
def V2 (g:V1):Ct:=(215,FC VZ (lf FJ) (λb=>g b))
def H6 (x0:Int):Pg V0:=ret (x0 !=x0)
def uc:=λx0=>(H6 x0).val
theorem aqI:D0 [] 215 VZ (lf FJ) λb=>H6 b:=λb=>by kernel_rfl
theorem aqJ [ax]:SC (V2 uc):=s0 (.nil _) aqI
def O9:=qa (pl wY nil)
def Cg:=qe Fi
abbrev O':=Cg.B
abbrev wF:=Int->Int->Option O'
def DL (g:wF):Ct:=(160,FC O9 (lf Cg) (λb=>g b.1 b.2))
def DM (ud:V1)(x0:Int)(x1:Int):Pg O':=opt (ud x0) λd=>opt (ud x1) λaj=>ae d (ae aj (ret 0) (ret (-1))) (ae aj (ret 1) (ae (decide (x0<x1)) (ret (-1)) (ae (decide (x0>x1)) (ret 1) (ret 0))))
def kl:=λx0 x1=>(DM uc x0 x1).val
theorem alq:∀ud,D0 [V2 ud] 160 O9 (lf Cg) λb=>DM ud b.1 b.2:=λ_ b=>by kernel_rfl
theorem Pb [ax]:SC (DL kl):=s0 (.c aqJ (.nil _)) (alq uc)
def zt:=qa (dp (c Tl auA) λv=>(c (cl (gs v.1.1 mE) nil) (cl (cl (gs v.2.1 mE) nil) nil)))
def o9:=qe aLq
abbrev zu:=o9.B
abbrev zw:=Nat->Nat->NI->NI->Bool->Bool->Option zu
def zy (g:zw):Ct:=(161,sQ 1 [.i .i64] (sQ 0 [.i .i64] (FC zt (lf o9) (λb=>g b.1.1.1 b.1.2.1 b.2.1 b.b b.1.1.2 b.1.b))))
def cy:=qs (st (dp (c Tl (c F' (us 7 (c Tl (c ai aFY))))) λv=>(pl (c (so (cl (gs v.1.1 mE) nil)) (cl (so (cl (gs v.2.1.1 mE) nil)) nil)) nil)))
def uP:=qs (st (pr (us 4 aQx) (pl (c HE aib) nil)))
def Ji:=qs (st (pr (c Tl (c F' (us 7 (c Tl (c ai aF5))))) (pl (c HE aib) nil)))
abbrev eU:=uP.B⊕(((Nat×Bool)×(Nat×Bool)×(Nat×Bool)×Int×Int×Bool)×NI×NI)
def xM {ρ:Type}(x:eU)(K:AX->St->Option ρ):Option ρ:=(Sum.elim (λd=>K .ret (uP.em d)) (λd=>K (.ex 0) (Ji.em (d.1,(d.1.1.1,d.2.1),d.1.2.1.1,d.b)))) x
def oB (mN:wF)(d:cy.B):PL cy eU:=let n1:=d.1.2;let n2:=n1.2.2;let y0:=Int.toNat n2.2;let y1:=decide (n2.2<n2.1);ae y1 (ae (aX n2.2 n1.2.1.1) (ae (decide (n2.2>=Int.ofNat n1.1.1)) (ret (Sum.inr (Sum.inl (1,(d.1.1.1,d.2.1),n1.1.1,d.2.2)))) (ae (aX n2.2 n1.1.1) (opt (mN (d.2.1 y0) (d.2.2 y0)) λaj=>ae (aj !=0) (ret (Sum.inr (Sum.inl (aj,(d.1.1.1,d.2.1),n1.1.1,d.2.2)))) (ret (Sum.inl ((d.1.1,n1.1,n1.2.1,n2.1,wI (n2.2+1)),d.2)))) no)) no) (ret (Sum.inr (Sum.inr ((d.1.1,n1.1,n1.2.1,n2.1,n2.2,y1),d.2))))
def oC:=bD (oB kl) 2000
def qv (dA:LT cy eU)(x0:Nat)(x1:Nat)(x2:Nat->Int)(x3:Nat->Int)(w0:Bool)(w1:Bool):Pg zu:=ae (Nat.beq x0 x0) (ae (Nat.beq x1 x1) (opt (dA (((x0,w0),(x1,w1),(x0,w0),Int.ofNat x0,0),x2,x3)) λx=>sum x (λd=>ret d.1) λd=>ae (decide (Int.ofNat d.1.1.1<Int.ofNat d.1.2.1.1)) (ret (-1)) (ret 0)) no) no
def fH:=λx0 x1 x2 x3 w0 w1=>(qv oC x0 x1 x2 x3 w0 w1).val
abbrev ly:=wF×(LT cy eU)
def qw (p:ly):KK:=⟨[DL p.1],⟨[⟨2,(rg 2 7 (rg 12 24 [])),[]⟩],[fg 2 2 cy xM p.2],[],[],(some ⟨0,(rg 0 4 (rg 5 31 [])),[]⟩)⟩,2,161⟩
theorem K2 (p:ly):LI (qw p) 2 cy xM (oB p.1):=λ_ d c K=>by kernel_rfl
theorem Pc (p:ly):D2 (qw p) zt (lf o9) λb=>qv p.2 b.1.1.1 b.1.2.1 b.2.1 b.b b.1.1.2 b.1.b:=λb=>by kernel_rfl
abbrev qx:ly:=(kl,oC)
theorem Pd [ax]:SC (zy fH):=sc (Sound.nil 1 [.i .i64]<|Sound.nil 0 [.i .i64]<|kS (k:=qw qx) (.c Pb (.nil _)) [2] [] ⟨kL (K2 qx),trivial⟩ trivial (Pc qx))
def Bw:=qa (pl (c aGh B4) nil)
def Nh:=qe Fi
abbrev ahm:=Nh.B
abbrev Hr:=Bw.B->Option ahm
def Rj (g:Hr):Ct:=(95,FC Bw (lf Nh) g)
def Rk (mN:wF)(lz:zw)(x:Bw.B):Pg ahm:=let n2:=x.2.2.2.2;let n1:=x.1.2.2.2;opt (mN x.1.1 x.2.1) λd=>ae (d !=0) (ret d) (opt (lz 8 8 (cr x.1.2.1 [n1.2.2.2.2.2,n1.2.2.2.2.1,n1.2.2.2.1,n1.2.2.1,n1.2.1,n1.1,x.1.2.2.1,x.1.2.1]) (cr x.2.2.1 [n2.2.2.2.2.2,n2.2.2.2.2.1,n2.2.2.2.1,n2.2.2.1,n2.2.1,n2.1,x.2.2.2.1,x.2.2.1]) false false) λd=>ret d)
def rH:=λx=>(Rk kl fH x).val
theorem azQ:∀mN lz,D0 [DL mN,zy lz] 95 Bw (lf Nh) λb=>Rk mN lz b:=λ_ _ b=>by kernel_rfl
theorem ahn [ax]:SC (Rj rH):=s0 (.c Pb (.c Pd (.nil _))) (azQ kl fH)
def bR:=qa (dp (c aKV (cl aGh (cu aLb nil))) λv=>(cl (cl (gs v.1.1 aA) nil) nil))
def dx:=qe (res (pl aLi (pu Xf nil)))
abbrev dB:=dx.B
abbrev gN:=bR.B->Option dB
def gO (g:gN):Ct:=(94,sQ 0 [.i .i64,.i .i64,.i .i64,.i .i64,.i .i64,.i .i64,.i .i64,.i .i64,.i .i64] (FC bR (lf dx) g))
def aO:=qs (st (dp (c aKV (us 1 (cu aLb (us 1 (cu aEO (us 3 (c ai (c ai (cl ai (us 29 aQy)))))))))) λv=>(pl (c (so (cl (gs v.1.1 aA) nil)) aRy) nil)))
def oe:=qs (st (pr (c aKV (us 1 (cu aLb (us 1 (cu aEO (us 3 (c ai (c ai (c ai (us 4 (c ai (c ai (cl ab (us 22 aQy)))))))))))))) (pl (c uR aRy) nil)))
abbrev bu:=(((Nat×Bool)×Int×Int×Int×Bool)×eB×Int×Int×Int×Int×Int×Int×Int×Int×Int)
def gA {ρ:Type}(x:bu)(K:AX->St->Option ρ):Option ρ:=(λd=>K (.ex 0) (oe.em ((d.1.1,d.1.2.1,d.1.b.1,d.1.b.2.1,d.1.b),(d.1.1.1,d.2.1),d.b))) x
def dq (Bx:Hr)(d:aO.B):PL aO bu:=let n2:=d.1.2.2;let n1:=d.2.1.2.2.2;let y0:=wI (Int.fdiv (wU (wI (n2.1+n2.2))) 2);let y1:=Int.toNat y0;let y2:=decide (n2.1<n2.2);ae y2 (ae (aX y0 d.1.1.1) (opt (Bx ((d.2.1.1 y1,d.2.1.2.1 y1,d.2.1.2.2.1 y1,n1.1 y1,n1.2.1 y1,n1.2.2.1 y1,n1.2.2.2.1 y1,n1.2.2.2.2.1 y1,n1.2.2.2.2.2 y1),d.2.2)) λaj=>ae (decide (aj<0)) (ret (Sum.inl ((d.1.1,d.1.2.1,wI (y0+1),n2.2),d.2))) (ret (Sum.inl ((d.1.1,d.1.2.1,n2.1,y0),d.2)))) no) (ret (Sum.inr ((d.1.1,d.1.2.1,n2.1,n2.2,y2),d.2)))
def dr:=bD (dq rH) 2000
def dC (Bx:Hr)(dA:LT aO bu)(x:bR.B):Pg dB:=let y0:=Int.ofNat x.1.1.1;ae (Nat.beq x.1.1.1 x.1.1.1) (opt (dA ((x.1.1,y0,0,y0),x.2,x.1.2)) λd=>let n2:=d.1.2.2.1;let n1:=d.2.1.2.2.2;let y0:=Int.toNat n2;ae (decide (n2<d.1.2.1)) (ae (aX n2 d.1.1.1) (opt (Bx ((d.2.1.1 y0,d.2.1.2.1 y0,d.2.1.2.2.1 y0,n1.1 y0,n1.2.1 y0,n1.2.2.1 y0,n1.2.2.2.1 y0,n1.2.2.2.2.1 y0,n1.2.2.2.2.2 y0),d.2.2)) λaj=>ret (n2,aj==0)) no) (ret (n2,false))) no
def bS:=λx=>(dC rH dr x).val
abbrev cI:=Hr×(LT aO bu)
def dD (p:cI):KK:=⟨[Rj p.1],⟨[⟨3,(1::3::5::6::7::rg 11 29 [48]),[]⟩],[fg 3 1 aO gA p.2],[],[],(some ⟨0,(rg 0 6 (rg 8 41 [])),[]⟩)⟩,1,94⟩
theorem nL (p:cI):LI (dD p) 3 aO gA (dq p.1):=λ_ d c K=>by kernel_rfl
theorem oO (p:cI):D2 (dD p) bR (lf dx) λb=>dC p.1 p.2 b:=λb=>by kernel_rfl
abbrev dE:cI:=(rH,dr)
theorem oP [ax]:SC (gO bS):=sc (Sound.nil 0 [.i .i64,.i .i64,.i .i64,.i .i64,.i .i64,.i .i64,.i .i64,.i .i64,.i .i64]<|kS (k:=dD dE) (.c ahn (.nil _)) [3] [] ⟨kL (nL dE),trivial⟩ trivial (oO dE))
def ue:=qa (pr (cu Tj B4) (cd adb λb0=>(cl (cl (gs b0.b.1 aA) nil) nil)))
def LS:=qe (res (pu kv (pl (cl (zC adb) Xf) nil)))
def ahV:=qe (res (pr ab (pr (cl (zC (a 5 gJ (c gi (c (gc (wX 2 9)) jO)))) aIq) (cl YZ nil))))
abbrev Ax:=LS.B⊕(Bool×bH×NI×NI×NI×NI×NI×NI×NI×NI×NI)
def V3:Ax->T:=ls (lf LS) (λd=>lf ahV (d.1,d.2.1,d.2.1.b.1,d.b))
abbrev H7:=ue.B->Option Ax
def V4 (g:H7):Ct:=(52,FC ue V3 g)
def H8 (cJ:gN)(gx:p5)(cF:gf)(x:ue.B):Pg Ax:=let ba:=x.2.2;let n5:=x.1.2;let n4:=ba.2.2.2;let n3:=x.2.1;let n9:=n3.1.2;let n7:=n3.2.2;let n1:=n5.2.2.2;let n6:=n1.2.2;let y0:=wI (n3.1.1+1);let y1:=Nat.beq n7.1 n7.1;ae (decide (x.1.1<=n7.2)) (ret (Sum.inl ((y0,wI (n9.1+1),n9.2),n3.2))) (ae y1 (opt (cJ (((n7.1,true),x.1),ba)) λd=>ae y1 (opt (gx n7.1 d.1 ba.1 ba.2.1 ba.2.2.1 n4.1 n4.2.1 n4.2.2.1 n4.2.2.2.1 n4.2.2.2.2.1 n4.2.2.2.2.2 (λj=>bif Nat.beq j 0 then x.1.1 else x.1.1) (λj=>bif Nat.beq j 0 then n5.1 else n5.1) (λj=>bif Nat.beq j 0 then n5.2.1 else n5.2.1) (λj=>bif Nat.beq j 0 then n5.2.2.1 else n5.2.2.1) (λj=>bif Nat.beq j 0 then n1.1 else n1.1) (λj=>bif Nat.beq j 0 then n1.2.1 else n1.2.1) (λj=>bif Nat.beq j 0 then n6.1 else n6.1) (λj=>bif Nat.beq j 0 then n6.2.1 else n6.2.1) (λj=>bif Nat.beq j 0 then n6.2.2 else n6.2.2) 1 true true) λd=>let n8:=d.2.2;let n2:=n8.2.2.2;let aS:=n2.2.2;ae (decide (Int.ofNat d.1<=n3.2.1)) (ret (Sum.inr (true,((y0,n9),n3.2.1,d.1,n7.2),d.2))) (ae (aX 0 d.1) (ae (Nat.beq d.1 d.1) (opt (cF d.1 0 1 d.2.1 n8.1 n8.2.1 n8.2.2.1 n2.1 n2.2.1 aS.1 aS.2.1 aS.2.2 true) λaj=>ret (Sum.inr (!(d.2.1 0==x.1.1&&(n8.1 0==n5.1&&(n8.2.1 0==n5.2.1&&(n8.2.2.1 0==n5.2.2.1&&(n2.1 0==n1.1&&(n2.2.1 0==n1.2.1&&(aS.1 0==n6.1&&(aS.2.1 0==n6.2.1&&(aS.2.2 0==n6.2.2&&true)))))))&&true)),((y0,n9.1,wI (n9.2.1+1),n9.2.2),n3.2.1,aj.1,n7.2),aj.2))) no) no)) no) no)
def uf:=λx=>(H8 bS et cD x).val
theorem aqK:∀cJ Bx gx cF,D0 [gO cJ,Rj Bx,p6 gx,jV cF] 52 ue V3 λb=>H8 cJ gx cF b:=λ_ _ _ _ b=>by kernel_rfl
theorem aqL [ax]:SC (V4 uf):=s0 (.c oP (.c ahn (.c Db (.c p8 (.nil _))))) (aqK bS rH et cD)
def ug:=qa (pr (cu Tj fU) (cd adb λb0=>(cl (cl (gs b0.b.1 aA) nil) nil)))
def amW:=qe (res (pr (ac (wX 2 9)) (pr (cl (zC (a 5 gJ (c gi (c (gc (wX 3 9)) jO)))) aIq) (c YZ (cl YZ nil)))))
abbrev Ay:=(Nat×bH×eB×NI×NI×NI×NI×NI×NI×NI×NI×NI)
def V5:Ay->T:=λd=>lf amW (d.1,d.2.1,(d.1,d.b.1),d.2.1.b.1,d.b.2)
abbrev H9:=ug.B->Option Ay
def V6 (g:H9):Ct:=(77,FC ug V5 g)
def fB:=qs (st (pr (cu Tj (c ai (us 3 (cl ai (us 58 nil))))) (pl (cd (so adb) λb0=>(cl (so (cl (gs b0.b.1 aA) nil)) nil)) nil)))
def afs:=qs (st (pr (cu Tj (c ai (us 3 (c ai (us 1 (c ai (cu Tj (cu Tj (cu aLt (c aKW (c ai (c ab (cu LZ (cu Tj (cu Tj (cu aLt (c aKW (c ai (c (ac (LA (pu A9 (pl aQY eY)))) (c (ac (LA (pu A9 (pl aQY A9)))) (c ai (c ai (c ab aQv))))))))))))))))))))))) (pl (c (so adb) (cl uR nil)) nil)))
def aft:=qs (st (pr (cu Tj (c ai (us 3 (c ai (us 1 (c ai (cu Tj (cu Tj (cu aLt (c aKW (c ai (cl ab (cu kv (xs 10 (cu kv (us 38 nil)))))))))))))))) (pl (c (so adb) (cl uR nil)) nil)))
abbrev mO:=((Int×Int×Nat×Int×Bool×Nat×Int×Bool)×(aQf×Int×Int)×NI×NI×NI×NI×NI×NI×NI×NI×NI)⊕((Int×Int×Nat×Int×Bool)×(aQf×Int×Int)×NI×NI×NI×NI×NI×NI×NI×NI×NI)
def Pe {ρ:Type}(x:mO)(K:AX->St->Option ρ):Option ρ:=(Sum.elim (λd=>K (.ex 0) (afs.em ((d.1.1,d.1.2.1,d.1.2.1,d.1.b.1,d.1.b.2.1,d.1.c.1,d.1.b.1,d.1.2.1,d.1.c.2.1,d.1.c.2.1,d.1.c.b.1,d.1.1,d.1.c.b.2,d.1.c.b.2),(d.2.1.1,d.2.1.2.1,d.1.b.1,d.2.1.b),d.1.b.1,d.b))) (λd=>K (.ex 0) (aft.em ((d.1.1,d.1.2.1,d.1.2),(d.2.1.1,d.2.1.2.1,d.1.b.1,d.2.1.b),d.1.b.1,d.b)))) x
def DN (d:fB.B):PL fB mO:=let n3:=d.1.2;let n2:=d.2.1.2.2;let n1:=(d.2.1.1,d.2.1.2.1,n2.2);let y0:=Int.toNat n3;let y1:=Int.ofNat n2.1;let y2:=decide (n3<y1);let y3:=decide (d.2.2.1 y0<=d.1.1);ae y2 (ae (aX n3 n2.1) (ae y3 (ret (Sum.inl ((d.1.1,wI (n3+1)),d.2))) (ret (Sum.inr (Sum.inl ((d.1.1,n3,n2.1,y1,y2,y0,d.2.2.1 y0,y3),n1,d.2.2))))) no) (ret (Sum.inr (Sum.inr ((d.1.1,n3,n2.1,y1,y2),n1,d.2.2))))
def DO:=bD (DN) 2000
def H' (rf:kE)(cF:gf)(dA:LT fB mO)(x:ug.B):Pg Ay:=ae (Nat.beq x.2.1.2.2.1 x.2.1.2.2.1) (opt (dA ((x.1,0),x.2)) λx=>sum x (λd=>let n9:=d.2.2;let n6:=d.2.1;let n5:=d.1.2;let n1:=n9.2.2.2;let n3:=n1.2.2.2;let y0:=Int.toNat n5.1;ae (Cu n5.1 n5.2.1) (ae (Nat.beq y0 y0) (opt (rf y0 n9.1 n9.2.1 n9.2.2.1 n1.1 n1.2.1 n1.2.2.1 n3.1 n3.2.1 n3.2.2 false) λaj=>ae (Nat.beq n5.2.1 n5.2.1) (opt (cF n5.2.1 0 n5.1 n9.1 n9.2.1 n9.2.2.1 n1.1 n1.2.1 n1.2.2.1 n3.1 n3.2.1 n3.2.2 true) λaF=>ret (aj.1,((n6.1.1,n6.1.2.1,n6.1.2.2.1,n6.1.2.2.2.1,wI (n6.1.2.2.2.2+n5.1)),n6.2.1,aF.1,if d.1.1>n6.2.2 then d.1.1 else n6.2.2),aj.2,aF.2)) no) no) no) λd=>let aS:=d.2.2;let n8:=d.2.1;let n7:=d.1.2;let n2:=aS.2.2.2;let n4:=n2.2.2.2;let y0:=Int.toNat n7.1;ae (Cu n7.1 n7.2.1) (ae (Nat.beq y0 y0) (opt (rf y0 aS.1 aS.2.1 aS.2.2.1 n2.1 n2.2.1 n2.2.2.1 n4.1 n4.2.1 n4.2.2 false) λaj=>ae (Nat.beq n7.2.1 n7.2.1) (opt (cF n7.2.1 0 n7.1 aS.1 aS.2.1 aS.2.2.1 n2.1 n2.2.1 n2.2.2.1 n4.1 n4.2.1 n4.2.2 true) λaF=>ret (aj.1,((n8.1.1,n8.1.2.1,n8.1.2.2.1,n8.1.2.2.2.1,wI (n8.1.2.2.2.2+n7.1)),n8.2.1,aF.1,if d.1.1>n8.2.2 then d.1.1 else n8.2.2),aj.2,aF.2)) no) no) no) no
def uh:=λx=>(H' eF cD DO x).val
abbrev Az:=kE×gf×(LT fB mO)
def Ia (p:Az):KK:=⟨[qT p.1,jV p.2.1],⟨[⟨2,(2::3::4::rg 6 9 (rg 25 39 (rg 15 10 []))),[]⟩],[fg 2 2 fB Pe p.b],[],[],(some ⟨0,(rg 0 4 (rg 5 59 [])),[]⟩)⟩,2,77⟩
theorem ahW (p:Az):LI (Ia p) 2 fB Pe (DN):=λ_ d c K=>by kernel_rfl
theorem aqM (p:Az):D2 (Ia p) ug V5 λb=>H' p.1 p.2.1 p.b b:=λb=>by kernel_rfl
abbrev Ib:Az:=(eF,cD,DO)
theorem aqN [ax]:SC (V6 uh):=sc (kS (k:=Ia Ib) (.c Eo (.c p8 (.nil _))) [2] [] ⟨kL (ahW Ib),trivial⟩ trivial (aqM Ib))
def K3:=qa (pr (cl (aa (c gi aAD)) (cu aP (cu Ou (cu (app 2 1) nil)))) (cu (cu (gc (ccl (pu (nat 248) (pu rq7 (pu xW A9))))) nil) (c jO (c jO (cu (cu (gp 4 1) nil) bB)))))
def yO:=qe (res (pr ai (pl (cu eW (cu eW aLo)) nil)))
abbrev K4:=yO.B
abbrev K5:=Int->Int->Int->Int->Int->Int->Int->Int->Int->Bool->Option K4
def K6 (g:K5):Ct:=(249,FC K3 (lf yO) (λb=>g b.1.1 b.1.2.1 b.1.b.1 b.1.b.2.1 b.1.c.1 b.1.c.2.1 b.1.c.b b.2.1 b.b.1 b.b.2))
def AA (ao:zI)(x0:Int)(x1:Int)(x2:Int)(x3:Int)(x4:Int)(x5:Int)(x6:Int)(x7:Int)(x8:Int)(x9:Bool):Pg K4:=let y0:=wI (x7+1);let y1:=wI (x0*1073741824);let y2:=wI (x5*1073741824);let y3:=wI (x4*1073741824);let y4:=wI (x6*1073741824);let y5:=wI (x2*1073741824);let y6:=wI (x1*1073741824);let y7:=wI (x3*1073741824);let y8:=aX y0 7;let y9:=y0==1;let rN:=y0==4;let sD:=y0==6;let vj:=y0==2;let vk:=y0==3;let vm:=y0==5;ae (aX x7 7) (ae (x7==6) (ae y8 (ae sD (opt (ao y4 y4 x8 600000000 x9) λd=>ret d) (ae vm (opt (ao y4 y2 x8 600000000 x9) λd=>ret d) (ae rN (opt (ao y4 y3 x8 600000000 x9) λd=>ret d) (ae vk (opt (ao y4 y7 x8 600000000 x9) λd=>ret d) (ae vj (opt (ao y4 y5 x8 600000000 x9) λd=>ret d) (ae y9 (opt (ao y4 y6 x8 600000000 x9) λd=>ret d) (opt (ao y4 y1 x8 600000000 x9) λd=>ret d))))))) no) (ae (x7==5) (ae y8 (ae sD (opt (ao y2 y4 x8 600000000 x9) λd=>ret d) (ae vm (opt (ao y2 y2 x8 600000000 x9) λd=>ret d) (ae rN (opt (ao y2 y3 x8 600000000 x9) λd=>ret d) (ae vk (opt (ao y2 y7 x8 600000000 x9) λd=>ret d) (ae vj (opt (ao y2 y5 x8 600000000 x9) λd=>ret d) (ae y9 (opt (ao y2 y6 x8 600000000 x9) λd=>ret d) (opt (ao y2 y1 x8 600000000 x9) λd=>ret d))))))) no) (ae (x7==4) (ae y8 (ae sD (opt (ao y3 y4 x8 600000000 x9) λd=>ret d) (ae vm (opt (ao y3 y2 x8 600000000 x9) λd=>ret d) (ae rN (opt (ao y3 y3 x8 600000000 x9) λd=>ret d) (ae vk (opt (ao y3 y7 x8 600000000 x9) λd=>ret d) (ae vj (opt (ao y3 y5 x8 600000000 x9) λd=>ret d) (ae y9 (opt (ao y3 y6 x8 600000000 x9) λd=>ret d) (opt (ao y3 y1 x8 600000000 x9) λd=>ret d))))))) no) (ae (x7==3) (ae y8 (ae sD (opt (ao y7 y4 x8 600000000 x9) λd=>ret d) (ae vm (opt (ao y7 y2 x8 600000000 x9) λd=>ret d) (ae rN (opt (ao y7 y3 x8 600000000 x9) λd=>ret d) (ae vk (opt (ao y7 y7 x8 600000000 x9) λd=>ret d) (ae vj (opt (ao y7 y5 x8 600000000 x9) λd=>ret d) (ae y9 (opt (ao y7 y6 x8 600000000 x9) λd=>ret d) (opt (ao y7 y1 x8 600000000 x9) λd=>ret d))))))) no) (ae (x7==2) (ae y8 (ae sD (opt (ao y5 y4 x8 600000000 x9) λd=>ret d) (ae vm (opt (ao y5 y2 x8 600000000 x9) λd=>ret d) (ae rN (opt (ao y5 y3 x8 600000000 x9) λd=>ret d) (ae vk (opt (ao y5 y7 x8 600000000 x9) λd=>ret d) (ae vj (opt (ao y5 y5 x8 600000000 x9) λd=>ret d) (ae y9 (opt (ao y5 y6 x8 600000000 x9) λd=>ret d) (opt (ao y5 y1 x8 600000000 x9) λd=>ret d))))))) no) (ae (x7==1) (ae y8 (ae sD (opt (ao y6 y4 x8 600000000 x9) λd=>ret d) (ae vm (opt (ao y6 y2 x8 600000000 x9) λd=>ret d) (ae rN (opt (ao y6 y3 x8 600000000 x9) λd=>ret d) (ae vk (opt (ao y6 y7 x8 600000000 x9) λd=>ret d) (ae vj (opt (ao y6 y5 x8 600000000 x9) λd=>ret d) (ae y9 (opt (ao y6 y6 x8 600000000 x9) λd=>ret d) (opt (ao y6 y1 x8 600000000 x9) λd=>ret d))))))) no) (ae y8 (ae sD (opt (ao y1 y4 x8 600000000 x9) λd=>ret d) (ae vm (opt (ao y1 y2 x8 600000000 x9) λd=>ret d) (ae rN (opt (ao y1 y3 x8 600000000 x9) λd=>ret d) (ae vk (opt (ao y1 y7 x8 600000000 x9) λd=>ret d) (ae vj (opt (ao y1 y5 x8 600000000 x9) λd=>ret d) (ae y9 (opt (ao y1 y6 x8 600000000 x9) λd=>ret d) (opt (ao y1 y1 x8 600000000 x9) λd=>ret d))))))) no))))))) no
def nM:=λx0 x1 x2 x3 x4 x5 x6 x7 x8 x9=>(AA iC x0 x1 x2 x3 x4 x5 x6 x7 x8 x9).val
theorem afu:∀ao,D0 [zJ ao] 249 K3 (lf yO) λb=>AA ao b.1.1 b.1.2.1 b.1.b.1 b.1.b.2.1 b.1.c.1 b.1.c.2.1 b.1.c.b b.2.1 b.b.1 b.b.2:=λ_ b=>by kernel_rfl
theorem afv [ax]:SC (K6 nM):=s0 (.c JQ (.nil _)) (afu iC)
def RY:=qa (pu nil nil)
def DP:=qe (res (pu (aa (cu aQM (cu (gc (cf (fi .i64 (int 6000)))) (cu (gc (cf (fi .i64 (int (-2000))))) (cu (gc (cf (fi .i64 (int (-1500))))) (cu (gc (cf (fi .i64 (int (-6000))))) (cu (gc (cf (fi .i64 (int (-9000))))) (cu aQM (cu aQN (cu (gc (cf (fi .i64 (int 2500)))) (cu aF6 (cu (gc (cf (fi .i64 (int (-2200))))) (cu (gc (cf (fi .i64 (int (-3800))))) (cu aT (cu aQN (cu aQO (cu (gc (cf (fi .i64 (int 900)))) (cu (gc (cf (fi .i64 (int (-1400))))) (cu (gc (cf (fi .i64 (int (-500))))) (cu (gc (cf (fi .i64 (int (-300))))) (cu aQP (cu aQO (cu aF6 (cu (gc (cf (fi .i64 (int 1500)))) (cu (gc (cf (fi .i64 (int (-1700))))) (cu aQP (cu (gc (cf (fi .i64 (int 700)))) (cu (gc (cf (fi .i64 (int (-800))))) (cu aF6 (cu aQQ (cu (gc (cf (fi .i64 (int 4000)))) (cu (gc (cf (fi .i64 (int (-3000))))) (cu aF6 (cu (gc (cf (fi .i64 (int 3500)))) (cu (gc (cf (fi .i64 (int (-1200))))) (cu aQQ nil)))))))))))))))))))))))))))))))))))) (pu nil nil)))
abbrev FK:=DP.B
abbrev FL:=Option FK
def FM (g:FL):Ct:=(247,FC RY (lf DP) (λ_=>g))
def FN:Pg FK:=ret ()
def lp:Option FK:=(FN).val
theorem amX:D0 [] 247 RY (lf DP) λb=>FN:=λb=>by kernel_rfl
theorem RZ [ax]:SC (FM lp):=s0 (.nil _) amX
def Pf:=qa (pr (cu aP Fk) bB)
def Ci:=qe aLG
abbrev Ph:=Ci.B
abbrev Pj:=Int->Int->Int->Bool->Option Ph
def Pk (g:Pj):Ct:=(228,FC Pf (lf Ci) (λb=>g b.1.1 b.1.2.1 b.1.b b.2))
def DQ (cA:sX)(gT:FL)(ao:zI)(aK:K5)(aq:bY)(x0:Int)(x1:Int)(x2:Int)(x3:Bool):Pg Ph:=let y0:=wI (x0+900000000);let y1:=wI (x1+1800000000);let y2:=wI (Int.tdiv y0 450000000);let y3:=wI (Int.tdiv y1 600000000);let y4:=if 3<y2 then 3 else y2;let y5:=if 5<y3 then 5 else y3;let y6:=wI (y4+1);let y7:=wI (y1-wI (y5*600000000));opt (cA x0 x1 x2) λd=>ae (!d) (ret ((0,1),x3)) (opt gT λd=>ae (aX y4 5) (ae (y4==4) (opt (aK 1000 4000 (-3000) 500 3500 (-1200) 1000 y5 y7 x3) λd=>ae (aX y6 5) (ae (y6==4) (opt (aK 1000 4000 (-3000) 500 3500 (-1200) 1000 y5 y7 d.2) λaj=>opt (ao d.1 aj.1 (wI (y0-wI (y4*450000000))) 450000000 aj.2) λd=>opt (aq d.1 3373259426 19327352832000 d.2) λd=>ret ((d.1,0),d.2)) (ae (y6==3) (opt (aK 500 1500 (-1700) 100 700 (-800) 500 y5 y7 d.2) λaj=>opt (ao d.1 aj.1 (wI (y0-wI (y4*450000000))) 450000000 aj.2) λd=>opt (aq d.1 3373259426 19327352832000 d.2) λd=>ret ((d.1,0),d.2)) (ae (y6==2) (opt (aK 950 900 (-1400) (-500) (-300) 100 950 y5 y7 d.2) λaj=>opt (ao d.1 aj.1 (wI (y0-wI (y4*450000000))) 450000000 aj.2) λd=>opt (aq d.1 3373259426 19327352832000 d.2) λd=>ret ((d.1,0),d.2)) (ae (y6==1) (opt (aK 2200 2500 500 (-2200) (-3800) 0 2200 y5 y7 d.2) λaj=>opt (ao d.1 aj.1 (wI (y0-wI (y4*450000000))) 450000000 aj.2) λd=>opt (aq d.1 3373259426 19327352832000 d.2) λd=>ret ((d.1,0),d.2)) (opt (aK 3000 6000 (-2000) (-1500) (-6000) (-9000) 3000 y5 y7 d.2) λaj=>opt (ao d.1 aj.1 (wI (y0-wI (y4*450000000))) 450000000 aj.2) λd=>opt (aq d.1 3373259426 19327352832000 d.2) λd=>ret ((d.1,0),d.2)))))) no) (ae (y4==3) (opt (aK 500 1500 (-1700) 100 700 (-800) 500 y5 y7 x3) λd=>ae (aX y6 5) (ae (y6==4) (opt (aK 1000 4000 (-3000) 500 3500 (-1200) 1000 y5 y7 d.2) λaj=>opt (ao d.1 aj.1 (wI (y0-wI (y4*450000000))) 450000000 aj.2) λd=>opt (aq d.1 3373259426 19327352832000 d.2) λd=>ret ((d.1,0),d.2)) (ae (y6==3) (opt (aK 500 1500 (-1700) 100 700 (-800) 500 y5 y7 d.2) λaj=>opt (ao d.1 aj.1 (wI (y0-wI (y4*450000000))) 450000000 aj.2) λd=>opt (aq d.1 3373259426 19327352832000 d.2) λd=>ret ((d.1,0),d.2)) (ae (y6==2) (opt (aK 950 900 (-1400) (-500) (-300) 100 950 y5 y7 d.2) λaj=>opt (ao d.1 aj.1 (wI (y0-wI (y4*450000000))) 450000000 aj.2) λd=>opt (aq d.1 3373259426 19327352832000 d.2) λd=>ret ((d.1,0),d.2)) (ae (y6==1) (opt (aK 2200 2500 500 (-2200) (-3800) 0 2200 y5 y7 d.2) λaj=>opt (ao d.1 aj.1 (wI (y0-wI (y4*450000000))) 450000000 aj.2) λd=>opt (aq d.1 3373259426 19327352832000 d.2) λd=>ret ((d.1,0),d.2)) (opt (aK 3000 6000 (-2000) (-1500) (-6000) (-9000) 3000 y5 y7 d.2) λaj=>opt (ao d.1 aj.1 (wI (y0-wI (y4*450000000))) 450000000 aj.2) λd=>opt (aq d.1 3373259426 19327352832000 d.2) λd=>ret ((d.1,0),d.2)))))) no) (ae (y4==2) (opt (aK 950 900 (-1400) (-500) (-300) 100 950 y5 y7 x3) λd=>ae (aX y6 5) (ae (y6==4) (opt (aK 1000 4000 (-3000) 500 3500 (-1200) 1000 y5 y7 d.2) λaj=>opt (ao d.1 aj.1 (wI (y0-wI (y4*450000000))) 450000000 aj.2) λd=>opt (aq d.1 3373259426 19327352832000 d.2) λd=>ret ((d.1,0),d.2)) (ae (y6==3) (opt (aK 500 1500 (-1700) 100 700 (-800) 500 y5 y7 d.2) λaj=>opt (ao d.1 aj.1 (wI (y0-wI (y4*450000000))) 450000000 aj.2) λd=>opt (aq d.1 3373259426 19327352832000 d.2) λd=>ret ((d.1,0),d.2)) (ae (y6==2) (opt (aK 950 900 (-1400) (-500) (-300) 100 950 y5 y7 d.2) λaj=>opt (ao d.1 aj.1 (wI (y0-wI (y4*450000000))) 450000000 aj.2) λd=>opt (aq d.1 3373259426 19327352832000 d.2) λd=>ret ((d.1,0),d.2)) (ae (y6==1) (opt (aK 2200 2500 500 (-2200) (-3800) 0 2200 y5 y7 d.2) λaj=>opt (ao d.1 aj.1 (wI (y0-wI (y4*450000000))) 450000000 aj.2) λd=>opt (aq d.1 3373259426 19327352832000 d.2) λd=>ret ((d.1,0),d.2)) (opt (aK 3000 6000 (-2000) (-1500) (-6000) (-9000) 3000 y5 y7 d.2) λaj=>opt (ao d.1 aj.1 (wI (y0-wI (y4*450000000))) 450000000 aj.2) λd=>opt (aq d.1 3373259426 19327352832000 d.2) λd=>ret ((d.1,0),d.2)))))) no) (ae (y4==1) (opt (aK 2200 2500 500 (-2200) (-3800) 0 2200 y5 y7 x3) λd=>ae (aX y6 5) (ae (y6==4) (opt (aK 1000 4000 (-3000) 500 3500 (-1200) 1000 y5 y7 d.2) λaj=>opt (ao d.1 aj.1 (wI (y0-wI (y4*450000000))) 450000000 aj.2) λd=>opt (aq d.1 3373259426 19327352832000 d.2) λd=>ret ((d.1,0),d.2)) (ae (y6==3) (opt (aK 500 1500 (-1700) 100 700 (-800) 500 y5 y7 d.2) λaj=>opt (ao d.1 aj.1 (wI (y0-wI (y4*450000000))) 450000000 aj.2) λd=>opt (aq d.1 3373259426 19327352832000 d.2) λd=>ret ((d.1,0),d.2)) (ae (y6==2) (opt (aK 950 900 (-1400) (-500) (-300) 100 950 y5 y7 d.2) λaj=>opt (ao d.1 aj.1 (wI (y0-wI (y4*450000000))) 450000000 aj.2) λd=>opt (aq d.1 3373259426 19327352832000 d.2) λd=>ret ((d.1,0),d.2)) (ae (y6==1) (opt (aK 2200 2500 500 (-2200) (-3800) 0 2200 y5 y7 d.2) λaj=>opt (ao d.1 aj.1 (wI (y0-wI (y4*450000000))) 450000000 aj.2) λd=>opt (aq d.1 3373259426 19327352832000 d.2) λd=>ret ((d.1,0),d.2)) (opt (aK 3000 6000 (-2000) (-1500) (-6000) (-9000) 3000 y5 y7 d.2) λaj=>opt (ao d.1 aj.1 (wI (y0-wI (y4*450000000))) 450000000 aj.2) λd=>opt (aq d.1 3373259426 19327352832000 d.2) λd=>ret ((d.1,0),d.2)))))) no) (opt (aK 3000 6000 (-2000) (-1500) (-6000) (-9000) 3000 y5 y7 x3) λd=>ae (aX y6 5) (ae (y6==4) (opt (aK 1000 4000 (-3000) 500 3500 (-1200) 1000 y5 y7 d.2) λaj=>opt (ao d.1 aj.1 (wI (y0-wI (y4*450000000))) 450000000 aj.2) λd=>opt (aq d.1 3373259426 19327352832000 d.2) λd=>ret ((d.1,0),d.2)) (ae (y6==3) (opt (aK 500 1500 (-1700) 100 700 (-800) 500 y5 y7 d.2) λaj=>opt (ao d.1 aj.1 (wI (y0-wI (y4*450000000))) 450000000 aj.2) λd=>opt (aq d.1 3373259426 19327352832000 d.2) λd=>ret ((d.1,0),d.2)) (ae (y6==2) (opt (aK 950 900 (-1400) (-500) (-300) 100 950 y5 y7 d.2) λaj=>opt (ao d.1 aj.1 (wI (y0-wI (y4*450000000))) 450000000 aj.2) λd=>opt (aq d.1 3373259426 19327352832000 d.2) λd=>ret ((d.1,0),d.2)) (ae (y6==1) (opt (aK 2200 2500 500 (-2200) (-3800) 0 2200 y5 y7 d.2) λaj=>opt (ao d.1 aj.1 (wI (y0-wI (y4*450000000))) 450000000 aj.2) λd=>opt (aq d.1 3373259426 19327352832000 d.2) λd=>ret ((d.1,0),d.2)) (opt (aK 3000 6000 (-2000) (-1500) (-6000) (-9000) 3000 y5 y7 d.2) λaj=>opt (ao d.1 aj.1 (wI (y0-wI (y4*450000000))) 450000000 aj.2) λd=>opt (aq d.1 3373259426 19327352832000 d.2) λd=>ret ((d.1,0),d.2)))))) no))))) no)
def qy:=λx0 x1 x2 x3=>(DQ fO lp iC nM aU x0 x1 x2 x3).val
theorem alr:∀cA gT ao aK aq,D1 [xj cA,FM gT,zJ ao,K6 aK,cV aq] [0] 228 Pf (lf Ci) λb=>DQ cA gT ao aK aq b.1.1 b.1.2.1 b.1.b b.2:=λ_ _ _ _ _ b=>by kernel_rfl
theorem als [ax]:SC (Pk qy):=s0 (.c BV (.c RZ (.c JQ (.c afv (.c c9 (.nil _)))))) (alr fO lp iC nM aU)
def aFC:=qa (pl fU nil)
def aqO:=qe B3
abbrev aFD:=aqO.B
abbrev acp:=Int->Option aFD
def amp (g:acp):Ct:=(47,FC aFC (lf aqO) (λb=>g b))
def amq (x0:Int):Pg aFD:=ae (decide (x0>=0)) (ret (decide (x0<6))) (ret false)
def yP:=λx0=>(amq x0).val
theorem aPE:D0 [] 47 aFC (lf aqO) λb=>amq b:=λb=>by kernel_rfl
theorem av5 [ax]:SC (amp yP):=s0 (.nil _) aPE
def aho:=qa (pl (c ai B4) nil)
def Ni:=qe B3
abbrev ahp:=Ni.B
abbrev Rl:=Int->Int->Int->Int->Int->Int->Int->Int->Int->Int->Option ahp
def ahq (g:Rl):Ct:=(50,FC aho (lf Ni) (λb=>g b.1 b.2.1 b.b.1 b.b.2.1 b.c.1 b.c.2.1 b.c.b.1 b.c.b.2.1 b.d.1 b.d.2))
def Rm (sE:ae3)(iM:HY)(gU:FE)(lA:Yn)(wG:ak0)(sF:aff)(x0:Int)(x1:Int)(x2:Int)(x3:Int)(x4:Int)(x5:Int)(x6:Int)(x7:Int)(x8:Int)(x9:Int):Pg ahp:=ae (x0==0) (opt (sE x1 x2 x3 x4 x5 x6 x7 x8 x9 false) λd=>ret (d.1.2==0)) (ae (x0==1) (opt (iM x1 x2 x3 x4 x5 x6 x7 x8 x9 false) λd=>ret (d.1.2==0)) (ae (x0==2) (opt (gU x1 x2 x3 x4 x5 x6 x7 x8 x9 false) λd=>ret (d.1.2==0)) (ae (x0==3) (opt (lA x1 x2 x3 x4 x5 x6 x7 x8 x9 false) λd=>ret (d.1.2==0)) (ae (x0==4) (opt (wG x1 x2 x3 x4 x5 x6 x7 x8 x9 false) λd=>ret (d.1.2==0)) (ae (x0==5) (opt (sF x1 x2 x3 x4 x5 x6 x7 x8 x9 false) λd=>ret (d.1.2==0)) (ret true))))))
def By:=λx0 x1 x2 x3 x4 x5 x6 x7 x8 x9=>(Rm An mA ln wA Dx Aq x0 x1 x2 x3 x4 x5 x6 x7 x8 x9).val
theorem azR:∀sE iM gU lA wG sF,D0 [ae4 sE,HZ iM,FF gU,Yo lA,ak1 wG,afg sF] 50 aho (lf Ni) λb=>Rm sE iM gU lA wG sF b.1 b.2.1 b.b.1 b.b.2.1 b.c.1 b.c.2.1 b.c.b.1 b.c.b.2.1 b.d.1 b.d.2:=λ_ _ _ _ _ _ b=>by kernel_rfl
theorem azS [ax]:SC (ahq By):=s0 (.c atz (.c VF (.c RR (.c akQ (.c ayv (.c atP (.nil _))))))) (azR An mA ln wA Dx Aq)
def ui:=qa (dp (cu dy (c ai aFZ)) λv=>(cd aAQ λb0=>(c (cl (gs v.2.1 apE) nil) (c jT (c lk (c (cl (gs b0.c.1 lg) nil) (cd na λb5=>(cd nc λb6=>(cd nd λb7=>(cd nh λb8=>(cd ni λb9=>(cd (a 5 gJ (c gi (c (gc (wX 19 9)) jO))) λb10=>(c kC (cd (c gi (c gi (cl (gc (wX 20 11)) nil))) λb12=>(c (cl (gs b0.e jk) nil) (c (cl (gs b5.b.1 aA) nil) (c (cl (gs b6.b.1 aA) nil) (c (cl (gs b7.b.1 aA) nil) (c (cl (gs b8.b.1 aA) nil) (c (cl (gs b9.b.1 aA) nil) (c (cl (gs b10.b.1 aA) nil) (cl (cl (gs b12.b fX) nil) nil))))))))))))))))))))))
def FO:=qe (res (pu Th (pl (cu eW aMc) nil)))
abbrev V7:=FO.B
abbrev AB:=ui.B->Option V7
def AD (g:AB):Ct:=(203,sQ 2 [.b,.i .i64,.i .i64] (FC ui (lf FO) g))
def Ic (pP:Gx)(x:ui.B):Pg V7:=let n1:=x.2.2.2.2.2.2.2.2.2.2.2.2.1;let n2:=n1.1.2.2;ae (Nat.beq x.1.2.1 x.1.2.1) (opt (pP x.1.1 x.2.1.2.2.2.2.2.2.2.2.2.2.2.2.2.1 x.1.2.1 n1.1.1 n1.1.2.1 n2.1 n2.2.1 n2.2.2.1 n2.2.2.2 n1.2 x.2.2.1.1 x.2.2.1.2.1 x.2.2.1.2.2 (x.1.2.2&&true)) λd=>ret d) no
def iN:=λx=>(Ic lR x).val
theorem aqP:∀pP,D0 [Gy pP] 203 ui (lf FO) λb=>Ic pP b:=λ_ b=>by kernel_rfl
theorem Ie [ax]:SC (AD iN):=sc (Sound.nil 2 [.b,.i .i64,.i .i64]<|k0 (.c aaD (.nil _)) (aqP lR))
def rO:=qa (pr (cu dy fU) (cd oy λb0=>(c jT (c lk (c (cl (gs b0.c.1 lg) nil) (cd oR λb4=>(cd na λb5=>(cd nc λb6=>(cd nd λb7=>(cd nh λb8=>(cd ni λb9=>(c kC (cd pX λpQ=>(c (cl (gs b0.e jk) nil) (c (cl (gs b4.b.1 aA) nil) (c (cl (gs b5.b.1 aA) nil) (c (cl (gs b6.b.1 aA) nil) (c (cl (gs b7.b.1 aA) nil) (c (cl (gs b8.b.1 aA) nil) (c (cl (gs b9.b.1 aA) nil) (cl (cl (gs pQ.b fX) nil) nil)))))))))))))))))))))
def DR:=qe aR6
abbrev R4:=DR.B
abbrev xO:=rO.B->Option R4
def xP (g:xO):Ct:=(194,FC rO (lf DR) g)
def FP (dn:AB)(x:rO.B):Pg R4:=let n5:=x.2.2.2.2.2;let n2:=x.2.1.2.2.2.2;let n4:=n2.2.2.2.2.2.2.2.2.2.2.2.2;let n1:=n5.2;let n3:=n1.2.2.2;ae (Nat.beq n2.1 n2.1) (ae (Nat.beq n4 n4) (ae (Nat.beq n5.1.2.2.1 n5.1.2.2.1) (ae (Nat.beq n1.1.2.2.1 n1.1.2.2.1) (ae (Nat.beq n1.2.1.2.2.1 n1.2.1.2.2.1) (ae (Nat.beq n1.2.2.1.2.2.1 n1.2.2.1.2.2.1) (ae (Nat.beq n3.1.2.2.1 n3.1.2.2.1) (ae (Nat.beq n3.2.1.2.2.1 n3.2.1.2.2.1) (ae (Nat.beq n3.2.2.2.1.2.2 n3.2.2.2.1.2.2) (opt (dn ((x.1,1,true),x.2.1,(λj=>bif Nat.beq j 0 then true else true,λj=>bif Nat.beq j 0 then 0 else 0,λj=>bif Nat.beq j 0 then 0 else 0),x.2.2)) λd=>ret d) no) no) no) no) no) no) no) no) no
def gV:=λx=>(FP iN x).val
theorem amY:∀dn,D0 [AD dn] 194 rO (lf DR) λb=>FP dn b:=λ_ b=>by kernel_rfl
theorem FQ [ax]:SC (xP gV):=s0 (.c Ie (.nil _)) (amY iN)
def qz:=qa (pr (cu dy fU) (cd oy λb0=>(c jT (c lk (c (cl (gs b0.c.1 lg) nil) (cd oR λb4=>(cd na λb5=>(cd nc λb6=>(cd nd λb7=>(cd nh λb8=>(cd ni λb9=>(c kC (cd pX λpQ=>(c (cl (gs b0.e jk) nil) (c (cl (gs b4.b.1 aA) nil) (c (cl (gs b5.b.1 aA) nil) (c (cl (gs b6.b.1 aA) nil) (c (cl (gs b7.b.1 aA) nil) (c (cl (gs b8.b.1 aA) nil) (c (cl (gs b9.b.1 aA) nil) (cl (cl (gs pQ.b fX) nil) nil)))))))))))))))))))))
def Cj:=qe aR6
abbrev Pm:=Cj.B
abbrev mP:=qz.B->Option Pm
def mQ (g:mP):Ct:=(134,FC qz (lf Cj) g)
def DS (dn:AB)(x:qz.B):Pg Pm:=let n5:=x.2.2.2.2.2;let n2:=x.2.1.2.2.2.2;let n4:=n2.2.2.2.2.2.2.2.2.2.2.2.2;let n1:=n5.2;let n3:=n1.2.2.2;ae (Nat.beq n2.1 n2.1) (ae (Nat.beq n4 n4) (ae (Nat.beq n5.1.2.2.1 n5.1.2.2.1) (ae (Nat.beq n1.1.2.2.1 n1.1.2.2.1) (ae (Nat.beq n1.2.1.2.2.1 n1.2.1.2.2.1) (ae (Nat.beq n1.2.2.1.2.2.1 n1.2.2.1.2.2.1) (ae (Nat.beq n3.1.2.2.1 n3.1.2.2.1) (ae (Nat.beq n3.2.1.2.2.1 n3.2.1.2.2.1) (ae (Nat.beq n3.2.2.2.1.2.2 n3.2.2.2.1.2.2) (opt (dn ((x.1,1,true),x.2.1,(λj=>bif Nat.beq j 0 then false else false,λj=>bif Nat.beq j 0 then 0 else 0,λj=>bif Nat.beq j 0 then 0 else 0),x.2.2)) λd=>ret d) no) no) no) no) no) no) no) no) no
def db:=λx=>(DS iN x).val
theorem alu:∀dn,D0 [AD dn] 134 qz (lf Cj) λb=>DS dn b:=λ_ b=>by kernel_rfl
theorem qA [ax]:SC (mQ db):=s0 (.c Ie (.nil _)) (alu iN)
def uj:=qa (pr (cu dy (cl (aa (a 10 ou jO)) nil)) (cd oy λb0=>(c jT (c lk (c (cl (gs b0.c.1 lg) nil) (cd oR λb4=>(cd na λb5=>(cd nc λb6=>(cd nd λb7=>(cd nh λb8=>(cd ni λb9=>(c kC (cd pX λpQ=>(c (cl (gs b0.e jk) nil) (c (cl (gs b4.b.1 aA) nil) (c (cl (gs b5.b.1 aA) nil) (c (cl (gs b6.b.1 aA) nil) (c (cl (gs b7.b.1 aA) nil) (c (cl (gs b8.b.1 aA) nil) (c (cl (gs b9.b.1 aA) nil) (cl (cl (gs pQ.b fX) nil) nil)))))))))))))))))))))
def amZ:=qe aSe
abbrev AE:=(Ty4×NI×NI×NI×NI×NI×NI×NI×NI×NI×NI)
def V8:AE->T:=λd=>lf amZ (d.1,d.1.e,d.2)
abbrev Ig:=uj.B->Option AE
def Ih (g:Ig):Ct:=(193,FC uj V8 g)
def Ii (x:uj.B):Pg AE:=let n7:=x.2.1.2;let n6:=x.1.1;let n3:=n7.2.2.2.2;let n8:=n3.2.2.2;let n2:=x.2.2.2.2.2.2.2.2.2.2.2.2.2.1;let n5:=n2.2.2.2.2;let n1:=n8.2.2.2.2;let n4:=n1.2.2.2.2;let y0:=n4+1;ae (Nat.ble (y0*80) 140737488355328) (ret ((x.2.1.1,n7.1,n7.2.1,n7.2.2.1,n7.2.2.2.1,n3.1,n3.2.1,n3.2.2.1,n8.1,n8.2.1,n8.2.2.1,n8.2.2.2.1,n1.1,n1.2.1,n1.2.2.1,n1.2.2.2.1,y0),λj=>bif Nat.beq j n4 then n6.1.1 else n2.1 j,λj=>bif Nat.beq j n4 then n6.1.2.1 else n2.2.1 j,λj=>bif Nat.beq j n4 then n6.1.2.2.1 else n2.2.2.1 j,λj=>bif Nat.beq j n4 then n6.1.2.2.2 else n2.2.2.2.1 j,λj=>bif Nat.beq j n4 then n6.2.1.1 else n5.1 j,λj=>bif Nat.beq j n4 then n6.2.1.2.1 else n5.2.1 j,λj=>bif Nat.beq j n4 then n6.2.1.2.2 else n5.2.2.1 j,λj=>bif Nat.beq j n4 then n6.2.2.1 else n5.2.2.2.1 j,λj=>bif Nat.beq j n4 then n6.2.2.2.1 else n5.2.2.2.2.1 j,λj=>bif Nat.beq j n4 then n6.2.2.2.2 else n5.2.2.2.2.2 j)) no
def mB:=λx=>(Ii x).val
theorem aqQ:D0 [] 193 uj V8 λb=>Ii b:=λb=>by kernel_rfl
theorem V9 [ax]:SC (Ih mB):=s0 (.nil _) aqQ
def uk:=qa (dp (cu dy (c ai (cl aFU nil))) λv=>(cd aAQ λb0=>(c (cl (gs v.2.1 aGp) nil) (c jT (c lk (c (cl (gs b0.c.1 lg) nil) (cd na λb5=>(cd nc λb6=>(cd nd λb7=>(cd nh λb8=>(cd ni λb9=>(cd (a 5 gJ (c gi (c (gc (wX 19 9)) jO))) λb10=>(c kC (cd (c gi (c gi (cl (gc (wX 20 11)) nil))) λb12=>(c (cl (gs b0.e jk) nil) (c (cl (gs b5.b.1 aA) nil) (c (cl (gs b6.b.1 aA) nil) (c (cl (gs b7.b.1 aA) nil) (c (cl (gs b8.b.1 aA) nil) (c (cl (gs b9.b.1 aA) nil) (c (cl (gs b10.b.1 aA) nil) (cl (cl (gs b12.b fX) nil) nil))))))))))))))))))))))
def am0:=qe (res (pr (ac (wX 21 3)) (pr (c (zC aAQ) aMc) (cl aLy nil))))
abbrev AF:=(Nat×(Ty4×aIi×Int)×(Nat->Bool)×NI×NI)
def Wa:AF->T:=λd=>lf am0 (d.1,d.2.1,d.1,d.b)
abbrev pd:=uk.B->Option AF
def pe (g:pd):Ct:=(199,sQ 2 [.i .i64,.i .i64,.i .i64,.i .i64,.i .i64,.i .i64,.i .i64,.i .i64,.i .i64,.i .i64,.i .i64,.i .i64,.i .i64,.i .i64,.i .i64,.i .i64,.i .i64,.i .i64,.i .i64,.i .i64,.i .i64,.i .i64,.i .i64,.i .i64,.i .i64,.i .i64,.i .i64] (FC uk Wa g))
def Ij (Yy:axQ)(dn:AB)(x:uk.B):Pg AF:=let n3:=x.2.1.2.2.2;let n5:=n3.2.2.2.2.2.2.2.2.2.2.2.2.2;let n2:=x.2.2.2.2.2.2;let n4:=n2.2.2.2;ae (Nat.beq x.1.2.1 x.1.2.1) (opt (Yy ((x.2.1.2.2.1,n3.1,x.1.2.1,x.1.2.2&&true),x.2.1.2.1,x.2.2.1)) λd=>let n6:=d.1.2.2;let n1:=(x.2.1.1,d.2.1,d.1.1,d.1.2.1,n3.2);ae (Nat.beq n6 n6) (ae (Nat.beq n3.2.1 n3.2.1) (ae (Nat.beq n5 n5) (ae (Nat.beq n2.1.2.2.1 n2.1.2.2.1) (ae (Nat.beq n2.2.1.2.2.1 n2.2.1.2.2.1) (ae (Nat.beq n2.2.2.1.2.2.1 n2.2.2.1.2.2.1) (ae (Nat.beq n4.1.2.2.1 n4.1.2.2.1) (ae (Nat.beq n4.2.1.2.2.1 n4.2.1.2.2.1) (ae (Nat.beq n4.2.2.1.2.2.1 n4.2.2.1.2.2.1) (ae (Nat.beq n4.2.2.2.2.1.2.2 n4.2.2.2.2.1.2.2) (opt (dn ((x.1.1,n6,true),n1,d.2.2,x.2.2.2)) λaj=>ret (n6,(n1,aj),d.2.2)) no) no) no) no) no) no) no) no) no) no) no
def dK:=λx=>(Ij OS iN x).val
theorem aqR:∀Yy dn,D0 [axR Yy,AD dn] 199 uk Wa λb=>Ij Yy dn b:=λ_ _ b=>by kernel_rfl
theorem um [ax]:SC (pe dK):=sc (Sound.nil 2 [.i .i64,.i .i64,.i .i64,.i .i64,.i .i64,.i .i64,.i .i64,.i .i64,.i .i64,.i .i64,.i .i64,.i .i64,.i .i64,.i .i64,.i .i64,.i .i64,.i .i64,.i .i64,.i .i64,.i .i64,.i .i64,.i .i64,.i .i64,.i .i64,.i .i64,.i .i64,.i .i64]<|k0 (.c aKc (.c Ie (.nil _))) (aqR OS iN))
def qB:=qa (dp (cu dy aFZ) λv=>(cd aAQ λb0=>(c (cl (gs v.1 apE) nil) (c jT (c lk (c (cl (gs b0.c.1 lg) nil) (cd na λb5=>(cd nc λb6=>(cd nd λb7=>(cd nh λb8=>(cd ni λb9=>(cd (a 5 gJ (c gi (c (gc (wX 19 9)) jO))) λb10=>(c kC (cd (c gi (c gi (cl (gc (wX 20 11)) nil))) λb12=>(c (cl (gs b0.e jk) nil) (c (cl (gs b5.b.1 aA) nil) (c (cl (gs b6.b.1 aA) nil) (c (cl (gs b7.b.1 aA) nil) (c (cl (gs b8.b.1 aA) nil) (c (cl (gs b9.b.1 aA) nil) (c (cl (gs b10.b.1 aA) nil) (cl (cl (gs b12.b fX) nil) nil))))))))))))))))))))))
def Ck:=qe (res (pu Th (pl (cl (zC aAQ) aii) nil)))
abbrev DT:=Ck.B
abbrev DU:=qB.B->Option DT
def DV (g:DU):Ct:=(200,sQ 1 [.b,.i .i64,.i .i64] (FC qB (lf Ck) g))
def DW (pL:aac)(x:qB.B):Pg DT:=let n2:=x.2.1;let n1:=n2.2.2.2.2.2;let n3:=n1.2.2.2;ae (Nat.beq x.1.1 x.1.1) (opt (pL x.1.1 x.2.2.1.1 x.2.2.1.2.1 x.2.2.1.2.2 (x.1.2&&true)) λd=>ae (decide (d.1>0)) (ret (n2.1,n2.2.1,n2.2.2.1,n2.2.2.2.1,n2.2.2.2.2.1,n1.1,n1.2.1,n1.2.2.1,n3.1,n3.2.1,n3.2.2.1,true,n3.2.2.2.2.2.1,n3.2.2.2.2.2)) (ret n2)) no
def km:=λx=>(DW xf x).val
theorem alv:∀pL,D1 [aad pL] [0] 200 qB (lf Ck) λb=>DW pL b:=λ_ b=>by kernel_rfl
theorem Pn [ax]:SC (DV km):=sc (Sound.nil 1 [.b,.i .i64,.i .i64]<|k0 (.c aoA (.nil _)) (alv xf))
def nN:=qa (pr (cu dy (c ai (c ai aRh))) (cd oy λb0=>(c jT (c lk (c (cl (gs b0.c.1 lg) nil) (cd oR λb4=>(cd na λb5=>(cd nc λb6=>(cd nd λb7=>(cd nh λb8=>(cd ni λb9=>(c kC (cd pX λpQ=>(c (cl (gs b0.e jk) nil) (c (cl (gs b4.b.1 aA) nil) (c (cl (gs b5.b.1 aA) nil) (c (cl (gs b6.b.1 aA) nil) (c (cl (gs b7.b.1 aA) nil) (c (cl (gs b8.b.1 aA) nil) (c (cl (gs b9.b.1 aA) nil) (cl (cl (gs pQ.b fX) nil) nil)))))))))))))))))))))
def yQ:=qe apM
abbrev AG:=yQ.B
abbrev K7:=nN.B->Option AG
def K8 (g:K7):Ct:=(131,FC nN (lf yQ) g)
def AH (bg:pd)(cS:xO)(x:nN.B):Pg AG:=let n7:=x.2.2.2.2.2;let n4:=x.1.2.2.2;let n3:=x.2.1.2.2.2.2;let n6:=n3.2.2.2.2.2.2.2.2.2.2.2.2;let n2:=n7.2;let n5:=n2.2.2.2;let n1:=x.1.2.2.1;let y0:=Nat.beq n3.1 n3.1;let y1:=Nat.beq n6 n6;let y2:=Nat.beq n7.1.2.2.1 n7.1.2.2.1;let y3:=Nat.beq n2.1.2.2.1 n2.1.2.2.1;let y4:=Nat.beq n2.2.1.2.2.1 n2.2.1.2.2.1;let y5:=Nat.beq n2.2.2.1.2.2.1 n2.2.2.1.2.2.1;let y6:=Nat.beq n5.1.2.2.1 n5.1.2.2.1;let y7:=Nat.beq n5.2.1.2.2.1 n5.2.1.2.2.1;let y8:=Nat.beq n5.2.2.2.1.2.2 n5.2.2.2.1.2.2;ae (n3.2.1.2.1==x.1.2.1) (ae y0 (ae y1 (ae y2 (ae y3 (ae y4 (ae y5 (ae y6 (ae y7 (ae y8 (opt (bg ((x.1.1,1,true),x.2.1,(λj=>bif Nat.beq j 0 then n1 0 else n1 0,λj=>bif Nat.beq j 0 then n1 1 else n1 1,λj=>bif Nat.beq j 0 then n1 2 else n1 2,λj=>bif Nat.beq j 0 then n1 3 else n1 3,λj=>bif Nat.beq j 0 then n1 4 else n1 4,λj=>bif Nat.beq j 0 then n1 5 else n1 5,λj=>bif Nat.beq j 0 then n1 6 else n1 6,λj=>bif Nat.beq j 0 then n1 7 else n1 7,λj=>bif Nat.beq j 0 then n1 8 else n1 8,λj=>bif Nat.beq j 0 then n1 9 else n1 9,λj=>bif Nat.beq j 0 then n1 10 else n1 10,λj=>bif Nat.beq j 0 then n1 11 else n1 11,λj=>bif Nat.beq j 0 then n1 12 else n1 12,λj=>bif Nat.beq j 0 then n1 13 else n1 13,λj=>bif Nat.beq j 0 then n1 14 else n1 14,λj=>bif Nat.beq j 0 then n1 15 else n1 15,λj=>bif Nat.beq j 0 then n1 16 else n1 16,λj=>bif Nat.beq j 0 then n1 17 else n1 17,λj=>bif Nat.beq j 0 then n1 18 else n1 18,λj=>bif Nat.beq j 0 then n1 19 else n1 19,λj=>bif Nat.beq j 0 then n1 20 else n1 20,λj=>bif Nat.beq j 0 then n1 21 else n1 21,λj=>bif Nat.beq j 0 then n1 22 else n1 22,λj=>bif Nat.beq j 0 then n1 23 else n1 23,λj=>bif Nat.beq j 0 then n4.1 else n4.1,λj=>bif Nat.beq j 0 then n4.2.1 else n4.2.1,λj=>bif Nat.beq j 0 then n4.2.2 else n4.2.2),x.2.2)) λd=>ret d.2.1) no) no) no) no) no) no) no) no) no) (ae y0 (ae y1 (ae y2 (ae y3 (ae y4 (ae y5 (ae y6 (ae y7 (ae y8 (opt (cS (x.1.1,x.2)) λd=>ret (x.2.1,d)) no) no) no) no) no) no) no) no) no)
def nP:=λx=>(AH dK gV x).val
theorem afw:∀bg cS,D1 [pe bg,xP cS] [0] 131 nN (lf yQ) λb=>AH bg cS b:=λ_ _ b=>by kernel_rfl
theorem afx [ax]:SC (K8 nP):=s0 (.c um (.c FQ (.nil _))) (afw dK gV)
def iz:=qa (pu (cu dy nil) (cd oy λb0=>(c jT (c lk (c (cl (gs b0.c.1 lg) nil) (cd oR λb4=>(cd na λb5=>(cd nc λb6=>(cd nd λb7=>(cd nh λb8=>(cd ni λb9=>(c kC (cd pX λpQ=>(c (cl (gs b0.e jk) nil) (c (cl (gs b4.b.1 aA) nil) (c (cl (gs b5.b.1 aA) nil) (c (cl (gs b6.b.1 aA) nil) (c (cl (gs b7.b.1 aA) nil) (c (cl (gs b8.b.1 aA) nil) (c (cl (gs b9.b.1 aA) nil) (cl (cl (gs pQ.b fX) nil) nil)))))))))))))))))))))
def uo:=qe (res (pr ai (pl (cl (zC oy) aRO) nil)))
abbrev vn:=uo.B
abbrev E9:=iz.B->Option vn
def E' (g:E9):Ct:=(191,FC iz (lf uo) g)
def oH (wH:Pj)(x:iz.B):Pg vn:=let n1:=x.1.1.2.2.2.2.2.2.2.2.2.2.2.2.2;opt (wH n1.1 n1.2.1 n1.2.2 x.1.2.1) λd=>ret (d.1.1,x.1.1,d.2,x.1.2.2)
def fS:=λx=>(oH qy x).val
theorem WZ:∀wH,D0 [Pk wH] 191 iz (lf uo) λb=>oH wH b:=λ_ b=>by kernel_rfl
theorem W0 [ax]:SC (E' fS):=s0 (.c als (.nil _)) (WZ qy)
def uq:=qa (pr (cu dy B4) (cd oy λb0=>(c jT (c lk (c (cl (gs b0.c.1 lg) nil) (cd oR λb4=>(cd na λb5=>(cd nc λb6=>(cd nd λb7=>(cd nh λb8=>(cd ni λb9=>(c kC (cd pX λpQ=>(c (cl (gs b0.e jk) nil) (c (cl (gs b4.b.1 aA) nil) (c (cl (gs b5.b.1 aA) nil) (c (cl (gs b6.b.1 aA) nil) (c (cl (gs b7.b.1 aA) nil) (c (cl (gs b8.b.1 aA) nil) (c (cl (gs b9.b.1 aA) nil) (cl (cl (gs pQ.b fX) nil) nil)))))))))))))))))))))
def LU:=qe apM
def ahX:=qe (res (pu Th (pr (c (zC (a 26 lI (c gb (c fq (a 2 my (cu afX (cu afY (c aFV (au 6 ade (cu anh (a 4 ot (cu ani (c gb (c gi (a 3 fP (c gb (cu auB (c gb aL4)))))))))))))))))) aMb) aGn)))
abbrev AI:=LU.B⊕(((Ty7×Bool×NI×(NI×NI)×Nat×afV×Bool×Int×Lx×Bool×Bool×Int×Int×Int×afU×Nat)×aIi×Int)×NI×NI×NI×NI×NI×NI×NI×NI×NI×NI)
def Wb:AI->T:=ls (lf LU) (λd=>lf ahX (d.1,d.1.1.d.c.b.2,d.2))
abbrev Wc:=uq.B->Option AI
def Wd (g:Wc):Ct:=(129,FC uq Wb g)
def Ik (lA:Yn)(bh:dz)(oI:E9)(SY:atE)(aY:mP)(SZ:atn)(fx:Ig)(eI:oZ)(gS:EC)(cH:w9)(aN:eL)(cS:xO)(x:uq.B):Pg AI:=let n8:=x.2.2;let bl:=n8.2.2.2;let n7:=x.2.1.2.2;let n9:=n7.2.2.2.2.2.2.2.2.2.2.2.2.2.2;let n6:=x.1.2.2.2;let n1:=bl.2;let n3:=n1.2.2.2;let bA:=n3.2.2.2;let y0:=Nat.beq bl.1.2.2.1 bl.1.2.2.1;let y1:=Nat.beq n1.1.2.2.1 n1.1.2.2.1;let y2:=Nat.beq n1.2.1.2.2.1 n1.2.1.2.2.1;let y3:=Nat.beq n1.2.2.1.2.2.1 n1.2.2.1.2.2.1;let y4:=Nat.beq n3.1.2.2.1 n3.1.2.2.1;let y5:=Nat.beq n3.2.1.2.2.1 n3.2.1.2.2.1;let y6:=Nat.beq bA.1.2.2 bA.1.2.2;opt (lA x.1.1 x.1.2.1 x.1.2.2.1 n6.1 n6.2.1 n6.2.2.1 n6.2.2.2.1 n6.2.2.2.2.1 n6.2.2.2.2.2 x.2.1.2.1) λd=>let ba:=d.1.1;opt (bh n7.1) λaj=>ae (Nat.beq n7.2.2.1 n7.2.2.1) (ae (Nat.beq n9 n9) (ae y0 (ae y1 (ae y2 (ae y3 (ae y4 (ae y5 (ae y6 (opt (oI ((x.2.1.1,d.2,n7),n8)) λaF=>let n5:=aF.2.2.2;let aS:=n5.2.2.2.2.2.2.2.2.2.2.2.2.2.2;let pA:=Nat.beq n5.2.2.1 n5.2.2.1;let axh:=Nat.beq aS aS;opt (SY aj.1 aj.2.1 aj.2.2.1 aj.2.2.2 ba.1 ba.2.1 ba.2.2.1 ba.2.2.2 aF.1 aF.2.2.1) λbx=>ae (bx.1.2!=0) (ae pA (ae axh (ae y0 (ae y1 (ae y2 (ae y3 (ae y4 (ae y5 (ae y6 (opt (aY (3,(aF.2.1,bx.2,n5),n8)) λd=>ret (Sum.inl ((aF.2.1,bx.2,n5),d))) no) no) no) no) no) no) no) no) no) (opt (SZ n5.1 n5.2.1.1 n5.2.1.2 bx.1.1 (aF.2.1.2.2.2.2.2.2.2.1 0) bx.2) λcv=>ae pA (ae axh (ae y0 (ae y1 (ae y2 (ae y3 (ae y4 (ae y5 (ae y6 (opt (fx (((cv.1.2.2,(0,0,0),0,0,0),1),(aF.2.1,cv.2,cv.1.1,cv.1.2.1,n5.2.2),n8)) λdN=>let bk:=dN.1.2.2;let n2:=bk.2.2;let n16:=n2.2.2;let n4:=n16.2.2;let n15:=n4.2.2.2;opt (bh bk.1) λcL=>opt (eI cL.1 cL.2.1 cL.2.2.1 cL.2.2.2 dN.1.2.1) λjW=>opt (gS jW.1 ba.1 ba.2.1 ba.2.2.1 jW.2) λd=>opt (cH bk.1 16 3 (cr d.1.1 [d.1.2.2,d.1.2.1,d.1.1]) false) λpF=>opt (aN pF d.2) λd=>ae (Nat.beq n2.1 n2.1) (ae (Nat.beq n15.2.2.2.2.2 n15.2.2.2.2.2) (ae y0 (ae y1 (ae y2 (ae y3 (ae y4 (ae y5 (ae y6 (opt (cS (3,(dN.1.1,d.2,d.1,bk.2.1,n2.1,n2.2.1,n16.1,n16.2.1,n4.1,n4.2.1,true,n15),n8.1,n8.2.1,n8.2.2.1,bl.1,n1.1,n1.2.1,n1.2.2.1,n3.1,n3.2.1,n3.2.2.1,bA.1,dN.2,bA.2.2)) λnx=>ret (Sum.inr (((dN.1.1,d.2,d.1,bk.2.1,n2.1,n2.2.1,n16.1,n16.2.1,n4.1,n4.2.1,n15),nx),dN.2))) no) no) no) no) no) no) no) no) no) no) no) no) no) no) no) no) no) no)) no) no) no) no) no) no) no) no) no
def ur:=λx=>(Ik wA bZ fS KS db KF mB je nC fN bX gV x).val
theorem aqS:∀lA bh oI SY aY SZ fx eI gS cH aN cS,D0 [Yo lA,iF bh,E' oI,atF SY,mQ aY,ato SZ,Ih fx,BR eI,J3 gS,BO cH,ir aN,xP cS] 129 uq Wb λb=>Ik lA bh oI SY aY SZ fx eI gS cH aN cS b:=λ_ _ _ _ _ _ _ _ _ _ _ _ b=>by kernel_rfl
theorem aqT [ax]:SC (Wd ur):=s0 (.c akQ (.c jx (.c W0 (.c aHC (.c qA (.c aHv (.c V9 (.c EG (.c Sy (.c Gm (.c jf (.c FQ (.nil _))))))))))))) (aqS wA bZ fS KS db KF mB je nC fN bX gV)
def uu:=qa (pr (cu dy (cl aGi nil)) (cd oy λb0=>(c jT (c lk (c (cl (gs b0.c.1 lg) nil) (cd oR λb4=>(cd na λb5=>(cd nc λb6=>(cd nd λb7=>(cd nh λb8=>(cd ni λb9=>(c kC (cd pX λpQ=>(c (cl (gs b0.e jk) nil) (c (cl (gs b4.b.1 aA) nil) (c (cl (gs b5.b.1 aA) nil) (c (cl (gs b6.b.1 aA) nil) (c (cl (gs b7.b.1 aA) nil) (c (cl (gs b8.b.1 aA) nil) (c (cl (gs b9.b.1 aA) nil) (cl (cl (gs pQ.b fX) nil) nil)))))))))))))))))))))
def am3:=qe aSe
abbrev AJ:=(Ty4×NI×NI×NI×NI×NI×NI×NI×NI×NI×NI)
def We:AJ->T:=λd=>lf am3 (d.1,d.1.e,d.2)
abbrev Wf:=uu.B->Option AJ
def Wg (g:Wf):Ct:=(195,FC uu We g)
def Il (gv:wz)(CO:Yu)(fx:Ig)(xQ:RW)(Ht:ahi)(x:uu.B):Pg AJ:=let bk:=x.1.2;let n4:=x.2.1.2.2.2;let n8:=n4.2.2.2.2.2.2.2.2.2.2.2.2.2;let n3:=x.2.2;let ba:=n3.2.2;let n1:=ba.2.2;let bl:=n1.2.2.1;let n2:=n1.2.2.2;let n7:=n2.2.2.2;let y0:=Nat.beq ba.2.1.2.2.1 ba.2.1.2.2.1;let y1:=Nat.beq n1.1.2.2.1 n1.1.2.2.1;let y2:=Nat.beq n1.2.1.2.2.1 n1.2.1.2.2.1;let y3:=Nat.beq bl.2.2.1 bl.2.2.1;let y4:=Nat.beq n2.1.2.2.1 n2.1.2.2.1;let y5:=Nat.beq n2.2.1.2.2.1 n2.2.1.2.2.1;let y6:=Nat.beq n7.1.2.2 n7.1.2.2;opt (gv x.1.1.1 x.1.1.2.1 x.1.1.2.2 n3.1.1.1 n3.1.1.2.1 n3.1.1.2.2 n3.1.2.1 n3.1.2.2 x.2.1.2.1) λd=>opt (CO x.2.1.2.2.1 n4.1.1 n4.1.2 bk.1.1 bk.1.2.1 bk.1.2.2 bk.2.2 d.2) λaj=>ae (Nat.beq n4.2.1 n4.2.1) (ae (Nat.beq n8 n8) (ae y0 (ae y1 (ae y2 (ae y3 (ae y4 (ae y5 (ae y6 (opt (fx ((((1073741824,0,0,0),aj.1.2.2,0,0,0),2),(x.2.1.1,aj.2,aj.1.1,aj.1.2.1,n4.2),n3)) λaF=>let n6:=aF.1.2.2.2;let n9:=n6.2.2.2.2.2.2.2.2.2.2.2.2.2;opt (xQ aF.1.2.2.1 n6.1.1 n6.1.2 d.1.1.1 d.1.1.2.1 bk.2.1 aF.1.2.1) λbx=>ae (Nat.beq n6.2.1 n6.2.1) (ae (Nat.beq n9 n9) (ae y0 (ae y1 (ae y2 (ae y3 (ae y4 (ae y5 (ae y6 (opt (fx ((((1073741824,0,0,0),(0,0,0),bx.1.2.2),3),(aF.1.1,bx.2,bx.1.1,bx.1.2.1,n6.2),n3.1,n3.2.1,ba.1,ba.2.1,n1.1,n1.2.1,bl,n2.1,n2.2.1,n2.2.2.1,n7.1,aF.2,n7.2.2)) λcv=>let n5:=cv.1.2.2.2;let aS:=n5.2.2.2.2.2.2.2.2.2.2.2.2.2;ae (n5.2.2.1.2.1==2) (opt (Ht cv.1.2.2.1 n5.1.1 n5.1.2 d.1.1.2.2 bk.2.1 cv.1.2.1) λd=>ae (Nat.beq n5.2.1 n5.2.1) (ae (Nat.beq aS aS) (ae y0 (ae y1 (ae y2 (ae y3 (ae y4 (ae y5 (ae y6 (opt (fx ((((1073741824,0,0,0),(0,0,0),0,0,d.1.2.2),4),(cv.1.1,d.2,d.1.1,d.1.2.1,n5.2),n3.1,n3.2.1,ba.1,ba.2.1,n1.1,n1.2.1,bl,n2.1,n2.2.1,n2.2.2.1,n7.1,cv.2,n7.2.2)) λd=>ret d) no) no) no) no) no) no) no) no) no) (ret cv)) no) no) no) no) no) no) no) no) no) no) no) no) no) no) no) no) no) no
def uv:=λx=>(Il jA wE mB rM Bv x).val
theorem aqU:∀gv CO fx xQ Ht,D0 [CF gv,Yv CO,Ih fx,RX xQ,ahj Ht] 195 uu We λb=>Il gv CO fx xQ Ht b:=λ_ _ _ _ _ b=>by kernel_rfl
theorem aqV [ax]:SC (Wg uv):=s0 (.c KR (.c at8 (.c V9 (.c amU (.c azP (.nil _)))))) (aqU jA wE mB rM Bv)
def nQ:=qa (pr (cu dy B4) (cd oy λb0=>(c jT (c lk (c (cl (gs b0.c.1 lg) nil) (cd oR λb4=>(cd na λb5=>(cd nc λb6=>(cd nd λb7=>(cd nh λb8=>(cd ni λb9=>(c kC (cd pX λpQ=>(c (cl (gs b0.e jk) nil) (c (cl (gs b4.b.1 aA) nil) (c (cl (gs b5.b.1 aA) nil) (c (cl (gs b6.b.1 aA) nil) (c (cl (gs b7.b.1 aA) nil) (c (cl (gs b8.b.1 aA) nil) (c (cl (gs b9.b.1 aA) nil) (cl (cl (gs pQ.b fX) nil) nil)))))))))))))))))))))
def yR:=qe apM
abbrev AK:=yR.B
abbrev K9:=nQ.B->Option AK
def K' (g:K9):Ct:=(136,FC nQ (lf yR) g)
def AL (wG:ak0)(Hu:ag3)(Bz:ag9)(aY:mP)(bg:pd)(x:nQ.B):Pg AK:=let bk:=x.2.2;let n8:=x.2.1.1;let n7:=x.1.2.2.2;let n6:=n8.2.2.2.2.1.2.2.2.2.1;let n4:=x.2.1.2.2;let ba:=n4.2.2.2.2.2.2.2.2.2.2.2.2.2.2;let n3:=bk.2.2.2.2;let n9:=n3.2.2.2;let y0:=Nat.beq n4.2.2.1 n4.2.2.1;let y1:=Nat.beq ba ba;let y2:=Nat.beq bk.2.2.2.1.2.2.1 bk.2.2.2.1.2.2.1;let y3:=Nat.beq n3.1.2.2.1 n3.1.2.2.1;let y4:=Nat.beq n3.2.1.2.2.1 n3.2.1.2.2.1;let y5:=Nat.beq n3.2.2.1.2.2.1 n3.2.2.1.2.2.1;let y6:=Nat.beq n9.1.2.2.1 n9.1.2.2.1;let y7:=Nat.beq n9.2.1.2.2.1 n9.2.1.2.2.1;let y8:=Nat.beq n9.2.2.2.1.2.2 n9.2.2.2.1.2.2;opt (wG x.1.1 x.1.2.1 x.1.2.2.1 n7.1 n7.2.1 n7.2.2.1 n7.2.2.2.1 n7.2.2.2.2.1 n7.2.2.2.2.2 x.2.1.2.1) λd=>opt (Hu n4.1 d.1.1.1 d.1.1.2 n6 d.2) λd=>let n5:=d.1.1.2;let n1:=d.1.1.1;ae (d.1.2==0) (opt (Bz n4.1 17592186044416 n6 d.2) λaj=>ae (aj.1.2==0) (ae y0 (ae y1 (ae y2 (ae y3 (ae y4 (ae y5 (ae y6 (ae y7 (ae y8 (opt (bg ((4,2,true),(n8,aj.2,n4),(awq (λk=>cr (n1 k) [aj.1.1.1 k,n1 k]) (cr n5.1 [aj.1.1.2.1,n5.1],cr n5.2.1 [aj.1.1.2.2.1,n5.2.1],cr n5.2.2 [aj.1.1.2.2.2,n5.2.2])),bk)) λd=>ret d.2.1) no) no) no) no) no) no) no) no) no) (ae y0 (ae y1 (ae y2 (ae y3 (ae y4 (ae y5 (ae y6 (ae y7 (ae y8 (opt (bg ((4,1,true),(n8,aj.2,n4),(λj=>bif Nat.beq j 0 then n1 0 else n1 0,λj=>bif Nat.beq j 0 then n1 1 else n1 1,λj=>bif Nat.beq j 0 then n1 2 else n1 2,λj=>bif Nat.beq j 0 then n1 3 else n1 3,λj=>bif Nat.beq j 0 then n1 4 else n1 4,λj=>bif Nat.beq j 0 then n1 5 else n1 5,λj=>bif Nat.beq j 0 then n1 6 else n1 6,λj=>bif Nat.beq j 0 then n1 7 else n1 7,λj=>bif Nat.beq j 0 then n1 8 else n1 8,λj=>bif Nat.beq j 0 then n1 9 else n1 9,λj=>bif Nat.beq j 0 then n1 10 else n1 10,λj=>bif Nat.beq j 0 then n1 11 else n1 11,λj=>bif Nat.beq j 0 then n1 12 else n1 12,λj=>bif Nat.beq j 0 then n1 13 else n1 13,λj=>bif Nat.beq j 0 then n1 14 else n1 14,λj=>bif Nat.beq j 0 then n1 15 else n1 15,λj=>bif Nat.beq j 0 then n1 16 else n1 16,λj=>bif Nat.beq j 0 then n1 17 else n1 17,λj=>bif Nat.beq j 0 then n1 18 else n1 18,λj=>bif Nat.beq j 0 then n1 19 else n1 19,λj=>bif Nat.beq j 0 then n1 20 else n1 20,λj=>bif Nat.beq j 0 then n1 21 else n1 21,λj=>bif Nat.beq j 0 then n1 22 else n1 22,λj=>bif Nat.beq j 0 then n1 23 else n1 23,λj=>bif Nat.beq j 0 then n5.1 else n5.1,λj=>bif Nat.beq j 0 then n5.2.1 else n5.2.1,λj=>bif Nat.beq j 0 then n5.2.2 else n5.2.2),bk)) λd=>ret d.2.1) no) no) no) no) no) no) no) no) no)) (opt (Bz n4.1 17592186044416 n6 d.2) λd=>let aS:=d.1.1.2;let n2:=d.1.1.1;ae (d.1.2==0) (ae y0 (ae y1 (ae y2 (ae y3 (ae y4 (ae y5 (ae y6 (ae y7 (ae y8 (opt (bg ((4,1,true),(n8,d.2,n4),(λj=>bif Nat.beq j 0 then n2 0 else n2 0,λj=>bif Nat.beq j 0 then n2 1 else n2 1,λj=>bif Nat.beq j 0 then n2 2 else n2 2,λj=>bif Nat.beq j 0 then n2 3 else n2 3,λj=>bif Nat.beq j 0 then n2 4 else n2 4,λj=>bif Nat.beq j 0 then n2 5 else n2 5,λj=>bif Nat.beq j 0 then n2 6 else n2 6,λj=>bif Nat.beq j 0 then n2 7 else n2 7,λj=>bif Nat.beq j 0 then n2 8 else n2 8,λj=>bif Nat.beq j 0 then n2 9 else n2 9,λj=>bif Nat.beq j 0 then n2 10 else n2 10,λj=>bif Nat.beq j 0 then n2 11 else n2 11,λj=>bif Nat.beq j 0 then n2 12 else n2 12,λj=>bif Nat.beq j 0 then n2 13 else n2 13,λj=>bif Nat.beq j 0 then n2 14 else n2 14,λj=>bif Nat.beq j 0 then n2 15 else n2 15,λj=>bif Nat.beq j 0 then n2 16 else n2 16,λj=>bif Nat.beq j 0 then n2 17 else n2 17,λj=>bif Nat.beq j 0 then n2 18 else n2 18,λj=>bif Nat.beq j 0 then n2 19 else n2 19,λj=>bif Nat.beq j 0 then n2 20 else n2 20,λj=>bif Nat.beq j 0 then n2 21 else n2 21,λj=>bif Nat.beq j 0 then n2 22 else n2 22,λj=>bif Nat.beq j 0 then n2 23 else n2 23,λj=>bif Nat.beq j 0 then aS.1 else aS.1,λj=>bif Nat.beq j 0 then aS.2.1 else aS.2.1,λj=>bif Nat.beq j 0 then aS.2.2 else aS.2.2),bk)) λd=>ret d.2.1) no) no) no) no) no) no) no) no) no) (ae y0 (ae y1 (ae y2 (ae y3 (ae y4 (ae y5 (ae y6 (ae y7 (ae y8 (opt (aY (4,(n8,d.2,n4),bk)) λaj=>ret ((n8,d.2,n4),aj)) no) no) no) no) no) no) no) no) no))
def nR:=λx=>(AL Dx Bt Bu db dK x).val
theorem afy:∀wG Hu Bz aY bg,D0 [ak1 wG,ag4 Hu,aha Bz,mQ aY,pe bg] 136 nQ (lf yR) λb=>AL wG Hu Bz aY bg b:=λ_ _ _ _ _ b=>by kernel_rfl
theorem afz [ax]:SC (K' nR):=s0 (.c ayv (.c azH (.c azJ (.c qA (.c um (.nil _)))))) (afy Dx Bt Bu db dK)
def uw:=qa (pr (cu dy B4) (cd oy λb0=>(c jT (c lk (c (cl (gs b0.c.1 lg) nil) (cd oR λb4=>(cd na λb5=>(cd nc λb6=>(cd nd λb7=>(cd nh λb8=>(cd ni λb9=>(c kC (cd pX λpQ=>(c (cl (gs b0.e jk) nil) (c (cl (gs b4.b.1 aA) nil) (c (cl (gs b5.b.1 aA) nil) (c (cl (gs b6.b.1 aA) nil) (c (cl (gs b7.b.1 aA) nil) (c (cl (gs b8.b.1 aA) nil) (c (cl (gs b9.b.1 aA) nil) (cl (cl (gs pQ.b fX) nil) nil)))))))))))))))))))))
def FR:=qe apM
abbrev Im:=FR.B
abbrev Wh:=uw.B->Option Im
def Wi (g:Wh):Ct:=(137,FC uw (lf FR) g)
def Io (sF:aff)(S3:atT)(aY:mP)(bg:pd)(dw:DU)(x:uw.B):Pg Im:=let aS:=x.2.1;let n7:=x.2.2;let ba:=n7.2.2.2;let n6:=x.1.2.2.2;let n2:=aS.2.2;let n8:=n2.2.2.2.2.2.2.2.2.2.2.2.2.2.2;let n1:=ba.2;let n3:=n1.2.2.2;let y0:=Nat.beq n2.2.2.1 n2.2.2.1;let y1:=Nat.beq n8 n8;let y2:=Nat.beq ba.1.2.2.1 ba.1.2.2.1;let y3:=Nat.beq n1.1.2.2.1 n1.1.2.2.1;let y4:=Nat.beq n1.2.1.2.2.1 n1.2.1.2.2.1;let y5:=Nat.beq n1.2.2.1.2.2.1 n1.2.2.1.2.2.1;let y6:=Nat.beq n3.1.2.2.1 n3.1.2.2.1;let y7:=Nat.beq n3.2.1.2.2.1 n3.2.1.2.2.1;let y8:=Nat.beq n3.2.2.2.1.2.2 n3.2.2.2.1.2.2;opt (sF x.1.1 x.1.2.1 x.1.2.2.1 n6.1 n6.2.1 n6.2.2.1 n6.2.2.2.1 n6.2.2.2.2.1 n6.2.2.2.2.2 aS.2.1) λd=>opt (S3 n2.1 d.1.1.1 d.1.1.2.1 d.1.1.2.2.1 d.1.1.2.2.2 aS.1.2.2.2.2.1.2.2.2.2.2 d.2) λd=>sm d (λd=>ae (d.1!=0) (ae y0 (ae y1 (ae y2 (ae y3 (ae y4 (ae y5 (ae y6 (ae y7 (ae y8 (opt (aY (5,(aS.1,d.2,n2),n7)) λaj=>ret ((aS.1,d.2,n2),aj)) no) no) no) no) no) no) no) no) no) no) (λd=>let n4:=d.2.2.2;ae y0 (ae y1 (ae y2 (ae y3 (ae y4 (ae y5 (ae y6 (ae y7 (ae y8 (opt (bg ((5,2,true),(aS.1,d.1,n2),(awq (λk=>cr (d.2.1 k) [n4.2.2.1 k,d.2.1 k]) (cr d.2.2.1 [n4.2.2.2,d.2.2.1],cr n4.1 [n4.1,n4.1],cr n4.2.1 [n4.2.1,n4.2.1])),n7)) λd=>let n5:=d.2.1.1.2.2.2.2;let n9:=n5.2.2.2.2.2.2.2.2.2.2.2.2;ae (Nat.beq d.1 d.1) (ae (Nat.beq n5.1 n5.1) (ae (Nat.beq n9 n9) (ae y2 (ae y3 (ae y4 (ae y5 (ae y6 (ae y7 (ae y8 (opt (dw ((d.1,true),d.2.1.1,d.2.2,n7.1,n7.2.1,n7.2.2.1,ba.1,n1.1,n1.2.1,n1.2.2.1,n3.1,n3.2.1,d.2.1.2,n3.2.2.2)) λaj=>ret (aj,d.2.1.2)) no) no) no) no) no) no) no) no) no) no) no) no) no) no) no) no) no) no) no)
def ux:=λx=>(Io Aq Ar db dK km x).val
theorem aqW:∀sF S3 aY bg dw,D0 [afg sF,atU S3,mQ aY,pe bg,DV dw] 137 uw (lf FR) λb=>Io sF S3 aY bg dw b:=λ_ _ _ _ _ b=>by kernel_rfl
theorem aqX [ax]:SC (Wi ux):=s0 (.c atP (.c aHG (.c qA (.c um (.c Pn (.nil _)))))) (aqW Aq Ar db dK km)
def qC:=qa (pu (cu dy nil) (cd oy λb0=>(c jT (c lk (c (cl (gs b0.c.1 lg) nil) (cd oR λb4=>(cd na λb5=>(cd nc λb6=>(cd nd λb7=>(cd nh λb8=>(cd ni λb9=>(c kC (cd pX λpQ=>(c (cl (gs b0.e jk) nil) (c (cl (gs b4.b.1 aA) nil) (c (cl (gs b5.b.1 aA) nil) (c (cl (gs b6.b.1 aA) nil) (c (cl (gs b7.b.1 aA) nil) (c (cl (gs b8.b.1 aA) nil) (c (cl (gs b9.b.1 aA) nil) (cl (cl (gs pQ.b fX) nil) nil)))))))))))))))))))))
def Cl:=qe (res (pl (aa (c gi (c gi (c gb (c gb (c gi (c gi (c gi (c gb (c gb aLH)))))))))) (pu aii nil)))
abbrev Po:=Cl.B
abbrev qD:=qC.B->Option Po
def wJ (g:qD):Ct:=(14,FC qC (lf Cl) g)
def DX (pR:GF)(uK:LP)(x:qC.B):Pg Po:=let n3:=x.1.2.2.2.2.2;let n2:=n3.2.2.2.2.2.2.2.2;let n4:=n2.2.2.1;let n1:=x.2.2.2.2.2.2.2.2.2.2.1;let n5:=n1.1.2.2;opt (pR n2.1 n1.1.1 n1.1.2.1 n5.1 n5.2.1 n5.2.2.1 n5.2.2.2 n1.2) λd=>opt (uK n1.1.1 n1.1.2.1 n5.1 n5.2.1 n5.2.2.1 n5.2.2.2 n1.2) λaj=>ret (n3.1.1,n3.1.2.1,n3.1.2.2.1,n3.1.2.2.2,n2.1,d,n2.2.1,aj,x.1.2.1,n4.1.1,n4.1.2.1,n4.1.2.2.1,n4.1.2.2.2,n4.2.1.1,n4.2.1.2.1,n4.2.1.2.2,n4.2.2)
def iv:=λx=>(DX lT oN x).val
theorem alw:∀pR uK,D0 [GG pR,LQ uK] 14 qC (lf Cl) λb=>DX pR uK b:=λ_ _ b=>by kernel_rfl
theorem DY [ax]:SC (wJ iv):=s0 (.c aaH (.c ahS (.nil _))) (alw lT oN)
def CP:=qa (pu (cu dy nil) (cd oy λb0=>(c jT (c lk (c (cl (gs b0.c.1 lg) nil) (cd oR λb4=>(cd na λb5=>(cd nc λb6=>(cd nd λb7=>(cd nh λb8=>(cd ni λb9=>(c kC (cd pX λpQ=>(c (cl (gs b0.e jk) nil) (c (cl (gs b4.b.1 aA) nil) (c (cl (gs b5.b.1 aA) nil) (c (cl (gs b6.b.1 aA) nil) (c (cl (gs b7.b.1 aA) nil) (c (cl (gs b8.b.1 aA) nil) (c (cl (gs b9.b.1 aA) nil) (cl (cl (gs pQ.b fX) nil) nil)))))))))))))))))))))
def Ip:=qe (res (pl aRJ (pu aii nil)))
abbrev Yz:=Ip.B
abbrev at9:=CP.B->Option Yz
def YA (g:at9):Ct:=(11,FC CP (lf Ip) g)
def YB (ri:IY)(x:CP.B):Pg Yz:=let n2:=x.2.2.2.2.2.2.2.2.2.2.2;let n1:=n2.2.2.2.2.2.2.2.2;let n3:=n1.2.2.2.2.2;ae (Nat.beq n2.1.2.2 n2.1.2.2) (opt (ri n2.1.1 n2.1.2.1 n2.1.2.2 n1.1 n1.2.1 n1.2.2.1 n1.2.2.2.1 n1.2.2.2.2.1 n3.1 n3.2.1 n3.2.2.1 n3.2.2.2.1 n3.2.2.2.2.1 n3.2.2.2.2.2) λd=>ret d) no
def YC:=λx=>(YB yL x).val
theorem aua:∀ri,D0 [IZ ri] 11 CP (lf Ip) λb=>YB ri b:=λ_ b=>by kernel_rfl
theorem aub [ax]:SC (YA YC):=s0 (.c acd (.nil _)) (aua yL)
def qE:=qa (pr (cu dy fU) (cd oy λb0=>(c jT (c lk (c (cl (gs b0.c.1 lg) nil) (cd oR λb4=>(cd na λb5=>(cd nc λb6=>(cd nd λb7=>(cd nh λb8=>(cd ni λb9=>(c kC (cd pX λpQ=>(c (cl (gs b0.e jk) nil) (c (cl (gs b4.b.1 aA) nil) (c (cl (gs b5.b.1 aA) nil) (c (cl (gs b6.b.1 aA) nil) (c (cl (gs b7.b.1 aA) nil) (c (cl (gs b8.b.1 aA) nil) (c (cl (gs b9.b.1 aA) nil) (cl (cl (gs pQ.b fX) nil) nil)))))))))))))))))))))
def Cm:=qe (res (pl (aa aQ3) (pu aii nil)))
abbrev Pp:=Cm.B
abbrev alx:=qE.B->Option Pp
def Pq (g:alx):Ct:=(18,FC qE (lf Cm) g)
def DZ (pS:GJ)(x:qE.B):Pg Pp:=let n1:=x.2.2.2.2.2.2.2.2.2.2.2.1;let n2:=n1.1.2.2;opt (pS x.1 n1.1.1 n1.1.2.1 n2.1 n2.2.1 n2.2.2.1 n2.2.2.2 n1.2) λd=>ret d
def wK:=λx=>(DZ lU x).val
theorem aly:∀pS,D0 [GK pS] 18 qE (lf Cm) λb=>DZ pS b:=λ_ b=>by kernel_rfl
theorem alz [ax]:SC (Pq wK):=s0 (.c aaJ (.nil _)) (aly lU)
def lY:=qa (pr (cu dy B4) (cd oy λb0=>(c jT (c lk (c (cl (gs b0.c.1 lg) nil) (cd oR λb4=>(cd na λb5=>(cd nc λb6=>(cd nd λb7=>(cd nh λb8=>(cd ni λb9=>(c kC (cd pX λpQ=>(c (cl (gs b0.e jk) nil) (c (cl (gs b4.b.1 aA) nil) (c (cl (gs b5.b.1 aA) nil) (c (cl (gs b6.b.1 aA) nil) (c (cl (gs b7.b.1 aA) nil) (c (cl (gs b8.b.1 aA) nil) (c (cl (gs b9.b.1 aA) nil) (cl (cl (gs pQ.b fX) nil) nil)))))))))))))))))))))
def S4:=qe (res (pu Th (pr (c (zC (a 26 lI (c gb (c fq (a 2 my (cu afX (cu afY (c aFV (au 6 ade (cu anh (a 4 ot (cu ani (c gb (c gi (a 3 fP (c gb (c gb (cu auB aL4)))))))))))))))))) aMb) aGn)))
def CQ:=qe apM
abbrev pT:=(((Ty7×Bool×NI×(NI×NI)×Nat×afV×Bool×Int×Lx×Bool×Bool×Int×Int×afU×Nat)×aIi×Int)×NI×NI×NI×NI×NI×NI×NI×NI×NI×NI)⊕CQ.B
def GR:pT->T:=ls (λd=>lf S4 (((d.1.1.1,d.1.1.2.1,d.1.1.b.1,d.1.1.b.2.1,d.1.1.c.1,d.1.1.c.2.1,d.1.1.c.b.1,d.1.1.c.b.2.1,d.1.1.d.1,d.1.1.d.2.1,d.1.1.d.b.1,d.1.1.d.b.2.1,d.1.1.d.b.2),d.1.2),d.1.1.d.c.b,d.2)) (lf CQ)
abbrev GS:=lY.B->Option pT
def GU (g:GS):Ct:=(130,FC lY GR g)
def xC (sE:ae3)(AM:Wf)(cS:xO)(ET:ab0)(AN:Vq)(D3:akF)(bg:pd)(dw:DU)(fy:DF)(x:lY.B):Pg pT:=let n25:=x.1.2.2.2;let n22:=x.2.1.1;let n58:=n22.2.2.2.2;let n9:=x.2.1.2.2;let bA:=n9.2.2.2.2.2.2.2.2.2;let n7:=x.2.2;let Wj:=n7.2.1;let n16:=n7.2.2;let n32:=n16.2.1;let n4:=n16.2.2;let n33:=n4.2.1;let n23:=n4.2.2.1;let n6:=n4.2.2.2;let n34:=n6.2.1;let n17:=n6.2.2.2;let y0:=n9.2.2.2.1.2.1==2;let y1:=Nat.beq n9.2.2.1 n9.2.2.1;let y2:=Nat.beq bA.2.2.2.2.2 bA.2.2.2.2.2;let y3:=Nat.beq n32.2.2.1 n32.2.2.1;let y4:=Nat.beq n4.1.2.2.1 n4.1.2.2.1;let y5:=Nat.beq n33.2.2.1 n33.2.2.1;let y6:=Nat.beq n23.2.2.1 n23.2.2.1;let y7:=Nat.beq n6.1.2.2.1 n6.1.2.2.1;let y8:=Nat.beq n34.2.2.1 n34.2.2.1;let y9:=Nat.beq n17.1.2.2 n17.1.2.2;opt (sE x.1.1 x.1.2.1 x.1.2.2.1 n25.1 n25.2.1 n25.2.2.1 n25.2.2.2.1 n25.2.2.2.2.1 n25.2.2.2.2.2 x.2.1.2.1) λd=>let n57:=d.1.1;let bl:=n57.2.2;let n38:=bl.2.2;let n1:=((n57.1,n57.2.1,bl.1),(bl.2.1,n38.1,n38.2.1),n38.2.2);let n3:=(AM (n1,(n22,d.2,n9),n7));let n2:=(n9.1,n1,n58.1.1);ae (!bA.1) (ae y1 (ae y2 (ae y3 (ae y4 (ae y5 (ae y6 (ae y7 (ae y8 (ae y9 (opt n3 λd=>let aS:=d.1.2.2.2.2;let n26:=aS.2.2.2.2;let n48:=n26.2.2.2.2.2;ae (Nat.beq aS.1 aS.1) (ae (Nat.beq n48.2.2.2 n48.2.2.2) (ae y3 (ae y4 (ae y5 (ae y6 (ae y7 (ae y8 (ae y9 (opt (cS (0,d.1,n7.1,Wj,n16.1,n32,n4.1,n33,n23,n6.1,n34,n6.2.2.1,n17.1,d.2,n17.2.2)) λaj=>ret (Sum.inl (((d.1.1,d.1.2.1,d.1.2.2.1,d.1.2.2.2.1,aS.1,aS.2.1,aS.2.2.1,aS.2.2.2.1,n26.1,n26.2.1,n26.2.2.1,n48),aj),d.2))) no) no) no) no) no) no) no) no) no) no) no) no) no) no) no) no) no) no) (ae (decide (wI (bA.2.2.1-bA.2.1)>n58.2.2.2.2.1)) (ae y1 (ae y2 (ae y3 (ae y4 (ae y5 (ae y6 (ae y7 (ae y8 (ae y9 (opt n3 λd=>let ba:=d.1.2.2.2.2;let n27:=ba.2.2.2.2;let n49:=n27.2.2.2.2.2;ae (Nat.beq ba.1 ba.1) (ae (Nat.beq n49.2.2.2 n49.2.2.2) (ae y3 (ae y4 (ae y5 (ae y6 (ae y7 (ae y8 (ae y9 (opt (cS (0,d.1,n7.1,Wj,n16.1,n32,n4.1,n33,n23,n6.1,n34,n6.2.2.1,n17.1,d.2,n17.2.2)) λaj=>ret (Sum.inl (((d.1.1,d.1.2.1,d.1.2.2.1,d.1.2.2.2.1,ba.1,ba.2.1,ba.2.2.1,ba.2.2.2.1,n27.1,n27.2.1,n27.2.2.1,n49),aj),d.2))) no) no) no) no) no) no) no) no) no) no) no) no) no) no) no) no) no) no) (opt (ET n9.1 n57.1 n57.2.1 bl.1 bl.2.1 n38.1 n38.2.1 n38.2.2.1 n38.2.2.2 n58.1.1 d.2) λaj=>let n35:=aj.2.1;let n24:=aj.2.2.1;let n8:=aj.2.2.2;let n55:=n8.2.2.1;let n36:=n8.2.1;let n5:=n8.2.2.2;let W2:=n5.2.2.1;let bk:=n5.2.2.2;let n37:=bk.2.2;opt (AN (n2,aj.1,n7.1)) λaF=>sm aF (λbx=>ae y0 (opt (D3 (n2,bx.2,n7.1)) λd=>ae y1 (ae y2 (ae y3 (ae y4 (ae y5 (ae y6 (ae y7 (ae y8 (ae y9 (opt (bg ((0,4,true),(n22,d.2,n9),(awq (λk=>cr (n35 k) [d.1.1.1 k,bk.1 k,n55 k,n35 k]) (cr n24 [d.1.1.2.1,bk.2.1,n5.1,n24],cr n8.1 [d.1.1.2.2.1,n37.1,n5.2.1,n8.1],cr n36 [d.1.1.2.2.2,n37.2,W2,n36])),n7)) λd=>let n39:=d.2.2;let n18:=d.2.1;let S5:=n18.1.2.2.2.2;let yS:=n18.2.1.2;let n28:=S5.2.2.2.2.2.2.2.2.2.2.2.2;let y0:=wI (Int.ofNat d.1-1);let y1:=Int.toNat y0;ae (Nat.beq d.1 d.1) (ae (Nat.beq S5.1 S5.1) (ae (Nat.beq n28 n28) (ae y3 (ae y4 (ae y5 (ae y6 (ae y7 (ae y8 (ae y9 (opt (dw ((d.1,true),n18.1,n39,n7.1,Wj,n16.1,n32,n4.1,n33,n23,n6.1,n34,n18.2,n17)) λcv=>ae (cv.2.2.2.2.2.1.2.1==2) (ae (aX 2 d.1) (ae (aX y0 d.1) (opt (fy (n39.1 2) (n39.2.1 2) (n39.2.2 2) (n39.1 y1) (n39.2.1 y1) (n39.2.2 y1) n18.2.1.1 yS.1 yS.2.1 yS.2.2.1 yS.2.2.2.1 yS.2.2.2.2 n18.2.2) λd=>ret (Sum.inr (cv,d))) no) no) (ret (Sum.inr (cv,n18.2)))) no) no) no) no) no) no) no) no) no) no) no) no) no) no) no) no) no) no) no) (ae y1 (ae y2 (ae y3 (ae y4 (ae y5 (ae y6 (ae y7 (ae y8 (ae y9 (opt (bg ((0,3,true),(n22,bx.2,n9),(awq (λk=>cr (n35 k) [bk.1 k,n55 k,n35 k]) (cr n24 [bk.2.1,n5.1,n24],cr n8.1 [n37.1,n5.2.1,n8.1],cr n36 [n37.2,W2,n36])),n7)) λd=>let wL:=d.2.2;let n19:=d.2.1;let n51:=n19.1.2.2.2.2;let Cn:=n19.2.1.2;let n29:=n51.2.2.2.2.2.2.2.2.2.2.2.2;let y0:=wI (Int.ofNat d.1-1);let y1:=Int.toNat y0;ae (Nat.beq d.1 d.1) (ae (Nat.beq n51.1 n51.1) (ae (Nat.beq n29 n29) (ae y3 (ae y4 (ae y5 (ae y6 (ae y7 (ae y8 (ae y9 (opt (dw ((d.1,true),n19.1,wL,n7.1,Wj,n16.1,n32,n4.1,n33,n23,n6.1,n34,n19.2,n17)) λcv=>ae (cv.2.2.2.2.2.1.2.1==2) (ae (aX 2 d.1) (ae (aX y0 d.1) (opt (fy (wL.1 2) (wL.2.1 2) (wL.2.2 2) (wL.1 y1) (wL.2.1 y1) (wL.2.2 y1) n19.2.1.1 Cn.1 Cn.2.1 Cn.2.2.1 Cn.2.2.2.1 Cn.2.2.2.2 n19.2.2) λd=>ret (Sum.inr (cv,d))) no) no) (ret (Sum.inr (cv,n19.2)))) no) no) no) no) no) no) no) no) no) no) no) no) no) no) no) no) no) no) no)) (λbx=>let n59:=bx.2.2;let n15:=n59.2.2;let n52:=n15.2.2;ae y0 (opt (D3 (n2,bx.1,n7.1)) λd=>ae y1 (ae y2 (ae y3 (ae y4 (ae y5 (ae y6 (ae y7 (ae y8 (ae y9 (opt (bg ((0,6,true),(n22,d.2,n9),(awq (λk=>cr (n35 k) [d.1.1.1 k,n15.2.1 k,bx.2.1 k,bk.1 k,n55 k,n35 k]) (cr n24 [d.1.1.2.1,n52.1,n59.1,bk.2.1,n5.1,n24],cr n8.1 [d.1.1.2.2.1,n52.2.1,n59.2.1,n37.1,n5.2.1,n8.1],cr n36 [d.1.1.2.2.2,n52.2.2,n15.1,n37.2,W2,n36])),n7)) λd=>let AO:=d.2.2;let n20:=d.2.1;let n53:=n20.1.2.2.2.2;let C2:=n20.2.1.2;let n30:=n53.2.2.2.2.2.2.2.2.2.2.2.2;let y0:=wI (Int.ofNat d.1-1);let y1:=Int.toNat y0;ae (Nat.beq d.1 d.1) (ae (Nat.beq n53.1 n53.1) (ae (Nat.beq n30 n30) (ae y3 (ae y4 (ae y5 (ae y6 (ae y7 (ae y8 (ae y9 (opt (dw ((d.1,true),n20.1,AO,n7.1,Wj,n16.1,n32,n4.1,n33,n23,n6.1,n34,n20.2,n17)) λcv=>ae (cv.2.2.2.2.2.1.2.1==2) (ae (aX 2 d.1) (ae (aX y0 d.1) (opt (fy (AO.1 2) (AO.2.1 2) (AO.2.2 2) (AO.1 y1) (AO.2.1 y1) (AO.2.2 y1) n20.2.1.1 C2.1 C2.2.1 C2.2.2.1 C2.2.2.2.1 C2.2.2.2.2 n20.2.2) λd=>ret (Sum.inr (cv,d))) no) no) (ret (Sum.inr (cv,n20.2)))) no) no) no) no) no) no) no) no) no) no) no) no) no) no) no) no) no) no) no) (ae y1 (ae y2 (ae y3 (ae y4 (ae y5 (ae y6 (ae y7 (ae y8 (ae y9 (opt (bg ((0,5,true),(n22,bx.1,n9),(awq (λk=>cr (n35 k) [n15.2.1 k,bx.2.1 k,bk.1 k,n55 k,n35 k]) (cr n24 [n52.1,n59.1,bk.2.1,n5.1,n24],cr n8.1 [n52.2.1,n59.2.1,n37.1,n5.2.1,n8.1],cr n36 [n52.2.2,n15.1,n37.2,W2,n36])),n7)) λd=>let GV:=d.2.2;let n21:=d.2.1;let n54:=n21.1.2.2.2.2;let W3:=n21.2.1.2;let n31:=n54.2.2.2.2.2.2.2.2.2.2.2.2;let y0:=wI (Int.ofNat d.1-1);let y1:=Int.toNat y0;ae (Nat.beq d.1 d.1) (ae (Nat.beq n54.1 n54.1) (ae (Nat.beq n31 n31) (ae y3 (ae y4 (ae y5 (ae y6 (ae y7 (ae y8 (ae y9 (opt (dw ((d.1,true),n21.1,GV,n7.1,Wj,n16.1,n32,n4.1,n33,n23,n6.1,n34,n21.2,n17)) λcv=>ae (cv.2.2.2.2.2.1.2.1==2) (ae (aX 2 d.1) (ae (aX y0 d.1) (opt (fy (GV.1 2) (GV.2.1 2) (GV.2.2 2) (GV.1 y1) (GV.2.1 y1) (GV.2.2 y1) n21.2.1.1 W3.1 W3.2.1 W3.2.2.1 W3.2.2.2.1 W3.2.2.2.2 n21.2.2) λd=>ret (Sum.inr (cv,d))) no) no) (ret (Sum.inr (cv,n21.2)))) no) no) no) no) no) no) no) no) no) no) no) no) no) no) no) no) no) no) no))))
def lZ:=λx=>(xC An uv gV yG tT Dt dK km kj x).val
theorem aaS:∀sE AM cS ET AN D3 bg dw fy,D0 [ae4 sE,Wg AM,xP cS,ab1 ET,Vr AN,akG D3,pe bg,DV dw,DG fy] 130 lY GR λb=>xC sE AM cS ET AN D3 bg dw fy b:=λ_ _ _ _ _ _ _ _ _ b=>by kernel_rfl
theorem aaT [ax]:SC (GU lZ):=s0 (.c atz (.c aqV (.c FQ (.c avT (.c aqA (.c aCR (.c um (.c Pn (.c VL (.nil _)))))))))) (aaS An uv gV yG tT Dt dK km kj)
end Go.Proofs.YtcmfbkneahoonaaGreat
set_option linter.unusedSimpArgs false
namespace Go.Proofs.YtcmfbkneahoonaaGreat
open Go.Ab Go.Ab.Pg
theorem aaU (x:Int):nK x=some (decide (0<=x)&&decide (x<6)):=by
 simp only[nK,SN,bM,bP]
 by_cases h0:0<=x<;>simp[h0]
theorem aOt {x:Int}(h:(decide (0<=x)&&decide (x<6))=true)(k:Nat)(hk:k<=6):aX x 6=true∧Nat.ble (0+Int.toNat x*6+k) 36=true∧Nat.ble (0+Int.toNat x*6+k) 37=true:=by
 simp only[Bool.and_eq_true,decide_eq_true_eq] at h
 simp only[bn,bL];omega
instance aEo (x0:Int)(x1:Int)(x2:Nat->Int)(x3:Nat->Int)(x4:Nat->Bool)(x5:Nat->Int)(x6:Nat->Int)(x7:Nat->Int)(x8:Int):bo (lS x0 x1 x2 x3 x4 x5 x6 x7 x8):=by
 unfold lS xr
 refine aG ?_
 rw[aaU,bQ,aL]
 refine⟨λh=> ?_,λ_=>by rw[av];trivial⟩
 obtain⟨h1,h2,h3⟩:=aOt h 6 (by omega)
 simp only[bG,h1,h2,true_implies,Bool.true_eq_false,false_implies]
theorem xD (x0:Int)(x1:Int)(x2:Nat)(x3:Nat->Int)(x4:Nat->Int)(x5:Nat->Bool)(x6:Nat->Int)(x7:Nat->Int)(x8:Nat->Int)(x9:Int)(fQ:Nat->Bool)(fR:Nat->Int)(zF:Nat->Int)(w0:Bool)(h:x2<=1999):bo (lR x0 x1 x2 x3 x4 x5 x6 x7 x8 x9 fQ fR zF w0):=by
 have tc:=λa b c e=>aoR x2 a b c e h
 unfold lR xo
 try dsimp only
 refine aG ?_
 rw[aaU,bQ,aL]
 refine⟨λ_=>by rw[av];trivial,λh=> ?_⟩
 rw[Bool.not_eq_false'] at h
 obtain⟨h1,h2,h3⟩:=aOt h 3 (by omega)
 simp only[bG,h1,h2,h3,Bool.and_self,aM,true_implies,Bool.true_eq_false,false_implies]
theorem S6 (d:dh.B)(hd:0<=d.1.2.2∧d.1.2.2<=6):Ok (tX d) (λx:ic=>True):=
 aZ (s:=_) (λd:dh.B=>0<=d.1.2.2∧d.1.2.2<=6) (λd:dh.B=>Int.toNat (6-d.1.2.2)) (λx:ic=>True) (λd hd=>by
  have hw:wI (d.1.2.2+1)=d.1.2.2+1:=bd (by omega) (by omega)
  unfold tW
  simp only[bG]
  simp only[nf,Bool.not_eq_true',rX,hw]
  repeat' (first|exact True.intro|omega|(intro _)|(apply And.intro))) 2000 d hd (by omega)
instance aEp (x0:Int)(x1:Nat->Int)(x2:Nat->Int)(x3:Nat->Bool)(x4:Nat->Int)(x5:Nat->Int)(x6:Nat->Int)(x7:Int):bo (lT x0 x1 x2 x3 x4 x5 x6 x7):=by
 unfold lT xt
 refine aG ?_
 refine ay (S6 _ (by simp)) λd _ hd=> ?_
 simp only[bG]
instance aYI (x:Int)(eO:Bool):bo (zL x eO):=by
 have h1:=oD x
 obtain⟨a,b,q,e,ho,hq,hv,_⟩:=akp (sat x) 30 (by omega) (by omega) (by omega)
 unfold zL ad7
 refine aG ?_
 rw[oK,bQ,aL]
 refine⟨λ_=>by rw[av];trivial,λc=> ?_⟩
 have c:=of_decide_eq_false c
 have e30:(2:Int)^30=1073741824:=rfl
 have q1:q=true:=by rw[hq,e30];omega
 have v:=hv q1
 rw[e30] at v
 have e':sS (sat x) 30=some ((a,b),q):=e
 have h0:0<=a:=by
  obtain⟨o1,o2,o3,o4⟩:=ho
  simp only[vW] at v;omega
 obtain⟨r,hr,_,_⟩:=aqs a b ho h0
 rw[e',bQ,atg a b r _ ho h0 hr,bQ,av]
 trivial
instance aW7 (x0:Nat->Int)(x3:Bool)(x4:Nat->Int)(w0:Bool):bo (iX x0 4 3 x3 x4 w0):=VM _ _ _ _ _ _ (by omega) (by omega)
instance aW8 (x0:Nat->Int)(x3:Bool)(x4:Nat->Int)(w0:Bool):bo (iX x0 7 2 x3 x4 w0):=VM _ _ _ _ _ _ (by omega) (by omega)
instance aW9 (x0:Nat->Int)(x3:Bool)(x4:Nat->Int)(w0:Bool):bo (iX x0 9 1 x3 x4 w0):=VM _ _ _ _ _ _ (by omega) (by omega)
instance aUM (x0:Nat->Int)(x1:Int)(x2:Bool):bo (kQ x0 x1 x2):=by
 unfold kQ afl
 exact aG (by simp only[bG,oL])
instance aT0 (x0:Nat->Int)(x1:Int)(x2:Int)(x3:Int)(x4:Int)(x5:Int)(x6:Int)(x7:Int)(x8:Int)(x9:Int)(fQ:Int)(fR:Int):bo (pN x0 x1 x2 x3 x4 x5 x6 x7 x8 x9 fQ fR):=by
 unfold pN aaL
 exact aG (by simp only[bG,oL])
instance aT1 (x:GM.B):bo (GN x):=by
 unfold GN aaQ
 try dsimp only
 exact aG (by simp only[bG,oL])
instance aDv (x:iy.B):bo (eR x):=by
 unfold eR oF
 exact aG (by simp only[bG,oL])
instance aIh (x:lE.B):bo (jm x):=by
 unfold jm uJ
 exact aG (by simp only[bG,oL])
instance aTy (x0:Int)(x1:Int)(x2:Int):bo (lX x0 x1 x2):=by
 unfold lX KY
 exact aG (by simp only[bG,oL])
instance aUN (x0:Int)(x1:Int)(x2:Int):bo (wD x0 x1 x2):=by
 unfold wD afp
 exact aG (by simp only[bG,oL])
instance aOu (x0:Nat->Int)(x1:Nat->Int)(x2:Nat->Int)(x3:Int)(x4:Int)(x5:Int)(x6:Int)(x7:Bool):bo (wE x0 x1 x2 x3 x4 x5 x6 x7):=by
 unfold wE K0
 try dsimp only
 exact aG (by simp only[bG,oL])
instance aKP (x0:Nat->Int)(x1:Nat->Int)(x2:Nat->Int)(x3:Int)(x4:Int)(x5:Int)(x6:Bool):bo (rM x0 x1 x2 x3 x4 x5 x6):=by
 unfold rM FH
 try dsimp only
 exact aG (by simp only[bG,oL])
instance aQa (x0:Nat->Int)(x1:Nat->Int)(x2:Nat->Int)(x3:Int)(x4:Int)(x5:Bool):bo (Bv x0 x1 x2 x3 x4 x5):=by
 unfold Bv Rh
 exact aG (by simp only[bG,oL])
instance aAq (x:jC.B):bo (gG x):=by
 unfold gG sd
 try dsimp only
 exact aG (by simp only[bG,oL])
instance ayB (x:iu.B):bo (fE x):=by
 unfold fE qk
 try dsimp only
 exact aG (by simp only[bG,oL])
instance aNf (x0:Int):bo (uc x0):=by
 unfold uc H6
 exact aG (by simp only[bG,oL])
instance aKm (x0:Int)(x1:Int):bo (kl x0 x1):=by
 unfold kl DM
 exact aG (by simp only[bG,oL])
instance aKQ:bo lp:=by
 unfold lp FN
 exact aG (by simp only[bG,oL])
instance aXa (x0:Int):bo (yP x0):=by
 unfold yP amq
 exact aG (by simp only[bG,oL])
theorem av6 (d:kR.B)(hd:0<=d.1∧d.1<=3):Ok (Re d) (λx:vK=>True):=
 aZ (s:=_) (λd:kR.B=>0<=d.1∧d.1<=3) (λd:kR.B=>Int.toNat (3-d.1)) (λx:vK=>True) (λd hd=>by
  have hw:wI (d.1+1)=d.1+1:=bd (by omega) (by omega)
  unfold Rc
  simp only[bG]
  simp only[nf,Bool.not_eq_true',rX,hw]
  repeat' (first|exact True.intro|omega|(intro _)|(apply And.intro))) 2000 d hd (by omega)
theorem aC5 (d:iY.B)(hd:0<=d.1.2∧d.1.2<=24):Ok (GQ d) (λx:sZ=>True):=
 aZ (s:=_) (λd:iY.B=>0<=d.1.2∧d.1.2<=24) (λd:iY.B=>Int.toNat (24-d.1.2)) (λx:sZ=>True) (λd hd=>by
  have hw:wI (d.1.2+1)=d.1.2+1:=bd (by omega) (by omega)
  unfold Og
  simp only[bG]
  simp only[nf,Bool.not_eq_true',rX,hw]
  repeat' (first|exact True.intro|omega|(intro _)|(apply And.intro))) 2000 d hd (by omega)
end Go.Proofs.YtcmfbkneahoonaaGreat
namespace Go.Proofs.YtcmfbkneahoonaaGreat
open Go.Ab Go.Ab.Pg
instance aEq (x0:Int)(x1:Nat->Int)(x2:Nat->Int)(x3:Nat->Bool)(x4:Nat->Int)(x5:Nat->Int)(x6:Nat->Int)(x7:Int):bo (lU x0 x1 x2 x3 x4 x5 x6 x7):=by
 unfold lU xx
 refine aG ?_
 rw[aaU,bQ,aL]
 refine⟨λ_=>by rw[av];trivial,λh=> ?_⟩
 rw[Bool.not_eq_false'] at h
 obtain⟨h1,h2,h3⟩:=aOt h 6 (by omega)
 simp only[bG,h1,h2,true_implies,Bool.true_eq_false,false_implies]
instance aT2 (x0:Int)(x1:Int)(x2:Int)(x3:Int)(x4:Int)(x5:Int)(x6:Int)(x7:Int):bo (GL x0 x1 x2 x3 x4 x5 x6 x7):=by
 unfold GL aaN
 refine aG ?_
 refine ay (av6 _ (by simp)) λd _ hd=> ?_
 simp only[bG]
instance aKn (x:qh.B):bo (mM x):=by
 unfold mM DI
 try dsimp only
 exact aG (by simp only[bG,oL])
instance aVO (x:DK.B):bo (zm x):=by
 have key:∀d,(0<=d.1.2∧d.1.2<=24)->∀(k1 k2),(∀a,PQ (k1 a) λ_=>True)->(∀a,PQ (k2 a) λ_=>True)->PQ (opt (GQ d) λx=>sum x k1 k2) (δ:=alk) (λ_=>True):=λd hd k1 k2 h1 h2=>by
  refine ay (aC5 d hd) λx _ _=> ?_
  rw[oE]
  exact⟨λa _=>h1 a,λa _=>h2 a⟩
 unfold zm Yw
 try dsimp only
 refine aG ?_
 repeat' (first|(rw[aL];refine⟨λ_=>by rw[av];trivial,λ_=> ?_⟩)|(rw[bz];intro _ _))
 refine key _ (by simp) _ _ (λ_=>by rw[av];trivial) (λ_=> ?_)
 simp only[bG]
theorem Nj (n:Nat)(d:cM.B)(hd:0<=d.1.2.2∧d.1.2.2<=d.1.2.1∧d.1.2.1<=1999∧d.1.2.1=((d.1.1:Nat):Int)∧d.2.1.2.2=d.1.1∧d.1.1=n):Ok (qo d) (λx:fF=>x.1.1=n):=
 aZ (s:=_) (λd:cM.B=>0<=d.1.2.2∧d.1.2.2<=d.1.2.1∧d.1.2.1<=1999∧d.1.2.1=((d.1.1:Nat):Int)∧d.2.1.2.2=d.1.1∧d.1.1=n) (λd:cM.B=>Int.toNat (d.1.2.1-d.1.2.2)) (λx:fF=>x.1.1=n) (λd hd=>by
  have hw:wI (d.1.2.2+1)=d.1.2.2+1:=bd (by omega) (by omega)
  unfold ql
  simp only[bG]
  simp only[nf,Bool.not_eq_true',rX,hw]
  repeat' (first|exact True.intro|exact hd.2.2.2.2.1|exact hd.2.2.2.2.2|omega|(intro _)|(apply And.intro))) 2000 d hd (by omega)
theorem Nk (n:Nat)(d:cN.B)(hd:0<=d.1.2.2∧d.1.2.2<=d.1.2.1∧d.1.2.1<=1999∧d.1.2.1=((d.1.1:Nat):Int)∧d.2.1.2.2=d.1.1∧d.1.1=n):Ok (qu d) (λx:fG=>x.1.1=n):=
 aZ (s:=_) (λd:cN.B=>0<=d.1.2.2∧d.1.2.2<=d.1.2.1∧d.1.2.1<=1999∧d.1.2.1=((d.1.1:Nat):Int)∧d.2.1.2.2=d.1.1∧d.1.1=n) (λd:cN.B=>Int.toNat (d.1.2.1-d.1.2.2)) (λx:fG=>x.1.1=n) (λd hd=>by
  have hw:wI (d.1.2.2+1)=d.1.2.2+1:=bd (by omega) (by omega)
  unfold qt
  simp only[bG]
  simp only[nf,Bool.not_eq_true',rX,hw]
  repeat' (first|exact True.intro|exact hd.2.2.2.2.1|exact hd.2.2.2.2.2|omega|(intro _)|(apply And.intro))) 2000 d hd (by omega)
end Go.Proofs.YtcmfbkneahoonaaGreat
namespace Go.Proofs.YtcmfbkneahoonaaGreat
open Go.Ab Go.Ab.Pg
theorem Rn (x:jD.B)(h:x.1.2.2<=1999):Ok (jE x) (λr:se=>r.2.1=x.1.2.2):=by
 unfold jE si
 show PQ _ _
 rw[aM,bC]
 refine⟨rfl,ay (Nj x.1.2.2 _ ?_) λd _ hd=> ?_⟩
 ·dsimp only
  simp only[Int.ofNat_eq_natCast]
  exact⟨by omega,by omega,by omega,trivial,trivial,trivial⟩
 ·rw[av];exact hd
theorem Ro (x:jF.B)(h:x.1.2.2<=1999):Ok (jG x) (λr:sr=>r.2.1=x.1.2.2):=by
 unfold jG su
 show PQ _ _
 rw[aM,bC]
 refine⟨rfl,ay (Nk x.1.2.2 _ ?_) λd _ hd=> ?_⟩
 ·dsimp only
  simp only[Int.ofNat_eq_natCast]
  exact⟨by omega,by omega,by omega,trivial,trivial,trivial⟩
 ·rw[av];exact hd
theorem La (d:cy.B)(hd:0<=d.1.2.2.2.2∧d.1.2.2.2.2<=d.1.2.2.2.1∧d.1.2.2.2.1<=1999∧d.1.2.2.2.1=((d.1.2.2.1.1:Nat):Int)):Ok (oC d) (λx:eU=>True):=
 aZ (s:=_) (λd:cy.B=>0<=d.1.2.2.2.2∧d.1.2.2.2.2<=d.1.2.2.2.1∧d.1.2.2.2.1<=1999∧d.1.2.2.2.1=((d.1.2.2.1.1:Nat):Int)) (λd:cy.B=>Int.toNat (d.1.2.2.2.1-d.1.2.2.2.2)) (λx:eU=>True) (λd hd=>by
  have hw:wI (d.1.2.2.2.2+1)=d.1.2.2.2.2+1:=bd (by omega) (by omega)
  unfold oB
  simp only[bG]
  simp only[nf,Bool.not_eq_true',rX,hw]
  repeat' (first|exact True.intro|omega|(intro _)|(apply And.intro))) 2000 d hd (by omega)
theorem Pr (x0:Nat)(x1:Nat)(x2:Nat->Int)(x3:Nat->Int)(w0:Bool)(w1:Bool)(h:x0<=1999):bo (fH x0 x1 x2 x3 w0 w1):=by
 unfold fH qv
 refine aG ?_
 rw[aM,aM,bC,bC]
 refine⟨rfl,rfl,ay (La _ (hdN x0 h)) λd _ hd=> ?_⟩
 simp only[bG]
instance aVP (x2 x3:Nat->Int)(w0 w1:Bool):bo (fH 8 8 x2 x3 w0 w1):=Pr _ _ _ _ _ _ (by omega)
instance aQb (x:Bw.B):bo (rH x):=by
 unfold rH Rk
 try dsimp only
 exact aG (by simp only[bG,oL])
theorem nS (n:Nat)(d:aO.B)(hd:0<=d.1.2.2.1∧d.1.2.2.1<=d.1.2.2.2∧d.1.2.2.2<=(n:Int)∧d.1.1.1=n∧n<=1999∧d.1.2.1=(n:Int)):Ok (dr d) (λx:bu=>0<=x.1.2.2.1∧x.1.2.2.1<=(n:Int)∧x.1.1.1=n∧x.1.2.1=(n:Int)):=
 aZ (s:=_) (λd:aO.B=>0<=d.1.2.2.1∧d.1.2.2.1<=d.1.2.2.2∧d.1.2.2.2<=(n:Int)∧d.1.1.1=n∧n<=1999∧d.1.2.1=(n:Int)) (λd:aO.B=>Int.toNat (d.1.2.2.2-d.1.2.2.1)) (λx:bu=>0<=x.1.2.2.1∧x.1.2.2.1<=(n:Int)∧x.1.1.1=n∧x.1.2.1=(n:Int)) (λd hd=>by
  have h1:wI (d.1.2.2.1+d.1.2.2.2)=d.1.2.2.1+d.1.2.2.2:=eP (by omega) (by omega)
  have h2:wU (d.1.2.2.1+d.1.2.2.2)=d.1.2.2.1+d.1.2.2.2:=by show IntKind.wrap .u64 _=_;rw[wrap_u64];omega
  have h3:Int.fdiv (d.1.2.2.1+d.1.2.2.2) 2=(d.1.2.2.1+d.1.2.2.2)/2:=Int.fdiv_eq_ediv_of_nonneg _ (by omega)
  have h4:wI ((d.1.2.2.1+d.1.2.2.2)/2)=(d.1.2.2.1+d.1.2.2.2)/2:=eP (by omega) (by omega)
  have h5:wI ((d.1.2.2.1+d.1.2.2.2)/2+1)=(d.1.2.2.1+d.1.2.2.2)/2+1:=eP (by omega) (by omega)
  unfold dq
  simp only[h1,h2,h3,h4,h5]
  simp only[bG]
  simp only[nf,Bool.not_eq_true',rX]
  repeat' (first|exact True.intro|omega|(intro _)|(apply And.intro))) 2000 d hd (by omega)
theorem aNg (x:bR.B)(h:x.1.1.1<=1999):Ok (bS x) (λr:dB=>0<=r.1∧r.1<=(x.1.1.1:Int)):=by
 unfold bS dC
 try dsimp only
 show PQ _ _
 rw[aM,bC]
 refine⟨rfl,ay (nS x.1.1.1 _ ?_) λd _ hd=> ?_⟩
 ·try dsimp only
  simp only[Int.ofNat_eq_natCast]
  exact⟨by omega,by omega,by omega,trivial,h,trivial⟩
 ·obtain⟨a1,a2,a3,a4⟩:=hd
  simp only[bG,a3,a4]
  simp only[nf,Bool.not_eq_true',rX]
  exact⟨λc=>⟨λ_ _ _=>⟨a1,a2⟩,⟨a1,c⟩⟩,λ_=>⟨a1,a2⟩⟩
theorem aKo (n:Nat)(i:Int)(h0:0<=i)(h1:i<=(n:Int))(hn:n<=1999)(x2 x3 x4 x5 x6 x7 x8 x9 fQ fR zF x13 x14 x15 x16 x17 x18 x19:Nat->Int)(w1:Bool):
  Ok (et n i x2 x3 x4 x5 x6 x7 x8 x9 fQ fR zF x13 x14 x15 x16 x17 x18 x19 1 true w1) (λr:fY=>r.1=n+1):=by
 have b1:Nat.ble (Int.toNat i) n=true:=by rw[bL];omega
 have b2:Nat.ble ((n+1)*72) 140737488355328=true:=by rw[bL];omega
 unfold et
 rw[b1,b2,decide_eq_true h0]
 exact⟨_,rfl,rfl⟩
theorem ayC (n:Nat)(i j:Int)(h0:0<=i)(h1:i<=j)(h2:j<=(n:Int))(x3 x4 x5 x6 x7 x8 x9 fQ fR:Nat->Int):
  Ok (cD n i j x3 x4 x5 x6 x7 x8 x9 fQ fR true) (λr:fZ=>r.1=Int.toNat i+(n-Int.toNat j)):=by
 have b1:Nat.ble (Int.toNat i) (Int.toNat j)=true:=by rw[bL];omega
 have b2:Nat.ble (Int.toNat j) n=true:=by rw[bL];omega
 unfold cD
 rw[b1,b2,decide_eq_true h0,decide_eq_true (show 0<=j by omega)]
 exact⟨_,rfl,rfl⟩
theorem aNh (n:Nat)(hn:n<=1999)(x1 x2 x3 x4 x5 x6 x7 x8 x9:Nat->Int)(w:Bool):
  Ok (eF n x1 x2 x3 x4 x5 x6 x7 x8 x9 w) (λr:gF=>r.1=n):=by
 have b1:Nat.ble (n*72) 140737488355328=true:=by rw[bL];omega
 unfold eF
 rw[b1]
 exact⟨_,rfl,rfl⟩
end Go.Proofs.YtcmfbkneahoonaaGreat
namespace Go.Proofs.YtcmfbkneahoonaaGreat
open Go.Ab Go.Ab.Pg
theorem aKp (s:Nat)(hs:s<=120)(n:Nat)(hn:n<=100)(eO:Bool)(f:Nat->Int)(w w':Bool):
  tE (Int.ofNat s) n n eO f w w'=some (sat (KA (xL (λj=>sat (f j)*sat (f j)) n) s),(eO||Dq (λj=>eV (f j)||eV (f j)) n)||eV (KA (xL (λj=>sat (f j)*sat (f j)) n) s)):=by
 simp only[tE,Nb,Pg.bP,Pg.bM,Pg.cq,Pg.eE,Pg.dM]
 try delta wI wU
 unfold H4
 have n0:decide (Int.ofNat s<0)=false:=by simp
 have n1:decide (Int.ofNat s>120)=false:=by simp only[Int.ofNat_eq_natCast];exact decide_eq_false (by omega)
 have m:(if 100<if Int.ofNat n<Int.ofNat n then Int.ofNat n else Int.ofNat n then 100 else if Int.ofNat n<Int.ofNat n then Int.ofNat n else Int.ofNat n)=Int.ofNat n:=by
  have e:¬Int.ofNat n<Int.ofNat n:=by omega
  rw[if_neg e,if_neg (by simp only[Int.ofNat_eq_natCast];omega)]
 rw[n0,n1,cond_false,cond_false,Nat.beq_refl,cond_true,m]
 refine MM (λt d=>∃(i:Nat) (h l':Int),i+t=n∧okW h l'∧vW h l'=xL (λj=>sat (f j)*sat (f j)) i∧d=((Int.ofNat s,(n,w),(n,w'),Int.ofNat n,Int.ofNat i),(eO||Dq (λj=>eV (f j)||eV (f j)) i),f,h,l')) ?_ 2000 n _ (by omega)
  ⟨0,0,0,by omega,⟨by omega,by omega,by omega,by omega⟩,rfl,by simp only[Dq,Bool.or_false];rfl⟩
 rintro t _ c ⟨i,h,l',hi,ho,hv,rfl⟩ hc
 have bnd:=akn (λj=>sat (f j)*sat (f j)) 1329227995784915872903807060280344576 (by omega) i (λj _=>abN _ _)
 rcases Nat.eq_zero_or_pos t with t0|t0
 ·have e:i=n:=by omega
  subst e
  simp only[Aw,Pg.tI,Pg.tJ,Pg.yi,Pg.Em,Pg.tK,Sum.elim_inl,Sum.elim_inr,wI,atd (Nat.le_refl i),cond_false,aeU h l' s _ hs ho,hv,Option.bind_some]
 ·have hs1:=oD (f i)
  have Tw:=oD (f i)
  have hm:=abN (f i) (f i)
  obtain⟨h1,l1,e1,o1,v1⟩:=BT (sat (f i)) (sat (f i)) (by omega) (by omega) (by omega) (by omega)
  obtain⟨h2,l2,e2,o2,v2⟩:=aeV (λj:Nat=>bif Nat.beq j 1 then h1 else bif Nat.beq j 0 then h else h) (λj:Nat=>bif Nat.beq j 1 then l1 else bif Nat.beq j 0 then l' else l') true
   ho o1 (by show _<=vW h l'+vW h1 l1;rw[hv,v1];omega) (by show vW h l'+vW h1 l1<_;rw[hv,v1];omega)
  have v2:vW h2 l2=vW h l'+vW h1 l1:=v2
  rw[hv,v1] at v2
  have q:Int.toNat (Int.ofNat i)=i:=rfl
  simp only[Aw,Pg.tI,Pg.tJ,Pg.yi,Pg.Em,Pg.tK,Sum.elim_inl,Sum.elim_inr,wI,atc hi t0,ate (show i<n by omega),cond_true,q,oK,Option.bind_some,e1,e2,atf (show i<9000000000000000000 by omega)]
  refine hc (t-1) _ (by omega) ⟨i+1,h2,l2,by omega,o2,v2,?_⟩
  simp only[Dq,Bool.or_assoc]
instance aXb (eO:Bool)(f:Nat->Int)(w w':Bool):bo (tE 30 2 2 eO f w w'):=⟨_,aKp 30 (by omega) 2 (by omega) eO f w w'⟩
instance aNi (x0:Nat->Int)(x1:Int)(x2:Int)(x3:Int)(x4:Bool):bo (ua x0 x1 x2 x3 x4):=by
 unfold ua H5
 exact aG (by simp only[bG,oL])
instance aQc (x0:Int)(x1:Int)(x2:Int)(x3:Int)(x4:Int)(x5:Int)(x6:Int)(x7:Int)(x8:Int)(x9:Int):bo (By x0 x1 x2 x3 x4 x5 x6 x7 x8 x9):=by
 unfold By Rm
 exact aG (by simp only[bG,oL])
end Go.Proofs.YtcmfbkneahoonaaGreat
namespace Go.Proofs.YtcmfbkneahoonaaGreat
open Go.Ab Go.Ab.Pg
theorem aHO (x:ui.B)(h:x.1.2.1<=1999):bo (iN x):=by
 have tr:=λa b c d e g i j k l m w=>xD a b x.1.2.1 c d e g i j k l m w
 unfold iN Ic
 try dsimp only
 refine aG ?_
 rw[aM,bC]
 refine⟨rfl,?_⟩
 have:=xD
 refine ay (bo.Ok (xD _ _ _ _ _ _ _ _ _ _ _ _ _ _ h) (Q:=λ_=>True) λ_ _=>trivial) λd _ _=> ?_
 rw[av];trivial
instance aXX (x:rO.B):bo (gV x):=by
 unfold gV FP
 try dsimp only
 refine aG ?_
 iterate 9 (rw[aM,bC];refine⟨rfl,?_⟩)
 refine ay (bo.Ok (aHO ((x.1,1,true),_) (by show 1<=1999;omega)) (Q:=λ_=>True) λ_ _=>trivial) λd _ _=> ?_
 rw[av];trivial
instance aXc (x:qz.B):bo (db x):=by
 unfold db DS
 try dsimp only
 refine aG ?_
 iterate 9 (rw[aM,bC];refine⟨rfl,?_⟩)
 refine ay (bo.Ok (aHO ((x.1,1,true),_) (by show 1<=1999;omega)) (Q:=λ_=>True) λ_ _=>trivial) λd _ _=> ?_
 rw[av];trivial
theorem Ps (x:uj.B)(h:x.2.1.2.2.2.2.2.2.2.2.2.2.2.2.2.2.2.2<=100000):Ok (mB x) (λr:AE=>r.1.2.2.2.2.2.2.2.2.2.2.2.2.2.2.2.2=x.2.1.2.2.2.2.2.2.2.2.2.2.2.2.2.2.2.2+1∧r.1.2.2.2.2.1=x.2.1.2.2.2.2.1):=by
 unfold mB Ii
 try dsimp only
 show PQ _ _
 rw[bC,av]
 exact⟨by rw[bL];omega,rfl,rfl⟩
theorem acq (x:uk.B)(h:x.1.2.1<=1999):Ok (dK x) (λr:AF=>r.1=x.1.2.1∧r.2.1.1.2.2.2.2.2.2.2.2.2.2.2.2.2.2.2.2=x.2.1.2.2.2.2.2.2.2.2.2.2.2.2.2.2.2.2∧r.2.1.1.2.2.2.2.1=x.2.1.2.2.2.2.1):=by
 unfold dK Ij
 try dsimp only
 show PQ _ _
 rw[aM,bC]
 refine⟨rfl,ay (aHJ _ h) λd _ hd=> ?_⟩
 iterate 10 (rw[aM,bC];refine⟨rfl,?_⟩)
 refine ay (bo.Ok (aHO ((x.1.1,d.1.2.2,true),_) (by show d.1.2.2<=1999;rw[hd];exact h)) (Q:=λ_=>True) λ_ _=>trivial) λd1 _ _=> ?_
 rw[av]
 exact⟨hd,rfl,rfl⟩
theorem Wk (x:qB.B)(h:x.1.1<=1999):Ok (km x) (λr:DT=>r.2.2.2.2.2.2.2.2.2.2.2.2.2.2.2.2=x.2.1.2.2.2.2.2.2.2.2.2.2.2.2.2.2.2.2∧r.2.2.2.2.1=x.2.1.2.2.2.2.1):=by
 unfold km DW
 try dsimp only
 show PQ _ _
 rw[aM,bC]
 refine⟨rfl,ay (bo.Ok (aoR x.1.1 _ _ _ _ h) (Q:=λ_=>True) λ_ _=>trivial) λd1 _ _=> ?_⟩
 rw[aL]
 exact⟨λ_=>by rw[av];exact⟨rfl,rfl⟩,λ_=>by rw[av];exact⟨rfl,rfl⟩⟩
theorem aTz (x:uu.B)(h:x.2.1.2.2.2.2.2.2.2.2.2.2.2.2.2.2.2.2<=90000):Ok (uv x) (λr:AJ=>r.1.2.2.2.2.2.2.2.2.2.2.2.2.2.2.2.2<=x.2.1.2.2.2.2.2.2.2.2.2.2.2.2.2.2.2.2+3∧r.1.2.2.2.2.1=x.2.1.2.2.2.2.1):=by
 unfold uv Il
 try dsimp only
 show PQ _ _
 simp only[aM]
 rw[bz];intro d _
 rw[bz];intro d1 _
 iterate 9 (rw[bC];refine⟨rfl,?_⟩)
 refine ay (Ps _ (show x.2.1.2.2.2.2.2.2.2.2.2.2.2.2.2.2.2.2<=100000 by omega)) λd2 _ h2=> ?_
 have h2:d2.1.2.2.2.2.2.2.2.2.2.2.2.2.2.2.2.2=x.2.1.2.2.2.2.2.2.2.2.2.2.2.2.2.2.2.2+1∧d2.1.2.2.2.2.1=x.2.1.2.2.2.2.1:=h2
 rw[bz];intro d3 _
 iterate 9 (rw[bC];refine⟨rfl,?_⟩)
 refine ay (Ps _ (show d2.1.2.2.2.2.2.2.2.2.2.2.2.2.2.2.2.2<=100000 by omega)) λd4 _ h4=> ?_
 have h4:d4.1.2.2.2.2.2.2.2.2.2.2.2.2.2.2.2.2=d2.1.2.2.2.2.2.2.2.2.2.2.2.2.2.2.2.2+1∧d4.1.2.2.2.2.1=d2.1.2.2.2.2.1:=h4
 rw[aL]
 refine⟨λ_=> ?_,λ_=>by rw[av];omega⟩
 rw[bz];intro d5 _
 iterate 9 (rw[bC];refine⟨rfl,?_⟩)
 refine ay (Ps _ (show d4.1.2.2.2.2.2.2.2.2.2.2.2.2.2.2.2.2<=100000 by omega)) λd6 _ h6=> ?_
 have h6:d6.1.2.2.2.2.2.2.2.2.2.2.2.2.2.2.2.2=d4.1.2.2.2.2.2.2.2.2.2.2.2.2.2.2.2.2+1∧d6.1.2.2.2.2.1=d4.1.2.2.2.2.1:=h6
 rw[av];omega
end Go.Proofs.YtcmfbkneahoonaaGreat
