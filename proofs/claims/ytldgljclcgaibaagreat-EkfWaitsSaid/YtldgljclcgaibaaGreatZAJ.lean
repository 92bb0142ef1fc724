/-
  Parts of the proof: Q4 TI TJ TK TL TM
-/
import Derived.Test.YtldgljclcgaibaaGreatZAE
import Derived.Test.YtldgljclcgaibaaGreatZAI
set_option linter.unusedVariables false
set_option linter.unusedSimpArgs false
set_option maxRecDepth 100000
set_option maxHeartbeats 4000000
noncomputable section
namespace Go.Proofs.YtldgljclcgaibaaGreat
open Go.Ab Go.Ab.Pg Go.Ab.Rq
def GO:=qa (pr (cu awt fT) aAG)
def vj:=qe (res (pu (app 1 6) (pu Xl (cl aRT nil))))
abbrev GP:=vj.B
abbrev GQ:=Int->NI->NI->(Nat->Bool)->NI->NI->NI->Int->Option GP
def GR (g:GQ):Ct:=(45,FC GO (lf vj) (λb=>g b.1 b.2.1.1 b.2.1.2.1 b.2.1.b.1 b.2.1.b.2.1 b.2.1.c.1 b.2.1.c.2 b.b))
def xA (jG:SN)(x0:Int)(x1:Nat->Int)(x2:Nat->Int)(x3:Nat->Bool)(x4:Nat->Int)(x5:Nat->Int)(x6:Nat->Int)(x7:Int):Pg GP:=opt (jG x0) λd=>ae (!d) (ret (0,0,false,0,0,0)) (ae (aX x0 6) (ae (Nat.ble (0+Int.toNat x0*6+6) 36) (ret ((x1,x2,x3,x4,x5,x6).1 (Int.toNat x0),(x2,x3,x4,x5,x6).1 (Int.toNat x0),(x3,x4,x5,x6).1 (Int.toNat x0),(x4,x5,x6).1 (Int.toNat x0),x5 (Int.toNat x0),x6 (Int.toNat x0))) no) no)
def lW:=λx0 x1 x2 x3 x4 x5 x6 x7=>(xA nP x0 x1 x2 x3 x4 x5 x6 x7).val
theorem aaG:∀jG,D0 [SO jG] 45 GO (lf vj) λb=>xA jG b.1 b.2.1.1 b.2.1.2.1 b.2.1.b.1 b.2.1.b.2.1 b.2.1.c.1 b.2.1.c.2 b.b:=λ_ b=>by kernel_rfl
theorem aaH [ax]:SC (GR lW):=s0 (.c afh (.nil _)) (aaG nP)
def atO:=qa (pr (cu aP ac8) bA)
def aaI:=qe (res (pr (aa auD) (pl lk nil)))
abbrev atP:=aaI.B
abbrev se:=NI->Int->Bool->Option atP
def EV (g:se):Ct:=(103,FC atO (lf aaI) (λb=>g b.1.1 b.1.2 b.2))
def afi (aN:eN)(bd:dy)(bC:kD)(x0:Nat->Int)(x1:Int)(x2:Bool):Pg atP:=opt (aN x0 x2) λd=>opt (bd d.1) λaj=>opt (bC d.1 4) λaI=>opt (bC d.1 7) λbz=>ret ((x1,aj.1,aj.2.1,aj.2.2.1,aj.2.2.2,aI.1,aI.2.1,aI.2.2,bz),d.2)
def kV:=λx0 x1 x2=>(afi bW bY ec x0 x1 x2).val
theorem aHY:∀aN bd bC,D0 [iw aN,iL bd,pH bC] 103 atO (lf aaI) λb=>afi aN bd bC b.1.1 b.1.2 b.2:=λ_ _ _ b=>by kernel_rfl
theorem K4 [ax]:SC (EV kV):=s0 (.c jh (.c jC (.c sZ (.nil _)))) (aHY bW bY ec)
def aoK:=qa (pl (c jX (cl aMs nil)) nil)
def VS:=qe aL5
abbrev aoL:=VS.B
abbrev B5:=NI->Int->Int->Int->Int->Int->Int->Int->Int->Int->Int->Int->Option aoL
def Od (g:B5):Ct:=(105,FC aoK (lf VS) (λb=>g b.1 b.2.1 b.b.1.1 b.b.1.2.1 b.b.1.b.1 b.b.1.b.2 b.b.2.1.1 b.b.2.1.2.1 b.b.2.1.b b.c.1 b.c.2.1 b.c.b))
def aaJ (cG:xd)(x0:Nat->Int)(x1:Int)(x2:Int)(x3:Int)(x4:Int)(x5:Int)(x6:Int)(x7:Int)(x8:Int)(x9:Int)(fP:Int)(fQ:Int):Pg aoL:=opt (cG x0 0 4 (cr x2 [x5,x4,x3,x2]) false) λd=>opt (cG d 4 3 (cr x6 [x8,x7,x6]) false) λd=>opt (cG d 7 3 (cr x9 [fQ,fP,x9]) false) λd=>ret d
def pO:=λx0 x1 x2 x3 x4 x5 x6 x7 x8 x9 fP fQ=>(aaJ fM x0 x1 x2 x3 x4 x5 x6 x7 x8 x9 fP fQ).val
theorem aEo:∀cG,D0 [BT cG] 105 aoK (lf VS) λb=>aaJ cG b.1 b.2.1 b.b.1.1 b.b.1.2.1 b.b.1.b.1 b.b.1.b.2 b.b.2.1.1 b.b.2.1.2.1 b.b.2.1.b b.c.1 b.c.2.1 b.c.b:=λ_ b=>by kernel_rfl
theorem aaK [ax]:SC (Od pO):=s0 (.c Gv (.nil _)) (aEo fM)
def aoM:=qa (pl Y0 nil)
def VT:=qe B9
abbrev aoN:=VT.B
abbrev aoO:=Int->Int->Int->Int->Int->Int->Int->Int->Option aoN
def aoP (g:aoO):Ct:=(101,FC aoM (lf VT) (λb=>g b.1 b.2.1 b.b.1.1 b.b.1.2.1 b.b.1.b b.b.2.1 b.c.1 b.c.2))
def fW:=qs (st (pr (us 1 (cu To (us 2 (cl ai (us 21 aL0))))) (pl (cl C8 nil) nil)))
def Yv:=qs (st (pu (us 2 (cu tN (us 37 nil))) (pu nil nil)))
def Yw:=qs (st (pr (us 1 (cu To (us 2 (c ai (cl ab (us 20 aL0)))))) (pl (cl C8 nil) nil)))
abbrev oy:=Yv.B⊕Yw.B
def ahb {ρ:Type}(x:oy)(K:AX->St->Option ρ):Option ρ:=(Sum.elim (λd=>K .ret (Yv.em d)) (λd=>K (.ex 0) (Yw.em d))) x
def Hw (cY:Ms)(d:fW.B):PL fW oy:=let n2:=d.2.2.2;let n1:=n2.2.2.2;let y0:=aX d.1 3;let y1:=d.1==1;let y2:=d.1==2;let y3:=decide (d.1<3);ae y3 (ae y0 (ae y2 (opt (cY n2.2.2.1) λaj=>ae (decide (aj>34359738368)) (ret (Sum.inr (Sum.inl ()))) (ae y0 (ae y2 (opt (cY n1.2.2) λaI=>ae (decide (aI>34359738368)) (ret (Sum.inr (Sum.inl ()))) (ret (Sum.inl (wI (d.1+1),d.2)))) (ae y1 (opt (cY n1.2.1) λaI=>ae (decide (aI>34359738368)) (ret (Sum.inr (Sum.inl ()))) (ret (Sum.inl (wI (d.1+1),d.2)))) (opt (cY n1.1) λaI=>ae (decide (aI>34359738368)) (ret (Sum.inr (Sum.inl ()))) (ret (Sum.inl (wI (d.1+1),d.2)))))) no)) (ae y1 (opt (cY n2.2.1) λaj=>ae (decide (aj>34359738368)) (ret (Sum.inr (Sum.inl ()))) (ae y0 (ae y2 (opt (cY n1.2.2) λaI=>ae (decide (aI>34359738368)) (ret (Sum.inr (Sum.inl ()))) (ret (Sum.inl (wI (d.1+1),d.2)))) (ae y1 (opt (cY n1.2.1) λaI=>ae (decide (aI>34359738368)) (ret (Sum.inr (Sum.inl ()))) (ret (Sum.inl (wI (d.1+1),d.2)))) (opt (cY n1.1) λaI=>ae (decide (aI>34359738368)) (ret (Sum.inr (Sum.inl ()))) (ret (Sum.inl (wI (d.1+1),d.2)))))) no)) (opt (cY n2.1) λaj=>ae (decide (aj>34359738368)) (ret (Sum.inr (Sum.inl ()))) (ae y0 (ae y2 (opt (cY n1.2.2) λaI=>ae (decide (aI>34359738368)) (ret (Sum.inr (Sum.inl ()))) (ret (Sum.inl (wI (d.1+1),d.2)))) (ae y1 (opt (cY n1.2.1) λaI=>ae (decide (aI>34359738368)) (ret (Sum.inr (Sum.inl ()))) (ret (Sum.inl (wI (d.1+1),d.2)))) (opt (cY n1.1) λaI=>ae (decide (aI>34359738368)) (ret (Sum.inr (Sum.inl ()))) (ret (Sum.inl (wI (d.1+1),d.2)))))) no)))) no) (ret (Sum.inr (Sum.inr ((d.1,y3),d.2))))
def Hy:=bD (Hw vG) 2000
def Oe (dG:LT fW oy)(x0:Int)(x1:Int)(x2:Int)(x3:Int)(x4:Int)(x5:Int)(x6:Int)(x7:Int):Pg aoN:=opt (dG (0,x0,x1,x2,x3,x4,x5,x6,x7)) λx=>sum x (λd=>ret false) λd=>ae (decide (d.2.2.1>=1)) (ae (decide (d.2.2.1<=100000)) (ae (decide (d.2.1>=0)) (ret (decide (d.2.1<=1125899906842624))) (ret false)) (ret false)) (ret false)
def xB:=λx0 x1 x2 x3 x4 x5 x6 x7=>(Oe Hy x0 x1 x2 x3 x4 x5 x6 x7).val
abbrev Of:=Ms×(LT fW oy)
def aaL (p:Of):KK:=⟨[abt p.1],⟨[⟨2,(0::2::5::6::7::rg 9 4 (rg 20 6 (29::30::34::35::39::3::8::rg 13 7 []))),[]⟩],[fx 2 0 fW ahb p.2],[],[],(some ⟨0,(0::1::rg 3 37 []),[]⟩)⟩,0,101⟩
theorem av0 (p:Of):LI (aaL p) 2 fW ahb (Hw p.1):=λ_ d c K=>by kernel_rfl
theorem aEp (p:Of):D2 (aaL p) aoM (lf VT) λb=>Oe p.2 b.1 b.2.1 b.b.1.1 b.b.1.2.1 b.b.1.b b.b.2.1 b.c.1 b.c.2:=λb=>by kernel_rfl
abbrev aaM:Of:=(vG,Hy)
theorem aEq [ax]:SC (aoP xB):=sc (kS (k:=aaL aaM) (.c ama (.nil _)) [2] [] ⟨kL (av0 aaM),trivial⟩ trivial (aEp aaM))
def B6:=qa (pr (cu aP (c (aa aGv) Y0)) bA)
def VU:=qe (res (pr (aa auA) (pl lk nil)))
abbrev aoQ:=VU.B
abbrev aoR:=B6.B->Option aoQ
def aoS (g:aoR):Ct:=(102,FC B6 (lf VU) g)
def Og (dm:z8)(x:B6.B):Pg aoQ:=let n2:=x.1.2.2.2;let n1:=x.1.1.2.2;opt (dm 2 x.2 (cr n1.1.1 [n2.1.1,n1.1.1]) (cr n1.1.2.1 [n2.1.2.1,n1.1.2.1]) (cr n1.1.2.2 [n2.1.2.2,n1.1.2.2]) true) λd=>opt (dm 2 d.2 (cr n1.2.1 [n2.2.1,n1.2.1]) (cr n1.2.2.1 [n2.2.2.1,n1.2.2.1]) (cr n1.2.2.2 [n2.2.2.2,n1.2.2.2]) true) λaj=>ret ((x.1.2.1,wI (x.1.1.2.1+x.1.2.2.1),d.1.1,d.1.2.1,d.1.2.2,aj.1),aj.2)
def xC:=λx=>(Og jr x).val
theorem aEr:∀dm,D0 [HZ dm] 102 B6 (lf VU) λb=>Og dm b:=λ_ b=>by kernel_rfl
theorem aEs [ax]:SC (aoS xC):=s0 (.c MB (.nil _)) (aEr jr)
def mP:=qa (pr (cu (app 0 10) (cu Oy Y0)) (c lr bA))
def Ck:=qe (res (pr (py (c (ra auA) (c (rc cb) are))) (pl (c (zM lr) lk) nil)))
abbrev O7:=Ck.B
abbrev DK:=mP.B->Option O7
def O8 (g:DK):Ct:=(62,FC mP (lf Ck) g)
def wD (Oh:aoO)(Oi:aoR)(x:mP.B):Pg O7:=let n3:=x.1.2.2;let n2:=x.2.1;let n1:=(Oi ((n2.2.1,x.1),x.2.2));opt (Oh x.1.1 x.1.2.1 n3.1.1 n3.1.2.1 n3.1.2.2 n3.2.1 n3.2.2.1 n3.2.2.2) λd=>ae (!d) (ret (((0,0,0,0,0,0,0,0),false,1),x.2)) (ae n2.2.2 (ae (decide (x.1.1<=n2.2.1.1)) (ret (((0,0,0,0,0,0,0,0),false,1),x.2)) (opt n1 λd=>let n4:=d.1.2;ae (decide (n4.1<n2.1)) (ret (((0,0,0,0,0,0,0,0),false,0),(n2.1,(d.1.1,n4.1,(n4.2.1,n4.2.2.1,n4.2.2.2.1),n4.2.2.2.2),true),d.2)) (ret ((d.1,true,0),(n2.1,(x.1.1,0,(0,0,0),0,0,0),true),d.2)))) (opt n1 λd=>let n5:=d.1.2;ae (decide (n5.1<n2.1)) (ret (((0,0,0,0,0,0,0,0),false,0),(n2.1,(d.1.1,n5.1,(n5.2.1,n5.2.2.1,n5.2.2.2.1),n5.2.2.2.2),true),d.2)) (ret ((d.1,true,0),(n2.1,(x.1.1,0,(0,0,0),0,0,0),true),d.2))))
def iz:=λx=>(wD xB xC x).val
theorem ak4:∀Oh Oi,D1 [aoP Oh,aoS Oi] [0,1] 62 mP (lf Ck) λb=>wD Oh Oi b:=λ_ _ b=>by kernel_rfl
theorem ak5 [ax]:SC (O8 iz):=s0 (.c aEq (.c aEs (.nil _))) (ak4 xB xC)
def iF:=qa (pr (cu Gg (cu Oy ac8)) (cd ac7 λb0=>(c uV (cl (cl (gs b0.b fX) nil) nil))))
def ug:=qe (res (pu Tl (pr (c (zM (c gi (cl gi (cu (gc (il (pu rq7 (pu yg (pu (szl B8) (pu L3 iy)))))) nil)))) L4) (cl auD nil))))
abbrev vk:=ug.B
abbrev vm:=iF.B->Option vk
def Fb (g:vm):Ct:=(162,FC iF (lf ug) g)
def oF (iR:se)(x:iF.B):Pg vk:=opt (iR x.1.1 x.1.2 x.2.2.1) λd=>ret (((x.2.1.1,x.2.1.2.1),d.2),d.1)
def eS:=λx=>(oF kV x).val
theorem W3:∀iR,D0 [EV iR] 162 iF (lf ug) λb=>oF iR b:=λ_ b=>by kernel_rfl
theorem Xa [ax]:SC (Fb eS):=s0 (.c K4 (.nil _)) (W3 kV)
def lX:=qa (pr (cu Gg (cu Oy (c jX Y0))) (cd ac7 λb0=>(c uV (cl (cl (gs b0.b fX) nil) nil))))
def CJ:=qe (res (pr ai (pl (c (zM ac7) L4) nil)))
def CL:=qe (res (pu YY (pr (c (zM aGp) (cl ard aIP)) aAI)))
abbrev pP:=CJ.B⊕CL.B
def GS:pP->T:=ls (lf CJ) (lf CL)
abbrev lY:=lX.B->Option pP
def xD (g:lY):Ct:=(63,FC lX GS g)
def xE (th:B5)(B7:N')(iR:se)(x:lX.B):Pg pP:=let bp:=x.2.2.1;let n8:=x.2.1;let n6:=x.1.2.2;let n4:=x.2.2.2;let aY:=n4.2.2;let n2:=n8.2.2;let n1:=aY.2.2;let n5:=n1.2.2.2;let bh:=n5.2.2;let y0:=Int.ofNat n2;let y1:=n2+1;let y2:=wI (y0-1);let y3:=Int.toNat y2;let y4:=y1-1;let y5:=0+y4;ae (y0==0) (ret (Sum.inl (4,n8,bp))) (ae (aX y2 n2) (ae (decide (n6.1<1)) (ret (Sum.inl (1,n8,bp))) (ae (decide (x.1.2.1<=n4.1 y3)) (ret (Sum.inl (1,n8,bp))) (opt (th x.1.1 (n4.1 y3) (n4.2.1 y3) (aY.1 y3) (aY.2.1 y3) (n1.1 y3) (n1.2.1 y3) (n1.2.2.1 y3) (n5.1 y3) (n5.2.1 y3) (bh.1 y3) (bh.2 y3)) λd=>opt (B7 d x.1.2.1 n6.1 n6.2.1.1 n6.2.1.2.1 n6.2.1.2.2 n6.2.2.1 n6.2.2.2.1 n6.2.2.2.2 bp) λd=>opt (iR d.1 x.1.2.1 d.2) λd=>let n7:=d.1.2.2;let n3:=n7.2.2.2;let n9:=n3.2.2.2;ae (Nat.ble (y1*88) 140737488355328) (ae (decide (Int.ofNat y1>n8.1)) (ae (IF 1 y1) (ae (Nat.ble (y5*88) 140737488355328) (ret (Sum.inr (((n8.1,n8.2.1,y5),d.2),y4,λj=>let y0:=1+j;bif Nat.beq y0 n2 then d.1.1 else n4.1 y0,λj=>let y0:=1+j;bif Nat.beq y0 n2 then d.1.2.1 else n4.2.1 y0,λj=>let y0:=1+j;bif Nat.beq y0 n2 then n7.1 else aY.1 y0,λj=>let y0:=1+j;bif Nat.beq y0 n2 then n7.2.1 else aY.2.1 y0,λj=>let y0:=1+j;bif Nat.beq y0 n2 then n7.2.2.1 else n1.1 y0,λj=>let y0:=1+j;bif Nat.beq y0 n2 then n3.1 else n1.2.1 y0,λj=>let y0:=1+j;bif Nat.beq y0 n2 then n3.2.1 else n1.2.2.1 y0,λj=>let y0:=1+j;bif Nat.beq y0 n2 then n3.2.2.1 else n5.1 y0,λj=>let y0:=1+j;bif Nat.beq y0 n2 then n9.1 else n5.2.1 y0,λj=>let y0:=1+j;bif Nat.beq y0 n2 then n9.2.1 else bh.1 y0,λj=>let y0:=1+j;bif Nat.beq y0 n2 then n9.2.2 else bh.2 y0))) no) no) (ret (Sum.inr (((n8.1,n8.2.1,y1),d.2),y1,λj=>bif Nat.beq j n2 then d.1.1 else n4.1 j,λj=>bif Nat.beq j n2 then d.1.2.1 else n4.2.1 j,λj=>bif Nat.beq j n2 then n7.1 else aY.1 j,λj=>bif Nat.beq j n2 then n7.2.1 else aY.2.1 j,λj=>bif Nat.beq j n2 then n7.2.2.1 else n1.1 j,λj=>bif Nat.beq j n2 then n3.1 else n1.2.1 j,λj=>bif Nat.beq j n2 then n3.2.1 else n1.2.2.1 j,λj=>bif Nat.beq j n2 then n3.2.2.1 else n5.1 j,λj=>bif Nat.beq j n2 then n9.1 else n5.2.1 j,λj=>bif Nat.beq j n2 then n9.2.1 else bh.1 j,λj=>bif Nat.beq j n2 then n9.2.2 else bh.2 j)))) no))) no)
def eZ:=λx=>(xE pO tf kV x).val
theorem aaN:∀th B7 iR,D1 [Od th,Z3 B7,EV iR] [0,1] 63 lX GS λb=>xE th B7 iR b:=λ_ _ _ b=>by kernel_rfl
theorem GU [ax]:SC (xD eZ):=s0 (.c aaK (.c aok (.c K4 (.nil _)))) (aaN pO tf kV)
def I1:=qa (pu (cu Gg nil) (cd (c gi (c gi (cl (gc (wY 1 11)) nil))) λb0=>(cl (cl (gs b0.b fX) nil) nil)))
def xF:=qe (res (pl aSz (pu aup nil)))
abbrev I2:=xF.B
abbrev I3:=Int->Int->Nat->NI->NI->NI->NI->NI->NI->NI->NI->NI->NI->NI->Option I2
def I4 (g:I3):Ct:=(75,FC I1 (lf xF) (λb=>g b.1.1 b.1.2.1 b.1.b b.2.1 b.b.1 b.b.2.1 b.c.1 b.c.2.1 b.c.b.1 b.c.b.2.1 b.d.1 b.d.2.1 b.d.b.1 b.d.b.2))
def I5 (x0:Int)(x1:Int)(x2:Nat)(x3:Nat->Int)(x4:Nat->Int)(x5:Nat->Int)(x6:Nat->Int)(x7:Nat->Int)(x8:Nat->Int)(x9:Nat->Int)(fP:Nat->Int)(fQ:Nat->Int)(zO:Nat->Int)(x13:Nat->Int):Pg I2:=let y0:=wI (Int.ofNat x2-1);let y1:=Int.toNat y0;ae (Int.ofNat x2==0) (ret ((0,0,0,0,0,0,0,0,0,0,0),false)) (ae (aX y0 x2) (ret (((x3,x4,x5,x6,x7,x8,x9,fP,fQ,zO,x13).1 y1,(x4,x5,x6,x7,x8,x9,fP,fQ,zO,x13).1 y1,(x5,x6,x7,x8,x9,fP,fQ,zO,x13).1 y1,(x6,x7,x8,x9,fP,fQ,zO,x13).1 y1,(x7,x8,x9,fP,fQ,zO,x13).1 y1,(x8,x9,fP,fQ,zO,x13).1 y1,(x9,fP,fQ,zO,x13).1 y1,(fP,fQ,zO,x13).1 y1,(fQ,zO,x13).1 y1,zO y1,x13 y1),true)) no)
def yU:=λx0 x1 x2 x3 x4 x5 x6 x7 x8 x9 fP fQ zO x13=>(I5 x0 x1 x2 x3 x4 x5 x6 x7 x8 x9 fP fQ zO x13).val
theorem ab8:D0 [] 75 I1 (lf xF) λb=>I5 b.1.1 b.1.2.1 b.1.b b.2.1 b.b.1 b.b.2.1 b.c.1 b.c.2.1 b.c.b.1 b.c.b.2.1 b.d.1 b.d.2.1 b.d.b.1 b.d.b.2:=λb=>by kernel_rfl
theorem ab9 [ax]:SC (I4 yU):=s0 (.nil _) ab8
def js:=qa (pu (cu To nil) (cd ac9 λb0=>(cl (cl (gs b0.b.1 aA) nil) nil)))
def AE:=qe (res (pu Tl (pl (cl (zM ac9) Xl) nil)))
abbrev uP:=AE.B
abbrev Cl:=js.B->Option uP
def LV (g:Cl):Ct:=(57,FC js (lf AE) g)
def oP (x:js.B):Pg uP:=ret ((wI (x.1.1.1+1),x.1.1.2.1,x.1.1.2.2.1,wI (x.1.1.2.2.2.1+1),x.1.1.2.2.2.2),x.1.2)
def fy:=λx=>(oP x).val
theorem ahP:D0 [] 57 js (lf AE) λb=>oP b:=λb=>by kernel_rfl
theorem ahQ [ax]:SC (LV fy):=s0 (.nil _) ahP
def ak6:=qa (pl C7 nil)
def Rg:=qe B9
abbrev ak7:=Rg.B
abbrev yV:=Int->Int->Int->Option ak7
def VV (g:yV):Ct:=(41,FC ak6 (lf Rg) (λb=>g b.1 b.2.1 b.b))
def K5 (x0:Int)(x1:Int)(x2:Int):Pg ak7:=ae (decide (x0>=x1)) (ret (decide (x0<=x2))) (ret false)
def lZ:=λx0 x1 x2=>(K5 x0 x1 x2).val
theorem aCT:D0 [] 41 ak6 (lf Rg) λb=>K5 b.1 b.2.1 b.b:=λb=>by kernel_rfl
theorem ak8 [ax]:SC (VV lZ):=s0 (.nil _) aCT
def atQ:=qa (pl Ft nil)
def aca:=qe aAE
def acb:=qe aSB
abbrev afj:=aca.B⊕acb.B
def atS:afj->T:=ls (lf aca) (lf acb)
abbrev afk:=Int->Int->Int->Option afj
def atT (g:afk):Ct:=(42,FC atQ atS (λb=>g b.1 b.2.1 b.b))
def afl (cy:tg)(eA:TV)(aq:bX)(dD:IQ)(gk:OK)(sf:adZ)(aD:cx)(x0:Int)(x1:Int)(x2:Int):Pg afj:=opt (cy x0 x1 x2) λd=>ae (!d) (ret (Sum.inl ())) (ae (decide (x0>850000000)) (ret (Sum.inl ())) (ae (decide (x0< -850000000)) (ret (Sum.inl ())) (opt (aq x0 3373259426 1800000000 false) λd=>opt (dD d.1 d.2) λaj=>opt (gk d.1 aj.2) λd=>opt (eA aj.1 aj.1 d.2) λaI=>opt (eA 7188036 aI.1 aI.2) λbz=>let y0:=wI (1073741824-bz.1);opt (sf y0 bz.2) λcq=>opt (aD 6531212288 cq.1 30 cq.2) λeo=>opt (eA 6531212288 1066553788 eo.2) λcJ=>opt (eA y0 cq.1 cJ.2) λkI=>opt (aD cJ.1 kI.1 30 kI.2) λoJ=>opt (aq oJ.1 3373259426 1800000000 oJ.2) λmI=>opt (eA eo.1 d.1 mI.2) λd=>opt (aq d.1 3373259426 1800000000 d.2) λd=>ret (Sum.inr (x0,x1,x2,mI.1,d.1)))))
def wE:=λx0 x1 x2=>(afl fN tU aT mH qg zV bm x0 x1 x2).val
theorem aHZ:∀cy eA aq dD gk sf aD,D0 [xo cy,TW eA,cU aq,IS dD,OL gk,ad3 sf,fK aD] 42 atQ atS λb=>afl cy eA aq dD gk sf aD b.1 b.2.1 b.b:=λ_ _ _ _ _ _ _ b=>by kernel_rfl
theorem aH0 [ax]:SC (atT wE):=s0 (.c B3 (.c aiU (.c c8 (.c OJ (.c XR (.c ar3 (.c gD (.nil _)))))))) (aHZ fN tU aT mH qg zV bm)
def ayq:=qa (pr (cu awr C7) (cl apv nil))
def afm:=qe aSa
abbrev ayr:=afm.B
abbrev ak9:=Int->Int->Int->NI->Option ayr
def ays (g:ak9):Ct:=(74,FC ayq (lf afm) (λb=>g b.1.1 b.1.2.1 b.1.b b.2))
def yW:=qs (st (pr (cu awr (us 1 (c ai (c ai (us 4 aRg))))) (pl HK cA)))
def aEt:=qs (st (pr (cu awr (us 1 (c ai (c ai (us 4 (c ai (us 1 (c ai aGi)))))))) (pl HK cA)))
abbrev Oj:=((Int×Int×Int×Bool)×NI)
def aoT {ρ:Type}(x:Oj)(K:AX->St->Option ρ):Option ρ:=(λd=>K (.ex 0) (aEt.em ((d.1.1,d.1.2.1,d.1.b.1,d.1.b.1,d.1.1,d.1.b.2),d.2))) x
def aoU (d:yW.B):PL yW Oj:=let n1:=d.1.2;let y0:=Int.toNat n1.2;let y1:=decide (n1.2<d.1.1);ae y1 (ae (aX n1.2 24) (ae (true&&Nat.ble (0+y0*1+1) 24) (ret (Sum.inl ((d.1.1,n1.1,wI (n1.2+1)),λj=>bif Nat.beq j y0 then n1.1 else d.2 j))) no) no) (ret (Sum.inr ((d.1.1,n1.1,n1.2,y1),d.2)))
def aoV:=bD (aoU) 2000
def ayt (dG:LT yW Oj)(x0:Int)(x1:Int)(x2:Int)(x3:Nat->Int):Pg ayr:=opt (dG ((x1,x2,x0),x3)) λd=>ret d.2
def ala:=λx0 x1 x2 x3=>(ayt aoV x0 x1 x2 x3).val
abbrev Yx:=(LT yW Oj)
def alb (p:Yx):KK:=⟨[],⟨[⟨1,(1::rg 4 4 (rg 9 11 [])),[]⟩],[fx 1 1 yW aoT p],[0],[],(some ⟨0,(rg 0 20 []),[]⟩)⟩,1,74⟩
theorem aCU (p:Yx):LI (alb p) 1 yW aoT (aoU):=λ_ d c K=>by kernel_rfl
theorem aKD (p:Yx):D2 (alb p) ayq (lf afm) λb=>ayt p b.1.1 b.1.2.1 b.1.b b.2:=λb=>by kernel_rfl
abbrev alc:Yx:=aoV
theorem aKE [ax]:SC (ays ala):=sc (kS (k:=alb alc) (.nil _) [1] [] ⟨kL (aCU alc),trivial⟩ trivial (aKD alc))
def ald:=qa (pu nil nil)
def Rh:=qe (res (pl (aa aMJ) (pu nil nil)))
abbrev VW:=Rh.B
abbrev aCV:=Option VW
def ale (g:aCV):Ct:=(38,FC ald (lf Rh) (λ_=>g))
def rj:=qs (st (pr (cu aIQ (cu (app 1 72) (us 2 aRl))) (pl (c (so (cu aS (cu aS (cu aS (cu aS (cu aS (cu aS (cu aS (cu aS (cu aS (cu aS (cu aS (cu aS (cu aS (cu aS (cu aS (cu aS (c jo (cl jo aGE))))))))))))))))))) (cl (so aMJ) nil)) nil)))
def acd:=qs (st (pr (cu aIQ (cu (app 1 72) (us 2 aRA))) (pl (c (so (cu aS (cu aS (cu aS (cu aS (cu aS (cu aS (cu aS (cu aS (cu aS (cu aS (cu aS (cu aS (cu aS (cu aS (cu aS (cu aS (c jo (cl jo aGE))))))))))))))))))) (cl (so aMJ) nil)) nil)))
abbrev EW:=acd.B
def ace {ρ:Type}:=@ef EW ((.ex 0)) acd ρ
def acf (d:rj.B):PL rj EW:=let n8:=d.2.1;let n4:=d.2.2.1;let n3:=d.2.2.2;let n9:=n3.2.1;let n5:=n3.2.2.1;let n1:=n3.2.2.2;let aY:=n1.2.1;let n6:=n1.2.2.1;let n2:=n1.2.2.2;let bh:=n2.2.1;let n7:=n2.2.2;let bx:=n7.2.1;let bp:=n7.2.2;let y0:=aX d.1 6;let y1:=d.1==5;let y2:=d.1==4;let y3:=d.1==1;let y4:=d.1==3;let y5:=d.1==2;let y6:=wI (d.1+1);let y7:=decide (d.1<6);ae y7 (ae y0 (ae y1 (ae y0 (ae y1 (ret (Sum.inl (y6,n8,n4,n3.1,n9,n5,n1.1,5,n6,n2.1,bh,n7.1,bx,1000000,bp.2))) (ae y2 (ret (Sum.inl (y6,n8,n4,n3.1,n9,n5,n1.1,5,n6,n2.1,bh,n7.1,1000000,bp))) (ae y4 (ret (Sum.inl (y6,n8,n4,n3.1,n9,n5,n1.1,5,n6,n2.1,bh,1000000,n7.2))) (ae y5 (ret (Sum.inl (y6,n8,n4,n3.1,n9,n5,n1.1,5,n6,n2.1,1000000,n7))) (ae y3 (ret (Sum.inl (y6,n8,n4,n3.1,n9,n5,n1.1,5,n6,1000000,n2.2))) (ret (Sum.inl (y6,n8,n4,n3.1,n9,n5,n1.1,5,1000000,n2)))))))) no) (ae y2 (ae y0 (ae y1 (ret (Sum.inl (y6,n8,n4,n3.1,n9,n5,5,aY,n6,n2.1,bh,n7.1,bx,1000000,bp.2))) (ae y2 (ret (Sum.inl (y6,n8,n4,n3.1,n9,n5,5,aY,n6,n2.1,bh,n7.1,1000000,bp))) (ae y4 (ret (Sum.inl (y6,n8,n4,n3.1,n9,n5,5,aY,n6,n2.1,bh,1000000,n7.2))) (ae y5 (ret (Sum.inl (y6,n8,n4,n3.1,n9,n5,5,aY,n6,n2.1,1000000,n7))) (ae y3 (ret (Sum.inl (y6,n8,n4,n3.1,n9,n5,5,aY,n6,1000000,n2.2))) (ret (Sum.inl (y6,n8,n4,n3.1,n9,n5,5,aY,1000000,n2)))))))) no) (ae y4 (ae y0 (ae y1 (ret (Sum.inl (y6,n8,n4,n3.1,n9,5,n1.1,aY,n6,n2.1,bh,n7.1,bx,1000000,bp.2))) (ae y2 (ret (Sum.inl (y6,n8,n4,n3.1,n9,5,n1.1,aY,n6,n2.1,bh,n7.1,1000000,bp))) (ae y4 (ret (Sum.inl (y6,n8,n4,n3.1,n9,5,n1.1,aY,n6,n2.1,bh,1000000,n7.2))) (ae y5 (ret (Sum.inl (y6,n8,n4,n3.1,n9,5,n1.1,aY,n6,n2.1,1000000,n7))) (ae y3 (ret (Sum.inl (y6,n8,n4,n3.1,n9,5,n1.1,aY,n6,1000000,n2.2))) (ret (Sum.inl (y6,n8,n4,n3.1,n9,5,n1.1,aY,1000000,n2)))))))) no) (ae y5 (ae y0 (ae y1 (ret (Sum.inl (y6,n8,n4,n3.1,5,n5,n1.1,aY,n6,n2.1,bh,n7.1,bx,1000000,bp.2))) (ae y2 (ret (Sum.inl (y6,n8,n4,n3.1,5,n5,n1.1,aY,n6,n2.1,bh,n7.1,1000000,bp))) (ae y4 (ret (Sum.inl (y6,n8,n4,n3.1,5,n5,n1.1,aY,n6,n2.1,bh,1000000,n7.2))) (ae y5 (ret (Sum.inl (y6,n8,n4,n3.1,5,n5,n1.1,aY,n6,n2.1,1000000,n7))) (ae y3 (ret (Sum.inl (y6,n8,n4,n3.1,5,n5,n1.1,aY,n6,1000000,n2.2))) (ret (Sum.inl (y6,n8,n4,n3.1,5,n5,n1.1,aY,1000000,n2)))))))) no) (ae y3 (ae y0 (ae y1 (ret (Sum.inl (y6,n8,n4,5,n9,n5,n1.1,aY,n6,n2.1,bh,n7.1,bx,1000000,bp.2))) (ae y2 (ret (Sum.inl (y6,n8,n4,5,n9,n5,n1.1,aY,n6,n2.1,bh,n7.1,1000000,bp))) (ae y4 (ret (Sum.inl (y6,n8,n4,5,n9,n5,n1.1,aY,n6,n2.1,bh,1000000,n7.2))) (ae y5 (ret (Sum.inl (y6,n8,n4,5,n9,n5,n1.1,aY,n6,n2.1,1000000,n7))) (ae y3 (ret (Sum.inl (y6,n8,n4,5,n9,n5,n1.1,aY,n6,1000000,n2.2))) (ret (Sum.inl (y6,n8,n4,5,n9,n5,n1.1,aY,1000000,n2)))))))) no) (ae y0 (ae y1 (ret (Sum.inl (y6,n8,5,n3.1,n9,n5,n1.1,aY,n6,n2.1,bh,n7.1,bx,1000000,bp.2))) (ae y2 (ret (Sum.inl (y6,n8,5,n3.1,n9,n5,n1.1,aY,n6,n2.1,bh,n7.1,1000000,bp))) (ae y4 (ret (Sum.inl (y6,n8,5,n3.1,n9,n5,n1.1,aY,n6,n2.1,bh,1000000,n7.2))) (ae y5 (ret (Sum.inl (y6,n8,5,n3.1,n9,n5,n1.1,aY,n6,n2.1,1000000,n7))) (ae y3 (ret (Sum.inl (y6,n8,5,n3.1,n9,n5,n1.1,aY,n6,1000000,n2.2))) (ret (Sum.inl (y6,n8,5,n3.1,n9,n5,n1.1,aY,1000000,n2)))))))) no)))))) no) (ret (Sum.inr ((d.1,y7),d.2)))
def acg:=bD (acf) 2000
def alf (qk:ak9)(dG:LT rj EW):Pg VW:=opt (dG (0,(λx=>0,λx=>0),0,0,0,0,0,0,0,0,0,0,0,0,λx=>0,λx=>0)) λd=>let n3:=d.2.2.2;let n1:=n3.2.2.2.2;let n2:=n1.2.2.2.2;opt (qk 0 24 16384 n2.2.2.2.1) λaj=>opt (qk 0 4 1048576 aj) λaI=>opt (qk 4 7 17179869184 aI) λbz=>opt (qk 10 13 1024 bz) λcq=>opt (qk 13 16 65536 cq) λeo=>opt (qk 22 24 17179869184 eo) λcJ=>opt (qk 0 24 17592186044416 n2.2.2.2.2) λkI=>opt (qk 0 4 68719476736 kI) λoJ=>opt (qk 10 13 67108864 oJ) λmI=>opt (qk 13 16 4294967296 mI) λjA=>opt (qk 16 22 17179869184 jA) λpC=>ret (d.2.2.1,n3.1,n3.2.1,n3.2.2.1,n3.2.2.2.1,n1.1,n1.2.1,n1.2.2.1,n1.2.2.2.1,n2.1,n2.2.1,n2.2.2.1,cJ,pC)
def alg:Option VW:=(alf ala acg).val
abbrev K6:=ak9×(LT rj EW)
def VX (p:K6):KK:=⟨[ays p.1],⟨[⟨3,(2::3::rg 5 32 []),[]⟩],[fx 3 0 rj ace p.2],[],[],(some ⟨0,(rg 1 36 []),[]⟩)⟩,0,38⟩
theorem atU (p:K6):LI (VX p) 3 rj ace (acf):=λ_ d c K=>by kernel_rfl
theorem aCW (p:K6):D2 (VX p) ald (lf Rh) λb=>alf p.1 p.2:=λb=>by kernel_rfl
abbrev VY:K6:=(ala,acg)
theorem aCX [ax]:SC (ale alg):=sc (kS (k:=VX VY) (.c aKE (.nil _)) [3] [] ⟨kL (atU VY),trivial⟩ trivial (aCW VY))
def Yy:=qa (pr (cu aP (c jX (c yi (c ac1 fT)))) bA)
def Ib:=qe (res (pr (py (c ac3 (c ah8 (cl (ra (cu auu (cu aS (cu aS (cu aS (c gi (c gi (cl gi (cu aS (cu aS (cu aS (cu aLM nil)))))))))))) nil)))) (pl lk nil)))
abbrev Yz:=Ib.B
abbrev YA:=NI->NI->NI->Int->Int->Int->Int->Bool->Option Yz
def YB (g:YA):Ct:=(250,FC Yy (lf Ib) (λb=>g b.1.1 b.1.2.1.1 b.1.2.1.2 b.1.b.1.1 b.1.b.1.2.1 b.1.b.1.b b.1.b.2 b.2))
def K7 (aN:eN)(gx:KO)(bU:kT)(bN:fm)(x0:Nat->Int)(x1:Nat->Int)(x2:Nat->Int)(x3:Int)(x4:Int)(x5:Int)(x6:Int)(x7:Bool):Pg Yz:=opt (aN x0 x7) λd=>opt (gx d.1 4 3 d.2 (cr x3 [x5,x4,x3]) false) λd=>let n3:=d.1.2;let n2:=d.2.1;let n1:=d.2.2;opt bU λaj=>ae (Nat.ble 3 n3) (opt (bN x1 x2 4 3 n2 (cr x6 [x6,x6,x6]) true) λaI=>ret (((d.1,n2,n3,n1).1.1,aI.1,n1 0,n1 1,n1 2),aI.2)) (ae (Nat.ble 2 n3) (opt (bN x1 x2 4 3 n2 (cr x6 [x6,x6,x6]) true) λaI=>ret (((d.1,n2,n3,n1).1.1,aI.1,n1 0,n1 1,0),aI.2)) (ae (Nat.ble 1 n3) (opt (bN x1 x2 4 3 n2 (cr x6 [x6,x6,x6]) true) λaI=>ret (((d.1,n2,n3,n1).1.1,aI.1,n1 0,0,0),aI.2)) (opt (bN x1 x2 4 3 n2 (cr x6 [x6,x6,x6]) true) λaI=>ret (((d.1,n2,n3,n1).1.1,aI.1,0,0,0),aI.2))))
def wF:=λx0 x1 x2 x3 x4 x5 x6 x7=>(K7 bW iZ dH cP x0 x1 x2 x3 x4 x5 x6 x7).val
theorem atV:∀aN gx bU bN,D0 [iw aN,KP gx,o8 bU,yJ bN] 250 Yy (lf Ib) λb=>K7 aN gx bU bN b.1.1 b.1.2.1.1 b.1.2.1.2 b.1.b.1.1 b.1.b.1.2.1 b.1.b.1.b b.1.b.2 b.2:=λ_ _ _ _ b=>by kernel_rfl
theorem atW [ax]:SC (YB wF):=s0 (.c jh (.c Vn (.c tG (.c Dr (.nil _))))) (atV bW iZ dH cP)
def RW:=qa (pr (cu aP (c jX (c yi C7))) bA)
def DL:=qe (res (pr (py (c ac3 (c ah8 (cl (ra (cu auu (cu aS (cu aS (cu aS (cu aS (cu aS (cu aS (c gi (c gi (cl gi aLS))))))))))) nil)))) (pl lk nil)))
abbrev RX:=DL.B
abbrev RY:=NI->NI->NI->Int->Int->Int->Bool->Option RX
def RZ (g:RY):Ct:=(251,FC RW (lf DL) (λb=>g b.1.1 b.1.2.1.1 b.1.2.1.2 b.1.b.1 b.1.b.2.1 b.1.c b.2))
def FO (aN:eN)(gx:KO)(bU:kT)(bN:fm)(x0:Nat->Int)(x1:Nat->Int)(x2:Nat->Int)(x3:Int)(x4:Int)(x5:Int)(x6:Bool):Pg RX:=opt (aN x0 x6) λd=>opt (gx d.1 7 2 d.2 (cr x3 [x4,x3]) true) λd=>let n3:=d.1.2;let n2:=d.2.1;let n1:=d.2.2;opt bU λaj=>ae (Nat.ble 3 n3) (opt (bN x1 x2 7 2 n2 (cr x5 [x5,x5]) true) λaI=>ret (((d.1,n2,n3,n1).1.1,aI.1,n1 0,n1 1,n1 2),aI.2)) (ae (Nat.ble 2 n3) (opt (bN x1 x2 7 2 n2 (cr x5 [x5,x5]) true) λaI=>ret (((d.1,n2,n3,n1).1.1,aI.1,n1 0,n1 1,0),aI.2)) (ae (Nat.ble 1 n3) (opt (bN x1 x2 7 2 n2 (cr x5 [x5,x5]) true) λaI=>ret (((d.1,n2,n3,n1).1.1,aI.1,n1 0,0,0),aI.2)) (opt (bN x1 x2 7 2 n2 (cr x5 [x5,x5]) true) λaI=>ret (((d.1,n2,n3,n1).1.1,aI.1,0,0,0),aI.2))))
def rO:=λx0 x1 x2 x3 x4 x5 x6=>(FO bW iZ dH cP x0 x1 x2 x3 x4 x5 x6).val
theorem amL:∀aN gx bU bN,D0 [iw aN,KP gx,o8 bU,yJ bN] 251 RW (lf DL) λb=>FO aN gx bU bN b.1.1 b.1.2.1.1 b.1.2.1.2 b.1.b.1 b.1.b.2.1 b.1.c b.2:=λ_ _ _ _ b=>by kernel_rfl
theorem amM [ax]:SC (RZ rO):=s0 (.c jh (.c Vn (.c tG (.c Dr (.nil _))))) (amL bW iZ dH cP)
def ahc:=qa (pr (cu aP (c jX (c yi wZ))) bA)
def Nb:=qe (res (pr (py (c ac3 (c ah8 (cl (ra (cu auu (cu aS (cu aS (cu aS (cu aS (cu aS (cu aS (cu aS (cu aS (cl gi (cu (gc aLI) nil)))))))))))) nil)))) (pl lk nil)))
abbrev ahd:=Nb.B
abbrev ahe:=NI->NI->NI->Int->Int->Bool->Option ahd
def ahf (g:ahe):Ct:=(252,FC ahc (lf Nb) (λb=>g b.1.1 b.1.2.1.1 b.1.2.1.2 b.1.b.1 b.1.b.2 b.2))
def Ri (aN:eN)(gx:KO)(bU:kT)(bN:fm)(x0:Nat->Int)(x1:Nat->Int)(x2:Nat->Int)(x3:Int)(x4:Int)(x5:Bool):Pg ahd:=opt (aN x0 x5) λd=>opt (gx d.1 9 1 d.2 (λj=>bif Nat.beq j 0 then x3 else x3) true) λd=>opt bU λaj=>ae (Nat.ble 1 d.1.2) (opt (bN x1 x2 9 1 d.2.1 (λj=>bif Nat.beq j 0 then x4 else x4) true) λaI=>ret (((d.1,d.2.1,d.1.2,d.2.2).1.1,aI.1,d.2.2 0),aI.2)) (opt (bN x1 x2 9 1 d.2.1 (λj=>bif Nat.beq j 0 then x4 else x4) true) λaI=>ret (((d.1,d.2.1,d.1.2,d.2.2).1.1,aI.1,0),aI.2))
def BB:=λx0 x1 x2 x3 x4 x5=>(Ri bW iZ dH cP x0 x1 x2 x3 x4 x5).val
theorem azL:∀aN gx bU bN,D0 [iw aN,KP gx,o8 bU,yJ bN] 252 ahc (lf Nb) λb=>Ri aN gx bU bN b.1.1 b.1.2.1.1 b.1.2.1.2 b.1.b.1 b.1.b.2 b.2:=λ_ _ _ _ b=>by kernel_rfl
theorem azM [ax]:SC (ahf BB):=s0 (.c jh (.c Vn (.c tG (.c Dr (.nil _))))) (azL bW iZ dH cP)
def DM:=qa (pl (cl (aa u3) nil) nil)
def afo:=qe B9
abbrev alh:=afo.B
abbrev ali:=DM.B->Option alh
def alj (g:ali):Ct:=(13,FC DM (lf afo) g)
def ja:=qs (st (pr (us 1 (cu aIQ (cu tN (us 3 (xs 1 (cu aRB (us 4 (cu aRU (us 4 (cu aRV (us 4 (cu tN (us 4 (c ab (us 3 (cl ai (us 26 aSO))))))))))))))))) (pl (cl (so (c gi (c gi (c gi (c gi (c gi (c gi (c gi (c gi (c gi (c gi (c gi (c gi (c gi (c gi (c gi (c gi aMr))))))))))))))))) nil) nil)))
def ahg:=qs (st (pu (us 2 (cu tN (us 119 nil))) (pu nil nil)))
def ahh:=qs (st (pr (us 1 (cu aIQ (cu tN (us 3 (xs 1 (cu aRB (us 4 (cu aRU (us 4 (cu aRV (us 4 (cu tN (us 4 (c ab (us 3 (c ai (cl ab (us 25 aSO)))))))))))))))))) (pl (cl (so (c gi (c gi (c gi (c gi (c gi (c gi (c gi (c gi (c gi (c gi (c gi (c gi (c gi (c gi (c gi (c gi aMr))))))))))))))))) nil) nil)))
abbrev ti:=ahg.B⊕ahh.B
def aoW {ρ:Type}(x:ti)(K:AX->St->Option ρ):Option ρ:=(Sum.elim (λd=>K .ret (ahg.em d)) (λd=>K (.ex 2) (ahh.em d))) x
def Ol (eT:yV)(d:ja.B):PL ja ti:=let n2:=d.1.2;let n1:=d.2.2.2.2.2.2.2.2.2.2.2.2.2.2.2.2.2;let y0:=Int.toNat n2;let y1:=aX n2 24;let y2:=Nat.ble (0+y0*1+1) 24;let y3:=decide (n2<24);ae y3 (ae y1 (ae y2 (opt (eT (n1.1 y0) 0 72057594037927936) λaj=>ae (!aj) (ret (Sum.inr (Sum.inl ()))) (ae y1 (ae y2 (opt (eT (n1.2.1 y0) 1 72057594037927936) λaI=>ae (!aI) (ret (Sum.inr (Sum.inl ()))) (ret (Sum.inl ((d.1.1,wI (n2+1)),d.2)))) no) no)) no) no) (ret (Sum.inr (Sum.inr ((d.1.1,n2,y3),d.2))))
def GV:=bD (Ol lZ) 2000
def YC (eT:yV)(aH1:afk)(qd:LT ja ti)(x:DM.B):Pg alh:=let n2:=x.2.2.2.2;let n8:=n2.2.1;let n4:=n8.2.2;let n3:=n2.1.2.2;let n7:=n3.2.2;ae (decide (n2.1.1<1)) (ret false) (ae (decide (n2.1.1>1000)) (ret false) (opt (eT n8.1 1 1099511627776) λd=>ae (!d) (ret false) (ae (decide (n2.1.2.1<1)) (ret false) (ae (decide (n2.1.2.1>1000)) (ret false) (opt (eT n8.2.1 1 1099511627776) λd=>ae (!d) (ret false) (ae (decide (n3.1<1)) (ret false) (ae (decide (n3.1>1000)) (ret false) (opt (eT n4.1 1 1099511627776) λd=>ae (!d) (ret false) (ae (decide (n3.2.1<1)) (ret false) (ae (decide (n3.2.1>1000)) (ret false) (opt (eT n4.2.1 1 1099511627776) λd=>ae (!d) (ret false) (ae (decide (n7.1<1)) (ret false) (ae (decide (n7.1>1000)) (ret false) (opt (eT n4.2.2.1 1 1099511627776) λd=>ae (!d) (ret false) (ae (decide (n7.2<1)) (ret false) (ae (decide (n7.2>1000)) (ret false) (opt (eT n4.2.2.2 1 1099511627776) λd=>ae (!d) (ret false) (opt (qd ((d,0),x.1,x.2.1,x.2.2.1,x.2.2.2.1,n2.1.1,n2.1.2.1,n3.1,n3.2.1,n7.1,n7.2,n8.1,n8.2.1,n4.1,n4.2.1,n4.2.2.1,n4.2.2.2,n2.2.2)) λx=>sum x (λd=>ret false) λd=>let n6:=d.2.2.2;let n1:=n6.2.2.2.2.2.2.2.2.2.2.2.2.2.2.2.2;let n5:=n1.2.2.2.2;opt (aH1 n5.2.1 n5.2.2.1 n5.2.2.2) λaj=>sm aj (λd=>ret false) (λaI=>opt (eT d.2.1 1000 100000) λbz=>ae bz (opt (eT d.2.2.1 0 300000) λcq=>ae cq (ae (decide (n6.1>=1)) (ae (decide (n6.1<=64)) (ae (decide (n6.2.1>=0)) (ae (decide (n6.2.1<=100)) (opt (eT n1.1 0 1099511627776) λeo=>ae eo (opt (eT n1.2.1 1 72057594037927936) λcJ=>ae cJ (ae (decide (n1.2.2.1>=0)) (ae (decide (n1.2.2.1<=3)) (opt (eT n1.2.2.2.1 1 1073741824) λkI=>ae kI (ae (decide (n5.1>=1)) (ret (decide (n5.1<=64))) (ret false)) (ret false)) (ret false)) (ret false)) (ret false)) (ret false)) (ret false)) (ret false)) (ret false)) (ret false)) (ret false)) (ret false))))))))))))))))))))
def zA:=λx=>(YC lZ wE GV x).val
abbrev YD:=yV×afk×(LT ja ti)
def alk (p:YD):KK:=⟨[VV p.1,atT p.2.1],⟨[⟨2,(0::3::4::rg 8 4 (13::14::15::21::rg 29 8 (38::39::40::rg 48 10 [61,62,66,67,71,72,76,77,81,82,86,87,91,92,96,97,101,102,106,107,111,112,116,117,121]))),[]⟩,⟨8,(0::3::4::5::rg 8 4 (rg 13 4 (rg 18 4 (rg 23 4 (28::29::30::rg 32 5 (38::39::40::rg 48 10 (61::62::66::67::71::72::76::77::81::82::86::87::91::92::96::97::101::102::106::107::111::112::116::117::121::37::rg 41 7 []))))))),[]⟩],[fx 8 0 ja aoW p.b],[],[],(some ⟨0,(0::1::rg 3 119 []),[]⟩)⟩,0,13⟩
theorem aCY (p:YD):LI (alk p) 8 ja aoW (Ol p.1):=λ_ d c K=>by kernel_rfl
theorem aKF (p:YD):D2 (alk p) DM (lf afo) λb=>YC p.1 p.2.1 p.b b:=λb=>by kernel_rfl
abbrev alm:YD:=(lZ,wE,GV)
theorem ayu [ax]:SC (alj zA):=sc (kS (k:=alk alm) (.c ak8 (.c aH0 (.nil _))) [2,8] [] ⟨kN,⟨kL (aCY alm),trivial⟩⟩ trivial (aKF alm))
def ach:=qa (dp (cu aP (c ai (c Gh aur))) λa=>(c uV (cl (cl (gs a.2.1.1 mF) nil) nil)))
def K8:=qe aGs
abbrev aci:=K8.B
abbrev acj:=Int->Nat->Nat->Bool->NI->Bool->Bool->Option aci
def ack (g:acj):Ct:=(73,sW 3 [.i .i64] (sW 2 [.i .i64] (FC ach (lf K8) (λb=>g b.1.1 b.1.2.1.1 b.1.b.1 b.2.1 b.b b.1.2.1.2 b.1.b.2))))
def oi:=qs (st (dp (cu aP (c ai (c Gh (c Gh (us 5 (cu awp aRL)))))) λa=>(pl (c cj (c (so (cl (gs a.2.1.1 mF) nil)) YZ)) cA)))
def aqx:=qs (st (pr (cu aP (c ai (c Gh (c Gh (us 5 (cu awp aRP)))))) (pl (c cj (c HL YZ)) cA)))
abbrev AF:=(aQ2×Bool×NI×Int×Int)
def VZ {ρ:Type}(x:AF)(K:AX->St->Option ρ):Option ρ:=(λd=>K (.ex 0) (aqx.em (d.1,d.2.1,(d.1.2.1.1,d.b.1),d.b.2))) x
def AG (aw:bG)(cD:mG)(wc:qf)(d:oi.B):PL oi AF:=let y0:=decide (d.1.2.2.2.2<d.1.2.2.2.1);ae y0 (ae (aX d.1.2.2.2.2 d.1.2.1.1) (opt (aw (d.2.2.1 (Int.toNat d.1.2.2.2.2)) d.2.1) λaj=>ae (aX d.1.2.2.2.2 d.1.2.2.1.1) (opt (aw (d.2.2.1 (Int.toNat d.1.2.2.2.2)) aj.2) λaI=>opt (cD aj.1 aI.1) λbz=>opt (wc 2 (λj=>bif Nat.beq j 1 then bz.1 else bif Nat.beq j 0 then d.2.2.2.1 else d.2.2.2.1) (λj=>bif Nat.beq j 1 then bz.2 else bif Nat.beq j 0 then d.2.2.2.2 else d.2.2.2.2) true) λcq=>ret (Sum.inl ((d.1.1,d.1.2.1,d.1.2.2.1,d.1.2.2.2.1,wI (d.1.2.2.2.2+1)),aI.2,d.2.2.1,cq.1))) no) no) (ret (Sum.inr ((d.1.1,d.1.2.1,d.1.2.2.1,d.1.2.2.2.1,d.1.2.2.2.2,y0),d.2)))
def Ic:=bD (AG aQ eR jk) 2000
def Nc (gZ:vE)(dG:LT oi AF)(x0:Int)(x1:Nat)(x2:Nat)(x3:Bool)(x4:Nat->Int)(w0:Bool)(w1:Bool):Pg aci:=let y0:=if Int.ofNat x2<Int.ofNat x1 then Int.ofNat x2 else Int.ofNat x1;ae (decide (x0<0)) (opt (gZ 0 0 x0 x3) λd=>ret d) (ae (decide (x0>120)) (opt (gZ 0 0 x0 x3) λd=>ret d) (ae (Nat.beq x1 x1) (opt (dG ((x0,(x1,w0),(x2,w1),if 100<y0 then 100 else y0,0),x3,x4,0,0)) λd=>opt (gZ d.2.2.2.1 d.2.2.2.2 d.1.1 d.2.1) λd=>ret d) no))
def tK:=λx0 x1 x2 x3 x4 w0 w1=>(Nc mg Ic x0 x1 x2 x3 x4 w0 w1).val
abbrev EX:=vE×bG×mG×qf×(LT oi AF)
def Nd (p:EX):KK:=⟨[G' p.1,cV p.2.1,vV p.b.1,IP p.b.2.1],⟨[⟨5,(rg 4 5 (rg 10 15 (rg 27 26 []))),[]⟩],[fx 5 2 oi VZ p.c],[0],[],(some ⟨0,(rg 0 8 (rg 9 44 [])),[]⟩)⟩,2,73⟩
theorem amN (p:EX):LI (Nd p) 5 oi VZ (AG p.2.1 p.b.1 p.b.2.1):=λ_ d c K=>by kernel_rfl
theorem av1 (p:EX):D2 (Nd p) ach (lf K8) λb=>Nc p.1 p.c b.1.1 b.1.2.1.1 b.1.b.1 b.2.1 b.b b.1.2.1.2 b.1.b.2:=λb=>by kernel_rfl
abbrev Nf:EX:=(mg,aQ,eR,jk,Ic)
theorem av2 [ax]:SC (ack tK):=sc (Sound.nil 3 [.i .i64]<|Sound.nil 2 [.i .i64]<|kS (k:=Nd Nf) (.c Qf (.c cZ (.c zt (.c OH (.nil _))))) [5] [] ⟨kL (amN Nf),trivial⟩ trivial (av1 Nf))
def V0:=qa (pr (cu aP (c jX C7)) bA)
def FP:=qe aAH
abbrev V1:=FP.B
abbrev V2:=NI->Int->Int->Int->Bool->Option V1
def V3 (g:V2):Ct:=(234,FC V0 (lf FP) (λb=>g b.1.1 b.1.2.1 b.1.b.1 b.1.b.2 b.2))
def Ie (bC:kD)(EY:acj)(pL:Zw)(aV:cQ)(cT:wb)(aD:cx)(x0:Nat->Int)(x1:Int)(x2:Int)(x3:Int)(x4:Bool):Pg V1:=opt (bC x0 16) λd=>opt (EY 30 2 2 x4 (cr d.1 [d.2.1,d.1]) false false) λaj=>ae (decide (aj.1<1048576)) (ret (((λx=>0,0,0,0),4),aj.2)) (opt (pL d.2.1 d.1 aj.2) λaI=>opt (aV x1 aI.1 aI.2) λbz=>opt (cT bz.1) λcq=>opt (aD d.2.1 aj.1 30 bz.2) λeo=>opt (aD d.1 aj.1 30 eo.2) λd=>ret (((λj=>bif Nat.beq j 17 then d.1 else bif Nat.beq j 16 then wI (0-eo.1) else 0,cq,x2,x3),0),d.2))
def uh:=λx0 x1 x2 x3 x4=>(Ie ec tK w9 bH jy bm x0 x1 x2 x3 x4).val
theorem aqy:∀bC EY pL aV cT aD,D0 [pH bC,ack EY,Zx pL,gE aV,zW cT,fK aD] 234 V0 (lf FP) λb=>Ie bC EY pL aV cT aD b.1.1 b.1.2.1 b.1.b.1 b.1.b.2 b.2:=λ_ _ _ _ _ _ b=>by kernel_rfl
theorem aqz [ax]:SC (V3 uh):=s0 (.c sZ (.c av2 (.c anU (.c iu (.c EB (.c gD (.nil _))))))) (aqy ec tK w9 bH jy bm)
def jH:=qa (pr (cl aMs (cu aP (cu (app 1 10) nil))) (cu aLD (c Cb bA)))
def rE:=qe (res (pr (aa auD) (pl aLW nil)))
abbrev CM:=rE.B
abbrev na:=jH.B->Option CM
def si (g:na):Ct:=(180,FC jH (lf rE) g)
def sj (dm:z8)(gM:zy)(ew:wj)(bn:gQ)(x:jH.B):Pg CM:=let n2:=x.2.1;let n6:=n2.1.2;let n1:=x.1.2;let n5:=n1.1.2;let n4:=n1.2.2;let n3:=n1.2.1;opt (dm 2 x.2.2 (cr n3.1 [n2.2.1.1,n3.1]) (cr n3.2.1 [n2.2.1.2.1,n3.2.1]) (cr n3.2.2 [n2.2.1.2.2,n3.2.2]) true) λd=>opt (dm 2 d.2 (cr n4.1 [n2.2.2.1,n4.1]) (cr n4.2.1 [n2.2.2.2.1,n4.2.1]) (cr n4.2.2 [n2.2.2.2.2,n4.2.2]) true) λaj=>opt gM λaI=>ae (!(n2.1.1==1073741824&&(n6.1==0&&(n6.2.1==0&&(n6.2.2==0&&true))))) (opt (ew n2.1.1 n6.1 n6.2.1 n6.2.2 n1.1.1 n5.1 n5.2.1 n5.2.2 aj.2) λbz=>opt (bn bz.1.1 bz.1.2.1 bz.1.2.2.1 bz.1.2.2.2 bz.2) λcq=>ret ((x.1.1,cq.1.1,cq.1.2.1,cq.1.2.2.1,cq.1.2.2.2,d.1.1,d.1.2.1,d.1.2.2,aj.1),cq.2)) (ret ((x.1.1,n1.1.1,n5.1,n5.2.1,n5.2.2,d.1.1,d.1.2.1,d.1.2.2,aj.1),aj.2))
def gH:=λx=>(sj jr mJ ke cW x).val
theorem SS:∀dm gM ew bn,D0 [HZ dm,IT gM,Dp ew,ml bn] 180 jH (lf rE) λb=>sj dm gM ew bn b:=λ_ _ _ _ b=>by kernel_rfl
theorem CN [ax]:SC (si gH):=s0 (.c MB (.c OO (.c IU (.c nI (.nil _))))) (SS jr mJ ke cW)
def iA:=qa (pr (cl aMs (cu aP (cu aIO (cu (app 2 1) (cu ah3 (cu (app 4 4) nil)))))) (cu (cu (gp 5 1) nil) (c jW (cu (cu (gp 6 3) nil) (c jW (c ac4 (c uV (cd aGq λb6=>(cl (cl (gs b6.b fX) nil) nil)))))))))
def o9:=qe (res (pr (aa auD) (pl (cu eW (cu eW (cu eW (cu eW (cu eW (cl ard aup)))))) nil)))
abbrev zB:=o9.B
abbrev lB:=iA.B->Option zB
def ql (g:lB):Ct:=(183,FC iA (lf o9) g)
def qo (gR:Sw)(dm:z8)(ew:wj)(bn:gQ)(x:iA.B):Pg zB:=let n3:=x.1.2.1;let n2:=x.2.2;let n1:=x.1.2.2;opt (gR x.2.1.1 x.2.1.2.1 x.2.1.2.2 n2.2.2.2.1.2.1 n2.2.2.1) λd=>opt (dm 2 d.2 (cr n1.1.1 [d.1.1,n1.1.1]) (cr n1.1.2.1 [d.1.2.1,n1.1.2.1]) (cr n1.1.2.2 [d.1.2.2,n1.1.2.2]) true) λd=>opt (gR n2.1.1 n2.1.2.1 n2.1.2.2 n2.2.2.2.1.2.1 d.2) λaj=>opt (dm 2 aj.2 (cr n1.2.1 [aj.1.1,n1.2.1]) (cr n1.2.2.1 [aj.1.2.1,n1.2.2.1]) (cr n1.2.2.2 [aj.1.2.2,n1.2.2.2]) true) λaI=>opt (ew n2.2.1.1 n2.2.1.2.1 n2.2.1.2.2.1 n2.2.1.2.2.2 n3.1 n3.2.1 n3.2.2.1 n3.2.2.2 aI.2) λbz=>opt (bn bz.1.1 bz.1.2.1 bz.1.2.2.1 bz.1.2.2.2 bz.2) λcq=>ret ((x.1.1,cq.1.1,cq.1.2.1,cq.1.2.2.1,cq.1.2.2.2,d.1.1,d.1.2.1,d.1.2.2,aI.1),cq.2)
def fD:=λx=>(qo rZ jr ke cW x).val
theorem O9:∀gR dm ew bn,D0 [Sx gR,HZ dm,Dp ew,ml bn] 183 iA (lf o9) λb=>qo gR dm ew bn b:=λ_ _ _ _ b=>by kernel_rfl
theorem zC [ax]:SC (ql fD):=s0 (.c aeb (.c MB (.c IU (.c nI (.nil _))))) (O9 rZ jr ke cW)
def jI:=qa (pu (cu Gg (cu Oy (cu aMu nil))) (cd aGq λb0=>(c uV (cu apu (c jW (cu aRn (c jW (c ac4 (cl (cl (gs b0.b fX) nil) nil)))))))))
def rF:=qe (res (pu Tl (pl (cu eW (c ard (cu eW (cu eW (cu eW aSD))))) nil)))
abbrev sk:=rF.B
abbrev sr:=jI.B->Option sk
def CO (g:sr):Ct:=(179,FC jI (lf rF) g)
def cL:=qs (st (dp (cu Gg (cu Oy (cu aMu (us 8 (c (ac (wY 7 11)) aLN))))) λv=>(pl (c (so aGq) (c cj (cu YW (c w7 (cu aut (c w7 (c uX (cl (so (cl (gs v.1 fX) nil)) nil)))))))) (cu (nat 7) aEZ))))
def O':=qs (st (pr (cu Gg (cu Oy (cu aMu (us 8 (c (ac (wY 7 11)) aLT))))) (pl (c (so aGq) (c cj (cu YW (c w7 (cu aut (c w7 (c uX Jt))))))) (cu (nat 7) aEZ))))
abbrev fE:=((Nat×Int×Int×Bool)×xM×Bool×nr×nr×aER×NI×NI×NI×NI×NI×NI×NI×NI×NI×NI×NI)
def zD {ρ:Type}(x:fE)(K:AX->St->Option ρ):Option ρ:=(λd=>K (.ex 0) (O'.em (d.1,d.2.1,d.b.1,d.b.2.1,d.c.1,d.c.2.1,d.1.1,d.c.b))) x
def qu (th:B5)(iR:se)(Pb:lB)(d:cL.B):PL cL fE:=let bh:=d.2.1;let n6:=d.1.2;let n5:=d.2.2.2;let n1:=n5.2.2.2;let n8:=n1.2.2;let n2:=n8.2.2.2;let n7:=n2.2.2.2;let y0:=Int.toNat n6.2;let y1:=decide (n6.2<n6.1);ae y1 (ae (aX n6.2 d.1.1) (ae (Nat.beq bh.2.2 bh.2.2) (opt (Pb ((n1.1 y0,(n1.2.1 y0,n8.1 y0,n8.2.1 y0,n8.2.2.1 y0),(n2.1 y0,n2.2.1 y0,n2.2.2.1 y0),n7.1 y0,n7.2.1 y0,n7.2.2 y0),n5.1,n5.2.1,n5.2.2.1,d.2.2.1,bh,n1)) λaj=>let n3:=aj.1.2.2.2.2;let n9:=n3.2.2.2;opt (th (λx=>0) aj.1.1 aj.1.2.1 aj.1.2.2.1 aj.1.2.2.2.1 n3.1 n3.2.1 n3.2.2.1 n9.1 n9.2.1 n9.2.2.1 n9.2.2.2) λaI=>opt (iR aI (n1.1 y0) aj.2) λbz=>let n4:=bz.1.2.2.2.2;let aY:=n4.2.2.2;ae (aX n6.2 bh.2.2) (ae (true&&Nat.ble (0+y0*11+11) (d.1.1*11+0)) (ret (Sum.inl ((d.1.1,n6.1,wI (n6.2+1)),bh,bz.2,n5.1,n5.2.1,n5.2.2.1,λj=>bif Nat.beq j y0 then bz.1.1 else n1.1 j,λj=>bif Nat.beq j y0 then bz.1.2.1 else n1.2.1 j,λj=>bif Nat.beq j y0 then bz.1.2.2.1 else n8.1 j,λj=>bif Nat.beq j y0 then bz.1.2.2.2.1 else n8.2.1 j,λj=>bif Nat.beq j y0 then n4.1 else n8.2.2.1 j,λj=>bif Nat.beq j y0 then n4.2.1 else n2.1 j,λj=>bif Nat.beq j y0 then n4.2.2.1 else n2.2.1 j,λj=>bif Nat.beq j y0 then aY.1 else n2.2.2.1 j,λj=>bif Nat.beq j y0 then aY.2.1 else n7.1 j,λj=>bif Nat.beq j y0 then aY.2.2.1 else n7.2.1 j,λj=>bif Nat.beq j y0 then aY.2.2.2 else n7.2.2 j))) no) no) no) no) (ret (Sum.inr ((d.1.1,n6.1,n6.2,y1),d.2)))
def qv:=bD (qu pO kV fD) 2000
def ss (dG:LT cL fE)(x:jI.B):Pg sk:=ae (Nat.beq x.1.2.2 x.1.2.2) (opt (dG ((x.1.2.2,Int.ofNat x.1.2.2,0),x)) λd=>ret (d.2.2.1,d.1.1,d.2.2.2.2.2.2)) no
def jJ:=λx=>(ss qv x).val
abbrev nc:=B5×se×lB×(LT cL fE)
def su (p:nc):KK:=⟨[Od p.1,EV p.2.1,ql p.b.1],⟨[⟨1,(rg 3 8 (rg 14 20 [])),[]⟩],[fx 1 8 cL zD p.b.2],[7,1],[],(some ⟨0,(rg 0 34 []),[]⟩)⟩,8,179⟩
theorem Ng (p:nc):LI (su p) 1 cL zD (qu p.1 p.2.1 p.b.1):=λ_ d c K=>by kernel_rfl
theorem SU (p:nc):D2 (su p) jI (lf rF) λb=>ss p.b.2 b:=λb=>by kernel_rfl
abbrev sw:nc:=(pO,kV,fD,qv)
theorem SV [ax]:SC (CO jJ):=sc (kS (k:=su sw) (.c aaK (.c K4 (.c zC (.nil _)))) [1] [] ⟨kL (Ng sw),trivial⟩ trivial (SU sw))
def jK:=qa (pu (cu Gg (cu Oy (cu aL9 nil))) (cd aLX λb0=>(c uV (cu apu (c Cb (cl (cl (gs b0.b fX) nil) nil))))))
def rG:=qe (res (pu Tl (pl (cu eW (c ard aSD)) nil)))
abbrev sx:=rG.B
abbrev sy:=jK.B->Option sx
def CP (g:sy):Ct:=(179,FC jK (lf rG) g)
def cM:=qs (st (dp (cu Gg (cu Oy (cu aL9 (us 8 (c (ac (wY 4 11)) aLN))))) λv=>(pl (c (so aLX) (c cj (cu YW (c (so Cb) (cl (so (cl (gs v.1 fX) nil)) nil))))) (cu rq6 aEZ))))
def Pc:=qs (st (pr (cu Gg (cu Oy (cu aL9 (us 8 (c (ac (wY 4 11)) aLT))))) (pl (c (so aLX) (c cj (cu YW (c (so Cb) Jt)))) (cu rq6 aEZ))))
abbrev fF:=((Nat×Int×Int×Bool)×xM×Bool×HI×NI×NI×NI×NI×NI×NI×NI×NI×NI×NI×NI)
def zE {ρ:Type}(x:fF)(K:AX->St->Option ρ):Option ρ:=(λd=>K (.ex 0) (Pc.em (d.1,d.2.1,d.b.1,d.b.2.1,d.1.1,d.c))) x
def qw (th:B5)(iR:se)(SW:na)(d:cM.B):PL cM fF:=let n6:=d.1.2;let n4:=d.2.2.2.2;let n1:=n4.2.2.2;let n9:=n1.2.2;let n5:=n9.2.2;let y0:=Int.toNat n6.2;let y1:=decide (n6.2<n6.1);ae y1 (ae (aX n6.2 d.1.1) (opt (SW ((n4.1 y0,(n4.2.1 y0,n4.2.2.1 y0,n1.1 y0,n1.2.1 y0),(n9.1 y0,n9.2.1 y0,n5.1 y0),n5.2.1 y0,n5.2.2.1 y0,n5.2.2.2 y0),d.2.2.2.1,d.2.2.1)) λaj=>let n2:=aj.1.2.2.2.2;let n7:=n2.2.2.2;opt (th (λx=>0) aj.1.1 aj.1.2.1 aj.1.2.2.1 aj.1.2.2.2.1 n2.1 n2.2.1 n2.2.2.1 n7.1 n7.2.1 n7.2.2.1 n7.2.2.2) λaI=>opt (iR aI (n4.1 y0) aj.2) λbz=>let n3:=bz.1.2.2.2.2;let n8:=n3.2.2.2;ae (aX n6.2 d.2.1.2.2) (ae (true&&Nat.ble (0+y0*11+11) (d.1.1*11+0)) (ret (Sum.inl ((d.1.1,n6.1,wI (n6.2+1)),d.2.1,bz.2,d.2.2.2.1,λj=>bif Nat.beq j y0 then bz.1.1 else n4.1 j,λj=>bif Nat.beq j y0 then bz.1.2.1 else n4.2.1 j,λj=>bif Nat.beq j y0 then bz.1.2.2.1 else n4.2.2.1 j,λj=>bif Nat.beq j y0 then bz.1.2.2.2.1 else n1.1 j,λj=>bif Nat.beq j y0 then n3.1 else n1.2.1 j,λj=>bif Nat.beq j y0 then n3.2.1 else n9.1 j,λj=>bif Nat.beq j y0 then n3.2.2.1 else n9.2.1 j,λj=>bif Nat.beq j y0 then n8.1 else n5.1 j,λj=>bif Nat.beq j y0 then n8.2.1 else n5.2.1 j,λj=>bif Nat.beq j y0 then n8.2.2.1 else n5.2.2.1 j,λj=>bif Nat.beq j y0 then n8.2.2.2 else n5.2.2.2 j))) no) no) no) (ret (Sum.inr ((d.1.1,n6.1,n6.2,y1),d.2)))
def qx:=bD (qw pO kV gH) 2000
def sC (dG:LT cM fF)(x:jK.B):Pg sx:=ae (Nat.beq x.1.2.2 x.1.2.2) (opt (dG ((x.1.2.2,Int.ofNat x.1.2.2,0),x)) λd=>ret (d.2.2.1,d.1.1,d.2.2.2.2)) no
def jL:=λx=>(sC qx x).val
abbrev nd:=B5×se×na×(LT cM fF)
def sD (p:nd):KK:=⟨[Od p.1,EV p.2.1,si p.b.1],⟨[⟨1,(rg 3 8 (rg 14 20 [])),[]⟩],[fx 1 5 cM zE p.b.2],[4,1],[],(some ⟨0,(rg 0 34 []),[]⟩)⟩,5,179⟩
theorem Nh (p:nd):LI (sD p) 1 cM zE (qw p.1 p.2.1 p.b.1):=λ_ d c K=>by kernel_rfl
theorem SX (p:nd):D2 (sD p) jK (lf rG) λb=>sC p.b.2 b:=λb=>by kernel_rfl
abbrev sE:nd:=(pO,kV,gH,qx)
theorem SY [ax]:SC (CP jL):=sc (kS (k:=sD sE) (.c aaK (.c K4 (.c CN (.nil _)))) [1] [] ⟨kL (Nh sE),trivial⟩ trivial (SX sE))
def k9:=qa (dp (cu Gg (cu Oy (cl aRb nil))) λv=>(cd aGp λb0=>(c uV (c (cl (gs v.1 jq) nil) (cl (cl (gs b0.b fX) nil) nil)))))
def ui:=qe (res (pu Tl (pl (cu eW (c ard (cu eW aMx))) nil)))
abbrev vn:=ui.B
abbrev vo:=k9.B->Option vn
def Fc (g:vo):Ct:=(112,sW 2 [.i .i64,.i .i64,.i .i64,.i .i64,.i .i64,.i .i64,.i .i64,.i .i64,.i .i64,.i .i64] (FC k9 (lf ui) g))
def cX:=qs (st (dp (cu Gg (us 3 (cu aAu (us 3 (c aRb (c ai aLF)))))) λv=>(pl (cd (so aGp) λb0=>(c cj (c (so (cl (gs v.1.1 jq) nil)) (cl (so (cl (gs b0.b fX) nil)) (cu YW nil))))) (cu rq7 aEZ))))
def SZ:=qs (st (pr (cu Gg (us 3 (cu aAu (us 3 (c aRb (c ai aGi)))))) (pl (c (so aGp) (c cj (c uZ (cl aia (cu YW nil))))) (cu rq7 aEZ))))
abbrev gI:=(aIE×xM×Bool×aN4×NI×NI×NI×NI×NI×NI×NI×NI×NI×NI×NI)
def CQ {ρ:Type}(x:gI)(K:AX->St->Option ρ):Option ρ:=(λd=>K (.ex 0) (SZ.em (d.1,d.2.1,d.b.1,(d.1.1.1,d.b.2.1),d.2.1.b,d.c))) x
def sF (S3:sy)(d:cX.B):PL cX gI:=let aY:=d.2.1;let n6:=d.1.2;let n1:=d.2.2.2;let n4:=n1.1.2.2.2.2;let n3:=n1.2.2.2.2.2;let n9:=n3.2.2.2;let y0:=Int.toNat n6.2;let y1:=aY.2.2*11;let y2:=decide (n6.2<n6.1);ae y2 (ae (aX n6.2 d.1.1.1) (ae (Nat.beq aY.2.2 aY.2.2) (opt (S3 (aY,d.2.2.1,((n1.1.1 y0,n1.1.2.1 y0,n1.1.2.2.1 y0,n1.1.2.2.2.1 y0),(n4.1 y0,n4.2.1 y0,n4.2.2.1 y0),n4.2.2.2.1 y0,n4.2.2.2.2.1 y0,n4.2.2.2.2.2 y0),n1.2)) λaj=>let n7:=aj.2.2.2;let n5:=aj.2.1;let n2:=n7.2.2.2;let n8:=n2.2.2.2;let y0:=n5*11+0;ae (true&&Nat.beq y0 y1&&true) (ae (true&&Nat.ble (0+y0) (y1+0)) (ret (Sum.inl ((d.1.1,n6.1,wI (n6.2+1)),aY,aj.1,n1.1,λj=>bif true&&Nat.blt j (0+n5) then aj.2.2.1 j else n1.2.1 j,λj=>bif true&&Nat.blt j (0+n5) then n7.1 j else n1.2.2.1 j,λj=>bif true&&Nat.blt j (0+n5) then n7.2.1 j else n1.2.2.2.1 j,λj=>bif true&&Nat.blt j (0+n5) then n7.2.2.1 j else n1.2.2.2.2.1 j,λj=>bif true&&Nat.blt j (0+n5) then n2.1 j else n3.1 j,λj=>bif true&&Nat.blt j (0+n5) then n2.2.1 j else n3.2.1 j,λj=>bif true&&Nat.blt j (0+n5) then n2.2.2.1 j else n3.2.2.1 j,λj=>bif true&&Nat.blt j (0+n5) then n8.1 j else n9.1 j,λj=>bif true&&Nat.blt j (0+n5) then n8.2.1 j else n9.2.1 j,λj=>bif true&&Nat.blt j (0+n5) then n8.2.2.1 j else n9.2.2.1 j,λj=>bif true&&Nat.blt j (0+n5) then n8.2.2.2 j else n9.2.2.2 j))) no) no) no) no) (ret (Sum.inr ((d.1.1,n6.1,n6.2,y2),d.2)))
def sG:=bD (sF jL) 2000
def vp (dG:LT cX gI)(x:k9.B):Pg vn:=ae (Nat.beq x.1.1 x.1.1) (ae (Nat.beq x.2.1.2.2 x.2.1.2.2) (opt (dG ((x.1,Int.ofNat x.1.1,0),x.2)) λd=>ret (d.2.2.1,d.2.1.2.2,d.2.2.2.2)) no) no
def ld:=λx=>(vp sG x).val
abbrev oG:=na×sy×(LT cX gI)
def vr (p:oG):KK:=⟨[si p.1,CP p.2.1],⟨[⟨2,(1::2::3::5::6::7::rg 11 8 []),[]⟩],[fx 2 4 cX CQ p.b],[3,1],[],(some ⟨0,(rg 0 19 []),[]⟩)⟩,4,112⟩
theorem Rj (p:oG):LI (vr p) 2 cX CQ (sF p.2.1):=λ_ d c K=>by kernel_rfl
theorem Xb (p:oG):D2 (vr p) k9 (lf ui) λb=>vp p.b b:=λb=>by kernel_rfl
abbrev vt:oG:=(gH,jL,sG)
theorem Xc [ax]:SC (Fc ld):=sc (Sound.nil 2 [.i .i64,.i .i64,.i .i64,.i .i64,.i .i64,.i .i64,.i .i64,.i .i64,.i .i64,.i .i64]<|kS (k:=vr vt) (.c CN (.c SY (.nil _))) [2] [] ⟨kL (Rj vt),trivial⟩ trivial (Xb vt))
def V4:=qa (pl fT nil)
def FQ:=qe B9
abbrev V5:=FQ.B
abbrev V6:=Int->Option V5
def V7 (g:V6):Ct:=(204,FC V4 (lf FQ) (λb=>g b))
def Ig (x0:Int):Pg V5:=ret (x0 !=x0)
def uj:=λx0=>(Ig x0).val
theorem aqA:D0 [] 204 V4 (lf FQ) λb=>Ig b:=λb=>by kernel_rfl
theorem aqB [ax]:SC (V7 uj):=s0 (.nil _) aqA
def Pd:=qa (pl wZ nil)
def Cm:=qe Fq
abbrev Pe:=Cm.B
abbrev wG:=Int->Int->Option Pe
def DN (g:wG):Ct:=(143,FC Pd (lf Cm) (λb=>g b.1 b.2))
def DO (uk:V6)(x0:Int)(x1:Int):Pg Pe:=opt (uk x0) λd=>opt (uk x1) λaj=>ae d (ae aj (ret 0) (ret (-1))) (ae aj (ret 1) (ae (decide (x0<x1)) (ret (-1)) (ae (decide (x0>x1)) (ret 1) (ret 0))))
def kr:=λx0 x1=>(DO uj x0 x1).val
theorem aln:∀uk,D0 [V7 uk] 143 Pd (lf Cm) λb=>DO uk b.1 b.2:=λ_ b=>by kernel_rfl
theorem Pf [ax]:SC (DN kr):=s0 (.c aqB (.nil _)) (aln uj)
def zF:=qa (dp (c Ts aur) λv=>(c (cl (gs v.1.1 mF) nil) (cl (cl (gs v.2.1 mF) nil) nil)))
def pd:=qe aLY
abbrev zG:=pd.B
abbrev zH:=Nat->Nat->NI->NI->Bool->Bool->Option zG
def zI (g:zH):Ct:=(144,sW 1 [.i .i64] (sW 0 [.i .i64] (FC zF (lf pd) (λb=>g b.1.1.1 b.1.2.1 b.2.1 b.b b.1.1.2 b.1.b))))
def cw:=qs (st (dp (c Ts (c Gh (us 7 (c Ts (c ai aGd))))) λv=>(pl (c (so (cl (gs v.1.1 mF) nil)) (cl (so (cl (gs v.2.1.1 mF) nil)) nil)) nil)))
def uW:=qs (st (pr (us 4 aRo) (pl (c HL ah7) nil)))
def Jo:=qs (st (pr (c Ts (c Gh (us 7 (c Ts (c ai aGk))))) (pl (c HL ah7) nil)))
abbrev eU:=uW.B⊕(((Nat×Bool)×(Nat×Bool)×(Nat×Bool)×Int×Int×Bool)×NI×NI)
def xR {ρ:Type}(x:eU)(K:AX->St->Option ρ):Option ρ:=(Sum.elim (λd=>K .ret (uW.em d)) (λd=>K (.ex 0) (Jo.em (d.1,(d.1.1.1,d.2.1),d.1.2.1.1,d.b)))) x
def oC (mQ:wG)(d:cw.B):PL cw eU:=let n1:=d.1.2;let n2:=n1.2.2;let y0:=Int.toNat n2.2;let y1:=decide (n2.2<n2.1);ae y1 (ae (aX n2.2 n1.2.1.1) (ae (decide (n2.2>=Int.ofNat n1.1.1)) (ret (Sum.inr (Sum.inl (1,(d.1.1.1,d.2.1),n1.1.1,d.2.2)))) (ae (aX n2.2 n1.1.1) (opt (mQ (d.2.1 y0) (d.2.2 y0)) λaj=>ae (aj !=0) (ret (Sum.inr (Sum.inl (aj,(d.1.1.1,d.2.1),n1.1.1,d.2.2)))) (ret (Sum.inl ((d.1.1,n1.1,n1.2.1,n2.1,wI (n2.2+1)),d.2)))) no)) no) (ret (Sum.inr (Sum.inr ((d.1.1,n1.1,n1.2.1,n2.1,n2.2,y1),d.2))))
def oD:=bD (oC kr) 2000
def qy (dG:LT cw eU)(x0:Nat)(x1:Nat)(x2:Nat->Int)(x3:Nat->Int)(w0:Bool)(w1:Bool):Pg zG:=ae (Nat.beq x0 x0) (ae (Nat.beq x1 x1) (opt (dG (((x0,w0),(x1,w1),(x0,w0),Int.ofNat x0,0),x2,x3)) λx=>sum x (λd=>ret d.1) λd=>ae (decide (Int.ofNat d.1.1.1<Int.ofNat d.1.2.1.1)) (ret (-1)) (ret 0)) no) no
def fG:=λx0 x1 x2 x3 w0 w1=>(qy oD x0 x1 x2 x3 w0 w1).val
abbrev lC:=wG×(LT cw eU)
def qz (p:lC):KK:=⟨[DN p.1],⟨[⟨2,(rg 2 7 (rg 12 24 [])),[]⟩],[fx 2 2 cw xR p.2],[],[],(some ⟨0,(rg 0 4 (rg 5 31 [])),[]⟩)⟩,2,144⟩
theorem K9 (p:lC):LI (qz p) 2 cw xR (oC p.1):=λ_ d c K=>by kernel_rfl
theorem Ph (p:lC):D2 (qz p) zF (lf pd) λb=>qy p.2 b.1.1.1 b.1.2.1 b.2.1 b.b b.1.1.2 b.1.b:=λb=>by kernel_rfl
abbrev qA:lC:=(kr,oD)
theorem Pj [ax]:SC (zI fG):=sc (Sound.nil 1 [.i .i64]<|Sound.nil 0 [.i .i64]<|kS (k:=qz qA) (.c Pf (.nil _)) [2] [] ⟨kL (K9 qA),trivial⟩ trivial (Ph qA))
def BC:=qa (pl (c aGw Fu) nil)
def Ni:=qe Fq
abbrev ahi:=Ni.B
abbrev Hz:=BC.B->Option ahi
def Rk (g:Hz):Ct:=(96,FC BC (lf Ni) g)
def Rl (mQ:wG)(lD:zH)(x:BC.B):Pg ahi:=let n2:=x.2.2.2.2;let n1:=x.1.2.2.2;opt (mQ x.1.1 x.2.1) λd=>ae (d !=0) (ret d) (opt (lD 8 8 (cr x.1.2.1 [n1.2.2.2.2.2,n1.2.2.2.2.1,n1.2.2.2.1,n1.2.2.1,n1.2.1,n1.1,x.1.2.2.1,x.1.2.1]) (cr x.2.2.1 [n2.2.2.2.2.2,n2.2.2.2.2.1,n2.2.2.2.1,n2.2.2.1,n2.2.1,n2.1,x.2.2.2.1,x.2.2.1]) false false) λd=>ret d)
def rH:=λx=>(Rl kr fG x).val
theorem azN:∀mQ lD,D0 [DN mQ,zI lD] 96 BC (lf Ni) λb=>Rl mQ lD b:=λ_ _ b=>by kernel_rfl
theorem ahj [ax]:SC (Rk rH):=s0 (.c Pf (.c Pj (.nil _))) (azN kr fG)
def bQ:=qa (dp (c aRc (cl aGw (cu aLJ nil))) λv=>(cl (cl (gs v.1.1 aA) nil) nil))
def dx:=qe (res (pl aLQ (pu Xl nil)))
abbrev dz:=dx.B
abbrev gN:=bQ.B->Option dz
def gO (g:gN):Ct:=(95,sW 0 [.i .i64,.i .i64,.i .i64,.i .i64,.i .i64,.i .i64,.i .i64,.i .i64,.i .i64] (FC bQ (lf dx) g))
def aO:=qs (st (dp (c aRc (us 1 (cu aLJ (us 1 (cu aEV (us 3 (c ai (c ai (cl ai (us 29 aRp)))))))))) λv=>(pl (c (so (cl (gs v.1.1 aA) nil)) aSo) nil)))
def oo:=qs (st (pr (c aRc (us 1 (cu aLJ (us 1 (cu aEV (us 3 (c ai (c ai (c ai (us 4 (c ai (c ai (cl ab (us 22 aRp)))))))))))))) (pl (c Fv aSo) nil)))
abbrev bq:=(((Nat×Bool)×Int×Int×Int×Bool)×eD×Int×Int×Int×Int×Int×Int×Int×Int×Int)
def gB {ρ:Type}(x:bq)(K:AX->St->Option ρ):Option ρ:=(λd=>K (.ex 0) (oo.em ((d.1.1,d.1.2.1,d.1.b.1,d.1.b.2.1,d.1.b),(d.1.1.1,d.2.1),d.b))) x
def dq (BD:Hz)(d:aO.B):PL aO bq:=let n2:=d.1.2.2;let n1:=d.2.1.2.2.2;let y0:=wI (Int.fdiv (wU (wI (n2.1+n2.2))) 2);let y1:=Int.toNat y0;let y2:=decide (n2.1<n2.2);ae y2 (ae (aX y0 d.1.1.1) (opt (BD ((d.2.1.1 y1,d.2.1.2.1 y1,d.2.1.2.2.1 y1,n1.1 y1,n1.2.1 y1,n1.2.2.1 y1,n1.2.2.2.1 y1,n1.2.2.2.2.1 y1,n1.2.2.2.2.2 y1),d.2.2)) λaj=>ae (decide (aj<0)) (ret (Sum.inl ((d.1.1,d.1.2.1,wI (y0+1),n2.2),d.2))) (ret (Sum.inl ((d.1.1,d.1.2.1,n2.1,y0),d.2)))) no) (ret (Sum.inr ((d.1.1,d.1.2.1,n2.1,n2.2,y2),d.2)))
def dr:=bD (dq rH) 2000
def dA (BD:Hz)(dG:LT aO bq)(x:bQ.B):Pg dz:=let y0:=Int.ofNat x.1.1.1;ae (Nat.beq x.1.1.1 x.1.1.1) (opt (dG ((x.1.1,y0,0,y0),x.2,x.1.2)) λd=>let n2:=d.1.2.2.1;let n1:=d.2.1.2.2.2;let y0:=Int.toNat n2;ae (decide (n2<d.1.2.1)) (ae (aX n2 d.1.1.1) (opt (BD ((d.2.1.1 y0,d.2.1.2.1 y0,d.2.1.2.2.1 y0,n1.1 y0,n1.2.1 y0,n1.2.2.1 y0,n1.2.2.2.1 y0,n1.2.2.2.2.1 y0,n1.2.2.2.2.2 y0),d.2.2)) λaj=>ret (n2,aj==0)) no) (ret (n2,false))) no
def bR:=λx=>(dA rH dr x).val
abbrev cH:=Hz×(LT aO bq)
def dB (p:cH):KK:=⟨[Rk p.1],⟨[⟨3,(1::3::5::6::7::rg 11 29 [48]),[]⟩],[fx 3 1 aO gB p.2],[],[],(some ⟨0,(rg 0 6 (rg 8 41 [])),[]⟩)⟩,1,95⟩
theorem nQ (p:cH):LI (dB p) 3 aO gB (dq p.1):=λ_ d c K=>by kernel_rfl
theorem oQ (p:cH):D2 (dB p) bQ (lf dx) λb=>dA p.1 p.2 b:=λb=>by kernel_rfl
abbrev dC:cH:=(rH,dr)
theorem oR [ax]:SC (gO bR):=sc (Sound.nil 0 [.i .i64,.i .i64,.i .i64,.i .i64,.i .i64,.i .i64,.i .i64,.i .i64,.i .i64]<|kS (k:=dB dC) (.c ahj (.nil _)) [3] [] ⟨kL (nQ dC),trivial⟩ trivial (oQ dC))
def pe:=qa (pr (cu To Fu) (cd ac9 λb0=>(cl (cl (gs b0.b.1 aA) nil) nil)))
def LW:=qe (res (pu tN (pl (cl (zM ac9) Xl) nil)))
def ahR:=qe (res (pr ab (pr (cl (zM (a 5 ix (c gi (c (gc (wY 2 9)) kF)))) aIP) (cl Y2 nil))))
abbrev um:=LW.B⊕(Bool×cz×NI×NI×NI×NI×NI×NI×NI×NI×NI)
def V8:um->T:=ls (lf LW) (λd=>lf ahR (d.1,d.2.1,d.2.1.b.1,d.b))
abbrev Ih:=pe.B->Option um
def V9 (g:Ih):Ct:=(58,FC pe V8 g)
def AH (cI:gN)(gy:p6)(cE:gf)(x:pe.B):Pg um:=let bh:=x.2.2;let n5:=x.1.2;let n4:=bh.2.2.2;let n3:=x.2.1;let n9:=n3.1.2;let n7:=n3.2.2;let n1:=n5.2.2.2;let n6:=n1.2.2;let y0:=wI (n3.1.1+1);let y1:=Nat.beq n7.1 n7.1;ae (decide (x.1.1<=n7.2)) (ret (Sum.inl ((y0,wI (n9.1+1),n9.2),n3.2))) (ae y1 (opt (cI (((n7.1,true),x.1),bh)) λd=>ae y1 (opt (gy n7.1 d.1 bh.1 bh.2.1 bh.2.2.1 n4.1 n4.2.1 n4.2.2.1 n4.2.2.2.1 n4.2.2.2.2.1 n4.2.2.2.2.2 (λj=>bif Nat.beq j 0 then x.1.1 else x.1.1) (λj=>bif Nat.beq j 0 then n5.1 else n5.1) (λj=>bif Nat.beq j 0 then n5.2.1 else n5.2.1) (λj=>bif Nat.beq j 0 then n5.2.2.1 else n5.2.2.1) (λj=>bif Nat.beq j 0 then n1.1 else n1.1) (λj=>bif Nat.beq j 0 then n1.2.1 else n1.2.1) (λj=>bif Nat.beq j 0 then n6.1 else n6.1) (λj=>bif Nat.beq j 0 then n6.2.1 else n6.2.1) (λj=>bif Nat.beq j 0 then n6.2.2 else n6.2.2) 1 true true) λd=>let n8:=d.2.2;let n2:=n8.2.2.2;let aY:=n2.2.2;ae (decide (Int.ofNat d.1<=n3.2.1)) (ret (Sum.inr (true,((y0,n9),n3.2.1,d.1,n7.2),d.2))) (ae (aX 0 d.1) (ae (Nat.beq d.1 d.1) (opt (cE d.1 0 1 d.2.1 n8.1 n8.2.1 n8.2.2.1 n2.1 n2.2.1 aY.1 aY.2.1 aY.2.2 true) λaj=>ret (Sum.inr (!(d.2.1 0==x.1.1&&(n8.1 0==n5.1&&(n8.2.1 0==n5.2.1&&(n8.2.2.1 0==n5.2.2.1&&(n2.1 0==n1.1&&(n2.2.1 0==n1.2.1&&(aY.1 0==n6.1&&(aY.2.1 0==n6.2.1&&(aY.2.2 0==n6.2.2&&true)))))))&&true)),((y0,n9.1,wI (n9.2.1+1),n9.2.2),n3.2.1,aj.1,n7.2),aj.2))) no) no)) no) no)
def mD:=λx=>(AH bR eu cC x).val
theorem aqC:∀cI BD gy cE,D0 [gO cI,Rk BD,p7 gy,j6 cE] 58 pe V8 λb=>AH cI gy cE b:=λ_ _ _ _ b=>by kernel_rfl
theorem aqD [ax]:SC (V9 mD):=s0 (.c oR (.c ahj (.c De (.c p9 (.nil _))))) (aqC bR rH eu cC)
def uo:=qa (pr (cu To fT) (cd ac9 λb0=>(cl (cl (gs b0.b.1 aA) nil) nil)))
def amO:=qe (res (pr (ac (wY 2 9)) (pr (cl (zM (a 5 ix (c gi (c (gc (wY 3 9)) kF)))) aIP) (c Y2 (cl Y2 nil)))))
abbrev AI:=(Nat×cz×eD×NI×NI×NI×NI×NI×NI×NI×NI×NI)
def Wa:AI->T:=λd=>lf amO (d.1,d.2.1,(d.1,d.b.1),d.2.1.b.1,d.b.2)
abbrev Ii:=uo.B->Option AI
def Wb (g:Ii):Ct:=(108,FC uo Wa g)
def fA:=qs (st (pr (cu To (c ai (us 3 (cl ai (us 58 nil))))) (pl (cd (so ac9) λb0=>(cl (so (cl (gs b0.b.1 aA) nil)) nil)) nil)))
def afp:=qs (st (pr (cu To (c ai (us 3 (c ai (us 1 (c ai (cu To (cu To (cu aL1 (c aRd (c ai (c ab (cu PZ (cu To (cu To (cu aL1 (c aRd (c ai (c (ac (LD (pu B8 (pl aRO fO)))) (c (ac (LD (pu B8 (pl aRO B8)))) (c ai (c ai (c ab aRm))))))))))))))))))))))) (pl (c (so ac9) (cl Fv nil)) nil)))
def afq:=qs (st (pr (cu To (c ai (us 3 (c ai (us 1 (c ai (cu To (cu To (cu aL1 (c aRd (c ai (cl ab (cu tN (xs 10 (cu tN (us 38 nil)))))))))))))))) (pl (c (so ac9) (cl Fv nil)) nil)))
abbrev mR:=((Int×Int×Nat×Int×Bool×Nat×Int×Bool)×(aQ3×Int×Int)×NI×NI×NI×NI×NI×NI×NI×NI×NI)⊕((Int×Int×Nat×Int×Bool)×(aQ3×Int×Int)×NI×NI×NI×NI×NI×NI×NI×NI×NI)
def Pk {ρ:Type}(x:mR)(K:AX->St->Option ρ):Option ρ:=(Sum.elim (λd=>K (.ex 0) (afp.em ((d.1.1,d.1.2.1,d.1.2.1,d.1.b.1,d.1.b.2.1,d.1.c.1,d.1.b.1,d.1.2.1,d.1.c.2.1,d.1.c.2.1,d.1.c.b.1,d.1.1,d.1.c.b.2,d.1.c.b.2),(d.2.1.1,d.2.1.2.1,d.1.b.1,d.2.1.b),d.1.b.1,d.b))) (λd=>K (.ex 0) (afq.em ((d.1.1,d.1.2.1,d.1.2),(d.2.1.1,d.2.1.2.1,d.1.b.1,d.2.1.b),d.1.b.1,d.b)))) x
def DP (d:fA.B):PL fA mR:=let n3:=d.1.2;let n2:=d.2.1.2.2;let n1:=(d.2.1.1,d.2.1.2.1,n2.2);let y0:=Int.toNat n3;let y1:=Int.ofNat n2.1;let y2:=decide (n3<y1);let y3:=decide (d.2.2.1 y0<=d.1.1);ae y2 (ae (aX n3 n2.1) (ae y3 (ret (Sum.inl ((d.1.1,wI (n3+1)),d.2))) (ret (Sum.inr (Sum.inl ((d.1.1,n3,n2.1,y1,y2,y0,d.2.2.1 y0,y3),n1,d.2.2))))) no) (ret (Sum.inr (Sum.inr ((d.1.1,n3,n2.1,y1,y2),n1,d.2.2))))
def DQ:=bD (DP) 2000
def Ij (rm:kH)(cE:gf)(dG:LT fA mR)(x:uo.B):Pg AI:=ae (Nat.beq x.2.1.2.2.1 x.2.1.2.2.1) (opt (dG ((x.1,0),x.2)) λx=>sum x (λd=>let n9:=d.2.2;let n6:=d.2.1;let n5:=d.1.2;let n1:=n9.2.2.2;let n3:=n1.2.2.2;let y0:=Int.toNat n5.1;ae (IF n5.1 n5.2.1) (ae (Nat.beq y0 y0) (opt (rm y0 n9.1 n9.2.1 n9.2.2.1 n1.1 n1.2.1 n1.2.2.1 n3.1 n3.2.1 n3.2.2 false) λaj=>ae (Nat.beq n5.2.1 n5.2.1) (opt (cE n5.2.1 0 n5.1 n9.1 n9.2.1 n9.2.2.1 n1.1 n1.2.1 n1.2.2.1 n3.1 n3.2.1 n3.2.2 true) λaI=>ret (aj.1,((n6.1.1,n6.1.2.1,n6.1.2.2.1,n6.1.2.2.2.1,wI (n6.1.2.2.2.2+n5.1)),n6.2.1,aI.1,if d.1.1>n6.2.2 then d.1.1 else n6.2.2),aj.2,aI.2)) no) no) no) λd=>let aY:=d.2.2;let n8:=d.2.1;let n7:=d.1.2;let n2:=aY.2.2.2;let n4:=n2.2.2.2;let y0:=Int.toNat n7.1;ae (IF n7.1 n7.2.1) (ae (Nat.beq y0 y0) (opt (rm y0 aY.1 aY.2.1 aY.2.2.1 n2.1 n2.2.1 n2.2.2.1 n4.1 n4.2.1 n4.2.2 false) λaj=>ae (Nat.beq n7.2.1 n7.2.1) (opt (cE n7.2.1 0 n7.1 aY.1 aY.2.1 aY.2.2.1 n2.1 n2.2.1 n2.2.2.1 n4.1 n4.2.1 n4.2.2 true) λaI=>ret (aj.1,((n8.1.1,n8.1.2.1,n8.1.2.2.1,n8.1.2.2.2.1,wI (n8.1.2.2.2.2+n7.1)),n8.2.1,aI.1,if d.1.1>n8.2.2 then d.1.1 else n8.2.2),aj.2,aI.2)) no) no) no) no
def uq:=λx=>(Ij eH cC DQ x).val
abbrev AJ:=kH×gf×(LT fA mR)
def Ik (p:AJ):KK:=⟨[qV p.1,j6 p.2.1],⟨[⟨2,(2::3::4::rg 6 9 (rg 25 39 (rg 15 10 []))),[]⟩],[fx 2 2 fA Pk p.b],[],[],(some ⟨0,(rg 0 4 (rg 5 59 [])),[]⟩)⟩,2,108⟩
theorem ahS (p:AJ):LI (Ik p) 2 fA Pk (DP):=λ_ d c K=>by kernel_rfl
theorem aqE (p:AJ):D2 (Ik p) uo Wa λb=>Ij p.1 p.2.1 p.b b:=λb=>by kernel_rfl
abbrev Il:AJ:=(eH,cC,DQ)
theorem aqF [ax]:SC (Wb uq):=sc (kS (k:=Ik Il) (.c Ev (.c p9 (.nil _))) [2] [] ⟨kL (ahS Il),trivial⟩ trivial (aqE Il))
def K':=qa (pr (cl (aa (c gi aAB)) (cu aP (cu Oy (cu (app 2 1) nil)))) (cu (cu (gc (ccl (pu (nat 194) (pu rq7 (pu yg B8))))) nil) (c kF (c kF (cu (cu (gp 4 1) nil) bA)))))
def yX:=qe (res (pr ai (pl (cu eW (cu eW aLW)) nil)))
abbrev La:=yX.B
abbrev Lb:=Int->Int->Int->Int->Int->Int->Int->Int->Int->Bool->Option La
def Lc (g:Lb):Ct:=(195,FC K' (lf yX) (λb=>g b.1.1 b.1.2.1 b.1.b.1 b.1.b.2.1 b.1.c.1 b.1.c.2.1 b.1.c.b b.2.1 b.b.1 b.b.2))
def AK (ao:zR)(x0:Int)(x1:Int)(x2:Int)(x3:Int)(x4:Int)(x5:Int)(x6:Int)(x7:Int)(x8:Int)(x9:Bool):Pg La:=let y0:=wI (x7+1);let y1:=wI (x0*1073741824);let y2:=wI (x5*1073741824);let y3:=wI (x4*1073741824);let y4:=wI (x6*1073741824);let y5:=wI (x2*1073741824);let y6:=wI (x1*1073741824);let y7:=wI (x3*1073741824);let y8:=aX y0 7;let y9:=y0==1;let uS:=y0==4;let uU:=y0==6;let xU:=y0==2;let xV:=y0==3;let xW:=y0==5;ae (aX x7 7) (ae (x7==6) (ae y8 (ae uU (opt (ao y4 y4 x8 600000000 x9) λd=>ret d) (ae xW (opt (ao y4 y2 x8 600000000 x9) λd=>ret d) (ae uS (opt (ao y4 y3 x8 600000000 x9) λd=>ret d) (ae xV (opt (ao y4 y7 x8 600000000 x9) λd=>ret d) (ae xU (opt (ao y4 y5 x8 600000000 x9) λd=>ret d) (ae y9 (opt (ao y4 y6 x8 600000000 x9) λd=>ret d) (opt (ao y4 y1 x8 600000000 x9) λd=>ret d))))))) no) (ae (x7==5) (ae y8 (ae uU (opt (ao y2 y4 x8 600000000 x9) λd=>ret d) (ae xW (opt (ao y2 y2 x8 600000000 x9) λd=>ret d) (ae uS (opt (ao y2 y3 x8 600000000 x9) λd=>ret d) (ae xV (opt (ao y2 y7 x8 600000000 x9) λd=>ret d) (ae xU (opt (ao y2 y5 x8 600000000 x9) λd=>ret d) (ae y9 (opt (ao y2 y6 x8 600000000 x9) λd=>ret d) (opt (ao y2 y1 x8 600000000 x9) λd=>ret d))))))) no) (ae (x7==4) (ae y8 (ae uU (opt (ao y3 y4 x8 600000000 x9) λd=>ret d) (ae xW (opt (ao y3 y2 x8 600000000 x9) λd=>ret d) (ae uS (opt (ao y3 y3 x8 600000000 x9) λd=>ret d) (ae xV (opt (ao y3 y7 x8 600000000 x9) λd=>ret d) (ae xU (opt (ao y3 y5 x8 600000000 x9) λd=>ret d) (ae y9 (opt (ao y3 y6 x8 600000000 x9) λd=>ret d) (opt (ao y3 y1 x8 600000000 x9) λd=>ret d))))))) no) (ae (x7==3) (ae y8 (ae uU (opt (ao y7 y4 x8 600000000 x9) λd=>ret d) (ae xW (opt (ao y7 y2 x8 600000000 x9) λd=>ret d) (ae uS (opt (ao y7 y3 x8 600000000 x9) λd=>ret d) (ae xV (opt (ao y7 y7 x8 600000000 x9) λd=>ret d) (ae xU (opt (ao y7 y5 x8 600000000 x9) λd=>ret d) (ae y9 (opt (ao y7 y6 x8 600000000 x9) λd=>ret d) (opt (ao y7 y1 x8 600000000 x9) λd=>ret d))))))) no) (ae (x7==2) (ae y8 (ae uU (opt (ao y5 y4 x8 600000000 x9) λd=>ret d) (ae xW (opt (ao y5 y2 x8 600000000 x9) λd=>ret d) (ae uS (opt (ao y5 y3 x8 600000000 x9) λd=>ret d) (ae xV (opt (ao y5 y7 x8 600000000 x9) λd=>ret d) (ae xU (opt (ao y5 y5 x8 600000000 x9) λd=>ret d) (ae y9 (opt (ao y5 y6 x8 600000000 x9) λd=>ret d) (opt (ao y5 y1 x8 600000000 x9) λd=>ret d))))))) no) (ae (x7==1) (ae y8 (ae uU (opt (ao y6 y4 x8 600000000 x9) λd=>ret d) (ae xW (opt (ao y6 y2 x8 600000000 x9) λd=>ret d) (ae uS (opt (ao y6 y3 x8 600000000 x9) λd=>ret d) (ae xV (opt (ao y6 y7 x8 600000000 x9) λd=>ret d) (ae xU (opt (ao y6 y5 x8 600000000 x9) λd=>ret d) (ae y9 (opt (ao y6 y6 x8 600000000 x9) λd=>ret d) (opt (ao y6 y1 x8 600000000 x9) λd=>ret d))))))) no) (ae y8 (ae uU (opt (ao y1 y4 x8 600000000 x9) λd=>ret d) (ae xW (opt (ao y1 y2 x8 600000000 x9) λd=>ret d) (ae uS (opt (ao y1 y3 x8 600000000 x9) λd=>ret d) (ae xV (opt (ao y1 y7 x8 600000000 x9) λd=>ret d) (ae xU (opt (ao y1 y5 x8 600000000 x9) λd=>ret d) (ae y9 (opt (ao y1 y6 x8 600000000 x9) λd=>ret d) (opt (ao y1 y1 x8 600000000 x9) λd=>ret d))))))) no))))))) no
def nR:=λx0 x1 x2 x3 x4 x5 x6 x7 x8 x9=>(AK iJ x0 x1 x2 x3 x4 x5 x6 x7 x8 x9).val
theorem afr:∀ao,D0 [zT ao] 195 K' (lf yX) λb=>AK ao b.1.1 b.1.2.1 b.1.b.1 b.1.b.2.1 b.1.c.1 b.1.c.2.1 b.1.c.b b.2.1 b.b.1 b.b.2:=λ_ b=>by kernel_rfl
theorem afs [ax]:SC (Lc nR):=s0 (.c JX (.nil _)) (afr iJ)
def R4:=qa (pu nil nil)
def DR:=qe (res (pu (aa (cu aRC (cu (gc (cf (fi .i64 (int 6000)))) (cu (gc (cf (fi .i64 (int (-2000))))) (cu (gc (cf (fi .i64 (int (-1500))))) (cu (gc (cf (fi .i64 (int (-6000))))) (cu (gc (cf (fi .i64 (int (-9000))))) (cu aRC (cu aRD (cu (gc (cf (fi .i64 (int 2500)))) (cu aGl (cu (gc (cf (fi .i64 (int (-2200))))) (cu (gc (cf (fi .i64 (int (-3800))))) (cu aS (cu aRD (cu aRE (cu (gc (cf (fi .i64 (int 900)))) (cu (gc (cf (fi .i64 (int (-1400))))) (cu (gc (cf (fi .i64 (int (-500))))) (cu (gc (cf (fi .i64 (int (-300))))) (cu aRF (cu aRE (cu aGl (cu (gc (cf (fi .i64 (int 1500)))) (cu (gc (cf (fi .i64 (int (-1700))))) (cu aRF (cu (gc (cf (fi .i64 (int 700)))) (cu (gc (cf (fi .i64 (int (-800))))) (cu aGl (cu aRG (cu (gc (cf (fi .i64 (int 4000)))) (cu (gc (cf (fi .i64 (int (-3000))))) (cu aGl (cu (gc (cf (fi .i64 (int 3500)))) (cu (gc (cf (fi .i64 (int (-1200))))) (cu aRG nil)))))))))))))))))))))))))))))))))))) (pu nil nil)))
abbrev FR:=DR.B
abbrev FT:=Option FR
def FU (g:FT):Ct:=(193,FC R4 (lf DR) (λ_=>g))
def FW:Pg FR:=ret ()
def lx:Option FR:=(FW).val
theorem amP:D0 [] 193 R4 (lf DR) λb=>FW:=λb=>by kernel_rfl
theorem R5 [ax]:SC (FU lx):=s0 (.nil _) amP
def Pm:=qa (pr (cu aP Ft) bA)
def Cn:=qe aMe
abbrev Pn:=Cn.B
abbrev Po:=Int->Int->Int->Bool->Option Pn
def Pp (g:Po):Ct:=(120,FC Pm (lf Cn) (λb=>g b.1.1 b.1.2.1 b.1.b b.2))
def DS (cy:tg)(gT:FT)(ao:zR)(aL:Lb)(aq:bX)(x0:Int)(x1:Int)(x2:Int)(x3:Bool):Pg Pn:=let y0:=wI (x0+900000000);let y1:=wI (x1+1800000000);let y2:=wI (Int.tdiv y0 450000000);let y3:=wI (Int.tdiv y1 600000000);let y4:=if 3<y2 then 3 else y2;let y5:=if 5<y3 then 5 else y3;let y6:=wI (y4+1);let y7:=wI (y1-wI (y5*600000000));opt (cy x0 x1 x2) λd=>ae (!d) (ret ((0,1),x3)) (opt gT λd=>ae (aX y4 5) (ae (y4==4) (opt (aL 1000 4000 (-3000) 500 3500 (-1200) 1000 y5 y7 x3) λd=>ae (aX y6 5) (ae (y6==4) (opt (aL 1000 4000 (-3000) 500 3500 (-1200) 1000 y5 y7 d.2) λaj=>opt (ao d.1 aj.1 (wI (y0-wI (y4*450000000))) 450000000 aj.2) λd=>opt (aq d.1 3373259426 19327352832000 d.2) λd=>ret ((d.1,0),d.2)) (ae (y6==3) (opt (aL 500 1500 (-1700) 100 700 (-800) 500 y5 y7 d.2) λaj=>opt (ao d.1 aj.1 (wI (y0-wI (y4*450000000))) 450000000 aj.2) λd=>opt (aq d.1 3373259426 19327352832000 d.2) λd=>ret ((d.1,0),d.2)) (ae (y6==2) (opt (aL 950 900 (-1400) (-500) (-300) 100 950 y5 y7 d.2) λaj=>opt (ao d.1 aj.1 (wI (y0-wI (y4*450000000))) 450000000 aj.2) λd=>opt (aq d.1 3373259426 19327352832000 d.2) λd=>ret ((d.1,0),d.2)) (ae (y6==1) (opt (aL 2200 2500 500 (-2200) (-3800) 0 2200 y5 y7 d.2) λaj=>opt (ao d.1 aj.1 (wI (y0-wI (y4*450000000))) 450000000 aj.2) λd=>opt (aq d.1 3373259426 19327352832000 d.2) λd=>ret ((d.1,0),d.2)) (opt (aL 3000 6000 (-2000) (-1500) (-6000) (-9000) 3000 y5 y7 d.2) λaj=>opt (ao d.1 aj.1 (wI (y0-wI (y4*450000000))) 450000000 aj.2) λd=>opt (aq d.1 3373259426 19327352832000 d.2) λd=>ret ((d.1,0),d.2)))))) no) (ae (y4==3) (opt (aL 500 1500 (-1700) 100 700 (-800) 500 y5 y7 x3) λd=>ae (aX y6 5) (ae (y6==4) (opt (aL 1000 4000 (-3000) 500 3500 (-1200) 1000 y5 y7 d.2) λaj=>opt (ao d.1 aj.1 (wI (y0-wI (y4*450000000))) 450000000 aj.2) λd=>opt (aq d.1 3373259426 19327352832000 d.2) λd=>ret ((d.1,0),d.2)) (ae (y6==3) (opt (aL 500 1500 (-1700) 100 700 (-800) 500 y5 y7 d.2) λaj=>opt (ao d.1 aj.1 (wI (y0-wI (y4*450000000))) 450000000 aj.2) λd=>opt (aq d.1 3373259426 19327352832000 d.2) λd=>ret ((d.1,0),d.2)) (ae (y6==2) (opt (aL 950 900 (-1400) (-500) (-300) 100 950 y5 y7 d.2) λaj=>opt (ao d.1 aj.1 (wI (y0-wI (y4*450000000))) 450000000 aj.2) λd=>opt (aq d.1 3373259426 19327352832000 d.2) λd=>ret ((d.1,0),d.2)) (ae (y6==1) (opt (aL 2200 2500 500 (-2200) (-3800) 0 2200 y5 y7 d.2) λaj=>opt (ao d.1 aj.1 (wI (y0-wI (y4*450000000))) 450000000 aj.2) λd=>opt (aq d.1 3373259426 19327352832000 d.2) λd=>ret ((d.1,0),d.2)) (opt (aL 3000 6000 (-2000) (-1500) (-6000) (-9000) 3000 y5 y7 d.2) λaj=>opt (ao d.1 aj.1 (wI (y0-wI (y4*450000000))) 450000000 aj.2) λd=>opt (aq d.1 3373259426 19327352832000 d.2) λd=>ret ((d.1,0),d.2)))))) no) (ae (y4==2) (opt (aL 950 900 (-1400) (-500) (-300) 100 950 y5 y7 x3) λd=>ae (aX y6 5) (ae (y6==4) (opt (aL 1000 4000 (-3000) 500 3500 (-1200) 1000 y5 y7 d.2) λaj=>opt (ao d.1 aj.1 (wI (y0-wI (y4*450000000))) 450000000 aj.2) λd=>opt (aq d.1 3373259426 19327352832000 d.2) λd=>ret ((d.1,0),d.2)) (ae (y6==3) (opt (aL 500 1500 (-1700) 100 700 (-800) 500 y5 y7 d.2) λaj=>opt (ao d.1 aj.1 (wI (y0-wI (y4*450000000))) 450000000 aj.2) λd=>opt (aq d.1 3373259426 19327352832000 d.2) λd=>ret ((d.1,0),d.2)) (ae (y6==2) (opt (aL 950 900 (-1400) (-500) (-300) 100 950 y5 y7 d.2) λaj=>opt (ao d.1 aj.1 (wI (y0-wI (y4*450000000))) 450000000 aj.2) λd=>opt (aq d.1 3373259426 19327352832000 d.2) λd=>ret ((d.1,0),d.2)) (ae (y6==1) (opt (aL 2200 2500 500 (-2200) (-3800) 0 2200 y5 y7 d.2) λaj=>opt (ao d.1 aj.1 (wI (y0-wI (y4*450000000))) 450000000 aj.2) λd=>opt (aq d.1 3373259426 19327352832000 d.2) λd=>ret ((d.1,0),d.2)) (opt (aL 3000 6000 (-2000) (-1500) (-6000) (-9000) 3000 y5 y7 d.2) λaj=>opt (ao d.1 aj.1 (wI (y0-wI (y4*450000000))) 450000000 aj.2) λd=>opt (aq d.1 3373259426 19327352832000 d.2) λd=>ret ((d.1,0),d.2)))))) no) (ae (y4==1) (opt (aL 2200 2500 500 (-2200) (-3800) 0 2200 y5 y7 x3) λd=>ae (aX y6 5) (ae (y6==4) (opt (aL 1000 4000 (-3000) 500 3500 (-1200) 1000 y5 y7 d.2) λaj=>opt (ao d.1 aj.1 (wI (y0-wI (y4*450000000))) 450000000 aj.2) λd=>opt (aq d.1 3373259426 19327352832000 d.2) λd=>ret ((d.1,0),d.2)) (ae (y6==3) (opt (aL 500 1500 (-1700) 100 700 (-800) 500 y5 y7 d.2) λaj=>opt (ao d.1 aj.1 (wI (y0-wI (y4*450000000))) 450000000 aj.2) λd=>opt (aq d.1 3373259426 19327352832000 d.2) λd=>ret ((d.1,0),d.2)) (ae (y6==2) (opt (aL 950 900 (-1400) (-500) (-300) 100 950 y5 y7 d.2) λaj=>opt (ao d.1 aj.1 (wI (y0-wI (y4*450000000))) 450000000 aj.2) λd=>opt (aq d.1 3373259426 19327352832000 d.2) λd=>ret ((d.1,0),d.2)) (ae (y6==1) (opt (aL 2200 2500 500 (-2200) (-3800) 0 2200 y5 y7 d.2) λaj=>opt (ao d.1 aj.1 (wI (y0-wI (y4*450000000))) 450000000 aj.2) λd=>opt (aq d.1 3373259426 19327352832000 d.2) λd=>ret ((d.1,0),d.2)) (opt (aL 3000 6000 (-2000) (-1500) (-6000) (-9000) 3000 y5 y7 d.2) λaj=>opt (ao d.1 aj.1 (wI (y0-wI (y4*450000000))) 450000000 aj.2) λd=>opt (aq d.1 3373259426 19327352832000 d.2) λd=>ret ((d.1,0),d.2)))))) no) (opt (aL 3000 6000 (-2000) (-1500) (-6000) (-9000) 3000 y5 y7 x3) λd=>ae (aX y6 5) (ae (y6==4) (opt (aL 1000 4000 (-3000) 500 3500 (-1200) 1000 y5 y7 d.2) λaj=>opt (ao d.1 aj.1 (wI (y0-wI (y4*450000000))) 450000000 aj.2) λd=>opt (aq d.1 3373259426 19327352832000 d.2) λd=>ret ((d.1,0),d.2)) (ae (y6==3) (opt (aL 500 1500 (-1700) 100 700 (-800) 500 y5 y7 d.2) λaj=>opt (ao d.1 aj.1 (wI (y0-wI (y4*450000000))) 450000000 aj.2) λd=>opt (aq d.1 3373259426 19327352832000 d.2) λd=>ret ((d.1,0),d.2)) (ae (y6==2) (opt (aL 950 900 (-1400) (-500) (-300) 100 950 y5 y7 d.2) λaj=>opt (ao d.1 aj.1 (wI (y0-wI (y4*450000000))) 450000000 aj.2) λd=>opt (aq d.1 3373259426 19327352832000 d.2) λd=>ret ((d.1,0),d.2)) (ae (y6==1) (opt (aL 2200 2500 500 (-2200) (-3800) 0 2200 y5 y7 d.2) λaj=>opt (ao d.1 aj.1 (wI (y0-wI (y4*450000000))) 450000000 aj.2) λd=>opt (aq d.1 3373259426 19327352832000 d.2) λd=>ret ((d.1,0),d.2)) (opt (aL 3000 6000 (-2000) (-1500) (-6000) (-9000) 3000 y5 y7 d.2) λaj=>opt (ao d.1 aj.1 (wI (y0-wI (y4*450000000))) 450000000 aj.2) λd=>opt (aq d.1 3373259426 19327352832000 d.2) λd=>ret ((d.1,0),d.2)))))) no))))) no)
def qB:=λx0 x1 x2 x3=>(DS fN lx iJ nR aT x0 x1 x2 x3).val
theorem alo:∀cy gT ao aL aq,D1 [xo cy,FU gT,zT ao,Lc aL,cU aq] [0] 120 Pm (lf Cn) λb=>DS cy gT ao aL aq b.1.1 b.1.2.1 b.1.b b.2:=λ_ _ _ _ _ b=>by kernel_rfl
theorem alp [ax]:SC (Pp qB):=s0 (.c B3 (.c R5 (.c JX (.c afs (.c c8 (.nil _)))))) (alo fN lx iJ nR aT)
def aFK:=qa (pl fT nil)
def aqG:=qe B9
abbrev aFL:=aqG.B
abbrev acm:=Int->Option aFL
def amh (g:acm):Ct:=(55,FC aFK (lf aqG) (λb=>g b))
def ami (x0:Int):Pg aFL:=ae (decide (x0>=0)) (ret (decide (x0<6))) (ret false)
def yY:=λx0=>(ami x0).val
theorem aQq:D0 [] 55 aFK (lf aqG) λb=>ami b:=λb=>by kernel_rfl
theorem av3 [ax]:SC (amh yY):=s0 (.nil _) aQq
def ahk:=qa (pl aGz nil)
def Nj:=qe B9
abbrev ahl:=Nj.B
abbrev Rm:=Int->Int->Int->Int->Int->Int->Int->Int->Int->Int->Option ahl
def ahm (g:Rm):Ct:=(56,FC ahk (lf Nj) (λb=>g b.1 b.2.1 b.b.1 b.b.2.1 b.c.1 b.c.2.1 b.c.b.1 b.c.b.2.1 b.d.1 b.d.2))
def Rn (sH:ae0)(iS:H9)(gU:FL)(lE:Yt)(wH:akX)(sI:afc)(x0:Int)(x1:Int)(x2:Int)(x3:Int)(x4:Int)(x5:Int)(x6:Int)(x7:Int)(x8:Int)(x9:Int):Pg ahl:=ae (x0==0) (opt (sH x1 x2 x3 x4 x5 x6 x7 x8 x9 false) λd=>ret (d.1.2==0)) (ae (x0==1) (opt (iS x1 x2 x3 x4 x5 x6 x7 x8 x9 false) λd=>ret (d.1.2==0)) (ae (x0==2) (opt (gU x1 x2 x3 x4 x5 x6 x7 x8 x9 false) λd=>ret (d.1.2==0)) (ae (x0==3) (opt (lE x1 x2 x3 x4 x5 x6 x7 x8 x9 false) λd=>ret (d.1.2==0)) (ae (x0==4) (opt (wH x1 x2 x3 x4 x5 x6 x7 x8 x9 false) λd=>ret (d.1.2==0)) (ae (x0==5) (opt (sI x1 x2 x3 x4 x5 x6 x7 x8 x9 false) λd=>ret (d.1.2==0)) (ret true))))))
def BE:=λx0 x1 x2 x3 x4 x5 x6 x7 x8 x9=>(Rn Aw mC lu wA DA Az x0 x1 x2 x3 x4 x5 x6 x7 x8 x9).val
theorem azO:∀sH iS gU lE wH sI,D0 [ae1 sH,H' iS,FM gU,Yu lE,akY wH,afd sI] 56 ahk (lf Nj) λb=>Rn sH iS gU lE wH sI b.1 b.2.1 b.b.1 b.b.2.1 b.c.1 b.c.2.1 b.c.b.1 b.c.b.2.1 b.d.1 b.d.2:=λ_ _ _ _ _ _ b=>by kernel_rfl
theorem azP [ax]:SC (ahm BE):=s0 (.c ato (.c VK (.c RU (.c akN (.c ayp (.c atE (.nil _))))))) (azO Aw mC lu wA DA Az)
def ur:=qa (dp (cu ep (c ai aGe)) λv=>(cd aAL λb0=>(c (cl (gs v.2.1 apx) nil) (c jY (c lr (c (cl (gs b0.c.1 lq) nil) (cd nh λb5=>(cd ni λb6=>(cd nj λb7=>(cd nk λb8=>(cd nm λb9=>(cd (a 5 ix (c gi (c (gc (wY 19 9)) kF))) λb10=>(c kG (cd (c gi (c gi (cl (gc (wY 20 11)) nil))) λb12=>(c (cl (gs b0.e jq) nil) (c (cl (gs b5.b.1 aA) nil) (c (cl (gs b6.b.1 aA) nil) (c (cl (gs b7.b.1 aA) nil) (c (cl (gs b8.b.1 aA) nil) (c (cl (gs b9.b.1 aA) nil) (c (cl (gs b10.b.1 aA) nil) (cl (cl (gs b12.b fX) nil) nil))))))))))))))))))))))
def FX:=qe (res (pu Tl (pl (cu eW aMH) nil)))
abbrev Wc:=FX.B
abbrev AL:=ur.B->Option Wc
def AM (g:AL):Ct:=(232,sW 2 [.b,.i .i64,.i .i64] (FC ur (lf FX) g))
def Im (pQ:GF)(x:ur.B):Pg Wc:=let n1:=x.2.2.2.2.2.2.2.2.2.2.2.2.1;let n2:=n1.1.2.2;ae (Nat.beq x.1.2.1 x.1.2.1) (opt (pQ x.1.1 x.2.1.2.2.2.2.2.2.2.2.2.2.2.2.2.1 x.1.2.1 n1.1.1 n1.1.2.1 n2.1 n2.2.1 n2.2.2.1 n2.2.2.2 n1.2 x.2.2.1.1 x.2.2.1.2.1 x.2.2.1.2.2 (x.1.2.2&&true)) λd=>ret d) no
def iT:=λx=>(Im lT x).val
theorem aqH:∀pQ,D0 [GG pQ] 232 ur (lf FX) λb=>Im pQ b:=λ_ b=>by kernel_rfl
theorem Io [ax]:SC (AM iT):=sc (Sound.nil 2 [.b,.i .i64,.i .i64]<|k0 (.c aaB (.nil _)) (aqH lT))
def rP:=qa (pr (cu ep fT) (cd oA λb0=>(c jY (c lr (c (cl (gs b0.c.1 lq) nil) (cd oT λb4=>(cd nh λb5=>(cd ni λb6=>(cd nj λb7=>(cd nk λb8=>(cd nm λb9=>(c kG (cd pX λrI=>(c (cl (gs b0.e jq) nil) (c (cl (gs b4.b.1 aA) nil) (c (cl (gs b5.b.1 aA) nil) (c (cl (gs b6.b.1 aA) nil) (c (cl (gs b7.b.1 aA) nil) (c (cl (gs b8.b.1 aA) nil) (c (cl (gs b9.b.1 aA) nil) (cl (cl (gs rI.b fX) nil) nil)))))))))))))))))))))
def DT:=qe aST
abbrev R6:=DT.B
abbrev xX:=rP.B->Option R6
def xY (g:xX):Ct:=(223,FC rP (lf DT) g)
def FY (dn:AL)(x:rP.B):Pg R6:=let n5:=x.2.2.2.2.2;let n2:=x.2.1.2.2.2.2;let n4:=n2.2.2.2.2.2.2.2.2.2.2.2.2;let n1:=n5.2;let n3:=n1.2.2.2;ae (Nat.beq n2.1 n2.1) (ae (Nat.beq n4 n4) (ae (Nat.beq n5.1.2.2.1 n5.1.2.2.1) (ae (Nat.beq n1.1.2.2.1 n1.1.2.2.1) (ae (Nat.beq n1.2.1.2.2.1 n1.2.1.2.2.1) (ae (Nat.beq n1.2.2.1.2.2.1 n1.2.2.1.2.2.1) (ae (Nat.beq n3.1.2.2.1 n3.1.2.2.1) (ae (Nat.beq n3.2.1.2.2.1 n3.2.1.2.2.1) (ae (Nat.beq n3.2.2.2.1.2.2 n3.2.2.2.1.2.2) (opt (dn ((x.1,1,true),x.2.1,(λj=>bif Nat.beq j 0 then true else true,λj=>bif Nat.beq j 0 then 0 else 0,λj=>bif Nat.beq j 0 then 0 else 0),x.2.2)) λd=>ret d) no) no) no) no) no) no) no) no) no
def gV:=λx=>(FY iT x).val
theorem amQ:∀dn,D0 [AM dn] 223 rP (lf DT) λb=>FY dn b:=λ_ b=>by kernel_rfl
theorem FZ [ax]:SC (xY gV):=s0 (.c Io (.nil _)) (amQ iT)
def qC:=qa (pr (cu ep fT) (cd oA λb0=>(c jY (c lr (c (cl (gs b0.c.1 lq) nil) (cd oT λb4=>(cd nh λb5=>(cd ni λb6=>(cd nj λb7=>(cd nk λb8=>(cd nm λb9=>(c kG (cd pX λrI=>(c (cl (gs b0.e jq) nil) (c (cl (gs b4.b.1 aA) nil) (c (cl (gs b5.b.1 aA) nil) (c (cl (gs b6.b.1 aA) nil) (c (cl (gs b7.b.1 aA) nil) (c (cl (gs b8.b.1 aA) nil) (c (cl (gs b9.b.1 aA) nil) (cl (cl (gs rI.b fX) nil) nil)))))))))))))))))))))
def Co:=qe aST
abbrev Pq:=Co.B
abbrev mS:=qC.B->Option Pq
def mT (g:mS):Ct:=(172,FC qC (lf Co) g)
def DU (dn:AL)(x:qC.B):Pg Pq:=let n5:=x.2.2.2.2.2;let n2:=x.2.1.2.2.2.2;let n4:=n2.2.2.2.2.2.2.2.2.2.2.2.2;let n1:=n5.2;let n3:=n1.2.2.2;ae (Nat.beq n2.1 n2.1) (ae (Nat.beq n4 n4) (ae (Nat.beq n5.1.2.2.1 n5.1.2.2.1) (ae (Nat.beq n1.1.2.2.1 n1.1.2.2.1) (ae (Nat.beq n1.2.1.2.2.1 n1.2.1.2.2.1) (ae (Nat.beq n1.2.2.1.2.2.1 n1.2.2.1.2.2.1) (ae (Nat.beq n3.1.2.2.1 n3.1.2.2.1) (ae (Nat.beq n3.2.1.2.2.1 n3.2.1.2.2.1) (ae (Nat.beq n3.2.2.2.1.2.2 n3.2.2.2.1.2.2) (opt (dn ((x.1,1,true),x.2.1,(λj=>bif Nat.beq j 0 then false else false,λj=>bif Nat.beq j 0 then 0 else 0,λj=>bif Nat.beq j 0 then 0 else 0),x.2.2)) λd=>ret d) no) no) no) no) no) no) no) no) no
def c9:=λx=>(DU iT x).val
theorem alq:∀dn,D0 [AM dn] 172 qC (lf Co) λb=>DU dn b:=λ_ b=>by kernel_rfl
theorem qD [ax]:SC (mT c9):=s0 (.c Io (.nil _)) (alq iT)
def uu:=qa (pr (cu ep (cl (aa (a 10 Cb kF)) nil)) (cd oA λb0=>(c jY (c lr (c (cl (gs b0.c.1 lq) nil) (cd oT λb4=>(cd nh λb5=>(cd ni λb6=>(cd nj λb7=>(cd nk λb8=>(cd nm λb9=>(c kG (cd pX λrI=>(c (cl (gs b0.e jq) nil) (c (cl (gs b4.b.1 aA) nil) (c (cl (gs b5.b.1 aA) nil) (c (cl (gs b6.b.1 aA) nil) (c (cl (gs b7.b.1 aA) nil) (c (cl (gs b8.b.1 aA) nil) (c (cl (gs b9.b.1 aA) nil) (cl (cl (gs rI.b fX) nil) nil)))))))))))))))))))))
def amR:=qe aS0
abbrev AN:=((Js×Bool×NI×(NI×NI)×Nat×tM×Bool×Int×nr×Bool×Bool×Bool×Int×Int×Int×HI×Nat)×NI×NI×NI×NI×NI×NI×NI×NI×NI×NI)
def Wd:AN->T:=λd=>lf amR (d.1,d.1.e,d.2)
abbrev Ip:=uu.B->Option AN
def Iq (g:Ip):Ct:=(222,FC uu Wd g)
def Ir (x:uu.B):Pg AN:=let n7:=x.2.1.2;let n6:=x.1.1;let n3:=n7.2.2.2.2;let n8:=n3.2.2.2;let n2:=x.2.2.2.2.2.2.2.2.2.2.2.2.2.1;let n5:=n2.2.2.2.2;let n1:=n8.2.2.2.2;let n4:=n1.2.2.2.2;let y0:=n4+1;ae (Nat.ble (y0*80) 140737488355328) (ret ((x.2.1.1,n7.1,n7.2.1,n7.2.2.1,n7.2.2.2.1,n3.1,n3.2.1,n3.2.2.1,n8.1,n8.2.1,n8.2.2.1,n8.2.2.2.1,n1.1,n1.2.1,n1.2.2.1,n1.2.2.2.1,y0),λj=>bif Nat.beq j n4 then n6.1.1 else n2.1 j,λj=>bif Nat.beq j n4 then n6.1.2.1 else n2.2.1 j,λj=>bif Nat.beq j n4 then n6.1.2.2.1 else n2.2.2.1 j,λj=>bif Nat.beq j n4 then n6.1.2.2.2 else n2.2.2.2.1 j,λj=>bif Nat.beq j n4 then n6.2.1.1 else n5.1 j,λj=>bif Nat.beq j n4 then n6.2.1.2.1 else n5.2.1 j,λj=>bif Nat.beq j n4 then n6.2.1.2.2 else n5.2.2.1 j,λj=>bif Nat.beq j n4 then n6.2.2.1 else n5.2.2.2.1 j,λj=>bif Nat.beq j n4 then n6.2.2.2.1 else n5.2.2.2.2.1 j,λj=>bif Nat.beq j n4 then n6.2.2.2.2 else n5.2.2.2.2.2 j)) no
def mE:=λx=>(Ir x).val
theorem aqI:D0 [] 222 uu Wd λb=>Ir b:=λb=>by kernel_rfl
theorem We [ax]:SC (Iq mE):=s0 (.nil _) aqI
def uv:=qa (dp (cu ep (c ai (cl aOg nil))) λv=>(cd aAL λb0=>(c (cl (gs v.2.1 aGD) nil) (c jY (c lr (c (cl (gs b0.c.1 lq) nil) (cd nh λb5=>(cd ni λb6=>(cd nj λb7=>(cd nk λb8=>(cd nm λb9=>(cd (a 5 ix (c gi (c (gc (wY 19 9)) kF))) λb10=>(c kG (cd (c gi (c gi (cl (gc (wY 20 11)) nil))) λb12=>(c (cl (gs b0.e jq) nil) (c (cl (gs b5.b.1 aA) nil) (c (cl (gs b6.b.1 aA) nil) (c (cl (gs b7.b.1 aA) nil) (c (cl (gs b8.b.1 aA) nil) (c (cl (gs b9.b.1 aA) nil) (c (cl (gs b10.b.1 aA) nil) (cl (cl (gs b12.b fX) nil) nil))))))))))))))))))))))
def amS:=qe (res (pr (ac (wY 21 3)) (pr (c (zM aAL) aMH) (cl aL6 nil))))
abbrev AO:=(Nat×((Js×Bool×NI×(NI×NI)×Nat×tM×Bool×Int×nr×Bool×Bool×Bool×Int×Int×Int×HI×Nat)×aID×Int)×(Nat->Bool)×NI×NI)
def Wf:AO->T:=λd=>lf amS (d.1,d.2.1,d.1,d.b)
abbrev pf:=uv.B->Option AO
def pg (g:pf):Ct:=(228,sW 2 [.i .i64,.i .i64,.i .i64,.i .i64,.i .i64,.i .i64,.i .i64,.i .i64,.i .i64,.i .i64,.i .i64,.i .i64,.i .i64,.i .i64,.i .i64,.i .i64,.i .i64,.i .i64,.i .i64,.i .i64,.i .i64,.i .i64,.i .i64,.i .i64,.i .i64,.i .i64,.i .i64] (FC uv Wf g))
def Is (YE:axK)(dn:AL)(x:uv.B):Pg AO:=let n3:=x.2.1.2.2.2;let n5:=n3.2.2.2.2.2.2.2.2.2.2.2.2.2;let n2:=x.2.2.2.2.2.2;let n4:=n2.2.2.2;ae (Nat.beq x.1.2.1 x.1.2.1) (opt (YE ((x.2.1.2.2.1,n3.1,x.1.2.1,x.1.2.2&&true),x.2.1.2.1,x.2.2.1)) λd=>let n6:=d.1.2.2;let n1:=(x.2.1.1,d.2.1,d.1.1,d.1.2.1,n3.2);ae (Nat.beq n6 n6) (ae (Nat.beq n3.2.1 n3.2.1) (ae (Nat.beq n5 n5) (ae (Nat.beq n2.1.2.2.1 n2.1.2.2.1) (ae (Nat.beq n2.2.1.2.2.1 n2.2.1.2.2.1) (ae (Nat.beq n2.2.2.1.2.2.1 n2.2.2.1.2.2.1) (ae (Nat.beq n4.1.2.2.1 n4.1.2.2.1) (ae (Nat.beq n4.2.1.2.2.1 n4.2.1.2.2.1) (ae (Nat.beq n4.2.2.1.2.2.1 n4.2.2.1.2.2.1) (ae (Nat.beq n4.2.2.2.2.1.2.2 n4.2.2.2.2.1.2.2) (opt (dn ((x.1.1,n6,true),n1,d.2.2,x.2.2.2)) λaj=>ret (n6,(n1,aj),d.2.2)) no) no) no) no) no) no) no) no) no) no) no
def dJ:=λx=>(Is OW iT x).val
theorem aqJ:∀YE dn,D0 [axL YE,AM dn] 228 uv Wf λb=>Is YE dn b:=λ_ _ b=>by kernel_rfl
theorem uw [ax]:SC (pg dJ):=sc (Sound.nil 2 [.i .i64,.i .i64,.i .i64,.i .i64,.i .i64,.i .i64,.i .i64,.i .i64,.i .i64,.i .i64,.i .i64,.i .i64,.i .i64,.i .i64,.i .i64,.i .i64,.i .i64,.i .i64,.i .i64,.i .i64,.i .i64,.i .i64,.i .i64,.i .i64,.i .i64,.i .i64,.i .i64]<|k0 (.c aKw (.c Io (.nil _))) (aqJ OW iT))
def qE:=qa (dp (cu ep aGe) λv=>(cd aAL λb0=>(c (cl (gs v.1 apx) nil) (c jY (c lr (c (cl (gs b0.c.1 lq) nil) (cd nh λb5=>(cd ni λb6=>(cd nj λb7=>(cd nk λb8=>(cd nm λb9=>(cd (a 5 ix (c gi (c (gc (wY 19 9)) kF))) λb10=>(c kG (cd (c gi (c gi (cl (gc (wY 20 11)) nil))) λb12=>(c (cl (gs b0.e jq) nil) (c (cl (gs b5.b.1 aA) nil) (c (cl (gs b6.b.1 aA) nil) (c (cl (gs b7.b.1 aA) nil) (c (cl (gs b8.b.1 aA) nil) (c (cl (gs b9.b.1 aA) nil) (c (cl (gs b10.b.1 aA) nil) (cl (cl (gs b12.b fX) nil) nil))))))))))))))))))))))
def Cp:=qe (res (pu Tl (pl (cl (zM aAL) aie) nil)))
abbrev DV:=Cp.B
abbrev DW:=qE.B->Option DV
def DX (g:DW):Ct:=(229,sW 1 [.b,.i .i64,.i .i64] (FC qE (lf Cp) g))
def DY (pM:aaa)(x:qE.B):Pg DV:=let n2:=x.2.1;let n1:=n2.2.2.2.2.2;let n3:=n1.2.2.2;ae (Nat.beq x.1.1 x.1.1) (opt (pM x.1.1 x.2.2.1.1 x.2.2.1.2.1 x.2.2.1.2.2 (x.1.2&&true)) λd=>ae (decide (d.1>0)) (ret (n2.1,n2.2.1,n2.2.2.1,n2.2.2.2.1,n2.2.2.2.2.1,n1.1,n1.2.1,n1.2.2.1,n3.1,n3.2.1,n3.2.2.1,true,n3.2.2.2.2.2.1,n3.2.2.2.2.2)) (ret n2)) no
def kt:=λx=>(DY xi x).val
theorem alr:∀pM,D1 [aab pM] [0] 229 qE (lf Cp) λb=>DY pM b:=λ_ b=>by kernel_rfl
theorem Pr [ax]:SC (DX kt):=sc (Sound.nil 1 [.b,.i .i64,.i .i64]<|k0 (.c aos (.nil _)) (alr xi))
def nS:=qa (pr (cu ep (c ai (c ai aR7))) (cd oA λb0=>(c jY (c lr (c (cl (gs b0.c.1 lq) nil) (cd oT λb4=>(cd nh λb5=>(cd ni λb6=>(cd nj λb7=>(cd nk λb8=>(cd nm λb9=>(c kG (cd pX λrI=>(c (cl (gs b0.e jq) nil) (c (cl (gs b4.b.1 aA) nil) (c (cl (gs b5.b.1 aA) nil) (c (cl (gs b6.b.1 aA) nil) (c (cl (gs b7.b.1 aA) nil) (c (cl (gs b8.b.1 aA) nil) (c (cl (gs b9.b.1 aA) nil) (cl (cl (gs rI.b fX) nil) nil)))))))))))))))))))))
def yZ:=qe apE
abbrev AP:=yZ.B
abbrev Ld:=nS.B->Option AP
def Le (g:Ld):Ct:=(169,FC nS (lf yZ) g)
def AQ (bc:pf)(cR:xX)(x:nS.B):Pg AP:=let n7:=x.2.2.2.2.2;let n4:=x.1.2.2.2;let n3:=x.2.1.2.2.2.2;let n6:=n3.2.2.2.2.2.2.2.2.2.2.2.2;let n2:=n7.2;let n5:=n2.2.2.2;let n1:=x.1.2.2.1;let y0:=Nat.beq n3.1 n3.1;let y1:=Nat.beq n6 n6;let y2:=Nat.beq n7.1.2.2.1 n7.1.2.2.1;let y3:=Nat.beq n2.1.2.2.1 n2.1.2.2.1;let y4:=Nat.beq n2.2.1.2.2.1 n2.2.1.2.2.1;let y5:=Nat.beq n2.2.2.1.2.2.1 n2.2.2.1.2.2.1;let y6:=Nat.beq n5.1.2.2.1 n5.1.2.2.1;let y7:=Nat.beq n5.2.1.2.2.1 n5.2.1.2.2.1;let y8:=Nat.beq n5.2.2.2.1.2.2 n5.2.2.2.1.2.2;ae (n3.2.1.2.1==x.1.2.1) (ae y0 (ae y1 (ae y2 (ae y3 (ae y4 (ae y5 (ae y6 (ae y7 (ae y8 (opt (bc ((x.1.1,1,true),x.2.1,(λj=>bif Nat.beq j 0 then n1 0 else n1 0,λj=>bif Nat.beq j 0 then n1 1 else n1 1,λj=>bif Nat.beq j 0 then n1 2 else n1 2,λj=>bif Nat.beq j 0 then n1 3 else n1 3,λj=>bif Nat.beq j 0 then n1 4 else n1 4,λj=>bif Nat.beq j 0 then n1 5 else n1 5,λj=>bif Nat.beq j 0 then n1 6 else n1 6,λj=>bif Nat.beq j 0 then n1 7 else n1 7,λj=>bif Nat.beq j 0 then n1 8 else n1 8,λj=>bif Nat.beq j 0 then n1 9 else n1 9,λj=>bif Nat.beq j 0 then n1 10 else n1 10,λj=>bif Nat.beq j 0 then n1 11 else n1 11,λj=>bif Nat.beq j 0 then n1 12 else n1 12,λj=>bif Nat.beq j 0 then n1 13 else n1 13,λj=>bif Nat.beq j 0 then n1 14 else n1 14,λj=>bif Nat.beq j 0 then n1 15 else n1 15,λj=>bif Nat.beq j 0 then n1 16 else n1 16,λj=>bif Nat.beq j 0 then n1 17 else n1 17,λj=>bif Nat.beq j 0 then n1 18 else n1 18,λj=>bif Nat.beq j 0 then n1 19 else n1 19,λj=>bif Nat.beq j 0 then n1 20 else n1 20,λj=>bif Nat.beq j 0 then n1 21 else n1 21,λj=>bif Nat.beq j 0 then n1 22 else n1 22,λj=>bif Nat.beq j 0 then n1 23 else n1 23,λj=>bif Nat.beq j 0 then n4.1 else n4.1,λj=>bif Nat.beq j 0 then n4.2.1 else n4.2.1,λj=>bif Nat.beq j 0 then n4.2.2 else n4.2.2),x.2.2)) λd=>ret d.2.1) no) no) no) no) no) no) no) no) no) (ae y0 (ae y1 (ae y2 (ae y3 (ae y4 (ae y5 (ae y6 (ae y7 (ae y8 (opt (cR (x.1.1,x.2)) λd=>ret (x.2.1,d)) no) no) no) no) no) no) no) no) no)
def nT:=λx=>(AQ dJ gV x).val
theorem aft:∀bc cR,D1 [pg bc,xY cR] [0] 169 nS (lf yZ) λb=>AQ bc cR b:=λ_ _ b=>by kernel_rfl
theorem afu [ax]:SC (Le nT):=s0 (.c uw (.c FZ (.nil _))) (aft dJ gV)
def iG:=qa (pu (cu ep nil) (cd oA λb0=>(c jY (c lr (c (cl (gs b0.c.1 lq) nil) (cd oT λb4=>(cd nh λb5=>(cd ni λb6=>(cd nj λb7=>(cd nk λb8=>(cd nm λb9=>(c kG (cd pX λrI=>(c (cl (gs b0.e jq) nil) (c (cl (gs b4.b.1 aA) nil) (c (cl (gs b5.b.1 aA) nil) (c (cl (gs b6.b.1 aA) nil) (c (cl (gs b7.b.1 aA) nil) (c (cl (gs b8.b.1 aA) nil) (c (cl (gs b9.b.1 aA) nil) (cl (cl (gs rI.b fX) nil) nil)))))))))))))))))))))
def ux:=qe (res (pr ai (pl (cl (zM oA) aSE) nil)))
abbrev vu:=ux.B
abbrev Fe:=iG.B->Option vu
def Ff (g:Fe):Ct:=(220,FC iG (lf ux) g)
def oH (wJ:Po)(x:iG.B):Pg vu:=let n1:=x.1.1.2.2.2.2.2.2.2.2.2.2.2.2.2;opt (wJ n1.1 n1.2.1 n1.2.2 x.1.2.1) λd=>ret (d.1.1,x.1.1,d.2,x.1.2.2)
def fR:=λx=>(oH qB x).val
theorem Xd:∀wJ,D0 [Pp wJ] 220 iG (lf ux) λb=>oH wJ b:=λ_ b=>by kernel_rfl
theorem Xe [ax]:SC (Ff fR):=s0 (.c alp (.nil _)) (Xd qB)
def uy:=qa (pr (cu ep Fu) (cd oA λb0=>(c jY (c lr (c (cl (gs b0.c.1 lq) nil) (cd oT λb4=>(cd nh λb5=>(cd ni λb6=>(cd nj λb7=>(cd nk λb8=>(cd nm λb9=>(c kG (cd pX λrI=>(c (cl (gs b0.e jq) nil) (c (cl (gs b4.b.1 aA) nil) (c (cl (gs b5.b.1 aA) nil) (c (cl (gs b6.b.1 aA) nil) (c (cl (gs b7.b.1 aA) nil) (c (cl (gs b8.b.1 aA) nil) (c (cl (gs b9.b.1 aA) nil) (cl (cl (gs rI.b fX) nil) nil)))))))))))))))))))))
def LX:=qe apE
def ahT:=qe (res (pu Tl (pr (c (zM (a 26 u3 (c gb (c jo (a 2 w8 (cu afS (cu afT (c aGa (au 6 ada (cu am8 (a 4 Ca (cu am9 (c gb (c gi (a 3 jW (c gb (cu aus (c gb aMz)))))))))))))))))) aMG) aGC)))
abbrev AR:=LX.B⊕(((Js×Bool×NI×(NI×NI)×Nat×tM×Bool×Int×nr×Bool×Bool×Int×Int×Int×HI×Nat)×aID×Int)×NI×NI×NI×NI×NI×NI×NI×NI×NI×NI)
def Wg:AR->T:=ls (lf LX) (λd=>lf ahT (d.1,d.1.1.d.c.b.2,d.2))
abbrev Wh:=uy.B->Option AR
def Wi (g:Wh):Ct:=(167,FC uy Wg g)
def It (lE:Yt)(bd:dy)(oI:Fe)(S4:att)(aW:mS)(S5:atc)(fq:Ip)(eK:o6)(gS:EI)(cG:xd)(aN:eN)(cR:xX)(x:uy.B):Pg AR:=let n8:=x.2.2;let bx:=n8.2.2.2;let n7:=x.2.1.2.2;let n9:=n7.2.2.2.2.2.2.2.2.2.2.2.2.2.2;let n6:=x.1.2.2.2;let n1:=bx.2;let n3:=n1.2.2.2;let bL:=n3.2.2.2;let y0:=Nat.beq bx.1.2.2.1 bx.1.2.2.1;let y1:=Nat.beq n1.1.2.2.1 n1.1.2.2.1;let y2:=Nat.beq n1.2.1.2.2.1 n1.2.1.2.2.1;let y3:=Nat.beq n1.2.2.1.2.2.1 n1.2.2.1.2.2.1;let y4:=Nat.beq n3.1.2.2.1 n3.1.2.2.1;let y5:=Nat.beq n3.2.1.2.2.1 n3.2.1.2.2.1;let y6:=Nat.beq bL.1.2.2 bL.1.2.2;opt (lE x.1.1 x.1.2.1 x.1.2.2.1 n6.1 n6.2.1 n6.2.2.1 n6.2.2.2.1 n6.2.2.2.2.1 n6.2.2.2.2.2 x.2.1.2.1) λd=>let bh:=d.1.1;opt (bd n7.1) λaj=>ae (Nat.beq n7.2.2.1 n7.2.2.1) (ae (Nat.beq n9 n9) (ae y0 (ae y1 (ae y2 (ae y3 (ae y4 (ae y5 (ae y6 (opt (oI ((x.2.1.1,d.2,n7),n8)) λaI=>let n5:=aI.2.2.2;let aY:=n5.2.2.2.2.2.2.2.2.2.2.2.2.2.2;let nq:=Nat.beq n5.2.2.1 n5.2.2.1;let agc:=Nat.beq aY aY;opt (S4 aj.1 aj.2.1 aj.2.2.1 aj.2.2.2 bh.1 bh.2.1 bh.2.2.1 bh.2.2.2 aI.1 aI.2.2.1) λbz=>ae (bz.1.2!=0) (ae nq (ae agc (ae y0 (ae y1 (ae y2 (ae y3 (ae y4 (ae y5 (ae y6 (opt (aW (3,(aI.2.1,bz.2,n5),n8)) λd=>ret (Sum.inl ((aI.2.1,bz.2,n5),d))) no) no) no) no) no) no) no) no) no) (opt (S5 n5.1 n5.2.1.1 n5.2.1.2 bz.1.1 (aI.2.1.2.2.2.2.2.2.2.1 0) bz.2) λcq=>ae nq (ae agc (ae y0 (ae y1 (ae y2 (ae y3 (ae y4 (ae y5 (ae y6 (opt (fq (((cq.1.2.2,(0,0,0),0,0,0),1),(aI.2.1,cq.2,cq.1.1,cq.1.2.1,n5.2.2),n8)) λeo=>let bp:=eo.1.2.2;let n2:=bp.2.2;let n16:=n2.2.2;let n4:=n16.2.2;let n15:=n4.2.2.2;opt (bd bp.1) λcJ=>opt (eK cJ.1 cJ.2.1 cJ.2.2.1 cJ.2.2.2 eo.1.2.1) λkI=>opt (gS kI.1 bh.1 bh.2.1 bh.2.2.1 kI.2) λd=>opt (cG bp.1 16 3 (cr d.1.1 [d.1.2.2,d.1.2.1,d.1.1]) false) λoJ=>opt (aN oJ d.2) λd=>ae (Nat.beq n2.1 n2.1) (ae (Nat.beq n15.2.2.2.2.2 n15.2.2.2.2.2) (ae y0 (ae y1 (ae y2 (ae y3 (ae y4 (ae y5 (ae y6 (opt (cR (3,(eo.1.1,d.2,d.1,bp.2.1,n2.1,n2.2.1,n16.1,n16.2.1,n4.1,n4.2.1,true,n15),n8.1,n8.2.1,n8.2.2.1,bx.1,n1.1,n1.2.1,n1.2.2.1,n3.1,n3.2.1,n3.2.2.1,bL.1,eo.2,bL.2.2)) λmI=>ret (Sum.inr (((eo.1.1,d.2,d.1,bp.2.1,n2.1,n2.2.1,n16.1,n16.2.1,n4.1,n4.2.1,n15),mI),eo.2))) no) no) no) no) no) no) no) no) no) no) no) no) no) no) no) no) no) no)) no) no) no) no) no) no) no) no) no
def uA:=λx=>(It wA bY fR K0 c9 KN mE jg nG fM bW gV x).val
theorem aqK:∀lE bd oI S4 aW S5 fq eK gS cG aN cR,D0 [Yu lE,iL bd,Ff oI,atu S4,mT aW,atd S5,Iq fq,BW eK,J' gS,BT cG,iw aN,xY cR] 167 uy Wg λb=>It lE bd oI S4 aW S5 fq eK gS cG aN cR b:=λ_ _ _ _ _ _ _ _ _ _ _ _ b=>by kernel_rfl
theorem aqL [ax]:SC (Wi uA):=s0 (.c akN (.c jC (.c Xe (.c aHQ (.c qD (.c aHJ (.c We (.c EM (.c SB (.c Gv (.c jh (.c FZ (.nil _))))))))))))) (aqK wA bY fR K0 c9 KN mE jg nG fM bW gV)
def uB:=qa (pr (cu ep (cl aGx nil)) (cd oA λb0=>(c jY (c lr (c (cl (gs b0.c.1 lq) nil) (cd oT λb4=>(cd nh λb5=>(cd ni λb6=>(cd nj λb7=>(cd nk λb8=>(cd nm λb9=>(c kG (cd pX λrI=>(c (cl (gs b0.e jq) nil) (c (cl (gs b4.b.1 aA) nil) (c (cl (gs b5.b.1 aA) nil) (c (cl (gs b6.b.1 aA) nil) (c (cl (gs b7.b.1 aA) nil) (c (cl (gs b8.b.1 aA) nil) (c (cl (gs b9.b.1 aA) nil) (cl (cl (gs rI.b fX) nil) nil)))))))))))))))))))))
def amT:=qe aS0
abbrev AS:=((Js×Bool×NI×(NI×NI)×Nat×tM×Bool×Int×nr×Bool×Bool×Bool×Int×Int×Int×HI×Nat)×NI×NI×NI×NI×NI×NI×NI×NI×NI×NI)
def Wj:AS->T:=λd=>lf amT (d.1,d.1.e,d.2)
abbrev Wk:=uB.B->Option AS
def Wl (g:Wk):Ct:=(224,FC uB Wj g)
def Iu (gv:wz)(CR:YA)(fq:Ip)(xZ:RY)(HA:ahe)(x:uB.B):Pg AS:=let bp:=x.1.2;let n4:=x.2.1.2.2.2;let n8:=n4.2.2.2.2.2.2.2.2.2.2.2.2.2;let n3:=x.2.2;let bh:=n3.2.2;let n1:=bh.2.2;let bx:=n1.2.2.1;let n2:=n1.2.2.2;let n7:=n2.2.2.2;let y0:=Nat.beq bh.2.1.2.2.1 bh.2.1.2.2.1;let y1:=Nat.beq n1.1.2.2.1 n1.1.2.2.1;let y2:=Nat.beq n1.2.1.2.2.1 n1.2.1.2.2.1;let y3:=Nat.beq bx.2.2.1 bx.2.2.1;let y4:=Nat.beq n2.1.2.2.1 n2.1.2.2.1;let y5:=Nat.beq n2.2.1.2.2.1 n2.2.1.2.2.1;let y6:=Nat.beq n7.1.2.2 n7.1.2.2;opt (gv x.1.1.1 x.1.1.2.1 x.1.1.2.2 n3.1.1.1 n3.1.1.2.1 n3.1.1.2.2 n3.1.2.1 n3.1.2.2 x.2.1.2.1) λd=>opt (CR x.2.1.2.2.1 n4.1.1 n4.1.2 bp.1.1 bp.1.2.1 bp.1.2.2 bp.2.2 d.2) λaj=>ae (Nat.beq n4.2.1 n4.2.1) (ae (Nat.beq n8 n8) (ae y0 (ae y1 (ae y2 (ae y3 (ae y4 (ae y5 (ae y6 (opt (fq ((((1073741824,0,0,0),aj.1.2.2,0,0,0),2),(x.2.1.1,aj.2,aj.1.1,aj.1.2.1,n4.2),n3)) λaI=>let n6:=aI.1.2.2.2;let n9:=n6.2.2.2.2.2.2.2.2.2.2.2.2.2;opt (xZ aI.1.2.2.1 n6.1.1 n6.1.2 d.1.1.1 d.1.1.2.1 bp.2.1 aI.1.2.1) λbz=>ae (Nat.beq n6.2.1 n6.2.1) (ae (Nat.beq n9 n9) (ae y0 (ae y1 (ae y2 (ae y3 (ae y4 (ae y5 (ae y6 (opt (fq ((((1073741824,0,0,0),(0,0,0),bz.1.2.2),3),(aI.1.1,bz.2,bz.1.1,bz.1.2.1,n6.2),n3.1,n3.2.1,bh.1,bh.2.1,n1.1,n1.2.1,bx,n2.1,n2.2.1,n2.2.2.1,n7.1,aI.2,n7.2.2)) λcq=>let n5:=cq.1.2.2.2;let aY:=n5.2.2.2.2.2.2.2.2.2.2.2.2.2;ae (n5.2.2.1.2.1==2) (opt (HA cq.1.2.2.1 n5.1.1 n5.1.2 d.1.1.2.2 bp.2.1 cq.1.2.1) λd=>ae (Nat.beq n5.2.1 n5.2.1) (ae (Nat.beq aY aY) (ae y0 (ae y1 (ae y2 (ae y3 (ae y4 (ae y5 (ae y6 (opt (fq ((((1073741824,0,0,0),(0,0,0),0,0,d.1.2.2),4),(cq.1.1,d.2,d.1.1,d.1.2.1,n5.2),n3.1,n3.2.1,bh.1,bh.2.1,n1.1,n1.2.1,bx,n2.1,n2.2.1,n2.2.2.1,n7.1,cq.2,n7.2.2)) λd=>ret d) no) no) no) no) no) no) no) no) no) (ret cq)) no) no) no) no) no) no) no) no) no) no) no) no) no) no) no) no) no) no
def uC:=λx=>(Iu jF wF mE rO BB x).val
theorem aqM:∀gv CR fq xZ HA,D0 [CI gv,YB CR,Iq fq,RZ xZ,ahf HA] 224 uB Wj λb=>Iu gv CR fq xZ HA b:=λ_ _ _ _ _ b=>by kernel_rfl
theorem aqN [ax]:SC (Wl uC):=s0 (.c KZ (.c atW (.c We (.c amM (.c azM (.nil _)))))) (aqM jF wF mE rO BB)
def nU:=qa (pr (cu ep Fu) (cd oA λb0=>(c jY (c lr (c (cl (gs b0.c.1 lq) nil) (cd oT λb4=>(cd nh λb5=>(cd ni λb6=>(cd nj λb7=>(cd nk λb8=>(cd nm λb9=>(c kG (cd pX λrI=>(c (cl (gs b0.e jq) nil) (c (cl (gs b4.b.1 aA) nil) (c (cl (gs b5.b.1 aA) nil) (c (cl (gs b6.b.1 aA) nil) (c (cl (gs b7.b.1 aA) nil) (c (cl (gs b8.b.1 aA) nil) (c (cl (gs b9.b.1 aA) nil) (cl (cl (gs rI.b fX) nil) nil)))))))))))))))))))))
def za:=qe apE
abbrev AT:=za.B
abbrev Lf:=nU.B->Option AT
def Lg (g:Lf):Ct:=(174,FC nU (lf za) g)
def AU (wH:akX)(HB:agZ)(BF:ag5)(aW:mS)(bc:pf)(x:nU.B):Pg AT:=let bp:=x.2.2;let n8:=x.2.1.1;let n7:=x.1.2.2.2;let n6:=n8.2.2.2.2.1.2.2.2.2.1;let n4:=x.2.1.2.2;let bh:=n4.2.2.2.2.2.2.2.2.2.2.2.2.2.2;let n3:=bp.2.2.2.2;let n9:=n3.2.2.2;let y0:=Nat.beq n4.2.2.1 n4.2.2.1;let y1:=Nat.beq bh bh;let y2:=Nat.beq bp.2.2.2.1.2.2.1 bp.2.2.2.1.2.2.1;let y3:=Nat.beq n3.1.2.2.1 n3.1.2.2.1;let y4:=Nat.beq n3.2.1.2.2.1 n3.2.1.2.2.1;let y5:=Nat.beq n3.2.2.1.2.2.1 n3.2.2.1.2.2.1;let y6:=Nat.beq n9.1.2.2.1 n9.1.2.2.1;let y7:=Nat.beq n9.2.1.2.2.1 n9.2.1.2.2.1;let y8:=Nat.beq n9.2.2.2.1.2.2 n9.2.2.2.1.2.2;opt (wH x.1.1 x.1.2.1 x.1.2.2.1 n7.1 n7.2.1 n7.2.2.1 n7.2.2.2.1 n7.2.2.2.2.1 n7.2.2.2.2.2 x.2.1.2.1) λd=>opt (HB n4.1 d.1.1.1 d.1.1.2 n6 d.2) λd=>let n5:=d.1.1.2;let n1:=d.1.1.1;ae (d.1.2==0) (opt (BF n4.1 17592186044416 n6 d.2) λaj=>ae (aj.1.2==0) (ae y0 (ae y1 (ae y2 (ae y3 (ae y4 (ae y5 (ae y6 (ae y7 (ae y8 (opt (bc ((4,2,true),(n8,aj.2,n4),(awo (λk=>cr (n1 k) [aj.1.1.1 k,n1 k]) (cr n5.1 [aj.1.1.2.1,n5.1],cr n5.2.1 [aj.1.1.2.2.1,n5.2.1],cr n5.2.2 [aj.1.1.2.2.2,n5.2.2])),bp)) λd=>ret d.2.1) no) no) no) no) no) no) no) no) no) (ae y0 (ae y1 (ae y2 (ae y3 (ae y4 (ae y5 (ae y6 (ae y7 (ae y8 (opt (bc ((4,1,true),(n8,aj.2,n4),(λj=>bif Nat.beq j 0 then n1 0 else n1 0,λj=>bif Nat.beq j 0 then n1 1 else n1 1,λj=>bif Nat.beq j 0 then n1 2 else n1 2,λj=>bif Nat.beq j 0 then n1 3 else n1 3,λj=>bif Nat.beq j 0 then n1 4 else n1 4,λj=>bif Nat.beq j 0 then n1 5 else n1 5,λj=>bif Nat.beq j 0 then n1 6 else n1 6,λj=>bif Nat.beq j 0 then n1 7 else n1 7,λj=>bif Nat.beq j 0 then n1 8 else n1 8,λj=>bif Nat.beq j 0 then n1 9 else n1 9,λj=>bif Nat.beq j 0 then n1 10 else n1 10,λj=>bif Nat.beq j 0 then n1 11 else n1 11,λj=>bif Nat.beq j 0 then n1 12 else n1 12,λj=>bif Nat.beq j 0 then n1 13 else n1 13,λj=>bif Nat.beq j 0 then n1 14 else n1 14,λj=>bif Nat.beq j 0 then n1 15 else n1 15,λj=>bif Nat.beq j 0 then n1 16 else n1 16,λj=>bif Nat.beq j 0 then n1 17 else n1 17,λj=>bif Nat.beq j 0 then n1 18 else n1 18,λj=>bif Nat.beq j 0 then n1 19 else n1 19,λj=>bif Nat.beq j 0 then n1 20 else n1 20,λj=>bif Nat.beq j 0 then n1 21 else n1 21,λj=>bif Nat.beq j 0 then n1 22 else n1 22,λj=>bif Nat.beq j 0 then n1 23 else n1 23,λj=>bif Nat.beq j 0 then n5.1 else n5.1,λj=>bif Nat.beq j 0 then n5.2.1 else n5.2.1,λj=>bif Nat.beq j 0 then n5.2.2 else n5.2.2),bp)) λd=>ret d.2.1) no) no) no) no) no) no) no) no) no)) (opt (BF n4.1 17592186044416 n6 d.2) λd=>let aY:=d.1.1.2;let n2:=d.1.1.1;ae (d.1.2==0) (ae y0 (ae y1 (ae y2 (ae y3 (ae y4 (ae y5 (ae y6 (ae y7 (ae y8 (opt (bc ((4,1,true),(n8,d.2,n4),(λj=>bif Nat.beq j 0 then n2 0 else n2 0,λj=>bif Nat.beq j 0 then n2 1 else n2 1,λj=>bif Nat.beq j 0 then n2 2 else n2 2,λj=>bif Nat.beq j 0 then n2 3 else n2 3,λj=>bif Nat.beq j 0 then n2 4 else n2 4,λj=>bif Nat.beq j 0 then n2 5 else n2 5,λj=>bif Nat.beq j 0 then n2 6 else n2 6,λj=>bif Nat.beq j 0 then n2 7 else n2 7,λj=>bif Nat.beq j 0 then n2 8 else n2 8,λj=>bif Nat.beq j 0 then n2 9 else n2 9,λj=>bif Nat.beq j 0 then n2 10 else n2 10,λj=>bif Nat.beq j 0 then n2 11 else n2 11,λj=>bif Nat.beq j 0 then n2 12 else n2 12,λj=>bif Nat.beq j 0 then n2 13 else n2 13,λj=>bif Nat.beq j 0 then n2 14 else n2 14,λj=>bif Nat.beq j 0 then n2 15 else n2 15,λj=>bif Nat.beq j 0 then n2 16 else n2 16,λj=>bif Nat.beq j 0 then n2 17 else n2 17,λj=>bif Nat.beq j 0 then n2 18 else n2 18,λj=>bif Nat.beq j 0 then n2 19 else n2 19,λj=>bif Nat.beq j 0 then n2 20 else n2 20,λj=>bif Nat.beq j 0 then n2 21 else n2 21,λj=>bif Nat.beq j 0 then n2 22 else n2 22,λj=>bif Nat.beq j 0 then n2 23 else n2 23,λj=>bif Nat.beq j 0 then aY.1 else aY.1,λj=>bif Nat.beq j 0 then aY.2.1 else aY.2.1,λj=>bif Nat.beq j 0 then aY.2.2 else aY.2.2),bp)) λd=>ret d.2.1) no) no) no) no) no) no) no) no) no) (ae y0 (ae y1 (ae y2 (ae y3 (ae y4 (ae y5 (ae y6 (ae y7 (ae y8 (opt (aW (4,(n8,d.2,n4),bp)) λaj=>ret ((n8,d.2,n4),aj)) no) no) no) no) no) no) no) no) no))
def nV:=λx=>(AU DA Bz BA c9 dJ x).val
theorem afv:∀wH HB BF aW bc,D0 [akY wH,ag0 HB,ag6 BF,mT aW,pg bc] 174 nU (lf za) λb=>AU wH HB BF aW bc b:=λ_ _ _ _ _ b=>by kernel_rfl
theorem afw [ax]:SC (Lg nV):=s0 (.c ayp (.c azE (.c azG (.c qD (.c uw (.nil _)))))) (afv DA Bz BA c9 dJ)
def uD:=qa (pr (cu ep Fu) (cd oA λb0=>(c jY (c lr (c (cl (gs b0.c.1 lq) nil) (cd oT λb4=>(cd nh λb5=>(cd ni λb6=>(cd nj λb7=>(cd nk λb8=>(cd nm λb9=>(c kG (cd pX λrI=>(c (cl (gs b0.e jq) nil) (c (cl (gs b4.b.1 aA) nil) (c (cl (gs b5.b.1 aA) nil) (c (cl (gs b6.b.1 aA) nil) (c (cl (gs b7.b.1 aA) nil) (c (cl (gs b8.b.1 aA) nil) (c (cl (gs b9.b.1 aA) nil) (cl (cl (gs rI.b fX) nil) nil)))))))))))))))))))))
def F1:=qe apE
abbrev Iv:=F1.B
abbrev Wm:=uD.B->Option Iv
def Wn (g:Wm):Ct:=(175,FC uD (lf F1) g)
def Iw (sI:afc)(S6:atH)(aW:mS)(bc:pf)(dw:DW)(x:uD.B):Pg Iv:=let aY:=x.2.1;let n7:=x.2.2;let bh:=n7.2.2.2;let n6:=x.1.2.2.2;let n2:=aY.2.2;let n8:=n2.2.2.2.2.2.2.2.2.2.2.2.2.2.2;let n1:=bh.2;let n3:=n1.2.2.2;let y0:=Nat.beq n2.2.2.1 n2.2.2.1;let y1:=Nat.beq n8 n8;let y2:=Nat.beq bh.1.2.2.1 bh.1.2.2.1;let y3:=Nat.beq n1.1.2.2.1 n1.1.2.2.1;let y4:=Nat.beq n1.2.1.2.2.1 n1.2.1.2.2.1;let y5:=Nat.beq n1.2.2.1.2.2.1 n1.2.2.1.2.2.1;let y6:=Nat.beq n3.1.2.2.1 n3.1.2.2.1;let y7:=Nat.beq n3.2.1.2.2.1 n3.2.1.2.2.1;let y8:=Nat.beq n3.2.2.2.1.2.2 n3.2.2.2.1.2.2;opt (sI x.1.1 x.1.2.1 x.1.2.2.1 n6.1 n6.2.1 n6.2.2.1 n6.2.2.2.1 n6.2.2.2.2.1 n6.2.2.2.2.2 aY.2.1) λd=>opt (S6 n2.1 d.1.1.1 d.1.1.2.1 d.1.1.2.2.1 d.1.1.2.2.2 aY.1.2.2.2.2.1.2.2.2.2.2 d.2) λd=>sm d (λd=>ae (d.1!=0) (ae y0 (ae y1 (ae y2 (ae y3 (ae y4 (ae y5 (ae y6 (ae y7 (ae y8 (opt (aW (5,(aY.1,d.2,n2),n7)) λaj=>ret ((aY.1,d.2,n2),aj)) no) no) no) no) no) no) no) no) no) no) (λd=>let n4:=d.2.2.2;ae y0 (ae y1 (ae y2 (ae y3 (ae y4 (ae y5 (ae y6 (ae y7 (ae y8 (opt (bc ((5,2,true),(aY.1,d.1,n2),(awo (λk=>cr (d.2.1 k) [n4.2.2.1 k,d.2.1 k]) (cr d.2.2.1 [n4.2.2.2,d.2.2.1],cr n4.1 [n4.1,n4.1],cr n4.2.1 [n4.2.1,n4.2.1])),n7)) λd=>let n5:=d.2.1.1.2.2.2.2;let n9:=n5.2.2.2.2.2.2.2.2.2.2.2.2;ae (Nat.beq d.1 d.1) (ae (Nat.beq n5.1 n5.1) (ae (Nat.beq n9 n9) (ae y2 (ae y3 (ae y4 (ae y5 (ae y6 (ae y7 (ae y8 (opt (dw ((d.1,true),d.2.1.1,d.2.2,n7.1,n7.2.1,n7.2.2.1,bh.1,n1.1,n1.2.1,n1.2.2.1,n3.1,n3.2.1,d.2.1.2,n3.2.2.2)) λaj=>ret (aj,d.2.1.2)) no) no) no) no) no) no) no) no) no) no) no) no) no) no) no) no) no) no) no)
def uF:=λx=>(Iw Az AA c9 dJ kt x).val
theorem aqO:∀sI S6 aW bc dw,D0 [afd sI,atI S6,mT aW,pg bc,DX dw] 175 uD (lf F1) λb=>Iw sI S6 aW bc dw b:=λ_ _ _ _ _ b=>by kernel_rfl
theorem aqP [ax]:SC (Wn uF):=s0 (.c atE (.c aHU (.c qD (.c uw (.c Pr (.nil _)))))) (aqO Az AA c9 dJ kt)
def ku:=qa (pu (cu ep nil) (cd oA λb0=>(c jY (c lr (c (cl (gs b0.c.1 lq) nil) (cd oT λb4=>(cd nh λb5=>(cd ni λb6=>(cd nj λb7=>(cd nk λb8=>(cd nm λb9=>(c kG (cd pX λrI=>(c (cl (gs b0.e jq) nil) (c (cl (gs b4.b.1 aA) nil) (c (cl (gs b5.b.1 aA) nil) (c (cl (gs b6.b.1 aA) nil) (c (cl (gs b7.b.1 aA) nil) (c (cl (gs b8.b.1 aA) nil) (c (cl (gs b9.b.1 aA) nil) (cl (cl (gs rI.b fX) nil) nil)))))))))))))))))))))
def Cq:=qe (res (pl (aa (c gi (c gi (c gb (c gb (c gi (c gi (c gi (c gb (c gb aMf)))))))))) (pu aie nil)))
abbrev DZ:=Cq.B
abbrev wK:=ku.B->Option DZ
def wL (g:wK):Ct:=(16,FC ku (lf Cq) g)
def qF (pR:GM)(uQ:LS)(x:ku.B):Pg DZ:=let n3:=x.1.2.2.2.2.2;let n2:=n3.2.2.2.2.2.2.2.2;let n4:=n2.2.2.1;let n1:=x.2.2.2.2.2.2.2.2.2.2.1;let n5:=n1.1.2.2;opt (pR n2.1 n1.1.1 n1.1.2.1 n5.1 n5.2.1 n5.2.2.1 n5.2.2.2 n1.2) λd=>opt (uQ n1.1.1 n1.1.2.1 n5.1 n5.2.1 n5.2.2.1 n5.2.2.2 n1.2) λaj=>ret (n3.1.1,n3.1.2.1,n3.1.2.2.1,n3.1.2.2.2,n2.1,d,n2.2.1,aj,x.1.2.1,n4.1.1,n4.1.2.1,n4.1.2.2.1,n4.1.2.2.2,n4.2.1.1,n4.2.1.2.1,n4.2.1.2.2,n4.2.2)
def db:=λx=>(qF lV oO x).val
theorem als:∀pR uQ,D0 [GN pR,LU uQ] 16 ku (lf Cq) λb=>qF pR uQ b:=λ_ _ b=>by kernel_rfl
theorem D3 [ax]:SC (wL db):=s0 (.c aaF (.c ahO (.nil _))) (als lV oO)
def CS:=qa (pu (cu ep nil) (cd oA λb0=>(c jY (c lr (c (cl (gs b0.c.1 lq) nil) (cd oT λb4=>(cd nh λb5=>(cd ni λb6=>(cd nj λb7=>(cd nk λb8=>(cd nm λb9=>(c kG (cd pX λrI=>(c (cl (gs b0.e jq) nil) (c (cl (gs b4.b.1 aA) nil) (c (cl (gs b5.b.1 aA) nil) (c (cl (gs b6.b.1 aA) nil) (c (cl (gs b7.b.1 aA) nil) (c (cl (gs b8.b.1 aA) nil) (c (cl (gs b9.b.1 aA) nil) (cl (cl (gs rI.b fX) nil) nil)))))))))))))))))))))
def Ix:=qe (res (pl aSz (pu aie nil)))
abbrev YF:=Ix.B
abbrev atX:=CS.B->Option YF
def YG (g:atX):Ct:=(40,FC CS (lf Ix) g)
def YH (rn:I3)(x:CS.B):Pg YF:=let n2:=x.2.2.2.2.2.2.2.2.2.2.2;let n1:=n2.2.2.2.2.2.2.2.2;let n3:=n1.2.2.2.2.2;ae (Nat.beq n2.1.2.2 n2.1.2.2) (opt (rn n2.1.1 n2.1.2.1 n2.1.2.2 n1.1 n1.2.1 n1.2.2.1 n1.2.2.2.1 n1.2.2.2.2.1 n3.1 n3.2.1 n3.2.2.1 n3.2.2.2.1 n3.2.2.2.2.1 n3.2.2.2.2.2) λd=>ret d) no
def YI:=λx=>(YH yU x).val
theorem atY:∀rn,D0 [I4 rn] 40 CS (lf Ix) λb=>YH rn b:=λ_ b=>by kernel_rfl
theorem atZ [ax]:SC (YG YI):=s0 (.c ab9 (.nil _)) (atY yU)
def qG:=qa (pr (cu ep fT) (cd oA λb0=>(c jY (c lr (c (cl (gs b0.c.1 lq) nil) (cd oT λb4=>(cd nh λb5=>(cd ni λb6=>(cd nj λb7=>(cd nk λb8=>(cd nm λb9=>(c kG (cd pX λrI=>(c (cl (gs b0.e jq) nil) (c (cl (gs b4.b.1 aA) nil) (c (cl (gs b5.b.1 aA) nil) (c (cl (gs b6.b.1 aA) nil) (c (cl (gs b7.b.1 aA) nil) (c (cl (gs b8.b.1 aA) nil) (c (cl (gs b9.b.1 aA) nil) (cl (cl (gs rI.b fX) nil) nil)))))))))))))))))))))
def Cr:=qe (res (pl (aa aRT) (pu aie nil)))
abbrev Ps:=Cr.B
abbrev alu:=qG.B->Option Ps
def Pu (g:alu):Ct:=(17,FC qG (lf Cr) g)
def D4 (pS:GQ)(x:qG.B):Pg Ps:=let n1:=x.2.2.2.2.2.2.2.2.2.2.2.1;let n2:=n1.1.2.2;opt (pS x.1 n1.1.1 n1.1.2.1 n2.1 n2.2.1 n2.2.2.1 n2.2.2.2 n1.2) λd=>ret d
def wM:=λx=>(D4 lW x).val
theorem alv:∀pS,D0 [GR pS] 17 qG (lf Cr) λb=>D4 pS b:=λ_ b=>by kernel_rfl
theorem alw [ax]:SC (Pu wM):=s0 (.c aaH (.nil _)) (alv lW)
def ma:=qa (pr (cu ep Fu) (cd oA λb0=>(c jY (c lr (c (cl (gs b0.c.1 lq) nil) (cd oT λb4=>(cd nh λb5=>(cd ni λb6=>(cd nj λb7=>(cd nk λb8=>(cd nm λb9=>(c kG (cd pX λrI=>(c (cl (gs b0.e jq) nil) (c (cl (gs b4.b.1 aA) nil) (c (cl (gs b5.b.1 aA) nil) (c (cl (gs b6.b.1 aA) nil) (c (cl (gs b7.b.1 aA) nil) (c (cl (gs b8.b.1 aA) nil) (c (cl (gs b9.b.1 aA) nil) (cl (cl (gs rI.b fX) nil) nil)))))))))))))))))))))
def S7:=qe (res (pu Tl (pr (c (zM (a 26 u3 (c gb (c jo (a 2 w8 (cu afS (cu afT (c aGa (au 6 ada (cu am8 (a 4 Ca (cu am9 (c gb (c gi (a 3 jW (c gb (c gb (cu aus aMz)))))))))))))))))) aMG) aGC)))
def CT:=qe apE
abbrev pT:=(((Js×Bool×NI×(NI×NI)×Nat×tM×Bool×Int×nr×Bool×Bool×Int×Int×HI×Nat)×aID×Int)×NI×NI×NI×NI×NI×NI×NI×NI×NI×NI)⊕CT.B
def GW:pT->T:=ls (λd=>lf S7 (((d.1.1.1,d.1.1.2.1,d.1.1.b.1,d.1.1.b.2.1,d.1.1.c.1,d.1.1.c.2.1,d.1.1.c.b.1,d.1.1.c.b.2.1,d.1.1.d.1,d.1.1.d.2.1,d.1.1.d.b.1,d.1.1.d.b.2.1,d.1.1.d.b.2),d.1.2),d.1.1.d.c.b,d.2)) (lf CT)
abbrev GX:=ma.B->Option pT
def GY (g:GX):Ct:=(168,FC ma GW g)
def xG (sH:ae0)(AW:Wk)(cR:xX)(EZ:abX)(AY:Vv)(D5:akC)(bc:pf)(dw:DW)(fu:DI)(x:ma.B):Pg pT:=let n25:=x.1.2.2.2;let n22:=x.2.1.1;let n58:=n22.2.2.2.2;let n9:=x.2.1.2.2;let bL:=n9.2.2.2.2.2.2.2.2.2;let n7:=x.2.2;let n47:=n7.2.1;let n16:=n7.2.2;let n32:=n16.2.1;let n4:=n16.2.2;let n33:=n4.2.1;let n23:=n4.2.2.1;let n6:=n4.2.2.2;let n34:=n6.2.1;let n17:=n6.2.2.2;let y0:=n9.2.2.2.1.2.1==2;let y1:=Nat.beq n9.2.2.1 n9.2.2.1;let y2:=Nat.beq bL.2.2.2.2.2 bL.2.2.2.2.2;let y3:=Nat.beq n32.2.2.1 n32.2.2.1;let y4:=Nat.beq n4.1.2.2.1 n4.1.2.2.1;let y5:=Nat.beq n33.2.2.1 n33.2.2.1;let y6:=Nat.beq n23.2.2.1 n23.2.2.1;let y7:=Nat.beq n6.1.2.2.1 n6.1.2.2.1;let y8:=Nat.beq n34.2.2.1 n34.2.2.1;let y9:=Nat.beq n17.1.2.2 n17.1.2.2;opt (sH x.1.1 x.1.2.1 x.1.2.2.1 n25.1 n25.2.1 n25.2.2.1 n25.2.2.2.1 n25.2.2.2.2.1 n25.2.2.2.2.2 x.2.1.2.1) λd=>let n57:=d.1.1;let bx:=n57.2.2;let n38:=bx.2.2;let n1:=((n57.1,n57.2.1,bx.1),(bx.2.1,n38.1,n38.2.1),n38.2.2);let n3:=(AW (n1,(n22,d.2,n9),n7));let n2:=(n9.1,n1,n58.1.1);ae (!bL.1) (ae y1 (ae y2 (ae y3 (ae y4 (ae y5 (ae y6 (ae y7 (ae y8 (ae y9 (opt n3 λd=>let aY:=d.1.2.2.2.2;let n26:=aY.2.2.2.2;let n48:=n26.2.2.2.2.2;ae (Nat.beq aY.1 aY.1) (ae (Nat.beq n48.2.2.2 n48.2.2.2) (ae y3 (ae y4 (ae y5 (ae y6 (ae y7 (ae y8 (ae y9 (opt (cR (0,d.1,n7.1,n47,n16.1,n32,n4.1,n33,n23,n6.1,n34,n6.2.2.1,n17.1,d.2,n17.2.2)) λaj=>ret (Sum.inl (((d.1.1,d.1.2.1,d.1.2.2.1,d.1.2.2.2.1,aY.1,aY.2.1,aY.2.2.1,aY.2.2.2.1,n26.1,n26.2.1,n26.2.2.1,n48),aj),d.2))) no) no) no) no) no) no) no) no) no) no) no) no) no) no) no) no) no) no) (ae (decide (wI (bL.2.2.1-bL.2.1)>n58.2.2.2.2.1)) (ae y1 (ae y2 (ae y3 (ae y4 (ae y5 (ae y6 (ae y7 (ae y8 (ae y9 (opt n3 λd=>let bh:=d.1.2.2.2.2;let n27:=bh.2.2.2.2;let n49:=n27.2.2.2.2.2;ae (Nat.beq bh.1 bh.1) (ae (Nat.beq n49.2.2.2 n49.2.2.2) (ae y3 (ae y4 (ae y5 (ae y6 (ae y7 (ae y8 (ae y9 (opt (cR (0,d.1,n7.1,n47,n16.1,n32,n4.1,n33,n23,n6.1,n34,n6.2.2.1,n17.1,d.2,n17.2.2)) λaj=>ret (Sum.inl (((d.1.1,d.1.2.1,d.1.2.2.1,d.1.2.2.2.1,bh.1,bh.2.1,bh.2.2.1,bh.2.2.2.1,n27.1,n27.2.1,n27.2.2.1,n49),aj),d.2))) no) no) no) no) no) no) no) no) no) no) no) no) no) no) no) no) no) no) (opt (EZ n9.1 n57.1 n57.2.1 bx.1 bx.2.1 n38.1 n38.2.1 n38.2.2.1 n38.2.2.2 n58.1.1 d.2) λaj=>let n35:=aj.2.1;let n24:=aj.2.2.1;let n8:=aj.2.2.2;let n55:=n8.2.2.1;let n36:=n8.2.1;let n5:=n8.2.2.2;let n56:=n5.2.2.1;let bp:=n5.2.2.2;let n37:=bp.2.2;opt (AY (n2,aj.1,n7.1)) λaI=>sm aI (λbz=>ae y0 (opt (D5 (n2,bz.2,n7.1)) λd=>ae y1 (ae y2 (ae y3 (ae y4 (ae y5 (ae y6 (ae y7 (ae y8 (ae y9 (opt (bc ((0,4,true),(n22,d.2,n9),(awo (λk=>cr (n35 k) [d.1.1.1 k,bp.1 k,n55 k,n35 k]) (cr n24 [d.1.1.2.1,bp.2.1,n5.1,n24],cr n8.1 [d.1.1.2.2.1,n37.1,n5.2.1,n8.1],cr n36 [d.1.1.2.2.2,n37.2,n56,n36])),n7)) λd=>let n39:=d.2.2;let n18:=d.2.1;let n50:=n18.1.2.2.2.2;let Jp:=n18.2.1.2;let n28:=n50.2.2.2.2.2.2.2.2.2.2.2.2;let y0:=wI (Int.ofNat d.1-1);let y1:=Int.toNat y0;ae (Nat.beq d.1 d.1) (ae (Nat.beq n50.1 n50.1) (ae (Nat.beq n28 n28) (ae y3 (ae y4 (ae y5 (ae y6 (ae y7 (ae y8 (ae y9 (opt (dw ((d.1,true),n18.1,n39,n7.1,n47,n16.1,n32,n4.1,n33,n23,n6.1,n34,n18.2,n17)) λcq=>ae (cq.2.2.2.2.2.1.2.1==2) (ae (aX 2 d.1) (ae (aX y0 d.1) (opt (fu (n39.1 2) (n39.2.1 2) (n39.2.2 2) (n39.1 y1) (n39.2.1 y1) (n39.2.2 y1) n18.2.1.1 Jp.1 Jp.2.1 Jp.2.2.1 Jp.2.2.2.1 Jp.2.2.2.2 n18.2.2) λd=>ret (Sum.inr (cq,d))) no) no) (ret (Sum.inr (cq,n18.2)))) no) no) no) no) no) no) no) no) no) no) no) no) no) no) no) no) no) no) no) (ae y1 (ae y2 (ae y3 (ae y4 (ae y5 (ae y6 (ae y7 (ae y8 (ae y9 (opt (bc ((0,3,true),(n22,bz.2,n9),(awo (λk=>cr (n35 k) [bp.1 k,n55 k,n35 k]) (cr n24 [bp.2.1,n5.1,n24],cr n8.1 [n37.1,n5.2.1,n8.1],cr n36 [n37.2,n56,n36])),n7)) λd=>let Jq:=d.2.2;let n19:=d.2.1;let Nk:=n19.1.2.2.2.2;let GZ:=n19.2.1.2;let n29:=Nk.2.2.2.2.2.2.2.2.2.2.2.2;let y0:=wI (Int.ofNat d.1-1);let y1:=Int.toNat y0;ae (Nat.beq d.1 d.1) (ae (Nat.beq Nk.1 Nk.1) (ae (Nat.beq n29 n29) (ae y3 (ae y4 (ae y5 (ae y6 (ae y7 (ae y8 (ae y9 (opt (dw ((d.1,true),n19.1,Jq,n7.1,n47,n16.1,n32,n4.1,n33,n23,n6.1,n34,n19.2,n17)) λcq=>ae (cq.2.2.2.2.2.1.2.1==2) (ae (aX 2 d.1) (ae (aX y0 d.1) (opt (fu (Jq.1 2) (Jq.2.1 2) (Jq.2.2 2) (Jq.1 y1) (Jq.2.1 y1) (Jq.2.2 y1) n19.2.1.1 GZ.1 GZ.2.1 GZ.2.2.1 GZ.2.2.2.1 GZ.2.2.2.2 n19.2.2) λd=>ret (Sum.inr (cq,d))) no) no) (ret (Sum.inr (cq,n19.2)))) no) no) no) no) no) no) no) no) no) no) no) no) no) no) no) no) no) no) no)) (λbz=>let n59:=bz.2.2;let n15:=n59.2.2;let Jr:=n15.2.2;ae y0 (opt (D5 (n2,bz.1,n7.1)) λd=>ae y1 (ae y2 (ae y3 (ae y4 (ae y5 (ae y6 (ae y7 (ae y8 (ae y9 (opt (bc ((0,6,true),(n22,d.2,n9),(awo (λk=>cr (n35 k) [d.1.1.1 k,n15.2.1 k,bz.2.1 k,bp.1 k,n55 k,n35 k]) (cr n24 [d.1.1.2.1,Jr.1,n59.1,bp.2.1,n5.1,n24],cr n8.1 [d.1.1.2.2.1,Jr.2.1,n59.2.1,n37.1,n5.2.1,n8.1],cr n36 [d.1.1.2.2.2,Jr.2.2,n15.1,n37.2,n56,n36])),n7)) λd=>let Lh:=d.2.2;let n20:=d.2.1;let n53:=n20.1.2.2.2.2;let Li:=n20.2.1.2;let n30:=n53.2.2.2.2.2.2.2.2.2.2.2.2;let y0:=wI (Int.ofNat d.1-1);let y1:=Int.toNat y0;ae (Nat.beq d.1 d.1) (ae (Nat.beq n53.1 n53.1) (ae (Nat.beq n30 n30) (ae y3 (ae y4 (ae y5 (ae y6 (ae y7 (ae y8 (ae y9 (opt (dw ((d.1,true),n20.1,Lh,n7.1,n47,n16.1,n32,n4.1,n33,n23,n6.1,n34,n20.2,n17)) λcq=>ae (cq.2.2.2.2.2.1.2.1==2) (ae (aX 2 d.1) (ae (aX y0 d.1) (opt (fu (Lh.1 2) (Lh.2.1 2) (Lh.2.2 2) (Lh.1 y1) (Lh.2.1 y1) (Lh.2.2 y1) n20.2.1.1 Li.1 Li.2.1 Li.2.2.1 Li.2.2.2.1 Li.2.2.2.2 n20.2.2) λd=>ret (Sum.inr (cq,d))) no) no) (ret (Sum.inr (cq,n20.2)))) no) no) no) no) no) no) no) no) no) no) no) no) no) no) no) no) no) no) no) (ae y1 (ae y2 (ae y3 (ae y4 (ae y5 (ae y6 (ae y7 (ae y8 (ae y9 (opt (bc ((0,5,true),(n22,bz.1,n9),(awo (λk=>cr (n35 k) [n15.2.1 k,bz.2.1 k,bp.1 k,n55 k,n35 k]) (cr n24 [Jr.1,n59.1,bp.2.1,n5.1,n24],cr n8.1 [Jr.2.1,n59.2.1,n37.1,n5.2.1,n8.1],cr n36 [Jr.2.2,n15.1,n37.2,n56,n36])),n7)) λd=>let Ro:=d.2.2;let n21:=d.2.1;let n54:=n21.1.2.2.2.2;let n46:=n21.2.1.2;let n31:=n54.2.2.2.2.2.2.2.2.2.2.2.2;let y0:=wI (Int.ofNat d.1-1);let y1:=Int.toNat y0;ae (Nat.beq d.1 d.1) (ae (Nat.beq n54.1 n54.1) (ae (Nat.beq n31 n31) (ae y3 (ae y4 (ae y5 (ae y6 (ae y7 (ae y8 (ae y9 (opt (dw ((d.1,true),n21.1,Ro,n7.1,n47,n16.1,n32,n4.1,n33,n23,n6.1,n34,n21.2,n17)) λcq=>ae (cq.2.2.2.2.2.1.2.1==2) (ae (aX 2 d.1) (ae (aX y0 d.1) (opt (fu (Ro.1 2) (Ro.2.1 2) (Ro.2.2 2) (Ro.1 y1) (Ro.2.1 y1) (Ro.2.2 y1) n21.2.1.1 n46.1 n46.2.1 n46.2.2.1 n46.2.2.2.1 n46.2.2.2.2 n21.2.2) λd=>ret (Sum.inr (cq,d))) no) no) (ret (Sum.inr (cq,n21.2)))) no) no) no) no) no) no) no) no) no) no) no) no) no) no) no) no) no) no) no))))
def mb:=λx=>(xG Aw uC gV yP ua Dw dJ kt kq x).val
theorem aaO:∀sH AW cR EZ AY D5 bc dw fu,D0 [ae1 sH,Wl AW,xY cR,abY EZ,Vx AY,akD D5,pg bc,DX dw,DJ fu] 168 ma GW λb=>xG sH AW cR EZ AY D5 bc dw fu b:=λ_ _ _ _ _ _ _ _ _ b=>by kernel_rfl
theorem aaP [ax]:SC (GY mb):=s0 (.c ato (.c aqN (.c FZ (.c avR (.c aqs (.c aCL (.c uw (.c Pr (.c VQ (.nil _)))))))))) (aaO Aw uC gV yP ua Dw dJ kt kq)
end Go.Proofs.YtldgljclcgaibaaGreat
namespace Go.Proofs.YtldgljclcgaibaaGreat
open Go.Ab Go.Ab.Pg
theorem aaQ (x:Int):nP x=some (decide (0<=x)&&decide (x<6)):=by
 simp only[nP,SP,bJ,bP]
 by_cases h0:0<=x<;>simp[h0]
theorem aCZ {x:Int}(h:(decide (0<=x)&&decide (x<6))=true)(k:Nat)(hk:k<=6):aX x 6=true∧Nat.ble (0+Int.toNat x*6+k) 36=true∧Nat.ble (0+Int.toNat x*6+k) 37=true:=by
 simp only[Bool.and_eq_true,decide_eq_true_eq] at h
 simp only[bk,bO];omega
instance aEu (x0:Int)(x1:Int)(x2:Nat->Int)(x3:Nat->Int)(x4:Nat->Bool)(x5:Nat->Int)(x6:Nat->Int)(x7:Nat->Int)(x8:Int):bl (lU x0 x1 x2 x3 x4 x5 x6 x7 x8):=by
 unfold lU xu
 refine aF ?_
 rw[aaQ,bM,aK]
 refine⟨λh=> ?_,λ_=>by rw[av];trivial⟩
 obtain⟨h1,h2,h3⟩:=aCZ h 6 (by omega)
 simp only[bE,h1,h2,true_implies,Bool.true_eq_false,false_implies]
theorem xH (x0:Int)(x1:Int)(x2:Nat)(x3:Nat->Int)(x4:Nat->Int)(x5:Nat->Bool)(x6:Nat->Int)(x7:Nat->Int)(x8:Nat->Int)(x9:Int)(fP:Nat->Bool)(fQ:Nat->Int)(zO:Nat->Int)(w0:Bool)(h:x2<=1999):bl (lT x0 x1 x2 x3 x4 x5 x6 x7 x8 x9 fP fQ zO w0):=by
 have tc:=λa b c e=>aoJ x2 a b c e h
 unfold lT xq
 try dsimp only
 refine aF ?_
 rw[aaQ,bM,aK]
 refine⟨λ_=>by rw[av];trivial,λh=> ?_⟩
 rw[Bool.not_eq_false'] at h
 obtain⟨h1,h2,h3⟩:=aCZ h 3 (by omega)
 simp only[bE,h1,h2,h3,Bool.and_self,aM,true_implies,Bool.true_eq_false,false_implies]
theorem S8 (d:dh.B)(hd:0<=d.1.2.2∧d.1.2.2<=6):Ok (ue d) (λx:ig=>True):=
 ba (s:=_) (λd:dh.B=>0<=d.1.2.2∧d.1.2.2<=6) (λd:dh.B=>Int.toNat (6-d.1.2.2)) (λx:ig=>True) (λd hd=>by
  have hw:wI (d.1.2.2+1)=d.1.2.2+1:=bg (by omega) (by omega)
  unfold ud
  simp only[bE]
  simp only[nf,Bool.not_eq_true',rN,hw]
  repeat' (first|exact True.intro|omega|(intro _)|(apply And.intro))) 2000 d hd (by omega)
instance aEv (x0:Int)(x1:Nat->Int)(x2:Nat->Int)(x3:Nat->Bool)(x4:Nat->Int)(x5:Nat->Int)(x6:Nat->Int)(x7:Int):bl (lV x0 x1 x2 x3 x4 x5 x6 x7):=by
 unfold lV xw
 refine aF ?_
 refine ay (S8 _ (by simp)) λd _ hd=> ?_
 simp only[bE]
instance aZT (x:Int)(eQ:Bool):bl (zV x eQ):=by
 have h1:=oE x
 obtain⟨a,b,q,e,ho,hq,hv,_⟩:=akm (sat x) 30 (by omega) (by omega) (by omega)
 unfold zV ad4
 refine aF ?_
 rw[oL,bM,aK]
 refine⟨λ_=>by rw[av];trivial,λc=> ?_⟩
 have c:=of_decide_eq_false c
 have e30:(2:Int)^30=1073741824:=rfl
 have q1:q=true:=by rw[hq,e30];omega
 have v:=hv q1
 rw[e30] at v
 have e':sY (sat x) 30=some ((a,b),q):=e
 have h0:0<=a:=by
  obtain⟨o1,o2,o3,o4⟩:=ho
  simp only[vW] at v;omega
 obtain⟨r,hr,_,_⟩:=aqk a b ho h0
 rw[e',bM,as5 a b r _ ho h0 hr,bM,av]
 trivial
instance aX5 (x0:Nat->Int)(x3:Bool)(x4:Nat->Int)(w0:Bool):bl (iZ x0 4 3 x3 x4 w0):=VR _ _ _ _ _ _ (by omega) (by omega)
instance aX6 (x0:Nat->Int)(x3:Bool)(x4:Nat->Int)(w0:Bool):bl (iZ x0 7 2 x3 x4 w0):=VR _ _ _ _ _ _ (by omega) (by omega)
instance aX7 (x0:Nat->Int)(x3:Bool)(x4:Nat->Int)(w0:Bool):bl (iZ x0 9 1 x3 x4 w0):=VR _ _ _ _ _ _ (by omega) (by omega)
instance aVJ (x0:Nat->Int)(x1:Int)(x2:Bool):bl (kV x0 x1 x2):=by
 unfold kV afi
 exact aF (by simp only[bE,oM])
instance aUY (x0:Nat->Int)(x1:Int)(x2:Int)(x3:Int)(x4:Int)(x5:Int)(x6:Int)(x7:Int)(x8:Int)(x9:Int)(fP:Int)(fQ:Int):bl (pO x0 x1 x2 x3 x4 x5 x6 x7 x8 x9 fP fQ):=by
 unfold pO aaJ
 exact aF (by simp only[bE,oM])
instance aUZ (x:B6.B):bl (xC x):=by
 unfold xC Og
 try dsimp only
 exact aF (by simp only[bE,oM])
instance aDB (x:iF.B):bl (eS x):=by
 unfold eS oF
 exact aF (by simp only[bE,oM])
instance aIC (x:js.B):bl (fy x):=by
 unfold fy oP
 exact aF (by simp only[bE,oM])
instance aUk (x0:Int)(x1:Int)(x2:Int):bl (lZ x0 x1 x2):=by
 unfold lZ K5
 exact aF (by simp only[bE,oM])
instance aVK (x0:Int)(x1:Int)(x2:Int):bl (wE x0 x1 x2):=by
 unfold wE afl
 exact aF (by simp only[bE,oM])
instance aOX (x0:Nat->Int)(x1:Nat->Int)(x2:Nat->Int)(x3:Int)(x4:Int)(x5:Int)(x6:Int)(x7:Bool):bl (wF x0 x1 x2 x3 x4 x5 x6 x7):=by
 unfold wF K7
 try dsimp only
 exact aF (by simp only[bE,oM])
instance aLt (x0:Nat->Int)(x1:Nat->Int)(x2:Nat->Int)(x3:Int)(x4:Int)(x5:Int)(x6:Bool):bl (rO x0 x1 x2 x3 x4 x5 x6):=by
 unfold rO FO
 try dsimp only
 exact aF (by simp only[bE,oM])
instance aQX (x0:Nat->Int)(x1:Nat->Int)(x2:Nat->Int)(x3:Int)(x4:Int)(x5:Bool):bl (BB x0 x1 x2 x3 x4 x5):=by
 unfold BB Ri
 exact aF (by simp only[bE,oM])
instance aAo (x:jH.B):bl (gH x):=by
 unfold gH sj
 try dsimp only
 exact aF (by simp only[bE,oM])
instance ayv (x:iA.B):bl (fD x):=by
 unfold fD qo
 try dsimp only
 exact aF (by simp only[bE,oM])
instance aNK (x0:Int):bl (uj x0):=by
 unfold uj Ig
 exact aF (by simp only[bE,oM])
instance aKG (x0:Int)(x1:Int):bl (kr x0 x1):=by
 unfold kr DO
 exact aF (by simp only[bE,oM])
instance aLu:bl lx:=by
 unfold lx FW
 exact aF (by simp only[bE,oM])
instance aX8 (x0:Int):bl (yY x0):=by
 unfold yY ami
 exact aF (by simp only[bE,oM])
theorem av4 (d:fW.B)(hd:0<=d.1∧d.1<=3):Ok (Hy d) (λx:oy=>True):=
 ba (s:=_) (λd:fW.B=>0<=d.1∧d.1<=3) (λd:fW.B=>Int.toNat (3-d.1)) (λx:oy=>True) (λd hd=>by
  have hw:wI (d.1+1)=d.1+1:=bg (by omega) (by omega)
  unfold Hw
  simp only[bE]
  simp only[nf,Bool.not_eq_true',rN,hw]
  repeat' (first|exact True.intro|omega|(intro _)|(apply And.intro))) 2000 d hd (by omega)
theorem aC0 (d:ja.B)(hd:0<=d.1.2∧d.1.2<=24):Ok (GV d) (λx:ti=>True):=
 ba (s:=_) (λd:ja.B=>0<=d.1.2∧d.1.2<=24) (λd:ja.B=>Int.toNat (24-d.1.2)) (λx:ti=>True) (λd hd=>by
  have hw:wI (d.1.2+1)=d.1.2+1:=bg (by omega) (by omega)
  unfold Ol
  simp only[bE]
  simp only[nf,Bool.not_eq_true',rN,hw]
  repeat' (first|exact True.intro|omega|(intro _)|(apply And.intro))) 2000 d hd (by omega)
end Go.Proofs.YtldgljclcgaibaaGreat
namespace Go.Proofs.YtldgljclcgaibaaGreat
open Go.Ab Go.Ab.Pg
instance aEw (x0:Int)(x1:Nat->Int)(x2:Nat->Int)(x3:Nat->Bool)(x4:Nat->Int)(x5:Nat->Int)(x6:Nat->Int)(x7:Int):bl (lW x0 x1 x2 x3 x4 x5 x6 x7):=by
 unfold lW xA
 refine aF ?_
 rw[aaQ,bM,aK]
 refine⟨λ_=>by rw[av];trivial,λh=> ?_⟩
 rw[Bool.not_eq_false'] at h
 obtain⟨h1,h2,h3⟩:=aCZ h 6 (by omega)
 simp only[bE,h1,h2,true_implies,Bool.true_eq_false,false_implies]
instance aU0 (x0:Int)(x1:Int)(x2:Int)(x3:Int)(x4:Int)(x5:Int)(x6:Int)(x7:Int):bl (xB x0 x1 x2 x3 x4 x5 x6 x7):=by
 unfold xB Oe
 refine aF ?_
 refine ay (av4 _ (by simp)) λd _ hd=> ?_
 simp only[bE]
instance aKH (x:mP.B):bl (iz x):=by
 unfold iz wD
 try dsimp only
 exact aF (by simp only[bE,oM])
instance aWL (x:DM.B):bl (zA x):=by
 have key:∀d,(0<=d.1.2∧d.1.2<=24)->∀(k1 k2),(∀a,PQ (k1 a) λ_=>True)->(∀a,PQ (k2 a) λ_=>True)->PQ (opt (GV d) λx=>sum x k1 k2) (δ:=alh) (λ_=>True):=λd hd k1 k2 h1 h2=>by
  refine ay (aC0 d hd) λx _ _=> ?_
  rw[r9]
  exact⟨λa _=>h1 a,λa _=>h2 a⟩
 unfold zA YC
 try dsimp only
 refine aF ?_
 repeat' (first|(rw[aK];refine⟨λ_=>by rw[av];trivial,λ_=> ?_⟩)|(rw[bu];intro _ _))
 refine key _ (by simp) _ _ (λ_=>by rw[av];trivial) (λ_=> ?_)
 simp only[bE]
theorem Nl (n:Nat)(d:cL.B)(hd:0<=d.1.2.2∧d.1.2.2<=d.1.2.1∧d.1.2.1<=1999∧d.1.2.1=((d.1.1:Nat):Int)∧d.2.1.2.2=d.1.1∧d.1.1=n):Ok (qv d) (λx:fE=>x.1.1=n):=
 ba (s:=_) (λd:cL.B=>0<=d.1.2.2∧d.1.2.2<=d.1.2.1∧d.1.2.1<=1999∧d.1.2.1=((d.1.1:Nat):Int)∧d.2.1.2.2=d.1.1∧d.1.1=n) (λd:cL.B=>Int.toNat (d.1.2.1-d.1.2.2)) (λx:fE=>x.1.1=n) (λd hd=>by
  have hw:wI (d.1.2.2+1)=d.1.2.2+1:=bg (by omega) (by omega)
  unfold qu
  simp only[bE]
  simp only[nf,Bool.not_eq_true',rN,hw]
  repeat' (first|exact True.intro|exact hd.2.2.2.2.1|exact hd.2.2.2.2.2|omega|(intro _)|(apply And.intro))) 2000 d hd (by omega)
theorem Nm (n:Nat)(d:cM.B)(hd:0<=d.1.2.2∧d.1.2.2<=d.1.2.1∧d.1.2.1<=1999∧d.1.2.1=((d.1.1:Nat):Int)∧d.2.1.2.2=d.1.1∧d.1.1=n):Ok (qx d) (λx:fF=>x.1.1=n):=
 ba (s:=_) (λd:cM.B=>0<=d.1.2.2∧d.1.2.2<=d.1.2.1∧d.1.2.1<=1999∧d.1.2.1=((d.1.1:Nat):Int)∧d.2.1.2.2=d.1.1∧d.1.1=n) (λd:cM.B=>Int.toNat (d.1.2.1-d.1.2.2)) (λx:fF=>x.1.1=n) (λd hd=>by
  have hw:wI (d.1.2.2+1)=d.1.2.2+1:=bg (by omega) (by omega)
  unfold qw
  simp only[bE]
  simp only[nf,Bool.not_eq_true',rN,hw]
  repeat' (first|exact True.intro|exact hd.2.2.2.2.1|exact hd.2.2.2.2.2|omega|(intro _)|(apply And.intro))) 2000 d hd (by omega)
end Go.Proofs.YtldgljclcgaibaaGreat
namespace Go.Proofs.YtldgljclcgaibaaGreat
open Go.Ab Go.Ab.Pg
theorem Rp (x:jI.B)(h:x.1.2.2<=1999):Ok (jJ x) (λr:sk=>r.2.1=x.1.2.2):=by
 unfold jJ ss
 show PQ _ _
 rw[aM,bB]
 refine⟨rfl,ay (Nl x.1.2.2 _ ?_) λd _ hd=> ?_⟩
 ·dsimp only
  simp only[Int.ofNat_eq_natCast]
  exact⟨by omega,by omega,by omega,trivial,trivial,trivial⟩
 ·rw[av];exact hd
theorem Rr (x:jK.B)(h:x.1.2.2<=1999):Ok (jL x) (λr:sx=>r.2.1=x.1.2.2):=by
 unfold jL sC
 show PQ _ _
 rw[aM,bB]
 refine⟨rfl,ay (Nm x.1.2.2 _ ?_) λd _ hd=> ?_⟩
 ·dsimp only
  simp only[Int.ofNat_eq_natCast]
  exact⟨by omega,by omega,by omega,trivial,trivial,trivial⟩
 ·rw[av];exact hd
theorem Lj (d:cw.B)(hd:0<=d.1.2.2.2.2∧d.1.2.2.2.2<=d.1.2.2.2.1∧d.1.2.2.2.1<=1999∧d.1.2.2.2.1=((d.1.2.2.1.1:Nat):Int)):Ok (oD d) (λx:eU=>True):=
 ba (s:=_) (λd:cw.B=>0<=d.1.2.2.2.2∧d.1.2.2.2.2<=d.1.2.2.2.1∧d.1.2.2.2.1<=1999∧d.1.2.2.2.1=((d.1.2.2.1.1:Nat):Int)) (λd:cw.B=>Int.toNat (d.1.2.2.2.1-d.1.2.2.2.2)) (λx:eU=>True) (λd hd=>by
  have hw:wI (d.1.2.2.2.2+1)=d.1.2.2.2.2+1:=bg (by omega) (by omega)
  unfold oC
  simp only[bE]
  simp only[nf,Bool.not_eq_true',rN,hw]
  repeat' (first|exact True.intro|omega|(intro _)|(apply And.intro))) 2000 d hd (by omega)
theorem Pv (x0:Nat)(x1:Nat)(x2:Nat->Int)(x3:Nat->Int)(w0:Bool)(w1:Bool)(h:x0<=1999):bl (fG x0 x1 x2 x3 w0 w1):=by
 unfold fG qy
 refine aF ?_
 rw[aM,aM,bB,bB]
 refine⟨rfl,rfl,ay (Lj _ (hdN x0 h)) λd _ hd=> ?_⟩
 simp only[bE]
instance aWM (x2 x3:Nat->Int)(w0 w1:Bool):bl (fG 8 8 x2 x3 w0 w1):=Pv _ _ _ _ _ _ (by omega)
instance aQY (x:BC.B):bl (rH x):=by
 unfold rH Rl
 try dsimp only
 exact aF (by simp only[bE,oM])
theorem nW (n:Nat)(d:aO.B)(hd:0<=d.1.2.2.1∧d.1.2.2.1<=d.1.2.2.2∧d.1.2.2.2<=(n:Int)∧d.1.1.1=n∧n<=1999∧d.1.2.1=(n:Int)):Ok (dr d) (λx:bq=>0<=x.1.2.2.1∧x.1.2.2.1<=(n:Int)∧x.1.1.1=n∧x.1.2.1=(n:Int)):=
 ba (s:=_) (λd:aO.B=>0<=d.1.2.2.1∧d.1.2.2.1<=d.1.2.2.2∧d.1.2.2.2<=(n:Int)∧d.1.1.1=n∧n<=1999∧d.1.2.1=(n:Int)) (λd:aO.B=>Int.toNat (d.1.2.2.2-d.1.2.2.1)) (λx:bq=>0<=x.1.2.2.1∧x.1.2.2.1<=(n:Int)∧x.1.1.1=n∧x.1.2.1=(n:Int)) (λd hd=>by
  have h1:wI (d.1.2.2.1+d.1.2.2.2)=d.1.2.2.1+d.1.2.2.2:=ey (by omega) (by omega)
  have h2:wU (d.1.2.2.1+d.1.2.2.2)=d.1.2.2.1+d.1.2.2.2:=by show IntKind.wrap .u64 _=_;rw[wrap_u64];omega
  have h3:Int.fdiv (d.1.2.2.1+d.1.2.2.2) 2=(d.1.2.2.1+d.1.2.2.2)/2:=Int.fdiv_eq_ediv_of_nonneg _ (by omega)
  have h4:wI ((d.1.2.2.1+d.1.2.2.2)/2)=(d.1.2.2.1+d.1.2.2.2)/2:=ey (by omega) (by omega)
  have h5:wI ((d.1.2.2.1+d.1.2.2.2)/2+1)=(d.1.2.2.1+d.1.2.2.2)/2+1:=ey (by omega) (by omega)
  unfold dq
  simp only[h1,h2,h3,h4,h5]
  simp only[bE]
  simp only[nf,Bool.not_eq_true',rN]
  repeat' (first|exact True.intro|omega|(intro _)|(apply And.intro))) 2000 d hd (by omega)
theorem aC1 (x:bQ.B)(h:x.1.1.1<=1999):Ok (bR x) (λr:dz=>0<=r.1∧r.1<=(x.1.1.1:Int)):=by
 unfold bR dA
 try dsimp only
 show PQ _ _
 rw[aM,bB]
 refine⟨rfl,ay (nW x.1.1.1 _ ?_) λd _ hd=> ?_⟩
 ·try dsimp only
  simp only[Int.ofNat_eq_natCast]
  exact⟨by omega,by omega,by omega,trivial,h,trivial⟩
 ·obtain⟨a1,a2,a3,a4⟩:=hd
  simp only[bE,a3,a4]
  simp only[nf,Bool.not_eq_true',rN]
  exact⟨λc=>⟨λ_ _ _=>⟨a1,a2⟩,⟨a1,c⟩⟩,λ_=>⟨a1,a2⟩⟩
theorem ayw (n:Nat)(i:Int)(h0:0<=i)(h1:i<=(n:Int))(hn:n<=1999)(x2 x3 x4 x5 x6 x7 x8 x9 fP fQ zO x13 x14 x15 x16 x17 x18 x19:Nat->Int)(w1:Bool):
  Ok (eu n i x2 x3 x4 x5 x6 x7 x8 x9 fP fQ zO x13 x14 x15 x16 x17 x18 x19 1 true w1) (λr:fY=>r.1=n+1):=by
 have b1:Nat.ble (Int.toNat i) n=true:=by rw[bO];omega
 have b2:Nat.ble ((n+1)*72) 140737488355328=true:=by rw[bO];omega
 unfold eu
 rw[b1,b2,decide_eq_true h0]
 exact⟨_,rfl,rfl⟩
theorem ayx (n:Nat)(i j:Int)(h0:0<=i)(h1:i<=j)(h2:j<=(n:Int))(x3 x4 x5 x6 x7 x8 x9 fP fQ:Nat->Int):
  Ok (cC n i j x3 x4 x5 x6 x7 x8 x9 fP fQ true) (λr:fZ=>r.1=Int.toNat i+(n-Int.toNat j)):=by
 have b1:Nat.ble (Int.toNat i) (Int.toNat j)=true:=by rw[bO];omega
 have b2:Nat.ble (Int.toNat j) n=true:=by rw[bO];omega
 unfold cC
 rw[b1,b2,decide_eq_true h0,decide_eq_true (show 0<=j by omega)]
 exact⟨_,rfl,rfl⟩
theorem aNL (n:Nat)(hn:n<=1999)(x1 x2 x3 x4 x5 x6 x7 x8 x9:Nat->Int)(w:Bool):
  Ok (eH n x1 x2 x3 x4 x5 x6 x7 x8 x9 w) (λr:gG=>r.1=n):=by
 have b1:Nat.ble (n*72) 140737488355328=true:=by rw[bO];omega
 unfold eH
 rw[b1]
 exact⟨_,rfl,rfl⟩
end Go.Proofs.YtldgljclcgaibaaGreat
namespace Go.Proofs.YtldgljclcgaibaaGreat
open Go.Ab Go.Ab.Pg
theorem aKI (s:Nat)(hs:s<=120)(n:Nat)(hn:n<=100)(eQ:Bool)(f:Nat->Int)(w w':Bool):
  tK (Int.ofNat s) n n eQ f w w'=some (sat (KH (xQ (λj=>sat (f j)*sat (f j)) n) s),(eQ||Dt (λj=>eV (f j)||eV (f j)) n)||eV (KH (xQ (λj=>sat (f j)*sat (f j)) n) s)):=by
 simp only[tK,Nc,Pg.bP,Pg.bJ,Pg.cm,Pg.eG,Pg.dL]
 try delta wI wU
 unfold Ic
 have n0:decide (Int.ofNat s<0)=false:=by simp
 have n1:decide (Int.ofNat s>120)=false:=by simp only[Int.ofNat_eq_natCast];exact decide_eq_false (by omega)
 have m:(if 100<if Int.ofNat n<Int.ofNat n then Int.ofNat n else Int.ofNat n then 100 else if Int.ofNat n<Int.ofNat n then Int.ofNat n else Int.ofNat n)=Int.ofNat n:=by
  have e:¬Int.ofNat n<Int.ofNat n:=by omega
  rw[if_neg e,if_neg (by simp only[Int.ofNat_eq_natCast];omega)]
 rw[n0,n1,cond_false,cond_false,Nat.beq_refl,cond_true,m]
 refine MO (λt d=>∃(i:Nat) (h l':Int),i+t=n∧okW h l'∧vW h l'=xQ (λj=>sat (f j)*sat (f j)) i∧d=((Int.ofNat s,(n,w),(n,w'),Int.ofNat n,Int.ofNat i),(eQ||Dt (λj=>eV (f j)||eV (f j)) i),f,h,l')) ?_ 2000 n _ (by omega)
  ⟨0,0,0,by omega,⟨by omega,by omega,by omega,by omega⟩,rfl,by simp only[Dt,Bool.or_false];rfl⟩
 rintro t _ c ⟨i,h,l',hi,ho,hv,rfl⟩ hc
 have bnd:=akk (λj=>sat (f j)*sat (f j)) 1329227995784915872903807060280344576 (by omega) i (λj _=>abJ _ _)
 rcases Nat.eq_zero_or_pos t with t0|t0
 ·have e:i=n:=by omega
  subst e
  simp only[AG,Pg.tP,Pg.tQ,Pg.yw,Pg.Et,Pg.tT,Sum.elim_inl,Sum.elim_inr,wI,as2 (Nat.le_refl i),cond_false,aeR h l' s _ hs ho,hv,Option.bind_some]
 ·have hs1:=oE (f i)
  have TB:=oE (f i)
  have hm:=abJ (f i) (f i)
  obtain⟨h1,l1,e1,o1,v1⟩:=BY (sat (f i)) (sat (f i)) (by omega) (by omega) (by omega) (by omega)
  obtain⟨h2,l2,e2,o2,v2⟩:=aeS (λj:Nat=>bif Nat.beq j 1 then h1 else bif Nat.beq j 0 then h else h) (λj:Nat=>bif Nat.beq j 1 then l1 else bif Nat.beq j 0 then l' else l') true
   ho o1 (by show _<=vW h l'+vW h1 l1;rw[hv,v1];omega) (by show vW h l'+vW h1 l1<_;rw[hv,v1];omega)
  have v2:vW h2 l2=vW h l'+vW h1 l1:=v2
  rw[hv,v1] at v2
  have q:Int.toNat (Int.ofNat i)=i:=rfl
  simp only[AG,Pg.tP,Pg.tQ,Pg.yw,Pg.Et,Pg.tT,Sum.elim_inl,Sum.elim_inr,wI,as1 hi t0,as3 (show i<n by omega),cond_true,q,oL,Option.bind_some,e1,e2,as4 (show i<9000000000000000000 by omega)]
  refine hc (t-1) _ (by omega) ⟨i+1,h2,l2,by omega,o2,v2,?_⟩
  simp only[Dt,Bool.or_assoc]
instance aX9 (eQ:Bool)(f:Nat->Int)(w w':Bool):bl (tK 30 2 2 eQ f w w'):=⟨_,aKI 30 (by omega) 2 (by omega) eQ f w w'⟩
instance aNM (x0:Nat->Int)(x1:Int)(x2:Int)(x3:Int)(x4:Bool):bl (uh x0 x1 x2 x3 x4):=by
 unfold uh Ie
 exact aF (by simp only[bE,oM])
instance aQZ (x0:Int)(x1:Int)(x2:Int)(x3:Int)(x4:Int)(x5:Int)(x6:Int)(x7:Int)(x8:Int)(x9:Int):bl (BE x0 x1 x2 x3 x4 x5 x6 x7 x8 x9):=by
 unfold BE Rn
 exact aF (by simp only[bE,oM])
end Go.Proofs.YtldgljclcgaibaaGreat
namespace Go.Proofs.YtldgljclcgaibaaGreat
open Go.Ab Go.Ab.Pg
theorem aH2 (x:ur.B)(h:x.1.2.1<=1999):bl (iT x):=by
 have tr:=λa b c d e g i j k l m w=>xH a b x.1.2.1 c d e g i j k l m w
 unfold iT Im
 try dsimp only
 refine aF ?_
 rw[aM,bB]
 refine⟨rfl,?_⟩
 have:=xH
 refine ay (bl.Ok (xH _ _ _ _ _ _ _ _ _ _ _ _ _ _ h) (Q:=λ_=>True) λ_ _=>trivial) λd _ _=> ?_
 rw[av];trivial
instance aYV (x:rP.B):bl (gV x):=by
 unfold gV FY
 try dsimp only
 refine aF ?_
 iterate 9 (rw[aM,bB];refine⟨rfl,?_⟩)
 refine ay (bl.Ok (aH2 ((x.1,1,true),_) (by show 1<=1999;omega)) (Q:=λ_=>True) λ_ _=>trivial) λd _ _=> ?_
 rw[av];trivial
instance aYa (x:qC.B):bl (c9 x):=by
 unfold c9 DU
 try dsimp only
 refine aF ?_
 iterate 9 (rw[aM,bB];refine⟨rfl,?_⟩)
 refine ay (bl.Ok (aH2 ((x.1,1,true),_) (by show 1<=1999;omega)) (Q:=λ_=>True) λ_ _=>trivial) λd _ _=> ?_
 rw[av];trivial
theorem Px (x:uu.B)(h:x.2.1.2.2.2.2.2.2.2.2.2.2.2.2.2.2.2.2<=100000):Ok (mE x) (λr:AN=>r.1.2.2.2.2.2.2.2.2.2.2.2.2.2.2.2.2=x.2.1.2.2.2.2.2.2.2.2.2.2.2.2.2.2.2.2+1∧r.1.2.2.2.2.1=x.2.1.2.2.2.2.1∧r.1.2.2.2.2.2.2.2.2.2.2.2.2.2.1=x.2.1.2.2.2.2.2.2.2.2.2.2.2.2.2.1):=by
 unfold mE Ir
 try dsimp only
 show PQ _ _
 rw[bB,av]
 exact⟨by rw[bO];omega,rfl,rfl,rfl⟩
theorem acn (x:uv.B)(h:x.1.2.1<=1999):Ok (dJ x) (λr:AO=>r.1=x.1.2.1∧r.2.1.1.2.2.2.2.2.2.2.2.2.2.2.2.2.2.2.2=x.2.1.2.2.2.2.2.2.2.2.2.2.2.2.2.2.2.2∧r.2.1.1.2.2.2.2.1=x.2.1.2.2.2.2.1∧r.2.1.1.2.2.2.2.2.2.2.2.2.2.2.2.2.1=x.2.1.2.2.2.2.2.2.2.2.2.2.2.2.2.1):=by
 unfold dJ Is
 try dsimp only
 show PQ _ _
 rw[aM,bB]
 refine⟨rfl,ay (aHX _ h) λd _ hd=> ?_⟩
 iterate 10 (rw[aM,bB];refine⟨rfl,?_⟩)
 refine ay (bl.Ok (aH2 ((x.1.1,d.1.2.2,true),_) (by show d.1.2.2<=1999;rw[hd];exact h)) (Q:=λ_=>True) λ_ _=>trivial) λd1 _ _=> ?_
 rw[av]
 exact⟨hd,rfl,rfl,rfl⟩
theorem Wo (x:qE.B)(h:x.1.1<=1999):Ok (kt x) (λr:DV=>r.2.2.2.2.2.2.2.2.2.2.2.2.2.2.2.2=x.2.1.2.2.2.2.2.2.2.2.2.2.2.2.2.2.2.2∧r.2.2.2.2.1=x.2.1.2.2.2.2.1∧r.2.2.2.2.2.2.2.2.2.2.2.2.2.1=x.2.1.2.2.2.2.2.2.2.2.2.2.2.2.2.1):=by
 unfold kt DY
 try dsimp only
 show PQ _ _
 rw[aM,bB]
 refine⟨rfl,ay (bl.Ok (aoJ x.1.1 _ _ _ _ h) (Q:=λ_=>True) λ_ _=>trivial) λd1 _ _=> ?_⟩
 rw[aK]
 exact⟨λ_=>by rw[av];exact⟨rfl,rfl,rfl⟩,λ_=>by rw[av];exact⟨rfl,rfl,rfl⟩⟩
theorem aUl (x:uB.B)(h:x.2.1.2.2.2.2.2.2.2.2.2.2.2.2.2.2.2.2<=90000):Ok (uC x) (λr:AS=>r.1.2.2.2.2.2.2.2.2.2.2.2.2.2.2.2.2<=x.2.1.2.2.2.2.2.2.2.2.2.2.2.2.2.2.2.2+3∧r.1.2.2.2.2.1=x.2.1.2.2.2.2.1∧r.1.2.2.2.2.2.2.2.2.2.2.2.2.2.1=x.2.1.2.2.2.2.2.2.2.2.2.2.2.2.2.1):=by
 unfold uC Iu
 try dsimp only
 show PQ _ _
 simp only[aM]
 rw[bu];intro d _
 rw[bu];intro d1 _
 iterate 9 (rw[bB];refine⟨rfl,?_⟩)
 refine ay (Px _ (show x.2.1.2.2.2.2.2.2.2.2.2.2.2.2.2.2.2.2<=100000 by omega)) λd2 _ h2=> ?_
 have h2:d2.1.2.2.2.2.2.2.2.2.2.2.2.2.2.2.2.2=x.2.1.2.2.2.2.2.2.2.2.2.2.2.2.2.2.2.2+1∧d2.1.2.2.2.2.1=x.2.1.2.2.2.2.1∧d2.1.2.2.2.2.2.2.2.2.2.2.2.2.2.1=x.2.1.2.2.2.2.2.2.2.2.2.2.2.2.2.1:=h2
 rw[bu];intro d3 _
 iterate 9 (rw[bB];refine⟨rfl,?_⟩)
 refine ay (Px _ (show d2.1.2.2.2.2.2.2.2.2.2.2.2.2.2.2.2.2<=100000 by omega)) λd4 _ h4=> ?_
 have h4:d4.1.2.2.2.2.2.2.2.2.2.2.2.2.2.2.2.2=d2.1.2.2.2.2.2.2.2.2.2.2.2.2.2.2.2.2+1∧d4.1.2.2.2.2.1=d2.1.2.2.2.2.1∧d4.1.2.2.2.2.2.2.2.2.2.2.2.2.2.1=d2.1.2.2.2.2.2.2.2.2.2.2.2.2.2.1:=h4
 rw[aK]
 refine⟨λ_=> ?_,λ_=>by rw[av];omega⟩
 rw[bu];intro d5 _
 iterate 9 (rw[bB];refine⟨rfl,?_⟩)
 refine ay (Px _ (show d4.1.2.2.2.2.2.2.2.2.2.2.2.2.2.2.2.2<=100000 by omega)) λd6 _ h6=> ?_
 have h6:d6.1.2.2.2.2.2.2.2.2.2.2.2.2.2.2.2.2=d4.1.2.2.2.2.2.2.2.2.2.2.2.2.2.2.2.2+1∧d6.1.2.2.2.2.1=d4.1.2.2.2.2.1∧d6.1.2.2.2.2.2.2.2.2.2.2.2.2.2.1=d4.1.2.2.2.2.2.2.2.2.2.2.2.2.2.1:=h6
 rw[av];omega
end Go.Proofs.YtldgljclcgaibaaGreat
