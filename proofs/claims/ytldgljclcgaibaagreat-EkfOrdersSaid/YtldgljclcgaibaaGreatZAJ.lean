/-
  Parts of the proof: Q4 TI TJ TK TL TM TN
-/
import Derived.Test.YtldgljclcgaibaaGreatZAE
import Derived.Test.YtldgljclcgaibaaGreatZAI
open Nat renaming beq→ww,ble→wl,blt→v9
open Int renaming toNat→wt,ofNat→wn
open Sum renaming inl→ws,inr→wr,elim→t7
set_option linter.all false
set_option maxRecDepth 100000
set_option maxHeartbeats 4000000
noncomputable section
namespace Go.Proofs.YtldgljclcgaibaaGreat
open Go.Ab Go.Ab.Pg Go.Ab.Rq
def IL:=qa (pr (cu az8 gW) aEj)
def wY:=qe (res (pu (app 1 6) (pu Z8 (cl aWu nil))))
abbrev IM:=wY.B
abbrev IN:=Int->NI->NI->(Nat->Bool)->NI->NI->NI->Int->Option IM
def IP (g:IN):Ct:=(45,FC IL (lf wY) (λb=>g b.1 b.2.1.1 b.2.1.2.1 b.2.1.b.1 b.2.1.b.2.1 b.2.1.c.1 b.2.1.c.2 b.b))
def zC (ko:VC)(x0:Int)(x1:Nat->Int)(x2:Nat->Int)(x3:Nat->Bool)(x4:Nat->Int)(x5:Nat->Int)(x6:Nat->Int)(x7:Int):Pg IM:=opt (ko x0) λd=>ae (!d) (ret (0,0,false,0,0,0)) (ae (aX x0 6) (ae (wl (0+wt x0*6+6) 36) (ret ((x1,x2,x3,x4,x5,x6).1 (wt x0),(x2,x3,x4,x5,x6).1 (wt x0),(x3,x4,x5,x6).1 (wt x0),(x4,x5,x6).1 (wt x0),x5 (wt x0),x6 (wt x0))) no) no)
def m5:=λx0 x1 x2 x3 x4 x5 x6 x7=>(zC o9 x0 x1 x2 x3 x4 x5 x6 x7).val
theorem adK:∀ko,D0 [VD ko] 45 IL (lf wY) λb=>zC ko b.1 b.2.1.1 b.2.1.2.1 b.2.1.b.1 b.2.1.b.2.1 b.2.1.c.1 b.2.1.c.2 b.b:=λ_ b=>by kernel_rfl
theorem adL [ax]:SC (IP m5):=s0 (.c aip (.nil _)) (adK o9)
def axn:=qa (pr (cu aP agf) bH)
def adM:=qe (res (pr (aa ax6) (pl mh nil)))
abbrev axo:=adM.B
abbrev uq:=NI->Int->Bool->Option axo
def GS (g:uq):Ct:=(103,FC axn (lf adM) (λb=>g b.1.1 b.1.2 b.2))
def aiq (aN:fw)(bg:eo)(bK:lK)(x0:Nat->Int)(x1:Int)(x2:Bool):Pg axo:=opt (aN x0 x2) λd=>opt (bg d.1) λaj=>opt (bK d.1 4) λaE=>opt (bK d.1 7) λbE=>ret ((x1,aj.1,aj.2.1,aj.2.2.1,aj.2.2.2,aE.1,aE.2.1,aE.2.2,bE),d.2)
def kq:=λx0 x1 x2=>(aiq cw cy eL x0 x1 x2).val
theorem aLV:∀aN bg bK,D0 [ji aN,jE bg,rH bK] 103 axn (lf adM) λb=>aiq aN bg bK b.1.1 b.1.2 b.2:=λ_ _ _ b=>by kernel_rfl
theorem M' [ax]:SC (GS kq):=s0 (.c jV (.c km (.c uZ (.nil _)))) (aLV cw cy eL)
def ar8:=qa (pl (c kY (cl aQQ nil)) nil)
def YM:=qe aQt
abbrev ar9:=YM.B
abbrev DM:=NI->Int->Int->Int->Int->Int->Int->Int->Int->Int->Int->Int->Option ar9
def QN (g:DM):Ct:=(105,FC ar8 (lf YM) (λb=>g b.1 b.2.1 b.b.1.1 b.b.1.2.1 b.b.1.b.1 b.b.1.b.2 b.b.2.1.1 b.b.2.1.2.1 b.b.2.1.b b.c.1 b.c.2.1 b.c.b))
def adN (cV:zb)(x0:Nat->Int)(x1:Int)(x2:Int)(x3:Int)(x4:Int)(x5:Int)(x6:Int)(x7:Int)(x8:Int)(x9:Int)(gx:Int)(gy:Int):Pg ar9:=opt (cV x0 0 4 (cr x2 [x5,x4,x3,x2]) false) λd=>opt (cV d 4 3 (cr x6 [x8,x7,x6]) false) λd=>opt (cV d 7 3 (cr x9 [gy,gx,x9]) false) λd=>ret d
def rM:=λx0 x1 x2 x3 x4 x5 x6 x7 x8 x9 gx gy=>(adN gC x0 x1 x2 x3 x4 x5 x6 x7 x8 x9 gx gy).val
theorem aH6:∀cV,D0 [DG cV] 105 ar8 (lf YM) λb=>adN cV b.1 b.2.1 b.b.1.1 b.b.1.2.1 b.b.1.b.1 b.b.1.b.2 b.b.2.1.1 b.b.2.1.2.1 b.b.2.1.b b.c.1 b.c.2.1 b.c.b:=λ_ b=>by kernel_rfl
theorem adO [ax]:SC (QN rM):=s0 (.c Ir (.nil _)) (aH6 gC)
def asa:=qa (pl abP nil)
def YN:=qe DQ
abbrev asb:=YN.B
abbrev asc:=Int->Int->Int->Int->Int->Int->Int->Int->Option asb
def asd (g:asc):Ct:=(101,FC asa (lf YN) (λb=>g b.1 b.2.1 b.b.1.1 b.b.1.2.1 b.b.1.b b.b.2.1 b.c.1 b.c.2))
def jY:=qs (st (pr (us 1 (cu V6 (us 2 (cl ai (us 21 aQo))))) (pl (cl EX nil) nil)))
def abi:=qs (st (pu (us 2 (cu ui (us 37 nil))) (pu nil nil)))
def abj:=qs (st (pr (us 1 (cu V6 (us 2 (c ai (cl ab (us 20 aQo)))))) (pl (cl EX nil) nil)))
abbrev xC:=abi.B⊕abj.B
def aki {ρ:Type}(x:xC)(K:AX->St->Option ρ):Option ρ:=(t7 (λd=>K .ret (abi.em d)) (λd=>K (.ex 0) (abj.em d))) x
def Jq (dz:ON)(d:jY.B):PL jY xC:=let n2:=d.2.2.2;let n1:=n2.2.2.2;let y0:=aX d.1 3;let y1:=d.1==1;let y2:=d.1==2;let y3:=decide (d.1<3);ae y3 (ae y0 (ae y2 (opt (dz n2.2.2.1) λaj=>ae (decide (aj>34359738368)) (ret (wr (ws ()))) (ae y0 (ae y2 (opt (dz n1.2.2) λaE=>ae (decide (aE>34359738368)) (ret (wr (ws ()))) (ret (ws (wI (d.1+1),d.2)))) (ae y1 (opt (dz n1.2.1) λaE=>ae (decide (aE>34359738368)) (ret (wr (ws ()))) (ret (ws (wI (d.1+1),d.2)))) (opt (dz n1.1) λaE=>ae (decide (aE>34359738368)) (ret (wr (ws ()))) (ret (ws (wI (d.1+1),d.2)))))) no)) (ae y1 (opt (dz n2.2.1) λaj=>ae (decide (aj>34359738368)) (ret (wr (ws ()))) (ae y0 (ae y2 (opt (dz n1.2.2) λaE=>ae (decide (aE>34359738368)) (ret (wr (ws ()))) (ret (ws (wI (d.1+1),d.2)))) (ae y1 (opt (dz n1.2.1) λaE=>ae (decide (aE>34359738368)) (ret (wr (ws ()))) (ret (ws (wI (d.1+1),d.2)))) (opt (dz n1.1) λaE=>ae (decide (aE>34359738368)) (ret (wr (ws ()))) (ret (ws (wI (d.1+1),d.2)))))) no)) (opt (dz n2.1) λaj=>ae (decide (aj>34359738368)) (ret (wr (ws ()))) (ae y0 (ae y2 (opt (dz n1.2.2) λaE=>ae (decide (aE>34359738368)) (ret (wr (ws ()))) (ret (ws (wI (d.1+1),d.2)))) (ae y1 (opt (dz n1.2.1) λaE=>ae (decide (aE>34359738368)) (ret (wr (ws ()))) (ret (ws (wI (d.1+1),d.2)))) (opt (dz n1.1) λaE=>ae (decide (aE>34359738368)) (ret (wr (ws ()))) (ret (ws (wI (d.1+1),d.2)))))) no)))) no) (ret (wr (wr ((d.1,y3),d.2))))
def Jr:=bC (Jq xw) 2000
def QO (ew:LT jY xC)(x0:Int)(x1:Int)(x2:Int)(x3:Int)(x4:Int)(x5:Int)(x6:Int)(x7:Int):Pg asb:=opt (ew (0,x0,x1,x2,x3,x4,x5,x6,x7)) λx=>sum x (λd=>ret false) λd=>ae (decide (d.2.2.1>=1)) (ae (decide (d.2.2.1<=100000)) (ae (decide (d.2.1>=0)) (ret (decide (d.2.1<=1125899906842624))) (ret false)) (ret false)) (ret false)
def zD:=λx0 x1 x2 x3 x4 x5 x6 x7=>(QO Jr x0 x1 x2 x3 x4 x5 x6 x7).val
abbrev QP:=ON×(LT jY xC)
def adP (p:QP):KK:=⟨[aeC p.1],⟨[⟨2,(0::2::5::6::7::rg 9 4 (rg 20 6 (29::30::34::35::39::3::8::rg 13 7 []))),[]⟩],[fV 2 0 jY aki p.2],[],[],(some ⟨0,(0::1::rg 3 37 []),[]⟩)⟩,0,101⟩
theorem azz (p:QP):LI (adP p) 2 jY aki (Jq p.1):=λ_ d c K=>by kernel_rfl
theorem aH7 (p:QP):D2 (adP p) asa (lf YN) λb=>QO p.2 b.1 b.2.1 b.b.1.1 b.b.1.2.1 b.b.1.b b.b.2.1 b.c.1 b.c.2:=λb=>by kernel_rfl
abbrev adQ:QP:=(xw,Jr)
theorem aH8 [ax]:SC (asd zD):=sc (kS (k:=adP adQ) (.c apv (.nil _)) [2] [] ⟨kL (azz adQ),trivial⟩ trivial (aH7 adQ))
def DN:=qa (pr (cu aP (c (aa aKp) abP)) bH)
def YO:=qe (res (pr (aa ax3) (pl mh nil)))
abbrev ase:=YO.B
abbrev asf:=DN.B->Option ase
def asg (g:asf):Ct:=(102,FC DN (lf YO) g)
def QQ (dU:BM)(x:DN.B):Pg ase:=let n2:=x.1.2.2.2;let n1:=x.1.1.2.2;opt (dU 2 x.2 (cr n1.1.1 [n2.1.1,n1.1.1]) (cr n1.1.2.1 [n2.1.2.1,n1.1.2.1]) (cr n1.1.2.2 [n2.1.2.2,n1.1.2.2]) true) λd=>opt (dU 2 d.2 (cr n1.2.1 [n2.2.1,n1.2.1]) (cr n1.2.2.1 [n2.2.2.1,n1.2.2.1]) (cr n1.2.2.2 [n2.2.2.2,n1.2.2.2]) true) λaj=>ret ((x.1.2.1,wI (x.1.1.2.1+x.1.2.2.1),d.1.1,d.1.2.1,d.1.2.2,aj.1),aj.2)
def zE:=λx=>(QQ kg x).val
theorem aH9:∀dU,D0 [JU dU] 102 DN (lf YO) λb=>QQ dU b:=λ_ b=>by kernel_rfl
theorem aIa [ax]:SC (asg zE):=s0 (.c OW (.nil _)) (aH9 kg)
def nN:=qa (pr (cu (app 0 10) (cu Q8 abP)) (c ml bH))
def D7:=qe (res (pr (ry (c (ra ax3) (c (rc cb) auW))) (pl (c (Bu ml) mh) nil)))
abbrev RJ:=D7.B
abbrev FN:=nN.B->Option RJ
def RK (g:FN):Ct:=(62,FC nN (lf D7) g)
def yx (QR:asc)(QS:asf)(x:nN.B):Pg RJ:=let n3:=x.1.2.2;let n2:=x.2.1;let n1:=(QS ((n2.2.1,x.1),x.2.2));opt (QR x.1.1 x.1.2.1 n3.1.1 n3.1.2.1 n3.1.2.2 n3.2.1 n3.2.2.1 n3.2.2.2) λd=>ae (!d) (ret (((0,0,0,0,0,0,0,0),false,1),x.2)) (ae n2.2.2 (ae (decide (x.1.1<=n2.2.1.1)) (ret (((0,0,0,0,0,0,0,0),false,1),x.2)) (opt n1 λd=>let n4:=d.1.2;ae (decide (n4.1<n2.1)) (ret (((0,0,0,0,0,0,0,0),false,0),(n2.1,(d.1.1,n4.1,(n4.2.1,n4.2.2.1,n4.2.2.2.1),n4.2.2.2.2),true),d.2)) (ret ((d.1,true,0),(n2.1,(x.1.1,0,(0,0,0),0,0,0),true),d.2)))) (opt n1 λd=>let n5:=d.1.2;ae (decide (n5.1<n2.1)) (ret (((0,0,0,0,0,0,0,0),false,0),(n2.1,(d.1.1,n5.1,(n5.2.1,n5.2.2.1,n5.2.2.2.1),n5.2.2.2.2),true),d.2)) (ret ((d.1,true,0),(n2.1,(x.1.1,0,(0,0,0),0,0,0),true),d.2))))
def jr:=λx=>(yx zD zE x).val
theorem aoq:∀QR QS,D1 [asd QR,asg QS] [0,1] 62 nN (lf D7) λb=>yx QR QS b:=λ_ _ b=>by kernel_rfl
theorem aor [ax]:SC (RK jr):=s0 (.c aH8 (.c aIa (.nil _))) (aoq zD zE)
def gT:=qa (pr (cu Ia (cu Q8 agf)) (cd age λb0=>(c wM (cl (cl (gs b0.b hI) nil) nil))))
def we:=qe (res (pu V4 (pr (c (Bu (c gi (cl gi (cu (gc (dM (pu rq7 (pu Ad (pu (szl CU) (pu kX dR)))))) nil)))) Oe) (cl ax6 nil))))
abbrev wZ:=we.B
abbrev w7:=gT.B->Option wZ
def Hb (g:w7):Ct:=(162,FC gT (lf we) g)
def pT (jF:uq)(x:gT.B):Pg wZ:=opt (jF x.1.1 x.1.2 x.2.2.1) λd=>ret (((x.2.1.1,x.2.1.2.1),d.2),d.1)
def ep:=λx=>(pT kq x).val
theorem ZW:∀jF,D0 [GS jF] 162 gT (lf we) λb=>pT jF b:=λ_ b=>by kernel_rfl
theorem ZX [ax]:SC (Hb ep):=s0 (.c M' (.nil _)) (ZW kq)
def m6:=qa (pr (cu Ia (cu Q8 (c kY abP))) (cd age λb0=>(c wM (cl (cl (gs b0.b hI) nil) nil))))
def Ez:=qe (res (pr ai (pl (c (Bu age) Oe) nil)))
def EA:=qe (res (pu abN (pr (c (Bu aKj) (cl auV aMU)) aEl)))
abbrev rN:=Ez.B⊕EA.B
def IQ:rN->T:=ls (lf Ez) (lf EA)
abbrev m7:=m6.B->Option rN
def zF (g:m7):Ct:=(63,FC m6 IQ g)
def zG (vk:DM)(DO:QJ)(jF:uq)(x:m6.B):Pg rN:=let bj:=x.2.2.1;let n8:=x.2.1;let n6:=x.1.2.2;let n4:=x.2.2.2;let aT:=n4.2.2;let n2:=n8.2.2;let n1:=aT.2.2;let n5:=n1.2.2.2;let ba:=n5.2.2;let y0:=wn n2;let y1:=n2+1;let y2:=wI (y0-1);let y3:=wt y2;let y4:=y1-1;let y5:=0+y4;ae (y0==0) (ret (ws (4,n8,bj))) (ae (aX y2 n2) (ae (decide (n6.1<1)) (ret (ws (1,n8,bj))) (ae (decide (x.1.2.1<=n4.1 y3)) (ret (ws (1,n8,bj))) (opt (vk x.1.1 (n4.1 y3) (n4.2.1 y3) (aT.1 y3) (aT.2.1 y3) (n1.1 y3) (n1.2.1 y3) (n1.2.2.1 y3) (n5.1 y3) (n5.2.1 y3) (ba.1 y3) (ba.2 y3)) λd=>opt (DO d x.1.2.1 n6.1 n6.2.1.1 n6.2.1.2.1 n6.2.1.2.2 n6.2.2.1 n6.2.2.2.1 n6.2.2.2.2 bj) λd=>opt (jF d.1 x.1.2.1 d.2) λd=>let n7:=d.1.2.2;let n3:=n7.2.2.2;let n9:=n3.2.2.2;ae (wl (y1*88) 140737488355328) (ae (decide (wn y1>n8.1)) (ae (KG 1 y1) (ae (wl (y5*88) 140737488355328) (ret (wr (((n8.1,n8.2.1,y5),d.2),y4,λj=>let y0:=1+j;bif ww y0 n2 then d.1.1 else n4.1 y0,λj=>let y0:=1+j;bif ww y0 n2 then d.1.2.1 else n4.2.1 y0,λj=>let y0:=1+j;bif ww y0 n2 then n7.1 else aT.1 y0,λj=>let y0:=1+j;bif ww y0 n2 then n7.2.1 else aT.2.1 y0,λj=>let y0:=1+j;bif ww y0 n2 then n7.2.2.1 else n1.1 y0,λj=>let y0:=1+j;bif ww y0 n2 then n3.1 else n1.2.1 y0,λj=>let y0:=1+j;bif ww y0 n2 then n3.2.1 else n1.2.2.1 y0,λj=>let y0:=1+j;bif ww y0 n2 then n3.2.2.1 else n5.1 y0,λj=>let y0:=1+j;bif ww y0 n2 then n9.1 else n5.2.1 y0,λj=>let y0:=1+j;bif ww y0 n2 then n9.2.1 else ba.1 y0,λj=>let y0:=1+j;bif ww y0 n2 then n9.2.2 else ba.2 y0))) no) no) (ret (wr (((n8.1,n8.2.1,y1),d.2),y1,λj=>bif ww j n2 then d.1.1 else n4.1 j,λj=>bif ww j n2 then d.1.2.1 else n4.2.1 j,λj=>bif ww j n2 then n7.1 else aT.1 j,λj=>bif ww j n2 then n7.2.1 else aT.2.1 j,λj=>bif ww j n2 then n7.2.2.1 else n1.1 j,λj=>bif ww j n2 then n3.1 else n1.2.1 j,λj=>bif ww j n2 then n3.2.1 else n1.2.2.1 j,λj=>bif ww j n2 then n3.2.2.1 else n5.1 j,λj=>bif ww j n2 then n9.1 else n5.2.1 j,λj=>bif ww j n2 then n9.2.1 else ba.1 j,λj=>bif ww j n2 then n9.2.2 else ba.2 j)))) no))) no)
def fQ:=λx=>(zG rM vi kq x).val
theorem adR:∀vk DO jF,D1 [QN vk,ac4 DO,GS jF] [0,1] 63 m6 IQ λb=>zG vk DO jF b:=λ_ _ _ b=>by kernel_rfl
theorem IS [ax]:SC (zF fQ):=s0 (.c adO (.c arJ (.c M' (.nil _)))) (adR rM vi kq)
def K1:=qa (pu (cu Ia nil) (cd (c gi (c gi (cl (gc (yU 1 11)) nil))) λb0=>(cl (cl (gs b0.b hI) nil) nil)))
def zH:=qe (res (pl aXc (pu axT nil)))
abbrev K2:=zH.B
abbrev K3:=Int->Int->Nat->NI->NI->NI->NI->NI->NI->NI->NI->NI->NI->NI->Option K2
def K4 (g:K3):Ct:=(75,FC K1 (lf zH) (λb=>g b.1.1 b.1.2.1 b.1.b b.2.1 b.b.1 b.b.2.1 b.c.1 b.c.2.1 b.c.b.1 b.c.b.2.1 b.d.1 b.d.2.1 b.d.b.1 b.d.b.2))
def K5 (x0:Int)(x1:Int)(x2:Nat)(x3:Nat->Int)(x4:Nat->Int)(x5:Nat->Int)(x6:Nat->Int)(x7:Nat->Int)(x8:Nat->Int)(x9:Nat->Int)(gx:Nat->Int)(gy:Nat->Int)(Aq:Nat->Int)(x13:Nat->Int):Pg K2:=let y0:=wI (wn x2-1);let y1:=wt y0;ae (wn x2==0) (ret ((0,0,0,0,0,0,0,0,0,0,0),false)) (ae (aX y0 x2) (ret (((x3,x4,x5,x6,x7,x8,x9,gx,gy,Aq,x13).1 y1,(x4,x5,x6,x7,x8,x9,gx,gy,Aq,x13).1 y1,(x5,x6,x7,x8,x9,gx,gy,Aq,x13).1 y1,(x6,x7,x8,x9,gx,gy,Aq,x13).1 y1,(x7,x8,x9,gx,gy,Aq,x13).1 y1,(x8,x9,gx,gy,Aq,x13).1 y1,(x9,gx,gy,Aq,x13).1 y1,(gx,gy,Aq,x13).1 y1,(gy,Aq,x13).1 y1,Aq y1,x13 y1),true)) no)
def AM:=λx0 x1 x2 x3 x4 x5 x6 x7 x8 x9 gx gy Aq x13=>(K5 x0 x1 x2 x3 x4 x5 x6 x7 x8 x9 gx gy Aq x13).val
theorem afg:D0 [] 75 K1 (lf zH) λb=>K5 b.1.1 b.1.2.1 b.1.b b.2.1 b.b.1 b.b.2.1 b.c.1 b.c.2.1 b.c.b.1 b.c.b.2.1 b.d.1 b.d.2.1 b.d.b.1 b.d.b.2:=λb=>by kernel_rfl
theorem afh [ax]:SC (K4 AM):=s0 (.nil _) afg
def kh:=qa (pu (cu V6 nil) (cd agh λb0=>(cl (cl (gs b0.b.1 aA) nil) nil)))
def Ck:=qe (res (pu V4 (pl (cl (Bu agh) Z8) nil)))
abbrev wG:=Ck.B
abbrev D8:=kh.B->Option wG
def N5 (g:D8):Ct:=(57,FC kh (lf Ck) g)
def wH (x:kh.B):Pg wG:=ret ((wI (x.1.1.1+1),x.1.1.2.1,x.1.1.2.2.1,wI (x.1.1.2.2.2.1+1),x.1.1.2.2.2.2),x.1.2)
def iK:=λx=>(wH x).val
theorem akX:D0 [] 57 kh (lf Ck) λb=>wH b:=λb=>by kernel_rfl
theorem akY [ax]:SC (N5 iK):=s0 (.nil _) akX
def aos:=qa (pl EV nil)
def Ue:=qe DQ
abbrev YP:=Ue.B
abbrev AN:=Int->Int->Int->Option YP
def YQ (g:AN):Ct:=(41,FC aos (lf Ue) (λb=>g b.1 b.2.1 b.b))
def Na (x0:Int)(x1:Int)(x2:Int):Pg YP:=ae (decide (x0>=x1)) (ret (decide (x0<=x2))) (ret false)
def lB:=λx0 x1 x2=>(Na x0 x1 x2).val
theorem aGC:D0 [] 41 aos (lf Ue) λb=>Na b.1 b.2.1 b.b:=λb=>by kernel_rfl
theorem aot [ax]:SC (YQ lB):=s0 (.nil _) aGC
def axp:=qa (pl Hq nil)
def afi:=qe aEh
def afj:=qe aXe
abbrev air:=afi.B⊕afj.B
def axq:air->T:=ls (lf afi) (lf afj)
abbrev ais:=Int->Int->Int->Option air
def axr (g:ais):Ct:=(42,FC axp axq (λb=>g b.1 b.2.1 b.b))
def ait (cM:vj)(eT:WJ)(aq:cx)(eD:KQ)(hO:Ri)(ur:ag9)(aD:cL)(x0:Int)(x1:Int)(x2:Int):Pg air:=opt (cM x0 x1 x2) λd=>ae (!d) (ret (ws ())) (ae (decide (x0>850000000)) (ret (ws ())) (ae (decide (x0< -850000000)) (ret (ws ())) (opt (aq x0 3373259426 1800000000 false) λd=>opt (eD d.1 d.2) λaj=>opt (hO d.1 aj.2) λd=>opt (eT aj.1 aj.1 d.2) λaE=>opt (eT 7188036 aE.1 aE.2) λbE=>let y0:=wI (1073741824-bE.1);opt (ur y0 bE.2) λcC=>opt (aD 6531212288 cC.1 30 cC.2) λeJ=>opt (eT 6531212288 1066553788 eJ.2) λc9=>opt (eT y0 cC.1 c9.2) λlR=>opt (aD c9.1 lR.1 30 lR.2) λpY=>opt (aq pY.1 3373259426 1800000000 pY.2) λmV=>opt (eT eJ.1 d.1 mV.2) λd=>opt (aq d.1 3373259426 1800000000 d.2) λd=>ret (wr (x0,x1,x2,mV.1,d.1)))))
def yy:=λx0 x1 x2=>(ait gO vQ aU nE su BE bu x0 x1 x2).val
theorem aLW:∀cM eT aq eD hO ur aD,D0 [zm cM,WK eT,dt aq,KR eD,Rj hO,aha ur,gA aD] 42 axp axq λb=>ait cM eT aq eD hO ur aD b.1 b.2.1 b.b:=λ_ _ _ _ _ _ _ b=>by kernel_rfl
theorem aLX [ax]:SC (axr yy):=s0 (.c DK (.c ama (.c dE (.c Rh (.c aaF (.c avK (.c iy (.nil _)))))))) (aLW gO vQ aU nE su BE bu)
def aB6:=qa (pr (cu az6 EV) (cl as0 nil))
def aiu:=qe aWL
abbrev aB7:=aiu.B
abbrev aou:=Int->Int->Int->NI->Option aB7
def aB8 (g:aou):Ct:=(74,FC aB6 (lf aiu) (λb=>g b.1.1 b.1.2.1 b.1.b b.2))
def AO:=qs (st (pr (cu az6 (us 1 (c ai (c ai (us 4 aVS))))) (pl JC cP)))
def aIb:=qs (st (pr (cu az6 (us 1 (c ai (c ai (us 4 (c ai (us 1 (c ai aKc)))))))) (pl JC cP)))
abbrev QT:=((Int×Int×Int×Bool)×NI)
def ash {ρ:Type}(x:QT)(K:AX->St->Option ρ):Option ρ:=(λd=>K (.ex 0) (aIb.em ((d.1.1,d.1.2.1,d.1.b.1,d.1.b.1,d.1.1,d.1.b.2),d.2))) x
def asi (d:AO.B):PL AO QT:=let n1:=d.1.2;let y0:=wt n1.2;let y1:=decide (n1.2<d.1.1);ae y1 (ae (aX n1.2 24) (ae (true&&wl (0+y0*1+1) 24) (ret (ws ((d.1.1,n1.1,wI (n1.2+1)),λj=>bif ww j y0 then n1.1 else d.2 j))) no) no) (ret (wr ((d.1.1,n1.1,n1.2,y1),d.2)))
def asj:=bC (asi) 2000
def aB9 (ew:LT AO QT)(x0:Int)(x1:Int)(x2:Int)(x3:Nat->Int):Pg aB7:=opt (ew ((x1,x2,x0),x3)) λd=>ret d.2
def aov:=λx0 x1 x2 x3=>(aB9 asj x0 x1 x2 x3).val
abbrev abk:=(LT AO QT)
def aow (p:abk):KK:=⟨[],⟨[⟨1,(1::rg 4 4 (rg 9 11 [])),[]⟩],[fV 1 1 AO ash p],[0],[],(some ⟨0,(rg 0 20 []),[]⟩)⟩,1,74⟩
theorem aGD (p:abk):LI (aow p) 1 AO ash (asi):=λ_ d c K=>by kernel_rfl
theorem aOI (p:abk):D2 (aow p) aB6 (lf aiu) λb=>aB9 p b.1.1 b.1.2.1 b.1.b b.2:=λb=>by kernel_rfl
abbrev aox:abk:=asj
theorem aOJ [ax]:SC (aB8 aov):=sc (kS (k:=aow aox) (.nil _) [1] [] ⟨kL (aGD aox),trivial⟩ trivial (aOI aox))
def aoy:=qa (pu nil nil)
def Uf:=qe (res (pl (aa aQ7) (pu nil nil)))
abbrev YR:=Uf.B
abbrev aGE:=Option YR
def aoz (g:aGE):Ct:=(38,FC aoy (lf Uf) (λ_=>g))
def tu:=qs (st (pr (cu auU (cu (app 1 72) (us 2 aVX))) (pl (c (so (cu aS (cu aS (cu aS (cu aS (cu aS (cu aS (cu aS (cu aS (cu aS (cu aS (cu aS (cu aS (cu aS (cu aS (cu aS (cu aS (c gR (cl gR aKx))))))))))))))))))) (cl (so aQ7) nil)) nil)))
def afk:=qs (st (pr (cu auU (cu (app 1 72) (us 2 aWb))) (pl (c (so (cu aS (cu aS (cu aS (cu aS (cu aS (cu aS (cu aS (cu aS (cu aS (cu aS (cu aS (cu aS (cu aS (cu aS (cu aS (cu aS (c gR (cl gR aKx))))))))))))))))))) (cl (so aQ7) nil)) nil)))
abbrev GU:=afk.B
def afl {ρ:Type}:=@ef GU ((.ex 0)) afk ρ
def afm (d:tu.B):PL tu GU:=let n8:=d.2.1;let n4:=d.2.2.1;let n3:=d.2.2.2;let n9:=n3.2.1;let n5:=n3.2.2.1;let n1:=n3.2.2.2;let aT:=n1.2.1;let n6:=n1.2.2.1;let n2:=n1.2.2.2;let ba:=n2.2.1;let n7:=n2.2.2;let bo:=n7.2.1;let bj:=n7.2.2;let y0:=aX d.1 6;let y1:=d.1==5;let y2:=d.1==4;let y3:=d.1==1;let y4:=d.1==3;let y5:=d.1==2;let y6:=wI (d.1+1);let y7:=decide (d.1<6);ae y7 (ae y0 (ae y1 (ae y0 (ae y1 (ret (ws (y6,n8,n4,n3.1,n9,n5,n1.1,5,n6,n2.1,ba,n7.1,bo,1000000,bj.2))) (ae y2 (ret (ws (y6,n8,n4,n3.1,n9,n5,n1.1,5,n6,n2.1,ba,n7.1,1000000,bj))) (ae y4 (ret (ws (y6,n8,n4,n3.1,n9,n5,n1.1,5,n6,n2.1,ba,1000000,n7.2))) (ae y5 (ret (ws (y6,n8,n4,n3.1,n9,n5,n1.1,5,n6,n2.1,1000000,n7))) (ae y3 (ret (ws (y6,n8,n4,n3.1,n9,n5,n1.1,5,n6,1000000,n2.2))) (ret (ws (y6,n8,n4,n3.1,n9,n5,n1.1,5,1000000,n2)))))))) no) (ae y2 (ae y0 (ae y1 (ret (ws (y6,n8,n4,n3.1,n9,n5,5,aT,n6,n2.1,ba,n7.1,bo,1000000,bj.2))) (ae y2 (ret (ws (y6,n8,n4,n3.1,n9,n5,5,aT,n6,n2.1,ba,n7.1,1000000,bj))) (ae y4 (ret (ws (y6,n8,n4,n3.1,n9,n5,5,aT,n6,n2.1,ba,1000000,n7.2))) (ae y5 (ret (ws (y6,n8,n4,n3.1,n9,n5,5,aT,n6,n2.1,1000000,n7))) (ae y3 (ret (ws (y6,n8,n4,n3.1,n9,n5,5,aT,n6,1000000,n2.2))) (ret (ws (y6,n8,n4,n3.1,n9,n5,5,aT,1000000,n2)))))))) no) (ae y4 (ae y0 (ae y1 (ret (ws (y6,n8,n4,n3.1,n9,5,n1.1,aT,n6,n2.1,ba,n7.1,bo,1000000,bj.2))) (ae y2 (ret (ws (y6,n8,n4,n3.1,n9,5,n1.1,aT,n6,n2.1,ba,n7.1,1000000,bj))) (ae y4 (ret (ws (y6,n8,n4,n3.1,n9,5,n1.1,aT,n6,n2.1,ba,1000000,n7.2))) (ae y5 (ret (ws (y6,n8,n4,n3.1,n9,5,n1.1,aT,n6,n2.1,1000000,n7))) (ae y3 (ret (ws (y6,n8,n4,n3.1,n9,5,n1.1,aT,n6,1000000,n2.2))) (ret (ws (y6,n8,n4,n3.1,n9,5,n1.1,aT,1000000,n2)))))))) no) (ae y5 (ae y0 (ae y1 (ret (ws (y6,n8,n4,n3.1,5,n5,n1.1,aT,n6,n2.1,ba,n7.1,bo,1000000,bj.2))) (ae y2 (ret (ws (y6,n8,n4,n3.1,5,n5,n1.1,aT,n6,n2.1,ba,n7.1,1000000,bj))) (ae y4 (ret (ws (y6,n8,n4,n3.1,5,n5,n1.1,aT,n6,n2.1,ba,1000000,n7.2))) (ae y5 (ret (ws (y6,n8,n4,n3.1,5,n5,n1.1,aT,n6,n2.1,1000000,n7))) (ae y3 (ret (ws (y6,n8,n4,n3.1,5,n5,n1.1,aT,n6,1000000,n2.2))) (ret (ws (y6,n8,n4,n3.1,5,n5,n1.1,aT,1000000,n2)))))))) no) (ae y3 (ae y0 (ae y1 (ret (ws (y6,n8,n4,5,n9,n5,n1.1,aT,n6,n2.1,ba,n7.1,bo,1000000,bj.2))) (ae y2 (ret (ws (y6,n8,n4,5,n9,n5,n1.1,aT,n6,n2.1,ba,n7.1,1000000,bj))) (ae y4 (ret (ws (y6,n8,n4,5,n9,n5,n1.1,aT,n6,n2.1,ba,1000000,n7.2))) (ae y5 (ret (ws (y6,n8,n4,5,n9,n5,n1.1,aT,n6,n2.1,1000000,n7))) (ae y3 (ret (ws (y6,n8,n4,5,n9,n5,n1.1,aT,n6,1000000,n2.2))) (ret (ws (y6,n8,n4,5,n9,n5,n1.1,aT,1000000,n2)))))))) no) (ae y0 (ae y1 (ret (ws (y6,n8,5,n3.1,n9,n5,n1.1,aT,n6,n2.1,ba,n7.1,bo,1000000,bj.2))) (ae y2 (ret (ws (y6,n8,5,n3.1,n9,n5,n1.1,aT,n6,n2.1,ba,n7.1,1000000,bj))) (ae y4 (ret (ws (y6,n8,5,n3.1,n9,n5,n1.1,aT,n6,n2.1,ba,1000000,n7.2))) (ae y5 (ret (ws (y6,n8,5,n3.1,n9,n5,n1.1,aT,n6,n2.1,1000000,n7))) (ae y3 (ret (ws (y6,n8,5,n3.1,n9,n5,n1.1,aT,n6,1000000,n2.2))) (ret (ws (y6,n8,5,n3.1,n9,n5,n1.1,aT,1000000,n2)))))))) no)))))) no) (ret (wr ((d.1,y7),d.2)))
def afo:=bC (afm) 2000
def aoA (sD:aou)(ew:LT tu GU):Pg YR:=opt (ew (0,(λx=>0,λx=>0),0,0,0,0,0,0,0,0,0,0,0,0,λx=>0,λx=>0)) λd=>let n3:=d.2.2.2;let n1:=n3.2.2.2.2;let n2:=n1.2.2.2.2;opt (sD 0 24 16384 n2.2.2.2.1) λaj=>opt (sD 0 4 1048576 aj) λaE=>opt (sD 4 7 17179869184 aE) λbE=>opt (sD 10 13 1024 bE) λcC=>opt (sD 13 16 65536 cC) λeJ=>opt (sD 22 24 17179869184 eJ) λc9=>opt (sD 0 24 17592186044416 n2.2.2.2.2) λlR=>opt (sD 0 4 68719476736 lR) λpY=>opt (sD 10 13 67108864 pY) λmV=>opt (sD 13 16 4294967296 mV) λlM=>opt (sD 16 22 17179869184 lM) λwO=>ret (d.2.2.1,n3.1,n3.2.1,n3.2.2.1,n3.2.2.2.1,n1.1,n1.2.1,n1.2.2.1,n1.2.2.2.1,n2.1,n2.2.1,n2.2.2.1,c9,wO)
def aoB:Option YR:=(aoA aov afo).val
abbrev Nb:=aou×(LT tu GU)
def YS (p:Nb):KK:=⟨[aB8 p.1],⟨[⟨3,(2::3::rg 5 32 []),[]⟩],[fV 3 0 tu afl p.2],[],[],(some ⟨0,(rg 1 36 []),[]⟩)⟩,0,38⟩
theorem axs (p:Nb):LI (YS p) 3 tu afl (afm):=λ_ d c K=>by kernel_rfl
theorem aGF (p:Nb):D2 (YS p) aoy (lf Uf) λb=>aoA p.1 p.2:=λb=>by kernel_rfl
abbrev YT:Nb:=(aov,afo)
theorem aGG [ax]:SC (aoz aoB):=sc (kS (k:=YS YT) (.c aOJ (.nil _)) [3] [] ⟨kL (axs YT),trivial⟩ trivial (aGF YT))
def abl:=qa (pr (cu aP (c kY (c Ae (c af9 gW)))) bH)
def J6:=qe (res (pr (ry (c agb (c ali (cl (ra (cu axY (cu aS (cu aS (cu aS (c gi (c gi (cl gi (cu aS (cu aS (cu aS (cu aP9 nil)))))))))))) nil)))) (pl mh nil)))
abbrev abm:=J6.B
abbrev abn:=NI->NI->NI->Int->Int->Int->Int->Bool->Option abm
def abo (g:abn):Ct:=(250,FC abl (lf J6) (λb=>g b.1.1 b.1.2.1.1 b.1.2.1.2 b.1.b.1.1 b.1.b.1.2.1 b.1.b.1.b b.1.b.2 b.2))
def Nc (aN:fw)(ib:MU)(cm:lV)(bY:gf)(x0:Nat->Int)(x1:Nat->Int)(x2:Nat->Int)(x3:Int)(x4:Int)(x5:Int)(x6:Int)(x7:Bool):Pg abm:=opt (aN x0 x7) λd=>opt (ib d.1 4 3 d.2 (cr x3 [x5,x4,x3]) false) λd=>let n3:=d.1.2;let n2:=d.2.1;let n1:=d.2.2;opt cm λaj=>ae (wl 3 n3) (opt (bY x1 x2 4 3 n2 (cr x6 [x6,x6,x6]) true) λaE=>ret (((d.1,n2,n3,n1).1.1,aE.1,n1 0,n1 1,n1 2),aE.2)) (ae (wl 2 n3) (opt (bY x1 x2 4 3 n2 (cr x6 [x6,x6,x6]) true) λaE=>ret (((d.1,n2,n3,n1).1.1,aE.1,n1 0,n1 1,0),aE.2)) (ae (wl 1 n3) (opt (bY x1 x2 4 3 n2 (cr x6 [x6,x6,x6]) true) λaE=>ret (((d.1,n2,n3,n1).1.1,aE.1,n1 0,0,0),aE.2)) (opt (bY x1 x2 4 3 n2 (cr x6 [x6,x6,x6]) true) λaE=>ret (((d.1,n2,n3,n1).1.1,aE.1,0,0,0),aE.2))))
def yA:=λx0 x1 x2 x3 x4 x5 x6 x7=>(Nc cw jO eG de x0 x1 x2 x3 x4 x5 x6 x7).val
theorem axt:∀aN ib cm bY,D0 [ji aN,MV ib,qP cm,AD bY] 250 abl (lf J6) λb=>Nc aN ib cm bY b.1.1 b.1.2.1.1 b.1.2.1.2 b.1.b.1.1 b.1.b.1.2.1 b.1.b.1.b b.1.b.2 b.2:=λ_ _ _ _ b=>by kernel_rfl
theorem axu [ax]:SC (abo yA):=s0 (.c jV (.c Yi (.c vD (.c Fq (.nil _))))) (axt cw jO eG de)
def UP:=qa (pr (cu aP (c kY (c Ae EV))) bH)
def FO:=qe (res (pr (ry (c agb (c ali (cl (ra (cu axY (cu aS (cu aS (cu aS (cu aS (cu aS (cu aS (c gi (c gi (cl gi aQg))))))))))) nil)))) (pl mh nil)))
abbrev UQ:=FO.B
abbrev UR:=NI->NI->NI->Int->Int->Int->Bool->Option UQ
def US (g:UR):Ct:=(251,FC UP (lf FO) (λb=>g b.1.1 b.1.2.1.1 b.1.2.1.2 b.1.b.1 b.1.b.2.1 b.1.c b.2))
def HL (aN:fw)(ib:MU)(cm:lV)(bY:gf)(x0:Nat->Int)(x1:Nat->Int)(x2:Nat->Int)(x3:Int)(x4:Int)(x5:Int)(x6:Bool):Pg UQ:=opt (aN x0 x6) λd=>opt (ib d.1 7 2 d.2 (cr x3 [x4,x3]) true) λd=>let n3:=d.1.2;let n2:=d.2.1;let n1:=d.2.2;opt cm λaj=>ae (wl 3 n3) (opt (bY x1 x2 7 2 n2 (cr x5 [x5,x5]) true) λaE=>ret (((d.1,n2,n3,n1).1.1,aE.1,n1 0,n1 1,n1 2),aE.2)) (ae (wl 2 n3) (opt (bY x1 x2 7 2 n2 (cr x5 [x5,x5]) true) λaE=>ret (((d.1,n2,n3,n1).1.1,aE.1,n1 0,n1 1,0),aE.2)) (ae (wl 1 n3) (opt (bY x1 x2 7 2 n2 (cr x5 [x5,x5]) true) λaE=>ret (((d.1,n2,n3,n1).1.1,aE.1,n1 0,0,0),aE.2)) (opt (bY x1 x2 7 2 n2 (cr x5 [x5,x5]) true) λaE=>ret (((d.1,n2,n3,n1).1.1,aE.1,0,0,0),aE.2))))
def ub:=λx0 x1 x2 x3 x4 x5 x6=>(HL cw jO eG de x0 x1 x2 x3 x4 x5 x6).val
theorem ap7:∀aN ib cm bY,D0 [ji aN,MV ib,qP cm,AD bY] 251 UP (lf FO) λb=>HL aN ib cm bY b.1.1 b.1.2.1.1 b.1.2.1.2 b.1.b.1 b.1.b.2.1 b.1.c b.2:=λ_ _ _ _ b=>by kernel_rfl
theorem ap8 [ax]:SC (US ub):=s0 (.c jV (.c Yi (.c vD (.c Fq (.nil _))))) (ap7 cw jO eG de)
def akj:=qa (pr (cu aP (c kY (c Ae yV))) bH)
def PE:=qe (res (pr (ry (c agb (c ali (cl (ra (cu axY (cu aS (cu aS (cu aS (cu aS (cu aS (cu aS (cu aS (cu aS (cl gi (cu (gc aP5) nil)))))))))))) nil)))) (pl mh nil)))
abbrev akk:=PE.B
abbrev akl:=NI->NI->NI->Int->Int->Bool->Option akk
def akm (g:akl):Ct:=(252,FC akj (lf PE) (λb=>g b.1.1 b.1.2.1.1 b.1.2.1.2 b.1.b.1 b.1.b.2 b.2))
def Ug (aN:fw)(ib:MU)(cm:lV)(bY:gf)(x0:Nat->Int)(x1:Nat->Int)(x2:Nat->Int)(x3:Int)(x4:Int)(x5:Bool):Pg akk:=opt (aN x0 x5) λd=>opt (ib d.1 9 1 d.2 (λj=>bif ww j 0 then x3 else x3) true) λd=>opt cm λaj=>ae (wl 1 d.1.2) (opt (bY x1 x2 9 1 d.2.1 (λj=>bif ww j 0 then x4 else x4) true) λaE=>ret (((d.1,d.2.1,d.1.2,d.2.2).1.1,aE.1,d.2.2 0),aE.2)) (opt (bY x1 x2 9 1 d.2.1 (λj=>bif ww j 0 then x4 else x4) true) λaE=>ret (((d.1,d.2.1,d.1.2,d.2.2).1.1,aE.1,0),aE.2))
def Dq:=λx0 x1 x2 x3 x4 x5=>(Ug cw jO eG de x0 x1 x2 x3 x4 x5).val
theorem aDq:∀aN ib cm bY,D0 [ji aN,MV ib,qP cm,AD bY] 252 akj (lf PE) λb=>Ug aN ib cm bY b.1.1 b.1.2.1.1 b.1.2.1.2 b.1.b.1 b.1.b.2 b.2:=λ_ _ _ _ b=>by kernel_rfl
theorem aDr [ax]:SC (akm Dq):=s0 (.c jV (.c Yi (.c vD (.c Fq (.nil _))))) (aDq cw jO eG de)
def FP:=qa (pl (cl (aa oI) nil) nil)
def aiv:=qe DQ
abbrev aoC:=aiv.B
abbrev aoD:=FP.B->Option aoC
def aoE (g:aoD):Ct:=(13,FC FP (lf aiv) g)
def lC:=qs (st (pr (us 1 (cu auU (cu ui (us 3 (xs 1 (cu aWc (us 4 (cu aWv (us 4 (cu aWw (us 4 (cu ui (us 4 (c ab (us 3 (cl ai (us 26 aXq))))))))))))))))) (pl (cl ayb nil) nil)))
def akn:=qs (st (pu (us 2 (cu ui (us 119 nil))) (pu nil nil)))
def ako:=qs (st (pr (us 1 (cu auU (cu ui (us 3 (xs 1 (cu aWc (us 4 (cu aWv (us 4 (cu aWw (us 4 (cu ui (us 4 (c ab (us 3 (c ai (cl ab (us 25 aXq)))))))))))))))))) (pl (cl ayb nil) nil)))
abbrev DP:=akn.B⊕ako.B
def asl {ρ:Type}(x:DP)(K:AX->St->Option ρ):Option ρ:=(t7 (λd=>K .ret (akn.em d)) (λd=>K (.ex 2) (ako.em d))) x
def QU (fF:AN)(d:lC.B):PL lC DP:=let n2:=d.1.2;let n1:=d.2.2.2.2.2.2.2.2.2.2.2.2.2.2.2.2.2;let y0:=wt n2;let y1:=aX n2 24;let y2:=wl (0+y0*1+1) 24;let y3:=decide (n2<24);ae y3 (ae y1 (ae y2 (opt (fF (n1.1 y0) 0 72057594037927936) λaj=>ae (!aj) (ret (wr (ws ()))) (ae y1 (ae y2 (opt (fF (n1.2.1 y0) 1 72057594037927936) λaE=>ae (!aE) (ret (wr (ws ()))) (ret (ws ((d.1.1,wI (n2+1)),d.2)))) no) no)) no) no) (ret (wr (wr ((d.1.1,n2,y3),d.2))))
def IT:=bC (QU lB) 2000
def abp (fF:AN)(aLY:ais)(qx:LT lC DP)(x:FP.B):Pg aoC:=let n2:=x.2.2.2.2;let n8:=n2.2.1;let n4:=n8.2.2;let n3:=n2.1.2.2;let n7:=n3.2.2;ae (decide (n2.1.1<1)) (ret false) (ae (decide (n2.1.1>1000)) (ret false) (opt (fF n8.1 1 1099511627776) λd=>ae (!d) (ret false) (ae (decide (n2.1.2.1<1)) (ret false) (ae (decide (n2.1.2.1>1000)) (ret false) (opt (fF n8.2.1 1 1099511627776) λd=>ae (!d) (ret false) (ae (decide (n3.1<1)) (ret false) (ae (decide (n3.1>1000)) (ret false) (opt (fF n4.1 1 1099511627776) λd=>ae (!d) (ret false) (ae (decide (n3.2.1<1)) (ret false) (ae (decide (n3.2.1>1000)) (ret false) (opt (fF n4.2.1 1 1099511627776) λd=>ae (!d) (ret false) (ae (decide (n7.1<1)) (ret false) (ae (decide (n7.1>1000)) (ret false) (opt (fF n4.2.2.1 1 1099511627776) λd=>ae (!d) (ret false) (ae (decide (n7.2<1)) (ret false) (ae (decide (n7.2>1000)) (ret false) (opt (fF n4.2.2.2 1 1099511627776) λd=>ae (!d) (ret false) (opt (qx ((d,0),x.1,x.2.1,x.2.2.1,x.2.2.2.1,n2.1.1,n2.1.2.1,n3.1,n3.2.1,n7.1,n7.2,n8.1,n8.2.1,n4.1,n4.2.1,n4.2.2.1,n4.2.2.2,n2.2.2)) λx=>sum x (λd=>ret false) λd=>let n6:=d.2.2.2;let n1:=n6.2.2.2.2.2.2.2.2.2.2.2.2.2.2.2.2;let n5:=n1.2.2.2.2;opt (aLY n5.2.1 n5.2.2.1 n5.2.2.2) λaj=>sm aj (λd=>ret false) (λaE=>opt (fF d.2.1 1000 100000) λbE=>ae bE (opt (fF d.2.2.1 0 300000) λcC=>ae cC (ae (decide (n6.1>=1)) (ae (decide (n6.1<=64)) (ae (decide (n6.2.1>=0)) (ae (decide (n6.2.1<=100)) (opt (fF n1.1 0 1099511627776) λeJ=>ae eJ (opt (fF n1.2.1 1 72057594037927936) λc9=>ae c9 (ae (decide (n1.2.2.1>=0)) (ae (decide (n1.2.2.1<=3)) (opt (fF n1.2.2.2.1 1 1073741824) λlR=>ae lR (ae (decide (n5.1>=1)) (ret (decide (n5.1<=64))) (ret false)) (ret false)) (ret false)) (ret false)) (ret false)) (ret false)) (ret false)) (ret false)) (ret false)) (ret false)) (ret false)) (ret false))))))))))))))))))))
def Bi:=λx=>(abp lB yy IT x).val
abbrev abq:=AN×ais×(LT lC DP)
def aoF (p:abq):KK:=⟨[YQ p.1,axr p.2.1],⟨[⟨2,(0::3::4::rg 8 4 (13::14::15::21::rg 29 8 (38::39::40::rg 48 10 [61,62,66,67,71,72,76,77,81,82,86,87,91,92,96,97,101,102,106,107,111,112,116,117,121]))),[]⟩,⟨8,(0::3::4::5::rg 8 4 (rg 13 4 (rg 18 4 (rg 23 4 (28::29::30::rg 32 5 (38::39::40::rg 48 10 (61::62::66::67::71::72::76::77::81::82::86::87::91::92::96::97::101::102::106::107::111::112::116::117::121::37::rg 41 7 []))))))),[]⟩],[fV 8 0 lC asl p.b],[],[],(some ⟨0,(0::1::rg 3 119 []),[]⟩)⟩,0,13⟩
theorem aGH (p:abq):LI (aoF p) 8 lC asl (QU p.1):=λ_ d c K=>by kernel_rfl
theorem aOK (p:abq):D2 (aoF p) FP (lf aiv) λb=>abp p.1 p.2.1 p.b b:=λb=>by kernel_rfl
abbrev aoG:abq:=(lB,yy,IT)
theorem aCa [ax]:SC (aoE Bi):=sc (kS (k:=aoF aoG) (.c aot (.c aLX (.nil _))) [2,8] [] ⟨kN,⟨kL (aGH aoG),trivial⟩⟩ trivial (aOK aoG))
def afp:=qa (dp (cu aP (c ai (c Ib axV))) λa=>(c wM (cl (cl (gs a.2.1.1 nC) nil) nil)))
def Nd:=qe aKm
abbrev afq:=Nd.B
abbrev afr:=Int->Nat->Nat->Bool->NI->Bool->Bool->Option afq
def afs (g:afr):Ct:=(73,uW 3 [.i .i64] (uW 2 [.i .i64] (FC afp (lf Nd) (λb=>g b.1.1 b.1.2.1.1 b.1.b.1 b.2.1 b.b b.1.2.1.2 b.1.b.2))))
def pz:=qs (st (dp (cu aP (c ai (c Ib (c Ib (us 5 (cu az4 aWm)))))) λa=>(pl (c cD (c (so (cl (gs a.2.1.1 nC) nil)) abO)) cP)))
def aua:=qs (st (pr (cu aP (c ai (c Ib (c Ib (us 5 (cu az4 aWq)))))) (pl (c cD (c JD abO)) cP)))
abbrev Cl:=(aVJ×Bool×NI×Int×Int)
def YU {ρ:Type}(x:Cl)(K:AX->St->Option ρ):Option ρ:=(λd=>K (.ex 0) (aua.em (d.1,d.2.1,(d.1.2.1.1,d.b.1),d.b.2))) x
def Cm (aw:bP)(cS:nD)(xS:sr)(d:pz.B):PL pz Cl:=let y0:=decide (d.1.2.2.2.2<d.1.2.2.2.1);ae y0 (ae (aX d.1.2.2.2.2 d.1.2.1.1) (opt (aw (d.2.2.1 (wt d.1.2.2.2.2)) d.2.1) λaj=>ae (aX d.1.2.2.2.2 d.1.2.2.1.1) (opt (aw (d.2.2.1 (wt d.1.2.2.2.2)) aj.2) λaE=>opt (cS aj.1 aE.1) λbE=>opt (xS 2 (λj=>bif ww j 1 then bE.1 else bif ww j 0 then d.2.2.2.1 else d.2.2.2.1) (λj=>bif ww j 1 then bE.2 else bif ww j 0 then d.2.2.2.2 else d.2.2.2.2) true) λcC=>ret (ws ((d.1.1,d.1.2.1,d.1.2.2.1,d.1.2.2.2.1,wI (d.1.2.2.2.2+1)),aE.2,d.2.2.1,cC.1))) no) no) (ret (wr ((d.1.1,d.1.2.1,d.1.2.2.1,d.1.2.2.2.1,d.1.2.2.2.2,y0),d.2)))
def J7:=bC (Cm aQ fC j8) 2000
def PF (iW:xt)(ew:LT pz Cl)(x0:Int)(x1:Nat)(x2:Nat)(x3:Bool)(x4:Nat->Int)(w0:Bool)(w1:Bool):Pg afq:=let y0:=if wn x2<wn x1 then wn x2 else wn x1;ae (decide (x0<0)) (opt (iW 0 0 x0 x3) λd=>ret d) (ae (decide (x0>120)) (opt (iW 0 0 x0 x3) λd=>ret d) (ae (ww x1 x1) (opt (ew ((x0,(x1,w0),(x2,w1),if 100<y0 then 100 else y0,0),x3,x4,0,0)) λd=>opt (iW d.2.2.2.1 d.2.2.2.2 d.1.1 d.2.1) λd=>ret d) no))
def vG:=λx0 x1 x2 x3 x4 w0 w1=>(PF nc J7 x0 x1 x2 x3 x4 w0 w1).val
abbrev GV:=xt×bP×nD×sr×(LT pz Cl)
def PG (p:GV):KK:=⟨[I6 p.1,dx p.2.1,xL p.b.1,KP p.b.2.1],⟨[⟨5,(rg 4 5 (rg 10 15 (rg 27 26 []))),[]⟩],[fV 5 2 pz YU p.c],[0],[],(some ⟨0,(rg 0 8 (rg 9 44 [])),[]⟩)⟩,2,73⟩
theorem ap9 (p:GV):LI (PG p) 5 pz YU (Cm p.2.1 p.b.1 p.b.2.1):=λ_ d c K=>by kernel_rfl
theorem azA (p:GV):D2 (PG p) afp (lf Nd) λb=>PF p.1 p.c b.1.1 b.1.2.1.1 b.1.b.1 b.2.1 b.b b.1.2.1.2 b.1.b.2:=λb=>by kernel_rfl
abbrev PH:GV:=(nc,aQ,fC,j8,J7)
theorem azB [ax]:SC (afs vG):=sc (Sound.nil 3 [.i .i64]<|Sound.nil 2 [.i .i64]<|kS (k:=PG PH) (.c Td (.c dB (.c Bc (.c Rg (.nil _))))) [5] [] ⟨kL (ap9 PH),trivial⟩ trivial (azA PH))
def YV:=qa (pr (cu aP (c kY EV)) bH)
def HM:=qe aEk
abbrev YW:=HM.B
abbrev YX:=NI->Int->Int->Int->Bool->Option YW
def YY (g:YX):Ct:=(234,FC YV (lf HM) (λb=>g b.1.1 b.1.2.1 b.1.b.1 b.1.b.2 b.2))
def J8 (bK:lK)(GW:afr)(rI:acx)(aW:dg)(dm:xR)(aD:cL)(x0:Nat->Int)(x1:Int)(x2:Int)(x3:Int)(x4:Bool):Pg YW:=opt (bK x0 16) λd=>opt (GW 30 2 2 x4 (cr d.1 [d.2.1,d.1]) false false) λaj=>ae (decide (aj.1<1048576)) (ret (((λx=>0,0,0,0),4),aj.2)) (opt (rI d.2.1 d.1 aj.2) λaE=>opt (aW x1 aE.1 aE.2) λbE=>opt (dm bE.1) λcC=>opt (aD d.2.1 aj.1 30 bE.2) λeJ=>opt (aD d.1 aj.1 30 eJ.2) λd=>ret (((λj=>bif ww j 17 then d.1 else bif ww j 16 then wI (0-eJ.1) else 0,cC,x2,x3),0),d.2))
def wg:=λx0 x1 x2 x3 x4=>(J8 eL vG yY bQ kl bu x0 x1 x2 x3 x4).val
theorem aub:∀bK GW rI aW dm aD,D0 [rH bK,afs GW,acy rI,iz aW,BF dm,gA aD] 234 YV (lf HM) λb=>J8 bK GW rI aW dm aD b.1.1 b.1.2.1 b.1.b.1 b.1.b.2 b.2:=λ_ _ _ _ _ _ b=>by kernel_rfl
theorem auc [ax]:SC (YY wg):=s0 (.c uZ (.c azB (.c arh (.c jg (.c GB (.c iy (.nil _))))))) (aub eL vG yY bQ kl bu)
def kr:=qa (pr (cl aQQ (cu aP (cu (app 1 10) nil))) (cu aP0 (c rY bH)))
def tN:=qe (res (pr (aa ax6) (pl aQk nil)))
abbrev EB:=tN.B
abbrev ov:=kr.B->Option EB
def uu (g:ov):Ct:=(180,FC kr (lf tN) g)
def uv (dU:BM)(iJ:Bh)(eS:xW)(bx:iO)(x:kr.B):Pg EB:=let n2:=x.2.1;let n6:=n2.1.2;let n1:=x.1.2;let n5:=n1.1.2;let n4:=n1.2.2;let n3:=n1.2.1;opt (dU 2 x.2.2 (cr n3.1 [n2.2.1.1,n3.1]) (cr n3.2.1 [n2.2.1.2.1,n3.2.1]) (cr n3.2.2 [n2.2.1.2.2,n3.2.2]) true) λd=>opt (dU 2 d.2 (cr n4.1 [n2.2.2.1,n4.1]) (cr n4.2.1 [n2.2.2.2.1,n4.2.1]) (cr n4.2.2 [n2.2.2.2.2,n4.2.2]) true) λaj=>opt iJ λaE=>ae (!(n2.1.1==1073741824&&(n6.1==0&&(n6.2.1==0&&(n6.2.2==0&&true))))) (opt (eS n2.1.1 n6.1 n6.2.1 n6.2.2 n1.1.1 n5.1 n5.2.1 n5.2.2 aj.2) λbE=>opt (bx bE.1.1 bE.1.2.1 bE.1.2.2.1 bE.1.2.2.2 bE.2) λcC=>ret ((x.1.1,cC.1.1,cC.1.2.1,cC.1.2.2.1,cC.1.2.2.2,d.1.1,d.1.2.1,d.1.2.2,aj.1),cC.2)) (ret ((x.1.1,n1.1.1,n5.1,n5.2.1,n5.2.2,d.1.1,d.1.2.1,d.1.2.2,aj.1),aj.2))
def iF:=λx=>(uv kg nF ln dy x).val
theorem VG:∀dU iJ eS bx,D0 [JU dU,KS iJ,Fl eS,ni bx] 180 kr (lf tN) λb=>uv dU iJ eS bx b:=λ_ _ _ _ b=>by kernel_rfl
theorem EC [ax]:SC (uu iF):=s0 (.c OW (.c Rm (.c KU (.c oZ (.nil _))))) (VG kg nF ln dy)
def js:=qa (pr (cl aQQ (cu aP (cu aMT (cu (app 2 1) (cu ald (cu (app 4 4) nil)))))) (cu (cu (gp 5 1) nil) (c iw (cu (cu (gp 6 3) nil) (c iw (c agc (c wM (cd aKk λb6=>(cl (cl (gs b6.b hI) nil) nil)))))))))
def qQ:=qe (res (pr (aa ax6) (pl (cu fJ (cu fJ (cu fJ (cu fJ (cu fJ (cl auV axT)))))) nil)))
abbrev Bj:=qQ.B
abbrev mA:=js.B->Option Bj
def sE (g:mA):Ct:=(183,FC js (lf qQ) g)
def sF (iP:Vm)(dU:BM)(eS:xW)(bx:iO)(x:js.B):Pg Bj:=let n3:=x.1.2.1;let n2:=x.2.2;let n1:=x.1.2.2;opt (iP x.2.1.1 x.2.1.2.1 x.2.1.2.2 n2.2.2.2.1.2.1 n2.2.2.1) λd=>opt (dU 2 d.2 (cr n1.1.1 [d.1.1,n1.1.1]) (cr n1.1.2.1 [d.1.2.1,n1.1.2.1]) (cr n1.1.2.2 [d.1.2.2,n1.1.2.2]) true) λd=>opt (iP n2.1.1 n2.1.2.1 n2.1.2.2 n2.2.2.2.1.2.1 d.2) λaj=>opt (dU 2 aj.2 (cr n1.2.1 [aj.1.1,n1.2.1]) (cr n1.2.2.1 [aj.1.2.1,n1.2.2.1]) (cr n1.2.2.2 [aj.1.2.2,n1.2.2.2]) true) λaE=>opt (eS n2.2.1.1 n2.2.1.2.1 n2.2.1.2.2.1 n2.2.1.2.2.2 n3.1 n3.2.1 n3.2.2.1 n3.2.2.2 aE.2) λbE=>opt (bx bE.1.1 bE.1.2.1 bE.1.2.2.1 bE.1.2.2.2 bE.2) λcC=>ret ((x.1.1,cC.1.1,cC.1.2.1,cC.1.2.2.1,cC.1.2.2.2,d.1.1,d.1.2.1,d.1.2.2,aE.1),cC.2)
def gv:=λx=>(sF um kg ln dy x).val
theorem RL:∀iP dU eS bx,D0 [Vn iP,JU dU,Fl eS,ni bx] 183 js (lf qQ) λb=>sF iP dU eS bx b:=λ_ _ _ _ b=>by kernel_rfl
theorem Bk [ax]:SC (sE gv):=s0 (.c ahi (.c OW (.c KU (.c oZ (.nil _))))) (RL um kg ln dy)
def kt:=qa (pu (cu Ia (cu Q8 (cu aQS nil))) (cd aKk λb0=>(c wM (cu asZ (c iw (cu aVZ (c iw (c agc (cl (cl (gs b0.b hI) nil) nil)))))))))
def tO:=qe (res (pu V4 (pl (cu fJ (c auV (cu fJ (cu fJ (cu fJ aXg))))) nil)))
abbrev uw:=tO.B
abbrev ux:=kt.B->Option uw
def ED (g:ux):Ct:=(179,FC kt (lf tO) g)
def dF:=qs (st (dp (cu Ia (cu Q8 (cu aQS (us 8 (c (ac (yU 7 11)) aQb))))) λv=>(pl (c (so aKk) (c cD (cu abL (c yW (cu axX (c yW (c wQ (cl (so (cl (gs v.1 hI) nil)) nil)))))))) (cu (nat 7) axR))))
def RM:=qs (st (pr (cu Ia (cu Q8 (cu aQS (us 8 (c (ac (yU 7 11)) aQh))))) (pl (c (so aKk) (c cD (cu abL (c yW (cu axX (c yW (c wQ Oh))))))) (cu (nat 7) axR))))
abbrev jt:=((Nat×Int×Int×Bool)×uU×Bool×ma×ma×aIG×NI×NI×NI×NI×NI×NI×NI×NI×NI×NI×NI)
def Bl {ρ:Type}(x:jt)(K:AX->St->Option ρ):Option ρ:=(λd=>K (.ex 0) (RM.em (d.1,d.2.1,d.b.1,d.b.2.1,d.c.1,d.c.2.1,d.1.1,d.c.b))) x
def sG (vk:DM)(jF:uq)(RN:mA)(d:dF.B):PL dF jt:=let ba:=d.2.1;let n6:=d.1.2;let n5:=d.2.2.2;let n1:=n5.2.2.2;let n8:=n1.2.2;let n2:=n8.2.2.2;let n7:=n2.2.2.2;let y0:=wt n6.2;let y1:=decide (n6.2<n6.1);ae y1 (ae (aX n6.2 d.1.1) (ae (ww ba.2.2 ba.2.2) (opt (RN ((n1.1 y0,(n1.2.1 y0,n8.1 y0,n8.2.1 y0,n8.2.2.1 y0),(n2.1 y0,n2.2.1 y0,n2.2.2.1 y0),n7.1 y0,n7.2.1 y0,n7.2.2 y0),n5.1,n5.2.1,n5.2.2.1,d.2.2.1,ba,n1)) λaj=>let n3:=aj.1.2.2.2.2;let n9:=n3.2.2.2;opt (vk (λx=>0) aj.1.1 aj.1.2.1 aj.1.2.2.1 aj.1.2.2.2.1 n3.1 n3.2.1 n3.2.2.1 n9.1 n9.2.1 n9.2.2.1 n9.2.2.2) λaE=>opt (jF aE (n1.1 y0) aj.2) λbE=>let n4:=bE.1.2.2.2.2;let aT:=n4.2.2.2;ae (aX n6.2 ba.2.2) (ae (true&&wl (0+y0*11+11) (d.1.1*11+0)) (ret (ws ((d.1.1,n6.1,wI (n6.2+1)),ba,bE.2,n5.1,n5.2.1,n5.2.2.1,λj=>bif ww j y0 then bE.1.1 else n1.1 j,λj=>bif ww j y0 then bE.1.2.1 else n1.2.1 j,λj=>bif ww j y0 then bE.1.2.2.1 else n8.1 j,λj=>bif ww j y0 then bE.1.2.2.2.1 else n8.2.1 j,λj=>bif ww j y0 then n4.1 else n8.2.2.1 j,λj=>bif ww j y0 then n4.2.1 else n2.1 j,λj=>bif ww j y0 then n4.2.2.1 else n2.2.1 j,λj=>bif ww j y0 then aT.1 else n2.2.2.1 j,λj=>bif ww j y0 then aT.2.1 else n7.1 j,λj=>bif ww j y0 then aT.2.2.1 else n7.2.1 j,λj=>bif ww j y0 then aT.2.2.2 else n7.2.2 j))) no) no) no) no) (ret (wr ((d.1.1,n6.1,n6.2,y1),d.2)))
def sH:=bC (sG rM kq gv) 2000
def uy (ew:LT dF jt)(x:kt.B):Pg uw:=ae (ww x.1.2.2 x.1.2.2) (opt (ew ((x.1.2.2,wn x.1.2.2,0),x)) λd=>ret (d.2.2.1,d.1.1,d.2.2.2.2.2.2)) no
def ku:=λx=>(uy sH x).val
abbrev oy:=DM×uq×mA×(LT dF jt)
def uA (p:oy):KK:=⟨[QN p.1,GS p.2.1,sE p.b.1],⟨[⟨1,(rg 3 8 (rg 14 20 [])),[]⟩],[fV 1 8 dF Bl p.b.2],[7,1],[],(some ⟨0,(rg 0 34 []),[]⟩)⟩,8,179⟩
theorem PI (p:oy):LI (uA p) 1 dF Bl (sG p.1 p.2.1 p.b.1):=λ_ d c K=>by kernel_rfl
theorem VH (p:oy):D2 (uA p) kt (lf tO) λb=>uy p.b.2 b:=λb=>by kernel_rfl
abbrev uB:oy:=(rM,kq,gv,sH)
theorem VI [ax]:SC (ED ku):=sc (kS (k:=uA uB) (.c adO (.c M' (.c Bk (.nil _)))) [1] [] ⟨kL (PI uB),trivial⟩ trivial (VH uB))
def kv:=qa (pu (cu Ia (cu Q8 (cu aQx nil))) (cd aQl λb0=>(c wM (cu asZ (c rY (cl (cl (gs b0.b hI) nil) nil))))))
def tP:=qe (res (pu V4 (pl (cu fJ (c auV aXg)) nil)))
abbrev uC:=tP.B
abbrev uD:=kv.B->Option uC
def EE (g:uD):Ct:=(179,FC kv (lf tP) g)
def dG:=qs (st (dp (cu Ia (cu Q8 (cu aQx (us 8 (c (ac (yU 4 11)) aQb))))) λv=>(pl (c (so aQl) (c cD (cu abL (c (so rY) (cl (so (cl (gs v.1 hI) nil)) nil))))) (cu rq6 axR))))
def RO:=qs (st (pr (cu Ia (cu Q8 (cu aQx (us 8 (c (ac (yU 4 11)) aQh))))) (pl (c (so aQl) (c cD (cu abL (c (so rY) Oh)))) (cu rq6 axR))))
abbrev ju:=((Nat×Int×Int×Bool)×uU×Bool×ET×NI×NI×NI×NI×NI×NI×NI×NI×NI×NI×NI)
def Bm {ρ:Type}(x:ju)(K:AX->St->Option ρ):Option ρ:=(λd=>K (.ex 0) (RO.em (d.1,d.2.1,d.b.1,d.b.2.1,d.1.1,d.c))) x
def sI (vk:DM)(jF:uq)(VJ:ov)(d:dG.B):PL dG ju:=let n6:=d.1.2;let n4:=d.2.2.2.2;let n1:=n4.2.2.2;let n9:=n1.2.2;let n5:=n9.2.2;let y0:=wt n6.2;let y1:=decide (n6.2<n6.1);ae y1 (ae (aX n6.2 d.1.1) (opt (VJ ((n4.1 y0,(n4.2.1 y0,n4.2.2.1 y0,n1.1 y0,n1.2.1 y0),(n9.1 y0,n9.2.1 y0,n5.1 y0),n5.2.1 y0,n5.2.2.1 y0,n5.2.2.2 y0),d.2.2.2.1,d.2.2.1)) λaj=>let n2:=aj.1.2.2.2.2;let n7:=n2.2.2.2;opt (vk (λx=>0) aj.1.1 aj.1.2.1 aj.1.2.2.1 aj.1.2.2.2.1 n2.1 n2.2.1 n2.2.2.1 n7.1 n7.2.1 n7.2.2.1 n7.2.2.2) λaE=>opt (jF aE (n4.1 y0) aj.2) λbE=>let n3:=bE.1.2.2.2.2;let n8:=n3.2.2.2;ae (aX n6.2 d.2.1.2.2) (ae (true&&wl (0+y0*11+11) (d.1.1*11+0)) (ret (ws ((d.1.1,n6.1,wI (n6.2+1)),d.2.1,bE.2,d.2.2.2.1,λj=>bif ww j y0 then bE.1.1 else n4.1 j,λj=>bif ww j y0 then bE.1.2.1 else n4.2.1 j,λj=>bif ww j y0 then bE.1.2.2.1 else n4.2.2.1 j,λj=>bif ww j y0 then bE.1.2.2.2.1 else n1.1 j,λj=>bif ww j y0 then n3.1 else n1.2.1 j,λj=>bif ww j y0 then n3.2.1 else n9.1 j,λj=>bif ww j y0 then n3.2.2.1 else n9.2.1 j,λj=>bif ww j y0 then n8.1 else n5.1 j,λj=>bif ww j y0 then n8.2.1 else n5.2.1 j,λj=>bif ww j y0 then n8.2.2.1 else n5.2.2.1 j,λj=>bif ww j y0 then n8.2.2.2 else n5.2.2.2 j))) no) no) no) (ret (wr ((d.1.1,n6.1,n6.2,y1),d.2)))
def sJ:=bC (sI rM kq iF) 2000
def uF (ew:LT dG ju)(x:kv.B):Pg uC:=ae (ww x.1.2.2 x.1.2.2) (opt (ew ((x.1.2.2,wn x.1.2.2,0),x)) λd=>ret (d.2.2.1,d.1.1,d.2.2.2.2)) no
def ky:=λx=>(uF sJ x).val
abbrev oz:=DM×uq×ov×(LT dG ju)
def uG (p:oz):KK:=⟨[QN p.1,GS p.2.1,uu p.b.1],⟨[⟨1,(rg 3 8 (rg 14 20 [])),[]⟩],[fV 1 5 dG Bm p.b.2],[4,1],[],(some ⟨0,(rg 0 34 []),[]⟩)⟩,5,179⟩
theorem PJ (p:oz):LI (uG p) 1 dG Bm (sI p.1 p.2.1 p.b.1):=λ_ d c K=>by kernel_rfl
theorem VK (p:oz):D2 (uG p) kv (lf tP) λb=>uF p.b.2 b:=λb=>by kernel_rfl
abbrev uH:oz:=(rM,kq,iF,sJ)
theorem VL [ax]:SC (EE ky):=sc (kS (k:=uG uH) (.c adO (.c M' (.c EC (.nil _)))) [1] [] ⟨kL (PJ uH),trivial⟩ trivial (VK uH))
def me:=qa (dp (cu Ia (cu Q8 (cl aPP nil))) λv=>(cd aKj λb0=>(c wM (c (cl (gs v.1 kd) nil) (cl (cl (gs b0.b hI) nil) nil)))))
def wh:=qe (res (pu V4 (pl (cu fJ (c auV (cu fJ aQV))) nil)))
abbrev w8:=wh.B
abbrev w9:=me.B->Option w8
def Hc (g:w9):Ct:=(112,uW 2 [.i .i64,.i .i64,.i .i64,.i .i64,.i .i64,.i .i64,.i .i64,.i .i64,.i .i64,.i .i64] (FC me (lf wh) g))
def dZ:=qs (st (dp (cu Ia (us 3 (cu aD3 (us 3 (c aPP (c ai aP2)))))) λv=>(pl (cd (so aKj) λb0=>(c cD (c (so (cl (gs v.1.1 kd) nil)) (cl (so (cl (gs b0.b hI) nil)) (cu abL nil))))) (cu rq7 axR))))
def VM:=qs (st (pr (cu Ia (us 3 (cu aD3 (us 3 (c aPP (c ai aKc)))))) (pl (c (so aKj) (c cD (c oH (cl Wa (cu abL nil))))) (cu rq7 axR))))
abbrev kC:=(aML×uU×Bool×aSA×NI×NI×NI×NI×NI×NI×NI×NI×NI×NI×NI)
def EF {ρ:Type}(x:kC)(K:AX->St->Option ρ):Option ρ:=(λd=>K (.ex 0) (VM.em (d.1,d.2.1,d.b.1,(d.1.1.1,d.b.2.1),d.2.1.b,d.c))) x
def uJ (VN:uD)(d:dZ.B):PL dZ kC:=let aT:=d.2.1;let n6:=d.1.2;let n1:=d.2.2.2;let n4:=n1.1.2.2.2.2;let n3:=n1.2.2.2.2.2;let n9:=n3.2.2.2;let y0:=wt n6.2;let y1:=aT.2.2*11;let y2:=decide (n6.2<n6.1);ae y2 (ae (aX n6.2 d.1.1.1) (ae (ww aT.2.2 aT.2.2) (opt (VN (aT,d.2.2.1,((n1.1.1 y0,n1.1.2.1 y0,n1.1.2.2.1 y0,n1.1.2.2.2.1 y0),(n4.1 y0,n4.2.1 y0,n4.2.2.1 y0),n4.2.2.2.1 y0,n4.2.2.2.2.1 y0,n4.2.2.2.2.2 y0),n1.2)) λaj=>let n7:=aj.2.2.2;let n5:=aj.2.1;let n2:=n7.2.2.2;let n8:=n2.2.2.2;let y0:=n5*11+0;ae (true&&ww y0 y1&&true) (ae (true&&wl (0+y0) (y1+0)) (ret (ws ((d.1.1,n6.1,wI (n6.2+1)),aT,aj.1,n1.1,λj=>bif true&&v9 j (0+n5) then aj.2.2.1 j else n1.2.1 j,λj=>bif true&&v9 j (0+n5) then n7.1 j else n1.2.2.1 j,λj=>bif true&&v9 j (0+n5) then n7.2.1 j else n1.2.2.2.1 j,λj=>bif true&&v9 j (0+n5) then n7.2.2.1 j else n1.2.2.2.2.1 j,λj=>bif true&&v9 j (0+n5) then n2.1 j else n3.1 j,λj=>bif true&&v9 j (0+n5) then n2.2.1 j else n3.2.1 j,λj=>bif true&&v9 j (0+n5) then n2.2.2.1 j else n3.2.2.1 j,λj=>bif true&&v9 j (0+n5) then n8.1 j else n9.1 j,λj=>bif true&&v9 j (0+n5) then n8.2.1 j else n9.2.1 j,λj=>bif true&&v9 j (0+n5) then n8.2.2.1 j else n9.2.2.1 j,λj=>bif true&&v9 j (0+n5) then n8.2.2.2 j else n9.2.2.2 j))) no) no) no) no) (ret (wr ((d.1.1,n6.1,n6.2,y2),d.2)))
def uK:=bC (uJ ky) 2000
def xc (ew:LT dZ kC)(x:me.B):Pg w8:=ae (ww x.1.1 x.1.1) (ae (ww x.2.1.2.2 x.2.1.2.2) (opt (ew ((x.1,wn x.1.1,0),x.2)) λd=>ret (d.2.2.1,d.2.1.2.2,d.2.2.2.2)) no) no
def mf:=λx=>(xc uK x).val
abbrev pU:=ov×uD×(LT dZ kC)
def xd (p:pU):KK:=⟨[uu p.1,EE p.2.1],⟨[⟨2,(1::2::3::5::6::7::rg 11 8 []),[]⟩],[fV 2 4 dZ EF p.b],[3,1],[],(some ⟨0,(rg 0 19 []),[]⟩)⟩,4,112⟩
theorem Uh (p:pU):LI (xd p) 2 dZ EF (uJ p.2.1):=λ_ d c K=>by kernel_rfl
theorem ZY (p:pU):D2 (xd p) me (lf wh) λb=>xc p.b b:=λb=>by kernel_rfl
abbrev xf:pU:=(iF,ky,uK)
theorem ZZ [ax]:SC (Hc mf):=sc (Sound.nil 2 [.i .i64,.i .i64,.i .i64,.i .i64,.i .i64,.i .i64,.i .i64,.i .i64,.i .i64,.i .i64]<|kS (k:=xd xf) (.c EC (.c VL (.nil _))) [2] [] ⟨kL (Uh xf),trivial⟩ trivial (ZY xf))
def YZ:=qa (pl gW nil)
def HN:=qe DQ
abbrev Y0:=HN.B
abbrev Y1:=Int->Option Y0
def Y2 (g:Y1):Ct:=(204,FC YZ (lf HN) (λb=>g b))
def J9 (x0:Int):Pg Y0:=ret (x0 !=x0)
def qR:=λx0=>(J9 x0).val
theorem aud:D0 [] 204 YZ (lf HN) λb=>J9 b:=λb=>by kernel_rfl
theorem aue [ax]:SC (Y2 qR):=s0 (.nil _) aud
def RP:=qa (pl yV nil)
def D9:=qe Ho
abbrev RQ:=D9.B
abbrev yB:=Int->Int->Option RQ
def FQ (g:yB):Ct:=(143,FC RP (lf D9) (λb=>g b.1 b.2))
def yC (wj:Y1)(x0:Int)(x1:Int):Pg RQ:=opt (wj x0) λd=>opt (wj x1) λaj=>ae d (ae aj (ret 0) (ret (-1))) (ae aj (ret 1) (ae (decide (x0<x1)) (ret (-1)) (ae (decide (x0>x1)) (ret 1) (ret 0))))
def ig:=λx0 x1=>(yC qR x0 x1).val
theorem aoH:∀wj,D0 [Y2 wj] 143 RP (lf D9) λb=>yC wj b.1 b.2:=λ_ b=>by kernel_rfl
theorem RR [ax]:SC (FQ ig):=s0 (.c aue (.nil _)) (aoH qR)
def Bn:=qa (dp (c V8 axV) λv=>(c (cl (gs v.1.1 nC) nil) (cl (cl (gs v.2.1 nC) nil) nil)))
def qS:=qe aQm
abbrev Bo:=qS.B
abbrev Bp:=Nat->Nat->NI->NI->Bool->Bool->Option Bo
def Bq (g:Bp):Ct:=(144,uW 1 [.i .i64] (uW 0 [.i .i64] (FC Bn (lf qS) (λb=>g b.1.1.1 b.1.2.1 b.2.1 b.b b.1.1.2 b.1.b))))
def cI:=qs (st (dp (c V8 (c Ib (us 7 (c V8 (c ai aJ7))))) λv=>(pl (c (so (cl (gs v.1.1 nC) nil)) (cl (so (cl (gs v.2.1.1 nC) nil)) nil)) nil)))
def wP:=qs (st (pr (us 4 aV0) (pl (c JD alh) nil)))
def Lk:=qs (st (pr (c V8 (c Ib (us 7 (c V8 (c ai aKe))))) (pl (c JD alh) nil)))
abbrev fG:=wP.B⊕(((Nat×Bool)×(Nat×Bool)×(Nat×Bool)×Int×Int×Bool)×NI×NI)
def zU {ρ:Type}(x:fG)(K:AX->St->Option ρ):Option ρ:=(t7 (λd=>K .ret (wP.em d)) (λd=>K (.ex 0) (Lk.em (d.1,(d.1.1.1,d.2.1),d.1.2.1.1,d.b)))) x
def kV (nP:yB)(d:cI.B):PL cI fG:=let n1:=d.1.2;let n2:=n1.2.2;let y0:=wt n2.2;let y1:=decide (n2.2<n2.1);ae y1 (ae (aX n2.2 n1.2.1.1) (ae (decide (n2.2>=wn n1.1.1)) (ret (wr (ws (1,(d.1.1.1,d.2.1),n1.1.1,d.2.2)))) (ae (aX n2.2 n1.1.1) (opt (nP (d.2.1 y0) (d.2.2 y0)) λaj=>ae (aj !=0) (ret (wr (ws (aj,(d.1.1.1,d.2.1),n1.1.1,d.2.2)))) (ret (ws ((d.1.1,n1.1,n1.2.1,n2.1,wI (n2.2+1)),d.2)))) no)) no) (ret (wr (wr ((d.1.1,n1.1,n1.2.1,n2.1,n2.2,y1),d.2))))
def kW:=bC (kV ig) 2000
def mB (ew:LT cI fG)(x0:Nat)(x1:Nat)(x2:Nat->Int)(x3:Nat->Int)(w0:Bool)(w1:Bool):Pg Bo:=ae (ww x0 x0) (ae (ww x1 x1) (opt (ew (((x0,w0),(x1,w1),(x0,w0),wn x0,0),x2,x3)) λx=>sum x (λd=>ret d.1) λd=>ae (decide (wn d.1.1.1<wn d.1.2.1.1)) (ret (-1)) (ret 0)) no) no
def dP:=λx0 x1 x2 x3 w0 w1=>(mB kW x0 x1 x2 x3 w0 w1).val
abbrev mC:=yB×(LT cI fG)
def sK (p:mC):KK:=⟨[FQ p.1],⟨[⟨2,(rg 2 7 (rg 12 24 [])),[]⟩],[fV 2 2 cI zU p.2],[],[],(some ⟨0,(rg 0 4 (rg 5 31 [])),[]⟩)⟩,2,144⟩
theorem Nf (p:mC):LI (sK p) 2 cI zU (kV p.1):=λ_ d c K=>by kernel_rfl
theorem RT (p:mC):D2 (sK p) Bn (lf qS) λb=>mB p.2 b.1.1.1 b.1.2.1 b.2.1 b.b b.1.1.2 b.1.b:=λb=>by kernel_rfl
abbrev sL:mC:=(ig,kW)
theorem RU [ax]:SC (Bq dP):=sc (Sound.nil 1 [.i .i64]<|Sound.nil 0 [.i .i64]<|kS (k:=sK sL) (.c RR (.nil _)) [2] [] ⟨kL (Nf sL),trivial⟩ trivial (RT sL))
def xD:=qa (pl (c aKq DR) nil)
def PK:=qe Ho
abbrev akp:=PK.B
abbrev Js:=xD.B->Option akp
def Ui (g:Js):Ct:=(96,FC xD (lf PK) g)
def Jt (nP:yB)(mD:Bp)(x:xD.B):Pg akp:=let n2:=x.2.2.2.2;let n1:=x.1.2.2.2;opt (nP x.1.1 x.2.1) λd=>ae (d !=0) (ret d) (opt (mD 8 8 (cr x.1.2.1 [n1.2.2.2.2.2,n1.2.2.2.2.1,n1.2.2.2.1,n1.2.2.1,n1.2.1,n1.1,x.1.2.2.1,x.1.2.1]) (cr x.2.2.1 [n2.2.2.2.2.2,n2.2.2.2.2.1,n2.2.2.2.1,n2.2.2.1,n2.2.1,n2.1,x.2.2.2.1,x.2.2.1]) false false) λd=>ret d)
def nk:=λx=>(Jt ig dP x).val
theorem aDs:∀nP mD,D0 [FQ nP,Bq mD] 96 xD (lf PK) λb=>Jt nP mD b:=λ_ _ b=>by kernel_rfl
theorem akq [ax]:SC (Ui nk):=s0 (.c RR (.c RU (.nil _))) (aDs ig dP)
def bG:=qa (dp (c aPQ (cl aKq (cu aP6 nil))) λv=>(cl (cl (gs v.1.1 aA) nil) nil))
def ek:=qe (res (pl aQe (pu Z8 nil)))
abbrev cX:=ek.B
abbrev iL:=bG.B->Option cX
def iM (g:iL):Ct:=(95,uW 0 [.i .i64,.i .i64,.i .i64,.i .i64,.i .i64,.i .i64,.i .i64,.i .i64,.i .i64] (FC bG (lf ek) g))
def aO:=qs (st (dp (c aPQ (us 1 (cu aP6 (us 1 (cu aIK (us 3 (c ai (c ai (cl ai (us 29 aV1)))))))))) λv=>(pl (c (so (cl (gs v.1.1 aA) nil)) aWZ) nil)))
def pD:=qs (st (pr (c aPQ (us 1 (cu aP6 (us 1 (cu aIK (us 3 (c ai (c ai (c ai (us 4 (c ai (c ai (cl ab (us 22 aV1)))))))))))))) (pl (c jk aWZ) nil)))
abbrev bB:=(((Nat×Bool)×Int×Int×Int×Bool)×eW×Int×Int×Int×Int×Int×Int×Int×Int×Int)
def iv {ρ:Type}(x:bB)(K:AX->St->Option ρ):Option ρ:=(λd=>K (.ex 0) (pD.em ((d.1.1,d.1.2.1,d.1.b.1,d.1.b.2.1,d.1.b),(d.1.1.1,d.2.1),d.b))) x
def cN (Dr:Js)(d:aO.B):PL aO bB:=let n2:=d.1.2.2;let n1:=d.2.1.2.2.2;let y0:=wI (Int.fdiv (wU (wI (n2.1+n2.2))) 2);let y1:=wt y0;let y2:=decide (n2.1<n2.2);ae y2 (ae (aX y0 d.1.1.1) (opt (Dr ((d.2.1.1 y1,d.2.1.2.1 y1,d.2.1.2.2.1 y1,n1.1 y1,n1.2.1 y1,n1.2.2.1 y1,n1.2.2.2.1 y1,n1.2.2.2.2.1 y1,n1.2.2.2.2.2 y1),d.2.2)) λaj=>ae (decide (aj<0)) (ret (ws ((d.1.1,d.1.2.1,wI (y0+1),n2.2),d.2))) (ret (ws ((d.1.1,d.1.2.1,n2.1,y0),d.2)))) no) (ret (wr ((d.1.1,d.1.2.1,n2.1,n2.2,y2),d.2)))
def cO:=bC (cN nk) 2000
def cY (Dr:Js)(ew:LT aO bB)(x:bG.B):Pg cX:=let y0:=wn x.1.1.1;ae (ww x.1.1.1 x.1.1.1) (opt (ew ((x.1.1,y0,0,y0),x.2,x.1.2)) λd=>let n2:=d.1.2.2.1;let n1:=d.2.1.2.2.2;let y0:=wt n2;ae (decide (n2<d.1.2.1)) (ae (aX n2 d.1.1.1) (opt (Dr ((d.2.1.1 y0,d.2.1.2.1 y0,d.2.1.2.2.1 y0,n1.1 y0,n1.2.1 y0,n1.2.2.1 y0,n1.2.2.2.1 y0,n1.2.2.2.2.1 y0,n1.2.2.2.2.2 y0),d.2.2)) λaj=>ret (n2,aj==0)) no) (ret (n2,false))) no
def bm:=λx=>(cY nk cO x).val
abbrev cZ:=Js×(LT aO bB)
def ey (p:cZ):KK:=⟨[Ui p.1],⟨[⟨3,(1::3::5::6::7::rg 11 29 [48]),[]⟩],[fV 3 1 aO iv p.2],[],[],(some ⟨0,(rg 0 6 (rg 8 41 [])),[]⟩)⟩,1,95⟩
theorem pd (p:cZ):LI (ey p) 3 aO iv (cN p.1):=λ_ d c K=>by kernel_rfl
theorem p9 (p:cZ):D2 (ey p) bG (lf ek) λb=>cY p.1 p.2 b:=λb=>by kernel_rfl
abbrev eA:cZ:=(nk,cO)
theorem qc [ax]:SC (iM bm):=sc (Sound.nil 0 [.i .i64,.i .i64,.i .i64,.i .i64,.i .i64,.i .i64,.i .i64,.i .i64,.i .i64]<|kS (k:=ey eA) (.c akq (.nil _)) [3] [] ⟨kL (pd eA),trivial⟩ trivial (p9 eA))
def nx:=qa (pr (cu V6 DR) (cd agh λb0=>(cl (cl (gs b0.b.1 aA) nil) nil)))
def N6:=qe (res (pu ui (pl (cl (Bu agh) Z8) nil)))
def akZ:=qe (res (pr ab (pr (cl (Bu (a 5 eO (c gi (c (gc (yU 2 9)) gZ)))) aMU) (cl abR nil))))
abbrev qT:=N6.B⊕(Bool×bZ×NI×NI×NI×NI×NI×NI×NI×NI×NI)
def Y3:qT->T:=ls (lf N6) (λd=>lf akZ (d.1,d.2.1,d.2.1.b.1,d.b))
abbrev J':=nx.B->Option qT
def Y4 (g:J'):Ct:=(58,FC nx Y3 g)
def Cn (c7:iL)(il:se)(cT:hM)(x:nx.B):Pg qT:=let ba:=x.2.2;let n5:=x.1.2;let n4:=ba.2.2.2;let n3:=x.2.1;let n9:=n3.1.2;let n7:=n3.2.2;let n1:=n5.2.2.2;let n6:=n1.2.2;let y0:=wI (n3.1.1+1);let y1:=ww n7.1 n7.1;ae (decide (x.1.1<=n7.2)) (ret (ws ((y0,wI (n9.1+1),n9.2),n3.2))) (ae y1 (opt (c7 (((n7.1,true),x.1),ba)) λd=>ae y1 (opt (il n7.1 d.1 ba.1 ba.2.1 ba.2.2.1 n4.1 n4.2.1 n4.2.2.1 n4.2.2.2.1 n4.2.2.2.2.1 n4.2.2.2.2.2 (λj=>bif ww j 0 then x.1.1 else x.1.1) (λj=>bif ww j 0 then n5.1 else n5.1) (λj=>bif ww j 0 then n5.2.1 else n5.2.1) (λj=>bif ww j 0 then n5.2.2.1 else n5.2.2.1) (λj=>bif ww j 0 then n1.1 else n1.1) (λj=>bif ww j 0 then n1.2.1 else n1.2.1) (λj=>bif ww j 0 then n6.1 else n6.1) (λj=>bif ww j 0 then n6.2.1 else n6.2.1) (λj=>bif ww j 0 then n6.2.2 else n6.2.2) 1 true true) λd=>let n8:=d.2.2;let n2:=n8.2.2.2;let aT:=n2.2.2;ae (decide (wn d.1<=n3.2.1)) (ret (wr (true,((y0,n9),n3.2.1,d.1,n7.2),d.2))) (ae (aX 0 d.1) (ae (ww d.1 d.1) (opt (cT d.1 0 1 d.2.1 n8.1 n8.2.1 n8.2.2.1 n2.1 n2.2.1 aT.1 aT.2.1 aT.2.2 true) λaj=>ret (wr (!(d.2.1 0==x.1.1&&(n8.1 0==n5.1&&(n8.2.1 0==n5.2.1&&(n8.2.2.1 0==n5.2.2.1&&(n2.1 0==n1.1&&(n2.2.1 0==n1.2.1&&(aT.1 0==n6.1&&(aT.2.1 0==n6.2.1&&(aT.2.2 0==n6.2.2&&true)))))))&&true)),((y0,n9.1,wI (n9.2.1+1),n9.2.2),n3.2.1,aj.1,n7.2),aj.2))) no) no)) no) no)
def lD:=λx=>(Cn bm cR bS x).val
theorem auf:∀c7 Dr il cT,D0 [iM c7,Ui Dr,sf il,lk cT] 58 nx Y3 λb=>Cn c7 il cT b:=λ_ _ _ _ b=>by kernel_rfl
theorem aug [ax]:SC (Y4 lD):=s0 (.c qc (.c akq (.c E8 (.c sj (.nil _))))) (auf bm nk cR bS)
def ny:=qa (pr (cu V6 gW) (cd agh λb0=>(cl (cl (gs b0.b.1 aA) nil) nil)))
def aqa:=qe (res (pr (ac (yU 2 9)) (pr (cl (Bu (a 5 eO (c gi (c (gc (yU 3 9)) gZ)))) aMU) (c abR (cl abR nil)))))
abbrev wo:=(Nat×bZ×eW×NI×NI×NI×NI×NI×NI×NI×NI×NI)
def Y5:wo->T:=λd=>lf aqa (d.1,d.2.1,(d.1,d.b.1),d.2.1.b.1,d.b.2)
abbrev Ka:=ny.B->Option wo
def Y6 (g:Ka):Ct:=(108,FC ny Y5 g)
def fx:=qs (st (pr (cu V6 (c ai (us 3 (cl ai (us 58 nil))))) (pl (cd (so agh) λb0=>(cl (so (cl (gs b0.b.1 aA) nil)) nil)) nil)))
def aiw:=qs (st (pr (cu V6 (c ai (us 3 (c ai (us 1 (c ai (cu V6 (cu V6 (cu aQp (c aPR (c ai (c ab (cu Od (cu V6 (cu V6 (cu aQp (c aPR (c ai (c (ac (NN (pu CU (pl aWp du)))) (c (ac (NN (pu CU (pl aWp CU)))) (c ai (c ai (c ab aVY))))))))))))))))))))))) (pl (c (so agh) (cl jk nil)) nil)))
def aix:=qs (st (pr (cu V6 (c ai (us 3 (c ai (us 1 (c ai (cu V6 (cu V6 (cu aQp (c aPR (c ai (cl ab (cu ui (xs 10 (cu ui (us 38 nil)))))))))))))))) (pl (c (so agh) (cl jk nil)) nil)))
abbrev nQ:=((Int×Int×Nat×Int×Bool×Nat×Int×Bool)×(aVK×Int×Int)×NI×NI×NI×NI×NI×NI×NI×NI×NI)⊕((Int×Int×Nat×Int×Bool)×(aVK×Int×Int)×NI×NI×NI×NI×NI×NI×NI×NI×NI)
def RW {ρ:Type}(x:nQ)(K:AX->St->Option ρ):Option ρ:=(t7 (λd=>K (.ex 0) (aiw.em ((d.1.1,d.1.2.1,d.1.2.1,d.1.b.1,d.1.b.2.1,d.1.c.1,d.1.b.1,d.1.2.1,d.1.c.2.1,d.1.c.2.1,d.1.c.b.1,d.1.1,d.1.c.b.2,d.1.c.b.2),(d.2.1.1,d.2.1.2.1,d.1.b.1,d.2.1.b),d.1.b.1,d.b))) (λd=>K (.ex 0) (aix.em ((d.1.1,d.1.2.1,d.1.2),(d.2.1.1,d.2.1.2.1,d.1.b.1,d.2.1.b),d.1.b.1,d.b)))) x
def yD (d:fx.B):PL fx nQ:=let n3:=d.1.2;let n2:=d.2.1.2.2;let n1:=(d.2.1.1,d.2.1.2.1,n2.2);let y0:=wt n3;let y1:=wn n2.1;let y2:=decide (n3<y1);let y3:=decide (d.2.2.1 y0<=d.1.1);ae y2 (ae (aX n3 n2.1) (ae y3 (ret (ws ((d.1.1,wI (n3+1)),d.2))) (ret (wr (ws ((d.1.1,n3,n2.1,y1,y2,y0,d.2.2.1 y0,y3),n1,d.2.2))))) no) (ret (wr (wr ((d.1.1,n3,n2.1,y1,y2),n1,d.2.2))))
def yE:=bC (yD) 2000
def Co (tv:lQ)(cT:hM)(ew:LT fx nQ)(x:ny.B):Pg wo:=ae (ww x.2.1.2.2.1 x.2.1.2.2.1) (opt (ew ((x.1,0),x.2)) λx=>sum x (λd=>let n9:=d.2.2;let n6:=d.2.1;let n5:=d.1.2;let n1:=n9.2.2.2;let n3:=n1.2.2.2;let y0:=wt n5.1;ae (KG n5.1 n5.2.1) (ae (ww y0 y0) (opt (tv y0 n9.1 n9.2.1 n9.2.2.1 n1.1 n1.2.1 n1.2.2.1 n3.1 n3.2.1 n3.2.2 false) λaj=>ae (ww n5.2.1 n5.2.1) (opt (cT n5.2.1 0 n5.1 n9.1 n9.2.1 n9.2.2.1 n1.1 n1.2.1 n1.2.2.1 n3.1 n3.2.1 n3.2.2 true) λaE=>ret (aj.1,((n6.1.1,n6.1.2.1,n6.1.2.2.1,n6.1.2.2.2.1,wI (n6.1.2.2.2.2+n5.1)),n6.2.1,aE.1,if d.1.1>n6.2.2 then d.1.1 else n6.2.2),aj.2,aE.2)) no) no) no) λd=>let aT:=d.2.2;let n8:=d.2.1;let n7:=d.1.2;let n2:=aT.2.2.2;let n4:=n2.2.2.2;let y0:=wt n7.1;ae (KG n7.1 n7.2.1) (ae (ww y0 y0) (opt (tv y0 aT.1 aT.2.1 aT.2.2.1 n2.1 n2.2.1 n2.2.2.1 n4.1 n4.2.1 n4.2.2 false) λaj=>ae (ww n7.2.1 n7.2.1) (opt (cT n7.2.1 0 n7.1 aT.1 aT.2.1 aT.2.2.1 n2.1 n2.2.1 n2.2.2.1 n4.1 n4.2.1 n4.2.2 true) λaE=>ret (aj.1,((n8.1.1,n8.1.2.1,n8.1.2.2.1,n8.1.2.2.2.1,wI (n8.1.2.2.2.2+n7.1)),n8.2.1,aE.1,if d.1.1>n8.2.2 then d.1.1 else n8.2.2),aj.2,aE.2)) no) no) no) no
def lE:=λx=>(Co fg bS yE x).val
abbrev Cp:=lQ×hM×(LT fx nQ)
def Kb (p:Cp):KK:=⟨[tk p.1,lk p.2.1],⟨[⟨2,(2::3::4::rg 6 9 (rg 25 39 (rg 15 10 []))),[]⟩],[fV 2 2 fx RW p.b],[],[],(some ⟨0,(rg 0 4 (rg 5 59 [])),[]⟩)⟩,2,108⟩
theorem ak0 (p:Cp):LI (Kb p) 2 fx RW (yD):=λ_ d c K=>by kernel_rfl
theorem auh (p:Cp):D2 (Kb p) ny Y5 λb=>Co p.1 p.2.1 p.b b:=λb=>by kernel_rfl
abbrev Kc:Cp:=(fg,bS,yE)
theorem aui [ax]:SC (Y6 lE):=sc (kS (k:=Kb Kc) (.c Gw (.c sj (.nil _))) [2] [] ⟨kL (ak0 Kc),trivial⟩ trivial (auh Kc))
def Ng:=qa (pr (cl (aa (c gi aEe)) (cu aP (cu Q8 (cu (app 2 1) nil)))) (cu (cu (gc (ccl (pu (nat 194) (pu rq7 (pu Ad CU))))) nil) (c gZ (c gZ (cu (cu (gp 4 1) nil) bH)))))
def AP:=qe (res (pr ai (pl (cu fJ (cu fJ aQk)) nil)))
abbrev Nh:=AP.B
abbrev Ni:=Int->Int->Int->Int->Int->Int->Int->Int->Int->Bool->Option Nh
def Nj (g:Ni):Ct:=(195,FC Ng (lf AP) (λb=>g b.1.1 b.1.2.1 b.1.b.1 b.1.b.2.1 b.1.c.1 b.1.c.2.1 b.1.c.b b.2.1 b.b.1 b.b.2))
def Cq (ao:BB)(x0:Int)(x1:Int)(x2:Int)(x3:Int)(x4:Int)(x5:Int)(x6:Int)(x7:Int)(x8:Int)(x9:Bool):Pg Nh:=let y0:=wI (x7+1);let y1:=wI (x0*1073741824);let y2:=wI (x5*1073741824);let y3:=wI (x4*1073741824);let y4:=wI (x6*1073741824);let y5:=wI (x2*1073741824);let y6:=wI (x1*1073741824);let y7:=wI (x3*1073741824);let y8:=aX y0 7;let y9:=y0==1;let uc:=y0==4;let ud:=y0==6;let wK:=y0==2;let yF:=y0==3;let wL:=y0==5;ae (aX x7 7) (ae (x7==6) (ae y8 (ae ud (opt (ao y4 y4 x8 600000000 x9) λd=>ret d) (ae wL (opt (ao y4 y2 x8 600000000 x9) λd=>ret d) (ae uc (opt (ao y4 y3 x8 600000000 x9) λd=>ret d) (ae yF (opt (ao y4 y7 x8 600000000 x9) λd=>ret d) (ae wK (opt (ao y4 y5 x8 600000000 x9) λd=>ret d) (ae y9 (opt (ao y4 y6 x8 600000000 x9) λd=>ret d) (opt (ao y4 y1 x8 600000000 x9) λd=>ret d))))))) no) (ae (x7==5) (ae y8 (ae ud (opt (ao y2 y4 x8 600000000 x9) λd=>ret d) (ae wL (opt (ao y2 y2 x8 600000000 x9) λd=>ret d) (ae uc (opt (ao y2 y3 x8 600000000 x9) λd=>ret d) (ae yF (opt (ao y2 y7 x8 600000000 x9) λd=>ret d) (ae wK (opt (ao y2 y5 x8 600000000 x9) λd=>ret d) (ae y9 (opt (ao y2 y6 x8 600000000 x9) λd=>ret d) (opt (ao y2 y1 x8 600000000 x9) λd=>ret d))))))) no) (ae (x7==4) (ae y8 (ae ud (opt (ao y3 y4 x8 600000000 x9) λd=>ret d) (ae wL (opt (ao y3 y2 x8 600000000 x9) λd=>ret d) (ae uc (opt (ao y3 y3 x8 600000000 x9) λd=>ret d) (ae yF (opt (ao y3 y7 x8 600000000 x9) λd=>ret d) (ae wK (opt (ao y3 y5 x8 600000000 x9) λd=>ret d) (ae y9 (opt (ao y3 y6 x8 600000000 x9) λd=>ret d) (opt (ao y3 y1 x8 600000000 x9) λd=>ret d))))))) no) (ae (x7==3) (ae y8 (ae ud (opt (ao y7 y4 x8 600000000 x9) λd=>ret d) (ae wL (opt (ao y7 y2 x8 600000000 x9) λd=>ret d) (ae uc (opt (ao y7 y3 x8 600000000 x9) λd=>ret d) (ae yF (opt (ao y7 y7 x8 600000000 x9) λd=>ret d) (ae wK (opt (ao y7 y5 x8 600000000 x9) λd=>ret d) (ae y9 (opt (ao y7 y6 x8 600000000 x9) λd=>ret d) (opt (ao y7 y1 x8 600000000 x9) λd=>ret d))))))) no) (ae (x7==2) (ae y8 (ae ud (opt (ao y5 y4 x8 600000000 x9) λd=>ret d) (ae wL (opt (ao y5 y2 x8 600000000 x9) λd=>ret d) (ae uc (opt (ao y5 y3 x8 600000000 x9) λd=>ret d) (ae yF (opt (ao y5 y7 x8 600000000 x9) λd=>ret d) (ae wK (opt (ao y5 y5 x8 600000000 x9) λd=>ret d) (ae y9 (opt (ao y5 y6 x8 600000000 x9) λd=>ret d) (opt (ao y5 y1 x8 600000000 x9) λd=>ret d))))))) no) (ae (x7==1) (ae y8 (ae ud (opt (ao y6 y4 x8 600000000 x9) λd=>ret d) (ae wL (opt (ao y6 y2 x8 600000000 x9) λd=>ret d) (ae uc (opt (ao y6 y3 x8 600000000 x9) λd=>ret d) (ae yF (opt (ao y6 y7 x8 600000000 x9) λd=>ret d) (ae wK (opt (ao y6 y5 x8 600000000 x9) λd=>ret d) (ae y9 (opt (ao y6 y6 x8 600000000 x9) λd=>ret d) (opt (ao y6 y1 x8 600000000 x9) λd=>ret d))))))) no) (ae y8 (ae ud (opt (ao y1 y4 x8 600000000 x9) λd=>ret d) (ae wL (opt (ao y1 y2 x8 600000000 x9) λd=>ret d) (ae uc (opt (ao y1 y3 x8 600000000 x9) λd=>ret d) (ae yF (opt (ao y1 y7 x8 600000000 x9) λd=>ret d) (ae wK (opt (ao y1 y5 x8 600000000 x9) λd=>ret d) (ae y9 (opt (ao y1 y6 x8 600000000 x9) λd=>ret d) (opt (ao y1 y1 x8 600000000 x9) λd=>ret d))))))) no))))))) no
def pe:=λx0 x1 x2 x3 x4 x5 x6 x7 x8 x9=>(Cq jC x0 x1 x2 x3 x4 x5 x6 x7 x8 x9).val
theorem aiy:∀ao,D0 [BC ao] 195 Ng (lf AP) λb=>Cq ao b.1.1 b.1.2.1 b.1.b.1 b.1.b.2.1 b.1.c.1 b.1.c.2.1 b.1.c.b b.2.1 b.b.1 b.b.2:=λ_ b=>by kernel_rfl
theorem aiz [ax]:SC (Nj pe):=s0 (.c LX (.nil _)) (aiy jC)
def UT:=qa (pu nil nil)
def FR:=qe (res (pu (aa (cu aWd (cu (gc (cf (fi .i64 (int 6000)))) (cu (gc (cf (fi .i64 (int (-2000))))) (cu (gc (cf (fi .i64 (int (-1500))))) (cu (gc (cf (fi .i64 (int (-6000))))) (cu (gc (cf (fi .i64 (int (-9000))))) (cu aWd (cu aWe (cu (gc (cf (fi .i64 (int 2500)))) (cu aKf (cu (gc (cf (fi .i64 (int (-2200))))) (cu (gc (cf (fi .i64 (int (-3800))))) (cu aS (cu aWe (cu aWf (cu (gc (cf (fi .i64 (int 900)))) (cu (gc (cf (fi .i64 (int (-1400))))) (cu (gc (cf (fi .i64 (int (-500))))) (cu (gc (cf (fi .i64 (int (-300))))) (cu aWg (cu aWf (cu aKf (cu (gc (cf (fi .i64 (int 1500)))) (cu (gc (cf (fi .i64 (int (-1700))))) (cu aWg (cu (gc (cf (fi .i64 (int 700)))) (cu (gc (cf (fi .i64 (int (-800))))) (cu aKf (cu aWh (cu (gc (cf (fi .i64 (int 4000)))) (cu (gc (cf (fi .i64 (int (-3000))))) (cu aKf (cu (gc (cf (fi .i64 (int 3500)))) (cu (gc (cf (fi .i64 (int (-1200))))) (cu aWh nil)))))))))))))))))))))))))))))))))))) (pu nil nil)))
abbrev HO:=FR.B
abbrev HP:=Option HO
def HQ (g:HP):Ct:=(193,FC UT (lf FR) (λ_=>g))
def HR:Pg HO:=ret ()
def mo:Option HO:=(HR).val
theorem aqb:D0 [] 193 UT (lf FR) λb=>HR:=λb=>by kernel_rfl
theorem UU [ax]:SC (HQ mo):=s0 (.nil _) aqb
def RX:=qa (pr (cu aP Hq) bH)
def Ea:=qe aQC
abbrev RY:=Ea.B
abbrev RZ:=Int->Int->Int->Bool->Option RY
def R9 (g:RZ):Ct:=(120,FC RX (lf Ea) (λb=>g b.1.1 b.1.2.1 b.1.b b.2))
def FT (cM:vj)(iR:HP)(ao:BB)(aL:Ni)(aq:cx)(x0:Int)(x1:Int)(x2:Int)(x3:Bool):Pg RY:=let y0:=wI (x0+900000000);let y1:=wI (x1+1800000000);let y2:=wI (Int.tdiv y0 450000000);let y3:=wI (Int.tdiv y1 600000000);let y4:=if 3<y2 then 3 else y2;let y5:=if 5<y3 then 5 else y3;let y6:=wI (y4+1);let y7:=wI (y1-wI (y5*600000000));opt (cM x0 x1 x2) λd=>ae (!d) (ret ((0,1),x3)) (opt iR λd=>ae (aX y4 5) (ae (y4==4) (opt (aL 1000 4000 (-3000) 500 3500 (-1200) 1000 y5 y7 x3) λd=>ae (aX y6 5) (ae (y6==4) (opt (aL 1000 4000 (-3000) 500 3500 (-1200) 1000 y5 y7 d.2) λaj=>opt (ao d.1 aj.1 (wI (y0-wI (y4*450000000))) 450000000 aj.2) λd=>opt (aq d.1 3373259426 19327352832000 d.2) λd=>ret ((d.1,0),d.2)) (ae (y6==3) (opt (aL 500 1500 (-1700) 100 700 (-800) 500 y5 y7 d.2) λaj=>opt (ao d.1 aj.1 (wI (y0-wI (y4*450000000))) 450000000 aj.2) λd=>opt (aq d.1 3373259426 19327352832000 d.2) λd=>ret ((d.1,0),d.2)) (ae (y6==2) (opt (aL 950 900 (-1400) (-500) (-300) 100 950 y5 y7 d.2) λaj=>opt (ao d.1 aj.1 (wI (y0-wI (y4*450000000))) 450000000 aj.2) λd=>opt (aq d.1 3373259426 19327352832000 d.2) λd=>ret ((d.1,0),d.2)) (ae (y6==1) (opt (aL 2200 2500 500 (-2200) (-3800) 0 2200 y5 y7 d.2) λaj=>opt (ao d.1 aj.1 (wI (y0-wI (y4*450000000))) 450000000 aj.2) λd=>opt (aq d.1 3373259426 19327352832000 d.2) λd=>ret ((d.1,0),d.2)) (opt (aL 3000 6000 (-2000) (-1500) (-6000) (-9000) 3000 y5 y7 d.2) λaj=>opt (ao d.1 aj.1 (wI (y0-wI (y4*450000000))) 450000000 aj.2) λd=>opt (aq d.1 3373259426 19327352832000 d.2) λd=>ret ((d.1,0),d.2)))))) no) (ae (y4==3) (opt (aL 500 1500 (-1700) 100 700 (-800) 500 y5 y7 x3) λd=>ae (aX y6 5) (ae (y6==4) (opt (aL 1000 4000 (-3000) 500 3500 (-1200) 1000 y5 y7 d.2) λaj=>opt (ao d.1 aj.1 (wI (y0-wI (y4*450000000))) 450000000 aj.2) λd=>opt (aq d.1 3373259426 19327352832000 d.2) λd=>ret ((d.1,0),d.2)) (ae (y6==3) (opt (aL 500 1500 (-1700) 100 700 (-800) 500 y5 y7 d.2) λaj=>opt (ao d.1 aj.1 (wI (y0-wI (y4*450000000))) 450000000 aj.2) λd=>opt (aq d.1 3373259426 19327352832000 d.2) λd=>ret ((d.1,0),d.2)) (ae (y6==2) (opt (aL 950 900 (-1400) (-500) (-300) 100 950 y5 y7 d.2) λaj=>opt (ao d.1 aj.1 (wI (y0-wI (y4*450000000))) 450000000 aj.2) λd=>opt (aq d.1 3373259426 19327352832000 d.2) λd=>ret ((d.1,0),d.2)) (ae (y6==1) (opt (aL 2200 2500 500 (-2200) (-3800) 0 2200 y5 y7 d.2) λaj=>opt (ao d.1 aj.1 (wI (y0-wI (y4*450000000))) 450000000 aj.2) λd=>opt (aq d.1 3373259426 19327352832000 d.2) λd=>ret ((d.1,0),d.2)) (opt (aL 3000 6000 (-2000) (-1500) (-6000) (-9000) 3000 y5 y7 d.2) λaj=>opt (ao d.1 aj.1 (wI (y0-wI (y4*450000000))) 450000000 aj.2) λd=>opt (aq d.1 3373259426 19327352832000 d.2) λd=>ret ((d.1,0),d.2)))))) no) (ae (y4==2) (opt (aL 950 900 (-1400) (-500) (-300) 100 950 y5 y7 x3) λd=>ae (aX y6 5) (ae (y6==4) (opt (aL 1000 4000 (-3000) 500 3500 (-1200) 1000 y5 y7 d.2) λaj=>opt (ao d.1 aj.1 (wI (y0-wI (y4*450000000))) 450000000 aj.2) λd=>opt (aq d.1 3373259426 19327352832000 d.2) λd=>ret ((d.1,0),d.2)) (ae (y6==3) (opt (aL 500 1500 (-1700) 100 700 (-800) 500 y5 y7 d.2) λaj=>opt (ao d.1 aj.1 (wI (y0-wI (y4*450000000))) 450000000 aj.2) λd=>opt (aq d.1 3373259426 19327352832000 d.2) λd=>ret ((d.1,0),d.2)) (ae (y6==2) (opt (aL 950 900 (-1400) (-500) (-300) 100 950 y5 y7 d.2) λaj=>opt (ao d.1 aj.1 (wI (y0-wI (y4*450000000))) 450000000 aj.2) λd=>opt (aq d.1 3373259426 19327352832000 d.2) λd=>ret ((d.1,0),d.2)) (ae (y6==1) (opt (aL 2200 2500 500 (-2200) (-3800) 0 2200 y5 y7 d.2) λaj=>opt (ao d.1 aj.1 (wI (y0-wI (y4*450000000))) 450000000 aj.2) λd=>opt (aq d.1 3373259426 19327352832000 d.2) λd=>ret ((d.1,0),d.2)) (opt (aL 3000 6000 (-2000) (-1500) (-6000) (-9000) 3000 y5 y7 d.2) λaj=>opt (ao d.1 aj.1 (wI (y0-wI (y4*450000000))) 450000000 aj.2) λd=>opt (aq d.1 3373259426 19327352832000 d.2) λd=>ret ((d.1,0),d.2)))))) no) (ae (y4==1) (opt (aL 2200 2500 500 (-2200) (-3800) 0 2200 y5 y7 x3) λd=>ae (aX y6 5) (ae (y6==4) (opt (aL 1000 4000 (-3000) 500 3500 (-1200) 1000 y5 y7 d.2) λaj=>opt (ao d.1 aj.1 (wI (y0-wI (y4*450000000))) 450000000 aj.2) λd=>opt (aq d.1 3373259426 19327352832000 d.2) λd=>ret ((d.1,0),d.2)) (ae (y6==3) (opt (aL 500 1500 (-1700) 100 700 (-800) 500 y5 y7 d.2) λaj=>opt (ao d.1 aj.1 (wI (y0-wI (y4*450000000))) 450000000 aj.2) λd=>opt (aq d.1 3373259426 19327352832000 d.2) λd=>ret ((d.1,0),d.2)) (ae (y6==2) (opt (aL 950 900 (-1400) (-500) (-300) 100 950 y5 y7 d.2) λaj=>opt (ao d.1 aj.1 (wI (y0-wI (y4*450000000))) 450000000 aj.2) λd=>opt (aq d.1 3373259426 19327352832000 d.2) λd=>ret ((d.1,0),d.2)) (ae (y6==1) (opt (aL 2200 2500 500 (-2200) (-3800) 0 2200 y5 y7 d.2) λaj=>opt (ao d.1 aj.1 (wI (y0-wI (y4*450000000))) 450000000 aj.2) λd=>opt (aq d.1 3373259426 19327352832000 d.2) λd=>ret ((d.1,0),d.2)) (opt (aL 3000 6000 (-2000) (-1500) (-6000) (-9000) 3000 y5 y7 d.2) λaj=>opt (ao d.1 aj.1 (wI (y0-wI (y4*450000000))) 450000000 aj.2) λd=>opt (aq d.1 3373259426 19327352832000 d.2) λd=>ret ((d.1,0),d.2)))))) no) (opt (aL 3000 6000 (-2000) (-1500) (-6000) (-9000) 3000 y5 y7 x3) λd=>ae (aX y6 5) (ae (y6==4) (opt (aL 1000 4000 (-3000) 500 3500 (-1200) 1000 y5 y7 d.2) λaj=>opt (ao d.1 aj.1 (wI (y0-wI (y4*450000000))) 450000000 aj.2) λd=>opt (aq d.1 3373259426 19327352832000 d.2) λd=>ret ((d.1,0),d.2)) (ae (y6==3) (opt (aL 500 1500 (-1700) 100 700 (-800) 500 y5 y7 d.2) λaj=>opt (ao d.1 aj.1 (wI (y0-wI (y4*450000000))) 450000000 aj.2) λd=>opt (aq d.1 3373259426 19327352832000 d.2) λd=>ret ((d.1,0),d.2)) (ae (y6==2) (opt (aL 950 900 (-1400) (-500) (-300) 100 950 y5 y7 d.2) λaj=>opt (ao d.1 aj.1 (wI (y0-wI (y4*450000000))) 450000000 aj.2) λd=>opt (aq d.1 3373259426 19327352832000 d.2) λd=>ret ((d.1,0),d.2)) (ae (y6==1) (opt (aL 2200 2500 500 (-2200) (-3800) 0 2200 y5 y7 d.2) λaj=>opt (ao d.1 aj.1 (wI (y0-wI (y4*450000000))) 450000000 aj.2) λd=>opt (aq d.1 3373259426 19327352832000 d.2) λd=>ret ((d.1,0),d.2)) (opt (aL 3000 6000 (-2000) (-1500) (-6000) (-9000) 3000 y5 y7 d.2) λaj=>opt (ao d.1 aj.1 (wI (y0-wI (y4*450000000))) 450000000 aj.2) λd=>opt (aq d.1 3373259426 19327352832000 d.2) λd=>ret ((d.1,0),d.2)))))) no))))) no)
def sM:=λx0 x1 x2 x3=>(FT gO mo jC pe aU x0 x1 x2 x3).val
theorem aoI:∀cM iR ao aL aq,D1 [zm cM,HQ iR,BC ao,Nj aL,dt aq] [0] 120 RX (lf Ea) λb=>FT cM iR ao aL aq b.1.1 b.1.2.1 b.1.b b.2:=λ_ _ _ _ _ b=>by kernel_rfl
theorem aoJ [ax]:SC (R9 sM):=s0 (.c DK (.c UU (.c LX (.c aiz (.c dE (.nil _)))))) (aoI gO mo jC pe aU)
def aJz:=qa (pl gW nil)
def auj:=qe DQ
abbrev aJA:=auj.B
abbrev aft:=Int->Option aJA
def apC (g:aft):Ct:=(55,FC aJz (lf auj) (λb=>g b))
def apD (x0:Int):Pg aJA:=ae (decide (x0>=0)) (ret (decide (x0<6))) (ret false)
def AQ:=λx0=>(apD x0).val
theorem aUW:D0 [] 55 aJz (lf auj) λb=>apD b:=λb=>by kernel_rfl
theorem azC [ax]:SC (apC AQ):=s0 (.nil _) aUW
def akr:=qa (pl (c ai DR) nil)
def PM:=qe DQ
abbrev Uj:=PM.B
abbrev Uk:=Int->Int->Int->Int->Int->Int->Int->Int->Int->Int->Option Uj
def aks (g:Uk):Ct:=(56,FC akr (lf PM) (λb=>g b.1 b.2.1 b.b.1 b.b.2.1 b.c.1 b.c.2.1 b.c.b.1 b.c.b.2.1 b.d.1 b.d.2))
def Ul (uL:ah7)(jG:J3)(iS:HI)(mE:abg)(yG:aoi)(uM:aik)(x0:Int)(x1:Int)(x2:Int)(x3:Int)(x4:Int)(x5:Int)(x6:Int)(x7:Int)(x8:Int)(x9:Int):Pg Uj:=ae (x0==0) (opt (uL x1 x2 x3 x4 x5 x6 x7 x8 x9 false) λd=>ret (d.1.2==0)) (ae (x0==1) (opt (jG x1 x2 x3 x4 x5 x6 x7 x8 x9 false) λd=>ret (d.1.2==0)) (ae (x0==2) (opt (iS x1 x2 x3 x4 x5 x6 x7 x8 x9 false) λd=>ret (d.1.2==0)) (ae (x0==3) (opt (mE x1 x2 x3 x4 x5 x6 x7 x8 x9 false) λd=>ret (d.1.2==0)) (ae (x0==4) (opt (yG x1 x2 x3 x4 x5 x6 x7 x8 x9 false) λd=>ret (d.1.2==0)) (ae (x0==5) (opt (uM x1 x2 x3 x4 x5 x6 x7 x8 x9 false) λd=>ret (d.1.2==0)) (ret true))))))
def xE:=λx0 x1 x2 x3 x4 x5 x6 x7 x8 x9=>(Ul Cc nw mn ym FE Cf x0 x1 x2 x3 x4 x5 x6 x7 x8 x9).val
theorem aDt:∀uL jG iS mE yG uM,D0 [ah8 uL,J4 jG,HJ iS,abh mE,aoj yG,ail uM] 56 akr (lf PM) λb=>Ul uL jG iS mE yG uM b.1 b.2.1 b.b.1 b.b.2.1 b.c.1 b.c.2.1 b.c.b.1 b.c.b.2.1 b.d.1 b.d.2:=λ_ _ _ _ _ _ b=>by kernel_rfl
theorem aDu [ax]:SC (aks xE):=s0 (.c awX (.c YE (.c UO (.c an8 (.c aB5 (.c axd (.nil _))))))) (aDt Cc nw mn ym FE Cf)
def qU:=qa (dp (cu eN (c ai aJ8)) λv=>(cd aEp λb0=>(c (cl (gs v.2.1 as2) nil) (c kZ (c ml (c (cl (gs b0.c.1 mj) nil) (cd oB λb5=>(cd oC λb6=>(cd oD λb7=>(cd oE λb8=>(cd oF λb9=>(cd (a 5 eO (c gi (c (gc (yU 19 9)) gZ))) λb10=>(c lN (cd (c gi (c gi (cl (gc (yU 20 11)) nil))) λb12=>(c (cl (gs b0.e kd) nil) (c (cl (gs b5.b.1 aA) nil) (c (cl (gs b6.b.1 aA) nil) (c (cl (gs b7.b.1 aA) nil) (c (cl (gs b8.b.1 aA) nil) (c (cl (gs b9.b.1 aA) nil) (c (cl (gs b10.b.1 aA) nil) (cl (cl (gs b12.b hI) nil) nil))))))))))))))))))))))
def HS:=qe (res (pu V4 (pl (cu fJ aQ5) nil)))
abbrev Y7:=HS.B
abbrev Cr:=qU.B->Option Y7
def Cs (g:Cr):Ct:=(232,uW 2 [.b,.i .i64,.i .i64] (FC qU (lf HS) g))
def Kd (rO:IC)(x:qU.B):Pg Y7:=let n1:=x.2.2.2.2.2.2.2.2.2.2.2.2.1;let n2:=n1.1.2.2;ae (ww x.1.2.1 x.1.2.1) (opt (rO x.1.1 x.2.1.2.2.2.2.2.2.2.2.2.2.2.2.2.1 x.1.2.1 n1.1.1 n1.1.2.1 n2.1 n2.2.1 n2.2.2.1 n2.2.2.2 n1.2 x.2.2.1.1 x.2.2.1.2.1 x.2.2.1.2.2 (x.1.2.2&&true)) λd=>ret d) no
def iB:=λx=>(Kd fP x).val
theorem auk:∀rO,D0 [ID rO] 232 qU (lf HS) λb=>Kd rO b:=λ_ b=>by kernel_rfl
theorem Ke [ax]:SC (Cs iB):=sc (Sound.nil 2 [.b,.i .i64,.i .i64]<|k0 (.c adF (.nil _)) (auk fP))
def pA:=qa (pr (cu eN gW) (cd pP λb0=>(c kZ (c ml (c (cl (gs b0.c.1 mj) nil) (cd qj λb4=>(cd oB λb5=>(cd oC λb6=>(cd oD λb7=>(cd oE λb8=>(cd oF λb9=>(c lN (cd rX λtQ=>(c (cl (gs b0.e kd) nil) (c (cl (gs b4.b.1 aA) nil) (c (cl (gs b5.b.1 aA) nil) (c (cl (gs b6.b.1 aA) nil) (c (cl (gs b7.b.1 aA) nil) (c (cl (gs b8.b.1 aA) nil) (c (cl (gs b9.b.1 aA) nil) (cl (cl (gs tQ.b hI) nil) nil)))))))))))))))))))))
def FU:=qe aXv
abbrev UW:=FU.B
abbrev zX:=pA.B->Option UW
def zY (g:zX):Ct:=(223,FC pA (lf FU) g)
def HT (dV:Cr)(x:pA.B):Pg UW:=let n5:=x.2.2.2.2.2;let n2:=x.2.1.2.2.2.2;let n4:=n2.2.2.2.2.2.2.2.2.2.2.2.2;let n1:=n5.2;let n3:=n1.2.2.2;ae (ww n2.1 n2.1) (ae (ww n4 n4) (ae (ww n5.1.2.2.1 n5.1.2.2.1) (ae (ww n1.1.2.2.1 n1.1.2.2.1) (ae (ww n1.2.1.2.2.1 n1.2.1.2.2.1) (ae (ww n1.2.2.1.2.2.1 n1.2.2.1.2.2.1) (ae (ww n3.1.2.2.1 n3.1.2.2.1) (ae (ww n3.2.1.2.2.1 n3.2.1.2.2.1) (ae (ww n3.2.2.2.1.2.2 n3.2.2.2.1.2.2) (opt (dV ((x.1,1,true),x.2.1,(λj=>bif ww j 0 then true else true,λj=>bif ww j 0 then 0 else 0,λj=>bif ww j 0 then 0 else 0),x.2.2)) λd=>ret d) no) no) no) no) no) no) no) no) no
def gP:=λx=>(HT iB x).val
theorem aqc:∀dV,D0 [Cs dV] 223 pA (lf FU) λb=>HT dV b:=λ_ b=>by kernel_rfl
theorem HU [ax]:SC (zY gP):=s0 (.c Ke (.nil _)) (aqc iB)
def nR:=qa (pr (cu eN gW) (cd pP λb0=>(c kZ (c ml (c (cl (gs b0.c.1 mj) nil) (cd qj λb4=>(cd oB λb5=>(cd oC λb6=>(cd oD λb7=>(cd oE λb8=>(cd oF λb9=>(c lN (cd rX λtQ=>(c (cl (gs b0.e kd) nil) (c (cl (gs b4.b.1 aA) nil) (c (cl (gs b5.b.1 aA) nil) (c (cl (gs b6.b.1 aA) nil) (c (cl (gs b7.b.1 aA) nil) (c (cl (gs b8.b.1 aA) nil) (c (cl (gs b9.b.1 aA) nil) (cl (cl (gs tQ.b hI) nil) nil)))))))))))))))))))))
def Eb:=qe aXv
abbrev Sa:=Eb.B
abbrev nS:=nR.B->Option Sa
def nT (g:nS):Ct:=(172,FC nR (lf Eb) g)
def FW (dV:Cr)(x:nR.B):Pg Sa:=let n5:=x.2.2.2.2.2;let n2:=x.2.1.2.2.2.2;let n4:=n2.2.2.2.2.2.2.2.2.2.2.2.2;let n1:=n5.2;let n3:=n1.2.2.2;ae (ww n2.1 n2.1) (ae (ww n4 n4) (ae (ww n5.1.2.2.1 n5.1.2.2.1) (ae (ww n1.1.2.2.1 n1.1.2.2.1) (ae (ww n1.2.1.2.2.1 n1.2.1.2.2.1) (ae (ww n1.2.2.1.2.2.1 n1.2.2.1.2.2.1) (ae (ww n3.1.2.2.1 n3.1.2.2.1) (ae (ww n3.2.1.2.2.1 n3.2.1.2.2.1) (ae (ww n3.2.2.2.1.2.2 n3.2.2.2.1.2.2) (opt (dV ((x.1,1,true),x.2.1,(λj=>bif ww j 0 then false else false,λj=>bif ww j 0 then 0 else 0,λj=>bif ww j 0 then 0 else 0),x.2.2)) λd=>ret d) no) no) no) no) no) no) no) no) no
def dn:=λx=>(FW iB x).val
theorem aoK:∀dV,D0 [Cs dV] 172 nR (lf Eb) λb=>FW dV b:=λ_ b=>by kernel_rfl
theorem sN [ax]:SC (nT dn):=s0 (.c Ke (.nil _)) (aoK iB)
def qV:=qa (pr (cu eN (cl (aa (a 10 rY gZ)) nil)) (cd pP λb0=>(c kZ (c ml (c (cl (gs b0.c.1 mj) nil) (cd qj λb4=>(cd oB λb5=>(cd oC λb6=>(cd oD λb7=>(cd oE λb8=>(cd oF λb9=>(c lN (cd rX λtQ=>(c (cl (gs b0.e kd) nil) (c (cl (gs b4.b.1 aA) nil) (c (cl (gs b5.b.1 aA) nil) (c (cl (gs b6.b.1 aA) nil) (c (cl (gs b7.b.1 aA) nil) (c (cl (gs b8.b.1 aA) nil) (c (cl (gs b9.b.1 aA) nil) (cl (cl (gs tQ.b hI) nil) nil)))))))))))))))))))))
def aqd:=qe aXC
abbrev Cu:=((Hn×Bool×NI×(NI×NI)×Nat×rV×Bool×Int×ma×Bool×Bool×Bool×Int×Int×Int×ET×Nat)×NI×NI×NI×NI×NI×NI×NI×NI×NI×NI)
def Y8:Cu->T:=λd=>lf aqd (d.1,d.1.e,d.2)
abbrev Kf:=qV.B->Option Cu
def Kg (g:Kf):Ct:=(222,FC qV Y8 g)
def Kh (x:qV.B):Pg Cu:=let n7:=x.2.1.2;let n6:=x.1.1;let n3:=n7.2.2.2.2;let n8:=n3.2.2.2;let n2:=x.2.2.2.2.2.2.2.2.2.2.2.2.2.1;let n5:=n2.2.2.2.2;let n1:=n8.2.2.2.2;let n4:=n1.2.2.2.2;let y0:=n4+1;ae (wl (y0*80) 140737488355328) (ret ((x.2.1.1,n7.1,n7.2.1,n7.2.2.1,n7.2.2.2.1,n3.1,n3.2.1,n3.2.2.1,n8.1,n8.2.1,n8.2.2.1,n8.2.2.2.1,n1.1,n1.2.1,n1.2.2.1,n1.2.2.2.1,y0),λj=>bif ww j n4 then n6.1.1 else n2.1 j,λj=>bif ww j n4 then n6.1.2.1 else n2.2.1 j,λj=>bif ww j n4 then n6.1.2.2.1 else n2.2.2.1 j,λj=>bif ww j n4 then n6.1.2.2.2 else n2.2.2.2.1 j,λj=>bif ww j n4 then n6.2.1.1 else n5.1 j,λj=>bif ww j n4 then n6.2.1.2.1 else n5.2.1 j,λj=>bif ww j n4 then n6.2.1.2.2 else n5.2.2.1 j,λj=>bif ww j n4 then n6.2.2.1 else n5.2.2.2.1 j,λj=>bif ww j n4 then n6.2.2.2.1 else n5.2.2.2.2.1 j,λj=>bif ww j n4 then n6.2.2.2.2 else n5.2.2.2.2.2 j)) no
def lF:=λx=>(Kh x).val
theorem aul:D0 [] 222 qV Y8 λb=>Kh b:=λb=>by kernel_rfl
theorem Y9 [ax]:SC (Kg lF):=s0 (.nil _) aul
def qW:=qa (dp (cu eN (c ai (cl aJ3 nil))) λv=>(cd aEp λb0=>(c (cl (gs v.2.1 aKw) nil) (c kZ (c ml (c (cl (gs b0.c.1 mj) nil) (cd oB λb5=>(cd oC λb6=>(cd oD λb7=>(cd oE λb8=>(cd oF λb9=>(cd (a 5 eO (c gi (c (gc (yU 19 9)) gZ))) λb10=>(c lN (cd (c gi (c gi (cl (gc (yU 20 11)) nil))) λb12=>(c (cl (gs b0.e kd) nil) (c (cl (gs b5.b.1 aA) nil) (c (cl (gs b6.b.1 aA) nil) (c (cl (gs b7.b.1 aA) nil) (c (cl (gs b8.b.1 aA) nil) (c (cl (gs b9.b.1 aA) nil) (c (cl (gs b10.b.1 aA) nil) (cl (cl (gs b12.b hI) nil) nil))))))))))))))))))))))
def aqe:=qe (res (pr (ac (yU 21 3)) (pr (c (Bu aEp) aQ5) (cl aQu nil))))
abbrev Cv:=(Nat×((Hn×Bool×NI×(NI×NI)×Nat×rV×Bool×Int×ma×Bool×Bool×Bool×Int×Int×Int×ET×Nat)×aMK×Int)×(Nat->Bool)×NI×NI)
def Y':Cv->T:=λd=>lf aqe (d.1,d.2.1,d.1,d.b)
abbrev qX:=qW.B->Option Cv
def qY (g:qX):Ct:=(228,uW 2 [.i .i64,.i .i64,.i .i64,.i .i64,.i .i64,.i .i64,.i .i64,.i .i64,.i .i64,.i .i64,.i .i64,.i .i64,.i .i64,.i .i64,.i .i64,.i .i64,.i .i64,.i .i64,.i .i64,.i .i64,.i .i64,.i .i64,.i .i64,.i .i64,.i .i64,.i .i64,.i .i64] (FC qW Y' g))
def Ki (abr:aBq)(dV:Cr)(x:qW.B):Pg Cv:=let n3:=x.2.1.2.2.2;let n5:=n3.2.2.2.2.2.2.2.2.2.2.2.2.2;let n2:=x.2.2.2.2.2.2;let n4:=n2.2.2.2;ae (ww x.1.2.1 x.1.2.1) (opt (abr ((x.2.1.2.2.1,n3.1,x.1.2.1,x.1.2.2&&true),x.2.1.2.1,x.2.2.1)) λd=>let n6:=d.1.2.2;let n1:=(x.2.1.1,d.2.1,d.1.1,d.1.2.1,n3.2);ae (ww n6 n6) (ae (ww n3.2.1 n3.2.1) (ae (ww n5 n5) (ae (ww n2.1.2.2.1 n2.1.2.2.1) (ae (ww n2.2.1.2.2.1 n2.2.1.2.2.1) (ae (ww n2.2.2.1.2.2.1 n2.2.2.1.2.2.1) (ae (ww n4.1.2.2.1 n4.1.2.2.1) (ae (ww n4.2.1.2.2.1 n4.2.1.2.2.1) (ae (ww n4.2.2.1.2.2.1 n4.2.2.1.2.2.1) (ae (ww n4.2.2.2.2.1.2.2 n4.2.2.2.2.1.2.2) (opt (dV ((x.1.1,n6,true),n1,d.2.2,x.2.2.2)) λaj=>ret (n6,(n1,aj),d.2.2)) no) no) no) no) no) no) no) no) no) no) no
def dW:=λx=>(Ki Ry iB x).val
theorem aum:∀abr dV,D0 [aBr abr,Cs dV] 228 qW Y' λb=>Ki abr dV b:=λ_ _ b=>by kernel_rfl
theorem wq [ax]:SC (qY dW):=sc (Sound.nil 2 [.i .i64,.i .i64,.i .i64,.i .i64,.i .i64,.i .i64,.i .i64,.i .i64,.i .i64,.i .i64,.i .i64,.i .i64,.i .i64,.i .i64,.i .i64,.i .i64,.i .i64,.i .i64,.i .i64,.i .i64,.i .i64,.i .i64,.i .i64,.i .i64,.i .i64,.i .i64,.i .i64]<|k0 (.c aOB (.c Ke (.nil _))) (aum Ry iB))
def nU:=qa (dp (cu eN aJ8) λv=>(cd aEp λb0=>(c (cl (gs v.1 as2) nil) (c kZ (c ml (c (cl (gs b0.c.1 mj) nil) (cd oB λb5=>(cd oC λb6=>(cd oD λb7=>(cd oE λb8=>(cd oF λb9=>(cd (a 5 eO (c gi (c (gc (yU 19 9)) gZ))) λb10=>(c lN (cd (c gi (c gi (cl (gc (yU 20 11)) nil))) λb12=>(c (cl (gs b0.e kd) nil) (c (cl (gs b5.b.1 aA) nil) (c (cl (gs b6.b.1 aA) nil) (c (cl (gs b7.b.1 aA) nil) (c (cl (gs b8.b.1 aA) nil) (c (cl (gs b9.b.1 aA) nil) (c (cl (gs b10.b.1 aA) nil) (cl (cl (gs b12.b hI) nil) nil))))))))))))))))))))))
def Ec:=qe (res (pu V4 (pl (cl (Bu aEp) alo) nil)))
abbrev FX:=Ec.B
abbrev FY:=nU.B->Option FX
def FZ (g:FY):Ct:=(229,uW 1 [.b,.i .i64,.i .i64] (FC nU (lf Ec) g))
def F1 (rK:ade)(x:nU.B):Pg FX:=let n2:=x.2.1;let n1:=n2.2.2.2.2.2;let n3:=n1.2.2.2;ae (ww x.1.1 x.1.1) (opt (rK x.1.1 x.2.2.1.1 x.2.2.1.2.1 x.2.2.1.2.2 (x.1.2&&true)) λd=>ae (decide (d.1>0)) (ret (n2.1,n2.2.1,n2.2.2.1,n2.2.2.2.1,n2.2.2.2.2.1,n1.1,n1.2.1,n1.2.2.1,n3.1,n3.2.1,n3.2.2.1,true,n3.2.2.2.2.2.1,n3.2.2.2.2.2)) (ret n2)) no
def jw:=λx=>(F1 zf x).val
theorem aoL:∀rK,D1 [adf rK] [0] 229 nU (lf Ec) λb=>F1 rK b:=λ_ b=>by kernel_rfl
theorem Sb [ax]:SC (FZ jw):=sc (Sound.nil 1 [.b,.i .i64,.i .i64]<|k0 (.c arQ (.nil _)) (aoL zf))
def lW:=qa (pr (cu eN (c ai (c ai aWI))) (cd pP λb0=>(c kZ (c ml (c (cl (gs b0.c.1 mj) nil) (cd qj λb4=>(cd oB λb5=>(cd oC λb6=>(cd oD λb7=>(cd oE λb8=>(cd oF λb9=>(c lN (cd rX λtQ=>(c (cl (gs b0.e kd) nil) (c (cl (gs b4.b.1 aA) nil) (c (cl (gs b5.b.1 aA) nil) (c (cl (gs b6.b.1 aA) nil) (c (cl (gs b7.b.1 aA) nil) (c (cl (gs b8.b.1 aA) nil) (c (cl (gs b9.b.1 aA) nil) (cl (cl (gs tQ.b hI) nil) nil)))))))))))))))))))))
def AR:=qe as9
abbrev Cw:=AR.B
abbrev Nk:=lW.B->Option Cw
def Nl (g:Nk):Ct:=(169,FC lW (lf AR) g)
def Cy (bf:qX)(dh:zX)(x:lW.B):Pg Cw:=let n7:=x.2.2.2.2.2;let n4:=x.1.2.2.2;let n3:=x.2.1.2.2.2.2;let n6:=n3.2.2.2.2.2.2.2.2.2.2.2.2;let n2:=n7.2;let n5:=n2.2.2.2;let n1:=x.1.2.2.1;let y0:=ww n3.1 n3.1;let y1:=ww n6 n6;let y2:=ww n7.1.2.2.1 n7.1.2.2.1;let y3:=ww n2.1.2.2.1 n2.1.2.2.1;let y4:=ww n2.2.1.2.2.1 n2.2.1.2.2.1;let y5:=ww n2.2.2.1.2.2.1 n2.2.2.1.2.2.1;let y6:=ww n5.1.2.2.1 n5.1.2.2.1;let y7:=ww n5.2.1.2.2.1 n5.2.1.2.2.1;let y8:=ww n5.2.2.2.1.2.2 n5.2.2.2.1.2.2;ae (n3.2.1.2.1==x.1.2.1) (ae y0 (ae y1 (ae y2 (ae y3 (ae y4 (ae y5 (ae y6 (ae y7 (ae y8 (opt (bf ((x.1.1,1,true),x.2.1,(λj=>bif ww j 0 then n1 0 else n1 0,λj=>bif ww j 0 then n1 1 else n1 1,λj=>bif ww j 0 then n1 2 else n1 2,λj=>bif ww j 0 then n1 3 else n1 3,λj=>bif ww j 0 then n1 4 else n1 4,λj=>bif ww j 0 then n1 5 else n1 5,λj=>bif ww j 0 then n1 6 else n1 6,λj=>bif ww j 0 then n1 7 else n1 7,λj=>bif ww j 0 then n1 8 else n1 8,λj=>bif ww j 0 then n1 9 else n1 9,λj=>bif ww j 0 then n1 10 else n1 10,λj=>bif ww j 0 then n1 11 else n1 11,λj=>bif ww j 0 then n1 12 else n1 12,λj=>bif ww j 0 then n1 13 else n1 13,λj=>bif ww j 0 then n1 14 else n1 14,λj=>bif ww j 0 then n1 15 else n1 15,λj=>bif ww j 0 then n1 16 else n1 16,λj=>bif ww j 0 then n1 17 else n1 17,λj=>bif ww j 0 then n1 18 else n1 18,λj=>bif ww j 0 then n1 19 else n1 19,λj=>bif ww j 0 then n1 20 else n1 20,λj=>bif ww j 0 then n1 21 else n1 21,λj=>bif ww j 0 then n1 22 else n1 22,λj=>bif ww j 0 then n1 23 else n1 23,λj=>bif ww j 0 then n4.1 else n4.1,λj=>bif ww j 0 then n4.2.1 else n4.2.1,λj=>bif ww j 0 then n4.2.2 else n4.2.2),x.2.2)) λd=>ret d.2.1) no) no) no) no) no) no) no) no) no) (ae y0 (ae y1 (ae y2 (ae y3 (ae y4 (ae y5 (ae y6 (ae y7 (ae y8 (opt (dh (x.1.1,x.2)) λd=>ret (x.2.1,d)) no) no) no) no) no) no) no) no) no)
def lX:=λx=>(Cy dW gP x).val
theorem aiA:∀bf dh,D1 [qY bf,zY dh] [0] 169 lW (lf AR) λb=>Cy bf dh b:=λ_ _ b=>by kernel_rfl
theorem aiB [ax]:SC (Nl lX):=s0 (.c wq (.c HU (.nil _))) (aiA dW gP)
def gU:=qa (pu (cu eN nil) (cd pP λb0=>(c kZ (c ml (c (cl (gs b0.c.1 mj) nil) (cd qj λb4=>(cd oB λb5=>(cd oC λb6=>(cd oD λb7=>(cd oE λb8=>(cd oF λb9=>(c lN (cd rX λtQ=>(c (cl (gs b0.e kd) nil) (c (cl (gs b4.b.1 aA) nil) (c (cl (gs b5.b.1 aA) nil) (c (cl (gs b6.b.1 aA) nil) (c (cl (gs b7.b.1 aA) nil) (c (cl (gs b8.b.1 aA) nil) (c (cl (gs b9.b.1 aA) nil) (cl (cl (gs tQ.b hI) nil) nil)))))))))))))))))))))
def wu:=qe (res (pr ai (pl (cl (Bu pP) aXh) nil)))
abbrev xg:=wu.B
abbrev He:=gU.B->Option xg
def Hf (g:He):Ct:=(220,FC gU (lf wu) g)
def pV (yH:RZ)(x:gU.B):Pg xg:=let n1:=x.1.1.2.2.2.2.2.2.2.2.2.2.2.2.2;opt (yH n1.1 n1.2.1 n1.2.2 x.1.2.1) λd=>ret (d.1.1,x.1.1,d.2,x.1.2.2)
def fD:=λx=>(pV sM x).val
theorem Z0:∀yH,D0 [R9 yH] 220 gU (lf wu) λb=>pV yH b:=λ_ b=>by kernel_rfl
theorem Z1 [ax]:SC (Hf fD):=s0 (.c aoJ (.nil _)) (Z0 sM)
def qZ:=qa (pr (cu eN DR) (cd pP λb0=>(c kZ (c ml (c (cl (gs b0.c.1 mj) nil) (cd qj λb4=>(cd oB λb5=>(cd oC λb6=>(cd oD λb7=>(cd oE λb8=>(cd oF λb9=>(c lN (cd rX λtQ=>(c (cl (gs b0.e kd) nil) (c (cl (gs b4.b.1 aA) nil) (c (cl (gs b5.b.1 aA) nil) (c (cl (gs b6.b.1 aA) nil) (c (cl (gs b7.b.1 aA) nil) (c (cl (gs b8.b.1 aA) nil) (c (cl (gs b9.b.1 aA) nil) (cl (cl (gs tQ.b hI) nil) nil)))))))))))))))))))))
def N7:=qe as9
def ak1:=qe (res (pu V4 (pr (c (Bu (a 26 oI (c gb (c gR (a 2 oR (cu aiZ (cu ai0 (c aJ4 (au 6 agi (cu aqv (a 4 rW (cu aqw (c gb (c gi (a 3 iw (c gb (cu axW (c gb aQX)))))))))))))))))) aQ4) aKv)))
abbrev Cz:=N7.B⊕(((Hn×Bool×NI×(NI×NI)×Nat×rV×Bool×Int×ma×Bool×Bool×Int×Int×Int×ET×Nat)×aMK×Int)×NI×NI×NI×NI×NI×NI×NI×NI×NI×NI)
def Za:Cz->T:=ls (lf N7) (λd=>lf ak1 (d.1,d.1.1.d.c.b.2,d.2))
abbrev Zb:=qZ.B->Option Cz
def Zc (g:Zb):Ct:=(167,FC qZ Za g)
def Kj (mE:abg)(bg:eo)(pW:He)(VO:aw2)(aZ:nS)(VP:awL)(gh:Kf)(fm:qH)(iQ:GI)(cV:zb)(aN:fw)(dh:zX)(x:qZ.B):Pg Cz:=let n8:=x.2.2;let bo:=n8.2.2.2;let n7:=x.2.1.2.2;let n9:=n7.2.2.2.2.2.2.2.2.2.2.2.2.2.2;let n6:=x.1.2.2.2;let n1:=bo.2;let n3:=n1.2.2.2;let bI:=n3.2.2.2;let y0:=ww bo.1.2.2.1 bo.1.2.2.1;let y1:=ww n1.1.2.2.1 n1.1.2.2.1;let y2:=ww n1.2.1.2.2.1 n1.2.1.2.2.1;let y3:=ww n1.2.2.1.2.2.1 n1.2.2.1.2.2.1;let y4:=ww n3.1.2.2.1 n3.1.2.2.1;let y5:=ww n3.2.1.2.2.1 n3.2.1.2.2.1;let y6:=ww bI.1.2.2 bI.1.2.2;opt (mE x.1.1 x.1.2.1 x.1.2.2.1 n6.1 n6.2.1 n6.2.2.1 n6.2.2.2.1 n6.2.2.2.2.1 n6.2.2.2.2.2 x.2.1.2.1) λd=>let ba:=d.1.1;opt (bg n7.1) λaj=>ae (ww n7.2.2.1 n7.2.2.1) (ae (ww n9 n9) (ae y0 (ae y1 (ae y2 (ae y3 (ae y4 (ae y5 (ae y6 (opt (pW ((x.2.1.1,d.2,n7),n8)) λaE=>let n5:=aE.2.2.2;let aT:=n5.2.2.2.2.2.2.2.2.2.2.2.2.2.2;let oN:=ww n5.2.2.1 n5.2.2.1;let ajk:=ww aT aT;opt (VO aj.1 aj.2.1 aj.2.2.1 aj.2.2.2 ba.1 ba.2.1 ba.2.2.1 ba.2.2.2 aE.1 aE.2.2.1) λbE=>ae (bE.1.2!=0) (ae oN (ae ajk (ae y0 (ae y1 (ae y2 (ae y3 (ae y4 (ae y5 (ae y6 (opt (aZ (3,(aE.2.1,bE.2,n5),n8)) λd=>ret (ws ((aE.2.1,bE.2,n5),d))) no) no) no) no) no) no) no) no) no) (opt (VP n5.1 n5.2.1.1 n5.2.1.2 bE.1.1 (aE.2.1.2.2.2.2.2.2.2.1 0) bE.2) λcC=>ae oN (ae ajk (ae y0 (ae y1 (ae y2 (ae y3 (ae y4 (ae y5 (ae y6 (opt (gh (((cC.1.2.2,(0,0,0),0,0,0),1),(aE.2.1,cC.2,cC.1.1,cC.1.2.1,n5.2.2),n8)) λeJ=>let bj:=eJ.1.2.2;let n2:=bj.2.2;let n16:=n2.2.2;let n4:=n16.2.2;let n15:=n4.2.2.2;opt (bg bj.1) λc9=>opt (fm c9.1 c9.2.1 c9.2.2.1 c9.2.2.2 eJ.1.2.1) λlR=>opt (iQ lR.1 ba.1 ba.2.1 ba.2.2.1 lR.2) λd=>opt (cV bj.1 16 3 (cr d.1.1 [d.1.2.2,d.1.2.1,d.1.1]) false) λpY=>opt (aN pY d.2) λd=>ae (ww n2.1 n2.1) (ae (ww n15.2.2.2.2.2 n15.2.2.2.2.2) (ae y0 (ae y1 (ae y2 (ae y3 (ae y4 (ae y5 (ae y6 (opt (dh (3,(eJ.1.1,d.2,d.1,bj.2.1,n2.1,n2.2.1,n16.1,n16.2.1,n4.1,n4.2.1,true,n15),n8.1,n8.2.1,n8.2.2.1,bo.1,n1.1,n1.2.1,n1.2.2.1,n3.1,n3.2.1,n3.2.2.1,bI.1,eJ.2,bI.2.2)) λmV=>ret (wr (((eJ.1.1,d.2,d.1,bj.2.1,n2.1,n2.2.1,n16.1,n16.2.1,n4.1,n4.2.1,n15),mV),eJ.2))) no) no) no) no) no) no) no) no) no) no) no) no) no) no) no) no) no) no)) no) no) no) no) no) no) no) no) no
def rb:=λx=>(Kj ym cy fD M6 dn MT lF jU oY gC cw gP x).val
theorem aun:∀mE bg pW VO aZ VP gh fm iQ cV aN dh,D0 [abh mE,jE bg,Hf pW,aw3 VO,nT aZ,awM VP,Kg gh,DI fm,Md iQ,DG cV,ji aN,zY dh] 167 qZ Za λb=>Kj mE bg pW VO aZ VP gh fm iQ cV aN dh b:=λ_ _ _ _ _ _ _ _ _ _ _ _ b=>by kernel_rfl
theorem auo [ax]:SC (Zc rb):=s0 (.c an8 (.c km (.c Z1 (.c aLN (.c sN (.c aLG (.c Y9 (.c GK (.c Vq (.c Ir (.c jV (.c HU (.nil _))))))))))))) (aun ym cy fD M6 dn MT lF jU oY gC cw gP)
def re:=qa (pr (cu eN (cl aKr nil)) (cd pP λb0=>(c kZ (c ml (c (cl (gs b0.c.1 mj) nil) (cd qj λb4=>(cd oB λb5=>(cd oC λb6=>(cd oD λb7=>(cd oE λb8=>(cd oF λb9=>(c lN (cd rX λtQ=>(c (cl (gs b0.e kd) nil) (c (cl (gs b4.b.1 aA) nil) (c (cl (gs b5.b.1 aA) nil) (c (cl (gs b6.b.1 aA) nil) (c (cl (gs b7.b.1 aA) nil) (c (cl (gs b8.b.1 aA) nil) (c (cl (gs b9.b.1 aA) nil) (cl (cl (gs tQ.b hI) nil) nil)))))))))))))))))))))
def aqf:=qe aXC
abbrev CA:=((Hn×Bool×NI×(NI×NI)×Nat×rV×Bool×Int×ma×Bool×Bool×Bool×Int×Int×Int×ET×Nat)×NI×NI×NI×NI×NI×NI×NI×NI×NI×NI)
def Zd:CA->T:=λd=>lf aqf (d.1,d.1.e,d.2)
abbrev Ze:=re.B->Option CA
def Zf (g:Ze):Ct:=(224,FC re Zd g)
def Kk (ia:yk)(EG:abn)(gh:Kf)(zZ:UR)(Ju:akl)(x:re.B):Pg CA:=let bj:=x.1.2;let n4:=x.2.1.2.2.2;let n8:=n4.2.2.2.2.2.2.2.2.2.2.2.2.2;let n3:=x.2.2;let ba:=n3.2.2;let n1:=ba.2.2;let bo:=n1.2.2.1;let n2:=n1.2.2.2;let n7:=n2.2.2.2;let y0:=ww ba.2.1.2.2.1 ba.2.1.2.2.1;let y1:=ww n1.1.2.2.1 n1.1.2.2.1;let y2:=ww n1.2.1.2.2.1 n1.2.1.2.2.1;let y3:=ww bo.2.2.1 bo.2.2.1;let y4:=ww n2.1.2.2.1 n2.1.2.2.1;let y5:=ww n2.2.1.2.2.1 n2.2.1.2.2.1;let y6:=ww n7.1.2.2 n7.1.2.2;opt (ia x.1.1.1 x.1.1.2.1 x.1.1.2.2 n3.1.1.1 n3.1.1.2.1 n3.1.1.2.2 n3.1.2.1 n3.1.2.2 x.2.1.2.1) λd=>opt (EG x.2.1.2.2.1 n4.1.1 n4.1.2 bj.1.1 bj.1.2.1 bj.1.2.2 bj.2.2 d.2) λaj=>ae (ww n4.2.1 n4.2.1) (ae (ww n8 n8) (ae y0 (ae y1 (ae y2 (ae y3 (ae y4 (ae y5 (ae y6 (opt (gh ((((1073741824,0,0,0),aj.1.2.2,0,0,0),2),(x.2.1.1,aj.2,aj.1.1,aj.1.2.1,n4.2),n3)) λaE=>let n6:=aE.1.2.2.2;let n9:=n6.2.2.2.2.2.2.2.2.2.2.2.2.2;opt (zZ aE.1.2.2.1 n6.1.1 n6.1.2 d.1.1.1 d.1.1.2.1 bj.2.1 aE.1.2.1) λbE=>ae (ww n6.2.1 n6.2.1) (ae (ww n9 n9) (ae y0 (ae y1 (ae y2 (ae y3 (ae y4 (ae y5 (ae y6 (opt (gh ((((1073741824,0,0,0),(0,0,0),bE.1.2.2),3),(aE.1.1,bE.2,bE.1.1,bE.1.2.1,n6.2),n3.1,n3.2.1,ba.1,ba.2.1,n1.1,n1.2.1,bo,n2.1,n2.2.1,n2.2.2.1,n7.1,aE.2,n7.2.2)) λcC=>let n5:=cC.1.2.2.2;let aT:=n5.2.2.2.2.2.2.2.2.2.2.2.2.2;ae (n5.2.2.1.2.1==2) (opt (Ju cC.1.2.2.1 n5.1.1 n5.1.2 d.1.1.2.2 bj.2.1 cC.1.2.1) λd=>ae (ww n5.2.1 n5.2.1) (ae (ww aT aT) (ae y0 (ae y1 (ae y2 (ae y3 (ae y4 (ae y5 (ae y6 (opt (gh ((((1073741824,0,0,0),(0,0,0),0,0,d.1.2.2),4),(cC.1.1,d.2,d.1.1,d.1.2.1,n5.2),n3.1,n3.2.1,ba.1,ba.2.1,n1.1,n1.2.1,bo,n2.1,n2.2.1,n2.2.2.1,n7.1,cC.2,n7.2.2)) λd=>ret d) no) no) no) no) no) no) no) no) no) (ret cC)) no) no) no) no) no) no) no) no) no) no) no) no) no) no) no) no) no) no
def rf:=λx=>(Kk kn yA lF ub Dq x).val
theorem aup:∀ia EG gh zZ Ju,D0 [Ey ia,abo EG,Kg gh,US zZ,akm Ju] 224 re Zd λb=>Kk ia EG gh zZ Ju b:=λ_ _ _ _ _ b=>by kernel_rfl
theorem auq [ax]:SC (Zf rf):=s0 (.c M5 (.c axu (.c Y9 (.c ap8 (.c aDr (.nil _)))))) (aup kn yA lF ub Dq)
def lY:=qa (pr (cu eN DR) (cd pP λb0=>(c kZ (c ml (c (cl (gs b0.c.1 mj) nil) (cd qj λb4=>(cd oB λb5=>(cd oC λb6=>(cd oD λb7=>(cd oE λb8=>(cd oF λb9=>(c lN (cd rX λtQ=>(c (cl (gs b0.e kd) nil) (c (cl (gs b4.b.1 aA) nil) (c (cl (gs b5.b.1 aA) nil) (c (cl (gs b6.b.1 aA) nil) (c (cl (gs b7.b.1 aA) nil) (c (cl (gs b8.b.1 aA) nil) (c (cl (gs b9.b.1 aA) nil) (cl (cl (gs tQ.b hI) nil) nil)))))))))))))))))))))
def AS:=qe as9
abbrev CB:=AS.B
abbrev Nm:=lY.B->Option CB
def Nn (g:Nm):Ct:=(174,FC lY (lf AS) g)
def CC (yG:aoi)(Jv:aj6)(Ds:akc)(aZ:nS)(bf:qX)(x:lY.B):Pg CB:=let bj:=x.2.2;let n8:=x.2.1.1;let n7:=x.1.2.2.2;let n6:=n8.2.2.2.2.1.2.2.2.2.1;let n4:=x.2.1.2.2;let ba:=n4.2.2.2.2.2.2.2.2.2.2.2.2.2.2;let n3:=bj.2.2.2.2;let n9:=n3.2.2.2;let y0:=ww n4.2.2.1 n4.2.2.1;let y1:=ww ba ba;let y2:=ww bj.2.2.2.1.2.2.1 bj.2.2.2.1.2.2.1;let y3:=ww n3.1.2.2.1 n3.1.2.2.1;let y4:=ww n3.2.1.2.2.1 n3.2.1.2.2.1;let y5:=ww n3.2.2.1.2.2.1 n3.2.2.1.2.2.1;let y6:=ww n9.1.2.2.1 n9.1.2.2.1;let y7:=ww n9.2.1.2.2.1 n9.2.1.2.2.1;let y8:=ww n9.2.2.2.1.2.2 n9.2.2.2.1.2.2;opt (yG x.1.1 x.1.2.1 x.1.2.2.1 n7.1 n7.2.1 n7.2.2.1 n7.2.2.2.1 n7.2.2.2.2.1 n7.2.2.2.2.2 x.2.1.2.1) λd=>opt (Jv n4.1 d.1.1.1 d.1.1.2 n6 d.2) λd=>let n5:=d.1.1.2;let n1:=d.1.1.1;ae (d.1.2==0) (opt (Ds n4.1 17592186044416 n6 d.2) λaj=>ae (aj.1.2==0) (ae y0 (ae y1 (ae y2 (ae y3 (ae y4 (ae y5 (ae y6 (ae y7 (ae y8 (opt (bf ((4,2,true),(n8,aj.2,n4),(az3 (λk=>cr (n1 k) [aj.1.1.1 k,n1 k]) (cr n5.1 [aj.1.1.2.1,n5.1],cr n5.2.1 [aj.1.1.2.2.1,n5.2.1],cr n5.2.2 [aj.1.1.2.2.2,n5.2.2])),bj)) λd=>ret d.2.1) no) no) no) no) no) no) no) no) no) (ae y0 (ae y1 (ae y2 (ae y3 (ae y4 (ae y5 (ae y6 (ae y7 (ae y8 (opt (bf ((4,1,true),(n8,aj.2,n4),(λj=>bif ww j 0 then n1 0 else n1 0,λj=>bif ww j 0 then n1 1 else n1 1,λj=>bif ww j 0 then n1 2 else n1 2,λj=>bif ww j 0 then n1 3 else n1 3,λj=>bif ww j 0 then n1 4 else n1 4,λj=>bif ww j 0 then n1 5 else n1 5,λj=>bif ww j 0 then n1 6 else n1 6,λj=>bif ww j 0 then n1 7 else n1 7,λj=>bif ww j 0 then n1 8 else n1 8,λj=>bif ww j 0 then n1 9 else n1 9,λj=>bif ww j 0 then n1 10 else n1 10,λj=>bif ww j 0 then n1 11 else n1 11,λj=>bif ww j 0 then n1 12 else n1 12,λj=>bif ww j 0 then n1 13 else n1 13,λj=>bif ww j 0 then n1 14 else n1 14,λj=>bif ww j 0 then n1 15 else n1 15,λj=>bif ww j 0 then n1 16 else n1 16,λj=>bif ww j 0 then n1 17 else n1 17,λj=>bif ww j 0 then n1 18 else n1 18,λj=>bif ww j 0 then n1 19 else n1 19,λj=>bif ww j 0 then n1 20 else n1 20,λj=>bif ww j 0 then n1 21 else n1 21,λj=>bif ww j 0 then n1 22 else n1 22,λj=>bif ww j 0 then n1 23 else n1 23,λj=>bif ww j 0 then n5.1 else n5.1,λj=>bif ww j 0 then n5.2.1 else n5.2.1,λj=>bif ww j 0 then n5.2.2 else n5.2.2),bj)) λd=>ret d.2.1) no) no) no) no) no) no) no) no) no)) (opt (Ds n4.1 17592186044416 n6 d.2) λd=>let aT:=d.1.1.2;let n2:=d.1.1.1;ae (d.1.2==0) (ae y0 (ae y1 (ae y2 (ae y3 (ae y4 (ae y5 (ae y6 (ae y7 (ae y8 (opt (bf ((4,1,true),(n8,d.2,n4),(λj=>bif ww j 0 then n2 0 else n2 0,λj=>bif ww j 0 then n2 1 else n2 1,λj=>bif ww j 0 then n2 2 else n2 2,λj=>bif ww j 0 then n2 3 else n2 3,λj=>bif ww j 0 then n2 4 else n2 4,λj=>bif ww j 0 then n2 5 else n2 5,λj=>bif ww j 0 then n2 6 else n2 6,λj=>bif ww j 0 then n2 7 else n2 7,λj=>bif ww j 0 then n2 8 else n2 8,λj=>bif ww j 0 then n2 9 else n2 9,λj=>bif ww j 0 then n2 10 else n2 10,λj=>bif ww j 0 then n2 11 else n2 11,λj=>bif ww j 0 then n2 12 else n2 12,λj=>bif ww j 0 then n2 13 else n2 13,λj=>bif ww j 0 then n2 14 else n2 14,λj=>bif ww j 0 then n2 15 else n2 15,λj=>bif ww j 0 then n2 16 else n2 16,λj=>bif ww j 0 then n2 17 else n2 17,λj=>bif ww j 0 then n2 18 else n2 18,λj=>bif ww j 0 then n2 19 else n2 19,λj=>bif ww j 0 then n2 20 else n2 20,λj=>bif ww j 0 then n2 21 else n2 21,λj=>bif ww j 0 then n2 22 else n2 22,λj=>bif ww j 0 then n2 23 else n2 23,λj=>bif ww j 0 then aT.1 else aT.1,λj=>bif ww j 0 then aT.2.1 else aT.2.1,λj=>bif ww j 0 then aT.2.2 else aT.2.2),bj)) λd=>ret d.2.1) no) no) no) no) no) no) no) no) no) (ae y0 (ae y1 (ae y2 (ae y3 (ae y4 (ae y5 (ae y6 (ae y7 (ae y8 (opt (aZ (4,(n8,d.2,n4),bj)) λaj=>ret ((n8,d.2,n4),aj)) no) no) no) no) no) no) no) no) no))
def lZ:=λx=>(CC FE Dn Dp dn dW x).val
theorem aiC:∀yG Jv Ds aZ bf,D0 [aoj yG,aj7 Jv,akd Ds,nT aZ,qY bf] 174 lY (lf AS) λb=>CC yG Jv Ds aZ bf b:=λ_ _ _ _ _ b=>by kernel_rfl
theorem aiD [ax]:SC (Nn lZ):=s0 (.c aB5 (.c aDj (.c aDl (.c sN (.c wq (.nil _)))))) (aiC FE Dn Dp dn dW)
def ri:=qa (pr (cu eN DR) (cd pP λb0=>(c kZ (c ml (c (cl (gs b0.c.1 mj) nil) (cd qj λb4=>(cd oB λb5=>(cd oC λb6=>(cd oD λb7=>(cd oE λb8=>(cd oF λb9=>(c lN (cd rX λtQ=>(c (cl (gs b0.e kd) nil) (c (cl (gs b4.b.1 aA) nil) (c (cl (gs b5.b.1 aA) nil) (c (cl (gs b6.b.1 aA) nil) (c (cl (gs b7.b.1 aA) nil) (c (cl (gs b8.b.1 aA) nil) (c (cl (gs b9.b.1 aA) nil) (cl (cl (gs tQ.b hI) nil) nil)))))))))))))))))))))
def HV:=qe as9
abbrev Kl:=HV.B
abbrev Zg:=ri.B->Option Kl
def Zh (g:Zg):Ct:=(175,FC ri (lf HV) g)
def Km (uM:aik)(VQ:axg)(aZ:nS)(bf:qX)(ee:FY)(x:ri.B):Pg Kl:=let aT:=x.2.1;let n7:=x.2.2;let ba:=n7.2.2.2;let n6:=x.1.2.2.2;let n2:=aT.2.2;let n8:=n2.2.2.2.2.2.2.2.2.2.2.2.2.2.2;let n1:=ba.2;let n3:=n1.2.2.2;let y0:=ww n2.2.2.1 n2.2.2.1;let y1:=ww n8 n8;let y2:=ww ba.1.2.2.1 ba.1.2.2.1;let y3:=ww n1.1.2.2.1 n1.1.2.2.1;let y4:=ww n1.2.1.2.2.1 n1.2.1.2.2.1;let y5:=ww n1.2.2.1.2.2.1 n1.2.2.1.2.2.1;let y6:=ww n3.1.2.2.1 n3.1.2.2.1;let y7:=ww n3.2.1.2.2.1 n3.2.1.2.2.1;let y8:=ww n3.2.2.2.1.2.2 n3.2.2.2.1.2.2;opt (uM x.1.1 x.1.2.1 x.1.2.2.1 n6.1 n6.2.1 n6.2.2.1 n6.2.2.2.1 n6.2.2.2.2.1 n6.2.2.2.2.2 aT.2.1) λd=>opt (VQ n2.1 d.1.1.1 d.1.1.2.1 d.1.1.2.2.1 d.1.1.2.2.2 aT.1.2.2.2.2.1.2.2.2.2.2 d.2) λd=>sm d (λd=>ae (d.1!=0) (ae y0 (ae y1 (ae y2 (ae y3 (ae y4 (ae y5 (ae y6 (ae y7 (ae y8 (opt (aZ (5,(aT.1,d.2,n2),n7)) λaj=>ret ((aT.1,d.2,n2),aj)) no) no) no) no) no) no) no) no) no) no) (λd=>let n4:=d.2.2.2;ae y0 (ae y1 (ae y2 (ae y3 (ae y4 (ae y5 (ae y6 (ae y7 (ae y8 (opt (bf ((5,2,true),(aT.1,d.1,n2),(az3 (λk=>cr (d.2.1 k) [n4.2.2.1 k,d.2.1 k]) (cr d.2.2.1 [n4.2.2.2,d.2.2.1],cr n4.1 [n4.1,n4.1],cr n4.2.1 [n4.2.1,n4.2.1])),n7)) λd=>let n5:=d.2.1.1.2.2.2.2;let n9:=n5.2.2.2.2.2.2.2.2.2.2.2.2;ae (ww d.1 d.1) (ae (ww n5.1 n5.1) (ae (ww n9 n9) (ae y2 (ae y3 (ae y4 (ae y5 (ae y6 (ae y7 (ae y8 (opt (ee ((d.1,true),d.2.1.1,d.2.2,n7.1,n7.2.1,n7.2.2.1,ba.1,n1.1,n1.2.1,n1.2.2.1,n3.1,n3.2.1,d.2.1.2,n3.2.2.2)) λaj=>ret (aj,d.2.1.2)) no) no) no) no) no) no) no) no) no) no) no) no) no) no) no) no) no) no) no)
def rj:=λx=>(Km Cf Cg dn dW jw x).val
theorem aur:∀uM VQ aZ bf ee,D0 [ail uM,axh VQ,nT aZ,qY bf,FZ ee] 175 ri (lf HV) λb=>Km uM VQ aZ bf ee b:=λ_ _ _ _ _ b=>by kernel_rfl
theorem aus [ax]:SC (Zh rj):=s0 (.c axd (.c aLR (.c sN (.c wq (.c Sb (.nil _)))))) (aur Cf Cg dn dW jw)
def nV:=qa (pu (cu eN nil) (cd pP λb0=>(c kZ (c ml (c (cl (gs b0.c.1 mj) nil) (cd qj λb4=>(cd oB λb5=>(cd oC λb6=>(cd oD λb7=>(cd oE λb8=>(cd oF λb9=>(c lN (cd rX λtQ=>(c (cl (gs b0.e kd) nil) (c (cl (gs b4.b.1 aA) nil) (c (cl (gs b5.b.1 aA) nil) (c (cl (gs b6.b.1 aA) nil) (c (cl (gs b7.b.1 aA) nil) (c (cl (gs b8.b.1 aA) nil) (c (cl (gs b9.b.1 aA) nil) (cl (cl (gs tQ.b hI) nil) nil)))))))))))))))))))))
def Ed:=qe (res (pl (aa (c gi (c gi (c gb (c gb (c gi (c gi (c gi (c gb (c gb aQD)))))))))) (pu alo nil)))
abbrev F2:=Ed.B
abbrev sO:=nV.B->Option F2
def yI (g:sO):Ct:=(16,FC nV (lf Ed) g)
def yJ (rP:IJ)(wJ:N3)(x:nV.B):Pg F2:=let n3:=x.1.2.2.2.2.2;let n2:=n3.2.2.2.2.2.2.2.2;let n4:=n2.2.2.1;let n1:=x.2.2.2.2.2.2.2.2.2.2.1;let n5:=n1.1.2.2;opt (rP n2.1 n1.1.1 n1.1.2.1 n5.1 n5.2.1 n5.2.2.1 n5.2.2.2 n1.2) λd=>opt (wJ n1.1.1 n1.1.2.1 n5.1 n5.2.1 n5.2.2.1 n5.2.2.2 n1.2) λaj=>ret (n3.1.1,n3.1.2.1,n3.1.2.2.1,n3.1.2.2.2,n2.1,d,n2.2.1,aj,x.1.2.1,n4.1.1,n4.1.2.1,n4.1.2.2.1,n4.1.2.2.2,n4.2.1.1,n4.2.1.2.1,n4.2.1.2.2,n4.2.2)
def fR:=λx=>(yJ mZ p8 x).val
theorem aoM:∀rP wJ,D0 [IK rP,N4 wJ] 16 nV (lf Ed) λb=>yJ rP wJ b:=λ_ _ b=>by kernel_rfl
theorem F3 [ax]:SC (yI fR):=s0 (.c adJ (.c akW (.nil _))) (aoM mZ p8)
def EH:=qa (pu (cu eN nil) (cd pP λb0=>(c kZ (c ml (c (cl (gs b0.c.1 mj) nil) (cd qj λb4=>(cd oB λb5=>(cd oC λb6=>(cd oD λb7=>(cd oE λb8=>(cd oF λb9=>(c lN (cd rX λtQ=>(c (cl (gs b0.e kd) nil) (c (cl (gs b4.b.1 aA) nil) (c (cl (gs b5.b.1 aA) nil) (c (cl (gs b6.b.1 aA) nil) (c (cl (gs b7.b.1 aA) nil) (c (cl (gs b8.b.1 aA) nil) (c (cl (gs b9.b.1 aA) nil) (cl (cl (gs tQ.b hI) nil) nil)))))))))))))))))))))
def Kn:=qe (res (pl aXc (pu alo nil)))
abbrev abt:=Kn.B
abbrev axv:=EH.B->Option abt
def abu (g:axv):Ct:=(40,FC EH (lf Kn) g)
def abv (tw:K3)(x:EH.B):Pg abt:=let n2:=x.2.2.2.2.2.2.2.2.2.2.2;let n1:=n2.2.2.2.2.2.2.2.2;let n3:=n1.2.2.2.2.2;ae (ww n2.1.2.2 n2.1.2.2) (opt (tw n2.1.1 n2.1.2.1 n2.1.2.2 n1.1 n1.2.1 n1.2.2.1 n1.2.2.2.1 n1.2.2.2.2.1 n3.1 n3.2.1 n3.2.2.1 n3.2.2.2.1 n3.2.2.2.2.1 n3.2.2.2.2.2) λd=>ret d) no
def abw:=λx=>(abv AM x).val
theorem axw:∀tw,D0 [K4 tw] 40 EH (lf Kn) λb=>abv tw b:=λ_ b=>by kernel_rfl
theorem axx [ax]:SC (abu abw):=s0 (.c afh (.nil _)) (axw AM)
def sP:=qa (pr (cu eN gW) (cd pP λb0=>(c kZ (c ml (c (cl (gs b0.c.1 mj) nil) (cd qj λb4=>(cd oB λb5=>(cd oC λb6=>(cd oD λb7=>(cd oE λb8=>(cd oF λb9=>(c lN (cd rX λtQ=>(c (cl (gs b0.e kd) nil) (c (cl (gs b4.b.1 aA) nil) (c (cl (gs b5.b.1 aA) nil) (c (cl (gs b6.b.1 aA) nil) (c (cl (gs b7.b.1 aA) nil) (c (cl (gs b8.b.1 aA) nil) (c (cl (gs b9.b.1 aA) nil) (cl (cl (gs tQ.b hI) nil) nil)))))))))))))))))))))
def Ee:=qe (res (pl (aa aWu) (pu alo nil)))
abbrev Sc:=Ee.B
abbrev aoN:=sP.B->Option Sc
def Sd (g:aoN):Ct:=(17,FC sP (lf Ee) g)
def F4 (rQ:IN)(x:sP.B):Pg Sc:=let n1:=x.2.2.2.2.2.2.2.2.2.2.2.1;let n2:=n1.1.2.2;opt (rQ x.1 n1.1.1 n1.1.2.1 n2.1 n2.2.1 n2.2.2.1 n2.2.2.2 n1.2) λd=>ret d
def yK:=λx=>(F4 m5 x).val
theorem aoO:∀rQ,D0 [IP rQ] 17 sP (lf Ee) λb=>F4 rQ b:=λ_ b=>by kernel_rfl
theorem aoP [ax]:SC (Sd yK):=s0 (.c adL (.nil _)) (aoO m5)
def jZ:=qa (pr (cu eN DR) (cd pP λb0=>(c kZ (c ml (c (cl (gs b0.c.1 mj) nil) (cd qj λb4=>(cd oB λb5=>(cd oC λb6=>(cd oD λb7=>(cd oE λb8=>(cd oF λb9=>(c lN (cd rX λtQ=>(c (cl (gs b0.e kd) nil) (c (cl (gs b4.b.1 aA) nil) (c (cl (gs b5.b.1 aA) nil) (c (cl (gs b6.b.1 aA) nil) (c (cl (gs b7.b.1 aA) nil) (c (cl (gs b8.b.1 aA) nil) (c (cl (gs b9.b.1 aA) nil) (cl (cl (gs tQ.b hI) nil) nil)))))))))))))))))))))
def VR:=qe (res (pu V4 (pr (c (Bu (a 26 oI (c gb (c gR (a 2 oR (cu aiZ (cu ai0 (c aJ4 (au 6 agi (cu aqv (a 4 rW (cu aqw (c gb (c gi (a 3 iw (c gb (c gb (cu axW aQX)))))))))))))))))) aQ4) aKv)))
def EI:=qe as9
abbrev rR:=(((Hn×Bool×NI×(NI×NI)×Nat×rV×Bool×Int×ma×Bool×Bool×Int×Int×ET×Nat)×aMK×Int)×NI×NI×NI×NI×NI×NI×NI×NI×NI×NI)⊕EI.B
def IU:rR->T:=ls (λd=>lf VR (((d.1.1.1,d.1.1.2.1,d.1.1.b.1,d.1.1.b.2.1,d.1.1.c.1,d.1.1.c.2.1,d.1.1.c.b.1,d.1.1.c.b.2.1,d.1.1.d.1,d.1.1.d.2.1,d.1.1.d.b.1,d.1.1.d.b.2.1,d.1.1.d.b.2),d.1.2),d.1.1.d.c.b,d.2)) (lf EI)
abbrev IV:=jZ.B->Option rR
def IW (g:IV):Ct:=(168,FC jZ IU g)
def zI (uL:ah7)(CD:Ze)(dh:zX)(GX:ae5)(CE:Yq)(F5:anX)(bf:qX)(ee:FY)(gk:FL)(x:jZ.B):Pg rR:=let n25:=x.1.2.2.2;let n22:=x.2.1.1;let n58:=n22.2.2.2.2;let n9:=x.2.1.2.2;let bI:=n9.2.2.2.2.2.2.2.2.2;let n7:=x.2.2;let n47:=n7.2.1;let n16:=n7.2.2;let n32:=n16.2.1;let n4:=n16.2.2;let n33:=n4.2.1;let n23:=n4.2.2.1;let n6:=n4.2.2.2;let n34:=n6.2.1;let n17:=n6.2.2.2;let y0:=n9.2.2.2.1.2.1==2;let y1:=ww n9.2.2.1 n9.2.2.1;let y2:=ww bI.2.2.2.2.2 bI.2.2.2.2.2;let y3:=ww n32.2.2.1 n32.2.2.1;let y4:=ww n4.1.2.2.1 n4.1.2.2.1;let y5:=ww n33.2.2.1 n33.2.2.1;let y6:=ww n23.2.2.1 n23.2.2.1;let y7:=ww n6.1.2.2.1 n6.1.2.2.1;let y8:=ww n34.2.2.1 n34.2.2.1;let y9:=ww n17.1.2.2 n17.1.2.2;opt (uL x.1.1 x.1.2.1 x.1.2.2.1 n25.1 n25.2.1 n25.2.2.1 n25.2.2.2.1 n25.2.2.2.2.1 n25.2.2.2.2.2 x.2.1.2.1) λd=>let n57:=d.1.1;let bo:=n57.2.2;let n38:=bo.2.2;let n1:=((n57.1,n57.2.1,bo.1),(bo.2.1,n38.1,n38.2.1),n38.2.2);let n3:=(CD (n1,(n22,d.2,n9),n7));let n2:=(n9.1,n1,n58.1.1);ae (!bI.1) (ae y1 (ae y2 (ae y3 (ae y4 (ae y5 (ae y6 (ae y7 (ae y8 (ae y9 (opt n3 λd=>let aT:=d.1.2.2.2.2;let n26:=aT.2.2.2.2;let n48:=n26.2.2.2.2.2;ae (ww aT.1 aT.1) (ae (ww n48.2.2.2 n48.2.2.2) (ae y3 (ae y4 (ae y5 (ae y6 (ae y7 (ae y8 (ae y9 (opt (dh (0,d.1,n7.1,n47,n16.1,n32,n4.1,n33,n23,n6.1,n34,n6.2.2.1,n17.1,d.2,n17.2.2)) λaj=>ret (ws (((d.1.1,d.1.2.1,d.1.2.2.1,d.1.2.2.2.1,aT.1,aT.2.1,aT.2.2.1,aT.2.2.2.1,n26.1,n26.2.1,n26.2.2.1,n48),aj),d.2))) no) no) no) no) no) no) no) no) no) no) no) no) no) no) no) no) no) no) (ae (decide (wI (bI.2.2.1-bI.2.1)>n58.2.2.2.2.1)) (ae y1 (ae y2 (ae y3 (ae y4 (ae y5 (ae y6 (ae y7 (ae y8 (ae y9 (opt n3 λd=>let ba:=d.1.2.2.2.2;let n27:=ba.2.2.2.2;let n49:=n27.2.2.2.2.2;ae (ww ba.1 ba.1) (ae (ww n49.2.2.2 n49.2.2.2) (ae y3 (ae y4 (ae y5 (ae y6 (ae y7 (ae y8 (ae y9 (opt (dh (0,d.1,n7.1,n47,n16.1,n32,n4.1,n33,n23,n6.1,n34,n6.2.2.1,n17.1,d.2,n17.2.2)) λaj=>ret (ws (((d.1.1,d.1.2.1,d.1.2.2.1,d.1.2.2.2.1,ba.1,ba.2.1,ba.2.2.1,ba.2.2.2.1,n27.1,n27.2.1,n27.2.2.1,n49),aj),d.2))) no) no) no) no) no) no) no) no) no) no) no) no) no) no) no) no) no) no) (opt (GX n9.1 n57.1 n57.2.1 bo.1 bo.2.1 n38.1 n38.2.1 n38.2.2.1 n38.2.2.2 n58.1.1 d.2) λaj=>let n35:=aj.2.1;let n24:=aj.2.2.1;let n8:=aj.2.2.2;let n55:=n8.2.2.1;let n36:=n8.2.1;let n5:=n8.2.2.2;let n56:=n5.2.2.1;let bj:=n5.2.2.2;let n37:=bj.2.2;opt (CE (n2,aj.1,n7.1)) λaE=>sm aE (λbE=>ae y0 (opt (F5 (n2,bE.2,n7.1)) λd=>ae y1 (ae y2 (ae y3 (ae y4 (ae y5 (ae y6 (ae y7 (ae y8 (ae y9 (opt (bf ((0,4,true),(n22,d.2,n9),(az3 (λk=>cr (n35 k) [d.1.1.1 k,bj.1 k,n55 k,n35 k]) (cr n24 [d.1.1.2.1,bj.2.1,n5.1,n24],cr n8.1 [d.1.1.2.2.1,n37.1,n5.2.1,n8.1],cr n36 [d.1.1.2.2.2,n37.2,n56,n36])),n7)) λd=>let n39:=d.2.2;let n18:=d.2.1;let n50:=n18.1.2.2.2.2;let Ko:=n18.2.1.2;let n28:=n50.2.2.2.2.2.2.2.2.2.2.2.2;let y0:=wI (wn d.1-1);let y1:=wt y0;ae (ww d.1 d.1) (ae (ww n50.1 n50.1) (ae (ww n28 n28) (ae y3 (ae y4 (ae y5 (ae y6 (ae y7 (ae y8 (ae y9 (opt (ee ((d.1,true),n18.1,n39,n7.1,n47,n16.1,n32,n4.1,n33,n23,n6.1,n34,n18.2,n17)) λcC=>ae (cC.2.2.2.2.2.1.2.1==2) (ae (aX 2 d.1) (ae (aX y0 d.1) (opt (gk (n39.1 2) (n39.2.1 2) (n39.2.2 2) (n39.1 y1) (n39.2.1 y1) (n39.2.2 y1) n18.2.1.1 Ko.1 Ko.2.1 Ko.2.2.1 Ko.2.2.2.1 Ko.2.2.2.2 n18.2.2) λd=>ret (wr (cC,d))) no) no) (ret (wr (cC,n18.2)))) no) no) no) no) no) no) no) no) no) no) no) no) no) no) no) no) no) no) no) (ae y1 (ae y2 (ae y3 (ae y4 (ae y5 (ae y6 (ae y7 (ae y8 (ae y9 (opt (bf ((0,3,true),(n22,bE.2,n9),(az3 (λk=>cr (n35 k) [bj.1 k,n55 k,n35 k]) (cr n24 [bj.2.1,n5.1,n24],cr n8.1 [n37.1,n5.2.1,n8.1],cr n36 [n37.2,n56,n36])),n7)) λd=>let Ef:=d.2.2;let n19:=d.2.1;let n51:=n19.1.2.2.2.2;let F6:=n19.2.1.2;let n29:=n51.2.2.2.2.2.2.2.2.2.2.2.2;let y0:=wI (wn d.1-1);let y1:=wt y0;ae (ww d.1 d.1) (ae (ww n51.1 n51.1) (ae (ww n29 n29) (ae y3 (ae y4 (ae y5 (ae y6 (ae y7 (ae y8 (ae y9 (opt (ee ((d.1,true),n19.1,Ef,n7.1,n47,n16.1,n32,n4.1,n33,n23,n6.1,n34,n19.2,n17)) λcC=>ae (cC.2.2.2.2.2.1.2.1==2) (ae (aX 2 d.1) (ae (aX y0 d.1) (opt (gk (Ef.1 2) (Ef.2.1 2) (Ef.2.2 2) (Ef.1 y1) (Ef.2.1 y1) (Ef.2.2 y1) n19.2.1.1 F6.1 F6.2.1 F6.2.2.1 F6.2.2.2.1 F6.2.2.2.2 n19.2.2) λd=>ret (wr (cC,d))) no) no) (ret (wr (cC,n19.2)))) no) no) no) no) no) no) no) no) no) no) no) no) no) no) no) no) no) no) no)) (λbE=>let n59:=bE.2.2;let n15:=n59.2.2;let n52:=n15.2.2;ae y0 (opt (F5 (n2,bE.1,n7.1)) λd=>ae y1 (ae y2 (ae y3 (ae y4 (ae y5 (ae y6 (ae y7 (ae y8 (ae y9 (opt (bf ((0,6,true),(n22,d.2,n9),(az3 (λk=>cr (n35 k) [d.1.1.1 k,n15.2.1 k,bE.2.1 k,bj.1 k,n55 k,n35 k]) (cr n24 [d.1.1.2.1,n52.1,n59.1,bj.2.1,n5.1,n24],cr n8.1 [d.1.1.2.2.1,n52.2.1,n59.2.1,n37.1,n5.2.1,n8.1],cr n36 [d.1.1.2.2.2,n52.2.2,n15.1,n37.2,n56,n36])),n7)) λd=>let PN:=d.2.2;let n20:=d.2.1;let n53:=n20.1.2.2.2.2;let Zi:=n20.2.1.2;let n30:=n53.2.2.2.2.2.2.2.2.2.2.2.2;let y0:=wI (wn d.1-1);let y1:=wt y0;ae (ww d.1 d.1) (ae (ww n53.1 n53.1) (ae (ww n30 n30) (ae y3 (ae y4 (ae y5 (ae y6 (ae y7 (ae y8 (ae y9 (opt (ee ((d.1,true),n20.1,PN,n7.1,n47,n16.1,n32,n4.1,n33,n23,n6.1,n34,n20.2,n17)) λcC=>ae (cC.2.2.2.2.2.1.2.1==2) (ae (aX 2 d.1) (ae (aX y0 d.1) (opt (gk (PN.1 2) (PN.2.1 2) (PN.2.2 2) (PN.1 y1) (PN.2.1 y1) (PN.2.2 y1) n20.2.1.1 Zi.1 Zi.2.1 Zi.2.2.1 Zi.2.2.2.1 Zi.2.2.2.2 n20.2.2) λd=>ret (wr (cC,d))) no) no) (ret (wr (cC,n20.2)))) no) no) no) no) no) no) no) no) no) no) no) no) no) no) no) no) no) no) no) (ae y1 (ae y2 (ae y3 (ae y4 (ae y5 (ae y6 (ae y7 (ae y8 (ae y9 (opt (bf ((0,5,true),(n22,bE.1,n9),(az3 (λk=>cr (n35 k) [n15.2.1 k,bE.2.1 k,bj.1 k,n55 k,n35 k]) (cr n24 [n52.1,n59.1,bj.2.1,n5.1,n24],cr n8.1 [n52.2.1,n59.2.1,n37.1,n5.2.1,n8.1],cr n36 [n52.2.2,n15.1,n37.2,n56,n36])),n7)) λd=>let n45:=d.2.2;let n21:=d.2.1;let n54:=n21.1.2.2.2.2;let n46:=n21.2.1.2;let n31:=n54.2.2.2.2.2.2.2.2.2.2.2.2;let y0:=wI (wn d.1-1);let y1:=wt y0;ae (ww d.1 d.1) (ae (ww n54.1 n54.1) (ae (ww n31 n31) (ae y3 (ae y4 (ae y5 (ae y6 (ae y7 (ae y8 (ae y9 (opt (ee ((d.1,true),n21.1,n45,n7.1,n47,n16.1,n32,n4.1,n33,n23,n6.1,n34,n21.2,n17)) λcC=>ae (cC.2.2.2.2.2.1.2.1==2) (ae (aX 2 d.1) (ae (aX y0 d.1) (opt (gk (n45.1 2) (n45.2.1 2) (n45.2.2 2) (n45.1 y1) (n45.2.1 y1) (n45.2.2 y1) n21.2.1.1 n46.1 n46.2.1 n46.2.2.1 n46.2.2.2.1 n46.2.2.2.2 n21.2.2) λd=>ret (wr (cC,d))) no) no) (ret (wr (cC,n21.2)))) no) no) no) no) no) no) no) no) no) no) no) no) no) no) no) no) no) no) no))))
def j6:=λx=>(zI Cc rf gP AH vX Fz dW jw jd x).val
theorem adS:∀uL CD dh GX CE F5 bf ee gk,D0 [ah8 uL,Zf CD,zY dh,ae6 GX,Yr CE,anY F5,qY bf,FZ ee,FM gk] 168 jZ IU λb=>zI uL CD dh GX CE F5 bf ee gk b:=λ_ _ _ _ _ _ _ _ _ b=>by kernel_rfl
theorem adT [ax]:SC (IW j6):=s0 (.c awX (.c auq (.c HU (.c azq (.c at4 (.c aGu (.c wq (.c Sb (.c YK (.nil _)))))))))) (adS Cc rf gP AH vX Fz dW jw jd)
end Go.Proofs.YtldgljclcgaibaaGreat
namespace Go.Proofs.YtldgljclcgaibaaGreat
open Go.Ab Go.Ab.Pg
theorem adU (x:Int):o9 x=some (decide (0<=x)&&decide (x<6)):=by
 simp only[o9,VE,bN,cg];by_cases h0:0<=x<;>simp[h0]
theorem aOL {x:Int}(h:(decide (0<=x)&&decide (x<6))=true)(k:Nat)(hk:k<=6):aX x 6=true/\wl (0+wt x*6+k) 36=true/\wl (0+wt x*6+k) 37=true:=by
 simp only[cj,ke] at h;simp only[bk,bW];omega
instance aIc (x0:Int)(x1:Int)(x2:Nat->Int)(x3:Nat->Int)(x4:Nat->Bool)(x5:Nat->Int)(x6:Nat->Int)(x7:Nat->Int)(x8:Int):bp (mY x0 x1 x2 x3 x4 x5 x6 x7 x8):=by
 unfold mY zu;refine aG ?_;rw[adU,bX,aK];refine⟨λh=> ?_,λ_=>by rw[av];trivial⟩;obtain⟨h1,h2,h3⟩:=aOL h 6 (by omega);simp only[bO,h1,h2,Oo,Lo,DU]
theorem zJ (x0:Int)(x1:Int)(x2:Nat)(x3:Nat->Int)(x4:Nat->Int)(x5:Nat->Bool)(x6:Nat->Int)(x7:Nat->Int)(x8:Nat->Int)(x9:Int)(gx:Nat->Bool)(gy:Nat->Int)(Aq:Nat->Int)(w0:Bool)(h:x2<=1999):bp (fP x0 x1 x2 x3 x4 x5 x6 x7 x8 x9 gx gy Aq w0):=by
 have tc:=λa b c e=>ar7 x2 a b c e h
 unfold fP rJ;try dsimp only
 refine aG ?_;rw[adU,bX,aK];refine⟨λ_=>by rw[av];trivial,λh=> ?_⟩;rw[ayh] at h;obtain⟨h1,h2,h3⟩:=aOL h 3 (by omega);simp only[bO,h1,h2,h3,Bool.and_self,aM,Oo,Lo,DU]
theorem VS:∀(d:eE.B) (hd:0<=d.1.2.2/\d.1.2.2<=6),Ok (wb d) (λx:lA=>True):=
 bq (λd:eE.B=>wt (6-d.1.2.2)) (λd hd=>by
  have hw:wI (d.1.2.2+1)=d.1.2.2+1:=aY;unfold v8;simp only[bO];simp only[nf,oJ,tW,hw];repeat' (first|exact True.intro|omega|(intro _)|(apply And.intro))) (λd hd=>by omega)
instance aId (x0:Int)(x1:Nat->Int)(x2:Nat->Int)(x3:Nat->Bool)(x4:Nat->Int)(x5:Nat->Int)(x6:Nat->Int)(x7:Int):bp (mZ x0 x1 x2 x3 x4 x5 x6 x7):=by
 unfold mZ zw;refine aG ?_;refine ay (VS _ (by simp)) λd _ hd=> ?_;simp only[bO]
instance a5B (x:Int)(fA:Bool):bp (BE x fA):=by
 have h1:=pS x;obtain⟨a,b,q,e,ho,hq,hv,_⟩:=anH (sat x) 30 (by omega) (by omega) (by omega);unfold BE ahb;refine aG ?_;rw[p6,bX,aK];refine⟨λ_=>by rw[av];trivial,λc=> ?_⟩;have c:=qk c;have e30:(2:Int)^30=1073741824:=rfl;have q1:q=true:=by rw[hq,e30];omega
 have v:=hv q1;rw[e30] at v;have e':uY (sat x) 30=some ((a,b),q):=e
 have h0:0<=a:=by
  obtain⟨o1,o2,o3,o4⟩:=ho;simp only[vW] at v;omega
 obtain⟨r,hr,_,_⟩:=atV a b ho h0;rw[e',bX,awE a b r _ ho h0 hr,bX,av];trivial
instance a3q (x0:Nat->Int)(x3:Bool)(x4:Nat->Int)(w0:Bool):bp (jO x0 4 3 x3 x4 w0):=YL _ _ _ _ _ _ (by omega) (by omega)
instance a3r (x0:Nat->Int)(x3:Bool)(x4:Nat->Int)(w0:Bool):bp (jO x0 7 2 x3 x4 w0):=YL _ _ _ _ _ _ (by omega) (by omega)
instance a3s (x0:Nat->Int)(x3:Bool)(x4:Nat->Int)(w0:Bool):bp (jO x0 9 1 x3 x4 w0):=YL _ _ _ _ _ _ (by omega) (by omega)
instance a0z (x0:Nat->Int)(x1:Int)(x2:Bool):bp (kq x0 x1 x2):=by
 unfold kq aiq;exact aG (by simp only[bO,pX])
instance aZO (x0:Nat->Int)(x1:Int)(x2:Int)(x3:Int)(x4:Int)(x5:Int)(x6:Int)(x7:Int)(x8:Int)(x9:Int)(gx:Int)(gy:Int):bp (rM x0 x1 x2 x3 x4 x5 x6 x7 x8 x9 gx gy):=by
 unfold rM adN;exact aG (by simp only[bO,pX])
instance aZP (x:DN.B):bp (zE x):=by
 unfold zE QQ;try dsimp only
 exact aG (by simp only[bO,pX])
instance aHi (x:gT.B):bp (ep x):=by
 unfold ep pT;exact aG (by simp only[bO,pX])
instance aME (x:kh.B):bp (iK x):=by
 unfold iK wH;exact aG (by simp only[bO,pX])
instance aYY (x0:Int)(x1:Int)(x2:Int):bp (lB x0 x1 x2):=by
 unfold lB Na;exact aG (by simp only[bO,pX])
instance a0A (x0:Int)(x1:Int)(x2:Int):bp (yy x0 x1 x2):=by
 unfold yy ait;exact aG (by simp only[bO,pX])
instance aTw (x0:Nat->Int)(x1:Nat->Int)(x2:Nat->Int)(x3:Int)(x4:Int)(x5:Int)(x6:Int)(x7:Bool):bp (yA x0 x1 x2 x3 x4 x5 x6 x7):=by
 unfold yA Nc;try dsimp only
 exact aG (by simp only[bO,pX])
instance aPD (x0:Nat->Int)(x1:Nat->Int)(x2:Nat->Int)(x3:Int)(x4:Int)(x5:Int)(x6:Bool):bp (ub x0 x1 x2 x3 x4 x5 x6):=by
 unfold ub HL;try dsimp only
 exact aG (by simp only[bO,pX])
instance aVF (x0:Nat->Int)(x1:Nat->Int)(x2:Nat->Int)(x3:Int)(x4:Int)(x5:Bool):bp (Dq x0 x1 x2 x3 x4 x5):=by
 unfold Dq Ug;exact aG (by simp only[bO,pX])
instance aDY (x:kr.B):bp (iF x):=by
 unfold iF uv;try dsimp only
 exact aG (by simp only[bO,pX])
instance aCb (x:js.B):bp (gv x):=by
 unfold gv sF;try dsimp only
 exact aG (by simp only[bO,pX])
instance aR8 (x0:Int):bp (qR x0):=by
 unfold qR J9;exact aG (by simp only[bO,pX])
instance aOM (x0:Int)(x1:Int):bp (ig x0 x1):=by
 unfold ig yC;exact aG (by simp only[bO,pX])
instance aPE:bp mo:=by
 unfold mo HR;exact aG (by simp only[bO,pX])
instance a3t (x0:Int):bp (AQ x0):=by
 unfold AQ apD;exact aG (by simp only[bO,pX])
theorem azD:∀(d:jY.B) (hd:0<=d.1/\d.1<=3),Ok (Jr d) (λx:xC=>True):=
 bq (λd:jY.B=>wt (3-d.1)) (λd hd=>by
  have hw:wI (d.1+1)=d.1+1:=aY;unfold Jq;simp only[bO];simp only[nf,oJ,tW,hw];repeat' (first|exact True.intro|omega|(intro _)|(apply And.intro))) (λd hd=>by omega)
theorem aGI:∀(d:lC.B) (hd:0<=d.1.2/\d.1.2<=24),Ok (IT d) (λx:DP=>True):=
 bq (λd:lC.B=>wt (24-d.1.2)) (λd hd=>by
  have hw:wI (d.1.2+1)=d.1.2+1:=aY;unfold QU;simp only[bO];simp only[nf,oJ,tW,hw];repeat' (first|exact True.intro|omega|(intro _)|(apply And.intro))) (λd hd=>by omega)
instance aIe (x0:Int)(x1:Nat->Int)(x2:Nat->Int)(x3:Nat->Bool)(x4:Nat->Int)(x5:Nat->Int)(x6:Nat->Int)(x7:Int):bp (m5 x0 x1 x2 x3 x4 x5 x6 x7):=by
 unfold m5 zC;refine aG ?_;rw[adU,bX,aK];refine⟨λ_=>by rw[av];trivial,λh=> ?_⟩;rw[ayh] at h;obtain⟨h1,h2,h3⟩:=aOL h 6 (by omega);simp only[bO,h1,h2,Oo,Lo,DU]
instance aZQ (x0:Int)(x1:Int)(x2:Int)(x3:Int)(x4:Int)(x5:Int)(x6:Int)(x7:Int):bp (zD x0 x1 x2 x3 x4 x5 x6 x7):=by
 unfold zD QO;refine aG ?_;refine ay (azD _ (by simp)) λd _ hd=> ?_;simp only[bO]
instance aON (x:nN.B):bp (jr x):=by
 unfold jr yx;try dsimp only
 exact aG (by simp only[bO,pX])
instance a1G (x:FP.B):bp (Bi x):=by
 have key:∀d,(0<=d.1.2/\d.1.2<=24)->∀(k1 k2),(∀a,PQ (k1 a) λ_=>True)->(∀a,PQ (k2 a) λ_=>True)->PQ (opt (IT d) λx=>sum x k1 k2) (δ:=aoC) (λ_=>True):=λd hd k1 k2 h1 h2=>by
  refine ay (aGI d hd) λx _ _=> ?_;rw[rC];exact⟨λa _=>h1 a,λa _=>h2 a⟩
 unfold Bi abp;try dsimp only
 refine aG ?_;repeat' (first|(rw[aK];refine⟨λ_=>by rw[av];trivial,λ_=> ?_⟩)|(rw[bD];intro _ _))
 refine key _ (by simp) _ _ (λ_=>by rw[av];trivial) (λ_=> ?_);simp only[bO]
theorem PO (n:Nat):∀(d:dF.B) (hd:0<=d.1.2.2/\d.1.2.2<=d.1.2.1/\d.1.2.1<=1999/\d.1.2.1=((d.1.1:Nat):Int)/\d.2.1.2.2=d.1.1/\d.1.1=n),Ok (sH d) (λx:jt=>x.1.1=n):=
 bq (λd:dF.B=>wt (d.1.2.1-d.1.2.2)) (λd hd=>by
  have hw:wI (d.1.2.2+1)=d.1.2.2+1:=aY;unfold sG;simp only[bO];simp only[nf,oJ,tW,hw];repeat' (first|exact True.intro|exact hd.c.1|exact hd.c.2|omega|(intro _)|(apply And.intro))) (λd hd=>by omega)
theorem PS (n:Nat):∀(d:dG.B) (hd:0<=d.1.2.2/\d.1.2.2<=d.1.2.1/\d.1.2.1<=1999/\d.1.2.1=((d.1.1:Nat):Int)/\d.2.1.2.2=d.1.1/\d.1.1=n),Ok (sJ d) (λx:ju=>x.1.1=n):=
 bq (λd:dG.B=>wt (d.1.2.1-d.1.2.2)) (λd hd=>by
  have hw:wI (d.1.2.2+1)=d.1.2.2+1:=aY;unfold sI;simp only[bO];simp only[nf,oJ,tW,hw];repeat' (first|exact True.intro|exact hd.c.1|exact hd.c.2|omega|(intro _)|(apply And.intro))) (λd hd=>by omega)
theorem Um (x:kt.B)(h:x.1.2.2<=1999):Ok (ku x) (λr:uw=>r.2.1=x.1.2.2):=by
 unfold ku uy;show PQ _ _;rw[aM,bJ];refine⟨rfl,ay (PO x.1.2.2 _ ?_) λd _ hd=> ?_⟩
 .dsimp only;simp only[cF];exact⟨by omega,by omega,by omega,trivial,trivial,trivial⟩
 .rw[av];exact hd
theorem Un (x:kv.B)(h:x.1.2.2<=1999):Ok (ky x) (λr:uC=>r.2.1=x.1.2.2):=by
 unfold ky uF;show PQ _ _;rw[aM,bJ];refine⟨rfl,ay (PS x.1.2.2 _ ?_) λd _ hd=> ?_⟩
 .dsimp only;simp only[cF];exact⟨by omega,by omega,by omega,trivial,trivial,trivial⟩
 .rw[av];exact hd
theorem No:∀(d:cI.B) (hd:0<=d.1.2.2.2.2/\d.1.2.2.2.2<=d.1.2.2.2.1/\d.1.2.2.2.1<=1999/\d.1.2.2.2.1=((d.1.2.2.1.1:Nat):Int)),Ok (kW d) (λx:fG=>True):=
 bq (λd:cI.B=>wt (d.1.2.2.2.1-d.1.2.2.2.2)) (λd hd=>by
  have hw:wI (d.1.2.2.2.2+1)=d.1.2.2.2.2+1:=aY;unfold kV;simp only[bO];simp only[nf,oJ,tW,hw];repeat' (first|exact True.intro|omega|(intro _)|(apply And.intro))) (λd hd=>by omega)
theorem Se (x0:Nat)(x1:Nat)(x2:Nat->Int)(x3:Nat->Int)(w0:Bool)(w1:Bool)(h:x0<=1999):bp (dP x0 x1 x2 x3 w0 w1):=by
 unfold dP mB;refine aG ?_;rw[aM,aM,bJ,bJ];refine⟨rfl,rfl,ay (No _ (hdN x0 h)) λd _ hd=> ?_⟩;simp only[bO]
instance a1H (x2 x3:Nat->Int)(w0 w1:Bool):bp (dP 8 8 x2 x3 w0 w1):=Se _ _ _ _ _ _ (by omega)
instance aVG (x:xD.B):bp (nk x):=by
 unfold nk Jt;try dsimp only
 exact aG (by simp only[bO,pX])
theorem pg (n:Nat):∀(d:aO.B) (hd:0<=d.1.2.2.1/\d.1.2.2.1<=d.1.2.2.2/\d.1.2.2.2<=(n:Int)/\d.1.1.1=n/\n<=1999/\d.1.2.1=(n:Int)),Ok (cO d) (λx:bB=>0<=x.1.2.2.1/\x.1.2.2.1<=(n:Int)/\x.1.1.1=n/\x.1.2.1=(n:Int)):=
 bq (λd:aO.B=>wt (d.1.2.2.2-d.1.2.2.1)) (λd hd=>by
  have h1:wI (d.1.2.2.1+d.1.2.2.2)=d.1.2.2.1+d.1.2.2.2:=dS;have h2:wU (d.1.2.2.1+d.1.2.2.2)=d.1.2.2.1+d.1.2.2.2:=by show IntKind.wrap .u64 _=_;rw[wrap_u64];omega
  have h3:Int.fdiv (d.1.2.2.1+d.1.2.2.2) 2=(d.1.2.2.1+d.1.2.2.2)/2:=Int.fdiv_eq_ediv_of_nonneg _ (by omega);have h4:wI ((d.1.2.2.1+d.1.2.2.2)/2)=(d.1.2.2.1+d.1.2.2.2)/2:=dS;have h5:wI ((d.1.2.2.1+d.1.2.2.2)/2+1)=(d.1.2.2.1+d.1.2.2.2)/2+1:=dS;unfold cN;simp only[h1,h2,h3,h4,h5];simp only[bO];simp only[nf,oJ,tW];repeat' (first|exact True.intro|omega|(intro _)|(apply And.intro))) (λd hd=>by omega)
theorem aR9 (x:bG.B)(h:x.1.1.1<=1999):Ok (bm x) (λr:cX=>0<=r.1/\r.1<=(x.1.1.1:Int)):=by
 unfold bm cY;try dsimp only
 show PQ _ _;rw[aM,bJ];refine⟨rfl,ay (pg x.1.1.1 _ ?_) λd _ hd=> ?_⟩
 .try dsimp only
  simp only[cF];exact⟨by omega,by omega,by omega,trivial,h,trivial⟩
 .obtain⟨a1,a2,a3,a4⟩:=hd;simp only[bO,a3,a4];simp only[nf,oJ,tW];exact⟨λc=>⟨λ_ _ _=>⟨a1,a2⟩,⟨a1,c⟩⟩,λ_=>⟨a1,a2⟩⟩
theorem aOO (n:Nat)(i:Int)(h0:0<=i)(h1:i<=(n:Int))(hn:n<=1999)(x2 x3 x4 x5 x6 x7 x8 x9 gx gy Aq x13 x14 x15 x16 x17 x18 x19:Nat->Int)(w1:Bool):
  Ok (cR n i x2 x3 x4 x5 x6 x7 x8 x9 gx gy Aq x13 x14 x15 x16 x17 x18 x19 1 true w1) (λr:eP=>r.1=n+1):=by
 have b1:wl (wt i) n=true:=by rw[bW];omega
 have b2:wl ((n+1)*72) 140737488355328=true:=by rw[bW];omega
 unfold cR;rw[b1,b2,dA h0];exact⟨_,rfl,rfl⟩
theorem aCc (n:Nat)(i j:Int)(h0:0<=i)(h1:i<=j)(h2:j<=(n:Int))(x3 x4 x5 x6 x7 x8 x9 gx gy:Nat->Int):
  Ok (bS n i j x3 x4 x5 x6 x7 x8 x9 gx gy true) (λr:eQ=>r.1=wt i+(n-wt j)):=by
 have b1:wl (wt i) (wt j)=true:=by rw[bW];omega
 have b2:wl (wt j) n=true:=by rw[bW];omega
 unfold bS;rw[b1,b2,dA h0,dA (show 0<=j by omega)];exact⟨_,rfl,rfl⟩
theorem aSa (n:Nat)(hn:n<=1999)(x1 x2 x3 x4 x5 x6 x7 x8 x9:Nat->Int)(w:Bool):
  Ok (fg n x1 x2 x3 x4 x5 x6 x7 x8 x9 w) (λr:iD=>r.1=n):=by
 have b1:wl (n*72) 140737488355328=true:=by rw[bW];omega
 unfold fg;rw[b1];exact⟨_,rfl,rfl⟩
theorem aOP (s:Nat)(hs:s<=120)(n:Nat)(hn:n<=100)(fA:Bool)(f:Nat->Int)(w w':Bool):
  vG (wn s) n n fA f w w'=some (sat (MO (zT (λj=>sat (f j)*sat (f j)) n) s),(fA||Fw (λj=>fH (f j)||fH (f j)) n)||fH (MO (zT (λj=>sat (f j)*sat (f j)) n) s)):=by
 simp only[vG,PF,Pg.cg,Pg.bN,Pg.cq,Pg.fe,Pg.eu];try delta wI wU
 unfold J7;have n0:decide (wn s<0)=false:=by simp
 have n1:decide (wn s>120)=false:=by simp only[cF];exact cG (by omega)
 have m:(if 100<if wn n<wn n then wn n else wn n then 100 else if wn n<wn n then wn n else wn n)=wn n:=by
  have e:¬wn n<wn n:=by omega
  rw[if_neg e,if_neg (by simp only[cF];omega)]
 rw[n0,n1,bA,bA,SO,bn,m]
 refine OB (λt d=>∃(i:Nat) (h l':Int),i+t=n/\okW h l'/\vW h l'=zT (λj=>sat (f j)*sat (f j)) i/\d=((wn s,(n,w),(n,w'),wn n,wn i),(fA||Fw (λj=>fH (f j)||fH (f j)) i),f,h,l')) ?_ 2000 n _ (by omega)
  ⟨0,0,0,by omega,⟨by omega,by omega,by omega,by omega⟩,rfl,by simp only[Fw,SM];rfl⟩
 rintro t _ c ⟨i,h,l',hi,ho,hv,rfl⟩ hc
 have bnd:=anF (λj=>sat (f j)*sat (f j)) 1329227995784915872903807060280344576 (by omega) i (λj _=>aeS _ _);rcases abY t with t0|t0
 .have e:i=n:=by omega
  subst e;simp only[Cm,Pg.vN,Pg.vO,Pg.An,Pg.Gu,Pg.vP,qo,lP,wI,awB (cW i),bA,ahY h l' s _ hs ho,hv,bM]
 .have hs1:=pS (f i);have Wo:=pS (f i);have hm:=aeS (f i) (f i);obtain⟨h1,l1,e1,o1,v1⟩:=DJ (sat (f i)) (sat (f i)) (by omega) (by omega) (by omega) (by omega)
  obtain⟨h2,l2,e2,o2,v2⟩:=ahZ (λj:Nat=>bif ww j 1 then h1 else bif ww j 0 then h else h) (λj:Nat=>bif ww j 1 then l1 else bif ww j 0 then l' else l') true
   ho o1 (by show _<=vW h l'+vW h1 l1;rw[hv,v1];omega) (by show vW h l'+vW h1 l1<_;rw[hv,v1];omega)
  have v2:vW h2 l2=vW h l'+vW h1 l1:=v2;rw[hv,v1] at v2;have q:wt (wn i)=i:=rfl;simp only[Cm,Pg.vN,Pg.vO,Pg.An,Pg.Gu,Pg.vP,qo,lP,wI,awA hi t0,awC (show i<n by omega),bn,q,p6,bM,e1,e2,awD (show i<9000000000000000000 by omega)];refine hc (t-1) _ (by omega) ⟨i+1,h2,l2,by omega,o2,v2,?_⟩;simp only[Fw,Bool.or_assoc]
instance a3u (fA:Bool)(f:Nat->Int)(w w':Bool):bp (vG 30 2 2 fA f w w'):=⟨_,aOP 30 (by omega) 2 (by omega) fA f w w'⟩
instance aSb (x0:Nat->Int)(x1:Int)(x2:Int)(x3:Int)(x4:Bool):bp (wg x0 x1 x2 x3 x4):=by
 unfold wg J8;exact aG (by simp only[bO,pX])
instance aVH (x0:Int)(x1:Int)(x2:Int)(x3:Int)(x4:Int)(x5:Int)(x6:Int)(x7:Int)(x8:Int)(x9:Int):bp (xE x0 x1 x2 x3 x4 x5 x6 x7 x8 x9):=by
 unfold xE Ul;exact aG (by simp only[bO,pX])
theorem aLZ (x:qU.B)(h:x.1.2.1<=1999):bp (iB x):=by
 have tr:=λa b c d e g i j k l m w=>zJ a b x.1.2.1 c d e g i j k l m w
 unfold iB Kd;try dsimp only
 refine aG ?_;rw[aM,bJ];refine⟨rfl,?_⟩;have:=zJ;refine ay (bp.Ok (zJ _ _ _ _ _ _ _ _ _ _ _ _ _ _ h) (Q:=λ_=>True) λ_ _=>trivial) λd _ _=> ?_;rw[av];trivial
instance a4h (x:pA.B):bp (gP x):=by
 unfold gP HT;try dsimp only
 refine aG ?_;iterate 9 (rw[aM,bJ];refine⟨rfl,?_⟩)
 refine ay (bp.Ok (aLZ ((x.1,1,true),_) (by show 1<=1999;omega)) (Q:=λ_=>True) λ_ _=>trivial) λd _ _=> ?_;rw[av];trivial
instance a3v (x:nR.B):bp (dn x):=by
 unfold dn FW;try dsimp only
 refine aG ?_;iterate 9 (rw[aM,bJ];refine⟨rfl,?_⟩)
 refine ay (bp.Ok (aLZ ((x.1,1,true),_) (by show 1<=1999;omega)) (Q:=λ_=>True) λ_ _=>trivial) λd _ _=> ?_;rw[av];trivial
theorem Sf (x:qV.B)(h:x.2.1.2.2.2.2.2.2.2.2.2.2.2.2.2.2.2.2<=100000):Ok (lF x) (λr:Cu=>r.1.2.2.2.2.2.2.2.2.2.2.2.2.2.2.2.2=x.2.1.2.2.2.2.2.2.2.2.2.2.2.2.2.2.2.2+1/\r.1.2.2.2.2.1=x.2.1.2.2.2.2.1/\r.1.2.2.2.2.2.2.2.2.2.2.2.2.2.1=x.2.1.2.2.2.2.2.2.2.2.2.2.2.2.2.1):=by
 unfold lF Kh;try dsimp only
 show PQ _ _;rw[bJ,av];exact⟨by rw[bW];omega,rfl,rfl,rfl⟩
theorem afu (x:qW.B)(h:x.1.2.1<=1999):Ok (dW x) (λr:Cv=>r.1=x.1.2.1/\r.2.1.1.d.c.b.2.2=x.2.1.d.c.b.2.2/\r.2.1.1.c.1=x.2.1.c.1/\r.2.1.1.d.c.2.1=x.2.1.d.c.2.1):=by
 unfold dW Ki;try dsimp only
 show PQ _ _;rw[aM,bJ];refine⟨rfl,ay (aLU _ h) λd _ hd=> ?_⟩;iterate 10 (rw[aM,bJ];refine⟨rfl,?_⟩)
 refine ay (bp.Ok (aLZ ((x.1.1,d.1.2.2,true),_) (by show d.1.2.2<=1999;rw[hd];exact h)) (Q:=λ_=>True) λ_ _=>trivial) λd1 _ _=> ?_;rw[av];exact⟨hd,rfl,rfl,rfl⟩
theorem Zj (x:nU.B)(h:x.1.1<=1999):Ok (jw x) (λr:FX=>r.d.c.b.2.2=x.2.1.d.c.b.2.2/\r.c.1=x.2.1.c.1/\r.d.c.2.1=x.2.1.d.c.2.1):=by
 unfold jw F1;try dsimp only
 show PQ _ _;rw[aM,bJ];refine⟨rfl,ay (bp.Ok (ar7 x.1.1 _ _ _ _ h) (Q:=λ_=>True) λ_ _=>trivial) λd1 _ _=> ?_⟩;rw[aK];exact⟨λ_=>by rw[av];exact⟨rfl,rfl,rfl⟩,λ_=>by rw[av];exact⟨rfl,rfl,rfl⟩⟩
theorem aYZ (x:re.B)(h:x.2.1.d.c.b.2.2<=90000):Ok (rf x) (λr:CA=>r.1.d.c.b.2.2<=x.2.1.d.c.b.2.2+3/\r.1.c.1=x.2.1.c.1/\r.1.d.c.2.1=x.2.1.d.c.2.1):=by
 unfold rf Kk;try dsimp only
 show PQ _ _;simp only[aM];rw[bD];intro d _;rw[bD];intro d1 _;iterate 9 (rw[bJ];refine⟨rfl,?_⟩)
 refine ay (Sf _ (show x.2.1.d.c.b.2.2<=100000 by omega)) λd2 _ h2=> ?_;have h2:d2.1.d.c.b.2.2=x.2.1.d.c.b.2.2+1/\d2.1.c.1=x.2.1.c.1/\d2.1.d.c.2.1=x.2.1.d.c.2.1:=h2;rw[bD];intro d3 _;iterate 9 (rw[bJ];refine⟨rfl,?_⟩)
 refine ay (Sf _ (show d2.1.d.c.b.2.2<=100000 by omega)) λd4 _ h4=> ?_;have h4:d4.1.d.c.b.2.2=d2.1.d.c.b.2.2+1/\d4.1.c.1=d2.1.c.1/\d4.1.d.c.2.1=d2.1.d.c.2.1:=h4;rw[aK];refine⟨λ_=> ?_,λ_=>by rw[av];omega⟩;rw[bD];intro d5 _;iterate 9 (rw[bJ];refine⟨rfl,?_⟩)
 refine ay (Sf _ (show d4.1.d.c.b.2.2<=100000 by omega)) λd6 _ h6=> ?_;have h6:d6.1.d.c.b.2.2=d4.1.d.c.b.2.2+1/\d6.1.c.1=d4.1.c.1/\d6.1.d.c.2.1=d4.1.d.c.2.1:=h6;rw[av];omega
theorem aL0 (x:lW.B):Ok (lX x) (λr:Cw=>r.1.d.c.b.2.2=x.2.1.d.c.b.2.2/\r.1.c.1=x.2.1.c.1/\r.1.d.c.2.1=x.2.1.d.c.2.1):=by
 unfold lX Cy;try dsimp only
 show PQ _ _;simp only[aM]
 repeat' (first
  |rw[aC]
  |(rw[aK];refine⟨λ_=> ?_,λ_=> ?_⟩)
  |(rw[tI];refine⟨λ_ _=> ?_,λ_ _=> ?_⟩)
  |(with_reducible refine ay (afu _ ?_) λe _ he=> ?_)
  |(with_reducible refine ay (Zj _ ?_) λq _ hq=> ?_)
  |(with_reducible refine ay (Sf _ ?_) λt _ ht=> ?_)
  |(rw[bD];intro _ _))
 all_goals first|(rw[av];exact⟨hq.1.trans he.2.1,hq.2.1.trans he.b.1,hq.2.2.trans he.b.2⟩)|(rw[av];exact he.2)|(rw[av];exact⟨rfl,rfl,rfl⟩)|omega|(dsimp only;omega)|(have h1:=he.1;(try dsimp only at h1);(try dsimp only);omega)
theorem aL1 (x:lY.B):Ok (lZ x) (λr:CB=>r.1.d.c.b.2.2=x.2.1.d.c.b.2.2/\r.1.c.1=x.2.1.c.1/\r.1.d.c.2.1=x.2.1.d.c.2.1):=by
 unfold lZ CC;try dsimp only
 show PQ _ _;simp only[aM]
 repeat' (first
  |rw[aC]
  |(rw[aK];refine⟨λ_=> ?_,λ_=> ?_⟩)
  |(rw[tI];refine⟨λ_ _=> ?_,λ_ _=> ?_⟩)
  |(with_reducible refine ay (afu _ ?_) λe _ he=> ?_)
  |(with_reducible refine ay (Zj _ ?_) λq _ hq=> ?_)
  |(with_reducible refine ay (Sf _ ?_) λt _ ht=> ?_)
  |(rw[bD];intro _ _))
 all_goals first|(rw[av];exact⟨hq.1.trans he.2.1,hq.2.1.trans he.b.1,hq.2.2.trans he.b.2⟩)|(rw[av];exact he.2)|(rw[av];exact⟨rfl,rfl,rfl⟩)|omega|(dsimp only;omega)|(have h1:=he.1;(try dsimp only at h1);(try dsimp only);omega)
theorem aIf (x0:Nat->Int)(x1:Int)(x2:Int)(x3:Int)(x4:Int)(x5:Int)(x6:Bool):Ok (Cg x0 x1 x2 x3 x4 x5 x6) (λr:VA=>match r with|.inl e=>(e.1!=0)=true|.inr _=>True):=by
 unfold Cg VB;try dsimp only
 show PQ _ _;simp only[bO];repeat' (first|exact True.intro|rfl|assumption|(apply And.intro)|(intro _))
theorem aY0 (x:ri.B):Ok (rj x) (λr:Kl=>r.1.d.c.b.2.2=x.2.1.d.c.b.2.2/\r.1.c.1=x.2.1.c.1/\r.1.d.c.2.1=x.2.1.d.c.2.1):=by
 unfold rj Km;try dsimp only
 show PQ _ _;simp only[aM];rw[bD];intro d _;with_reducible refine ay (aIf _ _ _ _ _ _ _) λfb _ hfb=> ?_
 rw[tI];refine⟨λa ha=> ?_,λa ha=> ?_⟩
 .subst ha;have hfb:(a.1!=0)=true:=hfb;rw[hfb]
  repeat' (first
   |rw[aC]
   |(rw[aK];refine⟨λ_=> ?_,λ_=> ?_⟩)
   |(rw[tI];refine⟨λ_ _=> ?_,λ_ _=> ?_⟩)
   |(with_reducible refine ay (afu _ ?_) λe _ he=> ?_)
   |(with_reducible refine ay (Zj _ ?_) λq _ hq=> ?_)
   |(with_reducible refine ay (Sf _ ?_) λt _ ht=> ?_)
   |(rw[bD];intro _ _))
  all_goals first|(rw[av];exact⟨hq.1.trans he.2.1,hq.2.1.trans he.b.1,hq.2.2.trans he.b.2⟩)|(rw[av];exact he.2)|(rw[av];exact⟨rfl,rfl,rfl⟩)|omega|(dsimp only;omega)|(have h1:=he.1;(try dsimp only at h1);(try dsimp only);omega)
 .subst ha
  repeat' (first
   |rw[aC]
   |(rw[aK];refine⟨λ_=> ?_,λ_=> ?_⟩)
   |(rw[tI];refine⟨λ_ _=> ?_,λ_ _=> ?_⟩)
   |(with_reducible refine ay (afu _ ?_) λe _ he=> ?_)
   |(with_reducible refine ay (Zj _ ?_) λq _ hq=> ?_)
   |(with_reducible refine ay (Sf _ ?_) λt _ ht=> ?_)
   |(rw[bD];intro _ _))
  all_goals first|(rw[av];exact⟨hq.1.trans he.2.1,hq.2.1.trans he.b.1,hq.2.2.trans he.b.2⟩)|(rw[av];exact he.2)|(rw[av];exact⟨rfl,rfl,rfl⟩)|omega|(dsimp only;omega)|(have h1:=he.1;(try dsimp only at h1);(try dsimp only);omega)
end Go.Proofs.YtldgljclcgaibaaGreat
