/-
  Parts of the proof: Q4 TI TJ TK TL TM TN TO
-/
import Derived.Test.YtldgljclcgaibaaGreatZAE
import Derived.Test.YtldgljclcgaibaaGreatZAI
open Nat renaming beq→z9,ble→wr,blt→wl
open Int renaming toNat→z4,ofNat→ws,tdiv→ul
open Sum renaming inl→w7,inr→ww,elim→v4
set_option linter.unusedVariables false
set_option linter.unusedSimpArgs false
set_option maxRecDepth 100000
set_option maxHeartbeats 4000000
noncomputable section
namespace Go.Proofs.YtldgljclcgaibaaGreat
open Go.Ab Go.Ab.Pg Go.Ab.Rq
def awN:=qa (pr (cu aQ afN) bL)
def adn:=qe (res (pr (aa axw) (pl m4 nil)))
abbrev awO:=adn.B
abbrev vm:=NI->Int->Bool->Option awO
def Hi (g:vm):Ct:=(103,FC awN (lf adn) (λb=>g b.1.1 b.1.2 b.2))
def ahP (aR:fM)(bg:dP)(bO:mG)(x0:Nat->Int)(x1:Int)(x2:Bool):Pg awO:=opt (aR x0 x2) λd=>opt (bg d.1) λak=>opt (bO d.1 4) λaJ=>opt (bO d.1 7) λbB=>ret ((x1,ak.1,ak.2.1,ak.2.2.1,ak.2.2.2,aJ.1,aJ.2.1,aJ.2.2,bB),d.2)
def lz:=λx0 x1 x2=>(ahP bW cj fh x0 x1 x2).val
theorem aLX:∀aR bg bO,D0 [jG aR,jb bg,sE bO] 103 awN (lf adn) λb=>ahP aR bg bO b.1.1 b.1.2 b.2:=λ_ _ _ b=>by kernel_rfl
theorem Ng [aA]:SC (Hi lz):=s0 (.c kO (.c kd (.c v8 (.nil _)))) (aLX bW cj fh)
def arB:=qa (pl (c lk (cl aQZ nil)) nil)
def Yt:=qe aQF
abbrev arC:=Yt.B
abbrev Eu:=NI->Int->Int->Int->Int->Int->Int->Int->Int->Int->Int->Int->Option arC
def QP (g:Eu):Ct:=(105,FC arB (lf Yt) (λb=>g b.1 b.2.1 b.b.1.1 b.b.1.2.1 b.b.1.b.1 b.b.1.b.2 b.b.2.1.1 b.b.2.1.2.1 b.b.2.1.b b.c.1 b.c.2.1 b.c.b))
def ado (cV:Au)(x0:Nat->Int)(x1:Int)(x2:Int)(x3:Int)(x4:Int)(x5:Int)(x6:Int)(x7:Int)(x8:Int)(x9:Int)(gw:Int)(gx:Int):Pg arC:=opt (cV x0 0 4 (cr x2 [x5,x4,x3,x2]) false) λd=>opt (cV d 4 3 (cr x6 [x8,x7,x6]) false) λd=>opt (cV d 7 3 (cr x9 [gx,gw,x9]) false) λd=>ret d
def sM:=λx0 x1 x2 x3 x4 x5 x6 x7 x8 x9 gw gx=>(ado fk x0 x1 x2 x3 x4 x5 x6 x7 x8 x9 gw gx).val
theorem aH3:∀cV,D0 [Em cV] 105 arB (lf Yt) λb=>ado cV b.1 b.2.1 b.b.1.1 b.b.1.2.1 b.b.1.b.1 b.b.1.b.2 b.b.2.1.1 b.b.2.1.2.1 b.b.2.1.b b.c.1 b.c.2.1 b.c.b:=λ_ b=>by kernel_rfl
theorem adp [aA]:SC (QP sM):=s0 (.c IM (.nil _)) (aH3 fk)
def arD:=qa (pl abD nil)
def Yu:=qe Cy
abbrev arE:=Yu.B
abbrev arF:=Int->Int->Int->Int->Int->Int->Int->Int->Option arE
def arG (g:arF):Ct:=(101,FC arD (lf Yu) (λb=>g b.1 b.2.1 b.b.1.1 b.b.1.2.1 b.b.1.b b.b.2.1 b.c.1 b.c.2))
def kQ:=qs (st (pr (us 1 (cu ZI (us 2 (cl ai (us 21 aQB))))) (pl (cl FD nil) nil)))
def aaW:=qs (st (pu (us 2 (cu lM (us 37 nil))) (pu nil nil)))
def aaX:=qs (st (pr (us 1 (cu ZI (us 2 (c ai (cl ab (us 20 aQB)))))) (pl (cl FD nil) nil)))
abbrev yV:=aaW.B⊕aaX.B
def ajD {ρ:Type}(x:yV)(K:AX->St->Option ρ):Option ρ:=(v4 (λd=>K .ret (aaW.em d)) (λd=>K (.ex 0) (aaX.em d))) x
def JQ (dC:OP)(d:kQ.B):PL kQ yV:=let n2:=d.2.2.2;let n1:=n2.2.2.2;let y0:=aZ d.1 3;let y1:=d.1==1;let y2:=d.1==2;let y3:=decide (d.1<3);ae y3 (ae y0 (ae y2 (opt (dC n2.2.2.1) λak=>ae (decide (ak>34359738368)) (ret (ww (w7 ()))) (ae y0 (ae y2 (opt (dC n1.2.2) λaJ=>ae (decide (aJ>34359738368)) (ret (ww (w7 ()))) (ret (w7 (wI (d.1+1),d.2)))) (ae y1 (opt (dC n1.2.1) λaJ=>ae (decide (aJ>34359738368)) (ret (ww (w7 ()))) (ret (w7 (wI (d.1+1),d.2)))) (opt (dC n1.1) λaJ=>ae (decide (aJ>34359738368)) (ret (ww (w7 ()))) (ret (w7 (wI (d.1+1),d.2)))))) no)) (ae y1 (opt (dC n2.2.1) λak=>ae (decide (ak>34359738368)) (ret (ww (w7 ()))) (ae y0 (ae y2 (opt (dC n1.2.2) λaJ=>ae (decide (aJ>34359738368)) (ret (ww (w7 ()))) (ret (w7 (wI (d.1+1),d.2)))) (ae y1 (opt (dC n1.2.1) λaJ=>ae (decide (aJ>34359738368)) (ret (ww (w7 ()))) (ret (w7 (wI (d.1+1),d.2)))) (opt (dC n1.1) λaJ=>ae (decide (aJ>34359738368)) (ret (ww (w7 ()))) (ret (w7 (wI (d.1+1),d.2)))))) no)) (opt (dC n2.1) λak=>ae (decide (ak>34359738368)) (ret (ww (w7 ()))) (ae y0 (ae y2 (opt (dC n1.2.2) λaJ=>ae (decide (aJ>34359738368)) (ret (ww (w7 ()))) (ret (w7 (wI (d.1+1),d.2)))) (ae y1 (opt (dC n1.2.1) λaJ=>ae (decide (aJ>34359738368)) (ret (ww (w7 ()))) (ret (w7 (wI (d.1+1),d.2)))) (opt (dC n1.1) λaJ=>ae (decide (aJ>34359738368)) (ret (ww (w7 ()))) (ret (w7 (wI (d.1+1),d.2)))))) no)))) no) (ret (ww (ww ((d.1,y3),d.2))))
def JR:=bG (JQ yK) 2000
def QQ (dX:LT kQ yV)(x0:Int)(x1:Int)(x2:Int)(x3:Int)(x4:Int)(x5:Int)(x6:Int)(x7:Int):Pg arE:=opt (dX (0,x0,x1,x2,x3,x4,x5,x6,x7)) λx=>sum x (λd=>ret false) λd=>ae (decide (d.2.2.1>=1)) (ae (decide (d.2.2.1<=100000)) (ae (decide (d.2.1>=0)) (ret (decide (d.2.1<=1125899906842624))) (ret false)) (ret false)) (ret false)
def AH:=λx0 x1 x2 x3 x4 x5 x6 x7=>(QQ JR x0 x1 x2 x3 x4 x5 x6 x7).val
abbrev QR:=OP×(LT kQ yV)
def adq (p:QR):KK:=⟨[aef p.1],⟨[⟨2,(0::2::5::6::7::rg 9 4 (rg 20 6 (29::30::34::35::39::3::8::rg 13 7 []))),[]⟩],[fU 2 0 kQ ajD p.2],[],[],(some ⟨0,(0::1::rg 3 37 []),[]⟩)⟩,0,101⟩
theorem ayZ (p:QR):LI (adq p) 2 kQ ajD (JQ p.1):=λ_ d c K=>by kernel_rfl
theorem aH4 (p:QR):D2 (adq p) arD (lf Yu) λb=>QQ p.2 b.1 b.2.1 b.b.1.1 b.b.1.2.1 b.b.1.b b.b.2.1 b.c.1 b.c.2:=λb=>by kernel_rfl
abbrev adr:QR:=(yK,JR)
theorem aH5 [aA]:SC (arG AH):=sc (kS (k:=adq adr) (.c aoV (.nil _)) [2] [] ⟨kL (ayZ adr),trivial⟩ trivial (aH4 adr))
def AI:=qa (pr (cu aQ (c (aa aD8) abD)) bL)
def Yv:=qe (res (pr (aa axs) (pl m4 nil)))
abbrev arH:=Yv.B
abbrev arI:=AI.B->Option arH
def arJ (g:arI):Ct:=(102,FC AI (lf Yv) g)
def QS (ec:CR)(x:AI.B):Pg arH:=let n2:=x.1.2.2.2;let n1:=x.1.1.2.2;opt (ec 2 x.2 (cr n1.1.1 [n2.1.1,n1.1.1]) (cr n1.1.2.1 [n2.1.2.1,n1.1.2.1]) (cr n1.1.2.2 [n2.1.2.2,n1.1.2.2]) true) λd=>opt (ec 2 d.2 (cr n1.2.1 [n2.2.1,n1.2.1]) (cr n1.2.2.1 [n2.2.2.1,n1.2.2.1]) (cr n1.2.2.2 [n2.2.2.2,n1.2.2.2]) true) λak=>ret ((x.1.2.1,wI (x.1.1.2.1+x.1.2.2.1),d.1.1,d.1.2.1,d.1.2.2,ak.1),ak.2)
def wj:=λx=>(QS kc x).val
theorem aH6:∀ec,D0 [Kn ec] 102 AI (lf Yv) λb=>QS ec b:=λ_ b=>by kernel_rfl
theorem aH7 [aA]:SC (arJ wj):=s0 (.c OV (.nil _)) (aH6 kc)
def mc:=qa (pr (cu (app 0 10) (cu Q' abD)) (c oG bL))
def EI:=qe (res (pr (sf (c (ra axs) (c (rc cb) afF))) (pl (c (An oG) m4) nil)))
abbrev RJ:=EI.B
abbrev Gj:=mc.B->Option RJ
def RK (g:Gj):Ct:=(62,FC mc (lf EI) g)
def zP (QT:arF)(QU:arI)(x:mc.B):Pg RJ:=let n3:=x.1.2.2;let n2:=x.2.1;let n1:=(QU ((n2.2.1,x.1),x.2.2));opt (QT x.1.1 x.1.2.1 n3.1.1 n3.1.2.1 n3.1.2.2 n3.2.1 n3.2.2.1 n3.2.2.2) λd=>ae (!d) (ret (((0,0,0,0,0,0,0,0),false,1),x.2)) (ae n2.2.2 (ae (decide (x.1.1<=n2.2.1.1)) (ret (((0,0,0,0,0,0,0,0),false,1),x.2)) (opt n1 λd=>let n4:=d.1.2;ae (decide (n4.1<n2.1)) (ret (((0,0,0,0,0,0,0,0),false,0),(n2.1,(d.1.1,n4.1,(n4.2.1,n4.2.2.1,n4.2.2.2.1),n4.2.2.2.2),true),d.2)) (ret ((d.1,true,0),(n2.1,(x.1.1,0,(0,0,0),0,0,0),true),d.2)))) (opt n1 λd=>let n5:=d.1.2;ae (decide (n5.1<n2.1)) (ret (((0,0,0,0,0,0,0,0),false,0),(n2.1,(d.1.1,n5.1,(n5.2.1,n5.2.2.1,n5.2.2.2.1),n5.2.2.2.2),true),d.2)) (ret ((d.1,true,0),(n2.1,(x.1.1,0,(0,0,0),0,0,0),true),d.2))))
def hO:=λx=>(zP AH wj x).val
theorem anG:∀QT QU,D1 [arG QT,arJ QU] [0,1] 62 mc (lf EI) λb=>zP QT QU b:=λ_ _ b=>by kernel_rfl
theorem anH [aA]:SC (RK hO):=s0 (.c aH5 (.c aH7 (.nil _))) (anG AH wj)
def gQ:=qa (pr (cu KW (cu Q' afN)) (cd afM λb0=>(c xY (cl (cl (gs b0.b jJ) nil) nil))))
def xu:=qe (res (pu Q8 (pr (c (An (c gi (cl gi (cu (gc (fO (pu rq7 (pu wO (pu (szl DG) (pu NR fR)))))) nil)))) Oh) (cl axw nil))))
abbrev yp:=xu.B
abbrev yu:=gQ.B->Option yp
def HD (g:yu):Ct:=(162,FC gQ (lf xu) g)
def qS (kg:vm)(x:gQ.B):Pg yp:=opt (kg x.1.1 x.1.2 x.2.2.1) λd=>ret (((x.2.1.1,x.2.1.2.1),d.2),d.1)
def eK:=λx=>(qS lz x).val
theorem Zr:∀kg,D0 [Hi kg] 162 gQ (lf xu) λb=>qS kg b:=λ_ b=>by kernel_rfl
theorem Zs [aA]:SC (HD eK):=s0 (.c Ng (.nil _)) (Zr lz)
def kR:=qa (pr (cu KW (cu Q' (c lk abD))) (cd afM λb0=>(c xY (cl (cl (gs b0.b jJ) nil) nil))))
def E9:=qe (res (pr ai (pl (c (An afM) Oh) nil)))
def E':=qe (res (pu (ac aJ0) (pr (c (An aKd) (cl aus aM4)) aQ1)))
abbrev sN:=E9.B⊕E'.B
def I7:sN->T:=ls (lf E9) (lf E')
abbrev nX:=kR.B->Option sN
def AJ (g:nX):Ct:=(63,FC kR I7 g)
def AK (wo:Eu)(Ev:QH)(kg:vm)(x:kR.B):Pg sN:=let bH:=x.2.2.1;let n8:=x.2.1;let n6:=x.1.2.2;let n4:=x.2.2.2;let bk:=n4.2.2;let n2:=n8.2.2;let n1:=bk.2.2;let n5:=n1.2.2.2;let bo:=n5.2.2;let y0:=ws n2;let y1:=n2+1;let y2:=wI (y0-1);let y3:=z4 y2;let y4:=y1-1;let y5:=0+y4;ae (y0==0) (ret (w7 (4,n8,bH))) (ae (aZ y2 n2) (ae (decide (n6.1<1)) (ret (w7 (1,n8,bH))) (ae (decide (x.1.2.1<=n4.1 y3)) (ret (w7 (1,n8,bH))) (opt (wo x.1.1 (n4.1 y3) (n4.2.1 y3) (bk.1 y3) (bk.2.1 y3) (n1.1 y3) (n1.2.1 y3) (n1.2.2.1 y3) (n5.1 y3) (n5.2.1 y3) (bo.1 y3) (bo.2 y3)) λd=>opt (Ev d x.1.2.1 n6.1 n6.2.1.1 n6.2.1.2.1 n6.2.1.2.2 n6.2.2.1 n6.2.2.2.1 n6.2.2.2.2 bH) λd=>opt (kg d.1 x.1.2.1 d.2) λd=>let n7:=d.1.2.2;let n3:=n7.2.2.2;let n9:=n3.2.2.2;ae (wr (y1*88) 140737488355328) (ae (decide (ws y1>n8.1)) (ae (HA 1 y1) (ae (wr (y5*88) 140737488355328) (ret (ww (((n8.1,n8.2.1,y5),d.2),y4,λj=>let y0:=1+j;bif z9 y0 n2 then d.1.1 else n4.1 y0,λj=>let y0:=1+j;bif z9 y0 n2 then d.1.2.1 else n4.2.1 y0,λj=>let y0:=1+j;bif z9 y0 n2 then n7.1 else bk.1 y0,λj=>let y0:=1+j;bif z9 y0 n2 then n7.2.1 else bk.2.1 y0,λj=>let y0:=1+j;bif z9 y0 n2 then n7.2.2.1 else n1.1 y0,λj=>let y0:=1+j;bif z9 y0 n2 then n3.1 else n1.2.1 y0,λj=>let y0:=1+j;bif z9 y0 n2 then n3.2.1 else n1.2.2.1 y0,λj=>let y0:=1+j;bif z9 y0 n2 then n3.2.2.1 else n5.1 y0,λj=>let y0:=1+j;bif z9 y0 n2 then n9.1 else n5.2.1 y0,λj=>let y0:=1+j;bif z9 y0 n2 then n9.2.1 else bo.1 y0,λj=>let y0:=1+j;bif z9 y0 n2 then n9.2.2 else bo.2 y0))) no) no) (ret (ww (((n8.1,n8.2.1,y1),d.2),y1,λj=>bif z9 j n2 then d.1.1 else n4.1 j,λj=>bif z9 j n2 then d.1.2.1 else n4.2.1 j,λj=>bif z9 j n2 then n7.1 else bk.1 j,λj=>bif z9 j n2 then n7.2.1 else bk.2.1 j,λj=>bif z9 j n2 then n7.2.2.1 else n1.1 j,λj=>bif z9 j n2 then n3.1 else n1.2.1 j,λj=>bif z9 j n2 then n3.2.1 else n1.2.2.1 j,λj=>bif z9 j n2 then n3.2.2.1 else n5.1 j,λj=>bif z9 j n2 then n9.1 else n5.2.1 j,λj=>bif z9 j n2 then n9.2.1 else bo.1 j,λj=>bif z9 j n2 then n9.2.2 else bo.2 j)))) no))) no)
def fm:=λx=>(AK sM nR lz x).val
theorem ads:∀wo Ev kg,D1 [QP wo,acM Ev,Hi kg] [0,1] 63 kR I7 λb=>AK wo Ev kg b:=λ_ _ _ b=>by kernel_rfl
theorem I8 [aA]:SC (AJ fm):=s0 (.c adp (.c aq9 (.c Ng (.nil _)))) (ads sM nR lz)
def Lh:=qa (pu (cu KW nil) (cd (c gi (c gi (cl (gc (A4 1 11)) nil))) λb0=>(cl (cl (gs b0.b jJ) nil) nil)))
def AL:=qe (res (pl aYl (pu aDV nil)))
abbrev Li:=AL.B
abbrev Lj:=Int->Int->Nat->NI->NI->NI->NI->NI->NI->NI->NI->NI->NI->NI->Option Li
def Lk (g:Lj):Ct:=(75,FC Lh (lf AL) (λb=>g b.1.1 b.1.2.1 b.1.b b.2.1 b.b.1 b.b.2.1 b.c.1 b.c.2.1 b.c.b.1 b.c.b.2.1 b.d.1 b.d.2.1 b.d.b.1 b.d.b.2))
def Ll (x0:Int)(x1:Int)(x2:Nat)(x3:Nat->Int)(x4:Nat->Int)(x5:Nat->Int)(x6:Nat->Int)(x7:Nat->Int)(x8:Nat->Int)(x9:Nat->Int)(gw:Nat->Int)(gx:Nat->Int)(EC:Nat->Int)(x13:Nat->Int):Pg Li:=let y0:=wI (ws x2-1);let y1:=z4 y0;ae (ws x2==0) (ret ((0,0,0,0,0,0,0,0,0,0,0),false)) (ae (aZ y0 x2) (ret (((x3,x4,x5,x6,x7,x8,x9,gw,gx,EC,x13).1 y1,(x4,x5,x6,x7,x8,x9,gw,gx,EC,x13).1 y1,(x5,x6,x7,x8,x9,gw,gx,EC,x13).1 y1,(x6,x7,x8,x9,gw,gx,EC,x13).1 y1,(x7,x8,x9,gw,gx,EC,x13).1 y1,(x8,x9,gw,gx,EC,x13).1 y1,(x9,gw,gx,EC,x13).1 y1,(gw,gx,EC,x13).1 y1,(gx,EC,x13).1 y1,EC y1,x13 y1),true)) no)
def BQ:=λx0 x1 x2 x3 x4 x5 x6 x7 x8 x9 gw gx EC x13=>(Ll x0 x1 x2 x3 x4 x5 x6 x7 x8 x9 gw gx EC x13).val
theorem aeT:D0 [] 75 Lh (lf AL) λb=>Ll b.1.1 b.1.2.1 b.1.b b.2.1 b.b.1 b.b.2.1 b.c.1 b.c.2.1 b.c.b.1 b.c.b.2.1 b.d.1 b.d.2.1 b.d.b.1 b.d.b.2:=λb=>by kernel_rfl
theorem aeU [aA]:SC (Lk BQ):=s0 (.nil _) aeT
def nH:=qa (pu (cu ZI nil) (cd akI λb0=>(cl (cl (gs b0.b.1 aC) nil) nil)))
def C9:=qe (res (pu Q8 (pl (cl (An akI) adP) nil)))
abbrev EJ:=C9.B
abbrev EK:=nH.B->Option EJ
def Ob (g:EK):Ct:=(57,FC nH (lf C9) g)
def xU (x:nH.B):Pg EJ:=ret ((wI (x.1.1.1+1),x.1.1.2.1,x.1.1.2.2.1,wI (x.1.1.2.2.2.1+1),x.1.1.2.2.2.2),x.1.2)
def ln:=λx=>(xU x).val
theorem akh:D0 [] 57 nH (lf C9) λb=>xU b:=λb=>by kernel_rfl
theorem aki [aA]:SC (Ob ln):=s0 (.nil _) akh
def anI:=qa (pl FA nil)
def T6:=qe Cy
abbrev anJ:=T6.B
abbrev BS:=Int->Int->Int->Option anJ
def Yw (g:BS):Ct:=(41,FC anI (lf T6) (λb=>g b.1 b.2.1 b.b))
def Nh (x0:Int)(x1:Int)(x2:Int):Pg anJ:=ae (decide (x0>=x1)) (ret (decide (x0<=x2))) (ret false)
def nY:=λx0 x1 x2=>(Nh x0 x1 x2).val
theorem aGB:D0 [] 41 anI (lf T6) λb=>Nh b.1 b.2.1 b.b:=λb=>by kernel_rfl
theorem anK [aA]:SC (Yw nY):=s0 (.nil _) aGB
def awP:=qa (pl HR nil)
def aeV:=qe aD7
def aeW:=qe aYn
abbrev ahQ:=aeV.B⊕aeW.B
def awQ:ahQ->T:=ls (lf aeV) (lf aeW)
abbrev ahR:=Int->Int->Int->Option ahQ
def awR (g:ahR):Ct:=(42,FC awP awQ (λb=>g b.1 b.2.1 b.b))
def ahS (cO:wg)(fx:WC)(av:cD)(eP:K6)(gZ:Rm)(vn:agI)(aE:cN)(x0:Int)(x1:Int)(x2:Int):Pg ahQ:=opt (cO x0 x1 x2) λd=>ae (!d) (ret (w7 ())) (ae (decide (x0>850000000)) (ret (w7 ())) (ae (decide (x0< -850000000)) (ret (w7 ())) (opt (av x0 3373259426 1800000000 false) λd=>opt (eP d.1 d.2) λak=>opt (gZ d.1 ak.2) λd=>opt (fx ak.1 ak.1 d.2) λaJ=>opt (fx 7188036 aJ.1 aJ.2) λbB=>let y0:=wI (1073741824-bB.1);opt (vn y0 bB.2) λcK=>opt (aE 6531212288 cK.1 30 cK.2) λeU=>opt (fx 6531212288 1066553788 eU.2) λde=>opt (fx y0 cK.1 de.2) λlG=>opt (aE de.1 lG.1 30 lG.2) λtP=>opt (av tP.1 3373259426 1800000000 tP.2) λp8=>opt (fx eU.1 d.1 p8.2) λd=>opt (av d.1 3373259426 1800000000 d.2) λd=>ret (ww (x0,x1,x2,p8.1,d.1)))))
def zQ:=λx0 x1 x2=>(ahS gM wV aX ni qG CL bh x0 x1 x2).val
theorem aLY:∀cO fx av eP gZ vn aE,D0 [Ay cO,WD fx,dt av,K7 eP,Rn gZ,agJ vn,gL aE] 42 awP awQ λb=>ahS cO fx av eP gZ vn aE b.1 b.2.1 b.b:=λ_ _ _ _ _ _ _ b=>by kernel_rfl
theorem aLZ [aA]:SC (awR zQ):=s0 (.c Es (.c alw (.c dI (.c Rl (.c aae (.c avf (.c ix (.nil _)))))))) (aLY gM wV aX ni qG CL bh)
def aBz:=qa (pr (cu apY FA) (cl ass nil))
def ahT:=qe aXS
abbrev aBA:=ahT.B
abbrev anL:=Int->Int->Int->NI->Option aBA
def aBB (g:anL):Ct:=(74,FC aBz (lf ahT) (λb=>g b.1.1 b.1.2.1 b.1.b b.2))
def BT:=qs (st (pr (cu apY (us 1 (c ai (c ai (us 4 aQg))))) (pl FB bK)))
def aH8:=qs (st (pr (cu apY (us 1 (c ai (c ai (us 4 (c ai (us 1 (c ai aJ6)))))))) (pl FB bK)))
abbrev QV:=(aS2×NI)
def arK {ρ:Type}(x:QV)(K:AX->St->Option ρ):Option ρ:=(λd=>K (.ex 0) (aH8.em ((d.1.1,d.1.2.1,d.1.b.1,d.1.b.1,d.1.1,d.1.b.2),d.2))) x
def arL (d:BT.B):PL BT QV:=let n1:=d.1.2;let y0:=z4 n1.2;let y1:=decide (n1.2<d.1.1);ae y1 (ae (aZ n1.2 24) (ae (true&&wr (0+y0*1+1) 24) (ret (w7 ((d.1.1,n1.1,wI (n1.2+1)),λj=>bif z9 j y0 then n1.1 else d.2 j))) no) no) (ret (ww ((d.1.1,n1.1,n1.2,y1),d.2)))
def arM:=bG (arL) 2000
def aBC (dX:LT BT QV)(x0:Int)(x1:Int)(x2:Int)(x3:Nat->Int):Pg aBA:=opt (dX ((x1,x2,x0),x3)) λd=>ret d.2
def anM:=λx0 x1 x2 x3=>(aBC arM x0 x1 x2 x3).val
abbrev aaY:=(LT BT QV)
def anN (p:aaY):KK:=⟨[],⟨[⟨1,(1::rg 4 4 (rg 9 11 [])),[]⟩],[fU 1 1 BT arK p],[0],[],(some ⟨0,(rg 0 20 []),[]⟩)⟩,1,74⟩
theorem aGC (p:aaY):LI (anN p) 1 BT arK (arL):=λ_ d c K=>by kernel_rfl
theorem aOR (p:aaY):D2 (anN p) aBz (lf ahT) λb=>aBC p b.1.1 b.1.2.1 b.1.b b.2:=λb=>by kernel_rfl
abbrev anO:aaY:=arM
theorem aOS [aA]:SC (aBB anM):=sc (kS (k:=anN anO) (.nil _) [1] [] ⟨kL (aGC anO),trivial⟩ trivial (aOR anO))
def anP:=qa (pu nil nil)
def T7:=qe (res (pl (aa aRd) (pu nil nil)))
abbrev Yx:=T7.B
abbrev aGD:=Option Yx
def anQ (g:aGD):Ct:=(38,FC anP (lf T7) (λ_=>g))
def uc:=qs (st (pr (cu aM5 (cu (app 1 72) (us 2 aW5))) (pl (c (so (cu aP (cu aP (cu aP (cu aP (cu aP (cu aP (cu aP (cu aP (cu aP (cu aP (cu aP (cu aP (cu aP (cu aP (cu aP (cu aP (c gK (cl gK aKC))))))))))))))))))) (cl (so aRd) nil)) nil)))
def aeX:=qs (st (pr (cu aM5 (cu (app 1 72) (us 2 aXj))) (pl (c (so (cu aP (cu aP (cu aP (cu aP (cu aP (cu aP (cu aP (cu aP (cu aP (cu aP (cu aP (cu aP (cu aP (cu aP (cu aP (cu aP (c gK (cl gK aKC))))))))))))))))))) (cl (so aRd) nil)) nil)))
abbrev Hj:=aeX.B
def aeY {ρ:Type}:=@ef Hj ((.ex 0)) aeX ρ
def aeZ (d:uc.B):PL uc Hj:=let n8:=d.2.1;let n4:=d.2.2.1;let n3:=d.2.2.2;let n9:=n3.2.1;let n5:=n3.2.2.1;let n1:=n3.2.2.2;let bk:=n1.2.1;let n6:=n1.2.2.1;let n2:=n1.2.2.2;let bo:=n2.2.1;let n7:=n2.2.2;let bM:=n7.2.1;let bH:=n7.2.2;let y0:=aZ d.1 6;let y1:=d.1==5;let y2:=d.1==4;let y3:=d.1==1;let y4:=d.1==3;let y5:=d.1==2;let y6:=wI (d.1+1);let y7:=decide (d.1<6);ae y7 (ae y0 (ae y1 (ae y0 (ae y1 (ret (w7 (y6,n8,n4,n3.1,n9,n5,n1.1,5,n6,n2.1,bo,n7.1,bM,1000000,bH.2))) (ae y2 (ret (w7 (y6,n8,n4,n3.1,n9,n5,n1.1,5,n6,n2.1,bo,n7.1,1000000,bH))) (ae y4 (ret (w7 (y6,n8,n4,n3.1,n9,n5,n1.1,5,n6,n2.1,bo,1000000,n7.2))) (ae y5 (ret (w7 (y6,n8,n4,n3.1,n9,n5,n1.1,5,n6,n2.1,1000000,n7))) (ae y3 (ret (w7 (y6,n8,n4,n3.1,n9,n5,n1.1,5,n6,1000000,n2.2))) (ret (w7 (y6,n8,n4,n3.1,n9,n5,n1.1,5,1000000,n2)))))))) no) (ae y2 (ae y0 (ae y1 (ret (w7 (y6,n8,n4,n3.1,n9,n5,5,bk,n6,n2.1,bo,n7.1,bM,1000000,bH.2))) (ae y2 (ret (w7 (y6,n8,n4,n3.1,n9,n5,5,bk,n6,n2.1,bo,n7.1,1000000,bH))) (ae y4 (ret (w7 (y6,n8,n4,n3.1,n9,n5,5,bk,n6,n2.1,bo,1000000,n7.2))) (ae y5 (ret (w7 (y6,n8,n4,n3.1,n9,n5,5,bk,n6,n2.1,1000000,n7))) (ae y3 (ret (w7 (y6,n8,n4,n3.1,n9,n5,5,bk,n6,1000000,n2.2))) (ret (w7 (y6,n8,n4,n3.1,n9,n5,5,bk,1000000,n2)))))))) no) (ae y4 (ae y0 (ae y1 (ret (w7 (y6,n8,n4,n3.1,n9,5,n1.1,bk,n6,n2.1,bo,n7.1,bM,1000000,bH.2))) (ae y2 (ret (w7 (y6,n8,n4,n3.1,n9,5,n1.1,bk,n6,n2.1,bo,n7.1,1000000,bH))) (ae y4 (ret (w7 (y6,n8,n4,n3.1,n9,5,n1.1,bk,n6,n2.1,bo,1000000,n7.2))) (ae y5 (ret (w7 (y6,n8,n4,n3.1,n9,5,n1.1,bk,n6,n2.1,1000000,n7))) (ae y3 (ret (w7 (y6,n8,n4,n3.1,n9,5,n1.1,bk,n6,1000000,n2.2))) (ret (w7 (y6,n8,n4,n3.1,n9,5,n1.1,bk,1000000,n2)))))))) no) (ae y5 (ae y0 (ae y1 (ret (w7 (y6,n8,n4,n3.1,5,n5,n1.1,bk,n6,n2.1,bo,n7.1,bM,1000000,bH.2))) (ae y2 (ret (w7 (y6,n8,n4,n3.1,5,n5,n1.1,bk,n6,n2.1,bo,n7.1,1000000,bH))) (ae y4 (ret (w7 (y6,n8,n4,n3.1,5,n5,n1.1,bk,n6,n2.1,bo,1000000,n7.2))) (ae y5 (ret (w7 (y6,n8,n4,n3.1,5,n5,n1.1,bk,n6,n2.1,1000000,n7))) (ae y3 (ret (w7 (y6,n8,n4,n3.1,5,n5,n1.1,bk,n6,1000000,n2.2))) (ret (w7 (y6,n8,n4,n3.1,5,n5,n1.1,bk,1000000,n2)))))))) no) (ae y3 (ae y0 (ae y1 (ret (w7 (y6,n8,n4,5,n9,n5,n1.1,bk,n6,n2.1,bo,n7.1,bM,1000000,bH.2))) (ae y2 (ret (w7 (y6,n8,n4,5,n9,n5,n1.1,bk,n6,n2.1,bo,n7.1,1000000,bH))) (ae y4 (ret (w7 (y6,n8,n4,5,n9,n5,n1.1,bk,n6,n2.1,bo,1000000,n7.2))) (ae y5 (ret (w7 (y6,n8,n4,5,n9,n5,n1.1,bk,n6,n2.1,1000000,n7))) (ae y3 (ret (w7 (y6,n8,n4,5,n9,n5,n1.1,bk,n6,1000000,n2.2))) (ret (w7 (y6,n8,n4,5,n9,n5,n1.1,bk,1000000,n2)))))))) no) (ae y0 (ae y1 (ret (w7 (y6,n8,5,n3.1,n9,n5,n1.1,bk,n6,n2.1,bo,n7.1,bM,1000000,bH.2))) (ae y2 (ret (w7 (y6,n8,5,n3.1,n9,n5,n1.1,bk,n6,n2.1,bo,n7.1,1000000,bH))) (ae y4 (ret (w7 (y6,n8,5,n3.1,n9,n5,n1.1,bk,n6,n2.1,bo,1000000,n7.2))) (ae y5 (ret (w7 (y6,n8,5,n3.1,n9,n5,n1.1,bk,n6,n2.1,1000000,n7))) (ae y3 (ret (w7 (y6,n8,5,n3.1,n9,n5,n1.1,bk,n6,1000000,n2.2))) (ret (w7 (y6,n8,5,n3.1,n9,n5,n1.1,bk,1000000,n2)))))))) no)))))) no) (ret (ww ((d.1,y7),d.2)))
def ae0:=bG (aeZ) 2000
def anR (tp:anL)(dX:LT uc Hj):Pg Yx:=opt (dX (0,(λx=>0,λx=>0),0,0,0,0,0,0,0,0,0,0,0,0,λx=>0,λx=>0)) λd=>let n3:=d.2.2.2;let n1:=n3.2.2.2.2;let n2:=n1.2.2.2.2;opt (tp 0 24 16384 n2.2.2.2.1) λak=>opt (tp 0 4 1048576 ak) λaJ=>opt (tp 4 7 17179869184 aJ) λbB=>opt (tp 10 13 1024 bB) λcK=>opt (tp 13 16 65536 cK) λeU=>opt (tp 22 24 17179869184 eU) λde=>opt (tp 0 24 17592186044416 n2.2.2.2.2) λlG=>opt (tp 0 4 68719476736 lG) λtP=>opt (tp 10 13 67108864 tP) λp8=>opt (tp 13 16 4294967296 p8) λmM=>opt (tp 16 22 17179869184 mM) λxZ=>ret (d.2.2.1,n3.1,n3.2.1,n3.2.2.1,n3.2.2.2.1,n1.1,n1.2.1,n1.2.2.1,n1.2.2.2.1,n2.1,n2.2.1,n2.2.2.1,de,xZ)
def anS:Option Yx:=(anR anM ae0).val
abbrev Ni:=anL×(LT uc Hj)
def Yy (p:Ni):KK:=⟨[aBB p.1],⟨[⟨3,(2::3::rg 5 32 []),[]⟩],[fU 3 0 uc aeY p.2],[],[],(some ⟨0,(rg 1 36 []),[]⟩)⟩,0,38⟩
theorem awS (p:Ni):LI (Yy p) 3 uc aeY (aeZ):=λ_ d c K=>by kernel_rfl
theorem aGE (p:Ni):D2 (Yy p) anP (lf T7) λb=>anR p.1 p.2:=λb=>by kernel_rfl
abbrev Yz:Ni:=(anM,ae0)
theorem aGF [aA]:SC (anQ anS):=sc (kS (k:=Yy Yz) (.c aOS (.nil _)) [3] [] ⟨kL (awS Yz),trivial⟩ trivial (aGE Yz))
def aaZ:=qa (pr (cu aQ (c lk (c Cz (c afH jo)))) bL)
def Ky:=qe (res (pr (sf (c afJ (c akH (cl (ra (cu asr (cu aP (cu aP (cu aP (c gi (c gi (cl gi (cu aP (cu aP (cu aP (cu aQo nil)))))))))))) nil)))) (pl m4 nil)))
abbrev aa0:=Ky.B
abbrev aa1:=NI->NI->NI->Int->Int->Int->Int->Bool->Option aa0
def aa2 (g:aa1):Ct:=(250,FC aaZ (lf Ky) (λb=>g b.1.1 b.1.2.1.1 b.1.2.1.2 b.1.b.1.1 b.1.b.1.2.1 b.1.b.1.b b.1.b.2 b.2))
def Fa (aR:fM)(hX:M0)(cA:mU)(ck:jw)(x0:Nat->Int)(x1:Nat->Int)(x2:Nat->Int)(x3:Int)(x4:Int)(x5:Int)(x6:Int)(x7:Bool):Pg aa0:=opt (aR x0 x7) λd=>opt (hX d.1 4 3 d.2 (cr x3 [x5,x4,x3]) false) λd=>let n3:=d.1.2;let n2:=d.2.1;let n1:=d.2.2;opt cA λak=>ae (wr 3 n3) (opt (ck x1 x2 4 3 n2 (cr x6 [x6,x6,x6]) true) λaJ=>ret (((d.1,n2,n3,n1).1.1,aJ.1,n1 0,n1 1,n1 2),aJ.2)) (ae (wr 2 n3) (opt (ck x1 x2 4 3 n2 (cr x6 [x6,x6,x6]) true) λaJ=>ret (((d.1,n2,n3,n1).1.1,aJ.1,n1 0,n1 1,0),aJ.2)) (ae (wr 1 n3) (opt (ck x1 x2 4 3 n2 (cr x6 [x6,x6,x6]) true) λaJ=>ret (((d.1,n2,n3,n1).1.1,aJ.1,n1 0,0,0),aJ.2)) (opt (ck x1 x2 4 3 n2 (cr x6 [x6,x6,x6]) true) λaJ=>ret (((d.1,n2,n3,n1).1.1,aJ.1,0,0,0),aJ.2))))
def nm:=λx0 x1 x2 x3 x4 x5 x6 x7=>(Fa bW gA eT cJ x0 x1 x2 x3 x4 x5 x6 x7).val
theorem awT:∀aR hX cA ck,D0 [jG aR,M1 hX,rO cA,BD ck] 250 aaZ (lf Ky) λb=>Fa aR hX cA ck b.1.1 b.1.2.1.1 b.1.2.1.2 b.1.b.1.1 b.1.b.1.2.1 b.1.b.1.b b.1.b.2 b.2:=λ_ _ _ _ b=>by kernel_rfl
theorem awU [aA]:SC (aa2 nm):=s0 (.c kO (.c X0 (.c wH (.c F3 (.nil _))))) (awT bW gA eT cJ)
def UH:=qa (pr (cu aQ (c lk (c Cz FA))) bL)
def Gk:=qe (res (pr (sf (c afJ (c akH (cl (ra (cu asr (cu aP (cu aP (cu aP (cu aP (cu aP (cu aP (c gi (c gi (cl gi aQt))))))))))) nil)))) (pl m4 nil)))
abbrev UI:=Gk.B
abbrev UJ:=NI->NI->NI->Int->Int->Int->Bool->Option UI
def UK (g:UJ):Ct:=(251,FC UH (lf Gk) (λb=>g b.1.1 b.1.2.1.1 b.1.2.1.2 b.1.b.1 b.1.b.2.1 b.1.c b.2))
def A' (aR:fM)(hX:M0)(cA:mU)(ck:jw)(x0:Nat->Int)(x1:Nat->Int)(x2:Nat->Int)(x3:Int)(x4:Int)(x5:Int)(x6:Bool):Pg UI:=opt (aR x0 x6) λd=>opt (hX d.1 7 2 d.2 (cr x3 [x4,x3]) true) λd=>let n3:=d.1.2;let n2:=d.2.1;let n1:=d.2.2;opt cA λak=>ae (wr 3 n3) (opt (ck x1 x2 7 2 n2 (cr x5 [x5,x5]) true) λaJ=>ret (((d.1,n2,n3,n1).1.1,aJ.1,n1 0,n1 1,n1 2),aJ.2)) (ae (wr 2 n3) (opt (ck x1 x2 7 2 n2 (cr x5 [x5,x5]) true) λaJ=>ret (((d.1,n2,n3,n1).1.1,aJ.1,n1 0,n1 1,0),aJ.2)) (ae (wr 1 n3) (opt (ck x1 x2 7 2 n2 (cr x5 [x5,x5]) true) λaJ=>ret (((d.1,n2,n3,n1).1.1,aJ.1,n1 0,0,0),aJ.2)) (opt (ck x1 x2 7 2 n2 (cr x5 [x5,x5]) true) λaJ=>ret (((d.1,n2,n3,n1).1.1,aJ.1,0,0,0),aJ.2))))
def kX:=λx0 x1 x2 x3 x4 x5 x6=>(A' bW gA eT cJ x0 x1 x2 x3 x4 x5 x6).val
theorem apC:∀aR hX cA ck,D0 [jG aR,M1 hX,rO cA,BD ck] 251 UH (lf Gk) λb=>A' aR hX cA ck b.1.1 b.1.2.1.1 b.1.2.1.2 b.1.b.1 b.1.b.2.1 b.1.c b.2:=λ_ _ _ _ b=>by kernel_rfl
theorem apD [aA]:SC (UK kX):=s0 (.c kO (.c X0 (.c wH (.c F3 (.nil _))))) (apC bW gA eT cJ)
def ajE:=qa (pr (cu aQ (c lk aKn)) bL)
def Py:=qe (res (pr (sf (c afJ (c akH (cl (ra (cu asr (cu aP (cu aP (cu aP (cu aP (cu aP (cu aP (cu aP (cu aP (cl gi (cu (gc aQl) nil)))))))))))) nil)))) (pl m4 nil)))
abbrev ajF:=Py.B
abbrev ajG:=NI->NI->NI->Int->Int->Bool->Option ajF
def ajH (g:ajG):Ct:=(252,FC ajE (lf Py) (λb=>g b.1.1 b.1.2.1.1 b.1.2.1.2 b.1.b.1 b.1.b.2 b.2))
def JS (aR:fM)(hX:M0)(cA:mU)(ck:jw)(x0:Nat->Int)(x1:Nat->Int)(x2:Nat->Int)(x3:Int)(x4:Int)(x5:Bool):Pg ajF:=opt (aR x0 x5) λd=>opt (hX d.1 9 1 d.2 (λj=>bif z9 j 0 then x3 else x3) true) λd=>opt cA λak=>ae (wr 1 d.1.2) (opt (ck x1 x2 9 1 d.2.1 (λj=>bif z9 j 0 then x4 else x4) true) λaJ=>ret (((d.1,d.2.1,d.1.2,d.2.2).1.1,aJ.1,d.2.2 0),aJ.2)) (opt (ck x1 x2 9 1 d.2.1 (λj=>bif z9 j 0 then x4 else x4) true) λaJ=>ret (((d.1,d.2.1,d.1.2,d.2.2).1.1,aJ.1,0),aJ.2))
def qL:=λx0 x1 x2 x3 x4 x5=>(JS bW gA eT cJ x0 x1 x2 x3 x4 x5).val
theorem aC1:∀aR hX cA ck,D0 [jG aR,M1 hX,rO cA,BD ck] 252 ajE (lf Py) λb=>JS aR hX cA ck b.1.1 b.1.2.1.1 b.1.2.1.2 b.1.b.1 b.1.b.2 b.2:=λ_ _ _ _ b=>by kernel_rfl
theorem aC2 [aA]:SC (ajH qL):=s0 (.c kO (.c X0 (.c wH (.c F3 (.nil _))))) (aC1 bW gA eT cJ)
def Gl:=qa (pl (cl (aa rn) nil) nil)
def ahU:=qe Cy
abbrev anT:=ahU.B
abbrev RL:=Gl.B->Option anT
def anU (g:RL):Ct:=(13,FC Gl (lf ahU) g)
def me:=qs (st (pr (us 1 (cu aM5 (cu lM (us 3 (xs 1 (cu aXk (us 4 (cu aXD (us 4 (cu aXE (us 4 (cu lM (us 4 (c ab (us 3 (cl ai (us 26 aYB))))))))))))))))) (pl (cl (so (c gi (c gi (c gi (c gi (c gi (c gi (c gi (c gi (c gi (c gi (c gi (c gi (c gi (c gi (c gi (c gi aQY))))))))))))))))) nil) nil)))
def ajI:=qs (st (pu (us 2 (cu lM (us 119 nil))) (pu nil nil)))
def ajJ:=qs (st (pr (us 1 (cu aM5 (cu lM (us 3 (xs 1 (cu aXk (us 4 (cu aXD (us 4 (cu aXE (us 4 (cu lM (us 4 (c ab (us 3 (c ai (cl ab (us 25 aYB)))))))))))))))))) (pl (cl (so (c gi (c gi (c gi (c gi (c gi (c gi (c gi (c gi (c gi (c gi (c gi (c gi (c gi (c gi (c gi (c gi aQY))))))))))))))))) nil) nil)))
abbrev Ew:=ajI.B⊕ajJ.B
def arN {ρ:Type}(x:Ew)(K:AX->St->Option ρ):Option ρ:=(v4 (λd=>K .ret (ajI.em d)) (λd=>K (.ex 2) (ajJ.em d))) x
def QW (fT:BS)(d:me.B):PL me Ew:=let n2:=d.1.2;let n1:=d.2.2.2.2.2.2.2.2.2.2.2.2.2.2.2.2.2;let y0:=z4 n2;let y1:=aZ n2 24;let y2:=wr (0+y0*1+1) 24;let y3:=decide (n2<24);ae y3 (ae y1 (ae y2 (opt (fT (n1.1 y0) 0 72057594037927936) λak=>ae (!ak) (ret (ww (w7 ()))) (ae y1 (ae y2 (opt (fT (n1.2.1 y0) 1 72057594037927936) λaJ=>ae (!aJ) (ret (ww (w7 ()))) (ret (w7 ((d.1.1,wI (n2+1)),d.2)))) no) no)) no) no) (ret (ww (ww ((d.1.1,n2,y3),d.2))))
def I9:=bG (QW nY) 2000
def aa3 (fT:BS)(aL0:ahR)(p6:LT me Ew)(x:Gl.B):Pg anT:=let n2:=x.2.2.2.2;let n8:=n2.2.1;let n4:=n8.2.2;let n3:=n2.1.2.2;let n7:=n3.2.2;ae (decide (n2.1.1<1)) (ret false) (ae (decide (n2.1.1>1000)) (ret false) (opt (fT n8.1 1 1099511627776) λd=>ae (!d) (ret false) (ae (decide (n2.1.2.1<1)) (ret false) (ae (decide (n2.1.2.1>1000)) (ret false) (opt (fT n8.2.1 1 1099511627776) λd=>ae (!d) (ret false) (ae (decide (n3.1<1)) (ret false) (ae (decide (n3.1>1000)) (ret false) (opt (fT n4.1 1 1099511627776) λd=>ae (!d) (ret false) (ae (decide (n3.2.1<1)) (ret false) (ae (decide (n3.2.1>1000)) (ret false) (opt (fT n4.2.1 1 1099511627776) λd=>ae (!d) (ret false) (ae (decide (n7.1<1)) (ret false) (ae (decide (n7.1>1000)) (ret false) (opt (fT n4.2.2.1 1 1099511627776) λd=>ae (!d) (ret false) (ae (decide (n7.2<1)) (ret false) (ae (decide (n7.2>1000)) (ret false) (opt (fT n4.2.2.2 1 1099511627776) λd=>ae (!d) (ret false) (opt (p6 ((d,0),x.1,x.2.1,x.2.2.1,x.2.2.2.1,n2.1.1,n2.1.2.1,n3.1,n3.2.1,n7.1,n7.2,n8.1,n8.2.1,n4.1,n4.2.1,n4.2.2.1,n4.2.2.2,n2.2.2)) λx=>sum x (λd=>ret false) λd=>let n6:=d.2.2.2;let n1:=n6.2.2.2.2.2.2.2.2.2.2.2.2.2.2.2.2;let n5:=n1.2.2.2.2;opt (aL0 n5.2.1 n5.2.2.1 n5.2.2.2) λak=>sm ak (λd=>ret false) (λaJ=>opt (fT d.2.1 1000 100000) λbB=>ae bB (opt (fT d.2.2.1 0 300000) λcK=>ae cK (ae (decide (n6.1>=1)) (ae (decide (n6.1<=64)) (ae (decide (n6.2.1>=0)) (ae (decide (n6.2.1<=100)) (opt (fT n1.1 0 1099511627776) λeU=>ae eU (opt (fT n1.2.1 1 72057594037927936) λde=>ae de (ae (decide (n1.2.2.1>=0)) (ae (decide (n1.2.2.1<=3)) (opt (fT n1.2.2.2.1 1 1073741824) λlG=>ae lG (ae (decide (n5.1>=1)) (ret (decide (n5.1<=64))) (ret false)) (ret false)) (ret false)) (ret false)) (ret false)) (ret false)) (ret false)) (ret false)) (ret false)) (ret false)) (ret false)) (ret false))))))))))))))))))))
def pw:=λx=>(aa3 nY zQ I9 x).val
abbrev aa4:=BS×ahR×(LT me Ew)
def anV (p:aa4):KK:=⟨[Yw p.1,awR p.2.1],⟨[⟨2,(0::3::4::rg 8 4 (13::14::15::21::rg 29 8 (38::39::40::rg 48 10 [61,62,66,67,71,72,76,77,81,82,86,87,91,92,96,97,101,102,106,107,111,112,116,117,121]))),[]⟩,⟨8,(0::3::4::5::rg 8 4 (rg 13 4 (rg 18 4 (rg 23 4 (28::29::30::rg 32 5 (38::39::40::rg 48 10 (61::62::66::67::71::72::76::77::81::82::86::87::91::92::96::97::101::102::106::107::111::112::116::117::121::37::rg 41 7 []))))))),[]⟩],[fU 8 0 me arN p.b],[],[],(some ⟨0,(0::1::rg 3 119 []),[]⟩)⟩,0,13⟩
theorem aGG (p:aa4):LI (anV p) 8 me arN (QW p.1):=λ_ d c K=>by kernel_rfl
theorem aOT (p:aa4):D2 (anV p) Gl (lf ahU) λb=>aa3 p.1 p.2.1 p.b b:=λb=>by kernel_rfl
abbrev anW:aa4:=(nY,zQ,I9)
theorem aBD [aA]:SC (anU pw):=sc (kS (k:=anV anW) (.c anK (.c aLZ (.nil _))) [2,8] [] ⟨kN,⟨kL (aGG anW),trivial⟩⟩ trivial (aOT anW))
def ae1:=qa (dp (cu aQ (c ai (c Ix axm))) λa=>(c xY (cl (cl (gs a.2.1.1 oC) nil) nil)))
def Nj:=qe aKj
abbrev ae2:=Nj.B
abbrev ae3:=Int->Nat->Nat->Bool->NI->Bool->Bool->Option ae2
def ae4 (g:ae3):Ct:=(73,vX 3 [.i .i64] (vX 2 [.i .i64] (FC ae1 (lf Nj) (λb=>g b.1.1 b.1.2.1.1 b.1.b.1 b.2.1 b.b b.1.2.1.2 b.1.b.2))))
def nc:=qs (st (dp (cu aQ (c ai (c Ix (c Ix (us 5 (cu azy aXu)))))) λa=>(pl (c bD (c (so (cl (gs a.2.1.1 oC) nil)) abA)) bK)))
def atH:=qs (st (pr (cu aQ (c ai (c Ix (c Ix (us 5 (cu azy aXz)))))) (pl (c bD (c HS abA)) bK)))
abbrev C':=(aWQ×Bool×NI×Int×Int)
def YA {ρ:Type}(x:C')(K:AX->St->Option ρ):Option ρ:=(λd=>K (.ex 0) (atH.em (d.1,d.2.1,(d.1.2.1.1,d.b.1),d.b.2))) x
def Da (ay:bV)(cT:o6)(zn:th)(d:nc.B):PL nc C':=let y0:=decide (d.1.2.2.2.2<d.1.2.2.2.1);ae y0 (ae (aZ d.1.2.2.2.2 d.1.2.1.1) (opt (ay (d.2.2.1 (z4 d.1.2.2.2.2)) d.2.1) λak=>ae (aZ d.1.2.2.2.2 d.1.2.2.1.1) (opt (ay (d.2.2.1 (z4 d.1.2.2.2.2)) ak.2) λaJ=>opt (cT ak.1 aJ.1) λbB=>opt (zn 2 (λj=>bif z9 j 1 then bB.1 else bif z9 j 0 then d.2.2.2.1 else d.2.2.2.1) (λj=>bif z9 j 1 then bB.2 else bif z9 j 0 then d.2.2.2.2 else d.2.2.2.2) true) λcK=>ret (w7 ((d.1.1,d.1.2.1,d.1.2.2.1,d.1.2.2.2.1,wI (d.1.2.2.2.2+1)),aJ.2,d.2.2.1,cK.1))) no) no) (ret (ww ((d.1.1,d.1.2.1,d.1.2.2.1,d.1.2.2.2.1,d.1.2.2.2.2,y0),d.2)))
def Db:=bG (Da aO fP kU) 2000
def Pz (jm:yI)(dX:LT nc C')(x0:Int)(x1:Nat)(x2:Nat)(x3:Bool)(x4:Nat->Int)(w0:Bool)(w1:Bool):Pg ae2:=let y0:=if ws x2<ws x1 then ws x2 else ws x1;ae (decide (x0<0)) (opt (jm 0 0 x0 x3) λd=>ret d) (ae (decide (x0>120)) (opt (jm 0 0 x0 x3) λd=>ret d) (ae (z9 x1 x1) (opt (dX ((x0,(x1,w0),(x2,w1),if 100<y0 then 100 else y0,0),x3,x4,0,0)) λd=>opt (jm d.2.2.2.1 d.2.2.2.2 d.1.1 d.2.1) λd=>ret d) no))
def rR:=λx0 x1 x2 x3 x4 w0 w1=>(Pz mF Db x0 x1 x2 x3 x4 w0 w1).val
abbrev Hk:=yI×bV×o6×th×(LT nc C')
def PA (p:Hk):KK:=⟨[Jo p.1,dy p.2.1,ze p.b.1,K5 p.b.2.1],⟨[⟨5,(rg 4 5 (rg 10 15 (rg 27 26 []))),[]⟩],[fU 5 2 nc YA p.c],[0],[],(some ⟨0,(rg 0 8 (rg 9 44 [])),[]⟩)⟩,2,73⟩
theorem apE (p:Hk):LI (PA p) 5 nc YA (Da p.2.1 p.b.1 p.b.2.1):=λ_ d c K=>by kernel_rfl
theorem ay0 (p:Hk):D2 (PA p) ae1 (lf Nj) λb=>Pz p.1 p.c b.1.1 b.1.2.1.1 b.1.b.1 b.2.1 b.b b.1.2.1.2 b.1.b.2:=λb=>by kernel_rfl
abbrev PC:Hk:=(mF,aO,fP,kU,Db)
theorem ay1 [aA]:SC (ae4 rR):=sc (Sound.nil 3 [.i .i64]<|Sound.nil 2 [.i .i64]<|kS (k:=PA PC) (.c Tb (.c dF (.c Cc (.c Rk (.nil _))))) [5] [] ⟨kL (apE PC),trivial⟩ trivial (ay0 PC))
def YB:=qa (pr (cu aQ (c lk FA)) bL)
def H':=qe aEc
abbrev YC:=H'.B
abbrev YD:=NI->Int->Int->Int->Bool->Option YC
def YE (g:YD):Ct:=(234,FC YB (lf H') (λb=>g b.1.1 b.1.2.1 b.1.b.1 b.1.b.2 b.2))
def Kz (bO:mG)(Hl:ae3)(sJ:ach)(aY:dg)(dq:zm)(aE:cN)(x0:Nat->Int)(x1:Int)(x2:Int)(x3:Int)(x4:Bool):Pg YC:=opt (bO x0 16) λd=>opt (Hl 30 2 2 x4 (cr d.1 [d.2.1,d.1]) false false) λak=>ae (decide (ak.1<1048576)) (ret (((λx=>0,0,0,0),4),ak.2)) (opt (sJ d.2.1 d.1 ak.2) λaJ=>opt (aY x1 aJ.1 aJ.2) λbB=>opt (dq bB.1) λcK=>opt (aE d.2.1 ak.1 30 bB.2) λeU=>opt (aE d.1 ak.1 30 eU.2) λd=>ret (((λj=>bif z9 j 17 then d.1 else bif z9 j 16 then wI (0-eU.1) else 0,cK,x2,x3),0),d.2))
def rS:=λx0 x1 x2 x3 x4=>(Kz fh rR v7 bS lr bh x0 x1 x2 x3 x4).val
theorem atI:∀bO Hl sJ aY dq aE,D0 [sE bO,ae4 Hl,aci sJ,iy aY,CM dq,gL aE] 234 YB (lf H') λb=>Kz bO Hl sJ aY dq aE b.1.1 b.1.2.1 b.1.b.1 b.1.b.2 b.2:=λ_ _ _ _ _ _ b=>by kernel_rfl
theorem atJ [aA]:SC (YE rS):=s0 (.c v8 (.c ay1 (.c aqK (.c jD (.c GS (.c ix (.nil _))))))) (atI fh rR v7 bS lr bh)
def iI:=qa (pr (cl aQZ (cu aQ (cu (app 1 10) nil))) (cu aQi (c wP bL)))
def uw:=qe (res (pr (aa axw) (pl aQx nil)))
abbrev Fb:=uw.B
abbrev pG:=iI.B->Option Fb
def vo (g:pG):Ct:=(180,FC iI (lf uw) g)
def vp (ec:CR)(iT:Cf)(fw:zu)(bE:ja)(x:iI.B):Pg Fb:=let n2:=x.2.1;let n6:=n2.1.2;let n1:=x.1.2;let n5:=n1.1.2;let n4:=n1.2.2;let n3:=n1.2.1;opt (ec 2 x.2.2 (cr n3.1 [n2.2.1.1,n3.1]) (cr n3.2.1 [n2.2.1.2.1,n3.2.1]) (cr n3.2.2 [n2.2.1.2.2,n3.2.2]) true) λd=>opt (ec 2 d.2 (cr n4.1 [n2.2.2.1,n4.1]) (cr n4.2.1 [n2.2.2.2.1,n4.2.1]) (cr n4.2.2 [n2.2.2.2.2,n4.2.2]) true) λak=>opt iT λaJ=>ae (!(n2.1.1==1073741824&&(n6.1==0&&(n6.2.1==0&&(n6.2.2==0&&true))))) (opt (fw n2.1.1 n6.1 n6.2.1 n6.2.2 n1.1.1 n5.1 n5.2.1 n5.2.2 ak.2) λbB=>opt (bE bB.1.1 bB.1.2.1 bB.1.2.2.1 bB.1.2.2.2 bB.2) λcK=>ret ((x.1.1,cK.1.1,cK.1.2.1,cK.1.2.2.1,cK.1.2.2.2,d.1.1,d.1.2.1,d.1.2.2,ak.1),cK.2)) (ret ((x.1.1,n1.1.1,n5.1,n5.2.1,n5.2.2,d.1.1,d.1.2.1,d.1.2.2,ak.1),ak.2))
def fV:=λx=>(vp kc o8 kV cQ x).val
theorem VL:∀ec iT fw bE,D0 [Kn ec,K8 iT,FZ fw,oq bE] 180 iI (lf uw) λb=>vp ec iT fw bE b:=λ_ _ _ _ b=>by kernel_rfl
theorem Fc [aA]:SC (vo fV):=s0 (.c OV (.c Rr (.c La (.c qf (.nil _))))) (VL kc o8 kV cQ)
def gH:=qa (pr (cl aQZ (cu aQ (cu aM3 (cu (app 2 1) (cu aky (cu (app 4 4) nil)))))) (cu (cu (gp 5 1) nil) (c kv (cu (cu (gp 6 3) nil) (c kv (c afK (c xY (cd aKe λb6=>(cl (cl (gs b6.b jJ) nil) nil)))))))))
def rT:=qe (res (pr (aa axw) (pl (cu fN (cu fN (cu fN (cu fN (cu fN (cl aus aDV)))))) nil)))
abbrev Ck:=rT.B
abbrev nq:=gH.B->Option Ck
def tt (g:nq):Ct:=(183,FC gH (lf rT) g)
def tu (jc:Vj)(ec:CR)(fw:zu)(bE:ja)(x:gH.B):Pg Ck:=let n3:=x.1.2.1;let n2:=x.2.2;let n1:=x.1.2.2;opt (jc x.2.1.1 x.2.1.2.1 x.2.1.2.2 n2.2.2.2.1.2.1 n2.2.2.1) λd=>opt (ec 2 d.2 (cr n1.1.1 [d.1.1,n1.1.1]) (cr n1.1.2.1 [d.1.2.1,n1.1.2.1]) (cr n1.1.2.2 [d.1.2.2,n1.1.2.2]) true) λd=>opt (jc n2.1.1 n2.1.2.1 n2.1.2.2 n2.2.2.2.1.2.1 d.2) λak=>opt (ec 2 ak.2 (cr n1.2.1 [ak.1.1,n1.2.1]) (cr n1.2.2.1 [ak.1.2.1,n1.2.2.1]) (cr n1.2.2.2 [ak.1.2.2,n1.2.2.2]) true) λaJ=>opt (fw n2.2.1.1 n2.2.1.2.1 n2.2.1.2.2.1 n2.2.1.2.2.2 n3.1 n3.2.1 n3.2.2.1 n3.2.2.2 aJ.2) λbB=>opt (bE bB.1.1 bB.1.2.1 bB.1.2.2.1 bB.1.2.2.2 bB.2) λcK=>ret ((x.1.1,cK.1.1,cK.1.2.1,cK.1.2.2.1,cK.1.2.2.2,d.1.1,d.1.2.1,d.1.2.2,aJ.1),cK.2)
def fy:=λx=>(tu sD kc kV cQ x).val
theorem RM:∀jc ec fw bE,D0 [Vk jc,Kn ec,FZ fw,oq bE] 183 gH (lf rT) λb=>tu jc ec fw bE b:=λ_ _ _ _ b=>by kernel_rfl
theorem Cl [aA]:SC (tt fy):=s0 (.c agR (.c OV (.c La (.c qf (.nil _))))) (RM sD kc kV cQ)
def iJ:=qa (pu (cu KW (cu Q' (cu aQ2 nil))) (cd aKe λb0=>(c xY (cu asq (c kv (cu aW7 (c kv (c afK (cl (cl (gs b0.b jJ) nil) nil)))))))))
def ux:=qe (res (pu Q8 (pl (cu fN (c aus (cu fN (cu fN (cu fN aYq))))) nil)))
abbrev vr:=ux.B
abbrev vt:=iJ.B->Option vr
def Fe (g:vt):Ct:=(179,FC iJ (lf ux) g)
def cZ:=qs (st (dp (cu KW (cu Q' (cu aQ2 (us 8 (c (ac (A4 7 11)) aQp))))) λv=>(pl (c (so aKe) (c bD (cu aby (c Ao (cu axo (c Ao (c yc (cl (so (cl (gs v.1 jJ) nil)) nil)))))))) (cu (nat 7) axj))))
def RN:=qs (st (pr (cu KW (cu Q' (cu aQ2 (us 8 (c (ac (A4 7 11)) aQu))))) (pl (c (so aKe) (c bD (cu aby (c Ao (cu axo (c Ao (c yc HU))))))) (cu (nat 7) axj))))
abbrev jM:=((Nat×Int×Int×Bool)×uG×Bool×lJ×lJ×aIv×NI×NI×NI×NI×NI×NI×NI×NI×NI×NI×NI)
def Cm {ρ:Type}(x:jM)(K:AX->St->Option ρ):Option ρ:=(λd=>K (.ex 0) (RN.em (d.1,d.2.1,d.b.1,d.b.2.1,d.c.1,d.c.2.1,d.1.1,d.c.b))) x
def tv (wo:Eu)(kg:vm)(RO:nq)(d:cZ.B):PL cZ jM:=let bo:=d.2.1;let n6:=d.1.2;let n5:=d.2.2.2;let n1:=n5.2.2.2;let n8:=n1.2.2;let n2:=n8.2.2.2;let n7:=n2.2.2.2;let y0:=z4 n6.2;let y1:=decide (n6.2<n6.1);ae y1 (ae (aZ n6.2 d.1.1) (ae (z9 bo.2.2 bo.2.2) (opt (RO ((n1.1 y0,(n1.2.1 y0,n8.1 y0,n8.2.1 y0,n8.2.2.1 y0),(n2.1 y0,n2.2.1 y0,n2.2.2.1 y0),n7.1 y0,n7.2.1 y0,n7.2.2 y0),n5.1,n5.2.1,n5.2.2.1,d.2.2.1,bo,n1)) λak=>let n3:=ak.1.2.2.2.2;let n9:=n3.2.2.2;opt (wo (λx=>0) ak.1.1 ak.1.2.1 ak.1.2.2.1 ak.1.2.2.2.1 n3.1 n3.2.1 n3.2.2.1 n9.1 n9.2.1 n9.2.2.1 n9.2.2.2) λaJ=>opt (kg aJ (n1.1 y0) ak.2) λbB=>let n4:=bB.1.2.2.2.2;let bk:=n4.2.2.2;ae (aZ n6.2 bo.2.2) (ae (true&&wr (0+y0*11+11) (d.1.1*11+0)) (ret (w7 ((d.1.1,n6.1,wI (n6.2+1)),bo,bB.2,n5.1,n5.2.1,n5.2.2.1,λj=>bif z9 j y0 then bB.1.1 else n1.1 j,λj=>bif z9 j y0 then bB.1.2.1 else n1.2.1 j,λj=>bif z9 j y0 then bB.1.2.2.1 else n8.1 j,λj=>bif z9 j y0 then bB.1.2.2.2.1 else n8.2.1 j,λj=>bif z9 j y0 then n4.1 else n8.2.2.1 j,λj=>bif z9 j y0 then n4.2.1 else n2.1 j,λj=>bif z9 j y0 then n4.2.2.1 else n2.2.1 j,λj=>bif z9 j y0 then bk.1 else n2.2.2.1 j,λj=>bif z9 j y0 then bk.2.1 else n7.1 j,λj=>bif z9 j y0 then bk.2.2.1 else n7.2.1 j,λj=>bif z9 j y0 then bk.2.2.2 else n7.2.2 j))) no) no) no) no) (ret (ww ((d.1.1,n6.1,n6.2,y1),d.2)))
def ns:=bG (tv sM lz fy) 2000
def vu (dX:LT cZ jM)(x:iJ.B):Pg vr:=ae (z9 x.1.2.2 x.1.2.2) (opt (dX ((x.1.2.2,ws x.1.2.2,0),x)) λd=>ret (d.2.2.1,d.1.1,d.2.2.2.2.2.2)) no
def iK:=λx=>(vu ns x).val
abbrev pH:=Eu×vm×nq×(LT cZ jM)
def vv (p:pH):KK:=⟨[QP p.1,Hi p.2.1,tt p.b.1],⟨[⟨1,(rg 3 8 (rg 14 20 [])),[]⟩],[fU 1 8 cZ Cm p.b.2],[7,1],[],(some ⟨0,(rg 0 34 []),[]⟩)⟩,8,179⟩
theorem PD (p:pH):LI (vv p) 1 cZ Cm (tv p.1 p.2.1 p.b.1):=λ_ d c K=>by kernel_rfl
theorem VM (p:pH):D2 (vv p) iJ (lf ux) λb=>vu p.b.2 b:=λb=>by kernel_rfl
abbrev vx:pH:=(sM,lz,fy,ns)
theorem VN [aA]:SC (Fe iK):=sc (kS (k:=vv vx) (.c adp (.c Ng (.c Cl (.nil _)))) [1] [] ⟨kL (PD vx),trivial⟩ trivial (VM vx))
def iL:=qa (pu (cu KW (cu Q' (cu aQJ nil))) (cd aQy λb0=>(c xY (cu asq (c wP (cl (cl (gs b0.b jJ) nil) nil))))))
def uy:=qe (res (pu Q8 (pl (cu fN (c aus aYq)) nil)))
abbrev vy:=uy.B
abbrev vz:=iL.B->Option vy
def Ff (g:vz):Ct:=(179,FC iL (lf uy) g)
def c7:=qs (st (dp (cu KW (cu Q' (cu aQJ (us 8 (c (ac (A4 4 11)) aQp))))) λv=>(pl (c (so aQy) (c bD (cu aby (c (so wP) (cl (so (cl (gs v.1 jJ) nil)) nil))))) (cu rq6 axj))))
def RP:=qs (st (pr (cu KW (cu Q' (cu aQJ (us 8 (c (ac (A4 4 11)) aQu))))) (pl (c (so aQy) (c bD (cu aby (c (so wP) HU)))) (cu rq6 axj))))
abbrev jN:=((Nat×Int×Int×Bool)×uG×Bool×Fv×NI×NI×NI×NI×NI×NI×NI×NI×NI×NI×NI)
def Cn {ρ:Type}(x:jN)(K:AX->St->Option ρ):Option ρ:=(λd=>K (.ex 0) (RP.em (d.1,d.2.1,d.b.1,d.b.2.1,d.1.1,d.c))) x
def tw (wo:Eu)(kg:vm)(VO:pG)(d:c7.B):PL c7 jN:=let n6:=d.1.2;let n4:=d.2.2.2.2;let n1:=n4.2.2.2;let n9:=n1.2.2;let n5:=n9.2.2;let y0:=z4 n6.2;let y1:=decide (n6.2<n6.1);ae y1 (ae (aZ n6.2 d.1.1) (opt (VO ((n4.1 y0,(n4.2.1 y0,n4.2.2.1 y0,n1.1 y0,n1.2.1 y0),(n9.1 y0,n9.2.1 y0,n5.1 y0),n5.2.1 y0,n5.2.2.1 y0,n5.2.2.2 y0),d.2.2.2.1,d.2.2.1)) λak=>let n2:=ak.1.2.2.2.2;let n7:=n2.2.2.2;opt (wo (λx=>0) ak.1.1 ak.1.2.1 ak.1.2.2.1 ak.1.2.2.2.1 n2.1 n2.2.1 n2.2.2.1 n7.1 n7.2.1 n7.2.2.1 n7.2.2.2) λaJ=>opt (kg aJ (n4.1 y0) ak.2) λbB=>let n3:=bB.1.2.2.2.2;let n8:=n3.2.2.2;ae (aZ n6.2 d.2.1.2.2) (ae (true&&wr (0+y0*11+11) (d.1.1*11+0)) (ret (w7 ((d.1.1,n6.1,wI (n6.2+1)),d.2.1,bB.2,d.2.2.2.1,λj=>bif z9 j y0 then bB.1.1 else n4.1 j,λj=>bif z9 j y0 then bB.1.2.1 else n4.2.1 j,λj=>bif z9 j y0 then bB.1.2.2.1 else n4.2.2.1 j,λj=>bif z9 j y0 then bB.1.2.2.2.1 else n1.1 j,λj=>bif z9 j y0 then n3.1 else n1.2.1 j,λj=>bif z9 j y0 then n3.2.1 else n9.1 j,λj=>bif z9 j y0 then n3.2.2.1 else n9.2.1 j,λj=>bif z9 j y0 then n8.1 else n5.1 j,λj=>bif z9 j y0 then n8.2.1 else n5.2.1 j,λj=>bif z9 j y0 then n8.2.2.1 else n5.2.2.1 j,λj=>bif z9 j y0 then n8.2.2.2 else n5.2.2.2 j))) no) no) no) (ret (ww ((d.1.1,n6.1,n6.2,y1),d.2)))
def nu:=bG (tw sM lz fV) 2000
def vA (dX:LT c7 jN)(x:iL.B):Pg vy:=ae (z9 x.1.2.2 x.1.2.2) (opt (dX ((x.1.2.2,ws x.1.2.2,0),x)) λd=>ret (d.2.2.1,d.1.1,d.2.2.2.2)) no
def iM:=λx=>(vA nu x).val
abbrev pI:=Eu×vm×pG×(LT c7 jN)
def vC (p:pI):KK:=⟨[QP p.1,Hi p.2.1,vo p.b.1],⟨[⟨1,(rg 3 8 (rg 14 20 [])),[]⟩],[fU 1 5 c7 Cn p.b.2],[4,1],[],(some ⟨0,(rg 0 34 []),[]⟩)⟩,5,179⟩
theorem PE (p:pI):LI (vC p) 1 c7 Cn (tw p.1 p.2.1 p.b.1):=λ_ d c K=>by kernel_rfl
theorem VP (p:pI):D2 (vC p) iL (lf uy) λb=>vA p.b.2 b:=λb=>by kernel_rfl
abbrev vD:pI:=(sM,lz,fV,nu)
theorem VQ [aA]:SC (Ff iM):=sc (kS (k:=vC vD) (.c adp (.c Ng (.c Fc (.nil _)))) [1] [] ⟨kL (PE vD),trivial⟩ trivial (VP vD))
def jZ:=qa (dp (cu KW (cu Q' (cl aP7 nil))) λv=>(cd aKd λb0=>(c xY (c (cl (gs v.1 mN) nil) (cl (cl (gs b0.b jJ) nil) nil)))))
def xw:=qe (res (pu Q8 (pl (cu fN (c aus (cu fN aQ5))) nil)))
abbrev yw:=xw.B
abbrev yx:=jZ.B->Option yw
def HE (g:yx):Ct:=(112,vX 2 [.i .i64,.i .i64,.i .i64,.i .i64,.i .i64,.i .i64,.i .i64,.i .i64,.i .i64,.i .i64] (FC jZ (lf xw) g))
def dA:=qs (st (dp (cu KW (us 3 (cu aDT (us 3 (c aP7 (c ai aQj)))))) λv=>(pl (cd (so aKd) λb0=>(c bD (c (so (cl (gs v.1.1 mN) nil)) (cl (so (cl (gs b0.b jJ) nil)) (cu aby nil))))) (cu rq7 axj))))
def VR:=qs (st (pr (cu KW (us 3 (cu aDT (us 3 (c aP7 (c ai aJ6)))))) (pl (c (so aKd) (c bD (c vd (cl akL (cu aby nil))))) (cu rq7 axj))))
abbrev lA:=(aMX×uG×Bool×aMW×NI×NI×NI×NI×NI×NI×NI×NI×NI×NI×NI)
def Fg {ρ:Type}(x:lA)(K:AX->St->Option ρ):Option ρ:=(λd=>K (.ex 0) (VR.em (d.1,d.2.1,d.b.1,(d.1.1.1,d.b.2.1),d.2.1.b,d.c))) x
def vE (VS:vz)(d:dA.B):PL dA lA:=let bk:=d.2.1;let n6:=d.1.2;let n1:=d.2.2.2;let n4:=n1.1.2.2.2.2;let n3:=n1.2.2.2.2.2;let n9:=n3.2.2.2;let y0:=z4 n6.2;let y1:=bk.2.2*11;let y2:=decide (n6.2<n6.1);ae y2 (ae (aZ n6.2 d.1.1.1) (ae (z9 bk.2.2 bk.2.2) (opt (VS (bk,d.2.2.1,((n1.1.1 y0,n1.1.2.1 y0,n1.1.2.2.1 y0,n1.1.2.2.2.1 y0),(n4.1 y0,n4.2.1 y0,n4.2.2.1 y0),n4.2.2.2.1 y0,n4.2.2.2.2.1 y0,n4.2.2.2.2.2 y0),n1.2)) λak=>let n7:=ak.2.2.2;let n5:=ak.2.1;let n2:=n7.2.2.2;let n8:=n2.2.2.2;let y0:=n5*11+0;ae (true&&z9 y0 y1&&true) (ae (true&&wr (0+y0) (y1+0)) (ret (w7 ((d.1.1,n6.1,wI (n6.2+1)),bk,ak.1,n1.1,λj=>bif true&&wl j (0+n5) then ak.2.2.1 j else n1.2.1 j,λj=>bif true&&wl j (0+n5) then n7.1 j else n1.2.2.1 j,λj=>bif true&&wl j (0+n5) then n7.2.1 j else n1.2.2.2.1 j,λj=>bif true&&wl j (0+n5) then n7.2.2.1 j else n1.2.2.2.2.1 j,λj=>bif true&&wl j (0+n5) then n2.1 j else n3.1 j,λj=>bif true&&wl j (0+n5) then n2.2.1 j else n3.2.1 j,λj=>bif true&&wl j (0+n5) then n2.2.2.1 j else n3.2.2.1 j,λj=>bif true&&wl j (0+n5) then n8.1 j else n9.1 j,λj=>bif true&&wl j (0+n5) then n8.2.1 j else n9.2.1 j,λj=>bif true&&wl j (0+n5) then n8.2.2.1 j else n9.2.2.1 j,λj=>bif true&&wl j (0+n5) then n8.2.2.2 j else n9.2.2.2 j))) no) no) no) no) (ret (ww ((d.1.1,n6.1,n6.2,y2),d.2)))
def pJ:=bG (vE iM) 2000
def yy (dX:LT dA lA)(x:jZ.B):Pg yw:=ae (z9 x.1.1 x.1.1) (ae (z9 x.2.1.2.2 x.2.1.2.2) (opt (dX ((x.1,ws x.1.1,0),x.2)) λd=>ret (d.2.2.1,d.2.1.2.2,d.2.2.2.2)) no) no
def j6:=λx=>(yy pJ x).val
abbrev qT:=pG×vz×(LT dA lA)
def yA (p:qT):KK:=⟨[vo p.1,Ff p.2.1],⟨[⟨2,(1::2::3::5::6::7::rg 11 8 []),[]⟩],[fU 2 4 dA Fg p.b],[3,1],[],(some ⟨0,(rg 0 19 []),[]⟩)⟩,4,112⟩
theorem T8 (p:qT):LI (yA p) 2 dA Fg (vE p.2.1):=λ_ d c K=>by kernel_rfl
theorem Zt (p:qT):D2 (yA p) jZ (lf xw) λb=>yy p.b b:=λb=>by kernel_rfl
abbrev yB:qT:=(fV,iM,pJ)
theorem Zu [aA]:SC (HE j6):=sc (Sound.nil 2 [.i .i64,.i .i64,.i .i64,.i .i64,.i .i64,.i .i64,.i .i64,.i .i64,.i .i64,.i .i64]<|kS (k:=yA yB) (.c Fc (.c VQ (.nil _))) [2] [] ⟨kL (T8 yB),trivial⟩ trivial (Zt yB))
def YF:=qa (pl jo nil)
def Ia:=qe Cy
abbrev YG:=Ia.B
abbrev YH:=Int->Option YG
def YI (g:YH):Ct:=(204,FC YF (lf Ia) (λb=>g b))
def KA (x0:Int):Pg YG:=ret (x0 !=x0)
def xx:=λx0=>(KA x0).val
theorem atK:D0 [] 204 YF (lf Ia) λb=>KA b:=λb=>by kernel_rfl
theorem atL [aA]:SC (YI xx):=s0 (.nil _) atK
def RQ:=qa (pl Cw nil)
def EL:=qe HO
abbrev RR:=EL.B
abbrev zR:=Int->Int->Option RR
def Gm (g:zR):Ct:=(143,FC RQ (lf EL) (λb=>g b.1 b.2))
def Gn (xy:YH)(x0:Int)(x1:Int):Pg RR:=opt (xy x0) λd=>opt (xy x1) λak=>ae d (ae ak (ret 0) (ret (-1))) (ae ak (ret 1) (ae (decide (x0<x1)) (ret (-1)) (ae (decide (x0>x1)) (ret 1) (ret 0))))
def mf:=λx0 x1=>(Gn xx x0 x1).val
theorem anX:∀xy,D0 [YI xy] 143 RQ (lf EL) λb=>Gn xy b.1 b.2:=λ_ b=>by kernel_rfl
theorem RT [aA]:SC (Gm mf):=s0 (.c atL (.nil _)) (anX xx)
def Co:=qa (dp (c J4 axm) λv=>(c (cl (gs v.1.1 oC) nil) (cl (cl (gs v.2.1 oC) nil) nil)))
def rU:=qe aXy
abbrev Cp:=rU.B
abbrev Cq:=Nat->Nat->NI->NI->Bool->Bool->Option Cp
def Cr (g:Cq):Ct:=(144,vX 1 [.i .i64] (vX 0 [.i .i64] (FC Co (lf rU) (λb=>g b.1.1.1 b.1.2.1 b.2.1 b.b b.1.1.2 b.1.b))))
def dr:=qs (st (dp (c J4 (c Ix (us 7 (c J4 (c ai aJZ))))) λv=>(pl (c (so (cl (gs v.1.1 oC) nil)) (cl (so (cl (gs v.2.1.1 oC) nil)) nil)) nil)))
def ya:=qs (st (pr (us 4 aW8) (pl (c HS abC) nil)))
def Lv:=qs (st (pr (c J4 (c Ix (us 7 (c J4 (c ai aJ8))))) (pl (c HS abC) nil)))
abbrev iQ:=ya.B⊕(((Nat×Bool)×(Nat×Bool)×(Nat×Bool)×Int×Int×Bool)×NI×NI)
def AZ {ρ:Type}(x:iQ)(K:AX->St->Option ρ):Option ρ:=(v4 (λd=>K .ret (ya.em d)) (λd=>K (.ex 0) (Lv.em (d.1,(d.1.1.1,d.2.1),d.1.2.1.1,d.b)))) x
def qP (px:zR)(d:dr.B):PL dr iQ:=let n1:=d.1.2;let n2:=n1.2.2;let y0:=z4 n2.2;let y1:=decide (n2.2<n2.1);ae y1 (ae (aZ n2.2 n1.2.1.1) (ae (decide (n2.2>=ws n1.1.1)) (ret (ww (w7 (1,(d.1.1.1,d.2.1),n1.1.1,d.2.2)))) (ae (aZ n2.2 n1.1.1) (opt (px (d.2.1 y0) (d.2.2 y0)) λak=>ae (ak !=0) (ret (ww (w7 (ak,(d.1.1.1,d.2.1),n1.1.1,d.2.2)))) (ret (w7 ((d.1.1,n1.1,n1.2.1,n2.1,wI (n2.2+1)),d.2)))) no)) no) (ret (ww (ww ((d.1.1,n1.1,n1.2.1,n2.1,n2.2,y1),d.2))))
def qQ:=bG (qP mf) 2000
def tx (dX:LT dr iQ)(x0:Nat)(x1:Nat)(x2:Nat->Int)(x3:Nat->Int)(w0:Bool)(w1:Bool):Pg Cp:=ae (z9 x0 x0) (ae (z9 x1 x1) (opt (dX (((x0,w0),(x1,w1),(x0,w0),ws x0,0),x2,x3)) λx=>sum x (λd=>ret d.1) λd=>ae (decide (ws d.1.1.1<ws d.1.2.1.1)) (ret (-1)) (ret 0)) no) no
def gI:=λx0 x1 x2 x3 w0 w1=>(tx qQ x0 x1 x2 x3 w0 w1).val
abbrev nw:=zR×(LT dr iQ)
def tz (p:nw):KK:=⟨[Gm p.1],⟨[⟨2,(rg 2 7 (rg 12 24 [])),[]⟩],[fU 2 2 dr AZ p.2],[],[],(some ⟨0,(rg 0 4 (rg 5 31 [])),[]⟩)⟩,2,144⟩
theorem Nk (p:nw):LI (tz p) 2 dr AZ (qP p.1):=λ_ d c K=>by kernel_rfl
theorem RU (p:nw):D2 (tz p) Co (lf rU) λb=>tx p.2 b.1.1.1 b.1.2.1 b.2.1 b.b b.1.1.2 b.1.b:=λb=>by kernel_rfl
abbrev tC:nw:=(mf,qQ)
theorem RW [aA]:SC (Cr gI):=sc (Sound.nil 1 [.i .i64]<|Sound.nil 0 [.i .i64]<|kS (k:=tz tC) (.c RT (.nil _)) [2] [] ⟨kL (Nk tC),trivial⟩ trivial (RU tC))
def D4:=qa (pl (c aKo Ey) nil)
def PF:=qe HO
abbrev ajK:=PF.B
abbrev JT:=D4.B->Option ajK
def T9 (g:JT):Ct:=(96,FC D4 (lf PF) g)
def T' (px:zR)(nx:Cq)(x:D4.B):Pg ajK:=let n2:=x.2.2.2.2;let n1:=x.1.2.2.2;opt (px x.1.1 x.2.1) λd=>ae (d !=0) (ret d) (opt (nx 8 8 (cr x.1.2.1 [n1.2.2.2.2.2,n1.2.2.2.2.1,n1.2.2.2.1,n1.2.2.1,n1.2.1,n1.1,x.1.2.2.1,x.1.2.1]) (cr x.2.2.1 [n2.2.2.2.2.2,n2.2.2.2.2.1,n2.2.2.2.1,n2.2.2.1,n2.2.1,n2.1,x.2.2.2.1,x.2.2.1]) false false) λd=>ret d)
def uA:=λx=>(T' mf gI x).val
theorem aC3:∀px nx,D0 [Gm px,Cr nx] 96 D4 (lf PF) λb=>T' px nx b:=λ_ _ b=>by kernel_rfl
theorem ajL [aA]:SC (T9 uA):=s0 (.c RT (.c RW (.nil _))) (aC3 mf gI)
def cq:=qa (dp (c aP8 (cl aKo (cu aQm nil))) λv=>(cl (cl (gs v.1.1 aC) nil) nil))
def eH:=qe (res (pl aQr (pu adP nil)))
abbrev eL:=eH.B
abbrev iU:=cq.B->Option eL
def iV (g:iU):Ct:=(95,vX 0 [.i .i64,.i .i64,.i .i64,.i .i64,.i .i64,.i .i64,.i .i64,.i .i64,.i .i64] (FC cq (lf eH) g))
def ba:=qs (st (dp (c aP8 (us 1 (cu aQm (us 1 (cu aIA (us 3 (c ai (c ai (cl ai (us 29 aW9)))))))))) λv=>(pl (c (so (cl (gs v.1.1 aC) nil)) aX8) nil)))
def qD:=qs (st (pr (c aP8 (us 1 (cu aQm (us 1 (cu aIA (us 3 (c ai (c ai (c ai (us 4 (c ai (c ai (cl ab (us 22 aW9)))))))))))))) (pl (c HT aX8) nil)))
abbrev cg:=(((Nat×Bool)×Int×Int×Int×Bool)×cY×Int×Int×Int×Int×Int×Int×Int×Int×Int)
def iu {ρ:Type}(x:cg)(K:AX->St->Option ρ):Option ρ:=(λd=>K (.ex 0) (qD.em ((d.1.1,d.1.2.1,d.1.b.1,d.1.b.2.1,d.1.b),(d.1.1.1,d.2.1),d.b))) x
def eA (D5:JT)(d:ba.B):PL ba cg:=let n2:=d.1.2.2;let n1:=d.2.1.2.2.2;let y0:=wI (Int.fdiv (wU (wI (n2.1+n2.2))) 2);let y1:=z4 y0;let y2:=decide (n2.1<n2.2);ae y2 (ae (aZ y0 d.1.1.1) (opt (D5 ((d.2.1.1 y1,d.2.1.2.1 y1,d.2.1.2.2.1 y1,n1.1 y1,n1.2.1 y1,n1.2.2.1 y1,n1.2.2.2.1 y1,n1.2.2.2.2.1 y1,n1.2.2.2.2.2 y1),d.2.2)) λak=>ae (decide (ak<0)) (ret (w7 ((d.1.1,d.1.2.1,wI (y0+1),n2.2),d.2))) (ret (w7 ((d.1.1,d.1.2.1,n2.1,y0),d.2)))) no) (ret (ww ((d.1.1,d.1.2.1,n2.1,n2.2,y2),d.2)))
def eB:=bG (eA uA) 2000
def eM (D5:JT)(dX:LT ba cg)(x:cq.B):Pg eL:=let y0:=ws x.1.1.1;ae (z9 x.1.1.1 x.1.1.1) (opt (dX ((x.1.1,y0,0,y0),x.2,x.1.2)) λd=>let n2:=d.1.2.2.1;let n1:=d.2.1.2.2.2;let y0:=z4 n2;ae (decide (n2<d.1.2.1)) (ae (aZ n2 d.1.1.1) (opt (D5 ((d.2.1.1 y0,d.2.1.2.1 y0,d.2.1.2.2.1 y0,n1.1 y0,n1.2.1 y0,n1.2.2.1 y0,n1.2.2.2.1 y0,n1.2.2.2.2.1 y0,n1.2.2.2.2.2 y0),d.2.2)) λak=>ret (n2,ak==0)) no) (ret (n2,false))) no
def cv:=λx=>(eM uA eB x).val
abbrev cW:=JT×(LT ba cg)
def eN (p:cW):KK:=⟨[T9 p.1],⟨[⟨3,(1::3::5::6::7::rg 11 29 [48]),[]⟩],[fU 3 1 ba iu p.2],[],[],(some ⟨0,(rg 0 6 (rg 8 41 [])),[]⟩)⟩,1,95⟩
theorem qj (p:cW):LI (eN p) 3 ba iu (eA p.1):=λ_ d c K=>by kernel_rfl
theorem qY (p:cW):D2 (eN p) cq (lf eH) λb=>eM p.1 p.2 b:=λb=>by kernel_rfl
abbrev eO:cW:=(uA,eB)
theorem qZ [aA]:SC (iV cv):=sc (Sound.nil 0 [.i .i64,.i .i64,.i .i64,.i .i64,.i .i64,.i .i64,.i .i64,.i .i64,.i .i64]<|kS (k:=eN eO) (.c ajL (.nil _)) [3] [] ⟨kL (qj eO),trivial⟩ trivial (qY eO))
def xA:=qa (pr (cu ZI Ey) (cd akI λb0=>(cl (cl (gs b0.b.1 aC) nil) nil)))
def Oc:=qe (res (pu lM (pl (cl (An akI) adP) nil)))
def akj:=qe (res (pr ab (pr (cl (An (a 5 gN (c gi (c (gc (A4 2 9)) ku)))) aM4) (cl abF nil))))
abbrev Dc:=Oc.B⊕(Bool×bY×NI×NI×NI×NI×NI×NI×NI×NI×NI)
def YJ:Dc->T:=ls (lf Oc) (λd=>lf akj (d.1,d.2.1,d.2.1.b.1,d.b))
abbrev KB:=xA.B->Option Dc
def YK (g:KB):Ct:=(58,FC xA YJ g)
def KC (cX:iU)(ia:sY)(cU:gX)(x:xA.B):Pg Dc:=let bo:=x.2.2;let n5:=x.1.2;let n4:=bo.2.2.2;let n3:=x.2.1;let n9:=n3.1.2;let n7:=n3.2.2;let n1:=n5.2.2.2;let n6:=n1.2.2;let y0:=wI (n3.1.1+1);let y1:=z9 n7.1 n7.1;ae (decide (x.1.1<=n7.2)) (ret (w7 ((y0,wI (n9.1+1),n9.2),n3.2))) (ae y1 (opt (cX (((n7.1,true),x.1),bo)) λd=>ae y1 (opt (ia n7.1 d.1 bo.1 bo.2.1 bo.2.2.1 n4.1 n4.2.1 n4.2.2.1 n4.2.2.2.1 n4.2.2.2.2.1 n4.2.2.2.2.2 (λj=>bif z9 j 0 then x.1.1 else x.1.1) (λj=>bif z9 j 0 then n5.1 else n5.1) (λj=>bif z9 j 0 then n5.2.1 else n5.2.1) (λj=>bif z9 j 0 then n5.2.2.1 else n5.2.2.1) (λj=>bif z9 j 0 then n1.1 else n1.1) (λj=>bif z9 j 0 then n1.2.1 else n1.2.1) (λj=>bif z9 j 0 then n6.1 else n6.1) (λj=>bif z9 j 0 then n6.2.1 else n6.2.1) (λj=>bif z9 j 0 then n6.2.2 else n6.2.2) 1 true true) λd=>let n8:=d.2.2;let n2:=n8.2.2.2;let bk:=n2.2.2;ae (decide (ws d.1<=n3.2.1)) (ret (ww (true,((y0,n9),n3.2.1,d.1,n7.2),d.2))) (ae (aZ 0 d.1) (ae (z9 d.1 d.1) (opt (cU d.1 0 1 d.2.1 n8.1 n8.2.1 n8.2.2.1 n2.1 n2.2.1 bk.1 bk.2.1 bk.2.2 true) λak=>ret (ww (!(d.2.1 0==x.1.1&&(n8.1 0==n5.1&&(n8.2.1 0==n5.2.1&&(n8.2.2.1 0==n5.2.2.1&&(n2.1 0==n1.1&&(n2.2.1 0==n1.2.1&&(bk.1 0==n6.1&&(bk.2.1 0==n6.2.1&&(bk.2.2 0==n6.2.2&&true)))))))&&true)),((y0,n9.1,wI (n9.2.1+1),n9.2.2),n3.2.1,ak.1,n7.2),ak.2))) no) no)) no) no)
def xB:=λx=>(KC cv fq cS x).val
theorem atM:∀cX D5 ia cU,D0 [iV cX,T9 D5,sZ ia,lR cU] 58 xA YJ λb=>KC cX ia cU b:=λ_ _ _ _ b=>by kernel_rfl
theorem atN [aA]:SC (YK xB):=s0 (.c qZ (.c ajL (.c FN (.c tf (.nil _))))) (atM cv uA fq cS)
def xC:=qa (pr (cu ZI jo) (cd akI λb0=>(cl (cl (gs b0.b.1 aC) nil) nil)))
def apF:=qe (res (pr (ac (A4 2 9)) (pr (cl (An (a 5 gN (c gi (c (gc (A4 3 9)) ku)))) aM4) (c abF (cl abF nil)))))
abbrev Dd:=(Nat×bY×cY×NI×NI×NI×NI×NI×NI×NI×NI×NI)
def YL:Dd->T:=λd=>lf apF (d.1,d.2.1,(d.1,d.b.1),d.2.1.b.1,d.b.2)
abbrev KD:=xC.B->Option Dd
def YM (g:KD):Ct:=(108,FC xC YL g)
def iW:=qs (st (pr (cu ZI (c ai (us 3 (cl ai (us 58 nil))))) (pl (cd (so akI) λb0=>(cl (so (cl (gs b0.b.1 aC) nil)) nil)) nil)))
def ahV:=qs (st (pr (cu ZI (c ai (us 3 (c ai (us 1 (c ai (cu ZI (cu ZI (cu aQC (c aP9 (c ai (c ab (cu HP (cu ZI (cu ZI (cu aQC (c aP9 (c ai (c (ac (Ly (pu DG (pl aXx eI)))) (c (ac (Ly (pu DG (pl aXx DG)))) (c ai (c ai (c ab aW6))))))))))))))))))))))) (pl (c (so akI) (cl HT nil)) nil)))
def ahW:=qs (st (pr (cu ZI (c ai (us 3 (c ai (us 1 (c ai (cu ZI (cu ZI (cu aQC (c aP9 (c ai (cl ab (cu lM (xs 10 (cu lM (us 38 nil)))))))))))))))) (pl (c (so akI) (cl HT nil)) nil)))
abbrev tD:=((Int×Int×Nat×Int×Bool×Nat×Int×Bool)×((Int×Int×Int×Int×Int)×Int×Int)×NI×NI×NI×NI×NI×NI×NI×NI×NI)⊕((Int×Int×Nat×Int×Bool)×((Int×Int×Int×Int×Int)×Int×Int)×NI×NI×NI×NI×NI×NI×NI×NI×NI)
def RX {ρ:Type}(x:tD)(K:AX->St->Option ρ):Option ρ:=(v4 (λd=>K (.ex 0) (ahV.em ((d.1.1,d.1.2.1,d.1.2.1,d.1.b.1,d.1.b.2.1,d.1.c.1,d.1.b.1,d.1.2.1,d.1.c.2.1,d.1.c.2.1,d.1.c.b.1,d.1.1,d.1.c.b.2,d.1.c.b.2),(d.2.1.1,d.2.1.2.1,d.1.b.1,d.2.1.b),d.1.b.1,d.b))) (λd=>K (.ex 0) (ahW.em ((d.1.1,d.1.2.1,d.1.2),(d.2.1.1,d.2.1.2.1,d.1.b.1,d.2.1.b),d.1.b.1,d.b)))) x
def Gp (d:iW.B):PL iW tD:=let n3:=d.1.2;let n2:=d.2.1.2.2;let n1:=(d.2.1.1,d.2.1.2.1,n2.2);let y0:=z4 n3;let y1:=ws n2.1;let y2:=decide (n3<y1);let y3:=decide (d.2.2.1 y0<=d.1.1);ae y2 (ae (aZ n3 n2.1) (ae y3 (ret (w7 ((d.1.1,wI (n3+1)),d.2))) (ret (ww (w7 ((d.1.1,n3,n2.1,y1,y2,y0,d.2.2.1 y0,y3),n1,d.2.2))))) no) (ret (ww (ww ((d.1.1,n3,n2.1,y1,y2),n1,d.2.2))))
def Gq:=bG (Gp) 2000
def KE (ud:mP)(cU:gX)(dX:LT iW tD)(x:xC.B):Pg Dd:=ae (z9 x.2.1.2.2.1 x.2.1.2.2.1) (opt (dX ((x.1,0),x.2)) λx=>sum x (λd=>let n9:=d.2.2;let n6:=d.2.1;let n5:=d.1.2;let n1:=n9.2.2.2;let n3:=n1.2.2.2;let y0:=z4 n5.1;ae (HA n5.1 n5.2.1) (ae (z9 y0 y0) (opt (ud y0 n9.1 n9.2.1 n9.2.2.1 n1.1 n1.2.1 n1.2.2.1 n3.1 n3.2.1 n3.2.2 false) λak=>ae (z9 n5.2.1 n5.2.1) (opt (cU n5.2.1 0 n5.1 n9.1 n9.2.1 n9.2.2.1 n1.1 n1.2.1 n1.2.2.1 n3.1 n3.2.1 n3.2.2 true) λaJ=>ret (ak.1,((n6.1.1,n6.1.2.1,n6.1.2.2.1,n6.1.2.2.2.1,wI (n6.1.2.2.2.2+n5.1)),n6.2.1,aJ.1,if d.1.1>n6.2.2 then d.1.1 else n6.2.2),ak.2,aJ.2)) no) no) no) λd=>let bk:=d.2.2;let n8:=d.2.1;let n7:=d.1.2;let n2:=bk.2.2.2;let n4:=n2.2.2.2;let y0:=z4 n7.1;ae (HA n7.1 n7.2.1) (ae (z9 y0 y0) (opt (ud y0 bk.1 bk.2.1 bk.2.2.1 n2.1 n2.2.1 n2.2.2.1 n4.1 n4.2.1 n4.2.2 false) λak=>ae (z9 n7.2.1 n7.2.1) (opt (cU n7.2.1 0 n7.1 bk.1 bk.2.1 bk.2.2.1 n2.1 n2.2.1 n2.2.2.1 n4.1 n4.2.1 n4.2.2 true) λaJ=>ret (ak.1,((n8.1.1,n8.1.2.1,n8.1.2.2.1,n8.1.2.2.2.1,wI (n8.1.2.2.2.2+n7.1)),n8.2.1,aJ.1,if d.1.1>n8.2.2 then d.1.1 else n8.2.2),ak.2,aJ.2)) no) no) no) no
def xD:=λx=>(KE fE cS Gq x).val
abbrev De:=mP×gX×(LT iW tD)
def KF (p:De):KK:=⟨[tV p.1,lR p.2.1],⟨[⟨2,(2::3::4::rg 6 9 (rg 25 39 (rg 15 10 []))),[]⟩],[fU 2 2 iW RX p.b],[],[],(some ⟨0,(rg 0 4 (rg 5 59 [])),[]⟩)⟩,2,108⟩
theorem akk (p:De):LI (KF p) 2 iW RX (Gp):=λ_ d c K=>by kernel_rfl
theorem atP (p:De):D2 (KF p) xC YL λb=>KE p.1 p.2.1 p.b b:=λb=>by kernel_rfl
abbrev KG:De:=(fE,cS,Gq)
theorem atQ [aA]:SC (YM xD):=sc (kS (k:=KF KG) (.c GM (.c tf (.nil _))) [2] [] ⟨kL (akk KG),trivial⟩ trivial (atP KG))
def Nl:=qa (pr (cl (aa (c gi aD4)) (cu aQ (cu Q' (cu (app 2 1) nil)))) (cu (cu (gc (ccl (pu (nat 194) (pu rq7 (pu wO DG))))) nil) (c ku (c ku (cu (cu (gp 4 1) nil) bL)))))
def BU:=qe (res (pr ai (pl (cu fN (cu fN aQx)) nil)))
abbrev Nm:=BU.B
abbrev Nn:=Int->Int->Int->Int->Int->Int->Int->Int->Int->Bool->Option Nm
def No (g:Nn):Ct:=(195,FC Nl (lf BU) (λb=>g b.1.1 b.1.2.1 b.1.b.1 b.1.b.2.1 b.1.c.1 b.1.c.2.1 b.1.c.b b.2.1 b.b.1 b.b.2))
def Df (aq:CG)(x0:Int)(x1:Int)(x2:Int)(x3:Int)(x4:Int)(x5:Int)(x6:Int)(x7:Int)(x8:Int)(x9:Bool):Pg Nm:=let y0:=wI (x7+1);let y1:=wI (x0*1073741824);let y2:=wI (x5*1073741824);let y3:=wI (x4*1073741824);let y4:=wI (x6*1073741824);let y5:=wI (x2*1073741824);let y6:=wI (x1*1073741824);let y7:=wI (x3*1073741824);let y8:=aZ y0 7;let y9:=y0==1;let AM:=y0==4;let AN:=y0==6;let Dg:=y0==2;let Dh:=y0==3;let Di:=y0==5;ae (aZ x7 7) (ae (x7==6) (ae y8 (ae AN (opt (aq y4 y4 x8 600000000 x9) λd=>ret d) (ae Di (opt (aq y4 y2 x8 600000000 x9) λd=>ret d) (ae AM (opt (aq y4 y3 x8 600000000 x9) λd=>ret d) (ae Dh (opt (aq y4 y7 x8 600000000 x9) λd=>ret d) (ae Dg (opt (aq y4 y5 x8 600000000 x9) λd=>ret d) (ae y9 (opt (aq y4 y6 x8 600000000 x9) λd=>ret d) (opt (aq y4 y1 x8 600000000 x9) λd=>ret d))))))) no) (ae (x7==5) (ae y8 (ae AN (opt (aq y2 y4 x8 600000000 x9) λd=>ret d) (ae Di (opt (aq y2 y2 x8 600000000 x9) λd=>ret d) (ae AM (opt (aq y2 y3 x8 600000000 x9) λd=>ret d) (ae Dh (opt (aq y2 y7 x8 600000000 x9) λd=>ret d) (ae Dg (opt (aq y2 y5 x8 600000000 x9) λd=>ret d) (ae y9 (opt (aq y2 y6 x8 600000000 x9) λd=>ret d) (opt (aq y2 y1 x8 600000000 x9) λd=>ret d))))))) no) (ae (x7==4) (ae y8 (ae AN (opt (aq y3 y4 x8 600000000 x9) λd=>ret d) (ae Di (opt (aq y3 y2 x8 600000000 x9) λd=>ret d) (ae AM (opt (aq y3 y3 x8 600000000 x9) λd=>ret d) (ae Dh (opt (aq y3 y7 x8 600000000 x9) λd=>ret d) (ae Dg (opt (aq y3 y5 x8 600000000 x9) λd=>ret d) (ae y9 (opt (aq y3 y6 x8 600000000 x9) λd=>ret d) (opt (aq y3 y1 x8 600000000 x9) λd=>ret d))))))) no) (ae (x7==3) (ae y8 (ae AN (opt (aq y7 y4 x8 600000000 x9) λd=>ret d) (ae Di (opt (aq y7 y2 x8 600000000 x9) λd=>ret d) (ae AM (opt (aq y7 y3 x8 600000000 x9) λd=>ret d) (ae Dh (opt (aq y7 y7 x8 600000000 x9) λd=>ret d) (ae Dg (opt (aq y7 y5 x8 600000000 x9) λd=>ret d) (ae y9 (opt (aq y7 y6 x8 600000000 x9) λd=>ret d) (opt (aq y7 y1 x8 600000000 x9) λd=>ret d))))))) no) (ae (x7==2) (ae y8 (ae AN (opt (aq y5 y4 x8 600000000 x9) λd=>ret d) (ae Di (opt (aq y5 y2 x8 600000000 x9) λd=>ret d) (ae AM (opt (aq y5 y3 x8 600000000 x9) λd=>ret d) (ae Dh (opt (aq y5 y7 x8 600000000 x9) λd=>ret d) (ae Dg (opt (aq y5 y5 x8 600000000 x9) λd=>ret d) (ae y9 (opt (aq y5 y6 x8 600000000 x9) λd=>ret d) (opt (aq y5 y1 x8 600000000 x9) λd=>ret d))))))) no) (ae (x7==1) (ae y8 (ae AN (opt (aq y6 y4 x8 600000000 x9) λd=>ret d) (ae Di (opt (aq y6 y2 x8 600000000 x9) λd=>ret d) (ae AM (opt (aq y6 y3 x8 600000000 x9) λd=>ret d) (ae Dh (opt (aq y6 y7 x8 600000000 x9) λd=>ret d) (ae Dg (opt (aq y6 y5 x8 600000000 x9) λd=>ret d) (ae y9 (opt (aq y6 y6 x8 600000000 x9) λd=>ret d) (opt (aq y6 y1 x8 600000000 x9) λd=>ret d))))))) no) (ae y8 (ae AN (opt (aq y1 y4 x8 600000000 x9) λd=>ret d) (ae Di (opt (aq y1 y2 x8 600000000 x9) λd=>ret d) (ae AM (opt (aq y1 y3 x8 600000000 x9) λd=>ret d) (ae Dh (opt (aq y1 y7 x8 600000000 x9) λd=>ret d) (ae Dg (opt (aq y1 y5 x8 600000000 x9) λd=>ret d) (ae y9 (opt (aq y1 y6 x8 600000000 x9) λd=>ret d) (opt (aq y1 y1 x8 600000000 x9) λd=>ret d))))))) no))))))) no
def mV:=λx0 x1 x2 x3 x4 x5 x6 x7 x8 x9=>(Df gY x0 x1 x2 x3 x4 x5 x6 x7 x8 x9).val
theorem ahX:∀aq,D0 [CI aq] 195 Nl (lf BU) λb=>Df aq b.1.1 b.1.2.1 b.1.b.1 b.1.b.2.1 b.1.c.1 b.1.c.2.1 b.1.c.b b.2.1 b.b.1 b.b.2:=λ_ b=>by kernel_rfl
theorem ahY [aA]:SC (No mV):=s0 (.c Md (.nil _)) (ahX gY)
def UL:=qa (pu nil nil)
def Gr:=qe (res (pu (aa (cu aXl (cu (gc (cf (fi .i64 (int 6000)))) (cu (gc (cf (fi .i64 (int (-2000))))) (cu (gc (cf (fi .i64 (int (-1500))))) (cu (gc (cf (fi .i64 (int (-6000))))) (cu (gc (cf (fi .i64 (int (-9000))))) (cu aXl (cu aXm (cu (gc (cf (fi .i64 (int 2500)))) (cu aJ9 (cu (gc (cf (fi .i64 (int (-2200))))) (cu (gc (cf (fi .i64 (int (-3800))))) (cu aP (cu aXm (cu aXn (cu (gc (cf (fi .i64 (int 900)))) (cu (gc (cf (fi .i64 (int (-1400))))) (cu (gc (cf (fi .i64 (int (-500))))) (cu (gc (cf (fi .i64 (int (-300))))) (cu aXo (cu aXn (cu aJ9 (cu (gc (cf (fi .i64 (int 1500)))) (cu (gc (cf (fi .i64 (int (-1700))))) (cu aXo (cu (gc (cf (fi .i64 (int 700)))) (cu (gc (cf (fi .i64 (int (-800))))) (cu aJ9 (cu aXp (cu (gc (cf (fi .i64 (int 4000)))) (cu (gc (cf (fi .i64 (int (-3000))))) (cu aJ9 (cu (gc (cf (fi .i64 (int 3500)))) (cu (gc (cf (fi .i64 (int (-1200))))) (cu aXp nil)))))))))))))))))))))))))))))))))))) (pu nil nil)))
abbrev Ib:=Gr.B
abbrev Ic:=Option Ib
def Ie (g:Ic):Ct:=(193,FC UL (lf Gr) (λ_=>g))
def Ig:Pg Ib:=ret ()
def nd:Option Ib:=(Ig).val
theorem apG:D0 [] 193 UL (lf Gr) λb=>Ig:=λb=>by kernel_rfl
theorem UM [aA]:SC (Ie nd):=s0 (.nil _) apG
def RY:=qa (pr (cu aQ HR) bL)
def EM:=qe aQN
abbrev RZ:=EM.B
abbrev R4:=Int->Int->Int->Bool->Option RZ
def R5 (g:R4):Ct:=(120,FC RY (lf EM) (λb=>g b.1.1 b.1.2.1 b.1.b b.2))
def Gs (cO:wg)(je:Ic)(aq:CG)(aN:Nn)(av:cD)(x0:Int)(x1:Int)(x2:Int)(x3:Bool):Pg RZ:=let y0:=wI (x0+900000000);let y1:=wI (x1+1800000000);let y2:=wI (ul y0 450000000);let y3:=wI (ul y1 600000000);let y4:=if 3<y2 then 3 else y2;let y5:=if 5<y3 then 5 else y3;let y6:=wI (y4+1);let y7:=wI (y1-wI (y5*600000000));opt (cO x0 x1 x2) λd=>ae (!d) (ret ((0,1),x3)) (opt je λd=>ae (aZ y4 5) (ae (y4==4) (opt (aN 1000 4000 (-3000) 500 3500 (-1200) 1000 y5 y7 x3) λd=>ae (aZ y6 5) (ae (y6==4) (opt (aN 1000 4000 (-3000) 500 3500 (-1200) 1000 y5 y7 d.2) λak=>opt (aq d.1 ak.1 (wI (y0-wI (y4*450000000))) 450000000 ak.2) λd=>opt (av d.1 3373259426 19327352832000 d.2) λd=>ret ((d.1,0),d.2)) (ae (y6==3) (opt (aN 500 1500 (-1700) 100 700 (-800) 500 y5 y7 d.2) λak=>opt (aq d.1 ak.1 (wI (y0-wI (y4*450000000))) 450000000 ak.2) λd=>opt (av d.1 3373259426 19327352832000 d.2) λd=>ret ((d.1,0),d.2)) (ae (y6==2) (opt (aN 950 900 (-1400) (-500) (-300) 100 950 y5 y7 d.2) λak=>opt (aq d.1 ak.1 (wI (y0-wI (y4*450000000))) 450000000 ak.2) λd=>opt (av d.1 3373259426 19327352832000 d.2) λd=>ret ((d.1,0),d.2)) (ae (y6==1) (opt (aN 2200 2500 500 (-2200) (-3800) 0 2200 y5 y7 d.2) λak=>opt (aq d.1 ak.1 (wI (y0-wI (y4*450000000))) 450000000 ak.2) λd=>opt (av d.1 3373259426 19327352832000 d.2) λd=>ret ((d.1,0),d.2)) (opt (aN 3000 6000 (-2000) (-1500) (-6000) (-9000) 3000 y5 y7 d.2) λak=>opt (aq d.1 ak.1 (wI (y0-wI (y4*450000000))) 450000000 ak.2) λd=>opt (av d.1 3373259426 19327352832000 d.2) λd=>ret ((d.1,0),d.2)))))) no) (ae (y4==3) (opt (aN 500 1500 (-1700) 100 700 (-800) 500 y5 y7 x3) λd=>ae (aZ y6 5) (ae (y6==4) (opt (aN 1000 4000 (-3000) 500 3500 (-1200) 1000 y5 y7 d.2) λak=>opt (aq d.1 ak.1 (wI (y0-wI (y4*450000000))) 450000000 ak.2) λd=>opt (av d.1 3373259426 19327352832000 d.2) λd=>ret ((d.1,0),d.2)) (ae (y6==3) (opt (aN 500 1500 (-1700) 100 700 (-800) 500 y5 y7 d.2) λak=>opt (aq d.1 ak.1 (wI (y0-wI (y4*450000000))) 450000000 ak.2) λd=>opt (av d.1 3373259426 19327352832000 d.2) λd=>ret ((d.1,0),d.2)) (ae (y6==2) (opt (aN 950 900 (-1400) (-500) (-300) 100 950 y5 y7 d.2) λak=>opt (aq d.1 ak.1 (wI (y0-wI (y4*450000000))) 450000000 ak.2) λd=>opt (av d.1 3373259426 19327352832000 d.2) λd=>ret ((d.1,0),d.2)) (ae (y6==1) (opt (aN 2200 2500 500 (-2200) (-3800) 0 2200 y5 y7 d.2) λak=>opt (aq d.1 ak.1 (wI (y0-wI (y4*450000000))) 450000000 ak.2) λd=>opt (av d.1 3373259426 19327352832000 d.2) λd=>ret ((d.1,0),d.2)) (opt (aN 3000 6000 (-2000) (-1500) (-6000) (-9000) 3000 y5 y7 d.2) λak=>opt (aq d.1 ak.1 (wI (y0-wI (y4*450000000))) 450000000 ak.2) λd=>opt (av d.1 3373259426 19327352832000 d.2) λd=>ret ((d.1,0),d.2)))))) no) (ae (y4==2) (opt (aN 950 900 (-1400) (-500) (-300) 100 950 y5 y7 x3) λd=>ae (aZ y6 5) (ae (y6==4) (opt (aN 1000 4000 (-3000) 500 3500 (-1200) 1000 y5 y7 d.2) λak=>opt (aq d.1 ak.1 (wI (y0-wI (y4*450000000))) 450000000 ak.2) λd=>opt (av d.1 3373259426 19327352832000 d.2) λd=>ret ((d.1,0),d.2)) (ae (y6==3) (opt (aN 500 1500 (-1700) 100 700 (-800) 500 y5 y7 d.2) λak=>opt (aq d.1 ak.1 (wI (y0-wI (y4*450000000))) 450000000 ak.2) λd=>opt (av d.1 3373259426 19327352832000 d.2) λd=>ret ((d.1,0),d.2)) (ae (y6==2) (opt (aN 950 900 (-1400) (-500) (-300) 100 950 y5 y7 d.2) λak=>opt (aq d.1 ak.1 (wI (y0-wI (y4*450000000))) 450000000 ak.2) λd=>opt (av d.1 3373259426 19327352832000 d.2) λd=>ret ((d.1,0),d.2)) (ae (y6==1) (opt (aN 2200 2500 500 (-2200) (-3800) 0 2200 y5 y7 d.2) λak=>opt (aq d.1 ak.1 (wI (y0-wI (y4*450000000))) 450000000 ak.2) λd=>opt (av d.1 3373259426 19327352832000 d.2) λd=>ret ((d.1,0),d.2)) (opt (aN 3000 6000 (-2000) (-1500) (-6000) (-9000) 3000 y5 y7 d.2) λak=>opt (aq d.1 ak.1 (wI (y0-wI (y4*450000000))) 450000000 ak.2) λd=>opt (av d.1 3373259426 19327352832000 d.2) λd=>ret ((d.1,0),d.2)))))) no) (ae (y4==1) (opt (aN 2200 2500 500 (-2200) (-3800) 0 2200 y5 y7 x3) λd=>ae (aZ y6 5) (ae (y6==4) (opt (aN 1000 4000 (-3000) 500 3500 (-1200) 1000 y5 y7 d.2) λak=>opt (aq d.1 ak.1 (wI (y0-wI (y4*450000000))) 450000000 ak.2) λd=>opt (av d.1 3373259426 19327352832000 d.2) λd=>ret ((d.1,0),d.2)) (ae (y6==3) (opt (aN 500 1500 (-1700) 100 700 (-800) 500 y5 y7 d.2) λak=>opt (aq d.1 ak.1 (wI (y0-wI (y4*450000000))) 450000000 ak.2) λd=>opt (av d.1 3373259426 19327352832000 d.2) λd=>ret ((d.1,0),d.2)) (ae (y6==2) (opt (aN 950 900 (-1400) (-500) (-300) 100 950 y5 y7 d.2) λak=>opt (aq d.1 ak.1 (wI (y0-wI (y4*450000000))) 450000000 ak.2) λd=>opt (av d.1 3373259426 19327352832000 d.2) λd=>ret ((d.1,0),d.2)) (ae (y6==1) (opt (aN 2200 2500 500 (-2200) (-3800) 0 2200 y5 y7 d.2) λak=>opt (aq d.1 ak.1 (wI (y0-wI (y4*450000000))) 450000000 ak.2) λd=>opt (av d.1 3373259426 19327352832000 d.2) λd=>ret ((d.1,0),d.2)) (opt (aN 3000 6000 (-2000) (-1500) (-6000) (-9000) 3000 y5 y7 d.2) λak=>opt (aq d.1 ak.1 (wI (y0-wI (y4*450000000))) 450000000 ak.2) λd=>opt (av d.1 3373259426 19327352832000 d.2) λd=>ret ((d.1,0),d.2)))))) no) (opt (aN 3000 6000 (-2000) (-1500) (-6000) (-9000) 3000 y5 y7 x3) λd=>ae (aZ y6 5) (ae (y6==4) (opt (aN 1000 4000 (-3000) 500 3500 (-1200) 1000 y5 y7 d.2) λak=>opt (aq d.1 ak.1 (wI (y0-wI (y4*450000000))) 450000000 ak.2) λd=>opt (av d.1 3373259426 19327352832000 d.2) λd=>ret ((d.1,0),d.2)) (ae (y6==3) (opt (aN 500 1500 (-1700) 100 700 (-800) 500 y5 y7 d.2) λak=>opt (aq d.1 ak.1 (wI (y0-wI (y4*450000000))) 450000000 ak.2) λd=>opt (av d.1 3373259426 19327352832000 d.2) λd=>ret ((d.1,0),d.2)) (ae (y6==2) (opt (aN 950 900 (-1400) (-500) (-300) 100 950 y5 y7 d.2) λak=>opt (aq d.1 ak.1 (wI (y0-wI (y4*450000000))) 450000000 ak.2) λd=>opt (av d.1 3373259426 19327352832000 d.2) λd=>ret ((d.1,0),d.2)) (ae (y6==1) (opt (aN 2200 2500 500 (-2200) (-3800) 0 2200 y5 y7 d.2) λak=>opt (aq d.1 ak.1 (wI (y0-wI (y4*450000000))) 450000000 ak.2) λd=>opt (av d.1 3373259426 19327352832000 d.2) λd=>ret ((d.1,0),d.2)) (opt (aN 3000 6000 (-2000) (-1500) (-6000) (-9000) 3000 y5 y7 d.2) λak=>opt (aq d.1 ak.1 (wI (y0-wI (y4*450000000))) 450000000 ak.2) λd=>opt (av d.1 3373259426 19327352832000 d.2) λd=>ret ((d.1,0),d.2)))))) no))))) no)
def py:=λx0 x1 x2 x3=>(Gs gM nd gY mV aX x0 x1 x2 x3).val
theorem anY:∀cO je aq aN av,D1 [Ay cO,Ie je,CI aq,No aN,dt av] [0] 120 RY (lf EM) λb=>Gs cO je aq aN av b.1.1 b.1.2.1 b.1.b b.2:=λ_ _ _ _ _ b=>by kernel_rfl
theorem anZ [aA]:SC (R5 py):=s0 (.c Es (.c UM (.c Md (.c ahY (.c dI (.nil _)))))) (anY gM nd gY mV aX)
def aJt:=qa (pl jo nil)
def atT:=qe Cy
abbrev aJu:=atT.B
abbrev ay2:=Int->Option aJu
def aJv (g:ay2):Ct:=(55,FC aJt (lf atT) (λb=>g b))
def ao5 (x0:Int):Pg aJu:=ae (decide (x0>=0)) (ret (decide (x0<6))) (ret false)
def PG:=λx0=>(ao5 x0).val
theorem aVn:D0 [] 55 aJt (lf atT) λb=>ao5 b:=λb=>by kernel_rfl
theorem aVo [aA]:SC (aJv PG):=s0 (.nil _) aVn
def ajM:=qa (pl (c ai Ey) nil)
def PH:=qe Cy
abbrev ajN:=PH.B
abbrev Ua:=Int->Int->Int->Int->Int->Int->Int->Int->Int->Int->Option ajN
def ajO (g:Ua):Ct:=(56,FC ajM (lf PH) (λb=>g b.1 b.2.1 b.b.1 b.b.2.1 b.c.1 b.c.2.1 b.c.b.1 b.c.b.2.1 b.d.1 b.d.2))
def Ub (vF:ahw)(kh:Kv)(jf:H7)(ny:aaU)(zT:anz)(vG:ahI)(x0:Int)(x1:Int)(x2:Int)(x3:Int)(x4:Int)(x5:Int)(x6:Int)(x7:Int)(x8:Int)(x9:Int):Pg ajN:=ae (x0==0) (opt (vF x1 x2 x3 x4 x5 x6 x7 x8 x9 false) λd=>ret (d.1.2==0)) (ae (x0==1) (opt (kh x1 x2 x3 x4 x5 x6 x7 x8 x9 false) λd=>ret (d.1.2==0)) (ae (x0==2) (opt (jf x1 x2 x3 x4 x5 x6 x7 x8 x9 false) λd=>ret (d.1.2==0)) (ae (x0==3) (opt (ny x1 x2 x3 x4 x5 x6 x7 x8 x9 false) λd=>ret (d.1.2==0)) (ae (x0==4) (opt (zT x1 x2 x3 x4 x5 x6 x7 x8 x9 false) λd=>ret (d.1.2==0)) (ae (x0==5) (opt (vG x1 x2 x3 x4 x5 x6 x7 x8 x9 false) λd=>ret (d.1.2==0)) (ret true))))))
def D6:=λx0 x1 x2 x3 x4 x5 x6 x7 x8 x9=>(Ub zI lZ kW wh Cj zL x0 x1 x2 x3 x4 x5 x6 x7 x8 x9).val
theorem aC4:∀vF kh jf ny zT vG,D0 [ahx vF,Kw kh,H8 jf,aaV ny,anA zT,ahJ vG] 56 ajM (lf PH) λb=>Ub vF kh jf ny zT vG b.1 b.2.1 b.b.1 b.b.2.1 b.c.1 b.c.2.1 b.c.b.1 b.c.b.2.1 b.d.1 b.d.2:=λ_ _ _ _ _ _ b=>by kernel_rfl
theorem aC5 [aA]:SC (ajO D6):=s0 (.c awm (.c Yl (.c UG (.c ann (.c aBy (.c awC (.nil _))))))) (aC4 zI lZ kW wh Cj zL)
def xE:=qa (dp (cu jq (c ai aJ1)) λv=>(cd asD λb0=>(c (cl (gs v.2.1 asu) nil) (c m6 (c oG (c (cl (gs b0.c.1 pK) nil) (cd rb λb5=>(cd re λb6=>(cd rf λb7=>(cd rj λb8=>(cd rm λb9=>(cd aEa λb10=>(c nK (cd aD2 λb12=>(c (cl (gs b0.e mN) nil) (c (cl (gs b5.b.1 aC) nil) (c (cl (gs b6.b.1 aC) nil) (c (cl (gs b7.b.1 aC) nil) (c (cl (gs b8.b.1 aC) nil) (c (cl (gs b9.b.1 aC) nil) (c (cl (gs b10.b.1 aC) nil) (cl (cl (gs b12.b jJ) nil) nil))))))))))))))))))))))
def Ih:=qe (res (pu Q8 (pl (cu fN aRa) nil)))
abbrev YN:=Ih.B
abbrev Dj:=xE.B->Option YN
def Dk (g:Dj):Ct:=(232,vX 2 [.b,.i .i64,.i .i64] (FC xE (lf Ih) g))
def KH (sO:IY)(x:xE.B):Pg YN:=let n1:=x.2.2.2.2.2.2.2.2.2.2.2.2.1;let n2:=n1.1.2.2;ae (z9 x.1.2.1 x.1.2.1) (opt (sO x.1.1 x.2.1.2.2.2.2.2.2.2.2.2.2.2.2.2.1 x.1.2.1 n1.1.1 n1.1.2.1 n2.1 n2.2.1 n2.2.2.1 n2.2.2.2 n1.2 x.2.2.1.1 x.2.2.1.2.1 x.2.2.1.2.2 (x.1.2.2&&true)) λd=>ret d) no
def kj:=λx=>(KH nU x).val
theorem atU:∀sO,D0 [IZ sO] 232 xE (lf Ih) λb=>KH sO b:=λ_ b=>by kernel_rfl
theorem KI [aA]:SC (Dk kj):=sc (Sound.nil 2 [.b,.i .i64,.i .i64]<|k0 (.c adi (.nil _)) (atU nU))
def uR:=qa (pr (cu jq jo) (cd wQ λb0=>(c m6 (c oG (c (cl (gs b0.c.1 pK) nil) (cd yd λb4=>(cd rb λb5=>(cd re λb6=>(cd rf λb7=>(cd rj λb8=>(cd rm λb9=>(c nK (cd Ap λBV=>(c (cl (gs b0.e mN) nil) (c (cl (gs b4.b.1 aC) nil) (c (cl (gs b5.b.1 aC) nil) (c (cl (gs b6.b.1 aC) nil) (c (cl (gs b7.b.1 aC) nil) (c (cl (gs b8.b.1 aC) nil) (c (cl (gs b9.b.1 aC) nil) (cl (cl (gs BV.b jJ) nil) nil)))))))))))))))))))))
def Gu:=qe aYF
abbrev UN:=Gu.B
abbrev Ba:=uR.B->Option UN
def Bc (g:Ba):Ct:=(223,FC uR (lf Gu) g)
def Ii (ee:Dj)(x:uR.B):Pg UN:=let n5:=x.2.2.2.2.2;let n2:=x.2.1.2.2.2.2;let n4:=n2.2.2.2.2.2.2.2.2.2.2.2.2;let n1:=n5.2;let n3:=n1.2.2.2;ae (z9 n2.1 n2.1) (ae (z9 n4 n4) (ae (z9 n5.1.2.2.1 n5.1.2.2.1) (ae (z9 n1.1.2.2.1 n1.1.2.2.1) (ae (z9 n1.2.1.2.2.1 n1.2.1.2.2.1) (ae (z9 n1.2.2.1.2.2.1 n1.2.2.1.2.2.1) (ae (z9 n3.1.2.2.1 n3.1.2.2.1) (ae (z9 n3.2.1.2.2.1 n3.2.1.2.2.1) (ae (z9 n3.2.2.2.1.2.2 n3.2.2.2.1.2.2) (opt (ee ((x.1,1,true),x.2.1,(λj=>bif z9 j 0 then true else true,λj=>bif z9 j 0 then 0 else 0,λj=>bif z9 j 0 then 0 else 0),x.2.2)) λd=>ret d) no) no) no) no) no) no) no) no) no
def jg:=λx=>(Ii kj x).val
theorem apH:∀ee,D0 [Dk ee] 223 uR (lf Gu) λb=>Ii ee b:=λ_ b=>by kernel_rfl
theorem Ij [aA]:SC (Bc jg):=s0 (.c KI (.nil _)) (apH kj)
def tE:=qa (pr (cu jq jo) (cd wQ λb0=>(c m6 (c oG (c (cl (gs b0.c.1 pK) nil) (cd yd λb4=>(cd rb λb5=>(cd re λb6=>(cd rf λb7=>(cd rj λb8=>(cd rm λb9=>(c nK (cd Ap λBV=>(c (cl (gs b0.e mN) nil) (c (cl (gs b4.b.1 aC) nil) (c (cl (gs b5.b.1 aC) nil) (c (cl (gs b6.b.1 aC) nil) (c (cl (gs b7.b.1 aC) nil) (c (cl (gs b8.b.1 aC) nil) (c (cl (gs b9.b.1 aC) nil) (cl (cl (gs BV.b jJ) nil) nil)))))))))))))))))))))
def EN:=qe aYF
abbrev R6:=EN.B
abbrev pz:=tE.B->Option R6
def pA (g:pz):Ct:=(172,FC tE (lf EN) g)
def Gv (ee:Dj)(x:tE.B):Pg R6:=let n5:=x.2.2.2.2.2;let n2:=x.2.1.2.2.2.2;let n4:=n2.2.2.2.2.2.2.2.2.2.2.2.2;let n1:=n5.2;let n3:=n1.2.2.2;ae (z9 n2.1 n2.1) (ae (z9 n4 n4) (ae (z9 n5.1.2.2.1 n5.1.2.2.1) (ae (z9 n1.1.2.2.1 n1.1.2.2.1) (ae (z9 n1.2.1.2.2.1 n1.2.1.2.2.1) (ae (z9 n1.2.2.1.2.2.1 n1.2.2.1.2.2.1) (ae (z9 n3.1.2.2.1 n3.1.2.2.1) (ae (z9 n3.2.1.2.2.1 n3.2.1.2.2.1) (ae (z9 n3.2.2.2.1.2.2 n3.2.2.2.1.2.2) (opt (ee ((x.1,1,true),x.2.1,(λj=>bif z9 j 0 then false else false,λj=>bif z9 j 0 then 0 else 0,λj=>bif z9 j 0 then 0 else 0),x.2.2)) λd=>ret d) no) no) no) no) no) no) no) no) no
def dJ:=λx=>(Gv kj x).val
theorem an0:∀ee,D0 [Dk ee] 172 tE (lf EN) λb=>Gv ee b:=λ_ b=>by kernel_rfl
theorem tF [aA]:SC (pA dJ):=s0 (.c KI (.nil _)) (an0 kj)
def oS:=qa (pr (cu jq (cl (aa (a 10 wP ku)) nil)) (cd wQ λb0=>(c m6 (c oG (c (cl (gs b0.c.1 pK) nil) (cd yd λb4=>(cd rb λb5=>(cd re λb6=>(cd rf λb7=>(cd rj λb8=>(cd rm λb9=>(c nK (cd Ap λBV=>(c (cl (gs b0.e mN) nil) (c (cl (gs b4.b.1 aC) nil) (c (cl (gs b5.b.1 aC) nil) (c (cl (gs b6.b.1 aC) nil) (c (cl (gs b7.b.1 aC) nil) (c (cl (gs b8.b.1 aC) nil) (c (cl (gs b9.b.1 aC) nil) (cl (cl (gs BV.b jJ) nil) nil)))))))))))))))))))))
def apI:=qe aYT
abbrev xF:=((GJ×Bool×NI×(NI×NI)×Nat×se×Bool×Int×lJ×Bool×Bool×Bool×Int×Int×Int×Fv×Nat)×NI×NI×NI×NI×NI×NI×NI×NI×NI×NI)
def YO:xF->T:=λd=>lf apI (d.1,d.1.e,d.2)
abbrev KJ:=oS.B->Option xF
def KL (g:KJ):Ct:=(222,FC oS YO g)
def Dl (x:oS.B):Pg xF:=let n7:=x.2.1.2;let n6:=x.1.1;let n3:=n7.2.2.2.2;let n8:=n3.2.2.2;let n2:=x.2.2.2.2.2.2.2.2.2.2.2.2.2.1;let n5:=n2.2.2.2.2;let n1:=n8.2.2.2.2;let n4:=n1.2.2.2.2;let y0:=n4+1;ae (wr (y0*80) 140737488355328) (ret ((x.2.1.1,n7.1,n7.2.1,n7.2.2.1,n7.2.2.2.1,n3.1,n3.2.1,n3.2.2.1,n8.1,n8.2.1,n8.2.2.1,n8.2.2.2.1,n1.1,n1.2.1,n1.2.2.1,n1.2.2.2.1,y0),λj=>bif z9 j n4 then n6.1.1 else n2.1 j,λj=>bif z9 j n4 then n6.1.2.1 else n2.2.1 j,λj=>bif z9 j n4 then n6.1.2.2.1 else n2.2.2.1 j,λj=>bif z9 j n4 then n6.1.2.2.2 else n2.2.2.2.1 j,λj=>bif z9 j n4 then n6.2.1.1 else n5.1 j,λj=>bif z9 j n4 then n6.2.1.2.1 else n5.2.1 j,λj=>bif z9 j n4 then n6.2.1.2.2 else n5.2.2.1 j,λj=>bif z9 j n4 then n6.2.2.1 else n5.2.2.2.1 j,λj=>bif z9 j n4 then n6.2.2.2.1 else n5.2.2.2.2.1 j,λj=>bif z9 j n4 then n6.2.2.2.2 else n5.2.2.2.2.2 j)) no
def iD:=λx=>(Dl x).val
theorem atV:D0 [] 222 oS YO λb=>Dl b:=λb=>by kernel_rfl
theorem YP [aA]:SC (KL iD):=s0 (.nil _) atV
def oT:=qa (dp (cu jq (c ai (cl aJV nil))) λv=>(cd asD λb0=>(c (cl (gs v.2.1 aKB) nil) (c m6 (c oG (c (cl (gs b0.c.1 pK) nil) (cd rb λb5=>(cd re λb6=>(cd rf λb7=>(cd rj λb8=>(cd rm λb9=>(cd aEa λb10=>(c nK (cd aD2 λb12=>(c (cl (gs b0.e mN) nil) (c (cl (gs b5.b.1 aC) nil) (c (cl (gs b6.b.1 aC) nil) (c (cl (gs b7.b.1 aC) nil) (c (cl (gs b8.b.1 aC) nil) (c (cl (gs b9.b.1 aC) nil) (c (cl (gs b10.b.1 aC) nil) (cl (cl (gs b12.b jJ) nil) nil))))))))))))))))))))))
def apJ:=qe (res (pr (ac (A4 21 3)) (pr (c (An asD) aRa) (cl aQG nil))))
abbrev xG:=(Nat×((GJ×Bool×NI×(NI×NI)×Nat×se×Bool×Int×lJ×Bool×Bool×Bool×Int×Int×Int×Fv×Nat)×aS1×Int)×(Nat->Bool)×NI×NI)
def YQ:xG->T:=λd=>lf apJ (d.1,d.2.1,d.1,d.b)
abbrev rV:=oT.B->Option xG
def rW (g:rV):Ct:=(228,vX 2 [.i .i64,.i .i64,.i .i64,.i .i64,.i .i64,.i .i64,.i .i64,.i .i64,.i .i64,.i .i64,.i .i64,.i .i64,.i .i64,.i .i64,.i .i64,.i .i64,.i .i64,.i .i64,.i .i64,.i .i64,.i .i64,.i .i64,.i .i64,.i .i64,.i .i64,.i .i64,.i .i64] (FC oT YQ g))
def Dm (aa5:aAT)(ee:Dj)(x:oT.B):Pg xG:=let n3:=x.2.1.2.2.2;let n5:=n3.2.2.2.2.2.2.2.2.2.2.2.2.2;let n2:=x.2.2.2.2.2.2;let n4:=n2.2.2.2;ae (z9 x.1.2.1 x.1.2.1) (opt (aa5 ((x.2.1.2.2.1,n3.1,x.1.2.1,x.1.2.2&&true),x.2.1.2.1,x.2.2.1)) λd=>let n6:=d.1.2.2;let n1:=(x.2.1.1,d.2.1,d.1.1,d.1.2.1,n3.2);ae (z9 n6 n6) (ae (z9 n3.2.1 n3.2.1) (ae (z9 n5 n5) (ae (z9 n2.1.2.2.1 n2.1.2.2.1) (ae (z9 n2.2.1.2.2.1 n2.2.1.2.2.1) (ae (z9 n2.2.2.1.2.2.1 n2.2.2.1.2.2.1) (ae (z9 n4.1.2.2.1 n4.1.2.2.1) (ae (z9 n4.2.1.2.2.1 n4.2.1.2.2.1) (ae (z9 n4.2.2.1.2.2.1 n4.2.2.1.2.2.1) (ae (z9 n4.2.2.2.2.1.2.2 n4.2.2.2.2.1.2.2) (opt (ee ((x.1.1,n6,true),n1,d.2.2,x.2.2.2)) λak=>ret (n6,(n1,ak),d.2.2)) no) no) no) no) no) no) no) no) no) no) no
def di:=λx=>(Dm Ci kj x).val
theorem atW:∀aa5 ee,D0 [aAU aa5,Dk ee] 228 oT YQ λb=>Dm aa5 ee b:=λ_ _ b=>by kernel_rfl
theorem xH [aA]:SC (rW di):=sc (Sound.nil 2 [.i .i64,.i .i64,.i .i64,.i .i64,.i .i64,.i .i64,.i .i64,.i .i64,.i .i64,.i .i64,.i .i64,.i .i64,.i .i64,.i .i64,.i .i64,.i .i64,.i .i64,.i .i64,.i .i64,.i .i64,.i .i64,.i .i64,.i .i64,.i .i64,.i .i64,.i .i64,.i .i64]<|k0 (.c aOK (.c KI (.nil _))) (atW Ci kj))
def mg:=qa (dp (cu jq aJ1) λv=>(cd asD λb0=>(c (cl (gs v.1 asu) nil) (c m6 (c oG (c (cl (gs b0.c.1 pK) nil) (cd rb λb5=>(cd re λb6=>(cd rf λb7=>(cd rj λb8=>(cd rm λb9=>(cd aEa λb10=>(c nK (cd aD2 λb12=>(c (cl (gs b0.e mN) nil) (c (cl (gs b5.b.1 aC) nil) (c (cl (gs b6.b.1 aC) nil) (c (cl (gs b7.b.1 aC) nil) (c (cl (gs b8.b.1 aC) nil) (c (cl (gs b9.b.1 aC) nil) (c (cl (gs b10.b.1 aC) nil) (cl (cl (gs b12.b jJ) nil) nil))))))))))))))))))))))
def EO:=qe (res (pu Q8 (pl (cl (An asD) (cu fN axz)) nil)))
abbrev zU:=EO.B
abbrev Gw:=mg.B->Option zU
def Gx (g:Gw):Ct:=(229,vX 1 [.b,.i .i64,.i .i64] (FC mg (lf EO) g))
def zV (sK:acQ)(x:mg.B):Pg zU:=let n2:=x.2.1;let n1:=n2.2.2.2.2.2;let n3:=n1.2.2.2;ae (z9 x.1.1 x.1.1) (opt (sK x.1.1 x.2.2.1.1 x.2.2.1.2.1 x.2.2.1.2.2 (x.1.2&&true)) λd=>ae (decide (d.1>0)) (ret (n2.1,n2.2.1,n2.2.2.1,n2.2.2.2.1,n2.2.2.2.2.1,n1.1,n1.2.1,n1.2.2.1,n3.1,n3.2.1,n3.2.2.1,true,n3.2.2.2.2.2.1,n3.2.2.2.2.2)) (ret n2)) no
def fZ:=λx=>(zV Aw x).val
theorem an1:∀sK,D1 [acR sK] [0] 229 mg (lf EO) λb=>zV sK b:=λ_ b=>by kernel_rfl
theorem R7 [aA]:SC (Gx fZ):=sc (Sound.nil 1 [.b,.i .i64,.i .i64]<|k0 (.c arh (.nil _)) (an1 Aw))
def kl:=qa (pr (cu jq (c ai (c ai aXP))) (cd wQ λb0=>(c m6 (c oG (c (cl (gs b0.c.1 pK) nil) (cd yd λb4=>(cd rb λb5=>(cd re λb6=>(cd rf λb7=>(cd rj λb8=>(cd rm λb9=>(c nK (cd Ap λBV=>(c (cl (gs b0.e mN) nil) (c (cl (gs b4.b.1 aC) nil) (c (cl (gs b5.b.1 aC) nil) (c (cl (gs b6.b.1 aC) nil) (c (cl (gs b7.b.1 aC) nil) (c (cl (gs b8.b.1 aC) nil) (c (cl (gs b9.b.1 aC) nil) (cl (cl (gs BV.b jJ) nil) nil)))))))))))))))))))))
def BW:=qe asE
abbrev vH:=BW.B
abbrev Np:=kl.B->Option vH
def Nq (g:Np):Ct:=(169,FC kl (lf BW) g)
def vI (bm:rV)(dk:Ba)(x:kl.B):Pg vH:=let n7:=x.2.2.2.2.2;let n4:=x.1.2.2.2;let n3:=x.2.1.2.2.2.2;let n6:=n3.2.2.2.2.2.2.2.2.2.2.2.2;let n2:=n7.2;let n5:=n2.2.2.2;let n1:=x.1.2.2.1;let y0:=z9 n3.1 n3.1;let y1:=z9 n6 n6;let y2:=z9 n7.1.2.2.1 n7.1.2.2.1;let y3:=z9 n2.1.2.2.1 n2.1.2.2.1;let y4:=z9 n2.2.1.2.2.1 n2.2.1.2.2.1;let y5:=z9 n2.2.2.1.2.2.1 n2.2.2.1.2.2.1;let y6:=z9 n5.1.2.2.1 n5.1.2.2.1;let y7:=z9 n5.2.1.2.2.1 n5.2.1.2.2.1;let y8:=z9 n5.2.2.2.1.2.2 n5.2.2.2.1.2.2;ae (n3.2.1.2.1==x.1.2.1) (ae y0 (ae y1 (ae y2 (ae y3 (ae y4 (ae y5 (ae y6 (ae y7 (ae y8 (opt (bm ((x.1.1,1,true),x.2.1,(λj=>bif z9 j 0 then n1 0 else n1 0,λj=>bif z9 j 0 then n1 1 else n1 1,λj=>bif z9 j 0 then n1 2 else n1 2,λj=>bif z9 j 0 then n1 3 else n1 3,λj=>bif z9 j 0 then n1 4 else n1 4,λj=>bif z9 j 0 then n1 5 else n1 5,λj=>bif z9 j 0 then n1 6 else n1 6,λj=>bif z9 j 0 then n1 7 else n1 7,λj=>bif z9 j 0 then n1 8 else n1 8,λj=>bif z9 j 0 then n1 9 else n1 9,λj=>bif z9 j 0 then n1 10 else n1 10,λj=>bif z9 j 0 then n1 11 else n1 11,λj=>bif z9 j 0 then n1 12 else n1 12,λj=>bif z9 j 0 then n1 13 else n1 13,λj=>bif z9 j 0 then n1 14 else n1 14,λj=>bif z9 j 0 then n1 15 else n1 15,λj=>bif z9 j 0 then n1 16 else n1 16,λj=>bif z9 j 0 then n1 17 else n1 17,λj=>bif z9 j 0 then n1 18 else n1 18,λj=>bif z9 j 0 then n1 19 else n1 19,λj=>bif z9 j 0 then n1 20 else n1 20,λj=>bif z9 j 0 then n1 21 else n1 21,λj=>bif z9 j 0 then n1 22 else n1 22,λj=>bif z9 j 0 then n1 23 else n1 23,λj=>bif z9 j 0 then n4.1 else n4.1,λj=>bif z9 j 0 then n4.2.1 else n4.2.1,λj=>bif z9 j 0 then n4.2.2 else n4.2.2),x.2.2)) λd=>ret d.2.1) no) no) no) no) no) no) no) no) no) (ae y0 (ae y1 (ae y2 (ae y3 (ae y4 (ae y5 (ae y6 (ae y7 (ae y8 (opt (dk (x.1.1,x.2)) λd=>ret (x.2.1,d)) no) no) no) no) no) no) no) no) no)
def ib:=λx=>(vI di jg x).val
theorem ahZ:∀bm dk,D1 [rW bm,Bc dk] [0] 169 kl (lf BW) λb=>vI bm dk b:=λ_ _ b=>by kernel_rfl
theorem ah0 [aA]:SC (Nq ib):=s0 (.c xH (.c Ij (.nil _))) (ahZ di jg)
def fQ:=qa (pu (cu jq nil) (cd wQ λb0=>(c m6 (c oG (c (cl (gs b0.c.1 pK) nil) (cd yd λb4=>(cd rb λb5=>(cd re λb6=>(cd rf λb7=>(cd rj λb8=>(cd rm λb9=>(c nK (cd Ap λBV=>(c (cl (gs b0.e mN) nil) (c (cl (gs b4.b.1 aC) nil) (c (cl (gs b5.b.1 aC) nil) (c (cl (gs b6.b.1 aC) nil) (c (cl (gs b7.b.1 aC) nil) (c (cl (gs b8.b.1 aC) nil) (c (cl (gs b9.b.1 aC) nil) (cl (cl (gs BV.b jJ) nil) nil)))))))))))))))))))))
def xI:=qe (res (pr ai (pl (cl (An wQ) axz) nil)))
abbrev qU:=xI.B
abbrev HF:=fQ.B->Option qU
def HG (g:HF):Ct:=(220,FC fQ (lf xI) g)
def mY (zW:R4)(x:fQ.B):Pg qU:=let n1:=x.1.1.2.2.2.2.2.2.2.2.2.2.2.2.2;opt (zW n1.1 n1.2.1 n1.2.2 x.1.2.1) λd=>ret (d.1.1,x.1.1,d.2,x.1.2.2)
def dG:=λx=>(mY py x).val
theorem Zv:∀zW,D0 [R5 zW] 220 fQ (lf xI) λb=>mY zW b:=λ_ b=>by kernel_rfl
theorem Zw [aA]:SC (HG dG):=s0 (.c anZ (.nil _)) (Zv py)
def oU:=qa (pr (cu jq Ey) (cd wQ λb0=>(c m6 (c oG (c (cl (gs b0.c.1 pK) nil) (cd yd λb4=>(cd rb λb5=>(cd re λb6=>(cd rf λb7=>(cd rj λb8=>(cd rm λb9=>(c nK (cd Ap λBV=>(c (cl (gs b0.e mN) nil) (c (cl (gs b4.b.1 aC) nil) (c (cl (gs b5.b.1 aC) nil) (c (cl (gs b6.b.1 aC) nil) (c (cl (gs b7.b.1 aC) nil) (c (cl (gs b8.b.1 aC) nil) (c (cl (gs b9.b.1 aC) nil) (cl (cl (gs BV.b jJ) nil) nil)))))))))))))))))))))
def Od:=qe asE
def akl:=qe (res (pu Q8 (pr (c (An (a 26 rn (c gb (c gK (a 2 sU (cu akz (cu akA (c aJW (au 6 akJ (cu auq (a 4 yb (cu aur (c gb (c gi (a 3 kv (c gb (cu axn (c gb aQ6)))))))))))))))))) aQ9) aKw)))
abbrev xJ:=Od.B⊕(((GJ×Bool×NI×(NI×NI)×Nat×se×Bool×Int×lJ×Bool×Bool×Int×Int×Int×Fv×Nat)×aS1×Int)×NI×NI×NI×NI×NI×NI×NI×NI×NI×NI)
def YR:xJ->T:=ls (lf Od) (λd=>lf akl (d.1,d.1.1.d.c.b.2,d.2))
abbrev YS:=oU.B->Option xJ
def YT (g:YS):Ct:=(167,FC oU YR g)
def Dn (ny:aaU)(bg:dP)(qV:HF)(VT:awr)(bc:pz)(VU:awa)(gB:KJ)(fI:rH)(jd:G0)(cV:Au)(aR:fM)(dk:Ba)(x:oU.B):Pg xJ:=let n8:=x.2.2;let bM:=n8.2.2.2;let n7:=x.2.1.2.2;let n9:=n7.2.2.2.2.2.2.2.2.2.2.2.2.2.2;let n6:=x.1.2.2.2;let n1:=bM.2;let n3:=n1.2.2.2;let cm:=n3.2.2.2;let y0:=z9 bM.1.2.2.1 bM.1.2.2.1;let y1:=z9 n1.1.2.2.1 n1.1.2.2.1;let y2:=z9 n1.2.1.2.2.1 n1.2.1.2.2.1;let y3:=z9 n1.2.2.1.2.2.1 n1.2.2.1.2.2.1;let y4:=z9 n3.1.2.2.1 n3.1.2.2.1;let y5:=z9 n3.2.1.2.2.1 n3.2.1.2.2.1;let y6:=z9 cm.1.2.2 cm.1.2.2;opt (ny x.1.1 x.1.2.1 x.1.2.2.1 n6.1 n6.2.1 n6.2.2.1 n6.2.2.2.1 n6.2.2.2.2.1 n6.2.2.2.2.2 x.2.1.2.1) λd=>let bo:=d.1.1;opt (bg n7.1) λak=>ae (z9 n7.2.2.1 n7.2.2.1) (ae (z9 n9 n9) (ae y0 (ae y1 (ae y2 (ae y3 (ae y4 (ae y5 (ae y6 (opt (qV ((x.2.1.1,d.2,n7),n8)) λaJ=>let n5:=aJ.2.2.2;let bk:=n5.2.2.2.2.2.2.2.2.2.2.2.2.2.2;let uM:=z9 n5.2.2.1 n5.2.2.1;let aAk:=z9 bk bk;opt (VT ak.1 ak.2.1 ak.2.2.1 ak.2.2.2 bo.1 bo.2.1 bo.2.2.1 bo.2.2.2 aJ.1 aJ.2.2.1) λbB=>ae (bB.1.2!=0) (ae uM (ae aAk (ae y0 (ae y1 (ae y2 (ae y3 (ae y4 (ae y5 (ae y6 (opt (bc (3,(aJ.2.1,bB.2,n5),n8)) λd=>ret (w7 ((aJ.2.1,bB.2,n5),d))) no) no) no) no) no) no) no) no) no) (opt (VU n5.1 n5.2.1.1 n5.2.1.2 bB.1.1 (aJ.2.1.2.2.2.2.2.2.2.1 0) bB.2) λcK=>ae uM (ae aAk (ae y0 (ae y1 (ae y2 (ae y3 (ae y4 (ae y5 (ae y6 (opt (gB (((cK.1.2.2,(0,0,0),0,0,0),1),(aJ.2.1,cK.2,cK.1.1,cK.1.2.1,n5.2.2),n8)) λeU=>let bH:=eU.1.2.2;let n2:=bH.2.2;let n16:=n2.2.2;let n4:=n16.2.2;let n15:=n4.2.2.2;opt (bg bH.1) λde=>opt (fI de.1 de.2.1 de.2.2.1 de.2.2.2 eU.1.2.1) λlG=>opt (jd lG.1 bo.1 bo.2.1 bo.2.2.1 lG.2) λd=>opt (cV bH.1 16 3 (cr d.1.1 [d.1.2.2,d.1.2.1,d.1.1]) false) λtP=>opt (aR tP d.2) λd=>ae (z9 n2.1 n2.1) (ae (z9 n15.2.2.2.2.2 n15.2.2.2.2.2) (ae y0 (ae y1 (ae y2 (ae y3 (ae y4 (ae y5 (ae y6 (opt (dk (3,(eU.1.1,d.2,d.1,bH.2.1,n2.1,n2.2.1,n16.1,n16.2.1,n4.1,n4.2.1,true,n15),n8.1,n8.2.1,n8.2.2.1,bM.1,n1.1,n1.2.1,n1.2.2.1,n3.1,n3.2.1,n3.2.2.1,cm.1,eU.2,cm.2.2)) λp8=>ret (ww (((eU.1.1,d.2,d.1,bH.2.1,n2.1,n2.2.1,n16.1,n16.2.1,n4.1,n4.2.1,n15),p8),eU.2))) no) no) no) no) no) no) no) no) no) no) no) no) no) no) no) no) no) no)) no) no) no) no) no) no) no) no) no
def mh:=λx=>(Dn wh cj dG Hh dJ zH iD jY oo fk bW jg x).val
theorem atX:∀ny bg qV VT bc VU gB fI jd cV aR dk,D0 [aaV ny,jb bg,HG qV,aws VT,pA bc,awb VU,KL gB,Eo fI,Ms jd,Em cV,jG aR,Bc dk] 167 oU YR λb=>Dn ny bg qV VT bc VU gB fI jd cV aR dk b:=λ_ _ _ _ _ _ _ _ _ _ _ _ b=>by kernel_rfl
theorem atY [aA]:SC (YT mh):=s0 (.c ann (.c kd (.c Zw (.c aLP (.c tF (.c aLI (.c YP (.c G7 (.c Vp (.c IM (.c kO (.c Ij (.nil _))))))))))))) (atX wh cj dG Hh dJ zH iD jY oo fk bW jg)
def oV:=qa (pr (cu jq (cl aKq nil)) (cd wQ λb0=>(c m6 (c oG (c (cl (gs b0.c.1 pK) nil) (cd yd λb4=>(cd rb λb5=>(cd re λb6=>(cd rf λb7=>(cd rj λb8=>(cd rm λb9=>(c nK (cd Ap λBV=>(c (cl (gs b0.e mN) nil) (c (cl (gs b4.b.1 aC) nil) (c (cl (gs b5.b.1 aC) nil) (c (cl (gs b6.b.1 aC) nil) (c (cl (gs b7.b.1 aC) nil) (c (cl (gs b8.b.1 aC) nil) (c (cl (gs b9.b.1 aC) nil) (cl (cl (gs BV.b jJ) nil) nil)))))))))))))))))))))
def apK:=qe aYT
abbrev xK:=((GJ×Bool×NI×(NI×NI)×Nat×se×Bool×Int×lJ×Bool×Bool×Bool×Int×Int×Int×Fv×Nat)×NI×NI×NI×NI×NI×NI×NI×NI×NI×NI)
def YU:xK->T:=λd=>lf apK (d.1,d.1.e,d.2)
abbrev YV:=oV.B->Option xK
def YW (g:YV):Ct:=(224,FC oV YU g)
def Dp (hM:zK)(Fh:aa1)(gB:KJ)(Bd:UJ)(JU:ajG)(x:oV.B):Pg xK:=let bH:=x.1.2;let n4:=x.2.1.2.2.2;let n8:=n4.2.2.2.2.2.2.2.2.2.2.2.2.2;let n3:=x.2.2;let bo:=n3.2.2;let n1:=bo.2.2;let bM:=n1.2.2.1;let n2:=n1.2.2.2;let n7:=n2.2.2.2;let y0:=z9 bo.2.1.2.2.1 bo.2.1.2.2.1;let y1:=z9 n1.1.2.2.1 n1.1.2.2.1;let y2:=z9 n1.2.1.2.2.1 n1.2.1.2.2.1;let y3:=z9 bM.2.2.1 bM.2.2.1;let y4:=z9 n2.1.2.2.1 n2.1.2.2.1;let y5:=z9 n2.2.1.2.2.1 n2.2.1.2.2.1;let y6:=z9 n7.1.2.2 n7.1.2.2;opt (hM x.1.1.1 x.1.1.2.1 x.1.1.2.2 n3.1.1.1 n3.1.1.2.1 n3.1.1.2.2 n3.1.2.1 n3.1.2.2 x.2.1.2.1) λd=>opt (Fh x.2.1.2.2.1 n4.1.1 n4.1.2 bH.1.1 bH.1.2.1 bH.1.2.2 bH.2.2 d.2) λak=>ae (z9 n4.2.1 n4.2.1) (ae (z9 n8 n8) (ae y0 (ae y1 (ae y2 (ae y3 (ae y4 (ae y5 (ae y6 (opt (gB ((((1073741824,0,0,0),ak.1.2.2,0,0,0),2),(x.2.1.1,ak.2,ak.1.1,ak.1.2.1,n4.2),n3)) λaJ=>let n6:=aJ.1.2.2.2;let n9:=n6.2.2.2.2.2.2.2.2.2.2.2.2.2;opt (Bd aJ.1.2.2.1 n6.1.1 n6.1.2 d.1.1.1 d.1.1.2.1 bH.2.1 aJ.1.2.1) λbB=>ae (z9 n6.2.1 n6.2.1) (ae (z9 n9 n9) (ae y0 (ae y1 (ae y2 (ae y3 (ae y4 (ae y5 (ae y6 (opt (gB ((((1073741824,0,0,0),(0,0,0),bB.1.2.2),3),(aJ.1.1,bB.2,bB.1.1,bB.1.2.1,n6.2),n3.1,n3.2.1,bo.1,bo.2.1,n1.1,n1.2.1,bM,n2.1,n2.2.1,n2.2.2.1,n7.1,aJ.2,n7.2.2)) λcK=>let n5:=cK.1.2.2.2;let bk:=n5.2.2.2.2.2.2.2.2.2.2.2.2.2;ae (n5.2.2.1.2.1==2) (opt (JU cK.1.2.2.1 n5.1.1 n5.1.2 d.1.1.2.2 bH.2.1 cK.1.2.1) λd=>ae (z9 n5.2.1 n5.2.1) (ae (z9 bk bk) (ae y0 (ae y1 (ae y2 (ae y3 (ae y4 (ae y5 (ae y6 (opt (gB ((((1073741824,0,0,0),(0,0,0),0,0,d.1.2.2),4),(cK.1.1,d.2,d.1.1,d.1.2.1,n5.2),n3.1,n3.2.1,bo.1,bo.2.1,n1.1,n1.2.1,bM,n2.1,n2.2.1,n2.2.2.1,n7.1,cK.2,n7.2.2)) λd=>ret d) no) no) no) no) no) no) no) no) no) (ret cK)) no) no) no) no) no) no) no) no) no) no) no) no) no) no) no) no) no) no
def mi:=λx=>(Dp jH nm iD kX qL x).val
theorem atZ:∀hM Fh gB Bd JU,D0 [E8 hM,aa2 Fh,KL gB,UK Bd,ajH JU] 224 oV YU λb=>Dp hM Fh gB Bd JU b:=λ_ _ _ _ _ b=>by kernel_rfl
theorem at1 [aA]:SC (YW mi):=s0 (.c Nb (.c awU (.c YP (.c apD (.c aC2 (.nil _)))))) (atZ jH nm iD kX qL)
def km:=qa (pr (cu jq Ey) (cd wQ λb0=>(c m6 (c oG (c (cl (gs b0.c.1 pK) nil) (cd yd λb4=>(cd rb λb5=>(cd re λb6=>(cd rf λb7=>(cd rj λb8=>(cd rm λb9=>(c nK (cd Ap λBV=>(c (cl (gs b0.e mN) nil) (c (cl (gs b4.b.1 aC) nil) (c (cl (gs b5.b.1 aC) nil) (c (cl (gs b6.b.1 aC) nil) (c (cl (gs b7.b.1 aC) nil) (c (cl (gs b8.b.1 aC) nil) (c (cl (gs b9.b.1 aC) nil) (cl (cl (gs BV.b jJ) nil) nil)))))))))))))))))))))
def BX:=qe asE
abbrev vJ:=BX.B
abbrev Ns:=km.B->Option vJ
def Nt (g:Ns):Ct:=(174,FC km (lf BX) g)
def vK (zT:anz)(JV:ajr)(D7:ajx)(bc:pz)(bm:rV)(x:km.B):Pg vJ:=let bH:=x.2.2;let n8:=x.2.1.1;let n7:=x.1.2.2.2;let n6:=n8.2.2.2.2.1.2.2.2.2.1;let n4:=x.2.1.2.2;let bo:=n4.2.2.2.2.2.2.2.2.2.2.2.2.2.2;let n3:=bH.2.2.2.2;let n9:=n3.2.2.2;let y0:=z9 n4.2.2.1 n4.2.2.1;let y1:=z9 bo bo;let y2:=z9 bH.2.2.2.1.2.2.1 bH.2.2.2.1.2.2.1;let y3:=z9 n3.1.2.2.1 n3.1.2.2.1;let y4:=z9 n3.2.1.2.2.1 n3.2.1.2.2.1;let y5:=z9 n3.2.2.1.2.2.1 n3.2.2.1.2.2.1;let y6:=z9 n9.1.2.2.1 n9.1.2.2.1;let y7:=z9 n9.2.1.2.2.1 n9.2.1.2.2.1;let y8:=z9 n9.2.2.2.1.2.2 n9.2.2.2.1.2.2;opt (zT x.1.1 x.1.2.1 x.1.2.2.1 n7.1 n7.2.1 n7.2.2.1 n7.2.2.2.1 n7.2.2.2.2.1 n7.2.2.2.2.2 x.2.1.2.1) λd=>opt (JV n4.1 d.1.1.1 d.1.1.2 n6 d.2) λd=>let n5:=d.1.1.2;let n1:=d.1.1.1;ae (d.1.2==0) (opt (D7 n4.1 17592186044416 n6 d.2) λak=>ae (ak.1.2==0) (ae y0 (ae y1 (ae y2 (ae y3 (ae y4 (ae y5 (ae y6 (ae y7 (ae y8 (opt (bm ((4,2,true),(n8,ak.2,n4),(azw (λk=>cr (n1 k) [ak.1.1.1 k,n1 k]) (cr n5.1 [ak.1.1.2.1,n5.1],cr n5.2.1 [ak.1.1.2.2.1,n5.2.1],cr n5.2.2 [ak.1.1.2.2.2,n5.2.2])),bH)) λd=>ret d.2.1) no) no) no) no) no) no) no) no) no) (ae y0 (ae y1 (ae y2 (ae y3 (ae y4 (ae y5 (ae y6 (ae y7 (ae y8 (opt (bm ((4,1,true),(n8,ak.2,n4),(λj=>bif z9 j 0 then n1 0 else n1 0,λj=>bif z9 j 0 then n1 1 else n1 1,λj=>bif z9 j 0 then n1 2 else n1 2,λj=>bif z9 j 0 then n1 3 else n1 3,λj=>bif z9 j 0 then n1 4 else n1 4,λj=>bif z9 j 0 then n1 5 else n1 5,λj=>bif z9 j 0 then n1 6 else n1 6,λj=>bif z9 j 0 then n1 7 else n1 7,λj=>bif z9 j 0 then n1 8 else n1 8,λj=>bif z9 j 0 then n1 9 else n1 9,λj=>bif z9 j 0 then n1 10 else n1 10,λj=>bif z9 j 0 then n1 11 else n1 11,λj=>bif z9 j 0 then n1 12 else n1 12,λj=>bif z9 j 0 then n1 13 else n1 13,λj=>bif z9 j 0 then n1 14 else n1 14,λj=>bif z9 j 0 then n1 15 else n1 15,λj=>bif z9 j 0 then n1 16 else n1 16,λj=>bif z9 j 0 then n1 17 else n1 17,λj=>bif z9 j 0 then n1 18 else n1 18,λj=>bif z9 j 0 then n1 19 else n1 19,λj=>bif z9 j 0 then n1 20 else n1 20,λj=>bif z9 j 0 then n1 21 else n1 21,λj=>bif z9 j 0 then n1 22 else n1 22,λj=>bif z9 j 0 then n1 23 else n1 23,λj=>bif z9 j 0 then n5.1 else n5.1,λj=>bif z9 j 0 then n5.2.1 else n5.2.1,λj=>bif z9 j 0 then n5.2.2 else n5.2.2),bH)) λd=>ret d.2.1) no) no) no) no) no) no) no) no) no)) (opt (D7 n4.1 17592186044416 n6 d.2) λd=>let bk:=d.1.1.2;let n2:=d.1.1.1;ae (d.1.2==0) (ae y0 (ae y1 (ae y2 (ae y3 (ae y4 (ae y5 (ae y6 (ae y7 (ae y8 (opt (bm ((4,1,true),(n8,d.2,n4),(λj=>bif z9 j 0 then n2 0 else n2 0,λj=>bif z9 j 0 then n2 1 else n2 1,λj=>bif z9 j 0 then n2 2 else n2 2,λj=>bif z9 j 0 then n2 3 else n2 3,λj=>bif z9 j 0 then n2 4 else n2 4,λj=>bif z9 j 0 then n2 5 else n2 5,λj=>bif z9 j 0 then n2 6 else n2 6,λj=>bif z9 j 0 then n2 7 else n2 7,λj=>bif z9 j 0 then n2 8 else n2 8,λj=>bif z9 j 0 then n2 9 else n2 9,λj=>bif z9 j 0 then n2 10 else n2 10,λj=>bif z9 j 0 then n2 11 else n2 11,λj=>bif z9 j 0 then n2 12 else n2 12,λj=>bif z9 j 0 then n2 13 else n2 13,λj=>bif z9 j 0 then n2 14 else n2 14,λj=>bif z9 j 0 then n2 15 else n2 15,λj=>bif z9 j 0 then n2 16 else n2 16,λj=>bif z9 j 0 then n2 17 else n2 17,λj=>bif z9 j 0 then n2 18 else n2 18,λj=>bif z9 j 0 then n2 19 else n2 19,λj=>bif z9 j 0 then n2 20 else n2 20,λj=>bif z9 j 0 then n2 21 else n2 21,λj=>bif z9 j 0 then n2 22 else n2 22,λj=>bif z9 j 0 then n2 23 else n2 23,λj=>bif z9 j 0 then bk.1 else bk.1,λj=>bif z9 j 0 then bk.2.1 else bk.2.1,λj=>bif z9 j 0 then bk.2.2 else bk.2.2),bH)) λd=>ret d.2.1) no) no) no) no) no) no) no) no) no) (ae y0 (ae y1 (ae y2 (ae y3 (ae y4 (ae y5 (ae y6 (ae y7 (ae y8 (opt (bc (4,(n8,d.2,n4),bH)) λak=>ret ((n8,d.2,n4),ak)) no) no) no) no) no) no) no) no) no))
def ig:=λx=>(vK Cj yT yU dJ di x).val
theorem ah1:∀zT JV D7 bc bm,D0 [anA zT,ajs JV,ajy D7,pA bc,rW bm] 174 km (lf BX) λb=>vK zT JV D7 bc bm b:=λ_ _ _ _ _ b=>by kernel_rfl
theorem ah2 [aA]:SC (Nt ig):=s0 (.c aBy (.c aCU (.c aCW (.c tF (.c xH (.nil _)))))) (ah1 Cj yT yU dJ di)
def oW:=qa (pr (cu jq Ey) (cd wQ λb0=>(c m6 (c oG (c (cl (gs b0.c.1 pK) nil) (cd yd λb4=>(cd rb λb5=>(cd re λb6=>(cd rf λb7=>(cd rj λb8=>(cd rm λb9=>(c nK (cd Ap λBV=>(c (cl (gs b0.e mN) nil) (c (cl (gs b4.b.1 aC) nil) (c (cl (gs b5.b.1 aC) nil) (c (cl (gs b6.b.1 aC) nil) (c (cl (gs b7.b.1 aC) nil) (c (cl (gs b8.b.1 aC) nil) (c (cl (gs b9.b.1 aC) nil) (cl (cl (gs BV.b jJ) nil) nil)))))))))))))))))))))
def Ik:=qe asE
abbrev Dq:=Ik.B
abbrev YX:=oW.B->Option Dq
def YY (g:YX):Ct:=(175,FC oW (lf Ik) g)
def Ds (vG:ahI)(VV:awF)(bc:pz)(bm:rV)(eG:Gw)(x:oW.B):Pg Dq:=let bk:=x.2.1;let n7:=x.2.2;let bo:=n7.2.2.2;let n6:=x.1.2.2.2;let n2:=bk.2.2;let n8:=n2.2.2.2.2.2.2.2.2.2.2.2.2.2.2;let n1:=bo.2;let n3:=n1.2.2.2;let y0:=z9 n2.2.2.1 n2.2.2.1;let y1:=z9 n8 n8;let y2:=z9 bo.1.2.2.1 bo.1.2.2.1;let y3:=z9 n1.1.2.2.1 n1.1.2.2.1;let y4:=z9 n1.2.1.2.2.1 n1.2.1.2.2.1;let y5:=z9 n1.2.2.1.2.2.1 n1.2.2.1.2.2.1;let y6:=z9 n3.1.2.2.1 n3.1.2.2.1;let y7:=z9 n3.2.1.2.2.1 n3.2.1.2.2.1;let y8:=z9 n3.2.2.2.1.2.2 n3.2.2.2.1.2.2;opt (vG x.1.1 x.1.2.1 x.1.2.2.1 n6.1 n6.2.1 n6.2.2.1 n6.2.2.2.1 n6.2.2.2.2.1 n6.2.2.2.2.2 bk.2.1) λd=>opt (VV n2.1 d.1.1.1 d.1.1.2.1 d.1.1.2.2.1 d.1.1.2.2.2 bk.1.2.2.2.2.1.2.2.2.2.2 d.2) λd=>sm d (λd=>ae (d.1!=0) (ae y0 (ae y1 (ae y2 (ae y3 (ae y4 (ae y5 (ae y6 (ae y7 (ae y8 (opt (bc (5,(bk.1,d.2,n2),n7)) λak=>ret ((bk.1,d.2,n2),ak)) no) no) no) no) no) no) no) no) no) no) (λd=>let n4:=d.2.2.2;ae y0 (ae y1 (ae y2 (ae y3 (ae y4 (ae y5 (ae y6 (ae y7 (ae y8 (opt (bm ((5,2,true),(bk.1,d.1,n2),(azw (λk=>cr (d.2.1 k) [n4.2.2.1 k,d.2.1 k]) (cr d.2.2.1 [n4.2.2.2,d.2.2.1],cr n4.1 [n4.1,n4.1],cr n4.2.1 [n4.2.1,n4.2.1])),n7)) λd=>let n5:=d.2.1.1.2.2.2.2;let n9:=n5.2.2.2.2.2.2.2.2.2.2.2.2;ae (z9 d.1 d.1) (ae (z9 n5.1 n5.1) (ae (z9 n9 n9) (ae y2 (ae y3 (ae y4 (ae y5 (ae y6 (ae y7 (ae y8 (opt (eG ((d.1,true),d.2.1.1,d.2.2,n7.1,n7.2.1,n7.2.2.1,bo.1,n1.1,n1.2.1,n1.2.2.1,n3.1,n3.2.1,d.2.1.2,n3.2.2.2)) λak=>ret (ak,d.2.1.2)) no) no) no) no) no) no) no) no) no) no) no) no) no) no) no) no) no) no) no)
def mj:=λx=>(Ds zL zM dJ di fZ x).val
theorem at2:∀vG VV bc bm eG,D0 [ahJ vG,awG VV,pA bc,rW bm,Gx eG] 175 oW (lf Ik) λb=>Ds vG VV bc bm eG b:=λ_ _ _ _ _ b=>by kernel_rfl
theorem at3 [aA]:SC (YY mj):=s0 (.c awC (.c aLT (.c tF (.c xH (.c R7 (.nil _)))))) (at2 zL zM dJ di fZ)
def pB:=qa (pu (cu jq nil) (cd wQ λb0=>(c m6 (c oG (c (cl (gs b0.c.1 pK) nil) (cd yd λb4=>(cd rb λb5=>(cd re λb6=>(cd rf λb7=>(cd rj λb8=>(cd rm λb9=>(c nK (cd Ap λBV=>(c (cl (gs b0.e mN) nil) (c (cl (gs b4.b.1 aC) nil) (c (cl (gs b5.b.1 aC) nil) (c (cl (gs b6.b.1 aC) nil) (c (cl (gs b7.b.1 aC) nil) (c (cl (gs b8.b.1 aC) nil) (c (cl (gs b9.b.1 aC) nil) (cl (cl (gs BV.b jJ) nil) nil)))))))))))))))))))))
def EP:=qe (res (pl (aa (c gi (c gi (c gb (c gb (c gi (c gi (c gi (c gb (c gb aQO)))))))))) (pu (cu fN axz) nil)))
abbrev zX:=EP.B
abbrev Gy:=pB.B->Option zX
def Gz (g:Gy):Ct:=(16,FC pB (lf EP) g)
def zY (sP:I5)(xW:N')(x:pB.B):Pg zX:=let n3:=x.1.2.2.2.2.2;let n2:=n3.2.2.2.2.2.2.2.2;let n4:=n2.2.2.1;let n1:=x.2.2.2.2.2.2.2.2.2.2.1;let n5:=n1.1.2.2;opt (sP n2.1 n1.1.1 n1.1.2.1 n5.1 n5.2.1 n5.2.2.1 n5.2.2.2 n1.2) λd=>opt (xW n1.1.1 n1.1.2.1 n5.1 n5.2.1 n5.2.2.1 n5.2.2.2 n1.2) λak=>ret (n3.1.1,n3.1.2.1,n3.1.2.2.1,n3.1.2.2.2,n2.1,d,n2.2.1,ak,x.1.2.1,n4.1.1,n4.1.2.1,n4.1.2.2.1,n4.1.2.2.2,n4.2.1.1,n4.2.1.2.1,n4.2.1.2.2,n4.2.2)
def jO:=λx=>(zY nW qX x).val
theorem an2:∀sP xW,D0 [I6 sP,Oa xW] 16 pB (lf EP) λb=>zY sP xW b:=λ_ _ b=>by kernel_rfl
theorem R8 [aA]:SC (Gz jO):=s0 (.c adm (.c akg (.nil _))) (an2 nW qX)
def Fi:=qa (pu (cu jq nil) (cd wQ λb0=>(c m6 (c oG (c (cl (gs b0.c.1 pK) nil) (cd yd λb4=>(cd rb λb5=>(cd re λb6=>(cd rf λb7=>(cd rj λb8=>(cd rm λb9=>(c nK (cd Ap λBV=>(c (cl (gs b0.e mN) nil) (c (cl (gs b4.b.1 aC) nil) (c (cl (gs b5.b.1 aC) nil) (c (cl (gs b6.b.1 aC) nil) (c (cl (gs b7.b.1 aC) nil) (c (cl (gs b8.b.1 aC) nil) (c (cl (gs b9.b.1 aC) nil) (cl (cl (gs BV.b jJ) nil) nil)))))))))))))))))))))
def KM:=qe (res (pl aYl (pu (cu fN axz) nil)))
abbrev aa6:=KM.B
abbrev awV:=Fi.B->Option aa6
def aa7 (g:awV):Ct:=(40,FC Fi (lf KM) g)
def aa8 (ue:Lj)(x:Fi.B):Pg aa6:=let n2:=x.2.2.2.2.2.2.2.2.2.2.2;let n1:=n2.2.2.2.2.2.2.2.2;let n3:=n1.2.2.2.2.2;ae (z9 n2.1.2.2 n2.1.2.2) (opt (ue n2.1.1 n2.1.2.1 n2.1.2.2 n1.1 n1.2.1 n1.2.2.1 n1.2.2.2.1 n1.2.2.2.2.1 n3.1 n3.2.1 n3.2.2.1 n3.2.2.2.1 n3.2.2.2.2.1 n3.2.2.2.2.2) λd=>ret d) no
def aa9:=λx=>(aa8 BQ x).val
theorem awW:∀ue,D0 [Lk ue] 40 Fi (lf KM) λb=>aa8 ue b:=λ_ b=>by kernel_rfl
theorem awX [aA]:SC (aa7 aa9):=s0 (.c aeU (.nil _)) (awW BQ)
def iF:=qa (pr (cu jq Ey) (cd wQ λb0=>(c m6 (c oG (c (cl (gs b0.c.1 pK) nil) (cd yd λb4=>(cd rb λb5=>(cd re λb6=>(cd rf λb7=>(cd rj λb8=>(cd rm λb9=>(c nK (cd Ap λBV=>(c (cl (gs b0.e mN) nil) (c (cl (gs b4.b.1 aC) nil) (c (cl (gs b5.b.1 aC) nil) (c (cl (gs b6.b.1 aC) nil) (c (cl (gs b7.b.1 aC) nil) (c (cl (gs b8.b.1 aC) nil) (c (cl (gs b9.b.1 aC) nil) (cl (cl (gs BV.b jJ) nil) nil)))))))))))))))))))))
def VW:=qe (res (pu Q8 (pr (c (An (a 26 rn (c gb (c gK (a 2 sU (cu akz (cu akA (c aJW (au 6 akJ (cu auq (a 4 yb (cu aur (c gb (c gi (a 3 kv (c gb (c gb (cu axn aQ6)))))))))))))))))) aQ9) aKw)))
def Fj:=qe asE
abbrev nZ:=(((GJ×Bool×NI×(NI×NI)×Nat×se×Bool×Int×lJ×Bool×Bool×Int×Int×Fv×Nat)×aS1×Int)×NI×NI×NI×NI×NI×NI×NI×NI×NI×NI)⊕Fj.B
def I':nZ->T:=ls (λd=>lf VW (((d.1.1.1,d.1.1.2.1,d.1.1.b.1,d.1.1.b.2.1,d.1.1.c.1,d.1.1.c.2.1,d.1.1.c.b.1,d.1.1.c.b.2.1,d.1.1.d.1,d.1.1.d.2.1,d.1.1.d.b.1,d.1.1.d.b.2.1,d.1.1.d.b.2),d.1.2),d.1.1.d.c.b,d.2)) (lf Fj)
abbrev Ja:=iF.B->Option nZ
def Jb (g:Ja):Ct:=(168,FC iF I' g)
def sQ (vF:ahw)(Dt:YV)(dk:Ba)(Hm:aeI)(Du:X8)(GA:anb)(bm:rV)(eG:Gw)(gC:Gh)(x:iF.B):Pg nZ:=let n25:=x.1.2.2.2;let n22:=x.2.1.1;let n58:=n22.2.2.2.2;let n9:=x.2.1.2.2;let cm:=n9.2.2.2.2.2.2.2.2.2;let n7:=x.2.2;let n47:=n7.2.1;let n16:=n7.2.2;let n32:=n16.2.1;let n4:=n16.2.2;let n33:=n4.2.1;let n23:=n4.2.2.1;let n6:=n4.2.2.2;let n34:=n6.2.1;let n17:=n6.2.2.2;let y0:=n9.2.2.2.1.2.1==2;let y1:=z9 n9.2.2.1 n9.2.2.1;let y2:=z9 cm.2.2.2.2.2 cm.2.2.2.2.2;let y3:=z9 n32.2.2.1 n32.2.2.1;let y4:=z9 n4.1.2.2.1 n4.1.2.2.1;let y5:=z9 n33.2.2.1 n33.2.2.1;let y6:=z9 n23.2.2.1 n23.2.2.1;let y7:=z9 n6.1.2.2.1 n6.1.2.2.1;let y8:=z9 n34.2.2.1 n34.2.2.1;let y9:=z9 n17.1.2.2 n17.1.2.2;opt (vF x.1.1 x.1.2.1 x.1.2.2.1 n25.1 n25.2.1 n25.2.2.1 n25.2.2.2.1 n25.2.2.2.2.1 n25.2.2.2.2.2 x.2.1.2.1) λd=>let n57:=d.1.1;let bM:=n57.2.2;let n38:=bM.2.2;let n1:=((n57.1,n57.2.1,bM.1),(bM.2.1,n38.1,n38.2.1),n38.2.2);let n3:=(Dt (n1,(n22,d.2,n9),n7));let n2:=(n9.1,n1,n58.1.1);ae (!cm.1) (ae y1 (ae y2 (ae y3 (ae y4 (ae y5 (ae y6 (ae y7 (ae y8 (ae y9 (opt n3 λd=>let bk:=d.1.2.2.2.2;let n26:=bk.2.2.2.2;let n48:=n26.2.2.2.2.2;ae (z9 bk.1 bk.1) (ae (z9 n48.2.2.2 n48.2.2.2) (ae y3 (ae y4 (ae y5 (ae y6 (ae y7 (ae y8 (ae y9 (opt (dk (0,d.1,n7.1,n47,n16.1,n32,n4.1,n33,n23,n6.1,n34,n6.2.2.1,n17.1,d.2,n17.2.2)) λak=>ret (w7 (((d.1.1,d.1.2.1,d.1.2.2.1,d.1.2.2.2.1,bk.1,bk.2.1,bk.2.2.1,bk.2.2.2.1,n26.1,n26.2.1,n26.2.2.1,n48),ak),d.2))) no) no) no) no) no) no) no) no) no) no) no) no) no) no) no) no) no) no) (ae (decide (wI (cm.2.2.1-cm.2.1)>n58.2.2.2.2.1)) (ae y1 (ae y2 (ae y3 (ae y4 (ae y5 (ae y6 (ae y7 (ae y8 (ae y9 (opt n3 λd=>let bo:=d.1.2.2.2.2;let n27:=bo.2.2.2.2;let n49:=n27.2.2.2.2.2;ae (z9 bo.1 bo.1) (ae (z9 n49.2.2.2 n49.2.2.2) (ae y3 (ae y4 (ae y5 (ae y6 (ae y7 (ae y8 (ae y9 (opt (dk (0,d.1,n7.1,n47,n16.1,n32,n4.1,n33,n23,n6.1,n34,n6.2.2.1,n17.1,d.2,n17.2.2)) λak=>ret (w7 (((d.1.1,d.1.2.1,d.1.2.2.1,d.1.2.2.2.1,bo.1,bo.2.1,bo.2.2.1,bo.2.2.2.1,n27.1,n27.2.1,n27.2.2.1,n49),ak),d.2))) no) no) no) no) no) no) no) no) no) no) no) no) no) no) no) no) no) no) (opt (Hm n9.1 n57.1 n57.2.1 bM.1 bM.2.1 n38.1 n38.2.1 n38.2.2.1 n38.2.2.2 n58.1.1 d.2) λak=>let n35:=ak.2.1;let n24:=ak.2.2.1;let n8:=ak.2.2.2;let n55:=n8.2.2.1;let n36:=n8.2.1;let n5:=n8.2.2.2;let n56:=n5.2.2.1;let bH:=n5.2.2.2;let n37:=bH.2.2;opt (Du (n2,ak.1,n7.1)) λaJ=>sm aJ (λbB=>ae y0 (opt (GA (n2,bB.2,n7.1)) λd=>ae y1 (ae y2 (ae y3 (ae y4 (ae y5 (ae y6 (ae y7 (ae y8 (ae y9 (opt (bm ((0,4,true),(n22,d.2,n9),(azw (λk=>cr (n35 k) [d.1.1.1 k,bH.1 k,n55 k,n35 k]) (cr n24 [d.1.1.2.1,bH.2.1,n5.1,n24],cr n8.1 [d.1.1.2.2.1,n37.1,n5.2.1,n8.1],cr n36 [d.1.1.2.2.2,n37.2,n56,n36])),n7)) λd=>let n39:=d.2.2;let n18:=d.2.1;let n50:=n18.1.2.2.2.2;let YZ:=n18.2.1.2;let n28:=n50.2.2.2.2.2.2.2.2.2.2.2.2;let y0:=wI (ws d.1-1);let y1:=z4 y0;ae (z9 d.1 d.1) (ae (z9 n50.1 n50.1) (ae (z9 n28 n28) (ae y3 (ae y4 (ae y5 (ae y6 (ae y7 (ae y8 (ae y9 (opt (eG ((d.1,true),n18.1,n39,n7.1,n47,n16.1,n32,n4.1,n33,n23,n6.1,n34,n18.2,n17)) λcK=>ae (cK.2.2.2.2.2.1.2.1==2) (ae (aZ 2 d.1) (ae (aZ y0 d.1) (opt (gC (n39.1 2) (n39.2.1 2) (n39.2.2 2) (n39.1 y1) (n39.2.1 y1) (n39.2.2 y1) n18.2.1.1 YZ.1 YZ.2.1 YZ.2.2.1 YZ.2.2.2.1 YZ.2.2.2.2 n18.2.2) λd=>ret (ww (cK,d))) no) no) (ret (ww (cK,n18.2)))) no) no) no) no) no) no) no) no) no) no) no) no) no) no) no) no) no) no) no) (ae y1 (ae y2 (ae y3 (ae y4 (ae y5 (ae y6 (ae y7 (ae y8 (ae y9 (opt (bm ((0,3,true),(n22,bB.2,n9),(azw (λk=>cr (n35 k) [bH.1 k,n55 k,n35 k]) (cr n24 [bH.2.1,n5.1,n24],cr n8.1 [n37.1,n5.2.1,n8.1],cr n36 [n37.2,n56,n36])),n7)) λd=>let Jc:=d.2.2;let n19:=d.2.1;let n51:=n19.1.2.2.2.2;let Zx:=n19.2.1.2;let n29:=n51.2.2.2.2.2.2.2.2.2.2.2.2;let y0:=wI (ws d.1-1);let y1:=z4 y0;ae (z9 d.1 d.1) (ae (z9 n51.1 n51.1) (ae (z9 n29 n29) (ae y3 (ae y4 (ae y5 (ae y6 (ae y7 (ae y8 (ae y9 (opt (eG ((d.1,true),n19.1,Jc,n7.1,n47,n16.1,n32,n4.1,n33,n23,n6.1,n34,n19.2,n17)) λcK=>ae (cK.2.2.2.2.2.1.2.1==2) (ae (aZ 2 d.1) (ae (aZ y0 d.1) (opt (gC (Jc.1 2) (Jc.2.1 2) (Jc.2.2 2) (Jc.1 y1) (Jc.2.1 y1) (Jc.2.2 y1) n19.2.1.1 Zx.1 Zx.2.1 Zx.2.2.1 Zx.2.2.2.1 Zx.2.2.2.2 n19.2.2) λd=>ret (ww (cK,d))) no) no) (ret (ww (cK,n19.2)))) no) no) no) no) no) no) no) no) no) no) no) no) no) no) no) no) no) no) no)) (λbB=>let n59:=bB.2.2;let n15:=n59.2.2;let n52:=n15.2.2;ae y0 (opt (GA (n2,bB.1,n7.1)) λd=>ae y1 (ae y2 (ae y3 (ae y4 (ae y5 (ae y6 (ae y7 (ae y8 (ae y9 (opt (bm ((0,6,true),(n22,d.2,n9),(azw (λk=>cr (n35 k) [d.1.1.1 k,n15.2.1 k,bB.2.1 k,bH.1 k,n55 k,n35 k]) (cr n24 [d.1.1.2.1,n52.1,n59.1,bH.2.1,n5.1,n24],cr n8.1 [d.1.1.2.2.1,n52.2.1,n59.2.1,n37.1,n5.2.1,n8.1],cr n36 [d.1.1.2.2.2,n52.2.2,n15.1,n37.2,n56,n36])),n7)) λd=>let n43:=d.2.2;let n20:=d.2.1;let n53:=n20.1.2.2.2.2;let n44:=n20.2.1.2;let n30:=n53.2.2.2.2.2.2.2.2.2.2.2.2;let y0:=wI (ws d.1-1);let y1:=z4 y0;ae (z9 d.1 d.1) (ae (z9 n53.1 n53.1) (ae (z9 n30 n30) (ae y3 (ae y4 (ae y5 (ae y6 (ae y7 (ae y8 (ae y9 (opt (eG ((d.1,true),n20.1,n43,n7.1,n47,n16.1,n32,n4.1,n33,n23,n6.1,n34,n20.2,n17)) λcK=>ae (cK.2.2.2.2.2.1.2.1==2) (ae (aZ 2 d.1) (ae (aZ y0 d.1) (opt (gC (n43.1 2) (n43.2.1 2) (n43.2.2 2) (n43.1 y1) (n43.2.1 y1) (n43.2.2 y1) n20.2.1.1 n44.1 n44.2.1 n44.2.2.1 n44.2.2.2.1 n44.2.2.2.2 n20.2.2) λd=>ret (ww (cK,d))) no) no) (ret (ww (cK,n20.2)))) no) no) no) no) no) no) no) no) no) no) no) no) no) no) no) no) no) no) no) (ae y1 (ae y2 (ae y3 (ae y4 (ae y5 (ae y6 (ae y7 (ae y8 (ae y9 (opt (bm ((0,5,true),(n22,bB.1,n9),(azw (λk=>cr (n35 k) [n15.2.1 k,bB.2.1 k,bH.1 k,n55 k,n35 k]) (cr n24 [n52.1,n59.1,bH.2.1,n5.1,n24],cr n8.1 [n52.2.1,n59.2.1,n37.1,n5.2.1,n8.1],cr n36 [n52.2.2,n15.1,n37.2,n56,n36])),n7)) λd=>let n45:=d.2.2;let n21:=d.2.1;let n54:=n21.1.2.2.2.2;let n46:=n21.2.1.2;let n31:=n54.2.2.2.2.2.2.2.2.2.2.2.2;let y0:=wI (ws d.1-1);let y1:=z4 y0;ae (z9 d.1 d.1) (ae (z9 n54.1 n54.1) (ae (z9 n31 n31) (ae y3 (ae y4 (ae y5 (ae y6 (ae y7 (ae y8 (ae y9 (opt (eG ((d.1,true),n21.1,n45,n7.1,n47,n16.1,n32,n4.1,n33,n23,n6.1,n34,n21.2,n17)) λcK=>ae (cK.2.2.2.2.2.1.2.1==2) (ae (aZ 2 d.1) (ae (aZ y0 d.1) (opt (gC (n45.1 2) (n45.2.1 2) (n45.2.2 2) (n45.1 y1) (n45.2.1 y1) (n45.2.2 y1) n21.2.1.1 n46.1 n46.2.1 n46.2.2.1 n46.2.2.2.1 n46.2.2.2.2 n21.2.2) λd=>ret (ww (cK,d))) no) no) (ret (ww (cK,n21.2)))) no) no) no) no) no) no) no) no) no) no) no) no) no) no) no) no) no) no) no))))
def gf:=λx=>(sQ zI mi jg wK rQ BK di fZ mb x).val
theorem adt:∀vF Dt dk Hm Du GA bm eG gC,D0 [ahx vF,YW Dt,Bc dk,aeJ Hm,X9 Du,anc GA,rW bm,Gx eG,Gi gC] 168 iF I' λb=>sQ vF Dt dk Hm Du GA bm eG gC b:=λ_ _ _ _ _ _ _ _ _ b=>by kernel_rfl
theorem adu [aA]:SC (Jb gf):=s0 (.c awm (.c at1 (.c Ij (.c ayQ (.c atC (.c aGt (.c xH (.c R7 (.c Yr (.nil _)))))))))) (adt zI mi jg wK rQ BK di fZ mb)
end Go.Proofs.YtldgljclcgaibaaGreat
namespace Go.Proofs.YtldgljclcgaibaaGreat
open Go.Ab Go.Ab.Pg
theorem arO (x:Int):vi x=some (decide (0<=x)&&decide (x<6)):=by
 simp only[vi,VJ,bN,bP];by_cases h0:0<=x<;>simp[h0]
theorem a0f {x:Int}(h:(decide (0<=x)&&decide (x<6))=true)(k:Nat)(hk:k<=6):aZ x 6=true/\wr (0+z4 x*6+k) 36=true/\wr (0+z4 x*6+k) 37=true:=by
 simp only[cL,j7] at h;simp only[bp,ch];omega
instance aH9 (x0:Int)(x1:Int)(x2:Nat->Int)(x3:Nat->Int)(x4:Nat->Bool)(x5:Nat->Int)(x6:Nat->Int)(x7:Nat->Int)(x8:Int):bA (nV x0 x1 x2 x3 x4 x5 x6 x7 x8):=by
 unfold nV AD;refine aK ?_;rw[arO,cz,aM];refine⟨λh=> ?_,λ_=>by rw[aw];trivial⟩;obtain⟨h1,h2,h3⟩:=a0f h 6 (by omega);simp only[bU,h1,h2,SU,On,FH]
theorem AO (x0:Int)(x1:Int)(x2:Nat)(x3:Nat->Int)(x4:Nat->Int)(x5:Nat->Bool)(x6:Nat->Int)(x7:Nat->Int)(x8:Nat->Int)(x9:Int)(gw:Nat->Bool)(gx:Nat->Int)(EC:Nat->Int)(w0:Bool)(h:x2<=1999):bA (nU x0 x1 x2 x3 x4 x5 x6 x7 x8 x9 gw gx EC w0):=by
 have tc:=λa b c e=>arA x2 a b c e h
 unfold nU Az;try dsimp only
 refine aK ?_;rw[arO,cz,aM];refine⟨λ_=>by rw[aw];trivial,λh=> ?_⟩;rw[aEr] at h;obtain⟨h1,h2,h3⟩:=a0f h 3 (by omega);simp only[bU,h1,h2,h3,Bool.and_self,aS,SU,On,FH]
theorem VX:∀(d:eQ.B) (hd:0<=d.1.2.2/\d.1.2.2<=6),Ok (xr d) (λx:ma=>True):=
 bT (λd:eQ.B=>z4 (6-d.1.2.2)) (λd hd=>by
  have hw:wI (d.1.2.2+1)=d.1.2.2+1:=bf;unfold xq;simp only[bU];simp only[nf,pL,uL,hw];repeat' (first|exact True.intro|omega|(intro _)|(apply And.intro))) (λd hd=>by omega)
instance aIa (x0:Int)(x1:Nat->Int)(x2:Nat->Int)(x3:Nat->Bool)(x4:Nat->Int)(x5:Nat->Int)(x6:Nat->Int)(x7:Int):bA (nW x0 x1 x2 x3 x4 x5 x6 x7):=by
 unfold nW AE;refine aK ?_;refine ax (VX _ (by simp)) λd _ hd=> ?_;simp only[bU]
instance a7E (x:Int)(eJ:Bool):bA (CL x eJ):=by
 have h1:=mT x;obtain⟨a,b,q,e,ho,hq,hv,_⟩:=amU (sat x) 30 (by omega) (by omega) (by omega);unfold CL agK;refine aK ?_;rw[pj,cz,aM];refine⟨λ_=>by rw[aw];trivial,λc=> ?_⟩;have c:=wS c;have e30:(2:Int)^30=1073741824:=rfl;have q1:q=true:=by rw[hq,e30];omega
 have v:=hv q1;rw[e30] at v;have e':vZ (sat x) 30=some ((a,b),q):=e
 have h0:0<=a:=by
  obtain⟨o1,o2,o3,o4⟩:=ho;simp only[vW] at v;omega
 obtain⟨r,hr,_,_⟩:=atu a b ho h0;rw[e',cz,ahq a b r _ ho h0 hr,cz,aw];trivial
instance a5W (x0:Nat->Int)(x3:Bool)(x4:Nat->Int)(w0:Bool):bA (gA x0 4 3 x3 x4 w0):=Ys _ _ _ _ _ _ (by omega) (by omega)
instance a5X (x0:Nat->Int)(x3:Bool)(x4:Nat->Int)(w0:Bool):bA (gA x0 7 2 x3 x4 w0):=Ys _ _ _ _ _ _ (by omega) (by omega)
instance a5Y (x0:Nat->Int)(x3:Bool)(x4:Nat->Int)(w0:Bool):bA (gA x0 9 1 x3 x4 w0):=Ys _ _ _ _ _ _ (by omega) (by omega)
instance a2m (x0:Nat->Int)(x1:Int)(x2:Bool):bA (lz x0 x1 x2):=by
 unfold lz ahP;exact aK (by simp only[bU,ry])
instance a1h (x0:Nat->Int)(x1:Int)(x2:Int)(x3:Int)(x4:Int)(x5:Int)(x6:Int)(x7:Int)(x8:Int)(x9:Int)(gw:Int)(gx:Int):bA (sM x0 x1 x2 x3 x4 x5 x6 x7 x8 x9 gw gx):=by
 unfold sM ado;exact aK (by simp only[bU,ry])
instance a1i (x:AI.B):bA (wj x):=by
 unfold wj QS;try dsimp only
 exact aK (by simp only[bU,ry])
instance aHe (x:gQ.B):bA (eK x):=by
 unfold eK qS;exact aK (by simp only[bU,ry])
instance aMM (x:nH.B):bA (ln x):=by
 unfold ln xU;exact aK (by simp only[bU,ry])
instance a0g (x0:Int)(x1:Int)(x2:Int):bA (nY x0 x1 x2):=by
 unfold nY Nh;exact aK (by simp only[bU,ry])
instance a2n (x0:Int)(x1:Int)(x2:Int):bA (zQ x0 x1 x2):=by
 unfold zQ ahS;exact aK (by simp only[bU,ry])
instance aTZ (x0:Nat->Int)(x1:Nat->Int)(x2:Nat->Int)(x3:Int)(x4:Int)(x5:Int)(x6:Int)(x7:Bool):bA (nm x0 x1 x2 x3 x4 x5 x6 x7):=by
 unfold nm Fa;try dsimp only
 exact aK (by simp only[bU,ry])
instance aPM (x0:Nat->Int)(x1:Nat->Int)(x2:Nat->Int)(x3:Int)(x4:Int)(x5:Int)(x6:Bool):bA (kX x0 x1 x2 x3 x4 x5 x6):=by
 unfold kX A';try dsimp only
 exact aK (by simp only[bU,ry])
instance aWw (x0:Nat->Int)(x1:Nat->Int)(x2:Nat->Int)(x3:Int)(x4:Int)(x5:Bool):bA (qL x0 x1 x2 x3 x4 x5):=by
 unfold qL JS;exact aK (by simp only[bU,ry])
instance aDF (x:iI.B):bA (fV x):=by
 unfold fV vp;try dsimp only
 exact aK (by simp only[bU,ry])
instance aBE (x:gH.B):bA (fy x):=by
 unfold fy tu;try dsimp only
 exact aK (by simp only[bU,ry])
instance aSb (x0:Int):bA (xx x0):=by
 unfold xx KA;exact aK (by simp only[bU,ry])
instance aOU (x0:Int)(x1:Int):bA (mf x0 x1):=by
 unfold mf Gn;exact aK (by simp only[bU,ry])
instance aPN:bA nd:=by
 unfold nd Ig;exact aK (by simp only[bU,ry])
instance a5Z (x0:Int):bA (PG x0):=by
 unfold PG ao5;exact aK (by simp only[bU,ry])
theorem ay3:∀(d:kQ.B) (hd:0<=d.1/\d.1<=3),Ok (JR d) (λx:yV=>True):=
 bT (λd:kQ.B=>z4 (3-d.1)) (λd hd=>by
  have hw:wI (d.1+1)=d.1+1:=bf;unfold JQ;simp only[bU];simp only[nf,pL,uL,hw];repeat' (first|exact True.intro|omega|(intro _)|(apply And.intro))) (λd hd=>by omega)
theorem aGH:∀(d:me.B) (hd:0<=d.1.2/\d.1.2<=24),Ok (I9 d) (λx:Ew=>True):=
 bT (λd:me.B=>z4 (24-d.1.2)) (λd hd=>by
  have hw:wI (d.1.2+1)=d.1.2+1:=bf;unfold QW;simp only[bU];simp only[nf,pL,uL,hw];repeat' (first|exact True.intro|omega|(intro _)|(apply And.intro))) (λd hd=>by omega)
instance a1j (x0:Int)(x1:Int)(x2:Int)(x3:Int)(x4:Int)(x5:Int)(x6:Int)(x7:Int):bA (AH x0 x1 x2 x3 x4 x5 x6 x7):=by
 unfold AH QQ;refine aK ?_;refine ax (ay3 _ (by simp)) λd _ hd=> ?_;simp only[bU]
instance aOV (x:mc.B):bA (hO x):=by
 unfold hO zP;try dsimp only
 exact aK (by simp only[bU,ry])
instance a34 (x:Gl.B):bA (pw x):=by
 have key:∀d,(0<=d.1.2/\d.1.2<=24)->∀(k1 k2),(∀a,PQ (k1 a) λ_=>True)->(∀a,PQ (k2 a) λ_=>True)->PQ (opt (I9 d) λx=>sum x k1 k2) (δ:=anT) (λ_=>True):=λd hd k1 k2 h1 h2=>by
  refine ax (aGH d hd) λx _ _=> ?_;rw[og];exact⟨λa _=>h1 a,λa _=>h2 a⟩
 unfold pw aa3;try dsimp only
 refine aK ?_;repeat' (first|(rw[aM];refine⟨λ_=>by rw[aw];trivial,λ_=> ?_⟩)|(rw[bI];intro _ _))
 refine key _ (by simp) _ _ (λ_=>by rw[aw];trivial) (λ_=> ?_);simp only[bU]
theorem PI (n:Nat):∀(d:cZ.B) (hd:0<=d.1.2.2/\d.1.2.2<=d.1.2.1/\d.1.2.1<=1999/\d.1.2.1=((d.1.1:Nat):Int)/\d.2.1.2.2=d.1.1/\d.1.1=n),Ok (ns d) (λx:jM=>x.1.1=n):=
 bT (λd:cZ.B=>z4 (d.1.2.1-d.1.2.2)) (λd hd=>by
  have hw:wI (d.1.2.2+1)=d.1.2.2+1:=bf;unfold tv;simp only[bU];simp only[nf,pL,uL,hw];repeat' (first|exact True.intro|exact hd.c.1|exact hd.c.2|omega|(intro _)|(apply And.intro))) (λd hd=>by omega)
theorem PJ (n:Nat):∀(d:c7.B) (hd:0<=d.1.2.2/\d.1.2.2<=d.1.2.1/\d.1.2.1<=1999/\d.1.2.1=((d.1.1:Nat):Int)/\d.2.1.2.2=d.1.1/\d.1.1=n),Ok (nu d) (λx:jN=>x.1.1=n):=
 bT (λd:c7.B=>z4 (d.1.2.1-d.1.2.2)) (λd hd=>by
  have hw:wI (d.1.2.2+1)=d.1.2.2+1:=bf;unfold tw;simp only[bU];simp only[nf,pL,uL,hw];repeat' (first|exact True.intro|exact hd.c.1|exact hd.c.2|omega|(intro _)|(apply And.intro))) (λd hd=>by omega)
theorem Uc (x:iJ.B)(h:x.1.2.2<=1999):Ok (iK x) (λr:vr=>r.2.1=x.1.2.2):=by
 unfold iK vu;show PQ _ _;rw[aS,bQ];refine⟨rfl,ax (PI x.1.2.2 _ ?_) λd _ hd=> ?_⟩
 .dsimp only;simp only[dQ];exact⟨by omega,by omega,by omega,trivial,trivial,trivial⟩
 .rw[aw];exact hd
theorem Ud (x:iL.B)(h:x.1.2.2<=1999):Ok (iM x) (λr:vy=>r.2.1=x.1.2.2):=by
 unfold iM vA;show PQ _ _;rw[aS,bQ];refine⟨rfl,ax (PJ x.1.2.2 _ ?_) λd _ hd=> ?_⟩
 .dsimp only;simp only[dQ];exact⟨by omega,by omega,by omega,trivial,trivial,trivial⟩
 .rw[aw];exact hd
theorem Nu:∀(d:dr.B) (hd:0<=d.1.2.2.2.2/\d.1.2.2.2.2<=d.1.2.2.2.1/\d.1.2.2.2.1<=1999/\d.1.2.2.2.1=((d.1.2.2.1.1:Nat):Int)),Ok (qQ d) (λx:iQ=>True):=
 bT (λd:dr.B=>z4 (d.1.2.2.2.1-d.1.2.2.2.2)) (λd hd=>by
  have hw:wI (d.1.2.2.2.2+1)=d.1.2.2.2.2+1:=bf;unfold qP;simp only[bU];simp only[nf,pL,uL,hw];repeat' (first|exact True.intro|omega|(intro _)|(apply And.intro))) (λd hd=>by omega)
theorem R9 (x0:Nat)(x1:Nat)(x2:Nat->Int)(x3:Nat->Int)(w0:Bool)(w1:Bool)(h:x0<=1999):bA (gI x0 x1 x2 x3 w0 w1):=by
 unfold gI tx;refine aK ?_;rw[aS,aS,bQ,bQ];refine⟨rfl,rfl,ax (Nu _ (hdN x0 h)) λd _ hd=> ?_⟩;simp only[bU]
instance a35 (x2 x3:Nat->Int)(w0 w1:Bool):bA (gI 8 8 x2 x3 w0 w1):=R9 _ _ _ _ _ _ (by omega)
instance aWx (x:D4.B):bA (uA x):=by
 unfold uA T';try dsimp only
 exact aK (by simp only[bU,ry])
theorem qk (n:Nat):∀(d:ba.B) (hd:0<=d.1.2.2.1/\d.1.2.2.1<=d.1.2.2.2/\d.1.2.2.2<=(n:Int)/\d.1.1.1=n/\n<=1999/\d.1.2.1=(n:Int)),Ok (eB d) (λx:cg=>0<=x.1.2.2.1/\x.1.2.2.1<=(n:Int)/\x.1.1.1=n/\x.1.2.1=(n:Int)):=
 bT (λd:ba.B=>z4 (d.1.2.2.2-d.1.2.2.1)) (λd hd=>by
  have h1:wI (d.1.2.2.1+d.1.2.2.2)=d.1.2.2.1+d.1.2.2.2:=eS;have h2:wU (d.1.2.2.1+d.1.2.2.2)=d.1.2.2.1+d.1.2.2.2:=by show IntKind.wrap .u64 _=_;rw[wrap_u64];omega
  have h3:Int.fdiv (d.1.2.2.1+d.1.2.2.2) 2=(d.1.2.2.1+d.1.2.2.2)/2:=Int.fdiv_eq_ediv_of_nonneg _ (by omega);have h4:wI ((d.1.2.2.1+d.1.2.2.2)/2)=(d.1.2.2.1+d.1.2.2.2)/2:=eS;have h5:wI ((d.1.2.2.1+d.1.2.2.2)/2+1)=(d.1.2.2.1+d.1.2.2.2)/2+1:=eS;unfold eA;simp only[h1,h2,h3,h4,h5];simp only[bU];simp only[nf,pL,uL];repeat' (first|exact True.intro|omega|(intro _)|(apply And.intro))) (λd hd=>by omega)
theorem aSc (x:cq.B)(h:x.1.1.1<=1999):Ok (cv x) (λr:eL=>0<=r.1/\r.1<=(x.1.1.1:Int)):=by
 unfold cv eM;try dsimp only
 show PQ _ _;rw[aS,bQ];refine⟨rfl,ax (qk x.1.1.1 _ ?_) λd _ hd=> ?_⟩
 .try dsimp only
  simp only[dQ];exact⟨by omega,by omega,by omega,trivial,h,trivial⟩
 .obtain⟨a1,a2,a3,a4⟩:=hd;simp only[bU,a3,a4];simp only[nf,pL,uL];exact⟨λc=>⟨λ_ _ _=>⟨a1,a2⟩,⟨a1,c⟩⟩,λ_=>⟨a1,a2⟩⟩
theorem aOW (n:Nat)(i:Int)(h0:0<=i)(h1:i<=(n:Int))(hn:n<=1999)(x2 x3 x4 x5 x6 x7 x8 x9 gw gx EC x13 x14 x15 x16 x17 x18 x19:Nat->Int)(w1:Bool):
  Ok (fq n i x2 x3 x4 x5 x6 x7 x8 x9 gw gx EC x13 x14 x15 x16 x17 x18 x19 1 true w1) (λr:gV=>r.1=n+1):=by
 have b1:wr (z4 i) n=true:=by rw[ch];omega
 have b2:wr ((n+1)*72) 140737488355328=true:=by rw[ch];omega
 unfold fq;rw[b1,b2,dR h0];exact⟨_,rfl,rfl⟩
theorem aBF (n:Nat)(i j:Int)(h0:0<=i)(h1:i<=j)(h2:j<=(n:Int))(x3 x4 x5 x6 x7 x8 x9 gw gx:Nat->Int):
  Ok (cS n i j x3 x4 x5 x6 x7 x8 x9 gw gx true) (λr:gW=>r.1=z4 i+(n-z4 j)):=by
 have b1:wr (z4 i) (z4 j)=true:=by rw[ch];omega
 have b2:wr (z4 j) n=true:=by rw[ch];omega
 unfold cS;rw[b1,b2,dR h0,dR (show 0<=j by omega)];exact⟨_,rfl,rfl⟩
theorem aSd (n:Nat)(hn:n<=1999)(x1 x2 x3 x4 x5 x6 x7 x8 x9:Nat->Int)(w:Bool):
  Ok (fE n x1 x2 x3 x4 x5 x6 x7 x8 x9 w) (λr:iH=>r.1=n):=by
 have b1:wr (n*72) 140737488355328=true:=by rw[ch];omega
 unfold fE;rw[b1];exact⟨_,rfl,rfl⟩
theorem aOX (s:Nat)(hs:s<=120)(n:Nat)(hn:n<=100)(eJ:Bool)(f:Nat->Int)(w w':Bool):
  rR (ws s) n n eJ f w w'=some (sat (C4 (pk (λj=>sat (f j)*sat (f j)) n) s),(eJ||oE (λj=>dE (f j)||dE (f j)) n)||dE (C4 (pk (λj=>sat (f j)*sat (f j)) n) s)):=by
 simp only[rR,Pz,Pg.bP,Pg.bN,Pg.bZ,Pg.eD,Pg.dD];try delta wI wU
 unfold Db;have n0:decide (ws s<0)=false:=by simp
 have n1:decide (ws s>120)=false:=by simp only[dQ];exact cC (by omega)
 have m:(if 100<if ws n<ws n then ws n else ws n then 100 else if ws n<ws n then ws n else ws n)=ws n:=by
  have e:¬ws n<ws n:=by omega
  rw[if_neg e,if_neg (by simp only[dQ];omega)]
 rw[n0,n1,bx,bx,Ar,bn,m]
 refine FL (λt d=>∃(i:Nat) (h l':Int),i+t=n/\okW h l'/\vW h l'=pk (λj=>sat (f j)*sat (f j)) i/\d=((ws s,(n,w),(n,w'),ws n,ws i),(eJ||oE (λj=>dE (f j)||dE (f j)) i),f,h,l')) ?_ 2000 n _ (by omega)
  ⟨0,0,0,by omega,⟨by omega,by omega,by omega,by omega⟩,rfl,by simp only[oE,LJ];rfl⟩
 rintro t _ c ⟨i,h,l',hi,ho,hv,rfl⟩ hc
 have bnd:=aev (λj=>sat (f j)*sat (f j)) 1329227995784915872903807060280344576 (by omega) i (λj _=>Rw _ _);rcases SQ t with t0|t0
 .have e:i=n:=by omega
  subst e;simp only[Da,Pg.pV,Pg.pW,Pg.sW,Pg.zd,Pg.pX,na,j8,wI,ao3 (cP i),bx,aho h l' s _ hs ho,hv,bC]
 .have hs1:=mT (f i);have Wk:=mT (f i);have hm:=Rw (f i) (f i);obtain⟨h1,l1,e1,o1,v1⟩:=BG (sat (f i)) (sat (f i)) (by omega) (by omega) (by omega) (by omega)
  obtain⟨h2,l2,e2,o2,v2⟩:=XV (λj:Nat=>bif z9 j 1 then h1 else bif z9 j 0 then h else h) (λj:Nat=>bif z9 j 1 then l1 else bif z9 j 0 then l' else l') true
   ho o1 (by show _<=vW h l'+vW h1 l1;rw[hv,v1];omega) (by show vW h l'+vW h1 l1<_;rw[hv,v1];omega)
  have v2:vW h2 l2=vW h l'+vW h1 l1:=v2;rw[hv,v1] at v2;have q:z4 (ws i)=i:=rfl;simp only[Da,Pg.pV,Pg.pW,Pg.sW,Pg.zd,Pg.pX,na,j8,wI,ao2 hi t0,aaL (show i<n by omega),bn,q,pj,bC,e1,e2,ao4 (show i<9000000000000000000 by omega)];refine hc (t-1) _ (by omega) ⟨i+1,h2,l2,by omega,o2,v2,?_⟩;simp only[oE,Bool.or_assoc]
instance a50 (eJ:Bool)(f:Nat->Int)(w w':Bool):bA (rR 30 2 2 eJ f w w'):=⟨_,aOX 30 (by omega) 2 (by omega) eJ f w w'⟩
instance aSe (x0:Nat->Int)(x1:Int)(x2:Int)(x3:Int)(x4:Bool):bA (rS x0 x1 x2 x3 x4):=by
 unfold rS Kz;exact aK (by simp only[bU,ry])
instance aWy (x0:Int)(x1:Int)(x2:Int)(x3:Int)(x4:Int)(x5:Int)(x6:Int)(x7:Int)(x8:Int)(x9:Int):bA (D6 x0 x1 x2 x3 x4 x5 x6 x7 x8 x9):=by
 unfold D6 Ub;exact aK (by simp only[bU,ry])
theorem aL1 (x:xE.B)(h:x.1.2.1<=1999):bA (kj x):=by
 have tr:=λa b c d e g i j k l m w=>AO a b x.1.2.1 c d e g i j k l m w
 unfold kj KH;try dsimp only
 refine aK ?_;rw[aS,bQ];refine⟨rfl,?_⟩;have:=AO;refine ax (bA.Ok (AO _ _ _ _ _ _ _ _ _ _ _ _ _ _ h) (Q:=λ_=>True) λ_ _=>trivial) λd _ _=> ?_;rw[aw];trivial
instance a6P (x:uR.B):bA (jg x):=by
 unfold jg Ii;try dsimp only
 refine aK ?_;iterate 9 (rw[aS,bQ];refine⟨rfl,?_⟩)
 refine ax (bA.Ok (aL1 ((x.1,1,true),_) (by show 1<=1999;omega)) (Q:=λ_=>True) λ_ _=>trivial) λd _ _=> ?_;rw[aw];trivial
instance a51 (x:tE.B):bA (dJ x):=by
 unfold dJ Gv;try dsimp only
 refine aK ?_;iterate 9 (rw[aS,bQ];refine⟨rfl,?_⟩)
 refine ax (bA.Ok (aL1 ((x.1,1,true),_) (by show 1<=1999;omega)) (Q:=λ_=>True) λ_ _=>trivial) λd _ _=> ?_;rw[aw];trivial
theorem Sa (x:oS.B)(h:x.2.1.2.2.2.2.2.2.2.2.2.2.2.2.2.2.2.2<=100000):Ok (iD x) (λr:xF=>r.1.2.2.2.2.2.2.2.2.2.2.2.2.2.2.2.2=x.2.1.2.2.2.2.2.2.2.2.2.2.2.2.2.2.2.2+1/\r.1.2.2.2.2.1=x.2.1.2.2.2.2.1/\r.1.2.2.2.2.2.2.2.2.2.2.2.2.2.1=x.2.1.2.2.2.2.2.2.2.2.2.2.2.2.2.1):=by
 unfold iD Dl;try dsimp only
 show PQ _ _;rw[bQ,aw];exact⟨by rw[ch];omega,rfl,rfl,rfl⟩
theorem ae5 (x:oT.B)(h:x.1.2.1<=1999):Ok (di x) (λr:xG=>r.1=x.1.2.1/\r.2.1.1.d.c.b.2.2=x.2.1.d.c.b.2.2/\r.2.1.1.c.1=x.2.1.c.1/\r.2.1.1.d.c.2.1=x.2.1.d.c.2.1):=by
 unfold di Dm;try dsimp only
 show PQ _ _;rw[aS,bQ];refine⟨rfl,ax (aLW _ h) λd _ hd=> ?_⟩;iterate 10 (rw[aS,bQ];refine⟨rfl,?_⟩)
 refine ax (bA.Ok (aL1 ((x.1.1,d.1.2.2,true),_) (by show d.1.2.2<=1999;rw[hd];exact h)) (Q:=λ_=>True) λ_ _=>trivial) λd1 _ _=> ?_;rw[aw];exact⟨hd,rfl,rfl,rfl⟩
theorem Y0 (x:mg.B)(h:x.1.1<=1999):Ok (fZ x) (λr:zU=>r.d.c.b.2.2=x.2.1.d.c.b.2.2/\r.c.1=x.2.1.c.1/\r.d.c.2.1=x.2.1.d.c.2.1):=by
 unfold fZ zV;try dsimp only
 show PQ _ _;rw[aS,bQ];refine⟨rfl,ax (bA.Ok (arA x.1.1 _ _ _ _ h) (Q:=λ_=>True) λ_ _=>trivial) λd1 _ _=> ?_⟩;rw[aM];exact⟨λ_=>by rw[aw];exact⟨rfl,rfl,rfl⟩,λ_=>by rw[aw];exact⟨rfl,rfl,rfl⟩⟩
theorem a0h (x:oV.B)(h:x.2.1.d.c.b.2.2<=90000):Ok (mi x) (λr:xK=>r.1.d.c.b.2.2<=x.2.1.d.c.b.2.2+3/\r.1.c.1=x.2.1.c.1/\r.1.d.c.2.1=x.2.1.d.c.2.1):=by
 unfold mi Dp;try dsimp only
 show PQ _ _;simp only[aS];rw[bI];intro d _;rw[bI];intro d1 _;iterate 9 (rw[bQ];refine⟨rfl,?_⟩)
 refine ax (Sa _ (show x.2.1.d.c.b.2.2<=100000 by omega)) λd2 _ h2=> ?_;have h2:d2.1.d.c.b.2.2=x.2.1.d.c.b.2.2+1/\d2.1.c.1=x.2.1.c.1/\d2.1.d.c.2.1=x.2.1.d.c.2.1:=h2;rw[bI];intro d3 _;iterate 9 (rw[bQ];refine⟨rfl,?_⟩)
 refine ax (Sa _ (show d2.1.d.c.b.2.2<=100000 by omega)) λd4 _ h4=> ?_;have h4:d4.1.d.c.b.2.2=d2.1.d.c.b.2.2+1/\d4.1.c.1=d2.1.c.1/\d4.1.d.c.2.1=d2.1.d.c.2.1:=h4;rw[aM];refine⟨λ_=> ?_,λ_=>by rw[aw];omega⟩;rw[bI];intro d5 _;iterate 9 (rw[bQ];refine⟨rfl,?_⟩)
 refine ax (Sa _ (show d4.1.d.c.b.2.2<=100000 by omega)) λd6 _ h6=> ?_;have h6:d6.1.d.c.b.2.2=d4.1.d.c.b.2.2+1/\d6.1.c.1=d4.1.c.1/\d6.1.d.c.2.1=d4.1.d.c.2.1:=h6;rw[aw];omega
theorem aL2 (x:kl.B):Ok (ib x) (λr:vH=>r.1.d.c.b.2.2=x.2.1.d.c.b.2.2/\r.1.c.1=x.2.1.c.1/\r.1.d.c.2.1=x.2.1.d.c.2.1):=by
 unfold ib vI;try dsimp only
 show PQ _ _;simp only[aS]
 repeat' (first
  |rw[aD]
  |(rw[aM];refine⟨λ_=> ?_,λ_=> ?_⟩)
  |(rw[um];refine⟨λ_ _=> ?_,λ_ _=> ?_⟩)
  |(with_reducible refine ax (ae5 _ ?_) λe _ he=> ?_)
  |(with_reducible refine ax (Y0 _ ?_) λq _ hq=> ?_)
  |(with_reducible refine ax (Sa _ ?_) λt _ ht=> ?_)
  |(rw[bI];intro _ _))
 all_goals first|(rw[aw];exact⟨hq.1.trans he.2.1,hq.2.1.trans he.b.1,hq.2.2.trans he.b.2⟩)|(rw[aw];exact he.2)|(rw[aw];exact⟨rfl,rfl,rfl⟩)|omega|(dsimp only;omega)|(have h1:=he.1;(try dsimp only at h1);(try dsimp only);omega)
theorem aL3 (x:km.B):Ok (ig x) (λr:vJ=>r.1.d.c.b.2.2=x.2.1.d.c.b.2.2/\r.1.c.1=x.2.1.c.1/\r.1.d.c.2.1=x.2.1.d.c.2.1):=by
 unfold ig vK;try dsimp only
 show PQ _ _;simp only[aS]
 repeat' (first
  |rw[aD]
  |(rw[aM];refine⟨λ_=> ?_,λ_=> ?_⟩)
  |(rw[um];refine⟨λ_ _=> ?_,λ_ _=> ?_⟩)
  |(with_reducible refine ax (ae5 _ ?_) λe _ he=> ?_)
  |(with_reducible refine ax (Y0 _ ?_) λq _ hq=> ?_)
  |(with_reducible refine ax (Sa _ ?_) λt _ ht=> ?_)
  |(rw[bI];intro _ _))
 all_goals first|(rw[aw];exact⟨hq.1.trans he.2.1,hq.2.1.trans he.b.1,hq.2.2.trans he.b.2⟩)|(rw[aw];exact he.2)|(rw[aw];exact⟨rfl,rfl,rfl⟩)|omega|(dsimp only;omega)|(have h1:=he.1;(try dsimp only at h1);(try dsimp only);omega)
theorem aIb (x0:Nat->Int)(x1:Int)(x2:Int)(x3:Int)(x4:Int)(x5:Int)(x6:Bool):Ok (zM x0 x1 x2 x3 x4 x5 x6) (λr:VH=>match r with|.inl e=>(e.1!=0)=true|.inr _=>True):=by
 unfold zM VI;try dsimp only
 show PQ _ _;simp only[bU];repeat' (first|exact True.intro|rfl|assumption|(apply And.intro)|(intro _))
theorem a0i (x:oW.B):Ok (mj x) (λr:Dq=>r.1.d.c.b.2.2=x.2.1.d.c.b.2.2/\r.1.c.1=x.2.1.c.1/\r.1.d.c.2.1=x.2.1.d.c.2.1):=by
 unfold mj Ds;try dsimp only
 show PQ _ _;simp only[aS];rw[bI];intro d _;with_reducible refine ax (aIb _ _ _ _ _ _ _) λfb _ hfb=> ?_
 rw[um];refine⟨λa ha=> ?_,λa ha=> ?_⟩
 .subst ha;have hfb:(a.1!=0)=true:=hfb;rw[hfb]
  repeat' (first
   |rw[aD]
   |(rw[aM];refine⟨λ_=> ?_,λ_=> ?_⟩)
   |(rw[um];refine⟨λ_ _=> ?_,λ_ _=> ?_⟩)
   |(with_reducible refine ax (ae5 _ ?_) λe _ he=> ?_)
   |(with_reducible refine ax (Y0 _ ?_) λq _ hq=> ?_)
   |(with_reducible refine ax (Sa _ ?_) λt _ ht=> ?_)
   |(rw[bI];intro _ _))
  all_goals first|(rw[aw];exact⟨hq.1.trans he.2.1,hq.2.1.trans he.b.1,hq.2.2.trans he.b.2⟩)|(rw[aw];exact he.2)|(rw[aw];exact⟨rfl,rfl,rfl⟩)|omega|(dsimp only;omega)|(have h1:=he.1;(try dsimp only at h1);(try dsimp only);omega)
 .subst ha
  repeat' (first
   |rw[aD]
   |(rw[aM];refine⟨λ_=> ?_,λ_=> ?_⟩)
   |(rw[um];refine⟨λ_ _=> ?_,λ_ _=> ?_⟩)
   |(with_reducible refine ax (ae5 _ ?_) λe _ he=> ?_)
   |(with_reducible refine ax (Y0 _ ?_) λq _ hq=> ?_)
   |(with_reducible refine ax (Sa _ ?_) λt _ ht=> ?_)
   |(rw[bI];intro _ _))
  all_goals first|(rw[aw];exact⟨hq.1.trans he.2.1,hq.2.1.trans he.b.1,hq.2.2.trans he.b.2⟩)|(rw[aw];exact he.2)|(rw[aw];exact⟨rfl,rfl,rfl⟩)|omega|(dsimp only;omega)|(have h1:=he.1;(try dsimp only at h1);(try dsimp only);omega)
theorem ah3 (x0:Int)(x1:Int)(x2:Int)(x3:Int)(x4:Int)(x5:Int)(x6:Int)(x7:Int)(x8:Int)(x9:Bool)(h0:0<=x7)(h1:x7<=5):bA (mV x0 x1 x2 x3 x4 x5 x6 x7 x8 x9):=by
 have hw:wI (x7+1)=x7+1:=eS;have b1:aZ x7 7=true:=by simp only[bp];omega
 have b2:aZ (x7+1) 7=true:=by simp only[bp];omega
 unfold mV Df;refine aK ?_;simp only[hw,b1,b2];simp only[bU,SU,On,FH]
theorem arP {x0 x1 x2:Int}{d:ac4}(h:gM x0 x1 x2=some d)(k:d=true): -900000000<=x0/\x0<=900000000/\ -1800000000<=x1/\x1<=1800000000:=by
 have e:PQ (IV x0 x1 x2) (λd:Bool=>d=true-> -900000000<=x0/\x0<=900000000/\ -1800000000<=x1/\x1<=1800000000):=by
  simp only[IV,aM,aw,ES,j7,Om,yf,FH,Oo,CC];omega
 exact Ok.post e h k
instance aOY (x0:Int)(x1:Int)(x2:Int)(x3:Bool):bA (py x0 x1 x2 x3):=by
 unfold py Gs;refine aK ?_;rw[bI];intro d hd;rw[aM];refine⟨λ_=>by rw[aw];trivial,λh=> ?_⟩;obtain⟨a0,a1,a2,a3⟩:=arP hd (by simpa using h);have w0:wI (x0+900000000)=x0+900000000:=eS;have w1:wI (x1+1800000000)=x1+1800000000:=eS;have e0:ul (x0+900000000) 450000000=(x0+900000000)/450000000:=azD (by omega);have e1:ul (x1+1800000000) 600000000=(x1+1800000000)/600000000:=azD (by omega);rw[w0,w1,e0,e1];have w2:wI ((x0+900000000)/450000000)=(x0+900000000)/450000000:=eS;have w3:wI ((x1+1800000000)/600000000)=(x1+1800000000)/600000000:=eS;rw[w2,w3];have r1:0<=(if 3<(x0+900000000)/450000000 then 3 else(x0+900000000)/450000000)/\(if 3<(x0+900000000)/450000000 then 3 else(x0+900000000)/450000000)<=3:=by split<;>omega
 have r2:0<=(if 5<(x1+1800000000)/600000000 then 5 else(x1+1800000000)/600000000)/\(if 5<(x1+1800000000)/600000000 then 5 else(x1+1800000000)/600000000)<=5:=by split<;>omega
 generalize (if 3<(x0+900000000)/450000000 then 3 else(x0+900000000)/450000000)=row at*
 generalize (if 5<(x1+1800000000)/600000000 then 5 else(x1+1800000000)/600000000)=oc at*
 have t2:=λa b c d e f g i j=>ah3 a b c d e f g oc i j r2.1 r2.2
 have hw:wI (row+1)=row+1:=eS;have b1:aZ row 5=true:=by simp only[bp];omega
 have b2:aZ (row+1) 5=true:=by simp only[bp];omega
 simp only[hw,b1,b2];simp only[bU,SU,On,FH]
instance aHf (x:fQ.B):bA (dG x):=by
 unfold dG mY;try dsimp only
 exact aK (by simp only[bU])
end Go.Proofs.YtldgljclcgaibaaGreat
