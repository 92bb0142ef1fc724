/-
  Parts of the proof: Q2 PWS PWT PWU PWV
-/
import Derived.Test.YtldgljclcgaibaaGreatZAE
import Derived.Test.YtldgljclcgaibaaGreatZAF
open Nat renaming beq→ww,ble→wd
open Int renaming toNat→ws,ofNat→wl
open Sum renaming inl→wr,inr→wn
open BitVec renaming ofInt→v9,toNat→v4
set_option linter.all false
set_option maxRecDepth 100000
set_option maxHeartbeats 4000000
noncomputable section
namespace Go.Proofs.YtldgljclcgaibaaGreat
open Go.Ab Go.Ab.Pg Go.Ab.Rq
def arP:=qa (pl atl nil)
def Xy:=qe Fa
abbrev arQ:=Xy.B
abbrev arR:=Int->Int->Int->Int->Option arQ
def arS (g:arR):Ct:=(67,FC arP (lf Xy) (λb=>g b.1 b.2.1 b.b.1 b.b.2))
def mV:=qs (st (dp (us 1 (cu ua (us 1 (c aXs (us 6 (c agh (cl ai (us 24 aRe)))))))) λa=>(pl (c xY (cl (so (cl (gs a.1 aKv) nil)) nil)) nil)))
def aaR:=qs (st (pu (us 2 (cu mP (us 42 nil))) (pu nil nil)))
def awb:=qs (st (pr (us 1 (cu ua (us 1 (c aXs (us 6 (c agh (c ai (cl ab (us 23 aRe))))))))) (pl (c xY (cl aRv nil)) nil)))
abbrev yF:=aaR.B⊕((Nat×aI2×Int×Bool)×aI2×NI×NI)
def ajw {ρ:Type}(x:yF)(K:AX->St->Option ρ):Option ρ:=(Sum.elim (λd=>K .ret (aaR.em d)) (λd=>K (.ex 0) (awb.em (d.1,d.2.1,d.1.1,d.b)))) x
def TF (dK:O4)(cW:oU)(d:mV.B):PL mV yF:=let n5:=d.2.2;let n3:=d.1.1;let n2:=d.1.2;let n4:=n2.1.2;let y0:=n3+1;let n1:=(y0,n2.1,wI (n2.2+1));let y1:=decide (n2.2<4);ae y1 (ae (bk n2.2 4) (ae (n2.2==3) (opt (dK n4.2.2) λaj=>ae (decide (aj>1073741840)) (ret (wn (wr ()))) (opt (cW n4.2.2 n4.2.2) λaC=>ae (wd (y0*16) 140737488355328) (ret (wr (n1,d.2.1,λj=>bif ww j n3 then aC.1 else n5.1 j,λj=>bif ww j n3 then aC.2 else n5.2 j))) no)) (ae (n2.2==2) (opt (dK n4.2.1) λaj=>ae (decide (aj>1073741840)) (ret (wn (wr ()))) (opt (cW n4.2.1 n4.2.1) λaC=>ae (wd (y0*16) 140737488355328) (ret (wr (n1,d.2.1,λj=>bif ww j n3 then aC.1 else n5.1 j,λj=>bif ww j n3 then aC.2 else n5.2 j))) no)) (ae (n2.2==1) (opt (dK n4.1) λaj=>ae (decide (aj>1073741840)) (ret (wn (wr ()))) (opt (cW n4.1 n4.1) λaC=>ae (wd (y0*16) 140737488355328) (ret (wr (n1,d.2.1,λj=>bif ww j n3 then aC.1 else n5.1 j,λj=>bif ww j n3 then aC.2 else n5.2 j))) no)) (opt (dK n2.1.1) λaj=>ae (decide (aj>1073741840)) (ret (wn (wr ()))) (opt (cW n2.1.1 n2.1.1) λaC=>ae (wd (y0*16) 140737488355328) (ret (wr (n1,d.2.1,λj=>bif ww j n3 then aC.1 else n5.1 j,λj=>bif ww j n3 then aC.2 else n5.2 j))) no))))) no) (ret (wn (wn ((n3,n2.1,n2.2,y1),d.2))))
def TG:=bj (TF uf fY) 2000
def ac3 (yX:tv)(vO:DV)(eI:LT mV yF)(x0:Int)(x1:Int)(x2:Int)(x3:Int):Pg arQ:=ae true (opt (eI ((0,(x0,x1,x2,x3),0),(x0,x1,x2,x3),λx=>0,λx=>0)) λx=>sum x (λd=>ret false) λd=>ae (ww d.1.1 d.1.1) (opt (yX d.1.1 d.2.2.1 d.2.2.2 true) λd=>opt (vO d.1.1 d.1.2 0) λd=>let y0:=wI (d.1-1152921504606846976);ae d.2 (ae (decide (y0>= -4294967296)) (ret (decide (y0<=4294967296))) (ret false)) (ret false)) no) no
def Ah:=λx0 x1 x2 x3=>(ac3 kU sD TG x0 x1 x2 x3).val
abbrev Q4:=O4×oU×tv×DV×(LT mV yF)
def ac4 (p:Q4):KK:=⟨[aeJ p.1,yQ p.2.1,K9 p.b.1,QN p.b.2.1],⟨[⟨3,(0::2::rg 4 6 (rg 12 24 [39,40,44])),[(3,[.i .i64,.i .u64])]⟩],[gv 3 0 mV ajw p.c],[],[],(some ⟨0,(0::1::rg 3 42 []),[]⟩)⟩,0,67⟩
theorem ay3 (p:Q4):LI (ac4 p) 3 mV ajw (TF p.1 p.2.1):=λ_ d c K=>by kernel_rfl
theorem aH1 (p:Q4):D2 (ac4 p) arP (lf Xy) λb=>ac3 p.b.1 p.b.2.1 p.c b.1 b.2.1 b.b.1 b.b.2:=λb=>by kernel_rfl
abbrev ac5:Q4:=(uf,fY,kU,sD,TG)
theorem aH2 [ax]:SC (arS Ah):=sc (kS (k:=ac4 ac5) (.c apO (.c BT (.c RM (.c acx (.nil _))))) [3] [] ⟨kL (ay3 ac5),trivial⟩ trivial (aH1 ac5))
def arT:=qa (dp (cu aQ (c ai (c H6 (cl aQQ nil)))) λa=>(c xV (c (cl (gs a.2.1.1 oT) nil) (cl (cl (gs a.b.1 oT) nil) nil))))
def Xz:=qe (res (pr ai (pl (cl avh aEc) nil)))
abbrev arU:=Xz.B
abbrev ei:=Int->Nat->Nat->Bool->NI->NI->Bool->Bool->Option arU
def nY (g:ei):Ct:=(73,vN 3 [.i .i64] (vN 2 [.i .i64] (FC arT (lf Xz) (λb=>g b.1.1 b.1.2.1.1 b.1.b.1 b.2.1 b.b.1 b.b.2 b.1.2.1.2 b.1.b.2))))
def wj:=qs (st (dp (cu aQ (c ai (c H6 (c aQQ (us 5 (cu (app 3 2) aWY)))))) λa=>(pl (c cG (c (so (cl (gs a.2.1.1 oT) nil)) (c (so (cl (gs a.b.1.1 oT) nil)) ab2))) cQ)))
def aCK:=qs (st (pr (cu aQ (c ai (c H6 (c aQQ (us 5 (cu (app 3 2) aW3)))))) (pl (c cG (c JE (c JE ab2))) cQ)))
abbrev I7:=(aWj×Bool×NI×NI×Int×Int)
def ajx {ρ:Type}(x:I7)(K:AX->St->Option ρ):Option ρ:=(λd=>K (.ex 0) (aCK.em (d.1,d.2.1,(d.1.2.1.1,d.b.1),(d.1.b.1.1,d.b.2.1),d.c))) x
def I8 (aw:bQ)(cW:oU)(yX:tv)(d:wj.B):PL wj I7:=let y0:=ws d.1.2.2.2.2;let y1:=decide (d.1.2.2.2.2<d.1.2.2.2.1);ae y1 (ae (bk d.1.2.2.2.2 d.1.2.1.1) (opt (aw (d.2.2.1 y0) d.2.1) λaj=>ae (bk d.1.2.2.2.2 d.1.2.2.1.1) (opt (aw (d.2.2.2.1 y0) aj.2) λaC=>opt (cW aj.1 aC.1) λbC=>opt (yX 2 (λj=>bif ww j 1 then bC.1 else bif ww j 0 then d.2.2.2.2.1 else d.2.2.2.2.1) (λj=>bif ww j 1 then bC.2 else bif ww j 0 then d.2.2.2.2.2 else d.2.2.2.2.2) true) λcK=>ret (wr ((d.1.1,d.1.2.1,d.1.2.2.1,d.1.2.2.2.1,wI (d.1.2.2.2.2+1)),aC.2,d.2.2.1,d.2.2.2.1,cK.1))) no) no) (ret (wn ((d.1.1,d.1.2.1,d.1.2.2.1,d.1.2.2.2.1,d.1.2.2.2.2,y1),d.2)))
def TH:=bj (I8 aM fY kU) 2000
def ac6 (jC:yD)(eI:LT wj I7)(x0:Int)(x1:Nat)(x2:Nat)(x3:Bool)(x4:Nat->Int)(x5:Nat->Int)(w0:Bool)(w1:Bool):Pg arU:=let y0:=if wl x2<wl x1 then wl x2 else wl x1;ae (decide (x0<0)) (opt (jC 0 0 x0 x3) λd=>ret d) (ae (decide (x0>120)) (opt (jC 0 0 x0 x3) λd=>ret d) (ae (ww x1 x1) (ae (ww x2 x2) (opt (eI ((x0,(x1,w0),(x2,w1),if 100<y0 then 100 else y0,0),x3,x4,x5,0,0)) λd=>opt (jC d.2.2.2.2.1 d.2.2.2.2.2 d.1.1 d.2.1) λd=>ret d) no) no))
def bx:=λx0 x1 x2 x3 x4 x5 w0 w1=>(ac6 ot TH x0 x1 x2 x3 x4 x5 w0 w1).val
abbrev Q5:=yD×bQ×oU×tv×(LT wj I7)
def ac7 (p:Q5):KK:=⟨[IY p.1,dG p.2.1,yQ p.b.1,K9 p.b.2.1],⟨[⟨5,(rg 4 5 (rg 10 15 (rg 27 26 []))),[]⟩],[gv 5 3 wj ajx p.c],[0],[],(some ⟨0,(rg 0 8 (rg 9 44 [])),[]⟩)⟩,3,73⟩
theorem ay4 (p:Q5):LI (ac7 p) 5 wj ajx (I8 p.2.1 p.b.1 p.b.2.1):=λ_ d c K=>by kernel_rfl
theorem aH3 (p:Q5):D2 (ac7 p) arT (lf Xz) λb=>ac6 p.1 p.c b.1.1 b.1.2.1.1 b.1.b.1 b.2.1 b.b.1 b.b.2 b.1.2.1.2 b.1.b.2:=λb=>by kernel_rfl
abbrev ac8:Q5:=(ot,aM,fY,kU,TH)
theorem pU [ax]:SC (nY bx):=sc (Sound.nil 3 [.i .i64]<|Sound.nil 2 [.i .i64]<|kS (k:=ac7 ac8) (.c Tw (.c dN (.c BT (.c RM (.nil _))))) [5] [] ⟨kL (ay4 ac8),trivial⟩ trivial (aH3 ac8))
def aA7:=qa (pr (c ai (c ai (c ai (cl ai (cu aQ (cu aqQ nil)))))) (cu aQ3 (c agf bF)))
def aht:=qe aXk
abbrev amO:=aht.B
abbrev amP:=Int->Int->Int->Int->Int->Int->Int->Int->Bool->Option amO
def aA8 (g:amP):Ct:=(196,FC aA7 (lf aht) (λb=>g b.1.1 b.1.2.1 b.1.b.1 b.1.b.2 b.2.1.1 b.2.1.2.1 b.2.1.b.1 b.2.1.b.2 b.b))
def aaS (bg:ei)(x0:Int)(x1:Int)(x2:Int)(x3:Int)(x4:Int)(x5:Int)(x6:Int)(x7:Int)(x8:Bool):Pg amO:=let y0:=wI (x0*x4);opt (bg 30 4 4 x8 (cr x4 [x7,x6,x5,x4]) (cr y0 [wI (x3*x7),wI (x2*x6),wI (x1*x5),y0]) false true) λd=>ret d
def RU:=λx0 x1 x2 x3 x4 x5 x6 x7 x8=>(aaS bx x0 x1 x2 x3 x4 x5 x6 x7 x8).val
theorem aPi:∀bg,D0 [nY bg] 196 aA7 (lf aht) λb=>aaS bg b.1.1 b.1.2.1 b.1.b.1 b.1.b.2 b.2.1.1 b.2.1.2.1 b.2.1.b.1 b.2.1.b.2 b.b:=λ_ b=>by kernel_rfl
theorem aPj [ax]:SC (aA8 RU):=s0 (.c pU (.nil _)) (aPi bx)
def aA9:=qa (pr (c ai (c ai aKD)) (cu ate bF))
def ahu:=qe aRr
abbrev amQ:=ahu.B
abbrev amR:=Int->Int->Int->Int->Bool->Option amQ
def aBa (g:amR):Ct:=(197,FC aA9 (lf ahu) (λb=>g b.1.1 b.1.2.1 b.1.b.1 b.1.b.2 b.2))
def aaT (bg:ei)(x0:Int)(x1:Int)(x2:Int)(x3:Int)(x4:Bool):Pg amQ:=opt (bg 30 4 4 x4 (cr x0 [x2,x2,x0,x0]) (cr x1 [x3,x3,x1,x1]) true true) λd=>ret d
def RW:=λx0 x1 x2 x3 x4=>(aaT bx x0 x1 x2 x3 x4).val
theorem aPk:∀bg,D0 [nY bg] 197 aA9 (lf ahu) λb=>aaT bg b.1.1 b.1.2.1 b.1.b.1 b.1.b.2 b.2:=λ_ b=>by kernel_rfl
theorem aPl [ax]:SC (aBa RW):=s0 (.c pU (.nil _)) (aPk bx)
def aaU:=qa (pr (c ai (c ai (cl ai (cu aAf nil)))) (cl atg nil))
def JV:=qe aXo
abbrev aaV:=JV.B
abbrev aaW:=Int->Int->Int->NI->Option aaV
def aaX (g:aaW):Ct:=(115,FC aaU (lf JV) (λb=>g b.1.1 b.1.2.1 b.1.b b.2))
def jW:=qs (st (pr (us 1 (c ai (c ai (cu aAf (us 3 (cl ai (us 9 nil))))))) (pl JD cQ)))
def apY:=qs (st (pr (us 1 (c ai (c ai (cu aAf (us 3 (c ai (us 1 (c ai (c ai (cl ab (us 5 nil))))))))))) (pl JD cQ)))
abbrev uQ:=(aTs×NI)
def UX {ρ:Type}(x:uQ)(K:AX->St->Option ρ):Option ρ:=(λd=>K (.ex 0) (apY.em ((d.1.1,d.1.2.1,d.1.b.1,d.1.b.1,d.1.1,d.1.b.2),d.2))) x
def Hz (d:jW.B):PL jW uQ:=let n1:=d.1.2;let y0:=ws n1.2;let y1:=decide (n1.2<d.1.1);ae y1 (ae (bk n1.2 24) (ae (true&&wd (0+y0*1+1) 24) (ret (wr ((d.1.1,n1.1,wI (n1.2+1)),λj=>bif ww j y0 then n1.1 else d.2 j))) no) no) (ret (wn ((d.1.1,n1.1,n1.2,y1),d.2)))
def HA:=bj (Hz) 2000
def Ms (eI:LT jW uQ)(x0:Int)(x1:Int)(x2:Int)(x3:Nat->Int):Pg aaV:=opt (eI ((x1,x2,x0),x3)) λd=>ret d.2
def yY:=λx0 x1 x2 x3=>(Ms HA x0 x1 x2 x3).val
abbrev EG:=(LT jW uQ)
def Mt (p:EG):KK:=⟨[],⟨[⟨1,(0::4::5::6::rg 8 9 []),[]⟩],[gv 1 1 jW UX p],[0],[],(some ⟨0,(rg 0 17 []),[]⟩)⟩,1,115⟩
theorem amS (p:EG):LI (Mt p) 1 jW UX (Hz):=λ_ d c K=>by kernel_rfl
theorem awc (p:EG):D2 (Mt p) aaU (lf JV) λb=>Ms p b.1.1 b.1.2.1 b.1.b b.2:=λb=>by kernel_rfl
abbrev Mu:EG:=HA
theorem awd [ax]:SC (aaX yY):=sc (kS (k:=Mt Mu) (.nil _) [1] [] ⟨kL (amS Mu),trivial⟩ trivial (awc Mu))
def ajy:=qa (pr (cu aQ jb) bF)
def O7:=qe ry
abbrev ajz:=O7.B
abbrev Ds:=Int->Bool->Option ajz
def TI (g:Ds):Ct:=(88,FC ajy (lf O7) (λb=>g b.1 b.2))
def TJ (aE:cg)(x0:Int)(x1:Bool):Pg ajz:=opt (aE x0 1 72057594037927936 x1) λd=>ret d
def uA:=λx0 x1=>(TJ aT x0 x1).val
theorem aCL:∀aE,D0 [eA aE] 88 ajy (lf O7) λb=>TJ aE b.1 b.2:=λ_ b=>by kernel_rfl
theorem ajA [ax]:SC (TI uA):=s0 (.c eX (.nil _)) (aCL aT)
def aeO:=qa (pr (cu aQ (cl Ca nil)) bF)
def Mv:=qe aRE
abbrev aeP:=Mv.B
abbrev wo:=NI->NI->Bool->Option aeP
def Gv (g:wo):Ct:=(69,FC aeO (lf Mv) (λb=>g b.1.1 b.1.2 b.2))
def kV:=qs (st (pr (cu aQ (us 2 (cu G6 (cu aad (us 2 aQ1))))) (pl (c cG ayd) cQ)))
def XA:=qs (st (pr (cu aQ (us 2 (cu G6 (cu aad (us 2 aQ7))))) (pl (c cG ayd) cQ)))
abbrev wR:=XA.B
def XB {ρ:Type}:=@ef wR ((.ex 0)) XA ρ
def JW (TK:Ds)(d:kV.B):PL kV wR:=let y0:=ws d.1;let y1:=bk d.1 24;let y2:=decide (d.1<24);ae y2 (ae y1 (opt (TK (d.2.2.1.2 y0) d.2.1) λaj=>ae y1 (ae (true&&wd (276+y0*1+1) 300) (ret (wr (wI (d.1+1),aj.2,(d.2.2.1.1,λj=>bif ww j y0 then aj.1 else d.2.2.1.2 j),d.2.2.2))) no) no) no) (ret (wn ((d.1,y2),d.2)))
def JX:=bj (JW uA) 2000
def kW:=qs (st (pr (cu aQ (us 2 (cu G6 (cu aad (us 15 aKp))))) (pl (c cG ayd) cQ)))
def XC:=qs (st (pr (cu aQ (us 2 (cu G6 (cu aad (us 15 aKw))))) (pl (c cG ayd) cQ)))
abbrev wS:=XC.B
def XD {ρ:Type}:=@ef wS ((.ex 2)) XC ρ
def JY (aE:cg)(d:kW.B):PL kW wS:=let y0:=ws d.1;let y1:=bk d.1 276;let y2:=decide (d.1<276);let y3:=0+y0*1+1;let y4:=wd y3 276;ae y2 (ae y1 (ae y4 (opt (aE (d.2.2.1.1 y0) (-1152921504606846976) 1152921504606846976 d.2.1) λaj=>ae y1 (ae (y4&&wd y3 300) (ret (wr (wI (d.1+1),aj.2,(λj=>bif ww j y0 then aj.1 else d.2.2.1.1 j,d.2.2.1.2),d.2.2.2))) no) no) no) no) (ret (wn ((d.1,y2),d.2)))
def JZ:=bj (JY aT) 2000
def O8 (eI:LT kV wR)(rn:LT kW wS)(x0:Nat->Int)(x1:Nat->Int)(x2:Bool):Pg aeP:=opt (eI (0,x2,(x0,x1),λx=>0,λx=>0)) λd=>opt (rn (0,d.2)) λd=>ret (d.2.2.1,d.2.1)
def jI:=λx0 x1 x2=>(O8 JX JZ x0 x1 x2).val
abbrev Bg:=Ds×cg×(LT kV wR)×(LT kW wS)
def Gw (p:Bg):KK:=⟨[TI p.1,eA p.2.1],⟨[⟨2,(1::2::5::6::rg 8 26 []),[]⟩,⟨7,(1::2::rg 5 15 (rg 21 13 [])),[]⟩],[gv 2 1 kV XB p.b.1,gv 7 1 kW XD p.b.2],[0],[],(some ⟨0,(rg 0 4 (rg 5 29 [])),[]⟩)⟩,1,69⟩
theorem apZ (p:Bg):LI (Gw p) 2 kV XB (JW p.1):=λ_ d c K=>by kernel_rfl
theorem ap0 (p:Bg):LI (Gw p) 7 kW XD (JY p.2.1):=λ_ d c K=>by kernel_rfl
theorem ay5 (p:Bg):D2 (Gw p) aeO (lf Mv) λb=>O8 p.b.1 p.b.2 b.1.1 b.1.2 b.2:=λb=>by kernel_rfl
abbrev Gx:Bg:=(uA,aT,JX,JZ)
theorem O9 [ax]:SC (Gv jI):=sc (kS (k:=Gw Gx) (.c ajA (.c eX (.nil _))) [2,7] [] ⟨kL (apZ Gx),⟨kL (ap0 Gx),trivial⟩⟩ trivial (ay5 Gx))
def aF5:=qa (dp (cu aQ ax2) λa=>(c xV (cl (cl (gs a.1 oT) nil) nil)))
def amT:=qe aXK
abbrev aF6:=amT.B
abbrev atX:=Nat->Bool->NI->Bool->Option aF6
def aF7 (g:atX):Ct:=(50,vN 1 [.i .i64] (FC aF5 (lf amT) (λb=>g b.1.1 b.2.1 b.b b.1.2)))
def vR:=qs (st (dp (cu aQ (c H6 (us 2 (cu aad (cu aI6 (us 1 aKr)))))) λa=>(pl (c cG (c (so (cl (gs a.1.1 oT) nil)) ayd)) cQ)))
def aLJ:=qs (st (pr (cu aQ (c H6 (us 2 (cu aad (cu aI6 (us 1 aQ8)))))) (pl (c cG (c JE ayd)) cQ)))
abbrev Mw:=(((Nat×Bool)×Int×Bool)×Bool×NI×(NI×NI)×NI×NI)
def awe {ρ:Type}(x:Mw)(K:AX->St->Option ρ):Option ρ:=(λd=>K (.ex 0) (aLJ.em (d.1,d.2.1,(d.1.1.1,d.b.1),d.b.2))) x
def ahv (TK:Ds)(d:vR.B):PL vR Mw:=let n3:=d.1.1;let n2:=d.1.2;let n1:=d.2.2;let y0:=ws n2;let y1:=bk n2 24;let y2:=decide (n2<24);let y3:=true&&wd (276+y0*1+1) 300;ae y2 (ae y1 (ae y3 (ae (decide (n2<wl n3.1)) (ae (bk n2 n3.1) (opt (TK (n1.1 y0) d.2.1) λaj=>ae y1 (ae y3 (ret (wr ((n3,wI (n2+1)),aj.2,n1.1,n1.2.1,n1.2.2.1,λj=>let y0:=ww j y0;bif y0 then aj.1 else bif y0 then 1 else n1.2.2.2 j))) no) no) no) (ret (wr ((n3,wI (n2+1)),d.2.1,n1.1,n1.2.1,n1.2.2.1,λj=>bif ww j y0 then 1 else n1.2.2.2 j)))) no) no) (ret (wn ((n3,n2,y2),d.2)))
def ahw:=bj (ahv uA) 2000
def atY (eI:LT vR Mw)(x0:Nat)(x1:Bool)(x2:Nat->Int)(w0:Bool):Pg aF6:=ae (ww x0 x0) (opt (eI (((x0,w0),0),x1,x2,(λx=>0,λx=>0),λx=>0,λx=>0)) λd=>ret (d.2.2.2.2,d.2.1)) no
def XE:=λx0 x1 x2 w0=>(atY ahw x0 x1 x2 w0).val
abbrev ahx:=Ds×(LT vR Mw)
def atZ (p:ahx):KK:=⟨[TI p.1],⟨[⟨3,(2::3::6::rg 8 20 []),[]⟩],[gv 3 2 vR awe p.2],[0],[],(some ⟨0,(rg 0 4 (rg 5 23 [])),[]⟩)⟩,2,50⟩
theorem aH4 (p:ahx):LI (atZ p) 3 vR awe (ahv p.1):=λ_ d c K=>by kernel_rfl
theorem aSL (p:ahx):D2 (atZ p) aF5 (lf amT) λb=>atY p.2 b.1.1 b.2.1 b.b b.1.2:=λb=>by kernel_rfl
abbrev at1:ahx:=(uA,ahw)
theorem aSM [ax]:SC (aF7 XE):=sc (Sound.nil 1 [.i .i64]<|kS (k:=atZ at1) (.c ajA (.nil _)) [3] [] ⟨kL (aH4 at1),trivial⟩ trivial (aSL at1))
def awf:=qa (pl zY nil)
def ac9:=qe ax8
abbrev ahy:=ac9.B
abbrev ahz:=Int->Int->Option ahy
def ahA (g:ahz):Ct:=(125,FC awf (lf ac9) (λb=>g b.1 b.2))
def VE (x0:Int)(x1:Int):Pg ahy:=let y0:=wI (wI (Int.tdiv (wI (x1*wI (x1-1))) 2)+x0);ae (decide (x0>=0)) (ae (decide (x0<x1)) (ret (y0,decide (x1<24))) (ret (y0,false))) (ret (y0,false))
def sH:=λx0 x1=>(VE x0 x1).val
theorem aLK:D0 [] 125 awf (lf ac9) λb=>VE b.1 b.2:=λb=>by kernel_rfl
theorem awg [ax]:SC (ahA sH):=s0 (.nil _) aLK
def aPm:=qa (pl (c Ca zY) nil)
def ay6:=qe Hm
abbrev aPn:=ay6.B
abbrev XF:=NI->NI->Int->Int->Option aPn
def awh (g:XF):Ct:=(71,FC aPm (lf ay6) (λb=>g b.1.1 b.1.2 b.2.1 b.b))
def aF8 (qc:ahz)(x0:Nat->Int)(x1:Nat->Int)(x2:Int)(x3:Int):Pg aPn:=ae (x2==x3) (ae (decide (x2>=0)) (ae (decide (x2<24)) (ret 1073741824) (opt (qc x2 x3) λd=>ae (!d.2) (ret 0) (ae (bk d.1 276) (ae (wd (0+ws d.1*1+1) 276) (ret (x0 (ws d.1))) no) no))) (opt (qc x2 x3) λd=>ae (!d.2) (ret 0) (ae (bk d.1 276) (ae (wd (0+ws d.1*1+1) 276) (ret (x0 (ws d.1))) no) no))) (opt (qc x2 x3) λd=>ae (!d.2) (ret 0) (ae (bk d.1 276) (ae (wd (0+ws d.1*1+1) 276) (ret (x0 (ws d.1))) no) no))
def Il:=λx0 x1 x2 x3=>(aF8 sH x0 x1 x2 x3).val
theorem aZu:∀qc,D0 [ahA qc] 71 aPm (lf ay6) λb=>aF8 qc b.1.1 b.1.2 b.2.1 b.b:=λ_ b=>by kernel_rfl
theorem aF9 [ax]:SC (awh Il):=s0 (.c awg (.nil _)) (aZu sH)
def aGa:=qa (pl (c Ca Fb) nil)
def amU:=qe (res (pl Ca (pu nil nil)))
abbrev aGb:=amU.B
abbrev XG:=NI->NI->Int->Int->Int->Option aGb
def at2 (g:XG):Ct:=(217,FC aGa (lf amU) (λb=>g b.1.1 b.1.2 b.2.1 b.b.1 b.b.2))
def at3 (qc:ahz)(x0:Nat->Int)(x1:Nat->Int)(x2:Int)(x3:Int)(x4:Int):Pg aGb:=opt (qc x2 x3) λd=>let y0:=0+ws d.1*1+1;ae d.2 (ae (bk d.1 276) (ae (wd y0 276&&wd y0 300) (ret (λj=>bif ww j (ws d.1) then x4 else x0 j,x1)) no) no) (ret (x0,x1))
def Fv:=λx0 x1 x2 x3 x4=>(at3 sH x0 x1 x2 x3 x4).val
theorem aSN:∀qc,D0 [ahA qc] 217 aGa (lf amU) λb=>at3 qc b.1.1 b.1.2 b.2.1 b.b.1 b.b.2:=λ_ b=>by kernel_rfl
theorem aGc [ax]:SC (at2 Fv):=s0 (.c awg (.nil _)) (aSN sH)
def ajB:=qa (pu nil nil)
def O':=qe (res (pl (aa aEe) (pu nil nil)))
abbrev I9:=O'.B
abbrev Dt:=Option I9
def TL (g:Dt):Ct:=(213,FC ajB (lf O') (λ_=>g))
def mj:=qs (st (pr (cu (app 0 576) (cu RC (us 1 aQ4))) (pl (c nh (cl nh nil)) nil)))
def aaY:=qs (st (pr (cu (app 0 576) (cu RC (us 1 aKy))) (pl (c nh (cl nh nil)) nil)))
abbrev yZ:=aaY.B
def aaZ {ρ:Type}:=@ef yZ ((.ex 0)) aaY ρ
def Mx (d:mj.B):PL mj yZ:=let y0:=ws d.1;let y1:=bk d.1 24;let y2:=decide (d.1<24);let y3:=y0*24+y0;ae y2 (ae y1 (ae y1 (ae (true&&wd (0+y3*1+1) 576) (ret (wr (wI (d.1+1),d.2.1,λj=>bif ww j y3 then 1073741824 else d.2.2 j))) no) no) no) (ret (wn ((d.1,y2),d.2)))
def My:=bj (Mx) 2000
def TM (eI:LT mj yZ):Pg I9:=opt (eI (0,λx=>0,λx=>0)) λd=>ret d.2.2
def uB:Option I9:=(TM My).val
abbrev I':=(LT mj yZ)
def TN (p:I'):KK:=⟨[],⟨[⟨3,(2::rg 4 8 []),[]⟩],[gv 3 0 mj aaZ p],[],[],(some ⟨0,(rg 1 11 []),[]⟩)⟩,0,213⟩
theorem at4 (p:I'):LI (TN p) 3 mj aaZ (Mx):=λ_ d c K=>by kernel_rfl
theorem aCM (p:I'):D2 (TN p) ajB (lf O') λb=>TM p:=λb=>by kernel_rfl
abbrev TO:I':=My
theorem ajC [ax]:SC (TL uB):=sc (kS (k:=TN TO) (.nil _) [3] [] ⟨kL (at4 TO),trivial⟩ trivial (aCM TO))
def awi:=qa (pr (cu aQ (c (aa ab1) Hp)) bF)
def ada:=qe aya
abbrev ahB:=ada.B
abbrev Gy:=NI->Int->Int->Int->Bool->Option ahB
def Mz (g:Gy):Ct:=(124,FC awi (lf ada) (λb=>g b.1.1 b.1.2.1 b.1.b.1 b.1.b.2 b.2))
def ou:=qs (st (pr (cu aQ (us 3 (cu aI7 (cu aac (cu alm (cu aTu (us 1 aQ0))))))) (pl (c cG (c (so ab1) (c zZ alD))) cQ)))
def amV:=qs (st (pr (cu aQ (us 3 (cu aI7 (cu aac (cu alm (cu aTu (us 1 (c ai aQY)))))))) (pl (c cG (c (so ab1) (c zZ alD))) cQ)))
abbrev Bh:=amV.B
def amW {ρ:Type}:=@ef Bh ((.ex 0)) amV ρ
def MA (bg:ei)(d:ou.B):PL ou Bh:=let n2:=d.2.2.1;let n1:=d.2.2.2;let y0:=wI (3*d.1);let y1:=wI (d.1+1);let y2:=ws y0;let y3:=wI (y0+3);let y4:=ws y3;let y5:=decide (d.1<3);let y6:=y4-y2;ae y5 (ae (K0 y3 9) (ae (K0 y0 y4) (ae (ww y6 y6) (opt (bg 30 y6 3 d.2.1 (λj=>n2 (y2+j)) (cr n1.1.1 [n1.1.2.2,n1.1.2.1,n1.1.1]) false false) λaj=>ae (bk d.1 3) (ae (d.1==2) (ret (wr (y1,aj.2,n2,n1.1,n1.2.1,n1.2.2.1,aj.1))) (ae (d.1==1) (ret (wr (y1,aj.2,n2,n1.1,n1.2.1,aj.1,n1.2.2.2))) (ret (wr (y1,aj.2,n2,n1.1,aj.1,n1.2.2))))) no) no) no) no) (ret (wn ((d.1,y5),d.2)))
def XH:=bj (MA bx) 2000
def VF (eI:LT ou Bh)(x0:Nat->Int)(x1:Int)(x2:Int)(x3:Int)(x4:Bool):Pg ahB:=opt (eI (0,x4,x0,(x1,x2,x3),0,0,0)) λd=>ret (d.2.2.2.2,d.2.1)
def qd:=λx0 x1 x2 x3 x4=>(VF XH x0 x1 x2 x3 x4).val
abbrev VG:=ei×(LT ou Bh)
def ahC (p:VG):KK:=⟨[nY p.1],⟨[⟨3,(1::2::3::8::rg 10 15 []),[]⟩],[gv 3 1 ou amW p.2],[0],[],(some ⟨0,(rg 0 6 (rg 7 18 [])),[]⟩)⟩,1,124⟩
theorem aCN (p:VG):LI (ahC p) 3 ou amW (MA p.1):=λ_ d c K=>by kernel_rfl
theorem aLL (p:VG):D2 (ahC p) awi (lf ada) λb=>VF p.2 b.1.1 b.1.2.1 b.1.b.1 b.1.b.2 b.2:=λb=>by kernel_rfl
abbrev ahD:VG:=(bx,XH)
theorem VH [ax]:SC (Mz qd):=sc (kS (k:=ahC ahD) (.c pU (.nil _)) [3] [] ⟨kL (aCN ahD),trivial⟩ trivial (aLL ahD))
def aBb:=qa (pr (cu aQ (c (aa ab1) Hp)) bF)
def ahE:=qe aya
abbrev amX:=ahE.B
abbrev Fw:=NI->Int->Int->Int->Bool->Option amX
def aa0 (g:Fw):Ct:=(121,FC aBb (lf ahE) (λb=>g b.1.1 b.1.2.1 b.1.b.1 b.1.b.2 b.2))
def qf:=qs (st (pr (cu aQ (us 3 (cu aI7 (cu aac (cu alm (cu aTu (us 1 aWt))))))) (pl (c cG (c (so ab1) (c zZ alD))) cQ)))
def arV:=qs (st (pr (cu aQ (us 3 (cu aI7 (cu aac (cu alm (cu aTu (us 1 aWI))))))) (pl (c cG (c (so ab1) (c zZ alD))) cQ)))
abbrev DZ:=arV.B
def arW {ρ:Type}:=@ef DZ ((.ex 0)) arV ρ
def Q6 (bg:ei)(d:qf.B):PL qf DZ:=let n1:=d.2.2;let n3:=n1.2.2;let n2:=n1.2.1;let y0:=wI (6+d.1);let y1:=wI (d.1+1);let y2:=wI (3+d.1);let y3:=decide (d.1<3);ae y3 (ae (bk d.1 9) (ae (bk y2 9) (ae (bk y0 9) (opt (bg 30 3 3 d.2.1 (cr (n1.1 (ws d.1)) [n1.1 (ws y0),n1.1 (ws y2),n1.1 (ws d.1)]) (cr n2.1 [n2.2.2,n2.2.1,n2.1]) true false) λaj=>ae (bk d.1 3) (ae (d.1==2) (ret (wr (y1,aj.2,n1.1,n2,n3.1,n3.2.1,aj.1))) (ae (d.1==1) (ret (wr (y1,aj.2,n1.1,n2,n3.1,aj.1,n3.2.2))) (ret (wr (y1,aj.2,n1.1,n2,aj.1,n3.2))))) no) no) no) no) (ret (wn ((d.1,y3),d.2)))
def adb:=bj (Q6 bx) 2000
def aa1 (eI:LT qf DZ)(x0:Nat->Int)(x1:Int)(x2:Int)(x3:Int)(x4:Bool):Pg amX:=opt (eI (0,x4,x0,(x1,x2,x3),0,0,0)) λd=>ret (d.2.2.2.2,d.2.1)
def za:=λx0 x1 x2 x3 x4=>(aa1 adb x0 x1 x2 x3 x4).val
abbrev aa2:=ei×(LT qf DZ)
def amY (p:aa2):KK:=⟨[nY p.1],⟨[⟨3,(1::2::3::8::rg 10 21 []),[]⟩],[gv 3 1 qf arW p.2],[0],[],(some ⟨0,(rg 0 6 (rg 7 24 [])),[]⟩)⟩,1,121⟩
theorem aGd (p:aa2):LI (amY p) 3 qf arW (Q6 p.1):=λ_ d c K=>by kernel_rfl
theorem aPo (p:aa2):D2 (amY p) aBb (lf ahE) λb=>aa1 p.2 b.1.1 b.1.2.1 b.1.b.1 b.1.b.2 b.2:=λb=>by kernel_rfl
abbrev amZ:aa2:=(bx,adb)
theorem am0 [ax]:SC (aa0 za):=sc (kS (k:=amY amZ) (.c pU (.nil _)) [3] [] ⟨kL (aGd amZ),trivial⟩ trivial (aPo amZ))
def awj:=qa (pl (cl (aa Fc) nil) nil)
def ade:=qe Fa
abbrev awk:=ade.B
abbrev awl:=Int->Int->Bool->Bool->Option awk
def awm (g:awl):Ct:=(176,FC awj (lf ade) (λb=>g b.1 b.2.1 b.b.1 b.b.2))
def ahF (x0:Int)(x1:Int)(x2:Bool)(x3:Bool):Pg awk:=let y0:=x0==0;let y1:=x0==2;ae y0 (ae y0 (ae (x1==0) (ae (!x2) (ret !x3) (ret false)) (ret false)) (ae y1 (ae y1 (ae (decide (x1>=1)) (ae (decide (x1<=3)) (ae x2 (ret true) (ret y1)) (ret false)) (ret false)) (ret false)) (ae (x0==3) (ae (decide (x1>=1)) (ae (decide (x1<=3)) (ae x2 (ret true) (ret y1)) (ret false)) (ret false)) (ret false)))) (ae (x0==1) (ae (x1==0) (ae (!x2) (ret !x3) (ret false)) (ret false)) (ae y1 (ae y1 (ae (decide (x1>=1)) (ae (decide (x1<=3)) (ae x2 (ret true) (ret y1)) (ret false)) (ret false)) (ret false)) (ae (x0==3) (ae (decide (x1>=1)) (ae (decide (x1<=3)) (ae x2 (ret true) (ret y1)) (ret false)) (ret false)) (ret false))))
def MB:=λx0 x1 x2 x3=>(ahF x0 x1 x2 x3).val
theorem aLM:D0 [] 176 awj (lf ade) λb=>ahF b.1 b.2.1 b.b.1 b.b.2:=λb=>by kernel_rfl
theorem aLN [ax]:SC (awm MB):=s0 (.nil _) aLM
def awn:=qa (pl (c ai aRK) nil)
def adf:=qe Hm
abbrev ahG:=adf.B
abbrev awo:=Int->Bool->Bool->Bool->Bool->Bool->Bool->Bool->Bool->Int->Int->Int->Option ahG
def awp (g:awo):Ct:=(177,FC awn (lf adf) (λb=>g b.1 b.2.1 b.b.1 b.b.2.1.1 b.b.2.1.2.1 b.b.2.1.b.1 b.b.2.1.b.2.1 b.b.2.1.c.1 b.b.2.1.c.2 b.c.1 b.c.2.1 b.c.b))
def VI (x0:Int)(x1:Bool)(x2:Bool)(x3:Bool)(x4:Bool)(x5:Bool)(x6:Bool)(x7:Bool)(x8:Bool)(x9:Int)(fG:Int)(fD:Int):Pg ahG:=let y0:=x0==0;let y1:=x0==1;ae x3 (ae y0 (ae x1 (ret 1) (ae y0 (ret x0) (ae y1 (ae (!x2) (ret x0) (ret 3)) (ret 3)))) (ae y0 (ret x0) (ae y1 (ae (!x2) (ret x0) (ret 3)) (ret 3)))) (ae y0 (ae x1 (ret 1) (ae y0 (ret x0) (ae y1 (ae (!x2) (ret x0) (ae x8 (ret 3) (ret 2))) (ae x8 (ret 3) (ret 2))))) (ae y0 (ret x0) (ae y1 (ae (!x2) (ret x0) (ae x8 (ret 3) (ret 2))) (ae x8 (ret 3) (ret 2)))))
def Cn:=λx0 x1 x2 x3 x4 x5 x6 x7 x8 x9 fG fD=>(VI x0 x1 x2 x3 x4 x5 x6 x7 x8 x9 fG fD).val
theorem aLO:D0 [] 177 awn (lf adf) λb=>VI b.1 b.2.1 b.b.1 b.b.2.1.1 b.b.2.1.2.1 b.b.2.1.b.1 b.b.2.1.b.2.1 b.b.2.1.c.1 b.b.2.1.c.2 b.c.1 b.c.2.1 b.c.b:=λb=>by kernel_rfl
theorem aLP [ax]:SC (awp Cn):=s0 (.nil _) aLO
def am3:=qa (pl jb nil)
def TQ:=qe Hm
abbrev am4:=TQ.B
abbrev XI:=Int->Option am4
def am5 (g:XI):Ct:=(239,FC am3 (lf TQ) (λb=>g b))
def Fx (x0:Int):Pg am4:=ae (x0==1) (ret 1) (ae (x0==2) (ret 0) (ret 2))
def Bi:=λx0=>(Fx x0).val
theorem aGe:D0 [] 239 am3 (lf TQ) λb=>Fx b:=λb=>by kernel_rfl
theorem aGf [ax]:SC (am5 Bi):=s0 (.nil _) aGe
def am6:=qa (pl (c ai aRK) nil)
def TR:=qe ax8
abbrev XJ:=TR.B
abbrev am7:=Int->Bool->Bool->Bool->Bool->Bool->Bool->Bool->Bool->Int->Int->Int->Option XJ
def am8 (g:am7):Ct:=(178,FC am6 (lf TR) (λb=>g b.1 b.2.1 b.b.1 b.b.2.1.1 b.b.2.1.2.1 b.b.2.1.b.1 b.b.2.1.b.2.1 b.b.2.1.c.1 b.b.2.1.c.2 b.c.1 b.c.2.1 b.c.b))
def lJ:=qs (st (pr (c ai (us 1 (xs 1 (cu (app 0 11) (us 2 (xs 1 (us 3 (cu aXC (cu (ac aQ5) aKr))))))))) (pl (c aRD (cl (so (cl gi (cu (gc ax1) (cu aQ9 aRf)))) nil)) nil)))
def XK:=qs (st (pl (us 4 (cl ai (cu Hn aWl))) (pu nil nil)))
def XL:=qs (st (pr (c ai (us 1 (xs 1 (cu (app 0 11) (us 2 (xs 1 (us 3 (cu aXC (cu (ac aQ5) aQ8))))))))) (pl (c aRD (cl (so (cl gi (cu (gc ax1) (cu aQ9 aRf)))) nil)) nil)))
abbrev wq:=XK.B⊕XL.B
def aeQ {ρ:Type}(x:wq)(K:AX->St->Option ρ):Option ρ:=(Sum.elim (λd=>K .ret (XK.em d)) (λd=>K (.ex 0) (XL.em d))) x
def Gz (MC:XI)(d:lJ.B):PL lJ wq:=let n6:=d.2.2;let n5:=d.2.1.2.2;let n3:=d.1.1;let n2:=d.1.2;let n1:=n5.2;let n4:=n1.2.2;let n7:=n4.2.2.1;let y0:=decide (n2<4);ae y0 (ae (bk n2 4) (ae (n2==3) (opt (MC 3) λaj=>ae (bk aj 6) (ae (aj==5) (ae n7 (ret (wn (wr 3))) (ret (wr ((n3,wI (n2+1)),d.2)))) (ae (aj==4) (ae n4.2.1 (ret (wn (wr 3))) (ret (wr ((n3,wI (n2+1)),d.2)))) (ae (aj==3) (ae n4.1 (ret (wn (wr 3))) (ret (wr ((n3,wI (n2+1)),d.2)))) (ae (aj==2) (ae n1.2.1 (ret (wn (wr 3))) (ret (wr ((n3,wI (n2+1)),d.2)))) (ae (aj==1) (ae n1.1 (ret (wn (wr 3))) (ret (wr ((n3,wI (n2+1)),d.2)))) (ae n5.1 (ret (wn (wr 3))) (ret (wr ((n3,wI (n2+1)),d.2))))))))) no) (ae (n2==2) (opt (MC 2) λaj=>ae (bk aj 6) (ae (aj==5) (ae n7 (ret (wn (wr 2))) (ret (wr ((n3,wI (n2+1)),d.2)))) (ae (aj==4) (ae n4.2.1 (ret (wn (wr 2))) (ret (wr ((n3,wI (n2+1)),d.2)))) (ae (aj==3) (ae n4.1 (ret (wn (wr 2))) (ret (wr ((n3,wI (n2+1)),d.2)))) (ae (aj==2) (ae n1.2.1 (ret (wn (wr 2))) (ret (wr ((n3,wI (n2+1)),d.2)))) (ae (aj==1) (ae n1.1 (ret (wn (wr 2))) (ret (wr ((n3,wI (n2+1)),d.2)))) (ae n5.1 (ret (wn (wr 2))) (ret (wr ((n3,wI (n2+1)),d.2))))))))) no) (ae (n2==1) (opt (MC 1) λaj=>ae (bk aj 6) (ae (aj==5) (ae n7 (ret (wn (wr 1))) (ret (wr ((n3,wI (n2+1)),d.2)))) (ae (aj==4) (ae n4.2.1 (ret (wn (wr 1))) (ret (wr ((n3,wI (n2+1)),d.2)))) (ae (aj==3) (ae n4.1 (ret (wn (wr 1))) (ret (wr ((n3,wI (n2+1)),d.2)))) (ae (aj==2) (ae n1.2.1 (ret (wn (wr 1))) (ret (wr ((n3,wI (n2+1)),d.2)))) (ae (aj==1) (ae n1.1 (ret (wn (wr 1))) (ret (wr ((n3,wI (n2+1)),d.2)))) (ae n5.1 (ret (wn (wr 1))) (ret (wr ((n3,wI (n2+1)),d.2))))))))) no) (ae (decide (n6>=1)) (ae (decide (n6<=3)) (opt (MC n6) λaj=>ae (bk aj 6) (ae (aj==5) (ae n7 (ret (wn (wr n6))) (ret (wr ((n3,wI (n2+1)),d.2)))) (ae (aj==4) (ae n4.2.1 (ret (wn (wr n6))) (ret (wr ((n3,wI (n2+1)),d.2)))) (ae (aj==3) (ae n4.1 (ret (wn (wr n6))) (ret (wr ((n3,wI (n2+1)),d.2)))) (ae (aj==2) (ae n1.2.1 (ret (wn (wr n6))) (ret (wr ((n3,wI (n2+1)),d.2)))) (ae (aj==1) (ae n1.1 (ret (wn (wr n6))) (ret (wr ((n3,wI (n2+1)),d.2)))) (ae n5.1 (ret (wn (wr n6))) (ret (wr ((n3,wI (n2+1)),d.2))))))))) no) (ret (wr ((n3,wI (n2+1)),d.2)))) (ret (wr ((n3,wI (n2+1)),d.2))))))) no) (ret (wn (wn ((n3,n2,y0),d.2))))
def Pc:=bj (Gz Bi) 2000
def MD (eI:LT lJ wq)(x0:Int)(x1:Bool)(x2:Bool)(x3:Bool)(x4:Bool)(x5:Bool)(x6:Bool)(x7:Bool)(x8:Bool)(x9:Int)(fG:Int)(fD:Int):Pg XJ:=opt (eI ((x0,0),(x1,x2,x3,x4,x5,x6,x7,x8,x9,fG,fD),fD)) λx=>sum x (λd=>ret (d,true)) λd=>ret (if 1>d.1.1 then 1 else d.1.1,false)
def wT:=λx0 x1 x2 x3 x4 x5 x6 x7 x8 x9 fG fD=>(MD Pc x0 x1 x2 x3 x4 x5 x6 x7 x8 x9 fG fD).val
abbrev ME:=XI×(LT lJ wq)
def XM (p:ME):KK:=⟨[am5 p.1],⟨[⟨2,(1::4::5::7::8::9::rg 13 6 (21::22::rg 28 5 (19::20::rg 23 5 []))),[]⟩],[gv 2 0 lJ aeQ p.2],[],[],(some ⟨0,(rg 0 4 (rg 6 27 [])),[]⟩)⟩,0,178⟩
theorem awq (p:ME):LI (XM p) 2 lJ aeQ (Gz p.1):=λ_ d c K=>by kernel_rfl
theorem aGg (p:ME):D2 (XM p) am6 (lf TR) λb=>MD p.2 b.1 b.2.1 b.b.1 b.b.2.1.1 b.b.2.1.2.1 b.b.2.1.b.1 b.b.2.1.b.2.1 b.b.2.1.c.1 b.b.2.1.c.2 b.c.1 b.c.2.1 b.c.b:=λb=>by kernel_rfl
abbrev XN:ME:=(Bi,Pc)
theorem aGh [ax]:SC (am8 wT):=sc (kS (k:=XM XN) (.c aGf (.nil _)) [2] [] ⟨kL (awq XN),trivial⟩ trivial (aGg XN))
def Co:=qa (pl (c (aa Fc) aRK) nil)
def aH5:=qe (res (pl (sZ (c (ra Fc) (cl (ra (c gi (c gi (c gb aKz)))) nil))) (pu nil nil)))
abbrev MF:=(rj×Int×Int)
def awr:MF->T:=λd=>lf aH5 (d.1,d.1.1,d.1.2.1,d.1.b.1,d.1.b.2,d.2)
abbrev ahH:=Co.B->Option MF
def aws (g:ahH):Ct:=(111,FC Co awr g)
def VJ (VK:awl)(MG:awo)(Fy:am7)(x:Co.B):Pg MF:=let n8:=x.2.2.1;let n7:=x.1.1;let n4:=x.1.2.1;let n1:=x.2.2.2;let n9:=n1.1.2.1;let n6:=n1.2.1;let n3:=n1.2.2;let n2:=n1.1.2.2;let n5:=n2.2.2;let y0:=decide (n6>=0);opt (VK n7 n4 x.1.2.2.1 x.1.2.2.2) λd=>ae (!d) (opt (MG 0 x.2.1 n8 n1.1.1 n9 n2.1 n2.2.1 n5.1 n5.2 n6 n3.1 n3.2) λd=>ae (decide (d>=2)) (opt (Fy 0 x.2.1 n8 n1.1.1 n9 n2.1 n2.2.1 n5.1 n5.2 n6 n3.1 n3.2) λaj=>ae (d==3) (ret ((d,aj.1,true,!aj.2),0,0)) (ae y0 (ret ((d,aj.1,decide (n6<=n3.1),!aj.2),0,0)) (ret ((d,aj.1,false,!aj.2),0,0)))) (ret ((d,0,false,false),0,0))) (opt (MG n7 x.2.1 n8 n1.1.1 n9 n2.1 n2.2.1 n5.1 n5.2 n6 n3.1 n3.2) λd=>ae (decide (d>=2)) (opt (Fy n4 x.2.1 n8 n1.1.1 n9 n2.1 n2.2.1 n5.1 n5.2 n6 n3.1 n3.2) λaj=>ae (d==3) (ret ((d,aj.1,true,!aj.2),n7,n4)) (ae y0 (ret ((d,aj.1,decide (n6<=n3.1),!aj.2),n7,n4)) (ret ((d,aj.1,false,!aj.2),n7,n4)))) (ret ((d,0,false,false),n7,n4)))
def vh:=λx=>(VJ MB Cn wT x).val
theorem aLQ:∀VK MG Fy,D0 [awm VK,awp MG,am8 Fy] 111 Co awr λb=>VJ VK MG Fy b:=λ_ _ _ b=>by kernel_rfl
theorem aLR [ax]:SC (aws vh):=s0 (.c aLN (.c aLP (.c aGh (.nil _)))) (aLQ MB Cn wT)
def aGi:=qa (dp (cu aQ aKu) λa=>(c xV (cl (cl (gs a.1 ath) nil) nil)))
def am9:=qe (res (pr agd (pl OA nil)))
abbrev at5:=am9.B
abbrev Cp:=Nat->Bool->NI->NI->NI->Bool->Option at5
def J0 (g:Cp):Ct:=(153,vN 1 [.i .i64,.i .i64,.i .i64] (FC aGi (lf am9) (λb=>g b.1.1 b.2.1 b.b.1 b.b.2.1 b.c b.1.2)))
def vT:=qs (st (dp (cu aQ (c atd (us 2 (cu aac (cu alm (c ai (c aXt (us 2 (c ai (us 2 (c atd (c ai (cl ai (us 17 nil)))))))))))))) λa=>(pl (c cG (c (so (cl (gs a.1.1 ath) nil)) (cu (so atn) (c zZ (cl (so (cl (gs a.b.1 oT) nil)) nil))))) cQ)))
def aLS:=qs (st (pr (cu aQ (c atd (us 2 (cu aac (cu alm (c ai (c aXt (us 2 (c ai (us 2 (c atd (c ai (c ai (cl ab (us 16 nil))))))))))))))) (pl (c cG (c aEm (cu (so atn) (c zZ alx)))) cQ)))
abbrev MH:=(((Nat×Bool)×Int×Nat×Int×(Nat×Bool)×Int×Int×Bool)×Bool×(NI×NI×NI)×lG×NI)
def awt {ρ:Type}(x:MH)(K:AX->St->Option ρ):Option ρ:=(λd=>K (.ex 2) (aLS.em (d.1,d.2.1,(d.1.1.1,d.b.1),d.b.2.1,d.1.b.1,d.c))) x
def ahI (d:vT.B):PL vT MH:=let n5:=d.1.2.1;let n3:=d.2.2;let n2:=d.1.2.2;let n4:=n2.2.2.2;let y0:=n2.1+1;let n1:=(d.1.1,n5,y0,n2.2.1,n2.2.2.1,n4.1,wI (n4.2+1));let y1:=ws n4.2;let y2:=wd (y0*8) 140737488355328;let y3:=decide (n4.2<n4.1);ae y3 (ae (bk n4.2 n2.2.2.1.1) (ae (bk n5 3) (ae (n5==2) (ae y2 (ret (wr (n1,d.2.1,n3.1,n3.2.1,λj=>bif ww j n2.1 then n3.1.2.2 y1 else n3.2.2 j))) no) (ae (n5==1) (ae y2 (ret (wr (n1,d.2.1,n3.1,n3.2.1,λj=>bif ww j n2.1 then n3.1.2.1 y1 else n3.2.2 j))) no) (ae y2 (ret (wr (n1,d.2.1,n3.1,n3.2.1,λj=>bif ww j n2.1 then n3.1.1 y1 else n3.2.2 j))) no))) no) no) (ret (wn ((d.1.1,n5,n2.1,n2.2.1,n2.2.2.1,n4.1,n4.2,y3),d.2)))
def VL:=bj (ahI) 2000
def sI:=qs (st (dp (cu aQ (c atd (us 2 (cu aac (cu alm (us 4 aWu)))))) λa=>(pl (c cG (c (so (cl (gs a.1.1 ath) nil)) alD)) cQ)))
def aLT:=qs (st (pr (cu aQ (c atd (us 2 (cu aac (cu alm (us 4 (c ai aQZ))))))) (pl (c cG (c aEm alD)) cQ)))
abbrev GA:=(((Nat×Bool)×Int×Bool)×Bool×(NI×NI×NI)×Int×Int×Int)
def awu {ρ:Type}(x:GA)(K:AX->St->Option ρ):Option ρ:=(λd=>K (.ex 0) (aLT.em (d.1,d.2.1,(d.1.1.1,d.b.1),d.b.2))) x
def VM (cv:eH)(rn:LT vT MH)(d:sI.B):PL sI GA:=let n3:=d.1.1;let y0:=decide (d.1.2<3);ae y0 (ae (ww n3.1 n3.1) (ae true (opt (rn ((n3,d.1.2,0,d.1.2,n3,wl n3.1,0),d.2.1,d.2.2.1,d.2.2.2,λx=>0)) λd=>let n2:=d.2.2;let n4:=n2.2.1;let n1:=d.1.2;ae (ww n1.2.1 n1.2.1) (opt (cv n1.2.1 d.2.1 n2.2.2 true) λaj=>ae (bk n1.1 3) (ae (n1.1==2) (ret (wr ((d.1.1,wI (n1.2.2.1+1)),aj.2,n2.1,n4.1,n4.2.1,aj.1))) (ae (n1.1==1) (ret (wr ((d.1.1,wI (n1.2.2.1+1)),aj.2,n2.1,n4.1,aj.1,n4.2.2))) (ret (wr ((d.1.1,wI (n1.2.2.1+1)),aj.2,n2.1,aj.1,n4.2))))) no) no) no) no) (ret (wn ((n3,d.1.2,y0),d.2)))
def ahJ:=bj (VM cC VL) 2000
def ahK (eI:LT sI GA)(x0:Nat)(x1:Bool)(x2:Nat->Int)(x3:Nat->Int)(x4:Nat->Int)(w0:Bool):Pg at5:=ae (ww x0 x0) (opt (eI (((x0,w0),0),x1,(x2,x3,x4),0,0,0)) λd=>ret (d.2.2.2,d.2.1)) no
def ml:=λx0 x1 x2 x3 x4 w0=>(ahK ahJ x0 x1 x2 x3 x4 w0).val
abbrev XO:=eH×(LT vT MH)×(LT sI GA)
def ahL (p:XO):KK:=⟨[pT p.1],⟨[⟨3,(2::3::rg 6 4 (rg 11 22 [])),[]⟩,⟨7,(2::3::8::9::11::12::rg 16 17 []),[(7,[.i .i64])]⟩],[gv 7 2 vT awt p.2.1,gv 3 2 sI awu p.b],[0],[],(some ⟨0,(rg 0 4 (rg 5 28 [])),[]⟩)⟩,2,153⟩
theorem aH6 (p:XO):LI (ahL p) 7 vT awt (ahI):=λ_ d c K=>by kernel_rfl
theorem aH7 (p:XO):LI (ahL p) 3 sI awu (VM p.1 p.2.1):=λ_ d c K=>by kernel_rfl
theorem aSO (p:XO):D2 (ahL p) aGi (lf am9) λb=>ahK p.b b.1.1 b.2.1 b.b.1 b.b.2.1 b.c b.1.2:=λb=>by kernel_rfl
abbrev ahM:XO:=(cC,VL,ahJ)
theorem Pd [ax]:SC (J0 ml):=sc (Sound.nil 1 [.i .i64,.i .i64,.i .i64]<|kS (k:=ahL ahM) (.c sF (.nil _)) [3,7] [] ⟨kL (aH7 ahM),⟨kL (aH6 ahM),trivial⟩⟩ trivial (aSO ahM))
def awv:=qa (pr (cu aQ atl) bF)
def adg:=qe ayb
abbrev ahN:=adg.B
abbrev jo:=Int->Int->Int->Int->Bool->Option ahN
def ov (g:jo):Ct:=(86,FC awv (lf adg) (λb=>g b.1.1 b.1.2.1 b.1.b.1 b.1.b.2 b.2))
def oy:=qs (st (pr (cu aQ (us 2 (cu aqQ (cu aAe (c ai (us 8 (c ai (us 4 aKp)))))))) (pl (c cG (cl xY (cu alC nil))) cQ)))
def ana:=qs (st (pr (cu aQ (us 2 (cu aqQ (cu aAe (c ai (us 8 (c ai (us 4 aKw)))))))) (pl (c cG (cl xY (cu alC nil))) cQ)))
abbrev Bj:=ana.B
def anb {ρ:Type}:=@ef Bj ((.ex 2)) ana ρ
def MI (aD:cB)(d:oy.B):PL oy Bj:=let n6:=d.1.1;let n4:=d.1.2.2;let n2:=d.2.2;let n5:=n2.2.1;let n3:=n2.2.2;let n1:=(n6,d.1.2.1,wI (n4+1));let y0:=bk n4 4;let y1:=n4==2;let y2:=n4==1;let y3:=n4==3;let y4:=decide (n4<4);ae y4 (ae y0 (ae y3 (opt (aD n3.2 n6 30 d.2.1) λaj=>ae y0 (ae y3 (ret (wr (n1,aj.2,n2.1,n5,n3.1,aj.1))) (ae y1 (ret (wr (n1,aj.2,n2.1,n5,aj.1,n3.2))) (ae y2 (ret (wr (n1,aj.2,n2.1,aj.1,n3))) (ret (wr (n1,aj.2,aj.1,n2.2)))))) no) (ae y1 (opt (aD n3.1 n6 30 d.2.1) λaj=>ae y0 (ae y3 (ret (wr (n1,aj.2,n2.1,n5,n3.1,aj.1))) (ae y1 (ret (wr (n1,aj.2,n2.1,n5,aj.1,n3.2))) (ae y2 (ret (wr (n1,aj.2,n2.1,aj.1,n3))) (ret (wr (n1,aj.2,aj.1,n2.2)))))) no) (ae y2 (opt (aD n5 n6 30 d.2.1) λaj=>ae y0 (ae y3 (ret (wr (n1,aj.2,n2.1,n5,n3.1,aj.1))) (ae y1 (ret (wr (n1,aj.2,n2.1,n5,aj.1,n3.2))) (ae y2 (ret (wr (n1,aj.2,n2.1,aj.1,n3))) (ret (wr (n1,aj.2,aj.1,n2.2)))))) no) (opt (aD n2.1 n6 30 d.2.1) λaj=>ae y0 (ae y3 (ret (wr (n1,aj.2,n2.1,n5,n3.1,aj.1))) (ae y1 (ret (wr (n1,aj.2,n2.1,n5,aj.1,n3.2))) (ae y2 (ret (wr (n1,aj.2,n2.1,aj.1,n3))) (ret (wr (n1,aj.2,aj.1,n2.2)))))) no)))) no) (ret (wn ((n6,d.1.2.1,n4,y4),d.2)))
def XP:=bj (MI bl) 2000
def oz:=qs (st (pr (cu aQ (us 2 (cu aqQ (cu aAe (us 9 aQ2))))) (pl (c cG (cl xY (cu alC nil))) cQ)))
def anc:=qs (st (pr (cu aQ (us 2 (cu aqQ (cu aAe (us 9 aKx))))) (pl (c cG (cl xY (cu alC nil))) cQ)))
abbrev Bk:=anc.B
def ane {ρ:Type}:=@ef Bk ((.ex 0)) anc ρ
def MJ (kM:Af)(rn:LT oy Bj)(d:oz.B):PL oz Bk:=let n1:=d.2.2;let y0:=decide (d.1<2);ae y0 (opt (kM 4 d.2.1 (cr n1.1 [n1.2.2.2,n1.2.2.1,n1.2.1,n1.1]) false) λaj=>opt (rn ((aj.1,d.1,0),aj.2,n1)) λd=>ret (wr (wI (d.1.2.1+1),d.2))) (ret (wn ((d.1,y0),d.2)))
def XQ:=bj (MJ fa XP) 2000
def VN (qK:RR)(jf:BW)(eI:LT oz Bk)(x0:Int)(x1:Int)(x2:Int)(x3:Int)(x4:Bool):Pg ahN:=opt (qK x0 x1 x2 x3 x4) λd=>ae (d.1.1==0&&(d.1.2.1==0&&(d.1.2.2.1==0&&(d.1.2.2.2==0&&true)))) (opt jf λaj=>ret ((1073741824,0,0,0),d.2)) (opt (eI (0,d.2,d.1)) λd=>ret (d.2.2,d.2.1))
def dH:=λx0 x1 x2 x3 x4=>(VN tz jV XQ x0 x1 x2 x3 x4).val
abbrev MK:=RR×BW×Af×cB×(LT oy Bj)×(LT oz Bk)
def VO (p:MK):KK:=⟨[aaP p.1,Lc p.2.1,Ii p.b.1,gV p.b.2.1],⟨[⟨5,(1::2::rg 5 9 (rg 15 18 [])),[]⟩,⟨8,(1::2::rg 6 8 (rg 15 4 (rg 20 13 []))),[]⟩],[gv 8 1 oy anb p.c.1,gv 5 1 oz ane p.c.2],[],[],(some ⟨0,(rg 0 4 (rg 5 28 [])),[]⟩)⟩,1,86⟩
theorem aCO (p:MK):LI (VO p) 8 oy anb (MI p.b.2.1):=λ_ d c K=>by kernel_rfl
theorem aCP (p:MK):LI (VO p) 5 oz ane (MJ p.b.1 p.c.1):=λ_ d c K=>by kernel_rfl
theorem aLU (p:MK):D2 (VO p) awv (lf adg) λb=>VN p.1 p.2.1 p.c.2 b.1.1 b.1.2.1 b.1.b.1 b.1.b.2 b.2:=λb=>by kernel_rfl
abbrev VP:MK:=(tz,jV,fa,bl,XP,XQ)
theorem qg [ax]:SC (ov dH):=sc (kS (k:=VO VP) (.c amL (.c RT (.c QY (.c iO (.nil _))))) [5,8] [] ⟨kL (aCP VP),⟨kL (aCO VP),trivial⟩⟩ trivial (aLU VP))
def aeR:=qa (pr (cu aQ (cl Ca (cu RC nil))) (c xV (cl aEe nil)))
def ML:=qe (res (pu aWm (pr OA (cl aWJ nil))))
abbrev aeS:=ML.B
abbrev Pe:=NI->NI->Bool->NI->Option aeS
def aeT (g:Pe):Ct:=(216,FC aeR (lf ML) (λb=>g b.1.1 b.1.2 b.2.1 b.b))
def kX:=qs (st (pr (cu aQ (us 1 (cu RC (us 1 (cu aad (us 2 (cu aae (c ai (cu aqR (us 3 (c ai (us 3 (c ai (cl ai (us 35 nil))))))))))))))) (pl (c cG (c nh (c jE (c Ho JD)))) cQ)))
def XR:=qs (st (pr (cu aQ (us 1 (cu RC (us 1 (cu aad (us 2 (cu aae (c ai (cu aqR (us 3 (c ai (us 3 (c ai (c ai (cl ab (us 34 nil)))))))))))))))) (pl (c cG (c nh (c jE (c Ho JD)))) cQ)))
abbrev wV:=XR.B
def XS {ρ:Type}:=@ef wV ((.ex 2)) XR ρ
def J1 (anf:XF)(d:kX.B):PL kX wV:=let n2:=d.2.2.2;let n1:=d.1.2.2;let y0:=ws n1.2;let y1:=decide (n1.2<n1.1);ae y1 (opt (anf n2.1.1 n2.1.2 n1.2 d.1.1) λaj=>ae (bk n1.2 24) (ae (true&&wd (0+y0*1+1) 24) (ret (wr ((d.1.1,d.1.2.1,n1.1,wI (n1.2+1)),d.2.1,d.2.2.1,n2.1,n2.2.1,λj=>bif ww j y0 then aj else n2.2.2 j))) no) no) (ret (wn ((d.1.1,d.1.2.1,n1.1,n1.2,y1),d.2)))
def J2:=bj (J1 Il) 2000
def kY:=qs (st (pr (cu aQ (us 1 (cu RC (us 1 (cu aad (us 2 (cu aae (c ai (cu aqR (us 3 (c ai (us 14 (cl ai (us 25 nil)))))))))))))) (pl (c cG (c nh (c jE (c Ho JD)))) cQ)))
def XT:=qs (st (pr (cu aQ (us 1 (cu RC (us 1 (cu aad (us 2 (cu aae (c ai (cu aqR (us 3 (c ai (us 14 (c ai (cl ab (us 24 nil))))))))))))))) (pl (c cG (c nh (c jE (c Ho JD)))) cQ)))
abbrev wW:=XT.B
def XU {ρ:Type}:=@ef wW ((.ex 4)) XT ρ
def J3 (bg:ei)(d:kY.B):PL kY wW:=let n2:=d.2.2;let n1:=d.1.2;let y0:=ws n1.2;let y1:=bk n1.2 24;let y2:=decide (n1.2<24);let y3:=y0*48+ws d.1.1;ae y2 (ae y1 (opt (bg 30 24 24 d.2.1 (λj=>n2.1 (0+y0*24+j)) n2.2.2.2 false false) λaj=>ae y1 (ae (bk d.1.1 48) (ae (true&&wd (0+y3*1+1) 1152) (ret (wr ((d.1.1,n1.1,wI (n1.2+1)),aj.2,n2.1,n2.2.1,λj=>bif ww j y3 then aj.1 else n2.2.2.1 j,n2.2.2.2))) no) no) no) no) (ret (wn ((d.1.1,n1.1,n1.2,y2),d.2)))
def J4:=bj (J3 bx) 2000
def kZ:=qs (st (pr (us 7 (cu aWm (us 37 aQ4))) (pl (c cG (c nh (cl Ho nil))) cQ)))
def XV:=qs (st (pr (us 7 (cu aWm (us 37 aKy))) (pl (c cG (c nh (cl Ho nil))) cQ)))
abbrev wX:=XV.B
def XW {ρ:Type}:=@ef wX ((.ex 6)) XV ρ
def J5 (d:kZ.B):PL kZ wX:=let y0:=wI (24+d.1);let y1:=decide (d.1<24);let y2:=ws d.1*48+ws y0;ae y1 (ae (bk d.1 24) (ae (bk y0 48) (ae (true&&wd (0+y2*1+1) 1152) (ret (wr (wI (d.1+1),d.2.1,d.2.2.1,λj=>bif ww j y2 then 1073741824 else d.2.2.2 j))) no) no) no) (ret (wn ((d.1,y1),d.2)))
def J6:=bj (J5) 2000
def ld:=qs (st (pr (cu aQ (us 1 (cu RC (us 1 (cu aad (us 2 (cu aae (us 5 (cl ai (us 40 nil)))))))))) (pl (c cG (c nh (c jE (cl Ho nil)))) cQ)))
def XX:=qs (st (pr (cu aQ (us 1 (cu RC (us 1 (cu aad (us 2 (cu aae (us 5 (c ai (cl ab (us 39 nil))))))))))) (pl (c cG (c nh (c jE (cl Ho nil)))) cQ)))
abbrev wY:=XX.B
def XY {ρ:Type}:=@ef wY ((.ex 0)) XX ρ
def J7 (rn:LT kX wV)(HB:LT kY wW)(d:ld.B):PL ld wY:=let y0:=decide (d.1<24);ae y0 (opt (rn ((d.1,d.1,wI (d.1+1),0),d.2.1,d.2.2.1,d.2.2.2.1,d.2.2.2.2,λx=>0)) λd=>opt (HB ((d.1.1,d.1.2.1,0),d.2)) λd=>ret (wr (wI (d.1.2.1+1),d.2.1,d.2.2.1,d.2.2.2.1,d.2.2.2.2.1))) (ret (wn ((d.1,y0),d.2)))
def J8:=bj (J7 J2 J4) 2000
def Pf (l_3:LT kZ wX)(eI:LT ld wY)(x0:Nat->Int)(x1:Nat->Int)(x2:Bool)(x3:Nat->Int):Pg aeS:=opt (eI (0,x2,x3,(x0,x1),λx=>0)) λd=>opt (l_3 (0,d.2.1,d.2.2.1,d.2.2.2.2)) λd=>ret (d.2.1,d.2.2.2)
def Bl:=λx0 x1 x2 x3=>(Pf J6 J8 x0 x1 x2 x3).val
abbrev rJ:=XF×ei×(LT kX wV)×(LT kY wW)×(LT kZ wX)×(LT ld wY)
def wu (p:rJ):KK:=⟨[awh p.1,nY p.2.1],⟨[⟨3,(1::3::5::6::rg 8 5 (rg 14 40 [])),[]⟩,⟨7,(1::3::5::6::10::11::12::14::15::16::rg 19 35 []),[]⟩,⟨12,(1::3::5::6::10::11::12::rg 14 14 (rg 29 25 [])),[]⟩,⟨18,(rg 0 7 (rg 8 37 (rg 46 8 []))),[]⟩],[gv 7 2 kX XS p.b.1,gv 12 2 kY XU p.b.2.1,gv 18 2 kZ XW p.c.1,gv 3 2 ld XY p.c.2],[0],[],(some ⟨0,(rg 0 6 (rg 7 47 [])),[]⟩)⟩,2,216⟩
theorem ap1 (p:rJ):LI (wu p) 7 kX XS (J1 p.1):=λ_ d c K=>by kernel_rfl
theorem ap2 (p:rJ):LI (wu p) 12 kY XU (J3 p.2.1):=λ_ d c K=>by kernel_rfl
theorem ap3 (p:rJ):LI (wu p) 18 kZ XW (J5):=λ_ d c K=>by kernel_rfl
theorem ap4 (p:rJ):LI (wu p) 3 ld XY (J7 p.b.1 p.b.2.1):=λ_ d c K=>by kernel_rfl
theorem ay7 (p:rJ):D2 (wu p) aeR (lf ML) λb=>Pf p.c.1 p.c.2 b.1.1 b.1.2 b.2.1 b.b:=λb=>by kernel_rfl
abbrev wv:rJ:=(Il,bx,J2,J4,J6,J8)
theorem ay8 [ax]:SC (aeT Bl):=sc (kS (k:=wu wv) (.c aF9 (.c pU (.nil _))) [3,7,12,18] [] ⟨kL (ap4 wv),⟨kL (ap1 wv),⟨kL (ap2 wv),⟨kL (ap3 wv),trivial⟩⟩⟩⟩ trivial (ay7 wv))
def aww:=qa (pl atk nil)
def adh:=qe aXi
abbrev awx:=adh.B
abbrev eJ:=NI->Option awx
def ke (g:eJ):Ct:=(68,FC aww (lf adh) (λb=>g b))
def ahO (x0:Nat->Int):Pg awx:=ret (x0 0,x0 1,x0 2,x0 3)
def bp:=λx0=>(ahO x0).val
theorem aLV:D0 [] 68 aww (lf adh) λb=>ahO b:=λb=>by kernel_rfl
theorem lK [ax]:SC (ke bp):=s0 (.nil _) aLV
def ajD:=qa (pl (c mc atl) nil)
def Ph:=qe aRs
abbrev ajE:=Ph.B
abbrev Ja:=NI->Int->Int->Int->Int->Option ajE
def TS (g:Ja):Ct:=(85,FC ajD (lf Ph) (λb=>g b.1 b.2.1 b.b.1 b.b.2.1 b.c))
def TT (x0:Nat->Int)(x1:Int)(x2:Int)(x3:Int)(x4:Int):Pg ajE:=ret λj=>bif ww j 3 then x4 else bif ww j 2 then x3 else bif ww j 1 then x2 else bif ww j 0 then x1 else x0 j
def oA:=λx0 x1 x2 x3 x4=>(TT x0 x1 x2 x3 x4).val
theorem aCQ:D0 [] 85 ajD (lf Ph) λb=>TT b.1 b.2.1 b.b.1 b.b.2.1 b.c:=λb=>by kernel_rfl
theorem ajF [ax]:SC (TS oA):=s0 (.nil _) aCQ
def arX:=qa (pr (c ai (c ai (c ai (cl ai (cu aQ (cu aqQ nil)))))) (cu aQ3 (c agf bF)))
def XZ:=qe aXk
abbrev adi:=XZ.B
abbrev arY:=Int->Int->Int->Int->Int->Int->Int->Int->Bool->Option adi
def arZ (g:arY):Ct:=(210,FC arX (lf XZ) (λb=>g b.1.1 b.1.2.1 b.1.b.1 b.1.b.2 b.2.1.1 b.2.1.2.1 b.2.1.b.1 b.2.1.b.2 b.b))
def Q7 (bg:ei)(x0:Int)(x1:Int)(x2:Int)(x3:Int)(x4:Int)(x5:Int)(x6:Int)(x7:Int)(x8:Bool):Pg adi:=opt (bg 30 4 4 x8 (cr x4 [x7,x6,x5,x4]) (cr x0 [x3,x2,x1,x0]) false true) λd=>ret d
def Im:=λx0 x1 x2 x3 x4 x5 x6 x7 x8=>(Q7 bx x0 x1 x2 x3 x4 x5 x6 x7 x8).val
theorem aH8:∀bg,D0 [nY bg] 210 arX (lf XZ) λb=>Q7 bg b.1.1 b.1.2.1 b.1.b.1 b.1.b.2 b.2.1.1 b.2.1.2.1 b.2.1.b.1 b.2.1.b.2 b.b:=λ_ b=>by kernel_rfl
theorem aH9 [ax]:SC (arZ Im):=s0 (.c pU (.nil _)) (aH8 bx)
def ang:=qa (pr (cu aQ jb) bF)
def TU:=qe ayb
abbrev X0:=TU.B
abbrev anh:=Int->Bool->Option X0
def ani (g:anh):Ct:=(123,FC ang (lf TU) (λb=>g b.1 b.2))
def MM (dB:yW)(aB:bL)(im:RO)(eQ:K')(bw:jo)(x0:Int)(x1:Bool):Pg X0:=opt (dB x0) λd=>opt (aB d 536870912 30 x1) λd=>opt (im d.1 d.2) λaj=>opt (eQ d.1 aj.2) λd=>opt (bw aj.1 0 0 d.1 d.2) λd=>ret d
def Fz:=λx0 x1=>(MM fM aX tw oV dH x0 x1).val
theorem aGj:∀dB aB im eQ bw,D0 [Cm dB,fO aB,RP im,La eQ,ov bw] 123 ang (lf TU) λb=>MM dB aB im eQ bw b.1 b.2:=λ_ _ _ _ _ b=>by kernel_rfl
theorem aGk [ax]:SC (ani Fz):=s0 (.c Gs (.c gx (.c aaM (.c RN (.c qg (.nil _)))))) (aGj fM aX tw oV dH)
def aBc:=qa (pr (cu aQ (c agh atl)) bF)
def ahP:=qe ayb
abbrev anj:=ahP.B
abbrev zb:=Int->Int->Int->Int->Int->Int->Int->Int->Bool->Option anj
def FA (g:zb):Ct:=(156,FC aBc (lf ahP) (λb=>g b.1.1.1 b.1.1.2.1 b.1.1.b.1 b.1.1.b.2 b.1.2.1 b.1.b.1 b.1.b.2.1 b.1.c b.2))
def aa3 (qK:RR)(Ai:arY)(x0:Int)(x1:Int)(x2:Int)(x3:Int)(x4:Int)(x5:Int)(x6:Int)(x7:Int)(x8:Bool):Pg anj:=opt (qK x0 x1 x2 x3 x8) λd=>let n1:=d.1.2;opt (qK x4 x5 x6 x7 d.2) λaj=>let n2:=aj.1.2;let y0:=wI (0-n2.1);let y1:=wI (0-n2.2.1);let y2:=wI (0-n2.2.2);opt (Ai aj.1.1 y0 y1 y2 d.1.1 n1.1 n1.2.1 n1.2.2 aj.2) λaC=>opt (Ai n2.1 aj.1.1 n2.2.2 y1 d.1.1 n1.1 n1.2.1 n1.2.2 aC.2) λbC=>opt (Ai n2.2.1 y2 aj.1.1 n2.1 d.1.1 n1.1 n1.2.1 n1.2.2 bC.2) λcK=>opt (Ai n2.2.2 n2.2.1 y0 aj.1.1 d.1.1 n1.1 n1.2.1 n1.2.2 cK.2) λd=>ret ((aC.1,bC.1,cK.1,d.1),d.2)
def mm:=λx0 x1 x2 x3 x4 x5 x6 x7 x8=>(aa3 tz Im x0 x1 x2 x3 x4 x5 x6 x7 x8).val
theorem aPp:∀qK Ai,D0 [aaP qK,arZ Ai] 156 aBc (lf ahP) λb=>aa3 qK Ai b.1.1.1 b.1.1.2.1 b.1.1.b.1 b.1.1.b.2 b.1.2.1 b.1.b.1 b.1.b.2.1 b.1.c b.2:=λ_ _ b=>by kernel_rfl
theorem Ld [ax]:SC (FA mm):=s0 (.c amL (.c aH9 (.nil _))) (aPp tz Im)
def aJM:=qa (pr (cu aQ atl) bF)
def at6:=qe (res (pr (aa ab1) (pl nd nil)))
abbrev ay9:=at6.B
abbrev rK:=Int->Int->Int->Int->Bool->Option ay9
def D3 (g:rK):Ct:=(122,FC aJM (lf at6) (λb=>g b.1.1 b.1.2.1 b.1.b.1 b.1.b.2 b.2))
def zd:=qs (st (pr (us 2 (cu RD (cu aAe (cu (app 3 9) (us 3 aWv))))) (pl (c cG (cu (so (cu (gp 0 1) nil)) (c xY (cl (so ab1) nil)))) cQ)))
def aBd:=qs (st (pr (us 2 (cu RD (cu aAe (cu (app 3 9) (us 3 aWK))))) (pl (c cG (cu (so (cu (gp 0 1) nil)) (c xY (cl (so ab1) nil)))) cQ)))
abbrev RX:=aBd.B
def aBe {ρ:Type}:=@ef RX ((.ex 0)) aBd ρ
def ank (aw:bQ)(d:zd.B):PL zd RX:=let n2:=d.2.2.2;let n1:=d.2.2.1;let n4:=n1.2.1;let n3:=n1.2.2;let y0:=bk d.1 4;let y1:=d.1==2;let y2:=d.1==1;let y3:=d.1==3;let y4:=wI (d.1+1);let y5:=decide (d.1<4);ae y5 (ae y0 (ae y3 (opt (aw n3.2 d.2.1) λaj=>ae y0 (ae y3 (ret (wr (y4,aj.2,(n1.1,n4,n3.1,aj.1),n2))) (ae y1 (ret (wr (y4,aj.2,(n1.1,n4,aj.1,n3.2),n2))) (ae y2 (ret (wr (y4,aj.2,(n1.1,aj.1,n3),n2))) (ret (wr (y4,aj.2,(aj.1,n1.2),n2)))))) no) (ae y1 (opt (aw n3.1 d.2.1) λaj=>ae y0 (ae y3 (ret (wr (y4,aj.2,(n1.1,n4,n3.1,aj.1),n2))) (ae y1 (ret (wr (y4,aj.2,(n1.1,n4,aj.1,n3.2),n2))) (ae y2 (ret (wr (y4,aj.2,(n1.1,aj.1,n3),n2))) (ret (wr (y4,aj.2,(aj.1,n1.2),n2)))))) no) (ae y2 (opt (aw n4 d.2.1) λaj=>ae y0 (ae y3 (ret (wr (y4,aj.2,(n1.1,n4,n3.1,aj.1),n2))) (ae y1 (ret (wr (y4,aj.2,(n1.1,n4,aj.1,n3.2),n2))) (ae y2 (ret (wr (y4,aj.2,(n1.1,aj.1,n3),n2))) (ret (wr (y4,aj.2,(aj.1,n1.2),n2)))))) no) (opt (aw n1.1 d.2.1) λaj=>ae y0 (ae y3 (ret (wr (y4,aj.2,(n1.1,n4,n3.1,aj.1),n2))) (ae y1 (ret (wr (y4,aj.2,(n1.1,n4,aj.1,n3.2),n2))) (ae y2 (ret (wr (y4,aj.2,(n1.1,aj.1,n3),n2))) (ret (wr (y4,aj.2,(aj.1,n1.2),n2)))))) no)))) no) (ret (wn ((d.1,y5),d.2)))
def aa4:=bj (ank aM) 2000
def apQ (anl:amP)(Lf:amR)(eI:LT zd RX)(x0:Int)(x1:Int)(x2:Int)(x3:Int)(x4:Bool):Pg ay9:=opt (eI (0,x4,(x0,x1,x2,x3),λx=>0)) λd=>let n2:=d.2.2.1.1;let n1:=d.2.2.1.2;let n4:=n1.2.2;let n3:=n1.2.1;let y0:=wI (0-n2);opt (anl 1 1 (-1) (-1) n2 n1.1 n3 n4 d.2.1) λaj=>opt (Lf n1.1 n3 y0 n4 aj.2) λaC=>opt (Lf n1.1 n4 n2 n3 aC.2) λbC=>opt (Lf n1.1 n3 n2 n4 bC.2) λcK=>opt (anl 1 (-1) 1 (-1) n2 n1.1 n3 n4 cK.2) λfE=>opt (Lf n3 n4 y0 n1.1 fE.2) λdC=>opt (Lf n1.1 n4 y0 n3 dC.2) λnX=>opt (Lf n3 n4 n2 n1.1 nX.2) λtY=>opt (anl 1 (-1) (-1) 1 n2 n1.1 n3 n4 tY.2) λd=>ret (cr 0 [d.1,tY.1,nX.1,dC.1,fE.1,cK.1,bC.1,aC.1,aj.1],d.2)
def kO:=λx0 x1 x2 x3 x4=>(apQ RU RW aa4 x0 x1 x2 x3 x4).val
abbrev apR:=bQ×amP×amR×(LT zd RX)
def aza (p:apR):KK:=⟨[dG p.1,aA8 p.2.1,aBa p.b.1],⟨[⟨2,(0::1::5::6::7::rg 9 82 []),[]⟩],[gv 2 1 zd aBe p.b.2],[0],[],(some ⟨0,(rg 0 4 (rg 5 86 [])),[]⟩)⟩,1,122⟩
theorem aLW (p:apR):LI (aza p) 2 zd aBe (ank p.1):=λ_ d c K=>by kernel_rfl
theorem aVe (p:apR):D2 (aza p) aJM (lf at6) λb=>apQ p.2.1 p.b.1 p.b.2 b.1.1 b.1.2.1 b.1.b.1 b.1.b.2 b.2:=λb=>by kernel_rfl
abbrev azb:apR:=(aM,RU,RW,aa4)
theorem GB [ax]:SC (D3 kO):=sc (kS (k:=aza azb) (.c dN (.c aPj (.c aPl (.nil _)))) [2] [] ⟨kL (aLW azb),trivial⟩ trivial (aVe azb))
def ajG:=qa (pu nil nil)
def Pj:=qe aRs
abbrev Du:=Pj.B
abbrev Dv:=Option Du
def TV (g:Dv):Ct:=(66,FC ajG (lf Pj) (λ_=>g))
def TW (jO:aaW):Pg Du:=opt (jO 0 4 1073741840 λx=>0) λd=>opt (jO 4 7 549755813888 d) λd=>opt (jO 7 10 9007199254740992 d) λd=>opt (jO 10 13 134217728 d) λd=>opt (jO 13 16 1073741824 d) λd=>opt (jO 16 22 2147483648 d) λd=>opt (jO 22 24 137438953472 d) λd=>ret d
def qL:Option Du:=(TW yY).val
theorem aCR:∀jO,D0 [aaX jO] 66 ajG (lf Pj) λb=>TW jO:=λ_ b=>by kernel_rfl
theorem ajH [ax]:SC (TV qL):=s0 (.c awd (.nil _)) (aCR yY)
def anm:=qa (pr (cu aQ atk) bF)
def TX:=qe aEn
abbrev ann:=TX.B
abbrev MN:=NI->Bool->Option ann
def X1 (g:MN):Ct:=(87,FC anm (lf TX) (λb=>g b.1 b.2))
def ns:=qs (st (pr (cu aQ (us 2 (cu US (cu EA (cu ai7 aKr))))) (pl (c cG aKW) cQ)))
def azc:=qs (st (pr (cu aQ (us 2 (cu US (cu EA (cu ai7 (c ai (us 1 aKx))))))) (pl (c cG aKW) cQ)))
abbrev Bm:=((Int×Bool)×Bool×NI×NI×Du)
def aeU {ρ:Type}(x:Bm)(K:AX->St->Option ρ):Option ρ:=(λd=>K (.ex 0) (azc.em ((d.1.1,d.1),d.2))) x
def Pk (aE:cg)(d:ns.B):PL ns Bm:=let y0:=ws d.1;let y1:=bk d.1 24;let y2:=decide (d.1<24);ae y2 (ae y1 (ae y1 (ae y1 (opt (aE (d.2.2.1 y0) (wI (0-d.2.2.2.2 y0)) (d.2.2.2.2 y0) d.2.1) λaj=>ae y1 (ae (true&&wd (0+y0*1+1) 24) (ret (wr (wI (d.1+1),aj.2,λj=>bif ww j y0 then aj.1 else d.2.2.1 j,d.2.2.2))) no) no) no) no) no) (ret (wn ((d.1,y2),d.2)))
def Pm:=bj (Pk aT) 2000
def X2 (TY:Dv)(eI:LT ns Bm)(x0:Nat->Int)(x1:Bool):Pg ann:=opt TY λd=>opt (eI (4,x1,x0,λx=>0,d)) λd=>ret (d.2.2.1,d.2.1)
def qh:=λx0 x1=>(X2 qL Pm x0 x1).val
abbrev MO:=Dv×cg×(LT ns Bm)
def X3 (p:MO):KK:=⟨[TV p.1,eA p.2.1],⟨[⟨3,(1::2::rg 7 20 []),[]⟩],[gv 3 1 ns aeU p.b],[0],[],(some ⟨0,(rg 0 4 (rg 5 22 [])),[]⟩)⟩,1,87⟩
theorem awy (p:MO):LI (X3 p) 3 ns aeU (Pk p.2.1):=λ_ d c K=>by kernel_rfl
theorem aGl (p:MO):D2 (X3 p) anm (lf TX) λb=>X2 p.1 p.b b.1 b.2:=λb=>by kernel_rfl
abbrev X4:MO:=(qL,aT,Pm)
theorem ano [ax]:SC (X1 qh):=sc (kS (k:=X3 X4) (.c ajH (.c eX (.nil _))) [3] [] ⟨kL (awy X4),trivial⟩ trivial (aGl X4))
def ar0:=qa (pr (cu aQ atk) bF)
def X5:=qe aEn
abbrev adj:=X5.B
abbrev fP:=NI->Bool->Option adj
def jP (g:fP):Ct:=(49,FC ar0 (lf X5) (λb=>g b.1 b.2))
def Q8 (bf:eJ)(Q9:arR)(bw:jo)(yG:Ja)(wZ:MN)(x0:Nat->Int)(x1:Bool):Pg adj:=opt (bf x0) λd=>opt (Q9 d.1 d.2.1 d.2.2.1 d.2.2.2) λd=>ae (!d) (opt (bf x0) λd=>opt (bw d.1 d.2.1 d.2.2.1 d.2.2.2 x1) λd=>opt (yG x0 d.1.1 d.1.2.1 d.1.2.2.1 d.1.2.2.2) λaj=>opt (wZ aj d.2) λd=>ret d) (opt (wZ x0 x1) λd=>ret d)
def cw:=λx0 x1=>(Q8 bp Ah dH oA qh x0 x1).val
theorem aIa:∀bf Q9 bw yG wZ,D0 [ke bf,arS Q9,ov bw,TS yG,X1 wZ] 49 ar0 (lf X5) λb=>Q8 bf Q9 bw yG wZ b.1 b.2:=λ_ _ _ _ _ b=>by kernel_rfl
theorem kP [ax]:SC (jP cw):=s0 (.c lK (.c aH2 (.c qg (.c ajF (.c ano (.nil _)))))) (aIa bp Ah dH oA qh)
def aeV:=qa (pr (cu aQ jb) bF)
def MP:=qe ry
abbrev Pn:=MP.B
abbrev wx:=Int->Bool->Option Pn
def GC (g:wx):Ct:=(159,FC aeV (lf MP) (λb=>g b.1 b.2))
def GD (aq:bW)(x0:Int)(x1:Bool):Pg Pn:=opt (aq x0 1073741824 1000000 x1) λd=>ret d
def mW:=λx0 x1=>(GD aP x0 x1).val
theorem azd:∀aq,D0 [dF aq] 159 aeV (lf MP) λb=>GD aq b.1 b.2:=λ_ b=>by kernel_rfl
theorem Pp [ax]:SC (GC mW):=s0 (.c dS (.nil _)) (azd aP)
def aGm:=qa (pr (cu aQ Hp) bF)
def anp:=qe ayb
abbrev at7:=anp.B
abbrev aGn:=Int->Int->Int->Bool->Option at7
def aGo (g:aGn):Ct:=(209,FC aGm (lf anp) (λb=>g b.1.1 b.1.2.1 b.1.b b.2))
def ahQ (FB:O6)(vU:BV)(jf:BW)(aB:bL)(eQ:K')(aD:cB)(im:RO)(bw:jo)(x0:Int)(x1:Int)(x2:Int)(x3:Bool):Pg at7:=opt (FB x0 x1 x2 x3) λd=>opt (vU d.1.1 d.1.2.1 d.1.2.2 d.2) λaj=>ae (aj.1==0) (opt jf λd=>ret ((1073741824,0,0,0),aj.2)) (opt (aB aj.1 536870912 30 aj.2) λaC=>opt (eQ aC.1 aC.2) λbC=>opt (aD bC.1 aj.1 30 bC.2) λcK=>opt (im aC.1 cK.2) λfE=>opt (aB d.1.1 cK.1 30 fE.2) λdC=>opt (aB d.1.2.1 cK.1 30 dC.2) λnX=>opt (aB d.1.2.2 cK.1 30 nX.2) λd=>opt (bw fE.1 dC.1 nX.1 d.1 d.2) λd=>ret d)
def X6:=λx0 x1 x2 x3=>(ahQ uy mi jV aX oV bl tw dH x0 x1 x2 x3).val
theorem aSP:∀FB vU jf aB eQ aD im bw,D0 [aho FB,RQ vU,Lc jf,fO aB,La eQ,gV aD,RP im,ov bw] 209 aGm (lf anp) λb=>ahQ FB vU jf aB eQ aD im bw b.1.1 b.1.2.1 b.1.b b.2:=λ_ _ _ _ _ _ _ _ b=>by kernel_rfl
theorem aSQ [ax]:SC (aGo X6):=s0 (.c atW (.c aaO (.c RT (.c gx (.c RN (.c iO (.c aaM (.c qg (.nil _))))))))) (aSP uy mi jV aX oV bl tw dH)
def anq:=qa (pr (cu aQ (c mc ab3)) bF)
def TZ:=qe (res (pr (aa agk) (pl nd nil)))
abbrev X7:=TZ.B
abbrev MQ:=NI->Int->Int->Int->Int->Int->Int->Int->Int->Bool->Option X7
def X8 (g:MQ):Ct:=(155,FC anq (lf TZ) (λb=>g b.1.1 b.1.2.1 b.1.b.1 b.1.b.2.1.1 b.1.b.2.1.2.1 b.1.b.2.1.b b.1.c.1 b.1.c.2.1 b.1.c.b b.2))
def MR (aO:fP)(oY:wx)(bG:mL)(jr:VB)(oN:JU)(ahR:aGn)(bf:eJ)(fN:rK)(x0:Nat->Int)(x1:Int)(x2:Int)(x3:Int)(x4:Int)(x5:Int)(x6:Int)(x7:Int)(x8:Int)(x9:Bool):Pg X7:=opt (aO x0 x9) λd=>opt (oY x2 d.2) λaj=>opt (bG d.1 10) λaC=>opt (jr aC.1 aC.2.1 aC.2.2 aj.1 aj.2) λbC=>opt (oN x3 x4 x5 bC.1.1 bC.1.2.1 bC.1.2.2 bC.2) λcK=>opt (bG d.1 13) λfE=>opt (jr fE.1 fE.2.1 fE.2.2 aj.1 cK.2) λdC=>opt (oN x6 x7 x8 dC.1.1 dC.1.2.1 dC.1.2.2 dC.2) λnX=>opt (ahR cK.1.1 cK.1.2.1 cK.1.2.2 nX.2) λtY=>opt (bf d.1) λd=>opt (fN d.1 d.2.1 d.2.2.1 d.2.2.2 tY.2) λd=>ret ((aj.1,cK.1.1,cK.1.2.1,cK.1.2.2,nX.1.1,nX.1.2.1,nX.1.2.2,tY.1.1,tY.1.2.1,tY.1.2.2.1,tY.1.2.2.2,d.1),d.2)
def w7:=λx0 x1 x2 x3 x4 x5 x6 x7 x8 x9=>(MR cw mW cM uZ p9 X6 bp kO x0 x1 x2 x3 x4 x5 x6 x7 x8 x9).val
theorem aGp:∀aO oY bG jr oN ahR bf fN,D0 [jP aO,GC oY,sG bG,VC jr,Xu oN,aGo ahR,ke bf,D3 fN] 155 anq (lf TZ) λb=>MR aO oY bG jr oN ahR bf fN b.1.1 b.1.2.1 b.1.b.1 b.1.b.2.1.1 b.1.b.2.1.2.1 b.1.b.2.1.b b.1.c.1 b.1.c.2.1 b.1.c.b b.2:=λ_ _ _ _ _ _ _ _ b=>by kernel_rfl
theorem anr [ax]:SC (X8 w7):=s0 (.c kP (.c Pp (.c vQ (.c ahm (.c ahk (.c aSQ (.c lK (.c GB (.nil _))))))))) (aGp cw mW cM uZ p9 X6 bp kO)
def ar1:=qa (pr (cu aQ (c mc ab3)) bF)
def X9:=qe aEn
abbrev adk:=X9.B
abbrev Q':=NI->Int->Int->Int->Int->Int->Int->Int->Int->Bool->Option adk
def adl (g:Q'):Ct:=(104,FC ar1 (lf X9) (λb=>g b.1.1 b.1.2.1 b.1.b.1 b.1.b.2.1.1 b.1.b.2.1.2.1 b.1.b.2.1.b b.1.c.1 b.1.c.2.1 b.1.c.b b.2))
def Ra (Bn:MQ)(aO:fP)(bf:eJ)(fq:zb)(bw:jo)(bG:mL)(js:Gy)(aB:bL)(ej:Cp)(jr:VB)(cZ:Ag)(x0:Nat->Int)(x1:Int)(x2:Int)(x3:Int)(x4:Int)(x5:Int)(x6:Int)(x7:Int)(x8:Int)(x9:Bool):Pg adk:=opt (Bn x0 x1 x2 x3 x4 x5 x6 x7 x8 x9) λd=>let n1:=d.1.2.2.2.2.2;let n2:=n1.2.2.2;opt (aO x0 d.2) λaj=>opt (bf aj.1) λaC=>opt (fq aC.1 aC.2.1 aC.2.2.1 aC.2.2.2 n1.2.2.1 n2.1 n2.2.1 n2.2.2.1 aj.2) λbC=>opt (bw bC.1.1 bC.1.2.1 bC.1.2.2.1 bC.1.2.2.2 bC.2) λcK=>opt (bG aj.1 4) λfE=>opt (js n2.2.2.2 d.1.2.2.2.2.1 n1.1 n1.2.1 cK.2) λdC=>opt (aB 10529810258 d.1.1 30 dC.2) λnX=>opt (ej 3 nX.2 (cr fE.1 [0,dC.1.1,fE.1]) (cr fE.2.1 [0,dC.1.2.1,fE.2.1]) (cr fE.2.2 [nX.1,dC.1.2.2,fE.2.2]) true) λtY=>opt (aB d.1.1 536870912 30 tY.2) λd=>opt (bG aj.1 7) λp7=>opt (ej 2 d.2 (cr fE.1 [tY.1.1,fE.1]) (cr fE.2.1 [tY.1.2.1,fE.2.1]) (cr fE.2.2 [tY.1.2.2,fE.2.2]) true) λmO=>opt (jr mO.1.1 mO.1.2.1 mO.1.2.2 d.1 mO.2) λd=>opt (ej 2 d.2 (cr p7.1 [d.1.1,p7.1]) (cr p7.2.1 [d.1.2.1,p7.2.1]) (cr p7.2.2 [d.1.2.2,p7.2.2]) true) λd=>opt (cZ aj.1 0 4 (cr cK.1.1 [cK.1.2.2.2,cK.1.2.2.1,cK.1.2.1,cK.1.1]) false) λxW=>opt (cZ xW 4 3 (cr tY.1.1 [tY.1.2.2,tY.1.2.1,tY.1.1]) false) λLg=>opt (cZ Lg 7 3 (cr d.1.1 [d.1.2.2,d.1.2.1,d.1.1]) false) λMS=>opt (aO MS d.2) λd=>ret d
def Aj:=λx0 x1 x2 x3 x4 x5 x6 x7 x8 x9=>(Ra w7 cw bp mm dH cM qd aX ml uZ fe x0 x1 x2 x3 x4 x5 x6 x7 x8 x9).val
theorem aIb:∀Bn aO bf fq bw bG js aB ej jr cZ,D0 [X8 Bn,jP aO,ke bf,FA fq,ov bw,sG bG,Mz js,fO aB,J0 ej,VC jr,DY cZ] 104 ar1 (lf X9) λb=>Ra Bn aO bf fq bw bG js aB ej jr cZ b.1.1 b.1.2.1 b.1.b.1 b.1.b.2.1.1 b.1.b.2.1.2.1 b.1.b.2.1.b b.1.c.1 b.1.c.2.1 b.1.c.b b.2:=λ_ _ _ _ _ _ _ _ _ _ _ b=>by kernel_rfl
theorem ar2 [ax]:SC (adl Aj):=s0 (.c anr (.c kP (.c lK (.c Ld (.c qg (.c vQ (.c VH (.c gx (.c Pd (.c ahm (.c Ik (.nil _)))))))))))) (aIb w7 cw bp mm dH cM qd aX ml uZ fe)
def aBf:=qa (pr (cu aQ Hp) bF)
def ahS:=qe ayb
abbrev ant:=ahS.B
abbrev anu:=Int->Int->Int->Bool->Option ant
def aBg (g:anu):Ct:=(160,FC aBf (lf ahS) (λb=>g b.1.1 b.1.2.1 b.1.b b.2))
def qi:=qs (st (pr (cu aQ (us 3 (cu aqQ (cu aac (c ai (cu alm (us 12 (cl ai aWl)))))))) (pl (c cG (cu alC (c zZ (cl zZ nil)))) cQ)))
def ar3:=qs (st (pr (cu aQ (us 3 (cu aqQ (cu aac (c ai (cu alm (us 12 (c ai (cl ab (us 26 nil)))))))))) (pl (c cG (cu alC (c zZ (cl zZ nil)))) cQ)))
abbrev D4:=ar3.B
def ar4 {ρ:Type}:=@ef D4 ((.ex 0)) ar3 ρ
def Rc (aD:cB)(d:qi.B):PL qi D4:=let n3:=d.1.1;let n2:=d.1.2;let n1:=d.2.2;let n5:=n1.2.1;let n4:=n1.2.2;let y0:=bk n2 3;let y1:=n2==2;let y2:=n2==1;let y3:=decide (n2<3);ae y3 (ae y0 (ae y1 (opt (aD n1.1.2.2 n3 30 d.2.1) λaj=>ae y0 (ae y1 (ret (wr ((n3,wI (n2+1)),aj.2,n1.1,n5,n4.1,aj.1))) (ae y2 (ret (wr ((n3,wI (n2+1)),aj.2,n1.1,n5,aj.1,n4.2))) (ret (wr ((n3,wI (n2+1)),aj.2,n1.1,aj.1,n4))))) no) (ae y2 (opt (aD n1.1.2.1 n3 30 d.2.1) λaj=>ae y0 (ae y1 (ret (wr ((n3,wI (n2+1)),aj.2,n1.1,n5,n4.1,aj.1))) (ae y2 (ret (wr ((n3,wI (n2+1)),aj.2,n1.1,n5,aj.1,n4.2))) (ret (wr ((n3,wI (n2+1)),aj.2,n1.1,aj.1,n4))))) no) (opt (aD n1.1.1 n3 30 d.2.1) λaj=>ae y0 (ae y1 (ret (wr ((n3,wI (n2+1)),aj.2,n1.1,n5,n4.1,aj.1))) (ae y2 (ret (wr ((n3,wI (n2+1)),aj.2,n1.1,n5,aj.1,n4.2))) (ret (wr ((n3,wI (n2+1)),aj.2,n1.1,aj.1,n4))))) no))) no) (ret (wn ((n3,n2,y3),d.2)))
def adm:=bj (Rc bl) 2000
def aa5 (FB:O6)(jf:BW)(vU:BV)(aY:dt)(bw:jo)(eI:LT qi D4)(x0:Int)(x1:Int)(x2:Int)(x3:Bool):Pg ant:=opt (FB x0 x1 x2 x3) λd=>ae (d.1.1==0&&(d.1.2.1==0&&(d.1.2.2==0&&true))) (opt jf λaj=>ret ((1073741824,0,0,0),d.2)) (opt (vU d.1.1 d.1.2.1 d.1.2.2 d.2) λaj=>opt (eI ((aj.1,0),aj.2,d.1,0,0,0)) λd=>opt (aY 1073741824 d.2.2.2.2.2 d.2.1) λaC=>ae (decide (aC.1<=16)) (ret ((0,1073741824,0,0),aC.2)) (opt (bw aC.1 (wI (0-d.2.2.2.2.1)) d.2.2.2.1 0 aC.2) λd=>ret d))
def RY:=λx0 x1 x2 x3=>(aa5 uy jV mi bu dH adm x0 x1 x2 x3).val
abbrev aa6:=O6×BW×BV×cB×dt×jo×(LT qi D4)
def anv (p:aa6):KK:=⟨[aho p.1,Lc p.2.1,RQ p.b.1,gV p.b.2.1,iP p.c.1,ov p.c.2.1],⟨[⟨7,(1::2::3::rg 8 12 (rg 21 27 [])),[]⟩],[gv 7 1 qi ar4 p.c.b],[],[],(some ⟨0,(rg 0 4 (rg 5 43 [])),[]⟩)⟩,1,160⟩
theorem aGq (p:aa6):LI (anv p) 7 qi ar4 (Rc p.b.2.1):=λ_ d c K=>by kernel_rfl
theorem aPq (p:aa6):D2 (anv p) aBf (lf ahS) λb=>aa5 p.1 p.2.1 p.b.1 p.c.1 p.c.2.1 p.c.b b.1.1 b.1.2.1 b.1.b b.2:=λb=>by kernel_rfl
abbrev anw:aa6:=(uy,jV,mi,bl,bu,dH,adm)
theorem aPr [ax]:SC (aBg RY):=sc (kS (k:=anv anw) (.c atW (.c RT (.c aaO (.c iO (.c jN (.c qg (.nil _))))))) [7] [] ⟨kL (aGq anw),trivial⟩ trivial (aPq anw))
def aeW:=qa (pr (cu aQ (c Ca (c (aa aEe) atk))) bF)
def MT:=qe aRE
abbrev aeX:=MT.B
abbrev GF:=NI->NI->NI->NI->Bool->Option aeX
def Pq (g:GF):Ct:=(163,FC aeW (lf MT) (λb=>g b.1.1.1 b.1.1.2 b.1.2.1 b.1.b b.2))
def lg:=qs (st (pr (cu aQ (us 4 (cu G6 (cu aTv (cu ai7 (cu Oc (cu aqS (c ai (us 13 (c ai (us 16 (cl ai (us 105 nil))))))))))))) (pl (c cG (c jE (c nh (c oI ab4)))) cQ)))
def X':=qs (st (pr (cu aQ (us 4 (cu G6 (cu aTv (cu ai7 (cu Oc (cu aqS (c ai (us 13 (c ai (us 16 aWL))))))))))) (pl (c cG (c jE (c nh (c oI ab4)))) cQ)))
abbrev w8:=X'.B
def Ya {ρ:Type}:=@ef w8 ((.ex 2)) X' ρ
def J9 (aw:bQ)(d:lg.B):PL lg w8:=let y0:=bk d.1.1 24;let y1:=bk d.1.2.2 24;let y2:=decide (d.1.2.2<24);let y3:=ws d.1.1*24+ws d.1.2.2;ae y2 (ae y0 (ae y1 (opt (aw (d.2.2.2.1 y3) d.2.1) λaj=>ae y0 (ae y1 (ae (true&&wd (0+y3*1+1) 576) (ret (wr ((d.1.1,d.1.2.1,wI (d.1.2.2+1)),aj.2,d.2.2.1,λj=>bif ww j y3 then aj.1 else d.2.2.2.1 j,d.2.2.2.2))) no) no) no) no) no) (ret (wn ((d.1.1,d.1.2.1,d.1.2.2,y2),d.2)))
def J':=bj (J9 aM) 2000
def lk:=qs (st (pr (cu aQ (us 7 (cu G6 (cu aAg (us 2 (cu aae (cu Oc (c ai (cu aqS (us 48 aWv)))))))))) (pl (c cG (c jE (c age (c Ho ab4)))) cQ)))
def Yb:=qs (st (pr (cu aQ (us 7 (cu G6 (cu aAg (us 2 (cu aae (cu Oc (c ai (cu aqS (us 48 aWK)))))))))) (pl (c cG (c jE (c age (c Ho ab4)))) cQ)))
abbrev w9:=Yb.B
def Yc {ρ:Type}:=@ef w9 ((.ex 6)) Yb ρ
def Ka (aB:bL)(d:lk.B):PL lk w9:=let n2:=d.1.2;let n1:=d.2.2.2;let y0:=ws n2;let y1:=bk n2 48;let y2:=decide (n2<48);ae y2 (ae (bk d.1.1 24) (ae y1 (ae y1 (opt (aB (n1.2.1 (ws d.1.1*48+y0)) (n1.1 y0) 30 d.2.1) λaj=>ae y1 (ae (true&&wd (0+y0*1+1) 48) (ret (wr ((d.1.1,wI (n2+1)),aj.2,d.2.2.1,n1.1,n1.2.1,n1.2.2.1,λj=>bif ww j y0 then aj.1 else n1.2.2.2 j))) no) no) no) no) no) (ret (wn ((d.1.1,n2,y2),d.2)))
def Kb:=bj (Ka aX) 2000
def ln:=qs (st (pr (cu aQ (us 7 (cu G6 (cu aAg (us 2 (cu aae (cu Oc (c ai (cu aqS (us 1 (c ai (c ai (c ai (us 76 (c ai (c ai (us 18 (cl ai (us 30 nil))))))))))))))))))) (pl (c cG (c jE (c age (c Ho ab4)))) cQ)))
def Yd:=qs (st (pr (cu aQ (us 7 (cu G6 (cu aAg (us 2 (cu aae (cu Oc (c ai (cu aqS (us 1 (c ai (c ai (c ai (us 76 (c ai (c ai (us 18 aWM))))))))))))))))) (pl (c cG (c jE (c age (c Ho ab4)))) cQ)))
abbrev xc:=Yd.B
def Ye {ρ:Type}:=@ef xc ((.ex 10)) Yd ρ
def Kc (aB:bL)(aY:dt)(d:ln.B):PL ln xc:=let n3:=d.2.2.2;let n1:=d.1.2.2;let n2:=n1.2.2.2;let y0:=bk n1.1 24;let y1:=ws n2.2;let y2:=bk n2.2 48;let y3:=ws n1.1*48+y1;let y4:=decide (n2.2<48);ae y4 (ae y0 (ae y2 (ae (bk d.1.1 24) (ae y2 (opt (aB n1.2.1 (n3.2.1 (ws d.1.1*48+y1)) 30 d.2.1) λaj=>opt (aY (n3.2.1 y3) aj.1 aj.2) λaC=>ae y0 (ae y2 (ae (true&&wd (0+y3*1+1) 1152) (ret (wr ((d.1.1,d.1.2.1,n1.1,n1.2.1,n1.2.2.1,n2.1,wI (n2.2+1)),aC.2,d.2.2.1,n3.1,λj=>bif ww j y3 then aC.1 else n3.2.1 j,n3.2.2))) no) no) no) no) no) no) no) (ret (wn ((d.1.1,d.1.2.1,n1.1,n1.2.1,n1.2.2.1,n2.1,n2.2,y4),d.2)))
def Kd:=bj (Kc aX bu) 2000
def lp:=qs (st (pr (cu aQ (us 4 (cu G6 (cu aTv (cu ai7 (cu Oc (cu aqS (us 14 (cl ai (us 122 nil)))))))))) (pl (c cG (c jE (c nh (c oI ab4)))) cQ)))
def Yf:=qs (st (pr (cu aQ (us 4 (cu G6 (cu aTv (cu ai7 (cu Oc (cu aqS (us 14 (c ai (cl ab (us 121 nil))))))))))) (pl (c cG (c jE (c nh (c oI ab4)))) cQ)))
abbrev xd:=Yf.B
def Yg {ρ:Type}:=@ef xd ((.ex 0)) Yf ρ
def Ke (aE:cg)(rn:LT lg w8)(d:lp.B):PL lp xd:=let y0:=ws d.1;let y1:=bk d.1 24;let y2:=wI (24+d.1);let y3:=ws y2;let y4:=decide (d.1<24);ae y4 (ae y1 (ae y1 (opt (aE (d.2.2.2.2.1 y0) 0 72057594037927936 d.2.1) λaj=>ae (bk d.1 48) (ae (true&&wd (0+y0*1+1) 48) (ae (bk y2 48) (ae (true&&wd (0+y3*1+1) 48) (opt (rn ((d.1,d.1,0),aj.2,d.2.2.1,d.2.2.2.1,d.2.2.2.2.1,d.2.2.2.2.2.1,λj=>bif ww j y3 then aj.1 else bif ww j y0 then d.2.2.1.2 y0 else d.2.2.2.2.2.2 j)) λd=>ret (wr (wI (d.1.2.1+1),d.2))) no) no) no) no) no) no) (ret (wn ((d.1,y4),d.2)))
def Kf:=bj (Ke aT J') 2000
def lq:=qs (st (pr (cu aQ (us 7 (cu G6 (cu aAg (us 2 (cu aae (cu Oc (c ai (cu aqS (us 1 (c ai (us 78 (c ai (cl ai aWn)))))))))))))) (pl (c cG (c jE (c age (c Ho ab4)))) cQ)))
def Yh:=qs (st (pr (cu aQ (us 7 (cu G6 (cu aAg (us 2 (cu aae (cu Oc (c ai (cu aqS (us 1 (c ai (us 78 (c ai (c ai (cl ab (us 48 nil)))))))))))))))) (pl (c cG (c jE (c age (c Ho ab4)))) cQ)))
abbrev xf:=Yh.B
def Yi {ρ:Type}:=@ef xf ((.ex 8)) Yh ρ
def Kg (bg:ei)(aD:cB)(at8:XG)(l_5:LT ln xc)(d:lq.B):PL lq xf:=let n2:=d.2.2.2.2;let n1:=d.1.2.2;let y0:=decide (n1.2<n1.1);ae y0 (ae (bk n1.2 24) (opt (bg 30 48 48 d.2.1 (λj=>n2.1 (0+ws n1.2*48+j)) n2.2.2 false false) λaj=>opt (aD aj.1 d.1.2.1 30 aj.2) λaC=>opt (at8 n2.2.1.1 n2.2.1.2 n1.2 d.1.1 aC.1) λbC=>opt (l_5 ((d.1.1,d.1.2.1,n1.2,aC.1,n1.1,n1.2,0),aC.2,d.2.2.1,d.2.2.2.1,n2.1,bC,n2.2.2)) λd=>ret (wr ((d.1.1,d.1.2.1,d.1.2.2.2.2.1,wI (d.1.2.2.2.2.2.1+1)),d.2))) no) (ret (wn ((d.1.1,d.1.2.1,n1.1,n1.2,y0),d.2)))
def Kh:=bj (Kg bx bl Fv Kd) 2000
def lr:=qs (st (pr (cu aQ (us 7 (cu G6 (cu aAg (us 2 (cu aae (cu Oc (cl ai (us 132 nil))))))))) (pl (c cG (c jE (c age (c Ho (cl jE nil))))) cQ)))
def at9:=qs (st (pr (cu aQ (us 7 (cu G6 (cu aAg (us 2 (cu aae (cu Oc (c ai (us 45 (c ai (cl ab (us 85 nil)))))))))))) (pl (c cG (c jE (c age (c Ho (cl jE nil))))) cQ)))
abbrev xg:=((Int×Bool)×Bool×(NI×NI)×NI×NI×NI×NI)
def Yj {ρ:Type}(x:xg)(K:AX->St->Option ρ):Option ρ:=(λd=>K (.ex 4) (at9.em ((d.1.1,d.1),d.2))) x
def Ki (aE:cg)(bg:ei)(l_3:LT lk w9)(l_4:LT lq xf)(d:lr.B):PL lr xg:=let y0:=decide (d.1>=0);ae y0 (opt (l_3 ((d.1,0),d.2.1,d.2.2.1,d.2.2.2.1,d.2.2.2.2.1,d.2.2.2.2.2,λx=>0)) λd=>let n1:=d.2.2.2.2;let y0:=ws d.1.1;let y1:=bk d.1.1 24;ae y1 (opt (bg 30 48 48 d.2.1 (λj=>n1.1 (0+y0*48+j)) n1.2.2 false false) λaj=>opt (aE aj.1 1 72057594037927936 aj.2) λaC=>ae y1 (ae (true&&wd (276+y0*1+1) 300) (opt (l_4 ((d.1.1,aC.1,d.1.1,0),aC.2,d.2.2.1,d.2.2.2.1,n1.1,(n1.2.1.1,λj=>bif ww j y0 then aC.1 else n1.2.1.2 j),n1.2.2)) λd=>ret (wr (wI (d.1.1-1),d.2.1,d.2.2.1,d.2.2.2.1,d.2.2.2.2.1,d.2.2.2.2.2.1))) no) no) no) (ret (wn ((d.1,y0),d.2)))
def Kj:=bj (Ki aT bx Kb Kh) 2000
def Pr (oZ:wo)(aze:Pe)(eI:LT lp xd)(HB:LT lr xg)(x0:Nat->Int)(x1:Nat->Int)(x2:Nat->Int)(x3:Nat->Int)(x4:Bool):Pg aeX:=opt (oZ x0 x1 x4) λd=>opt (eI (0,d.2,d.1,x2,x3,(λx=>0,λx=>0),λx=>0)) λd=>opt (aze d.2.2.1.1 d.2.2.1.2 d.2.1 d.2.2.2.1) λaj=>opt (HB (23,aj.1,d.2.2.2.2.2.1,d.2.2.2.2.2.2,aj.2,λx=>0,λx=>0)) λd=>ret (d.2.2.2.2.2,d.2.1)
def rL:=λx0 x1 x2 x3 x4=>(Pr jI Bl Kf Kj x0 x1 x2 x3 x4).val
abbrev mX:=wo×cg×bQ×Pe×bL×ei×cB×XG×dt×(LT lg w8)×(LT lk w9)×(LT ln xc)×(LT lp xd)×(LT lq xf)×(LT lr xg)
def o6 (p:mX):KK:=⟨[Gv p.1,eA p.2.1,dG p.b.1,aeT p.b.2.1,fO p.c.1,nY p.c.2.1,gV p.c.b.1,at2 p.c.b.2.1,iP p.d.1],⟨[⟨4,(rg 1 4 (rg 10 14 (rg 25 122 []))),[]⟩,⟨8,(rg 1 4 (rg 11 13 (rg 25 16 (rg 42 105 [])))),[]⟩,⟨16,(rg 1 7 (10::11::rg 15 132 [])),[]⟩,⟨20,(rg 1 7 (10::11::rg 16 48 (rg 65 82 []))),[]⟩,⟨27,(rg 1 7 (10::11::16::rg 18 78 (rg 98 49 []))),[]⟩,⟨32,(rg 1 7 (10::11::16::rg 20 76 (rg 98 18 (rg 117 30 [])))),[]⟩],[gv 8 1 lg Ya p.d.2.1,gv 20 1 lk Yc p.d.b.1,gv 32 1 ln Ye p.d.b.2.1,gv 4 1 lp Yg p.d.c.1,gv 27 1 lq Yi p.d.c.2.1,gv 16 1 lr Yj p.d.c.b],[],[],(some ⟨0,(rg 0 8 (rg 9 138 [])),[]⟩)⟩,1,163⟩
theorem ap5 (p:mX):LI (o6 p) 8 lg Ya (J9 p.b.1):=λ_ d c K=>by kernel_rfl
theorem ap6 (p:mX):LI (o6 p) 20 lk Yc (Ka p.c.1):=λ_ d c K=>by kernel_rfl
theorem ap7 (p:mX):LI (o6 p) 32 ln Ye (Kc p.c.1 p.d.1):=λ_ d c K=>by kernel_rfl
theorem ap8 (p:mX):LI (o6 p) 4 lp Yg (Ke p.2.1 p.d.2.1):=λ_ d c K=>by kernel_rfl
theorem ap9 (p:mX):LI (o6 p) 27 lq Yi (Kg p.c.2.1 p.c.b.1 p.c.b.2.1 p.d.b.2.1):=λ_ d c K=>by kernel_rfl
theorem aqa (p:mX):LI (o6 p) 16 lr Yj (Ki p.2.1 p.c.2.1 p.d.b.1 p.d.c.2.1):=λ_ d c K=>by kernel_rfl
theorem azf (p:mX):D2 (o6 p) aeW (lf MT) λb=>Pr p.1 p.b.2.1 p.d.c.1 p.d.c.b b.1.1.1 b.1.1.2 b.1.2.1 b.1.b b.2:=λb=>by kernel_rfl
abbrev o7:mX:=(jI,aT,aM,Bl,aX,bx,bl,Fv,bu,J',Kb,Kd,Kf,Kh,Kj)
theorem aeY [ax]:SC (Pq rL):=sc (kS (k:=o6 o7) (.c O9 (.c eX (.c dN (.c ay8 (.c gx (.c pU (.c iO (.c aGc (.c jN (.nil _)))))))))) [4,8,16,20,27,32] [] ⟨kL (ap8 o7),⟨kL (ap5 o7),⟨kL (aqa o7),⟨kL (ap6 o7),⟨kL (ap9 o7),⟨kL (ap7 o7),trivial⟩⟩⟩⟩⟩⟩ trivial (azf o7))
def aBh:=qa (pl jb nil)
def ahT:=qe Fa
abbrev aBi:=ahT.B
abbrev anx:=Int->Option aBi
def aBj (g:anx):Ct:=(214,FC aBh (lf ahT) (λb=>g b))
def aa7 (x0:Int):Pg aBi:=ae (decide (x0>=0)) (ret (decide (x0<24))) (ret false)
def FD:=λx0=>(aa7 x0).val
theorem aPs:D0 [] 214 aBh (lf ahT) λb=>aa7 b:=λb=>by kernel_rfl
theorem aPt [ax]:SC (aBj FD):=s0 (.nil _) aPs
def aa8:=qa (pr (cu aQ jb) bF)
def Kk:=qe ry
abbrev aa9:=Kk.B
abbrev MU:=Int->Bool->Option aa9
def aba (g:MU):Ct:=(215,FC aa8 (lf Kk) (λb=>g b.1 b.2))
def MV (aE:cg)(x0:Int)(x1:Bool):Pg aa9:=opt (aE x0 1 72057594037927936 x1) λd=>ret d
def ze:=λx0 x1=>(MV aT x0 x1).val
theorem awz:∀aE,D0 [eA aE] 215 aa8 (lf Kk) λb=>MV aE b.1 b.2:=λ_ b=>by kernel_rfl
theorem awA [ax]:SC (aba ze):=s0 (.c eX (.nil _)) (awz aT)
def anz:=qa (dp (cu aQ (c Ca aRc)) λa=>(c xV (cl (cl (gs a.b.1 oT) nil) nil)))
def T0:=qe aXK
abbrev Yk:=T0.B
abbrev qj:=NI->NI->Int->Nat->Bool->NI->Bool->Option Yk
def Bo (g:qj):Ct:=(161,vN 3 [.i .i64] (FC anz (lf T0) (λb=>g b.1.1.1 b.1.1.2 b.1.2.1 b.1.b.1 b.2.1 b.b b.1.b.2)))
def nu:=qs (st (dp (cu aQ (us 1 (c ai (us 2 (cu aad (us 2 (cu aI6 (cu aI8 (cu aqT (us 4 (c H6 (c ai aKs)))))))))))) λa=>(pl (c cG (c (so (cl (gs a.2.1.1 oT) nil)) aX5)) cQ)))
def azg:=qs (st (pr (cu aQ (us 1 (c ai (us 2 (cu aad (us 2 (cu aI6 (cu aI8 (cu aqT (us 4 (c H6 (c ai aKA)))))))))))) (pl (c cG (c JE aX5)) cQ)))
abbrev Bp:=((Int×(Nat×Bool)×Int×Int×Bool)×Bool×NI×(NI×NI)×(NI×NI)×I9×NI)
def aeZ {ρ:Type}(x:Bp)(K:AX->St->Option ρ):Option ρ:=(λd=>K (.ex 0) (azg.em (d.1,d.2.1,(d.1.2.1.1,d.b.1),d.b.2))) x
def Ps (aPu:anx)(awB:MU)(d:nu.B):PL nu Bp:=let n3:=d.2.2;let n2:=d.1.2.2;let n1:=(d.1.1,d.1.2.1,n2.1,wI (n2.2+1));let y0:=wI (d.1.1+n2.2);let y1:=ws y0;let y2:=bk y0 24;let y3:=decide (n2.2<n2.1);let y4:=y1*24+y1;ae y3 (ae (bk n2.2 d.1.2.1.1) (opt (aPu y0) λaj=>ae aj (opt (awB (n3.1 (ws n2.2)) d.2.1) λaC=>ae y2 (ae y2 (ae (true&&wd (0+y4*1+1) 576) (ae y2 (ae (true&&wd (0+y1*1+1) 24) (ret (wr (n1,aC.2,n3.1,n3.2.1,n3.2.2.1,λj=>bif ww j y4 then 0 else n3.2.2.2.1 j,λj=>bif ww j y1 then aC.1 else n3.2.2.2.2 j))) no) no) no) no) no) (ret (wr (n1,d.2)))) no) (ret (wn ((d.1.1,d.1.2.1,n2.1,n2.2,y3),d.2)))
def Pu:=bj (Ps FD ze) 2000
def Yl (T1:Dt)(wy:GF)(eI:LT nu Bp)(x0:Nat->Int)(x1:Nat->Int)(x2:Int)(x3:Nat)(x4:Bool)(x5:Nat->Int)(w0:Bool):Pg Yk:=opt T1 λd=>ae (ww x3 x3) (opt (eI ((x2,(x3,w0),wl x3,0),x4,x5,(x0,x1),(λx=>0,λx=>0),d,λx=>0)) λd=>opt (wy d.2.2.2.1.1 d.2.2.2.1.2 d.2.2.2.2.2.1 d.2.2.2.2.2.2 d.2.1) λd=>ret d) no
def dU:=λx0 x1 x2 x3 x4 x5 w0=>(Yl uB rL Pu x0 x1 x2 x3 x4 x5 w0).val
abbrev MW:=Dt×anx×MU×GF×(LT nu Bp)
def Ym (p:MW):KK:=⟨[TL p.1,aBj p.2.1,aba p.b.1,Pq p.b.2.1],⟨[⟨4,(1::3::4::6::7::rg 11 4 (rg 18 24 [])),[]⟩],[gv 4 2 nu aeZ p.c],[0],[],(some ⟨0,(rg 0 8 (rg 9 33 [])),[]⟩)⟩,2,161⟩
theorem awC (p:MW):LI (Ym p) 4 nu aeZ (Ps p.2.1 p.b.1):=λ_ d c K=>by kernel_rfl
theorem aGr (p:MW):D2 (Ym p) anz (lf T0) λb=>Yl p.1 p.b.2.1 p.c b.1.1.1 b.1.1.2 b.1.2.1 b.1.b.1 b.2.1 b.b b.1.b.2:=λb=>by kernel_rfl
abbrev Yn:MW:=(uB,FD,ze,rL,Pu)
theorem FE [ax]:SC (Bo dU):=sc (Sound.nil 3 [.i .i64]<|kS (k:=Ym Yn) (.c ajC (.c aPt (.c awA (.c aeY (.nil _))))) [4] [] ⟨kL (awC Yn),trivial⟩ trivial (aGr Yn))
def awD:=qa (pr (cu aQ agj) bF)
def adn:=qe aEn
abbrev awE:=adn.B
abbrev awF:=NI->Int->Bool->Option awE
def awG (g:awF):Ct:=(165,FC awD (lf adn) (λb=>g b.1.1 b.1.2 b.2))
def qM:=qs (st (pr (cu aQ (us 3 (cu US (us 1 (cu EA (c ai (us 4 (cl ai (us 14 nil))))))))) (pl (c cG OC) cQ)))
def anA:=qs (st (pr (cu aQ (us 3 (cu US (us 1 (cu EA (c ai (us 4 (c ai (cl ab (us 13 nil)))))))))) (pl (c cG OC) cQ)))
abbrev FF:=anA.B
def anB {ρ:Type}:=@ef FF ((.ex 0)) anA ρ
def Yo (aB:bL)(aE:cg)(d:qM.B):PL qM FF:=let y0:=ws d.1.2;let y1:=bk d.1.2 24;let y2:=decide (d.1.2<24);ae y2 (ae y1 (opt (aB (d.2.2.1 y0) d.1.1 30 d.2.1) λaj=>opt (aE aj.1 0 72057594037927936 aj.2) λaC=>ae y1 (ae (true&&wd (0+y0*1+1) 24) (ret (wr ((d.1.1,wI (d.1.2+1)),aC.2,λj=>bif ww j y0 then aC.1 else d.2.2.1 j,d.2.2.2))) no) no) no) (ret (wn ((d.1.1,d.1.2,y2),d.2)))
def Yp:=bj (Yo aX aT) 2000
def ahU (oY:wx)(eI:LT qM FF)(x0:Nat->Int)(x1:Int)(x2:Bool):Pg awE:=opt (oY x1 x2) λd=>opt (eI ((d.1,0),d.2,x0,λx=>0)) λd=>ret (d.2.2.1,d.2.1)
def MX:=λx0 x1 x2=>(ahU mW Yp x0 x1 x2).val
abbrev VQ:=wx×bL×cg×(LT qM FF)
def ahV (p:VQ):KK:=⟨[GC p.1,fO p.2.1,eA p.b.1],⟨[⟨3,(1::2::3::5::rg 8 4 (rg 13 14 [])),[]⟩],[gv 3 1 qM anB p.b.2],[],[],(some ⟨0,(rg 0 6 (rg 7 20 [])),[]⟩)⟩,1,165⟩
theorem aCS (p:VQ):LI (ahV p) 3 qM anB (Yo p.2.1 p.b.1):=λ_ d c K=>by kernel_rfl
theorem aLX (p:VQ):D2 (ahV p) awD (lf adn) λb=>ahU p.1 p.b.2 b.1.1 b.1.2 b.2:=λb=>by kernel_rfl
abbrev ahW:VQ:=(mW,aX,aT,Yp)
theorem aLY [ax]:SC (awG MX):=sc (kS (k:=ahV ahW) (.c Pp (.c gx (.c eX (.nil _)))) [3] [] ⟨kL (aCS ahW),trivial⟩ trivial (aLX ahW))
def ajI:=qa (pr (cu aQ (c Ca agj)) bF)
def Pv:=qe (res (pu (app 1 373) (pr nd (cl aXQ nil))))
abbrev T2:=Pv.B
abbrev Jb:=NI->NI->NI->Int->Bool->Option T2
def T3 (g:Jb):Ct:=(273,FC ajI (lf Pv) (λb=>g b.1.1.1 b.1.1.2 b.1.2.1 b.1.b b.2))
def mn:=qs (st (pr (cu aQ (us 2 (c ai (us 2 (cu US (us 2 (cu aI9 (us 9 (cl ai (us 98 nil)))))))))) (pl (c cG (c oI (cl Td nil))) cQ)))
def abb:=qs (st (pr (cu aQ (us 2 (c ai (us 2 (cu US (us 2 (cu aI9 (us 9 (c ai (cl ab (us 97 nil))))))))))) (pl (c cG (c oI (cl Td nil))) cQ)))
abbrev zf:=abb.B
def abc {ρ:Type}:=@ef zf ((.ex 0)) abb ρ
def MY (aw:bQ)(d:mn.B):PL mn zf:=let y0:=ws d.1.2;let y1:=bk d.1.2 24;let y2:=decide (d.1.2<24);ae y2 (ae y1 (opt (aw (d.2.2.1 y0) d.2.1) λaj=>ae y1 (ae (true&&wd (0+y0*1+1) 24) (ret (wr ((d.1.1,wI (d.1.2+1)),aj.2,λj=>bif ww j y0 then aj.1 else d.2.2.1 j,d.2.2.2))) no) no) no) (ret (wn ((d.1.1,d.1.2,y2),d.2)))
def EH:=bj (MY aM) 2000
def mo:=qs (st (dp (cu aQ (us 5 (cu US (us 2 (cu aI9 (us 1 (c ai (c aXu (us 24 (c ai (us 3 (c ai aWw)))))))))))) λa=>(pl (c cG (c oI (c Td (cl (so (cl (gs a.2.1 oT) nil)) nil)))) cQ)))
def awH:=qs (st (pr (cu aQ (us 5 (cu US (us 2 (cu aI9 (us 1 (c ai (c aXu (us 24 (c ai (us 3 (c ai (c ai (cl ab (us 74 nil))))))))))))))) (pl (c cG (c oI (c Td alx))) cQ)))
abbrev zh:=((Int×Nat×Int×Int×Int×Bool)×Bool×NI×(NI×NI×NI×NI×NI)×NI)
def abd {ρ:Type}(x:zh)(K:AX->St->Option ρ):Option ρ:=(λd=>K (.ex 4) (awH.em (d.1,d.2.1,d.b.1,d.b.2.1,d.1.2.1,d.c))) x
def MZ (anf:XF)(d:mo.B):PL mo zh:=let n2:=d.2.2.2;let n1:=d.1.2.2;let y0:=d.1.2.1+1;let y1:=decide (n1.2.2<n1.2.1);ae y1 (opt (anf n2.1.1 n2.1.2.1 n1.2.2 d.1.1) λaj=>ae (wd (y0*8) 140737488355328) (ret (wr ((d.1.1,y0,n1.1,n1.2.1,wI (n1.2.2+1)),d.2.1,d.2.2.1,n2.1,λj=>bif ww j d.1.2.1 then aj else n2.2 j))) no) (ret (wn ((d.1.1,d.1.2.1,n1.1,n1.2.1,n1.2.2,y1),d.2)))
def EI:=bj (MZ Il) 2000
def kg:=qs (st (pr (cu aQ (us 5 (cu US (us 2 (cu aI9 (us 27 aWx)))))) (pl (c cG (c oI (cl Td nil))) cQ)))
def abe:=qs (st (pr (cu aQ (us 5 (cu US (us 2 (cu aI9 (us 27 (c ai (cl ab (us 79 nil))))))))) (pl (c cG (c oI (cl Td nil))) cQ)))
abbrev ug:=abe.B
def abf {ρ:Type}:=@ef ug ((.ex 2)) abe ρ
def EJ (bg:ei)(aB:bL)(cv:eH)(HB:LT mo zh)(d:kg.B):PL kg ug:=let y0:=decide (d.1<24);ae y0 (ae true (opt (HB ((d.1,0,d.1,wI (d.1+1),0),d.2.1,d.2.2.1,d.2.2.2,λx=>0)) λd=>let n2:=d.2.2;let n1:=n2.2.1.2;let n3:=n1.2.2;let y0:=ws d.1.1;let y1:=bk d.1.1 24;let y2:=y0*1;let y3:=wI (d.1.1+1);let y4:=ws y3;let y5:=wd (0+y2+1) 24;let y6:=ww y0 y0;ae (K0 y3 24) (ae (ww y4 y4) (ae (ww d.1.2.1 d.1.2.1) (opt (bg 30 y4 d.1.2.1 d.2.1 n2.1 n2.2.2 false true) λaj=>let uP:=bif y6 then aj.1 else n1.2.1 y0;ae y1 (ae (y5&&wd (300+y2+1) 373) (ae y1 (ae y5 (ae y1 (ae y5 (opt (aB (n1.1 y0) uP 30 aj.2) λaC=>ae y1 (ae (y5&&wd (324+y2+1) 373) (ae (bk d.1.1 25) (ae y1 (ae y5 (ae y1 (ae y5 (opt (aB uP (bif y6 then aC.1 else n3.1 y0) 30 aC.2) λbC=>opt (cv 2 bC.2 (cr (n3.2 y0) [bC.1,n3.2 y0]) true) λcK=>ae (bk y3 25) (ae (true&&wd (348+y4*1+1) 373) (ret (wr (wI (d.1.2.2.1+1),cK.2,n2.1,n2.2.1.1,n1.1,λj=>bif ww j y0 then aj.1 else n1.2.1 j,λj=>bif ww j y0 then aC.1 else n3.1 j,λj=>bif ww j y4 then cK.1 else n3.2 j))) no) no) no) no) no) no) no) no) no) no) no) no) no) no) no) no) no) no) no) (ret (wn ((d.1,y0),d.2)))
def M0:=bj (EJ bx aX cC EI) 2000
def Jc (oZ:wo)(aE:cg)(eI:LT mn zf)(rn:LT kg ug)(x0:Nat->Int)(x1:Nat->Int)(x2:Nat->Int)(x3:Int)(x4:Bool):Pg T2:=opt (oZ x0 x1 x4) λd=>opt (eI ((x3,0),d.2,x2,d.1.1,d.1.2,λx=>0,λx=>0,λx=>0)) λd=>let n1:=d.2.2.2;opt (aE d.1.1 1 72057594037927936 d.2.1) λaj=>opt (rn (0,aj.2,d.2.2.1,n1.1,n1.2.1,n1.2.2.1,n1.2.2.2.1,λj=>bif ww j 0 then aj.1 else n1.2.2.2.2 j)) λd=>ret (d.2.1,d.2.2.2)
def uC:=λx0 x1 x2 x3 x4=>(Jc jI aT EH M0 x0 x1 x2 x3 x4).val
abbrev yH:=wo×bQ×cg×XF×ei×bL×eH×(LT mn zf)×(LT mo zh)×(LT kg ug)
def Dw (p:yH):KK:=⟨[Gv p.1,dG p.2.1,eA p.b.1,awh p.b.2.1,nY p.c.1,fO p.c.2.1,pT p.c.b.1],⟨[⟨3,(1::2::4::5::7::8::rg 10 9 (rg 20 98 [])),[]⟩,⟨9,(rg 1 5 (7::8::rg 10 27 (rg 38 80 []))),[]⟩,⟨13,(rg 1 5 (7::8::10::rg 13 24 (38::39::40::rg 43 75 []))),[(12,[.i .i64])]⟩],[gv 3 1 mn abc p.c.b.2.1,gv 13 1 mo abd p.d.1,gv 9 1 kg abf p.d.2],[],[],(some ⟨0,(rg 0 8 (rg 9 109 [])),[]⟩)⟩,1,273⟩
theorem aua (p:yH):LI (Dw p) 3 mn abc (MY p.2.1):=λ_ d c K=>by kernel_rfl
theorem aub (p:yH):LI (Dw p) 13 mo abd (MZ p.b.2.1):=λ_ d c K=>by kernel_rfl
theorem auc (p:yH):LI (Dw p) 9 kg abf (EJ p.c.1 p.c.2.1 p.c.b.1 p.d.1):=λ_ d c K=>by kernel_rfl
theorem aCT (p:yH):D2 (Dw p) ajI (lf Pv) λb=>Jc p.1 p.b.1 p.c.b.2.1 p.d.2 b.1.1.1 b.1.1.2 b.1.2.1 b.1.b b.2:=λb=>by kernel_rfl
abbrev Dx:yH:=(jI,aM,aT,Il,bx,aX,cC,EH,EI,M0)
theorem ajJ [ax]:SC (T3 uC):=sc (kS (k:=Dw Dx) (.c O9 (.c dN (.c eX (.c aF9 (.c pU (.c gx (.c sF (.nil _)))))))) [3,9,13] [] ⟨kL (aua Dx),⟨kL (auc Dx),⟨kL (aub Dx),trivial⟩⟩⟩ trivial (aCT Dx))
def Od:=qa (pr (cu aQ (c Ca agj)) bF)
def Cq:=qe ry
abbrev El:=Cq.B
abbrev Oe:=NI->NI->NI->Int->Bool->Option El
def Of (g:Oe):Ct:=(268,FC Od (lf Cq) (λb=>g b.1.1.1 b.1.1.2 b.1.2.1 b.1.b b.2))
def xM (yI:Jb)(x0:Nat->Int)(x1:Nat->Int)(x2:Nat->Int)(x3:Int)(x4:Bool):Pg El:=opt (yI x0 x1 x2 x3 x4) λd=>ret (d.2.2.2.2.2 24,d.1)
def rp:=λx0 x1 x2 x3 x4=>(xM uC x0 x1 x2 x3 x4).val
theorem akO:∀yI,D0 [T3 yI] 268 Od (lf Cq) λb=>xM yI b.1.1.1 b.1.1.2 b.1.2.1 b.1.b b.2:=λ_ b=>by kernel_rfl
theorem akP [ax]:SC (Of rp):=s0 (.c ajJ (.nil _)) (akO uC)
def aBk:=qa (pl (c agc aEh) nil)
def ahX:=qe Hm
abbrev aBl:=ahX.B
abbrev aBm:=Int->Int->Int->Int->Option aBl
def aBn (g:aBm):Ct:=(274,FC aBk (lf ahX) (λb=>g b.1.1 b.1.2 b.2.1 b.b))
def anC (x0:Int)(x1:Int)(x2:Int)(x3:Int):Pg aBl:=let y0:=x0==x2;ae (y0&&(x1==x3&&true)) (ret 0) (ae (decide (x0<x2)) (ret (-1)) (ae y0 (ae (decide (x1<x3)) (ret (-1)) (ret 1)) (ret 1)))
def RZ:=λx0 x1 x2 x3=>(anC x0 x1 x2 x3).val
theorem aPv:D0 [] 274 aBk (lf ahX) λb=>anC b.1.1 b.1.2 b.2.1 b.b:=λb=>by kernel_rfl
theorem aPw [ax]:SC (aBn RZ):=s0 (.nil _) aPv
def anD:=qa (pl Fb nil)
def T4:=qe Fa
abbrev anE:=T4.B
abbrev anF:=Int->Int->Int->Option anE
def anG (g:anF):Ct:=(269,FC anD (lf T4) (λb=>g b.1 b.2.1 b.b))
def Yq (aw:bQ)(cW:oU)(abg:aBm)(x0:Int)(x1:Int)(x2:Int):Pg anE:=opt (aw x0 false) λd=>opt (aw x1 d.2) λaj=>ae (decide (x2<1)) (ret false) (ae (decide (x2>1000)) (ret false) (ae (decide (aj.1<1)) (ret false) (opt (cW d.1 d.1) λd=>opt (cW (wI (wI (x2*x2)*65536)) aj.1) λaC=>opt (abg d.1 d.2 aC.1 aC.2) λd=>ret (decide (d<=0)))))
def Bq:=λx0 x1 x2=>(Yq aM fY RZ x0 x1 x2).val
theorem aGs:∀aw cW abg,D0 [dG aw,yQ cW,aBn abg] 269 anD (lf T4) λb=>Yq aw cW abg b.1 b.2.1 b.b:=λ_ _ _ b=>by kernel_rfl
theorem aGt [ax]:SC (anG Bq):=s0 (.c dN (.c BT (.c aPw (.nil _)))) (aGs aM fY RZ)
def abh:=qa (pr (cu aQ (c Ca agj)) bF)
def Kl:=qe (res (pr (sZ (c atm (c alq agb))) (pl nd nil)))
abbrev M1:=Kl.B
abbrev abi:=NI->NI->NI->Int->Bool->Option M1
def abj (g:abi):Ct:=(270,FC abh (lf Kl) (λb=>g b.1.1.1 b.1.1.2 b.1.2.1 b.1.b b.2))
def iu:=qs (st (pr (cu aQ (us 7 (cu G6 (cu EA (us 1 (cu aJa (cu Oc (cu aqT (c ai (c ai (us 13 (c ai (us 52 (c ai (cl ai (us 65 nil)))))))))))))))) (pl (c cG (c jE (c oI (c Td (c jE JD))))) cQ)))
def UY:=qs (st (pr (cu aQ (us 7 (cu G6 (cu EA (us 1 (cu aJa (cu Oc (cu aqT (c ai (c ai (us 13 (c ai (us 52 (c ai (c ai (cl ab (us 64 nil))))))))))))))))) (pl (c cG (c jE (c oI (c Td (c jE JD))))) cQ)))
abbrev qD:=UY.B
def UZ {ρ:Type}:=@ef qD ((.ex 2)) UY ρ
def AL (anf:XF)(aB:bL)(cv:eH)(at8:XG)(d:iu.B):PL iu qD:=let n4:=d.1.1;let n3:=d.1.2;let n2:=d.2.2.2.2;let n1:=n3.2.2;let y0:=ws n4;let y1:=ws n1.2;let y2:=bk n1.2 24;let y3:=decide (n1.2<n1.1);ae y3 (opt (anf n2.1.1 n2.1.2.1 n1.2 n4) λaj=>ae y2 (opt (aB (n2.2.2 y1) n3.1 44 d.2.1) λaC=>opt (cv 2 aC.2 (cr aj [aC.1,aj]) true) λbC=>opt (at8 n2.2.1.1 n2.2.1.2 n1.2 n4 bC.1) λcK=>ae y2 (ae (bk n4 24) (ae (wd (0+y0*1+1) 24) (opt (aB aj (n2.1.2.2.2.1 y0) 30 bC.2) λfE=>opt (cv 2 fE.2 (cr (n2.2.2 y1) [fE.1,n2.2.2 y1]) true) λdC=>ae y2 (ae (true&&wd (0+y1*1+1) 24) (ret (wr ((n4,n3.1,n3.2.1,n1.1,wI (n1.2+1)),dC.2,d.2.2.1,d.2.2.2.1,n2.1,cK,λj=>bif ww j y1 then dC.1 else n2.2.2 j))) no) no) no) no) no) no) (ret (wn ((n4,n3.1,n3.2.1,n1.1,n1.2,y3),d.2)))
def HC:=bj (AL Il aX cC Fv) 2000
def iv:=qs (st (pr (cu aQ (us 7 (cu G6 (cu EA (us 1 (cu aJa (cu Oc (cu aqT (us 4 (cu (app 6 24) (us 107 aWu))))))))))) (pl (c cG (c jE (c oI (c Td (c jE OC))))) cQ)))
def U0:=qs (st (pr (cu aQ (us 7 (cu G6 (cu EA (us 1 (cu aJa (cu Oc (cu aqT (us 4 (cu (app 6 24) (us 107 (c ai aQZ)))))))))))) (pl (c cG (c jE (c oI (c Td (c jE OC))))) cQ)))
abbrev qE:=U0.B
def U2 {ρ:Type}:=@ef qE ((.ex 4)) U0 ρ
def AM (aD:cB)(d:iv.B):PL iv qE:=let n1:=d.2.2.2.2;let y0:=ws d.1;let y1:=bk d.1 24;let y2:=decide (d.1<24);ae y2 (ae y1 (opt (aD (n1.2.2.1 y0) (n1.1.2.2.2.2 24) 30 d.2.1) λaj=>ae y1 (ae (true&&wd (0+y0*1+1) 24) (ret (wr (wI (d.1+1),aj.2,d.2.2.1,d.2.2.2.1,n1.1,n1.2.1,n1.2.2.1,λj=>bif ww j y0 then aj.1 else n1.2.2.2 j))) no) no) no) (ret (wn ((d.1,y2),d.2)))
def HD:=bj (AM bl) 2000
def iw:=qs (st (pr (cu aQ (us 7 (cu G6 (cu EA (us 1 (cu aJa (cu Oc (cu aqT (us 15 (cl ai (us 119 nil))))))))))) (pl (c cG (c jE (c oI (c Td (c jE JD))))) cQ)))
def U3:=qs (st (pr (cu aQ (us 7 (cu G6 (cu EA (us 1 (cu aJa (cu Oc (cu aqT (us 15 (c ai (cl ab (us 118 nil)))))))))))) (pl (c cG (c jE (c oI (c Td (c jE JD))))) cQ)))
abbrev qF:=U3.B
def U4 {ρ:Type}:=@ef qF ((.ex 0)) U3 ρ
def AN (aq:bW)(aE:cg)(aD:cB)(rn:LT iu qD)(d:iw.B):PL iw qF:=let n1:=d.2.2.2.2;let n2:=n1.1.2.2;let y0:=ws d.1;let y1:=bk d.1 25;let y2:=bk d.1 24;let y3:=y0*1;let y4:=wI (d.1+1);let y5:=wd (0+y3+1) 24;let y6:=decide (d.1<24);ae y6 (ae y2 (ae y5 (ae y1 (ae (bk y4 25) (opt (aq (n1.1.2.1 y0) (n2.2.2 y0) (n2.2.2 (ws y4)) d.2.1) λaj=>opt (aE aj.1 1 72057594037927936 aj.2) λaC=>ae y2 (ae (true&&wd (276+y3+1) 300) (ae y2 (ae y5 (ae y1 (opt (aD (n2.1 y0) (n2.2.2 y0) 44 aC.2) λbC=>ae y2 (ae y5 (ae y2 (ae (true&&y5) (opt (rn ((d.1,wI (0-bC.1),d.1,d.1,0),bC.2,d.2.2.1,d.2.2.2.1,n1.1,(n1.2.1.1,λj=>bif ww j y0 then aC.1 else n1.2.1.2 j),λj=>bif ww j y0 then n2.2.1 y0 else n1.2.2 j)) λd=>ret (wr (wI (d.1.2.2.1+1),d.2))) no) no) no) no) no) no) no) no) no) no) no) no) no) (ret (wn ((d.1,y6),d.2)))
def HE:=bj (AN aP aT bl HC) 2000
def EK (yI:Jb)(HB:LT iv qE)(eI:LT iw qF)(x0:Nat->Int)(x1:Nat->Int)(x2:Nat->Int)(x3:Int)(x4:Bool):Pg M1:=opt (yI x0 x1 x2 x3 x4) λd=>opt (eI (0,d.1,(λx=>0,λx=>0),λx=>0,d.2,(d.2.1,d.2.2.1),λx=>0)) λd=>opt (HB (0,d.2.1,d.2.2.1,d.2.2.2.1,d.2.2.2.2.1,d.2.2.2.2.2.1,d.2.2.2.2.2.2,λx=>0)) λd=>ret ((d.2.2.2.2.2.1,d.2.2.2.2.2.2.2,d.2.2.2.2.1.2.2.2.2 24),d.2.1)
def zi:=λx0 x1 x2 x3 x4=>(EK uC HD HE x0 x1 x2 x3 x4).val
abbrev uh:=Jb×bW×cg×cB×XF×bL×eH×XG×(LT iu qD)×(LT iv qE)×(LT iw qF)
def zj (p:uh):KK:=⟨[T3 p.1,dF p.2.1,eA p.b.1,gV p.b.2.1,awh p.c.1,fO p.c.2.1,pT p.c.b.1,at2 p.c.b.2.1],⟨[⟨5,(rg 1 7 (10::rg 14 15 (rg 30 119 []))),[]⟩,⟨11,(rg 1 7 (10::rg 16 13 (rg 30 52 (rg 84 65 [])))),[]⟩,⟨20,(rg 1 7 (10::rg 14 4 (rg 19 107 (rg 127 22 [])))),[]⟩],[gv 11 1 iu UZ p.d.1,gv 20 1 iv U2 p.d.2.1,gv 5 1 iw U4 p.d.b],[],[],(some ⟨0,(rg 0 8 (rg 11 138 [])),[]⟩)⟩,1,270⟩
theorem anH (p:uh):LI (zj p) 11 iu UZ (AL p.c.1 p.c.2.1 p.c.b.1 p.c.b.2.1):=λ_ d c K=>by kernel_rfl
theorem anI (p:uh):LI (zj p) 20 iv U2 (AM p.b.2.1):=λ_ d c K=>by kernel_rfl
theorem anJ (p:uh):LI (zj p) 5 iw U4 (AN p.2.1 p.b.1 p.b.2.1 p.d.1):=λ_ d c K=>by kernel_rfl
theorem awI (p:uh):D2 (zj p) abh (lf Kl) λb=>EK p.1 p.d.2.1 p.d.b b.1.1.1 b.1.1.2 b.1.2.1 b.1.b b.2:=λb=>by kernel_rfl
abbrev zk:uh:=(uC,aP,aT,bl,Il,aX,cC,Fv,HC,HD,HE)
theorem awJ [ax]:SC (abj zi):=sc (kS (k:=zj zk) (.c ajJ (.c dS (.c eX (.c iO (.c aF9 (.c gx (.c sF (.c aGc (.nil _))))))))) [5,11,20] [] ⟨kL (anJ zk),⟨kL (anH zk),⟨kL (anI zk),trivial⟩⟩⟩ trivial (awI zk))
def ajK:=qa (pr (cu aQ agj) bF)
def Pw:=qe aEn
abbrev T5:=Pw.B
abbrev ajL:=NI->Int->Bool->Option T5
def ajM (g:ajL):Ct:=(272,FC ajK (lf Pw) (λb=>g b.1.1 b.1.2 b.2))
def kh:=qs (st (pr (cu aQ (us 1 (c ai (us 1 (cu US (us 1 (cu EA (us 1 aWy)))))))) (pl (c cG OC) cQ)))
def abk:=qs (st (pr (cu aQ (us 1 (c ai (us 1 (cu US (us 1 (cu EA (us 1 aRa)))))))) (pl (c cG OC) cQ)))
abbrev ui:=abk.B
def abl {ρ:Type}:=@ef ui ((.ex 0)) abk ρ
def EL (aB:bL)(d:kh.B):PL kh ui:=let y0:=ws d.1.2;let y1:=bk d.1.2 24;let y2:=decide (d.1.2<24);ae y2 (ae y1 (opt (aB (d.2.2.1 y0) d.1.1 30 d.2.1) λaj=>ae y1 (ae (true&&wd (0+y0*1+1) 24) (ret (wr ((d.1.1,wI (d.1.2+1)),aj.2,λj=>bif ww j y0 then aj.1 else d.2.2.1 j,d.2.2.2))) no) no) no) (ret (wn ((d.1.1,d.1.2,y2),d.2)))
def M3:=bj (EL aX) 2000
def Jd (eI:LT kh ui)(x0:Nat->Int)(x1:Int)(x2:Bool):Pg T5:=opt (eI ((x1,0),x2,x0,λx=>0)) λd=>ret (d.2.2.1,d.2.1)
def Dy:=λx0 x1 x2=>(Jd M3 x0 x1 x2).val
abbrev Je:=bL×(LT kh ui)
def T6 (p:Je):KK:=⟨[fO p.1],⟨[⟨2,(1::3::5::7::rg 9 12 []),[]⟩],[gv 2 1 kh abl p.2],[0],[],(some ⟨0,(rg 0 6 (rg 7 14 [])),[]⟩)⟩,1,272⟩
theorem aud (p:Je):LI (T6 p) 2 kh abl (EL p.1):=λ_ d c K=>by kernel_rfl
theorem aCU (p:Je):D2 (T6 p) ajK (lf Pw) λb=>Jd p.2 b.1.1 b.1.2 b.2:=λb=>by kernel_rfl
abbrev T7:Je:=(aX,M3)
theorem aCV [ax]:SC (ajM Dy):=sc (kS (k:=T6 T7) (.c gx (.nil _)) [2] [] ⟨kL (aud T7),trivial⟩ trivial (aCU T7))
def GG:=qa (dp (cu aQ (c mc (cl aEb nil))) λa=>(c xV (cl (cl (gs a.2.1 aEB) nil) nil)))
def ado:=qe (res (pr mc (pl OA nil)))
abbrev ahY:=ado.B
abbrev awK:=GG.B->Option ahY
def awL (g:awK):Ct:=(271,vN 2 [.i .i64,.i .i64,.i .i64,.i .i64,.i .i64,.i .i64,.i .i64,.i .i64,.i .i64,.i .i64,.i .i64,.i .i64,.i .i64,.i .i64,.i .i64,.i .i64,.i .i64,.i .i64,.i .i64,.i .i64,.i .i64,.i .i64,.i .i64,.i .i64] (FC GG (lf ado) g))
def oB:=qs (st (dp (cu aQ (us 3 (cu EA (us 1 (cu ai7 (us 1 (cu aqR (us 7 (c aEb (c ai (c ai (us 3 aKs)))))))))))) λa=>(pl (c cG (c (so (cl (gs a.1.1 aEB) nil)) aKW)) cQ)))
def aGu:=qs (st (pr (cu aQ (us 3 (cu EA (us 1 (cu ai7 (us 1 (cu aqR (us 7 (c aEb (c ai (c ai (us 3 aKA)))))))))))) (pl (c cG (c aX8 aKW)) cQ)))
abbrev Br:=(((Nat×Bool)×Int×Int×Int×Bool)×Bool×a1F×NI×NI×NI)
def anK {ρ:Type}(x:Br)(K:AX->St->Option ρ):Option ρ:=(λd=>K (.ex 2) (aGu.em (d.1,d.2.1,(d.1.1.1,d.b.1),d.b.2))) x
def M4 (cv:eH)(d:oB.B):PL oB Br:=let n2:=d.2.2.2;let n1:=d.1.2.2;let y0:=ws n1.2;let y1:=bk n1.2 24;let y2:=decide (n1.2<24);ae y2 (ae y1 (ae y1 (opt (cv 2 d.2.1 (cr (n2.1 y0) [n2.2.2 y0,n2.1 y0]) true) λaj=>ae y1 (ae (true&&wd (0+y0*1+1) 24) (ret (wr ((d.1.1,d.1.2.1,n1.1,wI (n1.2+1)),aj.2,d.2.2.1,λj=>bif ww j y0 then aj.1 else n2.1 j,n2.2))) no) no) no) no) (ret (wn ((d.1.1,d.1.2.1,n1.1,n1.2,y2),d.2)))
def Yr:=bj (M4 cC) 2000
def oC:=qs (st (dp (cu aQ (us 3 (cu EA (us 1 (cu ai7 (us 9 (c aEb (c ai (cl ai (us 28 nil)))))))))) λa=>(pl (c cG (c (so (cl (gs a.1.1 aEB) nil)) OC)) cQ)))
def aGv:=qs (st (pr (cu aQ (us 3 (cu EA (us 1 (cu ai7 (us 9 (c aEb (c ai (c ai (cl ab aWl)))))))))) (pl (c cG (c aX8 OC)) cQ)))
abbrev Bs:=(aNJ×Bool×a1F×NI×NI)
def anL {ρ:Type}(x:Bs)(K:AX->St->Option ρ):Option ρ:=(λd=>K (.ex 0) (aGv.em (d.1,d.2.1,(d.1.1.1,d.b.1),d.b.2))) x
def M5 (bf:eJ)(bw:jo)(yG:Ja)(wZ:MN)(rn:LT oB Br)(d:oC.B):PL oC Bs:=let n9:=d.1.1;let n5:=d.1.2;let n4:=d.2.2.1;let n2:=n4.2.2.2;let n6:=n2.2.2.2;let n1:=n6.2.2.2.2;let n8:=n1.2.2.2;let n3:=n8.2.2.2;let n7:=n3.2.2.2;let y0:=ws n5.2;let y1:=decide (n5.2<n5.1);ae y1 (ae (bk n5.2 n9.1) (ae (ww n9.1 n9.1) (opt (rn ((n9,n5.1,n5.2,0),d.2.1,n4,d.2.2.2.1,d.2.2.2.2,cr (n4.1 y0) [n7.2.2.2.2 y0,n7.2.2.2.1 y0,n7.2.2.1 y0,n7.2.1 y0,n7.1 y0,n3.2.2.1 y0,n3.2.1 y0,n3.1 y0,n8.2.2.1 y0,n8.2.1 y0,n8.1 y0,n1.2.2.1 y0,n1.2.1 y0,n1.1 y0,n6.2.2.2.1 y0,n6.2.2.1 y0,n6.2.1 y0,n6.1 y0,n2.2.2.1 y0,n2.2.1 y0,n2.1 y0,n4.2.2.1 y0,n4.2.1 y0,n4.1 y0])) λd=>opt (bf d.2.2.2.1) λaj=>opt (bw aj.1 aj.2.1 aj.2.2.1 aj.2.2.2 d.2.1) λaC=>opt (yG d.2.2.2.1 aC.1.1 aC.1.2.1 aC.1.2.2.1 aC.1.2.2.2) λbC=>opt (wZ bC aC.2) λcK=>ret (wr ((d.1.1,d.1.2.1,wI (d.1.2.2.1+1)),cK.2,d.2.2.1,cK.1,d.2.2.2.2.1))) no) no) (ret (wn ((n9,n5.1,n5.2,y1),d.2)))
def Ys:=bj (M5 bp dH oA qh Yr) 2000
def VR (aO:fP)(eI:LT oC Bs)(x:GG.B):Pg ahY:=let y0:=wl x.1.2.1;ae (y0==0) (opt (aO x.1.1 x.2.1) λd=>ret d) (ae (ww x.1.2.1 x.1.2.1) (opt (eI ((x.1.2,y0,0),x.2.1,x.2.2,x.1.1,λx=>0)) λd=>ret (d.2.2.2.1,d.2.1)) no)
def M6:=λx=>(VR cw Ys x).val
abbrev M7:=fP×eH×eJ×jo×Ja×MN×(LT oB Br)×(LT oC Bs)
def VS (p:M7):KK:=⟨[jP p.1,pT p.2.1,ke p.b.1,ov p.b.2.1,TS p.c.1,X1 p.c.2.1],⟨[⟨4,(1::2::3::5::rg 7 9 (rg 19 28 [])),[]⟩,⟨7,(1::2::3::5::7::rg 9 7 (19::20::21::rg 23 24 [])),[]⟩],[gv 7 2 oB anK p.c.b.1,gv 4 2 oC anL p.c.b.2],[0],[],(some ⟨0,(rg 0 6 (rg 7 40 [])),[]⟩)⟩,2,271⟩
theorem aCW (p:M7):LI (VS p) 7 oB anK (M4 p.2.1):=λ_ d c K=>by kernel_rfl
theorem aCX (p:M7):LI (VS p) 4 oC anL (M5 p.b.1 p.b.2.1 p.c.1 p.c.2.1 p.c.b.1):=λ_ d c K=>by kernel_rfl
theorem aLZ (p:M7):D2 (VS p) GG (lf ado) λb=>VR p.1 p.c.b.2 b:=λb=>by kernel_rfl
abbrev VT:M7:=(cw,cC,bp,dH,oA,qh,Yr,Ys)
theorem aL0 [ax]:SC (awL M6):=sc (Sound.nil 2 [.i .i64,.i .i64,.i .i64,.i .i64,.i .i64,.i .i64,.i .i64,.i .i64,.i .i64,.i .i64,.i .i64,.i .i64,.i .i64,.i .i64,.i .i64,.i .i64,.i .i64,.i .i64,.i .i64,.i .i64,.i .i64,.i .i64,.i .i64,.i .i64]<|kS (k:=VS VT) (.c kP (.c sF (.c lK (.c qg (.c ajF (.c ano (.nil _))))))) [4,7] [] ⟨kL (aCX VT),⟨kL (aCW VT),trivial⟩⟩ trivial (aLZ VT))
def aBo:=qa (pr (cu aQ (c mc (c Ca aXl))) bF)
def ahZ:=qe (res (pr (sZ (c alq (c atm (cl (ra aKz) nil)))) (pl nd nil)))
abbrev anM:=ahZ.B
abbrev anN:=NI->NI->NI->NI->Int->Int->Int->Bool->Option anM
def aBp (g:anN):Ct:=(264,FC aBo (lf ahZ) (λb=>g b.1.1 b.1.2.1.1 b.1.2.1.2 b.1.b.1 b.1.b.2.1 b.1.c.1 b.1.c.2 b.2))
def abm (aO:fP)(oZ:wo)(aw:bQ)(xN:Oe)(M8:anF)(EM:abi)(Jf:ajL)(VU:awK)(x0:Nat->Int)(x1:Nat->Int)(x2:Nat->Int)(x3:Nat->Int)(x4:Int)(x5:Int)(x6:Int)(x7:Bool):Pg anM:=opt (aO x0 x7) λd=>opt (oZ x1 x2 d.2) λaj=>opt (aw x4 aj.2) λaC=>opt (xN aj.1.1 aj.1.2 x3 x5 aC.2) λbC=>opt (M8 aC.1 bC.1 x6) λcK=>ae (!cK) (ret ((d.1,aj.1,false,aC.1,bC.1),bC.2)) (opt (EM aj.1.1 aj.1.2 x3 x5 bC.2) λfE=>opt (Jf fE.1.2.1 aC.1 fE.2) λdC=>opt (VU ((d.1,1,true),dC.2,λj=>bif ww j 0 then dC.1 0 else dC.1 0,λj=>bif ww j 0 then dC.1 1 else dC.1 1,λj=>bif ww j 0 then dC.1 2 else dC.1 2,λj=>bif ww j 0 then dC.1 3 else dC.1 3,λj=>bif ww j 0 then dC.1 4 else dC.1 4,λj=>bif ww j 0 then dC.1 5 else dC.1 5,λj=>bif ww j 0 then dC.1 6 else dC.1 6,λj=>bif ww j 0 then dC.1 7 else dC.1 7,λj=>bif ww j 0 then dC.1 8 else dC.1 8,λj=>bif ww j 0 then dC.1 9 else dC.1 9,λj=>bif ww j 0 then dC.1 10 else dC.1 10,λj=>bif ww j 0 then dC.1 11 else dC.1 11,λj=>bif ww j 0 then dC.1 12 else dC.1 12,λj=>bif ww j 0 then dC.1 13 else dC.1 13,λj=>bif ww j 0 then dC.1 14 else dC.1 14,λj=>bif ww j 0 then dC.1 15 else dC.1 15,λj=>bif ww j 0 then dC.1 16 else dC.1 16,λj=>bif ww j 0 then dC.1 17 else dC.1 17,λj=>bif ww j 0 then dC.1 18 else dC.1 18,λj=>bif ww j 0 then dC.1 19 else dC.1 19,λj=>bif ww j 0 then dC.1 20 else dC.1 20,λj=>bif ww j 0 then dC.1 21 else dC.1 21,λj=>bif ww j 0 then dC.1 22 else dC.1 22,λj=>bif ww j 0 then dC.1 23 else dC.1 23)) λd=>ret ((d.1,fE.1.1,true,aC.1,bC.1),d.2))
def R4:=λx0 x1 x2 x3 x4 x5 x6 x7=>(abm cw jI aM rp Bq zi Dy M6 x0 x1 x2 x3 x4 x5 x6 x7).val
theorem aPx:∀aO oZ aw xN M8 EM Jf VU,D0 [jP aO,Gv oZ,dG aw,Of xN,anG M8,abj EM,ajM Jf,awL VU] 264 aBo (lf ahZ) λb=>abm aO oZ aw xN M8 EM Jf VU b.1.1 b.1.2.1.1 b.1.2.1.2 b.1.b.1 b.1.b.2.1 b.1.c.1 b.1.c.2 b.2:=λ_ _ _ _ _ _ _ _ b=>by kernel_rfl
theorem aPy [ax]:SC (aBp R4):=s0 (.c kP (.c O9 (.c dN (.c akP (.c aGt (.c awJ (.c aCV (.c aL0 (.nil _))))))))) (aPx cw jI aM rp Bq zi Dy M6)
end Go.Proofs.YtldgljclcgaibaaGreat
namespace Go.Ab
theorem G0 (n:Int):IntKind.wrap .i64 n=if 9223372036854775808<=n%18446744073709551616 then n%18446744073709551616-18446744073709551616 else n%18446744073709551616:=by
 unfold IntKind.wrap;simp only[IntKind.signed,IntKind.bits,Ht,mf,show(2:Int)^64=18446744073709551616 from rfl,show(2:Int)^(64-1)=9223372036854775808 from rfl,QF]
theorem si (a b:Int)(h:0<=b):Int.fdiv a b=a/b:=Int.fdiv_eq_ediv_of_nonneg a h
theorem Wl (x:Int)(h0:0<=x)(h1:x<18446744073709551616):(v9 64 x).toNat=x.toNat:=by
 rw[BitVec.toNat_ofInt];congr 1
 simp only[Nat.reducePow,Int.cast_ofNat_Int];omega
theorem af3 (x:Int)(h0:0<=x)(h1:x<18446744073709551616):wl (v4 (v9 64 18446744073709551615^^^v9 64 x))=18446744073709551615-x:=by
 have e:v9 64 18446744073709551615=BitVec.allOnes 64:=by decide
 rw[e,BitVec.allOnes_xor,BitVec.toNat_not,Wl x h0 h1];simp only[dQ];omega
theorem apV (x:Int)(h0:0<=x)(h1:x<18446744073709551616):wl (v4 (v9 64 x&&&v9 64 4294967295))=x%4294967296:=by
 rw[BitVec.toNat_and,Wl x h0 h1];have e:(v9 64 4294967295).toNat=2^32-1:=by decide
 rw[e,Nat.and_two_pow_sub_one_eq_mod];simp only[dQ];omega
theorem azQ (x y:Int)(k:Nat)(h0:0<=x)(h1:x<2^k)(h2:0<=y)(h3:y<18446744073709551616)(h4:x<18446744073709551616)(h5:y%2^k=0):
  wl (v4 (v9 64 x|||v9 64 y))=x+y:=by
 rw[BitVec.toNat_or,Wl x h0 h4,Wl y h2 h3]
 obtain⟨q,hq⟩:∃q:Nat,y.toNat=2^k*q:=by
  refine⟨y.toNat/2^k,?_⟩
  have:y.toNat%2^k=0:=by
   have e:((y.toNat%2^k:Nat):Int)=y%2^k:=by
    rw[Int.natCast_emod,Int.toNat_of_nonneg h2];simp
   omega
  exact(Nat.mul_div_cancel' (aEG this)).symm
 have hx:x.toNat<2^k:=by
  have e:((2^k:Nat):Int)=(2:Int)^k:=by simp
  omega
 rw[hq,Nat.or_comm,<-Nat.two_pow_add_eq_or_of_lt hx,<-hq];simp only[dQ];omega
end Go.Ab
namespace Go.Proofs.YtldgljclcgaibaaGreat
open Go.Ab
abbrev okW (h l:Int):Prop:= -9223372036854775808<=h/\h<=9223372036854775807/\0<=l/\l<18446744073709551616
abbrev vW (h l:Int):Int:=h*18446744073709551616+l
theorem aZz (x:Int)(h0: -9223372036854775808<=x)(h1:x<=9223372036854775807):∃h l,Xl x=some (h,l)/\okW h l/\vW h l=x:=by
 unfold vW;simp only[Xl,atT,Pg.cF,Pg.ck,Pg.cT,Pg.fI,Pg.eL];try delta wI wU
 refine⟨_,_,rfl,?_,?_⟩<;>rw[wrap_u64,si _ _ (by omega)]<;>omega
theorem Qs (x y c:Int)(x0:0<=x)(y0:0<=y)(c0:0<=c)(c1:c<=1):Dg x y c=some ((x+y+c)%18446744073709551616,(x+y+c)/18446744073709551616):=by
 unfold Dg;have h:wd c.toNat 1=true:=aEH (by omega);rw[h,bD];congr 1
 unfold aY9 aZa;simp only[dQ,rE];constructor<;>omega
theorem azR (h1 l1 h2 l2:Int)(o1:okW h1 l1)(o2:okW h2 l2):∃h l b,K8 h1 l1 h2 l2=some ((h,l),b)/\okW h l/\(b=true↔ -170141183460469231731687303715884105728<=vW h1 l1+vW h2 l2/\vW h1 l1+vW h2 l2<170141183460469231731687303715884105728)/\(b=true->vW h l=vW h1 l1+vW h2 l2):=by
 obtain⟨a1,a2,a3,a4⟩:=o1;obtain⟨b1,b2,b3,b4⟩:=o2;unfold vW;simp only[K8,amy,Pg.cF,Pg.ck,Pg.cT,Pg.fI,Pg.eL];try delta wI wU
 rw[Qs l1 l2 0 a3 b3 (by omega) (by omega)];simp only[bR,wrap_u64];rw[Qs _ _ _ (by omega) (by omega) (by omega) (by omega)];simp only[bR];generalize hc:(l1+l2+0)/18446744073709551616=c
 generalize hl:(l1+l2+0)%18446744073709551616=l
 generalize hm:(h1%18446744073709551616+h2%18446744073709551616+c)%18446744073709551616=m
 have hw:=G0 m;generalize IntKind.wrap IntKind.i64 m=w at*
 have hw1:w=m∨w=m-18446744073709551616:=by split at hw<;>omega
 have hw2: -9223372036854775808<=w/\w<=9223372036854775807:=by split at hw<;>omega
 by_cases n1:h1<0
 .by_cases n2:h2<0
  .have e:(!decide (h1<0)==decide (h2<0))=false:=by simp[n1,n2]
   simp only[e,bK];refine⟨w,l,_,rfl,⟨hw2.1,hw2.2,by omega,by omega⟩,?_,?_⟩
   .simp only[n1,QE,beq_true,mf];constructor<;>intro h<;>omega
   .simp only[n1,QE,beq_true,mf];intro h;omega
  .have e:(!decide (h1<0)==decide (h2<0))=true:=by simp[n1,n2]
   simp only[e,bD];refine⟨w,l,_,rfl,⟨hw2.1,hw2.2,by omega,by omega⟩,?_,?_⟩
   .simp only[true_iff];constructor<;>omega
   .intro h;omega
 .by_cases n2:h2<0
  .have e:(!decide (h1<0)==decide (h2<0))=true:=by simp[n1,n2]
   simp only[e,bD];refine⟨w,l,_,rfl,⟨hw2.1,hw2.2,by omega,by omega⟩,?_,?_⟩
   .simp only[true_iff];constructor<;>omega
   .intro h;omega
  .have e:(!decide (h1<0)==decide (h2<0))=false:=by simp[n1,n2]
   simp only[e,bK];refine⟨w,l,_,rfl,⟨hw2.1,hw2.2,by omega,by omega⟩,?_,?_⟩
   .simp only[n1,OH,_root_.beq_false,oL,Wy];constructor<;>intro h<;>omega
   .simp only[n1,OH,_root_.beq_false,oL,Wy];intro h;omega
theorem aJ5 (h l:Int)(o:okW h l):∃ah al,Fu h l=some ((ah,al),decide (h<0))/\0<=ah/\ah<=9223372036854775808/\0<=al/\al<18446744073709551616/\ah*18446744073709551616+al=(if h<0 then -vW h l else vW h l):=by
 obtain⟨a1,a2,a3,a4⟩:=o;unfold vW;simp only[Fu,amk,Pg.cF,Pg.ck,Pg.cT,Pg.fI,Pg.eL];try delta wI wU
 by_cases n:h<0
 .have e:decide (h>=0)=false:=dw (by omega);simp only[e,bK,af3 l a3 a4,wrap_u64];rw[af3 (h%18446744073709551616) (by omega) (by omega),Qs _ _ _ (by omega) (by omega) (by omega) (by omega)];simp only[bR,n,QE,lZ];refine⟨_,_,rfl,?_,?_,?_,?_,?_⟩<;>omega
 .have e:decide (h>=0)=true:=gF (by omega);simp only[e,bD,wrap_u64,n,OH,gG];refine⟨_,_,rfl,?_,?_,?_,?_,?_⟩<;>omega
theorem aJ6 (h1 l1 h2 l2:Int)(a0:0<=h1)(b0:0<=l1)(c0:0<=h2)(d0:0<=l2)(b1:l1<18446744073709551616)(d1:l2<18446744073709551616):
  jG h1 l1 h2 l2=some ((h1+h2+(l1+l2)/18446744073709551616)%18446744073709551616,(l1+l2)%18446744073709551616):=by
 simp only[jG,OW,Pg.cF,Pg.ck,Pg.cT,Pg.fI,Pg.eL];try delta wI wU
 rw[Qs _ _ _ b0 d0 (by omega) (by omega)];simp only[bR,Int.add_zero];rw[Qs _ _ _ a0 c0 (by omega) (by omega)];rfl
theorem aZA (n:Nat)(hn:n<126):ia 0 1 (wl n)=some (2^n/18446744073709551616,2^n%18446744073709551616):=by
 have key:∀n:Fin 126,ia 0 1 (wl n.val)=some ((2:Int)^n.val/18446744073709551616,(2:Int)^n.val%18446744073709551616):=by decide+kernel
 exact key ⟨n,hn⟩
theorem m6 (n:Nat):(0:Int)<2^n:=Int.pow_pos (by decide)
theorem axF (h l:Int)(s:Nat)(hs:s<=126)(h0:0<=h)(h1:h<18446744073709551616)(l0:0<=l)(l1:l<18446744073709551616):
  ∃h' l',jA h l (wl s)=some (h',l')/\0<=h'/\0<=l'/\l'<18446744073709551616/\h'*18446744073709551616+l'=(h*18446744073709551616+l)/2^s:=by
 simp only[jA,IX,Pg.cF,Pg.ck,Pg.cT,Pg.fI,Pg.eL];try delta wI wU
 by_cases c:64<=s
 .have e:decide (wl s>=64)=true:=by simp only[dQ];exact gF (by omega)
  have e2:IntKind.wrap .i64 (wl s-64)=wl (s-64):=(wrap_i64 (by simp only[dQ];omega) (by simp only[dQ];omega)).trans (by simp only[dQ];omega);have e3:(!decide (wl (s-64)<0))=true:=by simp
  have e4:min (ws (wl (s-64))) 64=s-64:=by
   show min (s-64) 64=s-64;omega
  simp only[e,e2,e3,e4,bD];rw[si _ _ (pV (m6 _))];refine⟨_,_,rfl,by omega,Eg h0 (pV (m6 _)),Int.lt_of_le_of_lt (ayo _ h0) h1,?_⟩
  have p:(2:Int)^s=18446744073709551616*2^(s-64):=by
   rw[show(18446744073709551616:Int)=2^64 from rfl,<-Int.pow_add];congr 1;omega
  rw[p,<-Int.ediv_ediv_of_nonneg (by decide)];have:(h*18446744073709551616+l)/18446744073709551616=h:=by omega
  rw[this];omega
 .have e:decide (wl s>=64)=false:=by simp only[dQ];exact dw (by omega)
  have e2:IntKind.wrap .i64 (64-wl s)=wl (64-s):=(wrap_i64 (by simp only[dQ];omega) (by simp only[dQ];omega)).trans (by simp only[dQ];omega);have e3:∀n,(!decide (wl n<0))=true:=by simp
  have e4:min (ws (wl (64-s))) 64=64-s:=by
   show min (64-s) 64=64-s;omega
  have e5:min (ws (wl s)) 64=s:=by
   show min s 64=s;omega
  simp only[e,e2,e3,e4,e5,bD,bK,wrap_u64];rw[si _ _ (pV (m6 _)),si _ _ (pV (m6 _))]
  have pq:(18446744073709551616:Int)=2^s*2^(64-s):=by
   rw[<-Int.pow_add,show s+(64-s)=64 by omega];rfl
  generalize hP:(2:Int)^s=P at*
  generalize hQ:(2:Int)^(64-s)=Q at*
  have P0:0<P:=by rw[<-hP];exact m6 s
  have Q0:0<Q:=by rw[<-hQ];exact m6 (64-s)
  have m:h*Q%18446744073709551616=h%P*Q:=by
   rw[pq,Fi h Q,Fi P Q,Int.mul_emod_mul_of_pos _ _ Q0,Fi]
  have x0:0<=l/P:=Eg l0 (pV P0);have x1:l/P<Q:=aca P0 (by rw[Fi,<-pq];exact l1);have y0:0<=h%P:=acf _ (by omega);have y1:h%P<P:=WB _ P0
  have y2:h%P*Q+Q<=18446744073709551616:=by
   have:(h%P+1)*Q<=P*Q:=aqV (by omega) (pV Q0);rw[agu,<-pq] at this;omega
  have y3:0<=h%P*Q:=JO y0 (pV Q0)
  have key:wl (v4 (v9 64 (l/P)|||v9 64 (h*Q%18446744073709551616)))=l/P+h%P*Q:=by
   rw[m];exact azQ _ _ (64-s) x0 (by rw[hQ];exact x1) y3 (by omega) (by omega) (by rw[hQ];exact Int.mul_emod_left _ _)
  rw[key];have z:(l/P+h%P*Q)%18446744073709551616=l/P+h%P*Q:=Fh (by omega) (by omega);rw[z];refine⟨_,_,rfl,Eg h0 (pV P0),by omega,by omega,?_⟩
  have f1:(h*18446744073709551616+l)/P=h*Q+l/P:=by
   rw[pq,show h*(P*Q)+l=l+h*Q*P by rw[Fi P Q,<-alL,Int.add_comm],Int.add_mul_ediv_right _ _ (by omega)];omega
  have f2:h/P*18446744073709551616=h/P*P*Q:=by rw[pq,alL]
  have f3:h/P*P+h%P=h:=Int.ediv_mul_add_emod h P;rw[f1,f2];have f4:(h/P*P+h%P)*Q=h*Q:=by rw[f3]
  rw[agu] at f4;omega
theorem N4 (h l:Int)(neg:Bool)(h0:0<=h)(l0:0<=l)(l1:l<18446744073709551616):
  jH h l neg=if h*18446744073709551616+l<=(if neg=true then 9223372036854775808 else 9223372036854775807) then some (if neg=true then -l else l,true) else some (0,false):=by
 simp only[jH,OZ,Pg.cF,Pg.ck,Pg.cT,Pg.fI,Pg.eL];try delta wI wU
 by_cases c:h=0
 .subst c;have e:((0:Int)!=0)=false:=rfl;simp only[e,bK,Int.zero_mul,aEL];cases neg
  .by_cases d:l>9223372036854775807
   .have d2:¬l<=9223372036854775807:=by omega
    simp[d,d2]
   .have d2:l<=9223372036854775807:=by omega
    simp only[Bool.not_false,bD,d,OH,bK,yc,gG,d2,lZ];rw[wrap_i64 (by omega) d2]
  .by_cases d:l>9223372036854775808
   .have d2:¬l<=9223372036854775808:=by omega
    simp[d,d2]
   .have d2:l<=9223372036854775808:=by omega
    have e3:IntKind.wrap .i64 (IntKind.wrap .u64 (0-l))= -l:=by
     rw[wrap_u64,G0];split<;>omega
    have e4:IntKind.wrap .i64 (IntKind.wrap .u64 (-l))= -l:=by
     rw[wrap_u64,G0];split<;>omega
    simp[d,d2,e3,e4]
 .have e:(h !=0)=true:=by simp[c]
  have d2:¬h*18446744073709551616+l<=(if neg=true then 9223372036854775808 else 9223372036854775807):=by split<;>omega
  simp only[e,bD,d2,gG]
def half (s:Nat):Int:=if s=0 then 0 else 2^(s-1)
def LD (v:Int)(s:Nat):Int:=if v<0 then -((-v+half s)/2^s) else(v+half s)/2^s
theorem aPV (s:Nat)(hs:s<=126):0<=half s/\half s<=42535295865117307932921825928971026432:=by
 unfold half;split
 .omega
 .refine⟨pV (m6 _),?_⟩
  have:(2:Int)^(s-1)<=2^125:=by
   have h2:(2:Nat)^(s-1)<=2^125:=Nat.pow_le_pow_right (by decide) (by omega);have h3:((2^(s-1):Nat):Int)<=((2^125:Nat):Int):=by exact_mod_cast h2
   simpa using h3
  exact this
theorem wide_round (h l:Int)(s:Nat)(hs:s<=126)(o:okW h l):
  sD h l (wl s)=if -9223372036854775808<=LD (vW h l) s/\LD (vW h l) s<=9223372036854775807 then some (LD (vW h l) s,true) else some (0,false):=by
 simp only[sD,acw,Pg.cF,Pg.ck,Pg.cT,Pg.fI,Pg.eL];try delta wI wU
 obtain⟨ah,al,e1,a0,a1,a2,a3,a4⟩:=aJ5 h l o;have n0:decide (wl s<0)=false:=by simp
 have n1:decide (wl s>126)=false:=by simp only[dQ];exact dw (by omega)
 simp only[n0,n1,bK,e1,bR];obtain⟨hh0,hh1⟩:=aPV s hs
 have fin:∀h' l':Int,0<=h'->0<=l'->l'<18446744073709551616->h'*18446744073709551616+l'=((if h<0 then -vW h l else vW h l)+half s)/2^s->
   (jH h' l' (decide (h<0))).bind (λd=>some (d.fst,d.snd))=if -9223372036854775808<=LD (vW h l) s/\LD (vW h l) s<=9223372036854775807 then some (LD (vW h l) s,true) else some (0,false):=by
  intro h' l' b0 b1 b2 b3;rw[N4 h' l' _ b0 b1 b2];obtain⟨o1,o2,o3,o4⟩:=o;by_cases n:h<0
  .have nv:vW h l<0:=by show h*18446744073709551616+l<0;omega
   simp only[n,QE,lZ] at b3 ⊢;unfold LD;simp only[nv,lZ];rw[<-b3];by_cases c:h'*18446744073709551616+l'<=9223372036854775808
   .rw[if_pos c,if_pos (by omega)];simp only[bR,j9,rE,Cd];omega
   .rw[if_neg c,if_neg (by omega)];rfl
  .have nv:¬vW h l<0:=by show ¬h*18446744073709551616+l<0;omega
   simp only[n,OH,gG,yc] at b3 ⊢;unfold LD;simp only[nv,gG];rw[<-b3];by_cases c:h'*18446744073709551616+l'<=9223372036854775807
   .rw[if_pos c,if_pos (by omega)];simp only[bR,j9,rE,Cd];omega
   .rw[if_neg c,if_neg (by omega)];rfl
 by_cases z:s=0
 .subst z;have n2:decide (wl 0>0)=false:=by decide
  simp only[n2,bK];obtain⟨h',l',e2,b0,b1,b2,b3⟩:=axF ah al 0 (by omega) a0 (by omega) a2 a3;rw[e2];simp only[bR];exact fin h' l' b0 b1 b2 (by rw[b3,a4];simp[half])
 .have n2:decide (wl s>0)=true:=by simp only[dQ];exact gF (by omega)
  simp only[n2,bD];have n3:IntKind.wrap .i64 (wl s-1)=wl (s-1):=(wrap_i64 (by simp only[dQ];omega) (by simp only[dQ];omega)).trans (by simp only[dQ];omega);have hf:half s=2^(s-1):=by unfold half;rw[if_neg z]
  rw[n3,aZA (s-1) (by omega),<-hf];simp only[bR];rw[aJ6 _ _ _ _ a0 a2 (by omega) (by omega) a3 (by omega)];simp only[bR];obtain⟨h',l',e2,b0,b1,b2,b3⟩:=axF ((ah+half s/18446744073709551616+(al+half s%18446744073709551616)/18446744073709551616)%18446744073709551616) ((al+half s%18446744073709551616)%18446744073709551616) s hs (by omega) (by omega) (by omega) (by omega);rw[e2];simp only[bR];refine fin h' l' b0 b1 b2 ?_;rw[b3,<-a4];congr 1
  omega
def sat (x:Int):Int:=if x< -1152921504606846976 then -1152921504606846976 else if 1152921504606846976<x then 1152921504606846976 else x
def fj (x:Int):Bool:=decide (x< -1152921504606846976)||decide (1152921504606846976<x)
theorem ri (x:Int): -1152921504606846976<=sat x/\sat x<=1152921504606846976:=by
 unfold sat;split<;>(try split)<;>omega
theorem uU (x:Int)(fX:Bool):aM x fX=some (sat x,fX||fj x):=by
 simp only[aM,acr,aT,Dk,Pg.cF,Pg.ck,Pg.cT,Pg.fI,Pg.eL];try delta wI wU
 unfold sat fj;have e:decide ((-1152921504606846976:Int)>1152921504606846976)=false:=by decide
 by_cases c:x< -1152921504606846976
 .simp[e,c]
 .by_cases d:1152921504606846976<x
  .have d2:x>1152921504606846976:=d;simp[e,c,d]
  .simp[e,c,d]
theorem af4 (a:Int)(ok neg fX:Bool):nU a ok neg fX=if ok=true then some (sat a,fX||fj a) else some (if neg=true then -1152921504606846976 else 1152921504606846976,true):=by
 simp only[nU,Ia,rI,Xa,Pg.cF,Pg.ck,Pg.cT,Pg.fI,Pg.eL];try delta wI wU
 cases ok
 .cases neg<;>rfl
 .simp only[LO,bK,uU,bR,lZ]
theorem aiS (h l:Int)(s:Nat)(fX:Bool)(hs:s<=120)(o:okW h l):ot h l (wl s) fX=some (sat (LD (vW h l) s),fX||fj (LD (vW h l) s)):=by
 simp only[ot,Tv,Pg.cF,Pg.ck,Pg.cT,Pg.fI,Pg.eL];try delta wI wU
 have n0:decide (wl s<0)=false:=by simp
 have n1:decide (wl s>120)=false:=by simp only[dQ];exact dw (by omega)
 simp only[n0,n1,bK,wide_round h l s (by omega) o];by_cases c: -9223372036854775808<=LD (vW h l) s/\LD (vW h l) s<=9223372036854775807
 .simp only[c,and_self,lZ,bR,af4]
 .rw[if_neg c];simp only[bR,af4,yc,gG]
  have sg:(h<0->LD (vW h l) s<=0)/\(¬h<0->0<=LD (vW h l) s):=by
   obtain⟨o1,o2,o3,o4⟩:=o;obtain⟨hh0,hh1⟩:=aPV s (by omega);have p:=m6 s;unfold LD;refine⟨λn=> ?_,λn=> ?_⟩
   .have nv:vW h l<0:=by show h*18446744073709551616+l<0;omega
    rw[if_pos nv];have:0<=(-vW h l+half s)/2^s:=Eg (by omega) (pV p);omega
   .have nv:¬vW h l<0:=by show ¬h*18446744073709551616+l<0;omega
    rw[if_neg nv];exact Eg (by omega) (pV p)
  unfold sat fj;by_cases n:h<0
  .have:=sg.1 n;have c1:LD (vW h l) s< -1152921504606846976:=by omega
   simp[n,c1]
  .have:=sg.2 n;have c1:¬LD (vW h l) s< -1152921504606846976:=by omega
   have c2:1152921504606846976<LD (vW h l) s:=by omega
   simp[n,c1,c2]
theorem apW (x:Int)(h0: -9223372036854775808<=x)(h1:x<=9223372036854775807):sC x=some (if x<0 then -x else x):=by
 simp only[sC,acs,Pg.cF,Pg.ck,Pg.cT,Pg.fI,Pg.eL];try delta wI wU
 by_cases c:x<0
 .simp only[c,QE,bD,lZ,wrap_u64];exact cO (some:Int->Option Int) (by omega)
 .simp only[c,OH,bK,gG,wrap_u64];exact cO (some:Int->Option Int) (by omega)
theorem apX {a b:Int}(a0:0<=a)(a1:a<=4294967295)(b0:0<=b)(b1:b<=4294967295):0<=a*b/\a*b<=18446744065119617025:=by
 refine⟨JO a0 b0,?_⟩;have:=OF a1 b1 b0 (by omega);omega
theorem aVm (x y:Int)(x0:0<=x)(x1:x<18446744073709551616)(y0:0<=y)(y1:y<18446744073709551616):H9 x y=some (x*y/18446744073709551616,x*y%18446744073709551616):=by
 simp only[H9,acv,Pg.cF,Pg.ck,Pg.cT,Pg.fI,Pg.eL];try delta wI wU
 rw[apV x x0 x1,apV y y0 y1];simp only[si _ 4294967296 (by decide),wrap_u64];have xe:x=x/4294967296*4294967296+x%4294967296:=by omega
 have ye:y=y/4294967296*4294967296+y%4294967296:=by omega
 have xh:0<=x/4294967296/\x/4294967296<=4294967295:=by omega
 have yh:0<=y/4294967296/\y/4294967296<=4294967295:=by omega
 have xl:0<=x%4294967296/\x%4294967296<=4294967295:=by omega
 have yl:0<=y%4294967296/\y%4294967296<=4294967295:=by omega
 have hxy:x*y=(x/4294967296)*(y/4294967296)*18446744073709551616+((x/4294967296)*(y%4294967296)+(x%4294967296)*(y/4294967296))*4294967296+(x%4294967296)*(y%4294967296):=by
  conv=>lhs;rw[xe,ye]
  generalize x/4294967296=a
  generalize x%4294967296=b
  generalize y/4294967296=c
  generalize y%4294967296=d
  rw[agu,Int.mul_add,Int.mul_add,agu];rw[show a*4294967296*(c*4294967296)=a*c*18446744073709551616 by rw[alL,Int.mul_left_comm 4294967296 c,<-alL,show(4294967296:Int)*4294967296=18446744073709551616 from rfl]];rw[show a*4294967296*d=a*d*4294967296 by rw[alL,Fi 4294967296 d,<-alL],show b*(c*4294967296)=b*c*4294967296 by rw[alL]];omega
 obtain⟨A0,A1⟩:=apX xh.1 xh.2 yh.1 yh.2;obtain⟨B0,B1⟩:=apX xh.1 xh.2 yl.1 yl.2;obtain⟨C0,C1⟩:=apX xl.1 xl.2 yh.1 yh.2;obtain⟨D0,D1⟩:=apX xl.1 xl.2 yl.1 yl.2;simp only[Fh xl.1 (show x%4294967296<18446744073709551616 by omega),Fh yl.1 (show y%4294967296<18446744073709551616 by omega)];rw[hxy];generalize x/4294967296*(y/4294967296)=A at*
 generalize x/4294967296*(y%4294967296)=B at*
 generalize x%4294967296*(y/4294967296)=C at*
 generalize x%4294967296*(y%4294967296)=D at*
 have r1:A%18446744073709551616=A:=Fh A0 (by omega);have r2:B%18446744073709551616=B:=Fh B0 (by omega);have r3:C%18446744073709551616=C:=Fh C0 (by omega);have r4:D%18446744073709551616=D:=Fh D0 (by omega);simp only[r1,r2,r3,r4];have r5:(B+D/4294967296)%18446744073709551616=B+D/4294967296:=Fh (by omega) (by omega);simp only[r5];rw[apV (B+D/4294967296) (by omega) (by omega)];have r6:(B+D/4294967296)%4294967296%18446744073709551616=(B+D/4294967296)%4294967296:=Fh (by omega) (by omega);simp only[r6];have r7:((B+D/4294967296)%4294967296+C)%18446744073709551616=(B+D/4294967296)%4294967296+C:=Fh (by omega) (by omega);simp only[r7];refine cO some (Prod.ext ?_ rfl);simp only;omega
theorem aMx (h l:Int)(neg:Bool)(h0:0<=h)(h1:h<9223372036854775808)(l0:0<=l)(l1:l<18446744073709551616):
  ∃h' l' b,nT h l neg=some ((h',l'),b)/\okW h' l'/\vW h' l'=if neg=true then -(h*18446744073709551616+l) else h*18446744073709551616+l:=by
 simp only[nT,L8,Pg.cF,Pg.ck,Pg.cT,Pg.fI,Pg.eL];try delta wI wU
 cases neg
 .refine⟨_,_,_,rfl,?_,?_⟩
  .rw[wrap_i64 (by omega) (by omega)];omega
  .rw[wrap_i64 (by omega) (by omega)];rfl
 .simp only[LO,bK,af3 l l0 l1,wrap_u64,af3 h h0 (by omega)];rw[Qs _ _ _ (by omega) (by omega) (by omega) (by omega)];simp only[bR];generalize hm:(18446744073709551615-h)%18446744073709551616+((18446744073709551615-l)%18446744073709551616+1+0)/18446744073709551616=m
  have hw:=G0 (m%18446744073709551616);generalize IntKind.wrap IntKind.i64 (m%18446744073709551616)=w at*
  have ok:okW w (((18446744073709551615-l)%18446744073709551616+1+0)%18446744073709551616)/\vW w (((18446744073709551615-l)%18446744073709551616+1+0)%18446744073709551616)= -(h*18446744073709551616+l):=by
   unfold vW;refine⟨⟨?_,?_,?_,?_⟩,?_⟩<;>(split at hw<;>omega)
  cases decide (w<0)
  .exact⟨_,_,_,rfl,ok.1,by simp only[lZ];exact ok.2⟩
  .exact⟨_,_,_,rfl,ok.1,by simp only[lZ];exact ok.2⟩
theorem Ec (a b:Int)(a0: -9223372036854775808<=a)(a1:a<=9223372036854775807)(b0: -9223372036854775808<=b)(b1:b<=9223372036854775807):∃h l,fY a b=some (h,l)/\okW h l/\vW h l=a*b:=by
 simp only[fY,amh,Pg.cF,Pg.ck,Pg.cT,Pg.fI,Pg.eL];try delta wI wU
 simp only[apW a a0 a1,apW b b0 b1,bR];generalize hx:(if a<0 then -a else a)=x
 generalize hy:(if b<0 then -b else b)=y
 have x0:0<=x/\x<=9223372036854775808:=by rw[<-hx];split<;>omega
 have y0:0<=y/\y<=9223372036854775808:=by rw[<-hy];split<;>omega
 have hp:0<=x*y:=JO x0.1 y0.1
 have hq:x*y<=85070591730234615865843651857942052864:=by
  have:=OF x0.2 y0.2 y0.1 (by omega);omega
 rw[aVm x y x0.1 (by omega) y0.1 (by omega)];simp only[bR];obtain⟨h,l,c,e1,e2,e3⟩:=aMx (x*y/18446744073709551616) (x*y%18446744073709551616) (!decide (a<0)==decide (b<0)) (by omega) (by omega) (by omega) (by omega);rw[e1];simp only[bR];refine⟨h,l,rfl,e2,?_⟩;have e4:x*y/18446744073709551616*18446744073709551616+x*y%18446744073709551616=x*y:=by omega
 rw[e3,e4];by_cases p:a<0
 .by_cases q:b<0
  .rw[if_pos p] at hx;rw[if_pos q] at hy;simp only[p,q,QE];rw[if_neg (by decide)];rw[<-hx,<-hy,Int.neg_mul_neg]
  .rw[if_pos p] at hx;rw[if_neg q] at hy;simp only[p,q,QE,OH];rw[if_pos (by decide)];rw[<-hx,<-hy,Int.neg_mul,Int.neg_neg]
 .by_cases q:b<0
  .rw[if_neg p] at hx;rw[if_pos q] at hy;simp only[p,q,QE,OH];rw[if_pos (by decide)];rw[<-hx,<-hy,Int.mul_neg,Int.neg_neg]
  .rw[if_neg p] at hx;rw[if_neg q] at hy;simp only[p,q,OH];rw[if_neg (by decide)];rw[<-hx,<-hy]
theorem aPW (a b:Int)(s:Nat)(fX:Bool)(hs:s<=120):aX a b (wl s) fX=some (sat (LD (sat a*sat b) s),fX||fj a||fj b||fj (LD (sat a*sat b) s)):=by
 simp only[aX,acz,Pg.cF,Pg.ck,Pg.cT,Pg.fI,Pg.eL];try delta wI wU
 have:=ri a;have:=ri b;obtain⟨h,l,e1,e2,e3⟩:=Ec (sat a) (sat b) (by omega) (by omega) (by omega) (by omega);simp only[uU,bR,e1,aiS h l s _ hs e2,e3]
theorem aiT (f g:Nat->Int)(w:Bool)(o1:okW (f 0) (g 0))(o2:okW (f 1) (g 1))(r0: -170141183460469231731687303715884105728<=vW (f 0) (g 0)+vW (f 1) (g 1))(r1:vW (f 0) (g 0)+vW (f 1) (g 1)<170141183460469231731687303715884105728):
  ∃h l,kU 2 f g w=some ((h,l),true)/\okW h l/\vW h l=vW (f 0) (g 0)+vW (f 1) (g 1):=by
 simp only[kU,aaI,Pg.cF,Pg.ck,Pg.cT,Pg.fI,Pg.eL];try delta wI wU
 unfold Ih;rw[show ww 2 2=true from rfl,bD,al9];obtain⟨h1,l1,b1,e1,a1,c1,d1⟩:=azR 0 0 (f 0) (g 0) ⟨by omega,by omega,by omega,by omega⟩ o1
 have t1:b1=true:=by
  rw[c1];obtain⟨p1,p2,p3,p4⟩:=o1;simp only[vW];omega
 subst t1;have d1:=d1 rfl;obtain⟨h2,l2,b2,e2,a2,c2,d2⟩:=azR h1 l1 (f 1) (g 1) a1 o2;have z:vW 0 0=0:=rfl;have t2:b2=true:=by rw[c2,d1,z];omega
 subst t2;have d2:=d2 rfl;refine⟨h2,l2,?_,a2,by rw[d2,d1,z];omega⟩;have k0:decide ((0:Int)<wl 2)=true:=by decide
 have k1:bk 0 2=true:=by decide
 have k2:IntKind.wrap .i64 (0+1)=1:=by decide
 have k3:decide ((1:Int)<wl 2)=true:=by decide
 have k4:bk 1 2=true:=by decide
 have k5:IntKind.wrap .i64 (1+1)=2:=by decide
 have k6:decide ((2:Int)<wl 2)=false:=by decide
 have k7:ws 0=0:=rfl;have k8:ws 1=1:=rfl;rw[aaz];simp only[DX,Pg.wN,Pg.wO,Pg.A9,Pg.Gk,Pg.wP,rF,mT,wI,k0,k1,k2,k7,bD,e1,bR,LO,bK];rw[aaz];simp only[k3,k4,k5,k8,bD,e2,bR,LO,bK];rw[aaz];simp only[k6,bK,mT]
def DS (f:Nat->Int):Nat->Int
 |0=>0
 |n+1=>DS f n+f n
def Hl (f:Nat->Bool):Nat->Bool
 |0=>false
 |n+1=>Hl f n||f n
theorem apj (f:Nat->Int)(B:Int)(hB:0<=B)(n:Nat)(h:∀j,j<n-> -B<=f j/\f j<=B): -(n*B)<=DS f n/\DS f n<=n*B:=by
 induction n with
 |zero=>simp[DS]
 |succ n ih=>
  have:=ih λj hj=>h j (by omega)
  have h2:=h n (by omega);have e:((n+1:Nat):Int)*B=n*B+B:=by rw[Int.natCast_add,agu];simp
  rw[e,DS];omega
theorem aJ7 (v:Int):LD v 0=v:=by
 unfold LD half;simp only[lZ,Int.add_zero];have:(2:Int)^0=1:=rfl;rw[this,Int.ediv_one,Int.ediv_one];split<;>omega
theorem axG {i n t:Nat}(h:i+t=n)(ht:0<t):decide (wl i<wl n)=true:=by simp only[dQ];exact gF (by omega)
theorem axH {i n:Nat}(h:n<=i):decide (wl i<wl n)=false:=by simp only[dQ];exact dw (by omega)
theorem axI {i n:Nat}(h:i<n):bk (wl i) n=true:=by unfold bk;simp only[dQ,cq,mf];omega
theorem axJ {i:Nat}(h:i<9000000000000000000):IntKind.wrap .i64 (wl i+1)=wl (i+1):=(wrap_i64 (by simp only[dQ];omega) (by simp only[dQ];omega)).trans rfl
theorem aPX (n:Nat)(hn:n<=1900)(fX:Bool)(l:Nat->Int)(w:Bool):
  cC n fX l w=some (sat (DS (λj=>sat (l j)) n),(fX||Hl (λj=>fj (l j)) n)||fj (DS (λj=>sat (l j)) n)):=by
 simp only[cC,acJ,Pg.cF,Pg.ck,Pg.cT,Pg.fI,Pg.eL];try delta wI wU
 unfold Ty;rw[OG,bD]
 refine OT (λt d=>∃(i:Nat) (h l':Int),i+t=n/\okW h l'/\vW h l'=DS (λj=>sat (l j)) i/\d=(((n,w),wl n,wl i),(fX||Hl (λj=>fj (l j)) i),l,h,l')) ?_ 2000 n _ (by omega)
  ⟨0,0,0,by omega,⟨by omega,by omega,by omega,by omega⟩,rfl,by simp only[Hl,aK7];rfl⟩
 rintro t _ c ⟨i,h,l',hi,ho,hv,rfl⟩ hc
 have bnd:=apj (λj=>sat (l j)) 1152921504606846976 (by omega) i (λj _=>ri _);rcases acb t with t0|t0
 .have e:i=n:=by omega
  subst e;have r:=aiS h l' 0;have r2:=wide_round h l' 0 (by omega) ho;rw[aJ7] at r2;have r3:wl 0=0:=rfl;rw[r3] at r2;simp only[I5,Pg.wN,Pg.wO,Pg.A9,Pg.Gk,Pg.wP,rF,mT,wI,axH (eT i),bK,r2];by_cases k: -9223372036854775808<=vW h l'/\vW h l'<=9223372036854775807
  .rw[if_pos k];simp only[lZ,bR,af4,hv]
  .rw[if_neg k];simp only[bR,af4,yc,gG];rw[<-hv];unfold sat fj;by_cases ng:h<0
   .have c1:vW h l'< -1152921504606846976:=by
     obtain⟨o1,o2,o3,o4⟩:=ho;simp only[vW] at*;omega
    simp[ng,c1]
   .have c1:¬vW h l'< -1152921504606846976:=by
     obtain⟨o1,o2,o3,o4⟩:=ho;simp only[vW] at*;omega
    have c2:1152921504606846976<vW h l':=by
     obtain⟨o1,o2,o3,o4⟩:=ho;simp only[vW] at*;omega
    simp[ng,c1,c2]
 .have hs:=ri (l i);obtain⟨h1,l1,e1,o1,v1⟩:=aZz (sat (l i)) (by omega) (by omega)
  obtain⟨h2,l2,e2,o2,v2⟩:=aiT (λj:Nat=>bif ww j 1 then h1 else bif ww j 0 then h else h) (λj:Nat=>bif ww j 1 then l1 else bif ww j 0 then l' else l') true
   ho o1 (by show _<=vW h l'+vW h1 l1;rw[hv,v1];omega) (by show vW h l'+vW h1 l1<_;rw[hv,v1];omega)
  have v2:vW h2 l2=vW h l'+vW h1 l1:=v2;rw[hv,v1] at v2;have q:ws (wl i)=i:=rfl;simp only[I5,Pg.wN,Pg.wO,Pg.A9,Pg.Gk,Pg.wP,rF,mT,wI,axG hi t0,axI (show i<n by omega),bD,q,uU,bR,e1,e2,axJ (show i<9000000000000000000 by omega)];refine hc (t-1) _ (by omega) ⟨i+1,h2,l2,by omega,o2,v2,?_⟩;simp only[Hl,Bool.or_assoc]
theorem af5 (a b:Int): -1329227995784915872903807060280344576<=sat a*sat b/\sat a*sat b<=1329227995784915872903807060280344576:=by
 have h1:=ri a;have h2:=ri b;generalize sat a=x at*
 generalize sat b=y at*
 have key:∀u v:Int,0<=u->u<=1152921504606846976->0<=v->v<=1152921504606846976->0<=u*v/\u*v<=1329227995784915872903807060280344576:=λu v u0 u1 v0 v1=>by
  refine⟨JO u0 v0,?_⟩;have:=OF u1 v1 v0 (by omega);omega
 rcases ayp 0 x with hx|hx<;>rcases ayp 0 y with hy|hy
 .have:=key x y hx (by omega) hy (by omega);omega
 .have:=key x (-y) hx (by omega) (by omega) (by omega);rw[Int.mul_neg] at this;omega
 .have:=key (-x) y (by omega) (by omega) hy (by omega);rw[Int.neg_mul] at this;omega
 .have:=key (-x) (-y) (by omega) (by omega) (by omega) (by omega);rw[Int.neg_mul_neg] at this;omega
theorem aPY (s:Nat)(hs:s<=120)(n:Nat)(hn:n<=100)(fX:Bool)(f g:Nat->Int)(w w':Bool):
  bx (wl s) n n fX f g w w'=some (sat (LD (DS (λj=>sat (f j)*sat (g j)) n) s),(fX||Hl (λj=>fj (f j)||fj (g j)) n)||fj (LD (DS (λj=>sat (f j)*sat (g j)) n) s)):=by
 simp only[bx,ac6,Pg.cF,Pg.ck,Pg.cT,Pg.fI,Pg.eL];try delta wI wU
 unfold TH;have n0:decide (wl s<0)=false:=by simp
 have n1:decide (wl s>120)=false:=by simp only[dQ];exact dw (by omega)
 have m:(if 100<if wl n<wl n then wl n else wl n then 100 else if wl n<wl n then wl n else wl n)=wl n:=by
  have e:¬wl n<wl n:=by omega
  rw[if_neg e,if_neg (by simp only[dQ];omega)]
 rw[n0,n1,bK,bK,OG,bD,bD,m]
 refine OT (λt d=>∃(i:Nat) (h l':Int),i+t=n/\okW h l'/\vW h l'=DS (λj=>sat (f j)*sat (g j)) i/\d=((wl s,(n,w),(n,w'),wl n,wl i),(fX||Hl (λj=>fj (f j)||fj (g j)) i),f,g,h,l')) ?_ 2000 n _ (by omega)
  ⟨0,0,0,by omega,⟨by omega,by omega,by omega,by omega⟩,rfl,by simp only[Hl,aK7];rfl⟩
 rintro t _ c ⟨i,h,l',hi,ho,hv,rfl⟩ hc
 have bnd:=apj (λj=>sat (f j)*sat (g j)) 1329227995784915872903807060280344576 (by omega) i (λj _=>af5 _ _);rcases acb t with t0|t0
 .have e:i=n:=by omega
  subst e;simp only[I8,Pg.wN,Pg.wO,Pg.A9,Pg.Gk,Pg.wP,rF,mT,wI,axH (eT i),bK,aiS h l' s _ hs ho,hv,bR]
 .have hs1:=ri (f i);have WJ:=ri (g i);have hm:=af5 (f i) (g i);obtain⟨h1,l1,e1,o1,v1⟩:=Ec (sat (f i)) (sat (g i)) (by omega) (by omega) (by omega) (by omega)
  obtain⟨h2,l2,e2,o2,v2⟩:=aiT (λj:Nat=>bif ww j 1 then h1 else bif ww j 0 then h else h) (λj:Nat=>bif ww j 1 then l1 else bif ww j 0 then l' else l') true
   ho o1 (by show _<=vW h l'+vW h1 l1;rw[hv,v1];omega) (by show vW h l'+vW h1 l1<_;rw[hv,v1];omega)
  have v2:vW h2 l2=vW h l'+vW h1 l1:=v2;rw[hv,v1] at v2;have q:ws (wl i)=i:=rfl;simp only[I8,Pg.wN,Pg.wO,Pg.A9,Pg.Gk,Pg.wP,rF,mT,wI,axG hi t0,axI (show i<n by omega),bD,q,uU,bR,e1,e2,axJ (show i<9000000000000000000 by omega)];refine hc (t-1) _ (by omega) ⟨i+1,h2,l2,by omega,o2,v2,?_⟩;simp only[Hl,Bool.or_assoc]
end Go.Proofs.YtldgljclcgaibaaGreat
