/-
  Parts of the proof: Q2 PWS PWT PWU PWV
-/
import Derived.Test.YtldgljclcgaibaaGreatZAE
import Derived.Test.YtldgljclcgaibaaGreatZAF
open Nat renaming beq→ww,ble→wl
open Int renaming toNat→wt,ofNat→wn
open Sum renaming inl→ws,inr→wr
open BitVec renaming ofInt→wd,toNat→ul
set_option linter.all false
set_option maxRecDepth 100000
set_option maxHeartbeats 4000000
noncomputable section
namespace Go.Proofs.YtldgljclcgaibaaGreat
open Go.Ab Go.Ab.Pg Go.Ab.Rq
def art:=qa (pl as5 nil)
def Xd:=qe DQ
abbrev aru:=Xd.B
abbrev arv:=Int->Int->Int->Int->Option aru
def arw (g:arv):Ct:=(67,FC art (lf Xd) (λb=>g b.1 b.2.1 b.b.1 b.b.2))
def lS:=qs (st (dp (us 1 (cu (app 0 4) (us 1 (c aWO (us 6 (c agd (cl ai (us 24 aQf)))))))) λa=>(pl (c wQ (cl (so (cl (gs a.1 aJ9) nil)) nil)) nil)))
def aaK:=qs (st (pu (us 2 (cu ui (us 42 nil))) (pu nil nil)))
def avT:=qs (st (pr (us 1 (cu (app 0 4) (us 1 (c aWO (us 6 (c agd (c ai (cl ab (us 23 aQf))))))))) (pl (c wQ (cl aQw nil)) nil)))
abbrev xx:=aaK.B⊕((Nat×aIG×Int×Bool)×aIG×NI×NI)
def ajq {ρ:Type}(x:xx)(K:AX->St->Option ρ):Option ρ:=(Sum.elim (λd=>K .ret (aaK.em d)) (λd=>K (.ex 0) (avT.em (d.1,d.2.1,d.1.1,d.b)))) x
def Tn (dz:ON)(cS:nD)(d:lS.B):PL lS xx:=let n5:=d.2.2;let n3:=d.1.1;let n2:=d.1.2;let n4:=n2.1.2;let y0:=n3+1;let n1:=(y0,n2.1,wI (n2.2+1));let y1:=decide (n2.2<4);ae y1 (ae (aX n2.2 4) (ae (n2.2==3) (opt (dz n4.2.2) λaj=>ae (decide (aj>1073741840)) (ret (wr (ws ()))) (opt (cS n4.2.2 n4.2.2) λaE=>ae (wl (y0*16) 140737488355328) (ret (ws (n1,d.2.1,λj=>bif ww j n3 then aE.1 else n5.1 j,λj=>bif ww j n3 then aE.2 else n5.2 j))) no)) (ae (n2.2==2) (opt (dz n4.2.1) λaj=>ae (decide (aj>1073741840)) (ret (wr (ws ()))) (opt (cS n4.2.1 n4.2.1) λaE=>ae (wl (y0*16) 140737488355328) (ret (ws (n1,d.2.1,λj=>bif ww j n3 then aE.1 else n5.1 j,λj=>bif ww j n3 then aE.2 else n5.2 j))) no)) (ae (n2.2==1) (opt (dz n4.1) λaj=>ae (decide (aj>1073741840)) (ret (wr (ws ()))) (opt (cS n4.1 n4.1) λaE=>ae (wl (y0*16) 140737488355328) (ret (ws (n1,d.2.1,λj=>bif ww j n3 then aE.1 else n5.1 j,λj=>bif ww j n3 then aE.2 else n5.2 j))) no)) (opt (dz n2.1.1) λaj=>ae (decide (aj>1073741840)) (ret (wr (ws ()))) (opt (cS n2.1.1 n2.1.1) λaE=>ae (wl (y0*16) 140737488355328) (ret (ws (n1,d.2.1,λj=>bif ww j n3 then aE.1 else n5.1 j,λj=>bif ww j n3 then aE.2 else n5.2 j))) no))))) no) (ret (wr (wr ((n3,n2.1,n2.2,y1),d.2))))
def To:=bC (Tn xw fC) 2000
def acO (xS:sr)(uX:DD)(ew:LT lS xx)(x0:Int)(x1:Int)(x2:Int)(x3:Int):Pg aru:=ae true (opt (ew ((0,(x0,x1,x2,x3),0),(x0,x1,x2,x3),λx=>0,λx=>0)) λx=>sum x (λd=>ret false) λd=>ae (ww d.1.1 d.1.1) (opt (xS d.1.1 d.2.2.1 d.2.2.2 true) λd=>opt (uX d.1.1 d.1.2 0) λd=>let y0:=wI (d.1-1152921504606846976);ae d.2 (ae (decide (y0>= -4294967296)) (ret (decide (y0<=4294967296))) (ret false)) (ret false)) no) no
def DH:=λx0 x1 x2 x3=>(acO j8 rE To x0 x1 x2 x3).val
abbrev QG:=ON×nD×sr×DD×(LT lS xx)
def acP (p:QG):KK:=⟨[aeC p.1,xL p.2.1,KP p.b.1,Qu p.b.2.1],⟨[⟨3,(0::2::rg 4 6 (rg 12 24 [39,40,44])),[(3,[.i .i64,.i .u64])]⟩],[fV 3 0 lS ajq p.c],[],[],(some ⟨0,(0::1::rg 3 42 []),[]⟩)⟩,0,67⟩
theorem ayY (p:QG):LI (acP p) 3 lS ajq (Tn p.1 p.2.1):=λ_ d c K=>by kernel_rfl
theorem aHJ (p:QG):D2 (acP p) art (lf Xd) λb=>acO p.b.1 p.b.2.1 p.c b.1 b.2.1 b.b.1 b.b.2:=λb=>by kernel_rfl
abbrev acQ:QG:=(xw,fC,j8,rE,To)
theorem aHK [ax]:SC (arw DH):=sc (kS (k:=acP acQ) (.c apv (.c Bc (.c Rg (.c acg (.nil _))))) [3] [] ⟨kL (ayY acQ),trivial⟩ trivial (aHJ acQ))
def arx:=qa (dp (cu aP (c ai (c Ib (cl aVP nil)))) λa=>(c wM (c (cl (gs a.2.1.1 nC) nil) (cl (cl (gs a.b.1 nC) nil) nil))))
def Xe:=qe (res (pr ai (pl (cl auV axT) nil)))
abbrev ary:=Xe.B
abbrev eM:=Int->Nat->Nat->Bool->NI->NI->Bool->Bool->Option ary
def mW (g:eM):Ct:=(73,uW 3 [.i .i64] (uW 2 [.i .i64] (FC arx (lf Xe) (λb=>g b.1.1 b.1.2.1.1 b.1.b.1 b.2.1 b.b.1 b.b.2 b.1.2.1.2 b.1.b.2))))
def vv:=qs (st (dp (cu aP (c ai (c Ib (c aVP (us 5 (cu (app 3 2) aWm)))))) λa=>(pl (c cD (c (so (cl (gs a.2.1.1 nC) nil)) (c (so (cl (gs a.b.1.1 nC) nil)) abO))) cP)))
def aCN:=qs (st (pr (cu aP (c ai (c Ib (c aVP (us 5 (cu (app 3 2) aWq)))))) (pl (c cD (c JD (c JD abO))) cP)))
abbrev Je:=(aVJ×Bool×NI×NI×Int×Int)
def ajr {ρ:Type}(x:Je)(K:AX->St->Option ρ):Option ρ:=(λd=>K (.ex 0) (aCN.em (d.1,d.2.1,(d.1.2.1.1,d.b.1),(d.1.b.1.1,d.b.2.1),d.c))) x
def Jf (aw:bP)(cS:nD)(xS:sr)(d:vv.B):PL vv Je:=let y0:=wt d.1.2.2.2.2;let y1:=decide (d.1.2.2.2.2<d.1.2.2.2.1);ae y1 (ae (aX d.1.2.2.2.2 d.1.2.1.1) (opt (aw (d.2.2.1 y0) d.2.1) λaj=>ae (aX d.1.2.2.2.2 d.1.2.2.1.1) (opt (aw (d.2.2.2.1 y0) aj.2) λaE=>opt (cS aj.1 aE.1) λbE=>opt (xS 2 (λj=>bif ww j 1 then bE.1 else bif ww j 0 then d.2.2.2.2.1 else d.2.2.2.2.1) (λj=>bif ww j 1 then bE.2 else bif ww j 0 then d.2.2.2.2.2 else d.2.2.2.2.2) true) λcC=>ret (ws ((d.1.1,d.1.2.1,d.1.2.2.1,d.1.2.2.2.1,wI (d.1.2.2.2.2+1)),aE.2,d.2.2.1,d.2.2.2.1,cC.1))) no) no) (ret (wr ((d.1.1,d.1.2.1,d.1.2.2.1,d.1.2.2.2.1,d.1.2.2.2.2,y1),d.2)))
def Tp:=bC (Jf aQ fC j8) 2000
def acR (iW:xt)(ew:LT vv Je)(x0:Int)(x1:Nat)(x2:Nat)(x3:Bool)(x4:Nat->Int)(x5:Nat->Int)(w0:Bool)(w1:Bool):Pg ary:=let y0:=if wn x2<wn x1 then wn x2 else wn x1;ae (decide (x0<0)) (opt (iW 0 0 x0 x3) λd=>ret d) (ae (decide (x0>120)) (opt (iW 0 0 x0 x3) λd=>ret d) (ae (ww x1 x1) (ae (ww x2 x2) (opt (ew ((x0,(x1,w0),(x2,w1),if 100<y0 then 100 else y0,0),x3,x4,x5,0,0)) λd=>opt (iW d.2.2.2.2.1 d.2.2.2.2.2 d.1.1 d.2.1) λd=>ret d) no) no))
def bz:=λx0 x1 x2 x3 x4 x5 w0 w1=>(acR nc Tp x0 x1 x2 x3 x4 x5 w0 w1).val
abbrev QH:=xt×bP×nD×sr×(LT vv Je)
def acS (p:QH):KK:=⟨[I6 p.1,dx p.2.1,xL p.b.1,KP p.b.2.1],⟨[⟨5,(rg 4 5 (rg 10 15 (rg 27 26 []))),[]⟩],[fV 5 3 vv ajr p.c],[0],[],(some ⟨0,(rg 0 8 (rg 9 44 [])),[]⟩)⟩,3,73⟩
theorem ayZ (p:QH):LI (acS p) 5 vv ajr (Jf p.2.1 p.b.1 p.b.2.1):=λ_ d c K=>by kernel_rfl
theorem aHL (p:QH):D2 (acS p) arx (lf Xe) λb=>acR p.1 p.c b.1.1 b.1.2.1.1 b.1.b.1 b.2.1 b.b.1 b.b.2 b.1.2.1.2 b.1.b.2:=λb=>by kernel_rfl
abbrev acT:QH:=(nc,aQ,fC,j8,Tp)
theorem oQ [ax]:SC (mW bz):=sc (Sound.nil 3 [.i .i64]<|Sound.nil 2 [.i .i64]<|kS (k:=acS acT) (.c Td (.c dB (.c Bc (.c Rg (.nil _))))) [5] [] ⟨kL (ayZ acT),trivial⟩ trivial (aHL acT))
def aAZ:=qa (pr (c ai (c ai (c ai (cl ai (cu aP (cu aqr nil)))))) (cu aP0 (c agc bH)))
def ahp:=qe aWH
abbrev aA0:=ahp.B
abbrev amB:=Int->Int->Int->Int->Int->Int->Int->Int->Bool->Option aA0
def aA1 (g:amB):Ct:=(196,FC aAZ (lf ahp) (λb=>g b.1.1 b.1.2.1 b.1.b.1 b.1.b.2 b.2.1.1 b.2.1.2.1 b.2.1.b.1 b.2.1.b.2 b.b))
def amC (bh:eM)(x0:Int)(x1:Int)(x2:Int)(x3:Int)(x4:Int)(x5:Int)(x6:Int)(x7:Int)(x8:Bool):Pg aA0:=let y0:=wI (x0*x4);opt (bh 30 4 4 x8 (cr x4 [x7,x6,x5,x4]) (cr y0 [wI (x3*x7),wI (x2*x6),wI (x1*x5),y0]) false true) λd=>ret d
def Rn:=λx0 x1 x2 x3 x4 x5 x6 x7 x8=>(amC bz x0 x1 x2 x3 x4 x5 x6 x7 x8).val
theorem aOc:∀bh,D0 [mW bh] 196 aAZ (lf ahp) λb=>amC bh b.1.1 b.1.2.1 b.1.b.1 b.1.b.2 b.2.1.1 b.2.1.2.1 b.2.1.b.1 b.2.1.b.2 b.b:=λ_ b=>by kernel_rfl
theorem aOd [ax]:SC (aA1 Rn):=s0 (.c oQ (.nil _)) (aOc bz)
def aA2:=qa (pr (c ai (c ai aKh)) (cu asZ bH))
def ahq:=qe aQs
abbrev aA3:=ahq.B
abbrev amD:=Int->Int->Int->Int->Bool->Option aA3
def aA4 (g:amD):Ct:=(197,FC aA2 (lf ahq) (λb=>g b.1.1 b.1.2.1 b.1.b.1 b.1.b.2 b.2))
def amE (bh:eM)(x0:Int)(x1:Int)(x2:Int)(x3:Int)(x4:Bool):Pg aA3:=opt (bh 30 4 4 x4 (cr x0 [x2,x2,x0,x0]) (cr x1 [x3,x3,x1,x1]) true true) λd=>ret d
def Ro:=λx0 x1 x2 x3 x4=>(amE bz x0 x1 x2 x3 x4).val
theorem aOe:∀bh,D0 [mW bh] 197 aA2 (lf ahq) λb=>amE bh b.1.1 b.1.2.1 b.1.b.1 b.1.b.2 b.2:=λ_ b=>by kernel_rfl
theorem aOf [ax]:SC (aA4 Ro):=s0 (.c oQ (.nil _)) (aOe bz)
def aaL:=qa (pr (c ai (c ai (cl ai (cu az6 nil)))) (cl as0 nil))
def JT:=qe aWL
abbrev aaM:=JT.B
abbrev aaN:=Int->Int->Int->NI->Option aaM
def aaO (g:aaN):Ct:=(115,FC aaL (lf JT) (λb=>g b.1.1 b.1.2.1 b.1.b b.2))
def jl:=qs (st (pr (us 1 (c ai (c ai (cu az6 (us 3 (cl ai (us 9 nil))))))) (pl JC cP)))
def apH:=qs (st (pr (us 1 (c ai (c ai (cu az6 (us 3 (c ai (us 1 (c ai (c ai (cl ab (us 5 nil))))))))))) (pl JC cP)))
abbrev tX:=((Int×Int×Int×Bool)×NI)
def UF {ρ:Type}(x:tX)(K:AX->St->Option ρ):Option ρ:=(λd=>K (.ex 0) (apH.em ((d.1.1,d.1.2.1,d.1.b.1,d.1.b.1,d.1.1,d.1.b.2),d.2))) x
def Hy (d:jl.B):PL jl tX:=let n1:=d.1.2;let y0:=wt n1.2;let y1:=decide (n1.2<d.1.1);ae y1 (ae (aX n1.2 24) (ae (true&&wl (0+y0*1+1) 24) (ret (ws ((d.1.1,n1.1,wI (n1.2+1)),λj=>bif ww j y0 then n1.1 else d.2 j))) no) no) (ret (wr ((d.1.1,n1.1,n1.2,y1),d.2)))
def Hz:=bC (Hy) 2000
def L8 (ew:LT jl tX)(x0:Int)(x1:Int)(x2:Int)(x3:Nat->Int):Pg aaM:=opt (ew ((x1,x2,x0),x3)) λd=>ret d.2
def xU:=λx0 x1 x2 x3=>(L8 Hz x0 x1 x2 x3).val
abbrev Er:=(LT jl tX)
def L9 (p:Er):KK:=⟨[],⟨[⟨1,(0::4::5::6::rg 8 9 []),[]⟩],[fV 1 1 jl UF p],[0],[],(some ⟨0,(rg 0 17 []),[]⟩)⟩,1,115⟩
theorem amF (p:Er):LI (L9 p) 1 jl UF (Hy):=λ_ d c K=>by kernel_rfl
theorem avU (p:Er):D2 (L9 p) aaL (lf JT) λb=>L8 p b.1.1 b.1.2.1 b.1.b b.2:=λb=>by kernel_rfl
abbrev Ma:Er:=Hz
theorem avV [ax]:SC (aaO xU):=sc (kS (k:=L9 Ma) (.nil _) [1] [] ⟨kL (amF Ma),trivial⟩ trivial (avU Ma))
def ajs:=qa (pr (cu aP gW) bH)
def OR:=qe qi
abbrev ajt:=OR.B
abbrev C':=Int->Bool->Option ajt
def Ts (g:C'):Ct:=(88,FC ajs (lf OR) (λb=>g b.1 b.2))
def Jg (aF:ch)(x0:Int)(x1:Bool):Pg ajt:=opt (aF x0 1 72057594037927936 x1) λd=>ret d
def nd:=λx0 x1=>(Jg bc x0 x1).val
theorem aCO:∀aF,D0 [dY aF] 88 ajs (lf OR) λb=>Jg aF b.1 b.2:=λ_ b=>by kernel_rfl
theorem aju [ax]:SC (Ts nd):=s0 (.c eK (.nil _)) (aCO bc)
def aeG:=qa (pr (cu aP (cl Ae nil)) bH)
def Mb:=qe aQH
abbrev OS:=Mb.B
abbrev qy:=NI->NI->Bool->Option OS
def Aw (g:qy):Ct:=(69,FC aeG (lf Mb) (λb=>g b.1.1 b.1.2 b.2))
def gD:=qs (st (pr (cu aP (us 2 (cu G8 (cu Z' (us 2 aPY))))) (pl (c cD ax7) cP)))
def Xf:=qs (st (pr (cu aP (us 2 (cu G8 (cu Z' (us 2 aP7))))) (pl (c cD ax7) cP)))
abbrev qz:=Xf.B
def Xg {ρ:Type}:=@ef qz ((.ex 0)) Xf ρ
def BI (Tt:C')(d:gD.B):PL gD qz:=let y0:=wt d.1;let y1:=aX d.1 24;let y2:=decide (d.1<24);ae y2 (ae y1 (opt (Tt (d.2.2.1.2 y0) d.2.1) λaj=>ae y1 (ae (true&&wl (276+y0*1+1) 300) (ret (ws (wI (d.1+1),aj.2,(d.2.2.1.1,λj=>bif ww j y0 then aj.1 else d.2.2.1.2 j),d.2.2.2))) no) no) no) (ret (wr ((d.1,y2),d.2)))
def BJ:=bC (BI nd) 2000
def gE:=qs (st (pr (cu aP (us 2 (cu G8 (cu Z' (us 15 aJ5))))) (pl (c cD ax7) cP)))
def Xh:=qs (st (pr (cu aP (us 2 (cu G8 (cu Z' (us 15 aKa))))) (pl (c cD ax7) cP)))
abbrev qA:=Xh.B
def Xi {ρ:Type}:=@ef qA ((.ex 2)) Xh ρ
def BK (aF:ch)(d:gE.B):PL gE qA:=let y0:=wt d.1;let y1:=aX d.1 276;let y2:=decide (d.1<276);let y3:=0+y0*1+1;let y4:=wl y3 276;ae y2 (ae y1 (ae y4 (opt (aF (d.2.2.1.1 y0) (-1152921504606846976) 1152921504606846976 d.2.1) λaj=>ae y1 (ae (y4&&wl y3 300) (ret (ws (wI (d.1+1),aj.2,(λj=>bif ww j y0 then aj.1 else d.2.2.1.1 j,d.2.2.1.2),d.2.2.2))) no) no) no) no) (ret (wr ((d.1,y2),d.2)))
def BL:=bC (BK bc) 2000
def GC (ew:LT gD qz)(qx:LT gE qA)(x0:Nat->Int)(x1:Nat->Int)(x2:Bool):Pg OS:=opt (ew (0,x2,(x0,x1),λx=>0,λx=>0)) λd=>opt (qx (0,d.2)) λd=>ret (d.2.2.1,d.2.1)
def fW:=λx0 x1 x2=>(GC BJ BL x0 x1 x2).val
abbrev Ax:=C'×ch×(LT gD qz)×(LT gE qA)
def GD (p:Ax):KK:=⟨[Ts p.1,dY p.2.1],⟨[⟨2,(1::2::5::6::rg 8 26 []),[]⟩,⟨7,(1::2::rg 5 15 (rg 21 13 [])),[]⟩],[fV 2 1 gD Xg p.b.1,fV 7 1 gE Xi p.b.2],[0],[],(some ⟨0,(rg 0 4 (rg 5 29 [])),[]⟩)⟩,1,69⟩
theorem apI (p:Ax):LI (GD p) 2 gD Xg (BI p.1):=λ_ d c K=>by kernel_rfl
theorem apJ (p:Ax):LI (GD p) 7 gE Xi (BK p.2.1):=λ_ d c K=>by kernel_rfl
theorem ay0 (p:Ax):D2 (GD p) aeG (lf Mb) λb=>GC p.b.1 p.b.2 b.1.1 b.1.2 b.2:=λb=>by kernel_rfl
abbrev GF:Ax:=(nd,bc,BJ,BL)
theorem GG [ax]:SC (Aw fW):=sc (kS (k:=GD GF) (.c aju (.c eK (.nil _))) [2,7] [] ⟨kL (apI GF),⟨kL (apJ GF),trivial⟩⟩ trivial (ay0 GF))
def aFQ:=qa (dp (cu aP axV) λa=>(c wM (cl (cl (gs a.1 nC) nil) nil)))
def amG:=qe aW4
abbrev aFR:=amG.B
abbrev atF:=Nat->Bool->NI->Bool->Option aFR
def aFS (g:atF):Ct:=(50,uW 1 [.i .i64] (FC aFQ (lf amG) (λb=>g b.1.1 b.2.1 b.b b.1.2)))
def vd:=qs (st (dp (cu aP (c Ib (us 2 (cu Z' (cu aIJ (us 1 aJ6)))))) λa=>(pl (c cD (c (so (cl (gs a.1.1 nC) nil)) ax7)) cP)))
def aLf:=qs (st (pr (cu aP (c Ib (us 2 (cu Z' (cu aIJ (us 1 aP8)))))) (pl (c cD (c JD ax7)) cP)))
abbrev Mc:=(((Nat×Bool)×Int×Bool)×Bool×NI×(NI×NI)×NI×NI)
def avW {ρ:Type}(x:Mc)(K:AX->St->Option ρ):Option ρ:=(λd=>K (.ex 0) (aLf.em (d.1,d.2.1,(d.1.1.1,d.b.1),d.b.2))) x
def ahr (Tt:C')(d:vd.B):PL vd Mc:=let n3:=d.1.1;let n2:=d.1.2;let n1:=d.2.2;let y0:=wt n2;let y1:=aX n2 24;let y2:=decide (n2<24);let y3:=true&&wl (276+y0*1+1) 300;ae y2 (ae y1 (ae y3 (ae (decide (n2<wn n3.1)) (ae (aX n2 n3.1) (opt (Tt (n1.1 y0) d.2.1) λaj=>ae y1 (ae y3 (ret (ws ((n3,wI (n2+1)),aj.2,n1.1,n1.2.1,n1.2.2.1,λj=>let y0:=ww j y0;bif y0 then aj.1 else bif y0 then 1 else n1.2.2.2 j))) no) no) no) (ret (ws ((n3,wI (n2+1)),d.2.1,n1.1,n1.2.1,n1.2.2.1,λj=>bif ww j y0 then 1 else n1.2.2.2 j)))) no) no) (ret (wr ((n3,n2,y2),d.2)))
def ahs:=bC (ahr nd) 2000
def atG (ew:LT vd Mc)(x0:Nat)(x1:Bool)(x2:Nat->Int)(w0:Bool):Pg aFR:=ae (ww x0 x0) (opt (ew (((x0,w0),0),x1,x2,(λx=>0,λx=>0),λx=>0,λx=>0)) λd=>ret (d.2.2.2.2,d.2.1)) no
def Xj:=λx0 x1 x2 w0=>(atG ahs x0 x1 x2 w0).val
abbrev aht:=C'×(LT vd Mc)
def atH (p:aht):KK:=⟨[Ts p.1],⟨[⟨3,(2::3::6::rg 8 20 []),[]⟩],[fV 3 2 vd avW p.2],[0],[],(some ⟨0,(rg 0 4 (rg 5 23 [])),[]⟩)⟩,2,50⟩
theorem aHM (p:aht):LI (atH p) 3 vd avW (ahr p.1):=λ_ d c K=>by kernel_rfl
theorem aRT (p:aht):D2 (atH p) aFQ (lf amG) λb=>atG p.2 b.1.1 b.2.1 b.b b.1.2:=λb=>by kernel_rfl
abbrev atI:aht:=(nd,ahs)
theorem aRU [ax]:SC (aFS Xj):=sc (Sound.nil 1 [.i .i64]<|kS (k:=atH atI) (.c aju (.nil _)) [3] [] ⟨kL (aHM atI),trivial⟩ trivial (aRT atI))
def avX:=qa (pl yV nil)
def acU:=qe ax2
abbrev Vo:=acU.B
abbrev ahu:=Int->Int->Option Vo
def ahv (g:ahu):Ct:=(125,FC avX (lf acU) (λb=>g b.1 b.2))
def GH (x0:Int)(x1:Int):Pg Vo:=let y0:=wI (wI (Int.tdiv (wI (x1*wI (x1-1))) 2)+x0);ae (decide (x0>=0)) (ae (decide (x0<x1)) (ret (y0,decide (x1<24))) (ret (y0,false))) (ret (y0,false))
def jD:=λx0 x1=>(GH x0 x1).val
theorem aLg:D0 [] 125 avX (lf acU) λb=>GH b.1 b.2:=λb=>by kernel_rfl
theorem avY [ax]:SC (ahv jD):=s0 (.nil _) aLg
def aOg:=qa (pl (c Ae yV) nil)
def ay1:=qe Ho
abbrev aOh:=ay1.B
abbrev Xk:=NI->NI->Int->Int->Option aOh
def avZ (g:Xk):Ct:=(71,FC aOg (lf ay1) (λb=>g b.1.1 b.1.2 b.2.1 b.b))
def av0 (oX:ahu)(x0:Nat->Int)(x1:Nat->Int)(x2:Int)(x3:Int):Pg aOh:=ae (x2==x3) (ae (decide (x2>=0)) (ae (decide (x2<24)) (ret 1073741824) (opt (oX x2 x3) λd=>ae (!d.2) (ret 0) (ae (aX d.1 276) (ae (wl (0+wt d.1*1+1) 276) (ret (x0 (wt d.1))) no) no))) (opt (oX x2 x3) λd=>ae (!d.2) (ret 0) (ae (aX d.1 276) (ae (wl (0+wt d.1*1+1) 276) (ret (x0 (wt d.1))) no) no))) (opt (oX x2 x3) λd=>ae (!d.2) (ret 0) (ae (aX d.1 276) (ae (wl (0+wt d.1*1+1) 276) (ret (x0 (wt d.1))) no) no))
def Fb:=λx0 x1 x2 x3=>(av0 jD x0 x1 x2 x3).val
theorem aYD:∀oX,D0 [ahv oX] 71 aOg (lf ay1) λb=>av0 oX b.1.1 b.1.2 b.2.1 b.b:=λ_ b=>by kernel_rfl
theorem aFT [ax]:SC (avZ Fb):=s0 (.c avY (.nil _)) (aYD jD)
def aFU:=qa (pl (c Ae EV) nil)
def amH:=qe (res (pl Ae (pu nil nil)))
abbrev aFV:=amH.B
abbrev Xl:=NI->NI->Int->Int->Int->Option aFV
def atJ (g:Xl):Ct:=(217,FC aFU (lf amH) (λb=>g b.1.1 b.1.2 b.2.1 b.b.1 b.b.2))
def ahw (oX:ahu)(x0:Nat->Int)(x1:Nat->Int)(x2:Int)(x3:Int)(x4:Int):Pg aFV:=opt (oX x2 x3) λd=>let y0:=0+wt d.1*1+1;ae d.2 (ae (aX d.1 276) (ae (wl y0 276&&wl y0 300) (ret (λj=>bif ww j (wt d.1) then x4 else x0 j,x1)) no) no) (ret (x0,x1))
def zd:=λx0 x1 x2 x3 x4=>(ahw jD x0 x1 x2 x3 x4).val
theorem aRV:∀oX,D0 [ahv oX] 217 aFU (lf amH) λb=>ahw oX b.1.1 b.1.2 b.2.1 b.b.1 b.b.2:=λ_ b=>by kernel_rfl
theorem aFW [ax]:SC (atJ zd):=s0 (.c avY (.nil _)) (aRV jD)
def ajv:=qa (pu nil nil)
def OT:=qe (res (pl (aa aEa) (pu nil nil)))
abbrev Da:=OT.B
abbrev Db:=Option Da
def Tu (g:Db):Ct:=(213,FC ajv (lf OT) (λ_=>g))
def iA:=qs (st (pr (cu (app 0 576) (cu Q7 (us 1 aP2))) (pl (c mi (cl mi nil)) nil)))
def aaP:=qs (st (pr (cu (app 0 576) (cu Q7 (us 1 aKc))) (pl (c mi (cl mi nil)) nil)))
abbrev tl:=aaP.B
def aaQ {ρ:Type}:=@ef tl ((.ex 0)) aaP ρ
def Es (d:iA.B):PL iA tl:=let y0:=wt d.1;let y1:=aX d.1 24;let y2:=decide (d.1<24);let y3:=y0*24+y0;ae y2 (ae y1 (ae y1 (ae (true&&wl (0+y3*1+1) 576) (ret (ws (wI (d.1+1),d.2.1,λj=>bif ww j y3 then 1073741824 else d.2.2 j))) no) no) no) (ret (wr ((d.1,y2),d.2)))
def Et:=bC (Es) 2000
def Jh (ew:LT iA tl):Pg Da:=opt (ew (0,λx=>0,λx=>0)) λd=>ret d.2.2
def nh:Option Da:=(Jh Et).val
abbrev Ji:=(LT iA tl)
def Tv (p:Ji):KK:=⟨[],⟨[⟨3,(2::rg 4 8 []),[]⟩],[fV 3 0 iA aaQ p],[],[],(some ⟨0,(rg 1 11 []),[]⟩)⟩,0,213⟩
theorem atK (p:Ji):LI (Tv p) 3 iA aaQ (Es):=λ_ d c K=>by kernel_rfl
theorem aCP (p:Ji):D2 (Tv p) ajv (lf OT) λb=>Jh p:=λb=>by kernel_rfl
abbrev Tw:Ji:=Et
theorem ajw [ax]:SC (Tu nh):=sc (kS (k:=Tv Tw) (.nil _) [3] [] ⟨kL (atK Tw),trivial⟩ trivial (aCP Tw))
def av1:=qa (pr (cu aP (c (aa abM) Hq)) bH)
def acV:=qe ax4
abbrev av2:=acV.B
abbrev GI:=NI->Int->Int->Int->Bool->Option av2
def Md (g:GI):Ct:=(124,FC av1 (lf acV) (λb=>g b.1.1 b.1.2.1 b.1.b.1 b.1.b.2 b.2))
def pH:=qs (st (pr (cu aP (us 3 (cu aIK (cu Z9 (cu ald (cu aSD (us 1 aPX))))))) (pl (c cD (c (so abM) (c yW aln))) cP)))
def amI:=qs (st (pr (cu aP (us 3 (cu aIK (cu Z9 (cu ald (cu aSD (us 1 (c ai aPV)))))))) (pl (c cD (c (so abM) (c yW aln))) cP)))
abbrev Fc:=amI.B
def amJ {ρ:Type}:=@ef Fc ((.ex 0)) amI ρ
def Xm (bh:eM)(d:pH.B):PL pH Fc:=let n2:=d.2.2.1;let n1:=d.2.2.2;let y0:=wI (3*d.1);let y1:=wI (d.1+1);let y2:=wt y0;let y3:=wI (y0+3);let y4:=wt y3;let y5:=decide (d.1<3);let y6:=y4-y2;ae y5 (ae (KG y3 9) (ae (KG y0 y4) (ae (ww y6 y6) (opt (bh 30 y6 3 d.2.1 (λj=>n2 (y2+j)) (cr n1.1.1 [n1.1.2.2,n1.1.2.1,n1.1.1]) false false) λaj=>ae (aX d.1 3) (ae (d.1==2) (ret (ws (y1,aj.2,n2,n1.1,n1.2.1,n1.2.2.1,aj.1))) (ae (d.1==1) (ret (ws (y1,aj.2,n2,n1.1,n1.2.1,aj.1,n1.2.2.2))) (ret (ws (y1,aj.2,n2,n1.1,aj.1,n1.2.2))))) no) no) no) no) (ret (wr ((d.1,y5),d.2)))
def Xn:=bC (Xm bz) 2000
def ahx (ew:LT pH Fc)(x0:Nat->Int)(x1:Int)(x2:Int)(x3:Int)(x4:Bool):Pg av2:=opt (ew (0,x4,x0,(x1,x2,x3),0,0,0)) λd=>ret (d.2.2.2.2,d.2.1)
def oY:=λx0 x1 x2 x3 x4=>(ahx Xn x0 x1 x2 x3 x4).val
abbrev Vp:=eM×(LT pH Fc)
def ahy (p:Vp):KK:=⟨[mW p.1],⟨[⟨3,(1::2::3::8::rg 10 15 []),[]⟩],[fV 3 1 pH amJ p.2],[0],[],(some ⟨0,(rg 0 6 (rg 7 18 [])),[]⟩)⟩,1,124⟩
theorem aCQ (p:Vp):LI (ahy p) 3 pH amJ (Xm p.1):=λ_ d c K=>by kernel_rfl
theorem aLh (p:Vp):D2 (ahy p) av1 (lf acV) λb=>ahx p.2 b.1.1 b.1.2.1 b.1.b.1 b.1.b.2 b.2:=λb=>by kernel_rfl
abbrev ahz:Vp:=(bz,Xn)
theorem Vq [ax]:SC (Md oY):=sc (kS (k:=ahy ahz) (.c oQ (.nil _)) [3] [] ⟨kL (aCQ ahz),trivial⟩ trivial (aLh ahz))
def aA5:=qa (pr (cu aP (c (aa abM) Hq)) bH)
def ahA:=qe ax4
abbrev aA6:=ahA.B
abbrev Fe:=NI->Int->Int->Int->Bool->Option aA6
def aaR (g:Fe):Ct:=(121,FC aA5 (lf ahA) (λb=>g b.1.1 b.1.2.1 b.1.b.1 b.1.b.2 b.2))
def sx:=qs (st (pr (cu aP (us 3 (cu aIK (cu Z9 (cu ald (cu aSD (us 1 aVT))))))) (pl (c cD (c (so abM) (c yW aln))) cP)))
def arz:=qs (st (pr (cu aP (us 3 (cu aIK (cu Z9 (cu ald (cu aSD (us 1 aV6))))))) (pl (c cD (c (so abM) (c yW aln))) cP)))
abbrev Is:=arz.B
def arA {ρ:Type}:=@ef Is ((.ex 0)) arz ρ
def acW (bh:eM)(d:sx.B):PL sx Is:=let n1:=d.2.2;let n3:=n1.2.2;let n2:=n1.2.1;let y0:=wI (6+d.1);let y1:=wI (d.1+1);let y2:=wI (3+d.1);let y3:=decide (d.1<3);ae y3 (ae (aX d.1 9) (ae (aX y2 9) (ae (aX y0 9) (opt (bh 30 3 3 d.2.1 (cr (n1.1 (wt d.1)) [n1.1 (wt y0),n1.1 (wt y2),n1.1 (wt d.1)]) (cr n2.1 [n2.2.2,n2.2.1,n2.1]) true false) λaj=>ae (aX d.1 3) (ae (d.1==2) (ret (ws (y1,aj.2,n1.1,n2,n3.1,n3.2.1,aj.1))) (ae (d.1==1) (ret (ws (y1,aj.2,n1.1,n2,n3.1,aj.1,n3.2.2))) (ret (ws (y1,aj.2,n1.1,n2,aj.1,n3.2))))) no) no) no) no) (ret (wr ((d.1,y3),d.2)))
def acX:=bC (acW bz) 2000
def amK (ew:LT sx Is)(x0:Nat->Int)(x1:Int)(x2:Int)(x3:Int)(x4:Bool):Pg aA6:=opt (ew (0,x4,x0,(x1,x2,x3),0,0,0)) λd=>ret (d.2.2.2.2,d.2.1)
def xV:=λx0 x1 x2 x3 x4=>(amK acX x0 x1 x2 x3 x4).val
abbrev aaS:=eM×(LT sx Is)
def amL (p:aaS):KK:=⟨[mW p.1],⟨[⟨3,(1::2::3::8::rg 10 21 []),[]⟩],[fV 3 1 sx arA p.2],[0],[],(some ⟨0,(rg 0 6 (rg 7 24 [])),[]⟩)⟩,1,121⟩
theorem aFX (p:aaS):LI (amL p) 3 sx arA (acW p.1):=λ_ d c K=>by kernel_rfl
theorem aOi (p:aaS):D2 (amL p) aA5 (lf ahA) λb=>amK p.2 b.1.1 b.1.2.1 b.1.b.1 b.1.b.2 b.2:=λb=>by kernel_rfl
abbrev amM:aaS:=(bz,acX)
theorem amN [ax]:SC (aaR xV):=sc (kS (k:=amL amM) (.c oQ (.nil _)) [3] [] ⟨kL (aFX amM),trivial⟩ trivial (aOi amM))
def av3:=qa (pl (cl (aa rW) nil) nil)
def acY:=qe DQ
abbrev av4:=acY.B
abbrev av5:=Int->Int->Bool->Bool->Option av4
def av6 (g:av5):Ct:=(176,FC av3 (lf acY) (λb=>g b.1 b.2.1 b.b.1 b.b.2))
def ahB (x0:Int)(x1:Int)(x2:Bool)(x3:Bool):Pg av4:=let y0:=x0==0;let y1:=x0==2;ae y0 (ae y0 (ae (x1==0) (ae (!x2) (ret !x3) (ret false)) (ret false)) (ae y1 (ae y1 (ae (decide (x1>=1)) (ae (decide (x1<=3)) (ae x2 (ret true) (ret y1)) (ret false)) (ret false)) (ret false)) (ae (x0==3) (ae (decide (x1>=1)) (ae (decide (x1<=3)) (ae x2 (ret true) (ret y1)) (ret false)) (ret false)) (ret false)))) (ae (x0==1) (ae (x1==0) (ae (!x2) (ret !x3) (ret false)) (ret false)) (ae y1 (ae y1 (ae (decide (x1>=1)) (ae (decide (x1<=3)) (ae x2 (ret true) (ret y1)) (ret false)) (ret false)) (ret false)) (ae (x0==3) (ae (decide (x1>=1)) (ae (decide (x1<=3)) (ae x2 (ret true) (ret y1)) (ret false)) (ret false)) (ret false))))
def Me:=λx0 x1 x2 x3=>(ahB x0 x1 x2 x3).val
theorem aLi:D0 [] 176 av3 (lf acY) λb=>ahB b.1 b.2.1 b.b.1 b.b.2:=λb=>by kernel_rfl
theorem aLj [ax]:SC (av6 Me):=s0 (.nil _) aLi
def av7:=qa (pl (c ai aQP) nil)
def acZ:=qe Ho
abbrev av8:=acZ.B
abbrev av9:=Int->Bool->Bool->Bool->Bool->Bool->Bool->Bool->Bool->Int->Int->Int->Option av8
def awa (g:av9):Ct:=(177,FC av7 (lf acZ) (λb=>g b.1 b.2.1 b.b.1 b.b.2.1.1 b.b.2.1.2.1 b.b.2.1.b.1 b.b.2.1.b.2.1 b.b.2.1.c.1 b.b.2.1.c.2 b.c.1 b.c.2.1 b.c.b))
def ahC (x0:Int)(x1:Bool)(x2:Bool)(x3:Bool)(x4:Bool)(x5:Bool)(x6:Bool)(x7:Bool)(x8:Bool)(x9:Int)(gx:Int)(gy:Int):Pg av8:=let y0:=x0==0;let y1:=x0==1;ae x3 (ae y0 (ae x1 (ret 1) (ae y0 (ret x0) (ae y1 (ae (!x2) (ret x0) (ret 3)) (ret 3)))) (ae y0 (ret x0) (ae y1 (ae (!x2) (ret x0) (ret 3)) (ret 3)))) (ae y0 (ae x1 (ret 1) (ae y0 (ret x0) (ae y1 (ae (!x2) (ret x0) (ae x8 (ret 3) (ret 2))) (ae x8 (ret 3) (ret 2))))) (ae y0 (ret x0) (ae y1 (ae (!x2) (ret x0) (ae x8 (ret 3) (ret 2))) (ae x8 (ret 3) (ret 2)))))
def Mf:=λx0 x1 x2 x3 x4 x5 x6 x7 x8 x9 gx gy=>(ahC x0 x1 x2 x3 x4 x5 x6 x7 x8 x9 gx gy).val
theorem aLk:D0 [] 177 av7 (lf acZ) λb=>ahC b.1 b.2.1 b.b.1 b.b.2.1.1 b.b.2.1.2.1 b.b.2.1.b.1 b.b.2.1.b.2.1 b.b.2.1.c.1 b.b.2.1.c.2 b.c.1 b.c.2.1 b.c.b:=λb=>by kernel_rfl
theorem aLl [ax]:SC (awa Mf):=s0 (.nil _) aLk
def amO:=qa (pl gW nil)
def Tx:=qe Ho
abbrev amP:=Tx.B
abbrev Xo:=Int->Option amP
def amQ (g:Xo):Ct:=(239,FC amO (lf Tx) (λb=>g b))
def Ff (x0:Int):Pg amP:=ae (x0==1) (ret 1) (ae (x0==2) (ret 0) (ret 2))
def Ay:=λx0=>(Ff x0).val
theorem aFY:D0 [] 239 amO (lf Tx) λb=>Ff b:=λb=>by kernel_rfl
theorem aFZ [ax]:SC (amQ Ay):=s0 (.nil _) aFY
def amR:=qa (pl (c ai aQP) nil)
def Ty:=qe ax2
abbrev amS:=Ty.B
abbrev amT:=Int->Bool->Bool->Bool->Bool->Bool->Bool->Bool->Bool->Int->Int->Int->Option amS
def amU (g:amT):Ct:=(178,FC amR (lf Ty) (λb=>g b.1 b.2.1 b.b.1 b.b.2.1.1 b.b.2.1.2.1 b.b.2.1.b.1 b.b.2.1.b.2.1 b.b.2.1.c.1 b.b.2.1.c.2 b.c.1 b.c.2.1 b.c.b))
def mw:=qs (st (pr (c ai (us 1 (xs 1 (cu (app 0 11) (us 2 (xs 1 (us 3 (cu aWX (cu (ac aP5) aJ6))))))))) (pl (c aQG (cl (so (cl gi (cu (gc axU) (cu aP9 aQg)))) nil)) nil)))
def Xp:=qs (st (pl (us 4 (cl ai (cu Od aVL))) (pu nil nil)))
def Xq:=qs (st (pr (c ai (us 1 (xs 1 (cu (app 0 11) (us 2 (xs 1 (us 3 (cu aWX (cu (ac aP5) aP8))))))))) (pl (c aQG (cl (so (cl gi (cu (gc axU) (cu aP9 aQg)))) nil)) nil)))
abbrev Az:=Xp.B⊕Xq.B
def aeH {ρ:Type}(x:Az)(K:AX->St->Option ρ):Option ρ:=(Sum.elim (λd=>K .ret (Xp.em d)) (λd=>K (.ex 0) (Xq.em d))) x
def OU (Mg:Xo)(d:mw.B):PL mw Az:=let n6:=d.2.2;let n5:=d.2.1.2.2;let n3:=d.1.1;let n2:=d.1.2;let n1:=n5.2;let n4:=n1.2.2;let n7:=n4.2.2.1;let y0:=decide (n2<4);ae y0 (ae (aX n2 4) (ae (n2==3) (opt (Mg 3) λaj=>ae (aX aj 6) (ae (aj==5) (ae n7 (ret (wr (ws 3))) (ret (ws ((n3,wI (n2+1)),d.2)))) (ae (aj==4) (ae n4.2.1 (ret (wr (ws 3))) (ret (ws ((n3,wI (n2+1)),d.2)))) (ae (aj==3) (ae n4.1 (ret (wr (ws 3))) (ret (ws ((n3,wI (n2+1)),d.2)))) (ae (aj==2) (ae n1.2.1 (ret (wr (ws 3))) (ret (ws ((n3,wI (n2+1)),d.2)))) (ae (aj==1) (ae n1.1 (ret (wr (ws 3))) (ret (ws ((n3,wI (n2+1)),d.2)))) (ae n5.1 (ret (wr (ws 3))) (ret (ws ((n3,wI (n2+1)),d.2))))))))) no) (ae (n2==2) (opt (Mg 2) λaj=>ae (aX aj 6) (ae (aj==5) (ae n7 (ret (wr (ws 2))) (ret (ws ((n3,wI (n2+1)),d.2)))) (ae (aj==4) (ae n4.2.1 (ret (wr (ws 2))) (ret (ws ((n3,wI (n2+1)),d.2)))) (ae (aj==3) (ae n4.1 (ret (wr (ws 2))) (ret (ws ((n3,wI (n2+1)),d.2)))) (ae (aj==2) (ae n1.2.1 (ret (wr (ws 2))) (ret (ws ((n3,wI (n2+1)),d.2)))) (ae (aj==1) (ae n1.1 (ret (wr (ws 2))) (ret (ws ((n3,wI (n2+1)),d.2)))) (ae n5.1 (ret (wr (ws 2))) (ret (ws ((n3,wI (n2+1)),d.2))))))))) no) (ae (n2==1) (opt (Mg 1) λaj=>ae (aX aj 6) (ae (aj==5) (ae n7 (ret (wr (ws 1))) (ret (ws ((n3,wI (n2+1)),d.2)))) (ae (aj==4) (ae n4.2.1 (ret (wr (ws 1))) (ret (ws ((n3,wI (n2+1)),d.2)))) (ae (aj==3) (ae n4.1 (ret (wr (ws 1))) (ret (ws ((n3,wI (n2+1)),d.2)))) (ae (aj==2) (ae n1.2.1 (ret (wr (ws 1))) (ret (ws ((n3,wI (n2+1)),d.2)))) (ae (aj==1) (ae n1.1 (ret (wr (ws 1))) (ret (ws ((n3,wI (n2+1)),d.2)))) (ae n5.1 (ret (wr (ws 1))) (ret (ws ((n3,wI (n2+1)),d.2))))))))) no) (ae (decide (n6>=1)) (ae (decide (n6<=3)) (opt (Mg n6) λaj=>ae (aX aj 6) (ae (aj==5) (ae n7 (ret (wr (ws n6))) (ret (ws ((n3,wI (n2+1)),d.2)))) (ae (aj==4) (ae n4.2.1 (ret (wr (ws n6))) (ret (ws ((n3,wI (n2+1)),d.2)))) (ae (aj==3) (ae n4.1 (ret (wr (ws n6))) (ret (ws ((n3,wI (n2+1)),d.2)))) (ae (aj==2) (ae n1.2.1 (ret (wr (ws n6))) (ret (ws ((n3,wI (n2+1)),d.2)))) (ae (aj==1) (ae n1.1 (ret (wr (ws n6))) (ret (ws ((n3,wI (n2+1)),d.2)))) (ae n5.1 (ret (wr (ws n6))) (ret (ws ((n3,wI (n2+1)),d.2))))))))) no) (ret (ws ((n3,wI (n2+1)),d.2)))) (ret (ws ((n3,wI (n2+1)),d.2))))))) no) (ret (wr (wr ((n3,n2,y0),d.2))))
def OV:=bC (OU Ay) 2000
def Xr (ew:LT mw Az)(x0:Int)(x1:Bool)(x2:Bool)(x3:Bool)(x4:Bool)(x5:Bool)(x6:Bool)(x7:Bool)(x8:Bool)(x9:Int)(gx:Int)(gy:Int):Pg amS:=opt (ew ((x0,0),(x1,x2,x3,x4,x5,x6,x7,x8,x9,gx,gy),gy)) λx=>sum x (λd=>ret (d,true)) λd=>ret (if 1>d.1.1 then 1 else d.1.1,false)
def Fg:=λx0 x1 x2 x3 x4 x5 x6 x7 x8 x9 gx gy=>(Xr OV x0 x1 x2 x3 x4 x5 x6 x7 x8 x9 gx gy).val
abbrev Mh:=Xo×(LT mw Az)
def Xs (p:Mh):KK:=⟨[amQ p.1],⟨[⟨2,(1::4::5::7::8::9::rg 13 6 (21::22::rg 28 5 (19::20::rg 23 5 []))),[]⟩],[fV 2 0 mw aeH p.2],[],[],(some ⟨0,(rg 0 4 (rg 6 27 [])),[]⟩)⟩,0,178⟩
theorem awb (p:Mh):LI (Xs p) 2 mw aeH (OU p.1):=λ_ d c K=>by kernel_rfl
theorem aF0 (p:Mh):D2 (Xs p) amR (lf Ty) λb=>Xr p.2 b.1 b.2.1 b.b.1 b.b.2.1.1 b.b.2.1.2.1 b.b.2.1.b.1 b.b.2.1.b.2.1 b.b.2.1.c.1 b.b.2.1.c.2 b.c.1 b.c.2.1 b.c.b:=λb=>by kernel_rfl
abbrev Xt:Mh:=(Ay,OV)
theorem aF1 [ax]:SC (amU Fg):=sc (kS (k:=Xs Xt) (.c aFZ (.nil _)) [2] [] ⟨kL (awb Xt),trivial⟩ trivial (aF0 Xt))
def Mi:=qa (pl (c (aa rW) aQP) nil)
def aHN:=qe (res (pl (ry (c (ra rW) (cl (ra (c gi (c gi (c gb aKd)))) nil))) (pu nil nil)))
abbrev ahD:=(rV×Int×Int)
def awc:ahD->T:=λd=>lf aHN (d.1,d.1.1,d.1.2.1,d.1.b.1,d.1.b.2,d.2)
abbrev ahE:=Mi.B->Option ahD
def awd (g:ahE):Ct:=(111,FC Mi awc g)
def ahF (Vr:av5)(Mj:av9)(Fh:amT)(x:Mi.B):Pg ahD:=let n8:=x.2.2.1;let n7:=x.1.1;let n4:=x.1.2.1;let n1:=x.2.2.2;let n9:=n1.1.2.1;let n6:=n1.2.1;let n3:=n1.2.2;let n2:=n1.1.2.2;let n5:=n2.2.2;let y0:=decide (n6>=0);opt (Vr n7 n4 x.1.2.2.1 x.1.2.2.2) λd=>ae (!d) (opt (Mj 0 x.2.1 n8 n1.1.1 n9 n2.1 n2.2.1 n5.1 n5.2 n6 n3.1 n3.2) λd=>ae (decide (d>=2)) (opt (Fh 0 x.2.1 n8 n1.1.1 n9 n2.1 n2.2.1 n5.1 n5.2 n6 n3.1 n3.2) λaj=>ae (d==3) (ret ((d,aj.1,true,!aj.2),0,0)) (ae y0 (ret ((d,aj.1,decide (n6<=n3.1),!aj.2),0,0)) (ret ((d,aj.1,false,!aj.2),0,0)))) (ret ((d,0,false,false),0,0))) (opt (Mj n7 x.2.1 n8 n1.1.1 n9 n2.1 n2.2.1 n5.1 n5.2 n6 n3.1 n3.2) λd=>ae (decide (d>=2)) (opt (Fh n4 x.2.1 n8 n1.1.1 n9 n2.1 n2.2.1 n5.1 n5.2 n6 n3.1 n3.2) λaj=>ae (d==3) (ret ((d,aj.1,true,!aj.2),n7,n4)) (ae y0 (ret ((d,aj.1,decide (n6<=n3.1),!aj.2),n7,n4)) (ret ((d,aj.1,false,!aj.2),n7,n4)))) (ret ((d,0,false,false),n7,n4)))
def Mk:=λx=>(ahF Me Mf Fg x).val
theorem aLm:∀Vr Mj Fh,D0 [av6 Vr,awa Mj,amU Fh] 111 Mi awc λb=>ahF Vr Mj Fh b:=λ_ _ _ b=>by kernel_rfl
theorem aLn [ax]:SC (awd Mk):=s0 (.c aLj (.c aLl (.c aF1 (.nil _)))) (aLm Me Mf Fg)
def aF2:=qa (dp (cu aP aJ8) λa=>(c wM (cl (cl (gs a.1 as1) nil) nil)))
def amV:=qe (res (pr af9 (pl Oe nil)))
abbrev aF3:=amV.B
abbrev BM:=Nat->Bool->NI->NI->NI->Bool->Option aF3
def JU (g:BM):Ct:=(153,uW 1 [.i .i64,.i .i64,.i .i64] (FC aF2 (lf amV) (λb=>g b.1.1 b.2.1 b.b.1 b.b.2.1 b.c b.1.2)))
def vf:=qs (st (dp (cu aP (c aD8 (us 2 (cu Z9 (cu ald (c ai (c aWP (us 2 (c ai (us 2 (c aD8 (c ai (cl ai (us 17 nil)))))))))))))) λa=>(pl (c cD (c (so (cl (gs a.1.1 as1) nil)) (cu (so as6) (c yW (cl (so (cl (gs a.b.1 nC) nil)) nil))))) cP)))
def aLo:=qs (st (pr (cu aP (c aD8 (us 2 (cu Z9 (cu ald (c ai (c aWP (us 2 (c ai (us 2 (c aD8 (c ai (c ai (cl ab (us 16 nil))))))))))))))) (pl (c cD (c aEf (cu (so as6) (c yW alh)))) cP)))
abbrev Ml:=(((Nat×Bool)×Int×Nat×Int×(Nat×Bool)×Int×Int×Bool)×Bool×(NI×NI×NI)×ma×NI)
def awe {ρ:Type}(x:Ml)(K:AX->St->Option ρ):Option ρ:=(λd=>K (.ex 2) (aLo.em (d.1,d.2.1,(d.1.1.1,d.b.1),d.b.2.1,d.1.b.1,d.c))) x
def ahG (d:vf.B):PL vf Ml:=let n5:=d.1.2.1;let n3:=d.2.2;let n2:=d.1.2.2;let n4:=n2.2.2.2;let y0:=n2.1+1;let n1:=(d.1.1,n5,y0,n2.2.1,n2.2.2.1,n4.1,wI (n4.2+1));let y1:=wt n4.2;let y2:=wl (y0*8) 140737488355328;let y3:=decide (n4.2<n4.1);ae y3 (ae (aX n4.2 n2.2.2.1.1) (ae (aX n5 3) (ae (n5==2) (ae y2 (ret (ws (n1,d.2.1,n3.1,n3.2.1,λj=>bif ww j n2.1 then n3.1.2.2 y1 else n3.2.2 j))) no) (ae (n5==1) (ae y2 (ret (ws (n1,d.2.1,n3.1,n3.2.1,λj=>bif ww j n2.1 then n3.1.2.1 y1 else n3.2.2 j))) no) (ae y2 (ret (ws (n1,d.2.1,n3.1,n3.2.1,λj=>bif ww j n2.1 then n3.1.1 y1 else n3.2.2 j))) no))) no) no) (ret (wr ((d.1.1,n5,n2.1,n2.2.1,n2.2.2.1,n4.1,n4.2,y3),d.2)))
def ahH:=bC (ahG) 2000
def vg:=qs (st (dp (cu aP (c aD8 (us 2 (cu Z9 (cu ald (us 4 aVU)))))) λa=>(pl (c cD (c (so (cl (gs a.1.1 as1) nil)) aln)) cP)))
def aLp:=qs (st (pr (cu aP (c aD8 (us 2 (cu Z9 (cu ald (us 4 (c ai aPW))))))) (pl (c cD (c aEf aln)) cP)))
abbrev Mm:=(((Nat×Bool)×Int×Bool)×Bool×(NI×NI×NI)×Int×Int×Int)
def awf {ρ:Type}(x:Mm)(K:AX->St->Option ρ):Option ρ:=(λd=>K (.ex 0) (aLp.em (d.1,d.2.1,(d.1.1.1,d.b.1),d.b.2))) x
def ahI (cv:fu)(qx:LT vf Ml)(d:vg.B):PL vg Mm:=let n3:=d.1.1;let y0:=decide (d.1.2<3);ae y0 (ae (ww n3.1 n3.1) (ae true (opt (qx ((n3,d.1.2,0,d.1.2,n3,wn n3.1,0),d.2.1,d.2.2.1,d.2.2.2,λx=>0)) λd=>let n2:=d.2.2;let n4:=n2.2.1;let n1:=d.1.2;ae (ww n1.2.1 n1.2.1) (opt (cv n1.2.1 d.2.1 n2.2.2 true) λaj=>ae (aX n1.1 3) (ae (n1.1==2) (ret (ws ((d.1.1,wI (n1.2.2.1+1)),aj.2,n2.1,n4.1,n4.2.1,aj.1))) (ae (n1.1==1) (ret (ws ((d.1.1,wI (n1.2.2.1+1)),aj.2,n2.1,n4.1,aj.1,n4.2.2))) (ret (ws ((d.1.1,wI (n1.2.2.1+1)),aj.2,n2.1,aj.1,n4.2))))) no) no) no) no) (ret (wr ((n3,d.1.2,y0),d.2)))
def ahJ:=bC (ahI cU ahH) 2000
def atL (ew:LT vg Mm)(x0:Nat)(x1:Bool)(x2:Nat->Int)(x3:Nat->Int)(x4:Nat->Int)(w0:Bool):Pg aF3:=ae (ww x0 x0) (opt (ew (((x0,w0),0),x1,(x2,x3,x4),0,0,0)) λd=>ret (d.2.2.2,d.2.1)) no
def kg:=λx0 x1 x2 x3 x4 w0=>(atL ahJ x0 x1 x2 x3 x4 w0).val
abbrev Xu:=fu×(LT vf Ml)×(LT vg Mm)
def ahK (p:Xu):KK:=⟨[oP p.1],⟨[⟨3,(2::3::rg 6 4 (rg 11 22 [])),[]⟩,⟨7,(2::3::8::9::11::12::rg 16 17 []),[(7,[.i .i64])]⟩],[fV 7 2 vf awe p.2.1,fV 3 2 vg awf p.b],[0],[],(some ⟨0,(rg 0 4 (rg 5 28 [])),[]⟩)⟩,2,153⟩
theorem aHO (p:Xu):LI (ahK p) 7 vf awe (ahG):=λ_ d c K=>by kernel_rfl
theorem aHP (p:Xu):LI (ahK p) 3 vg awf (ahI p.1 p.2.1):=λ_ d c K=>by kernel_rfl
theorem aRW (p:Xu):D2 (ahK p) aF2 (lf amV) λb=>atL p.b b.1.1 b.2.1 b.b.1 b.b.2.1 b.c b.1.2:=λb=>by kernel_rfl
abbrev ahL:Xu:=(cU,ahH,ahJ)
theorem OW [ax]:SC (JU kg):=sc (Sound.nil 1 [.i .i64,.i .i64,.i .i64]<|kS (k:=ahK ahL) (.c rG (.nil _)) [3,7] [] ⟨kL (aHP ahL),⟨kL (aHO ahL),trivial⟩⟩ trivial (aRW ahL))
def awg:=qa (pr (cu aP as5) bH)
def ac0:=qe ax5
abbrev awh:=ac0.B
abbrev iO:=Int->Int->Int->Int->Bool->Option awh
def ni (g:iO):Ct:=(86,FC awg (lf ac0) (λb=>g b.1.1 b.1.2.1 b.1.b.1 b.1.b.2 b.2))
def pI:=qs (st (pr (cu aP (us 2 (cu aqr (cu az5 (c ai (us 8 (c ai (us 4 aJ5)))))))) (pl (c cD (cl wQ (cu alm nil))) cP)))
def amW:=qs (st (pr (cu aP (us 2 (cu aqr (cu az5 (c ai (us 8 (c ai (us 4 aKa)))))))) (pl (c cD (cl wQ (cu alm nil))) cP)))
abbrev Fi:=amW.B
def amX {ρ:Type}:=@ef Fi ((.ex 2)) amW ρ
def Xv (aD:cL)(d:pI.B):PL pI Fi:=let n6:=d.1.1;let n4:=d.1.2.2;let n2:=d.2.2;let n5:=n2.2.1;let n3:=n2.2.2;let n1:=(n6,d.1.2.1,wI (n4+1));let y0:=aX n4 4;let y1:=n4==2;let y2:=n4==1;let y3:=n4==3;let y4:=decide (n4<4);ae y4 (ae y0 (ae y3 (opt (aD n3.2 n6 30 d.2.1) λaj=>ae y0 (ae y3 (ret (ws (n1,aj.2,n2.1,n5,n3.1,aj.1))) (ae y1 (ret (ws (n1,aj.2,n2.1,n5,aj.1,n3.2))) (ae y2 (ret (ws (n1,aj.2,n2.1,aj.1,n3))) (ret (ws (n1,aj.2,aj.1,n2.2)))))) no) (ae y1 (opt (aD n3.1 n6 30 d.2.1) λaj=>ae y0 (ae y3 (ret (ws (n1,aj.2,n2.1,n5,n3.1,aj.1))) (ae y1 (ret (ws (n1,aj.2,n2.1,n5,aj.1,n3.2))) (ae y2 (ret (ws (n1,aj.2,n2.1,aj.1,n3))) (ret (ws (n1,aj.2,aj.1,n2.2)))))) no) (ae y2 (opt (aD n5 n6 30 d.2.1) λaj=>ae y0 (ae y3 (ret (ws (n1,aj.2,n2.1,n5,n3.1,aj.1))) (ae y1 (ret (ws (n1,aj.2,n2.1,n5,aj.1,n3.2))) (ae y2 (ret (ws (n1,aj.2,n2.1,aj.1,n3))) (ret (ws (n1,aj.2,aj.1,n2.2)))))) no) (opt (aD n2.1 n6 30 d.2.1) λaj=>ae y0 (ae y3 (ret (ws (n1,aj.2,n2.1,n5,n3.1,aj.1))) (ae y1 (ret (ws (n1,aj.2,n2.1,n5,aj.1,n3.2))) (ae y2 (ret (ws (n1,aj.2,n2.1,aj.1,n3))) (ret (ws (n1,aj.2,aj.1,n2.2)))))) no)))) no) (ret (wr ((n6,d.1.2.1,n4,y4),d.2)))
def Xw:=bC (Xv bu) 2000
def pJ:=qs (st (pr (cu aP (us 2 (cu aqr (cu az5 (us 9 aPZ))))) (pl (c cD (cl wQ (cu alm nil))) cP)))
def amY:=qs (st (pr (cu aP (us 2 (cu aqr (cu az5 (us 9 aKb))))) (pl (c cD (cl wQ (cu alm nil))) cP)))
abbrev Fj:=amY.B
def amZ {ρ:Type}:=@ef Fj ((.ex 0)) amY ρ
def Xx (jT:yZ)(qx:LT pI Fi)(d:pJ.B):PL pJ Fj:=let n1:=d.2.2;let y0:=decide (d.1<2);ae y0 (opt (jT 4 d.2.1 (cr n1.1 [n1.2.2.2,n1.2.2.1,n1.2.1,n1.1]) false) λaj=>opt (qx ((aj.1,d.1,0),aj.2,n1)) λd=>ret (ws (wI (d.1.2.1+1),d.2))) (ret (wr ((d.1,y0),d.2)))
def Xy:=bC (Xx gB Xw) 2000
def ahM (pG:Rl)(iJ:Bh)(ew:LT pJ Fj)(x0:Int)(x1:Int)(x2:Int)(x3:Int)(x4:Bool):Pg awh:=opt (pG x0 x1 x2 x3 x4) λd=>ae (d.1.1==0&&(d.1.2.1==0&&(d.1.2.2.1==0&&(d.1.2.2.2==0&&true)))) (opt iJ λaj=>ret ((1073741824,0,0,0),d.2)) (opt (ew (0,d.2,d.1)) λd=>ret (d.2.2,d.2.1))
def dy:=λx0 x1 x2 x3 x4=>(ahM xT nF Xy x0 x1 x2 x3 x4).val
abbrev Mn:=Rl×Bh×yZ×cL×(LT pI Fi)×(LT pJ Fj)
def Vs (p:Mn):KK:=⟨[aaI p.1,KS p.2.1,Ip p.b.1,gA p.b.2.1],⟨[⟨5,(1::2::rg 5 9 (rg 15 18 [])),[]⟩,⟨8,(1::2::rg 6 8 (rg 15 4 (rg 20 13 []))),[]⟩],[fV 8 1 pI amX p.c.1,fV 5 1 pJ amZ p.c.2],[],[],(some ⟨0,(rg 0 4 (rg 5 28 [])),[]⟩)⟩,1,86⟩
theorem aCR (p:Mn):LI (Vs p) 8 pI amX (Xv p.b.2.1):=λ_ d c K=>by kernel_rfl
theorem aCS (p:Mn):LI (Vs p) 5 pJ amZ (Xx p.b.1 p.c.1):=λ_ d c K=>by kernel_rfl
theorem aLq (p:Mn):D2 (Vs p) awg (lf ac0) λb=>ahM p.1 p.2.1 p.c.2 b.1.1 b.1.2.1 b.1.b.1 b.1.b.2 b.2:=λb=>by kernel_rfl
abbrev Vt:Mn:=(xT,nF,gB,bu,Xw,Xy)
theorem oZ [ax]:SC (ni dy):=sc (kS (k:=Vs Vt) (.c amy (.c Rm (.c QD (.c iy (.nil _))))) [5,8] [] ⟨kL (aCS Vt),⟨kL (aCR Vt),trivial⟩⟩ trivial (aLq Vt))
def aeI:=qa (pr (cu aP (cl Ae (cu Q7 nil))) (c wM (cl aEa nil)))
def Mp:=qe (res (pu aVM (pr Oe (cl aV7 nil))))
abbrev OX:=Mp.B
abbrev OY:=NI->NI->Bool->NI->Option OX
def aeJ (g:OY):Ct:=(216,FC aeI (lf Mp) (λb=>g b.1.1 b.1.2 b.2.1 b.b))
def gF:=qs (st (pr (cu aP (us 1 (cu Q7 (us 1 (cu Z' (us 2 (cu aaa (c ai (cu aqs (us 3 (c ai (us 3 (c ai (cl ai (us 35 nil))))))))))))))) (pl (c cD (c mi (c iX (c Hp JC)))) cP)))
def Xz:=qs (st (pr (cu aP (us 1 (cu Q7 (us 1 (cu Z' (us 2 (cu aaa (c ai (cu aqs (us 3 (c ai (us 3 (c ai (c ai (cl ab (us 34 nil)))))))))))))))) (pl (c cD (c mi (c iX (c Hp JC)))) cP)))
abbrev qB:=Xz.B
def XA {ρ:Type}:=@ef qB ((.ex 2)) Xz ρ
def BN (am0:Xk)(d:gF.B):PL gF qB:=let n2:=d.2.2.2;let n1:=d.1.2.2;let y0:=wt n1.2;let y1:=decide (n1.2<n1.1);ae y1 (opt (am0 n2.1.1 n2.1.2 n1.2 d.1.1) λaj=>ae (aX n1.2 24) (ae (true&&wl (0+y0*1+1) 24) (ret (ws ((d.1.1,d.1.2.1,n1.1,wI (n1.2+1)),d.2.1,d.2.2.1,n2.1,n2.2.1,λj=>bif ww j y0 then aj else n2.2.2 j))) no) no) (ret (wr ((d.1.1,d.1.2.1,n1.1,n1.2,y1),d.2)))
def BO:=bC (BN Fb) 2000
def gG:=qs (st (pr (cu aP (us 1 (cu Q7 (us 1 (cu Z' (us 2 (cu aaa (c ai (cu aqs (us 3 (c ai (us 14 (cl ai (us 25 nil)))))))))))))) (pl (c cD (c mi (c iX (c Hp JC)))) cP)))
def XB:=qs (st (pr (cu aP (us 1 (cu Q7 (us 1 (cu Z' (us 2 (cu aaa (c ai (cu aqs (us 3 (c ai (us 14 (c ai (cl ab (us 24 nil))))))))))))))) (pl (c cD (c mi (c iX (c Hp JC)))) cP)))
abbrev qC:=XB.B
def XC {ρ:Type}:=@ef qC ((.ex 4)) XB ρ
def BP (bh:eM)(d:gG.B):PL gG qC:=let n2:=d.2.2;let n1:=d.1.2;let y0:=wt n1.2;let y1:=aX n1.2 24;let y2:=decide (n1.2<24);let y3:=y0*48+wt d.1.1;ae y2 (ae y1 (opt (bh 30 24 24 d.2.1 (λj=>n2.1 (0+y0*24+j)) n2.2.2.2 false false) λaj=>ae y1 (ae (aX d.1.1 48) (ae (true&&wl (0+y3*1+1) 1152) (ret (ws ((d.1.1,n1.1,wI (n1.2+1)),aj.2,n2.1,n2.2.1,λj=>bif ww j y3 then aj.1 else n2.2.2.1 j,n2.2.2.2))) no) no) no) no) (ret (wr ((d.1.1,n1.1,n1.2,y2),d.2)))
def BQ:=bC (BP bz) 2000
def gH:=qs (st (pr (us 7 (cu aVM (us 37 aP2))) (pl (c cD (c mi (cl Hp nil))) cP)))
def XD:=qs (st (pr (us 7 (cu aVM (us 37 aKc))) (pl (c cD (c mi (cl Hp nil))) cP)))
abbrev qD:=XD.B
def XE {ρ:Type}:=@ef qD ((.ex 6)) XD ρ
def BS (d:gH.B):PL gH qD:=let y0:=wI (24+d.1);let y1:=decide (d.1<24);let y2:=wt d.1*48+wt y0;ae y1 (ae (aX d.1 24) (ae (aX y0 48) (ae (true&&wl (0+y2*1+1) 1152) (ret (ws (wI (d.1+1),d.2.1,d.2.2.1,λj=>bif ww j y2 then 1073741824 else d.2.2.2 j))) no) no) no) (ret (wr ((d.1,y1),d.2)))
def BT:=bC (BS) 2000
def gI:=qs (st (pr (cu aP (us 1 (cu Q7 (us 1 (cu Z' (us 2 (cu aaa (us 5 (cl ai (us 40 nil)))))))))) (pl (c cD (c mi (c iX (cl Hp nil)))) cP)))
def XF:=qs (st (pr (cu aP (us 1 (cu Q7 (us 1 (cu Z' (us 2 (cu aaa (us 5 (c ai (cl ab (us 39 nil))))))))))) (pl (c cD (c mi (c iX (cl Hp nil)))) cP)))
abbrev qE:=XF.B
def XG {ρ:Type}:=@ef qE ((.ex 0)) XF ρ
def BU (qx:LT gF qB)(JV:LT gG qC)(d:gI.B):PL gI qE:=let y0:=decide (d.1<24);ae y0 (opt (qx ((d.1,d.1,wI (d.1+1),0),d.2.1,d.2.2.1,d.2.2.2.1,d.2.2.2.2,λx=>0)) λd=>opt (JV ((d.1.1,d.1.2.1,0),d.2)) λd=>ret (ws (wI (d.1.2.1+1),d.2.1,d.2.2.1,d.2.2.2.1,d.2.2.2.2.1))) (ret (wr ((d.1,y0),d.2)))
def BV:=bC (BU BO BQ) 2000
def GJ (l_3:LT gH qD)(ew:LT gI qE)(x0:Nat->Int)(x1:Nat->Int)(x2:Bool)(x3:Nat->Int):Pg OX:=opt (ew (0,x2,x3,(x0,x1),λx=>0)) λd=>opt (l_3 (0,d.2.1,d.2.2.1,d.2.2.2.2)) λd=>ret (d.2.1,d.2.2.2)
def qF:=λx0 x1 x2 x3=>(GJ BT BV x0 x1 x2 x3).val
abbrev qG:=Xk×eM×(LT gF qB)×(LT gG qC)×(LT gH qD)×(LT gI qE)
def vx (p:qG):KK:=⟨[avZ p.1,mW p.2.1],⟨[⟨3,(1::3::5::6::rg 8 5 (rg 14 40 [])),[]⟩,⟨7,(1::3::5::6::10::11::12::14::15::16::rg 19 35 []),[]⟩,⟨12,(1::3::5::6::10::11::12::rg 14 14 (rg 29 25 [])),[]⟩,⟨18,(rg 0 7 (rg 8 37 (rg 46 8 []))),[]⟩],[fV 7 2 gF XA p.b.1,fV 12 2 gG XC p.b.2.1,fV 18 2 gH XE p.c.1,fV 3 2 gI XG p.c.2],[0],[],(some ⟨0,(rg 0 6 (rg 7 47 [])),[]⟩)⟩,2,216⟩
theorem apK (p:qG):LI (vx p) 7 gF XA (BN p.1):=λ_ d c K=>by kernel_rfl
theorem apL (p:qG):LI (vx p) 12 gG XC (BP p.2.1):=λ_ d c K=>by kernel_rfl
theorem apM (p:qG):LI (vx p) 18 gH XE (BS):=λ_ d c K=>by kernel_rfl
theorem apN (p:qG):LI (vx p) 3 gI XG (BU p.b.1 p.b.2.1):=λ_ d c K=>by kernel_rfl
theorem ay2 (p:qG):D2 (vx p) aeI (lf Mp) λb=>GJ p.c.1 p.c.2 b.1.1 b.1.2 b.2.1 b.b:=λb=>by kernel_rfl
abbrev vy:qG:=(Fb,bz,BO,BQ,BT,BV)
theorem ay3 [ax]:SC (aeJ qF):=sc (kS (k:=vx vy) (.c aFT (.c oQ (.nil _))) [3,7,12,18] [] ⟨kL (apN vy),⟨kL (apK vy),⟨kL (apL vy),⟨kL (apM vy),trivial⟩⟩⟩⟩ trivial (ay2 vy))
def awi:=qa (pl as4 nil)
def ac1:=qe aWF
abbrev awj:=ac1.B
abbrev eo:=NI->Option awj
def jE (g:eo):Ct:=(68,FC awi (lf ac1) (λb=>g b))
def ahN (x0:Nat->Int):Pg awj:=ret (x0 0,x0 1,x0 2,x0 3)
def cy:=λx0=>(ahN x0).val
theorem aLr:D0 [] 68 awi (lf ac1) λb=>ahN b:=λb=>by kernel_rfl
theorem km [ax]:SC (jE cy):=s0 (.nil _) aLr
def ajx:=qa (pl (c kY as5) nil)
def OZ:=qe aQt
abbrev ajy:=OZ.B
abbrev Jj:=NI->Int->Int->Int->Int->Option ajy
def Tz (g:Jj):Ct:=(85,FC ajx (lf OZ) (λb=>g b.1 b.2.1 b.b.1 b.b.2.1 b.c))
def TA (x0:Nat->Int)(x1:Int)(x2:Int)(x3:Int)(x4:Int):Pg ajy:=ret λj=>bif ww j 3 then x4 else bif ww j 2 then x3 else bif ww j 1 then x2 else bif ww j 0 then x1 else x0 j
def tJ:=λx0 x1 x2 x3 x4=>(TA x0 x1 x2 x3 x4).val
theorem aCT:D0 [] 85 ajx (lf OZ) λb=>TA b.1 b.2.1 b.b.1 b.b.2.1 b.c:=λb=>by kernel_rfl
theorem ajz [ax]:SC (Tz tJ):=s0 (.nil _) aCT
def arB:=qa (pr (c ai (c ai (c ai (cl ai (cu aP (cu aqr nil)))))) (cu aP0 (c agc bH)))
def XH:=qe aWH
abbrev arC:=XH.B
abbrev arD:=Int->Int->Int->Int->Int->Int->Int->Int->Bool->Option arC
def arE (g:arD):Ct:=(210,FC arB (lf XH) (λb=>g b.1.1 b.1.2.1 b.1.b.1 b.1.b.2 b.2.1.1 b.2.1.2.1 b.2.1.b.1 b.2.1.b.2 b.b))
def ac2 (bh:eM)(x0:Int)(x1:Int)(x2:Int)(x3:Int)(x4:Int)(x5:Int)(x6:Int)(x7:Int)(x8:Bool):Pg arC:=opt (bh 30 4 4 x8 (cr x4 [x7,x6,x5,x4]) (cr x0 [x3,x2,x1,x0]) false true) λd=>ret d
def It:=λx0 x1 x2 x3 x4 x5 x6 x7 x8=>(ac2 bz x0 x1 x2 x3 x4 x5 x6 x7 x8).val
theorem aHQ:∀bh,D0 [mW bh] 210 arB (lf XH) λb=>ac2 bh b.1.1 b.1.2.1 b.1.b.1 b.1.b.2 b.2.1.1 b.2.1.2.1 b.2.1.b.1 b.2.1.b.2 b.b:=λ_ b=>by kernel_rfl
theorem aHR [ax]:SC (arE It):=s0 (.c oQ (.nil _)) (aHQ bz)
def am3:=qa (pr (cu aP gW) bH)
def TB:=qe ax5
abbrev am4:=TB.B
abbrev am5:=Int->Bool->Option am4
def am6 (g:am5):Ct:=(123,FC am3 (lf TB) (λb=>g b.1 b.2))
def XI (dm:xR)(aB:bT)(hO:Ri)(eD:KQ)(bx:iO)(x0:Int)(x1:Bool):Pg am4:=opt (dm x0) λd=>opt (aB d 536870912 30 x1) λd=>opt (hO d.1 d.2) λaj=>opt (eD d.1 aj.2) λd=>opt (bx aj.1 0 0 d.1 d.2) λd=>ret d
def Fk:=λx0 x1=>(XI kl aV su nE dy x0 x1).val
theorem aF4:∀dm aB hO eD bx,D0 [BF dm,fq aB,Rj hO,KR eD,ni bx] 123 am3 (lf TB) λb=>XI dm aB hO eD bx b.1 b.2:=λ_ _ _ _ _ b=>by kernel_rfl
theorem aF5 [ax]:SC (am6 Fk):=s0 (.c GB (.c fO (.c aaF (.c Rh (.c oZ (.nil _)))))) (aF4 kl aV su nE dy)
def aA7:=qa (pr (cu aP (c agd as5)) bH)
def ahO:=qe ax5
abbrev aA8:=ahO.B
abbrev xW:=Int->Int->Int->Int->Int->Int->Int->Int->Bool->Option aA8
def Fl (g:xW):Ct:=(156,FC aA7 (lf ahO) (λb=>g b.1.1.1 b.1.1.2.1 b.1.1.b.1 b.1.1.b.2 b.1.2.1 b.1.b.1 b.1.b.2.1 b.1.c b.2))
def am7 (pG:Rl)(ze:arD)(x0:Int)(x1:Int)(x2:Int)(x3:Int)(x4:Int)(x5:Int)(x6:Int)(x7:Int)(x8:Bool):Pg aA8:=opt (pG x0 x1 x2 x3 x8) λd=>let n1:=d.1.2;opt (pG x4 x5 x6 x7 d.2) λaj=>let n2:=aj.1.2;let y0:=wI (0-n2.1);let y1:=wI (0-n2.2.1);let y2:=wI (0-n2.2.2);opt (ze aj.1.1 y0 y1 y2 d.1.1 n1.1 n1.2.1 n1.2.2 aj.2) λaE=>opt (ze n2.1 aj.1.1 n2.2.2 y1 d.1.1 n1.1 n1.2.1 n1.2.2 aE.2) λbE=>opt (ze n2.2.1 y2 aj.1.1 n2.1 d.1.1 n1.1 n1.2.1 n1.2.2 bE.2) λcC=>opt (ze n2.2.2 n2.2.1 y0 aj.1.1 d.1.1 n1.1 n1.2.1 n1.2.2 cC.2) λd=>ret ((aE.1,bE.1,cC.1,d.1),d.2)
def ln:=λx0 x1 x2 x3 x4 x5 x6 x7 x8=>(am7 xT It x0 x1 x2 x3 x4 x5 x6 x7 x8).val
theorem aOj:∀pG ze,D0 [aaI pG,arE ze] 156 aA7 (lf ahO) λb=>am7 pG ze b.1.1.1 b.1.1.2.1 b.1.1.b.1 b.1.1.b.2 b.1.2.1 b.1.b.1 b.1.b.2.1 b.1.c b.2:=λ_ _ b=>by kernel_rfl
theorem KU [ax]:SC (Fl ln):=s0 (.c amy (.c aHR (.nil _))) (aOj xT It)
def aJr:=qa (pr (cu aP as5) bH)
def atM:=qe (res (pr (aa abM) (pl mh nil)))
abbrev aJs:=atM.B
abbrev qH:=Int->Int->Int->Int->Bool->Option aJs
def DI (g:qH):Ct:=(122,FC aJr (lf atM) (λb=>g b.1.1 b.1.2.1 b.1.b.1 b.1.b.2 b.2))
def xX:=qs (st (pr (us 2 (cu Q8 (cu az5 (cu (app 3 9) (us 3 aP3))))) (pl (c cD (cu (so (cu (gp 0 1) nil)) (c wQ (cl (so abM) nil)))) cP)))
def aA9:=qs (st (pr (us 2 (cu Q8 (cu az5 (cu (app 3 9) (us 3 aV8))))) (pl (c cD (cu (so (cu (gp 0 1) nil)) (c wQ (cl (so abM) nil)))) cP)))
abbrev Rp:=aA9.B
def aBa {ρ:Type}:=@ef Rp ((.ex 0)) aA9 ρ
def am8 (aw:bP)(d:xX.B):PL xX Rp:=let n2:=d.2.2.2;let n1:=d.2.2.1;let n4:=n1.2.1;let n3:=n1.2.2;let y0:=aX d.1 4;let y1:=d.1==2;let y2:=d.1==1;let y3:=d.1==3;let y4:=wI (d.1+1);let y5:=decide (d.1<4);ae y5 (ae y0 (ae y3 (opt (aw n3.2 d.2.1) λaj=>ae y0 (ae y3 (ret (ws (y4,aj.2,(n1.1,n4,n3.1,aj.1),n2))) (ae y1 (ret (ws (y4,aj.2,(n1.1,n4,aj.1,n3.2),n2))) (ae y2 (ret (ws (y4,aj.2,(n1.1,aj.1,n3),n2))) (ret (ws (y4,aj.2,(aj.1,n1.2),n2)))))) no) (ae y1 (opt (aw n3.1 d.2.1) λaj=>ae y0 (ae y3 (ret (ws (y4,aj.2,(n1.1,n4,n3.1,aj.1),n2))) (ae y1 (ret (ws (y4,aj.2,(n1.1,n4,aj.1,n3.2),n2))) (ae y2 (ret (ws (y4,aj.2,(n1.1,aj.1,n3),n2))) (ret (ws (y4,aj.2,(aj.1,n1.2),n2)))))) no) (ae y2 (opt (aw n4 d.2.1) λaj=>ae y0 (ae y3 (ret (ws (y4,aj.2,(n1.1,n4,n3.1,aj.1),n2))) (ae y1 (ret (ws (y4,aj.2,(n1.1,n4,aj.1,n3.2),n2))) (ae y2 (ret (ws (y4,aj.2,(n1.1,aj.1,n3),n2))) (ret (ws (y4,aj.2,(aj.1,n1.2),n2)))))) no) (opt (aw n1.1 d.2.1) λaj=>ae y0 (ae y3 (ret (ws (y4,aj.2,(n1.1,n4,n3.1,aj.1),n2))) (ae y1 (ret (ws (y4,aj.2,(n1.1,n4,aj.1,n3.2),n2))) (ae y2 (ret (ws (y4,aj.2,(n1.1,aj.1,n3),n2))) (ret (ws (y4,aj.2,(aj.1,n1.2),n2)))))) no)))) no) (ret (wr ((d.1,y5),d.2)))
def am9:=bC (am8 aQ) 2000
def ay4 (ana:amB)(KV:amD)(ew:LT xX Rp)(x0:Int)(x1:Int)(x2:Int)(x3:Int)(x4:Bool):Pg aJs:=opt (ew (0,x4,(x0,x1,x2,x3),λx=>0)) λd=>let n2:=d.2.2.1.1;let n1:=d.2.2.1.2;let n4:=n1.2.2;let n3:=n1.2.1;let y0:=wI (0-n2);opt (ana 1 1 (-1) (-1) n2 n1.1 n3 n4 d.2.1) λaj=>opt (KV n1.1 n3 y0 n4 aj.2) λaE=>opt (KV n1.1 n4 n2 n3 aE.2) λbE=>opt (KV n1.1 n3 n2 n4 bE.2) λcC=>opt (ana 1 (-1) 1 (-1) n2 n1.1 n3 n4 cC.2) λeJ=>opt (KV n3 n4 y0 n1.1 eJ.2) λc9=>opt (KV n1.1 n4 y0 n3 c9.2) λlR=>opt (KV n3 n4 n2 n1.1 lR.2) λpY=>opt (ana 1 (-1) (-1) 1 n2 n1.1 n3 n4 pY.2) λd=>ret (cr 0 [d.1,pY.1,lR.1,c9.1,eJ.1,cC.1,bE.1,aE.1,aj.1],d.2)
def jU:=λx0 x1 x2 x3 x4=>(ay4 Rn Ro am9 x0 x1 x2 x3 x4).val
abbrev apy:=bP×amB×amD×(LT xX Rp)
def ay5 (p:apy):KK:=⟨[dx p.1,aA1 p.2.1,aA4 p.b.1],⟨[⟨2,(0::1::5::6::7::rg 9 82 []),[]⟩],[fV 2 1 xX aBa p.b.2],[0],[],(some ⟨0,(rg 0 4 (rg 5 86 [])),[]⟩)⟩,1,122⟩
theorem aLs (p:apy):LI (ay5 p) 2 xX aBa (am8 p.1):=λ_ d c K=>by kernel_rfl
theorem aUz (p:apy):D2 (ay5 p) aJr (lf atM) λb=>ay4 p.2.1 p.b.1 p.b.2 b.1.1 b.1.2.1 b.1.b.1 b.1.b.2 b.2:=λb=>by kernel_rfl
abbrev ay6:apy:=(aQ,Rn,Ro,am9)
theorem GK [ax]:SC (DI jU):=sc (kS (k:=ay5 ay6) (.c dB (.c aOd (.c aOf (.nil _)))) [2] [] ⟨kL (aLs ay6),trivial⟩ trivial (aUz ay6))
def ajA:=qa (pu nil nil)
def O0:=qe aQt
abbrev Dc:=O0.B
abbrev Dd:=Option Dc
def TC (g:Dd):Ct:=(66,FC ajA (lf O0) (λ_=>g))
def TD (jh:aaN):Pg Dc:=opt (jh 0 4 1073741840 λx=>0) λd=>opt (jh 4 7 549755813888 d) λd=>opt (jh 7 10 9007199254740992 d) λd=>opt (jh 10 13 134217728 d) λd=>opt (jh 13 16 1073741824 d) λd=>opt (jh 16 22 2147483648 d) λd=>opt (jh 22 24 137438953472 d) λd=>ret d
def tK:Option Dc:=(TD xU).val
theorem aCU:∀jh,D0 [aaO jh] 66 ajA (lf O0) λb=>TD jh:=λ_ b=>by kernel_rfl
theorem ajB [ax]:SC (TC tK):=s0 (.c avV (.nil _)) (aCU xU)
def anb:=qa (pr (cu aP as4) bH)
def TE:=qe aEg
abbrev anc:=TE.B
abbrev Mq:=NI->Bool->Option anc
def XJ (g:Mq):Ct:=(87,FC anb (lf TE) (λb=>g b.1 b.2))
def mx:=qs (st (pr (cu aP (us 2 (cu UB (cu Ej (cu aiY aJ6))))) (pl (c cD aKu) cP)))
def ay7:=qs (st (pr (cu aP (us 2 (cu UB (cu Ej (cu aiY (c ai (us 1 aKb))))))) (pl (c cD aKu) cP)))
abbrev AA:=((Int×Bool)×Bool×NI×NI×Dc)
def aeK {ρ:Type}(x:AA)(K:AX->St->Option ρ):Option ρ:=(λd=>K (.ex 0) (ay7.em ((d.1.1,d.1),d.2))) x
def O1 (aF:ch)(d:mx.B):PL mx AA:=let y0:=wt d.1;let y1:=aX d.1 24;let y2:=decide (d.1<24);ae y2 (ae y1 (ae y1 (ae y1 (opt (aF (d.2.2.1 y0) (wI (0-d.2.2.2.2 y0)) (d.2.2.2.2 y0) d.2.1) λaj=>ae y1 (ae (true&&wl (0+y0*1+1) 24) (ret (ws (wI (d.1+1),aj.2,λj=>bif ww j y0 then aj.1 else d.2.2.1 j,d.2.2.2))) no) no) no) no) no) (ret (wr ((d.1,y2),d.2)))
def O2:=bC (O1 bc) 2000
def XK (TF:Dd)(ew:LT mx AA)(x0:Nat->Int)(x1:Bool):Pg anc:=opt TF λd=>opt (ew (4,x1,x0,λx=>0,d)) λd=>ret (d.2.2.1,d.2.1)
def vS:=λx0 x1=>(XK tK O2 x0 x1).val
abbrev Mr:=Dd×ch×(LT mx AA)
def XL (p:Mr):KK:=⟨[TC p.1,dY p.2.1],⟨[⟨3,(1::2::rg 7 20 []),[]⟩],[fV 3 1 mx aeK p.b],[0],[],(some ⟨0,(rg 0 4 (rg 5 22 [])),[]⟩)⟩,1,87⟩
theorem awk (p:Mr):LI (XL p) 3 mx aeK (O1 p.2.1):=λ_ d c K=>by kernel_rfl
theorem aF6 (p:Mr):D2 (XL p) anb (lf TE) λb=>XK p.1 p.b b.1 b.2:=λb=>by kernel_rfl
abbrev XM:Mr:=(tK,bc,O2)
theorem ane [ax]:SC (XJ vS):=sc (kS (k:=XL XM) (.c ajB (.c eK (.nil _))) [3] [] ⟨kL (awk XM),trivial⟩ trivial (aF6 XM))
def arF:=qa (pr (cu aP as4) bH)
def XN:=qe aEg
abbrev arG:=XN.B
abbrev fw:=NI->Bool->Option arG
def ji (g:fw):Ct:=(49,FC arF (lf XN) (λb=>g b.1 b.2))
def ac3 (bg:eo)(QI:arv)(bx:iO)(xy:Jj)(vT:Mq)(x0:Nat->Int)(x1:Bool):Pg arG:=opt (bg x0) λd=>opt (QI d.1 d.2.1 d.2.2.1 d.2.2.2) λd=>ae (!d) (opt (bg x0) λd=>opt (bx d.1 d.2.1 d.2.2.1 d.2.2.2 x1) λd=>opt (xy x0 d.1.1 d.1.2.1 d.1.2.2.1 d.1.2.2.2) λaj=>opt (vT aj d.2) λd=>ret d) (opt (vT x0 x1) λd=>ret d)
def cw:=λx0 x1=>(ac3 cy DH dy tJ vS x0 x1).val
theorem aHS:∀bg QI bx xy vT,D0 [jE bg,arw QI,ni bx,Tz xy,XJ vT] 49 arF (lf XN) λb=>ac3 bg QI bx xy vT b.1 b.2:=λ_ _ _ _ _ b=>by kernel_rfl
theorem jV [ax]:SC (ji cw):=s0 (.c km (.c aHK (.c oZ (.c ajz (.c ane (.nil _)))))) (aHS cy DH dy tJ vS)
def aeL:=qa (pr (cu aP gW) bH)
def Ms:=qe qi
abbrev aeM:=Ms.B
abbrev vz:=Int->Bool->Option aeM
def GL (g:vz):Ct:=(159,FC aeL (lf Ms) (λb=>g b.1 b.2))
def O3 (aq:cx)(x0:Int)(x1:Bool):Pg aeM:=opt (aq x0 1073741824 1000000 x1) λd=>ret d
def jW:=λx0 x1=>(O3 aU x0 x1).val
theorem ay8:∀aq,D0 [dt aq] 159 aeL (lf Ms) λb=>O3 aq b.1 b.2:=λ_ b=>by kernel_rfl
theorem O4 [ax]:SC (GL jW):=s0 (.c dE (.nil _)) (ay8 aU)
def aF7:=qa (pr (cu aP Hq) bH)
def anf:=qe ax5
abbrev aF8:=anf.B
abbrev aF9:=Int->Int->Int->Bool->Option aF8
def aGa (g:aF9):Ct:=(209,FC aF7 (lf anf) (λb=>g b.1.1 b.1.2.1 b.1.b b.2))
def atN (Fo:OQ)(vh:Bg)(iJ:Bh)(aB:bT)(eD:KQ)(aD:cL)(hO:Ri)(bx:iO)(x0:Int)(x1:Int)(x2:Int)(x3:Bool):Pg aF8:=opt (Fo x0 x1 x2 x3) λd=>opt (vh d.1.1 d.1.2.1 d.1.2.2 d.2) λaj=>ae (aj.1==0) (opt iJ λd=>ret ((1073741824,0,0,0),aj.2)) (opt (aB aj.1 536870912 30 aj.2) λaE=>opt (eD aE.1 aE.2) λbE=>opt (aD bE.1 aj.1 30 bE.2) λcC=>opt (hO aE.1 cC.2) λeJ=>opt (aB d.1.1 cC.1 30 eJ.2) λc9=>opt (aB d.1.2.1 cC.1 30 c9.2) λlR=>opt (aB d.1.2.2 cC.1 30 lR.2) λd=>opt (bx eJ.1 c9.1 lR.1 d.1 d.2) λd=>ret d)
def XO:=λx0 x1 x2 x3=>(atN BG pF nF aV nE bu su dy x0 x1 x2 x3).val
theorem aRX:∀Fo vh iJ aB eD aD hO bx,D0 [ahk Fo,Rk vh,KS iJ,fq aB,KR eD,gA aD,Rj hO,ni bx] 209 aF7 (lf anf) λb=>atN Fo vh iJ aB eD aD hO bx b.1.1 b.1.2.1 b.1.b b.2:=λ_ _ _ _ _ _ _ _ b=>by kernel_rfl
theorem aRY [ax]:SC (aGa XO):=s0 (.c atE (.c aaH (.c Rm (.c fO (.c Rh (.c iy (.c aaF (.c oZ (.nil _))))))))) (aRX BG pF nF aV nE bu su dy)
def ang:=qa (pr (cu aP (c kY abP)) bH)
def TG:=qe (res (pr (aa agj) (pl mh nil)))
abbrev anh:=TG.B
abbrev Mt:=NI->Int->Int->Int->Int->Int->Int->Int->Int->Bool->Option anh
def XP (g:Mt):Ct:=(155,FC ang (lf TG) (λb=>g b.1.1 b.1.2.1 b.1.b.1 b.1.b.2.1.1 b.1.b.2.1.2.1 b.1.b.2.1.b b.1.c.1 b.1.c.2.1 b.1.c.b b.2))
def XQ (aN:fw)(nI:vz)(bK:lK)(iP:Vm)(nu:JS)(ahP:aF9)(bg:eo)(fm:qH)(x0:Nat->Int)(x1:Int)(x2:Int)(x3:Int)(x4:Int)(x5:Int)(x6:Int)(x7:Int)(x8:Int)(x9:Bool):Pg anh:=opt (aN x0 x9) λd=>opt (nI x2 d.2) λaj=>opt (bK d.1 10) λaE=>opt (iP aE.1 aE.2.1 aE.2.2 aj.1 aj.2) λbE=>opt (nu x3 x4 x5 bE.1.1 bE.1.2.1 bE.1.2.2 bE.2) λcC=>opt (bK d.1 13) λeJ=>opt (iP eJ.1 eJ.2.1 eJ.2.2 aj.1 cC.2) λc9=>opt (nu x6 x7 x8 c9.1.1 c9.1.2.1 c9.1.2.2 c9.2) λlR=>opt (ahP cC.1.1 cC.1.2.1 cC.1.2.2 lR.2) λpY=>opt (bg d.1) λd=>opt (fm d.1 d.2.1 d.2.2.1 d.2.2.2 pY.2) λd=>ret ((aj.1,cC.1.1,cC.1.2.1,cC.1.2.2,lR.1.1,lR.1.2.1,lR.1.2.2,pY.1.1,pY.1.2.1,pY.1.2.2.1,pY.1.2.2.2,d.1),d.2)
def vU:=λx0 x1 x2 x3 x4 x5 x6 x7 x8 x9=>(XQ cw jW eL um vR XO cy jU x0 x1 x2 x3 x4 x5 x6 x7 x8 x9).val
theorem aGb:∀aN nI bK iP nu ahP bg fm,D0 [ji aN,GL nI,rH bK,Vn iP,W3 nu,aGa ahP,jE bg,DI fm] 155 ang (lf TG) λb=>XQ aN nI bK iP nu ahP bg fm b.1.1 b.1.2.1 b.1.b.1 b.1.b.2.1.1 b.1.b.2.1.2.1 b.1.b.2.1.b b.1.c.1 b.1.c.2.1 b.1.c.b b.2:=λ_ _ _ _ _ _ _ _ b=>by kernel_rfl
theorem ani [ax]:SC (XP vU):=s0 (.c jV (.c O4 (.c uZ (.c ahi (.c ahg (.c aRY (.c km (.c GK (.nil _))))))))) (aGb cw jW eL um vR XO cy jU)
def arH:=qa (pr (cu aP (c kY abP)) bH)
def XR:=qe aEg
abbrev arI:=XR.B
abbrev QJ:=NI->Int->Int->Int->Int->Int->Int->Int->Int->Bool->Option arI
def ac4 (g:QJ):Ct:=(104,FC arH (lf XR) (λb=>g b.1.1 b.1.2.1 b.1.b.1 b.1.b.2.1.1 b.1.b.2.1.2.1 b.1.b.2.1.b b.1.c.1 b.1.c.2.1 b.1.c.b b.2))
def ac5 (AB:Mt)(aN:fw)(bg:eo)(eS:xW)(bx:iO)(bK:lK)(iQ:GI)(aB:bT)(dU:BM)(iP:Vm)(cV:zb)(x0:Nat->Int)(x1:Int)(x2:Int)(x3:Int)(x4:Int)(x5:Int)(x6:Int)(x7:Int)(x8:Int)(x9:Bool):Pg arI:=opt (AB x0 x1 x2 x3 x4 x5 x6 x7 x8 x9) λd=>let n1:=d.1.2.2.2.2.2;let n2:=n1.2.2.2;opt (aN x0 d.2) λaj=>opt (bg aj.1) λaE=>opt (eS aE.1 aE.2.1 aE.2.2.1 aE.2.2.2 n1.2.2.1 n2.1 n2.2.1 n2.2.2.1 aj.2) λbE=>opt (bx bE.1.1 bE.1.2.1 bE.1.2.2.1 bE.1.2.2.2 bE.2) λcC=>opt (bK aj.1 4) λeJ=>opt (iQ n2.2.2.2 d.1.2.2.2.2.1 n1.1 n1.2.1 cC.2) λc9=>opt (aB 10529810258 d.1.1 30 c9.2) λlR=>opt (dU 3 lR.2 (cr eJ.1 [0,c9.1.1,eJ.1]) (cr eJ.2.1 [0,c9.1.2.1,eJ.2.1]) (cr eJ.2.2 [lR.1,c9.1.2.2,eJ.2.2]) true) λpY=>opt (aB d.1.1 536870912 30 pY.2) λd=>opt (bK aj.1 7) λmV=>opt (dU 2 d.2 (cr eJ.1 [pY.1.1,eJ.1]) (cr eJ.2.1 [pY.1.2.1,eJ.2.1]) (cr eJ.2.2 [pY.1.2.2,eJ.2.2]) true) λlM=>opt (iP lM.1.1 lM.1.2.1 lM.1.2.2 d.1 lM.2) λd=>opt (dU 2 d.2 (cr mV.1 [d.1.1,mV.1]) (cr mV.2.1 [d.1.2.1,mV.2.1]) (cr mV.2.2 [d.1.2.2,mV.2.2]) true) λd=>opt (cV aj.1 0 4 (cr cC.1.1 [cC.1.2.2.2,cC.1.2.2.1,cC.1.2.1,cC.1.1]) false) λwO=>opt (cV wO 4 3 (cr pY.1.1 [pY.1.2.2,pY.1.2.1,pY.1.1]) false) λKW=>opt (cV KW 7 3 (cr d.1.1 [d.1.2.2,d.1.2.1,d.1.1]) false) λMu=>opt (aN Mu d.2) λd=>ret d
def vi:=λx0 x1 x2 x3 x4 x5 x6 x7 x8 x9=>(ac5 vU cw cy ln dy eL oY aV kg um gC x0 x1 x2 x3 x4 x5 x6 x7 x8 x9).val
theorem aHT:∀AB aN bg eS bx bK iQ aB dU iP cV,D0 [XP AB,ji aN,jE bg,Fl eS,ni bx,rH bK,Md iQ,fq aB,JU dU,Vn iP,DG cV] 104 arH (lf XR) λb=>ac5 AB aN bg eS bx bK iQ aB dU iP cV b.1.1 b.1.2.1 b.1.b.1 b.1.b.2.1.1 b.1.b.2.1.2.1 b.1.b.2.1.b b.1.c.1 b.1.c.2.1 b.1.c.b b.2:=λ_ _ _ _ _ _ _ _ _ _ _ b=>by kernel_rfl
theorem arJ [ax]:SC (ac4 vi):=s0 (.c ani (.c jV (.c km (.c KU (.c oZ (.c uZ (.c Vq (.c fO (.c OW (.c ahi (.c Ir (.nil _)))))))))))) (aHT vU cw cy ln dy eL oY aV kg um gC)
def aBb:=qa (pr (cu aP Hq) bH)
def ahQ:=qe ax5
abbrev aBc:=ahQ.B
abbrev anj:=Int->Int->Int->Bool->Option aBc
def aBd (g:anj):Ct:=(160,FC aBb (lf ahQ) (λb=>g b.1.1 b.1.2.1 b.1.b b.2))
def sy:=qs (st (pr (cu aP (us 3 (cu aqr (cu Z9 (c ai (cu ald (us 12 (cl ai aVL)))))))) (pl (c cD (cu alm (c yW (cl yW nil)))) cP)))
def arK:=qs (st (pr (cu aP (us 3 (cu aqr (cu Z9 (c ai (cu ald (us 12 (c ai (cl ab (us 26 nil)))))))))) (pl (c cD (cu alm (c yW (cl yW nil)))) cP)))
abbrev Iu:=arK.B
def arL {ρ:Type}:=@ef Iu ((.ex 0)) arK ρ
def ac6 (aD:cL)(d:sy.B):PL sy Iu:=let n3:=d.1.1;let n2:=d.1.2;let n1:=d.2.2;let n5:=n1.2.1;let n4:=n1.2.2;let y0:=aX n2 3;let y1:=n2==2;let y2:=n2==1;let y3:=decide (n2<3);ae y3 (ae y0 (ae y1 (opt (aD n1.1.2.2 n3 30 d.2.1) λaj=>ae y0 (ae y1 (ret (ws ((n3,wI (n2+1)),aj.2,n1.1,n5,n4.1,aj.1))) (ae y2 (ret (ws ((n3,wI (n2+1)),aj.2,n1.1,n5,aj.1,n4.2))) (ret (ws ((n3,wI (n2+1)),aj.2,n1.1,aj.1,n4))))) no) (ae y2 (opt (aD n1.1.2.1 n3 30 d.2.1) λaj=>ae y0 (ae y1 (ret (ws ((n3,wI (n2+1)),aj.2,n1.1,n5,n4.1,aj.1))) (ae y2 (ret (ws ((n3,wI (n2+1)),aj.2,n1.1,n5,aj.1,n4.2))) (ret (ws ((n3,wI (n2+1)),aj.2,n1.1,aj.1,n4))))) no) (opt (aD n1.1.1 n3 30 d.2.1) λaj=>ae y0 (ae y1 (ret (ws ((n3,wI (n2+1)),aj.2,n1.1,n5,n4.1,aj.1))) (ae y2 (ret (ws ((n3,wI (n2+1)),aj.2,n1.1,n5,aj.1,n4.2))) (ret (ws ((n3,wI (n2+1)),aj.2,n1.1,aj.1,n4))))) no))) no) (ret (wr ((n3,n2,y3),d.2)))
def ac7:=bC (ac6 bu) 2000
def ank (Fo:OQ)(iJ:Bh)(vh:Bg)(aW:dg)(bx:iO)(ew:LT sy Iu)(x0:Int)(x1:Int)(x2:Int)(x3:Bool):Pg aBc:=opt (Fo x0 x1 x2 x3) λd=>ae (d.1.1==0&&(d.1.2.1==0&&(d.1.2.2==0&&true))) (opt iJ λaj=>ret ((1073741824,0,0,0),d.2)) (opt (vh d.1.1 d.1.2.1 d.1.2.2 d.2) λaj=>opt (ew ((aj.1,0),aj.2,d.1,0,0,0)) λd=>opt (aW 1073741824 d.2.2.2.2.2 d.2.1) λaE=>ae (decide (aE.1<=16)) (ret ((0,1073741824,0,0),aE.2)) (opt (bx aE.1 (wI (0-d.2.2.2.2.1)) d.2.2.2.1 0 aE.2) λd=>ret d))
def KX:=λx0 x1 x2 x3=>(ank BG nF pF bQ dy ac7 x0 x1 x2 x3).val
abbrev aaT:=OQ×Bh×Bg×cL×dg×iO×(LT sy Iu)
def anl (p:aaT):KK:=⟨[ahk p.1,KS p.2.1,Rk p.b.1,gA p.b.2.1,iz p.c.1,ni p.c.2.1],⟨[⟨7,(1::2::3::rg 8 12 (rg 21 27 [])),[]⟩],[fV 7 1 sy arL p.c.b],[],[],(some ⟨0,(rg 0 4 (rg 5 43 [])),[]⟩)⟩,1,160⟩
theorem aGc (p:aaT):LI (anl p) 7 sy arL (ac6 p.b.2.1):=λ_ d c K=>by kernel_rfl
theorem aOk (p:aaT):D2 (anl p) aBb (lf ahQ) λb=>ank p.1 p.2.1 p.b.1 p.c.1 p.c.2.1 p.c.b b.1.1 b.1.2.1 b.1.b b.2:=λb=>by kernel_rfl
abbrev anm:aaT:=(BG,nF,pF,bu,bQ,dy,ac7)
theorem aOl [ax]:SC (aBd KX):=sc (kS (k:=anl anm) (.c atE (.c Rm (.c aaH (.c iy (.c jg (.c oZ (.nil _))))))) [7] [] ⟨kL (aGc anm),trivial⟩ trivial (aOk anm))
def aeN:=qa (pr (cu aP (c Ae (c (aa aEa) as4))) bH)
def Mv:=qe aQH
abbrev O5:=Mv.B
abbrev GM:=NI->NI->NI->NI->Bool->Option O5
def O6 (g:GM):Ct:=(163,FC aeN (lf Mv) (λb=>g b.1.1.1 b.1.1.2 b.1.2.1 b.1.b b.2))
def gJ:=qs (st (pr (cu aP (us 4 (cu G8 (cu aSE (cu aiY (cu NM (cu aqt (c ai (us 13 (c ai (us 16 (cl ai (us 105 nil))))))))))))) (pl (c cD (c iX (c mi (c nr abQ)))) cP)))
def XS:=qs (st (pr (cu aP (us 4 (cu G8 (cu aSE (cu aiY (cu NM (cu aqt (c ai (us 13 (c ai (us 16 (c ai (cl ab (us 104 nil)))))))))))))) (pl (c cD (c iX (c mi (c nr abQ)))) cP)))
abbrev qI:=XS.B
def XT {ρ:Type}:=@ef qI ((.ex 2)) XS ρ
def BW (aw:bP)(d:gJ.B):PL gJ qI:=let y0:=aX d.1.1 24;let y1:=aX d.1.2.2 24;let y2:=decide (d.1.2.2<24);let y3:=wt d.1.1*24+wt d.1.2.2;ae y2 (ae y0 (ae y1 (opt (aw (d.2.2.2.1 y3) d.2.1) λaj=>ae y0 (ae y1 (ae (true&&wl (0+y3*1+1) 576) (ret (ws ((d.1.1,d.1.2.1,wI (d.1.2.2+1)),aj.2,d.2.2.1,λj=>bif ww j y3 then aj.1 else d.2.2.2.1 j,d.2.2.2.2))) no) no) no) no) no) (ret (wr ((d.1.1,d.1.2.1,d.1.2.2,y2),d.2)))
def BX:=bC (BW aQ) 2000
def gK:=qs (st (pr (cu aP (us 7 (cu G8 (cu az7 (us 2 (cu aaa (cu NM (c ai (cu aqt (us 48 aP3)))))))))) (pl (c cD (c iX (c aga (c Hp abQ)))) cP)))
def XU:=qs (st (pr (cu aP (us 7 (cu G8 (cu az7 (us 2 (cu aaa (cu NM (c ai (cu aqt (us 48 aV8)))))))))) (pl (c cD (c iX (c aga (c Hp abQ)))) cP)))
abbrev qJ:=XU.B
def XV {ρ:Type}:=@ef qJ ((.ex 6)) XU ρ
def BY (aB:bT)(d:gK.B):PL gK qJ:=let n2:=d.1.2;let n1:=d.2.2.2;let y0:=wt n2;let y1:=aX n2 48;let y2:=decide (n2<48);ae y2 (ae (aX d.1.1 24) (ae y1 (ae y1 (opt (aB (n1.2.1 (wt d.1.1*48+y0)) (n1.1 y0) 30 d.2.1) λaj=>ae y1 (ae (true&&wl (0+y0*1+1) 48) (ret (ws ((d.1.1,wI (n2+1)),aj.2,d.2.2.1,n1.1,n1.2.1,n1.2.2.1,λj=>bif ww j y0 then aj.1 else n1.2.2.2 j))) no) no) no) no) no) (ret (wr ((d.1.1,n2,y2),d.2)))
def BZ:=bC (BY aV) 2000
def gL:=qs (st (pr (cu aP (us 7 (cu G8 (cu az7 (us 2 (cu aaa (cu NM (c ai (cu aqt (us 1 (c ai (c ai (c ai (us 76 (c ai (c ai (us 18 (cl ai (us 30 nil))))))))))))))))))) (pl (c cD (c iX (c aga (c Hp abQ)))) cP)))
def XW:=qs (st (pr (cu aP (us 7 (cu G8 (cu az7 (us 2 (cu aaa (cu NM (c ai (cu aqt (us 1 (c ai (c ai (c ai (us 76 (c ai (c ai (us 18 aV9))))))))))))))))) (pl (c cD (c iX (c aga (c Hp abQ)))) cP)))
abbrev qK:=XW.B
def XX {ρ:Type}:=@ef qK ((.ex 10)) XW ρ
def B3 (aB:bT)(aW:dg)(d:gL.B):PL gL qK:=let n3:=d.2.2.2;let n1:=d.1.2.2;let n2:=n1.2.2.2;let y0:=aX n1.1 24;let y1:=wt n2.2;let y2:=aX n2.2 48;let y3:=wt n1.1*48+y1;let y4:=decide (n2.2<48);ae y4 (ae y0 (ae y2 (ae (aX d.1.1 24) (ae y2 (opt (aB n1.2.1 (n3.2.1 (wt d.1.1*48+y1)) 30 d.2.1) λaj=>opt (aW (n3.2.1 y3) aj.1 aj.2) λaE=>ae y0 (ae y2 (ae (true&&wl (0+y3*1+1) 1152) (ret (ws ((d.1.1,d.1.2.1,n1.1,n1.2.1,n1.2.2.1,n2.1,wI (n2.2+1)),aE.2,d.2.2.1,n3.1,λj=>bif ww j y3 then aE.1 else n3.2.1 j,n3.2.2))) no) no) no) no) no) no) no) (ret (wr ((d.1.1,d.1.2.1,n1.1,n1.2.1,n1.2.2.1,n2.1,n2.2,y4),d.2)))
def B4:=bC (B3 aV bQ) 2000
def gM:=qs (st (pr (cu aP (us 4 (cu G8 (cu aSE (cu aiY (cu NM (cu aqt (us 14 (cl ai (us 122 nil)))))))))) (pl (c cD (c iX (c mi (c nr abQ)))) cP)))
def XY:=qs (st (pr (cu aP (us 4 (cu G8 (cu aSE (cu aiY (cu NM (cu aqt (us 14 (c ai (cl ab (us 121 nil))))))))))) (pl (c cD (c iX (c mi (c nr abQ)))) cP)))
abbrev qL:=XY.B
def XZ {ρ:Type}:=@ef qL ((.ex 0)) XY ρ
def B5 (aF:ch)(qx:LT gJ qI)(d:gM.B):PL gM qL:=let y0:=wt d.1;let y1:=aX d.1 24;let y2:=wI (24+d.1);let y3:=wt y2;let y4:=decide (d.1<24);ae y4 (ae y1 (ae y1 (opt (aF (d.2.2.2.2.1 y0) 0 72057594037927936 d.2.1) λaj=>ae (aX d.1 48) (ae (true&&wl (0+y0*1+1) 48) (ae (aX y2 48) (ae (true&&wl (0+y3*1+1) 48) (opt (qx ((d.1,d.1,0),aj.2,d.2.2.1,d.2.2.2.1,d.2.2.2.2.1,d.2.2.2.2.2.1,λj=>bif ww j y3 then aj.1 else bif ww j y0 then d.2.2.1.2 y0 else d.2.2.2.2.2.2 j)) λd=>ret (ws (wI (d.1.2.1+1),d.2))) no) no) no) no) no) no) (ret (wr ((d.1,y4),d.2)))
def B6:=bC (B5 bc BX) 2000
def fE:=qs (st (pr (cu aP (us 7 (cu G8 (cu az7 (us 2 (cu aaa (cu NM (c ai (cu aqt (us 1 (c ai (us 78 (c ai (cl ai (us 49 nil))))))))))))))) (pl (c cD (c iX (c aga (c Hp abQ)))) cP)))
def X0:=qs (st (pr (cu aP (us 7 (cu G8 (cu az7 (us 2 (cu aaa (cu NM (c ai (cu aqt (us 1 (c ai (us 78 (c ai (c ai (cl ab (us 48 nil)))))))))))))))) (pl (c cD (c iX (c aga (c Hp abQ)))) cP)))
abbrev qM:=X0.B
def X1 {ρ:Type}:=@ef qM ((.ex 8)) X0 ρ
def B7 (bh:eM)(aD:cL)(atO:Xl)(l_5:LT gL qK)(d:fE.B):PL fE qM:=let n2:=d.2.2.2.2;let n1:=d.1.2.2;let y0:=decide (n1.2<n1.1);ae y0 (ae (aX n1.2 24) (opt (bh 30 48 48 d.2.1 (λj=>n2.1 (0+wt n1.2*48+j)) n2.2.2 false false) λaj=>opt (aD aj.1 d.1.2.1 30 aj.2) λaE=>opt (atO n2.2.1.1 n2.2.1.2 n1.2 d.1.1 aE.1) λbE=>opt (l_5 ((d.1.1,d.1.2.1,n1.2,aE.1,n1.1,n1.2,0),aE.2,d.2.2.1,d.2.2.2.1,n2.1,bE,n2.2.2)) λd=>ret (ws ((d.1.1,d.1.2.1,d.1.2.2.2.2.1,wI (d.1.2.2.2.2.2.1+1)),d.2))) no) (ret (wr ((d.1.1,d.1.2.1,n1.1,n1.2,y0),d.2)))
def B8:=bC (B7 bz bu zd B4) 2000
def gN:=qs (st (pr (cu aP (us 7 (cu G8 (cu az7 (us 2 (cu aaa (cu NM (cl ai (us 132 nil))))))))) (pl (c cD (c iX (c aga (c Hp (cl iX nil))))) cP)))
def atP:=qs (st (pr (cu aP (us 7 (cu G8 (cu az7 (us 2 (cu aaa (cu NM (c ai (us 45 (c ai (cl ab (us 85 nil)))))))))))) (pl (c cD (c iX (c aga (c Hp (cl iX nil))))) cP)))
abbrev qN:=((Int×Bool)×Bool×(NI×NI)×NI×NI×NI×NI)
def X2 {ρ:Type}(x:qN)(K:AX->St->Option ρ):Option ρ:=(λd=>K (.ex 4) (atP.em ((d.1.1,d.1),d.2))) x
def B9 (aF:ch)(bh:eM)(l_3:LT gK qJ)(l_4:LT fE qM)(d:gN.B):PL gN qN:=let y0:=decide (d.1>=0);ae y0 (opt (l_3 ((d.1,0),d.2.1,d.2.2.1,d.2.2.2.1,d.2.2.2.2.1,d.2.2.2.2.2,λx=>0)) λd=>let n1:=d.2.2.2.2;let y0:=wt d.1.1;let y1:=aX d.1.1 24;ae y1 (opt (bh 30 48 48 d.2.1 (λj=>n1.1 (0+y0*48+j)) n1.2.2 false false) λaj=>opt (aF aj.1 1 72057594037927936 aj.2) λaE=>ae y1 (ae (true&&wl (276+y0*1+1) 300) (opt (l_4 ((d.1.1,aE.1,d.1.1,0),aE.2,d.2.2.1,d.2.2.2.1,n1.1,(n1.2.1.1,λj=>bif ww j y0 then aE.1 else n1.2.1.2 j),n1.2.2)) λd=>ret (ws (wI (d.1.1-1),d.2.1,d.2.2.1,d.2.2.2.1,d.2.2.2.2.1,d.2.2.2.2.2.1))) no) no) no) (ret (wr ((d.1,y0),d.2)))
def Ca:=bC (B9 bc bz BZ B8) 2000
def GN (fX:qy)(ay9:OY)(ew:LT gM qL)(JV:LT gN qN)(x0:Nat->Int)(x1:Nat->Int)(x2:Nat->Int)(x3:Nat->Int)(x4:Bool):Pg O5:=opt (fX x0 x1 x4) λd=>opt (ew (0,d.2,d.1,x2,x3,(λx=>0,λx=>0),λx=>0)) λd=>opt (ay9 d.2.2.1.1 d.2.2.1.2 d.2.1 d.2.2.2.1) λaj=>opt (JV (23,aj.1,d.2.2.2.2.2.1,d.2.2.2.2.2.2,aj.2,λx=>0,λx=>0)) λd=>ret (d.2.2.2.2.2,d.2.1)
def jX:=λx0 x1 x2 x3 x4=>(GN fW qF B6 Ca x0 x1 x2 x3 x4).val
abbrev lT:=qy×ch×bP×OY×bT×eM×cL×Xl×dg×(LT gJ qI)×(LT gK qJ)×(LT gL qK)×(LT gM qL)×(LT fE qM)×(LT gN qN)
def nJ (p:lT):KK:=⟨[Aw p.1,dY p.2.1,dx p.b.1,aeJ p.b.2.1,fq p.c.1,mW p.c.2.1,gA p.c.b.1,atJ p.c.b.2.1,iz p.d.1],⟨[⟨4,(rg 1 4 (rg 10 14 (rg 25 122 []))),[]⟩,⟨8,(rg 1 4 (rg 11 13 (rg 25 16 (rg 42 105 [])))),[]⟩,⟨16,(rg 1 7 (10::11::rg 15 132 [])),[]⟩,⟨20,(rg 1 7 (10::11::rg 16 48 (rg 65 82 []))),[]⟩,⟨27,(rg 1 7 (10::11::16::rg 18 78 (rg 98 49 []))),[]⟩,⟨32,(rg 1 7 (10::11::16::rg 20 76 (rg 98 18 (rg 117 30 [])))),[]⟩],[fV 8 1 gJ XT p.d.2.1,fV 20 1 gK XV p.d.b.1,fV 32 1 gL XX p.d.b.2.1,fV 4 1 gM XZ p.d.c.1,fV 27 1 fE X1 p.d.c.2.1,fV 16 1 gN X2 p.d.c.b],[],[],(some ⟨0,(rg 0 8 (rg 9 138 [])),[]⟩)⟩,1,163⟩
theorem apO (p:lT):LI (nJ p) 8 gJ XT (BW p.b.1):=λ_ d c K=>by kernel_rfl
theorem apP (p:lT):LI (nJ p) 20 gK XV (BY p.c.1):=λ_ d c K=>by kernel_rfl
theorem apQ (p:lT):LI (nJ p) 32 gL XX (B3 p.c.1 p.d.1):=λ_ d c K=>by kernel_rfl
theorem apR (p:lT):LI (nJ p) 4 gM XZ (B5 p.2.1 p.d.2.1):=λ_ d c K=>by kernel_rfl
theorem apS (p:lT):LI (nJ p) 27 fE X1 (B7 p.c.2.1 p.c.b.1 p.c.b.2.1 p.d.b.2.1):=λ_ d c K=>by kernel_rfl
theorem apT (p:lT):LI (nJ p) 16 gN X2 (B9 p.2.1 p.c.2.1 p.d.b.1 p.d.c.2.1):=λ_ d c K=>by kernel_rfl
theorem aza (p:lT):D2 (nJ p) aeN (lf Mv) λb=>GN p.1 p.b.2.1 p.d.c.1 p.d.c.b b.1.1.1 b.1.1.2 b.1.2.1 b.1.b b.2:=λb=>by kernel_rfl
abbrev nK:lT:=(fW,bc,aQ,qF,aV,bz,bu,zd,bQ,BX,BZ,B4,B6,B8,Ca)
theorem aeO [ax]:SC (O6 jX):=sc (kS (k:=nJ nK) (.c GG (.c eK (.c dB (.c ay3 (.c fO (.c oQ (.c iy (.c aFW (.c jg (.nil _)))))))))) [4,8,16,20,27,32] [] ⟨kL (apR nK),⟨kL (apO nK),⟨kL (apT nK),⟨kL (apP nK),⟨kL (apS nK),⟨kL (apQ nK),trivial⟩⟩⟩⟩⟩⟩ trivial (aza nK))
def aBe:=qa (pl gW nil)
def ahR:=qe DQ
abbrev aBf:=ahR.B
abbrev ann:=Int->Option aBf
def aBg (g:ann):Ct:=(214,FC aBe (lf ahR) (λb=>g b))
def Rr (x0:Int):Pg aBf:=ae (decide (x0>=0)) (ret (decide (x0<24))) (ret false)
def xY:=λx0=>(Rr x0).val
theorem aOm:D0 [] 214 aBe (lf ahR) λb=>Rr b:=λb=>by kernel_rfl
theorem aOn [ax]:SC (aBg xY):=s0 (.nil _) aOm
def aaU:=qa (pr (cu aP gW) bH)
def JW:=qe qi
abbrev aaV:=JW.B
abbrev Mw:=Int->Bool->Option aaV
def aaW (g:Mw):Ct:=(215,FC aaU (lf JW) (λb=>g b.1 b.2))
def Eu (aF:ch)(x0:Int)(x1:Bool):Pg aaV:=opt (aF x0 1 72057594037927936 x1) λd=>ret d
def o6:=λx0 x1=>(Eu bc x0 x1).val
theorem awl:∀aF,D0 [dY aF] 215 aaU (lf JW) λb=>Eu aF b.1 b.2:=λ_ b=>by kernel_rfl
theorem awm [ax]:SC (aaW o6):=s0 (.c eK (.nil _)) (awl bc)
def ano:=qa (dp (cu aP (c Ae aQd)) λa=>(c wM (cl (cl (gs a.b.1 nC) nil) nil)))
def TH:=qe aW4
abbrev X3:=TH.B
abbrev gf:=NI->NI->Int->Nat->Bool->NI->Bool->Option X3
def AD (g:gf):Ct:=(161,uW 3 [.i .i64] (FC ano (lf TH) (λb=>g b.1.1.1 b.1.1.2 b.1.2.1 b.1.b.1 b.2.1 b.b b.1.b.2)))
def jj:=qs (st (dp (cu aP (us 1 (c ai (us 2 (cu Z' (us 2 (cu aIJ (cu aIL (cu aqu (us 4 (c Ib (c ai aJ7)))))))))))) λa=>(pl (c cD (c (so (cl (gs a.2.1.1 nC) nil)) aXp)) cP)))
def azb:=qs (st (pr (cu aP (us 1 (c ai (us 2 (cu Z' (us 2 (cu aIJ (cu aIL (cu aqu (us 4 (c Ib (c ai aKe)))))))))))) (pl (c cD (c JD aXp)) cP)))
abbrev vA:=((Int×(Nat×Bool)×Int×Int×Bool)×Bool×NI×(NI×NI)×(NI×NI)×Da×NI)
def aeP {ρ:Type}(x:vA)(K:AX->St->Option ρ):Option ρ:=(λd=>K (.ex 0) (azb.em (d.1,d.2.1,(d.1.2.1.1,d.b.1),d.b.2))) x
def GO (aOo:ann)(awn:Mw)(d:jj.B):PL jj vA:=let n3:=d.2.2;let n2:=d.1.2.2;let n1:=(d.1.1,d.1.2.1,n2.1,wI (n2.2+1));let y0:=wI (d.1.1+n2.2);let y1:=wt y0;let y2:=aX y0 24;let y3:=decide (n2.2<n2.1);let y4:=y1*24+y1;ae y3 (ae (aX n2.2 d.1.2.1.1) (opt (aOo y0) λaj=>ae aj (opt (awn (n3.1 (wt n2.2)) d.2.1) λaE=>ae y2 (ae y2 (ae (true&&wl (0+y4*1+1) 576) (ae y2 (ae (true&&wl (0+y1*1+1) 24) (ret (ws (n1,aE.2,n3.1,n3.2.1,n3.2.2.1,λj=>bif ww j y4 then 0 else n3.2.2.2.1 j,λj=>bif ww j y1 then aE.1 else n3.2.2.2.2 j))) no) no) no) no) no) (ret (ws (n1,d.2)))) no) (ret (wr ((d.1.1,d.1.2.1,n2.1,n2.2,y3),d.2)))
def GP:=bC (GO xY o6) 2000
def Mx (TI:Db)(vC:GM)(ew:LT jj vA)(x0:Nat->Int)(x1:Nat->Int)(x2:Int)(x3:Nat)(x4:Bool)(x5:Nat->Int)(w0:Bool):Pg X3:=opt TI λd=>ae (ww x3 x3) (opt (ew ((x2,(x3,w0),wn x3,0),x4,x5,(x0,x1),(λx=>0,λx=>0),d,λx=>0)) λd=>opt (vC d.2.2.2.1.1 d.2.2.2.1.2 d.2.2.2.2.2.1 d.2.2.2.2.2.2 d.2.1) λd=>ret d) no
def de:=λx0 x1 x2 x3 x4 x5 w0=>(Mx nh jX GP x0 x1 x2 x3 x4 x5 w0).val
abbrev My:=Db×ann×Mw×GM×(LT jj vA)
def X4 (p:My):KK:=⟨[Tu p.1,aBg p.2.1,aaW p.b.1,O6 p.b.2.1],⟨[⟨4,(1::3::4::6::7::rg 11 4 (rg 18 24 [])),[]⟩],[fV 4 2 jj aeP p.c],[0],[],(some ⟨0,(rg 0 8 (rg 9 33 [])),[]⟩)⟩,2,161⟩
theorem awo (p:My):LI (X4 p) 4 jj aeP (GO p.2.1 p.b.1):=λ_ d c K=>by kernel_rfl
theorem aGd (p:My):D2 (X4 p) ano (lf TH) λb=>Mx p.1 p.b.2.1 p.c b.1.1.1 b.1.1.2 b.1.2.1 b.1.b.1 b.2.1 b.b b.1.b.2:=λb=>by kernel_rfl
abbrev X5:My:=(nh,xY,o6,jX,GP)
theorem Fq [ax]:SC (AD de):=sc (Sound.nil 3 [.i .i64]<|kS (k:=X4 X5) (.c ajw (.c aOn (.c awm (.c aeO (.nil _))))) [4] [] ⟨kL (awo X5),trivial⟩ trivial (aGd X5))
def awp:=qa (pr (cu aP agf) bH)
def ac8:=qe aEg
abbrev awq:=ac8.B
abbrev awr:=NI->Int->Bool->Option awq
def aws (g:awr):Ct:=(165,FC awp (lf ac8) (λb=>g b.1.1 b.1.2 b.2))
def pK:=qs (st (pr (cu aP (us 3 (cu UB (us 1 (cu Ej (c ai (us 4 (cl ai (us 14 nil))))))))) (pl (c cD Og) cP)))
def anp:=qs (st (pr (cu aP (us 3 (cu UB (us 1 (cu Ej (c ai (us 4 aWa))))))) (pl (c cD Og) cP)))
abbrev Fs:=anp.B
def anq {ρ:Type}:=@ef Fs ((.ex 0)) anp ρ
def X6 (aB:bT)(aF:ch)(d:pK.B):PL pK Fs:=let y0:=wt d.1.2;let y1:=aX d.1.2 24;let y2:=decide (d.1.2<24);ae y2 (ae y1 (opt (aB (d.2.2.1 y0) d.1.1 30 d.2.1) λaj=>opt (aF aj.1 0 72057594037927936 aj.2) λaE=>ae y1 (ae (true&&wl (0+y0*1+1) 24) (ret (ws ((d.1.1,wI (d.1.2+1)),aE.2,λj=>bif ww j y0 then aE.1 else d.2.2.1 j,d.2.2.2))) no) no) no) (ret (wr ((d.1.1,d.1.2,y2),d.2)))
def X7:=bC (X6 aV bc) 2000
def ahS (nI:vz)(ew:LT pK Fs)(x0:Nat->Int)(x1:Int)(x2:Bool):Pg awq:=opt (nI x1 x2) λd=>opt (ew ((d.1,0),d.2,x0,λx=>0)) λd=>ret (d.2.2.1,d.2.1)
def Mz:=λx0 x1 x2=>(ahS jW X7 x0 x1 x2).val
abbrev Vu:=vz×bT×ch×(LT pK Fs)
def ahT (p:Vu):KK:=⟨[GL p.1,fq p.2.1,dY p.b.1],⟨[⟨3,(1::2::3::5::rg 8 4 (rg 13 14 [])),[]⟩],[fV 3 1 pK anq p.b.2],[],[],(some ⟨0,(rg 0 6 (rg 7 20 [])),[]⟩)⟩,1,165⟩
theorem aCV (p:Vu):LI (ahT p) 3 pK anq (X6 p.2.1 p.b.1):=λ_ d c K=>by kernel_rfl
theorem aLt (p:Vu):D2 (ahT p) awp (lf ac8) λb=>ahS p.1 p.b.2 b.1.1 b.1.2 b.2:=λb=>by kernel_rfl
abbrev ahU:Vu:=(jW,aV,bc,X7)
theorem aLu [ax]:SC (aws Mz):=sc (kS (k:=ahT ahU) (.c O4 (.c fO (.c eK (.nil _)))) [3] [] ⟨kL (aCV ahU),trivial⟩ trivial (aLt ahU))
def ajC:=qa (pr (cu aP (c Ae agf)) bH)
def O7:=qe (res (pu (app 1 373) (pr mh (cl aXb nil))))
abbrev ajD:=O7.B
abbrev Jk:=NI->NI->NI->Int->Bool->Option ajD
def TJ (g:Jk):Ct:=(273,FC ajC (lf O7) (λb=>g b.1.1.1 b.1.1.2 b.1.2.1 b.1.b b.2))
def lp:=qs (st (pr (cu aP (us 2 (c ai (us 2 (cu UB (us 2 (cu aIM (us 9 (cl ai (us 98 nil)))))))))) (pl (c cD (c nr (cl SL nil))) cP)))
def aaX:=qs (st (pr (cu aP (us 2 (c ai (us 2 (cu UB (us 2 (cu aIM (us 9 (c ai (cl ab (us 97 nil))))))))))) (pl (c cD (c nr (cl SL nil))) cP)))
abbrev xZ:=aaX.B
def aaY {ρ:Type}:=@ef xZ ((.ex 0)) aaX ρ
def MA (aw:bP)(d:lp.B):PL lp xZ:=let y0:=wt d.1.2;let y1:=aX d.1.2 24;let y2:=decide (d.1.2<24);ae y2 (ae y1 (opt (aw (d.2.2.1 y0) d.2.1) λaj=>ae y1 (ae (true&&wl (0+y0*1+1) 24) (ret (ws ((d.1.1,wI (d.1.2+1)),aj.2,λj=>bif ww j y0 then aj.1 else d.2.2.1 j,d.2.2.2))) no) no) no) (ret (wr ((d.1.1,d.1.2,y2),d.2)))
def MB:=bC (MA aQ) 2000
def lq:=qs (st (dp (cu aP (us 5 (cu UB (us 2 (cu aIM (us 1 (c ai (c aWQ (us 24 (c ai (us 3 (c ai (cl ai (us 75 nil)))))))))))))) λa=>(pl (c cD (c nr (c SL (cl (so (cl (gs a.2.1 nC) nil)) nil)))) cP)))
def awt:=qs (st (pr (cu aP (us 5 (cu UB (us 2 (cu aIM (us 1 (c ai (c aWQ (us 24 (c ai (us 3 (c ai (c ai (cl ab (us 74 nil))))))))))))))) (pl (c cD (c nr (c SL alh))) cP)))
abbrev ya:=((Int×Nat×Int×Int×Int×Bool)×Bool×NI×(NI×NI×NI×NI×NI)×NI)
def aaZ {ρ:Type}(x:ya)(K:AX->St->Option ρ):Option ρ:=(λd=>K (.ex 4) (awt.em (d.1,d.2.1,d.b.1,d.b.2.1,d.1.2.1,d.c))) x
def MC (am0:Xk)(d:lq.B):PL lq ya:=let n2:=d.2.2.2;let n1:=d.1.2.2;let y0:=d.1.2.1+1;let y1:=decide (n1.2.2<n1.2.1);ae y1 (opt (am0 n2.1.1 n2.1.2.1 n1.2.2 d.1.1) λaj=>ae (wl (y0*8) 140737488355328) (ret (ws ((d.1.1,y0,n1.1,n1.2.1,wI (n1.2.2+1)),d.2.1,d.2.2.1,n2.1,λj=>bif ww j d.1.2.1 then aj else n2.2 j))) no) (ret (wr ((d.1.1,d.1.2.1,n1.1,n1.2.1,n1.2.2,y1),d.2)))
def MD:=bC (MC Fb) 2000
def lr:=qs (st (pr (cu aP (us 5 (cu UB (us 2 (cu aIM (us 27 aVV)))))) (pl (c cD (c nr (cl SL nil))) cP)))
def aa0:=qs (st (pr (cu aP (us 5 (cu UB (us 2 (cu aIM (us 27 (c ai (cl ab (us 79 nil))))))))) (pl (c cD (c nr (cl SL nil))) cP)))
abbrev yb:=aa0.B
def aa1 {ρ:Type}:=@ef yb ((.ex 2)) aa0 ρ
def ME (bh:eM)(aB:bT)(cv:fu)(JV:LT lq ya)(d:lr.B):PL lr yb:=let y0:=decide (d.1<24);ae y0 (ae true (opt (JV ((d.1,0,d.1,wI (d.1+1),0),d.2.1,d.2.2.1,d.2.2.2,λx=>0)) λd=>let n2:=d.2.2;let n1:=n2.2.1.2;let n3:=n1.2.2;let y0:=wt d.1.1;let y1:=aX d.1.1 24;let y2:=y0*1;let y3:=wI (d.1.1+1);let y4:=wt y3;let y5:=wl (0+y2+1) 24;let y6:=ww y0 y0;ae (KG y3 24) (ae (ww y4 y4) (ae (ww d.1.2.1 d.1.2.1) (opt (bh 30 y4 d.1.2.1 d.2.1 n2.1 n2.2.2 false true) λaj=>let oN:=bif y6 then aj.1 else n1.2.1 y0;ae y1 (ae (y5&&wl (300+y2+1) 373) (ae y1 (ae y5 (ae y1 (ae y5 (opt (aB (n1.1 y0) oN 30 aj.2) λaE=>ae y1 (ae (y5&&wl (324+y2+1) 373) (ae (aX d.1.1 25) (ae y1 (ae y5 (ae y1 (ae y5 (opt (aB oN (bif y6 then aE.1 else n3.1 y0) 30 aE.2) λbE=>opt (cv 2 bE.2 (cr (n3.2 y0) [bE.1,n3.2 y0]) true) λcC=>ae (aX y3 25) (ae (true&&wl (348+y4*1+1) 373) (ret (ws (wI (d.1.2.2.1+1),cC.2,n2.1,n2.2.1.1,n1.1,λj=>bif ww j y0 then aj.1 else n1.2.1 j,λj=>bif ww j y0 then aE.1 else n3.1 j,λj=>bif ww j y4 then cC.1 else n3.2 j))) no) no) no) no) no) no) no) no) no) no) no) no) no) no) no) no) no) no) no) (ret (wr ((d.1,y0),d.2)))
def MF:=bC (ME bz aV cU MD) 2000
def TK (fX:qy)(aF:ch)(ew:LT lp xZ)(qx:LT lr yb)(x0:Nat->Int)(x1:Nat->Int)(x2:Nat->Int)(x3:Int)(x4:Bool):Pg ajD:=opt (fX x0 x1 x4) λd=>opt (ew ((x3,0),d.2,x2,d.1.1,d.1.2,λx=>0,λx=>0,λx=>0)) λd=>let n1:=d.2.2.2;opt (aF d.1.1 1 72057594037927936 d.2.1) λaj=>opt (qx (0,aj.2,d.2.2.1,n1.1,n1.2.1,n1.2.2.1,n1.2.2.2.1,λj=>bif ww j 0 then aj.1 else n1.2.2.2.2 j)) λd=>ret (d.2.1,d.2.2.2)
def tL:=λx0 x1 x2 x3 x4=>(TK fW bc MB MF x0 x1 x2 x3 x4).val
abbrev xA:=qy×bP×ch×Xk×eM×bT×fu×(LT lp xZ)×(LT lq ya)×(LT lr yb)
def De (p:xA):KK:=⟨[Aw p.1,dx p.2.1,dY p.b.1,avZ p.b.2.1,mW p.c.1,fq p.c.2.1,oP p.c.b.1],⟨[⟨3,(1::2::4::5::7::8::rg 10 9 (rg 20 98 [])),[]⟩,⟨9,(rg 1 5 (7::8::rg 10 27 (rg 38 80 []))),[]⟩,⟨13,(rg 1 5 (7::8::10::rg 13 24 (38::39::40::rg 43 75 []))),[(12,[.i .i64])]⟩],[fV 3 1 lp aaY p.c.b.2.1,fV 13 1 lq aaZ p.d.1,fV 9 1 lr aa1 p.d.2],[],[],(some ⟨0,(rg 0 8 (rg 9 109 [])),[]⟩)⟩,1,273⟩
theorem atQ (p:xA):LI (De p) 3 lp aaY (MA p.2.1):=λ_ d c K=>by kernel_rfl
theorem atS (p:xA):LI (De p) 13 lq aaZ (MC p.b.2.1):=λ_ d c K=>by kernel_rfl
theorem atT (p:xA):LI (De p) 9 lr aa1 (ME p.c.1 p.c.2.1 p.c.b.1 p.d.1):=λ_ d c K=>by kernel_rfl
theorem aCW (p:xA):D2 (De p) ajC (lf O7) λb=>TK p.1 p.b.1 p.c.b.2.1 p.d.2 b.1.1.1 b.1.1.2 b.1.2.1 b.1.b b.2:=λb=>by kernel_rfl
abbrev Df:xA:=(fW,aQ,bc,Fb,bz,aV,cU,MB,MD,MF)
theorem ajE [ax]:SC (TJ tL):=sc (kS (k:=De Df) (.c GG (.c dB (.c eK (.c aFT (.c oQ (.c fO (.c rG (.nil _)))))))) [3,9,13] [] ⟨kL (atQ Df),⟨kL (atT Df),⟨kL (atS Df),trivial⟩⟩⟩ trivial (aCW Df))
def NO:=qa (pr (cu aP (c Ae agf)) bH)
def Cb:=qe qi
abbrev NP:=Cb.B
abbrev NQ:=NI->NI->NI->Int->Bool->Option NP
def NR (g:NQ):Ct:=(268,FC NO (lf Cb) (λb=>g b.1.1.1 b.1.1.2 b.1.2.1 b.1.b b.2))
def DZ (xB:Jk)(x0:Nat->Int)(x1:Nat->Int)(x2:Nat->Int)(x3:Int)(x4:Bool):Pg NP:=opt (xB x0 x1 x2 x3 x4) λd=>ret (d.2.2.2.2.2 24,d.1)
def pZ:=λx0 x1 x2 x3 x4=>(DZ tL x0 x1 x2 x3 x4).val
theorem akR:∀xB,D0 [TJ xB] 268 NO (lf Cb) λb=>DZ xB b.1.1.1 b.1.1.2 b.1.2.1 b.1.b b.2:=λ_ b=>by kernel_rfl
theorem akS [ax]:SC (NR pZ):=s0 (.c ajE (.nil _)) (akR tL)
def aBh:=qa (pl (c af7 aEd) nil)
def ahV:=qe Ho
abbrev aBi:=ahV.B
abbrev aBj:=Int->Int->Int->Int->Option aBi
def aBk (g:aBj):Ct:=(274,FC aBh (lf ahV) (λb=>g b.1.1 b.1.2 b.2.1 b.b))
def anr (x0:Int)(x1:Int)(x2:Int)(x3:Int):Pg aBi:=let y0:=x0==x2;ae (y0&&(x1==x3&&true)) (ret 0) (ae (decide (x0<x2)) (ret (-1)) (ae y0 (ae (decide (x1<x3)) (ret (-1)) (ret 1)) (ret 1)))
def Rt:=λx0 x1 x2 x3=>(anr x0 x1 x2 x3).val
theorem aOp:D0 [] 274 aBh (lf ahV) λb=>anr b.1.1 b.1.2 b.2.1 b.b:=λb=>by kernel_rfl
theorem aOq [ax]:SC (aBk Rt):=s0 (.nil _) aOp
def ant:=qa (pl EV nil)
def TL:=qe DQ
abbrev anu:=TL.B
abbrev anv:=Int->Int->Int->Option anu
def anw (g:anv):Ct:=(269,FC ant (lf TL) (λb=>g b.1 b.2.1 b.b))
def X8 (aw:bP)(cS:nD)(aa2:aBj)(x0:Int)(x1:Int)(x2:Int):Pg anu:=opt (aw x0 false) λd=>opt (aw x1 d.2) λaj=>ae (decide (x2<1)) (ret false) (ae (decide (x2>1000)) (ret false) (ae (decide (aj.1<1)) (ret false) (opt (cS d.1 d.1) λd=>opt (cS (wI (wI (x2*x2)*65536)) aj.1) λaE=>opt (aa2 d.1 d.2 aE.1 aE.2) λd=>ret (decide (d<=0)))))
def Ft:=λx0 x1 x2=>(X8 aQ fC Rt x0 x1 x2).val
theorem aGe:∀aw cS aa2,D0 [dx aw,xL cS,aBk aa2] 269 ant (lf TL) λb=>X8 aw cS aa2 b.1 b.2.1 b.b:=λ_ _ _ b=>by kernel_rfl
theorem aGf [ax]:SC (anw Ft):=s0 (.c dB (.c Bc (.c aOq (.nil _)))) (aGe aQ fC Rt)
def aa3:=qa (pr (cu aP (c Ae agf)) bH)
def JX:=qe (res (pr (ry (c ali (c agb auW))) (pl mh nil)))
abbrev aa4:=JX.B
abbrev aa5:=NI->NI->NI->Int->Bool->Option aa4
def aa6 (g:aa5):Ct:=(270,FC aa3 (lf JX) (λb=>g b.1.1.1 b.1.1.2 b.1.2.1 b.1.b b.2))
def jm:=qs (st (pr (cu aP (us 7 (cu G8 (cu Ej (us 1 (cu aIN (cu NM (cu aqu (c ai (c ai (us 13 (c ai (us 52 (c ai (cl ai (us 65 nil)))))))))))))))) (pl (c cD (c iX (c nr (c SL (c iX JC))))) cP)))
def UG:=qs (st (pr (cu aP (us 7 (cu G8 (cu Ej (us 1 (cu aIN (cu NM (cu aqu (c ai (c ai (us 13 (c ai (us 52 (c ai (c ai (cl ab (us 64 nil))))))))))))))))) (pl (c cD (c iX (c nr (c SL (c iX JC))))) cP)))
abbrev tY:=UG.B
def UH {ρ:Type}:=@ef tY ((.ex 2)) UG ρ
def HA (am0:Xk)(aB:bT)(cv:fu)(atO:Xl)(d:jm.B):PL jm tY:=let n4:=d.1.1;let n3:=d.1.2;let n2:=d.2.2.2.2;let n1:=n3.2.2;let y0:=wt n4;let y1:=wt n1.2;let y2:=aX n1.2 24;let y3:=decide (n1.2<n1.1);ae y3 (opt (am0 n2.1.1 n2.1.2.1 n1.2 n4) λaj=>ae y2 (opt (aB (n2.2.2 y1) n3.1 44 d.2.1) λaE=>opt (cv 2 aE.2 (cr aj [aE.1,aj]) true) λbE=>opt (atO n2.2.1.1 n2.2.1.2 n1.2 n4 bE.1) λcC=>ae y2 (ae (aX n4 24) (ae (wl (0+y0*1+1) 24) (opt (aB aj (n2.1.2.2.2.1 y0) 30 bE.2) λeJ=>opt (cv 2 eJ.2 (cr (n2.2.2 y1) [eJ.1,n2.2.2 y1]) true) λc9=>ae y2 (ae (true&&wl (0+y1*1+1) 24) (ret (ws ((n4,n3.1,n3.2.1,n1.1,wI (n1.2+1)),c9.2,d.2.2.1,d.2.2.2.1,n2.1,cC,λj=>bif ww j y1 then c9.1 else n2.2.2 j))) no) no) no) no) no) no) (ret (wr ((n4,n3.1,n3.2.1,n1.1,n1.2,y3),d.2)))
def HB:=bC (HA Fb aV cU zd) 2000
def jo:=qs (st (pr (cu aP (us 7 (cu G8 (cu Ej (us 1 (cu aIN (cu NM (cu aqu (us 4 (cu (app 6 24) (us 107 aVU))))))))))) (pl (c cD (c iX (c nr (c SL (c iX Og))))) cP)))
def UI:=qs (st (pr (cu aP (us 7 (cu G8 (cu Ej (us 1 (cu aIN (cu NM (cu aqu (us 4 (cu (app 6 24) (us 107 (c ai aPW)))))))))))) (pl (c cD (c iX (c nr (c SL (c iX Og))))) cP)))
abbrev tZ:=UI.B
def UJ {ρ:Type}:=@ef tZ ((.ex 4)) UI ρ
def HC (aD:cL)(d:jo.B):PL jo tZ:=let n1:=d.2.2.2.2;let y0:=wt d.1;let y1:=aX d.1 24;let y2:=decide (d.1<24);ae y2 (ae y1 (opt (aD (n1.2.2.1 y0) (n1.1.2.2.2.2 24) 30 d.2.1) λaj=>ae y1 (ae (true&&wl (0+y0*1+1) 24) (ret (ws (wI (d.1+1),aj.2,d.2.2.1,d.2.2.2.1,n1.1,n1.2.1,n1.2.2.1,λj=>bif ww j y0 then aj.1 else n1.2.2.2 j))) no) no) no) (ret (wr ((d.1,y2),d.2)))
def HD:=bC (HC bu) 2000
def jq:=qs (st (pr (cu aP (us 7 (cu G8 (cu Ej (us 1 (cu aIN (cu NM (cu aqu (us 15 (cl ai (us 119 nil))))))))))) (pl (c cD (c iX (c nr (c SL (c iX JC))))) cP)))
def UK:=qs (st (pr (cu aP (us 7 (cu G8 (cu Ej (us 1 (cu aIN (cu NM (cu aqu (us 15 (c ai (cl ab (us 118 nil)))))))))))) (pl (c cD (c iX (c nr (c SL (c iX JC))))) cP)))
abbrev ua:=UK.B
def UL {ρ:Type}:=@ef ua ((.ex 0)) UK ρ
def HE (aq:cx)(aF:ch)(aD:cL)(qx:LT jm tY)(d:jq.B):PL jq ua:=let n1:=d.2.2.2.2;let n2:=n1.1.2.2;let y0:=wt d.1;let y1:=aX d.1 25;let y2:=aX d.1 24;let y3:=y0*1;let y4:=wI (d.1+1);let y5:=wl (0+y3+1) 24;let y6:=decide (d.1<24);ae y6 (ae y2 (ae y5 (ae y1 (ae (aX y4 25) (opt (aq (n1.1.2.1 y0) (n2.2.2 y0) (n2.2.2 (wt y4)) d.2.1) λaj=>opt (aF aj.1 1 72057594037927936 aj.2) λaE=>ae y2 (ae (true&&wl (276+y3+1) 300) (ae y2 (ae y5 (ae y1 (opt (aD (n2.1 y0) (n2.2.2 y0) 44 aE.2) λbE=>ae y2 (ae y5 (ae y2 (ae (true&&y5) (opt (qx ((d.1,wI (0-bE.1),d.1,d.1,0),bE.2,d.2.2.1,d.2.2.2.1,n1.1,(n1.2.1.1,λj=>bif ww j y0 then aE.1 else n1.2.1.2 j),λj=>bif ww j y0 then n2.2.1 y0 else n1.2.2 j)) λd=>ret (ws (wI (d.1.2.2.1+1),d.2))) no) no) no) no) no) no) no) no) no) no) no) no) no) (ret (wr ((d.1,y6),d.2)))
def HF:=bC (HE aU bc bu HB) 2000
def MG (xB:Jk)(JV:LT jo tZ)(ew:LT jq ua)(x0:Nat->Int)(x1:Nat->Int)(x2:Nat->Int)(x3:Int)(x4:Bool):Pg aa4:=opt (xB x0 x1 x2 x3 x4) λd=>opt (ew (0,d.1,(λx=>0,λx=>0),λx=>0,d.2,(d.2.1,d.2.2.1),λx=>0)) λd=>opt (JV (0,d.2.1,d.2.2.1,d.2.2.2.1,d.2.2.2.2.1,d.2.2.2.2.2.1,d.2.2.2.2.2.2,λx=>0)) λd=>ret ((d.2.2.2.2.2.1,d.2.2.2.2.2.2.2,d.2.2.2.2.1.2.2.2.2 24),d.2.1)
def yc:=λx0 x1 x2 x3 x4=>(MG tL HD HF x0 x1 x2 x3 x4).val
abbrev tn:=Jk×cx×ch×cL×Xk×bT×fu×Xl×(LT jm tY)×(LT jo tZ)×(LT jq ua)
def yd (p:tn):KK:=⟨[TJ p.1,dt p.2.1,dY p.b.1,gA p.b.2.1,avZ p.c.1,fq p.c.2.1,oP p.c.b.1,atJ p.c.b.2.1],⟨[⟨5,(rg 1 7 (10::rg 14 15 (rg 30 119 []))),[]⟩,⟨11,(rg 1 7 (10::rg 16 13 (rg 30 52 (rg 84 65 [])))),[]⟩,⟨20,(rg 1 7 (10::rg 14 4 (rg 19 107 (rg 127 22 [])))),[]⟩],[fV 11 1 jm UH p.d.1,fV 20 1 jo UJ p.d.2.1,fV 5 1 jq UL p.d.b],[],[],(some ⟨0,(rg 0 8 (rg 11 138 [])),[]⟩)⟩,1,270⟩
theorem anx (p:tn):LI (yd p) 11 jm UH (HA p.c.1 p.c.2.1 p.c.b.1 p.c.b.2.1):=λ_ d c K=>by kernel_rfl
theorem anz (p:tn):LI (yd p) 20 jo UJ (HC p.b.2.1):=λ_ d c K=>by kernel_rfl
theorem anA (p:tn):LI (yd p) 5 jq UL (HE p.2.1 p.b.1 p.b.2.1 p.d.1):=λ_ d c K=>by kernel_rfl
theorem awu (p:tn):D2 (yd p) aa3 (lf JX) λb=>MG p.1 p.d.2.1 p.d.b b.1.1.1 b.1.1.2 b.1.2.1 b.1.b b.2:=λb=>by kernel_rfl
abbrev yf:tn:=(tL,aU,bc,bu,Fb,aV,cU,zd,HB,HD,HF)
theorem awv [ax]:SC (aa6 yc):=sc (kS (k:=yd yf) (.c ajE (.c dE (.c eK (.c iy (.c aFT (.c fO (.c rG (.c aFW (.nil _))))))))) [5,11,20] [] ⟨kL (anA yf),⟨kL (anx yf),⟨kL (anz yf),trivial⟩⟩⟩ trivial (awu yf))
def ajF:=qa (pr (cu aP agf) bH)
def O8:=qe aEg
abbrev ajG:=O8.B
abbrev ajH:=NI->Int->Bool->Option ajG
def ajI (g:ajH):Ct:=(272,FC ajF (lf O8) (λb=>g b.1.1 b.1.2 b.2))
def lu:=qs (st (pr (cu aP (us 1 (c ai (us 1 (cu UB (us 1 (cu Ej (us 1 aVW)))))))) (pl (c cD Og) cP)))
def aa7:=qs (st (pr (cu aP (us 1 (c ai (us 1 (cu UB (us 1 (cu Ej (us 1 aQa)))))))) (pl (c cD Og) cP)))
abbrev yg:=aa7.B
def aa8 {ρ:Type}:=@ef yg ((.ex 0)) aa7 ρ
def MH (aB:bT)(d:lu.B):PL lu yg:=let y0:=wt d.1.2;let y1:=aX d.1.2 24;let y2:=decide (d.1.2<24);ae y2 (ae y1 (opt (aB (d.2.2.1 y0) d.1.1 30 d.2.1) λaj=>ae y1 (ae (true&&wl (0+y0*1+1) 24) (ret (ws ((d.1.1,wI (d.1.2+1)),aj.2,λj=>bif ww j y0 then aj.1 else d.2.2.1 j,d.2.2.2))) no) no) no) (ret (wr ((d.1.1,d.1.2,y2),d.2)))
def MI:=bC (MH aV) 2000
def TM (ew:LT lu yg)(x0:Nat->Int)(x1:Int)(x2:Bool):Pg ajG:=opt (ew ((x1,0),x2,x0,λx=>0)) λd=>ret (d.2.2.1,d.2.1)
def Dg:=λx0 x1 x2=>(TM MI x0 x1 x2).val
abbrev Jl:=bT×(LT lu yg)
def TN (p:Jl):KK:=⟨[fq p.1],⟨[⟨2,(1::3::5::7::rg 9 12 []),[]⟩],[fV 2 1 lu aa8 p.2],[0],[],(some ⟨0,(rg 0 6 (rg 7 14 [])),[]⟩)⟩,1,272⟩
theorem atU (p:Jl):LI (TN p) 2 lu aa8 (MH p.1):=λ_ d c K=>by kernel_rfl
theorem aCX (p:Jl):D2 (TN p) ajF (lf O8) λb=>TM p.2 b.1.1 b.1.2 b.2:=λb=>by kernel_rfl
abbrev TO:Jl:=(aV,MI)
theorem aCY [ax]:SC (ajI Dg):=sc (kS (k:=TN TO) (.c fO (.nil _)) [2] [] ⟨kL (atU TO),trivial⟩ trivial (aCX TO))
def MJ:=qa (dp (cu aP (c kY (cl aMW nil))) λa=>(c wM (cl (cl (gs a.2.1 aEm) nil) nil)))
def ac9:=qe (res (pr kY (pl Oe nil)))
abbrev aww:=ac9.B
abbrev awx:=MJ.B->Option aww
def awy (g:awx):Ct:=(271,uW 2 [.i .i64,.i .i64,.i .i64,.i .i64,.i .i64,.i .i64,.i .i64,.i .i64,.i .i64,.i .i64,.i .i64,.i .i64,.i .i64,.i .i64,.i .i64,.i .i64,.i .i64,.i .i64,.i .i64,.i .i64,.i .i64,.i .i64,.i .i64,.i .i64] (FC MJ (lf ac9) g))
def pL:=qs (st (dp (cu aP (us 3 (cu Ej (us 1 (cu aiY (us 1 (cu aqs (us 7 (c aMW (c ai (c ai (us 3 aJ7)))))))))))) λa=>(pl (c cD (c (so (cl (gs a.1.1 aEm) nil)) aKu)) cP)))
def aGg:=qs (st (pr (cu aP (us 3 (cu Ej (us 1 (cu aiY (us 1 (cu aqs (us 7 (c aMW (c ai (c ai (us 3 aKe)))))))))))) (pl (c cD (c aXr aKu)) cP)))
abbrev Fu:=(((Nat×Bool)×Int×Int×Int×Bool)×Bool×a0R×NI×NI×NI)
def anB {ρ:Type}(x:Fu)(K:AX->St->Option ρ):Option ρ:=(λd=>K (.ex 2) (aGg.em (d.1,d.2.1,(d.1.1.1,d.b.1),d.b.2))) x
def X9 (cv:fu)(d:pL.B):PL pL Fu:=let n2:=d.2.2.2;let n1:=d.1.2.2;let y0:=wt n1.2;let y1:=aX n1.2 24;let y2:=decide (n1.2<24);ae y2 (ae y1 (ae y1 (opt (cv 2 d.2.1 (cr (n2.1 y0) [n2.2.2 y0,n2.1 y0]) true) λaj=>ae y1 (ae (true&&wl (0+y0*1+1) 24) (ret (ws ((d.1.1,d.1.2.1,n1.1,wI (n1.2+1)),aj.2,d.2.2.1,λj=>bif ww j y0 then aj.1 else n2.1 j,n2.2))) no) no) no) no) (ret (wr ((d.1.1,d.1.2.1,n1.1,n1.2,y2),d.2)))
def X':=bC (X9 cU) 2000
def pM:=qs (st (dp (cu aP (us 3 (cu Ej (us 1 (cu aiY (us 9 (c aMW (c ai (cl ai (us 28 nil)))))))))) λa=>(pl (c cD (c (so (cl (gs a.1.1 aEm) nil)) Og)) cP)))
def aGh:=qs (st (pr (cu aP (us 3 (cu Ej (us 1 (cu aiY (us 9 (c aMW (c ai (c ai (cl ab aVL)))))))))) (pl (c cD (c aXr Og)) cP)))
abbrev Fv:=(aML×Bool×a0R×NI×NI)
def anC {ρ:Type}(x:Fv)(K:AX->St->Option ρ):Option ρ:=(λd=>K (.ex 0) (aGh.em (d.1,d.2.1,(d.1.1.1,d.b.1),d.b.2))) x
def Ya (bg:eo)(bx:iO)(xy:Jj)(vT:Mq)(qx:LT pL Fu)(d:pM.B):PL pM Fv:=let n9:=d.1.1;let n5:=d.1.2;let n4:=d.2.2.1;let n2:=n4.2.2.2;let n6:=n2.2.2.2;let n1:=n6.2.2.2.2;let n8:=n1.2.2.2;let n3:=n8.2.2.2;let n7:=n3.2.2.2;let y0:=wt n5.2;let y1:=decide (n5.2<n5.1);ae y1 (ae (aX n5.2 n9.1) (ae (ww n9.1 n9.1) (opt (qx ((n9,n5.1,n5.2,0),d.2.1,n4,d.2.2.2.1,d.2.2.2.2,cr (n4.1 y0) [n7.2.2.2.2 y0,n7.2.2.2.1 y0,n7.2.2.1 y0,n7.2.1 y0,n7.1 y0,n3.2.2.1 y0,n3.2.1 y0,n3.1 y0,n8.2.2.1 y0,n8.2.1 y0,n8.1 y0,n1.2.2.1 y0,n1.2.1 y0,n1.1 y0,n6.2.2.2.1 y0,n6.2.2.1 y0,n6.2.1 y0,n6.1 y0,n2.2.2.1 y0,n2.2.1 y0,n2.1 y0,n4.2.2.1 y0,n4.2.1 y0,n4.1 y0])) λd=>opt (bg d.2.2.2.1) λaj=>opt (bx aj.1 aj.2.1 aj.2.2.1 aj.2.2.2 d.2.1) λaE=>opt (xy d.2.2.2.1 aE.1.1 aE.1.2.1 aE.1.2.2.1 aE.1.2.2.2) λbE=>opt (vT bE aE.2) λcC=>ret (ws ((d.1.1,d.1.2.1,wI (d.1.2.2.1+1)),cC.2,d.2.2.1,cC.1,d.2.2.2.2.1))) no) no) (ret (wr ((n9,n5.1,n5.2,y1),d.2)))
def Yb:=bC (Ya cy dy tJ vS X') 2000
def ahW (aN:fw)(ew:LT pM Fv)(x:MJ.B):Pg aww:=let y0:=wn x.1.2.1;ae (y0==0) (opt (aN x.1.1 x.2.1) λd=>ret d) (ae (ww x.1.2.1 x.1.2.1) (opt (ew ((x.1.2,y0,0),x.2.1,x.2.2,x.1.1,λx=>0)) λd=>ret (d.2.2.2.1,d.2.1)) no)
def MK:=λx=>(ahW cw Yb x).val
abbrev ML:=fw×fu×eo×iO×Jj×Mq×(LT pL Fu)×(LT pM Fv)
def Vv (p:ML):KK:=⟨[ji p.1,oP p.2.1,jE p.b.1,ni p.b.2.1,Tz p.c.1,XJ p.c.2.1],⟨[⟨4,(1::2::3::5::rg 7 9 (rg 19 28 [])),[]⟩,⟨7,(1::2::3::5::7::rg 9 7 (19::20::21::rg 23 24 [])),[]⟩],[fV 7 2 pL anB p.c.b.1,fV 4 2 pM anC p.c.b.2],[0],[],(some ⟨0,(rg 0 6 (rg 7 40 [])),[]⟩)⟩,2,271⟩
theorem aCZ (p:ML):LI (Vv p) 7 pL anB (X9 p.2.1):=λ_ d c K=>by kernel_rfl
theorem aC0 (p:ML):LI (Vv p) 4 pM anC (Ya p.b.1 p.b.2.1 p.c.1 p.c.2.1 p.c.b.1):=λ_ d c K=>by kernel_rfl
theorem aLv (p:ML):D2 (Vv p) MJ (lf ac9) λb=>ahW p.1 p.c.b.2 b:=λb=>by kernel_rfl
abbrev Vx:ML:=(cw,cU,cy,dy,tJ,vS,X',Yb)
theorem aLw [ax]:SC (awy MK):=sc (Sound.nil 2 [.i .i64,.i .i64,.i .i64,.i .i64,.i .i64,.i .i64,.i .i64,.i .i64,.i .i64,.i .i64,.i .i64,.i .i64,.i .i64,.i .i64,.i .i64,.i .i64,.i .i64,.i .i64,.i .i64,.i .i64,.i .i64,.i .i64,.i .i64,.i .i64]<|kS (k:=Vv Vx) (.c jV (.c rG (.c km (.c oZ (.c ajz (.c ane (.nil _))))))) [4,7] [] ⟨kL (aC0 Vx),⟨kL (aCZ Vx),trivial⟩⟩ trivial (aLv Vx))
def aBl:=qa (pr (cu aP (c kY (c Ae aWI))) bH)
def ahX:=qe (res (pr (ry (c agb (c ali (cl (ra aKd) nil)))) (pl mh nil)))
abbrev aBm:=ahX.B
abbrev anD:=NI->NI->NI->NI->Int->Int->Int->Bool->Option aBm
def aBn (g:anD):Ct:=(264,FC aBl (lf ahX) (λb=>g b.1.1 b.1.2.1.1 b.1.2.1.2 b.1.b.1 b.1.b.2.1 b.1.c.1 b.1.c.2 b.2))
def anE (aN:fw)(fX:qy)(aw:bP)(wE:NQ)(MM:anv)(Ew:aa5)(Jm:ajH)(Vy:awx)(x0:Nat->Int)(x1:Nat->Int)(x2:Nat->Int)(x3:Nat->Int)(x4:Int)(x5:Int)(x6:Int)(x7:Bool):Pg aBm:=opt (aN x0 x7) λd=>opt (fX x1 x2 d.2) λaj=>opt (aw x4 aj.2) λaE=>opt (wE aj.1.1 aj.1.2 x3 x5 aE.2) λbE=>opt (MM aE.1 bE.1 x6) λcC=>ae (!cC) (ret ((d.1,aj.1,false,aE.1,bE.1),bE.2)) (opt (Ew aj.1.1 aj.1.2 x3 x5 bE.2) λeJ=>opt (Jm eJ.1.2.1 aE.1 eJ.2) λc9=>opt (Vy ((d.1,1,true),c9.2,λj=>bif ww j 0 then c9.1 0 else c9.1 0,λj=>bif ww j 0 then c9.1 1 else c9.1 1,λj=>bif ww j 0 then c9.1 2 else c9.1 2,λj=>bif ww j 0 then c9.1 3 else c9.1 3,λj=>bif ww j 0 then c9.1 4 else c9.1 4,λj=>bif ww j 0 then c9.1 5 else c9.1 5,λj=>bif ww j 0 then c9.1 6 else c9.1 6,λj=>bif ww j 0 then c9.1 7 else c9.1 7,λj=>bif ww j 0 then c9.1 8 else c9.1 8,λj=>bif ww j 0 then c9.1 9 else c9.1 9,λj=>bif ww j 0 then c9.1 10 else c9.1 10,λj=>bif ww j 0 then c9.1 11 else c9.1 11,λj=>bif ww j 0 then c9.1 12 else c9.1 12,λj=>bif ww j 0 then c9.1 13 else c9.1 13,λj=>bif ww j 0 then c9.1 14 else c9.1 14,λj=>bif ww j 0 then c9.1 15 else c9.1 15,λj=>bif ww j 0 then c9.1 16 else c9.1 16,λj=>bif ww j 0 then c9.1 17 else c9.1 17,λj=>bif ww j 0 then c9.1 18 else c9.1 18,λj=>bif ww j 0 then c9.1 19 else c9.1 19,λj=>bif ww j 0 then c9.1 20 else c9.1 20,λj=>bif ww j 0 then c9.1 21 else c9.1 21,λj=>bif ww j 0 then c9.1 22 else c9.1 22,λj=>bif ww j 0 then c9.1 23 else c9.1 23)) λd=>ret ((d.1,eJ.1.1,true,aE.1,bE.1),d.2))
def Ru:=λx0 x1 x2 x3 x4 x5 x6 x7=>(anE cw fW aQ pZ Ft yc Dg MK x0 x1 x2 x3 x4 x5 x6 x7).val
theorem aOr:∀aN fX aw wE MM Ew Jm Vy,D0 [ji aN,Aw fX,dx aw,NR wE,anw MM,aa6 Ew,ajI Jm,awy Vy] 264 aBl (lf ahX) λb=>anE aN fX aw wE MM Ew Jm Vy b.1.1 b.1.2.1.1 b.1.2.1.2 b.1.b.1 b.1.b.2.1 b.1.c.1 b.1.c.2 b.2:=λ_ _ _ _ _ _ _ _ b=>by kernel_rfl
theorem aOs [ax]:SC (aBn Ru):=s0 (.c jV (.c GG (.c dB (.c akS (.c aGf (.c awv (.c aCY (.c aLw (.nil _))))))))) (aOr cw fW aQ pZ Ft yc Dg MK)
end Go.Proofs.YtldgljclcgaibaaGreat
namespace Go.Ab
theorem GQ (n:Int):IntKind.wrap .i64 n=if 9223372036854775808<=n%18446744073709551616 then n%18446744073709551616-18446744073709551616 else n%18446744073709551616:=by
 unfold IntKind.wrap;simp only[IntKind.signed,IntKind.bits,oK,ke,show(2:Int)^64=18446744073709551616 from rfl,show(2:Int)^(64-1)=9223372036854775808 from rfl,Gs]
theorem qO (a b:Int)(h:0<=b):Int.fdiv a b=a/b:=Int.fdiv_eq_ediv_of_nonneg a h
theorem Vz (x:Int)(h0:0<=x)(h1:x<18446744073709551616):(wd 64 x).toNat=x.toNat:=by
 rw[BitVec.toNat_ofInt];congr 1
 simp only[Nat.reducePow,Int.cast_ofNat_Int];omega
theorem aeQ (x:Int)(h0:0<=x)(h1:x<18446744073709551616):wn (ul (wd 64 18446744073709551615^^^wd 64 x))=18446744073709551615-x:=by
 have e:wd 64 18446744073709551615=BitVec.allOnes 64:=by decide
 rw[e,BitVec.allOnes_xor,BitVec.toNat_not,Vz x h0 h1];simp only[cF];omega
theorem apz (x:Int)(h0:0<=x)(h1:x<18446744073709551616):wn (ul (wd 64 x&&&wd 64 4294967295))=x%4294967296:=by
 rw[BitVec.toNat_and,Vz x h0 h1];have e:(wd 64 4294967295).toNat=2^32-1:=by decide
 rw[e,Nat.and_two_pow_sub_one_eq_mod];simp only[cF];omega
theorem azc (x y:Int)(k:Nat)(h0:0<=x)(h1:x<2^k)(h2:0<=y)(h3:y<18446744073709551616)(h4:x<18446744073709551616)(h5:y%2^k=0):
  wn (ul (wd 64 x|||wd 64 y))=x+y:=by
 rw[BitVec.toNat_or,Vz x h0 h4,Vz y h2 h3]
 obtain⟨q,hq⟩:∃q:Nat,y.toNat=2^k*q:=by
  refine⟨y.toNat/2^k,?_⟩
  have:y.toNat%2^k=0:=by
   have e:((y.toNat%2^k:Nat):Int)=y%2^k:=by
    rw[Int.natCast_emod,Int.toNat_of_nonneg h2];simp
   omega
  exact(Nat.mul_div_cancel' (aEt this)).symm
 have hx:x.toNat<2^k:=by
  have e:((2^k:Nat):Int)=(2:Int)^k:=by simp
  omega
 rw[hq,Nat.or_comm,<-Nat.two_pow_add_eq_or_of_lt hx,<-hq];simp only[cF];omega
end Go.Ab
namespace Go.Proofs.YtldgljclcgaibaaGreat
open Go.Ab
abbrev okW (h l:Int):Prop:= -9223372036854775808<=h/\h<=9223372036854775807/\0<=l/\l<18446744073709551616
abbrev vW (h l:Int):Int:=h*18446744073709551616+l
theorem aYE (x:Int)(h0: -9223372036854775808<=x)(h1:x<=9223372036854775807):∃h l,WT x=some (h,l)/\okW h l/\vW h l=x:=by
 unfold vW;simp only[WT,atB,Pg.cg,Pg.bN,Pg.cq,Pg.fe,Pg.eu];try delta wI wU
 refine⟨_,_,rfl,?_,?_⟩<;>rw[wrap_u64,qO _ _ (by omega)]<;>omega
theorem O9 (x y c:Int)(x0:0<=x)(y0:0<=y)(c0:0<=c)(c1:c<=1):CX x y c=some ((x+y+c)%18446744073709551616,(x+y+c)/18446744073709551616):=by
 unfold CX;have h:wl c.toNat 1=true:=aKA (by omega);rw[h,bn];congr 1
 unfold aYk aYl;simp only[cF,ql];constructor<;>omega
theorem azd (h1 l1 h2 l2:Int)(o1:okW h1 l1)(o2:okW h2 l2):∃h l b,KO h1 l1 h2 l2=some ((h,l),b)/\okW h l/\(b=true↔ -170141183460469231731687303715884105728<=vW h1 l1+vW h2 l2/\vW h1 l1+vW h2 l2<170141183460469231731687303715884105728)/\(b=true->vW h l=vW h1 l1+vW h2 l2):=by
 obtain⟨a1,a2,a3,a4⟩:=o1;obtain⟨b1,b2,b3,b4⟩:=o2;unfold vW;simp only[KO,amk,Pg.cg,Pg.bN,Pg.cq,Pg.fe,Pg.eu];try delta wI wU
 rw[O9 l1 l2 0 a3 b3 (by omega) (by omega)];simp only[bM,wrap_u64];rw[O9 _ _ _ (by omega) (by omega) (by omega) (by omega)];simp only[bM];generalize hc:(l1+l2+0)/18446744073709551616=c
 generalize hl:(l1+l2+0)%18446744073709551616=l
 generalize hm:(h1%18446744073709551616+h2%18446744073709551616+c)%18446744073709551616=m
 have hw:=GQ m;generalize IntKind.wrap IntKind.i64 m=w at*
 have hw1:w=m∨w=m-18446744073709551616:=by split at hw<;>omega
 have hw2: -9223372036854775808<=w/\w<=9223372036854775807:=by split at hw<;>omega
 by_cases n1:h1<0
 .by_cases n2:h2<0
  .have e:(!decide (h1<0)==decide (h2<0))=false:=by simp[n1,n2]
   simp only[e,bA];refine⟨w,l,_,rfl,⟨hw2.1,hw2.2,by omega,by omega⟩,?_,?_⟩
   .simp only[n1,I1,beq_true,ke];constructor<;>intro h<;>omega
   .simp only[n1,I1,beq_true,ke];intro h;omega
  .have e:(!decide (h1<0)==decide (h2<0))=true:=by simp[n1,n2]
   simp only[e,bn];refine⟨w,l,_,rfl,⟨hw2.1,hw2.2,by omega,by omega⟩,?_,?_⟩
   .simp only[true_iff];constructor<;>omega
   .intro h;omega
 .by_cases n2:h2<0
  .have e:(!decide (h1<0)==decide (h2<0))=true:=by simp[n1,n2]
   simp only[e,bn];refine⟨w,l,_,rfl,⟨hw2.1,hw2.2,by omega,by omega⟩,?_,?_⟩
   .simp only[true_iff];constructor<;>omega
   .intro h;omega
  .have e:(!decide (h1<0)==decide (h2<0))=false:=by simp[n1,n2]
   simp only[e,bA];refine⟨w,l,_,rfl,⟨hw2.1,hw2.2,by omega,by omega⟩,?_,?_⟩
   .simp only[n1,JM,_root_.beq_false,oJ,abW];constructor<;>intro h<;>omega
   .simp only[n1,JM,_root_.beq_false,oJ,abW];intro h;omega
theorem aJt (h l:Int)(o:okW h l):∃ah al,Fa h l=some ((ah,al),decide (h<0))/\0<=ah/\ah<=9223372036854775808/\0<=al/\al<18446744073709551616/\ah*18446744073709551616+al=(if h<0 then -vW h l else vW h l):=by
 obtain⟨a1,a2,a3,a4⟩:=o;unfold vW;simp only[Fa,al6,Pg.cg,Pg.bN,Pg.cq,Pg.fe,Pg.eu];try delta wI wU
 by_cases n:h<0
 .have e:decide (h>=0)=false:=cG (by omega);simp only[e,bA,aeQ l a3 a4,wrap_u64];rw[aeQ (h%18446744073709551616) (by omega) (by omega),O9 _ _ _ (by omega) (by omega) (by omega) (by omega)];simp only[bM,n,I1,kR];refine⟨_,_,rfl,?_,?_,?_,?_,?_⟩<;>omega
 .have e:decide (h>=0)=true:=dA (by omega);simp only[e,bn,wrap_u64,n,JM,fY];refine⟨_,_,rfl,?_,?_,?_,?_,?_⟩<;>omega
theorem aJu (h1 l1 h2 l2:Int)(a0:0<=h1)(b0:0<=l1)(c0:0<=h2)(d0:0<=l2)(b1:l1<18446744073709551616)(d1:l2<18446744073709551616):
  iZ h1 l1 h2 l2=some ((h1+h2+(l1+l2)/18446744073709551616)%18446744073709551616,(l1+l2)%18446744073709551616):=by
 simp only[iZ,OE,Pg.cg,Pg.bN,Pg.cq,Pg.fe,Pg.eu];try delta wI wU
 rw[O9 _ _ _ b0 d0 (by omega) (by omega)];simp only[bM,Int.add_zero];rw[O9 _ _ _ a0 c0 (by omega) (by omega)];rfl
theorem aYF (n:Nat)(hn:n<126):gY 0 1 (wn n)=some (2^n/18446744073709551616,2^n%18446744073709551616):=by
 have key:∀n:Fin 126,gY 0 1 (wn n.val)=some ((2:Int)^n.val/18446744073709551616,(2:Int)^n.val%18446744073709551616):=by decide+kernel
 exact key ⟨n,hn⟩
theorem lU (n:Nat):(0:Int)<2^n:=Int.pow_pos (by decide)
theorem awz (h l:Int)(s:Nat)(hs:s<=126)(h0:0<=h)(h1:h<18446744073709551616)(l0:0<=l)(l1:l<18446744073709551616):
  ∃h' l',iU h l (wn s)=some (h',l')/\0<=h'/\0<=l'/\l'<18446744073709551616/\h'*18446744073709551616+l'=(h*18446744073709551616+l)/2^s:=by
 simp only[iU,I5,Pg.cg,Pg.bN,Pg.cq,Pg.fe,Pg.eu];try delta wI wU
 by_cases c:64<=s
 .have e:decide (wn s>=64)=true:=by simp only[cF];exact dA (by omega)
  have e2:IntKind.wrap .i64 (wn s-64)=wn (s-64):=(wrap_i64 (by simp only[cF];omega) (by simp only[cF];omega)).trans (by simp only[cF];omega);have e3:(!decide (wn (s-64)<0))=true:=by simp
  have e4:min (wt (wn (s-64))) 64=s-64:=by
   show min (s-64) 64=s-64;omega
  simp only[e,e2,e3,e4,bn];rw[qO _ _ (oS (lU _))];refine⟨_,_,rfl,by omega,DT h0 (oS (lU _)),Int.lt_of_le_of_lt (ayj _ h0) h1,?_⟩
  have p:(2:Int)^s=18446744073709551616*2^(s-64):=by
   rw[show(18446744073709551616:Int)=2^64 from rfl,<-Int.pow_add];congr 1;omega
  rw[p,<-Int.ediv_ediv_of_nonneg (by decide)];have:(h*18446744073709551616+l)/18446744073709551616=h:=by omega
  rw[this];omega
 .have e:decide (wn s>=64)=false:=by simp only[cF];exact cG (by omega)
  have e2:IntKind.wrap .i64 (64-wn s)=wn (64-s):=(wrap_i64 (by simp only[cF];omega) (by simp only[cF];omega)).trans (by simp only[cF];omega);have e3:∀n,(!decide (wn n<0))=true:=by simp
  have e4:min (wt (wn (64-s))) 64=64-s:=by
   show min (64-s) 64=64-s;omega
  have e5:min (wt (wn s)) 64=s:=by
   show min s 64=s;omega
  simp only[e,e2,e3,e4,e5,bn,bA,wrap_u64];rw[qO _ _ (oS (lU _)),qO _ _ (oS (lU _))]
  have pq:(18446744073709551616:Int)=2^s*2^(64-s):=by
   rw[<-Int.pow_add,show s+(64-s)=64 by omega];rfl
  generalize hP:(2:Int)^s=P at*
  generalize hQ:(2:Int)^(64-s)=Q at*
  have P0:0<P:=by rw[<-hP];exact lU s
  have Q0:0<Q:=by rw[<-hQ];exact lU (64-s)
  have m:h*Q%18446744073709551616=h%P*Q:=by
   rw[pq,Ag h Q,Ag P Q,Int.mul_emod_mul_of_pos _ _ Q0,Ag]
  have x0:0<=l/P:=DT l0 (oS P0);have x1:l/P<Q:=abX P0 (by rw[Ag,<-pq];exact l1);have y0:0<=h%P:=ab0 _ (by omega);have y1:h%P<P:=We _ P0
  have y2:h%P*Q+Q<=18446744073709551616:=by
   have:(h%P+1)*Q<=P*Q:=aqy (by omega) (oS Q0);rw[agq,<-pq] at this;omega
  have y3:0<=h%P*Q:=JL y0 (oS Q0)
  have key:wn (ul (wd 64 (l/P)|||wd 64 (h*Q%18446744073709551616)))=l/P+h%P*Q:=by
   rw[m];exact azc _ _ (64-s) x0 (by rw[hQ];exact x1) y3 (by omega) (by omega) (by rw[hQ];exact Int.mul_emod_left _ _)
  rw[key];have z:(l/P+h%P*Q)%18446744073709551616=l/P+h%P*Q:=E0 (by omega) (by omega);rw[z];refine⟨_,_,rfl,DT h0 (oS P0),by omega,by omega,?_⟩
  have f1:(h*18446744073709551616+l)/P=h*Q+l/P:=by
   rw[pq,show h*(P*Q)+l=l+h*Q*P by rw[Ag P Q,<-alw,Int.add_comm],Int.add_mul_ediv_right _ _ (by omega)];omega
  have f2:h/P*18446744073709551616=h/P*P*Q:=by rw[pq,alw]
  have f3:h/P*P+h%P=h:=Int.ediv_mul_add_emod h P;rw[f1,f2];have f4:(h/P*P+h%P)*Q=h*Q:=by rw[f3]
  rw[agq] at f4;omega
theorem MN (h l:Int)(neg:Bool)(h0:0<=h)(l0:0<=l)(l1:l<18446744073709551616):
  ja h l neg=if h*18446744073709551616+l<=(if neg=true then 9223372036854775808 else 9223372036854775807) then some (if neg=true then -l else l,true) else some (0,false):=by
 simp only[ja,OH,Pg.cg,Pg.bN,Pg.cq,Pg.fe,Pg.eu];try delta wI wU
 by_cases c:h=0
 .subst c;have e:((0:Int)!=0)=false:=rfl;simp only[e,bA,agp,ate];cases neg
  .by_cases d:l>9223372036854775807
   .have d2:¬l<=9223372036854775807:=by omega
    simp[d,d2]
   .have d2:l<=9223372036854775807:=by omega
    simp only[Bool.not_false,bn,d,JM,bA,wS,fY,d2,kR];rw[wrap_i64 (by omega) d2]
  .by_cases d:l>9223372036854775808
   .have d2:¬l<=9223372036854775808:=by omega
    simp[d,d2]
   .have d2:l<=9223372036854775808:=by omega
    have e3:IntKind.wrap .i64 (IntKind.wrap .u64 (0-l))= -l:=by
     rw[wrap_u64,GQ];split<;>omega
    have e4:IntKind.wrap .i64 (IntKind.wrap .u64 (-l))= -l:=by
     rw[wrap_u64,GQ];split<;>omega
    simp[d,d2,e3,e4]
 .have e:(h !=0)=true:=by simp[c]
  have d2:¬h*18446744073709551616+l<=(if neg=true then 9223372036854775808 else 9223372036854775807):=by split<;>omega
  simp only[e,bn,d2,fY]
def half (s:Nat):Int:=if s=0 then 0 else 2^(s-1)
def MO (v:Int)(s:Nat):Int:=if v<0 then -((-v+half s)/2^s) else(v+half s)/2^s
theorem aOt (s:Nat)(hs:s<=126):0<=half s/\half s<=42535295865117307932921825928971026432:=by
 unfold half;split
 .omega
 .refine⟨oS (lU _),?_⟩
  have:(2:Int)^(s-1)<=2^125:=by
   have h2:(2:Nat)^(s-1)<=2^125:=Nat.pow_le_pow_right (by decide) (by omega);have h3:((2^(s-1):Nat):Int)<=((2^125:Nat):Int):=by exact_mod_cast h2
   simpa using h3
  exact this
theorem wide_round (h l:Int)(s:Nat)(hs:s<=126)(o:okW h l):
  rE h l (wn s)=if -9223372036854775808<=MO (vW h l) s/\MO (vW h l) s<=9223372036854775807 then some (MO (vW h l) s,true) else some (0,false):=by
 simp only[rE,acf,Pg.cg,Pg.bN,Pg.cq,Pg.fe,Pg.eu];try delta wI wU
 obtain⟨ah,al,e1,a0,a1,a2,a3,a4⟩:=aJt h l o;have n0:decide (wn s<0)=false:=by simp
 have n1:decide (wn s>126)=false:=by simp only[cF];exact cG (by omega)
 simp only[n0,n1,bA,e1,bM];obtain⟨hh0,hh1⟩:=aOt s hs
 have fin:∀h' l':Int,0<=h'->0<=l'->l'<18446744073709551616->h'*18446744073709551616+l'=((if h<0 then -vW h l else vW h l)+half s)/2^s->
   (ja h' l' (decide (h<0))).bind (λd=>some (d.fst,d.snd))=if -9223372036854775808<=MO (vW h l) s/\MO (vW h l) s<=9223372036854775807 then some (MO (vW h l) s,true) else some (0,false):=by
  intro h' l' b0 b1 b2 b3;rw[MN h' l' _ b0 b1 b2];obtain⟨o1,o2,o3,o4⟩:=o;by_cases n:h<0
  .have nv:vW h l<0:=by show h*18446744073709551616+l<0;omega
   simp only[n,I1,kR] at b3 ⊢;unfold MO;simp only[nv,kR];rw[<-b3];by_cases c:h'*18446744073709551616+l'<=9223372036854775808
   .rw[if_pos c,if_pos (by omega)];simp only[bM,gS,ql,Bx];omega
   .rw[if_neg c,if_neg (by omega)];rfl
  .have nv:¬vW h l<0:=by show ¬h*18446744073709551616+l<0;omega
   simp only[n,JM,fY,wS] at b3 ⊢;unfold MO;simp only[nv,fY];rw[<-b3];by_cases c:h'*18446744073709551616+l'<=9223372036854775807
   .rw[if_pos c,if_pos (by omega)];simp only[bM,gS,ql,Bx];omega
   .rw[if_neg c,if_neg (by omega)];rfl
 by_cases z:s=0
 .subst z;have n2:decide (wn 0>0)=false:=by decide
  simp only[n2,bA];obtain⟨h',l',e2,b0,b1,b2,b3⟩:=awz ah al 0 (by omega) a0 (by omega) a2 a3;rw[e2];simp only[bM];exact fin h' l' b0 b1 b2 (by rw[b3,a4];simp[half])
 .have n2:decide (wn s>0)=true:=by simp only[cF];exact dA (by omega)
  simp only[n2,bn];have n3:IntKind.wrap .i64 (wn s-1)=wn (s-1):=(wrap_i64 (by simp only[cF];omega) (by simp only[cF];omega)).trans (by simp only[cF];omega);have hf:half s=2^(s-1):=by unfold half;rw[if_neg z]
  rw[n3,aYF (s-1) (by omega),<-hf];simp only[bM];rw[aJu _ _ _ _ a0 a2 (by omega) (by omega) a3 (by omega)];simp only[bM];obtain⟨h',l',e2,b0,b1,b2,b3⟩:=awz ((ah+half s/18446744073709551616+(al+half s%18446744073709551616)/18446744073709551616)%18446744073709551616) ((al+half s%18446744073709551616)%18446744073709551616) s hs (by omega) (by omega) (by omega) (by omega);rw[e2];simp only[bM];refine fin h' l' b0 b1 b2 ?_;rw[b3,<-a4];congr 1
  omega
def sat (x:Int):Int:=if x< -1152921504606846976 then -1152921504606846976 else if 1152921504606846976<x then 1152921504606846976 else x
def fH (x:Int):Bool:=decide (x< -1152921504606846976)||decide (1152921504606846976<x)
theorem pS (x:Int): -1152921504606846976<=sat x/\sat x<=1152921504606846976:=by
 unfold sat;split<;>(try split)<;>omega
theorem p6 (x:Int)(fA:Bool):aQ x fA=some (sat x,fA||fH x):=by
 simp only[aQ,aca,bc,xr,Pg.cg,Pg.bN,Pg.cq,Pg.fe,Pg.eu];try delta wI wU
 unfold sat fH;have e:decide ((-1152921504606846976:Int)>1152921504606846976)=false:=by decide
 by_cases c:x< -1152921504606846976
 .simp[e,c]
 .by_cases d:1152921504606846976<x
  .have d2:x>1152921504606846976:=d;simp[e,c,d]
  .simp[e,c,d]
theorem aeR (a:Int)(ok neg fA:Bool):mS a ok neg fA=if ok=true then some (sat a,fA||fH a) else some (if neg=true then -1152921504606846976 else 1152921504606846976,true):=by
 simp only[mS,Ih,qw,WG,Pg.cg,Pg.bN,Pg.cq,Pg.fe,Pg.eu];try delta wI wU
 cases ok
 .cases neg<;>rfl
 .simp only[DV,bA,p6,bM,kR]
theorem ahY (h l:Int)(s:Nat)(fA:Bool)(hs:s<=120)(o:okW h l):nc h l (wn s) fA=some (sat (MO (vW h l) s),fA||fH (MO (vW h l) s)):=by
 simp only[nc,Tc,Pg.cg,Pg.bN,Pg.cq,Pg.fe,Pg.eu];try delta wI wU
 have n0:decide (wn s<0)=false:=by simp
 have n1:decide (wn s>120)=false:=by simp only[cF];exact cG (by omega)
 simp only[n0,n1,bA,wide_round h l s (by omega) o];by_cases c: -9223372036854775808<=MO (vW h l) s/\MO (vW h l) s<=9223372036854775807
 .simp only[c,and_self,kR,bM,aeR]
 .rw[if_neg c];simp only[bM,aeR,wS,fY]
  have sg:(h<0->MO (vW h l) s<=0)/\(¬h<0->0<=MO (vW h l) s):=by
   obtain⟨o1,o2,o3,o4⟩:=o;obtain⟨hh0,hh1⟩:=aOt s (by omega);have p:=lU s;unfold MO;refine⟨λn=> ?_,λn=> ?_⟩
   .have nv:vW h l<0:=by show h*18446744073709551616+l<0;omega
    rw[if_pos nv];have:0<=(-vW h l+half s)/2^s:=DT (by omega) (oS p);omega
   .have nv:¬vW h l<0:=by show ¬h*18446744073709551616+l<0;omega
    rw[if_neg nv];exact DT (by omega) (oS p)
  unfold sat fH;by_cases n:h<0
  .have:=sg.1 n;have c1:MO (vW h l) s< -1152921504606846976:=by omega
   simp[n,c1]
  .have:=sg.2 n;have c1:¬MO (vW h l) s< -1152921504606846976:=by omega
   have c2:1152921504606846976<MO (vW h l) s:=by omega
   simp[n,c1,c2]
theorem apA (x:Int)(h0: -9223372036854775808<=x)(h1:x<=9223372036854775807):rD x=some (if x<0 then -x else x):=by
 simp only[rD,acb,Pg.cg,Pg.bN,Pg.cq,Pg.fe,Pg.eu];try delta wI wU
 by_cases c:x<0
 .simp only[c,I1,bn,kR,wrap_u64];exact c8 (some:Int->Option Int) (by omega)
 .simp only[c,JM,bA,fY,wrap_u64];exact c8 (some:Int->Option Int) (by omega)
theorem apB {a b:Int}(a0:0<=a)(a1:a<=4294967295)(b0:0<=b)(b1:b<=4294967295):0<=a*b/\a*b<=18446744065119617025:=by
 refine⟨JL a0 b0,?_⟩;have:=On a1 b1 b0 (by omega);omega
theorem aUA (x y:Int)(x0:0<=x)(x1:x<18446744073709551616)(y0:0<=y)(y1:y<18446744073709551616):Ie x y=some (x*y/18446744073709551616,x*y%18446744073709551616):=by
 simp only[Ie,ace,Pg.cg,Pg.bN,Pg.cq,Pg.fe,Pg.eu];try delta wI wU
 rw[apz x x0 x1,apz y y0 y1];simp only[qO _ 4294967296 (by decide),wrap_u64];have xe:x=x/4294967296*4294967296+x%4294967296:=by omega
 have ye:y=y/4294967296*4294967296+y%4294967296:=by omega
 have xh:0<=x/4294967296/\x/4294967296<=4294967295:=by omega
 have yh:0<=y/4294967296/\y/4294967296<=4294967295:=by omega
 have xl:0<=x%4294967296/\x%4294967296<=4294967295:=by omega
 have yl:0<=y%4294967296/\y%4294967296<=4294967295:=by omega
 have hxy:x*y=(x/4294967296)*(y/4294967296)*18446744073709551616+((x/4294967296)*(y%4294967296)+(x%4294967296)*(y/4294967296))*4294967296+(x%4294967296)*(y%4294967296):=by
  conv=>lhs;rw[xe,ye]
  generalize x/4294967296=a
  generalize x%4294967296=b
  generalize y/4294967296=c
  generalize y%4294967296=d
  rw[agq,Int.mul_add,Int.mul_add,agq];rw[show a*4294967296*(c*4294967296)=a*c*18446744073709551616 by rw[alw,Int.mul_left_comm 4294967296 c,<-alw,show(4294967296:Int)*4294967296=18446744073709551616 from rfl]];rw[show a*4294967296*d=a*d*4294967296 by rw[alw,Ag 4294967296 d,<-alw],show b*(c*4294967296)=b*c*4294967296 by rw[alw]];omega
 obtain⟨A0,A1⟩:=apB xh.1 xh.2 yh.1 yh.2;obtain⟨B0,B1⟩:=apB xh.1 xh.2 yl.1 yl.2;obtain⟨C0,C1⟩:=apB xl.1 xl.2 yh.1 yh.2;obtain⟨D0,D1⟩:=apB xl.1 xl.2 yl.1 yl.2;simp only[E0 xl.1 (show x%4294967296<18446744073709551616 by omega),E0 yl.1 (show y%4294967296<18446744073709551616 by omega)];rw[hxy];generalize x/4294967296*(y/4294967296)=A at*
 generalize x/4294967296*(y%4294967296)=B at*
 generalize x%4294967296*(y/4294967296)=C at*
 generalize x%4294967296*(y%4294967296)=D at*
 have r1:A%18446744073709551616=A:=E0 A0 (by omega);have r2:B%18446744073709551616=B:=E0 B0 (by omega);have r3:C%18446744073709551616=C:=E0 C0 (by omega);have r4:D%18446744073709551616=D:=E0 D0 (by omega);simp only[r1,r2,r3,r4];have r5:(B+D/4294967296)%18446744073709551616=B+D/4294967296:=E0 (by omega) (by omega);simp only[r5];rw[apz (B+D/4294967296) (by omega) (by omega)];have r6:(B+D/4294967296)%4294967296%18446744073709551616=(B+D/4294967296)%4294967296:=E0 (by omega) (by omega);simp only[r6];have r7:((B+D/4294967296)%4294967296+C)%18446744073709551616=(B+D/4294967296)%4294967296+C:=E0 (by omega) (by omega);simp only[r7];refine c8 some (Prod.ext ?_ rfl);simp only;omega
theorem aLx (h l:Int)(neg:Bool)(h0:0<=h)(h1:h<9223372036854775808)(l0:0<=l)(l1:l<18446744073709551616):
  ∃h' l' b,mR h l neg=some ((h',l'),b)/\okW h' l'/\vW h' l'=if neg=true then -(h*18446744073709551616+l) else h*18446744073709551616+l:=by
 simp only[mR,LM,Pg.cg,Pg.bN,Pg.cq,Pg.fe,Pg.eu];try delta wI wU
 cases neg
 .refine⟨_,_,_,rfl,?_,?_⟩
  .rw[wrap_i64 (by omega) (by omega)];omega
  .rw[wrap_i64 (by omega) (by omega)];rfl
 .simp only[DV,bA,aeQ l l0 l1,wrap_u64,aeQ h h0 (by omega)];rw[O9 _ _ _ (by omega) (by omega) (by omega) (by omega)];simp only[bM];generalize hm:(18446744073709551615-h)%18446744073709551616+((18446744073709551615-l)%18446744073709551616+1+0)/18446744073709551616=m
  have hw:=GQ (m%18446744073709551616);generalize IntKind.wrap IntKind.i64 (m%18446744073709551616)=w at*
  have ok:okW w (((18446744073709551615-l)%18446744073709551616+1+0)%18446744073709551616)/\vW w (((18446744073709551615-l)%18446744073709551616+1+0)%18446744073709551616)= -(h*18446744073709551616+l):=by
   unfold vW;refine⟨⟨?_,?_,?_,?_⟩,?_⟩<;>(split at hw<;>omega)
  cases decide (w<0)
  .exact⟨_,_,_,rfl,ok.1,by simp only[kR];exact ok.2⟩
  .exact⟨_,_,_,rfl,ok.1,by simp only[kR];exact ok.2⟩
theorem DJ (a b:Int)(a0: -9223372036854775808<=a)(a1:a<=9223372036854775807)(b0: -9223372036854775808<=b)(b1:b<=9223372036854775807):∃h l,fC a b=some (h,l)/\okW h l/\vW h l=a*b:=by
 simp only[fC,al3,Pg.cg,Pg.bN,Pg.cq,Pg.fe,Pg.eu];try delta wI wU
 simp only[apA a a0 a1,apA b b0 b1,bM];generalize hx:(if a<0 then -a else a)=x
 generalize hy:(if b<0 then -b else b)=y
 have x0:0<=x/\x<=9223372036854775808:=by rw[<-hx];split<;>omega
 have y0:0<=y/\y<=9223372036854775808:=by rw[<-hy];split<;>omega
 have hp:0<=x*y:=JL x0.1 y0.1
 have hq:x*y<=85070591730234615865843651857942052864:=by
  have:=On x0.2 y0.2 y0.1 (by omega);omega
 rw[aUA x y x0.1 (by omega) y0.1 (by omega)];simp only[bM];obtain⟨h,l,c,e1,e2,e3⟩:=aLx (x*y/18446744073709551616) (x*y%18446744073709551616) (!decide (a<0)==decide (b<0)) (by omega) (by omega) (by omega) (by omega);rw[e1];simp only[bM];refine⟨h,l,rfl,e2,?_⟩;have e4:x*y/18446744073709551616*18446744073709551616+x*y%18446744073709551616=x*y:=by omega
 rw[e3,e4];by_cases p:a<0
 .by_cases q:b<0
  .rw[if_pos p] at hx;rw[if_pos q] at hy;simp only[p,q,I1];rw[if_neg (by decide)];rw[<-hx,<-hy,Int.neg_mul_neg]
  .rw[if_pos p] at hx;rw[if_neg q] at hy;simp only[p,q,I1,JM];rw[if_pos (by decide)];rw[<-hx,<-hy,Int.neg_mul,Int.neg_neg]
 .by_cases q:b<0
  .rw[if_neg p] at hx;rw[if_pos q] at hy;simp only[p,q,I1,JM];rw[if_pos (by decide)];rw[<-hx,<-hy,Int.mul_neg,Int.neg_neg]
  .rw[if_neg p] at hx;rw[if_neg q] at hy;simp only[p,q,JM];rw[if_neg (by decide)];rw[<-hx,<-hy]
theorem aOu (a b:Int)(s:Nat)(fA:Bool)(hs:s<=120):aV a b (wn s) fA=some (sat (MO (sat a*sat b) s),fA||fH a||fH b||fH (MO (sat a*sat b) s)):=by
 simp only[aV,aci,Pg.cg,Pg.bN,Pg.cq,Pg.fe,Pg.eu];try delta wI wU
 have:=pS a;have:=pS b;obtain⟨h,l,e1,e2,e3⟩:=DJ (sat a) (sat b) (by omega) (by omega) (by omega) (by omega);simp only[p6,bM,e1,ahY h l s _ hs e2,e3]
theorem ahZ (f g:Nat->Int)(w:Bool)(o1:okW (f 0) (g 0))(o2:okW (f 1) (g 1))(r0: -170141183460469231731687303715884105728<=vW (f 0) (g 0)+vW (f 1) (g 1))(r1:vW (f 0) (g 0)+vW (f 1) (g 1)<170141183460469231731687303715884105728):
  ∃h l,j8 2 f g w=some ((h,l),true)/\okW h l/\vW h l=vW (f 0) (g 0)+vW (f 1) (g 1):=by
 simp only[j8,aaD,Pg.cg,Pg.bN,Pg.cq,Pg.fe,Pg.eu];try delta wI wU
 unfold Im;rw[show ww 2 2=true from rfl,bn,alU];obtain⟨h1,l1,b1,e1,a1,c1,d1⟩:=azd 0 0 (f 0) (g 0) ⟨by omega,by omega,by omega,by omega⟩ o1
 have t1:b1=true:=by
  rw[c1];obtain⟨p1,p2,p3,p4⟩:=o1;simp only[vW];omega
 subst t1;have d1:=d1 rfl;obtain⟨h2,l2,b2,e2,a2,c2,d2⟩:=azd h1 l1 (f 1) (g 1) a1 o2;have z:vW 0 0=0:=rfl;have t2:b2=true:=by rw[c2,d1,z];omega
 subst t2;have d2:=d2 rfl;refine⟨h2,l2,?_,a2,by rw[d2,d1,z];omega⟩;have k0:decide ((0:Int)<wn 2)=true:=by decide
 have k1:aX 0 2=true:=by decide
 have k2:IntKind.wrap .i64 (0+1)=1:=by decide
 have k3:decide ((1:Int)<wn 2)=true:=by decide
 have k4:aX 1 2=true:=by decide
 have k5:IntKind.wrap .i64 (1+1)=2:=by decide
 have k6:decide ((2:Int)<wn 2)=false:=by decide
 have k7:wt 0=0:=rfl;have k8:wt 1=1:=rfl;rw[aau];simp only[DF,Pg.vN,Pg.vO,Pg.An,Pg.Gu,Pg.vP,qo,lP,wI,k0,k1,k2,k7,bn,e1,bM,DV,bA];rw[aau];simp only[k3,k4,k5,k8,bn,e2,bM,DV,bA];rw[aau];simp only[k6,bA,lP]
def zT (f:Nat->Int):Nat->Int
 |0=>0
 |n+1=>zT f n+f n
def Fw (f:Nat->Bool):Nat->Bool
 |0=>false
 |n+1=>Fw f n||f n
theorem anF (f:Nat->Int)(B:Int)(hB:0<=B)(n:Nat)(h:∀j,j<n-> -B<=f j/\f j<=B): -(n*B)<=zT f n/\zT f n<=n*B:=by
 induction n with
 |zero=>simp[zT]
 |succ n ih=>
  have:=ih λj hj=>h j (by omega)
  have h2:=h n (by omega);have e:((n+1:Nat):Int)*B=n*B+B:=by rw[Int.natCast_add,agq];simp
  rw[e,zT];omega
theorem aJv (v:Int):MO v 0=v:=by
 unfold MO half;simp only[kR,Int.add_zero];have:(2:Int)^0=1:=rfl;rw[this,Int.ediv_one,Int.ediv_one];split<;>omega
theorem awA {i n t:Nat}(h:i+t=n)(ht:0<t):decide (wn i<wn n)=true:=by simp only[cF];exact dA (by omega)
theorem awB {i n:Nat}(h:n<=i):decide (wn i<wn n)=false:=by simp only[cF];exact cG (by omega)
theorem awC {i n:Nat}(h:i<n):aX (wn i) n=true:=by unfold aX;simp only[cF,cj,ke];omega
theorem awD {i:Nat}(h:i<9000000000000000000):IntKind.wrap .i64 (wn i+1)=wn (i+1):=(wrap_i64 (by simp only[cF];omega) (by simp only[cF];omega)).trans rfl
theorem aYG (n:Nat)(hn:n<=1900)(fA:Bool)(l:Nat->Int)(w:Bool):
  cU n fA l w=some (sat (zT (λj=>sat (l j)) n),(fA||Fw (λj=>fH (l j)) n)||fH (zT (λj=>sat (l j)) n)):=by
 simp only[cU,acu,Pg.cg,Pg.bN,Pg.cq,Pg.fe,Pg.eu];try delta wI wU
 unfold Tf;rw[SO,bn]
 refine OB (λt d=>∃(i:Nat) (h l':Int),i+t=n/\okW h l'/\vW h l'=zT (λj=>sat (l j)) i/\d=(((n,w),wn n,wn i),(fA||Fw (λj=>fH (l j)) i),l,h,l')) ?_ 2000 n _ (by omega)
  ⟨0,0,0,by omega,⟨by omega,by omega,by omega,by omega⟩,rfl,by simp only[Fw,SM];rfl⟩
 rintro t _ c ⟨i,h,l',hi,ho,hv,rfl⟩ hc
 have bnd:=anF (λj=>sat (l j)) 1152921504606846976 (by omega) i (λj _=>pS _);rcases abY t with t0|t0
 .have e:i=n:=by omega
  subst e;have r:=ahY h l' 0;have r2:=wide_round h l' 0 (by omega) ho;rw[aJv] at r2;have r3:wn 0=0:=rfl;rw[r3] at r2;simp only[Jc,Pg.vN,Pg.vO,Pg.An,Pg.Gu,Pg.vP,qo,lP,wI,awB (cW i),bA,r2];by_cases k: -9223372036854775808<=vW h l'/\vW h l'<=9223372036854775807
  .rw[if_pos k];simp only[kR,bM,aeR,hv]
  .rw[if_neg k];simp only[bM,aeR,wS,fY];rw[<-hv];unfold sat fH;by_cases ng:h<0
   .have c1:vW h l'< -1152921504606846976:=by
     obtain⟨o1,o2,o3,o4⟩:=ho;simp only[vW] at*;omega
    simp[ng,c1]
   .have c1:¬vW h l'< -1152921504606846976:=by
     obtain⟨o1,o2,o3,o4⟩:=ho;simp only[vW] at*;omega
    have c2:1152921504606846976<vW h l':=by
     obtain⟨o1,o2,o3,o4⟩:=ho;simp only[vW] at*;omega
    simp[ng,c1,c2]
 .have hs:=pS (l i);obtain⟨h1,l1,e1,o1,v1⟩:=aYE (sat (l i)) (by omega) (by omega)
  obtain⟨h2,l2,e2,o2,v2⟩:=ahZ (λj:Nat=>bif ww j 1 then h1 else bif ww j 0 then h else h) (λj:Nat=>bif ww j 1 then l1 else bif ww j 0 then l' else l') true
   ho o1 (by show _<=vW h l'+vW h1 l1;rw[hv,v1];omega) (by show vW h l'+vW h1 l1<_;rw[hv,v1];omega)
  have v2:vW h2 l2=vW h l'+vW h1 l1:=v2;rw[hv,v1] at v2;have q:wt (wn i)=i:=rfl;simp only[Jc,Pg.vN,Pg.vO,Pg.An,Pg.Gu,Pg.vP,qo,lP,wI,awA hi t0,awC (show i<n by omega),bn,q,p6,bM,e1,e2,awD (show i<9000000000000000000 by omega)];refine hc (t-1) _ (by omega) ⟨i+1,h2,l2,by omega,o2,v2,?_⟩;simp only[Fw,Bool.or_assoc]
theorem aeS (a b:Int): -1329227995784915872903807060280344576<=sat a*sat b/\sat a*sat b<=1329227995784915872903807060280344576:=by
 have h1:=pS a;have h2:=pS b;generalize sat a=x at*
 generalize sat b=y at*
 have key:∀u v:Int,0<=u->u<=1152921504606846976->0<=v->v<=1152921504606846976->0<=u*v/\u*v<=1329227995784915872903807060280344576:=λu v u0 u1 v0 v1=>by
  refine⟨JL u0 v0,?_⟩;have:=On u1 v1 v0 (by omega);omega
 rcases ayl 0 x with hx|hx<;>rcases ayl 0 y with hy|hy
 .have:=key x y hx (by omega) hy (by omega);omega
 .have:=key x (-y) hx (by omega) (by omega) (by omega);rw[Int.mul_neg] at this;omega
 .have:=key (-x) y (by omega) (by omega) hy (by omega);rw[Int.neg_mul] at this;omega
 .have:=key (-x) (-y) (by omega) (by omega) (by omega) (by omega);rw[Int.neg_mul_neg] at this;omega
theorem aOv (s:Nat)(hs:s<=120)(n:Nat)(hn:n<=100)(fA:Bool)(f g:Nat->Int)(w w':Bool):
  bz (wn s) n n fA f g w w'=some (sat (MO (zT (λj=>sat (f j)*sat (g j)) n) s),(fA||Fw (λj=>fH (f j)||fH (g j)) n)||fH (MO (zT (λj=>sat (f j)*sat (g j)) n) s)):=by
 simp only[bz,acR,Pg.cg,Pg.bN,Pg.cq,Pg.fe,Pg.eu];try delta wI wU
 unfold Tp;have n0:decide (wn s<0)=false:=by simp
 have n1:decide (wn s>120)=false:=by simp only[cF];exact cG (by omega)
 have m:(if 100<if wn n<wn n then wn n else wn n then 100 else if wn n<wn n then wn n else wn n)=wn n:=by
  have e:¬wn n<wn n:=by omega
  rw[if_neg e,if_neg (by simp only[cF];omega)]
 rw[n0,n1,bA,bA,SO,bn,bn,m]
 refine OB (λt d=>∃(i:Nat) (h l':Int),i+t=n/\okW h l'/\vW h l'=zT (λj=>sat (f j)*sat (g j)) i/\d=((wn s,(n,w),(n,w'),wn n,wn i),(fA||Fw (λj=>fH (f j)||fH (g j)) i),f,g,h,l')) ?_ 2000 n _ (by omega)
  ⟨0,0,0,by omega,⟨by omega,by omega,by omega,by omega⟩,rfl,by simp only[Fw,SM];rfl⟩
 rintro t _ c ⟨i,h,l',hi,ho,hv,rfl⟩ hc
 have bnd:=anF (λj=>sat (f j)*sat (g j)) 1329227995784915872903807060280344576 (by omega) i (λj _=>aeS _ _);rcases abY t with t0|t0
 .have e:i=n:=by omega
  subst e;simp only[Jf,Pg.vN,Pg.vO,Pg.An,Pg.Gu,Pg.vP,qo,lP,wI,awB (cW i),bA,ahY h l' s _ hs ho,hv,bM]
 .have hs1:=pS (f i);have Wo:=pS (g i);have hm:=aeS (f i) (g i);obtain⟨h1,l1,e1,o1,v1⟩:=DJ (sat (f i)) (sat (g i)) (by omega) (by omega) (by omega) (by omega)
  obtain⟨h2,l2,e2,o2,v2⟩:=ahZ (λj:Nat=>bif ww j 1 then h1 else bif ww j 0 then h else h) (λj:Nat=>bif ww j 1 then l1 else bif ww j 0 then l' else l') true
   ho o1 (by show _<=vW h l'+vW h1 l1;rw[hv,v1];omega) (by show vW h l'+vW h1 l1<_;rw[hv,v1];omega)
  have v2:vW h2 l2=vW h l'+vW h1 l1:=v2;rw[hv,v1] at v2;have q:wt (wn i)=i:=rfl;simp only[Jf,Pg.vN,Pg.vO,Pg.An,Pg.Gu,Pg.vP,qo,lP,wI,awA hi t0,awC (show i<n by omega),bn,q,p6,bM,e1,e2,awD (show i<9000000000000000000 by omega)];refine hc (t-1) _ (by omega) ⟨i+1,h2,l2,by omega,o2,v2,?_⟩;simp only[Fw,Bool.or_assoc]
theorem aOw (x:Int):MO (x*1073741824) 30=x:=by
 unfold MO half;rw[if_neg (by omega:¬(30:Nat)=0),show(2:Int)^(30-1)=536870912 from rfl,show(2:Int)^30=1073741824 from rfl];split<;>omega
theorem aTq {x:Int}(h: -1152921504606846976<=x/\x<=1152921504606846976):sat x=x/\fH x=false:=by
 unfold sat fH;have h1:¬x< -1152921504606846976:=by omega
 have h2:¬1152921504606846976<x:=by omega
 simp[h1,h2]
end Go.Proofs.YtldgljclcgaibaaGreat
