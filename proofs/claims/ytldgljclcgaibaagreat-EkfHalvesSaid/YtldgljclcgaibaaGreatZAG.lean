/-
  Parts of the proof: Q2 PWS PWT PWU PWV
-/
import Derived.Test.YtldgljclcgaibaaGreatZAE
import Derived.Test.YtldgljclcgaibaaGreatZAF
set_option linter.unusedVariables false
set_option linter.unusedSimpArgs false
set_option maxRecDepth 100000
set_option maxHeartbeats 4000000
noncomputable section
namespace Go.Proofs.YtldgljclcgaibaaGreat
open Go.Ab Go.Ab.Pg Go.Ab.Rq
def anS:=qa (pl apn nil)
def T7:=qe BB
abbrev anT:=T7.B
abbrev anU:=Int->Int->Int->Int->Option anT
def anV (g:anU):Ct:=(67,FC anS (lf T7) (λb=>g b.1 b.2.1 b.b.1 b.b.2))
def kK:=qs (st (dp (us 1 (cu (app 0 4) (us 1 (c aQq (us 6 (c acY (cl ai (us 24 aKw)))))))) λa=>(pl (c uC (cl (so (cl (gs a.1 aFn) nil)) nil)) nil)))
def XQ:=qs (st (pu (us 2 (cu Cy (us 42 nil))) (pu nil nil)))
def arY:=qs (st (pr (us 1 (cu (app 0 4) (us 1 (c aQq (us 6 (c acY (c ai (cl ab (us 23 aKw))))))))) (pl (c uC (cl aKM nil)) nil)))
abbrev vm:=XQ.B⊕((Nat×aD6×Int×Bool)×aD6×NI×NI)
def af6 {ρ:Type}(x:vm)(K:AX->St->Option ρ):Option ρ:=(Sum.elim (λd=>K .ret (XQ.em d)) (λd=>K (.ex 0) (arY.em (d.1,d.2.1,d.1.1,d.b)))) x
def Ql (cX:Mc)(cA:mC)(d:kK.B):PL kK vm:=let n5:=d.2.2;let n3:=d.1.1;let n2:=d.1.2;let n4:=n2.1.2;let y0:=n3+1;let n1:=(y0,n2.1,wI (n2.2+1));let y1:=decide (n2.2<4);ae y1 (ae (aW n2.2 4) (ae (n2.2==3) (opt (cX n4.2.2) λaj=>ae (decide (aj>1073741840)) (ret (Sum.inr (Sum.inl ()))) (opt (cA n4.2.2 n4.2.2) λaI=>ae (Nat.ble (y0*16) 140737488355328) (ret (Sum.inl (n1,d.2.1,λj=>bif Nat.beq j n3 then aI.1 else n5.1 j,λj=>bif Nat.beq j n3 then aI.2 else n5.2 j))) no)) (ae (n2.2==2) (opt (cX n4.2.1) λaj=>ae (decide (aj>1073741840)) (ret (Sum.inr (Sum.inl ()))) (opt (cA n4.2.1 n4.2.1) λaI=>ae (Nat.ble (y0*16) 140737488355328) (ret (Sum.inl (n1,d.2.1,λj=>bif Nat.beq j n3 then aI.1 else n5.1 j,λj=>bif Nat.beq j n3 then aI.2 else n5.2 j))) no)) (ae (n2.2==1) (opt (cX n4.1) λaj=>ae (decide (aj>1073741840)) (ret (Sum.inr (Sum.inl ()))) (opt (cA n4.1 n4.1) λaI=>ae (Nat.ble (y0*16) 140737488355328) (ret (Sum.inl (n1,d.2.1,λj=>bif Nat.beq j n3 then aI.1 else n5.1 j,λj=>bif Nat.beq j n3 then aI.2 else n5.2 j))) no)) (opt (cX n2.1.1) λaj=>ae (decide (aj>1073741840)) (ret (Sum.inr (Sum.inl ()))) (opt (cA n2.1.1 n2.1.1) λaI=>ae (Nat.ble (y0*16) 140737488355328) (ret (Sum.inl (n1,d.2.1,λj=>bif Nat.beq j n3 then aI.1 else n5.1 j,λj=>bif Nat.beq j n3 then aI.2 else n5.2 j))) no))))) no) (ret (Sum.inr (Sum.inr ((n3,n2.1,n2.2,y1),d.2))))
def Qm:=bA (Ql vi eN) 2000
def ZG (vI:pT)(sF:Bl)(dI:LT kK vm)(x0:Int)(x1:Int)(x2:Int)(x3:Int):Pg anT:=ae true (opt (dI ((0,(x0,x1,x2,x3),0),(x0,x1,x2,x3),λx=>0,λx=>0)) λx=>sum x (λd=>ret false) λd=>ae (Nat.beq d.1.1 d.1.1) (opt (vI d.1.1 d.2.2.1 d.2.2.2 true) λd=>opt (sF d.1.1 d.1.2 0) λd=>let y0:=wI (d.1-1152921504606846976);ae d.2 (ae (decide (y0>= -4294967296)) (ret (decide (y0<=4294967296))) (ret false)) (ret false)) no) no
def Bq:=λx0 x1 x2 x3=>(ZG jl ph Qm x0 x1 x2 x3).val
abbrev NS:=Mc×mC×pT×Bl×(LT kK vm)
def ZH (p:NS):KK:=⟨[abm p.1,vA p.2.1,IA p.b.1,NF p.b.2.1],⟨[⟨3,(0::2::rg 4 6 (rg 12 24 [39,40,44])),[(3,[.i .i64,.i .u64])]⟩],[fH 3 0 kK af6 p.c],[],[],(some ⟨0,(0::1::rg 3 42 []),[]⟩)⟩,0,67⟩
theorem auZ (p:NS):LI (ZH p) 3 kK af6 (Ql p.1 p.2.1):=λ_ d c K=>by kernel_rfl
theorem aDc (p:NS):D2 (ZH p) anS (lf T7) λb=>ZG p.b.1 p.b.2.1 p.c b.1 b.2.1 b.b.1 b.b.2:=λb=>by kernel_rfl
abbrev ZI:NS:=(vi,eN,jl,ph,Qm)
theorem aDd [ax]:SC (anV Bq):=sc (kS (k:=ZH ZI) (.c alY (.c yM (.c Ox (.c Za (.nil _))))) [3] [] ⟨kL (auZ ZI),trivial⟩ trivial (aDc ZI))
def anW:=qa (dp (cu aN (c ai (c FY (cl aPk nil)))) λa=>(c ux (c (cl (gs a.2.1.1 mB) nil) (cl (cl (gs a.b.1 mB) nil) nil))))
def T8:=qe (res (pr ai (pl (cl aqX at4) nil)))
abbrev anX:=T8.B
abbrev ek:=Int->Nat->Nat->Bool->NI->NI->Bool->Bool->Option anX
def lN (g:ek):Ct:=(73,sE 3 [.i .i64] (sE 2 [.i .i64] (FC anW (lf T8) (λb=>g b.1.1 b.1.2.1.1 b.1.b.1 b.2.1 b.b.1 b.b.2 b.1.2.1.2 b.1.b.2))))
def sX:=qs (st (dp (cu aN (c ai (c FY (c aPk (us 5 (cu (app 3 2) aPY)))))) λa=>(pl (c ch (c (so (cl (gs a.2.1.1 mB) nil)) (c (so (cl (gs a.b.1.1 mB) nil)) YR))) cy)))
def ayM:=qs (st (pr (cu aN (c ai (c FY (c aPk (us 5 (cu (app 3 2) aP2)))))) (pl (c ch (c Hp (c Hp YR))) cy)))
abbrev G0:=(aPe×Bool×NI×NI×Int×Int)
def af7 {ρ:Type}(x:G0)(K:AX->St->Option ρ):Option ρ:=(λd=>K (.ex 0) (ayM.em (d.1,d.2.1,(d.1.2.1.1,d.b.1),(d.1.b.1.1,d.b.2.1),d.c))) x
def G3 (aw:bC)(cA:mC)(vI:pT)(d:sX.B):PL sX G0:=let y0:=Int.toNat d.1.2.2.2.2;let y1:=decide (d.1.2.2.2.2<d.1.2.2.2.1);ae y1 (ae (aW d.1.2.2.2.2 d.1.2.1.1) (opt (aw (d.2.2.1 y0) d.2.1) λaj=>ae (aW d.1.2.2.2.2 d.1.2.2.1.1) (opt (aw (d.2.2.2.1 y0) aj.2) λaI=>opt (cA aj.1 aI.1) λbp=>opt (vI 2 (λj=>bif Nat.beq j 1 then bp.1 else bif Nat.beq j 0 then d.2.2.2.2.1 else d.2.2.2.2.1) (λj=>bif Nat.beq j 1 then bp.2 else bif Nat.beq j 0 then d.2.2.2.2.2 else d.2.2.2.2.2) true) λcg=>ret (Sum.inl ((d.1.1,d.1.2.1,d.1.2.2.1,d.1.2.2.2.1,wI (d.1.2.2.2.2+1)),aI.2,d.2.2.1,d.2.2.2.1,cg.1))) no) no) (ret (Sum.inr ((d.1.1,d.1.2.1,d.1.2.2.1,d.1.2.2.2.1,d.1.2.2.2.2,y1),d.2)))
def Qn:=bA (G3 aO eN jl) 2000
def ZJ (hO:vg)(dI:LT sX G0)(x0:Int)(x1:Nat)(x2:Nat)(x3:Bool)(x4:Nat->Int)(x5:Nat->Int)(w0:Bool)(w1:Bool):Pg anX:=let y0:=if Int.ofNat x2<Int.ofNat x1 then Int.ofNat x2 else Int.ofNat x1;ae (decide (x0<0)) (opt (hO 0 0 x0 x3) λd=>ret d) (ae (decide (x0>120)) (opt (hO 0 0 x0 x3) λd=>ret d) (ae (Nat.beq x1 x1) (ae (Nat.beq x2 x2) (opt (dI ((x0,(x1,w0),(x2,w1),if 100<y0 then 100 else y0,0),x3,x4,x5,0,0)) λd=>opt (hO d.2.2.2.2.1 d.2.2.2.2.2 d.1.1 d.2.1) λd=>ret d) no) no))
def bn:=λx0 x1 x2 x3 x4 x5 w0 w1=>(ZJ mc Qn x0 x1 x2 x3 x4 x5 w0 w1).val
abbrev NT:=vg×bC×mC×pT×(LT sX G0)
def ZK (p:NT):KK:=⟨[GP p.1,cU p.2.1,vA p.b.1,IA p.b.2.1],⟨[⟨5,(rg 4 5 (rg 10 15 (rg 27 26 []))),[]⟩],[fH 5 3 sX af7 p.c],[0],[],(some ⟨0,(rg 0 8 (rg 9 44 [])),[]⟩)⟩,3,73⟩
theorem au0 (p:NT):LI (ZK p) 5 sX af7 (G3 p.2.1 p.b.1 p.b.2.1):=λ_ d c K=>by kernel_rfl
theorem aDe (p:NT):D2 (ZK p) anW (lf T8) λb=>ZJ p.1 p.c b.1.1 b.1.2.1.1 b.1.b.1 b.2.1 b.b.1 b.b.2 b.1.2.1.2 b.1.b.2:=λb=>by kernel_rfl
abbrev ZL:NT:=(mc,aO,eN,jl,Qn)
theorem m7 [ax]:SC (lN bn):=sc (Sound.nil 3 [.i .i64]<|Sound.nil 2 [.i .i64]<|kS (k:=ZK ZL) (.c Qb (.c cY (.c yM (.c Ox (.nil _))))) [5] [] ⟨kL (au0 ZL),trivial⟩ trivial (aDe ZL))
def aw1:=qa (pr (c ai (c ai (c ai (cl ai (cu aN (cu amQ nil)))))) (cu aKj (c acX cq)))
def aea:=qe aQj
abbrev aw2:=aea.B
abbrev ai6:=Int->Int->Int->Int->Int->Int->Int->Int->Bool->Option aw2
def aw3 (g:ai6):Ct:=(196,FC aw1 (lf aea) (λb=>g b.1.1 b.1.2.1 b.1.b.1 b.1.b.2 b.2.1.1 b.2.1.2.1 b.2.1.b.1 b.2.1.b.2 b.b))
def ai7 (bb:ek)(x0:Int)(x1:Int)(x2:Int)(x3:Int)(x4:Int)(x5:Int)(x6:Int)(x7:Int)(x8:Bool):Pg aw2:=let y0:=wI (x0*x4);opt (bb 30 4 4 x8 (cr x4 [x7,x6,x5,x4]) (cr y0 [wI (x3*x7),wI (x2*x6),wI (x1*x5),y0]) false true) λd=>ret d
def OE:=λx0 x1 x2 x3 x4 x5 x6 x7 x8=>(ai7 bn x0 x1 x2 x3 x4 x5 x6 x7 x8).val
theorem aI7:∀bb,D0 [lN bb] 196 aw1 (lf aea) λb=>ai7 bb b.1.1 b.1.2.1 b.1.b.1 b.1.b.2 b.2.1.1 b.2.1.2.1 b.2.1.b.1 b.2.1.b.2 b.b:=λ_ b=>by kernel_rfl
theorem aI8 [ax]:SC (aw3 OE):=s0 (.c m7 (.nil _)) (aI7 bn)
def aw4:=qa (pr (c ai (c ai aFw)) (cu azX cq))
def aeb:=qe aKI
abbrev aw5:=aeb.B
abbrev ai8:=Int->Int->Int->Int->Bool->Option aw5
def aw6 (g:ai8):Ct:=(197,FC aw4 (lf aeb) (λb=>g b.1.1 b.1.2.1 b.1.b.1 b.1.b.2 b.2))
def ai9 (bb:ek)(x0:Int)(x1:Int)(x2:Int)(x3:Int)(x4:Bool):Pg aw5:=opt (bb 30 4 4 x4 (cr x0 [x2,x2,x0,x0]) (cr x1 [x3,x3,x1,x1]) true true) λd=>ret d
def OF:=λx0 x1 x2 x3 x4=>(ai9 bn x0 x1 x2 x3 x4).val
theorem aI9:∀bb,D0 [lN bb] 197 aw4 (lf aeb) λb=>ai9 bb b.1.1 b.1.2.1 b.1.b.1 b.1.b.2 b.2:=λ_ b=>by kernel_rfl
theorem aJa [ax]:SC (aw6 OF):=s0 (.c m7 (.nil _)) (aI9 bn)
def XR:=qa (pr (c ai (c ai (cl ai (cu av8 nil)))) (cl aph nil))
def HD:=qe aQn
abbrev XS:=HD.B
abbrev XT:=Int->Int->Int->NI->Option XS
def XU (g:XT):Ct:=(115,FC XR (lf HD) (λb=>g b.1.1 b.1.2.1 b.1.b b.2))
def fW:=qs (st (pr (us 1 (c ai (c ai (cu av8 (us 3 (cl ai (us 9 nil))))))) (pl Ho cy)))
def al8:=qs (st (pr (us 1 (c ai (c ai (cu av8 (us 3 (c ai (us 1 (c ai (c ai (cl ab (us 5 nil))))))))))) (pl Ho cy)))
abbrev nN:=((Int×Int×Int×Bool)×NI)
def RD {ρ:Type}(x:nN)(K:AX->St->Option ρ):Option ρ:=(λd=>K (.ex 0) (al8.em ((d.1.1,d.1.2.1,d.1.b.1,d.1.b.1,d.1.1,d.1.b.2),d.2))) x
def Fb (d:fW.B):PL fW nN:=let n1:=d.1.2;let y0:=Int.toNat n1.2;let y1:=decide (n1.2<d.1.1);ae y1 (ae (aW n1.2 24) (ae (true&&Nat.ble (0+y0*1+1) 24) (ret (Sum.inl ((d.1.1,n1.1,wI (n1.2+1)),λj=>bif Nat.beq j y0 then n1.1 else d.2 j))) no) no) (ret (Sum.inr ((d.1.1,n1.1,n1.2,y1),d.2)))
def Fc:=bA (Fb) 2000
def JN (dI:LT fW nN)(x0:Int)(x1:Int)(x2:Int)(x3:Nat->Int):Pg XS:=opt (dI ((x1,x2,x0),x3)) λd=>ret d.2
def vK:=λx0 x1 x2 x3=>(JN Fc x0 x1 x2 x3).val
abbrev B7:=(LT fW nN)
def JO (p:B7):KK:=⟨[],⟨[⟨1,(0::4::5::6::rg 8 9 []),[]⟩],[fH 1 1 fW RD p],[0],[],(some ⟨0,(rg 0 17 []),[]⟩)⟩,1,115⟩
theorem aja (p:B7):LI (JO p) 1 fW RD (Fb):=λ_ d c K=>by kernel_rfl
theorem arZ (p:B7):D2 (JO p) XR (lf HD) λb=>JN p b.1.1 b.1.2.1 b.1.b b.2:=λb=>by kernel_rfl
abbrev JP:B7:=Fc
theorem ar0 [ax]:SC (XU vK):=sc (kS (k:=JO JP) (.nil _) [1] [] ⟨kL (aja JP),trivial⟩ trivial (arZ JP))
def af8:=qa (pr (cu aN fM) cq)
def Mg:=qe oG
abbrev af9:=Mg.B
abbrev AO:=Int->Bool->Option af9
def Qo (g:AO):Ct:=(88,FC af8 (lf Mg) (λb=>g b.1 b.2))
def G4 (aE:bM)(x0:Int)(x1:Bool):Pg af9:=opt (aE x0 1 72057594037927936 x1) λd=>ret d
def me:=λx0 x1=>(G4 aX x0 x1).val
theorem ayN:∀aE,D0 [dw aE] 88 af8 (lf Mg) λb=>G4 aE b.1 b.2:=λ_ b=>by kernel_rfl
theorem aga [ax]:SC (Qo me):=s0 (.c dN (.nil _)) (ayN aX)
def abq:=qa (pr (cu aN (cl xF nil)) cq)
def JQ:=qe aKX
abbrev Mh:=JQ.B
abbrev oL:=NI->NI->Bool->Option Mh
def xS (g:oL):Ct:=(69,FC abq (lf JQ) (λb=>g b.1.1 b.1.2 b.2))
def dO:=qs (st (pr (cu aN (us 2 (cu EE (cu Xe (us 2 aKh))))) (pl (c ch auj) cy)))
def T9:=qs (st (pr (cu aN (us 2 (cu EE (cu Xe (us 2 aKp))))) (pl (c ch auj) cy)))
abbrev j7:=T9.B
def T' {ρ:Type}:=@ef j7 ((.ex 0)) T9 ρ
def zt (Qp:AO)(d:dO.B):PL dO j7:=let y0:=Int.toNat d.1;let y1:=aW d.1 24;let y2:=decide (d.1<24);ae y2 (ae y1 (opt (Qp (d.2.2.1.2 y0) d.2.1) λaj=>ae y1 (ae (true&&Nat.ble (276+y0*1+1) 300) (ret (Sum.inl (wI (d.1+1),aj.2,(d.2.2.1.1,λj=>bif Nat.beq j y0 then aj.1 else d.2.2.1.2 j),d.2.2.2))) no) no) no) (ret (Sum.inr ((d.1,y2),d.2)))
def zu:=bA (zt me) 2000
def dP:=qs (st (pr (cu aN (us 2 (cu EE (cu Xe (us 15 aFj))))) (pl (c ch auj) cy)))
def Ua:=qs (st (pr (cu aN (us 2 (cu EE (cu Xe (us 15 aFo))))) (pl (c ch auj) cy)))
abbrev j8:=Ua.B
def Ub {ρ:Type}:=@ef j8 ((.ex 2)) Ua ρ
def zw (aE:bM)(d:dP.B):PL dP j8:=let y0:=Int.toNat d.1;let y1:=aW d.1 276;let y2:=decide (d.1<276);let y3:=0+y0*1+1;let y4:=Nat.ble y3 276;ae y2 (ae y1 (ae y4 (opt (aE (d.2.2.1.1 y0) (-1152921504606846976) 1152921504606846976 d.2.1) λaj=>ae y1 (ae (y4&&Nat.ble y3 300) (ret (Sum.inl (wI (d.1+1),aj.2,(λj=>bif Nat.beq j y0 then aj.1 else d.2.2.1.1 j,d.2.2.1.2),d.2.2.2))) no) no) no) no) (ret (Sum.inr ((d.1,y2),d.2)))
def zy:=bA (zw aX) 2000
def D6 (dI:LT dO j7)(qX:LT dP j8)(x0:Nat->Int)(x1:Nat->Int)(x2:Bool):Pg Mh:=opt (dI (0,x2,(x0,x1),λx=>0,λx=>0)) λd=>opt (qX (0,d.2)) λd=>ret (d.2.2.1,d.2.1)
def eX:=λx0 x1 x2=>(D6 zu zy x0 x1 x2).val
abbrev xT:=AO×bM×(LT dO j7)×(LT dP j8)
def D7 (p:xT):KK:=⟨[Qo p.1,dw p.2.1],⟨[⟨2,(1::2::5::6::rg 8 26 []),[]⟩,⟨7,(1::2::rg 5 15 (rg 21 13 [])),[]⟩],[fH 2 1 dO T' p.b.1,fH 7 1 dP Ub p.b.2],[0],[],(some ⟨0,(rg 0 4 (rg 5 29 [])),[]⟩)⟩,1,69⟩
theorem al9 (p:xT):LI (D7 p) 2 dO T' (zt p.1):=λ_ d c K=>by kernel_rfl
theorem ama (p:xT):LI (D7 p) 7 dP Ub (zw p.2.1):=λ_ d c K=>by kernel_rfl
theorem au1 (p:xT):D2 (D7 p) abq (lf JQ) λb=>D6 p.b.1 p.b.2 b.1.1 b.1.2 b.2:=λb=>by kernel_rfl
abbrev D8:xT:=(me,aX,zu,zy)
theorem D9 [ax]:SC (xS eX):=sc (kS (k:=D7 D8) (.c aga (.c dN (.nil _))) [2,7] [] ⟨kL (al9 D8),⟨kL (ama D8),trivial⟩⟩ trivial (au1 D8))
def aBw:=qa (dp (cu aN at6) λa=>(c ux (cl (cl (gs a.1 mB) nil) nil)))
def ajb:=qe aQF
abbrev aBx:=ajb.B
abbrev apT:=Nat->Bool->NI->Bool->Option aBx
def aBy (g:apT):Ct:=(50,sE 1 [.i .i64] (FC aBw (lf ajb) (λb=>g b.1.1 b.2.1 b.b b.1.2)))
def po:=qs (st (dp (cu aN (c FY (us 2 (cu Xe (cu aD9 (us 1 aFk)))))) λa=>(pl (c ch (c (so (cl (gs a.1.1 mB) nil)) auj)) cy)))
def aGu:=qs (st (pr (cu aN (c FY (us 2 (cu Xe (cu aD9 (us 1 aKq)))))) (pl (c ch (c Hp auj)) cy)))
abbrev Ea:=(((Nat×Bool)×Int×Bool)×Bool×NI×(NI×NI)×NI×NI)
def ar1 {ρ:Type}(x:Ea)(K:AX->St->Option ρ):Option ρ:=(λd=>K (.ex 0) (aGu.em (d.1,d.2.1,(d.1.1.1,d.b.1),d.b.2))) x
def aec (Qp:AO)(d:po.B):PL po Ea:=let n3:=d.1.1;let n2:=d.1.2;let n1:=d.2.2;let y0:=Int.toNat n2;let y1:=aW n2 24;let y2:=decide (n2<24);let y3:=true&&Nat.ble (276+y0*1+1) 300;ae y2 (ae y1 (ae y3 (ae (decide (n2<Int.ofNat n3.1)) (ae (aW n2 n3.1) (opt (Qp (n1.1 y0) d.2.1) λaj=>ae y1 (ae y3 (ret (Sum.inl ((n3,wI (n2+1)),aj.2,n1.1,n1.2.1,n1.2.2.1,λj=>let y0:=Nat.beq j y0;bif y0 then aj.1 else bif y0 then 1 else n1.2.2.2 j))) no) no) no) (ret (Sum.inl ((n3,wI (n2+1)),d.2.1,n1.1,n1.2.1,n1.2.2.1,λj=>bif Nat.beq j y0 then 1 else n1.2.2.2 j)))) no) no) (ret (Sum.inr ((n3,n2,y2),d.2)))
def aed:=bA (aec me) 2000
def apU (dI:LT po Ea)(x0:Nat)(x1:Bool)(x2:Nat->Int)(w0:Bool):Pg aBx:=ae (Nat.beq x0 x0) (opt (dI (((x0,w0),0),x1,x2,(λx=>0,λx=>0),λx=>0,λx=>0)) λd=>ret (d.2.2.2.2,d.2.1)) no
def Uc:=λx0 x1 x2 w0=>(apU aed x0 x1 x2 w0).val
abbrev aee:=AO×(LT po Ea)
def apV (p:aee):KK:=⟨[Qo p.1],⟨[⟨3,(2::3::6::rg 8 20 []),[]⟩],[fH 3 2 po ar1 p.2],[0],[],(some ⟨0,(rg 0 4 (rg 5 23 [])),[]⟩)⟩,2,50⟩
theorem aDf (p:aee):LI (apV p) 3 po ar1 (aec p.1):=λ_ d c K=>by kernel_rfl
theorem aL5 (p:aee):D2 (apV p) aBw (lf ajb) λb=>apU p.2 b.1.1 b.2.1 b.b b.1.2:=λb=>by kernel_rfl
abbrev apW:aee:=(me,aed)
theorem aL6 [ax]:SC (aBy Uc):=sc (Sound.nil 1 [.i .i64]<|kS (k:=apV apW) (.c aga (.nil _)) [3] [] ⟨kL (aDf apW),trivial⟩ trivial (aL5 apW))
def ar2:=qa (pl FZ nil)
def ZM:=qe aud
abbrev Sq:=ZM.B
abbrev aef:=Int->Int->Option Sq
def aeg (g:aef):Ct:=(125,FC ar2 (lf ZM) (λb=>g b.1 b.2))
def Eb (x0:Int)(x1:Int):Pg Sq:=let y0:=wI (wI (Int.tdiv (wI (x1*wI (x1-1))) 2)+x0);ae (decide (x0>=0)) (ae (decide (x0<x1)) (ret (y0,decide (x1<24))) (ret (y0,false))) (ret (y0,false))
def iH:=λx0 x1=>(Eb x0 x1).val
theorem aGv:D0 [] 125 ar2 (lf ZM) λb=>Eb b.1 b.2:=λb=>by kernel_rfl
theorem ar3 [ax]:SC (aeg iH):=s0 (.nil _) aGv
def aJb:=qa (pl (c xF FZ) nil)
def au2:=qe EU
abbrev aJc:=au2.B
abbrev Ud:=NI->NI->Int->Int->Option aJc
def ar4 (g:Ud):Ct:=(71,FC aJb (lf au2) (λb=>g b.1.1 b.1.2 b.2.1 b.b))
def ar5 (nq:aef)(x0:Nat->Int)(x1:Nat->Int)(x2:Int)(x3:Int):Pg aJc:=ae (x2==x3) (ae (decide (x2>=0)) (ae (decide (x2<24)) (ret 1073741824) (opt (nq x2 x3) λd=>ae (!d.2) (ret 0) (ae (aW d.1 276) (ae (Nat.ble (0+Int.toNat d.1*1+1) 276) (ret (x0 (Int.toNat d.1))) no) no))) (opt (nq x2 x3) λd=>ae (!d.2) (ret 0) (ae (aW d.1 276) (ae (Nat.ble (0+Int.toNat d.1*1+1) 276) (ret (x0 (Int.toNat d.1))) no) no))) (opt (nq x2 x3) λd=>ae (!d.2) (ret 0) (ae (aW d.1 276) (ae (Nat.ble (0+Int.toNat d.1*1+1) 276) (ret (x0 (Int.toNat d.1))) no) no))
def CO:=λx0 x1 x2 x3=>(ar5 iH x0 x1 x2 x3).val
theorem aSq:∀nq,D0 [aeg nq] 71 aJb (lf au2) λb=>ar5 nq b.1.1 b.1.2 b.2.1 b.b:=λ_ b=>by kernel_rfl
theorem aBz [ax]:SC (ar4 CO):=s0 (.c ar3 (.nil _)) (aSq iH)
def aBA:=qa (pl (c xF Cz) nil)
def ajc:=qe (res (pl xF (pu nil nil)))
abbrev aBB:=ajc.B
abbrev Ue:=NI->NI->Int->Int->Int->Option aBB
def apX (g:Ue):Ct:=(217,FC aBA (lf ajc) (λb=>g b.1.1 b.1.2 b.2.1 b.b.1 b.b.2))
def aeh (nq:aef)(x0:Nat->Int)(x1:Nat->Int)(x2:Int)(x3:Int)(x4:Int):Pg aBB:=opt (nq x2 x3) λd=>let y0:=0+Int.toNat d.1*1+1;ae d.2 (ae (aW d.1 276) (ae (Nat.ble y0 276&&Nat.ble y0 300) (ret (λj=>bif Nat.beq j (Int.toNat d.1) then x4 else x0 j,x1)) no) no) (ret (x0,x1))
def wE:=λx0 x1 x2 x3 x4=>(aeh iH x0 x1 x2 x3 x4).val
theorem aL7:∀nq,D0 [aeg nq] 217 aBA (lf ajc) λb=>aeh nq b.1.1 b.1.2 b.2.1 b.b.1 b.b.2:=λ_ b=>by kernel_rfl
theorem aBC [ax]:SC (apX wE):=s0 (.c ar3 (.nil _)) (aL7 iH)
def agb:=qa (pu nil nil)
def Mi:=qe (res (pl (aa azZ) (pu nil nil)))
abbrev AP:=Mi.B
abbrev AQ:=Option AP
def Qq (g:AQ):Ct:=(213,FC agb (lf Mi) (λ_=>g))
def eL:=qs (st (pr (cu (app 0 576) (cu Oi (us 1 aKl))) (pl (c lg (cl lg nil)) nil)))
def XV:=qs (st (pr (cu (app 0 576) (cu Oi (us 1 aFq))) (pl (c lg (cl lg nil)) nil)))
abbrev lr:=XV.B
def XW {ρ:Type}:=@ef lr ((.ex 0)) XV ρ
def B8 (d:eL.B):PL eL lr:=let y0:=Int.toNat d.1;let y1:=aW d.1 24;let y2:=decide (d.1<24);let y3:=y0*24+y0;ae y2 (ae y1 (ae y1 (ae (true&&Nat.ble (0+y3*1+1) 576) (ret (Sum.inl (wI (d.1+1),d.2.1,λj=>bif Nat.beq j y3 then 1073741824 else d.2.2 j))) no) no) no) (ret (Sum.inr ((d.1,y2),d.2)))
def B9:=bA (B8) 2000
def G5 (dI:LT eL lr):Pg AP:=opt (dI (0,λx=>0,λx=>0)) λd=>ret d.2.2
def mf:Option AP:=(G5 B9).val
abbrev G6:=(LT eL lr)
def Qr (p:G6):KK:=⟨[],⟨[⟨3,(2::rg 4 8 []),[]⟩],[fH 3 0 eL XW p],[],[],(some ⟨0,(rg 1 11 []),[]⟩)⟩,0,213⟩
theorem apY (p:G6):LI (Qr p) 3 eL XW (B8):=λ_ d c K=>by kernel_rfl
theorem ayO (p:G6):D2 (Qr p) agb (lf Mi) λb=>G5 p:=λb=>by kernel_rfl
abbrev Qs:G6:=B9
theorem agc [ax]:SC (Qq mf):=sc (kS (k:=Qr Qs) (.nil _) [3] [] ⟨kL (apY Qs),trivial⟩ trivial (ayO Qs))
def ar6:=qa (pr (cu aN (c (aa YQ) EX)) cq)
def ZN:=qe auf
abbrev ar7:=ZN.B
abbrev Ec:=NI->Int->Int->Int->Bool->Option ar7
def JR (g:Ec):Ct:=(124,FC ar6 (lf ZN) (λb=>g b.1.1 b.1.2.1 b.1.b.1 b.1.b.2 b.2))
def mg:=qs (st (pr (cu aN (us 3 (cu aEa (cu Xd (cu ahR (cu aMD (us 1 aKg))))))) (pl (c ch (c (so YQ) (c wA ahZ))) cy)))
def ajd:=qs (st (pr (cu aN (us 3 (cu aEa (cu Xd (cu ahR (cu aMD (us 1 (c ai aKe)))))))) (pl (c ch (c (so YQ) (c wA ahZ))) cy)))
abbrev xU:=ajd.B
def aje {ρ:Type}:=@ef xU ((.ex 0)) ajd ρ
def Uf (bb:ek)(d:mg.B):PL mg xU:=let n2:=d.2.2.1;let n1:=d.2.2.2;let y0:=wI (3*d.1);let y1:=wI (d.1+1);let y2:=Int.toNat y0;let y3:=wI (y0+3);let y4:=Int.toNat y3;let y5:=decide (d.1<3);let y6:=y4-y2;ae y5 (ae (Ir y3 9) (ae (Ir y0 y4) (ae (Nat.beq y6 y6) (opt (bb 30 y6 3 d.2.1 (λj=>n2 (y2+j)) (cr n1.1.1 [n1.1.2.2,n1.1.2.1,n1.1.1]) false false) λaj=>ae (aW d.1 3) (ae (d.1==2) (ret (Sum.inl (y1,aj.2,n2,n1.1,n1.2.1,n1.2.2.1,aj.1))) (ae (d.1==1) (ret (Sum.inl (y1,aj.2,n2,n1.1,n1.2.1,aj.1,n1.2.2.2))) (ret (Sum.inl (y1,aj.2,n2,n1.1,aj.1,n1.2.2))))) no) no) no) no) (ret (Sum.inr ((d.1,y5),d.2)))
def Ug:=bA (Uf bn) 2000
def aei (dI:LT mg xU)(x0:Nat->Int)(x1:Int)(x2:Int)(x3:Int)(x4:Bool):Pg ar7:=opt (dI (0,x4,x0,(x1,x2,x3),0,0,0)) λd=>ret (d.2.2.2.2,d.2.1)
def nr:=λx0 x1 x2 x3 x4=>(aei Ug x0 x1 x2 x3 x4).val
abbrev Sr:=ek×(LT mg xU)
def aej (p:Sr):KK:=⟨[lN p.1],⟨[⟨3,(1::2::3::8::rg 10 15 []),[]⟩],[fH 3 1 mg aje p.2],[0],[],(some ⟨0,(rg 0 6 (rg 7 18 [])),[]⟩)⟩,1,124⟩
theorem ayP (p:Sr):LI (aej p) 3 mg aje (Uf p.1):=λ_ d c K=>by kernel_rfl
theorem aGw (p:Sr):D2 (aej p) ar6 (lf ZN) λb=>aei p.2 b.1.1 b.1.2.1 b.1.b.1 b.1.b.2 b.2:=λb=>by kernel_rfl
abbrev aek:Sr:=(bn,Ug)
theorem Ss [ax]:SC (JR nr):=sc (kS (k:=aej aek) (.c m7 (.nil _)) [3] [] ⟨kL (ayP aek),trivial⟩ trivial (aGw aek))
def aw7:=qa (pr (cu aN (c (aa YQ) EX)) cq)
def ael:=qe auf
abbrev aw8:=ael.B
abbrev CP:=NI->Int->Int->Int->Bool->Option aw8
def XX (g:CP):Ct:=(121,FC aw7 (lf ael) (λb=>g b.1.1 b.1.2.1 b.1.b.1 b.1.b.2 b.2))
def ns:=qs (st (pr (cu aN (us 3 (cu aEa (cu Xd (cu ahR (cu aMD (us 1 aPv))))))) (pl (c ch (c (so YQ) (c wA ahZ))) cy)))
def anY:=qs (st (pr (cu aN (us 3 (cu aEa (cu Xd (cu ahR (cu aMD (us 1 aPI))))))) (pl (c ch (c (so YQ) (c wA ahZ))) cy)))
abbrev Br:=anY.B
def anZ {ρ:Type}:=@ef Br ((.ex 0)) anY ρ
def ZO (bb:ek)(d:ns.B):PL ns Br:=let n1:=d.2.2;let n3:=n1.2.2;let n2:=n1.2.1;let y0:=wI (6+d.1);let y1:=wI (d.1+1);let y2:=wI (3+d.1);let y3:=decide (d.1<3);ae y3 (ae (aW d.1 9) (ae (aW y2 9) (ae (aW y0 9) (opt (bb 30 3 3 d.2.1 (cr (n1.1 (Int.toNat d.1)) [n1.1 (Int.toNat y0),n1.1 (Int.toNat y2),n1.1 (Int.toNat d.1)]) (cr n2.1 [n2.2.2,n2.2.1,n2.1]) true false) λaj=>ae (aW d.1 3) (ae (d.1==2) (ret (Sum.inl (y1,aj.2,n1.1,n2,n3.1,n3.2.1,aj.1))) (ae (d.1==1) (ret (Sum.inl (y1,aj.2,n1.1,n2,n3.1,aj.1,n3.2.2))) (ret (Sum.inl (y1,aj.2,n1.1,n2,aj.1,n3.2))))) no) no) no) no) (ret (Sum.inr ((d.1,y3),d.2)))
def ZP:=bA (ZO bn) 2000
def ajf (dI:LT ns Br)(x0:Nat->Int)(x1:Int)(x2:Int)(x3:Int)(x4:Bool):Pg aw8:=opt (dI (0,x4,x0,(x1,x2,x3),0,0,0)) λd=>ret (d.2.2.2.2,d.2.1)
def vL:=λx0 x1 x2 x3 x4=>(ajf ZP x0 x1 x2 x3 x4).val
abbrev XY:=ek×(LT ns Br)
def ajg (p:XY):KK:=⟨[lN p.1],⟨[⟨3,(1::2::3::8::rg 10 21 []),[]⟩],[fH 3 1 ns anZ p.2],[0],[],(some ⟨0,(rg 0 6 (rg 7 24 [])),[]⟩)⟩,1,121⟩
theorem aBD (p:XY):LI (ajg p) 3 ns anZ (ZO p.1):=λ_ d c K=>by kernel_rfl
theorem aJd (p:XY):D2 (ajg p) aw7 (lf ael) λb=>ajf p.2 b.1.1 b.1.2.1 b.1.b.1 b.1.b.2 b.2:=λb=>by kernel_rfl
abbrev ajh:XY:=(bn,ZP)
theorem aji [ax]:SC (XX vL):=sc (kS (k:=ajg ajh) (.c m7 (.nil _)) [3] [] ⟨kL (aBD ajh),trivial⟩ trivial (aJd ajh))
def ar8:=qa (pl (cl (aa EW) nil) nil)
def ZQ:=qe BB
abbrev ar9:=ZQ.B
abbrev asa:=Int->Int->Bool->Bool->Option ar9
def asb (g:asa):Ct:=(176,FC ar8 (lf ZQ) (λb=>g b.1 b.2.1 b.b.1 b.b.2))
def aem (x0:Int)(x1:Int)(x2:Bool)(x3:Bool):Pg ar9:=let y0:=x0==0;let y1:=x0==2;ae y0 (ae y0 (ae (x1==0) (ae (!x2) (ret !x3) (ret false)) (ret false)) (ae y1 (ae y1 (ae (decide (x1>=1)) (ae (decide (x1<=3)) (ae x2 (ret true) (ret y1)) (ret false)) (ret false)) (ret false)) (ae (x0==3) (ae (decide (x1>=1)) (ae (decide (x1<=3)) (ae x2 (ret true) (ret y1)) (ret false)) (ret false)) (ret false)))) (ae (x0==1) (ae (x1==0) (ae (!x2) (ret !x3) (ret false)) (ret false)) (ae y1 (ae y1 (ae (decide (x1>=1)) (ae (decide (x1<=3)) (ae x2 (ret true) (ret y1)) (ret false)) (ret false)) (ret false)) (ae (x0==3) (ae (decide (x1>=1)) (ae (decide (x1<=3)) (ae x2 (ret true) (ret y1)) (ret false)) (ret false)) (ret false))))
def JS:=λx0 x1 x2 x3=>(aem x0 x1 x2 x3).val
theorem aGx:D0 [] 176 ar8 (lf ZQ) λb=>aem b.1 b.2.1 b.b.1 b.b.2:=λb=>by kernel_rfl
theorem aGy [ax]:SC (asb JS):=s0 (.nil _) aGx
def asc:=qa (pl (c ai aK3) nil)
def ZR:=qe EU
abbrev asd:=ZR.B
abbrev ase:=Int->Bool->Bool->Bool->Bool->Bool->Bool->Bool->Bool->Int->Int->Int->Option asd
def asf (g:ase):Ct:=(177,FC asc (lf ZR) (λb=>g b.1 b.2.1 b.b.1 b.b.2.1.1 b.b.2.1.2.1 b.b.2.1.b.1 b.b.2.1.b.2.1 b.b.2.1.c.1 b.b.2.1.c.2 b.c.1 b.c.2.1 b.c.b))
def aen (x0:Int)(x1:Bool)(x2:Bool)(x3:Bool)(x4:Bool)(x5:Bool)(x6:Bool)(x7:Bool)(x8:Bool)(x9:Int)(fS:Int)(fT:Int):Pg asd:=let y0:=x0==0;let y1:=x0==1;ae x3 (ae y0 (ae x1 (ret 1) (ae y0 (ret x0) (ae y1 (ae (!x2) (ret x0) (ret 3)) (ret 3)))) (ae y0 (ret x0) (ae y1 (ae (!x2) (ret x0) (ret 3)) (ret 3)))) (ae y0 (ae x1 (ret 1) (ae y0 (ret x0) (ae y1 (ae (!x2) (ret x0) (ae x8 (ret 3) (ret 2))) (ae x8 (ret 3) (ret 2))))) (ae y0 (ret x0) (ae y1 (ae (!x2) (ret x0) (ae x8 (ret 3) (ret 2))) (ae x8 (ret 3) (ret 2)))))
def JT:=λx0 x1 x2 x3 x4 x5 x6 x7 x8 x9 fS fT=>(aen x0 x1 x2 x3 x4 x5 x6 x7 x8 x9 fS fT).val
theorem aGz:D0 [] 177 asc (lf ZR) λb=>aen b.1 b.2.1 b.b.1 b.b.2.1.1 b.b.2.1.2.1 b.b.2.1.b.1 b.b.2.1.b.2.1 b.b.2.1.c.1 b.b.2.1.c.2 b.c.1 b.c.2.1 b.c.b:=λb=>by kernel_rfl
theorem aGA [ax]:SC (asf JT):=s0 (.nil _) aGz
def ajj:=qa (pl fM nil)
def Qt:=qe EU
abbrev ajk:=Qt.B
abbrev Uh:=Int->Option ajk
def ajl (g:Uh):Ct:=(239,FC ajj (lf Qt) (λb=>g b))
def CQ (x0:Int):Pg ajk:=ae (x0==1) (ret 1) (ae (x0==2) (ret 0) (ret 2))
def xV:=λx0=>(CQ x0).val
theorem aBE:D0 [] 239 ajj (lf Qt) λb=>CQ b:=λb=>by kernel_rfl
theorem aBF [ax]:SC (ajl xV):=s0 (.nil _) aBE
def ajm:=qa (pl (c ai aK3) nil)
def Qu:=qe aud
abbrev ajn:=Qu.B
abbrev ajo:=Int->Bool->Bool->Bool->Bool->Bool->Bool->Bool->Bool->Int->Int->Int->Option ajn
def ajp (g:ajo):Ct:=(178,FC ajm (lf Qu) (λb=>g b.1 b.2.1 b.b.1 b.b.2.1.1 b.b.2.1.2.1 b.b.2.1.b.1 b.b.2.1.b.2.1 b.b.2.1.c.1 b.b.2.1.c.2 b.c.1 b.c.2.1 b.c.b))
def jz:=qs (st (pr (c ai (us 1 (xs 1 (cu (app 0 11) (us 2 (xs 1 (us 3 (cu aQy (cu (ac aKn) aFk))))))))) (pl (c aKW (cl (so (cl gi (cu (gc at5) (cu aKr aKx)))) nil)) nil)))
def Ui:=qs (st (pl (us 4 (cl ai (cu apg aPg))) (pu nil nil)))
def Uj:=qs (st (pr (c ai (us 1 (xs 1 (cu (app 0 11) (us 2 (xs 1 (us 3 (cu aQy (cu (ac aKn) aKq))))))))) (pl (c aKW (cl (so (cl gi (cu (gc at5) (cu aKr aKx)))) nil)) nil)))
abbrev sY:=Ui.B⊕Uj.B
def abr {ρ:Type}(x:sY)(K:AX->St->Option ρ):Option ρ:=(Sum.elim (λd=>K .ret (Ui.em d)) (λd=>K (.ex 0) (Uj.em d))) x
def Mj (JU:Uh)(d:jz.B):PL jz sY:=let n6:=d.2.2;let n5:=d.2.1.2.2;let n3:=d.1.1;let n2:=d.1.2;let n1:=n5.2;let n4:=n1.2.2;let n7:=n4.2.2.1;let y0:=decide (n2<4);ae y0 (ae (aW n2 4) (ae (n2==3) (opt (JU 3) λaj=>ae (aW aj 6) (ae (aj==5) (ae n7 (ret (Sum.inr (Sum.inl 3))) (ret (Sum.inl ((n3,wI (n2+1)),d.2)))) (ae (aj==4) (ae n4.2.1 (ret (Sum.inr (Sum.inl 3))) (ret (Sum.inl ((n3,wI (n2+1)),d.2)))) (ae (aj==3) (ae n4.1 (ret (Sum.inr (Sum.inl 3))) (ret (Sum.inl ((n3,wI (n2+1)),d.2)))) (ae (aj==2) (ae n1.2.1 (ret (Sum.inr (Sum.inl 3))) (ret (Sum.inl ((n3,wI (n2+1)),d.2)))) (ae (aj==1) (ae n1.1 (ret (Sum.inr (Sum.inl 3))) (ret (Sum.inl ((n3,wI (n2+1)),d.2)))) (ae n5.1 (ret (Sum.inr (Sum.inl 3))) (ret (Sum.inl ((n3,wI (n2+1)),d.2))))))))) no) (ae (n2==2) (opt (JU 2) λaj=>ae (aW aj 6) (ae (aj==5) (ae n7 (ret (Sum.inr (Sum.inl 2))) (ret (Sum.inl ((n3,wI (n2+1)),d.2)))) (ae (aj==4) (ae n4.2.1 (ret (Sum.inr (Sum.inl 2))) (ret (Sum.inl ((n3,wI (n2+1)),d.2)))) (ae (aj==3) (ae n4.1 (ret (Sum.inr (Sum.inl 2))) (ret (Sum.inl ((n3,wI (n2+1)),d.2)))) (ae (aj==2) (ae n1.2.1 (ret (Sum.inr (Sum.inl 2))) (ret (Sum.inl ((n3,wI (n2+1)),d.2)))) (ae (aj==1) (ae n1.1 (ret (Sum.inr (Sum.inl 2))) (ret (Sum.inl ((n3,wI (n2+1)),d.2)))) (ae n5.1 (ret (Sum.inr (Sum.inl 2))) (ret (Sum.inl ((n3,wI (n2+1)),d.2))))))))) no) (ae (n2==1) (opt (JU 1) λaj=>ae (aW aj 6) (ae (aj==5) (ae n7 (ret (Sum.inr (Sum.inl 1))) (ret (Sum.inl ((n3,wI (n2+1)),d.2)))) (ae (aj==4) (ae n4.2.1 (ret (Sum.inr (Sum.inl 1))) (ret (Sum.inl ((n3,wI (n2+1)),d.2)))) (ae (aj==3) (ae n4.1 (ret (Sum.inr (Sum.inl 1))) (ret (Sum.inl ((n3,wI (n2+1)),d.2)))) (ae (aj==2) (ae n1.2.1 (ret (Sum.inr (Sum.inl 1))) (ret (Sum.inl ((n3,wI (n2+1)),d.2)))) (ae (aj==1) (ae n1.1 (ret (Sum.inr (Sum.inl 1))) (ret (Sum.inl ((n3,wI (n2+1)),d.2)))) (ae n5.1 (ret (Sum.inr (Sum.inl 1))) (ret (Sum.inl ((n3,wI (n2+1)),d.2))))))))) no) (ae (decide (n6>=1)) (ae (decide (n6<=3)) (opt (JU n6) λaj=>ae (aW aj 6) (ae (aj==5) (ae n7 (ret (Sum.inr (Sum.inl n6))) (ret (Sum.inl ((n3,wI (n2+1)),d.2)))) (ae (aj==4) (ae n4.2.1 (ret (Sum.inr (Sum.inl n6))) (ret (Sum.inl ((n3,wI (n2+1)),d.2)))) (ae (aj==3) (ae n4.1 (ret (Sum.inr (Sum.inl n6))) (ret (Sum.inl ((n3,wI (n2+1)),d.2)))) (ae (aj==2) (ae n1.2.1 (ret (Sum.inr (Sum.inl n6))) (ret (Sum.inl ((n3,wI (n2+1)),d.2)))) (ae (aj==1) (ae n1.1 (ret (Sum.inr (Sum.inl n6))) (ret (Sum.inl ((n3,wI (n2+1)),d.2)))) (ae n5.1 (ret (Sum.inr (Sum.inl n6))) (ret (Sum.inl ((n3,wI (n2+1)),d.2))))))))) no) (ret (Sum.inl ((n3,wI (n2+1)),d.2)))) (ret (Sum.inl ((n3,wI (n2+1)),d.2))))))) no) (ret (Sum.inr (Sum.inr ((n3,n2,y0),d.2))))
def Mk:=bA (Mj xV) 2000
def Uk (dI:LT jz sY)(x0:Int)(x1:Bool)(x2:Bool)(x3:Bool)(x4:Bool)(x5:Bool)(x6:Bool)(x7:Bool)(x8:Bool)(x9:Int)(fS:Int)(fT:Int):Pg ajn:=opt (dI ((x0,0),(x1,x2,x3,x4,x5,x6,x7,x8,x9,fS,fT),fT)) λx=>sum x (λd=>ret (d,true)) λd=>ret (if 1>d.1.1 then 1 else d.1.1,false)
def CR:=λx0 x1 x2 x3 x4 x5 x6 x7 x8 x9 fS fT=>(Uk Mk x0 x1 x2 x3 x4 x5 x6 x7 x8 x9 fS fT).val
abbrev JV:=Uh×(LT jz sY)
def Ul (p:JV):KK:=⟨[ajl p.1],⟨[⟨2,(1::4::5::7::8::9::rg 13 6 (21::22::rg 28 5 (19::20::rg 23 5 []))),[]⟩],[fH 2 0 jz abr p.2],[],[],(some ⟨0,(rg 0 4 (rg 6 27 [])),[]⟩)⟩,0,178⟩
theorem asg (p:JV):LI (Ul p) 2 jz abr (Mj p.1):=λ_ d c K=>by kernel_rfl
theorem aBG (p:JV):D2 (Ul p) ajm (lf Qu) λb=>Uk p.2 b.1 b.2.1 b.b.1 b.b.2.1.1 b.b.2.1.2.1 b.b.2.1.b.1 b.b.2.1.b.2.1 b.b.2.1.c.1 b.b.2.1.c.2 b.c.1 b.c.2.1 b.c.b:=λb=>by kernel_rfl
abbrev Um:JV:=(xV,Mk)
theorem aBH [ax]:SC (ajp CR):=sc (kS (k:=Ul Um) (.c aBF (.nil _)) [2] [] ⟨kL (asg Um),trivial⟩ trivial (aBG Um))
def JW:=qa (pl (c (aa EW) aK3) nil)
def aDg:=qe (res (pl (o9 (c (ra EW) (cl (ra (c gi (c gi (c gb aFr)))) nil))) (pu nil nil)))
abbrev aeo:=(LL×Int×Int)
def ash:aeo->T:=λd=>lf aDg (d.1,d.1.1,d.1.2.1,d.1.b.1,d.1.b.2,d.2)
abbrev aep:=JW.B->Option aeo
def asi (g:aep):Ct:=(111,FC JW ash g)
def aeq (Su:asa)(JX:ase)(CS:ajo)(x:JW.B):Pg aeo:=let n8:=x.2.2.1;let n7:=x.1.1;let n4:=x.1.2.1;let n1:=x.2.2.2;let n9:=n1.1.2.1;let n6:=n1.2.1;let n3:=n1.2.2;let n2:=n1.1.2.2;let n5:=n2.2.2;let y0:=decide (n6>=0);opt (Su n7 n4 x.1.2.2.1 x.1.2.2.2) λd=>ae (!d) (opt (JX 0 x.2.1 n8 n1.1.1 n9 n2.1 n2.2.1 n5.1 n5.2 n6 n3.1 n3.2) λd=>ae (decide (d>=2)) (opt (CS 0 x.2.1 n8 n1.1.1 n9 n2.1 n2.2.1 n5.1 n5.2 n6 n3.1 n3.2) λaj=>ae (d==3) (ret ((d,aj.1,true,!aj.2),0,0)) (ae y0 (ret ((d,aj.1,decide (n6<=n3.1),!aj.2),0,0)) (ret ((d,aj.1,false,!aj.2),0,0)))) (ret ((d,0,false,false),0,0))) (opt (JX n7 x.2.1 n8 n1.1.1 n9 n2.1 n2.2.1 n5.1 n5.2 n6 n3.1 n3.2) λd=>ae (decide (d>=2)) (opt (CS n4 x.2.1 n8 n1.1.1 n9 n2.1 n2.2.1 n5.1 n5.2 n6 n3.1 n3.2) λaj=>ae (d==3) (ret ((d,aj.1,true,!aj.2),n7,n4)) (ae y0 (ret ((d,aj.1,decide (n6<=n3.1),!aj.2),n7,n4)) (ret ((d,aj.1,false,!aj.2),n7,n4)))) (ret ((d,0,false,false),n7,n4)))
def JY:=λx=>(aeq JS JT CR x).val
theorem aGB:∀Su JX CS,D0 [asb Su,asf JX,ajp CS] 111 JW ash λb=>aeq Su JX CS b:=λ_ _ _ b=>by kernel_rfl
theorem aGC [ax]:SC (asi JY):=s0 (.c aGy (.c aGA (.c aBH (.nil _)))) (aGB JS JT CR)
def aBI:=qa (dp (cu aN aFm) λa=>(c ux (cl (cl (gs a.1 api) nil) nil)))
def ajq:=qe (res (pr acU (pl LM nil)))
abbrev aBJ:=ajq.B
abbrev zz:=Nat->Bool->NI->NI->NI->Bool->Option aBJ
def HE (g:zz):Ct:=(153,sE 1 [.i .i64,.i .i64,.i .i64] (FC aBI (lf ajq) (λb=>g b.1.1 b.2.1 b.b.1 b.b.2.1 b.c b.1.2)))
def pw:=qs (st (dp (cu aN (c azW (us 2 (cu Xd (cu ahR (c ai (c aQr (us 2 (c ai (us 2 (c azW (c ai (cl ai (us 17 nil)))))))))))))) λa=>(pl (c ch (c (so (cl (gs a.1.1 api) nil)) (cu (so apo) (c wA (cl (so (cl (gs a.b.1 mB) nil)) nil))))) cy)))
def aGD:=qs (st (pr (cu aN (c azW (us 2 (cu Xd (cu ahR (c ai (c aQr (us 2 (c ai (us 2 (c azW (c ai (c ai (cl ab (us 16 nil))))))))))))))) (pl (c ch (c az4 (cu (so apo) (c wA ahV)))) cy)))
abbrev Ed:=(((Nat×Bool)×Int×Nat×Int×(Nat×Bool)×Int×Int×Bool)×Bool×(NI×NI×NI)×qB×NI)
def asj {ρ:Type}(x:Ed)(K:AX->St->Option ρ):Option ρ:=(λd=>K (.ex 2) (aGD.em (d.1,d.2.1,(d.1.1.1,d.b.1),d.b.2.1,d.1.b.1,d.c))) x
def aer (d:pw.B):PL pw Ed:=let n5:=d.1.2.1;let n3:=d.2.2;let n2:=d.1.2.2;let n4:=n2.2.2.2;let y0:=n2.1+1;let n1:=(d.1.1,n5,y0,n2.2.1,n2.2.2.1,n4.1,wI (n4.2+1));let y1:=Int.toNat n4.2;let y2:=Nat.ble (y0*8) 140737488355328;let y3:=decide (n4.2<n4.1);ae y3 (ae (aW n4.2 n2.2.2.1.1) (ae (aW n5 3) (ae (n5==2) (ae y2 (ret (Sum.inl (n1,d.2.1,n3.1,n3.2.1,λj=>bif Nat.beq j n2.1 then n3.1.2.2 y1 else n3.2.2 j))) no) (ae (n5==1) (ae y2 (ret (Sum.inl (n1,d.2.1,n3.1,n3.2.1,λj=>bif Nat.beq j n2.1 then n3.1.2.1 y1 else n3.2.2 j))) no) (ae y2 (ret (Sum.inl (n1,d.2.1,n3.1,n3.2.1,λj=>bif Nat.beq j n2.1 then n3.1.1 y1 else n3.2.2 j))) no))) no) no) (ret (Sum.inr ((d.1.1,n5,n2.1,n2.2.1,n2.2.2.1,n4.1,n4.2,y3),d.2)))
def aes:=bA (aer) 2000
def px:=qs (st (dp (cu aN (c azW (us 2 (cu Xd (cu ahR (us 4 aPw)))))) λa=>(pl (c ch (c (so (cl (gs a.1.1 api) nil)) ahZ)) cy)))
def aGE:=qs (st (pr (cu aN (c azW (us 2 (cu Xd (cu ahR (us 4 (c ai aKf))))))) (pl (c ch (c az4 ahZ)) cy)))
abbrev Ee:=(((Nat×Bool)×Int×Bool)×Bool×(NI×NI×NI)×Int×Int×Int)
def asl {ρ:Type}(x:Ee)(K:AX->St->Option ρ):Option ρ:=(λd=>K (.ex 0) (aGE.em (d.1,d.2.1,(d.1.1.1,d.b.1),d.b.2))) x
def aet (bS:eH)(qX:LT pw Ed)(d:px.B):PL px Ee:=let n3:=d.1.1;let y0:=decide (d.1.2<3);ae y0 (ae (Nat.beq n3.1 n3.1) (ae true (opt (qX ((n3,d.1.2,0,d.1.2,n3,Int.ofNat n3.1,0),d.2.1,d.2.2.1,d.2.2.2,λx=>0)) λd=>let n2:=d.2.2;let n4:=n2.2.1;let n1:=d.1.2;ae (Nat.beq n1.2.1 n1.2.1) (opt (bS n1.2.1 d.2.1 n2.2.2 true) λaj=>ae (aW n1.1 3) (ae (n1.1==2) (ret (Sum.inl ((d.1.1,wI (n1.2.2.1+1)),aj.2,n2.1,n4.1,n4.2.1,aj.1))) (ae (n1.1==1) (ret (Sum.inl ((d.1.1,wI (n1.2.2.1+1)),aj.2,n2.1,n4.1,aj.1,n4.2.2))) (ret (Sum.inl ((d.1.1,wI (n1.2.2.1+1)),aj.2,n2.1,aj.1,n4.2))))) no) no) no) no) (ret (Sum.inr ((n3,d.1.2,y0),d.2)))
def aeu:=bA (aet cC aes) 2000
def apZ (dI:LT px Ee)(x0:Nat)(x1:Bool)(x2:Nat->Int)(x3:Nat->Int)(x4:Nat->Int)(w0:Bool):Pg aBJ:=ae (Nat.beq x0 x0) (opt (dI (((x0,w0),0),x1,(x2,x3,x4),0,0,0)) λd=>ret (d.2.2.2,d.2.1)) no
def jq:=λx0 x1 x2 x3 x4 w0=>(apZ aeu x0 x1 x2 x3 x4 w0).val
abbrev Un:=eH×(LT pw Ed)×(LT px Ee)
def aev (p:Un):KK:=⟨[m6 p.1],⟨[⟨3,(2::3::rg 6 4 (rg 11 22 [])),[]⟩,⟨7,(2::3::8::9::11::12::rg 16 17 []),[(7,[.i .i64])]⟩],[fH 7 2 pw asj p.2.1,fH 3 2 px asl p.b],[0],[],(some ⟨0,(rg 0 4 (rg 5 28 [])),[]⟩)⟩,2,153⟩
theorem aDh (p:Un):LI (aev p) 7 pw asj (aer):=λ_ d c K=>by kernel_rfl
theorem aDi (p:Un):LI (aev p) 3 px asl (aet p.1 p.2.1):=λ_ d c K=>by kernel_rfl
theorem aL8 (p:Un):D2 (aev p) aBI (lf ajq) λb=>apZ p.b b.1.1 b.2.1 b.b.1 b.b.2.1 b.c b.1.2:=λb=>by kernel_rfl
abbrev aew:Un:=(cC,aes,aeu)
theorem Ml [ax]:SC (HE jq):=sc (Sound.nil 1 [.i .i64,.i .i64,.i .i64]<|kS (k:=aev aew) (.c pk (.nil _)) [3,7] [] ⟨kL (aDi aew),⟨kL (aDh aew),trivial⟩⟩ trivial (aL8 aew))
def asm:=qa (pr (cu aN apn) cq)
def ZS:=qe aug
abbrev asn:=ZS.B
abbrev gR:=Int->Int->Int->Int->Bool->Option asn
def mh (g:gR):Ct:=(86,FC asm (lf ZS) (λb=>g b.1.1 b.1.2.1 b.1.b.1 b.1.b.2 b.2))
def mi:=qs (st (pr (cu aN (us 2 (cu amQ (cu av7 (c ai (us 8 (c ai (us 4 aFj)))))))) (pl (c ch (cl uC (cu ahY nil))) cy)))
def ajr:=qs (st (pr (cu aN (us 2 (cu amQ (cu av7 (c ai (us 8 (c ai (us 4 aFo)))))))) (pl (c ch (cl uC (cu ahY nil))) cy)))
abbrev xW:=ajr.B
def ajs {ρ:Type}:=@ef xW ((.ex 2)) ajr ρ
def Uo (aD:cv)(d:mi.B):PL mi xW:=let n6:=d.1.1;let n4:=d.1.2.2;let n2:=d.2.2;let n5:=n2.2.1;let n3:=n2.2.2;let n1:=(n6,d.1.2.1,wI (n4+1));let y0:=aW n4 4;let y1:=n4==2;let y2:=n4==1;let y3:=n4==3;let y4:=decide (n4<4);ae y4 (ae y0 (ae y3 (opt (aD n3.2 n6 30 d.2.1) λaj=>ae y0 (ae y3 (ret (Sum.inl (n1,aj.2,n2.1,n5,n3.1,aj.1))) (ae y1 (ret (Sum.inl (n1,aj.2,n2.1,n5,aj.1,n3.2))) (ae y2 (ret (Sum.inl (n1,aj.2,n2.1,aj.1,n3))) (ret (Sum.inl (n1,aj.2,aj.1,n2.2)))))) no) (ae y1 (opt (aD n3.1 n6 30 d.2.1) λaj=>ae y0 (ae y3 (ret (Sum.inl (n1,aj.2,n2.1,n5,n3.1,aj.1))) (ae y1 (ret (Sum.inl (n1,aj.2,n2.1,n5,aj.1,n3.2))) (ae y2 (ret (Sum.inl (n1,aj.2,n2.1,aj.1,n3))) (ret (Sum.inl (n1,aj.2,aj.1,n2.2)))))) no) (ae y2 (opt (aD n5 n6 30 d.2.1) λaj=>ae y0 (ae y3 (ret (Sum.inl (n1,aj.2,n2.1,n5,n3.1,aj.1))) (ae y1 (ret (Sum.inl (n1,aj.2,n2.1,n5,aj.1,n3.2))) (ae y2 (ret (Sum.inl (n1,aj.2,n2.1,aj.1,n3))) (ret (Sum.inl (n1,aj.2,aj.1,n2.2)))))) no) (opt (aD n2.1 n6 30 d.2.1) λaj=>ae y0 (ae y3 (ret (Sum.inl (n1,aj.2,n2.1,n5,n3.1,aj.1))) (ae y1 (ret (Sum.inl (n1,aj.2,n2.1,n5,aj.1,n3.2))) (ae y2 (ret (Sum.inl (n1,aj.2,n2.1,aj.1,n3))) (ret (Sum.inl (n1,aj.2,aj.1,n2.2)))))) no)))) no) (ret (Sum.inr ((n6,d.1.2.1,n4,y4),d.2)))
def Uq:=bA (Uo bk) 2000
def mj:=qs (st (pr (cu aN (us 2 (cu amQ (cu av7 (us 9 aKi))))) (pl (c ch (cl uC (cu ahY nil))) cy)))
def ajt:=qs (st (pr (cu aN (us 2 (cu amQ (cu av7 (us 9 aFp))))) (pl (c ch (cl uC (cu ahY nil))) cy)))
abbrev xX:=ajt.B
def aju {ρ:Type}:=@ef xX ((.ex 0)) ajt ρ
def Ur (jg:wC)(qX:LT mi xW)(d:mj.B):PL mj xX:=let n1:=d.2.2;let y0:=decide (d.1<2);ae y0 (opt (jg 4 d.2.1 (cr n1.1 [n1.2.2.2,n1.2.2.1,n1.2.1,n1.1]) false) λaj=>opt (qX ((aj.1,d.1,0),aj.2,n1)) λd=>ret (Sum.inl (wI (d.1.2.1+1),d.2))) (ret (Sum.inr ((d.1,y0),d.2)))
def Us:=bA (Ur fJ Uq) 2000
def aex (nY:OC)(gL:yP)(dI:LT mj xX)(x0:Int)(x1:Int)(x2:Int)(x3:Int)(x4:Bool):Pg asn:=opt (nY x0 x1 x2 x3 x4) λd=>ae (d.1.1==0&&(d.1.2.1==0&&(d.1.2.2.1==0&&(d.1.2.2.2==0&&true)))) (opt gL λaj=>ret ((1073741824,0,0,0),d.2)) (opt (dI (0,d.2,d.1)) λd=>ret (d.2.2,d.2.1))
def cV:=λx0 x1 x2 x3 x4=>(aex vJ mE Us x0 x1 x2 x3 x4).val
abbrev JZ:=OC×yP×wC×cv×(LT mi xW)×(LT mj xX)
def Sv (p:JZ):KK:=⟨[XO p.1,ID p.2.1,Gb p.b.1,fI p.b.2.1],⟨[⟨5,(1::2::rg 5 9 (rg 15 18 [])),[]⟩,⟨8,(1::2::rg 6 8 (rg 15 4 (rg 20 13 []))),[]⟩],[fH 8 1 mi ajs p.c.1,fH 5 1 mj aju p.c.2],[],[],(some ⟨0,(rg 0 4 (rg 5 28 [])),[]⟩)⟩,1,86⟩
theorem ayQ (p:JZ):LI (Sv p) 8 mi ajs (Uo p.b.2.1):=λ_ d c K=>by kernel_rfl
theorem ayR (p:JZ):LI (Sv p) 5 mj aju (Ur p.b.1 p.c.1):=λ_ d c K=>by kernel_rfl
theorem aGF (p:JZ):D2 (Sv p) asm (lf ZS) λb=>aex p.1 p.2.1 p.c.2 b.1.1 b.1.2.1 b.1.b.1 b.1.b.2 b.2:=λb=>by kernel_rfl
abbrev Sw:JZ:=(vJ,mE,fJ,bk,Uq,Us)
theorem nu [ax]:SC (mh cV):=sc (kS (k:=Sv Sw) (.c ai3 (.c OD (.c NP (.c gC (.nil _))))) [5,8] [] ⟨kL (ayR Sw),⟨kL (ayQ Sw),trivial⟩⟩ trivial (aGF Sw))
def abt:=qa (pr (cu aN (cl xF (cu Oi nil))) (c ux (cl azZ nil)))
def J0:=qe (res (pu aPh (pr LM (cl aPJ nil))))
abbrev Mm:=J0.B
abbrev Mn:=NI->NI->Bool->NI->Option Mm
def abu (g:Mn):Ct:=(216,FC abt (lf J0) (λb=>g b.1.1 b.1.2 b.2.1 b.b))
def dQ:=qs (st (pr (cu aN (us 1 (cu Oi (us 1 (cu Xe (us 2 (cu Xf (c ai (cu amR (us 3 (c ai (us 3 (c ai (cl ai (us 35 nil))))))))))))))) (pl (c ch (c lg (c hX (c EV Ho)))) cy)))
def Ut:=qs (st (pr (cu aN (us 1 (cu Oi (us 1 (cu Xe (us 2 (cu Xf (c ai (cu amR (us 3 (c ai (us 3 (c ai (c ai (cl ab (us 34 nil)))))))))))))))) (pl (c ch (c lg (c hX (c EV Ho)))) cy)))
abbrev j9:=Ut.B
def Uu {ρ:Type}:=@ef j9 ((.ex 2)) Ut ρ
def zA (ajv:Ud)(d:dQ.B):PL dQ j9:=let n2:=d.2.2.2;let n1:=d.1.2.2;let y0:=Int.toNat n1.2;let y1:=decide (n1.2<n1.1);ae y1 (opt (ajv n2.1.1 n2.1.2 n1.2 d.1.1) λaj=>ae (aW n1.2 24) (ae (true&&Nat.ble (0+y0*1+1) 24) (ret (Sum.inl ((d.1.1,d.1.2.1,n1.1,wI (n1.2+1)),d.2.1,d.2.2.1,n2.1,n2.2.1,λj=>bif Nat.beq j y0 then aj else n2.2.2 j))) no) no) (ret (Sum.inr ((d.1.1,d.1.2.1,n1.1,n1.2,y1),d.2)))
def zB:=bA (zA CO) 2000
def dR:=qs (st (pr (cu aN (us 1 (cu Oi (us 1 (cu Xe (us 2 (cu Xf (c ai (cu amR (us 3 (c ai (us 14 (cl ai (us 25 nil)))))))))))))) (pl (c ch (c lg (c hX (c EV Ho)))) cy)))
def Uv:=qs (st (pr (cu aN (us 1 (cu Oi (us 1 (cu Xe (us 2 (cu Xf (c ai (cu amR (us 3 (c ai (us 14 (c ai (cl ab (us 24 nil))))))))))))))) (pl (c ch (c lg (c hX (c EV Ho)))) cy)))
abbrev ka:=Uv.B
def Uw {ρ:Type}:=@ef ka ((.ex 4)) Uv ρ
def zC (bb:ek)(d:dR.B):PL dR ka:=let n2:=d.2.2;let n1:=d.1.2;let y0:=Int.toNat n1.2;let y1:=aW n1.2 24;let y2:=decide (n1.2<24);let y3:=y0*48+Int.toNat d.1.1;ae y2 (ae y1 (opt (bb 30 24 24 d.2.1 (λj=>n2.1 (0+y0*24+j)) n2.2.2.2 false false) λaj=>ae y1 (ae (aW d.1.1 48) (ae (true&&Nat.ble (0+y3*1+1) 1152) (ret (Sum.inl ((d.1.1,n1.1,wI (n1.2+1)),aj.2,n2.1,n2.2.1,λj=>bif Nat.beq j y3 then aj.1 else n2.2.2.1 j,n2.2.2.2))) no) no) no) no) (ret (Sum.inr ((d.1.1,n1.1,n1.2,y2),d.2)))
def zD:=bA (zC bn) 2000
def dS:=qs (st (pr (us 7 (cu aPh (us 37 aKl))) (pl (c ch (c lg (cl EV nil))) cy)))
def Ux:=qs (st (pr (us 7 (cu aPh (us 37 aFq))) (pl (c ch (c lg (cl EV nil))) cy)))
abbrev kc:=Ux.B
def Uy {ρ:Type}:=@ef kc ((.ex 6)) Ux ρ
def zE (d:dS.B):PL dS kc:=let y0:=wI (24+d.1);let y1:=decide (d.1<24);let y2:=Int.toNat d.1*48+Int.toNat y0;ae y1 (ae (aW d.1 24) (ae (aW y0 48) (ae (true&&Nat.ble (0+y2*1+1) 1152) (ret (Sum.inl (wI (d.1+1),d.2.1,d.2.2.1,λj=>bif Nat.beq j y2 then 1073741824 else d.2.2.2 j))) no) no) no) (ret (Sum.inr ((d.1,y1),d.2)))
def zF:=bA (zE) 2000
def dU:=qs (st (pr (cu aN (us 1 (cu Oi (us 1 (cu Xe (us 2 (cu Xf (us 5 (cl ai (us 40 nil)))))))))) (pl (c ch (c lg (c hX (cl EV nil)))) cy)))
def Uz:=qs (st (pr (cu aN (us 1 (cu Oi (us 1 (cu Xe (us 2 (cu Xf (us 5 (c ai (cl ab (us 39 nil))))))))))) (pl (c ch (c lg (c hX (cl EV nil)))) cy)))
abbrev kd:=Uz.B
def UA {ρ:Type}:=@ef kd ((.ex 0)) Uz ρ
def zG (qX:LT dQ j9)(J1:LT dR ka)(d:dU.B):PL dU kd:=let y0:=decide (d.1<24);ae y0 (opt (qX ((d.1,d.1,wI (d.1+1),0),d.2.1,d.2.2.1,d.2.2.2.1,d.2.2.2.2,λx=>0)) λd=>opt (J1 ((d.1.1,d.1.2.1,0),d.2)) λd=>ret (Sum.inl (wI (d.1.2.1+1),d.2.1,d.2.2.1,d.2.2.2.1,d.2.2.2.2.1))) (ret (Sum.inr ((d.1,y0),d.2)))
def zH:=bA (zG zB zD) 2000
def Ef (l_3:LT dS kc)(dI:LT dU kd)(x0:Nat->Int)(x1:Nat->Int)(x2:Bool)(x3:Nat->Int):Pg Mm:=opt (dI (0,x2,x3,(x0,x1),λx=>0)) λd=>opt (l_3 (0,d.2.1,d.2.2.1,d.2.2.2.2)) λd=>ret (d.2.1,d.2.2.2)
def oM:=λx0 x1 x2 x3=>(Ef zF zH x0 x1 x2 x3).val
abbrev oN:=Ud×ek×(LT dQ j9)×(LT dR ka)×(LT dS kc)×(LT dU kd)
def sZ (p:oN):KK:=⟨[ar4 p.1,lN p.2.1],⟨[⟨3,(1::3::5::6::rg 8 5 (rg 14 40 [])),[]⟩,⟨7,(1::3::5::6::10::11::12::14::15::16::rg 19 35 []),[]⟩,⟨12,(1::3::5::6::10::11::12::rg 14 14 (rg 29 25 [])),[]⟩,⟨18,(rg 0 7 (rg 8 37 (rg 46 8 []))),[]⟩],[fH 7 2 dQ Uu p.b.1,fH 12 2 dR Uw p.b.2.1,fH 18 2 dS Uy p.c.1,fH 3 2 dU UA p.c.2],[0],[],(some ⟨0,(rg 0 6 (rg 7 47 [])),[]⟩)⟩,2,216⟩
theorem amb (p:oN):LI (sZ p) 7 dQ Uu (zA p.1):=λ_ d c K=>by kernel_rfl
theorem amc (p:oN):LI (sZ p) 12 dR Uw (zC p.2.1):=λ_ d c K=>by kernel_rfl
theorem amd (p:oN):LI (sZ p) 18 dS Uy (zE):=λ_ d c K=>by kernel_rfl
theorem ame (p:oN):LI (sZ p) 3 dU UA (zG p.b.1 p.b.2.1):=λ_ d c K=>by kernel_rfl
theorem au3 (p:oN):D2 (sZ p) abt (lf J0) λb=>Ef p.c.1 p.c.2 b.1.1 b.1.2 b.2.1 b.b:=λb=>by kernel_rfl
abbrev te:oN:=(CO,bn,zB,zD,zF,zH)
theorem au4 [ax]:SC (abu oM):=sc (kS (k:=sZ te) (.c aBz (.c m7 (.nil _))) [3,7,12,18] [] ⟨kL (ame te),⟨kL (amb te),⟨kL (amc te),⟨kL (amd te),trivial⟩⟩⟩⟩ trivial (au3 te))
def aso:=qa (pl apm nil)
def ZT:=qe aQh
abbrev asp:=ZT.B
abbrev dA:=NI->Option asp
def iI (g:dA):Ct:=(68,FC aso (lf ZT) (λb=>g b))
def aey (x0:Nat->Int):Pg asp:=ret (x0 0,x0 1,x0 2,x0 3)
def bV:=λx0=>(aey x0).val
theorem aGG:D0 [] 68 aso (lf ZT) λb=>aey b:=λb=>by kernel_rfl
theorem jA [ax]:SC (iI bV):=s0 (.nil _) aGG
def agd:=qa (pl (c jW apn) nil)
def Mo:=qe aKJ
abbrev age:=Mo.B
abbrev G7:=NI->Int->Int->Int->Int->Option age
def Qv (g:G7):Ct:=(85,FC agd (lf Mo) (λb=>g b.1 b.2.1 b.b.1 b.b.2.1 b.c))
def Qw (x0:Nat->Int)(x1:Int)(x2:Int)(x3:Int)(x4:Int):Pg age:=ret λj=>bif Nat.beq j 3 then x4 else bif Nat.beq j 2 then x3 else bif Nat.beq j 1 then x2 else bif Nat.beq j 0 then x1 else x0 j
def qY:=λx0 x1 x2 x3 x4=>(Qw x0 x1 x2 x3 x4).val
theorem ayS:D0 [] 85 agd (lf Mo) λb=>Qw b.1 b.2.1 b.b.1 b.b.2.1 b.c:=λb=>by kernel_rfl
theorem agf [ax]:SC (Qv qY):=s0 (.nil _) ayS
def an0:=qa (pr (c ai (c ai (c ai (cl ai (cu aN (cu amQ nil)))))) (cu aKj (c acX cq)))
def UB:=qe aQj
abbrev an1:=UB.B
abbrev an2:=Int->Int->Int->Int->Int->Int->Int->Int->Bool->Option an1
def an3 (g:an2):Ct:=(210,FC an0 (lf UB) (λb=>g b.1.1 b.1.2.1 b.1.b.1 b.1.b.2 b.2.1.1 b.2.1.2.1 b.2.1.b.1 b.2.1.b.2 b.b))
def ZU (bb:ek)(x0:Int)(x1:Int)(x2:Int)(x3:Int)(x4:Int)(x5:Int)(x6:Int)(x7:Int)(x8:Bool):Pg an1:=opt (bb 30 4 4 x8 (cr x4 [x7,x6,x5,x4]) (cr x0 [x3,x2,x1,x0]) false true) λd=>ret d
def Ge:=λx0 x1 x2 x3 x4 x5 x6 x7 x8=>(ZU bn x0 x1 x2 x3 x4 x5 x6 x7 x8).val
theorem aDj:∀bb,D0 [lN bb] 210 an0 (lf UB) λb=>ZU bb b.1.1 b.1.2.1 b.1.b.1 b.1.b.2 b.2.1.1 b.2.1.2.1 b.2.1.b.1 b.2.1.b.2 b.b:=λ_ b=>by kernel_rfl
theorem aDk [ax]:SC (an3 Ge):=s0 (.c m7 (.nil _)) (aDj bn)
def ajw:=qa (pr (cu aN fM) cq)
def Qx:=qe aug
abbrev ajx:=Qx.B
abbrev ajy:=Int->Bool->Option ajx
def ajz (g:ajy):Ct:=(123,FC ajw (lf Qx) (λb=>g b.1 b.2))
def UC (cR:vH)(aB:bJ)(fX:Oz)(dG:IB)(bm:gR)(x0:Int)(x1:Bool):Pg ajx:=opt (cR x0) λd=>opt (aB d 536870912 30 x1) λd=>opt (fX d.1 d.2) λaj=>opt (dG d.1 aj.2) λd=>opt (bm aj.1 0 0 d.1 d.2) λd=>ret d
def CT:=λx0 x1=>(UC jx aT pU mD cV x0 x1).val
theorem aBK:∀cR aB fX dG bm,D0 [zp cR,eG aB,OA fX,IC dG,mh bm] 123 ajw (lf Qx) λb=>UC cR aB fX dG bm b.1 b.2:=λ_ _ _ _ _ b=>by kernel_rfl
theorem aBL [ax]:SC (ajz CT):=s0 (.c D5 (.c eV (.c XL (.c Oy (.c nu (.nil _)))))) (aBK jx aT pU mD cV)
def aw9:=qa (pr (cu aN (c acY apn)) cq)
def aez:=qe aug
abbrev axa:=aez.B
abbrev vM:=Int->Int->Int->Int->Int->Int->Int->Int->Bool->Option axa
def CU (g:vM):Ct:=(156,FC aw9 (lf aez) (λb=>g b.1.1.1 b.1.1.2.1 b.1.1.b.1 b.1.1.b.2 b.1.2.1 b.1.b.1 b.1.b.2.1 b.1.c b.2))
def ajA (nY:OC)(wF:an2)(x0:Int)(x1:Int)(x2:Int)(x3:Int)(x4:Int)(x5:Int)(x6:Int)(x7:Int)(x8:Bool):Pg axa:=opt (nY x0 x1 x2 x3 x8) λd=>let n1:=d.1.2;opt (nY x4 x5 x6 x7 d.2) λaj=>let n2:=aj.1.2;let y0:=wI (0-n2.1);let y1:=wI (0-n2.2.1);let y2:=wI (0-n2.2.2);opt (wF aj.1.1 y0 y1 y2 d.1.1 n1.1 n1.2.1 n1.2.2 aj.2) λaI=>opt (wF n2.1 aj.1.1 n2.2.2 y1 d.1.1 n1.1 n1.2.1 n1.2.2 aI.2) λbp=>opt (wF n2.2.1 y2 aj.1.1 n2.1 d.1.1 n1.1 n1.2.1 n1.2.2 bp.2) λcg=>opt (wF n2.2.2 n2.2.1 y0 aj.1.1 d.1.1 n1.1 n1.2.1 n1.2.2 cg.2) λd=>ret ((aI.1,bp.1,cg.1,d.1),d.2)
def ke:=λx0 x1 x2 x3 x4 x5 x6 x7 x8=>(ajA vJ Ge x0 x1 x2 x3 x4 x5 x6 x7 x8).val
theorem aJe:∀nY wF,D0 [XO nY,an3 wF] 156 aw9 (lf aez) λb=>ajA nY wF b.1.1.1 b.1.1.2.1 b.1.1.b.1 b.1.1.b.2 b.1.2.1 b.1.b.1 b.1.b.2.1 b.1.c b.2:=λ_ _ b=>by kernel_rfl
theorem IE [ax]:SC (CU ke):=s0 (.c ai3 (.c aDk (.nil _))) (aJe vJ Ge)
def aET:=qa (pr (cu aN apn) cq)
def ap0:=qe (res (pr (aa YQ) (pl k9 nil)))
abbrev aEU:=ap0.B
abbrev oO:=Int->Int->Int->Int->Bool->Option aEU
def Bs (g:oO):Ct:=(122,FC aET (lf ap0) (λb=>g b.1.1 b.1.2.1 b.1.b.1 b.1.b.2 b.2))
def rL:=qs (st (pr (us 2 (cu Oj (cu av7 (cu (app 3 9) (us 3 aPx))))) (pl (c ch (cu (so (cu (gp 0 1) nil)) (c uC (cl (so YQ) nil)))) cy)))
def axb:=qs (st (pr (us 2 (cu Oj (cu av7 (cu (app 3 9) (us 3 aPK))))) (pl (c ch (cu (so (cu (gp 0 1) nil)) (c uC (cl (so YQ) nil)))) cy)))
abbrev IF:=axb.B
def axc {ρ:Type}:=@ef IF ((.ex 0)) axb ρ
def ajB (aw:bC)(d:rL.B):PL rL IF:=let n2:=d.2.2.2;let n1:=d.2.2.1;let n4:=n1.2.1;let n3:=n1.2.2;let y0:=aW d.1 4;let y1:=d.1==2;let y2:=d.1==1;let y3:=d.1==3;let y4:=wI (d.1+1);let y5:=decide (d.1<4);ae y5 (ae y0 (ae y3 (opt (aw n3.2 d.2.1) λaj=>ae y0 (ae y3 (ret (Sum.inl (y4,aj.2,(n1.1,n4,n3.1,aj.1),n2))) (ae y1 (ret (Sum.inl (y4,aj.2,(n1.1,n4,aj.1,n3.2),n2))) (ae y2 (ret (Sum.inl (y4,aj.2,(n1.1,aj.1,n3),n2))) (ret (Sum.inl (y4,aj.2,(aj.1,n1.2),n2)))))) no) (ae y1 (opt (aw n3.1 d.2.1) λaj=>ae y0 (ae y3 (ret (Sum.inl (y4,aj.2,(n1.1,n4,n3.1,aj.1),n2))) (ae y1 (ret (Sum.inl (y4,aj.2,(n1.1,n4,aj.1,n3.2),n2))) (ae y2 (ret (Sum.inl (y4,aj.2,(n1.1,aj.1,n3),n2))) (ret (Sum.inl (y4,aj.2,(aj.1,n1.2),n2)))))) no) (ae y2 (opt (aw n4 d.2.1) λaj=>ae y0 (ae y3 (ret (Sum.inl (y4,aj.2,(n1.1,n4,n3.1,aj.1),n2))) (ae y1 (ret (Sum.inl (y4,aj.2,(n1.1,n4,aj.1,n3.2),n2))) (ae y2 (ret (Sum.inl (y4,aj.2,(n1.1,aj.1,n3),n2))) (ret (Sum.inl (y4,aj.2,(aj.1,n1.2),n2)))))) no) (opt (aw n1.1 d.2.1) λaj=>ae y0 (ae y3 (ret (Sum.inl (y4,aj.2,(n1.1,n4,n3.1,aj.1),n2))) (ae y1 (ret (Sum.inl (y4,aj.2,(n1.1,n4,aj.1,n3.2),n2))) (ae y2 (ret (Sum.inl (y4,aj.2,(n1.1,aj.1,n3),n2))) (ret (Sum.inl (y4,aj.2,(aj.1,n1.2),n2)))))) no)))) no) (ret (Sum.inr ((d.1,y5),d.2)))
def ajC:=bA (ajB aO) 2000
def au5 (ajD:ai6)(IG:ai8)(dI:LT rL IF)(x0:Int)(x1:Int)(x2:Int)(x3:Int)(x4:Bool):Pg aEU:=opt (dI (0,x4,(x0,x1,x2,x3),λx=>0)) λd=>let n2:=d.2.2.1.1;let n1:=d.2.2.1.2;let n4:=n1.2.2;let n3:=n1.2.1;let y0:=wI (0-n2);opt (ajD 1 1 (-1) (-1) n2 n1.1 n3 n4 d.2.1) λaj=>opt (IG n1.1 n3 y0 n4 aj.2) λaI=>opt (IG n1.1 n4 n2 n3 aI.2) λbp=>opt (IG n1.1 n3 n2 n4 bp.2) λcg=>opt (ajD 1 (-1) 1 (-1) n2 n1.1 n3 n4 cg.2) λdF=>opt (IG n3 n4 y0 n1.1 dF.2) λcH=>opt (IG n1.1 n4 y0 n3 cH.2) λln=>opt (IG n3 n4 n2 n1.1 ln.2) λqC=>opt (ajD 1 (-1) (-1) 1 n2 n1.1 n3 n4 qC.2) λd=>ret (cr 0 [d.1,qC.1,ln.1,cH.1,dF.1,cg.1,bp.1,aI.1,aj.1],d.2)
def jh:=λx0 x1 x2 x3 x4=>(au5 OE OF ajC x0 x1 x2 x3 x4).val
abbrev al1:=bC×ai6×ai8×(LT rL IF)
def au6 (p:al1):KK:=⟨[cU p.1,aw3 p.2.1,aw6 p.b.1],⟨[⟨2,(0::1::5::6::7::rg 9 82 []),[]⟩],[fH 2 1 rL axc p.b.2],[0],[],(some ⟨0,(rg 0 4 (rg 5 86 [])),[]⟩)⟩,1,122⟩
theorem aGH (p:al1):LI (au6 p) 2 rL axc (ajB p.1):=λ_ d c K=>by kernel_rfl
theorem aOf (p:al1):D2 (au6 p) aET (lf ap0) λb=>au5 p.2.1 p.b.1 p.b.2 b.1.1 b.1.2.1 b.1.b.1 b.1.b.2 b.2:=λb=>by kernel_rfl
abbrev au7:al1:=(aO,OE,OF,ajC)
theorem Eg [ax]:SC (Bs jh):=sc (kS (k:=au6 au7) (.c cY (.c aI8 (.c aJa (.nil _)))) [2] [] ⟨kL (aGH au7),trivial⟩ trivial (aOf au7))
def agh:=qa (pu nil nil)
def Mp:=qe aKJ
abbrev AR:=Mp.B
abbrev AS:=Option AR
def Qy (g:AS):Ct:=(66,FC agh (lf Mp) (λ_=>g))
def Qz (iw:XT):Pg AR:=opt (iw 0 4 1073741840 λx=>0) λd=>opt (iw 4 7 549755813888 d) λd=>opt (iw 7 10 9007199254740992 d) λd=>opt (iw 10 13 134217728 d) λd=>opt (iw 13 16 1073741824 d) λd=>opt (iw 16 22 2147483648 d) λd=>opt (iw 22 24 137438953472 d) λd=>ret d
def qZ:Option AR:=(Qz vK).val
theorem ayT:∀iw,D0 [XU iw] 66 agh (lf Mp) λb=>Qz iw:=λ_ b=>by kernel_rfl
theorem agi [ax]:SC (Qy qZ):=s0 (.c ar0 (.nil _)) (ayT vK)
def ajE:=qa (pr (cu aN apm) cq)
def QA:=qe az5
abbrev ajF:=QA.B
abbrev J2:=NI->Bool->Option ajF
def UD (g:J2):Ct:=(87,FC ajE (lf QA) (λb=>g b.1 b.2))
def jB:=qs (st (pr (cu aN (us 2 (cu Rz (cu BZ (cu afG aFk))))) (pl (c ch aFJ) cy)))
def au8:=qs (st (pr (cu aN (us 2 (cu Rz (cu BZ (cu afG (c ai (us 1 aFp))))))) (pl (c ch aFJ) cy)))
abbrev tf:=((Int×Bool)×Bool×NI×NI×AR)
def abv {ρ:Type}(x:tf)(K:AX->St->Option ρ):Option ρ:=(λd=>K (.ex 0) (au8.em ((d.1.1,d.1),d.2))) x
def Mq (aE:bM)(d:jB.B):PL jB tf:=let y0:=Int.toNat d.1;let y1:=aW d.1 24;let y2:=decide (d.1<24);ae y2 (ae y1 (ae y1 (ae y1 (opt (aE (d.2.2.1 y0) (wI (0-d.2.2.2.2 y0)) (d.2.2.2.2 y0) d.2.1) λaj=>ae y1 (ae (true&&Nat.ble (0+y0*1+1) 24) (ret (Sum.inl (wI (d.1+1),aj.2,λj=>bif Nat.beq j y0 then aj.1 else d.2.2.1 j,d.2.2.2))) no) no) no) no) no) (ret (Sum.inr ((d.1,y2),d.2)))
def Mr:=bA (Mq aX) 2000
def UE (QB:AS)(dI:LT jB tf)(x0:Nat->Int)(x1:Bool):Pg ajF:=opt QB λd=>opt (dI (4,x1,x0,λx=>0,d)) λd=>ret (d.2.2.1,d.2.1)
def tC:=λx0 x1=>(UE qZ Mr x0 x1).val
abbrev J3:=AS×bM×(LT jB tf)
def UF (p:J3):KK:=⟨[Qy p.1,dw p.2.1],⟨[⟨3,(1::2::rg 7 20 []),[]⟩],[fH 3 1 jB abv p.b],[0],[],(some ⟨0,(rg 0 4 (rg 5 22 [])),[]⟩)⟩,1,87⟩
theorem asq (p:J3):LI (UF p) 3 jB abv (Mq p.2.1):=λ_ d c K=>by kernel_rfl
theorem aBM (p:J3):D2 (UF p) ajE (lf QA) λb=>UE p.1 p.b b.1 b.2:=λb=>by kernel_rfl
abbrev UG:J3:=(qZ,aX,Mr)
theorem ajG [ax]:SC (UD tC):=sc (kS (k:=UF UG) (.c agi (.c dN (.nil _))) [3] [] ⟨kL (asq UG),trivial⟩ trivial (aBM UG))
def an4:=qa (pr (cu aN apm) cq)
def UH:=qe az5
abbrev an5:=UH.B
abbrev eI:=NI->Bool->Option an5
def ix (g:eI):Ct:=(49,FC an4 (lf UH) (λb=>g b.1 b.2))
def ZV (ba:dA)(NU:anU)(bm:gR)(vn:G7)(tD:J2)(x0:Nat->Int)(x1:Bool):Pg an5:=opt (ba x0) λd=>opt (NU d.1 d.2.1 d.2.2.1 d.2.2.2) λd=>ae (!d) (opt (ba x0) λd=>opt (bm d.1 d.2.1 d.2.2.1 d.2.2.2 x1) λd=>opt (vn x0 d.1.1 d.1.2.1 d.1.2.2.1 d.1.2.2.2) λaj=>opt (tD aj d.2) λd=>ret d) (opt (tD x0 x1) λd=>ret d)
def bT:=λx0 x1=>(ZV bV Bq cV qY tC x0 x1).val
theorem aDl:∀ba NU bm vn tD,D0 [iI ba,anV NU,mh bm,Qv vn,UD tD] 49 an4 (lf UH) λb=>ZV ba NU bm vn tD b.1 b.2:=λ_ _ _ _ _ b=>by kernel_rfl
theorem ji [ax]:SC (ix bT):=s0 (.c jA (.c aDd (.c nu (.c agf (.c ajG (.nil _)))))) (aDl bV Bq cV qY tC)
def abw:=qa (pr (cu aN fM) cq)
def J4:=qe oG
abbrev abx:=J4.B
abbrev tg:=Int->Bool->Option abx
def Eh (g:tg):Ct:=(159,FC abw (lf J4) (λb=>g b.1 b.2))
def Ms (aq:bU)(x0:Int)(x1:Bool):Pg abx:=opt (aq x0 1073741824 1000000 x1) λd=>ret d
def jj:=λx0 x1=>(Ms aS x0 x1).val
theorem au9:∀aq,D0 [cT aq] 159 abw (lf J4) λb=>Ms aq b.1 b.2:=λ_ b=>by kernel_rfl
theorem Mt [ax]:SC (Eh jj):=s0 (.c c7 (.nil _)) (au9 aS)
def aBN:=qa (pr (cu aN EX) cq)
def ajH:=qe aug
abbrev aBO:=ajH.B
abbrev aBP:=Int->Int->Int->Bool->Option aBO
def aBQ (g:aBP):Ct:=(209,FC aBN (lf ajH) (λb=>g b.1.1 b.1.2.1 b.1.b b.2))
def ap1 (CW:Mf)(sI:yO)(gL:yP)(aB:bJ)(dG:IB)(aD:cv)(fX:Oz)(bm:gR)(x0:Int)(x1:Int)(x2:Int)(x3:Bool):Pg aBO:=opt (CW x0 x1 x2 x3) λd=>opt (sI d.1.1 d.1.2.1 d.1.2.2 d.2) λaj=>ae (aj.1==0) (opt gL λd=>ret ((1073741824,0,0,0),aj.2)) (opt (aB aj.1 536870912 30 aj.2) λaI=>opt (dG aI.1 aI.2) λbp=>opt (aD bp.1 aj.1 30 bp.2) λcg=>opt (fX aI.1 cg.2) λdF=>opt (aB d.1.1 cg.1 30 dF.2) λcH=>opt (aB d.1.2.1 cg.1 30 cH.2) λln=>opt (aB d.1.2.2 cg.1 30 ln.2) λd=>opt (bm dF.1 cH.1 ln.1 d.1 d.2) λd=>ret d)
def UI:=λx0 x1 x2 x3=>(ap1 zq nX mE aT mD bk pU cV x0 x1 x2 x3).val
theorem aL9:∀CW sI gL aB dG aD fX bm,D0 [ad5 CW,OB sI,ID gL,eG aB,IC dG,fI aD,OA fX,mh bm] 209 aBN (lf ajH) λb=>ap1 CW sI gL aB dG aD fX bm b.1.1 b.1.2.1 b.1.b b.2:=λ_ _ _ _ _ _ _ _ b=>by kernel_rfl
theorem aMa [ax]:SC (aBQ UI):=s0 (.c apS (.c XN (.c OD (.c eV (.c Oy (.c gC (.c XL (.c nu (.nil _))))))))) (aL9 zq nX mE aT mD bk pU cV)
def ajI:=qa (pr (cu aN (c jW YS)) cq)
def QC:=qe (res (pr (aa ac3) (pl k9 nil)))
abbrev ajJ:=QC.B
abbrev J5:=NI->Int->Int->Int->Int->Int->Int->Int->Int->Bool->Option ajJ
def UJ (g:J5):Ct:=(155,FC ajI (lf QC) (λb=>g b.1.1 b.1.2.1 b.1.b.1 b.1.b.2.1.1 b.1.b.2.1.2.1 b.1.b.2.1.b b.1.c.1 b.1.c.2.1 b.1.c.b b.2))
def UK (aM:eI)(mF:tg)(bz:ky)(gS:So)(my:HC)(aeA:aBP)(ba:dA)(eF:oO)(x0:Nat->Int)(x1:Int)(x2:Int)(x3:Int)(x4:Int)(x5:Int)(x6:Int)(x7:Int)(x8:Int)(x9:Bool):Pg ajJ:=opt (aM x0 x9) λd=>opt (mF x2 d.2) λaj=>opt (bz d.1 10) λaI=>opt (gS aI.1 aI.2.1 aI.2.2 aj.1 aj.2) λbp=>opt (my x3 x4 x5 bp.1.1 bp.1.2.1 bp.1.2.2 bp.2) λcg=>opt (bz d.1 13) λdF=>opt (gS dF.1 dF.2.1 dF.2.2 aj.1 cg.2) λcH=>opt (my x6 x7 x8 cH.1.1 cH.1.2.1 cH.1.2.2 cH.2) λln=>opt (aeA cg.1.1 cg.1.2.1 cg.1.2.2 ln.2) λqC=>opt (ba d.1) λd=>opt (eF d.1 d.2.1 d.2.2.1 d.2.2.2 qC.2) λd=>ret ((aj.1,cg.1.1,cg.1.2.1,cg.1.2.2,ln.1.1,ln.1.2.1,ln.1.2.2,qC.1.1,qC.1.2.1,qC.1.2.2.1,qC.1.2.2.2,d.1),d.2)
def tE:=λx0 x1 x2 x3 x4 x5 x6 x7 x8 x9=>(UK bT jj ee rK tz UI bV jh x0 x1 x2 x3 x4 x5 x6 x7 x8 x9).val
theorem aBR:∀aM mF bz gS my aeA ba eF,D0 [ix aM,Eh mF,pn bz,Sp gS,T3 my,aBQ aeA,iI ba,Bs eF] 155 ajI (lf QC) λb=>UK aM mF bz gS my aeA ba eF b.1.1 b.1.2.1 b.1.b.1 b.1.b.2.1.1 b.1.b.2.1.2.1 b.1.b.2.1.b b.1.c.1 b.1.c.2.1 b.1.c.b b.2:=λ_ _ _ _ _ _ _ _ b=>by kernel_rfl
theorem ajK [ax]:SC (UJ tE):=s0 (.c ji (.c Mt (.c sH (.c ad3 (.c adY (.c aMa (.c jA (.c Eg (.nil _))))))))) (aBR bT jj ee rK tz UI bV jh)
def an6:=qa (pr (cu aN (c jW YS)) cq)
def UL:=qe az5
abbrev an7:=UL.B
abbrev NV:=NI->Int->Int->Int->Int->Int->Int->Int->Int->Bool->Option an7
def ZW (g:NV):Ct:=(104,FC an6 (lf UL) (λb=>g b.1.1 b.1.2.1 b.1.b.1 b.1.b.2.1.1 b.1.b.2.1.2.1 b.1.b.2.1.b b.1.c.1 b.1.c.2.1 b.1.c.b b.2))
def ZX (xY:J5)(aM:eI)(ba:dA)(eo:vM)(bm:gR)(bz:ky)(gT:Ec)(aB:bJ)(dq:zz)(gS:So)(cD:wD)(x0:Nat->Int)(x1:Int)(x2:Int)(x3:Int)(x4:Int)(x5:Int)(x6:Int)(x7:Int)(x8:Int)(x9:Bool):Pg an7:=opt (xY x0 x1 x2 x3 x4 x5 x6 x7 x8 x9) λd=>let n1:=d.1.2.2.2.2.2;let n2:=n1.2.2.2;opt (aM x0 d.2) λaj=>opt (ba aj.1) λaI=>opt (eo aI.1 aI.2.1 aI.2.2.1 aI.2.2.2 n1.2.2.1 n2.1 n2.2.1 n2.2.2.1 aj.2) λbp=>opt (bm bp.1.1 bp.1.2.1 bp.1.2.2.1 bp.1.2.2.2 bp.2) λcg=>opt (bz aj.1 4) λdF=>opt (gT n2.2.2.2 d.1.2.2.2.2.1 n1.1 n1.2.1 cg.2) λcH=>opt (aB 10529810258 d.1.1 30 cH.2) λln=>opt (dq 3 ln.2 (cr dF.1 [0,cH.1.1,dF.1]) (cr dF.2.1 [0,cH.1.2.1,dF.2.1]) (cr dF.2.2 [ln.1,cH.1.2.2,dF.2.2]) true) λqC=>opt (aB d.1.1 536870912 30 qC.2) λd=>opt (bz aj.1 7) λnm=>opt (dq 2 d.2 (cr dF.1 [qC.1.1,dF.1]) (cr dF.2.1 [qC.1.2.1,dF.2.1]) (cr dF.2.2 [qC.1.2.2,dF.2.2]) true) λkE=>opt (gS kE.1.1 kE.1.2.1 kE.1.2.2 d.1 kE.2) λd=>opt (dq 2 d.2 (cr nm.1 [d.1.1,nm.1]) (cr nm.2.1 [d.1.2.1,nm.2.1]) (cr nm.2.2 [d.1.2.2,nm.2.2]) true) λd=>opt (cD aj.1 0 4 (cr cg.1.1 [cg.1.2.2.2,cg.1.2.2.1,cg.1.2.1,cg.1.1]) false) λuA=>opt (cD uA 4 3 (cr qC.1.1 [qC.1.2.2,qC.1.2.1,qC.1.1]) false) λIH=>opt (cD IH 7 3 (cr d.1.1 [d.1.2.2,d.1.2.1,d.1.1]) false) λJ6=>opt (aM J6 d.2) λd=>ret d
def sJ:=λx0 x1 x2 x3 x4 x5 x6 x7 x8 x9=>(ZX tE bT bV ke cV ee nr aT jq rK fK x0 x1 x2 x3 x4 x5 x6 x7 x8 x9).val
theorem aDm:∀xY aM ba eo bm bz gT aB dq gS cD,D0 [UJ xY,ix aM,iI ba,CU eo,mh bm,pn bz,JR gT,eG aB,HE dq,Sp gS,Bp cD] 104 an6 (lf UL) λb=>ZX xY aM ba eo bm bz gT aB dq gS cD b.1.1 b.1.2.1 b.1.b.1 b.1.b.2.1.1 b.1.b.2.1.2.1 b.1.b.2.1.b b.1.c.1 b.1.c.2.1 b.1.c.b b.2:=λ_ _ _ _ _ _ _ _ _ _ _ b=>by kernel_rfl
theorem an8 [ax]:SC (ZW sJ):=s0 (.c ajK (.c ji (.c jA (.c IE (.c nu (.c sH (.c Ss (.c eV (.c Ml (.c ad3 (.c Gd (.nil _)))))))))))) (aDm tE bT bV ke cV ee nr aT jq rK fK)
def axd:=qa (pr (cu aN EX) cq)
def aeB:=qe aug
abbrev axe:=aeB.B
abbrev ajL:=Int->Int->Int->Bool->Option axe
def axf (g:ajL):Ct:=(160,FC axd (lf aeB) (λb=>g b.1.1 b.1.2.1 b.1.b b.2))
def nw:=qs (st (pr (cu aN (us 3 (cu amQ (cu Xd (c ai (cu ahR (us 12 (cl ai aPg)))))))) (pl (c ch (cu ahY (c wA (cl wA nil)))) cy)))
def an9:=qs (st (pr (cu aN (us 3 (cu amQ (cu Xd (c ai (cu ahR (us 12 (c ai (cl ab (us 26 nil)))))))))) (pl (c ch (cu ahY (c wA (cl wA nil)))) cy)))
abbrev Bt:=an9.B
def aoa {ρ:Type}:=@ef Bt ((.ex 0)) an9 ρ
def ZY (aD:cv)(d:nw.B):PL nw Bt:=let n3:=d.1.1;let n2:=d.1.2;let n1:=d.2.2;let n5:=n1.2.1;let n4:=n1.2.2;let y0:=aW n2 3;let y1:=n2==2;let y2:=n2==1;let y3:=decide (n2<3);ae y3 (ae y0 (ae y1 (opt (aD n1.1.2.2 n3 30 d.2.1) λaj=>ae y0 (ae y1 (ret (Sum.inl ((n3,wI (n2+1)),aj.2,n1.1,n5,n4.1,aj.1))) (ae y2 (ret (Sum.inl ((n3,wI (n2+1)),aj.2,n1.1,n5,aj.1,n4.2))) (ret (Sum.inl ((n3,wI (n2+1)),aj.2,n1.1,aj.1,n4))))) no) (ae y2 (opt (aD n1.1.2.1 n3 30 d.2.1) λaj=>ae y0 (ae y1 (ret (Sum.inl ((n3,wI (n2+1)),aj.2,n1.1,n5,n4.1,aj.1))) (ae y2 (ret (Sum.inl ((n3,wI (n2+1)),aj.2,n1.1,n5,aj.1,n4.2))) (ret (Sum.inl ((n3,wI (n2+1)),aj.2,n1.1,aj.1,n4))))) no) (opt (aD n1.1.1 n3 30 d.2.1) λaj=>ae y0 (ae y1 (ret (Sum.inl ((n3,wI (n2+1)),aj.2,n1.1,n5,n4.1,aj.1))) (ae y2 (ret (Sum.inl ((n3,wI (n2+1)),aj.2,n1.1,n5,aj.1,n4.2))) (ret (Sum.inl ((n3,wI (n2+1)),aj.2,n1.1,aj.1,n4))))) no))) no) (ret (Sum.inr ((n3,n2,y3),d.2)))
def ZZ:=bA (ZY bk) 2000
def ajM (CW:Mf)(gL:yP)(sI:yO)(aU:cO)(bm:gR)(dI:LT nw Bt)(x0:Int)(x1:Int)(x2:Int)(x3:Bool):Pg axe:=opt (CW x0 x1 x2 x3) λd=>ae (d.1.1==0&&(d.1.2.1==0&&(d.1.2.2==0&&true))) (opt gL λaj=>ret ((1073741824,0,0,0),d.2)) (opt (sI d.1.1 d.1.2.1 d.1.2.2 d.2) λaj=>opt (dI ((aj.1,0),aj.2,d.1,0,0,0)) λd=>opt (aU 1073741824 d.2.2.2.2.2 d.2.1) λaI=>ae (decide (aI.1<=16)) (ret ((0,1073741824,0,0),aI.2)) (opt (bm aI.1 (wI (0-d.2.2.2.2.1)) d.2.2.2.1 0 aI.2) λd=>ret d))
def II:=λx0 x1 x2 x3=>(ajM zq mE nX bD cV ZZ x0 x1 x2 x3).val
abbrev XZ:=Mf×yP×yO×cv×cO×gR×(LT nw Bt)
def ajN (p:XZ):KK:=⟨[ad5 p.1,ID p.2.1,OB p.b.1,fI p.b.2.1,gD p.c.1,mh p.c.2.1],⟨[⟨7,(1::2::3::rg 8 12 (rg 21 27 [])),[]⟩],[fH 7 1 nw aoa p.c.b],[],[],(some ⟨0,(rg 0 4 (rg 5 43 [])),[]⟩)⟩,1,160⟩
theorem aBS (p:XZ):LI (ajN p) 7 nw aoa (ZY p.b.2.1):=λ_ d c K=>by kernel_rfl
theorem aJf (p:XZ):D2 (ajN p) axd (lf aeB) λb=>ajM p.1 p.2.1 p.b.1 p.c.1 p.c.2.1 p.c.b b.1.1 b.1.2.1 b.1.b b.2:=λb=>by kernel_rfl
abbrev ajO:XZ:=(zq,mE,nX,bk,bD,cV,ZZ)
theorem aJg [ax]:SC (axf II):=sc (kS (k:=ajN ajO) (.c apS (.c OD (.c XN (.c gC (.c iv (.c nu (.nil _))))))) [7] [] ⟨kL (aBS ajO),trivial⟩ trivial (aJf ajO))
def aby:=qa (pr (cu aN (c xF (c (aa azZ) apm))) cq)
def J7:=qe aKX
abbrev Mu:=J7.B
abbrev Ei:=NI->NI->NI->NI->Bool->Option Mu
def Mv (g:Ei):Ct:=(163,FC aby (lf J7) (λb=>g b.1.1.1 b.1.1.2 b.1.2.1 b.1.b b.2))
def dV:=qs (st (pr (cu aN (us 4 (cu EE (cu aME (cu afG (cu Lk (cu amS (c ai (us 13 (c ai (us 16 (cl ai (us 105 nil))))))))))))) (pl (c ch (c hX (c lg (c mw YT)))) cy)))
def UM:=qs (st (pr (cu aN (us 4 (cu EE (cu aME (cu afG (cu Lk (cu amS (c ai (us 13 (c ai (us 16 (c ai (cl ab (us 104 nil)))))))))))))) (pl (c ch (c hX (c lg (c mw YT)))) cy)))
abbrev kg:=UM.B
def UN {ρ:Type}:=@ef kg ((.ex 2)) UM ρ
def zI (aw:bC)(d:dV.B):PL dV kg:=let y0:=aW d.1.1 24;let y1:=aW d.1.2.2 24;let y2:=decide (d.1.2.2<24);let y3:=Int.toNat d.1.1*24+Int.toNat d.1.2.2;ae y2 (ae y0 (ae y1 (opt (aw (d.2.2.2.1 y3) d.2.1) λaj=>ae y0 (ae y1 (ae (true&&Nat.ble (0+y3*1+1) 576) (ret (Sum.inl ((d.1.1,d.1.2.1,wI (d.1.2.2+1)),aj.2,d.2.2.1,λj=>bif Nat.beq j y3 then aj.1 else d.2.2.2.1 j,d.2.2.2.2))) no) no) no) no) no) (ret (Sum.inr ((d.1.1,d.1.2.1,d.1.2.2,y2),d.2)))
def zJ:=bA (zI aO) 2000
def dW:=qs (st (pr (cu aN (us 7 (cu EE (cu av9 (us 2 (cu Xf (cu Lk (c ai (cu amS (us 48 aPx)))))))))) (pl (c ch (c hX (c acV (c EV YT)))) cy)))
def UO:=qs (st (pr (cu aN (us 7 (cu EE (cu av9 (us 2 (cu Xf (cu Lk (c ai (cu amS (us 48 aPK)))))))))) (pl (c ch (c hX (c acV (c EV YT)))) cy)))
abbrev kh:=UO.B
def UP {ρ:Type}:=@ef kh ((.ex 6)) UO ρ
def zK (aB:bJ)(d:dW.B):PL dW kh:=let n2:=d.1.2;let n1:=d.2.2.2;let y0:=Int.toNat n2;let y1:=aW n2 48;let y2:=decide (n2<48);ae y2 (ae (aW d.1.1 24) (ae y1 (ae y1 (opt (aB (n1.2.1 (Int.toNat d.1.1*48+y0)) (n1.1 y0) 30 d.2.1) λaj=>ae y1 (ae (true&&Nat.ble (0+y0*1+1) 48) (ret (Sum.inl ((d.1.1,wI (n2+1)),aj.2,d.2.2.1,n1.1,n1.2.1,n1.2.2.1,λj=>bif Nat.beq j y0 then aj.1 else n1.2.2.2 j))) no) no) no) no) no) (ret (Sum.inr ((d.1.1,n2,y2),d.2)))
def zL:=bA (zK aT) 2000
def dX:=qs (st (pr (cu aN (us 7 (cu EE (cu av9 (us 2 (cu Xf (cu Lk (c ai (cu amS (us 1 (c ai (c ai (c ai (us 76 (c ai (c ai (us 18 (cl ai (us 30 nil))))))))))))))))))) (pl (c ch (c hX (c acV (c EV YT)))) cy)))
def UQ:=qs (st (pr (cu aN (us 7 (cu EE (cu av9 (us 2 (cu Xf (cu Lk (c ai (cu amS (us 1 (c ai (c ai (c ai (us 76 (c ai (c ai (us 18 aPL))))))))))))))))) (pl (c ch (c hX (c acV (c EV YT)))) cy)))
abbrev kj:=UQ.B
def UR {ρ:Type}:=@ef kj ((.ex 10)) UQ ρ
def zM (aB:bJ)(aU:cO)(d:dX.B):PL dX kj:=let n3:=d.2.2.2;let n1:=d.1.2.2;let n2:=n1.2.2.2;let y0:=aW n1.1 24;let y1:=Int.toNat n2.2;let y2:=aW n2.2 48;let y3:=Int.toNat n1.1*48+y1;let y4:=decide (n2.2<48);ae y4 (ae y0 (ae y2 (ae (aW d.1.1 24) (ae y2 (opt (aB n1.2.1 (n3.2.1 (Int.toNat d.1.1*48+y1)) 30 d.2.1) λaj=>opt (aU (n3.2.1 y3) aj.1 aj.2) λaI=>ae y0 (ae y2 (ae (true&&Nat.ble (0+y3*1+1) 1152) (ret (Sum.inl ((d.1.1,d.1.2.1,n1.1,n1.2.1,n1.2.2.1,n2.1,wI (n2.2+1)),aI.2,d.2.2.1,n3.1,λj=>bif Nat.beq j y3 then aI.1 else n3.2.1 j,n3.2.2))) no) no) no) no) no) no) no) (ret (Sum.inr ((d.1.1,d.1.2.1,n1.1,n1.2.1,n1.2.2.1,n2.1,n2.2,y4),d.2)))
def zN:=bA (zM aT bD) 2000
def dY:=qs (st (pr (cu aN (us 4 (cu EE (cu aME (cu afG (cu Lk (cu amS (us 14 (cl ai (us 122 nil)))))))))) (pl (c ch (c hX (c lg (c mw YT)))) cy)))
def US:=qs (st (pr (cu aN (us 4 (cu EE (cu aME (cu afG (cu Lk (cu amS (us 14 (c ai (cl ab (us 121 nil))))))))))) (pl (c ch (c hX (c lg (c mw YT)))) cy)))
abbrev kl:=US.B
def UT {ρ:Type}:=@ef kl ((.ex 0)) US ρ
def zO (aE:bM)(qX:LT dV kg)(d:dY.B):PL dY kl:=let y0:=Int.toNat d.1;let y1:=aW d.1 24;let y2:=wI (24+d.1);let y3:=Int.toNat y2;let y4:=decide (d.1<24);ae y4 (ae y1 (ae y1 (opt (aE (d.2.2.2.2.1 y0) 0 72057594037927936 d.2.1) λaj=>ae (aW d.1 48) (ae (true&&Nat.ble (0+y0*1+1) 48) (ae (aW y2 48) (ae (true&&Nat.ble (0+y3*1+1) 48) (opt (qX ((d.1,d.1,0),aj.2,d.2.2.1,d.2.2.2.1,d.2.2.2.2.1,d.2.2.2.2.2.1,λj=>bif Nat.beq j y3 then aj.1 else bif Nat.beq j y0 then d.2.2.1.2 y0 else d.2.2.2.2.2.2 j)) λd=>ret (Sum.inl (wI (d.1.2.1+1),d.2))) no) no) no) no) no) no) (ret (Sum.inr ((d.1,y4),d.2)))
def zP:=bA (zO aX zJ) 2000
def dZ:=qs (st (pr (cu aN (us 7 (cu EE (cu av9 (us 2 (cu Xf (cu Lk (c ai (cu amS (us 1 (c ai (us 78 (c ai (cl ai (us 49 nil))))))))))))))) (pl (c ch (c hX (c acV (c EV YT)))) cy)))
def UU:=qs (st (pr (cu aN (us 7 (cu EE (cu av9 (us 2 (cu Xf (cu Lk (c ai (cu amS (us 1 (c ai (us 78 (c ai (c ai (cl ab (us 48 nil)))))))))))))))) (pl (c ch (c hX (c acV (c EV YT)))) cy)))
abbrev km:=UU.B
def UW {ρ:Type}:=@ef km ((.ex 8)) UU ρ
def zQ (bb:ek)(aD:cv)(ap2:Ue)(l_5:LT dX kj)(d:dZ.B):PL dZ km:=let n2:=d.2.2.2.2;let n1:=d.1.2.2;let y0:=decide (n1.2<n1.1);ae y0 (ae (aW n1.2 24) (opt (bb 30 48 48 d.2.1 (λj=>n2.1 (0+Int.toNat n1.2*48+j)) n2.2.2 false false) λaj=>opt (aD aj.1 d.1.2.1 30 aj.2) λaI=>opt (ap2 n2.2.1.1 n2.2.1.2 n1.2 d.1.1 aI.1) λbp=>opt (l_5 ((d.1.1,d.1.2.1,n1.2,aI.1,n1.1,n1.2,0),aI.2,d.2.2.1,d.2.2.2.1,n2.1,bp,n2.2.2)) λd=>ret (Sum.inl ((d.1.1,d.1.2.1,d.1.2.2.2.2.1,wI (d.1.2.2.2.2.2.1+1)),d.2))) no) (ret (Sum.inr ((d.1.1,d.1.2.1,n1.1,n1.2,y0),d.2)))
def zR:=bA (zQ bn bk wE zN) 2000
def ec:=qs (st (pr (cu aN (us 7 (cu EE (cu av9 (us 2 (cu Xf (cu Lk (cl ai (us 132 nil))))))))) (pl (c ch (c hX (c acV (c EV (cl hX nil))))) cy)))
def ap3:=qs (st (pr (cu aN (us 7 (cu EE (cu av9 (us 2 (cu Xf (cu Lk (c ai (us 45 (c ai (cl ab (us 85 nil)))))))))))) (pl (c ch (c hX (c acV (c EV (cl hX nil))))) cy)))
abbrev kn:=((Int×Bool)×Bool×(NI×NI)×NI×NI×NI×NI)
def UX {ρ:Type}(x:kn)(K:AX->St->Option ρ):Option ρ:=(λd=>K (.ex 4) (ap3.em ((d.1.1,d.1),d.2))) x
def zT (aE:bM)(bb:ek)(l_3:LT dW kh)(l_4:LT dZ km)(d:ec.B):PL ec kn:=let y0:=decide (d.1>=0);ae y0 (opt (l_3 ((d.1,0),d.2.1,d.2.2.1,d.2.2.2.1,d.2.2.2.2.1,d.2.2.2.2.2,λx=>0)) λd=>let n1:=d.2.2.2.2;let y0:=Int.toNat d.1.1;let y1:=aW d.1.1 24;ae y1 (opt (bb 30 48 48 d.2.1 (λj=>n1.1 (0+y0*48+j)) n1.2.2 false false) λaj=>opt (aE aj.1 1 72057594037927936 aj.2) λaI=>ae y1 (ae (true&&Nat.ble (276+y0*1+1) 300) (opt (l_4 ((d.1.1,aI.1,d.1.1,0),aI.2,d.2.2.1,d.2.2.2.1,n1.1,(n1.2.1.1,λj=>bif Nat.beq j y0 then aI.1 else n1.2.1.2 j),n1.2.2)) λd=>ret (Sum.inl (wI (d.1.1-1),d.2.1,d.2.2.1,d.2.2.2.1,d.2.2.2.2.1,d.2.2.2.2.2.1))) no) no) no) (ret (Sum.inr ((d.1,y0),d.2)))
def zU:=bA (zT aX bn zL zR) 2000
def Ej (eY:oL)(ava:Mn)(dI:LT dY kl)(J1:LT ec kn)(x0:Nat->Int)(x1:Nat->Int)(x2:Nat->Int)(x3:Nat->Int)(x4:Bool):Pg Mu:=opt (eY x0 x1 x4) λd=>opt (dI (0,d.2,d.1,x2,x3,(λx=>0,λx=>0),λx=>0)) λd=>opt (ava d.2.2.1.1 d.2.2.1.2 d.2.1 d.2.2.2.1) λaj=>opt (J1 (23,aj.1,d.2.2.2.2.2.1,d.2.2.2.2.2.2,aj.2,λx=>0,λx=>0)) λd=>ret (d.2.2.2.2.2,d.2.1)
def jk:=λx0 x1 x2 x3 x4=>(Ej eX oM zP zU x0 x1 x2 x3 x4).val
abbrev kM:=oL×bM×bC×Mn×bJ×ek×cv×Ue×cO×(LT dV kg)×(LT dW kh)×(LT dX kj)×(LT dY kl)×(LT dZ km)×(LT ec kn)
def mG (p:kM):KK:=⟨[xS p.1,dw p.2.1,cU p.b.1,abu p.b.2.1,eG p.c.1,lN p.c.2.1,fI p.c.b.1,apX p.c.b.2.1,gD p.d.1],⟨[⟨4,(rg 1 4 (rg 10 14 (rg 25 122 []))),[]⟩,⟨8,(rg 1 4 (rg 11 13 (rg 25 16 (rg 42 105 [])))),[]⟩,⟨16,(rg 1 7 (10::11::rg 15 132 [])),[]⟩,⟨20,(rg 1 7 (10::11::rg 16 48 (rg 65 82 []))),[]⟩,⟨27,(rg 1 7 (10::11::16::rg 18 78 (rg 98 49 []))),[]⟩,⟨32,(rg 1 7 (10::11::16::rg 20 76 (rg 98 18 (rg 117 30 [])))),[]⟩],[fH 8 1 dV UN p.d.2.1,fH 20 1 dW UP p.d.b.1,fH 32 1 dX UR p.d.b.2.1,fH 4 1 dY UT p.d.c.1,fH 27 1 dZ UW p.d.c.2.1,fH 16 1 ec UX p.d.c.b],[],[],(some ⟨0,(rg 0 8 (rg 9 138 [])),[]⟩)⟩,1,163⟩
theorem amf (p:kM):LI (mG p) 8 dV UN (zI p.b.1):=λ_ d c K=>by kernel_rfl
theorem amg (p:kM):LI (mG p) 20 dW UP (zK p.c.1):=λ_ d c K=>by kernel_rfl
theorem amh (p:kM):LI (mG p) 32 dX UR (zM p.c.1 p.d.1):=λ_ d c K=>by kernel_rfl
theorem ami (p:kM):LI (mG p) 4 dY UT (zO p.2.1 p.d.2.1):=λ_ d c K=>by kernel_rfl
theorem amj (p:kM):LI (mG p) 27 dZ UW (zQ p.c.2.1 p.c.b.1 p.c.b.2.1 p.d.b.2.1):=λ_ d c K=>by kernel_rfl
theorem amk (p:kM):LI (mG p) 16 ec UX (zT p.2.1 p.c.2.1 p.d.b.1 p.d.c.2.1):=λ_ d c K=>by kernel_rfl
theorem avb (p:kM):D2 (mG p) aby (lf J7) λb=>Ej p.1 p.b.2.1 p.d.c.1 p.d.c.b b.1.1.1 b.1.1.2 b.1.2.1 b.1.b b.2:=λb=>by kernel_rfl
abbrev mH:kM:=(eX,aX,aO,oM,aT,bn,bk,wE,bD,zJ,zL,zN,zP,zR,zU)
theorem abz [ax]:SC (Mv jk):=sc (kS (k:=mG mH) (.c D9 (.c dN (.c cY (.c au4 (.c eV (.c m7 (.c gC (.c aBC (.c iv (.nil _)))))))))) [4,8,16,20,27,32] [] ⟨kL (ami mH),⟨kL (amf mH),⟨kL (amk mH),⟨kL (amg mH),⟨kL (amj mH),⟨kL (amh mH),trivial⟩⟩⟩⟩⟩⟩ trivial (avb mH))
def axg:=qa (pl fM nil)
def aeC:=qe BB
abbrev axh:=aeC.B
abbrev ajP:=Int->Option axh
def axi (g:ajP):Ct:=(214,FC axg (lf aeC) (λb=>g b))
def OG (x0:Int):Pg axh:=ae (decide (x0>=0)) (ret (decide (x0<24))) (ret false)
def vN:=λx0=>(OG x0).val
theorem aJh:D0 [] 214 axg (lf aeC) λb=>OG b:=λb=>by kernel_rfl
theorem aJi [ax]:SC (axi vN):=s0 (.nil _) aJh
def X0:=qa (pr (cu aN fM) cq)
def HF:=qe oG
abbrev X1:=HF.B
abbrev J8:=Int->Bool->Option X1
def X2 (g:J8):Ct:=(215,FC X0 (lf HF) (λb=>g b.1 b.2))
def Ca (aE:bM)(x0:Int)(x1:Bool):Pg X1:=opt (aE x0 1 72057594037927936 x1) λd=>ret d
def nx:=λx0 x1=>(Ca aX x0 x1).val
theorem asr:∀aE,D0 [dw aE] 215 X0 (lf HF) λb=>Ca aE b.1 b.2:=λ_ b=>by kernel_rfl
theorem ass [ax]:SC (X2 nx):=s0 (.c dN (.nil _)) (asr aX)
def ajQ:=qa (dp (cu aN (c xF aKu)) λa=>(c ux (cl (cl (gs a.b.1 mB) nil) nil)))
def QD:=qe aQF
abbrev UY:=QD.B
abbrev fk:=NI->NI->Int->Nat->Bool->NI->Bool->Option UY
def xZ (g:fk):Ct:=(161,sE 3 [.i .i64] (FC ajQ (lf QD) (λb=>g b.1.1.1 b.1.1.2 b.1.2.1 b.1.b.1 b.2.1 b.b b.1.b.2)))
def fe:=qs (st (dp (cu aN (us 1 (c ai (us 2 (cu Xe (us 2 (cu aD9 (cu aEb (cu amT (us 4 (c FY (c ai aFl)))))))))))) λa=>(pl (c ch (c (so (cl (gs a.2.1.1 mB) nil)) aQ6)) cy)))
def avc:=qs (st (pr (cu aN (us 1 (c ai (us 2 (cu Xe (us 2 (cu aD9 (cu aEb (cu amT (us 4 (c FY (c ai aFs)))))))))))) (pl (c ch (c Hp aQ6)) cy)))
abbrev mI:=((Int×(Nat×Bool)×Int×Int×Bool)×Bool×NI×(NI×NI)×(NI×NI)×AP×NI)
def abA {ρ:Type}(x:mI)(K:AX->St->Option ρ):Option ρ:=(λd=>K (.ex 0) (avc.em (d.1,d.2.1,(d.1.2.1.1,d.b.1),d.b.2))) x
def Ek (aJj:ajP)(ast:J8)(d:fe.B):PL fe mI:=let n3:=d.2.2;let n2:=d.1.2.2;let n1:=(d.1.1,d.1.2.1,n2.1,wI (n2.2+1));let y0:=wI (d.1.1+n2.2);let y1:=Int.toNat y0;let y2:=aW y0 24;let y3:=decide (n2.2<n2.1);let y4:=y1*24+y1;ae y3 (ae (aW n2.2 d.1.2.1.1) (opt (aJj y0) λaj=>ae aj (opt (ast (n3.1 (Int.toNat n2.2)) d.2.1) λaI=>ae y2 (ae y2 (ae (true&&Nat.ble (0+y4*1+1) 576) (ae y2 (ae (true&&Nat.ble (0+y1*1+1) 24) (ret (Sum.inl (n1,aI.2,n3.1,n3.2.1,n3.2.2.1,λj=>bif Nat.beq j y4 then 0 else n3.2.2.2.1 j,λj=>bif Nat.beq j y1 then aI.1 else n3.2.2.2.2 j))) no) no) no) no) no) (ret (Sum.inl (n1,d.2)))) no) (ret (Sum.inr ((d.1.1,d.1.2.1,n2.1,n2.2,y3),d.2)))
def El:=bA (Ek vN nx) 2000
def J9 (QE:AQ)(th:Ei)(dI:LT fe mI)(x0:Nat->Int)(x1:Nat->Int)(x2:Int)(x3:Nat)(x4:Bool)(x5:Nat->Int)(w0:Bool):Pg UY:=opt QE λd=>ae (Nat.beq x3 x3) (opt (dI ((x2,(x3,w0),Int.ofNat x3,0),x4,x5,(x0,x1),(λx=>0,λx=>0),d,λx=>0)) λd=>opt (th d.2.2.2.1.1 d.2.2.2.1.2 d.2.2.2.2.2.1 d.2.2.2.2.2.2 d.2.1) λd=>ret d) no
def cN:=λx0 x1 x2 x3 x4 x5 w0=>(J9 mf jk El x0 x1 x2 x3 x4 x5 w0).val
abbrev J':=AQ×ajP×J8×Ei×(LT fe mI)
def UZ (p:J'):KK:=⟨[Qq p.1,axi p.2.1,X2 p.b.1,Mv p.b.2.1],⟨[⟨4,(1::3::4::6::7::rg 11 4 (rg 18 24 [])),[]⟩],[fH 4 2 fe abA p.c],[0],[],(some ⟨0,(rg 0 8 (rg 9 33 [])),[]⟩)⟩,2,161⟩
theorem asu (p:J'):LI (UZ p) 4 fe abA (Ek p.2.1 p.b.1):=λ_ d c K=>by kernel_rfl
theorem aBT (p:J'):D2 (UZ p) ajQ (lf QD) λb=>J9 p.1 p.b.2.1 p.c b.1.1.1 b.1.1.2 b.1.2.1 b.1.b.1 b.2.1 b.b b.1.b.2:=λb=>by kernel_rfl
abbrev U0:J':=(mf,vN,nx,jk,El)
theorem CX [ax]:SC (xZ cN):=sc (Sound.nil 3 [.i .i64]<|kS (k:=UZ U0) (.c agc (.c aJi (.c ass (.c abz (.nil _))))) [4] [] ⟨kL (asu U0),trivial⟩ trivial (aBT U0))
def asv:=qa (pr (cu aN ac0) cq)
def Z0:=qe az5
abbrev asw:=Z0.B
abbrev asx:=NI->Int->Bool->Option asw
def asy (g:asx):Ct:=(165,FC asv (lf Z0) (λb=>g b.1.1 b.1.2 b.2))
def ml:=qs (st (pr (cu aN (us 3 (cu Rz (us 1 (cu BZ (c ai (us 4 (cl ai (us 14 nil))))))))) (pl (c ch LO) cy)))
def ajR:=qs (st (pr (cu aN (us 3 (cu Rz (us 1 (cu BZ (c ai (us 4 aPM))))))) (pl (c ch LO) cy)))
abbrev ya:=ajR.B
def ajS {ρ:Type}:=@ef ya ((.ex 0)) ajR ρ
def U2 (aB:bJ)(aE:bM)(d:ml.B):PL ml ya:=let y0:=Int.toNat d.1.2;let y1:=aW d.1.2 24;let y2:=decide (d.1.2<24);ae y2 (ae y1 (opt (aB (d.2.2.1 y0) d.1.1 30 d.2.1) λaj=>opt (aE aj.1 0 72057594037927936 aj.2) λaI=>ae y1 (ae (true&&Nat.ble (0+y0*1+1) 24) (ret (Sum.inl ((d.1.1,wI (d.1.2+1)),aI.2,λj=>bif Nat.beq j y0 then aI.1 else d.2.2.1 j,d.2.2.2))) no) no) no) (ret (Sum.inr ((d.1.1,d.1.2,y2),d.2)))
def U3:=bA (U2 aT aX) 2000
def aeD (mF:tg)(dI:LT ml ya)(x0:Nat->Int)(x1:Int)(x2:Bool):Pg asw:=opt (mF x1 x2) λd=>opt (dI ((d.1,0),d.2,x0,λx=>0)) λd=>ret (d.2.2.1,d.2.1)
def Ka:=λx0 x1 x2=>(aeD jj U3 x0 x1 x2).val
abbrev Sx:=tg×bJ×bM×(LT ml ya)
def aeE (p:Sx):KK:=⟨[Eh p.1,eG p.2.1,dw p.b.1],⟨[⟨3,(1::2::3::5::rg 8 4 (rg 13 14 [])),[]⟩],[fH 3 1 ml ajS p.b.2],[],[],(some ⟨0,(rg 0 6 (rg 7 20 [])),[]⟩)⟩,1,165⟩
theorem ayU (p:Sx):LI (aeE p) 3 ml ajS (U2 p.2.1 p.b.1):=λ_ d c K=>by kernel_rfl
theorem aGI (p:Sx):D2 (aeE p) asv (lf Z0) λb=>aeD p.1 p.b.2 b.1.1 b.1.2 b.2:=λb=>by kernel_rfl
abbrev aeF:Sx:=(jj,aT,aX,U3)
theorem aGJ [ax]:SC (asy Ka):=sc (kS (k:=aeE aeF) (.c Mt (.c eV (.c dN (.nil _)))) [3] [] ⟨kL (ayU aeF),trivial⟩ trivial (aGI aeF))
def agj:=qa (pr (cu aN (c xF ac0)) cq)
def Mw:=qe (res (pu (app 1 373) (pr k9 (cl aQL nil))))
abbrev agk:=Mw.B
abbrev G8:=NI->NI->NI->Int->Bool->Option agk
def QF (g:G8):Ct:=(273,FC agj (lf Mw) (λb=>g b.1.1.1 b.1.1.2 b.1.2.1 b.1.b b.2))
def iJ:=qs (st (pr (cu aN (us 2 (c ai (us 2 (cu Rz (us 2 (cu aEc (us 9 (cl ai (us 98 nil)))))))))) (pl (c ch (c mw (cl PX nil))) cy)))
def X3:=qs (st (pr (cu aN (us 2 (c ai (us 2 (cu Rz (us 2 (cu aEc (us 9 (c ai (cl ab (us 97 nil))))))))))) (pl (c ch (c mw (cl PX nil))) cy)))
abbrev qH:=X3.B
def X4 {ρ:Type}:=@ef qH ((.ex 0)) X3 ρ
def Kb (aw:bC)(d:iJ.B):PL iJ qH:=let y0:=Int.toNat d.1.2;let y1:=aW d.1.2 24;let y2:=decide (d.1.2<24);ae y2 (ae y1 (opt (aw (d.2.2.1 y0) d.2.1) λaj=>ae y1 (ae (true&&Nat.ble (0+y0*1+1) 24) (ret (Sum.inl ((d.1.1,wI (d.1.2+1)),aj.2,λj=>bif Nat.beq j y0 then aj.1 else d.2.2.1 j,d.2.2.2))) no) no) no) (ret (Sum.inr ((d.1.1,d.1.2,y2),d.2)))
def Kc:=bA (Kb aO) 2000
def iK:=qs (st (dp (cu aN (us 5 (cu Rz (us 2 (cu aEc (us 1 (c ai (c aQs (us 24 (c ai (us 3 (c ai (cl ai (us 75 nil)))))))))))))) λa=>(pl (c ch (c mw (c PX (cl (so (cl (gs a.2.1 mB) nil)) nil)))) cy)))
def asz:=qs (st (pr (cu aN (us 5 (cu Rz (us 2 (cu aEc (us 1 (c ai (c aQs (us 24 (c ai (us 3 (c ai (c ai (cl ab (us 74 nil))))))))))))))) (pl (c ch (c mw (c PX ahV))) cy)))
abbrev qI:=((Int×Nat×Int×Int×Int×Bool)×Bool×NI×(NI×NI×NI×NI×NI)×NI)
def X5 {ρ:Type}(x:qI)(K:AX->St->Option ρ):Option ρ:=(λd=>K (.ex 4) (asz.em (d.1,d.2.1,d.b.1,d.b.2.1,d.1.2.1,d.c))) x
def Kd (ajv:Ud)(d:iK.B):PL iK qI:=let n2:=d.2.2.2;let n1:=d.1.2.2;let y0:=d.1.2.1+1;let y1:=decide (n1.2.2<n1.2.1);ae y1 (opt (ajv n2.1.1 n2.1.2.1 n1.2.2 d.1.1) λaj=>ae (Nat.ble (y0*8) 140737488355328) (ret (Sum.inl ((d.1.1,y0,n1.1,n1.2.1,wI (n1.2.2+1)),d.2.1,d.2.2.1,n2.1,λj=>bif Nat.beq j d.1.2.1 then aj else n2.2 j))) no) (ret (Sum.inr ((d.1.1,d.1.2.1,n1.1,n1.2.1,n1.2.2,y1),d.2)))
def Ke:=bA (Kd CO) 2000
def iL:=qs (st (pr (cu aN (us 5 (cu Rz (us 2 (cu aEc (us 27 aPy)))))) (pl (c ch (c mw (cl PX nil))) cy)))
def X6:=qs (st (pr (cu aN (us 5 (cu Rz (us 2 (cu aEc (us 27 (c ai (cl ab (us 79 nil))))))))) (pl (c ch (c mw (cl PX nil))) cy)))
abbrev qJ:=X6.B
def X7 {ρ:Type}:=@ef qJ ((.ex 2)) X6 ρ
def Kf (bb:ek)(aB:bJ)(bS:eH)(J1:LT iK qI)(d:iL.B):PL iL qJ:=let y0:=decide (d.1<24);ae y0 (ae true (opt (J1 ((d.1,0,d.1,wI (d.1+1),0),d.2.1,d.2.2.1,d.2.2.2,λx=>0)) λd=>let n2:=d.2.2;let n1:=n2.2.1.2;let n3:=n1.2.2;let y0:=Int.toNat d.1.1;let y1:=aW d.1.1 24;let y2:=y0*1;let y3:=wI (d.1.1+1);let y4:=Int.toNat y3;let y5:=Nat.ble (0+y2+1) 24;let y6:=Nat.beq y0 y0;ae (Ir y3 24) (ae (Nat.beq y4 y4) (ae (Nat.beq d.1.2.1 d.1.2.1) (opt (bb 30 y4 d.1.2.1 d.2.1 n2.1 n2.2.2 false true) λaj=>let uy:=bif y6 then aj.1 else n1.2.1 y0;ae y1 (ae (y5&&Nat.ble (300+y2+1) 373) (ae y1 (ae y5 (ae y1 (ae y5 (opt (aB (n1.1 y0) uy 30 aj.2) λaI=>ae y1 (ae (y5&&Nat.ble (324+y2+1) 373) (ae (aW d.1.1 25) (ae y1 (ae y5 (ae y1 (ae y5 (opt (aB uy (bif y6 then aI.1 else n3.1 y0) 30 aI.2) λbp=>opt (bS 2 bp.2 (cr (n3.2 y0) [bp.1,n3.2 y0]) true) λcg=>ae (aW y3 25) (ae (true&&Nat.ble (348+y4*1+1) 373) (ret (Sum.inl (wI (d.1.2.2.1+1),cg.2,n2.1,n2.2.1.1,n1.1,λj=>bif Nat.beq j y0 then aj.1 else n1.2.1 j,λj=>bif Nat.beq j y0 then aI.1 else n3.1 j,λj=>bif Nat.beq j y4 then cg.1 else n3.2 j))) no) no) no) no) no) no) no) no) no) no) no) no) no) no) no) no) no) no) no) (ret (Sum.inr ((d.1,y0),d.2)))
def Kg:=bA (Kf bn aT cC Ke) 2000
def QG (eY:oL)(aE:bM)(dI:LT iJ qH)(qX:LT iL qJ)(x0:Nat->Int)(x1:Nat->Int)(x2:Nat->Int)(x3:Int)(x4:Bool):Pg agk:=opt (eY x0 x1 x4) λd=>opt (dI ((x3,0),d.2,x2,d.1.1,d.1.2,λx=>0,λx=>0,λx=>0)) λd=>let n1:=d.2.2.2;opt (aE d.1.1 1 72057594037927936 d.2.1) λaj=>opt (qX (0,aj.2,d.2.2.1,n1.1,n1.2.1,n1.2.2.1,n1.2.2.2.1,λj=>bif Nat.beq j 0 then aj.1 else n1.2.2.2.2 j)) λd=>ret (d.2.1,d.2.2.2)
def rb:=λx0 x1 x2 x3 x4=>(QG eX aX Kc Kg x0 x1 x2 x3 x4).val
abbrev vo:=oL×bC×bM×Ud×ek×bJ×eH×(LT iJ qH)×(LT iK qI)×(LT iL qJ)
def AT (p:vo):KK:=⟨[xS p.1,cU p.2.1,dw p.b.1,ar4 p.b.2.1,lN p.c.1,eG p.c.2.1,m6 p.c.b.1],⟨[⟨3,(1::2::4::5::7::8::rg 10 9 (rg 20 98 [])),[]⟩,⟨9,(rg 1 5 (7::8::rg 10 27 (rg 38 80 []))),[]⟩,⟨13,(rg 1 5 (7::8::10::rg 13 24 (38::39::40::rg 43 75 []))),[(12,[.i .i64])]⟩],[fH 3 1 iJ X4 p.c.b.2.1,fH 13 1 iK X5 p.d.1,fH 9 1 iL X7 p.d.2],[],[],(some ⟨0,(rg 0 8 (rg 9 109 [])),[]⟩)⟩,1,273⟩
theorem ap4 (p:vo):LI (AT p) 3 iJ X4 (Kb p.2.1):=λ_ d c K=>by kernel_rfl
theorem ap5 (p:vo):LI (AT p) 13 iK X5 (Kd p.b.2.1):=λ_ d c K=>by kernel_rfl
theorem ap6 (p:vo):LI (AT p) 9 iL X7 (Kf p.c.1 p.c.2.1 p.c.b.1 p.d.1):=λ_ d c K=>by kernel_rfl
theorem ayV (p:vo):D2 (AT p) agj (lf Mw) λb=>QG p.1 p.b.1 p.c.b.2.1 p.d.2 b.1.1.1 b.1.1.2 b.1.2.1 b.1.b b.2:=λb=>by kernel_rfl
abbrev AU:vo:=(eX,aO,aX,CO,bn,aT,cC,Kc,Ke,Kg)
theorem agl [ax]:SC (QF rb):=sc (kS (k:=AT AU) (.c D9 (.c cY (.c dN (.c aBz (.c m7 (.c eV (.c pk (.nil _)))))))) [3,9,13] [] ⟨kL (ap4 AU),⟨kL (ap6 AU),⟨kL (ap5 AU),trivial⟩⟩⟩ trivial (ayV AU))
def Ll:=qa (pr (cu aN (c xF ac0)) cq)
def zV:=qe oG
abbrev Lm:=zV.B
abbrev Ln:=NI->NI->NI->Int->Bool->Option Lm
def Lo (g:Ln):Ct:=(268,FC Ll (lf zV) (λb=>g b.1.1.1 b.1.1.2 b.1.2.1 b.1.b b.2))
def BG (vp:G8)(x0:Nat->Int)(x1:Nat->Int)(x2:Nat->Int)(x3:Int)(x4:Bool):Pg Lm:=opt (vp x0 x1 x2 x3 x4) λd=>ret (d.2.2.2.2.2 24,d.1)
def oy:=λx0 x1 x2 x3 x4=>(BG rb x0 x1 x2 x3 x4).val
theorem ahx:∀vp,D0 [QF vp] 268 Ll (lf zV) λb=>BG vp b.1.1.1 b.1.1.2 b.1.2.1 b.1.b b.2:=λ_ b=>by kernel_rfl
theorem ahy [ax]:SC (Lo oy):=s0 (.c agl (.nil _)) (ahx rb)
def axj:=qa (pl (c acS az2) nil)
def aeG:=qe EU
abbrev axk:=aeG.B
abbrev axl:=Int->Int->Int->Int->Option axk
def axm (g:axl):Ct:=(274,FC axj (lf aeG) (λb=>g b.1.1 b.1.2 b.2.1 b.b))
def ajT (x0:Int)(x1:Int)(x2:Int)(x3:Int):Pg axk:=let y0:=x0==x2;ae (y0&&(x1==x3&&true)) (ret 0) (ae (decide (x0<x2)) (ret (-1)) (ae y0 (ae (decide (x1<x3)) (ret (-1)) (ret 1)) (ret 1)))
def OH:=λx0 x1 x2 x3=>(ajT x0 x1 x2 x3).val
theorem aJk:D0 [] 274 axj (lf aeG) λb=>ajT b.1.1 b.1.2 b.2.1 b.b:=λb=>by kernel_rfl
theorem aJl [ax]:SC (axm OH):=s0 (.nil _) aJk
def ajU:=qa (pl Cz nil)
def QH:=qe BB
abbrev ajV:=QH.B
abbrev ajW:=Int->Int->Int->Option ajV
def ajX (g:ajW):Ct:=(269,FC ajU (lf QH) (λb=>g b.1 b.2.1 b.b))
def U4 (aw:bC)(cA:mC)(X8:axl)(x0:Int)(x1:Int)(x2:Int):Pg ajV:=opt (aw x0 false) λd=>opt (aw x1 d.2) λaj=>ae (decide (x2<1)) (ret false) (ae (decide (x2>1000)) (ret false) (ae (decide (aj.1<1)) (ret false) (opt (cA d.1 d.1) λd=>opt (cA (wI (wI (x2*x2)*65536)) aj.1) λaI=>opt (X8 d.1 d.2 aI.1 aI.2) λd=>ret (decide (d<=0)))))
def CY:=λx0 x1 x2=>(U4 aO eN OH x0 x1 x2).val
theorem aBU:∀aw cA X8,D0 [cU aw,vA cA,axm X8] 269 ajU (lf QH) λb=>U4 aw cA X8 b.1 b.2.1 b.b:=λ_ _ _ b=>by kernel_rfl
theorem aBV [ax]:SC (ajX CY):=s0 (.c cY (.c yM (.c aJl (.nil _)))) (aBU aO eN OH)
def X9:=qa (pr (cu aN (c xF ac0)) cq)
def HG:=qe (res (pr (o9 (c ahW (c acW aqY))) (pl k9 nil)))
abbrev X':=HG.B
abbrev Ya:=NI->NI->NI->Int->Bool->Option X'
def Yb (g:Ya):Ct:=(270,FC X9 (lf HG) (λb=>g b.1.1.1 b.1.1.2 b.1.2.1 b.1.b b.2))
def fY:=qs (st (pr (cu aN (us 7 (cu EE (cu BZ (us 1 (cu aEd (cu Lk (cu amT (c ai (c ai (us 13 (c ai (us 52 (c ai (cl ai (us 65 nil)))))))))))))))) (pl (c ch (c hX (c mw (c PX (c hX Ho))))) cy)))
def RF:=qs (st (pr (cu aN (us 7 (cu EE (cu BZ (us 1 (cu aEd (cu Lk (cu amT (c ai (c ai (us 13 (c ai (us 52 (c ai (c ai (cl ab (us 64 nil))))))))))))))))) (pl (c ch (c hX (c mw (c PX (c hX Ho))))) cy)))
abbrev nP:=RF.B
def RG {ρ:Type}:=@ef nP ((.ex 2)) RF ρ
def Fe (ajv:Ud)(aB:bJ)(bS:eH)(ap2:Ue)(d:fY.B):PL fY nP:=let n4:=d.1.1;let n3:=d.1.2;let n2:=d.2.2.2.2;let n1:=n3.2.2;let y0:=Int.toNat n4;let y1:=Int.toNat n1.2;let y2:=aW n1.2 24;let y3:=decide (n1.2<n1.1);ae y3 (opt (ajv n2.1.1 n2.1.2.1 n1.2 n4) λaj=>ae y2 (opt (aB (n2.2.2 y1) n3.1 44 d.2.1) λaI=>opt (bS 2 aI.2 (cr aj [aI.1,aj]) true) λbp=>opt (ap2 n2.2.1.1 n2.2.1.2 n1.2 n4 bp.1) λcg=>ae y2 (ae (aW n4 24) (ae (Nat.ble (0+y0*1+1) 24) (opt (aB aj (n2.1.2.2.2.1 y0) 30 bp.2) λdF=>opt (bS 2 dF.2 (cr (n2.2.2 y1) [dF.1,n2.2.2 y1]) true) λcH=>ae y2 (ae (true&&Nat.ble (0+y1*1+1) 24) (ret (Sum.inl ((n4,n3.1,n3.2.1,n1.1,wI (n1.2+1)),cH.2,d.2.2.1,d.2.2.2.1,n2.1,cg,λj=>bif Nat.beq j y1 then cH.1 else n2.2.2 j))) no) no) no) no) no) no) (ret (Sum.inr ((n4,n3.1,n3.2.1,n1.1,n1.2,y3),d.2)))
def Ff:=bA (Fe CO aT cC wE) 2000
def fZ:=qs (st (pr (cu aN (us 7 (cu EE (cu BZ (us 1 (cu aEd (cu Lk (cu amT (us 4 (cu (app 6 24) (us 107 aPw))))))))))) (pl (c ch (c hX (c mw (c PX (c hX LO))))) cy)))
def RH:=qs (st (pr (cu aN (us 7 (cu EE (cu BZ (us 1 (cu aEd (cu Lk (cu amT (us 4 (cu (app 6 24) (us 107 (c ai aKf)))))))))))) (pl (c ch (c hX (c mw (c PX (c hX LO))))) cy)))
abbrev nQ:=RH.B
def RI {ρ:Type}:=@ef nQ ((.ex 4)) RH ρ
def Fg (aD:cv)(d:fZ.B):PL fZ nQ:=let n1:=d.2.2.2.2;let y0:=Int.toNat d.1;let y1:=aW d.1 24;let y2:=decide (d.1<24);ae y2 (ae y1 (opt (aD (n1.2.2.1 y0) (n1.1.2.2.2.2 24) 30 d.2.1) λaj=>ae y1 (ae (true&&Nat.ble (0+y0*1+1) 24) (ret (Sum.inl (wI (d.1+1),aj.2,d.2.2.1,d.2.2.2.1,n1.1,n1.2.1,n1.2.2.1,λj=>bif Nat.beq j y0 then aj.1 else n1.2.2.2 j))) no) no) no) (ret (Sum.inr ((d.1,y2),d.2)))
def Fh:=bA (Fg bk) 2000
def gf:=qs (st (pr (cu aN (us 7 (cu EE (cu BZ (us 1 (cu aEd (cu Lk (cu amT (us 15 (cl ai (us 119 nil))))))))))) (pl (c ch (c hX (c mw (c PX (c hX Ho))))) cy)))
def RJ:=qs (st (pr (cu aN (us 7 (cu EE (cu BZ (us 1 (cu aEd (cu Lk (cu amT (us 15 (c ai (cl ab (us 118 nil)))))))))))) (pl (c ch (c hX (c mw (c PX (c hX Ho))))) cy)))
abbrev nR:=RJ.B
def RK {ρ:Type}:=@ef nR ((.ex 0)) RJ ρ
def Fi (aq:bU)(aE:bM)(aD:cv)(qX:LT fY nP)(d:gf.B):PL gf nR:=let n1:=d.2.2.2.2;let n2:=n1.1.2.2;let y0:=Int.toNat d.1;let y1:=aW d.1 25;let y2:=aW d.1 24;let y3:=y0*1;let y4:=wI (d.1+1);let y5:=Nat.ble (0+y3+1) 24;let y6:=decide (d.1<24);ae y6 (ae y2 (ae y5 (ae y1 (ae (aW y4 25) (opt (aq (n1.1.2.1 y0) (n2.2.2 y0) (n2.2.2 (Int.toNat y4)) d.2.1) λaj=>opt (aE aj.1 1 72057594037927936 aj.2) λaI=>ae y2 (ae (true&&Nat.ble (276+y3+1) 300) (ae y2 (ae y5 (ae y1 (opt (aD (n2.1 y0) (n2.2.2 y0) 44 aI.2) λbp=>ae y2 (ae y5 (ae y2 (ae (true&&y5) (opt (qX ((d.1,wI (0-bp.1),d.1,d.1,0),bp.2,d.2.2.1,d.2.2.2.1,n1.1,(n1.2.1.1,λj=>bif Nat.beq j y0 then aI.1 else n1.2.1.2 j),λj=>bif Nat.beq j y0 then n2.2.1 y0 else n1.2.2 j)) λd=>ret (Sum.inl (wI (d.1.2.2.1+1),d.2))) no) no) no) no) no) no) no) no) no) no) no) no) no) (ret (Sum.inr ((d.1,y6),d.2)))
def Fj:=bA (Fi aS aX bk Ff) 2000
def Kh (vp:G8)(J1:LT fZ nQ)(dI:LT gf nR)(x0:Nat->Int)(x1:Nat->Int)(x2:Nat->Int)(x3:Int)(x4:Bool):Pg X':=opt (vp x0 x1 x2 x3 x4) λd=>opt (dI (0,d.1,(λx=>0,λx=>0),λx=>0,d.2,(d.2.1,d.2.2.1),λx=>0)) λd=>opt (J1 (0,d.2.1,d.2.2.1,d.2.2.2.1,d.2.2.2.2.1,d.2.2.2.2.2.1,d.2.2.2.2.2.2,λx=>0)) λd=>ret ((d.2.2.2.2.2.1,d.2.2.2.2.2.2.2,d.2.2.2.2.1.2.2.2.2 24),d.2.1)
def vO:=λx0 x1 x2 x3 x4=>(Kh rb Fh Fj x0 x1 x2 x3 x4).val
abbrev qK:=G8×bU×bM×cv×Ud×bJ×eH×Ue×(LT fY nP)×(LT fZ nQ)×(LT gf nR)
def vP (p:qK):KK:=⟨[QF p.1,cT p.2.1,dw p.b.1,fI p.b.2.1,ar4 p.c.1,eG p.c.2.1,m6 p.c.b.1,apX p.c.b.2.1],⟨[⟨5,(rg 1 7 (10::rg 14 15 (rg 30 119 []))),[]⟩,⟨11,(rg 1 7 (10::rg 16 13 (rg 30 52 (rg 84 65 [])))),[]⟩,⟨20,(rg 1 7 (10::rg 14 4 (rg 19 107 (rg 127 22 [])))),[]⟩],[fH 11 1 fY RG p.d.1,fH 20 1 fZ RI p.d.2.1,fH 5 1 gf RK p.d.b],[],[],(some ⟨0,(rg 0 8 (rg 11 138 [])),[]⟩)⟩,1,270⟩
theorem ajY (p:qK):LI (vP p) 11 fY RG (Fe p.c.1 p.c.2.1 p.c.b.1 p.c.b.2.1):=λ_ d c K=>by kernel_rfl
theorem ajZ (p:qK):LI (vP p) 20 fZ RI (Fg p.b.2.1):=λ_ d c K=>by kernel_rfl
theorem aj0 (p:qK):LI (vP p) 5 gf RK (Fi p.2.1 p.b.1 p.b.2.1 p.d.1):=λ_ d c K=>by kernel_rfl
theorem asA (p:qK):D2 (vP p) X9 (lf HG) λb=>Kh p.1 p.d.2.1 p.d.b b.1.1.1 b.1.1.2 b.1.2.1 b.1.b b.2:=λb=>by kernel_rfl
abbrev vQ:qK:=(rb,aS,aX,bk,CO,aT,cC,wE,Ff,Fh,Fj)
theorem asD [ax]:SC (Yb vO):=sc (kS (k:=vP vQ) (.c agl (.c c7 (.c dN (.c gC (.c aBz (.c eV (.c pk (.c aBC (.nil _))))))))) [5,11,20] [] ⟨kL (aj0 vQ),⟨kL (ajY vQ),⟨kL (ajZ vQ),trivial⟩⟩⟩ trivial (asA vQ))
def agm:=qa (pr (cu aN ac0) cq)
def Mx:=qe az5
abbrev agn:=Mx.B
abbrev ago:=NI->Int->Bool->Option agn
def agp (g:ago):Ct:=(272,FC agm (lf Mx) (λb=>g b.1.1 b.1.2 b.2))
def iM:=qs (st (pr (cu aN (us 1 (c ai (us 1 (cu Rz (us 1 (cu BZ (us 1 aPz)))))))) (pl (c ch LO) cy)))
def Yc:=qs (st (pr (cu aN (us 1 (c ai (us 1 (cu Rz (us 1 (cu BZ (us 1 aPN)))))))) (pl (c ch LO) cy)))
abbrev qL:=Yc.B
def Yd {ρ:Type}:=@ef qL ((.ex 0)) Yc ρ
def Ki (aB:bJ)(d:iM.B):PL iM qL:=let y0:=Int.toNat d.1.2;let y1:=aW d.1.2 24;let y2:=decide (d.1.2<24);ae y2 (ae y1 (opt (aB (d.2.2.1 y0) d.1.1 30 d.2.1) λaj=>ae y1 (ae (true&&Nat.ble (0+y0*1+1) 24) (ret (Sum.inl ((d.1.1,wI (d.1.2+1)),aj.2,λj=>bif Nat.beq j y0 then aj.1 else d.2.2.1 j,d.2.2.2))) no) no) no) (ret (Sum.inr ((d.1.1,d.1.2,y2),d.2)))
def Kj:=bA (Ki aT) 2000
def QI (dI:LT iM qL)(x0:Nat->Int)(x1:Int)(x2:Bool):Pg agn:=opt (dI ((x1,0),x2,x0,λx=>0)) λd=>ret (d.2.2.1,d.2.1)
def AW:=λx0 x1 x2=>(QI Kj x0 x1 x2).val
abbrev G9:=bJ×(LT iM qL)
def QJ (p:G9):KK:=⟨[eG p.1],⟨[⟨2,(1::3::5::7::rg 9 12 []),[]⟩],[fH 2 1 iM Yd p.2],[0],[],(some ⟨0,(rg 0 6 (rg 7 14 [])),[]⟩)⟩,1,272⟩
theorem ap7 (p:G9):LI (QJ p) 2 iM Yd (Ki p.1):=λ_ d c K=>by kernel_rfl
theorem ayW (p:G9):D2 (QJ p) agm (lf Mx) λb=>QI p.2 b.1.1 b.1.2 b.2:=λb=>by kernel_rfl
abbrev QK:G9:=(aT,Kj)
theorem ayX [ax]:SC (agp AW):=sc (kS (k:=QJ QK) (.c eV (.nil _)) [2] [] ⟨kL (ap7 QK),trivial⟩ trivial (ayW QK))
def Kk:=qa (dp (cu aN (c jW (cl aHP nil))) λa=>(c ux (cl (cl (gs a.2.1 aAb) nil) nil)))
def Z1:=qe (res (pr jW (pl LM nil)))
abbrev asE:=Z1.B
abbrev asG:=Kk.B->Option asE
def asH (g:asG):Ct:=(271,sE 2 [.i .i64,.i .i64,.i .i64,.i .i64,.i .i64,.i .i64,.i .i64,.i .i64,.i .i64,.i .i64,.i .i64,.i .i64,.i .i64,.i .i64,.i .i64,.i .i64,.i .i64,.i .i64,.i .i64,.i .i64,.i .i64,.i .i64,.i .i64,.i .i64] (FC Kk (lf Z1) g))
def mm:=qs (st (dp (cu aN (us 3 (cu BZ (us 1 (cu afG (us 1 (cu amR (us 7 (c aHP (c ai (c ai (us 3 aFl)))))))))))) λa=>(pl (c ch (c (so (cl (gs a.1.1 aAb) nil)) aFJ)) cy)))
def aBW:=qs (st (pr (cu aN (us 3 (cu BZ (us 1 (cu afG (us 1 (cu amR (us 7 (c aHP (c ai (c ai (us 3 aFs)))))))))))) (pl (c ch (c aQ8 aFJ)) cy)))
abbrev yb:=(((Nat×Bool)×Int×Int×Int×Bool)×Bool×aUj×NI×NI×NI)
def aj1 {ρ:Type}(x:yb)(K:AX->St->Option ρ):Option ρ:=(λd=>K (.ex 2) (aBW.em (d.1,d.2.1,(d.1.1.1,d.b.1),d.b.2))) x
def U5 (bS:eH)(d:mm.B):PL mm yb:=let n2:=d.2.2.2;let n1:=d.1.2.2;let y0:=Int.toNat n1.2;let y1:=aW n1.2 24;let y2:=decide (n1.2<24);ae y2 (ae y1 (ae y1 (opt (bS 2 d.2.1 (cr (n2.1 y0) [n2.2.2 y0,n2.1 y0]) true) λaj=>ae y1 (ae (true&&Nat.ble (0+y0*1+1) 24) (ret (Sum.inl ((d.1.1,d.1.2.1,n1.1,wI (n1.2+1)),aj.2,d.2.2.1,λj=>bif Nat.beq j y0 then aj.1 else n2.1 j,n2.2))) no) no) no) no) (ret (Sum.inr ((d.1.1,d.1.2.1,n1.1,n1.2,y2),d.2)))
def U6:=bA (U5 cC) 2000
def mn:=qs (st (dp (cu aN (us 3 (cu BZ (us 1 (cu afG (us 9 (c aHP (c ai (cl ai (us 28 nil)))))))))) λa=>(pl (c ch (c (so (cl (gs a.1.1 aAb) nil)) LO)) cy)))
def aBX:=qs (st (pr (cu aN (us 3 (cu BZ (us 1 (cu afG (us 9 (c aHP (c ai (c ai (cl ab aPg)))))))))) (pl (c ch (c aQ8 LO)) cy)))
abbrev yc:=(aHG×Bool×aUj×NI×NI)
def aj2 {ρ:Type}(x:yc)(K:AX->St->Option ρ):Option ρ:=(λd=>K (.ex 0) (aBX.em (d.1,d.2.1,(d.1.1.1,d.b.1),d.b.2))) x
def U7 (ba:dA)(bm:gR)(vn:G7)(tD:J2)(qX:LT mm yb)(d:mn.B):PL mn yc:=let n9:=d.1.1;let n5:=d.1.2;let n4:=d.2.2.1;let n2:=n4.2.2.2;let n6:=n2.2.2.2;let n1:=n6.2.2.2.2;let n8:=n1.2.2.2;let n3:=n8.2.2.2;let n7:=n3.2.2.2;let y0:=Int.toNat n5.2;let y1:=decide (n5.2<n5.1);ae y1 (ae (aW n5.2 n9.1) (ae (Nat.beq n9.1 n9.1) (opt (qX ((n9,n5.1,n5.2,0),d.2.1,n4,d.2.2.2.1,d.2.2.2.2,cr (n4.1 y0) [n7.2.2.2.2 y0,n7.2.2.2.1 y0,n7.2.2.1 y0,n7.2.1 y0,n7.1 y0,n3.2.2.1 y0,n3.2.1 y0,n3.1 y0,n8.2.2.1 y0,n8.2.1 y0,n8.1 y0,n1.2.2.1 y0,n1.2.1 y0,n1.1 y0,n6.2.2.2.1 y0,n6.2.2.1 y0,n6.2.1 y0,n6.1 y0,n2.2.2.1 y0,n2.2.1 y0,n2.1 y0,n4.2.2.1 y0,n4.2.1 y0,n4.1 y0])) λd=>opt (ba d.2.2.2.1) λaj=>opt (bm aj.1 aj.2.1 aj.2.2.1 aj.2.2.2 d.2.1) λaI=>opt (vn d.2.2.2.1 aI.1.1 aI.1.2.1 aI.1.2.2.1 aI.1.2.2.2) λbp=>opt (tD bp aI.2) λcg=>ret (Sum.inl ((d.1.1,d.1.2.1,wI (d.1.2.2.1+1)),cg.2,d.2.2.1,cg.1,d.2.2.2.2.1))) no) no) (ret (Sum.inr ((n9,n5.1,n5.2,y1),d.2)))
def U8:=bA (U7 bV cV qY tC U6) 2000
def aeH (aM:eI)(dI:LT mn yc)(x:Kk.B):Pg asE:=let y0:=Int.ofNat x.1.2.1;ae (y0==0) (opt (aM x.1.1 x.2.1) λd=>ret d) (ae (Nat.beq x.1.2.1 x.1.2.1) (opt (dI ((x.1.2,y0,0),x.2.1,x.2.2,x.1.1,λx=>0)) λd=>ret (d.2.2.2.1,d.2.1)) no)
def Kl:=λx=>(aeH bT U8 x).val
abbrev Km:=eI×eH×dA×gR×G7×J2×(LT mm yb)×(LT mn yc)
def Sy (p:Km):KK:=⟨[ix p.1,m6 p.2.1,iI p.b.1,mh p.b.2.1,Qv p.c.1,UD p.c.2.1],⟨[⟨4,(1::2::3::5::rg 7 9 (rg 19 28 [])),[]⟩,⟨7,(1::2::3::5::7::rg 9 7 (19::20::21::rg 23 24 [])),[]⟩],[fH 7 2 mm aj1 p.c.b.1,fH 4 2 mn aj2 p.c.b.2],[0],[],(some ⟨0,(rg 0 6 (rg 7 40 [])),[]⟩)⟩,2,271⟩
theorem ayY (p:Km):LI (Sy p) 7 mm aj1 (U5 p.2.1):=λ_ d c K=>by kernel_rfl
theorem ayZ (p:Km):LI (Sy p) 4 mn aj2 (U7 p.b.1 p.b.2.1 p.c.1 p.c.2.1 p.c.b.1):=λ_ d c K=>by kernel_rfl
theorem aGK (p:Km):D2 (Sy p) Kk (lf Z1) λb=>aeH p.1 p.c.b.2 b:=λb=>by kernel_rfl
abbrev SA:Km:=(bT,cC,bV,cV,qY,tC,U6,U8)
theorem aGL [ax]:SC (asH Kl):=sc (Sound.nil 2 [.i .i64,.i .i64,.i .i64,.i .i64,.i .i64,.i .i64,.i .i64,.i .i64,.i .i64,.i .i64,.i .i64,.i .i64,.i .i64,.i .i64,.i .i64,.i .i64,.i .i64,.i .i64,.i .i64,.i .i64,.i .i64,.i .i64,.i .i64,.i .i64]<|kS (k:=Sy SA) (.c ji (.c pk (.c jA (.c nu (.c agf (.c ajG (.nil _))))))) [4,7] [] ⟨kL (ayZ SA),⟨kL (ayY SA),trivial⟩⟩ trivial (aGK SA))
def axn:=qa (pr (cu aN (c jW (c xF aQk))) cq)
def aeI:=qe (res (pr (o9 (c acW (c ahW (cl (ra aFr) nil)))) (pl k9 nil)))
abbrev axo:=aeI.B
abbrev aj3:=NI->NI->NI->NI->Int->Int->Int->Bool->Option axo
def axp (g:aj3):Ct:=(264,FC axn (lf aeI) (λb=>g b.1.1 b.1.2.1.1 b.1.2.1.2 b.1.b.1 b.1.b.2.1 b.1.c.1 b.1.c.2 b.2))
def aj4 (aM:eI)(eY:oL)(aw:bC)(ur:Ln)(Kn:ajW)(Cb:Ya)(G':ago)(SB:asG)(x0:Nat->Int)(x1:Nat->Int)(x2:Nat->Int)(x3:Nat->Int)(x4:Int)(x5:Int)(x6:Int)(x7:Bool):Pg axo:=opt (aM x0 x7) λd=>opt (eY x1 x2 d.2) λaj=>opt (aw x4 aj.2) λaI=>opt (ur aj.1.1 aj.1.2 x3 x5 aI.2) λbp=>opt (Kn aI.1 bp.1 x6) λcg=>ae (!cg) (ret ((d.1,aj.1,false,aI.1,bp.1),bp.2)) (opt (Cb aj.1.1 aj.1.2 x3 x5 bp.2) λdF=>opt (G' dF.1.2.1 aI.1 dF.2) λcH=>opt (SB ((d.1,1,true),cH.2,λj=>bif Nat.beq j 0 then cH.1 0 else cH.1 0,λj=>bif Nat.beq j 0 then cH.1 1 else cH.1 1,λj=>bif Nat.beq j 0 then cH.1 2 else cH.1 2,λj=>bif Nat.beq j 0 then cH.1 3 else cH.1 3,λj=>bif Nat.beq j 0 then cH.1 4 else cH.1 4,λj=>bif Nat.beq j 0 then cH.1 5 else cH.1 5,λj=>bif Nat.beq j 0 then cH.1 6 else cH.1 6,λj=>bif Nat.beq j 0 then cH.1 7 else cH.1 7,λj=>bif Nat.beq j 0 then cH.1 8 else cH.1 8,λj=>bif Nat.beq j 0 then cH.1 9 else cH.1 9,λj=>bif Nat.beq j 0 then cH.1 10 else cH.1 10,λj=>bif Nat.beq j 0 then cH.1 11 else cH.1 11,λj=>bif Nat.beq j 0 then cH.1 12 else cH.1 12,λj=>bif Nat.beq j 0 then cH.1 13 else cH.1 13,λj=>bif Nat.beq j 0 then cH.1 14 else cH.1 14,λj=>bif Nat.beq j 0 then cH.1 15 else cH.1 15,λj=>bif Nat.beq j 0 then cH.1 16 else cH.1 16,λj=>bif Nat.beq j 0 then cH.1 17 else cH.1 17,λj=>bif Nat.beq j 0 then cH.1 18 else cH.1 18,λj=>bif Nat.beq j 0 then cH.1 19 else cH.1 19,λj=>bif Nat.beq j 0 then cH.1 20 else cH.1 20,λj=>bif Nat.beq j 0 then cH.1 21 else cH.1 21,λj=>bif Nat.beq j 0 then cH.1 22 else cH.1 22,λj=>bif Nat.beq j 0 then cH.1 23 else cH.1 23)) λd=>ret ((d.1,dF.1.1,true,aI.1,bp.1),d.2))
def OJ:=λx0 x1 x2 x3 x4 x5 x6 x7=>(aj4 bT eX aO oy CY vO AW Kl x0 x1 x2 x3 x4 x5 x6 x7).val
theorem aJm:∀aM eY aw ur Kn Cb G' SB,D0 [ix aM,xS eY,cU aw,Lo ur,ajX Kn,Yb Cb,agp G',asH SB] 264 axn (lf aeI) λb=>aj4 aM eY aw ur Kn Cb G' SB b.1.1 b.1.2.1.1 b.1.2.1.2 b.1.b.1 b.1.b.2.1 b.1.c.1 b.1.c.2 b.2:=λ_ _ _ _ _ _ _ _ b=>by kernel_rfl
theorem aJn [ax]:SC (axp OJ):=s0 (.c ji (.c D9 (.c cY (.c ahy (.c aBV (.c asD (.c ayX (.c aGL (.nil _))))))))) (aJm bT eX aO oy CY vO AW Kl)
end Go.Proofs.YtldgljclcgaibaaGreat
namespace Go.Ab
theorem Em (n:Int):IntKind.wrap .i64 n=if 9223372036854775808<=n%18446744073709551616 then n%18446744073709551616-18446744073709551616 else n%18446744073709551616:=by
 unfold IntKind.wrap
 simp only[IntKind.signed,IntKind.bits,Bool.true_and,decide_eq_true_eq,show(2:Int)^64=18446744073709551616 from rfl,show(2:Int)^(64-1)=9223372036854775808 from rfl,ge_iff_le]
theorem oP (a b:Int)(h:0<=b):Int.fdiv a b=a/b:=Int.fdiv_eq_ediv_of_nonneg a h
theorem SD (x:Int)(h0:0<=x)(h1:x<18446744073709551616):(BitVec.ofInt 64 x).toNat=x.toNat:=by
 rw[BitVec.toNat_ofInt]
 congr 1
 simp only[Nat.reducePow,Int.cast_ofNat_Int]
 omega
theorem abB (x:Int)(h0:0<=x)(h1:x<18446744073709551616):Int.ofNat (BitVec.toNat (BitVec.ofInt 64 18446744073709551615^^^BitVec.ofInt 64 x))=18446744073709551615-x:=by
 have e:BitVec.ofInt 64 18446744073709551615=BitVec.allOnes 64:=by decide
 rw[e,BitVec.allOnes_xor,BitVec.toNat_not,SD x h0 h1]
 simp only[Int.ofNat_eq_natCast]
 omega
theorem al2 (x:Int)(h0:0<=x)(h1:x<18446744073709551616):Int.ofNat (BitVec.toNat (BitVec.ofInt 64 x&&&BitVec.ofInt 64 4294967295))=x%4294967296:=by
 rw[BitVec.toNat_and,SD x h0 h1]
 have e:(BitVec.ofInt 64 4294967295).toNat=2^32-1:=by decide
 rw[e,Nat.and_two_pow_sub_one_eq_mod]
 simp only[Int.ofNat_eq_natCast]
 omega
theorem avd (x y:Int)(k:Nat)(h0:0<=x)(h1:x<2^k)(h2:0<=y)(h3:y<18446744073709551616)(h4:x<18446744073709551616)(h5:y%2^k=0):
  Int.ofNat (BitVec.toNat (BitVec.ofInt 64 x|||BitVec.ofInt 64 y))=x+y:=by
 rw[BitVec.toNat_or,SD x h0 h4,SD y h2 h3]
 obtain⟨q,hq⟩:∃q:Nat,y.toNat=2^k*q:=by
  refine⟨y.toNat/2^k,?_⟩
  have:y.toNat%2^k=0:=by
   have e:((y.toNat%2^k:Nat):Int)=y%2^k:=by
    rw[Int.natCast_emod,Int.toNat_of_nonneg h2]
    simp
   omega
  exact(Nat.mul_div_cancel' (Nat.dvd_of_mod_eq_zero this)).symm
 have hx:x.toNat<2^k:=by
  have e:((2^k:Nat):Int)=(2:Int)^k:=by simp
  omega
 rw[hq,Nat.or_comm,<-Nat.two_pow_add_eq_or_of_lt hx,<-hq]
 simp only[Int.ofNat_eq_natCast]
 omega
end Go.Ab
namespace Go.Proofs.YtldgljclcgaibaaGreat
open Go.Ab
abbrev okW (h l:Int):Prop:= -9223372036854775808<=h∧h<=9223372036854775807∧0<=l∧l<18446744073709551616
abbrev vW (h l:Int):Int:=h*18446744073709551616+l
theorem aSr (x:Int)(h0: -9223372036854775808<=x)(h1:x<=9223372036854775807):∃h l,TU x=some (h,l)∧okW h l∧vW h l=x:=by
 unfold vW
 simp only[TU,apP,Pg.bO,Pg.bI,Pg.bZ,Pg.eB,Pg.dB]
 try delta wI wU
 refine⟨_,_,rfl,?_,?_⟩<;>rw[wrap_u64,oP _ _ (by omega)]<;>omega
theorem My (x y c:Int)(x0:0<=x)(y0:0<=y)(c0:0<=c)(c1:c<=1):AH x y c=some ((x+y+c)%18446744073709551616,(x+y+c)/18446744073709551616):=by
 unfold AH
 have h:Nat.ble c.toNat 1=true:=Nat.ble_eq_true_of_le (by omega)
 rw[h,cond_true]
 congr 1
 unfold aR5 aR6
 simp only[Int.ofNat_eq_natCast,Prod.mk.injEq]
 constructor<;>omega
theorem ave (h1 l1 h2 l2:Int)(o1:okW h1 l1)(o2:okW h2 l2):∃h l b,Iz h1 l1 h2 l2=some ((h,l),b)∧okW h l∧(b=true↔ -170141183460469231731687303715884105728<=vW h1 l1+vW h2 l2∧vW h1 l1+vW h2 l2<170141183460469231731687303715884105728)∧(b=true->vW h l=vW h1 l1+vW h2 l2):=by
 obtain⟨a1,a2,a3,a4⟩:=o1
 obtain⟨b1,b2,b3,b4⟩:=o2
 unfold vW
 simp only[Iz,aiP,Pg.bO,Pg.bI,Pg.bZ,Pg.eB,Pg.dB]
 try delta wI wU
 rw[My l1 l2 0 a3 b3 (by omega) (by omega)]
 simp only[Option.bind_some,wrap_u64]
 rw[My _ _ _ (by omega) (by omega) (by omega) (by omega)]
 simp only[Option.bind_some]
 generalize hc:(l1+l2+0)/18446744073709551616=c
 generalize hl:(l1+l2+0)%18446744073709551616=l
 generalize hm:(h1%18446744073709551616+h2%18446744073709551616+c)%18446744073709551616=m
 have hw:=Em m
 generalize IntKind.wrap IntKind.i64 m=w at*
 have hw1:w=m∨w=m-18446744073709551616:=by split at hw<;>omega
 have hw2: -9223372036854775808<=w∧w<=9223372036854775807:=by split at hw<;>omega
 by_cases n1:h1<0
 ·by_cases n2:h2<0
  ·have e:(!decide (h1<0)==decide (h2<0))=false:=by simp[n1,n2]
   simp only[e,cond_false]
   refine⟨w,l,_,rfl,⟨hw2.1,hw2.2,by omega,by omega⟩,?_,?_⟩
   ·simp only[n1,decide_true,beq_true,decide_eq_true_eq]
    constructor<;>intro h<;>omega
   ·simp only[n1,decide_true,beq_true,decide_eq_true_eq]
    intro h;omega
  ·have e:(!decide (h1<0)==decide (h2<0))=true:=by simp[n1,n2]
   simp only[e,cond_true]
   refine⟨w,l,_,rfl,⟨hw2.1,hw2.2,by omega,by omega⟩,?_,?_⟩
   ·simp only[true_iff];constructor<;>omega
   ·intro h;omega
 ·by_cases n2:h2<0
  ·have e:(!decide (h1<0)==decide (h2<0))=true:=by simp[n1,n2]
   simp only[e,cond_true]
   refine⟨w,l,_,rfl,⟨hw2.1,hw2.2,by omega,by omega⟩,?_,?_⟩
   ·simp only[true_iff];constructor<;>omega
   ·intro h;omega
  ·have e:(!decide (h1<0)==decide (h2<0))=false:=by simp[n1,n2]
   simp only[e,cond_false]
   refine⟨w,l,_,rfl,⟨hw2.1,hw2.2,by omega,by omega⟩,?_,?_⟩
   ·simp only[n1,decide_false,_root_.beq_false,Bool.not_eq_true',decide_eq_false_iff_not]
    constructor<;>intro h<;>omega
   ·simp only[n1,decide_false,_root_.beq_false,Bool.not_eq_true',decide_eq_false_iff_not]
    intro h;omega
theorem aEV (h l:Int)(o:okW h l):∃ah al,CN h l=some ((ah,al),decide (h<0))∧0<=ah∧ah<=9223372036854775808∧0<=al∧al<18446744073709551616∧ah*18446744073709551616+al=(if h<0 then -vW h l else vW h l):=by
 obtain⟨a1,a2,a3,a4⟩:=o
 unfold vW
 simp only[CN,aiB,Pg.bO,Pg.bI,Pg.bZ,Pg.eB,Pg.dB]
 try delta wI wU
 by_cases n:h<0
 ·have e:decide (h>=0)=false:=decide_eq_false (by omega)
  simp only[e,cond_false,abB l a3 a4,wrap_u64]
  rw[abB (h%18446744073709551616) (by omega) (by omega),My _ _ _ (by omega) (by omega) (by omega) (by omega)]
  simp only[Option.bind_some,n,decide_true,if_true]
  refine⟨_,_,rfl,?_,?_,?_,?_,?_⟩<;>omega
 ·have e:decide (h>=0)=true:=decide_eq_true (by omega)
  simp only[e,cond_true,wrap_u64,n,decide_false,if_false]
  refine⟨_,_,rfl,?_,?_,?_,?_,?_⟩<;>omega
theorem aEW (h1 l1 h2 l2:Int)(a0:0<=h1)(b0:0<=l1)(c0:0<=h2)(d0:0<=l2)(b1:l1<18446744073709551616)(d1:l2<18446744073709551616):
  ib h1 l1 h2 l2=some ((h1+h2+(l1+l2)/18446744073709551616)%18446744073709551616,(l1+l2)%18446744073709551616):=by
 simp only[ib,L4,Pg.bO,Pg.bI,Pg.bZ,Pg.eB,Pg.dB]
 try delta wI wU
 rw[My _ _ _ b0 d0 (by omega) (by omega)]
 simp only[Option.bind_some,Int.add_zero]
 rw[My _ _ _ a0 c0 (by omega) (by omega)]
 rfl
theorem aSs (n:Nat)(hn:n<126):fQ 0 1 (Int.ofNat n)=some (2^n/18446744073709551616,2^n%18446744073709551616):=by
 have key:∀n:Fin 126,fQ 0 1 (Int.ofNat n.val)=some ((2:Int)^n.val/18446744073709551616,(2:Int)^n.val%18446744073709551616):=by decide+kernel
 exact key ⟨n,hn⟩
theorem kO (n:Nat):(0:Int)<2^n:=Int.pow_pos (by decide)
theorem asJ (h l:Int)(s:Nat)(hs:s<=126)(h0:0<=h)(h1:h<18446744073709551616)(l0:0<=l)(l1:l<18446744073709551616):
  ∃h' l',hI h l (Int.ofNat s)=some (h',l')∧0<=h'∧0<=l'∧l'<18446744073709551616∧h'*18446744073709551616+l'=(h*18446744073709551616+l)/2^s:=by
 simp only[hI,GO,Pg.bO,Pg.bI,Pg.bZ,Pg.eB,Pg.dB]
 try delta wI wU
 by_cases c:64<=s
 ·have e:decide (Int.ofNat s>=64)=true:=by simp only[Int.ofNat_eq_natCast];exact decide_eq_true (by omega)
  have e2:IntKind.wrap .i64 (Int.ofNat s-64)=Int.ofNat (s-64):=(wrap_i64 (by simp only[Int.ofNat_eq_natCast];omega) (by simp only[Int.ofNat_eq_natCast];omega)).trans (by simp only[Int.ofNat_eq_natCast];omega)
  have e3:(!decide (Int.ofNat (s-64)<0))=true:=by simp
  have e4:min (Int.toNat (Int.ofNat (s-64))) 64=s-64:=by
   show min (s-64) 64=s-64
   omega
  simp only[e,e2,e3,e4,cond_true]
  rw[oP _ _ (Int.le_of_lt (kO _))]
  refine⟨_,_,rfl,by omega,Int.ediv_nonneg h0 (Int.le_of_lt (kO _)),Int.lt_of_le_of_lt (Int.ediv_le_self _ h0) h1,?_⟩
  have p:(2:Int)^s=18446744073709551616*2^(s-64):=by
   rw[show(18446744073709551616:Int)=2^64 from rfl,<-Int.pow_add]
   congr 1;omega
  rw[p,<-Int.ediv_ediv_of_nonneg (by decide)]
  have:(h*18446744073709551616+l)/18446744073709551616=h:=by omega
  rw[this];omega
 ·have e:decide (Int.ofNat s>=64)=false:=by simp only[Int.ofNat_eq_natCast];exact decide_eq_false (by omega)
  have e2:IntKind.wrap .i64 (64-Int.ofNat s)=Int.ofNat (64-s):=(wrap_i64 (by simp only[Int.ofNat_eq_natCast];omega) (by simp only[Int.ofNat_eq_natCast];omega)).trans (by simp only[Int.ofNat_eq_natCast];omega)
  have e3:∀n,(!decide (Int.ofNat n<0))=true:=by simp
  have e4:min (Int.toNat (Int.ofNat (64-s))) 64=64-s:=by
   show min (64-s) 64=64-s
   omega
  have e5:min (Int.toNat (Int.ofNat s)) 64=s:=by
   show min s 64=s
   omega
  simp only[e,e2,e3,e4,e5,cond_true,cond_false,wrap_u64]
  rw[oP _ _ (Int.le_of_lt (kO _)),oP _ _ (Int.le_of_lt (kO _))]
  have pq:(18446744073709551616:Int)=2^s*2^(64-s):=by
   rw[<-Int.pow_add,show s+(64-s)=64 by omega];rfl
  generalize hP:(2:Int)^s=P at*
  generalize hQ:(2:Int)^(64-s)=Q at*
  have P0:0<P:=by rw[<-hP];exact kO s
  have Q0:0<Q:=by rw[<-hQ];exact kO (64-s)
  have m:h*Q%18446744073709551616=h%P*Q:=by
   rw[pq,Int.mul_comm h Q,Int.mul_comm P Q,Int.mul_emod_mul_of_pos _ _ Q0,Int.mul_comm]
  have x0:0<=l/P:=Int.ediv_nonneg l0 (Int.le_of_lt P0)
  have x1:l/P<Q:=Int.ediv_lt_of_lt_mul P0 (by rw[Int.mul_comm,<-pq];exact l1)
  have y0:0<=h%P:=Int.emod_nonneg _ (by omega)
  have y1:h%P<P:=Int.emod_lt_of_pos _ P0
  have y2:h%P*Q+Q<=18446744073709551616:=by
   have:(h%P+1)*Q<=P*Q:=Int.mul_le_mul_of_nonneg_right (by omega) (Int.le_of_lt Q0)
   rw[Int.add_mul,<-pq] at this;omega
  have y3:0<=h%P*Q:=Int.mul_nonneg y0 (Int.le_of_lt Q0)
  have key:Int.ofNat (BitVec.toNat (BitVec.ofInt 64 (l/P)|||BitVec.ofInt 64 (h*Q%18446744073709551616)))=l/P+h%P*Q:=by
   rw[m]
   exact avd _ _ (64-s) x0 (by rw[hQ];exact x1) y3 (by omega) (by omega) (by rw[hQ];exact Int.mul_emod_left _ _)
  rw[key]
  have z:(l/P+h%P*Q)%18446744073709551616=l/P+h%P*Q:=Int.emod_eq_of_lt (by omega) (by omega)
  rw[z]
  refine⟨_,_,rfl,Int.ediv_nonneg h0 (Int.le_of_lt P0),by omega,by omega,?_⟩
  have f1:(h*18446744073709551616+l)/P=h*Q+l/P:=by
   rw[pq,show h*(P*Q)+l=l+h*Q*P by rw[Int.mul_comm P Q,<-Int.mul_assoc,Int.add_comm],Int.add_mul_ediv_right _ _ (by omega)]
   omega
  have f2:h/P*18446744073709551616=h/P*P*Q:=by rw[pq,Int.mul_assoc]
  have f3:h/P*P+h%P=h:=Int.ediv_mul_add_emod h P
  rw[f1,f2]
  have f4:(h/P*P+h%P)*Q=h*Q:=by rw[f3]
  rw[Int.add_mul] at f4
  omega
theorem Ko (h l:Int)(neg:Bool)(h0:0<=h)(l0:0<=l)(l1:l<18446744073709551616):
  ig h l neg=if h*18446744073709551616+l<=(if neg=true then 9223372036854775808 else 9223372036854775807) then some (if neg=true then -l else l,true) else some (0,false):=by
 simp only[ig,L7,Pg.bO,Pg.bI,Pg.bZ,Pg.eB,Pg.dB]
 try delta wI wU
 by_cases c:h=0
 ·subst c
  have e:((0:Int)!=0)=false:=rfl
  simp only[e,cond_false,Int.zero_mul,Int.zero_add]
  cases neg
  ·by_cases d:l>9223372036854775807
   ·have d2:¬l<=9223372036854775807:=by omega
    simp[d,d2]
   ·have d2:l<=9223372036854775807:=by omega
    simp only[Bool.not_false,cond_true,d,decide_false,cond_false,Bool.false_eq_true,if_false,d2,if_true]
    rw[wrap_i64 (by omega) d2]
  ·by_cases d:l>9223372036854775808
   ·have d2:¬l<=9223372036854775808:=by omega
    simp[d,d2]
   ·have d2:l<=9223372036854775808:=by omega
    have e3:IntKind.wrap .i64 (IntKind.wrap .u64 (0-l))= -l:=by
     rw[wrap_u64,Em];split<;>omega
    have e4:IntKind.wrap .i64 (IntKind.wrap .u64 (-l))= -l:=by
     rw[wrap_u64,Em];split<;>omega
    simp[d,d2,e3,e4]
 ·have e:(h !=0)=true:=by simp[c]
  have d2:¬h*18446744073709551616+l<=(if neg=true then 9223372036854775808 else 9223372036854775807):=by split<;>omega
  simp only[e,cond_true,d2,if_false]
def half (s:Nat):Int:=if s=0 then 0 else 2^(s-1)
def Kp (v:Int)(s:Nat):Int:=if v<0 then -((-v+half s)/2^s) else(v+half s)/2^s
theorem aJo (s:Nat)(hs:s<=126):0<=half s∧half s<=42535295865117307932921825928971026432:=by
 unfold half
 split
 ·omega
 ·refine⟨Int.le_of_lt (kO _),?_⟩
  have:(2:Int)^(s-1)<=2^125:=by
   have h2:(2:Nat)^(s-1)<=2^125:=Nat.pow_le_pow_right (by decide) (by omega)
   have h3:((2^(s-1):Nat):Int)<=((2^125:Nat):Int):=by exact_mod_cast h2
   simpa using h3
  exact this
theorem wide_round (h l:Int)(s:Nat)(hs:s<=126)(o:okW h l):
  ph h l (Int.ofNat s)=if -9223372036854775808<=Kp (vW h l) s∧Kp (vW h l) s<=9223372036854775807 then some (Kp (vW h l) s,true) else some (0,false):=by
 simp only[ph,Y',Pg.bO,Pg.bI,Pg.bZ,Pg.eB,Pg.dB]
 try delta wI wU
 obtain⟨ah,al,e1,a0,a1,a2,a3,a4⟩:=aEV h l o
 have n0:decide (Int.ofNat s<0)=false:=by simp
 have n1:decide (Int.ofNat s>126)=false:=by simp only[Int.ofNat_eq_natCast];exact decide_eq_false (by omega)
 simp only[n0,n1,cond_false,e1,Option.bind_some]
 obtain⟨hh0,hh1⟩:=aJo s hs
 have fin:∀h' l':Int,0<=h'->0<=l'->l'<18446744073709551616->h'*18446744073709551616+l'=((if h<0 then -vW h l else vW h l)+half s)/2^s->
   (ig h' l' (decide (h<0))).bind (λd=>some (d.fst,d.snd))=if -9223372036854775808<=Kp (vW h l) s∧Kp (vW h l) s<=9223372036854775807 then some (Kp (vW h l) s,true) else some (0,false):=by
  intro h' l' b0 b1 b2 b3
  rw[Ko h' l' _ b0 b1 b2]
  obtain⟨o1,o2,o3,o4⟩:=o
  by_cases n:h<0
  ·have nv:vW h l<0:=by show h*18446744073709551616+l<0;omega
   simp only[n,decide_true,if_true] at b3 ⊢
   unfold Kp
   simp only[nv,if_true]
   rw[<-b3]
   by_cases c:h'*18446744073709551616+l'<=9223372036854775808
   ·rw[if_pos c,if_pos (by omega)]
    simp only[Option.bind_some,Option.some.injEq,Prod.mk.injEq,and_true];omega
   ·rw[if_neg c,if_neg (by omega)];rfl
  ·have nv:¬vW h l<0:=by show ¬h*18446744073709551616+l<0;omega
   simp only[n,decide_false,if_false,Bool.false_eq_true] at b3 ⊢
   unfold Kp
   simp only[nv,if_false]
   rw[<-b3]
   by_cases c:h'*18446744073709551616+l'<=9223372036854775807
   ·rw[if_pos c,if_pos (by omega)]
    simp only[Option.bind_some,Option.some.injEq,Prod.mk.injEq,and_true];omega
   ·rw[if_neg c,if_neg (by omega)];rfl
 by_cases z:s=0
 ·subst z
  have n2:decide (Int.ofNat 0>0)=false:=by decide
  simp only[n2,cond_false]
  obtain⟨h',l',e2,b0,b1,b2,b3⟩:=asJ ah al 0 (by omega) a0 (by omega) a2 a3
  rw[e2]
  simp only[Option.bind_some]
  exact fin h' l' b0 b1 b2 (by rw[b3,a4];simp[half])
 ·have n2:decide (Int.ofNat s>0)=true:=by simp only[Int.ofNat_eq_natCast];exact decide_eq_true (by omega)
  simp only[n2,cond_true]
  have n3:IntKind.wrap .i64 (Int.ofNat s-1)=Int.ofNat (s-1):=(wrap_i64 (by simp only[Int.ofNat_eq_natCast];omega) (by simp only[Int.ofNat_eq_natCast];omega)).trans (by simp only[Int.ofNat_eq_natCast];omega)
  have hf:half s=2^(s-1):=by unfold half;rw[if_neg z]
  rw[n3,aSs (s-1) (by omega),<-hf]
  simp only[Option.bind_some]
  rw[aEW _ _ _ _ a0 a2 (by omega) (by omega) a3 (by omega)]
  simp only[Option.bind_some]
  obtain⟨h',l',e2,b0,b1,b2,b3⟩:=asJ ((ah+half s/18446744073709551616+(al+half s%18446744073709551616)/18446744073709551616)%18446744073709551616) ((al+half s%18446744073709551616)%18446744073709551616) s hs (by omega) (by omega) (by omega) (by omega)
  rw[e2]
  simp only[Option.bind_some]
  refine fin h' l' b0 b1 b2 ?_
  rw[b3,<-a4]
  congr 1
  omega
def sat (x:Int):Int:=if x< -1152921504606846976 then -1152921504606846976 else if 1152921504606846976<x then 1152921504606846976 else x
def eS (x:Int):Bool:=decide (x< -1152921504606846976)||decide (1152921504606846976<x)
theorem oi (x:Int): -1152921504606846976<=sat x∧sat x<=1152921504606846976:=by
 unfold sat;split<;>(try split)<;>omega
theorem oz (x:Int)(eM:Bool):aO x eM=some (sat x,eM||eS x):=by
 simp only[aO,Y6,aX,vf,Pg.bO,Pg.bI,Pg.bZ,Pg.eB,Pg.dB]
 try delta wI wU
 unfold sat eS
 have e:decide ((-1152921504606846976:Int)>1152921504606846976)=false:=by decide
 by_cases c:x< -1152921504606846976
 ·simp[e,c]
 ·by_cases d:1152921504606846976<x
  ·have d2:x>1152921504606846976:=d
   simp[e,c,d]
  ·simp[e,c,d]
theorem abC (a:Int)(ok neg eM:Bool):lK a ok neg eM=if ok=true then some (sat a,eM||eS a) else some (if neg=true then -1152921504606846976 else 1152921504606846976,true):=by
 simp only[lK,F4,oK,TI,Pg.bO,Pg.bI,Pg.bZ,Pg.eB,Pg.dB]
 try delta wI wU
 cases ok
 ·cases neg<;>rfl
 ·simp only[Bool.not_true,cond_false,oz,Option.bind_some,if_true]
theorem aeJ (h l:Int)(s:Nat)(eM:Bool)(hs:s<=120)(o:okW h l):mc h l (Int.ofNat s) eM=some (sat (Kp (vW h l) s),eM||eS (Kp (vW h l) s)):=by
 simp only[mc,Qa,Pg.bO,Pg.bI,Pg.bZ,Pg.eB,Pg.dB]
 try delta wI wU
 have n0:decide (Int.ofNat s<0)=false:=by simp
 have n1:decide (Int.ofNat s>120)=false:=by simp only[Int.ofNat_eq_natCast];exact decide_eq_false (by omega)
 simp only[n0,n1,cond_false,wide_round h l s (by omega) o]
 by_cases c: -9223372036854775808<=Kp (vW h l) s∧Kp (vW h l) s<=9223372036854775807
 ·simp only[c,and_self,if_true,Option.bind_some,abC]
 ·rw[if_neg c]
  simp only[Option.bind_some,abC,Bool.false_eq_true,if_false]
  have sg:(h<0->Kp (vW h l) s<=0)∧(¬h<0->0<=Kp (vW h l) s):=by
   obtain⟨o1,o2,o3,o4⟩:=o
   obtain⟨hh0,hh1⟩:=aJo s (by omega)
   have p:=kO s
   unfold Kp
   refine⟨λn=> ?_,λn=> ?_⟩
   ·have nv:vW h l<0:=by show h*18446744073709551616+l<0;omega
    rw[if_pos nv]
    have:0<=(-vW h l+half s)/2^s:=Int.ediv_nonneg (by omega) (Int.le_of_lt p)
    omega
   ·have nv:¬vW h l<0:=by show ¬h*18446744073709551616+l<0;omega
    rw[if_neg nv]
    exact Int.ediv_nonneg (by omega) (Int.le_of_lt p)
  unfold sat eS
  by_cases n:h<0
  ·have:=sg.1 n
   have c1:Kp (vW h l) s< -1152921504606846976:=by omega
   simp[n,c1]
  ·have:=sg.2 n
   have c1:¬Kp (vW h l) s< -1152921504606846976:=by omega
   have c2:1152921504606846976<Kp (vW h l) s:=by omega
   simp[n,c1,c2]
end Go.Proofs.YtldgljclcgaibaaGreat
namespace Go.Proofs.YtldgljclcgaibaaGreat
open Go.Ab
theorem al3 (x:Int)(h0: -9223372036854775808<=x)(h1:x<=9223372036854775807):pg x=some (if x<0 then -x else x):=by
 simp only[pg,Y7,Pg.bO,Pg.bI,Pg.bZ,Pg.eB,Pg.dB]
 try delta wI wU
 by_cases c:x<0
 ·simp only[c,decide_true,cond_true,if_true,wrap_u64];exact congrArg (some:Int->Option Int) (by omega)
 ·simp only[c,decide_false,cond_false,if_false,wrap_u64];exact congrArg (some:Int->Option Int) (by omega)
theorem al4 {a b:Int}(a0:0<=a)(a1:a<=4294967295)(b0:0<=b)(b1:b<=4294967295):0<=a*b∧a*b<=18446744065119617025:=by
 refine⟨Int.mul_nonneg a0 b0,?_⟩
 have:=Int.mul_le_mul a1 b1 b0 (by omega)
 omega
theorem aOg (x y:Int)(x0:0<=x)(x1:x<18446744073709551616)(y0:0<=y)(y1:y<18446744073709551616):F2 x y=some (x*y/18446744073709551616,x*y%18446744073709551616):=by
 simp only[F2,Y9,Pg.bO,Pg.bI,Pg.bZ,Pg.eB,Pg.dB]
 try delta wI wU
 rw[al2 x x0 x1,al2 y y0 y1]
 simp only[oP _ 4294967296 (by decide),wrap_u64]
 have xe:x=x/4294967296*4294967296+x%4294967296:=by omega
 have ye:y=y/4294967296*4294967296+y%4294967296:=by omega
 have xh:0<=x/4294967296∧x/4294967296<=4294967295:=by omega
 have yh:0<=y/4294967296∧y/4294967296<=4294967295:=by omega
 have xl:0<=x%4294967296∧x%4294967296<=4294967295:=by omega
 have yl:0<=y%4294967296∧y%4294967296<=4294967295:=by omega
 have hxy:x*y=(x/4294967296)*(y/4294967296)*18446744073709551616+((x/4294967296)*(y%4294967296)+(x%4294967296)*(y/4294967296))*4294967296+(x%4294967296)*(y%4294967296):=by
  conv=>lhs;rw[xe,ye]
  generalize x/4294967296=a
  generalize x%4294967296=b
  generalize y/4294967296=c
  generalize y%4294967296=d
  rw[Int.add_mul,Int.mul_add,Int.mul_add,Int.add_mul]
  rw[show a*4294967296*(c*4294967296)=a*c*18446744073709551616 by rw[Int.mul_assoc,Int.mul_left_comm 4294967296 c,<-Int.mul_assoc,show(4294967296:Int)*4294967296=18446744073709551616 from rfl]]
  rw[show a*4294967296*d=a*d*4294967296 by rw[Int.mul_assoc,Int.mul_comm 4294967296 d,<-Int.mul_assoc],show b*(c*4294967296)=b*c*4294967296 by rw[Int.mul_assoc]]
  omega
 obtain⟨A0,A1⟩:=al4 xh.1 xh.2 yh.1 yh.2
 obtain⟨B0,B1⟩:=al4 xh.1 xh.2 yl.1 yl.2
 obtain⟨C0,C1⟩:=al4 xl.1 xl.2 yh.1 yh.2
 obtain⟨D0,D1⟩:=al4 xl.1 xl.2 yl.1 yl.2
 simp only[Int.emod_eq_of_lt xl.1 (show x%4294967296<18446744073709551616 by omega),Int.emod_eq_of_lt yl.1 (show y%4294967296<18446744073709551616 by omega)]
 rw[hxy]
 generalize x/4294967296*(y/4294967296)=A at*
 generalize x/4294967296*(y%4294967296)=B at*
 generalize x%4294967296*(y/4294967296)=C at*
 generalize x%4294967296*(y%4294967296)=D at*
 have r1:A%18446744073709551616=A:=Int.emod_eq_of_lt A0 (by omega)
 have r2:B%18446744073709551616=B:=Int.emod_eq_of_lt B0 (by omega)
 have r3:C%18446744073709551616=C:=Int.emod_eq_of_lt C0 (by omega)
 have r4:D%18446744073709551616=D:=Int.emod_eq_of_lt D0 (by omega)
 simp only[r1,r2,r3,r4]
 have r5:(B+D/4294967296)%18446744073709551616=B+D/4294967296:=Int.emod_eq_of_lt (by omega) (by omega)
 simp only[r5]
 rw[al2 (B+D/4294967296) (by omega) (by omega)]
 have r6:(B+D/4294967296)%4294967296%18446744073709551616=(B+D/4294967296)%4294967296:=Int.emod_eq_of_lt (by omega) (by omega)
 simp only[r6]
 have r7:((B+D/4294967296)%4294967296+C)%18446744073709551616=(B+D/4294967296)%4294967296+C:=Int.emod_eq_of_lt (by omega) (by omega)
 simp only[r7]
 refine congrArg some (Prod.ext ?_ rfl)
 simp only
 omega
theorem aGM (h l:Int)(neg:Bool)(h0:0<=h)(h1:h<9223372036854775808)(l0:0<=l)(l1:l<18446744073709551616):
  ∃h' l' b,lJ h l neg=some ((h',l'),b)∧okW h' l'∧vW h' l'=if neg=true then -(h*18446744073709551616+l) else h*18446744073709551616+l:=by
 simp only[lJ,Jt,Pg.bO,Pg.bI,Pg.bZ,Pg.eB,Pg.dB]
 try delta wI wU
 cases neg
 ·refine⟨_,_,_,rfl,?_,?_⟩
  ·rw[wrap_i64 (by omega) (by omega)];omega
  ·rw[wrap_i64 (by omega) (by omega)];rfl
 ·simp only[Bool.not_true,cond_false,abB l l0 l1,wrap_u64,abB h h0 (by omega)]
  rw[My _ _ _ (by omega) (by omega) (by omega) (by omega)]
  simp only[Option.bind_some]
  generalize hm:(18446744073709551615-h)%18446744073709551616+((18446744073709551615-l)%18446744073709551616+1+0)/18446744073709551616=m
  have hw:=Em (m%18446744073709551616)
  generalize IntKind.wrap IntKind.i64 (m%18446744073709551616)=w at*
  have ok:okW w (((18446744073709551615-l)%18446744073709551616+1+0)%18446744073709551616)∧vW w (((18446744073709551615-l)%18446744073709551616+1+0)%18446744073709551616)= -(h*18446744073709551616+l):=by
   unfold vW
   refine⟨⟨?_,?_,?_,?_⟩,?_⟩<;>(split at hw<;>omega)
  cases decide (w<0)
  ·exact⟨_,_,_,rfl,ok.1,by simp only[if_true];exact ok.2⟩
  ·exact⟨_,_,_,rfl,ok.1,by simp only[if_true];exact ok.2⟩
theorem Bu (a b:Int)(a0: -9223372036854775808<=a)(a1:a<=9223372036854775807)(b0: -9223372036854775808<=b)(b1:b<=9223372036854775807):∃h l,eN a b=some (h,l)∧okW h l∧vW h l=a*b:=by
 simp only[eN,aiy,Pg.bO,Pg.bI,Pg.bZ,Pg.eB,Pg.dB]
 try delta wI wU
 simp only[al3 a a0 a1,al3 b b0 b1,Option.bind_some]
 generalize hx:(if a<0 then -a else a)=x
 generalize hy:(if b<0 then -b else b)=y
 have x0:0<=x∧x<=9223372036854775808:=by rw[<-hx];split<;>omega
 have y0:0<=y∧y<=9223372036854775808:=by rw[<-hy];split<;>omega
 have hp:0<=x*y:=Int.mul_nonneg x0.1 y0.1
 have hq:x*y<=85070591730234615865843651857942052864:=by
  have:=Int.mul_le_mul x0.2 y0.2 y0.1 (by omega)
  omega
 rw[aOg x y x0.1 (by omega) y0.1 (by omega)]
 simp only[Option.bind_some]
 obtain⟨h,l,c,e1,e2,e3⟩:=aGM (x*y/18446744073709551616) (x*y%18446744073709551616) (!decide (a<0)==decide (b<0)) (by omega) (by omega) (by omega) (by omega)
 rw[e1]
 simp only[Option.bind_some]
 refine⟨h,l,rfl,e2,?_⟩
 have e4:x*y/18446744073709551616*18446744073709551616+x*y%18446744073709551616=x*y:=by omega
 rw[e3,e4]
 by_cases p:a<0
 ·by_cases q:b<0
  ·rw[if_pos p] at hx
   rw[if_pos q] at hy
   simp only[p,q,decide_true]
   rw[if_neg (by decide)]
   rw[<-hx,<-hy,Int.neg_mul_neg]
  ·rw[if_pos p] at hx
   rw[if_neg q] at hy
   simp only[p,q,decide_true,decide_false]
   rw[if_pos (by decide)]
   rw[<-hx,<-hy,Int.neg_mul,Int.neg_neg]
 ·by_cases q:b<0
  ·rw[if_neg p] at hx
   rw[if_pos q] at hy
   simp only[p,q,decide_true,decide_false]
   rw[if_pos (by decide)]
   rw[<-hx,<-hy,Int.mul_neg,Int.neg_neg]
  ·rw[if_neg p] at hx
   rw[if_neg q] at hy
   simp only[p,q,decide_false]
   rw[if_neg (by decide)]
   rw[<-hx,<-hy]
theorem aJp (a b:Int)(s:Nat)(eM:Bool)(hs:s<=120):aT a b (Int.ofNat s) eM=some (sat (Kp (sat a*sat b) s),eM||eS a||eS b||eS (Kp (sat a*sat b) s)):=by
 simp only[aT,Zc,Pg.bO,Pg.bI,Pg.bZ,Pg.eB,Pg.dB]
 try delta wI wU
 have:=oi a
 have:=oi b
 obtain⟨h,l,e1,e2,e3⟩:=Bu (sat a) (sat b) (by omega) (by omega) (by omega) (by omega)
 simp only[oz,Option.bind_some,e1,aeJ h l s _ hs e2,e3]
end Go.Proofs.YtldgljclcgaibaaGreat
namespace Go.Proofs.YtldgljclcgaibaaGreat
open Go.Ab
theorem aeK (f g:Nat->Int)(w:Bool)(o1:okW (f 0) (g 0))(o2:okW (f 1) (g 1))(r0: -170141183460469231731687303715884105728<=vW (f 0) (g 0)+vW (f 1) (g 1))(r1:vW (f 0) (g 0)+vW (f 1) (g 1)<170141183460469231731687303715884105728):
  ∃h l,jl 2 f g w=some ((h,l),true)∧okW h l∧vW h l=vW (f 0) (g 0)+vW (f 1) (g 1):=by
 simp only[jl,XJ,Pg.bO,Pg.bI,Pg.bZ,Pg.eB,Pg.dB]
 try delta wI wU
 unfold F9
 rw[show Nat.beq 2 2=true from rfl,cond_true,aiq]
 obtain⟨h1,l1,b1,e1,a1,c1,d1⟩:=ave 0 0 (f 0) (g 0) ⟨by omega,by omega,by omega,by omega⟩ o1
 have t1:b1=true:=by
  rw[c1]
  obtain⟨p1,p2,p3,p4⟩:=o1
  simp only[vW];omega
 subst t1
 have d1:=d1 rfl
 obtain⟨h2,l2,b2,e2,a2,c2,d2⟩:=ave h1 l1 (f 1) (g 1) a1 o2
 have z:vW 0 0=0:=rfl
 have t2:b2=true:=by rw[c2,d1,z];omega
 subst t2
 have d2:=d2 rfl
 refine⟨h2,l2,?_,a2,by rw[d2,d1,z];omega⟩
 have k0:decide ((0:Int)<Int.ofNat 2)=true:=by decide
 have k1:aW 0 2=true:=by decide
 have k2:IntKind.wrap .i64 (0+1)=1:=by decide
 have k3:decide ((1:Int)<Int.ofNat 2)=true:=by decide
 have k4:aW 1 2=true:=by decide
 have k5:IntKind.wrap .i64 (1+1)=2:=by decide
 have k6:decide ((2:Int)<Int.ofNat 2)=false:=by decide
 have k7:Int.toNat 0=0:=rfl
 have k8:Int.toNat 1=1:=rfl
 rw[Xz]
 simp only[Bn,Pg.tu,Pg.tv,Pg.xN,Pg.DV,Pg.tw,Sum.elim_inl,Sum.elim_inr,wI,k0,k1,k2,k7,cond_true,e1,Option.bind_some,Bool.not_true,cond_false]
 rw[Xz]
 simp only[k3,k4,k5,k8,cond_true,e2,Option.bind_some,Bool.not_true,cond_false]
 rw[Xz]
 simp only[k6,cond_false,Sum.elim_inr]
def xt (f:Nat->Int):Nat->Int
 |0=>0
 |n+1=>xt f n+f n
def CZ (f:Nat->Bool):Nat->Bool
 |0=>false
 |n+1=>CZ f n||f n
theorem aj5 (f:Nat->Int)(B:Int)(hB:0<=B)(n:Nat)(h:∀j,j<n-> -B<=f j∧f j<=B): -(n*B)<=xt f n∧xt f n<=n*B:=by
 induction n with
 |zero=>simp[xt]
 |succ n ih=>
  have:=ih λj hj=>h j (by omega)
  have h2:=h n (by omega)
  have e:((n+1:Nat):Int)*B=n*B+B:=by rw[Int.natCast_add,Int.add_mul];simp
  rw[e,xt]
  omega
theorem aEX (v:Int):Kp v 0=v:=by
 unfold Kp half
 simp only[if_true,Int.add_zero]
 have:(2:Int)^0=1:=rfl
 rw[this,Int.ediv_one,Int.ediv_one]
 split<;>omega
theorem asK {i n t:Nat}(h:i+t=n)(ht:0<t):decide (Int.ofNat i<Int.ofNat n)=true:=by simp only[Int.ofNat_eq_natCast];exact decide_eq_true (by omega)
theorem asL {i n:Nat}(h:n<=i):decide (Int.ofNat i<Int.ofNat n)=false:=by simp only[Int.ofNat_eq_natCast];exact decide_eq_false (by omega)
theorem asM {i n:Nat}(h:i<n):aW (Int.ofNat i) n=true:=by unfold aW;simp only[Int.ofNat_eq_natCast,Bool.and_eq_true,decide_eq_true_eq];omega
theorem asN {i:Nat}(h:i<9000000000000000000):IntKind.wrap .i64 (Int.ofNat i+1)=Int.ofNat (i+1):=(wrap_i64 (by simp only[Int.ofNat_eq_natCast];omega) (by simp only[Int.ofNat_eq_natCast];omega)).trans rfl
theorem aSt (n:Nat)(hn:n<=1900)(eM:Bool)(l:Nat->Int)(w:Bool):
  cC n eM l w=some (sat (xt (λj=>sat (l j)) n),(eM||CZ (λj=>eS (l j)) n)||eS (xt (λj=>sat (l j)) n)):=by
 simp only[cC,Zm,Pg.bO,Pg.bI,Pg.bZ,Pg.eB,Pg.dB]
 try delta wI wU
 unfold Qe
 rw[Nat.beq_refl,cond_true]
 refine LZ (λt d=>∃(i:Nat) (h l':Int),i+t=n∧okW h l'∧vW h l'=xt (λj=>sat (l j)) i∧d=(((n,w),Int.ofNat n,Int.ofNat i),(eM||CZ (λj=>eS (l j)) i),l,h,l')) ?_ 2000 n _ (by omega)
  ⟨0,0,0,by omega,⟨by omega,by omega,by omega,by omega⟩,rfl,by simp only[CZ,Bool.or_false];rfl⟩
 rintro t _ c ⟨i,h,l',hi,ho,hv,rfl⟩ hc
 have bnd:=aj5 (λj=>sat (l j)) 1152921504606846976 (by omega) i (λj _=>oi _)
 rcases Nat.eq_zero_or_pos t with t0|t0
 ·have e:i=n:=by omega
  subst e
  have r:=aeJ h l' 0
  have r2:=wide_round h l' 0 (by omega) ho
  rw[aEX] at r2
  have r3:Int.ofNat 0=0:=rfl
  rw[r3] at r2
  simp only[GY,Pg.tu,Pg.tv,Pg.xN,Pg.DV,Pg.tw,Sum.elim_inl,Sum.elim_inr,wI,asL (Nat.le_refl i),cond_false,r2]
  by_cases k: -9223372036854775808<=vW h l'∧vW h l'<=9223372036854775807
  ·rw[if_pos k]
   simp only[if_true,Option.bind_some,abC,hv]
  ·rw[if_neg k]
   simp only[Option.bind_some,abC,Bool.false_eq_true,if_false]
   rw[<-hv]
   unfold sat eS
   by_cases ng:h<0
   ·have c1:vW h l'< -1152921504606846976:=by
     obtain⟨o1,o2,o3,o4⟩:=ho
     simp only[vW] at*;omega
    simp[ng,c1]
   ·have c1:¬vW h l'< -1152921504606846976:=by
     obtain⟨o1,o2,o3,o4⟩:=ho
     simp only[vW] at*;omega
    have c2:1152921504606846976<vW h l':=by
     obtain⟨o1,o2,o3,o4⟩:=ho
     simp only[vW] at*;omega
    simp[ng,c1,c2]
 ·have hs:=oi (l i)
  obtain⟨h1,l1,e1,o1,v1⟩:=aSr (sat (l i)) (by omega) (by omega)
  obtain⟨h2,l2,e2,o2,v2⟩:=aeK (λj:Nat=>bif Nat.beq j 1 then h1 else bif Nat.beq j 0 then h else h) (λj:Nat=>bif Nat.beq j 1 then l1 else bif Nat.beq j 0 then l' else l') true
   ho o1 (by show _<=vW h l'+vW h1 l1;rw[hv,v1];omega) (by show vW h l'+vW h1 l1<_;rw[hv,v1];omega)
  have v2:vW h2 l2=vW h l'+vW h1 l1:=v2
  rw[hv,v1] at v2
  have q:Int.toNat (Int.ofNat i)=i:=rfl
  simp only[GY,Pg.tu,Pg.tv,Pg.xN,Pg.DV,Pg.tw,Sum.elim_inl,Sum.elim_inr,wI,asK hi t0,asM (show i<n by omega),cond_true,q,oz,Option.bind_some,e1,e2,asN (show i<9000000000000000000 by omega)]
  refine hc (t-1) _ (by omega) ⟨i+1,h2,l2,by omega,o2,v2,?_⟩
  simp only[CZ,Bool.or_assoc]
end Go.Proofs.YtldgljclcgaibaaGreat
namespace Go.Proofs.YtldgljclcgaibaaGreat
open Go.Ab
theorem abD (a b:Int): -1329227995784915872903807060280344576<=sat a*sat b∧sat a*sat b<=1329227995784915872903807060280344576:=by
 have h1:=oi a
 have h2:=oi b
 generalize sat a=x at*
 generalize sat b=y at*
 have key:∀u v:Int,0<=u->u<=1152921504606846976->0<=v->v<=1152921504606846976->0<=u*v∧u*v<=1329227995784915872903807060280344576:=λu v u0 u1 v0 v1=>by
  refine⟨Int.mul_nonneg u0 v0,?_⟩
  have:=Int.mul_le_mul u1 v1 v0 (by omega)
  omega
 rcases Int.le_total 0 x with hx|hx<;>rcases Int.le_total 0 y with hy|hy
 ·have:=key x y hx (by omega) hy (by omega);omega
 ·have:=key x (-y) hx (by omega) (by omega) (by omega)
  rw[Int.mul_neg] at this;omega
 ·have:=key (-x) y (by omega) (by omega) hy (by omega)
  rw[Int.neg_mul] at this;omega
 ·have:=key (-x) (-y) (by omega) (by omega) (by omega) (by omega)
  rw[Int.neg_mul_neg] at this;omega
theorem aJq (s:Nat)(hs:s<=120)(n:Nat)(hn:n<=100)(eM:Bool)(f g:Nat->Int)(w w':Bool):
  bn (Int.ofNat s) n n eM f g w w'=some (sat (Kp (xt (λj=>sat (f j)*sat (g j)) n) s),(eM||CZ (λj=>eS (f j)||eS (g j)) n)||eS (Kp (xt (λj=>sat (f j)*sat (g j)) n) s)):=by
 simp only[bn,ZJ,Pg.bO,Pg.bI,Pg.bZ,Pg.eB,Pg.dB]
 try delta wI wU
 unfold Qn
 have n0:decide (Int.ofNat s<0)=false:=by simp
 have n1:decide (Int.ofNat s>120)=false:=by simp only[Int.ofNat_eq_natCast];exact decide_eq_false (by omega)
 have m:(if 100<if Int.ofNat n<Int.ofNat n then Int.ofNat n else Int.ofNat n then 100 else if Int.ofNat n<Int.ofNat n then Int.ofNat n else Int.ofNat n)=Int.ofNat n:=by
  have e:¬Int.ofNat n<Int.ofNat n:=by omega
  rw[if_neg e,if_neg (by simp only[Int.ofNat_eq_natCast];omega)]
 rw[n0,n1,cond_false,cond_false,Nat.beq_refl,cond_true,cond_true,m]
 refine LZ (λt d=>∃(i:Nat) (h l':Int),i+t=n∧okW h l'∧vW h l'=xt (λj=>sat (f j)*sat (g j)) i∧d=((Int.ofNat s,(n,w),(n,w'),Int.ofNat n,Int.ofNat i),(eM||CZ (λj=>eS (f j)||eS (g j)) i),f,g,h,l')) ?_ 2000 n _ (by omega)
  ⟨0,0,0,by omega,⟨by omega,by omega,by omega,by omega⟩,rfl,by simp only[CZ,Bool.or_false];rfl⟩
 rintro t _ c ⟨i,h,l',hi,ho,hv,rfl⟩ hc
 have bnd:=aj5 (λj=>sat (f j)*sat (g j)) 1329227995784915872903807060280344576 (by omega) i (λj _=>abD _ _)
 rcases Nat.eq_zero_or_pos t with t0|t0
 ·have e:i=n:=by omega
  subst e
  simp only[G3,Pg.tu,Pg.tv,Pg.xN,Pg.DV,Pg.tw,Sum.elim_inl,Sum.elim_inr,wI,asL (Nat.le_refl i),cond_false,aeJ h l' s _ hs ho,hv,Option.bind_some]
 ·have hs1:=oi (f i)
  have Ts:=oi (g i)
  have hm:=abD (f i) (g i)
  obtain⟨h1,l1,e1,o1,v1⟩:=Bu (sat (f i)) (sat (g i)) (by omega) (by omega) (by omega) (by omega)
  obtain⟨h2,l2,e2,o2,v2⟩:=aeK (λj:Nat=>bif Nat.beq j 1 then h1 else bif Nat.beq j 0 then h else h) (λj:Nat=>bif Nat.beq j 1 then l1 else bif Nat.beq j 0 then l' else l') true
   ho o1 (by show _<=vW h l'+vW h1 l1;rw[hv,v1];omega) (by show vW h l'+vW h1 l1<_;rw[hv,v1];omega)
  have v2:vW h2 l2=vW h l'+vW h1 l1:=v2
  rw[hv,v1] at v2
  have q:Int.toNat (Int.ofNat i)=i:=rfl
  simp only[G3,Pg.tu,Pg.tv,Pg.xN,Pg.DV,Pg.tw,Sum.elim_inl,Sum.elim_inr,wI,asK hi t0,asM (show i<n by omega),cond_true,q,oz,Option.bind_some,e1,e2,asN (show i<9000000000000000000 by omega)]
  refine hc (t-1) _ (by omega) ⟨i+1,h2,l2,by omega,o2,v2,?_⟩
  simp only[CZ,Bool.or_assoc]
theorem aJr (x:Int):Kp (x*1073741824) 30=x:=by
 unfold Kp half
 rw[if_neg (by omega:¬(30:Nat)=0),show(2:Int)^(30-1)=536870912 from rfl,show(2:Int)^30=1073741824 from rfl]
 split<;>omega
theorem aNo {x:Int}(h: -1152921504606846976<=x∧x<=1152921504606846976):sat x=x∧eS x=false:=by
 unfold sat eS
 have h1:¬x< -1152921504606846976:=by omega
 have h2:¬1152921504606846976<x:=by omega
 simp[h1,h2]
end Go.Proofs.YtldgljclcgaibaaGreat
