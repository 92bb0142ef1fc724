/-
  Parts of the proof: Q2
-/
import Derived.Test.YtldgljclcgaibaaGreatZAE
import Derived.Test.YtldgljclcgaibaaGreatZAF
set_option linter.unusedVariables false
set_option linter.unusedSimpArgs false
set_option maxRecDepth 100000
set_option maxHeartbeats 4000000
noncomputable section
namespace Go.Proofs.YtldgljclcgaibaaGreat
open Go.Ab Go.Ab.Pg Go.Ab.Rq
def an4:=qa (pl apA nil)
def Uf:=qe B9
abbrev an5:=Uf.B
abbrev an6:=Int->Int->Int->Int->Option an5
def an7 (g:an6):Ct:=(67,FC an4 (lf Uf) (λb=>g b.1 b.2.1 b.b.1 b.b.2))
def kO:=qs (st (dp (us 1 (cu (app 0 4) (us 1 (c aSd (us 6 (c ac6 (cl ai (us 24 aLR)))))))) λa=>(pl (c uX (cl (so (cl (gs a.1 aGf) nil)) nil)) nil)))
def XW:=qs (st (pu (us 2 (cu tN (us 42 nil))) (pu nil nil)))
def asc:=qs (st (pr (us 1 (cu (app 0 4) (us 1 (c aSd (us 6 (c ac6 (c ai (cl ab (us 23 aLR))))))))) (pl (c uX (cl aL8 nil)) nil)))
abbrev vJ:=XW.B⊕((Nat×aER×Int×Bool)×aER×NI×NI)
def agj {ρ:Type}(x:vJ)(K:AX->St->Option ρ):Option ρ:=(Sum.elim (λd=>K .ret (XW.em d)) (λd=>K (.ex 0) (asc.em (d.1,d.2.1,d.1.1,d.b)))) x
def Qo (cY:Ms)(cD:mG)(d:kO.B):PL kO vJ:=let n5:=d.2.2;let n3:=d.1.1;let n2:=d.1.2;let n4:=n2.1.2;let y0:=n3+1;let n1:=(y0,n2.1,wI (n2.2+1));let y1:=decide (n2.2<4);ae y1 (ae (aX n2.2 4) (ae (n2.2==3) (opt (cY n4.2.2) λaj=>ae (decide (aj>1073741840)) (ret (Sum.inr (Sum.inl ()))) (opt (cD n4.2.2 n4.2.2) λaI=>ae (Nat.ble (y0*16) 140737488355328) (ret (Sum.inl (n1,d.2.1,λj=>bif Nat.beq j n3 then aI.1 else n5.1 j,λj=>bif Nat.beq j n3 then aI.2 else n5.2 j))) no)) (ae (n2.2==2) (opt (cY n4.2.1) λaj=>ae (decide (aj>1073741840)) (ret (Sum.inr (Sum.inl ()))) (opt (cD n4.2.1 n4.2.1) λaI=>ae (Nat.ble (y0*16) 140737488355328) (ret (Sum.inl (n1,d.2.1,λj=>bif Nat.beq j n3 then aI.1 else n5.1 j,λj=>bif Nat.beq j n3 then aI.2 else n5.2 j))) no)) (ae (n2.2==1) (opt (cY n4.1) λaj=>ae (decide (aj>1073741840)) (ret (Sum.inr (Sum.inl ()))) (opt (cD n4.1 n4.1) λaI=>ae (Nat.ble (y0*16) 140737488355328) (ret (Sum.inl (n1,d.2.1,λj=>bif Nat.beq j n3 then aI.1 else n5.1 j,λj=>bif Nat.beq j n3 then aI.2 else n5.2 j))) no)) (opt (cY n2.1.1) λaj=>ae (decide (aj>1073741840)) (ret (Sum.inr (Sum.inl ()))) (opt (cD n2.1.1 n2.1.1) λaI=>ae (Nat.ble (y0*16) 140737488355328) (ret (Sum.inl (n1,d.2.1,λj=>bif Nat.beq j n3 then aI.1 else n5.1 j,λj=>bif Nat.beq j n3 then aI.2 else n5.2 j))) no))))) no) (ret (Sum.inr (Sum.inr ((n3,n2.1,n2.2,y1),d.2))))
def Qp:=bD (Qo vG eR) 2000
def ZN (wc:qf)(sX:BO)(dG:LT kO vJ)(x0:Int)(x1:Int)(x2:Int)(x3:Int):Pg an5:=ae true (opt (dG ((0,(x0,x1,x2,x3),0),(x0,x1,x2,x3),λx=>0,λx=>0)) λx=>sum x (λd=>ret false) λd=>ae (Nat.beq d.1.1 d.1.1) (opt (wc d.1.1 d.2.2.1 d.2.2.2 true) λd=>opt (sX d.1.1 d.1.2 0) λd=>let y0:=wI (d.1-1152921504606846976);ae d.2 (ae (decide (y0>= -4294967296)) (ret (decide (y0<=4294967296))) (ret false)) (ret false)) no) no
def BU:=λx0 x1 x2 x3=>(ZN jk pE Qp x0 x1 x2 x3).val
abbrev N7:=Ms×mG×qf×BO×(LT kO vJ)
def ZO (p:N7):KK:=⟨[abt p.1,vV p.2.1,IP p.b.1,NS p.b.2.1],⟨[⟨3,(0::2::rg 4 6 (rg 12 24 [39,40,44])),[(3,[.i .i64,.i .u64])]⟩],[fx 3 0 kO agj p.c],[],[],(some ⟨0,(0::1::rg 3 42 []),[]⟩)⟩,0,67⟩
theorem avo (p:N7):LI (ZO p) 3 kO agj (Qo p.1 p.2.1):=λ_ d c K=>by kernel_rfl
theorem aD1 (p:N7):D2 (ZO p) an4 (lf Uf) λb=>ZN p.b.1 p.b.2.1 p.c b.1 b.2.1 b.b.1 b.b.2:=λb=>by kernel_rfl
abbrev ZP:N7:=(vG,eR,jk,pE,Qp)
theorem aD2 [ax]:SC (an7 BU):=sc (kS (k:=ZO ZP) (.c ama (.c zt (.c OH (.c Zh (.nil _))))) [3] [] ⟨kL (avo ZP),trivial⟩ trivial (aD1 ZP))
def an8:=qa (dp (cu aP (c ai (c Gh (cl aQ8 nil)))) λa=>(c uV (c (cl (gs a.2.1.1 mF) nil) (cl (cl (gs a.b.1 mF) nil) nil))))
def Ug:=qe (res (pr ai (pl (cl ard aup) nil)))
abbrev an9:=Ug.B
abbrev ee:=Int->Nat->Nat->Bool->NI->NI->Bool->Bool->Option an9
def lR (g:ee):Ct:=(73,sW 3 [.i .i64] (sW 2 [.i .i64] (FC an8 (lf Ug) (λb=>g b.1.1 b.1.2.1.1 b.1.b.1 b.2.1 b.b.1 b.b.2 b.1.2.1.2 b.1.b.2))))
def tw:=qs (st (dp (cu aP (c ai (c Gh (c aQ8 (us 5 (cu (app 3 2) aRL)))))) λa=>(pl (c cj (c (so (cl (gs a.2.1.1 mF) nil)) (c (so (cl (gs a.b.1.1 mF) nil)) YZ))) cA)))
def ay8:=qs (st (pr (cu aP (c ai (c Gh (c aQ8 (us 5 (cu (app 3 2) aRP)))))) (pl (c cj (c HL (c HL YZ))) cA)))
abbrev Hk:=(aQ2×Bool×NI×NI×Int×Int)
def agk {ρ:Type}(x:Hk)(K:AX->St->Option ρ):Option ρ:=(λd=>K (.ex 0) (ay8.em (d.1,d.2.1,(d.1.2.1.1,d.b.1),(d.1.b.1.1,d.b.2.1),d.c))) x
def Hl (aw:bG)(cD:mG)(wc:qf)(d:tw.B):PL tw Hk:=let y0:=Int.toNat d.1.2.2.2.2;let y1:=decide (d.1.2.2.2.2<d.1.2.2.2.1);ae y1 (ae (aX d.1.2.2.2.2 d.1.2.1.1) (opt (aw (d.2.2.1 y0) d.2.1) λaj=>ae (aX d.1.2.2.2.2 d.1.2.2.1.1) (opt (aw (d.2.2.2.1 y0) aj.2) λaI=>opt (cD aj.1 aI.1) λbz=>opt (wc 2 (λj=>bif Nat.beq j 1 then bz.1 else bif Nat.beq j 0 then d.2.2.2.2.1 else d.2.2.2.2.1) (λj=>bif Nat.beq j 1 then bz.2 else bif Nat.beq j 0 then d.2.2.2.2.2 else d.2.2.2.2.2) true) λcq=>ret (Sum.inl ((d.1.1,d.1.2.1,d.1.2.2.1,d.1.2.2.2.1,wI (d.1.2.2.2.2+1)),aI.2,d.2.2.1,d.2.2.2.1,cq.1))) no) no) (ret (Sum.inr ((d.1.1,d.1.2.1,d.1.2.2.1,d.1.2.2.2.1,d.1.2.2.2.2,y1),d.2)))
def Qq:=bD (Hl aQ eR jk) 2000
def ZQ (gZ:vE)(dG:LT tw Hk)(x0:Int)(x1:Nat)(x2:Nat)(x3:Bool)(x4:Nat->Int)(x5:Nat->Int)(w0:Bool)(w1:Bool):Pg an9:=let y0:=if Int.ofNat x2<Int.ofNat x1 then Int.ofNat x2 else Int.ofNat x1;ae (decide (x0<0)) (opt (gZ 0 0 x0 x3) λd=>ret d) (ae (decide (x0>120)) (opt (gZ 0 0 x0 x3) λd=>ret d) (ae (Nat.beq x1 x1) (ae (Nat.beq x2 x2) (opt (dG ((x0,(x1,w0),(x2,w1),if 100<y0 then 100 else y0,0),x3,x4,x5,0,0)) λd=>opt (gZ d.2.2.2.2.1 d.2.2.2.2.2 d.1.1 d.2.1) λd=>ret d) no) no))
def bo:=λx0 x1 x2 x3 x4 x5 w0 w1=>(ZQ mg Qq x0 x1 x2 x3 x4 x5 w0 w1).val
abbrev N8:=vE×bG×mG×qf×(LT tw Hk)
def ZR (p:N8):KK:=⟨[G' p.1,cV p.2.1,vV p.b.1,IP p.b.2.1],⟨[⟨5,(rg 4 5 (rg 10 15 (rg 27 26 []))),[]⟩],[fx 5 3 tw agk p.c],[0],[],(some ⟨0,(rg 0 8 (rg 9 44 [])),[]⟩)⟩,3,73⟩
theorem avp (p:N8):LI (ZR p) 5 tw agk (Hl p.2.1 p.b.1 p.b.2.1):=λ_ d c K=>by kernel_rfl
theorem aD3 (p:N8):D2 (ZR p) an8 (lf Ug) λb=>ZQ p.1 p.c b.1.1 b.1.2.1.1 b.1.b.1 b.2.1 b.b.1 b.b.2 b.1.2.1.2 b.1.b.2:=λb=>by kernel_rfl
abbrev ZS:N8:=(mg,aQ,eR,jk,Qq)
theorem nw [ax]:SC (lR bo):=sc (Sound.nil 3 [.i .i64]<|Sound.nil 2 [.i .i64]<|kS (k:=ZR ZS) (.c Qf (.c cZ (.c zt (.c OH (.nil _))))) [5] [] ⟨kL (avp ZS),trivial⟩ trivial (aD3 ZS))
def axj:=qa (pr (c ai (c ai (c ai (cl ai (cu aP (cu am4 nil)))))) (cu aLD (c ac4 bA)))
def aei:=qe aR6
abbrev axk:=aei.B
abbrev ajl:=Int->Int->Int->Int->Int->Int->Int->Int->Bool->Option axk
def axl (g:ajl):Ct:=(196,FC axj (lf aei) (λb=>g b.1.1 b.1.2.1 b.1.b.1 b.1.b.2 b.2.1.1 b.2.1.2.1 b.2.1.b.1 b.2.1.b.2 b.b))
def ajm (bf:ee)(x0:Int)(x1:Int)(x2:Int)(x3:Int)(x4:Int)(x5:Int)(x6:Int)(x7:Int)(x8:Bool):Pg axk:=let y0:=wI (x0*x4);opt (bf 30 4 4 x8 (cr x4 [x7,x6,x5,x4]) (cr y0 [wI (x3*x7),wI (x2*x6),wI (x1*x5),y0]) false true) λd=>ret d
def OP:=λx0 x1 x2 x3 x4 x5 x6 x7 x8=>(ajm bo x0 x1 x2 x3 x4 x5 x6 x7 x8).val
theorem aJ7:∀bf,D0 [lR bf] 196 axj (lf aei) λb=>ajm bf b.1.1 b.1.2.1 b.1.b.1 b.1.b.2 b.2.1.1 b.2.1.2.1 b.2.1.b.1 b.2.1.b.2 b.b:=λ_ b=>by kernel_rfl
theorem aJ8 [ax]:SC (axl OP):=s0 (.c nw (.nil _)) (aJ7 bo)
def axm:=qa (pr (c ai (c ai aGn)) (cu apu bA))
def aej:=qe aL4
abbrev axn:=aej.B
abbrev ajn:=Int->Int->Int->Int->Bool->Option axn
def axo (g:ajn):Ct:=(197,FC axm (lf aej) (λb=>g b.1.1 b.1.2.1 b.1.b.1 b.1.b.2 b.2))
def ajo (bf:ee)(x0:Int)(x1:Int)(x2:Int)(x3:Int)(x4:Bool):Pg axn:=opt (bf 30 4 4 x4 (cr x0 [x2,x2,x0,x0]) (cr x1 [x3,x3,x1,x1]) true true) λd=>ret d
def OQ:=λx0 x1 x2 x3 x4=>(ajo bo x0 x1 x2 x3 x4).val
theorem aJ9:∀bf,D0 [lR bf] 197 axm (lf aej) λb=>ajo bf b.1.1 b.1.2.1 b.1.b.1 b.1.b.2 b.2:=λ_ b=>by kernel_rfl
theorem aKa [ax]:SC (axo OQ):=s0 (.c nw (.nil _)) (aJ9 bo)
def XX:=qa (pr (c ai (c ai (cl ai (cu awr nil)))) (cl apv nil))
def HY:=qe aSa
abbrev XY:=HY.B
abbrev XZ:=Int->Int->Int->NI->Option XY
def X0 (g:XZ):Ct:=(115,FC XX (lf HY) (λb=>g b.1.1 b.1.2.1 b.1.b b.2))
def gh:=qs (st (pr (us 1 (c ai (c ai (cu awr (us 3 (cl ai (us 9 nil))))))) (pl HK cA)))
def aml:=qs (st (pr (us 1 (c ai (c ai (cu awr (us 3 (c ai (us 1 (c ai (c ai (cl ab (us 5 nil))))))))))) (pl HK cA)))
abbrev oc:=((Int×Int×Int×Bool)×NI)
def RK {ρ:Type}(x:oc)(K:AX->St->Option ρ):Option ρ:=(λd=>K (.ex 0) (aml.em ((d.1.1,d.1.2.1,d.1.b.1,d.1.b.1,d.1.1,d.1.b.2),d.2))) x
def FA (d:gh.B):PL gh oc:=let n1:=d.1.2;let y0:=Int.toNat n1.2;let y1:=decide (n1.2<d.1.1);ae y1 (ae (aX n1.2 24) (ae (true&&Nat.ble (0+y0*1+1) 24) (ret (Sum.inl ((d.1.1,n1.1,wI (n1.2+1)),λj=>bif Nat.beq j y0 then n1.1 else d.2 j))) no) no) (ret (Sum.inr ((d.1.1,n1.1,n1.2,y1),d.2)))
def FB:=bD (FA) 2000
def J6 (dG:LT gh oc)(x0:Int)(x1:Int)(x2:Int)(x3:Nat->Int):Pg XY:=opt (dG ((x1,x2,x0),x3)) λd=>ret d.2
def wg:=λx0 x1 x2 x3=>(J6 FB x0 x1 x2 x3).val
abbrev CC:=(LT gh oc)
def J7 (p:CC):KK:=⟨[],⟨[⟨1,(0::4::5::6::rg 8 9 []),[]⟩],[fx 1 1 gh RK p],[0],[],(some ⟨0,(rg 0 17 []),[]⟩)⟩,1,115⟩
theorem ajp (p:CC):LI (J7 p) 1 gh RK (FA):=λ_ d c K=>by kernel_rfl
theorem asd (p:CC):D2 (J7 p) XX (lf HY) λb=>J6 p b.1.1 b.1.2.1 b.1.b b.2:=λb=>by kernel_rfl
abbrev J8:CC:=FB
theorem ase [ax]:SC (X0 wg):=sc (kS (k:=J7 J8) (.nil _) [1] [] ⟨kL (ajp J8),trivial⟩ trivial (asd J8))
def agl:=qa (pr (cu aP fT) bA)
def Mw:=qe oS
abbrev agm:=Mw.B
abbrev Bn:=Int->Bool->Option agm
def Qr (g:Bn):Ct:=(88,FC agl (lf Mw) (λb=>g b.1 b.2))
def Hm (aE:bS)(x0:Int)(x1:Bool):Pg agm:=opt (aE x0 1 72057594037927936 x1) λd=>ret d
def mh:=λx0 x1=>(Hm aZ x0 x1).val
theorem ay9:∀aE,D0 [du aE] 88 agl (lf Mw) λb=>Hm aE b.1 b.2:=λ_ b=>by kernel_rfl
theorem agn [ax]:SC (Qr mh):=s0 (.c dM (.nil _)) (ay9 aZ)
def abx:=qa (pr (cu aP (cl yi nil)) bA)
def J9:=qe aMj
abbrev Mx:=J9.B
abbrev oX:=NI->NI->Bool->Option Mx
def yC (g:oX):Ct:=(69,FC abx (lf J9) (λb=>g b.1.1 b.1.2 b.2))
def dN:=qs (st (pr (cu aP (us 2 (cu E8 (cu Xn (us 2 aLB))))) (pl (c cj auE) cA)))
def Uh:=qs (st (pr (cu aP (us 2 (cu E8 (cu Xn (us 2 aLK))))) (pl (c cj auE) cA)))
abbrev j7:=Uh.B
def Ui {ρ:Type}:=@ef j7 ((.ex 0)) Uh ρ
def zZ (Qs:Bn)(d:dN.B):PL dN j7:=let y0:=Int.toNat d.1;let y1:=aX d.1 24;let y2:=decide (d.1<24);ae y2 (ae y1 (opt (Qs (d.2.2.1.2 y0) d.2.1) λaj=>ae y1 (ae (true&&Nat.ble (276+y0*1+1) 300) (ret (Sum.inl (wI (d.1+1),aj.2,(d.2.2.1.1,λj=>bif Nat.beq j y0 then aj.1 else d.2.2.1.2 j),d.2.2.2))) no) no) no) (ret (Sum.inr ((d.1,y2),d.2)))
def z5:=bD (zZ mh) 2000
def dO:=qs (st (pr (cu aP (us 2 (cu E8 (cu Xn (us 15 aGb))))) (pl (c cj auE) cA)))
def Uj:=qs (st (pr (cu aP (us 2 (cu E8 (cu Xn (us 15 aGg))))) (pl (c cj auE) cA)))
abbrev j8:=Uj.B
def Uk {ρ:Type}:=@ef j8 ((.ex 2)) Uj ρ
def z6 (aE:bS)(d:dO.B):PL dO j8:=let y0:=Int.toNat d.1;let y1:=aX d.1 276;let y2:=decide (d.1<276);let y3:=0+y0*1+1;let y4:=Nat.ble y3 276;ae y2 (ae y1 (ae y4 (opt (aE (d.2.2.1.1 y0) (-1152921504606846976) 1152921504606846976 d.2.1) λaj=>ae y1 (ae (y4&&Nat.ble y3 300) (ret (Sum.inl (wI (d.1+1),aj.2,(λj=>bif Nat.beq j y0 then aj.1 else d.2.2.1.1 j,d.2.2.1.2),d.2.2.2))) no) no) no) no) (ret (Sum.inr ((d.1,y2),d.2)))
def z7:=bD (z6 aZ) 2000
def EC (dG:LT dN j7)(qd:LT dO j8)(x0:Nat->Int)(x1:Nat->Int)(x2:Bool):Pg Mx:=opt (dG (0,x2,(x0,x1),λx=>0,λx=>0)) λd=>opt (qd (0,d.2)) λd=>ret (d.2.2.1,d.2.1)
def fe:=λx0 x1 x2=>(EC z5 z7 x0 x1 x2).val
abbrev yD:=Bn×bS×(LT dN j7)×(LT dO j8)
def ED (p:yD):KK:=⟨[Qr p.1,du p.2.1],⟨[⟨2,(1::2::5::6::rg 8 26 []),[]⟩,⟨7,(1::2::rg 5 15 (rg 21 13 [])),[]⟩],[fx 2 1 dN Ui p.b.1,fx 7 1 dO Uk p.b.2],[0],[],(some ⟨0,(rg 0 4 (rg 5 29 [])),[]⟩)⟩,1,69⟩
theorem amm (p:yD):LI (ED p) 2 dN Ui (zZ p.1):=λ_ d c K=>by kernel_rfl
theorem amn (p:yD):LI (ED p) 7 dO Uk (z6 p.2.1):=λ_ d c K=>by kernel_rfl
theorem avq (p:yD):D2 (ED p) abx (lf J9) λb=>EC p.b.1 p.b.2 b.1.1 b.1.2 b.2:=λb=>by kernel_rfl
abbrev EE:yD:=(mh,aZ,z5,z7)
theorem EF [ax]:SC (yC fe):=sc (kS (k:=ED EE) (.c agn (.c dM (.nil _))) [2,7] [] ⟨kL (amm EE),⟨kL (amn EE),trivial⟩⟩ trivial (avq EE))
def aB5:=qa (dp (cu aP aur) λa=>(c uV (cl (cl (gs a.1 mF) nil) nil)))
def ajq:=qe aSs
abbrev aB6:=ajq.B
abbrev ap5:=Nat->Bool->NI->Bool->Option aB6
def aB7 (g:ap5):Ct:=(50,sW 1 [.i .i64] (FC aB5 (lf ajq) (λb=>g b.1.1 b.2.1 b.b b.1.2)))
def pI:=qs (st (dp (cu aP (c Gh (us 2 (cu Xn (cu aEU (us 1 aGc)))))) λa=>(pl (c cj (c (so (cl (gs a.1.1 mF) nil)) auE)) cA)))
def aHh:=qs (st (pr (cu aP (c Gh (us 2 (cu Xn (cu aEU (us 1 aLL)))))) (pl (c cj (c HL auE)) cA)))
abbrev EG:=(((Nat×Bool)×Int×Bool)×Bool×NI×(NI×NI)×NI×NI)
def asf {ρ:Type}(x:EG)(K:AX->St->Option ρ):Option ρ:=(λd=>K (.ex 0) (aHh.em (d.1,d.2.1,(d.1.1.1,d.b.1),d.b.2))) x
def aek (Qs:Bn)(d:pI.B):PL pI EG:=let n3:=d.1.1;let n2:=d.1.2;let n1:=d.2.2;let y0:=Int.toNat n2;let y1:=aX n2 24;let y2:=decide (n2<24);let y3:=true&&Nat.ble (276+y0*1+1) 300;ae y2 (ae y1 (ae y3 (ae (decide (n2<Int.ofNat n3.1)) (ae (aX n2 n3.1) (opt (Qs (n1.1 y0) d.2.1) λaj=>ae y1 (ae y3 (ret (Sum.inl ((n3,wI (n2+1)),aj.2,n1.1,n1.2.1,n1.2.2.1,λj=>let y0:=Nat.beq j y0;bif y0 then aj.1 else bif y0 then 1 else n1.2.2.2 j))) no) no) no) (ret (Sum.inl ((n3,wI (n2+1)),d.2.1,n1.1,n1.2.1,n1.2.2.1,λj=>bif Nat.beq j y0 then 1 else n1.2.2.2 j)))) no) no) (ret (Sum.inr ((n3,n2,y2),d.2)))
def ael:=bD (aek mh) 2000
def ap6 (dG:LT pI EG)(x0:Nat)(x1:Bool)(x2:Nat->Int)(w0:Bool):Pg aB6:=ae (Nat.beq x0 x0) (opt (dG (((x0,w0),0),x1,x2,(λx=>0,λx=>0),λx=>0,λx=>0)) λd=>ret (d.2.2.2.2,d.2.1)) no
def Ul:=λx0 x1 x2 w0=>(ap6 ael x0 x1 x2 w0).val
abbrev aem:=Bn×(LT pI EG)
def ap7 (p:aem):KK:=⟨[Qr p.1],⟨[⟨3,(2::3::6::rg 8 20 []),[]⟩],[fx 3 2 pI asf p.2],[0],[],(some ⟨0,(rg 0 4 (rg 5 23 [])),[]⟩)⟩,2,50⟩
theorem aD4 (p:aem):LI (ap7 p) 3 pI asf (aek p.1):=λ_ d c K=>by kernel_rfl
theorem aNu (p:aem):D2 (ap7 p) aB5 (lf ajq) λb=>ap6 p.2 b.1.1 b.2.1 b.b b.1.2:=λb=>by kernel_rfl
abbrev ap8:aem:=(mh,ael)
theorem aNv [ax]:SC (aB7 Ul):=sc (Sound.nil 1 [.i .i64]<|kS (k:=ap7 ap8) (.c agn (.nil _)) [3] [] ⟨kL (aD4 ap8),trivial⟩ trivial (aNu ap8))
def asg:=qa (pl wZ nil)
def ZT:=qe auz
abbrev Sy:=ZT.B
abbrev aen:=Int->Int->Option Sy
def aeo (g:aen):Ct:=(125,FC asg (lf ZT) (λb=>g b.1 b.2))
def EH (x0:Int)(x1:Int):Pg Sy:=let y0:=wI (wI (Int.tdiv (wI (x1*wI (x1-1))) 2)+x0);ae (decide (x0>=0)) (ae (decide (x0<x1)) (ret (y0,decide (x1<24))) (ret (y0,false))) (ret (y0,false))
def iK:=λx0 x1=>(EH x0 x1).val
theorem aHi:D0 [] 125 asg (lf ZT) λb=>EH b.1 b.2:=λb=>by kernel_rfl
theorem ash [ax]:SC (aeo iK):=s0 (.nil _) aHi
def aKb:=qa (pl (c yi wZ) nil)
def avr:=qe Fq
abbrev aKc:=avr.B
abbrev Um:=NI->NI->Int->Int->Option aKc
def asi (g:Um):Ct:=(71,FC aKb (lf avr) (λb=>g b.1.1 b.1.2 b.2.1 b.b))
def asj (nF:aen)(x0:Nat->Int)(x1:Nat->Int)(x2:Int)(x3:Int):Pg aKc:=ae (x2==x3) (ae (decide (x2>=0)) (ae (decide (x2<24)) (ret 1073741824) (opt (nF x2 x3) λd=>ae (!d.2) (ret 0) (ae (aX d.1 276) (ae (Nat.ble (0+Int.toNat d.1*1+1) 276) (ret (x0 (Int.toNat d.1))) no) no))) (opt (nF x2 x3) λd=>ae (!d.2) (ret 0) (ae (aX d.1 276) (ae (Nat.ble (0+Int.toNat d.1*1+1) 276) (ret (x0 (Int.toNat d.1))) no) no))) (opt (nF x2 x3) λd=>ae (!d.2) (ret 0) (ae (aX d.1 276) (ae (Nat.ble (0+Int.toNat d.1*1+1) 276) (ret (x0 (Int.toNat d.1))) no) no))
def Di:=λx0 x1 x2 x3=>(asj iK x0 x1 x2 x3).val
theorem aTX:∀nF,D0 [aeo nF] 71 aKb (lf avr) λb=>asj nF b.1.1 b.1.2 b.2.1 b.b:=λ_ b=>by kernel_rfl
theorem aB8 [ax]:SC (asi Di):=s0 (.c ash (.nil _)) (aTX iK)
def aB9:=qa (pl (c yi C7) nil)
def ajr:=qe (res (pl yi (pu nil nil)))
abbrev aCa:=ajr.B
abbrev Un:=NI->NI->Int->Int->Int->Option aCa
def ap9 (g:Un):Ct:=(217,FC aB9 (lf ajr) (λb=>g b.1.1 b.1.2 b.2.1 b.b.1 b.b.2))
def aep (nF:aen)(x0:Nat->Int)(x1:Nat->Int)(x2:Int)(x3:Int)(x4:Int):Pg aCa:=opt (nF x2 x3) λd=>let y0:=0+Int.toNat d.1*1+1;ae d.2 (ae (aX d.1 276) (ae (Nat.ble y0 276&&Nat.ble y0 300) (ret (λj=>bif Nat.beq j (Int.toNat d.1) then x4 else x0 j,x1)) no) no) (ret (x0,x1))
def xf:=λx0 x1 x2 x3 x4=>(aep iK x0 x1 x2 x3 x4).val
theorem aNw:∀nF,D0 [aeo nF] 217 aB9 (lf ajr) λb=>aep nF b.1.1 b.1.2 b.2.1 b.b.1 b.b.2:=λ_ b=>by kernel_rfl
theorem aCb [ax]:SC (ap9 xf):=s0 (.c ash (.nil _)) (aNw iK)
def ago:=qa (pu nil nil)
def My:=qe (res (pl (aa aAx) (pu nil nil)))
abbrev Bo:=My.B
abbrev Bp:=Option Bo
def Qt (g:Bp):Ct:=(213,FC ago (lf My) (λ_=>g))
def eP:=qs (st (pr (cu (app 0 576) (cu Ox (us 1 aLF))) (pl (c lp (cl lp nil)) nil)))
def X1:=qs (st (pr (cu (app 0 576) (cu Ox (us 1 aGi))) (pl (c lp (cl lp nil)) nil)))
abbrev lA:=X1.B
def X2 {ρ:Type}:=@ef lA ((.ex 0)) X1 ρ
def CD (d:eP.B):PL eP lA:=let y0:=Int.toNat d.1;let y1:=aX d.1 24;let y2:=decide (d.1<24);let y3:=y0*24+y0;ae y2 (ae y1 (ae y1 (ae (true&&Nat.ble (0+y3*1+1) 576) (ret (Sum.inl (wI (d.1+1),d.2.1,λj=>bif Nat.beq j y3 then 1073741824 else d.2.2 j))) no) no) no) (ret (Sum.inr ((d.1,y2),d.2)))
def CE:=bD (CD) 2000
def Hn (dG:LT eP lA):Pg Bo:=opt (dG (0,λx=>0,λx=>0)) λd=>ret d.2.2
def mi:Option Bo:=(Hn CE).val
abbrev Ho:=(LT eP lA)
def Qu (p:Ho):KK:=⟨[],⟨[⟨3,(2::rg 4 8 []),[]⟩],[fx 3 0 eP X2 p],[],[],(some ⟨0,(rg 1 11 []),[]⟩)⟩,0,213⟩
theorem aqa (p:Ho):LI (Qu p) 3 eP X2 (CD):=λ_ d c K=>by kernel_rfl
theorem aza (p:Ho):D2 (Qu p) ago (lf My) λb=>Hn p:=λb=>by kernel_rfl
abbrev Qv:Ho:=CE
theorem agp [ax]:SC (Qt mi):=sc (kS (k:=Qu Qv) (.nil _) [3] [] ⟨kL (aqa Qv),trivial⟩ trivial (aza Qv))
def asl:=qa (pr (cu aP (c (aa YX) Ft)) bA)
def ZU:=qe auB
abbrev asm:=ZU.B
abbrev EI:=NI->Int->Int->Int->Bool->Option asm
def J' (g:EI):Ct:=(124,FC asl (lf ZU) (λb=>g b.1.1 b.1.2.1 b.1.b.1 b.1.b.2 b.2))
def mj:=qs (st (pr (cu aP (us 3 (cu aEV (cu Xm (cu ah3 (cu aN7 (us 1 aLA))))))) (pl (c cj (c (so YX) (c w7 aid))) cA)))
def ajs:=qs (st (pr (cu aP (us 3 (cu aEV (cu Xm (cu ah3 (cu aN7 (us 1 (c ai aLy)))))))) (pl (c cj (c (so YX) (c w7 aid))) cA)))
abbrev yE:=ajs.B
def ajt {ρ:Type}:=@ef yE ((.ex 0)) ajs ρ
def Uo (bf:ee)(d:mj.B):PL mj yE:=let n2:=d.2.2.1;let n1:=d.2.2.2;let y0:=wI (3*d.1);let y1:=wI (d.1+1);let y2:=Int.toNat y0;let y3:=wI (y0+3);let y4:=Int.toNat y3;let y5:=decide (d.1<3);let y6:=y4-y2;ae y5 (ae (IF y3 9) (ae (IF y0 y4) (ae (Nat.beq y6 y6) (opt (bf 30 y6 3 d.2.1 (λj=>n2 (y2+j)) (cr n1.1.1 [n1.1.2.2,n1.1.2.1,n1.1.1]) false false) λaj=>ae (aX d.1 3) (ae (d.1==2) (ret (Sum.inl (y1,aj.2,n2,n1.1,n1.2.1,n1.2.2.1,aj.1))) (ae (d.1==1) (ret (Sum.inl (y1,aj.2,n2,n1.1,n1.2.1,aj.1,n1.2.2.2))) (ret (Sum.inl (y1,aj.2,n2,n1.1,aj.1,n1.2.2))))) no) no) no) no) (ret (Sum.inr ((d.1,y5),d.2)))
def Uq:=bD (Uo bo) 2000
def aeq (dG:LT mj yE)(x0:Nat->Int)(x1:Int)(x2:Int)(x3:Int)(x4:Bool):Pg asm:=opt (dG (0,x4,x0,(x1,x2,x3),0,0,0)) λd=>ret (d.2.2.2.2,d.2.1)
def nG:=λx0 x1 x2 x3 x4=>(aeq Uq x0 x1 x2 x3 x4).val
abbrev SA:=ee×(LT mj yE)
def aer (p:SA):KK:=⟨[lR p.1],⟨[⟨3,(1::2::3::8::rg 10 15 []),[]⟩],[fx 3 1 mj ajt p.2],[0],[],(some ⟨0,(rg 0 6 (rg 7 18 [])),[]⟩)⟩,1,124⟩
theorem azb (p:SA):LI (aer p) 3 mj ajt (Uo p.1):=λ_ d c K=>by kernel_rfl
theorem aHj (p:SA):D2 (aer p) asl (lf ZU) λb=>aeq p.2 b.1.1 b.1.2.1 b.1.b.1 b.1.b.2 b.2:=λb=>by kernel_rfl
abbrev aes:SA:=(bo,Uq)
theorem SB [ax]:SC (J' nG):=sc (kS (k:=aer aes) (.c nw (.nil _)) [3] [] ⟨kL (azb aes),trivial⟩ trivial (aHj aes))
def axp:=qa (pr (cu aP (c (aa YX) Ft)) bA)
def aet:=qe auB
abbrev axq:=aet.B
abbrev Dj:=NI->Int->Int->Int->Bool->Option axq
def X3 (g:Dj):Ct:=(121,FC axp (lf aet) (λb=>g b.1.1 b.1.2.1 b.1.b.1 b.1.b.2 b.2))
def nH:=qs (st (pr (cu aP (us 3 (cu aEV (cu Xm (cu ah3 (cu aN7 (us 1 aRh))))))) (pl (c cj (c (so YX) (c w7 aid))) cA)))
def aoa:=qs (st (pr (cu aP (us 3 (cu aEV (cu Xm (cu ah3 (cu aN7 (us 1 aRu))))))) (pl (c cj (c (so YX) (c w7 aid))) cA)))
abbrev BV:=aoa.B
def aob {ρ:Type}:=@ef BV ((.ex 0)) aoa ρ
def ZV (bf:ee)(d:nH.B):PL nH BV:=let n1:=d.2.2;let n3:=n1.2.2;let n2:=n1.2.1;let y0:=wI (6+d.1);let y1:=wI (d.1+1);let y2:=wI (3+d.1);let y3:=decide (d.1<3);ae y3 (ae (aX d.1 9) (ae (aX y2 9) (ae (aX y0 9) (opt (bf 30 3 3 d.2.1 (cr (n1.1 (Int.toNat d.1)) [n1.1 (Int.toNat y0),n1.1 (Int.toNat y2),n1.1 (Int.toNat d.1)]) (cr n2.1 [n2.2.2,n2.2.1,n2.1]) true false) λaj=>ae (aX d.1 3) (ae (d.1==2) (ret (Sum.inl (y1,aj.2,n1.1,n2,n3.1,n3.2.1,aj.1))) (ae (d.1==1) (ret (Sum.inl (y1,aj.2,n1.1,n2,n3.1,aj.1,n3.2.2))) (ret (Sum.inl (y1,aj.2,n1.1,n2,aj.1,n3.2))))) no) no) no) no) (ret (Sum.inr ((d.1,y3),d.2)))
def ZW:=bD (ZV bo) 2000
def aju (dG:LT nH BV)(x0:Nat->Int)(x1:Int)(x2:Int)(x3:Int)(x4:Bool):Pg axq:=opt (dG (0,x4,x0,(x1,x2,x3),0,0,0)) λd=>ret (d.2.2.2.2,d.2.1)
def wh:=λx0 x1 x2 x3 x4=>(aju ZW x0 x1 x2 x3 x4).val
abbrev X4:=ee×(LT nH BV)
def ajv (p:X4):KK:=⟨[lR p.1],⟨[⟨3,(1::2::3::8::rg 10 21 []),[]⟩],[fx 3 1 nH aob p.2],[0],[],(some ⟨0,(rg 0 6 (rg 7 24 [])),[]⟩)⟩,1,121⟩
theorem aCc (p:X4):LI (ajv p) 3 nH aob (ZV p.1):=λ_ d c K=>by kernel_rfl
theorem aKd (p:X4):D2 (ajv p) axp (lf aet) λb=>aju p.2 b.1.1 b.1.2.1 b.1.b.1 b.1.b.2 b.2:=λb=>by kernel_rfl
abbrev ajw:X4:=(bo,ZW)
theorem ajx [ax]:SC (X3 wh):=sc (kS (k:=ajv ajw) (.c nw (.nil _)) [3] [] ⟨kL (aCc ajw),trivial⟩ trivial (aKd ajw))
def asn:=qa (pl (cl (aa Ca) nil) nil)
def ZX:=qe B9
abbrev aso:=ZX.B
abbrev asp:=Int->Int->Bool->Bool->Option aso
def asq (g:asp):Ct:=(176,FC asn (lf ZX) (λb=>g b.1 b.2.1 b.b.1 b.b.2))
def aeu (x0:Int)(x1:Int)(x2:Bool)(x3:Bool):Pg aso:=let y0:=x0==0;let y1:=x0==2;ae y0 (ae y0 (ae (x1==0) (ae (!x2) (ret !x3) (ret false)) (ret false)) (ae y1 (ae y1 (ae (decide (x1>=1)) (ae (decide (x1<=3)) (ae x2 (ret true) (ret y1)) (ret false)) (ret false)) (ret false)) (ae (x0==3) (ae (decide (x1>=1)) (ae (decide (x1<=3)) (ae x2 (ret true) (ret y1)) (ret false)) (ret false)) (ret false)))) (ae (x0==1) (ae (x1==0) (ae (!x2) (ret !x3) (ret false)) (ret false)) (ae y1 (ae y1 (ae (decide (x1>=1)) (ae (decide (x1<=3)) (ae x2 (ret true) (ret y1)) (ret false)) (ret false)) (ret false)) (ae (x0==3) (ae (decide (x1>=1)) (ae (decide (x1<=3)) (ae x2 (ret true) (ret y1)) (ret false)) (ret false)) (ret false))))
def Ka:=λx0 x1 x2 x3=>(aeu x0 x1 x2 x3).val
theorem aHk:D0 [] 176 asn (lf ZX) λb=>aeu b.1 b.2.1 b.b.1 b.b.2:=λb=>by kernel_rfl
theorem aHl [ax]:SC (asq Ka):=s0 (.nil _) aHk
def asr:=qa (pl (c ai aMq) nil)
def ZY:=qe Fq
abbrev ass:=ZY.B
abbrev ast:=Int->Bool->Bool->Bool->Bool->Bool->Bool->Bool->Bool->Int->Int->Int->Option ass
def asu (g:ast):Ct:=(177,FC asr (lf ZY) (λb=>g b.1 b.2.1 b.b.1 b.b.2.1.1 b.b.2.1.2.1 b.b.2.1.b.1 b.b.2.1.b.2.1 b.b.2.1.c.1 b.b.2.1.c.2 b.c.1 b.c.2.1 b.c.b))
def aev (x0:Int)(x1:Bool)(x2:Bool)(x3:Bool)(x4:Bool)(x5:Bool)(x6:Bool)(x7:Bool)(x8:Bool)(x9:Int)(fP:Int)(fQ:Int):Pg ass:=let y0:=x0==0;let y1:=x0==1;ae x3 (ae y0 (ae x1 (ret 1) (ae y0 (ret x0) (ae y1 (ae (!x2) (ret x0) (ret 3)) (ret 3)))) (ae y0 (ret x0) (ae y1 (ae (!x2) (ret x0) (ret 3)) (ret 3)))) (ae y0 (ae x1 (ret 1) (ae y0 (ret x0) (ae y1 (ae (!x2) (ret x0) (ae x8 (ret 3) (ret 2))) (ae x8 (ret 3) (ret 2))))) (ae y0 (ret x0) (ae y1 (ae (!x2) (ret x0) (ae x8 (ret 3) (ret 2))) (ae x8 (ret 3) (ret 2)))))
def Kb:=λx0 x1 x2 x3 x4 x5 x6 x7 x8 x9 fP fQ=>(aev x0 x1 x2 x3 x4 x5 x6 x7 x8 x9 fP fQ).val
theorem aHm:D0 [] 177 asr (lf ZY) λb=>aev b.1 b.2.1 b.b.1 b.b.2.1.1 b.b.2.1.2.1 b.b.2.1.b.1 b.b.2.1.b.2.1 b.b.2.1.c.1 b.b.2.1.c.2 b.c.1 b.c.2.1 b.c.b:=λb=>by kernel_rfl
theorem aHn [ax]:SC (asu Kb):=s0 (.nil _) aHm
def ajy:=qa (pl fT nil)
def Qw:=qe Fq
abbrev ajz:=Qw.B
abbrev Ur:=Int->Option ajz
def ajA (g:Ur):Ct:=(239,FC ajy (lf Qw) (λb=>g b))
def Dk (x0:Int):Pg ajz:=ae (x0==1) (ret 1) (ae (x0==2) (ret 0) (ret 2))
def yF:=λx0=>(Dk x0).val
theorem aCd:D0 [] 239 ajy (lf Qw) λb=>Dk b:=λb=>by kernel_rfl
theorem aCe [ax]:SC (ajA yF):=s0 (.nil _) aCd
def ajB:=qa (pl (c ai aMq) nil)
def Qx:=qe auz
abbrev ajC:=Qx.B
abbrev ajD:=Int->Bool->Bool->Bool->Bool->Bool->Bool->Bool->Bool->Int->Int->Int->Option ajC
def ajE (g:ajD):Ct:=(178,FC ajB (lf Qx) (λb=>g b.1 b.2.1 b.b.1 b.b.2.1.1 b.b.2.1.2.1 b.b.2.1.b.1 b.b.2.1.b.2.1 b.b.2.1.c.1 b.b.2.1.c.2 b.c.1 b.c.2.1 b.c.b))
def jB:=qs (st (pr (c ai (us 1 (xs 1 (cu (app 0 11) (us 2 (xs 1 (us 3 (cu aSm (cu (ac aLI) aGc))))))))) (pl (c aMi (cl (so (cl gi (cu (gc auq) (cu aLM aLS)))) nil)) nil)))
def Us:=qs (st (pl (us 4 (cl ai (cu PZ aQ4))) (pu nil nil)))
def Ut:=qs (st (pr (c ai (us 1 (xs 1 (cu (app 0 11) (us 2 (xs 1 (us 3 (cu aSm (cu (ac aLI) aLL))))))))) (pl (c aMi (cl (so (cl gi (cu (gc auq) (cu aLM aLS)))) nil)) nil)))
abbrev tx:=Us.B⊕Ut.B
def aby {ρ:Type}(x:tx)(K:AX->St->Option ρ):Option ρ:=(Sum.elim (λd=>K .ret (Us.em d)) (λd=>K (.ex 0) (Ut.em d))) x
def Mz (Kc:Ur)(d:jB.B):PL jB tx:=let n6:=d.2.2;let n5:=d.2.1.2.2;let n3:=d.1.1;let n2:=d.1.2;let n1:=n5.2;let n4:=n1.2.2;let n7:=n4.2.2.1;let y0:=decide (n2<4);ae y0 (ae (aX n2 4) (ae (n2==3) (opt (Kc 3) λaj=>ae (aX aj 6) (ae (aj==5) (ae n7 (ret (Sum.inr (Sum.inl 3))) (ret (Sum.inl ((n3,wI (n2+1)),d.2)))) (ae (aj==4) (ae n4.2.1 (ret (Sum.inr (Sum.inl 3))) (ret (Sum.inl ((n3,wI (n2+1)),d.2)))) (ae (aj==3) (ae n4.1 (ret (Sum.inr (Sum.inl 3))) (ret (Sum.inl ((n3,wI (n2+1)),d.2)))) (ae (aj==2) (ae n1.2.1 (ret (Sum.inr (Sum.inl 3))) (ret (Sum.inl ((n3,wI (n2+1)),d.2)))) (ae (aj==1) (ae n1.1 (ret (Sum.inr (Sum.inl 3))) (ret (Sum.inl ((n3,wI (n2+1)),d.2)))) (ae n5.1 (ret (Sum.inr (Sum.inl 3))) (ret (Sum.inl ((n3,wI (n2+1)),d.2))))))))) no) (ae (n2==2) (opt (Kc 2) λaj=>ae (aX aj 6) (ae (aj==5) (ae n7 (ret (Sum.inr (Sum.inl 2))) (ret (Sum.inl ((n3,wI (n2+1)),d.2)))) (ae (aj==4) (ae n4.2.1 (ret (Sum.inr (Sum.inl 2))) (ret (Sum.inl ((n3,wI (n2+1)),d.2)))) (ae (aj==3) (ae n4.1 (ret (Sum.inr (Sum.inl 2))) (ret (Sum.inl ((n3,wI (n2+1)),d.2)))) (ae (aj==2) (ae n1.2.1 (ret (Sum.inr (Sum.inl 2))) (ret (Sum.inl ((n3,wI (n2+1)),d.2)))) (ae (aj==1) (ae n1.1 (ret (Sum.inr (Sum.inl 2))) (ret (Sum.inl ((n3,wI (n2+1)),d.2)))) (ae n5.1 (ret (Sum.inr (Sum.inl 2))) (ret (Sum.inl ((n3,wI (n2+1)),d.2))))))))) no) (ae (n2==1) (opt (Kc 1) λaj=>ae (aX aj 6) (ae (aj==5) (ae n7 (ret (Sum.inr (Sum.inl 1))) (ret (Sum.inl ((n3,wI (n2+1)),d.2)))) (ae (aj==4) (ae n4.2.1 (ret (Sum.inr (Sum.inl 1))) (ret (Sum.inl ((n3,wI (n2+1)),d.2)))) (ae (aj==3) (ae n4.1 (ret (Sum.inr (Sum.inl 1))) (ret (Sum.inl ((n3,wI (n2+1)),d.2)))) (ae (aj==2) (ae n1.2.1 (ret (Sum.inr (Sum.inl 1))) (ret (Sum.inl ((n3,wI (n2+1)),d.2)))) (ae (aj==1) (ae n1.1 (ret (Sum.inr (Sum.inl 1))) (ret (Sum.inl ((n3,wI (n2+1)),d.2)))) (ae n5.1 (ret (Sum.inr (Sum.inl 1))) (ret (Sum.inl ((n3,wI (n2+1)),d.2))))))))) no) (ae (decide (n6>=1)) (ae (decide (n6<=3)) (opt (Kc n6) λaj=>ae (aX aj 6) (ae (aj==5) (ae n7 (ret (Sum.inr (Sum.inl n6))) (ret (Sum.inl ((n3,wI (n2+1)),d.2)))) (ae (aj==4) (ae n4.2.1 (ret (Sum.inr (Sum.inl n6))) (ret (Sum.inl ((n3,wI (n2+1)),d.2)))) (ae (aj==3) (ae n4.1 (ret (Sum.inr (Sum.inl n6))) (ret (Sum.inl ((n3,wI (n2+1)),d.2)))) (ae (aj==2) (ae n1.2.1 (ret (Sum.inr (Sum.inl n6))) (ret (Sum.inl ((n3,wI (n2+1)),d.2)))) (ae (aj==1) (ae n1.1 (ret (Sum.inr (Sum.inl n6))) (ret (Sum.inl ((n3,wI (n2+1)),d.2)))) (ae n5.1 (ret (Sum.inr (Sum.inl n6))) (ret (Sum.inl ((n3,wI (n2+1)),d.2))))))))) no) (ret (Sum.inl ((n3,wI (n2+1)),d.2)))) (ret (Sum.inl ((n3,wI (n2+1)),d.2))))))) no) (ret (Sum.inr (Sum.inr ((n3,n2,y0),d.2))))
def MA:=bD (Mz yF) 2000
def Uu (dG:LT jB tx)(x0:Int)(x1:Bool)(x2:Bool)(x3:Bool)(x4:Bool)(x5:Bool)(x6:Bool)(x7:Bool)(x8:Bool)(x9:Int)(fP:Int)(fQ:Int):Pg ajC:=opt (dG ((x0,0),(x1,x2,x3,x4,x5,x6,x7,x8,x9,fP,fQ),fQ)) λx=>sum x (λd=>ret (d,true)) λd=>ret (if 1>d.1.1 then 1 else d.1.1,false)
def Dl:=λx0 x1 x2 x3 x4 x5 x6 x7 x8 x9 fP fQ=>(Uu MA x0 x1 x2 x3 x4 x5 x6 x7 x8 x9 fP fQ).val
abbrev Kd:=Ur×(LT jB tx)
def Uv (p:Kd):KK:=⟨[ajA p.1],⟨[⟨2,(1::4::5::7::8::9::rg 13 6 (21::22::rg 28 5 (19::20::rg 23 5 []))),[]⟩],[fx 2 0 jB aby p.2],[],[],(some ⟨0,(rg 0 4 (rg 6 27 [])),[]⟩)⟩,0,178⟩
theorem asv (p:Kd):LI (Uv p) 2 jB aby (Mz p.1):=λ_ d c K=>by kernel_rfl
theorem aCf (p:Kd):D2 (Uv p) ajB (lf Qx) λb=>Uu p.2 b.1 b.2.1 b.b.1 b.b.2.1.1 b.b.2.1.2.1 b.b.2.1.b.1 b.b.2.1.b.2.1 b.b.2.1.c.1 b.b.2.1.c.2 b.c.1 b.c.2.1 b.c.b:=λb=>by kernel_rfl
abbrev Uw:Kd:=(yF,MA)
theorem aCg [ax]:SC (ajE Dl):=sc (kS (k:=Uv Uw) (.c aCe (.nil _)) [2] [] ⟨kL (asv Uw),trivial⟩ trivial (aCf Uw))
def Ke:=qa (pl (c (aa Ca) aMq) nil)
def aD5:=qe (res (pl (py (c (ra Ca) (cl (ra (c gi (c gi (c gb aGj)))) nil))) (pu nil nil)))
abbrev aew:=(tM×Int×Int)
def asw:aew->T:=λd=>lf aD5 (d.1,d.1.1,d.1.2.1,d.1.b.1,d.1.b.2,d.2)
abbrev aex:=Ke.B->Option aew
def asx (g:aex):Ct:=(111,FC Ke asw g)
def aey (SD:asp)(Kf:ast)(Dm:ajD)(x:Ke.B):Pg aew:=let n8:=x.2.2.1;let n7:=x.1.1;let n4:=x.1.2.1;let n1:=x.2.2.2;let n9:=n1.1.2.1;let n6:=n1.2.1;let n3:=n1.2.2;let n2:=n1.1.2.2;let n5:=n2.2.2;let y0:=decide (n6>=0);opt (SD n7 n4 x.1.2.2.1 x.1.2.2.2) λd=>ae (!d) (opt (Kf 0 x.2.1 n8 n1.1.1 n9 n2.1 n2.2.1 n5.1 n5.2 n6 n3.1 n3.2) λd=>ae (decide (d>=2)) (opt (Dm 0 x.2.1 n8 n1.1.1 n9 n2.1 n2.2.1 n5.1 n5.2 n6 n3.1 n3.2) λaj=>ae (d==3) (ret ((d,aj.1,true,!aj.2),0,0)) (ae y0 (ret ((d,aj.1,decide (n6<=n3.1),!aj.2),0,0)) (ret ((d,aj.1,false,!aj.2),0,0)))) (ret ((d,0,false,false),0,0))) (opt (Kf n7 x.2.1 n8 n1.1.1 n9 n2.1 n2.2.1 n5.1 n5.2 n6 n3.1 n3.2) λd=>ae (decide (d>=2)) (opt (Dm n4 x.2.1 n8 n1.1.1 n9 n2.1 n2.2.1 n5.1 n5.2 n6 n3.1 n3.2) λaj=>ae (d==3) (ret ((d,aj.1,true,!aj.2),n7,n4)) (ae y0 (ret ((d,aj.1,decide (n6<=n3.1),!aj.2),n7,n4)) (ret ((d,aj.1,false,!aj.2),n7,n4)))) (ret ((d,0,false,false),n7,n4)))
def Kg:=λx=>(aey Ka Kb Dl x).val
theorem aHo:∀SD Kf Dm,D0 [asq SD,asu Kf,ajE Dm] 111 Ke asw λb=>aey SD Kf Dm b:=λ_ _ _ b=>by kernel_rfl
theorem aHp [ax]:SC (asx Kg):=s0 (.c aHl (.c aHn (.c aCg (.nil _)))) (aHo Ka Kb Dl)
def aCh:=qa (dp (cu aP aGe) λa=>(c uV (cl (cl (gs a.1 apw) nil) nil)))
def ajF:=qe (res (pr ac1 (pl L4 nil)))
abbrev aCi:=ajF.B
abbrev z8:=Nat->Bool->NI->NI->NI->Bool->Option aCi
def HZ (g:z8):Ct:=(153,sW 1 [.i .i64,.i .i64,.i .i64] (FC aCh (lf ajF) (λb=>g b.1.1 b.2.1 b.b.1 b.b.2.1 b.c b.1.2)))
def pJ:=qs (st (dp (cu aP (c aAv (us 2 (cu Xm (cu ah3 (c ai (c aSe (us 2 (c ai (us 2 (c aAv (c ai (cl ai (us 17 nil)))))))))))))) λa=>(pl (c cj (c (so (cl (gs a.1.1 apw) nil)) (cu (so apB) (c w7 (cl (so (cl (gs a.b.1 mF) nil)) nil))))) cA)))
def aHq:=qs (st (pr (cu aP (c aAv (us 2 (cu Xm (cu ah3 (c ai (c aSe (us 2 (c ai (us 2 (c aAv (c ai (c ai (cl ab (us 16 nil))))))))))))))) (pl (c cj (c aAC (cu (so apB) (c w7 ah7)))) cA)))
abbrev EJ:=(((Nat×Bool)×Int×Nat×Int×(Nat×Bool)×Int×Int×Bool)×Bool×(NI×NI×NI)×nr×NI)
def asy {ρ:Type}(x:EJ)(K:AX->St->Option ρ):Option ρ:=(λd=>K (.ex 2) (aHq.em (d.1,d.2.1,(d.1.1.1,d.b.1),d.b.2.1,d.1.b.1,d.c))) x
def aez (d:pJ.B):PL pJ EJ:=let n5:=d.1.2.1;let n3:=d.2.2;let n2:=d.1.2.2;let n4:=n2.2.2.2;let y0:=n2.1+1;let n1:=(d.1.1,n5,y0,n2.2.1,n2.2.2.1,n4.1,wI (n4.2+1));let y1:=Int.toNat n4.2;let y2:=Nat.ble (y0*8) 140737488355328;let y3:=decide (n4.2<n4.1);ae y3 (ae (aX n4.2 n2.2.2.1.1) (ae (aX n5 3) (ae (n5==2) (ae y2 (ret (Sum.inl (n1,d.2.1,n3.1,n3.2.1,λj=>bif Nat.beq j n2.1 then n3.1.2.2 y1 else n3.2.2 j))) no) (ae (n5==1) (ae y2 (ret (Sum.inl (n1,d.2.1,n3.1,n3.2.1,λj=>bif Nat.beq j n2.1 then n3.1.2.1 y1 else n3.2.2 j))) no) (ae y2 (ret (Sum.inl (n1,d.2.1,n3.1,n3.2.1,λj=>bif Nat.beq j n2.1 then n3.1.1 y1 else n3.2.2 j))) no))) no) no) (ret (Sum.inr ((d.1.1,n5,n2.1,n2.2.1,n2.2.2.1,n4.1,n4.2,y3),d.2)))
def aeA:=bD (aez) 2000
def pK:=qs (st (dp (cu aP (c aAv (us 2 (cu Xm (cu ah3 (us 4 aRi)))))) λa=>(pl (c cj (c (so (cl (gs a.1.1 apw) nil)) aid)) cA)))
def aHr:=qs (st (pr (cu aP (c aAv (us 2 (cu Xm (cu ah3 (us 4 (c ai aLz))))))) (pl (c cj (c aAC aid)) cA)))
abbrev EK:=(((Nat×Bool)×Int×Bool)×Bool×(NI×NI×NI)×Int×Int×Int)
def asz {ρ:Type}(x:EK)(K:AX->St->Option ρ):Option ρ:=(λd=>K (.ex 0) (aHr.em (d.1,d.2.1,(d.1.1.1,d.b.1),d.b.2))) x
def aeB (bV:eM)(qd:LT pJ EJ)(d:pK.B):PL pK EK:=let n3:=d.1.1;let y0:=decide (d.1.2<3);ae y0 (ae (Nat.beq n3.1 n3.1) (ae true (opt (qd ((n3,d.1.2,0,d.1.2,n3,Int.ofNat n3.1,0),d.2.1,d.2.2.1,d.2.2.2,λx=>0)) λd=>let n2:=d.2.2;let n4:=n2.2.1;let n1:=d.1.2;ae (Nat.beq n1.2.1 n1.2.1) (opt (bV n1.2.1 d.2.1 n2.2.2 true) λaj=>ae (aX n1.1 3) (ae (n1.1==2) (ret (Sum.inl ((d.1.1,wI (n1.2.2.1+1)),aj.2,n2.1,n4.1,n4.2.1,aj.1))) (ae (n1.1==1) (ret (Sum.inl ((d.1.1,wI (n1.2.2.1+1)),aj.2,n2.1,n4.1,aj.1,n4.2.2))) (ret (Sum.inl ((d.1.1,wI (n1.2.2.1+1)),aj.2,n2.1,aj.1,n4.2))))) no) no) no) no) (ret (Sum.inr ((n3,d.1.2,y0),d.2)))
def aeC:=bD (aeB cF aeA) 2000
def aqb (dG:LT pK EK)(x0:Nat)(x1:Bool)(x2:Nat->Int)(x3:Nat->Int)(x4:Nat->Int)(w0:Bool):Pg aCi:=ae (Nat.beq x0 x0) (opt (dG (((x0,w0),0),x1,(x2,x3,x4),0,0,0)) λd=>ret (d.2.2.2,d.2.1)) no
def jr:=λx0 x1 x2 x3 x4 w0=>(aqb aeC x0 x1 x2 x3 x4 w0).val
abbrev Ux:=eM×(LT pJ EJ)×(LT pK EK)
def aeD (p:Ux):KK:=⟨[nu p.1],⟨[⟨3,(2::3::rg 6 4 (rg 11 22 [])),[]⟩,⟨7,(2::3::8::9::11::12::rg 16 17 []),[(7,[.i .i64])]⟩],[fx 7 2 pJ asy p.2.1,fx 3 2 pK asz p.b],[0],[],(some ⟨0,(rg 0 4 (rg 5 28 [])),[]⟩)⟩,2,153⟩
theorem aD6 (p:Ux):LI (aeD p) 7 pJ asy (aez):=λ_ d c K=>by kernel_rfl
theorem aD7 (p:Ux):LI (aeD p) 3 pK asz (aeB p.1 p.2.1):=λ_ d c K=>by kernel_rfl
theorem aNx (p:Ux):D2 (aeD p) aCh (lf ajF) λb=>aqb p.b b.1.1 b.2.1 b.b.1 b.b.2.1 b.c b.1.2:=λb=>by kernel_rfl
abbrev aeE:Ux:=(cF,aeA,aeC)
theorem MB [ax]:SC (HZ jr):=sc (Sound.nil 1 [.i .i64,.i .i64,.i .i64]<|kS (k:=aeD aeE) (.c pG (.nil _)) [3,7] [] ⟨kL (aD7 aeE),⟨kL (aD6 aeE),trivial⟩⟩ trivial (aNx aeE))
def asA:=qa (pr (cu aP apA) bA)
def ZZ:=qe auC
abbrev asD:=ZZ.B
abbrev gQ:=Int->Int->Int->Int->Bool->Option asD
def ml (g:gQ):Ct:=(86,FC asA (lf ZZ) (λb=>g b.1.1 b.1.2.1 b.1.b.1 b.1.b.2 b.2))
def mn:=qs (st (pr (cu aP (us 2 (cu am4 (cu awq (c ai (us 8 (c ai (us 4 aGb)))))))) (pl (c cj (cl uX (cu aic nil))) cA)))
def ajG:=qs (st (pr (cu aP (us 2 (cu am4 (cu awq (c ai (us 8 (c ai (us 4 aGg)))))))) (pl (c cj (cl uX (cu aic nil))) cA)))
abbrev yG:=ajG.B
def ajH {ρ:Type}:=@ef yG ((.ex 2)) ajG ρ
def Uy (aD:cx)(d:mn.B):PL mn yG:=let n6:=d.1.1;let n4:=d.1.2.2;let n2:=d.2.2;let n5:=n2.2.1;let n3:=n2.2.2;let n1:=(n6,d.1.2.1,wI (n4+1));let y0:=aX n4 4;let y1:=n4==2;let y2:=n4==1;let y3:=n4==3;let y4:=decide (n4<4);ae y4 (ae y0 (ae y3 (opt (aD n3.2 n6 30 d.2.1) λaj=>ae y0 (ae y3 (ret (Sum.inl (n1,aj.2,n2.1,n5,n3.1,aj.1))) (ae y1 (ret (Sum.inl (n1,aj.2,n2.1,n5,aj.1,n3.2))) (ae y2 (ret (Sum.inl (n1,aj.2,n2.1,aj.1,n3))) (ret (Sum.inl (n1,aj.2,aj.1,n2.2)))))) no) (ae y1 (opt (aD n3.1 n6 30 d.2.1) λaj=>ae y0 (ae y3 (ret (Sum.inl (n1,aj.2,n2.1,n5,n3.1,aj.1))) (ae y1 (ret (Sum.inl (n1,aj.2,n2.1,n5,aj.1,n3.2))) (ae y2 (ret (Sum.inl (n1,aj.2,n2.1,aj.1,n3))) (ret (Sum.inl (n1,aj.2,aj.1,n2.2)))))) no) (ae y2 (opt (aD n5 n6 30 d.2.1) λaj=>ae y0 (ae y3 (ret (Sum.inl (n1,aj.2,n2.1,n5,n3.1,aj.1))) (ae y1 (ret (Sum.inl (n1,aj.2,n2.1,n5,aj.1,n3.2))) (ae y2 (ret (Sum.inl (n1,aj.2,n2.1,aj.1,n3))) (ret (Sum.inl (n1,aj.2,aj.1,n2.2)))))) no) (opt (aD n2.1 n6 30 d.2.1) λaj=>ae y0 (ae y3 (ret (Sum.inl (n1,aj.2,n2.1,n5,n3.1,aj.1))) (ae y1 (ret (Sum.inl (n1,aj.2,n2.1,n5,aj.1,n3.2))) (ae y2 (ret (Sum.inl (n1,aj.2,n2.1,aj.1,n3))) (ret (Sum.inl (n1,aj.2,aj.1,n2.2)))))) no)))) no) (ret (Sum.inr ((n6,d.1.2.1,n4,y4),d.2)))
def Uz:=bD (Uy bm) 2000
def mo:=qs (st (pr (cu aP (us 2 (cu am4 (cu awq (us 9 aLC))))) (pl (c cj (cl uX (cu aic nil))) cA)))
def ajI:=qs (st (pr (cu aP (us 2 (cu am4 (cu awq (us 9 aGh))))) (pl (c cj (cl uX (cu aic nil))) cA)))
abbrev yH:=ajI.B
def ajJ {ρ:Type}:=@ef yH ((.ex 0)) ajI ρ
def UA (jf:xc)(qd:LT mn yG)(d:mo.B):PL mo yH:=let n1:=d.2.2;let y0:=decide (d.1<2);ae y0 (opt (jf 4 d.2.1 (cr n1.1 [n1.2.2.2,n1.2.2.1,n1.2.1,n1.1]) false) λaj=>opt (qd ((aj.1,d.1,0),aj.2,n1)) λd=>ret (Sum.inl (wI (d.1.2.1+1),d.2))) (ret (Sum.inr ((d.1,y0),d.2)))
def UB:=bD (UA fL Uz) 2000
def aeF (ou:ON)(gM:zy)(dG:LT mo yH)(x0:Int)(x1:Int)(x2:Int)(x3:Int)(x4:Bool):Pg asD:=opt (ou x0 x1 x2 x3 x4) λd=>ae (d.1.1==0&&(d.1.2.1==0&&(d.1.2.2.1==0&&(d.1.2.2.2==0&&true)))) (opt gM λaj=>ret ((1073741824,0,0,0),d.2)) (opt (dG (0,d.2,d.1)) λd=>ret (d.2.2,d.2.1))
def cW:=λx0 x1 x2 x3 x4=>(aeF we mJ UB x0 x1 x2 x3 x4).val
abbrev Kh:=ON×zy×xc×cx×(LT mn yG)×(LT mo yH)
def SE (p:Kh):KK:=⟨[XU p.1,IT p.2.1,Gu p.b.1,fK p.b.2.1],⟨[⟨5,(1::2::rg 5 9 (rg 15 18 [])),[]⟩,⟨8,(1::2::rg 6 8 (rg 15 4 (rg 20 13 []))),[]⟩],[fx 8 1 mn ajH p.c.1,fx 5 1 mo ajJ p.c.2],[],[],(some ⟨0,(rg 0 4 (rg 5 28 [])),[]⟩)⟩,1,86⟩
theorem azc (p:Kh):LI (SE p) 8 mn ajH (Uy p.b.2.1):=λ_ d c K=>by kernel_rfl
theorem azd (p:Kh):LI (SE p) 5 mo ajJ (UA p.b.1 p.c.1):=λ_ d c K=>by kernel_rfl
theorem aHs (p:Kh):D2 (SE p) asA (lf ZZ) λb=>aeF p.1 p.2.1 p.c.2 b.1.1 b.1.2.1 b.1.b.1 b.1.b.2 b.2:=λb=>by kernel_rfl
abbrev SF:Kh:=(we,mJ,fL,bm,Uz,UB)
theorem nI [ax]:SC (ml cW):=sc (kS (k:=SE SF) (.c aji (.c OO (.c N4 (.c gD (.nil _))))) [5,8] [] ⟨kL (azd SF),⟨kL (azc SF),trivial⟩⟩ trivial (aHs SF))
def abz:=qa (pr (cu aP (cl yi (cu Ox nil))) (c uV (cl aAx nil)))
def Ki:=qe (res (pu aQ5 (pr L4 (cl aRv nil))))
abbrev MC:=Ki.B
abbrev MD:=NI->NI->Bool->NI->Option MC
def abA (g:MD):Ct:=(216,FC abz (lf Ki) (λb=>g b.1.1 b.1.2 b.2.1 b.b))
def dP:=qs (st (pr (cu aP (us 1 (cu Ox (us 1 (cu Xn (us 2 (cu Xo (c ai (cu am5 (us 3 (c ai (us 3 (c ai (cl ai (us 35 nil))))))))))))))) (pl (c cj (c lp (c hI (c Fs HK)))) cA)))
def UC:=qs (st (pr (cu aP (us 1 (cu Ox (us 1 (cu Xn (us 2 (cu Xo (c ai (cu am5 (us 3 (c ai (us 3 (c ai (c ai (cl ab (us 34 nil)))))))))))))))) (pl (c cj (c lp (c hI (c Fs HK)))) cA)))
abbrev j9:=UC.B
def UD {ρ:Type}:=@ef j9 ((.ex 2)) UC ρ
def Aa (ajK:Um)(d:dP.B):PL dP j9:=let n2:=d.2.2.2;let n1:=d.1.2.2;let y0:=Int.toNat n1.2;let y1:=decide (n1.2<n1.1);ae y1 (opt (ajK n2.1.1 n2.1.2 n1.2 d.1.1) λaj=>ae (aX n1.2 24) (ae (true&&Nat.ble (0+y0*1+1) 24) (ret (Sum.inl ((d.1.1,d.1.2.1,n1.1,wI (n1.2+1)),d.2.1,d.2.2.1,n2.1,n2.2.1,λj=>bif Nat.beq j y0 then aj else n2.2.2 j))) no) no) (ret (Sum.inr ((d.1.1,d.1.2.1,n1.1,n1.2,y1),d.2)))
def Ac:=bD (Aa Di) 2000
def dQ:=qs (st (pr (cu aP (us 1 (cu Ox (us 1 (cu Xn (us 2 (cu Xo (c ai (cu am5 (us 3 (c ai (us 14 (cl ai (us 25 nil)))))))))))))) (pl (c cj (c lp (c hI (c Fs HK)))) cA)))
def UE:=qs (st (pr (cu aP (us 1 (cu Ox (us 1 (cu Xn (us 2 (cu Xo (c ai (cu am5 (us 3 (c ai (us 14 (c ai (cl ab (us 24 nil))))))))))))))) (pl (c cj (c lp (c hI (c Fs HK)))) cA)))
abbrev ka:=UE.B
def UF {ρ:Type}:=@ef ka ((.ex 4)) UE ρ
def Ad (bf:ee)(d:dQ.B):PL dQ ka:=let n2:=d.2.2;let n1:=d.1.2;let y0:=Int.toNat n1.2;let y1:=aX n1.2 24;let y2:=decide (n1.2<24);let y3:=y0*48+Int.toNat d.1.1;ae y2 (ae y1 (opt (bf 30 24 24 d.2.1 (λj=>n2.1 (0+y0*24+j)) n2.2.2.2 false false) λaj=>ae y1 (ae (aX d.1.1 48) (ae (true&&Nat.ble (0+y3*1+1) 1152) (ret (Sum.inl ((d.1.1,n1.1,wI (n1.2+1)),aj.2,n2.1,n2.2.1,λj=>bif Nat.beq j y3 then aj.1 else n2.2.2.1 j,n2.2.2.2))) no) no) no) no) (ret (Sum.inr ((d.1.1,n1.1,n1.2,y2),d.2)))
def Ae:=bD (Ad bo) 2000
def dR:=qs (st (pr (us 7 (cu aQ5 (us 37 aLF))) (pl (c cj (c lp (cl Fs nil))) cA)))
def UG:=qs (st (pr (us 7 (cu aQ5 (us 37 aGi))) (pl (c cj (c lp (cl Fs nil))) cA)))
abbrev kc:=UG.B
def UH {ρ:Type}:=@ef kc ((.ex 6)) UG ρ
def Af (d:dR.B):PL dR kc:=let y0:=wI (24+d.1);let y1:=decide (d.1<24);let y2:=Int.toNat d.1*48+Int.toNat y0;ae y1 (ae (aX d.1 24) (ae (aX y0 48) (ae (true&&Nat.ble (0+y2*1+1) 1152) (ret (Sum.inl (wI (d.1+1),d.2.1,d.2.2.1,λj=>bif Nat.beq j y2 then 1073741824 else d.2.2.2 j))) no) no) no) (ret (Sum.inr ((d.1,y1),d.2)))
def Ag:=bD (Af) 2000
def dS:=qs (st (pr (cu aP (us 1 (cu Ox (us 1 (cu Xn (us 2 (cu Xo (us 5 (cl ai (us 40 nil)))))))))) (pl (c cj (c lp (c hI (cl Fs nil)))) cA)))
def UI:=qs (st (pr (cu aP (us 1 (cu Ox (us 1 (cu Xn (us 2 (cu Xo (us 5 (c ai (cl ab (us 39 nil))))))))))) (pl (c cj (c lp (c hI (cl Fs nil)))) cA)))
abbrev kd:=UI.B
def UJ {ρ:Type}:=@ef kd ((.ex 0)) UI ρ
def Ah (qd:LT dP j9)(Kj:LT dQ ka)(d:dS.B):PL dS kd:=let y0:=decide (d.1<24);ae y0 (opt (qd ((d.1,d.1,wI (d.1+1),0),d.2.1,d.2.2.1,d.2.2.2.1,d.2.2.2.2,λx=>0)) λd=>opt (Kj ((d.1.1,d.1.2.1,0),d.2)) λd=>ret (Sum.inl (wI (d.1.2.1+1),d.2.1,d.2.2.1,d.2.2.2.1,d.2.2.2.2.1))) (ret (Sum.inr ((d.1,y0),d.2)))
def Ai:=bD (Ah Ac Ae) 2000
def EL (l_3:LT dR kc)(dG:LT dS kd)(x0:Nat->Int)(x1:Nat->Int)(x2:Bool)(x3:Nat->Int):Pg MC:=opt (dG (0,x2,x3,(x0,x1),λx=>0)) λd=>opt (l_3 (0,d.2.1,d.2.2.1,d.2.2.2.2)) λd=>ret (d.2.1,d.2.2.2)
def oY:=λx0 x1 x2 x3=>(EL Ag Ai x0 x1 x2 x3).val
abbrev oZ:=Um×ee×(LT dP j9)×(LT dQ ka)×(LT dR kc)×(LT dS kd)
def tz (p:oZ):KK:=⟨[asi p.1,lR p.2.1],⟨[⟨3,(1::3::5::6::rg 8 5 (rg 14 40 [])),[]⟩,⟨7,(1::3::5::6::10::11::12::14::15::16::rg 19 35 []),[]⟩,⟨12,(1::3::5::6::10::11::12::rg 14 14 (rg 29 25 [])),[]⟩,⟨18,(rg 0 7 (rg 8 37 (rg 46 8 []))),[]⟩],[fx 7 2 dP UD p.b.1,fx 12 2 dQ UF p.b.2.1,fx 18 2 dR UH p.c.1,fx 3 2 dS UJ p.c.2],[0],[],(some ⟨0,(rg 0 6 (rg 7 47 [])),[]⟩)⟩,2,216⟩
theorem amo (p:oZ):LI (tz p) 7 dP UD (Aa p.1):=λ_ d c K=>by kernel_rfl
theorem amp (p:oZ):LI (tz p) 12 dQ UF (Ad p.2.1):=λ_ d c K=>by kernel_rfl
theorem amq (p:oZ):LI (tz p) 18 dR UH (Af):=λ_ d c K=>by kernel_rfl
theorem amr (p:oZ):LI (tz p) 3 dS UJ (Ah p.b.1 p.b.2.1):=λ_ d c K=>by kernel_rfl
theorem avs (p:oZ):D2 (tz p) abz (lf Ki) λb=>EL p.c.1 p.c.2 b.1.1 b.1.2 b.2.1 b.b:=λb=>by kernel_rfl
abbrev tC:oZ:=(Di,bo,Ac,Ae,Ag,Ai)
theorem avt [ax]:SC (abA oY):=sc (kS (k:=tz tC) (.c aB8 (.c nw (.nil _))) [3,7,12,18] [] ⟨kL (amr tC),⟨kL (amo tC),⟨kL (amp tC),⟨kL (amq tC),trivial⟩⟩⟩⟩ trivial (avs tC))
def asE:=qa (pl apz nil)
def Z0:=qe aR4
abbrev asG:=Z0.B
abbrev dy:=NI->Option asG
def iL (g:dy):Ct:=(68,FC asE (lf Z0) (λb=>g b))
def aeG (x0:Nat->Int):Pg asG:=ret (x0 0,x0 1,x0 2,x0 3)
def bY:=λx0=>(aeG x0).val
theorem aHt:D0 [] 68 asE (lf Z0) λb=>aeG b:=λb=>by kernel_rfl
theorem jC [ax]:SC (iL bY):=s0 (.nil _) aHt
def agq:=qa (pl (c jX apA) nil)
def ME:=qe aL5
abbrev agr:=ME.B
abbrev Hp:=NI->Int->Int->Int->Int->Option agr
def Qy (g:Hp):Ct:=(85,FC agq (lf ME) (λb=>g b.1 b.2.1 b.b.1 b.b.2.1 b.c))
def Qz (x0:Nat->Int)(x1:Int)(x2:Int)(x3:Int)(x4:Int):Pg agr:=ret λj=>bif Nat.beq j 3 then x4 else bif Nat.beq j 2 then x3 else bif Nat.beq j 1 then x2 else bif Nat.beq j 0 then x1 else x0 j
def rA:=λx0 x1 x2 x3 x4=>(Qz x0 x1 x2 x3 x4).val
theorem aze:D0 [] 85 agq (lf ME) λb=>Qz b.1 b.2.1 b.b.1 b.b.2.1 b.c:=λb=>by kernel_rfl
theorem ags [ax]:SC (Qy rA):=s0 (.nil _) aze
def aoc:=qa (pr (c ai (c ai (c ai (cl ai (cu aP (cu am4 nil)))))) (cu aLD (c ac4 bA)))
def UK:=qe aR6
abbrev aod:=UK.B
abbrev aoe:=Int->Int->Int->Int->Int->Int->Int->Int->Bool->Option aod
def aof (g:aoe):Ct:=(210,FC aoc (lf UK) (λb=>g b.1.1 b.1.2.1 b.1.b.1 b.1.b.2 b.2.1.1 b.2.1.2.1 b.2.1.b.1 b.2.1.b.2 b.b))
def Z1 (bf:ee)(x0:Int)(x1:Int)(x2:Int)(x3:Int)(x4:Int)(x5:Int)(x6:Int)(x7:Int)(x8:Bool):Pg aod:=opt (bf 30 4 4 x8 (cr x4 [x7,x6,x5,x4]) (cr x0 [x3,x2,x1,x0]) false true) λd=>ret d
def Gw:=λx0 x1 x2 x3 x4 x5 x6 x7 x8=>(Z1 bo x0 x1 x2 x3 x4 x5 x6 x7 x8).val
theorem aD8:∀bf,D0 [lR bf] 210 aoc (lf UK) λb=>Z1 bf b.1.1 b.1.2.1 b.1.b.1 b.1.b.2 b.2.1.1 b.2.1.2.1 b.2.1.b.1 b.2.1.b.2 b.b:=λ_ b=>by kernel_rfl
theorem aD9 [ax]:SC (aof Gw):=s0 (.c nw (.nil _)) (aD8 bo)
def ajL:=qa (pr (cu aP fT) bA)
def QA:=qe auC
abbrev ajM:=QA.B
abbrev ajN:=Int->Bool->Option ajM
def ajO (g:ajN):Ct:=(123,FC ajL (lf QA) (λb=>g b.1 b.2))
def UL (cT:wb)(aC:bK)(gk:OK)(dD:IQ)(bn:gQ)(x0:Int)(x1:Bool):Pg ajM:=opt (cT x0) λd=>opt (aC d 536870912 30 x1) λd=>opt (gk d.1 d.2) λaj=>opt (dD d.1 aj.2) λd=>opt (bn aj.1 0 0 d.1 d.2) λd=>ret d
def Dn:=λx0 x1=>(UL jy aU qg mH cW x0 x1).val
theorem aCj:∀cT aC gk dD bn,D0 [zW cT,eL aC,OL gk,IS dD,ml bn] 123 ajL (lf QA) λb=>UL cT aC gk dD bn b.1 b.2:=λ_ _ _ _ _ b=>by kernel_rfl
theorem aCk [ax]:SC (ajO Dn):=s0 (.c EB (.c eY (.c XR (.c OJ (.c nI (.nil _)))))) (aCj jy aU qg mH cW)
def axr:=qa (pr (cu aP (c ac6 apA)) bA)
def aeH:=qe auC
abbrev axs:=aeH.B
abbrev wj:=Int->Int->Int->Int->Int->Int->Int->Int->Bool->Option axs
def Dp (g:wj):Ct:=(156,FC axr (lf aeH) (λb=>g b.1.1.1 b.1.1.2.1 b.1.1.b.1 b.1.1.b.2 b.1.2.1 b.1.b.1 b.1.b.2.1 b.1.c b.2))
def ajP (ou:ON)(xg:aoe)(x0:Int)(x1:Int)(x2:Int)(x3:Int)(x4:Int)(x5:Int)(x6:Int)(x7:Int)(x8:Bool):Pg axs:=opt (ou x0 x1 x2 x3 x8) λd=>let n1:=d.1.2;opt (ou x4 x5 x6 x7 d.2) λaj=>let n2:=aj.1.2;let y0:=wI (0-n2.1);let y1:=wI (0-n2.2.1);let y2:=wI (0-n2.2.2);opt (xg aj.1.1 y0 y1 y2 d.1.1 n1.1 n1.2.1 n1.2.2 aj.2) λaI=>opt (xg n2.1 aj.1.1 n2.2.2 y1 d.1.1 n1.1 n1.2.1 n1.2.2 aI.2) λbz=>opt (xg n2.2.1 y2 aj.1.1 n2.1 d.1.1 n1.1 n1.2.1 n1.2.2 bz.2) λcq=>opt (xg n2.2.2 n2.2.1 y0 aj.1.1 d.1.1 n1.1 n1.2.1 n1.2.2 cq.2) λd=>ret ((aI.1,bz.1,cq.1,d.1),d.2)
def ke:=λx0 x1 x2 x3 x4 x5 x6 x7 x8=>(ajP we Gw x0 x1 x2 x3 x4 x5 x6 x7 x8).val
theorem aKe:∀ou xg,D0 [XU ou,aof xg] 156 axr (lf aeH) λb=>ajP ou xg b.1.1.1 b.1.1.2.1 b.1.1.b.1 b.1.1.b.2 b.1.2.1 b.1.b.1 b.1.b.2.1 b.1.c b.2:=λ_ _ b=>by kernel_rfl
theorem IU [ax]:SC (Dp ke):=s0 (.c aji (.c aD9 (.nil _))) (aKe we Gw)
def aFC:=qa (pr (cu aP apA) bA)
def aqc:=qe (res (pr (aa YX) (pl lk nil)))
abbrev aFD:=aqc.B
abbrev o6:=Int->Int->Int->Int->Bool->Option aFD
def BW (g:o6):Ct:=(122,FC aFC (lf aqc) (λb=>g b.1.1 b.1.2.1 b.1.b.1 b.1.b.2 b.2))
def r8:=qs (st (pr (us 2 (cu Oy (cu awq (cu (app 3 9) (us 3 aLG))))) (pl (c cj (cu (so (cu (gp 0 1) nil)) (c uX (cl (so YX) nil)))) cA)))
def axt:=qs (st (pr (us 2 (cu Oy (cu awq (cu (app 3 9) (us 3 aRw))))) (pl (c cj (cu (so (cu (gp 0 1) nil)) (c uX (cl (so YX) nil)))) cA)))
abbrev IV:=axt.B
def axu {ρ:Type}:=@ef IV ((.ex 0)) axt ρ
def ajQ (aw:bG)(d:r8.B):PL r8 IV:=let n2:=d.2.2.2;let n1:=d.2.2.1;let n4:=n1.2.1;let n3:=n1.2.2;let y0:=aX d.1 4;let y1:=d.1==2;let y2:=d.1==1;let y3:=d.1==3;let y4:=wI (d.1+1);let y5:=decide (d.1<4);ae y5 (ae y0 (ae y3 (opt (aw n3.2 d.2.1) λaj=>ae y0 (ae y3 (ret (Sum.inl (y4,aj.2,(n1.1,n4,n3.1,aj.1),n2))) (ae y1 (ret (Sum.inl (y4,aj.2,(n1.1,n4,aj.1,n3.2),n2))) (ae y2 (ret (Sum.inl (y4,aj.2,(n1.1,aj.1,n3),n2))) (ret (Sum.inl (y4,aj.2,(aj.1,n1.2),n2)))))) no) (ae y1 (opt (aw n3.1 d.2.1) λaj=>ae y0 (ae y3 (ret (Sum.inl (y4,aj.2,(n1.1,n4,n3.1,aj.1),n2))) (ae y1 (ret (Sum.inl (y4,aj.2,(n1.1,n4,aj.1,n3.2),n2))) (ae y2 (ret (Sum.inl (y4,aj.2,(n1.1,aj.1,n3),n2))) (ret (Sum.inl (y4,aj.2,(aj.1,n1.2),n2)))))) no) (ae y2 (opt (aw n4 d.2.1) λaj=>ae y0 (ae y3 (ret (Sum.inl (y4,aj.2,(n1.1,n4,n3.1,aj.1),n2))) (ae y1 (ret (Sum.inl (y4,aj.2,(n1.1,n4,aj.1,n3.2),n2))) (ae y2 (ret (Sum.inl (y4,aj.2,(n1.1,aj.1,n3),n2))) (ret (Sum.inl (y4,aj.2,(aj.1,n1.2),n2)))))) no) (opt (aw n1.1 d.2.1) λaj=>ae y0 (ae y3 (ret (Sum.inl (y4,aj.2,(n1.1,n4,n3.1,aj.1),n2))) (ae y1 (ret (Sum.inl (y4,aj.2,(n1.1,n4,aj.1,n3.2),n2))) (ae y2 (ret (Sum.inl (y4,aj.2,(n1.1,aj.1,n3),n2))) (ret (Sum.inl (y4,aj.2,(aj.1,n1.2),n2)))))) no)))) no) (ret (Sum.inr ((d.1,y5),d.2)))
def ajR:=bD (ajQ aQ) 2000
def avu (ajS:ajl)(IW:ajn)(dG:LT r8 IV)(x0:Int)(x1:Int)(x2:Int)(x3:Int)(x4:Bool):Pg aFD:=opt (dG (0,x4,(x0,x1,x2,x3),λx=>0)) λd=>let n2:=d.2.2.1.1;let n1:=d.2.2.1.2;let n4:=n1.2.2;let n3:=n1.2.1;let y0:=wI (0-n2);opt (ajS 1 1 (-1) (-1) n2 n1.1 n3 n4 d.2.1) λaj=>opt (IW n1.1 n3 y0 n4 aj.2) λaI=>opt (IW n1.1 n4 n2 n3 aI.2) λbz=>opt (IW n1.1 n3 n2 n4 bz.2) λcq=>opt (ajS 1 (-1) 1 (-1) n2 n1.1 n3 n4 cq.2) λeo=>opt (IW n3 n4 y0 n1.1 eo.2) λcJ=>opt (IW n1.1 n4 y0 n3 cJ.2) λkI=>opt (IW n3 n4 n2 n1.1 kI.2) λoJ=>opt (ajS 1 (-1) (-1) 1 n2 n1.1 n3 n4 oJ.2) λd=>ret (cr 0 [d.1,oJ.1,kI.1,cJ.1,eo.1,cq.1,bz.1,aI.1,aj.1],d.2)
def jg:=λx0 x1 x2 x3 x4=>(avu OP OQ ajR x0 x1 x2 x3 x4).val
abbrev amd:=bG×ajl×ajn×(LT r8 IV)
def avv (p:amd):KK:=⟨[cV p.1,axl p.2.1,axo p.b.1],⟨[⟨2,(0::1::5::6::7::rg 9 82 []),[]⟩],[fx 2 1 r8 axu p.b.2],[0],[],(some ⟨0,(rg 0 4 (rg 5 86 [])),[]⟩)⟩,1,122⟩
theorem aHu (p:amd):LI (avv p) 2 r8 axu (ajQ p.1):=λ_ d c K=>by kernel_rfl
theorem aP3 (p:amd):D2 (avv p) aFC (lf aqc) λb=>avu p.2.1 p.b.1 p.b.2 b.1.1 b.1.2.1 b.1.b.1 b.1.b.2 b.2:=λb=>by kernel_rfl
abbrev avw:amd:=(aQ,OP,OQ,ajR)
theorem EM [ax]:SC (BW jg):=sc (kS (k:=avv avw) (.c cZ (.c aJ8 (.c aKa (.nil _)))) [2] [] ⟨kL (aHu avw),trivial⟩ trivial (aP3 avw))
def agt:=qa (pu nil nil)
def MF:=qe aL5
abbrev Bq:=MF.B
abbrev Br:=Option Bq
def QB (g:Br):Ct:=(66,FC agt (lf MF) (λ_=>g))
def QC (iv:XZ):Pg Bq:=opt (iv 0 4 1073741840 λx=>0) λd=>opt (iv 4 7 549755813888 d) λd=>opt (iv 7 10 9007199254740992 d) λd=>opt (iv 10 13 134217728 d) λd=>opt (iv 13 16 1073741824 d) λd=>opt (iv 16 22 2147483648 d) λd=>opt (iv 22 24 137438953472 d) λd=>ret d
def rB:Option Bq:=(QC wg).val
theorem azf:∀iv,D0 [X0 iv] 66 agt (lf MF) λb=>QC iv:=λ_ b=>by kernel_rfl
theorem agu [ax]:SC (QB rB):=s0 (.c ase (.nil _)) (azf wg)
def ajT:=qa (pr (cu aP apz) bA)
def QD:=qe aAD
abbrev ajU:=QD.B
abbrev Kk:=NI->Bool->Option ajU
def UM (g:Kk):Ct:=(87,FC ajT (lf QD) (λb=>g b.1 b.2))
def jD:=qs (st (pr (cu aP (us 2 (cu RH (cu Cw (cu afR aGc))))) (pl (c cj aGB) cA)))
def avx:=qs (st (pr (cu aP (us 2 (cu RH (cu Cw (cu afR (c ai (us 1 aGh))))))) (pl (c cj aGB) cA)))
abbrev tD:=((Int×Bool)×Bool×NI×NI×Bq)
def abB {ρ:Type}(x:tD)(K:AX->St->Option ρ):Option ρ:=(λd=>K (.ex 0) (avx.em ((d.1.1,d.1),d.2))) x
def MG (aE:bS)(d:jD.B):PL jD tD:=let y0:=Int.toNat d.1;let y1:=aX d.1 24;let y2:=decide (d.1<24);ae y2 (ae y1 (ae y1 (ae y1 (opt (aE (d.2.2.1 y0) (wI (0-d.2.2.2.2 y0)) (d.2.2.2.2 y0) d.2.1) λaj=>ae y1 (ae (true&&Nat.ble (0+y0*1+1) 24) (ret (Sum.inl (wI (d.1+1),aj.2,λj=>bif Nat.beq j y0 then aj.1 else d.2.2.1 j,d.2.2.2))) no) no) no) no) no) (ret (Sum.inr ((d.1,y2),d.2)))
def MH:=bD (MG aZ) 2000
def UN (QE:Br)(dG:LT jD tD)(x0:Nat->Int)(x1:Bool):Pg ajU:=opt QE λd=>opt (dG (4,x1,x0,λx=>0,d)) λd=>ret (d.2.2.1,d.2.1)
def tW:=λx0 x1=>(UN rB MH x0 x1).val
abbrev Kl:=Br×bS×(LT jD tD)
def UO (p:Kl):KK:=⟨[QB p.1,du p.2.1],⟨[⟨3,(1::2::rg 7 20 []),[]⟩],[fx 3 1 jD abB p.b],[0],[],(some ⟨0,(rg 0 4 (rg 5 22 [])),[]⟩)⟩,1,87⟩
theorem asH (p:Kl):LI (UO p) 3 jD abB (MG p.2.1):=λ_ d c K=>by kernel_rfl
theorem aCl (p:Kl):D2 (UO p) ajT (lf QD) λb=>UN p.1 p.b b.1 b.2:=λb=>by kernel_rfl
abbrev UP:Kl:=(rB,aZ,MH)
theorem ajV [ax]:SC (UM tW):=sc (kS (k:=UO UP) (.c agu (.c dM (.nil _))) [3] [] ⟨kL (asH UP),trivial⟩ trivial (aCl UP))
def aog:=qa (pr (cu aP apz) bA)
def UQ:=qe aAD
abbrev aoh:=UQ.B
abbrev eN:=NI->Bool->Option aoh
def iw (g:eN):Ct:=(49,FC aog (lf UQ) (λb=>g b.1 b.2))
def Z2 (bd:dy)(N9:an6)(bn:gQ)(vK:Hp)(tX:Kk)(x0:Nat->Int)(x1:Bool):Pg aoh:=opt (bd x0) λd=>opt (N9 d.1 d.2.1 d.2.2.1 d.2.2.2) λd=>ae (!d) (opt (bd x0) λd=>opt (bn d.1 d.2.1 d.2.2.1 d.2.2.2 x1) λd=>opt (vK x0 d.1.1 d.1.2.1 d.1.2.2.1 d.1.2.2.2) λaj=>opt (tX aj d.2) λd=>ret d) (opt (tX x0 x1) λd=>ret d)
def bW:=λx0 x1=>(Z2 bY BU cW rA tW x0 x1).val
theorem aEa:∀bd N9 bn vK tX,D0 [iL bd,an7 N9,ml bn,Qy vK,UM tX] 49 aog (lf UQ) λb=>Z2 bd N9 bn vK tX b.1 b.2:=λ_ _ _ _ _ b=>by kernel_rfl
theorem jh [ax]:SC (iw bW):=s0 (.c jC (.c aD2 (.c nI (.c ags (.c ajV (.nil _)))))) (aEa bY BU cW rA tW)
def abC:=qa (pr (cu aP fT) bA)
def Km:=qe oS
abbrev abD:=Km.B
abbrev tE:=Int->Bool->Option abD
def EN (g:tE):Ct:=(159,FC abC (lf Km) (λb=>g b.1 b.2))
def MI (aq:bX)(x0:Int)(x1:Bool):Pg abD:=opt (aq x0 1073741824 1000000 x1) λd=>ret d
def ji:=λx0 x1=>(MI aT x0 x1).val
theorem avy:∀aq,D0 [cU aq] 159 abC (lf Km) λb=>MI aq b.1 b.2:=λ_ b=>by kernel_rfl
theorem MJ [ax]:SC (EN ji):=s0 (.c c8 (.nil _)) (avy aT)
def aCm:=qa (pr (cu aP Ft) bA)
def ajW:=qe auC
abbrev aCn:=ajW.B
abbrev aCo:=Int->Int->Int->Bool->Option aCn
def aCp (g:aCo):Ct:=(209,FC aCm (lf ajW) (λb=>g b.1.1 b.1.2.1 b.1.b b.2))
def aqd (Dq:Mv)(te:zw)(gM:zy)(aC:bK)(dD:IQ)(aD:cx)(gk:OK)(bn:gQ)(x0:Int)(x1:Int)(x2:Int)(x3:Bool):Pg aCn:=opt (Dq x0 x1 x2 x3) λd=>opt (te d.1.1 d.1.2.1 d.1.2.2 d.2) λaj=>ae (aj.1==0) (opt gM λd=>ret ((1073741824,0,0,0),aj.2)) (opt (aC aj.1 536870912 30 aj.2) λaI=>opt (dD aI.1 aI.2) λbz=>opt (aD bz.1 aj.1 30 bz.2) λcq=>opt (gk aI.1 cq.2) λeo=>opt (aC d.1.1 cq.1 30 eo.2) λcJ=>opt (aC d.1.2.1 cq.1 30 cJ.2) λkI=>opt (aC d.1.2.2 cq.1 30 kI.2) λd=>opt (bn eo.1 cJ.1 kI.1 d.1 d.2) λd=>ret d)
def UR:=λx0 x1 x2 x3=>(aqd zX ot mJ aU mH bm qg cW x0 x1 x2 x3).val
theorem aNy:∀Dq te gM aC dD aD gk bn,D0 [aed Dq,OM te,IT gM,eL aC,IS dD,fK aD,OL gk,ml bn] 209 aCm (lf ajW) λb=>aqd Dq te gM aC dD aD gk bn b.1.1 b.1.2.1 b.1.b b.2:=λ_ _ _ _ _ _ _ _ b=>by kernel_rfl
theorem aNz [ax]:SC (aCp UR):=s0 (.c ap4 (.c XT (.c OO (.c eY (.c OJ (.c gD (.c XR (.c nI (.nil _))))))))) (aNy zX ot mJ aU mH bm qg cW)
def ajX:=qa (pr (cu aP (c jX Y0)) bA)
def QF:=qe (res (pr (aa adb) (pl lk nil)))
abbrev ajY:=QF.B
abbrev Kn:=NI->Int->Int->Int->Int->Int->Int->Int->Int->Bool->Option ajY
def US (g:Kn):Ct:=(155,FC ajX (lf QF) (λb=>g b.1.1 b.1.2.1 b.1.b.1 b.1.b.2.1.1 b.1.b.2.1.2.1 b.1.b.2.1.b b.1.c.1 b.1.c.2.1 b.1.c.b b.2))
def UT (aN:eN)(mL:tE)(bC:kD)(gR:Sw)(mB:HX)(aeI:aCo)(bd:dy)(eK:o6)(x0:Nat->Int)(x1:Int)(x2:Int)(x3:Int)(x4:Int)(x5:Int)(x6:Int)(x7:Int)(x8:Int)(x9:Bool):Pg ajY:=opt (aN x0 x9) λd=>opt (mL x2 d.2) λaj=>opt (bC d.1 10) λaI=>opt (gR aI.1 aI.2.1 aI.2.2 aj.1 aj.2) λbz=>opt (mB x3 x4 x5 bz.1.1 bz.1.2.1 bz.1.2.2 bz.2) λcq=>opt (bC d.1 13) λeo=>opt (gR eo.1 eo.2.1 eo.2.2 aj.1 cq.2) λcJ=>opt (mB x6 x7 x8 cJ.1.1 cJ.1.2.1 cJ.1.2.2 cJ.2) λkI=>opt (aeI cq.1.1 cq.1.2.1 cq.1.2.2 kI.2) λoJ=>opt (bd d.1) λd=>opt (eK d.1 d.2.1 d.2.2.1 d.2.2.2 oJ.2) λd=>ret ((aj.1,cq.1.1,cq.1.2.1,cq.1.2.2,kI.1.1,kI.1.2.1,kI.1.2.2,oJ.1.1,oJ.1.2.1,oJ.1.2.2.1,oJ.1.2.2.2,d.1),d.2)
def tY:=λx0 x1 x2 x3 x4 x5 x6 x7 x8 x9=>(UT bW ji ec rZ tV UR bY jg x0 x1 x2 x3 x4 x5 x6 x7 x8 x9).val
theorem aCq:∀aN mL bC gR mB aeI bd eK,D0 [iw aN,EN mL,pH bC,Sx gR,Ub mB,aCp aeI,iL bd,BW eK] 155 ajX (lf QF) λb=>UT aN mL bC gR mB aeI bd eK b.1.1 b.1.2.1 b.1.b.1 b.1.b.2.1.1 b.1.b.2.1.2.1 b.1.b.2.1.b b.1.c.1 b.1.c.2.1 b.1.c.b b.2:=λ_ _ _ _ _ _ _ _ b=>by kernel_rfl
theorem ajZ [ax]:SC (US tY):=s0 (.c jh (.c MJ (.c sZ (.c aeb (.c ad9 (.c aNz (.c jC (.c EM (.nil _))))))))) (aCq bW ji ec rZ tV UR bY jg)
def aoi:=qa (pr (cu aP (c jX Y0)) bA)
def UU:=qe aAD
abbrev aoj:=UU.B
abbrev N':=NI->Int->Int->Int->Int->Int->Int->Int->Int->Bool->Option aoj
def Z3 (g:N'):Ct:=(104,FC aoi (lf UU) (λb=>g b.1.1 b.1.2.1 b.1.b.1 b.1.b.2.1.1 b.1.b.2.1.2.1 b.1.b.2.1.b b.1.c.1 b.1.c.2.1 b.1.c.b b.2))
def Z4 (yI:Kn)(aN:eN)(bd:dy)(ew:wj)(bn:gQ)(bC:kD)(gS:EI)(aC:bK)(dm:z8)(gR:Sw)(cG:xd)(x0:Nat->Int)(x1:Int)(x2:Int)(x3:Int)(x4:Int)(x5:Int)(x6:Int)(x7:Int)(x8:Int)(x9:Bool):Pg aoj:=opt (yI x0 x1 x2 x3 x4 x5 x6 x7 x8 x9) λd=>let n1:=d.1.2.2.2.2.2;let n2:=n1.2.2.2;opt (aN x0 d.2) λaj=>opt (bd aj.1) λaI=>opt (ew aI.1 aI.2.1 aI.2.2.1 aI.2.2.2 n1.2.2.1 n2.1 n2.2.1 n2.2.2.1 aj.2) λbz=>opt (bn bz.1.1 bz.1.2.1 bz.1.2.2.1 bz.1.2.2.2 bz.2) λcq=>opt (bC aj.1 4) λeo=>opt (gS n2.2.2.2 d.1.2.2.2.2.1 n1.1 n1.2.1 cq.2) λcJ=>opt (aC 10529810258 d.1.1 30 cJ.2) λkI=>opt (dm 3 kI.2 (cr eo.1 [0,cJ.1.1,eo.1]) (cr eo.2.1 [0,cJ.1.2.1,eo.2.1]) (cr eo.2.2 [kI.1,cJ.1.2.2,eo.2.2]) true) λoJ=>opt (aC d.1.1 536870912 30 oJ.2) λd=>opt (bC aj.1 7) λmI=>opt (dm 2 d.2 (cr eo.1 [oJ.1.1,eo.1]) (cr eo.2.1 [oJ.1.2.1,eo.2.1]) (cr eo.2.2 [oJ.1.2.2,eo.2.2]) true) λjA=>opt (gR jA.1.1 jA.1.2.1 jA.1.2.2 d.1 jA.2) λd=>opt (dm 2 d.2 (cr mI.1 [d.1.1,mI.1]) (cr mI.2.1 [d.1.2.1,mI.2.1]) (cr mI.2.2 [d.1.2.2,mI.2.2]) true) λd=>opt (cG aj.1 0 4 (cr cq.1.1 [cq.1.2.2.2,cq.1.2.2.1,cq.1.2.1,cq.1.1]) false) λpC=>opt (cG pC 4 3 (cr oJ.1.1 [oJ.1.2.2,oJ.1.2.1,oJ.1.1]) false) λzz=>opt (cG zz 7 3 (cr d.1.1 [d.1.2.2,d.1.2.1,d.1.1]) false) λGx=>opt (aN Gx d.2) λd=>ret d
def tf:=λx0 x1 x2 x3 x4 x5 x6 x7 x8 x9=>(Z4 tY bW bY ke cW ec nG aU jr rZ fM x0 x1 x2 x3 x4 x5 x6 x7 x8 x9).val
theorem aEb:∀yI aN bd ew bn bC gS aC dm gR cG,D0 [US yI,iw aN,iL bd,Dp ew,ml bn,pH bC,J' gS,eL aC,HZ dm,Sx gR,BT cG] 104 aoi (lf UU) λb=>Z4 yI aN bd ew bn bC gS aC dm gR cG b.1.1 b.1.2.1 b.1.b.1 b.1.b.2.1.1 b.1.b.2.1.2.1 b.1.b.2.1.b b.1.c.1 b.1.c.2.1 b.1.c.b b.2:=λ_ _ _ _ _ _ _ _ _ _ _ b=>by kernel_rfl
theorem aok [ax]:SC (Z3 tf):=s0 (.c ajZ (.c jh (.c jC (.c IU (.c nI (.c sZ (.c SB (.c eY (.c MB (.c aeb (.c Gv (.nil _)))))))))))) (aEb tY bW bY ke cW ec nG aU jr rZ fM)
def axv:=qa (pr (cu aP Ft) bA)
def aeJ:=qe auC
abbrev axw:=aeJ.B
abbrev aj0:=Int->Int->Int->Bool->Option axw
def axx (g:aj0):Ct:=(160,FC axv (lf aeJ) (λb=>g b.1.1 b.1.2.1 b.1.b b.2))
def nJ:=qs (st (pr (cu aP (us 3 (cu am4 (cu Xm (c ai (cu ah3 (us 12 (cl ai aQ4)))))))) (pl (c cj (cu aic (c w7 (cl w7 nil)))) cA)))
def aol:=qs (st (pr (cu aP (us 3 (cu am4 (cu Xm (c ai (cu ah3 (us 12 (c ai (cl ab (us 26 nil)))))))))) (pl (c cj (cu aic (c w7 (cl w7 nil)))) cA)))
abbrev BX:=aol.B
def aom {ρ:Type}:=@ef BX ((.ex 0)) aol ρ
def Z5 (aD:cx)(d:nJ.B):PL nJ BX:=let n3:=d.1.1;let n2:=d.1.2;let n1:=d.2.2;let n5:=n1.2.1;let n4:=n1.2.2;let y0:=aX n2 3;let y1:=n2==2;let y2:=n2==1;let y3:=decide (n2<3);ae y3 (ae y0 (ae y1 (opt (aD n1.1.2.2 n3 30 d.2.1) λaj=>ae y0 (ae y1 (ret (Sum.inl ((n3,wI (n2+1)),aj.2,n1.1,n5,n4.1,aj.1))) (ae y2 (ret (Sum.inl ((n3,wI (n2+1)),aj.2,n1.1,n5,aj.1,n4.2))) (ret (Sum.inl ((n3,wI (n2+1)),aj.2,n1.1,aj.1,n4))))) no) (ae y2 (opt (aD n1.1.2.1 n3 30 d.2.1) λaj=>ae y0 (ae y1 (ret (Sum.inl ((n3,wI (n2+1)),aj.2,n1.1,n5,n4.1,aj.1))) (ae y2 (ret (Sum.inl ((n3,wI (n2+1)),aj.2,n1.1,n5,aj.1,n4.2))) (ret (Sum.inl ((n3,wI (n2+1)),aj.2,n1.1,aj.1,n4))))) no) (opt (aD n1.1.1 n3 30 d.2.1) λaj=>ae y0 (ae y1 (ret (Sum.inl ((n3,wI (n2+1)),aj.2,n1.1,n5,n4.1,aj.1))) (ae y2 (ret (Sum.inl ((n3,wI (n2+1)),aj.2,n1.1,n5,aj.1,n4.2))) (ret (Sum.inl ((n3,wI (n2+1)),aj.2,n1.1,aj.1,n4))))) no))) no) (ret (Sum.inr ((n3,n2,y3),d.2)))
def Z6:=bD (Z5 bm) 2000
def aj1 (Dq:Mv)(gM:zy)(te:zw)(aV:cQ)(bn:gQ)(dG:LT nJ BX)(x0:Int)(x1:Int)(x2:Int)(x3:Bool):Pg axw:=opt (Dq x0 x1 x2 x3) λd=>ae (d.1.1==0&&(d.1.2.1==0&&(d.1.2.2==0&&true))) (opt gM λaj=>ret ((1073741824,0,0,0),d.2)) (opt (te d.1.1 d.1.2.1 d.1.2.2 d.2) λaj=>opt (dG ((aj.1,0),aj.2,d.1,0,0,0)) λd=>opt (aV 1073741824 d.2.2.2.2.2 d.2.1) λaI=>ae (decide (aI.1<=16)) (ret ((0,1073741824,0,0),aI.2)) (opt (bn aI.1 (wI (0-d.2.2.2.2.1)) d.2.2.2.1 0 aI.2) λd=>ret d))
def IX:=λx0 x1 x2 x3=>(aj1 zX mJ ot bH cW Z6 x0 x1 x2 x3).val
abbrev X5:=Mv×zy×zw×cx×cQ×gQ×(LT nJ BX)
def aj2 (p:X5):KK:=⟨[aed p.1,IT p.2.1,OM p.b.1,fK p.b.2.1,gE p.c.1,ml p.c.2.1],⟨[⟨7,(1::2::3::rg 8 12 (rg 21 27 [])),[]⟩],[fx 7 1 nJ aom p.c.b],[],[],(some ⟨0,(rg 0 4 (rg 5 43 [])),[]⟩)⟩,1,160⟩
theorem aCr (p:X5):LI (aj2 p) 7 nJ aom (Z5 p.b.2.1):=λ_ d c K=>by kernel_rfl
theorem aKf (p:X5):D2 (aj2 p) axv (lf aeJ) λb=>aj1 p.1 p.2.1 p.b.1 p.c.1 p.c.2.1 p.c.b b.1.1 b.1.2.1 b.1.b b.2:=λb=>by kernel_rfl
abbrev aj3:X5:=(zX,mJ,ot,bm,bH,cW,Z6)
theorem aKg [ax]:SC (axx IX):=sc (kS (k:=aj2 aj3) (.c ap4 (.c OO (.c XT (.c gD (.c iu (.c nI (.nil _))))))) [7] [] ⟨kL (aCr aj3),trivial⟩ trivial (aKf aj3))
def abE:=qa (pr (cu aP (c yi (c (aa aAx) apz))) bA)
def Ko:=qe aMj
abbrev MK:=Ko.B
abbrev EO:=NI->NI->NI->NI->Bool->Option MK
def ML (g:EO):Ct:=(163,FC abE (lf Ko) (λb=>g b.1.1.1 b.1.1.2 b.1.2.1 b.1.b b.2))
def dU:=qs (st (pr (cu aP (us 4 (cu E8 (cu aN8 (cu afR (cu LC (cu am6 (c ai (us 13 (c ai (us 16 (cl ai (us 105 nil))))))))))))) (pl (c cj (c hI (c lp (c mA Y1)))) cA)))
def UW:=qs (st (pr (cu aP (us 4 (cu E8 (cu aN8 (cu afR (cu LC (cu am6 (c ai (us 13 (c ai (us 16 (c ai (cl ab (us 104 nil)))))))))))))) (pl (c cj (c hI (c lp (c mA Y1)))) cA)))
abbrev kg:=UW.B
def UX {ρ:Type}:=@ef kg ((.ex 2)) UW ρ
def Aj (aw:bG)(d:dU.B):PL dU kg:=let y0:=aX d.1.1 24;let y1:=aX d.1.2.2 24;let y2:=decide (d.1.2.2<24);let y3:=Int.toNat d.1.1*24+Int.toNat d.1.2.2;ae y2 (ae y0 (ae y1 (opt (aw (d.2.2.2.1 y3) d.2.1) λaj=>ae y0 (ae y1 (ae (true&&Nat.ble (0+y3*1+1) 576) (ret (Sum.inl ((d.1.1,d.1.2.1,wI (d.1.2.2+1)),aj.2,d.2.2.1,λj=>bif Nat.beq j y3 then aj.1 else d.2.2.2.1 j,d.2.2.2.2))) no) no) no) no) no) (ret (Sum.inr ((d.1.1,d.1.2.1,d.1.2.2,y2),d.2)))
def Ak:=bD (Aj aQ) 2000
def dV:=qs (st (pr (cu aP (us 7 (cu E8 (cu aws (us 2 (cu Xo (cu LC (c ai (cu am6 (us 48 aLG)))))))))) (pl (c cj (c hI (c ac2 (c Fs Y1)))) cA)))
def UY:=qs (st (pr (cu aP (us 7 (cu E8 (cu aws (us 2 (cu Xo (cu LC (c ai (cu am6 (us 48 aRw)))))))))) (pl (c cj (c hI (c ac2 (c Fs Y1)))) cA)))
abbrev kh:=UY.B
def UZ {ρ:Type}:=@ef kh ((.ex 6)) UY ρ
def Al (aC:bK)(d:dV.B):PL dV kh:=let n2:=d.1.2;let n1:=d.2.2.2;let y0:=Int.toNat n2;let y1:=aX n2 48;let y2:=decide (n2<48);ae y2 (ae (aX d.1.1 24) (ae y1 (ae y1 (opt (aC (n1.2.1 (Int.toNat d.1.1*48+y0)) (n1.1 y0) 30 d.2.1) λaj=>ae y1 (ae (true&&Nat.ble (0+y0*1+1) 48) (ret (Sum.inl ((d.1.1,wI (n2+1)),aj.2,d.2.2.1,n1.1,n1.2.1,n1.2.2.1,λj=>bif Nat.beq j y0 then aj.1 else n1.2.2.2 j))) no) no) no) no) no) (ret (Sum.inr ((d.1.1,n2,y2),d.2)))
def Am:=bD (Al aU) 2000
def dW:=qs (st (pr (cu aP (us 7 (cu E8 (cu aws (us 2 (cu Xo (cu LC (c ai (cu am6 (us 1 (c ai (c ai (c ai (us 76 (c ai (c ai (us 18 (cl ai (us 30 nil))))))))))))))))))) (pl (c cj (c hI (c ac2 (c Fs Y1)))) cA)))
def U0:=qs (st (pr (cu aP (us 7 (cu E8 (cu aws (us 2 (cu Xo (cu LC (c ai (cu am6 (us 1 (c ai (c ai (c ai (us 76 (c ai (c ai (us 18 aRx))))))))))))))))) (pl (c cj (c hI (c ac2 (c Fs Y1)))) cA)))
abbrev kj:=U0.B
def U2 {ρ:Type}:=@ef kj ((.ex 10)) U0 ρ
def An (aC:bK)(aV:cQ)(d:dW.B):PL dW kj:=let n3:=d.2.2.2;let n1:=d.1.2.2;let n2:=n1.2.2.2;let y0:=aX n1.1 24;let y1:=Int.toNat n2.2;let y2:=aX n2.2 48;let y3:=Int.toNat n1.1*48+y1;let y4:=decide (n2.2<48);ae y4 (ae y0 (ae y2 (ae (aX d.1.1 24) (ae y2 (opt (aC n1.2.1 (n3.2.1 (Int.toNat d.1.1*48+y1)) 30 d.2.1) λaj=>opt (aV (n3.2.1 y3) aj.1 aj.2) λaI=>ae y0 (ae y2 (ae (true&&Nat.ble (0+y3*1+1) 1152) (ret (Sum.inl ((d.1.1,d.1.2.1,n1.1,n1.2.1,n1.2.2.1,n2.1,wI (n2.2+1)),aI.2,d.2.2.1,n3.1,λj=>bif Nat.beq j y3 then aI.1 else n3.2.1 j,n3.2.2))) no) no) no) no) no) no) no) (ret (Sum.inr ((d.1.1,d.1.2.1,n1.1,n1.2.1,n1.2.2.1,n2.1,n2.2,y4),d.2)))
def Ao:=bD (An aU bH) 2000
def dX:=qs (st (pr (cu aP (us 4 (cu E8 (cu aN8 (cu afR (cu LC (cu am6 (us 14 (cl ai (us 122 nil)))))))))) (pl (c cj (c hI (c lp (c mA Y1)))) cA)))
def U3:=qs (st (pr (cu aP (us 4 (cu E8 (cu aN8 (cu afR (cu LC (cu am6 (us 14 (c ai (cl ab (us 121 nil))))))))))) (pl (c cj (c hI (c lp (c mA Y1)))) cA)))
abbrev kl:=U3.B
def U4 {ρ:Type}:=@ef kl ((.ex 0)) U3 ρ
def Ap (aE:bS)(qd:LT dU kg)(d:dX.B):PL dX kl:=let y0:=Int.toNat d.1;let y1:=aX d.1 24;let y2:=wI (24+d.1);let y3:=Int.toNat y2;let y4:=decide (d.1<24);ae y4 (ae y1 (ae y1 (opt (aE (d.2.2.2.2.1 y0) 0 72057594037927936 d.2.1) λaj=>ae (aX d.1 48) (ae (true&&Nat.ble (0+y0*1+1) 48) (ae (aX y2 48) (ae (true&&Nat.ble (0+y3*1+1) 48) (opt (qd ((d.1,d.1,0),aj.2,d.2.2.1,d.2.2.2.1,d.2.2.2.2.1,d.2.2.2.2.2.1,λj=>bif Nat.beq j y3 then aj.1 else bif Nat.beq j y0 then d.2.2.1.2 y0 else d.2.2.2.2.2.2 j)) λd=>ret (Sum.inl (wI (d.1.2.1+1),d.2))) no) no) no) no) no) no) (ret (Sum.inr ((d.1,y4),d.2)))
def Aq:=bD (Ap aZ Ak) 2000
def dY:=qs (st (pr (cu aP (us 7 (cu E8 (cu aws (us 2 (cu Xo (cu LC (c ai (cu am6 (us 1 (c ai (us 78 (c ai (cl ai (us 49 nil))))))))))))))) (pl (c cj (c hI (c ac2 (c Fs Y1)))) cA)))
def U5:=qs (st (pr (cu aP (us 7 (cu E8 (cu aws (us 2 (cu Xo (cu LC (c ai (cu am6 (us 1 (c ai (us 78 (c ai (c ai (cl ab (us 48 nil)))))))))))))))) (pl (c cj (c hI (c ac2 (c Fs Y1)))) cA)))
abbrev km:=U5.B
def U6 {ρ:Type}:=@ef km ((.ex 8)) U5 ρ
def Ar (bf:ee)(aD:cx)(aqe:Un)(l_5:LT dW kj)(d:dY.B):PL dY km:=let n2:=d.2.2.2.2;let n1:=d.1.2.2;let y0:=decide (n1.2<n1.1);ae y0 (ae (aX n1.2 24) (opt (bf 30 48 48 d.2.1 (λj=>n2.1 (0+Int.toNat n1.2*48+j)) n2.2.2 false false) λaj=>opt (aD aj.1 d.1.2.1 30 aj.2) λaI=>opt (aqe n2.2.1.1 n2.2.1.2 n1.2 d.1.1 aI.1) λbz=>opt (l_5 ((d.1.1,d.1.2.1,n1.2,aI.1,n1.1,n1.2,0),aI.2,d.2.2.1,d.2.2.2.1,n2.1,bz,n2.2.2)) λd=>ret (Sum.inl ((d.1.1,d.1.2.1,d.1.2.2.2.2.1,wI (d.1.2.2.2.2.2.1+1)),d.2))) no) (ret (Sum.inr ((d.1.1,d.1.2.1,n1.1,n1.2,y0),d.2)))
def As:=bD (Ar bo bm xf Ao) 2000
def dZ:=qs (st (pr (cu aP (us 7 (cu E8 (cu aws (us 2 (cu Xo (cu LC (cl ai (us 132 nil))))))))) (pl (c cj (c hI (c ac2 (c Fs (cl hI nil))))) cA)))
def aqf:=qs (st (pr (cu aP (us 7 (cu E8 (cu aws (us 2 (cu Xo (cu LC (c ai (us 45 (c ai (cl ab (us 85 nil)))))))))))) (pl (c cj (c hI (c ac2 (c Fs (cl hI nil))))) cA)))
abbrev ko:=((Int×Bool)×Bool×(NI×NI)×NI×NI×NI×NI)
def U7 {ρ:Type}(x:ko)(K:AX->St->Option ρ):Option ρ:=(λd=>K (.ex 4) (aqf.em ((d.1.1,d.1),d.2))) x
def At (aE:bS)(bf:ee)(l_3:LT dV kh)(l_4:LT dY km)(d:dZ.B):PL dZ ko:=let y0:=decide (d.1>=0);ae y0 (opt (l_3 ((d.1,0),d.2.1,d.2.2.1,d.2.2.2.1,d.2.2.2.2.1,d.2.2.2.2.2,λx=>0)) λd=>let n1:=d.2.2.2.2;let y0:=Int.toNat d.1.1;let y1:=aX d.1.1 24;ae y1 (opt (bf 30 48 48 d.2.1 (λj=>n1.1 (0+y0*48+j)) n1.2.2 false false) λaj=>opt (aE aj.1 1 72057594037927936 aj.2) λaI=>ae y1 (ae (true&&Nat.ble (276+y0*1+1) 300) (opt (l_4 ((d.1.1,aI.1,d.1.1,0),aI.2,d.2.2.1,d.2.2.2.1,n1.1,(n1.2.1.1,λj=>bif Nat.beq j y0 then aI.1 else n1.2.1.2 j),n1.2.2)) λd=>ret (Sum.inl (wI (d.1.1-1),d.2.1,d.2.2.1,d.2.2.2.1,d.2.2.2.2.1,d.2.2.2.2.2.1))) no) no) no) (ret (Sum.inr ((d.1,y0),d.2)))
def Au:=bD (At aZ bo Am As) 2000
def EP (fg:oX)(avz:MD)(dG:LT dX kl)(Kj:LT dZ ko)(x0:Nat->Int)(x1:Nat->Int)(x2:Nat->Int)(x3:Nat->Int)(x4:Bool):Pg MK:=opt (fg x0 x1 x4) λd=>opt (dG (0,d.2,d.1,x2,x3,(λx=>0,λx=>0),λx=>0)) λd=>opt (avz d.2.2.1.1 d.2.2.1.2 d.2.1 d.2.2.2.1) λaj=>opt (Kj (23,aj.1,d.2.2.2.2.2.1,d.2.2.2.2.2.2,aj.2,λx=>0,λx=>0)) λd=>ret (d.2.2.2.2.2,d.2.1)
def jj:=λx0 x1 x2 x3 x4=>(EP fe oY Aq Au x0 x1 x2 x3 x4).val
abbrev kP:=oX×bS×bG×MD×bK×ee×cx×Un×cQ×(LT dU kg)×(LT dV kh)×(LT dW kj)×(LT dX kl)×(LT dY km)×(LT dZ ko)
def mM (p:kP):KK:=⟨[yC p.1,du p.2.1,cV p.b.1,abA p.b.2.1,eL p.c.1,lR p.c.2.1,fK p.c.b.1,ap9 p.c.b.2.1,gE p.d.1],⟨[⟨4,(rg 1 4 (rg 10 14 (rg 25 122 []))),[]⟩,⟨8,(rg 1 4 (rg 11 13 (rg 25 16 (rg 42 105 [])))),[]⟩,⟨16,(rg 1 7 (10::11::rg 15 132 [])),[]⟩,⟨20,(rg 1 7 (10::11::rg 16 48 (rg 65 82 []))),[]⟩,⟨27,(rg 1 7 (10::11::16::rg 18 78 (rg 98 49 []))),[]⟩,⟨32,(rg 1 7 (10::11::16::rg 20 76 (rg 98 18 (rg 117 30 [])))),[]⟩],[fx 8 1 dU UX p.d.2.1,fx 20 1 dV UZ p.d.b.1,fx 32 1 dW U2 p.d.b.2.1,fx 4 1 dX U4 p.d.c.1,fx 27 1 dY U6 p.d.c.2.1,fx 16 1 dZ U7 p.d.c.b],[],[],(some ⟨0,(rg 0 8 (rg 9 138 [])),[]⟩)⟩,1,163⟩
theorem ams (p:kP):LI (mM p) 8 dU UX (Aj p.b.1):=λ_ d c K=>by kernel_rfl
theorem amt (p:kP):LI (mM p) 20 dV UZ (Al p.c.1):=λ_ d c K=>by kernel_rfl
theorem amu (p:kP):LI (mM p) 32 dW U2 (An p.c.1 p.d.1):=λ_ d c K=>by kernel_rfl
theorem amv (p:kP):LI (mM p) 4 dX U4 (Ap p.2.1 p.d.2.1):=λ_ d c K=>by kernel_rfl
theorem amw (p:kP):LI (mM p) 27 dY U6 (Ar p.c.2.1 p.c.b.1 p.c.b.2.1 p.d.b.2.1):=λ_ d c K=>by kernel_rfl
theorem amx (p:kP):LI (mM p) 16 dZ U7 (At p.2.1 p.c.2.1 p.d.b.1 p.d.c.2.1):=λ_ d c K=>by kernel_rfl
theorem avA (p:kP):D2 (mM p) abE (lf Ko) λb=>EP p.1 p.b.2.1 p.d.c.1 p.d.c.b b.1.1.1 b.1.1.2 b.1.2.1 b.1.b b.2:=λb=>by kernel_rfl
abbrev mN:kP:=(fe,aZ,aQ,oY,aU,bo,bm,xf,bH,Ak,Am,Ao,Aq,As,Au)
theorem abF [ax]:SC (ML jj):=sc (kS (k:=mM mN) (.c EF (.c dM (.c cZ (.c avt (.c eY (.c nw (.c gD (.c aCb (.c iu (.nil _)))))))))) [4,8,16,20,27,32] [] ⟨kL (amv mN),⟨kL (ams mN),⟨kL (amx mN),⟨kL (amt mN),⟨kL (amw mN),⟨kL (amu mN),trivial⟩⟩⟩⟩⟩⟩ trivial (avA mN))
def axy:=qa (pl fT nil)
def aeK:=qe B9
abbrev axz:=aeK.B
abbrev aj4:=Int->Option axz
def axA (g:aj4):Ct:=(214,FC axy (lf aeK) (λb=>g b))
def OR (x0:Int):Pg axz:=ae (decide (x0>=0)) (ret (decide (x0<24))) (ret false)
def wo:=λx0=>(OR x0).val
theorem aKh:D0 [] 214 axy (lf aeK) λb=>OR b:=λb=>by kernel_rfl
theorem aKi [ax]:SC (axA wo):=s0 (.nil _) aKh
def X6:=qa (pr (cu aP fT) bA)
def H0:=qe oS
abbrev X7:=H0.B
abbrev Kp:=Int->Bool->Option X7
def X8 (g:Kp):Ct:=(215,FC X6 (lf H0) (λb=>g b.1 b.2))
def CF (aE:bS)(x0:Int)(x1:Bool):Pg X7:=opt (aE x0 1 72057594037927936 x1) λd=>ret d
def nK:=λx0 x1=>(CF aZ x0 x1).val
theorem asJ:∀aE,D0 [du aE] 215 X6 (lf H0) λb=>CF aE b.1 b.2:=λ_ b=>by kernel_rfl
theorem asK [ax]:SC (X8 nK):=s0 (.c dM (.nil _)) (asJ aZ)
def aj5:=qa (dp (cu aP (c yi aLP)) λa=>(c uV (cl (cl (gs a.b.1 mF) nil) nil)))
def QG:=qe aSs
abbrev U8:=QG.B
abbrev fm:=NI->NI->Int->Nat->Bool->NI->Bool->Option U8
def yJ (g:fm):Ct:=(161,sW 3 [.i .i64] (FC aj5 (lf QG) (λb=>g b.1.1.1 b.1.1.2 b.1.2.1 b.1.b.1 b.2.1 b.b b.1.b.2)))
def fh:=qs (st (dp (cu aP (us 1 (c ai (us 2 (cu Xn (us 2 (cu aEU (cu aEW (cu am7 (us 4 (c Gh (c ai aGd)))))))))))) λa=>(pl (c cj (c (so (cl (gs a.2.1.1 mF) nil)) aSN)) cA)))
def avB:=qs (st (pr (cu aP (us 1 (c ai (us 2 (cu Xn (us 2 (cu aEU (cu aEW (cu am7 (us 4 (c Gh (c ai aGk)))))))))))) (pl (c cj (c HL aSN)) cA)))
abbrev mO:=((Int×(Nat×Bool)×Int×Int×Bool)×Bool×NI×(NI×NI)×(NI×NI)×Bo×NI)
def abG {ρ:Type}(x:mO)(K:AX->St->Option ρ):Option ρ:=(λd=>K (.ex 0) (avB.em (d.1,d.2.1,(d.1.2.1.1,d.b.1),d.b.2))) x
def ER (aKj:aj4)(asL:Kp)(d:fh.B):PL fh mO:=let n3:=d.2.2;let n2:=d.1.2.2;let n1:=(d.1.1,d.1.2.1,n2.1,wI (n2.2+1));let y0:=wI (d.1.1+n2.2);let y1:=Int.toNat y0;let y2:=aX y0 24;let y3:=decide (n2.2<n2.1);let y4:=y1*24+y1;ae y3 (ae (aX n2.2 d.1.2.1.1) (opt (aKj y0) λaj=>ae aj (opt (asL (n3.1 (Int.toNat n2.2)) d.2.1) λaI=>ae y2 (ae y2 (ae (true&&Nat.ble (0+y4*1+1) 576) (ae y2 (ae (true&&Nat.ble (0+y1*1+1) 24) (ret (Sum.inl (n1,aI.2,n3.1,n3.2.1,n3.2.2.1,λj=>bif Nat.beq j y4 then 0 else n3.2.2.2.1 j,λj=>bif Nat.beq j y1 then aI.1 else n3.2.2.2.2 j))) no) no) no) no) no) (ret (Sum.inl (n1,d.2)))) no) (ret (Sum.inr ((d.1.1,d.1.2.1,n2.1,n2.2,y3),d.2)))
def ES:=bD (ER wo nK) 2000
def Kq (QH:Bp)(tF:EO)(dG:LT fh mO)(x0:Nat->Int)(x1:Nat->Int)(x2:Int)(x3:Nat)(x4:Bool)(x5:Nat->Int)(w0:Bool):Pg U8:=opt QH λd=>ae (Nat.beq x3 x3) (opt (dG ((x2,(x3,w0),Int.ofNat x3,0),x4,x5,(x0,x1),(λx=>0,λx=>0),d,λx=>0)) λd=>opt (tF d.2.2.2.1.1 d.2.2.2.1.2 d.2.2.2.2.2.1 d.2.2.2.2.2.2 d.2.1) λd=>ret d) no
def cP:=λx0 x1 x2 x3 x4 x5 w0=>(Kq mi jj ES x0 x1 x2 x3 x4 x5 w0).val
abbrev Kr:=Bp×aj4×Kp×EO×(LT fh mO)
def U9 (p:Kr):KK:=⟨[Qt p.1,axA p.2.1,X8 p.b.1,ML p.b.2.1],⟨[⟨4,(1::3::4::6::7::rg 11 4 (rg 18 24 [])),[]⟩],[fx 4 2 fh abG p.c],[0],[],(some ⟨0,(rg 0 8 (rg 9 33 [])),[]⟩)⟩,2,161⟩
theorem asM (p:Kr):LI (U9 p) 4 fh abG (ER p.2.1 p.b.1):=λ_ d c K=>by kernel_rfl
theorem aCs (p:Kr):D2 (U9 p) aj5 (lf QG) λb=>Kq p.1 p.b.2.1 p.c b.1.1.1 b.1.1.2 b.1.2.1 b.1.b.1 b.2.1 b.b b.1.b.2:=λb=>by kernel_rfl
abbrev U':Kr:=(mi,wo,nK,jj,ES)
theorem Dr [ax]:SC (yJ cP):=sc (Sound.nil 3 [.i .i64]<|kS (k:=U9 U') (.c agp (.c aKi (.c asK (.c abF (.nil _))))) [4] [] ⟨kL (asM U'),trivial⟩ trivial (aCs U'))
def asN:=qa (pr (cu aP ac8) bA)
def Z7:=qe aAD
abbrev asO:=Z7.B
abbrev asQ:=NI->Int->Bool->Option asO
def asT (g:asQ):Ct:=(165,FC asN (lf Z7) (λb=>g b.1.1 b.1.2 b.2))
def mq:=qs (st (pr (cu aP (us 3 (cu RH (us 1 (cu Cw (c ai (us 4 (cl ai (us 14 nil))))))))) (pl (c cj L6) cA)))
def aj6:=qs (st (pr (cu aP (us 3 (cu RH (us 1 (cu Cw (c ai (us 4 aRy))))))) (pl (c cj L6) cA)))
abbrev yK:=aj6.B
def aj7 {ρ:Type}:=@ef yK ((.ex 0)) aj6 ρ
def Va (aC:bK)(aE:bS)(d:mq.B):PL mq yK:=let y0:=Int.toNat d.1.2;let y1:=aX d.1.2 24;let y2:=decide (d.1.2<24);ae y2 (ae y1 (opt (aC (d.2.2.1 y0) d.1.1 30 d.2.1) λaj=>opt (aE aj.1 0 72057594037927936 aj.2) λaI=>ae y1 (ae (true&&Nat.ble (0+y0*1+1) 24) (ret (Sum.inl ((d.1.1,wI (d.1.2+1)),aI.2,λj=>bif Nat.beq j y0 then aI.1 else d.2.2.1 j,d.2.2.2))) no) no) no) (ret (Sum.inr ((d.1.1,d.1.2,y2),d.2)))
def Vb:=bD (Va aU aZ) 2000
def aeL (mL:tE)(dG:LT mq yK)(x0:Nat->Int)(x1:Int)(x2:Bool):Pg asO:=opt (mL x1 x2) λd=>opt (dG ((d.1,0),d.2,x0,λx=>0)) λd=>ret (d.2.2.1,d.2.1)
def Ks:=λx0 x1 x2=>(aeL ji Vb x0 x1 x2).val
abbrev SG:=tE×bK×bS×(LT mq yK)
def aeM (p:SG):KK:=⟨[EN p.1,eL p.2.1,du p.b.1],⟨[⟨3,(1::2::3::5::rg 8 4 (rg 13 14 [])),[]⟩],[fx 3 1 mq aj7 p.b.2],[],[],(some ⟨0,(rg 0 6 (rg 7 20 [])),[]⟩)⟩,1,165⟩
theorem azg (p:SG):LI (aeM p) 3 mq aj7 (Va p.2.1 p.b.1):=λ_ d c K=>by kernel_rfl
theorem aHv (p:SG):D2 (aeM p) asN (lf Z7) λb=>aeL p.1 p.b.2 b.1.1 b.1.2 b.2:=λb=>by kernel_rfl
abbrev aeN:SG:=(ji,aU,aZ,Vb)
theorem aHw [ax]:SC (asT Ks):=sc (kS (k:=aeM aeN) (.c MJ (.c eY (.c dM (.nil _)))) [3] [] ⟨kL (azg aeN),trivial⟩ trivial (aHv aeN))
def agv:=qa (pr (cu aP (c yi ac8)) bA)
def MM:=qe (res (pu (app 1 373) (pr lk (cl aSy nil))))
abbrev agw:=MM.B
abbrev Hq:=NI->NI->NI->Int->Bool->Option agw
def QI (g:Hq):Ct:=(273,FC agv (lf MM) (λb=>g b.1.1.1 b.1.1.2 b.1.2.1 b.1.b b.2))
def iM:=qs (st (pr (cu aP (us 2 (c ai (us 2 (cu RH (us 2 (cu aEX (us 9 (cl ai (us 98 nil)))))))))) (pl (c cj (c mA (cl P1 nil))) cA)))
def X9:=qs (st (pr (cu aP (us 2 (c ai (us 2 (cu RH (us 2 (cu aEX (us 9 (c ai (cl ab (us 97 nil))))))))))) (pl (c cj (c mA (cl P1 nil))) cA)))
abbrev qW:=X9.B
def X' {ρ:Type}:=@ef qW ((.ex 0)) X9 ρ
def Kt (aw:bG)(d:iM.B):PL iM qW:=let y0:=Int.toNat d.1.2;let y1:=aX d.1.2 24;let y2:=decide (d.1.2<24);ae y2 (ae y1 (opt (aw (d.2.2.1 y0) d.2.1) λaj=>ae y1 (ae (true&&Nat.ble (0+y0*1+1) 24) (ret (Sum.inl ((d.1.1,wI (d.1.2+1)),aj.2,λj=>bif Nat.beq j y0 then aj.1 else d.2.2.1 j,d.2.2.2))) no) no) no) (ret (Sum.inr ((d.1.1,d.1.2,y2),d.2)))
def Ku:=bD (Kt aQ) 2000
def iN:=qs (st (dp (cu aP (us 5 (cu RH (us 2 (cu aEX (us 1 (c ai (c aSf (us 24 (c ai (us 3 (c ai (cl ai (us 75 nil)))))))))))))) λa=>(pl (c cj (c mA (c P1 (cl (so (cl (gs a.2.1 mF) nil)) nil)))) cA)))
def asU:=qs (st (pr (cu aP (us 5 (cu RH (us 2 (cu aEX (us 1 (c ai (c aSf (us 24 (c ai (us 3 (c ai (c ai (cl ab (us 74 nil))))))))))))))) (pl (c cj (c mA (c P1 ah7))) cA)))
abbrev qX:=((Int×Nat×Int×Int×Int×Bool)×Bool×NI×(NI×NI×NI×NI×NI)×NI)
def Ya {ρ:Type}(x:qX)(K:AX->St->Option ρ):Option ρ:=(λd=>K (.ex 4) (asU.em (d.1,d.2.1,d.b.1,d.b.2.1,d.1.2.1,d.c))) x
def Kv (ajK:Um)(d:iN.B):PL iN qX:=let n2:=d.2.2.2;let n1:=d.1.2.2;let y0:=d.1.2.1+1;let y1:=decide (n1.2.2<n1.2.1);ae y1 (opt (ajK n2.1.1 n2.1.2.1 n1.2.2 d.1.1) λaj=>ae (Nat.ble (y0*8) 140737488355328) (ret (Sum.inl ((d.1.1,y0,n1.1,n1.2.1,wI (n1.2.2+1)),d.2.1,d.2.2.1,n2.1,λj=>bif Nat.beq j d.1.2.1 then aj else n2.2 j))) no) (ret (Sum.inr ((d.1.1,d.1.2.1,n1.1,n1.2.1,n1.2.2,y1),d.2)))
def Kw:=bD (Kv Di) 2000
def iO:=qs (st (pr (cu aP (us 5 (cu RH (us 2 (cu aEX (us 27 aRj)))))) (pl (c cj (c mA (cl P1 nil))) cA)))
def Yb:=qs (st (pr (cu aP (us 5 (cu RH (us 2 (cu aEX (us 27 (c ai (cl ab (us 79 nil))))))))) (pl (c cj (c mA (cl P1 nil))) cA)))
abbrev qY:=Yb.B
def Yc {ρ:Type}:=@ef qY ((.ex 2)) Yb ρ
def Kx (bf:ee)(aC:bK)(bV:eM)(Kj:LT iN qX)(d:iO.B):PL iO qY:=let y0:=decide (d.1<24);ae y0 (ae true (opt (Kj ((d.1,0,d.1,wI (d.1+1),0),d.2.1,d.2.2.1,d.2.2.2,λx=>0)) λd=>let n2:=d.2.2;let n1:=n2.2.1.2;let n3:=n1.2.2;let y0:=Int.toNat d.1.1;let y1:=aX d.1.1 24;let y2:=y0*1;let y3:=wI (d.1.1+1);let y4:=Int.toNat y3;let y5:=Nat.ble (0+y2+1) 24;let y6:=Nat.beq y0 y0;ae (IF y3 24) (ae (Nat.beq y4 y4) (ae (Nat.beq d.1.2.1 d.1.2.1) (opt (bf 30 y4 d.1.2.1 d.2.1 n2.1 n2.2.2 false true) λaj=>let nq:=bif y6 then aj.1 else n1.2.1 y0;ae y1 (ae (y5&&Nat.ble (300+y2+1) 373) (ae y1 (ae y5 (ae y1 (ae y5 (opt (aC (n1.1 y0) nq 30 aj.2) λaI=>ae y1 (ae (y5&&Nat.ble (324+y2+1) 373) (ae (aX d.1.1 25) (ae y1 (ae y5 (ae y1 (ae y5 (opt (aC nq (bif y6 then aI.1 else n3.1 y0) 30 aI.2) λbz=>opt (bV 2 bz.2 (cr (n3.2 y0) [bz.1,n3.2 y0]) true) λcq=>ae (aX y3 25) (ae (true&&Nat.ble (348+y4*1+1) 373) (ret (Sum.inl (wI (d.1.2.2.1+1),cq.2,n2.1,n2.2.1.1,n1.1,λj=>bif Nat.beq j y0 then aj.1 else n1.2.1 j,λj=>bif Nat.beq j y0 then aI.1 else n3.1 j,λj=>bif Nat.beq j y4 then cq.1 else n3.2 j))) no) no) no) no) no) no) no) no) no) no) no) no) no) no) no) no) no) no) no) (ret (Sum.inr ((d.1,y0),d.2)))
def Ky:=bD (Kx bo aU cF Kw) 2000
def QJ (fg:oX)(aE:bS)(dG:LT iM qW)(qd:LT iO qY)(x0:Nat->Int)(x1:Nat->Int)(x2:Nat->Int)(x3:Int)(x4:Bool):Pg agw:=opt (fg x0 x1 x4) λd=>opt (dG ((x3,0),d.2,x2,d.1.1,d.1.2,λx=>0,λx=>0,λx=>0)) λd=>let n1:=d.2.2.2;opt (aE d.1.1 1 72057594037927936 d.2.1) λaj=>opt (qd (0,aj.2,d.2.2.1,n1.1,n1.2.1,n1.2.2.1,n1.2.2.2.1,λj=>bif Nat.beq j 0 then aj.1 else n1.2.2.2.2 j)) λd=>ret (d.2.1,d.2.2.2)
def rC:=λx0 x1 x2 x3 x4=>(QJ fe aZ Ku Ky x0 x1 x2 x3 x4).val
abbrev vL:=oX×bG×bS×Um×ee×bK×eM×(LT iM qW)×(LT iN qX)×(LT iO qY)
def Bs (p:vL):KK:=⟨[yC p.1,cV p.2.1,du p.b.1,asi p.b.2.1,lR p.c.1,eL p.c.2.1,nu p.c.b.1],⟨[⟨3,(1::2::4::5::7::8::rg 10 9 (rg 20 98 [])),[]⟩,⟨9,(rg 1 5 (7::8::rg 10 27 (rg 38 80 []))),[]⟩,⟨13,(rg 1 5 (7::8::10::rg 13 24 (38::39::40::rg 43 75 []))),[(12,[.i .i64])]⟩],[fx 3 1 iM X' p.c.b.2.1,fx 13 1 iN Ya p.d.1,fx 9 1 iO Yc p.d.2],[],[],(some ⟨0,(rg 0 8 (rg 9 109 [])),[]⟩)⟩,1,273⟩
theorem aqg (p:vL):LI (Bs p) 3 iM X' (Kt p.2.1):=λ_ d c K=>by kernel_rfl
theorem aqh (p:vL):LI (Bs p) 13 iN Ya (Kv p.b.2.1):=λ_ d c K=>by kernel_rfl
theorem aqi (p:vL):LI (Bs p) 9 iO Yc (Kx p.c.1 p.c.2.1 p.c.b.1 p.d.1):=λ_ d c K=>by kernel_rfl
theorem azh (p:vL):D2 (Bs p) agv (lf MM) λb=>QJ p.1 p.b.1 p.c.b.2.1 p.d.2 b.1.1.1 b.1.1.2 b.1.2.1 b.1.b b.2:=λb=>by kernel_rfl
abbrev Bt:vL:=(fe,aQ,aZ,Di,bo,aU,cF,Ku,Kw,Ky)
theorem agx [ax]:SC (QI rC):=sc (kS (k:=Bs Bt) (.c EF (.c cZ (.c dM (.c aB8 (.c nw (.c eY (.c pG (.nil _)))))))) [3,9,13] [] ⟨kL (aqg Bt),⟨kL (aqi Bt),⟨kL (aqh Bt),trivial⟩⟩⟩ trivial (azh Bt))
def LF:=qa (pr (cu aP (c yi ac8)) bA)
def Av:=qe oS
abbrev LG:=Av.B
abbrev LH:=NI->NI->NI->Int->Bool->Option LG
def LJ (g:LH):Ct:=(268,FC LF (lf Av) (λb=>g b.1.1.1 b.1.1.2 b.1.2.1 b.1.b b.2))
def Ce (vM:Hq)(x0:Nat->Int)(x1:Nat->Int)(x2:Nat->Int)(x3:Int)(x4:Bool):Pg LG:=opt (vM x0 x1 x2 x3 x4) λd=>ret (d.2.2.2.2.2 24,d.1)
def oK:=λx0 x1 x2 x3 x4=>(Ce rC x0 x1 x2 x3 x4).val
theorem ahJ:∀vM,D0 [QI vM] 268 LF (lf Av) λb=>Ce vM b.1.1.1 b.1.1.2 b.1.2.1 b.1.b b.2:=λ_ b=>by kernel_rfl
theorem ahK [ax]:SC (LJ oK):=s0 (.c agx (.nil _)) (ahJ rC)
def axB:=qa (pl (c acZ aAA) nil)
def aeO:=qe Fq
abbrev axC:=aeO.B
abbrev axD:=Int->Int->Int->Int->Option axC
def axE (g:axD):Ct:=(274,FC axB (lf aeO) (λb=>g b.1.1 b.1.2 b.2.1 b.b))
def aj8 (x0:Int)(x1:Int)(x2:Int)(x3:Int):Pg axC:=let y0:=x0==x2;ae (y0&&(x1==x3&&true)) (ret 0) (ae (decide (x0<x2)) (ret (-1)) (ae y0 (ae (decide (x1<x3)) (ret (-1)) (ret 1)) (ret 1)))
def OS:=λx0 x1 x2 x3=>(aj8 x0 x1 x2 x3).val
theorem aKk:D0 [] 274 axB (lf aeO) λb=>aj8 b.1.1 b.1.2 b.2.1 b.b:=λb=>by kernel_rfl
theorem aKl [ax]:SC (axE OS):=s0 (.nil _) aKk
def aj9:=qa (pl C7 nil)
def QK:=qe B9
abbrev aka:=QK.B
abbrev akb:=Int->Int->Int->Option aka
def akc (g:akb):Ct:=(269,FC aj9 (lf QK) (λb=>g b.1 b.2.1 b.b))
def Vc (aw:bG)(cD:mG)(Yd:axD)(x0:Int)(x1:Int)(x2:Int):Pg aka:=opt (aw x0 false) λd=>opt (aw x1 d.2) λaj=>ae (decide (x2<1)) (ret false) (ae (decide (x2>1000)) (ret false) (ae (decide (aj.1<1)) (ret false) (opt (cD d.1 d.1) λd=>opt (cD (wI (wI (x2*x2)*65536)) aj.1) λaI=>opt (Yd d.1 d.2 aI.1 aI.2) λd=>ret (decide (d<=0)))))
def Ds:=λx0 x1 x2=>(Vc aQ eR OS x0 x1 x2).val
theorem aCt:∀aw cD Yd,D0 [cV aw,vV cD,axE Yd] 269 aj9 (lf QK) λb=>Vc aw cD Yd b.1 b.2.1 b.b:=λ_ _ _ b=>by kernel_rfl
theorem aCu [ax]:SC (akc Ds):=s0 (.c cZ (.c zt (.c aKl (.nil _)))) (aCt aQ eR OS)
def Ye:=qa (pr (cu aP (c yi ac8)) bA)
def H2:=qe (res (pr (py (c ah8 (c ac3 are))) (pl lk nil)))
abbrev Yf:=H2.B
abbrev Yg:=NI->NI->NI->Int->Bool->Option Yf
def Yh (g:Yg):Ct:=(270,FC Ye (lf H2) (λb=>g b.1.1.1 b.1.1.2 b.1.2.1 b.1.b b.2))
def gm:=qs (st (pr (cu aP (us 7 (cu E8 (cu Cw (us 1 (cu aEY (cu LC (cu am7 (c ai (c ai (us 13 (c ai (us 52 (c ai (cl ai (us 65 nil)))))))))))))))) (pl (c cj (c hI (c mA (c P1 (c hI HK))))) cA)))
def RL:=qs (st (pr (cu aP (us 7 (cu E8 (cu Cw (us 1 (cu aEY (cu LC (cu am7 (c ai (c ai (us 13 (c ai (us 52 (c ai (c ai (cl ab (us 64 nil))))))))))))))))) (pl (c cj (c hI (c mA (c P1 (c hI HK))))) cA)))
abbrev od:=RL.B
def RM {ρ:Type}:=@ef od ((.ex 2)) RL ρ
def FD (ajK:Um)(aC:bK)(bV:eM)(aqe:Un)(d:gm.B):PL gm od:=let n4:=d.1.1;let n3:=d.1.2;let n2:=d.2.2.2.2;let n1:=n3.2.2;let y0:=Int.toNat n4;let y1:=Int.toNat n1.2;let y2:=aX n1.2 24;let y3:=decide (n1.2<n1.1);ae y3 (opt (ajK n2.1.1 n2.1.2.1 n1.2 n4) λaj=>ae y2 (opt (aC (n2.2.2 y1) n3.1 44 d.2.1) λaI=>opt (bV 2 aI.2 (cr aj [aI.1,aj]) true) λbz=>opt (aqe n2.2.1.1 n2.2.1.2 n1.2 n4 bz.1) λcq=>ae y2 (ae (aX n4 24) (ae (Nat.ble (0+y0*1+1) 24) (opt (aC aj (n2.1.2.2.2.1 y0) 30 bz.2) λeo=>opt (bV 2 eo.2 (cr (n2.2.2 y1) [eo.1,n2.2.2 y1]) true) λcJ=>ae y2 (ae (true&&Nat.ble (0+y1*1+1) 24) (ret (Sum.inl ((n4,n3.1,n3.2.1,n1.1,wI (n1.2+1)),cJ.2,d.2.2.1,d.2.2.2.1,n2.1,cq,λj=>bif Nat.beq j y1 then cJ.1 else n2.2.2 j))) no) no) no) no) no) no) (ret (Sum.inr ((n4,n3.1,n3.2.1,n1.1,n1.2,y3),d.2)))
def FE:=bD (FD Di aU cF xf) 2000
def gq:=qs (st (pr (cu aP (us 7 (cu E8 (cu Cw (us 1 (cu aEY (cu LC (cu am7 (us 4 (cu (app 6 24) (us 107 aRi))))))))))) (pl (c cj (c hI (c mA (c P1 (c hI L6))))) cA)))
def RN:=qs (st (pr (cu aP (us 7 (cu E8 (cu Cw (us 1 (cu aEY (cu LC (cu am7 (us 4 (cu (app 6 24) (us 107 (c ai aLz)))))))))))) (pl (c cj (c hI (c mA (c P1 (c hI L6))))) cA)))
abbrev oe:=RN.B
def RO {ρ:Type}:=@ef oe ((.ex 4)) RN ρ
def FF (aD:cx)(d:gq.B):PL gq oe:=let n1:=d.2.2.2.2;let y0:=Int.toNat d.1;let y1:=aX d.1 24;let y2:=decide (d.1<24);ae y2 (ae y1 (opt (aD (n1.2.2.1 y0) (n1.1.2.2.2.2 24) 30 d.2.1) λaj=>ae y1 (ae (true&&Nat.ble (0+y0*1+1) 24) (ret (Sum.inl (wI (d.1+1),aj.2,d.2.2.1,d.2.2.2.1,n1.1,n1.2.1,n1.2.2.1,λj=>bif Nat.beq j y0 then aj.1 else n1.2.2.2 j))) no) no) no) (ret (Sum.inr ((d.1,y2),d.2)))
def FG:=bD (FF bm) 2000
def gr:=qs (st (pr (cu aP (us 7 (cu E8 (cu Cw (us 1 (cu aEY (cu LC (cu am7 (us 15 (cl ai (us 119 nil))))))))))) (pl (c cj (c hI (c mA (c P1 (c hI HK))))) cA)))
def RP:=qs (st (pr (cu aP (us 7 (cu E8 (cu Cw (us 1 (cu aEY (cu LC (cu am7 (us 15 (c ai (cl ab (us 118 nil)))))))))))) (pl (c cj (c hI (c mA (c P1 (c hI HK))))) cA)))
abbrev og:=RP.B
def RQ {ρ:Type}:=@ef og ((.ex 0)) RP ρ
def FH (aq:bX)(aE:bS)(aD:cx)(qd:LT gm od)(d:gr.B):PL gr og:=let n1:=d.2.2.2.2;let n2:=n1.1.2.2;let y0:=Int.toNat d.1;let y1:=aX d.1 25;let y2:=aX d.1 24;let y3:=y0*1;let y4:=wI (d.1+1);let y5:=Nat.ble (0+y3+1) 24;let y6:=decide (d.1<24);ae y6 (ae y2 (ae y5 (ae y1 (ae (aX y4 25) (opt (aq (n1.1.2.1 y0) (n2.2.2 y0) (n2.2.2 (Int.toNat y4)) d.2.1) λaj=>opt (aE aj.1 1 72057594037927936 aj.2) λaI=>ae y2 (ae (true&&Nat.ble (276+y3+1) 300) (ae y2 (ae y5 (ae y1 (opt (aD (n2.1 y0) (n2.2.2 y0) 44 aI.2) λbz=>ae y2 (ae y5 (ae y2 (ae (true&&y5) (opt (qd ((d.1,wI (0-bz.1),d.1,d.1,0),bz.2,d.2.2.1,d.2.2.2.1,n1.1,(n1.2.1.1,λj=>bif Nat.beq j y0 then aI.1 else n1.2.1.2 j),λj=>bif Nat.beq j y0 then n2.2.1 y0 else n1.2.2 j)) λd=>ret (Sum.inl (wI (d.1.2.2.1+1),d.2))) no) no) no) no) no) no) no) no) no) no) no) no) no) (ret (Sum.inr ((d.1,y6),d.2)))
def FI:=bD (FH aT aZ bm FE) 2000
def Kz (vM:Hq)(Kj:LT gq oe)(dG:LT gr og)(x0:Nat->Int)(x1:Nat->Int)(x2:Nat->Int)(x3:Int)(x4:Bool):Pg Yf:=opt (vM x0 x1 x2 x3 x4) λd=>opt (dG (0,d.1,(λx=>0,λx=>0),λx=>0,d.2,(d.2.1,d.2.2.1),λx=>0)) λd=>opt (Kj (0,d.2.1,d.2.2.1,d.2.2.2.1,d.2.2.2.2.1,d.2.2.2.2.2.1,d.2.2.2.2.2.2,λx=>0)) λd=>ret ((d.2.2.2.2.2.1,d.2.2.2.2.2.2.2,d.2.2.2.2.1.2.2.2.2 24),d.2.1)
def wq:=λx0 x1 x2 x3 x4=>(Kz rC FG FI x0 x1 x2 x3 x4).val
abbrev qZ:=Hq×bX×bS×cx×Um×bK×eM×Un×(LT gm od)×(LT gq oe)×(LT gr og)
def wu (p:qZ):KK:=⟨[QI p.1,cU p.2.1,du p.b.1,fK p.b.2.1,asi p.c.1,eL p.c.2.1,nu p.c.b.1,ap9 p.c.b.2.1],⟨[⟨5,(rg 1 7 (10::rg 14 15 (rg 30 119 []))),[]⟩,⟨11,(rg 1 7 (10::rg 16 13 (rg 30 52 (rg 84 65 [])))),[]⟩,⟨20,(rg 1 7 (10::rg 14 4 (rg 19 107 (rg 127 22 [])))),[]⟩],[fx 11 1 gm RM p.d.1,fx 20 1 gq RO p.d.2.1,fx 5 1 gr RQ p.d.b],[],[],(some ⟨0,(rg 0 8 (rg 11 138 [])),[]⟩)⟩,1,270⟩
theorem akd (p:qZ):LI (wu p) 11 gm RM (FD p.c.1 p.c.2.1 p.c.b.1 p.c.b.2.1):=λ_ d c K=>by kernel_rfl
theorem ake (p:qZ):LI (wu p) 20 gq RO (FF p.b.2.1):=λ_ d c K=>by kernel_rfl
theorem akf (p:qZ):LI (wu p) 5 gr RQ (FH p.2.1 p.b.1 p.b.2.1 p.d.1):=λ_ d c K=>by kernel_rfl
theorem asV (p:qZ):D2 (wu p) Ye (lf H2) λb=>Kz p.1 p.d.2.1 p.d.b b.1.1.1 b.1.1.2 b.1.2.1 b.1.b b.2:=λb=>by kernel_rfl
abbrev wx:qZ:=(rC,aT,aZ,bm,Di,aU,cF,xf,FE,FG,FI)
theorem asW [ax]:SC (Yh wq):=sc (kS (k:=wu wx) (.c agx (.c c8 (.c dM (.c gD (.c aB8 (.c eY (.c pG (.c aCb (.nil _))))))))) [5,11,20] [] ⟨kL (akf wx),⟨kL (akd wx),⟨kL (ake wx),trivial⟩⟩⟩ trivial (asV wx))
def agy:=qa (pr (cu aP ac8) bA)
def MN:=qe aAD
abbrev agz:=MN.B
abbrev agA:=NI->Int->Bool->Option agz
def agB (g:agA):Ct:=(272,FC agy (lf MN) (λb=>g b.1.1 b.1.2 b.2))
def iP:=qs (st (pr (cu aP (us 1 (c ai (us 1 (cu RH (us 1 (cu Cw (us 1 aRk)))))))) (pl (c cj L6) cA)))
def Yi:=qs (st (pr (cu aP (us 1 (c ai (us 1 (cu RH (us 1 (cu Cw (us 1 aRz)))))))) (pl (c cj L6) cA)))
abbrev rb:=Yi.B
def Yj {ρ:Type}:=@ef rb ((.ex 0)) Yi ρ
def KA (aC:bK)(d:iP.B):PL iP rb:=let y0:=Int.toNat d.1.2;let y1:=aX d.1.2 24;let y2:=decide (d.1.2<24);ae y2 (ae y1 (opt (aC (d.2.2.1 y0) d.1.1 30 d.2.1) λaj=>ae y1 (ae (true&&Nat.ble (0+y0*1+1) 24) (ret (Sum.inl ((d.1.1,wI (d.1.2+1)),aj.2,λj=>bif Nat.beq j y0 then aj.1 else d.2.2.1 j,d.2.2.2))) no) no) no) (ret (Sum.inr ((d.1.1,d.1.2,y2),d.2)))
def KB:=bD (KA aU) 2000
def QL (dG:LT iP rb)(x0:Nat->Int)(x1:Int)(x2:Bool):Pg agz:=opt (dG ((x1,0),x2,x0,λx=>0)) λd=>ret (d.2.2.1,d.2.1)
def Bu:=λx0 x1 x2=>(QL KB x0 x1 x2).val
abbrev Hr:=bK×(LT iP rb)
def QM (p:Hr):KK:=⟨[eL p.1],⟨[⟨2,(1::3::5::7::rg 9 12 []),[]⟩],[fx 2 1 iP Yj p.2],[0],[],(some ⟨0,(rg 0 6 (rg 7 14 [])),[]⟩)⟩,1,272⟩
theorem aqj (p:Hr):LI (QM p) 2 iP Yj (KA p.1):=λ_ d c K=>by kernel_rfl
theorem azi (p:Hr):D2 (QM p) agy (lf MN) λb=>QL p.2 b.1.1 b.1.2 b.2:=λb=>by kernel_rfl
abbrev QN:Hr:=(aU,KB)
theorem azj [ax]:SC (agB Bu):=sc (kS (k:=QM QN) (.c eY (.nil _)) [2] [] ⟨kL (aqj QN),trivial⟩ trivial (azi QN))
def KC:=qa (dp (cu aP (c jX (cl aIS nil))) λa=>(c uV (cl (cl (gs a.2.1 aAJ) nil) nil)))
def Z8:=qe (res (pr jX (pl L4 nil)))
abbrev asX:=Z8.B
abbrev asY:=KC.B->Option asX
def asZ (g:asY):Ct:=(271,sW 2 [.i .i64,.i .i64,.i .i64,.i .i64,.i .i64,.i .i64,.i .i64,.i .i64,.i .i64,.i .i64,.i .i64,.i .i64,.i .i64,.i .i64,.i .i64,.i .i64,.i .i64,.i .i64,.i .i64,.i .i64,.i .i64,.i .i64,.i .i64,.i .i64] (FC KC (lf Z8) g))
def mr:=qs (st (dp (cu aP (us 3 (cu Cw (us 1 (cu afR (us 1 (cu am5 (us 7 (c aIS (c ai (c ai (us 3 aGd)))))))))))) λa=>(pl (c cj (c (so (cl (gs a.1.1 aAJ) nil)) aGB)) cA)))
def aCv:=qs (st (pr (cu aP (us 3 (cu Cw (us 1 (cu afR (us 1 (cu am5 (us 7 (c aIS (c ai (c ai (us 3 aGk)))))))))))) (pl (c cj (c aSP aGB)) cA)))
abbrev yL:=(((Nat×Bool)×Int×Int×Int×Bool)×Bool×aVW×NI×NI×NI)
def akg {ρ:Type}(x:yL)(K:AX->St->Option ρ):Option ρ:=(λd=>K (.ex 2) (aCv.em (d.1,d.2.1,(d.1.1.1,d.b.1),d.b.2))) x
def Vd (bV:eM)(d:mr.B):PL mr yL:=let n2:=d.2.2.2;let n1:=d.1.2.2;let y0:=Int.toNat n1.2;let y1:=aX n1.2 24;let y2:=decide (n1.2<24);ae y2 (ae y1 (ae y1 (opt (bV 2 d.2.1 (cr (n2.1 y0) [n2.2.2 y0,n2.1 y0]) true) λaj=>ae y1 (ae (true&&Nat.ble (0+y0*1+1) 24) (ret (Sum.inl ((d.1.1,d.1.2.1,n1.1,wI (n1.2+1)),aj.2,d.2.2.1,λj=>bif Nat.beq j y0 then aj.1 else n2.1 j,n2.2))) no) no) no) no) (ret (Sum.inr ((d.1.1,d.1.2.1,n1.1,n1.2,y2),d.2)))
def Ve:=bD (Vd cF) 2000
def mu:=qs (st (dp (cu aP (us 3 (cu Cw (us 1 (cu afR (us 9 (c aIS (c ai (cl ai (us 28 nil)))))))))) λa=>(pl (c cj (c (so (cl (gs a.1.1 aAJ) nil)) L6)) cA)))
def aCw:=qs (st (pr (cu aP (us 3 (cu Cw (us 1 (cu afR (us 9 (c aIS (c ai (c ai (cl ab aQ4)))))))))) (pl (c cj (c aSP L6)) cA)))
abbrev yM:=(aIE×Bool×aVW×NI×NI)
def akh {ρ:Type}(x:yM)(K:AX->St->Option ρ):Option ρ:=(λd=>K (.ex 0) (aCw.em (d.1,d.2.1,(d.1.1.1,d.b.1),d.b.2))) x
def Vf (bd:dy)(bn:gQ)(vK:Hp)(tX:Kk)(qd:LT mr yL)(d:mu.B):PL mu yM:=let n9:=d.1.1;let n5:=d.1.2;let n4:=d.2.2.1;let n2:=n4.2.2.2;let n6:=n2.2.2.2;let n1:=n6.2.2.2.2;let n8:=n1.2.2.2;let n3:=n8.2.2.2;let n7:=n3.2.2.2;let y0:=Int.toNat n5.2;let y1:=decide (n5.2<n5.1);ae y1 (ae (aX n5.2 n9.1) (ae (Nat.beq n9.1 n9.1) (opt (qd ((n9,n5.1,n5.2,0),d.2.1,n4,d.2.2.2.1,d.2.2.2.2,cr (n4.1 y0) [n7.2.2.2.2 y0,n7.2.2.2.1 y0,n7.2.2.1 y0,n7.2.1 y0,n7.1 y0,n3.2.2.1 y0,n3.2.1 y0,n3.1 y0,n8.2.2.1 y0,n8.2.1 y0,n8.1 y0,n1.2.2.1 y0,n1.2.1 y0,n1.1 y0,n6.2.2.2.1 y0,n6.2.2.1 y0,n6.2.1 y0,n6.1 y0,n2.2.2.1 y0,n2.2.1 y0,n2.1 y0,n4.2.2.1 y0,n4.2.1 y0,n4.1 y0])) λd=>opt (bd d.2.2.2.1) λaj=>opt (bn aj.1 aj.2.1 aj.2.2.1 aj.2.2.2 d.2.1) λaI=>opt (vK d.2.2.2.1 aI.1.1 aI.1.2.1 aI.1.2.2.1 aI.1.2.2.2) λbz=>opt (tX bz aI.2) λcq=>ret (Sum.inl ((d.1.1,d.1.2.1,wI (d.1.2.2.1+1)),cq.2,d.2.2.1,cq.1,d.2.2.2.2.1))) no) no) (ret (Sum.inr ((n9,n5.1,n5.2,y1),d.2)))
def Vg:=bD (Vf bY cW rA tW Ve) 2000
def aeP (aN:eN)(dG:LT mu yM)(x:KC.B):Pg asX:=let y0:=Int.ofNat x.1.2.1;ae (y0==0) (opt (aN x.1.1 x.2.1) λd=>ret d) (ae (Nat.beq x.1.2.1 x.1.2.1) (opt (dG ((x.1.2,y0,0),x.2.1,x.2.2,x.1.1,λx=>0)) λd=>ret (d.2.2.2.1,d.2.1)) no)
def KD:=λx=>(aeP bW Vg x).val
abbrev KE:=eN×eM×dy×gQ×Hp×Kk×(LT mr yL)×(LT mu yM)
def SH (p:KE):KK:=⟨[iw p.1,nu p.2.1,iL p.b.1,ml p.b.2.1,Qy p.c.1,UM p.c.2.1],⟨[⟨4,(1::2::3::5::rg 7 9 (rg 19 28 [])),[]⟩,⟨7,(1::2::3::5::7::rg 9 7 (19::20::21::rg 23 24 [])),[]⟩],[fx 7 2 mr akg p.c.b.1,fx 4 2 mu akh p.c.b.2],[0],[],(some ⟨0,(rg 0 6 (rg 7 40 [])),[]⟩)⟩,2,271⟩
theorem azk (p:KE):LI (SH p) 7 mr akg (Vd p.2.1):=λ_ d c K=>by kernel_rfl
theorem azl (p:KE):LI (SH p) 4 mu akh (Vf p.b.1 p.b.2.1 p.c.1 p.c.2.1 p.c.b.1):=λ_ d c K=>by kernel_rfl
theorem aHx (p:KE):D2 (SH p) KC (lf Z8) λb=>aeP p.1 p.c.b.2 b:=λb=>by kernel_rfl
abbrev SI:KE:=(bW,cF,bY,cW,rA,tW,Ve,Vg)
theorem aHy [ax]:SC (asZ KD):=sc (Sound.nil 2 [.i .i64,.i .i64,.i .i64,.i .i64,.i .i64,.i .i64,.i .i64,.i .i64,.i .i64,.i .i64,.i .i64,.i .i64,.i .i64,.i .i64,.i .i64,.i .i64,.i .i64,.i .i64,.i .i64,.i .i64,.i .i64,.i .i64,.i .i64,.i .i64]<|kS (k:=SH SI) (.c jh (.c pG (.c jC (.c nI (.c ags (.c ajV (.nil _))))))) [4,7] [] ⟨kL (azl SI),⟨kL (azk SI),trivial⟩⟩ trivial (aHx SI))
def axF:=qa (pr (cu aP (c jX (c yi aR7))) bA)
def aeQ:=qe (res (pr (py (c ac3 (c ah8 (cl (ra aGj) nil)))) (pl lk nil)))
abbrev axG:=aeQ.B
abbrev aki:=NI->NI->NI->NI->Int->Int->Int->Bool->Option axG
def axH (g:aki):Ct:=(264,FC axF (lf aeQ) (λb=>g b.1.1 b.1.2.1.1 b.1.2.1.2 b.1.b.1 b.1.b.2.1 b.1.c.1 b.1.c.2 b.2))
def akj (aN:eN)(fg:oX)(aw:bG)(uN:LH)(KF:akb)(CG:Yg)(Ht:agA)(SJ:asY)(x0:Nat->Int)(x1:Nat->Int)(x2:Nat->Int)(x3:Nat->Int)(x4:Int)(x5:Int)(x6:Int)(x7:Bool):Pg axG:=opt (aN x0 x7) λd=>opt (fg x1 x2 d.2) λaj=>opt (aw x4 aj.2) λaI=>opt (uN aj.1.1 aj.1.2 x3 x5 aI.2) λbz=>opt (KF aI.1 bz.1 x6) λcq=>ae (!cq) (ret ((d.1,aj.1,false,aI.1,bz.1),bz.2)) (opt (CG aj.1.1 aj.1.2 x3 x5 bz.2) λeo=>opt (Ht eo.1.2.1 aI.1 eo.2) λcJ=>opt (SJ ((d.1,1,true),cJ.2,λj=>bif Nat.beq j 0 then cJ.1 0 else cJ.1 0,λj=>bif Nat.beq j 0 then cJ.1 1 else cJ.1 1,λj=>bif Nat.beq j 0 then cJ.1 2 else cJ.1 2,λj=>bif Nat.beq j 0 then cJ.1 3 else cJ.1 3,λj=>bif Nat.beq j 0 then cJ.1 4 else cJ.1 4,λj=>bif Nat.beq j 0 then cJ.1 5 else cJ.1 5,λj=>bif Nat.beq j 0 then cJ.1 6 else cJ.1 6,λj=>bif Nat.beq j 0 then cJ.1 7 else cJ.1 7,λj=>bif Nat.beq j 0 then cJ.1 8 else cJ.1 8,λj=>bif Nat.beq j 0 then cJ.1 9 else cJ.1 9,λj=>bif Nat.beq j 0 then cJ.1 10 else cJ.1 10,λj=>bif Nat.beq j 0 then cJ.1 11 else cJ.1 11,λj=>bif Nat.beq j 0 then cJ.1 12 else cJ.1 12,λj=>bif Nat.beq j 0 then cJ.1 13 else cJ.1 13,λj=>bif Nat.beq j 0 then cJ.1 14 else cJ.1 14,λj=>bif Nat.beq j 0 then cJ.1 15 else cJ.1 15,λj=>bif Nat.beq j 0 then cJ.1 16 else cJ.1 16,λj=>bif Nat.beq j 0 then cJ.1 17 else cJ.1 17,λj=>bif Nat.beq j 0 then cJ.1 18 else cJ.1 18,λj=>bif Nat.beq j 0 then cJ.1 19 else cJ.1 19,λj=>bif Nat.beq j 0 then cJ.1 20 else cJ.1 20,λj=>bif Nat.beq j 0 then cJ.1 21 else cJ.1 21,λj=>bif Nat.beq j 0 then cJ.1 22 else cJ.1 22,λj=>bif Nat.beq j 0 then cJ.1 23 else cJ.1 23)) λd=>ret ((d.1,eo.1.1,true,aI.1,bz.1),d.2))
def OT:=λx0 x1 x2 x3 x4 x5 x6 x7=>(akj bW fe aQ oK Ds wq Bu KD x0 x1 x2 x3 x4 x5 x6 x7).val
theorem aKm:∀aN fg aw uN KF CG Ht SJ,D0 [iw aN,yC fg,cV aw,LJ uN,akc KF,Yh CG,agB Ht,asZ SJ] 264 axF (lf aeQ) λb=>akj aN fg aw uN KF CG Ht SJ b.1.1 b.1.2.1.1 b.1.2.1.2 b.1.b.1 b.1.b.2.1 b.1.c.1 b.1.c.2 b.2:=λ_ _ _ _ _ _ _ _ b=>by kernel_rfl
theorem aKn [ax]:SC (axH OT):=s0 (.c jh (.c EF (.c cZ (.c ahK (.c aCu (.c asW (.c azj (.c aHy (.nil _))))))))) (aKm bW fe aQ oK Ds wq Bu KD)
end Go.Proofs.YtldgljclcgaibaaGreat
