/-
  Parts of the proof: Q2
-/
import Derived.Test.YtcmfbkneahoonaaGreatZAE
import Derived.Test.YtcmfbkneahoonaaGreatZAF
set_option linter.unusedSimpArgs false
set_option maxRecDepth 100000
set_option maxHeartbeats 4000000
set_option linter.unusedVariables false
noncomputable section
namespace Go.Proofs.YtcmfbkneahoonaaGreat
open Go.Ab Go.Ab.Pg Go.Ab.Rq
def aoc:=qa (pl apH nil)
def Ua:=qe B3
abbrev aod:=Ua.B
abbrev aoe:=Int->Int->Int->Int->Option aod
def aof (g:aoe):Ct:=(54,FC aoc (lf Ua) (λb=>g b.1 b.2.1 b.b.1 b.b.2))
def kH:=qs (st (dp (us 1 (cu (app 0 4) (us 1 (c aRn (us 6 (c ac8 (cl ai (us 24 aLj)))))))) λa=>(pl (c uQ (cl (so (cl (gs a.1 aF0) nil)) nil)) nil)))
def XQ:=qs (st (pu (us 2 (cu kv (us 42 nil))) (pu nil nil)))
def aso:=qs (st (pr (us 1 (cu (app 0 4) (us 1 (c aRn (us 6 (c ac8 (c ai (cl ab (us 23 aLj))))))))) (pl (c uQ (cl aLA nil)) nil)))
abbrev vE:=XQ.B⊕((Nat×aEK×Int×Bool)×aEK×NI×NI)
def agn {ρ:Type}(x:vE)(K:AX->St->Option ρ):Option ρ:=(Sum.elim (λd=>K .ret (XQ.em d)) (λd=>K (.ex 0) (aso.em (d.1,d.2.1,d.1.1,d.b)))) x
def Ql (cZ:Mq)(cE:mF)(d:kH.B):PL kH vE:=let n5:=d.2.2;let n3:=d.1.1;let n2:=d.1.2;let n4:=n2.1.2;let y0:=n3+1;let n1:=(y0,n2.1,wI (n2.2+1));let y1:=decide (n2.2<4);ae y1 (ae (aX n2.2 4) (ae (n2.2==3) (opt (cZ n4.2.2) λaj=>ae (decide (aj>1073741840)) (ret (Sum.inr (Sum.inl ()))) (opt (cE n4.2.2 n4.2.2) λaF=>ae (Nat.ble (y0*16) 140737488355328) (ret (Sum.inl (n1,d.2.1,λj=>bif Nat.beq j n3 then aF.1 else n5.1 j,λj=>bif Nat.beq j n3 then aF.2 else n5.2 j))) no)) (ae (n2.2==2) (opt (cZ n4.2.1) λaj=>ae (decide (aj>1073741840)) (ret (Sum.inr (Sum.inl ()))) (opt (cE n4.2.1 n4.2.1) λaF=>ae (Nat.ble (y0*16) 140737488355328) (ret (Sum.inl (n1,d.2.1,λj=>bif Nat.beq j n3 then aF.1 else n5.1 j,λj=>bif Nat.beq j n3 then aF.2 else n5.2 j))) no)) (ae (n2.2==1) (opt (cZ n4.1) λaj=>ae (decide (aj>1073741840)) (ret (Sum.inr (Sum.inl ()))) (opt (cE n4.1 n4.1) λaF=>ae (Nat.ble (y0*16) 140737488355328) (ret (Sum.inl (n1,d.2.1,λj=>bif Nat.beq j n3 then aF.1 else n5.1 j,λj=>bif Nat.beq j n3 then aF.2 else n5.2 j))) no)) (opt (cZ n2.1.1) λaj=>ae (decide (aj>1073741840)) (ret (Sum.inr (Sum.inl ()))) (opt (cE n2.1.1 n2.1.1) λaF=>ae (Nat.ble (y0*16) 140737488355328) (ret (Sum.inl (n1,d.2.1,λj=>bif Nat.beq j n3 then aF.1 else n5.1 j,λj=>bif Nat.beq j n3 then aF.2 else n5.2 j))) no))))) no) (ret (Sum.inr (Sum.inr ((n3,n2.1,n2.2,y1),d.2))))
def Qm:=bD (Ql vA eQ) 2000
def ZP (wc:qc)(sR:BK)(dA:LT kH vE)(x0:Int)(x1:Int)(x2:Int)(x3:Int):Pg aod:=ae true (opt (dA ((0,(x0,x1,x2,x3),0),(x0,x1,x2,x3),λx=>0,λx=>0)) λx=>sum x (λd=>ret false) λd=>ae (Nat.beq d.1.1 d.1.1) (opt (wc d.1.1 d.2.2.1 d.2.2.2 true) λd=>opt (sR d.1.1 d.1.2 0) λd=>let y0:=wI (d.1-1152921504606846976);ae d.2 (ae (decide (y0>= -4294967296)) (ret (decide (y0<=4294967296))) (ret false)) (ret false)) no) no
def BP:=λx0 x1 x2 x3=>(ZP ji pC Qm x0 x1 x2 x3).val
abbrev N5:=Mq×mF×qc×BK×(LT kH vE)
def ZQ (p:N5):KK:=⟨[abx p.1,vT p.2.1,II p.b.1,NQ p.b.2.1],⟨[⟨3,(0::2::rg 4 6 (rg 12 24 [39,40,44])),[(3,[.i .i64,.i .u64])]⟩],[fg 3 0 kH agn p.c],[],[],(some ⟨0,(0::1::rg 3 42 []),[]⟩)⟩,0,54⟩
theorem avr (p:N5):LI (ZQ p) 3 kH agn (Ql p.1 p.2.1):=λ_ d c K=>by kernel_rfl
theorem aDV (p:N5):D2 (ZQ p) aoc (lf Ua) λb=>ZP p.b.1 p.b.2.1 p.c b.1 b.2.1 b.b.1 b.b.2:=λb=>by kernel_rfl
abbrev ZR:N5:=(vA,eQ,ji,pC,Qm)
theorem aDW [ax]:SC (aof BP):=sc (kS (k:=ZQ ZR) (.c ami (.c zh (.c OD (.c Zj (.nil _))))) [3] [] ⟨kL (avr ZR),trivial⟩ trivial (aDV ZR))
def aog:=qa (dp (cu aP (c ai (c F' (cl aQl nil)))) λa=>(c uN (c (cl (gs a.2.1.1 mE) nil) (cl (cl (gs a.b.1 mE) nil) nil))))
def Ub:=qe (res (pr ai (pl (cl arq auy) nil)))
abbrev aoh:=Ub.B
abbrev eo:=Int->Nat->Nat->Bool->NI->NI->Bool->Bool->Option aoh
def lP (g:eo):Ct:=(181,sQ 3 [.i .i64] (sQ 2 [.i .i64] (FC aog (lf Ub) (λb=>g b.1.1 b.1.2.1.1 b.1.b.1 b.2.1 b.b.1 b.b.2 b.1.2.1.2 b.1.b.2))))
def tn:=qs (st (dp (cu aP (c ai (c F' (c aQl (us 5 (cu (app 3 2) aQV)))))) λa=>(pl (c ck (c (so (cl (gs a.2.1.1 mE) nil)) (c (so (cl (gs a.b.1.1 mE) nil)) YW))) cB)))
def azb:=qs (st (pr (cu aP (c ai (c F' (c aQl (us 5 (cu (app 3 2) aQZ)))))) (pl (c ck (c HE (c HE YW))) cB)))
abbrev Hg:=(aQe×Bool×NI×NI×Int×Int)
def ago {ρ:Type}(x:Hg)(K:AX->St->Option ρ):Option ρ:=(λd=>K (.ex 0) (azb.em (d.1,d.2.1,(d.1.2.1.1,d.b.1),(d.1.b.1.1,d.b.2.1),d.c))) x
def Hh (aw:bI)(cE:mF)(wc:qc)(d:tn.B):PL tn Hg:=let y0:=Int.toNat d.1.2.2.2.2;let y1:=decide (d.1.2.2.2.2<d.1.2.2.2.1);ae y1 (ae (aX d.1.2.2.2.2 d.1.2.1.1) (opt (aw (d.2.2.1 y0) d.2.1) λaj=>ae (aX d.1.2.2.2.2 d.1.2.2.1.1) (opt (aw (d.2.2.2.1 y0) aj.2) λaF=>opt (cE aj.1 aF.1) λbx=>opt (wc 2 (λj=>bif Nat.beq j 1 then bx.1 else bif Nat.beq j 0 then d.2.2.2.2.1 else d.2.2.2.2.1) (λj=>bif Nat.beq j 1 then bx.2 else bif Nat.beq j 0 then d.2.2.2.2.2 else d.2.2.2.2.2) true) λcv=>ret (Sum.inl ((d.1.1,d.1.2.1,d.1.2.2.1,d.1.2.2.2.1,wI (d.1.2.2.2.2+1)),aF.2,d.2.2.1,d.2.2.2.1,cv.1))) no) no) (ret (Sum.inr ((d.1.1,d.1.2.1,d.1.2.2.1,d.1.2.2.2.1,d.1.2.2.2.2,y1),d.2)))
def Qn:=bD (Hh aQ eQ ji) 2000
def ZS (gZ:vy)(dA:LT tn Hg)(x0:Int)(x1:Nat)(x2:Nat)(x3:Bool)(x4:Nat->Int)(x5:Nat->Int)(w0:Bool)(w1:Bool):Pg aoh:=let y0:=if Int.ofNat x2<Int.ofNat x1 then Int.ofNat x2 else Int.ofNat x1;ae (decide (x0<0)) (opt (gZ 0 0 x0 x3) λd=>ret d) (ae (decide (x0>120)) (opt (gZ 0 0 x0 x3) λd=>ret d) (ae (Nat.beq x1 x1) (ae (Nat.beq x2 x2) (opt (dA ((x0,(x1,w0),(x2,w1),if 100<y0 then 100 else y0,0),x3,x4,x5,0,0)) λd=>opt (gZ d.2.2.2.2.1 d.2.2.2.2.2 d.1.1 d.2.1) λd=>ret d) no) no))
def br:=λx0 x1 x2 x3 x4 x5 w0 w1=>(ZS me Qn x0 x1 x2 x3 x4 x5 w0 w1).val
abbrev N6:=vy×bI×mF×qc×(LT tn Hg)
def ZT (p:N6):KK:=⟨[G6 p.1,cW p.2.1,vT p.b.1,II p.b.2.1],⟨[⟨5,(rg 4 5 (rg 10 15 (rg 27 26 []))),[]⟩],[fg 5 3 tn ago p.c],[0],[],(some ⟨0,(rg 0 8 (rg 9 44 [])),[]⟩)⟩,3,181⟩
theorem avs (p:N6):LI (ZT p) 5 tn ago (Hh p.2.1 p.b.1 p.b.2.1):=λ_ d c K=>by kernel_rfl
theorem aDX (p:N6):D2 (ZT p) aog (lf Ub) λb=>ZS p.1 p.c b.1.1 b.1.2.1.1 b.1.b.1 b.2.1 b.b.1 b.b.2 b.1.2.1.2 b.1.b.2:=λb=>by kernel_rfl
abbrev ZU:N6:=(me,aQ,eQ,ji,Qn)
theorem np [ax]:SC (lP br):=sc (Sound.nil 3 [.i .i64]<|Sound.nil 2 [.i .i64]<|kS (k:=ZT ZU) (.c Qc (.c c7 (.c zh (.c OD (.nil _))))) [5] [] ⟨kL (avs ZU),trivial⟩ trivial (aDX ZU))
def axp:=qa (pr (c ai (c ai (c ai (cl ai (cu aP (cu anc nil)))))) (cu aK5 (c ac7 bB)))
def ael:=qe aRg
abbrev axq:=ael.B
abbrev ajo:=Int->Int->Int->Int->Int->Int->Int->Int->Bool->Option axq
def axr (g:ajo):Ct:=(222,FC axp (lf ael) (λb=>g b.1.1 b.1.2.1 b.1.b.1 b.1.b.2 b.2.1.1 b.2.1.2.1 b.2.1.b.1 b.2.1.b.2 b.b))
def ajp (bj:eo)(x0:Int)(x1:Int)(x2:Int)(x3:Int)(x4:Int)(x5:Int)(x6:Int)(x7:Int)(x8:Bool):Pg axq:=let y0:=wI (x0*x4);opt (bj 30 4 4 x8 (cr x4 [x7,x6,x5,x4]) (cr y0 [wI (x3*x7),wI (x2*x6),wI (x1*x5),y0]) false true) λd=>ret d
def OL:=λx0 x1 x2 x3 x4 x5 x6 x7 x8=>(ajp br x0 x1 x2 x3 x4 x5 x6 x7 x8).val
theorem aJN:∀bj,D0 [lP bj] 222 axp (lf ael) λb=>ajp bj b.1.1 b.1.2.1 b.1.b.1 b.1.b.2 b.2.1.1 b.2.1.2.1 b.2.1.b.1 b.2.1.b.2 b.b:=λ_ b=>by kernel_rfl
theorem aJO [ax]:SC (axr OL):=s0 (.c np (.nil _)) (aJN br)
def axs:=qa (pr (c ai (c ai aF8)) (cu apB bB))
def aem:=qe aLw
abbrev axt:=aem.B
abbrev ajq:=Int->Int->Int->Int->Bool->Option axt
def axu (g:ajq):Ct:=(223,FC axs (lf aem) (λb=>g b.1.1 b.1.2.1 b.1.b.1 b.1.b.2 b.2))
def ajr (bj:eo)(x0:Int)(x1:Int)(x2:Int)(x3:Int)(x4:Bool):Pg axt:=opt (bj 30 4 4 x4 (cr x0 [x2,x2,x0,x0]) (cr x1 [x3,x3,x1,x1]) true true) λd=>ret d
def OM:=λx0 x1 x2 x3 x4=>(ajr br x0 x1 x2 x3 x4).val
theorem aJP:∀bj,D0 [lP bj] 223 axs (lf aem) λb=>ajr bj b.1.1 b.1.2.1 b.1.b.1 b.1.b.2 b.2:=λ_ b=>by kernel_rfl
theorem aJQ [ax]:SC (axu OM):=s0 (.c np (.nil _)) (aJP br)
def XR:=qa (pr (c ai (c ai (cl ai (cu aww nil)))) (cl apC nil))
def HP:=qe aRk
abbrev XS:=HP.B
abbrev XT:=Int->Int->Int->NI->Option XS
def XU (g:XT):Ct:=(98,FC XR (lf HP) (λb=>g b.1.1 b.1.2.1 b.1.b b.2))
def gh:=qs (st (pr (us 1 (c ai (c ai (cu aww (us 3 (cl ai (us 9 nil))))))) (pl HD cB)))
def amt:=qs (st (pr (us 1 (c ai (c ai (cu aww (us 3 (c ai (us 1 (c ai (c ai (cl ab (us 5 nil))))))))))) (pl HD cB)))
abbrev nW:=((Int×Int×Int×Bool)×NI)
def RI {ρ:Type}(x:nW)(K:AX->St->Option ρ):Option ρ:=(λd=>K (.ex 0) (amt.em ((d.1.1,d.1.2.1,d.1.b.1,d.1.b.1,d.1.1,d.1.b.2),d.2))) x
def Ft (d:gh.B):PL gh nW:=let n1:=d.1.2;let y0:=Int.toNat n1.2;let y1:=decide (n1.2<d.1.1);ae y1 (ae (aX n1.2 24) (ae (true&&Nat.ble (0+y0*1+1) 24) (ret (Sum.inl ((d.1.1,n1.1,wI (n1.2+1)),λj=>bif Nat.beq j y0 then n1.1 else d.2 j))) no) no) (ret (Sum.inr ((d.1.1,n1.1,n1.2,y1),d.2)))
def Fu:=bD (Ft) 2000
def JZ (dA:LT gh nW)(x0:Int)(x1:Int)(x2:Int)(x3:Nat->Int):Pg XS:=opt (dA ((x1,x2,x0),x3)) λd=>ret d.2
def wg:=λx0 x1 x2 x3=>(JZ Fu x0 x1 x2 x3).val
abbrev Cz:=(LT gh nW)
def J0 (p:Cz):KK:=⟨[],⟨[⟨1,(0::4::5::6::rg 8 9 []),[]⟩],[fg 1 1 gh RI p],[0],[],(some ⟨0,(rg 0 17 []),[]⟩)⟩,1,98⟩
theorem ajs (p:Cz):LI (J0 p) 1 gh RI (Ft):=λ_ d c K=>by kernel_rfl
theorem asp (p:Cz):D2 (J0 p) XR (lf HP) λb=>JZ p b.1.1 b.1.2.1 b.1.b b.2:=λb=>by kernel_rfl
abbrev J1:Cz:=Fu
theorem asq [ax]:SC (XU wg):=sc (kS (k:=J0 J1) (.nil _) [1] [] ⟨kL (ajs J1),trivial⟩ trivial (asp J1))
def agp:=qa (pr (cu aP fU) bB)
def Mu:=qe oQ
abbrev agq:=Mu.B
abbrev Bh:=Int->Bool->Option agq
def Qo (g:Bh):Ct:=(61,FC agp (lf Mu) (λb=>g b.1 b.2))
def Hi (aE:bT)(x0:Int)(x1:Bool):Pg agq:=opt (aE x0 1 72057594037927936 x1) λd=>ret d
def mf:=λx0 x1=>(Hi bc x0 x1).val
theorem azc:∀aE,D0 [du aE] 61 agp (lf Mu) λb=>Hi aE b.1 b.2:=λ_ b=>by kernel_rfl
theorem agr [ax]:SC (Qo mf):=s0 (.c dO (.nil _)) (azc bc)
def abB:=qa (pr (cu aP (cl xX nil)) bB)
def J2:=qe aLL
abbrev Mv:=J2.B
abbrev oW:=NI->NI->Bool->Option Mv
def yp (g:oW):Ct:=(56,FC abB (lf J2) (λb=>g b.1.1 b.1.2 b.2))
def dP:=qs (st (pr (cu aP (us 2 (cu E3 (cu Xh (us 2 aK3))))) (pl (c ck auM) cB)))
def Uc:=qs (st (pr (cu aP (us 2 (cu E3 (cu Xh (us 2 aLc))))) (pl (c ck auM) cB)))
abbrev jX:=Uc.B
def Ud {ρ:Type}:=@ef jX ((.ex 0)) Uc ρ
def zP (Qp:Bh)(d:dP.B):PL dP jX:=let y0:=Int.toNat d.1;let y1:=aX d.1 24;let y2:=decide (d.1<24);ae y2 (ae y1 (opt (Qp (d.2.2.1.2 y0) d.2.1) λaj=>ae y1 (ae (true&&Nat.ble (276+y0*1+1) 300) (ret (Sum.inl (wI (d.1+1),aj.2,(d.2.2.1.1,λj=>bif Nat.beq j y0 then aj.1 else d.2.2.1.2 j),d.2.2.2))) no) no) no) (ret (Sum.inr ((d.1,y2),d.2)))
def zQ:=bD (zP mf) 2000
def dQ:=qs (st (pr (cu aP (us 2 (cu E3 (cu Xh (us 15 aFW))))) (pl (c ck auM) cB)))
def Ue:=qs (st (pr (cu aP (us 2 (cu E3 (cu Xh (us 15 aF1))))) (pl (c ck auM) cB)))
abbrev jY:=Ue.B
def Uf {ρ:Type}:=@ef jY ((.ex 2)) Ue ρ
def zR (aE:bT)(d:dQ.B):PL dQ jY:=let y0:=Int.toNat d.1;let y1:=aX d.1 276;let y2:=decide (d.1<276);let y3:=0+y0*1+1;let y4:=Nat.ble y3 276;ae y2 (ae y1 (ae y4 (opt (aE (d.2.2.1.1 y0) (-1152921504606846976) 1152921504606846976 d.2.1) λaj=>ae y1 (ae (y4&&Nat.ble y3 300) (ret (Sum.inl (wI (d.1+1),aj.2,(λj=>bif Nat.beq j y0 then aj.1 else d.2.2.1.1 j,d.2.2.1.2),d.2.2.2))) no) no) no) no) (ret (Sum.inr ((d.1,y2),d.2)))
def zT:=bD (zR bc) 2000
def Ev (dA:LT dP jX)(oV:LT dQ jY)(x0:Nat->Int)(x1:Nat->Int)(x2:Bool):Pg Mv:=opt (dA (0,x2,(x0,x1),λx=>0,λx=>0)) λd=>opt (oV (0,d.2)) λd=>ret (d.2.2.1,d.2.1)
def fh:=λx0 x1 x2=>(Ev zQ zT x0 x1 x2).val
abbrev yq:=Bh×bT×(LT dP jX)×(LT dQ jY)
def Ew (p:yq):KK:=⟨[Qo p.1,du p.2.1],⟨[⟨2,(1::2::5::6::rg 8 26 []),[]⟩,⟨7,(1::2::rg 5 15 (rg 21 13 [])),[]⟩],[fg 2 1 dP Ud p.b.1,fg 7 1 dQ Uf p.b.2],[0],[],(some ⟨0,(rg 0 4 (rg 5 29 [])),[]⟩)⟩,1,56⟩
theorem amu (p:yq):LI (Ew p) 2 dP Ud (zP p.1):=λ_ d c K=>by kernel_rfl
theorem amv (p:yq):LI (Ew p) 7 dQ Uf (zR p.2.1):=λ_ d c K=>by kernel_rfl
theorem avt (p:yq):D2 (Ew p) abB (lf J2) λb=>Ev p.b.1 p.b.2 b.1.1 b.1.2 b.2:=λb=>by kernel_rfl
abbrev Ey:yq:=(mf,bc,zQ,zT)
theorem Ez [ax]:SC (yp fh):=sc (kS (k:=Ew Ey) (.c agr (.c dO (.nil _))) [2,7] [] ⟨kL (amu Ey),⟨kL (amv Ey),trivial⟩⟩ trivial (avt Ey))
def aCb:=qa (dp (cu aP auA) λa=>(c uN (cl (cl (gs a.1 mE) nil) nil)))
def ajt:=qe aRC
abbrev aCc:=ajt.B
abbrev aqd:=Nat->Bool->NI->Bool->Option aCc
def aCd (g:aqd):Ct:=(31,sQ 1 [.i .i64] (FC aCb (lf ajt) (λb=>g b.1.1 b.2.1 b.b b.1.2)))
def pH:=qs (st (dp (cu aP (c F' (us 2 (cu Xh (cu aEN (us 1 aFX)))))) λa=>(pl (c ck (c (so (cl (gs a.1.1 mE) nil)) auM)) cB)))
def aG4:=qs (st (pr (cu aP (c F' (us 2 (cu Xh (cu aEN (us 1 aLd)))))) (pl (c ck (c HE auM)) cB)))
abbrev EA:=(((Nat×Bool)×Int×Bool)×Bool×NI×(NI×NI)×NI×NI)
def asr {ρ:Type}(x:EA)(K:AX->St->Option ρ):Option ρ:=(λd=>K (.ex 0) (aG4.em (d.1,d.2.1,(d.1.1.1,d.b.1),d.b.2))) x
def aen (Qp:Bh)(d:pH.B):PL pH EA:=let n3:=d.1.1;let n2:=d.1.2;let n1:=d.2.2;let y0:=Int.toNat n2;let y1:=aX n2 24;let y2:=decide (n2<24);let y3:=true&&Nat.ble (276+y0*1+1) 300;ae y2 (ae y1 (ae y3 (ae (decide (n2<Int.ofNat n3.1)) (ae (aX n2 n3.1) (opt (Qp (n1.1 y0) d.2.1) λaj=>ae y1 (ae y3 (ret (Sum.inl ((n3,wI (n2+1)),aj.2,n1.1,n1.2.1,n1.2.2.1,λj=>let y0:=Nat.beq j y0;bif y0 then aj.1 else bif y0 then 1 else n1.2.2.2 j))) no) no) no) (ret (Sum.inl ((n3,wI (n2+1)),d.2.1,n1.1,n1.2.1,n1.2.2.1,λj=>bif Nat.beq j y0 then 1 else n1.2.2.2 j)))) no) no) (ret (Sum.inr ((n3,n2,y2),d.2)))
def aeo:=bD (aen mf) 2000
def aqe (dA:LT pH EA)(x0:Nat)(x1:Bool)(x2:Nat->Int)(w0:Bool):Pg aCc:=ae (Nat.beq x0 x0) (opt (dA (((x0,w0),0),x1,x2,(λx=>0,λx=>0),λx=>0,λx=>0)) λd=>ret (d.2.2.2.2,d.2.1)) no
def Ug:=λx0 x1 x2 w0=>(aqe aeo x0 x1 x2 w0).val
abbrev aep:=Bh×(LT pH EA)
def aqf (p:aep):KK:=⟨[Qo p.1],⟨[⟨3,(2::3::6::rg 8 20 []),[]⟩],[fg 3 2 pH asr p.2],[0],[],(some ⟨0,(rg 0 4 (rg 5 23 [])),[]⟩)⟩,2,31⟩
theorem aDY (p:aep):LI (aqf p) 3 pH asr (aen p.1):=λ_ d c K=>by kernel_rfl
theorem aMZ (p:aep):D2 (aqf p) aCb (lf ajt) λb=>aqe p.2 b.1.1 b.2.1 b.b b.1.2:=λb=>by kernel_rfl
abbrev aqg:aep:=(mf,aeo)
theorem aM0 [ax]:SC (aCd Ug):=sc (Sound.nil 1 [.i .i64]<|kS (k:=aqf aqg) (.c agr (.nil _)) [3] [] ⟨kL (aDY aqg),trivial⟩ trivial (aMZ aqg))
def ass:=qa (pl wY nil)
def ZV:=qe auH
abbrev Sw:=ZV.B
abbrev aeq:=Int->Int->Option Sw
def aer (g:aeq):Ct:=(225,FC ass (lf ZV) (λb=>g b.1 b.2))
def EB (x0:Int)(x1:Int):Pg Sw:=let y0:=wI (wI (Int.tdiv (wI (x1*wI (x1-1))) 2)+x0);ae (decide (x0>=0)) (ae (decide (x0<x1)) (ret (y0,decide (x1<24))) (ret (y0,false))) (ret (y0,false))
def iD:=λx0 x1=>(EB x0 x1).val
theorem aG5:D0 [] 225 ass (lf ZV) λb=>EB b.1 b.2:=λb=>by kernel_rfl
theorem ast [ax]:SC (aer iD):=s0 (.nil _) aG5
def aJR:=qa (pl (c xX wY) nil)
def avu:=qe Fi
abbrev aJS:=avu.B
abbrev Uh:=NI->NI->Int->Int->Option aJS
def asu (g:Uh):Ct:=(224,FC aJR (lf avu) (λb=>g b.1.1 b.1.2 b.2.1 b.b))
def asv (nA:aeq)(x0:Nat->Int)(x1:Nat->Int)(x2:Int)(x3:Int):Pg aJS:=ae (x2==x3) (ae (decide (x2>=0)) (ae (decide (x2<24)) (ret 1073741824) (opt (nA x2 x3) λd=>ae (!d.2) (ret 0) (ae (aX d.1 276) (ae (Nat.ble (0+Int.toNat d.1*1+1) 276) (ret (x0 (Int.toNat d.1))) no) no))) (opt (nA x2 x3) λd=>ae (!d.2) (ret 0) (ae (aX d.1 276) (ae (Nat.ble (0+Int.toNat d.1*1+1) 276) (ret (x0 (Int.toNat d.1))) no) no))) (opt (nA x2 x3) λd=>ae (!d.2) (ret 0) (ae (aX d.1 276) (ae (Nat.ble (0+Int.toNat d.1*1+1) 276) (ret (x0 (Int.toNat d.1))) no) no))
def Df:=λx0 x1 x2 x3=>(asv iD x0 x1 x2 x3).val
theorem aTb:∀nA,D0 [aer nA] 224 aJR (lf avu) λb=>asv nA b.1.1 b.1.2 b.2.1 b.b:=λ_ b=>by kernel_rfl
theorem aCe [ax]:SC (asu Df):=s0 (.c ast (.nil _)) (aTb iD)
def aCf:=qa (pl (c xX C4) nil)
def aju:=qe (res (pl xX (pu nil nil)))
abbrev aCg:=aju.B
abbrev Ui:=NI->NI->Int->Int->Int->Option aCg
def aqh (g:Ui):Ct:=(188,FC aCf (lf aju) (λb=>g b.1.1 b.1.2 b.2.1 b.b.1 b.b.2))
def aes (nA:aeq)(x0:Nat->Int)(x1:Nat->Int)(x2:Int)(x3:Int)(x4:Int):Pg aCg:=opt (nA x2 x3) λd=>let y0:=0+Int.toNat d.1*1+1;ae d.2 (ae (aX d.1 276) (ae (Nat.ble y0 276&&Nat.ble y0 300) (ret (λj=>bif Nat.beq j (Int.toNat d.1) then x4 else x0 j,x1)) no) no) (ret (x0,x1))
def xc:=λx0 x1 x2 x3 x4=>(aes iD x0 x1 x2 x3 x4).val
theorem aM1:∀nA,D0 [aer nA] 188 aCf (lf aju) λb=>aes nA b.1.1 b.1.2 b.2.1 b.b.1 b.b.2:=λ_ b=>by kernel_rfl
theorem aCh [ax]:SC (aqh xc):=s0 (.c ast (.nil _)) (aM1 iD)
def ags:=qa (pu nil nil)
def Mw:=qe (res (pl (aa aAz) (pu nil nil)))
abbrev Bi:=Mw.B
abbrev Bj:=Option Bi
def Qq (g:Bj):Ct:=(184,FC ags (lf Mw) (λ_=>g))
def eN:=qs (st (pr (cu (app 0 576) (cu Ot (us 1 aK7))) (pl (c ld (cl ld nil)) nil)))
def XV:=qs (st (pr (cu (app 0 576) (cu Ot (us 1 aF3))) (pl (c ld (cl ld nil)) nil)))
abbrev lu:=XV.B
def XW {ρ:Type}:=@ef lu ((.ex 0)) XV ρ
def CA (d:eN.B):PL eN lu:=let y0:=Int.toNat d.1;let y1:=aX d.1 24;let y2:=decide (d.1<24);let y3:=y0*24+y0;ae y2 (ae y1 (ae y1 (ae (true&&Nat.ble (0+y3*1+1) 576) (ret (Sum.inl (wI (d.1+1),d.2.1,λj=>bif Nat.beq j y3 then 1073741824 else d.2.2 j))) no) no) no) (ret (Sum.inr ((d.1,y2),d.2)))
def CB:=bD (CA) 2000
def Hj (dA:LT eN lu):Pg Bi:=opt (dA (0,λx=>0,λx=>0)) λd=>ret d.2.2
def mg:Option Bi:=(Hj CB).val
abbrev Hk:=(LT eN lu)
def Qr (p:Hk):KK:=⟨[],⟨[⟨3,(2::rg 4 8 []),[]⟩],[fg 3 0 eN XW p],[],[],(some ⟨0,(rg 1 11 []),[]⟩)⟩,0,184⟩
theorem aqi (p:Hk):LI (Qr p) 3 eN XW (CA):=λ_ d c K=>by kernel_rfl
theorem azd (p:Hk):D2 (Qr p) ags (lf Mw) λb=>Hj p:=λb=>by kernel_rfl
abbrev Qs:Hk:=CB
theorem agt [ax]:SC (Qq mg):=sc (kS (k:=Qr Qs) (.nil _) [3] [] ⟨kL (aqi Qs),trivial⟩ trivial (azd Qs))
def asw:=qa (pr (cu aP (c (aa YV) Fk)) bB)
def ZW:=qe auJ
abbrev asx:=ZW.B
abbrev EC:=NI->Int->Int->Int->Bool->Option asx
def J3 (g:EC):Ct:=(118,FC asw (lf ZW) (λb=>g b.1.1 b.1.2.1 b.1.b.1 b.1.b.2 b.2))
def mh:=qs (st (pr (cu aP (us 3 (cu aEO (cu Xg (cu ah7 (cu aNE (us 1 aK2))))))) (pl (c ck (c (so YV) (c wZ aih))) cB)))
def ajv:=qs (st (pr (cu aP (us 3 (cu aEO (cu Xg (cu ah7 (cu aNE (us 1 (c ai aK0)))))))) (pl (c ck (c (so YV) (c wZ aih))) cB)))
abbrev yr:=ajv.B
def ajw {ρ:Type}:=@ef yr ((.ex 0)) ajv ρ
def Uj (bj:eo)(d:mh.B):PL mh yr:=let n2:=d.2.2.1;let n1:=d.2.2.2;let y0:=wI (3*d.1);let y1:=wI (d.1+1);let y2:=Int.toNat y0;let y3:=wI (y0+3);let y4:=Int.toNat y3;let y5:=decide (d.1<3);let y6:=y4-y2;ae y5 (ae (Cu y3 9) (ae (Cu y0 y4) (ae (Nat.beq y6 y6) (opt (bj 30 y6 3 d.2.1 (λj=>n2 (y2+j)) (cr n1.1.1 [n1.1.2.2,n1.1.2.1,n1.1.1]) false false) λaj=>ae (aX d.1 3) (ae (d.1==2) (ret (Sum.inl (y1,aj.2,n2,n1.1,n1.2.1,n1.2.2.1,aj.1))) (ae (d.1==1) (ret (Sum.inl (y1,aj.2,n2,n1.1,n1.2.1,aj.1,n1.2.2.2))) (ret (Sum.inl (y1,aj.2,n2,n1.1,aj.1,n1.2.2))))) no) no) no) no) (ret (Sum.inr ((d.1,y5),d.2)))
def Uk:=bD (Uj br) 2000
def aet (dA:LT mh yr)(x0:Nat->Int)(x1:Int)(x2:Int)(x3:Int)(x4:Bool):Pg asx:=opt (dA (0,x4,x0,(x1,x2,x3),0,0,0)) λd=>ret (d.2.2.2.2,d.2.1)
def nC:=λx0 x1 x2 x3 x4=>(aet Uk x0 x1 x2 x3 x4).val
abbrev Sx:=eo×(LT mh yr)
def aeu (p:Sx):KK:=⟨[lP p.1],⟨[⟨3,(1::2::3::8::rg 10 15 []),[]⟩],[fg 3 1 mh ajw p.2],[0],[],(some ⟨0,(rg 0 6 (rg 7 18 [])),[]⟩)⟩,1,118⟩
theorem aze (p:Sx):LI (aeu p) 3 mh ajw (Uj p.1):=λ_ d c K=>by kernel_rfl
theorem aG6 (p:Sx):D2 (aeu p) asw (lf ZW) λb=>aet p.2 b.1.1 b.1.2.1 b.1.b.1 b.1.b.2 b.2:=λb=>by kernel_rfl
abbrev aev:Sx:=(br,Uk)
theorem Sy [ax]:SC (J3 nC):=sc (kS (k:=aeu aev) (.c np (.nil _)) [3] [] ⟨kL (aze aev),trivial⟩ trivial (aG6 aev))
def axv:=qa (pr (cu aP (c (aa YV) Fk)) bB)
def aew:=qe auJ
abbrev axw:=aew.B
abbrev Dg:=NI->Int->Int->Int->Bool->Option axw
def XX (g:Dg):Ct:=(238,FC axv (lf aew) (λb=>g b.1.1 b.1.2.1 b.1.b.1 b.1.b.2 b.2))
def nD:=qs (st (pr (cu aP (us 3 (cu aEO (cu Xg (cu ah7 (cu aNE (us 1 aQp))))))) (pl (c ck (c (so YV) (c wZ aih))) cB)))
def aoi:=qs (st (pr (cu aP (us 3 (cu aEO (cu Xg (cu ah7 (cu aNE (us 1 aQE))))))) (pl (c ck (c (so YV) (c wZ aih))) cB)))
abbrev BQ:=aoi.B
def aoj {ρ:Type}:=@ef BQ ((.ex 0)) aoi ρ
def ZX (bj:eo)(d:nD.B):PL nD BQ:=let n1:=d.2.2;let n3:=n1.2.2;let n2:=n1.2.1;let y0:=wI (6+d.1);let y1:=wI (d.1+1);let y2:=wI (3+d.1);let y3:=decide (d.1<3);ae y3 (ae (aX d.1 9) (ae (aX y2 9) (ae (aX y0 9) (opt (bj 30 3 3 d.2.1 (cr (n1.1 (Int.toNat d.1)) [n1.1 (Int.toNat y0),n1.1 (Int.toNat y2),n1.1 (Int.toNat d.1)]) (cr n2.1 [n2.2.2,n2.2.1,n2.1]) true false) λaj=>ae (aX d.1 3) (ae (d.1==2) (ret (Sum.inl (y1,aj.2,n1.1,n2,n3.1,n3.2.1,aj.1))) (ae (d.1==1) (ret (Sum.inl (y1,aj.2,n1.1,n2,n3.1,aj.1,n3.2.2))) (ret (Sum.inl (y1,aj.2,n1.1,n2,aj.1,n3.2))))) no) no) no) no) (ret (Sum.inr ((d.1,y3),d.2)))
def ZY:=bD (ZX br) 2000
def ajx (dA:LT nD BQ)(x0:Nat->Int)(x1:Int)(x2:Int)(x3:Int)(x4:Bool):Pg axw:=opt (dA (0,x4,x0,(x1,x2,x3),0,0,0)) λd=>ret (d.2.2.2.2,d.2.1)
def wh:=λx0 x1 x2 x3 x4=>(ajx ZY x0 x1 x2 x3 x4).val
abbrev XY:=eo×(LT nD BQ)
def ajy (p:XY):KK:=⟨[lP p.1],⟨[⟨3,(1::2::3::8::rg 10 21 []),[]⟩],[fg 3 1 nD aoj p.2],[0],[],(some ⟨0,(rg 0 6 (rg 7 24 [])),[]⟩)⟩,1,238⟩
theorem aCi (p:XY):LI (ajy p) 3 nD aoj (ZX p.1):=λ_ d c K=>by kernel_rfl
theorem aJT (p:XY):D2 (ajy p) axv (lf aew) λb=>ajx p.2 b.1.1 b.1.2.1 b.1.b.1 b.1.b.2 b.2:=λb=>by kernel_rfl
abbrev ajz:XY:=(br,ZY)
theorem ajA [ax]:SC (XX wh):=sc (kS (k:=ajy ajz) (.c np (.nil _)) [3] [] ⟨kL (aCi ajz),trivial⟩ trivial (aJT ajz))
def asy:=qa (pl (cl (aa ot) nil) nil)
def ZZ:=qe B3
abbrev asz:=ZZ.B
abbrev asA:=Int->Int->Bool->Bool->Option asz
def asD (g:asA):Ct:=(138,FC asy (lf ZZ) (λb=>g b.1 b.2.1 b.b.1 b.b.2))
def aex (x0:Int)(x1:Int)(x2:Bool)(x3:Bool):Pg asz:=let y0:=x0==0;let y1:=x0==2;ae y0 (ae y0 (ae (x1==0) (ae (!x2) (ret !x3) (ret false)) (ret false)) (ae y1 (ae y1 (ae (decide (x1>=1)) (ae (decide (x1<=3)) (ae x2 (ret true) (ret y1)) (ret false)) (ret false)) (ret false)) (ae (x0==3) (ae (decide (x1>=1)) (ae (decide (x1<=3)) (ae x2 (ret true) (ret y1)) (ret false)) (ret false)) (ret false)))) (ae (x0==1) (ae (x1==0) (ae (!x2) (ret !x3) (ret false)) (ret false)) (ae y1 (ae y1 (ae (decide (x1>=1)) (ae (decide (x1<=3)) (ae x2 (ret true) (ret y1)) (ret false)) (ret false)) (ret false)) (ae (x0==3) (ae (decide (x1>=1)) (ae (decide (x1<=3)) (ae x2 (ret true) (ret y1)) (ret false)) (ret false)) (ret false))))
def J4:=λx0 x1 x2 x3=>(aex x0 x1 x2 x3).val
theorem aG7:D0 [] 138 asy (lf ZZ) λb=>aex b.1 b.2.1 b.b.1 b.b.2:=λb=>by kernel_rfl
theorem aG8 [ax]:SC (asD J4):=s0 (.nil _) aG7
def asE:=qa (pl (c ai aLV) nil)
def Z0:=qe Fi
abbrev asG:=Z0.B
abbrev asH:=Int->Bool->Bool->Bool->Bool->Bool->Bool->Bool->Bool->Int->Int->Int->Option asG
def asJ (g:asH):Ct:=(139,FC asE (lf Z0) (λb=>g b.1 b.2.1 b.b.1 b.b.2.1.1 b.b.2.1.2.1 b.b.2.1.b.1 b.b.2.1.b.2.1 b.b.2.1.c.1 b.b.2.1.c.2 b.c.1 b.c.2.1 b.c.b))
def aey (x0:Int)(x1:Bool)(x2:Bool)(x3:Bool)(x4:Bool)(x5:Bool)(x6:Bool)(x7:Bool)(x8:Bool)(x9:Int)(fQ:Int)(fR:Int):Pg asG:=let y0:=x0==0;let y1:=x0==1;ae x3 (ae y0 (ae x1 (ret 1) (ae y0 (ret x0) (ae y1 (ae (!x2) (ret x0) (ret 3)) (ret 3)))) (ae y0 (ret x0) (ae y1 (ae (!x2) (ret x0) (ret 3)) (ret 3)))) (ae y0 (ae x1 (ret 1) (ae y0 (ret x0) (ae y1 (ae (!x2) (ret x0) (ae x8 (ret 3) (ret 2))) (ae x8 (ret 3) (ret 2))))) (ae y0 (ret x0) (ae y1 (ae (!x2) (ret x0) (ae x8 (ret 3) (ret 2))) (ae x8 (ret 3) (ret 2)))))
def J5:=λx0 x1 x2 x3 x4 x5 x6 x7 x8 x9 fQ fR=>(aey x0 x1 x2 x3 x4 x5 x6 x7 x8 x9 fQ fR).val
theorem aG9:D0 [] 139 asE (lf Z0) λb=>aey b.1 b.2.1 b.b.1 b.b.2.1.1 b.b.2.1.2.1 b.b.2.1.b.1 b.b.2.1.b.2.1 b.b.2.1.c.1 b.b.2.1.c.2 b.c.1 b.c.2.1 b.c.b:=λb=>by kernel_rfl
theorem aHa [ax]:SC (asJ J5):=s0 (.nil _) aG9
def ajB:=qa (pl fU nil)
def Qt:=qe Fi
abbrev ajC:=Qt.B
abbrev Ul:=Int->Option ajC
def ajD (g:Ul):Ct:=(210,FC ajB (lf Qt) (λb=>g b))
def Dh (x0:Int):Pg ajC:=ae (x0==1) (ret 1) (ae (x0==2) (ret 0) (ret 2))
def yu:=λx0=>(Dh x0).val
theorem aCj:D0 [] 210 ajB (lf Qt) λb=>Dh b:=λb=>by kernel_rfl
theorem aCk [ax]:SC (ajD yu):=s0 (.nil _) aCj
def ajE:=qa (pl (c ai aLV) nil)
def Qu:=qe auH
abbrev ajF:=Qu.B
abbrev ajG:=Int->Bool->Bool->Bool->Bool->Bool->Bool->Bool->Bool->Int->Int->Int->Option ajF
def ajH (g:ajG):Ct:=(140,FC ajE (lf Qu) (λb=>g b.1 b.2.1 b.b.1 b.b.2.1.1 b.b.2.1.2.1 b.b.2.1.b.1 b.b.2.1.b.2.1 b.b.2.1.c.1 b.b.2.1.c.2 b.c.1 b.c.2.1 b.c.b))
def jw:=qs (st (pr (c ai (us 1 (xs 1 (cu (app 0 11) (us 2 (xs 1 (us 3 (cu aRw (cu (ac aLa) aFX))))))))) (pl (c aLK (cl (so (cl gi (cu (gc auz) (cu aLe aLk)))) nil)) nil)))
def Um:=qs (st (pl (us 4 (cl ai (cu LZ aQg))) (pu nil nil)))
def Un:=qs (st (pr (c ai (us 1 (xs 1 (cu (app 0 11) (us 2 (xs 1 (us 3 (cu aRw (cu (ac aLa) aLd))))))))) (pl (c aLK (cl (so (cl gi (cu (gc auz) (cu aLe aLk)))) nil)) nil)))
abbrev tp:=Um.B⊕Un.B
def abC {ρ:Type}(x:tp)(K:AX->St->Option ρ):Option ρ:=(Sum.elim (λd=>K .ret (Um.em d)) (λd=>K (.ex 0) (Un.em d))) x
def Mx (J6:Ul)(d:jw.B):PL jw tp:=let n6:=d.2.2;let n5:=d.2.1.2.2;let n3:=d.1.1;let n2:=d.1.2;let n1:=n5.2;let n4:=n1.2.2;let n7:=n4.2.2.1;let y0:=decide (n2<4);ae y0 (ae (aX n2 4) (ae (n2==3) (opt (J6 3) λaj=>ae (aX aj 6) (ae (aj==5) (ae n7 (ret (Sum.inr (Sum.inl 3))) (ret (Sum.inl ((n3,wI (n2+1)),d.2)))) (ae (aj==4) (ae n4.2.1 (ret (Sum.inr (Sum.inl 3))) (ret (Sum.inl ((n3,wI (n2+1)),d.2)))) (ae (aj==3) (ae n4.1 (ret (Sum.inr (Sum.inl 3))) (ret (Sum.inl ((n3,wI (n2+1)),d.2)))) (ae (aj==2) (ae n1.2.1 (ret (Sum.inr (Sum.inl 3))) (ret (Sum.inl ((n3,wI (n2+1)),d.2)))) (ae (aj==1) (ae n1.1 (ret (Sum.inr (Sum.inl 3))) (ret (Sum.inl ((n3,wI (n2+1)),d.2)))) (ae n5.1 (ret (Sum.inr (Sum.inl 3))) (ret (Sum.inl ((n3,wI (n2+1)),d.2))))))))) no) (ae (n2==2) (opt (J6 2) λaj=>ae (aX aj 6) (ae (aj==5) (ae n7 (ret (Sum.inr (Sum.inl 2))) (ret (Sum.inl ((n3,wI (n2+1)),d.2)))) (ae (aj==4) (ae n4.2.1 (ret (Sum.inr (Sum.inl 2))) (ret (Sum.inl ((n3,wI (n2+1)),d.2)))) (ae (aj==3) (ae n4.1 (ret (Sum.inr (Sum.inl 2))) (ret (Sum.inl ((n3,wI (n2+1)),d.2)))) (ae (aj==2) (ae n1.2.1 (ret (Sum.inr (Sum.inl 2))) (ret (Sum.inl ((n3,wI (n2+1)),d.2)))) (ae (aj==1) (ae n1.1 (ret (Sum.inr (Sum.inl 2))) (ret (Sum.inl ((n3,wI (n2+1)),d.2)))) (ae n5.1 (ret (Sum.inr (Sum.inl 2))) (ret (Sum.inl ((n3,wI (n2+1)),d.2))))))))) no) (ae (n2==1) (opt (J6 1) λaj=>ae (aX aj 6) (ae (aj==5) (ae n7 (ret (Sum.inr (Sum.inl 1))) (ret (Sum.inl ((n3,wI (n2+1)),d.2)))) (ae (aj==4) (ae n4.2.1 (ret (Sum.inr (Sum.inl 1))) (ret (Sum.inl ((n3,wI (n2+1)),d.2)))) (ae (aj==3) (ae n4.1 (ret (Sum.inr (Sum.inl 1))) (ret (Sum.inl ((n3,wI (n2+1)),d.2)))) (ae (aj==2) (ae n1.2.1 (ret (Sum.inr (Sum.inl 1))) (ret (Sum.inl ((n3,wI (n2+1)),d.2)))) (ae (aj==1) (ae n1.1 (ret (Sum.inr (Sum.inl 1))) (ret (Sum.inl ((n3,wI (n2+1)),d.2)))) (ae n5.1 (ret (Sum.inr (Sum.inl 1))) (ret (Sum.inl ((n3,wI (n2+1)),d.2))))))))) no) (ae (decide (n6>=1)) (ae (decide (n6<=3)) (opt (J6 n6) λaj=>ae (aX aj 6) (ae (aj==5) (ae n7 (ret (Sum.inr (Sum.inl n6))) (ret (Sum.inl ((n3,wI (n2+1)),d.2)))) (ae (aj==4) (ae n4.2.1 (ret (Sum.inr (Sum.inl n6))) (ret (Sum.inl ((n3,wI (n2+1)),d.2)))) (ae (aj==3) (ae n4.1 (ret (Sum.inr (Sum.inl n6))) (ret (Sum.inl ((n3,wI (n2+1)),d.2)))) (ae (aj==2) (ae n1.2.1 (ret (Sum.inr (Sum.inl n6))) (ret (Sum.inl ((n3,wI (n2+1)),d.2)))) (ae (aj==1) (ae n1.1 (ret (Sum.inr (Sum.inl n6))) (ret (Sum.inl ((n3,wI (n2+1)),d.2)))) (ae n5.1 (ret (Sum.inr (Sum.inl n6))) (ret (Sum.inl ((n3,wI (n2+1)),d.2))))))))) no) (ret (Sum.inl ((n3,wI (n2+1)),d.2)))) (ret (Sum.inl ((n3,wI (n2+1)),d.2))))))) no) (ret (Sum.inr (Sum.inr ((n3,n2,y0),d.2))))
def My:=bD (Mx yu) 2000
def Uo (dA:LT jw tp)(x0:Int)(x1:Bool)(x2:Bool)(x3:Bool)(x4:Bool)(x5:Bool)(x6:Bool)(x7:Bool)(x8:Bool)(x9:Int)(fQ:Int)(fR:Int):Pg ajF:=opt (dA ((x0,0),(x1,x2,x3,x4,x5,x6,x7,x8,x9,fQ,fR),fR)) λx=>sum x (λd=>ret (d,true)) λd=>ret (if 1>d.1.1 then 1 else d.1.1,false)
def Di:=λx0 x1 x2 x3 x4 x5 x6 x7 x8 x9 fQ fR=>(Uo My x0 x1 x2 x3 x4 x5 x6 x7 x8 x9 fQ fR).val
abbrev J7:=Ul×(LT jw tp)
def Uq (p:J7):KK:=⟨[ajD p.1],⟨[⟨2,(1::4::5::7::8::9::rg 13 6 (21::22::rg 28 5 (19::20::rg 23 5 []))),[]⟩],[fg 2 0 jw abC p.2],[],[],(some ⟨0,(rg 0 4 (rg 6 27 [])),[]⟩)⟩,0,140⟩
theorem asK (p:J7):LI (Uq p) 2 jw abC (Mx p.1):=λ_ d c K=>by kernel_rfl
theorem aCl (p:J7):D2 (Uq p) ajE (lf Qu) λb=>Uo p.2 b.1 b.2.1 b.b.1 b.b.2.1.1 b.b.2.1.2.1 b.b.2.1.b.1 b.b.2.1.b.2.1 b.b.2.1.c.1 b.b.2.1.c.2 b.c.1 b.c.2.1 b.c.b:=λb=>by kernel_rfl
abbrev Ur:J7:=(yu,My)
theorem aCm [ax]:SC (ajH Di):=sc (kS (k:=Uq Ur) (.c aCk (.nil _)) [2] [] ⟨kL (asK Ur),trivial⟩ trivial (aCl Ur))
def J8:=qa (pl (c (aa ot) aLV) nil)
def aDZ:=qe (res (pl (pw (c (ra ot) (cl (ra (c gi (c gi (c gb aF4)))) nil))) (pu nil nil)))
abbrev aez:=(afV×Int×Int)
def asL:aez->T:=λd=>lf aDZ (d.1,d.1.1,d.1.2.1,d.1.b.1,d.1.b.2,d.2)
abbrev aeA:=J8.B->Option aez
def asM (g:aeA):Ct:=(80,FC J8 asL g)
def aeB (SA:asA)(J9:asH)(Dj:ajG)(x:J8.B):Pg aez:=let n8:=x.2.2.1;let n7:=x.1.1;let n4:=x.1.2.1;let n1:=x.2.2.2;let n9:=n1.1.2.1;let n6:=n1.2.1;let n3:=n1.2.2;let n2:=n1.1.2.2;let n5:=n2.2.2;let y0:=decide (n6>=0);opt (SA n7 n4 x.1.2.2.1 x.1.2.2.2) λd=>ae (!d) (opt (J9 0 x.2.1 n8 n1.1.1 n9 n2.1 n2.2.1 n5.1 n5.2 n6 n3.1 n3.2) λd=>ae (decide (d>=2)) (opt (Dj 0 x.2.1 n8 n1.1.1 n9 n2.1 n2.2.1 n5.1 n5.2 n6 n3.1 n3.2) λaj=>ae (d==3) (ret ((d,aj.1,true,!aj.2),0,0)) (ae y0 (ret ((d,aj.1,decide (n6<=n3.1),!aj.2),0,0)) (ret ((d,aj.1,false,!aj.2),0,0)))) (ret ((d,0,false,false),0,0))) (opt (J9 n7 x.2.1 n8 n1.1.1 n9 n2.1 n2.2.1 n5.1 n5.2 n6 n3.1 n3.2) λd=>ae (decide (d>=2)) (opt (Dj n4 x.2.1 n8 n1.1.1 n9 n2.1 n2.2.1 n5.1 n5.2 n6 n3.1 n3.2) λaj=>ae (d==3) (ret ((d,aj.1,true,!aj.2),n7,n4)) (ae y0 (ret ((d,aj.1,decide (n6<=n3.1),!aj.2),n7,n4)) (ret ((d,aj.1,false,!aj.2),n7,n4)))) (ret ((d,0,false,false),n7,n4)))
def J':=λx=>(aeB J4 J5 Di x).val
theorem aHb:∀SA J9 Dj,D0 [asD SA,asJ J9,ajH Dj] 80 J8 asL λb=>aeB SA J9 Dj b:=λ_ _ _ b=>by kernel_rfl
theorem aHc [ax]:SC (asM J'):=s0 (.c aG8 (.c aHa (.c aCm (.nil _)))) (aHb J4 J5 Di)
def aCn:=qa (dp (cu aP aFZ) λa=>(c uN (cl (cl (gs a.1 apD) nil) nil)))
def ajI:=qe (res (pr ac4 (pl L0 nil)))
abbrev aCo:=ajI.B
abbrev zU:=Nat->Bool->NI->NI->NI->Bool->Option aCo
def HQ (g:zU):Ct:=(114,sQ 1 [.i .i64,.i .i64,.i .i64] (FC aCn (lf ajI) (λb=>g b.1.1 b.2.1 b.b.1 b.b.2.1 b.c b.1.2)))
def pI:=qs (st (dp (cu aP (c aAx (us 2 (cu Xg (cu ah7 (c ai (c aRo (us 2 (c ai (us 2 (c aAx (c ai (cl ai (us 17 nil)))))))))))))) λa=>(pl (c ck (c (so (cl (gs a.1.1 apD) nil)) (cu (so apI) (c wZ (cl (so (cl (gs a.b.1 mE) nil)) nil))))) cB)))
def aHd:=qs (st (pr (cu aP (c aAx (us 2 (cu Xg (cu ah7 (c ai (c aRo (us 2 (c ai (us 2 (c aAx (c ai (c ai (cl ab (us 16 nil))))))))))))))) (pl (c ck (c aAE (cu (so apI) (c wZ aib)))) cB)))
abbrev ED:=(((Nat×Bool)×Int×Nat×Int×(Nat×Bool)×Int×Int×Bool)×Bool×(NI×NI×NI)×Lx×NI)
def asN {ρ:Type}(x:ED)(K:AX->St->Option ρ):Option ρ:=(λd=>K (.ex 2) (aHd.em (d.1,d.2.1,(d.1.1.1,d.b.1),d.b.2.1,d.1.b.1,d.c))) x
def aeC (d:pI.B):PL pI ED:=let n5:=d.1.2.1;let n3:=d.2.2;let n2:=d.1.2.2;let n4:=n2.2.2.2;let y0:=n2.1+1;let n1:=(d.1.1,n5,y0,n2.2.1,n2.2.2.1,n4.1,wI (n4.2+1));let y1:=Int.toNat n4.2;let y2:=Nat.ble (y0*8) 140737488355328;let y3:=decide (n4.2<n4.1);ae y3 (ae (aX n4.2 n2.2.2.1.1) (ae (aX n5 3) (ae (n5==2) (ae y2 (ret (Sum.inl (n1,d.2.1,n3.1,n3.2.1,λj=>bif Nat.beq j n2.1 then n3.1.2.2 y1 else n3.2.2 j))) no) (ae (n5==1) (ae y2 (ret (Sum.inl (n1,d.2.1,n3.1,n3.2.1,λj=>bif Nat.beq j n2.1 then n3.1.2.1 y1 else n3.2.2 j))) no) (ae y2 (ret (Sum.inl (n1,d.2.1,n3.1,n3.2.1,λj=>bif Nat.beq j n2.1 then n3.1.1 y1 else n3.2.2 j))) no))) no) no) (ret (Sum.inr ((d.1.1,n5,n2.1,n2.2.1,n2.2.2.1,n4.1,n4.2,y3),d.2)))
def aeD:=bD (aeC) 2000
def pJ:=qs (st (dp (cu aP (c aAx (us 2 (cu Xg (cu ah7 (us 4 aQq)))))) λa=>(pl (c ck (c (so (cl (gs a.1.1 apD) nil)) aih)) cB)))
def aHe:=qs (st (pr (cu aP (c aAx (us 2 (cu Xg (cu ah7 (us 4 (c ai aK1))))))) (pl (c ck (c aAE aih)) cB)))
abbrev EE:=(((Nat×Bool)×Int×Bool)×Bool×(NI×NI×NI)×Int×Int×Int)
def asO {ρ:Type}(x:EE)(K:AX->St->Option ρ):Option ρ:=(λd=>K (.ex 0) (aHe.em (d.1,d.2.1,(d.1.1.1,d.b.1),d.b.2))) x
def aeE (bW:eK)(oV:LT pI ED)(d:pJ.B):PL pJ EE:=let n3:=d.1.1;let y0:=decide (d.1.2<3);ae y0 (ae (Nat.beq n3.1 n3.1) (ae true (opt (oV ((n3,d.1.2,0,d.1.2,n3,Int.ofNat n3.1,0),d.2.1,d.2.2.1,d.2.2.2,λx=>0)) λd=>let n2:=d.2.2;let n4:=n2.2.1;let n1:=d.1.2;ae (Nat.beq n1.2.1 n1.2.1) (opt (bW n1.2.1 d.2.1 n2.2.2 true) λaj=>ae (aX n1.1 3) (ae (n1.1==2) (ret (Sum.inl ((d.1.1,wI (n1.2.2.1+1)),aj.2,n2.1,n4.1,n4.2.1,aj.1))) (ae (n1.1==1) (ret (Sum.inl ((d.1.1,wI (n1.2.2.1+1)),aj.2,n2.1,n4.1,aj.1,n4.2.2))) (ret (Sum.inl ((d.1.1,wI (n1.2.2.1+1)),aj.2,n2.1,aj.1,n4.2))))) no) no) no) no) (ret (Sum.inr ((n3,d.1.2,y0),d.2)))
def aeF:=bD (aeE cG aeD) 2000
def aqj (dA:LT pJ EE)(x0:Nat)(x1:Bool)(x2:Nat->Int)(x3:Nat->Int)(x4:Nat->Int)(w0:Bool):Pg aCo:=ae (Nat.beq x0 x0) (opt (dA (((x0,w0),0),x1,(x2,x3,x4),0,0,0)) λd=>ret (d.2.2.2,d.2.1)) no
def jl:=λx0 x1 x2 x3 x4 w0=>(aqj aeF x0 x1 x2 x3 x4 w0).val
abbrev Us:=eK×(LT pI ED)×(LT pJ EE)
def aeG (p:Us):KK:=⟨[nm p.1],⟨[⟨3,(2::3::rg 6 4 (rg 11 22 [])),[]⟩,⟨7,(2::3::8::9::11::12::rg 16 17 []),[(7,[.i .i64])]⟩],[fg 7 2 pI asN p.2.1,fg 3 2 pJ asO p.b],[0],[],(some ⟨0,(rg 0 4 (rg 5 28 [])),[]⟩)⟩,2,114⟩
theorem aD0 (p:Us):LI (aeG p) 7 pI asN (aeC):=λ_ d c K=>by kernel_rfl
theorem aD1 (p:Us):LI (aeG p) 3 pJ asO (aeE p.1 p.2.1):=λ_ d c K=>by kernel_rfl
theorem aM2 (p:Us):D2 (aeG p) aCn (lf ajI) λb=>aqj p.b b.1.1 b.2.1 b.b.1 b.b.2.1 b.c b.1.2:=λb=>by kernel_rfl
abbrev aeH:Us:=(cG,aeD,aeF)
theorem Mz [ax]:SC (HQ jl):=sc (Sound.nil 1 [.i .i64,.i .i64,.i .i64]<|kS (k:=aeG aeH) (.c pE (.nil _)) [3,7] [] ⟨kL (aD1 aeH),⟨kL (aD0 aeH),trivial⟩⟩ trivial (aM2 aeH))
def asQ:=qa (pr (cu aP apH) bB)
def Z1:=qe auK
abbrev asT:=Z1.B
abbrev gQ:=Int->Int->Int->Int->Bool->Option asT
def mi (g:gQ):Ct:=(59,FC asQ (lf Z1) (λb=>g b.1.1 b.1.2.1 b.1.b.1 b.1.b.2 b.2))
def mj:=qs (st (pr (cu aP (us 2 (cu anc (cu awv (c ai (us 8 (c ai (us 4 aFW)))))))) (pl (c ck (cl uQ (cu aif nil))) cB)))
def ajJ:=qs (st (pr (cu aP (us 2 (cu anc (cu awv (c ai (us 8 (c ai (us 4 aF1)))))))) (pl (c ck (cl uQ (cu aif nil))) cB)))
abbrev yw:=ajJ.B
def ajK {ρ:Type}:=@ef yw ((.ex 2)) ajJ ρ
def Ut (aD:cz)(d:mj.B):PL mj yw:=let n6:=d.1.1;let n4:=d.1.2.2;let n2:=d.2.2;let n5:=n2.2.1;let n3:=n2.2.2;let n1:=(n6,d.1.2.1,wI (n4+1));let y0:=aX n4 4;let y1:=n4==2;let y2:=n4==1;let y3:=n4==3;let y4:=decide (n4<4);ae y4 (ae y0 (ae y3 (opt (aD n3.2 n6 30 d.2.1) λaj=>ae y0 (ae y3 (ret (Sum.inl (n1,aj.2,n2.1,n5,n3.1,aj.1))) (ae y1 (ret (Sum.inl (n1,aj.2,n2.1,n5,aj.1,n3.2))) (ae y2 (ret (Sum.inl (n1,aj.2,n2.1,aj.1,n3))) (ret (Sum.inl (n1,aj.2,aj.1,n2.2)))))) no) (ae y1 (opt (aD n3.1 n6 30 d.2.1) λaj=>ae y0 (ae y3 (ret (Sum.inl (n1,aj.2,n2.1,n5,n3.1,aj.1))) (ae y1 (ret (Sum.inl (n1,aj.2,n2.1,n5,aj.1,n3.2))) (ae y2 (ret (Sum.inl (n1,aj.2,n2.1,aj.1,n3))) (ret (Sum.inl (n1,aj.2,aj.1,n2.2)))))) no) (ae y2 (opt (aD n5 n6 30 d.2.1) λaj=>ae y0 (ae y3 (ret (Sum.inl (n1,aj.2,n2.1,n5,n3.1,aj.1))) (ae y1 (ret (Sum.inl (n1,aj.2,n2.1,n5,aj.1,n3.2))) (ae y2 (ret (Sum.inl (n1,aj.2,n2.1,aj.1,n3))) (ret (Sum.inl (n1,aj.2,aj.1,n2.2)))))) no) (opt (aD n2.1 n6 30 d.2.1) λaj=>ae y0 (ae y3 (ret (Sum.inl (n1,aj.2,n2.1,n5,n3.1,aj.1))) (ae y1 (ret (Sum.inl (n1,aj.2,n2.1,n5,aj.1,n3.2))) (ae y2 (ret (Sum.inl (n1,aj.2,n2.1,aj.1,n3))) (ret (Sum.inl (n1,aj.2,aj.1,n2.2)))))) no)))) no) (ret (Sum.inr ((n6,d.1.2.1,n4,y4),d.2)))
def Uu:=bD (Ut bp) 2000
def ml:=qs (st (pr (cu aP (us 2 (cu anc (cu awv (us 9 aK4))))) (pl (c ck (cl uQ (cu aif nil))) cB)))
def ajL:=qs (st (pr (cu aP (us 2 (cu anc (cu awv (us 9 aF2))))) (pl (c ck (cl uQ (cu aif nil))) cB)))
abbrev yx:=ajL.B
def ajM {ρ:Type}:=@ef yx ((.ex 0)) ajL ρ
def Uv (jd:w8)(oV:LT mj yw)(d:ml.B):PL ml yx:=let n1:=d.2.2;let y0:=decide (d.1<2);ae y0 (opt (jd 4 d.2.1 (cr n1.1 [n1.2.2.2,n1.2.2.1,n1.2.1,n1.1]) false) λaj=>opt (oV ((aj.1,d.1,0),aj.2,n1)) λd=>ret (Sum.inl (wI (d.1.2.1+1),d.2))) (ret (Sum.inr ((d.1,y0),d.2)))
def Uw:=bD (Uv fM Uu) 2000
def aeI (om:OJ)(gM:zk)(dA:LT ml yx)(x0:Int)(x1:Int)(x2:Int)(x3:Int)(x4:Bool):Pg asT:=opt (om x0 x1 x2 x3 x4) λd=>ae (d.1.1==0&&(d.1.2.1==0&&(d.1.2.2.1==0&&(d.1.2.2.2==0&&true)))) (opt gM λaj=>ret ((1073741824,0,0,0),d.2)) (opt (dA (0,d.2,d.1)) λd=>ret (d.2.2,d.2.1))
def cX:=λx0 x1 x2 x3 x4=>(aeI we mH Uw x0 x1 x2 x3 x4).val
abbrev Ka:=OJ×zk×w8×cz×(LT mj yw)×(LT ml yx)
def SB (p:Ka):KK:=⟨[XO p.1,IL p.2.1,Gl p.b.1,fL p.b.2.1],⟨[⟨5,(1::2::rg 5 9 (rg 15 18 [])),[]⟩,⟨8,(1::2::rg 6 8 (rg 15 4 (rg 20 13 []))),[]⟩],[fg 8 1 mj ajK p.c.1,fg 5 1 ml ajM p.c.2],[],[],(some ⟨0,(rg 0 4 (rg 5 28 [])),[]⟩)⟩,1,59⟩
theorem azf (p:Ka):LI (SB p) 8 mj ajK (Ut p.b.2.1):=λ_ d c K=>by kernel_rfl
theorem azg (p:Ka):LI (SB p) 5 ml ajM (Uv p.b.1 p.c.1):=λ_ d c K=>by kernel_rfl
theorem aHf (p:Ka):D2 (SB p) asQ (lf Z1) λb=>aeI p.1 p.2.1 p.c.2 b.1.1 b.1.2.1 b.1.b.1 b.1.b.2 b.2:=λb=>by kernel_rfl
abbrev SD:Ka:=(we,mH,fM,bp,Uu,Uw)
theorem nE [ax]:SC (mi cX):=sc (kS (k:=SB SD) (.c ajl (.c OK (.c NZ (.c gC (.nil _))))) [5,8] [] ⟨kL (azg SD),⟨kL (azf SD),trivial⟩⟩ trivial (aHf SD))
def abD:=qa (pr (cu aP (cl xX (cu Ot nil))) (c uN (cl aAz nil)))
def Kb:=qe (res (pu aQh (pr L0 (cl aQF nil))))
abbrev MA:=Kb.B
abbrev MB:=NI->NI->Bool->NI->Option MA
def abE (g:MB):Ct:=(187,FC abD (lf Kb) (λb=>g b.1.1 b.1.2 b.2.1 b.b))
def dR:=qs (st (pr (cu aP (us 1 (cu Ot (us 1 (cu Xh (us 2 (cu Xi (c ai (cu ane (us 3 (c ai (us 3 (c ai (cl ai (us 35 nil))))))))))))))) (pl (c ck (c ld (c hI (c Fj HD)))) cB)))
def Ux:=qs (st (pr (cu aP (us 1 (cu Ot (us 1 (cu Xh (us 2 (cu Xi (c ai (cu ane (us 3 (c ai (us 3 (c ai (c ai (cl ab (us 34 nil)))))))))))))))) (pl (c ck (c ld (c hI (c Fj HD)))) cB)))
abbrev jZ:=Ux.B
def Uy {ρ:Type}:=@ef jZ ((.ex 2)) Ux ρ
def zV (ajN:Uh)(d:dR.B):PL dR jZ:=let n2:=d.2.2.2;let n1:=d.1.2.2;let y0:=Int.toNat n1.2;let y1:=decide (n1.2<n1.1);ae y1 (opt (ajN n2.1.1 n2.1.2 n1.2 d.1.1) λaj=>ae (aX n1.2 24) (ae (true&&Nat.ble (0+y0*1+1) 24) (ret (Sum.inl ((d.1.1,d.1.2.1,n1.1,wI (n1.2+1)),d.2.1,d.2.2.1,n2.1,n2.2.1,λj=>bif Nat.beq j y0 then aj else n2.2.2 j))) no) no) (ret (Sum.inr ((d.1.1,d.1.2.1,n1.1,n1.2,y1),d.2)))
def zW:=bD (zV Df) 2000
def dS:=qs (st (pr (cu aP (us 1 (cu Ot (us 1 (cu Xh (us 2 (cu Xi (c ai (cu ane (us 3 (c ai (us 14 (cl ai (us 25 nil)))))))))))))) (pl (c ck (c ld (c hI (c Fj HD)))) cB)))
def Uz:=qs (st (pr (cu aP (us 1 (cu Ot (us 1 (cu Xh (us 2 (cu Xi (c ai (cu ane (us 3 (c ai (us 14 (c ai (cl ab (us 24 nil))))))))))))))) (pl (c ck (c ld (c hI (c Fj HD)))) cB)))
abbrev j6:=Uz.B
def UA {ρ:Type}:=@ef j6 ((.ex 4)) Uz ρ
def zX (bj:eo)(d:dS.B):PL dS j6:=let n2:=d.2.2;let n1:=d.1.2;let y0:=Int.toNat n1.2;let y1:=aX n1.2 24;let y2:=decide (n1.2<24);let y3:=y0*48+Int.toNat d.1.1;ae y2 (ae y1 (opt (bj 30 24 24 d.2.1 (λj=>n2.1 (0+y0*24+j)) n2.2.2.2 false false) λaj=>ae y1 (ae (aX d.1.1 48) (ae (true&&Nat.ble (0+y3*1+1) 1152) (ret (Sum.inl ((d.1.1,n1.1,wI (n1.2+1)),aj.2,n2.1,n2.2.1,λj=>bif Nat.beq j y3 then aj.1 else n2.2.2.1 j,n2.2.2.2))) no) no) no) no) (ret (Sum.inr ((d.1.1,n1.1,n1.2,y2),d.2)))
def zY:=bD (zX br) 2000
def dU:=qs (st (pr (us 7 (cu aQh (us 37 aK7))) (pl (c ck (c ld (cl Fj nil))) cB)))
def UB:=qs (st (pr (us 7 (cu aQh (us 37 aF3))) (pl (c ck (c ld (cl Fj nil))) cB)))
abbrev j7:=UB.B
def UC {ρ:Type}:=@ef j7 ((.ex 6)) UB ρ
def zZ (d:dU.B):PL dU j7:=let y0:=wI (24+d.1);let y1:=decide (d.1<24);let y2:=Int.toNat d.1*48+Int.toNat y0;ae y1 (ae (aX d.1 24) (ae (aX y0 48) (ae (true&&Nat.ble (0+y2*1+1) 1152) (ret (Sum.inl (wI (d.1+1),d.2.1,d.2.2.1,λj=>bif Nat.beq j y2 then 1073741824 else d.2.2.2 j))) no) no) no) (ret (Sum.inr ((d.1,y1),d.2)))
def z5:=bD (zZ) 2000
def dV:=qs (st (pr (cu aP (us 1 (cu Ot (us 1 (cu Xh (us 2 (cu Xi (us 5 (cl ai (us 40 nil)))))))))) (pl (c ck (c ld (c hI (cl Fj nil)))) cB)))
def UD:=qs (st (pr (cu aP (us 1 (cu Ot (us 1 (cu Xh (us 2 (cu Xi (us 5 (c ai (cl ab (us 39 nil))))))))))) (pl (c ck (c ld (c hI (cl Fj nil)))) cB)))
abbrev j8:=UD.B
def UE {ρ:Type}:=@ef j8 ((.ex 0)) UD ρ
def z6 (oV:LT dR jZ)(Gn:LT dS j6)(d:dV.B):PL dV j8:=let y0:=decide (d.1<24);ae y0 (opt (oV ((d.1,d.1,wI (d.1+1),0),d.2.1,d.2.2.1,d.2.2.2.1,d.2.2.2.2,λx=>0)) λd=>opt (Gn ((d.1.1,d.1.2.1,0),d.2)) λd=>ret (Sum.inl (wI (d.1.2.1+1),d.2.1,d.2.2.1,d.2.2.2.1,d.2.2.2.2.1))) (ret (Sum.inr ((d.1,y0),d.2)))
def z7:=bD (z6 zW zY) 2000
def EF (l_3:LT dU j7)(dA:LT dV j8)(x0:Nat->Int)(x1:Nat->Int)(x2:Bool)(x3:Nat->Int):Pg MA:=opt (dA (0,x2,x3,(x0,x1),λx=>0)) λd=>opt (l_3 (0,d.2.1,d.2.2.1,d.2.2.2.2)) λd=>ret (d.2.1,d.2.2.2)
def oX:=λx0 x1 x2 x3=>(EF z5 z7 x0 x1 x2 x3).val
abbrev oY:=Uh×eo×(LT dR jZ)×(LT dS j6)×(LT dU j7)×(LT dV j8)
def tq (p:oY):KK:=⟨[asu p.1,lP p.2.1],⟨[⟨3,(1::3::5::6::rg 8 5 (rg 14 40 [])),[]⟩,⟨7,(1::3::5::6::10::11::12::14::15::16::rg 19 35 []),[]⟩,⟨12,(1::3::5::6::10::11::12::rg 14 14 (rg 29 25 [])),[]⟩,⟨18,(rg 0 7 (rg 8 37 (rg 46 8 []))),[]⟩],[fg 7 2 dR Uy p.b.1,fg 12 2 dS UA p.b.2.1,fg 18 2 dU UC p.c.1,fg 3 2 dV UE p.c.2],[0],[],(some ⟨0,(rg 0 6 (rg 7 47 [])),[]⟩)⟩,2,187⟩
theorem amw (p:oY):LI (tq p) 7 dR Uy (zV p.1):=λ_ d c K=>by kernel_rfl
theorem amx (p:oY):LI (tq p) 12 dS UA (zX p.2.1):=λ_ d c K=>by kernel_rfl
theorem amy (p:oY):LI (tq p) 18 dU UC (zZ):=λ_ d c K=>by kernel_rfl
theorem amz (p:oY):LI (tq p) 3 dV UE (z6 p.b.1 p.b.2.1):=λ_ d c K=>by kernel_rfl
theorem avv (p:oY):D2 (tq p) abD (lf Kb) λb=>EF p.c.1 p.c.2 b.1.1 b.1.2 b.2.1 b.b:=λb=>by kernel_rfl
abbrev tt:oY:=(Df,br,zW,zY,z5,z7)
theorem avw [ax]:SC (abE oX):=sc (kS (k:=tq tt) (.c aCe (.c np (.nil _))) [3,7,12,18] [] ⟨kL (amz tt),⟨kL (amw tt),⟨kL (amx tt),⟨kL (amy tt),trivial⟩⟩⟩⟩ trivial (avv tt))
def asU:=qa (pl apG nil)
def Z2:=qe aRe
abbrev asV:=Z2.B
abbrev dz:=NI->Option asV
def iF (g:dz):Ct:=(55,FC asU (lf Z2) (λb=>g b))
def aeJ (x0:Nat->Int):Pg asV:=ret (x0 0,x0 1,x0 2,x0 3)
def bZ:=λx0=>(aeJ x0).val
theorem aHg:D0 [] 55 asU (lf Z2) λb=>aeJ b:=λb=>by kernel_rfl
theorem jx [ax]:SC (iF bZ):=s0 (.nil _) aHg
def agu:=qa (pl (c jS apH) nil)
def MC:=qe aLx
abbrev agv:=MC.B
abbrev Hl:=NI->Int->Int->Int->Int->Option agv
def Qv (g:Hl):Ct:=(58,FC agu (lf MC) (λb=>g b.1 b.2.1 b.b.1 b.b.2.1 b.c))
def Qw (x0:Nat->Int)(x1:Int)(x2:Int)(x3:Int)(x4:Int):Pg agv:=ret λj=>bif Nat.beq j 3 then x4 else bif Nat.beq j 2 then x3 else bif Nat.beq j 1 then x2 else bif Nat.beq j 0 then x1 else x0 j
def rA:=λx0 x1 x2 x3 x4=>(Qw x0 x1 x2 x3 x4).val
theorem azh:D0 [] 58 agu (lf MC) λb=>Qw b.1 b.2.1 b.b.1 b.b.2.1 b.c:=λb=>by kernel_rfl
theorem agw [ax]:SC (Qv rA):=s0 (.nil _) azh
def aok:=qa (pr (c ai (c ai (c ai (cl ai (cu aP (cu anc nil)))))) (cu aK5 (c ac7 bB)))
def UF:=qe aRg
abbrev aol:=UF.B
abbrev aom:=Int->Int->Int->Int->Int->Int->Int->Int->Bool->Option aol
def aon (g:aom):Ct:=(180,FC aok (lf UF) (λb=>g b.1.1 b.1.2.1 b.1.b.1 b.1.b.2 b.2.1.1 b.2.1.2.1 b.2.1.b.1 b.2.1.b.2 b.b))
def Z3 (bj:eo)(x0:Int)(x1:Int)(x2:Int)(x3:Int)(x4:Int)(x5:Int)(x6:Int)(x7:Int)(x8:Bool):Pg aol:=opt (bj 30 4 4 x8 (cr x4 [x7,x6,x5,x4]) (cr x0 [x3,x2,x1,x0]) false true) λd=>ret d
def Gp:=λx0 x1 x2 x3 x4 x5 x6 x7 x8=>(Z3 br x0 x1 x2 x3 x4 x5 x6 x7 x8).val
theorem aD2:∀bj,D0 [lP bj] 180 aok (lf UF) λb=>Z3 bj b.1.1 b.1.2.1 b.1.b.1 b.1.b.2 b.2.1.1 b.2.1.2.1 b.2.1.b.1 b.2.1.b.2 b.b:=λ_ b=>by kernel_rfl
theorem aD3 [ax]:SC (aon Gp):=s0 (.c np (.nil _)) (aD2 br)
def ajO:=qa (pr (cu aP fU) bB)
def Qx:=qe auK
abbrev ajP:=Qx.B
abbrev ajQ:=Int->Bool->Option ajP
def ajR (g:ajQ):Ct:=(229,FC ajO (lf Qx) (λb=>g b.1 b.2))
def UG (cU:wb)(aB:bN)(gk:OF)(dF:IJ)(bq:gQ)(x0:Int)(x1:Bool):Pg ajP:=opt (cU x0) λd=>opt (aB d 536870912 30 x1) λd=>opt (gk d.1 d.2) λaj=>opt (dF d.1 aj.2) λd=>opt (bq aj.1 0 0 d.1 d.2) λd=>ret d
def Dk:=λx0 x1=>(UG jt aV qd mG cX x0 x1).val
theorem aCp:∀cU aB gk dF bq,D0 [zM cU,eJ aB,OG gk,IK dF,mi bq] 229 ajO (lf Qx) λb=>UG cU aB gk dF bq b.1 b.2:=λ_ _ _ _ _ b=>by kernel_rfl
theorem aCq [ax]:SC (ajR Dk):=s0 (.c Eu (.c eZ (.c XL (.c OE (.c nE (.nil _)))))) (aCp jt aV qd mG cX)
def axx:=qa (pr (cu aP (c ac8 apH)) bB)
def aeK:=qe auK
abbrev axy:=aeK.B
abbrev wj:=Int->Int->Int->Int->Int->Int->Int->Int->Bool->Option axy
def Dl (g:wj):Ct:=(117,FC axx (lf aeK) (λb=>g b.1.1.1 b.1.1.2.1 b.1.1.b.1 b.1.1.b.2 b.1.2.1 b.1.b.1 b.1.b.2.1 b.1.c b.2))
def ajS (om:OJ)(xd:aom)(x0:Int)(x1:Int)(x2:Int)(x3:Int)(x4:Int)(x5:Int)(x6:Int)(x7:Int)(x8:Bool):Pg axy:=opt (om x0 x1 x2 x3 x8) λd=>let n1:=d.1.2;opt (om x4 x5 x6 x7 d.2) λaj=>let n2:=aj.1.2;let y0:=wI (0-n2.1);let y1:=wI (0-n2.2.1);let y2:=wI (0-n2.2.2);opt (xd aj.1.1 y0 y1 y2 d.1.1 n1.1 n1.2.1 n1.2.2 aj.2) λaF=>opt (xd n2.1 aj.1.1 n2.2.2 y1 d.1.1 n1.1 n1.2.1 n1.2.2 aF.2) λbx=>opt (xd n2.2.1 y2 aj.1.1 n2.1 d.1.1 n1.1 n1.2.1 n1.2.2 bx.2) λcv=>opt (xd n2.2.2 n2.2.1 y0 aj.1.1 d.1.1 n1.1 n1.2.1 n1.2.2 cv.2) λd=>ret ((aF.1,bx.1,cv.1,d.1),d.2)
def j9:=λx0 x1 x2 x3 x4 x5 x6 x7 x8=>(ajS we Gp x0 x1 x2 x3 x4 x5 x6 x7 x8).val
theorem aJU:∀om xd,D0 [XO om,aon xd] 117 axx (lf aeK) λb=>ajS om xd b.1.1.1 b.1.1.2.1 b.1.1.b.1 b.1.1.b.2 b.1.2.1 b.1.b.1 b.1.b.2.1 b.1.c b.2:=λ_ _ b=>by kernel_rfl
theorem IM [ax]:SC (Dl j9):=s0 (.c ajl (.c aD3 (.nil _))) (aJU we Gp)
def aFu:=qa (pr (cu aP apH) bB)
def aqk:=qe (res (pr (aa YV) (pl kZ nil)))
abbrev aFv:=aqk.B
abbrev oZ:=Int->Int->Int->Int->Bool->Option aFv
def BR (g:oZ):Ct:=(179,FC aFu (lf aqk) (λb=>g b.1.1 b.1.2.1 b.1.b.1 b.1.b.2 b.2))
def rW:=qs (st (pr (us 2 (cu Ou (cu awv (cu (app 3 9) (us 3 aK8))))) (pl (c ck (cu (so (cu (gp 0 1) nil)) (c uQ (cl (so YV) nil)))) cB)))
def axz:=qs (st (pr (us 2 (cu Ou (cu awv (cu (app 3 9) (us 3 aQG))))) (pl (c ck (cu (so (cu (gp 0 1) nil)) (c uQ (cl (so YV) nil)))) cB)))
abbrev IN:=axz.B
def axA {ρ:Type}:=@ef IN ((.ex 0)) axz ρ
def ajT (aw:bI)(d:rW.B):PL rW IN:=let n2:=d.2.2.2;let n1:=d.2.2.1;let n4:=n1.2.1;let n3:=n1.2.2;let y0:=aX d.1 4;let y1:=d.1==2;let y2:=d.1==1;let y3:=d.1==3;let y4:=wI (d.1+1);let y5:=decide (d.1<4);ae y5 (ae y0 (ae y3 (opt (aw n3.2 d.2.1) λaj=>ae y0 (ae y3 (ret (Sum.inl (y4,aj.2,(n1.1,n4,n3.1,aj.1),n2))) (ae y1 (ret (Sum.inl (y4,aj.2,(n1.1,n4,aj.1,n3.2),n2))) (ae y2 (ret (Sum.inl (y4,aj.2,(n1.1,aj.1,n3),n2))) (ret (Sum.inl (y4,aj.2,(aj.1,n1.2),n2)))))) no) (ae y1 (opt (aw n3.1 d.2.1) λaj=>ae y0 (ae y3 (ret (Sum.inl (y4,aj.2,(n1.1,n4,n3.1,aj.1),n2))) (ae y1 (ret (Sum.inl (y4,aj.2,(n1.1,n4,aj.1,n3.2),n2))) (ae y2 (ret (Sum.inl (y4,aj.2,(n1.1,aj.1,n3),n2))) (ret (Sum.inl (y4,aj.2,(aj.1,n1.2),n2)))))) no) (ae y2 (opt (aw n4 d.2.1) λaj=>ae y0 (ae y3 (ret (Sum.inl (y4,aj.2,(n1.1,n4,n3.1,aj.1),n2))) (ae y1 (ret (Sum.inl (y4,aj.2,(n1.1,n4,aj.1,n3.2),n2))) (ae y2 (ret (Sum.inl (y4,aj.2,(n1.1,aj.1,n3),n2))) (ret (Sum.inl (y4,aj.2,(aj.1,n1.2),n2)))))) no) (opt (aw n1.1 d.2.1) λaj=>ae y0 (ae y3 (ret (Sum.inl (y4,aj.2,(n1.1,n4,n3.1,aj.1),n2))) (ae y1 (ret (Sum.inl (y4,aj.2,(n1.1,n4,aj.1,n3.2),n2))) (ae y2 (ret (Sum.inl (y4,aj.2,(n1.1,aj.1,n3),n2))) (ret (Sum.inl (y4,aj.2,(aj.1,n1.2),n2)))))) no)))) no) (ret (Sum.inr ((d.1,y5),d.2)))
def ajU:=bD (ajT aQ) 2000
def avx (ajV:ajo)(IP:ajq)(dA:LT rW IN)(x0:Int)(x1:Int)(x2:Int)(x3:Int)(x4:Bool):Pg aFv:=opt (dA (0,x4,(x0,x1,x2,x3),λx=>0)) λd=>let n2:=d.2.2.1.1;let n1:=d.2.2.1.2;let n4:=n1.2.2;let n3:=n1.2.1;let y0:=wI (0-n2);opt (ajV 1 1 (-1) (-1) n2 n1.1 n3 n4 d.2.1) λaj=>opt (IP n1.1 n3 y0 n4 aj.2) λaF=>opt (IP n1.1 n4 n2 n3 aF.2) λbx=>opt (IP n1.1 n3 n2 n4 bx.2) λcv=>opt (ajV 1 (-1) 1 (-1) n2 n1.1 n3 n4 cv.2) λdN=>opt (IP n3 n4 y0 n1.1 dN.2) λcL=>opt (IP n1.1 n4 y0 n3 cL.2) λjW=>opt (IP n3 n4 n2 n1.1 jW.2) λpF=>opt (ajV 1 (-1) (-1) 1 n2 n1.1 n3 n4 pF.2) λd=>ret (cr 0 [d.1,pF.1,jW.1,cL.1,dN.1,cv.1,bx.1,aF.1,aj.1],d.2)
def je:=λx0 x1 x2 x3 x4=>(avx OL OM ajU x0 x1 x2 x3 x4).val
abbrev aml:=bI×ajo×ajq×(LT rW IN)
def avy (p:aml):KK:=⟨[cW p.1,axr p.2.1,axu p.b.1],⟨[⟨2,(0::1::5::6::7::rg 9 82 []),[]⟩],[fg 2 1 rW axA p.b.2],[0],[],(some ⟨0,(rg 0 4 (rg 5 86 [])),[]⟩)⟩,1,179⟩
theorem aHh (p:aml):LI (avy p) 2 rW axA (ajT p.1):=λ_ d c K=>by kernel_rfl
theorem aPg (p:aml):D2 (avy p) aFu (lf aqk) λb=>avx p.2.1 p.b.1 p.b.2 b.1.1 b.1.2.1 b.1.b.1 b.1.b.2 b.2:=λb=>by kernel_rfl
abbrev avz:aml:=(aQ,OL,OM,ajU)
theorem EG [ax]:SC (BR je):=sc (kS (k:=avy avz) (.c c7 (.c aJO (.c aJQ (.nil _)))) [2] [] ⟨kL (aHh avz),trivial⟩ trivial (aPg avz))
def agx:=qa (pu nil nil)
def MD:=qe aLx
abbrev Bk:=MD.B
abbrev Bl:=Option Bk
def Qy (g:Bl):Ct:=(53,FC agx (lf MD) (λ_=>g))
def Qz (im:XT):Pg Bk:=opt (im 0 4 1073741840 λx=>0) λd=>opt (im 4 7 549755813888 d) λd=>opt (im 7 10 9007199254740992 d) λd=>opt (im 10 13 134217728 d) λd=>opt (im 13 16 1073741824 d) λd=>opt (im 16 22 2147483648 d) λd=>opt (im 22 24 137438953472 d) λd=>ret d
def rB:Option Bk:=(Qz wg).val
theorem azi:∀im,D0 [XU im] 53 agx (lf MD) λb=>Qz im:=λ_ b=>by kernel_rfl
theorem agy [ax]:SC (Qy rB):=s0 (.c asq (.nil _)) (azi wg)
def ajW:=qa (pr (cu aP apG) bB)
def QA:=qe aAF
abbrev ajX:=QA.B
abbrev Kc:=NI->Bool->Option ajX
def UH (g:Kc):Ct:=(60,FC ajW (lf QA) (λb=>g b.1 b.2))
def jy:=qs (st (pr (cu aP (us 2 (cu RF (cu Cr (cu afW aFX))))) (pl (c ck aGm) cB)))
def avA:=qs (st (pr (cu aP (us 2 (cu RF (cu Cr (cu afW (c ai (us 1 aF2))))))) (pl (c ck aGm) cB)))
abbrev tu:=((Int×Bool)×Bool×NI×NI×Bk)
def abF {ρ:Type}(x:tu)(K:AX->St->Option ρ):Option ρ:=(λd=>K (.ex 0) (avA.em ((d.1.1,d.1),d.2))) x
def ME (aE:bT)(d:jy.B):PL jy tu:=let y0:=Int.toNat d.1;let y1:=aX d.1 24;let y2:=decide (d.1<24);ae y2 (ae y1 (ae y1 (ae y1 (opt (aE (d.2.2.1 y0) (wI (0-d.2.2.2.2 y0)) (d.2.2.2.2 y0) d.2.1) λaj=>ae y1 (ae (true&&Nat.ble (0+y0*1+1) 24) (ret (Sum.inl (wI (d.1+1),aj.2,λj=>bif Nat.beq j y0 then aj.1 else d.2.2.1 j,d.2.2.2))) no) no) no) no) no) (ret (Sum.inr ((d.1,y2),d.2)))
def MF:=bD (ME bc) 2000
def UI (QB:Bl)(dA:LT jy tu)(x0:Nat->Int)(x1:Bool):Pg ajX:=opt QB λd=>opt (dA (4,x1,x0,λx=>0,d)) λd=>ret (d.2.2.1,d.2.1)
def tN:=λx0 x1=>(UI rB MF x0 x1).val
abbrev Kd:=Bl×bT×(LT jy tu)
def UJ (p:Kd):KK:=⟨[Qy p.1,du p.2.1],⟨[⟨3,(1::2::rg 7 20 []),[]⟩],[fg 3 1 jy abF p.b],[0],[],(some ⟨0,(rg 0 4 (rg 5 22 [])),[]⟩)⟩,1,60⟩
theorem asW (p:Kd):LI (UJ p) 3 jy abF (ME p.2.1):=λ_ d c K=>by kernel_rfl
theorem aCr (p:Kd):D2 (UJ p) ajW (lf QA) λb=>UI p.1 p.b b.1 b.2:=λb=>by kernel_rfl
abbrev UK:Kd:=(rB,bc,MF)
theorem ajY [ax]:SC (UH tN):=sc (kS (k:=UJ UK) (.c agy (.c dO (.nil _))) [3] [] ⟨kL (asW UK),trivial⟩ trivial (aCr UK))
def aoo:=qa (pr (cu aP apG) bB)
def UL:=qe aAF
abbrev aoq:=UL.B
abbrev eL:=NI->Bool->Option aoq
def ir (g:eL):Ct:=(30,FC aoo (lf UL) (λb=>g b.1 b.2))
def Z4 (bh:dz)(N7:aoe)(bq:gQ)(vF:Hl)(tO:Kc)(x0:Nat->Int)(x1:Bool):Pg aoq:=opt (bh x0) λd=>opt (N7 d.1 d.2.1 d.2.2.1 d.2.2.2) λd=>ae (!d) (opt (bh x0) λd=>opt (bq d.1 d.2.1 d.2.2.1 d.2.2.2 x1) λd=>opt (vF x0 d.1.1 d.1.2.1 d.1.2.2.1 d.1.2.2.2) λaj=>opt (tO aj d.2) λd=>ret d) (opt (tO x0 x1) λd=>ret d)
def bX:=λx0 x1=>(Z4 bZ BP cX rA tN x0 x1).val
theorem aD4:∀bh N7 bq vF tO,D0 [iF bh,aof N7,mi bq,Qv vF,UH tO] 30 aoo (lf UL) λb=>Z4 bh N7 bq vF tO b.1 b.2:=λ_ _ _ _ _ b=>by kernel_rfl
theorem jf [ax]:SC (ir bX):=s0 (.c jx (.c aDW (.c nE (.c agw (.c ajY (.nil _)))))) (aD4 bZ BP cX rA tN)
def abG:=qa (pr (cu aP fU) bB)
def Ke:=qe oQ
abbrev abH:=Ke.B
abbrev tv:=Int->Bool->Option abH
def EH (g:tv):Ct:=(121,FC abG (lf Ke) (λb=>g b.1 b.2))
def MG (aq:bY)(x0:Int)(x1:Bool):Pg abH:=opt (aq x0 1073741824 1000000 x1) λd=>ret d
def jg:=λx0 x1=>(MG aU x0 x1).val
theorem avB:∀aq,D0 [cV aq] 121 abG (lf Ke) λb=>MG aq b.1 b.2:=λ_ b=>by kernel_rfl
theorem MH [ax]:SC (EH jg):=s0 (.c c9 (.nil _)) (avB aU)
def aCs:=qa (pr (cu aP Fk) bB)
def ajZ:=qe auK
abbrev aCt:=ajZ.B
abbrev aCu:=Int->Int->Int->Bool->Option aCt
def aCv (g:aCu):Ct:=(178,FC aCs (lf ajZ) (λb=>g b.1.1 b.1.2.1 b.1.b b.2))
def aql (Dm:Mt)(sV:zj)(gM:zk)(aB:bN)(dF:IJ)(aD:cz)(gk:OF)(bq:gQ)(x0:Int)(x1:Int)(x2:Int)(x3:Bool):Pg aCt:=opt (Dm x0 x1 x2 x3) λd=>opt (sV d.1.1 d.1.2.1 d.1.2.2 d.2) λaj=>ae (aj.1==0) (opt gM λd=>ret ((1073741824,0,0,0),aj.2)) (opt (aB aj.1 536870912 30 aj.2) λaF=>opt (dF aF.1 aF.2) λbx=>opt (aD bx.1 aj.1 30 bx.2) λcv=>opt (gk aF.1 cv.2) λdN=>opt (aB d.1.1 cv.1 30 dN.2) λcL=>opt (aB d.1.2.1 cv.1 30 cL.2) λjW=>opt (aB d.1.2.2 cv.1 30 jW.2) λd=>opt (bq dN.1 cL.1 jW.1 d.1 d.2) λd=>ret d)
def UM:=λx0 x1 x2 x3=>(aql zN oi mH aV mG bp qd cX x0 x1 x2 x3).val
theorem aM3:∀Dm sV gM aB dF aD gk bq,D0 [aeg Dm,OH sV,IL gM,eJ aB,IK dF,fL aD,OG gk,mi bq] 178 aCs (lf ajZ) λb=>aql Dm sV gM aB dF aD gk bq b.1.1 b.1.2.1 b.1.b b.2:=λ_ _ _ _ _ _ _ _ b=>by kernel_rfl
theorem aM4 [ax]:SC (aCv UM):=s0 (.c aqc (.c XN (.c OK (.c eZ (.c OE (.c gC (.c XL (.c nE (.nil _))))))))) (aM3 zN oi mH aV mG bp qd cX)
def aj0:=qa (pr (cu aP (c jS YX)) bB)
def QC:=qe (res (pr (aa adf) (pl kZ nil)))
abbrev aj1:=QC.B
abbrev Kf:=NI->Int->Int->Int->Int->Int->Int->Int->Int->Bool->Option aj1
def UN (g:Kf):Ct:=(116,FC aj0 (lf QC) (λb=>g b.1.1 b.1.2.1 b.1.b.1 b.1.b.2.1.1 b.1.b.2.1.2.1 b.1.b.2.1.b b.1.c.1 b.1.c.2.1 b.1.c.b b.2))
def UO (aN:eL)(mI:tv)(bE:kr)(gR:Su)(mz:HO)(aeL:aCu)(bh:dz)(eI:oZ)(x0:Nat->Int)(x1:Int)(x2:Int)(x3:Int)(x4:Int)(x5:Int)(x6:Int)(x7:Int)(x8:Int)(x9:Bool):Pg aj1:=opt (aN x0 x9) λd=>opt (mI x2 d.2) λaj=>opt (bE d.1 10) λaF=>opt (gR aF.1 aF.2.1 aF.2.2 aj.1 aj.2) λbx=>opt (mz x3 x4 x5 bx.1.1 bx.1.2.1 bx.1.2.2 bx.2) λcv=>opt (bE d.1 13) λdN=>opt (gR dN.1 dN.2.1 dN.2.2 aj.1 cv.2) λcL=>opt (mz x6 x7 x8 cL.1.1 cL.1.2.1 cL.1.2.2 cL.2) λjW=>opt (aeL cv.1.1 cv.1.2.1 cv.1.2.2 jW.2) λpF=>opt (bh d.1) λd=>opt (eI d.1 d.2.1 d.2.2.1 d.2.2.2 pF.2) λd=>ret ((aj.1,cv.1.1,cv.1.2.1,cv.1.2.2,jW.1.1,jW.1.2.1,jW.1.2.2,pF.1.1,pF.1.2.1,pF.1.2.2.1,pF.1.2.2.2,d.1),d.2)
def tP:=λx0 x1 x2 x3 x4 x5 x6 x7 x8 x9=>(UO bX jg en rV tM UM bZ je x0 x1 x2 x3 x4 x5 x6 x7 x8 x9).val
theorem aCw:∀aN mI bE gR mz aeL bh eI,D0 [ir aN,EH mI,pG bE,Sv gR,T7 mz,aCv aeL,iF bh,BR eI] 116 aj0 (lf QC) λb=>UO aN mI bE gR mz aeL bh eI b.1.1 b.1.2.1 b.1.b.1 b.1.b.2.1.1 b.1.b.2.1.2.1 b.1.b.2.1.b b.1.c.1 b.1.c.2.1 b.1.c.b b.2:=λ_ _ _ _ _ _ _ _ b=>by kernel_rfl
theorem aj2 [ax]:SC (UN tP):=s0 (.c jf (.c MH (.c sU (.c aee (.c aec (.c aM4 (.c jx (.c EG (.nil _))))))))) (aCw bX jg en rV tM UM bZ je)
def aor:=qa (pr (cu aP (c jS YX)) bB)
def UP:=qe aAF
abbrev aos:=UP.B
abbrev N8:=NI->Int->Int->Int->Int->Int->Int->Int->Int->Bool->Option aos
def Z5 (g:N8):Ct:=(73,FC aor (lf UP) (λb=>g b.1.1 b.1.2.1 b.1.b.1 b.1.b.2.1.1 b.1.b.2.1.2.1 b.1.b.2.1.b b.1.c.1 b.1.c.2.1 b.1.c.b b.2))
def Z6 (yy:Kf)(aN:eL)(bh:dz)(eu:wj)(bq:gQ)(bE:kr)(gS:EC)(aB:bN)(dm:zU)(gR:Su)(cH:w9)(x0:Nat->Int)(x1:Int)(x2:Int)(x3:Int)(x4:Int)(x5:Int)(x6:Int)(x7:Int)(x8:Int)(x9:Bool):Pg aos:=opt (yy x0 x1 x2 x3 x4 x5 x6 x7 x8 x9) λd=>let n1:=d.1.2.2.2.2.2;let n2:=n1.2.2.2;opt (aN x0 d.2) λaj=>opt (bh aj.1) λaF=>opt (eu aF.1 aF.2.1 aF.2.2.1 aF.2.2.2 n1.2.2.1 n2.1 n2.2.1 n2.2.2.1 aj.2) λbx=>opt (bq bx.1.1 bx.1.2.1 bx.1.2.2.1 bx.1.2.2.2 bx.2) λcv=>opt (bE aj.1 4) λdN=>opt (gS n2.2.2.2 d.1.2.2.2.2.1 n1.1 n1.2.1 cv.2) λcL=>opt (aB 10529810258 d.1.1 30 cL.2) λjW=>opt (dm 3 jW.2 (cr dN.1 [0,cL.1.1,dN.1]) (cr dN.2.1 [0,cL.1.2.1,dN.2.1]) (cr dN.2.2 [jW.1,cL.1.2.2,dN.2.2]) true) λpF=>opt (aB d.1.1 536870912 30 pF.2) λd=>opt (bE aj.1 7) λnx=>opt (dm 2 d.2 (cr dN.1 [pF.1.1,dN.1]) (cr dN.2.1 [pF.1.2.1,dN.2.1]) (cr dN.2.2 [pF.1.2.2,dN.2.2]) true) λku=>opt (gR ku.1.1 ku.1.2.1 ku.1.2.2 d.1 ku.2) λd=>opt (dm 2 d.2 (cr nx.1 [d.1.1,nx.1]) (cr nx.2.1 [d.1.2.1,nx.2.1]) (cr nx.2.2 [d.1.2.2,nx.2.2]) true) λd=>opt (cH aj.1 0 4 (cr cv.1.1 [cv.1.2.2.2,cv.1.2.2.1,cv.1.2.1,cv.1.1]) false) λuO=>opt (cH uO 4 3 (cr pF.1.1 [pF.1.2.2,pF.1.2.1,pF.1.1]) false) λIQ=>opt (cH IQ 7 3 (cr d.1.1 [d.1.2.2,d.1.2.1,d.1.1]) false) λKg=>opt (aN Kg d.2) λd=>ret d
def sW:=λx0 x1 x2 x3 x4 x5 x6 x7 x8 x9=>(Z6 tP bX bZ j9 cX en nC aV jl rV fN x0 x1 x2 x3 x4 x5 x6 x7 x8 x9).val
theorem aD5:∀yy aN bh eu bq bE gS aB dm gR cH,D0 [UN yy,ir aN,iF bh,Dl eu,mi bq,pG bE,J3 gS,eJ aB,HQ dm,Sv gR,BO cH] 73 aor (lf UP) λb=>Z6 yy aN bh eu bq bE gS aB dm gR cH b.1.1 b.1.2.1 b.1.b.1 b.1.b.2.1.1 b.1.b.2.1.2.1 b.1.b.2.1.b b.1.c.1 b.1.c.2.1 b.1.c.b b.2:=λ_ _ _ _ _ _ _ _ _ _ _ b=>by kernel_rfl
theorem aot [ax]:SC (Z5 sW):=s0 (.c aj2 (.c jf (.c jx (.c IM (.c nE (.c sU (.c Sy (.c eZ (.c Mz (.c aee (.c Gm (.nil _)))))))))))) (aD5 tP bX bZ j9 cX en nC aV jl rV fN)
def axB:=qa (pr (cu aP Fk) bB)
def aeM:=qe auK
abbrev axC:=aeM.B
abbrev aj3:=Int->Int->Int->Bool->Option axC
def axD (g:aj3):Ct:=(122,FC axB (lf aeM) (λb=>g b.1.1 b.1.2.1 b.1.b b.2))
def nF:=qs (st (pr (cu aP (us 3 (cu anc (cu Xg (c ai (cu ah7 (us 12 (cl ai aQg)))))))) (pl (c ck (cu aif (c wZ (cl wZ nil)))) cB)))
def aou:=qs (st (pr (cu aP (us 3 (cu anc (cu Xg (c ai (cu ah7 (us 12 (c ai (cl ab (us 26 nil)))))))))) (pl (c ck (cu aif (c wZ (cl wZ nil)))) cB)))
abbrev BS:=aou.B
def aov {ρ:Type}:=@ef BS ((.ex 0)) aou ρ
def Z7 (aD:cz)(d:nF.B):PL nF BS:=let n3:=d.1.1;let n2:=d.1.2;let n1:=d.2.2;let n5:=n1.2.1;let n4:=n1.2.2;let y0:=aX n2 3;let y1:=n2==2;let y2:=n2==1;let y3:=decide (n2<3);ae y3 (ae y0 (ae y1 (opt (aD n1.1.2.2 n3 30 d.2.1) λaj=>ae y0 (ae y1 (ret (Sum.inl ((n3,wI (n2+1)),aj.2,n1.1,n5,n4.1,aj.1))) (ae y2 (ret (Sum.inl ((n3,wI (n2+1)),aj.2,n1.1,n5,aj.1,n4.2))) (ret (Sum.inl ((n3,wI (n2+1)),aj.2,n1.1,aj.1,n4))))) no) (ae y2 (opt (aD n1.1.2.1 n3 30 d.2.1) λaj=>ae y0 (ae y1 (ret (Sum.inl ((n3,wI (n2+1)),aj.2,n1.1,n5,n4.1,aj.1))) (ae y2 (ret (Sum.inl ((n3,wI (n2+1)),aj.2,n1.1,n5,aj.1,n4.2))) (ret (Sum.inl ((n3,wI (n2+1)),aj.2,n1.1,aj.1,n4))))) no) (opt (aD n1.1.1 n3 30 d.2.1) λaj=>ae y0 (ae y1 (ret (Sum.inl ((n3,wI (n2+1)),aj.2,n1.1,n5,n4.1,aj.1))) (ae y2 (ret (Sum.inl ((n3,wI (n2+1)),aj.2,n1.1,n5,aj.1,n4.2))) (ret (Sum.inl ((n3,wI (n2+1)),aj.2,n1.1,aj.1,n4))))) no))) no) (ret (Sum.inr ((n3,n2,y3),d.2)))
def Z8:=bD (Z7 bp) 2000
def aj4 (Dm:Mt)(gM:zk)(sV:zj)(aW:cR)(bq:gQ)(dA:LT nF BS)(x0:Int)(x1:Int)(x2:Int)(x3:Bool):Pg axC:=opt (Dm x0 x1 x2 x3) λd=>ae (d.1.1==0&&(d.1.2.1==0&&(d.1.2.2==0&&true))) (opt gM λaj=>ret ((1073741824,0,0,0),d.2)) (opt (sV d.1.1 d.1.2.1 d.1.2.2 d.2) λaj=>opt (dA ((aj.1,0),aj.2,d.1,0,0,0)) λd=>opt (aW 1073741824 d.2.2.2.2.2 d.2.1) λaF=>ae (decide (aF.1<=16)) (ret ((0,1073741824,0,0),aF.2)) (opt (bq aF.1 (wI (0-d.2.2.2.2.1)) d.2.2.2.1 0 aF.2) λd=>ret d))
def IS:=λx0 x1 x2 x3=>(aj4 zN mH oi bJ cX Z8 x0 x1 x2 x3).val
abbrev XZ:=Mt×zk×zj×cz×cR×gQ×(LT nF BS)
def aj5 (p:XZ):KK:=⟨[aeg p.1,IL p.2.1,OH p.b.1,fL p.b.2.1,gD p.c.1,mi p.c.2.1],⟨[⟨7,(1::2::3::rg 8 12 (rg 21 27 [])),[]⟩],[fg 7 1 nF aov p.c.b],[],[],(some ⟨0,(rg 0 4 (rg 5 43 [])),[]⟩)⟩,1,122⟩
theorem aCx (p:XZ):LI (aj5 p) 7 nF aov (Z7 p.b.2.1):=λ_ d c K=>by kernel_rfl
theorem aJV (p:XZ):D2 (aj5 p) axB (lf aeM) λb=>aj4 p.1 p.2.1 p.b.1 p.c.1 p.c.2.1 p.c.b b.1.1 b.1.2.1 b.1.b b.2:=λb=>by kernel_rfl
abbrev aj6:XZ:=(zN,mH,oi,bp,bJ,cX,Z8)
theorem aJW [ax]:SC (axD IS):=sc (kS (k:=aj5 aj6) (.c aqc (.c OK (.c XN (.c gC (.c il (.c nE (.nil _))))))) [7] [] ⟨kL (aCx aj6),trivial⟩ trivial (aJV aj6))
def abI:=qa (pr (cu aP (c xX (c (aa aAz) apG))) bB)
def Kh:=qe aLL
abbrev MI:=Kh.B
abbrev EI:=NI->NI->NI->NI->Bool->Option MI
def MJ (g:EI):Ct:=(125,FC abI (lf Kh) (λb=>g b.1.1.1 b.1.1.2 b.1.2.1 b.1.b b.2))
def dW:=qs (st (pr (cu aP (us 4 (cu E3 (cu aNF (cu afW (cu Ly (cu anf (c ai (us 13 (c ai (us 16 (cl ai (us 105 nil))))))))))))) (pl (c ck (c hI (c ld (c mx YY)))) cB)))
def UQ:=qs (st (pr (cu aP (us 4 (cu E3 (cu aNF (cu afW (cu Ly (cu anf (c ai (us 13 (c ai (us 16 (c ai (cl ab (us 104 nil)))))))))))))) (pl (c ck (c hI (c ld (c mx YY)))) cB)))
abbrev ka:=UQ.B
def UR {ρ:Type}:=@ef ka ((.ex 2)) UQ ρ
def z8 (aw:bI)(d:dW.B):PL dW ka:=let y0:=aX d.1.1 24;let y1:=aX d.1.2.2 24;let y2:=decide (d.1.2.2<24);let y3:=Int.toNat d.1.1*24+Int.toNat d.1.2.2;ae y2 (ae y0 (ae y1 (opt (aw (d.2.2.2.1 y3) d.2.1) λaj=>ae y0 (ae y1 (ae (true&&Nat.ble (0+y3*1+1) 576) (ret (Sum.inl ((d.1.1,d.1.2.1,wI (d.1.2.2+1)),aj.2,d.2.2.1,λj=>bif Nat.beq j y3 then aj.1 else d.2.2.2.1 j,d.2.2.2.2))) no) no) no) no) no) (ret (Sum.inr ((d.1.1,d.1.2.1,d.1.2.2,y2),d.2)))
def Aa:=bD (z8 aQ) 2000
def dX:=qs (st (pr (cu aP (us 7 (cu E3 (cu awx (us 2 (cu Xi (cu Ly (c ai (cu anf (us 48 aK8)))))))))) (pl (c ck (c hI (c ac5 (c Fj YY)))) cB)))
def US:=qs (st (pr (cu aP (us 7 (cu E3 (cu awx (us 2 (cu Xi (cu Ly (c ai (cu anf (us 48 aQG)))))))))) (pl (c ck (c hI (c ac5 (c Fj YY)))) cB)))
abbrev kc:=US.B
def UT {ρ:Type}:=@ef kc ((.ex 6)) US ρ
def Ac (aB:bN)(d:dX.B):PL dX kc:=let n2:=d.1.2;let n1:=d.2.2.2;let y0:=Int.toNat n2;let y1:=aX n2 48;let y2:=decide (n2<48);ae y2 (ae (aX d.1.1 24) (ae y1 (ae y1 (opt (aB (n1.2.1 (Int.toNat d.1.1*48+y0)) (n1.1 y0) 30 d.2.1) λaj=>ae y1 (ae (true&&Nat.ble (0+y0*1+1) 48) (ret (Sum.inl ((d.1.1,wI (n2+1)),aj.2,d.2.2.1,n1.1,n1.2.1,n1.2.2.1,λj=>bif Nat.beq j y0 then aj.1 else n1.2.2.2 j))) no) no) no) no) no) (ret (Sum.inr ((d.1.1,n2,y2),d.2)))
def Ad:=bD (Ac aV) 2000
def dY:=qs (st (pr (cu aP (us 7 (cu E3 (cu awx (us 2 (cu Xi (cu Ly (c ai (cu anf (us 1 (c ai (c ai (c ai (us 76 (c ai (c ai (us 18 (cl ai (us 30 nil))))))))))))))))))) (pl (c ck (c hI (c ac5 (c Fj YY)))) cB)))
def UU:=qs (st (pr (cu aP (us 7 (cu E3 (cu awx (us 2 (cu Xi (cu Ly (c ai (cu anf (us 1 (c ai (c ai (c ai (us 76 (c ai (c ai (us 18 aQH))))))))))))))))) (pl (c ck (c hI (c ac5 (c Fj YY)))) cB)))
abbrev kd:=UU.B
def UW {ρ:Type}:=@ef kd ((.ex 10)) UU ρ
def Ae (aB:bN)(aW:cR)(d:dY.B):PL dY kd:=let n3:=d.2.2.2;let n1:=d.1.2.2;let n2:=n1.2.2.2;let y0:=aX n1.1 24;let y1:=Int.toNat n2.2;let y2:=aX n2.2 48;let y3:=Int.toNat n1.1*48+y1;let y4:=decide (n2.2<48);ae y4 (ae y0 (ae y2 (ae (aX d.1.1 24) (ae y2 (opt (aB n1.2.1 (n3.2.1 (Int.toNat d.1.1*48+y1)) 30 d.2.1) λaj=>opt (aW (n3.2.1 y3) aj.1 aj.2) λaF=>ae y0 (ae y2 (ae (true&&Nat.ble (0+y3*1+1) 1152) (ret (Sum.inl ((d.1.1,d.1.2.1,n1.1,n1.2.1,n1.2.2.1,n2.1,wI (n2.2+1)),aF.2,d.2.2.1,n3.1,λj=>bif Nat.beq j y3 then aF.1 else n3.2.1 j,n3.2.2))) no) no) no) no) no) no) no) (ret (Sum.inr ((d.1.1,d.1.2.1,n1.1,n1.2.1,n1.2.2.1,n2.1,n2.2,y4),d.2)))
def Af:=bD (Ae aV bJ) 2000
def dZ:=qs (st (pr (cu aP (us 4 (cu E3 (cu aNF (cu afW (cu Ly (cu anf (us 14 (cl ai (us 122 nil)))))))))) (pl (c ck (c hI (c ld (c mx YY)))) cB)))
def UX:=qs (st (pr (cu aP (us 4 (cu E3 (cu aNF (cu afW (cu Ly (cu anf (us 14 (c ai (cl ab (us 121 nil))))))))))) (pl (c ck (c hI (c ld (c mx YY)))) cB)))
abbrev ke:=UX.B
def UY {ρ:Type}:=@ef ke ((.ex 0)) UX ρ
def Ag (aE:bT)(oV:LT dW ka)(d:dZ.B):PL dZ ke:=let y0:=Int.toNat d.1;let y1:=aX d.1 24;let y2:=wI (24+d.1);let y3:=Int.toNat y2;let y4:=decide (d.1<24);ae y4 (ae y1 (ae y1 (opt (aE (d.2.2.2.2.1 y0) 0 72057594037927936 d.2.1) λaj=>ae (aX d.1 48) (ae (true&&Nat.ble (0+y0*1+1) 48) (ae (aX y2 48) (ae (true&&Nat.ble (0+y3*1+1) 48) (opt (oV ((d.1,d.1,0),aj.2,d.2.2.1,d.2.2.2.1,d.2.2.2.2.1,d.2.2.2.2.2.1,λj=>bif Nat.beq j y3 then aj.1 else bif Nat.beq j y0 then d.2.2.1.2 y0 else d.2.2.2.2.2.2 j)) λd=>ret (Sum.inl (wI (d.1.2.1+1),d.2))) no) no) no) no) no) no) (ret (Sum.inr ((d.1,y4),d.2)))
def Ah:=bD (Ag bc Aa) 2000
def ec:=qs (st (pr (cu aP (us 7 (cu E3 (cu awx (us 2 (cu Xi (cu Ly (c ai (cu anf (us 1 (c ai (us 78 (c ai (cl ai (us 49 nil))))))))))))))) (pl (c ck (c hI (c ac5 (c Fj YY)))) cB)))
def UZ:=qs (st (pr (cu aP (us 7 (cu E3 (cu awx (us 2 (cu Xi (cu Ly (c ai (cu anf (us 1 (c ai (us 78 (c ai (c ai (cl ab (us 48 nil)))))))))))))))) (pl (c ck (c hI (c ac5 (c Fj YY)))) cB)))
abbrev kg:=UZ.B
def U0 {ρ:Type}:=@ef kg ((.ex 8)) UZ ρ
def Ai (bj:eo)(aD:cz)(aqm:Ui)(l_5:LT dY kd)(d:ec.B):PL ec kg:=let n2:=d.2.2.2.2;let n1:=d.1.2.2;let y0:=decide (n1.2<n1.1);ae y0 (ae (aX n1.2 24) (opt (bj 30 48 48 d.2.1 (λj=>n2.1 (0+Int.toNat n1.2*48+j)) n2.2.2 false false) λaj=>opt (aD aj.1 d.1.2.1 30 aj.2) λaF=>opt (aqm n2.2.1.1 n2.2.1.2 n1.2 d.1.1 aF.1) λbx=>opt (l_5 ((d.1.1,d.1.2.1,n1.2,aF.1,n1.1,n1.2,0),aF.2,d.2.2.1,d.2.2.2.1,n2.1,bx,n2.2.2)) λd=>ret (Sum.inl ((d.1.1,d.1.2.1,d.1.2.2.2.2.1,wI (d.1.2.2.2.2.2.1+1)),d.2))) no) (ret (Sum.inr ((d.1.1,d.1.2.1,n1.1,n1.2,y0),d.2)))
def Aj:=bD (Ai br bp xc Af) 2000
def ee:=qs (st (pr (cu aP (us 7 (cu E3 (cu awx (us 2 (cu Xi (cu Ly (cl ai (us 132 nil))))))))) (pl (c ck (c hI (c ac5 (c Fj (cl hI nil))))) cB)))
def aqn:=qs (st (pr (cu aP (us 7 (cu E3 (cu awx (us 2 (cu Xi (cu Ly (c ai (us 45 (c ai (cl ab (us 85 nil)))))))))))) (pl (c ck (c hI (c ac5 (c Fj (cl hI nil))))) cB)))
abbrev kh:=((Int×Bool)×Bool×(NI×NI)×NI×NI×NI×NI)
def U2 {ρ:Type}(x:kh)(K:AX->St->Option ρ):Option ρ:=(λd=>K (.ex 4) (aqn.em ((d.1.1,d.1),d.2))) x
def Ak (aE:bT)(bj:eo)(l_3:LT dX kc)(l_4:LT ec kg)(d:ee.B):PL ee kh:=let y0:=decide (d.1>=0);ae y0 (opt (l_3 ((d.1,0),d.2.1,d.2.2.1,d.2.2.2.1,d.2.2.2.2.1,d.2.2.2.2.2,λx=>0)) λd=>let n1:=d.2.2.2.2;let y0:=Int.toNat d.1.1;let y1:=aX d.1.1 24;ae y1 (opt (bj 30 48 48 d.2.1 (λj=>n1.1 (0+y0*48+j)) n1.2.2 false false) λaj=>opt (aE aj.1 1 72057594037927936 aj.2) λaF=>ae y1 (ae (true&&Nat.ble (276+y0*1+1) 300) (opt (l_4 ((d.1.1,aF.1,d.1.1,0),aF.2,d.2.2.1,d.2.2.2.1,n1.1,(n1.2.1.1,λj=>bif Nat.beq j y0 then aF.1 else n1.2.1.2 j),n1.2.2)) λd=>ret (Sum.inl (wI (d.1.1-1),d.2.1,d.2.2.1,d.2.2.2.1,d.2.2.2.2.1,d.2.2.2.2.2.1))) no) no) no) (ret (Sum.inr ((d.1,y0),d.2)))
def Al:=bD (Ak bc br Ad Aj) 2000
def EJ (fk:oW)(avC:MB)(dA:LT dZ ke)(Gn:LT ee kh)(x0:Nat->Int)(x1:Nat->Int)(x2:Nat->Int)(x3:Nat->Int)(x4:Bool):Pg MI:=opt (fk x0 x1 x4) λd=>opt (dA (0,d.2,d.1,x2,x3,(λx=>0,λx=>0),λx=>0)) λd=>opt (avC d.2.2.1.1 d.2.2.1.2 d.2.1 d.2.2.2.1) λaj=>opt (Gn (23,aj.1,d.2.2.2.2.2.1,d.2.2.2.2.2.2,aj.2,λx=>0,λx=>0)) λd=>ret (d.2.2.2.2.2,d.2.1)
def jh:=λx0 x1 x2 x3 x4=>(EJ fh oX Ah Al x0 x1 x2 x3 x4).val
abbrev kI:=oW×bT×bI×MB×bN×eo×cz×Ui×cR×(LT dW ka)×(LT dX kc)×(LT dY kd)×(LT dZ ke)×(LT ec kg)×(LT ee kh)
def mJ (p:kI):KK:=⟨[yp p.1,du p.2.1,cW p.b.1,abE p.b.2.1,eJ p.c.1,lP p.c.2.1,fL p.c.b.1,aqh p.c.b.2.1,gD p.d.1],⟨[⟨4,(rg 1 4 (rg 10 14 (rg 25 122 []))),[]⟩,⟨8,(rg 1 4 (rg 11 13 (rg 25 16 (rg 42 105 [])))),[]⟩,⟨16,(rg 1 7 (10::11::rg 15 132 [])),[]⟩,⟨20,(rg 1 7 (10::11::rg 16 48 (rg 65 82 []))),[]⟩,⟨27,(rg 1 7 (10::11::16::rg 18 78 (rg 98 49 []))),[]⟩,⟨32,(rg 1 7 (10::11::16::rg 20 76 (rg 98 18 (rg 117 30 [])))),[]⟩],[fg 8 1 dW UR p.d.2.1,fg 20 1 dX UT p.d.b.1,fg 32 1 dY UW p.d.b.2.1,fg 4 1 dZ UY p.d.c.1,fg 27 1 ec U0 p.d.c.2.1,fg 16 1 ee U2 p.d.c.b],[],[],(some ⟨0,(rg 0 8 (rg 9 138 [])),[]⟩)⟩,1,125⟩
theorem amA (p:kI):LI (mJ p) 8 dW UR (z8 p.b.1):=λ_ d c K=>by kernel_rfl
theorem amB (p:kI):LI (mJ p) 20 dX UT (Ac p.c.1):=λ_ d c K=>by kernel_rfl
theorem amC (p:kI):LI (mJ p) 32 dY UW (Ae p.c.1 p.d.1):=λ_ d c K=>by kernel_rfl
theorem amD (p:kI):LI (mJ p) 4 dZ UY (Ag p.2.1 p.d.2.1):=λ_ d c K=>by kernel_rfl
theorem amE (p:kI):LI (mJ p) 27 ec U0 (Ai p.c.2.1 p.c.b.1 p.c.b.2.1 p.d.b.2.1):=λ_ d c K=>by kernel_rfl
theorem amF (p:kI):LI (mJ p) 16 ee U2 (Ak p.2.1 p.c.2.1 p.d.b.1 p.d.c.2.1):=λ_ d c K=>by kernel_rfl
theorem avD (p:kI):D2 (mJ p) abI (lf Kh) λb=>EJ p.1 p.b.2.1 p.d.c.1 p.d.c.b b.1.1.1 b.1.1.2 b.1.2.1 b.1.b b.2:=λb=>by kernel_rfl
abbrev mK:kI:=(fh,bc,aQ,oX,aV,br,bp,xc,bJ,Aa,Ad,Af,Ah,Aj,Al)
theorem abJ [ax]:SC (MJ jh):=sc (kS (k:=mJ mK) (.c Ez (.c dO (.c c7 (.c avw (.c eZ (.c np (.c gC (.c aCh (.c il (.nil _)))))))))) [4,8,16,20,27,32] [] ⟨kL (amD mK),⟨kL (amA mK),⟨kL (amF mK),⟨kL (amB mK),⟨kL (amE mK),⟨kL (amC mK),trivial⟩⟩⟩⟩⟩⟩ trivial (avD mK))
def axE:=qa (pl fU nil)
def aeN:=qe B3
abbrev axF:=aeN.B
abbrev aj7:=Int->Option axF
def axG (g:aj7):Ct:=(185,FC axE (lf aeN) (λb=>g b))
def ON (x0:Int):Pg axF:=ae (decide (x0>=0)) (ret (decide (x0<24))) (ret false)
def wo:=λx0=>(ON x0).val
theorem aJX:D0 [] 185 axE (lf aeN) λb=>ON b:=λb=>by kernel_rfl
theorem aJY [ax]:SC (axG wo):=s0 (.nil _) aJX
def X0:=qa (pr (cu aP fU) bB)
def HR:=qe oQ
abbrev X1:=HR.B
abbrev Ki:=Int->Bool->Option X1
def X2 (g:Ki):Ct:=(186,FC X0 (lf HR) (λb=>g b.1 b.2))
def CC (aE:bT)(x0:Int)(x1:Bool):Pg X1:=opt (aE x0 1 72057594037927936 x1) λd=>ret d
def nG:=λx0 x1=>(CC bc x0 x1).val
theorem asX:∀aE,D0 [du aE] 186 X0 (lf HR) λb=>CC aE b.1 b.2:=λ_ b=>by kernel_rfl
theorem asY [ax]:SC (X2 nG):=s0 (.c dO (.nil _)) (asX bc)
def aj8:=qa (dp (cu aP (c xX aLh)) λa=>(c uN (cl (cl (gs a.b.1 mE) nil) nil)))
def QD:=qe aRC
abbrev U3:=QD.B
abbrev fw:=NI->NI->Int->Nat->Bool->NI->Bool->Option U3
def yA (g:fw):Ct:=(123,sQ 3 [.i .i64] (FC aj8 (lf QD) (λb=>g b.1.1.1 b.1.1.2 b.1.2.1 b.1.b.1 b.2.1 b.b b.1.b.2)))
def fm:=qs (st (dp (cu aP (us 1 (c ai (us 2 (cu Xh (us 2 (cu aEN (cu aEP (cu ang (us 4 (c F' (c ai aFY)))))))))))) λa=>(pl (c ck (c (so (cl (gs a.2.1.1 mE) nil)) aR0)) cB)))
def avE:=qs (st (pr (cu aP (us 1 (c ai (us 2 (cu Xh (us 2 (cu aEN (cu aEP (cu ang (us 4 (c F' (c ai aF5)))))))))))) (pl (c ck (c HE aR0)) cB)))
abbrev mL:=((Int×(Nat×Bool)×Int×Int×Bool)×Bool×NI×(NI×NI)×(NI×NI)×Bi×NI)
def abK {ρ:Type}(x:mL)(K:AX->St->Option ρ):Option ρ:=(λd=>K (.ex 0) (avE.em (d.1,d.2.1,(d.1.2.1.1,d.b.1),d.b.2))) x
def EK (aJZ:aj7)(asZ:Ki)(d:fm.B):PL fm mL:=let n3:=d.2.2;let n2:=d.1.2.2;let n1:=(d.1.1,d.1.2.1,n2.1,wI (n2.2+1));let y0:=wI (d.1.1+n2.2);let y1:=Int.toNat y0;let y2:=aX y0 24;let y3:=decide (n2.2<n2.1);let y4:=y1*24+y1;ae y3 (ae (aX n2.2 d.1.2.1.1) (opt (aJZ y0) λaj=>ae aj (opt (asZ (n3.1 (Int.toNat n2.2)) d.2.1) λaF=>ae y2 (ae y2 (ae (true&&Nat.ble (0+y4*1+1) 576) (ae y2 (ae (true&&Nat.ble (0+y1*1+1) 24) (ret (Sum.inl (n1,aF.2,n3.1,n3.2.1,n3.2.2.1,λj=>bif Nat.beq j y4 then 0 else n3.2.2.2.1 j,λj=>bif Nat.beq j y1 then aF.1 else n3.2.2.2.2 j))) no) no) no) no) no) (ret (Sum.inl (n1,d.2)))) no) (ret (Sum.inr ((d.1.1,d.1.2.1,n2.1,n2.2,y3),d.2)))
def EL:=bD (EK wo nG) 2000
def Kj (QE:Bj)(tw:EI)(dA:LT fm mL)(x0:Nat->Int)(x1:Nat->Int)(x2:Int)(x3:Nat)(x4:Bool)(x5:Nat->Int)(w0:Bool):Pg U3:=opt QE λd=>ae (Nat.beq x3 x3) (opt (dA ((x2,(x3,w0),Int.ofNat x3,0),x4,x5,(x0,x1),(λx=>0,λx=>0),d,λx=>0)) λd=>opt (tw d.2.2.2.1.1 d.2.2.2.1.2 d.2.2.2.2.2.1 d.2.2.2.2.2.2 d.2.1) λd=>ret d) no
def cQ:=λx0 x1 x2 x3 x4 x5 w0=>(Kj mg jh EL x0 x1 x2 x3 x4 x5 w0).val
abbrev Kk:=Bj×aj7×Ki×EI×(LT fm mL)
def U4 (p:Kk):KK:=⟨[Qq p.1,axG p.2.1,X2 p.b.1,MJ p.b.2.1],⟨[⟨4,(1::3::4::6::7::rg 11 4 (rg 18 24 [])),[]⟩],[fg 4 2 fm abK p.c],[0],[],(some ⟨0,(rg 0 8 (rg 9 33 [])),[]⟩)⟩,2,123⟩
theorem as0 (p:Kk):LI (U4 p) 4 fm abK (EK p.2.1 p.b.1):=λ_ d c K=>by kernel_rfl
theorem aCy (p:Kk):D2 (U4 p) aj8 (lf QD) λb=>Kj p.1 p.b.2.1 p.c b.1.1.1 b.1.1.2 b.1.2.1 b.1.b.1 b.2.1 b.b b.1.b.2:=λb=>by kernel_rfl
abbrev U5:Kk:=(mg,wo,nG,jh,EL)
theorem Dn [ax]:SC (yA cQ):=sc (Sound.nil 3 [.i .i64]<|kS (k:=U4 U5) (.c agt (.c aJY (.c asY (.c abJ (.nil _))))) [4] [] ⟨kL (as0 U5),trivial⟩ trivial (aCy U5))
def as1:=qa (pr (cu aP ada) bB)
def Z9:=qe aAF
abbrev as2:=Z9.B
abbrev as3:=NI->Int->Bool->Option as2
def as4 (g:as3):Ct:=(127,FC as1 (lf Z9) (λb=>g b.1.1 b.1.2 b.2))
def mm:=qs (st (pr (cu aP (us 3 (cu RF (us 1 (cu Cr (c ai (us 4 (cl ai (us 14 nil))))))))) (pl (c ck L4) cB)))
def aj9:=qs (st (pr (cu aP (us 3 (cu RF (us 1 (cu Cr (c ai (us 4 aQI))))))) (pl (c ck L4) cB)))
abbrev yB:=aj9.B
def aka {ρ:Type}:=@ef yB ((.ex 0)) aj9 ρ
def U6 (aB:bN)(aE:bT)(d:mm.B):PL mm yB:=let y0:=Int.toNat d.1.2;let y1:=aX d.1.2 24;let y2:=decide (d.1.2<24);ae y2 (ae y1 (opt (aB (d.2.2.1 y0) d.1.1 30 d.2.1) λaj=>opt (aE aj.1 0 72057594037927936 aj.2) λaF=>ae y1 (ae (true&&Nat.ble (0+y0*1+1) 24) (ret (Sum.inl ((d.1.1,wI (d.1.2+1)),aF.2,λj=>bif Nat.beq j y0 then aF.1 else d.2.2.1 j,d.2.2.2))) no) no) no) (ret (Sum.inr ((d.1.1,d.1.2,y2),d.2)))
def U7:=bD (U6 aV bc) 2000
def aeO (mI:tv)(dA:LT mm yB)(x0:Nat->Int)(x1:Int)(x2:Bool):Pg as2:=opt (mI x1 x2) λd=>opt (dA ((d.1,0),d.2,x0,λx=>0)) λd=>ret (d.2.2.1,d.2.1)
def Kl:=λx0 x1 x2=>(aeO jg U7 x0 x1 x2).val
abbrev SE:=tv×bN×bT×(LT mm yB)
def aeP (p:SE):KK:=⟨[EH p.1,eJ p.2.1,du p.b.1],⟨[⟨3,(1::2::3::5::rg 8 4 (rg 13 14 [])),[]⟩],[fg 3 1 mm aka p.b.2],[],[],(some ⟨0,(rg 0 6 (rg 7 20 [])),[]⟩)⟩,1,127⟩
theorem azj (p:SE):LI (aeP p) 3 mm aka (U6 p.2.1 p.b.1):=λ_ d c K=>by kernel_rfl
theorem aHi (p:SE):D2 (aeP p) as1 (lf Z9) λb=>aeO p.1 p.b.2 b.1.1 b.1.2 b.2:=λb=>by kernel_rfl
abbrev aeQ:SE:=(jg,aV,bc,U7)
theorem aHj [ax]:SC (as4 Kl):=sc (kS (k:=aeP aeQ) (.c MH (.c eZ (.c dO (.nil _)))) [3] [] ⟨kL (azj aeQ),trivial⟩ trivial (aHi aeQ))
def agz:=qa (pr (cu aP (c xX ada)) bB)
def MK:=qe (res (pu (app 1 373) (pr kZ (cl aRI nil))))
abbrev agA:=MK.B
abbrev Hm:=NI->NI->NI->Int->Bool->Option agA
def QF (g:Hm):Ct:=(260,FC agz (lf MK) (λb=>g b.1.1.1 b.1.1.2 b.1.2.1 b.1.b b.2))
def iG:=qs (st (pr (cu aP (us 2 (c ai (us 2 (cu RF (us 2 (cu aEQ (us 9 (cl ai (us 98 nil)))))))))) (pl (c ck (c mx (cl PY nil))) cB)))
def X3:=qs (st (pr (cu aP (us 2 (c ai (us 2 (cu RF (us 2 (cu aEQ (us 9 (c ai (cl ab (us 97 nil))))))))))) (pl (c ck (c mx (cl PY nil))) cB)))
abbrev qU:=X3.B
def X4 {ρ:Type}:=@ef qU ((.ex 0)) X3 ρ
def Km (aw:bI)(d:iG.B):PL iG qU:=let y0:=Int.toNat d.1.2;let y1:=aX d.1.2 24;let y2:=decide (d.1.2<24);ae y2 (ae y1 (opt (aw (d.2.2.1 y0) d.2.1) λaj=>ae y1 (ae (true&&Nat.ble (0+y0*1+1) 24) (ret (Sum.inl ((d.1.1,wI (d.1.2+1)),aj.2,λj=>bif Nat.beq j y0 then aj.1 else d.2.2.1 j,d.2.2.2))) no) no) no) (ret (Sum.inr ((d.1.1,d.1.2,y2),d.2)))
def Kn:=bD (Km aQ) 2000
def iH:=qs (st (dp (cu aP (us 5 (cu RF (us 2 (cu aEQ (us 1 (c ai (c aRp (us 24 (c ai (us 3 (c ai (cl ai (us 75 nil)))))))))))))) λa=>(pl (c ck (c mx (c PY (cl (so (cl (gs a.2.1 mE) nil)) nil)))) cB)))
def as5:=qs (st (pr (cu aP (us 5 (cu RF (us 2 (cu aEQ (us 1 (c ai (c aRp (us 24 (c ai (us 3 (c ai (c ai (cl ab (us 74 nil))))))))))))))) (pl (c ck (c mx (c PY aib))) cB)))
abbrev qV:=((Int×Nat×Int×Int×Int×Bool)×Bool×NI×(NI×NI×NI×NI×NI)×NI)
def X5 {ρ:Type}(x:qV)(K:AX->St->Option ρ):Option ρ:=(λd=>K (.ex 4) (as5.em (d.1,d.2.1,d.b.1,d.b.2.1,d.1.2.1,d.c))) x
def Ko (ajN:Uh)(d:iH.B):PL iH qV:=let n2:=d.2.2.2;let n1:=d.1.2.2;let y0:=d.1.2.1+1;let y1:=decide (n1.2.2<n1.2.1);ae y1 (opt (ajN n2.1.1 n2.1.2.1 n1.2.2 d.1.1) λaj=>ae (Nat.ble (y0*8) 140737488355328) (ret (Sum.inl ((d.1.1,y0,n1.1,n1.2.1,wI (n1.2.2+1)),d.2.1,d.2.2.1,n2.1,λj=>bif Nat.beq j d.1.2.1 then aj else n2.2 j))) no) (ret (Sum.inr ((d.1.1,d.1.2.1,n1.1,n1.2.1,n1.2.2,y1),d.2)))
def Kp:=bD (Ko Df) 2000
def iI:=qs (st (pr (cu aP (us 5 (cu RF (us 2 (cu aEQ (us 27 aQs)))))) (pl (c ck (c mx (cl PY nil))) cB)))
def X6:=qs (st (pr (cu aP (us 5 (cu RF (us 2 (cu aEQ (us 27 (c ai (cl ab (us 79 nil))))))))) (pl (c ck (c mx (cl PY nil))) cB)))
abbrev qW:=X6.B
def X7 {ρ:Type}:=@ef qW ((.ex 2)) X6 ρ
def Kq (bj:eo)(aB:bN)(bW:eK)(Gn:LT iH qV)(d:iI.B):PL iI qW:=let y0:=decide (d.1<24);ae y0 (ae true (opt (Gn ((d.1,0,d.1,wI (d.1+1),0),d.2.1,d.2.2.1,d.2.2.2,λx=>0)) λd=>let n2:=d.2.2;let n1:=n2.2.1.2;let n3:=n1.2.2;let y0:=Int.toNat d.1.1;let y1:=aX d.1.1 24;let y2:=y0*1;let y3:=wI (d.1.1+1);let y4:=Int.toNat y3;let y5:=Nat.ble (0+y2+1) 24;let y6:=Nat.beq y0 y0;ae (Cu y3 24) (ae (Nat.beq y4 y4) (ae (Nat.beq d.1.2.1 d.1.2.1) (opt (bj 30 y4 d.1.2.1 d.2.1 n2.1 n2.2.2 false true) λaj=>let pA:=bif y6 then aj.1 else n1.2.1 y0;ae y1 (ae (y5&&Nat.ble (300+y2+1) 373) (ae y1 (ae y5 (ae y1 (ae y5 (opt (aB (n1.1 y0) pA 30 aj.2) λaF=>ae y1 (ae (y5&&Nat.ble (324+y2+1) 373) (ae (aX d.1.1 25) (ae y1 (ae y5 (ae y1 (ae y5 (opt (aB pA (bif y6 then aF.1 else n3.1 y0) 30 aF.2) λbx=>opt (bW 2 bx.2 (cr (n3.2 y0) [bx.1,n3.2 y0]) true) λcv=>ae (aX y3 25) (ae (true&&Nat.ble (348+y4*1+1) 373) (ret (Sum.inl (wI (d.1.2.2.1+1),cv.2,n2.1,n2.2.1.1,n1.1,λj=>bif Nat.beq j y0 then aj.1 else n1.2.1 j,λj=>bif Nat.beq j y0 then aF.1 else n3.1 j,λj=>bif Nat.beq j y4 then cv.1 else n3.2 j))) no) no) no) no) no) no) no) no) no) no) no) no) no) no) no) no) no) no) no) (ret (Sum.inr ((d.1,y0),d.2)))
def Kr:=bD (Kq br aV cG Kp) 2000
def QG (fk:oW)(aE:bT)(dA:LT iG qU)(oV:LT iI qW)(x0:Nat->Int)(x1:Nat->Int)(x2:Nat->Int)(x3:Int)(x4:Bool):Pg agA:=opt (fk x0 x1 x4) λd=>opt (dA ((x3,0),d.2,x2,d.1.1,d.1.2,λx=>0,λx=>0,λx=>0)) λd=>let n1:=d.2.2.2;opt (aE d.1.1 1 72057594037927936 d.2.1) λaj=>opt (oV (0,aj.2,d.2.2.1,n1.1,n1.2.1,n1.2.2.1,n1.2.2.2.1,λj=>bif Nat.beq j 0 then aj.1 else n1.2.2.2.2 j)) λd=>ret (d.2.1,d.2.2.2)
def rC:=λx0 x1 x2 x3 x4=>(QG fh bc Kn Kr x0 x1 x2 x3 x4).val
abbrev vG:=oW×bI×bT×Uh×eo×bN×eK×(LT iG qU)×(LT iH qV)×(LT iI qW)
def Bm (p:vG):KK:=⟨[yp p.1,cW p.2.1,du p.b.1,asu p.b.2.1,lP p.c.1,eJ p.c.2.1,nm p.c.b.1],⟨[⟨3,(1::2::4::5::7::8::rg 10 9 (rg 20 98 [])),[]⟩,⟨9,(rg 1 5 (7::8::rg 10 27 (rg 38 80 []))),[]⟩,⟨13,(rg 1 5 (7::8::10::rg 13 24 (38::39::40::rg 43 75 []))),[(12,[.i .i64])]⟩],[fg 3 1 iG X4 p.c.b.2.1,fg 13 1 iH X5 p.d.1,fg 9 1 iI X7 p.d.2],[],[],(some ⟨0,(rg 0 8 (rg 9 109 [])),[]⟩)⟩,1,260⟩
theorem aqo (p:vG):LI (Bm p) 3 iG X4 (Km p.2.1):=λ_ d c K=>by kernel_rfl
theorem aqp (p:vG):LI (Bm p) 13 iH X5 (Ko p.b.2.1):=λ_ d c K=>by kernel_rfl
theorem aqq (p:vG):LI (Bm p) 9 iI X7 (Kq p.c.1 p.c.2.1 p.c.b.1 p.d.1):=λ_ d c K=>by kernel_rfl
theorem azk (p:vG):D2 (Bm p) agz (lf MK) λb=>QG p.1 p.b.1 p.c.b.2.1 p.d.2 b.1.1.1 b.1.1.2 b.1.2.1 b.1.b b.2:=λb=>by kernel_rfl
abbrev Bn:vG:=(fh,aQ,bc,Df,br,aV,cG,Kn,Kp,Kr)
theorem agB [ax]:SC (QF rC):=sc (kS (k:=Bm Bn) (.c Ez (.c c7 (.c dO (.c aCe (.c np (.c eZ (.c pE (.nil _)))))))) [3,9,13] [] ⟨kL (aqo Bn),⟨kL (aqq Bn),⟨kL (aqp Bn),trivial⟩⟩⟩ trivial (azk Bn))
def LB:=qa (pr (cu aP (c xX ada)) bB)
def Am:=qe oQ
abbrev LC:=Am.B
abbrev LD:=NI->NI->NI->Int->Bool->Option LC
def LF (g:LD):Ct:=(255,FC LB (lf Am) (λb=>g b.1.1.1 b.1.1.2 b.1.2.1 b.1.b b.2))
def B8 (vH:Hm)(x0:Nat->Int)(x1:Nat->Int)(x2:Nat->Int)(x3:Int)(x4:Bool):Pg LC:=opt (vH x0 x1 x2 x3 x4) λd=>ret (d.2.2.2.2.2 24,d.1)
def oJ:=λx0 x1 x2 x3 x4=>(B8 rC x0 x1 x2 x3 x4).val
theorem ahN:∀vH,D0 [QF vH] 255 LB (lf Am) λb=>B8 vH b.1.1.1 b.1.1.2 b.1.2.1 b.1.b b.2:=λ_ b=>by kernel_rfl
theorem ahO [ax]:SC (LF oJ):=s0 (.c agB (.nil _)) (ahN rC)
def axH:=qa (pl (c ac2 aAC) nil)
def aeR:=qe Fi
abbrev axI:=aeR.B
abbrev axJ:=Int->Int->Int->Int->Option axI
def axK (g:axJ):Ct:=(261,FC axH (lf aeR) (λb=>g b.1.1 b.1.2 b.2.1 b.b))
def akb (x0:Int)(x1:Int)(x2:Int)(x3:Int):Pg axI:=let y0:=x0==x2;ae (y0&&(x1==x3&&true)) (ret 0) (ae (decide (x0<x2)) (ret (-1)) (ae y0 (ae (decide (x1<x3)) (ret (-1)) (ret 1)) (ret 1)))
def OO:=λx0 x1 x2 x3=>(akb x0 x1 x2 x3).val
theorem aJ0:D0 [] 261 axH (lf aeR) λb=>akb b.1.1 b.1.2 b.2.1 b.b:=λb=>by kernel_rfl
theorem aJ1 [ax]:SC (axK OO):=s0 (.nil _) aJ0
def akc:=qa (pl C4 nil)
def QH:=qe B3
abbrev akd:=QH.B
abbrev ake:=Int->Int->Int->Option akd
def akf (g:ake):Ct:=(256,FC akc (lf QH) (λb=>g b.1 b.2.1 b.b))
def U8 (aw:bI)(cE:mF)(X8:axJ)(x0:Int)(x1:Int)(x2:Int):Pg akd:=opt (aw x0 false) λd=>opt (aw x1 d.2) λaj=>ae (decide (x2<1)) (ret false) (ae (decide (x2>1000)) (ret false) (ae (decide (aj.1<1)) (ret false) (opt (cE d.1 d.1) λd=>opt (cE (wI (wI (x2*x2)*65536)) aj.1) λaF=>opt (X8 d.1 d.2 aF.1 aF.2) λd=>ret (decide (d<=0)))))
def Dp:=λx0 x1 x2=>(U8 aQ eQ OO x0 x1 x2).val
theorem aCz:∀aw cE X8,D0 [cW aw,vT cE,axK X8] 256 akc (lf QH) λb=>U8 aw cE X8 b.1 b.2.1 b.b:=λ_ _ _ b=>by kernel_rfl
theorem aCA [ax]:SC (akf Dp):=s0 (.c c7 (.c zh (.c aJ1 (.nil _)))) (aCz aQ eQ OO)
def X9:=qa (pr (cu aP (c xX ada)) bB)
def HS:=qe (res (pr (pw (c aic (c ac6 ars))) (pl kZ nil)))
abbrev X':=HS.B
abbrev Ya:=NI->NI->NI->Int->Bool->Option X'
def Yb (g:Ya):Ct:=(257,FC X9 (lf HS) (λb=>g b.1.1.1 b.1.1.2 b.1.2.1 b.1.b b.2))
def gm:=qs (st (pr (cu aP (us 7 (cu E3 (cu Cr (us 1 (cu aER (cu Ly (cu ang (c ai (c ai (us 13 (c ai (us 52 (c ai (cl ai (us 65 nil)))))))))))))))) (pl (c ck (c hI (c mx (c PY (c hI HD))))) cB)))
def RJ:=qs (st (pr (cu aP (us 7 (cu E3 (cu Cr (us 1 (cu aER (cu Ly (cu ang (c ai (c ai (us 13 (c ai (us 52 (c ai (c ai (cl ab (us 64 nil))))))))))))))))) (pl (c ck (c hI (c mx (c PY (c hI HD))))) cB)))
abbrev nX:=RJ.B
def RK {ρ:Type}:=@ef nX ((.ex 2)) RJ ρ
def Fv (ajN:Uh)(aB:bN)(bW:eK)(aqm:Ui)(d:gm.B):PL gm nX:=let n4:=d.1.1;let n3:=d.1.2;let n2:=d.2.2.2.2;let n1:=n3.2.2;let y0:=Int.toNat n4;let y1:=Int.toNat n1.2;let y2:=aX n1.2 24;let y3:=decide (n1.2<n1.1);ae y3 (opt (ajN n2.1.1 n2.1.2.1 n1.2 n4) λaj=>ae y2 (opt (aB (n2.2.2 y1) n3.1 44 d.2.1) λaF=>opt (bW 2 aF.2 (cr aj [aF.1,aj]) true) λbx=>opt (aqm n2.2.1.1 n2.2.1.2 n1.2 n4 bx.1) λcv=>ae y2 (ae (aX n4 24) (ae (Nat.ble (0+y0*1+1) 24) (opt (aB aj (n2.1.2.2.2.1 y0) 30 bx.2) λdN=>opt (bW 2 dN.2 (cr (n2.2.2 y1) [dN.1,n2.2.2 y1]) true) λcL=>ae y2 (ae (true&&Nat.ble (0+y1*1+1) 24) (ret (Sum.inl ((n4,n3.1,n3.2.1,n1.1,wI (n1.2+1)),cL.2,d.2.2.1,d.2.2.2.1,n2.1,cv,λj=>bif Nat.beq j y1 then cL.1 else n2.2.2 j))) no) no) no) no) no) no) (ret (Sum.inr ((n4,n3.1,n3.2.1,n1.1,n1.2,y3),d.2)))
def Fw:=bD (Fv Df aV cG xc) 2000
def gq:=qs (st (pr (cu aP (us 7 (cu E3 (cu Cr (us 1 (cu aER (cu Ly (cu ang (us 4 (cu (app 6 24) (us 107 aQq))))))))))) (pl (c ck (c hI (c mx (c PY (c hI L4))))) cB)))
def RL:=qs (st (pr (cu aP (us 7 (cu E3 (cu Cr (us 1 (cu aER (cu Ly (cu ang (us 4 (cu (app 6 24) (us 107 (c ai aK1)))))))))))) (pl (c ck (c hI (c mx (c PY (c hI L4))))) cB)))
abbrev nY:=RL.B
def RM {ρ:Type}:=@ef nY ((.ex 4)) RL ρ
def Fx (aD:cz)(d:gq.B):PL gq nY:=let n1:=d.2.2.2.2;let y0:=Int.toNat d.1;let y1:=aX d.1 24;let y2:=decide (d.1<24);ae y2 (ae y1 (opt (aD (n1.2.2.1 y0) (n1.1.2.2.2.2 24) 30 d.2.1) λaj=>ae y1 (ae (true&&Nat.ble (0+y0*1+1) 24) (ret (Sum.inl (wI (d.1+1),aj.2,d.2.2.1,d.2.2.2.1,n1.1,n1.2.1,n1.2.2.1,λj=>bif Nat.beq j y0 then aj.1 else n1.2.2.2 j))) no) no) no) (ret (Sum.inr ((d.1,y2),d.2)))
def Fy:=bD (Fx bp) 2000
def gr:=qs (st (pr (cu aP (us 7 (cu E3 (cu Cr (us 1 (cu aER (cu Ly (cu ang (us 15 (cl ai (us 119 nil))))))))))) (pl (c ck (c hI (c mx (c PY (c hI HD))))) cB)))
def RN:=qs (st (pr (cu aP (us 7 (cu E3 (cu Cr (us 1 (cu aER (cu Ly (cu ang (us 15 (c ai (cl ab (us 118 nil)))))))))))) (pl (c ck (c hI (c mx (c PY (c hI HD))))) cB)))
abbrev nZ:=RN.B
def RO {ρ:Type}:=@ef nZ ((.ex 0)) RN ρ
def Fz (aq:bY)(aE:bT)(aD:cz)(oV:LT gm nX)(d:gr.B):PL gr nZ:=let n1:=d.2.2.2.2;let n2:=n1.1.2.2;let y0:=Int.toNat d.1;let y1:=aX d.1 25;let y2:=aX d.1 24;let y3:=y0*1;let y4:=wI (d.1+1);let y5:=Nat.ble (0+y3+1) 24;let y6:=decide (d.1<24);ae y6 (ae y2 (ae y5 (ae y1 (ae (aX y4 25) (opt (aq (n1.1.2.1 y0) (n2.2.2 y0) (n2.2.2 (Int.toNat y4)) d.2.1) λaj=>opt (aE aj.1 1 72057594037927936 aj.2) λaF=>ae y2 (ae (true&&Nat.ble (276+y3+1) 300) (ae y2 (ae y5 (ae y1 (opt (aD (n2.1 y0) (n2.2.2 y0) 44 aF.2) λbx=>ae y2 (ae y5 (ae y2 (ae (true&&y5) (opt (oV ((d.1,wI (0-bx.1),d.1,d.1,0),bx.2,d.2.2.1,d.2.2.2.1,n1.1,(n1.2.1.1,λj=>bif Nat.beq j y0 then aF.1 else n1.2.1.2 j),λj=>bif Nat.beq j y0 then n2.2.1 y0 else n1.2.2 j)) λd=>ret (Sum.inl (wI (d.1.2.2.1+1),d.2))) no) no) no) no) no) no) no) no) no) no) no) no) no) (ret (Sum.inr ((d.1,y6),d.2)))
def FA:=bD (Fz aU bc bp Fw) 2000
def Ks (vH:Hm)(Gn:LT gq nY)(dA:LT gr nZ)(x0:Nat->Int)(x1:Nat->Int)(x2:Nat->Int)(x3:Int)(x4:Bool):Pg X':=opt (vH x0 x1 x2 x3 x4) λd=>opt (dA (0,d.1,(λx=>0,λx=>0),λx=>0,d.2,(d.2.1,d.2.2.1),λx=>0)) λd=>opt (Gn (0,d.2.1,d.2.2.1,d.2.2.2.1,d.2.2.2.2.1,d.2.2.2.2.2.1,d.2.2.2.2.2.2,λx=>0)) λd=>ret ((d.2.2.2.2.2.1,d.2.2.2.2.2.2.2,d.2.2.2.2.1.2.2.2.2 24),d.2.1)
def wq:=λx0 x1 x2 x3 x4=>(Ks rC Fy FA x0 x1 x2 x3 x4).val
abbrev qX:=Hm×bY×bT×cz×Uh×bN×eK×Ui×(LT gm nX)×(LT gq nY)×(LT gr nZ)
def wu (p:qX):KK:=⟨[QF p.1,cV p.2.1,du p.b.1,fL p.b.2.1,asu p.c.1,eJ p.c.2.1,nm p.c.b.1,aqh p.c.b.2.1],⟨[⟨5,(rg 1 7 (10::rg 14 15 (rg 30 119 []))),[]⟩,⟨11,(rg 1 7 (10::rg 16 13 (rg 30 52 (rg 84 65 [])))),[]⟩,⟨20,(rg 1 7 (10::rg 14 4 (rg 19 107 (rg 127 22 [])))),[]⟩],[fg 11 1 gm RK p.d.1,fg 20 1 gq RM p.d.2.1,fg 5 1 gr RO p.d.b],[],[],(some ⟨0,(rg 0 8 (rg 11 138 [])),[]⟩)⟩,1,257⟩
theorem akg (p:qX):LI (wu p) 11 gm RK (Fv p.c.1 p.c.2.1 p.c.b.1 p.c.b.2.1):=λ_ d c K=>by kernel_rfl
theorem akh (p:qX):LI (wu p) 20 gq RM (Fx p.b.2.1):=λ_ d c K=>by kernel_rfl
theorem aki (p:qX):LI (wu p) 5 gr RO (Fz p.2.1 p.b.1 p.b.2.1 p.d.1):=λ_ d c K=>by kernel_rfl
theorem as6 (p:qX):D2 (wu p) X9 (lf HS) λb=>Ks p.1 p.d.2.1 p.d.b b.1.1.1 b.1.1.2 b.1.2.1 b.1.b b.2:=λb=>by kernel_rfl
abbrev wx:qX:=(rC,aU,bc,bp,Df,aV,cG,xc,Fw,Fy,FA)
theorem as7 [ax]:SC (Yb wq):=sc (kS (k:=wu wx) (.c agB (.c c9 (.c dO (.c gC (.c aCe (.c eZ (.c pE (.c aCh (.nil _))))))))) [5,11,20] [] ⟨kL (aki wx),⟨kL (akg wx),⟨kL (akh wx),trivial⟩⟩⟩ trivial (as6 wx))
def agC:=qa (pr (cu aP ada) bB)
def ML:=qe aAF
abbrev agD:=ML.B
abbrev agE:=NI->Int->Bool->Option agD
def agF (g:agE):Ct:=(259,FC agC (lf ML) (λb=>g b.1.1 b.1.2 b.2))
def iJ:=qs (st (pr (cu aP (us 1 (c ai (us 1 (cu RF (us 1 (cu Cr (us 1 aQt)))))))) (pl (c ck L4) cB)))
def Yc:=qs (st (pr (cu aP (us 1 (c ai (us 1 (cu RF (us 1 (cu Cr (us 1 aQJ)))))))) (pl (c ck L4) cB)))
abbrev qY:=Yc.B
def Yd {ρ:Type}:=@ef qY ((.ex 0)) Yc ρ
def Kt (aB:bN)(d:iJ.B):PL iJ qY:=let y0:=Int.toNat d.1.2;let y1:=aX d.1.2 24;let y2:=decide (d.1.2<24);ae y2 (ae y1 (opt (aB (d.2.2.1 y0) d.1.1 30 d.2.1) λaj=>ae y1 (ae (true&&Nat.ble (0+y0*1+1) 24) (ret (Sum.inl ((d.1.1,wI (d.1.2+1)),aj.2,λj=>bif Nat.beq j y0 then aj.1 else d.2.2.1 j,d.2.2.2))) no) no) no) (ret (Sum.inr ((d.1.1,d.1.2,y2),d.2)))
def Ku:=bD (Kt aV) 2000
def QI (dA:LT iJ qY)(x0:Nat->Int)(x1:Int)(x2:Bool):Pg agD:=opt (dA ((x1,0),x2,x0,λx=>0)) λd=>ret (d.2.2.1,d.2.1)
def Bo:=λx0 x1 x2=>(QI Ku x0 x1 x2).val
abbrev Hn:=bN×(LT iJ qY)
def QJ (p:Hn):KK:=⟨[eJ p.1],⟨[⟨2,(1::3::5::7::rg 9 12 []),[]⟩],[fg 2 1 iJ Yd p.2],[0],[],(some ⟨0,(rg 0 6 (rg 7 14 [])),[]⟩)⟩,1,259⟩
theorem aqr (p:Hn):LI (QJ p) 2 iJ Yd (Kt p.1):=λ_ d c K=>by kernel_rfl
theorem azl (p:Hn):D2 (QJ p) agC (lf ML) λb=>QI p.2 b.1.1 b.1.2 b.2:=λb=>by kernel_rfl
abbrev QK:Hn:=(aV,Ku)
theorem azm [ax]:SC (agF Bo):=sc (kS (k:=QJ QK) (.c eZ (.nil _)) [2] [] ⟨kL (aqr QK),trivial⟩ trivial (azl QK))
def Kv:=qa (dp (cu aP (c jS (cl aIy nil))) λa=>(c uN (cl (cl (gs a.2.1 aAO) nil) nil)))
def Z':=qe (res (pr jS (pl L0 nil)))
abbrev as8:=Z'.B
abbrev as9:=Kv.B->Option as8
def ata (g:as9):Ct:=(258,sQ 2 [.i .i64,.i .i64,.i .i64,.i .i64,.i .i64,.i .i64,.i .i64,.i .i64,.i .i64,.i .i64,.i .i64,.i .i64,.i .i64,.i .i64,.i .i64,.i .i64,.i .i64,.i .i64,.i .i64,.i .i64,.i .i64,.i .i64,.i .i64,.i .i64] (FC Kv (lf Z') g))
def mn:=qs (st (dp (cu aP (us 3 (cu Cr (us 1 (cu afW (us 1 (cu ane (us 7 (c aIy (c ai (c ai (us 3 aFY)))))))))))) λa=>(pl (c ck (c (so (cl (gs a.1.1 aAO) nil)) aGm)) cB)))
def aCB:=qs (st (pr (cu aP (us 3 (cu Cr (us 1 (cu afW (us 1 (cu ane (us 7 (c aIy (c ai (c ai (us 3 aF5)))))))))))) (pl (c ck (c aR2 aGm)) cB)))
abbrev yC:=(((Nat×Bool)×Int×Int×Int×Bool)×Bool×aUZ×NI×NI×NI)
def akj {ρ:Type}(x:yC)(K:AX->St->Option ρ):Option ρ:=(λd=>K (.ex 2) (aCB.em (d.1,d.2.1,(d.1.1.1,d.b.1),d.b.2))) x
def U9 (bW:eK)(d:mn.B):PL mn yC:=let n2:=d.2.2.2;let n1:=d.1.2.2;let y0:=Int.toNat n1.2;let y1:=aX n1.2 24;let y2:=decide (n1.2<24);ae y2 (ae y1 (ae y1 (opt (bW 2 d.2.1 (cr (n2.1 y0) [n2.2.2 y0,n2.1 y0]) true) λaj=>ae y1 (ae (true&&Nat.ble (0+y0*1+1) 24) (ret (Sum.inl ((d.1.1,d.1.2.1,n1.1,wI (n1.2+1)),aj.2,d.2.2.1,λj=>bif Nat.beq j y0 then aj.1 else n2.1 j,n2.2))) no) no) no) no) (ret (Sum.inr ((d.1.1,d.1.2.1,n1.1,n1.2,y2),d.2)))
def U':=bD (U9 cG) 2000
def mo:=qs (st (dp (cu aP (us 3 (cu Cr (us 1 (cu afW (us 9 (c aIy (c ai (cl ai (us 28 nil)))))))))) λa=>(pl (c ck (c (so (cl (gs a.1.1 aAO) nil)) L4)) cB)))
def aCC:=qs (st (pr (cu aP (us 3 (cu Cr (us 1 (cu afW (us 9 (c aIy (c ai (c ai (cl ab aQg)))))))))) (pl (c ck (c aR2 L4)) cB)))
abbrev yD:=(aIj×Bool×aUZ×NI×NI)
def akk {ρ:Type}(x:yD)(K:AX->St->Option ρ):Option ρ:=(λd=>K (.ex 0) (aCC.em (d.1,d.2.1,(d.1.1.1,d.b.1),d.b.2))) x
def Va (bh:dz)(bq:gQ)(vF:Hl)(tO:Kc)(oV:LT mn yC)(d:mo.B):PL mo yD:=let n9:=d.1.1;let n5:=d.1.2;let n4:=d.2.2.1;let n2:=n4.2.2.2;let n6:=n2.2.2.2;let n1:=n6.2.2.2.2;let n8:=n1.2.2.2;let n3:=n8.2.2.2;let n7:=n3.2.2.2;let y0:=Int.toNat n5.2;let y1:=decide (n5.2<n5.1);ae y1 (ae (aX n5.2 n9.1) (ae (Nat.beq n9.1 n9.1) (opt (oV ((n9,n5.1,n5.2,0),d.2.1,n4,d.2.2.2.1,d.2.2.2.2,cr (n4.1 y0) [n7.2.2.2.2 y0,n7.2.2.2.1 y0,n7.2.2.1 y0,n7.2.1 y0,n7.1 y0,n3.2.2.1 y0,n3.2.1 y0,n3.1 y0,n8.2.2.1 y0,n8.2.1 y0,n8.1 y0,n1.2.2.1 y0,n1.2.1 y0,n1.1 y0,n6.2.2.2.1 y0,n6.2.2.1 y0,n6.2.1 y0,n6.1 y0,n2.2.2.1 y0,n2.2.1 y0,n2.1 y0,n4.2.2.1 y0,n4.2.1 y0,n4.1 y0])) λd=>opt (bh d.2.2.2.1) λaj=>opt (bq aj.1 aj.2.1 aj.2.2.1 aj.2.2.2 d.2.1) λaF=>opt (vF d.2.2.2.1 aF.1.1 aF.1.2.1 aF.1.2.2.1 aF.1.2.2.2) λbx=>opt (tO bx aF.2) λcv=>ret (Sum.inl ((d.1.1,d.1.2.1,wI (d.1.2.2.1+1)),cv.2,d.2.2.1,cv.1,d.2.2.2.2.1))) no) no) (ret (Sum.inr ((n9,n5.1,n5.2,y1),d.2)))
def Vb:=bD (Va bZ cX rA tN U') 2000
def aeS (aN:eL)(dA:LT mo yD)(x:Kv.B):Pg as8:=let y0:=Int.ofNat x.1.2.1;ae (y0==0) (opt (aN x.1.1 x.2.1) λd=>ret d) (ae (Nat.beq x.1.2.1 x.1.2.1) (opt (dA ((x.1.2,y0,0),x.2.1,x.2.2,x.1.1,λx=>0)) λd=>ret (d.2.2.2.1,d.2.1)) no)
def Kw:=λx=>(aeS bX Vb x).val
abbrev Kx:=eL×eK×dz×gQ×Hl×Kc×(LT mn yC)×(LT mo yD)
def SF (p:Kx):KK:=⟨[ir p.1,nm p.2.1,iF p.b.1,mi p.b.2.1,Qv p.c.1,UH p.c.2.1],⟨[⟨4,(1::2::3::5::rg 7 9 (rg 19 28 [])),[]⟩,⟨7,(1::2::3::5::7::rg 9 7 (19::20::21::rg 23 24 [])),[]⟩],[fg 7 2 mn akj p.c.b.1,fg 4 2 mo akk p.c.b.2],[0],[],(some ⟨0,(rg 0 6 (rg 7 40 [])),[]⟩)⟩,2,258⟩
theorem azn (p:Kx):LI (SF p) 7 mn akj (U9 p.2.1):=λ_ d c K=>by kernel_rfl
theorem azo (p:Kx):LI (SF p) 4 mo akk (Va p.b.1 p.b.2.1 p.c.1 p.c.2.1 p.c.b.1):=λ_ d c K=>by kernel_rfl
theorem aHk (p:Kx):D2 (SF p) Kv (lf Z') λb=>aeS p.1 p.c.b.2 b:=λb=>by kernel_rfl
abbrev SG:Kx:=(bX,cG,bZ,cX,rA,tN,U',Vb)
theorem aHl [ax]:SC (ata Kw):=sc (Sound.nil 2 [.i .i64,.i .i64,.i .i64,.i .i64,.i .i64,.i .i64,.i .i64,.i .i64,.i .i64,.i .i64,.i .i64,.i .i64,.i .i64,.i .i64,.i .i64,.i .i64,.i .i64,.i .i64,.i .i64,.i .i64,.i .i64,.i .i64,.i .i64,.i .i64]<|kS (k:=SF SG) (.c jf (.c pE (.c jx (.c nE (.c agw (.c ajY (.nil _))))))) [4,7] [] ⟨kL (azo SG),⟨kL (azn SG),trivial⟩⟩ trivial (aHk SG))
def axL:=qa (pr (cu aP (c jS (c xX aRh))) bB)
def aeT:=qe (res (pr (pw (c ac6 (c aic (cl (ra aF4) nil)))) (pl kZ nil)))
abbrev axM:=aeT.B
abbrev akl:=NI->NI->NI->NI->Int->Int->Int->Bool->Option axM
def axN (g:akl):Ct:=(251,FC axL (lf aeT) (λb=>g b.1.1 b.1.2.1.1 b.1.2.1.2 b.1.b.1 b.1.b.2.1 b.1.c.1 b.1.c.2 b.2))
def akm (aN:eL)(fk:oW)(aw:bI)(uG:LD)(Ky:ake)(CD:Ya)(Ho:agE)(SH:as9)(x0:Nat->Int)(x1:Nat->Int)(x2:Nat->Int)(x3:Nat->Int)(x4:Int)(x5:Int)(x6:Int)(x7:Bool):Pg axM:=opt (aN x0 x7) λd=>opt (fk x1 x2 d.2) λaj=>opt (aw x4 aj.2) λaF=>opt (uG aj.1.1 aj.1.2 x3 x5 aF.2) λbx=>opt (Ky aF.1 bx.1 x6) λcv=>ae (!cv) (ret ((d.1,aj.1,false,aF.1,bx.1),bx.2)) (opt (CD aj.1.1 aj.1.2 x3 x5 bx.2) λdN=>opt (Ho dN.1.2.1 aF.1 dN.2) λcL=>opt (SH ((d.1,1,true),cL.2,λj=>bif Nat.beq j 0 then cL.1 0 else cL.1 0,λj=>bif Nat.beq j 0 then cL.1 1 else cL.1 1,λj=>bif Nat.beq j 0 then cL.1 2 else cL.1 2,λj=>bif Nat.beq j 0 then cL.1 3 else cL.1 3,λj=>bif Nat.beq j 0 then cL.1 4 else cL.1 4,λj=>bif Nat.beq j 0 then cL.1 5 else cL.1 5,λj=>bif Nat.beq j 0 then cL.1 6 else cL.1 6,λj=>bif Nat.beq j 0 then cL.1 7 else cL.1 7,λj=>bif Nat.beq j 0 then cL.1 8 else cL.1 8,λj=>bif Nat.beq j 0 then cL.1 9 else cL.1 9,λj=>bif Nat.beq j 0 then cL.1 10 else cL.1 10,λj=>bif Nat.beq j 0 then cL.1 11 else cL.1 11,λj=>bif Nat.beq j 0 then cL.1 12 else cL.1 12,λj=>bif Nat.beq j 0 then cL.1 13 else cL.1 13,λj=>bif Nat.beq j 0 then cL.1 14 else cL.1 14,λj=>bif Nat.beq j 0 then cL.1 15 else cL.1 15,λj=>bif Nat.beq j 0 then cL.1 16 else cL.1 16,λj=>bif Nat.beq j 0 then cL.1 17 else cL.1 17,λj=>bif Nat.beq j 0 then cL.1 18 else cL.1 18,λj=>bif Nat.beq j 0 then cL.1 19 else cL.1 19,λj=>bif Nat.beq j 0 then cL.1 20 else cL.1 20,λj=>bif Nat.beq j 0 then cL.1 21 else cL.1 21,λj=>bif Nat.beq j 0 then cL.1 22 else cL.1 22,λj=>bif Nat.beq j 0 then cL.1 23 else cL.1 23)) λd=>ret ((d.1,dN.1.1,true,aF.1,bx.1),d.2))
def OP:=λx0 x1 x2 x3 x4 x5 x6 x7=>(akm bX fh aQ oJ Dp wq Bo Kw x0 x1 x2 x3 x4 x5 x6 x7).val
theorem aJ2:∀aN fk aw uG Ky CD Ho SH,D0 [ir aN,yp fk,cW aw,LF uG,akf Ky,Yb CD,agF Ho,ata SH] 251 axL (lf aeT) λb=>akm aN fk aw uG Ky CD Ho SH b.1.1 b.1.2.1.1 b.1.2.1.2 b.1.b.1 b.1.b.2.1 b.1.c.1 b.1.c.2 b.2:=λ_ _ _ _ _ _ _ _ b=>by kernel_rfl
theorem aJ3 [ax]:SC (axN OP):=s0 (.c jf (.c Ez (.c c7 (.c ahO (.c aCA (.c as7 (.c azm (.c aHl (.nil _))))))))) (aJ2 bX fh aQ oJ Dp wq Bo Kw)
end Go.Proofs.YtcmfbkneahoonaaGreat
