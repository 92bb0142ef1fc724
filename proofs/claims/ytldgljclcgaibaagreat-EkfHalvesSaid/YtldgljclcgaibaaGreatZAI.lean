/-
  Parts of the proof: Q3 TF TG TH
-/
import Derived.Test.YtldgljclcgaibaaGreatZAE
import Derived.Test.YtldgljclcgaibaaGreatZAG
import Derived.Test.YtldgljclcgaibaaGreatZAH
set_option linter.unusedVariables false
set_option linter.unusedSimpArgs false
set_option maxRecDepth 100000
set_option maxHeartbeats 4000000
noncomputable section
namespace Go.Proofs.YtldgljclcgaibaaGreat
open Go.Ab Go.Ab.Pg Go.Ab.Rq
def OL:=qa (dp (cu aN (c jW (c xF (cl aML nil)))) λa=>(c ux (cl (cl (gs a.b.1 aFQ) nil) nil)))
def aGT:=qe (res (pr (o9 (c acW (c ahW (cl (rc (je (pu rq4 (pu xE (pl kZ (pu rq7 ju)))))) nil)))) (pr LM (cl aKK nil))))
abbrev Ye:=((NI×(NI×NI)×Nat)×Bool×(Nat->Bool)×NI×NI)
def axr:Ye->T:=λd=>lf aGT (d.1,d.2.1,d.1.b,d.b)
abbrev axs:=OL.B->Option Ye
def axt (g:axs):Ct:=(254,sE 3 [.i .i64,.i .i64,.i .i64,.i .i64,.i .i64,.i .i64,.i .i64,.i .i64,.i .i64,.i .i64,.i .i64,.i .i64,.i .i64,.i .i64,.i .i64,.i .i64,.i .i64,.i .i64,.i .i64,.i .i64,.i .i64,.i .i64,.i .i64,.i .i64,.i .i64,.i .i64,.i .i64] (FC OL axr g))
def nA:=qs (st (dp (cu aN (us 4 (cu BZ (cu aD9 (us 1 (cu amR (cu (app 5 300) (us 1 (c aQt (us 3 (c aML aKs))))))))))) λa=>(pl (c ch (c (so (cl (gs a.2.1.1 aFQ) nil)) (c mw (c hX (c mw (c hX (cl (so (cl (gs a.1 apj) nil)) nil))))))) cy)))
def aDq:=qs (st (pr (cu aN (us 4 (cu BZ (cu aD9 (us 1 (cu amR (cu (app 5 300) (us 1 (c aQt (us 3 (c aML aKy))))))))))) (pl (c ch (c (so (cl (ga (pr kZ aFQ)) nil)) (c mw (c hX (c mw (c hX aQo)))))) cy)))
abbrev Bv:=((Nat×(Nat×Bool)×Int×Int×Bool)×Bool×(NI×NI×NI×NI×NI×NI×NI×NI×NI×NI×NI×NI×NI×NI×NI×NI×NI×NI×NI×NI×NI×NI×NI×NI×NI×NI×NI)×NI×(NI×NI)×NI×(NI×NI)×(Nat->Bool)×NI×NI)
def aoc {ρ:Type}(x:Bv)(K:AX->St->Option ρ):Option ρ:=(λd=>K (.ex 0) (aDq.em (d.1,d.2.1,(d.1.2.1.1,d.b.1),d.b.2.1,d.c.1,d.c.2.1,d.c.b.1,d.1.1,d.c.b.2))) x
def Z2 (aJu:aj3)(d:nA.B):PL nA Bv:=let bc:=d.1.1;let n5:=d.1.2.2;let n4:=d.2.2;let n7:=n4.2.2;let n3:=n4.1.2.2.2.2;let n8:=n3.2.2.2;let n1:=n8.2.2.2.2;let n9:=n1.2.2.2;let n2:=n9.2.2.2.2;let n6:=n2.2.2.2.2;let y0:=Int.toNat n5.2;let y1:=bc+1;let y2:=decide (n5.2<n5.1);ae y2 (ae (aW n5.2 d.1.2.1.1) (opt (aJu n4.2.1 n7.1.1 n7.1.2 (cr (n4.1.1 y0) [n6.2.1 y0,n6.1 y0,n2.2.2.2.1 y0,n2.2.2.1 y0,n2.2.1 y0,n2.1 y0,n9.2.2.2.1 y0,n9.2.2.1 y0,n9.2.1 y0,n9.1 y0,n1.2.2.1 y0,n1.2.1 y0,n1.1 y0,n8.2.2.2.1 y0,n8.2.2.1 y0,n8.2.1 y0,n8.1 y0,n3.2.2.1 y0,n3.2.1 y0,n3.1 y0,n4.1.2.2.2.1 y0,n4.1.2.2.1 y0,n4.1.2.1 y0,n4.1.1 y0]) (n6.2.2.1 y0) (n6.2.2.2.1 y0) (n6.2.2.2.2 y0) d.2.1) λaj=>ae (Nat.ble (y1*24) 140737488355328) (ret (Sum.inl ((y1,d.1.2.1,n5.1,wI (n5.2+1)),aj.2,n4.1,aj.1.1,aj.1.2.1,n7.2.1,n7.2.2.1,λj=>bif Nat.beq j bc then aj.1.2.2.1 else n7.2.2.2.1 j,λj=>bif Nat.beq j bc then aj.1.2.2.2.1 else n7.2.2.2.2.1 j,λj=>bif Nat.beq j bc then aj.1.2.2.2.2 else n7.2.2.2.2.2 j))) no) no) (ret (Sum.inr ((bc,d.1.2.1,n5.1,n5.2,y2),d.2)))
def Z3:=bA (Z2 OJ) 2000
def akc (dI:LT nA Bv)(x:OL.B):Pg Ye:=ae (Nat.beq x.1.2.2.1 x.1.2.2.1) (ae true (opt (dI ((0,x.1.2.2,Int.ofNat x.1.2.2.1,0),x.2.1,x.2.2,x.1.1,x.1.2.1,λx=>0,(λx=>0,λx=>0),λx=>false,λx=>0,λx=>0)) λd=>ret ((d.2.2.2.1,d.2.2.2.2.1,d.1.1),d.2.1,d.2.2.2.2.2.2.2)) no) no
def OM:=λx=>(akc Z3 x).val
abbrev Yf:=aj3×(LT nA Bv)
def akd (p:Yf):KK:=⟨[axp p.1],⟨[⟨3,(rg 1 4 (7::10::12::13::14::rg 18 20 [])),[(11,[.b,.i .i64,.i .i64])]⟩],[fH 3 2 nA aoc p.2],[0],[],(some ⟨0,(rg 0 8 (rg 11 27 [])),[]⟩)⟩,2,254⟩
theorem aB3 (p:Yf):LI (akd p) 3 nA aoc (Z2 p.1):=λ_ d c K=>by kernel_rfl
theorem aJv (p:Yf):D2 (akd p) OL axr λb=>akc p.2 b:=λb=>by kernel_rfl
abbrev ake:Yf:=(OJ,Z3)
theorem aJw [ax]:SC (axt OM):=sc (Sound.nil 3 [.i .i64,.i .i64,.i .i64,.i .i64,.i .i64,.i .i64,.i .i64,.i .i64,.i .i64,.i .i64,.i .i64,.i .i64,.i .i64,.i .i64,.i .i64,.i .i64,.i .i64,.i .i64,.i .i64,.i .i64,.i .i64,.i .i64,.i .i64,.i .i64,.i .i64,.i .i64,.i .i64]<|kS (k:=akd ake) (.c aJn (.nil _)) [3] [] ⟨kL (aB3 ake),trivial⟩ trivial (aJv ake))
def aod:=qa (dp (cl aPl nil) λa=>(cl (cl (gs a.1 apj) nil) nil))
def U9:=qe aQl
abbrev aoe:=U9.B
abbrev Z4:=Nat->(Nat->Bool)->NI->NI->Bool->Option aoe
def Z5 (g:Z4):Ct:=(255,sE 0 [.b,.i .i64,.i .i64] (FC aod (lf U9) (λb=>g b.1.1 b.2.1 b.b.1 b.b.2 b.1.2)))
def kP:=qs (st (dp (us 2 (c ai (c ai (us 2 (c aPl (c ai aPz)))))) λa=>(pl (cl (so (cl (gs a.b.1.1 apj) nil)) nil) nil)))
def ay4:=qs (st (pr (us 2 (c ai (c ai (us 2 (c aPl (c ai aPN)))))) (pl aQo nil)))
abbrev vr:=((Int×Int×(Nat×Bool)×Int×Int×Bool)×(Nat->Bool)×NI×NI)
def agq {ρ:Type}(x:vr)(K:AX->St->Option ρ):Option ρ:=(λd=>K (.ex 0) (ay4.em (d.1,d.1.b.1.1,d.2))) x
def QL (d:kP.B):PL kP vr:=let n1:=d.1.2.2;let n2:=n1.2.2;let y0:=decide (n2<n1.2.1);ae y0 (ae (aW n2 n1.1.1) (ae (d.2.1 (Int.toNat n2)) (ret (Sum.inl ((wI (d.1.1+1),d.1.2.1,n1.1,n1.2.1,wI (n2+1)),d.2))) (ret (Sum.inl ((d.1.1,wI (d.1.2.1+1),n1.1,n1.2.1,wI (n2+1)),d.2)))) no) (ret (Sum.inr ((d.1.1,d.1.2.1,n1.1,n1.2.1,n2,y0),d.2)))
def QM:=bA (QL) 2000
def Z6 (dI:LT kP vr)(x0:Nat)(x1:Nat->Bool)(x2:Nat->Int)(x3:Nat->Int)(w0:Bool):Pg aoe:=ae (Nat.beq x0 x0) (opt (dI ((0,0,(x0,w0),Int.ofNat x0,0),x1,x2,x3)) λd=>ret (d.1.1,d.1.2.1)) no
def wG:=λx0 x1 x2 x3 w0=>(Z6 QM x0 x1 x2 x3 w0).val
abbrev NW:=(LT kP vr)
def Z7 (p:NW):KK:=⟨[],⟨[⟨2,(0::1::4::5::rg 9 12 []),[]⟩],[fH 2 1 kP agq p],[],[],(some ⟨0,(0::1::rg 4 17 []),[]⟩)⟩,1,255⟩
theorem avj (p:NW):LI (Z7 p) 2 kP agq (QL):=λ_ d c K=>by kernel_rfl
theorem aDr (p:NW):D2 (Z7 p) aod (lf U9) λb=>Z6 p b.1.1 b.2.1 b.b.1 b.b.2 b.1.2:=λb=>by kernel_rfl
abbrev Z8:NW:=QM
theorem aof [ax]:SC (Z5 wG):=sc (Sound.nil 0 [.b,.i .i64,.i .i64]<|kS (k:=Z7 Z8) (.nil _) [2] [] ⟨kL (avj Z8),trivial⟩ trivial (aDr Z8))
def abF:=qa (pu nil nil)
def Ks:=qe (res (pu (aa (cu at9 (cu aQ aFR))) (pu nil nil)))
abbrev Mz:=Ks.B
abbrev kQ:=Option Mz
def oQ (g:kQ):Ct:=(48,FC abF (lf Ks) (λ_=>g))
def MA (gL:yP):Pg Mz:=opt gL λd=>ret ()
def dJ:Option Mz:=(MA mE).val
theorem avk:∀gL,D0 [ID gL] 48 abF (lf Ks) λb=>MA gL:=λ_ b=>by kernel_rfl
theorem ti [ax]:SC (oQ dJ):=s0 (.c OD (.nil _)) (avk mE)
def aog:=qa (dp (cu aN (cl aPm nil)) λa=>(c ux (cl (cl (gs a.1 jP) nil) nil)))
def U':=qe (res (pr (aa aKT) (pl LM nil)))
abbrev aoh:=U'.B
abbrev Z9:=Nat->Bool->NI->NI->NI->NI->NI->NI->NI->NI->NI->NI->Bool->Option aoh
def aoi (g:Z9):Ct:=(113,sE 1 [.i .i64,.i .i64,.i .i64,.i .i64,.i .i64,.i .i64,.i .i64,.i .i64,.i .i64,.i .i64] (FC aog (lf U') (λb=>g b.1.1 b.2.1 b.b.1 b.b.2.1 b.c.1 b.c.2.1 b.c.b.1 b.c.b.2.1 b.d.1 b.d.2.1 b.d.b.1 b.d.b.2 b.1.2)))
def kR:=qs (st (dp (cu aN (us 3 (cu (app 2 10) (cu (app 3 10) (c aQu (c aQv (us 3 (c aPm (c ai aPA))))))))) λa=>(pl (c ch (c (so (cl (gs a.b.1.1 jP) nil)) (cu aRf (c aQ9 (c (so (cl (gs a.1 api) nil)) (cl az4 nil)))))) cy)))
def ay5:=qs (st (pr (cu aN (us 3 (cu (app 2 10) (cu (app 3 10) (c aQu (c aQv (us 3 (c aPm (c ai aPO))))))))) (pl (c ch (c pL (cu aRf (c aQ9 (c az4 (cl az4 nil)))))) cy)))
abbrev vt:=((Nat×Nat×(Nat×Bool)×Int×Int×Bool)×Bool×aMA×aD6×(NI×NI×NI)×Nat×NI×NI×NI)
def agr {ρ:Type}(x:vt)(K:AX->St->Option ρ):Option ρ:=(λd=>K (.ex 0) (ay5.em (d.1,d.2.1,(d.1.b.1.1,d.b.1),d.b.2.1,(d.1.1,d.c.1),d.c.2))) x
def QN (eo:vM)(bm:gR)(d:kR.B):PL kR vt:=let n6:=d.1.1;let n2:=d.1.2;let n4:=n2.2.2;let n1:=d.2.2;let n5:=n1.2.2;let n3:=n1.1.2.2.2.2;let y0:=n6+1;let y1:=Int.toNat n4.2;let y2:=n2.1+1;let y3:=decide (n4.2<n4.1);ae y3 (ae (aW n4.2 n2.2.1.1) (opt (eo (n1.1.1 y1) (n1.1.2.1 y1) (n1.1.2.2.1 y1) (n1.1.2.2.2.1 y1) n1.2.1.1 n1.2.1.2.1 n1.2.1.2.2.1 n1.2.1.2.2.2 d.2.1) λaj=>opt (bm aj.1.1 aj.1.2.1 aj.1.2.2.1 aj.1.2.2.2 aj.2) λaI=>ae (Nat.ble (y0*24) 140737488355328) (ae (Nat.ble (y2*24) 140737488355328) (ret (Sum.inl ((y0,y2,n2.2.1,n4.1,wI (n4.2+1)),aI.2,n1.1,aI.1,(λj=>bif Nat.beq j n6 then n3.1 y1 else n5.1.1 j,λj=>bif Nat.beq j n6 then n3.2.1 y1 else n5.1.2.1 j,λj=>bif Nat.beq j n6 then n3.2.2.1 y1 else n5.1.2.2 j),y2,λj=>bif Nat.beq j n2.1 then n3.2.2.2.1 y1 else n5.2.2.1 j,λj=>bif Nat.beq j n2.1 then n3.2.2.2.2.1 y1 else n5.2.2.2.1 j,λj=>bif Nat.beq j n2.1 then n3.2.2.2.2.2 y1 else n5.2.2.2.2 j))) no) no) no) (ret (Sum.inr ((n6,n2.1,n2.2.1,n4.1,n4.2,y3),d.2)))
def QO:=bA (QN ke cV) 2000
def Z' (bQ:kQ)(dq:zz)(dI:LT kR vt)(x0:Nat)(x1:Bool)(x2:Nat->Int)(x3:Nat->Int)(x4:Nat->Int)(x5:Nat->Int)(x6:Nat->Int)(x7:Nat->Int)(x8:Nat->Int)(x9:Nat->Int)(fS:Nat->Int)(fT:Nat->Int)(w0:Bool):Pg aoh:=opt bQ λd=>ae (Nat.beq x0 x0) (ae true (opt (dI ((0,0,(x0,w0),Int.ofNat x0,0),x1,(x2,x3,x4,x5,x6,x7,x8,x9,fS,fT),(1073741824,0,0,0),(λx=>0,λx=>0,λx=>0),0,λx=>0,λx=>0,λx=>0)) λd=>let n1:=d.2.2.2;ae (Nat.beq d.1.1 d.1.1) (opt (dq d.1.1 d.2.1 n1.2.1.1 n1.2.1.2.1 n1.2.1.2.2 true) λaj=>ae (Nat.beq d.1.2.1 d.1.2.1) (opt (dq d.1.2.1 aj.2 n1.2.2.2.1 n1.2.2.2.2.1 n1.2.2.2.2.2 true) λaI=>ret ((n1.1.1,n1.1.2.1,n1.1.2.2.1,n1.1.2.2.2,aj.1.1,aj.1.2.1,aj.1.2.2,aI.1),aI.2)) no) no) no) no
def Gf:=λx0 x1 x2 x3 x4 x5 x6 x7 x8 x9 fS fT w0=>(Z' dJ jq QO x0 x1 x2 x3 x4 x5 x6 x7 x8 x9 fS fT w0).val
abbrev NX:=kQ×vM×gR×zz×(LT kR vt)
def aaa (p:NX):KK:=⟨[oQ p.1,CU p.2.1,mh p.b.1,HE p.b.2.1],⟨[⟨4,(1::2::3::8::9::10::rg 14 32 []),[(6,[.i .i64,.i .i64,.i .i64]),(7,[.i .i64,.i .i64,.i .i64])]⟩],[fH 4 2 kR agr p.c],[0],[],(some ⟨0,(rg 0 4 (rg 5 41 [])),[]⟩)⟩,2,113⟩
theorem avl (p:NX):LI (aaa p) 4 kR agr (QN p.2.1 p.b.1):=λ_ d c K=>by kernel_rfl
theorem aDs (p:NX):D2 (aaa p) aog (lf U') λb=>Z' p.1 p.b.2.1 p.c b.1.1 b.2.1 b.b.1 b.b.2.1 b.c.1 b.c.2.1 b.c.b.1 b.c.b.2.1 b.d.1 b.d.2.1 b.d.b.1 b.d.b.2 b.1.2:=λb=>by kernel_rfl
abbrev aab:NX:=(dJ,ke,cV,jq,QO)
theorem aDt [ax]:SC (aoi Gf):=sc (Sound.nil 1 [.i .i64,.i .i64,.i .i64,.i .i64,.i .i64,.i .i64,.i .i64,.i .i64,.i .i64,.i .i64]<|kS (k:=aaa aab) (.c ti (.c IE (.c nu (.c Ml (.nil _))))) [4] [] ⟨kL (avl aab),trivial⟩ trivial (aDs aab))
def asW:=qa (pr (cu aN (c jW (c xF FZ))) cq)
def aac:=qe (res (pr (o9 (c acW (c ahW (cl (ra (c gi (c gi (c gi (cl gi (cu aQ (cu aQ (cu aQ (cu aQ (cu aQ (cu aQ (cu (gc at5) nil)))))))))))) nil)))) (pl k9 nil)))
abbrev asX:=aac.B
abbrev asY:=NI->NI->NI->Int->Int->Bool->Option asX
def asZ (g:asY):Ct:=(221,FC asW (lf aac) (λb=>g b.1.1 b.1.2.1.1 b.1.2.1.2 b.1.b.1 b.1.b.2 b.2))
def aeO (aM:eI)(bQ:kQ)(Kt:ajy)(ba:dA)(eo:vM)(bm:gR)(cD:wD)(bK:fk)(x0:Nat->Int)(x1:Nat->Int)(x2:Nat->Int)(x3:Int)(x4:Int)(x5:Bool):Pg asX:=opt (aM x0 x5) λd=>opt bQ λaj=>opt (Kt x3 d.2) λaI=>opt (ba d.1) λbp=>opt (eo aI.1.1 aI.1.2.1 aI.1.2.2.1 aI.1.2.2.2 bp.1 bp.2.1 bp.2.2.1 bp.2.2.2 aI.2) λcg=>opt (bm cg.1.1 cg.1.2.1 cg.1.2.2.1 cg.1.2.2.2 cg.2) λdF=>opt (cD d.1 0 4 (cr dF.1.1 [dF.1.2.2.2,dF.1.2.2.1,dF.1.2.1,dF.1.1]) false) λd=>opt (aM d dF.2) λd=>opt (bK x1 x2 0 4 d.2 (cr x4 [x4,x4,x4,x4]) true) λcH=>ret ((d.1,cH.1,aI.1),cH.2)
def Ku:=λx0 x1 x2 x3 x4 x5=>(aeO bT dJ CT bV ke cV fK cN x0 x1 x2 x3 x4 x5).val
theorem aGU:∀aM bQ Kt ba eo bm cD bK,D0 [ix aM,oQ bQ,ajz Kt,iI ba,CU eo,mh bm,Bp cD,xZ bK] 221 asW (lf aac) λb=>aeO aM bQ Kt ba eo bm cD bK b.1.1 b.1.2.1.1 b.1.2.1.2 b.1.b.1 b.1.b.2 b.2:=λ_ _ _ _ _ _ _ _ b=>by kernel_rfl
theorem aGV [ax]:SC (asZ Ku):=s0 (.c ji (.c ti (.c aBL (.c jA (.c IE (.c nu (.c Gd (.c CX (.nil _))))))))) (aGU bT dJ CT bV ke cV fK cN)
def akf:=qa (dp (cu aN (c jW aKu)) λa=>(c ux (cl (cl (gs a.b.1 mB) nil) nil)))
def ay6:=qe (res (pr (o9 (c acW (cl (rc (je (pu rq4 (pu xE (pl kZ (pu Cw ju)))))) nil))) (pr LM (cl aFx nil))))
abbrev Va:=((NI×Nat)×Bool×NI)
def akg:Va->T:=λd=>lf ay6 (d.1,d.2.1,d.1.2,d.b)
abbrev Kv:=NI->Int->Nat->Bool->NI->Bool->Option Va
def Kw (g:Kv):Ct:=(263,sE 3 [.i .i64] (FC akf akg (λb=>g b.1.1 b.1.2.1 b.1.b.1 b.2.1 b.b b.1.b.2)))
def jC:=qs (st (dp (cu aN (us 1 (c ai (us 2 (cu BZ (us 2 (cu afG (us 1 (cu amR (c aQw (us 3 (c FY (c ai (cl ai (us 39 nil))))))))))))))) λa=>(pl (c ch (c (so (cl (gs a.b.1.1 mB) nil)) (c mw (c mw (c mw (cl (so (cl (gs a.2.1 mB) nil)) nil)))))) cy)))
def avm:=qs (st (pr (cu aN (us 1 (c ai (us 2 (cu BZ (us 2 (cu afG (us 1 (cu amR (c aQw (us 3 (c FY (c ai (c ai aPB)))))))))))))) (pl (c ch (c Hp (c mw (c mw (c mw ahV))))) cy)))
abbrev tj:=((Int×Nat×(Nat×Bool)×Int×Int×Bool)×Bool×NI×NI×NI×AR×NI)
def abG {ρ:Type}(x:tj)(K:AX->St->Option ρ):Option ρ:=(λd=>K (.ex 0) (avm.em (d.1,d.2.1,(d.1.b.1.1,d.b.1),d.b.2.1,d.c.1,d.c.2.1,d.1.2.1,d.c.b))) x
def MB (aE:bM)(aU:cO)(d:jC.B):PL jC tj:=let n2:=d.2.2.2;let n1:=d.1.2.2;let n3:=n1.2.2;let y0:=d.1.2.1+1;let y1:=wI (d.1.1+n3);let y2:=Int.toNat y1;let y3:=aW y1 24;let y4:=decide (n3<n1.2.1);ae y4 (ae (aW n3 n1.1.1) (ae y3 (ae y3 (opt (aE (d.2.2.1 (Int.toNat n3)) (wI (0-n2.2.2.1 y2)) (n2.2.2.1 y2) d.2.1) λaj=>ae y3 (opt (aU aj.1 (n2.1 y2) aj.2) λaI=>ae (Nat.ble (y0*8) 140737488355328) (ae y3 (ae (true&&Nat.ble (0+y2*1+1) 24) (ret (Sum.inl ((d.1.1,y0,n1.1,n1.2.1,wI (n3+1)),aI.2,d.2.2.1,λj=>bif Nat.beq j y2 then aj.1 else n2.1 j,n2.2.1,n2.2.2.1,λj=>bif Nat.beq j d.1.2.1 then aI.1 else n2.2.2.2 j))) no) no) no) no) no) no) no) (ret (Sum.inr ((d.1.1,d.1.2.1,n1.1,n1.2.1,n3,y4),d.2)))
def MC:=bA (MB aX bD) 2000
def Vb (QB:AS)(aM:eI)(dI:LT jC tj)(x0:Nat->Int)(x1:Int)(x2:Nat)(x3:Bool)(x4:Nat->Int)(w0:Bool):Pg Va:=opt QB λd=>ae (Nat.beq x2 x2) (ae true (opt (dI ((x1,0,(x2,w0),Int.ofNat x2,0),x3,x4,x0,λx=>0,d,λx=>0)) λd=>opt (aM d.2.2.2.1 d.2.1) λaj=>ret ((aj.1,d.1.2.1),aj.2,d.2.2.2.2.2.2)) no) no
def iX:=λx0 x1 x2 x3 x4 w0=>(Vb qZ bT MC x0 x1 x2 x3 x4 w0).val
abbrev Kx:=AS×bM×cO×eI×(LT jC tj)
def Vc (p:Kx):KK:=⟨[Qy p.1,dw p.2.1,gD p.b.1,ix p.b.2.1],⟨[⟨4,(1::3::4::6::7::9::12::13::14::rg 18 39 []),[(11,[.i .i64])]⟩],[fH 4 2 jC abG p.c],[0],[],(some ⟨0,(rg 0 8 (rg 10 47 [])),[]⟩)⟩,2,263⟩
theorem as0 (p:Kx):LI (Vc p) 4 jC abG (MB p.2.1 p.b.1):=λ_ d c K=>by kernel_rfl
theorem aB4 (p:Kx):D2 (Vc p) akf akg λb=>Vb p.1 p.b.2.1 p.c b.1.1 b.1.2.1 b.1.b.1 b.2.1 b.b b.1.b.2:=λb=>by kernel_rfl
abbrev Vd:Kx:=(qZ,aX,bD,bT,MC)
theorem Ve [ax]:SC (Kw iX):=sc (Sound.nil 3 [.i .i64]<|kS (k:=Vc Vd) (.c agi (.c dN (.c iv (.c ji (.nil _))))) [4] [] ⟨kL (as0 Vd),trivial⟩ trivial (aB4 Vd))
def akh:=qa (pr (cu (app 0 2) FZ) (cd (c (gc (wz 1 1)) (cl (gc (wz 2 1)) nil)) λb0=>(c (cl (gs b0.1 mB) nil) (cl (cl (gs b0.2 mB) nil) nil))))
def ay7:=qe (res (pu Tc (pr (cl (AF (c (gc (wz 3 1)) (cl (gc (wz 4 1)) nil))) (cu Td aHM)) (c aFx (cl aFx nil)))))
abbrev Vf:=((Nat×Nat)×NI×NI)
def aki:Vf->T:=λd=>lf ay7 (d.1,(d.1.1,d.2.1),d.1.2,d.b)
abbrev Vg:=Int->Int->Nat->Nat->NI->NI->Option Vf
def akj (g:Vg):Ct:=(247,FC akh aki (λb=>g b.1.1 b.1.2 b.2.1.1 b.2.1.2 b.b.1 b.b.2))
def Vh (x0:Int)(x1:Int)(x2:Nat)(x3:Nat)(x4:Nat->Int)(x5:Nat->Int):Pg Vf:=let y0:=x2+2;let y1:=x3+2;ae (Nat.ble (y0*8) 140737488355328) (ae (Nat.ble (y1*8) 140737488355328) (ret ((y0,y1),λj=>bif Nat.beq j (x2+1) then x0 else bif Nat.beq j x2 then x0 else x4 j,λj=>bif Nat.beq j (x3+1) then x1 else bif Nat.beq j x3 then x1 else x5 j)) no) no
def lO:=λx0 x1 x2 x3 x4 x5=>(Vh x0 x1 x2 x3 x4 x5).val
theorem aB5:D0 [] 247 akh aki λb=>Vh b.1.1 b.1.2 b.2.1.1 b.2.1.2 b.b.1 b.b.2:=λb=>by kernel_rfl
theorem aB6 [ax]:SC (akj lO):=s0 (.nil _) aB5
def aoj:=qa (pr (cu aN (c acY EX)) cq)
def Vi:=qe (res (pr (aa aui) (pl k9 nil)))
abbrev aok:=Vi.B
abbrev Gg:=Int->Int->Int->Int->Int->Int->Int->Bool->Option aok
def aad (g:Gg):Ct:=(218,FC aoj (lf Vi) (λb=>g b.1.1.1 b.1.1.2.1 b.1.1.b.1 b.1.1.b.2 b.1.2.1 b.1.b.1 b.1.b.2 b.2))
def aae (aw:bC)(CW:Mf)(aY:Vg)(bb:ek)(x0:Int)(x1:Int)(x2:Int)(x3:Int)(x4:Int)(x5:Int)(x6:Int)(x7:Bool):Pg aok:=opt (aw x0 x7) λd=>let y0:=wI (0-d.1);opt (aw x1 d.2) λaj=>let uy:=wI (0-aj.1);opt (aw x2 aj.2) λaI=>let anF:=wI (0-aI.1);opt (aw x3 aI.2) λbp=>let XM:=wI (0-bp.1);opt (CW x4 x5 x6 bp.2) λcg=>let n2:=cg.1.1;let n1:=cg.1.2;opt (aY d.1 n2 0 0 (λx=>0) λx=>0) λdF=>ae (Nat.beq dF.1.1 dF.1.1) (ae (Nat.beq dF.1.2 dF.1.2) (opt (aY aI.1 n1.2 dF.1.1 dF.1.2 dF.2.1 dF.2.2) λcH=>ae (Nat.beq cH.1.1 cH.1.1) (ae (Nat.beq cH.1.2 cH.1.2) (opt (aY XM n1.1 cH.1.1 cH.1.2 cH.2.1 cH.2.2) λln=>ae (Nat.beq ln.1.1 ln.1.1) (ae (Nat.beq ln.1.2 ln.1.2) (opt (bb 30 ln.1.1 ln.1.2 cg.2 ln.2.1 ln.2.2 true true) λqC=>opt (aY uy n2 0 0 (λx=>0) λx=>0) λnm=>ae (Nat.beq nm.1.1 nm.1.1) (ae (Nat.beq nm.1.2 nm.1.2) (opt (aY aj.1 n2 nm.1.1 nm.1.2 nm.2.1 nm.2.2) λkE=>ae (Nat.beq kE.1.1 kE.1.1) (ae (Nat.beq kE.1.2 kE.1.2) (opt (aY aj.1 n2 kE.1.1 kE.1.2 kE.2.1 kE.2.2) λuA=>ae (Nat.beq uA.1.1 uA.1.1) (ae (Nat.beq uA.1.2 uA.1.2) (opt (aY aI.1 n1.1 uA.1.1 uA.1.2 uA.2.1 uA.2.2) λIH=>ae (Nat.beq IH.1.1 IH.1.1) (ae (Nat.beq IH.1.2 IH.1.2) (opt (aY bp.1 n1.2 IH.1.1 IH.1.2 IH.2.1 IH.2.2) λJ6=>ae (Nat.beq J6.1.1 J6.1.1) (ae (Nat.beq J6.1.2 J6.1.2) (opt (bb 30 J6.1.1 J6.1.2 qC.2 J6.2.1 J6.2.2 true true) λaB7=>opt (aY anF n2 0 0 (λx=>0) λx=>0) λYg=>ae (Nat.beq Yg.1.1 Yg.1.1) (ae (Nat.beq Yg.1.2 Yg.1.2) (opt (aY aj.1 n1.1 Yg.1.1 Yg.1.2 Yg.2.1 Yg.2.2) λabH=>ae (Nat.beq abH.1.1 abH.1.1) (ae (Nat.beq abH.1.2 abH.1.2) (opt (aY d.1 n1.2 abH.1.1 abH.1.2 abH.2.1 abH.2.2) λYh=>ae (Nat.beq Yh.1.1 Yh.1.1) (ae (Nat.beq Yh.1.2 Yh.1.2) (opt (bb 30 Yh.1.1 Yh.1.2 aB7.2 Yh.2.1 Yh.2.2 true true) λaB8=>opt (aY XM n2 0 0 (λx=>0) λx=>0) λakk=>ae (Nat.beq akk.1.1 akk.1.1) (ae (Nat.beq akk.1.2 akk.1.2) (opt (aY aj.1 n1.2 akk.1.1 akk.1.2 akk.2.1 akk.2.2) λaol=>ae (Nat.beq aol.1.1 aol.1.1) (ae (Nat.beq aol.1.2 aol.1.2) (opt (aY y0 n1.1 aol.1.1 aol.1.2 aol.2.1 aol.2.2) λakl=>ae (Nat.beq akl.1.1 akl.1.1) (ae (Nat.beq akl.1.2 akl.1.2) (opt (bb 30 akl.1.1 akl.1.2 aB8.2 akl.2.1 akl.2.2 true true) λaUW=>opt (aY d.1 n1.1 0 0 (λx=>0) λx=>0) λaxu=>ae (Nat.beq axu.1.1 axu.1.1) (ae (Nat.beq axu.1.2 axu.1.2) (opt (aY bp.1 n2 axu.1.1 axu.1.2 axu.2.1 axu.2.2) λaxv=>ae (Nat.beq axv.1.1 axv.1.1) (ae (Nat.beq axv.1.2 axv.1.2) (opt (aY uy n1.2 axv.1.1 axv.1.2 axv.2.1 axv.2.2) λaxw=>ae (Nat.beq axw.1.1 axw.1.1) (ae (Nat.beq axw.1.2 axw.1.2) (opt (bb 30 axw.1.1 axw.1.2 aUW.2 axw.2.1 axw.2.2 true true) λaUX=>opt (aY uy n1.1 0 0 (λx=>0) λx=>0) λaxx=>ae (Nat.beq axx.1.1 axx.1.1) (ae (Nat.beq axx.1.2 axx.1.2) (opt (aY aI.1 n2 axx.1.1 axx.1.2 axx.2.1 axx.2.2) λaxy=>ae (Nat.beq axy.1.1 axy.1.1) (ae (Nat.beq axy.1.2 axy.1.2) (opt (aY y0 n1.2 axy.1.1 axy.1.2 axy.2.1 axy.2.2) λaxz=>ae (Nat.beq axz.1.1 axz.1.1) (ae (Nat.beq axz.1.2 axz.1.2) (opt (bb 30 axz.1.1 axz.1.2 aUX.2 axz.2.1 axz.2.2 true true) λaUY=>opt (aY anF n1.1 0 0 (λx=>0) λx=>0) λaxA=>ae (Nat.beq axA.1.1 axA.1.1) (ae (Nat.beq axA.1.2 axA.1.2) (opt (aY aI.1 n1.1 axA.1.1 axA.1.2 axA.2.1 axA.2.2) λaxB=>ae (Nat.beq axB.1.1 axB.1.1) (ae (Nat.beq axB.1.2 axB.1.2) (opt (aY aj.1 n2 axB.1.1 axB.1.2 axB.2.1 axB.2.2) λaxC=>ae (Nat.beq axC.1.1 axC.1.1) (ae (Nat.beq axC.1.2 axC.1.2) (opt (aY aI.1 n1.1 axC.1.1 axC.1.2 axC.2.1 axC.2.2) λaxD=>ae (Nat.beq axD.1.1 axD.1.1) (ae (Nat.beq axD.1.2 axD.1.2) (opt (aY bp.1 n1.2 axD.1.1 axD.1.2 axD.2.1 axD.2.2) λaxE=>ae (Nat.beq axE.1.1 axE.1.1) (ae (Nat.beq axE.1.2 axE.1.2) (opt (bb 30 axE.1.1 axE.1.2 aUY.2 axE.2.1 axE.2.2 true true) λaUZ=>opt (aY XM n1.1 0 0 (λx=>0) λx=>0) λaxF=>ae (Nat.beq axF.1.1 axF.1.1) (ae (Nat.beq axF.1.2 axF.1.2) (opt (aY aI.1 n1.2 axF.1.1 axF.1.2 axF.2.1 axF.2.2) λaxG=>ae (Nat.beq axG.1.1 axG.1.1) (ae (Nat.beq axG.1.2 axG.1.2) (opt (aY d.1 n2 axG.1.1 axG.1.2 axG.2.1 axG.2.2) λaxH=>ae (Nat.beq axH.1.1 axH.1.1) (ae (Nat.beq axH.1.2 axH.1.2) (opt (bb 30 axH.1.1 axH.1.2 aUZ.2 axH.2.1 axH.2.2 true true) λaU0=>opt (aY d.1 n1.2 0 0 (λx=>0) λx=>0) λaxI=>ae (Nat.beq axI.1.1 axI.1.1) (ae (Nat.beq axI.1.2 axI.1.2) (opt (aY aj.1 n1.1 axI.1.1 axI.1.2 axI.2.1 axI.2.2) λaxJ=>ae (Nat.beq axJ.1.1 axJ.1.1) (ae (Nat.beq axJ.1.2 axJ.1.2) (opt (aY anF n2 axJ.1.1 axJ.1.2 axJ.2.1 axJ.2.2) λaxK=>ae (Nat.beq axK.1.1 axK.1.1) (ae (Nat.beq axK.1.2 axK.1.2) (opt (bb 30 axK.1.1 axK.1.2 aU0.2 axK.2.1 axK.2.2 true true) λaU1=>opt (aY uy n1.2 0 0 (λx=>0) λx=>0) λaxL=>ae (Nat.beq axL.1.1 axL.1.1) (ae (Nat.beq axL.1.2 axL.1.2) (opt (aY bp.1 n2 axL.1.1 axL.1.2 axL.2.1 axL.2.2) λaxM=>ae (Nat.beq axM.1.1 axM.1.1) (ae (Nat.beq axM.1.2 axM.1.2) (opt (aY d.1 n1.1 axM.1.1 axM.1.2 axM.2.1 axM.2.2) λd=>ae (Nat.beq d.1.1 d.1.1) (ae (Nat.beq d.1.2 d.1.2) (opt (bb 30 d.1.1 d.1.2 aU1.2 d.2.1 d.2.2 true true) λd=>opt (aY anF n1.2 0 0 (λx=>0) λx=>0) λaxN=>ae (Nat.beq axN.1.1 axN.1.1) (ae (Nat.beq axN.1.2 axN.1.2) (opt (aY bp.1 n1.1 axN.1.1 axN.1.2 axN.2.1 axN.2.2) λaxO=>ae (Nat.beq axO.1.1 axO.1.1) (ae (Nat.beq axO.1.2 axO.1.2) (opt (aY y0 n2 axO.1.1 axO.1.2 axO.2.1 axO.2.2) λaxP=>ae (Nat.beq axP.1.1 axP.1.1) (ae (Nat.beq axP.1.2 axP.1.2) (opt (bb 30 axP.1.1 axP.1.2 d.2 axP.2.1 axP.2.2 true true) λaU2=>opt (aY XM n1.2 0 0 (λx=>0) λx=>0) λaxQ=>ae (Nat.beq axQ.1.1 axQ.1.1) (ae (Nat.beq axQ.1.2 axQ.1.2) (opt (aY bp.1 n1.2 axQ.1.1 axQ.1.2 axQ.2.1 axQ.2.2) λaxR=>ae (Nat.beq axR.1.1 axR.1.1) (ae (Nat.beq axR.1.2 axR.1.2) (opt (aY aj.1 n2 axR.1.1 axR.1.2 axR.2.1 axR.2.2) λaxS=>ae (Nat.beq axS.1.1 axS.1.1) (ae (Nat.beq axS.1.2 axS.1.2) (opt (aY aI.1 n1.1 axS.1.1 axS.1.2 axS.2.1 axS.2.2) λaxT=>ae (Nat.beq axT.1.1 axT.1.1) (ae (Nat.beq axT.1.2 axT.1.2) (opt (aY bp.1 n1.2 axT.1.1 axT.1.2 axT.2.1 axT.2.2) λaxU=>ae (Nat.beq axU.1.1 axU.1.1) (ae (Nat.beq axU.1.2 axU.1.2) (opt (bb 30 axU.1.1 axU.1.2 aU2.2 axU.2.1 axU.2.2 true true) λaU3=>ret ((qC.1,aB7.1,aB8.1,aUW.1,aUX.1,aUY.1,aUZ.1,aU0.1,aU1.1,d.1,aU2.1,aU3.1),aU3.2)) no) no) no) no) no) no) no) no) no) no) no) no) no) no) no) no) no) no) no) no) no) no) no) no) no) no) no) no) no) no) no) no) no) no) no) no) no) no) no) no) no) no) no) no) no) no) no) no) no) no) no) no) no) no) no) no) no) no) no) no) no) no) no) no) no) no) no) no) no) no) no) no) no) no) no) no) no) no) no) no) no) no) no) no
def wH:=λx0 x1 x2 x3 x4 x5 x6 x7=>(aae aO zq lO bn x0 x1 x2 x3 x4 x5 x6 x7).val
abbrev aaf:=bC×Mf×Vg×ek
def aom (p:aaf):KK:=⟨[cU p.1,ad5 p.2.1,akj p.b.1,lN p.b.2],⟨[⟨2,(1::2::3::rg 7 10 (rg 18 124 [])),[]⟩,⟨10,(1::2::3::7::rg 10 24 (rg 35 107 [])),[]⟩,⟨19,(1::2::3::7::rg 11 23 (rg 35 38 (rg 74 68 []))),[]⟩,⟨28,(1::2::3::7::11::12::13::rg 16 18 (rg 35 38 (rg 74 29 (rg 104 38 [])))),[]⟩],[],[],[],(some ⟨0,(rg 0 6 (rg 7 135 [])),[]⟩)⟩,0,218⟩
theorem aDu (p:aaf):D2 (aom p) aoj (lf Vi) λb=>aae p.1 p.2.1 p.b.1 p.b.2 b.1.1.1 b.1.1.2.1 b.1.1.b.1 b.1.1.b.2 b.1.2.1 b.1.b.1 b.1.b.2 b.2:=λb=>by kernel_rfl
abbrev aon:aaf:=(aO,zq,lO,bn)
theorem aoo [ax]:SC (aad wH):=sc (kS (k:=aom aon) (.c cY (.c apS (.c aB6 (.c m7 (.nil _))))) [2,10,19,28] [] ⟨kN,⟨kN,⟨kN,⟨kN,trivial⟩⟩⟩⟩ trivial (aDu aon))
def aoq:=qa (pl BC nil)
def Vj:=qe aQb
abbrev aor:=Vj.B
abbrev Gh:=Int->Int->Int->Int->Int->Int->Int->Int->Int->Option aor
def aag (g:Gh):Ct:=(137,FC aoq (lf Vj) (λb=>g b.1 b.2.1 b.b.1 b.b.2.1 b.c.1 b.c.2.1 b.c.b.1 b.c.b.2.1 b.d))
def aah (x0:Int)(x1:Int)(x2:Int)(x3:Int)(x4:Int)(x5:Int)(x6:Int)(x7:Int)(x8:Int):Pg aor:=ret (x1,x2,x3)
def wJ:=λx0 x1 x2 x3 x4 x5 x6 x7 x8=>(aah x0 x1 x2 x3 x4 x5 x6 x7 x8).val
theorem aDv:D0 [] 137 aoq (lf Vj) λb=>aah b.1 b.2.1 b.b.1 b.b.2.1 b.c.1 b.c.2.1 b.c.b.1 b.c.b.2.1 b.d:=λb=>by kernel_rfl
theorem aos [ax]:SC (aag wJ):=s0 (.nil _) aDv
def aot:=qa (pl EX nil)
def Vk:=qe BB
abbrev aai:=Vk.B
abbrev sK:=Int->Int->Int->Option aai
def wK (g:sK):Ct:=(76,FC aot (lf Vk) (λb=>g b.1 b.2.1 b.b))
def Gi (x0:Int)(x1:Int)(x2:Int):Pg aai:=ae (decide (x0>= -900000000)) (ae (decide (x0<=900000000)) (ae (decide (x1>= -1800000000)) (ae (decide (x1<=1800000000)) (ae (decide (x2>= -100000000)) (ret (decide (x2<=100000000))) (ret false)) (ret false)) (ret false)) (ret false)) (ret false)
def fL:=λx0 x1 x2=>(Gi x0 x1 x2).val
theorem aDw:D0 [] 76 aot (lf Vk) λb=>Gi b.1 b.2.1 b.b:=λb=>by kernel_rfl
theorem Bw [ax]:SC (wK fL):=s0 (.nil _) aDw
def as1:=qa (pl BC nil)
def aaj:=qe BB
abbrev as2:=aaj.B
abbrev aeP:=Int->Int->Int->Int->Int->Int->Int->Int->Int->Option as2
def as3 (g:aeP):Ct:=(136,FC as1 (lf aaj) (λb=>g b.1 b.2.1 b.b.1 b.b.2.1 b.c.1 b.c.2.1 b.c.b.1 b.c.b.2.1 b.d))
def aeQ (aak:Gh)(cw:sK)(x0:Int)(x1:Int)(x2:Int)(x3:Int)(x4:Int)(x5:Int)(x6:Int)(x7:Int)(x8:Int):Pg as2:=ae (decide (x4< -1000000)) (ret false) (ae (decide (x4>1000000)) (ret false) (ae (decide (x5< -1000000)) (ret false) (ae (decide (x5>1000000)) (ret false) (ae (decide (x6< -1000000)) (ret false) (ae (decide (x6>1000000)) (ret false) (ae (decide (x7<1)) (ret false) (ae (decide (x7>1000000)) (ret false) (ae (decide (x8<1)) (ret false) (ae (decide (x8>1000000)) (ret false) (opt (aak x0 x1 x2 x3 x4 x5 x6 x7 x8) λd=>opt (cw d.1 d.2.1 d.2.2) λd=>ret d))))))))))
def Ky:=λx0 x1 x2 x3 x4 x5 x6 x7 x8=>(aeQ wJ fL x0 x1 x2 x3 x4 x5 x6 x7 x8).val
abbrev aeR:=Gh×sK
def as4 (p:aeR):KK:=⟨[aag p.1,wK p.2],⟨[⟨2,(0::rg 3 5 (rg 11 6 (rg 19 12 (rg 33 5 [])))),[]⟩,⟨8,(0::rg 3 19 (rg 25 6 (rg 33 5 []))),[]⟩],[],[],[],(some ⟨0,(0::1::rg 3 35 []),[]⟩)⟩,0,136⟩
theorem aGW (p:aeR):D2 (as4 p) as1 (lf aaj) λb=>aeQ p.1 p.2 b.1 b.2.1 b.b.1 b.b.2.1 b.c.1 b.c.2.1 b.c.b.1 b.c.b.2.1 b.d:=λb=>by kernel_rfl
abbrev as5:aeR:=(wJ,fL)
theorem aGX [ax]:SC (as3 Ky):=sc (kS (k:=as4 as5) (.c aos (.c Bw (.nil _))) [2,8] [] ⟨kN,⟨kN,trivial⟩⟩ trivial (aGW as5))
def abI:=qa (pl fM nil)
def Kz:=qe EU
abbrev abJ:=Kz.B
abbrev MD:=Int->Option abJ
def abK (g:MD):Ct:=(138,FC abI (lf Kz) (λb=>g b))
def ME (aq:bU)(aE:bM)(x0:Int):Pg abJ:=opt (aq (wI (x0*x0)) 17592186044416 1000000 false) λd=>opt (aE d.1 1 72057594037927936 d.2) λd=>ret d.1
def yf:=λx0=>(ME aS aX x0).val
theorem avn:∀aq aE,D0 [cT aq,dw aE] 138 abI (lf Kz) λb=>ME aq aE b:=λ_ _ b=>by kernel_rfl
theorem avo [ax]:SC (abK yf):=s0 (.c c7 (.c dN (.nil _))) (avn aS aX)
def as6:=qa (pr (cu aN BC) cq)
def aal:=qe (res (pr (o9 (c (ra aue) aqY)) (pl k9 nil)))
abbrev as7:=aal.B
abbrev aeS:=Int->Int->Int->Int->Int->Int->Int->Int->Int->Bool->Option as7
def aeT (g:aeS):Ct:=(89,FC as6 (lf aal) (λb=>g b.1.1 b.1.2.1 b.1.b.1 b.1.b.2.1 b.1.c.1 b.1.c.2.1 b.1.c.b.1 b.1.c.b.2.1 b.1.d b.2))
def aeU (aGY:aeP)(aak:Gh)(abL:MD)(aq:bU)(x0:Int)(x1:Int)(x2:Int)(x3:Int)(x4:Int)(x5:Int)(x6:Int)(x7:Int)(x8:Int)(x9:Bool):Pg as7:=opt (aGY x0 x1 x2 x3 x4 x5 x6 x7 x8) λd=>ae (!d) (ret (((0,0,0,0,0,0,0,0),1),x9)) (opt (aak x0 x1 x2 x3 x4 x5 x6 x7 x8) λd=>opt (abL x7) λaj=>opt (abL x8) λaI=>opt (aq x4 1073741824 1000 x9) λbp=>opt (aq x5 1073741824 1000 bp.2) λcg=>opt (aq x6 1073741824 1000 cg.2) λdF=>ret (((d.1,d.2.1,d.2.2,bp.1,cg.1,dF.1,aj,aI),0),dF.2))
def zW:=λx0 x1 x2 x3 x4 x5 x6 x7 x8 x9=>(aeU Ky wJ yf aS x0 x1 x2 x3 x4 x5 x6 x7 x8 x9).val
abbrev aeV:=aeP×Gh×MD×bU
def as8 (p:aeV):KK:=⟨[as3 p.1,aag p.2.1,abK p.b.1,cT p.b.2],⟨[⟨5,(1::2::5::rg 7 16 (rg 24 14 [])),[]⟩],[],[0],[],(some ⟨0,(rg 0 4 (rg 6 32 [])),[]⟩)⟩,0,89⟩
theorem aGZ (p:aeV):D2 (as8 p) as6 (lf aal) λb=>aeU p.1 p.2.1 p.b.1 p.b.2 b.1.1 b.1.2.1 b.1.b.1 b.1.b.2.1 b.1.c.1 b.1.c.2.1 b.1.c.b.1 b.1.c.b.2.1 b.1.d b.2:=λb=>by kernel_rfl
abbrev as9:aeV:=(Ky,wJ,yf,aS)
theorem ata [ax]:SC (aeT zW):=sc (kS (k:=as8 as9) (.c aGX (.c aos (.c avo (.c c7 (.nil _))))) [5] [] ⟨kN,trivial⟩ trivial (aGZ as9))
def ags:=qa (dp (cl Tg nil) λa=>(cl (cl (gs a.1 mB) nil) nil))
def MF:=qe aQi
abbrev agt:=MF.B
abbrev QP:=Nat->NI->Bool->Option agt
def QQ (g:QP):Ct:=(231,sE 0 [.i .i64] (FC ags (lf MF) (λb=>g b.1.1 b.2 b.1.2)))
def iN:=qs (st (dp (us 2 (cu Rz (cu BZ (us 2 (c Tg (c ai aFj)))))) λa=>(pl (c (so (cl (gs a.1.1 mB) nil)) LO) nil)))
def atb:=qs (st (pr (us 2 (cu Rz (cu BZ (us 2 (c Tg (c ai aFo)))))) (pl (c Hp LO) nil)))
abbrev qM:=(aHG×NI×NI×NI)
def Yi {ρ:Type}(x:qM)(K:AX->St->Option ρ):Option ρ:=(λd=>K (.ex 0) (atb.em (d.1,(d.1.1.1,d.2.1),d.b))) x
def KA (d:iN.B):PL iN qM:=let n3:=d.2.1;let n2:=d.1.2.2;let n1:=(d.1.1,d.1.2.1,wI (n2+1));let y0:=Int.toNat (n3 (Int.toNat n2));let y1:=decide (n2<d.1.2.1);ae y1 (ae (aW n2 d.1.1.1) (ae (decide (n3 (Int.toNat n2)>=0)) (ae (decide (n3 (Int.toNat n2)<24)) (ae (aW (n3 (Int.toNat n2)) 24) (ae (true&&Nat.ble (0+y0*1+1) 24) (ret (Sum.inl (n1,n3,d.2.2.1,λj=>bif Nat.beq j y0 then 1073741824 else d.2.2.2 j))) no) no) (ret (Sum.inl (n1,d.2)))) (ret (Sum.inl (n1,d.2)))) no) (ret (Sum.inr ((d.1.1,d.1.2.1,n2,y1),d.2)))
def KB:=bA (KA) 2000
def QR (dI:LT iN qM)(x0:Nat)(x1:Nat->Int)(w0:Bool):Pg agt:=ae (Nat.beq x0 x0) (opt (dI (((x0,w0),Int.ofNat x0,0),x1,λx=>0,λx=>0)) λd=>ret d.2.2.2) no
def nZ:=λx0 x1 w0=>(QR KB x0 x1 w0).val
abbrev Ha:=(LT iN qM)
def QS (p:Ha):KK:=⟨[],⟨[⟨3,(0::1::4::5::rg 9 6 (rg 17 5 [15,16])),[]⟩],[fH 3 1 iN Yi p],[],[],(some ⟨0,(0::1::rg 3 19 []),[]⟩)⟩,1,231⟩
theorem aqe (p:Ha):LI (QS p) 3 iN Yi (KA):=λ_ d c K=>by kernel_rfl
theorem ay8 (p:Ha):D2 (QS p) ags (lf MF) λb=>QR p b.1.1 b.2 b.1.2:=λb=>by kernel_rfl
abbrev QT:Ha:=KB
theorem agu [ax]:SC (QQ nZ):=sc (Sound.nil 0 [.i .i64]<|kS (k:=QS QT) (.nil _) [3] [] ⟨kL (aqe QT),trivial⟩ trivial (ay8 QT))
def abM:=qa (pr (cu aN (c jW (c ai Cz))) cq)
def KC:=qe aQC
abbrev abN:=KC.B
abbrev tk:=NI->Int->Int->Int->Int->Bool->Option abN
def En (g:tk):Ct:=(253,FC abM (lf KC) (λb=>g b.1.1 b.1.2.1 b.1.b.1 b.1.b.2.1 b.1.c b.2))
def MG (mo:QP)(aU:cO)(x0:Nat->Int)(x1:Int)(x2:Int)(x3:Int)(x4:Int)(x5:Bool):Pg abN:=opt (mo 1 (λj=>bif Nat.beq j 0 then x1 else x1) true) λd=>ae (aW x1 24) (opt (aU x2 (x0 (Int.toNat x1)) x5) λaj=>ret ((d,aj.1,x3,x4),aj.2)) no
def dK:=λx0 x1 x2 x3 x4 x5=>(MG nZ bD x0 x1 x2 x3 x4 x5).val
theorem avp:∀mo aU,D0 [QQ mo,gD aU] 253 abM (lf KC) λb=>MG mo aU b.1.1 b.1.2.1 b.1.b.1 b.1.b.2.1 b.1.c b.2:=λ_ _ b=>by kernel_rfl
theorem MH [ax]:SC (En dK):=s0 (.c agu (.c iv (.nil _))) (avp nZ bD)
def abO:=qa (pr (cu aN (c jW (c aFG fM))) cq)
def KD:=qe aRd
abbrev abP:=KD.B
abbrev abQ:=NI->Int->Int->Int->Int->Int->Int->Int->Int->Int->Bool->Option abP
def abR (g:abQ):Ct:=(225,FC abO (lf KD) (λb=>g b.1.1 b.1.2.1.1.1 b.1.2.1.1.2.1 b.1.2.1.1.b b.1.2.1.2.1.1 b.1.2.1.2.1.2.1 b.1.2.1.2.1.b b.1.2.1.b.1 b.1.2.1.b.2 b.1.b b.2))
def MI (ij:tk)(x0:Nat->Int)(x1:Int)(x2:Int)(x3:Int)(x4:Int)(x5:Int)(x6:Int)(x7:Int)(x8:Int)(x9:Int)(fS:Bool):Pg abP:=opt (ij x0 4 x4 x8 x9 fS) λd=>opt (ij x0 5 x5 x8 x9 d.2) λaj=>opt (ij x0 6 x6 x8 x9 aj.2) λaI=>ret (aI.2,d.1.1,d.1.2.1,d.1.2.2.1,d.1.2.2.2,aj.1.1,aj.1.2.1,aj.1.2.2.1,aj.1.2.2.2,aI.1)
def yg:=λx0 x1 x2 x3 x4 x5 x6 x7 x8 x9 fS=>(MI dK x0 x1 x2 x3 x4 x5 x6 x7 x8 x9 fS).val
abbrev MJ:=tk
def abS (p:MJ):KK:=⟨[En p],⟨[⟨3,(1::2::4::7::8::10::11::12::rg 15 17 []),[]⟩],[],[],[],(some ⟨0,(rg 0 8 (rg 9 23 [])),[]⟩)⟩,0,225⟩
theorem avq (p:MJ):D2 (abS p) abO (lf KD) λb=>MI p b.1.1 b.1.2.1.1.1 b.1.2.1.1.2.1 b.1.2.1.1.b b.1.2.1.2.1.1 b.1.2.1.2.1.2.1 b.1.2.1.2.1.b b.1.2.1.b.1 b.1.2.1.b.2 b.1.b b.2:=λb=>by kernel_rfl
abbrev abT:MJ:=dK
theorem avr [ax]:SC (abR yg):=sc (kS (k:=abS abT) (.c MH (.nil _)) [3] [] ⟨kN,trivial⟩ trivial (avq abT))
def Yj:=qa (pr (cu (app 0 5) (cu Oj EX)) (c kF cq))
def HH:=qe (res (pr aQd (pl (cu eT k9) nil)))
abbrev Yk:=HH.B
abbrev vS:=Int->Int->Int->Int->Int->Int->Int->Int->Bool->Option Yk
def Cc (g:vS):Ct:=(249,FC Yj (lf HH) (λb=>g b.1.1 b.1.2.1 b.1.b b.2.1.1.1 b.2.1.1.2.1 b.2.1.1.b b.2.1.2.1 b.2.1.b b.b))
def KE (cw:sK)(aB:bJ)(aq:bU)(x0:Int)(x1:Int)(x2:Int)(x3:Int)(x4:Int)(x5:Int)(x6:Int)(x7:Int)(x8:Bool):Pg Yk:=let y0:=wI (x1-x4);opt (cw x0 x1 x2) λd=>ae (!d) (ret (((0,0,0),1),x8)) (ae (decide (y0>1800000000)) (opt (aB (wI (x0-x3)) x6 10 x8) λd=>opt (aB (wI (y0-3600000000)) x7 10 d.2) λaj=>opt (aq (wI (x5-x2)) 1073741824 1000 aj.2) λaI=>ret (((d.1,aj.1,aI.1),0),aI.2)) (ae (decide (y0<= -1800000000)) (opt (aB (wI (x0-x3)) x6 10 x8) λd=>opt (aB (wI (y0+3600000000)) x7 10 d.2) λaj=>opt (aq (wI (x5-x2)) 1073741824 1000 aj.2) λaI=>ret (((d.1,aj.1,aI.1),0),aI.2)) (opt (aB (wI (x0-x3)) x6 10 x8) λd=>opt (aB y0 x7 10 d.2) λaj=>opt (aq (wI (x5-x2)) 1073741824 1000 aj.2) λaI=>ret (((d.1,aj.1,aI.1),0),aI.2))))
def jD:=λx0 x1 x2 x3 x4 x5 x6 x7 x8=>(KE fL aT aS x0 x1 x2 x3 x4 x5 x6 x7 x8).val
theorem atc:∀cw aB aq,D1 [wK cw,eG aB,cT aq] [1] 249 Yj (lf HH) λb=>KE cw aB aq b.1.1 b.1.2.1 b.1.b b.2.1.1.1 b.2.1.1.2.1 b.2.1.1.b b.2.1.2.1 b.2.1.b b.b:=λ_ _ _ b=>by kernel_rfl
theorem KF [ax]:SC (Cc jD):=s0 (.c Bw (.c eV (.c c7 (.nil _)))) (atc fL aT aS)
def tF:=qa (pr (cu aN (c jW (c aFG (cu (app 1 5) fM)))) (c ux (cl kF nil)))
def Lp:=qe (res (pr aPZ (pl LM nil)))
def Lq:=qe (res (pu (o9 (cu (rc (je (pu rq4 (pu xE (pu (szl rq4) (pu (nat 27) ju)))))) ahU)) (pr LM (cl aKY nil))))
abbrev HI:=Lp.B⊕Lq.B
def Vl:HI->T:=ls (lf Lp) (lf Lq)
abbrev Vm:=tF.B->Option HI
def Vn (g:Vm):Ct:=(226,FC tF Vl g)
def HJ (gk:vS)(ij:tk)(x:tF.B):Pg HI:=opt (gk x.1.2.1.1.1 x.1.2.1.1.2.1 x.1.2.1.1.2.2 x.2.2.1.1 x.2.2.1.2.1 x.2.2.1.2.2 x.2.2.2.1 x.2.2.2.2 x.2.1) λd=>ae (d.1.2!=0) (ret (Sum.inl (d.1.2,d.2))) (opt (ij x.1.1 7 d.1.1.1 x.1.2.1.2.2.1 x.1.2.2 d.2) λaj=>opt (ij x.1.1 8 d.1.1.2.1 x.1.2.1.2.2.1 x.1.2.2 aj.2) λd=>ret (Sum.inr (d.2,aj.1.1,aj.1.2.1,aj.1.2.2.1,aj.1.2.2.2,d.1)))
def tG:=λx=>(HJ jD dK x).val
abbrev HK:=vS×tk
def Vo (p:HK):KK:=⟨[Cc p.1,En p.2],⟨[⟨6,(1::2::3::5::rg 8 6 (rg 15 13 (rg 31 18 []))),[]⟩],[],[],[],(some ⟨0,(rg 0 10 (rg 12 37 [])),[]⟩)⟩,0,226⟩
theorem aqf (p:HK):D2 (Vo p) tF Vl λb=>HJ p.1 p.2 b:=λb=>by kernel_rfl
abbrev Vp:HK:=(jD,dK)
theorem aqg [ax]:SC (Vn tG):=sc (kS (k:=Vo Vp) (.c KF (.c MH (.nil _))) [6] [] ⟨kN,trivial⟩ trivial (aqf Vp))
def C4:=qa (pr (cu aN (c jW (c aFG (cu (app 1 5) fM)))) (c ux (cl kF nil)))
def QU:=qe (res (pr aQz (pl LM nil)))
abbrev akm:=QU.B
abbrev akn:=C4.B->Option akm
def ako (g:akn):Ct:=(227,FC C4 (lf QU) g)
def Vq (gk:vS)(bS:eH)(aE:bM)(ij:tk)(x:C4.B):Pg akm:=let n3:=x.2.2;let n2:=x.1.2.1;let n1:=n2.2.2.1;opt (gk n2.1.1 n2.1.2.1 n2.1.2.2 n3.1.1 n3.1.2.1 n3.1.2.2 n3.2.1 n3.2.2 x.2.1) λd=>ae (d.1.2!=0) (ret (((λx=>0,0,0,0),d.1.2),d.2)) (opt (bS 4 false (cr n1 [n1,n1,n1,n1]) true) λaj=>opt (aE aj.1 1 72057594037927936 aj.2) λaI=>opt (ij x.1.1 9 d.1.1.2.2 aI.1 x.1.2.2 d.2) λd=>ret ((d.1,0),d.2))
def C5:=λx=>(Vq jD cC aX dK x).val
theorem aB9:∀gk bS aE ij,D0 [Cc gk,m6 bS,dw aE,En ij] 227 C4 (lf QU) λb=>Vq gk bS aE ij b:=λ_ _ _ _ b=>by kernel_rfl
theorem aCa [ax]:SC (ako C5):=s0 (.c KF (.c pk (.c dN (.c MH (.nil _))))) (aB9 jD cC aX dK)
def Vr:=qa (pl fM nil)
def Fk:=qe EU
abbrev Vs:=Fk.B
abbrev Vt:=Int->Option Vs
def Vu (g:Vt):Ct:=(203,FC Vr (lf Fk) (λb=>g b))
def HL (aq:bU)(aE:bM)(x0:Int):Pg Vs:=opt (aq (wI (x0*x0)) 17592186044416 1000000 false) λd=>opt (aE d.1 1 72057594037927936 d.2) λd=>ret d.1
def tH:=λx0=>(HL aS aX x0).val
theorem aqh:∀aq aE,D0 [cT aq,dw aE] 203 Vr (lf Fk) λb=>HL aq aE b:=λ_ _ b=>by kernel_rfl
theorem aqi [ax]:SC (Vu tH):=s0 (.c c7 (.c dN (.nil _))) (aqh aS aX)
def akp:=qa (pr (cu aN (c aFF FZ)) cq)
def QV:=qe aKU
abbrev akq:=QV.B
abbrev Vv:=Int->Int->Int->Int->Int->Int->Int->Int->Int->Int->Int->Bool->Option akq
def Vx (g:Vv):Ct:=(139,FC akp (lf QV) (λb=>g b.1.1.1 b.1.1.2.1 b.1.1.b.1 b.1.1.b.2.1 b.1.1.c.1 b.1.1.c.2.1 b.1.1.c.b.1 b.1.1.c.b.2.1 b.1.1.d b.1.2.1 b.1.b b.2))
def Vy (aq:bU)(zX:Vt)(x0:Int)(x1:Int)(x2:Int)(x3:Int)(x4:Int)(x5:Int)(x6:Int)(x7:Int)(x8:Int)(x9:Int)(fS:Int)(fT:Bool):Pg akq:=ae (decide (x1<x9)) (ret (((0,0),1),fT)) (ae (decide (x1>fS)) (ret (((0,0),1),fT)) (ae (decide (x2<1)) (ret (((0,0),1),fT)) (ae (decide (x2>1000000)) (ret (((0,0),1),fT)) (opt (aq x1 1073741824 1000 fT) λd=>opt (zX x2) λaj=>ret (((d.1,aj),0),d.2)))))
def tI:=λx0 x1 x2 x3 x4 x5 x6 x7 x8 x9 fS fT=>(Vy aS tH x0 x1 x2 x3 x4 x5 x6 x7 x8 x9 fS fT).val
theorem aCb:∀aq zX,D1 [cT aq,Vu zX] [0] 139 akp (lf QV) λb=>Vy aq zX b.1.1.1 b.1.1.2.1 b.1.1.b.1 b.1.1.b.2.1 b.1.1.c.1 b.1.1.c.2.1 b.1.1.c.b.1 b.1.1.c.b.2.1 b.1.1.d b.1.2.1 b.1.b b.2:=λ_ _ b=>by kernel_rfl
theorem akr [ax]:SC (Vx tI):=s0 (.c c7 (.c aqi (.nil _))) (aCb aS tH)
def Vz:=qa (pr (cu aN BC) cq)
def Fl:=qe aKU
abbrev VA:=Fl.B
abbrev HM:=Int->Int->Int->Int->Int->Int->Int->Int->Int->Bool->Option VA
def HN (g:HM):Ct:=(90,FC Vz (lf Fl) (λb=>g b.1.1 b.1.2.1 b.1.b.1 b.1.b.2.1 b.1.c.1 b.1.c.2.1 b.1.c.b.1 b.1.c.b.2.1 b.1.d b.2))
def HO (nC:Vv)(x0:Int)(x1:Int)(x2:Int)(x3:Int)(x4:Int)(x5:Int)(x6:Int)(x7:Int)(x8:Int)(x9:Bool):Pg VA:=opt (nC x0 x1 x2 x3 x4 x5 x6 x7 x8 (-100000000) 100000000 x9) λd=>ret d
def mz:=λx0 x1 x2 x3 x4 x5 x6 x7 x8 x9=>(HO tI x0 x1 x2 x3 x4 x5 x6 x7 x8 x9).val
theorem aqj:∀nC,D0 [Vx nC] 90 Vz (lf Fl) λb=>HO nC b.1.1 b.1.2.1 b.1.b.1 b.1.b.2.1 b.1.c.1 b.1.c.2.1 b.1.c.b.1 b.1.c.b.2.1 b.1.d b.2:=λ_ b=>by kernel_rfl
theorem VB [ax]:SC (HN mz):=s0 (.c akr (.nil _)) (aqj tI)
def aks:=qa (pr (cu aN (c jW (c (aa ahS) fM))) cq)
def QW:=qe aQC
abbrev akt:=QW.B
abbrev aku:=NI->Int->Int->Int->Bool->Option akt
def akv (g:aku):Ct:=(170,FC aks (lf QW) (λb=>g b.1.1 b.1.2.1.1 b.1.2.1.2 b.1.b b.2))
def VC (mo:QP)(aw:bC)(aU:cO)(x0:Nat->Int)(x1:Int)(x2:Int)(x3:Int)(x4:Bool):Pg akt:=opt (mo 1 (λj=>bif Nat.beq j 0 then 9 else 9) true) λd=>opt (aw x1 x4) λaj=>opt (aU (wI (0-aj.1)) (x0 9) aj.2) λaI=>ret ((d,aI.1,x2,x3),aI.2)
def C6:=λx0 x1 x2 x3 x4=>(VC nZ aO bD x0 x1 x2 x3 x4).val
theorem aCc:∀mo aw aU,D0 [QQ mo,cU aw,gD aU] 170 aks (lf QW) λb=>VC mo aw aU b.1.1 b.1.2.1.1 b.1.2.1.2 b.1.b b.2:=λ_ _ _ b=>by kernel_rfl
theorem aCd [ax]:SC (akv C6):=s0 (.c agu (.c cY (.c iv (.nil _)))) (aCc nZ aO bD)
def RL:=qa (pr (cu aN BC) cq)
def C7:=qe (res (pr aQd (pl k9 nil)))
abbrev RM:=C7.B
abbrev Fo:=Int->Int->Int->Int->Int->Int->Int->Int->Int->Bool->Option RM
def Fq (g:Fo):Ct:=(91,FC RL (lf C7) (λb=>g b.1.1 b.1.2.1 b.1.b.1 b.1.b.2.1 b.1.c.1 b.1.c.2.1 b.1.c.b.1 b.1.c.b.2.1 b.1.d b.2))
def Fs (nC:Vv)(x0:Int)(x1:Int)(x2:Int)(x3:Int)(x4:Int)(x5:Int)(x6:Int)(x7:Int)(x8:Int)(x9:Bool):Pg RM:=ae (decide (x3<0)) (ret (((0,0,0),1),x9)) (ae (decide (x3>100)) (ret (((0,0,0),1),x9)) (opt (nC x0 x1 x2 x3 x4 x5 x6 x7 x8 1 1000000 x9) λd=>ae (d.1.2!=0) (ret (((0,0,0),d.1.2),d.2)) (ret (((d.1.1.1,d.1.1.2,x3),0),d.2))))
def lp:=λx0 x1 x2 x3 x4 x5 x6 x7 x8 x9=>(Fs tI x0 x1 x2 x3 x4 x5 x6 x7 x8 x9).val
theorem amx:∀nC,D1 [Vx nC] [0] 91 RL (lf C7) λb=>Fs nC b.1.1 b.1.2.1 b.1.b.1 b.1.b.2.1 b.1.c.1 b.1.c.2.1 b.1.c.b.1 b.1.c.b.2.1 b.1.d b.2:=λ_ b=>by kernel_rfl
theorem RN [ax]:SC (Fq lp):=s0 (.c akr (.nil _)) (amx tI)
def agv:=qa (pr (cu aN (c jW (c (aa (a 2 ahS kD)) fM))) cq)
def MK:=qe az9
abbrev agw:=MK.B
abbrev agx:=NI->Int->Int->Int->Int->Bool->Option agw
def agy (g:agx):Ct:=(171,FC agv (lf MK) (λb=>g b.1.1 b.1.2.1.1.1 b.1.2.1.1.2 b.1.2.1.2 b.1.b b.2))
def QX (ba:dA)(eF:oO)(aD:cv)(aU:cO)(bS:eH)(aB:bJ)(x0:Nat->Int)(x1:Int)(x2:Int)(x3:Int)(x4:Int)(x5:Bool):Pg agw:=opt (ba x0) λd=>let n1:=d.2.2;opt (eF d.1 d.2.1 n1.1 n1.2 x5) λaj=>ae (decide (aj.1 8<751619277)) (ret (((λx=>0,0,0,0),4),aj.2)) (ae (decide (x3<50)) (ret (((λx=>0,0,0,0),4),aj.2)) (opt (aD (x0 9) (aj.1 8) 30 aj.2) λaI=>opt (aU x1 (wI (0-aI.1)) aI.2) λbp=>opt (aD 1073741824 (aj.1 8) 30 bp.2) λcg=>opt (aD aI.1 (aj.1 8) 30 cg.2) λdF=>opt (bS 2 dF.2 (cr d.1 [d.1,d.1]) true) λcH=>opt (aB dF.1 cH.1 30 cH.2) λln=>opt (bS 2 ln.2 (cr d.2.1 [d.2.1,d.2.1]) true) λqC=>opt (aB dF.1 (wI (0-qC.1)) 30 qC.2) λnm=>opt (bS 2 nm.2 (cr n1.1 [n1.1,n1.1]) true) λkE=>opt (aB dF.1 (wI (0-kE.1)) 30 kE.2) λuA=>opt (bS 2 uA.2 (cr n1.2 [n1.2,n1.2]) true) λd=>opt (aB dF.1 d.1 30 d.2) λd=>ret (((λj=>bif Nat.beq j 3 then d.1 else bif Nat.beq j 2 then uA.1 else bif Nat.beq j 1 then nm.1 else bif Nat.beq j 0 then ln.1 else bif Nat.beq j 9 then wI (0-cg.1) else 0,bp.1,x2,x4),0),d.2)))
def AY:=λx0 x1 x2 x3 x4 x5=>(QX bV jh bk bD cC aT x0 x1 x2 x3 x4 x5).val
abbrev QY:=dA×oO×cv×cO×eH×bJ
def agz (p:QY):KK:=⟨[iI p.1,Bs p.2.1,fI p.b.1,gD p.b.2.1,m6 p.c.1,eG p.c.2],⟨[⟨10,(1::rg 3 5 (rg 9 4 (rg 15 43 (rg 60 11 (rg 73 13 []))))),[]⟩],[],[],[],(some ⟨0,(rg 0 8 (rg 10 76 [])),[]⟩)⟩,0,171⟩
theorem ay9 (p:QY):D2 (agz p) agv (lf MK) λb=>QX p.1 p.2.1 p.b.1 p.b.2.1 p.c.1 p.c.2 b.1.1 b.1.2.1.1.1 b.1.2.1.1.2 b.1.2.1.2 b.1.b b.2:=λb=>by kernel_rfl
abbrev agA:QY:=(bV,jh,bk,bD,cC,aT)
theorem aza [ax]:SC (agy AY):=sc (kS (k:=agz agA) (.c jA (.c Eg (.c gC (.c iv (.c pk (.c eV (.nil _))))))) [10] [] ⟨kN,trivial⟩ trivial (ay9 agA))
def agB:=qa (pl fM nil)
def ML:=qe EU
abbrev agC:=ML.B
abbrev QZ:=Int->Option agC
def agD (g:QZ):Ct:=(140,FC agB (lf ML) (λb=>g b))
def Q3 (aq:bU)(aE:bM)(x0:Int):Pg agC:=opt (aq (wI (x0*x0)) 17592186044416 1000000000000 false) λd=>opt (aE d.1 1 72057594037927936 d.2) λd=>ret d.1
def AZ:=λx0=>(Q3 aS aX x0).val
theorem azb:∀aq aE,D0 [cT aq,dw aE] 140 agB (lf ML) λb=>Q3 aq aE b:=λ_ _ b=>by kernel_rfl
theorem azc [ax]:SC (agD AZ):=s0 (.c c7 (.c dN (.nil _))) (azb aS aX)
def axV:=qa (pr (cu aN BC) cq)
def aeW:=qe aQH
abbrev axW:=aeW.B
abbrev Yl:=Int->Int->Int->Int->Int->Int->Int->Int->Int->Bool->Option axW
def Ym (g:Yl):Ct:=(92,FC axV (lf aeW) (λb=>g b.1.1 b.1.2.1 b.1.b.1 b.1.b.2.1 b.1.c.1 b.1.c.2.1 b.1.c.b.1 b.1.c.b.2.1 b.1.d b.2))
def akw (azd:QZ)(aq:bU)(x0:Int)(x1:Int)(x2:Int)(x3:Int)(x4:Int)(x5:Int)(x6:Int)(x7:Int)(x8:Int)(x9:Bool):Pg axW:=ae (decide (x4<1)) (ret (((0,0,0,0),1),x9)) (ae (decide (x4>1000000)) (ret (((0,0,0,0),1),x9)) (opt (azd x4) λd=>ae (decide (x1< -2000000)) (ret (((0,0,0,0),1),x9)) (ae (decide (x1>2000000)) (ret (((0,0,0,0),1),x9)) (opt (aq x1 1073741824 1000000 x9) λaj=>ae (decide (x2< -2000000)) (ret (((0,0,0,0),1),aj.2)) (ae (decide (x2>2000000)) (ret (((0,0,0,0),1),aj.2)) (opt (aq x2 1073741824 1000000 aj.2) λaI=>ae (decide (x3< -2000000)) (ret (((0,0,0,0),1),aI.2)) (ae (decide (x3>2000000)) (ret (((0,0,0,0),1),aI.2)) (opt (aq x3 1073741824 1000000 aI.2) λbp=>ret (((aj.1,aI.1,bp.1,d),0),bp.2)))))))))
def vT:=λx0 x1 x2 x3 x4 x5 x6 x7 x8 x9=>(akw AZ aS x0 x1 x2 x3 x4 x5 x6 x7 x8 x9).val
abbrev akx:=QZ×bU
def axX (p:akx):KK:=⟨[agD p.1,cT p.2],⟨[⟨5,(1::2::rg 7 17 (rg 25 8 (rg 38 13 []))),[]⟩],[],[0],[],(some ⟨0,(rg 0 4 (rg 6 45 [])),[]⟩)⟩,0,92⟩
theorem aJx (p:akx):D2 (axX p) axV (lf aeW) λb=>akw p.1 p.2 b.1.1 b.1.2.1 b.1.b.1 b.1.b.2.1 b.1.c.1 b.1.c.2.1 b.1.c.b.1 b.1.c.b.2.1 b.1.d b.2:=λb=>by kernel_rfl
abbrev axY:akx:=(AZ,aS)
theorem aky [ax]:SC (Ym vT):=sc (kS (k:=axX axY) (.c azc (.c c7 (.nil _))) [5] [] ⟨kN,trivial⟩ trivial (aJx axY))
def axZ:=qa (pr (cu aN (c jW (c aKE fM))) cq)
def aG0:=qe aRd
abbrev akz:=(Bool×NI×Int×Int×Int×NI×Int×NI×Int)
def ax0:akz->T:=λd=>lf aG0 (d.1,d.2.1,d.b.1,d.b.2.1,d.c.1,d.c.2.1,d.c.b.1,d.b.2.1,d.c.1,d.c.b.2.1,d.d,d.b.2.1,d.c.1)
abbrev ax1:=NI->Int->Int->Int->Int->Int->Bool->Option akz
def ax2 (g:ax1):Ct:=(233,FC axZ ax0 (λb=>g b.1.1 b.1.2.1.1.1 b.1.2.1.1.2.1 b.1.2.1.1.b b.1.2.1.2 b.1.b b.2))
def akA (ba:dA)(bz:ky)(eF:oO)(ON:CP)(aeX:JM)(aam:Gg)(bS:eH)(aU:cO)(x0:Nat->Int)(x1:Int)(x2:Int)(x3:Int)(x4:Int)(x5:Int)(x6:Bool):Pg akz:=opt (ba x0) λd=>opt (bz x0 16) λaj=>opt (bz x0 19) λaI=>opt (eF d.1 d.2.1 d.2.2.1 d.2.2.2 x6) λbp=>opt (ON bp.1 aj.1 aj.2.1 aj.2.2 bp.2) λcg=>opt (aeX d.1 d.2.1 d.2.2.1 d.2.2.2) λd=>opt (aam d.1 d.2.1 d.2.2.1 d.2.2.2 aj.1 aj.2.1 aj.2.2 cg.2) λd=>let n2:=d.1.2.2;let n1:=n2.2.2.2;let n3:=n1.2.2.2;opt (bS 2 d.2 (cr cg.1.1 [aI.1,cg.1.1]) true) λdF=>opt (aU x1 dF.1 dF.2) λcH=>opt (bS 2 cH.2 (cr cg.1.2.1 [aI.2.1,cg.1.2.1]) true) λln=>opt (aU x2 ln.1 ln.2) λqC=>opt (bS 2 qC.2 (cr cg.1.2.2 [aI.2.2,cg.1.2.2]) true) λnm=>opt (aU x3 nm.1 nm.2) λkE=>ret (kE.2,λj=>bif Nat.beq j 19 then 1073741824 else bif Nat.beq j 18 then bp.1 6 else bif Nat.beq j 17 then bp.1 3 else bif Nat.beq j 16 then bp.1 0 else bif Nat.beq j 3 then wI (0-n2.2.1) else bif Nat.beq j 2 then wI (0-n2.1) else bif Nat.beq j 1 then wI (0-d.1.2.1) else bif Nat.beq j 0 then d.1.1 else 0,cH.1,x4,x5,λj=>bif Nat.beq j 20 then 1073741824 else bif Nat.beq j 18 then bp.1 7 else bif Nat.beq j 17 then bp.1 4 else bif Nat.beq j 16 then bp.1 1 else bif Nat.beq j 3 then wI (0-n1.2.2.1) else bif Nat.beq j 2 then wI (0-n1.2.1) else bif Nat.beq j 1 then wI (0-n1.1) else bif Nat.beq j 0 then n2.2.2.1 else 0,qC.1,λj=>bif Nat.beq j 21 then 1073741824 else bif Nat.beq j 18 then bp.1 8 else bif Nat.beq j 17 then bp.1 5 else bif Nat.beq j 16 then bp.1 2 else bif Nat.beq j 3 then wI (0-n3.2.2.2) else bif Nat.beq j 2 then wI (0-n3.2.2.1) else bif Nat.beq j 1 then wI (0-n3.2.1) else bif Nat.beq j 0 then n3.1 else 0,kE.1)
def OO:=λx0 x1 x2 x3 x4 x5 x6=>(akA bV ee jh vL zr wH cC bD x0 x1 x2 x3 x4 x5 x6).val
abbrev akB:=dA×ky×oO×CP×JM×Gg×eH×cO
def ax3 (p:akB):KK:=⟨[iI p.1,pn p.2.1,Bs p.b.1,XX p.b.2.1,ad8 p.c.1,aad p.c.2.1,m6 p.c.b.1,gD p.c.b.2],⟨[⟨7,(1::2::4::5::rg 7 4 (rg 16 23 (rg 40 62 []))),[]⟩,⟨11,(1::2::4::5::rg 7 4 (rg 18 21 (rg 40 23 (rg 65 37 [])))),[]⟩,⟨18,(1::2::4::5::rg 7 4 (rg 18 21 (rg 40 38 (rg 79 23 [])))),[]⟩],[],[],[],(some ⟨0,(rg 0 8 (rg 9 93 [])),[]⟩)⟩,0,233⟩
theorem aJy (p:akB):D2 (ax3 p) axZ ax0 λb=>akA p.1 p.2.1 p.b.1 p.b.2.1 p.c.1 p.c.2.1 p.c.b.1 p.c.b.2 b.1.1 b.1.2.1.1.1 b.1.2.1.1.2.1 b.1.2.1.1.b b.1.2.1.2 b.1.b b.2:=λb=>by kernel_rfl
abbrev ax4:akB:=(bV,ee,jh,vL,zr,wH,cC,bD)
theorem aJz [ax]:SC (ax2 OO):=sc (kS (k:=ax3 ax4) (.c jA (.c sH (.c Eg (.c aji (.c arX (.c aoo (.c pk (.c iv (.nil _))))))))) [7,11,18] [] ⟨kN,⟨kN,⟨kN,trivial⟩⟩⟩ trivial (aJy ax4))
def aou:=qa (pr (cu aN EX) cq)
def VD:=qe (res (pr aKv (pl k9 nil)))
abbrev aov:=VD.B
abbrev NY:=Int->Int->Int->Bool->Option aov
def aan (g:NY):Ct:=(248,FC aou (lf VD) (λb=>g b.1.1 b.1.2.1 b.1.b b.2))
def aao (jg:wC)(py:Zp)(x0:Int)(x1:Int)(x2:Int)(x3:Bool):Pg aov:=opt (jg 2 x3 (cr x0 [x1,x0]) true) λd=>ae (decide (d.1<16777216)) (ret ((0,false),d.2)) (opt (py x1 x0 d.2) λd=>ret ((d.1,true),d.2))
def wL:=λx0 x1 x2 x3=>(aao fJ wB x0 x1 x2 x3).val
theorem aDx:∀jg py,D0 [Gb jg,Zq py] 248 aou (lf VD) λb=>aao jg py b.1.1 b.1.2.1 b.1.b b.2:=λ_ _ b=>by kernel_rfl
theorem aow [ax]:SC (aan wL):=s0 (.c NP (.c anI (.nil _))) (aDx fJ wB)
def akC:=qa (pr (cu aN (c jW (c aKE Cz))) cq)
def Q4:=qe az9
abbrev akD:=Q4.B
abbrev akE:=NI->Int->Int->Int->Int->Int->Int->Int->Bool->Option akD
def akF (g:akE):Ct:=(235,FC akC (lf Q4) (λb=>g b.1.1 b.1.2.1.1.1 b.1.2.1.1.2.1 b.1.2.1.1.b b.1.2.1.2 b.1.b.1 b.1.b.2.1 b.1.c b.2))
def VE (ba:dA)(eF:oO)(bz:ky)(my:HC)(gT:Ec)(Bx:NY)(jg:wC)(aU:cO)(cR:vH)(bb:ek)(bS:eH)(aD:cv)(x0:Nat->Int)(x1:Int)(x2:Int)(x3:Int)(x4:Int)(x5:Int)(x6:Int)(x7:Int)(x8:Bool):Pg akD:=opt (ba x0) λd=>let n1:=d.2.2;opt (eF d.1 d.2.1 n1.1 n1.2 x8) λaj=>opt (bz x0 19) λaI=>opt (my x1 x2 x3 aI.1 aI.2.1 aI.2.2 aj.2) λbp=>opt (gT aj.1 bp.1.1 bp.1.2.1 bp.1.2.2 bp.2) λcg=>opt (Bx cg.1.1 cg.1.2.1 cg.1.2.2 cg.2) λdF=>ae (!dF.1.2) (ret (((λx=>0,0,0,0),4),dF.2)) (opt (jg 2 dF.2 (cr (aj.1 0) [aj.1 3,aj.1 0]) true) λcH=>ae (decide (cH.1<16777216)) (ret (((λx=>0,0,0,0),4),cH.2)) (opt (aU x5 dF.1.1 cH.2) λln=>opt (cR ln.1) λqC=>opt (bb 30 2 2 ln.2 (cr (aj.1 0) [aj.1 3,aj.1 0]) (cr (aj.1 0) [aj.1 3,aj.1 0]) true true) λnm=>opt (bS 2 nm.2 (cr d.1 [d.1,d.1]) true) λkE=>opt (bS 2 kE.2 (cr d.2.1 [d.2.1,d.2.1]) true) λuA=>opt (bS 2 uA.2 (cr n1.1 [n1.1,n1.1]) true) λIH=>opt (bS 2 IH.2 (cr n1.2 [n1.2,n1.2]) true) λd=>opt (bb 30 2 2 d.2 (cr (aj.1 0) [wI (0-aj.1 3),aj.1 0]) (cr d.1 [kE.1,d.1]) true true) λJ6=>opt (aD J6.1 nm.1 30 J6.2) λaB7=>opt (bb 30 2 2 aB7.2 (cr (aj.1 0) [wI (0-aj.1 3),aj.1 0]) (cr IH.1 [uA.1,IH.1]) true true) λYg=>opt (aD Yg.1 nm.1 30 Yg.2) λabH=>opt (bb 30 2 2 abH.2 (cr (aj.1 0) [wI (0-aj.1 3),aj.1 0]) (cr uA.1 [wI (0-IH.1),uA.1]) true true) λYh=>opt (aD Yh.1 nm.1 30 Yh.2) λaB8=>opt (bb 30 2 2 aB8.2 (cr (aj.1 0) [wI (0-aj.1 3),aj.1 0]) (cr kE.1 [wI (0-d.1),kE.1]) true true) λd=>opt (aD d.1 nm.1 30 d.2) λd=>ret (((cr 0 [d.1,aB8.1,abH.1,aB7.1],qC,x6,x7),0),d.2)))
def C8:=λx0 x1 x2 x3 x4 x5 x6 x7 x8=>(VE bV jh ee tz nr wL fJ bD jx bn cC bk x0 x1 x2 x3 x4 x5 x6 x7 x8).val
abbrev VF:=dA×oO×ky×HC×Ec×NY×wC×cO×vH×ek×eH×cv
def akG (p:VF):KK:=⟨[iI p.1,Bs p.2.1,pn p.b.1,T3 p.b.2.1,JR p.c.1,aan p.c.2.1,Gb p.c.b.1,gD p.c.b.2.1,zp p.d.1,lN p.d.2.1,m6 p.d.b.1,fI p.d.b.2],⟨[⟨10,(rg 1 11 (13::14::16::17::rg 21 57 (rg 80 58 []))),[]⟩,⟨17,(rg 1 11 (13::14::16::17::20::21::22::rg 25 86 (rg 112 26 []))),[]⟩],[],[],[],(some ⟨0,(rg 0 12 (rg 14 124 [])),[]⟩)⟩,0,235⟩
theorem aCe (p:VF):D2 (akG p) akC (lf Q4) λb=>VE p.1 p.2.1 p.b.1 p.b.2.1 p.c.1 p.c.2.1 p.c.b.1 p.c.b.2.1 p.d.1 p.d.2.1 p.d.b.1 p.d.b.2 b.1.1 b.1.2.1.1.1 b.1.2.1.1.2.1 b.1.2.1.1.b b.1.2.1.2 b.1.b.1 b.1.b.2.1 b.1.c b.2:=λb=>by kernel_rfl
abbrev akH:VF:=(bV,jh,ee,tz,nr,wL,fJ,bD,jx,bn,cC,bk)
theorem aCf [ax]:SC (akF C8):=sc (kS (k:=akG akH) (.c jA (.c Eg (.c sH (.c adY (.c Ss (.c aow (.c NP (.c iv (.c D5 (.c m7 (.c pk (.c gC (.nil _))))))))))))) [10,17] [] ⟨kN,⟨kN,trivial⟩⟩ trivial (aCe akH))
def atd:=qa (pr (cu aN (c acY (c aKE fM))) cq)
def aap:=qe aKS
abbrev ate:=aap.B
abbrev atf:=Int->Int->Int->Int->Int->Int->Int->Int->Int->Bool->Option ate
def atg (g:atf):Ct:=(219,FC atd (lf aap) (λb=>g b.1.1.1 b.1.1.2.1 b.1.1.b.1 b.1.1.b.2 b.1.2.1.1.1 b.1.2.1.1.2.1 b.1.2.1.1.b b.1.2.1.2 b.1.b b.2))
def aeY (eF:oO)(gT:Ec)(Bx:NY)(aU:cO)(cR:vH)(x0:Int)(x1:Int)(x2:Int)(x3:Int)(x4:Int)(x5:Int)(x6:Int)(x7:Int)(x8:Int)(x9:Bool):Pg ate:=opt (eF x0 x1 x2 x3 x9) λd=>opt (gT d.1 x4 x5 x6 d.2) λd=>opt (Bx d.1.1 d.1.2.1 d.1.2.2 d.2) λd=>ae (!d.1.2) (ret ((0,4),d.2)) (opt (aU x8 d.1.1 d.2) λd=>opt (cR d.1) λaj=>ret ((aj,0),d.2))
def KG:=λx0 x1 x2 x3 x4 x5 x6 x7 x8 x9=>(aeY jh nr wL bD jx x0 x1 x2 x3 x4 x5 x6 x7 x8 x9).val
theorem aG1:∀eF gT Bx aU cR,D0 [Bs eF,JR gT,aan Bx,gD aU,zp cR] 219 atd (lf aap) λb=>aeY eF gT Bx aU cR b.1.1.1 b.1.1.2.1 b.1.1.b.1 b.1.1.b.2 b.1.2.1.1.1 b.1.2.1.1.2.1 b.1.2.1.1.b b.1.2.1.2 b.1.b b.2:=λ_ _ _ _ _ b=>by kernel_rfl
theorem aG2 [ax]:SC (atg KG):=s0 (.c Eg (.c Ss (.c aow (.c iv (.c D5 (.nil _)))))) (aG1 jh nr wL bD jx)
def agE:=qa (pl fM nil)
def MM:=qe EU
abbrev agF:=MM.B
abbrev agG:=Int->Option agF
def agH (g:agG):Ct:=(141,FC agE (lf MM) (λb=>g b))
def Q5 (aq:bU)(aE:bM)(x0:Int):Pg agF:=opt (aq (wI (x0*x0)) 17592186044416 1000000 false) λd=>opt (aE d.1 1 72057594037927936 d.2) λd=>ret d.1
def A3:=λx0=>(Q5 aS aX x0).val
theorem aze:∀aq aE,D0 [cT aq,dw aE] 141 agE (lf MM) λb=>Q5 aq aE b:=λ_ _ b=>by kernel_rfl
theorem azf [ax]:SC (agH A3):=s0 (.c c7 (.c dN (.nil _))) (aze aS aX)
def ax5:=qa (pr (cu aN BC) cq)
def aeZ:=qe aKU
abbrev ax6:=aeZ.B
abbrev akI:=Int->Int->Int->Int->Int->Int->Int->Int->Int->Bool->Option ax6
def akJ (g:akI):Ct:=(93,FC ax5 (lf aeZ) (λb=>g b.1.1 b.1.2.1 b.1.b.1 b.1.b.2.1 b.1.c.1 b.1.c.2.1 b.1.c.b.1 b.1.c.b.2.1 b.1.d b.2))
def akK (aq:bU)(Hb:agG)(x0:Int)(x1:Int)(x2:Int)(x3:Int)(x4:Int)(x5:Int)(x6:Int)(x7:Int)(x8:Int)(x9:Bool):Pg ax6:=ae (decide (x1<0)) (ret (((0,0),1),x9)) (ae (decide (x1>300000)) (ret (((0,0),1),x9)) (ae (decide (x2<1)) (ret (((0,0),1),x9)) (ae (decide (x2>1000000)) (ret (((0,0),1),x9)) (opt (aq x1 1073741824 1000 x9) λd=>opt (Hb x2) λaj=>ret (((d.1,aj),0),d.2)))))
def C9:=λx0 x1 x2 x3 x4 x5 x6 x7 x8 x9=>(akK aS A3 x0 x1 x2 x3 x4 x5 x6 x7 x8 x9).val
theorem aJA:∀aq Hb,D1 [cT aq,agH Hb] [0] 93 ax5 (lf aeZ) λb=>akK aq Hb b.1.1 b.1.2.1 b.1.b.1 b.1.b.2.1 b.1.c.1 b.1.c.2.1 b.1.c.b.1 b.1.c.b.2.1 b.1.d b.2:=λ_ _ b=>by kernel_rfl
theorem ax7 [ax]:SC (akJ C9):=s0 (.c c7 (.c azf (.nil _))) (aJA aS A3)
def agI:=qa (pr (cu aN apm) cq)
def MN:=qe auf
abbrev agJ:=MN.B
abbrev A4:=NI->Bool->Option agJ
def Q6 (g:A4):Ct:=(258,FC agI (lf MN) (λb=>g b.1 b.2))
def Q7 (bz:ky)(my:HC)(x0:Nat->Int)(x1:Bool):Pg agJ:=opt (bz x0 4) λd=>opt (my d.1 d.2.1 d.2.2 (x0 22) (x0 23) 0 x1) λd=>ret d
def re:=λx0 x1=>(Q7 ee tz x0 x1).val
theorem azg:∀bz my,D0 [pn bz,T3 my] 258 agI (lf MN) λb=>Q7 bz my b.1 b.2:=λ_ _ b=>by kernel_rfl
theorem agK [ax]:SC (Q6 re):=s0 (.c sH (.c adY (.nil _))) (azg ee tz)
def ath:=qa (pr (cu (app 0 27) EX) (cl aub nil))
def aaq:=qe (res (pu Tc (pl (cl (AF aub) nil) nil)))
abbrev ati:=aaq.B
abbrev KH:=Int->Int->Int->NI->Int->Int->Int->Option ati
def ae0 (g:KH):Ct:=(259,FC ath (lf aaq) (λb=>g b.1.1 b.1.2.1 b.1.b b.2.1 b.b.1 b.b.2.1 b.c))
def ae1 (x0:Int)(x1:Int)(x2:Int)(x3:Nat->Int)(x4:Int)(x5:Int)(x6:Int):Pg ati:=ret (λj=>bif Nat.beq j 6 then x2 else bif Nat.beq j 23 then wI (0-x1) else bif Nat.beq j 5 then x1 else bif Nat.beq j 22 then wI (0-x0) else bif Nat.beq j 4 then x0 else x3 j,x4,x5,x6)
def zY:=λx0 x1 x2 x3 x4 x5 x6=>(ae1 x0 x1 x2 x3 x4 x5 x6).val
abbrev ae2:=Unit
def atj (p:ae2):KK:=⟨[],⟨[⟨2,(1::2::4::rg 6 24 []),[]⟩],[],[],[],(some ⟨0,(rg 0 30 []),[]⟩)⟩,0,259⟩
theorem aG3 (p:ae2):D2 (atj p) ath (lf aaq) λb=>ae1 b.1.1 b.1.2.1 b.1.b b.2.1 b.b.1 b.b.2.1 b.c:=λb=>by kernel_rfl
abbrev atk:ae2:=()
theorem atl [ax]:SC (ae0 zY):=sc (kS (k:=atj atk) (.nil _) [2] [] ⟨kN,trivial⟩ trivial (aG3 atk))
def agL:=qa (pr (cu aN (c jW (c (aa ahS) fM))) cq)
def MO:=qe az9
abbrev agM:=MO.B
abbrev agN:=NI->Int->Int->Int->Bool->Option agM
def agO (g:agN):Ct:=(236,FC agL (lf MO) (λb=>g b.1.1 b.1.2.1.1 b.1.2.1.2 b.1.b b.2))
def Q8 (Q9:A4)(sI:yO)(aU:cO)(aD:cv)(ae3:KH)(x0:Nat->Int)(x1:Int)(x2:Int)(x3:Int)(x4:Bool):Pg agM:=opt (Q9 x0 x4) λd=>opt (sI d.1.1 d.1.2.1 d.1.2.2 d.2) λaj=>ae (decide (aj.1<1073741824)) (ret (((λx=>0,0,0,0),4),aj.2)) (opt (aU x1 aj.1 aj.2) λaI=>opt (aD d.1.1 aj.1 30 aI.2) λbp=>opt (aD d.1.2.1 aj.1 30 bp.2) λcg=>opt (aD d.1.2.2 aj.1 30 cg.2) λd=>opt (ae3 bp.1 cg.1 d.1 (λx=>0) aI.1 x2 x3) λdF=>ret ((dF,0),d.2))
def A5:=λx0 x1 x2 x3 x4=>(Q8 re nX bD bk zY x0 x1 x2 x3 x4).val
abbrev Q':=A4×yO×cO×cv×KH
def agP (p:Q'):KK:=⟨[Q6 p.1,OB p.2.1,gD p.b.1,fI p.b.2.1,ae0 p.c],⟨[⟨8,(rg 1 7 (9::rg 14 19 (rg 34 14 []))),[]⟩],[],[],[],(some ⟨0,(rg 0 8 (rg 10 38 [])),[]⟩)⟩,0,236⟩
theorem azh (p:Q'):D2 (agP p) agL (lf MO) λb=>Q8 p.1 p.2.1 p.b.1 p.b.2.1 p.c b.1.1 b.1.2.1.1 b.1.2.1.2 b.1.b b.2:=λb=>by kernel_rfl
abbrev agQ:Q':=(re,nX,bD,bk,zY)
theorem azi [ax]:SC (agO A5):=sc (kS (k:=agP agQ) (.c agK (.c XN (.c iv (.c gC (.c atl (.nil _)))))) [8] [] ⟨kN,trivial⟩ trivial (azh agQ))
def agR:=qa (pr (cu aN (c jW FZ)) cq)
def MP:=qe az9
abbrev agS:=MP.B
abbrev agT:=NI->Int->Int->Bool->Option agS
def agU (g:agT):Ct:=(237,FC agR (lf MP) (λb=>g b.1.1 b.1.2.1 b.1.b b.2))
def Ra (ba:dA)(eF:oO)(Q9:A4)(ON:CP)(aD:cv)(aB:bJ)(aU:cO)(ae3:KH)(x0:Nat->Int)(x1:Int)(x2:Int)(x3:Bool):Pg agS:=opt (ba x0) λd=>opt (eF d.1 d.2.1 d.2.2.1 d.2.2.2 x3) λd=>opt (Q9 x0 d.2) λaj=>opt (ON d.1 aj.1.1 aj.1.2.1 aj.1.2.2 aj.2) λaI=>let n1:=aI.1.1;ae (decide (n1<5368709120)) (ret (((λx=>0,0,0,0),4),aI.2)) (opt (aD aI.1.2.1 n1 30 aI.2) λbp=>opt (aB bp.1 (d.1 0) 30 bp.2) λcg=>opt (aU (d.1 1) cg.1 cg.2) λdF=>opt (aD dF.1 n1 30 dF.2) λcH=>opt (aB bp.1 (d.1 3) 30 cH.2) λln=>opt (aU (d.1 4) ln.1 ln.2) λqC=>opt (aD qC.1 n1 30 qC.2) λnm=>opt (aB bp.1 (d.1 6) 30 nm.2) λkE=>opt (aU (d.1 7) kE.1 kE.2) λd=>opt (aD d.1 n1 30 d.2) λd=>opt (ae3 cH.1 nm.1 d.1 (λx=>0) (wI (0-bp.1)) x1 x2) λuA=>ret ((uA,0),d.2))
def A6:=λx0 x1 x2 x3=>(Ra bV jh re vL bk aT bD zY x0 x1 x2 x3).val
abbrev Rb:=dA×oO×A4×CP×cv×bJ×cO×KH
def agV (p:Rb):KK:=⟨[iI p.1,Bs p.2.1,Q6 p.b.1,XX p.b.2.1,fI p.c.1,eG p.c.2.1,gD p.c.b.1,ae0 p.c.b.2],⟨[⟨9,(rg 1 7 (9::rg 15 26 (rg 42 26 []))),[]⟩],[],[],[],(some ⟨0,(rg 0 8 (rg 10 58 [])),[]⟩)⟩,0,237⟩
theorem azj (p:Rb):D2 (agV p) agR (lf MP) λb=>Ra p.1 p.2.1 p.b.1 p.b.2.1 p.c.1 p.c.2.1 p.c.b.1 p.c.b.2 b.1.1 b.1.2.1 b.1.b b.2:=λb=>by kernel_rfl
abbrev agW:Rb:=(bV,jh,re,vL,bk,aT,bD,zY)
theorem azk [ax]:SC (agU A6):=sc (kS (k:=agV agW) (.c jA (.c Eg (.c agK (.c aji (.c gC (.c eV (.c iv (.c atl (.nil _))))))))) [9] [] ⟨kN,trivial⟩ trivial (azj agW))
def abU:=qa (pl fM nil)
def KI:=qe EU
abbrev abV:=KI.B
abbrev MQ:=Int->Option abV
def abW (g:MQ):Ct:=(142,FC abU (lf KI) (λb=>g b))
def MR (aq:bU)(aE:bM)(x0:Int):Pg abV:=opt (aq (wI (x0*x0)) 17592186044416 1000000000000 false) λd=>opt (aE d.1 1 72057594037927936 d.2) λd=>ret d.1
def yi:=λx0=>(MR aS aX x0).val
theorem avs:∀aq aE,D0 [cT aq,dw aE] 142 abU (lf KI) λb=>MR aq aE b:=λ_ _ b=>by kernel_rfl
theorem avt [ax]:SC (abW yi):=s0 (.c c7 (.c dN (.nil _))) (avs aS aX)
def atm:=qa (pr (cu aN BC) cq)
def aar:=qe aQH
abbrev atn:=aar.B
abbrev ae4:=Int->Int->Int->Int->Int->Int->Int->Int->Int->Bool->Option atn
def ae5 (g:ae4):Ct:=(94,FC atm (lf aar) (λb=>g b.1.1 b.1.2.1 b.1.b.1 b.1.b.2.1 b.1.c.1 b.1.c.2.1 b.1.c.b.1 b.1.c.b.2.1 b.1.d b.2))
def ae6 (aq:bU)(avu:MQ)(x0:Int)(x1:Int)(x2:Int)(x3:Int)(x4:Int)(x5:Int)(x6:Int)(x7:Int)(x8:Int)(x9:Bool):Pg atn:=ae (decide (x1< -10000000)) (ret (((0,0,0,0),1),x9)) (ae (decide (x1>10000000)) (ret (((0,0,0,0),1),x9)) (ae (decide (x2< -10000000)) (ret (((0,0,0,0),1),x9)) (ae (decide (x2>10000000)) (ret (((0,0,0,0),1),x9)) (ae (decide (x3<1)) (ret (((0,0,0,0),1),x9)) (ae (decide (x3>10000000)) (ret (((0,0,0,0),1),x9)) (ae (decide (x4<0)) (ret (((0,0,0,0),1),x9)) (ae (decide (x4>100)) (ret (((0,0,0,0),1),x9)) (opt (aq x1 1073741824 1000000 x9) λd=>opt (aq x2 1073741824 1000000 d.2) λaj=>opt (avu x3) λaI=>ret (((d.1,aj.1,aI,x4),0),aj.2)))))))))
def zZ:=λx0 x1 x2 x3 x4 x5 x6 x7 x8 x9=>(ae6 aS yi x0 x1 x2 x3 x4 x5 x6 x7 x8 x9).val
abbrev ae7:=bU×MQ
def ato (p:ae7):KK:=⟨[cT p.1,abW p.2],⟨[⟨2,(1::rg 5 4 (rg 12 4 (17::rg 20 8 (32::33::38::39::rg 44 20 [])))),[]⟩],[],[0],[],(some ⟨0,(rg 0 4 (rg 6 58 [])),[]⟩)⟩,0,94⟩
theorem aG4 (p:ae7):D2 (ato p) atm (lf aar) λb=>ae6 p.1 p.2 b.1.1 b.1.2.1 b.1.b.1 b.1.b.2.1 b.1.c.1 b.1.c.2.1 b.1.c.b.1 b.1.c.b.2.1 b.1.d b.2:=λb=>by kernel_rfl
abbrev atp:ae7:=(aS,yi)
theorem atq [ax]:SC (ae5 zZ):=sc (kS (k:=ato atp) (.c c7 (.c avt (.nil _))) [2] [] ⟨kN,trivial⟩ trivial (aG4 atp))
def abX:=qa (pr (cu aN apm) cq)
def KJ:=qe aKS
abbrev abY:=KJ.B
abbrev MS:=NI->Bool->Option abY
def abZ (g:MS):Ct:=(260,FC abX (lf KJ) (λb=>g b.1 b.2))
def MT (ba:dA)(eF:oO)(aD:cv)(x0:Nat->Int)(x1:Bool):Pg abY:=opt (ba x0) λd=>opt (eF d.1 d.2.1 d.2.2.1 d.2.2.2 x1) λd=>ae (decide (d.1 8<751619277)) (ret ((0,4),d.2)) (opt (aD (x0 9) (d.1 8) 30 d.2) λd=>let y0:=wI (0-d.1);ae (decide (y0<536870912)) (ret ((0,4),d.2)) (ret ((y0,0),d.2)))
def yj:=λx0 x1=>(MT bV jh bk x0 x1).val
theorem avv:∀ba eF aD,D0 [iI ba,Bs eF,fI aD] 260 abX (lf KJ) λb=>MT ba eF aD b.1 b.2:=λ_ _ _ b=>by kernel_rfl
theorem avw [ax]:SC (abZ yj):=s0 (.c jA (.c Eg (.c gC (.nil _)))) (avv bV jh bk)
def atr:=qa (pr (cu aN (c jW (c acY fM))) cq)
def agX:=qe (res (pr aPZ (pl k9 nil)))
def azl:=qe (res (pu (o9 (cu (rc (je (pu Cw (pu xE (pu (szl rq4) (pu (nat 27) ju)))))) ahU)) (pr k9 (cl aKY nil))))
abbrev SE:=agX.B⊕(Bool×NI×Int×Int×Int×NI×Int)
def ats:SE->T:=ls (lf agX) (λd=>lf azl (d.1,d.2.1,d.b.1,d.b.2.1,d.c.1,d.c.2.1,d.c.b,d.b.2.1,d.c.1))
abbrev att:=NI->Int->Int->Int->Int->Int->Bool->Option SE
def atu (g:att):Ct:=(238,FC atr ats (λb=>g b.1.1 b.1.2.1.1 b.1.2.1.2.1 b.1.2.1.b.1 b.1.2.1.b.2 b.1.b b.2))
def SF (avx:MS)(ba:dA)(eF:oO)(bz:ky)(ON:CP)(aD:cv)(aU:cO)(x0:Nat->Int)(x1:Int)(x2:Int)(x3:Int)(x4:Int)(x5:Int)(x6:Bool):Pg SE:=ae (decide (x4<30)) (ret (Sum.inl (4,x6))) (opt (avx x0 x6) λd=>let n1:=d.1.1;ae (d.1.2!=0) (ret (Sum.inl (d.1.2,d.2))) (opt (ba x0) λaj=>opt (eF aj.1 aj.2.1 aj.2.2.1 aj.2.2.2 d.2) λaI=>opt (bz x0 4) λbp=>opt (ON aI.1 bp.1 bp.2.1 bp.2.2 aI.2) λcg=>opt (aD cg.1.2.1 n1 30 cg.2) λdF=>opt (aU x1 dF.1 dF.2) λcH=>opt (aD cg.1.1 n1 30 cH.2) λln=>opt (aU x2 (wI (0-ln.1)) ln.2) λqC=>opt (aD (aI.1 1) n1 30 qC.2) λnm=>opt (aD (aI.1 0) n1 30 nm.2) λkE=>opt (aD (aI.1 4) n1 30 kE.2) λuA=>opt (aD (aI.1 3) n1 30 uA.2) λIH=>opt (aD (aI.1 7) n1 30 IH.2) λJ6=>opt (aD (aI.1 6) n1 30 J6.2) λd=>ret (Sum.inr (d.2,λj=>bif Nat.beq j 6 then J6.1 else bif Nat.beq j 5 then uA.1 else bif Nat.beq j 4 then nm.1 else 0,cH.1,x3,x5,λj=>bif Nat.beq j 6 then wI (0-d.1) else bif Nat.beq j 5 then wI (0-IH.1) else bif Nat.beq j 4 then wI (0-kE.1) else 0,qC.1))))
def z5:=λx0 x1 x2 x3 x4 x5 x6=>(SF yj bV jh ee vL bk bD x0 x1 x2 x3 x4 x5 x6).val
abbrev ae8:=MS×dA×oO×ky×CP×cv×cO
def atv (p:ae8):KK:=⟨[abZ p.1,iI p.2.1,Bs p.b.1,pn p.b.2.1,XX p.c.1,fI p.c.2.1,gD p.c.b],⟨[⟨11,(rg 1 9 (11::13::rg 16 49 (rg 66 30 []))),[]⟩],[],[0],[],(some ⟨0,(rg 0 8 (rg 10 86 [])),[]⟩)⟩,0,238⟩
theorem aG5 (p:ae8):D2 (atv p) atr ats λb=>SF p.1 p.2.1 p.b.1 p.b.2.1 p.c.1 p.c.2.1 p.c.b b.1.1 b.1.2.1.1 b.1.2.1.2.1 b.1.2.1.b.1 b.1.2.1.b.2 b.1.b b.2:=λb=>by kernel_rfl
abbrev atw:ae8:=(yj,bV,jh,ee,vL,bk,bD)
theorem aG6 [ax]:SC (atu z5):=sc (kS (k:=atv atw) (.c avw (.c jA (.c Eg (.c sH (.c aji (.c gC (.c iv (.nil _)))))))) [11] [] ⟨kN,trivial⟩ trivial (aG5 atw))
def atx:=qa (pl fM nil)
def aas:=qe BB
abbrev aty:=aas.B
abbrev SG:=Int->Option aty
def SH (g:SG):Ct:=(83,FC atx (lf aas) (λb=>g b))
def SI (x0:Int):Pg aty:=ae (decide (x0>=0)) (ret (decide (x0<6))) (ret false)
def nD:=λx0=>(SI x0).val
theorem aG7:D0 [] 83 atx (lf aas) λb=>SI b:=λb=>by kernel_rfl
theorem ae9 [ax]:SC (SH nD):=s0 (.nil _) aG7
def OP:=qa (pr (cu FX fM) aKA)
def BH:=qe (res (pu Tc (pl (cl (AF (cl gi (cu aQ (cu at7 nil)))) nil) nil)))
abbrev OQ:=BH.B
abbrev OR:=Int->Int->Int->Bool->Option OQ
def OS (g:OR):Ct:=(265,FC OP (lf BH) (λb=>g b.1 b.2.1 b.b.1 b.b.2))
def C' (x0:Int)(x1:Int)(x2:Int)(x3:Bool):Pg OQ:=ae (!x3) (ret x0) (ae (decide (x0>x1)) (ret x0) (ret x1))
def pV:=λx0 x1 x2 x3=>(C' x0 x1 x2 x3).val
theorem akL:D0 [] 265 OP (lf BH) λb=>C' b.1 b.2.1 b.b.1 b.b.2:=λb=>by kernel_rfl
theorem akM [ax]:SC (OS pV):=s0 (.nil _) akL
def OT:=qa (pu (cu FX nil) aKA)
def BI:=qe (res (pu Tc (pl (cl (AF aKt) nil) nil)))
abbrev OU:=BI.B
abbrev OV:=Int->Int->Bool->Option OU
def OW (g:OV):Ct:=(266,FC OT (lf BI) (λb=>g b.1 b.2.1 b.b))
def Da (x0:Int)(x1:Int)(x2:Bool):Pg OU:=let y0:=wI (x1+1);ret (x0,if 1000<y0 then 1000 else y0,x2)
def pW:=λx0 x1 x2=>(Da x0 x1 x2).val
theorem akN:D0 [] 266 OT (lf BI) λb=>Da b.1 b.2.1 b.b:=λb=>by kernel_rfl
theorem akO [ax]:SC (OW pW):=s0 (.nil _) akN
def Gj:=qa (dp (cu awa (c ai (c ai aFm))) λa=>(c lk (cl (cl (gs a.b.1 apj) nil) nil)))
def uH:=qe (res (pu Tc (pl (cl az7 Xc) nil)))
abbrev Gk:=uH.B
abbrev Gl:=Int->Int->Nat->NI->NI->(Nat->Bool)->NI->NI->NI->Int->(Nat->Bool)->NI->NI->Bool->Option Gk
def Gm (g:Gl):Ct:=(256,sE 3 [.b,.i .i64,.i .i64] (FC Gj (lf uH) (λb=>g b.1.1 b.1.2.1 b.1.b.1 b.2.1.1.1 b.2.1.1.2.1 b.2.1.1.b.1 b.2.1.1.b.2.1 b.2.1.1.c.1 b.2.1.1.c.2 b.2.1.2 b.b.1 b.b.2.1 b.c b.1.b.2)))
def wM (jE:SG)(pz:Z4)(vU:OR)(vV:OV)(x0:Int)(x1:Int)(x2:Nat)(x3:Nat->Int)(x4:Nat->Int)(x5:Nat->Bool)(x6:Nat->Int)(x7:Nat->Int)(x8:Nat->Int)(x9:Int)(fS:Nat->Bool)(fT:Nat->Int)(BF:Nat->Int)(w0:Bool):Pg Gk:=let n3:=((x5,x6,x7,x8).1 (Int.toNat x0));let n2:=((x4,x5,x6,x7,x8).1 (Int.toNat x0));let n1:=((x3,x4,x5,x6,x7,x8).1 (Int.toNat x0));let y0:=aW x0 6;let y1:=0+Int.toNat x0*6+3;let y2:=Nat.ble y1 36;let y3:=y2&&Nat.ble y1 37;opt (jE x0) λd=>ae (!d) (ret ((x3,x4,x5,x6,x7,x8),x9)) (ae (Int.ofNat x2==0) (ret ((x3,x4,x5,x6,x7,x8),x9)) (ae (Nat.beq x2 x2) (opt (pz x2 fS fT BF (w0&&true)) λd=>ae (decide (d.1>0)) (ae y0 (ae y2 (opt (vU x1 n1 n2 n3) λd=>ae y3 (ret ((λj=>bif Nat.beq j (Int.toNat x0) then d else(x3,x4,x5,x6,x7,x8).1 j,λj=>bif Nat.beq j (Int.toNat x0) then 0 else(x4,x5,x6,x7,x8).1 j,λj=>bif Nat.beq j (Int.toNat x0) then true else(x5,x6,x7,x8).1 j,x6,x7,x8),x9)) no) no) no) (ae y0 (ae y2 (opt (vV n1 n2 n3) λd=>ae y3 (ret ((λj=>bif Nat.beq j (Int.toNat x0) then d.1 else(x3,x4,x5,x6,x7,x8).1 j,λj=>bif Nat.beq j (Int.toNat x0) then d.2.1 else(x4,x5,x6,x7,x8).1 j,λj=>bif Nat.beq j (Int.toNat x0) then d.2.2 else(x5,x6,x7,x8).1 j,x6,x7,x8),x9)) no) no) no)) no))
def lP:=λx0 x1 x2 x3 x4 x5 x6 x7 x8 x9 fS fT BF w0=>(wM nD wG pV pW x0 x1 x2 x3 x4 x5 x6 x7 x8 x9 fS fT BF w0).val
theorem aat:∀jE pz vU vV,D1 [SH jE,Z5 pz,OS vU,OW vV] [0] 256 Gj (lf uH) λb=>wM jE pz vU vV b.1.1 b.1.2.1 b.1.b.1 b.2.1.1.1 b.2.1.1.2.1 b.2.1.1.b.1 b.2.1.1.b.2.1 b.2.1.1.c.1 b.2.1.1.c.2 b.2.1.2 b.b.1 b.b.2.1 b.c b.1.b.2:=λ_ _ _ _ b=>by kernel_rfl
theorem aau [ax]:SC (Gm lP):=sc (Sound.nil 3 [.b,.i .i64,.i .i64]<|k0 (.c ae9 (.c aof (.c akM (.c akO (.nil _))))) (aat nD wG pV pW))
def Lr:=qa (pr (cu FX FZ) aKA)
def z6:=qe aFv
abbrev Ls:=z6.B
abbrev Lt:=Int->Int->Int->Int->Bool->Option Ls
def Lu (g:Lt):Ct:=(46,FC Lr (lf z6) (λb=>g b.1.1 b.1.2 b.2.1 b.b.1 b.b.2))
def BJ (x0:Int)(x1:Int)(x2:Int)(x3:Int)(x4:Bool):Pg Ls:=let y0:=decide (x1>=0);ae (!x4) (ret false) (ae (decide (x0>=x2)) (ae y0 (ret (decide (wU (wU x0-wU x2)<=wU x1))) (ret false)) (ae y0 (ret true) (ret (decide (wU (wU x2-wU x0)>=wU (0-wU x1))))))
def oA:=λx0 x1 x2 x3 x4=>(BJ x0 x1 x2 x3 x4).val
theorem ahz:D0 [] 46 Lr (lf z6) λb=>BJ b.1.1 b.1.2 b.2.1 b.b.1 b.b.2:=λb=>by kernel_rfl
theorem ahA [ax]:SC (Lu oA):=s0 (.nil _) ahz
def IJ:=qa (pr (cu (app 0 6) fM) (cl (a 3 aKt ld) nil))
def wN:=qe aFv
abbrev IK:=wN.B
abbrev qN:=Int->Int->Int->Bool->Int->Int->Int->Option IK
def yk (g:qN):Ct:=(18,FC IJ (lf wN) (λb=>g b.1 b.2.1.1 b.2.1.2.1 b.2.1.b b.b.1 b.b.2.1 b.c))
def ym (uu:Lt)(x0:Int)(x1:Int)(x2:Int)(x3:Bool)(x4:Int)(x5:Int)(x6:Int):Pg IK:=opt (uu x0 x5 x1 x2 x3) λd=>ae d (ret (decide (x2<=x6))) (ret false)
def il:=λx0 x1 x2 x3 x4 x5 x6=>(ym oA x0 x1 x2 x3 x4 x5 x6).val
theorem ab0:∀uu,D0 [Lu uu] 18 IJ (lf wN) λb=>ym uu b.1 b.2.1.1 b.2.1.2.1 b.2.1.b b.b.1 b.b.2.1 b.c:=λ_ b=>by kernel_rfl
theorem IL [ax]:SC (yk il):=s0 (.c ahA (.nil _)) (ab0 oA)
def Gn:=qa (pr (cu awa FZ) az8)
def uJ:=qe aFv
abbrev Gp:=uJ.B
abbrev wO:=Int->Int->NI->NI->(Nat->Bool)->NI->NI->NI->Int->Option Gp
def Gq (g:wO):Ct:=(110,FC Gn (lf uJ) (λb=>g b.1.1 b.1.2 b.2.1.1 b.2.1.2.1 b.2.1.b.1 b.2.1.b.2.1 b.2.1.c.1 b.2.1.c.2 b.b))
def wP (jE:SG)(jT:qN)(x0:Int)(x1:Int)(x2:Nat->Int)(x3:Nat->Int)(x4:Nat->Bool)(x5:Nat->Int)(x6:Nat->Int)(x7:Nat->Int)(x8:Int):Pg Gp:=opt (jE x0) λd=>ae d (ae (aW x0 6) (ae (Nat.ble (0+Int.toNat x0*6+6) 36) (opt (jT x1 ((x2,x3,x4,x5,x6,x7).1 (Int.toNat x0)) ((x3,x4,x5,x6,x7).1 (Int.toNat x0)) ((x4,x5,x6,x7).1 (Int.toNat x0)) ((x5,x6,x7).1 (Int.toNat x0)) (x6 (Int.toNat x0)) (x7 (Int.toNat x0))) λd=>ret d) no) no) (ret false)
def lQ:=λx0 x1 x2 x3 x4 x5 x6 x7 x8=>(wP nD il x0 x1 x2 x3 x4 x5 x6 x7 x8).val
theorem aav:∀jE jT,D0 [SH jE,yk jT] 110 Gn (lf uJ) λb=>wP jE jT b.1.1 b.1.2 b.2.1.1 b.2.1.2.1 b.2.1.b.1 b.2.1.b.2.1 b.2.1.c.1 b.2.1.c.2 b.b:=λ_ _ b=>by kernel_rfl
theorem aaw [ax]:SC (Gq lQ):=s0 (.c ae9 (.c IL (.nil _))) (aav nD il)
def Gr:=qa (pr (cu awa fM) az8)
def uK:=qe aua
abbrev Gs:=uK.B
abbrev Gu:=Int->NI->NI->(Nat->Bool)->NI->NI->NI->Int->Option Gs
def Gv (g:Gu):Ct:=(43,FC Gr (lf uK) (λb=>g b.1 b.2.1.1 b.2.1.2.1 b.2.1.b.1 b.2.1.b.2.1 b.2.1.c.1 b.2.1.c.2 b.b))
def dg:=qs (st (pr (cu awa (c ai (us 3 (c ai (us 2 aFl))))) (pl (cl pJ nil) nil)))
def Db:=qs (st (pr (cu awa (c ai (us 3 (c ai (us 2 aFs))))) (pl (cl pJ nil) nil)))
abbrev im:=Db.B
def Dc {ρ:Type}:=@ef im ((.ex 0)) Db ρ
def tJ (jT:qN)(d:dg.B):PL dg im:=let n3:=d.1.1;let n2:=d.2.1.2.2;let n1:=d.1.2;let y0:=Int.toNat n1.2;let y1:=y0*6;let y2:=wI (n1.2+1);let y3:=decide (n1.2<6);ae y3 (ae (aW n1.2 6) (ae (Nat.ble (2+y1+1) 36) (ae (n2.1 y0) (ae (Nat.ble (0+y1+6) 36) (opt (jT n3 (d.2.1.1 y0) (d.2.1.2.1 y0) (n2.1 y0) (n2.2.1 y0) (n2.2.2.1 y0) (n2.2.2.2 y0)) λaj=>ae (!aj) (ae (!decide (n1.2<0)) (ret (Sum.inl ((n3,wI (n1.1+wI (1*2^min y0 64)),y2),d.2))) no) (ret (Sum.inl ((n3,n1.1,y2),d.2)))) no) (ret (Sum.inl ((n3,n1.1,y2),d.2)))) no) no) (ret (Sum.inr ((n3,n1.1,n1.2,y3),d.2)))
def tK:=bA (tJ il) 2000
def wQ (dI:LT dg im)(x0:Int)(x1:Nat->Int)(x2:Nat->Int)(x3:Nat->Bool)(x4:Nat->Int)(x5:Nat->Int)(x6:Nat->Int)(x7:Int):Pg Gs:=opt (dI ((x0,0,0),(x1,x2,x3,x4,x5,x6),x7)) λd=>ret d.1.2.1
def lR:=λx0 x1 x2 x3 x4 x5 x6 x7=>(wQ tK x0 x1 x2 x3 x4 x5 x6 x7).val
abbrev pA:=qN×(LT dg im)
def wR (p:pA):KK:=⟨[yk p.1],⟨[⟨3,(2::3::4::6::7::rg 9 13 (rg 26 7 (rg 22 4 []))),[]⟩],[fH 3 1 dg Dc p.2],[],[],(some ⟨0,(rg 0 4 (rg 5 28 [])),[]⟩)⟩,1,43⟩
theorem SJ (p:pA):LI (wR p) 3 dg Dc (tJ p.1):=λ_ d c K=>by kernel_rfl
theorem aax (p:pA):D2 (wR p) Gr (lf uK) λb=>wQ p.2 b.1 b.2.1.1 b.2.1.2.1 b.2.1.b.1 b.2.1.b.2.1 b.2.1.c.1 b.2.1.c.2 b.b:=λb=>by kernel_rfl
abbrev wS:pA:=(il,tK)
theorem aay [ax]:SC (Gv lR):=sc (kS (k:=wR wS) (.c IL (.nil _)) [3] [] ⟨kL (SJ wS),trivial⟩ trivial (aax wS))
def Lv:=qa (pu (cu awa nil) az8)
def z7:=qe aFv
abbrev Lw:=z7.B
abbrev Lx:=NI->NI->(Nat->Bool)->NI->NI->NI->Int->Option Lw
def Ly (g:Lx):Ct:=(44,FC Lv (lf z7) (λb=>g b.1.1 b.1.2.1 b.1.b.1 b.1.b.2.1 b.1.c.1 b.1.c.2 b.2))
def BK (x0:Nat->Int)(x1:Nat->Int)(x2:Nat->Bool)(x3:Nat->Int)(x4:Nat->Int)(x5:Nat->Int)(x6:Int):Pg Lw:=ret (decide (x6>=10))
def oB:=λx0 x1 x2 x3 x4 x5 x6=>(BK x0 x1 x2 x3 x4 x5 x6).val
theorem ahB:D0 [] 44 Lv (lf z7) λb=>BK b.1.1 b.1.2.1 b.1.b.1 b.1.b.2.1 b.1.c.1 b.1.c.2 b.2:=λb=>by kernel_rfl
theorem ahC [ax]:SC (Ly oB):=s0 (.nil _) ahB
def Dd:=qa (pr (cu awa (c (aa aFr) (cl (aa aFr) nil))) az8)
def rM:=qe (res (pu Tc (pl (cl az7 nil) nil)))
abbrev De:=rM.B
abbrev Df:=Bool->Int->Int->Bool->Int->Int->NI->NI->(Nat->Bool)->NI->NI->NI->Int->Option De
def Dg (g:Df):Ct:=(230,FC Dd (lf rM) (λb=>g b.1.1.1 b.1.1.2.1 b.1.1.b b.1.2.1 b.1.b.1 b.1.b.2 b.2.1.1 b.2.1.2.1 b.2.1.b.1 b.2.1.b.2.1 b.2.1.c.1 b.2.1.c.2 b.b))
def tL (x0:Bool)(x1:Int)(x2:Int)(x3:Bool)(x4:Int)(x5:Int)(x6:Nat->Int)(x7:Nat->Int)(x8:Nat->Bool)(x9:Nat->Int)(fS:Nat->Int)(fT:Nat->Int)(BF:Int):Pg De:=let y0:=wI (BF+1);let y1:=wI (BF-1);ae (decide (x1>0)) (ae (decide (x4>0)) (ae (!x0) (ae (!x3) (ret ((x6,x7,x8,x9,fS,fT),if 1000<y0 then 1000 else y0)) (ret ((x6,x7,x8,x9,fS,fT),if 0>y1 then 0 else y1))) (ret ((x6,x7,x8,x9,fS,fT),if 0>y1 then 0 else y1))) (ae (decide (x1<0)) (ae (!x0) (ae (!x3) (ae (decide (x4<0)) (ret ((x6,x7,x8,x9,fS,fT),if 1000<y0 then 1000 else y0)) (ret ((x6,x7,x8,x9,fS,fT),if 0>y1 then 0 else y1))) (ret ((x6,x7,x8,x9,fS,fT),if 0>y1 then 0 else y1))) (ret ((x6,x7,x8,x9,fS,fT),if 0>y1 then 0 else y1))) (ae (!x0) (ae (!x3) (ret ((x6,x7,x8,x9,fS,fT),if 0>y1 then 0 else y1)) (ret ((x6,x7,x8,x9,fS,fT),if 0>y1 then 0 else y1))) (ret ((x6,x7,x8,x9,fS,fT),if 0>y1 then 0 else y1))))) (ae (decide (x1<0)) (ae (!x0) (ae (!x3) (ae (decide (x4<0)) (ret ((x6,x7,x8,x9,fS,fT),if 1000<y0 then 1000 else y0)) (ret ((x6,x7,x8,x9,fS,fT),if 0>y1 then 0 else y1))) (ret ((x6,x7,x8,x9,fS,fT),if 0>y1 then 0 else y1))) (ret ((x6,x7,x8,x9,fS,fT),if 0>y1 then 0 else y1))) (ae (!x0) (ae (!x3) (ret ((x6,x7,x8,x9,fS,fT),if 0>y1 then 0 else y1)) (ret ((x6,x7,x8,x9,fS,fT),if 0>y1 then 0 else y1))) (ret ((x6,x7,x8,x9,fS,fT),if 0>y1 then 0 else y1))))
def ko:=λx0 x1 x2 x3 x4 x5 x6 x7 x8 x9 fS fT BF=>(tL x0 x1 x2 x3 x4 x5 x6 x7 x8 x9 fS fT BF).val
theorem VG:D0 [] 230 Dd (lf rM) λb=>tL b.1.1.1 b.1.1.2.1 b.1.1.b b.1.2.1 b.1.b.1 b.1.b.2 b.2.1.1 b.2.1.2.1 b.2.1.b.1 b.2.1.b.2.1 b.2.1.c.1 b.2.1.c.2 b.b:=λb=>by kernel_rfl
theorem VH [ax]:SC (Dg ko):=s0 (.nil _) VG
end Go.Proofs.YtldgljclcgaibaaGreat
namespace Go.Proofs.YtldgljclcgaibaaGreat
open Go.Ab Go.Ab.Pg
instance aNs (x0:Nat->Int)(x1:Nat->Int)(x2:Nat->Int)(x3:Int)(x4:Bool):bj (vO x0 x1 x2 x3 x4):=by
 unfold vO Kh
 refine aF ?_
 rw[bx];intro d1 _
 refine aA (akb _ (by simp)) λd _ hd=> ?_
 refine aA (aka _ (by simp)) λd _ hd=> ?_
 simp only[bB]
instance aWc (x0 x1 x2:Int):bj (CY x0 x1 x2):=by
 have h1:=oi x0
 have h2:=oi x1
 obtain⟨a,b,e,_,_⟩:=Bu (sat x0) (sat x0) (by omega) (by omega) (by omega) (by omega)
 unfold CY U4
 refine aF ?_
 rw[oz,bR,oz,bR,aL]
 refine⟨λ_=>by rw[av];trivial,λc1=> ?_⟩
 rw[aL]
 refine⟨λ_=>by rw[av];trivial,λc2=> ?_⟩
 rw[aL]
 refine⟨λ_=>by rw[av];trivial,λc3=> ?_⟩
 have c1:=of_decide_eq_false c1
 have c2:=of_decide_eq_false c2
 have sq:0<=x2*x2∧x2*x2<=1000000:=by
  refine⟨Int.mul_nonneg (by omega) (by omega),?_⟩
  have:=Int.mul_le_mul (show x2<=1000 by omega) (show x2<=1000 by omega) (by omega) (by omega)
  omega
 have w1:wI (x2*x2)=x2*x2:=eK (by omega) (by omega)
 have w2:wI (x2*x2*65536)=x2*x2*65536:=eK (by omega) (by omega)
 obtain⟨a2,b2,e2,_,_⟩:=Bu (x2*x2*65536) (sat x1) (by omega) (by omega) (by omega) (by omega)
 rw[e,bR,w1,w2,e2,bR]
 simp only[bB]
theorem azm (p:Nat×Bool)(a b:Int)(d:mm.B)(hd:0<=d.1.2.2.2∧d.1.2.2.2<=24∧d.1.1=p∧d.1.2.1=a∧d.1.2.2.1=b):Ok (U6 d) (λx:yb=>x.1.1=p∧x.1.2.1=a∧x.1.2.2.1=b):=
 bd (s:=_) (λd:mm.B=>0<=d.1.2.2.2∧d.1.2.2.2<=24∧d.1.1=p∧d.1.2.1=a∧d.1.2.2.1=b) (λd:mm.B=>Int.toNat (24-d.1.2.2.2)) (λx:yb=>x.1.1=p∧x.1.2.1=a∧x.1.2.2.1=b) (λd hd=>by
  have hw:wI (d.1.2.2.2+1)=d.1.2.2.2+1:=bf (by omega) (by omega)
  unfold U5
  simp only[bB]
  simp only[nf,sO,hw]
  repeat' (first|exact True.intro|exact hd.2.2.1|exact hd.2.2.2.1|exact hd.2.2.2.2|omega|(intro _)|(apply And.intro))) 2000 d hd (by omega)
theorem azn (d:mn.B)(hd:0<=d.1.2.2∧d.1.2.2<=d.1.2.1∧d.1.2.1<=1999∧d.1.2.1=((d.1.1.1:Nat):Int)):Ok (U8 d) (λx:yc=>True):=
 bd (s:=_) (λd:mn.B=>0<=d.1.2.2∧d.1.2.2<=d.1.2.1∧d.1.2.1<=1999∧d.1.2.1=((d.1.1.1:Nat):Int)) (λd:mn.B=>Int.toNat (d.1.2.1-d.1.2.2)) (λx:yc=>True) (λd hd=>by
  unfold U7
  try dsimp only
  rw[aL]
  refine⟨λh=> ?_,λ_=>by simp only[av,Sum.elim_inr]⟩
  have h:=of_decide_eq_true h
  have hw:wI (d.1.2.2+1)=d.1.2.2+1:=bf (by omega) (by omega)
  rw[bG,aR,bG]
  refine⟨by simp only[bl];omega,rfl,?_⟩
  refine aA (azm d.1.1 d.1.2.1 d.1.2.2 _ (by simp)) λx _ hx=> ?_
  obtain⟨a1,a2,a3⟩:=hx
  simp only[bB,a1,a2,a3,hw]
  omega) 2000 d hd (by omega)
theorem aG8 (x:Kk.B)(h:x.1.2.1<=1999):bj (Kl x):=by
 unfold Kl aeH
 refine aF ?_
 rw[aL,aR,bG]
 refine⟨λ_=>by simp only[bB],λ_=>⟨rfl,?_⟩⟩
 refine aA (azn _ (hdN x.1.2.1 h)) λd _ hd=> ?_
 simp only[av]
instance aU4 (x0:Nat->Int)(x1:Nat->Int)(x2:Nat->Int)(x3:Nat->Int)(x4:Int)(x5:Int)(x6:Int)(x7:Bool):bj (OJ x0 x1 x2 x3 x4 x5 x6 x7):=by
 have ta:=λ(d:Nat->Int) a b=>aG8 ((d,1,true),a,b) (by show 1<=1999;omega)
 unfold OJ aj4
 refine aF ?_
 simp only[bB]
theorem aCg (n:Int)(d:nA.B)(hd:0<=d.1.2.2.2∧d.1.2.2.2<=d.1.2.2.1∧d.1.2.2.1<=1999∧d.1.2.2.1=((d.1.2.1.1:Nat):Int)∧(d.1.1:Int)=d.1.2.2.2∧d.1.2.2.1=n):Ok (Z3 d) (λx:Bv=>(x.1.1:Int)=n):=
 bd (s:=_) (λd:nA.B=>0<=d.1.2.2.2∧d.1.2.2.2<=d.1.2.2.1∧d.1.2.2.1<=1999∧d.1.2.2.1=((d.1.2.1.1:Nat):Int)∧(d.1.1:Int)=d.1.2.2.2∧d.1.2.2.1=n) (λd:nA.B=>Int.toNat (d.1.2.2.1-d.1.2.2.2)) (λx:Bv=>(x.1.1:Int)=n) (λd hd=>by
  have hw:wI (d.1.2.2.2+1)=d.1.2.2.2+1:=bf (by omega) (by omega)
  unfold Z2
  simp only[bB]
  simp only[nf,sO,hw]
  repeat' (first|exact True.intro|omega|(intro _)|(apply And.intro))) 2000 d hd (by omega)
end Go.Proofs.YtldgljclcgaibaaGreat
namespace Go.Proofs.YtldgljclcgaibaaGreat
open Go.Ab Go.Ab.Pg
theorem aG9 (x:OL.B)(h:x.1.2.2.1<=1999):Ok (OM x) (λr:Ye=>r.1.2.2=x.1.2.2.1):=by
 unfold OM akc
 show PQ _ _
 rw[aR,bG,bG]
 refine⟨rfl,rfl,?_⟩
 refine aA (aCg ((x.1.2.2.1:Nat):Int) _ ?_) λd _ hd=> ?_
 ·dsimp only
  simp only[Int.ofNat_eq_natCast]
  exact⟨by omega,by omega,by omega,trivial,rfl,trivial⟩
 ·rw[av]
  exact Int.ofNat.inj hd
theorem avy (d:kP.B)(hd:0<=d.1.2.2.2.2∧d.1.2.2.2.2<=d.1.2.2.2.1∧d.1.2.2.2.1<=1999∧d.1.2.2.2.1=((d.1.2.2.1.1:Nat):Int)):Ok (QM d) (λx:vr=>True):=
 bd (s:=_) (λd:kP.B=>0<=d.1.2.2.2.2∧d.1.2.2.2.2<=d.1.2.2.2.1∧d.1.2.2.2.1<=1999∧d.1.2.2.2.1=((d.1.2.2.1.1:Nat):Int)) (λd:kP.B=>Int.toNat (d.1.2.2.2.1-d.1.2.2.2.2)) (λx:vr=>True) (λd hd=>by
  have hw:wI (d.1.2.2.2.2+1)=d.1.2.2.2.2+1:=bf (by omega) (by omega)
  unfold QL
  simp only[bB]
  simp only[nf,Bool.not_eq_true',sO,hw]
  repeat' (first|exact True.intro|omega|(intro _)|(apply And.intro))) 2000 d hd (by omega)
theorem aox (x0:Nat)(x1:Nat->Bool)(x2:Nat->Int)(x3:Nat->Int)(w0:Bool)(h:x0<=1999):bj (wG x0 x1 x2 x3 w0):=by
 unfold wG Z6
 refine aF ?_
 rw[aR,bG]
 refine⟨rfl,?_⟩
 refine aA (avy _ (hdN x0 h)) λd _ hd=> ?_
 simp only[bB]
instance aOs:bj dJ:=by
 unfold dJ MA
 exact aF (by simp only[bB])
theorem avz (d:kR.B)(hd:0<=d.1.2.2.2.2∧d.1.2.2.2.2<=d.1.2.2.2.1∧d.1.2.2.2.1<=1999∧d.1.2.2.2.1=((d.1.2.2.1.1:Nat):Int)∧(d.1.1:Int)<=d.1.2.2.2.2∧(d.1.2.1:Int)<=d.1.2.2.2.2∧d.1.2.2.2.1<=1900):Ok (QO d) (λx:vt=>x.1.1<=1900∧x.1.2.1<=1900):=
 bd (s:=_) (λd:kR.B=>0<=d.1.2.2.2.2∧d.1.2.2.2.2<=d.1.2.2.2.1∧d.1.2.2.2.1<=1999∧d.1.2.2.2.1=((d.1.2.2.1.1:Nat):Int)∧(d.1.1:Int)<=d.1.2.2.2.2∧(d.1.2.1:Int)<=d.1.2.2.2.2∧d.1.2.2.2.1<=1900) (λd:kR.B=>Int.toNat (d.1.2.2.2.1-d.1.2.2.2.2)) (λx:vt=>x.1.1<=1900∧x.1.2.1<=1900) (λd hd=>by
  have hw:wI (d.1.2.2.2.2+1)=d.1.2.2.2.2+1:=bf (by omega) (by omega)
  unfold QN
  simp only[bB]
  simp only[nf,Bool.not_eq_true',sO,hw]
  repeat' (first|exact True.intro|omega|(intro _)|(apply And.intro))) 2000 d hd (by omega)
theorem aDy (x0:Nat)(x1:Bool)(x2:Nat->Int)(x3:Nat->Int)(x4:Nat->Int)(x5:Nat->Int)(x6:Nat->Int)(x7:Nat->Int)(x8:Nat->Int)(x9:Nat->Int)(fS:Nat->Int)(fT:Nat->Int)(w0:Bool)(h:x0<=1900):bj (Gf x0 x1 x2 x3 x4 x5 x6 x7 x8 x9 fS fT w0):=by
 unfold Gf Z'
 try dsimp only
 refine aF ?_
 rw[bx];intro d1 _
 rw[aR,bG,bG]
 refine⟨rfl,rfl,?_⟩
 refine aA (avz _ ?_) λd _ hd=> ?_
 ·try dsimp only
  simp only[Int.ofNat_eq_natCast]
  exact⟨by omega,by omega,by omega,trivial,by omega,by omega,by omega⟩
 ·have t1:=λa b c e g=>aeM d.1.1 a b c e g hd.1
  have t2:=λa b c e g=>aeM d.1.2.1 a b c e g hd.2
  simp only[bB,aR,Bool.true_eq_false,false_implies]
instance aWd (x0 x1:Nat->Int)(x2:Int)(x4:Bool)(x5:Nat->Int)(w0:Bool):bj (cN x0 x1 x2 4 x4 x5 w0):=Kr _ _ _ _ _ _ _ (by omega)
instance aWe (x0 x1:Nat->Int)(x2:Int)(x4:Bool)(x5:Nat->Int)(w0:Bool):bj (cN x0 x1 x2 3 x4 x5 w0):=Kr _ _ _ _ _ _ _ (by omega)
instance aWf (x0 x1:Nat->Int)(x2:Int)(x4:Bool)(x5:Nat->Int)(w0:Bool):bj (cN x0 x1 x2 2 x4 x5 w0):=Kr _ _ _ _ _ _ _ (by omega)
instance aWg (x0 x1:Nat->Int)(x2:Int)(x4:Bool)(x5:Nat->Int)(w0:Bool):bj (cN x0 x1 x2 1 x4 x5 w0):=Kr _ _ _ _ _ _ _ (by omega)
instance aTP (x0:Nat->Int)(x1:Nat->Int)(x2:Nat->Int)(x3:Int)(x4:Int)(x5:Bool):bj (Ku x0 x1 x2 x3 x4 x5):=by
 unfold Ku aeO
 exact aF (by simp only[bB])
theorem atz (d:jC.B)(hd:0<=d.1.2.2.2.2∧d.1.2.2.2.2<=d.1.2.2.2.1∧d.1.2.2.2.1<=1999∧d.1.2.2.2.1=((d.1.2.2.1.1:Nat):Int)∧(d.1.2.1:Int)=d.1.2.2.2.2∧0<=d.1.1∧d.1.1+d.1.2.2.2.1<=24):Ok (MC d) (λx:tj=>True):=
 bd (s:=_) (λd:jC.B=>0<=d.1.2.2.2.2∧d.1.2.2.2.2<=d.1.2.2.2.1∧d.1.2.2.2.1<=1999∧d.1.2.2.2.1=((d.1.2.2.1.1:Nat):Int)∧(d.1.2.1:Int)=d.1.2.2.2.2∧0<=d.1.1∧d.1.1+d.1.2.2.2.1<=24) (λd:jC.B=>Int.toNat (d.1.2.2.2.1-d.1.2.2.2.2)) (λx:tj=>True) (λd hd=>by
  have hw:wI (d.1.2.2.2.2+1)=d.1.2.2.2.2+1:=bf (by omega) (by omega)
  unfold MB
  try dsimp only
  have h1:wI (d.1.1+d.1.2.2.2.2)=d.1.1+d.1.2.2.2.2:=eK (by omega) (by omega)
  simp only[h1]
  simp only[bB]
  simp only[nf,Bool.not_eq_true',sO,hw]
  repeat' (first|exact True.intro|omega|(intro _)|(apply And.intro))) 2000 d hd (by omega)
theorem VI (x0:Nat->Int)(x1:Int)(x2:Nat)(x3:Bool)(x4:Nat->Int)(w0:Bool)(h0:0<=x1)(h1:x1+(x2:Int)<=24):bj (iX x0 x1 x2 x3 x4 w0):=by
 unfold iX Vb
 refine aF ?_
 rw[bx];intro d1 _
 rw[aR,bG,bG]
 refine⟨rfl,rfl,?_⟩
 refine aA (atz _ ?_) λd _ hd=> ?_
 ·dsimp only
  simp only[Int.ofNat_eq_natCast]
  exact⟨by omega,by omega,by omega,trivial,rfl,h0,h1⟩
 ·simp only[bB]
def agY (a:Int)(n:Nat)(f:Nat->Int):Nat->Int:=λj=>bif Nat.beq j (n+1) then a else bif Nat.beq j n then a else f j
theorem sum_add (a b:Int)(n:Nat)(hn:n<=1000)(f g:Nat->Int):lO a b n n f g=some ((n+2,n+2),agY a n f,agY b n g):=by
 have hb:Nat.ble ((n+2)*8) 140737488355328=true:=by rw[bP];omega
 simp only[lO,Vh,bI,bO,eB,hb,cond_true]
 rfl
theorem aOt (a b:Int)(f g:Nat->Int):lO a b 0 0 f g=some ((2,2),agY a 0 f,agY b 0 g):=sum_add a b 0 (by omega) f g
theorem aOu (a b:Int)(f g:Nat->Int):lO a b 2 2 f g=some ((4,4),agY a 2 f,agY b 2 g):=sum_add a b 2 (by omega) f g
theorem aOv (a b:Int)(f g:Nat->Int):lO a b 4 4 f g=some ((6,6),agY a 4 f,agY b 4 g):=sum_add a b 4 (by omega) f g
theorem aOw (a b:Int)(f g:Nat->Int):lO a b 6 6 f g=some ((8,8),agY a 6 f,agY b 6 g):=sum_add a b 6 (by omega) f g
theorem aOx (a b:Int)(f g:Nat->Int):lO a b 8 8 f g=some ((10,10),agY a 8 f,agY b 8 g):=sum_add a b 8 (by omega) f g
instance aXJ (eM:Bool)(f g:Nat->Int)(w w':Bool):bj (bn 30 6 6 eM f g w w'):=Kq 6 (by omega) eM f g w w'
instance aXK (eM:Bool)(f g:Nat->Int)(w w':Bool):bj (bn 30 8 8 eM f g w w'):=Kq 8 (by omega) eM f g w w'
instance aW6 (eM:Bool)(f g:Nat->Int)(w w':Bool):bj (bn 30 10 10 eM f g w w'):=Kq 10 (by omega) eM f g w w'
instance aTe (x0:Int)(x1:Int)(x2:Int)(x3:Int)(x4:Int)(x5:Int)(x6:Int)(x7:Bool):bj (wH x0 x1 x2 x3 x4 x5 x6 x7):=by
 unfold wH aae
 try dsimp only
 exact aF (by simp only[bB,aOt,aOu,aOv,aOw,aOx,bR,aR,true_implies,Bool.true_eq_false,false_implies])
instance aTf (x0:Int)(x1:Int)(x2:Int)(x3:Int)(x4:Int)(x5:Int)(x6:Int)(x7:Int)(x8:Int):bj (wJ x0 x1 x2 x3 x4 x5 x6 x7 x8):=by
 unfold wJ aah
 exact aF (by simp only[bB])
instance aTg (x0:Int)(x1:Int)(x2:Int):bj (fL x0 x1 x2):=by
 unfold fL Gi
 exact aF (by simp only[bB])
instance aTQ (x0:Int)(x1:Int)(x2:Int)(x3:Int)(x4:Int)(x5:Int)(x6:Int)(x7:Int)(x8:Int):bj (Ky x0 x1 x2 x3 x4 x5 x6 x7 x8):=by
 unfold Ky aeQ
 exact aF (by simp only[bB])
instance aOy (x0:Int):bj (yf x0):=by
 unfold yf ME
 exact aF (by simp only[bB])
instance aTR (x0:Int)(x1:Int)(x2:Int)(x3:Int)(x4:Int)(x5:Int)(x6:Int)(x7:Int)(x8:Int)(x9:Bool):bj (zW x0 x1 x2 x3 x4 x5 x6 x7 x8 x9):=by
 unfold zW aeU
 exact aF (by simp only[bB])
theorem aqk (d:iN.B)(hd:0<=d.1.2.2∧d.1.2.2<=d.1.2.1∧d.1.2.1<=1999∧d.1.2.1=((d.1.1.1:Nat):Int)):Ok (KB d) (λx:qM=>True):=
 bd (s:=_) (λd:iN.B=>0<=d.1.2.2∧d.1.2.2<=d.1.2.1∧d.1.2.1<=1999∧d.1.2.1=((d.1.1.1:Nat):Int)) (λd:iN.B=>Int.toNat (d.1.2.1-d.1.2.2)) (λx:qM=>True) (λd hd=>by
  have hw:wI (d.1.2.2+1)=d.1.2.2+1:=bf (by omega) (by omega)
  unfold KA
  simp only[bB]
  simp only[nf,Bool.not_eq_true',sO,hw]
  repeat' (first|exact True.intro|omega|(intro _)|(apply And.intro))) 2000 d hd (by omega)
theorem azo (x0:Nat)(x1:Nat->Int)(w0:Bool)(h:x0<=1999):bj (nZ x0 x1 w0):=by
 unfold nZ QR
 refine aF ?_
 rw[aR,bG]
 refine⟨rfl,?_⟩
 refine aA (aqk _ (hdN x0 h)) λd _ hd=> ?_
 simp only[bB]
instance aW7 (x1:Nat->Int)(w0:Bool):bj (nZ 1 x1 w0):=azo _ _ _ (by omega)
theorem tl (x0:Nat->Int)(x1:Int)(x2:Int)(x3:Int)(x4:Int)(x5:Bool)(h0:0<=x1)(h1:x1<24):bj (dK x0 x1 x2 x3 x4 x5):=by
 have hr:aW x1 24=true:=by simp only[bl];omega
 unfold dK MG
 exact aF (by simp only[bB,hr,Bool.true_eq_false,false_implies])
end Go.Proofs.YtldgljclcgaibaaGreat
namespace Go.Proofs.YtldgljclcgaibaaGreat
open Go.Ab Go.Ab.Pg
instance aTS (x0:Nat->Int)(x2 x3 x4:Int)(x5:Bool):bj (dK x0 4 x2 x3 x4 x5):=tl _ _ _ _ _ _ (by omega) (by omega)
instance aTT (x0:Nat->Int)(x2 x3 x4:Int)(x5:Bool):bj (dK x0 5 x2 x3 x4 x5):=tl _ _ _ _ _ _ (by omega) (by omega)
instance aTU (x0:Nat->Int)(x2 x3 x4:Int)(x5:Bool):bj (dK x0 6 x2 x3 x4 x5):=tl _ _ _ _ _ _ (by omega) (by omega)
instance aTV (x0:Nat->Int)(x2 x3 x4:Int)(x5:Bool):bj (dK x0 7 x2 x3 x4 x5):=tl _ _ _ _ _ _ (by omega) (by omega)
instance aTW (x0:Nat->Int)(x2 x3 x4:Int)(x5:Bool):bj (dK x0 8 x2 x3 x4 x5):=tl _ _ _ _ _ _ (by omega) (by omega)
instance aTX (x0:Nat->Int)(x2 x3 x4:Int)(x5:Bool):bj (dK x0 9 x2 x3 x4 x5):=tl _ _ _ _ _ _ (by omega) (by omega)
instance aXL (eM:Bool)(l:Nat->Int)(w:Bool):bj (cC 4 eM l w):=aGP 4 (by omega) eM l w
instance aWh (eM:Bool)(f:Nat->Int)(w:Bool):bj (fJ 2 eM f w):=aBY 2 (by omega) eM f w
instance aOz (x0:Nat->Int)(x1:Int)(x2:Int)(x3:Int)(x4:Int)(x5:Int)(x6:Int)(x7:Int)(x8:Int)(x9:Int)(fS:Bool):bj (yg x0 x1 x2 x3 x4 x5 x6 x7 x8 x9 fS):=by
 unfold yg MI
 exact aF (by simp only[bB,ov])
instance aNt (x0:Int)(x1:Int)(x2:Int)(x3:Int)(x4:Int)(x5:Int)(x6:Int)(x7:Int)(x8:Bool):bj (jD x0 x1 x2 x3 x4 x5 x6 x7 x8):=by
 unfold jD KE
 exact aF (by simp only[bB,ov])
instance aMh (x:tF.B):bj (tG x):=by
 unfold tG HJ
 exact aF (by simp only[bB,ov])
instance aSH (x:C4.B):bj (C5 x):=by
 unfold C5 Vq
 try dsimp only
 exact aF (by simp only[bB,ov])
instance aMi (x0:Int):bj (tH x0):=by
 unfold tH HL
 exact aF (by simp only[bB,ov])
instance aSI (x0:Int)(x1:Int)(x2:Int)(x3:Int)(x4:Int)(x5:Int)(x6:Int)(x7:Int)(x8:Int)(x9:Int)(fS:Int)(fT:Bool):bj (tI x0 x1 x2 x3 x4 x5 x6 x7 x8 x9 fS fT):=by
 unfold tI Vy
 exact aF (by simp only[bB,ov])
instance aMj (x0:Int)(x1:Int)(x2:Int)(x3:Int)(x4:Int)(x5:Int)(x6:Int)(x7:Int)(x8:Int)(x9:Bool):bj (mz x0 x1 x2 x3 x4 x5 x6 x7 x8 x9):=by
 unfold mz HO
 exact aF (by simp only[bB,ov])
instance aSJ (x0:Nat->Int)(x1:Int)(x2:Int)(x3:Int)(x4:Bool):bj (C6 x0 x1 x2 x3 x4):=by
 unfold C6 VC
 exact aF (by simp only[bB,ov])
instance aKa (x0:Int)(x1:Int)(x2:Int)(x3:Int)(x4:Int)(x5:Int)(x6:Int)(x7:Int)(x8:Int)(x9:Bool):bj (lp x0 x1 x2 x3 x4 x5 x6 x7 x8 x9):=by
 unfold lp Fs
 exact aF (by simp only[bB,ov])
instance aO5 (x0:Nat->Int)(x1:Int)(x2:Int)(x3:Int)(x4:Int)(x5:Bool):bj (AY x0 x1 x2 x3 x4 x5):=by
 unfold AY QX
 try dsimp only
 exact aF (by simp only[bB,ov])
instance aO6 (x0:Int):bj (AZ x0):=by
 unfold AZ Q3
 exact aF (by simp only[bB,ov])
instance aU5 (x0:Int)(x1:Int)(x2:Int)(x3:Int)(x4:Int)(x5:Int)(x6:Int)(x7:Int)(x8:Int)(x9:Bool):bj (vT x0 x1 x2 x3 x4 x5 x6 x7 x8 x9):=by
 unfold vT akw
 exact aF (by simp only[bB,ov])
instance aU6 (x0:Nat->Int)(x1:Int)(x2:Int)(x3:Int)(x4:Int)(x5:Int)(x6:Bool):bj (OO x0 x1 x2 x3 x4 x5 x6):=by
 unfold OO akA
 try dsimp only
 exact aF (by simp only[bB,ov])
instance aTh (x0:Int)(x1:Int)(x2:Int)(x3:Bool):bj (wL x0 x1 x2 x3):=by
 unfold wL aao
 exact aF (by simp only[bB,ov])
instance aSK (x0:Nat->Int)(x1:Int)(x2:Int)(x3:Int)(x4:Int)(x5:Int)(x6:Int)(x7:Int)(x8:Bool):bj (C8 x0 x1 x2 x3 x4 x5 x6 x7 x8):=by
 unfold C8 VE
 try dsimp only
 exact aF (by simp only[bB,ov])
instance aTY (x0:Int)(x1:Int)(x2:Int)(x3:Int)(x4:Int)(x5:Int)(x6:Int)(x7:Int)(x8:Int)(x9:Bool):bj (KG x0 x1 x2 x3 x4 x5 x6 x7 x8 x9):=by
 unfold KG aeY
 exact aF (by simp only[bB,ov])
instance aO7 (x0:Int):bj (A3 x0):=by
 unfold A3 Q5
 exact aF (by simp only[bB,ov])
instance aU7 (x0:Int)(x1:Int)(x2:Int)(x3:Int)(x4:Int)(x5:Int)(x6:Int)(x7:Int)(x8:Int)(x9:Bool):bj (C9 x0 x1 x2 x3 x4 x5 x6 x7 x8 x9):=by
 unfold C9 akK
 exact aF (by simp only[bB,ov])
instance aO8 (x0:Nat->Int)(x1:Bool):bj (re x0 x1):=by
 unfold re Q7
 exact aF (by simp only[bB,ov])
instance aTZ (x0:Int)(x1:Int)(x2:Int)(x3:Nat->Int)(x4:Int)(x5:Int)(x6:Int):bj (zY x0 x1 x2 x3 x4 x5 x6):=by
 unfold zY ae1
 exact aF (by simp only[bB,ov])
instance aO9 (x0:Nat->Int)(x1:Int)(x2:Int)(x3:Int)(x4:Bool):bj (A5 x0 x1 x2 x3 x4):=by
 unfold A5 Q8
 exact aF (by simp only[bB,ov])
instance aPa (x0:Nat->Int)(x1:Int)(x2:Int)(x3:Bool):bj (A6 x0 x1 x2 x3):=by
 unfold A6 Ra
 try dsimp only
 exact aF (by simp only[bB,ov])
instance aOA (x0:Int):bj (yi x0):=by
 unfold yi MR
 exact aF (by simp only[bB,ov])
instance aT0 (x0:Int)(x1:Int)(x2:Int)(x3:Int)(x4:Int)(x5:Int)(x6:Int)(x7:Int)(x8:Int)(x9:Bool):bj (zZ x0 x1 x2 x3 x4 x5 x6 x7 x8 x9):=by
 unfold zZ ae6
 exact aF (by simp only[bB,ov])
instance aOB (x0:Nat->Int)(x1:Bool):bj (yj x0 x1):=by
 unfold yj MT
 exact aF (by simp only[bB,ov])
instance aT1 (x0:Nat->Int)(x1:Int)(x2:Int)(x3:Int)(x4:Int)(x5:Int)(x6:Bool):bj (z5 x0 x1 x2 x3 x4 x5 x6):=by
 unfold z5 SF
 try dsimp only
 exact aF (by simp only[bB,ov])
instance aT2 (x0:Int):bj (nD x0):=by
 unfold nD SI
 exact aF (by simp only[bB,ov])
instance aJB (x0:Int)(x1:Int)(x2:Int)(x3:Bool):bj (pV x0 x1 x2 x3):=by
 unfold pV C'
 exact aF (by simp only[bB,ov])
instance aJC (x0:Int)(x1:Int)(x2:Bool):bj (pW x0 x1 x2):=by
 unfold pW Da
 exact aF (by simp only[bB,ov])
instance aHD (x0:Int)(x1:Int)(x2:Int)(x3:Int)(x4:Bool):bj (oA x0 x1 x2 x3 x4):=by
 unfold oA BJ
 exact aF (by simp only[bB,ov])
instance aE0 (x0:Int)(x1:Int)(x2:Int)(x3:Bool)(x4:Int)(x5:Int)(x6:Int):bj (il x0 x1 x2 x3 x4 x5 x6):=by
 unfold il ym
 exact aF (by simp only[bB,ov])
instance aHE (x0:Nat->Int)(x1:Nat->Int)(x2:Nat->Bool)(x3:Nat->Int)(x4:Nat->Int)(x5:Nat->Int)(x6:Int):bj (oB x0 x1 x2 x3 x4 x5 x6):=by
 unfold oB BK
 exact aF (by simp only[bB,ov])
instance aCh (x0:Bool)(x1:Int)(x2:Int)(x3:Bool)(x4:Int)(x5:Int)(x6:Nat->Int)(x7:Nat->Int)(x8:Nat->Bool)(x9:Nat->Int)(fS:Nat->Int)(fT:Nat->Int)(BF:Int):bj (ko x0 x1 x2 x3 x4 x5 x6 x7 x8 x9 fS fT BF):=by
 unfold ko tL
 exact aF (by simp only[bB,ov])
end Go.Proofs.YtldgljclcgaibaaGreat
