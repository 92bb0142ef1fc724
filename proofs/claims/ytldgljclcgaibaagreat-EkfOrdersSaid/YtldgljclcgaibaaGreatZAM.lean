/-
  Parts of the proof: QS N1 N2 TLa TZ TNw TSp TDn TIm TSm Q9 TRn EOb EOc
-/
import Derived.Test.YtldgljclcgaibaaGreatZAE
import Derived.Test.YtldgljclcgaibaaGreatZAJ
import Derived.Test.YtldgljclcgaibaaGreatZAK
import Derived.Test.YtldgljclcgaibaaGreatZAL
open Nat renaming beq→ww,ble→wl
open Int renaming toNat→wt,ofNat→wn
open Sum renaming inl→ws,inr→wr,elim→t7
set_option linter.all false
set_option maxRecDepth 100000
set_option maxHeartbeats 4000000
noncomputable section
namespace Go.Proofs.YtldgljclcgaibaaGreat
open Go.Ab Go.Ab.Pg Go.Ab.Rq
def fM:=qa (pr (cu eN (c ai DR)) (cd pP λb0=>(c kZ (c ml (c (cl (gs b0.c.1 mj) nil) (cd qj λb4=>(cd oB λb5=>(cd oC λb6=>(cd oD λb7=>(cd oE λb8=>(cd oF λb9=>(c lN (cd rX λtQ=>(c (cl (gs b0.e kd) nil) (c (cl (gs b4.b.1 aA) nil) (c (cl (gs b5.b.1 aA) nil) (c (cl (gs b6.b.1 aA) nil) (c (cl (gs b7.b.1 aA) nil) (c (cl (gs b8.b.1 aA) nil) (c (cl (gs b9.b.1 aA) nil) (cl (cl (gs tQ.b hI) nil) nil)))))))))))))))))))))
def af3:=qe (res (pr ab (pr (cl (Bu (a 26 oI (c gb (c gR (a 2 oR (cu (gp 20 5) (cu (gp 21 10) (c (gc (dM (pu (nat 22) (pu (ox (pu bV (pu bV zO))) (pl eC (pu zO dR)))))) aXz)))))))) aQW) aRd)))
abbrev jJ:=(Bool×(Hn×Bool×NI×(NI×NI)×Nat×rV×Bool×Int×ma×Bool×Bool×Bool×Int×Int×Int×ET×Nat)×(ma×Int×Int)×Oc×(NI×NI×NI×NI×NI×NI×NI×NI)×bZ×bZ×bZ×bZ×bZ×bZ×NH×uU×aSA×mG×mG×mG×mG×mG×mG×NI×NI×NI×NI×NI×NI×NI×NI×NI×NI×NI)
def NA:jJ->T:=λd=>lf af3 (d.1,d.2.1,d.b.1,d.b.2.1,(d.2.1.c.1,d.c.1),d.c.2.1,d.c.b.1,d.c.b.2.1,d.d.1,d.d.2.1,d.d.b.1,d.d.b.2.1,d.d.c.1,(d.2.1.e,d.d.c.2.1),d.d.c.b.1,d.d.c.b.2.1,d.e.1,d.e.2.1,d.e.b.1,d.e.b.2.1,d.d.c.1.b,d.e.c)
abbrev pk:=fM.B->Option jJ
def uR (g:pk):Ct:=(22,FC fM NA g)
def px (A5:aft)(fF:AN)(aDH:Uk)(mJ:D8)(rq:J')(x:fM.B):Pg jJ:=let n30:=x.1.1;let n28:=x.1.2;let n29:=n28.2.2.2.2;let n23:=x.2.1;let n19:=x.2.2;let n24:=n19.2.1;let bI:=n19.2.2;let n20:=bI.2.1;let n17:=bI.2.2;let n33:=n17.1.2.2.1;let n21:=n17.2.1;let bo:=n17.2.2;let n34:=bo.1.2.2.1;let n22:=bo.2.1;let n18:=bo.2.2;let n35:=n18.1.2.2.1;let n25:=n18.2.1;let n15:=n18.2.2;let n31:=n15.2.2;let n27:=n15.2.1;let n26:=n31.2.2;let n32:=n26.2.2;let n16:=n32.2.2;let bj:=(mJ (n20,n31.1));let ba:=(mJ (n17.1,n31.2.1));let aT:=(mJ (n21,n26.1));let n9:=(mJ (bo.1,n26.2.1));let n8:=(mJ (n22,n32.1));let n7:=(mJ (n18.1,n32.2.1));let n6:=(n20.2.2.1,n31.1);let n5:=(n33,n31.2.1);let n4:=(n21.2.2.1,n26.1);let n3:=(n34,n26.2.1);let n2:=(n22.2.2.1,n32.1);let n1:=(n35,n32.2.1);let y0:=aX n30 6;let y1:=n30==1;let y2:=n30==4;let y3:=n30==3;let y4:=n30==2;let y5:=n30==5;let y6:=ww n20.2.2.1 n20.2.2.1;let y7:=ww n33 n33;let y8:=ww n21.2.2.1 n21.2.2.1;let y9:=ww n34 n34;let uc:=ww n22.2.2.1 n22.2.2.1;let ud:=ww n35 n35;opt (A5 n30) λd=>ae (!d) (ret (false,n23,n19.1,n24,bI.1,n20,n17.1,n21,bo.1,n22,n18.1,n25,n15.1,n27,n6,n5,n4,n3,n2,n1,n16)) (opt (fF n28.1 0 1125899906842624) λd=>ae (!d) (ae y0 (ae y5 (ae ud (opt n7 λd=>ret (false,n23,n19.1,n24,bI.1,n20,n17.1,n21,bo.1,n22,d,n25,n15.1,n27,n6,n5,n4,n3,n2,n1,n16)) no) (ae y2 (ae uc (opt n8 λd=>ret (false,n23,n19.1,n24,bI.1,n20,n17.1,n21,bo.1,d,n18.1,n25,n15.1,n27,n6,n5,n4,n3,n2,n1,n16)) no) (ae y3 (ae y9 (opt n9 λd=>ret (false,n23,n19.1,n24,bI.1,n20,n17.1,n21,d,n22,n18.1,n25,n15.1,n27,n6,n5,n4,n3,n2,n1,n16)) no) (ae y4 (ae y8 (opt aT λd=>ret (false,n23,n19.1,n24,bI.1,n20,n17.1,d,bo.1,n22,n18.1,n25,n15.1,n27,n6,n5,n4,n3,n2,n1,n16)) no) (ae y1 (ae y7 (opt ba λd=>ret (false,n23,n19.1,n24,bI.1,n20,d,n21,bo.1,n22,n18.1,n25,n15.1,n27,n6,n5,n4,n3,n2,n1,n16)) no) (ae y6 (opt bj λd=>ret (false,n23,n19.1,n24,bI.1,d,n17.1,n21,bo.1,n22,n18.1,n25,n15.1,n27,n6,n5,n4,n3,n2,n1,n16)) no)))))) no) (opt (aDH n30 n28.1 n28.2.1 n28.2.2.1 n28.2.2.2.1 n29.1 n29.2.1 n29.2.2.1 n29.2.2.2.1 n29.2.2.2.2) λd=>ae (!d) (ae y0 (ae y5 (ae ud (opt n7 λd=>ret (false,n23,n19.1,n24,bI.1,n20,n17.1,n21,bo.1,n22,d,n25,n15.1,n27,n6,n5,n4,n3,n2,n1,n16)) no) (ae y2 (ae uc (opt n8 λd=>ret (false,n23,n19.1,n24,bI.1,n20,n17.1,n21,bo.1,d,n18.1,n25,n15.1,n27,n6,n5,n4,n3,n2,n1,n16)) no) (ae y3 (ae y9 (opt n9 λd=>ret (false,n23,n19.1,n24,bI.1,n20,n17.1,n21,d,n22,n18.1,n25,n15.1,n27,n6,n5,n4,n3,n2,n1,n16)) no) (ae y4 (ae y8 (opt aT λd=>ret (false,n23,n19.1,n24,bI.1,n20,n17.1,d,bo.1,n22,n18.1,n25,n15.1,n27,n6,n5,n4,n3,n2,n1,n16)) no) (ae y1 (ae y7 (opt ba λd=>ret (false,n23,n19.1,n24,bI.1,n20,d,n21,bo.1,n22,n18.1,n25,n15.1,n27,n6,n5,n4,n3,n2,n1,n16)) no) (ae y6 (opt bj λd=>ret (false,n23,n19.1,n24,bI.1,d,n17.1,n21,bo.1,n22,n18.1,n25,n15.1,n27,n6,n5,n4,n3,n2,n1,n16)) no)))))) no) (ae y0 (ae y5 (ae ud (opt (rq (n28,n18.1,n32.2.1)) λd=>sm d (λd=>ret (false,n23,n19.1,n24,bI.1,n20,n17.1,n21,bo.1,n22,d,n25,n15.1,n27,n6,n5,n4,n3,n2,n1,n16)) (λd=>ret (d.1,n23,n19.1,n24,bI.1,n20,n17.1,n21,bo.1,n22,d.2.1,n25,n15.1,n27,n6,n5,n4,n3,n2,(d.2.1.2.2.1,d.2.2),n16))) no) (ae y2 (ae uc (opt (rq (n28,n22,n32.1)) λd=>sm d (λd=>ret (false,n23,n19.1,n24,bI.1,n20,n17.1,n21,bo.1,d,n18.1,n25,n15.1,n27,n6,n5,n4,n3,n2,n1,n16)) (λd=>ret (d.1,n23,n19.1,n24,bI.1,n20,n17.1,n21,bo.1,d.2.1,n18.1,n25,n15.1,n27,n6,n5,n4,n3,(d.2.1.2.2.1,d.2.2),n1,n16))) no) (ae y3 (ae y9 (opt (rq (n28,bo.1,n26.2.1)) λd=>sm d (λd=>ret (false,n23,n19.1,n24,bI.1,n20,n17.1,n21,d,n22,n18.1,n25,n15.1,n27,n6,n5,n4,n3,n2,n1,n16)) (λd=>ret (d.1,n23,n19.1,n24,bI.1,n20,n17.1,n21,d.2.1,n22,n18.1,n25,n15.1,n27,n6,n5,n4,(d.2.1.2.2.1,d.2.2),n2,n1,n16))) no) (ae y4 (ae y8 (opt (rq (n28,n21,n26.1)) λd=>sm d (λd=>ret (false,n23,n19.1,n24,bI.1,n20,n17.1,d,bo.1,n22,n18.1,n25,n15.1,n27,n6,n5,n4,n3,n2,n1,n16)) (λd=>ret (d.1,n23,n19.1,n24,bI.1,n20,n17.1,d.2.1,bo.1,n22,n18.1,n25,n15.1,n27,n6,n5,(d.2.1.2.2.1,d.2.2),n3,n2,n1,n16))) no) (ae y1 (ae y7 (opt (rq (n28,n17.1,n31.2.1)) λd=>sm d (λd=>ret (false,n23,n19.1,n24,bI.1,n20,d,n21,bo.1,n22,n18.1,n25,n15.1,n27,n6,n5,n4,n3,n2,n1,n16)) (λd=>ret (d.1,n23,n19.1,n24,bI.1,n20,d.2.1,n21,bo.1,n22,n18.1,n25,n15.1,n27,n6,(d.2.1.2.2.1,d.2.2),n4,n3,n2,n1,n16))) no) (ae y6 (opt (rq (n28,n20,n31.1)) λd=>sm d (λd=>ret (false,n23,n19.1,n24,bI.1,d,n17.1,n21,bo.1,n22,n18.1,n25,n15.1,n27,n6,n5,n4,n3,n2,n1,n16)) (λd=>ret (d.1,n23,n19.1,n24,bI.1,d.2.1,n17.1,n21,bo.1,n22,n18.1,n25,n15.1,n27,(d.2.1.2.2.1,d.2.2),n5,n4,n3,n2,n1,n16))) no)))))) no)))
def cJ:=λx=>(px AQ lB xE iK lD x).val
abbrev CQ:=aft×AN×Uk×D8×J'
def NB (p:CQ):KK:=⟨[apC p.1,YQ p.2.1,aks p.b.1,N5 p.b.2.1,Y4 p.c],⟨[],[],(0::rg 4 6 []),[],(some ⟨0,(rg 0 6 (rg 7 28 [])),[(3,[]),(4,[]),(5,[]),(6,[]),(7,[]),(8,[]),(9,[]),(10,[]),(11,[]),(12,[]),(13,[]),(14,[]),(15,[]),(16,[]),(17,[]),(18,[]),(19,[]),(20,[]),(21,[]),(0,[])]⟩)⟩,0,22⟩
theorem aiN (p:CQ):D2 (NB p) fM NA λb=>px p.1 p.2.1 p.b.1 p.b.2.1 p.c b:=λb=>by kernel_rfl
abbrev NC:CQ:=(AQ,lB,xE,iK,lD)
theorem CR [ax]:SC (uR cJ):=sc (kS (k:=NB NC) (.c azC (.c aot (.c aDu (.c akY (.c aug (.nil _)))))) [] [] trivial trivial (aiN NC))
end Go.Proofs.YtldgljclcgaibaaGreat
namespace Go.Proofs.YtldgljclcgaibaaGreat
open Go.Ab Go.Ab.Pg
abbrev Bd (B x:Int):Prop:=0<=x/\x<=B
class Le (B:outParam Int) (x:Int):Prop where
 h:Bd B x
def Lb (B:Int)(r:Nat->Int):Prop:=∀k,Bd B (r k)
class Lr (B:outParam Int) (r:Nat->Int):Prop where
 h:Lb B r
class Ek {α:Type} (w:outParam α) (x:α):Prop where
 h:x=w
theorem Lb.up {B t:Int}{r:Nat->Int}{k:Nat}(h:Lb B r)(ht:Bd B t):Lb B (λj=>bif ww j k then t else r j):=λj=>by
 show Bd B (bif ww j k then t else r j);cases ww j k
 .exact h j
 .exact ht
theorem my {P:Prop}(h:P:=by
 show PW _ _;first
 |(refine aO0 ?_)
 |(refine aO1 ?_ ?_)
 |(refine aO2 ?_;intro _ h;repeat (obtain⟨_,h⟩:_/\_:=h))
 |(refine aO3 ?_;intro _)
 all_goals try dsimp only
 repeat' (first
  |with_reducible exact a0C
  |with_reducible refine aO1 ?_ ?_
  |(with_reducible refine aO2 ?_;intro _ h;repeat (obtain⟨_,h⟩:_/\_:=h))
  |(with_reducible refine aO3 ?_;intro _)
  |(with_reducible refine aY6 ‹_› ?_ ?_<;>(intro _ h;repeat (obtain⟨_,h⟩:_/\_:=h)))
  |(with_reducible refine a0D ‹_› ?_ ?_<;>(intro _ h;repeat (obtain⟨_,h⟩:_/\_:=h)))
  |(with_reducible refine aU7 ?_ ?_<;>intro _)
  |(with_reducible refine aY7 ?_ ?_<;>intro _))
 all_goals
  try with_reducible refine aO0 ?_
  first
  |assumption
  |((repeat' refine And.intro ?_ ?_)<;>first|infer_instance|(refine(?_:Ek _ _);infer_instance)|(refine(?_:Le _ _);infer_instance)|(refine(?_:Lr _ _);infer_instance))):P:=h
theorem asW {D X:Type}{s:D->Pg (D⊕X)}{R:X->Prop}(I:D->Prop)(h:∀d,I d->PW (s d) (t7 I R))(d:D)(k:I d):Mo (bC s 2000 d) R:=⟨aFy (s:=s) I R h 2000 d k⟩
theorem aY8 (a b:Int)(c:Bool):Po (lz a b c) (λr:FG=>(r.1:Int)=a):=by
 unfold lz yp;show PW _ _;dsimp only;rw[kU]
theorem aY9 (t a b:Int)(c:Bool)(B:Int)(h:Bd B t)(k:Bd B a):Po (ly t a b c) (λr:FF=>Bd B r):=by
 unfold ly yo;show PW _ _;rw[ot];refine⟨λ_=>by rw[kU];exact h,λ_=> ?_⟩;rw[ot];exact⟨λ_=>by rw[kU];exact h,λ_=>by rw[kU];exact k⟩
theorem aSk (B:Int)(w:Nat->Int)(x0 x1:Int)(x2:Nat)(x3 x4:Nat->Int)(x5:Nat->Bool)(x6 x7 x8:Nat->Int)(x9:Int)(gx:Nat->Bool)(gy Aq:Nat->Int)(w0:Bool)(h:Bd B x1)(k:Lb B x3)(e:x7=w):Po (fP x0 x1 x2 x3 x4 x5 x6 x7 x8 x9 gx gy Aq w0) (λr=>Lb B r.1.1/\r.1.c.1=w):=by
 have k':∀j,Bd B (x3 j):=k;unfold fP rJ;try dsimp only
 show PW _ _;try dsimp only
 repeat' (first
  |(rw[agT];exact trivial)
  |(with_reducible refine Ap (aY9 _ _ _ _ B h (k' _)) λd _ hd=> ?_)
  |(with_reducible refine Ap (aY8 _ _ _) λd _ hm=> ?_)
  |(rw[Ep];intro _ _)
  |(rw[ot];refine⟨λ_=> ?_,λ_=> ?_⟩))
 all_goals
  rw[kU];first
  |exact⟨k,e⟩
  |exact⟨k.up hd,e⟩
  |exact⟨k.up (by rw[hm];exact k' _),e⟩
variable (i0 i1 i2 i3 i4:Int) (n0:Nat) (r0 r1 r2 r3 r4 r5 r6:Nat->Int) (q0 q1:Nat->Bool) (b0 b1:Bool) {B:Int} {w:Nat->Int}
instance a3w [h:Le B i1][k:Lr B r0][e:Ek w r3]:Mo (fP i0 i1 n0 r0 r1 q0 r2 r3 r4 i2 q1 r5 r6 b0) (λx=>Lr B x.1.1/\Ek w x.1.c.1):=⟨λr hr=>by
 have q:=aSk B w _ _ _ _ _ _ _ _ _ _ _ _ _ _ h.h k.h e.h r hr;exact⟨⟨q.1⟩,⟨q.2⟩⟩⟩
instance aZR [Le B i0]:Mo (kq r0 i0 b0) (λx=>Le B x.1.1):=⟨my⟩
instance aG6 (x:gT.B)[Le B x.1.2]:Mo (ep x) (λx=>Le B x.2.1):=⟨my⟩
instance aJS (d:fK.B)[Le B d.2.1.d.b.1][Le B d.2.1.d.b.2.1][Lr B d.d.b.2.1.1.1][Ek w d.d.b.2.1.1.c.1]:Mo (qf d) (λx=>Le B x.2.1.d.b.1/\Le B x.2.1.d.b.2.1/\Lr B x.d.b.2.1.1.1/\Ek w x.d.b.2.1.1.c.1):=asW (λd=>Le B d.2.1.d.b.1/\Le B d.2.1.d.b.2.1/\Lr B d.d.b.2.1.1.1/\Ek w d.d.b.2.1.1.c.1) (λd h=>by
 obtain⟨_,_,_,_⟩:=h;exact my) d ⟨inferInstance,inferInstance,inferInstance,inferInstance⟩
instance aPb (x:mq.B)[Le B x.1.1][Le B x.2.1.d.c.1][Le B x.2.1.d.c.2.1][Lr B x.d.b.2.1.1.1][Ek w x.d.b.2.1.1.c.1]:Mo (pB x) (t7 (λx=>Le B x.1.d.c.1/\Le B x.1.d.c.2.1) (λx=>Le B x.1.1.d.b.1/\Le B x.1.1.d.b.2.1)):=⟨my⟩
instance aG7 (x:gU.B)[Le B x.1.d.c.1][Le B x.1.d.c.2.1][Lr B x.d.b.1.1.1][Ek w x.d.b.1.1.c.1]:Mo (fD x) (λx=>Le B x.d.c.2.1/\Le B x.d.c.b.1):=⟨my⟩
instance aPF (x:qU.B)[Le B x.2.1.d.c.1][Le B x.2.1.d.c.2.1][Lr B x.d.c.1.1.1][Ek w x.d.c.1.1.c.1]:Mo (iB x) (λx=>Lr B x.1.1/\Ek w x.1.c.1):=⟨my⟩
instance aMF (x:nR.B)[Le B x.2.1.d.c.1][Le B x.2.1.d.c.2.1][Lr B x.d.b.2.1.1.1][Ek w x.d.b.2.1.1.c.1]:Mo (dn x) (λx=>Lr B x.1.1/\Ek w x.1.c.1):=⟨my⟩
instance aPG (x:qV.B)[Le B x.2.1.d.c.1][Le B x.2.1.d.c.2.1][Lr B x.d.b.2.1.1.1][Ek w x.d.b.2.1.1.c.1]:Mo (lF x) (λx=>Le B x.1.d.c.1/\Le B x.1.d.c.2.1):=⟨my⟩
instance aPc (x:pA.B)[Le B x.2.1.d.c.1][Le B x.2.1.d.c.2.1][Lr B x.d.b.2.1.1.1][Ek w x.d.b.2.1.1.c.1]:Mo (gP x) (λx=>Lr B x.1.1/\Ek w x.1.c.1):=⟨my⟩
instance aPH (x:qZ.B)[Le B x.2.1.d.c.1][Le B x.2.1.d.c.2.1][Lr B x.d.b.2.1.1.1][Ek w x.d.b.2.1.1.c.1]:Mo (rb x) (t7 (λx=>Lr B x.2.1.1/\Ek w x.2.1.c.1/\Le B x.1.d.c.1/\Le B x.1.d.c.2.1) (λx=>Lr B x.1.2.1.1/\Ek w x.1.2.1.c.1/\Le B x.1.1.d.b.2.1/\Le B x.1.1.d.c.1)):=⟨my⟩
instance aPI (x:re.B)[Le B x.2.1.d.c.1][Le B x.2.1.d.c.2.1][Lr B x.d.b.2.1.1.1][Ek w x.d.b.2.1.1.c.1]:Mo (rf x) (λx=>Le B x.1.d.c.1/\Le B x.1.d.c.2.1):=⟨my⟩
instance aPJ (x:qW.B)[Le B x.2.1.d.c.1][Le B x.2.1.d.c.2.1][Lr B x.d.c.1.1.1][Ek w x.d.c.1.1.c.1]:Mo (dW x) (λx=>Lr B x.2.1.2.1.1/\Ek w x.2.1.2.1.c.1/\Le B x.2.1.1.d.c.1/\Le B x.2.1.1.d.c.2.1):=⟨my⟩
instance aMG (x:nU.B)[Le B x.2.1.d.c.1][Le B x.2.1.d.c.2.1][Lr B x.d.c.1.1.1][Ek w x.d.c.1.1.c.1]:Mo (jw x) (λx=>Le B x.d.c.1/\Le B x.d.c.2.1):=⟨my⟩
instance aDZ [Lr B r0][Ek w r3]:Mo (jd b0 i0 i1 b1 i2 i3 r0 r1 q0 r2 r3 r4 i4) (λx=>Lr B x.1.1/\Ek w x.1.c.1):=⟨my⟩
instance aHk (x:jZ.B)[Le B x.2.1.d.c.1][Le B x.2.1.d.c.2.1][Lr B x.d.b.2.1.1.1][Ek w x.d.b.2.1.1.c.1]:Mo (j6 x) (t7 (λx=>Lr B x.1.2.1.1/\Ek w x.1.2.1.c.1/\Le B x.1.1.d.b.2.1) (λx=>Lr B x.2.1.1/\Ek w x.2.1.c.1/\Le B x.1.d.c.1/\Le B x.1.d.c.2.1)):=⟨my⟩
instance aJT (x:lW.B)[Le B x.2.1.d.c.1][Le B x.2.1.d.c.2.1][Lr B x.d.b.2.1.1.1][Ek w x.d.b.2.1.1.c.1]:Mo (lX x) (λx=>Lr B x.2.1.1/\Ek w x.2.1.c.1/\Le B x.1.d.c.1/\Le B x.1.d.c.2.1):=⟨my⟩
instance aMH (x:nX.B)[Le B x.2.1.d.c.1][Le B x.2.1.d.c.2.1][Lr B x.d.b.2.1.1.1][Ek w x.d.b.2.1.1.c.1]:Mo (nY x) (λx=>Lr B x.2.1.1/\Ek w x.2.1.c.1/\Le B x.1.d.c.1/\Le B x.1.d.c.2.1):=⟨my⟩
instance aJU (x:lY.B)[Le B x.2.1.d.c.1][Le B x.2.1.d.c.2.1][Lr B x.d.b.2.1.1.1][Ek w x.d.b.2.1.1.c.1]:Mo (lZ x) (λx=>Lr B x.2.1.1/\Ek w x.2.1.c.1/\Le B x.1.d.c.1/\Le B x.1.d.c.2.1):=⟨my⟩
instance aPK (x:ri.B)[Le B x.2.1.d.c.1][Le B x.2.1.d.c.2.1][Lr B x.d.b.2.1.1.1][Ek w x.d.b.2.1.1.c.1]:Mo (rj x) (λx=>Lr B x.2.1.1/\Ek w x.2.1.c.1/\Le B x.1.d.c.1/\Le B x.1.d.c.2.1):=⟨my⟩
instance aSl (x:tz.B)[Le B x.2.1.d.c.1][Le B x.2.1.d.c.2.1][Lr B x.d.b.2.1.1.1][Ek w x.d.b.2.1.1.c.1]:Mo (tC x) (t7 (λx=>Lr B x.2.1.1/\Ek w x.2.1.c.1/\Le B x.1.d.c.1/\Le B x.1.d.c.2.1) (λx=>Lr B x.1.2.1.1/\Ek w x.1.2.1.c.1/\Le B x.1.1.d.c.1/\Le B x.1.1.d.c.2.1)):=⟨my⟩
instance aL9 (d:dL.B)[Le B d.2.1.d.c.1][Le B d.2.1.d.c.2.1][Lr B d.d.b.2.1.1.1][Ek w d.d.b.2.1.1.c.1][Le B d.d.c.b.1.1]:Mo (oc d) (λx=>Lr B x.d.b.2.1.1.1/\Le B x.2.1.d.c.1/\Le B x.2.1.d.c.2.1/\Le B x.d.c.b.1.1/\Ek w x.d.b.2.1.1.c.1):=asW (λd=>Le B d.2.1.d.c.1/\Le B d.2.1.d.c.2.1/\Lr B d.d.b.2.1.1.1/\Ek w d.d.b.2.1.1.c.1/\Le B d.d.c.b.1.1) (λd h=>by
 obtain⟨_,_,_,_,_⟩:=h;exact my) d ⟨inferInstance,inferInstance,inferInstance,inferInstance,inferInstance⟩
instance aMa (d:fy.B)[Le B d.2.1.d.c.1][Le B d.2.1.d.c.2.1][Lr B d.d.b.2.1.1.1][Ek w d.d.b.2.1.1.c.1][Le B d.d.c.b.1.1]:Mo (te d) (λx=>Lr B x.d.b.2.1.1.1/\Le B x.2.1.d.c.1/\Le B x.2.1.d.c.2.1/\Le B x.d.c.b.1.1/\Ek w x.d.b.2.1.1.c.1):=asW (λd=>Le B d.2.1.d.c.1/\Le B d.2.1.d.c.2.1/\Lr B d.d.b.2.1.1.1/\Ek w d.d.b.2.1.1.c.1/\Le B d.d.c.b.1.1) (λd h=>by
 obtain⟨_,_,_,_,_⟩:=h;exact my) d ⟨inferInstance,inferInstance,inferInstance,inferInstance,inferInstance⟩
instance aMb (d:eB.B)[Le B d.2.1.d.c.1][Le B d.2.1.d.c.2.1][Lr B d.d.b.2.1.1.1][Ek w d.d.b.2.1.1.c.1][Le B d.d.c.b.1.1]:Mo (sY d) (λx=>Lr B x.d.b.2.1.1.1/\Le B x.2.1.d.c.1/\Le B x.2.1.d.c.2.1/\Le B x.d.c.b.1.1/\Ek w x.d.b.2.1.1.c.1):=asW (λd=>Le B d.2.1.d.c.1/\Le B d.2.1.d.c.2.1/\Lr B d.d.b.2.1.1.1/\Ek w d.d.b.2.1.1.c.1/\Le B d.d.c.b.1.1) (λd h=>by
 obtain⟨_,_,_,_,_⟩:=h;exact my) d ⟨inferInstance,inferInstance,inferInstance,inferInstance,inferInstance⟩
instance aMc (d:gq.B)[Le B d.1.d.c.1][Le B d.1.d.c.2.1][Lr B d.d.b.1.1.1][Ek w d.d.b.1.1.c.1][Le B d.d.c.2.1.1]:Mo (oe d) (t7 (λx=>Le B x.1.b.1/\Le B x.2.1.d.b.1/\Le B x.2.1.d.b.2.1/\Lr B x.d.b.2.1.1.1/\Ek w x.d.b.2.1.1.c.1) (λx=>Le B x.2.1.d.b.2.1/\Lr B x.d.b.2.1.1.1/\Le B x.2.1.d.c.1/\Le B x.d.c.b.1.1/\Ek w x.d.b.2.1.1.c.1)):=⟨my⟩
instance aMd (d:gr.B)[Le B d.1.d.c.1][Le B d.1.d.c.2.1][Lr B d.d.b.1.1.1][Ek w d.d.b.1.1.c.1][Le B d.d.c.2.1.1]:Mo (oi d) (t7 (λx=>Le B x.1.b.1/\Le B x.2.1.d.b.1/\Le B x.2.1.d.b.2.1/\Lr B x.d.b.2.1.1.1/\Ek w x.d.b.2.1.1.c.1) (λx=>Le B x.2.1.d.b.2.1/\Lr B x.d.b.2.1.1.1/\Le B x.2.1.d.c.1/\Le B x.d.c.b.1.1/\Ek w x.d.b.2.1.1.c.1)):=⟨my⟩
instance aMe (d:gu.B)[Le B d.1.d.c.1][Le B d.1.d.c.2.1][Lr B d.d.b.1.1.1][Ek w d.d.b.1.1.c.1][Le B d.d.c.2.1.1]:Mo (lH d) (t7 (λx=>Le B x.1.b.1/\Le B x.2.1.d.b.1/\Le B x.2.1.d.b.2.1/\Lr B x.d.b.2.1.1.1/\Ek w x.d.b.2.1.1.c.1) (λx=>Le B x.2.1.d.b.2.1/\Lr B x.d.b.2.1.1.1/\Le B x.2.1.d.c.1/\Le B x.d.c.b.1.1/\Ek w x.d.b.2.1.1.c.1)):=⟨my⟩
instance aPL (x:lG.B)[Le B x.1.1][Le B x.2.1.d.c.1][Lr B x.d.b.2.1.1.1][Ek w x.d.b.2.1.1.c.1]:Mo (nA x) (λx=>Lr B x.1.c.b.2.1.1.1/\Le B x.1.1.d.c.1/\Ek w x.1.c.b.2.1.1.c.1/\Le B x.1.1.d.c.2.1):=⟨my⟩
end Go.Proofs.YtldgljclcgaibaaGreat
namespace Go.Proofs.YtldgljclcgaibaaGreat
open Go.Ab Go.Ab.Pg
theorem apm (a b c:Int):lB a b c=some (decide (b<=a)&&decide (a<=c)):=by
 simp only[lB,Na,bN,cg];by_cases h:b<=a<;>simp[h]
theorem aSn (w:lC.B):∀(d:lC.B) (hd:0<=d.1.2/\d.1.2<=24/\d.2=w.2/\∀j:Nat,(j:Int)<d.1.2->(0<=w.2.2.2.2.2.2.2.2.2.2.2.2.2.2.2.2.2.1 j/\w.2.2.2.2.2.2.2.2.2.2.2.2.2.2.2.2.2.1 j<=72057594037927936)/\1<=w.2.2.2.2.2.2.2.2.2.2.2.2.2.2.2.2.2.2.1 j/\w.2.2.2.2.2.2.2.2.2.2.2.2.2.2.2.2.2.2.1 j<=72057594037927936),Ok (IT d) (λx:DP=>match x with|.inl _=>True|.inr e=>e.2=w.2/\∀j:Nat,j<24->(0<=w.2.2.2.2.2.2.2.2.2.2.2.2.2.2.2.2.2.1 j/\w.2.2.2.2.2.2.2.2.2.2.2.2.2.2.2.2.2.1 j<=72057594037927936)/\1<=w.2.2.2.2.2.2.2.2.2.2.2.2.2.2.2.2.2.2.1 j/\w.2.2.2.2.2.2.2.2.2.2.2.2.2.2.2.2.2.2.1 j<=72057594037927936):=
 bq (λd:lC.B=>wt (24-d.1.2)) (λd hd=>by
  have hw:wI (d.1.2+1)=d.1.2+1:=aY;obtain⟨i0,i1,i2,i3⟩:=hd;unfold QU;dsimp only;rw[aK];refine⟨λh=> ?_,λh=> ?_⟩
  .have h:=dq h;have r0:aX d.1.2 24=true:=by rw[bk];omega
   have r1:wl (0+wt d.1.2*1+1) 24=true:=by rw[bW];omega
   rw[r0,r1,aC,aC,apm,bX,aK];refine⟨λ_=>by rw[av];trivial,λc=> ?_⟩;rw[aC,aC,apm,bX,aK];refine⟨λ_=>by rw[av];trivial,λc2=> ?_⟩;rw[ayh,cj,ke,ke] at c c2;rw[av,hw];refine⟨⟨by show 0<=d.1.2+1;omega,by show d.1.2+1<=24;omega,i2,λj hj=> ?_⟩,by show wt (24-(d.1.2+1))<_;omega⟩;have hj:(j:Int)<d.1.2+1:=hj;by_cases e:(j:Int)<d.1.2
   .exact i3 j e
   .have e2:wt d.1.2=j:=by omega
    rw[e2,i2] at c c2;exact⟨c,c2⟩
  .have h:=qk h;rw[av];exact⟨i2,λj hj=>i3 j (by omega)⟩) (λd hd=>by omega)
structure aZb (x:FP.B):Prop where
 place:∃e,yy x.2.2.2.2.2.2.2.2.2.2.2.2.2.1 x.2.2.2.2.2.2.2.2.2.2.2.2.2.2.1 x.2.2.2.2.2.2.2.2.2.2.2.2.2.2.2=some (wr e)
 arr:∀j:Nat,j<24->(0<=x.2.2.2.2.2.2.1 j/\x.2.2.2.2.2.2.1 j<=72057594037927936)/\1<=x.2.2.2.2.2.2.2.1 j/\x.2.2.2.2.2.2.2.1 j<=72057594037927936
 nums:1000<=x.1/\x.1<=100000/\0<=x.2.1/\x.2.1<=300000/\1<=x.2.2.1/\x.2.2.1<=64/\0<=x.2.2.2.1/\x.2.2.2.1<=100/\0<=x.2.2.2.2.2.2.2.2.1/\x.2.2.2.2.2.2.2.2.1<=1099511627776/\1<=x.2.2.2.2.2.2.2.2.2.1/\x.2.2.2.2.2.2.2.2.2.1<=72057594037927936/\0<=x.2.2.2.2.2.2.2.2.2.2.1/\x.2.2.2.2.2.2.2.2.2.2.1<=3/\1<=x.2.2.2.2.2.2.2.2.2.2.2.1/\x.2.2.2.2.2.2.2.2.2.2.2.1<=1073741824/\1<=x.2.2.2.2.2.2.2.2.2.2.2.2.1/\x.2.2.2.2.2.2.2.2.2.2.2.2.1<=64/\1<=x.2.2.2.2.1.1/\x.2.2.2.2.1.1<=1000/\1<=x.2.2.2.2.1.2.1/\x.2.2.2.2.1.2.1<=1000/\1<=x.2.2.2.2.1.2.2.1/\x.2.2.2.2.1.2.2.1<=1000/\1<=x.2.2.2.2.1.2.2.2.1/\x.2.2.2.2.1.2.2.2.1<=1000/\1<=x.2.2.2.2.1.2.2.2.2.1/\x.2.2.2.2.1.2.2.2.2.1<=1000/\1<=x.2.2.2.2.1.2.2.2.2.2/\x.2.2.2.2.1.2.2.2.2.2<=1000/\1<=x.2.2.2.2.2.1.1/\x.2.2.2.2.2.1.1<=1099511627776/\1<=x.2.2.2.2.2.1.2.1/\x.2.2.2.2.2.1.2.1<=1099511627776/\1<=x.2.2.2.2.2.1.2.2.1/\x.2.2.2.2.2.1.2.2.1<=1099511627776/\1<=x.2.2.2.2.2.1.2.2.2.1/\x.2.2.2.2.2.1.2.2.2.1<=1099511627776/\1<=x.2.2.2.2.2.1.2.2.2.2.1/\x.2.2.2.2.2.1.2.2.2.2.1<=1099511627776/\1<=x.2.2.2.2.2.1.2.2.2.2.2/\x.2.2.2.2.2.1.2.2.2.2.2<=1099511627776
theorem aVf (x:FP.B):Ok (Bi x) (λr:Bool=>r=true->aZb x):=by
 unfold Bi abp;try dsimp only
 show PQ _ _
 repeat' (first
  |(rw[apm,bX])
  |(with_reducible refine ay (aSn _ _ ⟨eZ 0,(show(0:Int)<=24 by decide),rfl,λj hj=>absurd hj (by show ¬(j:Int)<0;omega)⟩) λe _ he=> ?_)
  |(rw[rC];refine⟨λa ha=> ?_,λa ha=> ?_⟩)
  |(rw[tI];refine⟨λb hb=> ?_,λb hb=> ?_⟩)
  |(rw[bD];intro q hq)
  |(rw[aK];refine⟨λc=> ?_,λc=> ?_⟩<;>(try simp only[oJ,ayh,cj,ke,abW] at c)))
 all_goals first
  |(rw[av];intro hr;exact absurd hr (by decide))
  |skip
 rw[ha] at he;obtain⟨e1,e2⟩:=he;obtain⟨a1,a2⟩:=a;have e1:a2=_:=e1;subst e1;rw[av];intro hr;have hr:=dq hr;rw[hb] at hq;refine⟨⟨_,hq⟩,e2,?_⟩;dsimp only at*
 omega
theorem xG {δ:Type}{Q:δ->Prop}(x y:Pg δ):PQ (.ae false x y) Q=PQ y Q:=by unfold PQ;rw[Pg.bN];rfl
theorem aPg (a:Int)(h:1000<=a)(k:a<=100000):Dx a=some (wr a):=by
 have h1:decide (a<1000)=false:=cG (by omega);have h2:decide (a>100000)=false:=cG (by omega);unfold Dx Uv;rw[h1,h2];rfl
theorem aSo (a:Int)(h:1<=a)(k:a<=64):Gb a=some (wr (a,λ_=>0)):=by
 have h1:decide (a<1)=false:=cG (by omega);have h2:decide (a>64)=false:=cG (by omega);unfold Gb Zu;rw[h1,h2];rfl
theorem aMj (a b:Int)(h:1<=a)(k:a<=64)(h':1<=b)(k':b<=1073741824):AZ a b=some (wr ((a,b),λ_=>0)):=by
 have h1:decide (a<1)=false:=cG (by omega);have h2:decide (a>64)=false:=cG (by omega);have h3:decide (b<1)=false:=cG (by omega);have h4:decide (b>1073741824)=false:=cG (by omega);unfold AZ Qb;rw[h1,h2,h3,h4];rfl
theorem aMk (T:Nat->Int)(hT:∀j:Nat,j<6->1<=T j/\T j<=1099511627776):∀(d:ka.B) (hd:0<=d.1.2.2.2/\d.1.2.2.2<=6/\d.1.2.1.1=6/\d.1.2.2.1=6/\d.2.1=T),Ok (Kr d) (λx:wA=>match x with|.inl _=>False|.inr _=>True):=
 bq (λd:ka.B=>wt (6-d.1.2.2.2)) (λd hd=>by
  obtain⟨i0,i1,i2,i3,i4⟩:=hd;have hw:wI (d.1.2.2.2+1)=d.1.2.2.2+1:=aY;unfold Kq;dsimp only;rw[aK];refine⟨λh=> ?_,λ_=>by rw[av];trivial⟩;have h:=dq h;have r0:aX d.1.2.2.2 d.1.2.1.1=true:=by rw[bk];omega
  have r1:aX d.1.2.2.2 6=true:=by rw[bk];omega
  have t:=hT (wt d.1.2.2.2) (by omega);have c1:decide (d.2.1 (wt d.1.2.2.2)<1)=false:=cG (by rw[i4];omega);have c2:decide (d.2.1 (wt d.1.2.2.2)>1099511627776)=false:=cG (by rw[i4];omega);have r2:(wl (0+wt d.1.2.2.2*6+6) 36&&wl (0+wt d.1.2.2.2*6+6) 37)=true:=by rw[cj,bW,bW];omega
  rw[r0,c1,c2,r1,r2,hw,aC,xG,xG,aC,aC,av];exact⟨⟨by show 0<=d.1.2.2.2+1;omega,by show d.1.2.2.2+1<=6;omega,i2,i3,i4⟩,by show wt (6-(d.1.2.2.2+1))<_;omega⟩) (λd hd=>by omega)
theorem aMl (m:Int)(T:Nat->Int)(w:Bool)(h:0<=m)(k:m<=100)(hT:∀j:Nat,j<6->1<=T j/\T j<=1099511627776):Ok (AY m 6 T w) (λr:AW=>∃e,r=wr e):=by
 have h1:decide (m<0)=false:=cG (by omega);have h2:decide (m>100)=false:=cG (by omega);unfold AY P8;show PQ _ _;rw[h1,h2,xG,xG,(show(wn 6!=6)=false from rfl),xG,aM,aC];refine ay (aMk T hT _ ⟨eZ 0,(show(0:Int)<=6 by decide),rfl,rfl,rfl⟩) λy _ hy=> ?_;rw[rC];refine⟨λa ha=> ?_,λa ha=> ?_⟩
 .rw[ha] at hy;exact hy.elim
 .rw[av];exact⟨_,rfl⟩
theorem aPh (a b c:Int)(h:∃e,yy a b c=some (wr e)):Ok (Dw a b c) (λr:xF=>∃e,r=wr e):=by
 obtain⟨e,h⟩:=h;have g:(Dw a b c:Option xF)=yy a b c:=rfl;exact⟨wr e,g.trans h,e,rfl⟩
theorem a0H (x:Zv.B):Ok (Gd x) (λr:aiH=>match r with|.inl _=>True|.inr e=>1<=x.2.2.1/\x.2.2.1<=64/\1<=x.2.2.2.2.2.2.2.2.2.2.2.2.1/\x.2.2.2.2.2.2.2.2.2.2.2.2.1<=64/\e.2.2.2.2.1=x.2.2.1/\e.2.2.2.2.2.1=x.2.2.1/\e.2.2.2.2.2.2.1=x.2.2.1/\e.2.2.2.2.2.2.2.1=x.2.2.1/\e.2.2.2.2.2.2.2.2.1=x.2.2.1/\e.2.2.2.2.2.2.2.2.2.1=x.2.2.1/\e.2.2.2.2.2.2.2.2.2.2.2.1.1=x.2.2.2.2.2.2.2.2.2.2.2.2.1):=by
 unfold Gd auz;try dsimp only
 show PQ _ _;refine ay (aVf x) λr _ hr=> ?_;rw[aK];refine⟨λ_=>by rw[av];trivial,λc=> ?_⟩;have cc:aZb x:=hr (by simpa using c);have n:=cc.nums
 have hT:∀j:Nat,j<6->1<=(bif ww j 5 then x.2.2.2.2.2.1.2.2.2.2.2 else bif ww j 4 then x.2.2.2.2.2.1.2.2.2.2.1 else bif ww j 3 then x.2.2.2.2.2.1.2.2.2.1 else bif ww j 2 then x.2.2.2.2.2.1.2.2.1 else bif ww j 1 then x.2.2.2.2.2.1.2.1 else bif ww j 0 then x.2.2.2.2.2.1.1 else x.2.2.2.2.2.1.1)/\(bif ww j 5 then x.2.2.2.2.2.1.2.2.2.2.2 else bif ww j 4 then x.2.2.2.2.2.1.2.2.2.2.1 else bif ww j 3 then x.2.2.2.2.2.1.2.2.2.1 else bif ww j 2 then x.2.2.2.2.2.1.2.2.1 else bif ww j 1 then x.2.2.2.2.2.1.2.1 else bif ww j 0 then x.2.2.2.2.2.1.1 else x.2.2.2.2.2.1.1)<=1099511627776:=by
  intro j hj;have e:j=0∨j=1∨j=2∨j=3∨j=4∨j=5:=by omega
  rcases e with rfl|rfl|rfl|rfl|rfl|rfl
  .exact⟨by show 1<=x.2.2.2.2.2.1.1;omega,by show x.2.2.2.2.2.1.1<=1099511627776;omega⟩
  .exact⟨by show 1<=x.2.2.2.2.2.1.2.1;omega,by show x.2.2.2.2.2.1.2.1<=1099511627776;omega⟩
  .exact⟨by show 1<=x.2.2.2.2.2.1.2.2.1;omega,by show x.2.2.2.2.2.1.2.2.1<=1099511627776;omega⟩
  .exact⟨by show 1<=x.2.2.2.2.2.1.2.2.2.1;omega,by show x.2.2.2.2.2.1.2.2.2.1<=1099511627776;omega⟩
  .exact⟨by show 1<=x.2.2.2.2.2.1.2.2.2.2.1;omega,by show x.2.2.2.2.2.1.2.2.2.2.1<=1099511627776;omega⟩
  .exact⟨by show 1<=x.2.2.2.2.2.1.2.2.2.2.2;omega,by show x.2.2.2.2.2.1.2.2.2.2.2<=1099511627776;omega⟩
 rw[bD];intro _ _;rw[bD];intro _ _;rw[bD];intro _ _;refine ay (aPh _ _ _ cc.place) λf _ hf=> ?_;obtain⟨f,rfl⟩:=hf;rw[tI];refine⟨λ_ h=>(nomatch h),λf hf=> ?_⟩;rw[aPg _ (by omega) (by omega),bX,tI];refine⟨λ_ h=>(nomatch h),λg hg=> ?_⟩;refine ay (aMl _ _ _ (by omega) (by omega) hT) λh _ hh=> ?_;obtain⟨h,rfl⟩:=hh;rw[tI];refine⟨λ_ h=>(nomatch h),λf hf=> ?_⟩;rw[aMj _ _ (by omega) (by omega) (by omega) (by omega),bX,tI];refine⟨λ_ h=>(nomatch h),λp hp=> ?_⟩;rw[aSo _ (by omega) (by omega)];rw[bX,tI];refine⟨λ_ h=>(nomatch h),λb0 NJ=> ?_⟩;cases NJ;rw[bX,tI];refine⟨λ_ h=>(nomatch h),λb1 hb1=> ?_⟩;cases hb1;rw[bX,tI];refine⟨λ_ h=>(nomatch h),λb2 DY=> ?_⟩;cases DY;rw[bX,tI];refine⟨λ_ h=>(nomatch h),λb3 hb3=> ?_⟩;cases hb3;rw[bX,tI];refine⟨λ_ h=>(nomatch h),λb4 hb4=> ?_⟩;cases hb4;rw[bX,tI];refine⟨λ_ h=>(nomatch h),λb5 hb5=> ?_⟩;cases hb5;cases hp;rw[av];refine⟨by omega,by omega,by omega,by omega,rfl,rfl,rfl,rfl,rfl,rfl,rfl⟩
theorem aVg (J:Int)(w:dL.B):∀(d:dL.B) (hd:0<=d.1.2.2.2.2/\d.1.2.2.2.2<=d.1.2.2.2.1/\d.1.2.2.2.1=((d.1.2.2.1:Nat):Int)/\d.1.2.2.2.1<=64/\((d.2.1.2.2.2.2.2.2.2.2.2.2.2.2.2.2.2.2:Nat):Int)+3*(d.1.2.2.2.1-d.1.2.2.2.2)<=J/\J<=90000/\aX d.1.1 6=true/\d.1.2.1=w.1.2.1/\d.2.2.2.2.2.1=w.2.2.2.2.2.1/\d.2.2.2.2.2.2.1=w.2.2.2.2.2.2.1/\d.2.2.2.2.2.2.2.1=w.2.2.2.2.2.2.2.1/\d.2.2.2.2.2.2.2.2.1=w.2.2.2.2.2.2.2.2.1/\d.2.2.2.2.2.2.2.2.2.1=w.2.2.2.2.2.2.2.2.2.1/\d.2.2.2.2.2.2.2.2.2.2.1=w.2.2.2.2.2.2.2.2.2.2.1/\d.2.2.2.2.2.2.2.2.2.2.2.2.1=w.2.2.2.2.2.2.2.2.2.2.2.2.1/\d.2.2.2.2.2.2.2.2.2.2.2.2.2.2.2.2.2.2.2.2.2.2.2.1=w.2.2.2.2.2.2.2.2.2.2.2.2.2.2.2.2.2.2.2.2.2.2.2.1/\d.2.1.2.2.2.2.1=w.2.1.2.2.2.2.1/\d.2.1.2.2.2.2.2.2.2.2.2.2.2.2.2.1=w.2.1.2.2.2.2.2.2.2.2.2.2.2.2.2.1/\d.2.2.2.2.2.2.2.2.2.2.2.2.2.2.1=w.2.2.2.2.2.2.2.2.2.2.2.2.2.2.1),Ok (oc d) (λx:nZ=>((x.2.1.2.2.2.2.2.2.2.2.2.2.2.2.2.2.2.2:Nat):Int)<=J/\x.1.2.1=w.1.2.1/\x.2.2.2.2.2.1=w.2.2.2.2.2.1/\x.2.2.2.2.2.2.1=w.2.2.2.2.2.2.1/\x.2.2.2.2.2.2.2.1=w.2.2.2.2.2.2.2.1/\x.2.2.2.2.2.2.2.2.1=w.2.2.2.2.2.2.2.2.1/\x.2.2.2.2.2.2.2.2.2.1=w.2.2.2.2.2.2.2.2.2.1/\x.2.2.2.2.2.2.2.2.2.2.1=w.2.2.2.2.2.2.2.2.2.2.1/\x.2.2.2.2.2.2.2.2.2.2.2.2.1=w.2.2.2.2.2.2.2.2.2.2.2.2.1/\x.2.2.2.2.2.2.2.2.2.2.2.2.2.2.2.2.2.2.2.2.2.2.2.1=w.2.2.2.2.2.2.2.2.2.2.2.2.2.2.2.2.2.2.2.2.2.2.2.1/\x.2.1.2.2.2.2.1=w.2.1.2.2.2.2.1/\x.2.1.2.2.2.2.2.2.2.2.2.2.2.2.2.1=w.2.1.2.2.2.2.2.2.2.2.2.2.2.2.2.1/\x.2.2.2.2.2.2.2.2.2.2.2.2.2.2.1=w.2.2.2.2.2.2.2.2.2.2.2.2.2.2.1):=
 bq (λd:dL.B=>wt (d.1.2.2.2.1-d.1.2.2.2.2)) (λd hd=>by
  obtain⟨i0,i1,i2,i3,i4,i5,i6,i7,ik⟩:=hd;have hw:wI (d.1.2.2.2.2+1)=d.1.2.2.2.2+1:=aY;unfold Ge;dsimp only;rw[aK];refine⟨λh=> ?_,λ_=>by rw[av];exact⟨by show((d.2.1.2.2.2.2.2.2.2.2.2.2.2.2.2.2.2.2:Nat):Int)<=J;omega,i7,ik⟩⟩;have h:=dq h;have r0:aX d.1.2.2.2.2 d.1.2.2.1=true:=by rw[bk];omega
  rw[r0,hw];simp only[aM]
  repeat' (first
   |rw[aC]
   |(with_reducible refine ay (a0G _ ?_ ?_) λe _ he=> ?_)
   |(rw[tI];refine⟨λa ha=> ?_,λa ha=> ?_⟩))
  .exact i6
  .show d.2.1.2.2.2.2.2.2.2.2.2.2.2.2.2.2.2.2<=90000;omega
  .rw[ha] at he;have he:a.1.2.2.2.2.2.2.2.2.2.2.2.2.2.2.2.2<=d.2.1.2.2.2.2.2.2.2.2.2.2.2.2.2.2.2.2+3/\a.1.2.2.2.2.1=d.2.1.2.2.2.2.1/\a.1.2.2.2.2.2.2.2.2.2.2.2.2.2.1=d.2.1.2.2.2.2.2.2.2.2.2.2.2.2.2.1:=he;rw[av];exact⟨⟨by show 0<=d.1.2.2.2.2+1;omega,by show d.1.2.2.2.2+1<=d.1.2.2.2.1;omega,i2,i3,by show((a.1.2.2.2.2.2.2.2.2.2.2.2.2.2.2.2.2:Nat):Int)+3*(d.1.2.2.2.1-(d.1.2.2.2.2+1))<=J;omega,i5,i6,i7,ik.1,ik.2.1,ik.2.2.1,ik.2.2.2.1,ik.2.2.2.2.1,ik.2.2.2.2.2.1,ik.2.2.2.2.2.2.1,ik.2.2.2.2.2.2.2.1,he.2.1.trans ik.2.2.2.2.2.2.2.2.1,he.2.2.trans ik.2.2.2.2.2.2.2.2.2.1,ik.2.2.2.2.2.2.2.2.2.2⟩,by show wt (d.1.2.2.2.1-(d.1.2.2.2.2+1))<_;omega⟩
  .rw[ha] at he;have he:a.1.1.2.2.2.2.2.2.2.2.2.2.2.2.2.2.2.2<=d.2.1.2.2.2.2.2.2.2.2.2.2.2.2.2.2.2.2+3/\a.1.1.2.2.2.2.1=d.2.1.2.2.2.2.1/\a.1.1.2.2.2.2.2.2.2.2.2.2.2.2.2.1=d.2.1.2.2.2.2.2.2.2.2.2.2.2.2.2.1:=he;rw[av];exact⟨⟨by show 0<=d.1.2.2.2.2+1;omega,by show d.1.2.2.2.2+1<=d.1.2.2.2.1;omega,i2,i3,by show((a.1.1.2.2.2.2.2.2.2.2.2.2.2.2.2.2.2.2:Nat):Int)+3*(d.1.2.2.2.1-(d.1.2.2.2.2+1))<=J;omega,i5,i6,i7,ik.1,ik.2.1,ik.2.2.1,ik.2.2.2.1,ik.2.2.2.2.1,ik.2.2.2.2.2.1,ik.2.2.2.2.2.2.1,ik.2.2.2.2.2.2.2.1,he.2.1.trans ik.2.2.2.2.2.2.2.2.1,he.2.2.trans ik.2.2.2.2.2.2.2.2.2.1,ik.2.2.2.2.2.2.2.2.2.2⟩,by show wt (d.1.2.2.2.1-(d.1.2.2.2.2+1))<_;omega⟩) (λd hd=>by omega)
theorem a0I (d:dL.B)(a:d.1.2.2.2.2=0)(b:d.1.2.2.2.1=((d.1.2.2.1:Nat):Int))(c:d.1.2.2.1<=64)(k:aX d.1.1 6=true)(j:d.2.1.2.2.2.2.2.2.2.2.2.2.2.2.2.2.2.2<=80000):Ok (oc d) (λx:nZ=>x.2.1.2.2.2.2.2.2.2.2.2.2.2.2.2.2.2.2<=d.2.1.2.2.2.2.2.2.2.2.2.2.2.2.2.2.2.2+3*d.1.2.2.1/\x.1.2.1=d.1.2.1/\x.2.2.2.2.2.1=d.2.2.2.2.2.1/\x.2.2.2.2.2.2.1=d.2.2.2.2.2.2.1/\x.2.2.2.2.2.2.2.1=d.2.2.2.2.2.2.2.1/\x.2.2.2.2.2.2.2.2.1=d.2.2.2.2.2.2.2.2.1/\x.2.2.2.2.2.2.2.2.2.1=d.2.2.2.2.2.2.2.2.2.1/\x.2.2.2.2.2.2.2.2.2.2.1=d.2.2.2.2.2.2.2.2.2.2.1/\x.2.2.2.2.2.2.2.2.2.2.2.2.1=d.2.2.2.2.2.2.2.2.2.2.2.2.1/\x.2.2.2.2.2.2.2.2.2.2.2.2.2.2.2.2.2.2.2.2.2.2.2.1=d.2.2.2.2.2.2.2.2.2.2.2.2.2.2.2.2.2.2.2.2.2.2.2.1/\x.2.1.2.2.2.2.1=d.2.1.2.2.2.2.1/\x.2.1.2.2.2.2.2.2.2.2.2.2.2.2.2.1=d.2.1.2.2.2.2.2.2.2.2.2.2.2.2.2.1/\x.2.2.2.2.2.2.2.2.2.2.2.2.2.2.1=d.2.2.2.2.2.2.2.2.2.2.2.2.2.2.1):=
 Ok.mono (aVg (((d.2.1.2.2.2.2.2.2.2.2.2.2.2.2.2.2.2.2:Nat):Int)+3*d.1.2.2.2.1) d d ⟨by omega,by omega,b,by omega,by omega,by omega,k,rfl,rfl,rfl,rfl,rfl,rfl,rfl,rfl,rfl,rfl,rfl,rfl⟩) λx hx=>⟨by have h:=hx.1;omega,hx.2⟩
theorem aVh (w d:fy.B)(W5:w.c.2.1.b.1<=64)(W6:w.c.b.1.b.1<=64)(W7:w.c.b.2.1.b.1<=64)(W8:w.d.1.b.1<=64)(W9:w.d.2.1.b.1<=64)(W10:w.d.b.1.b.1<=64)(hd:0<=d.1/\d.1<=6/\((d.2.1.d.c.b.2.2:Nat):Int)+192*(6-d.1)<=1152/\BR w.d.c.b.1.1 w.c.2.1 d.c.2.1/\BR w.d.c.b.1.1 w.c.b.1 d.c.b.1/\BR w.d.c.b.1.1 w.c.b.2.1 d.c.b.2.1/\BR w.d.c.b.1.1 w.d.1 d.d.1/\BR w.d.c.b.1.1 w.d.2.1 d.d.2.1/\BR w.d.c.b.1.1 w.d.b.1 d.d.b.1/\d.d.c.1=w.d.c.1/\d.e.c.b.1=w.e.c.b.1/\d.2.1.c.1=w.2.1.c.1/\d.2.1.d.c.2.1=w.2.1.d.c.2.1/\d.d.c.b.1.1=w.d.c.b.1.1):Ok (te d) (λx:sZ=>x.2.1.d.c.b.2.2<=1152/\BR w.d.c.b.1.1 w.c.2.1 x.c.2.1/\BR w.d.c.b.1.1 w.c.b.1 x.c.b.1/\BR w.d.c.b.1.1 w.c.b.2.1 x.c.b.2.1/\BR w.d.c.b.1.1 w.d.1 x.d.1/\BR w.d.c.b.1.1 w.d.2.1 x.d.2.1/\BR w.d.c.b.1.1 w.d.b.1 x.d.b.1/\x.d.c.1=w.d.c.1/\x.e.c.b.1=w.e.c.b.1/\x.2.1.c.1=w.2.1.c.1/\x.2.1.d.c.2.1=w.2.1.d.c.2.1):=by
 revert d
 exact bq (λd:fy.B=>wt (6-d.1)) (λd hd=>by
  obtain⟨i0,i1,i2,s5,s6,s7,s8,s9,Z7,i12,i22,i4,it,i14⟩:=hd;have hw:wI (d.1+1)=d.1+1:=aY;unfold Gh;dsimp only;rw[aK];refine⟨λh=> ?_,λ_=>by rw[av];exact⟨by show d.2.1.d.c.b.2.2<=1152;omega,s5,s6,s7,s8,s9,Z7,i12,i22,i4,it⟩⟩;have h:=dq h;have r0:aX d.1 6=true:=by rw[bk];omega
  rw[r0];simp only[aM]
  repeat' (first
   |rw[aC]
   |(with_reducible refine ay (aUZ _ ?_) λe _ he=> ?_)
   |(with_reducible refine ay (a0I _ ?_ ?_ ?_ ?_ ?_) λy _ hy=> ?_)
   |(rw[aK];refine⟨λc=> ?_,λc=> ?_⟩))
  all_goals first
   |(rw[av]
     obtain⟨p1,p2⟩:=he;have p2:=BR.mono (Int.le_of_eq i14) p2;obtain⟨y1,y2,hb5,hb6,hb7,hb8,hb9,a4i,h12,h23,h4,ht,hh⟩:=hy;have p1':e.1<=64:=by first|exact dw p1 (dw s5.len W5)|exact dw p1 (dw s6.len W6)|exact dw p1 (dw s7.len W7)|exact dw p1 (dw s8.len W8)|exact dw p1 (dw s9.len W9)|exact dw p1 (dw Z7.len W10)
     have y2:y.1.2.1=d.1:=y2;have y1:y.2.1.d.c.b.2.2<=d.2.1.d.c.b.2.2+3*e.1:=y1;have hw':wI (y.1.2.1+1)=d.1+1:=by rw[y2];exact hw
     exact⟨⟨by show 0<=wI (y.1.2.1+1);omega,by show wI (y.1.2.1+1)<=6;omega,by show((y.2.1.d.c.b.2.2:Nat):Int)+192*(6-wI (y.1.2.1+1))<=1152;omega,
    (by rw[show y.c.2.1=_ from hb5];first|exact s5|exact s5.trans p2),
    (by rw[show y.c.b.1=_ from hb6];first|exact s6|exact s6.trans p2),
    (by rw[show y.c.b.2.1=_ from hb7];first|exact s7|exact s7.trans p2),
    (by rw[show y.d.1=_ from hb8];first|exact s8|exact s8.trans p2),
    (by rw[show y.d.2.1=_ from hb9];first|exact s9|exact s9.trans p2),
    (by rw[show y.d.b.1=_ from a4i];first|exact Z7|exact Z7.trans p2),
    h12.trans i12,h23.trans i22,h4.trans i4,ht.trans it,(c8 (λz=>z.1) hh).trans i14⟩,by show wt (6-wI (y.1.2.1+1))<_;omega⟩)
   |rfl
   |exact r0
   |(show d.2.1.d.c.b.2.2<=80000
     omega)
   |(obtain⟨p1,p2⟩:=he
     first|exact dw p1 (dw s5.len W5)|exact dw p1 (dw s6.len W6)|exact dw p1 (dw s7.len W7)|exact dw p1 (dw s8.len W8)|exact dw p1 (dw s9.len W9)|exact dw p1 (dw Z7.len W10))
   |exact dw s5.len (dw W5 (by decide))
   |exact dw s6.len (dw W6 (by decide))
   |exact dw s7.len (dw W7 (by decide))
   |exact dw s8.len (dw W8 (by decide))
   |exact dw s9.len (dw W9 (by decide))
   |exact dw Z7.len (dw W10 (by decide))) (λd hd=>by omega)
theorem aVi (w:eB.B):∀(d:eB.B) (hd:0<=d.1/\d.1<=6/\d.2.1=w.2.1/\d.c.2.1=w.c.2.1/\d.c.b.1=w.c.b.1/\d.c.b.2.1=w.c.b.2.1/\d.d.1=w.d.1/\d.d.2.1=w.d.2.1/\d.d.b.1=w.d.b.1/\d.d.c.1=w.d.c.1/\d.e.c.b.2.1=w.e.c.b.2.1),Ok (sY d) (λx:sX=>x.2.1=w.2.1/\x.c.2.1=w.c.2.1/\x.c.b.1=w.c.b.1/\x.c.b.2.1=w.c.b.2.1/\x.d.1=w.d.1/\x.d.2.1=w.d.2.1/\x.d.b.1=w.d.b.1/\x.d.c.1=w.d.c.1/\x.e.c.b.2.1=w.e.c.b.2.1):=
 bq (λd:eB.B=>wt (6-d.1)) (λd hd=>by
  obtain⟨i0,i1,ik⟩:=hd;have hw:wI (d.1+1)=d.1+1:=aY;unfold Gf;dsimp only;rw[aK];refine⟨λh=> ?_,λ_=>by rw[av];exact ik⟩;have h:=dq h;have r0:aX d.1 6=true:=by rw[bk];omega
  rw[r0,hw,bD];intro _ _;rw[aC]
  repeat' (first
   |(rw[aK];refine⟨λc=> ?_,λc=> ?_⟩))
  all_goals
   rw[av];exact⟨⟨by show 0<=d.1+1;omega,by show d.1+1<=6;omega,ik⟩,by show wt (6-(d.1+1))<_;omega⟩) (λd hd=>by omega)
theorem aTA (d:gq.B)(h:d.d.b.2.1.2.2<=1999)(k:d.d.b.2.1.2.2<=d.e.c.2.1):Ok (oe d) (λx:od=>match x with|.inl e=>e.c.2.1=d.c.1/\e.c.b.1=d.c.2.1/\e.c.b.2.1=d.c.b.1/\e.d.1=d.c.b.2.1/\e.d.2.1=d.d.1/\e.d.b.1=d.d.2.1/\e.d.c.1=d.d.b.2.1/\e.2.1.b.2.1=d.1.c.1/\e.2.1.d.b.2.1=d.1.d.c.2.1|.inr e=>e.c.2.1=d.c.1/\e.c.b.1=d.c.2.1/\e.c.b.2.1=d.c.b.1/\e.d.1=d.c.b.2.1/\e.d.2.1=d.d.1/\e.d.b.1=d.d.2.1/\e.d.c.1=d.d.b.2.1/\e.2.1.c.1=d.1.c.1/\e.2.1.d.c.1=d.1.d.c.2.1):=by
 unfold oe Gg;try dsimp only
 show PQ _ _;rw[aK];refine⟨λ_=> ?_,λ_=>by rw[av];exact⟨rfl,rfl,rfl,rfl,rfl,rfl,rfl,rfl,rfl⟩⟩;rw[aM,aC];with_reducible refine ay (aPf _ ?_) λe _ he=> ?_
 .exact h
 have he:e.b.1=d.d.b.2.1.2.2:=he;have b1:(true&&ww (e.b.1*11+0) (d.d.b.2.1.2.2*11)&&true)=true:=by rw[he,jM,aM];rfl
 have b2:(true&&wl (0+(e.b.1*11+0)) (d.e.c.2.1*11+0))=true:=by rw[he,oK,bW];omega
 try dsimp only
 rw[b1,b2,aC,aC,av];exact⟨rfl,rfl,rfl,rfl,rfl,rfl,rfl,rfl,rfl⟩
theorem aTB (d:gr.B)(j:d.1.2.2.2.2.2.2.2.2.2.2.2.2.2.2.2.2<=1800)(h:d.2.2.2.2.2.2.2.2.2.2.2.1.2.2<=1999)(k:d.2.2.2.2.2.2.2.2.2.2.2.1.2.2<=d.2.2.2.2.2.2.2.2.2.2.2.2.2.2.2.2.2.2.2.2.2.2.1):Ok (oi d) (λx:og=>match x with|.inl e=>e.2.2.2.2.2.1=d.2.2.2.2.1/\e.2.2.2.2.2.2.1=d.2.2.2.2.2.1/\e.2.2.2.2.2.2.2.1=d.2.2.2.2.2.2.1/\e.2.2.2.2.2.2.2.2.1=d.2.2.2.2.2.2.2.1/\e.2.2.2.2.2.2.2.2.2.1=d.2.2.2.2.2.2.2.2.1/\e.2.2.2.2.2.2.2.2.2.2.1=d.2.2.2.2.2.2.2.2.2.1/\e.2.2.2.2.2.2.2.2.2.2.2.2.1=d.2.2.2.2.2.2.2.2.2.2.2.1/\e.2.1.2.2.2.1=d.1.2.2.2.2.1/\e.2.1.2.2.2.2.2.2.2.2.2.2.2.1=d.1.2.2.2.2.2.2.2.2.2.2.2.2.2.1|.inr e=>e.2.2.2.2.2.1=d.2.2.2.2.1/\e.2.2.2.2.2.2.1=d.2.2.2.2.2.1/\e.2.2.2.2.2.2.2.1=d.2.2.2.2.2.2.1/\e.2.2.2.2.2.2.2.2.1=d.2.2.2.2.2.2.2.1/\e.2.2.2.2.2.2.2.2.2.1=d.2.2.2.2.2.2.2.2.1/\e.2.2.2.2.2.2.2.2.2.2.1=d.2.2.2.2.2.2.2.2.2.1/\e.2.2.2.2.2.2.2.2.2.2.2.2.1=d.2.2.2.2.2.2.2.2.2.2.2.1/\e.2.1.2.2.2.2.1=d.1.2.2.2.2.1/\e.2.1.2.2.2.2.2.2.2.2.2.2.2.2.1=d.1.2.2.2.2.2.2.2.2.2.2.2.2.2.1):=by
 unfold oi Gi;try dsimp only
 show PQ _ _;simp only[aM];have b3:wl ((1+d.1.2.2.2.2.2.2.2.2.2.2.2.2.2.2.2.2)*80) 140737488355328=true:=by rw[bW];omega
 rw[bD];intro _ _;rw[aK];refine⟨λ_=> ?_,λ_=> ?_⟩
 .rw[aC,aC];with_reducible refine ay (aUX _ ?_ ?_) λe _ he=> ?_
  .show d.1.2.2.2.2.2.2.2.2.2.2.2.2.2.2.2.2<=1999;omega
  .exact h
  have he:e.2.1=d.2.2.2.2.2.2.2.2.2.2.2.1.2.2:=he;have b1:(true&&ww (e.2.1*11+0) (d.2.2.2.2.2.2.2.2.2.2.2.1.2.2*11)&&true)=true:=by rw[he,jM,aM];rfl
  have b2:(true&&wl (0+(e.2.1*11+0)) (d.2.2.2.2.2.2.2.2.2.2.2.2.2.2.2.2.2.2.2.2.2.2.1*11+0))=true:=by rw[he,oK,bW];omega
  rw[b1,b2,b3,aC,aC,aC,aC];with_reducible refine ay (bp.Ok (Q:=λ_=>True) (aH5 _ _ _ _ _ _ _ _ _ _ _ _ _ ?_) λ_ _=>trivial) λe3 _ _=> ?_
  .omega
  simp only[aC];with_reducible refine ay (aTA _ ?_ ?_) λy _ hy=> ?_
  .exact h
  .exact k
  rw[rC];refine⟨λa ha=> ?_,λa ha=> ?_⟩
  .rw[av];rw[ha] at hy;exact hy
  .rw[av];rw[ha] at hy;exact hy
 .simp only[aC];with_reducible refine ay (aTA _ ?_ ?_) λy _ hy=> ?_
  .exact h
  .exact k
  rw[rC];refine⟨λa ha=> ?_,λa ha=> ?_⟩
  .rw[av];rw[ha] at hy;exact hy
  .rw[av];rw[ha] at hy;exact hy
theorem aMm (d:gu.B)(j:d.1.2.2.2.2.2.2.2.2.2.2.2.2.2.2.2.2=0)(l4:d.2.2.2.2.1.2.2.1<=64)(l5:d.2.2.2.2.2.1.2.2.1<=64)(l6:d.2.2.2.2.2.2.1.2.2.1<=64)(l7:d.2.2.2.2.2.2.2.1.2.2.1<=64)(l8:d.2.2.2.2.2.2.2.2.1.2.2.1<=64)(l9:d.2.2.2.2.2.2.2.2.2.1.2.2.1<=64)(h:d.2.2.2.2.2.2.2.2.2.2.2.1.2.2<=1999)(k:d.2.2.2.2.2.2.2.2.2.2.2.1.2.2<=d.2.2.2.2.2.2.2.2.2.2.2.2.2.2.2.2.2.2.2.2.2.1):Ok (lH d) (λx:om=>match x with|.inl e=>BR d.2.2.2.2.2.2.2.2.2.2.2.2.2.1.1 d.2.2.2.2.1 e.2.2.2.2.2.1/\BR d.2.2.2.2.2.2.2.2.2.2.2.2.2.1.1 d.2.2.2.2.2.1 e.2.2.2.2.2.2.1/\BR d.2.2.2.2.2.2.2.2.2.2.2.2.2.1.1 d.2.2.2.2.2.2.1 e.2.2.2.2.2.2.2.1/\BR d.2.2.2.2.2.2.2.2.2.2.2.2.2.1.1 d.2.2.2.2.2.2.2.1 e.2.2.2.2.2.2.2.2.1/\BR d.2.2.2.2.2.2.2.2.2.2.2.2.2.1.1 d.2.2.2.2.2.2.2.2.1 e.2.2.2.2.2.2.2.2.2.1/\BR d.2.2.2.2.2.2.2.2.2.2.2.2.2.1.1 d.2.2.2.2.2.2.2.2.2.1 e.2.2.2.2.2.2.2.2.2.2.1/\e.2.2.2.2.2.2.2.2.2.2.2.2.1=d.2.2.2.2.2.2.2.2.2.2.2.1/\e.2.1.2.2.2.1=d.1.2.2.2.2.1/\e.2.1.2.2.2.2.2.2.2.2.2.2.2.1=d.1.2.2.2.2.2.2.2.2.2.2.2.2.2.1|.inr e=>BR d.2.2.2.2.2.2.2.2.2.2.2.2.2.1.1 d.2.2.2.2.1 e.2.2.2.2.2.1/\BR d.2.2.2.2.2.2.2.2.2.2.2.2.2.1.1 d.2.2.2.2.2.1 e.2.2.2.2.2.2.1/\BR d.2.2.2.2.2.2.2.2.2.2.2.2.2.1.1 d.2.2.2.2.2.2.1 e.2.2.2.2.2.2.2.1/\BR d.2.2.2.2.2.2.2.2.2.2.2.2.2.1.1 d.2.2.2.2.2.2.2.1 e.2.2.2.2.2.2.2.2.1/\BR d.2.2.2.2.2.2.2.2.2.2.2.2.2.1.1 d.2.2.2.2.2.2.2.2.1 e.2.2.2.2.2.2.2.2.2.1/\BR d.2.2.2.2.2.2.2.2.2.2.2.2.2.1.1 d.2.2.2.2.2.2.2.2.2.1 e.2.2.2.2.2.2.2.2.2.2.1/\e.2.2.2.2.2.2.2.2.2.2.2.2.1=d.2.2.2.2.2.2.2.2.2.2.2.1/\e.2.1.2.2.2.2.1=d.1.2.2.2.2.1/\e.2.1.2.2.2.2.2.2.2.2.2.2.2.2.1=d.1.2.2.2.2.2.2.2.2.2.2.2.2.2.1):=by
 unfold lH Gj;try dsimp only
 show PQ _ _;simp only[aM];simp only[aC];refine ay (aVh _ _ l4 l5 l6 l7 l8 l9 ⟨eZ 0,(show(0:Int)<=6 by decide),(by show((d.1.2.2.2.2.2.2.2.2.2.2.2.2.2.2.2.2:Nat):Int)+192*(6-0)<=1152;omega),BR.refl _ _,BR.refl _ _,BR.refl _ _,BR.refl _ _,BR.refl _ _,BR.refl _ _,rfl,rfl,rfl,rfl,rfl⟩) λa _ ha=> ?_;obtain⟨u1,u5,u6,u7,u8,u9,u10,u12,u22,u4,ut⟩:=ha;simp only[aC];refine ay (aVi _ _ ⟨eZ 0,(show(0:Int)<=6 by decide),rfl,rfl,rfl,rfl,rfl,rfl,rfl,rfl,rfl⟩) λb _ hb=> ?_;obtain⟨g1,g5,g6,g7,g8,g9,g10,g12,g23⟩:=hb;rw[aK];refine⟨λ_=> ?_,λ_=> ?_⟩
 .simp only[aC];with_reducible refine ay (aTB _ ?_ ?_ ?_) λy _ hy=> ?_
  .show b.2.1.2.2.2.2.2.2.2.2.2.2.2.2.2.2.2.2<=1800;rw[g1];exact dw u1 (by decide)
  .show b.2.2.2.2.2.2.2.2.2.2.2.2.1.2.2<=1999;rw[g12];show a.2.2.2.2.2.2.2.2.2.2.2.2.1.2.2<=1999;rw[u12];exact h
  .show b.2.2.2.2.2.2.2.2.2.2.2.2.1.2.2<=b.2.2.2.2.2.2.2.2.2.2.2.2.2.2.2.2.2.2.2.2.2.2.2.1;rw[g12,g23];show a.2.2.2.2.2.2.2.2.2.2.2.2.1.2.2<=a.2.2.2.2.2.2.2.2.2.2.2.2.2.2.2.2.2.2.2.2.2.2.1;rw[u12,u22];exact k
  rw[rC];refine⟨λa1 ha=> ?_,λa1 ha=> ?_⟩
  .rw[av];rw[ha] at hy;obtain⟨q5,q6,q7,q8,q9,q10,Uy,q4,qt⟩:=hy;exact⟨(by rw[q5];show BR _ _ b.2.2.2.2.2.1;rw[g5];exact u5),(by rw[q6];show BR _ _ b.2.2.2.2.2.2.1;rw[g6];exact u6),(by rw[q7];show BR _ _ b.2.2.2.2.2.2.2.1;rw[g7];exact u7),(by rw[q8];show BR _ _ b.2.2.2.2.2.2.2.2.1;rw[g8];exact u8),(by rw[q9];show BR _ _ b.2.2.2.2.2.2.2.2.2.1;rw[g9];exact u9),(by rw[q10];show BR _ _ b.2.2.2.2.2.2.2.2.2.2.1;rw[g10];exact u10),Uy.trans (g12.trans u12),q4.trans ((c8 (λz=>z.2.2.2.2.1) g1).trans u4),qt.trans ((c8 (λz=>z.2.2.2.2.2.2.2.2.2.2.2.2.2.1) g1).trans ut)⟩
  .rw[av];rw[ha] at hy;obtain⟨q5,q6,q7,q8,q9,q10,Uy,q4,qt⟩:=hy;exact⟨(by rw[q5];show BR _ _ b.2.2.2.2.2.1;rw[g5];exact u5),(by rw[q6];show BR _ _ b.2.2.2.2.2.2.1;rw[g6];exact u6),(by rw[q7];show BR _ _ b.2.2.2.2.2.2.2.1;rw[g7];exact u7),(by rw[q8];show BR _ _ b.2.2.2.2.2.2.2.2.1;rw[g8];exact u8),(by rw[q9];show BR _ _ b.2.2.2.2.2.2.2.2.2.1;rw[g9];exact u9),(by rw[q10];show BR _ _ b.2.2.2.2.2.2.2.2.2.2.1;rw[g10];exact u10),Uy.trans (g12.trans u12),q4.trans ((c8 (λz=>z.2.2.2.2.1) g1).trans u4),qt.trans ((c8 (λz=>z.2.2.2.2.2.2.2.2.2.2.2.2.2.1) g1).trans ut)⟩
 .simp only[aC];with_reducible refine ay (aTB _ ?_ ?_ ?_) λy _ hy=> ?_
  .show b.2.1.2.2.2.2.2.2.2.2.2.2.2.2.2.2.2.2<=1800;rw[g1];exact dw u1 (by decide)
  .show b.2.2.2.2.2.2.2.2.2.2.2.2.1.2.2<=1999;rw[g12];show a.2.2.2.2.2.2.2.2.2.2.2.2.1.2.2<=1999;rw[u12];exact h
  .show b.2.2.2.2.2.2.2.2.2.2.2.2.1.2.2<=b.2.2.2.2.2.2.2.2.2.2.2.2.2.2.2.2.2.2.2.2.2.2.2.1;rw[g12,g23];show a.2.2.2.2.2.2.2.2.2.2.2.2.1.2.2<=a.2.2.2.2.2.2.2.2.2.2.2.2.2.2.2.2.2.2.2.2.2.2.1;rw[u12,u22];exact k
  rw[rC];refine⟨λa1 ha=> ?_,λa1 ha=> ?_⟩
  .rw[av];rw[ha] at hy;obtain⟨q5,q6,q7,q8,q9,q10,Uy,q4,qt⟩:=hy;exact⟨(by rw[q5];show BR _ _ b.2.2.2.2.2.1;rw[g5];exact u5),(by rw[q6];show BR _ _ b.2.2.2.2.2.2.1;rw[g6];exact u6),(by rw[q7];show BR _ _ b.2.2.2.2.2.2.2.1;rw[g7];exact u7),(by rw[q8];show BR _ _ b.2.2.2.2.2.2.2.2.1;rw[g8];exact u8),(by rw[q9];show BR _ _ b.2.2.2.2.2.2.2.2.2.1;rw[g9];exact u9),(by rw[q10];show BR _ _ b.2.2.2.2.2.2.2.2.2.2.1;rw[g10];exact u10),Uy.trans (g12.trans u12),q4.trans ((c8 (λz=>z.2.2.2.2.1) g1).trans u4),qt.trans ((c8 (λz=>z.2.2.2.2.2.2.2.2.2.2.2.2.2.1) g1).trans ut)⟩
  .rw[av];rw[ha] at hy;obtain⟨q5,q6,q7,q8,q9,q10,Uy,q4,qt⟩:=hy;exact⟨(by rw[q5];show BR _ _ b.2.2.2.2.2.1;rw[g5];exact u5),(by rw[q6];show BR _ _ b.2.2.2.2.2.2.1;rw[g6];exact u6),(by rw[q7];show BR _ _ b.2.2.2.2.2.2.2.1;rw[g7];exact u7),(by rw[q8];show BR _ _ b.2.2.2.2.2.2.2.2.1;rw[g8];exact u8),(by rw[q9];show BR _ _ b.2.2.2.2.2.2.2.2.2.1;rw[g9];exact u9),(by rw[q10];show BR _ _ b.2.2.2.2.2.2.2.2.2.2.1;rw[g10];exact u10),Uy.trans (g12.trans u12),q4.trans ((c8 (λz=>z.2.2.2.2.1) g1).trans u4),qt.trans ((c8 (λz=>z.2.2.2.2.2.2.2.2.2.2.2.2.2.1) g1).trans ut)⟩
theorem aZc (N:Nat)(h1:1<=N)(hN:N<=1999)(x:lG.B)(hs:x.2.2.2.2.2.2.2.2.2.2.2.2.1.1<=(N:Int))(hl:x.2.2.2.2.2.2.2.2.2.2.2.2.1.2.2<=N)(hq:x.2.1.2.2.2.2.1<=1999)(l5:x.2.2.2.2.2.1.2.2.1<=64)(l6:x.2.2.2.2.2.2.1.2.2.1<=64)(l7:x.2.2.2.2.2.2.2.1.2.2.1<=64)(l8:x.2.2.2.2.2.2.2.2.1.2.2.1<=64)(l9:x.2.2.2.2.2.2.2.2.2.1.2.2.1<=64)(l10:x.2.2.2.2.2.2.2.2.2.2.1.2.2.1<=64):Ok (nA x) (λr:wB=>BR x.1.1 x.2.2.2.2.2.1 r.1.2.1/\BR x.1.1 x.2.2.2.2.2.2.1 r.1.2.2.1/\BR x.1.1 x.2.2.2.2.2.2.2.1 r.1.2.2.2.1/\BR x.1.1 x.2.2.2.2.2.2.2.2.1 r.1.2.2.2.2.1/\BR x.1.1 x.2.2.2.2.2.2.2.2.2.1 r.1.2.2.2.2.2.1/\BR x.1.1 x.2.2.2.2.2.2.2.2.2.2.1 r.1.2.2.2.2.2.2.1/\r.1.2.2.2.2.2.2.2.2.1=x.2.2.2.2.2.2.2.2.2.2.2.2.1.1/\r.1.2.2.2.2.2.2.2.2.2.2<=N/\r.1.1.2.2.2.2.1=x.2.1.2.2.2.2.1/\r.1.1.2.2.2.2.2.2.2.2.2.2.2.2.2.1=x.1.1):=by
 unfold nA CN;try dsimp only
 show PQ _ _;simp only[aM];rw[aK];refine⟨λ_=> ?_,λ_=> ?_⟩
 .simp only[aC];with_reducible refine ay (aVe N h1 hN _ ?_ ?_) λe _ he=> ?_
  .exact hs
  .exact hq
  rw[tI];refine⟨λb hb=> ?_,λb hb=> ?_⟩
  .rw[hb] at he;obtain⟨e1,e2,e4,et⟩:=he;have e1:b.2=x.2.2.2.2.2.2.2.2.2.2.2.2.1:=e1;simp only[aC];with_reducible refine ay (aMm _ ?_ ?_ ?_ ?_ ?_ ?_ ?_ ?_ ?_) λy _ hy=> ?_
   .exact e2
   .exact l5
   .exact l6
   .exact l7
   .exact l8
   .exact l9
   .exact l10
   .show b.2.2.2<=1999;rw[e1];omega
   .show b.2.2.2<=x.2.2.2.2.2.2.2.2.2.2.2.2.1.2.2;rw[e1];exact cW _
   rw[rC];refine⟨λa ha=> ?_,λa ha=> ?_⟩
   .rw[ha] at hy;obtain⟨s5,s6,s7,s8,s9,Z7,Uy,q4,qt⟩:=hy;rw[av];exact⟨s5,s6,s7,s8,s9,Z7,(by show a.2.2.2.2.2.2.2.2.2.2.2.2.1.1=x.2.2.2.2.2.2.2.2.2.2.2.2.1.1;rw[Uy];show b.2.1=_;rw[e1]),(by show a.2.2.2.2.2.2.2.2.2.2.2.2.1.2.2<=N;rw[Uy];show b.2.2.2<=N;rw[e1];exact hl),q4.trans e4,qt.trans et⟩
   .rw[ha] at hy;obtain⟨s5,s6,s7,s8,s9,Z7,Uy,q4,qt⟩:=hy;rw[av];exact⟨s5,s6,s7,s8,s9,Z7,(by show a.2.2.2.2.2.2.2.2.2.2.2.2.1.1=x.2.2.2.2.2.2.2.2.2.2.2.2.1.1;rw[Uy];show b.2.1=_;rw[e1]),(by show a.2.2.2.2.2.2.2.2.2.2.2.2.1.2.2<=N;rw[Uy];show b.2.2.2<=N;rw[e1];exact hl),q4.trans e4,qt.trans et⟩
  .rw[hb] at he;obtain⟨e1,e2,e3,e4,e5,et⟩:=he;have e2:b.1.2.1=x.2.2.2.2.2.2.2.2.2.2.2.2.1.1:=e2;simp only[aC];with_reducible refine ay (aMm _ ?_ ?_ ?_ ?_ ?_ ?_ ?_ ?_ ?_) λy _ hy=> ?_
   .exact e4
   .exact l5
   .exact l6
   .exact l7
   .exact l8
   .exact l9
   .exact l10
   .show b.1.2.2.2<=1999;omega
   .exact e3
   rw[rC];refine⟨λa ha=> ?_,λa ha=> ?_⟩
   .rw[ha] at hy;obtain⟨s5,s6,s7,s8,s9,Z7,Uy,q4,qt⟩:=hy;rw[av];exact⟨s5,s6,s7,s8,s9,Z7,(by show a.2.2.2.2.2.2.2.2.2.2.2.2.1.1=x.2.2.2.2.2.2.2.2.2.2.2.2.1.1;rw[Uy];exact e2),(by show a.2.2.2.2.2.2.2.2.2.2.2.2.1.2.2<=N;rw[Uy];exact e1),q4.trans e5,qt.trans et⟩
   .rw[ha] at hy;obtain⟨s5,s6,s7,s8,s9,Z7,Uy,q4,qt⟩:=hy;rw[av];exact⟨s5,s6,s7,s8,s9,Z7,(by show a.2.2.2.2.2.2.2.2.2.2.2.2.1.1=x.2.2.2.2.2.2.2.2.2.2.2.2.1.1;rw[Uy];exact e2),(by show a.2.2.2.2.2.2.2.2.2.2.2.2.1.2.2<=N;rw[Uy];exact e1),q4.trans e5,qt.trans et⟩
 .rw[bD];intro _ _;rw[bD];intro _ _;simp only[aC];with_reducible refine ay (aMm _ ?_ ?_ ?_ ?_ ?_ ?_ ?_ ?_ ?_) λy _ hy=> ?_
  .rfl
  .exact l5
  .exact l6
  .exact l7
  .exact l8
  .exact l9
  .exact l10
  .show x.2.2.2.2.2.2.2.2.2.2.2.2.1.2.2<=1999;omega
  .exact cW _
  rw[rC];refine⟨λa ha=> ?_,λa ha=> ?_⟩
  .rw[ha] at hy;obtain⟨s5,s6,s7,s8,s9,Z7,Uy,q4,qt⟩:=hy;rw[av];exact⟨s5,s6,s7,s8,s9,Z7,(by show a.2.2.2.2.2.2.2.2.2.2.2.2.1.1=x.2.2.2.2.2.2.2.2.2.2.2.2.1.1;rw[Uy];done),(by show a.2.2.2.2.2.2.2.2.2.2.2.2.1.2.2<=N;rw[Uy];exact hl),q4.trans rfl,qt.trans rfl⟩
  .rw[ha] at hy;obtain⟨s5,s6,s7,s8,s9,Z7,Uy,q4,qt⟩:=hy;rw[av];exact⟨s5,s6,s7,s8,s9,Z7,(by show a.2.2.2.2.2.2.2.2.2.2.2.2.1.1=x.2.2.2.2.2.2.2.2.2.2.2.2.1.1;rw[Uy];done),(by show a.2.2.2.2.2.2.2.2.2.2.2.2.1.2.2<=N;rw[Uy];exact hl),q4.trans rfl,qt.trans rfl⟩
theorem aPi (w:Int×Int×(Int×Int×Int)×Int×Int×Int):∀(d:jY.B) (hd:0<=d.1/\d.1<=3/\d.2.1=w.1),Ok (Jr d) (λx:xC=>match x with|.inl _=>True|.inr e=>e.2.1=w.1):=
 bq (λd:jY.B=>wt (3-d.1)) (λd hd=>by
  have hw:wI (d.1+1)=d.1+1:=aY;unfold Jq;simp only[bO];simp only[nf,oJ,tW,hw];repeat' (first|exact True.intro|exact hd.2.2|omega|(intro _)|(apply And.intro))) (λd hd=>by omega)
theorem aVj (x0:Int)(x1:Int)(x2:Int)(x3:Int)(x4:Int)(x5:Int)(x6:Int)(x7:Int):Ok (zD x0 x1 x2 x3 x4 x5 x6 x7) (λr=>r=true->0<=x0):=by
 unfold zD QO;show PQ _ _;refine ay (aPi (x0,x1,(x2,x3,x4),x5,x6,x7) _ ⟨eZ 0,(show(0:Int)<=3 by decide),rfl⟩) λd _ hd=> ?_;rw[rC];refine⟨λa _=>by rw[av];intro h;exact absurd h (by decide),λa ha=> ?_⟩;rw[ha] at hd;have hd:a.2.1=x0:=hd;rw[aK];refine⟨λ_=> ?_,λ_=>by rw[av];intro h;exact absurd h (by decide)⟩;rw[aK];refine⟨λ_=> ?_,λ_=>by rw[av];intro h;exact absurd h (by decide)⟩;rw[aK];refine⟨λc=> ?_,λ_=>by rw[av];intro h;exact absurd h (by decide)⟩;rw[av];have c:=dq c;intro _;omega
theorem aJW (x:DN.B):Ok (zE x) (λr=>r.1.1=x.1.2.1):=by
 unfold zE QQ;try dsimp only
 show PQ _ _;rw[bD];intro _ _;rw[bD];intro _ _;rw[av]
theorem aZd (x:nN.B)(h:x.2.1.2.2=false->x.2.1.2.1.1<=0):Ok (jr x) (λr=>(r.2.1.2.2=false->r.2.1.2.1.1<=0)/\x.2.1.2.1.1<=r.2.1.2.1.1/\(r.1.2.1=true->r.1.1.1=r.2.1.2.1.1)):=by
 unfold jr yx;try dsimp only
 show PQ _ _;refine ay (aVj _ _ _ _ _ _ _ _) λd _ hd=> ?_;rw[aK];refine⟨λ_=>by rw[av];exact⟨h,eZ _,(λh=>nomatch h)⟩,λc=> ?_⟩;have c:d=true:=by cases d<;>first|rfl|cases c
 have hx:0<=x.1.1:=hd c;rw[aK];refine⟨λ_=> ?_,λca=> ?_⟩
 .rw[aK];refine⟨λ_=>by rw[av];exact⟨h,eZ _,(λh=>nomatch h)⟩,λcb=> ?_⟩;have cb:=qk cb;refine ay (aJW _) λe _ he=> ?_;have he:e.1.1=x.1.1:=he;rw[aK];refine⟨λ_=> ?_,λ_=> ?_⟩
  .rw[av];exact⟨(λh=>nomatch h),by show x.2.1.2.1.1<=e.1.1;omega,(λh=>nomatch h)⟩
  .rw[av];exact⟨(λh=>nomatch h),by show x.2.1.2.1.1<=x.1.1;omega,λ_=>he⟩
 .have h:=h ca;refine ay (aJW _) λe _ he=> ?_;have he:e.1.1=x.1.1:=he;rw[aK];refine⟨λ_=> ?_,λ_=> ?_⟩
  .rw[av];exact⟨(λh=>nomatch h),by show x.2.1.2.1.1<=e.1.1;omega,(λh=>nomatch h)⟩
  .rw[av];exact⟨(λh=>nomatch h),by show x.2.1.2.1.1<=x.1.1;omega,λ_=>he⟩
def Qd (T S:Int)(n:Nat)(r:Nat->Int):Prop:=T<=S/\∀i k,i<=k->k<n->T<=r i/\r i<=r k/\r k<=S
theorem Qd.pop {T S:Int}{n:Nat}{r q:Nat->Int}(h:Qd T S n r)(hn:1<=n)(e:∀i,q i=r (i+1)):T<=r 0/\Qd (r 0) S (n-1) q:=by
 have a:=h.2 0 0 (cW _) (by omega);refine⟨a.1,Wg a.2.1 a.2.2,λi k p l=> ?_⟩;have b:=h.2 (i+1) (k+1) (by omega) (by omega);have c:=h.2 0 (i+1) (by omega) (by omega);rw[e,e];exact⟨c.2.1,b.2⟩
theorem Qd.push {T S j:Int}{n:Nat}{r q:Nat->Int}(h:Qd T S n r)(l:S<=j)(e:∀i,i<n->q i=r i)(en:q n=j):Qd T j (n+1) q:=by
 refine⟨Wg h.1 l,λi k p l2=> ?_⟩;have hT:=h.1;by_cases hk:k<n
 .rw[e i (by omega),e k hk];have a:=h.2 i k p hk;exact⟨a.1,a.2.1,Wg a.2.2 l⟩
 .have hk:k=n:=by omega
  subst hk;rw[en];by_cases hi:i<k
  .rw[e i hi];have a:=h.2 i i (cW _) hi;exact⟨a.1,Wg a.2.2 l,eZ _⟩
  .have hi:i=k:=by omega
   subst hi;rw[en];exact⟨Wg hT l,eZ _,eZ _⟩
theorem Qd.up {T S j:Int}{n:Nat}{r q:Nat->Int}(h:Qd T S n r)(l:S<=j)(e:∀i,q i=r i):Qd T j n q:=
 ⟨Wg h.1 l,λi k p l2=>by rw[e,e];have a:=h.2 i k p l2;exact⟨a.1,a.2.1,Wg a.2.2 l⟩⟩
theorem aVk (N l:Nat)(S:Int)(h1:1<=N)(hN:N<=1999)(hl:l<=1999)(w d:fU.B)(W4:w.2.2.2.2.1.2.2.1<=64)(W5:w.2.2.2.2.2.1.2.2.1<=64)(W6:w.2.2.2.2.2.2.1.2.2.1<=64)(W7:w.2.2.2.2.2.2.2.1.2.2.1<=64)(W8:w.2.2.2.2.2.2.2.2.1.2.2.1<=64)(W9:w.2.2.2.2.2.2.2.2.2.1.2.2.1<=64)(WS:w.2.2.2.2.2.2.2.2.2.2.2.1.1<=(N:Int))(hd:d.2.1.2.2.2.2.1.2<=l/\d.2.2.2.1=w.2.2.2.1/\d.2.2.2.2.2.2.2.2.2.2.2.2.2.1=w.2.2.2.2.2.2.2.2.2.2.2.2.2.1/\w.2.1.2.2.2.2.2.2.2.2.2.2.2.2.2.1<=d.2.1.2.2.2.2.2.2.2.2.2.2.2.2.2.1/\Qd d.2.1.2.2.2.2.2.2.2.2.2.2.2.2.2.1 S d.2.1.2.2.2.2.1.2 (λi=>w.2.2.2.2.2.2.2.2.2.2.2.2.2.1.2.1 (d.2.1.2.2.2.2.1.1+i))/\BR d.2.1.2.2.2.2.2.2.2.2.2.2.2.2.2.1 w.2.2.2.2.1 d.2.2.2.2.1/\BR d.2.1.2.2.2.2.2.2.2.2.2.2.2.2.2.1 w.2.2.2.2.2.1 d.2.2.2.2.2.1/\BR d.2.1.2.2.2.2.2.2.2.2.2.2.2.2.2.1 w.2.2.2.2.2.2.1 d.2.2.2.2.2.2.1/\BR d.2.1.2.2.2.2.2.2.2.2.2.2.2.2.2.1 w.2.2.2.2.2.2.2.1 d.2.2.2.2.2.2.2.1/\BR d.2.1.2.2.2.2.2.2.2.2.2.2.2.2.2.1 w.2.2.2.2.2.2.2.2.1 d.2.2.2.2.2.2.2.2.1/\BR d.2.1.2.2.2.2.2.2.2.2.2.2.2.2.2.1 w.2.2.2.2.2.2.2.2.2.1 d.2.2.2.2.2.2.2.2.2.1/\d.2.2.2.2.2.2.2.2.2.2.2.1.1=w.2.2.2.2.2.2.2.2.2.2.2.1.1/\d.2.2.2.2.2.2.2.2.2.2.2.1.2.2<=N):Ok (Aa d) (λx:pC=>match x with|.inl x=>x.1.2.1.2<=l/\x.2.2.2.1=w.2.2.2.1/\x.2.2.2.2.2.2.2.2.2.2.2.2.2.1=w.2.2.2.2.2.2.2.2.2.2.2.2.2.1/\w.2.1.2.2.2.2.2.2.2.2.2.2.2.2.2.1<=x.2.1.2.2.2.2.2.2.2.2.2.2.2.2.1/\Qd x.2.1.2.2.2.2.2.2.2.2.2.2.2.2.1 S x.1.2.1.2 (λi=>w.2.2.2.2.2.2.2.2.2.2.2.2.2.1.2.1 (x.1.2.1.1+i))/\BR x.2.1.2.2.2.2.2.2.2.2.2.2.2.2.1 w.2.2.2.2.1 x.2.2.2.2.1/\BR x.2.1.2.2.2.2.2.2.2.2.2.2.2.2.1 w.2.2.2.2.2.1 x.2.2.2.2.2.1/\BR x.2.1.2.2.2.2.2.2.2.2.2.2.2.2.1 w.2.2.2.2.2.2.1 x.2.2.2.2.2.2.1/\BR x.2.1.2.2.2.2.2.2.2.2.2.2.2.2.1 w.2.2.2.2.2.2.2.1 x.2.2.2.2.2.2.2.1/\BR x.2.1.2.2.2.2.2.2.2.2.2.2.2.2.1 w.2.2.2.2.2.2.2.2.1 x.2.2.2.2.2.2.2.2.1/\BR x.2.1.2.2.2.2.2.2.2.2.2.2.2.2.1 w.2.2.2.2.2.2.2.2.2.1 x.2.2.2.2.2.2.2.2.2.1/\x.2.2.2.2.2.2.2.2.2.2.2.1.1=w.2.2.2.2.2.2.2.2.2.2.2.1.1/\x.2.2.2.2.2.2.2.2.2.2.2.1.2.2<=N|.inr x=>x.1.2.1.2<=l/\x.2.2.2.1=w.2.2.2.1/\x.2.2.2.2.2.2.2.2.2.2.2.2.2.1=w.2.2.2.2.2.2.2.2.2.2.2.2.2.1/\w.2.1.2.2.2.2.2.2.2.2.2.2.2.2.2.1<=x.2.1.2.2.2.2.2.2.2.2.2.2.2.2.1/\Qd x.2.1.2.2.2.2.2.2.2.2.2.2.2.2.1 S x.1.2.1.2 (λi=>w.2.2.2.2.2.2.2.2.2.2.2.2.2.1.2.1 (x.1.2.1.1+i))/\BR x.2.1.2.2.2.2.2.2.2.2.2.2.2.2.1 w.2.2.2.2.1 x.2.2.2.2.1/\BR x.2.1.2.2.2.2.2.2.2.2.2.2.2.2.1 w.2.2.2.2.2.1 x.2.2.2.2.2.1/\BR x.2.1.2.2.2.2.2.2.2.2.2.2.2.2.1 w.2.2.2.2.2.2.1 x.2.2.2.2.2.2.1/\BR x.2.1.2.2.2.2.2.2.2.2.2.2.2.2.1 w.2.2.2.2.2.2.2.1 x.2.2.2.2.2.2.2.1/\BR x.2.1.2.2.2.2.2.2.2.2.2.2.2.2.1 w.2.2.2.2.2.2.2.2.1 x.2.2.2.2.2.2.2.2.1/\BR x.2.1.2.2.2.2.2.2.2.2.2.2.2.2.1 w.2.2.2.2.2.2.2.2.2.1 x.2.2.2.2.2.2.2.2.2.1/\x.2.2.2.2.2.2.2.2.2.2.2.1.1=w.2.2.2.2.2.2.2.2.2.2.2.1.1/\x.2.2.2.2.2.2.2.2.2.2.2.1.2.2<=N):=by
 revert d
 exact bq (λd:fU.B=>d.2.1.2.2.2.2.1.2) (λd hd=>by
  obtain⟨i0,ic,ir,it,iq,s4,s5,s6,s7,s8,s9,i11,ba⟩:=hd;unfold z8;dsimp only;rw[aK];refine⟨λh=> ?_,λ_=>by rw[av];exact⟨i0,ic,ir,it,iq,s4,s5,s6,s7,s8,s9,i11,ba⟩⟩;have h:=dq h;rw[cF] at h;have h:1<=d.2.1.2.2.2.2.1.2:=by omega
  have r0:aX 0 d.2.1.2.2.2.2.1.2=true:=by rw[bk];omega
  have r1:KG 1 d.2.1.2.2.2.2.1.2=true:=by rw[aer];omega
  rw[r0,r1,aC,aK];simp only[aM];refine⟨λ_=> ?_,λ_=>by rw[av];exact⟨i0,ic,ir,it,iq,s4,s5,s6,s7,s8,s9,i11,ba⟩⟩;simp only[aC];with_reducible refine ay (aZc N h1 hN _ ?_ ?_ ?_ ?_ ?_ ?_ ?_ ?_ ?_) λe _ he=> ?_
  .show d.2.2.2.2.2.2.2.2.2.2.2.1.1<=(N:Int);rw[i11];exact WS
  .exact ba
  .show d.2.1.2.2.2.2.1.2-1<=1999;omega
  .exact dw s4.len W4
  .exact dw s5.len W5
  .exact dw s6.len W6
  .exact dw s7.len W7
  .exact dw s8.len W8
  .exact dw s9.len W9
  obtain⟨a4,a5,a6,a7,a8,a9,a11,tQ,e4,et⟩:=he;have e4:e.1.1.2.2.2.2.1=d.2.1.2.2.2.2.1.2-1:=e4;have et:e.1.1.2.2.2.2.2.2.2.2.2.2.2.2.2.1=d.2.2.2.2.2.2.2.2.2.2.2.2.2.1.2.1 (d.2.1.2.2.2.2.1.1+0):=et;have iq':=iq.pop (q:=λi=>w.2.2.2.2.2.2.2.2.2.2.2.2.2.1.2.1 (d.2.1.2.2.2.2.1.1+1+i)) h (λi=>by show w.2.2.2.2.2.2.2.2.2.2.2.2.2.1.2.1 (d.2.1.2.2.2.2.1.1+1+i)=w.2.2.2.2.2.2.2.2.2.2.2.2.2.1.2.1 (d.2.1.2.2.2.2.1.1+(i+1));rw[show d.2.1.2.2.2.2.1.1+1+i=d.2.1.2.2.2.2.1.1+(i+1) by omega]);have et':e.1.1.2.2.2.2.2.2.2.2.2.2.2.2.2.1=w.2.2.2.2.2.2.2.2.2.2.2.2.2.1.2.1 (d.2.1.2.2.2.2.1.1+0):=by rw[et,ir]
  have ll:d.2.1.2.2.2.2.2.2.2.2.2.2.2.2.2.1<=e.1.1.2.2.2.2.2.2.2.2.2.2.2.2.2.1:=by rw[et'];exact iq'.1
  have le:=Int.le_of_eq et.symm;rw[av];exact⟨⟨by show e.1.1.2.2.2.2.1<=l;omega,ic,ir,Wg it ll,(by show Qd e.1.1.2.2.2.2.2.2.2.2.2.2.2.2.2.1 S e.1.1.2.2.2.2.1 _;rw[et',e4];exact iq'.2),(s4.mono ll).trans (a4.mono le),(s5.mono ll).trans (a5.mono le),(s6.mono ll).trans (a6.mono le),(s7.mono ll).trans (a7.mono le),(s8.mono ll).trans (a8.mono le),(s9.mono ll).trans (a9.mono le),a11.trans i11,tQ⟩,by show e.1.1.2.2.2.2.1<d.2.1.2.2.2.2.1.2;omega⟩) (λd hd=>by omega)
theorem aMn (N:Nat)(h1:1<=N)(hN:N<=1999)(d:im.B)(hq:d.1.c.1<=1998)(l3:d.b.2.1.b.1<=64)(l4:d.c.1.b.1<=64)(l5:d.c.2.1.b.1<=64)(l6:d.c.b.1.b.1<=64)(l7:d.c.b.2.1.b.1<=64)(l8:d.d.1.b.1<=64)(hs:d.d.b.1.1<=(N:Int))(hl:d.d.b.1.2.2<=N)(S:Int)(hS:S<=d.d.b.2.1.1)(hQ:Qd d.1.d.c.2.1 S d.1.c.1 d.d.c.1.1):Ok (uf d) (λx:mr=>x.2.1.c.1.2<=d.1.c.1+1/\x.b.2.1=d.b.1/\d.1.d.c.2.1<=x.2.1.d.c.2.1/\Qd x.2.1.d.c.2.1 d.d.b.2.1.1 x.2.1.c.1.2 (λi=>x.c.1.2.1 (x.2.1.c.1.1+i))/\BR x.2.1.d.c.2.1 d.b.2.1 x.c.2.1/\BR x.2.1.d.c.2.1 d.c.1 x.c.b.1/\BR x.2.1.d.c.2.1 d.c.2.1 x.c.b.2.1/\BR x.2.1.d.c.2.1 d.c.b.1 x.d.1/\BR x.2.1.d.c.2.1 d.c.b.2.1 x.d.2.1/\BR x.2.1.d.c.2.1 d.d.1 x.d.b.1/\x.d.c.1.1=d.d.b.1.1/\x.d.c.1.2.2<=N):=by
 unfold uf Ac;try dsimp only
 show PQ _ _;simp only[aM];have b:wl ((d.1.c.1+1)*64) 140737488355328=true:=by rw[bW];omega
 rw[b];simp only[aC]
 have hQ':Qd d.1.d.c.2.1 d.d.b.2.1.1 (d.1.c.1+1) (λi=>bif ww (0+i) d.1.c.1 then d.d.b.2.1.1 else d.d.c.1.1 (0+(0+i))):=hQ.push hS (λi hi=>by
  have b:ww (0+i) d.1.c.1=false:=by
   cases hb:ww (0+i) d.1.c.1
   .rfl
   .have:=mO hb;omega
  show(bif ww (0+i) d.1.c.1 then d.d.b.2.1.1 else d.d.c.1.1 (0+(0+i)))=_;rw[b];simp only[bA,eX]) (by simp only[eX,aM,bn])
 refine ay (aVk N (d.1.c.1+1) d.d.b.2.1.1 h1 hN (by omega) _ _ l3 l4 l5 l6 l7 l8 hs ⟨cW _,rfl,rfl,eZ _,hQ',BR.refl _ _,BR.refl _ _,BR.refl _ _,BR.refl _ _,BR.refl _ _,BR.refl _ _,rfl,hl⟩) λy _ hy=> ?_;rw[rC];refine⟨λa ha=> ?_,λa ha=> ?_⟩
 .rw[ha] at hy;rw[av];obtain⟨y0,y3,yr,yt,yq,ys⟩:=hy;exact⟨y0,y3,yt,(by rw[<-yr] at yq;exact yq),ys⟩
 .rw[ha] at hy;rw[av];obtain⟨y0,y3,yr,yt,yq,ys⟩:=hy;exact⟨y0,y3,yt,(by rw[<-yr] at yq;exact yq),ys⟩
theorem aTC (N:Nat)(h1:1<=N)(hN:N<=1999)(x:pj.B)(hq:x.2.1.c.1<=1998)(l5:x.c.2.1.b.1<=64)(l6:x.c.b.1.b.1<=64)(l7:x.c.b.2.1.b.1<=64)(l8:x.d.1.b.1<=64)(l9:x.d.2.1.b.1<=64)(l10:x.d.b.1.b.1<=64)(hs:x.d.c.1.1<=(N:Int))(hl:x.d.c.1.2.2<=N)(h3:x.b.2.1.2.2=false->x.b.2.1.2.1.1<=0)(hQ:Qd x.2.1.d.c.2.1 x.b.2.1.2.1.1 x.2.1.c.1 x.c.1.1):Ok (kH x) (λe:yQ=>e.2.1.c.1.2<=x.2.1.c.1+1/\(e.b.2.1.2.2=false->e.b.2.1.2.1.1<=0)/\x.2.1.d.c.2.1<=e.2.1.d.c.2.1/\Qd e.2.1.d.c.2.1 e.b.2.1.2.1.1 e.2.1.c.1.2 (λi=>e.c.1.2.1 (e.2.1.c.1.1+i))/\BR e.2.1.d.c.2.1 x.c.2.1 e.c.2.1/\BR e.2.1.d.c.2.1 x.c.b.1 e.c.b.1/\BR e.2.1.d.c.2.1 x.c.b.2.1 e.c.b.2.1/\BR e.2.1.d.c.2.1 x.d.1 e.d.1/\BR e.2.1.d.c.2.1 x.d.2.1 e.d.2.1/\BR e.2.1.d.c.2.1 x.d.b.1 e.d.b.1/\e.d.c.1.1=x.d.c.1.1/\e.d.c.1.2.2<=N):=by
 unfold kH EM;try dsimp only
 show PQ _ _;simp only[aM];refine ay (aZd _ h3) λd _ hd=> ?_;obtain⟨d1,d2,d3⟩:=hd;have d2:x.b.2.1.2.1.1<=d.2.1.2.1.1:=d2;rw[aK];refine⟨λ_=>by rw[av];exact⟨Nat.le_succ _,d1,eZ _,hQ.up d2 (λi=>by rw[eX]),BR.refl _ _,BR.refl _ _,BR.refl _ _,BR.refl _ _,BR.refl _ _,BR.refl _ _,rfl,hl⟩,λ_=> ?_⟩;rw[aK];refine⟨λ_=>by rw[av];exact⟨Nat.le_succ _,d1,eZ _,hQ.up d2 (λi=>by rw[eX]),BR.refl _ _,BR.refl _ _,BR.refl _ _,BR.refl _ _,BR.refl _ _,BR.refl _ _,rfl,hl⟩,λc=> ?_⟩;have c:d.1.2.1=true:=by simpa using c
 have d3:=d3 c;have d4:x.b.2.1.2.1.1<=d.1.1.1:=by omega
 rw[aK];refine⟨λ_=> ?_,λ_=> ?_⟩
 .simp only[aC];with_reducible refine ay (aPe N hN _ ?_ ?_) λe _ he=> ?_
  .exact hl
  .exact hs
  rw[tI];refine⟨λa ha=> ?_,λa ha=> ?_⟩
  .rw[ha] at he;have he:a.2.1=x.d.c.1:=he;simp only[aC];with_reducible refine ay (aMn N h1 hN _ ?_ ?_ ?_ ?_ ?_ ?_ ?_ ?_ ?_ x.b.2.1.2.1.1 d4 hQ) λy _ hy=> ?_
   .exact hq
   .exact l5
   .exact l6
   .exact l7
   .exact l8
   .exact l9
   .exact l10
   .show a.2.1.1<=(N:Int);rw[he];exact hs
   .show a.2.1.2.2<=N;rw[he];exact hl
   rw[av];have e0:(a.2.1.1:Int)=x.d.c.1.1:=by rw[he]
   obtain⟨q,qs,qt,qq,s5,s6,s7,s8,s9,Z7,p1,p2⟩:=hy;exact⟨q,(by rw[show y.b.2.1=d.2.1 from qs];exact d1),qt,(by rw[show y.b.2.1=d.2.1 from qs,<-d3];exact qq),s5,s6,s7,s8,s9,Z7,p1.trans e0,p2⟩
  .rw[ha] at he;obtain⟨e1,e2,e3,e4⟩:=he;have e1:a.1.1.1=x.d.c.1.1:=e1;simp only[aC];with_reducible refine ay (aMn N h1 hN _ ?_ ?_ ?_ ?_ ?_ ?_ ?_ ?_ ?_ x.b.2.1.2.1.1 d4 hQ) λy _ hy=> ?_
   .exact hq
   .exact l5
   .exact l6
   .exact l7
   .exact l8
   .exact l9
   .exact l10
   .show a.1.1.1<=(N:Int);rw[e1];exact hs
   .exact e2
   rw[av];obtain⟨q,qs,qt,qq,s5,s6,s7,s8,s9,Z7,p1,p2⟩:=hy;exact⟨q,(by rw[show y.b.2.1=d.2.1 from qs];exact d1),qt,(by rw[show y.b.2.1=d.2.1 from qs,<-d3];exact qq),s5,s6,s7,s8,s9,Z7,p1.trans e1,p2⟩
 .simp only[aC];with_reducible refine ay (aMn N h1 hN _ ?_ ?_ ?_ ?_ ?_ ?_ ?_ ?_ ?_ x.b.2.1.2.1.1 d4 hQ) λy _ hy=> ?_
  .exact hq
  .exact l5
  .exact l6
  .exact l7
  .exact l8
  .exact l9
  .exact l10
  .exact hs
  .exact hl
  rw[av];obtain⟨q,qs,qt,qq,qr⟩:=hy;exact⟨q,(by rw[show y.b.2.1=d.2.1 from qs];exact d1),qt,(by rw[show y.b.2.1=d.2.1 from qs,<-d3];exact qq),qr⟩
theorem aG9 (x:fM.B)(l5:x.c.2.1.b.1<=1000)(l6:x.c.b.1.b.1<=1000)(l7:x.c.b.2.1.b.1<=1000)(l8:x.d.1.b.1<=1000)(l9:x.d.2.1.b.1<=1000)(l10:x.d.b.1.b.1<=1000):Ok (cJ x) (λe:jJ=>e.2.1=x.2.1/\e.b.1=x.b.1/\e.b.2.1=x.b.2.1/\e.c.1=x.c.1/\e.d.b.2.1=x.d.b.2.1/\e.d.c.1=x.d.c.1/\e.d.c.2.1=x.d.c.2.1/\e.e.b.2.2=x.e.b.2.2/\((¬(0<=x.1.1/\x.1.1<6)/\e.c.2.1=x.c.2.1/\e.c.b.1=x.c.b.1/\e.c.b.2.1=x.c.b.2.1/\e.d.1=x.d.1/\e.d.2.1=x.d.2.1/\e.d.b.1=x.d.b.1)∨(x.1.1=0/\(PR x.c.2.1 e.c.2.1∨SR x.c.2.1 e.c.2.1)/\e.c.b.1=x.c.b.1/\e.c.b.2.1=x.c.b.2.1/\e.d.1=x.d.1/\e.d.2.1=x.d.2.1/\e.d.b.1=x.d.b.1)∨(x.1.1=1/\e.c.2.1=x.c.2.1/\(PR x.c.b.1 e.c.b.1∨SR x.c.b.1 e.c.b.1)/\e.c.b.2.1=x.c.b.2.1/\e.d.1=x.d.1/\e.d.2.1=x.d.2.1/\e.d.b.1=x.d.b.1)∨(x.1.1=2/\e.c.2.1=x.c.2.1/\e.c.b.1=x.c.b.1/\(PR x.c.b.2.1 e.c.b.2.1∨SR x.c.b.2.1 e.c.b.2.1)/\e.d.1=x.d.1/\e.d.2.1=x.d.2.1/\e.d.b.1=x.d.b.1)∨(x.1.1=3/\e.c.2.1=x.c.2.1/\e.c.b.1=x.c.b.1/\e.c.b.2.1=x.c.b.2.1/\(PR x.d.1 e.d.1∨SR x.d.1 e.d.1)/\e.d.2.1=x.d.2.1/\e.d.b.1=x.d.b.1)∨(x.1.1=4/\e.c.2.1=x.c.2.1/\e.c.b.1=x.c.b.1/\e.c.b.2.1=x.c.b.2.1/\e.d.1=x.d.1/\(PR x.d.2.1 e.d.2.1∨SR x.d.2.1 e.d.2.1)/\e.d.b.1=x.d.b.1)∨(x.1.1=5/\e.c.2.1=x.c.2.1/\e.c.b.1=x.c.b.1/\e.c.b.2.1=x.c.b.2.1/\e.d.1=x.d.1/\e.d.2.1=x.d.2.1/\(PR x.d.b.1 e.d.b.1∨SR x.d.b.1 e.d.b.1)))):=by
 unfold cJ px;try dsimp only
 show PQ _ _;rw[aut,bX,aK];refine⟨λhn=> ?_,λhk=> ?_⟩
 .rw[av];refine⟨rfl,rfl,rfl,rfl,rfl,rfl,rfl,rfl,.inl ⟨λh=> ?_,rfl,rfl,rfl,rfl,rfl,rfl⟩⟩;rw[dA h.1,dA h.2] at hn;cases hn
 rw[ayh] at hk;obtain⟨b,_,_⟩:=aOL hk 6 (by omega);have hr:=hk;rw[cj,ke,ke] at hr;obtain⟨k0,k6⟩:=hr;simp only[aM,b]
 repeat' (first
  |rw[aC]
  |(with_reducible refine ay (aUY _ ?_) λe _ he=> ?_)
  |(with_reducible refine ay (VT _) λe _ he=> ?_)
  |(rw[tI];refine⟨λa ha=> ?_,λa ha=> ?_⟩)
  |(rw[bD];intro _ _)
  |(rw[aK];refine⟨λc=> ?_,λc=> ?_⟩<;>first|have c:=eq_of_beq c|have c:=ayk c|skip))
 all_goals first
  |(dsimp only;omega)
  |(rw[av];exact⟨rfl,rfl,rfl,rfl,rfl,rfl,rfl,rfl,.inr (.inl ⟨by omega,.inr he,rfl,rfl,rfl,rfl,rfl⟩)⟩)
  |(rw[ha] at he;rw[av];exact⟨rfl,rfl,rfl,rfl,rfl,rfl,rfl,rfl,.inr (.inl ⟨by omega,.inl he,rfl,rfl,rfl,rfl,rfl⟩)⟩)
  |(rw[av];exact⟨rfl,rfl,rfl,rfl,rfl,rfl,rfl,rfl,.inr (.inr (.inl ⟨by omega,rfl,.inr he,rfl,rfl,rfl,rfl⟩))⟩)
  |(rw[ha] at he;rw[av];exact⟨rfl,rfl,rfl,rfl,rfl,rfl,rfl,rfl,.inr (.inr (.inl ⟨by omega,rfl,.inl he,rfl,rfl,rfl,rfl⟩))⟩)
  |(rw[av];exact⟨rfl,rfl,rfl,rfl,rfl,rfl,rfl,rfl,.inr (.inr (.inr (.inl ⟨by omega,rfl,rfl,.inr he,rfl,rfl,rfl⟩)))⟩)
  |(rw[ha] at he;rw[av];exact⟨rfl,rfl,rfl,rfl,rfl,rfl,rfl,rfl,.inr (.inr (.inr (.inl ⟨by omega,rfl,rfl,.inl he,rfl,rfl,rfl⟩)))⟩)
  |(rw[av];exact⟨rfl,rfl,rfl,rfl,rfl,rfl,rfl,rfl,.inr (.inr (.inr (.inr (.inl ⟨by omega,rfl,rfl,rfl,.inr he,rfl,rfl⟩))))⟩)
  |(rw[ha] at he;rw[av];exact⟨rfl,rfl,rfl,rfl,rfl,rfl,rfl,rfl,.inr (.inr (.inr (.inr (.inl ⟨by omega,rfl,rfl,rfl,.inl he,rfl,rfl⟩))))⟩)
  |(rw[av];exact⟨rfl,rfl,rfl,rfl,rfl,rfl,rfl,rfl,.inr (.inr (.inr (.inr (.inr (.inl ⟨by omega,rfl,rfl,rfl,rfl,.inr he,rfl⟩)))))⟩)
  |(rw[ha] at he;rw[av];exact⟨rfl,rfl,rfl,rfl,rfl,rfl,rfl,rfl,.inr (.inr (.inr (.inr (.inr (.inl ⟨by omega,rfl,rfl,rfl,rfl,.inl he,rfl⟩)))))⟩)
  |(rw[av];exact⟨rfl,rfl,rfl,rfl,rfl,rfl,rfl,rfl,.inr (.inr (.inr (.inr (.inr (.inr (⟨by omega,rfl,rfl,rfl,rfl,rfl,.inr he⟩))))))⟩)
  |(rw[ha] at he;rw[av];exact⟨rfl,rfl,rfl,rfl,rfl,rfl,rfl,rfl,.inr (.inr (.inr (.inr (.inr (.inr (⟨by omega,rfl,rfl,rfl,rfl,rfl,.inl he⟩))))))⟩)
  |skip
open Go.Ab Go.Ab.Pg Go.Ab.Rq
def IZ:=qa (pl (c (aa oI) gW) nil)
def abK:=qe (res (pu (ac ax1) (pu nil nil)))
def axJ:=qe (res (pu eN (pu nil (c aRa (c kZ (c ml (c aQF (c aQY (c aQZ (c aQ0 (c aQ1 (c aQ2 (c aQ3 (c lN (c aQU aQ8)))))))))))))))
abbrev Q3:=abK.B⊕((Hn×Bool×NI×(NI×NI)×(Nat×Nat)×rV×Bool×Int×ma×Bool×Bool×Bool×Int×Int×Int×ET×Nat)×(ma×Int×Int)×Oc×SK×bZ×bZ×bZ×bZ×bZ×bZ×NH×uU×EU×eW×eW×eW×eW×eW×eW×Nat×NI×NI×NI×NI×NI×NI×NI×NI×NI×NI×NI)
def asX:Q3->T:=ls (lf abK) (λd=>lf axJ (d.1,d.2.1,d.b.1,d.b.2.1,d.c.1,d.c.2.1,d.c.b.1,d.c.b.2.1,d.d.1,d.d.2.1,d.d.b.1,d.d.b.2.1,d.d.c.1,(d.c.1.b.1,d.d.c.2.1),(d.c.2.1.b.1,d.d.c.b.1),(d.c.b.1.b.1,d.d.c.b.2.1),(d.c.b.2.1.b.1,d.e.1),(d.d.1.b.1,d.e.2.1),(d.d.2.1.b.1,d.e.b.1),d.e.b.2))
abbrev aIs:=IZ.B->Option Q3
def aea (g:aIs):Ct:=(47,FC IZ asX g)
def rr:=qs (st (pr (us 1 (c ai (us 3 (cu eN (us 1 (cl ai (us 29 nil))))))) (pl (c (so aRa) (c mM (c mN (c oG (cd (so aQY) λb4=>(cd (so aQZ) λb5=>(cd (so aQ0) λb6=>(cd (so aQ1) λb7=>(cd (so aQ2) λb8=>(cd (so aQ3) λb9=>(c lO (c (so aQU) (c oH (c (so (cl (gs b4.b.1 aA) nil)) (c (so (cl (gs b5.b.1 aA) nil)) (c (so (cl (gs b6.b.1 aA) nil)) (c (so (cl (gs b7.b.1 aA) nil)) (c (so (cl (gs b8.b.1 aA) nil)) (c (so (cl (gs b9.b.1 aA) nil)) Oh))))))))))))))))))) nil)))
def ZM:=qs (st (pu (us 4 (cu (ac ax1) (us 32 nil))) (pu nil nil)))
def auN:=qs (st (pr (us 1 (c ai (us 3 (cu eN (us 1 (c ai (us 13 (c ai aWa)))))))) (pl (c (so aRa) (c mM (c mN (c oG (c (so aQY) (c (so aQZ) (c (so aQ0) (c (so aQ1) (c (so aQ2) (c (so aQ3) (c lO (c (so aQU) Oj)))))))))))) nil)))
abbrev Dy:=ZM.B⊕((Int×Int×Bool)×(Hn×Bool×NI×(NI×NI)×(Nat×Nat)×rV×Bool×Int×ma×Bool×Bool×Bool×Int×Int×Int×ET×Nat)×(ma×Int×Int)×Oc×SK×bZ×bZ×bZ×bZ×bZ×bZ×NH×uU×EU×eW×eW×eW×eW×eW×eW×Nat×NI×NI×NI×NI×NI×NI×NI×NI×NI×NI×NI)
def akO {ρ:Type}(x:Dy)(K:AX->St->Option ρ):Option ρ:=(t7 (λd=>K .ret (ZM.em d)) (λd=>K (.ex 0) (auN.em ((d.1.1,d.1.2.1,d.1.2.1,d.1.1,d.1.b),d.2.1,d.b.1,d.b.2.1,d.c.1,d.c.2.1,d.c.b.1,d.c.b.2.1,d.d.1,d.d.2.1,d.d.b.1,d.d.b.2.1,d.d.c.1,d.d.c.2.1,(d.c.2.1.b.1,d.d.c.b.1),(d.c.b.1.b.1,d.d.c.b.2.1),(d.c.b.2.1.b.1,d.e.1),(d.d.1.b.1,d.e.2.1),(d.d.2.1.b.1,d.e.b.1),(d.d.b.1.b.1,d.e.b.2.1),d.e.c)))) x
def Uz (aiP:Ny)(yS:tD)(d:rr.B):PL rr Dy:=let aT:=d.2.1.2;let n4:=aT.2.2.2;let n9:=n4.2.2.2.2.2.2.2.2.2.2.2.2;let n3:=d.2.2.2.2.2;let n8:=n3.2.2;let n1:=n8.2.2;let n5:=n1.2.2.2;let n7:=n5.2.2.2.2;let n2:=n7.2.2.2.2.2;let n6:=n2.2.2.2.2.2;let y0:=decide (d.1.2<=d.1.1);ae y0 (opt (aiP (wI (8000*d.1.2)) 8000) λaj=>ae (ww n4.1.2 n4.1.2) (ae (ww n9 n9) (ae (ww n3.1.2.2.1 n3.1.2.2.1) (ae (ww n3.2.1.2.2.1 n3.2.1.2.2.1) (ae (ww n8.1.2.2.1 n8.1.2.2.1) (ae (ww n8.2.1.2.2.1 n8.2.1.2.2.1) (ae (ww n1.1.2.2.1 n1.1.2.2.1) (ae (ww n1.2.1.2.2.1 n1.2.1.2.2.1) (ae (ww n5.1.2.2 n5.1.2.2) (opt (yS ((aj.1,aj.2.1,(0,0,0),0,0,aj.2.2),(d.2.1.1,aT.1,aT.2.1,aT.2.2.1,n4.1.2,n4.2),d.2.2.1,d.2.2.2.1,(sh8 n4.1.1 d.2.2.2.2.1.2),n3.1,n3.2.1,n8.1,n8.2.1,n1.1,n1.2.1,n1.2.2.1,n5.1,(aef 0 n5.2.1.2),(kQ 0 n5.2.2.1),(kQ 0 n5.2.2.2.1),(kQ 0 n7.1),(kQ 0 n7.2.1),(kQ 0 n7.2.2.1),(kQ 0 n7.2.2.2.1),λj=>n2.1 (0+j),λj=>n2.2.1 (0+j),λj=>n2.2.2.1 (0+j),λj=>n2.2.2.2.1 (0+j),λj=>n2.2.2.2.2.1 (0+j),λj=>n6.1 (0+j),λj=>n6.2.1 (0+j),λj=>n6.2.2.1 (0+j),λj=>n6.2.2.2.1 (0+j),λj=>n6.2.2.2.2.1 (0+j),λj=>n6.2.2.2.2.2 (0+j))) λaE=>ae (aE.1.2!=0) (ret (wr (ws ()))) (ret (ws ((d.1.1,wI (d.1.2+1)),aE.2)))) no) no) no) no) no) no) no) no) no) (ret (wr (wr ((d.1.1,d.1.2,y0),d.2))))
def akP:=bC (Uz CO kH) 2000
def aeb (ZN:Zw)(ew:LT rr Dy)(x:IZ.B):Pg Q3:=opt (ZN x.1) λd=>sm d (λd=>ret (ws ())) (λd=>let bI:=d.1.2.2;let n6:=bI.2.2.2.2;let n15:=n6.2.2.2;let n4:=d.2.2.2;let n8:=n4.2.2.2.2.2;let n2:=n15.2.2.2.2;let n16:=n2.2.2.2;let n5:=n16.2.2.2.2;let bo:=n5.2.2.2.2;let n1:=n8.2.2.2.2;let aT:=n1.2.1;let n7:=n1.2.2;let ba:=n7.2.1;let n3:=n7.2.2;let bj:=n3.2.1;let n9:=n3.2.2;ae true (ae true (ae true (ae true (ae true (ae true (opt (ew ((x.2,1),((d.1.1,d.1.2.1,bI.1,bI.2.1,(bI.2.2.1,bI.2.2.2.1,n6.1,n6.2.1,n6.2.2.1,n15.1),(n15.2.1,n15.2.2.1,n15.2.2.2.1,n2.1,n2.2.1,n2.2.2.1),n16.1,n16.2.1,n16.2.2.1,n16.2.2.2.1,n5.1,n5.2.1,n5.2.2.1,n5.2.2.2.1,bo.1,bo.2.1),bo.2.2.1,bo.2.2.2.1,bo.2.2.2.2,(0,0),(0,0,false,false),false,0,(0,0,0),false,false,false,0,0,0,((1073741824,0,0,0),(0,0,0),0,0,0),0),((d.2.1.1,d.2.1.2.1,d.2.1.2.2.1),d.2.1.2.2.2),(d.2.2.1,(0,0,(0,0,0),0,0,0),false),(0,n4.1,n4.1,n4.1,n4.1,n4.1,n4.1,n4.1,n4.1),((0,0,0,0,0),n4.2.1,0, -9223372036854775808),((0,0,0,0,0),n4.2.2.1,0, -9223372036854775808),((0,0,0,0,0),n4.2.2.2.1,0, -9223372036854775808),((0,0,0,0,0),n4.2.2.2.2.1,0, -9223372036854775808),((0,0,0,0,0),n8.1,0, -9223372036854775808),((0,0,0,0,0),n8.2.1,0, -9223372036854775808),(n8.2.2.1,0),(n8.2.2.2.1.1,n8.2.2.2.1.2,0),(0,n4.1,n4.1,n4.1,n4.1,n4.1,n4.1,n4.1,n4.1,n4.1,n4.1),(n1.1,n1.1,n1.1,n1.1,n1.1,n1.1,n1.1,n1.1,n1.1),(aT,aT,aT,aT,aT,aT,aT,aT,aT),(n7.1,n7.1,n7.1,n7.1,n7.1,n7.1,n7.1,n7.1,n7.1),(ba,ba,ba,ba,ba,ba,ba,ba,ba),(n3.1,n3.1,n3.1,n3.1,n3.1,n3.1,n3.1,n3.1,n3.1),(bj,bj,bj,bj,bj,bj,bj,bj,bj),0,n9,n9,n9,n9,n9,n9,n9,n9,n9,n9,n9)) λx=>sum x (λd=>ret (ws ())) λd=>ret (wr d.2)) no) no) no) no) no) no)
def asY:=λx=>(aeb Gd akP x).val
abbrev Q4:=Zw×Ny×tD×(LT rr Dy)
def aec (p:Q4):KK:=⟨[auy p.1,aiM p.2.1,Nw p.b.1],⟨[⟨5,(0::2::3::4::6::rg 8 29 []),[(0,[])]⟩],[fV 5 0 rr akO p.b.2],[],[],(some ⟨0,(rg 0 4 (rg 5 32 [])),[]⟩)⟩,0,47⟩
theorem azU (p:Q4):LI (aec p) 5 rr akO (Uz p.2.1 p.b.1):=λ_ d c K=>by kernel_rfl
theorem aIt (p:Q4):D2 (aec p) IZ asX λb=>aeb p.1 p.b.2 b:=λb=>by kernel_rfl
abbrev aed:Q4:=(Gd,CO,kH,akP)
theorem aIu [ax]:SC (aea asY):=sc (kS (k:=aec aed) (.c aGU (.c axF (.c abE (.nil _)))) [5] [] ⟨kL (azU aed),trivial⟩ trivial (aIt aed))
def Kz:=qa (pr (cu eN (cl wR nil)) (cd pP λb0=>(c kZ (c ml (c (cl (gs b0.c.1 mj) nil) (cd qj λb4=>(cd oB λb5=>(cd oC λb6=>(cd oD λb7=>(cd oE λb8=>(cd oF λb9=>(c lN (cd rX λtQ=>(c (cl (gs b0.e kd) nil) (c (cl (gs b4.b.1 aA) nil) (c (cl (gs b5.b.1 aA) nil) (c (cl (gs b6.b.1 aA) nil) (c (cl (gs b7.b.1 aA) nil) (c (cl (gs b8.b.1 aA) nil) (c (cl (gs b9.b.1 aA) nil) (cl (cl (gs tQ.b hI) nil) nil)))))))))))))))))))))
def apn:=qe (res (pr ai (pr (cl (Bu aQ9) aQW) aRd)))
abbrev aiQ:=apn.B
abbrev auO:=Kz.B->Option aiQ
def aHa (g:auO):Ct:=(21,FC Kz (lf apn) g)
def m8:=qs (st (pr (cu eN (c wR (us 2 (cu abN (c ai (c ai (c ai (cu aSK (us 2 aV2))))))))) (pl (c (so (a 26 oI (c gb (c gR (a 2 oR (cu (gp 21 5) (cu (gp 22 10) (c (gc (dM (pu (nat 23) (pr EW (pl eC (pu zO dR)))))) (au 6 (cu (gp 24 8) (cu (gp 25 8) (cu (gp 26 8) (cu (gp 27 8) (cu (gp 28 8) (cu (gp 29 8) nil)))))) (cu (gp 30 37) (a 4 rW (cu (gp 31 3) (c gb (c gi (a 3 iw (c gb (c gb (c gb (c gi (c gi (c gi (a 10 rY (cl (gc (dM (pu (nat 32) (pu (ox (pu bV (pu bV (nat 10)))) (pl eC (pu (nat 10) dR)))))) nil))))))))))))))))))))))) (cu nO (cu nO (cu nO (cu nO (cu nO (cu nO (cu nO (cu nO (cu nO (cu nO (cu nO (cu nO (cu nO (cu nO (cu nO (cu nO (cu nO (cu nO (cu nO (c (so (c gi (c gi (c gi (c gi alk))))) (c mM (c mN (c oG (c (so aya) (c (so abS) (c (so abT) (c (so abU) (c (so abV) (c alp (c lO (c (so (c gi (c gi (cl (gc (dM (pu (nat 39) (pu (ox (pu bV (pu bV kX))) (pl eC (pu kX dR)))))) nil)))) Oj)))))))))))))))))))))))))))))))) alq)))
def aDI:=qs (st (pr (cu eN (c wR (us 2 (cu abN (c ai (c ai (c ai (cu aSK (us 2 (c ai (us 25 (c ai (cu aQr (c ai (c ab (cu Od (c ai (c ab (c ab (us 2 aWi)))))))))))))))))))) (pl (c (so (a 26 oI (c gb (c gR (a 2 oR (cu (gp 21 5) (cu (gp 22 10) (c (gc (dM (pu (nat 23) (pr EW (pl eC (pu zO dR)))))) (au 6 (cu (gp 24 8) (cu (gp 25 8) (cu (gp 26 8) (cu (gp 27 8) (cu (gp 28 8) (cu (gp 29 8) nil)))))) (cu (gp 30 37) (a 4 rW (cu (gp 31 3) (c gb (c gi (a 3 iw (c gb (c gb (c gb (c gi (c gi (c gi (a 10 rY (cl (gc (dM (pu (nat 32) (pu (ox (pu bV (pu bV (nat 10)))) (pl eC (pu (nat 10) dR)))))) nil))))))))))))))))))))))) (cu nO (cu nO (cu nO (cu nO (cu nO (cu nO (cu nO (cu nO (cu nO (cu nO (cu nO (cu nO (cu nO (cu nO (cu nO (cu nO (cu nO (cu nO (cu nO (c (so (c gi (c gi (c gi (c gi alk))))) (c mM (c mN (c oG (c (so aya) (c (so abS) (c (so abT) (c (so abU) (c (so abV) (c alp (c lO (c (so (c gi (c gi (cl (gc (dM (pu (nat 39) (pu (ox (pu bV (pu bV kX))) (pl eC (pu kX dR)))))) nil)))) Oj)))))))))))))))))))))))))))))))) alq)))
def aDJ:=qs (st (pr (cu eN (c wR (us 2 (cu abN (c ai (c ai (c ai (cu aSK (us 2 (c ai (us 25 (c ai (cu aQr (c ai (c ab (cu Od (c ai (c ab (cl ab (us 45 nil)))))))))))))))))))) (pl (c (so (a 26 oI (c gb (c gR (a 2 oR (cu (gp 21 5) (cu (gp 22 10) (c (gc (dM (pu (nat 23) (pr EW (pl eC (pu zO dR)))))) (au 6 (cu (gp 24 8) (cu (gp 25 8) (cu (gp 26 8) (cu (gp 27 8) (cu (gp 28 8) (cu (gp 29 8) nil)))))) (cu (gp 30 37) (a 4 rW (cu (gp 31 3) (c gb (c gi (a 3 iw (c gb (c gb (c gb (c gi (c gi (c gi (a 10 rY (cl (gc (dM (pu (nat 32) (pu (ox (pu bV (pu bV (nat 10)))) (pl eC (pu (nat 10) dR)))))) nil))))))))))))))))))))))) (cu nO (cu nO (cu nO (cu nO (cu nO (cu nO (cu nO (cu nO (cu nO (cu nO (cu nO (cu nO (cu nO (cu nO (cu nO (cu nO (cu nO (cu nO (cu nO (c (so (c gi (c gi (c gi (c gi alk))))) (c mM (c mN (c oG (c (so aya) (c (so abS) (c (so abT) (c (so abU) (c (so abV) (c alp (c lO (c (so (c gi (c gi (cl (gc (dM (pu (nat 39) (pu (ox (pu bV (pu bV kX))) (pl eC (pu kX dR)))))) nil)))) Oj)))))))))))))))))))))))))))))))) alq)))
def aDK:=qs (st (pr (cu eN (c wR (us 2 (cu abN (c ai (c ai (c ai (cu aSK (us 2 (c ai (us 25 (c ai (cu aQr (c ai (cl ab (cu ui (xs 2 (cu ui (us 45 nil))))))))))))))))))) (pl (c (so (a 26 oI (c gb (c gR (a 2 oR (cu (gp 21 5) (cu (gp 22 10) (c (gc (dM (pu (nat 23) (pr EW (pl eC (pu zO dR)))))) (au 6 (cu (gp 24 8) (cu (gp 25 8) (cu (gp 26 8) (cu (gp 27 8) (cu (gp 28 8) (cu (gp 29 8) nil)))))) (cu (gp 30 37) (a 4 rW (cu (gp 31 3) (c gb (c gi (a 3 iw (c gb (c gb (c gb (c gi (c gi (c gi (a 10 rY (cl (gc (dM (pu (nat 32) (pu (ox (pu bV (pu bV (nat 10)))) (pl eC (pu (nat 10) dR)))))) nil))))))))))))))))))))))) (cu nO (cu nO (cu nO (cu nO (cu nO (cu nO (cu nO (cu nO (cu nO (cu nO (cu nO (cu nO (cu nO (cu nO (cu nO (cu nO (cu nO (cu nO (cu nO (c (so (c gi (c gi (c gi (c gi alk))))) (c mM (c mN (c oG (c (so aya) (c (so abS) (c (so abT) (c (so abU) (c (so abV) (c alp (c lO (c (so (c gi (c gi (cl (gc (dM (pu (nat 39) (pu (ox (pu bV (pu bV kX))) (pl eC (pu kX dR)))))) nil)))) Oj)))))))))))))))))))))))))))))))) alq)))
abbrev G6:=((auR×Int×Int×Int×Int×Int×Bool×Bool×Bool)×(Hn×Bool×NI×(NI×NI)×(Nat×Nat)×rV×Bool×Int×ma×Bool×Bool×Bool×Int×Int×Int×ET×Nat)×aVI×(ma×Int×Int)×Oc×SK×bZ×bZ×bZ×bZ×bZ×bZ×NH×uU×EU×mG×mG×mG×mG×mG×mG×Nat×NI×NI×NI×NI×NI×NI×NI×NI×NI×NI×NI)⊕(((auR×Int×Int×Int×Int×Int×Bool×Bool)×(Hn×Bool×NI×(NI×NI)×(Nat×Nat)×rV×Bool×Int×ma×Bool×Bool×Bool×Int×Int×Int×ET×Nat)×aVI×(ma×Int×Int)×Oc×SK×bZ×bZ×bZ×bZ×bZ×bZ×NH×uU×EU×mG×mG×mG×mG×mG×mG×Nat×NI×NI×NI×NI×NI×NI×NI×NI×NI×NI×NI)⊕((auR×Int×Int×Int×Int×Int×Bool)×(Hn×Bool×NI×(NI×NI)×(Nat×Nat)×rV×Bool×Int×ma×Bool×Bool×Bool×Int×Int×Int×ET×Nat)×aVI×(ma×Int×Int)×Oc×SK×bZ×bZ×bZ×bZ×bZ×bZ×NH×uU×EU×mG×mG×mG×mG×mG×mG×Nat×NI×NI×NI×NI×NI×NI×NI×NI×NI×NI×NI))
def axK {ρ:Type}(x:G6)(K:AX->St->Option ρ):Option ρ:=(t7 (λd=>K (.ex 3) (aDI.em ((d.1.1,d.1.2.1,d.1.b.1,d.1.b.2.1,d.1.c.1,d.1.c.1,d.1.c.2.1,d.1.c.b.1,d.1.c.1,d.1.c.b.2.1,d.1.c.b.2.1,d.1.b.1,d.1.d),d.2.1,(d.b.1.1,d.b.1.2.1,d.1.c.2.1,d.b.1.b),d.b.2))) (t7 (λd=>K (.ex 3) (aDJ.em ((d.1.1,d.1.2.1,d.1.b.1,d.1.b.2.1,d.1.c.1,d.1.c.1,d.1.c.2.1,d.1.c.b.1,d.1.c.1,d.1.c.b.2,d.1.c.b.2),d.2.1,(d.b.1.1,d.b.1.2.1,d.1.c.2.1,d.b.1.b),d.b.2))) (λd=>K (.ex 3) (aDK.em ((d.1.1,d.1.2.1,d.1.b.1,d.1.b.2.1,d.1.c.1,d.1.c),d.2.1,(d.b.1.1,d.b.1.2.1,d.1.c.2.1,d.b.1.b),d.b.2))))) x
def aiR (yS:tD)(aiP:Ny)(d:m8.B):PL m8 G6:=let n28:=d.1.1;let n27:=d.1.2.1;let n21:=d.2.1;let n17:=d.2.2;let n23:=n17.1.2.2;let n16:=n21.2.2.2.2;let n25:=n16.2.2.2.2.2.2.2.2.2.2.2.2;let bj:=d.1.2.2;let n29:=bj.2.1;let n24:=bj.2.2;let ba:=n17.2.2.2.2;let n8:=ba.2.2.2;let n30:=n8.2.2;let n15:=n30.2.2;let n19:=n15.2.2.2.2;let aT:=n19.2.2.2.2.2;let n18:=aT.2.2.2.2.2;let n2:=(n17.1.1,n17.1.2.1,n23.2);let y0:=wI (bj.1+8000);let y1:=decide (bj.1>1099511627776);let y2:=decide (n24<40);let y3:=decide (n24<n23.1);ae y3 (ae y2 (ae y1 (ret (wr (ws ((n28,n27,bj.1,n29,n24,n23.1,y3,y2,y1),n21,n2,n17.2)))) (opt (aiP y0 8000) λaj=>ae (ww n16.1.2 n16.1.2) (ae (ww n25 n25) (ae (ww ba.1.2.2.1 ba.1.2.2.1) (ae (ww ba.2.1.2.2.1 ba.2.1.2.2.1) (ae (ww ba.2.2.1.2.2.1 ba.2.2.1.2.2.1) (ae (ww n8.1.2.2.1 n8.1.2.2.1) (ae (ww n8.2.1.2.2.1 n8.2.1.2.2.1) (ae (ww n30.1.2.2.1 n30.1.2.2.1) (ae (ww n15.1.2.2 n15.1.2.2) (opt (yS ((aj.1,aj.2.1,(0,0,0),0,0,aj.2.2),(n21.1,n21.2.1,n21.2.2.1,n21.2.2.2.1,n16.1.2,n16.2),n17.2.1,n17.2.2.1,(sh8 n16.1.1 n17.2.2.2.1.2),ba.1,ba.2.1,ba.2.2.1,n8.1,n8.2.1,n30.1,n30.2.1,n15.1,(aef 0 n15.2.1.2),(kQ 0 n15.2.2.1.2),(kQ 0 n15.2.2.2.1.2),(kQ 0 n19.1.2),(kQ 0 n19.2.1.2),(kQ 0 n19.2.2.1.2),(kQ 0 n19.2.2.2.1.2),λj=>aT.1 (0+j),λj=>aT.2.1 (0+j),λj=>aT.2.2.1 (0+j),λj=>aT.2.2.2.1 (0+j),λj=>aT.2.2.2.2.1 (0+j),λj=>n18.1 (0+j),λj=>n18.2.1 (0+j),λj=>n18.2.2.1 (0+j),λj=>n18.2.2.2.1 (0+j),λj=>n18.2.2.2.2.1 (0+j),λj=>n18.2.2.2.2.2 (0+j))) λaE=>let n26:=aE.2.2;let bo:=n26.2.2.2;let n9:=bo.2.2.2;let n22:=n9.2.2;let bI:=n22.2.2.2;let n20:=bI.2.2.2.2;let n7:=(bo.1.2.2.1,bI.2.1);let n6:=(bo.2.1.2.2.1,bI.2.2.1);let n5:=(bo.2.2.1.2.2.1,bI.2.2.2.1);let n4:=(n9.1.2.2.1,n20.1);let n3:=(n9.2.1.2.2.1,n20.2.1);let n1:=(n22.1.2.2.1,n20.2.2.1);let oN:=wI (n27+aE.1.1);ae (aE.1.2==0) (ret (ws ((n28,oN,y0,n29,wI (n24+1)),aE.2.1,n17.1,n26.1,n26.2.1,n26.2.2.1,bo.1,bo.2.1,bo.2.2.1,n9.1,n9.2.1,n22.1,n22.2.1,n22.2.2.1,bI.1,n7,n6,n5,n4,n3,n1,n20.2.2.2))) (ret (ws ((n28,oN,bj.1,n29,wI (n24+1)),aE.2.1,n17.1,n26.1,n26.2.1,n26.2.2.1,bo.1,bo.2.1,bo.2.2.1,n9.1,n9.2.1,n22.1,n22.2.1,n22.2.2.1,bI.1,n7,n6,n5,n4,n3,n1,n20.2.2.2)))) no) no) no) no) no) no) no) no) no)) (ret (wr (wr (ws ((n28,n27,bj.1,n29,n24,n23.1,y3,y2),n21,n2,n17.2)))))) (ret (wr (wr (wr ((n28,n27,bj.1,n29,n24,n23.1,y3),n21,n2,n17.2)))))
def ND:=bC (aiR kH CO) 2000
def rU:=qs (st (pr (cu eN (c wR (us 2 (cu abN (c ai (c ai aP3)))))) (pl aEr alq)))
def aDL:=qs (st (pr (cu eN (c wR (us 2 (cu abN (c ai (c ai (c ai (us 9 (c ai (c wR (c ai (c ab (cu Od (c ai (c ab (c ab (cu Od (c ai (c ab (cl ab (us 61 nil))))))))))))))))))))) (pl aEr alq)))
def aDM:=qs (st (pr (cu eN (c wR (us 2 (cu abN (c ai (c ai (c ai (us 9 (c ai (c wR (c ai (c ab (cu Od (c ai (c ab (cl ab aWV)))))))))))))))) (pl aEr alq)))
def aDN:=qs (st (pr (cu eN (c wR (us 2 (cu abN (c ai (c ai (c ai (us 9 (c ai (c wR (c ai (cl ab (cu ui (xs 2 (cu ui aWV))))))))))))))) (pl aEr alq)))
abbrev NF:=((auR×Int×Int×Int×Int×Bool×Bool×Bool)×(Hn×Bool×NI×(NI×NI)×(Nat×Nat)×rV×Bool×Int×ma×Bool×Bool×Bool×Int×Int×Int×ET×Nat)×(ma×Int×Int)×Oc×SK×bZ×bZ×bZ×bZ×bZ×bZ×NH×uU×EU×mG×mG×mG×mG×mG×mG×Nat×NI×NI×NI×NI×NI×NI×NI×NI×NI×NI×NI)⊕(((auR×Int×Int×Int×Int×Bool×Bool)×(Hn×Bool×NI×(NI×NI)×(Nat×Nat)×rV×Bool×Int×ma×Bool×Bool×Bool×Int×Int×Int×ET×Nat)×(ma×Int×Int)×Oc×SK×bZ×bZ×bZ×bZ×bZ×bZ×NH×uU×EU×mG×mG×mG×mG×mG×mG×Nat×NI×NI×NI×NI×NI×NI×NI×NI×NI×NI×NI)⊕((auR×Int×Int×Int×Int×Bool)×(Hn×Bool×NI×(NI×NI)×(Nat×Nat)×rV×Bool×Int×ma×Bool×Bool×Bool×Int×Int×Int×ET×Nat)×(ma×Int×Int)×Oc×SK×bZ×bZ×bZ×bZ×bZ×bZ×NH×uU×EU×mG×mG×mG×mG×mG×mG×Nat×NI×NI×NI×NI×NI×NI×NI×NI×NI×NI×NI))
def axL {ρ:Type}(x:NF)(K:AX->St->Option ρ):Option ρ:=(t7 (λd=>K (.ex 0) (aDL.em ((d.1.1,d.1.2.1,d.1.b.1,d.1.b.2.1,d.1.b.2.1,d.1.1,d.1.c.1,d.1.c.2.1,d.1.b.2.1,d.1.c.b.1,d.1.c.b.1,d.1.2.1,d.1.c.b.2,d.1.c.b.2),d.2))) (t7 (λd=>K (.ex 0) (aDM.em ((d.1.1,d.1.2.1,d.1.b.1,d.1.b.2.1,d.1.b.2.1,d.1.1,d.1.c.1,d.1.c.2.1,d.1.b.2.1,d.1.c.b,d.1.c.b),d.2))) (λd=>K (.ex 0) (aDN.em ((d.1.1,d.1.2.1,d.1.b.1,d.1.b.2.1,d.1.b.2.1,d.1.1,d.1.c),d.2))))) x
def aiS (uS:pk)(yS:tD)(qx:LT m8 G6)(d:rU.B):PL rU NF:=let n38:=d.2.1;let n26:=d.2.2.2;let Ef:=n26.2.2.1;let n22:=d.1.1;let n20:=d.1.2;let n39:=n20.2.1;let n29:=n20.2.2;let n19:=n38.2.2.2.2;let n36:=n19.2.2.2.2.2.2.2.2.2.2.2.2;let bI:=n22.2.2.2.2;let n33:=bI.2.2;let bj:=n26.2.2.2;let F6:=bj.2.2.1;let n23:=bj.2.2.2;let n9:=n33.2.2.2;let n28:=n9.2.2.2;let n15:=n28.2.2.2;let n31:=n15.2.2.2;let n8:=n23.2.2.2;let PN:=n8.2.2;let n21:=PN.2.2;let n34:=n21.2.2;let aT:=n34.2.2.2.2;let n35:=aT.2.2;let n16:=n35.2.2.2;let Ko:=n16.2.2;let n1:=(n38.1,n38.2.1,n38.2.2.1,n38.2.2.2.1,n19.1.2,n19.2);let y0:=wt n29;let y1:=wI (n29+1);let y2:=wn n22.1;let y3:=decide (n20.1<60);let y4:=decide (n29<30);let y5:=decide (n29<y2);let y6:=ww n19.1.2 n19.1.2;let y7:=ww n36 n36;let y8:=ww Ef.2.2.1 Ef.2.2.1;let y9:=ww bj.1.2.2.1 bj.1.2.2.1;let uc:=ww bj.2.1.2.2.1 bj.2.1.2.2.1;let ud:=ww F6.2.2.1 F6.2.2.1;let wK:=ww n23.1.2.2.1 n23.1.2.2.1;let yF:=ww n23.2.1.2.2.1 n23.2.1.2.2.1;let wL:=ww n8.1.2.2 n8.1.2.2;ae y5 (ae y4 (ae y3 (ae (aX n29 n22.1) (ae (n22.2.1 y0==1) (ae y6 (ae y7 (ae y8 (ae y9 (ae uc (ae ud (ae wK (ae yF (ae wL (opt (uS ((n22.2.2.1 y0,n28.1 y0,n28.2.1 y0,n28.2.2.1 y0,n15.1 y0,n15.2.1 y0,n15.2.2.1 y0,n31.1 y0,n31.2.1 y0,n31.2.2 y0),n1,d.2.2.1,n26.1,(sh8 n19.1.1 n26.2.1.2),Ef,bj.1,bj.2.1,F6,n23.1,n23.2.1,n23.2.2.1,n8.1,(aef 0 n8.2.1.2),(kQ 0 PN.1.2),(kQ 0 PN.2.1.2),(kQ 0 n21.1.2),(kQ 0 n21.2.1.2),(kQ 0 n34.1.2),(kQ 0 n34.2.1.2),λj=>n34.2.2.2.1 (0+j),λj=>aT.1 (0+j),λj=>aT.2.1 (0+j),λj=>n35.1 (0+j),λj=>n35.2.1 (0+j),λj=>n35.2.2.1 (0+j),λj=>n16.1 (0+j),λj=>n16.2.1 (0+j),λj=>Ko.1 (0+j),λj=>Ko.2.1 (0+j),λj=>Ko.2.2 (0+j))) λaj=>let n27:=aj.2.1.2.2;let n24:=aj.2.2.2.2.2;let bo:=n24.2.2.2.2.2;let Zi:=bo.2.2;let n25:=Zi.2.2.2;ret (ws ((n22,n20.1,n39,y1),(aj.2.1.1,aj.2.1.2.1,n27.1,n27.2.1,(0,n27.2.2.1),n27.2.2.2),aj.2.2.1,aj.2.2.2.1,(n27.2.2.1,aj.2.2.2.2.1),n24.1,n24.2.1,n24.2.2.1,n24.2.2.2.1,n24.2.2.2.2.1,bo.1,bo.2.1,Zi.1,(n27.2.2.2.2.2.2.2.2.2.2.2.2.2.2,Zi.2.1),Zi.2.2.1,n25.1,n25.2.1,n25.2.2.1,n25.2.2.2.1,n25.2.2.2.2.1,Zi.1.2.2,n25.2.2.2.2.2))) no) no) no) no) no) no) no) no) no) (ae (n22.2.1 y0==0) (ae y6 (ae y7 (ae y8 (ae y9 (ae uc (ae ud (ae wK (ae yF (ae wL (opt (yS ((bI.1 y0,bI.2.1 y0,(n33.1 y0,n33.2.1 y0,n33.2.2.1 y0),n9.1 y0,n9.2.1 y0,n9.2.2.1 y0),n1,d.2.2.1,n26.1,(sh8 n19.1.1 n26.2.1.2),Ef,bj.1,bj.2.1,F6,n23.1,n23.2.1,n23.2.2.1,n8.1,(aef 0 n8.2.1.2),(kQ 0 PN.1.2),(kQ 0 PN.2.1.2),(kQ 0 n21.1.2),(kQ 0 n21.2.1.2),(kQ 0 n34.1.2),(kQ 0 n34.2.1.2),λj=>n34.2.2.2.1 (0+j),λj=>aT.1 (0+j),λj=>aT.2.1 (0+j),λj=>n35.1 (0+j),λj=>n35.2.1 (0+j),λj=>n35.2.2.1 (0+j),λj=>n16.1 (0+j),λj=>n16.2.1 (0+j),λj=>Ko.1 (0+j),λj=>Ko.2.1 (0+j),λj=>Ko.2.2 (0+j))) λaj=>let n37:=aj.2.2;let n17:=n37.2.2.2;let ba:=n17.2.2.2;let n32:=ba.2.2;let n18:=n32.2.2.2;let n30:=n18.2.2.2.2;let n7:=(n17.1.2.2.1,n18.2.1);let n6:=(n17.2.1.2.2.1,n18.2.2.1);let n5:=(n17.2.2.1.2.2.1,n18.2.2.2.1);let n4:=(ba.1.2.2.1,n30.1);let n3:=(ba.2.1.2.2.1,n30.2.1);let n2:=(n32.1.2.2.1,n30.2.2.1);let oN:=wI (n20.1+aj.1.1);ae (aj.1.2==0) (ret (ws ((n22,oN,bI.1 y0,y1),aj.2.1,n37.1,n37.2.1,n37.2.2.1,n17.1,n17.2.1,n17.2.2.1,ba.1,ba.2.1,n32.1,n32.2.1,n32.2.2.1,n18.1,n7,n6,n5,n4,n3,n2,n30.2.2.2))) (ret (ws ((n22,oN,n39,y1),aj.2.1,n37.1,n37.2.1,n37.2.2.1,n17.1,n17.2.1,n17.2.2.1,ba.1,ba.2.1,n32.1,n32.2.1,n32.2.2.1,n18.1,n7,n6,n5,n4,n3,n2,n30.2.2.2)))) no) no) no) no) no) no) no) no) no) (opt (qx ((n22,n20.1,n39,n29,0),n38,(n22.2.1 y0,n22.2.2.1 y0,n22.2.2.2.1 y0,bI.1 y0,bI.2.1 y0,n33.1 y0,n33.2.1 y0,n33.2.2.1 y0,n9.1 y0,n9.2.1 y0,n9.2.2.1 y0,n28.1 y0,n28.2.1 y0,n28.2.2.1 y0,n15.1 y0,n15.2.1 y0,n15.2.2.1 y0,n31.1 y0,n31.2.1 y0,n31.2.2 y0),d.2.2)) λx=>sum x (λd=>ret (ws ((d.1.1,d.1.2.1,d.1.2.2.1,wI (d.1.2.2.2.1+1)),d.2.1,d.2.2.2))) λx=>sum x (λd=>ret (ws ((d.1.1,d.1.2.1,d.1.2.2.1,wI (d.1.2.2.2.1+1)),d.2.1,d.2.2.2))) λd=>ret (ws ((d.1.1,d.1.2.1,d.1.2.2.1,wI (d.1.2.2.2.1+1)),d.2.1,d.2.2.2))))) no) (ret (wr (ws ((n22,n20.1,n39,n29,y2,y5,y4,y3),d.2))))) (ret (wr (wr (ws ((n22,n20.1,n39,n29,y2,y5,y4),d.2)))))) (ret (wr (wr (wr ((n22,n20.1,n39,n29,y2,y5),d.2)))))
def VZ:=bC (aiS cJ kH ND) 2000
def auP (yT:sO)(ew:LT rU NF)(x:Kz.B):Pg aiQ:=let ba:=x.2.1.2;let n4:=x.2.2.2.2.2;let bj:=n4.1.2.2.1;let n8:=n4.2.1.2.2.1;let n3:=ba.2.2.2;let n5:=n3.2.2.2.2.2.2.2.2.2.2.2.2;let n1:=n4.2.2;let bo:=n1.1.2.2.1;let n9:=n1.2.1.2.2.1;let n6:=n1.2.2;let bI:=n6.1.2.2.1;let aT:=n6.2.1.2.2.1;let n2:=n6.2.2.2;let n7:=n2.2.2.2.2;ae (ww n3.1 n3.1) (ae (ww n5 n5) (ae (ww bj bj) (ae (ww n8 n8) (ae (ww bo bo) (ae (ww n9 n9) (ae (ww bI bI) (ae (ww aT aT) (ae (ww n2.1.2.2 n2.1.2.2) (opt (yT x.2) λd=>opt (ew ((x.1,0,d.2.2.2.2.1,0),(x.2.1.1,ba.1,ba.2.1,ba.2.2.1,(0,n3.1),n3.2),x.2.2.1,x.2.2.2.1,(n3.1,x.2.2.2.2.1),n4.1,n4.2.1,n1.1,n1.2.1,n6.1,n6.2.1,n6.2.2.1,n2.1,(n5,n2.2.1),(bj,n2.2.2.1),(n8,n2.2.2.2.1),(bo,n7.1),(n9,n7.2.1),(bI,n7.2.2.1),(aT,n7.2.2.2.1),n2.1.2.2,n7.2.2.2.2)) λx=>sum x (λd=>ret (d.1.2.1,d.2)) λx=>sum x (λd=>ret (d.1.2.1,d.2)) λd=>ret (d.1.2.1,d.2)) no) no) no) no) no) no) no) no) no
def KA:=λx=>(auP fR VZ x).val
abbrev ZO:=sO×pk×tD×Ny×(LT m8 G6)×(LT rU NF)
def aiT (p:ZO):KK:=⟨[yI p.1,uR p.2.1,Nw p.b.1,aiM p.b.2.1],⟨[⟨4,(2::3::rg 9 81 [8]),[(3,[]),(4,[]),(5,[]),(6,[]),(7,[]),(8,[]),(9,[]),(10,[]),(11,[]),(12,[]),(13,[]),(14,[]),(15,[]),(16,[]),(17,[]),(18,[]),(19,[]),(20,[]),(21,[]),(0,[])]⟩,⟨9,(2::3::9::10::rg 12 78 []),[(3,[]),(4,[]),(5,[]),(6,[]),(7,[]),(8,[]),(9,[]),(10,[]),(11,[]),(12,[]),(13,[]),(14,[]),(15,[]),(16,[]),(17,[]),(18,[]),(19,[]),(20,[]),(21,[]),(0,[])]⟩],[fV 9 20 m8 axK p.c.1,fV 4 20 rU axL p.c.2],(0::rg 4 6 []),[],(some ⟨0,(rg 0 4 (rg 5 85 [])),[(3,[]),(4,[]),(5,[]),(6,[]),(7,[]),(8,[]),(9,[]),(10,[]),(11,[]),(12,[]),(13,[]),(14,[]),(15,[]),(16,[]),(17,[]),(18,[]),(19,[]),(20,[]),(21,[]),(0,[])]⟩)⟩,20,21⟩
theorem aIv (p:ZO):LI (aiT p) 9 m8 axK (aiR p.b.1 p.b.2.1):=λ_ d c K=>by kernel_rfl
theorem aIw (p:ZO):LI (aiT p) 4 rU axL (aiS p.2.1 p.b.1 p.c.1):=λ_ d c K=>by kernel_rfl
theorem aSp (p:ZO):D2 (aiT p) Kz (lf apn) λb=>auP p.1 p.c.2 b:=λb=>by kernel_rfl
abbrev aiU:ZO:=(fR,cJ,kH,CO,ND,VZ)
theorem aSq [ax]:SC (aHa KA):=sc (kS (k:=aiT aiU) (.c F3 (.c CR (.c abE (.c axF (.nil _))))) [4,9] [] ⟨kL (aIw aiU),⟨kL (aIv aiU),trivial⟩⟩ trivial (aSp aiU))
end Go.Proofs.YtldgljclcgaibaaGreat
namespace Go.Proofs.YtldgljclcgaibaaGreat
open Go.Ab Go.Ab.Pg
structure Clo (P:Int->Int->Bf->Prop):Prop where
 len:∀{m t b},P m t b->b.2.2.1<=64
 br:∀{m t u b c},P m t b->t<=u->BR u b c->P m u c
 pr:∀{m t b c},0<=m->m<=1000->P m t b->(PR b c∨SR b c)->P (m+1) t c
 up:∀{m t b},P m t b->P (m+1) t b
def Tq (T S:Int)(a:Bool)(n:Nat)(r:Nat->Int):Prop:=(a=false->S<=0)/\Qd T S n r
theorem aVl (t:Int):CO t 8000=some (t,8000, -84238486):=by kernel_rfl
theorem aSr (N:Nat)(h1:1<=N)(hN:N<=1999){P:Int->Int->Bf->Prop}(C:Clo P)(m:Int)(q:Int)(hq:q+40<=1998)(w:m8.B):∀(d:m8.B) (hd:d.1.1=w.1.1/\d.1.2.2.2.1=w.1.2.2.2.1/\0<=d.1.2.2.2.2/\d.1.2.2.2.2<=40/\((d.2.1.2.2.2.2.1.2:Nat):Int)<=q+d.1.2.2.2.2/\Tq d.2.1.2.2.2.2.2.2.2.2.2.2.2.2.2.1 d.2.2.2.2.1.2.1.1 d.2.2.2.2.1.2.2 d.2.1.2.2.2.2.1.2 (λi=>d.2.2.2.2.2.1.2.1 (d.2.1.2.2.2.2.1.1+i))/\P (m) d.2.1.2.2.2.2.2.2.2.2.2.2.2.2.2.1 d.2.2.2.2.2.2.1/\P (m) d.2.1.2.2.2.2.2.2.2.2.2.2.2.2.2.1 d.2.2.2.2.2.2.2.1/\P (m) d.2.1.2.2.2.2.2.2.2.2.2.2.2.2.2.1 d.2.2.2.2.2.2.2.2.1/\P (m) d.2.1.2.2.2.2.2.2.2.2.2.2.2.2.2.1 d.2.2.2.2.2.2.2.2.2.1/\P (m) d.2.1.2.2.2.2.2.2.2.2.2.2.2.2.2.1 d.2.2.2.2.2.2.2.2.2.2.1/\P (m) d.2.1.2.2.2.2.2.2.2.2.2.2.2.2.2.1 d.2.2.2.2.2.2.2.2.2.2.2.1/\d.2.2.2.2.2.2.2.2.2.2.2.2.2.1.1<=(N:Int)/\d.2.2.2.2.2.2.2.2.2.2.2.2.2.1.2.2<=N),Ok (ND d) (λx:G6=>match x with|.inl x=>x.1.1=w.1.1/\x.1.2.2.2.1=w.1.2.2.2.1/\((x.2.1.2.2.2.2.1.2:Nat):Int)<=q+40/\Tq x.2.1.2.2.2.2.2.2.2.2.2.2.2.2.2.1 x.2.2.2.2.1.2.1.1 x.2.2.2.2.1.2.2 x.2.1.2.2.2.2.1.2 (λi=>x.2.2.2.2.2.1.2.1 (x.2.1.2.2.2.2.1.1+i))/\P (m) x.2.1.2.2.2.2.2.2.2.2.2.2.2.2.2.1 x.2.2.2.2.2.2.1/\P (m) x.2.1.2.2.2.2.2.2.2.2.2.2.2.2.2.1 x.2.2.2.2.2.2.2.1/\P (m) x.2.1.2.2.2.2.2.2.2.2.2.2.2.2.2.1 x.2.2.2.2.2.2.2.2.1/\P (m) x.2.1.2.2.2.2.2.2.2.2.2.2.2.2.2.1 x.2.2.2.2.2.2.2.2.2.1/\P (m) x.2.1.2.2.2.2.2.2.2.2.2.2.2.2.2.1 x.2.2.2.2.2.2.2.2.2.2.1/\P (m) x.2.1.2.2.2.2.2.2.2.2.2.2.2.2.2.1 x.2.2.2.2.2.2.2.2.2.2.2.1/\x.2.2.2.2.2.2.2.2.2.2.2.2.2.1.1<=(N:Int)/\x.2.2.2.2.2.2.2.2.2.2.2.2.2.1.2.2<=N|.inr (.inl x)=>x.1.1=w.1.1/\x.1.2.2.2.1=w.1.2.2.2.1/\((x.2.1.2.2.2.2.1.2:Nat):Int)<=q+40/\Tq x.2.1.2.2.2.2.2.2.2.2.2.2.2.2.2.1 x.2.2.2.2.1.2.1.1 x.2.2.2.2.1.2.2 x.2.1.2.2.2.2.1.2 (λi=>x.2.2.2.2.2.1.2.1 (x.2.1.2.2.2.2.1.1+i))/\P (m) x.2.1.2.2.2.2.2.2.2.2.2.2.2.2.2.1 x.2.2.2.2.2.2.1/\P (m) x.2.1.2.2.2.2.2.2.2.2.2.2.2.2.2.1 x.2.2.2.2.2.2.2.1/\P (m) x.2.1.2.2.2.2.2.2.2.2.2.2.2.2.2.1 x.2.2.2.2.2.2.2.2.1/\P (m) x.2.1.2.2.2.2.2.2.2.2.2.2.2.2.2.1 x.2.2.2.2.2.2.2.2.2.1/\P (m) x.2.1.2.2.2.2.2.2.2.2.2.2.2.2.2.1 x.2.2.2.2.2.2.2.2.2.2.1/\P (m) x.2.1.2.2.2.2.2.2.2.2.2.2.2.2.2.1 x.2.2.2.2.2.2.2.2.2.2.2.1/\x.2.2.2.2.2.2.2.2.2.2.2.2.2.1.1<=(N:Int)/\x.2.2.2.2.2.2.2.2.2.2.2.2.2.1.2.2<=N|.inr (.inr x)=>x.1.1=w.1.1/\x.1.2.2.2.1=w.1.2.2.2.1/\((x.2.1.2.2.2.2.1.2:Nat):Int)<=q+40/\Tq x.2.1.2.2.2.2.2.2.2.2.2.2.2.2.2.1 x.2.2.2.2.1.2.1.1 x.2.2.2.2.1.2.2 x.2.1.2.2.2.2.1.2 (λi=>x.2.2.2.2.2.1.2.1 (x.2.1.2.2.2.2.1.1+i))/\P (m) x.2.1.2.2.2.2.2.2.2.2.2.2.2.2.2.1 x.2.2.2.2.2.2.1/\P (m) x.2.1.2.2.2.2.2.2.2.2.2.2.2.2.2.1 x.2.2.2.2.2.2.2.1/\P (m) x.2.1.2.2.2.2.2.2.2.2.2.2.2.2.2.1 x.2.2.2.2.2.2.2.2.1/\P (m) x.2.1.2.2.2.2.2.2.2.2.2.2.2.2.2.1 x.2.2.2.2.2.2.2.2.2.1/\P (m) x.2.1.2.2.2.2.2.2.2.2.2.2.2.2.2.1 x.2.2.2.2.2.2.2.2.2.2.1/\P (m) x.2.1.2.2.2.2.2.2.2.2.2.2.2.2.2.1 x.2.2.2.2.2.2.2.2.2.2.2.1/\x.2.2.2.2.2.2.2.2.2.2.2.2.2.1.1<=(N:Int)/\x.2.2.2.2.2.2.2.2.2.2.2.2.2.1.2.2<=N):=
 bq (λd:m8.B=>wt (40-d.1.2.2.2.2)) (λd hd=>by
  obtain⟨wa,wi,c0,c1,i0,tq,s0,s1,s2,s3,s4,s5,p0,p1⟩:=hd;unfold aiR;dsimp only;have fin:((d.2.1.2.2.2.2.1.2:Nat):Int)<=q+40:=by omega
  rw[aK];refine⟨λ_=> ?_,λ_=>by rw[av];exact⟨wa,wi,fin,tq,s0,s1,s2,s3,s4,s5,p0,p1⟩⟩;rw[aK];refine⟨λh=> ?_,λ_=>by rw[av];exact⟨wa,wi,fin,tq,s0,s1,s2,s3,s4,s5,p0,p1⟩⟩;have h:=dq h;rw[aK];refine⟨λ_=>by rw[av];exact⟨wa,wi,fin,tq,s0,s1,s2,s3,s4,s5,p0,p1⟩,λ_=> ?_⟩;rw[aVl,bX];simp only[aM,aC];have hw:wI (d.1.2.2.2.2+1)=d.1.2.2.2.2+1:=aY;with_reducible refine ay (aTC N h1 hN _ ?_ ?_ ?_ ?_ ?_ ?_ ?_ ?_ ?_ ?_ ?_) λe _ he=> ?_
  .show d.2.1.2.2.2.2.1.2<=1998;omega
  .exact C.len s0
  .exact C.len s1
  .exact C.len s2
  .exact C.len s3
  .exact C.len s4
  .exact C.len s5
  .exact p0
  .exact p1
  .exact tq.1
  .exact tq.2
  obtain⟨e4,eh,et,eq,t0,t1,t2,t3,t4,t5,u0,u1⟩:=he;have e4:e.2.1.2.2.2.2.1.2<=d.2.1.2.2.2.2.1.2+1:=e4;have key:((e.2.1.2.2.2.2.1.2:Nat):Int)<=q+(d.1.2.2.2.2+1):=by omega
  have k1:wt (40-(d.1.2.2.2.2+1))<wt (40-d.1.2.2.2.2):=by omega
  have u0:e.2.2.2.2.2.2.2.2.2.2.2.2.1.1<=(N:Int):=by rw[u0];exact p0
  rw[hw];rw[aK];refine⟨λ_=> ?_,λ_=> ?_⟩
  .rw[av];exact⟨⟨wa,wi,by show 0<=d.1.2.2.2.2+1;omega,by show d.1.2.2.2.2+1<=40;omega,key,⟨eh,eq⟩,C.br s0 et t0,C.br s1 et t1,C.br s2 et t2,C.br s3 et t3,C.br s4 et t4,C.br s5 et t5,u0,u1⟩,k1⟩
  .rw[av];exact⟨⟨wa,wi,by show 0<=d.1.2.2.2.2+1;omega,by show d.1.2.2.2.2+1<=40;omega,key,⟨eh,eq⟩,C.br s0 et t0,C.br s1 et t1,C.br s2 et t2,C.br s3 et t3,C.br s4 et t4,C.br s5 et t5,u0,u1⟩,k1⟩) (λd hd=>by omega)
theorem aPj (N:Nat)(h1:1<=N)(hN:N<=1999){P:Int->Int->Bf->Prop}(C:Clo P)(m:Int)(q:Int)(hq:q+40<=1998)(d:m8.B)(hd:0<=d.1.b.2.2/\d.1.b.2.2<=40/\((d.2.1.c.1.2:Nat):Int)<=q+d.1.b.2.2/\Tq d.2.1.d.c.2.1 d.c.1.2.1.1 d.c.1.2.2 d.2.1.c.1.2 (λi=>d.c.2.1.2.1 (d.2.1.c.1.1+i))/\P (m) d.2.1.d.c.2.1 d.c.b.1/\P (m) d.2.1.d.c.2.1 d.c.b.2.1/\P (m) d.2.1.d.c.2.1 d.d.1/\P (m) d.2.1.d.c.2.1 d.d.2.1/\P (m) d.2.1.d.c.2.1 d.d.b.1/\P (m) d.2.1.d.c.2.1 d.d.b.2.1/\d.d.c.2.1.1<=(N:Int)/\d.d.c.2.1.2.2<=N):Ok (ND d) (λx:G6=>match x with|.inl x=>x.1.1=d.1.1/\x.1.b.2.1=d.1.b.2.1/\((x.2.1.c.1.2:Nat):Int)<=q+40/\Tq x.2.1.d.c.2.1 x.c.1.2.1.1 x.c.1.2.2 x.2.1.c.1.2 (λi=>x.c.2.1.2.1 (x.2.1.c.1.1+i))/\P (m) x.2.1.d.c.2.1 x.c.b.1/\P (m) x.2.1.d.c.2.1 x.c.b.2.1/\P (m) x.2.1.d.c.2.1 x.d.1/\P (m) x.2.1.d.c.2.1 x.d.2.1/\P (m) x.2.1.d.c.2.1 x.d.b.1/\P (m) x.2.1.d.c.2.1 x.d.b.2.1/\x.d.c.2.1.1<=(N:Int)/\x.d.c.2.1.2.2<=N|.inr (.inl x)=>x.1.1=d.1.1/\x.1.b.2.1=d.1.b.2.1/\((x.2.1.c.1.2:Nat):Int)<=q+40/\Tq x.2.1.d.c.2.1 x.c.1.2.1.1 x.c.1.2.2 x.2.1.c.1.2 (λi=>x.c.2.1.2.1 (x.2.1.c.1.1+i))/\P (m) x.2.1.d.c.2.1 x.c.b.1/\P (m) x.2.1.d.c.2.1 x.c.b.2.1/\P (m) x.2.1.d.c.2.1 x.d.1/\P (m) x.2.1.d.c.2.1 x.d.2.1/\P (m) x.2.1.d.c.2.1 x.d.b.1/\P (m) x.2.1.d.c.2.1 x.d.b.2.1/\x.d.c.2.1.1<=(N:Int)/\x.d.c.2.1.2.2<=N|.inr (.inr x)=>x.1.1=d.1.1/\x.1.b.2.1=d.1.b.2.1/\((x.2.1.c.1.2:Nat):Int)<=q+40/\Tq x.2.1.d.c.2.1 x.c.1.2.1.1 x.c.1.2.2 x.2.1.c.1.2 (λi=>x.c.2.1.2.1 (x.2.1.c.1.1+i))/\P (m) x.2.1.d.c.2.1 x.c.b.1/\P (m) x.2.1.d.c.2.1 x.c.b.2.1/\P (m) x.2.1.d.c.2.1 x.d.1/\P (m) x.2.1.d.c.2.1 x.d.2.1/\P (m) x.2.1.d.c.2.1 x.d.b.1/\P (m) x.2.1.d.c.2.1 x.d.b.2.1/\x.d.c.2.1.1<=(N:Int)/\x.d.c.2.1.2.2<=N):=aSr N h1 hN C m q hq d d ⟨rfl,rfl,hd⟩
theorem aSs (N:Nat)(h1:1<=N)(hN:N<=1999){P:Int->Int->Bf->Prop}(C:Clo P)(q K:Nat)(hK:K<=30)(hq:q+40*K<=1998):∀(d:rU.B) (hd:0<=d.1.2.2.2/\d.1.2.2.2<=K/\((d.2.1.2.2.2.2.1.2:Nat):Int)<=q+40*d.1.2.2.2/\(d.1.1.1<=K∨30<=K)/\Tq d.2.1.2.2.2.2.2.2.2.2.2.2.2.2.2.1 d.2.2.2.1.2.1.1 d.2.2.2.1.2.2 d.2.1.2.2.2.2.1.2 (λi=>d.2.2.2.2.1.2.1 (d.2.1.2.2.2.2.1.1+i))/\P (d.1.2.2.2) d.2.1.2.2.2.2.2.2.2.2.2.2.2.2.2.1 d.2.2.2.2.2.1/\P (d.1.2.2.2) d.2.1.2.2.2.2.2.2.2.2.2.2.2.2.2.1 d.2.2.2.2.2.2.1/\P (d.1.2.2.2) d.2.1.2.2.2.2.2.2.2.2.2.2.2.2.2.1 d.2.2.2.2.2.2.2.1/\P (d.1.2.2.2) d.2.1.2.2.2.2.2.2.2.2.2.2.2.2.2.1 d.2.2.2.2.2.2.2.2.1/\P (d.1.2.2.2) d.2.1.2.2.2.2.2.2.2.2.2.2.2.2.2.1 d.2.2.2.2.2.2.2.2.2.1/\P (d.1.2.2.2) d.2.1.2.2.2.2.2.2.2.2.2.2.2.2.2.1 d.2.2.2.2.2.2.2.2.2.2.1/\d.2.2.2.2.2.2.2.2.2.2.2.2.1.1<=(N:Int)/\d.2.2.2.2.2.2.2.2.2.2.2.2.1.2.2<=N),Ok (VZ d) (λx:NF=>match x with|.inl x=>((x.2.1.2.2.2.2.1.2:Nat):Int)<=q+40*K/\Tq x.2.1.2.2.2.2.2.2.2.2.2.2.2.2.2.1 x.2.2.2.1.2.1.1 x.2.2.2.1.2.2 x.2.1.2.2.2.2.1.2 (λi=>x.2.2.2.2.1.2.1 (x.2.1.2.2.2.2.1.1+i))/\(∃m:Int,0<=m/\m<=K/\P (m) x.2.1.2.2.2.2.2.2.2.2.2.2.2.2.2.1 x.2.2.2.2.2.1/\P (m) x.2.1.2.2.2.2.2.2.2.2.2.2.2.2.2.1 x.2.2.2.2.2.2.1/\P (m) x.2.1.2.2.2.2.2.2.2.2.2.2.2.2.2.1 x.2.2.2.2.2.2.2.1/\P (m) x.2.1.2.2.2.2.2.2.2.2.2.2.2.2.2.1 x.2.2.2.2.2.2.2.2.1/\P (m) x.2.1.2.2.2.2.2.2.2.2.2.2.2.2.2.1 x.2.2.2.2.2.2.2.2.2.1/\P (m) x.2.1.2.2.2.2.2.2.2.2.2.2.2.2.2.1 x.2.2.2.2.2.2.2.2.2.2.1)/\x.2.2.2.2.2.2.2.2.2.2.2.2.1.1<=(N:Int)/\x.2.2.2.2.2.2.2.2.2.2.2.2.1.2.2<=N|.inr (.inl x)=>((x.2.1.2.2.2.2.1.2:Nat):Int)<=q+40*K/\Tq x.2.1.2.2.2.2.2.2.2.2.2.2.2.2.2.1 x.2.2.2.1.2.1.1 x.2.2.2.1.2.2 x.2.1.2.2.2.2.1.2 (λi=>x.2.2.2.2.1.2.1 (x.2.1.2.2.2.2.1.1+i))/\(∃m:Int,0<=m/\m<=K/\P (m) x.2.1.2.2.2.2.2.2.2.2.2.2.2.2.2.1 x.2.2.2.2.2.1/\P (m) x.2.1.2.2.2.2.2.2.2.2.2.2.2.2.2.1 x.2.2.2.2.2.2.1/\P (m) x.2.1.2.2.2.2.2.2.2.2.2.2.2.2.2.1 x.2.2.2.2.2.2.2.1/\P (m) x.2.1.2.2.2.2.2.2.2.2.2.2.2.2.2.1 x.2.2.2.2.2.2.2.2.1/\P (m) x.2.1.2.2.2.2.2.2.2.2.2.2.2.2.2.1 x.2.2.2.2.2.2.2.2.2.1/\P (m) x.2.1.2.2.2.2.2.2.2.2.2.2.2.2.2.1 x.2.2.2.2.2.2.2.2.2.2.1)/\x.2.2.2.2.2.2.2.2.2.2.2.2.1.1<=(N:Int)/\x.2.2.2.2.2.2.2.2.2.2.2.2.1.2.2<=N|.inr (.inr x)=>((x.2.1.2.2.2.2.1.2:Nat):Int)<=q+40*K/\Tq x.2.1.2.2.2.2.2.2.2.2.2.2.2.2.2.1 x.2.2.2.1.2.1.1 x.2.2.2.1.2.2 x.2.1.2.2.2.2.1.2 (λi=>x.2.2.2.2.1.2.1 (x.2.1.2.2.2.2.1.1+i))/\(∃m:Int,0<=m/\m<=K/\P (m) x.2.1.2.2.2.2.2.2.2.2.2.2.2.2.2.1 x.2.2.2.2.2.1/\P (m) x.2.1.2.2.2.2.2.2.2.2.2.2.2.2.2.1 x.2.2.2.2.2.2.1/\P (m) x.2.1.2.2.2.2.2.2.2.2.2.2.2.2.2.1 x.2.2.2.2.2.2.2.1/\P (m) x.2.1.2.2.2.2.2.2.2.2.2.2.2.2.2.1 x.2.2.2.2.2.2.2.2.1/\P (m) x.2.1.2.2.2.2.2.2.2.2.2.2.2.2.2.1 x.2.2.2.2.2.2.2.2.2.1/\P (m) x.2.1.2.2.2.2.2.2.2.2.2.2.2.2.2.1 x.2.2.2.2.2.2.2.2.2.2.1)/\x.2.2.2.2.2.2.2.2.2.2.2.2.1.1<=(N:Int)/\x.2.2.2.2.2.2.2.2.2.2.2.2.1.2.2<=N):=
 bq (λd:rU.B=>wt (30-d.1.2.2.2)) (λd hd=>by
  obtain⟨c0,c1,i0,n0,tq,s0,s1,s2,s3,s4,s5,p0,p1⟩:=hd;unfold aiS;dsimp only;have fin:((d.2.1.2.2.2.2.1.2:Nat):Int)<=q+40*K:=by omega
  rw[aK];refine⟨λh5=> ?_,λ_=>by rw[av];exact⟨fin,tq,⟨_,c0,c1,s0,s1,s2,s3,s4,s5⟩,p0,p1⟩⟩;have h5:=dq h5;rw[cF] at h5;rw[aK];refine⟨λh4=> ?_,λ_=>by rw[av];exact⟨fin,tq,⟨_,c0,c1,s0,s1,s2,s3,s4,s5⟩,p0,p1⟩⟩;have h4:=dq h4;rw[aK];refine⟨λ_=> ?_,λ_=>by rw[av];exact⟨fin,tq,⟨_,c0,c1,s0,s1,s2,s3,s4,s5⟩,p0,p1⟩⟩;have r0:aX d.1.2.2.2 d.1.1.1=true:=by rw[bk];omega
  have hw:wI (d.1.2.2.2+1)=d.1.2.2.2+1:=aY;have k1:wt (30-(d.1.2.2.2+1))<wt (30-d.1.2.2.2):=by omega
  have cK:d.1.2.2.2+1<=K:=by omega
  have c2:0<=d.1.2.2.2+1:=by omega
  simp only[aM,r0,aC];rw[aK];refine⟨λ_=> ?_,λ_=> ?_⟩
  .simp only[aC];with_reducible refine ay (aG9 _ ?_ ?_ ?_ ?_ ?_ ?_) λe _ he=> ?_
   .exact dw (C.len s0) (by decide)
   .exact dw (C.len s1) (by decide)
   .exact dw (C.len s2) (by decide)
   .exact dw (C.len s3) (by decide)
   .exact dw (C.len s4) (by decide)
   .exact dw (C.len s5) (by decide)
   obtain⟨f1,f2,f3,f4,f11,f12,f13,f20,CH⟩:=he;have c3:d.1.2.2.2<=1000:=by omega
   have all:P (d.1.2.2.2+1) e.2.1.2.2.2.2.2.2.2.2.2.2.2.2.2.1 e.2.2.2.2.2.1/\P (d.1.2.2.2+1) e.2.1.2.2.2.2.2.2.2.2.2.2.2.2.2.1 e.2.2.2.2.2.2.1/\P (d.1.2.2.2+1) e.2.1.2.2.2.2.2.2.2.2.2.2.2.2.2.1 e.2.2.2.2.2.2.2.1/\P (d.1.2.2.2+1) e.2.1.2.2.2.2.2.2.2.2.2.2.2.2.2.1 e.2.2.2.2.2.2.2.2.1/\P (d.1.2.2.2+1) e.2.1.2.2.2.2.2.2.2.2.2.2.2.2.2.1 e.2.2.2.2.2.2.2.2.2.1/\P (d.1.2.2.2+1) e.2.1.2.2.2.2.2.2.2.2.2.2.2.2.2.1 e.2.2.2.2.2.2.2.2.2.2.1:=by
    rcases CH with⟨_,v0,v1,v2,v3,v4,v5⟩| ⟨_,v0,v1,v2,v3,v4,v5⟩| ⟨_,v0,v1,v2,v3,v4,v5⟩| ⟨_,v0,v1,v2,v3,v4,v5⟩| ⟨_,v0,v1,v2,v3,v4,v5⟩| ⟨_,v0,v1,v2,v3,v4,v5⟩| ⟨_,v0,v1,v2,v3,v4,v5⟩
    .exact⟨by rw[v0,f1];exact C.up s0,by rw[v1,f1];exact C.up s1,by rw[v2,f1];exact C.up s2,by rw[v3,f1];exact C.up s3,by rw[v4,f1];exact C.up s4,by rw[v5,f1];exact C.up s5⟩
    .exact⟨by rw[f1];exact C.pr c0 c3 s0 v0,by rw[v1,f1];exact C.up s1,by rw[v2,f1];exact C.up s2,by rw[v3,f1];exact C.up s3,by rw[v4,f1];exact C.up s4,by rw[v5,f1];exact C.up s5⟩
    .exact⟨by rw[v0,f1];exact C.up s0,by rw[f1];exact C.pr c0 c3 s1 v1,by rw[v2,f1];exact C.up s2,by rw[v3,f1];exact C.up s3,by rw[v4,f1];exact C.up s4,by rw[v5,f1];exact C.up s5⟩
    .exact⟨by rw[v0,f1];exact C.up s0,by rw[v1,f1];exact C.up s1,by rw[f1];exact C.pr c0 c3 s2 v2,by rw[v3,f1];exact C.up s3,by rw[v4,f1];exact C.up s4,by rw[v5,f1];exact C.up s5⟩
    .exact⟨by rw[v0,f1];exact C.up s0,by rw[v1,f1];exact C.up s1,by rw[v2,f1];exact C.up s2,by rw[f1];exact C.pr c0 c3 s3 v3,by rw[v4,f1];exact C.up s4,by rw[v5,f1];exact C.up s5⟩
    .exact⟨by rw[v0,f1];exact C.up s0,by rw[v1,f1];exact C.up s1,by rw[v2,f1];exact C.up s2,by rw[v3,f1];exact C.up s3,by rw[f1];exact C.pr c0 c3 s4 v4,by rw[v5,f1];exact C.up s5⟩
    .exact⟨by rw[v0,f1];exact C.up s0,by rw[v1,f1];exact C.up s1,by rw[v2,f1];exact C.up s2,by rw[v3,f1];exact C.up s3,by rw[v4,f1];exact C.up s4,by rw[f1];exact C.pr c0 c3 s5 v5⟩
   obtain⟨w0,w1,w2,w3,w4,w5⟩:=all;have f4':e.2.1.2.2.2.2.1=d.2.1.2.2.2.2.1.2:=by rw[f1]
   rw[hw,av];refine⟨⟨c2,cK,?_,n0,?_,w0,w1,w2,w3,w4,w5,?_,?_⟩,k1⟩
   .show((e.2.1.2.2.2.2.1:Nat):Int)<=q+40*(d.1.2.2.2+1);omega
   .show Tq e.2.1.2.2.2.2.2.2.2.2.2.2.2.2.2.1 e.2.2.2.1.2.1.1 e.2.2.2.1.2.2 e.2.1.2.2.2.2.1 (λi=>e.2.2.2.2.1.1 (0+i));rw[f1,f3,f4];exact⟨tq.1,tq.2.up (eZ _) (λi=>by first|(rw[eX];done)|(rw[eX];rfl))⟩
   .show e.2.2.2.2.2.2.2.2.2.2.2.2.1.1<=(N:Int);rw[f12];exact p0
   .show e.2.2.2.2.2.2.2.2.2.2.2.2.1.2.2<=N;rw[f12];exact p1
  rw[aK];refine⟨λ_=> ?_,λ_=> ?_⟩
  .simp only[aC];with_reducible refine ay (aTC N h1 hN _ ?_ ?_ ?_ ?_ ?_ ?_ ?_ ?_ ?_ ?_ ?_) λe _ he=> ?_
   .show d.2.1.2.2.2.2.1.2<=1998;omega
   .exact C.len s0
   .exact C.len s1
   .exact C.len s2
   .exact C.len s3
   .exact C.len s4
   .exact C.len s5
   .exact p0
   .exact p1
   .exact tq.1
   .exact tq.2
   obtain⟨e4,eh,et,eq,t0,t1,t2,t3,t4,t5,u0,u1⟩:=he;have e4:e.2.1.2.2.2.2.1.2<=d.2.1.2.2.2.2.1.2+1:=e4;have key:((e.2.1.2.2.2.2.1.2:Nat):Int)<=q+40*(d.1.2.2.2+1):=by omega
   have u0:e.2.2.2.2.2.2.2.2.2.2.2.2.1.1<=(N:Int):=by rw[u0];exact p0
   rw[hw];rw[aK];refine⟨λ_=> ?_,λ_=> ?_⟩
   .rw[av];exact⟨⟨c2,cK,key,n0,⟨eh,eq⟩,C.up (C.br s0 et t0),C.up (C.br s1 et t1),C.up (C.br s2 et t2),C.up (C.br s3 et t3),C.up (C.br s4 et t4),C.up (C.br s5 et t5),u0,u1⟩,k1⟩
   .rw[av];exact⟨⟨c2,cK,key,n0,⟨eh,eq⟩,C.up (C.br s0 et t0),C.up (C.br s1 et t1),C.up (C.br s2 et t2),C.up (C.br s3 et t3),C.up (C.br s4 et t4),C.up (C.br s5 et t5),u0,u1⟩,k1⟩
  .with_reducible refine ay (aPj N h1 hN C d.1.2.2.2 (q+40*d.1.2.2.2) ?_ _ ⟨?_,?_,?_,tq,s0,s1,s2,s3,s4,s5,p0,p1⟩) λx _ hx=> ?_
   .omega
   .show(0:Int)<=0;omega
   .show(0:Int)<=40;omega
   .show((d.2.1.2.2.2.2.1.2:Nat):Int)<=q+40*d.1.2.2.2+0;omega
   have stp:∀a:Nat,((a:Nat):Int)<=q+40*d.1.2.2.2+40->((a:Nat):Int)<=q+40*(d.1.2.2.2+1):=λa ha=>by omega
   rw[rC];refine⟨λa ha=> ?_,λa ha=> ?_⟩
   .rw[ha] at hx;obtain⟨wa,wi,e4,tq',t0,t1,t2,t3,t4,t5,u0,u1⟩:=hx;have wi:a.1.2.2.2.1=d.1.2.2.2:=wi;have wa:a.1.1=d.1.1:=wa;rw[av];rw[wi,hw];exact⟨⟨c2,cK,stp _ e4,by rw[wa];exact n0,tq',C.up t0,C.up t1,C.up t2,C.up t3,C.up t4,C.up t5,u0,u1⟩,k1⟩
   rw[rC];refine⟨λb hb=> ?_,λb hb=> ?_⟩
   .rw[ha,hb] at hx;obtain⟨wa,wi,e4,tq',t0,t1,t2,t3,t4,t5,u0,u1⟩:=hx;have wi:b.1.2.2.2.1=d.1.2.2.2:=wi;have wa:b.1.1=d.1.1:=wa;rw[av];rw[wi,hw];exact⟨⟨c2,cK,stp _ e4,by rw[wa];exact n0,tq',C.up t0,C.up t1,C.up t2,C.up t3,C.up t4,C.up t5,u0,u1⟩,k1⟩
   .rw[ha,hb] at hx;obtain⟨wa,wi,e4,tq',t0,t1,t2,t3,t4,t5,u0,u1⟩:=hx;have wi:b.1.2.2.2.1=d.1.2.2.2:=wi;have wa:b.1.1=d.1.1:=wa;rw[av];rw[wi,hw];exact⟨⟨c2,cK,stp _ e4,by rw[wa];exact n0,tq',C.up t0,C.up t1,C.up t2,C.up t3,C.up t4,C.up t5,u0,u1⟩,k1⟩) (λd hd=>by omega)
class Rs (n:Nat) (R:Rw):Prop where
 h:kM (fS n (dQ R))
instance{n:Nat}{r0 r1 r2 r3 r4 r5 r6 r7 r8:Nat->Int}[k:Rs n (r0,r1,r2,r3,r4,r5,r6,r7,r8)]:Rs n (λj=>r0 (0+j),λj=>r1 (0+j),λj=>r2 (0+j),λj=>r3 (0+j),λj=>r4 (0+j),λj=>r5 (0+j),λj=>r6 (0+j),λj=>r7 (0+j),λj=>r8 (0+j)):=⟨by
 have e:∀r:Nat->Int,(λj=>r (0+j))=r:=λr=>funext λj=>by rw[eX]
 simp only[e];exact k.h⟩
theorem af4 {n m:Nat}{R:Rw}(h:kM (fS n (dQ R)))(e:m=n):kM (fS m (dQ R)):=by rw[e];exact h
theorem aMo (x:kh.B):Po (iK x) (λr:wG=>r.b.1=x.1.b.1):=(VT x).po.mono λr h=>by
 have h:r.2=x.1.2:=h.1;exact c8 (λz=>z.2.1) h
theorem aZe (x:nx.B)(hs:kM (fS x.2.1.b.1 (dQ x.2.2))):Po (lD x) (λr:qT=>match r with|.inl e=>e.b.1=x.2.1.b.1|.inr e=>kM (fS e.2.1.b.1 (dQ e.2.2))):=(aOZ x hs).mono λr h=>by
 cases r with
 |inl e=>exact c8 (λz=>z.b.1) h.2
 |inr e=>exact h.1
theorem aPk (x:fM.B)(h0:kM (fS x.c.2.1.b.1 (dQ x.d.c.b.1)))(h1:kM (fS x.c.b.1.b.1 (dQ x.d.c.b.2.1)))(h2:kM (fS x.c.b.2.1.b.1 (dQ x.e.1)))(h3:kM (fS x.d.1.b.1 (dQ x.e.2.1)))(h4:kM (fS x.d.2.1.b.1 (dQ x.e.b.1)))(h5:kM (fS x.d.b.1.b.1 (dQ x.e.b.2.1))):Po (cJ x) (λe:jJ=>kM (fS e.c.2.1.b.1 (dQ e.d.c.b.1.2))/\kM (fS e.c.b.1.b.1 (dQ e.d.c.b.2.1.2))/\kM (fS e.c.b.2.1.b.1 (dQ e.e.1.2))/\kM (fS e.d.1.b.1 (dQ e.e.2.1.2))/\kM (fS e.d.2.1.b.1 (dQ e.e.b.1.2))/\kM (fS e.d.b.1.b.1 (dQ e.e.b.2.1.2))):=by
 unfold cJ px;try dsimp only
 show PW _ _;try dsimp only
 have hy:(0:Nat)=0:=rfl
 repeat' (first
  |(rw[agT];exact trivial)
  |(with_reducible refine Ap (aZe _ ?_) λy _ hy=> ?_)
  |(with_reducible refine Ap (aMo _) λy _ hy=> ?_)
  |(rw[avp];refine⟨λa ha=> ?_,λa ha=> ?_⟩<;>subst ha)
  |(rw[aK5];refine⟨λa ha=> ?_,λa ha=> ?_⟩<;>subst ha)
  |(rw[ot];refine⟨λ_=> ?_,λ_=> ?_⟩)
  |(rw[Ep];intro _ _))
 all_goals first
  |exact h0
  |exact h1
  |exact h2
  |exact h3
  |exact h4
  |exact h5
  |(rw[kU]
    refine⟨?_,?_,?_,?_,?_,?_⟩<;>first|exact h0|exact h1|exact h2|exact h3|exact h4|exact h5|exact hy|exact hy.1|exact af4 h0 hy|exact af4 h1 hy|exact af4 h2 hy|exact af4 h3 hy|exact af4 h4 hy|exact af4 h5 hy)
instance a5C (x:ny.B)[k:Rs x.2.1.b.1 x.2.2]:Mo (lE x) (λx=>Rs x.2.1.b.1 x.b.2):=⟨(aY5 x k.h).mono λe h=>⟨h⟩⟩
instance a0J (x:fM.B)[k0:Rs x.c.2.1.b.1 x.d.c.b.1][k1:Rs x.c.b.1.b.1 x.d.c.b.2.1][k2:Rs x.c.b.2.1.b.1 x.e.1][k3:Rs x.d.1.b.1 x.e.2.1][k4:Rs x.d.2.1.b.1 x.e.b.1][k5:Rs x.d.b.1.b.1 x.e.b.2.1]:Mo (cJ x) (λx=>Rs x.c.2.1.b.1 x.d.c.b.1.2/\Rs x.c.b.1.b.1 x.d.c.b.2.1.2/\Rs x.c.b.2.1.b.1 x.e.1.2/\Rs x.d.1.b.1 x.e.2.1.2/\Rs x.d.2.1.b.1 x.e.b.1.2/\Rs x.d.b.1.b.1 x.e.b.2.1.2):=⟨(aPk x k0.h k1.h k2.h k3.h k4.h k5.h).mono λe h=>⟨⟨h.1⟩,⟨h.2.1⟩,⟨h.b.1⟩,⟨h.b.2.1⟩,⟨h.c.1⟩,⟨h.c.2⟩⟩⟩
instance aMp (d:dL.B)[Rs d.c.2.1.b.1 d.e.2.1][Rs d.c.b.1.b.1 d.e.b.1][Rs d.c.b.2.1.b.1 d.e.b.2.1][Rs d.d.1.b.1 d.e.c.1][Rs d.d.2.1.b.1 d.e.c.2.1][Rs d.d.b.1.b.1 d.e.c.b.1]:Mo (oc d) (λx=>Rs x.c.2.1.b.1 x.e.2.1/\Rs x.c.b.1.b.1 x.e.b.1/\Rs x.c.b.2.1.b.1 x.e.b.2.1/\Rs x.d.1.b.1 x.e.c.1/\Rs x.d.2.1.b.1 x.e.c.2.1/\Rs x.d.b.1.b.1 x.e.c.b.1):=asW (λd=>Rs d.c.2.1.b.1 d.e.2.1/\Rs d.c.b.1.b.1 d.e.b.1/\Rs d.c.b.2.1.b.1 d.e.b.2.1/\Rs d.d.1.b.1 d.e.c.1/\Rs d.d.2.1.b.1 d.e.c.2.1/\Rs d.d.b.1.b.1 d.e.c.b.1) (λd h=>by
 obtain⟨_,_,_,_,_,_⟩:=h;exact my) d ⟨inferInstance,inferInstance,inferInstance,inferInstance,inferInstance,inferInstance⟩
instance aMq (d:fy.B)[Rs d.c.2.1.b.1 d.e.1][Rs d.c.b.1.b.1 d.e.2.1][Rs d.c.b.2.1.b.1 d.e.b.1][Rs d.d.1.b.1 d.e.b.2.1][Rs d.d.2.1.b.1 d.e.c.1][Rs d.d.b.1.b.1 d.e.c.2.1]:Mo (te d) (λx=>Rs x.c.2.1.b.1 x.e.1/\Rs x.c.b.1.b.1 x.e.2.1/\Rs x.c.b.2.1.b.1 x.e.b.1/\Rs x.d.1.b.1 x.e.b.2.1/\Rs x.d.2.1.b.1 x.e.c.1/\Rs x.d.b.1.b.1 x.e.c.2.1):=asW (λd=>Rs d.c.2.1.b.1 d.e.1/\Rs d.c.b.1.b.1 d.e.2.1/\Rs d.c.b.2.1.b.1 d.e.b.1/\Rs d.d.1.b.1 d.e.b.2.1/\Rs d.d.2.1.b.1 d.e.c.1/\Rs d.d.b.1.b.1 d.e.c.2.1) (λd h=>by
 obtain⟨_,_,_,_,_,_⟩:=h;exact my) d ⟨inferInstance,inferInstance,inferInstance,inferInstance,inferInstance,inferInstance⟩
instance aMr (d:eB.B)[Rs d.c.2.1.b.1 d.e.2.1][Rs d.c.b.1.b.1 d.e.b.1][Rs d.c.b.2.1.b.1 d.e.b.2.1][Rs d.d.1.b.1 d.e.c.1][Rs d.d.2.1.b.1 d.e.c.2.1][Rs d.d.b.1.b.1 d.e.c.b.1]:Mo (sY d) (λx=>Rs x.c.2.1.b.1 x.e.2.1/\Rs x.c.b.1.b.1 x.e.b.1/\Rs x.c.b.2.1.b.1 x.e.b.2.1/\Rs x.d.1.b.1 x.e.c.1/\Rs x.d.2.1.b.1 x.e.c.2.1/\Rs x.d.b.1.b.1 x.e.c.b.1):=asW (λd=>Rs d.c.2.1.b.1 d.e.2.1/\Rs d.c.b.1.b.1 d.e.b.1/\Rs d.c.b.2.1.b.1 d.e.b.2.1/\Rs d.d.1.b.1 d.e.c.1/\Rs d.d.2.1.b.1 d.e.c.2.1/\Rs d.d.b.1.b.1 d.e.c.b.1) (λd h=>by
 obtain⟨_,_,_,_,_,_⟩:=h;exact my) d ⟨inferInstance,inferInstance,inferInstance,inferInstance,inferInstance,inferInstance⟩
instance aMs (d:gq.B)[Rs d.c.1.b.1 d.d.c.b.2.1][Rs d.c.2.1.b.1 d.e.1][Rs d.c.b.1.b.1 d.e.2.1][Rs d.c.b.2.1.b.1 d.e.b.1][Rs d.d.1.b.1 d.e.b.2.1][Rs d.d.2.1.b.1 d.e.c.1]:Mo (oe d) (t7 (λx=>Rs x.c.2.1.b.1 x.e.1/\Rs x.c.b.1.b.1 x.e.2.1/\Rs x.c.b.2.1.b.1 x.e.b.1/\Rs x.d.1.b.1 x.e.b.2.1/\Rs x.d.2.1.b.1 x.e.c.1/\Rs x.d.b.1.b.1 x.e.c.2.1) (λx=>Rs x.c.2.1.b.1 x.e.1/\Rs x.c.b.1.b.1 x.e.2.1/\Rs x.c.b.2.1.b.1 x.e.b.1/\Rs x.d.1.b.1 x.e.b.2.1/\Rs x.d.2.1.b.1 x.e.c.1/\Rs x.d.b.1.b.1 x.e.c.2.1)):=⟨my⟩
instance aMt (d:gr.B)[Rs d.c.1.b.1 d.e.1][Rs d.c.2.1.b.1 d.e.2.1][Rs d.c.b.1.b.1 d.e.b.1][Rs d.c.b.2.1.b.1 d.e.b.2.1][Rs d.d.1.b.1 d.e.c.1][Rs d.d.2.1.b.1 d.e.c.2.1]:Mo (oi d) (t7 (λx=>Rs x.c.2.1.b.1 x.e.1/\Rs x.c.b.1.b.1 x.e.2.1/\Rs x.c.b.2.1.b.1 x.e.b.1/\Rs x.d.1.b.1 x.e.b.2.1/\Rs x.d.2.1.b.1 x.e.c.1/\Rs x.d.b.1.b.1 x.e.c.2.1) (λx=>Rs x.c.2.1.b.1 x.e.1/\Rs x.c.b.1.b.1 x.e.2.1/\Rs x.c.b.2.1.b.1 x.e.b.1/\Rs x.d.1.b.1 x.e.b.2.1/\Rs x.d.2.1.b.1 x.e.c.1/\Rs x.d.b.1.b.1 x.e.c.2.1)):=⟨my⟩
instance aMu (d:gu.B)[Rs d.c.1.b.1 d.d.c.b.2.1][Rs d.c.2.1.b.1 d.e.1][Rs d.c.b.1.b.1 d.e.2.1][Rs d.c.b.2.1.b.1 d.e.b.1][Rs d.d.1.b.1 d.e.b.2.1][Rs d.d.2.1.b.1 d.e.c.1]:Mo (lH d) (t7 (λx=>Rs x.c.2.1.b.1 x.e.1/\Rs x.c.b.1.b.1 x.e.2.1/\Rs x.c.b.2.1.b.1 x.e.b.1/\Rs x.d.1.b.1 x.e.b.2.1/\Rs x.d.2.1.b.1 x.e.c.1/\Rs x.d.b.1.b.1 x.e.c.2.1) (λx=>Rs x.c.2.1.b.1 x.e.1/\Rs x.c.b.1.b.1 x.e.2.1/\Rs x.c.b.2.1.b.1 x.e.b.1/\Rs x.d.1.b.1 x.e.b.2.1/\Rs x.d.2.1.b.1 x.e.c.1/\Rs x.d.b.1.b.1 x.e.c.2.1)):=⟨my⟩
instance aPM (x:lG.B)[Rs x.c.2.1.b.1 x.d.c.b.1][Rs x.c.b.1.b.1 x.d.c.b.2.1][Rs x.c.b.2.1.b.1 x.e.1][Rs x.d.1.b.1 x.e.2.1][Rs x.d.2.1.b.1 x.e.b.1][Rs x.d.b.1.b.1 x.e.b.2.1]:Mo (nA x) (λx=>Rs x.1.2.1.b.1 x.b.1/\Rs x.1.b.1.b.1 x.b.2.1/\Rs x.1.b.2.1.b.1 x.c.1/\Rs x.1.c.1.b.1 x.c.2.1/\Rs x.1.c.2.1.b.1 x.c.b.1/\Rs x.1.c.b.1.b.1 x.c.b.2.1):=⟨my⟩
instance aMI (d:fU.B)[Rs d.c.1.b.1 d.d.c.b.2.1][Rs d.c.2.1.b.1 d.e.1][Rs d.c.b.1.b.1 d.e.2.1][Rs d.c.b.2.1.b.1 d.e.b.1][Rs d.d.1.b.1 d.e.b.2.1][Rs d.d.2.1.b.1 d.e.c.1]:Mo (Aa d) (t7 (λx=>Rs x.c.1.b.1 x.d.c.b.2.1/\Rs x.c.2.1.b.1 x.e.1/\Rs x.c.b.1.b.1 x.e.2.1/\Rs x.c.b.2.1.b.1 x.e.b.1/\Rs x.d.1.b.1 x.e.b.2.1/\Rs x.d.2.1.b.1 x.e.c.1) (λx=>Rs x.c.1.b.1 x.d.c.b.2.1/\Rs x.c.2.1.b.1 x.e.1/\Rs x.c.b.1.b.1 x.e.2.1/\Rs x.c.b.2.1.b.1 x.e.b.1/\Rs x.d.1.b.1 x.e.b.2.1/\Rs x.d.2.1.b.1 x.e.c.1)):=asW (λd=>Rs d.c.1.b.1 d.d.c.b.2.1/\Rs d.c.2.1.b.1 d.e.1/\Rs d.c.b.1.b.1 d.e.2.1/\Rs d.c.b.2.1.b.1 d.e.b.1/\Rs d.d.1.b.1 d.e.b.2.1/\Rs d.d.2.1.b.1 d.e.c.1) (λd h=>by
 obtain⟨_,_,_,_,_,_⟩:=h;exact my) d ⟨inferInstance,inferInstance,inferInstance,inferInstance,inferInstance,inferInstance⟩
instance aMJ (d:im.B)[Rs d.b.2.1.b.1 d.d.c.b.1][Rs d.c.1.b.1 d.d.c.b.2.1][Rs d.c.2.1.b.1 d.e.1][Rs d.c.b.1.b.1 d.e.2.1][Rs d.c.b.2.1.b.1 d.e.b.1][Rs d.d.1.b.1 d.e.b.2.1]:Mo (uf d) (λx=>Rs x.c.2.1.b.1 x.d.c.b.1/\Rs x.c.b.1.b.1 x.d.c.b.2.1/\Rs x.c.b.2.1.b.1 x.e.1/\Rs x.d.1.b.1 x.e.2.1/\Rs x.d.2.1.b.1 x.e.b.1/\Rs x.d.b.1.b.1 x.e.b.2.1):=⟨my⟩
instance aSt (x:pj.B)[Rs x.c.2.1.b.1 x.d.c.b.1][Rs x.c.b.1.b.1 x.d.c.b.2.1][Rs x.c.b.2.1.b.1 x.e.1][Rs x.d.1.b.1 x.e.2.1][Rs x.d.2.1.b.1 x.e.b.1][Rs x.d.b.1.b.1 x.e.b.2.1]:Mo (kH x) (λx=>Rs x.c.2.1.b.1 x.d.c.b.1/\Rs x.c.b.1.b.1 x.d.c.b.2.1/\Rs x.c.b.2.1.b.1 x.e.1/\Rs x.d.1.b.1 x.e.2.1/\Rs x.d.2.1.b.1 x.e.b.1/\Rs x.d.b.1.b.1 x.e.b.2.1):=⟨my⟩
instance aZf (d:m8.B)[Rs d.c.b.1.b.1 d.d.c.b.2.1.2][Rs d.c.b.2.1.b.1 d.e.1.2][Rs d.d.1.b.1 d.e.2.1.2][Rs d.d.2.1.b.1 d.e.b.1.2][Rs d.d.b.1.b.1 d.e.b.2.1.2][Rs d.d.b.2.1.b.1 d.e.c.1.2]:Mo (ND d) (t7 (λx=>Rs x.c.b.1.b.1 x.d.c.b.2.1.2/\Rs x.c.b.2.1.b.1 x.e.1.2/\Rs x.d.1.b.1 x.e.2.1.2/\Rs x.d.2.1.b.1 x.e.b.1.2/\Rs x.d.b.1.b.1 x.e.b.2.1.2/\Rs x.d.b.2.1.b.1 x.e.c.1.2) (t7 (λx=>Rs x.c.b.1.b.1 x.d.c.b.2.1.2/\Rs x.c.b.2.1.b.1 x.e.1.2/\Rs x.d.1.b.1 x.e.2.1.2/\Rs x.d.2.1.b.1 x.e.b.1.2/\Rs x.d.b.1.b.1 x.e.b.2.1.2/\Rs x.d.b.2.1.b.1 x.e.c.1.2) (λx=>Rs x.c.b.1.b.1 x.d.c.b.2.1.2/\Rs x.c.b.2.1.b.1 x.e.1.2/\Rs x.d.1.b.1 x.e.2.1.2/\Rs x.d.2.1.b.1 x.e.b.1.2/\Rs x.d.b.1.b.1 x.e.b.2.1.2/\Rs x.d.b.2.1.b.1 x.e.c.1.2))):=asW (λd=>Rs d.c.b.1.b.1 d.d.c.b.2.1.2/\Rs d.c.b.2.1.b.1 d.e.1.2/\Rs d.d.1.b.1 d.e.2.1.2/\Rs d.d.2.1.b.1 d.e.b.1.2/\Rs d.d.b.1.b.1 d.e.b.2.1.2/\Rs d.d.b.2.1.b.1 d.e.c.1.2) (λd h=>by
 obtain⟨_,_,_,_,_,_⟩:=h;exact my) d ⟨inferInstance,inferInstance,inferInstance,inferInstance,inferInstance,inferInstance⟩
instance aZg (d:rU.B)[Rs d.c.2.1.b.1 d.d.c.b.1.2][Rs d.c.b.1.b.1 d.d.c.b.2.1.2][Rs d.c.b.2.1.b.1 d.e.1.2][Rs d.d.1.b.1 d.e.2.1.2][Rs d.d.2.1.b.1 d.e.b.1.2][Rs d.d.b.1.b.1 d.e.b.2.1.2]:Mo (VZ d) (t7 (λx=>Rs x.c.2.1.b.1 x.d.c.b.1.2/\Rs x.c.b.1.b.1 x.d.c.b.2.1.2/\Rs x.c.b.2.1.b.1 x.e.1.2/\Rs x.d.1.b.1 x.e.2.1.2/\Rs x.d.2.1.b.1 x.e.b.1.2/\Rs x.d.b.1.b.1 x.e.b.2.1.2) (t7 (λx=>Rs x.c.2.1.b.1 x.d.c.b.1.2/\Rs x.c.b.1.b.1 x.d.c.b.2.1.2/\Rs x.c.b.2.1.b.1 x.e.1.2/\Rs x.d.1.b.1 x.e.2.1.2/\Rs x.d.2.1.b.1 x.e.b.1.2/\Rs x.d.b.1.b.1 x.e.b.2.1.2) (λx=>Rs x.c.2.1.b.1 x.d.c.b.1.2/\Rs x.c.b.1.b.1 x.d.c.b.2.1.2/\Rs x.c.b.2.1.b.1 x.e.1.2/\Rs x.d.1.b.1 x.e.2.1.2/\Rs x.d.2.1.b.1 x.e.b.1.2/\Rs x.d.b.1.b.1 x.e.b.2.1.2))):=asW (λd=>Rs d.c.2.1.b.1 d.d.c.b.1.2/\Rs d.c.b.1.b.1 d.d.c.b.2.1.2/\Rs d.c.b.2.1.b.1 d.e.1.2/\Rs d.d.1.b.1 d.e.2.1.2/\Rs d.d.2.1.b.1 d.e.b.1.2/\Rs d.d.b.1.b.1 d.e.b.2.1.2) (λd h=>by
 obtain⟨_,_,_,_,_,_⟩:=h;exact my) d ⟨inferInstance,inferInstance,inferInstance,inferInstance,inferInstance,inferInstance⟩
instance aPl (x:Kz.B)[Rs x.c.2.1.b.1 x.d.c.b.1][Rs x.c.b.1.b.1 x.d.c.b.2.1][Rs x.c.b.2.1.b.1 x.e.1][Rs x.d.1.b.1 x.e.2.1][Rs x.d.2.1.b.1 x.e.b.1][Rs x.d.b.1.b.1 x.e.b.2.1]:Mo (KA x) (λx=>Rs x.c.2.1.b.1 x.d.c.b.1.2/\Rs x.c.b.1.b.1 x.d.c.b.2.1.2/\Rs x.c.b.2.1.b.1 x.e.1.2/\Rs x.d.1.b.1 x.e.2.1.2/\Rs x.d.2.1.b.1 x.e.b.1.2/\Rs x.d.b.1.b.1 x.e.b.2.1.2):=⟨my⟩
noncomputable def ZP (k:Int) (s:Sp):Bool:=Option.elim (lB s.1 0 1125899906842624) false (λb:YP=>(show Bool from b))&&Option.elim (xE k s.1 s.2.1 s.b.1 s.b.2.1 s.c.1 s.c.2.1 s.c.b.1 s.c.b.2.1 s.c.b.2.2) false (λb:Uj=>(show Bool from b))
abbrev Ev:=Int×Sp
def Stp (i:Int)(e:Ev)(b:Bf)(R:Rw)(c:Bf)(S:Rw):Prop:=kM (fS c.b.1 (dQ S))/\
 ((e.1≠i/\c=b/\S=R)∨
  (e.1=i/\ZP e.1 e.2=false/\c=((wI (b.1.1+1),b.1.2.1,b.1.b.1,wI (b.1.b.2.1+1),b.1.b.2.2),b.2)/\S=R)∨
  (e.1=i/\ZP e.1 e.2=true/\e.2.1<=b.b.2/\c=((wI (b.1.1+1),wI (b.1.2.1+1),b.1.2.2),b.2)/\S=R)∨
  (e.1=i/\ZP e.1 e.2=true/\¬e.2.1<=b.b.2/\c=((wI (b.1.1+1),b.1.2),b.2.1,b.b.1+1,b.b.2)/\fS (b.b.1+1) (dQ S)=sIn e.2 (fS b.b.1 (dQ R))/\∀j,dQ S (b.b.1+1+j)=dQ R (b.b.1+j))∨
  c.1.b.1=wI (b.1.b.1+1))
theorem oA {i:Int}{e:Ev}{b:Bf}{R:Rw}(n:e.1≠i)(h:kM (fS b.b.1 (dQ R))):Stp i e b R b R:=⟨h,.inl ⟨n,rfl,rfl⟩⟩
theorem qg {i:Int}{e:Ev}{b c:Bf}{R:Rw}(n:e.1=i)(w:ZP e.1 e.2=false)(s:SR b c)(h:kM (fS b.b.1 (dQ R))):Stp i e b R c R:=by
 obtain⟨s1,s2⟩:=s;have e1:c=(c.1,c.2):=rfl;refine⟨?_,.inr (.inl ⟨n,w,by rw[e1,s1,s2],rfl⟩)⟩;have e2:c.b.1=b.b.1:=c8 (λz=>z.2.1) s1;rw[e2];exact h
theorem mL {i:Int}{e:Ev}{b c:Bf}{R:Rw}(n:e.1=i)(w:ZP e.1 e.2=true)(s:e.2.1<=b.b.2/\(c.1,c.2)=((wI (b.1.1+1),wI (b.1.2.1+1),b.1.2.2),b.2))(h:kM (fS b.b.1 (dQ R))):Stp i e b R c R:=by
 have e2:c.b.1=b.b.1:=c8 (λz=>z.b.1) s.2;refine⟨by rw[e2];exact h,.inr (.inr (.inl ⟨n,w,s.1,s.2,rfl⟩))⟩
theorem qh {i:Int}{e:Ev}{b c:Bf}{R S:Rw}(n:e.1=i)(w:ZP e.1 e.2=true)(s:kM (fS c.b.1 (dQ S))/\¬e.2.1<=b.b.2/\((c=((wI (b.1.1+1),b.1.2),b.2.1,b.b.1+1,b.b.2)/\fS (b.b.1+1) (dQ S)=sIn e.2 (fS b.b.1 (dQ R))/\∀j,dQ S (b.b.1+1+j)=dQ R (b.b.1+j))∨c.1.b.1=wI (b.1.b.1+1))):Stp i e b R c S:=by
 refine⟨s.1,.inr (.inr (.inr ?_))⟩;rcases s.2.2 with⟨a,b,c⟩|a
 .exact .inl ⟨n,w,s.2.1,a,b,c⟩
 .exact .inr a
theorem aPm (x:fM.B)(h0:kM (fS x.c.2.1.b.1 (dQ x.d.c.b.1)))(h1:kM (fS x.c.b.1.b.1 (dQ x.d.c.b.2.1)))(h2:kM (fS x.c.b.2.1.b.1 (dQ x.e.1)))(h3:kM (fS x.d.1.b.1 (dQ x.e.2.1)))(h4:kM (fS x.d.2.1.b.1 (dQ x.e.b.1)))(h5:kM (fS x.d.b.1.b.1 (dQ x.e.b.2.1))):Po (cJ x) (λe:jJ=>Stp 0 x.1 x.c.2.1 x.d.c.b.1 e.c.2.1 e.d.c.b.1.2/\Stp 1 x.1 x.c.b.1 x.d.c.b.2.1 e.c.b.1 e.d.c.b.2.1.2/\Stp 2 x.1 x.c.b.2.1 x.e.1 e.c.b.2.1 e.e.1.2/\Stp 3 x.1 x.d.1 x.e.2.1 e.d.1 e.e.2.1.2/\Stp 4 x.1 x.d.2.1 x.e.b.1 e.d.2.1 e.e.b.1.2/\Stp 5 x.1 x.d.b.1 x.e.b.2.1 e.d.b.1 e.e.b.2.1.2):=by
 unfold cJ px;try dsimp only
 show PW _ _;rw[aut,Ep];intro di hdi;have hdi:=Om hdi;rw[ot];refine⟨λc=> ?_,λc=> ?_⟩
 .rw[kU]
  have hn:¬(0<=x.1.1/\x.1.1<6):=λh=>by
   rw[<-hdi,dA h.1,dA h.2] at c;cases c
  exact⟨oA (by omega) h0,oA (by omega) h1,oA (by omega) h2,oA (by omega) h3,oA (by omega) h4,oA (by omega) h5⟩
 have hk:(decide (0<=x.1.1)&&decide (x.1.1<6))=true:=by
  rw[hdi];cases di with
  |true=>rfl
  |false=>cases c
 rw[cj,ke,ke] at hk;obtain⟨k0,k6⟩:=hk;rw[Ep];intro db hb;rw[ot];refine⟨λcb=> ?_,λcb=> ?_⟩
 .have hw:ZP x.1.1 x.1.2=false:=by
   unfold ZP;rw[hb];cases db with
   |true=>cases cb
   |false=>rfl
  repeat' (first
   |(rw[agT];exact trivial)
   |(with_reducible refine Ap (VT _).po λy _ hy=> ?_)
   |(rw[ot];refine⟨λc=> ?_,λc=> ?_⟩<;>first|have c:=eq_of_beq c|have c:=ayk c|skip))
  all_goals (rw[kU];exact⟨by first|exact oA (by omega) h0|exact qg (by omega) hw hy h0|exact mL (by omega) hw hy h0|exact qh (by omega) hw hy,by first|exact oA (by omega) h1|exact qg (by omega) hw hy h1|exact mL (by omega) hw hy h1|exact qh (by omega) hw hy,by first|exact oA (by omega) h2|exact qg (by omega) hw hy h2|exact mL (by omega) hw hy h2|exact qh (by omega) hw hy,by first|exact oA (by omega) h3|exact qg (by omega) hw hy h3|exact mL (by omega) hw hy h3|exact qh (by omega) hw hy,by first|exact oA (by omega) h4|exact qg (by omega) hw hy h4|exact mL (by omega) hw hy h4|exact qh (by omega) hw hy,by first|exact oA (by omega) h5|exact qg (by omega) hw hy h5|exact mL (by omega) hw hy h5|exact qh (by omega) hw hy⟩)
 rw[Ep];intro dr hr;rw[ot];refine⟨λcr=> ?_,λcr=> ?_⟩
 .have hw:ZP x.1.1 x.1.2=false:=by
   unfold ZP;rw[hr];cases dr with
   |true=>cases cr
   |false=>exact Bool.and_false _
  repeat' (first
   |(rw[agT];exact trivial)
   |(with_reducible refine Ap (VT _).po λy _ hy=> ?_)
   |(rw[ot];refine⟨λc=> ?_,λc=> ?_⟩<;>first|have c:=eq_of_beq c|have c:=ayk c|skip))
  all_goals (rw[kU];exact⟨by first|exact oA (by omega) h0|exact qg (by omega) hw hy h0|exact mL (by omega) hw hy h0|exact qh (by omega) hw hy,by first|exact oA (by omega) h1|exact qg (by omega) hw hy h1|exact mL (by omega) hw hy h1|exact qh (by omega) hw hy,by first|exact oA (by omega) h2|exact qg (by omega) hw hy h2|exact mL (by omega) hw hy h2|exact qh (by omega) hw hy,by first|exact oA (by omega) h3|exact qg (by omega) hw hy h3|exact mL (by omega) hw hy h3|exact qh (by omega) hw hy,by first|exact oA (by omega) h4|exact qg (by omega) hw hy h4|exact mL (by omega) hw hy h4|exact qh (by omega) hw hy,by first|exact oA (by omega) h5|exact qg (by omega) hw hy h5|exact mL (by omega) hw hy h5|exact qh (by omega) hw hy⟩)
 have hw:ZP x.1.1 x.1.2=true:=by
  unfold ZP;rw[hb,hr];cases dr with
  |false=>cases cr
  |true=>
   cases db with
   |false=>cases cb
   |true=>rfl
 repeat' (first
  |(rw[agT];exact trivial)
  |(with_reducible refine Ap (aOZ _ ?_) λy _ hy=> ?_)
  |(rw[aK5];refine⟨λa ha=> ?_,λa ha=> ?_⟩<;>subst ha)
  |(rw[ot];refine⟨λc=> ?_,λc=> ?_⟩<;>first|have c:=eq_of_beq c|have c:=ayk c|skip))
 all_goals first
  |exact h0
  |exact h1
  |exact h2
  |exact h3
  |exact h4
  |exact h5
  |(rw[kU];exact⟨by first|exact oA (by omega) h0|exact qg (by omega) hw hy h0|exact mL (by omega) hw hy h0|exact qh (by omega) hw hy,by first|exact oA (by omega) h1|exact qg (by omega) hw hy h1|exact mL (by omega) hw hy h1|exact qh (by omega) hw hy,by first|exact oA (by omega) h2|exact qg (by omega) hw hy h2|exact mL (by omega) hw hy h2|exact qh (by omega) hw hy,by first|exact oA (by omega) h3|exact qg (by omega) hw hy h3|exact mL (by omega) hw hy h3|exact qh (by omega) hw hy,by first|exact oA (by omega) h4|exact qg (by omega) hw hy h4|exact mL (by omega) hw hy h4|exact qh (by omega) hw hy,by first|exact oA (by omega) h5|exact qg (by omega) hw hy h5|exact mL (by omega) hw hy h5|exact qh (by omega) hw hy⟩)
def itw:Nat->Int->Int
 |0,x=>x
 |n+1,x=>wI (itw n x+1)
def fI (i:Int)(e:Ev):Bool:=decide (e.1=i)
noncomputable def fB (i:Int) (e:Ev):Bool:=decide (e.1=i)&& !ZP e.1 e.2
noncomputable def fL (i h:Int) (e:Ev):Bool:=decide (e.1=i)&&(ZP e.1 e.2&&decide (e.2.1<=h))
noncomputable def fN (i h:Int) (e:Ev):Bool:=decide (e.1=i)&&(ZP e.1 e.2&& !decide (e.2.1<=h))
structure oM (i:Int)(L:List Ev)(b:Bf)(R:Rw)(c:Bf)(S:Rw):Prop where
 Zl:kM (fS c.b.1 (dQ S))
 lo:b.1.b.1<=c.1.b.1
 hi:c.1.b.1<=b.1.b.1+L.length
 eq:c.1.b.1=b.1.b.1->c=((itw (L.countP (fI i)) b.1.1,itw (L.countP (fL i b.b.2)) b.1.2.1,b.1.b.1,itw (L.countP (fB i)) b.1.b.2.1,b.1.b.2.2),b.2.1,b.b.1+L.countP (fN i b.b.2),b.b.2)/\(fS c.b.1 (dQ S)).Perm (fS b.b.1 (dQ R)++(L.filter (fN i b.b.2)).map Prod.snd)/\∀j,dQ S (c.b.1+j)=dQ R (b.b.1+j)
theorem oM.nil {i:Int}{b:Bf}{R:Rw}(h:kM (fS b.b.1 (dQ R))):oM i [] b R b R:=⟨h,eZ _,by simp,λ_=>⟨rfl,by simp,λ_=>rfl⟩⟩
theorem aJX (p:Ev->Bool)(L:List Ev)(e:Ev):(L++[e]).countP p=if p e=true then L.countP p+1 else L.countP p:=by
 rw[List.countP_append,List.countP_cons,List.countP_nil];split<;>simp
theorem af5 {p:Ev->Bool}{L:List Ev}{e:Ev}(h:p e=true):(L++[e]).countP p=L.countP p+1:=by rw[aJX,if_pos h]
theorem Q5 {p:Ev->Bool}{L:List Ev}{e:Ev}(h:p e=false):(L++[e]).countP p=L.countP p:=by rw[aJX,h];rfl
theorem aZh {p:Ev->Bool}{L:List Ev}{e:Ev}(h:p e=true):(L++[e]).filter p=L.filter p++[e]:=by rw[List.filter_append,List.filter_cons,if_pos h,List.filter_nil]
theorem aMv {p:Ev->Bool}{L:List Ev}{e:Ev}(h:p e=false):(L++[e]).filter p=L.filter p:=by
 rw[List.filter_append,List.filter_cons,h,List.filter_nil];exact List.append_nil _
theorem oM.step {i:Int}{L:List Ev}{b c d:Bf}{R S U:Rw}{e:Ev}(h:oM i L b R c S)(k:Stp i e c S d U)(h0:0<=b.1.b.1)(h1:b.1.b.1+L.length<1000000):oM i (L++[e]) b R d U:=by
 obtain⟨Zl,k⟩:=k;have l1:(L++[e]).length=L.length+1:=by simp
 have lo:=h.lo;have hi:=h.hi;have same:d.1.b.1=c.1.b.1->b.1.b.1<=d.1.b.1/\d.1.b.1<=b.1.b.1+(L++[e]).length:=λq=>by rw[q,l1];omega
 rcases k with⟨n,ec,es⟩| ⟨n,w,ec,es⟩| ⟨n,w,t,ec,es⟩| ⟨n,w,t,ec,ei,et⟩|ef
 .subst ec es;obtain⟨q0,q1⟩:=same rfl;refine⟨Zl,q0,q1,λf=> ?_⟩;have n0:decide (e.1=i)=false:=cG n;rw[Q5 (show fI i e=false from n0),Q5 (show fL i b.b.2 e=false by unfold fL;rw[n0];rfl),Q5 (show fB i e=false by unfold fB;rw[n0];rfl),Q5 (show fN i b.b.2 e=false by unfold fN;rw[n0];rfl),aMv (show fN i b.b.2 e=false by unfold fN;rw[n0];rfl)];exact h.eq f
 .subst es;obtain⟨q0,q1⟩:=same (by rw[ec]);refine⟨Zl,q0,q1,λf=> ?_⟩;obtain⟨g1,g2,g3⟩:=h.eq (by rw[ec] at f;exact f);have n0:decide (e.1=i)=true:=dA n;rw[af5 (show fI i e=true from n0),Q5 (show fL i b.b.2 e=false by unfold fL;rw[w];exact Bool.and_false _),af5 (show fB i e=true by unfold fB;rw[n0,w];rfl),Q5 (show fN i b.b.2 e=false by unfold fN;rw[w];exact Bool.and_false _),aMv (show fN i b.b.2 e=false by unfold fN;rw[w];exact Bool.and_false _)];have e2:d.b.1=c.b.1:=by rw[ec]
  refine⟨?_,by rw[e2];exact g2,by rw[e2];exact g3⟩;rw[ec,g1];rfl
 .subst es;obtain⟨q0,q1⟩:=same (by rw[ec]);refine⟨Zl,q0,q1,λf=> ?_⟩;obtain⟨g1,g2,g3⟩:=h.eq (by rw[ec] at f;exact f);have n0:decide (e.1=i)=true:=dA n;have hc:c.b.2=b.b.2:=by rw[g1]
  have t0:decide (e.2.1<=b.b.2)=true:=dA (by rw[<-hc];exact t);rw[af5 (show fI i e=true from n0),af5 (show fL i b.b.2 e=true by unfold fL;rw[n0,w,t0];rfl),Q5 (show fB i e=false by unfold fB;rw[w];exact Bool.and_false _),Q5 (show fN i b.b.2 e=false by unfold fN;rw[n0,w,t0];rfl),aMv (show fN i b.b.2 e=false by unfold fN;rw[n0,w,t0];rfl)];have e2:d.b.1=c.b.1:=by rw[ec]
  refine⟨?_,by rw[e2];exact g2,by rw[e2];exact g3⟩;rw[ec,g1];rfl
 .obtain⟨q0,q1⟩:=same (by rw[ec]);refine⟨Zl,q0,q1,λf=> ?_⟩;obtain⟨g1,g2,g3⟩:=h.eq (by rw[ec] at f;exact f);have n0:decide (e.1=i)=true:=dA n;have hc:c.b.2=b.b.2:=by rw[g1]
  have t0:decide (e.2.1<=b.b.2)=false:=cG (by rw[<-hc];exact t);rw[af5 (show fI i e=true from n0),Q5 (show fL i b.b.2 e=false by unfold fL;rw[n0,w,t0];rfl),Q5 (show fB i e=false by unfold fB;rw[n0,w];rfl),af5 (show fN i b.b.2 e=true by unfold fN;rw[n0,w,t0];rfl),aZh (show fN i b.b.2 e=true by unfold fN;rw[n0,w,t0];rfl)];have e2:d.b.1=c.b.1+1:=by rw[ec]
  refine⟨?_,?_,λj=> ?_⟩
  .rw[ec,g1];rfl
  .rw[e2,ei,List.map_append,<-atb];exact(aGM e.2 _).trans ((g2.cons e.2).trans (List.perm_append_comm (l₁:=[e.2])))
  .rw[e2,et];exact g3 j
 .have hw:wI (c.1.b.1+1)=c.1.b.1+1:=aY;rw[hw] at ef;exact⟨Zl,by omega,by rw[l1];omega,λf=>by omega⟩
def z9 (R:Rw):Rw:=(λj=>R.1 (0+j),λj=>R.2.1 (0+j),λj=>R.b.1 (0+j),λj=>R.b.2.1 (0+j),λj=>R.c.1 (0+j),λj=>R.c.2.1 (0+j),λj=>R.c.b.1 (0+j),λj=>R.c.b.2.1 (0+j),λj=>R.c.b.2.2 (0+j))
theorem aZi (R:Rw):z9 R=R:=by
 have e:∀r:Nat->Int,(λj=>r (0+j))=r:=λr=>funext λj=>by rw[eX]
 unfold z9;simp only[e]
theorem akQ {n:Nat}{R:Rw}(h:kM (fS n (dQ R))):kM (fS n (dQ (z9 R))):=by rw[aZi];exact h
theorem oM.UA {i:Int}{L:List Ev}{b c d:Bf}{R S U:Rw}{e:Ev}(h:oM i L b R c S)(k:Stp i e c (z9 S) d U)(h0:0<=b.1.b.1)(h1:b.1.b.1+L.length<1000000):oM i (L++[e]) b R d U:=by
 rw[aZi] at k;exact h.step k h0 h1
theorem oM.same {i:Int}{L M:List Ev}{b c d:Bf}{R S U:Rw}(h:oM i L b R c S)(k:oM i M b R d U)(p:L.Perm M)(e:c.1.b.1=b.1.b.1)(f:d.1.b.1=b.1.b.1):c=d/\S=U:=by
 obtain⟨h1,h2,h3⟩:=h.eq e;obtain⟨k1,k2,k3⟩:=k.eq f;have ed:c=d:=by rw[h1,k1,p.countP_eq,p.countP_eq,p.countP_eq,p.countP_eq]
 refine⟨ed,aY2 λj=> ?_⟩;subst ed
 have all:fS c.b.1 (dQ S)=fS c.b.1 (dQ U):=
  List.Perm.eq_of_pairwise (le:=λa b=>slt b a=false) (λa b _ _ h1 h2=>aOU h2 h1) h.Zl k.Zl (h2.trans ((((p.filter _).map _).append_left _).trans k2.symm))
 rcases ns j c.b.1 with hj|hj
 .have:=c8 (λl=>l[j]?) all;simp only[apE _ hj,gS] at this;exact this
 .obtain⟨m,rfl⟩:∃m,j=c.b.1+m:=⟨j-c.b.1,by omega⟩;rw[h3,k3]
end Go.Proofs.YtldgljclcgaibaaGreat
