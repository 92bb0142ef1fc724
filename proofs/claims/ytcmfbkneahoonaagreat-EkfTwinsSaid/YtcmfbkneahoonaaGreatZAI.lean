/-
  Parts of the proof: TU TE Q3 TF TG TH
-/
import Derived.Test.YtcmfbkneahoonaaGreatZAE
import Derived.Test.YtcmfbkneahoonaaGreatZAG
import Derived.Test.YtcmfbkneahoonaaGreatZAH
set_option maxRecDepth 100000
set_option maxHeartbeats 4000000
set_option linter.unusedVariables false
set_option linter.unusedSimpArgs false
namespace Go.Proofs.YtcmfbkneahoonaaGreat
open Go.Ab Go.Ab.Pg
def yE (x0 x1 x2 x3:Int)(j:Nat):Int:=if j=0 then x0 else if j=1 then x1 else if j=2 then x2 else x3
def sqW (f g:Nat->Int)(j:Nat)(x:Int):Prop:=(-1073741840<=x∧x<=1073741840)∧okW (f j) (g j)∧vW (f j) (g j)=x*x
theorem abO {x:Int}(h: -1073741840<=x∧x<=1073741840):0<=x*x∧x*x<=1152921538966585600:=by
 have key:∀u:Int,0<=u->u<=1073741840->0<=u*u∧u*u<=1152921538966585600:=λu u0 u1=>by
  refine⟨Int.mul_nonneg u0 u0,?_⟩
  have:=Int.mul_le_mul u1 u1 u0 (by omega)
  omega
 rcases Int.le_total 0 x with hx|hx
 ·exact key x hx h.2
 ·have:=key (-x) (by omega) (by omega)
  rwa [Int.neg_mul_neg] at this
theorem aeY {x:Int}{f g:Nat->Int}{n:Nat}{A:Type}{δ:Type}{Q:δ->Prop}{no1:Pg δ}{k:aiP->Pg δ}
  (h1:(x< -1073741840∨1073741840<x)->PQ no1 Q)(h2:(-1073741840<=x∧x<=1073741840)->∀h l,eQ x x=some (h,l)->okW h l->vW h l=x*x->PQ (k (h,l)) Q):
  PQ (opt (vA x) λaj=>ae (decide (aj>1073741840)) no1 (opt (eQ x x) k)) Q:=by
 rw[bz]
 intro d hd
 rw[aL]
 refine⟨λh=> ?_,λh=> ?_⟩
 ·refine h1 ?_
  have h:=of_decide_eq_true h
  have:¬(-1073741840<=x∧x<=1073741840):=λc=>by
   have e:PQ (BL x) (λy:abw=>(y:Int)<=1073741840):=by
    by_cases c':x<0
    ·have w:wI (0-x)=0-x:=eP (by omega) (by omega)
     simp only[BL,aL,av,ge_iff_le,decide_eq_true_eq,decide_eq_false_iff_not,w]
     exact⟨λ_=>by omega,λ_=>⟨λ_=>by omega,λ_=>⟨λ_=>(show(0-x:Int)<=1073741840 by omega),λ_=>by omega⟩⟩⟩
    ·simp only[BL,aL,av,ge_iff_le,decide_eq_true_eq,decide_eq_false_iff_not]
     exact⟨λ_=>by omega,λ_=>⟨λ_=>by omega,λ_=>⟨λ_=>by omega,λ_=>(show x<=1073741840 by omega)⟩⟩⟩
   have h3:(d:Int)<=1073741840:=Ok.post e hd
   exact absurd (show(1073741840:Int)<d from h) (Int.not_lt.mpr h3)
  omega
 ·have h:=of_decide_eq_false h
  have h':¬((1073741840:Int)<d):=h
  have hx:=aUw hd (Int.not_lt.mp h')
  obtain⟨a,b,e,o,v⟩:=BT x x (by omega) (by omega) (by omega) (by omega)
  rw[e,bQ]
  exact h2 hx a b e o v
theorem aNb (x0 x1 x2 x3:Int)(d:kH.B)(hd:∃n:Nat,n<=4∧d.1.1=n∧d.1.2.2=(n:Int)∧d.1.2.1=(x0,x1,x2,x3)∧∀j,j<n->sqW d.2.2.1 d.2.2.2 j (yE x0 x1 x2 x3 j)):
  Ok (Qm d) (λx:vE=>match x with
   |.inl _=>∃j,j<4∧(yE x0 x1 x2 x3 j< -1073741840∨1073741840<yE x0 x1 x2 x3 j)
   |.inr e=>e.1.1=4∧∀j,j<4->sqW e.2.2.1 e.2.2.2 j (yE x0 x1 x2 x3 j)):=
 aZ (s:=_) (λd:kH.B=>∃n:Nat,n<=4∧d.1.1=n∧d.1.2.2=(n:Int)∧d.1.2.1=(x0,x1,x2,x3)∧∀j,j<n->sqW d.2.2.1 d.2.2.2 j (yE x0 x1 x2 x3 j)) (λd:kH.B=>4-d.1.1) (λx:vE=>match x with
   |.inl _=>∃j,j<4∧(yE x0 x1 x2 x3 j< -1073741840∨1073741840<yE x0 x1 x2 x3 j)
   |.inr e=>e.1.1=4∧∀j,j<4->sqW e.2.2.1 e.2.2.2 j (yE x0 x1 x2 x3 j)) (λd hd=>by
  obtain⟨⟨c,q,i⟩,q',f,g⟩:=d
  obtain⟨n,hn,h1,h2,h3,h4⟩:=hd
  simp only at h1 h2 h3 h4
  subst h1 h3 h2
  have step:∀(h l:Int),c<4->okW h l->(-1073741840<=yE x0 x1 x2 x3 c∧yE x0 x1 x2 x3 c<=1073741840)->vW h l=yE x0 x1 x2 x3 c*yE x0 x1 x2 x3 c->
    ∀j,j<c+1->sqW (λj=>bif Nat.beq j c then h else f j) (λj=>bif Nat.beq j c then l else g j) j (yE x0 x1 x2 x3 j):=λh l hc ho hs hv j hj=>by
   unfold sqW
   by_cases e:j=c
   ·subst e;simp only[aM,cond_true];exact⟨hs,ho,hv⟩
   ·have e':Nat.beq j c=false:=by cases hb:Nat.beq j c with|false=>rfl|true=>exact absurd (Nat.eq_of_beq_eq_true hb) e
    simp only[e',cond_false];exact h4 j (by omega)
  have hw:wI ((c:Int)+1)=((c+1:Nat):Int):=by rw[eP (by omega) (by omega)];omega
  have hb:Nat.ble ((c+1)*16) 140737488355328=true:=by rw[bL];omega
  unfold Ql
  simp only[hw,hb]
  have fin:∀(h l:Int),c<4->okW h l->(-1073741840<=yE x0 x1 x2 x3 c∧yE x0 x1 x2 x3 c<=1073741840)->vW h l=yE x0 x1 x2 x3 c*yE x0 x1 x2 x3 c->
    (∃n:Nat,n<=4∧c+1=n∧((c+1:Nat):Int)=(n:Int)∧True∧∀j,j<n->sqW (λj=>bif Nat.beq j c then h else f j) (λj=>bif Nat.beq j c then l else g j) j (yE x0 x1 x2 x3 j))∧4-(c+1)<4-c:=λh l hc ho hs hv=>
   ⟨⟨c+1,by omega,rfl,rfl,trivial,step h l hc ho hs hv⟩,by omega⟩
  rcases(by omega:c=0∨c=1∨c=2∨c=3∨c=4) with rfl|rfl|rfl|rfl|rfl
  ·rw[show decide (((0:Nat):Int)<4)=true from rfl,show aX ((0:Nat):Int) 4=true from rfl,show(((0:Nat):Int)==3)=false from rfl,show(((0:Nat):Int)==2)=false from rfl,show(((0:Nat):Int)==1)=false from rfl]
   simp only[aL,Bool.true_eq_false,Bool.false_eq_true,false_implies,true_implies,and_true,true_and]
   refine aeY (A:=Unit) (n:=0) (f:=f) (g:=g) (λh=> ?_) (λhs h l _ ho hv=> ?_)
   ·simp only[av,Sum.elim_inr];exact⟨0,by omega,h⟩
   ·rw[bC];refine⟨rfl,?_⟩;simp only[av,Sum.elim_inl];exact fin h l (by omega) ho hs hv
  ·rw[show decide (((1:Nat):Int)<4)=true from rfl,show aX ((1:Nat):Int) 4=true from rfl,show(((1:Nat):Int)==3)=false from rfl,show(((1:Nat):Int)==2)=false from rfl,show(((1:Nat):Int)==1)=true from rfl]
   simp only[aL,Bool.true_eq_false,Bool.false_eq_true,false_implies,true_implies,and_true,true_and]
   refine aeY (A:=Unit) (n:=0) (f:=f) (g:=g) (λh=> ?_) (λhs h l _ ho hv=> ?_)
   ·simp only[av,Sum.elim_inr];exact⟨1,by omega,h⟩
   ·rw[bC];refine⟨rfl,?_⟩;simp only[av,Sum.elim_inl];exact fin h l (by omega) ho hs hv
  ·rw[show decide (((2:Nat):Int)<4)=true from rfl,show aX ((2:Nat):Int) 4=true from rfl,show(((2:Nat):Int)==3)=false from rfl,show(((2:Nat):Int)==2)=true from rfl]
   simp only[aL,Bool.true_eq_false,Bool.false_eq_true,false_implies,true_implies,and_true,true_and]
   refine aeY (A:=Unit) (n:=0) (f:=f) (g:=g) (λh=> ?_) (λhs h l _ ho hv=> ?_)
   ·simp only[av,Sum.elim_inr];exact⟨2,by omega,h⟩
   ·rw[bC];refine⟨rfl,?_⟩;simp only[av,Sum.elim_inl];exact fin h l (by omega) ho hs hv
  ·rw[show decide (((3:Nat):Int)<4)=true from rfl,show aX ((3:Nat):Int) 4=true from rfl,show(((3:Nat):Int)==3)=true from rfl]
   simp only[aL,Bool.true_eq_false,Bool.false_eq_true,false_implies,true_implies,and_true,true_and]
   refine aeY (A:=Unit) (n:=0) (f:=f) (g:=g) (λh=> ?_) (λhs h l _ ho hv=> ?_)
   ·simp only[av,Sum.elim_inr];exact⟨3,by omega,h⟩
   ·rw[bC];refine⟨rfl,?_⟩;simp only[av,Sum.elim_inl];exact fin h l (by omega) ho hs hv
  ·rw[show decide (((4:Nat):Int)<4)=false from rfl]
   simp only[aL,av,Bool.false_eq_true,false_implies,true_implies,true_and,Sum.elim_inr]
   exact h4) 2000 d hd (by obtain⟨n,hn,h1,_⟩:=hd;omega)
theorem aPs (n:Nat)(hn:n<=100)(f g:Nat->Int)(w:Bool)(B:Int)(hB:0<=B)(hB2:B<=1329227995784915872903807060280344576)(h:∀j,j<n->okW (f j) (g j)∧ -B<=vW (f j) (g j)∧vW (f j) (g j)<=B):
  ∃a b,ji n f g w=some ((a,b),true)∧okW a b∧vW a b=xL (λj=>vW (f j) (g j)) n:=by
 have key:∃x:Gi,Gj (((n,w),Int.ofNat n,0),(f,g),0,0)=some x∧(match x with
   |.inl _=>False
   |.inr e=>okW e.2.2.1 e.2.2.2∧vW e.2.2.1 e.2.2.2=xL (λj=>vW (f j) (g j)) n):=by
  unfold Gj
  refine Yf (s:=BM IH) (λt d=>∃(i:Nat) (a b:Int),i+t=n∧okW a b∧vW a b=xL (λj=>vW (f j) (g j)) i∧d=(((n,w),Int.ofNat n,Int.ofNat i),(f,g),a,b)) _ (λt d=> ?_) 2000 n _ (by omega)
   ⟨0,0,0,by omega,⟨by omega,by omega,by omega,by omega⟩,rfl,rfl⟩
  rintro ⟨i,a,b,hi,ho,hv,rfl⟩
  rcases Nat.eq_zero_or_pos t with t0|t0
  ·have e:i=n:=by omega
   subst e
   simp only[BM,bP,bM,cq,eE,atd (Nat.le_refl i),cond_false]
   exact⟨_,rfl,ho,hv⟩
  ·obtain⟨o1,b1,b2⟩:=h i (by omega)
   have bnd:=akn (λj=>vW (f j) (g j)) B hB i (λj hj=>(h j (by omega)).2)
   obtain⟨a2,b2',q,e,o2,c,v⟩:=avG a b (f i) (g i) ho o1
   have hmul:(i:Int)*B<=100*1329227995784915872903807060280344576:=by
    have:=Int.mul_le_mul (show(i:Int)<=100 by omega) hB2 hB (by omega)
    exact this
   have hq:q=true:=by rw[c,hv];omega
   subst hq
   have v:=v rfl
   have qq:Int.toNat (Int.ofNat i)=i:=rfl
   simp only[BM,bP,bM,cq,eE,wI,atc hi t0,ate (show i<n by omega),cond_true,qq,Option.bind_some,e,Bool.not_true,cond_false,atf (show i<9000000000000000000 by omega)]
   exact⟨_,rfl,t-1,by omega,i+1,a2,b2',by omega,o2,by rw[v,hv];rfl,rfl⟩
 obtain⟨x,hx,hp⟩:=key
 simp only[ji,XJ,bP,bM,cq,eE,dM]
 rw[aM,cond_true,hx,Option.bind_some]
 cases x with
 |inl e=>exact hp.elim
 |inr e=>exact⟨e.2.2.1,e.2.2.2,rfl,hp.1,hp.2⟩
theorem aTs (x0 x1 x2 x3:Int):Ok (BP x0 x1 x2 x3) (λb:Bool=>b=true↔((∀j,j<4-> -1073741840<=yE x0 x1 x2 x3 j∧yE x0 x1 x2 x3 j<=1073741840)∧ -4294967296<=x0*x0+x1*x1+x2*x2+x3*x3-1152921504606846976∧x0*x0+x1*x1+x2*x2+x3*x3-1152921504606846976<=4294967296)):=by
 unfold BP ZP
 show PQ _ _
 rw[bC]
 refine⟨rfl,ay (aNb x0 x1 x2 x3 _ ⟨0,by omega,rfl,rfl,rfl,λj hj=>absurd hj (by omega)⟩) λx _ hx=> ?_⟩
 rw[oE]
 constructor
 ·rintro a rfl
  rw[av]
  obtain⟨j,hj,hs⟩:=hx
  exact⟨λh=>(by cases h),λh=>by have:=h.1 j hj;omega⟩
 ·rintro e rfl
  obtain⟨h1,h2⟩:=hx
  rw[aM,bC]
  refine⟨rfl,?_⟩
  have sm:∀j,j<4-> -1073741840<=yE x0 x1 x2 x3 j∧yE x0 x1 x2 x3 j<=1073741840:=λj hj=>(h2 j hj).1
  obtain⟨a,b,ea,oa,va⟩:=aPs 4 (by omega) e.2.2.1 e.2.2.2 true 1152921538966585600 (by omega) (by omega) (λj hj=>by
   obtain⟨s1,s2,s3⟩:=h2 j hj
   have:=abO s1
   exact⟨s2,by rw[s3];omega,by rw[s3];omega⟩)
  rw[h1,ea,bQ]
  have s0:=abO (sm 0 (by omega))
  have s1:=abO (sm 1 (by omega))
  have s2:=abO (sm 2 (by omega))
  have s3:=abO (sm 3 (by omega))
  have vs:vW a b=x0*x0+x1*x1+x2*x2+x3*x3:=by
   rw[va]
   simp only[xL,(h2 0 (by omega)).2.2,(h2 1 (by omega)).2.2,(h2 2 (by omega)).2.2,(h2 3 (by omega)).2.2]
   simp only[yE,if_true,if_neg (show ¬(1:Nat)=0 by omega),if_neg (show ¬(2:Nat)=0 by omega),if_neg (show ¬(2:Nat)=1 by omega),if_neg (show ¬(3:Nat)=0 by omega),if_neg (show ¬(3:Nat)=1 by omega),if_neg (show ¬(3:Nat)=2 by omega)]
   omega
  have t0:yE x0 x1 x2 x3 0=x0:=rfl
  have t1:yE x0 x1 x2 x3 1=x1:=rfl
  have t2:yE x0 x1 x2 x3 2=x2:=rfl
  have t3:yE x0 x1 x2 x3 3=x3:=rfl
  rw[t0] at s0;rw[t1] at s1;rw[t2] at s2;rw[t3] at s3
  generalize hS:x0*x0+x1*x1+x2*x2+x3*x3=S at*
  have r:=wide_round a b 0 (by omega) oa
  rw[aFy,vs,show Int.ofNat 0=0 from rfl,if_pos (by omega)] at r
  rw[r,bQ]
  have hw:wI (S-1152921504606846976)=S-1152921504606846976:=eP (by omega) (by omega)
  simp only[hw,aL,av,true_implies,Bool.true_eq_false,false_implies,and_true,decide_eq_true_eq,decide_eq_false_iff_not,ge_iff_le]
  exact⟨λk=>⟨λm=>⟨sm,k,m⟩,λc=>c.2.2⟩,λk=>⟨λh=>(by cases h),λc=>absurd c.2.1 k⟩⟩
instance aYE (x0 x1 x2 x3:Int):bo (BP x0 x1 x2 x3):=(aTs x0 x1 x2 x3).tot
end Go.Proofs.YtcmfbkneahoonaaGreat
namespace Go.Proofs.YtcmfbkneahoonaaGreat
open Go.Ab Go.Ab.Pg
instance aTU (x0:Nat->Int)(x1:Bool):bo (bX x0 x1):=by
 unfold bX Z4
 exact aG (by simp only[bG])
instance aPt (x0:Int)(x1:Bool):bo (jg x0 x1):=by
 unfold jg MG
 exact aG (by simp only[bG])
instance aWm (x0:Int)(x1:Int)(x2:Int)(x3:Bool):bo (UM x0 x1 x2 x3):=by
 unfold UM aql
 exact aG (by simp only[bG])
instance aTt (x0:Nat->Int)(x1:Int)(x2:Int)(x3:Int)(x4:Int)(x5:Int)(x6:Int)(x7:Int)(x8:Int)(x9:Bool):bo (tP x0 x1 x2 x3 x4 x5 x6 x7 x8 x9):=by
 unfold tP UO
 exact aG (by simp only[bG])
instance aTV (x0:Nat->Int)(x1:Int)(x2:Int)(x3:Int)(x4:Int)(x5:Int)(x6:Int)(x7:Int)(x8:Int)(x9:Bool):bo (sW x0 x1 x2 x3 x4 x5 x6 x7 x8 x9):=by
 unfold sW Z6
 try dsimp only
 exact aG (by simp only[bG])
theorem aCJ (d:nF.B)(hd:0<=d.1.2∧d.1.2<=3):Ok (Z8 d) (λx:BS=>True):=
 aZ (s:=_) (λd:nF.B=>0<=d.1.2∧d.1.2<=3) (λd:nF.B=>Int.toNat (3-d.1.2)) (λx:BS=>True) (λd hd=>by
  have hw:wI (d.1.2+1)=d.1.2+1:=bd (by omega) (by omega)
  unfold Z7
  simp only[bG]
  simp only[nf,rX,hw]
  repeat' (first|exact True.intro|omega|(intro _)|(apply And.intro))) 2000 d hd (by omega)
instance aVA (x0:Int)(x1:Int)(x2:Int)(x3:Bool):bo (IS x0 x1 x2 x3):=by
 unfold IS aj4
 refine aG ?_
 rw[bz];intro d _
 rw[aL]
 refine⟨λ_=>by simp only[bG],λ_=> ?_⟩
 rw[bz];intro d1 _
 refine ay (aCJ _ (by simp)) λd _ hd=> ?_
 simp only[bG]
theorem azs (d:mm.B)(hd:0<=d.1.2∧d.1.2<=24):Ok (U7 d) (λx:yB=>True):=
 aZ (s:=_) (λd:mm.B=>0<=d.1.2∧d.1.2<=24) (λd:mm.B=>Int.toNat (24-d.1.2)) (λx:yB=>True) (λd hd=>by
  have hw:wI (d.1.2+1)=d.1.2+1:=bd (by omega) (by omega)
  unfold U6
  simp only[bG]
  simp only[nf,rX,hw]
  repeat' (first|exact True.intro|omega|(intro _)|(apply And.intro))) 2000 d hd (by omega)
instance aUx (x0:Nat->Int)(x1:Int)(x2:Bool):bo (Kl x0 x1 x2):=by
 unfold Kl aeO
 refine aG ?_
 rw[bz];intro d1 _
 refine ay (azs _ (by simp)) λd _ hd=> ?_
 simp only[av]
theorem aqu (d:iG.B)(hd:0<=d.1.2∧d.1.2<=24):Ok (Kn d) (λx:qU=>True):=
 aZ (s:=_) (λd:iG.B=>0<=d.1.2∧d.1.2<=24) (λd:iG.B=>Int.toNat (24-d.1.2)) (λx:qU=>True) (λd hd=>by
  have hw:wI (d.1.2+1)=d.1.2+1:=bd (by omega) (by omega)
  unfold Km
  simp only[bG]
  simp only[nf,rX,hw]
  repeat' (first|exact True.intro|omega|(intro _)|(apply And.intro))) 2000 d hd (by omega)
theorem aqv (a b:Int)(d:iH.B)(hd:0<=d.1.2.2.2.2∧d.1.2.2.2.2<=d.1.2.2.2.1∧d.1.2.2.2.1<=1999∧d.1.1=a∧d.1.2.2.1=b∧(d.1.2.1:Int)=d.1.2.2.2.2∧d.1.2.2.2.1=a+1):Ok (Kp d) (λx:qV=>x.1.1=a∧x.1.2.2.1=b∧(x.1.2.1:Int)=a+1):=
 aZ (s:=_) (λd:iH.B=>0<=d.1.2.2.2.2∧d.1.2.2.2.2<=d.1.2.2.2.1∧d.1.2.2.2.1<=1999∧d.1.1=a∧d.1.2.2.1=b∧(d.1.2.1:Int)=d.1.2.2.2.2∧d.1.2.2.2.1=a+1) (λd:iH.B=>Int.toNat (d.1.2.2.2.1-d.1.2.2.2.2)) (λx:qV=>x.1.1=a∧x.1.2.2.1=b∧(x.1.2.1:Int)=a+1) (λd hd=>by
  have hw:wI (d.1.2.2.2.2+1)=d.1.2.2.2.2+1:=bd (by omega) (by omega)
  unfold Ko
  simp only[bG]
  simp only[nf,rX,hw]
  repeat' (first|exact True.intro|omega|(intro _)|(apply And.intro))) 2000 d hd (by omega)
theorem aqw (d:iI.B)(hd:0<=d.1∧d.1<=24):Ok (Kr d) (λx:qW=>True):=
 aZ (s:=_) (λd:iI.B=>0<=d.1∧d.1<=24) (λd:iI.B=>Int.toNat (24-d.1)) (λx:qW=>True) (λd hd=>by
  unfold Kq
  try dsimp only
  rw[aL]
  refine⟨λh=> ?_,λ_=>by simp only[av,Sum.elim_inr]⟩
  have h:=of_decide_eq_true h
  have hw:wI (d.1+1)=d.1+1:=bd (by omega) (by omega)
  rw[bC,hw]
  refine⟨rfl,ay (aqv d.1 d.1 _ (by dsimp only;omega)) λx _ hx=> ?_⟩
  obtain⟨a1,a2,a3⟩:=hx
  have hn:x.1.2.1=Int.toNat (d.1+1):=by omega
  have td:=λa b c=>KB (Int.toNat (d.1+1)) (by omega) a b c false true
  simp only[a1,a2,hw,hn]
  simp only[bG]
  simp only[nf,rX]
  repeat' (first|exact True.intro|omega|(intro _)|(apply And.intro))) 2000 d hd (by omega)
instance aP2 (x0:Nat->Int)(x1:Nat->Int)(x2:Nat->Int)(x3:Int)(x4:Bool):bo (rC x0 x1 x2 x3 x4):=by
 unfold rC QG
 try dsimp only
 refine aG ?_
 rw[bz];intro d1 _
 refine ay (aqu _ (by simp)) λd _ hd=> ?_
 rw[bz];intro d2 _
 refine ay (aqw _ (by simp)) λd _ hd=> ?_
 simp only[av]
instance aIe (x0:Nat->Int)(x1:Nat->Int)(x2:Nat->Int)(x3:Int)(x4:Bool):bo (oJ x0 x1 x2 x3 x4):=by
 unfold oJ B8
 exact aG (by simp only[bG])
instance aVB (x0:Int)(x1:Int)(x2:Int)(x3:Int):bo (OO x0 x1 x2 x3):=by
 unfold OO akb
 exact aG (by simp only[bG])
theorem akr (a b:Int)(d:gm.B)(hd:0<=d.1.2.2.2.2∧d.1.2.2.2.2<=d.1.2.2.2.1∧d.1.2.2.2.1<=1999∧d.1.1=a∧d.1.2.2.1=b∧d.1.2.2.2.1=a∧0<=a∧a<24):Ok (Fw d) (λx:nX=>x.1.2.2.1=b):=
 aZ (s:=_) (λd:gm.B=>0<=d.1.2.2.2.2∧d.1.2.2.2.2<=d.1.2.2.2.1∧d.1.2.2.2.1<=1999∧d.1.1=a∧d.1.2.2.1=b∧d.1.2.2.2.1=a∧0<=a∧a<24) (λd:gm.B=>Int.toNat (d.1.2.2.2.1-d.1.2.2.2.2)) (λx:nX=>x.1.2.2.1=b) (λd hd=>by
  have hw:wI (d.1.2.2.2.2+1)=d.1.2.2.2.2+1:=bd (by omega) (by omega)
  unfold Fv
  simp only[bG]
  simp only[nf,rX,hw]
  repeat' (first|exact True.intro|omega|(intro _)|(apply And.intro))) 2000 d hd (by omega)
theorem aks (d:gq.B)(hd:0<=d.1∧d.1<=24):Ok (Fy d) (λx:nY=>True):=
 aZ (s:=_) (λd:gq.B=>0<=d.1∧d.1<=24) (λd:gq.B=>Int.toNat (24-d.1)) (λx:nY=>True) (λd hd=>by
  have hw:wI (d.1+1)=d.1+1:=bd (by omega) (by omega)
  unfold Fx
  simp only[bG]
  simp only[nf,rX,hw]
  repeat' (first|exact True.intro|omega|(intro _)|(apply And.intro))) 2000 d hd (by omega)
theorem akt (d:gr.B)(hd:0<=d.1∧d.1<=24):Ok (FA d) (λx:nZ=>True):=
 aZ (s:=_) (λd:gr.B=>0<=d.1∧d.1<=24) (λd:gr.B=>Int.toNat (24-d.1)) (λx:nZ=>True) (λd hd=>by
  unfold Fz
  try dsimp only
  rw[aL]
  refine⟨λh=> ?_,λ_=>by simp only[av,Sum.elim_inr]⟩
  have h:=of_decide_eq_true h
  have hw:wI (d.1+1)=d.1+1:=bd (by omega) (by omega)
  iterate 4 (rw[bC];refine⟨by simp only[nf,rX,hw];omega,?_⟩)
  iterate 2 (rw[bz];intro _ _)
  iterate 5 (rw[bC];refine⟨by simp only[nf,rX,hw];omega,?_⟩)
  rw[bz];intro _ _
  iterate 4 (rw[bC];refine⟨by simp only[nf,rX,hw];omega,?_⟩)
  refine ay (akr d.1 d.1 _ (by dsimp only;omega)) λx _ hx=> ?_
  simp only[av,Sum.elim_inl,hx,hw]
  omega) 2000 d hd (by omega)
theorem aqx (d:iJ.B)(hd:0<=d.1.2∧d.1.2<=24):Ok (Ku d) (λx:qY=>True):=
 aZ (s:=_) (λd:iJ.B=>0<=d.1.2∧d.1.2<=24) (λd:iJ.B=>Int.toNat (24-d.1.2)) (λx:qY=>True) (λd hd=>by
  have hw:wI (d.1.2+1)=d.1.2+1:=bd (by omega) (by omega)
  unfold Kt
  simp only[bG]
  simp only[nf,rX,hw]
  repeat' (first|exact True.intro|omega|(intro _)|(apply And.intro))) 2000 d hd (by omega)
instance aP3 (x0:Nat->Int)(x1:Int)(x2:Bool):bo (Bo x0 x1 x2):=by
 unfold Bo QI
 refine aG ?_
 refine ay (aqx _ (by simp)) λd _ hd=> ?_
 simp only[bG]
end Go.Proofs.YtcmfbkneahoonaaGreat
noncomputable section
namespace Go.Proofs.YtcmfbkneahoonaaGreat
open Go.Ab Go.Ab.Pg Go.Ab.Rq
def OR:=qa (dp (cu aP (c jS (c xX (cl aFU nil)))) λa=>(c uN (cl (cl (gs a.b.1 aGp) nil) nil)))
def aHt:=qe (res (pr (pw (c ac6 (c aic (cl (rc (dG (pu rq4 (pu xW (pl eS (pu rq7 ek)))))) nil)))) (pr L0 (cl aLy nil))))
abbrev Yg:=((NI×(NI×NI)×Nat)×Bool×(Nat->Bool)×NI×NI)
def axP:Yg->T:=λd=>lf aHt (d.1,d.2.1,d.1.b,d.b)
abbrev axQ:=OR.B->Option Yg
def axR (g:axQ):Ct:=(235,sQ 3 [.i .i64,.i .i64,.i .i64,.i .i64,.i .i64,.i .i64,.i .i64,.i .i64,.i .i64,.i .i64,.i .i64,.i .i64,.i .i64,.i .i64,.i .i64,.i .i64,.i .i64,.i .i64,.i .i64,.i .i64,.i .i64,.i .i64,.i .i64,.i .i64,.i .i64,.i .i64,.i .i64] (FC OR axP g))
def nI:=qs (st (dp (cu aP (us 4 (cu Cr (cu aEN (us 1 (cu ane (cu (app 5 300) (us 1 (c aRq (us 3 (c aFU aLf))))))))))) λa=>(pl (c ck (c (so (cl (gs a.2.1.1 aGp) nil)) (c mx (c hI (c mx (c hI (cl (so (cl (gs a.1 apE) nil)) nil))))))) cB)))
def aD9:=qs (st (pr (cu aP (us 4 (cu Cr (cu aEN (us 1 (cu ane (cu (app 5 300) (us 1 (c aRq (us 3 (c aFU aLl))))))))))) (pl (c ck (c (so (cl (ga (pr eS aGp)) nil)) (c mx (c hI (c mx (c hI aRl)))))) cB)))
abbrev BU:=((Nat×(Nat×Bool)×Int×Int×Bool)×Bool×(NI×NI×NI×NI×NI×NI×NI×NI×NI×NI×NI×NI×NI×NI×NI×NI×NI×NI×NI×NI×NI×NI×NI×NI×NI×NI×NI)×NI×(NI×NI)×NI×(NI×NI)×(Nat->Bool)×NI×NI)
def aox {ρ:Type}(x:BU)(K:AX->St->Option ρ):Option ρ:=(λd=>K (.ex 0) (aD9.em (d.1,d.2.1,(d.1.2.1.1,d.b.1),d.b.2.1,d.c.1,d.c.2.1,d.c.b.1,d.1.1,d.c.b.2))) x
def aaa (aKa:akl)(d:nI.B):PL nI BU:=let aS:=d.1.1;let n5:=d.1.2.2;let n4:=d.2.2;let n7:=n4.2.2;let n3:=n4.1.2.2.2.2;let n8:=n3.2.2.2;let n1:=n8.2.2.2.2;let n9:=n1.2.2.2;let n2:=n9.2.2.2.2;let n6:=n2.2.2.2.2;let y0:=Int.toNat n5.2;let y1:=aS+1;let y2:=decide (n5.2<n5.1);ae y2 (ae (aX n5.2 d.1.2.1.1) (opt (aKa n4.2.1 n7.1.1 n7.1.2 (cr (n4.1.1 y0) [n6.2.1 y0,n6.1 y0,n2.2.2.2.1 y0,n2.2.2.1 y0,n2.2.1 y0,n2.1 y0,n9.2.2.2.1 y0,n9.2.2.1 y0,n9.2.1 y0,n9.1 y0,n1.2.2.1 y0,n1.2.1 y0,n1.1 y0,n8.2.2.2.1 y0,n8.2.2.1 y0,n8.2.1 y0,n8.1 y0,n3.2.2.1 y0,n3.2.1 y0,n3.1 y0,n4.1.2.2.2.1 y0,n4.1.2.2.1 y0,n4.1.2.1 y0,n4.1.1 y0]) (n6.2.2.1 y0) (n6.2.2.2.1 y0) (n6.2.2.2.2 y0) d.2.1) λaj=>ae (Nat.ble (y1*24) 140737488355328) (ret (Sum.inl ((y1,d.1.2.1,n5.1,wI (n5.2+1)),aj.2,n4.1,aj.1.1,aj.1.2.1,n7.2.1,n7.2.2.1,λj=>bif Nat.beq j aS then aj.1.2.2.1 else n7.2.2.2.1 j,λj=>bif Nat.beq j aS then aj.1.2.2.2.1 else n7.2.2.2.2.1 j,λj=>bif Nat.beq j aS then aj.1.2.2.2.2 else n7.2.2.2.2.2 j))) no) no) (ret (Sum.inr ((aS,d.1.2.1,n5.1,n5.2,y2),d.2)))
def aab:=bD (aaa OP) 2000
def aku (dA:LT nI BU)(x:OR.B):Pg Yg:=ae (Nat.beq x.1.2.2.1 x.1.2.2.1) (ae true (opt (dA ((0,x.1.2.2,Int.ofNat x.1.2.2.1,0),x.2.1,x.2.2,x.1.1,x.1.2.1,λx=>0,(λx=>0,λx=>0),λx=>false,λx=>0,λx=>0)) λd=>ret ((d.2.2.2.1,d.2.2.2.2.1,d.1.1),d.2.1,d.2.2.2.2.2.2.2)) no) no
def OS:=λx=>(aku aab x).val
abbrev Yh:=akl×(LT nI BU)
def akv (p:Yh):KK:=⟨[axN p.1],⟨[⟨3,(rg 1 4 (7::10::12::13::14::rg 18 20 [])),[(11,[.b,.i .i64,.i .i64])]⟩],[fg 3 2 nI aox p.2],[0],[],(some ⟨0,(rg 0 8 (rg 11 27 [])),[]⟩)⟩,2,235⟩
theorem aCK (p:Yh):LI (akv p) 3 nI aox (aaa p.1):=λ_ d c K=>by kernel_rfl
theorem aKb (p:Yh):D2 (akv p) OR axP λb=>aku p.2 b:=λb=>by kernel_rfl
abbrev akw:Yh:=(OP,aab)
theorem aKc [ax]:SC (axR OS):=sc (Sound.nil 3 [.i .i64,.i .i64,.i .i64,.i .i64,.i .i64,.i .i64,.i .i64,.i .i64,.i .i64,.i .i64,.i .i64,.i .i64,.i .i64,.i .i64,.i .i64,.i .i64,.i .i64,.i .i64,.i .i64,.i .i64,.i .i64,.i .i64,.i .i64,.i .i64,.i .i64,.i .i64,.i .i64]<|kS (k:=akv akw) (.c aJ3 (.nil _)) [3] [] ⟨kL (aCK akw),trivial⟩ trivial (aKb akw))
def aoy:=qa (dp (cl aKS nil) λa=>(cl (cl (gs a.1 apE) nil) nil))
def Vc:=qe aRi
abbrev aoz:=Vc.B
abbrev aac:=Nat->(Nat->Bool)->NI->NI->Bool->Option aoz
def aad (g:aac):Ct:=(236,sQ 0 [.b,.i .i64,.i .i64] (FC aoy (lf Vc) (λb=>g b.1.1 b.2.1 b.b.1 b.b.2 b.1.2)))
def kM:=qs (st (dp (us 2 (c ai (c ai (us 2 (c aKS (c ai aQt)))))) λa=>(pl (cl (so (cl (gs a.b.1.1 apE) nil)) nil) nil)))
def azt:=qs (st (pr (us 2 (c ai (c ai (us 2 (c aKS (c ai aQJ)))))) (pl aRl nil)))
abbrev vI:=((Int×Int×(Nat×Bool)×Int×Int×Bool)×(Nat->Bool)×NI×NI)
def agG {ρ:Type}(x:vI)(K:AX->St->Option ρ):Option ρ:=(λd=>K (.ex 0) (azt.em (d.1,d.1.b.1.1,d.2))) x
def QL (d:kM.B):PL kM vI:=let n1:=d.1.2.2;let n2:=n1.2.2;let y0:=decide (n2<n1.2.1);ae y0 (ae (aX n2 n1.1.1) (ae (d.2.1 (Int.toNat n2)) (ret (Sum.inl ((wI (d.1.1+1),d.1.2.1,n1.1,n1.2.1,wI (n2+1)),d.2))) (ret (Sum.inl ((d.1.1,wI (d.1.2.1+1),n1.1,n1.2.1,wI (n2+1)),d.2)))) no) (ret (Sum.inr ((d.1.1,d.1.2.1,n1.1,n1.2.1,n2,y0),d.2)))
def QM:=bD (QL) 2000
def aae (dA:LT kM vI)(x0:Nat)(x1:Nat->Bool)(x2:Nat->Int)(x3:Nat->Int)(w0:Bool):Pg aoz:=ae (Nat.beq x0 x0) (opt (dA ((0,0,(x0,w0),Int.ofNat x0,0),x1,x2,x3)) λd=>ret (d.1.1,d.1.2.1)) no
def xf:=λx0 x1 x2 x3 w0=>(aae QM x0 x1 x2 x3 w0).val
abbrev N9:=(LT kM vI)
def aaf (p:N9):KK:=⟨[],⟨[⟨2,(0::1::4::5::rg 9 12 []),[]⟩],[fg 2 1 kM agG p],[],[],(some ⟨0,(0::1::rg 4 17 []),[]⟩)⟩,1,236⟩
theorem avL (p:N9):LI (aaf p) 2 kM agG (QL):=λ_ d c K=>by kernel_rfl
theorem aEa (p:N9):D2 (aaf p) aoy (lf Vc) λb=>aae p b.1.1 b.2.1 b.b.1 b.b.2 b.1.2:=λb=>by kernel_rfl
abbrev aag:N9:=QM
theorem aoA [ax]:SC (aad xf):=sc (Sound.nil 0 [.b,.i .i64,.i .i64]<|kS (k:=aaf aag) (.nil _) [2] [] ⟨kL (avL aag),trivial⟩ trivial (aEa aag))
def abP:=qa (pu nil nil)
def KD:=qe (res (pu (aa (cu auD (cu aT aGq))) (pu nil nil)))
abbrev MP:=KD.B
abbrev kO:=Option MP
def o7 (g:kO):Ct:=(29,FC abP (lf KD) (λ_=>g))
def MQ (gM:zk):Pg MP:=opt gM λd=>ret ()
def dI:Option MP:=(MQ mH).val
theorem avM:∀gM,D0 [IL gM] 29 abP (lf KD) λb=>MQ gM:=λ_ b=>by kernel_rfl
theorem tx [ax]:SC (o7 dI):=s0 (.c OK (.nil _)) (avM mH)
def aoB:=qa (dp (cu aP (cl aKT nil)) λa=>(c uN (cl (cl (gs a.1 jk) nil) nil)))
def Vd:=qe (res (pr (aa aLH) (pl L0 nil)))
abbrev aoC:=Vd.B
abbrev aah:=Nat->Bool->NI->NI->NI->NI->NI->NI->NI->NI->NI->NI->Bool->Option aoC
def aoD (g:aah):Ct:=(82,sQ 1 [.i .i64,.i .i64,.i .i64,.i .i64,.i .i64,.i .i64,.i .i64,.i .i64,.i .i64,.i .i64] (FC aoB (lf Vd) (λb=>g b.1.1 b.2.1 b.b.1 b.b.2.1 b.c.1 b.c.2.1 b.c.b.1 b.c.b.2.1 b.d.1 b.d.2.1 b.d.b.1 b.d.b.2 b.1.2)))
def kP:=qs (st (dp (cu aP (us 3 (cu (app 2 10) (cu (app 3 10) (c aRr (c aRs (us 3 (c aKT (c ai aQu))))))))) λa=>(pl (c ck (c (so (cl (gs a.b.1.1 jk) nil)) (cu aR9 (c aR3 (c (so (cl (gs a.1 apD) nil)) (cl aAE nil)))))) cB)))
def azu:=qs (st (pr (cu aP (us 3 (cu (app 2 10) (cu (app 3 10) (c aRr (c aRs (us 3 (c aKT (c ai aQK))))))))) (pl (c ck (c ov (cu aR9 (c aR3 (c aAE (cl aAE nil)))))) cB)))
abbrev vJ:=((Nat×Nat×(Nat×Bool)×Int×Int×Bool)×Bool×aNB×aEK×(NI×NI×NI)×Nat×NI×NI×NI)
def agH {ρ:Type}(x:vJ)(K:AX->St->Option ρ):Option ρ:=(λd=>K (.ex 0) (azu.em (d.1,d.2.1,(d.1.b.1.1,d.b.1),d.b.2.1,(d.1.1,d.c.1),d.c.2))) x
def QN (eu:wj)(bq:gQ)(d:kP.B):PL kP vJ:=let n6:=d.1.1;let n2:=d.1.2;let n4:=n2.2.2;let n1:=d.2.2;let n5:=n1.2.2;let n3:=n1.1.2.2.2.2;let y0:=n6+1;let y1:=Int.toNat n4.2;let y2:=n2.1+1;let y3:=decide (n4.2<n4.1);ae y3 (ae (aX n4.2 n2.2.1.1) (opt (eu (n1.1.1 y1) (n1.1.2.1 y1) (n1.1.2.2.1 y1) (n1.1.2.2.2.1 y1) n1.2.1.1 n1.2.1.2.1 n1.2.1.2.2.1 n1.2.1.2.2.2 d.2.1) λaj=>opt (bq aj.1.1 aj.1.2.1 aj.1.2.2.1 aj.1.2.2.2 aj.2) λaF=>ae (Nat.ble (y0*24) 140737488355328) (ae (Nat.ble (y2*24) 140737488355328) (ret (Sum.inl ((y0,y2,n2.2.1,n4.1,wI (n4.2+1)),aF.2,n1.1,aF.1,(λj=>bif Nat.beq j n6 then n3.1 y1 else n5.1.1 j,λj=>bif Nat.beq j n6 then n3.2.1 y1 else n5.1.2.1 j,λj=>bif Nat.beq j n6 then n3.2.2.1 y1 else n5.1.2.2 j),y2,λj=>bif Nat.beq j n2.1 then n3.2.2.2.1 y1 else n5.2.2.1 j,λj=>bif Nat.beq j n2.1 then n3.2.2.2.2.1 y1 else n5.2.2.2.1 j,λj=>bif Nat.beq j n2.1 then n3.2.2.2.2.2 y1 else n5.2.2.2.2 j))) no) no) no) (ret (Sum.inr ((n6,n2.1,n2.2.1,n4.1,n4.2,y3),d.2)))
def QO:=bD (QN j9 cX) 2000
def aai (bV:kO)(dm:zU)(dA:LT kP vJ)(x0:Nat)(x1:Bool)(x2:Nat->Int)(x3:Nat->Int)(x4:Nat->Int)(x5:Nat->Int)(x6:Nat->Int)(x7:Nat->Int)(x8:Nat->Int)(x9:Nat->Int)(fQ:Nat->Int)(fR:Nat->Int)(w0:Bool):Pg aoC:=opt bV λd=>ae (Nat.beq x0 x0) (ae true (opt (dA ((0,0,(x0,w0),Int.ofNat x0,0),x1,(x2,x3,x4,x5,x6,x7,x8,x9,fQ,fR),(1073741824,0,0,0),(λx=>0,λx=>0,λx=>0),0,λx=>0,λx=>0,λx=>0)) λd=>let n1:=d.2.2.2;ae (Nat.beq d.1.1 d.1.1) (opt (dm d.1.1 d.2.1 n1.2.1.1 n1.2.1.2.1 n1.2.1.2.2 true) λaj=>ae (Nat.beq d.1.2.1 d.1.2.1) (opt (dm d.1.2.1 aj.2 n1.2.2.2.1 n1.2.2.2.2.1 n1.2.2.2.2.2 true) λaF=>ret ((n1.1.1,n1.1.2.1,n1.1.2.2.1,n1.1.2.2.2,aj.1.1,aj.1.2.1,aj.1.2.2,aF.1),aF.2)) no) no) no) no
def Gq:=λx0 x1 x2 x3 x4 x5 x6 x7 x8 x9 fQ fR w0=>(aai dI jl QO x0 x1 x2 x3 x4 x5 x6 x7 x8 x9 fQ fR w0).val
abbrev N':=kO×wj×gQ×zU×(LT kP vJ)
def aaj (p:N'):KK:=⟨[o7 p.1,Dl p.2.1,mi p.b.1,HQ p.b.2.1],⟨[⟨4,(1::2::3::8::9::10::rg 14 32 []),[(6,[.i .i64,.i .i64,.i .i64]),(7,[.i .i64,.i .i64,.i .i64])]⟩],[fg 4 2 kP agH p.c],[0],[],(some ⟨0,(rg 0 4 (rg 5 41 [])),[]⟩)⟩,2,82⟩
theorem avN (p:N'):LI (aaj p) 4 kP agH (QN p.2.1 p.b.1):=λ_ d c K=>by kernel_rfl
theorem aEb (p:N'):D2 (aaj p) aoB (lf Vd) λb=>aai p.1 p.b.2.1 p.c b.1.1 b.2.1 b.b.1 b.b.2.1 b.c.1 b.c.2.1 b.c.b.1 b.c.b.2.1 b.d.1 b.d.2.1 b.d.b.1 b.d.b.2 b.1.2:=λb=>by kernel_rfl
abbrev aak:N':=(dI,j9,cX,jl,QO)
theorem aEc [ax]:SC (aoD Gq):=sc (Sound.nil 1 [.i .i64,.i .i64,.i .i64,.i .i64,.i .i64,.i .i64,.i .i64,.i .i64,.i .i64,.i .i64]<|kS (k:=aaj aak) (.c tx (.c IM (.c nE (.c Mz (.nil _))))) [4] [] ⟨kL (avN aak),trivial⟩ trivial (aEb aak))
def atl:=qa (pr (cu aP (c jS (c xX wY))) bB)
def aal:=qe (res (pr (pw (c ac6 (c aic (cl (ra (c gi (c gi (c gi (cl gi (cu aT (cu aT (cu aT (cu aT (cu aT (cu aT (cu (gc auz) nil)))))))))))) nil)))) (pl kZ nil)))
abbrev atm:=aal.B
abbrev atn:=NI->NI->NI->Int->Int->Bool->Option atm
def ato (g:atn):Ct:=(192,FC atl (lf aal) (λb=>g b.1.1 b.1.2.1.1 b.1.2.1.2 b.1.b.1 b.1.b.2 b.2))
def aeZ (aN:eL)(bV:kO)(KE:ajQ)(bh:dz)(eu:wj)(bq:gQ)(cH:w9)(bO:fw)(x0:Nat->Int)(x1:Nat->Int)(x2:Nat->Int)(x3:Int)(x4:Int)(x5:Bool):Pg atm:=opt (aN x0 x5) λd=>opt bV λaj=>opt (KE x3 d.2) λaF=>opt (bh d.1) λbx=>opt (eu aF.1.1 aF.1.2.1 aF.1.2.2.1 aF.1.2.2.2 bx.1 bx.2.1 bx.2.2.1 bx.2.2.2 aF.2) λcv=>opt (bq cv.1.1 cv.1.2.1 cv.1.2.2.1 cv.1.2.2.2 cv.2) λdN=>opt (cH d.1 0 4 (cr dN.1.1 [dN.1.2.2.2,dN.1.2.2.1,dN.1.2.1,dN.1.1]) false) λd=>opt (aN d dN.2) λd=>opt (bO x1 x2 0 4 d.2 (cr x4 [x4,x4,x4,x4]) true) λcL=>ret ((d.1,cL.1,aF.1),cL.2)
def KF:=λx0 x1 x2 x3 x4 x5=>(aeZ bX dI Dk bZ j9 cX fN cQ x0 x1 x2 x3 x4 x5).val
theorem aHu:∀aN bV KE bh eu bq cH bO,D0 [ir aN,o7 bV,ajR KE,iF bh,Dl eu,mi bq,BO cH,yA bO] 192 atl (lf aal) λb=>aeZ aN bV KE bh eu bq cH bO b.1.1 b.1.2.1.1 b.1.2.1.2 b.1.b.1 b.1.b.2 b.2:=λ_ _ _ _ _ _ _ _ b=>by kernel_rfl
theorem aHv [ax]:SC (ato KF):=s0 (.c jf (.c tx (.c aCq (.c jx (.c IM (.c nE (.c Gm (.c Dn (.nil _))))))))) (aHu bX dI Dk bZ j9 cX fN cQ)
def akx:=qa (dp (cu aP (c jS aLh)) λa=>(c uN (cl (cl (gs a.b.1 mE) nil) nil)))
def azv:=qe (res (pr (pw (c ac6 (cl (rc (dG (pu rq4 (pu xW (pl eS (pu A9 ek)))))) nil))) (pr L0 (cl aF9 nil))))
abbrev Ve:=((NI×Nat)×Bool×NI)
def aky:Ve->T:=λd=>lf azv (d.1,d.2.1,d.1.2,d.b)
abbrev KG:=NI->Int->Nat->Bool->NI->Bool->Option Ve
def KH (g:KG):Ct:=(250,sQ 3 [.i .i64] (FC akx aky (λb=>g b.1.1 b.1.2.1 b.1.b.1 b.2.1 b.b b.1.b.2)))
def jz:=qs (st (dp (cu aP (us 1 (c ai (us 2 (cu Cr (us 2 (cu afW (us 1 (cu ane (c aRt (us 3 (c F' (c ai (cl ai (us 39 nil))))))))))))))) λa=>(pl (c ck (c (so (cl (gs a.b.1.1 mE) nil)) (c mx (c mx (c mx (cl (so (cl (gs a.2.1 mE) nil)) nil)))))) cB)))
def avO:=qs (st (pr (cu aP (us 1 (c ai (us 2 (cu Cr (us 2 (cu afW (us 1 (cu ane (c aRt (us 3 (c F' (c ai (c ai aQv)))))))))))))) (pl (c ck (c HE (c mx (c mx (c mx aib))))) cB)))
abbrev tz:=((Int×Nat×(Nat×Bool)×Int×Int×Bool)×Bool×NI×NI×NI×Bk×NI)
def abQ {ρ:Type}(x:tz)(K:AX->St->Option ρ):Option ρ:=(λd=>K (.ex 0) (avO.em (d.1,d.2.1,(d.1.b.1.1,d.b.1),d.b.2.1,d.c.1,d.c.2.1,d.1.2.1,d.c.b))) x
def MR (aE:bT)(aW:cR)(d:jz.B):PL jz tz:=let n2:=d.2.2.2;let n1:=d.1.2.2;let n3:=n1.2.2;let y0:=d.1.2.1+1;let y1:=wI (d.1.1+n3);let y2:=Int.toNat y1;let y3:=aX y1 24;let y4:=decide (n3<n1.2.1);ae y4 (ae (aX n3 n1.1.1) (ae y3 (ae y3 (opt (aE (d.2.2.1 (Int.toNat n3)) (wI (0-n2.2.2.1 y2)) (n2.2.2.1 y2) d.2.1) λaj=>ae y3 (opt (aW aj.1 (n2.1 y2) aj.2) λaF=>ae (Nat.ble (y0*8) 140737488355328) (ae y3 (ae (true&&Nat.ble (0+y2*1+1) 24) (ret (Sum.inl ((d.1.1,y0,n1.1,n1.2.1,wI (n3+1)),aF.2,d.2.2.1,λj=>bif Nat.beq j y2 then aj.1 else n2.1 j,n2.2.1,n2.2.2.1,λj=>bif Nat.beq j d.1.2.1 then aF.1 else n2.2.2.2 j))) no) no) no) no) no) no) no) (ret (Sum.inr ((d.1.1,d.1.2.1,n1.1,n1.2.1,n3,y4),d.2)))
def MS:=bD (MR bc bJ) 2000
def Vf (QB:Bl)(aN:eL)(dA:LT jz tz)(x0:Nat->Int)(x1:Int)(x2:Nat)(x3:Bool)(x4:Nat->Int)(w0:Bool):Pg Ve:=opt QB λd=>ae (Nat.beq x2 x2) (ae true (opt (dA ((x1,0,(x2,w0),Int.ofNat x2,0),x3,x4,x0,λx=>0,d,λx=>0)) λd=>opt (aN d.2.2.2.1 d.2.1) λaj=>ret ((aj.1,d.1.2.1),aj.2,d.2.2.2.2.2.2)) no) no
def iX:=λx0 x1 x2 x3 x4 w0=>(Vf rB bX MS x0 x1 x2 x3 x4 w0).val
abbrev KI:=Bl×bT×cR×eL×(LT jz tz)
def Vg (p:KI):KK:=⟨[Qy p.1,du p.2.1,gD p.b.1,ir p.b.2.1],⟨[⟨4,(1::3::4::6::7::9::12::13::14::rg 18 39 []),[(11,[.i .i64])]⟩],[fg 4 2 jz abQ p.c],[0],[],(some ⟨0,(rg 0 8 (rg 10 47 [])),[]⟩)⟩,2,250⟩
theorem atp (p:KI):LI (Vg p) 4 jz abQ (MR p.2.1 p.b.1):=λ_ d c K=>by kernel_rfl
theorem aCL (p:KI):D2 (Vg p) akx aky λb=>Vf p.1 p.b.2.1 p.c b.1.1 b.1.2.1 b.1.b.1 b.2.1 b.b b.1.b.2:=λb=>by kernel_rfl
abbrev Vh:KI:=(rB,bc,bJ,bX,MS)
theorem Vi [ax]:SC (KH iX):=sc (Sound.nil 3 [.i .i64]<|kS (k:=Vg Vh) (.c agy (.c dO (.c il (.c jf (.nil _))))) [4] [] ⟨kL (atp Vh),trivial⟩ trivial (aCL Vh))
def akz:=qa (pr (cu (app 0 2) wY) (cd (c (gc (wX 1 1)) (cl (gc (wX 2 1)) nil)) λb0=>(c (cl (gs b0.1 mE) nil) (cl (cl (gs b0.2 mE) nil) nil))))
def azw:=qe (res (pu Th (pr (cl (zC (c (gc (wX 3 1)) (cl (gc (wX 4 1)) nil))) (cu Ti aIq)) (c aF9 (cl aF9 nil)))))
abbrev Vj:=((Nat×Nat)×NI×NI)
def akA:Vj->T:=λd=>lf azw (d.1,(d.1.1,d.2.1),d.1.2,d.b)
abbrev Vk:=Int->Int->Nat->Nat->NI->NI->Option Vj
def akB (g:Vk):Ct:=(226,FC akz akA (λb=>g b.1.1 b.1.2 b.2.1.1 b.2.1.2 b.b.1 b.b.2))
def Vl (x0:Int)(x1:Int)(x2:Nat)(x3:Nat)(x4:Nat->Int)(x5:Nat->Int):Pg Vj:=let y0:=x2+2;let y1:=x3+2;ae (Nat.ble (y0*8) 140737488355328) (ae (Nat.ble (y1*8) 140737488355328) (ret ((y0,y1),λj=>bif Nat.beq j (x2+1) then x0 else bif Nat.beq j x2 then x0 else x4 j,λj=>bif Nat.beq j (x3+1) then x1 else bif Nat.beq j x3 then x1 else x5 j)) no) no
def lQ:=λx0 x1 x2 x3 x4 x5=>(Vl x0 x1 x2 x3 x4 x5).val
theorem aCM:D0 [] 226 akz akA λb=>Vl b.1.1 b.1.2 b.2.1.1 b.2.1.2 b.b.1 b.b.2:=λb=>by kernel_rfl
theorem aCN [ax]:SC (akB lQ):=s0 (.nil _) aCM
def aoE:=qa (pr (cu aP (c ac8 Fk)) bB)
def Vm:=qe (res (pr (aa aLM) (pl kZ nil)))
abbrev aoF:=Vm.B
abbrev Gr:=Int->Int->Int->Int->Int->Int->Int->Bool->Option aoF
def aam (g:Gr):Ct:=(189,FC aoE (lf Vm) (λb=>g b.1.1.1 b.1.1.2.1 b.1.1.b.1 b.1.1.b.2 b.1.2.1 b.1.b.1 b.1.b.2 b.2))
def aan (aw:bI)(Dm:Mt)(bf:Vk)(bj:eo)(x0:Int)(x1:Int)(x2:Int)(x3:Int)(x4:Int)(x5:Int)(x6:Int)(x7:Bool):Pg aoF:=opt (aw x0 x7) λd=>let y0:=wI (0-d.1);opt (aw x1 d.2) λaj=>let pA:=wI (0-aj.1);opt (aw x2 aj.2) λaF=>let anZ:=wI (0-aF.1);opt (aw x3 aF.2) λbx=>let XM:=wI (0-bx.1);opt (Dm x4 x5 x6 bx.2) λcv=>let n2:=cv.1.1;let n1:=cv.1.2;opt (bf d.1 n2 0 0 (λx=>0) λx=>0) λdN=>ae (Nat.beq dN.1.1 dN.1.1) (ae (Nat.beq dN.1.2 dN.1.2) (opt (bf aF.1 n1.2 dN.1.1 dN.1.2 dN.2.1 dN.2.2) λcL=>ae (Nat.beq cL.1.1 cL.1.1) (ae (Nat.beq cL.1.2 cL.1.2) (opt (bf XM n1.1 cL.1.1 cL.1.2 cL.2.1 cL.2.2) λjW=>ae (Nat.beq jW.1.1 jW.1.1) (ae (Nat.beq jW.1.2 jW.1.2) (opt (bj 30 jW.1.1 jW.1.2 cv.2 jW.2.1 jW.2.2 true true) λpF=>opt (bf pA n2 0 0 (λx=>0) λx=>0) λnx=>ae (Nat.beq nx.1.1 nx.1.1) (ae (Nat.beq nx.1.2 nx.1.2) (opt (bf aj.1 n2 nx.1.1 nx.1.2 nx.2.1 nx.2.2) λku=>ae (Nat.beq ku.1.1 ku.1.1) (ae (Nat.beq ku.1.2 ku.1.2) (opt (bf aj.1 n2 ku.1.1 ku.1.2 ku.2.1 ku.2.2) λuO=>ae (Nat.beq uO.1.1 uO.1.1) (ae (Nat.beq uO.1.2 uO.1.2) (opt (bf aF.1 n1.1 uO.1.1 uO.1.2 uO.2.1 uO.2.2) λIQ=>ae (Nat.beq IQ.1.1 IQ.1.1) (ae (Nat.beq IQ.1.2 IQ.1.2) (opt (bf bx.1 n1.2 IQ.1.1 IQ.1.2 IQ.2.1 IQ.2.2) λKg=>ae (Nat.beq Kg.1.1 Kg.1.1) (ae (Nat.beq Kg.1.2 Kg.1.2) (opt (bj 30 Kg.1.1 Kg.1.2 pF.2 Kg.2.1 Kg.2.2 true true) λaCO=>opt (bf anZ n2 0 0 (λx=>0) λx=>0) λYi=>ae (Nat.beq Yi.1.1 Yi.1.1) (ae (Nat.beq Yi.1.2 Yi.1.2) (opt (bf aj.1 n1.1 Yi.1.1 Yi.1.2 Yi.2.1 Yi.2.2) λabR=>ae (Nat.beq abR.1.1 abR.1.1) (ae (Nat.beq abR.1.2 abR.1.2) (opt (bf d.1 n1.2 abR.1.1 abR.1.2 abR.2.1 abR.2.2) λYj=>ae (Nat.beq Yj.1.1 Yj.1.1) (ae (Nat.beq Yj.1.2 Yj.1.2) (opt (bj 30 Yj.1.1 Yj.1.2 aCO.2 Yj.2.1 Yj.2.2 true true) λaCP=>opt (bf XM n2 0 0 (λx=>0) λx=>0) λakC=>ae (Nat.beq akC.1.1 akC.1.1) (ae (Nat.beq akC.1.2 akC.1.2) (opt (bf aj.1 n1.2 akC.1.1 akC.1.2 akC.2.1 akC.2.2) λaoG=>ae (Nat.beq aoG.1.1 aoG.1.1) (ae (Nat.beq aoG.1.2 aoG.1.2) (opt (bf y0 n1.1 aoG.1.1 aoG.1.2 aoG.2.1 aoG.2.2) λakD=>ae (Nat.beq akD.1.1 akD.1.1) (ae (Nat.beq akD.1.2 akD.1.2) (opt (bj 30 akD.1.1 akD.1.2 aCP.2 akD.2.1 akD.2.2 true true) λaVC=>opt (bf d.1 n1.1 0 0 (λx=>0) λx=>0) λaxS=>ae (Nat.beq axS.1.1 axS.1.1) (ae (Nat.beq axS.1.2 axS.1.2) (opt (bf bx.1 n2 axS.1.1 axS.1.2 axS.2.1 axS.2.2) λaxT=>ae (Nat.beq axT.1.1 axT.1.1) (ae (Nat.beq axT.1.2 axT.1.2) (opt (bf pA n1.2 axT.1.1 axT.1.2 axT.2.1 axT.2.2) λaxU=>ae (Nat.beq axU.1.1 axU.1.1) (ae (Nat.beq axU.1.2 axU.1.2) (opt (bj 30 axU.1.1 axU.1.2 aVC.2 axU.2.1 axU.2.2 true true) λaVD=>opt (bf pA n1.1 0 0 (λx=>0) λx=>0) λaxV=>ae (Nat.beq axV.1.1 axV.1.1) (ae (Nat.beq axV.1.2 axV.1.2) (opt (bf aF.1 n2 axV.1.1 axV.1.2 axV.2.1 axV.2.2) λaxW=>ae (Nat.beq axW.1.1 axW.1.1) (ae (Nat.beq axW.1.2 axW.1.2) (opt (bf y0 n1.2 axW.1.1 axW.1.2 axW.2.1 axW.2.2) λaxX=>ae (Nat.beq axX.1.1 axX.1.1) (ae (Nat.beq axX.1.2 axX.1.2) (opt (bj 30 axX.1.1 axX.1.2 aVD.2 axX.2.1 axX.2.2 true true) λaVE=>opt (bf anZ n1.1 0 0 (λx=>0) λx=>0) λaxY=>ae (Nat.beq axY.1.1 axY.1.1) (ae (Nat.beq axY.1.2 axY.1.2) (opt (bf aF.1 n1.1 axY.1.1 axY.1.2 axY.2.1 axY.2.2) λaxZ=>ae (Nat.beq axZ.1.1 axZ.1.1) (ae (Nat.beq axZ.1.2 axZ.1.2) (opt (bf aj.1 n2 axZ.1.1 axZ.1.2 axZ.2.1 axZ.2.2) λax0=>ae (Nat.beq ax0.1.1 ax0.1.1) (ae (Nat.beq ax0.1.2 ax0.1.2) (opt (bf aF.1 n1.1 ax0.1.1 ax0.1.2 ax0.2.1 ax0.2.2) λax1=>ae (Nat.beq ax1.1.1 ax1.1.1) (ae (Nat.beq ax1.1.2 ax1.1.2) (opt (bf bx.1 n1.2 ax1.1.1 ax1.1.2 ax1.2.1 ax1.2.2) λax2=>ae (Nat.beq ax2.1.1 ax2.1.1) (ae (Nat.beq ax2.1.2 ax2.1.2) (opt (bj 30 ax2.1.1 ax2.1.2 aVE.2 ax2.2.1 ax2.2.2 true true) λaVF=>opt (bf XM n1.1 0 0 (λx=>0) λx=>0) λax3=>ae (Nat.beq ax3.1.1 ax3.1.1) (ae (Nat.beq ax3.1.2 ax3.1.2) (opt (bf aF.1 n1.2 ax3.1.1 ax3.1.2 ax3.2.1 ax3.2.2) λax4=>ae (Nat.beq ax4.1.1 ax4.1.1) (ae (Nat.beq ax4.1.2 ax4.1.2) (opt (bf d.1 n2 ax4.1.1 ax4.1.2 ax4.2.1 ax4.2.2) λax5=>ae (Nat.beq ax5.1.1 ax5.1.1) (ae (Nat.beq ax5.1.2 ax5.1.2) (opt (bj 30 ax5.1.1 ax5.1.2 aVF.2 ax5.2.1 ax5.2.2 true true) λaVG=>opt (bf d.1 n1.2 0 0 (λx=>0) λx=>0) λax6=>ae (Nat.beq ax6.1.1 ax6.1.1) (ae (Nat.beq ax6.1.2 ax6.1.2) (opt (bf aj.1 n1.1 ax6.1.1 ax6.1.2 ax6.2.1 ax6.2.2) λax7=>ae (Nat.beq ax7.1.1 ax7.1.1) (ae (Nat.beq ax7.1.2 ax7.1.2) (opt (bf anZ n2 ax7.1.1 ax7.1.2 ax7.2.1 ax7.2.2) λax8=>ae (Nat.beq ax8.1.1 ax8.1.1) (ae (Nat.beq ax8.1.2 ax8.1.2) (opt (bj 30 ax8.1.1 ax8.1.2 aVG.2 ax8.2.1 ax8.2.2 true true) λaVH=>opt (bf pA n1.2 0 0 (λx=>0) λx=>0) λax9=>ae (Nat.beq ax9.1.1 ax9.1.1) (ae (Nat.beq ax9.1.2 ax9.1.2) (opt (bf bx.1 n2 ax9.1.1 ax9.1.2 ax9.2.1 ax9.2.2) λaya=>ae (Nat.beq aya.1.1 aya.1.1) (ae (Nat.beq aya.1.2 aya.1.2) (opt (bf d.1 n1.1 aya.1.1 aya.1.2 aya.2.1 aya.2.2) λd=>ae (Nat.beq d.1.1 d.1.1) (ae (Nat.beq d.1.2 d.1.2) (opt (bj 30 d.1.1 d.1.2 aVH.2 d.2.1 d.2.2 true true) λd=>opt (bf anZ n1.2 0 0 (λx=>0) λx=>0) λayb=>ae (Nat.beq ayb.1.1 ayb.1.1) (ae (Nat.beq ayb.1.2 ayb.1.2) (opt (bf bx.1 n1.1 ayb.1.1 ayb.1.2 ayb.2.1 ayb.2.2) λayc=>ae (Nat.beq ayc.1.1 ayc.1.1) (ae (Nat.beq ayc.1.2 ayc.1.2) (opt (bf y0 n2 ayc.1.1 ayc.1.2 ayc.2.1 ayc.2.2) λayd=>ae (Nat.beq ayd.1.1 ayd.1.1) (ae (Nat.beq ayd.1.2 ayd.1.2) (opt (bj 30 ayd.1.1 ayd.1.2 d.2 ayd.2.1 ayd.2.2 true true) λaVI=>opt (bf XM n1.2 0 0 (λx=>0) λx=>0) λaye=>ae (Nat.beq aye.1.1 aye.1.1) (ae (Nat.beq aye.1.2 aye.1.2) (opt (bf bx.1 n1.2 aye.1.1 aye.1.2 aye.2.1 aye.2.2) λayf=>ae (Nat.beq ayf.1.1 ayf.1.1) (ae (Nat.beq ayf.1.2 ayf.1.2) (opt (bf aj.1 n2 ayf.1.1 ayf.1.2 ayf.2.1 ayf.2.2) λayg=>ae (Nat.beq ayg.1.1 ayg.1.1) (ae (Nat.beq ayg.1.2 ayg.1.2) (opt (bf aF.1 n1.1 ayg.1.1 ayg.1.2 ayg.2.1 ayg.2.2) λayh=>ae (Nat.beq ayh.1.1 ayh.1.1) (ae (Nat.beq ayh.1.2 ayh.1.2) (opt (bf bx.1 n1.2 ayh.1.1 ayh.1.2 ayh.2.1 ayh.2.2) λayi=>ae (Nat.beq ayi.1.1 ayi.1.1) (ae (Nat.beq ayi.1.2 ayi.1.2) (opt (bj 30 ayi.1.1 ayi.1.2 aVI.2 ayi.2.1 ayi.2.2 true true) λaVJ=>ret ((pF.1,aCO.1,aCP.1,aVC.1,aVD.1,aVE.1,aVF.1,aVG.1,aVH.1,d.1,aVI.1,aVJ.1),aVJ.2)) no) no) no) no) no) no) no) no) no) no) no) no) no) no) no) no) no) no) no) no) no) no) no) no) no) no) no) no) no) no) no) no) no) no) no) no) no) no) no) no) no) no) no) no) no) no) no) no) no) no) no) no) no) no) no) no) no) no) no) no) no) no) no) no) no) no) no) no) no) no) no) no) no) no) no) no) no) no) no) no) no) no) no) no
def xg:=λx0 x1 x2 x3 x4 x5 x6 x7=>(aan aQ zN lQ br x0 x1 x2 x3 x4 x5 x6 x7).val
abbrev aao:=bI×Mt×Vk×eo
def aoH (p:aao):KK:=⟨[cW p.1,aeg p.2.1,akB p.b.1,lP p.b.2],⟨[⟨2,(1::2::3::rg 7 10 (rg 18 124 [])),[]⟩,⟨10,(1::2::3::7::rg 10 24 (rg 35 107 [])),[]⟩,⟨19,(1::2::3::7::rg 11 23 (rg 35 38 (rg 74 68 []))),[]⟩,⟨28,(1::2::3::7::11::12::13::rg 16 18 (rg 35 38 (rg 74 29 (rg 104 38 [])))),[]⟩],[],[],[],(some ⟨0,(rg 0 6 (rg 7 135 [])),[]⟩)⟩,0,189⟩
theorem aEd (p:aao):D2 (aoH p) aoE (lf Vm) λb=>aan p.1 p.2.1 p.b.1 p.b.2 b.1.1.1 b.1.1.2.1 b.1.1.b.1 b.1.1.b.2 b.1.2.1 b.1.b.1 b.1.b.2 b.2:=λb=>by kernel_rfl
abbrev aoI:aao:=(aQ,zN,lQ,br)
theorem aoJ [ax]:SC (aam xg):=sc (kS (k:=aoH aoI) (.c c7 (.c aqc (.c aCN (.c np (.nil _))))) [2,10,19,28] [] ⟨kN,⟨kN,⟨kN,⟨kN,trivial⟩⟩⟩⟩ trivial (aEd aoI))
def aoK:=qa (pl B4 nil)
def Vn:=qe aQ8
abbrev aoL:=Vn.B
abbrev Gs:=Int->Int->Int->Int->Int->Int->Int->Int->Int->Option aoL
def aap (g:Gs):Ct:=(154,FC aoK (lf Vn) (λb=>g b.1 b.2.1 b.b.1 b.b.2.1 b.c.1 b.c.2.1 b.c.b.1 b.c.b.2.1 b.d))
def aaq (x0:Int)(x1:Int)(x2:Int)(x3:Int)(x4:Int)(x5:Int)(x6:Int)(x7:Int)(x8:Int):Pg aoL:=ret (x1,x2,x3)
def xi:=λx0 x1 x2 x3 x4 x5 x6 x7 x8=>(aaq x0 x1 x2 x3 x4 x5 x6 x7 x8).val
theorem aEe:D0 [] 154 aoK (lf Vn) λb=>aaq b.1 b.2.1 b.b.1 b.b.2.1 b.c.1 b.c.2.1 b.c.b.1 b.c.b.2.1 b.d:=λb=>by kernel_rfl
theorem aoM [ax]:SC (aap xi):=s0 (.nil _) aEe
def aoN:=qa (pl Fk nil)
def Vo:=qe B3
abbrev aar:=Vo.B
abbrev sX:=Int->Int->Int->Option aar
def xj (g:sX):Ct:=(62,FC aoN (lf Vo) (λb=>g b.1 b.2.1 b.b))
def Gu (x0:Int)(x1:Int)(x2:Int):Pg aar:=ae (decide (x0>= -900000000)) (ae (decide (x0<=900000000)) (ae (decide (x1>= -1800000000)) (ae (decide (x1<=1800000000)) (ae (decide (x2>= -100000000)) (ret (decide (x2<=100000000))) (ret false)) (ret false)) (ret false)) (ret false)) (ret false)
def fO:=λx0 x1 x2=>(Gu x0 x1 x2).val
theorem aEf:D0 [] 62 aoN (lf Vo) λb=>Gu b.1 b.2.1 b.b:=λb=>by kernel_rfl
theorem BV [ax]:SC (xj fO):=s0 (.nil _) aEf
def atq:=qa (pl B4 nil)
def aas:=qe B3
abbrev atr:=aas.B
abbrev ae0:=Int->Int->Int->Int->Int->Int->Int->Int->Int->Option atr
def ats (g:ae0):Ct:=(153,FC atq (lf aas) (λb=>g b.1 b.2.1 b.b.1 b.b.2.1 b.c.1 b.c.2.1 b.c.b.1 b.c.b.2.1 b.d))
def ae1 (aat:Gs)(cA:sX)(x0:Int)(x1:Int)(x2:Int)(x3:Int)(x4:Int)(x5:Int)(x6:Int)(x7:Int)(x8:Int):Pg atr:=ae (decide (x4< -1000000)) (ret false) (ae (decide (x4>1000000)) (ret false) (ae (decide (x5< -1000000)) (ret false) (ae (decide (x5>1000000)) (ret false) (ae (decide (x6< -1000000)) (ret false) (ae (decide (x6>1000000)) (ret false) (ae (decide (x7<1)) (ret false) (ae (decide (x7>1000000)) (ret false) (ae (decide (x8<1)) (ret false) (ae (decide (x8>1000000)) (ret false) (opt (aat x0 x1 x2 x3 x4 x5 x6 x7 x8) λd=>opt (cA d.1 d.2.1 d.2.2) λd=>ret d))))))))))
def KJ:=λx0 x1 x2 x3 x4 x5 x6 x7 x8=>(ae1 xi fO x0 x1 x2 x3 x4 x5 x6 x7 x8).val
abbrev ae2:=Gs×sX
def att (p:ae2):KK:=⟨[aap p.1,xj p.2],⟨[⟨2,(0::rg 3 5 (rg 11 6 (rg 19 12 (rg 33 5 [])))),[]⟩,⟨8,(0::rg 3 19 (rg 25 6 (rg 33 5 []))),[]⟩],[],[],[],(some ⟨0,(0::1::rg 3 35 []),[]⟩)⟩,0,153⟩
theorem aHw (p:ae2):D2 (att p) atq (lf aas) λb=>ae1 p.1 p.2 b.1 b.2.1 b.b.1 b.b.2.1 b.c.1 b.c.2.1 b.c.b.1 b.c.b.2.1 b.d:=λb=>by kernel_rfl
abbrev atu:ae2:=(xi,fO)
theorem aHx [ax]:SC (ats KJ):=sc (kS (k:=att atu) (.c aoM (.c BV (.nil _))) [2,8] [] ⟨kN,⟨kN,trivial⟩⟩ trivial (aHw atu))
def abS:=qa (pl fU nil)
def KL:=qe Fi
abbrev abT:=KL.B
abbrev MT:=Int->Option abT
def abU (g:MT):Ct:=(155,FC abS (lf KL) (λb=>g b))
def MU (aq:bY)(aE:bT)(x0:Int):Pg abT:=opt (aq (wI (x0*x0)) 17592186044416 1000000 false) λd=>opt (aE d.1 1 72057594037927936 d.2) λd=>ret d.1
def yF:=λx0=>(MU aU bc x0).val
theorem avP:∀aq aE,D0 [cV aq,du aE] 155 abS (lf KL) λb=>MU aq aE b:=λ_ _ b=>by kernel_rfl
theorem avQ [ax]:SC (abU yF):=s0 (.c c9 (.c dO (.nil _))) (avP aU bc)
def atv:=qa (pr (cu aP B4) bB)
def aau:=qe (res (pr (pw (c (ra auI) ars)) (pl kZ nil)))
abbrev atw:=aau.B
abbrev ae3:=Int->Int->Int->Int->Int->Int->Int->Int->Int->Bool->Option atw
def ae4 (g:ae3):Ct:=(88,FC atv (lf aau) (λb=>g b.1.1 b.1.2.1 b.1.b.1 b.1.b.2.1 b.1.c.1 b.1.c.2.1 b.1.c.b.1 b.1.c.b.2.1 b.1.d b.2))
def ae5 (aHy:ae0)(aat:Gs)(abV:MT)(aq:bY)(x0:Int)(x1:Int)(x2:Int)(x3:Int)(x4:Int)(x5:Int)(x6:Int)(x7:Int)(x8:Int)(x9:Bool):Pg atw:=opt (aHy x0 x1 x2 x3 x4 x5 x6 x7 x8) λd=>ae (!d) (ret (((0,0,0,0,0,0,0,0),1),x9)) (opt (aat x0 x1 x2 x3 x4 x5 x6 x7 x8) λd=>opt (abV x7) λaj=>opt (abV x8) λaF=>opt (aq x4 1073741824 1000 x9) λbx=>opt (aq x5 1073741824 1000 bx.2) λcv=>opt (aq x6 1073741824 1000 cv.2) λdN=>ret (((d.1,d.2.1,d.2.2,bx.1,cv.1,dN.1,aj,aF),0),dN.2))
def An:=λx0 x1 x2 x3 x4 x5 x6 x7 x8 x9=>(ae5 KJ xi yF aU x0 x1 x2 x3 x4 x5 x6 x7 x8 x9).val
abbrev ae6:=ae0×Gs×MT×bY
def atx (p:ae6):KK:=⟨[ats p.1,aap p.2.1,abU p.b.1,cV p.b.2],⟨[⟨5,(1::2::5::rg 7 16 (rg 24 14 [])),[]⟩],[],[0],[],(some ⟨0,(rg 0 4 (rg 6 32 [])),[]⟩)⟩,0,88⟩
theorem aHz (p:ae6):D2 (atx p) atv (lf aau) λb=>ae5 p.1 p.2.1 p.b.1 p.b.2 b.1.1 b.1.2.1 b.1.b.1 b.1.b.2.1 b.1.c.1 b.1.c.2.1 b.1.c.b.1 b.1.c.b.2.1 b.1.d b.2:=λb=>by kernel_rfl
abbrev aty:ae6:=(KJ,xi,yF,aU)
theorem atz [ax]:SC (ae4 An):=sc (kS (k:=atx aty) (.c aHx (.c aoM (.c avQ (.c c9 (.nil _))))) [5] [] ⟨kN,trivial⟩ trivial (aHz aty))
def agI:=qa (dp (cl Tl nil) λa=>(cl (cl (gs a.1 mE) nil) nil))
def MV:=qe aRf
abbrev agJ:=MV.B
abbrev QP:=Nat->NI->Bool->Option agJ
def QQ (g:QP):Ct:=(202,sQ 0 [.i .i64] (FC agI (lf MV) (λb=>g b.1.1 b.2 b.1.2)))
def iK:=qs (st (dp (us 2 (cu RF (cu Cr (us 2 (c Tl (c ai aFW)))))) λa=>(pl (c (so (cl (gs a.1.1 mE) nil)) L4) nil)))
def atA:=qs (st (pr (us 2 (cu RF (cu Cr (us 2 (c Tl (c ai aF1)))))) (pl (c HE L4) nil)))
abbrev qZ:=(aIj×NI×NI×NI)
def Yk {ρ:Type}(x:qZ)(K:AX->St->Option ρ):Option ρ:=(λd=>K (.ex 0) (atA.em (d.1,(d.1.1.1,d.2.1),d.b))) x
def KM (d:iK.B):PL iK qZ:=let n3:=d.2.1;let n2:=d.1.2.2;let n1:=(d.1.1,d.1.2.1,wI (n2+1));let y0:=Int.toNat (n3 (Int.toNat n2));let y1:=decide (n2<d.1.2.1);ae y1 (ae (aX n2 d.1.1.1) (ae (decide (n3 (Int.toNat n2)>=0)) (ae (decide (n3 (Int.toNat n2)<24)) (ae (aX (n3 (Int.toNat n2)) 24) (ae (true&&Nat.ble (0+y0*1+1) 24) (ret (Sum.inl (n1,n3,d.2.2.1,λj=>bif Nat.beq j y0 then 1073741824 else d.2.2.2 j))) no) no) (ret (Sum.inl (n1,d.2)))) (ret (Sum.inl (n1,d.2)))) no) (ret (Sum.inr ((d.1.1,d.1.2.1,n2,y1),d.2)))
def KN:=bD (KM) 2000
def QR (dA:LT iK qZ)(x0:Nat)(x1:Nat->Int)(w0:Bool):Pg agJ:=ae (Nat.beq x0 x0) (opt (dA (((x0,w0),Int.ofNat x0,0),x1,λx=>0,λx=>0)) λd=>ret d.2.2.2) no
def oo:=λx0 x1 w0=>(QR KN x0 x1 w0).val
abbrev Hp:=(LT iK qZ)
def QS (p:Hp):KK:=⟨[],⟨[⟨3,(0::1::4::5::rg 9 6 (rg 17 5 [15,16])),[]⟩],[fg 3 1 iK Yk p],[],[],(some ⟨0,(0::1::rg 3 19 []),[]⟩)⟩,1,202⟩
theorem aqy (p:Hp):LI (QS p) 3 iK Yk (KM):=λ_ d c K=>by kernel_rfl
theorem azx (p:Hp):D2 (QS p) agI (lf MV) λb=>QR p b.1.1 b.2 b.1.2:=λb=>by kernel_rfl
abbrev QT:Hp:=KN
theorem agK [ax]:SC (QQ oo):=sc (Sound.nil 0 [.i .i64]<|kS (k:=QS QT) (.nil _) [3] [] ⟨kL (aqy QT),trivial⟩ trivial (azx QT))
def abW:=qa (pr (cu aP (c jS (c ai C4))) bB)
def KO:=qe aRA
abbrev abX:=KO.B
abbrev tC:=NI->Int->Int->Int->Int->Bool->Option abX
def EN (g:tC):Ct:=(234,FC abW (lf KO) (λb=>g b.1.1 b.1.2.1 b.1.b.1 b.1.b.2.1 b.1.c b.2))
def MW (mq:QP)(aW:cR)(x0:Nat->Int)(x1:Int)(x2:Int)(x3:Int)(x4:Int)(x5:Bool):Pg abX:=opt (mq 1 (λj=>bif Nat.beq j 0 then x1 else x1) true) λd=>ae (aX x1 24) (opt (aW x2 (x0 (Int.toNat x1)) x5) λaj=>ret ((d,aj.1,x3,x4),aj.2)) no
def dJ:=λx0 x1 x2 x3 x4 x5=>(MW oo bJ x0 x1 x2 x3 x4 x5).val
theorem avR:∀mq aW,D0 [QQ mq,gD aW] 234 abW (lf KO) λb=>MW mq aW b.1.1 b.1.2.1 b.1.b.1 b.1.b.2.1 b.1.c b.2:=λ_ _ b=>by kernel_rfl
theorem MX [ax]:SC (EN dJ):=s0 (.c agK (.c il (.nil _))) (avR oo bJ)
def abY:=qa (pr (cu aP (c jS (c aGi fU))) bB)
def KP:=qe aR7
abbrev abZ:=KP.B
abbrev ab0:=NI->Int->Int->Int->Int->Int->Int->Int->Int->Int->Bool->Option abZ
def ab1 (g:ab0):Ct:=(196,FC abY (lf KP) (λb=>g b.1.1 b.1.2.1.1.1 b.1.2.1.1.2.1 b.1.2.1.1.b b.1.2.1.2.1.1 b.1.2.1.2.1.2.1 b.1.2.1.2.1.b b.1.2.1.b.1 b.1.2.1.b.2 b.1.b b.2))
def MY (ia:tC)(x0:Nat->Int)(x1:Int)(x2:Int)(x3:Int)(x4:Int)(x5:Int)(x6:Int)(x7:Int)(x8:Int)(x9:Int)(fQ:Bool):Pg abZ:=opt (ia x0 4 x4 x8 x9 fQ) λd=>opt (ia x0 5 x5 x8 x9 d.2) λaj=>opt (ia x0 6 x6 x8 x9 aj.2) λaF=>ret (aF.2,d.1.1,d.1.2.1,d.1.2.2.1,d.1.2.2.2,aj.1.1,aj.1.2.1,aj.1.2.2.1,aj.1.2.2.2,aF.1)
def yG:=λx0 x1 x2 x3 x4 x5 x6 x7 x8 x9 fQ=>(MY dJ x0 x1 x2 x3 x4 x5 x6 x7 x8 x9 fQ).val
abbrev MZ:=tC
def ab2 (p:MZ):KK:=⟨[EN p],⟨[⟨3,(1::2::4::7::8::10::11::12::rg 15 17 []),[]⟩],[],[],[],(some ⟨0,(rg 0 8 (rg 9 23 [])),[]⟩)⟩,0,196⟩
theorem avS (p:MZ):D2 (ab2 p) abY (lf KP) λb=>MY p b.1.1 b.1.2.1.1.1 b.1.2.1.1.2.1 b.1.2.1.1.b b.1.2.1.2.1.1 b.1.2.1.2.1.2.1 b.1.2.1.2.1.b b.1.2.1.b.1 b.1.2.1.b.2 b.1.b b.2:=λb=>by kernel_rfl
abbrev ab3:MZ:=dJ
theorem avT [ax]:SC (ab1 yG):=sc (kS (k:=ab2 ab3) (.c MX (.nil _)) [3] [] ⟨kN,trivial⟩ trivial (avS ab3))
def Yl:=qa (pr (cu (app 0 5) (cu Ou Fk)) (c jT bB))
def HT:=qe (res (pr aRa (pl (cu eW kZ) nil)))
abbrev Ym:=HT.B
abbrev wz:=Int->Int->Int->Int->Int->Int->Int->Int->Bool->Option Ym
def CF (g:wz):Ct:=(230,FC Yl (lf HT) (λb=>g b.1.1 b.1.2.1 b.1.b b.2.1.1.1 b.2.1.1.2.1 b.2.1.1.b b.2.1.2.1 b.2.1.b b.b))
def KQ (cA:sX)(aB:bN)(aq:bY)(x0:Int)(x1:Int)(x2:Int)(x3:Int)(x4:Int)(x5:Int)(x6:Int)(x7:Int)(x8:Bool):Pg Ym:=let y0:=wI (x1-x4);opt (cA x0 x1 x2) λd=>ae (!d) (ret (((0,0,0),1),x8)) (ae (decide (y0>1800000000)) (opt (aB (wI (x0-x3)) x6 10 x8) λd=>opt (aB (wI (y0-3600000000)) x7 10 d.2) λaj=>opt (aq (wI (x5-x2)) 1073741824 1000 aj.2) λaF=>ret (((d.1,aj.1,aF.1),0),aF.2)) (ae (decide (y0<= -1800000000)) (opt (aB (wI (x0-x3)) x6 10 x8) λd=>opt (aB (wI (y0+3600000000)) x7 10 d.2) λaj=>opt (aq (wI (x5-x2)) 1073741824 1000 aj.2) λaF=>ret (((d.1,aj.1,aF.1),0),aF.2)) (opt (aB (wI (x0-x3)) x6 10 x8) λd=>opt (aB y0 x7 10 d.2) λaj=>opt (aq (wI (x5-x2)) 1073741824 1000 aj.2) λaF=>ret (((d.1,aj.1,aF.1),0),aF.2))))
def jA:=λx0 x1 x2 x3 x4 x5 x6 x7 x8=>(KQ fO aV aU x0 x1 x2 x3 x4 x5 x6 x7 x8).val
theorem atB:∀cA aB aq,D1 [xj cA,eJ aB,cV aq] [1] 230 Yl (lf HT) λb=>KQ cA aB aq b.1.1 b.1.2.1 b.1.b b.2.1.1.1 b.2.1.1.2.1 b.2.1.1.b b.2.1.2.1 b.2.1.b b.b:=λ_ _ _ b=>by kernel_rfl
theorem KR [ax]:SC (CF jA):=s0 (.c BV (.c eZ (.c c9 (.nil _)))) (atB fO aV aU)
def tQ:=qa (pr (cu aP (c jS (c aGi (cu (app 1 5) fU)))) (c uN (cl jT nil)))
def LG:=qe (res (pr aQW (pl L0 nil)))
def LH:=qe (res (pu (pw (cu (rc (dG (pu rq4 (pu xW (pu (szl rq4) (pu (nat 27) ek)))))) aia)) (pr L0 (cl aLN nil))))
abbrev HU:=LG.B⊕LH.B
def Vp:HU->T:=ls (lf LG) (lf LH)
abbrev Vq:=tQ.B->Option HU
def Vr (g:Vq):Ct:=(197,FC tQ Vp g)
def HV (gv:wz)(ia:tC)(x:tQ.B):Pg HU:=opt (gv x.1.2.1.1.1 x.1.2.1.1.2.1 x.1.2.1.1.2.2 x.2.2.1.1 x.2.2.1.2.1 x.2.2.1.2.2 x.2.2.2.1 x.2.2.2.2 x.2.1) λd=>ae (d.1.2!=0) (ret (Sum.inl (d.1.2,d.2))) (opt (ia x.1.1 7 d.1.1.1 x.1.2.1.2.2.1 x.1.2.2 d.2) λaj=>opt (ia x.1.1 8 d.1.1.2.1 x.1.2.1.2.2.1 x.1.2.2 aj.2) λd=>ret (Sum.inr (d.2,aj.1.1,aj.1.2.1,aj.1.2.2.1,aj.1.2.2.2,d.1)))
def tT:=λx=>(HV jA dJ x).val
abbrev HW:=wz×tC
def Vs (p:HW):KK:=⟨[CF p.1,EN p.2],⟨[⟨6,(1::2::3::5::rg 8 6 (rg 15 13 (rg 31 18 []))),[]⟩],[],[],[],(some ⟨0,(rg 0 10 (rg 12 37 [])),[]⟩)⟩,0,197⟩
theorem aqz (p:HW):D2 (Vs p) tQ Vp λb=>HV p.1 p.2 b:=λb=>by kernel_rfl
abbrev Vt:HW:=(jA,dJ)
theorem aqA [ax]:SC (Vr tT):=sc (kS (k:=Vs Vt) (.c KR (.c MX (.nil _))) [6] [] ⟨kN,trivial⟩ trivial (aqz Vt))
def Ds:=qa (pr (cu aP (c jS (c aGi (cu (app 1 5) fU)))) (c uN (cl jT nil)))
def QU:=qe (res (pr aRx (pl L0 nil)))
abbrev akE:=QU.B
abbrev akF:=Ds.B->Option akE
def akG (g:akF):Ct:=(198,FC Ds (lf QU) g)
def Vu (gv:wz)(bW:eK)(aE:bT)(ia:tC)(x:Ds.B):Pg akE:=let n3:=x.2.2;let n2:=x.1.2.1;let n1:=n2.2.2.1;opt (gv n2.1.1 n2.1.2.1 n2.1.2.2 n3.1.1 n3.1.2.1 n3.1.2.2 n3.2.1 n3.2.2 x.2.1) λd=>ae (d.1.2!=0) (ret (((λx=>0,0,0,0),d.1.2),d.2)) (opt (bW 4 false (cr n1 [n1,n1,n1,n1]) true) λaj=>opt (aE aj.1 1 72057594037927936 aj.2) λaF=>opt (ia x.1.1 9 d.1.1.2.2 aF.1 x.1.2.2 d.2) λd=>ret ((d.1,0),d.2))
def Dt:=λx=>(Vu jA cG bc dJ x).val
theorem aCQ:∀gv bW aE ia,D0 [CF gv,nm bW,du aE,EN ia] 198 Ds (lf QU) λb=>Vu gv bW aE ia b:=λ_ _ _ _ b=>by kernel_rfl
theorem aCR [ax]:SC (akG Dt):=s0 (.c KR (.c pE (.c dO (.c MX (.nil _))))) (aCQ jA cG bc dJ)
def Vv:=qa (pl fU nil)
def FB:=qe Fi
abbrev Vx:=FB.B
abbrev Vy:=Int->Option Vx
def Vz (g:Vy):Ct:=(214,FC Vv (lf FB) (λb=>g b))
def HX (aq:bY)(aE:bT)(x0:Int):Pg Vx:=opt (aq (wI (x0*x0)) 17592186044416 1000000 false) λd=>opt (aE d.1 1 72057594037927936 d.2) λd=>ret d.1
def tU:=λx0=>(HX aU bc x0).val
theorem aqB:∀aq aE,D0 [cV aq,du aE] 214 Vv (lf FB) λb=>HX aq aE b:=λ_ _ b=>by kernel_rfl
theorem aqC [ax]:SC (Vz tU):=s0 (.c c9 (.c dO (.nil _))) (aqB aU bc)
def akH:=qa (pr (cu aP (c aGh wY)) bB)
def QV:=qe aLI
abbrev akI:=QV.B
abbrev VA:=Int->Int->Int->Int->Int->Int->Int->Int->Int->Int->Int->Bool->Option akI
def VB (g:VA):Ct:=(156,FC akH (lf QV) (λb=>g b.1.1.1 b.1.1.2.1 b.1.1.b.1 b.1.1.b.2.1 b.1.1.c.1 b.1.1.c.2.1 b.1.1.c.b.1 b.1.1.c.b.2.1 b.1.1.d b.1.2.1 b.1.b b.2))
def VC (aq:bY)(Ao:Vy)(x0:Int)(x1:Int)(x2:Int)(x3:Int)(x4:Int)(x5:Int)(x6:Int)(x7:Int)(x8:Int)(x9:Int)(fQ:Int)(fR:Bool):Pg akI:=ae (decide (x1<x9)) (ret (((0,0),1),fR)) (ae (decide (x1>fQ)) (ret (((0,0),1),fR)) (ae (decide (x2<1)) (ret (((0,0),1),fR)) (ae (decide (x2>1000000)) (ret (((0,0),1),fR)) (opt (aq x1 1073741824 1000 fR) λd=>opt (Ao x2) λaj=>ret (((d.1,aj),0),d.2)))))
def tV:=λx0 x1 x2 x3 x4 x5 x6 x7 x8 x9 fQ fR=>(VC aU tU x0 x1 x2 x3 x4 x5 x6 x7 x8 x9 fQ fR).val
theorem aCS:∀aq Ao,D1 [cV aq,Vz Ao] [0] 156 akH (lf QV) λb=>VC aq Ao b.1.1.1 b.1.1.2.1 b.1.1.b.1 b.1.1.b.2.1 b.1.1.c.1 b.1.1.c.2.1 b.1.1.c.b.1 b.1.1.c.b.2.1 b.1.1.d b.1.2.1 b.1.b b.2:=λ_ _ b=>by kernel_rfl
theorem akJ [ax]:SC (VB tV):=s0 (.c c9 (.c aqC (.nil _))) (aCS aU tU)
def VD:=qa (pr (cu aP B4) bB)
def FD:=qe aLI
abbrev VE:=FD.B
abbrev HY:=Int->Int->Int->Int->Int->Int->Int->Int->Int->Bool->Option VE
def HZ (g:HY):Ct:=(89,FC VD (lf FD) (λb=>g b.1.1 b.1.2.1 b.1.b.1 b.1.b.2.1 b.1.c.1 b.1.c.2.1 b.1.c.b.1 b.1.c.b.2.1 b.1.d b.2))
def H0 (nJ:VA)(x0:Int)(x1:Int)(x2:Int)(x3:Int)(x4:Int)(x5:Int)(x6:Int)(x7:Int)(x8:Int)(x9:Bool):Pg VE:=opt (nJ x0 x1 x2 x3 x4 x5 x6 x7 x8 (-100000000) 100000000 x9) λd=>ret d
def mA:=λx0 x1 x2 x3 x4 x5 x6 x7 x8 x9=>(H0 tV x0 x1 x2 x3 x4 x5 x6 x7 x8 x9).val
theorem aqD:∀nJ,D0 [VB nJ] 89 VD (lf FD) λb=>H0 nJ b.1.1 b.1.2.1 b.1.b.1 b.1.b.2.1 b.1.c.1 b.1.c.2.1 b.1.c.b.1 b.1.c.b.2.1 b.1.d b.2:=λ_ b=>by kernel_rfl
theorem VF [ax]:SC (HZ mA):=s0 (.c akJ (.nil _)) (aqD tV)
def akK:=qa (pr (cu aP (c jS (c (aa ah8) fU))) bB)
def QW:=qe aRA
abbrev akL:=QW.B
abbrev akM:=NI->Int->Int->Int->Bool->Option akL
def akN (g:akM):Ct:=(132,FC akK (lf QW) (λb=>g b.1.1 b.1.2.1.1 b.1.2.1.2 b.1.b b.2))
def VG (mq:QP)(aw:bI)(aW:cR)(x0:Nat->Int)(x1:Int)(x2:Int)(x3:Int)(x4:Bool):Pg akL:=opt (mq 1 (λj=>bif Nat.beq j 0 then 9 else 9) true) λd=>opt (aw x1 x4) λaj=>opt (aW (wI (0-aj.1)) (x0 9) aj.2) λaF=>ret ((d,aF.1,x2,x3),aF.2)
def Du:=λx0 x1 x2 x3 x4=>(VG oo aQ bJ x0 x1 x2 x3 x4).val
theorem aCT:∀mq aw aW,D0 [QQ mq,cW aw,gD aW] 132 akK (lf QW) λb=>VG mq aw aW b.1.1 b.1.2.1.1 b.1.2.1.2 b.1.b b.2:=λ_ _ _ b=>by kernel_rfl
theorem aCU [ax]:SC (akN Du):=s0 (.c agK (.c c7 (.c il (.nil _)))) (aCT oo aQ bJ)
def RP:=qa (pr (cu aP B4) bB)
def Dv:=qe (res (pr aRa (pl kZ nil)))
abbrev RQ:=Dv.B
abbrev FE:=Int->Int->Int->Int->Int->Int->Int->Int->Int->Bool->Option RQ
def FF (g:FE):Ct:=(90,FC RP (lf Dv) (λb=>g b.1.1 b.1.2.1 b.1.b.1 b.1.b.2.1 b.1.c.1 b.1.c.2.1 b.1.c.b.1 b.1.c.b.2.1 b.1.d b.2))
def FG (nJ:VA)(x0:Int)(x1:Int)(x2:Int)(x3:Int)(x4:Int)(x5:Int)(x6:Int)(x7:Int)(x8:Int)(x9:Bool):Pg RQ:=ae (decide (x3<0)) (ret (((0,0,0),1),x9)) (ae (decide (x3>100)) (ret (((0,0,0),1),x9)) (opt (nJ x0 x1 x2 x3 x4 x5 x6 x7 x8 1 1000000 x9) λd=>ae (d.1.2!=0) (ret (((0,0,0),d.1.2),d.2)) (ret (((d.1.1.1,d.1.1.2,x3),0),d.2))))
def ln:=λx0 x1 x2 x3 x4 x5 x6 x7 x8 x9=>(FG tV x0 x1 x2 x3 x4 x5 x6 x7 x8 x9).val
theorem amS:∀nJ,D1 [VB nJ] [0] 90 RP (lf Dv) λb=>FG nJ b.1.1 b.1.2.1 b.1.b.1 b.1.b.2.1 b.1.c.1 b.1.c.2.1 b.1.c.b.1 b.1.c.b.2.1 b.1.d b.2:=λ_ b=>by kernel_rfl
theorem RR [ax]:SC (FF ln):=s0 (.c akJ (.nil _)) (amS tV)
def agL:=qa (pr (cu aP (c jS (c (aa (a 2 ah8 jO)) fU))) bB)
def M0:=qe aAJ
abbrev agM:=M0.B
abbrev agN:=NI->Int->Int->Int->Int->Bool->Option agM
def agO (g:agN):Ct:=(133,FC agL (lf M0) (λb=>g b.1.1 b.1.2.1.1.1 b.1.2.1.1.2 b.1.2.1.2 b.1.b b.2))
def QX (bh:dz)(eI:oZ)(aD:cz)(aW:cR)(bW:eK)(aB:bN)(x0:Nat->Int)(x1:Int)(x2:Int)(x3:Int)(x4:Int)(x5:Bool):Pg agM:=opt (bh x0) λd=>let n1:=d.2.2;opt (eI d.1 d.2.1 n1.1 n1.2 x5) λaj=>ae (decide (aj.1 8<751619277)) (ret (((λx=>0,0,0,0),4),aj.2)) (ae (decide (x3<50)) (ret (((λx=>0,0,0,0),4),aj.2)) (opt (aD (x0 9) (aj.1 8) 30 aj.2) λaF=>opt (aW x1 (wI (0-aF.1)) aF.2) λbx=>opt (aD 1073741824 (aj.1 8) 30 bx.2) λcv=>opt (aD aF.1 (aj.1 8) 30 cv.2) λdN=>opt (bW 2 dN.2 (cr d.1 [d.1,d.1]) true) λcL=>opt (aB dN.1 cL.1 30 cL.2) λjW=>opt (bW 2 jW.2 (cr d.2.1 [d.2.1,d.2.1]) true) λpF=>opt (aB dN.1 (wI (0-pF.1)) 30 pF.2) λnx=>opt (bW 2 nx.2 (cr n1.1 [n1.1,n1.1]) true) λku=>opt (aB dN.1 (wI (0-ku.1)) 30 ku.2) λuO=>opt (bW 2 uO.2 (cr n1.2 [n1.2,n1.2]) true) λd=>opt (aB dN.1 d.1 30 d.2) λd=>ret (((λj=>bif Nat.beq j 3 then d.1 else bif Nat.beq j 2 then uO.1 else bif Nat.beq j 1 then nx.1 else bif Nat.beq j 0 then jW.1 else bif Nat.beq j 9 then wI (0-cv.1) else 0,bx.1,x2,x4),0),d.2)))
def Bp:=λx0 x1 x2 x3 x4 x5=>(QX bZ je bp bJ cG aV x0 x1 x2 x3 x4 x5).val
abbrev QY:=dz×oZ×cz×cR×eK×bN
def agP (p:QY):KK:=⟨[iF p.1,BR p.2.1,fL p.b.1,gD p.b.2.1,nm p.c.1,eJ p.c.2],⟨[⟨10,(1::rg 3 5 (rg 9 4 (rg 15 43 (rg 60 11 (rg 73 13 []))))),[]⟩],[],[],[],(some ⟨0,(rg 0 8 (rg 10 76 [])),[]⟩)⟩,0,133⟩
theorem azy (p:QY):D2 (agP p) agL (lf M0) λb=>QX p.1 p.2.1 p.b.1 p.b.2.1 p.c.1 p.c.2 b.1.1 b.1.2.1.1.1 b.1.2.1.1.2 b.1.2.1.2 b.1.b b.2:=λb=>by kernel_rfl
abbrev agQ:QY:=(bZ,je,bp,bJ,cG,aV)
theorem azz [ax]:SC (agO Bp):=sc (kS (k:=agP agQ) (.c jx (.c EG (.c gC (.c il (.c pE (.c eZ (.nil _))))))) [10] [] ⟨kN,trivial⟩ trivial (azy agQ))
def agR:=qa (pl fU nil)
def M1:=qe Fi
abbrev agS:=M1.B
abbrev QZ:=Int->Option agS
def agT (g:QZ):Ct:=(157,FC agR (lf M1) (λb=>g b))
def Q3 (aq:bY)(aE:bT)(x0:Int):Pg agS:=opt (aq (wI (x0*x0)) 17592186044416 1000000000000 false) λd=>opt (aE d.1 1 72057594037927936 d.2) λd=>ret d.1
def Bq:=λx0=>(Q3 aU bc x0).val
theorem azA:∀aq aE,D0 [cV aq,du aE] 157 agR (lf M1) λb=>Q3 aq aE b:=λ_ _ b=>by kernel_rfl
theorem azB [ax]:SC (agT Bq):=s0 (.c c9 (.c dO (.nil _))) (azA aU bc)
def ayj:=qa (pr (cu aP B4) bB)
def ae7:=qe aRE
abbrev ayk:=ae7.B
abbrev Yn:=Int->Int->Int->Int->Int->Int->Int->Int->Int->Bool->Option ayk
def Yo (g:Yn):Ct:=(91,FC ayj (lf ae7) (λb=>g b.1.1 b.1.2.1 b.1.b.1 b.1.b.2.1 b.1.c.1 b.1.c.2.1 b.1.c.b.1 b.1.c.b.2.1 b.1.d b.2))
def akO (azC:QZ)(aq:bY)(x0:Int)(x1:Int)(x2:Int)(x3:Int)(x4:Int)(x5:Int)(x6:Int)(x7:Int)(x8:Int)(x9:Bool):Pg ayk:=ae (decide (x4<1)) (ret (((0,0,0,0),1),x9)) (ae (decide (x4>1000000)) (ret (((0,0,0,0),1),x9)) (opt (azC x4) λd=>ae (decide (x1< -2000000)) (ret (((0,0,0,0),1),x9)) (ae (decide (x1>2000000)) (ret (((0,0,0,0),1),x9)) (opt (aq x1 1073741824 1000000 x9) λaj=>ae (decide (x2< -2000000)) (ret (((0,0,0,0),1),aj.2)) (ae (decide (x2>2000000)) (ret (((0,0,0,0),1),aj.2)) (opt (aq x2 1073741824 1000000 aj.2) λaF=>ae (decide (x3< -2000000)) (ret (((0,0,0,0),1),aF.2)) (ae (decide (x3>2000000)) (ret (((0,0,0,0),1),aF.2)) (opt (aq x3 1073741824 1000000 aF.2) λbx=>ret (((aj.1,aF.1,bx.1,d),0),bx.2)))))))))
def wA:=λx0 x1 x2 x3 x4 x5 x6 x7 x8 x9=>(akO Bq aU x0 x1 x2 x3 x4 x5 x6 x7 x8 x9).val
abbrev akP:=QZ×bY
def ayl (p:akP):KK:=⟨[agT p.1,cV p.2],⟨[⟨5,(1::2::rg 7 17 (rg 25 8 (rg 38 13 []))),[]⟩],[],[0],[],(some ⟨0,(rg 0 4 (rg 6 45 [])),[]⟩)⟩,0,91⟩
theorem aKd (p:akP):D2 (ayl p) ayj (lf ae7) λb=>akO p.1 p.2 b.1.1 b.1.2.1 b.1.b.1 b.1.b.2.1 b.1.c.1 b.1.c.2.1 b.1.c.b.1 b.1.c.b.2.1 b.1.d b.2:=λb=>by kernel_rfl
abbrev aym:akP:=(Bq,aU)
theorem akQ [ax]:SC (Yo wA):=sc (kS (k:=ayl aym) (.c azB (.c c9 (.nil _))) [5] [] ⟨kN,trivial⟩ trivial (aKd aym))
def ayn:=qa (pr (cu aP (c jS (c aLr fU))) bB)
def aHA:=qe aR7
abbrev akR:=(Bool×NI×Int×Int×Int×NI×Int×NI×Int)
def ayo:akR->T:=λd=>lf aHA (d.1,d.2.1,d.b.1,d.b.2.1,d.c.1,d.c.2.1,d.c.b.1,d.b.2.1,d.c.1,d.c.b.2.1,d.d,d.b.2.1,d.c.1)
abbrev ayp:=NI->Int->Int->Int->Int->Int->Bool->Option akR
def ayq (g:ayp):Ct:=(204,FC ayn ayo (λb=>g b.1.1 b.1.2.1.1.1 b.1.2.1.1.2.1 b.1.2.1.1.b b.1.2.1.2 b.1.b b.2))
def akS (bh:dz)(bE:kr)(eI:oZ)(OT:Dg)(ae8:JY)(aav:Gr)(bW:eK)(aW:cR)(x0:Nat->Int)(x1:Int)(x2:Int)(x3:Int)(x4:Int)(x5:Int)(x6:Bool):Pg akR:=opt (bh x0) λd=>opt (bE x0 16) λaj=>opt (bE x0 19) λaF=>opt (eI d.1 d.2.1 d.2.2.1 d.2.2.2 x6) λbx=>opt (OT bx.1 aj.1 aj.2.1 aj.2.2 bx.2) λcv=>opt (ae8 d.1 d.2.1 d.2.2.1 d.2.2.2) λd=>opt (aav d.1 d.2.1 d.2.2.1 d.2.2.2 aj.1 aj.2.1 aj.2.2 cv.2) λd=>let n2:=d.1.2.2;let n1:=n2.2.2.2;let n3:=n1.2.2.2;opt (bW 2 d.2 (cr cv.1.1 [aF.1,cv.1.1]) true) λdN=>opt (aW x1 dN.1 dN.2) λcL=>opt (bW 2 cL.2 (cr cv.1.2.1 [aF.2.1,cv.1.2.1]) true) λjW=>opt (aW x2 jW.1 jW.2) λpF=>opt (bW 2 pF.2 (cr cv.1.2.2 [aF.2.2,cv.1.2.2]) true) λnx=>opt (aW x3 nx.1 nx.2) λku=>ret (ku.2,λj=>bif Nat.beq j 19 then 1073741824 else bif Nat.beq j 18 then bx.1 6 else bif Nat.beq j 17 then bx.1 3 else bif Nat.beq j 16 then bx.1 0 else bif Nat.beq j 3 then wI (0-n2.2.1) else bif Nat.beq j 2 then wI (0-n2.1) else bif Nat.beq j 1 then wI (0-d.1.2.1) else bif Nat.beq j 0 then d.1.1 else 0,cL.1,x4,x5,λj=>bif Nat.beq j 20 then 1073741824 else bif Nat.beq j 18 then bx.1 7 else bif Nat.beq j 17 then bx.1 4 else bif Nat.beq j 16 then bx.1 1 else bif Nat.beq j 3 then wI (0-n1.2.2.1) else bif Nat.beq j 2 then wI (0-n1.2.1) else bif Nat.beq j 1 then wI (0-n1.1) else bif Nat.beq j 0 then n2.2.2.1 else 0,pF.1,λj=>bif Nat.beq j 21 then 1073741824 else bif Nat.beq j 18 then bx.1 8 else bif Nat.beq j 17 then bx.1 5 else bif Nat.beq j 16 then bx.1 2 else bif Nat.beq j 3 then wI (0-n3.2.2.2) else bif Nat.beq j 2 then wI (0-n3.2.2.1) else bif Nat.beq j 1 then wI (0-n3.2.1) else bif Nat.beq j 0 then n3.1 else 0,ku.1)
def OU:=λx0 x1 x2 x3 x4 x5 x6=>(akS bZ en je wh zO xg cG bJ x0 x1 x2 x3 x4 x5 x6).val
abbrev akT:=dz×kr×oZ×Dg×JY×Gr×eK×cR
def ayr (p:akT):KK:=⟨[iF p.1,pG p.2.1,BR p.b.1,XX p.b.2.1,aej p.c.1,aam p.c.2.1,nm p.c.b.1,gD p.c.b.2],⟨[⟨7,(1::2::4::5::rg 7 4 (rg 16 23 (rg 40 62 []))),[]⟩,⟨11,(1::2::4::5::rg 7 4 (rg 18 21 (rg 40 23 (rg 65 37 [])))),[]⟩,⟨18,(1::2::4::5::rg 7 4 (rg 18 21 (rg 40 38 (rg 79 23 [])))),[]⟩],[],[],[],(some ⟨0,(rg 0 8 (rg 9 93 [])),[]⟩)⟩,0,204⟩
theorem aKe (p:akT):D2 (ayr p) ayn ayo λb=>akS p.1 p.2.1 p.b.1 p.b.2.1 p.c.1 p.c.2.1 p.c.b.1 p.c.b.2 b.1.1 b.1.2.1.1.1 b.1.2.1.1.2.1 b.1.2.1.1.b b.1.2.1.2 b.1.b b.2:=λb=>by kernel_rfl
abbrev ays:akT:=(bZ,en,je,wh,zO,xg,cG,bJ)
theorem aKf [ax]:SC (ayq OU):=sc (kS (k:=ayr ays) (.c jx (.c sU (.c EG (.c ajA (.c asn (.c aoJ (.c pE (.c il (.nil _))))))))) [7,11,18] [] ⟨kN,⟨kN,⟨kN,trivial⟩⟩⟩ trivial (aKe ays))
def aoO:=qa (pr (cu aP Fk) bB)
def VH:=qe (res (pr aLi (pl kZ nil)))
abbrev aoP:=VH.B
abbrev Oa:=Int->Int->Int->Bool->Option aoP
def aaw (g:Oa):Ct:=(227,FC aoO (lf VH) (λb=>g b.1.1 b.1.2.1 b.1.b b.2))
def aax (jd:w8)(pK:Zy)(x0:Int)(x1:Int)(x2:Int)(x3:Bool):Pg aoP:=opt (jd 2 x3 (cr x0 [x1,x0]) true) λd=>ae (decide (d.1<16777216)) (ret ((0,false),d.2)) (opt (pK x1 x0 d.2) λd=>ret ((d.1,true),d.2))
def xm:=λx0 x1 x2 x3=>(aax fM w7 x0 x1 x2 x3).val
theorem aEg:∀jd pK,D0 [Gl jd,Zz pK] 227 aoO (lf VH) λb=>aax jd pK b.1.1 b.1.2.1 b.1.b b.2:=λ_ _ b=>by kernel_rfl
theorem aoQ [ax]:SC (aaw xm):=s0 (.c NZ (.c an2 (.nil _))) (aEg fM w7)
def akU:=qa (pr (cu aP (c jS (c aLr C4))) bB)
def Q4:=qe aAJ
abbrev akV:=Q4.B
abbrev akW:=NI->Int->Int->Int->Int->Int->Int->Int->Bool->Option akV
def akX (g:akW):Ct:=(206,FC akU (lf Q4) (λb=>g b.1.1 b.1.2.1.1.1 b.1.2.1.1.2.1 b.1.2.1.1.b b.1.2.1.2 b.1.b.1 b.1.b.2.1 b.1.c b.2))
def VI (bh:dz)(eI:oZ)(bE:kr)(mz:HO)(gS:EC)(BW:Oa)(jd:w8)(aW:cR)(cU:wb)(bj:eo)(bW:eK)(aD:cz)(x0:Nat->Int)(x1:Int)(x2:Int)(x3:Int)(x4:Int)(x5:Int)(x6:Int)(x7:Int)(x8:Bool):Pg akV:=opt (bh x0) λd=>let n1:=d.2.2;opt (eI d.1 d.2.1 n1.1 n1.2 x8) λaj=>opt (bE x0 19) λaF=>opt (mz x1 x2 x3 aF.1 aF.2.1 aF.2.2 aj.2) λbx=>opt (gS aj.1 bx.1.1 bx.1.2.1 bx.1.2.2 bx.2) λcv=>opt (BW cv.1.1 cv.1.2.1 cv.1.2.2 cv.2) λdN=>ae (!dN.1.2) (ret (((λx=>0,0,0,0),4),dN.2)) (opt (jd 2 dN.2 (cr (aj.1 0) [aj.1 3,aj.1 0]) true) λcL=>ae (decide (cL.1<16777216)) (ret (((λx=>0,0,0,0),4),cL.2)) (opt (aW x5 dN.1.1 cL.2) λjW=>opt (cU jW.1) λpF=>opt (bj 30 2 2 jW.2 (cr (aj.1 0) [aj.1 3,aj.1 0]) (cr (aj.1 0) [aj.1 3,aj.1 0]) true true) λnx=>opt (bW 2 nx.2 (cr d.1 [d.1,d.1]) true) λku=>opt (bW 2 ku.2 (cr d.2.1 [d.2.1,d.2.1]) true) λuO=>opt (bW 2 uO.2 (cr n1.1 [n1.1,n1.1]) true) λIQ=>opt (bW 2 IQ.2 (cr n1.2 [n1.2,n1.2]) true) λd=>opt (bj 30 2 2 d.2 (cr (aj.1 0) [wI (0-aj.1 3),aj.1 0]) (cr d.1 [ku.1,d.1]) true true) λKg=>opt (aD Kg.1 nx.1 30 Kg.2) λaCO=>opt (bj 30 2 2 aCO.2 (cr (aj.1 0) [wI (0-aj.1 3),aj.1 0]) (cr IQ.1 [uO.1,IQ.1]) true true) λYi=>opt (aD Yi.1 nx.1 30 Yi.2) λabR=>opt (bj 30 2 2 abR.2 (cr (aj.1 0) [wI (0-aj.1 3),aj.1 0]) (cr uO.1 [wI (0-IQ.1),uO.1]) true true) λYj=>opt (aD Yj.1 nx.1 30 Yj.2) λaCP=>opt (bj 30 2 2 aCP.2 (cr (aj.1 0) [wI (0-aj.1 3),aj.1 0]) (cr ku.1 [wI (0-d.1),ku.1]) true true) λd=>opt (aD d.1 nx.1 30 d.2) λd=>ret (((cr 0 [d.1,aCP.1,abR.1,aCO.1],pF,x6,x7),0),d.2)))
def Dw:=λx0 x1 x2 x3 x4 x5 x6 x7 x8=>(VI bZ je en tM nC xm fM bJ jt br cG bp x0 x1 x2 x3 x4 x5 x6 x7 x8).val
abbrev VJ:=dz×oZ×kr×HO×EC×Oa×w8×cR×wb×eo×eK×cz
def akY (p:VJ):KK:=⟨[iF p.1,BR p.2.1,pG p.b.1,T7 p.b.2.1,J3 p.c.1,aaw p.c.2.1,Gl p.c.b.1,gD p.c.b.2.1,zM p.d.1,lP p.d.2.1,nm p.d.b.1,fL p.d.b.2],⟨[⟨10,(rg 1 11 (13::14::16::17::rg 21 57 (rg 80 58 []))),[]⟩,⟨17,(rg 1 11 (13::14::16::17::20::21::22::rg 25 86 (rg 112 26 []))),[]⟩],[],[],[],(some ⟨0,(rg 0 12 (rg 14 124 [])),[]⟩)⟩,0,206⟩
theorem aCV (p:VJ):D2 (akY p) akU (lf Q4) λb=>VI p.1 p.2.1 p.b.1 p.b.2.1 p.c.1 p.c.2.1 p.c.b.1 p.c.b.2.1 p.d.1 p.d.2.1 p.d.b.1 p.d.b.2 b.1.1 b.1.2.1.1.1 b.1.2.1.1.2.1 b.1.2.1.1.b b.1.2.1.2 b.1.b.1 b.1.b.2.1 b.1.c b.2:=λb=>by kernel_rfl
abbrev akZ:VJ:=(bZ,je,en,tM,nC,xm,fM,bJ,jt,br,cG,bp)
theorem aCW [ax]:SC (akX Dw):=sc (kS (k:=akY akZ) (.c jx (.c EG (.c sU (.c aec (.c Sy (.c aoQ (.c NZ (.c il (.c Eu (.c np (.c pE (.c gC (.nil _))))))))))))) [10,17] [] ⟨kN,⟨kN,trivial⟩⟩ trivial (aCV akZ))
def atC:=qa (pr (cu aP (c ac8 (c aLr fU))) bB)
def aay:=qe aLG
abbrev atD:=aay.B
abbrev atE:=Int->Int->Int->Int->Int->Int->Int->Int->Int->Bool->Option atD
def atF (g:atE):Ct:=(190,FC atC (lf aay) (λb=>g b.1.1.1 b.1.1.2.1 b.1.1.b.1 b.1.1.b.2 b.1.2.1.1.1 b.1.2.1.1.2.1 b.1.2.1.1.b b.1.2.1.2 b.1.b b.2))
def ae9 (eI:oZ)(gS:EC)(BW:Oa)(aW:cR)(cU:wb)(x0:Int)(x1:Int)(x2:Int)(x3:Int)(x4:Int)(x5:Int)(x6:Int)(x7:Int)(x8:Int)(x9:Bool):Pg atD:=opt (eI x0 x1 x2 x3 x9) λd=>opt (gS d.1 x4 x5 x6 d.2) λd=>opt (BW d.1.1 d.1.2.1 d.1.2.2 d.2) λd=>ae (!d.1.2) (ret ((0,4),d.2)) (opt (aW x8 d.1.1 d.2) λd=>opt (cU d.1) λaj=>ret ((aj,0),d.2))
def KS:=λx0 x1 x2 x3 x4 x5 x6 x7 x8 x9=>(ae9 je nC xm bJ jt x0 x1 x2 x3 x4 x5 x6 x7 x8 x9).val
theorem aHB:∀eI gS BW aW cU,D0 [BR eI,J3 gS,aaw BW,gD aW,zM cU] 190 atC (lf aay) λb=>ae9 eI gS BW aW cU b.1.1.1 b.1.1.2.1 b.1.1.b.1 b.1.1.b.2 b.1.2.1.1.1 b.1.2.1.1.2.1 b.1.2.1.1.b b.1.2.1.2 b.1.b b.2:=λ_ _ _ _ _ b=>by kernel_rfl
theorem aHC [ax]:SC (atF KS):=s0 (.c EG (.c Sy (.c aoQ (.c il (.c Eu (.nil _)))))) (aHB je nC xm bJ jt)
def agU:=qa (pl fU nil)
def M3:=qe Fi
abbrev agV:=M3.B
abbrev agW:=Int->Option agV
def agX (g:agW):Ct:=(158,FC agU (lf M3) (λb=>g b))
def Q5 (aq:bY)(aE:bT)(x0:Int):Pg agV:=opt (aq (wI (x0*x0)) 17592186044416 1000000 false) λd=>opt (aE d.1 1 72057594037927936 d.2) λd=>ret d.1
def Br:=λx0=>(Q5 aU bc x0).val
theorem azD:∀aq aE,D0 [cV aq,du aE] 158 agU (lf M3) λb=>Q5 aq aE b:=λ_ _ b=>by kernel_rfl
theorem azE [ax]:SC (agX Br):=s0 (.c c9 (.c dO (.nil _))) (azD aU bc)
def ayt:=qa (pr (cu aP B4) bB)
def afa:=qe aLI
abbrev ayu:=afa.B
abbrev ak0:=Int->Int->Int->Int->Int->Int->Int->Int->Int->Bool->Option ayu
def ak1 (g:ak0):Ct:=(92,FC ayt (lf afa) (λb=>g b.1.1 b.1.2.1 b.1.b.1 b.1.b.2.1 b.1.c.1 b.1.c.2.1 b.1.c.b.1 b.1.c.b.2.1 b.1.d b.2))
def ak2 (aq:bY)(Hq:agW)(x0:Int)(x1:Int)(x2:Int)(x3:Int)(x4:Int)(x5:Int)(x6:Int)(x7:Int)(x8:Int)(x9:Bool):Pg ayu:=ae (decide (x1<0)) (ret (((0,0),1),x9)) (ae (decide (x1>300000)) (ret (((0,0),1),x9)) (ae (decide (x2<1)) (ret (((0,0),1),x9)) (ae (decide (x2>1000000)) (ret (((0,0),1),x9)) (opt (aq x1 1073741824 1000 x9) λd=>opt (Hq x2) λaj=>ret (((d.1,aj),0),d.2)))))
def Dx:=λx0 x1 x2 x3 x4 x5 x6 x7 x8 x9=>(ak2 aU Br x0 x1 x2 x3 x4 x5 x6 x7 x8 x9).val
theorem aKg:∀aq Hq,D1 [cV aq,agX Hq] [0] 92 ayt (lf afa) λb=>ak2 aq Hq b.1.1 b.1.2.1 b.1.b.1 b.1.b.2.1 b.1.c.1 b.1.c.2.1 b.1.c.b.1 b.1.c.b.2.1 b.1.d b.2:=λ_ _ b=>by kernel_rfl
theorem ayv [ax]:SC (ak1 Dx):=s0 (.c c9 (.c azE (.nil _))) (aKg aU Br)
def agY:=qa (pr (cu aP apG) bB)
def M4:=qe auJ
abbrev agZ:=M4.B
abbrev Bs:=NI->Bool->Option agZ
def Q6 (g:Bs):Ct:=(240,FC agY (lf M4) (λb=>g b.1 b.2))
def Q7 (bE:kr)(mz:HO)(x0:Nat->Int)(x1:Bool):Pg agZ:=opt (bE x0 4) λd=>opt (mz d.1 d.2.1 d.2.2 (x0 22) (x0 23) 0 x1) λd=>ret d
def rD:=λx0 x1=>(Q7 en tM x0 x1).val
theorem azF:∀bE mz,D0 [pG bE,T7 mz] 240 agY (lf M4) λb=>Q7 bE mz b.1 b.2:=λ_ _ b=>by kernel_rfl
theorem ag0 [ax]:SC (Q6 rD):=s0 (.c sU (.c aec (.nil _))) (azF en tM)
def atG:=qa (pr (cu (app 0 27) Fk) (cl auF nil))
def aaz:=qe (res (pu Th (pl (cl (zC auF) nil) nil)))
abbrev atH:=aaz.B
abbrev KU:=Int->Int->Int->NI->Int->Int->Int->Option atH
def afb (g:KU):Ct:=(241,FC atG (lf aaz) (λb=>g b.1.1 b.1.2.1 b.1.b b.2.1 b.b.1 b.b.2.1 b.c))
def afc (x0:Int)(x1:Int)(x2:Int)(x3:Nat->Int)(x4:Int)(x5:Int)(x6:Int):Pg atH:=ret (λj=>bif Nat.beq j 6 then x2 else bif Nat.beq j 23 then wI (0-x1) else bif Nat.beq j 5 then x1 else bif Nat.beq j 22 then wI (0-x0) else bif Nat.beq j 4 then x0 else x3 j,x4,x5,x6)
def Ap:=λx0 x1 x2 x3 x4 x5 x6=>(afc x0 x1 x2 x3 x4 x5 x6).val
abbrev afd:=Unit
def atI (p:afd):KK:=⟨[],⟨[⟨2,(1::2::4::rg 6 24 []),[]⟩],[],[],[],(some ⟨0,(rg 0 30 []),[]⟩)⟩,0,241⟩
theorem aHD (p:afd):D2 (atI p) atG (lf aaz) λb=>afc b.1.1 b.1.2.1 b.1.b b.2.1 b.b.1 b.b.2.1 b.c:=λb=>by kernel_rfl
abbrev atJ:afd:=()
theorem atK [ax]:SC (afb Ap):=sc (kS (k:=atI atJ) (.nil _) [2] [] ⟨kN,trivial⟩ trivial (aHD atJ))
def ag1:=qa (pr (cu aP (c jS (c (aa ah8) fU))) bB)
def M5:=qe aAJ
abbrev ag2:=M5.B
abbrev ag3:=NI->Int->Int->Int->Bool->Option ag2
def ag4 (g:ag3):Ct:=(207,FC ag1 (lf M5) (λb=>g b.1.1 b.1.2.1.1 b.1.2.1.2 b.1.b b.2))
def Q8 (Q9:Bs)(sV:zj)(aW:cR)(aD:cz)(afe:KU)(x0:Nat->Int)(x1:Int)(x2:Int)(x3:Int)(x4:Bool):Pg ag2:=opt (Q9 x0 x4) λd=>opt (sV d.1.1 d.1.2.1 d.1.2.2 d.2) λaj=>ae (decide (aj.1<1073741824)) (ret (((λx=>0,0,0,0),4),aj.2)) (opt (aW x1 aj.1 aj.2) λaF=>opt (aD d.1.1 aj.1 30 aF.2) λbx=>opt (aD d.1.2.1 aj.1 30 bx.2) λcv=>opt (aD d.1.2.2 aj.1 30 cv.2) λd=>opt (afe bx.1 cv.1 d.1 (λx=>0) aF.1 x2 x3) λdN=>ret ((dN,0),d.2))
def Bt:=λx0 x1 x2 x3 x4=>(Q8 rD oi bJ bp Ap x0 x1 x2 x3 x4).val
abbrev Q':=Bs×zj×cR×cz×KU
def ag5 (p:Q'):KK:=⟨[Q6 p.1,OH p.2.1,gD p.b.1,fL p.b.2.1,afb p.c],⟨[⟨8,(rg 1 7 (9::rg 14 19 (rg 34 14 []))),[]⟩],[],[],[],(some ⟨0,(rg 0 8 (rg 10 38 [])),[]⟩)⟩,0,207⟩
theorem azG (p:Q'):D2 (ag5 p) ag1 (lf M5) λb=>Q8 p.1 p.2.1 p.b.1 p.b.2.1 p.c b.1.1 b.1.2.1.1 b.1.2.1.2 b.1.b b.2:=λb=>by kernel_rfl
abbrev ag6:Q':=(rD,oi,bJ,bp,Ap)
theorem azH [ax]:SC (ag4 Bt):=sc (kS (k:=ag5 ag6) (.c ag0 (.c XN (.c il (.c gC (.c atK (.nil _)))))) [8] [] ⟨kN,trivial⟩ trivial (azG ag6))
def ag7:=qa (pr (cu aP (c jS wY)) bB)
def M6:=qe aAJ
abbrev ag8:=M6.B
abbrev ag9:=NI->Int->Int->Bool->Option ag8
def aha (g:ag9):Ct:=(208,FC ag7 (lf M6) (λb=>g b.1.1 b.1.2.1 b.1.b b.2))
def Ra (bh:dz)(eI:oZ)(Q9:Bs)(OT:Dg)(aD:cz)(aB:bN)(aW:cR)(afe:KU)(x0:Nat->Int)(x1:Int)(x2:Int)(x3:Bool):Pg ag8:=opt (bh x0) λd=>opt (eI d.1 d.2.1 d.2.2.1 d.2.2.2 x3) λd=>opt (Q9 x0 d.2) λaj=>opt (OT d.1 aj.1.1 aj.1.2.1 aj.1.2.2 aj.2) λaF=>let n1:=aF.1.1;ae (decide (n1<5368709120)) (ret (((λx=>0,0,0,0),4),aF.2)) (opt (aD aF.1.2.1 n1 30 aF.2) λbx=>opt (aB bx.1 (d.1 0) 30 bx.2) λcv=>opt (aW (d.1 1) cv.1 cv.2) λdN=>opt (aD dN.1 n1 30 dN.2) λcL=>opt (aB bx.1 (d.1 3) 30 cL.2) λjW=>opt (aW (d.1 4) jW.1 jW.2) λpF=>opt (aD pF.1 n1 30 pF.2) λnx=>opt (aB bx.1 (d.1 6) 30 nx.2) λku=>opt (aW (d.1 7) ku.1 ku.2) λd=>opt (aD d.1 n1 30 d.2) λd=>opt (afe cL.1 nx.1 d.1 (λx=>0) (wI (0-bx.1)) x1 x2) λuO=>ret ((uO,0),d.2))
def Bu:=λx0 x1 x2 x3=>(Ra bZ je rD wh bp aV bJ Ap x0 x1 x2 x3).val
abbrev Rb:=dz×oZ×Bs×Dg×cz×bN×cR×KU
def ahb (p:Rb):KK:=⟨[iF p.1,BR p.2.1,Q6 p.b.1,XX p.b.2.1,fL p.c.1,eJ p.c.2.1,gD p.c.b.1,afb p.c.b.2],⟨[⟨9,(rg 1 7 (9::rg 15 26 (rg 42 26 []))),[]⟩],[],[],[],(some ⟨0,(rg 0 8 (rg 10 58 [])),[]⟩)⟩,0,208⟩
theorem azI (p:Rb):D2 (ahb p) ag7 (lf M6) λb=>Ra p.1 p.2.1 p.b.1 p.b.2.1 p.c.1 p.c.2.1 p.c.b.1 p.c.b.2 b.1.1 b.1.2.1 b.1.b b.2:=λb=>by kernel_rfl
abbrev ahc:Rb:=(bZ,je,rD,wh,bp,aV,bJ,Ap)
theorem azJ [ax]:SC (aha Bu):=sc (kS (k:=ahb ahc) (.c jx (.c EG (.c ag0 (.c ajA (.c gC (.c eZ (.c il (.c atK (.nil _))))))))) [9] [] ⟨kN,trivial⟩ trivial (azI ahc))
def ab4:=qa (pl fU nil)
def KV:=qe Fi
abbrev ab5:=KV.B
abbrev M7:=Int->Option ab5
def ab6 (g:M7):Ct:=(159,FC ab4 (lf KV) (λb=>g b))
def M8 (aq:bY)(aE:bT)(x0:Int):Pg ab5:=opt (aq (wI (x0*x0)) 17592186044416 1000000000000 false) λd=>opt (aE d.1 1 72057594037927936 d.2) λd=>ret d.1
def yH:=λx0=>(M8 aU bc x0).val
theorem avU:∀aq aE,D0 [cV aq,du aE] 159 ab4 (lf KV) λb=>M8 aq aE b:=λ_ _ b=>by kernel_rfl
theorem avV [ax]:SC (ab6 yH):=s0 (.c c9 (.c dO (.nil _))) (avU aU bc)
def atL:=qa (pr (cu aP B4) bB)
def aaA:=qe aRE
abbrev atM:=aaA.B
abbrev aff:=Int->Int->Int->Int->Int->Int->Int->Int->Int->Bool->Option atM
def afg (g:aff):Ct:=(93,FC atL (lf aaA) (λb=>g b.1.1 b.1.2.1 b.1.b.1 b.1.b.2.1 b.1.c.1 b.1.c.2.1 b.1.c.b.1 b.1.c.b.2.1 b.1.d b.2))
def afh (aq:bY)(avW:M7)(x0:Int)(x1:Int)(x2:Int)(x3:Int)(x4:Int)(x5:Int)(x6:Int)(x7:Int)(x8:Int)(x9:Bool):Pg atM:=ae (decide (x1< -10000000)) (ret (((0,0,0,0),1),x9)) (ae (decide (x1>10000000)) (ret (((0,0,0,0),1),x9)) (ae (decide (x2< -10000000)) (ret (((0,0,0,0),1),x9)) (ae (decide (x2>10000000)) (ret (((0,0,0,0),1),x9)) (ae (decide (x3<1)) (ret (((0,0,0,0),1),x9)) (ae (decide (x3>10000000)) (ret (((0,0,0,0),1),x9)) (ae (decide (x4<0)) (ret (((0,0,0,0),1),x9)) (ae (decide (x4>100)) (ret (((0,0,0,0),1),x9)) (opt (aq x1 1073741824 1000000 x9) λd=>opt (aq x2 1073741824 1000000 d.2) λaj=>opt (avW x3) λaF=>ret (((d.1,aj.1,aF,x4),0),aj.2)))))))))
def Aq:=λx0 x1 x2 x3 x4 x5 x6 x7 x8 x9=>(afh aU yH x0 x1 x2 x3 x4 x5 x6 x7 x8 x9).val
abbrev afi:=bY×M7
def atN (p:afi):KK:=⟨[cV p.1,ab6 p.2],⟨[⟨2,(1::rg 5 4 (rg 12 4 (17::rg 20 8 (32::33::38::39::rg 44 20 [])))),[]⟩],[],[0],[],(some ⟨0,(rg 0 4 (rg 6 58 [])),[]⟩)⟩,0,93⟩
theorem aHE (p:afi):D2 (atN p) atL (lf aaA) λb=>afh p.1 p.2 b.1.1 b.1.2.1 b.1.b.1 b.1.b.2.1 b.1.c.1 b.1.c.2.1 b.1.c.b.1 b.1.c.b.2.1 b.1.d b.2:=λb=>by kernel_rfl
abbrev atO:afi:=(aU,yH)
theorem atP [ax]:SC (afg Aq):=sc (kS (k:=atN atO) (.c c9 (.c avV (.nil _))) [2] [] ⟨kN,trivial⟩ trivial (aHE atO))
def ab7:=qa (pr (cu aP apG) bB)
def KW:=qe aLG
abbrev ab8:=KW.B
abbrev M9:=NI->Bool->Option ab8
def ab9 (g:M9):Ct:=(242,FC ab7 (lf KW) (λb=>g b.1 b.2))
def M' (bh:dz)(eI:oZ)(aD:cz)(x0:Nat->Int)(x1:Bool):Pg ab8:=opt (bh x0) λd=>opt (eI d.1 d.2.1 d.2.2.1 d.2.2.2 x1) λd=>ae (decide (d.1 8<751619277)) (ret ((0,4),d.2)) (opt (aD (x0 9) (d.1 8) 30 d.2) λd=>let y0:=wI (0-d.1);ae (decide (y0<536870912)) (ret ((0,4),d.2)) (ret ((y0,0),d.2)))
def yI:=λx0 x1=>(M' bZ je bp x0 x1).val
theorem avX:∀bh eI aD,D0 [iF bh,BR eI,fL aD] 242 ab7 (lf KW) λb=>M' bh eI aD b.1 b.2:=λ_ _ _ b=>by kernel_rfl
theorem avY [ax]:SC (ab9 yI):=s0 (.c jx (.c EG (.c gC (.nil _)))) (avX bZ je bp)
def atQ:=qa (pr (cu aP (c jS (c ac8 fU))) bB)
def ahd:=qe (res (pr aQW (pl kZ nil)))
def azK:=qe (res (pu (pw (cu (rc (dG (pu A9 (pu xW (pu (szl rq4) (pu (nat 27) ek)))))) aia)) (pr kZ (cl aLN nil))))
abbrev SJ:=ahd.B⊕(Bool×NI×Int×Int×Int×NI×Int)
def atS:SJ->T:=ls (lf ahd) (λd=>lf azK (d.1,d.2.1,d.b.1,d.b.2.1,d.c.1,d.c.2.1,d.c.b,d.b.2.1,d.c.1))
abbrev atT:=NI->Int->Int->Int->Int->Int->Bool->Option SJ
def atU (g:atT):Ct:=(209,FC atQ atS (λb=>g b.1.1 b.1.2.1.1 b.1.2.1.2.1 b.1.2.1.b.1 b.1.2.1.b.2 b.1.b b.2))
def SK (avZ:M9)(bh:dz)(eI:oZ)(bE:kr)(OT:Dg)(aD:cz)(aW:cR)(x0:Nat->Int)(x1:Int)(x2:Int)(x3:Int)(x4:Int)(x5:Int)(x6:Bool):Pg SJ:=ae (decide (x4<30)) (ret (Sum.inl (4,x6))) (opt (avZ x0 x6) λd=>let n1:=d.1.1;ae (d.1.2!=0) (ret (Sum.inl (d.1.2,d.2))) (opt (bh x0) λaj=>opt (eI aj.1 aj.2.1 aj.2.2.1 aj.2.2.2 d.2) λaF=>opt (bE x0 4) λbx=>opt (OT aF.1 bx.1 bx.2.1 bx.2.2 aF.2) λcv=>opt (aD cv.1.2.1 n1 30 cv.2) λdN=>opt (aW x1 dN.1 dN.2) λcL=>opt (aD cv.1.1 n1 30 cL.2) λjW=>opt (aW x2 (wI (0-jW.1)) jW.2) λpF=>opt (aD (aF.1 1) n1 30 pF.2) λnx=>opt (aD (aF.1 0) n1 30 nx.2) λku=>opt (aD (aF.1 4) n1 30 ku.2) λuO=>opt (aD (aF.1 3) n1 30 uO.2) λIQ=>opt (aD (aF.1 7) n1 30 IQ.2) λKg=>opt (aD (aF.1 6) n1 30 Kg.2) λd=>ret (Sum.inr (d.2,λj=>bif Nat.beq j 6 then Kg.1 else bif Nat.beq j 5 then uO.1 else bif Nat.beq j 4 then nx.1 else 0,cL.1,x3,x5,λj=>bif Nat.beq j 6 then wI (0-d.1) else bif Nat.beq j 5 then wI (0-IQ.1) else bif Nat.beq j 4 then wI (0-ku.1) else 0,pF.1))))
def Ar:=λx0 x1 x2 x3 x4 x5 x6=>(SK yI bZ je en wh bp bJ x0 x1 x2 x3 x4 x5 x6).val
abbrev afj:=M9×dz×oZ×kr×Dg×cz×cR
def atV (p:afj):KK:=⟨[ab9 p.1,iF p.2.1,BR p.b.1,pG p.b.2.1,XX p.c.1,fL p.c.2.1,gD p.c.b],⟨[⟨11,(rg 1 9 (11::13::rg 16 49 (rg 66 30 []))),[]⟩],[],[0],[],(some ⟨0,(rg 0 8 (rg 10 86 [])),[]⟩)⟩,0,209⟩
theorem aHF (p:afj):D2 (atV p) atQ atS λb=>SK p.1 p.2.1 p.b.1 p.b.2.1 p.c.1 p.c.2.1 p.c.b b.1.1 b.1.2.1.1 b.1.2.1.2.1 b.1.2.1.b.1 b.1.2.1.b.2 b.1.b b.2:=λb=>by kernel_rfl
abbrev atW:afj:=(yI,bZ,je,en,wh,bp,bJ)
theorem aHG [ax]:SC (atU Ar):=sc (kS (k:=atV atW) (.c avY (.c jx (.c EG (.c sU (.c ajA (.c gC (.c il (.nil _)))))))) [11] [] ⟨kN,trivial⟩ trivial (aHF atW))
def atX:=qa (pl fU nil)
def aaB:=qe B3
abbrev atY:=aaB.B
abbrev SL:=Int->Option atY
def SM (g:SL):Ct:=(87,FC atX (lf aaB) (λb=>g b))
def SN (x0:Int):Pg atY:=ae (decide (x0>=0)) (ret (decide (x0<6))) (ret false)
def nK:=λx0=>(SN x0).val
theorem aHH:D0 [] 87 atX (lf aaB) λb=>SN b:=λb=>by kernel_rfl
theorem afk [ax]:SC (SM nK):=s0 (.nil _) aHH
def OV:=qa (pr (cu F9 fU) aLn)
def B9:=qe (res (pu Th (pl (cl (zC (cl gi (cu aT (cu auB nil)))) nil) nil)))
abbrev OW:=B9.B
abbrev OX:=Int->Int->Int->Bool->Option OW
def OY (g:OX):Ct:=(252,FC OV (lf B9) (λb=>g b.1 b.2.1 b.b.1 b.b.2))
def Dy (x0:Int)(x1:Int)(x2:Int)(x3:Bool):Pg OW:=ae (!x3) (ret x0) (ae (decide (x0>x1)) (ret x0) (ret x1))
def qf:=λx0 x1 x2 x3=>(Dy x0 x1 x2 x3).val
theorem ak3:D0 [] 252 OV (lf B9) λb=>Dy b.1 b.2.1 b.b.1 b.b.2:=λb=>by kernel_rfl
theorem ak4 [ax]:SC (OY qf):=s0 (.nil _) ak3
def OZ:=qa (pu (cu F9 nil) aLn)
def Ca:=qe (res (pu Th (pl (cl (zC aLg) nil) nil)))
abbrev O0:=Ca.B
abbrev O1:=Int->Int->Bool->Option O0
def O2 (g:O1):Ct:=(253,FC OZ (lf Ca) (λb=>g b.1 b.2.1 b.b))
def Dz (x0:Int)(x1:Int)(x2:Bool):Pg O0:=let y0:=wI (x1+1);ret (x0,if 1000<y0 then 1000 else y0,x2)
def qg:=λx0 x1 x2=>(Dz x0 x1 x2).val
theorem ak5:D0 [] 253 OZ (lf Ca) λb=>Dz b.1 b.2.1 b.b:=λb=>by kernel_rfl
theorem ak6 [ax]:SC (O2 qg):=s0 (.nil _) ak5
def Gv:=qa (dp (cu awy (c ai (c ai aFZ))) λa=>(c kC (cl (cl (gs a.b.1 apE) nil) nil)))
def uV:=qe (res (pu Th (pl (cl aAH Xf) nil)))
abbrev Gw:=uV.B
abbrev Gx:=Int->Int->Nat->NI->NI->(Nat->Bool)->NI->NI->NI->Int->(Nat->Bool)->NI->NI->Bool->Option Gw
def Gy (g:Gx):Ct:=(237,sQ 3 [.b,.i .i64,.i .i64] (FC Gv (lf uV) (λb=>g b.1.1 b.1.2.1 b.1.b.1 b.2.1.1.1 b.2.1.1.2.1 b.2.1.1.b.1 b.2.1.1.b.2.1 b.2.1.1.c.1 b.2.1.1.c.2 b.2.1.2 b.b.1 b.b.2.1 b.c b.1.b.2)))
def xo (jB:SL)(pL:aac)(wB:OX)(wC:O1)(x0:Int)(x1:Int)(x2:Nat)(x3:Nat->Int)(x4:Nat->Int)(x5:Nat->Bool)(x6:Nat->Int)(x7:Nat->Int)(x8:Nat->Int)(x9:Int)(fQ:Nat->Bool)(fR:Nat->Int)(zF:Nat->Int)(w0:Bool):Pg Gw:=let n3:=((x5,x6,x7,x8).1 (Int.toNat x0));let n2:=((x4,x5,x6,x7,x8).1 (Int.toNat x0));let n1:=((x3,x4,x5,x6,x7,x8).1 (Int.toNat x0));let y0:=aX x0 6;let y1:=0+Int.toNat x0*6+3;let y2:=Nat.ble y1 36;let y3:=y2&&Nat.ble y1 37;opt (jB x0) λd=>ae (!d) (ret ((x3,x4,x5,x6,x7,x8),x9)) (ae (Int.ofNat x2==0) (ret ((x3,x4,x5,x6,x7,x8),x9)) (ae (Nat.beq x2 x2) (opt (pL x2 fQ fR zF (w0&&true)) λd=>ae (decide (d.1>0)) (ae y0 (ae y2 (opt (wB x1 n1 n2 n3) λd=>ae y3 (ret ((λj=>bif Nat.beq j (Int.toNat x0) then d else(x3,x4,x5,x6,x7,x8).1 j,λj=>bif Nat.beq j (Int.toNat x0) then 0 else(x4,x5,x6,x7,x8).1 j,λj=>bif Nat.beq j (Int.toNat x0) then true else(x5,x6,x7,x8).1 j,x6,x7,x8),x9)) no) no) no) (ae y0 (ae y2 (opt (wC n1 n2 n3) λd=>ae y3 (ret ((λj=>bif Nat.beq j (Int.toNat x0) then d.1 else(x3,x4,x5,x6,x7,x8).1 j,λj=>bif Nat.beq j (Int.toNat x0) then d.2.1 else(x4,x5,x6,x7,x8).1 j,λj=>bif Nat.beq j (Int.toNat x0) then d.2.2 else(x5,x6,x7,x8).1 j,x6,x7,x8),x9)) no) no) no)) no))
def lR:=λx0 x1 x2 x3 x4 x5 x6 x7 x8 x9 fQ fR zF w0=>(xo nK xf qf qg x0 x1 x2 x3 x4 x5 x6 x7 x8 x9 fQ fR zF w0).val
theorem aaC:∀jB pL wB wC,D1 [SM jB,aad pL,OY wB,O2 wC] [0] 237 Gv (lf uV) λb=>xo jB pL wB wC b.1.1 b.1.2.1 b.1.b.1 b.2.1.1.1 b.2.1.1.2.1 b.2.1.1.b.1 b.2.1.1.b.2.1 b.2.1.1.c.1 b.2.1.1.c.2 b.2.1.2 b.b.1 b.b.2.1 b.c b.1.b.2:=λ_ _ _ _ b=>by kernel_rfl
theorem aaD [ax]:SC (Gy lR):=sc (Sound.nil 3 [.b,.i .i64,.i .i64]<|k0 (.c afk (.c aoA (.c ak4 (.c ak6 (.nil _))))) (aaC nK xf qf qg))
def LJ:=qa (pr (cu F9 wY) aLn)
def As:=qe aF7
abbrev LK:=As.B
abbrev LL:=Int->Int->Int->Int->Bool->Option LK
def LM (g:LL):Ct:=(152,FC LJ (lf As) (λb=>g b.1.1 b.1.2 b.2.1 b.b.1 b.b.2))
def Cb (x0:Int)(x1:Int)(x2:Int)(x3:Int)(x4:Bool):Pg LK:=let y0:=decide (x1>=0);ae (!x4) (ret false) (ae (decide (x0>=x2)) (ae y0 (ret (decide (wU (wU x0-wU x2)<=wU x1))) (ret false)) (ae y0 (ret true) (ret (decide (wU (wU x2-wU x0)>=wU (0-wU x1))))))
def oM:=λx0 x1 x2 x3 x4=>(Cb x0 x1 x2 x3 x4).val
theorem ahP:D0 [] 152 LJ (lf As) λb=>Cb b.1.1 b.1.2 b.2.1 b.b.1 b.b.2:=λb=>by kernel_rfl
theorem ahQ [ax]:SC (LM oM):=s0 (.nil _) ahP
def IT:=qa (pr (cu (app 0 6) fU) (cl (a 3 aLg fP) nil))
def xp:=qe aF7
abbrev IU:=xp.B
abbrev rb:=Int->Int->Int->Bool->Int->Int->Int->Option IU
def yJ (g:rb):Ct:=(86,FC IT (lf xp) (λb=>g b.1 b.2.1.1 b.2.1.2.1 b.2.1.b b.b.1 b.b.2.1 b.c))
def yK (uH:LL)(x0:Int)(x1:Int)(x2:Int)(x3:Bool)(x4:Int)(x5:Int)(x6:Int):Pg IU:=opt (uH x0 x5 x1 x2 x3) λd=>ae d (ret (decide (x2<=x6))) (ret false)
def ib:=λx0 x1 x2 x3 x4 x5 x6=>(yK oM x0 x1 x2 x3 x4 x5 x6).val
theorem aca:∀uH,D0 [LM uH] 86 IT (lf xp) λb=>yK uH b.1 b.2.1.1 b.2.1.2.1 b.2.1.b b.b.1 b.b.2.1 b.c:=λ_ b=>by kernel_rfl
theorem IV [ax]:SC (yJ ib):=s0 (.c ahQ (.nil _)) (aca oM)
def Gz:=qa (pr (cu awy wY) aAI)
def uW:=qe aF7
abbrev GA:=uW.B
abbrev xq:=Int->Int->NI->NI->(Nat->Bool)->NI->NI->NI->Int->Option GA
def GB (g:xq):Ct:=(79,FC Gz (lf uW) (λb=>g b.1.1 b.1.2 b.2.1.1 b.2.1.2.1 b.2.1.b.1 b.2.1.b.2.1 b.2.1.c.1 b.2.1.c.2 b.b))
def xr (jB:SL)(jQ:rb)(x0:Int)(x1:Int)(x2:Nat->Int)(x3:Nat->Int)(x4:Nat->Bool)(x5:Nat->Int)(x6:Nat->Int)(x7:Nat->Int)(x8:Int):Pg GA:=opt (jB x0) λd=>ae d (ae (aX x0 6) (ae (Nat.ble (0+Int.toNat x0*6+6) 36) (opt (jQ x1 ((x2,x3,x4,x5,x6,x7).1 (Int.toNat x0)) ((x3,x4,x5,x6,x7).1 (Int.toNat x0)) ((x4,x5,x6,x7).1 (Int.toNat x0)) ((x5,x6,x7).1 (Int.toNat x0)) (x6 (Int.toNat x0)) (x7 (Int.toNat x0))) λd=>ret d) no) no) (ret false)
def lS:=λx0 x1 x2 x3 x4 x5 x6 x7 x8=>(xr nK ib x0 x1 x2 x3 x4 x5 x6 x7 x8).val
theorem aaE:∀jB jQ,D0 [SM jB,yJ jQ] 79 Gz (lf uW) λb=>xr jB jQ b.1.1 b.1.2 b.2.1.1 b.2.1.2.1 b.2.1.b.1 b.2.1.b.2.1 b.2.1.c.1 b.2.1.c.2 b.b:=λ_ _ b=>by kernel_rfl
theorem aaF [ax]:SC (GB lS):=s0 (.c afk (.c IV (.nil _))) (aaE nK ib)
def GC:=qa (pr (cu awy fU) aAI)
def uX:=qe auE
abbrev GD:=uX.B
abbrev GF:=Int->NI->NI->(Nat->Bool)->NI->NI->NI->Int->Option GD
def GG (g:GF):Ct:=(43,FC GC (lf uX) (λb=>g b.1 b.2.1.1 b.2.1.2.1 b.2.1.b.1 b.2.1.b.2.1 b.2.1.c.1 b.2.1.c.2 b.b))
def dh:=qs (st (pr (cu awy (c ai (us 3 (c ai (us 2 aFY))))) (pl (cl jL nil) nil)))
def DA:=qs (st (pr (cu awy (c ai (us 3 (c ai (us 2 aF5))))) (pl (cl jL nil) nil)))
abbrev ic:=DA.B
def DB {ρ:Type}:=@ef ic ((.ex 0)) DA ρ
def tW (jQ:rb)(d:dh.B):PL dh ic:=let n3:=d.1.1;let n2:=d.2.1.2.2;let n1:=d.1.2;let y0:=Int.toNat n1.2;let y1:=y0*6;let y2:=wI (n1.2+1);let y3:=decide (n1.2<6);ae y3 (ae (aX n1.2 6) (ae (Nat.ble (2+y1+1) 36) (ae (n2.1 y0) (ae (Nat.ble (0+y1+6) 36) (opt (jQ n3 (d.2.1.1 y0) (d.2.1.2.1 y0) (n2.1 y0) (n2.2.1 y0) (n2.2.2.1 y0) (n2.2.2.2 y0)) λaj=>ae (!aj) (ae (!decide (n1.2<0)) (ret (Sum.inl ((n3,wI (n1.1+wI (1*2^min y0 64)),y2),d.2))) no) (ret (Sum.inl ((n3,n1.1,y2),d.2)))) no) (ret (Sum.inl ((n3,n1.1,y2),d.2)))) no) no) (ret (Sum.inr ((n3,n1.1,n1.2,y3),d.2)))
def tX:=bD (tW ib) 2000
def xt (dA:LT dh ic)(x0:Int)(x1:Nat->Int)(x2:Nat->Int)(x3:Nat->Bool)(x4:Nat->Int)(x5:Nat->Int)(x6:Nat->Int)(x7:Int):Pg GD:=opt (dA ((x0,0,0),(x1,x2,x3,x4,x5,x6),x7)) λd=>ret d.1.2.1
def lT:=λx0 x1 x2 x3 x4 x5 x6 x7=>(xt tX x0 x1 x2 x3 x4 x5 x6 x7).val
abbrev pM:=rb×(LT dh ic)
def xu (p:pM):KK:=⟨[yJ p.1],⟨[⟨3,(2::3::4::6::7::rg 9 13 (rg 26 7 (rg 22 4 []))),[]⟩],[fg 3 1 dh DB p.2],[],[],(some ⟨0,(rg 0 4 (rg 5 28 [])),[]⟩)⟩,1,43⟩
theorem SO (p:pM):LI (xu p) 3 dh DB (tW p.1):=λ_ d c K=>by kernel_rfl
theorem aaG (p:pM):D2 (xu p) GC (lf uX) λb=>xt p.2 b.1 b.2.1.1 b.2.1.2.1 b.2.1.b.1 b.2.1.b.2.1 b.2.1.c.1 b.2.1.c.2 b.b:=λb=>by kernel_rfl
abbrev xw:pM:=(ib,tX)
theorem aaH [ax]:SC (GG lT):=sc (kS (k:=xu xw) (.c IV (.nil _)) [3] [] ⟨kL (SO xw),trivial⟩ trivial (aaG xw))
def LN:=qa (pu (cu awy nil) aAI)
def At:=qe aF7
abbrev LO:=At.B
abbrev LP:=NI->NI->(Nat->Bool)->NI->NI->NI->Int->Option LO
def LQ (g:LP):Ct:=(44,FC LN (lf At) (λb=>g b.1.1 b.1.2.1 b.1.b.1 b.1.b.2.1 b.1.c.1 b.1.c.2 b.2))
def Cc (x0:Nat->Int)(x1:Nat->Int)(x2:Nat->Bool)(x3:Nat->Int)(x4:Nat->Int)(x5:Nat->Int)(x6:Int):Pg LO:=ret (decide (x6>=10))
def oN:=λx0 x1 x2 x3 x4 x5 x6=>(Cc x0 x1 x2 x3 x4 x5 x6).val
theorem ahR:D0 [] 44 LN (lf At) λb=>Cc b.1.1 b.1.2.1 b.1.b.1 b.1.b.2.1 b.1.c.1 b.1.c.2 b.2:=λb=>by kernel_rfl
theorem ahS [ax]:SC (LQ oN):=s0 (.nil _) ahR
def DD:=qa (pr (cu awy (c (aa aF4) (cl (aa aF4) nil))) aAI)
def rY:=qe (res (pu Th (pl (cl aAH nil) nil)))
abbrev DE:=rY.B
abbrev DF:=Bool->Int->Int->Bool->Int->Int->NI->NI->(Nat->Bool)->NI->NI->NI->Int->Option DE
def DG (g:DF):Ct:=(201,FC DD (lf rY) (λb=>g b.1.1.1 b.1.1.2.1 b.1.1.b b.1.2.1 b.1.b.1 b.1.b.2 b.2.1.1 b.2.1.2.1 b.2.1.b.1 b.2.1.b.2.1 b.2.1.c.1 b.2.1.c.2 b.b))
def tY (x0:Bool)(x1:Int)(x2:Int)(x3:Bool)(x4:Int)(x5:Int)(x6:Nat->Int)(x7:Nat->Int)(x8:Nat->Bool)(x9:Nat->Int)(fQ:Nat->Int)(fR:Nat->Int)(zF:Int):Pg DE:=let y0:=wI (zF+1);let y1:=wI (zF-1);ae (decide (x1>0)) (ae (decide (x4>0)) (ae (!x0) (ae (!x3) (ret ((x6,x7,x8,x9,fQ,fR),if 1000<y0 then 1000 else y0)) (ret ((x6,x7,x8,x9,fQ,fR),if 0>y1 then 0 else y1))) (ret ((x6,x7,x8,x9,fQ,fR),if 0>y1 then 0 else y1))) (ae (decide (x1<0)) (ae (!x0) (ae (!x3) (ae (decide (x4<0)) (ret ((x6,x7,x8,x9,fQ,fR),if 1000<y0 then 1000 else y0)) (ret ((x6,x7,x8,x9,fQ,fR),if 0>y1 then 0 else y1))) (ret ((x6,x7,x8,x9,fQ,fR),if 0>y1 then 0 else y1))) (ret ((x6,x7,x8,x9,fQ,fR),if 0>y1 then 0 else y1))) (ae (!x0) (ae (!x3) (ret ((x6,x7,x8,x9,fQ,fR),if 0>y1 then 0 else y1)) (ret ((x6,x7,x8,x9,fQ,fR),if 0>y1 then 0 else y1))) (ret ((x6,x7,x8,x9,fQ,fR),if 0>y1 then 0 else y1))))) (ae (decide (x1<0)) (ae (!x0) (ae (!x3) (ae (decide (x4<0)) (ret ((x6,x7,x8,x9,fQ,fR),if 1000<y0 then 1000 else y0)) (ret ((x6,x7,x8,x9,fQ,fR),if 0>y1 then 0 else y1))) (ret ((x6,x7,x8,x9,fQ,fR),if 0>y1 then 0 else y1))) (ret ((x6,x7,x8,x9,fQ,fR),if 0>y1 then 0 else y1))) (ae (!x0) (ae (!x3) (ret ((x6,x7,x8,x9,fQ,fR),if 0>y1 then 0 else y1)) (ret ((x6,x7,x8,x9,fQ,fR),if 0>y1 then 0 else y1))) (ret ((x6,x7,x8,x9,fQ,fR),if 0>y1 then 0 else y1))))
def kj:=λx0 x1 x2 x3 x4 x5 x6 x7 x8 x9 fQ fR zF=>(tY x0 x1 x2 x3 x4 x5 x6 x7 x8 x9 fQ fR zF).val
theorem VK:D0 [] 201 DD (lf rY) λb=>tY b.1.1.1 b.1.1.2.1 b.1.1.b b.1.2.1 b.1.b.1 b.1.b.2 b.2.1.1 b.2.1.2.1 b.2.1.b.1 b.2.1.b.2.1 b.2.1.c.1 b.2.1.c.2 b.b:=λb=>by kernel_rfl
theorem VL [ax]:SC (DG kj):=s0 (.nil _) VK
end Go.Proofs.YtcmfbkneahoonaaGreat
namespace Go.Proofs.YtcmfbkneahoonaaGreat
open Go.Ab Go.Ab.Pg
instance aOr (x0:Nat->Int)(x1:Nat->Int)(x2:Nat->Int)(x3:Int)(x4:Bool):bo (wq x0 x1 x2 x3 x4):=by
 unfold wq Ks
 refine aG ?_
 rw[bz];intro d1 _
 refine ay (akt _ (by simp)) λd _ hd=> ?_
 refine ay (aks _ (by simp)) λd _ hd=> ?_
 simp only[bG]
instance aW1 (x0 x1 x2:Int):bo (Dp x0 x1 x2):=by
 have h1:=oD x0
 have h2:=oD x1
 obtain⟨a,b,e,_,_⟩:=BT (sat x0) (sat x0) (by omega) (by omega) (by omega) (by omega)
 unfold Dp U8
 refine aG ?_
 rw[oK,bQ,oK,bQ,aL]
 refine⟨λ_=>by rw[av];trivial,λc1=> ?_⟩
 rw[aL]
 refine⟨λ_=>by rw[av];trivial,λc2=> ?_⟩
 rw[aL]
 refine⟨λ_=>by rw[av];trivial,λc3=> ?_⟩
 have c1:=of_decide_eq_false c1
 have c2:=of_decide_eq_false c2
 have sq:0<=x2*x2∧x2*x2<=1000000:=by
  refine⟨Int.mul_nonneg (by omega) (by omega),?_⟩
  have:=Int.mul_le_mul (show x2<=1000 by omega) (show x2<=1000 by omega) (by omega) (by omega)
  omega
 have w1:wI (x2*x2)=x2*x2:=eP (by omega) (by omega)
 have w2:wI (x2*x2*65536)=x2*x2*65536:=eP (by omega) (by omega)
 obtain⟨a2,b2,e2,_,_⟩:=BT (x2*x2*65536) (sat x1) (by omega) (by omega) (by omega) (by omega)
 rw[e,bQ,w1,w2,e2,bQ]
 simp only[bG]
theorem azL (p:Nat×Bool)(a b:Int)(d:mn.B)(hd:0<=d.1.2.2.2∧d.1.2.2.2<=24∧d.1.1=p∧d.1.2.1=a∧d.1.2.2.1=b):Ok (U' d) (λx:yC=>x.1.1=p∧x.1.2.1=a∧x.1.2.2.1=b):=
 aZ (s:=_) (λd:mn.B=>0<=d.1.2.2.2∧d.1.2.2.2<=24∧d.1.1=p∧d.1.2.1=a∧d.1.2.2.1=b) (λd:mn.B=>Int.toNat (24-d.1.2.2.2)) (λx:yC=>x.1.1=p∧x.1.2.1=a∧x.1.2.2.1=b) (λd hd=>by
  have hw:wI (d.1.2.2.2+1)=d.1.2.2.2+1:=bd (by omega) (by omega)
  unfold U9
  simp only[bG]
  simp only[nf,rX,hw]
  repeat' (first|exact True.intro|exact hd.2.2.1|exact hd.2.2.2.1|exact hd.2.2.2.2|omega|(intro _)|(apply And.intro))) 2000 d hd (by omega)
theorem azM (d:mo.B)(hd:0<=d.1.2.2∧d.1.2.2<=d.1.2.1∧d.1.2.1<=1999∧d.1.2.1=((d.1.1.1:Nat):Int)):Ok (Vb d) (λx:yD=>True):=
 aZ (s:=_) (λd:mo.B=>0<=d.1.2.2∧d.1.2.2<=d.1.2.1∧d.1.2.1<=1999∧d.1.2.1=((d.1.1.1:Nat):Int)) (λd:mo.B=>Int.toNat (d.1.2.1-d.1.2.2)) (λx:yD=>True) (λd hd=>by
  unfold Va
  try dsimp only
  rw[aL]
  refine⟨λh=> ?_,λ_=>by simp only[av,Sum.elim_inr]⟩
  have h:=of_decide_eq_true h
  have hw:wI (d.1.2.2+1)=d.1.2.2+1:=bd (by omega) (by omega)
  rw[bC,aM,bC]
  refine⟨by simp only[bn];omega,rfl,?_⟩
  refine ay (azL d.1.1 d.1.2.1 d.1.2.2 _ (by simp)) λx _ hx=> ?_
  obtain⟨a1,a2,a3⟩:=hx
  simp only[bG,a1,a2,a3,hw]
  omega) 2000 d hd (by omega)
theorem aHI (x:Kv.B)(h:x.1.2.1<=1999):bo (Kw x):=by
 unfold Kw aeS
 refine aG ?_
 rw[aL,aM,bC]
 refine⟨λ_=>by simp only[bG],λ_=>⟨rfl,?_⟩⟩
 refine ay (azM _ (hdN x.1.2.1 h)) λd _ hd=> ?_
 simp only[av]
instance aVK (x0:Nat->Int)(x1:Nat->Int)(x2:Nat->Int)(x3:Nat->Int)(x4:Int)(x5:Int)(x6:Int)(x7:Bool):bo (OP x0 x1 x2 x3 x4 x5 x6 x7):=by
 have ta:=λ(d:Nat->Int) a b=>aHI ((d,1,true),a,b) (by show 1<=1999;omega)
 unfold OP akm
 refine aG ?_
 simp only[bG]
theorem aCX (n:Int)(d:nI.B)(hd:0<=d.1.2.2.2∧d.1.2.2.2<=d.1.2.2.1∧d.1.2.2.1<=1999∧d.1.2.2.1=((d.1.2.1.1:Nat):Int)∧(d.1.1:Int)=d.1.2.2.2∧d.1.2.2.1=n):Ok (aab d) (λx:BU=>(x.1.1:Int)=n):=
 aZ (s:=_) (λd:nI.B=>0<=d.1.2.2.2∧d.1.2.2.2<=d.1.2.2.1∧d.1.2.2.1<=1999∧d.1.2.2.1=((d.1.2.1.1:Nat):Int)∧(d.1.1:Int)=d.1.2.2.2∧d.1.2.2.1=n) (λd:nI.B=>Int.toNat (d.1.2.2.1-d.1.2.2.2)) (λx:BU=>(x.1.1:Int)=n) (λd hd=>by
  have hw:wI (d.1.2.2.2+1)=d.1.2.2.2+1:=bd (by omega) (by omega)
  unfold aaa
  simp only[bG]
  simp only[nf,rX,hw]
  repeat' (first|exact True.intro|omega|(intro _)|(apply And.intro))) 2000 d hd (by omega)
end Go.Proofs.YtcmfbkneahoonaaGreat
namespace Go.Proofs.YtcmfbkneahoonaaGreat
open Go.Ab Go.Ab.Pg
theorem aHJ (x:OR.B)(h:x.1.2.2.1<=1999):Ok (OS x) (λr:Yg=>r.1.2.2=x.1.2.2.1):=by
 unfold OS aku
 show PQ _ _
 rw[aM,bC,bC]
 refine⟨rfl,rfl,?_⟩
 refine ay (aCX ((x.1.2.2.1:Nat):Int) _ ?_) λd _ hd=> ?_
 ·dsimp only
  simp only[Int.ofNat_eq_natCast]
  exact⟨by omega,by omega,by omega,trivial,rfl,trivial⟩
 ·rw[av]
  exact Int.ofNat.inj hd
theorem av0 (d:kM.B)(hd:0<=d.1.2.2.2.2∧d.1.2.2.2.2<=d.1.2.2.2.1∧d.1.2.2.2.1<=1999∧d.1.2.2.2.1=((d.1.2.2.1.1:Nat):Int)):Ok (QM d) (λx:vI=>True):=
 aZ (s:=_) (λd:kM.B=>0<=d.1.2.2.2.2∧d.1.2.2.2.2<=d.1.2.2.2.1∧d.1.2.2.2.1<=1999∧d.1.2.2.2.1=((d.1.2.2.1.1:Nat):Int)) (λd:kM.B=>Int.toNat (d.1.2.2.2.1-d.1.2.2.2.2)) (λx:vI=>True) (λd hd=>by
  have hw:wI (d.1.2.2.2.2+1)=d.1.2.2.2.2+1:=bd (by omega) (by omega)
  unfold QL
  simp only[bG]
  simp only[nf,Bool.not_eq_true',rX,hw]
  repeat' (first|exact True.intro|omega|(intro _)|(apply And.intro))) 2000 d hd (by omega)
theorem aoR (x0:Nat)(x1:Nat->Bool)(x2:Nat->Int)(x3:Nat->Int)(w0:Bool)(h:x0<=1999):bo (xf x0 x1 x2 x3 w0):=by
 unfold xf aae
 refine aG ?_
 rw[aM,bC]
 refine⟨rfl,?_⟩
 refine ay (av0 _ (hdN x0 h)) λd _ hd=> ?_
 simp only[bG]
instance aPu:bo dI:=by
 unfold dI MQ
 exact aG (by simp only[bG])
theorem av1 (d:kP.B)(hd:0<=d.1.2.2.2.2∧d.1.2.2.2.2<=d.1.2.2.2.1∧d.1.2.2.2.1<=1999∧d.1.2.2.2.1=((d.1.2.2.1.1:Nat):Int)∧(d.1.1:Int)<=d.1.2.2.2.2∧(d.1.2.1:Int)<=d.1.2.2.2.2∧d.1.2.2.2.1<=1900):Ok (QO d) (λx:vJ=>x.1.1<=1900∧x.1.2.1<=1900):=
 aZ (s:=_) (λd:kP.B=>0<=d.1.2.2.2.2∧d.1.2.2.2.2<=d.1.2.2.2.1∧d.1.2.2.2.1<=1999∧d.1.2.2.2.1=((d.1.2.2.1.1:Nat):Int)∧(d.1.1:Int)<=d.1.2.2.2.2∧(d.1.2.1:Int)<=d.1.2.2.2.2∧d.1.2.2.2.1<=1900) (λd:kP.B=>Int.toNat (d.1.2.2.2.1-d.1.2.2.2.2)) (λx:vJ=>x.1.1<=1900∧x.1.2.1<=1900) (λd hd=>by
  have hw:wI (d.1.2.2.2.2+1)=d.1.2.2.2.2+1:=bd (by omega) (by omega)
  unfold QN
  simp only[bG]
  simp only[nf,Bool.not_eq_true',rX,hw]
  repeat' (first|exact True.intro|omega|(intro _)|(apply And.intro))) 2000 d hd (by omega)
theorem aEh (x0:Nat)(x1:Bool)(x2:Nat->Int)(x3:Nat->Int)(x4:Nat->Int)(x5:Nat->Int)(x6:Nat->Int)(x7:Nat->Int)(x8:Nat->Int)(x9:Nat->Int)(fQ:Nat->Int)(fR:Nat->Int)(w0:Bool)(h:x0<=1900):bo (Gq x0 x1 x2 x3 x4 x5 x6 x7 x8 x9 fQ fR w0):=by
 unfold Gq aai
 try dsimp only
 refine aG ?_
 rw[bz];intro d1 _
 rw[aM,bC,bC]
 refine⟨rfl,rfl,?_⟩
 refine ay (av1 _ ?_) λd _ hd=> ?_
 ·try dsimp only
  simp only[Int.ofNat_eq_natCast]
  exact⟨by omega,by omega,by omega,trivial,by omega,by omega,by omega⟩
 ·have t1:=λa b c e g=>aeX d.1.1 a b c e g hd.1
  have t2:=λa b c e g=>aeX d.1.2.1 a b c e g hd.2
  simp only[bG,aM,Bool.true_eq_false,false_implies]
instance aW2 (x0 x1:Nat->Int)(x2:Int)(x4:Bool)(x5:Nat->Int)(w0:Bool):bo (cQ x0 x1 x2 4 x4 x5 w0):=KC _ _ _ _ _ _ _ (by omega)
instance aW3 (x0 x1:Nat->Int)(x2:Int)(x4:Bool)(x5:Nat->Int)(w0:Bool):bo (cQ x0 x1 x2 3 x4 x5 w0):=KC _ _ _ _ _ _ _ (by omega)
instance aW4 (x0 x1:Nat->Int)(x2:Int)(x4:Bool)(x5:Nat->Int)(w0:Bool):bo (cQ x0 x1 x2 2 x4 x5 w0):=KC _ _ _ _ _ _ _ (by omega)
instance aW5 (x0 x1:Nat->Int)(x2:Int)(x4:Bool)(x5:Nat->Int)(w0:Bool):bo (cQ x0 x1 x2 1 x4 x5 w0):=KC _ _ _ _ _ _ _ (by omega)
instance aUy (x0:Nat->Int)(x1:Nat->Int)(x2:Nat->Int)(x3:Int)(x4:Int)(x5:Bool):bo (KF x0 x1 x2 x3 x4 x5):=by
 unfold KF aeZ
 exact aG (by simp only[bG])
theorem atZ (d:jz.B)(hd:0<=d.1.2.2.2.2∧d.1.2.2.2.2<=d.1.2.2.2.1∧d.1.2.2.2.1<=1999∧d.1.2.2.2.1=((d.1.2.2.1.1:Nat):Int)∧(d.1.2.1:Int)=d.1.2.2.2.2∧0<=d.1.1∧d.1.1+d.1.2.2.2.1<=24):Ok (MS d) (λx:tz=>True):=
 aZ (s:=_) (λd:jz.B=>0<=d.1.2.2.2.2∧d.1.2.2.2.2<=d.1.2.2.2.1∧d.1.2.2.2.1<=1999∧d.1.2.2.2.1=((d.1.2.2.1.1:Nat):Int)∧(d.1.2.1:Int)=d.1.2.2.2.2∧0<=d.1.1∧d.1.1+d.1.2.2.2.1<=24) (λd:jz.B=>Int.toNat (d.1.2.2.2.1-d.1.2.2.2.2)) (λx:tz=>True) (λd hd=>by
  have hw:wI (d.1.2.2.2.2+1)=d.1.2.2.2.2+1:=bd (by omega) (by omega)
  unfold MR
  try dsimp only
  have h1:wI (d.1.1+d.1.2.2.2.2)=d.1.1+d.1.2.2.2.2:=eP (by omega) (by omega)
  simp only[h1]
  simp only[bG]
  simp only[nf,Bool.not_eq_true',rX,hw]
  repeat' (first|exact True.intro|omega|(intro _)|(apply And.intro))) 2000 d hd (by omega)
theorem VM (x0:Nat->Int)(x1:Int)(x2:Nat)(x3:Bool)(x4:Nat->Int)(w0:Bool)(h0:0<=x1)(h1:x1+(x2:Int)<=24):bo (iX x0 x1 x2 x3 x4 w0):=by
 unfold iX Vf
 refine aG ?_
 rw[bz];intro d1 _
 rw[aM,bC,bC]
 refine⟨rfl,rfl,?_⟩
 refine ay (atZ _ ?_) λd _ hd=> ?_
 ·dsimp only
  simp only[Int.ofNat_eq_natCast]
  exact⟨by omega,by omega,by omega,trivial,rfl,h0,h1⟩
 ·simp only[bG]
def ahe (a:Int)(n:Nat)(f:Nat->Int):Nat->Int:=λj=>bif Nat.beq j (n+1) then a else bif Nat.beq j n then a else f j
theorem sum_add (a b:Int)(n:Nat)(hn:n<=1000)(f g:Nat->Int):lQ a b n n f g=some ((n+2,n+2),ahe a n f,ahe b n g):=by
 have hb:Nat.ble ((n+2)*8) 140737488355328=true:=by rw[bL];omega
 simp only[lQ,Vl,bM,bP,eE,hb,cond_true]
 rfl
theorem aPv (a b:Int)(f g:Nat->Int):lQ a b 0 0 f g=some ((2,2),ahe a 0 f,ahe b 0 g):=sum_add a b 0 (by omega) f g
theorem aPw (a b:Int)(f g:Nat->Int):lQ a b 2 2 f g=some ((4,4),ahe a 2 f,ahe b 2 g):=sum_add a b 2 (by omega) f g
theorem aPx (a b:Int)(f g:Nat->Int):lQ a b 4 4 f g=some ((6,6),ahe a 4 f,ahe b 4 g):=sum_add a b 4 (by omega) f g
theorem aPy (a b:Int)(f g:Nat->Int):lQ a b 6 6 f g=some ((8,8),ahe a 6 f,ahe b 6 g):=sum_add a b 6 (by omega) f g
theorem aPz (a b:Int)(f g:Nat->Int):lQ a b 8 8 f g=some ((10,10),ahe a 8 f,ahe b 8 g):=sum_add a b 8 (by omega) f g
instance aYF (eO:Bool)(f g:Nat->Int)(w w':Bool):bo (br 30 6 6 eO f g w w'):=KB 6 (by omega) eO f g w w'
instance aYG (eO:Bool)(f g:Nat->Int)(w w':Bool):bo (br 30 8 8 eO f g w w'):=KB 8 (by omega) eO f g w w'
instance aXV (eO:Bool)(f g:Nat->Int)(w w':Bool):bo (br 30 10 10 eO f g w w'):=KB 10 (by omega) eO f g w w'
instance aTW (x0:Int)(x1:Int)(x2:Int)(x3:Int)(x4:Int)(x5:Int)(x6:Int)(x7:Bool):bo (xg x0 x1 x2 x3 x4 x5 x6 x7):=by
 unfold xg aan
 try dsimp only
 exact aG (by simp only[bG,aPv,aPw,aPx,aPy,aPz,bQ,aM,true_implies,Bool.true_eq_false,false_implies])
instance aTX (x0:Int)(x1:Int)(x2:Int)(x3:Int)(x4:Int)(x5:Int)(x6:Int)(x7:Int)(x8:Int):bo (xi x0 x1 x2 x3 x4 x5 x6 x7 x8):=by
 unfold xi aaq
 exact aG (by simp only[bG])
instance aTY (x0:Int)(x1:Int)(x2:Int):bo (fO x0 x1 x2):=by
 unfold fO Gu
 exact aG (by simp only[bG])
instance aUz (x0:Int)(x1:Int)(x2:Int)(x3:Int)(x4:Int)(x5:Int)(x6:Int)(x7:Int)(x8:Int):bo (KJ x0 x1 x2 x3 x4 x5 x6 x7 x8):=by
 unfold KJ ae1
 exact aG (by simp only[bG])
instance aPA (x0:Int):bo (yF x0):=by
 unfold yF MU
 exact aG (by simp only[bG])
instance aUA (x0:Int)(x1:Int)(x2:Int)(x3:Int)(x4:Int)(x5:Int)(x6:Int)(x7:Int)(x8:Int)(x9:Bool):bo (An x0 x1 x2 x3 x4 x5 x6 x7 x8 x9):=by
 unfold An ae5
 exact aG (by simp only[bG])
theorem aqE (d:iK.B)(hd:0<=d.1.2.2∧d.1.2.2<=d.1.2.1∧d.1.2.1<=1999∧d.1.2.1=((d.1.1.1:Nat):Int)):Ok (KN d) (λx:qZ=>True):=
 aZ (s:=_) (λd:iK.B=>0<=d.1.2.2∧d.1.2.2<=d.1.2.1∧d.1.2.1<=1999∧d.1.2.1=((d.1.1.1:Nat):Int)) (λd:iK.B=>Int.toNat (d.1.2.1-d.1.2.2)) (λx:qZ=>True) (λd hd=>by
  have hw:wI (d.1.2.2+1)=d.1.2.2+1:=bd (by omega) (by omega)
  unfold KM
  simp only[bG]
  simp only[nf,Bool.not_eq_true',rX,hw]
  repeat' (first|exact True.intro|omega|(intro _)|(apply And.intro))) 2000 d hd (by omega)
theorem azN (x0:Nat)(x1:Nat->Int)(w0:Bool)(h:x0<=1999):bo (oo x0 x1 w0):=by
 unfold oo QR
 refine aG ?_
 rw[aM,bC]
 refine⟨rfl,?_⟩
 refine ay (aqE _ (hdN x0 h)) λd _ hd=> ?_
 simp only[bG]
instance aXW (x1:Nat->Int)(w0:Bool):bo (oo 1 x1 w0):=azN _ _ _ (by omega)
theorem tD (x0:Nat->Int)(x1:Int)(x2:Int)(x3:Int)(x4:Int)(x5:Bool)(h0:0<=x1)(h1:x1<24):bo (dJ x0 x1 x2 x3 x4 x5):=by
 have hr:aX x1 24=true:=by simp only[bn];omega
 unfold dJ MW
 exact aG (by simp only[bG,hr,Bool.true_eq_false,false_implies])
end Go.Proofs.YtcmfbkneahoonaaGreat
namespace Go.Proofs.YtcmfbkneahoonaaGreat
open Go.Ab Go.Ab.Pg
instance aUB (x0:Nat->Int)(x2 x3 x4:Int)(x5:Bool):bo (dJ x0 4 x2 x3 x4 x5):=tD _ _ _ _ _ _ (by omega) (by omega)
instance aUC (x0:Nat->Int)(x2 x3 x4:Int)(x5:Bool):bo (dJ x0 5 x2 x3 x4 x5):=tD _ _ _ _ _ _ (by omega) (by omega)
instance aUD (x0:Nat->Int)(x2 x3 x4:Int)(x5:Bool):bo (dJ x0 6 x2 x3 x4 x5):=tD _ _ _ _ _ _ (by omega) (by omega)
instance aUE (x0:Nat->Int)(x2 x3 x4:Int)(x5:Bool):bo (dJ x0 7 x2 x3 x4 x5):=tD _ _ _ _ _ _ (by omega) (by omega)
instance aUF (x0:Nat->Int)(x2 x3 x4:Int)(x5:Bool):bo (dJ x0 8 x2 x3 x4 x5):=tD _ _ _ _ _ _ (by omega) (by omega)
instance aUG (x0:Nat->Int)(x2 x3 x4:Int)(x5:Bool):bo (dJ x0 9 x2 x3 x4 x5):=tD _ _ _ _ _ _ (by omega) (by omega)
instance aYH (eO:Bool)(l:Nat->Int)(w:Bool):bo (cG 4 eO l w):=aHp 4 (by omega) eO l w
instance aW6 (eO:Bool)(f:Nat->Int)(w:Bool):bo (fM 2 eO f w):=aCF 2 (by omega) eO f w
instance aPB (x0:Nat->Int)(x1:Int)(x2:Int)(x3:Int)(x4:Int)(x5:Int)(x6:Int)(x7:Int)(x8:Int)(x9:Int)(fQ:Bool):bo (yG x0 x1 x2 x3 x4 x5 x6 x7 x8 x9 fQ):=by
 unfold yG MY
 exact aG (by simp only[bG,oL])
instance aOs (x0:Int)(x1:Int)(x2:Int)(x3:Int)(x4:Int)(x5:Int)(x6:Int)(x7:Int)(x8:Bool):bo (jA x0 x1 x2 x3 x4 x5 x6 x7 x8):=by
 unfold jA KQ
 exact aG (by simp only[bG,oL])
instance aNc (x:tQ.B):bo (tT x):=by
 unfold tT HV
 exact aG (by simp only[bG,oL])
instance aTu (x:Ds.B):bo (Dt x):=by
 unfold Dt Vu
 try dsimp only
 exact aG (by simp only[bG,oL])
instance aNd (x0:Int):bo (tU x0):=by
 unfold tU HX
 exact aG (by simp only[bG,oL])
instance aTv (x0:Int)(x1:Int)(x2:Int)(x3:Int)(x4:Int)(x5:Int)(x6:Int)(x7:Int)(x8:Int)(x9:Int)(fQ:Int)(fR:Bool):bo (tV x0 x1 x2 x3 x4 x5 x6 x7 x8 x9 fQ fR):=by
 unfold tV VC
 exact aG (by simp only[bG,oL])
instance aNe (x0:Int)(x1:Int)(x2:Int)(x3:Int)(x4:Int)(x5:Int)(x6:Int)(x7:Int)(x8:Int)(x9:Bool):bo (mA x0 x1 x2 x3 x4 x5 x6 x7 x8 x9):=by
 unfold mA H0
 exact aG (by simp only[bG,oL])
instance aTw (x0:Nat->Int)(x1:Int)(x2:Int)(x3:Int)(x4:Bool):bo (Du x0 x1 x2 x3 x4):=by
 unfold Du VG
 exact aG (by simp only[bG,oL])
instance aKO (x0:Int)(x1:Int)(x2:Int)(x3:Int)(x4:Int)(x5:Int)(x6:Int)(x7:Int)(x8:Int)(x9:Bool):bo (ln x0 x1 x2 x3 x4 x5 x6 x7 x8 x9):=by
 unfold ln FG
 exact aG (by simp only[bG,oL])
instance aP4 (x0:Nat->Int)(x1:Int)(x2:Int)(x3:Int)(x4:Int)(x5:Bool):bo (Bp x0 x1 x2 x3 x4 x5):=by
 unfold Bp QX
 try dsimp only
 exact aG (by simp only[bG,oL])
instance aP5 (x0:Int):bo (Bq x0):=by
 unfold Bq Q3
 exact aG (by simp only[bG,oL])
instance aVL (x0:Int)(x1:Int)(x2:Int)(x3:Int)(x4:Int)(x5:Int)(x6:Int)(x7:Int)(x8:Int)(x9:Bool):bo (wA x0 x1 x2 x3 x4 x5 x6 x7 x8 x9):=by
 unfold wA akO
 exact aG (by simp only[bG,oL])
instance aVM (x0:Nat->Int)(x1:Int)(x2:Int)(x3:Int)(x4:Int)(x5:Int)(x6:Bool):bo (OU x0 x1 x2 x3 x4 x5 x6):=by
 unfold OU akS
 try dsimp only
 exact aG (by simp only[bG,oL])
instance aTZ (x0:Int)(x1:Int)(x2:Int)(x3:Bool):bo (xm x0 x1 x2 x3):=by
 unfold xm aax
 exact aG (by simp only[bG,oL])
instance aTx (x0:Nat->Int)(x1:Int)(x2:Int)(x3:Int)(x4:Int)(x5:Int)(x6:Int)(x7:Int)(x8:Bool):bo (Dw x0 x1 x2 x3 x4 x5 x6 x7 x8):=by
 unfold Dw VI
 try dsimp only
 exact aG (by simp only[bG,oL])
instance aUH (x0:Int)(x1:Int)(x2:Int)(x3:Int)(x4:Int)(x5:Int)(x6:Int)(x7:Int)(x8:Int)(x9:Bool):bo (KS x0 x1 x2 x3 x4 x5 x6 x7 x8 x9):=by
 unfold KS ae9
 exact aG (by simp only[bG,oL])
instance aP6 (x0:Int):bo (Br x0):=by
 unfold Br Q5
 exact aG (by simp only[bG,oL])
instance aVN (x0:Int)(x1:Int)(x2:Int)(x3:Int)(x4:Int)(x5:Int)(x6:Int)(x7:Int)(x8:Int)(x9:Bool):bo (Dx x0 x1 x2 x3 x4 x5 x6 x7 x8 x9):=by
 unfold Dx ak2
 exact aG (by simp only[bG,oL])
instance aP7 (x0:Nat->Int)(x1:Bool):bo (rD x0 x1):=by
 unfold rD Q7
 exact aG (by simp only[bG,oL])
instance aUI (x0:Int)(x1:Int)(x2:Int)(x3:Nat->Int)(x4:Int)(x5:Int)(x6:Int):bo (Ap x0 x1 x2 x3 x4 x5 x6):=by
 unfold Ap afc
 exact aG (by simp only[bG,oL])
instance aP8 (x0:Nat->Int)(x1:Int)(x2:Int)(x3:Int)(x4:Bool):bo (Bt x0 x1 x2 x3 x4):=by
 unfold Bt Q8
 exact aG (by simp only[bG,oL])
instance aP9 (x0:Nat->Int)(x1:Int)(x2:Int)(x3:Bool):bo (Bu x0 x1 x2 x3):=by
 unfold Bu Ra
 try dsimp only
 exact aG (by simp only[bG,oL])
instance aPC (x0:Int):bo (yH x0):=by
 unfold yH M8
 exact aG (by simp only[bG,oL])
instance aUJ (x0:Int)(x1:Int)(x2:Int)(x3:Int)(x4:Int)(x5:Int)(x6:Int)(x7:Int)(x8:Int)(x9:Bool):bo (Aq x0 x1 x2 x3 x4 x5 x6 x7 x8 x9):=by
 unfold Aq afh
 exact aG (by simp only[bG,oL])
instance aPD (x0:Nat->Int)(x1:Bool):bo (yI x0 x1):=by
 unfold yI M'
 exact aG (by simp only[bG,oL])
instance aUK (x0:Nat->Int)(x1:Int)(x2:Int)(x3:Int)(x4:Int)(x5:Int)(x6:Bool):bo (Ar x0 x1 x2 x3 x4 x5 x6):=by
 unfold Ar SK
 try dsimp only
 exact aG (by simp only[bG,oL])
instance aUL (x0:Int):bo (nK x0):=by
 unfold nK SN
 exact aG (by simp only[bG,oL])
instance aKh (x0:Int)(x1:Int)(x2:Int)(x3:Bool):bo (qf x0 x1 x2 x3):=by
 unfold qf Dy
 exact aG (by simp only[bG,oL])
instance aKi (x0:Int)(x1:Int)(x2:Bool):bo (qg x0 x1 x2):=by
 unfold qg Dz
 exact aG (by simp only[bG,oL])
instance aIf (x0:Int)(x1:Int)(x2:Int)(x3:Int)(x4:Bool):bo (oM x0 x1 x2 x3 x4):=by
 unfold oM Cb
 exact aG (by simp only[bG,oL])
instance aFB (x0:Int)(x1:Int)(x2:Int)(x3:Bool)(x4:Int)(x5:Int)(x6:Int):bo (ib x0 x1 x2 x3 x4 x5 x6):=by
 unfold ib yK
 exact aG (by simp only[bG,oL])
instance aIg (x0:Nat->Int)(x1:Nat->Int)(x2:Nat->Bool)(x3:Nat->Int)(x4:Nat->Int)(x5:Nat->Int)(x6:Int):bo (oN x0 x1 x2 x3 x4 x5 x6):=by
 unfold oN Cc
 exact aG (by simp only[bG,oL])
instance aCY (x0:Bool)(x1:Int)(x2:Int)(x3:Bool)(x4:Int)(x5:Int)(x6:Nat->Int)(x7:Nat->Int)(x8:Nat->Bool)(x9:Nat->Int)(fQ:Nat->Int)(fR:Nat->Int)(zF:Int):bo (kj x0 x1 x2 x3 x4 x5 x6 x7 x8 x9 fQ fR zF):=by
 unfold kj tY
 exact aG (by simp only[bG,oL])
end Go.Proofs.YtcmfbkneahoonaaGreat
