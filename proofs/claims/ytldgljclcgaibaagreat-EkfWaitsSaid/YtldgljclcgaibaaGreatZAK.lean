/-
  Parts of the proof: TN TO TP TQ TR8 TS8 TPut Q5 TNh TNd TT TV TW TX TY TZ TNw
-/
import Derived.Test.YtldgljclcgaibaaGreatZAE
import Derived.Test.YtldgljclcgaibaaGreatZAJ
set_option linter.unusedVariables false
set_option linter.unusedSimpArgs false
set_option maxRecDepth 100000
set_option maxHeartbeats 4000000
namespace Go.Proofs.YtldgljclcgaibaaGreat
open Go.Ab Go.Ab.Pg
theorem aH3 (x:nS.B):Ok (nT x) (λr:AP=>r.1.2.2.2.2.2.2.2.2.2.2.2.2.2.2.2.2=x.2.1.2.2.2.2.2.2.2.2.2.2.2.2.2.2.2.2∧r.1.2.2.2.2.1=x.2.1.2.2.2.2.1∧r.1.2.2.2.2.2.2.2.2.2.2.2.2.2.1=x.2.1.2.2.2.2.2.2.2.2.2.2.2.2.2.1):=by
 unfold nT AQ
 try dsimp only
 show PQ _ _
 simp only[aM]
 repeat' (first
  |rw[aB]
  |(rw[aK];refine⟨λ_=> ?_,λ_=> ?_⟩)
  |(rw[qh];refine⟨λ_ _=> ?_,λ_ _=> ?_⟩)
  |(with_reducible refine ay (acn _ ?_) λe _ he=> ?_)
  |(with_reducible refine ay (Wo _ ?_) λq _ hq=> ?_)
  |(with_reducible refine ay (Px _ ?_) λt _ ht=> ?_)
  |(rw[bu];intro _ _))
 all_goals first|(rw[av];exact⟨hq.1.trans he.2.1,hq.2.1.trans he.2.2.1,hq.2.2.trans he.2.2.2⟩)|(rw[av];exact he.2)|(rw[av];exact⟨rfl,rfl,rfl⟩)|omega|(dsimp only;omega)|(have h1:=he.1;(try dsimp only at h1);(try dsimp only);omega)
theorem aH4 (x:nU.B):Ok (nV x) (λr:AT=>r.1.2.2.2.2.2.2.2.2.2.2.2.2.2.2.2.2=x.2.1.2.2.2.2.2.2.2.2.2.2.2.2.2.2.2.2∧r.1.2.2.2.2.1=x.2.1.2.2.2.2.1∧r.1.2.2.2.2.2.2.2.2.2.2.2.2.2.1=x.2.1.2.2.2.2.2.2.2.2.2.2.2.2.2.1):=by
 unfold nV AU
 try dsimp only
 show PQ _ _
 simp only[aM]
 repeat' (first
  |rw[aB]
  |(rw[aK];refine⟨λ_=> ?_,λ_=> ?_⟩)
  |(rw[qh];refine⟨λ_ _=> ?_,λ_ _=> ?_⟩)
  |(with_reducible refine ay (acn _ ?_) λe _ he=> ?_)
  |(with_reducible refine ay (Wo _ ?_) λq _ hq=> ?_)
  |(with_reducible refine ay (Px _ ?_) λt _ ht=> ?_)
  |(rw[bu];intro _ _))
 all_goals first|(rw[av];exact⟨hq.1.trans he.2.1,hq.2.1.trans he.2.2.1,hq.2.2.trans he.2.2.2⟩)|(rw[av];exact he.2)|(rw[av];exact⟨rfl,rfl,rfl⟩)|omega|(dsimp only;omega)|(have h1:=he.1;(try dsimp only at h1);(try dsimp only);omega)
theorem aEx (x0:Nat->Int)(x1:Int)(x2:Int)(x3:Int)(x4:Int)(x5:Int)(x6:Bool):Ok (AA x0 x1 x2 x3 x4 x5 x6) (λr:SL=>match r with|.inl e=>(e.1!=0)=true|.inr _=>True):=by
 unfold AA SM
 try dsimp only
 show PQ _ _
 simp only[bE]
 repeat' (first|exact True.intro|rfl|assumption|(apply And.intro)|(intro _))
theorem aUm (x:uD.B):Ok (uF x) (λr:Iv=>r.1.2.2.2.2.2.2.2.2.2.2.2.2.2.2.2.2=x.2.1.2.2.2.2.2.2.2.2.2.2.2.2.2.2.2.2∧r.1.2.2.2.2.1=x.2.1.2.2.2.2.1∧r.1.2.2.2.2.2.2.2.2.2.2.2.2.2.1=x.2.1.2.2.2.2.2.2.2.2.2.2.2.2.2.1):=by
 unfold uF Iw
 try dsimp only
 show PQ _ _
 simp only[aM]
 rw[bu];intro d _
 with_reducible refine ay (aEx _ _ _ _ _ _ _) λfb _ hfb=> ?_
 rw[qh]
 refine⟨λa ha=> ?_,λa ha=> ?_⟩
 ·subst ha
  have hfb:(a.1!=0)=true:=hfb
  rw[hfb]
  repeat' (first
   |rw[aB]
   |(rw[aK];refine⟨λ_=> ?_,λ_=> ?_⟩)
   |(rw[qh];refine⟨λ_ _=> ?_,λ_ _=> ?_⟩)
   |(with_reducible refine ay (acn _ ?_) λe _ he=> ?_)
   |(with_reducible refine ay (Wo _ ?_) λq _ hq=> ?_)
   |(with_reducible refine ay (Px _ ?_) λt _ ht=> ?_)
   |(rw[bu];intro _ _))
  all_goals first|(rw[av];exact⟨hq.1.trans he.2.1,hq.2.1.trans he.2.2.1,hq.2.2.trans he.2.2.2⟩)|(rw[av];exact he.2)|(rw[av];exact⟨rfl,rfl,rfl⟩)|omega|(dsimp only;omega)|(have h1:=he.1;(try dsimp only at h1);(try dsimp only);omega)
 ·subst ha
  repeat' (first
   |rw[aB]
   |(rw[aK];refine⟨λ_=> ?_,λ_=> ?_⟩)
   |(rw[qh];refine⟨λ_ _=> ?_,λ_ _=> ?_⟩)
   |(with_reducible refine ay (acn _ ?_) λe _ he=> ?_)
   |(with_reducible refine ay (Wo _ ?_) λq _ hq=> ?_)
   |(with_reducible refine ay (Px _ ?_) λt _ ht=> ?_)
   |(rw[bu];intro _ _))
  all_goals first|(rw[av];exact⟨hq.1.trans he.2.1,hq.2.1.trans he.2.2.1,hq.2.2.trans he.2.2.2⟩)|(rw[av];exact he.2)|(rw[av];exact⟨rfl,rfl,rfl⟩)|omega|(dsimp only;omega)|(have h1:=he.1;(try dsimp only at h1);(try dsimp only);omega)
end Go.Proofs.YtldgljclcgaibaaGreat
namespace Go.Proofs.YtldgljclcgaibaaGreat
open Go.Ab Go.Ab.Pg
theorem afx (x0:Int)(x1:Int)(x2:Int)(x3:Int)(x4:Int)(x5:Int)(x6:Int)(x7:Int)(x8:Int)(x9:Bool)(h0:0<=x7)(h1:x7<=5):bl (nR x0 x1 x2 x3 x4 x5 x6 x7 x8 x9):=by
 have hw:wI (x7+1)=x7+1:=ey (by omega) (by omega)
 have b1:aX x7 7=true:=by simp only[bk];omega
 have b2:aX (x7+1) 7=true:=by simp only[bk];omega
 unfold nR AK
 refine aF ?_
 simp only[hw,b1,b2]
 simp only[bE,true_implies,Bool.true_eq_false,false_implies]
theorem aoX {x0 x1 x2:Int}{d:aap}(h:fN x0 x1 x2=some d)(k:d=true): -900000000<=x0∧x0<=900000000∧ -1800000000<=x1∧x1<=1800000000:=by
 have e:PQ (GB x0 x1 x2) (λd:Bool=>d=true-> -900000000<=x0∧x0<=900000000∧ -1800000000<=x1∧x1<=1800000000):=by
  simp only[GB,aK,av,ge_iff_le,decide_eq_true_eq,decide_eq_false_iff_not,Bool.false_eq_true,false_implies,implies_true,and_true]
  omega
 exact Ok.post e h k
instance aKJ (x0:Int)(x1:Int)(x2:Int)(x3:Bool):bl (qB x0 x1 x2 x3):=by
 unfold qB DS
 refine aF ?_
 rw[bu];intro d hd
 rw[aK]
 refine⟨λ_=>by rw[av];trivial,λh=> ?_⟩
 obtain⟨a0,a1,a2,a3⟩:=aoX hd (by simpa using h)
 have w0:wI (x0+900000000)=x0+900000000:=ey (by omega) (by omega)
 have w1:wI (x1+1800000000)=x1+1800000000:=ey (by omega) (by omega)
 have e0:Int.tdiv (x0+900000000) 450000000=(x0+900000000)/450000000:=Int.tdiv_eq_ediv_of_nonneg (by omega)
 have e1:Int.tdiv (x1+1800000000) 600000000=(x1+1800000000)/600000000:=Int.tdiv_eq_ediv_of_nonneg (by omega)
 rw[w0,w1,e0,e1]
 have w2:wI ((x0+900000000)/450000000)=(x0+900000000)/450000000:=ey (by omega) (by omega)
 have w3:wI ((x1+1800000000)/600000000)=(x1+1800000000)/600000000:=ey (by omega) (by omega)
 rw[w2,w3]
 have r1:0<=(if 3<(x0+900000000)/450000000 then 3 else(x0+900000000)/450000000)∧(if 3<(x0+900000000)/450000000 then 3 else(x0+900000000)/450000000)<=3:=by split<;>omega
 have r2:0<=(if 5<(x1+1800000000)/600000000 then 5 else(x1+1800000000)/600000000)∧(if 5<(x1+1800000000)/600000000 then 5 else(x1+1800000000)/600000000)<=5:=by split<;>omega
 generalize (if 3<(x0+900000000)/450000000 then 3 else(x0+900000000)/450000000)=row at*
 generalize (if 5<(x1+1800000000)/600000000 then 5 else(x1+1800000000)/600000000)=mc at*
 have t2:=λa b c d e f g i j=>afx a b c d e f g mc i j r2.1 r2.2
 have hw:wI (row+1)=row+1:=ey (by omega) (by omega)
 have b1:aX row 5=true:=by simp only[bk];omega
 have b2:aX (row+1) 5=true:=by simp only[bk];omega
 simp only[hw,b1,b2]
 simp only[bE,true_implies,Bool.true_eq_false,false_implies]
instance aDC (x:iG.B):bl (fR x):=by
 unfold fR oH
 try dsimp only
 exact aF (by simp only[bE])
end Go.Proofs.YtldgljclcgaibaaGreat
namespace Go.Proofs.YtldgljclcgaibaaGreat
open Go.Ab Go.Ab.Pg
theorem azQ (x:iG.B):Ok (fR x) (λr:vu=>r.2.2.2.2.2.2.2.2.2.2.2.2.2.2.2.2.2=x.1.2.2.2.2.2.2.2.2.2.2.2.2.2.2.2.2∧r.2.2.2.2.2.1=x.1.2.2.2.2.1∧r.2.2.2.2.2.2.2.2.2.2.2.2.2.2.1=x.1.2.2.2.2.2.2.2.2.2.2.2.2.2.1):=by
 unfold fR oH
 try dsimp only
 show PQ _ _
 rw[bu];intro d _
 rw[av]
 exact⟨rfl,rfl,rfl⟩
theorem aUn (x:uy.B)(h:x.2.1.2.2.2.2.2.2.2.2.2.2.2.2.2.2.2.2<=90000):Ok (uA x) (λr:AR=>match r with|.inl e=>e.1.2.2.2.2.2.2.2.2.2.2.2.2.2.2.2.2<=x.2.1.2.2.2.2.2.2.2.2.2.2.2.2.2.2.2.2+1∧e.1.2.2.2.2.1=x.2.1.2.2.2.2.1∧e.1.2.2.2.2.2.2.2.2.2.2.2.2.2.1=x.2.1.2.2.2.2.2.2.2.2.2.2.2.2.2.1|.inr e=>e.1.1.2.2.2.2.2.2.2.2.2.2.2.2.2.2.2<=x.2.1.2.2.2.2.2.2.2.2.2.2.2.2.2.2.2.2+1∧e.1.1.2.2.2.2.1=x.2.1.2.2.2.2.1∧e.1.1.2.2.2.2.2.2.2.2.2.2.2.2.1=x.2.1.2.2.2.2.2.2.2.2.2.2.2.2.2.1):=by
 unfold uA It
 try dsimp only
 show PQ _ _
 simp only[aM]
 rw[bu];intro d _
 rw[bu];intro d1 _
 repeat rw[aB]
 with_reducible refine ay (azQ _) λd2 _ h2=> ?_
 have h2:d2.2.2.2.2.2.2.2.2.2.2.2.2.2.2.2.2.2=x.2.1.2.2.2.2.2.2.2.2.2.2.2.2.2.2.2.2∧d2.2.2.2.2.2.1=x.2.1.2.2.2.2.1∧d2.2.2.2.2.2.2.2.2.2.2.2.2.2.2.1=x.2.1.2.2.2.2.2.2.2.2.2.2.2.2.2.1:=h2
 rw[bu];intro d3 _
 rw[aK]
 refine⟨λ_=> ?_,λ_=> ?_⟩
 ·repeat rw[aB]
  rw[bu];intro d4 _
  rw[av]
  show d2.2.2.2.2.2.2.2.2.2.2.2.2.2.2.2.2.2<=x.2.1.2.2.2.2.2.2.2.2.2.2.2.2.2.2.2.2+1∧d2.2.2.2.2.2.1=x.2.1.2.2.2.2.1∧d2.2.2.2.2.2.2.2.2.2.2.2.2.2.2.1=x.2.1.2.2.2.2.2.2.2.2.2.2.2.2.2.1
  omega
 ·rw[bu];intro d4 _
  repeat rw[aB]
  with_reducible refine ay (Px _ ?_) λt _ ht=> ?_
  ·show d2.2.2.2.2.2.2.2.2.2.2.2.2.2.2.2.2.2<=100000
   omega
  have ht:t.1.2.2.2.2.2.2.2.2.2.2.2.2.2.2.2.2=d2.2.2.2.2.2.2.2.2.2.2.2.2.2.2.2.2.2+1∧t.1.2.2.2.2.1=d2.2.2.2.2.2.1∧t.1.2.2.2.2.2.2.2.2.2.2.2.2.2.1=d2.2.2.2.2.2.2.2.2.2.2.2.2.2.2.1:=ht
  repeat (first|rw[aB]|(rw[bu];intro _ _))
  rw[av]
  show t.1.2.2.2.2.2.2.2.2.2.2.2.2.2.2.2.2<=x.2.1.2.2.2.2.2.2.2.2.2.2.2.2.2.2.2.2+1∧t.1.2.2.2.2.1=x.2.1.2.2.2.2.1∧t.1.2.2.2.2.2.2.2.2.2.2.2.2.2.1=x.2.1.2.2.2.2.2.2.2.2.2.2.2.2.2.1
  omega
end Go.Proofs.YtldgljclcgaibaaGreat
namespace Go.Proofs.YtldgljclcgaibaaGreat
open Go.Ab Go.Ab.Pg
theorem aC2 (x:ma.B)(h:x.2.1.2.2.2.2.2.2.2.2.2.2.2.2.2.2.2.2<=90000):Ok (mb x) (λr:pT=>match r with|.inl e=>e.1.1.2.2.2.2.2.2.2.2.2.2.2.2.2.2<=x.2.1.2.2.2.2.2.2.2.2.2.2.2.2.2.2.2.2+3∧e.1.1.2.2.2.2.1=x.2.1.2.2.2.2.1∧e.1.1.2.2.2.2.2.2.2.2.2.2.2.1=x.2.1.2.2.2.2.2.2.2.2.2.2.2.2.2.1|.inr e=>e.1.2.2.2.2.2.2.2.2.2.2.2.2.2.2.2.2<=x.2.1.2.2.2.2.2.2.2.2.2.2.2.2.2.2.2.2+3∧e.1.2.2.2.2.1=x.2.1.2.2.2.2.1∧e.1.2.2.2.2.2.2.2.2.2.2.2.2.2.1=x.2.1.2.2.2.2.2.2.2.2.2.2.2.2.2.1):=by
 have idx:∀(n m:Nat) (k:Int),n=m->0<=k->k<(m:Int)->aX k n=true:=λn m k e h1 h2=>by subst e;simp only[bk];omega
 unfold mb xG
 try dsimp only
 show PQ _ _
 simp only[aM]
 rw[bu];intro d _
 repeat' (first
  |rw[aB]
  |(with_reducible refine ay (aUl _ ?_) λj _ hj=> ?_)
  |(with_reducible refine ay (acn _ ?_) λe _ he=> ?_)
  |(with_reducible refine ay (Wo _ ?_) λq _ hq=> ?_)
  |(rw[qh];refine⟨λ_ _=> ?_,λ_ _=> ?_⟩)
  |(rw[bu];intro _ _)
  |(rw[aK];refine⟨λc=> ?_,λc=> ?_⟩))
 all_goals first
  |(rw[av];exact hj)
  |(rw[av];exact⟨Nat.le_trans (Nat.le_of_eq (hq.1.trans he.2.1)) (Nat.le_add_right _ _),hq.2.1.trans he.2.2.1,hq.2.2.trans he.2.2.2⟩)
  |(rw[av];exact⟨Nat.le_trans (Nat.le_of_eq he.2.1) (Nat.le_add_right _ _),he.2.2⟩)
  |(show x.2.1.2.2.2.2.2.2.2.2.2.2.2.2.2.2.2.2<=90000;exact h)
  |(dsimp only;omega)
  |(have h1:=he.1;(try dsimp only at h1);(try dsimp only);omega)
  |(rw[aND];rw[he.1] at c;have c':true=false:=c;cases c')
end Go.Proofs.YtldgljclcgaibaaGreat
namespace Go.Proofs.YtldgljclcgaibaaGreat
open Go.Ab Go.Ab.Pg
theorem afy (x:Int):yY x=some (decide (0<=x)&&decide (x<6)):=by
 simp only[yY,ami,bJ,bP]
 by_cases h0:0<=x<;>simp[h0]
instance aKK (x:ku.B):bl (db x):=by
 unfold db qF
 try dsimp only
 exact aF (by simp only[bE,oM])
instance aKL (x:qG.B):bl (wM x):=by
 unfold wM D4
 try dsimp only
 exact aF (by simp only[bE,oM])
end Go.Proofs.YtldgljclcgaibaaGreat
namespace Go.Proofs.YtldgljclcgaibaaGreat
open Go.Ab Go.Ab.Pg
theorem Rs (n:Nat)(d:cX.B)(hd:0<=d.1.2.2∧d.1.2.2<=d.1.2.1∧d.1.2.1<=1999∧d.1.2.1=((d.1.1.1:Nat):Int)∧d.2.1.2.2=n∧n<=1999):Ok (sG d) (λx:gI=>x.2.1.2.2=n):=
 ba (s:=_) (λd:cX.B=>0<=d.1.2.2∧d.1.2.2<=d.1.2.1∧d.1.2.1<=1999∧d.1.2.1=((d.1.1.1:Nat):Int)∧d.2.1.2.2=n∧n<=1999) (λd:cX.B=>Int.toNat (d.1.2.1-d.1.2.2)) (λx:gI=>x.2.1.2.2=n) (λd hd=>by
  have hw:wI (d.1.2.2+1)=d.1.2.2+1:=bg (by omega) (by omega)
  obtain⟨i0,i1,i2,i3,i4,i5⟩:=hd
  unfold sF
  try dsimp only
  rw[aK]
  refine⟨λh=> ?_,λ_=>by rw[av];exact i4⟩
  have h:=of_decide_eq_true h
  rw[bB,aM,aB]
  refine⟨by simp only[bk];omega,?_⟩
  with_reducible refine ay (Rr _ ?_) λe _ he=> ?_
  ·show d.2.1.2.2<=1999
   omega
  have he:e.2.1=d.2.1.2.2:=he
  have b1:(true&&Nat.beq (e.2.1*11+0) (d.2.1.2.2*11)&&true)=true:=by rw[he,Nat.add_zero,aM];rfl
  have b2:(true&&Nat.ble (0+(e.2.1*11+0)) (d.2.1.2.2*11+0))=true:=by rw[he,Bool.true_and,bO];omega
  simp only[b1,b2,aB,av,Sum.elim_inl,hw]
  exact⟨⟨by omega,by omega,i2,i3,i4,i5⟩,by omega⟩) 2000 d hd (by omega)
theorem aQr (x:k9.B)(h:x.1.1<=1999)(k:x.2.1.2.2<=1999):Ok (ld x) (λr:vn=>r.2.1=x.2.1.2.2):=by
 unfold ld vp
 show PQ _ _
 rw[aM,aM,aB,aB]
 refine ay (Rs x.2.1.2.2 _ ?_) λd _ hd=> ?_
 ·obtain⟨a,b,c,e⟩:=hdN x.1.1 h
  exact⟨a,b,c,e,rfl,k⟩
 ·rw[av];exact hd
end Go.Proofs.YtldgljclcgaibaaGreat
namespace Go.Proofs.YtldgljclcgaibaaGreat
open Go.Ab Go.Ab.Pg
abbrev Bf:=(Int×Int×Int×Int×Int)×Int×Nat×Int
def BR (T:Int)(b c:Bf):Prop:=(∀U,T<=U->b.2.2.2<=U->c.2.2.2<=U)∧c.2.1=b.2.1∧c.2.2.1<=b.2.2.1∧c.1.1=b.1.1∧c.1.2.1=b.1.2.1∧c.1.2.2.1=b.1.2.2.1∧c.1.2.2.2.1=b.1.2.2.2.1∧
 (0<=b.1.2.2.2.2->b.1.2.2.2.2+b.2.2.1<=4611686018427387904->0<=c.1.2.2.2.2∧c.1.2.2.2.2+c.2.2.1=b.1.2.2.2.2+b.2.2.1)
def PR (b c:Bf):Prop:=c.2.1=b.2.1∧c.1.1=wI (b.1.1+1)∧c.1.2.2.2.1=b.1.2.2.2.1∧c.1.2.2.2.2=b.1.2.2.2.2∧c.2.2.2=b.2.2.2∧
 ((c.1.2.1=wI (b.1.2.1+1)∧c.1.2.2.1=b.1.2.2.1∧c.2.2.1=b.2.2.1)∨(c.1.2.1=b.1.2.1∧c.1.2.2.1=b.1.2.2.1∧c.2.2.1=b.2.2.1+1∧((c.2.2.1:Nat):Int)<=b.2.1)∨
  (c.1.2.1=b.1.2.1∧c.1.2.2.1=wI (b.1.2.2.1+1)∧c.2.2.1=b.2.2.1))
def SR (b c:Bf):Prop:=c.2=b.2∧c.1=(wI (b.1.1+1),b.1.2.1,b.1.2.2.1,wI (b.1.2.2.2.1+1),b.1.2.2.2.2)
theorem BR.refl (T:Int)(b:Bf):BR T b b:=⟨λ_ _ h=>h,rfl,Nat.le_refl _,rfl,rfl,rfl,rfl,λh _=>⟨h,rfl⟩⟩
theorem BR.len {T:Int}{b c:Bf}(h:BR T b c):c.2.2.1<=b.2.2.1:=h.2.2.1
theorem BR.mono {T U:Int}{a b:Bf}(t:T<=U)(h:BR T a b):BR U a b:=⟨λV p q=>h.1 V (Int.le_trans t p) q,h.2⟩
theorem BR.trans {T:Int}{a b c:Bf}(h:BR T a b)(k:BR T b c):BR T a c:=by
 obtain⟨h0,h1,h2,h3,h4,h5,h6,h7⟩:=h
 obtain⟨k0,k1,k2,k3,k4,k5,k6,k7⟩:=k
 refine⟨λU p q=>k0 U p (h0 U p q),k1.trans h1,Nat.le_trans k2 h2,k3.trans h3,k4.trans h4,k5.trans h5,k6.trans h6,λp q=> ?_⟩
 obtain⟨r,s⟩:=h7 p q
 obtain⟨u,v⟩:=k7 r (by omega)
 exact⟨u,v.trans s⟩
theorem aQs (x:pe.B)(h:x.2.1.2.2.1<=1000):Ok (mD x) (λr:um=>match r with
  |.inl e=>PR x.2.1 e
  |.inr e=>PR x.2.1 e.2.1):=by
 unfold mD AH
 try dsimp only
 show PQ _ _
 rw[aK]
 refine⟨λ_=>by rw[av];exact⟨rfl,rfl,rfl,rfl,rfl,.inl ⟨rfl,rfl,rfl⟩⟩,λ_=> ?_⟩
 rw[aM,bB]
 refine⟨rfl,ay (aC1 (((x.2.1.2.2.1,true),x.1),x.2.2) (by show x.2.1.2.2.1<=1999;omega)) λd _ hd=> ?_⟩
 rw[bB]
 refine⟨rfl,ay (ayw x.2.1.2.2.1 d.1 hd.1 hd.2 (by omega) _ _ _ _ _ _ _ _ _ _ _ _ _ _ _ _ _ _ _) λd2 _ h2=> ?_⟩
 rw[aK]
 refine⟨λc=> ?_,λ_=> ?_⟩
 ·rw[av]
  have c:=of_decide_eq_true c
  exact⟨rfl,rfl,rfl,rfl,rfl,.inr (.inl ⟨rfl,rfl,h2,c⟩)⟩
 rw[bB,aM,bB]
 refine⟨by simp only[bk,h2];omega,rfl,ay (ayx d2.1 0 1 (by omega) (by omega) (by rw[h2];omega) _ _ _ _ _ _ _ _ _) λd3 _ h3=> ?_⟩
 rw[av]
 have e:d3.1=x.2.1.2.2.1:=by rw[h3,h2];simp
 exact⟨rfl,rfl,rfl,rfl,rfl,.inr (.inr ⟨rfl,rfl,e⟩)⟩
theorem aH5 (x:js.B):Ok (fy x) (λr:uP=>SR x.1 r):=by
 unfold fy oP
 show PQ _ _
 rw[av]
 exact⟨rfl,rfl⟩
theorem aH6 (n:Nat)(p q z:Int)(w:Int×Int×Int×Int×Int)(d:fA.B)(hd:0<=d.1.2∧d.1.2<=(n:Int)∧d.2.1.2.2.1=n∧n<=1999∧d.2.1.2.1=z∧d.2.1.1=w∧d.1.1=p∧d.2.1.2.2.2=q):Ok (DQ d) (λx:mR=>match x with
   |.inl e=>0<=e.1.2.1∧e.1.2.1<=(n:Int)∧e.1.2.2.1=n∧e.2.1.2.1=z∧e.2.1.1=w∧e.1.1=p∧e.2.1.2.2=q
   |.inr e=>0<=e.1.2.1∧e.1.2.1<=(n:Int)∧e.1.2.2.1=n∧e.2.1.2.1=z∧e.2.1.1=w∧e.1.1=p∧e.2.1.2.2=q):=
 ba (s:=_) (λd:fA.B=>0<=d.1.2∧d.1.2<=(n:Int)∧d.2.1.2.2.1=n∧n<=1999∧d.2.1.2.1=z∧d.2.1.1=w∧d.1.1=p∧d.2.1.2.2.2=q) (λd:fA.B=>Int.toNat (n-d.1.2)) (λx:mR=>match x with
   |.inl e=>0<=e.1.2.1∧e.1.2.1<=(n:Int)∧e.1.2.2.1=n∧e.2.1.2.1=z∧e.2.1.1=w∧e.1.1=p∧e.2.1.2.2=q
   |.inr e=>0<=e.1.2.1∧e.1.2.1<=(n:Int)∧e.1.2.2.1=n∧e.2.1.2.1=z∧e.2.1.1=w∧e.1.1=p∧e.2.1.2.2=q) (λd hd=>by
  have hw:wI (d.1.2+1)=d.1.2+1:=bg (by omega) (by omega)
  obtain⟨i0,i1,i2,i3,i4,i5,i6⟩:=hd
  unfold DP
  try dsimp only
  rw[aK]
  refine⟨λh=> ?_,λ_=>by rw[av];exact⟨i0,i1,i2,i4,i5,i6⟩⟩
  have h:=of_decide_eq_true h
  rw[Int.ofNat_eq_natCast] at h
  rw[bB,aK]
  refine⟨by simp only[bk];omega,λ_=> ?_,λ_=>by rw[av];exact⟨i0,i1,i2,i4,i5,i6⟩⟩
  rw[av,Sum.elim_inl]
  simp only[hw]
  exact⟨⟨by omega,by omega,i2,i3,i4,i5,i6⟩,by omega⟩) 2000 d hd (by omega)
theorem aQt (x:uo.B)(h:x.2.1.2.2.1<=1000):Ok (uq x) (λr:AI=>r.1<=x.2.1.2.2.1∧BR x.1 x.2.1 r.2.1):=by
 unfold uq Ij
 try dsimp only
 show PQ _ _
 rw[aM,bB]
 refine⟨rfl,ay (aH6 x.2.1.2.2.1 x.1 x.2.1.2.2.2 x.2.1.2.1 x.2.1.1 _ ⟨by dsimp only;omega,by dsimp only;omega,rfl,by omega,rfl,rfl,rfl,rfl⟩) λy _ hy=> ?_⟩
 rw[r9]
 constructor
 all_goals
  rintro d rfl
  obtain⟨i0,i1,i2,i4,i5,i6,i7⟩:=hy
  rw[bB]
  refine⟨by simp only[abK];omega,?_⟩
  rw[aM,bB]
  refine⟨rfl,ay (aNL (Int.toNat d.1.2.1) (by omega) _ _ _ _ _ _ _ _ _ _) λd1 _ h1=> ?_⟩
  rw[aM,bB]
  refine⟨rfl,ay (ayx d.1.2.2.1 0 d.1.2.1 (by omega) i0 (by rw[i2];exact i1) _ _ _ _ _ _ _ _ _) λd2 _ h2=> ?_⟩
  rw[av]
  have h2:d2.1=x.2.1.2.2.1-Int.toNat d.1.2.1:=by rw[h2,i2];simp only[Int.toNat_zero];omega
  refine⟨?_,λU p q=> ?_,i4,?_,congrArg (λz=>z.1) i5,congrArg (λz=>z.2.1) i5,congrArg (λz=>z.2.2.1) i5,congrArg (λz=>z.2.2.2.1) i5,λp q=> ?_⟩
  ·show d1.1<=_
   rw[h1];omega
  ·show(if d.1.1>d.2.1.2.2 then d.1.1 else d.2.1.2.2)<=U
   rw[i6,i7];split<;>assumption
  ·show d2.1<=_
   rw[h2];omega
  ·have e:d.2.1.1.2.2.2.2=x.2.1.1.2.2.2.2:=congrArg (λz=>z.2.2.2.2) i5
   have hw:wI (d.2.1.1.2.2.2.2+d.1.2.1)=x.2.1.1.2.2.2.2+d.1.2.1:=by rw[e];exact ey (by omega) (by omega)
   show 0<=wI (d.2.1.1.2.2.2.2+d.1.2.1)∧wI (d.2.1.1.2.2.2.2+d.1.2.1)+((d2.1:Nat):Int)=_
   rw[hw,h2]
   omega
end Go.Proofs.YtldgljclcgaibaaGreat
noncomputable section
namespace Go.Proofs.YtldgljclcgaibaaGreat
open Go.Ab Go.Ab.Pg Go.Ab.Rq
def aFM:=qa (pr (cu aP (c jX Y0)) bA)
def aqQ:=qe (res (pr (aa aAx) (pl lk nil)))
abbrev aFN:=aqQ.B
abbrev aFO:=NI->Int->Int->Int->Int->Int->Int->Int->Int->Bool->Option aFN
def aFP (g:aFO):Ct:=(164,FC aFM (lf aqQ) (λb=>g b.1.1 b.1.2.1 b.1.b.1 b.1.b.2.1.1 b.1.b.2.1.2.1 b.1.b.2.1.b b.1.c.1 b.1.c.2.1 b.1.c.b b.2))
def sJ:=qs (st (pr (cu aP (us 5 (cu Ox (cu awu (cu aN9 (cu aEW (us 1 (cu aOa (cu aOb (c ai (c ai (us 98 (c ai (us 12 (c ac1 (cl ai (us 64 nil))))))))))))))))) (pl (c cj (c lp (c (so adb) (c uX (c lp (c (so aib) ah9)))))) cA)))
def ayy:=qs (st (pr (cu aP (us 5 (cu Ox (cu awu (cu aN9 (cu aEW (us 1 (cu aOa (cu aOb (c ai (c ai (us 98 (c ai (us 12 (c ac1 (c ai (cl ab (us 63 nil)))))))))))))))))) (pl (c cj (c lp (c (so adb) (c uX (c lp (c (so aib) ah9)))))) cA)))
abbrev I6:=ayy.B
def ayz {ρ:Type}:=@ef I6 ((.ex 2)) ayy ρ
def alx (aC:bK)(d:sJ.B):PL sJ I6:=let n6:=d.1.1;let n4:=d.1.2;let n3:=d.2.2.2;let n5:=n3.2.2;let n2:=n4.2.2;let n1:=(n6,n4.1,n4.2.1,n2.1,wI (n2.2+1));let y0:=wI (0+n4.1);let y1:=wI (10+n2.2);let y2:=decide (n2.2<3);let y3:=Int.toNat y0*24+Int.toNat y1;ae y2 (ae (aX n2.2 3) (ae (n2.2==2) (opt (aC n6 n2.1.2.2 30 d.2.1) λaj=>ae (aX y0 24) (ae (aX y1 24) (ae (true&&Nat.ble (0+y3*1+1) 576) (ret (Sum.inl (n1,aj.2,d.2.2.1,n3.1,n3.2.1,λj=>bif Nat.beq j y3 then wI (0-aj.1) else n5.1 j,n5.2))) no) no) no) (ae (n2.2==1) (opt (aC n6 n2.1.2.1 30 d.2.1) λaj=>ae (aX y0 24) (ae (aX y1 24) (ae (true&&Nat.ble (0+y3*1+1) 576) (ret (Sum.inl (n1,aj.2,d.2.2.1,n3.1,n3.2.1,λj=>bif Nat.beq j y3 then wI (0-aj.1) else n5.1 j,n5.2))) no) no) no) (opt (aC n6 n2.1.1 30 d.2.1) λaj=>ae (aX y0 24) (ae (aX y1 24) (ae (true&&Nat.ble (0+y3*1+1) 576) (ret (Sum.inl (n1,aj.2,d.2.2.1,n3.1,n3.2.1,λj=>bif Nat.beq j y3 then wI (0-aj.1) else n5.1 j,n5.2))) no) no) no))) no) (ret (Sum.inr ((n6,n4.1,n4.2.1,n2.1,n2.2,y2),d.2)))
def aly:=bD (alx aU) 2000
def sK:=qs (st (pr (cu aP (us 5 (cu Ox (cu awu (us 1 (cu aOc (us 7 (cu aOd (c ai (us 130 (c ai (us 10 aRo)))))))))))) (pl (c cj (c lp (c (so adb) (c lp ah9)))) cA)))
def ayA:=qs (st (pr (cu aP (us 5 (cu Ox (cu awu (us 1 (cu aOc (us 7 (cu aOd (c ai (us 130 (c ai (us 10 aRt)))))))))))) (pl (c cj (c lp (c (so adb) (c lp ah9)))) cA)))
abbrev I7:=ayA.B
def ayB {ρ:Type}:=@ef I7 ((.ex 6)) ayA ρ
def alz (aC:bK)(d:sK.B):PL sK I7:=let n2:=d.2.2.2;let n1:=d.1.2;let y0:=wI (4+d.1.1);let y1:=wI (13+n1.2);let y2:=decide (n1.2<3);let y3:=wI (wI (3*d.1.1)+n1.2);let y4:=Int.toNat y0*24+Int.toNat y1;ae y2 (ae (aX y3 9) (opt (aC (n2.1.2.2.2.2.2.2.2.2.2.2.2 (Int.toNat y3)) n2.1.1 30 d.2.1) λaj=>ae (aX y0 24) (ae (aX y1 24) (ae (true&&Nat.ble (0+y4*1+1) 576) (ret (Sum.inl ((d.1.1,n1.1,wI (n1.2+1)),aj.2,d.2.2.1,n2.1,λj=>bif Nat.beq j y4 then wI (0-aj.1) else n2.2.1 j,n2.2.2))) no) no) no) no) (ret (Sum.inr ((d.1.1,n1.1,n1.2,y2),d.2)))
def alA:=bD (alz aU) 2000
def sL:=qs (st (pr (cu aP (us 5 (cu Ox (cu awu (cu aN9 (cu aEW (us 1 (cu aOa (cu aOb (c ai (us 99 aRq))))))))))) (pl (c cj (c lp (c (so adb) (c uX (c lp (c (so aib) ah9)))))) cA)))
def ayC:=qs (st (pr (cu aP (us 5 (cu Ox (cu awu (cu aN9 (cu aEW (us 1 (cu aOa (cu aOb (c ai (us 99 (c ai (cl ab (us 77 nil)))))))))))))) (pl (c cj (c lp (c (so adb) (c uX (c lp (c (so aib) ah9)))))) cA)))
abbrev I8:=ayC.B
def ayD {ρ:Type}:=@ef I8 ((.ex 0)) ayC ρ
def alB (qd:LT sJ I6)(d:sL.B):PL sL I8:=let bL:=d.2.1;let bx:=d.1.1;let aY:=d.2.2.1;let n7:=d.1.2;let n6:=d.2.2.2;let n15:=n6.2.1;let bh:=n6.2.2.1;let n4:=n6.2.2.2;let n21:=n4.2.2.2;let n17:=n4.1.2;let bp:=n21.2.2.2;let n20:=bp.2.2.2;let n9:=n17.2.2;let n18:=n9.2.2;let n5:=n18.2.2;let n19:=n5.2.2;let n8:=n19.2.2;let n16:=n8.2.2;let n3:=(n4.2.1,n4.2.2.1,n21.1);let n2:=(n21.2.1,n21.2.2.1,bp.1);let n1:=(bp.2.1,bp.2.2.1,n20.1);let y0:=aX n7 4;let y1:=n7==2;let y2:=n7==1;let y3:=n7==3;let y4:=wI (0+n7);let y5:=0+Int.toNat y4*24;let y6:=y5+1;let y7:=true&&Nat.ble (y5+4) 576;let y8:=y6+1;let y9:=decide (n7<4);ae y9 (ae (aX y4 24) (ae y0 (ae y3 (ae y7 (ae y0 (ae y3 (opt (qd ((bx,n7,n7,n20.2,0),bL,aY,n6.1,n15,λj=>bif Nat.beq j (y8+1) then n16.2.2 else bif Nat.beq j y8 then n16.2.1 else bif Nat.beq j y6 then n16.1 else bif Nat.beq j y5 then n8.2.1 else bh j,n4)) λd=>ret (Sum.inl ((d.1.1,wI (d.1.2.2.1+1)),d.2))) (ae y1 (opt (qd ((bx,n7,n7,n1,0),bL,aY,n6.1,n15,λj=>bif Nat.beq j (y8+1) then n16.2.2 else bif Nat.beq j y8 then n16.2.1 else bif Nat.beq j y6 then n16.1 else bif Nat.beq j y5 then n8.2.1 else bh j,n4)) λd=>ret (Sum.inl ((d.1.1,wI (d.1.2.2.1+1)),d.2))) (ae y2 (opt (qd ((bx,n7,n7,n2,0),bL,aY,n6.1,n15,λj=>bif Nat.beq j (y8+1) then n16.2.2 else bif Nat.beq j y8 then n16.2.1 else bif Nat.beq j y6 then n16.1 else bif Nat.beq j y5 then n8.2.1 else bh j,n4)) λd=>ret (Sum.inl ((d.1.1,wI (d.1.2.2.1+1)),d.2))) (opt (qd ((bx,n7,n7,n3,0),bL,aY,n6.1,n15,λj=>bif Nat.beq j (y8+1) then n16.2.2 else bif Nat.beq j y8 then n16.2.1 else bif Nat.beq j y6 then n16.1 else bif Nat.beq j y5 then n8.2.1 else bh j,n4)) λd=>ret (Sum.inl ((d.1.1,wI (d.1.2.2.1+1)),d.2)))))) no) no) (ae y1 (ae y7 (ae y0 (ae y3 (opt (qd ((bx,n7,n7,n20.2,0),bL,aY,n6.1,n15,λj=>bif Nat.beq j (y8+1) then n8.1 else bif Nat.beq j y8 then n19.2.1 else bif Nat.beq j y6 then n19.1 else bif Nat.beq j y5 then n5.2.1 else bh j,n4)) λd=>ret (Sum.inl ((d.1.1,wI (d.1.2.2.1+1)),d.2))) (ae y1 (opt (qd ((bx,n7,n7,n1,0),bL,aY,n6.1,n15,λj=>bif Nat.beq j (y8+1) then n8.1 else bif Nat.beq j y8 then n19.2.1 else bif Nat.beq j y6 then n19.1 else bif Nat.beq j y5 then n5.2.1 else bh j,n4)) λd=>ret (Sum.inl ((d.1.1,wI (d.1.2.2.1+1)),d.2))) (ae y2 (opt (qd ((bx,n7,n7,n2,0),bL,aY,n6.1,n15,λj=>bif Nat.beq j (y8+1) then n8.1 else bif Nat.beq j y8 then n19.2.1 else bif Nat.beq j y6 then n19.1 else bif Nat.beq j y5 then n5.2.1 else bh j,n4)) λd=>ret (Sum.inl ((d.1.1,wI (d.1.2.2.1+1)),d.2))) (opt (qd ((bx,n7,n7,n3,0),bL,aY,n6.1,n15,λj=>bif Nat.beq j (y8+1) then n8.1 else bif Nat.beq j y8 then n19.2.1 else bif Nat.beq j y6 then n19.1 else bif Nat.beq j y5 then n5.2.1 else bh j,n4)) λd=>ret (Sum.inl ((d.1.1,wI (d.1.2.2.1+1)),d.2)))))) no) no) (ae y2 (ae y7 (ae y0 (ae y3 (opt (qd ((bx,n7,n7,n20.2,0),bL,aY,n6.1,n15,λj=>bif Nat.beq j (y8+1) then n5.1 else bif Nat.beq j y8 then n18.2.1 else bif Nat.beq j y6 then n18.1 else bif Nat.beq j y5 then n9.2.1 else bh j,n4)) λd=>ret (Sum.inl ((d.1.1,wI (d.1.2.2.1+1)),d.2))) (ae y1 (opt (qd ((bx,n7,n7,n1,0),bL,aY,n6.1,n15,λj=>bif Nat.beq j (y8+1) then n5.1 else bif Nat.beq j y8 then n18.2.1 else bif Nat.beq j y6 then n18.1 else bif Nat.beq j y5 then n9.2.1 else bh j,n4)) λd=>ret (Sum.inl ((d.1.1,wI (d.1.2.2.1+1)),d.2))) (ae y2 (opt (qd ((bx,n7,n7,n2,0),bL,aY,n6.1,n15,λj=>bif Nat.beq j (y8+1) then n5.1 else bif Nat.beq j y8 then n18.2.1 else bif Nat.beq j y6 then n18.1 else bif Nat.beq j y5 then n9.2.1 else bh j,n4)) λd=>ret (Sum.inl ((d.1.1,wI (d.1.2.2.1+1)),d.2))) (opt (qd ((bx,n7,n7,n3,0),bL,aY,n6.1,n15,λj=>bif Nat.beq j (y8+1) then n5.1 else bif Nat.beq j y8 then n18.2.1 else bif Nat.beq j y6 then n18.1 else bif Nat.beq j y5 then n9.2.1 else bh j,n4)) λd=>ret (Sum.inl ((d.1.1,wI (d.1.2.2.1+1)),d.2)))))) no) no) (ae y7 (ae y0 (ae y3 (opt (qd ((bx,n7,n7,n20.2,0),bL,aY,n6.1,n15,λj=>bif Nat.beq j (y8+1) then n9.1 else bif Nat.beq j y8 then n17.2.1 else bif Nat.beq j y6 then n17.1 else bif Nat.beq j y5 then n4.1.1 else bh j,n4)) λd=>ret (Sum.inl ((d.1.1,wI (d.1.2.2.1+1)),d.2))) (ae y1 (opt (qd ((bx,n7,n7,n1,0),bL,aY,n6.1,n15,λj=>bif Nat.beq j (y8+1) then n9.1 else bif Nat.beq j y8 then n17.2.1 else bif Nat.beq j y6 then n17.1 else bif Nat.beq j y5 then n4.1.1 else bh j,n4)) λd=>ret (Sum.inl ((d.1.1,wI (d.1.2.2.1+1)),d.2))) (ae y2 (opt (qd ((bx,n7,n7,n2,0),bL,aY,n6.1,n15,λj=>bif Nat.beq j (y8+1) then n9.1 else bif Nat.beq j y8 then n17.2.1 else bif Nat.beq j y6 then n17.1 else bif Nat.beq j y5 then n4.1.1 else bh j,n4)) λd=>ret (Sum.inl ((d.1.1,wI (d.1.2.2.1+1)),d.2))) (opt (qd ((bx,n7,n7,n3,0),bL,aY,n6.1,n15,λj=>bif Nat.beq j (y8+1) then n9.1 else bif Nat.beq j y8 then n17.2.1 else bif Nat.beq j y6 then n17.1 else bif Nat.beq j y5 then n4.1.1 else bh j,n4)) λd=>ret (Sum.inl ((d.1.1,wI (d.1.2.2.1+1)),d.2)))))) no) no)))) no) no) (ret (Sum.inr ((bx,n7,y9),d.2)))
def alC:=bD (alB aly) 2000
def sM:=qs (st (pr (cu aP (us 5 (cu Ox (cu awu (us 1 (cu aOc (us 7 (cu aOd (us 131 (cl ai (us 42 nil))))))))))) (pl (c cj (c lp (c (so adb) (c lp ah9)))) cA)))
def ayE:=qs (st (pr (cu aP (us 5 (cu Ox (cu awu (us 1 (cu aOc (us 7 (cu aOd (us 131 aRH))))))))) (pl (c cj (c lp (c (so adb) (c lp ah9)))) cA)))
abbrev I9:=ayE.B
def ayF {ρ:Type}:=@ef I9 ((.ex 4)) ayE ρ
def alD (l_3:LT sK I7)(d:sM.B):PL sM I9:=let n3:=d.2.2;let n1:=n3.2.2.2;let n2:=n1.2.2.2.2.2;let n4:=n2.2.2.2;let y0:=wI (4+d.1);let y1:=0+Int.toNat y0*24;let y2:=y1+1;let y3:=true&&Nat.ble (y1+4) 576;let y4:=y2+1;let y5:=decide (d.1<3);ae y5 (ae (aX y0 24) (ae (aX d.1 3) (ae (d.1==2) (ae y3 (opt (l_3 ((d.1,d.1,0),d.2.1,n3.1,n3.2.1,λj=>bif Nat.beq j (y4+1) then n4.2.2.2 else bif Nat.beq j y4 then n4.2.2.1 else bif Nat.beq j y2 then n4.2.1 else bif Nat.beq j y1 then n4.1 else n3.2.2.1 j,n1)) λd=>let n5:=d.2.2.2;let y0:=wI (7+d.1.1);let y1:=wI (4+d.1.1);let y2:=Int.toNat y0*24+Int.toNat y1;ae (aX y0 24) (ae (aX y1 24) (ae (true&&Nat.ble (0+y2*1+1) 576) (ret (Sum.inl (wI (d.1.2.1+1),d.2.1,d.2.2.1,n5.1,λj=>bif Nat.beq j y2 then n5.1.1 else n5.2.1 j,n5.2.2))) no) no) no) no) (ae (d.1==1) (ae y3 (opt (l_3 ((d.1,d.1,0),d.2.1,n3.1,n3.2.1,λj=>bif Nat.beq j (y4+1) then n2.2.2.1 else bif Nat.beq j y4 then n2.2.1 else bif Nat.beq j y2 then n2.1 else bif Nat.beq j y1 then n1.2.2.2.2.1 else n3.2.2.1 j,n1)) λd=>let n6:=d.2.2.2;let y0:=wI (7+d.1.1);let y1:=wI (4+d.1.1);let y2:=Int.toNat y0*24+Int.toNat y1;ae (aX y0 24) (ae (aX y1 24) (ae (true&&Nat.ble (0+y2*1+1) 576) (ret (Sum.inl (wI (d.1.2.1+1),d.2.1,d.2.2.1,n6.1,λj=>bif Nat.beq j y2 then n6.1.1 else n6.2.1 j,n6.2.2))) no) no) no) no) (ae y3 (opt (l_3 ((d.1,d.1,0),d.2.1,n3.1,n3.2.1,λj=>bif Nat.beq j (y4+1) then n1.2.2.2.1 else bif Nat.beq j y4 then n1.2.2.1 else bif Nat.beq j y2 then n1.2.1 else bif Nat.beq j y1 then n1.1 else n3.2.2.1 j,n1)) λd=>let n7:=d.2.2.2;let y0:=wI (4+d.1.1);let y1:=wI (7+d.1.1);let y2:=Int.toNat y1*24+Int.toNat y0;ae (aX y1 24) (ae (aX y0 24) (ae (true&&Nat.ble (0+y2*1+1) 576) (ret (Sum.inl (wI (d.1.2.1+1),d.2.1,d.2.2.1,n7.1,λj=>bif Nat.beq j y2 then n7.1.1 else n7.2.1 j,n7.2.2))) no) no) no) no))) no) no) (ret (Sum.inr ((d.1,y5),d.2)))
def alE:=bD (alD alA) 2000
def av5 (yI:Kn)(aN:eN)(bd:dy)(QH:Bp)(aC:bK)(aat:Gz)(dG:LT sL I8)(Kj:LT sM I9)(x0:Nat->Int)(x1:Int)(x2:Int)(x3:Int)(x4:Int)(x5:Int)(x6:Int)(x7:Int)(x8:Int)(x9:Bool):Pg aFN:=opt (yI x0 x1 x2 x3 x4 x5 x6 x7 x8 x9) λd=>let n1:=d.1.2.2.2.2.2.2.2;let n3:=n1.2.2;let y0:=wI (0-n1.2.1);let y1:=wI (0-n3.1);let y2:=wI (0-n3.2.1);opt (aN x0 d.2) λaj=>opt (bd aj.1) λaI=>let nq:=wI (0-aI.2.1);let agc:=wI (0-aI.2.2.2);let aFQ:=wI (0-aI.2.2.1);opt QH λbz=>opt (aC d.1.1 536870912 30 aj.2) λcq=>opt (dG ((cq.1,0),cq.2,λx=>0,d.1,aI,bz,(n1.1,y0,y1,y2,n1.2.1,n1.1,n3.2.1,y1,n3.1,y2,n1.1,n1.2.1,n3.2.1,n3.1,y0,n1.1),nq,aFQ,agc,aI.1,agc,aI.2.2.1,aI.2.2.2,aI.1,nq,aFQ,aI.2.1,aI.1)) λd=>let n2:=d.2.2.2;let n4:=n2.1.2.2.2.2;opt (aat n2.2.1.1 n2.2.1.2.1 n2.2.1.2.2.1 n2.2.1.2.2.2 n4.1 n4.2.1 n4.2.2.1 d.2.1) λeo=>opt (Kj (0,eo.2,d.2.2.1,n2.1,n2.2.2.1,eo.1)) λd=>ret (d.2.2.2.2.1,d.2.1)
def aco:=λx0 x1 x2 x3 x4 x5 x6 x7 x8 x9=>(av5 tY bW bY mi aU xj alC alE x0 x1 x2 x3 x4 x5 x6 x7 x8 x9).val
abbrev Nn:=Kn×eN×dy×Bp×bK×Gz×(LT sJ I6)×(LT sK I7)×(LT sL I8)×(LT sM I9)
def Ti (p:Nn):KK:=⟨[US p.1,iw p.2.1,iL p.b.1,Qt p.b.2.1,eL p.c.1,aak p.c.2.1],⟨[⟨9,(rg 1 5 (10::rg 14 99 (rg 114 78 []))),[]⟩,⟨13,(rg 1 5 (10::rg 15 98 (rg 114 12 (rg 128 64 [])))),[]⟩,⟨20,(rg 1 5 (8::rg 10 7 (rg 18 131 (rg 150 42 [])))),[]⟩,⟨24,(rg 1 5 (8::rg 10 7 (rg 19 130 (rg 150 10 (rg 161 31 []))))),[]⟩],[fx 13 1 sJ ayz p.c.b.1,fx 24 1 sK ayB p.c.b.2.1,fx 9 1 sL ayD p.d.1,fx 20 1 sM ayF p.d.2],[],[],(some ⟨0,(rg 0 6 (rg 7 185 [])),[]⟩)⟩,1,164⟩
theorem aH7 (p:Nn):LI (Ti p) 13 sJ ayz (alx p.c.1):=λ_ d c K=>by kernel_rfl
theorem aH8 (p:Nn):LI (Ti p) 24 sK ayB (alz p.c.1):=λ_ d c K=>by kernel_rfl
theorem aH9 (p:Nn):LI (Ti p) 9 sL ayD (alB p.c.b.1):=λ_ d c K=>by kernel_rfl
theorem aIa (p:Nn):LI (Ti p) 20 sM ayF (alD p.c.b.2.1):=λ_ d c K=>by kernel_rfl
theorem aQu (p:Nn):D2 (Ti p) aFM (lf aqQ) λb=>av5 p.1 p.2.1 p.b.1 p.b.2.1 p.c.1 p.c.2.1 p.d.1 p.d.2 b.1.1 b.1.2.1 b.1.b.1 b.1.b.2.1.1 b.1.b.2.1.2.1 b.1.b.2.1.b b.1.c.1 b.1.c.2.1 b.1.c.b b.2:=λb=>by kernel_rfl
abbrev Tj:Nn:=(tY,bW,bY,mi,aU,xj,aly,alA,alC,alE)
theorem aQv [ax]:SC (aFP aco):=sc (kS (k:=Ti Tj) (.c ajZ (.c jh (.c jC (.c agp (.c eY (.c aoB (.nil _))))))) [9,13,20,24] [] ⟨kL (aH9 Tj),⟨kL (aH7 Tj),⟨kL (aIa Tj),⟨kL (aH8 Tj),trivial⟩⟩⟩⟩ trivial (aQu Tj))
def ayG:=qa (pr (cu aP (c yi (c jX (c (aa aGv) apz)))) bA)
def afz:=qe aMj
abbrev ayH:=afz.B
abbrev alF:=NI->NI->NI->Int->Int->Int->Int->Int->Int->Int->Int->NI->Bool->Option ayH
def ayI (g:alF):Ct:=(107,FC ayG (lf afz) (λb=>g b.1.1.1 b.1.1.2 b.1.2.1 b.1.b.1.1 b.1.b.1.2.1 b.1.b.1.b.1.1 b.1.b.1.b.1.2.1 b.1.b.1.b.1.b b.1.b.1.b.2.1 b.1.b.1.c.1 b.1.b.1.c.2 b.1.b.2 b.2))
def alG (amj:aFO)(S9:asQ)(tF:EO)(x0:Nat->Int)(x1:Nat->Int)(x2:Nat->Int)(x3:Int)(x4:Int)(x5:Int)(x6:Int)(x7:Int)(x8:Int)(x9:Int)(fP:Int)(fQ:Nat->Int)(zO:Bool):Pg ayH:=opt (amj x2 x3 x4 x5 x6 x7 x8 x9 fP zO) λd=>opt (S9 fQ x4 d.2) λaj=>opt (tF x0 x1 d.1 aj.1 aj.2) λd=>ret d
def I':=λx0 x1 x2 x3 x4 x5 x6 x7 x8 x9 fP fQ zO=>(alG aco Ks jj x0 x1 x2 x3 x4 x5 x6 x7 x8 x9 fP fQ zO).val
theorem aKM:∀amj S9 tF,D0 [aFP amj,asT S9,ML tF] 107 ayG (lf afz) λb=>alG amj S9 tF b.1.1.1 b.1.1.2 b.1.2.1 b.1.b.1.1 b.1.b.1.2.1 b.1.b.1.b.1.1 b.1.b.1.b.1.2.1 b.1.b.1.b.1.b b.1.b.1.b.2.1 b.1.b.1.c.1 b.1.b.1.c.2 b.1.b.2 b.2:=λ_ _ _ b=>by kernel_rfl
theorem aKN [ax]:SC (ayI I'):=s0 (.c aQv (.c aHw (.c abF (.nil _)))) (aKM aco Ks jj)
def Wp:=qa (pr (cu aP C7) bA)
def Lk:=qe aMa
def AZ:=qe auv
abbrev A3:=Lk.B⊕AZ.B
def R7:A3->T:=ls (lf Lk) (lf AZ)
def Wq:A3->T:=ls (λ_=>.fail) (lf AZ)
abbrev Wr:=Int->Int->Int->Bool->Option A3
def Ws (g:Wr):Ct:=(119,FC Wp Wq (λb=>g b.1.1 b.1.2.1 b.1.b b.2))
def Iy (x0:Int)(x1:Int)(x2:Int)(x3:Bool):Pg A3:=ae (decide (x1>x2)) (ret (Sum.inl x1)) (ae (decide (x0<x1)) (ret (Sum.inl x1)) (ae (decide (x0>x2)) (ret (Sum.inl x2)) (ret (Sum.inr x0))))
def uG:=λx0 x1 x2 x3=>(Iy x0 x1 x2 x3).val
theorem aqR:D0 [] 119 Wp R7 λb=>Iy b.1.1 b.1.2.1 b.1.b b.2:=λb=>by kernel_rfl
theorem aqS [ax]:SC (Ws uG):=sc (Dc (R:=R7) (R':=Wq) (λd r h=>by rcases d with d|d<;>first|exact h|(have h:(none:Option ns)=some r:=h;cases h))<|k0 (.nil _) aqR)
def acp:=qa (pr (cu aP fT) bA)
def Ll:=qe auv
abbrev acq:=Ll.B
abbrev No:=Int->Bool->Option acq
def Np (g:No):Ct:=(126,FC acp (lf Ll) (λb=>g b.1 b.2))
def Nq (A4:Wr)(x0:Int)(x1:Bool):Pg acq:=opt (A4 x0 (-1152921504606846976) 1152921504606846976 x1) λd=>sm d (λd=>no) (λd=>ret d)
def ph:=λx0 x1=>(Nq uG x0 x1).val
theorem av6:∀A4,D0 [Ws A4] 126 acp (lf Ll) λb=>Nq A4 b.1 b.2:=λ_ b=>by kernel_rfl
theorem acr [ax]:SC (Np ph):=s0 (.c aqS (.nil _)) (av6 uG)
def acs:=qa (pr (cu aP (c ai (c ab aIM))) bA)
def Py:=qe aMa
def D6:=qe auv
abbrev E0:=Py.B⊕D6.B
def YJ:E0->T:=ls (lf Py) (lf D6)
def acu:E0->T:=ls (λ_=>.fail) (lf D6)
abbrev acv:=Int->Bool->Bool->Bool->Option E0
def acw (g:acv):Ct:=(198,FC acs acu (λb=>g b.1.1 b.1.2.1 b.1.b b.2))
def Nr (iI:TQ)(ij:No)(x0:Int)(x1:Bool)(x2:Bool)(x3:Bool):Pg E0:=ae (!x1) (opt (iI x2) λd=>ret (Sum.inl d)) (opt (ij x0 x3) λd=>ret (Sum.inr d))
def zb:=λx0 x1 x2 x3=>(Nr oW ph x0 x1 x2 x3).val
theorem av7:∀iI ij,D0 [TR iI,Np ij] 198 acs YJ λb=>Nr iI ij b.1.1 b.1.2.1 b.1.b b.2:=λ_ _ b=>by kernel_rfl
theorem av8 [ax]:SC (acw zb):=sc (Dc (R:=YJ) (R':=acu) (λd r h=>by rcases d with d|d<;>first|exact h|(have h:(none:Option ns)=some r:=h;cases h))<|k0 (.c adN (.c acr (.nil _))) (av7 oW ph))
def ahn:=qa (pr (cu aP (c acZ fT)) bA)
def R8:=qe aMa
def F2:=qe auv
abbrev HC:=R8.B⊕F2.B
def acx:HC->T:=ls (lf R8) (lf F2)
def aho:HC->T:=ls (λ_=>.fail) (lf F2)
abbrev ahp:=Int->Int->Int->Bool->Option HC
def ahq (g:ahp):Ct:=(128,FC ahn aho (λb=>g b.1.1.1 b.1.1.2 b.1.2 b.2))
def Rt (iI:TQ)(vY:aiV)(E1:acv)(x0:Int)(x1:Int)(x2:Int)(x3:Bool):Pg HC:=let y0:=decide (x0<0);ae (x2==0) (ae (x0==0&&(x1==0&&true)) (ret (Sum.inl 0)) (opt (iI y0) λd=>ret (Sum.inl d))) (opt (vY x0 x1 x2) λd=>opt (E1 d.1 d.2 (!y0==decide (x2<0)) x3) λd=>sm d (λd=>no) (λd=>ret (Sum.inr d)))
def HD:=λx0 x1 x2 x3=>(Rt oW zu zb x0 x1 x2 x3).val
theorem azR:∀iI vY E1,D0 [TR iI,aiW vY,acw E1] 128 ahn acx λb=>Rt iI vY E1 b.1.1.1 b.1.1.2 b.1.2 b.2:=λ_ _ _ b=>by kernel_rfl
theorem azS [ax]:SC (ahq HD):=sc (Dc (R:=acx) (R':=aho) (λd r h=>by rcases d with d|d<;>first|exact h|(have h:(none:Option ns)=some r:=h;cases h))<|k0 (.c adN (.c aw1 (.c av8 (.nil _)))) (azR oW zu zb))
def R9:=qa (pr (cu aP C7) bA)
def D7:=qe auv
abbrev Sa:=D7.B
abbrev F3:=Int->Int->Int->Bool->Option Sa
def F4 (g:F3):Ct:=(78,FC R9 (lf D7) (λb=>g b.1.1 b.1.2.1 b.1.b b.2))
def F5 (ij:No)(cD:mG)(HE:ahp)(x0:Int)(x1:Int)(x2:Int)(x3:Bool):Pg Sa:=opt (ij x0 x3) λd=>opt (ij x1 x3) λaj=>opt (cD d aj) λd=>opt (ij x2 x3) λaI=>opt (HE d.1 d.2 aI x3) λd=>sm d (λd=>no) (λd=>ret d)
def jm:=λx0 x1 x2 x3=>(F5 ph eR HD x0 x1 x2 x3).val
theorem amU:∀ij cD HE,D0 [Np ij,vV cD,ahq HE] 78 R9 (lf D7) λb=>F5 ij cD HE b.1.1 b.1.2.1 b.1.b b.2:=λ_ _ _ b=>by kernel_rfl
theorem Sb [ax]:SC (F4 jm):=s0 (.c acr (.c zt (.c azS (.nil _)))) (amU ph eR HD)
def Fg:=qa (pr (c ai (c ai aGn)) (cu apu bA))
def uH:=qe aLY
abbrev Fh:=uH.B
abbrev vv:=Int->Int->Int->Int->Bool->Option Fh
def vx (g:vv):Ct:=(194,FC Fg (lf uH) (λb=>g b.1.1 b.1.2.1 b.1.b.1 b.1.b.2 b.2))
def vy (aR:F3)(x0:Int)(x1:Int)(x2:Int)(x3:Int)(x4:Bool):Pg Fh:=opt (aR (wI (x1-x0)) x2 x3 x4) λd=>ret (wI (x0+d))
def fS:=λx0 x1 x2 x3 x4=>(vy jm x0 x1 x2 x3 x4).val
theorem Xf:∀aR,D0 [F4 aR] 194 Fg (lf uH) λb=>vy aR b.1.1 b.1.2.1 b.1.b.1 b.1.b.2 b.2:=λ_ b=>by kernel_rfl
theorem Fi [ax]:SC (vx fS):=s0 (.c Sb (.nil _)) (Xf jm)
def Fj:=qa (pr (cl (aa (c gi aAB)) (cu aP (cu Oy (cu (app 2 1) nil)))) (cu (cu (gc (ccl (pu (nat 194) (pu rq7 (pu yg B8))))) nil) (c kF (c kF (cu (cu (gp 4 1) nil) bA)))))
def uJ:=qe (res (pl ai (pu aRQ nil)))
abbrev Fk:=uJ.B
abbrev Fl:=Int->Int->Int->Int->Int->Int->Int->Int->Int->Bool->Option Fk
def Fo (g:Fl):Ct:=(195,FC Fj (lf uJ) (λb=>g b.1.1 b.1.2.1 b.1.b.1 b.1.b.2.1 b.1.c.1 b.1.c.2.1 b.1.c.b b.2.1 b.b.1 b.b.2))
def vz (ak:vv)(x0:Int)(x1:Int)(x2:Int)(x3:Int)(x4:Int)(x5:Int)(x6:Int)(x7:Int)(x8:Int)(x9:Bool):Pg Fk:=let y0:=wI (x2*1073741824);let y1:=wI (x6*1073741824);let y2:=wI (x3*1073741824);let y3:=wI (x0*1073741824);let y4:=wI (x7+1);let y5:=wI (x5*1073741824);let y6:=wI (x1*1073741824);let y7:=wI (x4*1073741824);let y8:=aX y4 7;let y9:=y4==5;let uS:=y4==1;let uU:=y4==6;let xU:=y4==2;let xV:=y4==3;let xW:=y4==4;ae (aX x7 7) (ae (x7==6) (ae y8 (ae uU (opt (ak y1 y1 x8 600000000 x9) λd=>ret d) (ae y9 (opt (ak y1 y5 x8 600000000 x9) λd=>ret d) (ae xW (opt (ak y1 y7 x8 600000000 x9) λd=>ret d) (ae xV (opt (ak y1 y2 x8 600000000 x9) λd=>ret d) (ae xU (opt (ak y1 y0 x8 600000000 x9) λd=>ret d) (ae uS (opt (ak y1 y6 x8 600000000 x9) λd=>ret d) (opt (ak y1 y3 x8 600000000 x9) λd=>ret d))))))) no) (ae (x7==5) (ae y8 (ae uU (opt (ak y5 y1 x8 600000000 x9) λd=>ret d) (ae y9 (opt (ak y5 y5 x8 600000000 x9) λd=>ret d) (ae xW (opt (ak y5 y7 x8 600000000 x9) λd=>ret d) (ae xV (opt (ak y5 y2 x8 600000000 x9) λd=>ret d) (ae xU (opt (ak y5 y0 x8 600000000 x9) λd=>ret d) (ae uS (opt (ak y5 y6 x8 600000000 x9) λd=>ret d) (opt (ak y5 y3 x8 600000000 x9) λd=>ret d))))))) no) (ae (x7==4) (ae y8 (ae uU (opt (ak y7 y1 x8 600000000 x9) λd=>ret d) (ae y9 (opt (ak y7 y5 x8 600000000 x9) λd=>ret d) (ae xW (opt (ak y7 y7 x8 600000000 x9) λd=>ret d) (ae xV (opt (ak y7 y2 x8 600000000 x9) λd=>ret d) (ae xU (opt (ak y7 y0 x8 600000000 x9) λd=>ret d) (ae uS (opt (ak y7 y6 x8 600000000 x9) λd=>ret d) (opt (ak y7 y3 x8 600000000 x9) λd=>ret d))))))) no) (ae (x7==3) (ae y8 (ae uU (opt (ak y2 y1 x8 600000000 x9) λd=>ret d) (ae y9 (opt (ak y2 y5 x8 600000000 x9) λd=>ret d) (ae xW (opt (ak y2 y7 x8 600000000 x9) λd=>ret d) (ae xV (opt (ak y2 y2 x8 600000000 x9) λd=>ret d) (ae xU (opt (ak y2 y0 x8 600000000 x9) λd=>ret d) (ae uS (opt (ak y2 y6 x8 600000000 x9) λd=>ret d) (opt (ak y2 y3 x8 600000000 x9) λd=>ret d))))))) no) (ae (x7==2) (ae y8 (ae uU (opt (ak y0 y1 x8 600000000 x9) λd=>ret d) (ae y9 (opt (ak y0 y5 x8 600000000 x9) λd=>ret d) (ae xW (opt (ak y0 y7 x8 600000000 x9) λd=>ret d) (ae xV (opt (ak y0 y2 x8 600000000 x9) λd=>ret d) (ae xU (opt (ak y0 y0 x8 600000000 x9) λd=>ret d) (ae uS (opt (ak y0 y6 x8 600000000 x9) λd=>ret d) (opt (ak y0 y3 x8 600000000 x9) λd=>ret d))))))) no) (ae (x7==1) (ae y8 (ae uU (opt (ak y6 y1 x8 600000000 x9) λd=>ret d) (ae y9 (opt (ak y6 y5 x8 600000000 x9) λd=>ret d) (ae xW (opt (ak y6 y7 x8 600000000 x9) λd=>ret d) (ae xV (opt (ak y6 y2 x8 600000000 x9) λd=>ret d) (ae xU (opt (ak y6 y0 x8 600000000 x9) λd=>ret d) (ae uS (opt (ak y6 y6 x8 600000000 x9) λd=>ret d) (opt (ak y6 y3 x8 600000000 x9) λd=>ret d))))))) no) (ae y8 (ae uU (opt (ak y3 y1 x8 600000000 x9) λd=>ret d) (ae y9 (opt (ak y3 y5 x8 600000000 x9) λd=>ret d) (ae xW (opt (ak y3 y7 x8 600000000 x9) λd=>ret d) (ae xV (opt (ak y3 y2 x8 600000000 x9) λd=>ret d) (ae xU (opt (ak y3 y0 x8 600000000 x9) λd=>ret d) (ae uS (opt (ak y3 y6 x8 600000000 x9) λd=>ret d) (opt (ak y3 y3 x8 600000000 x9) λd=>ret d))))))) no))))))) no
def lg:=λx0 x1 x2 x3 x4 x5 x6 x7 x8 x9=>(vz fS x0 x1 x2 x3 x4 x5 x6 x7 x8 x9).val
theorem Xg:∀ak,D0 [vx ak] 195 Fj (lf uJ) λb=>vz ak b.1.1 b.1.2.1 b.1.b.1 b.1.b.2.1 b.1.c.1 b.1.c.2.1 b.1.c.b b.2.1 b.b.1 b.b.2:=λ_ b=>by kernel_rfl
theorem Xh [ax]:SC (Fo lg):=s0 (.c Fi (.nil _)) (Xg fS)
def Ja:=qa (pr (cu aP Ft) bA)
def xI:=qe aR8
abbrev Jb:=xI.B
abbrev Jc:=Int->Int->Int->Bool->Option Jb
def Jd (g:Jc):Ct:=(120,FC Ja (lf xI) (λb=>g b.1.1 b.1.2.1 b.1.b b.2))
def zd (cy:tg)(gT:FT)(ak:vv)(aG:Fl)(aR:F3)(x0:Int)(x1:Int)(x2:Int)(x3:Bool):Pg Jb:=let y0:=wI (x1+1800000000);let y1:=wI (x0+900000000);let y2:=wI (Int.tdiv y1 450000000);let y3:=wI (Int.tdiv y0 600000000);let y4:=if 3<y2 then 3 else y2;let y5:=if 5<y3 then 5 else y3;let y6:=wI (y4+1);let y7:=wI (y0-wI (y5*600000000));opt (cy x0 x1 x2) λd=>ae (!d) (ret (0,1)) (opt gT λd=>ae (aX y4 5) (ae (y4==4) (opt (aG 1000 4000 (-3000) 500 3500 (-1200) 1000 y5 y7 x3) λd=>ae (aX y6 5) (ae (y6==4) (opt (aG 1000 4000 (-3000) 500 3500 (-1200) 1000 y5 y7 x3) λaj=>opt (ak d aj (wI (y1-wI (y4*450000000))) 450000000 x3) λd=>opt (aR d 3373259426 19327352832000 x3) λd=>ret (d,0)) (ae (y6==3) (opt (aG 500 1500 (-1700) 100 700 (-800) 500 y5 y7 x3) λaj=>opt (ak d aj (wI (y1-wI (y4*450000000))) 450000000 x3) λd=>opt (aR d 3373259426 19327352832000 x3) λd=>ret (d,0)) (ae (y6==2) (opt (aG 950 900 (-1400) (-500) (-300) 100 950 y5 y7 x3) λaj=>opt (ak d aj (wI (y1-wI (y4*450000000))) 450000000 x3) λd=>opt (aR d 3373259426 19327352832000 x3) λd=>ret (d,0)) (ae (y6==1) (opt (aG 2200 2500 500 (-2200) (-3800) 0 2200 y5 y7 x3) λaj=>opt (ak d aj (wI (y1-wI (y4*450000000))) 450000000 x3) λd=>opt (aR d 3373259426 19327352832000 x3) λd=>ret (d,0)) (opt (aG 3000 6000 (-2000) (-1500) (-6000) (-9000) 3000 y5 y7 x3) λaj=>opt (ak d aj (wI (y1-wI (y4*450000000))) 450000000 x3) λd=>opt (aR d 3373259426 19327352832000 x3) λd=>ret (d,0)))))) no) (ae (y4==3) (opt (aG 500 1500 (-1700) 100 700 (-800) 500 y5 y7 x3) λd=>ae (aX y6 5) (ae (y6==4) (opt (aG 1000 4000 (-3000) 500 3500 (-1200) 1000 y5 y7 x3) λaj=>opt (ak d aj (wI (y1-wI (y4*450000000))) 450000000 x3) λd=>opt (aR d 3373259426 19327352832000 x3) λd=>ret (d,0)) (ae (y6==3) (opt (aG 500 1500 (-1700) 100 700 (-800) 500 y5 y7 x3) λaj=>opt (ak d aj (wI (y1-wI (y4*450000000))) 450000000 x3) λd=>opt (aR d 3373259426 19327352832000 x3) λd=>ret (d,0)) (ae (y6==2) (opt (aG 950 900 (-1400) (-500) (-300) 100 950 y5 y7 x3) λaj=>opt (ak d aj (wI (y1-wI (y4*450000000))) 450000000 x3) λd=>opt (aR d 3373259426 19327352832000 x3) λd=>ret (d,0)) (ae (y6==1) (opt (aG 2200 2500 500 (-2200) (-3800) 0 2200 y5 y7 x3) λaj=>opt (ak d aj (wI (y1-wI (y4*450000000))) 450000000 x3) λd=>opt (aR d 3373259426 19327352832000 x3) λd=>ret (d,0)) (opt (aG 3000 6000 (-2000) (-1500) (-6000) (-9000) 3000 y5 y7 x3) λaj=>opt (ak d aj (wI (y1-wI (y4*450000000))) 450000000 x3) λd=>opt (aR d 3373259426 19327352832000 x3) λd=>ret (d,0)))))) no) (ae (y4==2) (opt (aG 950 900 (-1400) (-500) (-300) 100 950 y5 y7 x3) λd=>ae (aX y6 5) (ae (y6==4) (opt (aG 1000 4000 (-3000) 500 3500 (-1200) 1000 y5 y7 x3) λaj=>opt (ak d aj (wI (y1-wI (y4*450000000))) 450000000 x3) λd=>opt (aR d 3373259426 19327352832000 x3) λd=>ret (d,0)) (ae (y6==3) (opt (aG 500 1500 (-1700) 100 700 (-800) 500 y5 y7 x3) λaj=>opt (ak d aj (wI (y1-wI (y4*450000000))) 450000000 x3) λd=>opt (aR d 3373259426 19327352832000 x3) λd=>ret (d,0)) (ae (y6==2) (opt (aG 950 900 (-1400) (-500) (-300) 100 950 y5 y7 x3) λaj=>opt (ak d aj (wI (y1-wI (y4*450000000))) 450000000 x3) λd=>opt (aR d 3373259426 19327352832000 x3) λd=>ret (d,0)) (ae (y6==1) (opt (aG 2200 2500 500 (-2200) (-3800) 0 2200 y5 y7 x3) λaj=>opt (ak d aj (wI (y1-wI (y4*450000000))) 450000000 x3) λd=>opt (aR d 3373259426 19327352832000 x3) λd=>ret (d,0)) (opt (aG 3000 6000 (-2000) (-1500) (-6000) (-9000) 3000 y5 y7 x3) λaj=>opt (ak d aj (wI (y1-wI (y4*450000000))) 450000000 x3) λd=>opt (aR d 3373259426 19327352832000 x3) λd=>ret (d,0)))))) no) (ae (y4==1) (opt (aG 2200 2500 500 (-2200) (-3800) 0 2200 y5 y7 x3) λd=>ae (aX y6 5) (ae (y6==4) (opt (aG 1000 4000 (-3000) 500 3500 (-1200) 1000 y5 y7 x3) λaj=>opt (ak d aj (wI (y1-wI (y4*450000000))) 450000000 x3) λd=>opt (aR d 3373259426 19327352832000 x3) λd=>ret (d,0)) (ae (y6==3) (opt (aG 500 1500 (-1700) 100 700 (-800) 500 y5 y7 x3) λaj=>opt (ak d aj (wI (y1-wI (y4*450000000))) 450000000 x3) λd=>opt (aR d 3373259426 19327352832000 x3) λd=>ret (d,0)) (ae (y6==2) (opt (aG 950 900 (-1400) (-500) (-300) 100 950 y5 y7 x3) λaj=>opt (ak d aj (wI (y1-wI (y4*450000000))) 450000000 x3) λd=>opt (aR d 3373259426 19327352832000 x3) λd=>ret (d,0)) (ae (y6==1) (opt (aG 2200 2500 500 (-2200) (-3800) 0 2200 y5 y7 x3) λaj=>opt (ak d aj (wI (y1-wI (y4*450000000))) 450000000 x3) λd=>opt (aR d 3373259426 19327352832000 x3) λd=>ret (d,0)) (opt (aG 3000 6000 (-2000) (-1500) (-6000) (-9000) 3000 y5 y7 x3) λaj=>opt (ak d aj (wI (y1-wI (y4*450000000))) 450000000 x3) λd=>opt (aR d 3373259426 19327352832000 x3) λd=>ret (d,0)))))) no) (opt (aG 3000 6000 (-2000) (-1500) (-6000) (-9000) 3000 y5 y7 x3) λd=>ae (aX y6 5) (ae (y6==4) (opt (aG 1000 4000 (-3000) 500 3500 (-1200) 1000 y5 y7 x3) λaj=>opt (ak d aj (wI (y1-wI (y4*450000000))) 450000000 x3) λd=>opt (aR d 3373259426 19327352832000 x3) λd=>ret (d,0)) (ae (y6==3) (opt (aG 500 1500 (-1700) 100 700 (-800) 500 y5 y7 x3) λaj=>opt (ak d aj (wI (y1-wI (y4*450000000))) 450000000 x3) λd=>opt (aR d 3373259426 19327352832000 x3) λd=>ret (d,0)) (ae (y6==2) (opt (aG 950 900 (-1400) (-500) (-300) 100 950 y5 y7 x3) λaj=>opt (ak d aj (wI (y1-wI (y4*450000000))) 450000000 x3) λd=>opt (aR d 3373259426 19327352832000 x3) λd=>ret (d,0)) (ae (y6==1) (opt (aG 2200 2500 500 (-2200) (-3800) 0 2200 y5 y7 x3) λaj=>opt (ak d aj (wI (y1-wI (y4*450000000))) 450000000 x3) λd=>opt (aR d 3373259426 19327352832000 x3) λd=>ret (d,0)) (opt (aG 3000 6000 (-2000) (-1500) (-6000) (-9000) 3000 y5 y7 x3) λaj=>opt (ak d aj (wI (y1-wI (y4*450000000))) 450000000 x3) λd=>opt (aR d 3373259426 19327352832000 x3) λd=>ret (d,0)))))) no))))) no)
def mU:=λx0 x1 x2 x3=>(zd fN lx fS lg jm x0 x1 x2 x3).val
theorem acy:∀cy gT ak aG aR,D0 [xo cy,FU gT,vx ak,Fo aG,F4 aR] 120 Ja (lf xI) λb=>zd cy gT ak aG aR b.1.1 b.1.2.1 b.1.b b.2:=λ_ _ _ _ _ b=>by kernel_rfl
theorem acz [ax]:SC (Jd mU):=s0 (.c B3 (.c R5 (.c Fi (.c Xh (.c Sb (.nil _)))))) (acy fN lx fS lg jm)
def jb:=qa (pu (cu ep nil) (cd oA λb0=>(c jY (c lr (c (cl (gs b0.c.1 lq) nil) (cd oT λb4=>(cd nh λb5=>(cd ni λb6=>(cd nj λb7=>(cd nk λb8=>(cd nm λb9=>(c kG (cd pX λrI=>(c (cl (gs b0.e jq) nil) (c (cl (gs b4.b.1 aA) nil) (c (cl (gs b5.b.1 aA) nil) (c (cl (gs b6.b.1 aA) nil) (c (cl (gs b7.b.1 aA) nil) (c (cl (gs b8.b.1 aA) nil) (c (cl (gs b9.b.1 aA) nil) (cl (cl (gs rI.b fX) nil) nil)))))))))))))))))))))
def qH:=qe aSL
abbrev BG:=qH.B
abbrev BH:=jb.B->Option BG
def BI (g:BH):Ct:=(220,FC jb (lf qH) g)
def rJ (rp:Jc)(x:jb.B):Pg BG:=let n1:=x.1.1.2.2.2.2.2.2.2.2.2.2.2.2.2;opt (rp n1.1 n1.2.1 n1.2.2 x.1.2.1) λd=>ret d.1
def jc:=λx=>(rJ mU x).val
theorem Ru:∀rp,D0 [Jd rp] 220 jb (lf qH) λb=>rJ rp b:=λ_ b=>by kernel_rfl
theorem Rv [ax]:SC (BI jc):=s0 (.c acz (.nil _)) (Ru mU)
def qI:=qa (pr (cu ep Fu) (cd oA λb0=>(c jY (c lr (c (cl (gs b0.c.1 lq) nil) (cd oT λb4=>(cd nh λb5=>(cd ni λb6=>(cd nj λb7=>(cd nk λb8=>(cd nm λb9=>(c kG (cd pX λrI=>(c (cl (gs b0.e jq) nil) (c (cl (gs b4.b.1 aA) nil) (c (cl (gs b5.b.1 aA) nil) (c (cl (gs b6.b.1 aA) nil) (c (cl (gs b7.b.1 aA) nil) (c (cl (gs b8.b.1 aA) nil) (c (cl (gs b9.b.1 aA) nil) (cl (cl (gs rI.b fX) nil) nil)))))))))))))))))))))
def Cs:=qe apE
abbrev D8:=Cs.B
abbrev Pz:=qI.B->Option D8
def PA (g:Pz):Ct:=(173,FC qI (lf Cs) g)
def D9 (lE:Yt)(mx:BH)(YK:ayj)(A5:V2)(bc:pf)(Lm:akT)(aW:mS)(x:qI.B):Pg D8:=let bp:=x.2.2;let n6:=x.1.2.2.2;let n5:=x.2.1.1;let n15:=n5.2.2.2.2.2.2.2.2.2.1;let n7:=n5.2.2.2.2.1.2.2.2.1;let n4:=x.2.1.2.2;let bx:=n4.2.2.2.2.2.2.2.2.2.2.2.2.2.2;let n3:=bp.2.2.2.2;let n8:=n3.2.2.2;let y0:=Nat.beq n4.2.2.1 n4.2.2.1;let y1:=Nat.beq bx bx;let y2:=Nat.beq bp.2.2.2.1.2.2.1 bp.2.2.2.1.2.2.1;let y3:=Nat.beq n3.1.2.2.1 n3.1.2.2.1;let y4:=Nat.beq n3.2.1.2.2.1 n3.2.1.2.2.1;let y5:=Nat.beq n3.2.2.1.2.2.1 n3.2.2.1.2.2.1;let y6:=Nat.beq n8.1.2.2.1 n8.1.2.2.1;let y7:=Nat.beq n8.2.1.2.2.1 n8.2.1.2.2.1;let y8:=Nat.beq n8.2.2.2.1.2.2 n8.2.2.2.1.2.2;opt (lE x.1.1 x.1.2.1 x.1.2.2.1 n6.1 n6.2.1 n6.2.2.1 n6.2.2.2.1 n6.2.2.2.2.1 n6.2.2.2.2.2 x.2.1.2.1) λd=>let n9:=d.1.1.2;ae y0 (ae y1 (ae y2 (ae y3 (ae y4 (ae y5 (ae y6 (ae y7 (ae y8 (opt (mx ((n5,d.2,n4),bp)) λaj=>ae (n4.2.2.2.1.1==3) (opt (YK n4.1 d.1.1.1 n9.1 n9.2.1 n9.2.2 n7 d.2) λd=>let n16:=d.2.2.1;let n2:=d.2.2.2;let bL:=n2.2.1;let aY:=n2.2.2.2;opt (A5 n4.1 aj n15 n7 d.1) λaI=>ae (aI.1.2==0) (ae y0 (ae y1 (ae y2 (ae y3 (ae y4 (ae y5 (ae y6 (ae y7 (ae y8 (opt (bc ((3,4,true),(n5,aI.2,n4),(awo (λk=>cr (d.2.1 k) [aI.1.1.1 k,aY.2.1 k,n2.2.2.1 k,d.2.1 k]) (cr n16 [aI.1.1.2.1,aY.2.2,aY.1,n16],cr n2.1 [aI.1.1.2.2.1,n2.1,n2.1,n2.1],cr bL [aI.1.1.2.2.2,bL,bL,bL])),bp)) λd=>ret d.2.1) no) no) no) no) no) no) no) no) no) (ae y0 (ae y1 (ae y2 (ae y3 (ae y4 (ae y5 (ae y6 (ae y7 (ae y8 (opt (bc ((3,3,true),(n5,aI.2,n4),(awo (λk=>cr (d.2.1 k) [aY.2.1 k,n2.2.2.1 k,d.2.1 k]) (cr n16 [aY.2.2,aY.1,n16],cr n2.1 [n2.1,n2.1,n2.1],cr bL [bL,bL,bL])),bp)) λd=>ret d.2.1) no) no) no) no) no) no) no) no) no)) (opt (Lm n4.1 d.1.1.1 n9.1 n9.2.1 n9.2.2 aj n15 n7 d.2) λd=>let bh:=d.1.1.2;let n1:=d.1.1.1;ae (d.1.2!=0) (ae y0 (ae y1 (ae y2 (ae y3 (ae y4 (ae y5 (ae y6 (ae y7 (ae y8 (opt (aW (3,(n5,d.2,n4),bp)) λaI=>ret ((n5,d.2,n4),aI)) no) no) no) no) no) no) no) no) no) (ae y0 (ae y1 (ae y2 (ae y3 (ae y4 (ae y5 (ae y6 (ae y7 (ae y8 (opt (bc ((3,1,true),(n5,d.2,n4),(λj=>bif Nat.beq j 0 then n1 0 else n1 0,λj=>bif Nat.beq j 0 then n1 1 else n1 1,λj=>bif Nat.beq j 0 then n1 2 else n1 2,λj=>bif Nat.beq j 0 then n1 3 else n1 3,λj=>bif Nat.beq j 0 then n1 4 else n1 4,λj=>bif Nat.beq j 0 then n1 5 else n1 5,λj=>bif Nat.beq j 0 then n1 6 else n1 6,λj=>bif Nat.beq j 0 then n1 7 else n1 7,λj=>bif Nat.beq j 0 then n1 8 else n1 8,λj=>bif Nat.beq j 0 then n1 9 else n1 9,λj=>bif Nat.beq j 0 then n1 10 else n1 10,λj=>bif Nat.beq j 0 then n1 11 else n1 11,λj=>bif Nat.beq j 0 then n1 12 else n1 12,λj=>bif Nat.beq j 0 then n1 13 else n1 13,λj=>bif Nat.beq j 0 then n1 14 else n1 14,λj=>bif Nat.beq j 0 then n1 15 else n1 15,λj=>bif Nat.beq j 0 then n1 16 else n1 16,λj=>bif Nat.beq j 0 then n1 17 else n1 17,λj=>bif Nat.beq j 0 then n1 18 else n1 18,λj=>bif Nat.beq j 0 then n1 19 else n1 19,λj=>bif Nat.beq j 0 then n1 20 else n1 20,λj=>bif Nat.beq j 0 then n1 21 else n1 21,λj=>bif Nat.beq j 0 then n1 22 else n1 22,λj=>bif Nat.beq j 0 then n1 23 else n1 23,λj=>bif Nat.beq j 0 then bh.1 else bh.1,λj=>bif Nat.beq j 0 then bh.2.1 else bh.2.1,λj=>bif Nat.beq j 0 then bh.2.2 else bh.2.2),bp)) λd=>ret d.2.1) no) no) no) no) no) no) no) no) no))) no) no) no) no) no) no) no) no) no
def qJ:=λx=>(D9 wA jc OY uh dJ Dz c9 x).val
theorem alH:∀lE mx YK A5 bc Lm aW,D0 [Yu lE,BI mx,ayk YK,V3 A5,pg bc,akU Lm,mT aW] 173 qI (lf Cs) λb=>D9 lE mx YK A5 bc Lm aW b:=λ_ _ _ _ _ _ _ b=>by kernel_rfl
theorem alI [ax]:SC (PA qJ):=s0 (.c akN (.c Rv (.c aKz (.c aqz (.c uw (.c aCQ (.c qD (.nil _)))))))) (alH wA jc OY uh dJ Dz c9)
def wN:=qa (pr (cu ep aGz) (cd oA λb0=>(c jY (c lr (c (cl (gs b0.c.1 lq) nil) (cd oT λb4=>(cd nh λb5=>(cd ni λb6=>(cd nj λb7=>(cd nk λb8=>(cd nm λb9=>(c kG (cd pX λrI=>(c (cl (gs b0.e jq) nil) (c (cl (gs b4.b.1 aA) nil) (c (cl (gs b5.b.1 aA) nil) (c (cl (gs b6.b.1 aA) nil) (c (cl (gs b7.b.1 aA) nil) (c (cl (gs b8.b.1 aA) nil) (c (cl (gs b9.b.1 aA) nil) (cl (cl (gs rI.b fX) nil) nil)))))))))))))))))))))
def LY:=qe apE
def ahU:=qe (res (pu Tl (pr (c aSZ aMG) aGC)))
abbrev CU:=LY.B⊕(((Js×Bool×NI×(NI×NI)×Nat×tM×Bool×Int×nr×Bool×Bool×Bool×Int×Int×Int×HI×Nat)×aID×Int)×NI×NI×NI×NI×NI×NI×NI×NI×NI×NI)
def YL:CU->T:=ls (lf LY) (λd=>lf ahU (d.1,d.1.1.e,d.2))
abbrev Ln:=wN.B->Option CU
def YM (g:Ln):Ct:=(109,FC wN YL g)
def Lo (A6:Wh)(pU:GX)(iS:H9)(nX:akJ)(bZ:Ld)(gU:FL)(my:agJ)(aW:mS)(wO:Pz)(sN:Lf)(A7:Wm)(x:wN.B):Pg CU:=let n24:=x.2.1;let bp:=x.1.2;let n9:=x.2.2;let n8:=x.1.1;let n5:=bp.2.2.2;let n16:=n5.2.2.2;let n4:=n9.2.2.2.2;let bL:=n4.2.2.2;let n3:=n24.1;let n6:=n3.2.2.2.2.1;let n17:=n6.2.2.2;let n2:=n24.2.2;let n25:=n2.2.2;let n15:=n25.2.2.2.2.2.2;let n1:=(n24,bL.2.2.1);let y0:=aX n8 6;let y1:=n8==2;let y2:=n8==3;let y3:=n8==5;let y4:=n8==4;let y5:=n8==1;let y6:=Nat.beq n25.1 n25.1;let y7:=Nat.beq n15.2.2.2.2.2.2 n15.2.2.2.2.2.2;let y8:=Nat.beq n9.2.2.2.1.2.2.1 n9.2.2.2.1.2.2.1;let y9:=Nat.beq n4.1.2.2.1 n4.1.2.2.1;let uS:=Nat.beq n4.2.1.2.2.1 n4.2.1.2.2.1;let uU:=Nat.beq n4.2.2.1.2.2.1 n4.2.2.1.2.2.1;let xU:=Nat.beq bL.1.2.2.1 bL.1.2.2.1;let xV:=Nat.beq bL.2.1.2.2.1 bL.2.1.2.2.1;let xW:=Nat.beq bL.2.2.2.1.2.2 bL.2.2.2.1.2.2;ae (n25.2.1.1==0) (ret (Sum.inl n1)) (ae (n25.2.1.1==1) (ae y2 (ae (!n15.1) (ae y6 (ae y7 (ae y8 (ae y9 (ae uS (ae uU (ae xU (ae xV (ae xW (opt (A6 (bp,x.2)) λd=>sm d (λd=>ret (Sum.inl d)) (λd=>let n22:=d.1.1.2;let aY:=n22.2.2.2;let n23:=aY.2.2.2;ret (Sum.inr (((d.1.1.1,n22.1,n22.2.1,n22.2.2.1,aY.1,aY.2.1,aY.2.2.1,n23.1,n23.2.1,n23.2.2.1,true,n23.2.2.2),d.1.2),d.2)))) no) no) no) no) no) no) no) no) no) (ret (Sum.inl n1))) (ret (Sum.inl n1))) (ae (n8==0) (ae y6 (ae y7 (ae y8 (ae y9 (ae uS (ae uU (ae xU (ae xV (ae xW (opt (pU (bp,x.2)) λd=>sm d (λd=>let n18:=d.1.1.2;let n7:=n18.2.2.2.2;let n19:=n7.2.2.2;ret (Sum.inr (((d.1.1.1,n18.1,n18.2.1,n18.2.2.1,n18.2.2.2.1,n7.1,n7.2.1,n7.2.2.1,n19.1,n19.2.1,n19.2.2.1,true,n19.2.2.2.1,n19.2.2.2),d.1.2),d.2))) (λd=>ret (Sum.inl d))) no) no) no) no) no) no) no) no) no) (ae y5 (opt (iS bp.1 bp.2.1 bp.2.2.1 n5.1 n5.2.1 n5.2.2.1 n16.1 n16.2.1 n16.2.2 n24.2.1) λd=>let bx:=d.1.1;ae y0 (ae y3 (opt (nX n2.1 bx.1 bx.2 n17.2.2 d.2) λd=>ae y6 (ae y7 (ae y8 (ae y9 (ae uS (ae uU (ae xU (ae xV (ae xW (opt (bZ ((n8,1,d.1),(n3,d.2,n2),n9)) λd=>ret (Sum.inl d)) no) no) no) no) no) no) no) no) no) (ae y4 (opt (nX n2.1 bx.1 bx.2 n17.2.1 d.2) λd=>ae y6 (ae y7 (ae y8 (ae y9 (ae uS (ae uU (ae xU (ae xV (ae xW (opt (bZ ((n8,1,d.1),(n3,d.2,n2),n9)) λd=>ret (Sum.inl d)) no) no) no) no) no) no) no) no) no) (ae y2 (opt (nX n2.1 bx.1 bx.2 n17.1 d.2) λd=>ae y6 (ae y7 (ae y8 (ae y9 (ae uS (ae uU (ae xU (ae xV (ae xW (opt (bZ ((n8,1,d.1),(n3,d.2,n2),n9)) λd=>ret (Sum.inl d)) no) no) no) no) no) no) no) no) no) (ae y1 (opt (nX n2.1 bx.1 bx.2 n6.2.2.1 d.2) λd=>ae y6 (ae y7 (ae y8 (ae y9 (ae uS (ae uU (ae xU (ae xV (ae xW (opt (bZ ((n8,1,d.1),(n3,d.2,n2),n9)) λd=>ret (Sum.inl d)) no) no) no) no) no) no) no) no) no) (ae y5 (opt (nX n2.1 bx.1 bx.2 n6.2.1 d.2) λd=>ae y6 (ae y7 (ae y8 (ae y9 (ae uS (ae uU (ae xU (ae xV (ae xW (opt (bZ ((n8,1,d.1),(n3,d.2,n2),n9)) λd=>ret (Sum.inl d)) no) no) no) no) no) no) no) no) no) (opt (nX n2.1 bx.1 bx.2 n6.1 d.2) λd=>ae y6 (ae y7 (ae y8 (ae y9 (ae uS (ae uU (ae xU (ae xV (ae xW (opt (bZ ((n8,1,d.1),(n3,d.2,n2),n9)) λd=>ret (Sum.inl d)) no) no) no) no) no) no) no) no) no)))))) no) (ae y1 (opt (gU bp.1 bp.2.1 bp.2.2.1 n5.1 n5.2.1 n5.2.2.1 n16.1 n16.2.1 n16.2.2 n24.2.1) λd=>let bh:=d.1.1;let n21:=bh.2.2;let n20:=bh.2.1;ae y0 (ae y3 (opt (my n2.1 bh.1 n20 n21 n17.2.2 d.2) λd=>ae (d.1.2!=0) (ae y6 (ae y7 (ae y8 (ae y9 (ae uS (ae uU (ae xU (ae xV (ae xW (opt (aW (n8,(n3,d.2,n2),n9)) λaj=>ret (Sum.inl ((n3,d.2,n2),aj))) no) no) no) no) no) no) no) no) no) (ae y6 (ae y7 (ae y8 (ae y9 (ae uS (ae uU (ae xU (ae xV (ae xW (opt (bZ ((n8,3,d.1.1),(n3,d.2,n2),n9)) λd=>ret (Sum.inl d)) no) no) no) no) no) no) no) no) no)) (ae y4 (opt (my n2.1 bh.1 n20 n21 n17.2.1 d.2) λd=>ae (d.1.2!=0) (ae y6 (ae y7 (ae y8 (ae y9 (ae uS (ae uU (ae xU (ae xV (ae xW (opt (aW (n8,(n3,d.2,n2),n9)) λaj=>ret (Sum.inl ((n3,d.2,n2),aj))) no) no) no) no) no) no) no) no) no) (ae y6 (ae y7 (ae y8 (ae y9 (ae uS (ae uU (ae xU (ae xV (ae xW (opt (bZ ((n8,3,d.1.1),(n3,d.2,n2),n9)) λd=>ret (Sum.inl d)) no) no) no) no) no) no) no) no) no)) (ae y2 (opt (my n2.1 bh.1 n20 n21 n17.1 d.2) λd=>ae (d.1.2!=0) (ae y6 (ae y7 (ae y8 (ae y9 (ae uS (ae uU (ae xU (ae xV (ae xW (opt (aW (n8,(n3,d.2,n2),n9)) λaj=>ret (Sum.inl ((n3,d.2,n2),aj))) no) no) no) no) no) no) no) no) no) (ae y6 (ae y7 (ae y8 (ae y9 (ae uS (ae uU (ae xU (ae xV (ae xW (opt (bZ ((n8,3,d.1.1),(n3,d.2,n2),n9)) λd=>ret (Sum.inl d)) no) no) no) no) no) no) no) no) no)) (ae y1 (opt (my n2.1 bh.1 n20 n21 n6.2.2.1 d.2) λd=>ae (d.1.2!=0) (ae y6 (ae y7 (ae y8 (ae y9 (ae uS (ae uU (ae xU (ae xV (ae xW (opt (aW (n8,(n3,d.2,n2),n9)) λaj=>ret (Sum.inl ((n3,d.2,n2),aj))) no) no) no) no) no) no) no) no) no) (ae y6 (ae y7 (ae y8 (ae y9 (ae uS (ae uU (ae xU (ae xV (ae xW (opt (bZ ((n8,3,d.1.1),(n3,d.2,n2),n9)) λd=>ret (Sum.inl d)) no) no) no) no) no) no) no) no) no)) (ae y5 (opt (my n2.1 bh.1 n20 n21 n6.2.1 d.2) λd=>ae (d.1.2!=0) (ae y6 (ae y7 (ae y8 (ae y9 (ae uS (ae uU (ae xU (ae xV (ae xW (opt (aW (n8,(n3,d.2,n2),n9)) λaj=>ret (Sum.inl ((n3,d.2,n2),aj))) no) no) no) no) no) no) no) no) no) (ae y6 (ae y7 (ae y8 (ae y9 (ae uS (ae uU (ae xU (ae xV (ae xW (opt (bZ ((n8,3,d.1.1),(n3,d.2,n2),n9)) λd=>ret (Sum.inl d)) no) no) no) no) no) no) no) no) no)) (opt (my n2.1 bh.1 n20 n21 n6.1 d.2) λd=>ae (d.1.2!=0) (ae y6 (ae y7 (ae y8 (ae y9 (ae uS (ae uU (ae xU (ae xV (ae xW (opt (aW (n8,(n3,d.2,n2),n9)) λaj=>ret (Sum.inl ((n3,d.2,n2),aj))) no) no) no) no) no) no) no) no) no) (ae y6 (ae y7 (ae y8 (ae y9 (ae uS (ae uU (ae xU (ae xV (ae xW (opt (bZ ((n8,3,d.1.1),(n3,d.2,n2),n9)) λd=>ret (Sum.inl d)) no) no) no) no) no) no) no) no) no))))))) no) (ae y2 (ae y6 (ae y7 (ae y8 (ae y9 (ae uS (ae uU (ae xU (ae xV (ae xW (opt (wO (bp,x.2)) λd=>ret (Sum.inl d)) no) no) no) no) no) no) no) no) no) (ae y4 (ae y6 (ae y7 (ae y8 (ae y9 (ae uS (ae uU (ae xU (ae xV (ae xW (opt (sN (bp,x.2)) λd=>ret (Sum.inl d)) no) no) no) no) no) no) no) no) no) (ae y6 (ae y7 (ae y8 (ae y9 (ae uS (ae uU (ae xU (ae xV (ae xW (opt (A7 (bp,x.2)) λd=>ret (Sum.inl d)) no) no) no) no) no) no) no) no) no)))))))
def wP:=λx=>(Lo uA mb mC Dx nT lu Bv c9 qJ nV uF x).val
theorem at1:∀A6 pU iS nX bZ gU my aW wO sN A7,D1 [Wi A6,GY pU,H' iS,akK nX,Le bZ,FM gU,agK my,mT aW,PA wO,Lg sN,Wn A7] [0,10] 109 wN YL λb=>Lo A6 pU iS nX bZ gU my aW wO sN A7 b:=λ_ _ _ _ _ _ _ _ _ _ _ b=>by kernel_rfl
theorem at2 [ax]:SC (YM wP):=s0 (.c aqL (.c aaP (.c VK (.c aCO (.c afu (.c RU (.c azw (.c qD (.c alI (.c afw (.c aqP (.nil _)))))))))))) (at1 uA mb mC Dx nT lu Bv c9 qJ nV uF)
def jM:=qa (pr (cu Gg (cu Oy ac8)) (cd ac7 λb0=>(c uV (cl (cl (gs b0.b fX) nil) nil))))
def rK:=qe (res (pr ai (pl (cu eW (c ard aMx)) nil)))
abbrev sO:=rK.B
abbrev sP:=jM.B->Option sO
def CW (g:sP):Ct:=(114,FC jM (lf rK) g)
def cN:=qs (st (dp (us 3 (c ai (cu aIR (cu aAu (cu am7 (us 2 (c ai (us 12 (c aLv (c ai (cl ai (us 74 nil)))))))))))) λv=>(pl (c (so ac7) (c cj (c (so (cl (gs v.b.1 fX) nil)) aSr))) aAz)))
def PC:=qs (st (pr (us 3 (c ai (cu aIR (cu aAu (cu am7 (us 2 (c ai (us 12 (c aLv (c ai (c ai (cl ab (us 73 nil))))))))))))) (pl (c (so ac7) (c cj (c aia aSr))) aAz)))
abbrev fH:=((Int×Int×Nat×Int×Int×Bool)×xM×Bool×(NI×NI×NI×NI×NI×NI×NI×NI×NI×NI×NI)×NI)
def zJ {ρ:Type}(x:fH)(K:AX->St->Option ρ):Option ρ:=(λd=>K (.ex 0) (PC.em (d.1,d.2.1,d.b.1,(d.1.b.1,d.b.2.1),d.c))) x
def qK (d:cN.B):PL cN fH:=let n1:=d.1.2.2;let n2:=n1.2.2;let y0:=decide (n2<n1.2.1);ae y0 (ae (aX n2 n1.1) (ae (decide (d.2.2.2.1.1 (Int.toNat n2)<=d.1.1)) (ret (Sum.inl ((d.1.1,n2,n1.1,n1.2.1,wI (n2+1)),d.2))) (ret (Sum.inl ((d.1.1,d.1.2.1,n1.1,n1.2.1,wI (n2+1)),d.2)))) no) (ret (Sum.inr ((d.1.1,d.1.2.1,n1.1,n1.2.1,n2,y0),d.2)))
def qL:=bD (qK) 2000
def dK:=qs aSY
def PD:=qs (st (pr (us 4 (cu aIR (cu aAu (us 8 (cu (app 5 3) (cu (app 6 3) (cu (app 7 4) (cu (app 8 4) (c ai (us 62 (c ai (cu Oy (cu Gg (cu Gg (cu aRW (c ai (c ai (c (ac (LD (pu (nat 7) (pl (ok' hole) B8)))) (c ai (c ai (cl (ac (LD (pu ID (pl (ok' hole) B8)))) (us 7 nil)))))))))))))))))))))) (pl (c (so ac7) (c cj (c aia (cu aut (cu YW (c w7 (c w7 (c uX (cl uX nil))))))))) aAz)))
abbrev fI:=((Int×Int×Nat×Int×Int×Nat)×(Int×Nat)×Bool×aQ1×nr×nr×aER×Int×Int×Int×Int)
def zK {ρ:Type}(x:fI)(K:AX->St->Option ρ):Option ρ:=(λd=>K .nrm (PD.em ((d.1.1,d.1.1,d.1.2.1,d.1.1,d.1.b),(d.2.1.1,d.1.2.1,d.2.1.2),d.b))) x
def qM (aC:bK)(d:dK.B):Pg fI:=let bh:=d.2.2.1;let n6:=d.2.1.1;let n3:=d.2.2.2;let n7:=n3.2.1;let n2:=d.2.1.2;let n1:=n3.2.2;let n5:=n1.2.2;let aY:=n5.2.1;let n8:=n5.2.2;let n4:=n1.2.1;let bp:=n4.2.1;let n9:=n4.2.2;let y0:=aX d.1 4;let y1:=d.1==1;let y2:=d.1==3;let y3:=d.1==2;ae y0 (ae y2 (opt (aC n2.1 n9.2 30 bh) λaj=>ae y0 (ae y2 (ret ((d.1,n2.1,3,n9.2,aj.1,3),(n6,n2.2),aj.2,n3.1,n7,n1.1,n4,n5.1,aY,n8.1,aj.1)) (ae y3 (ret ((d.1,n2.1,3,n9.2,aj.1,2),(n6,n2.2),aj.2,n3.1,n7,n1.1,n4,n5.1,aY,aj.1,n8.2)) (ae y1 (ret ((d.1,n2.1,3,n9.2,aj.1,1),(n6,n2.2),aj.2,n3.1,n7,n1.1,n4,n5.1,aj.1,n8)) (ret ((d.1,n2.1,3,n9.2,aj.1,0),(n6,n2.2),aj.2,n3.1,n7,n1.1,n4,aj.1,n5.2))))) no) (ae y3 (opt (aC n2.1 n9.1 30 bh) λaj=>ae y0 (ae y2 (ret ((d.1,n2.1,2,n9.1,aj.1,3),(n6,n2.2),aj.2,n3.1,n7,n1.1,n4,n5.1,aY,n8.1,aj.1)) (ae y3 (ret ((d.1,n2.1,2,n9.1,aj.1,2),(n6,n2.2),aj.2,n3.1,n7,n1.1,n4,n5.1,aY,aj.1,n8.2)) (ae y1 (ret ((d.1,n2.1,2,n9.1,aj.1,1),(n6,n2.2),aj.2,n3.1,n7,n1.1,n4,n5.1,aj.1,n8)) (ret ((d.1,n2.1,2,n9.1,aj.1,0),(n6,n2.2),aj.2,n3.1,n7,n1.1,n4,aj.1,n5.2))))) no) (ae y1 (opt (aC n2.1 bp 30 bh) λaj=>ae y0 (ae y2 (ret ((d.1,n2.1,1,bp,aj.1,3),(n6,n2.2),aj.2,n3.1,n7,n1.1,n4,n5.1,aY,n8.1,aj.1)) (ae y3 (ret ((d.1,n2.1,1,bp,aj.1,2),(n6,n2.2),aj.2,n3.1,n7,n1.1,n4,n5.1,aY,aj.1,n8.2)) (ae y1 (ret ((d.1,n2.1,1,bp,aj.1,1),(n6,n2.2),aj.2,n3.1,n7,n1.1,n4,n5.1,aj.1,n8)) (ret ((d.1,n2.1,1,bp,aj.1,0),(n6,n2.2),aj.2,n3.1,n7,n1.1,n4,aj.1,n5.2))))) no) (opt (aC n2.1 n4.1 30 bh) λaj=>ae y0 (ae y2 (ret ((d.1,n2.1,0,n4.1,aj.1,3),(n6,n2.2),aj.2,n3.1,n7,n1.1,n4,n5.1,aY,n8.1,aj.1)) (ae y3 (ret ((d.1,n2.1,0,n4.1,aj.1,2),(n6,n2.2),aj.2,n3.1,n7,n1.1,n4,n5.1,aY,aj.1,n8.2)) (ae y1 (ret ((d.1,n2.1,0,n4.1,aj.1,1),(n6,n2.2),aj.2,n3.1,n7,n1.1,n4,n5.1,aj.1,n8)) (ret ((d.1,n2.1,0,n4.1,aj.1,0),(n6,n2.2),aj.2,n3.1,n7,n1.1,n4,aj.1,n5.2))))) no)))) no
def lF (d:dK.B):Option fI:=(qM aU d).val
def cO:=qs aSY
def PE:=qs (st (pr (us 4 (cu aIR (cu aAu (us 8 (cu (app 5 3) (cu (app 6 3) (cu (app 7 4) (cu (app 8 4) (c ai (us 49 aRx)))))))))) (pl (c (so ac7) (c cj (c aia (cu aut (cu YW (c w7 (c w7 (c uX (cl uX nil))))))))) aAz)))
abbrev fJ:=((Int×Bool)×xM×Bool×aQ1×nr×nr×aER×Int×Int×Int×Int)
def zL {ρ:Type}(x:fJ)(K:AX->St->Option ρ):Option ρ:=(λd=>K (.ex 2) (PE.em ((d.1.1,d.1),d.2))) x
def qN (Kj:LT dK fI)(d:cO.B):PL cO fJ:=let n5:=d.2.1;let n2:=d.2.2;let n6:=n2.2.1;let n4:=n2.2.2.1;let n1:=n2.2.2.2;let n7:=n1.2.2;let n3:=n1.2.1;let n9:=n3.2.1;let n8:=n3.2.2;let y0:=aX d.1 4;let y1:=d.1==1;let y2:=d.1==3;let y3:=d.1==2;let y4:=decide (d.1<4);let y5:=wI (0-n3.1);let y6:=wI (0-n9);let y7:=wI (0-n8.1);let y8:=wI (0-n8.2);ae y4 (ae (decide (n3.1<0)) (ae y0 (ae y2 (ae y0 (ae y2 (opt (Kj (d.1,n5,n2.1,n6,n4,n1.1,(n3.1,n9,n8.1,y8),n7)) λd=>ret (Sum.inl (wI (d.1.1+1),(d.2.1.1,d.1.2.1,d.2.1.2),d.2.2))) (ae y3 (opt (Kj (d.1,n5,n2.1,n6,n4,n1.1,(n3.1,n9,y8,n8.2),n7)) λd=>ret (Sum.inl (wI (d.1.1+1),(d.2.1.1,d.1.2.1,d.2.1.2),d.2.2))) (ae y1 (opt (Kj (d.1,n5,n2.1,n6,n4,n1.1,(n3.1,y8,n8),n7)) λd=>ret (Sum.inl (wI (d.1.1+1),(d.2.1.1,d.1.2.1,d.2.1.2),d.2.2))) (opt (Kj (d.1,n5,n2.1,n6,n4,n1.1,(y8,n3.2),n7)) λd=>ret (Sum.inl (wI (d.1.1+1),(d.2.1.1,d.1.2.1,d.2.1.2),d.2.2)))))) no) (ae y3 (ae y0 (ae y2 (opt (Kj (d.1,n5,n2.1,n6,n4,n1.1,(n3.1,n9,n8.1,y7),n7)) λd=>ret (Sum.inl (wI (d.1.1+1),(d.2.1.1,d.1.2.1,d.2.1.2),d.2.2))) (ae y3 (opt (Kj (d.1,n5,n2.1,n6,n4,n1.1,(n3.1,n9,y7,n8.2),n7)) λd=>ret (Sum.inl (wI (d.1.1+1),(d.2.1.1,d.1.2.1,d.2.1.2),d.2.2))) (ae y1 (opt (Kj (d.1,n5,n2.1,n6,n4,n1.1,(n3.1,y7,n8),n7)) λd=>ret (Sum.inl (wI (d.1.1+1),(d.2.1.1,d.1.2.1,d.2.1.2),d.2.2))) (opt (Kj (d.1,n5,n2.1,n6,n4,n1.1,(y7,n3.2),n7)) λd=>ret (Sum.inl (wI (d.1.1+1),(d.2.1.1,d.1.2.1,d.2.1.2),d.2.2)))))) no) (ae y1 (ae y0 (ae y2 (opt (Kj (d.1,n5,n2.1,n6,n4,n1.1,(n3.1,n9,n8.1,y6),n7)) λd=>ret (Sum.inl (wI (d.1.1+1),(d.2.1.1,d.1.2.1,d.2.1.2),d.2.2))) (ae y3 (opt (Kj (d.1,n5,n2.1,n6,n4,n1.1,(n3.1,n9,y6,n8.2),n7)) λd=>ret (Sum.inl (wI (d.1.1+1),(d.2.1.1,d.1.2.1,d.2.1.2),d.2.2))) (ae y1 (opt (Kj (d.1,n5,n2.1,n6,n4,n1.1,(n3.1,y6,n8),n7)) λd=>ret (Sum.inl (wI (d.1.1+1),(d.2.1.1,d.1.2.1,d.2.1.2),d.2.2))) (opt (Kj (d.1,n5,n2.1,n6,n4,n1.1,(y6,n3.2),n7)) λd=>ret (Sum.inl (wI (d.1.1+1),(d.2.1.1,d.1.2.1,d.2.1.2),d.2.2)))))) no) (ae y0 (ae y2 (opt (Kj (d.1,n5,n2.1,n6,n4,n1.1,(n3.1,n9,n8.1,y5),n7)) λd=>ret (Sum.inl (wI (d.1.1+1),(d.2.1.1,d.1.2.1,d.2.1.2),d.2.2))) (ae y3 (opt (Kj (d.1,n5,n2.1,n6,n4,n1.1,(n3.1,n9,y5,n8.2),n7)) λd=>ret (Sum.inl (wI (d.1.1+1),(d.2.1.1,d.1.2.1,d.2.1.2),d.2.2))) (ae y1 (opt (Kj (d.1,n5,n2.1,n6,n4,n1.1,(n3.1,y5,n8),n7)) λd=>ret (Sum.inl (wI (d.1.1+1),(d.2.1.1,d.1.2.1,d.2.1.2),d.2.2))) (opt (Kj (d.1,n5,n2.1,n6,n4,n1.1,(y5,n3.2),n7)) λd=>ret (Sum.inl (wI (d.1.1+1),(d.2.1.1,d.1.2.1,d.2.1.2),d.2.2)))))) no)))) no) (opt (Kj d) λd=>ret (Sum.inl (wI (d.1.1+1),(d.2.1.1,d.1.2.1,d.2.1.2),d.2.2)))) (ret (Sum.inr ((d.1,y4),d.2)))
def qO:=bD (qN lF) 2000
def sQ (iR:se)(mB:HX)(ae5:J5)(ew:wj)(bn:gQ)(Ta:sr)(dG:LT cN fH)(qd:LT cO fJ)(x:jM.B):Pg sO:=let n8:=x.2.1.2.2;ae (Nat.beq n8 n8) (opt (dG ((x.1.2, -1,n8,Int.ofNat n8,0),x.2.1,x.2.2.1,x.2.2.2,x.1.1)) λd=>let n16:=d.1.2;let n7:=d.2.2.2.1;let n2:=n7.2.2.2;let n9:=n2.2.2.2;let y0:=Int.toNat n16.1;ae (decide (n16.1<0)) (ret (4,d.2.2.1,n16.2.1,n7)) (ae (aX n16.1 d.2.1.2.2) (opt (iR d.2.2.2.2 d.1.1 d.2.2.1) λaj=>let n5:=aj.1.2.2.2.2;let bp:=n5.2.2.2;opt (mB n5.2.1 n5.2.2.1 bp.1 (n2.2.2.1 y0) (n9.1 y0) (n9.2.1 y0) aj.2) λaI=>opt (mB bp.2.1 bp.2.2.1 bp.2.2.2 (n9.2.2.1 y0) (n9.2.2.2.1 y0) (n9.2.2.2.2 y0) aI.2) λbz=>opt (ae5 (n7.2.1 y0) (n7.2.2.1 y0) (n2.1 y0) (n2.2.1 y0)) λcq=>opt (ew aj.1.2.1 aj.1.2.2.1 aj.1.2.2.2.1 n5.1 cq.1 cq.2.1 cq.2.2.1 cq.2.2.2 bz.2) λeo=>opt (qd (1,d.2.1,eo.2,(n16.2.1,n7),aI.1,bz.1,eo.1,1073741824,0,0,0)) λd=>let n17:=d.2.1.2.2;let n1:=d.2.2.2;let bh:=n1.1.2;let aY:=n1.2.2.2.2;let n3:=bh.2.2.2.2;let n15:=n3.2.2.2;opt (bn aY.1 aY.2.1 aY.2.2.1 aY.2.2.2 d.2.2.1) λcJ=>ae (Nat.beq n17 n17) (opt (Ta (d.2.1,cJ.2,n1.2.1,n1.2.2.1,cJ.1,bh)) λkI=>let bx:=kI.2.2.2;let n6:=kI.2.1;let n4:=bx.2.2.2;let bL:=n4.2.2.2;let y0:=n6*11+0;ae (true&&Nat.beq y0 (n17*11)&&true) (ae (true&&Nat.ble (0+y0) (n1.1.1*11+0)) (ret (0,kI.1,n1.1.1,λj=>bif true&&Nat.blt j (0+n6) then kI.2.2.1 j else bh.1 j,λj=>bif true&&Nat.blt j (0+n6) then bx.1 j else bh.2.1 j,λj=>bif true&&Nat.blt j (0+n6) then bx.2.1 j else bh.2.2.1 j,λj=>bif true&&Nat.blt j (0+n6) then bx.2.2.1 j else bh.2.2.2.1 j,λj=>bif true&&Nat.blt j (0+n6) then n4.1 j else n3.1 j,λj=>bif true&&Nat.blt j (0+n6) then n4.2.1 j else n3.2.1 j,λj=>bif true&&Nat.blt j (0+n6) then n4.2.2.1 j else n3.2.2.1 j,λj=>bif true&&Nat.blt j (0+n6) then bL.1 j else n15.1 j,λj=>bif true&&Nat.blt j (0+n6) then bL.2.1 j else n15.2.1 j,λj=>bif true&&Nat.blt j (0+n6) then bL.2.2.1 j else n15.2.2.1 j,λj=>bif true&&Nat.blt j (0+n6) then bL.2.2.2 j else n15.2.2.2 j)) no) no) no) no)) no
def jN:=λx=>(sQ kV tV zY ke cW jJ qL qO x).val
abbrev gJ:=se×HX×J5×wj×bK×gQ×lB×sr×(LT cN fH)×(LT dK fI)×(LT cO fJ)
def jO (p:gJ):KK:=⟨[EV p.1,Ub p.2.1,aeg p.b.1,Dp p.b.2.1,eL p.c.1,ml p.c.2.1,ql p.c.b.1,CO p.c.b.2.1],⟨[⟨3,(0::1::2::7::8::rg 10 12 (rg 25 74 [])),[]⟩,⟨15,(rg 0 4 (rg 6 8 (rg 19 80 []))),[]⟩],[fx 3 3 cN zJ p.d.1,fx 15 3 cO zL p.d.b],[1,2],[⟨⟨19,(rg 0 4 (rg 6 8 (rg 19 80 []))),[]⟩,fx 19 3 dK zK p.d.2.1⟩],(some ⟨0,(rg 0 8 (rg 9 90 [])),[]⟩)⟩,3,114⟩
theorem Ns (p:gJ):LI (jO p) 3 cN zJ (qK):=λ_ d c K=>by kernel_rfl
theorem Nt (p:gJ):JI (jO p) 19 dK zK (qM p.c.1):=λ_ d K=>by kernel_rfl
theorem Nu (p:gJ):LI (jO p) 15 cO zL (qN p.d.2.1):=λ_ d c K=>by kernel_rfl
theorem Tb (p:gJ):D2 (jO p) jM (lf rK) λb=>sQ p.1 p.2.1 p.b.1 p.b.2.1 p.c.2.1 p.c.b.2.1 p.d.1 p.d.b b:=λb=>by kernel_rfl
abbrev jP:gJ:=(kV,tV,zY,ke,aU,cW,fD,jJ,qL,lF,qO)
theorem Tc [ax]:SC (CW jN):=sc (kS (k:=jO jP) (.c K4 (.c ad9 (.c asb (.c IU (.c eY (.c nI (.c zC (.c SV (.nil _))))))))) [3,15] [19] ⟨kL (Ns jP),⟨kL (Nu jP),trivial⟩⟩ ⟨kJ ⟨19,(rg 0 4 (rg 6 8 (rg 19 80 []))),[]⟩ (Nt jP),trivial⟩ (Tb jP))
def om:=qa (pr (cu ep Y0) (cd oA λb0=>(c jY (c lr (c (cl (gs b0.c.1 lq) nil) (cd oT λb4=>(cd nh λb5=>(cd ni λb6=>(cd nj λb7=>(cd nk λb8=>(cd nm λb9=>(c kG (cd pX λrI=>(c (cl (gs b0.e jq) nil) (c (cl (gs b4.b.1 aA) nil) (c (cl (gs b5.b.1 aA) nil) (c (cl (gs b6.b.1 aA) nil) (c (cl (gs b7.b.1 aA) nil) (c (cl (gs b8.b.1 aA) nil) (c (cl (gs b9.b.1 aA) nil) (cl (cl (gs rI.b fX) nil) nil)))))))))))))))))))))
def Je:=qe (res (pu Tl (pl (c (zM oA) (cu eW (cu eW (cu eW (cu eW (cu eW (cu eW (cu eW (cu eW (cu eW (cu eW (cl (zM pX) aGu)))))))))))) nil)))
def Jf:=qe (res (pu Tl (pr (c (zM aMO) (cu eW (cu eW (cu eW (cu eW (cu eW (cu eW (cu eW (cu eW (cu eW (cu eW (cl (zM aMv) aGu)))))))))))) aAI)))
abbrev rQ:=Je.B⊕Jf.B
def Sc:rQ->T:=ls (lf Je) (lf Jf)
abbrev F6:=om.B->Option rQ
def Sd (g:F6):Ct:=(106,FC om Sc g)
def eX:=qs (st (dp (cu ep (us 3 (cu L5 (us 109 (c (ac aMm) (c ai aLA)))))) λv=>(pl (cd (so aMO) λb0=>(c rV (c rW (c (so (cl (gs v.1 lq) nil)) (cd (so oT) λb4=>(cd (so nh) λb5=>(cd (so ni) λb6=>(cd (so nj) λb7=>(cd (so nk) λb8=>(cd (so nm) λb9=>(c pY (c (so aMv) (c (so (cl (gs b0.d.c.b jq) nil)) (c (so (cl (gs b4.b.1 aA) nil)) (c (so (cl (gs b5.b.1 aA) nil)) (c (so (cl (gs b6.b.1 aA) nil)) (c (so (cl (gs b7.b.1 aA) nil)) (c (so (cl (gs b8.b.1 aA) nil)) (c (so (cl (gs b9.b.1 aA) nil)) (c aia Jt)))))))))))))))))))) aRI)))
def ahV:=qs (st (pr (cu ep (us 3 (cu L5 (us 109 (c (ac aMm) aRK))))) (pl (c (so aMO) (c rV (c rW (c uY (c (so oT) (c (so nh) (c (so ni) (c (so nj) (c (so nk) (c (so nm) (c pY (c (so aMv) (c uZ (c Fv (c Fv (c Fv (c Fv (c Fv (c Fv (c aia Jt)))))))))))))))))))) aRI)))
abbrev lJ:=((Nat×Int×Int×Bool)×(Js×Bool×ZJ×(NI×NI)×Nat×tM×Int×nr×Bool×Bool×Int×Int×Int×HI×Nat)×(nr×Int×Int)×Tk×(NI×NI×NI×NI×NI×NI×NI×NI)×cz×cz×cz×cz×cz×cz×So×xM×aN4×eD×eD×eD×eD×eD×eD×aQ1×Nat×NI×NI×NI×NI×NI×NI×NI×NI×NI×NI×NI)
def LZ {ρ:Type}(x:lJ)(K:AX->St->Option ρ):Option ρ:=(λd=>K (.ex 0) (ahV.em (d.1,d.2.1,d.b.1,d.b.2.1,(d.1.1,d.c.1),d.c.2.1,d.c.b.1,d.c.b.2.1,d.d.1,d.d.2.1,d.d.b.1,d.d.b.2.1,d.d.c.1,(d.2.1.d.c.b,d.d.c.2.1),(d.c.2.1.b.1,d.d.c.b.1),(d.c.b.1.b.1,d.d.c.b.2.1),(d.c.b.2.1.b.1,d.e.1),(d.d.1.b.1,d.e.2.1),(d.d.2.1.b.1,d.e.b.1),(d.d.b.1.b.1,d.e.b.2.1),d.e.c))) x
def Cu (xJ:lY)(d:eX.B):PL eX lJ:=let bh:=d.2.2;let aY:=d.2.1;let n9:=d.1.2;let n4:=bh.2.2;let n8:=n4.1.2.2.2;let n7:=n4.2.2.2;let bp:=n7.2.2;let n2:=bp.2.2;let bx:=n2.2.2;let n5:=bx.2.2.2;let n3:=n5.2.2.2.2.2.2;let n6:=n3.2.2.2.2.2;let n1:=(d.1.1,n9.1,wI (n9.2+1));let y0:=0+Int.toNat n9.2;let y1:=decide (n9.2<n9.1);ae y1 (ae (aX n9.2 d.1.1) (ae (Nat.beq n2.2.1.2.2 n2.2.1.2.2) (opt (xJ ((aY.2.2.1,n4.1.1 y0,n4.1.2.1 y0,(n4.1.2.2.1 y0,n8.1 y0,n8.2.1 y0),n8.2.2.1 y0,n8.2.2.2.1 y0,n8.2.2.2.2 y0),n2.2.1,aY.2.1,λj=>n3.1 (0+j),λj=>n3.2.1 (0+j),λj=>n3.2.2.1 (0+j),λj=>n3.2.2.2.1 (0+j),λj=>n3.2.2.2.2.1 (0+j),λj=>n6.1 (0+j),λj=>n6.2.1 (0+j),λj=>n6.2.2.1 (0+j),λj=>n6.2.2.2.1 (0+j),λj=>n6.2.2.2.2.1 (0+j),λj=>n6.2.2.2.2.2 (0+j))) λaj=>sm aj (λaI=>ret (Sum.inl (n1,(aY.1,aI.2.2,aY.2.2),bh.1,bh.2.1,n4.1,n4.2.1,n4.2.2.1,n7.1,n7.2.1,bp.1,bp.2.1,n2.1,aI.2.1,bx))) (λaI=>ret (Sum.inl (n1,(aY.1,aI.1.2,aY.2.2),bh.1,bh.2.1,n4.1,n4.2.1,n4.2.2.1,n7.1,n7.2.1,bp.1,bp.2.1,n2.1,aI.1.1,bx.1,bx.2.1,bx.2.2.1,n5.1,n5.2.1,n5.2.2.1,n5.2.2.2.1,n5.2.2.2.2.1,aI.2)))) no) no) (ret (Sum.inr ((d.1.1,n9.1,n9.2,y1),d.2)))
def uR:=bD (Cu eZ) 2000
def ya (te:zw)(mL:tE)(aC:bK)(dm:z8)(aKO:aj0)(cG:xd)(bN:fm)(Xi:vm)(dG:LT eX lJ)(x:om.B):Pg rQ:=let bx:=x.2.1;let n8:=x.1.2.2.2;let n7:=bx.2.2;let n5:=x.2.2.2.2.2;let n2:=n7.2.2;let n6:=n2.2.2.2.2;let n15:=n6.2.2.2.2.2.2.2.2;let n1:=n5.2.2.2;let bL:=n1.2.2;let n4:=bL.2.2;let n9:=n4.2.2.2.2;let y0:=wI (n2.2.2.2.1+1);opt (te n8.1 n8.2.1 n8.2.2 bx.2.1) λd=>opt (mL x.1.2.1 d.2) λaj=>opt (aC 10529810258 aj.1 30 aj.2) λaI=>let nq:=wI (d.1-aI.1);let y1:=wI (aI.1-d.1);ae (decide (wI (4*if y1>nq then y1 else nq)>aI.1)) (ret (Sum.inl ((bx.1,aI.2,n7.1,n7.2.1,n2.1,n2.2.1,n2.2.2.1,0,(0,0,0),n6.2),n4.1))) (opt (dm 2 aI.2 (cr n6.1.1 [n8.1,n6.1.1]) (cr n6.1.2.1 [n8.2.1,n6.1.2.1]) (cr n6.1.2.2 [n8.2.2,n6.1.2.2]) true) λd=>ae (y0 !=10) (ret (Sum.inl ((bx.1,d.2,n7.1,n7.2.1,n2.1,n2.2.1,n2.2.2.1,y0,d.1,n6.2),n4.1))) (opt (aKO d.1.1 d.1.2.1 d.1.2.2 d.2) λbz=>opt (cG n7.1 0 4 (cr bz.1.1 [bz.1.2.2.2,bz.1.2.2.1,bz.1.2.1,bz.1.1]) false) λcq=>opt (bN n7.2.1.1 n7.2.1.2 0 4 bz.2 bx.1.2.2.2.2.2.2.2.1 false) λeo=>ae (Nat.beq n4.1.2.2 n4.1.2.2) (opt (Xi ((cq,x.1.1),n4.1,eo.2,n9.2.2.2.2)) λcJ=>let aY:=cJ.2.2.2;let n3:=aY.2.2.2;let bh:=n3.2.2.2;ae (Nat.beq n2.1 n2.1) (ae (Nat.beq n15 n15) (ae (Nat.beq n5.1.2.2.1 n5.1.2.2.1) (ae (Nat.beq n5.2.1.2.2.1 n5.2.1.2.2.1) (ae (Nat.beq n5.2.2.1.2.2.1 n5.2.2.1.2.2.1) (ae (Nat.beq n1.1.2.2.1 n1.1.2.2.1) (ae (Nat.beq n1.2.1.2.2.1 n1.2.1.2.2.1) (ae (Nat.beq bL.1.2.2.1 bL.1.2.2.1) (opt (dG ((n2.1,Int.ofNat n2.1,0),(bx.1,cJ.1.2,cq,eo.1,n2.1,n2.2.1,y0,d.1,n6.2.2),x.2.2.1,x.2.2.2.1,x.2.2.2.2.1,n5.1,n5.2.1,n5.2.2.1,n1.1,n1.2.1,bL.1,bL.2.1,(cJ.1.1.1,cJ.1.1.2,1),n4.2.1,n4.2.2.1,n4.2.2.2.1,n9.1,n9.2.1,n9.2.2.1,n9.2.2.2.1,(n4.1.2.2,n9.2.2.2.2),1,λj=>bif Nat.beq j 0 then cJ.2.1 else cJ.2.1,λj=>bif Nat.beq j 0 then cJ.2.2.1 else cJ.2.2.1,λj=>bif Nat.beq j 0 then aY.1 else aY.1,λj=>bif Nat.beq j 0 then aY.2.1 else aY.2.1,λj=>bif Nat.beq j 0 then aY.2.2.1 else aY.2.2.1,λj=>bif Nat.beq j 0 then n3.1 else n3.1,λj=>bif Nat.beq j 0 then n3.2.1 else n3.2.1,λj=>bif Nat.beq j 0 then n3.2.2.1 else n3.2.2.1,λj=>bif Nat.beq j 0 then bh.1 else bh.1,λj=>bif Nat.beq j 0 then bh.2.1 else bh.2.1,λj=>bif Nat.beq j 0 then bh.2.2 else bh.2.2)) λd=>let bp:=d.2.2.2.2.2.2.2.2.2.2.2.2;ret (Sum.inr ((d.2.1,bp.1),bp.2.2.2.2.2.2.2.2.2))) no) no) no) no) no) no) no) no) no))
def rR:=λx=>(ya ot ji aU jr IX fM cP eS uR x).val
abbrev yb:=zw×tE×bK×z8×aj0×xd×fm×vm×lY×(LT eX lJ)
def F7 (p:yb):KK:=⟨[OM p.1,EN p.2.1,eL p.b.1,HZ p.b.2.1,axx p.c.1,BT p.c.2.1,yJ p.c.b.1,Fb p.c.b.2.1,xD p.d.1],⟨[⟨15,(1::2::3::rg 5 109 (rg 117 15 [])),[(1,[])]⟩],[fx 15 20 eX LZ p.d.2],[11],[],(some ⟨0,(rg 0 132 []),[]⟩)⟩,20,106⟩
theorem afA (p:yb):LI (F7 p) 15 eX LZ (Cu p.d.1):=λ_ d c K=>by kernel_rfl
theorem amV (p:yb):D2 (F7 p) om Sc λb=>ya p.1 p.2.1 p.b.1 p.b.2.1 p.c.1 p.c.2.1 p.c.b.1 p.c.b.2.1 p.d.2 b:=λb=>by kernel_rfl
abbrev F8:yb:=(ot,ji,aU,jr,IX,fM,cP,eS,eZ,uR)
theorem amW [ax]:SC (Sd rR):=sc (kS (k:=F7 F8) (.c XT (.c MJ (.c eY (.c MB (.c aKg (.c Gv (.c Dr (.c Xa (.c GU (.nil _)))))))))) [15] [] ⟨kL (afA F8),trivial⟩ trivial (amV F8))
def ahr:=qa (pl Ft nil)
def Se:=qe aAE
def F9:=qe aSB
abbrev vP:=Se.B⊕F9.B
def acA:vP->T:=ls (lf Se) (lf F9)
def ahs:vP->T:=ls (λ_=>.fail) (lf F9)
abbrev Rw:=Int->Int->Int->Option vP
def aht (g:Rw):Ct:=(42,FC ahr ahs (λb=>g b.1 b.2.1 b.b))
def ahu (cy:tg)(eA:TV)(aq:bX)(dD:IQ)(gk:OK)(sf:adZ)(aD:cx)(x0:Int)(x1:Int)(x2:Int):Pg vP:=opt (cy x0 x1 x2) λd=>ae (!d) (ret (Sum.inl ())) (ae (decide (x0>850000000)) (ret (Sum.inl ())) (ae (decide (x0< -850000000)) (ret (Sum.inl ())) (opt (aq x0 3373259426 1800000000 false) λd=>opt (dD d.1 d.2) λaj=>opt (gk d.1 aj.2) λd=>opt (eA aj.1 aj.1 d.2) λaI=>opt (eA 7188036 aI.1 aI.2) λbz=>let y0:=wI (1073741824-bz.1);opt (sf y0 bz.2) λcq=>opt (aD 6531212288 cq.1 30 cq.2) λeo=>opt (eA 6531212288 1066553788 eo.2) λcJ=>opt (eA y0 cq.1 cJ.2) λkI=>opt (aD cJ.1 kI.1 30 kI.2) λoJ=>opt (aq oJ.1 3373259426 1800000000 oJ.2) λmI=>opt (eA eo.1 d.1 mI.2) λd=>opt (aq d.1 3373259426 1800000000 d.2) λd=>ret (Sum.inr (x0,x1,x2,mI.1,d.1)))))
def BJ:=λx0 x1 x2=>(ahu fN tU aT mH qg zV bm x0 x1 x2).val
theorem azT:∀cy eA aq dD gk sf aD,D0 [xo cy,TW eA,cU aq,IS dD,OL gk,ad3 sf,fK aD] 42 ahr acA λb=>ahu cy eA aq dD gk sf aD b.1 b.2.1 b.b:=λ_ _ _ _ _ _ _ b=>by kernel_rfl
theorem azU [ax]:SC (aht BJ):=sc (Dc (R:=acA) (R':=ahs) (λd r h=>by rcases d with d|d<;>first|exact h|(have h:(none:Option ns)=some r:=h;cases h))<|k0 (.c B3 (.c aiU (.c c8 (.c OJ (.c XR (.c ar3 (.c gD (.nil _)))))))) (azT fN tU aT mH qg zV bm))
def ahv:=qa (pl fT nil)
def Sf:=qe aAE
def F':=qe (res (pu (py (cu (rc (cp 0 10)) ah6)) (pu nil (cl aSV nil))))
abbrev HF:=Sf.B⊕F'.B
def acB:HF->T:=ls (lf Sf) (lf F')
def ahw:HF->T:=ls (λ_=>.fail) (lf F')
abbrev Rx:=Int->Option HF
def ahx (g:Rx):Ct:=(51,FC ahv ahw (λb=>g b))
def Ry (x0:Int):Pg HF:=ae (decide (x0<1000)) (ret (Sum.inl ())) (ae (decide (x0>100000)) (ret (Sum.inl ())) (ret (Sum.inr x0)))
def BK:=λx0=>(Ry x0).val
theorem azV:D0 [] 51 ahv acB λb=>Ry b:=λb=>by kernel_rfl
theorem azW [ax]:SC (ahx BK):=sc (Dc (R:=acB) (R':=ahw) (λd r h=>by rcases d with d|d<;>first|exact h|(have h:(none:Option ns)=some r:=h;cases h))<|k0 (.nil _) azV)
def acC:=qa (dp aRJ λv=>(cl (cl (gs v.2.1 mF) nil) nil))
def PF:=qe (res (pu aRZ (pu Xl nil)))
def Ea:=qe (res (pu (py (cu (rc (cp 1 37)) ah6)) (pu Xl (cl aMn nil))))
abbrev ze:=PF.B⊕Ea.B
def YN:ze->T:=ls (lf PF) (lf Ea)
def acD:ze->T:=ls (λ_=>.fail) (lf Ea)
abbrev Nv:=Int->Nat->NI->Bool->Option ze
def acE (g:Nv):Ct:=(52,sW 1 [.i .i64] (FC acC acD (λb=>g b.1.1 b.1.2.1 b.2 b.1.b)))
def gW:=qs (st (dp (c ai (us 1 (xs 1 (us 3 (cu (app 1 37) (us 15 (c Ts (c ai aRh)))))))) λv=>(pl (c (so (cl (gs v.2.1.1 mF) nil)) aSv) nil)))
def L0:=qs (st (pu (us 4 (cu (ac auy) (cu (ac auq) (us 40 nil)))) (pl ah7 nil)))
def ahW:=qs (st (pr (c ai (us 1 (xs 1 (us 3 (cu (app 1 37) (us 15 (c Ts (c ai aRu)))))))) (pl (c HL aSv) nil)))
abbrev pj:=L0.B⊕((Int×(Nat×Bool)×Int×Int×Bool)×NI×NI×NI×(Nat->Bool)×NI×NI×NI)
def Wt {ρ:Type}(x:pj)(K:AX->St->Option ρ):Option ρ:=(Sum.elim (λd=>K .ret (L0.em d)) (λd=>K (.ex 0) (ahW.em (d.1,(d.1.2.1.1,d.2.1),d.b)))) x
def Iz (d:gW.B):PL gW pj:=let n4:=d.2.1;let n2:=d.2.2.2;let n1:=d.1.2;let n3:=n1.2.2;let y0:=Int.toNat n3;let y1:=0+y0*6+6;let y2:=decide (n3<n1.2.1);ae y2 (ae (aX n3 n1.1.1) (ae (decide (n4 y0<1)) (ret (Sum.inr (Sum.inl (n1.1.1,n4)))) (ae (decide (n4 y0>1099511627776)) (ret (Sum.inr (Sum.inl (n1.1.1,n4)))) (ae (aX n3 6) (ae (Nat.ble y1 36&&Nat.ble y1 37) (ret (Sum.inl ((d.1.1,n1.1,n1.2.1,wI (n3+1)),n4,λj=>bif Nat.beq j y0 then 0 else d.2.2.1 j,λj=>bif Nat.beq j y0 then 0 else n2.1 j,λj=>bif Nat.beq j y0 then false else n2.2.1 j,λj=>bif Nat.beq j y0 then n3 else n2.2.2.1 j,λj=>bif Nat.beq j y0 then n4 y0 else n2.2.2.2.1 j,λj=>bif Nat.beq j y0 then d.1.1 else n2.2.2.2.2 j))) no) no))) no) (ret (Sum.inr (Sum.inr ((d.1.1,n1.1,n1.2.1,n3,y2),d.2))))
def IA:=bD (Iz) 2000
def Nw (dG:LT gW pj)(x0:Int)(x1:Nat)(x2:Nat->Int)(w0:Bool):Pg ze:=ae (decide (x0<0)) (ret (Sum.inl ())) (ae (decide (x0>100)) (ret (Sum.inl ())) (ae (Int.ofNat x1 !=6) (ret (Sum.inl ())) (ae (Nat.beq x1 x1) (opt (dG ((x0,(x1,w0),Int.ofNat x1,0),x2,λx=>0,λx=>0,λx=>false,λx=>0,λx=>0,λx=>0)) λx=>sum x (λd=>ret (Sum.inl ())) λd=>ret (Sum.inr d.2.2)) no)))
def zf:=λx0 x1 x2 w0=>(Nw IA x0 x1 x2 w0).val
abbrev E2:=(LT gW pj)
def Nx (p:E2):KK:=⟨[],⟨[⟨5,(1::3::4::5::rg 7 15 (rg 25 7 (rg 34 12 [32,33]))),[]⟩],[fx 5 1 gW Wt p],[],[],(some ⟨0,(rg 0 4 (rg 6 40 [])),[]⟩)⟩,1,52⟩
theorem amX (p:E2):LI (Nx p) 5 gW Wt (Iz):=λ_ d c K=>by kernel_rfl
theorem av9 (p:E2):D2 (Nx p) acC YN λb=>Nw p b.1.1 b.1.2.1 b.2 b.1.b:=λb=>by kernel_rfl
abbrev Ny:E2:=IA
theorem awa [ax]:SC (acE zf):=sc (Sound.nil 1 [.i .i64]<|Dc (R:=YN) (R':=acD) (λd r h=>by rcases d with d|d<;>first|exact h|(have h:(none:Option ns)=some r:=h;cases h))<|kS (k:=Nx Ny) (.nil _) [5] [] ⟨kL (amX Ny),trivial⟩ trivial (av9 Ny))
def acF:=qa (pl wZ nil)
def PG:=qe aAE
def PH:=qe (res (pu (py (cu (rc (cp 0 3)) ah6)) (pu nil (c (c gi (cl gi (cu (gc (il (pu B8 (pu yg (pu Tp (pu L3 iy)))))) nil))) aSC))))
abbrev E3:=PG.B⊕((Int×Int)×NI)
def YO:E3->T:=ls (lf PG) (λd=>lf PH (d.1,d.2,d.2,d.2,d.2,d.2,d.2,d.2,d.2,d.2,d.2,d.2))
def acG:E3->T:=ls (λ_=>.fail) (λd=>lf PH (d.1,d.2,d.2,d.2,d.2,d.2,d.2,d.2,d.2,d.2,d.2,d.2))
abbrev Nz:=Int->Int->Option E3
def acH (g:Nz):Ct:=(53,FC acF acG (λb=>g b.1 b.2))
def NA (x0:Int)(x1:Int):Pg E3:=ae (decide (x0<1)) (ret (Sum.inl ())) (ae (decide (x0>64)) (ret (Sum.inl ())) (ae (decide (x1<1)) (ret (Sum.inl ())) (ae (decide (x1>1073741824)) (ret (Sum.inl ())) (ret (Sum.inr ((x0,x1),λx=>0))))))
def zh:=λx0 x1=>(NA x0 x1).val
theorem awb:D0 [] 53 acF YO λb=>NA b.1 b.2:=λb=>by kernel_rfl
theorem awc [ax]:SC (acH zh):=sc (Dc (R:=YO) (R':=acG) (λd r h=>by rcases d with d|d<;>first|exact h|(have h:(none:Option ns)=some r:=h;cases h))<|k0 (.nil _) awb)
def alJ:=qa (pl fT nil)
def Wu:=qe aAE
def Wv:=qe (res (pu (py (cu (rc (cp 0 8)) ah6)) (pu nil (c (cu aS (cu aS (cu aS (cu aS (cu aS (cl gi (cu (gc (il (pu B8 (pu yg (pu Tp (pu fO iy)))))) apy))))))) (cl apC nil)))))
abbrev Lp:=Wu.B⊕(Int×NI)
def ahy:Lp->T:=ls (lf Wu) (λd=>lf Wv (d.1,d.2,d.2,d.2,d.2,d.2,d.2,d.2,d.2,d.2))
def alK:Lp->T:=ls (λ_=>.fail) (λd=>lf Wv (d.1,d.2,d.2,d.2,d.2,d.2,d.2,d.2,d.2,d.2))
abbrev Ww:=Int->Option Lp
def alL (g:Ww):Ct:=(54,FC alJ alK (λb=>g b))
def Wx (x0:Int):Pg Lp:=ae (decide (x0<1)) (ret (Sum.inl ())) (ae (decide (x0>64)) (ret (Sum.inl ())) (ret (Sum.inr (x0,λx=>0))))
def Eb:=λx0=>(Wx x0).val
theorem aC3:D0 [] 54 alJ ahy λb=>Wx b:=λb=>by kernel_rfl
theorem aC4 [ax]:SC (alL Eb):=sc (Dc (R:=ahy) (R':=alK) (λd r h=>by rcases d with d|d<;>first|exact h|(have h:(none:Option ns)=some r:=h;cases h))<|k0 (.nil _) aC3)
def Wy:=qa (pl (cl (aa u3) nil) nil)
def alM:=qe (res (pu (py (cu (rc auy) (cu (rc aRr) nil))) (pu nil nil)))
def aC5:=qe (res (pu (py (cu (rc (cp 0 434)) ah6)) (pu nil (c (c gi (c gi (c gi (c gi (c gi (c gi (c gi (c gi (c gi (c gi (c gi (c gi (c gi (c gi (c gi (c gi (c jo (c jo (c gi (c gi (c gi (c gi (c gi (c gi (c gi (c gi (c gb (c jo (c aLE (cl jo (cu afS (cu afT (cu (gc (il (pu rq7 (pu yg (pu Tp (pu ID iy)))))) (cu (gp 4 8) (cu (gp 5 8) (cu (gp 6 8) (cu (gp 7 8) (cu (gp 8 8) (cu (gp 9 8) (cu am8 (cu aS (cu aS (cu ac0 (cu ac0 (cu am9 (cu ac0 (cu aS (cu aS (cu aS (cu aS (cu ac0 (cu ac0 (cu ac0 (cu aS (cu aS (cu aS (cu auu (cu aS (cu aS (cu aS (cu aS (cu aS (cu aS (cu aS (cu aS (cu aS (cu (gc (il (pu (nat 12) (pu yg (pu Tp (pu (nat 10) iy)))))) nil))))))))))))))))))))))))))))))))))))))))))))))))))))))))))))))))))) (c ix (c aSV (c (cl (ga (pu Tp lq)) nil) (c (cu aS (cu aS (cu aS (cu aS (cu aS (cl gi (cu (gc (il (pu aIF (pu yg (pu Tp (pu fO iy)))))) apy))))))) (c (cu aS (cu aS (cu aS (cu aS (cu aS (cl gi (cu (gc (il (pu aIG (pu yg (pu Tp (pu fO iy)))))) apy))))))) (c (cu aS (cu aS (cu aS (cu aS (cu aS (cl gi (cu (gc (il (pu aIH (pu yg (pu Tp (pu fO iy)))))) apy))))))) (c (cu aS (cu aS (cu aS (cu aS (cu aS (cl gi (cu (gc (il (pu aII (pu yg (pu Tp (pu fO iy)))))) apy))))))) (c (cu aS (cu aS (cu aS (cu aS (cu aS (cl gi (cu (gc (il (pu aIJ (pu yg (pu Tp (pu fO iy)))))) apy))))))) (c (cu aS (cu aS (cu aS (cu aS (cu aS (cl gi (cu (gc (il (pu aIK (pu yg (pu Tp (pu fO iy)))))) apy))))))) (c aMn (c (c gi (cl gi (cu (gc (il (pu aIL (pu yg (pu Tp (pu L3 iy)))))) nil))) (c aSw (c apC (c apC (c apC (c apC (c apC (c apC aSC))))))))))))))))))))))
abbrev afB:=alM.B⊕((Int×Int×Int×Int×Int×Int×Int×Int×Int×Int×Int×Int×Int×Int×Int×Int×NI×NI×Int×Int×Int×Int×Int×Int×Int×Int×Bool×NI×NI×NI)×aQ3×Int×NI×Int×Int×Int×Int×Int×Int×aID×(Int×Int)×NI×NI×NI×NI×NI×NI×NI)
def aC6:afB->T:=ls (lf alM) (λd=>lf aC5 (d.1,d.2.1,d.b.1,(d.b.2.1,d.b.2.1,d.b.2.1,d.b.2.1,d.b.2.1,d.b.2.1,d.b.2.1,d.b.2.1),d.c.1,d.c.2.1,d.c.b.1,d.c.b.2.1,d.d.1,d.d.2.1,d.d.b.1,d.d.b.2.1,(d.b.2.1,d.b.2.1,d.b.2.1,d.b.2.1,d.b.2.1,d.b.2.1,d.b.2.1,d.b.2.1,d.b.2.1,d.b.2.1),(d.d.c.1,d.d.c.1,d.d.c.1,d.d.c.1,d.d.c.1,d.d.c.1,d.d.c.1,d.d.c.1,d.d.c.1),(d.d.c.2.1,d.d.c.2.1,d.d.c.2.1,d.d.c.2.1,d.d.c.2.1,d.d.c.2.1,d.d.c.2.1,d.d.c.2.1,d.d.c.2.1),(d.d.c.b.1,d.d.c.b.1,d.d.c.b.1,d.d.c.b.1,d.d.c.b.1,d.d.c.b.1,d.d.c.b.1,d.d.c.b.1,d.d.c.b.1),(d.d.c.b.2.1,d.d.c.b.2.1,d.d.c.b.2.1,d.d.c.b.2.1,d.d.c.b.2.1,d.d.c.b.2.1,d.d.c.b.2.1,d.d.c.b.2.1,d.d.c.b.2.1),(d.e.1,d.e.1,d.e.1,d.e.1,d.e.1,d.e.1,d.e.1,d.e.1,d.e.1),(d.e.2.1,d.e.2.1,d.e.2.1,d.e.2.1,d.e.2.1,d.e.2.1,d.e.2.1,d.e.2.1,d.e.2.1),d.e.b,d.e.b,d.e.b,d.e.b,d.e.b,d.e.b,d.e.b,d.e.b,d.e.b,d.e.b,d.e.b))
abbrev afC:=Wy.B->Option afB
def aqT (g:afC):Ct:=(20,FC Wy aC6 g)
def aqU (aKP:ali)(bU:kT)(aN:eN)(aNN:ap5)(azX:Rw)(azY:Rx)(awd:Nv)(awe:Nz)(zi:Ww)(x:Wy.B):Pg afB:=let n3:=x.2.2;let n5:=n3.2.2.1.2;let n1:=n3.2.2.2;let n6:=n1.2.2;let n4:=n1.1.2.2;let n2:=n6.2.2.2.2;let n7:=n2.2.2;opt (aKP x) λd=>ae (!d) (ret (Sum.inl ())) (opt bU λd=>opt (aN (λx=>0) false) λd=>opt (aNN 24 d.2 n6.1 false) λaj=>opt (azX n7.1 n7.2.1 n7.2.2) λaI=>sm aI (λd=>no) (λbz=>opt (azY x.1) λcq=>sm cq (λd=>no) (λeo=>opt (awd n3.2.1 6 (cr n1.1.1 [n4.2.2.2,n4.2.2.1,n4.2.1,n4.1,n1.1.2.1,n1.1.1]) false) λcJ=>sm cJ (λd=>no) (λkI=>opt (awe n2.2.1 n2.1) λoJ=>sm oJ (λd=>no) (λmI=>opt (zi n3.1) λjA=>sm jA (λd=>no) (λpC=>opt (zi n3.1) λzz=>sm zz (λd=>no) (λGx=>opt (zi n3.1) λaCI=>sm aCI (λd=>no) (λYo=>opt (zi n3.1) λabO=>sm abO (λd=>no) (λYp=>opt (zi n3.1) λaCJ=>sm aCJ (λd=>no) (λakz=>opt (zi n3.1) λaoy=>sm aoy (λd=>no) (λakA=>ret (Sum.inr ((x.1,x.2.1,n3.1,n3.2.1,n3.2.2.1.1,n5.1,n5.2.1,n5.2.2.1,n5.2.2.2.1,n5.2.2.2.2,n1.1.1,n1.1.2.1,n4.1,n4.2.1,n4.2.2.1,n4.2.2.2,n1.2.1,n6.1,n6.2.1,n6.2.2.1,n6.2.2.2.1,n2.1,n2.2.1,n7.1,n7.2.1,n7.2.2,aj.2,d.1,aj.1),bz,eo,λx=>0,pC.1,Gx.1,Yo.1,Yp.1,akz.1,akA.1,kI,mI.1,pC.2,Gx.2,Yo.2,Yp.2,akz.2,akA.2,mI.2)))))))))))))
def Ec:=λx=>(aqU zA dH bW Ul BJ BK zf zh Eb x).val
abbrev aqV:=ali×kT×eN×ap5×Rw×Rx×Nv×Nz×Ww
def aC7 (p:aqV):KK:=⟨[alj p.1,o8 p.2.1,iw p.b.1,aB7 p.b.2.1,aht p.c.1,ahx p.c.2.1,acE p.c.b.1,acH p.c.b.2.1,alL p.d],⟨[⟨11,(0::2::3::rg 5 65 (rg 71 15 [])),[]⟩],[],[],[],(some ⟨0,(0::1::rg 4 82 []),[]⟩)⟩,0,20⟩
theorem aNO (p:aqV):D2 (aC7 p) Wy aC6 λb=>aqU p.1 p.2.1 p.b.1 p.b.2.1 p.c.1 p.c.2.1 p.c.b.1 p.c.b.2.1 p.d b:=λb=>by kernel_rfl
abbrev aC8:aqV:=(zA,dH,bW,Ul,BJ,BK,zf,zh,Eb)
theorem aC9 [ax]:SC (aqT Ec):=sc (kS (k:=aC7 aC8) (.c ayu (.c tG (.c jh (.c aNv (.c azU (.c azW (.c awa (.c awc (.c aC4 (.nil _)))))))))) [11] [] ⟨kN,trivial⟩ trivial (aNO aC8))
end Go.Proofs.YtldgljclcgaibaaGreat
namespace Go.Proofs.YtldgljclcgaibaaGreat
open Go.Ab Go.Ab.Pg
theorem aAp {x:Int}(h0: -1152921504606846976<=x)(h1:x<=1152921504606846976)(b:Bool):ph x b=some x:=by
 have e:uG x (-1152921504606846976) 1152921504606846976 b=some (Sum.inr x):=by
  simp only[uG,Iy,bJ,bP]
  rw[decide_eq_false (show ¬(-1152921504606846976:Int)>1152921504606846976 by omega),decide_eq_false (show ¬x< -1152921504606846976 by omega),decide_eq_false (show ¬x>1152921504606846976 by omega)]
  rfl
 simp only[ph,Nq,cm,e,Option.bind_some,aG7,Sum.elim_inr,bP]
theorem aVL {x:Int}(h0: -1152921504606846976<=x)(h1:x<=1152921504606846976)(n b:Bool):zb x true n b=some (Sum.inr x):=by
 simp only[zb,Nr,bJ,cm,bP,Bool.not_true,cond_false,aAp h0 h1,Option.bind_some]
theorem aDa {a b d:Int}(a0: -1152921504606846976<=a)(a1:a<=1152921504606846976)(b0: -1152921504606846976<=b)(b1:b<=1152921504606846976)(d0: -1152921504606846976<=d)(d1:d<=1152921504606846976)(nz:d≠0)
  (q0: -1152921504606846976<=LB (a*b) d)(q1:LB (a*b) d<=1152921504606846976)(h:Bool):jm a b d h=some (LB (a*b) d):=by
 obtain⟨x,y,e,o,v⟩:=BY a b (by omega) (by omega) (by omega) (by omega)
 have e2:=aFI x y d o (by omega) (by omega) nz
 rw[v,if_pos ⟨by omega,by omega⟩] at e2
 have z:(d==0)=false:=by rw[beq_eq_false_iff_ne];exact nz
 simp only[jm,F5,HD,Rt,cm,bJ,bP,aAp a0 a1,aAp b0 b1,aAp d0 d1,Option.bind_some,e,z,cond_false,e2,aVL q0 q1,aG7,Sum.elim_inr]
end Go.Proofs.YtldgljclcgaibaaGreat
namespace Go.Proofs.YtldgljclcgaibaaGreat
open Go.Ab Go.Ab.Pg
theorem aVM {n d m:Int}(h0:0<=n)(hd:0<d)(hm:0<=m)(h:n<=m*d):0<=qdq n d∧qdq n d<=m:=by
 have a:=Int.mul_ediv_add_emod n d
 have b:=Int.emod_nonneg n (show d≠0 by omega)
 have c:=Int.emod_lt_of_pos n hd
 have q0:0<=n/d:=Int.ediv_nonneg h0 (by omega)
 have q1:n/d<=m:=by
  refine Int.le_of_lt_add_one (Int.ediv_lt_of_lt_mul hd ?_)
  rw[Int.add_mul,Int.one_mul];omega
 unfold qdq
 split
 ·omega
 ·by_cases e:n/d=m
  ·exfalso
   rw[e,Int.mul_comm d m] at a
   omega
  ·omega
theorem aOY {n d m:Int}(hd:0<d)(hm:0<=m)(h0: -(m*d)<=n)(h1:n<=m*d): -m<=LB n d∧LB n d<=m:=by
 have e:jS d=d:=by unfold jS;split<;>omega
 have g:jS n<=m*d:=by unfold jS;split<;>omega
 obtain⟨p,q⟩:=aVM (aHC n) hd hm g
 unfold LB
 rw[e]
 split<;>omega
theorem aUo {a x d m:Int}(ha0: -m<=a)(ha1:a<=m)(x0:0<=x)(x1:x<=d): -(m*d)<=a*x∧a*x<=m*d:=by
 have m0:0<=m:=by omega
 have h1:a*x<=m*x:=Int.mul_le_mul_of_nonneg_right ha1 x0
 have h2:m*x<=m*d:=Int.mul_le_mul_of_nonneg_left x1 m0
 have h3: -m*x<=a*x:=Int.mul_le_mul_of_nonneg_right ha0 x0
 rw[Int.neg_mul] at h3
 omega
theorem aFR (a b x d:Int)(h:Bool)(m:Int)(a0: -m<=a)(a1:a<=m)(b0: -m<=b)(b1:b<=m)(x0:0<=x)(x1:x<=d)(d0:0<d)(d1:d<=1000000000)(m1:m<=100000000000000):
  Ok (fS a b x d h) (λr:Int=> -(3*m)<=r∧r<=3*m):=by
 have e:wI (b-a)=b-a:=ey (by omega) (by omega)
 obtain⟨p0,p1⟩:=aUo (a:=b-a) (m:=2*m) (by omega) (by omega) x0 x1
 obtain⟨q0,q1⟩:=aOY d0 (show 0<=2*m by omega) p0 p1
 have k:=aDa (a:=b-a) (b:=x) (d:=d) (by omega) (by omega) (by omega) (by omega) (by omega) (by omega) (by omega) (by omega) (by omega) h
 have e2:wI (a+LB ((b-a)*x) d)=a+LB ((b-a)*x) d:=ey (by omega) (by omega)
 unfold fS vy
 show PQ _ _
 rw[e,k,bM,av,e2]
 omega
theorem aQw (c0 c1 c2 c3 c4 c5 c6 i x:Int)(h:Bool)(g:∀c∈[c0,c1,c2,c3,c4,c5,c6], -9000<=c∧c<=9000)(i0:0<=i)(i1:i<=5)(x0:0<=x)(x1:x<=600000000):
  Ok (lg c0 c1 c2 c3 c4 c5 c6 i x h) (λr:Int=> -28991029248000<=r∧r<=28991029248000):=by
 have w:∀c∈[c0,c1,c2,c3,c4,c5,c6],wI (c*1073741824)=c*1073741824:=λc hc=>ey (by have:=g c hc;omega) (by have:=g c hc;omega)
 have z:wI (i+1)=i+1:=bg i0 (by omega)
 simp only[List.mem_cons,List.not_mem_nil,or_false,forall_eq_or_imp,forall_eq] at w g
 obtain⟨w0,w1,w2,w3,w4,w5,w6⟩:=w
 obtain⟨g0,g1,g2,g3,g4,g5,g6⟩:=g
 unfold lg vz
 show PQ _ _
 rw[w0,w1,w2,w3,w4,w5,w6,z]
 have r1:aX i 7=true:=by rw[bk];omega
 have r2:aX (i+1) 7=true:=by rw[bk];omega
 dsimp only
 rw[r1,r2]
 repeat' (first
  |rw[aB]
  |(with_reducible refine ay (aFR _ _ _ _ _ 9663676416000 ?_ ?_ ?_ ?_ ?_ ?_ ?_ ?_ ?_) λr _ hr=> ?_)
  |(rw[aK];refine⟨λc=> ?_,λc=> ?_⟩))
 all_goals first
  |(rw[av];omega)
  |omega
theorem aKQ (x0 x1 x2:Int)(h:Bool):bl (mU x0 x1 x2 h):=by
 unfold mU zd
 refine aF ?_
 dsimp only
 rw[bu];intro d hd
 rw[aK]
 refine⟨λ_=>by rw[av];trivial,λk=> ?_⟩
 rw[Bool.not_eq_false'] at k
 obtain⟨a0,a1,b0,b1⟩:=aoX hd k
 clear hd k
 have ey0:wI (x1+1800000000)=x1+1800000000:=ey (by omega) (by omega)
 have ey1:wI (x0+900000000)=x0+900000000:=ey (by omega) (by omega)
 rw[ey0,ey1]
 have t0:Int.tdiv (x0+900000000) 450000000=(x0+900000000)/450000000:=Int.tdiv_eq_ediv_of_nonneg (by omega)
 have t1:Int.tdiv (x1+1800000000) 600000000=(x1+1800000000)/600000000:=Int.tdiv_eq_ediv_of_nonneg (by omega)
 rw[t0,t1,ey (n:=(x0+900000000)/450000000) (by omega) (by omega),ey (n:=(x1+1800000000)/600000000) (by omega) (by omega)]
 generalize hi:(if (3:Int)<(x0+900000000)/450000000 then(3:Int) else(x0+900000000)/450000000)=i
 generalize hj:(if (5:Int)<(x1+1800000000)/600000000 then(5:Int) else(x1+1800000000)/600000000)=j
 have hi':0<=i∧i<=3∧0<=x0+900000000-i*450000000∧x0+900000000-i*450000000<=450000000:=by
  split at hi<;>omega
 have hj':0<=j∧j<=5∧0<=x1+1800000000-j*600000000∧x1+1800000000-j*600000000<=600000000:=by
  split at hj<;>omega
 clear hi hj t0 t1 ey0 ey1
 obtain⟨i0,i1,u0,u1⟩:=hi'
 obtain⟨j0,j1,v0,v1⟩:=hj'
 rw[ey (n:=i*450000000) (by omega) (by omega),ey (n:=j*600000000) (by omega) (by omega),ey (n:=x0+900000000-i*450000000) (by omega) (by omega),ey (n:=x1+1800000000-j*600000000) (by omega) (by omega),bg i0 (by omega)]
 have r1:aX i 5=true:=by rw[bk];omega
 have r2:aX (i+1) 5=true:=by rw[bk];omega
 rw[r1,r2]
 generalize x0+900000000-i*450000000=u at u0 u1 ⊢
 generalize x1+1800000000-j*600000000=v at v0 v1 ⊢
 have fin:∀d:Int, -86973087744000<=d->d<=86973087744000->Ok (jm d 3373259426 19327352832000 h) (λ_=>True):=by
  intro d d0 d1
  obtain⟨q0,q1⟩:=aOY (n:=d*3373259426) (d:=19327352832000) (m:=1000000000000000) (by omega) (by omega) (by omega) (by omega)
  rw[aDa (by omega) (by omega) (by omega) (by omega) (by omega) (by omega) (by omega) (by omega) (by omega) h]
  exact⟨_,rfl,trivial⟩
 rw[bu];intro _ _
 repeat' (first
  |rw[aB]
  |(with_reducible refine ay (aQw _ _ _ _ _ _ _ _ _ _ (by decide) j0 j1 v0 v1) λr _ hr=> ?_)
  |(with_reducible refine ay (aFR _ _ _ _ _ 28991029248000 ?_ ?_ ?_ ?_ u0 u1 (by omega) (by omega) (by omega)) λs _ hs=> ?_)
  |(with_reducible refine ay (fin _ ?_ ?_) λt _ _=> ?_)
  |(rw[aK];refine⟨λc=> ?_,λc=> ?_⟩))
 all_goals first
  |(rw[av];trivial)
  |omega
instance aOZ (x:jb.B):bl (jc x):=by
 unfold jc rJ
 try dsimp only
 have t:=aKQ
 exact aF (by rw[bu];intro _ _;rw[av];trivial)
end Go.Proofs.YtldgljclcgaibaaGreat
namespace Go.Proofs.YtldgljclcgaibaaGreat
open Go.Ab Go.Ab.Pg
theorem aNP (x:qI.B):Ok (qJ x) (λr:D8=>r.1.2.2.2.2.2.2.2.2.2.2.2.2.2.2.2.2=x.2.1.2.2.2.2.2.2.2.2.2.2.2.2.2.2.2.2∧r.1.2.2.2.2.1=x.2.1.2.2.2.2.1∧r.1.2.2.2.2.2.2.2.2.2.2.2.2.2.1=x.2.1.2.2.2.2.2.2.2.2.2.2.2.2.2.1):=by
 unfold qJ D9
 try dsimp only
 show PQ _ _
 simp only[aM]
 repeat' (first
  |rw[aB]
  |(with_reducible refine ay (acn _ ?_) λe _ he=> ?_)
  |(with_reducible refine ay (bl.Ok (aKQ _ _ _ _) (Q:=λ_=>True) λ_ _=>trivial) λ_ _ _=> ?_)
  |(rw[qh];refine⟨λ_ _=> ?_,λ_ _=> ?_⟩)
  |(rw[bu];intro _ _)
  |(rw[aK];refine⟨λc=> ?_,λc=> ?_⟩))
 all_goals first
  |(rw[av];exact he.2)
  |(rw[av];exact⟨rfl,rfl,rfl⟩)
  |(dsimp only;omega)
end Go.Proofs.YtldgljclcgaibaaGreat
namespace Go.Proofs.YtldgljclcgaibaaGreat
open Go.Ab Go.Ab.Pg
theorem aVN (x:wN.B)(k:aX x.1.1 6=true)(h:x.2.1.2.2.2.2.2.2.2.2.2.2.2.2.2.2.2.2<=90000):Ok (wP x) (λr:CU=>match r with|.inl e=>e.1.2.2.2.2.2.2.2.2.2.2.2.2.2.2.2.2<=x.2.1.2.2.2.2.2.2.2.2.2.2.2.2.2.2.2.2+3∧e.1.2.2.2.2.1=x.2.1.2.2.2.2.1∧e.1.2.2.2.2.2.2.2.2.2.2.2.2.2.1=x.2.1.2.2.2.2.2.2.2.2.2.2.2.2.2.1|.inr e=>e.1.1.2.2.2.2.2.2.2.2.2.2.2.2.2.2.2.2<=x.2.1.2.2.2.2.2.2.2.2.2.2.2.2.2.2.2.2+3∧e.1.1.2.2.2.2.1=x.2.1.2.2.2.2.1∧e.1.1.2.2.2.2.2.2.2.2.2.2.2.2.2.1=x.2.1.2.2.2.2.2.2.2.2.2.2.2.2.2.1):=by
 have hi:aX x.1.1 6=true:=k
 unfold wP Lo
 try dsimp only
 show PQ _ _
 simp only[aM,hi]
 repeat' (first
  |rw[aB]
  |(with_reducible refine ay (aUn _ ?_) λe _ he=> ?_)
  |(with_reducible refine ay (aC2 _ ?_) λe _ he=> ?_)
  |(with_reducible refine ay (aH3 _) λe _ he=> ?_)
  |(with_reducible refine ay (aNP _) λe _ he=> ?_)
  |(with_reducible refine ay (aH4 _) λe _ he=> ?_)
  |(with_reducible refine ay (aUm _) λe _ he=> ?_)
  |(rw[qh];refine⟨λe0 e1=> ?_,λe0 e1=> ?_⟩)
  |(rw[bu];intro _ _)
  |(rw[aK];refine⟨λc=> ?_,λc=> ?_⟩))
 all_goals first
  |(dsimp only;omega)
  |(rw[av];exact⟨Nat.le_trans (Nat.le_of_eq he.1) (Nat.le_add_right _ _),he.2⟩)
  |(rw[av];exact⟨Nat.le_add_right _ _,rfl,rfl⟩)
  |(rw[e1] at he;rw[av];exact he)
  |(rw[e1] at he;rw[av];exact⟨Nat.le_trans he.1 (Nat.add_le_add_left (by decide) _),he.2⟩)
  |skip
end Go.Proofs.YtldgljclcgaibaaGreat
namespace Go.Proofs.YtldgljclcgaibaaGreat
open Go.Ab Go.Ab.Pg
theorem aIb (n:Int)(d:sJ.B)(hd:0<=d.1.2.2.2.2∧d.1.2.2.2.2<=3∧d.1.2.1=n∧d.1.2.2.1=n∧0<=n∧n<=3):Ok (aly d) (λx:I6=>x.1.2.2.1=n):=
 ba (s:=_) (λd:sJ.B=>0<=d.1.2.2.2.2∧d.1.2.2.2.2<=3∧d.1.2.1=n∧d.1.2.2.1=n∧0<=n∧n<=3) (λd:sJ.B=>Int.toNat (3-d.1.2.2.2.2)) (λx:I6=>x.1.2.2.1=n) (λd hd=>by
  have hw:wI (d.1.2.2.2.2+1)=d.1.2.2.2.2+1:=bg (by omega) (by omega)
  obtain⟨c0,c1,i0,i1,i2,i3⟩:=hd
  have w0:wI (0+d.1.2.1)=d.1.2.1:=by rw[Int.zero_add];exact ey (by omega) (by omega)
  have w1:wI (10+d.1.2.2.2.2)=10+d.1.2.2.2.2:=ey (by omega) (by omega)
  unfold alx
  dsimp only
  rw[w0,w1,hw]
  rw[aK]
  refine⟨λh=> ?_,λ_=>by rw[av];exact i1⟩
  have h:=of_decide_eq_true h
  have r0:aX d.1.2.2.2.2 3=true:=by rw[bk];omega
  have r1:aX d.1.2.1 24=true:=by rw[bk];omega
  have r2:aX (10+d.1.2.2.2.2) 24=true:=by rw[bk];omega
  have r3:(true&&Nat.ble (0+(Int.toNat d.1.2.1*24+Int.toNat (10+d.1.2.2.2.2))*1+1) 576)=true:=by rw[Bool.true_and,bO];omega
  rw[r0,r1,r2,r3]
  repeat' (first
   |rw[aB]
   |(rw[aK];refine⟨λc=> ?_,λc=> ?_⟩)
   |(rw[bu];intro _ _))
  all_goals (rw[av];exact⟨⟨by show 0<=d.1.2.2.2.2+1;omega,by show d.1.2.2.2.2+1<=3;omega,i0,i1,i2,i3⟩,by show Int.toNat (3-(d.1.2.2.2.2+1))<_;omega⟩)) 2000 d hd (by omega)
theorem aIc (n:Int)(d:sK.B)(hd:0<=d.1.2.2∧d.1.2.2<=3∧d.1.1=n∧d.1.2.1=n∧0<=n∧n<=2):Ok (alA d) (λx:I7=>x.1.1=n∧x.1.2.1=n):=
 ba (s:=_) (λd:sK.B=>0<=d.1.2.2∧d.1.2.2<=3∧d.1.1=n∧d.1.2.1=n∧0<=n∧n<=2) (λd:sK.B=>Int.toNat (3-d.1.2.2)) (λx:I7=>x.1.1=n∧x.1.2.1=n) (λd hd=>by
  have hw:wI (d.1.2.2+1)=d.1.2.2+1:=bg (by omega) (by omega)
  obtain⟨c0,c1,i0,i1,i2,i3⟩:=hd
  have w0:wI (4+d.1.1)=4+d.1.1:=ey (by omega) (by omega)
  have w1:wI (13+d.1.2.2)=13+d.1.2.2:=ey (by omega) (by omega)
  have w2:wI (3*d.1.1)=3*d.1.1:=ey (by omega) (by omega)
  have w3:wI (3*d.1.1+d.1.2.2)=3*d.1.1+d.1.2.2:=ey (by omega) (by omega)
  unfold alz
  dsimp only
  rw[w0,w1,w2,w3,hw]
  rw[aK]
  refine⟨λh=> ?_,λ_=>by rw[av];exact⟨i0,i1⟩⟩
  have h:=of_decide_eq_true h
  have r0:aX (3*d.1.1+d.1.2.2) 9=true:=by rw[bk];omega
  have r1:aX (4+d.1.1) 24=true:=by rw[bk];omega
  have r2:aX (13+d.1.2.2) 24=true:=by rw[bk];omega
  have r3:(true&&Nat.ble (0+(Int.toNat (4+d.1.1)*24+Int.toNat (13+d.1.2.2))*1+1) 576)=true:=by rw[Bool.true_and,bO];omega
  rw[r0,r1,r2,r3]
  repeat' (first
   |rw[aB]
   |(rw[aK];refine⟨λc=> ?_,λc=> ?_⟩)
   |(rw[bu];intro _ _))
  all_goals (rw[av];exact⟨⟨by show 0<=d.1.2.2+1;omega,by show d.1.2.2+1<=3;omega,i0,i1,i2,i3⟩,by show Int.toNat (3-(d.1.2.2+1))<_;omega⟩)) 2000 d hd (by omega)
theorem aId (d:sL.B)(hd:0<=d.1.2∧d.1.2<=4):Ok (alC d) (λx:I8=>True):=
 ba (s:=_) (λd:sL.B=>0<=d.1.2∧d.1.2<=4) (λd:sL.B=>Int.toNat (4-d.1.2)) (λx:I8=>True) (λd hd=>by
  have hw:wI (d.1.2+1)=d.1.2+1:=bg (by omega) (by omega)
  obtain⟨c0,c1⟩:=hd
  have w0:wI (0+d.1.2)=d.1.2:=by rw[Int.zero_add];exact ey (by omega) (by omega)
  unfold alB
  dsimp only
  rw[w0]
  rw[aK]
  refine⟨λh=> ?_,λ_=>by rw[av];trivial⟩
  have h:=of_decide_eq_true h
  have r0:aX d.1.2 4=true:=by rw[bk];omega
  have r1:aX d.1.2 24=true:=by rw[bk];omega
  have r3:(true&&Nat.ble (0+Int.toNat d.1.2*24+4) 576)=true:=by rw[Bool.true_and,bO];omega
  rw[r0,r1,r3]
  repeat' (first
   |rw[aB]
   |(rw[aK];refine⟨λc=> ?_,λc=> ?_⟩)
   |(with_reducible refine ay (aIb d.1.2 _ ⟨Int.le_refl 0,(show(0:Int)<=3 by decide),rfl,rfl,c0,by omega⟩) λe _ he=> ?_))
  all_goals (rw[av,he,hw];exact⟨⟨by show 0<=d.1.2+1;omega,by show d.1.2+1<=4;omega⟩,by show Int.toNat (4-(d.1.2+1))<_;omega⟩)) 2000 d hd (by omega)
theorem aIe (d:sM.B)(hd:0<=d.1∧d.1<=3):Ok (alE d) (λx:I9=>True):=
 ba (s:=_) (λd:sM.B=>0<=d.1∧d.1<=3) (λd:sM.B=>Int.toNat (3-d.1)) (λx:I9=>True) (λd hd=>by
  obtain⟨c0,c1⟩:=hd
  have hw:wI (d.1+1)=d.1+1:=bg (by omega) (by omega)
  have w0:wI (4+d.1)=4+d.1:=ey (by omega) (by omega)
  have w1:wI (7+d.1)=7+d.1:=ey (by omega) (by omega)
  unfold alD
  dsimp only
  rw[w0]
  rw[aK]
  refine⟨λh=> ?_,λ_=>by rw[av];trivial⟩
  have h:=of_decide_eq_true h
  have r0:aX d.1 3=true:=by rw[bk];omega
  have r1:aX (4+d.1) 24=true:=by rw[bk];omega
  have r2:aX (7+d.1) 24=true:=by rw[bk];omega
  have r3:(true&&Nat.ble (0+Int.toNat (4+d.1)*24+4) 576)=true:=by rw[Bool.true_and,bO];omega
  have r4:(true&&Nat.ble (0+(Int.toNat (7+d.1)*24+Int.toNat (4+d.1))*1+1) 576)=true:=by rw[Bool.true_and,bO];omega
  rw[r0,r1,r3]
  repeat' (first
   |rw[aB]
   |(with_reducible refine ay (aIc d.1 _ ⟨Int.le_refl 0,(show(0:Int)<=3 by decide),rfl,rfl,c0,by omega⟩) λe _ he=> ?_)
   |(rw[he.1,he.2,w0,w1,hw,r1,r2,r4])
   |(rw[aK];refine⟨λc=> ?_,λc=> ?_⟩))
  all_goals (rw[av];exact⟨⟨by show 0<=d.1+1;omega,by show d.1+1<=3;omega⟩,by show Int.toNat (3-(d.1+1))<_;omega⟩)) 2000 d hd (by omega)
instance aYb (x0:Nat->Int)(x1:Int)(x2:Int)(x3:Int)(x4:Int)(x5:Int)(x6:Int)(x7:Int)(x8:Int)(x9:Bool):bl (aco x0 x1 x2 x3 x4 x5 x6 x7 x8 x9):=by
 unfold aco av5
 try dsimp only
 refine aF ?_
 repeat' (first
  |(with_reducible refine ay (aId _ ⟨Int.le_refl 0,(show(0:Int)<=4 by decide)⟩) λe _ he=> ?_)
  |(with_reducible refine ay (aIe _ ⟨Int.le_refl 0,(show(0:Int)<=3 by decide)⟩) λe _ he=> ?_)
  |(rw[bu];intro _ _))
 rw[av];trivial
instance aWN (x0:Nat->Int)(x1:Nat->Int)(x2:Nat->Int)(x3:Int)(x4:Int)(x5:Int)(x6:Int)(x7:Int)(x8:Int)(x9:Int)(fP:Int)(fQ:Nat->Int)(zO:Bool):bl (I' x0 x1 x2 x3 x4 x5 x6 x7 x8 x9 fP fQ zO):=by
 unfold I' alG
 exact aF (by simp only[bE,oM])
end Go.Proofs.YtldgljclcgaibaaGreat
namespace Go.Proofs.YtldgljclcgaibaaGreat
open Go.Ab Go.Ab.Pg
theorem aKR (N:Nat)(hN:N<=1999)(x:lX.B)(h:x.2.1.2.2<=N)(s:x.2.1.1<=(N:Int)):
  Ok (eZ x) (λr:pP=>match r with|.inl e=>e.2.1=x.2.1|.inr e=>e.1.1.1=x.2.1.1∧e.1.1.2.2<=N∧x.2.1.2.2<=e.1.1.2.2∧e.1.1.2.2<=e.2.1):=by
 unfold eZ xE
 try dsimp only
 show PQ _ _
 rw[aK]
 refine⟨λ_=>by rw[av],λh0=> ?_⟩
 have hn:x.2.1.2.2≠0:=λe=>by rw[e] at h0;cases h0
 have w:wI (Int.ofNat x.2.1.2.2-1)=Int.ofNat (x.2.1.2.2-1):=by
  simp only[Int.ofNat_eq_natCast];rw[ey (by omega) (by omega)];omega
 have b1:aX (Int.ofNat (x.2.1.2.2-1)) x.2.1.2.2=true:=by simp only[bk,Int.ofNat_eq_natCast];omega
 have b2:Nat.ble ((x.2.1.2.2+1)*88) 140737488355328=true:=by rw[bO];omega
 have b3:IF 1 (x.2.1.2.2+1)=true:=by simp only[abK];omega
 have b4:Nat.ble ((0+(x.2.1.2.2+1-1))*88) 140737488355328=true:=by rw[bO];omega
 rw[w,b1,b2,b3,b4]
 repeat' (first
  |rw[aB]
  |(rw[bu];intro _ _)
  |(rw[aK];refine⟨λc=> ?_,λc=> ?_⟩))
 all_goals first
  |(rw[av];exact⟨rfl,by show 0+(x.2.1.2.2+1-1)<=N;omega,by show x.2.1.2.2<=0+(x.2.1.2.2+1-1);omega,by show 0+(x.2.1.2.2+1-1)<=x.2.1.2.2+1-1;omega⟩)
  |(rw[av];have c:=of_decide_eq_false c;simp only[Int.ofNat_eq_natCast] at c;exact⟨rfl,by show x.2.1.2.2+1<=N;omega,by show x.2.1.2.2<=x.2.1.2.2+1;omega,Nat.le_refl _⟩)
  |(rw[av])
theorem afD (N q q4:Nat)(q5:Int)(hN:N<=1999)(s:Int)(hs:s<=(N:Int))(d:eX.B)(hd:0<=d.1.2.2∧d.1.2.2<=d.1.2.1∧d.1.2.1<=1999∧d.1.2.1=((d.1.1:Nat):Int)∧d.2.2.2.2.2.2.2.2.2.2.2.2.1.2.2<=N∧d.2.2.2.2.2.2.2.2.2.2.2.2.1.1=s∧d.2.2.2.2.2.2.2.2.2.2.2.2.1.2.2<=d.2.2.2.2.2.2.2.2.2.2.2.2.2.2.2.2.2.2.2.2.2.1∧d.2.1.2.2.2.2.2.2.2.2.2.2.2.2.2.2=q∧d.2.1.2.2.2.2.1=q4∧d.2.1.2.2.2.2.2.2.2.2.2.2.2.1=q5):Ok (uR d) (λx:lJ=>x.2.2.2.2.2.2.2.2.2.2.2.2.1.2.2<=N∧x.2.2.2.2.2.2.2.2.2.2.2.2.1.1=s∧x.2.2.2.2.2.2.2.2.2.2.2.2.1.2.2<=x.2.2.2.2.2.2.2.2.2.2.2.2.2.2.2.2.2.2.2.2.2.1∧x.2.1.2.2.2.2.2.2.2.2.2.2.2.2.2.2=q∧x.2.1.2.2.2.2.1=q4∧x.2.1.2.2.2.2.2.2.2.2.2.2.2.1=q5):=
 ba (s:=_) (λd:eX.B=>0<=d.1.2.2∧d.1.2.2<=d.1.2.1∧d.1.2.1<=1999∧d.1.2.1=((d.1.1:Nat):Int)∧d.2.2.2.2.2.2.2.2.2.2.2.2.1.2.2<=N∧d.2.2.2.2.2.2.2.2.2.2.2.2.1.1=s∧d.2.2.2.2.2.2.2.2.2.2.2.2.1.2.2<=d.2.2.2.2.2.2.2.2.2.2.2.2.2.2.2.2.2.2.2.2.2.1∧d.2.1.2.2.2.2.2.2.2.2.2.2.2.2.2.2=q∧d.2.1.2.2.2.2.1=q4∧d.2.1.2.2.2.2.2.2.2.2.2.2.2.1=q5) (λd:eX.B=>Int.toNat (d.1.2.1-d.1.2.2)) (λx:lJ=>x.2.2.2.2.2.2.2.2.2.2.2.2.1.2.2<=N∧x.2.2.2.2.2.2.2.2.2.2.2.2.1.1=s∧x.2.2.2.2.2.2.2.2.2.2.2.2.1.2.2<=x.2.2.2.2.2.2.2.2.2.2.2.2.2.2.2.2.2.2.2.2.2.1∧x.2.1.2.2.2.2.2.2.2.2.2.2.2.2.2.2=q∧x.2.1.2.2.2.2.1=q4∧x.2.1.2.2.2.2.2.2.2.2.2.2.2.1=q5) (λd hd=>by
  obtain⟨i0,i1,i2,i3,i4,i5,i6,i7,i8,i9⟩:=hd
  have hw:wI (d.1.2.2+1)=d.1.2.2+1:=bg (by omega) (by omega)
  unfold Cu
  dsimp only
  rw[aK]
  refine⟨λh=> ?_,λ_=>by rw[av];exact⟨i4,i5,i6,i7,i8,i9⟩⟩
  have h:=of_decide_eq_true h
  have r0:aX d.1.2.2 d.1.1=true:=by rw[bk];omega
  rw[r0,hw,aM,aB,aB]
  with_reducible refine ay (aKR N hN _ ?_ ?_) λe _ he=> ?_
  ·exact i4
  ·show d.2.2.2.2.2.2.2.2.2.2.2.2.1.1<=(N:Int)
   omega
  rw[qh]
  refine⟨λa ha=> ?_,λa ha=> ?_⟩
  ·rw[ha] at he
   have he:a.2.1=d.2.2.2.2.2.2.2.2.2.2.2.2.1:=he
   rw[av]
   exact⟨⟨by show 0<=d.1.2.2+1;omega,by show d.1.2.2+1<=d.1.2.1;omega,i2,i3,by show a.2.1.2.2<=N;rw[he];exact i4,by show a.2.1.1=s;rw[he];exact i5,by show a.2.1.2.2<=d.2.2.2.2.2.2.2.2.2.2.2.2.2.2.2.2.2.2.2.2.2.1;rw[he];exact i6,i7,i8,i9⟩,by show Int.toNat (d.1.2.1-(d.1.2.2+1))<_;omega⟩
  ·rw[ha] at he
   obtain⟨e1,e2,e3,e4⟩:=he
   rw[av]
   exact⟨⟨by show 0<=d.1.2.2+1;omega,by show d.1.2.2+1<=d.1.2.1;omega,i2,i3,e2,e1.trans i5,e4,i7,i8,i9⟩,by show Int.toNat (d.1.2.1-(d.1.2.2+1))<_;omega⟩) 2000 d hd (by omega)
theorem aQx (x:iF.B):Ok (eS x) (λr:vk=>r.1.1.1=x.2.1.1):=by
 unfold eS oF
 show PQ _ _
 rw[bu];intro _ _
 rw[av]
theorem aQy (N:Nat)(h1:1<=N)(hN:N<=1999)(x:om.B)(hl:x.2.2.2.2.2.2.2.2.2.2.2.2.1.1<=(N:Int))(hq:x.2.1.2.2.2.2.1<=1999):Ok (rR x) (λr:rQ=>match r with|.inl e=>e.2=x.2.2.2.2.2.2.2.2.2.2.2.2.1∧e.1.2.2.2.2.2.2.2.2.2.2.2.2.2.2.2.2=x.2.1.2.2.2.2.2.2.2.2.2.2.2.2.2.2.2.2∧e.1.2.2.2.2.1=x.2.1.2.2.2.2.1∧e.1.2.2.2.2.2.2.2.2.2.2.2.2.2.1=x.2.1.2.2.2.2.2.2.2.2.2.2.2.2.2.1|.inr e=>e.1.2.2.2<=N∧e.1.2.1=x.2.2.2.2.2.2.2.2.2.2.2.2.1.1∧e.1.2.2.2<=e.2.1∧e.1.1.2.2.2.2.2.2.2.2.2.2.2.2.2.2=x.2.1.2.2.2.2.2.2.2.2.2.2.2.2.2.2.2.2∧e.1.1.2.2.2.2.1=x.2.1.2.2.2.2.1∧e.1.1.2.2.2.2.2.2.2.2.2.2.2.1=x.2.1.2.2.2.2.2.2.2.2.2.2.2.2.2.1):=by
 unfold rR ya
 try dsimp only
 show PQ _ _
 simp only[aM]
 repeat' (first
  |rw[aB]
  |(with_reducible refine ay (aQx _) λe _ he=> ?_)
  |(with_reducible refine ay (afD N x.2.1.2.2.2.2.2.2.2.2.2.2.2.2.2.2.2.2 x.2.1.2.2.2.2.1 x.2.1.2.2.2.2.2.2.2.2.2.2.2.2.2.1 hN x.2.2.2.2.2.2.2.2.2.2.2.2.1.1 hl _ ?_) λe _ he=> ?_)
  |(rw[bu];intro _ _)
  |(rw[aK];refine⟨λc=> ?_,λc=> ?_⟩))
 all_goals first
  |(rw[av];exact⟨rfl,rfl,rfl,rfl⟩)
  |(rw[av];exact he)
  |(obtain⟨a,b,c,e⟩:=hdN x.2.1.2.2.2.2.1 hq
    exact⟨a,b,c,e,h1,he,Nat.le_refl _,rfl,rfl,rfl⟩)
  |skip
end Go.Proofs.YtldgljclcgaibaaGreat
namespace Go.Proofs.YtldgljclcgaibaaGreat
open Go.Ab Go.Ab.Pg
theorem NB (n:Nat)(p:Int×Int×Nat)(d:cN.B)(hd:0<=d.1.2.2.2.2∧d.1.2.2.2.2<=d.1.2.2.2.1∧n<=1999∧d.1.2.2.2.1=(n:Int)∧d.1.2.2.1=n∧d.2.1=p∧d.1.2.1<(n:Int)):Ok (qL d) (λx:fH=>x.1.2.2.1=n∧x.2.1=p∧x.1.2.1<(n:Int)):=
 ba (s:=_) (λd:cN.B=>0<=d.1.2.2.2.2∧d.1.2.2.2.2<=d.1.2.2.2.1∧n<=1999∧d.1.2.2.2.1=(n:Int)∧d.1.2.2.1=n∧d.2.1=p∧d.1.2.1<(n:Int)) (λd:cN.B=>Int.toNat (d.1.2.2.2.1-d.1.2.2.2.2)) (λx:fH=>x.1.2.2.1=n∧x.2.1=p∧x.1.2.1<(n:Int)) (λd hd=>by
  have hw:wI (d.1.2.2.2.2+1)=d.1.2.2.2.2+1:=bg (by omega) (by omega)
  obtain⟨i0,i1,i2,i3,i4,i5,i6⟩:=hd
  unfold qK
  dsimp only
  rw[aK]
  refine⟨λh=> ?_,λ_=>by rw[av];exact⟨i4,i5,i6⟩⟩
  have h:=of_decide_eq_true h
  have r0:aX d.1.2.2.2.2 d.1.2.2.1=true:=by rw[bk];omega
  rw[r0,hw,aB,aK]
  refine⟨λ_=> ?_,λ_=> ?_⟩
  ·rw[av];exact⟨⟨by show 0<=d.1.2.2.2.2+1;omega,by show d.1.2.2.2.2+1<=d.1.2.2.2.1;omega,i2,i3,i4,i5,by show d.1.2.2.2.2<(n:Int);omega⟩,by show Int.toNat (d.1.2.2.2.1-(d.1.2.2.2.2+1))<_;omega⟩
  ·rw[av];exact⟨⟨by show 0<=d.1.2.2.2.2+1;omega,by show d.1.2.2.2.2+1<=d.1.2.2.2.1;omega,i2,i3,i4,i5,i6⟩,by show Int.toNat (d.1.2.2.2.1-(d.1.2.2.2.2+1))<_;omega⟩) 2000 d hd (by omega)
theorem NC (d:dK.B)(h0:0<=d.1)(h1:d.1<4):Ok (lF d) (λx:fI=>x.1.1=d.1∧x.2.1=(d.2.1.1,d.2.1.2.2)∧x.2.2.2.1=d.2.2.2.1):=by
 have r0:aX d.1 4=true:=by rw[bk];omega
 unfold lF qM
 try dsimp only
 show PQ _ _
 rw[r0]
 repeat' (first
  |rw[aB]
  |(rw[bu];intro _ _)
  |(rw[aK];refine⟨λc=> ?_,λc=> ?_⟩))
 all_goals (rw[av];exact⟨rfl,rfl,rfl⟩)
theorem ND (a:Int)(n:Nat)(v:Nat×(Nat->Int)×(Nat->Int)×(Nat->Int)×(Nat->Int)×(Nat->Int)×(Nat->Int)×(Nat->Int)×(Nat->Int)×(Nat->Int)×(Nat->Int)×(Nat->Int))(d:cO.B)(hd:0<=d.1∧d.1<=4∧d.2.1.1=a∧d.2.1.2.2=n∧d.2.2.2.1=v):Ok (qO d) (λx:fJ=>x.2.1.1=a∧x.2.1.2.2=n∧x.2.2.2.1=v):=
 ba (s:=_) (λd:cO.B=>0<=d.1∧d.1<=4∧d.2.1.1=a∧d.2.1.2.2=n∧d.2.2.2.1=v) (λd:cO.B=>Int.toNat (4-d.1)) (λx:fJ=>x.2.1.1=a∧x.2.1.2.2=n∧x.2.2.2.1=v) (λd hd=>by
  have hw:wI (d.1+1)=d.1+1:=bg (by omega) (by omega)
  obtain⟨i0,i1,i2,i3,i4⟩:=hd
  unfold qN
  dsimp only
  rw[aK]
  refine⟨λh=> ?_,λ_=>by rw[av];exact⟨i2,i3,i4⟩⟩
  have h:=of_decide_eq_true h
  have r0:aX d.1 4=true:=by rw[bk];omega
  rw[r0]
  repeat' (first
   |rw[aB]
   |(with_reducible refine ay (NC _ i0 h) λe _ he=> ?_)
   |(rw[aK];refine⟨λc=> ?_,λc=> ?_⟩))
  all_goals (obtain⟨e1,e2,e3⟩:=he;rw[av,e1,e2,hw];exact⟨⟨by show 0<=d.1+1;omega,by show d.1+1<=4;omega,i2,i3,e3.trans i4⟩,by show Int.toNat (4-(d.1+1))<_;omega⟩)) 2000 d hd (by omega)
theorem aKS (x:jM.B)(h:x.2.1.2.2<=1999):Ok (jN x) (λr:sO=>r.2.2.1=x.2.1.2.2):=by
 unfold jN sQ
 try dsimp only
 show PQ _ _
 rw[aM,aB]
 with_reducible refine ay (NB x.2.1.2.2 x.2.1 _ ?_) λd _ hd=> ?_
 ·exact⟨Int.le_refl 0,by show(0:Int)<=Int.ofNat x.2.1.2.2;simp only[Int.ofNat_eq_natCast];omega,h,rfl,rfl,rfl,by show(-1:Int)<_;omega⟩
 obtain⟨d1,d2,d3⟩:=hd
 try dsimp only
 rw[aK]
 refine⟨λ_=>by rw[av];exact d1,λc=> ?_⟩
 have c:=of_decide_eq_false c
 have r0:aX d.1.2.1 d.2.1.2.2=true:=by rw[bk,d2];omega
 rw[r0,aB]
 rw[bu];intro e1 _
 rw[bu];intro e2 _
 rw[bu];intro e3 _
 rw[bu];intro e4 _
 rw[bu];intro e5 _
 with_reducible refine ay (ND x.2.1.1 x.2.1.2.2 (d.1.2.2.1,d.2.2.2.1) _ ?_) λf _ hf=> ?_
 ·exact⟨by show(0:Int)<=1;decide,by show(1:Int)<=4;decide,by show d.2.1.1=_;rw[d2],by show d.2.1.2.2=_;rw[d2],rfl⟩
 obtain⟨f1,f2,f3⟩:=hf
 rw[bu];intro e6 _
 rw[aM,aB]
 with_reducible refine ay (Rp _ ?_) λg _ hg=> ?_
 ·show f.2.1.2.2<=1999
  omega
 have hg:g.2.1=f.2.1.2.2:=hg
 have fn:f.2.2.2.1.1=x.2.1.2.2:=by rw[f3];exact d1
 have b1:(true&&Nat.beq (g.2.1*11+0) (f.2.1.2.2*11)&&true)=true:=by rw[hg,Nat.add_zero,aM];rfl
 have b2:(true&&Nat.ble (0+(g.2.1*11+0)) (f.2.2.2.1.1*11+0))=true:=by rw[hg,fn,Bool.true_and,bO];omega
 rw[b1,b2,aB,aB,av]
 exact fn
end Go.Proofs.YtldgljclcgaibaaGreat
namespace Go.Proofs.YtldgljclcgaibaaGreat
open Go.Ab Go.Ab.Pg
theorem alN (a b c:Int):lZ a b c=some (decide (b<=a)&&decide (a<=c)):=by
 simp only[lZ,K5,bJ,bP]
 by_cases h:b<=a<;>simp[h]
theorem aNQ (w d:ja.B)(hd:0<=d.1.2∧d.1.2<=24∧d.2=w.2∧∀j:Nat,(j:Int)<d.1.2->(0<=w.2.2.2.2.2.2.2.2.2.2.2.2.2.2.2.2.2.1 j∧w.2.2.2.2.2.2.2.2.2.2.2.2.2.2.2.2.2.1 j<=72057594037927936)∧1<=w.2.2.2.2.2.2.2.2.2.2.2.2.2.2.2.2.2.2.1 j∧w.2.2.2.2.2.2.2.2.2.2.2.2.2.2.2.2.2.2.1 j<=72057594037927936):Ok (GV d) (λx:ti=>match x with|.inl _=>True|.inr e=>e.2=w.2∧∀j:Nat,j<24->(0<=w.2.2.2.2.2.2.2.2.2.2.2.2.2.2.2.2.2.1 j∧w.2.2.2.2.2.2.2.2.2.2.2.2.2.2.2.2.2.1 j<=72057594037927936)∧1<=w.2.2.2.2.2.2.2.2.2.2.2.2.2.2.2.2.2.2.1 j∧w.2.2.2.2.2.2.2.2.2.2.2.2.2.2.2.2.2.2.1 j<=72057594037927936):=
 ba (s:=_) (λd:ja.B=>0<=d.1.2∧d.1.2<=24∧d.2=w.2∧∀j:Nat,(j:Int)<d.1.2->(0<=w.2.2.2.2.2.2.2.2.2.2.2.2.2.2.2.2.2.1 j∧w.2.2.2.2.2.2.2.2.2.2.2.2.2.2.2.2.2.1 j<=72057594037927936)∧1<=w.2.2.2.2.2.2.2.2.2.2.2.2.2.2.2.2.2.2.1 j∧w.2.2.2.2.2.2.2.2.2.2.2.2.2.2.2.2.2.2.1 j<=72057594037927936) (λd:ja.B=>Int.toNat (24-d.1.2)) (λx:ti=>match x with|.inl _=>True|.inr e=>e.2=w.2∧∀j:Nat,j<24->(0<=w.2.2.2.2.2.2.2.2.2.2.2.2.2.2.2.2.2.1 j∧w.2.2.2.2.2.2.2.2.2.2.2.2.2.2.2.2.2.1 j<=72057594037927936)∧1<=w.2.2.2.2.2.2.2.2.2.2.2.2.2.2.2.2.2.2.1 j∧w.2.2.2.2.2.2.2.2.2.2.2.2.2.2.2.2.2.2.1 j<=72057594037927936) (λd hd=>by
  have hw:wI (d.1.2+1)=d.1.2+1:=bg (by omega) (by omega)
  obtain⟨i0,i1,i2,i3⟩:=hd
  unfold Ol
  dsimp only
  rw[aK]
  refine⟨λh=> ?_,λh=> ?_⟩
  ·have h:=of_decide_eq_true h
   have r0:aX d.1.2 24=true:=by rw[bk];omega
   have r1:Nat.ble (0+Int.toNat d.1.2*1+1) 24=true:=by rw[bO];omega
   rw[r0,r1,aB,aB,alN,bM,aK]
   refine⟨λ_=>by rw[av];trivial,λc=> ?_⟩
   rw[aB,aB,alN,bM,aK]
   refine⟨λ_=>by rw[av];trivial,λc2=> ?_⟩
   rw[Bool.not_eq_false',Bool.and_eq_true,decide_eq_true_eq,decide_eq_true_eq] at c c2
   rw[av,hw]
   refine⟨⟨by show 0<=d.1.2+1;omega,by show d.1.2+1<=24;omega,i2,λj hj=> ?_⟩,by show Int.toNat (24-(d.1.2+1))<_;omega⟩
   have hj:(j:Int)<d.1.2+1:=hj
   by_cases e:(j:Int)<d.1.2
   ·exact i3 j e
   ·have e2:Int.toNat d.1.2=j:=by omega
    rw[e2,i2] at c c2
    exact⟨c,c2⟩
  ·have h:=of_decide_eq_false h
   rw[av]
   exact⟨i2,λj hj=>i3 j (by omega)⟩) 2000 d hd (by omega)
structure aUp (x:DM.B):Prop where
 place:∃e,wE x.2.2.2.2.2.2.2.2.2.2.2.2.2.1 x.2.2.2.2.2.2.2.2.2.2.2.2.2.2.1 x.2.2.2.2.2.2.2.2.2.2.2.2.2.2.2=some (Sum.inr e)
 arr:∀j:Nat,j<24->(0<=x.2.2.2.2.2.2.1 j∧x.2.2.2.2.2.2.1 j<=72057594037927936)∧1<=x.2.2.2.2.2.2.2.1 j∧x.2.2.2.2.2.2.2.1 j<=72057594037927936
 nums:1000<=x.1∧x.1<=100000∧0<=x.2.1∧x.2.1<=300000∧1<=x.2.2.1∧x.2.2.1<=64∧0<=x.2.2.2.1∧x.2.2.2.1<=100∧0<=x.2.2.2.2.2.2.2.2.1∧x.2.2.2.2.2.2.2.2.1<=1099511627776∧1<=x.2.2.2.2.2.2.2.2.2.1∧x.2.2.2.2.2.2.2.2.2.1<=72057594037927936∧0<=x.2.2.2.2.2.2.2.2.2.2.1∧x.2.2.2.2.2.2.2.2.2.2.1<=3∧1<=x.2.2.2.2.2.2.2.2.2.2.2.1∧x.2.2.2.2.2.2.2.2.2.2.2.1<=1073741824∧1<=x.2.2.2.2.2.2.2.2.2.2.2.2.1∧x.2.2.2.2.2.2.2.2.2.2.2.2.1<=64∧1<=x.2.2.2.2.1.1∧x.2.2.2.2.1.1<=1000∧1<=x.2.2.2.2.1.2.1∧x.2.2.2.2.1.2.1<=1000∧1<=x.2.2.2.2.1.2.2.1∧x.2.2.2.2.1.2.2.1<=1000∧1<=x.2.2.2.2.1.2.2.2.1∧x.2.2.2.2.1.2.2.2.1<=1000∧1<=x.2.2.2.2.1.2.2.2.2.1∧x.2.2.2.2.1.2.2.2.2.1<=1000∧1<=x.2.2.2.2.1.2.2.2.2.2∧x.2.2.2.2.1.2.2.2.2.2<=1000∧1<=x.2.2.2.2.2.1.1∧x.2.2.2.2.2.1.1<=1099511627776∧1<=x.2.2.2.2.2.1.2.1∧x.2.2.2.2.2.1.2.1<=1099511627776∧1<=x.2.2.2.2.2.1.2.2.1∧x.2.2.2.2.2.1.2.2.1<=1099511627776∧1<=x.2.2.2.2.2.1.2.2.2.1∧x.2.2.2.2.2.1.2.2.2.1<=1099511627776∧1<=x.2.2.2.2.2.1.2.2.2.2.1∧x.2.2.2.2.2.1.2.2.2.2.1<=1099511627776∧1<=x.2.2.2.2.2.1.2.2.2.2.2∧x.2.2.2.2.2.1.2.2.2.2.2<=1099511627776
theorem aQz (x:DM.B):Ok (zA x) (λr:Bool=>r=true->aUp x):=by
 unfold zA YC
 try dsimp only
 show PQ _ _
 repeat' (first
  |(rw[alN,bM])
  |(with_reducible refine ay (aNQ _ _ ⟨Int.le_refl 0,(show(0:Int)<=24 by decide),rfl,λj hj=>absurd hj (by show ¬(j:Int)<0;omega)⟩) λe _ he=> ?_)
  |(rw[r9];refine⟨λa ha=> ?_,λa ha=> ?_⟩)
  |(rw[qh];refine⟨λb hb=> ?_,λb hb=> ?_⟩)
  |(rw[bu];intro q hq)
  |(rw[aK];refine⟨λc=> ?_,λc=> ?_⟩<;>(try simp only[Bool.not_eq_true',Bool.not_eq_false',Bool.and_eq_true,decide_eq_true_eq,decide_eq_false_iff_not] at c)))
 all_goals first
  |(rw[av];intro hr;exact absurd hr (by decide))
  |skip
 rw[ha] at he
 obtain⟨e1,e2⟩:=he
 obtain⟨a1,a2⟩:=a
 have e1:a2=_:=e1
 subst e1
 rw[av]
 intro hr
 have hr:=of_decide_eq_true hr
 rw[hb] at hq
 refine⟨⟨_,hq⟩,e2,?_⟩
 dsimp only at*
 omega
end Go.Proofs.YtldgljclcgaibaaGreat
namespace Go.Proofs.YtldgljclcgaibaaGreat
open Go.Ab Go.Ab.Pg
theorem zj {δ:Type}{Q:δ->Prop}(x y:Pg δ):PQ (.ae false x y) Q=PQ y Q:=by unfold PQ;rw[Pg.bJ];rfl
theorem aKT (a:Int)(h:1000<=a)(k:a<=100000):BK a=some (Sum.inr a):=by
 have h1:decide (a<1000)=false:=decide_eq_false (by omega)
 have h2:decide (a>100000)=false:=decide_eq_false (by omega)
 unfold BK Ry
 rw[h1,h2];rfl
theorem aNR (a:Int)(h:1<=a)(k:a<=64):Eb a=some (Sum.inr (a,λ_=>0)):=by
 have h1:decide (a<1)=false:=decide_eq_false (by omega)
 have h2:decide (a>64)=false:=decide_eq_false (by omega)
 unfold Eb Wx
 rw[h1,h2];rfl
theorem aIf (a b:Int)(h:1<=a)(k:a<=64)(h':1<=b)(k':b<=1073741824):zh a b=some (Sum.inr ((a,b),λ_=>0)):=by
 have h1:decide (a<1)=false:=decide_eq_false (by omega)
 have h2:decide (a>64)=false:=decide_eq_false (by omega)
 have h3:decide (b<1)=false:=decide_eq_false (by omega)
 have h4:decide (b>1073741824)=false:=decide_eq_false (by omega)
 unfold zh NA
 rw[h1,h2,h3,h4];rfl
theorem aIg (T:Nat->Int)(hT:∀j:Nat,j<6->1<=T j∧T j<=1099511627776)(d:gW.B)(hd:0<=d.1.2.2.2∧d.1.2.2.2<=6∧d.1.2.1.1=6∧d.1.2.2.1=6∧d.2.1=T):Ok (IA d) (λx:pj=>match x with|.inl _=>False|.inr _=>True):=
 ba (s:=_) (λd:gW.B=>0<=d.1.2.2.2∧d.1.2.2.2<=6∧d.1.2.1.1=6∧d.1.2.2.1=6∧d.2.1=T) (λd:gW.B=>Int.toNat (6-d.1.2.2.2)) (λx:pj=>match x with|.inl _=>False|.inr _=>True) (λd hd=>by
  obtain⟨i0,i1,i2,i3,i4⟩:=hd
  have hw:wI (d.1.2.2.2+1)=d.1.2.2.2+1:=bg (by omega) (by omega)
  unfold Iz
  dsimp only
  rw[aK]
  refine⟨λh=> ?_,λ_=>by rw[av];trivial⟩
  have h:=of_decide_eq_true h
  have r0:aX d.1.2.2.2 d.1.2.1.1=true:=by rw[bk];omega
  have r1:aX d.1.2.2.2 6=true:=by rw[bk];omega
  have t:=hT (Int.toNat d.1.2.2.2) (by omega)
  have c1:decide (d.2.1 (Int.toNat d.1.2.2.2)<1)=false:=decide_eq_false (by rw[i4];omega)
  have c2:decide (d.2.1 (Int.toNat d.1.2.2.2)>1099511627776)=false:=decide_eq_false (by rw[i4];omega)
  have r2:(Nat.ble (0+Int.toNat d.1.2.2.2*6+6) 36&&Nat.ble (0+Int.toNat d.1.2.2.2*6+6) 37)=true:=by rw[Bool.and_eq_true,bO,bO];omega
  rw[r0,c1,c2,r1,r2,hw,aB,zj,zj,aB,aB,av]
  exact⟨⟨by show 0<=d.1.2.2.2+1;omega,by show d.1.2.2.2+1<=6;omega,i2,i3,i4⟩,by show Int.toNat (6-(d.1.2.2.2+1))<_;omega⟩) 2000 d hd (by omega)
theorem aIh (m:Int)(T:Nat->Int)(w:Bool)(h:0<=m)(k:m<=100)(hT:∀j:Nat,j<6->1<=T j∧T j<=1099511627776):Ok (zf m 6 T w) (λr:ze=>∃e,r=Sum.inr e):=by
 have h1:decide (m<0)=false:=decide_eq_false (by omega)
 have h2:decide (m>100)=false:=decide_eq_false (by omega)
 unfold zf Nw
 show PQ _ _
 rw[h1,h2,zj,zj,(show(Int.ofNat 6!=6)=false from rfl),zj,aM,aB]
 refine ay (aIg T hT _ ⟨Int.le_refl 0,(show(0:Int)<=6 by decide),rfl,rfl,rfl⟩) λy _ hy=> ?_
 rw[r9]
 refine⟨λa ha=> ?_,λa ha=> ?_⟩
 ·rw[ha] at hy;exact hy.elim
 ·rw[av];exact⟨_,rfl⟩
theorem aKU (a b c:Int)(h:∃e,wE a b c=some (Sum.inr e)):Ok (BJ a b c) (λr:vP=>∃e,r=Sum.inr e):=by
 obtain⟨e,h⟩:=h
 have g:(BJ a b c:Option vP)=wE a b c:=rfl
 exact⟨Sum.inr e,g.trans h,e,rfl⟩
theorem aVO (x:Wy.B):Ok (Ec x) (λr:afB=>match r with|.inl _=>True|.inr e=>1<=x.2.2.1∧x.2.2.1<=64∧1<=x.2.2.2.2.2.2.2.2.2.2.2.2.1∧x.2.2.2.2.2.2.2.2.2.2.2.2.1<=64∧e.2.2.2.2.1=x.2.2.1∧e.2.2.2.2.2.1=x.2.2.1∧e.2.2.2.2.2.2.1=x.2.2.1∧e.2.2.2.2.2.2.2.1=x.2.2.1∧e.2.2.2.2.2.2.2.2.1=x.2.2.1∧e.2.2.2.2.2.2.2.2.2.1=x.2.2.1∧e.2.2.2.2.2.2.2.2.2.2.2.1.1=x.2.2.2.2.2.2.2.2.2.2.2.2.1):=by
 unfold Ec aqU
 try dsimp only
 show PQ _ _
 refine ay (aQz x) λr _ hr=> ?_
 rw[aK]
 refine⟨λ_=>by rw[av];trivial,λc=> ?_⟩
 have cc:aUp x:=hr (by simpa using c)
 have n:=cc.nums
 have hT:∀j:Nat,j<6->1<=(bif Nat.beq j 5 then x.2.2.2.2.2.1.2.2.2.2.2 else bif Nat.beq j 4 then x.2.2.2.2.2.1.2.2.2.2.1 else bif Nat.beq j 3 then x.2.2.2.2.2.1.2.2.2.1 else bif Nat.beq j 2 then x.2.2.2.2.2.1.2.2.1 else bif Nat.beq j 1 then x.2.2.2.2.2.1.2.1 else bif Nat.beq j 0 then x.2.2.2.2.2.1.1 else x.2.2.2.2.2.1.1)∧(bif Nat.beq j 5 then x.2.2.2.2.2.1.2.2.2.2.2 else bif Nat.beq j 4 then x.2.2.2.2.2.1.2.2.2.2.1 else bif Nat.beq j 3 then x.2.2.2.2.2.1.2.2.2.1 else bif Nat.beq j 2 then x.2.2.2.2.2.1.2.2.1 else bif Nat.beq j 1 then x.2.2.2.2.2.1.2.1 else bif Nat.beq j 0 then x.2.2.2.2.2.1.1 else x.2.2.2.2.2.1.1)<=1099511627776:=by
  intro j hj
  have e:j=0∨j=1∨j=2∨j=3∨j=4∨j=5:=by omega
  rcases e with rfl|rfl|rfl|rfl|rfl|rfl
  ·exact⟨by show 1<=x.2.2.2.2.2.1.1;omega,by show x.2.2.2.2.2.1.1<=1099511627776;omega⟩
  ·exact⟨by show 1<=x.2.2.2.2.2.1.2.1;omega,by show x.2.2.2.2.2.1.2.1<=1099511627776;omega⟩
  ·exact⟨by show 1<=x.2.2.2.2.2.1.2.2.1;omega,by show x.2.2.2.2.2.1.2.2.1<=1099511627776;omega⟩
  ·exact⟨by show 1<=x.2.2.2.2.2.1.2.2.2.1;omega,by show x.2.2.2.2.2.1.2.2.2.1<=1099511627776;omega⟩
  ·exact⟨by show 1<=x.2.2.2.2.2.1.2.2.2.2.1;omega,by show x.2.2.2.2.2.1.2.2.2.2.1<=1099511627776;omega⟩
  ·exact⟨by show 1<=x.2.2.2.2.2.1.2.2.2.2.2;omega,by show x.2.2.2.2.2.1.2.2.2.2.2<=1099511627776;omega⟩
 rw[bu];intro _ _
 rw[bu];intro _ _
 rw[bu];intro _ _
 refine ay (aKU _ _ _ cc.place) λf _ hf=> ?_
 obtain⟨f,rfl⟩:=hf
 rw[qh]
 refine⟨λ_ h=>(nomatch h),λf hf=> ?_⟩
 rw[aKT _ (by omega) (by omega),bM,qh]
 refine⟨λ_ h=>(nomatch h),λg hg=> ?_⟩
 refine ay (aIh _ _ _ (by omega) (by omega) hT) λh _ hh=> ?_
 obtain⟨h,rfl⟩:=hh
 rw[qh]
 refine⟨λ_ h=>(nomatch h),λf hf=> ?_⟩
 rw[aIf _ _ (by omega) (by omega) (by omega) (by omega),bM,qh]
 refine⟨λ_ h=>(nomatch h),λp hp=> ?_⟩
 rw[aNR _ (by omega) (by omega)]
 rw[bM,qh]
 refine⟨λ_ h=>(nomatch h),λb0 OD=> ?_⟩
 cases OD
 rw[bM,qh]
 refine⟨λ_ h=>(nomatch h),λb1 hb1=> ?_⟩
 cases hb1
 rw[bM,qh]
 refine⟨λ_ h=>(nomatch h),λb2 Da=> ?_⟩
 cases Da
 rw[bM,qh]
 refine⟨λ_ h=>(nomatch h),λb3 hb3=> ?_⟩
 cases hb3
 rw[bM,qh]
 refine⟨λ_ h=>(nomatch h),λb4 hb4=> ?_⟩
 cases hb4
 rw[bM,qh]
 refine⟨λ_ h=>(nomatch h),λb5 hb5=> ?_⟩
 cases hb5
 cases hp
 rw[av]
 refine⟨by omega,by omega,by omega,by omega,rfl,rfl,rfl,rfl,rfl,rfl,rfl⟩
end Go.Proofs.YtldgljclcgaibaaGreat
