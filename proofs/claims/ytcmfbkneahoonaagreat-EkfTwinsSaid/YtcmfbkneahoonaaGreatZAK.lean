/-
  Parts of the proof: TN TO TP TQ TR8 TS8 TPut Q5 TNh TNd TT TV TW TX TY TZ TNw
-/
import Derived.Test.YtcmfbkneahoonaaGreatZAE
import Derived.Test.YtcmfbkneahoonaaGreatZAJ
set_option maxRecDepth 100000
set_option maxHeartbeats 4000000
set_option linter.unusedVariables false
set_option linter.unusedSimpArgs false
namespace Go.Proofs.YtcmfbkneahoonaaGreat
open Go.Ab Go.Ab.Pg
theorem aHP (x:nN.B):Ok (nP x) (λr:AG=>r.1.2.2.2.2.2.2.2.2.2.2.2.2.2.2.2.2=x.2.1.2.2.2.2.2.2.2.2.2.2.2.2.2.2.2.2∧r.1.2.2.2.2.1=x.2.1.2.2.2.2.1):=by
 unfold nP AH
 try dsimp only
 show PQ _ _
 simp only[aM]
 repeat' (first
  |rw[aC]
  |(rw[aL];refine⟨λ_=> ?_,λ_=> ?_⟩)
  |(rw[oA];refine⟨λ_ _=> ?_,λ_ _=> ?_⟩)
  |(with_reducible refine ay (acq _ ?_) λe _ he=> ?_)
  |(with_reducible refine ay (Wk _ ?_) λq _ hq=> ?_)
  |(with_reducible refine ay (Ps _ ?_) λt _ ht=> ?_)
  |(rw[bz];intro _ _))
 all_goals first|(rw[av];exact⟨hq.1.trans he.2.1,hq.2.trans he.2.2⟩)|(rw[av];exact he.2)|(rw[av];exact⟨rfl,rfl⟩)|omega|(dsimp only;omega)|(have h1:=he.1;(try dsimp only at h1);(try dsimp only);omega)
theorem aHQ (x:nQ.B):Ok (nR x) (λr:AK=>r.1.2.2.2.2.2.2.2.2.2.2.2.2.2.2.2.2=x.2.1.2.2.2.2.2.2.2.2.2.2.2.2.2.2.2.2∧r.1.2.2.2.2.1=x.2.1.2.2.2.2.1):=by
 unfold nR AL
 try dsimp only
 show PQ _ _
 simp only[aM]
 repeat' (first
  |rw[aC]
  |(rw[aL];refine⟨λ_=> ?_,λ_=> ?_⟩)
  |(rw[oA];refine⟨λ_ _=> ?_,λ_ _=> ?_⟩)
  |(with_reducible refine ay (acq _ ?_) λe _ he=> ?_)
  |(with_reducible refine ay (Wk _ ?_) λq _ hq=> ?_)
  |(with_reducible refine ay (Ps _ ?_) λt _ ht=> ?_)
  |(rw[bz];intro _ _))
 all_goals first|(rw[av];exact⟨hq.1.trans he.2.1,hq.2.trans he.2.2⟩)|(rw[av];exact he.2)|(rw[av];exact⟨rfl,rfl⟩)|omega|(dsimp only;omega)|(have h1:=he.1;(try dsimp only at h1);(try dsimp only);omega)
theorem aEr (x0:Nat->Int)(x1:Int)(x2:Int)(x3:Int)(x4:Int)(x5:Int)(x6:Bool):Ok (Ar x0 x1 x2 x3 x4 x5 x6) (λr:SJ=>match r with|.inl e=>(e.1!=0)=true|.inr _=>True):=by
 unfold Ar SK
 try dsimp only
 show PQ _ _
 simp only[bG]
 repeat' (first|exact True.intro|rfl|assumption|(apply And.intro)|(intro _))
theorem aTA (x:uw.B):Ok (ux x) (λr:Im=>r.1.2.2.2.2.2.2.2.2.2.2.2.2.2.2.2.2=x.2.1.2.2.2.2.2.2.2.2.2.2.2.2.2.2.2.2∧r.1.2.2.2.2.1=x.2.1.2.2.2.2.1):=by
 unfold ux Io
 try dsimp only
 show PQ _ _
 simp only[aM]
 rw[bz];intro d _
 with_reducible refine ay (aEr _ _ _ _ _ _ _) λfb _ hfb=> ?_
 rw[oA]
 refine⟨λa ha=> ?_,λa ha=> ?_⟩
 ·subst ha
  have hfb:(a.1!=0)=true:=hfb
  rw[hfb]
  repeat' (first
   |rw[aC]
   |(rw[aL];refine⟨λ_=> ?_,λ_=> ?_⟩)
   |(rw[oA];refine⟨λ_ _=> ?_,λ_ _=> ?_⟩)
   |(with_reducible refine ay (acq _ ?_) λe _ he=> ?_)
   |(with_reducible refine ay (Wk _ ?_) λq _ hq=> ?_)
   |(with_reducible refine ay (Ps _ ?_) λt _ ht=> ?_)
   |(rw[bz];intro _ _))
  all_goals first|(rw[av];exact⟨hq.1.trans he.2.1,hq.2.trans he.2.2⟩)|(rw[av];exact he.2)|(rw[av];exact⟨rfl,rfl⟩)|omega|(dsimp only;omega)|(have h1:=he.1;(try dsimp only at h1);(try dsimp only);omega)
 ·subst ha
  repeat' (first
   |rw[aC]
   |(rw[aL];refine⟨λ_=> ?_,λ_=> ?_⟩)
   |(rw[oA];refine⟨λ_ _=> ?_,λ_ _=> ?_⟩)
   |(with_reducible refine ay (acq _ ?_) λe _ he=> ?_)
   |(with_reducible refine ay (Wk _ ?_) λq _ hq=> ?_)
   |(with_reducible refine ay (Ps _ ?_) λt _ ht=> ?_)
   |(rw[bz];intro _ _))
  all_goals first|(rw[av];exact⟨hq.1.trans he.2.1,hq.2.trans he.2.2⟩)|(rw[av];exact he.2)|(rw[av];exact⟨rfl,rfl⟩)|omega|(dsimp only;omega)|(have h1:=he.1;(try dsimp only at h1);(try dsimp only);omega)
end Go.Proofs.YtcmfbkneahoonaaGreat
namespace Go.Proofs.YtcmfbkneahoonaaGreat
open Go.Ab Go.Ab.Pg
theorem afA (x0:Int)(x1:Int)(x2:Int)(x3:Int)(x4:Int)(x5:Int)(x6:Int)(x7:Int)(x8:Int)(x9:Bool)(h0:0<=x7)(h1:x7<=5):bo (nM x0 x1 x2 x3 x4 x5 x6 x7 x8 x9):=by
 have hw:wI (x7+1)=x7+1:=eP (by omega) (by omega)
 have b1:aX x7 7=true:=by simp only[bn];omega
 have b2:aX (x7+1) 7=true:=by simp only[bn];omega
 unfold nM AA
 refine aG ?_
 simp only[hw,b1,b2]
 simp only[bG,true_implies,Bool.true_eq_false,false_implies]
theorem ao5 {x0 x1 x2:Int}{d:aar}(h:fO x0 x1 x2=some d)(k:d=true): -900000000<=x0∧x0<=900000000∧ -1800000000<=x1∧x1<=1800000000:=by
 have e:PQ (Gu x0 x1 x2) (λd:Bool=>d=true-> -900000000<=x0∧x0<=900000000∧ -1800000000<=x1∧x1<=1800000000):=by
  simp only[Gu,aL,av,ge_iff_le,decide_eq_true_eq,decide_eq_false_iff_not,Bool.false_eq_true,false_implies,implies_true,and_true]
  omega
 exact Ok.post e h k
instance aKq (x0:Int)(x1:Int)(x2:Int)(x3:Bool):bo (qy x0 x1 x2 x3):=by
 unfold qy DQ
 refine aG ?_
 rw[bz];intro d hd
 rw[aL]
 refine⟨λ_=>by rw[av];trivial,λh=> ?_⟩
 obtain⟨a0,a1,a2,a3⟩:=ao5 hd (by simpa using h)
 have w0:wI (x0+900000000)=x0+900000000:=eP (by omega) (by omega)
 have w1:wI (x1+1800000000)=x1+1800000000:=eP (by omega) (by omega)
 have e0:Int.tdiv (x0+900000000) 450000000=(x0+900000000)/450000000:=Int.tdiv_eq_ediv_of_nonneg (by omega)
 have e1:Int.tdiv (x1+1800000000) 600000000=(x1+1800000000)/600000000:=Int.tdiv_eq_ediv_of_nonneg (by omega)
 rw[w0,w1,e0,e1]
 have w2:wI ((x0+900000000)/450000000)=(x0+900000000)/450000000:=eP (by omega) (by omega)
 have w3:wI ((x1+1800000000)/600000000)=(x1+1800000000)/600000000:=eP (by omega) (by omega)
 rw[w2,w3]
 have r1:0<=(if 3<(x0+900000000)/450000000 then 3 else(x0+900000000)/450000000)∧(if 3<(x0+900000000)/450000000 then 3 else(x0+900000000)/450000000)<=3:=by split<;>omega
 have r2:0<=(if 5<(x1+1800000000)/600000000 then 5 else(x1+1800000000)/600000000)∧(if 5<(x1+1800000000)/600000000 then 5 else(x1+1800000000)/600000000)<=5:=by split<;>omega
 generalize (if 3<(x0+900000000)/450000000 then 3 else(x0+900000000)/450000000)=row at*
 generalize (if 5<(x1+1800000000)/600000000 then 5 else(x1+1800000000)/600000000)=ma at*
 have t2:=λa b c d e f g i j=>afA a b c d e f g ma i j r2.1 r2.2
 have hw:wI (row+1)=row+1:=eP (by omega) (by omega)
 have b1:aX row 5=true:=by simp only[bn];omega
 have b2:aX (row+1) 5=true:=by simp only[bn];omega
 simp only[hw,b1,b2]
 simp only[bG,true_implies,Bool.true_eq_false,false_implies]
instance aDw (x:iz.B):bo (fS x):=by
 unfold fS oH
 try dsimp only
 exact aG (by simp only[bG])
end Go.Proofs.YtcmfbkneahoonaaGreat
namespace Go.Proofs.YtcmfbkneahoonaaGreat
open Go.Ab Go.Ab.Pg
theorem azT (x:iz.B):Ok (fS x) (λr:vn=>r.2.2.2.2.2.2.2.2.2.2.2.2.2.2.2.2.2=x.1.2.2.2.2.2.2.2.2.2.2.2.2.2.2.2.2∧r.2.2.2.2.2.1=x.1.2.2.2.2.1):=by
 unfold fS oH
 try dsimp only
 show PQ _ _
 rw[bz];intro d _
 rw[av]
 exact⟨rfl,rfl⟩
theorem aTB (x:uq.B)(h:x.2.1.2.2.2.2.2.2.2.2.2.2.2.2.2.2.2.2<=90000):Ok (ur x) (λr:AI=>match r with|.inl e=>e.1.2.2.2.2.2.2.2.2.2.2.2.2.2.2.2.2<=x.2.1.2.2.2.2.2.2.2.2.2.2.2.2.2.2.2.2+1∧e.1.2.2.2.2.1=x.2.1.2.2.2.2.1|.inr e=>e.1.1.2.2.2.2.2.2.2.2.2.2.2.2.2.2.2<=x.2.1.2.2.2.2.2.2.2.2.2.2.2.2.2.2.2.2+1∧e.1.1.2.2.2.2.1=x.2.1.2.2.2.2.1):=by
 unfold ur Ik
 try dsimp only
 show PQ _ _
 simp only[aM]
 rw[bz];intro d _
 rw[bz];intro d1 _
 repeat rw[aC]
 with_reducible refine ay (azT _) λd2 _ h2=> ?_
 have h2:d2.2.2.2.2.2.2.2.2.2.2.2.2.2.2.2.2.2=x.2.1.2.2.2.2.2.2.2.2.2.2.2.2.2.2.2.2∧d2.2.2.2.2.2.1=x.2.1.2.2.2.2.1:=h2
 rw[bz];intro d3 _
 rw[aL]
 refine⟨λ_=> ?_,λ_=> ?_⟩
 ·repeat rw[aC]
  rw[bz];intro d4 _
  rw[av]
  show d2.2.2.2.2.2.2.2.2.2.2.2.2.2.2.2.2.2<=x.2.1.2.2.2.2.2.2.2.2.2.2.2.2.2.2.2.2+1∧d2.2.2.2.2.2.1=x.2.1.2.2.2.2.1
  omega
 ·rw[bz];intro d4 _
  repeat rw[aC]
  with_reducible refine ay (Ps _ ?_) λt _ ht=> ?_
  ·show d2.2.2.2.2.2.2.2.2.2.2.2.2.2.2.2.2.2<=100000
   omega
  have ht:t.1.2.2.2.2.2.2.2.2.2.2.2.2.2.2.2.2=d2.2.2.2.2.2.2.2.2.2.2.2.2.2.2.2.2.2+1∧t.1.2.2.2.2.1=d2.2.2.2.2.2.1:=ht
  repeat (first|rw[aC]|(rw[bz];intro _ _))
  rw[av]
  show t.1.2.2.2.2.2.2.2.2.2.2.2.2.2.2.2.2<=x.2.1.2.2.2.2.2.2.2.2.2.2.2.2.2.2.2.2+1∧t.1.2.2.2.2.1=x.2.1.2.2.2.2.1
  omega
end Go.Proofs.YtcmfbkneahoonaaGreat
namespace Go.Proofs.YtcmfbkneahoonaaGreat
open Go.Ab Go.Ab.Pg
theorem aC6 (x:lY.B)(h:x.2.1.2.2.2.2.2.2.2.2.2.2.2.2.2.2.2.2<=90000):Ok (lZ x) (λr:pT=>match r with|.inl e=>e.1.1.2.2.2.2.2.2.2.2.2.2.2.2.2.2<=x.2.1.2.2.2.2.2.2.2.2.2.2.2.2.2.2.2.2+3∧e.1.1.2.2.2.2.1=x.2.1.2.2.2.2.1|.inr e=>e.1.2.2.2.2.2.2.2.2.2.2.2.2.2.2.2.2<=x.2.1.2.2.2.2.2.2.2.2.2.2.2.2.2.2.2.2+3∧e.1.2.2.2.2.1=x.2.1.2.2.2.2.1):=by
 have idx:∀(n m:Nat) (k:Int),n=m->0<=k->k<(m:Int)->aX k n=true:=λn m k e h1 h2=>by subst e;simp only[bn];omega
 unfold lZ xC
 try dsimp only
 show PQ _ _
 simp only[aM]
 rw[bz];intro d _
 repeat' (first
  |rw[aC]
  |(with_reducible refine ay (aTz _ ?_) λj _ hj=> ?_)
  |(with_reducible refine ay (acq _ ?_) λe _ he=> ?_)
  |(with_reducible refine ay (Wk _ ?_) λq _ hq=> ?_)
  |(rw[oA];refine⟨λ_ _=> ?_,λ_ _=> ?_⟩)
  |(rw[bz];intro _ _)
  |(rw[aL];refine⟨λc=> ?_,λc=> ?_⟩))
 all_goals first
  |(rw[av];exact hj)
  |(rw[av];exact⟨Nat.le_trans (Nat.le_of_eq (hq.1.trans he.2.1)) (Nat.le_add_right _ _),hq.2.trans he.2.2⟩)
  |(rw[av];exact⟨Nat.le_trans (Nat.le_of_eq he.2.1) (Nat.le_add_right _ _),he.2.2⟩)
  |(show x.2.1.2.2.2.2.2.2.2.2.2.2.2.2.2.2.2.2<=90000;exact h)
  |(dsimp only;omega)
  |(have h1:=he.1;(try dsimp only at h1);(try dsimp only);omega)
  |(rw[aM8];rw[he.1] at c;have c':true=false:=c;cases c')
end Go.Proofs.YtcmfbkneahoonaaGreat
namespace Go.Proofs.YtcmfbkneahoonaaGreat
open Go.Ab Go.Ab.Pg
theorem aNj (x:Int):yP x=some (decide (0<=x)&&decide (x<6)):=by
 simp only[yP,amq,bM,bP]
 by_cases h0:0<=x<;>simp[h0]
instance aKr (x:qC.B):bo (iv x):=by
 unfold iv DX
 try dsimp only
 exact aG (by simp only[bG,oL])
instance aKs (x:qE.B):bo (wK x):=by
 unfold wK DZ
 try dsimp only
 exact aG (by simp only[bG,oL])
end Go.Proofs.YtcmfbkneahoonaaGreat
namespace Go.Proofs.YtcmfbkneahoonaaGreat
open Go.Ab Go.Ab.Pg
theorem Rp (n:Nat)(d:cY.B)(hd:0<=d.1.2.2∧d.1.2.2<=d.1.2.1∧d.1.2.1<=1999∧d.1.2.1=((d.1.1.1:Nat):Int)∧d.2.1.2.2=n∧n<=1999):Ok (sC d) (λx:gH=>x.2.1.2.2=n):=
 aZ (s:=_) (λd:cY.B=>0<=d.1.2.2∧d.1.2.2<=d.1.2.1∧d.1.2.1<=1999∧d.1.2.1=((d.1.1.1:Nat):Int)∧d.2.1.2.2=n∧n<=1999) (λd:cY.B=>Int.toNat (d.1.2.1-d.1.2.2)) (λx:gH=>x.2.1.2.2=n) (λd hd=>by
  have hw:wI (d.1.2.2+1)=d.1.2.2+1:=bd (by omega) (by omega)
  obtain⟨i0,i1,i2,i3,i4,i5⟩:=hd
  unfold sy
  try dsimp only
  rw[aL]
  refine⟨λh=> ?_,λ_=>by rw[av];exact i4⟩
  have h:=of_decide_eq_true h
  rw[bC,aM,aC]
  refine⟨by simp only[bn];omega,?_⟩
  with_reducible refine ay (Ro _ ?_) λe _ he=> ?_
  ·show d.2.1.2.2<=1999
   omega
  have he:e.2.1=d.2.1.2.2:=he
  have b1:(true&&Nat.beq (e.2.1*11+0) (d.2.1.2.2*11)&&true)=true:=by rw[he,Nat.add_zero,aM];rfl
  have b2:(true&&Nat.ble (0+(e.2.1*11+0)) (d.2.1.2.2*11+0))=true:=by rw[he,Bool.true_and,bL];omega
  simp only[b1,b2,aC,av,Sum.elim_inl,hw]
  exact⟨⟨by omega,by omega,i2,i3,i4,i5⟩,by omega⟩) 2000 d hd (by omega)
theorem aPF (x:kW.B)(h:x.1.1<=1999)(k:x.2.1.2.2<=1999):Ok (kX x) (λr:vd=>r.2.1=x.2.1.2.2):=by
 unfold kX vg
 show PQ _ _
 rw[aM,aM,aC,aC]
 refine ay (Rp x.2.1.2.2 _ ?_) λd _ hd=> ?_
 ·obtain⟨a,b,c,e⟩:=hdN x.1.1 h
  exact⟨a,b,c,e,rfl,k⟩
 ·rw[av];exact hd
end Go.Proofs.YtcmfbkneahoonaaGreat
namespace Go.Proofs.YtcmfbkneahoonaaGreat
open Go.Ab Go.Ab.Pg
theorem aPG (x:ue.B)(h:x.2.1.2.2.1<=1000):Ok (uf x) (λr:Ax=>match r with
  |.inl e=>e.2=x.2.1.2
  |.inr e=>e.2.1.2.1=x.2.1.2.1∧(((x.2.1.2.2.1:Nat):Int)<=x.2.1.2.1->((e.2.1.2.2.1:Nat):Int)<=x.2.1.2.1)):=by
 unfold uf H8
 try dsimp only
 show PQ _ _
 rw[aL]
 refine⟨λ_=>by rw[av],λ_=> ?_⟩
 rw[aM,bC]
 refine⟨rfl,ay (aNg (((x.2.1.2.2.1,true),x.1),x.2.2) (by show x.2.1.2.2.1<=1999;omega)) λd _ hd=> ?_⟩
 rw[bC]
 refine⟨rfl,ay (aKo x.2.1.2.2.1 d.1 hd.1 hd.2 (by omega) _ _ _ _ _ _ _ _ _ _ _ _ _ _ _ _ _ _ _) λd2 _ h2=> ?_⟩
 rw[aL]
 refine⟨λc=> ?_,λ_=> ?_⟩
 ·rw[av]
  have c:=of_decide_eq_true c
  exact⟨rfl,λ_=>c⟩
 rw[bC,aM,bC]
 refine⟨by simp only[bn,h2];omega,rfl,ay (ayC d2.1 0 1 (by omega) (by omega) (by rw[h2];omega) _ _ _ _ _ _ _ _ _) λd3 _ h3=> ?_⟩
 rw[av]
 refine⟨rfl,λk=> ?_⟩
 have e:d3.1=x.2.1.2.2.1:=by rw[h3,h2];simp
 show((d3.1:Nat):Int)<=x.2.1.2.1
 rw[e];exact k
theorem aHR (n:Nat)(z:Int)(d:fB.B)(hd:0<=d.1.2∧d.1.2<=(n:Int)∧d.2.1.2.2.1=n∧n<=1999∧d.2.1.2.1=z):Ok (DO d) (λx:mO=>match x with
   |.inl e=>0<=e.1.2.1∧e.1.2.1<=(n:Int)∧e.1.2.2.1=n∧e.2.1.2.1=z
   |.inr e=>0<=e.1.2.1∧e.1.2.1<=(n:Int)∧e.1.2.2.1=n∧e.2.1.2.1=z):=
 aZ (s:=_) (λd:fB.B=>0<=d.1.2∧d.1.2<=(n:Int)∧d.2.1.2.2.1=n∧n<=1999∧d.2.1.2.1=z) (λd:fB.B=>Int.toNat (n-d.1.2)) (λx:mO=>match x with
   |.inl e=>0<=e.1.2.1∧e.1.2.1<=(n:Int)∧e.1.2.2.1=n∧e.2.1.2.1=z
   |.inr e=>0<=e.1.2.1∧e.1.2.1<=(n:Int)∧e.1.2.2.1=n∧e.2.1.2.1=z) (λd hd=>by
  have hw:wI (d.1.2+1)=d.1.2+1:=bd (by omega) (by omega)
  obtain⟨i0,i1,i2,i3,i4⟩:=hd
  unfold DN
  try dsimp only
  rw[aL]
  refine⟨λh=> ?_,λ_=>by rw[av];exact⟨i0,i1,i2,i4⟩⟩
  have h:=of_decide_eq_true h
  rw[Int.ofNat_eq_natCast] at h
  rw[bC,aL]
  refine⟨by simp only[bn];omega,λ_=> ?_,λ_=>by rw[av];exact⟨i0,i1,i2,i4⟩⟩
  rw[av,Sum.elim_inl]
  simp only[hw]
  exact⟨⟨by omega,by omega,i2,i3,i4⟩,by omega⟩) 2000 d hd (by omega)
theorem aPH (x:ug.B)(h:x.2.1.2.2.1<=1000):Ok (uh x) (λr:Ay=>r.1<=x.2.1.2.2.1∧r.2.1.2.2.1<=x.2.1.2.2.1∧r.2.1.2.1=x.2.1.2.1):=by
 unfold uh H'
 try dsimp only
 show PQ _ _
 rw[aM,bC]
 refine⟨rfl,ay (aHR x.2.1.2.2.1 x.2.1.2.1 _ ⟨by dsimp only;omega,by dsimp only;omega,rfl,by omega,rfl⟩) λy _ hy=> ?_⟩
 rw[oE]
 constructor
 all_goals
  rintro d rfl
  obtain⟨i0,i1,i2,i4⟩:=hy
  rw[bC]
  refine⟨by simp only[MO];omega,?_⟩
  rw[aM,bC]
  refine⟨rfl,ay (aNh (Int.toNat d.1.2.1) (by omega) _ _ _ _ _ _ _ _ _ _) λd1 _ h1=> ?_⟩
  rw[aM,bC]
  refine⟨rfl,ay (ayC d.1.2.2.1 0 d.1.2.1 (by omega) i0 (by rw[i2];exact i1) _ _ _ _ _ _ _ _ _) λd2 _ h2=> ?_⟩
  rw[av]
  refine⟨?_,?_,i4⟩
  ·show d1.1<=_
   rw[h1];omega
  ·show d2.1<=_
   rw[h2,i2];simp only[Int.toNat_zero];omega
end Go.Proofs.YtcmfbkneahoonaaGreat
noncomputable section
namespace Go.Proofs.YtcmfbkneahoonaaGreat
open Go.Ab Go.Ab.Pg Go.Ab.Rq
def aFE:=qa (pr (cu aP (c jS YX)) bB)
def aqY:=qe (res (pr (aa aAz) (pl kZ nil)))
abbrev aFF:=aqY.B
abbrev aFG:=NI->Int->Int->Int->Int->Int->Int->Int->Int->Bool->Option aFF
def aFH (g:aFG):Ct:=(126,FC aFE (lf aqY) (λb=>g b.1.1 b.1.2.1 b.1.b.1 b.1.b.2.1.1 b.1.b.2.1.2.1 b.1.b.2.1.b b.1.c.1 b.1.c.2.1 b.1.c.b b.2))
def sG:=qs (st (pr (cu aP (us 5 (cu Ot (cu awz (cu aNG (cu aEP (us 1 (cu aNH (cu aNI (c ai (c ai (us 98 (c ai (us 12 (c ac4 (cl ai (us 64 nil))))))))))))))))) (pl (c ck (c ld (c (so adf) (c uQ (c ld (c (so aie) aid)))))) cB)))
def ayD:=qs (st (pr (cu aP (us 5 (cu Ot (cu awz (cu aNG (cu aEP (us 1 (cu aNH (cu aNI (c ai (c ai (us 98 (c ai (us 12 (c ac4 (c ai (cl ab (us 63 nil)))))))))))))))))) (pl (c ck (c ld (c (so adf) (c uQ (c ld (c (so aie) aid)))))) cB)))
abbrev I1:=ayD.B
def ayE {ρ:Type}:=@ef I1 ((.ex 2)) ayD ρ
def alA (aB:bN)(d:sG.B):PL sG I1:=let n6:=d.1.1;let n4:=d.1.2;let n3:=d.2.2.2;let n5:=n3.2.2;let n2:=n4.2.2;let n1:=(n6,n4.1,n4.2.1,n2.1,wI (n2.2+1));let y0:=wI (0+n4.1);let y1:=wI (10+n2.2);let y2:=decide (n2.2<3);let y3:=Int.toNat y0*24+Int.toNat y1;ae y2 (ae (aX n2.2 3) (ae (n2.2==2) (opt (aB n6 n2.1.2.2 30 d.2.1) λaj=>ae (aX y0 24) (ae (aX y1 24) (ae (true&&Nat.ble (0+y3*1+1) 576) (ret (Sum.inl (n1,aj.2,d.2.2.1,n3.1,n3.2.1,λj=>bif Nat.beq j y3 then wI (0-aj.1) else n5.1 j,n5.2))) no) no) no) (ae (n2.2==1) (opt (aB n6 n2.1.2.1 30 d.2.1) λaj=>ae (aX y0 24) (ae (aX y1 24) (ae (true&&Nat.ble (0+y3*1+1) 576) (ret (Sum.inl (n1,aj.2,d.2.2.1,n3.1,n3.2.1,λj=>bif Nat.beq j y3 then wI (0-aj.1) else n5.1 j,n5.2))) no) no) no) (opt (aB n6 n2.1.1 30 d.2.1) λaj=>ae (aX y0 24) (ae (aX y1 24) (ae (true&&Nat.ble (0+y3*1+1) 576) (ret (Sum.inl (n1,aj.2,d.2.2.1,n3.1,n3.2.1,λj=>bif Nat.beq j y3 then wI (0-aj.1) else n5.1 j,n5.2))) no) no) no))) no) (ret (Sum.inr ((n6,n4.1,n4.2.1,n2.1,n2.2,y2),d.2)))
def alB:=bD (alA aV) 2000
def sH:=qs (st (pr (cu aP (us 5 (cu Ot (cu awz (us 1 (cu aNJ (us 7 (cu aNK (c ai (us 130 (c ai (us 10 aQx)))))))))))) (pl (c ck (c ld (c (so adf) (c ld aid)))) cB)))
def ayF:=qs (st (pr (cu aP (us 5 (cu Ot (cu awz (us 1 (cu aNJ (us 7 (cu aNK (c ai (us 130 (c ai (us 10 aQD)))))))))))) (pl (c ck (c ld (c (so adf) (c ld aid)))) cB)))
abbrev I2:=ayF.B
def ayG {ρ:Type}:=@ef I2 ((.ex 6)) ayF ρ
def alC (aB:bN)(d:sH.B):PL sH I2:=let n2:=d.2.2.2;let n1:=d.1.2;let y0:=wI (4+d.1.1);let y1:=wI (13+n1.2);let y2:=decide (n1.2<3);let y3:=wI (wI (3*d.1.1)+n1.2);let y4:=Int.toNat y0*24+Int.toNat y1;ae y2 (ae (aX y3 9) (opt (aB (n2.1.2.2.2.2.2.2.2.2.2.2.2 (Int.toNat y3)) n2.1.1 30 d.2.1) λaj=>ae (aX y0 24) (ae (aX y1 24) (ae (true&&Nat.ble (0+y4*1+1) 576) (ret (Sum.inl ((d.1.1,n1.1,wI (n1.2+1)),aj.2,d.2.2.1,n2.1,λj=>bif Nat.beq j y4 then wI (0-aj.1) else n2.2.1 j,n2.2.2))) no) no) no) no) (ret (Sum.inr ((d.1.1,n1.1,n1.2,y2),d.2)))
def alD:=bD (alC aV) 2000
def sI:=qs (st (pr (cu aP (us 5 (cu Ot (cu awz (cu aNG (cu aEP (us 1 (cu aNH (cu aNI (c ai (us 99 aQz))))))))))) (pl (c ck (c ld (c (so adf) (c uQ (c ld (c (so aie) aid)))))) cB)))
def ayH:=qs (st (pr (cu aP (us 5 (cu Ot (cu awz (cu aNG (cu aEP (us 1 (cu aNH (cu aNI (c ai (us 99 (c ai (cl ab (us 77 nil)))))))))))))) (pl (c ck (c ld (c (so adf) (c uQ (c ld (c (so aie) aid)))))) cB)))
abbrev I3:=ayH.B
def ayI {ρ:Type}:=@ef I3 ((.ex 0)) ayH ρ
def alE (oV:LT sG I1)(d:sI.B):PL sI I3:=let bA:=d.2.1;let bl:=d.1.1;let aS:=d.2.2.1;let n7:=d.1.2;let n6:=d.2.2.2;let n15:=n6.2.1;let ba:=n6.2.2.1;let n4:=n6.2.2.2;let n21:=n4.2.2.2;let n17:=n4.1.2;let bk:=n21.2.2.2;let n20:=bk.2.2.2;let n9:=n17.2.2;let n18:=n9.2.2;let n5:=n18.2.2;let n19:=n5.2.2;let n8:=n19.2.2;let n16:=n8.2.2;let n3:=(n4.2.1,n4.2.2.1,n21.1);let n2:=(n21.2.1,n21.2.2.1,bk.1);let n1:=(bk.2.1,bk.2.2.1,n20.1);let y0:=aX n7 4;let y1:=n7==2;let y2:=n7==1;let y3:=n7==3;let y4:=wI (0+n7);let y5:=0+Int.toNat y4*24;let y6:=y5+1;let y7:=true&&Nat.ble (y5+4) 576;let y8:=y6+1;let y9:=decide (n7<4);ae y9 (ae (aX y4 24) (ae y0 (ae y3 (ae y7 (ae y0 (ae y3 (opt (oV ((bl,n7,n7,n20.2,0),bA,aS,n6.1,n15,λj=>bif Nat.beq j (y8+1) then n16.2.2 else bif Nat.beq j y8 then n16.2.1 else bif Nat.beq j y6 then n16.1 else bif Nat.beq j y5 then n8.2.1 else ba j,n4)) λd=>ret (Sum.inl ((d.1.1,wI (d.1.2.2.1+1)),d.2))) (ae y1 (opt (oV ((bl,n7,n7,n1,0),bA,aS,n6.1,n15,λj=>bif Nat.beq j (y8+1) then n16.2.2 else bif Nat.beq j y8 then n16.2.1 else bif Nat.beq j y6 then n16.1 else bif Nat.beq j y5 then n8.2.1 else ba j,n4)) λd=>ret (Sum.inl ((d.1.1,wI (d.1.2.2.1+1)),d.2))) (ae y2 (opt (oV ((bl,n7,n7,n2,0),bA,aS,n6.1,n15,λj=>bif Nat.beq j (y8+1) then n16.2.2 else bif Nat.beq j y8 then n16.2.1 else bif Nat.beq j y6 then n16.1 else bif Nat.beq j y5 then n8.2.1 else ba j,n4)) λd=>ret (Sum.inl ((d.1.1,wI (d.1.2.2.1+1)),d.2))) (opt (oV ((bl,n7,n7,n3,0),bA,aS,n6.1,n15,λj=>bif Nat.beq j (y8+1) then n16.2.2 else bif Nat.beq j y8 then n16.2.1 else bif Nat.beq j y6 then n16.1 else bif Nat.beq j y5 then n8.2.1 else ba j,n4)) λd=>ret (Sum.inl ((d.1.1,wI (d.1.2.2.1+1)),d.2)))))) no) no) (ae y1 (ae y7 (ae y0 (ae y3 (opt (oV ((bl,n7,n7,n20.2,0),bA,aS,n6.1,n15,λj=>bif Nat.beq j (y8+1) then n8.1 else bif Nat.beq j y8 then n19.2.1 else bif Nat.beq j y6 then n19.1 else bif Nat.beq j y5 then n5.2.1 else ba j,n4)) λd=>ret (Sum.inl ((d.1.1,wI (d.1.2.2.1+1)),d.2))) (ae y1 (opt (oV ((bl,n7,n7,n1,0),bA,aS,n6.1,n15,λj=>bif Nat.beq j (y8+1) then n8.1 else bif Nat.beq j y8 then n19.2.1 else bif Nat.beq j y6 then n19.1 else bif Nat.beq j y5 then n5.2.1 else ba j,n4)) λd=>ret (Sum.inl ((d.1.1,wI (d.1.2.2.1+1)),d.2))) (ae y2 (opt (oV ((bl,n7,n7,n2,0),bA,aS,n6.1,n15,λj=>bif Nat.beq j (y8+1) then n8.1 else bif Nat.beq j y8 then n19.2.1 else bif Nat.beq j y6 then n19.1 else bif Nat.beq j y5 then n5.2.1 else ba j,n4)) λd=>ret (Sum.inl ((d.1.1,wI (d.1.2.2.1+1)),d.2))) (opt (oV ((bl,n7,n7,n3,0),bA,aS,n6.1,n15,λj=>bif Nat.beq j (y8+1) then n8.1 else bif Nat.beq j y8 then n19.2.1 else bif Nat.beq j y6 then n19.1 else bif Nat.beq j y5 then n5.2.1 else ba j,n4)) λd=>ret (Sum.inl ((d.1.1,wI (d.1.2.2.1+1)),d.2)))))) no) no) (ae y2 (ae y7 (ae y0 (ae y3 (opt (oV ((bl,n7,n7,n20.2,0),bA,aS,n6.1,n15,λj=>bif Nat.beq j (y8+1) then n5.1 else bif Nat.beq j y8 then n18.2.1 else bif Nat.beq j y6 then n18.1 else bif Nat.beq j y5 then n9.2.1 else ba j,n4)) λd=>ret (Sum.inl ((d.1.1,wI (d.1.2.2.1+1)),d.2))) (ae y1 (opt (oV ((bl,n7,n7,n1,0),bA,aS,n6.1,n15,λj=>bif Nat.beq j (y8+1) then n5.1 else bif Nat.beq j y8 then n18.2.1 else bif Nat.beq j y6 then n18.1 else bif Nat.beq j y5 then n9.2.1 else ba j,n4)) λd=>ret (Sum.inl ((d.1.1,wI (d.1.2.2.1+1)),d.2))) (ae y2 (opt (oV ((bl,n7,n7,n2,0),bA,aS,n6.1,n15,λj=>bif Nat.beq j (y8+1) then n5.1 else bif Nat.beq j y8 then n18.2.1 else bif Nat.beq j y6 then n18.1 else bif Nat.beq j y5 then n9.2.1 else ba j,n4)) λd=>ret (Sum.inl ((d.1.1,wI (d.1.2.2.1+1)),d.2))) (opt (oV ((bl,n7,n7,n3,0),bA,aS,n6.1,n15,λj=>bif Nat.beq j (y8+1) then n5.1 else bif Nat.beq j y8 then n18.2.1 else bif Nat.beq j y6 then n18.1 else bif Nat.beq j y5 then n9.2.1 else ba j,n4)) λd=>ret (Sum.inl ((d.1.1,wI (d.1.2.2.1+1)),d.2)))))) no) no) (ae y7 (ae y0 (ae y3 (opt (oV ((bl,n7,n7,n20.2,0),bA,aS,n6.1,n15,λj=>bif Nat.beq j (y8+1) then n9.1 else bif Nat.beq j y8 then n17.2.1 else bif Nat.beq j y6 then n17.1 else bif Nat.beq j y5 then n4.1.1 else ba j,n4)) λd=>ret (Sum.inl ((d.1.1,wI (d.1.2.2.1+1)),d.2))) (ae y1 (opt (oV ((bl,n7,n7,n1,0),bA,aS,n6.1,n15,λj=>bif Nat.beq j (y8+1) then n9.1 else bif Nat.beq j y8 then n17.2.1 else bif Nat.beq j y6 then n17.1 else bif Nat.beq j y5 then n4.1.1 else ba j,n4)) λd=>ret (Sum.inl ((d.1.1,wI (d.1.2.2.1+1)),d.2))) (ae y2 (opt (oV ((bl,n7,n7,n2,0),bA,aS,n6.1,n15,λj=>bif Nat.beq j (y8+1) then n9.1 else bif Nat.beq j y8 then n17.2.1 else bif Nat.beq j y6 then n17.1 else bif Nat.beq j y5 then n4.1.1 else ba j,n4)) λd=>ret (Sum.inl ((d.1.1,wI (d.1.2.2.1+1)),d.2))) (opt (oV ((bl,n7,n7,n3,0),bA,aS,n6.1,n15,λj=>bif Nat.beq j (y8+1) then n9.1 else bif Nat.beq j y8 then n17.2.1 else bif Nat.beq j y6 then n17.1 else bif Nat.beq j y5 then n4.1.1 else ba j,n4)) λd=>ret (Sum.inl ((d.1.1,wI (d.1.2.2.1+1)),d.2)))))) no) no)))) no) no) (ret (Sum.inr ((bl,n7,y9),d.2)))
def alF:=bD (alE alB) 2000
def sJ:=qs (st (pr (cu aP (us 5 (cu Ot (cu awz (us 1 (cu aNJ (us 7 (cu aNK (us 131 (cl ai (us 42 nil))))))))))) (pl (c ck (c ld (c (so adf) (c ld aid)))) cB)))
def ayJ:=qs (st (pr (cu aP (us 5 (cu Ot (cu awz (us 1 (cu aNJ (us 7 (cu aNK (us 131 aQR))))))))) (pl (c ck (c ld (c (so adf) (c ld aid)))) cB)))
abbrev I4:=ayJ.B
def ayK {ρ:Type}:=@ef I4 ((.ex 4)) ayJ ρ
def alG (l_3:LT sH I2)(d:sJ.B):PL sJ I4:=let n3:=d.2.2;let n1:=n3.2.2.2;let n2:=n1.2.2.2.2.2;let n4:=n2.2.2.2;let y0:=wI (4+d.1);let y1:=0+Int.toNat y0*24;let y2:=y1+1;let y3:=true&&Nat.ble (y1+4) 576;let y4:=y2+1;let y5:=decide (d.1<3);ae y5 (ae (aX y0 24) (ae (aX d.1 3) (ae (d.1==2) (ae y3 (opt (l_3 ((d.1,d.1,0),d.2.1,n3.1,n3.2.1,λj=>bif Nat.beq j (y4+1) then n4.2.2.2 else bif Nat.beq j y4 then n4.2.2.1 else bif Nat.beq j y2 then n4.2.1 else bif Nat.beq j y1 then n4.1 else n3.2.2.1 j,n1)) λd=>let n5:=d.2.2.2;let y0:=wI (7+d.1.1);let y1:=wI (4+d.1.1);let y2:=Int.toNat y0*24+Int.toNat y1;ae (aX y0 24) (ae (aX y1 24) (ae (true&&Nat.ble (0+y2*1+1) 576) (ret (Sum.inl (wI (d.1.2.1+1),d.2.1,d.2.2.1,n5.1,λj=>bif Nat.beq j y2 then n5.1.1 else n5.2.1 j,n5.2.2))) no) no) no) no) (ae (d.1==1) (ae y3 (opt (l_3 ((d.1,d.1,0),d.2.1,n3.1,n3.2.1,λj=>bif Nat.beq j (y4+1) then n2.2.2.1 else bif Nat.beq j y4 then n2.2.1 else bif Nat.beq j y2 then n2.1 else bif Nat.beq j y1 then n1.2.2.2.2.1 else n3.2.2.1 j,n1)) λd=>let n6:=d.2.2.2;let y0:=wI (7+d.1.1);let y1:=wI (4+d.1.1);let y2:=Int.toNat y0*24+Int.toNat y1;ae (aX y0 24) (ae (aX y1 24) (ae (true&&Nat.ble (0+y2*1+1) 576) (ret (Sum.inl (wI (d.1.2.1+1),d.2.1,d.2.2.1,n6.1,λj=>bif Nat.beq j y2 then n6.1.1 else n6.2.1 j,n6.2.2))) no) no) no) no) (ae y3 (opt (l_3 ((d.1,d.1,0),d.2.1,n3.1,n3.2.1,λj=>bif Nat.beq j (y4+1) then n1.2.2.2.1 else bif Nat.beq j y4 then n1.2.2.1 else bif Nat.beq j y2 then n1.2.1 else bif Nat.beq j y1 then n1.1 else n3.2.2.1 j,n1)) λd=>let n7:=d.2.2.2;let y0:=wI (4+d.1.1);let y1:=wI (7+d.1.1);let y2:=Int.toNat y1*24+Int.toNat y0;ae (aX y1 24) (ae (aX y0 24) (ae (true&&Nat.ble (0+y2*1+1) 576) (ret (Sum.inl (wI (d.1.2.1+1),d.2.1,d.2.2.1,n7.1,λj=>bif Nat.beq j y2 then n7.1.1 else n7.2.1 j,n7.2.2))) no) no) no) no))) no) no) (ret (Sum.inr ((d.1,y5),d.2)))
def alH:=bD (alG alD) 2000
def av7 (yy:Kf)(aN:eL)(bh:dz)(QE:Bj)(aB:bN)(aav:Gr)(dA:LT sI I3)(Gn:LT sJ I4)(x0:Nat->Int)(x1:Int)(x2:Int)(x3:Int)(x4:Int)(x5:Int)(x6:Int)(x7:Int)(x8:Int)(x9:Bool):Pg aFF:=opt (yy x0 x1 x2 x3 x4 x5 x6 x7 x8 x9) λd=>let n1:=d.1.2.2.2.2.2.2.2;let n3:=n1.2.2;let y0:=wI (0-n1.2.1);let y1:=wI (0-n3.1);let y2:=wI (0-n3.2.1);opt (aN x0 d.2) λaj=>opt (bh aj.1) λaF=>let pA:=wI (0-aF.2.1);let axh:=wI (0-aF.2.2.2);let aVQ:=wI (0-aF.2.2.1);opt QE λbx=>opt (aB d.1.1 536870912 30 aj.2) λcv=>opt (dA ((cv.1,0),cv.2,λx=>0,d.1,aF,bx,(n1.1,y0,y1,y2,n1.2.1,n1.1,n3.2.1,y1,n3.1,y2,n1.1,n1.2.1,n3.2.1,n3.1,y0,n1.1),pA,aVQ,axh,aF.1,axh,aF.2.2.1,aF.2.2.2,aF.1,pA,aVQ,aF.2.1,aF.1)) λd=>let n2:=d.2.2.2;let n4:=n2.1.2.2.2.2;opt (aav n2.2.1.1 n2.2.1.2.1 n2.2.1.2.2.1 n2.2.1.2.2.2 n4.1 n4.2.1 n4.2.2.1 d.2.1) λdN=>opt (Gn (0,dN.2,d.2.2.1,n2.1,n2.2.2.1,dN.1)) λd=>ret (d.2.2.2.2.1,d.2.1)
def acr:=λx0 x1 x2 x3 x4 x5 x6 x7 x8 x9=>(av7 tP bX bZ mg aV xg alF alH x0 x1 x2 x3 x4 x5 x6 x7 x8 x9).val
abbrev Nl:=Kf×eL×dz×Bj×bN×Gr×(LT sG I1)×(LT sH I2)×(LT sI I3)×(LT sJ I4)
def Tf (p:Nl):KK:=⟨[UN p.1,ir p.2.1,iF p.b.1,Qq p.b.2.1,eJ p.c.1,aam p.c.2.1],⟨[⟨9,(rg 1 5 (10::rg 14 99 (rg 114 78 []))),[]⟩,⟨13,(rg 1 5 (10::rg 15 98 (rg 114 12 (rg 128 64 [])))),[]⟩,⟨20,(rg 1 5 (8::rg 10 7 (rg 18 131 (rg 150 42 [])))),[]⟩,⟨24,(rg 1 5 (8::rg 10 7 (rg 19 130 (rg 150 10 (rg 161 31 []))))),[]⟩],[fg 13 1 sG ayE p.c.b.1,fg 24 1 sH ayG p.c.b.2.1,fg 9 1 sI ayI p.d.1,fg 20 1 sJ ayK p.d.2],[],[],(some ⟨0,(rg 0 6 (rg 7 185 [])),[]⟩)⟩,1,126⟩
theorem aHS (p:Nl):LI (Tf p) 13 sG ayE (alA p.c.1):=λ_ d c K=>by kernel_rfl
theorem aHT (p:Nl):LI (Tf p) 24 sH ayG (alC p.c.1):=λ_ d c K=>by kernel_rfl
theorem aHU (p:Nl):LI (Tf p) 9 sI ayI (alE p.c.b.1):=λ_ d c K=>by kernel_rfl
theorem aHV (p:Nl):LI (Tf p) 20 sJ ayK (alG p.c.b.2.1):=λ_ d c K=>by kernel_rfl
theorem aPI (p:Nl):D2 (Tf p) aFE (lf aqY) λb=>av7 p.1 p.2.1 p.b.1 p.b.2.1 p.c.1 p.c.2.1 p.d.1 p.d.2 b.1.1 b.1.2.1 b.1.b.1 b.1.b.2.1.1 b.1.b.2.1.2.1 b.1.b.2.1.b b.1.c.1 b.1.c.2.1 b.1.c.b b.2:=λb=>by kernel_rfl
abbrev Tg:Nl:=(tP,bX,bZ,mg,aV,xg,alB,alD,alF,alH)
theorem aPJ [ax]:SC (aFH acr):=sc (kS (k:=Tf Tg) (.c aj2 (.c jf (.c jx (.c agt (.c eZ (.c aoJ (.nil _))))))) [9,13,20,24] [] ⟨kL (aHU Tg),⟨kL (aHS Tg),⟨kL (aHV Tg),⟨kL (aHT Tg),trivial⟩⟩⟩⟩ trivial (aPI Tg))
def ayL:=qa (pr (cu aP (c xX (c jS (c (aa aGg) apG)))) bB)
def afB:=qe aLL
abbrev ayM:=afB.B
abbrev alI:=NI->NI->NI->Int->Int->Int->Int->Int->Int->Int->Int->NI->Bool->Option ayM
def ayN (g:alI):Ct:=(76,FC ayL (lf afB) (λb=>g b.1.1.1 b.1.1.2 b.1.2.1 b.1.b.1.1 b.1.b.1.2.1 b.1.b.1.b.1.1 b.1.b.1.b.1.2.1 b.1.b.1.b.1.b b.1.b.1.b.2.1 b.1.b.1.c.1 b.1.b.1.c.2 b.1.b.2 b.2))
def alJ (amr:aFG)(S7:as3)(tw:EI)(x0:Nat->Int)(x1:Nat->Int)(x2:Nat->Int)(x3:Int)(x4:Int)(x5:Int)(x6:Int)(x7:Int)(x8:Int)(x9:Int)(fQ:Int)(fR:Nat->Int)(zF:Bool):Pg ayM:=opt (amr x2 x3 x4 x5 x6 x7 x8 x9 fQ zF) λd=>opt (S7 fR x4 d.2) λaj=>opt (tw x0 x1 d.1 aj.1 aj.2) λd=>ret d
def I5:=λx0 x1 x2 x3 x4 x5 x6 x7 x8 x9 fQ fR zF=>(alJ acr Kl jh x0 x1 x2 x3 x4 x5 x6 x7 x8 x9 fQ fR zF).val
theorem aKt:∀amr S7 tw,D0 [aFH amr,as4 S7,MJ tw] 76 ayL (lf afB) λb=>alJ amr S7 tw b.1.1.1 b.1.1.2 b.1.2.1 b.1.b.1.1 b.1.b.1.2.1 b.1.b.1.b.1.1 b.1.b.1.b.1.2.1 b.1.b.1.b.1.b b.1.b.1.b.2.1 b.1.b.1.c.1 b.1.b.1.c.2 b.1.b.2 b.2:=λ_ _ _ b=>by kernel_rfl
theorem aKu [ax]:SC (ayN I5):=s0 (.c aPJ (.c aHj (.c abJ (.nil _)))) (aKt acr Kl jh)
def Wl:=qa (pr (cu aP C4) bB)
def Lb:=qe aLC
def AP:=qe auE
abbrev AQ:=Lb.B⊕AP.B
def R5:AQ->T:=ls (lf Lb) (lf AP)
def Wm:AQ->T:=ls (λ_=>.fail) (lf AP)
abbrev Wn:=Int->Int->Int->Bool->Option AQ
def Wo (g:Wn):Ct:=(103,FC Wl Wm (λb=>g b.1.1 b.1.2.1 b.1.b b.2))
def Iq (x0:Int)(x1:Int)(x2:Int)(x3:Bool):Pg AQ:=ae (decide (x1>x2)) (ret (Sum.inl x1)) (ae (decide (x0<x1)) (ret (Sum.inl x1)) (ae (decide (x0>x2)) (ret (Sum.inl x2)) (ret (Sum.inr x0))))
def uy:=λx0 x1 x2 x3=>(Iq x0 x1 x2 x3).val
theorem aqZ:D0 [] 103 Wl R5 λb=>Iq b.1.1 b.1.2.1 b.1.b b.2:=λb=>by kernel_rfl
theorem aq0 [ax]:SC (Wo uy):=sc (C' (R:=R5) (R':=Wm) (λd r h=>by rcases d with d|d<;>first|exact h|(have h:(none:Option nk)=some r:=h;cases h))<|k0 (.nil _) aqZ)
def acs:=qa (pr (cu aP fU) bB)
def Lc:=qe auE
abbrev acu:=Lc.B
abbrev Nm:=Int->Bool->Option acu
def Nn (g:Nm):Ct:=(106,FC acs (lf Lc) (λb=>g b.1 b.2))
def No (AR:Wn)(x0:Int)(x1:Bool):Pg acu:=opt (AR x0 (-1152921504606846976) 1152921504606846976 x1) λd=>sm d (λd=>no) (λd=>ret d)
def pf:=λx0 x1=>(No uy x0 x1).val
theorem av8:∀AR,D0 [Wo AR] 106 acs (lf Lc) λb=>No AR b.1 b.2:=λ_ b=>by kernel_rfl
theorem acv [ax]:SC (Nn pf):=s0 (.c aq0 (.nil _)) (av8 uy)
def acw:=qa (pr (cu aP (c ai (c ab aIn))) bB)
def Pu:=qe aLC
def D4:=qe auE
abbrev EU:=Pu.B⊕D4.B
def YD:EU->T:=ls (lf Pu) (lf D4)
def acx:EU->T:=ls (λ_=>.fail) (lf D4)
abbrev acy:=Int->Bool->Bool->Bool->Option EU
def acz (g:acy):Ct:=(173,FC acw acx (λb=>g b.1.1 b.1.2.1 b.1.b b.2))
def Np (iB:TK)(ig:Nm)(x0:Int)(x1:Bool)(x2:Bool)(x3:Bool):Pg EU:=ae (!x1) (opt (iB x2) λd=>ret (Sum.inl d)) (opt (ig x0 x3) λd=>ret (Sum.inr d))
def yT:=λx0 x1 x2 x3=>(Np oU pf x0 x1 x2 x3).val
theorem av9:∀iB ig,D0 [TL iB,Nn ig] 173 acw YD λb=>Np iB ig b.1.1 b.1.2.1 b.1.b b.2:=λ_ _ b=>by kernel_rfl
theorem awa [ax]:SC (acz yT):=sc (C' (R:=YD) (R':=acx) (λd r h=>by rcases d with d|d<;>first|exact h|(have h:(none:Option nk)=some r:=h;cases h))<|k0 (.c adQ (.c acv (.nil _))) (av9 oU pf))
def ahr:=qa (pr (cu aP (c ac2 fU)) bB)
def R6:=qe aLC
def FT:=qe auE
abbrev Hv:=R6.B⊕FT.B
def acA:Hv->T:=ls (lf R6) (lf FT)
def ahs:Hv->T:=ls (λ_=>.fail) (lf FT)
abbrev aht:=Int->Int->Int->Bool->Option Hv
def ahu (g:aht):Ct:=(108,FC ahr ahs (λb=>g b.1.1.1 b.1.1.2 b.1.2 b.2))
def Rr (iB:TK)(vV:aiY)(EV:acy)(x0:Int)(x1:Int)(x2:Int)(x3:Bool):Pg Hv:=let y0:=decide (x0<0);ae (x2==0) (ae (x0==0&&(x1==0&&true)) (ret (Sum.inl 0)) (opt (iB y0) λd=>ret (Sum.inl d))) (opt (vV x0 x1 x2) λd=>opt (EV d.1 d.2 (!y0==decide (x2<0)) x3) λd=>sm d (λd=>no) (λd=>ret (Sum.inr d)))
def Hw:=λx0 x1 x2 x3=>(Rr oU zi yT x0 x1 x2 x3).val
theorem azU:∀iB vV EV,D0 [TL iB,aiZ vV,acz EV] 108 ahr acA λb=>Rr iB vV EV b.1.1.1 b.1.1.2 b.1.2 b.2:=λ_ _ _ b=>by kernel_rfl
theorem azV [ax]:SC (ahu Hw):=sc (C' (R:=acA) (R':=ahs) (λd r h=>by rcases d with d|d<;>first|exact h|(have h:(none:Option nk)=some r:=h;cases h))<|k0 (.c adQ (.c aw6 (.c awa (.nil _)))) (azU oU zi yT))
def R7:=qa (pr (cu aP C4) bB)
def D5:=qe auE
abbrev R8:=D5.B
abbrev FU:=Int->Int->Int->Bool->Option R8
def FW (g:FU):Ct:=(65,FC R7 (lf D5) (λb=>g b.1.1 b.1.2.1 b.1.b b.2))
def FX (ig:Nm)(cE:mF)(Hy:aht)(x0:Int)(x1:Int)(x2:Int)(x3:Bool):Pg R8:=opt (ig x0 x3) λd=>opt (ig x1 x3) λaj=>opt (cE d aj) λd=>opt (ig x2 x3) λaF=>opt (Hy d.1 d.2 aF x3) λd=>sm d (λd=>no) (λd=>ret d)
def jj:=λx0 x1 x2 x3=>(FX pf eQ Hw x0 x1 x2 x3).val
theorem am4:∀ig cE Hy,D0 [Nn ig,vT cE,ahu Hy] 65 R7 (lf D5) λb=>FX ig cE Hy b.1.1 b.1.2.1 b.1.b b.2:=λ_ _ _ b=>by kernel_rfl
theorem R9 [ax]:SC (FW jj):=s0 (.c acv (.c zh (.c azV (.nil _)))) (am4 pf eQ Hw)
def Fa:=qa (pr (c ai (c ai aF8)) (cu apB bB))
def uA:=qe aLq
abbrev Fb:=uA.B
abbrev vo:=Int->Int->Int->Int->Bool->Option Fb
def vp (g:vo):Ct:=(248,FC Fa (lf uA) (λb=>g b.1.1 b.1.2.1 b.1.b.1 b.1.b.2 b.2))
def vr (aR:FU)(x0:Int)(x1:Int)(x2:Int)(x3:Int)(x4:Bool):Pg Fb:=opt (aR (wI (x1-x0)) x2 x3 x4) λd=>ret (wI (x0+d))
def fT:=λx0 x1 x2 x3 x4=>(vr jj x0 x1 x2 x3 x4).val
theorem Xa:∀aR,D0 [FW aR] 248 Fa (lf uA) λb=>vr aR b.1.1 b.1.2.1 b.1.b.1 b.1.b.2 b.2:=λ_ b=>by kernel_rfl
theorem Fc [ax]:SC (vp fT):=s0 (.c R9 (.nil _)) (Xa jj)
def Fe:=qa (pr (cl (aa (c gi aAD)) (cu aP (cu Ou (cu (app 2 1) nil)))) (cu (cu (gc (ccl (pu (nat 248) (pu rq7 (pu xW A9))))) nil) (c jO (c jO (cu (cu (gp 4 1) nil) bB)))))
def uB:=qe (res (pl ai (pu aQ0 nil)))
abbrev Ff:=uB.B
abbrev Fg:=Int->Int->Int->Int->Int->Int->Int->Int->Int->Bool->Option Ff
def Fh (g:Fg):Ct:=(249,FC Fe (lf uB) (λb=>g b.1.1 b.1.2.1 b.1.b.1 b.1.b.2.1 b.1.c.1 b.1.c.2.1 b.1.c.b b.2.1 b.b.1 b.b.2))
def vt (ak:vo)(x0:Int)(x1:Int)(x2:Int)(x3:Int)(x4:Int)(x5:Int)(x6:Int)(x7:Int)(x8:Int)(x9:Bool):Pg Ff:=let y0:=wI (x2*1073741824);let y1:=wI (x6*1073741824);let y2:=wI (x3*1073741824);let y3:=wI (x0*1073741824);let y4:=wI (x7+1);let y5:=wI (x5*1073741824);let y6:=wI (x1*1073741824);let y7:=wI (x4*1073741824);let y8:=aX y4 7;let y9:=y4==5;let rN:=y4==1;let sD:=y4==6;let vj:=y4==2;let vk:=y4==3;let vm:=y4==4;ae (aX x7 7) (ae (x7==6) (ae y8 (ae sD (opt (ak y1 y1 x8 600000000 x9) λd=>ret d) (ae y9 (opt (ak y1 y5 x8 600000000 x9) λd=>ret d) (ae vm (opt (ak y1 y7 x8 600000000 x9) λd=>ret d) (ae vk (opt (ak y1 y2 x8 600000000 x9) λd=>ret d) (ae vj (opt (ak y1 y0 x8 600000000 x9) λd=>ret d) (ae rN (opt (ak y1 y6 x8 600000000 x9) λd=>ret d) (opt (ak y1 y3 x8 600000000 x9) λd=>ret d))))))) no) (ae (x7==5) (ae y8 (ae sD (opt (ak y5 y1 x8 600000000 x9) λd=>ret d) (ae y9 (opt (ak y5 y5 x8 600000000 x9) λd=>ret d) (ae vm (opt (ak y5 y7 x8 600000000 x9) λd=>ret d) (ae vk (opt (ak y5 y2 x8 600000000 x9) λd=>ret d) (ae vj (opt (ak y5 y0 x8 600000000 x9) λd=>ret d) (ae rN (opt (ak y5 y6 x8 600000000 x9) λd=>ret d) (opt (ak y5 y3 x8 600000000 x9) λd=>ret d))))))) no) (ae (x7==4) (ae y8 (ae sD (opt (ak y7 y1 x8 600000000 x9) λd=>ret d) (ae y9 (opt (ak y7 y5 x8 600000000 x9) λd=>ret d) (ae vm (opt (ak y7 y7 x8 600000000 x9) λd=>ret d) (ae vk (opt (ak y7 y2 x8 600000000 x9) λd=>ret d) (ae vj (opt (ak y7 y0 x8 600000000 x9) λd=>ret d) (ae rN (opt (ak y7 y6 x8 600000000 x9) λd=>ret d) (opt (ak y7 y3 x8 600000000 x9) λd=>ret d))))))) no) (ae (x7==3) (ae y8 (ae sD (opt (ak y2 y1 x8 600000000 x9) λd=>ret d) (ae y9 (opt (ak y2 y5 x8 600000000 x9) λd=>ret d) (ae vm (opt (ak y2 y7 x8 600000000 x9) λd=>ret d) (ae vk (opt (ak y2 y2 x8 600000000 x9) λd=>ret d) (ae vj (opt (ak y2 y0 x8 600000000 x9) λd=>ret d) (ae rN (opt (ak y2 y6 x8 600000000 x9) λd=>ret d) (opt (ak y2 y3 x8 600000000 x9) λd=>ret d))))))) no) (ae (x7==2) (ae y8 (ae sD (opt (ak y0 y1 x8 600000000 x9) λd=>ret d) (ae y9 (opt (ak y0 y5 x8 600000000 x9) λd=>ret d) (ae vm (opt (ak y0 y7 x8 600000000 x9) λd=>ret d) (ae vk (opt (ak y0 y2 x8 600000000 x9) λd=>ret d) (ae vj (opt (ak y0 y0 x8 600000000 x9) λd=>ret d) (ae rN (opt (ak y0 y6 x8 600000000 x9) λd=>ret d) (opt (ak y0 y3 x8 600000000 x9) λd=>ret d))))))) no) (ae (x7==1) (ae y8 (ae sD (opt (ak y6 y1 x8 600000000 x9) λd=>ret d) (ae y9 (opt (ak y6 y5 x8 600000000 x9) λd=>ret d) (ae vm (opt (ak y6 y7 x8 600000000 x9) λd=>ret d) (ae vk (opt (ak y6 y2 x8 600000000 x9) λd=>ret d) (ae vj (opt (ak y6 y0 x8 600000000 x9) λd=>ret d) (ae rN (opt (ak y6 y6 x8 600000000 x9) λd=>ret d) (opt (ak y6 y3 x8 600000000 x9) λd=>ret d))))))) no) (ae y8 (ae sD (opt (ak y3 y1 x8 600000000 x9) λd=>ret d) (ae y9 (opt (ak y3 y5 x8 600000000 x9) λd=>ret d) (ae vm (opt (ak y3 y7 x8 600000000 x9) λd=>ret d) (ae vk (opt (ak y3 y2 x8 600000000 x9) λd=>ret d) (ae vj (opt (ak y3 y0 x8 600000000 x9) λd=>ret d) (ae rN (opt (ak y3 y6 x8 600000000 x9) λd=>ret d) (opt (ak y3 y3 x8 600000000 x9) λd=>ret d))))))) no))))))) no
def kY:=λx0 x1 x2 x3 x4 x5 x6 x7 x8 x9=>(vt fT x0 x1 x2 x3 x4 x5 x6 x7 x8 x9).val
theorem Xb:∀ak,D0 [vp ak] 249 Fe (lf uB) λb=>vt ak b.1.1 b.1.2.1 b.1.b.1 b.1.b.2.1 b.1.c.1 b.1.c.2.1 b.1.c.b b.2.1 b.b.1 b.b.2:=λ_ b=>by kernel_rfl
theorem Xc [ax]:SC (Fh kY):=s0 (.c Fc (.nil _)) (Xb fT)
def I6:=qa (pr (cu aP Fk) bB)
def xE:=qe aRi
abbrev I7:=xE.B
abbrev I8:=Int->Int->Int->Bool->Option I7
def I9 (g:I8):Ct:=(228,FC I6 (lf xE) (λb=>g b.1.1 b.1.2.1 b.1.b b.2))
def yU (cA:sX)(gT:FL)(ak:vo)(aH:Fg)(aR:FU)(x0:Int)(x1:Int)(x2:Int)(x3:Bool):Pg I7:=let y0:=wI (x1+1800000000);let y1:=wI (x0+900000000);let y2:=wI (Int.tdiv y1 450000000);let y3:=wI (Int.tdiv y0 600000000);let y4:=if 3<y2 then 3 else y2;let y5:=if 5<y3 then 5 else y3;let y6:=wI (y4+1);let y7:=wI (y0-wI (y5*600000000));opt (cA x0 x1 x2) λd=>ae (!d) (ret (0,1)) (opt gT λd=>ae (aX y4 5) (ae (y4==4) (opt (aH 1000 4000 (-3000) 500 3500 (-1200) 1000 y5 y7 x3) λd=>ae (aX y6 5) (ae (y6==4) (opt (aH 1000 4000 (-3000) 500 3500 (-1200) 1000 y5 y7 x3) λaj=>opt (ak d aj (wI (y1-wI (y4*450000000))) 450000000 x3) λd=>opt (aR d 3373259426 19327352832000 x3) λd=>ret (d,0)) (ae (y6==3) (opt (aH 500 1500 (-1700) 100 700 (-800) 500 y5 y7 x3) λaj=>opt (ak d aj (wI (y1-wI (y4*450000000))) 450000000 x3) λd=>opt (aR d 3373259426 19327352832000 x3) λd=>ret (d,0)) (ae (y6==2) (opt (aH 950 900 (-1400) (-500) (-300) 100 950 y5 y7 x3) λaj=>opt (ak d aj (wI (y1-wI (y4*450000000))) 450000000 x3) λd=>opt (aR d 3373259426 19327352832000 x3) λd=>ret (d,0)) (ae (y6==1) (opt (aH 2200 2500 500 (-2200) (-3800) 0 2200 y5 y7 x3) λaj=>opt (ak d aj (wI (y1-wI (y4*450000000))) 450000000 x3) λd=>opt (aR d 3373259426 19327352832000 x3) λd=>ret (d,0)) (opt (aH 3000 6000 (-2000) (-1500) (-6000) (-9000) 3000 y5 y7 x3) λaj=>opt (ak d aj (wI (y1-wI (y4*450000000))) 450000000 x3) λd=>opt (aR d 3373259426 19327352832000 x3) λd=>ret (d,0)))))) no) (ae (y4==3) (opt (aH 500 1500 (-1700) 100 700 (-800) 500 y5 y7 x3) λd=>ae (aX y6 5) (ae (y6==4) (opt (aH 1000 4000 (-3000) 500 3500 (-1200) 1000 y5 y7 x3) λaj=>opt (ak d aj (wI (y1-wI (y4*450000000))) 450000000 x3) λd=>opt (aR d 3373259426 19327352832000 x3) λd=>ret (d,0)) (ae (y6==3) (opt (aH 500 1500 (-1700) 100 700 (-800) 500 y5 y7 x3) λaj=>opt (ak d aj (wI (y1-wI (y4*450000000))) 450000000 x3) λd=>opt (aR d 3373259426 19327352832000 x3) λd=>ret (d,0)) (ae (y6==2) (opt (aH 950 900 (-1400) (-500) (-300) 100 950 y5 y7 x3) λaj=>opt (ak d aj (wI (y1-wI (y4*450000000))) 450000000 x3) λd=>opt (aR d 3373259426 19327352832000 x3) λd=>ret (d,0)) (ae (y6==1) (opt (aH 2200 2500 500 (-2200) (-3800) 0 2200 y5 y7 x3) λaj=>opt (ak d aj (wI (y1-wI (y4*450000000))) 450000000 x3) λd=>opt (aR d 3373259426 19327352832000 x3) λd=>ret (d,0)) (opt (aH 3000 6000 (-2000) (-1500) (-6000) (-9000) 3000 y5 y7 x3) λaj=>opt (ak d aj (wI (y1-wI (y4*450000000))) 450000000 x3) λd=>opt (aR d 3373259426 19327352832000 x3) λd=>ret (d,0)))))) no) (ae (y4==2) (opt (aH 950 900 (-1400) (-500) (-300) 100 950 y5 y7 x3) λd=>ae (aX y6 5) (ae (y6==4) (opt (aH 1000 4000 (-3000) 500 3500 (-1200) 1000 y5 y7 x3) λaj=>opt (ak d aj (wI (y1-wI (y4*450000000))) 450000000 x3) λd=>opt (aR d 3373259426 19327352832000 x3) λd=>ret (d,0)) (ae (y6==3) (opt (aH 500 1500 (-1700) 100 700 (-800) 500 y5 y7 x3) λaj=>opt (ak d aj (wI (y1-wI (y4*450000000))) 450000000 x3) λd=>opt (aR d 3373259426 19327352832000 x3) λd=>ret (d,0)) (ae (y6==2) (opt (aH 950 900 (-1400) (-500) (-300) 100 950 y5 y7 x3) λaj=>opt (ak d aj (wI (y1-wI (y4*450000000))) 450000000 x3) λd=>opt (aR d 3373259426 19327352832000 x3) λd=>ret (d,0)) (ae (y6==1) (opt (aH 2200 2500 500 (-2200) (-3800) 0 2200 y5 y7 x3) λaj=>opt (ak d aj (wI (y1-wI (y4*450000000))) 450000000 x3) λd=>opt (aR d 3373259426 19327352832000 x3) λd=>ret (d,0)) (opt (aH 3000 6000 (-2000) (-1500) (-6000) (-9000) 3000 y5 y7 x3) λaj=>opt (ak d aj (wI (y1-wI (y4*450000000))) 450000000 x3) λd=>opt (aR d 3373259426 19327352832000 x3) λd=>ret (d,0)))))) no) (ae (y4==1) (opt (aH 2200 2500 500 (-2200) (-3800) 0 2200 y5 y7 x3) λd=>ae (aX y6 5) (ae (y6==4) (opt (aH 1000 4000 (-3000) 500 3500 (-1200) 1000 y5 y7 x3) λaj=>opt (ak d aj (wI (y1-wI (y4*450000000))) 450000000 x3) λd=>opt (aR d 3373259426 19327352832000 x3) λd=>ret (d,0)) (ae (y6==3) (opt (aH 500 1500 (-1700) 100 700 (-800) 500 y5 y7 x3) λaj=>opt (ak d aj (wI (y1-wI (y4*450000000))) 450000000 x3) λd=>opt (aR d 3373259426 19327352832000 x3) λd=>ret (d,0)) (ae (y6==2) (opt (aH 950 900 (-1400) (-500) (-300) 100 950 y5 y7 x3) λaj=>opt (ak d aj (wI (y1-wI (y4*450000000))) 450000000 x3) λd=>opt (aR d 3373259426 19327352832000 x3) λd=>ret (d,0)) (ae (y6==1) (opt (aH 2200 2500 500 (-2200) (-3800) 0 2200 y5 y7 x3) λaj=>opt (ak d aj (wI (y1-wI (y4*450000000))) 450000000 x3) λd=>opt (aR d 3373259426 19327352832000 x3) λd=>ret (d,0)) (opt (aH 3000 6000 (-2000) (-1500) (-6000) (-9000) 3000 y5 y7 x3) λaj=>opt (ak d aj (wI (y1-wI (y4*450000000))) 450000000 x3) λd=>opt (aR d 3373259426 19327352832000 x3) λd=>ret (d,0)))))) no) (opt (aH 3000 6000 (-2000) (-1500) (-6000) (-9000) 3000 y5 y7 x3) λd=>ae (aX y6 5) (ae (y6==4) (opt (aH 1000 4000 (-3000) 500 3500 (-1200) 1000 y5 y7 x3) λaj=>opt (ak d aj (wI (y1-wI (y4*450000000))) 450000000 x3) λd=>opt (aR d 3373259426 19327352832000 x3) λd=>ret (d,0)) (ae (y6==3) (opt (aH 500 1500 (-1700) 100 700 (-800) 500 y5 y7 x3) λaj=>opt (ak d aj (wI (y1-wI (y4*450000000))) 450000000 x3) λd=>opt (aR d 3373259426 19327352832000 x3) λd=>ret (d,0)) (ae (y6==2) (opt (aH 950 900 (-1400) (-500) (-300) 100 950 y5 y7 x3) λaj=>opt (ak d aj (wI (y1-wI (y4*450000000))) 450000000 x3) λd=>opt (aR d 3373259426 19327352832000 x3) λd=>ret (d,0)) (ae (y6==1) (opt (aH 2200 2500 500 (-2200) (-3800) 0 2200 y5 y7 x3) λaj=>opt (ak d aj (wI (y1-wI (y4*450000000))) 450000000 x3) λd=>opt (aR d 3373259426 19327352832000 x3) λd=>ret (d,0)) (opt (aH 3000 6000 (-2000) (-1500) (-6000) (-9000) 3000 y5 y7 x3) λaj=>opt (ak d aj (wI (y1-wI (y4*450000000))) 450000000 x3) λd=>opt (aR d 3373259426 19327352832000 x3) λd=>ret (d,0)))))) no))))) no)
def mR:=λx0 x1 x2 x3=>(yU fO lp fT kY jj x0 x1 x2 x3).val
theorem acB:∀cA gT ak aH aR,D0 [xj cA,FM gT,vp ak,Fh aH,FW aR] 228 I6 (lf xE) λb=>yU cA gT ak aH aR b.1.1 b.1.2.1 b.1.b b.2:=λ_ _ _ _ _ b=>by kernel_rfl
theorem acC [ax]:SC (I9 mR):=s0 (.c BV (.c RZ (.c Fc (.c Xc (.c R9 (.nil _)))))) (acB fO lp fT kY jj)
def iZ:=qa (pu (cu dy nil) (cd oy λb0=>(c jT (c lk (c (cl (gs b0.c.1 lg) nil) (cd oR λb4=>(cd na λb5=>(cd nc λb6=>(cd nd λb7=>(cd nh λb8=>(cd ni λb9=>(c kC (cd pX λpQ=>(c (cl (gs b0.e jk) nil) (c (cl (gs b4.b.1 aA) nil) (c (cl (gs b5.b.1 aA) nil) (c (cl (gs b6.b.1 aA) nil) (c (cl (gs b7.b.1 aA) nil) (c (cl (gs b8.b.1 aA) nil) (c (cl (gs b9.b.1 aA) nil) (cl (cl (gs pQ.b fX) nil) nil)))))))))))))))))))))
def qF:=qe aRY
abbrev BA:=qF.B
abbrev BB:=iZ.B->Option BA
def BC (g:BB):Ct:=(191,FC iZ (lf qF) g)
def rI (rj:I8)(x:iZ.B):Pg BA:=let n1:=x.1.1.2.2.2.2.2.2.2.2.2.2.2.2.2;opt (rj n1.1 n1.2.1 n1.2.2 x.1.2.1) λd=>ret d.1
def ja:=λx=>(rI mR x).val
theorem Rs:∀rj,D0 [I9 rj] 191 iZ (lf qF) λb=>rI rj b:=λ_ b=>by kernel_rfl
theorem Rt [ax]:SC (BC ja):=s0 (.c acC (.nil _)) (Rs mR)
def qG:=qa (pr (cu dy B4) (cd oy λb0=>(c jT (c lk (c (cl (gs b0.c.1 lg) nil) (cd oR λb4=>(cd na λb5=>(cd nc λb6=>(cd nd λb7=>(cd nh λb8=>(cd ni λb9=>(c kC (cd pX λpQ=>(c (cl (gs b0.e jk) nil) (c (cl (gs b4.b.1 aA) nil) (c (cl (gs b5.b.1 aA) nil) (c (cl (gs b6.b.1 aA) nil) (c (cl (gs b7.b.1 aA) nil) (c (cl (gs b8.b.1 aA) nil) (c (cl (gs b9.b.1 aA) nil) (cl (cl (gs pQ.b fX) nil) nil)))))))))))))))))))))
def Co:=qe apM
abbrev D6:=Co.B
abbrev Pv:=qG.B->Option D6
def Pw (g:Pv):Ct:=(135,FC qG (lf Co) g)
def D7 (lA:Yn)(mr:BB)(YE:ayp)(AS:VX)(bg:pd)(Ld:akW)(aY:mP)(x:qG.B):Pg D6:=let bk:=x.2.2;let n6:=x.1.2.2.2;let n5:=x.2.1.1;let n15:=n5.2.2.2.2.2.2.2.2.2.1;let n7:=n5.2.2.2.2.1.2.2.2.1;let n4:=x.2.1.2.2;let bl:=n4.2.2.2.2.2.2.2.2.2.2.2.2.2.2;let n3:=bk.2.2.2.2;let n8:=n3.2.2.2;let y0:=Nat.beq n4.2.2.1 n4.2.2.1;let y1:=Nat.beq bl bl;let y2:=Nat.beq bk.2.2.2.1.2.2.1 bk.2.2.2.1.2.2.1;let y3:=Nat.beq n3.1.2.2.1 n3.1.2.2.1;let y4:=Nat.beq n3.2.1.2.2.1 n3.2.1.2.2.1;let y5:=Nat.beq n3.2.2.1.2.2.1 n3.2.2.1.2.2.1;let y6:=Nat.beq n8.1.2.2.1 n8.1.2.2.1;let y7:=Nat.beq n8.2.1.2.2.1 n8.2.1.2.2.1;let y8:=Nat.beq n8.2.2.2.1.2.2 n8.2.2.2.1.2.2;opt (lA x.1.1 x.1.2.1 x.1.2.2.1 n6.1 n6.2.1 n6.2.2.1 n6.2.2.2.1 n6.2.2.2.2.1 n6.2.2.2.2.2 x.2.1.2.1) λd=>let n9:=d.1.1.2;ae y0 (ae y1 (ae y2 (ae y3 (ae y4 (ae y5 (ae y6 (ae y7 (ae y8 (opt (mr ((n5,d.2,n4),bk)) λaj=>ae (n4.2.2.2.1.1==3) (opt (YE n4.1 d.1.1.1 n9.1 n9.2.1 n9.2.2 n7 d.2) λd=>let n16:=d.2.2.1;let n2:=d.2.2.2;let bA:=n2.2.1;let aS:=n2.2.2.2;opt (AS n4.1 aj n15 n7 d.1) λaF=>ae (aF.1.2==0) (ae y0 (ae y1 (ae y2 (ae y3 (ae y4 (ae y5 (ae y6 (ae y7 (ae y8 (opt (bg ((3,4,true),(n5,aF.2,n4),(awq (λk=>cr (d.2.1 k) [aF.1.1.1 k,aS.2.1 k,n2.2.2.1 k,d.2.1 k]) (cr n16 [aF.1.1.2.1,aS.2.2,aS.1,n16],cr n2.1 [aF.1.1.2.2.1,n2.1,n2.1,n2.1],cr bA [aF.1.1.2.2.2,bA,bA,bA])),bk)) λd=>ret d.2.1) no) no) no) no) no) no) no) no) no) (ae y0 (ae y1 (ae y2 (ae y3 (ae y4 (ae y5 (ae y6 (ae y7 (ae y8 (opt (bg ((3,3,true),(n5,aF.2,n4),(awq (λk=>cr (d.2.1 k) [aS.2.1 k,n2.2.2.1 k,d.2.1 k]) (cr n16 [aS.2.2,aS.1,n16],cr n2.1 [n2.1,n2.1,n2.1],cr bA [bA,bA,bA])),bk)) λd=>ret d.2.1) no) no) no) no) no) no) no) no) no)) (opt (Ld n4.1 d.1.1.1 n9.1 n9.2.1 n9.2.2 aj n15 n7 d.2) λd=>let ba:=d.1.1.2;let n1:=d.1.1.1;ae (d.1.2!=0) (ae y0 (ae y1 (ae y2 (ae y3 (ae y4 (ae y5 (ae y6 (ae y7 (ae y8 (opt (aY (3,(n5,d.2,n4),bk)) λaF=>ret ((n5,d.2,n4),aF)) no) no) no) no) no) no) no) no) no) (ae y0 (ae y1 (ae y2 (ae y3 (ae y4 (ae y5 (ae y6 (ae y7 (ae y8 (opt (bg ((3,1,true),(n5,d.2,n4),(λj=>bif Nat.beq j 0 then n1 0 else n1 0,λj=>bif Nat.beq j 0 then n1 1 else n1 1,λj=>bif Nat.beq j 0 then n1 2 else n1 2,λj=>bif Nat.beq j 0 then n1 3 else n1 3,λj=>bif Nat.beq j 0 then n1 4 else n1 4,λj=>bif Nat.beq j 0 then n1 5 else n1 5,λj=>bif Nat.beq j 0 then n1 6 else n1 6,λj=>bif Nat.beq j 0 then n1 7 else n1 7,λj=>bif Nat.beq j 0 then n1 8 else n1 8,λj=>bif Nat.beq j 0 then n1 9 else n1 9,λj=>bif Nat.beq j 0 then n1 10 else n1 10,λj=>bif Nat.beq j 0 then n1 11 else n1 11,λj=>bif Nat.beq j 0 then n1 12 else n1 12,λj=>bif Nat.beq j 0 then n1 13 else n1 13,λj=>bif Nat.beq j 0 then n1 14 else n1 14,λj=>bif Nat.beq j 0 then n1 15 else n1 15,λj=>bif Nat.beq j 0 then n1 16 else n1 16,λj=>bif Nat.beq j 0 then n1 17 else n1 17,λj=>bif Nat.beq j 0 then n1 18 else n1 18,λj=>bif Nat.beq j 0 then n1 19 else n1 19,λj=>bif Nat.beq j 0 then n1 20 else n1 20,λj=>bif Nat.beq j 0 then n1 21 else n1 21,λj=>bif Nat.beq j 0 then n1 22 else n1 22,λj=>bif Nat.beq j 0 then n1 23 else n1 23,λj=>bif Nat.beq j 0 then ba.1 else ba.1,λj=>bif Nat.beq j 0 then ba.2.1 else ba.2.1,λj=>bif Nat.beq j 0 then ba.2.2 else ba.2.2),bk)) λd=>ret d.2.1) no) no) no) no) no) no) no) no) no))) no) no) no) no) no) no) no) no) no
def qH:=λx=>(D7 wA ja OU ua dK Dw db x).val
theorem alK:∀lA mr YE AS bg Ld aY,D0 [Yo lA,BC mr,ayq YE,VY AS,pe bg,akX Ld,mQ aY] 135 qG (lf Co) λb=>D7 lA mr YE AS bg Ld aY b:=λ_ _ _ _ _ _ _ b=>by kernel_rfl
theorem alL [ax]:SC (Pw qH):=s0 (.c akQ (.c Rt (.c aKf (.c aqH (.c um (.c aCW (.c qA (.nil _)))))))) (alK wA ja OU ua dK Dw db)
def wM:=qa (pr (cu dy (c ai B4)) (cd oy λb0=>(c jT (c lk (c (cl (gs b0.c.1 lg) nil) (cd oR λb4=>(cd na λb5=>(cd nc λb6=>(cd nd λb7=>(cd nh λb8=>(cd ni λb9=>(c kC (cd pX λpQ=>(c (cl (gs b0.e jk) nil) (c (cl (gs b4.b.1 aA) nil) (c (cl (gs b5.b.1 aA) nil) (c (cl (gs b6.b.1 aA) nil) (c (cl (gs b7.b.1 aA) nil) (c (cl (gs b8.b.1 aA) nil) (c (cl (gs b9.b.1 aA) nil) (cl (cl (gs pQ.b fX) nil) nil)))))))))))))))))))))
def LV:=qe apM
def ahY:=qe (res (pu Th (pr (c aSd aMb) aGn)))
abbrev CR:=LV.B⊕((Ty4×aIi×Int)×NI×NI×NI×NI×NI×NI×NI×NI×NI×NI)
def YF:CR->T:=ls (lf LV) (λd=>lf ahY (d.1,d.1.1.e,d.2))
abbrev Le:=wM.B->Option CR
def YG (g:Le):Ct:=(78,FC wM YF g)
def Lf (AT:Wc)(pU:GS)(iM:HY)(nT:akM)(cg:K7)(gU:FE)(mu:agN)(aY:mP)(wN:Pv)(sK:K9)(AU:Wh)(x:wM.B):Pg CR:=let n24:=x.2.1;let bk:=x.1.2;let n9:=x.2.2;let n8:=x.1.1;let n5:=bk.2.2.2;let n16:=n5.2.2.2;let n4:=n9.2.2.2.2;let bA:=n4.2.2.2;let n3:=n24.1;let n6:=n3.2.2.2.2.1;let n17:=n6.2.2.2;let n2:=n24.2.2;let n25:=n2.2.2;let n15:=n25.2.2.2.2.2.2;let n1:=(n24,bA.2.2.1);let y0:=aX n8 6;let y1:=n8==2;let y2:=n8==3;let y3:=n8==5;let y4:=n8==4;let y5:=n8==1;let y6:=Nat.beq n25.1 n25.1;let y7:=Nat.beq n15.2.2.2.2.2.2 n15.2.2.2.2.2.2;let y8:=Nat.beq n9.2.2.2.1.2.2.1 n9.2.2.2.1.2.2.1;let y9:=Nat.beq n4.1.2.2.1 n4.1.2.2.1;let rN:=Nat.beq n4.2.1.2.2.1 n4.2.1.2.2.1;let sD:=Nat.beq n4.2.2.1.2.2.1 n4.2.2.1.2.2.1;let vj:=Nat.beq bA.1.2.2.1 bA.1.2.2.1;let vk:=Nat.beq bA.2.1.2.2.1 bA.2.1.2.2.1;let vm:=Nat.beq bA.2.2.2.1.2.2 bA.2.2.2.1.2.2;ae (n25.2.1.1==0) (ret (Sum.inl n1)) (ae (n25.2.1.1==1) (ae y2 (ae (!n15.1) (ae y6 (ae y7 (ae y8 (ae y9 (ae rN (ae sD (ae vj (ae vk (ae vm (opt (AT (bk,x.2)) λd=>sm d (λd=>ret (Sum.inl d)) (λd=>let n22:=d.1.1.2;let aS:=n22.2.2.2;let n23:=aS.2.2.2;ret (Sum.inr (((d.1.1.1,n22.1,n22.2.1,n22.2.2.1,aS.1,aS.2.1,aS.2.2.1,n23.1,n23.2.1,n23.2.2.1,true,n23.2.2.2),d.1.2),d.2)))) no) no) no) no) no) no) no) no) no) (ret (Sum.inl n1))) (ret (Sum.inl n1))) (ae (n8==0) (ae y6 (ae y7 (ae y8 (ae y9 (ae rN (ae sD (ae vj (ae vk (ae vm (opt (pU (bk,x.2)) λd=>sm d (λd=>let n18:=d.1.1.2;let n7:=n18.2.2.2.2;let n19:=n7.2.2.2;ret (Sum.inr (((d.1.1.1,n18.1,n18.2.1,n18.2.2.1,n18.2.2.2.1,n7.1,n7.2.1,n7.2.2.1,n19.1,n19.2.1,n19.2.2.1,true,n19.2.2.2.1,n19.2.2.2),d.1.2),d.2))) (λd=>ret (Sum.inl d))) no) no) no) no) no) no) no) no) no) (ae y5 (opt (iM bk.1 bk.2.1 bk.2.2.1 n5.1 n5.2.1 n5.2.2.1 n16.1 n16.2.1 n16.2.2 n24.2.1) λd=>let bl:=d.1.1;ae y0 (ae y3 (opt (nT n2.1 bl.1 bl.2 n17.2.2 d.2) λd=>ae y6 (ae y7 (ae y8 (ae y9 (ae rN (ae sD (ae vj (ae vk (ae vm (opt (cg ((n8,1,d.1),(n3,d.2,n2),n9)) λd=>ret (Sum.inl d)) no) no) no) no) no) no) no) no) no) (ae y4 (opt (nT n2.1 bl.1 bl.2 n17.2.1 d.2) λd=>ae y6 (ae y7 (ae y8 (ae y9 (ae rN (ae sD (ae vj (ae vk (ae vm (opt (cg ((n8,1,d.1),(n3,d.2,n2),n9)) λd=>ret (Sum.inl d)) no) no) no) no) no) no) no) no) no) (ae y2 (opt (nT n2.1 bl.1 bl.2 n17.1 d.2) λd=>ae y6 (ae y7 (ae y8 (ae y9 (ae rN (ae sD (ae vj (ae vk (ae vm (opt (cg ((n8,1,d.1),(n3,d.2,n2),n9)) λd=>ret (Sum.inl d)) no) no) no) no) no) no) no) no) no) (ae y1 (opt (nT n2.1 bl.1 bl.2 n6.2.2.1 d.2) λd=>ae y6 (ae y7 (ae y8 (ae y9 (ae rN (ae sD (ae vj (ae vk (ae vm (opt (cg ((n8,1,d.1),(n3,d.2,n2),n9)) λd=>ret (Sum.inl d)) no) no) no) no) no) no) no) no) no) (ae y5 (opt (nT n2.1 bl.1 bl.2 n6.2.1 d.2) λd=>ae y6 (ae y7 (ae y8 (ae y9 (ae rN (ae sD (ae vj (ae vk (ae vm (opt (cg ((n8,1,d.1),(n3,d.2,n2),n9)) λd=>ret (Sum.inl d)) no) no) no) no) no) no) no) no) no) (opt (nT n2.1 bl.1 bl.2 n6.1 d.2) λd=>ae y6 (ae y7 (ae y8 (ae y9 (ae rN (ae sD (ae vj (ae vk (ae vm (opt (cg ((n8,1,d.1),(n3,d.2,n2),n9)) λd=>ret (Sum.inl d)) no) no) no) no) no) no) no) no) no)))))) no) (ae y1 (opt (gU bk.1 bk.2.1 bk.2.2.1 n5.1 n5.2.1 n5.2.2.1 n16.1 n16.2.1 n16.2.2 n24.2.1) λd=>let ba:=d.1.1;let n21:=ba.2.2;let n20:=ba.2.1;ae y0 (ae y3 (opt (mu n2.1 ba.1 n20 n21 n17.2.2 d.2) λd=>ae (d.1.2!=0) (ae y6 (ae y7 (ae y8 (ae y9 (ae rN (ae sD (ae vj (ae vk (ae vm (opt (aY (n8,(n3,d.2,n2),n9)) λaj=>ret (Sum.inl ((n3,d.2,n2),aj))) no) no) no) no) no) no) no) no) no) (ae y6 (ae y7 (ae y8 (ae y9 (ae rN (ae sD (ae vj (ae vk (ae vm (opt (cg ((n8,3,d.1.1),(n3,d.2,n2),n9)) λd=>ret (Sum.inl d)) no) no) no) no) no) no) no) no) no)) (ae y4 (opt (mu n2.1 ba.1 n20 n21 n17.2.1 d.2) λd=>ae (d.1.2!=0) (ae y6 (ae y7 (ae y8 (ae y9 (ae rN (ae sD (ae vj (ae vk (ae vm (opt (aY (n8,(n3,d.2,n2),n9)) λaj=>ret (Sum.inl ((n3,d.2,n2),aj))) no) no) no) no) no) no) no) no) no) (ae y6 (ae y7 (ae y8 (ae y9 (ae rN (ae sD (ae vj (ae vk (ae vm (opt (cg ((n8,3,d.1.1),(n3,d.2,n2),n9)) λd=>ret (Sum.inl d)) no) no) no) no) no) no) no) no) no)) (ae y2 (opt (mu n2.1 ba.1 n20 n21 n17.1 d.2) λd=>ae (d.1.2!=0) (ae y6 (ae y7 (ae y8 (ae y9 (ae rN (ae sD (ae vj (ae vk (ae vm (opt (aY (n8,(n3,d.2,n2),n9)) λaj=>ret (Sum.inl ((n3,d.2,n2),aj))) no) no) no) no) no) no) no) no) no) (ae y6 (ae y7 (ae y8 (ae y9 (ae rN (ae sD (ae vj (ae vk (ae vm (opt (cg ((n8,3,d.1.1),(n3,d.2,n2),n9)) λd=>ret (Sum.inl d)) no) no) no) no) no) no) no) no) no)) (ae y1 (opt (mu n2.1 ba.1 n20 n21 n6.2.2.1 d.2) λd=>ae (d.1.2!=0) (ae y6 (ae y7 (ae y8 (ae y9 (ae rN (ae sD (ae vj (ae vk (ae vm (opt (aY (n8,(n3,d.2,n2),n9)) λaj=>ret (Sum.inl ((n3,d.2,n2),aj))) no) no) no) no) no) no) no) no) no) (ae y6 (ae y7 (ae y8 (ae y9 (ae rN (ae sD (ae vj (ae vk (ae vm (opt (cg ((n8,3,d.1.1),(n3,d.2,n2),n9)) λd=>ret (Sum.inl d)) no) no) no) no) no) no) no) no) no)) (ae y5 (opt (mu n2.1 ba.1 n20 n21 n6.2.1 d.2) λd=>ae (d.1.2!=0) (ae y6 (ae y7 (ae y8 (ae y9 (ae rN (ae sD (ae vj (ae vk (ae vm (opt (aY (n8,(n3,d.2,n2),n9)) λaj=>ret (Sum.inl ((n3,d.2,n2),aj))) no) no) no) no) no) no) no) no) no) (ae y6 (ae y7 (ae y8 (ae y9 (ae rN (ae sD (ae vj (ae vk (ae vm (opt (cg ((n8,3,d.1.1),(n3,d.2,n2),n9)) λd=>ret (Sum.inl d)) no) no) no) no) no) no) no) no) no)) (opt (mu n2.1 ba.1 n20 n21 n6.1 d.2) λd=>ae (d.1.2!=0) (ae y6 (ae y7 (ae y8 (ae y9 (ae rN (ae sD (ae vj (ae vk (ae vm (opt (aY (n8,(n3,d.2,n2),n9)) λaj=>ret (Sum.inl ((n3,d.2,n2),aj))) no) no) no) no) no) no) no) no) no) (ae y6 (ae y7 (ae y8 (ae y9 (ae rN (ae sD (ae vj (ae vk (ae vm (opt (cg ((n8,3,d.1.1),(n3,d.2,n2),n9)) λd=>ret (Sum.inl d)) no) no) no) no) no) no) no) no) no))))))) no) (ae y2 (ae y6 (ae y7 (ae y8 (ae y9 (ae rN (ae sD (ae vj (ae vk (ae vm (opt (wN (bk,x.2)) λd=>ret (Sum.inl d)) no) no) no) no) no) no) no) no) no) (ae y4 (ae y6 (ae y7 (ae y8 (ae y9 (ae rN (ae sD (ae vj (ae vk (ae vm (opt (sK (bk,x.2)) λd=>ret (Sum.inl d)) no) no) no) no) no) no) no) no) no) (ae y6 (ae y7 (ae y8 (ae y9 (ae rN (ae sD (ae vj (ae vk (ae vm (opt (AU (bk,x.2)) λd=>ret (Sum.inl d)) no) no) no) no) no) no) no) no) no)))))))
def wO:=λx=>(Lf ur lZ mA Du nP ln Bp db qH nR ux x).val
theorem auc:∀AT pU iM nT cg gU mu aY wN sK AU,D1 [Wd AT,GU pU,HZ iM,akN nT,K8 cg,FF gU,agO mu,mQ aY,Pw wN,K' sK,Wi AU] [0,10] 78 wM YF λb=>Lf AT pU iM nT cg gU mu aY wN sK AU b:=λ_ _ _ _ _ _ _ _ _ _ _ b=>by kernel_rfl
theorem aud [ax]:SC (YG wO):=s0 (.c aqT (.c aaT (.c VF (.c aCU (.c afx (.c RR (.c azz (.c qA (.c alL (.c afz (.c aqX (.nil _)))))))))))) (auc ur lZ mA Du nP ln Bp db qH nR ux)
def jH:=qa (pr (cu F9 (cu Ou ada)) (cd ac9 λb0=>(c uN (cl (cl (gs b0.b fX) nil) nil))))
def rJ:=qe (res (pr ai (pl (cu eW (c arq aL2)) nil)))
abbrev sL:=rJ.B
abbrev sM:=jH.B->Option sL
def CS (g:sM):Ct:=(83,FC jH (lf rJ) g)
def cO:=qs (st (dp (us 3 (c ai (cu aIw (cu aAw (cu ang (us 2 (c ai (us 12 (c aKX (c ai (cl ai (us 74 nil)))))))))))) λv=>(pl (c (so ac9) (c ck (c (so (cl (gs v.b.1 fX) nil)) aRB))) aAB)))
def Px:=qs (st (pr (us 3 (c ai (cu aIw (cu aAw (cu ang (us 2 (c ai (us 12 (c aKX (c ai (c ai (cl ab (us 73 nil))))))))))))) (pl (c (so ac9) (c ck (c Y0 aRB))) aAB)))
abbrev fI:=((Int×Int×Nat×Int×Int×Bool)×qP×Bool×(NI×NI×NI×NI×NI×NI×NI×NI×NI×NI×NI)×NI)
def zz {ρ:Type}(x:fI)(K:AX->St->Option ρ):Option ρ:=(λd=>K (.ex 0) (Px.em (d.1,d.2.1,d.b.1,(d.1.b.1,d.b.2.1),d.c))) x
def qI (d:cO.B):PL cO fI:=let n1:=d.1.2.2;let n2:=n1.2.2;let y0:=decide (n2<n1.2.1);ae y0 (ae (aX n2 n1.1) (ae (decide (d.2.2.2.1.1 (Int.toNat n2)<=d.1.1)) (ret (Sum.inl ((d.1.1,n2,n1.1,n1.2.1,wI (n2+1)),d.2))) (ret (Sum.inl ((d.1.1,d.1.2.1,n1.1,n1.2.1,wI (n2+1)),d.2)))) no) (ret (Sum.inr ((d.1.1,d.1.2.1,n1.1,n1.2.1,n2,y0),d.2)))
def qJ:=bD (qI) 2000
def dL:=qs aSb
def Py:=qs (st (pr (us 4 (cu aIw (cu aAw (us 8 (cu (app 5 3) (cu (app 6 3) (cu (app 7 4) (cu (app 8 4) (c ai (us 62 (c ai (cu Ou (cu F9 (cu F9 (cu aQ6 (c ai (c ai (c (ac (LA (pu (nat 7) (pl (ok' hole) A9)))) (c ai (c ai (cl (ac (LA (pu uM (pl (ok' hole) A9)))) (us 7 nil)))))))))))))))))))))) (pl (c (so ac9) (c ck (c Y0 (cu auC (cu YU (c wZ (c wZ (c uQ (cl uQ nil))))))))) aAB)))
abbrev fJ:=((Int×Int×Nat×Int×Int×Nat)×(Int×Nat)×Bool×awr×Lx×Lx×aEK×Int×Int×Int×Int)
def zA {ρ:Type}(x:fJ)(K:AX->St->Option ρ):Option ρ:=(λd=>K .nrm (Py.em ((d.1.1,d.1.1,d.1.2.1,d.1.1,d.1.b),(d.2.1.1,d.1.2.1,d.2.1.2),d.b))) x
def qK (aB:bN)(d:dL.B):Pg fJ:=let ba:=d.2.2.1;let n6:=d.2.1.1;let n3:=d.2.2.2;let n7:=n3.2.1;let n2:=d.2.1.2;let n1:=n3.2.2;let n5:=n1.2.2;let aS:=n5.2.1;let n8:=n5.2.2;let n4:=n1.2.1;let bk:=n4.2.1;let n9:=n4.2.2;let y0:=aX d.1 4;let y1:=d.1==1;let y2:=d.1==3;let y3:=d.1==2;ae y0 (ae y2 (opt (aB n2.1 n9.2 30 ba) λaj=>ae y0 (ae y2 (ret ((d.1,n2.1,3,n9.2,aj.1,3),(n6,n2.2),aj.2,n3.1,n7,n1.1,n4,n5.1,aS,n8.1,aj.1)) (ae y3 (ret ((d.1,n2.1,3,n9.2,aj.1,2),(n6,n2.2),aj.2,n3.1,n7,n1.1,n4,n5.1,aS,aj.1,n8.2)) (ae y1 (ret ((d.1,n2.1,3,n9.2,aj.1,1),(n6,n2.2),aj.2,n3.1,n7,n1.1,n4,n5.1,aj.1,n8)) (ret ((d.1,n2.1,3,n9.2,aj.1,0),(n6,n2.2),aj.2,n3.1,n7,n1.1,n4,aj.1,n5.2))))) no) (ae y3 (opt (aB n2.1 n9.1 30 ba) λaj=>ae y0 (ae y2 (ret ((d.1,n2.1,2,n9.1,aj.1,3),(n6,n2.2),aj.2,n3.1,n7,n1.1,n4,n5.1,aS,n8.1,aj.1)) (ae y3 (ret ((d.1,n2.1,2,n9.1,aj.1,2),(n6,n2.2),aj.2,n3.1,n7,n1.1,n4,n5.1,aS,aj.1,n8.2)) (ae y1 (ret ((d.1,n2.1,2,n9.1,aj.1,1),(n6,n2.2),aj.2,n3.1,n7,n1.1,n4,n5.1,aj.1,n8)) (ret ((d.1,n2.1,2,n9.1,aj.1,0),(n6,n2.2),aj.2,n3.1,n7,n1.1,n4,aj.1,n5.2))))) no) (ae y1 (opt (aB n2.1 bk 30 ba) λaj=>ae y0 (ae y2 (ret ((d.1,n2.1,1,bk,aj.1,3),(n6,n2.2),aj.2,n3.1,n7,n1.1,n4,n5.1,aS,n8.1,aj.1)) (ae y3 (ret ((d.1,n2.1,1,bk,aj.1,2),(n6,n2.2),aj.2,n3.1,n7,n1.1,n4,n5.1,aS,aj.1,n8.2)) (ae y1 (ret ((d.1,n2.1,1,bk,aj.1,1),(n6,n2.2),aj.2,n3.1,n7,n1.1,n4,n5.1,aj.1,n8)) (ret ((d.1,n2.1,1,bk,aj.1,0),(n6,n2.2),aj.2,n3.1,n7,n1.1,n4,aj.1,n5.2))))) no) (opt (aB n2.1 n4.1 30 ba) λaj=>ae y0 (ae y2 (ret ((d.1,n2.1,0,n4.1,aj.1,3),(n6,n2.2),aj.2,n3.1,n7,n1.1,n4,n5.1,aS,n8.1,aj.1)) (ae y3 (ret ((d.1,n2.1,0,n4.1,aj.1,2),(n6,n2.2),aj.2,n3.1,n7,n1.1,n4,n5.1,aS,aj.1,n8.2)) (ae y1 (ret ((d.1,n2.1,0,n4.1,aj.1,1),(n6,n2.2),aj.2,n3.1,n7,n1.1,n4,n5.1,aj.1,n8)) (ret ((d.1,n2.1,0,n4.1,aj.1,0),(n6,n2.2),aj.2,n3.1,n7,n1.1,n4,aj.1,n5.2))))) no)))) no
def lB (d:dL.B):Option fJ:=(qK aV d).val
def cP:=qs aSb
def Pz:=qs (st (pr (us 4 (cu aIw (cu aAw (us 8 (cu (app 5 3) (cu (app 6 3) (cu (app 7 4) (cu (app 8 4) (c ai (us 49 aQH)))))))))) (pl (c (so ac9) (c ck (c Y0 (cu auC (cu YU (c wZ (c wZ (c uQ (cl uQ nil))))))))) aAB)))
abbrev fK:=((Int×Bool)×qP×Bool×awr×Lx×Lx×aEK×Int×Int×Int×Int)
def zB {ρ:Type}(x:fK)(K:AX->St->Option ρ):Option ρ:=(λd=>K (.ex 2) (Pz.em ((d.1.1,d.1),d.2))) x
def qL (Gn:LT dL fJ)(d:cP.B):PL cP fK:=let n5:=d.2.1;let n2:=d.2.2;let n6:=n2.2.1;let n4:=n2.2.2.1;let n1:=n2.2.2.2;let n7:=n1.2.2;let n3:=n1.2.1;let n9:=n3.2.1;let n8:=n3.2.2;let y0:=aX d.1 4;let y1:=d.1==1;let y2:=d.1==3;let y3:=d.1==2;let y4:=decide (d.1<4);let y5:=wI (0-n3.1);let y6:=wI (0-n9);let y7:=wI (0-n8.1);let y8:=wI (0-n8.2);ae y4 (ae (decide (n3.1<0)) (ae y0 (ae y2 (ae y0 (ae y2 (opt (Gn (d.1,n5,n2.1,n6,n4,n1.1,(n3.1,n9,n8.1,y8),n7)) λd=>ret (Sum.inl (wI (d.1.1+1),(d.2.1.1,d.1.2.1,d.2.1.2),d.2.2))) (ae y3 (opt (Gn (d.1,n5,n2.1,n6,n4,n1.1,(n3.1,n9,y8,n8.2),n7)) λd=>ret (Sum.inl (wI (d.1.1+1),(d.2.1.1,d.1.2.1,d.2.1.2),d.2.2))) (ae y1 (opt (Gn (d.1,n5,n2.1,n6,n4,n1.1,(n3.1,y8,n8),n7)) λd=>ret (Sum.inl (wI (d.1.1+1),(d.2.1.1,d.1.2.1,d.2.1.2),d.2.2))) (opt (Gn (d.1,n5,n2.1,n6,n4,n1.1,(y8,n3.2),n7)) λd=>ret (Sum.inl (wI (d.1.1+1),(d.2.1.1,d.1.2.1,d.2.1.2),d.2.2)))))) no) (ae y3 (ae y0 (ae y2 (opt (Gn (d.1,n5,n2.1,n6,n4,n1.1,(n3.1,n9,n8.1,y7),n7)) λd=>ret (Sum.inl (wI (d.1.1+1),(d.2.1.1,d.1.2.1,d.2.1.2),d.2.2))) (ae y3 (opt (Gn (d.1,n5,n2.1,n6,n4,n1.1,(n3.1,n9,y7,n8.2),n7)) λd=>ret (Sum.inl (wI (d.1.1+1),(d.2.1.1,d.1.2.1,d.2.1.2),d.2.2))) (ae y1 (opt (Gn (d.1,n5,n2.1,n6,n4,n1.1,(n3.1,y7,n8),n7)) λd=>ret (Sum.inl (wI (d.1.1+1),(d.2.1.1,d.1.2.1,d.2.1.2),d.2.2))) (opt (Gn (d.1,n5,n2.1,n6,n4,n1.1,(y7,n3.2),n7)) λd=>ret (Sum.inl (wI (d.1.1+1),(d.2.1.1,d.1.2.1,d.2.1.2),d.2.2)))))) no) (ae y1 (ae y0 (ae y2 (opt (Gn (d.1,n5,n2.1,n6,n4,n1.1,(n3.1,n9,n8.1,y6),n7)) λd=>ret (Sum.inl (wI (d.1.1+1),(d.2.1.1,d.1.2.1,d.2.1.2),d.2.2))) (ae y3 (opt (Gn (d.1,n5,n2.1,n6,n4,n1.1,(n3.1,n9,y6,n8.2),n7)) λd=>ret (Sum.inl (wI (d.1.1+1),(d.2.1.1,d.1.2.1,d.2.1.2),d.2.2))) (ae y1 (opt (Gn (d.1,n5,n2.1,n6,n4,n1.1,(n3.1,y6,n8),n7)) λd=>ret (Sum.inl (wI (d.1.1+1),(d.2.1.1,d.1.2.1,d.2.1.2),d.2.2))) (opt (Gn (d.1,n5,n2.1,n6,n4,n1.1,(y6,n3.2),n7)) λd=>ret (Sum.inl (wI (d.1.1+1),(d.2.1.1,d.1.2.1,d.2.1.2),d.2.2)))))) no) (ae y0 (ae y2 (opt (Gn (d.1,n5,n2.1,n6,n4,n1.1,(n3.1,n9,n8.1,y5),n7)) λd=>ret (Sum.inl (wI (d.1.1+1),(d.2.1.1,d.1.2.1,d.2.1.2),d.2.2))) (ae y3 (opt (Gn (d.1,n5,n2.1,n6,n4,n1.1,(n3.1,n9,y5,n8.2),n7)) λd=>ret (Sum.inl (wI (d.1.1+1),(d.2.1.1,d.1.2.1,d.2.1.2),d.2.2))) (ae y1 (opt (Gn (d.1,n5,n2.1,n6,n4,n1.1,(n3.1,y5,n8),n7)) λd=>ret (Sum.inl (wI (d.1.1+1),(d.2.1.1,d.1.2.1,d.2.1.2),d.2.2))) (opt (Gn (d.1,n5,n2.1,n6,n4,n1.1,(y5,n3.2),n7)) λd=>ret (Sum.inl (wI (d.1.1+1),(d.2.1.1,d.1.2.1,d.2.1.2),d.2.2)))))) no)))) no) (opt (Gn d) λd=>ret (Sum.inl (wI (d.1.1+1),(d.2.1.1,d.1.2.1,d.2.1.2),d.2.2)))) (ret (Sum.inr ((d.1,y4),d.2)))
def qM:=bD (qL lB) 2000
def sN (iL:rZ)(mz:HO)(ae8:JY)(eu:wj)(bq:gQ)(S8:sf)(dA:LT cO fI)(oV:LT cP fK)(x:jH.B):Pg sL:=let n8:=x.2.1.2.2;ae (Nat.beq n8 n8) (opt (dA ((x.1.2, -1,n8,Int.ofNat n8,0),x.2.1,x.2.2.1,x.2.2.2,x.1.1)) λd=>let n16:=d.1.2;let n7:=d.2.2.2.1;let n2:=n7.2.2.2;let n9:=n2.2.2.2;let y0:=Int.toNat n16.1;ae (decide (n16.1<0)) (ret (4,d.2.2.1,n16.2.1,n7)) (ae (aX n16.1 d.2.1.2.2) (opt (iL d.2.2.2.2 d.1.1 d.2.2.1) λaj=>let n5:=aj.1.2.2.2.2;let bk:=n5.2.2.2;opt (mz n5.2.1 n5.2.2.1 bk.1 (n2.2.2.1 y0) (n9.1 y0) (n9.2.1 y0) aj.2) λaF=>opt (mz bk.2.1 bk.2.2.1 bk.2.2.2 (n9.2.2.1 y0) (n9.2.2.2.1 y0) (n9.2.2.2.2 y0) aF.2) λbx=>opt (ae8 (n7.2.1 y0) (n7.2.2.1 y0) (n2.1 y0) (n2.2.1 y0)) λcv=>opt (eu aj.1.2.1 aj.1.2.2.1 aj.1.2.2.2.1 n5.1 cv.1 cv.2.1 cv.2.2.1 cv.2.2.2 bx.2) λdN=>opt (oV (1,d.2.1,dN.2,(n16.2.1,n7),aF.1,bx.1,dN.1,1073741824,0,0,0)) λd=>let n17:=d.2.1.2.2;let n1:=d.2.2.2;let ba:=n1.1.2;let aS:=n1.2.2.2.2;let n3:=ba.2.2.2.2;let n15:=n3.2.2.2;opt (bq aS.1 aS.2.1 aS.2.2.1 aS.2.2.2 d.2.2.1) λcL=>ae (Nat.beq n17 n17) (opt (S8 (d.2.1,cL.2,n1.2.1,n1.2.2.1,cL.1,ba)) λjW=>let bl:=jW.2.2.2;let n6:=jW.2.1;let n4:=bl.2.2.2;let bA:=n4.2.2.2;let y0:=n6*11+0;ae (true&&Nat.beq y0 (n17*11)&&true) (ae (true&&Nat.ble (0+y0) (n1.1.1*11+0)) (ret (0,jW.1,n1.1.1,λj=>bif true&&Nat.blt j (0+n6) then jW.2.2.1 j else ba.1 j,λj=>bif true&&Nat.blt j (0+n6) then bl.1 j else ba.2.1 j,λj=>bif true&&Nat.blt j (0+n6) then bl.2.1 j else ba.2.2.1 j,λj=>bif true&&Nat.blt j (0+n6) then bl.2.2.1 j else ba.2.2.2.1 j,λj=>bif true&&Nat.blt j (0+n6) then n4.1 j else n3.1 j,λj=>bif true&&Nat.blt j (0+n6) then n4.2.1 j else n3.2.1 j,λj=>bif true&&Nat.blt j (0+n6) then n4.2.2.1 j else n3.2.2.1 j,λj=>bif true&&Nat.blt j (0+n6) then bA.1 j else n15.1 j,λj=>bif true&&Nat.blt j (0+n6) then bA.2.1 j else n15.2.1 j,λj=>bif true&&Nat.blt j (0+n6) then bA.2.2.1 j else n15.2.2.1 j,λj=>bif true&&Nat.blt j (0+n6) then bA.2.2.2 j else n15.2.2.2 j)) no) no) no) no)) no
def jI:=λx=>(sN kQ tM zO j9 cX jE qJ qM x).val
abbrev gI:=rZ×HO×JY×wj×bN×gQ×lx×sf×(LT cO fI)×(LT dL fJ)×(LT cP fK)
def jJ (p:gI):KK:=⟨[EO p.1,T7 p.2.1,aej p.b.1,Dl p.b.2.1,eJ p.c.1,mi p.c.2.1,qj p.c.b.1,CL p.c.b.2.1],⟨[⟨3,(0::1::2::7::8::rg 10 12 (rg 25 74 [])),[]⟩,⟨15,(rg 0 4 (rg 6 8 (rg 19 80 []))),[]⟩],[fg 3 3 cO zz p.d.1,fg 15 3 cP zB p.d.b],[1,2],[⟨⟨19,(rg 0 4 (rg 6 8 (rg 19 80 []))),[]⟩,fg 19 3 dL zA p.d.2.1⟩],(some ⟨0,(rg 0 8 (rg 9 90 [])),[]⟩)⟩,3,83⟩
theorem Nq (p:gI):LI (jJ p) 3 cO zz (qI):=λ_ d c K=>by kernel_rfl
theorem Nr (p:gI):JI (jJ p) 19 dL zA (qK p.c.1):=λ_ d K=>by kernel_rfl
theorem Ns (p:gI):LI (jJ p) 15 cP zB (qL p.d.2.1):=λ_ d c K=>by kernel_rfl
theorem S9 (p:gI):D2 (jJ p) jH (lf rJ) λb=>sN p.1 p.2.1 p.b.1 p.b.2.1 p.c.2.1 p.c.b.2.1 p.d.1 p.d.b b:=λb=>by kernel_rfl
abbrev jK:gI:=(kQ,tM,zO,j9,aV,cX,fE,jE,qJ,lB,qM)
theorem Ta [ax]:SC (CS jI):=sc (kS (k:=jJ jK) (.c KX (.c aec (.c asn (.c IM (.c eZ (.c nE (.c zp (.c SR (.nil _))))))))) [3,15] [19] ⟨kL (Nq jK),⟨kL (Ns jK),trivial⟩⟩ ⟨kJ ⟨19,(rg 0 4 (rg 6 8 (rg 19 80 []))),[]⟩ (Nr jK),trivial⟩ (S9 jK))
def od:=qa (pr (cu dy YX) (cd oy λb0=>(c jT (c lk (c (cl (gs b0.c.1 lg) nil) (cd oR λb4=>(cd na λb5=>(cd nc λb6=>(cd nd λb7=>(cd nh λb8=>(cd ni λb9=>(c kC (cd pX λpQ=>(c (cl (gs b0.e jk) nil) (c (cl (gs b4.b.1 aA) nil) (c (cl (gs b5.b.1 aA) nil) (c (cl (gs b6.b.1 aA) nil) (c (cl (gs b7.b.1 aA) nil) (c (cl (gs b8.b.1 aA) nil) (c (cl (gs b9.b.1 aA) nil) (cl (cl (gs pQ.b fX) nil) nil)))))))))))))))))))))
def I':=qe (res (pu Th (pl (c (zC oy) (cu eW (cu eW (cu eW (cu eW (cu eW (cu eW (cu eW (cu eW (cu eW (cu eW (cl (zC pX) aGf)))))))))))) nil)))
def Ja:=qe (res (pu Th (pr (c (zC aMj) (cu eW (cu eW (cu eW (cu eW (cu eW (cu eW (cu eW (cu eW (cu eW (cu eW (cl (zC aL0) aGf)))))))))))) aAK)))
abbrev rP:=I'.B⊕Ja.B
def Sa:rP->T:=ls (lf I') (lf Ja)
abbrev FY:=od.B->Option rP
def Sb (g:FY):Ct:=(75,FC od Sa g)
def eX:=qs (st (dp (cu dy (us 3 (cu L3 (us 109 (c (ac aLO) (c ai aK2)))))) λv=>(pl (cd (so aMj) λb0=>(c ky (c kD (c (so (cl (gs v.1 lg) nil)) (cd (so oR) λb4=>(cd (so na) λb5=>(cd (so nc) λb6=>(cd (so nd) λb7=>(cd (so nh) λb8=>(cd (so ni) λb9=>(c jL (c (so aL0) (c (so (cl (gs b0.d.c.b jk) nil)) (c (so (cl (gs b4.b.1 aA) nil)) (c (so (cl (gs b5.b.1 aA) nil)) (c (so (cl (gs b6.b.1 aA) nil)) (c (so (cl (gs b7.b.1 aA) nil)) (c (so (cl (gs b8.b.1 aA) nil)) (c (so (cl (gs b9.b.1 aA) nil)) aGr))))))))))))))))))) aQS)))
def ahZ:=qs (st (pr (cu dy (us 3 (cu L3 (us 109 (c (ac aLO) aQU))))) (pl (c (so aMj) (c ky (c kD (c lH (c (so oR) (c (so na) (c (so nc) (c (so nd) (c (so nh) (c (so ni) (c jL (c (so aL0) (c ov (c uR (c uR (c uR (c uR (c uR (c uR aGr))))))))))))))))))) aQS)))
abbrev lF:=((Nat×Int×Int×Bool)×(Ty7×Bool×ZL×(NI×NI)×Nat×afV×Int×Lx×Bool×Bool×Int×Int×Int×afU×Nat)×vO×Jk×(NI×NI×NI×NI×NI×NI×NI×NI)×bH×bH×bH×bH×bH×bH×Jf×qP×aNB×eB×eB×eB×eB×eB×eB×awr×Nat×NI×NI×NI×NI×NI×NI×NI×NI×NI×NI×NI)
def LW {ρ:Type}(x:lF)(K:AX->St->Option ρ):Option ρ:=(λd=>K (.ex 0) (ahZ.em (d.1,d.2.1,d.b.1,d.b.2.1,(d.1.1,d.c.1),d.c.2.1,d.c.b.1,d.c.b.2.1,d.d.1,d.d.2.1,d.d.b.1,d.d.b.2.1,d.d.c.1,(d.2.1.d.c.b,d.d.c.2.1),(d.c.2.1.b.1,d.d.c.b.1),(d.c.b.1.b.1,d.d.c.b.2.1),(d.c.b.2.1.b.1,d.e.1),(d.d.1.b.1,d.e.2.1),(d.d.2.1.b.1,d.e.b.1),(d.d.b.1.b.1,d.e.b.2.1),d.e.c))) x
def Cp (xF:lW)(d:eX.B):PL eX lF:=let ba:=d.2.2;let aS:=d.2.1;let n9:=d.1.2;let n4:=ba.2.2;let n8:=n4.1.2.2.2;let n7:=n4.2.2.2;let bk:=n7.2.2;let n2:=bk.2.2;let bl:=n2.2.2;let n5:=bl.2.2.2;let n3:=n5.2.2.2.2.2.2;let n6:=n3.2.2.2.2.2;let n1:=(d.1.1,n9.1,wI (n9.2+1));let y0:=0+Int.toNat n9.2;let y1:=decide (n9.2<n9.1);ae y1 (ae (aX n9.2 d.1.1) (ae (Nat.beq n2.2.1.2.2 n2.2.1.2.2) (opt (xF ((aS.2.2.1,n4.1.1 y0,n4.1.2.1 y0,(n4.1.2.2.1 y0,n8.1 y0,n8.2.1 y0),n8.2.2.1 y0,n8.2.2.2.1 y0,n8.2.2.2.2 y0),n2.2.1,aS.2.1,λj=>n3.1 (0+j),λj=>n3.2.1 (0+j),λj=>n3.2.2.1 (0+j),λj=>n3.2.2.2.1 (0+j),λj=>n3.2.2.2.2.1 (0+j),λj=>n6.1 (0+j),λj=>n6.2.1 (0+j),λj=>n6.2.2.1 (0+j),λj=>n6.2.2.2.1 (0+j),λj=>n6.2.2.2.2.1 (0+j),λj=>n6.2.2.2.2.2 (0+j))) λaj=>sm aj (λaF=>ret (Sum.inl (n1,(aS.1,aF.2.2,aS.2.2),ba.1,ba.2.1,n4.1,n4.2.1,n4.2.2.1,n7.1,n7.2.1,bk.1,bk.2.1,n2.1,aF.2.1,bl))) (λaF=>ret (Sum.inl (n1,(aS.1,aF.1.2,aS.2.2),ba.1,ba.2.1,n4.1,n4.2.1,n4.2.2.1,n7.1,n7.2.1,bk.1,bk.2.1,n2.1,aF.1.1,bl.1,bl.2.1,bl.2.2.1,n5.1,n5.2.1,n5.2.2.1,n5.2.2.2.1,n5.2.2.2.2.1,aF.2)))) no) no) (ret (Sum.inr ((d.1.1,n9.1,n9.2,y1),d.2)))
def uL:=bD (Cp fa) 2000
def xR (sV:zj)(mI:tv)(aB:bN)(dm:zU)(aKv:aj3)(cH:w9)(bO:fw)(Xd:u3)(dA:LT eX lF)(x:od.B):Pg rP:=let bl:=x.2.1;let n8:=x.1.2.2.2;let n7:=bl.2.2;let n5:=x.2.2.2.2.2;let n2:=n7.2.2;let n6:=n2.2.2.2.2;let n15:=n6.2.2.2.2.2.2.2.2;let n1:=n5.2.2.2;let bA:=n1.2.2;let n4:=bA.2.2;let n9:=n4.2.2.2.2;let y0:=wI (n2.2.2.2.1+1);opt (sV n8.1 n8.2.1 n8.2.2 bl.2.1) λd=>opt (mI x.1.2.1 d.2) λaj=>opt (aB 10529810258 aj.1 30 aj.2) λaF=>let pA:=wI (d.1-aF.1);let y1:=wI (aF.1-d.1);ae (decide (wI (4*if y1>pA then y1 else pA)>aF.1)) (ret (Sum.inl ((bl.1,aF.2,n7.1,n7.2.1,n2.1,n2.2.1,n2.2.2.1,0,(0,0,0),n6.2),n4.1))) (opt (dm 2 aF.2 (cr n6.1.1 [n8.1,n6.1.1]) (cr n6.1.2.1 [n8.2.1,n6.1.2.1]) (cr n6.1.2.2 [n8.2.2,n6.1.2.2]) true) λd=>ae (y0 !=10) (ret (Sum.inl ((bl.1,d.2,n7.1,n7.2.1,n2.1,n2.2.1,n2.2.2.1,y0,d.1,n6.2),n4.1))) (opt (aKv d.1.1 d.1.2.1 d.1.2.2 d.2) λbx=>opt (cH n7.1 0 4 (cr bx.1.1 [bx.1.2.2.2,bx.1.2.2.1,bx.1.2.1,bx.1.1]) false) λcv=>opt (bO n7.2.1.1 n7.2.1.2 0 4 bx.2 bl.1.2.2.2.2.2.2.2.1 false) λdN=>ae (Nat.beq n4.1.2.2 n4.1.2.2) (opt (Xd ((cv,x.1.1),n4.1,dN.2,n9.2.2.2.2)) λcL=>let aS:=cL.2.2.2;let n3:=aS.2.2.2;let ba:=n3.2.2.2;ae (Nat.beq n2.1 n2.1) (ae (Nat.beq n15 n15) (ae (Nat.beq n5.1.2.2.1 n5.1.2.2.1) (ae (Nat.beq n5.2.1.2.2.1 n5.2.1.2.2.1) (ae (Nat.beq n5.2.2.1.2.2.1 n5.2.2.1.2.2.1) (ae (Nat.beq n1.1.2.2.1 n1.1.2.2.1) (ae (Nat.beq n1.2.1.2.2.1 n1.2.1.2.2.1) (ae (Nat.beq bA.1.2.2.1 bA.1.2.2.1) (opt (dA ((n2.1,Int.ofNat n2.1,0),(bl.1,cL.1.2,cv,dN.1,n2.1,n2.2.1,y0,d.1,n6.2.2),x.2.2.1,x.2.2.2.1,x.2.2.2.2.1,n5.1,n5.2.1,n5.2.2.1,n1.1,n1.2.1,bA.1,bA.2.1,(cL.1.1.1,cL.1.1.2,1),n4.2.1,n4.2.2.1,n4.2.2.2.1,n9.1,n9.2.1,n9.2.2.1,n9.2.2.2.1,(n4.1.2.2,n9.2.2.2.2),1,λj=>bif Nat.beq j 0 then cL.2.1 else cL.2.1,λj=>bif Nat.beq j 0 then cL.2.2.1 else cL.2.2.1,λj=>bif Nat.beq j 0 then aS.1 else aS.1,λj=>bif Nat.beq j 0 then aS.2.1 else aS.2.1,λj=>bif Nat.beq j 0 then aS.2.2.1 else aS.2.2.1,λj=>bif Nat.beq j 0 then n3.1 else n3.1,λj=>bif Nat.beq j 0 then n3.2.1 else n3.2.1,λj=>bif Nat.beq j 0 then n3.2.2.1 else n3.2.2.1,λj=>bif Nat.beq j 0 then ba.1 else ba.1,λj=>bif Nat.beq j 0 then ba.2.1 else ba.2.1,λj=>bif Nat.beq j 0 then ba.2.2 else ba.2.2)) λd=>let bk:=d.2.2.2.2.2.2.2.2.2.2.2.2;ret (Sum.inr ((d.2.1,bk.1),bk.2.2.2.2.2.2.2.2.2))) no) no) no) no) no) no) no) no) no))
def rQ:=λx=>(xR oi jg aV jl IS fN cQ eR uL x).val
abbrev xS:=zj×tv×bN×zU×aj3×w9×fw×u3×lW×(LT eX lF)
def FZ (p:xS):KK:=⟨[OH p.1,EH p.2.1,eJ p.b.1,HQ p.b.2.1,axD p.c.1,BO p.c.2.1,yA p.c.b.1,E7 p.c.b.2.1,xy p.d.1],⟨[⟨15,(1::2::3::rg 5 109 (rg 117 15 [])),[(1,[])]⟩],[fg 15 20 eX LW p.d.2],[11],[],(some ⟨0,(rg 0 132 []),[]⟩)⟩,20,75⟩
theorem afC (p:xS):LI (FZ p) 15 eX LW (Cp p.d.1):=λ_ d c K=>by kernel_rfl
theorem am5 (p:xS):D2 (FZ p) od Sa λb=>xR p.1 p.2.1 p.b.1 p.b.2.1 p.c.1 p.c.2.1 p.c.b.1 p.c.b.2.1 p.d.2 b:=λb=>by kernel_rfl
abbrev F1:xS:=(oi,jg,aV,jl,IS,fN,cQ,eR,fa,uL)
theorem am6 [ax]:SC (Sb rQ):=sc (kS (k:=FZ F1) (.c XN (.c MH (.c eZ (.c Mz (.c aJW (.c Gm (.c Dn (.c WW (.c GP (.nil _)))))))))) [15] [] ⟨kL (afC F1),trivial⟩ trivial (am5 F1))
def ahv:=qa (pl Fk nil)
def Sc:=qe aAG
def F2:=qe aRL
abbrev vL:=Sc.B⊕F2.B
def acD:vL->T:=ls (lf Sc) (lf F2)
def ahw:vL->T:=ls (λ_=>.fail) (lf F2)
abbrev Ru:=Int->Int->Int->Option vL
def ahx (g:Ru):Ct:=(32,FC ahv ahw (λb=>g b.1 b.2.1 b.b))
def ahy (cA:sX)(ew:TQ)(aq:bY)(dF:IJ)(gk:OF)(r8:ad5)(aD:cz)(x0:Int)(x1:Int)(x2:Int):Pg vL:=opt (cA x0 x1 x2) λd=>ae (!d) (ret (Sum.inl ())) (ae (decide (x0>850000000)) (ret (Sum.inl ())) (ae (decide (x0< -850000000)) (ret (Sum.inl ())) (opt (aq x0 3373259426 1800000000 false) λd=>opt (dF d.1 d.2) λaj=>opt (gk d.1 aj.2) λd=>opt (ew aj.1 aj.1 d.2) λaF=>opt (ew 7188036 aF.1 aF.2) λbx=>let y0:=wI (1073741824-bx.1);opt (r8 y0 bx.2) λcv=>opt (aD 6531212288 cv.1 30 cv.2) λdN=>opt (ew 6531212288 1066553788 dN.2) λcL=>opt (ew y0 cv.1 cL.2) λjW=>opt (aD cL.1 jW.1 30 jW.2) λpF=>opt (aq pF.1 3373259426 1800000000 pF.2) λnx=>opt (ew dN.1 d.1 nx.2) λd=>opt (aq d.1 3373259426 1800000000 d.2) λd=>ret (Sum.inr (x0,x1,x2,nx.1,d.1)))))
def BD:=λx0 x1 x2=>(ahy fO tL aU mG qd zL bp x0 x1 x2).val
theorem azW:∀cA ew aq dF gk r8 aD,D0 [xj cA,TR ew,cV aq,IK dF,OG gk,ad6 r8,fL aD] 32 ahv acD λb=>ahy cA ew aq dF gk r8 aD b.1 b.2.1 b.b:=λ_ _ _ _ _ _ _ b=>by kernel_rfl
theorem azX [ax]:SC (ahx BD):=sc (C' (R:=acD) (R':=ahw) (λd r h=>by rcases d with d|d<;>first|exact h|(have h:(none:Option nk)=some r:=h;cases h))<|k0 (.c BV (.c aiX (.c c9 (.c OE (.c XL (.c ase (.c gC (.nil _)))))))) (azW fO tL aU mG qd zL bp))
def ahz:=qa (pl fU nil)
def Sd:=qe aAG
def F3:=qe (res (pu (pw (cu (rc (cp 0 10)) aia)) (pu nil (cl aR8 nil))))
abbrev Hz:=Sd.B⊕F3.B
def acE:Hz->T:=ls (lf Sd) (lf F3)
def ahA:Hz->T:=ls (λ_=>.fail) (lf F3)
abbrev Rv:=Int->Option Hz
def ahB (g:Rv):Ct:=(33,FC ahz ahA (λb=>g b))
def Rw (x0:Int):Pg Hz:=ae (decide (x0<1000)) (ret (Sum.inl ())) (ae (decide (x0>100000)) (ret (Sum.inl ())) (ret (Sum.inr x0)))
def BE:=λx0=>(Rw x0).val
theorem azY:D0 [] 33 ahz acE λb=>Rw b:=λb=>by kernel_rfl
theorem azZ [ax]:SC (ahB BE):=sc (C' (R:=acE) (R':=ahA) (λd r h=>by rcases d with d|d<;>first|exact h|(have h:(none:Option nk)=some r:=h;cases h))<|k0 (.nil _) azY)
def acF:=qa (dp aQT λv=>(cl (cl (gs v.2.1 mE) nil) nil))
def PA:=qe (res (pu aQ9 (pu Xf nil)))
def D8:=qe (res (pu (pw (cu (rc (cp 1 37)) aia)) (pu Xf (cl aLP nil))))
abbrev yV:=PA.B⊕D8.B
def YH:yV->T:=ls (lf PA) (lf D8)
def acG:yV->T:=ls (λ_=>.fail) (lf D8)
abbrev Nt:=Int->Nat->NI->Bool->Option yV
def acH (g:Nt):Ct:=(34,sQ 1 [.i .i64] (FC acF acG (λb=>g b.1.1 b.1.2.1 b.2 b.1.b)))
def gW:=qs (st (dp (c ai (us 1 (xs 1 (us 3 (cu (app 1 37) (us 15 (c Tl (c ai aQp)))))))) λv=>(pl (c (so (cl (gs v.2.1.1 mE) nil)) aRF) nil)))
def LX:=qs (st (pu (us 4 (cu (ac auG) (cu (ac auz) (us 40 nil)))) (pl aib nil)))
def ah0:=qs (st (pr (c ai (us 1 (xs 1 (us 3 (cu (app 1 37) (us 15 (c Tl (c ai aQE)))))))) (pl (c HE aRF) nil)))
abbrev pg:=LX.B⊕((Int×(Nat×Bool)×Int×Int×Bool)×NI×NI×NI×(Nat->Bool)×NI×NI×NI)
def Wp {ρ:Type}(x:pg)(K:AX->St->Option ρ):Option ρ:=(Sum.elim (λd=>K .ret (LX.em d)) (λd=>K (.ex 0) (ah0.em (d.1,(d.1.2.1.1,d.2.1),d.b)))) x
def Ir (d:gW.B):PL gW pg:=let n4:=d.2.1;let n2:=d.2.2.2;let n1:=d.1.2;let n3:=n1.2.2;let y0:=Int.toNat n3;let y1:=0+y0*6+6;let y2:=decide (n3<n1.2.1);ae y2 (ae (aX n3 n1.1.1) (ae (decide (n4 y0<1)) (ret (Sum.inr (Sum.inl (n1.1.1,n4)))) (ae (decide (n4 y0>1099511627776)) (ret (Sum.inr (Sum.inl (n1.1.1,n4)))) (ae (aX n3 6) (ae (Nat.ble y1 36&&Nat.ble y1 37) (ret (Sum.inl ((d.1.1,n1.1,n1.2.1,wI (n3+1)),n4,λj=>bif Nat.beq j y0 then 0 else d.2.2.1 j,λj=>bif Nat.beq j y0 then 0 else n2.1 j,λj=>bif Nat.beq j y0 then false else n2.2.1 j,λj=>bif Nat.beq j y0 then n3 else n2.2.2.1 j,λj=>bif Nat.beq j y0 then n4 y0 else n2.2.2.2.1 j,λj=>bif Nat.beq j y0 then d.1.1 else n2.2.2.2.2 j))) no) no))) no) (ret (Sum.inr (Sum.inr ((d.1.1,n1.1,n1.2.1,n3,y2),d.2))))
def Is:=bD (Ir) 2000
def Nu (dA:LT gW pg)(x0:Int)(x1:Nat)(x2:Nat->Int)(w0:Bool):Pg yV:=ae (decide (x0<0)) (ret (Sum.inl ())) (ae (decide (x0>100)) (ret (Sum.inl ())) (ae (Int.ofNat x1 !=6) (ret (Sum.inl ())) (ae (Nat.beq x1 x1) (opt (dA ((x0,(x1,w0),Int.ofNat x1,0),x2,λx=>0,λx=>0,λx=>false,λx=>0,λx=>0,λx=>0)) λx=>sum x (λd=>ret (Sum.inl ())) λd=>ret (Sum.inr d.2.2)) no)))
def yW:=λx0 x1 x2 w0=>(Nu Is x0 x1 x2 w0).val
abbrev EW:=(LT gW pg)
def Nv (p:EW):KK:=⟨[],⟨[⟨5,(1::3::4::5::rg 7 15 (rg 25 7 (rg 34 12 [32,33]))),[]⟩],[fg 5 1 gW Wp p],[],[],(some ⟨0,(rg 0 4 (rg 6 40 [])),[]⟩)⟩,1,34⟩
theorem am7 (p:EW):LI (Nv p) 5 gW Wp (Ir):=λ_ d c K=>by kernel_rfl
theorem awb (p:EW):D2 (Nv p) acF YH λb=>Nu p b.1.1 b.1.2.1 b.2 b.1.b:=λb=>by kernel_rfl
abbrev Nw:EW:=Is
theorem awc [ax]:SC (acH yW):=sc (Sound.nil 1 [.i .i64]<|C' (R:=YH) (R':=acG) (λd r h=>by rcases d with d|d<;>first|exact h|(have h:(none:Option nk)=some r:=h;cases h))<|kS (k:=Nv Nw) (.nil _) [5] [] ⟨kL (am7 Nw),trivial⟩ trivial (awb Nw))
def acI:=qa (pl wY nil)
def PC:=qe aAG
def PD:=qe (res (pu (pw (cu (rc (cp 0 3)) aia)) (pu nil (c (c gi (cl gi (cu (gc (dG (pu A9 (pu xW (pu Tk (pu mD ek)))))) nil))) aRM))))
abbrev EX:=PC.B⊕((Int×Int)×NI)
def YI:EX->T:=ls (lf PC) (λd=>lf PD (d.1,d.2,d.2,d.2,d.2,d.2,d.2,d.2,d.2,d.2,d.2,d.2))
def acJ:EX->T:=ls (λ_=>.fail) (λd=>lf PD (d.1,d.2,d.2,d.2,d.2,d.2,d.2,d.2,d.2,d.2,d.2,d.2))
abbrev Nx:=Int->Int->Option EX
def acK (g:Nx):Ct:=(35,FC acI acJ (λb=>g b.1 b.2))
def Ny (x0:Int)(x1:Int):Pg EX:=ae (decide (x0<1)) (ret (Sum.inl ())) (ae (decide (x0>64)) (ret (Sum.inl ())) (ae (decide (x1<1)) (ret (Sum.inl ())) (ae (decide (x1>1073741824)) (ret (Sum.inl ())) (ret (Sum.inr ((x0,x1),λx=>0))))))
def yX:=λx0 x1=>(Ny x0 x1).val
theorem awd:D0 [] 35 acI YI λb=>Ny b.1 b.2:=λb=>by kernel_rfl
theorem awe [ax]:SC (acK yX):=sc (C' (R:=YI) (R':=acJ) (λd r h=>by rcases d with d|d<;>first|exact h|(have h:(none:Option nk)=some r:=h;cases h))<|k0 (.nil _) awd)
def alM:=qa (pl fU nil)
def Wq:=qe aAG
def Wr:=qe (res (pu (pw (cu (rc (cp 0 8)) aia)) (pu nil (c (cu aT (cu aT (cu aT (cu aT (cu aT (cl gi (cu (gc (dG (pu A9 (pu xW (pu Tk (pu eY ek)))))) apF))))))) (cl apJ nil)))))
abbrev Lg:=Wq.B⊕(Int×NI)
def ahC:Lg->T:=ls (lf Wq) (λd=>lf Wr (d.1,d.2,d.2,d.2,d.2,d.2,d.2,d.2,d.2,d.2))
def alN:Lg->T:=ls (λ_=>.fail) (λd=>lf Wr (d.1,d.2,d.2,d.2,d.2,d.2,d.2,d.2,d.2,d.2))
abbrev Ws:=Int->Option Lg
def alO (g:Ws):Ct:=(36,FC alM alN (λb=>g b))
def Wt (x0:Int):Pg Lg:=ae (decide (x0<1)) (ret (Sum.inl ())) (ae (decide (x0>64)) (ret (Sum.inl ())) (ret (Sum.inr (x0,λx=>0))))
def D9:=λx0=>(Wt x0).val
theorem aC7:D0 [] 36 alM ahC λb=>Wt b:=λb=>by kernel_rfl
theorem aC8 [ax]:SC (alO D9):=sc (C' (R:=ahC) (R':=alN) (λd r h=>by rcases d with d|d<;>first|exact h|(have h:(none:Option nk)=some r:=h;cases h))<|k0 (.nil _) aC7)
def Wu:=qa (pl (cl (aa lI) nil) nil)
def alP:=qe (res (pu (pw (cu (rc auG) (cu (rc aQB) nil))) (pu nil nil)))
def aC9:=qe (res (pu (pw (cu (rc (cp 0 434)) aia)) (pu nil (c (c gi (c gi (c gi (c gi (c gi (c gi (c gi (c gi (c gi (c gi (c gi (c gi (c gi (c gi (c gi (c gi (c fq (c fq (c gi (c gi (c gi (c gi (c gi (c gi (c gi (c gi (c gb (c fq (c aK6 (cl fq (cu afX (cu afY (cu (gc (dG (pu rq7 (pu xW (pu Tk (pu uM ek)))))) (cu (gp 4 8) (cu (gp 5 8) (cu aIs (cu aIt (cu aIu (cu aIv (cu anh (cu aT (cu aT (cu ac3 (cu ac3 (cu ani (cu ac3 (cu aT (cu aT (cu aT (cu aT (cu ac3 (cu ac3 (cu ac3 (cu aT (cu aT (cu aT (cu auD (cu aT (cu aT (cu aT (cu aT (cu aT (cu aT (cu aT (cu aT (cu aT (cu (gc (dG (pu (nat 12) (pu xW (pu Tk (pu (nat 10) ek)))))) nil))))))))))))))))))))))))))))))))))))))))))))))))))))))))))))))))))) (c gJ (c aR8 (c (cl (ga (pu Tk lg)) nil) (c (cu aT (cu aT (cu aT (cu aT (cu aT (cl gi (cu (gc (dG (pu aws (pu xW (pu Tk (pu eY ek)))))) apF))))))) (c (cu aT (cu aT (cu aT (cu aT (cu aT (cl gi (cu (gc (dG (pu aAu (pu xW (pu Tk (pu eY ek)))))) apF))))))) (c (cu aT (cu aT (cu aT (cu aT (cu aT (cl gi (cu (gc (dG (pu aIk (pu xW (pu Tk (pu eY ek)))))) apF))))))) (c (cu aT (cu aT (cu aT (cu aT (cu aT (cl gi (cu (gc (dG (pu awt (pu xW (pu Tk (pu eY ek)))))) apF))))))) (c (cu aT (cu aT (cu aT (cu aT (cu aT (cl gi (cu (gc (dG (pu aAv (pu xW (pu Tk (pu eY ek)))))) apF))))))) (c (cu aT (cu aT (cu aT (cu aT (cu aT (cl gi (cu (gc (dG (pu aIl (pu xW (pu Tk (pu eY ek)))))) apF))))))) (c aLP (c (c gi (cl gi (cu (gc (dG (pu aIm (pu xW (pu Tk (pu mD ek)))))) nil))) (c aRG (c apJ (c apJ (c apJ (c apJ (c apJ (c apJ aRM))))))))))))))))))))))
abbrev afD:=alP.B⊕((Int×Int×Int×Int×Int×Int×Int×Int×Int×Int×Int×Int×Int×Int×Int×Int×NI×NI×Int×Int×Int×Int×Int×Int×Int×Int×Bool×NI×NI×NI)×aQf×Int×NI×Int×Int×Int×Int×Int×Int×aIi×(Int×Int)×NI×NI×NI×NI×NI×NI×NI)
def aDa:afD->T:=ls (lf alP) (λd=>lf aC9 (d.1,d.2.1,d.b.1,(d.b.2.1,d.b.2.1,d.b.2.1,d.b.2.1,d.b.2.1,d.b.2.1,d.b.2.1,d.b.2.1),d.c.1,d.c.2.1,d.c.b.1,d.c.b.2.1,d.d.1,d.d.2.1,d.d.b.1,d.d.b.2.1,(d.b.2.1,d.b.2.1,d.b.2.1,d.b.2.1,d.b.2.1,d.b.2.1,d.b.2.1,d.b.2.1,d.b.2.1,d.b.2.1),(d.d.c.1,d.d.c.1,d.d.c.1,d.d.c.1,d.d.c.1,d.d.c.1,d.d.c.1,d.d.c.1,d.d.c.1),(d.d.c.2.1,d.d.c.2.1,d.d.c.2.1,d.d.c.2.1,d.d.c.2.1,d.d.c.2.1,d.d.c.2.1,d.d.c.2.1,d.d.c.2.1),(d.d.c.b.1,d.d.c.b.1,d.d.c.b.1,d.d.c.b.1,d.d.c.b.1,d.d.c.b.1,d.d.c.b.1,d.d.c.b.1,d.d.c.b.1),(d.d.c.b.2.1,d.d.c.b.2.1,d.d.c.b.2.1,d.d.c.b.2.1,d.d.c.b.2.1,d.d.c.b.2.1,d.d.c.b.2.1,d.d.c.b.2.1,d.d.c.b.2.1),(d.e.1,d.e.1,d.e.1,d.e.1,d.e.1,d.e.1,d.e.1,d.e.1,d.e.1),(d.e.2.1,d.e.2.1,d.e.2.1,d.e.2.1,d.e.2.1,d.e.2.1,d.e.2.1,d.e.2.1,d.e.2.1),d.e.b,d.e.b,d.e.b,d.e.b,d.e.b,d.e.b,d.e.b,d.e.b,d.e.b,d.e.b,d.e.b))
abbrev Wv:=Wu.B->Option afD
def aq1 (g:Wv):Ct:=(9,FC Wu aDa g)
def aq2 (aKw:alm)(bV:kO)(aN:eL)(aNk:aqd)(az0:Ru)(az1:Rv)(awf:Nt)(awg:Nx)(yY:Ws)(x:Wu.B):Pg afD:=let n3:=x.2.2;let n5:=n3.2.2.1.2;let n1:=n3.2.2.2;let n6:=n1.2.2;let n4:=n1.1.2.2;let n2:=n6.2.2.2.2;let n7:=n2.2.2;opt (aKw x) λd=>ae (!d) (ret (Sum.inl ())) (opt bV λd=>opt (aN (λx=>0) false) λd=>opt (aNk 24 d.2 n6.1 false) λaj=>opt (az0 n7.1 n7.2.1 n7.2.2) λaF=>sm aF (λd=>no) (λbx=>opt (az1 x.1) λcv=>sm cv (λd=>no) (λdN=>opt (awf n3.2.1 6 (cr n1.1.1 [n4.2.2.2,n4.2.2.1,n4.2.1,n4.1,n1.1.2.1,n1.1.1]) false) λcL=>sm cL (λd=>no) (λjW=>opt (awg n2.2.1 n2.1) λpF=>sm pF (λd=>no) (λnx=>opt (yY n3.1) λku=>sm ku (λd=>no) (λuO=>opt (yY n3.1) λIQ=>sm IQ (λd=>no) (λKg=>opt (yY n3.1) λaCO=>sm aCO (λd=>no) (λYi=>opt (yY n3.1) λabR=>sm abR (λd=>no) (λYj=>opt (yY n3.1) λaCP=>sm aCP (λd=>no) (λakC=>opt (yY n3.1) λaoG=>sm aoG (λd=>no) (λakD=>ret (Sum.inr ((x.1,x.2.1,n3.1,n3.2.1,n3.2.2.1.1,n5.1,n5.2.1,n5.2.2.1,n5.2.2.2.1,n5.2.2.2.2,n1.1.1,n1.1.2.1,n4.1,n4.2.1,n4.2.2.1,n4.2.2.2,n1.2.1,n6.1,n6.2.1,n6.2.2.1,n6.2.2.2.1,n2.1,n2.2.1,n7.1,n7.2.1,n7.2.2,aj.2,d.1,aj.1),bx,dN,λx=>0,uO.1,Kg.1,Yi.1,Yj.1,akC.1,akD.1,jW,nx.1,uO.2,Kg.2,Yi.2,Yj.2,akC.2,akD.2,nx.2)))))))))))))
def Ea:=λx=>(aq2 zm dI bX Ug BD BE yW yX D9 x).val
abbrev aq3:=alm×kO×eL×aqd×Ru×Rv×Nt×Nx×Ws
def aDb (p:aq3):KK:=⟨[aln p.1,o7 p.2.1,ir p.b.1,aCd p.b.2.1,ahx p.c.1,ahB p.c.2.1,acH p.c.b.1,acK p.c.b.2.1,alO p.d],⟨[⟨11,(0::2::3::rg 5 65 (rg 71 15 [])),[]⟩],[],[],[],(some ⟨0,(0::1::rg 4 82 []),[]⟩)⟩,0,9⟩
theorem aNl (p:aq3):D2 (aDb p) Wu aDa λb=>aq2 p.1 p.2.1 p.b.1 p.b.2.1 p.c.1 p.c.2.1 p.c.b.1 p.c.b.2.1 p.d b:=λb=>by kernel_rfl
abbrev aDc:aq3:=(zm,dI,bX,Ug,BD,BE,yW,yX,D9)
theorem aDd [ax]:SC (aq1 Ea):=sc (kS (k:=aDb aDc) (.c ayA (.c tx (.c jf (.c aM0 (.c azX (.c azZ (.c awc (.c awe (.c aC8 (.nil _)))))))))) [11] [] ⟨kN,trivial⟩ trivial (aNl aDc))
end Go.Proofs.YtcmfbkneahoonaaGreat
namespace Go.Proofs.YtcmfbkneahoonaaGreat
open Go.Ab Go.Ab.Pg
theorem aAr {x:Int}(h0: -1152921504606846976<=x)(h1:x<=1152921504606846976)(b:Bool):pf x b=some x:=by
 have e:uy x (-1152921504606846976) 1152921504606846976 b=some (Sum.inr x):=by
  simp only[uy,Iq,bM,bP]
  rw[decide_eq_false (show ¬(-1152921504606846976:Int)>1152921504606846976 by omega),decide_eq_false (show ¬x< -1152921504606846976 by omega),decide_eq_false (show ¬x>1152921504606846976 by omega)]
  rfl
 simp only[pf,No,cq,e,Option.bind_some,aGU,Sum.elim_inr,bP]
theorem aUO {x:Int}(h0: -1152921504606846976<=x)(h1:x<=1152921504606846976)(n b:Bool):yT x true n b=some (Sum.inr x):=by
 simp only[yT,Np,bM,cq,bP,Bool.not_true,cond_false,aAr h0 h1,Option.bind_some]
theorem aDe {a b d:Int}(a0: -1152921504606846976<=a)(a1:a<=1152921504606846976)(b0: -1152921504606846976<=b)(b1:b<=1152921504606846976)(d0: -1152921504606846976<=d)(d1:d<=1152921504606846976)(nz:d≠0)
  (q0: -1152921504606846976<=Lw (a*b) d)(q1:Lw (a*b) d<=1152921504606846976)(h:Bool):jj a b d h=some (Lw (a*b) d):=by
 obtain⟨x,y,e,o,v⟩:=BT a b (by omega) (by omega) (by omega) (by omega)
 have e2:=aFA x y d o (by omega) (by omega) nz
 rw[v,if_pos ⟨by omega,by omega⟩] at e2
 have z:(d==0)=false:=by rw[beq_eq_false_iff_ne];exact nz
 simp only[jj,FX,Hw,Rr,cq,bM,bP,aAr a0 a1,aAr b0 b1,aAr d0 d1,Option.bind_some,e,z,cond_false,e2,aUO q0 q1,aGU,Sum.elim_inr]
end Go.Proofs.YtcmfbkneahoonaaGreat
namespace Go.Proofs.YtcmfbkneahoonaaGreat
open Go.Ab Go.Ab.Pg
theorem aUP {n d m:Int}(h0:0<=n)(hd:0<d)(hm:0<=m)(h:n<=m*d):0<=qdq n d∧qdq n d<=m:=by
 have a:=Int.mul_ediv_add_emod n d
 have b:=Int.emod_nonneg n (show d≠0 by omega)
 have c:=Int.emod_lt_of_pos n hd
 have q0:0<=n/d:=Int.ediv_nonneg h0 (by omega)
 have q1:n/d<=m:=by
  refine Int.le_of_lt_add_one (Int.ediv_lt_of_lt_mul hd ?_)
  rw[Int.add_mul,Int.one_mul];omega
 unfold qdq
 split
 ·omega
 ·by_cases e:n/d=m
  ·exfalso
   rw[e,Int.mul_comm d m] at a
   omega
  ·omega
theorem aOv {n d m:Int}(hd:0<d)(hm:0<=m)(h0: -(m*d)<=n)(h1:n<=m*d): -m<=Lw n d∧Lw n d<=m:=by
 have e:jN d=d:=by unfold jN;split<;>omega
 have g:jN n<=m*d:=by unfold jN;split<;>omega
 obtain⟨p,q⟩:=aUP (aHo n) hd hm g
 unfold Lw
 rw[e]
 split<;>omega
theorem aTC {a x d m:Int}(ha0: -m<=a)(ha1:a<=m)(x0:0<=x)(x1:x<=d): -(m*d)<=a*x∧a*x<=m*d:=by
 have m0:0<=m:=by omega
 have h1:a*x<=m*x:=Int.mul_le_mul_of_nonneg_right ha1 x0
 have h2:m*x<=m*d:=Int.mul_le_mul_of_nonneg_left x1 m0
 have h3: -m*x<=a*x:=Int.mul_le_mul_of_nonneg_right ha0 x0
 rw[Int.neg_mul] at h3
 omega
theorem aFI (a b x d:Int)(h:Bool)(m:Int)(a0: -m<=a)(a1:a<=m)(b0: -m<=b)(b1:b<=m)(x0:0<=x)(x1:x<=d)(d0:0<d)(d1:d<=1000000000)(m1:m<=100000000000000):
  Ok (fT a b x d h) (λr:Int=> -(3*m)<=r∧r<=3*m):=by
 have e:wI (b-a)=b-a:=eP (by omega) (by omega)
 obtain⟨p0,p1⟩:=aTC (a:=b-a) (m:=2*m) (by omega) (by omega) x0 x1
 obtain⟨q0,q1⟩:=aOv d0 (show 0<=2*m by omega) p0 p1
 have k:=aDe (a:=b-a) (b:=x) (d:=d) (by omega) (by omega) (by omega) (by omega) (by omega) (by omega) (by omega) (by omega) (by omega) h
 have e2:wI (a+Lw ((b-a)*x) d)=a+Lw ((b-a)*x) d:=eP (by omega) (by omega)
 unfold fT vr
 show PQ _ _
 rw[e,k,bQ,av,e2]
 omega
theorem aPK (c0 c1 c2 c3 c4 c5 c6 i x:Int)(h:Bool)(g:∀c∈[c0,c1,c2,c3,c4,c5,c6], -9000<=c∧c<=9000)(i0:0<=i)(i1:i<=5)(x0:0<=x)(x1:x<=600000000):
  Ok (kY c0 c1 c2 c3 c4 c5 c6 i x h) (λr:Int=> -28991029248000<=r∧r<=28991029248000):=by
 have w:∀c∈[c0,c1,c2,c3,c4,c5,c6],wI (c*1073741824)=c*1073741824:=λc hc=>eP (by have:=g c hc;omega) (by have:=g c hc;omega)
 have z:wI (i+1)=i+1:=bd i0 (by omega)
 simp only[List.mem_cons,List.not_mem_nil,or_false,forall_eq_or_imp,forall_eq] at w g
 obtain⟨w0,w1,w2,w3,w4,w5,w6⟩:=w
 obtain⟨g0,g1,g2,g3,g4,g5,g6⟩:=g
 unfold kY vt
 show PQ _ _
 rw[w0,w1,w2,w3,w4,w5,w6,z]
 have r1:aX i 7=true:=by rw[bn];omega
 have r2:aX (i+1) 7=true:=by rw[bn];omega
 dsimp only
 rw[r1,r2]
 repeat' (first
  |rw[aC]
  |(with_reducible refine ay (aFI _ _ _ _ _ 9663676416000 ?_ ?_ ?_ ?_ ?_ ?_ ?_ ?_ ?_) λr _ hr=> ?_)
  |(rw[aL];refine⟨λc=> ?_,λc=> ?_⟩))
 all_goals first
  |(rw[av];omega)
  |omega
theorem aKx (x0 x1 x2:Int)(h:Bool):bo (mR x0 x1 x2 h):=by
 unfold mR yU
 refine aG ?_
 dsimp only
 rw[bz];intro d hd
 rw[aL]
 refine⟨λ_=>by rw[av];trivial,λk=> ?_⟩
 rw[Bool.not_eq_false'] at k
 obtain⟨a0,a1,b0,b1⟩:=ao5 hd k
 clear hd k
 have ey0:wI (x1+1800000000)=x1+1800000000:=eP (by omega) (by omega)
 have ey1:wI (x0+900000000)=x0+900000000:=eP (by omega) (by omega)
 rw[ey0,ey1]
 have t0:Int.tdiv (x0+900000000) 450000000=(x0+900000000)/450000000:=Int.tdiv_eq_ediv_of_nonneg (by omega)
 have t1:Int.tdiv (x1+1800000000) 600000000=(x1+1800000000)/600000000:=Int.tdiv_eq_ediv_of_nonneg (by omega)
 rw[t0,t1,eP (n:=(x0+900000000)/450000000) (by omega) (by omega),eP (n:=(x1+1800000000)/600000000) (by omega) (by omega)]
 generalize hi:(if (3:Int)<(x0+900000000)/450000000 then(3:Int) else(x0+900000000)/450000000)=i
 generalize hj:(if (5:Int)<(x1+1800000000)/600000000 then(5:Int) else(x1+1800000000)/600000000)=j
 have hi':0<=i∧i<=3∧0<=x0+900000000-i*450000000∧x0+900000000-i*450000000<=450000000:=by
  split at hi<;>omega
 have hj':0<=j∧j<=5∧0<=x1+1800000000-j*600000000∧x1+1800000000-j*600000000<=600000000:=by
  split at hj<;>omega
 clear hi hj t0 t1 ey0 ey1
 obtain⟨i0,i1,u0,u1⟩:=hi'
 obtain⟨j0,j1,v0,v1⟩:=hj'
 rw[eP (n:=i*450000000) (by omega) (by omega),eP (n:=j*600000000) (by omega) (by omega),eP (n:=x0+900000000-i*450000000) (by omega) (by omega),eP (n:=x1+1800000000-j*600000000) (by omega) (by omega),bd i0 (by omega)]
 have r1:aX i 5=true:=by rw[bn];omega
 have r2:aX (i+1) 5=true:=by rw[bn];omega
 rw[r1,r2]
 generalize x0+900000000-i*450000000=u at u0 u1 ⊢
 generalize x1+1800000000-j*600000000=v at v0 v1 ⊢
 have fin:∀d:Int, -86973087744000<=d->d<=86973087744000->Ok (jj d 3373259426 19327352832000 h) (λ_=>True):=by
  intro d d0 d1
  obtain⟨q0,q1⟩:=aOv (n:=d*3373259426) (d:=19327352832000) (m:=1000000000000000) (by omega) (by omega) (by omega) (by omega)
  rw[aDe (by omega) (by omega) (by omega) (by omega) (by omega) (by omega) (by omega) (by omega) (by omega) h]
  exact⟨_,rfl,trivial⟩
 rw[bz];intro _ _
 repeat' (first
  |rw[aC]
  |(with_reducible refine ay (aPK _ _ _ _ _ _ _ _ _ _ (by decide) j0 j1 v0 v1) λr _ hr=> ?_)
  |(with_reducible refine ay (aFI _ _ _ _ _ 28991029248000 ?_ ?_ ?_ ?_ u0 u1 (by omega) (by omega) (by omega)) λs _ hs=> ?_)
  |(with_reducible refine ay (fin _ ?_ ?_) λt _ _=> ?_)
  |(rw[aL];refine⟨λc=> ?_,λc=> ?_⟩))
 all_goals first
  |(rw[av];trivial)
  |omega
instance aOw (x:iZ.B):bo (ja x):=by
 unfold ja rI
 try dsimp only
 have t:=aKx
 exact aG (by rw[bz];intro _ _;rw[av];trivial)
end Go.Proofs.YtcmfbkneahoonaaGreat
namespace Go.Proofs.YtcmfbkneahoonaaGreat
open Go.Ab Go.Ab.Pg
theorem aNm (x:qG.B):Ok (qH x) (λr:D6=>r.1.2.2.2.2.2.2.2.2.2.2.2.2.2.2.2.2=x.2.1.2.2.2.2.2.2.2.2.2.2.2.2.2.2.2.2∧r.1.2.2.2.2.1=x.2.1.2.2.2.2.1):=by
 unfold qH D7
 try dsimp only
 show PQ _ _
 simp only[aM]
 repeat' (first
  |rw[aC]
  |(with_reducible refine ay (acq _ ?_) λe _ he=> ?_)
  |(with_reducible refine ay (bo.Ok (aKx _ _ _ _) (Q:=λ_=>True) λ_ _=>trivial) λ_ _ _=> ?_)
  |(rw[oA];refine⟨λ_ _=> ?_,λ_ _=> ?_⟩)
  |(rw[bz];intro _ _)
  |(rw[aL];refine⟨λc=> ?_,λc=> ?_⟩))
 all_goals first
  |(rw[av];exact he.2)
  |(rw[av];exact⟨rfl,rfl⟩)
  |(dsimp only;omega)
end Go.Proofs.YtcmfbkneahoonaaGreat
namespace Go.Proofs.YtcmfbkneahoonaaGreat
open Go.Ab Go.Ab.Pg
theorem aUQ (x:wM.B)(k:aX x.1.1 6=true)(h:x.2.1.2.2.2.2.2.2.2.2.2.2.2.2.2.2.2.2<=90000):Ok (wO x) (λr:CR=>match r with|.inl e=>e.1.2.2.2.2.2.2.2.2.2.2.2.2.2.2.2.2<=x.2.1.2.2.2.2.2.2.2.2.2.2.2.2.2.2.2.2+3∧e.1.2.2.2.2.1=x.2.1.2.2.2.2.1|.inr e=>e.1.1.2.2.2.2.2.2.2.2.2.2.2.2.2.2.2.2<=x.2.1.2.2.2.2.2.2.2.2.2.2.2.2.2.2.2.2+3∧e.1.1.2.2.2.2.1=x.2.1.2.2.2.2.1):=by
 have hi:aX x.1.1 6=true:=k
 unfold wO Lf
 try dsimp only
 show PQ _ _
 simp only[aM,hi]
 repeat' (first
  |rw[aC]
  |(with_reducible refine ay (aTB _ ?_) λe _ he=> ?_)
  |(with_reducible refine ay (aC6 _ ?_) λe _ he=> ?_)
  |(with_reducible refine ay (aHP _) λe _ he=> ?_)
  |(with_reducible refine ay (aNm _) λe _ he=> ?_)
  |(with_reducible refine ay (aHQ _) λe _ he=> ?_)
  |(with_reducible refine ay (aTA _) λe _ he=> ?_)
  |(rw[oA];refine⟨λe0 e1=> ?_,λe0 e1=> ?_⟩)
  |(rw[bz];intro _ _)
  |(rw[aL];refine⟨λc=> ?_,λc=> ?_⟩))
 all_goals first
  |(dsimp only;omega)
  |(rw[av];exact⟨Nat.le_trans (Nat.le_of_eq he.1) (Nat.le_add_right _ _),he.2⟩)
  |(rw[av];exact⟨Nat.le_add_right _ _,rfl⟩)
  |(rw[e1] at he;rw[av];exact he)
  |(rw[e1] at he;rw[av];exact⟨Nat.le_trans he.1 (Nat.add_le_add_left (by decide) _),he.2⟩)
  |skip
end Go.Proofs.YtcmfbkneahoonaaGreat
namespace Go.Proofs.YtcmfbkneahoonaaGreat
open Go.Ab Go.Ab.Pg
theorem aHW (n:Int)(d:sG.B)(hd:0<=d.1.2.2.2.2∧d.1.2.2.2.2<=3∧d.1.2.1=n∧d.1.2.2.1=n∧0<=n∧n<=3):Ok (alB d) (λx:I1=>x.1.2.2.1=n):=
 aZ (s:=_) (λd:sG.B=>0<=d.1.2.2.2.2∧d.1.2.2.2.2<=3∧d.1.2.1=n∧d.1.2.2.1=n∧0<=n∧n<=3) (λd:sG.B=>Int.toNat (3-d.1.2.2.2.2)) (λx:I1=>x.1.2.2.1=n) (λd hd=>by
  have hw:wI (d.1.2.2.2.2+1)=d.1.2.2.2.2+1:=bd (by omega) (by omega)
  obtain⟨c0,c1,i0,i1,i2,i3⟩:=hd
  have w0:wI (0+d.1.2.1)=d.1.2.1:=by rw[Int.zero_add];exact eP (by omega) (by omega)
  have w1:wI (10+d.1.2.2.2.2)=10+d.1.2.2.2.2:=eP (by omega) (by omega)
  unfold alA
  dsimp only
  rw[w0,w1,hw]
  rw[aL]
  refine⟨λh=> ?_,λ_=>by rw[av];exact i1⟩
  have h:=of_decide_eq_true h
  have r0:aX d.1.2.2.2.2 3=true:=by rw[bn];omega
  have r1:aX d.1.2.1 24=true:=by rw[bn];omega
  have r2:aX (10+d.1.2.2.2.2) 24=true:=by rw[bn];omega
  have r3:(true&&Nat.ble (0+(Int.toNat d.1.2.1*24+Int.toNat (10+d.1.2.2.2.2))*1+1) 576)=true:=by rw[Bool.true_and,bL];omega
  rw[r0,r1,r2,r3]
  repeat' (first
   |rw[aC]
   |(rw[aL];refine⟨λc=> ?_,λc=> ?_⟩)
   |(rw[bz];intro _ _))
  all_goals (rw[av];exact⟨⟨by show 0<=d.1.2.2.2.2+1;omega,by show d.1.2.2.2.2+1<=3;omega,i0,i1,i2,i3⟩,by show Int.toNat (3-(d.1.2.2.2.2+1))<_;omega⟩)) 2000 d hd (by omega)
theorem aHX (n:Int)(d:sH.B)(hd:0<=d.1.2.2∧d.1.2.2<=3∧d.1.1=n∧d.1.2.1=n∧0<=n∧n<=2):Ok (alD d) (λx:I2=>x.1.1=n∧x.1.2.1=n):=
 aZ (s:=_) (λd:sH.B=>0<=d.1.2.2∧d.1.2.2<=3∧d.1.1=n∧d.1.2.1=n∧0<=n∧n<=2) (λd:sH.B=>Int.toNat (3-d.1.2.2)) (λx:I2=>x.1.1=n∧x.1.2.1=n) (λd hd=>by
  have hw:wI (d.1.2.2+1)=d.1.2.2+1:=bd (by omega) (by omega)
  obtain⟨c0,c1,i0,i1,i2,i3⟩:=hd
  have w0:wI (4+d.1.1)=4+d.1.1:=eP (by omega) (by omega)
  have w1:wI (13+d.1.2.2)=13+d.1.2.2:=eP (by omega) (by omega)
  have w2:wI (3*d.1.1)=3*d.1.1:=eP (by omega) (by omega)
  have w3:wI (3*d.1.1+d.1.2.2)=3*d.1.1+d.1.2.2:=eP (by omega) (by omega)
  unfold alC
  dsimp only
  rw[w0,w1,w2,w3,hw]
  rw[aL]
  refine⟨λh=> ?_,λ_=>by rw[av];exact⟨i0,i1⟩⟩
  have h:=of_decide_eq_true h
  have r0:aX (3*d.1.1+d.1.2.2) 9=true:=by rw[bn];omega
  have r1:aX (4+d.1.1) 24=true:=by rw[bn];omega
  have r2:aX (13+d.1.2.2) 24=true:=by rw[bn];omega
  have r3:(true&&Nat.ble (0+(Int.toNat (4+d.1.1)*24+Int.toNat (13+d.1.2.2))*1+1) 576)=true:=by rw[Bool.true_and,bL];omega
  rw[r0,r1,r2,r3]
  repeat' (first
   |rw[aC]
   |(rw[aL];refine⟨λc=> ?_,λc=> ?_⟩)
   |(rw[bz];intro _ _))
  all_goals (rw[av];exact⟨⟨by show 0<=d.1.2.2+1;omega,by show d.1.2.2+1<=3;omega,i0,i1,i2,i3⟩,by show Int.toNat (3-(d.1.2.2+1))<_;omega⟩)) 2000 d hd (by omega)
theorem aHY (d:sI.B)(hd:0<=d.1.2∧d.1.2<=4):Ok (alF d) (λx:I3=>True):=
 aZ (s:=_) (λd:sI.B=>0<=d.1.2∧d.1.2<=4) (λd:sI.B=>Int.toNat (4-d.1.2)) (λx:I3=>True) (λd hd=>by
  have hw:wI (d.1.2+1)=d.1.2+1:=bd (by omega) (by omega)
  obtain⟨c0,c1⟩:=hd
  have w0:wI (0+d.1.2)=d.1.2:=by rw[Int.zero_add];exact eP (by omega) (by omega)
  unfold alE
  dsimp only
  rw[w0]
  rw[aL]
  refine⟨λh=> ?_,λ_=>by rw[av];trivial⟩
  have h:=of_decide_eq_true h
  have r0:aX d.1.2 4=true:=by rw[bn];omega
  have r1:aX d.1.2 24=true:=by rw[bn];omega
  have r3:(true&&Nat.ble (0+Int.toNat d.1.2*24+4) 576)=true:=by rw[Bool.true_and,bL];omega
  rw[r0,r1,r3]
  repeat' (first
   |rw[aC]
   |(rw[aL];refine⟨λc=> ?_,λc=> ?_⟩)
   |(with_reducible refine ay (aHW d.1.2 _ ⟨Int.le_refl 0,(show(0:Int)<=3 by decide),rfl,rfl,c0,by omega⟩) λe _ he=> ?_))
  all_goals (rw[av,he,hw];exact⟨⟨by show 0<=d.1.2+1;omega,by show d.1.2+1<=4;omega⟩,by show Int.toNat (4-(d.1.2+1))<_;omega⟩)) 2000 d hd (by omega)
theorem aHZ (d:sJ.B)(hd:0<=d.1∧d.1<=3):Ok (alH d) (λx:I4=>True):=
 aZ (s:=_) (λd:sJ.B=>0<=d.1∧d.1<=3) (λd:sJ.B=>Int.toNat (3-d.1)) (λx:I4=>True) (λd hd=>by
  obtain⟨c0,c1⟩:=hd
  have hw:wI (d.1+1)=d.1+1:=bd (by omega) (by omega)
  have w0:wI (4+d.1)=4+d.1:=eP (by omega) (by omega)
  have w1:wI (7+d.1)=7+d.1:=eP (by omega) (by omega)
  unfold alG
  dsimp only
  rw[w0]
  rw[aL]
  refine⟨λh=> ?_,λ_=>by rw[av];trivial⟩
  have h:=of_decide_eq_true h
  have r0:aX d.1 3=true:=by rw[bn];omega
  have r1:aX (4+d.1) 24=true:=by rw[bn];omega
  have r2:aX (7+d.1) 24=true:=by rw[bn];omega
  have r3:(true&&Nat.ble (0+Int.toNat (4+d.1)*24+4) 576)=true:=by rw[Bool.true_and,bL];omega
  have r4:(true&&Nat.ble (0+(Int.toNat (7+d.1)*24+Int.toNat (4+d.1))*1+1) 576)=true:=by rw[Bool.true_and,bL];omega
  rw[r0,r1,r3]
  repeat' (first
   |rw[aC]
   |(with_reducible refine ay (aHX d.1 _ ⟨Int.le_refl 0,(show(0:Int)<=3 by decide),rfl,rfl,c0,by omega⟩) λe _ he=> ?_)
   |(rw[he.1,he.2,w0,w1,hw,r1,r2,r4])
   |(rw[aL];refine⟨λc=> ?_,λc=> ?_⟩))
  all_goals (rw[av];exact⟨⟨by show 0<=d.1+1;omega,by show d.1+1<=3;omega⟩,by show Int.toNat (3-(d.1+1))<_;omega⟩)) 2000 d hd (by omega)
instance aXd (x0:Nat->Int)(x1:Int)(x2:Int)(x3:Int)(x4:Int)(x5:Int)(x6:Int)(x7:Int)(x8:Int)(x9:Bool):bo (acr x0 x1 x2 x3 x4 x5 x6 x7 x8 x9):=by
 unfold acr av7
 try dsimp only
 refine aG ?_
 repeat' (first
  |(with_reducible refine ay (aHY _ ⟨Int.le_refl 0,(show(0:Int)<=4 by decide)⟩) λe _ he=> ?_)
  |(with_reducible refine ay (aHZ _ ⟨Int.le_refl 0,(show(0:Int)<=3 by decide)⟩) λe _ he=> ?_)
  |(rw[bz];intro _ _))
 rw[av];trivial
instance aVR (x0:Nat->Int)(x1:Nat->Int)(x2:Nat->Int)(x3:Int)(x4:Int)(x5:Int)(x6:Int)(x7:Int)(x8:Int)(x9:Int)(fQ:Int)(fR:Nat->Int)(zF:Bool):bo (I5 x0 x1 x2 x3 x4 x5 x6 x7 x8 x9 fQ fR zF):=by
 unfold I5 alJ
 exact aG (by simp only[bG,oL])
end Go.Proofs.YtcmfbkneahoonaaGreat
namespace Go.Proofs.YtcmfbkneahoonaaGreat
open Go.Ab Go.Ab.Pg
theorem aKy (N:Nat)(hN:N<=1999)(x:lV.B)(h:x.2.1.2.2<=N)(s:x.2.1.1<=(N:Int)):
  Ok (fa x) (λr:pO=>match r with|.inl e=>e.2.1=x.2.1|.inr e=>e.1.1.1=x.2.1.1∧e.1.1.2.2<=N∧x.2.1.2.2<=e.1.1.2.2∧e.1.1.2.2<=e.2.1):=by
 unfold fa xA
 try dsimp only
 show PQ _ _
 rw[aL]
 refine⟨λ_=>by rw[av],λh0=> ?_⟩
 have hn:x.2.1.2.2≠0:=λe=>by rw[e] at h0;cases h0
 have w:wI (Int.ofNat x.2.1.2.2-1)=Int.ofNat (x.2.1.2.2-1):=by
  simp only[Int.ofNat_eq_natCast];rw[eP (by omega) (by omega)];omega
 have b1:aX (Int.ofNat (x.2.1.2.2-1)) x.2.1.2.2=true:=by simp only[bn,Int.ofNat_eq_natCast];omega
 have b2:Nat.ble ((x.2.1.2.2+1)*88) 140737488355328=true:=by rw[bL];omega
 have b3:Cu 1 (x.2.1.2.2+1)=true:=by simp only[MO];omega
 have b4:Nat.ble ((0+(x.2.1.2.2+1-1))*88) 140737488355328=true:=by rw[bL];omega
 rw[w,b1,b2,b3,b4]
 repeat' (first
  |rw[aC]
  |(rw[bz];intro _ _)
  |(rw[aL];refine⟨λc=> ?_,λc=> ?_⟩))
 all_goals first
  |(rw[av];exact⟨rfl,by show 0+(x.2.1.2.2+1-1)<=N;omega,by show x.2.1.2.2<=0+(x.2.1.2.2+1-1);omega,by show 0+(x.2.1.2.2+1-1)<=x.2.1.2.2+1-1;omega⟩)
  |(rw[av];have c:=of_decide_eq_false c;simp only[Int.ofNat_eq_natCast] at c;exact⟨rfl,by show x.2.1.2.2+1<=N;omega,by show x.2.1.2.2<=x.2.1.2.2+1;omega,Nat.le_refl _⟩)
  |(rw[av])
theorem afE (N q q4:Nat)(hN:N<=1999)(s:Int)(hs:s<=(N:Int))(d:eX.B)(hd:0<=d.1.2.2∧d.1.2.2<=d.1.2.1∧d.1.2.1<=1999∧d.1.2.1=((d.1.1:Nat):Int)∧d.2.2.2.2.2.2.2.2.2.2.2.2.1.2.2<=N∧d.2.2.2.2.2.2.2.2.2.2.2.2.1.1=s∧d.2.2.2.2.2.2.2.2.2.2.2.2.1.2.2<=d.2.2.2.2.2.2.2.2.2.2.2.2.2.2.2.2.2.2.2.2.2.1∧d.2.1.2.2.2.2.2.2.2.2.2.2.2.2.2.2=q∧d.2.1.2.2.2.2.1=q4):Ok (uL d) (λx:lF=>x.2.2.2.2.2.2.2.2.2.2.2.2.1.2.2<=N∧x.2.2.2.2.2.2.2.2.2.2.2.2.1.1=s∧x.2.2.2.2.2.2.2.2.2.2.2.2.1.2.2<=x.2.2.2.2.2.2.2.2.2.2.2.2.2.2.2.2.2.2.2.2.2.1∧x.2.1.2.2.2.2.2.2.2.2.2.2.2.2.2.2=q∧x.2.1.2.2.2.2.1=q4):=
 aZ (s:=_) (λd:eX.B=>0<=d.1.2.2∧d.1.2.2<=d.1.2.1∧d.1.2.1<=1999∧d.1.2.1=((d.1.1:Nat):Int)∧d.2.2.2.2.2.2.2.2.2.2.2.2.1.2.2<=N∧d.2.2.2.2.2.2.2.2.2.2.2.2.1.1=s∧d.2.2.2.2.2.2.2.2.2.2.2.2.1.2.2<=d.2.2.2.2.2.2.2.2.2.2.2.2.2.2.2.2.2.2.2.2.2.1∧d.2.1.2.2.2.2.2.2.2.2.2.2.2.2.2.2=q∧d.2.1.2.2.2.2.1=q4) (λd:eX.B=>Int.toNat (d.1.2.1-d.1.2.2)) (λx:lF=>x.2.2.2.2.2.2.2.2.2.2.2.2.1.2.2<=N∧x.2.2.2.2.2.2.2.2.2.2.2.2.1.1=s∧x.2.2.2.2.2.2.2.2.2.2.2.2.1.2.2<=x.2.2.2.2.2.2.2.2.2.2.2.2.2.2.2.2.2.2.2.2.2.1∧x.2.1.2.2.2.2.2.2.2.2.2.2.2.2.2.2=q∧x.2.1.2.2.2.2.1=q4) (λd hd=>by
  obtain⟨i0,i1,i2,i3,i4,i5,i6,i7,i8⟩:=hd
  have hw:wI (d.1.2.2+1)=d.1.2.2+1:=bd (by omega) (by omega)
  unfold Cp
  dsimp only
  rw[aL]
  refine⟨λh=> ?_,λ_=>by rw[av];exact⟨i4,i5,i6,i7,i8⟩⟩
  have h:=of_decide_eq_true h
  have r0:aX d.1.2.2 d.1.1=true:=by rw[bn];omega
  rw[r0,hw,aM,aC,aC]
  with_reducible refine ay (aKy N hN _ ?_ ?_) λe _ he=> ?_
  ·exact i4
  ·show d.2.2.2.2.2.2.2.2.2.2.2.2.1.1<=(N:Int)
   omega
  rw[oA]
  refine⟨λa ha=> ?_,λa ha=> ?_⟩
  ·rw[ha] at he
   have he:a.2.1=d.2.2.2.2.2.2.2.2.2.2.2.2.1:=he
   rw[av]
   exact⟨⟨by show 0<=d.1.2.2+1;omega,by show d.1.2.2+1<=d.1.2.1;omega,i2,i3,by show a.2.1.2.2<=N;rw[he];exact i4,by show a.2.1.1=s;rw[he];exact i5,by show a.2.1.2.2<=d.2.2.2.2.2.2.2.2.2.2.2.2.2.2.2.2.2.2.2.2.2.1;rw[he];exact i6,i7,i8⟩,by show Int.toNat (d.1.2.1-(d.1.2.2+1))<_;omega⟩
  ·rw[ha] at he
   obtain⟨e1,e2,e3,e4⟩:=he
   rw[av]
   exact⟨⟨by show 0<=d.1.2.2+1;omega,by show d.1.2.2+1<=d.1.2.1;omega,i2,i3,e2,e1.trans i5,e4,i7,i8⟩,by show Int.toNat (d.1.2.1-(d.1.2.2+1))<_;omega⟩) 2000 d hd (by omega)
theorem aPL (x:iy.B):Ok (eR x) (λr:uZ=>r.1.1.1=x.2.1.1):=by
 unfold eR oF
 show PQ _ _
 rw[bz];intro _ _
 rw[av]
theorem aPM (N:Nat)(h1:1<=N)(hN:N<=1999)(x:od.B)(hl:x.2.2.2.2.2.2.2.2.2.2.2.2.1.1<=(N:Int))(hq:x.2.1.2.2.2.2.1<=1999):Ok (rQ x) (λr:rP=>match r with|.inl e=>e.2=x.2.2.2.2.2.2.2.2.2.2.2.2.1∧e.1.2.2.2.2.2.2.2.2.2.2.2.2.2.2.2.2=x.2.1.2.2.2.2.2.2.2.2.2.2.2.2.2.2.2.2∧e.1.2.2.2.2.1=x.2.1.2.2.2.2.1|.inr e=>e.1.2.2.2<=N∧e.1.2.1=x.2.2.2.2.2.2.2.2.2.2.2.2.1.1∧e.1.2.2.2<=e.2.1∧e.1.1.2.2.2.2.2.2.2.2.2.2.2.2.2.2=x.2.1.2.2.2.2.2.2.2.2.2.2.2.2.2.2.2.2∧e.1.1.2.2.2.2.1=x.2.1.2.2.2.2.1):=by
 unfold rQ xR
 try dsimp only
 show PQ _ _
 simp only[aM]
 repeat' (first
  |rw[aC]
  |(with_reducible refine ay (aPL _) λe _ he=> ?_)
  |(with_reducible refine ay (afE N x.2.1.2.2.2.2.2.2.2.2.2.2.2.2.2.2.2.2 x.2.1.2.2.2.2.1 hN x.2.2.2.2.2.2.2.2.2.2.2.2.1.1 hl _ ?_) λe _ he=> ?_)
  |(rw[bz];intro _ _)
  |(rw[aL];refine⟨λc=> ?_,λc=> ?_⟩))
 all_goals first
  |(rw[av];exact⟨rfl,rfl,rfl⟩)
  |(rw[av];exact he)
  |(obtain⟨a,b,c,e⟩:=hdN x.2.1.2.2.2.2.1 hq
    exact⟨a,b,c,e,h1,he,Nat.le_refl _,rfl,rfl⟩)
  |skip
end Go.Proofs.YtcmfbkneahoonaaGreat
namespace Go.Proofs.YtcmfbkneahoonaaGreat
open Go.Ab Go.Ab.Pg
theorem Nz (n:Nat)(p:Int×Int×Nat)(d:cO.B)(hd:0<=d.1.2.2.2.2∧d.1.2.2.2.2<=d.1.2.2.2.1∧n<=1999∧d.1.2.2.2.1=(n:Int)∧d.1.2.2.1=n∧d.2.1=p∧d.1.2.1<(n:Int)):Ok (qJ d) (λx:fI=>x.1.2.2.1=n∧x.2.1=p∧x.1.2.1<(n:Int)):=
 aZ (s:=_) (λd:cO.B=>0<=d.1.2.2.2.2∧d.1.2.2.2.2<=d.1.2.2.2.1∧n<=1999∧d.1.2.2.2.1=(n:Int)∧d.1.2.2.1=n∧d.2.1=p∧d.1.2.1<(n:Int)) (λd:cO.B=>Int.toNat (d.1.2.2.2.1-d.1.2.2.2.2)) (λx:fI=>x.1.2.2.1=n∧x.2.1=p∧x.1.2.1<(n:Int)) (λd hd=>by
  have hw:wI (d.1.2.2.2.2+1)=d.1.2.2.2.2+1:=bd (by omega) (by omega)
  obtain⟨i0,i1,i2,i3,i4,i5,i6⟩:=hd
  unfold qI
  dsimp only
  rw[aL]
  refine⟨λh=> ?_,λ_=>by rw[av];exact⟨i4,i5,i6⟩⟩
  have h:=of_decide_eq_true h
  have r0:aX d.1.2.2.2.2 d.1.2.2.1=true:=by rw[bn];omega
  rw[r0,hw,aC,aL]
  refine⟨λ_=> ?_,λ_=> ?_⟩
  ·rw[av];exact⟨⟨by show 0<=d.1.2.2.2.2+1;omega,by show d.1.2.2.2.2+1<=d.1.2.2.2.1;omega,i2,i3,i4,i5,by show d.1.2.2.2.2<(n:Int);omega⟩,by show Int.toNat (d.1.2.2.2.1-(d.1.2.2.2.2+1))<_;omega⟩
  ·rw[av];exact⟨⟨by show 0<=d.1.2.2.2.2+1;omega,by show d.1.2.2.2.2+1<=d.1.2.2.2.1;omega,i2,i3,i4,i5,i6⟩,by show Int.toNat (d.1.2.2.2.1-(d.1.2.2.2.2+1))<_;omega⟩) 2000 d hd (by omega)
theorem NA (d:dL.B)(h0:0<=d.1)(h1:d.1<4):Ok (lB d) (λx:fJ=>x.1.1=d.1∧x.2.1=(d.2.1.1,d.2.1.2.2)∧x.2.2.2.1=d.2.2.2.1):=by
 have r0:aX d.1 4=true:=by rw[bn];omega
 unfold lB qK
 try dsimp only
 show PQ _ _
 rw[r0]
 repeat' (first
  |rw[aC]
  |(rw[bz];intro _ _)
  |(rw[aL];refine⟨λc=> ?_,λc=> ?_⟩))
 all_goals (rw[av];exact⟨rfl,rfl,rfl⟩)
theorem NB (a:Int)(n:Nat)(v:Nat×(Nat->Int)×(Nat->Int)×(Nat->Int)×(Nat->Int)×(Nat->Int)×(Nat->Int)×(Nat->Int)×(Nat->Int)×(Nat->Int)×(Nat->Int)×(Nat->Int))(d:cP.B)(hd:0<=d.1∧d.1<=4∧d.2.1.1=a∧d.2.1.2.2=n∧d.2.2.2.1=v):Ok (qM d) (λx:fK=>x.2.1.1=a∧x.2.1.2.2=n∧x.2.2.2.1=v):=
 aZ (s:=_) (λd:cP.B=>0<=d.1∧d.1<=4∧d.2.1.1=a∧d.2.1.2.2=n∧d.2.2.2.1=v) (λd:cP.B=>Int.toNat (4-d.1)) (λx:fK=>x.2.1.1=a∧x.2.1.2.2=n∧x.2.2.2.1=v) (λd hd=>by
  have hw:wI (d.1+1)=d.1+1:=bd (by omega) (by omega)
  obtain⟨i0,i1,i2,i3,i4⟩:=hd
  unfold qL
  dsimp only
  rw[aL]
  refine⟨λh=> ?_,λ_=>by rw[av];exact⟨i2,i3,i4⟩⟩
  have h:=of_decide_eq_true h
  have r0:aX d.1 4=true:=by rw[bn];omega
  rw[r0]
  repeat' (first
   |rw[aC]
   |(with_reducible refine ay (NA _ i0 h) λe _ he=> ?_)
   |(rw[aL];refine⟨λc=> ?_,λc=> ?_⟩))
  all_goals (obtain⟨e1,e2,e3⟩:=he;rw[av,e1,e2,hw];exact⟨⟨by show 0<=d.1+1;omega,by show d.1+1<=4;omega,i2,i3,e3.trans i4⟩,by show Int.toNat (4-(d.1+1))<_;omega⟩)) 2000 d hd (by omega)
theorem aKz (x:jH.B)(h:x.2.1.2.2<=1999):Ok (jI x) (λr:sL=>r.2.2.1=x.2.1.2.2):=by
 unfold jI sN
 try dsimp only
 show PQ _ _
 rw[aM,aC]
 with_reducible refine ay (Nz x.2.1.2.2 x.2.1 _ ?_) λd _ hd=> ?_
 ·exact⟨Int.le_refl 0,by show(0:Int)<=Int.ofNat x.2.1.2.2;simp only[Int.ofNat_eq_natCast];omega,h,rfl,rfl,rfl,by show(-1:Int)<_;omega⟩
 obtain⟨d1,d2,d3⟩:=hd
 try dsimp only
 rw[aL]
 refine⟨λ_=>by rw[av];exact d1,λc=> ?_⟩
 have c:=of_decide_eq_false c
 have r0:aX d.1.2.1 d.2.1.2.2=true:=by rw[bn,d2];omega
 rw[r0,aC]
 rw[bz];intro e1 _
 rw[bz];intro e2 _
 rw[bz];intro e3 _
 rw[bz];intro e4 _
 rw[bz];intro e5 _
 with_reducible refine ay (NB x.2.1.1 x.2.1.2.2 (d.1.2.2.1,d.2.2.2.1) _ ?_) λf _ hf=> ?_
 ·exact⟨by show(0:Int)<=1;decide,by show(1:Int)<=4;decide,by show d.2.1.1=_;rw[d2],by show d.2.1.2.2=_;rw[d2],rfl⟩
 obtain⟨f1,f2,f3⟩:=hf
 rw[bz];intro e6 _
 rw[aM,aC]
 with_reducible refine ay (Rn _ ?_) λg _ hg=> ?_
 ·show f.2.1.2.2<=1999
  omega
 have hg:g.2.1=f.2.1.2.2:=hg
 have fn:f.2.2.2.1.1=x.2.1.2.2:=by rw[f3];exact d1
 have b1:(true&&Nat.beq (g.2.1*11+0) (f.2.1.2.2*11)&&true)=true:=by rw[hg,Nat.add_zero,aM];rfl
 have b2:(true&&Nat.ble (0+(g.2.1*11+0)) (f.2.2.2.1.1*11+0))=true:=by rw[hg,fn,Bool.true_and,bL];omega
 rw[b1,b2,aC,aC,av]
 exact fn
end Go.Proofs.YtcmfbkneahoonaaGreat
namespace Go.Proofs.YtcmfbkneahoonaaGreat
open Go.Ab Go.Ab.Pg
theorem alQ (a b c:Int):lX a b c=some (decide (b<=a)&&decide (a<=c)):=by
 simp only[lX,KY,bM,bP]
 by_cases h:b<=a<;>simp[h]
theorem aNn (w d:iY.B)(hd:0<=d.1.2∧d.1.2<=24∧d.2=w.2∧∀j:Nat,(j:Int)<d.1.2->(0<=w.2.2.2.2.2.2.2.2.2.2.2.2.2.2.2.2.2.1 j∧w.2.2.2.2.2.2.2.2.2.2.2.2.2.2.2.2.2.1 j<=72057594037927936)∧1<=w.2.2.2.2.2.2.2.2.2.2.2.2.2.2.2.2.2.2.1 j∧w.2.2.2.2.2.2.2.2.2.2.2.2.2.2.2.2.2.2.1 j<=72057594037927936):Ok (GQ d) (λx:sZ=>match x with|.inl _=>True|.inr e=>e.2=w.2∧∀j:Nat,j<24->(0<=w.2.2.2.2.2.2.2.2.2.2.2.2.2.2.2.2.2.1 j∧w.2.2.2.2.2.2.2.2.2.2.2.2.2.2.2.2.2.1 j<=72057594037927936)∧1<=w.2.2.2.2.2.2.2.2.2.2.2.2.2.2.2.2.2.2.1 j∧w.2.2.2.2.2.2.2.2.2.2.2.2.2.2.2.2.2.2.1 j<=72057594037927936):=
 aZ (s:=_) (λd:iY.B=>0<=d.1.2∧d.1.2<=24∧d.2=w.2∧∀j:Nat,(j:Int)<d.1.2->(0<=w.2.2.2.2.2.2.2.2.2.2.2.2.2.2.2.2.2.1 j∧w.2.2.2.2.2.2.2.2.2.2.2.2.2.2.2.2.2.1 j<=72057594037927936)∧1<=w.2.2.2.2.2.2.2.2.2.2.2.2.2.2.2.2.2.2.1 j∧w.2.2.2.2.2.2.2.2.2.2.2.2.2.2.2.2.2.2.1 j<=72057594037927936) (λd:iY.B=>Int.toNat (24-d.1.2)) (λx:sZ=>match x with|.inl _=>True|.inr e=>e.2=w.2∧∀j:Nat,j<24->(0<=w.2.2.2.2.2.2.2.2.2.2.2.2.2.2.2.2.2.1 j∧w.2.2.2.2.2.2.2.2.2.2.2.2.2.2.2.2.2.1 j<=72057594037927936)∧1<=w.2.2.2.2.2.2.2.2.2.2.2.2.2.2.2.2.2.2.1 j∧w.2.2.2.2.2.2.2.2.2.2.2.2.2.2.2.2.2.2.1 j<=72057594037927936) (λd hd=>by
  have hw:wI (d.1.2+1)=d.1.2+1:=bd (by omega) (by omega)
  obtain⟨i0,i1,i2,i3⟩:=hd
  unfold Og
  dsimp only
  rw[aL]
  refine⟨λh=> ?_,λh=> ?_⟩
  ·have h:=of_decide_eq_true h
   have r0:aX d.1.2 24=true:=by rw[bn];omega
   have r1:Nat.ble (0+Int.toNat d.1.2*1+1) 24=true:=by rw[bL];omega
   rw[r0,r1,aC,aC,alQ,bQ,aL]
   refine⟨λ_=>by rw[av];trivial,λc=> ?_⟩
   rw[aC,aC,alQ,bQ,aL]
   refine⟨λ_=>by rw[av];trivial,λc2=> ?_⟩
   rw[Bool.not_eq_false',Bool.and_eq_true,decide_eq_true_eq,decide_eq_true_eq] at c c2
   rw[av,hw]
   refine⟨⟨by show 0<=d.1.2+1;omega,by show d.1.2+1<=24;omega,i2,λj hj=> ?_⟩,by show Int.toNat (24-(d.1.2+1))<_;omega⟩
   have hj:(j:Int)<d.1.2+1:=hj
   by_cases e:(j:Int)<d.1.2
   ·exact i3 j e
   ·have e2:Int.toNat d.1.2=j:=by omega
    rw[e2,i2] at c c2
    exact⟨c,c2⟩
  ·have h:=of_decide_eq_false h
   rw[av]
   exact⟨i2,λj hj=>i3 j (by omega)⟩) 2000 d hd (by omega)
structure aTD (x:DK.B):Prop where
 place:∃e,wD x.2.2.2.2.2.2.2.2.2.2.2.2.2.1 x.2.2.2.2.2.2.2.2.2.2.2.2.2.2.1 x.2.2.2.2.2.2.2.2.2.2.2.2.2.2.2=some (Sum.inr e)
 arr:∀j:Nat,j<24->(0<=x.2.2.2.2.2.2.1 j∧x.2.2.2.2.2.2.1 j<=72057594037927936)∧1<=x.2.2.2.2.2.2.2.1 j∧x.2.2.2.2.2.2.2.1 j<=72057594037927936
 nums:1000<=x.1∧x.1<=100000∧0<=x.2.1∧x.2.1<=300000∧1<=x.2.2.1∧x.2.2.1<=64∧0<=x.2.2.2.1∧x.2.2.2.1<=100∧0<=x.2.2.2.2.2.2.2.2.1∧x.2.2.2.2.2.2.2.2.1<=1099511627776∧1<=x.2.2.2.2.2.2.2.2.2.1∧x.2.2.2.2.2.2.2.2.2.1<=72057594037927936∧0<=x.2.2.2.2.2.2.2.2.2.2.1∧x.2.2.2.2.2.2.2.2.2.2.1<=3∧1<=x.2.2.2.2.2.2.2.2.2.2.2.1∧x.2.2.2.2.2.2.2.2.2.2.2.1<=1073741824∧1<=x.2.2.2.2.2.2.2.2.2.2.2.2.1∧x.2.2.2.2.2.2.2.2.2.2.2.2.1<=64∧1<=x.2.2.2.2.1.1∧x.2.2.2.2.1.1<=1000∧1<=x.2.2.2.2.1.2.1∧x.2.2.2.2.1.2.1<=1000∧1<=x.2.2.2.2.1.2.2.1∧x.2.2.2.2.1.2.2.1<=1000∧1<=x.2.2.2.2.1.2.2.2.1∧x.2.2.2.2.1.2.2.2.1<=1000∧1<=x.2.2.2.2.1.2.2.2.2.1∧x.2.2.2.2.1.2.2.2.2.1<=1000∧1<=x.2.2.2.2.1.2.2.2.2.2∧x.2.2.2.2.1.2.2.2.2.2<=1000∧1<=x.2.2.2.2.2.1.1∧x.2.2.2.2.2.1.1<=1099511627776∧1<=x.2.2.2.2.2.1.2.1∧x.2.2.2.2.2.1.2.1<=1099511627776∧1<=x.2.2.2.2.2.1.2.2.1∧x.2.2.2.2.2.1.2.2.1<=1099511627776∧1<=x.2.2.2.2.2.1.2.2.2.1∧x.2.2.2.2.2.1.2.2.2.1<=1099511627776∧1<=x.2.2.2.2.2.1.2.2.2.2.1∧x.2.2.2.2.2.1.2.2.2.2.1<=1099511627776∧1<=x.2.2.2.2.2.1.2.2.2.2.2∧x.2.2.2.2.2.1.2.2.2.2.2<=1099511627776
theorem aPN (x:DK.B):Ok (zm x) (λr:Bool=>r=true->aTD x):=by
 unfold zm Yw
 try dsimp only
 show PQ _ _
 repeat' (first
  |(rw[alQ,bQ])
  |(with_reducible refine ay (aNn _ _ ⟨Int.le_refl 0,(show(0:Int)<=24 by decide),rfl,λj hj=>absurd hj (by show ¬(j:Int)<0;omega)⟩) λe _ he=> ?_)
  |(rw[oE];refine⟨λa ha=> ?_,λa ha=> ?_⟩)
  |(rw[oA];refine⟨λb hb=> ?_,λb hb=> ?_⟩)
  |(rw[bz];intro q hq)
  |(rw[aL];refine⟨λc=> ?_,λc=> ?_⟩<;>(try simp only[Bool.not_eq_true',Bool.not_eq_false',Bool.and_eq_true,decide_eq_true_eq,decide_eq_false_iff_not] at c)))
 all_goals first
  |(rw[av];intro hr;exact absurd hr (by decide))
  |skip
 rw[ha] at he
 obtain⟨e1,e2⟩:=he
 obtain⟨a1,a2⟩:=a
 have e1:a2=_:=e1
 subst e1
 rw[av]
 intro hr
 have hr:=of_decide_eq_true hr
 rw[hb] at hq
 refine⟨⟨_,hq⟩,e2,?_⟩
 dsimp only at*
 omega
end Go.Proofs.YtcmfbkneahoonaaGreat
namespace Go.Proofs.YtcmfbkneahoonaaGreat
open Go.Ab Go.Ab.Pg
theorem tF {δ:Type}{Q:δ->Prop}(x y:Pg δ):PQ (.ae false x y) Q=PQ y Q:=by unfold PQ;rw[Pg.bM];rfl
theorem aKA (a:Int)(h:1000<=a)(k:a<=100000):BE a=some (Sum.inr a):=by
 have h1:decide (a<1000)=false:=decide_eq_false (by omega)
 have h2:decide (a>100000)=false:=decide_eq_false (by omega)
 unfold BE Rw
 rw[h1,h2];rfl
theorem aNo (a:Int)(h:1<=a)(k:a<=64):D9 a=some (Sum.inr (a,λ_=>0)):=by
 have h1:decide (a<1)=false:=decide_eq_false (by omega)
 have h2:decide (a>64)=false:=decide_eq_false (by omega)
 unfold D9 Wt
 rw[h1,h2];rfl
theorem aH0 (a b:Int)(h:1<=a)(k:a<=64)(h':1<=b)(k':b<=1073741824):yX a b=some (Sum.inr ((a,b),λ_=>0)):=by
 have h1:decide (a<1)=false:=decide_eq_false (by omega)
 have h2:decide (a>64)=false:=decide_eq_false (by omega)
 have h3:decide (b<1)=false:=decide_eq_false (by omega)
 have h4:decide (b>1073741824)=false:=decide_eq_false (by omega)
 unfold yX Ny
 rw[h1,h2,h3,h4];rfl
theorem aH1 (T:Nat->Int)(hT:∀j:Nat,j<6->1<=T j∧T j<=1099511627776)(d:gW.B)(hd:0<=d.1.2.2.2∧d.1.2.2.2<=6∧d.1.2.1.1=6∧d.1.2.2.1=6∧d.2.1=T):Ok (Is d) (λx:pg=>match x with|.inl _=>False|.inr _=>True):=
 aZ (s:=_) (λd:gW.B=>0<=d.1.2.2.2∧d.1.2.2.2<=6∧d.1.2.1.1=6∧d.1.2.2.1=6∧d.2.1=T) (λd:gW.B=>Int.toNat (6-d.1.2.2.2)) (λx:pg=>match x with|.inl _=>False|.inr _=>True) (λd hd=>by
  obtain⟨i0,i1,i2,i3,i4⟩:=hd
  have hw:wI (d.1.2.2.2+1)=d.1.2.2.2+1:=bd (by omega) (by omega)
  unfold Ir
  dsimp only
  rw[aL]
  refine⟨λh=> ?_,λ_=>by rw[av];trivial⟩
  have h:=of_decide_eq_true h
  have r0:aX d.1.2.2.2 d.1.2.1.1=true:=by rw[bn];omega
  have r1:aX d.1.2.2.2 6=true:=by rw[bn];omega
  have t:=hT (Int.toNat d.1.2.2.2) (by omega)
  have c1:decide (d.2.1 (Int.toNat d.1.2.2.2)<1)=false:=decide_eq_false (by rw[i4];omega)
  have c2:decide (d.2.1 (Int.toNat d.1.2.2.2)>1099511627776)=false:=decide_eq_false (by rw[i4];omega)
  have r2:(Nat.ble (0+Int.toNat d.1.2.2.2*6+6) 36&&Nat.ble (0+Int.toNat d.1.2.2.2*6+6) 37)=true:=by rw[Bool.and_eq_true,bL,bL];omega
  rw[r0,c1,c2,r1,r2,hw,aC,tF,tF,aC,aC,av]
  exact⟨⟨by show 0<=d.1.2.2.2+1;omega,by show d.1.2.2.2+1<=6;omega,i2,i3,i4⟩,by show Int.toNat (6-(d.1.2.2.2+1))<_;omega⟩) 2000 d hd (by omega)
theorem aH2 (m:Int)(T:Nat->Int)(w:Bool)(h:0<=m)(k:m<=100)(hT:∀j:Nat,j<6->1<=T j∧T j<=1099511627776):Ok (yW m 6 T w) (λr:yV=>∃e,r=Sum.inr e):=by
 have h1:decide (m<0)=false:=decide_eq_false (by omega)
 have h2:decide (m>100)=false:=decide_eq_false (by omega)
 unfold yW Nu
 show PQ _ _
 rw[h1,h2,tF,tF,(show(Int.ofNat 6!=6)=false from rfl),tF,aM,aC]
 refine ay (aH1 T hT _ ⟨Int.le_refl 0,(show(0:Int)<=6 by decide),rfl,rfl,rfl⟩) λy _ hy=> ?_
 rw[oE]
 refine⟨λa ha=> ?_,λa ha=> ?_⟩
 ·rw[ha] at hy;exact hy.elim
 ·rw[av];exact⟨_,rfl⟩
theorem aKB (a b c:Int)(h:∃e,wD a b c=some (Sum.inr e)):Ok (BD a b c) (λr:vL=>∃e,r=Sum.inr e):=by
 obtain⟨e,h⟩:=h
 have g:(BD a b c:Option vL)=wD a b c:=rfl
 exact⟨Sum.inr e,g.trans h,e,rfl⟩
theorem aUR (x:Wu.B):Ok (Ea x) (λr:afD=>match r with|.inl _=>True|.inr e=>1<=x.2.2.1∧x.2.2.1<=64∧1<=x.2.2.2.2.2.2.2.2.2.2.2.2.1∧x.2.2.2.2.2.2.2.2.2.2.2.2.1<=64∧e.2.2.2.2.1=x.2.2.1∧e.2.2.2.2.2.1=x.2.2.1∧e.2.2.2.2.2.2.1=x.2.2.1∧e.2.2.2.2.2.2.2.1=x.2.2.1∧e.2.2.2.2.2.2.2.2.1=x.2.2.1∧e.2.2.2.2.2.2.2.2.2.1=x.2.2.1∧e.2.2.2.2.2.2.2.2.2.2.2.1.1=x.2.2.2.2.2.2.2.2.2.2.2.2.1):=by
 unfold Ea aq2
 try dsimp only
 show PQ _ _
 refine ay (aPN x) λr _ hr=> ?_
 rw[aL]
 refine⟨λ_=>by rw[av];trivial,λc=> ?_⟩
 have cc:aTD x:=hr (by simpa using c)
 have n:=cc.nums
 have hT:∀j:Nat,j<6->1<=(bif Nat.beq j 5 then x.2.2.2.2.2.1.2.2.2.2.2 else bif Nat.beq j 4 then x.2.2.2.2.2.1.2.2.2.2.1 else bif Nat.beq j 3 then x.2.2.2.2.2.1.2.2.2.1 else bif Nat.beq j 2 then x.2.2.2.2.2.1.2.2.1 else bif Nat.beq j 1 then x.2.2.2.2.2.1.2.1 else bif Nat.beq j 0 then x.2.2.2.2.2.1.1 else x.2.2.2.2.2.1.1)∧(bif Nat.beq j 5 then x.2.2.2.2.2.1.2.2.2.2.2 else bif Nat.beq j 4 then x.2.2.2.2.2.1.2.2.2.2.1 else bif Nat.beq j 3 then x.2.2.2.2.2.1.2.2.2.1 else bif Nat.beq j 2 then x.2.2.2.2.2.1.2.2.1 else bif Nat.beq j 1 then x.2.2.2.2.2.1.2.1 else bif Nat.beq j 0 then x.2.2.2.2.2.1.1 else x.2.2.2.2.2.1.1)<=1099511627776:=by
  intro j hj
  have e:j=0∨j=1∨j=2∨j=3∨j=4∨j=5:=by omega
  rcases e with rfl|rfl|rfl|rfl|rfl|rfl
  ·exact⟨by show 1<=x.2.2.2.2.2.1.1;omega,by show x.2.2.2.2.2.1.1<=1099511627776;omega⟩
  ·exact⟨by show 1<=x.2.2.2.2.2.1.2.1;omega,by show x.2.2.2.2.2.1.2.1<=1099511627776;omega⟩
  ·exact⟨by show 1<=x.2.2.2.2.2.1.2.2.1;omega,by show x.2.2.2.2.2.1.2.2.1<=1099511627776;omega⟩
  ·exact⟨by show 1<=x.2.2.2.2.2.1.2.2.2.1;omega,by show x.2.2.2.2.2.1.2.2.2.1<=1099511627776;omega⟩
  ·exact⟨by show 1<=x.2.2.2.2.2.1.2.2.2.2.1;omega,by show x.2.2.2.2.2.1.2.2.2.2.1<=1099511627776;omega⟩
  ·exact⟨by show 1<=x.2.2.2.2.2.1.2.2.2.2.2;omega,by show x.2.2.2.2.2.1.2.2.2.2.2<=1099511627776;omega⟩
 rw[bz];intro _ _
 rw[bz];intro _ _
 rw[bz];intro _ _
 refine ay (aKB _ _ _ cc.place) λf _ hf=> ?_
 obtain⟨f,rfl⟩:=hf
 rw[oA]
 refine⟨λ_ h=>(nomatch h),λf hf=> ?_⟩
 rw[aKA _ (by omega) (by omega),bQ,oA]
 refine⟨λ_ h=>(nomatch h),λg hg=> ?_⟩
 refine ay (aH2 _ _ _ (by omega) (by omega) hT) λh _ hh=> ?_
 obtain⟨h,rfl⟩:=hh
 rw[oA]
 refine⟨λ_ h=>(nomatch h),λf hf=> ?_⟩
 rw[aH0 _ _ (by omega) (by omega) (by omega) (by omega),bQ,oA]
 refine⟨λ_ h=>(nomatch h),λp hp=> ?_⟩
 rw[aNo _ (by omega) (by omega)]
 rw[bQ,oA]
 refine⟨λ_ h=>(nomatch h),λb0 Oz=> ?_⟩
 cases Oz
 rw[bQ,oA]
 refine⟨λ_ h=>(nomatch h),λb1 hb1=> ?_⟩
 cases hb1
 rw[bQ,oA]
 refine⟨λ_ h=>(nomatch h),λb2 C8=> ?_⟩
 cases C8
 rw[bQ,oA]
 refine⟨λ_ h=>(nomatch h),λb3 hb3=> ?_⟩
 cases hb3
 rw[bQ,oA]
 refine⟨λ_ h=>(nomatch h),λb4 hb4=> ?_⟩
 cases hb4
 rw[bQ,oA]
 refine⟨λ_ h=>(nomatch h),λb5 hb5=> ?_⟩
 cases hb5
 cases hp
 rw[av]
 refine⟨by omega,by omega,by omega,by omega,rfl,rfl,rfl,rfl,rfl,rfl,rfl⟩
end Go.Proofs.YtcmfbkneahoonaaGreat
