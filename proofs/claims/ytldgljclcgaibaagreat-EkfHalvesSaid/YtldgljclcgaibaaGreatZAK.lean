/-
  Parts of the proof: TO TP TQ TR8 TS8 TPut Q5 TNh TNd TT TV TW TX TY TZ TNw
-/
import Derived.Test.YtldgljclcgaibaaGreatZAE
import Derived.Test.YtldgljclcgaibaaGreatZAJ
set_option linter.unusedVariables false
set_option linter.unusedSimpArgs false
set_option maxRecDepth 100000
set_option maxHeartbeats 4000000
namespace Go.Proofs.YtldgljclcgaibaaGreat
open Go.Ab Go.Ab.Pg
theorem afp (x0:Int)(x1:Int)(x2:Int)(x3:Int)(x4:Int)(x5:Int)(x6:Int)(x7:Int)(x8:Int)(x9:Bool)(h0:0<=x7)(h1:x7<=5):bj (nF x0 x1 x2 x3 x4 x5 x6 x7 x8 x9):=by
 have hw:wI (x7+1)=x7+1:=eK (by omega) (by omega)
 have b1:aW x7 7=true:=by simp only[bl];omega
 have b2:aW (x7+1) 7=true:=by simp only[bl];omega
 unfold nF Ag
 refine aF ?_
 simp only[hw,b1,b2]
 simp only[bB,true_implies,Bool.true_eq_false,false_implies]
theorem aoL {x0 x1 x2:Int}{d:aai}(h:fL x0 x1 x2=some d)(k:d=true): -900000000<=x0∧x0<=900000000∧ -1800000000<=x1∧x1<=1800000000:=by
 have e:PQ (Gi x0 x1 x2) (λd:Bool=>d=true-> -900000000<=x0∧x0<=900000000∧ -1800000000<=x1∧x1<=1800000000):=by
  simp only[Gi,aL,av,ge_iff_le,decide_eq_true_eq,decide_eq_false_iff_not,Bool.false_eq_true,false_implies,implies_true,and_true]
  omega
 exact Ok.post e h k
instance aJK (x0:Int)(x1:Int)(x2:Int)(x3:Bool):bj (qf x0 x1 x2 x3):=by
 unfold qf Dq
 refine aF ?_
 rw[bx];intro d hd
 rw[aL]
 refine⟨λ_=>by rw[av];trivial,λh=> ?_⟩
 obtain⟨a0,a1,a2,a3⟩:=aoL hd (by simpa using h)
 have w0:wI (x0+900000000)=x0+900000000:=eK (by omega) (by omega)
 have w1:wI (x1+1800000000)=x1+1800000000:=eK (by omega) (by omega)
 have e0:Int.tdiv (x0+900000000) 450000000=(x0+900000000)/450000000:=Int.tdiv_eq_ediv_of_nonneg (by omega)
 have e1:Int.tdiv (x1+1800000000) 600000000=(x1+1800000000)/600000000:=Int.tdiv_eq_ediv_of_nonneg (by omega)
 rw[w0,w1,e0,e1]
 have w2:wI ((x0+900000000)/450000000)=(x0+900000000)/450000000:=eK (by omega) (by omega)
 have w3:wI ((x1+1800000000)/600000000)=(x1+1800000000)/600000000:=eK (by omega) (by omega)
 rw[w2,w3]
 have r1:0<=(if 3<(x0+900000000)/450000000 then 3 else(x0+900000000)/450000000)∧(if 3<(x0+900000000)/450000000 then 3 else(x0+900000000)/450000000)<=3:=by split<;>omega
 have r2:0<=(if 5<(x1+1800000000)/600000000 then 5 else(x1+1800000000)/600000000)∧(if 5<(x1+1800000000)/600000000 then 5 else(x1+1800000000)/600000000)<=5:=by split<;>omega
 generalize (if 3<(x0+900000000)/450000000 then 3 else(x0+900000000)/450000000)=row at*
 generalize (if 5<(x1+1800000000)/600000000 then 5 else(x1+1800000000)/600000000)=mx at*
 have t2:=λa b c d e f g i j=>afp a b c d e f g mx i j r2.1 r2.2
 have hw:wI (row+1)=row+1:=eK (by omega) (by omega)
 have b1:aW row 5=true:=by simp only[bl];omega
 have b2:aW (row+1) 5=true:=by simp only[bl];omega
 simp only[hw,b1,b2]
 simp only[bB,true_implies,Bool.true_eq_false,false_implies]
instance aCN (x:iC.B):bj (fN x):=by
 unfold fN oq
 try dsimp only
 exact aF (by simp only[bB])
end Go.Proofs.YtldgljclcgaibaaGreat
namespace Go.Proofs.YtldgljclcgaibaaGreat
open Go.Ab Go.Ab.Pg
theorem azu (x:iC.B):Ok (fN x) (λr:uU=>r.2.2.2.2.2.2.2.2.2.2.2.2.2.2.2.2.2=x.1.2.2.2.2.2.2.2.2.2.2.2.2.2.2.2.2∧r.2.2.2.2.2.1=x.1.2.2.2.2.1∧r.2.2.2.2.2.2.2.2.2.2.2.2.2.2.1=x.1.2.2.2.2.2.2.2.2.2.2.2.2.2.1):=by
 unfold fN oq
 try dsimp only
 show PQ _ _
 rw[bx];intro d _
 rw[av]
 exact⟨rfl,rfl,rfl⟩
theorem aSP (x:uc.B)(h:x.2.1.2.2.2.2.2.2.2.2.2.2.2.2.2.2.2.2<=90000):Ok (ud x) (λr:An=>match r with|.inl e=>e.1.2.2.2.2.2.2.2.2.2.2.2.2.2.2.2.2<=x.2.1.2.2.2.2.2.2.2.2.2.2.2.2.2.2.2.2+1∧e.1.2.2.2.2.1=x.2.1.2.2.2.2.1∧e.1.2.2.2.2.2.2.2.2.2.2.2.2.2.1=x.2.1.2.2.2.2.2.2.2.2.2.2.2.2.2.1|.inr e=>e.1.1.2.2.2.2.2.2.2.2.2.2.2.2.2.2.2<=x.2.1.2.2.2.2.2.2.2.2.2.2.2.2.2.2.2.2+1∧e.1.1.2.2.2.2.1=x.2.1.2.2.2.2.1∧e.1.1.2.2.2.2.2.2.2.2.2.2.2.2.1=x.2.1.2.2.2.2.2.2.2.2.2.2.2.2.2.1):=by
 unfold ud H8
 try dsimp only
 show PQ _ _
 simp only[aR]
 rw[bx];intro d _
 rw[bx];intro d1 _
 repeat rw[aC]
 with_reducible refine aA (azu _) λd2 _ h2=> ?_
 have h2:d2.2.2.2.2.2.2.2.2.2.2.2.2.2.2.2.2.2=x.2.1.2.2.2.2.2.2.2.2.2.2.2.2.2.2.2.2∧d2.2.2.2.2.2.1=x.2.1.2.2.2.2.1∧d2.2.2.2.2.2.2.2.2.2.2.2.2.2.2.1=x.2.1.2.2.2.2.2.2.2.2.2.2.2.2.2.1:=h2
 rw[bx];intro d3 _
 rw[aL]
 refine⟨λ_=> ?_,λ_=> ?_⟩
 ·repeat rw[aC]
  rw[bx];intro d4 _
  rw[av]
  show d2.2.2.2.2.2.2.2.2.2.2.2.2.2.2.2.2.2<=x.2.1.2.2.2.2.2.2.2.2.2.2.2.2.2.2.2.2+1∧d2.2.2.2.2.2.1=x.2.1.2.2.2.2.1∧d2.2.2.2.2.2.2.2.2.2.2.2.2.2.2.1=x.2.1.2.2.2.2.2.2.2.2.2.2.2.2.2.1
  omega
 ·rw[bx];intro d4 _
  repeat rw[aC]
  with_reducible refine aA (Pn _ ?_) λt _ ht=> ?_
  ·show d2.2.2.2.2.2.2.2.2.2.2.2.2.2.2.2.2.2<=100000
   omega
  have ht:t.1.2.2.2.2.2.2.2.2.2.2.2.2.2.2.2.2=d2.2.2.2.2.2.2.2.2.2.2.2.2.2.2.2.2.2+1∧t.1.2.2.2.2.1=d2.2.2.2.2.2.1∧t.1.2.2.2.2.2.2.2.2.2.2.2.2.2.1=d2.2.2.2.2.2.2.2.2.2.2.2.2.2.2.1:=ht
  repeat (first|rw[aC]|(rw[bx];intro _ _))
  rw[av]
  show t.1.2.2.2.2.2.2.2.2.2.2.2.2.2.2.2.2<=x.2.1.2.2.2.2.2.2.2.2.2.2.2.2.2.2.2.2+1∧t.1.2.2.2.2.1=x.2.1.2.2.2.2.1∧t.1.2.2.2.2.2.2.2.2.2.2.2.2.2.1=x.2.1.2.2.2.2.2.2.2.2.2.2.2.2.2.1
  omega
end Go.Proofs.YtldgljclcgaibaaGreat
namespace Go.Proofs.YtldgljclcgaibaaGreat
open Go.Ab Go.Ab.Pg
theorem aCp (x:lW.B)(h:x.2.1.2.2.2.2.2.2.2.2.2.2.2.2.2.2.2.2<=90000):Ok (lX x) (λr:pG=>match r with|.inl e=>e.1.1.2.2.2.2.2.2.2.2.2.2.2.2.2.2<=x.2.1.2.2.2.2.2.2.2.2.2.2.2.2.2.2.2.2+3∧e.1.1.2.2.2.2.1=x.2.1.2.2.2.2.1∧e.1.1.2.2.2.2.2.2.2.2.2.2.2.1=x.2.1.2.2.2.2.2.2.2.2.2.2.2.2.2.1|.inr e=>e.1.2.2.2.2.2.2.2.2.2.2.2.2.2.2.2.2<=x.2.1.2.2.2.2.2.2.2.2.2.2.2.2.2.2.2.2+3∧e.1.2.2.2.2.1=x.2.1.2.2.2.2.1∧e.1.2.2.2.2.2.2.2.2.2.2.2.2.2.1=x.2.1.2.2.2.2.2.2.2.2.2.2.2.2.2.1):=by
 have idx:∀(n m:Nat) (k:Int),n=m->0<=k->k<(m:Int)->aW k n=true:=λn m k e h1 h2=>by subst e;simp only[bl];omega
 unfold lX xd
 try dsimp only
 show PQ _ _
 simp only[aR]
 rw[bx];intro d _
 repeat' (first
  |rw[aC]
  |(with_reducible refine aA (aSN _ ?_) λj _ hj=> ?_)
  |(with_reducible refine aA (acf _ ?_) λe _ he=> ?_)
  |(with_reducible refine aA (Wg _ ?_) λq _ hq=> ?_)
  |(rw[rI];refine⟨λ_ _=> ?_,λ_ _=> ?_⟩)
  |(rw[bx];intro _ _)
  |(rw[aL];refine⟨λc=> ?_,λc=> ?_⟩))
 all_goals first
  |(rw[av];exact hj)
  |(rw[av];exact⟨Nat.le_trans (Nat.le_of_eq (hq.1.trans he.2.1)) (Nat.le_add_right _ _),hq.2.1.trans he.2.2.1,hq.2.2.trans he.2.2.2⟩)
  |(rw[av];exact⟨Nat.le_trans (Nat.le_of_eq he.2.1) (Nat.le_add_right _ _),he.2.2⟩)
  |(show x.2.1.2.2.2.2.2.2.2.2.2.2.2.2.2.2.2.2<=90000;exact h)
  |(dsimp only;omega)
  |(have h1:=he.1;(try dsimp only at h1);(try dsimp only);omega)
  |(rw[aLW];rw[he.1] at c;have c':true=false:=c;cases c')
end Go.Proofs.YtldgljclcgaibaaGreat
namespace Go.Proofs.YtldgljclcgaibaaGreat
open Go.Ab Go.Ab.Pg
instance alg (x:qj.B):bj (mO x):=by
 unfold mO Dz
 try dsimp only
 exact aF (by simp only[bB,ov])
instance aJL (x:qk.B):bj (wb x):=by
 unfold wb DA
 try dsimp only
 exact aF (by simp only[bB,ov])
end Go.Proofs.YtldgljclcgaibaaGreat
namespace Go.Proofs.YtldgljclcgaibaaGreat
open Go.Ab Go.Ab.Pg
theorem Ro (n:Nat)(d:cW.B)(hd:0<=d.1.2.2∧d.1.2.2<=d.1.2.1∧d.1.2.1<=1999∧d.1.2.1=((d.1.1.1:Nat):Int)∧d.2.1.2.2=n∧n<=1999):Ok (sd d) (λx:gH=>x.2.1.2.2=n):=
 bd (s:=_) (λd:cW.B=>0<=d.1.2.2∧d.1.2.2<=d.1.2.1∧d.1.2.1<=1999∧d.1.2.1=((d.1.1.1:Nat):Int)∧d.2.1.2.2=n∧n<=1999) (λd:cW.B=>Int.toNat (d.1.2.1-d.1.2.2)) (λx:gH=>x.2.1.2.2=n) (λd hd=>by
  have hw:wI (d.1.2.2+1)=d.1.2.2+1:=bf (by omega) (by omega)
  obtain⟨i0,i1,i2,i3,i4,i5⟩:=hd
  unfold r9
  try dsimp only
  rw[aL]
  refine⟨λh=> ?_,λ_=>by rw[av];exact i4⟩
  have h:=of_decide_eq_true h
  rw[bG,aR,aC]
  refine⟨by simp only[bl];omega,?_⟩
  with_reducible refine aA (Rn _ ?_) λe _ he=> ?_
  ·show d.2.1.2.2<=1999
   omega
  have he:e.2.1=d.2.1.2.2:=he
  have b1:(true&&Nat.beq (e.2.1*11+0) (d.2.1.2.2*11)&&true)=true:=by rw[he,Nat.add_zero,aR];rfl
  have b2:(true&&Nat.ble (0+(e.2.1*11+0)) (d.2.1.2.2*11+0))=true:=by rw[he,Bool.true_and,bP];omega
  simp only[b1,b2,aC,av,Sum.elim_inl,hw]
  exact⟨⟨by omega,by omega,i2,i3,i4,i5⟩,by omega⟩) 2000 d hd (by omega)
theorem aOD (x:kW.B)(h:x.1.1<=1999)(k:x.2.1.2.2<=1999):Ok (kX x) (λr:uO=>r.2.1=x.2.1.2.2):=by
 unfold kX uQ
 show PQ _ _
 rw[aR,aR,aC,aC]
 refine aA (Ro x.2.1.2.2 _ ?_) λd _ hd=> ?_
 ·obtain⟨a,b,c,e⟩:=hdN x.1.1 h
  exact⟨a,b,c,e,rfl,k⟩
 ·rw[av];exact hd
end Go.Proofs.YtldgljclcgaibaaGreat
namespace Go.Proofs.YtldgljclcgaibaaGreat
open Go.Ab Go.Ab.Pg
abbrev Bf:=(Int×Int×Int×Int×Int)×Int×Nat×Int
def BR (T:Int)(b c:Bf):Prop:=(∀U,T<=U->b.2.2.2<=U->c.2.2.2<=U)∧c.2.1=b.2.1∧c.2.2.1<=b.2.2.1∧c.1.1=b.1.1∧c.1.2.1=b.1.2.1∧c.1.2.2.1=b.1.2.2.1∧c.1.2.2.2.1=b.1.2.2.2.1∧
 (0<=b.1.2.2.2.2->b.1.2.2.2.2+b.2.2.1<=4611686018427387904->0<=c.1.2.2.2.2∧c.1.2.2.2.2+c.2.2.1=b.1.2.2.2.2+b.2.2.1)
def PR (b c:Bf):Prop:=c.2.1=b.2.1∧c.1.1=wI (b.1.1+1)∧c.1.2.2.2.1=b.1.2.2.2.1∧c.1.2.2.2.2=b.1.2.2.2.2∧c.2.2.2=b.2.2.2∧
 ((c.1.2.1=wI (b.1.2.1+1)∧c.1.2.2.1=b.1.2.2.1∧c.2.2.1=b.2.2.1)∨(c.1.2.1=b.1.2.1∧c.1.2.2.1=b.1.2.2.1∧c.2.2.1=b.2.2.1+1∧((c.2.2.1:Nat):Int)<=b.2.1)∨
  (c.1.2.1=b.1.2.1∧c.1.2.2.1=wI (b.1.2.2.1+1)∧c.2.2.1=b.2.2.1))
def SR (b c:Bf):Prop:=c.2=b.2∧c.1=(wI (b.1.1+1),b.1.2.1,b.1.2.2.1,wI (b.1.2.2.2.1+1),b.1.2.2.2.2)
theorem BR.refl (T:Int)(b:Bf):BR T b b:=⟨λ_ _ h=>h,rfl,Nat.le_refl _,rfl,rfl,rfl,rfl,λh _=>⟨h,rfl⟩⟩
theorem BR.len {T:Int}{b c:Bf}(h:BR T b c):c.2.2.1<=b.2.2.1:=h.2.2.1
theorem BR.mono {T U:Int}{a b:Bf}(t:T<=U)(h:BR T a b):BR U a b:=⟨λV p q=>h.1 V (Int.le_trans t p) q,h.2⟩
theorem BR.trans {T:Int}{a b c:Bf}(h:BR T a b)(k:BR T b c):BR T a c:=by
 obtain⟨h0,h1,h2,h3,h4,h5,h6,h7⟩:=h
 obtain⟨k0,k1,k2,k3,k4,k5,k6,k7⟩:=k
 refine⟨λU p q=>k0 U p (h0 U p q),k1.trans h1,Nat.le_trans k2 h2,k3.trans h3,k4.trans h4,k5.trans h5,k6.trans h6,λp q=> ?_⟩
 obtain⟨r,s⟩:=h7 p q
 obtain⟨u,v⟩:=k7 r (by omega)
 exact⟨u,v.trans s⟩
theorem aHh (n:Nat)(p q z:Int)(w:Int×Int×Int×Int×Int)(d:fw.B)(hd:0<=d.1.2∧d.1.2<=(n:Int)∧d.2.1.2.2.1=n∧n<=1999∧d.2.1.2.1=z∧d.2.1.1=w∧d.1.1=p∧d.2.1.2.2.2=q):Ok (Dn d) (λx:mL=>match x with
   |.inl e=>0<=e.1.2.1∧e.1.2.1<=(n:Int)∧e.1.2.2.1=n∧e.2.1.2.1=z∧e.2.1.1=w∧e.1.1=p∧e.2.1.2.2=q
   |.inr e=>0<=e.1.2.1∧e.1.2.1<=(n:Int)∧e.1.2.2.1=n∧e.2.1.2.1=z∧e.2.1.1=w∧e.1.1=p∧e.2.1.2.2=q):=
 bd (s:=_) (λd:fw.B=>0<=d.1.2∧d.1.2<=(n:Int)∧d.2.1.2.2.1=n∧n<=1999∧d.2.1.2.1=z∧d.2.1.1=w∧d.1.1=p∧d.2.1.2.2.2=q) (λd:fw.B=>Int.toNat (n-d.1.2)) (λx:mL=>match x with
   |.inl e=>0<=e.1.2.1∧e.1.2.1<=(n:Int)∧e.1.2.2.1=n∧e.2.1.2.1=z∧e.2.1.1=w∧e.1.1=p∧e.2.1.2.2=q
   |.inr e=>0<=e.1.2.1∧e.1.2.1<=(n:Int)∧e.1.2.2.1=n∧e.2.1.2.1=z∧e.2.1.1=w∧e.1.1=p∧e.2.1.2.2=q) (λd hd=>by
  have hw:wI (d.1.2+1)=d.1.2+1:=bf (by omega) (by omega)
  obtain⟨i0,i1,i2,i3,i4,i5,i6⟩:=hd
  unfold Dm
  try dsimp only
  rw[aL]
  refine⟨λh=> ?_,λ_=>by rw[av];exact⟨i0,i1,i2,i4,i5,i6⟩⟩
  have h:=of_decide_eq_true h
  rw[Int.ofNat_eq_natCast] at h
  rw[bG,aL]
  refine⟨by simp only[bl];omega,λ_=> ?_,λ_=>by rw[av];exact⟨i0,i1,i2,i4,i5,i6⟩⟩
  rw[av,Sum.elim_inl]
  simp only[hw]
  exact⟨⟨by omega,by omega,i2,i3,i4,i5,i6⟩,by omega⟩) 2000 d hd (by omega)
theorem aOE (x:tT.B)(h:x.2.1.2.2.1<=1000):Ok (tU x) (λr:Ae=>r.1<=x.2.1.2.2.1∧BR x.1 x.2.1 r.2.1):=by
 unfold tU HX
 try dsimp only
 show PQ _ _
 rw[aR,bG]
 refine⟨rfl,aA (aHh x.2.1.2.2.1 x.1 x.2.1.2.2.2 x.2.1.2.1 x.2.1.1 _ ⟨by dsimp only;omega,by dsimp only;omega,rfl,by omega,rfl,rfl,rfl,rfl⟩) λy _ hy=> ?_⟩
 rw[zf]
 constructor
 all_goals
  rintro d rfl
  obtain⟨i0,i1,i2,i4,i5,i6,i7⟩:=hy
  rw[bG]
  refine⟨by simp only[abb];omega,?_⟩
  rw[aR,bG]
  refine⟨rfl,aA (aMl (Int.toNat d.1.2.1) (by omega) _ _ _ _ _ _ _ _ _ _) λd1 _ h1=> ?_⟩
  rw[aR,bG]
  refine⟨rfl,aA (aJI d.1.2.2.1 0 d.1.2.1 (by omega) i0 (by rw[i2];exact i1) _ _ _ _ _ _ _ _ _) λd2 _ h2=> ?_⟩
  rw[av]
  have h2:d2.1=x.2.1.2.2.1-Int.toNat d.1.2.1:=by rw[h2,i2];simp only[Int.toNat_zero];omega
  refine⟨?_,λU p q=> ?_,i4,?_,congrArg (λz=>z.1) i5,congrArg (λz=>z.2.1) i5,congrArg (λz=>z.2.2.1) i5,congrArg (λz=>z.2.2.2.1) i5,λp q=> ?_⟩
  ·show d1.1<=_
   rw[h1];omega
  ·show(if d.1.1>d.2.1.2.2 then d.1.1 else d.2.1.2.2)<=U
   rw[i6,i7];split<;>assumption
  ·show d2.1<=_
   rw[h2];omega
  ·have e:d.2.1.1.2.2.2.2=x.2.1.1.2.2.2.2:=congrArg (λz=>z.2.2.2.2) i5
   have hw:wI (d.2.1.1.2.2.2.2+d.1.2.1)=x.2.1.1.2.2.2.2+d.1.2.1:=by rw[e];exact eK (by omega) (by omega)
   show 0<=wI (d.2.1.1.2.2.2.2+d.1.2.1)∧wI (d.2.1.1.2.2.2.2+d.1.2.1)+((d2.1:Nat):Int)=_
   rw[hw,h2]
   omega
end Go.Proofs.YtldgljclcgaibaaGreat
noncomputable section
namespace Go.Proofs.YtldgljclcgaibaaGreat
open Go.Ab Go.Ab.Pg Go.Ab.Rq
def aE3:=qa (pr (cu aN (c jW YS)) cq)
def aqE:=qe (res (pr (aa azZ) (pl k9 nil)))
abbrev aE4:=aqE.B
abbrev aE5:=NI->Int->Int->Int->Int->Int->Int->Int->Int->Bool->Option aE4
def aE6 (g:aE5):Ct:=(164,FC aE3 (lf aqE) (λb=>g b.1.1 b.1.2.1 b.1.b.1 b.1.b.2.1.1 b.1.b.2.1.2.1 b.1.b.2.1.b b.1.c.1 b.1.c.2.1 b.1.c.b b.2))
def sj:=qs (st (pr (cu aN (us 5 (cu Oi (cu awb (cu aMF (cu aEb (us 1 (cu aMG (cu aMH (c ai (c ai (us 98 (c ai (us 12 (c acU (cl ai (us 64 nil))))))))))))))))) (pl (c ch (c lg (c (so ac3) (c uC (c lg (c (so (c gi (c gi (c gi (c gi aui))))) ahX)))))) cy)))
def aye:=qs (st (pr (cu aN (us 5 (cu Oi (cu awb (cu aMF (cu aEb (us 1 (cu aMG (cu aMH (c ai (c ai (us 98 (c ai (us 12 (c acU (c ai (cl ab (us 63 nil)))))))))))))))))) (pl (c ch (c lg (c (so ac3) (c uC (c lg (c (so (c gi (c gi (c gi (c gi aui))))) ahX)))))) cy)))
abbrev IT:=aye.B
def ayf {ρ:Type}:=@ef IT ((.ex 2)) aye ρ
def alh (aB:bJ)(d:sj.B):PL sj IT:=let n6:=d.1.1;let n4:=d.1.2;let n3:=d.2.2.2;let n5:=n3.2.2;let n2:=n4.2.2;let n1:=(n6,n4.1,n4.2.1,n2.1,wI (n2.2+1));let y0:=wI (0+n4.1);let y1:=wI (10+n2.2);let y2:=decide (n2.2<3);let y3:=Int.toNat y0*24+Int.toNat y1;ae y2 (ae (aW n2.2 3) (ae (n2.2==2) (opt (aB n6 n2.1.2.2 30 d.2.1) λaj=>ae (aW y0 24) (ae (aW y1 24) (ae (true&&Nat.ble (0+y3*1+1) 576) (ret (Sum.inl (n1,aj.2,d.2.2.1,n3.1,n3.2.1,λj=>bif Nat.beq j y3 then wI (0-aj.1) else n5.1 j,n5.2))) no) no) no) (ae (n2.2==1) (opt (aB n6 n2.1.2.1 30 d.2.1) λaj=>ae (aW y0 24) (ae (aW y1 24) (ae (true&&Nat.ble (0+y3*1+1) 576) (ret (Sum.inl (n1,aj.2,d.2.2.1,n3.1,n3.2.1,λj=>bif Nat.beq j y3 then wI (0-aj.1) else n5.1 j,n5.2))) no) no) no) (opt (aB n6 n2.1.1 30 d.2.1) λaj=>ae (aW y0 24) (ae (aW y1 24) (ae (true&&Nat.ble (0+y3*1+1) 576) (ret (Sum.inl (n1,aj.2,d.2.2.1,n3.1,n3.2.1,λj=>bif Nat.beq j y3 then wI (0-aj.1) else n5.1 j,n5.2))) no) no) no))) no) (ret (Sum.inr ((n6,n4.1,n4.2.1,n2.1,n2.2,y2),d.2)))
def ali:=bA (alh aT) 2000
def sk:=qs (st (pr (cu aN (us 5 (cu Oi (cu awb (us 1 (cu aMI (us 7 (cu aMJ (c ai (us 130 (c ai (us 10 aPD)))))))))))) (pl (c ch (c lg (c (so ac3) (c lg ahX)))) cy)))
def ayg:=qs (st (pr (cu aN (us 5 (cu Oi (cu awb (us 1 (cu aMI (us 7 (cu aMJ (c ai (us 130 (c ai (us 10 aPH)))))))))))) (pl (c ch (c lg (c (so ac3) (c lg ahX)))) cy)))
abbrev IU:=ayg.B
def ayh {ρ:Type}:=@ef IU ((.ex 6)) ayg ρ
def alj (aB:bJ)(d:sk.B):PL sk IU:=let n2:=d.2.2.2;let n1:=d.1.2;let y0:=wI (4+d.1.1);let y1:=wI (13+n1.2);let y2:=decide (n1.2<3);let y3:=wI (wI (3*d.1.1)+n1.2);let y4:=Int.toNat y0*24+Int.toNat y1;ae y2 (ae (aW y3 9) (opt (aB (n2.1.2.2.2.2.2.2.2.2.2.2.2 (Int.toNat y3)) n2.1.1 30 d.2.1) λaj=>ae (aW y0 24) (ae (aW y1 24) (ae (true&&Nat.ble (0+y4*1+1) 576) (ret (Sum.inl ((d.1.1,n1.1,wI (n1.2+1)),aj.2,d.2.2.1,n2.1,λj=>bif Nat.beq j y4 then wI (0-aj.1) else n2.2.1 j,n2.2.2))) no) no) no) no) (ret (Sum.inr ((d.1.1,n1.1,n1.2,y2),d.2)))
def alk:=bA (alj aT) 2000
def sr:=qs (st (pr (cu aN (us 5 (cu Oi (cu awb (cu aMF (cu aEb (us 1 (cu aMG (cu aMH (c ai (us 99 (cl ai (us 78 nil))))))))))))) (pl (c ch (c lg (c (so ac3) (c uC (c lg (c (so (c gi (c gi (c gi (c gi aui))))) ahX)))))) cy)))
def ayi:=qs (st (pr (cu aN (us 5 (cu Oi (cu awb (cu aMF (cu aEb (us 1 (cu aMG (cu aMH (c ai (us 99 (c ai (cl ab (us 77 nil)))))))))))))) (pl (c ch (c lg (c (so ac3) (c uC (c lg (c (so (c gi (c gi (c gi (c gi aui))))) ahX)))))) cy)))
abbrev IV:=ayi.B
def ayj {ρ:Type}:=@ef IV ((.ex 0)) ayi ρ
def alm (qX:LT sj IT)(d:sr.B):PL sr IV:=let bL:=d.2.1;let bu:=d.1.1;let bc:=d.2.2.1;let n7:=d.1.2;let n6:=d.2.2.2;let n15:=n6.2.1;let bg:=n6.2.2.1;let n4:=n6.2.2.2;let n21:=n4.2.2.2;let n17:=n4.1.2;let bq:=n21.2.2.2;let n20:=bq.2.2.2;let n9:=n17.2.2;let n18:=n9.2.2;let n5:=n18.2.2;let n19:=n5.2.2;let n8:=n19.2.2;let n16:=n8.2.2;let n3:=(n4.2.1,n4.2.2.1,n21.1);let n2:=(n21.2.1,n21.2.2.1,bq.1);let n1:=(bq.2.1,bq.2.2.1,n20.1);let y0:=aW n7 4;let y1:=n7==2;let y2:=n7==1;let y3:=n7==3;let y4:=wI (0+n7);let y5:=0+Int.toNat y4*24;let y6:=y5+1;let y7:=true&&Nat.ble (y5+4) 576;let y8:=y6+1;let y9:=decide (n7<4);ae y9 (ae (aW y4 24) (ae y0 (ae y3 (ae y7 (ae y0 (ae y3 (opt (qX ((bu,n7,n7,n20.2,0),bL,bc,n6.1,n15,λj=>bif Nat.beq j (y8+1) then n16.2.2 else bif Nat.beq j y8 then n16.2.1 else bif Nat.beq j y6 then n16.1 else bif Nat.beq j y5 then n8.2.1 else bg j,n4)) λd=>ret (Sum.inl ((d.1.1,wI (d.1.2.2.1+1)),d.2))) (ae y1 (opt (qX ((bu,n7,n7,n1,0),bL,bc,n6.1,n15,λj=>bif Nat.beq j (y8+1) then n16.2.2 else bif Nat.beq j y8 then n16.2.1 else bif Nat.beq j y6 then n16.1 else bif Nat.beq j y5 then n8.2.1 else bg j,n4)) λd=>ret (Sum.inl ((d.1.1,wI (d.1.2.2.1+1)),d.2))) (ae y2 (opt (qX ((bu,n7,n7,n2,0),bL,bc,n6.1,n15,λj=>bif Nat.beq j (y8+1) then n16.2.2 else bif Nat.beq j y8 then n16.2.1 else bif Nat.beq j y6 then n16.1 else bif Nat.beq j y5 then n8.2.1 else bg j,n4)) λd=>ret (Sum.inl ((d.1.1,wI (d.1.2.2.1+1)),d.2))) (opt (qX ((bu,n7,n7,n3,0),bL,bc,n6.1,n15,λj=>bif Nat.beq j (y8+1) then n16.2.2 else bif Nat.beq j y8 then n16.2.1 else bif Nat.beq j y6 then n16.1 else bif Nat.beq j y5 then n8.2.1 else bg j,n4)) λd=>ret (Sum.inl ((d.1.1,wI (d.1.2.2.1+1)),d.2)))))) no) no) (ae y1 (ae y7 (ae y0 (ae y3 (opt (qX ((bu,n7,n7,n20.2,0),bL,bc,n6.1,n15,λj=>bif Nat.beq j (y8+1) then n8.1 else bif Nat.beq j y8 then n19.2.1 else bif Nat.beq j y6 then n19.1 else bif Nat.beq j y5 then n5.2.1 else bg j,n4)) λd=>ret (Sum.inl ((d.1.1,wI (d.1.2.2.1+1)),d.2))) (ae y1 (opt (qX ((bu,n7,n7,n1,0),bL,bc,n6.1,n15,λj=>bif Nat.beq j (y8+1) then n8.1 else bif Nat.beq j y8 then n19.2.1 else bif Nat.beq j y6 then n19.1 else bif Nat.beq j y5 then n5.2.1 else bg j,n4)) λd=>ret (Sum.inl ((d.1.1,wI (d.1.2.2.1+1)),d.2))) (ae y2 (opt (qX ((bu,n7,n7,n2,0),bL,bc,n6.1,n15,λj=>bif Nat.beq j (y8+1) then n8.1 else bif Nat.beq j y8 then n19.2.1 else bif Nat.beq j y6 then n19.1 else bif Nat.beq j y5 then n5.2.1 else bg j,n4)) λd=>ret (Sum.inl ((d.1.1,wI (d.1.2.2.1+1)),d.2))) (opt (qX ((bu,n7,n7,n3,0),bL,bc,n6.1,n15,λj=>bif Nat.beq j (y8+1) then n8.1 else bif Nat.beq j y8 then n19.2.1 else bif Nat.beq j y6 then n19.1 else bif Nat.beq j y5 then n5.2.1 else bg j,n4)) λd=>ret (Sum.inl ((d.1.1,wI (d.1.2.2.1+1)),d.2)))))) no) no) (ae y2 (ae y7 (ae y0 (ae y3 (opt (qX ((bu,n7,n7,n20.2,0),bL,bc,n6.1,n15,λj=>bif Nat.beq j (y8+1) then n5.1 else bif Nat.beq j y8 then n18.2.1 else bif Nat.beq j y6 then n18.1 else bif Nat.beq j y5 then n9.2.1 else bg j,n4)) λd=>ret (Sum.inl ((d.1.1,wI (d.1.2.2.1+1)),d.2))) (ae y1 (opt (qX ((bu,n7,n7,n1,0),bL,bc,n6.1,n15,λj=>bif Nat.beq j (y8+1) then n5.1 else bif Nat.beq j y8 then n18.2.1 else bif Nat.beq j y6 then n18.1 else bif Nat.beq j y5 then n9.2.1 else bg j,n4)) λd=>ret (Sum.inl ((d.1.1,wI (d.1.2.2.1+1)),d.2))) (ae y2 (opt (qX ((bu,n7,n7,n2,0),bL,bc,n6.1,n15,λj=>bif Nat.beq j (y8+1) then n5.1 else bif Nat.beq j y8 then n18.2.1 else bif Nat.beq j y6 then n18.1 else bif Nat.beq j y5 then n9.2.1 else bg j,n4)) λd=>ret (Sum.inl ((d.1.1,wI (d.1.2.2.1+1)),d.2))) (opt (qX ((bu,n7,n7,n3,0),bL,bc,n6.1,n15,λj=>bif Nat.beq j (y8+1) then n5.1 else bif Nat.beq j y8 then n18.2.1 else bif Nat.beq j y6 then n18.1 else bif Nat.beq j y5 then n9.2.1 else bg j,n4)) λd=>ret (Sum.inl ((d.1.1,wI (d.1.2.2.1+1)),d.2)))))) no) no) (ae y7 (ae y0 (ae y3 (opt (qX ((bu,n7,n7,n20.2,0),bL,bc,n6.1,n15,λj=>bif Nat.beq j (y8+1) then n9.1 else bif Nat.beq j y8 then n17.2.1 else bif Nat.beq j y6 then n17.1 else bif Nat.beq j y5 then n4.1.1 else bg j,n4)) λd=>ret (Sum.inl ((d.1.1,wI (d.1.2.2.1+1)),d.2))) (ae y1 (opt (qX ((bu,n7,n7,n1,0),bL,bc,n6.1,n15,λj=>bif Nat.beq j (y8+1) then n9.1 else bif Nat.beq j y8 then n17.2.1 else bif Nat.beq j y6 then n17.1 else bif Nat.beq j y5 then n4.1.1 else bg j,n4)) λd=>ret (Sum.inl ((d.1.1,wI (d.1.2.2.1+1)),d.2))) (ae y2 (opt (qX ((bu,n7,n7,n2,0),bL,bc,n6.1,n15,λj=>bif Nat.beq j (y8+1) then n9.1 else bif Nat.beq j y8 then n17.2.1 else bif Nat.beq j y6 then n17.1 else bif Nat.beq j y5 then n4.1.1 else bg j,n4)) λd=>ret (Sum.inl ((d.1.1,wI (d.1.2.2.1+1)),d.2))) (opt (qX ((bu,n7,n7,n3,0),bL,bc,n6.1,n15,λj=>bif Nat.beq j (y8+1) then n9.1 else bif Nat.beq j y8 then n17.2.1 else bif Nat.beq j y6 then n17.1 else bif Nat.beq j y5 then n4.1.1 else bg j,n4)) λd=>ret (Sum.inl ((d.1.1,wI (d.1.2.2.1+1)),d.2)))))) no) no)))) no) no) (ret (Sum.inr ((bu,n7,y9),d.2)))
def aln:=bA (alm ali) 2000
def ss:=qs (st (pr (cu aN (us 5 (cu Oi (cu awb (us 1 (cu aMI (us 7 (cu aMJ (us 131 (cl ai (us 42 nil))))))))))) (pl (c ch (c lg (c (so ac3) (c lg ahX)))) cy)))
def ayk:=qs (st (pr (cu aN (us 5 (cu Oi (cu awb (us 1 (cu aMI (us 7 (cu aMJ (us 131 (c ai (cl ab (us 41 nil)))))))))))) (pl (c ch (c lg (c (so ac3) (c lg ahX)))) cy)))
abbrev IW:=ayk.B
def ayl {ρ:Type}:=@ef IW ((.ex 4)) ayk ρ
def alo (l_3:LT sk IU)(d:ss.B):PL ss IW:=let n3:=d.2.2;let n1:=n3.2.2.2;let n2:=n1.2.2.2.2.2;let n4:=n2.2.2.2;let y0:=wI (4+d.1);let y1:=0+Int.toNat y0*24;let y2:=y1+1;let y3:=true&&Nat.ble (y1+4) 576;let y4:=y2+1;let y5:=decide (d.1<3);ae y5 (ae (aW y0 24) (ae (aW d.1 3) (ae (d.1==2) (ae y3 (opt (l_3 ((d.1,d.1,0),d.2.1,n3.1,n3.2.1,λj=>bif Nat.beq j (y4+1) then n4.2.2.2 else bif Nat.beq j y4 then n4.2.2.1 else bif Nat.beq j y2 then n4.2.1 else bif Nat.beq j y1 then n4.1 else n3.2.2.1 j,n1)) λd=>let n5:=d.2.2.2;let y0:=wI (7+d.1.1);let y1:=wI (4+d.1.1);let y2:=Int.toNat y0*24+Int.toNat y1;ae (aW y0 24) (ae (aW y1 24) (ae (true&&Nat.ble (0+y2*1+1) 576) (ret (Sum.inl (wI (d.1.2.1+1),d.2.1,d.2.2.1,n5.1,λj=>bif Nat.beq j y2 then n5.1.1 else n5.2.1 j,n5.2.2))) no) no) no) no) (ae (d.1==1) (ae y3 (opt (l_3 ((d.1,d.1,0),d.2.1,n3.1,n3.2.1,λj=>bif Nat.beq j (y4+1) then n2.2.2.1 else bif Nat.beq j y4 then n2.2.1 else bif Nat.beq j y2 then n2.1 else bif Nat.beq j y1 then n1.2.2.2.2.1 else n3.2.2.1 j,n1)) λd=>let n6:=d.2.2.2;let y0:=wI (7+d.1.1);let y1:=wI (4+d.1.1);let y2:=Int.toNat y0*24+Int.toNat y1;ae (aW y0 24) (ae (aW y1 24) (ae (true&&Nat.ble (0+y2*1+1) 576) (ret (Sum.inl (wI (d.1.2.1+1),d.2.1,d.2.2.1,n6.1,λj=>bif Nat.beq j y2 then n6.1.1 else n6.2.1 j,n6.2.2))) no) no) no) no) (ae y3 (opt (l_3 ((d.1,d.1,0),d.2.1,n3.1,n3.2.1,λj=>bif Nat.beq j (y4+1) then n1.2.2.2.1 else bif Nat.beq j y4 then n1.2.2.1 else bif Nat.beq j y2 then n1.2.1 else bif Nat.beq j y1 then n1.1 else n3.2.2.1 j,n1)) λd=>let n7:=d.2.2.2;let y0:=wI (4+d.1.1);let y1:=wI (7+d.1.1);let y2:=Int.toNat y1*24+Int.toNat y0;ae (aW y1 24) (ae (aW y0 24) (ae (true&&Nat.ble (0+y2*1+1) 576) (ret (Sum.inl (wI (d.1.2.1+1),d.2.1,d.2.2.1,n7.1,λj=>bif Nat.beq j y2 then n7.1.1 else n7.2.1 j,n7.2.2))) no) no) no) no))) no) no) (ret (Sum.inr ((d.1,y5),d.2)))
def alp:=bA (alo alk) 2000
def avG (xY:J5)(aM:eI)(ba:dA)(QE:AQ)(aB:bJ)(aam:Gg)(dI:LT sr IV)(J1:LT ss IW)(x0:Nat->Int)(x1:Int)(x2:Int)(x3:Int)(x4:Int)(x5:Int)(x6:Int)(x7:Int)(x8:Int)(x9:Bool):Pg aE4:=opt (xY x0 x1 x2 x3 x4 x5 x6 x7 x8 x9) λd=>let n1:=d.1.2.2.2.2.2.2.2;let n3:=n1.2.2;let y0:=wI (0-n1.2.1);let y1:=wI (0-n3.1);let y2:=wI (0-n3.2.1);opt (aM x0 d.2) λaj=>opt (ba aj.1) λaI=>let uy:=wI (0-aI.2.1);let awT:=wI (0-aI.2.2.2);let aVa:=wI (0-aI.2.2.1);opt QE λbp=>opt (aB d.1.1 536870912 30 aj.2) λcg=>opt (dI ((cg.1,0),cg.2,λx=>0,d.1,aI,bp,(n1.1,y0,y1,y2,n1.2.1,n1.1,n3.2.1,y1,n3.1,y2,n1.1,n1.2.1,n3.2.1,n3.1,y0,n1.1),uy,aVa,awT,aI.1,awT,aI.2.2.1,aI.2.2.2,aI.1,uy,aVa,aI.2.1,aI.1)) λd=>let n2:=d.2.2.2;let n4:=n2.1.2.2.2.2;opt (aam n2.2.1.1 n2.2.1.2.1 n2.2.1.2.2.1 n2.2.1.2.2.2 n4.1 n4.2.1 n4.2.2.1 d.2.1) λdF=>opt (J1 (0,dF.2,d.2.2.1,n2.1,n2.2.2.1,dF.1)) λd=>ret (d.2.2.2.2.1,d.2.1)
def acg:=λx0 x1 x2 x3 x4 x5 x6 x7 x8 x9=>(avG tE bT bV mf aT wH aln alp x0 x1 x2 x3 x4 x5 x6 x7 x8 x9).val
abbrev M6:=J5×eI×dA×AQ×bJ×Gg×(LT sj IT)×(LT sk IU)×(LT sr IV)×(LT ss IW)
def Ta (p:M6):KK:=⟨[UJ p.1,ix p.2.1,iI p.b.1,Qq p.b.2.1,eG p.c.1,aad p.c.2.1],⟨[⟨9,(rg 1 5 (10::rg 14 99 (rg 114 78 []))),[]⟩,⟨13,(rg 1 5 (10::rg 15 98 (rg 114 12 (rg 128 64 [])))),[]⟩,⟨20,(rg 1 5 (8::rg 10 7 (rg 18 131 (rg 150 42 [])))),[]⟩,⟨24,(rg 1 5 (8::rg 10 7 (rg 19 130 (rg 150 10 (rg 161 31 []))))),[]⟩],[fH 13 1 sj ayf p.c.b.1,fH 24 1 sk ayh p.c.b.2.1,fH 9 1 sr ayj p.d.1,fH 20 1 ss ayl p.d.2],[],[],(some ⟨0,(rg 0 6 (rg 7 185 [])),[]⟩)⟩,1,164⟩
theorem aHi (p:M6):LI (Ta p) 13 sj ayf (alh p.c.1):=λ_ d c K=>by kernel_rfl
theorem aHj (p:M6):LI (Ta p) 24 sk ayh (alj p.c.1):=λ_ d c K=>by kernel_rfl
theorem aHk (p:M6):LI (Ta p) 9 sr ayj (alm p.c.b.1):=λ_ d c K=>by kernel_rfl
theorem aHl (p:M6):LI (Ta p) 20 ss ayl (alo p.c.b.2.1):=λ_ d c K=>by kernel_rfl
theorem aOF (p:M6):D2 (Ta p) aE3 (lf aqE) λb=>avG p.1 p.2.1 p.b.1 p.b.2.1 p.c.1 p.c.2.1 p.d.1 p.d.2 b.1.1 b.1.2.1 b.1.b.1 b.1.b.2.1.1 b.1.b.2.1.2.1 b.1.b.2.1.b b.1.c.1 b.1.c.2.1 b.1.c.b b.2:=λb=>by kernel_rfl
abbrev Tb:M6:=(tE,bT,bV,mf,aT,wH,ali,alk,aln,alp)
theorem aOG [ax]:SC (aE6 acg):=sc (kS (k:=Ta Tb) (.c ajK (.c ji (.c jA (.c agc (.c eV (.c aoo (.nil _))))))) [9,13,20,24] [] ⟨kL (aHk Tb),⟨kL (aHi Tb),⟨kL (aHl Tb),⟨kL (aHj Tb),trivial⟩⟩⟩⟩ trivial (aOF Tb))
def aym:=qa (pr (cu aN (c xF (c jW (c (aa aFE) apm)))) cq)
def afq:=qe aKX
abbrev ayn:=afq.B
abbrev alq:=NI->NI->NI->Int->Int->Int->Int->Int->Int->Int->Int->NI->Bool->Option ayn
def ayo (g:alq):Ct:=(107,FC aym (lf afq) (λb=>g b.1.1.1 b.1.1.2 b.1.2.1 b.1.b.1.1 b.1.b.1.2.1 b.1.b.1.b.1.1 b.1.b.1.b.1.2.1 b.1.b.1.b.1.b b.1.b.1.b.2.1 b.1.b.1.c.1 b.1.b.1.c.2 b.1.b.2 b.2))
def alr (al6:aE5)(S3:asx)(th:Ei)(x0:Nat->Int)(x1:Nat->Int)(x2:Nat->Int)(x3:Int)(x4:Int)(x5:Int)(x6:Int)(x7:Int)(x8:Int)(x9:Int)(fS:Int)(fT:Nat->Int)(BF:Bool):Pg ayn:=opt (al6 x2 x3 x4 x5 x6 x7 x8 x9 fS BF) λd=>opt (S3 fT x4 d.2) λaj=>opt (th x0 x1 d.1 aj.1 aj.2) λd=>ret d
def IX:=λx0 x1 x2 x3 x4 x5 x6 x7 x8 x9 fS fT BF=>(alr acg Ka jk x0 x1 x2 x3 x4 x5 x6 x7 x8 x9 fS fT BF).val
theorem aJM:∀al6 S3 th,D0 [aE6 al6,asy S3,Mv th] 107 aym (lf afq) λb=>alr al6 S3 th b.1.1.1 b.1.1.2 b.1.2.1 b.1.b.1.1 b.1.b.1.2.1 b.1.b.1.b.1.1 b.1.b.1.b.1.2.1 b.1.b.1.b.1.b b.1.b.1.b.2.1 b.1.b.1.c.1 b.1.b.1.c.2 b.1.b.2 b.2:=λ_ _ _ b=>by kernel_rfl
theorem aJN [ax]:SC (ayo IX):=s0 (.c aOG (.c aGJ (.c abz (.nil _)))) (aJM acg Ka jk)
def Wh:=qa (pr (cu aN Cz) cq)
def K2:=qe aKO
def At:=qe aua
abbrev Au:=K2.B⊕At.B
def RX:Au->T:=ls (lf K2) (lf At)
def Wi:Au->T:=ls (λ_=>.fail) (lf At)
abbrev Wj:=Int->Int->Int->Bool->Option Au
def Wk (g:Wj):Ct:=(119,FC Wh Wi (λb=>g b.1.1 b.1.2.1 b.1.b b.2))
def Ic (x0:Int)(x1:Int)(x2:Int)(x3:Bool):Pg Au:=ae (decide (x1>x2)) (ret (Sum.inl x1)) (ae (decide (x0<x1)) (ret (Sum.inl x1)) (ae (decide (x0>x2)) (ret (Sum.inl x2)) (ret (Sum.inr x0))))
def ui:=λx0 x1 x2 x3=>(Ic x0 x1 x2 x3).val
theorem aqF:D0 [] 119 Wh RX λb=>Ic b.1.1 b.1.2.1 b.1.b b.2:=λb=>by kernel_rfl
theorem aqG [ax]:SC (Wk ui):=sc (CH (R:=RX) (R':=Wi) (λd r h=>by rcases d with d|d<;>first|exact h|(have h:(none:Option m4)=some r:=h;cases h))<|k0 (.nil _) aqF)
def ach:=qa (pr (cu aN fM) cq)
def K3:=qe aua
abbrev aci:=K3.B
abbrev M7:=Int->Bool->Option aci
def M8 (g:M7):Ct:=(126,FC ach (lf K3) (λb=>g b.1 b.2))
def M9 (Av:Wj)(x0:Int)(x1:Bool):Pg aci:=opt (Av x0 (-1152921504606846976) 1152921504606846976 x1) λd=>sm d (λd=>no) (λd=>ret d)
def oV:=λx0 x1=>(M9 ui x0 x1).val
theorem avH:∀Av,D0 [Wk Av] 126 ach (lf K3) λb=>M9 Av b.1 b.2:=λ_ b=>by kernel_rfl
theorem acj [ax]:SC (M8 oV):=s0 (.c aqG (.nil _)) (avH ui)
def ack:=qa (pr (cu aN (c ai (c ab aHJ))) cq)
def Pp:=qe aKO
def DE:=qe aua
abbrev Ev:=Pp.B⊕DE.B
def YB:Ev->T:=ls (lf Pp) (lf DE)
def acm:Ev->T:=ls (λ_=>.fail) (lf DE)
abbrev acn:=Int->Bool->Bool->Bool->Option Ev
def aco (g:acn):Ct:=(198,FC ack acm (λb=>g b.1.1 b.1.2.1 b.1.b b.2))
def M' (iF:TG)(iu:M7)(x0:Int)(x1:Bool)(x2:Bool)(x3:Bool):Pg Ev:=ae (!x1) (opt (iF x2) λd=>ret (Sum.inl d)) (opt (iu x0 x3) λd=>ret (Sum.inr d))
def yA:=λx0 x1 x2 x3=>(M' oK oV x0 x1 x2 x3).val
theorem avI:∀iF iu,D0 [TH iF,M8 iu] 198 ack YB λb=>M' iF iu b.1.1 b.1.2.1 b.1.b b.2:=λ_ _ b=>by kernel_rfl
theorem avJ [ax]:SC (aco yA):=sc (CH (R:=YB) (R':=acm) (λd r h=>by rcases d with d|d<;>first|exact h|(have h:(none:Option m4)=some r:=h;cases h))<|k0 (.c adF (.c acj (.nil _))) (avI oK oV))
def ahb:=qa (pr (cu aN (c acS fM)) cq)
def RY:=qe aKO
def FH:=qe aua
abbrev Hi:=RY.B⊕FH.B
def acp:Hi->T:=ls (lf RY) (lf FH)
def ahc:Hi->T:=ls (λ_=>.fail) (lf FH)
abbrev ahd:=Int->Int->Int->Bool->Option Hi
def ahe (g:ahd):Ct:=(128,FC ahb ahc (λb=>g b.1.1.1 b.1.1.2 b.1.2 b.2))
def Rp (iF:TG)(vD:aiG)(Ew:acn)(x0:Int)(x1:Int)(x2:Int)(x3:Bool):Pg Hi:=let y0:=decide (x0<0);ae (x2==0) (ae (x0==0&&(x1==0&&true)) (ret (Sum.inl 0)) (opt (iF y0) λd=>ret (Sum.inl d))) (opt (vD x0 x1 x2) λd=>opt (Ew d.1 d.2 (!y0==decide (x2<0)) x3) λd=>sm d (λd=>no) (λd=>ret (Sum.inr d)))
def Hj:=λx0 x1 x2 x3=>(Rp oK yN yA x0 x1 x2 x3).val
theorem azv:∀iF vD Ew,D0 [TH iF,aiH vD,aco Ew] 128 ahb acp λb=>Rp iF vD Ew b.1.1.1 b.1.1.2 b.1.2 b.2:=λ_ _ _ b=>by kernel_rfl
theorem azw [ax]:SC (ahe Hj):=sc (CH (R:=acp) (R':=ahc) (λd r h=>by rcases d with d|d<;>first|exact h|(have h:(none:Option m4)=some r:=h;cases h))<|k0 (.c adF (.c awI (.c avJ (.nil _)))) (azv oK yN yA))
def RZ:=qa (pr (cu aN Cz) cq)
def DF:=qe aua
abbrev R4:=DF.B
abbrev FI:=Int->Int->Int->Bool->Option R4
def FJ (g:FI):Ct:=(78,FC RZ (lf DF) (λb=>g b.1.1 b.1.2.1 b.1.b b.2))
def FK (iu:M7)(cA:mC)(Hk:ahd)(x0:Int)(x1:Int)(x2:Int)(x3:Bool):Pg R4:=opt (iu x0 x3) λd=>opt (iu x1 x3) λaj=>opt (cA d aj) λd=>opt (iu x2 x3) λaI=>opt (Hk d.1 d.2 aI x3) λd=>sm d (λd=>no) (λd=>ret d)
def jm:=λx0 x1 x2 x3=>(FK oV eN Hj x0 x1 x2 x3).val
theorem amH:∀iu cA Hk,D0 [M8 iu,vA cA,ahe Hk] 78 RZ (lf DF) λb=>FK iu cA Hk b.1.1 b.1.2.1 b.1.b b.2:=λ_ _ _ b=>by kernel_rfl
theorem R5 [ax]:SC (FJ jm):=s0 (.c acj (.c yM (.c azw (.nil _)))) (amH oV eN Hj)
def EM:=qa (pr (c ai (c ai aFw)) (cu azX cq))
def uj:=qe aKD
abbrev EN:=uj.B
abbrev uV:=Int->Int->Int->Int->Bool->Option EN
def uW (g:uV):Ct:=(194,FC EM (lf uj) (λb=>g b.1.1 b.1.2.1 b.1.b.1 b.1.b.2 b.2))
def uX (aP:FI)(x0:Int)(x1:Int)(x2:Int)(x3:Int)(x4:Bool):Pg EN:=opt (aP (wI (x1-x0)) x2 x3 x4) λd=>ret (wI (x0+d))
def fO:=λx0 x1 x2 x3 x4=>(uX jm x0 x1 x2 x3 x4).val
theorem WZ:∀aP,D0 [FJ aP] 194 EM (lf uj) λb=>uX aP b.1.1 b.1.2.1 b.1.b.1 b.1.b.2 b.2:=λ_ b=>by kernel_rfl
theorem EO [ax]:SC (uW fO):=s0 (.c R5 (.nil _)) (WZ jm)
def EP:=qa (pr (cl (aa (c gi az3)) (cu aN (cu Oj (cu (app 2 1) nil)))) (cu (cu (gc (ccl (pu (nat 194) (pu rq7 (pu xE Cw))))) nil) (c kD (c kD (cu (cu (gp 4 1) nil) cq)))))
def uk:=qe (res (pl ai (pu aP3 nil)))
abbrev ER:=uk.B
abbrev ES:=Int->Int->Int->Int->Int->Int->Int->Int->Int->Bool->Option ER
def ET (g:ES):Ct:=(195,FC EP (lf uk) (λb=>g b.1.1 b.1.2.1 b.1.b.1 b.1.b.2.1 b.1.c.1 b.1.c.2.1 b.1.c.b b.2.1 b.b.1 b.b.2))
def uY (ak:uV)(x0:Int)(x1:Int)(x2:Int)(x3:Int)(x4:Int)(x5:Int)(x6:Int)(x7:Int)(x8:Int)(x9:Bool):Pg ER:=let y0:=wI (x2*1073741824);let y1:=wI (x6*1073741824);let y2:=wI (x3*1073741824);let y3:=wI (x0*1073741824);let y4:=wI (x7+1);let y5:=wI (x5*1073741824);let y6:=wI (x1*1073741824);let y7:=wI (x4*1073741824);let y8:=aW y4 7;let y9:=y4==5;let tV:=y4==1;let tW:=y4==6;let w7:=y4==2;let w9:=y4==3;let xc:=y4==4;ae (aW x7 7) (ae (x7==6) (ae y8 (ae tW (opt (ak y1 y1 x8 600000000 x9) λd=>ret d) (ae y9 (opt (ak y1 y5 x8 600000000 x9) λd=>ret d) (ae xc (opt (ak y1 y7 x8 600000000 x9) λd=>ret d) (ae w9 (opt (ak y1 y2 x8 600000000 x9) λd=>ret d) (ae w7 (opt (ak y1 y0 x8 600000000 x9) λd=>ret d) (ae tV (opt (ak y1 y6 x8 600000000 x9) λd=>ret d) (opt (ak y1 y3 x8 600000000 x9) λd=>ret d))))))) no) (ae (x7==5) (ae y8 (ae tW (opt (ak y5 y1 x8 600000000 x9) λd=>ret d) (ae y9 (opt (ak y5 y5 x8 600000000 x9) λd=>ret d) (ae xc (opt (ak y5 y7 x8 600000000 x9) λd=>ret d) (ae w9 (opt (ak y5 y2 x8 600000000 x9) λd=>ret d) (ae w7 (opt (ak y5 y0 x8 600000000 x9) λd=>ret d) (ae tV (opt (ak y5 y6 x8 600000000 x9) λd=>ret d) (opt (ak y5 y3 x8 600000000 x9) λd=>ret d))))))) no) (ae (x7==4) (ae y8 (ae tW (opt (ak y7 y1 x8 600000000 x9) λd=>ret d) (ae y9 (opt (ak y7 y5 x8 600000000 x9) λd=>ret d) (ae xc (opt (ak y7 y7 x8 600000000 x9) λd=>ret d) (ae w9 (opt (ak y7 y2 x8 600000000 x9) λd=>ret d) (ae w7 (opt (ak y7 y0 x8 600000000 x9) λd=>ret d) (ae tV (opt (ak y7 y6 x8 600000000 x9) λd=>ret d) (opt (ak y7 y3 x8 600000000 x9) λd=>ret d))))))) no) (ae (x7==3) (ae y8 (ae tW (opt (ak y2 y1 x8 600000000 x9) λd=>ret d) (ae y9 (opt (ak y2 y5 x8 600000000 x9) λd=>ret d) (ae xc (opt (ak y2 y7 x8 600000000 x9) λd=>ret d) (ae w9 (opt (ak y2 y2 x8 600000000 x9) λd=>ret d) (ae w7 (opt (ak y2 y0 x8 600000000 x9) λd=>ret d) (ae tV (opt (ak y2 y6 x8 600000000 x9) λd=>ret d) (opt (ak y2 y3 x8 600000000 x9) λd=>ret d))))))) no) (ae (x7==2) (ae y8 (ae tW (opt (ak y0 y1 x8 600000000 x9) λd=>ret d) (ae y9 (opt (ak y0 y5 x8 600000000 x9) λd=>ret d) (ae xc (opt (ak y0 y7 x8 600000000 x9) λd=>ret d) (ae w9 (opt (ak y0 y2 x8 600000000 x9) λd=>ret d) (ae w7 (opt (ak y0 y0 x8 600000000 x9) λd=>ret d) (ae tV (opt (ak y0 y6 x8 600000000 x9) λd=>ret d) (opt (ak y0 y3 x8 600000000 x9) λd=>ret d))))))) no) (ae (x7==1) (ae y8 (ae tW (opt (ak y6 y1 x8 600000000 x9) λd=>ret d) (ae y9 (opt (ak y6 y5 x8 600000000 x9) λd=>ret d) (ae xc (opt (ak y6 y7 x8 600000000 x9) λd=>ret d) (ae w9 (opt (ak y6 y2 x8 600000000 x9) λd=>ret d) (ae w7 (opt (ak y6 y0 x8 600000000 x9) λd=>ret d) (ae tV (opt (ak y6 y6 x8 600000000 x9) λd=>ret d) (opt (ak y6 y3 x8 600000000 x9) λd=>ret d))))))) no) (ae y8 (ae tW (opt (ak y3 y1 x8 600000000 x9) λd=>ret d) (ae y9 (opt (ak y3 y5 x8 600000000 x9) λd=>ret d) (ae xc (opt (ak y3 y7 x8 600000000 x9) λd=>ret d) (ae w9 (opt (ak y3 y2 x8 600000000 x9) λd=>ret d) (ae w7 (opt (ak y3 y0 x8 600000000 x9) λd=>ret d) (ae tV (opt (ak y3 y6 x8 600000000 x9) λd=>ret d) (opt (ak y3 y3 x8 600000000 x9) λd=>ret d))))))) no))))))) no
def kY:=λx0 x1 x2 x3 x4 x5 x6 x7 x8 x9=>(uY fO x0 x1 x2 x3 x4 x5 x6 x7 x8 x9).val
theorem W0:∀ak,D0 [uW ak] 195 EP (lf uk) λb=>uY ak b.1.1 b.1.2.1 b.1.b.1 b.1.b.2.1 b.1.c.1 b.1.c.2.1 b.1.c.b b.2.1 b.b.1 b.b.2:=λ_ b=>by kernel_rfl
theorem W2 [ax]:SC (ET kY):=s0 (.c EO (.nil _)) (W0 fO)
def IY:=qa (pr (cu aN EX) cq)
def xg:=qe aQl
abbrev IZ:=xg.B
abbrev I0:=Int->Int->Int->Bool->Option IZ
def I1 (g:I0):Ct:=(120,FC IY (lf xg) (λb=>g b.1.1 b.1.2.1 b.1.b b.2))
def yB (cw:sK)(gU:Fx)(ak:uV)(aG:ES)(aP:FI)(x0:Int)(x1:Int)(x2:Int)(x3:Bool):Pg IZ:=let y0:=wI (x1+1800000000);let y1:=wI (x0+900000000);let y2:=wI (Int.tdiv y1 450000000);let y3:=wI (Int.tdiv y0 600000000);let y4:=if 3<y2 then 3 else y2;let y5:=if 5<y3 then 5 else y3;let y6:=wI (y4+1);let y7:=wI (y0-wI (y5*600000000));opt (cw x0 x1 x2) λd=>ae (!d) (ret (0,1)) (opt gU λd=>ae (aW y4 5) (ae (y4==4) (opt (aG 1000 4000 (-3000) 500 3500 (-1200) 1000 y5 y7 x3) λd=>ae (aW y6 5) (ae (y6==4) (opt (aG 1000 4000 (-3000) 500 3500 (-1200) 1000 y5 y7 x3) λaj=>opt (ak d aj (wI (y1-wI (y4*450000000))) 450000000 x3) λd=>opt (aP d 3373259426 19327352832000 x3) λd=>ret (d,0)) (ae (y6==3) (opt (aG 500 1500 (-1700) 100 700 (-800) 500 y5 y7 x3) λaj=>opt (ak d aj (wI (y1-wI (y4*450000000))) 450000000 x3) λd=>opt (aP d 3373259426 19327352832000 x3) λd=>ret (d,0)) (ae (y6==2) (opt (aG 950 900 (-1400) (-500) (-300) 100 950 y5 y7 x3) λaj=>opt (ak d aj (wI (y1-wI (y4*450000000))) 450000000 x3) λd=>opt (aP d 3373259426 19327352832000 x3) λd=>ret (d,0)) (ae (y6==1) (opt (aG 2200 2500 500 (-2200) (-3800) 0 2200 y5 y7 x3) λaj=>opt (ak d aj (wI (y1-wI (y4*450000000))) 450000000 x3) λd=>opt (aP d 3373259426 19327352832000 x3) λd=>ret (d,0)) (opt (aG 3000 6000 (-2000) (-1500) (-6000) (-9000) 3000 y5 y7 x3) λaj=>opt (ak d aj (wI (y1-wI (y4*450000000))) 450000000 x3) λd=>opt (aP d 3373259426 19327352832000 x3) λd=>ret (d,0)))))) no) (ae (y4==3) (opt (aG 500 1500 (-1700) 100 700 (-800) 500 y5 y7 x3) λd=>ae (aW y6 5) (ae (y6==4) (opt (aG 1000 4000 (-3000) 500 3500 (-1200) 1000 y5 y7 x3) λaj=>opt (ak d aj (wI (y1-wI (y4*450000000))) 450000000 x3) λd=>opt (aP d 3373259426 19327352832000 x3) λd=>ret (d,0)) (ae (y6==3) (opt (aG 500 1500 (-1700) 100 700 (-800) 500 y5 y7 x3) λaj=>opt (ak d aj (wI (y1-wI (y4*450000000))) 450000000 x3) λd=>opt (aP d 3373259426 19327352832000 x3) λd=>ret (d,0)) (ae (y6==2) (opt (aG 950 900 (-1400) (-500) (-300) 100 950 y5 y7 x3) λaj=>opt (ak d aj (wI (y1-wI (y4*450000000))) 450000000 x3) λd=>opt (aP d 3373259426 19327352832000 x3) λd=>ret (d,0)) (ae (y6==1) (opt (aG 2200 2500 500 (-2200) (-3800) 0 2200 y5 y7 x3) λaj=>opt (ak d aj (wI (y1-wI (y4*450000000))) 450000000 x3) λd=>opt (aP d 3373259426 19327352832000 x3) λd=>ret (d,0)) (opt (aG 3000 6000 (-2000) (-1500) (-6000) (-9000) 3000 y5 y7 x3) λaj=>opt (ak d aj (wI (y1-wI (y4*450000000))) 450000000 x3) λd=>opt (aP d 3373259426 19327352832000 x3) λd=>ret (d,0)))))) no) (ae (y4==2) (opt (aG 950 900 (-1400) (-500) (-300) 100 950 y5 y7 x3) λd=>ae (aW y6 5) (ae (y6==4) (opt (aG 1000 4000 (-3000) 500 3500 (-1200) 1000 y5 y7 x3) λaj=>opt (ak d aj (wI (y1-wI (y4*450000000))) 450000000 x3) λd=>opt (aP d 3373259426 19327352832000 x3) λd=>ret (d,0)) (ae (y6==3) (opt (aG 500 1500 (-1700) 100 700 (-800) 500 y5 y7 x3) λaj=>opt (ak d aj (wI (y1-wI (y4*450000000))) 450000000 x3) λd=>opt (aP d 3373259426 19327352832000 x3) λd=>ret (d,0)) (ae (y6==2) (opt (aG 950 900 (-1400) (-500) (-300) 100 950 y5 y7 x3) λaj=>opt (ak d aj (wI (y1-wI (y4*450000000))) 450000000 x3) λd=>opt (aP d 3373259426 19327352832000 x3) λd=>ret (d,0)) (ae (y6==1) (opt (aG 2200 2500 500 (-2200) (-3800) 0 2200 y5 y7 x3) λaj=>opt (ak d aj (wI (y1-wI (y4*450000000))) 450000000 x3) λd=>opt (aP d 3373259426 19327352832000 x3) λd=>ret (d,0)) (opt (aG 3000 6000 (-2000) (-1500) (-6000) (-9000) 3000 y5 y7 x3) λaj=>opt (ak d aj (wI (y1-wI (y4*450000000))) 450000000 x3) λd=>opt (aP d 3373259426 19327352832000 x3) λd=>ret (d,0)))))) no) (ae (y4==1) (opt (aG 2200 2500 500 (-2200) (-3800) 0 2200 y5 y7 x3) λd=>ae (aW y6 5) (ae (y6==4) (opt (aG 1000 4000 (-3000) 500 3500 (-1200) 1000 y5 y7 x3) λaj=>opt (ak d aj (wI (y1-wI (y4*450000000))) 450000000 x3) λd=>opt (aP d 3373259426 19327352832000 x3) λd=>ret (d,0)) (ae (y6==3) (opt (aG 500 1500 (-1700) 100 700 (-800) 500 y5 y7 x3) λaj=>opt (ak d aj (wI (y1-wI (y4*450000000))) 450000000 x3) λd=>opt (aP d 3373259426 19327352832000 x3) λd=>ret (d,0)) (ae (y6==2) (opt (aG 950 900 (-1400) (-500) (-300) 100 950 y5 y7 x3) λaj=>opt (ak d aj (wI (y1-wI (y4*450000000))) 450000000 x3) λd=>opt (aP d 3373259426 19327352832000 x3) λd=>ret (d,0)) (ae (y6==1) (opt (aG 2200 2500 500 (-2200) (-3800) 0 2200 y5 y7 x3) λaj=>opt (ak d aj (wI (y1-wI (y4*450000000))) 450000000 x3) λd=>opt (aP d 3373259426 19327352832000 x3) λd=>ret (d,0)) (opt (aG 3000 6000 (-2000) (-1500) (-6000) (-9000) 3000 y5 y7 x3) λaj=>opt (ak d aj (wI (y1-wI (y4*450000000))) 450000000 x3) λd=>opt (aP d 3373259426 19327352832000 x3) λd=>ret (d,0)))))) no) (opt (aG 3000 6000 (-2000) (-1500) (-6000) (-9000) 3000 y5 y7 x3) λd=>ae (aW y6 5) (ae (y6==4) (opt (aG 1000 4000 (-3000) 500 3500 (-1200) 1000 y5 y7 x3) λaj=>opt (ak d aj (wI (y1-wI (y4*450000000))) 450000000 x3) λd=>opt (aP d 3373259426 19327352832000 x3) λd=>ret (d,0)) (ae (y6==3) (opt (aG 500 1500 (-1700) 100 700 (-800) 500 y5 y7 x3) λaj=>opt (ak d aj (wI (y1-wI (y4*450000000))) 450000000 x3) λd=>opt (aP d 3373259426 19327352832000 x3) λd=>ret (d,0)) (ae (y6==2) (opt (aG 950 900 (-1400) (-500) (-300) 100 950 y5 y7 x3) λaj=>opt (ak d aj (wI (y1-wI (y4*450000000))) 450000000 x3) λd=>opt (aP d 3373259426 19327352832000 x3) λd=>ret (d,0)) (ae (y6==1) (opt (aG 2200 2500 500 (-2200) (-3800) 0 2200 y5 y7 x3) λaj=>opt (ak d aj (wI (y1-wI (y4*450000000))) 450000000 x3) λd=>opt (aP d 3373259426 19327352832000 x3) λd=>ret (d,0)) (opt (aG 3000 6000 (-2000) (-1500) (-6000) (-9000) 3000 y5 y7 x3) λaj=>opt (ak d aj (wI (y1-wI (y4*450000000))) 450000000 x3) λd=>opt (aP d 3373259426 19327352832000 x3) λd=>ret (d,0)))))) no))))) no)
def mP:=λx0 x1 x2 x3=>(yB fL lq fO kY jm x0 x1 x2 x3).val
theorem acq:∀cw gU ak aG aP,D0 [wK cw,Fy gU,uW ak,ET aG,FJ aP] 120 IY (lf xg) λb=>yB cw gU ak aG aP b.1.1 b.1.2.1 b.1.b b.2:=λ_ _ _ _ _ b=>by kernel_rfl
theorem acr [ax]:SC (I1 mP):=s0 (.c Bw (.c RU (.c EO (.c W2 (.c R5 (.nil _)))))) (acq fL lq fO kY jm)
def iZ:=qa (pu (cu eZ nil) (cd oH λb0=>(c kF (c lG (c (cl (gs b0.c.1 lF) nil) (cd pK λb4=>(cd m8 λb5=>(cd m9 λb6=>(cd na λb7=>(cd nc λb8=>(cd nd λb9=>(c lk (cd qU λsi=>(c (cl (gs b0.e jP) nil) (c (cl (gs b4.b.1 ay) nil) (c (cl (gs b5.b.1 ay) nil) (c (cl (gs b6.b.1 ay) nil) (c (cl (gs b7.b.1 ay) nil) (c (cl (gs b8.b.1 ay) nil) (c (cl (gs b9.b.1 ay) nil) (cl (cl (gs si.b gA) nil) nil)))))))))))))))))))))
def ql:=qe aQ0
abbrev Bc:=ql.B
abbrev Bd:=iZ.B->Option Bc
def Be (g:Bd):Ct:=(220,FC iZ (lf ql) g)
def rn (qR:I0)(x:iZ.B):Pg Bc:=let n1:=x.1.1.2.2.2.2.2.2.2.2.2.2.2.2.2;opt (qR n1.1 n1.2.1 n1.2.2 x.1.2.1) λd=>ret d.1
def jc:=λx=>(rn mP x).val
theorem Rr:∀qR,D0 [I1 qR] 220 iZ (lf ql) λb=>rn qR b:=λ_ b=>by kernel_rfl
theorem Rs [ax]:SC (Be jc):=s0 (.c acr (.nil _)) (Rr mP)
def qo:=qa (pr (cu eZ BC) (cd oH λb0=>(c kF (c lG (c (cl (gs b0.c.1 lF) nil) (cd pK λb4=>(cd m8 λb5=>(cd m9 λb6=>(cd na λb7=>(cd nc λb8=>(cd nd λb9=>(c lk (cd qU λsi=>(c (cl (gs b0.e jP) nil) (c (cl (gs b4.b.1 ay) nil) (c (cl (gs b5.b.1 ay) nil) (c (cl (gs b6.b.1 ay) nil) (c (cl (gs b7.b.1 ay) nil) (c (cl (gs b8.b.1 ay) nil) (c (cl (gs b9.b.1 ay) nil) (cl (cl (gs si.b gA) nil) nil)))))))))))))))))))))
def BV:=qe aps
abbrev DG:=BV.B
abbrev Pq:=qo.B->Option DG
def Pr (g:Pq):Ct:=(173,FC qo (lf BV) g)
def DH (lz:Yl)(mq:Bd)(YC:ax1)(Aw:VT)(aZ:oT)(K4:akE)(aV:mM)(x:qo.B):Pg DG:=let bq:=x.2.2;let n6:=x.1.2.2.2;let n5:=x.2.1.1;let n15:=n5.2.2.2.2.2.2.2.2.2.1;let n7:=n5.2.2.2.2.1.2.2.2.1;let n4:=x.2.1.2.2;let bu:=n4.2.2.2.2.2.2.2.2.2.2.2.2.2.2;let n3:=bq.2.2.2.2;let n8:=n3.2.2.2;let y0:=Nat.beq n4.2.2.1 n4.2.2.1;let y1:=Nat.beq bu bu;let y2:=Nat.beq bq.2.2.2.1.2.2.1 bq.2.2.2.1.2.2.1;let y3:=Nat.beq n3.1.2.2.1 n3.1.2.2.1;let y4:=Nat.beq n3.2.1.2.2.1 n3.2.1.2.2.1;let y5:=Nat.beq n3.2.2.1.2.2.1 n3.2.2.1.2.2.1;let y6:=Nat.beq n8.1.2.2.1 n8.1.2.2.1;let y7:=Nat.beq n8.2.1.2.2.1 n8.2.1.2.2.1;let y8:=Nat.beq n8.2.2.2.1.2.2 n8.2.2.2.1.2.2;opt (lz x.1.1 x.1.2.1 x.1.2.2.1 n6.1 n6.2.1 n6.2.2.1 n6.2.2.2.1 n6.2.2.2.2.1 n6.2.2.2.2.2 x.2.1.2.1) λd=>let n9:=d.1.1.2;ae y0 (ae y1 (ae y2 (ae y3 (ae y4 (ae y5 (ae y6 (ae y7 (ae y8 (opt (mq ((n5,d.2,n4),bq)) λaj=>ae (n4.2.2.2.1.1==3) (opt (YC n4.1 d.1.1.1 n9.1 n9.2.1 n9.2.2 n7 d.2) λd=>let n16:=d.2.2.1;let n2:=d.2.2.2;let bL:=n2.2.1;let bc:=n2.2.2.2;opt (Aw n4.1 aj n15 n7 d.1) λaI=>ae (aI.1.2==0) (ae y0 (ae y1 (ae y2 (ae y3 (ae y4 (ae y5 (ae y6 (ae y7 (ae y8 (opt (aZ ((3,4,true),(n5,aI.2,n4),(av5 (λk=>cr (d.2.1 k) [aI.1.1.1 k,bc.2.1 k,n2.2.2.1 k,d.2.1 k]) (cr n16 [aI.1.1.2.1,bc.2.2,bc.1,n16],cr n2.1 [aI.1.1.2.2.1,n2.1,n2.1,n2.1],cr bL [aI.1.1.2.2.2,bL,bL,bL])),bq)) λd=>ret d.2.1) no) no) no) no) no) no) no) no) no) (ae y0 (ae y1 (ae y2 (ae y3 (ae y4 (ae y5 (ae y6 (ae y7 (ae y8 (opt (aZ ((3,3,true),(n5,aI.2,n4),(av5 (λk=>cr (d.2.1 k) [bc.2.1 k,n2.2.2.1 k,d.2.1 k]) (cr n16 [bc.2.2,bc.1,n16],cr n2.1 [n2.1,n2.1,n2.1],cr bL [bL,bL,bL])),bq)) λd=>ret d.2.1) no) no) no) no) no) no) no) no) no)) (opt (K4 n4.1 d.1.1.1 n9.1 n9.2.1 n9.2.2 aj n15 n7 d.2) λd=>let bg:=d.1.1.2;let n1:=d.1.1.1;ae (d.1.2!=0) (ae y0 (ae y1 (ae y2 (ae y3 (ae y4 (ae y5 (ae y6 (ae y7 (ae y8 (opt (aV (3,(n5,d.2,n4),bq)) λaI=>ret ((n5,d.2,n4),aI)) no) no) no) no) no) no) no) no) no) (ae y0 (ae y1 (ae y2 (ae y3 (ae y4 (ae y5 (ae y6 (ae y7 (ae y8 (opt (aZ ((3,1,true),(n5,d.2,n4),(λj=>bif Nat.beq j 0 then n1 0 else n1 0,λj=>bif Nat.beq j 0 then n1 1 else n1 1,λj=>bif Nat.beq j 0 then n1 2 else n1 2,λj=>bif Nat.beq j 0 then n1 3 else n1 3,λj=>bif Nat.beq j 0 then n1 4 else n1 4,λj=>bif Nat.beq j 0 then n1 5 else n1 5,λj=>bif Nat.beq j 0 then n1 6 else n1 6,λj=>bif Nat.beq j 0 then n1 7 else n1 7,λj=>bif Nat.beq j 0 then n1 8 else n1 8,λj=>bif Nat.beq j 0 then n1 9 else n1 9,λj=>bif Nat.beq j 0 then n1 10 else n1 10,λj=>bif Nat.beq j 0 then n1 11 else n1 11,λj=>bif Nat.beq j 0 then n1 12 else n1 12,λj=>bif Nat.beq j 0 then n1 13 else n1 13,λj=>bif Nat.beq j 0 then n1 14 else n1 14,λj=>bif Nat.beq j 0 then n1 15 else n1 15,λj=>bif Nat.beq j 0 then n1 16 else n1 16,λj=>bif Nat.beq j 0 then n1 17 else n1 17,λj=>bif Nat.beq j 0 then n1 18 else n1 18,λj=>bif Nat.beq j 0 then n1 19 else n1 19,λj=>bif Nat.beq j 0 then n1 20 else n1 20,λj=>bif Nat.beq j 0 then n1 21 else n1 21,λj=>bif Nat.beq j 0 then n1 22 else n1 22,λj=>bif Nat.beq j 0 then n1 23 else n1 23,λj=>bif Nat.beq j 0 then bg.1 else bg.1,λj=>bif Nat.beq j 0 then bg.2.1 else bg.2.1,λj=>bif Nat.beq j 0 then bg.2.2 else bg.2.2),bq)) λd=>ret d.2.1) no) no) no) no) no) no) no) no) no))) no) no) no) no) no) no) no) no) no
def qu:=λx=>(DH vT jc OO tN dL C8 c8 x).val
theorem als:∀lz mq YC Aw aZ K4 aV,D0 [Ym lz,Be mq,ax2 YC,VU Aw,oU aZ,akF K4,mN aV] 173 qo (lf BV) λb=>DH lz mq YC Aw aZ K4 aV b:=λ_ _ _ _ _ _ _ b=>by kernel_rfl
theorem alu [ax]:SC (Pr qu):=s0 (.c aky (.c Rs (.c aJz (.c aqn (.c ua (.c aCf (.c qh (.nil _)))))))) (als vT jc OO tN dL C8 c8)
def wc:=qa (pr (cu eZ (c ai BC)) (cd oH λb0=>(c kF (c lG (c (cl (gs b0.c.1 lF) nil) (cd pK λb4=>(cd m8 λb5=>(cd m9 λb6=>(cd na λb7=>(cd nc λb8=>(cd nd λb9=>(c lk (cd qU λsi=>(c (cl (gs b0.e jP) nil) (c (cl (gs b4.b.1 ay) nil) (c (cl (gs b5.b.1 ay) nil) (c (cl (gs b6.b.1 ay) nil) (c (cl (gs b7.b.1 ay) nil) (c (cl (gs b8.b.1 ay) nil) (c (cl (gs b9.b.1 ay) nil) (cl (cl (gs si.b gA) nil) nil)))))))))))))))))))))
def LF:=qe aps
def ahI:=qe (res (pu Tc (pr (c aRj aLi) aFK)))
abbrev Co:=LF.B⊕(((PS×Bool×NI×(NI×NI)×Nat×LL×Bool×Int×qB×Bool×Bool×Bool×Int×Int×Int×LJ×Nat)×PU×Int)×NI×NI×NI×NI×NI×NI×NI×NI×NI×NI)
def YD:Co->T:=ls (lf LF) (λd=>lf ahI (d.1,d.1.1.e,d.2))
abbrev K5:=wc.B->Option Co
def YE (g:K5):Ct:=(109,FC wc YD g)
def K6 (Ax:V9)(pH:GF)(iP:HM)(nK:aku)(bW:KW)(gV:Fo)(mr:agx)(aV:mM)(we:Pq)(su:KY)(Ay:We)(x:wc.B):Pg Co:=let n24:=x.2.1;let bq:=x.1.2;let n9:=x.2.2;let n8:=x.1.1;let n5:=bq.2.2.2;let n16:=n5.2.2.2;let n4:=n9.2.2.2.2;let bL:=n4.2.2.2;let n3:=n24.1;let n6:=n3.2.2.2.2.1;let n17:=n6.2.2.2;let n2:=n24.2.2;let n25:=n2.2.2;let n15:=n25.2.2.2.2.2.2;let n1:=(n24,bL.2.2.1);let y0:=aW n8 6;let y1:=n8==2;let y2:=n8==3;let y3:=n8==5;let y4:=n8==4;let y5:=n8==1;let y6:=Nat.beq n25.1 n25.1;let y7:=Nat.beq n15.2.2.2.2.2.2 n15.2.2.2.2.2.2;let y8:=Nat.beq n9.2.2.2.1.2.2.1 n9.2.2.2.1.2.2.1;let y9:=Nat.beq n4.1.2.2.1 n4.1.2.2.1;let tV:=Nat.beq n4.2.1.2.2.1 n4.2.1.2.2.1;let tW:=Nat.beq n4.2.2.1.2.2.1 n4.2.2.1.2.2.1;let w7:=Nat.beq bL.1.2.2.1 bL.1.2.2.1;let w9:=Nat.beq bL.2.1.2.2.1 bL.2.1.2.2.1;let xc:=Nat.beq bL.2.2.2.1.2.2 bL.2.2.2.1.2.2;ae (n25.2.1.1==0) (ret (Sum.inl n1)) (ae (n25.2.1.1==1) (ae y2 (ae (!n15.1) (ae y6 (ae y7 (ae y8 (ae y9 (ae tV (ae tW (ae w7 (ae w9 (ae xc (opt (Ax (bq,x.2)) λd=>sm d (λd=>ret (Sum.inl d)) (λd=>let n22:=d.1.1.2;let bc:=n22.2.2.2;let n23:=bc.2.2.2;ret (Sum.inr (((d.1.1.1,n22.1,n22.2.1,n22.2.2.1,bc.1,bc.2.1,bc.2.2.1,n23.1,n23.2.1,n23.2.2.1,true,n23.2.2.2),d.1.2),d.2)))) no) no) no) no) no) no) no) no) no) (ret (Sum.inl n1))) (ret (Sum.inl n1))) (ae (n8==0) (ae y6 (ae y7 (ae y8 (ae y9 (ae tV (ae tW (ae w7 (ae w9 (ae xc (opt (pH (bq,x.2)) λd=>sm d (λd=>let n18:=d.1.1.2;let n7:=n18.2.2.2.2;let n19:=n7.2.2.2;ret (Sum.inr (((d.1.1.1,n18.1,n18.2.1,n18.2.2.1,n18.2.2.2.1,n7.1,n7.2.1,n7.2.2.1,n19.1,n19.2.1,n19.2.2.1,true,n19.2.2.2.1,n19.2.2.2),d.1.2),d.2))) (λd=>ret (Sum.inl d))) no) no) no) no) no) no) no) no) no) (ae y5 (opt (iP bq.1 bq.2.1 bq.2.2.1 n5.1 n5.2.1 n5.2.2.1 n16.1 n16.2.1 n16.2.2 n24.2.1) λd=>let bu:=d.1.1;ae y0 (ae y3 (opt (nK n2.1 bu.1 bu.2 n17.2.2 d.2) λd=>ae y6 (ae y7 (ae y8 (ae y9 (ae tV (ae tW (ae w7 (ae w9 (ae xc (opt (bW ((n8,1,d.1),(n3,d.2,n2),n9)) λd=>ret (Sum.inl d)) no) no) no) no) no) no) no) no) no) (ae y4 (opt (nK n2.1 bu.1 bu.2 n17.2.1 d.2) λd=>ae y6 (ae y7 (ae y8 (ae y9 (ae tV (ae tW (ae w7 (ae w9 (ae xc (opt (bW ((n8,1,d.1),(n3,d.2,n2),n9)) λd=>ret (Sum.inl d)) no) no) no) no) no) no) no) no) no) (ae y2 (opt (nK n2.1 bu.1 bu.2 n17.1 d.2) λd=>ae y6 (ae y7 (ae y8 (ae y9 (ae tV (ae tW (ae w7 (ae w9 (ae xc (opt (bW ((n8,1,d.1),(n3,d.2,n2),n9)) λd=>ret (Sum.inl d)) no) no) no) no) no) no) no) no) no) (ae y1 (opt (nK n2.1 bu.1 bu.2 n6.2.2.1 d.2) λd=>ae y6 (ae y7 (ae y8 (ae y9 (ae tV (ae tW (ae w7 (ae w9 (ae xc (opt (bW ((n8,1,d.1),(n3,d.2,n2),n9)) λd=>ret (Sum.inl d)) no) no) no) no) no) no) no) no) no) (ae y5 (opt (nK n2.1 bu.1 bu.2 n6.2.1 d.2) λd=>ae y6 (ae y7 (ae y8 (ae y9 (ae tV (ae tW (ae w7 (ae w9 (ae xc (opt (bW ((n8,1,d.1),(n3,d.2,n2),n9)) λd=>ret (Sum.inl d)) no) no) no) no) no) no) no) no) no) (opt (nK n2.1 bu.1 bu.2 n6.1 d.2) λd=>ae y6 (ae y7 (ae y8 (ae y9 (ae tV (ae tW (ae w7 (ae w9 (ae xc (opt (bW ((n8,1,d.1),(n3,d.2,n2),n9)) λd=>ret (Sum.inl d)) no) no) no) no) no) no) no) no) no)))))) no) (ae y1 (opt (gV bq.1 bq.2.1 bq.2.2.1 n5.1 n5.2.1 n5.2.2.1 n16.1 n16.2.1 n16.2.2 n24.2.1) λd=>let bg:=d.1.1;let n21:=bg.2.2;let n20:=bg.2.1;ae y0 (ae y3 (opt (mr n2.1 bg.1 n20 n21 n17.2.2 d.2) λd=>ae (d.1.2!=0) (ae y6 (ae y7 (ae y8 (ae y9 (ae tV (ae tW (ae w7 (ae w9 (ae xc (opt (aV (n8,(n3,d.2,n2),n9)) λaj=>ret (Sum.inl ((n3,d.2,n2),aj))) no) no) no) no) no) no) no) no) no) (ae y6 (ae y7 (ae y8 (ae y9 (ae tV (ae tW (ae w7 (ae w9 (ae xc (opt (bW ((n8,3,d.1.1),(n3,d.2,n2),n9)) λd=>ret (Sum.inl d)) no) no) no) no) no) no) no) no) no)) (ae y4 (opt (mr n2.1 bg.1 n20 n21 n17.2.1 d.2) λd=>ae (d.1.2!=0) (ae y6 (ae y7 (ae y8 (ae y9 (ae tV (ae tW (ae w7 (ae w9 (ae xc (opt (aV (n8,(n3,d.2,n2),n9)) λaj=>ret (Sum.inl ((n3,d.2,n2),aj))) no) no) no) no) no) no) no) no) no) (ae y6 (ae y7 (ae y8 (ae y9 (ae tV (ae tW (ae w7 (ae w9 (ae xc (opt (bW ((n8,3,d.1.1),(n3,d.2,n2),n9)) λd=>ret (Sum.inl d)) no) no) no) no) no) no) no) no) no)) (ae y2 (opt (mr n2.1 bg.1 n20 n21 n17.1 d.2) λd=>ae (d.1.2!=0) (ae y6 (ae y7 (ae y8 (ae y9 (ae tV (ae tW (ae w7 (ae w9 (ae xc (opt (aV (n8,(n3,d.2,n2),n9)) λaj=>ret (Sum.inl ((n3,d.2,n2),aj))) no) no) no) no) no) no) no) no) no) (ae y6 (ae y7 (ae y8 (ae y9 (ae tV (ae tW (ae w7 (ae w9 (ae xc (opt (bW ((n8,3,d.1.1),(n3,d.2,n2),n9)) λd=>ret (Sum.inl d)) no) no) no) no) no) no) no) no) no)) (ae y1 (opt (mr n2.1 bg.1 n20 n21 n6.2.2.1 d.2) λd=>ae (d.1.2!=0) (ae y6 (ae y7 (ae y8 (ae y9 (ae tV (ae tW (ae w7 (ae w9 (ae xc (opt (aV (n8,(n3,d.2,n2),n9)) λaj=>ret (Sum.inl ((n3,d.2,n2),aj))) no) no) no) no) no) no) no) no) no) (ae y6 (ae y7 (ae y8 (ae y9 (ae tV (ae tW (ae w7 (ae w9 (ae xc (opt (bW ((n8,3,d.1.1),(n3,d.2,n2),n9)) λd=>ret (Sum.inl d)) no) no) no) no) no) no) no) no) no)) (ae y5 (opt (mr n2.1 bg.1 n20 n21 n6.2.1 d.2) λd=>ae (d.1.2!=0) (ae y6 (ae y7 (ae y8 (ae y9 (ae tV (ae tW (ae w7 (ae w9 (ae xc (opt (aV (n8,(n3,d.2,n2),n9)) λaj=>ret (Sum.inl ((n3,d.2,n2),aj))) no) no) no) no) no) no) no) no) no) (ae y6 (ae y7 (ae y8 (ae y9 (ae tV (ae tW (ae w7 (ae w9 (ae xc (opt (bW ((n8,3,d.1.1),(n3,d.2,n2),n9)) λd=>ret (Sum.inl d)) no) no) no) no) no) no) no) no) no)) (opt (mr n2.1 bg.1 n20 n21 n6.1 d.2) λd=>ae (d.1.2!=0) (ae y6 (ae y7 (ae y8 (ae y9 (ae tV (ae tW (ae w7 (ae w9 (ae xc (opt (aV (n8,(n3,d.2,n2),n9)) λaj=>ret (Sum.inl ((n3,d.2,n2),aj))) no) no) no) no) no) no) no) no) no) (ae y6 (ae y7 (ae y8 (ae y9 (ae tV (ae tW (ae w7 (ae w9 (ae xc (opt (bW ((n8,3,d.1.1),(n3,d.2,n2),n9)) λd=>ret (Sum.inl d)) no) no) no) no) no) no) no) no) no))))))) no) (ae y2 (ae y6 (ae y7 (ae y8 (ae y9 (ae tV (ae tW (ae w7 (ae w9 (ae xc (opt (we (bq,x.2)) λd=>ret (Sum.inl d)) no) no) no) no) no) no) no) no) no) (ae y4 (ae y6 (ae y7 (ae y8 (ae y9 (ae tV (ae tW (ae w7 (ae w9 (ae xc (opt (su (bq,x.2)) λd=>ret (Sum.inl d)) no) no) no) no) no) no) no) no) no) (ae y6 (ae y7 (ae y8 (ae y9 (ae tV (ae tW (ae w7 (ae w9 (ae xc (opt (Ay (bq,x.2)) λd=>ret (Sum.inl d)) no) no) no) no) no) no) no) no) no)))))))
def wg:=λx=>(K6 ud lX mz C6 nH lp AY c8 qu nJ uh x).val
theorem atL:∀Ax pH iP nK bW gV mr aV we su Ay,D1 [Wa Ax,GG pH,HN iP,akv nK,KX bW,Fq gV,agy mr,mN aV,Pr we,KZ su,Wf Ay] [0,10] 109 wc YD λb=>K6 Ax pH iP nK bW gV mr aV we su Ay b:=λ_ _ _ _ _ _ _ _ _ _ _ b=>by kernel_rfl
theorem atM [ax]:SC (YE wg):=s0 (.c aqz (.c aaI (.c VB (.c aCd (.c afl (.c RN (.c aza (.c qh (.c alu (.c afo (.c aqD (.nil _)))))))))))) (atL ud lX mz C6 nH lp AY c8 qu nJ uh)
def jK:=qa (pr (cu FX (cu Oj ac0)) (cd acZ λb0=>(c ux (cl (cl (gs b0.b gA) nil) nil))))
def rp:=qe (res (pr ai (pl (cu eT (c aqX aLa)) nil)))
abbrev sw:=rp.B
abbrev sx:=jK.B->Option sw
def Cp (g:sx):Ct:=(114,FC jK (lf rp) g)
def cL:=qs (st (dp (us 3 (c ai (cu aHO (cu azV (cu amT (us 2 (c ai (us 12 (c aPq (c ai (cl ai (us 74 nil)))))))))))) λv=>(pl (c (so acZ) (c ch (c (so (cl (gs v.b.1 gA) nil)) aQE))) az1)))
def Ps:=qs (st (pr (us 3 (c ai (cu aHO (cu azV (cu amT (us 2 (c ai (us 12 (c aPq (c ai (c ai (cl ab (us 73 nil))))))))))))) (pl (c (so acZ) (c ch (c YV aQE))) az1)))
abbrev fE:=((Int×Int×Nat×Int×Int×Bool)×BY×Bool×(NI×NI×NI×NI×NI×NI×NI×NI×NI×NI×NI)×NI)
def yZ {ρ:Type}(x:fE)(K:AX->St->Option ρ):Option ρ:=(λd=>K (.ex 0) (Ps.em (d.1,d.2.1,d.b.1,(d.1.b.1,d.b.2.1),d.c))) x
def qv (d:cL.B):PL cL fE:=let n1:=d.1.2.2;let n2:=n1.2.2;let y0:=decide (n2<n1.2.1);ae y0 (ae (aW n2 n1.1) (ae (decide (d.2.2.2.1.1 (Int.toNat n2)<=d.1.1)) (ret (Sum.inl ((d.1.1,n2,n1.1,n1.2.1,wI (n2+1)),d.2))) (ret (Sum.inl ((d.1.1,d.1.2.1,n1.1,n1.2.1,wI (n2+1)),d.2)))) no) (ret (Sum.inr ((d.1.1,d.1.2.1,n1.1,n1.2.1,n2,y0),d.2)))
def qw:=bA (qv) 2000
def dM:=qs aRh
def Pu:=qs (st (pr (us 4 (cu aHO (cu azV (us 8 (cu (app 5 3) (cu (app 6 3) (cu (app 7 4) (cu (app 8 4) (c ai (us 62 (c ai (cu Oj (cu FX (cu FX (cu aP9 (c ai (c ai (c (ac (Ol (pu (nat 7) (pl (ok' hole) Cw)))) (c ai (c ai (cl (ac (Ol (pu Oh (pl (ok' hole) Cw)))) (us 7 nil)))))))))))))))))))))) (pl (c (so acZ) (c ch (c YV (cu at8 (cu YP (c wA (c wA (c uC (cl uC nil))))))))) az1)))
abbrev fF:=((Int×Int×Nat×Int×Int×Nat)×(Int×Nat)×Bool×aMz×qB×qB×aD6×Int×Int×Int×Int)
def za {ρ:Type}(x:fF)(K:AX->St->Option ρ):Option ρ:=(λd=>K .nrm (Pu.em ((d.1.1,d.1.1,d.1.2.1,d.1.1,d.1.b),(d.2.1.1,d.1.2.1,d.2.1.2),d.b))) x
def qx (aB:bJ)(d:dM.B):Pg fF:=let bg:=d.2.2.1;let n6:=d.2.1.1;let n3:=d.2.2.2;let n7:=n3.2.1;let n2:=d.2.1.2;let n1:=n3.2.2;let n5:=n1.2.2;let bc:=n5.2.1;let n8:=n5.2.2;let n4:=n1.2.1;let bq:=n4.2.1;let n9:=n4.2.2;let y0:=aW d.1 4;let y1:=d.1==1;let y2:=d.1==3;let y3:=d.1==2;ae y0 (ae y2 (opt (aB n2.1 n9.2 30 bg) λaj=>ae y0 (ae y2 (ret ((d.1,n2.1,3,n9.2,aj.1,3),(n6,n2.2),aj.2,n3.1,n7,n1.1,n4,n5.1,bc,n8.1,aj.1)) (ae y3 (ret ((d.1,n2.1,3,n9.2,aj.1,2),(n6,n2.2),aj.2,n3.1,n7,n1.1,n4,n5.1,bc,aj.1,n8.2)) (ae y1 (ret ((d.1,n2.1,3,n9.2,aj.1,1),(n6,n2.2),aj.2,n3.1,n7,n1.1,n4,n5.1,aj.1,n8)) (ret ((d.1,n2.1,3,n9.2,aj.1,0),(n6,n2.2),aj.2,n3.1,n7,n1.1,n4,aj.1,n5.2))))) no) (ae y3 (opt (aB n2.1 n9.1 30 bg) λaj=>ae y0 (ae y2 (ret ((d.1,n2.1,2,n9.1,aj.1,3),(n6,n2.2),aj.2,n3.1,n7,n1.1,n4,n5.1,bc,n8.1,aj.1)) (ae y3 (ret ((d.1,n2.1,2,n9.1,aj.1,2),(n6,n2.2),aj.2,n3.1,n7,n1.1,n4,n5.1,bc,aj.1,n8.2)) (ae y1 (ret ((d.1,n2.1,2,n9.1,aj.1,1),(n6,n2.2),aj.2,n3.1,n7,n1.1,n4,n5.1,aj.1,n8)) (ret ((d.1,n2.1,2,n9.1,aj.1,0),(n6,n2.2),aj.2,n3.1,n7,n1.1,n4,aj.1,n5.2))))) no) (ae y1 (opt (aB n2.1 bq 30 bg) λaj=>ae y0 (ae y2 (ret ((d.1,n2.1,1,bq,aj.1,3),(n6,n2.2),aj.2,n3.1,n7,n1.1,n4,n5.1,bc,n8.1,aj.1)) (ae y3 (ret ((d.1,n2.1,1,bq,aj.1,2),(n6,n2.2),aj.2,n3.1,n7,n1.1,n4,n5.1,bc,aj.1,n8.2)) (ae y1 (ret ((d.1,n2.1,1,bq,aj.1,1),(n6,n2.2),aj.2,n3.1,n7,n1.1,n4,n5.1,aj.1,n8)) (ret ((d.1,n2.1,1,bq,aj.1,0),(n6,n2.2),aj.2,n3.1,n7,n1.1,n4,aj.1,n5.2))))) no) (opt (aB n2.1 n4.1 30 bg) λaj=>ae y0 (ae y2 (ret ((d.1,n2.1,0,n4.1,aj.1,3),(n6,n2.2),aj.2,n3.1,n7,n1.1,n4,n5.1,bc,n8.1,aj.1)) (ae y3 (ret ((d.1,n2.1,0,n4.1,aj.1,2),(n6,n2.2),aj.2,n3.1,n7,n1.1,n4,n5.1,bc,aj.1,n8.2)) (ae y1 (ret ((d.1,n2.1,0,n4.1,aj.1,1),(n6,n2.2),aj.2,n3.1,n7,n1.1,n4,n5.1,aj.1,n8)) (ret ((d.1,n2.1,0,n4.1,aj.1,0),(n6,n2.2),aj.2,n3.1,n7,n1.1,n4,aj.1,n5.2))))) no)))) no
def lA (d:dM.B):Option fF:=(qx aT d).val
def cM:=qs aRh
def Pv:=qs (st (pr (us 4 (cu aHO (cu azV (us 8 (cu (app 5 3) (cu (app 6 3) (cu (app 7 4) (cu (app 8 4) (c ai (us 49 aPL)))))))))) (pl (c (so acZ) (c ch (c YV (cu at8 (cu YP (c wA (c wA (c uC (cl uC nil))))))))) az1)))
abbrev fG:=((Int×Bool)×BY×Bool×aMz×qB×qB×aD6×Int×Int×Int×Int)
def zb {ρ:Type}(x:fG)(K:AX->St->Option ρ):Option ρ:=(λd=>K (.ex 2) (Pv.em ((d.1.1,d.1),d.2))) x
def qy (J1:LT dM fF)(d:cM.B):PL cM fG:=let n5:=d.2.1;let n2:=d.2.2;let n6:=n2.2.1;let n4:=n2.2.2.1;let n1:=n2.2.2.2;let n7:=n1.2.2;let n3:=n1.2.1;let n9:=n3.2.1;let n8:=n3.2.2;let y0:=aW d.1 4;let y1:=d.1==1;let y2:=d.1==3;let y3:=d.1==2;let y4:=decide (d.1<4);let y5:=wI (0-n3.1);let y6:=wI (0-n9);let y7:=wI (0-n8.1);let y8:=wI (0-n8.2);ae y4 (ae (decide (n3.1<0)) (ae y0 (ae y2 (ae y0 (ae y2 (opt (J1 (d.1,n5,n2.1,n6,n4,n1.1,(n3.1,n9,n8.1,y8),n7)) λd=>ret (Sum.inl (wI (d.1.1+1),(d.2.1.1,d.1.2.1,d.2.1.2),d.2.2))) (ae y3 (opt (J1 (d.1,n5,n2.1,n6,n4,n1.1,(n3.1,n9,y8,n8.2),n7)) λd=>ret (Sum.inl (wI (d.1.1+1),(d.2.1.1,d.1.2.1,d.2.1.2),d.2.2))) (ae y1 (opt (J1 (d.1,n5,n2.1,n6,n4,n1.1,(n3.1,y8,n8),n7)) λd=>ret (Sum.inl (wI (d.1.1+1),(d.2.1.1,d.1.2.1,d.2.1.2),d.2.2))) (opt (J1 (d.1,n5,n2.1,n6,n4,n1.1,(y8,n3.2),n7)) λd=>ret (Sum.inl (wI (d.1.1+1),(d.2.1.1,d.1.2.1,d.2.1.2),d.2.2)))))) no) (ae y3 (ae y0 (ae y2 (opt (J1 (d.1,n5,n2.1,n6,n4,n1.1,(n3.1,n9,n8.1,y7),n7)) λd=>ret (Sum.inl (wI (d.1.1+1),(d.2.1.1,d.1.2.1,d.2.1.2),d.2.2))) (ae y3 (opt (J1 (d.1,n5,n2.1,n6,n4,n1.1,(n3.1,n9,y7,n8.2),n7)) λd=>ret (Sum.inl (wI (d.1.1+1),(d.2.1.1,d.1.2.1,d.2.1.2),d.2.2))) (ae y1 (opt (J1 (d.1,n5,n2.1,n6,n4,n1.1,(n3.1,y7,n8),n7)) λd=>ret (Sum.inl (wI (d.1.1+1),(d.2.1.1,d.1.2.1,d.2.1.2),d.2.2))) (opt (J1 (d.1,n5,n2.1,n6,n4,n1.1,(y7,n3.2),n7)) λd=>ret (Sum.inl (wI (d.1.1+1),(d.2.1.1,d.1.2.1,d.2.1.2),d.2.2)))))) no) (ae y1 (ae y0 (ae y2 (opt (J1 (d.1,n5,n2.1,n6,n4,n1.1,(n3.1,n9,n8.1,y6),n7)) λd=>ret (Sum.inl (wI (d.1.1+1),(d.2.1.1,d.1.2.1,d.2.1.2),d.2.2))) (ae y3 (opt (J1 (d.1,n5,n2.1,n6,n4,n1.1,(n3.1,n9,y6,n8.2),n7)) λd=>ret (Sum.inl (wI (d.1.1+1),(d.2.1.1,d.1.2.1,d.2.1.2),d.2.2))) (ae y1 (opt (J1 (d.1,n5,n2.1,n6,n4,n1.1,(n3.1,y6,n8),n7)) λd=>ret (Sum.inl (wI (d.1.1+1),(d.2.1.1,d.1.2.1,d.2.1.2),d.2.2))) (opt (J1 (d.1,n5,n2.1,n6,n4,n1.1,(y6,n3.2),n7)) λd=>ret (Sum.inl (wI (d.1.1+1),(d.2.1.1,d.1.2.1,d.2.1.2),d.2.2)))))) no) (ae y0 (ae y2 (opt (J1 (d.1,n5,n2.1,n6,n4,n1.1,(n3.1,n9,n8.1,y5),n7)) λd=>ret (Sum.inl (wI (d.1.1+1),(d.2.1.1,d.1.2.1,d.2.1.2),d.2.2))) (ae y3 (opt (J1 (d.1,n5,n2.1,n6,n4,n1.1,(n3.1,n9,y5,n8.2),n7)) λd=>ret (Sum.inl (wI (d.1.1+1),(d.2.1.1,d.1.2.1,d.2.1.2),d.2.2))) (ae y1 (opt (J1 (d.1,n5,n2.1,n6,n4,n1.1,(n3.1,y5,n8),n7)) λd=>ret (Sum.inl (wI (d.1.1+1),(d.2.1.1,d.1.2.1,d.2.1.2),d.2.2))) (opt (J1 (d.1,n5,n2.1,n6,n4,n1.1,(y5,n3.2),n7)) λd=>ret (Sum.inl (wI (d.1.1+1),(d.2.1.1,d.1.2.1,d.2.1.2),d.2.2)))))) no)))) no) (opt (J1 d) λd=>ret (Sum.inl (wI (d.1.1+1),(d.2.1.1,d.1.2.1,d.2.1.2),d.2.2)))) (ret (Sum.inr ((d.1,y4),d.2)))
def qz:=bA (qy lA) 2000
def sy (iO:rN)(my:HC)(aeX:JM)(eo:vM)(bm:gR)(S4:rS)(dI:LT cL fE)(qX:LT cM fG)(x:jK.B):Pg sw:=let n8:=x.2.1.2.2;ae (Nat.beq n8 n8) (opt (dI ((x.1.2, -1,n8,Int.ofNat n8,0),x.2.1,x.2.2.1,x.2.2.2,x.1.1)) λd=>let n16:=d.1.2;let n7:=d.2.2.2.1;let n2:=n7.2.2.2;let n9:=n2.2.2.2;let y0:=Int.toNat n16.1;ae (decide (n16.1<0)) (ret (4,d.2.2.1,n16.2.1,n7)) (ae (aW n16.1 d.2.1.2.2) (opt (iO d.2.2.2.2 d.1.1 d.2.2.1) λaj=>let n5:=aj.1.2.2.2.2;let bq:=n5.2.2.2;opt (my n5.2.1 n5.2.2.1 bq.1 (n2.2.2.1 y0) (n9.1 y0) (n9.2.1 y0) aj.2) λaI=>opt (my bq.2.1 bq.2.2.1 bq.2.2.2 (n9.2.2.1 y0) (n9.2.2.2.1 y0) (n9.2.2.2.2 y0) aI.2) λbp=>opt (aeX (n7.2.1 y0) (n7.2.2.1 y0) (n2.1 y0) (n2.2.1 y0)) λcg=>opt (eo aj.1.2.1 aj.1.2.2.1 aj.1.2.2.2.1 n5.1 cg.1 cg.2.1 cg.2.2.1 cg.2.2.2 bp.2) λdF=>opt (qX (1,d.2.1,dF.2,(n16.2.1,n7),aI.1,bp.1,dF.1,1073741824,0,0,0)) λd=>let n17:=d.2.1.2.2;let n1:=d.2.2.2;let bg:=n1.1.2;let bc:=n1.2.2.2.2;let n3:=bg.2.2.2.2;let n15:=n3.2.2.2;opt (bm bc.1 bc.2.1 bc.2.2.1 bc.2.2.2 d.2.2.1) λcH=>ae (Nat.beq n17 n17) (opt (S4 (d.2.1,cH.2,n1.2.1,n1.2.2.1,cH.1,bg)) λln=>let bu:=ln.2.2.2;let n6:=ln.2.1;let n4:=bu.2.2.2;let bL:=n4.2.2.2;let y0:=n6*11+0;ae (true&&Nat.beq y0 (n17*11)&&true) (ae (true&&Nat.ble (0+y0) (n1.1.1*11+0)) (ret (0,ln.1,n1.1.1,λj=>bif true&&Nat.blt j (0+n6) then ln.2.2.1 j else bg.1 j,λj=>bif true&&Nat.blt j (0+n6) then bu.1 j else bg.2.1 j,λj=>bif true&&Nat.blt j (0+n6) then bu.2.1 j else bg.2.2.1 j,λj=>bif true&&Nat.blt j (0+n6) then bu.2.2.1 j else bg.2.2.2.1 j,λj=>bif true&&Nat.blt j (0+n6) then n4.1 j else n3.1 j,λj=>bif true&&Nat.blt j (0+n6) then n4.2.1 j else n3.2.1 j,λj=>bif true&&Nat.blt j (0+n6) then n4.2.2.1 j else n3.2.2.1 j,λj=>bif true&&Nat.blt j (0+n6) then bL.1 j else n15.1 j,λj=>bif true&&Nat.blt j (0+n6) then bL.2.1 j else n15.2.1 j,λj=>bif true&&Nat.blt j (0+n6) then bL.2.2.1 j else n15.2.2.1 j,λj=>bif true&&Nat.blt j (0+n6) then bL.2.2.2 j else n15.2.2.2 j)) no) no) no) no)) no
def jL:=λx=>(sy kT tz zr ke cV jH qw qz x).val
abbrev gI:=rN×HC×JM×vM×bJ×gR×lu×rS×(LT cL fE)×(LT dM fF)×(LT cM fG)
def jM (p:gI):KK:=⟨[Eo p.1,T3 p.2.1,ad8 p.b.1,CU p.b.2.1,eG p.c.1,mh p.c.2.1,pY p.c.b.1,Ci p.c.b.2.1],⟨[⟨3,(0::1::2::7::8::rg 10 12 (rg 25 74 [])),[]⟩,⟨15,(rg 0 4 (rg 6 8 (rg 19 80 []))),[]⟩],[fH 3 3 cL yZ p.d.1,fH 15 3 cM zb p.d.b],[1,2],[⟨⟨19,(rg 0 4 (rg 6 8 (rg 19 80 []))),[]⟩,fH 19 3 dM za p.d.2.1⟩],(some ⟨0,(rg 0 8 (rg 9 90 [])),[]⟩)⟩,3,114⟩
theorem Na (p:gI):LI (jM p) 3 cL yZ (qv):=λ_ d c K=>by kernel_rfl
theorem Nb (p:gI):JI (jM p) 19 dM za (qx p.c.1):=λ_ d K=>by kernel_rfl
theorem Nc (p:gI):LI (jM p) 15 cM zb (qy p.d.2.1):=λ_ d c K=>by kernel_rfl
theorem S5 (p:gI):D2 (jM p) jK (lf rp) λb=>sy p.1 p.2.1 p.b.1 p.b.2.1 p.c.2.1 p.c.b.2.1 p.d.1 p.d.b b:=λb=>by kernel_rfl
abbrev jN:gI:=(kT,tz,zr,ke,aT,cV,fA,jH,qw,lA,qz)
theorem S6 [ax]:SC (Cp jL):=sc (kS (k:=jM jN) (.c KL (.c adY (.c arX (.c IE (.c eV (.c nu (.c yS (.c SM (.nil _))))))))) [3,15] [19] ⟨kL (Na jN),⟨kL (Nc jN),trivial⟩⟩ ⟨kJ ⟨19,(rg 0 4 (rg 6 8 (rg 19 80 []))),[]⟩ (Nb jN),trivial⟩ (S5 jN))
def nT:=qa (pr (cu eZ YS) (cd oH λb0=>(c kF (c lG (c (cl (gs b0.c.1 lF) nil) (cd pK λb4=>(cd m8 λb5=>(cd m9 λb6=>(cd na λb7=>(cd nc λb8=>(cd nd λb9=>(c lk (cd qU λsi=>(c (cl (gs b0.e jP) nil) (c (cl (gs b4.b.1 ay) nil) (c (cl (gs b5.b.1 ay) nil) (c (cl (gs b6.b.1 ay) nil) (c (cl (gs b7.b.1 ay) nil) (c (cl (gs b8.b.1 ay) nil) (c (cl (gs b9.b.1 ay) nil) (cl (cl (gs si.b gA) nil) nil)))))))))))))))))))))
def I2:=qe (res (pu Tc (pl (c (AF oH) (cu eT (cu eT (cu eT (cu eT (cu eT (cu eT (cu eT (cu eT (cu eT (cu eT (cl (AF qU) aFD)))))))))))) nil)))
def I3:=qe (res (pu Tc (pr (c (AF aLp) (cu eT (cu eT (cu eT (cu eT (cu eT (cu eT (cu eT (cu eT (cu eT (cu eT (cl (AF aK8) aFD)))))))))))) aAa)))
abbrev rz:=I2.B⊕I3.B
def R6:rz->T:=ls (lf I2) (lf I3)
abbrev FL:=nT.B->Option rz
def R7 (g:FL):Ct:=(106,FC nT R6 g)
def eU:=qs (st (dp (cu eZ (us 3 (cu LN (us 109 (c (ac aKZ) (c ai aKg)))))) λv=>(pl (cd (so aLp) λb0=>(c rF (c rG (c (so (cl (gs v.1 lF) nil)) (cd (so pK) λb4=>(cd (so m8) λb5=>(cd (so m9) λb6=>(cd (so na) λb7=>(cd (so nc) λb8=>(cd (so nd) λb9=>(c pJ (c (so aK8) (c (so (cl (gs b0.d.c.b jP) nil)) (c (so (cl (gs b4.b.1 ay) nil)) (c (so (cl (gs b5.b.1 ay) nil)) (c (so (cl (gs b6.b.1 ay) nil)) (c (so (cl (gs b7.b.1 ay) nil)) (c (so (cl (gs b8.b.1 ay) nil)) (c (so (cl (gs b9.b.1 ay) nil)) (c YV Hq)))))))))))))))))))) aPV)))
def ahJ:=qs (st (pr (cu eZ (us 3 (cu LN (us 109 (c (ac aKZ) aPX))))) (pl (c (so aLp) (c rF (c rG (c uD (c (so pK) (c (so m8) (c (so m9) (c (so na) (c (so nc) (c (so nd) (c pJ (c (so aK8) (c pL (c uF (c uF (c uF (c uF (c uF (c uF (c YV Hq)))))))))))))))))))) aPV)))
abbrev lD:=((Nat×Int×Int×Bool)×(PS×Bool×ZC×(NI×NI)×Nat×LL×Int×qB×Bool×Bool×Int×Int×Int×LJ×Nat)×(qB×Int×Int)×Ty5×(NI×NI×NI×NI×NI×NI×NI×NI)×dh×dh×dh×dh×dh×dh×(PU×Int)×BY×aMA×dt×dt×dt×dt×dt×dt×aMz×Nat×NI×NI×NI×NI×NI×NI×NI×NI×NI×NI×NI)
def LG {ρ:Type}(x:lD)(K:AX->St->Option ρ):Option ρ:=(λd=>K (.ex 0) (ahJ.em (d.1,d.2.1,d.b.1,d.b.2.1,(d.1.1,d.c.1),d.c.2.1,d.c.b.1,d.c.b.2.1,d.d.1,d.d.2.1,d.d.b.1,d.d.b.2.1,d.d.c.1,(d.2.1.d.c.b,d.d.c.2.1),(d.c.2.1.b.1,d.d.c.b.1),(d.c.b.1.b.1,d.d.c.b.2.1),(d.c.b.2.1.b.1,d.e.1),(d.d.1.b.1,d.e.2.1),(d.d.2.1.b.1,d.e.b.1),(d.d.b.1.b.1,d.e.b.2.1),d.e.c))) x
def BW (xi:lU)(d:eU.B):PL eU lD:=let bg:=d.2.2;let bc:=d.2.1;let n9:=d.1.2;let n4:=bg.2.2;let n8:=n4.1.2.2.2;let n7:=n4.2.2.2;let bq:=n7.2.2;let n2:=bq.2.2;let bu:=n2.2.2;let n5:=bu.2.2.2;let n3:=n5.2.2.2.2.2.2;let n6:=n3.2.2.2.2.2;let n1:=(d.1.1,n9.1,wI (n9.2+1));let y0:=0+Int.toNat n9.2;let y1:=decide (n9.2<n9.1);ae y1 (ae (aW n9.2 d.1.1) (ae (Nat.beq n2.2.1.2.2 n2.2.1.2.2) (opt (xi ((bc.2.2.1,n4.1.1 y0,n4.1.2.1 y0,(n4.1.2.2.1 y0,n8.1 y0,n8.2.1 y0),n8.2.2.1 y0,n8.2.2.2.1 y0,n8.2.2.2.2 y0),n2.2.1,bc.2.1,λj=>n3.1 (0+j),λj=>n3.2.1 (0+j),λj=>n3.2.2.1 (0+j),λj=>n3.2.2.2.1 (0+j),λj=>n3.2.2.2.2.1 (0+j),λj=>n6.1 (0+j),λj=>n6.2.1 (0+j),λj=>n6.2.2.1 (0+j),λj=>n6.2.2.2.1 (0+j),λj=>n6.2.2.2.2.1 (0+j),λj=>n6.2.2.2.2.2 (0+j))) λaj=>sm aj (λaI=>ret (Sum.inl (n1,(bc.1,aI.2.2,bc.2.2),bg.1,bg.2.1,n4.1,n4.2.1,n4.2.2.1,n7.1,n7.2.1,bq.1,bq.2.1,n2.1,aI.2.1,bu))) (λaI=>ret (Sum.inl (n1,(bc.1,aI.1.2,bc.2.2),bg.1,bg.2.1,n4.1,n4.2.1,n4.2.2.1,n7.1,n7.2.1,bq.1,bq.2.1,n2.1,aI.1.1,bu.1,bu.2.1,bu.2.2.1,n5.1,n5.2.1,n5.2.2.1,n5.2.2.2.1,n5.2.2.2.2.1,aI.2)))) no) no) (ret (Sum.inr ((d.1.1,n9.1,n9.2,y1),d.2)))
def uw:=bA (BW eW) 2000
def xB (sI:yO)(mF:tg)(aB:bJ)(dq:zz)(aJO:ajL)(cD:wD)(bK:fk)(W3:uN)(dI:LT eU lD)(x:nT.B):Pg rz:=let bu:=x.2.1;let n8:=x.1.2.2.2;let n7:=bu.2.2;let n5:=x.2.2.2.2.2;let n2:=n7.2.2;let n6:=n2.2.2.2.2;let n15:=n6.2.2.2.2.2.2.2.2;let n1:=n5.2.2.2;let bL:=n1.2.2;let n4:=bL.2.2;let n9:=n4.2.2.2.2;let y0:=wI (n2.2.2.2.1+1);opt (sI n8.1 n8.2.1 n8.2.2 bu.2.1) λd=>opt (mF x.1.2.1 d.2) λaj=>opt (aB 10529810258 aj.1 30 aj.2) λaI=>let uy:=wI (d.1-aI.1);let y1:=wI (aI.1-d.1);ae (decide (wI (4*if y1>uy then y1 else uy)>aI.1)) (ret (Sum.inl ((bu.1,aI.2,n7.1,n7.2.1,n2.1,n2.2.1,n2.2.2.1,0,(0,0,0),n6.2),n4.1))) (opt (dq 2 aI.2 (cr n6.1.1 [n8.1,n6.1.1]) (cr n6.1.2.1 [n8.2.1,n6.1.2.1]) (cr n6.1.2.2 [n8.2.2,n6.1.2.2]) true) λd=>ae (y0 !=10) (ret (Sum.inl ((bu.1,d.2,n7.1,n7.2.1,n2.1,n2.2.1,n2.2.2.1,y0,d.1,n6.2),n4.1))) (opt (aJO d.1.1 d.1.2.1 d.1.2.2 d.2) λbp=>opt (cD n7.1 0 4 (cr bp.1.1 [bp.1.2.2.2,bp.1.2.2.1,bp.1.2.1,bp.1.1]) false) λcg=>opt (bK n7.2.1.1 n7.2.1.2 0 4 bp.2 bu.1.2.2.2.2.2.2.2.1 false) λdF=>ae (Nat.beq n4.1.2.2 n4.1.2.2) (opt (W3 ((cg,x.1.1),n4.1,dF.2,n9.2.2.2.2)) λcH=>let bc:=cH.2.2.2;let n3:=bc.2.2.2;let bg:=n3.2.2.2;ae (Nat.beq n2.1 n2.1) (ae (Nat.beq n15 n15) (ae (Nat.beq n5.1.2.2.1 n5.1.2.2.1) (ae (Nat.beq n5.2.1.2.2.1 n5.2.1.2.2.1) (ae (Nat.beq n5.2.2.1.2.2.1 n5.2.2.1.2.2.1) (ae (Nat.beq n1.1.2.2.1 n1.1.2.2.1) (ae (Nat.beq n1.2.1.2.2.1 n1.2.1.2.2.1) (ae (Nat.beq bL.1.2.2.1 bL.1.2.2.1) (opt (dI ((n2.1,Int.ofNat n2.1,0),(bu.1,cH.1.2,cg,dF.1,n2.1,n2.2.1,y0,d.1,n6.2.2),x.2.2.1,x.2.2.2.1,x.2.2.2.2.1,n5.1,n5.2.1,n5.2.2.1,n1.1,n1.2.1,bL.1,bL.2.1,(cH.1.1.1,cH.1.1.2,1),n4.2.1,n4.2.2.1,n4.2.2.2.1,n9.1,n9.2.1,n9.2.2.1,n9.2.2.2.1,(n4.1.2.2,n9.2.2.2.2),1,λj=>bif Nat.beq j 0 then cH.2.1 else cH.2.1,λj=>bif Nat.beq j 0 then cH.2.2.1 else cH.2.2.1,λj=>bif Nat.beq j 0 then bc.1 else bc.1,λj=>bif Nat.beq j 0 then bc.2.1 else bc.2.1,λj=>bif Nat.beq j 0 then bc.2.2.1 else bc.2.2.1,λj=>bif Nat.beq j 0 then n3.1 else n3.1,λj=>bif Nat.beq j 0 then n3.2.1 else n3.2.1,λj=>bif Nat.beq j 0 then n3.2.2.1 else n3.2.2.1,λj=>bif Nat.beq j 0 then bg.1 else bg.1,λj=>bif Nat.beq j 0 then bg.2.1 else bg.2.1,λj=>bif Nat.beq j 0 then bg.2.2 else bg.2.2)) λd=>let bq:=d.2.2.2.2.2.2.2.2.2.2.2.2;ret (Sum.inr ((d.2.1,bq.1),bq.2.2.2.2.2.2.2.2.2))) no) no) no) no) no) no) no) no) no))
def rA:=λx=>(xB nX jj aT jq II fK cN eO uw x).val
abbrev xC:=yO×tg×bJ×zz×ajL×wD×fk×uN×lU×(LT eU lD)
def FM (p:xC):KK:=⟨[OB p.1,Eh p.2.1,eG p.b.1,HE p.b.2.1,axf p.c.1,Bp p.c.2.1,xZ p.c.b.1,EI p.c.b.2.1,wX p.d.1],⟨[⟨15,(1::2::3::rg 5 109 (rg 117 15 [])),[(1,[])]⟩],[fH 15 20 eU LG p.d.2],[11],[],(some ⟨0,(rg 0 132 []),[]⟩)⟩,20,106⟩
theorem afr (p:xC):LI (FM p) 15 eU LG (BW p.d.1):=λ_ d c K=>by kernel_rfl
theorem amI (p:xC):D2 (FM p) nT R6 λb=>xB p.1 p.2.1 p.b.1 p.b.2.1 p.c.1 p.c.2.1 p.c.b.1 p.c.b.2.1 p.d.2 b:=λb=>by kernel_rfl
abbrev FN:xC:=(nX,jj,aT,jq,II,fK,cN,eO,eW,uw)
theorem amJ [ax]:SC (R7 rA):=sc (kS (k:=FM FN) (.c XN (.c Mt (.c eV (.c Ml (.c aJg (.c Gd (.c CX (.c WT (.c GB (.nil _)))))))))) [15] [] ⟨kL (afr FN),trivial⟩ trivial (amI FN))
def ahf:=qa (pl EX nil)
def R8:=qe az6
def FO:=qe aQO
abbrev vu:=R8.B⊕FO.B
def acs:vu->T:=ls (lf R8) (lf FO)
def ahg:vu->T:=ls (λ_=>.fail) (lf FO)
abbrev Rt:=Int->Int->Int->Option vu
def ahh (g:Rt):Ct:=(42,FC ahf ahg (λb=>g b.1 b.2.1 b.b))
def ahi (cw:sK)(ep:TL)(aq:bU)(dG:IB)(fX:Oz)(rO:adR)(aD:cv)(x0:Int)(x1:Int)(x2:Int):Pg vu:=opt (cw x0 x1 x2) λd=>ae (!d) (ret (Sum.inl ())) (ae (decide (x0>850000000)) (ret (Sum.inl ())) (ae (decide (x0< -850000000)) (ret (Sum.inl ())) (opt (aq x0 3373259426 1800000000 false) λd=>opt (dG d.1 d.2) λaj=>opt (fX d.1 aj.2) λd=>opt (ep aj.1 aj.1 d.2) λaI=>opt (ep 7188036 aI.1 aI.2) λbp=>let y0:=wI (1073741824-bp.1);opt (rO y0 bp.2) λcg=>opt (aD 6531212288 cg.1 30 cg.2) λdF=>opt (ep 6531212288 1066553788 dF.2) λcH=>opt (ep y0 cg.1 cH.2) λln=>opt (aD cH.1 ln.1 30 ln.2) λqC=>opt (aq qC.1 3373259426 1800000000 qC.2) λnm=>opt (ep dF.1 d.1 nm.2) λd=>opt (aq d.1 3373259426 1800000000 d.2) λd=>ret (Sum.inr (x0,x1,x2,nm.1,d.1)))))
def Bg:=λx0 x1 x2=>(ahi fL tx aS mD pU zn bk x0 x1 x2).val
theorem azx:∀cw ep aq dG fX rO aD,D0 [wK cw,TM ep,cT aq,IC dG,OA fX,adS rO,fI aD] 42 ahf acs λb=>ahi cw ep aq dG fX rO aD b.1 b.2.1 b.b:=λ_ _ _ _ _ _ _ b=>by kernel_rfl
theorem azy [ax]:SC (ahh Bg):=sc (CH (R:=acs) (R':=ahg) (λd r h=>by rcases d with d|d<;>first|exact h|(have h:(none:Option m4)=some r:=h;cases h))<|k0 (.c Bw (.c aiF (.c c7 (.c Oy (.c XL (.c arP (.c gC (.nil _)))))))) (azx fL tx aS mD pU zn bk))
def ahj:=qa (pl fM nil)
def R9:=qe az6
def FP:=qe (res (pu (o9 (cu (rc (cp 0 10)) ahU)) (pu nil (cl aRe nil))))
abbrev Bh:=R9.B⊕FP.B
def acu:Bh->T:=ls (lf R9) (lf FP)
def ahk:Bh->T:=ls (λ_=>.fail) (lf FP)
abbrev Ru:=Int->Option Bh
def ahl (g:Ru):Ct:=(51,FC ahj ahk (λb=>g b))
def Hl (x0:Int):Pg Bh:=ae (decide (x0<1000)) (ret (Sum.inl ())) (ae (decide (x0>100000)) (ret (Sum.inl ())) (ret (Sum.inr x0)))
def rq:=λx0=>(Hl x0).val
theorem azz:D0 [] 51 ahj acu λb=>Hl b:=λb=>by kernel_rfl
theorem azA [ax]:SC (ahl rq):=sc (CH (R:=acu) (R':=ahk) (λd r h=>by rcases d with d|d<;>first|exact h|(have h:(none:Option m4)=some r:=h;cases h))<|k0 (.nil _) azz)
def acv:=qa (dp aPW λv=>(cl (cl (gs v.2.1 mB) nil) nil))
def Pw:=qe (res (pu aQc (pu Xc nil)))
def DI:=qe (res (pu (o9 (cu (rc (cp 1 37)) ahU)) (pu Xc (cl aK0 nil))))
abbrev yC:=Pw.B⊕DI.B
def YF:yC->T:=ls (lf Pw) (lf DI)
def acw:yC->T:=ls (λ_=>.fail) (lf DI)
abbrev Nd:=Int->Nat->NI->Bool->Option yC
def acx (g:Nd):Ct:=(52,sE 1 [.i .i64] (FC acv acw (λb=>g b.1.1 b.1.2.1 b.2 b.1.b)))
def gX:=qs (st (dp (c ai (us 1 (xs 1 (us 3 (cu (app 1 37) (us 15 (c Tg (c ai aPv)))))))) λv=>(pl (c (so (cl (gs v.2.1.1 mB) nil)) aQI) nil)))
def LH:=qs (st (pu (us 4 (cu (ac auc) (cu (ac at5) (us 40 nil)))) (pl ahV nil)))
def ahK:=qs (st (pr (c ai (us 1 (xs 1 (us 3 (cu (app 1 37) (us 15 (c Tg (c ai aPI)))))))) (pl (c Hp aQI) nil)))
abbrev oW:=LH.B⊕((Int×(Nat×Bool)×Int×Int×Bool)×NI×NI×NI×(Nat->Bool)×NI×NI×NI)
def Wl {ρ:Type}(x:oW)(K:AX->St->Option ρ):Option ρ:=(Sum.elim (λd=>K .ret (LH.em d)) (λd=>K (.ex 0) (ahK.em (d.1,(d.1.2.1.1,d.2.1),d.b)))) x
def Ie (d:gX.B):PL gX oW:=let n4:=d.2.1;let n2:=d.2.2.2;let n1:=d.1.2;let n3:=n1.2.2;let y0:=Int.toNat n3;let y1:=0+y0*6+6;let y2:=decide (n3<n1.2.1);ae y2 (ae (aW n3 n1.1.1) (ae (decide (n4 y0<1)) (ret (Sum.inr (Sum.inl (n1.1.1,n4)))) (ae (decide (n4 y0>1099511627776)) (ret (Sum.inr (Sum.inl (n1.1.1,n4)))) (ae (aW n3 6) (ae (Nat.ble y1 36&&Nat.ble y1 37) (ret (Sum.inl ((d.1.1,n1.1,n1.2.1,wI (n3+1)),n4,λj=>bif Nat.beq j y0 then 0 else d.2.2.1 j,λj=>bif Nat.beq j y0 then 0 else n2.1 j,λj=>bif Nat.beq j y0 then false else n2.2.1 j,λj=>bif Nat.beq j y0 then n3 else n2.2.2.1 j,λj=>bif Nat.beq j y0 then n4 y0 else n2.2.2.2.1 j,λj=>bif Nat.beq j y0 then d.1.1 else n2.2.2.2.2 j))) no) no))) no) (ret (Sum.inr (Sum.inr ((d.1.1,n1.1,n1.2.1,n3,y2),d.2))))
def Ig:=bA (Ie) 2000
def Nf (dI:LT gX oW)(x0:Int)(x1:Nat)(x2:Nat->Int)(w0:Bool):Pg yC:=ae (decide (x0<0)) (ret (Sum.inl ())) (ae (decide (x0>100)) (ret (Sum.inl ())) (ae (Int.ofNat x1 !=6) (ret (Sum.inl ())) (ae (Nat.beq x1 x1) (opt (dI ((x0,(x1,w0),Int.ofNat x1,0),x2,λx=>0,λx=>0,λx=>false,λx=>0,λx=>0,λx=>0)) λx=>sum x (λd=>ret (Sum.inl ())) λd=>ret (Sum.inr d.2.2)) no)))
def yD:=λx0 x1 x2 w0=>(Nf Ig x0 x1 x2 w0).val
abbrev Ey:=(LT gX oW)
def Ng (p:Ey):KK:=⟨[],⟨[⟨5,(1::3::4::5::rg 7 15 (rg 25 7 (rg 34 12 [32,33]))),[]⟩],[fH 5 1 gX Wl p],[],[],(some ⟨0,(rg 0 4 (rg 6 40 [])),[]⟩)⟩,1,52⟩
theorem amK (p:Ey):LI (Ng p) 5 gX Wl (Ie):=λ_ d c K=>by kernel_rfl
theorem avK (p:Ey):D2 (Ng p) acv YF λb=>Nf p b.1.1 b.1.2.1 b.2 b.1.b:=λb=>by kernel_rfl
abbrev Nh:Ey:=Ig
theorem avL [ax]:SC (acx yD):=sc (Sound.nil 1 [.i .i64]<|CH (R:=YF) (R':=acw) (λd r h=>by rcases d with d|d<;>first|exact h|(have h:(none:Option m4)=some r:=h;cases h))<|kS (k:=Ng Nh) (.nil _) [5] [] ⟨kL (amK Nh),trivial⟩ trivial (avK Nh))
def acy:=qa (pl FZ nil)
def Px:=qe az6
def Py:=qe (res (pu (o9 (cu (rc (cp 0 3)) ahU)) (pu nil (c (c gi (cl gi (cu (gc (je (pu Cw (pu xE (pu Tf (pu WN ju)))))) nil))) aQP))))
abbrev Ez:=Px.B⊕((Int×Int)×NI)
def YG:Ez->T:=ls (lf Px) (λd=>lf Py (d.1,d.2,d.2,d.2,d.2,d.2,d.2,d.2,d.2,d.2,d.2,d.2))
def acz:Ez->T:=ls (λ_=>.fail) (λd=>lf Py (d.1,d.2,d.2,d.2,d.2,d.2,d.2,d.2,d.2,d.2,d.2,d.2))
abbrev Ni:=Int->Int->Option Ez
def acA (g:Ni):Ct:=(53,FC acy acz (λb=>g b.1 b.2))
def Nj (x0:Int)(x1:Int):Pg Ez:=ae (decide (x0<1)) (ret (Sum.inl ())) (ae (decide (x0>64)) (ret (Sum.inl ())) (ae (decide (x1<1)) (ret (Sum.inl ())) (ae (decide (x1>1073741824)) (ret (Sum.inl ())) (ret (Sum.inr ((x0,x1),λx=>0))))))
def yE:=λx0 x1=>(Nj x0 x1).val
theorem avM:D0 [] 53 acy YG λb=>Nj b.1 b.2:=λb=>by kernel_rfl
theorem avN [ax]:SC (acA yE):=sc (CH (R:=YG) (R':=acz) (λd r h=>by rcases d with d|d<;>first|exact h|(have h:(none:Option m4)=some r:=h;cases h))<|k0 (.nil _) avM)
def alv:=qa (pl fM nil)
def Wm:=qe az6
def Wn:=qe (res (pu (o9 (cu (rc (cp 0 8)) ahU)) (pu nil (c (cu aQ (cu aQ (cu aQ (cu aQ (cu aQ (cl gi (cu (gc (je (pu Cw (pu xE (pu Tf (pu m5 ju)))))) apk))))))) (cl apq nil)))))
abbrev K7:=Wm.B⊕(Int×NI)
def ahm:K7->T:=ls (lf Wm) (λd=>lf Wn (d.1,d.2,d.2,d.2,d.2,d.2,d.2,d.2,d.2,d.2))
def alw:K7->T:=ls (λ_=>.fail) (λd=>lf Wn (d.1,d.2,d.2,d.2,d.2,d.2,d.2,d.2,d.2,d.2))
abbrev Wo:=Int->Option K7
def alx (g:Wo):Ct:=(54,FC alv alw (λb=>g b))
def Wp (x0:Int):Pg K7:=ae (decide (x0<1)) (ret (Sum.inl ())) (ae (decide (x0>64)) (ret (Sum.inl ())) (ret (Sum.inr (x0,λx=>0))))
def DJ:=λx0=>(Wp x0).val
theorem aCq:D0 [] 54 alv ahm λb=>Wp b:=λb=>by kernel_rfl
theorem aCr [ax]:SC (alx DJ):=sc (CH (R:=ahm) (R':=alw) (λd r h=>by rcases d with d|d<;>first|exact h|(have h:(none:Option m4)=some r:=h;cases h))<|k0 (.nil _) aCq)
def Nk:=qa (pl (cl (aa xG) nil) nil)
def aly:=qe (res (pu (o9 (cu (rc auc) (cu (rc aPF) nil))) (pu nil nil)))
def aCs:=qe (res (pu (o9 (cu (rc (cp 0 434)) ahU)) (pu nil (c (c gi (c gi (c gi (c gi (c gi (c gi (c gi (c gi (c gi (c gi (c gi (c gi (c gi (c gi (c gi (c gi (c jV (c jV (c gi (c gi (c gi (c gi (c gi (c gi (c gi (c gi (c gb (c jV (c aKk (cl jV (cu afH (cu afI (cu (gc (je (pu rq7 (pu xE (pu Tf (pu Oh ju)))))) (cu (gp 4 8) (cu (gp 5 8) (cu (gp 6 8) (cu (gp 7 8) (cu (gp 8 8) (cu (gp 9 8) (cu amU (cu aQ (cu aQ (cu acT (cu acT (cu amV (cu acT (cu aQ (cu aQ (cu aQ (cu aQ (cu acT (cu acT (cu acT (cu aQ (cu aQ (cu aQ (cu at9 (cu aQ (cu aQ (cu aQ (cu aQ (cu aQ (cu aQ (cu aQ (cu aQ (cu aQ (cu (gc (je (pu (nat 12) (pu xE (pu Tf (pu (nat 10) ju)))))) nil))))))))))))))))))))))))))))))))))))))))))))))))))))))))))))))))))) (c iy (c aRe (c (cl (ga (pu Tf lF)) nil) (c (cu aQ (cu aQ (cu aQ (cu aQ (cu aQ (cl gi (cu (gc (je (pu aHH (pu xE (pu Tf (pu m5 ju)))))) apk))))))) (c (cu aQ (cu aQ (cu aQ (cu aQ (cu aQ (cl gi (cu (gc (je (pu (nat 14) (pu xE (pu Tf (pu m5 ju)))))) apk))))))) (c (cu aQ (cu aQ (cu aQ (cu aQ (cu aQ (cl gi (cu (gc (je (pu (nat 15) (pu xE (pu Tf (pu m5 ju)))))) apk))))))) (c (cu aQ (cu aQ (cu aQ (cu aQ (cu aQ (cl gi (cu (gc (je (pu aHI (pu xE (pu Tf (pu m5 ju)))))) apk))))))) (c (cu aQ (cu aQ (cu aQ (cu aQ (cu aQ (cl gi (cu (gc (je (pu (nat 17) (pu xE (pu Tf (pu m5 ju)))))) apk))))))) (c (cu aQ (cu aQ (cu aQ (cu aQ (cu aQ (cl gi (cu (gc (je (pu (nat 18) (pu xE (pu Tf (pu m5 ju)))))) apk))))))) (c aK0 (c (c gi (cl gi (cu (gc (je (pu (nat 19) (pu xE (pu Tf (pu WN ju)))))) nil))) (c aQJ (c apq (c apq (c apq (c apq (c apq (c apq aQP))))))))))))))))))))))
abbrev Wq:=aly.B⊕((Int×Int×Int×Int×Int×Int×Int×Int×Int×Int×Int×Int×Int×Int×Int×Int×NI×NI×Int×Int×Int×Int×Int×Int×Int×Int×Bool×NI×NI×NI)×aPf×Int×NI×Int×Int×Int×Int×Int×Int×PU×(Int×Int)×NI×NI×NI×NI×NI×NI×NI)
def aCt:Wq->T:=ls (lf aly) (λd=>lf aCs (d.1,d.2.1,d.b.1,(d.b.2.1,d.b.2.1,d.b.2.1,d.b.2.1,d.b.2.1,d.b.2.1,d.b.2.1,d.b.2.1),d.c.1,d.c.2.1,d.c.b.1,d.c.b.2.1,d.d.1,d.d.2.1,d.d.b.1,d.d.b.2.1,(d.b.2.1,d.b.2.1,d.b.2.1,d.b.2.1,d.b.2.1,d.b.2.1,d.b.2.1,d.b.2.1,d.b.2.1,d.b.2.1),(d.d.c.1,d.d.c.1,d.d.c.1,d.d.c.1,d.d.c.1,d.d.c.1,d.d.c.1,d.d.c.1,d.d.c.1),(d.d.c.2.1,d.d.c.2.1,d.d.c.2.1,d.d.c.2.1,d.d.c.2.1,d.d.c.2.1,d.d.c.2.1,d.d.c.2.1,d.d.c.2.1),(d.d.c.b.1,d.d.c.b.1,d.d.c.b.1,d.d.c.b.1,d.d.c.b.1,d.d.c.b.1,d.d.c.b.1,d.d.c.b.1,d.d.c.b.1),(d.d.c.b.2.1,d.d.c.b.2.1,d.d.c.b.2.1,d.d.c.b.2.1,d.d.c.b.2.1,d.d.c.b.2.1,d.d.c.b.2.1,d.d.c.b.2.1,d.d.c.b.2.1),(d.e.1,d.e.1,d.e.1,d.e.1,d.e.1,d.e.1,d.e.1,d.e.1,d.e.1),(d.e.2.1,d.e.2.1,d.e.2.1,d.e.2.1,d.e.2.1,d.e.2.1,d.e.2.1,d.e.2.1,d.e.2.1),d.e.b,d.e.b,d.e.b,d.e.b,d.e.b,d.e.b,d.e.b,d.e.b,d.e.b,d.e.b,d.e.b))
abbrev Wr:=Nk.B->Option Wq
def aqH (g:Wr):Ct:=(20,FC Nk aCt g)
def afs (aJP:ak3)(bQ:kQ)(aM:eI)(aMn:apT)(azB:Rt)(azC:Ru)(avO:Nd)(avP:Ni)(yF:Wo)(x:Nk.B):Pg Wq:=let n3:=x.2.2;let n5:=n3.2.2.1.2;let n1:=n3.2.2.2;let n6:=n1.2.2;let n4:=n1.1.2.2;let n2:=n6.2.2.2.2;let n7:=n2.2.2;opt (aJP x) λd=>ae (!d) (ret (Sum.inl ())) (opt bQ λd=>opt (aM (λx=>0) false) λd=>opt (aMn 24 d.2 n6.1 false) λaj=>opt (azB n7.1 n7.2.1 n7.2.2) λaI=>sm aI (λd=>no) (λbp=>opt (azC x.1) λcg=>sm cg (λd=>no) (λdF=>opt (avO n3.2.1 6 (cr n1.1.1 [n4.2.2.2,n4.2.2.1,n4.2.1,n4.1,n1.1.2.1,n1.1.1]) false) λcH=>sm cH (λd=>no) (λln=>opt (avP n2.2.1 n2.1) λqC=>sm qC (λd=>no) (λnm=>opt (yF n3.1) λkE=>sm kE (λd=>no) (λuA=>opt (yF n3.1) λIH=>sm IH (λd=>no) (λJ6=>opt (yF n3.1) λaB7=>sm aB7 (λd=>no) (λYg=>opt (yF n3.1) λabH=>sm abH (λd=>no) (λYh=>opt (yF n3.1) λaB8=>sm aB8 (λd=>no) (λakk=>opt (yF n3.1) λaol=>sm aol (λd=>no) (λakl=>ret (Sum.inr ((x.1,x.2.1,n3.1,n3.2.1,n3.2.2.1.1,n5.1,n5.2.1,n5.2.2.1,n5.2.2.2.1,n5.2.2.2.2,n1.1.1,n1.1.2.1,n4.1,n4.2.1,n4.2.2.1,n4.2.2.2,n1.2.1,n6.1,n6.2.1,n6.2.2.1,n6.2.2.2.1,n2.1,n2.2.1,n7.1,n7.2.1,n7.2.2,aj.2,d.1,aj.1),bp,dF,λx=>0,uA.1,J6.1,Yg.1,Yh.1,akk.1,akl.1,ln,nm.1,uA.2,J6.2,Yg.2,Yh.2,akk.2,akl.2,nm.2)))))))))))))
def xj:=λx=>(afs yQ dJ bT Uc Bg rq yD yE DJ x).val
abbrev aqI:=ak3×kQ×eI×apT×Rt×Ru×Nd×Ni×Wo
def aCu (p:aqI):KK:=⟨[ak4 p.1,oQ p.2.1,ix p.b.1,aBy p.b.2.1,ahh p.c.1,ahl p.c.2.1,acx p.c.b.1,acA p.c.b.2.1,alx p.d],⟨[⟨11,(0::2::3::rg 5 65 (rg 71 15 [])),[]⟩],[],[],[],(some ⟨0,(0::1::rg 4 82 []),[]⟩)⟩,0,20⟩
theorem aMo (p:aqI):D2 (aCu p) Nk aCt λb=>afs p.1 p.2.1 p.b.1 p.b.2.1 p.c.1 p.c.2.1 p.c.b.1 p.c.b.2.1 p.d b:=λb=>by kernel_rfl
abbrev aCv:aqI:=(yQ,dJ,bT,Uc,Bg,rq,yD,yE,DJ)
theorem aCw [ax]:SC (aqH xj):=sc (kS (k:=aCu aCv) (.c ayc (.c ti (.c ji (.c aL6 (.c azy (.c azA (.c avL (.c avN (.c aCr (.nil _)))))))))) [11] [] ⟨kN,trivial⟩ trivial (aMo aCv))
end Go.Proofs.YtldgljclcgaibaaGreat
namespace Go.Proofs.YtldgljclcgaibaaGreat
open Go.Ab Go.Ab.Pg
theorem azS {x:Int}(h0: -1152921504606846976<=x)(h1:x<=1152921504606846976)(b:Bool):oV x b=some x:=by
 have e:ui x (-1152921504606846976) 1152921504606846976 b=some (Sum.inr x):=by
  simp only[ui,Ic,bI,bO]
  rw[decide_eq_false (show ¬(-1152921504606846976:Int)>1152921504606846976 by omega),decide_eq_false (show ¬x< -1152921504606846976 by omega),decide_eq_false (show ¬x>1152921504606846976 by omega)]
  rfl
 simp only[oV,M9,bZ,e,Option.bind_some,azP,Sum.elim_inr,bO]
theorem aT5 {x:Int}(h0: -1152921504606846976<=x)(h1:x<=1152921504606846976)(n b:Bool):yA x true n b=some (Sum.inr x):=by
 simp only[yA,M',bI,bZ,bO,Bool.not_true,cond_false,azS h0 h1,Option.bind_some]
theorem aCx {a b d:Int}(a0: -1152921504606846976<=a)(a1:a<=1152921504606846976)(b0: -1152921504606846976<=b)(b1:b<=1152921504606846976)(d0: -1152921504606846976<=d)(d1:d<=1152921504606846976)(nz:d≠0)
  (q0: -1152921504606846976<=Lj (a*b) d)(q1:Lj (a*b) d<=1152921504606846976)(h:Bool):jm a b d h=some (Lj (a*b) d):=by
 obtain⟨x,y,e,o,v⟩:=Bu a b (by omega) (by omega) (by omega) (by omega)
 have e2:=aEZ x y d o (by omega) (by omega) nz
 rw[v,if_pos ⟨by omega,by omega⟩] at e2
 have z:(d==0)=false:=by rw[beq_eq_false_iff_ne];exact nz
 simp only[jm,FK,Hj,Rp,bZ,bI,bO,azS a0 a1,azS b0 b1,azS d0 d1,Option.bind_some,e,z,cond_false,e2,aT5 q0 q1,azP,Sum.elim_inr]
end Go.Proofs.YtldgljclcgaibaaGreat
namespace Go.Proofs.YtldgljclcgaibaaGreat
open Go.Ab Go.Ab.Pg
theorem aT6 {n d m:Int}(h0:0<=n)(hd:0<d)(hm:0<=m)(h:n<=m*d):0<=qdq n d∧qdq n d<=m:=by
 have a:=Int.mul_ediv_add_emod n d
 have b:=Int.emod_nonneg n (show d≠0 by omega)
 have c:=Int.emod_lt_of_pos n hd
 have q0:0<=n/d:=Int.ediv_nonneg h0 (by omega)
 have q1:n/d<=m:=by
  refine Int.le_of_lt_add_one (Int.ediv_lt_of_lt_mul hd ?_)
  rw[Int.add_mul,Int.one_mul];omega
 unfold qdq
 split
 ·omega
 ·by_cases e:n/d=m
  ·exfalso
   rw[e,Int.mul_comm d m] at a
   omega
  ·omega
theorem aNv {n d m:Int}(hd:0<d)(hm:0<=m)(h0: -(m*d)<=n)(h1:n<=m*d): -m<=Lj n d∧Lj n d<=m:=by
 have e:jR d=d:=by unfold jR;split<;>omega
 have g:jR n<=m*d:=by unfold jR;split<;>omega
 obtain⟨p,q⟩:=aT6 (aGO n) hd hm g
 unfold Lj
 rw[e]
 split<;>omega
theorem aSQ {a x d m:Int}(ha0: -m<=a)(ha1:a<=m)(x0:0<=x)(x1:x<=d): -(m*d)<=a*x∧a*x<=m*d:=by
 have m0:0<=m:=by omega
 have h1:a*x<=m*x:=Int.mul_le_mul_of_nonneg_right ha1 x0
 have h2:m*x<=m*d:=Int.mul_le_mul_of_nonneg_left x1 m0
 have h3: -m*x<=a*x:=Int.mul_le_mul_of_nonneg_right ha0 x0
 rw[Int.neg_mul] at h3
 omega
theorem aE7 (a b x d:Int)(h:Bool)(m:Int)(a0: -m<=a)(a1:a<=m)(b0: -m<=b)(b1:b<=m)(x0:0<=x)(x1:x<=d)(d0:0<d)(d1:d<=1000000000)(m1:m<=100000000000000):
  Ok (fO a b x d h) (λr:Int=> -(3*m)<=r∧r<=3*m):=by
 have e:wI (b-a)=b-a:=eK (by omega) (by omega)
 obtain⟨p0,p1⟩:=aSQ (a:=b-a) (m:=2*m) (by omega) (by omega) x0 x1
 obtain⟨q0,q1⟩:=aNv d0 (show 0<=2*m by omega) p0 p1
 have k:=aCx (a:=b-a) (b:=x) (d:=d) (by omega) (by omega) (by omega) (by omega) (by omega) (by omega) (by omega) (by omega) (by omega) h
 have e2:wI (a+Lj ((b-a)*x) d)=a+Lj ((b-a)*x) d:=eK (by omega) (by omega)
 unfold fO uX
 show PQ _ _
 rw[e,k,bR,av,e2]
 omega
theorem aOH (c0 c1 c2 c3 c4 c5 c6 i x:Int)(h:Bool)(g:∀c∈[c0,c1,c2,c3,c4,c5,c6], -9000<=c∧c<=9000)(i0:0<=i)(i1:i<=5)(x0:0<=x)(x1:x<=600000000):
  Ok (kY c0 c1 c2 c3 c4 c5 c6 i x h) (λr:Int=> -28991029248000<=r∧r<=28991029248000):=by
 have w:∀c∈[c0,c1,c2,c3,c4,c5,c6],wI (c*1073741824)=c*1073741824:=λc hc=>eK (by have:=g c hc;omega) (by have:=g c hc;omega)
 have z:wI (i+1)=i+1:=bf i0 (by omega)
 simp only[List.mem_cons,List.not_mem_nil,or_false,forall_eq_or_imp,forall_eq] at w g
 obtain⟨w0,w1,w2,w3,w4,w5,w6⟩:=w
 obtain⟨g0,g1,g2,g3,g4,g5,g6⟩:=g
 unfold kY uY
 show PQ _ _
 rw[w0,w1,w2,w3,w4,w5,w6,z]
 have r1:aW i 7=true:=by rw[bl];omega
 have r2:aW (i+1) 7=true:=by rw[bl];omega
 dsimp only
 rw[r1,r2]
 repeat' (first
  |rw[aC]
  |(with_reducible refine aA (aE7 _ _ _ _ _ 9663676416000 ?_ ?_ ?_ ?_ ?_ ?_ ?_ ?_ ?_) λr _ hr=> ?_)
  |(rw[aL];refine⟨λc=> ?_,λc=> ?_⟩))
 all_goals first
  |(rw[av];omega)
  |omega
theorem aJQ (x0 x1 x2:Int)(h:Bool):bj (mP x0 x1 x2 h):=by
 unfold mP yB
 refine aF ?_
 dsimp only
 rw[bx];intro d hd
 rw[aL]
 refine⟨λ_=>by rw[av];trivial,λk=> ?_⟩
 rw[Bool.not_eq_false'] at k
 obtain⟨a0,a1,b0,b1⟩:=aoL hd k
 clear hd k
 have ey0:wI (x1+1800000000)=x1+1800000000:=eK (by omega) (by omega)
 have ey1:wI (x0+900000000)=x0+900000000:=eK (by omega) (by omega)
 rw[ey0,ey1]
 have t0:Int.tdiv (x0+900000000) 450000000=(x0+900000000)/450000000:=Int.tdiv_eq_ediv_of_nonneg (by omega)
 have t1:Int.tdiv (x1+1800000000) 600000000=(x1+1800000000)/600000000:=Int.tdiv_eq_ediv_of_nonneg (by omega)
 rw[t0,t1,eK (n:=(x0+900000000)/450000000) (by omega) (by omega),eK (n:=(x1+1800000000)/600000000) (by omega) (by omega)]
 generalize hi:(if (3:Int)<(x0+900000000)/450000000 then(3:Int) else(x0+900000000)/450000000)=i
 generalize hj:(if (5:Int)<(x1+1800000000)/600000000 then(5:Int) else(x1+1800000000)/600000000)=j
 have hi':0<=i∧i<=3∧0<=x0+900000000-i*450000000∧x0+900000000-i*450000000<=450000000:=by
  split at hi<;>omega
 have hj':0<=j∧j<=5∧0<=x1+1800000000-j*600000000∧x1+1800000000-j*600000000<=600000000:=by
  split at hj<;>omega
 clear hi hj t0 t1 ey0 ey1
 obtain⟨i0,i1,u0,u1⟩:=hi'
 obtain⟨j0,j1,v0,v1⟩:=hj'
 rw[eK (n:=i*450000000) (by omega) (by omega),eK (n:=j*600000000) (by omega) (by omega),eK (n:=x0+900000000-i*450000000) (by omega) (by omega),eK (n:=x1+1800000000-j*600000000) (by omega) (by omega),bf i0 (by omega)]
 have r1:aW i 5=true:=by rw[bl];omega
 have r2:aW (i+1) 5=true:=by rw[bl];omega
 rw[r1,r2]
 generalize x0+900000000-i*450000000=u at u0 u1 ⊢
 generalize x1+1800000000-j*600000000=v at v0 v1 ⊢
 have fin:∀d:Int, -86973087744000<=d->d<=86973087744000->Ok (jm d 3373259426 19327352832000 h) (λ_=>True):=by
  intro d d0 d1
  obtain⟨q0,q1⟩:=aNv (n:=d*3373259426) (d:=19327352832000) (m:=1000000000000000) (by omega) (by omega) (by omega) (by omega)
  rw[aCx (by omega) (by omega) (by omega) (by omega) (by omega) (by omega) (by omega) (by omega) (by omega) h]
  exact⟨_,rfl,trivial⟩
 rw[bx];intro _ _
 repeat' (first
  |rw[aC]
  |(with_reducible refine aA (aOH _ _ _ _ _ _ _ _ _ _ (by decide) j0 j1 v0 v1) λr _ hr=> ?_)
  |(with_reducible refine aA (aE7 _ _ _ _ _ 28991029248000 ?_ ?_ ?_ ?_ u0 u1 (by omega) (by omega) (by omega)) λs _ hs=> ?_)
  |(with_reducible refine aA (fin _ ?_ ?_) λt _ _=> ?_)
  |(rw[aL];refine⟨λc=> ?_,λc=> ?_⟩))
 all_goals first
  |(rw[av];trivial)
  |omega
instance aNw (x:iZ.B):bj (jc x):=by
 unfold jc rn
 try dsimp only
 have t:=aJQ
 exact aF (by rw[bx];intro _ _;rw[av];trivial)
end Go.Proofs.YtldgljclcgaibaaGreat
namespace Go.Proofs.YtldgljclcgaibaaGreat
open Go.Ab Go.Ab.Pg
theorem aMp (x:qo.B):Ok (qu x) (λr:DG=>r.1.2.2.2.2.2.2.2.2.2.2.2.2.2.2.2.2=x.2.1.2.2.2.2.2.2.2.2.2.2.2.2.2.2.2.2∧r.1.2.2.2.2.1=x.2.1.2.2.2.2.1∧r.1.2.2.2.2.2.2.2.2.2.2.2.2.2.1=x.2.1.2.2.2.2.2.2.2.2.2.2.2.2.2.1):=by
 unfold qu DH
 try dsimp only
 show PQ _ _
 simp only[aR]
 repeat' (first
  |rw[aC]
  |(with_reducible refine aA (acf _ ?_) λe _ he=> ?_)
  |(with_reducible refine aA (bj.Ok (aJQ _ _ _ _) (Q:=λ_=>True) λ_ _=>trivial) λ_ _ _=> ?_)
  |(rw[rI];refine⟨λ_ _=> ?_,λ_ _=> ?_⟩)
  |(rw[bx];intro _ _)
  |(rw[aL];refine⟨λc=> ?_,λc=> ?_⟩))
 all_goals first
  |(rw[av];exact he.2)
  |(rw[av];exact⟨rfl,rfl,rfl⟩)
  |(dsimp only;omega)
end Go.Proofs.YtldgljclcgaibaaGreat
namespace Go.Proofs.YtldgljclcgaibaaGreat
open Go.Ab Go.Ab.Pg
theorem aT7 (x:wc.B)(k:aW x.1.1 6=true)(h:x.2.1.2.2.2.2.2.2.2.2.2.2.2.2.2.2.2.2<=90000):Ok (wg x) (λr:Co=>match r with|.inl e=>e.1.2.2.2.2.2.2.2.2.2.2.2.2.2.2.2.2<=x.2.1.2.2.2.2.2.2.2.2.2.2.2.2.2.2.2.2+3∧e.1.2.2.2.2.1=x.2.1.2.2.2.2.1∧e.1.2.2.2.2.2.2.2.2.2.2.2.2.2.1=x.2.1.2.2.2.2.2.2.2.2.2.2.2.2.2.1|.inr e=>e.1.1.2.2.2.2.2.2.2.2.2.2.2.2.2.2.2.2<=x.2.1.2.2.2.2.2.2.2.2.2.2.2.2.2.2.2.2+3∧e.1.1.2.2.2.2.1=x.2.1.2.2.2.2.1∧e.1.1.2.2.2.2.2.2.2.2.2.2.2.2.2.1=x.2.1.2.2.2.2.2.2.2.2.2.2.2.2.2.1):=by
 have hi:aW x.1.1 6=true:=k
 unfold wg K6
 try dsimp only
 show PQ _ _
 simp only[aR,hi]
 repeat' (first
  |rw[aC]
  |(with_reducible refine aA (aSP _ ?_) λe _ he=> ?_)
  |(with_reducible refine aA (aCp _ ?_) λe _ he=> ?_)
  |(with_reducible refine aA (aHf _) λe _ he=> ?_)
  |(with_reducible refine aA (aMp _) λe _ he=> ?_)
  |(with_reducible refine aA (aHg _) λe _ he=> ?_)
  |(with_reducible refine aA (aSO _) λe _ he=> ?_)
  |(rw[rI];refine⟨λe0 e1=> ?_,λe0 e1=> ?_⟩)
  |(rw[bx];intro _ _)
  |(rw[aL];refine⟨λc=> ?_,λc=> ?_⟩))
 all_goals first
  |(dsimp only;omega)
  |(rw[av];exact⟨Nat.le_trans (Nat.le_of_eq he.1) (Nat.le_add_right _ _),he.2⟩)
  |(rw[av];exact⟨Nat.le_add_right _ _,rfl,rfl⟩)
  |(rw[e1] at he;rw[av];exact he)
  |(rw[e1] at he;rw[av];exact⟨Nat.le_trans he.1 (Nat.add_le_add_left (by decide) _),he.2⟩)
  |skip
end Go.Proofs.YtldgljclcgaibaaGreat
namespace Go.Proofs.YtldgljclcgaibaaGreat
open Go.Ab Go.Ab.Pg
theorem aHm (n:Int)(d:sj.B)(hd:0<=d.1.2.2.2.2∧d.1.2.2.2.2<=3∧d.1.2.1=n∧d.1.2.2.1=n∧0<=n∧n<=3):Ok (ali d) (λx:IT=>x.1.2.2.1=n):=
 bd (s:=_) (λd:sj.B=>0<=d.1.2.2.2.2∧d.1.2.2.2.2<=3∧d.1.2.1=n∧d.1.2.2.1=n∧0<=n∧n<=3) (λd:sj.B=>Int.toNat (3-d.1.2.2.2.2)) (λx:IT=>x.1.2.2.1=n) (λd hd=>by
  have hw:wI (d.1.2.2.2.2+1)=d.1.2.2.2.2+1:=bf (by omega) (by omega)
  obtain⟨c0,c1,i0,i1,i2,i3⟩:=hd
  have w0:wI (0+d.1.2.1)=d.1.2.1:=by rw[Int.zero_add];exact eK (by omega) (by omega)
  have w1:wI (10+d.1.2.2.2.2)=10+d.1.2.2.2.2:=eK (by omega) (by omega)
  unfold alh
  dsimp only
  rw[w0,w1,hw]
  rw[aL]
  refine⟨λh=> ?_,λ_=>by rw[av];exact i1⟩
  have h:=of_decide_eq_true h
  have r0:aW d.1.2.2.2.2 3=true:=by rw[bl];omega
  have r1:aW d.1.2.1 24=true:=by rw[bl];omega
  have r2:aW (10+d.1.2.2.2.2) 24=true:=by rw[bl];omega
  have r3:(true&&Nat.ble (0+(Int.toNat d.1.2.1*24+Int.toNat (10+d.1.2.2.2.2))*1+1) 576)=true:=by rw[Bool.true_and,bP];omega
  rw[r0,r1,r2,r3]
  repeat' (first
   |rw[aC]
   |(rw[aL];refine⟨λc=> ?_,λc=> ?_⟩)
   |(rw[bx];intro _ _))
  all_goals (rw[av];exact⟨⟨by show 0<=d.1.2.2.2.2+1;omega,by show d.1.2.2.2.2+1<=3;omega,i0,i1,i2,i3⟩,by show Int.toNat (3-(d.1.2.2.2.2+1))<_;omega⟩)) 2000 d hd (by omega)
theorem aHn (n:Int)(d:sk.B)(hd:0<=d.1.2.2∧d.1.2.2<=3∧d.1.1=n∧d.1.2.1=n∧0<=n∧n<=2):Ok (alk d) (λx:IU=>x.1.1=n∧x.1.2.1=n):=
 bd (s:=_) (λd:sk.B=>0<=d.1.2.2∧d.1.2.2<=3∧d.1.1=n∧d.1.2.1=n∧0<=n∧n<=2) (λd:sk.B=>Int.toNat (3-d.1.2.2)) (λx:IU=>x.1.1=n∧x.1.2.1=n) (λd hd=>by
  have hw:wI (d.1.2.2+1)=d.1.2.2+1:=bf (by omega) (by omega)
  obtain⟨c0,c1,i0,i1,i2,i3⟩:=hd
  have w0:wI (4+d.1.1)=4+d.1.1:=eK (by omega) (by omega)
  have w1:wI (13+d.1.2.2)=13+d.1.2.2:=eK (by omega) (by omega)
  have w2:wI (3*d.1.1)=3*d.1.1:=eK (by omega) (by omega)
  have w3:wI (3*d.1.1+d.1.2.2)=3*d.1.1+d.1.2.2:=eK (by omega) (by omega)
  unfold alj
  dsimp only
  rw[w0,w1,w2,w3,hw]
  rw[aL]
  refine⟨λh=> ?_,λ_=>by rw[av];exact⟨i0,i1⟩⟩
  have h:=of_decide_eq_true h
  have r0:aW (3*d.1.1+d.1.2.2) 9=true:=by rw[bl];omega
  have r1:aW (4+d.1.1) 24=true:=by rw[bl];omega
  have r2:aW (13+d.1.2.2) 24=true:=by rw[bl];omega
  have r3:(true&&Nat.ble (0+(Int.toNat (4+d.1.1)*24+Int.toNat (13+d.1.2.2))*1+1) 576)=true:=by rw[Bool.true_and,bP];omega
  rw[r0,r1,r2,r3]
  repeat' (first
   |rw[aC]
   |(rw[aL];refine⟨λc=> ?_,λc=> ?_⟩)
   |(rw[bx];intro _ _))
  all_goals (rw[av];exact⟨⟨by show 0<=d.1.2.2+1;omega,by show d.1.2.2+1<=3;omega,i0,i1,i2,i3⟩,by show Int.toNat (3-(d.1.2.2+1))<_;omega⟩)) 2000 d hd (by omega)
theorem aHo (d:sr.B)(hd:0<=d.1.2∧d.1.2<=4):Ok (aln d) (λx:IV=>True):=
 bd (s:=_) (λd:sr.B=>0<=d.1.2∧d.1.2<=4) (λd:sr.B=>Int.toNat (4-d.1.2)) (λx:IV=>True) (λd hd=>by
  have hw:wI (d.1.2+1)=d.1.2+1:=bf (by omega) (by omega)
  obtain⟨c0,c1⟩:=hd
  have w0:wI (0+d.1.2)=d.1.2:=by rw[Int.zero_add];exact eK (by omega) (by omega)
  unfold alm
  dsimp only
  rw[w0]
  rw[aL]
  refine⟨λh=> ?_,λ_=>by rw[av];trivial⟩
  have h:=of_decide_eq_true h
  have r0:aW d.1.2 4=true:=by rw[bl];omega
  have r1:aW d.1.2 24=true:=by rw[bl];omega
  have r3:(true&&Nat.ble (0+Int.toNat d.1.2*24+4) 576)=true:=by rw[Bool.true_and,bP];omega
  rw[r0,r1,r3]
  repeat' (first
   |rw[aC]
   |(rw[aL];refine⟨λc=> ?_,λc=> ?_⟩)
   |(with_reducible refine aA (aHm d.1.2 _ ⟨Int.le_refl 0,(show(0:Int)<=3 by decide),rfl,rfl,c0,by omega⟩) λe _ he=> ?_))
  all_goals (rw[av,he,hw];exact⟨⟨by show 0<=d.1.2+1;omega,by show d.1.2+1<=4;omega⟩,by show Int.toNat (4-(d.1.2+1))<_;omega⟩)) 2000 d hd (by omega)
theorem aHp (d:ss.B)(hd:0<=d.1∧d.1<=3):Ok (alp d) (λx:IW=>True):=
 bd (s:=_) (λd:ss.B=>0<=d.1∧d.1<=3) (λd:ss.B=>Int.toNat (3-d.1)) (λx:IW=>True) (λd hd=>by
  obtain⟨c0,c1⟩:=hd
  have hw:wI (d.1+1)=d.1+1:=bf (by omega) (by omega)
  have w0:wI (4+d.1)=4+d.1:=eK (by omega) (by omega)
  have w1:wI (7+d.1)=7+d.1:=eK (by omega) (by omega)
  unfold alo
  dsimp only
  rw[w0]
  rw[aL]
  refine⟨λh=> ?_,λ_=>by rw[av];trivial⟩
  have h:=of_decide_eq_true h
  have r0:aW d.1 3=true:=by rw[bl];omega
  have r1:aW (4+d.1) 24=true:=by rw[bl];omega
  have r2:aW (7+d.1) 24=true:=by rw[bl];omega
  have r3:(true&&Nat.ble (0+Int.toNat (4+d.1)*24+4) 576)=true:=by rw[Bool.true_and,bP];omega
  have r4:(true&&Nat.ble (0+(Int.toNat (7+d.1)*24+Int.toNat (4+d.1))*1+1) 576)=true:=by rw[Bool.true_and,bP];omega
  rw[r0,r1,r3]
  repeat' (first
   |rw[aC]
   |(with_reducible refine aA (aHn d.1 _ ⟨Int.le_refl 0,(show(0:Int)<=3 by decide),rfl,rfl,c0,by omega⟩) λe _ he=> ?_)
   |(rw[he.1,he.2,w0,w1,hw,r1,r2,r4])
   |(rw[aL];refine⟨λc=> ?_,λc=> ?_⟩))
  all_goals (rw[av];exact⟨⟨by show 0<=d.1+1;omega,by show d.1+1<=3;omega⟩,by show Int.toNat (3-(d.1+1))<_;omega⟩)) 2000 d hd (by omega)
instance aWo (x0:Nat->Int)(x1:Int)(x2:Int)(x3:Int)(x4:Int)(x5:Int)(x6:Int)(x7:Int)(x8:Int)(x9:Bool):bj (acg x0 x1 x2 x3 x4 x5 x6 x7 x8 x9):=by
 unfold acg avG
 try dsimp only
 refine aF ?_
 repeat' (first
  |(with_reducible refine aA (aHo _ ⟨Int.le_refl 0,(show(0:Int)<=4 by decide)⟩) λe _ he=> ?_)
  |(with_reducible refine aA (aHp _ ⟨Int.le_refl 0,(show(0:Int)<=3 by decide)⟩) λe _ he=> ?_)
  |(rw[bx];intro _ _))
 rw[av];trivial
instance aVb (x0:Nat->Int)(x1:Nat->Int)(x2:Nat->Int)(x3:Int)(x4:Int)(x5:Int)(x6:Int)(x7:Int)(x8:Int)(x9:Int)(fS:Int)(fT:Nat->Int)(BF:Bool):bj (IX x0 x1 x2 x3 x4 x5 x6 x7 x8 x9 fS fT BF):=by
 unfold IX alr
 exact aF (by simp only[bB,ov])
end Go.Proofs.YtldgljclcgaibaaGreat
namespace Go.Proofs.YtldgljclcgaibaaGreat
open Go.Ab Go.Ab.Pg
theorem aJR (N:Nat)(hN:N<=1999)(x:lT.B)(h:x.2.1.2.2<=N)(s:x.2.1.1<=(N:Int)):
  Ok (eW x) (λr:pC=>match r with|.inl e=>e.2.1=x.2.1|.inr e=>e.1.1.1=x.2.1.1∧e.1.1.2.2<=N∧x.2.1.2.2<=e.1.1.2.2∧e.1.1.2.2<=e.2.1):=by
 unfold eW wY
 try dsimp only
 show PQ _ _
 rw[aL]
 refine⟨λ_=>by rw[av],λh0=> ?_⟩
 have hn:x.2.1.2.2≠0:=λe=>by rw[e] at h0;cases h0
 have w:wI (Int.ofNat x.2.1.2.2-1)=Int.ofNat (x.2.1.2.2-1):=by
  simp only[Int.ofNat_eq_natCast];rw[eK (by omega) (by omega)];omega
 have b1:aW (Int.ofNat (x.2.1.2.2-1)) x.2.1.2.2=true:=by simp only[bl,Int.ofNat_eq_natCast];omega
 have b2:Nat.ble ((x.2.1.2.2+1)*88) 140737488355328=true:=by rw[bP];omega
 have b3:Ir 1 (x.2.1.2.2+1)=true:=by simp only[abb];omega
 have b4:Nat.ble ((0+(x.2.1.2.2+1-1))*88) 140737488355328=true:=by rw[bP];omega
 rw[w,b1,b2,b3,b4]
 repeat' (first
  |rw[aC]
  |(rw[bx];intro _ _)
  |(rw[aL];refine⟨λc=> ?_,λc=> ?_⟩))
 all_goals first
  |(rw[av];exact⟨rfl,by show 0+(x.2.1.2.2+1-1)<=N;omega,by show x.2.1.2.2<=0+(x.2.1.2.2+1-1);omega,by show 0+(x.2.1.2.2+1-1)<=x.2.1.2.2+1-1;omega⟩)
  |(rw[av];have c:=of_decide_eq_false c;simp only[Int.ofNat_eq_natCast] at c;exact⟨rfl,by show x.2.1.2.2+1<=N;omega,by show x.2.1.2.2<=x.2.1.2.2+1;omega,Nat.le_refl _⟩)
  |(rw[av])
theorem aft (N q q4:Nat)(q5:Int)(hN:N<=1999)(s:Int)(hs:s<=(N:Int))(d:eU.B)(hd:0<=d.1.2.2∧d.1.2.2<=d.1.2.1∧d.1.2.1<=1999∧d.1.2.1=((d.1.1:Nat):Int)∧d.2.2.2.2.2.2.2.2.2.2.2.2.1.2.2<=N∧d.2.2.2.2.2.2.2.2.2.2.2.2.1.1=s∧d.2.2.2.2.2.2.2.2.2.2.2.2.1.2.2<=d.2.2.2.2.2.2.2.2.2.2.2.2.2.2.2.2.2.2.2.2.2.1∧d.2.1.2.2.2.2.2.2.2.2.2.2.2.2.2.2=q∧d.2.1.2.2.2.2.1=q4∧d.2.1.2.2.2.2.2.2.2.2.2.2.2.1=q5):Ok (uw d) (λx:lD=>x.2.2.2.2.2.2.2.2.2.2.2.2.1.2.2<=N∧x.2.2.2.2.2.2.2.2.2.2.2.2.1.1=s∧x.2.2.2.2.2.2.2.2.2.2.2.2.1.2.2<=x.2.2.2.2.2.2.2.2.2.2.2.2.2.2.2.2.2.2.2.2.2.1∧x.2.1.2.2.2.2.2.2.2.2.2.2.2.2.2.2=q∧x.2.1.2.2.2.2.1=q4∧x.2.1.2.2.2.2.2.2.2.2.2.2.2.1=q5):=
 bd (s:=_) (λd:eU.B=>0<=d.1.2.2∧d.1.2.2<=d.1.2.1∧d.1.2.1<=1999∧d.1.2.1=((d.1.1:Nat):Int)∧d.2.2.2.2.2.2.2.2.2.2.2.2.1.2.2<=N∧d.2.2.2.2.2.2.2.2.2.2.2.2.1.1=s∧d.2.2.2.2.2.2.2.2.2.2.2.2.1.2.2<=d.2.2.2.2.2.2.2.2.2.2.2.2.2.2.2.2.2.2.2.2.2.1∧d.2.1.2.2.2.2.2.2.2.2.2.2.2.2.2.2=q∧d.2.1.2.2.2.2.1=q4∧d.2.1.2.2.2.2.2.2.2.2.2.2.2.1=q5) (λd:eU.B=>Int.toNat (d.1.2.1-d.1.2.2)) (λx:lD=>x.2.2.2.2.2.2.2.2.2.2.2.2.1.2.2<=N∧x.2.2.2.2.2.2.2.2.2.2.2.2.1.1=s∧x.2.2.2.2.2.2.2.2.2.2.2.2.1.2.2<=x.2.2.2.2.2.2.2.2.2.2.2.2.2.2.2.2.2.2.2.2.2.1∧x.2.1.2.2.2.2.2.2.2.2.2.2.2.2.2.2=q∧x.2.1.2.2.2.2.1=q4∧x.2.1.2.2.2.2.2.2.2.2.2.2.2.1=q5) (λd hd=>by
  obtain⟨i0,i1,i2,i3,i4,i5,i6,i7,i8,i9⟩:=hd
  have hw:wI (d.1.2.2+1)=d.1.2.2+1:=bf (by omega) (by omega)
  unfold BW
  dsimp only
  rw[aL]
  refine⟨λh=> ?_,λ_=>by rw[av];exact⟨i4,i5,i6,i7,i8,i9⟩⟩
  have h:=of_decide_eq_true h
  have r0:aW d.1.2.2 d.1.1=true:=by rw[bl];omega
  rw[r0,hw,aR,aC,aC]
  with_reducible refine aA (aJR N hN _ ?_ ?_) λe _ he=> ?_
  ·exact i4
  ·show d.2.2.2.2.2.2.2.2.2.2.2.2.1.1<=(N:Int)
   omega
  rw[rI]
  refine⟨λa ha=> ?_,λa ha=> ?_⟩
  ·rw[ha] at he
   have he:a.2.1=d.2.2.2.2.2.2.2.2.2.2.2.2.1:=he
   rw[av]
   exact⟨⟨by show 0<=d.1.2.2+1;omega,by show d.1.2.2+1<=d.1.2.1;omega,i2,i3,by show a.2.1.2.2<=N;rw[he];exact i4,by show a.2.1.1=s;rw[he];exact i5,by show a.2.1.2.2<=d.2.2.2.2.2.2.2.2.2.2.2.2.2.2.2.2.2.2.2.2.2.1;rw[he];exact i6,i7,i8,i9⟩,by show Int.toNat (d.1.2.1-(d.1.2.2+1))<_;omega⟩
  ·rw[ha] at he
   obtain⟨e1,e2,e3,e4⟩:=he
   rw[av]
   exact⟨⟨by show 0<=d.1.2.2+1;omega,by show d.1.2.2+1<=d.1.2.1;omega,i2,i3,e2,e1.trans i5,e4,i7,i8,i9⟩,by show Int.toNat (d.1.2.1-(d.1.2.2+1))<_;omega⟩) 2000 d hd (by omega)
theorem aOI (x:iB.B):Ok (eO x) (λr:uM=>r.1.1.1=x.2.1.1):=by
 unfold eO om
 show PQ _ _
 rw[bx];intro _ _
 rw[av]
theorem aOJ (N:Nat)(h1:1<=N)(hN:N<=1999)(x:nT.B)(hl:x.2.2.2.2.2.2.2.2.2.2.2.2.1.1<=(N:Int))(hq:x.2.1.2.2.2.2.1<=1999):Ok (rA x) (λr:rz=>match r with|.inl e=>e.2=x.2.2.2.2.2.2.2.2.2.2.2.2.1∧e.1.2.2.2.2.2.2.2.2.2.2.2.2.2.2.2.2=x.2.1.2.2.2.2.2.2.2.2.2.2.2.2.2.2.2.2∧e.1.2.2.2.2.1=x.2.1.2.2.2.2.1∧e.1.2.2.2.2.2.2.2.2.2.2.2.2.2.1=x.2.1.2.2.2.2.2.2.2.2.2.2.2.2.2.1|.inr e=>e.1.2.2.2<=N∧e.1.2.1=x.2.2.2.2.2.2.2.2.2.2.2.2.1.1∧e.1.2.2.2<=e.2.1∧e.1.1.2.2.2.2.2.2.2.2.2.2.2.2.2.2=x.2.1.2.2.2.2.2.2.2.2.2.2.2.2.2.2.2.2∧e.1.1.2.2.2.2.1=x.2.1.2.2.2.2.1∧e.1.1.2.2.2.2.2.2.2.2.2.2.2.1=x.2.1.2.2.2.2.2.2.2.2.2.2.2.2.2.1):=by
 unfold rA xB
 try dsimp only
 show PQ _ _
 simp only[aR]
 repeat' (first
  |rw[aC]
  |(with_reducible refine aA (aOI _) λe _ he=> ?_)
  |(with_reducible refine aA (aft N x.2.1.2.2.2.2.2.2.2.2.2.2.2.2.2.2.2.2 x.2.1.2.2.2.2.1 x.2.1.2.2.2.2.2.2.2.2.2.2.2.2.2.1 hN x.2.2.2.2.2.2.2.2.2.2.2.2.1.1 hl _ ?_) λe _ he=> ?_)
  |(rw[bx];intro _ _)
  |(rw[aL];refine⟨λc=> ?_,λc=> ?_⟩))
 all_goals first
  |(rw[av];exact⟨rfl,rfl,rfl,rfl⟩)
  |(rw[av];exact he)
  |(obtain⟨a,b,c,e⟩:=hdN x.2.1.2.2.2.2.1 hq
    exact⟨a,b,c,e,h1,he,Nat.le_refl _,rfl,rfl,rfl⟩)
  |skip
end Go.Proofs.YtldgljclcgaibaaGreat
namespace Go.Proofs.YtldgljclcgaibaaGreat
open Go.Ab Go.Ab.Pg
theorem Nl (n:Nat)(p:Int×Int×Nat)(d:cL.B)(hd:0<=d.1.2.2.2.2∧d.1.2.2.2.2<=d.1.2.2.2.1∧n<=1999∧d.1.2.2.2.1=(n:Int)∧d.1.2.2.1=n∧d.2.1=p∧d.1.2.1<(n:Int)):Ok (qw d) (λx:fE=>x.1.2.2.1=n∧x.2.1=p∧x.1.2.1<(n:Int)):=
 bd (s:=_) (λd:cL.B=>0<=d.1.2.2.2.2∧d.1.2.2.2.2<=d.1.2.2.2.1∧n<=1999∧d.1.2.2.2.1=(n:Int)∧d.1.2.2.1=n∧d.2.1=p∧d.1.2.1<(n:Int)) (λd:cL.B=>Int.toNat (d.1.2.2.2.1-d.1.2.2.2.2)) (λx:fE=>x.1.2.2.1=n∧x.2.1=p∧x.1.2.1<(n:Int)) (λd hd=>by
  have hw:wI (d.1.2.2.2.2+1)=d.1.2.2.2.2+1:=bf (by omega) (by omega)
  obtain⟨i0,i1,i2,i3,i4,i5,i6⟩:=hd
  unfold qv
  dsimp only
  rw[aL]
  refine⟨λh=> ?_,λ_=>by rw[av];exact⟨i4,i5,i6⟩⟩
  have h:=of_decide_eq_true h
  have r0:aW d.1.2.2.2.2 d.1.2.2.1=true:=by rw[bl];omega
  rw[r0,hw,aC,aL]
  refine⟨λ_=> ?_,λ_=> ?_⟩
  ·rw[av];exact⟨⟨by show 0<=d.1.2.2.2.2+1;omega,by show d.1.2.2.2.2+1<=d.1.2.2.2.1;omega,i2,i3,i4,i5,by show d.1.2.2.2.2<(n:Int);omega⟩,by show Int.toNat (d.1.2.2.2.1-(d.1.2.2.2.2+1))<_;omega⟩
  ·rw[av];exact⟨⟨by show 0<=d.1.2.2.2.2+1;omega,by show d.1.2.2.2.2+1<=d.1.2.2.2.1;omega,i2,i3,i4,i5,i6⟩,by show Int.toNat (d.1.2.2.2.1-(d.1.2.2.2.2+1))<_;omega⟩) 2000 d hd (by omega)
theorem Nm (d:dM.B)(h0:0<=d.1)(h1:d.1<4):Ok (lA d) (λx:fF=>x.1.1=d.1∧x.2.1=(d.2.1.1,d.2.1.2.2)∧x.2.2.2.1=d.2.2.2.1):=by
 have r0:aW d.1 4=true:=by rw[bl];omega
 unfold lA qx
 try dsimp only
 show PQ _ _
 rw[r0]
 repeat' (first
  |rw[aC]
  |(rw[bx];intro _ _)
  |(rw[aL];refine⟨λc=> ?_,λc=> ?_⟩))
 all_goals (rw[av];exact⟨rfl,rfl,rfl⟩)
theorem Nn (a:Int)(n:Nat)(v:Nat×(Nat->Int)×(Nat->Int)×(Nat->Int)×(Nat->Int)×(Nat->Int)×(Nat->Int)×(Nat->Int)×(Nat->Int)×(Nat->Int)×(Nat->Int)×(Nat->Int))(d:cM.B)(hd:0<=d.1∧d.1<=4∧d.2.1.1=a∧d.2.1.2.2=n∧d.2.2.2.1=v):Ok (qz d) (λx:fG=>x.2.1.1=a∧x.2.1.2.2=n∧x.2.2.2.1=v):=
 bd (s:=_) (λd:cM.B=>0<=d.1∧d.1<=4∧d.2.1.1=a∧d.2.1.2.2=n∧d.2.2.2.1=v) (λd:cM.B=>Int.toNat (4-d.1)) (λx:fG=>x.2.1.1=a∧x.2.1.2.2=n∧x.2.2.2.1=v) (λd hd=>by
  have hw:wI (d.1+1)=d.1+1:=bf (by omega) (by omega)
  obtain⟨i0,i1,i2,i3,i4⟩:=hd
  unfold qy
  dsimp only
  rw[aL]
  refine⟨λh=> ?_,λ_=>by rw[av];exact⟨i2,i3,i4⟩⟩
  have h:=of_decide_eq_true h
  have r0:aW d.1 4=true:=by rw[bl];omega
  rw[r0]
  repeat' (first
   |rw[aC]
   |(with_reducible refine aA (Nm _ i0 h) λe _ he=> ?_)
   |(rw[aL];refine⟨λc=> ?_,λc=> ?_⟩))
  all_goals (obtain⟨e1,e2,e3⟩:=he;rw[av,e1,e2,hw];exact⟨⟨by show 0<=d.1+1;omega,by show d.1+1<=4;omega,i2,i3,e3.trans i4⟩,by show Int.toNat (4-(d.1+1))<_;omega⟩)) 2000 d hd (by omega)
theorem aJS (x:jK.B)(h:x.2.1.2.2<=1999):Ok (jL x) (λr:sw=>r.2.2.1=x.2.1.2.2):=by
 unfold jL sy
 try dsimp only
 show PQ _ _
 rw[aR,aC]
 with_reducible refine aA (Nl x.2.1.2.2 x.2.1 _ ?_) λd _ hd=> ?_
 ·exact⟨Int.le_refl 0,by show(0:Int)<=Int.ofNat x.2.1.2.2;simp only[Int.ofNat_eq_natCast];omega,h,rfl,rfl,rfl,by show(-1:Int)<_;omega⟩
 obtain⟨d1,d2,d3⟩:=hd
 try dsimp only
 rw[aL]
 refine⟨λ_=>by rw[av];exact d1,λc=> ?_⟩
 have c:=of_decide_eq_false c
 have r0:aW d.1.2.1 d.2.1.2.2=true:=by rw[bl,d2];omega
 rw[r0,aC]
 rw[bx];intro e1 _
 rw[bx];intro e2 _
 rw[bx];intro e3 _
 rw[bx];intro e4 _
 rw[bx];intro e5 _
 with_reducible refine aA (Nn x.2.1.1 x.2.1.2.2 (d.1.2.2.1,d.2.2.2.1) _ ?_) λf _ hf=> ?_
 ·exact⟨by show(0:Int)<=1;decide,by show(1:Int)<=4;decide,by show d.2.1.1=_;rw[d2],by show d.2.1.2.2=_;rw[d2],rfl⟩
 obtain⟨f1,f2,f3⟩:=hf
 rw[bx];intro e6 _
 rw[aR,aC]
 with_reducible refine aA (Rm _ ?_) λg _ hg=> ?_
 ·show f.2.1.2.2<=1999
  omega
 have hg:g.2.1=f.2.1.2.2:=hg
 have fn:f.2.2.2.1.1=x.2.1.2.2:=by rw[f3];exact d1
 have b1:(true&&Nat.beq (g.2.1*11+0) (f.2.1.2.2*11)&&true)=true:=by rw[hg,Nat.add_zero,aR];rfl
 have b2:(true&&Nat.ble (0+(g.2.1*11+0)) (f.2.2.2.1.1*11+0))=true:=by rw[hg,fn,Bool.true_and,bP];omega
 rw[b1,b2,aC,aC,av]
 exact fn
end Go.Proofs.YtldgljclcgaibaaGreat
namespace Go.Proofs.YtldgljclcgaibaaGreat
open Go.Ab Go.Ab.Pg
theorem alz (a b c:Int):lV a b c=some (decide (b<=a)&&decide (a<=c)):=by
 simp only[lV,KM,bI,bO]
 by_cases h:b<=a<;>simp[h]
theorem aMq (w d:iY.B)(hd:0<=d.1.2∧d.1.2<=24∧d.2=w.2∧∀j:Nat,(j:Int)<d.1.2->(0<=w.2.2.2.2.2.2.2.2.2.2.2.2.2.2.2.2.2.1 j∧w.2.2.2.2.2.2.2.2.2.2.2.2.2.2.2.2.2.1 j<=72057594037927936)∧1<=w.2.2.2.2.2.2.2.2.2.2.2.2.2.2.2.2.2.2.1 j∧w.2.2.2.2.2.2.2.2.2.2.2.2.2.2.2.2.2.2.1 j<=72057594037927936):Ok (GC d) (λx:sM=>match x with|.inl _=>True|.inr e=>e.2=w.2∧∀j:Nat,j<24->(0<=w.2.2.2.2.2.2.2.2.2.2.2.2.2.2.2.2.2.1 j∧w.2.2.2.2.2.2.2.2.2.2.2.2.2.2.2.2.2.1 j<=72057594037927936)∧1<=w.2.2.2.2.2.2.2.2.2.2.2.2.2.2.2.2.2.2.1 j∧w.2.2.2.2.2.2.2.2.2.2.2.2.2.2.2.2.2.2.1 j<=72057594037927936):=
 bd (s:=_) (λd:iY.B=>0<=d.1.2∧d.1.2<=24∧d.2=w.2∧∀j:Nat,(j:Int)<d.1.2->(0<=w.2.2.2.2.2.2.2.2.2.2.2.2.2.2.2.2.2.1 j∧w.2.2.2.2.2.2.2.2.2.2.2.2.2.2.2.2.2.1 j<=72057594037927936)∧1<=w.2.2.2.2.2.2.2.2.2.2.2.2.2.2.2.2.2.2.1 j∧w.2.2.2.2.2.2.2.2.2.2.2.2.2.2.2.2.2.2.1 j<=72057594037927936) (λd:iY.B=>Int.toNat (24-d.1.2)) (λx:sM=>match x with|.inl _=>True|.inr e=>e.2=w.2∧∀j:Nat,j<24->(0<=w.2.2.2.2.2.2.2.2.2.2.2.2.2.2.2.2.2.1 j∧w.2.2.2.2.2.2.2.2.2.2.2.2.2.2.2.2.2.1 j<=72057594037927936)∧1<=w.2.2.2.2.2.2.2.2.2.2.2.2.2.2.2.2.2.2.1 j∧w.2.2.2.2.2.2.2.2.2.2.2.2.2.2.2.2.2.2.1 j<=72057594037927936) (λd hd=>by
  have hw:wI (d.1.2+1)=d.1.2+1:=bf (by omega) (by omega)
  obtain⟨i0,i1,i2,i3⟩:=hd
  unfold N9
  dsimp only
  rw[aL]
  refine⟨λh=> ?_,λh=> ?_⟩
  ·have h:=of_decide_eq_true h
   have r0:aW d.1.2 24=true:=by rw[bl];omega
   have r1:Nat.ble (0+Int.toNat d.1.2*1+1) 24=true:=by rw[bP];omega
   rw[r0,r1,aC,aC,alz,bR,aL]
   refine⟨λ_=>by rw[av];trivial,λc=> ?_⟩
   rw[aC,aC,alz,bR,aL]
   refine⟨λ_=>by rw[av];trivial,λc2=> ?_⟩
   rw[Bool.not_eq_false',Bool.and_eq_true,decide_eq_true_eq,decide_eq_true_eq] at c c2
   rw[av,hw]
   refine⟨⟨by show 0<=d.1.2+1;omega,by show d.1.2+1<=24;omega,i2,λj hj=> ?_⟩,by show Int.toNat (24-(d.1.2+1))<_;omega⟩
   have hj:(j:Int)<d.1.2+1:=hj
   by_cases e:(j:Int)<d.1.2
   ·exact i3 j e
   ·have e2:Int.toNat d.1.2=j:=by omega
    rw[e2,i2] at c c2
    exact⟨c,c2⟩
  ·have h:=of_decide_eq_false h
   rw[av]
   exact⟨i2,λj hj=>i3 j (by omega)⟩) 2000 d hd (by omega)
structure aSR (x:Dj.B):Prop where
 place:∃e,vY x.2.2.2.2.2.2.2.2.2.2.2.2.2.1 x.2.2.2.2.2.2.2.2.2.2.2.2.2.2.1 x.2.2.2.2.2.2.2.2.2.2.2.2.2.2.2=some (Sum.inr e)
 arr:∀j:Nat,j<24->(0<=x.2.2.2.2.2.2.1 j∧x.2.2.2.2.2.2.1 j<=72057594037927936)∧1<=x.2.2.2.2.2.2.2.1 j∧x.2.2.2.2.2.2.2.1 j<=72057594037927936
 nums:1000<=x.1∧x.1<=100000∧0<=x.2.1∧x.2.1<=300000∧1<=x.2.2.1∧x.2.2.1<=64∧0<=x.2.2.2.1∧x.2.2.2.1<=100∧0<=x.2.2.2.2.2.2.2.2.1∧x.2.2.2.2.2.2.2.2.1<=1099511627776∧1<=x.2.2.2.2.2.2.2.2.2.1∧x.2.2.2.2.2.2.2.2.2.1<=72057594037927936∧0<=x.2.2.2.2.2.2.2.2.2.2.1∧x.2.2.2.2.2.2.2.2.2.2.1<=3∧1<=x.2.2.2.2.2.2.2.2.2.2.2.1∧x.2.2.2.2.2.2.2.2.2.2.2.1<=1073741824∧1<=x.2.2.2.2.2.2.2.2.2.2.2.2.1∧x.2.2.2.2.2.2.2.2.2.2.2.2.1<=64∧1<=x.2.2.2.2.1.1∧x.2.2.2.2.1.1<=1000∧1<=x.2.2.2.2.1.2.1∧x.2.2.2.2.1.2.1<=1000∧1<=x.2.2.2.2.1.2.2.1∧x.2.2.2.2.1.2.2.1<=1000∧1<=x.2.2.2.2.1.2.2.2.1∧x.2.2.2.2.1.2.2.2.1<=1000∧1<=x.2.2.2.2.1.2.2.2.2.1∧x.2.2.2.2.1.2.2.2.2.1<=1000∧1<=x.2.2.2.2.1.2.2.2.2.2∧x.2.2.2.2.1.2.2.2.2.2<=1000∧1<=x.2.2.2.2.2.1.1∧x.2.2.2.2.2.1.1<=1099511627776∧1<=x.2.2.2.2.2.1.2.1∧x.2.2.2.2.2.1.2.1<=1099511627776∧1<=x.2.2.2.2.2.1.2.2.1∧x.2.2.2.2.2.1.2.2.1<=1099511627776∧1<=x.2.2.2.2.2.1.2.2.2.1∧x.2.2.2.2.2.1.2.2.2.1<=1099511627776∧1<=x.2.2.2.2.2.1.2.2.2.2.1∧x.2.2.2.2.2.1.2.2.2.2.1<=1099511627776∧1<=x.2.2.2.2.2.1.2.2.2.2.2∧x.2.2.2.2.2.1.2.2.2.2.2<=1099511627776
theorem aOK (x:Dj.B):Ok (yQ x) (λr:Bool=>r=true->aSR x):=by
 unfold yQ Yu
 try dsimp only
 show PQ _ _
 repeat' (first
  |(rw[alz,bR])
  |(with_reducible refine aA (aMq _ _ ⟨Int.le_refl 0,(show(0:Int)<=24 by decide),rfl,λj hj=>absurd hj (by show ¬(j:Int)<0;omega)⟩) λe _ he=> ?_)
  |(rw[zf];refine⟨λa ha=> ?_,λa ha=> ?_⟩)
  |(rw[rI];refine⟨λb hb=> ?_,λb hb=> ?_⟩)
  |(rw[bx];intro q hq)
  |(rw[aL];refine⟨λc=> ?_,λc=> ?_⟩<;>(try simp only[Bool.not_eq_true',Bool.not_eq_false',Bool.and_eq_true,decide_eq_true_eq,decide_eq_false_iff_not] at c)))
 all_goals first
  |(rw[av];intro hr;exact absurd hr (by decide))
  |skip
 rw[ha] at he
 obtain⟨e1,e2⟩:=he
 obtain⟨a1,a2⟩:=a
 have e1:a2=_:=e1
 subst e1
 rw[av]
 intro hr
 have hr:=of_decide_eq_true hr
 rw[hb] at hq
 refine⟨⟨_,hq⟩,e2,?_⟩
 dsimp only at*
 omega
end Go.Proofs.YtldgljclcgaibaaGreat
namespace Go.Proofs.YtldgljclcgaibaaGreat
open Go.Ab Go.Ab.Pg
theorem No {δ:Type}{Q:δ->Prop}(x y:Pg δ):PQ (.ae false x y) Q=PQ y Q:=by unfold PQ;rw[Pg.bI];rfl
theorem aJT (a:Int)(h:1000<=a)(k:a<=100000):rq a=some (Sum.inr a):=by
 have h1:decide (a<1000)=false:=decide_eq_false (by omega)
 have h2:decide (a>100000)=false:=decide_eq_false (by omega)
 unfold rq Hl
 rw[h1,h2];rfl
theorem aMr (a:Int)(h:1<=a)(k:a<=64):DJ a=some (Sum.inr (a,λ_=>0)):=by
 have h1:decide (a<1)=false:=decide_eq_false (by omega)
 have h2:decide (a>64)=false:=decide_eq_false (by omega)
 unfold DJ Wp
 rw[h1,h2];rfl
theorem aHq (a b:Int)(h:1<=a)(k:a<=64)(h':1<=b)(k':b<=1073741824):yE a b=some (Sum.inr ((a,b),λ_=>0)):=by
 have h1:decide (a<1)=false:=decide_eq_false (by omega)
 have h2:decide (a>64)=false:=decide_eq_false (by omega)
 have h3:decide (b<1)=false:=decide_eq_false (by omega)
 have h4:decide (b>1073741824)=false:=decide_eq_false (by omega)
 unfold yE Nj
 rw[h1,h2,h3,h4];rfl
theorem aHr (T:Nat->Int)(hT:∀j:Nat,j<6->1<=T j∧T j<=1099511627776)(d:gX.B)(hd:0<=d.1.2.2.2∧d.1.2.2.2<=6∧d.1.2.1.1=6∧d.1.2.2.1=6∧d.2.1=T):Ok (Ig d) (λx:oW=>match x with|.inl _=>False|.inr _=>True):=
 bd (s:=_) (λd:gX.B=>0<=d.1.2.2.2∧d.1.2.2.2<=6∧d.1.2.1.1=6∧d.1.2.2.1=6∧d.2.1=T) (λd:gX.B=>Int.toNat (6-d.1.2.2.2)) (λx:oW=>match x with|.inl _=>False|.inr _=>True) (λd hd=>by
  obtain⟨i0,i1,i2,i3,i4⟩:=hd
  have hw:wI (d.1.2.2.2+1)=d.1.2.2.2+1:=bf (by omega) (by omega)
  unfold Ie
  dsimp only
  rw[aL]
  refine⟨λh=> ?_,λ_=>by rw[av];trivial⟩
  have h:=of_decide_eq_true h
  have r0:aW d.1.2.2.2 d.1.2.1.1=true:=by rw[bl];omega
  have r1:aW d.1.2.2.2 6=true:=by rw[bl];omega
  have t:=hT (Int.toNat d.1.2.2.2) (by omega)
  have c1:decide (d.2.1 (Int.toNat d.1.2.2.2)<1)=false:=decide_eq_false (by rw[i4];omega)
  have c2:decide (d.2.1 (Int.toNat d.1.2.2.2)>1099511627776)=false:=decide_eq_false (by rw[i4];omega)
  have r2:(Nat.ble (0+Int.toNat d.1.2.2.2*6+6) 36&&Nat.ble (0+Int.toNat d.1.2.2.2*6+6) 37)=true:=by rw[Bool.and_eq_true,bP,bP];omega
  rw[r0,c1,c2,r1,r2,hw,aC,No,No,aC,aC,av]
  exact⟨⟨by show 0<=d.1.2.2.2+1;omega,by show d.1.2.2.2+1<=6;omega,i2,i3,i4⟩,by show Int.toNat (6-(d.1.2.2.2+1))<_;omega⟩) 2000 d hd (by omega)
theorem aHs (m:Int)(T:Nat->Int)(w:Bool)(h:0<=m)(k:m<=100)(hT:∀j:Nat,j<6->1<=T j∧T j<=1099511627776):Ok (yD m 6 T w) (λr:yC=>∃e,r=Sum.inr e):=by
 have h1:decide (m<0)=false:=decide_eq_false (by omega)
 have h2:decide (m>100)=false:=decide_eq_false (by omega)
 unfold yD Nf
 show PQ _ _
 rw[h1,h2,No,No,(show(Int.ofNat 6!=6)=false from rfl),No,aR,aC]
 refine aA (aHr T hT _ ⟨Int.le_refl 0,(show(0:Int)<=6 by decide),rfl,rfl,rfl⟩) λy _ hy=> ?_
 rw[zf]
 refine⟨λa ha=> ?_,λa ha=> ?_⟩
 ·rw[ha] at hy;exact hy.elim
 ·rw[av];exact⟨_,rfl⟩
theorem aJU (a b c:Int)(h:∃e,vY a b c=some (Sum.inr e)):Ok (Bg a b c) (λr:vu=>∃e,r=Sum.inr e):=by
 obtain⟨e,h⟩:=h
 have g:(Bg a b c:Option vu)=vY a b c:=rfl
 exact⟨Sum.inr e,g.trans h,e,rfl⟩
theorem aT8 (x:Nk.B):Ok (xj x) (λr:Wq=>match r with|.inl _=>True|.inr e=>1<=x.2.2.1∧x.2.2.1<=64∧1<=x.2.2.2.2.2.2.2.2.2.2.2.2.1∧x.2.2.2.2.2.2.2.2.2.2.2.2.1<=64∧e.2.2.2.2.1=x.2.2.1∧e.2.2.2.2.2.1=x.2.2.1∧e.2.2.2.2.2.2.1=x.2.2.1∧e.2.2.2.2.2.2.2.1=x.2.2.1∧e.2.2.2.2.2.2.2.2.1=x.2.2.1∧e.2.2.2.2.2.2.2.2.2.1=x.2.2.1∧e.2.2.2.2.2.2.2.2.2.2.2.1.1=x.2.2.2.2.2.2.2.2.2.2.2.2.1):=by
 unfold xj afs
 try dsimp only
 show PQ _ _
 refine aA (aOK x) λr _ hr=> ?_
 rw[aL]
 refine⟨λ_=>by rw[av];trivial,λc=> ?_⟩
 have cc:aSR x:=hr (by simpa using c)
 have n:=cc.nums
 have hT:∀j:Nat,j<6->1<=(bif Nat.beq j 5 then x.2.2.2.2.2.1.2.2.2.2.2 else bif Nat.beq j 4 then x.2.2.2.2.2.1.2.2.2.2.1 else bif Nat.beq j 3 then x.2.2.2.2.2.1.2.2.2.1 else bif Nat.beq j 2 then x.2.2.2.2.2.1.2.2.1 else bif Nat.beq j 1 then x.2.2.2.2.2.1.2.1 else bif Nat.beq j 0 then x.2.2.2.2.2.1.1 else x.2.2.2.2.2.1.1)∧(bif Nat.beq j 5 then x.2.2.2.2.2.1.2.2.2.2.2 else bif Nat.beq j 4 then x.2.2.2.2.2.1.2.2.2.2.1 else bif Nat.beq j 3 then x.2.2.2.2.2.1.2.2.2.1 else bif Nat.beq j 2 then x.2.2.2.2.2.1.2.2.1 else bif Nat.beq j 1 then x.2.2.2.2.2.1.2.1 else bif Nat.beq j 0 then x.2.2.2.2.2.1.1 else x.2.2.2.2.2.1.1)<=1099511627776:=by
  intro j hj
  have e:j=0∨j=1∨j=2∨j=3∨j=4∨j=5:=by omega
  rcases e with rfl|rfl|rfl|rfl|rfl|rfl
  ·exact⟨by show 1<=x.2.2.2.2.2.1.1;omega,by show x.2.2.2.2.2.1.1<=1099511627776;omega⟩
  ·exact⟨by show 1<=x.2.2.2.2.2.1.2.1;omega,by show x.2.2.2.2.2.1.2.1<=1099511627776;omega⟩
  ·exact⟨by show 1<=x.2.2.2.2.2.1.2.2.1;omega,by show x.2.2.2.2.2.1.2.2.1<=1099511627776;omega⟩
  ·exact⟨by show 1<=x.2.2.2.2.2.1.2.2.2.1;omega,by show x.2.2.2.2.2.1.2.2.2.1<=1099511627776;omega⟩
  ·exact⟨by show 1<=x.2.2.2.2.2.1.2.2.2.2.1;omega,by show x.2.2.2.2.2.1.2.2.2.2.1<=1099511627776;omega⟩
  ·exact⟨by show 1<=x.2.2.2.2.2.1.2.2.2.2.2;omega,by show x.2.2.2.2.2.1.2.2.2.2.2<=1099511627776;omega⟩
 rw[bx];intro _ _
 rw[bx];intro _ _
 rw[bx];intro _ _
 refine aA (aJU _ _ _ cc.place) λf _ hf=> ?_
 obtain⟨f,rfl⟩:=hf
 rw[rI]
 refine⟨λ_ h=>(nomatch h),λf hf=> ?_⟩
 rw[aJT _ (by omega) (by omega),bR,rI]
 refine⟨λ_ h=>(nomatch h),λg hg=> ?_⟩
 refine aA (aHs _ _ _ (by omega) (by omega) hT) λh _ hh=> ?_
 obtain⟨h,rfl⟩:=hh
 rw[rI]
 refine⟨λ_ h=>(nomatch h),λf hf=> ?_⟩
 rw[aHq _ _ (by omega) (by omega) (by omega) (by omega),bR,rI]
 refine⟨λ_ h=>(nomatch h),λp hp=> ?_⟩
 rw[aMr _ (by omega) (by omega)]
 rw[bR,rI]
 refine⟨λ_ h=>(nomatch h),λb0 Ot=> ?_⟩
 cases Ot
 rw[bR,rI]
 refine⟨λ_ h=>(nomatch h),λb1 hb1=> ?_⟩
 cases hb1
 rw[bR,rI]
 refine⟨λ_ h=>(nomatch h),λb2 CF=> ?_⟩
 cases CF
 rw[bR,rI]
 refine⟨λ_ h=>(nomatch h),λb3 hb3=> ?_⟩
 cases hb3
 rw[bR,rI]
 refine⟨λ_ h=>(nomatch h),λb4 hb4=> ?_⟩
 cases hb4
 rw[bR,rI]
 refine⟨λ_ h=>(nomatch h),λb5 hb5=> ?_⟩
 cases hb5
 cases hp
 rw[av]
 refine⟨by omega,by omega,by omega,by omega,rfl,rfl,rfl,rfl,rfl,rfl,rfl⟩
end Go.Proofs.YtldgljclcgaibaaGreat
