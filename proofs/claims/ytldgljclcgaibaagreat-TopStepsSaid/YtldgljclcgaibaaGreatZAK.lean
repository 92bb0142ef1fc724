/-
  Parts of the proof: TP TQ TR8 TS8 TPut Q5 TNh TNd TT TV TW TX TY TZ TNw
-/
import Derived.Test.YtldgljclcgaibaaGreatZAE
import Derived.Test.YtldgljclcgaibaaGreatZAJ
open Nat renaming beq→z9,ble→wr,blt→wl
open Int renaming toNat→z4,ofNat→ws,tdiv→ul
open Sum renaming inl→w7,inr→ww
set_option linter.unusedVariables false
set_option linter.unusedSimpArgs false
set_option maxRecDepth 100000
set_option maxHeartbeats 4000000
namespace Go.Proofs.YtldgljclcgaibaaGreat
open Go.Ab Go.Ab.Pg
theorem aC6 (x:fQ.B):Ok (dG x) (λr:qU=>r.e.2=x.1.d.c.b.2.2/\r.c.2.1=x.1.c.1/\r.d.c.b.1=x.1.d.c.2.1):=by
 unfold dG mY;try dsimp only
 show PQ _ _;rw[bI];intro d _;rw[aw];exact⟨rfl,rfl,rfl⟩
theorem a0j (x:oU.B)(h:x.2.1.d.c.b.2.2<=90000):Ok (mh x) (λr:xJ=>match r with|.inl e=>e.1.d.c.b.2.2<=x.2.1.d.c.b.2.2+1/\e.1.c.1=x.2.1.c.1/\e.1.d.c.2.1=x.2.1.d.c.2.1|.inr e=>e.1.1.d.c.b.2<=x.2.1.d.c.b.2.2+1/\e.1.1.c.1=x.2.1.c.1/\e.1.1.d.c.1=x.2.1.d.c.2.1):=by
 unfold mh Dn;try dsimp only
 show PQ _ _;simp only[aS];rw[bI];intro d _;rw[bI];intro d1 _;repeat rw[aD]
 with_reducible refine ax (aC6 _) λd2 _ h2=> ?_
 have h2:d2.e.2=x.2.1.d.c.b.2.2/\d2.c.2.1=x.2.1.c.1/\d2.d.c.b.1=x.2.1.d.c.2.1:=h2;rw[bI];intro d3 _;rw[aM];refine⟨λ_=> ?_,λ_=> ?_⟩
 .repeat rw[aD]
  rw[bI];intro d4 _;rw[aw];show d2.e.2<=x.2.1.d.c.b.2.2+1/\d2.c.2.1=x.2.1.c.1/\d2.d.c.b.1=x.2.1.d.c.2.1;omega
 .rw[bI];intro d4 _;repeat rw[aD]
  with_reducible refine ax (Sa _ ?_) λt _ ht=> ?_
  .show d2.e.2<=100000;omega
  have ht:t.1.d.c.b.2.2=d2.e.2+1/\t.1.c.1=d2.c.2.1/\t.1.d.c.2.1=d2.d.c.b.1:=ht;repeat (first|rw[aD]|(rw[bI];intro _ _))
  rw[aw];show t.1.d.c.b.2.2<=x.2.1.d.c.b.2.2+1/\t.1.c.1=x.2.1.c.1/\t.1.d.c.2.1=x.2.1.d.c.2.1;omega
theorem aGI (x:iF.B)(h:x.2.1.d.c.b.2.2<=90000):Ok (gf x) (λr:nZ=>match r with|.inl e=>e.1.1.d.c.2.2<=x.2.1.d.c.b.2.2+3/\e.1.1.c.1=x.2.1.c.1/\e.1.1.d.b.2.1=x.2.1.d.c.2.1|.inr e=>e.1.d.c.b.2.2<=x.2.1.d.c.b.2.2+3/\e.1.c.1=x.2.1.c.1/\e.1.d.c.2.1=x.2.1.d.c.2.1):=by
 have idx:∀(n m:Nat) (k:Int),n=m->0<=k->k<(m:Int)->aZ k n=true:=λn m k e h1 h2=>by subst e;simp only[bp];omega
 unfold gf sQ;try dsimp only
 show PQ _ _;simp only[aS];rw[bI];intro d _
 repeat' (first
  |rw[aD]
  |(with_reducible refine ax (a0h _ ?_) λj _ hj=> ?_)
  |(with_reducible refine ax (ae5 _ ?_) λe _ he=> ?_)
  |(with_reducible refine ax (Y0 _ ?_) λq _ hq=> ?_)
  |(rw[um];refine⟨λ_ _=> ?_,λ_ _=> ?_⟩)
  |(rw[bI];intro _ _)
  |(rw[aM];refine⟨λc=> ?_,λc=> ?_⟩))
 all_goals first
  |(rw[aw];exact hj)
  |(rw[aw];exact⟨dx (Nat.le_of_eq (hq.1.trans he.2.1)) (Nat.le_add_right _ _),hq.2.1.trans he.b.1,hq.2.2.trans he.b.2⟩)
  |(rw[aw];exact⟨dx (Nat.le_of_eq he.2.1) (Nat.le_add_right _ _),he.2.2⟩)
  |(show x.2.1.d.c.b.2.2<=90000;exact h)
  |(dsimp only;omega)
  |(have h1:=he.1;(try dsimp only at h1);(try dsimp only);omega)
  |(rw[aRO];rw[he.1] at c;have c':true=false:=c;cases c')
theorem aSf (x:Int):PG x=some (decide (0<=x)&&decide (x<6)):=by
 simp only[PG,ao5,bN,bP];by_cases h0:0<=x<;>simp[h0]
instance an3 (x:pB.B):bA (jO x):=by
 unfold jO zY;try dsimp only
 exact aK (by simp only[bU,ry])
theorem Ue (n:Nat):∀(d:dA.B) (hd:0<=d.1.2.2/\d.1.2.2<=d.1.2.1/\d.1.2.1<=1999/\d.1.2.1=((d.1.1.1:Nat):Int)/\d.2.1.2.2=n/\n<=1999),Ok (pJ d) (λx:lA=>x.2.1.2.2=n):=
 bT (λd:dA.B=>z4 (d.1.2.1-d.1.2.2)) (λd hd=>by
  have hw:wI (d.1.2.2+1)=d.1.2.2+1:=bf;obtain⟨i0,i1,i2,i3,i4,i5⟩:=hd;unfold vE;try dsimp only
  rw[aM];refine⟨λh=> ?_,λ_=>by rw[aw];exact i4⟩;have h:=dh h;rw[bQ,aS,aD];refine⟨by simp only[bp];omega,?_⟩;with_reducible refine ax (Ud _ ?_) λe _ he=> ?_
  .show d.2.1.2.2<=1999;omega
  have he:e.2.1=d.2.1.2.2:=he;have b1:(true&&z9 (e.2.1*11+0) (d.2.1.2.2*11)&&true)=true:=by rw[he,ky,aS];rfl
  have b2:(true&&wr (0+(e.2.1*11+0)) (d.2.1.2.2*11+0))=true:=by rw[he,pM,ch];omega
  simp only[b1,b2,aD,aw,na,hw];exact⟨⟨by omega,by omega,i2,i3,i4,i5⟩,by omega⟩) (λd hd=>by omega)
theorem aVp (x:jZ.B)(h:x.1.1<=1999)(k:x.2.1.2.2<=1999):Ok (j6 x) (λr:yw=>r.2.1=x.2.1.2.2):=by
 unfold j6 yy;show PQ _ _;rw[aS,aS,aD,aD];refine ax (Ue x.2.1.2.2 _ ?_) λd _ hd=> ?_
 .obtain⟨a,b,c,e⟩:=hdN x.1.1 h;exact⟨a,b,c,e,rfl,k⟩
 .rw[aw];exact hd
abbrev Bf:=(Int×Int×Int×Int×Int)×Int×Nat×Int
def BR (T:Int)(b c:Bf):Prop:=(∀U,T<=U->b.2.2.2<=U->c.2.2.2<=U)/\c.2.1=b.2.1/\c.2.2.1<=b.2.2.1/\c.1.1=b.1.1/\c.1.2.1=b.1.2.1/\c.1.2.2.1=b.1.2.2.1/\c.1.2.2.2.1=b.1.2.2.2.1/\
 (0<=b.1.2.2.2.2->b.1.2.2.2.2+b.2.2.1<=4611686018427387904->0<=c.1.2.2.2.2/\c.1.2.2.2.2+c.2.2.1=b.1.2.2.2.2+b.2.2.1)
def PR (b c:Bf):Prop:=c.2.1=b.2.1/\c.1.1=wI (b.1.1+1)/\c.1.2.2.2.1=b.1.2.2.2.1/\c.1.2.2.2.2=b.1.2.2.2.2/\c.2.2.2=b.2.2.2/\
 ((c.1.2.1=wI (b.1.2.1+1)/\c.1.2.2.1=b.1.2.2.1/\c.2.2.1=b.2.2.1)∨(c.1.2.1=b.1.2.1/\c.1.2.2.1=b.1.2.2.1/\c.2.2.1=b.2.2.1+1/\((c.2.2.1:Nat):Int)<=b.2.1)∨
  (c.1.2.1=b.1.2.1/\c.1.2.2.1=wI (b.1.2.2.1+1)/\c.2.2.1=b.2.2.1))
def SR (b c:Bf):Prop:=c.2=b.2/\c.1=(wI (b.1.1+1),b.1.2.1,b.1.2.2.1,wI (b.1.2.2.2.1+1),b.1.2.2.2.2)
theorem BR.refl (T:Int)(b:Bf):BR T b b:=⟨λ_ _ h=>h,rfl,cP _,rfl,rfl,rfl,rfl,λh _=>⟨h,rfl⟩⟩
theorem BR.len {T:Int}{b c:Bf}(h:BR T b c):c.2.2.1<=b.2.2.1:=h.2.2.1
theorem BR.mono {T U:Int}{a b:Bf}(t:T<=U)(h:BR T a b):BR U a b:=⟨λV p q=>h.1 V (LK t p) q,h.2⟩
theorem BR.trans {T:Int}{a b c:Bf}(h:BR T a b)(k:BR T b c):BR T a c:=by
 obtain⟨h0,h1,h2,h3,h4,h5,h6,h7⟩:=h;obtain⟨k0,k1,k2,k3,k4,k5,k6,k7⟩:=k;refine⟨λU p q=>k0 U p (h0 U p q),k1.trans h1,dx k2 h2,k3.trans h3,k4.trans h4,k5.trans h5,k6.trans h6,λp q=> ?_⟩;obtain⟨r,s⟩:=h7 p q;obtain⟨u,v⟩:=k7 r (by omega);exact⟨u,v.trans s⟩
theorem aVq (x:xA.B)(h:x.2.1.b.1<=1000):Ok (xB x) (λr:Dc=>match r with
  |.inl e=>PR x.2.1 e
  |.inr e=>PR x.2.1 e.2.1):=by
 unfold xB KC;try dsimp only
 show PQ _ _;rw[aM];refine⟨λ_=>by rw[aw];exact⟨rfl,rfl,rfl,rfl,rfl,.inl ⟨rfl,rfl,rfl⟩⟩,λ_=> ?_⟩;rw[aS,bQ];refine⟨rfl,ax (aSc (((x.2.1.b.1,true),x.1),x.2.2) (by show x.2.1.b.1<=1999;omega)) λd _ hd=> ?_⟩;rw[bQ];refine⟨rfl,ax (aOW x.2.1.b.1 d.1 hd.1 hd.2 (by omega) _ _ _ _ _ _ _ _ _ _ _ _ _ _ _ _ _ _ _) λd2 _ h2=> ?_⟩;rw[aM];refine⟨λc=> ?_,λ_=> ?_⟩
 .rw[aw];have c:=dh c;exact⟨rfl,rfl,rfl,rfl,rfl,.inr (.inl ⟨rfl,rfl,h2,c⟩)⟩
 rw[bQ,aS,bQ];refine⟨by simp only[bp,h2];omega,rfl,ax (aBF d2.1 0 1 (by omega) (by omega) (by rw[h2];omega) _ _ _ _ _ _ _ _ _) λd3 _ h3=> ?_⟩;rw[aw];have e:d3.1=x.2.1.b.1:=by rw[h3,h2];simp
 exact⟨rfl,rfl,rfl,rfl,rfl,.inr (.inr ⟨rfl,rfl,e⟩)⟩
theorem aL4 (x:nH.B):Ok (ln x) (λr:EJ=>SR x.1 r):=by
 unfold ln xU;show PQ _ _;rw[aw];exact⟨rfl,rfl⟩
theorem aL5 (n:Nat)(p q z:Int)(w:Int×Int×Int×Int×Int):∀(d:iW.B) (hd:0<=d.1.2/\d.1.2<=(n:Int)/\d.2.1.2.2.1=n/\n<=1999/\d.2.1.2.1=z/\d.2.1.1=w/\d.1.1=p/\d.2.1.2.2.2=q),Ok (Gq d) (λx:tD=>match x with
   |.inl e=>0<=e.1.2.1/\e.1.2.1<=(n:Int)/\e.1.2.2.1=n/\e.2.1.2.1=z/\e.2.1.1=w/\e.1.1=p/\e.2.1.2.2=q
   |.inr e=>0<=e.1.2.1/\e.1.2.1<=(n:Int)/\e.1.2.2.1=n/\e.2.1.2.1=z/\e.2.1.1=w/\e.1.1=p/\e.2.1.2.2=q):=
 bT (λd:iW.B=>z4 (n-d.1.2)) (λd hd=>by
  have hw:wI (d.1.2+1)=d.1.2+1:=bf;obtain⟨i0,i1,i2,i3,i4,i5,i6⟩:=hd;unfold Gp;try dsimp only
  rw[aM];refine⟨λh=> ?_,λ_=>by rw[aw];exact⟨i0,i1,i2,i4,i5,i6⟩⟩;have h:=dh h;rw[dQ] at h;rw[bQ,aM];refine⟨by simp only[bp];omega,λ_=> ?_,λ_=>by rw[aw];exact⟨i0,i1,i2,i4,i5,i6⟩⟩;rw[aw,na];simp only[hw];exact⟨⟨by omega,by omega,i2,i3,i4,i5,i6⟩,by omega⟩) (λd hd=>by omega)
theorem aVr (x:xC.B)(h:x.2.1.2.2.1<=1000):Ok (xD x) (λr:Dd=>r.1<=x.2.1.2.2.1/\BR x.1 x.2.1 r.2.1):=by
 unfold xD KE;try dsimp only
 show PQ _ _;rw[aS,bQ];refine⟨rfl,ax (aL5 x.2.1.2.2.1 x.1 x.2.1.2.2.2 x.2.1.2.1 x.2.1.1 _ ⟨by dsimp only;omega,by dsimp only;omega,rfl,by omega,rfl,rfl,rfl,rfl⟩) λy _ hy=> ?_⟩;rw[og];constructor
 all_goals
  rintro d rfl
  obtain⟨i0,i1,i2,i4,i5,i6,i7⟩:=hy;rw[bQ];refine⟨by simp only[ad4];omega,?_⟩;rw[aS,bQ];refine⟨rfl,ax (aSd (z4 d.1.2.1) (by omega) _ _ _ _ _ _ _ _ _ _) λd1 _ h1=> ?_⟩;rw[aS,bQ];refine⟨rfl,ax (aBF d.1.2.2.1 0 d.1.2.1 (by omega) i0 (by rw[i2];exact i1) _ _ _ _ _ _ _ _ _) λd2 _ h2=> ?_⟩;rw[aw];have h2:d2.1=x.2.1.2.2.1-z4 d.1.2.1:=by rw[h2,i2];simp only[Int.toNat_zero];omega
  refine⟨?_,λU p q=> ?_,i4,?_,eC (λz=>z.1) i5,eC (λz=>z.2.1) i5,eC (λz=>z.2.2.1) i5,eC (λz=>z.2.2.2.1) i5,λp q=> ?_⟩
  .show d1.1<=_;rw[h1];omega
  .show(if d.1.1>d.2.1.2.2 then d.1.1 else d.2.1.2.2)<=U;rw[i6,i7];split<;>assumption
  .show d2.1<=_;rw[h2];omega
  .have e:d.2.1.1.2.2.2.2=x.2.1.1.2.2.2.2:=eC (λz=>z.2.2.2.2) i5;have hw:wI (d.2.1.1.2.2.2.2+d.1.2.1)=x.2.1.1.2.2.2.2+d.1.2.1:=by rw[e];exact eS (by omega) (by omega)
   show 0<=wI (d.2.1.1.2.2.2.2+d.1.2.1)/\wI (d.2.1.1.2.2.2.2+d.1.2.1)+((d2.1:Nat):Int)=_;rw[hw,h2];omega
end Go.Proofs.YtldgljclcgaibaaGreat
noncomputable section
namespace Go.Proofs.YtldgljclcgaibaaGreat
open Go.Ab Go.Ab.Pg Go.Ab.Rq
def aJw:=qa (pr (cu aQ (c lk abD)) bL)
def at4:=qe (res (pr (aa aDY) (pl m4 nil)))
abbrev aJx:=at4.B
abbrev aJy:=NI->Int->Int->Int->Int->Int->Int->Int->Int->Bool->Option aJx
def aJz (g:aJy):Ct:=(164,FC aJw (lf at4) (λb=>g b.1.1 b.1.2.1 b.1.b.1 b.1.b.2.1.1 b.1.b.2.1.2.1 b.1.b.2.1.b b.1.c.1 b.1.c.2.1 b.1.c.b b.2))
def vL:=qs (st (pr (cu aQ (us 5 (cu Q9 (cu azB (cu aS8 (cu aIB (us 1 (cu aS9 (cu aTa (c ai (c ai (us 98 (c ai (us 12 (c afH (cl ai (us 64 nil))))))))))))))))) (pl (c bD (c m5 (c (so afO) (c yc (c m5 (c (so aEd) akK)))))) bK)))
def aBG:=qs (st (pr (cu aQ (us 5 (cu Q9 (cu azB (cu aS8 (cu aIB (us 1 (cu aS9 (cu aTa (c ai (c ai (us 98 (c ai (us 12 (c afH (c ai (cl ab (us 63 nil)))))))))))))))))) (pl (c bD (c m5 (c (so afO) (c yc (c m5 (c (so aEd) akK)))))) bK)))
abbrev Sb:=aBG.B
def aBH {ρ:Type}:=@ef Sb ((.ex 2)) aBG ρ
def an4 (aB:bR)(d:vL.B):PL vL Sb:=let n6:=d.1.1;let n4:=d.1.2;let n3:=d.2.2.2;let n5:=n3.2.2;let n2:=n4.2.2;let n1:=(n6,n4.1,n4.2.1,n2.1,wI (n2.2+1));let y0:=wI (0+n4.1);let y1:=wI (10+n2.2);let y2:=decide (n2.2<3);let y3:=z4 y0*24+z4 y1;ae y2 (ae (aZ n2.2 3) (ae (n2.2==2) (opt (aB n6 n2.1.2.2 30 d.2.1) λak=>ae (aZ y0 24) (ae (aZ y1 24) (ae (true&&wr (0+y3*1+1) 576) (ret (w7 (n1,ak.2,d.2.2.1,n3.1,n3.2.1,λj=>bif z9 j y3 then wI (0-ak.1) else n5.1 j,n5.2))) no) no) no) (ae (n2.2==1) (opt (aB n6 n2.1.2.1 30 d.2.1) λak=>ae (aZ y0 24) (ae (aZ y1 24) (ae (true&&wr (0+y3*1+1) 576) (ret (w7 (n1,ak.2,d.2.2.1,n3.1,n3.2.1,λj=>bif z9 j y3 then wI (0-ak.1) else n5.1 j,n5.2))) no) no) no) (opt (aB n6 n2.1.1 30 d.2.1) λak=>ae (aZ y0 24) (ae (aZ y1 24) (ae (true&&wr (0+y3*1+1) 576) (ret (w7 (n1,ak.2,d.2.2.1,n3.1,n3.2.1,λj=>bif z9 j y3 then wI (0-ak.1) else n5.1 j,n5.2))) no) no) no))) no) (ret (ww ((n6,n4.1,n4.2.1,n2.1,n2.2,y2),d.2)))
def aba:=bG (an4 aU) 2000
def vM:=qs (st (pr (cu aQ (us 5 (cu Q9 (cu azB (us 1 (cu aTb (us 7 (cu aTc (c ai (us 130 (c ai (us 10 aW8)))))))))))) (pl (c bD (c m5 (c (so afO) (c m5 akK)))) bK)))
def aBI:=qs (st (pr (cu aQ (us 5 (cu Q9 (cu azB (us 1 (cu aTb (us 7 (cu aTc (c ai (us 130 (c ai (us 10 aXc)))))))))))) (pl (c bD (c m5 (c (so afO) (c m5 akK)))) bK)))
abbrev Sc:=aBI.B
def aBJ {ρ:Type}:=@ef Sc ((.ex 6)) aBI ρ
def an5 (aB:bR)(d:vM.B):PL vM Sc:=let n2:=d.2.2.2;let n1:=d.1.2;let y0:=wI (4+d.1.1);let y1:=wI (13+n1.2);let y2:=decide (n1.2<3);let y3:=wI (wI (3*d.1.1)+n1.2);let y4:=z4 y0*24+z4 y1;ae y2 (ae (aZ y3 9) (opt (aB (n2.1.2.2.2.2.2.2.2.2.2.2.2 (z4 y3)) n2.1.1 30 d.2.1) λak=>ae (aZ y0 24) (ae (aZ y1 24) (ae (true&&wr (0+y4*1+1) 576) (ret (w7 ((d.1.1,n1.1,wI (n1.2+1)),ak.2,d.2.2.1,n2.1,λj=>bif z9 j y4 then wI (0-ak.1) else n2.2.1 j,n2.2.2))) no) no) no) no) (ret (ww ((d.1.1,n1.1,n1.2,y2),d.2)))
def abb:=bG (an5 aU) 2000
def vN:=qs (st (pr (cu aQ (us 5 (cu Q9 (cu azB (cu aS8 (cu aIB (us 1 (cu aS9 (cu aTa (c ai (us 99 (cl ai (us 78 nil))))))))))))) (pl (c bD (c m5 (c (so afO) (c yc (c m5 (c (so aEd) akK)))))) bK)))
def aBK:=qs (st (pr (cu aQ (us 5 (cu Q9 (cu azB (cu aS8 (cu aIB (us 1 (cu aS9 (cu aTa (c ai (us 99 (c ai (cl ab (us 77 nil)))))))))))))) (pl (c bD (c m5 (c (so afO) (c yc (c m5 (c (so aEd) akK)))))) bK)))
abbrev Sd:=aBK.B
def aBL {ρ:Type}:=@ef Sd ((.ex 0)) aBK ρ
def an6 (p6:LT vL Sb)(d:vN.B):PL vN Sd:=let cm:=d.2.1;let bM:=d.1.1;let bk:=d.2.2.1;let n7:=d.1.2;let n6:=d.2.2.2;let n15:=n6.2.1;let bo:=n6.2.2.1;let n4:=n6.2.2.2;let n21:=n4.2.2.2;let n17:=n4.1.2;let bH:=n21.2.2.2;let n20:=bH.2.2.2;let n9:=n17.2.2;let n18:=n9.2.2;let n5:=n18.2.2;let n19:=n5.2.2;let n8:=n19.2.2;let n16:=n8.2.2;let n3:=(n4.2.1,n4.2.2.1,n21.1);let n2:=(n21.2.1,n21.2.2.1,bH.1);let n1:=(bH.2.1,bH.2.2.1,n20.1);let y0:=aZ n7 4;let y1:=n7==2;let y2:=n7==1;let y3:=n7==3;let y4:=wI (0+n7);let y5:=0+z4 y4*24;let y6:=y5+1;let y7:=true&&wr (y5+4) 576;let y8:=y6+1;let y9:=decide (n7<4);ae y9 (ae (aZ y4 24) (ae y0 (ae y3 (ae y7 (ae y0 (ae y3 (opt (p6 ((bM,n7,n7,n20.2,0),cm,bk,n6.1,n15,λj=>bif z9 j (y8+1) then n16.2.2 else bif z9 j y8 then n16.2.1 else bif z9 j y6 then n16.1 else bif z9 j y5 then n8.2.1 else bo j,n4)) λd=>ret (w7 ((d.1.1,wI (d.1.2.2.1+1)),d.2))) (ae y1 (opt (p6 ((bM,n7,n7,n1,0),cm,bk,n6.1,n15,λj=>bif z9 j (y8+1) then n16.2.2 else bif z9 j y8 then n16.2.1 else bif z9 j y6 then n16.1 else bif z9 j y5 then n8.2.1 else bo j,n4)) λd=>ret (w7 ((d.1.1,wI (d.1.2.2.1+1)),d.2))) (ae y2 (opt (p6 ((bM,n7,n7,n2,0),cm,bk,n6.1,n15,λj=>bif z9 j (y8+1) then n16.2.2 else bif z9 j y8 then n16.2.1 else bif z9 j y6 then n16.1 else bif z9 j y5 then n8.2.1 else bo j,n4)) λd=>ret (w7 ((d.1.1,wI (d.1.2.2.1+1)),d.2))) (opt (p6 ((bM,n7,n7,n3,0),cm,bk,n6.1,n15,λj=>bif z9 j (y8+1) then n16.2.2 else bif z9 j y8 then n16.2.1 else bif z9 j y6 then n16.1 else bif z9 j y5 then n8.2.1 else bo j,n4)) λd=>ret (w7 ((d.1.1,wI (d.1.2.2.1+1)),d.2)))))) no) no) (ae y1 (ae y7 (ae y0 (ae y3 (opt (p6 ((bM,n7,n7,n20.2,0),cm,bk,n6.1,n15,λj=>bif z9 j (y8+1) then n8.1 else bif z9 j y8 then n19.2.1 else bif z9 j y6 then n19.1 else bif z9 j y5 then n5.2.1 else bo j,n4)) λd=>ret (w7 ((d.1.1,wI (d.1.2.2.1+1)),d.2))) (ae y1 (opt (p6 ((bM,n7,n7,n1,0),cm,bk,n6.1,n15,λj=>bif z9 j (y8+1) then n8.1 else bif z9 j y8 then n19.2.1 else bif z9 j y6 then n19.1 else bif z9 j y5 then n5.2.1 else bo j,n4)) λd=>ret (w7 ((d.1.1,wI (d.1.2.2.1+1)),d.2))) (ae y2 (opt (p6 ((bM,n7,n7,n2,0),cm,bk,n6.1,n15,λj=>bif z9 j (y8+1) then n8.1 else bif z9 j y8 then n19.2.1 else bif z9 j y6 then n19.1 else bif z9 j y5 then n5.2.1 else bo j,n4)) λd=>ret (w7 ((d.1.1,wI (d.1.2.2.1+1)),d.2))) (opt (p6 ((bM,n7,n7,n3,0),cm,bk,n6.1,n15,λj=>bif z9 j (y8+1) then n8.1 else bif z9 j y8 then n19.2.1 else bif z9 j y6 then n19.1 else bif z9 j y5 then n5.2.1 else bo j,n4)) λd=>ret (w7 ((d.1.1,wI (d.1.2.2.1+1)),d.2)))))) no) no) (ae y2 (ae y7 (ae y0 (ae y3 (opt (p6 ((bM,n7,n7,n20.2,0),cm,bk,n6.1,n15,λj=>bif z9 j (y8+1) then n5.1 else bif z9 j y8 then n18.2.1 else bif z9 j y6 then n18.1 else bif z9 j y5 then n9.2.1 else bo j,n4)) λd=>ret (w7 ((d.1.1,wI (d.1.2.2.1+1)),d.2))) (ae y1 (opt (p6 ((bM,n7,n7,n1,0),cm,bk,n6.1,n15,λj=>bif z9 j (y8+1) then n5.1 else bif z9 j y8 then n18.2.1 else bif z9 j y6 then n18.1 else bif z9 j y5 then n9.2.1 else bo j,n4)) λd=>ret (w7 ((d.1.1,wI (d.1.2.2.1+1)),d.2))) (ae y2 (opt (p6 ((bM,n7,n7,n2,0),cm,bk,n6.1,n15,λj=>bif z9 j (y8+1) then n5.1 else bif z9 j y8 then n18.2.1 else bif z9 j y6 then n18.1 else bif z9 j y5 then n9.2.1 else bo j,n4)) λd=>ret (w7 ((d.1.1,wI (d.1.2.2.1+1)),d.2))) (opt (p6 ((bM,n7,n7,n3,0),cm,bk,n6.1,n15,λj=>bif z9 j (y8+1) then n5.1 else bif z9 j y8 then n18.2.1 else bif z9 j y6 then n18.1 else bif z9 j y5 then n9.2.1 else bo j,n4)) λd=>ret (w7 ((d.1.1,wI (d.1.2.2.1+1)),d.2)))))) no) no) (ae y7 (ae y0 (ae y3 (opt (p6 ((bM,n7,n7,n20.2,0),cm,bk,n6.1,n15,λj=>bif z9 j (y8+1) then n9.1 else bif z9 j y8 then n17.2.1 else bif z9 j y6 then n17.1 else bif z9 j y5 then n4.1.1 else bo j,n4)) λd=>ret (w7 ((d.1.1,wI (d.1.2.2.1+1)),d.2))) (ae y1 (opt (p6 ((bM,n7,n7,n1,0),cm,bk,n6.1,n15,λj=>bif z9 j (y8+1) then n9.1 else bif z9 j y8 then n17.2.1 else bif z9 j y6 then n17.1 else bif z9 j y5 then n4.1.1 else bo j,n4)) λd=>ret (w7 ((d.1.1,wI (d.1.2.2.1+1)),d.2))) (ae y2 (opt (p6 ((bM,n7,n7,n2,0),cm,bk,n6.1,n15,λj=>bif z9 j (y8+1) then n9.1 else bif z9 j y8 then n17.2.1 else bif z9 j y6 then n17.1 else bif z9 j y5 then n4.1.1 else bo j,n4)) λd=>ret (w7 ((d.1.1,wI (d.1.2.2.1+1)),d.2))) (opt (p6 ((bM,n7,n7,n3,0),cm,bk,n6.1,n15,λj=>bif z9 j (y8+1) then n9.1 else bif z9 j y8 then n17.2.1 else bif z9 j y6 then n17.1 else bif z9 j y5 then n4.1.1 else bo j,n4)) λd=>ret (w7 ((d.1.1,wI (d.1.2.2.1+1)),d.2)))))) no) no)))) no) no) (ret (ww ((bM,n7,y9),d.2)))
def abc:=bG (an6 aba) 2000
def vO:=qs (st (pr (cu aQ (us 5 (cu Q9 (cu azB (us 1 (cu aTb (us 7 (cu aTc (us 131 (cl ai (us 42 nil))))))))))) (pl (c bD (c m5 (c (so afO) (c m5 akK)))) bK)))
def aBM:=qs (st (pr (cu aQ (us 5 (cu Q9 (cu azB (us 1 (cu aTb (us 7 (cu aTc (us 131 (c ai (cl ab (us 41 nil)))))))))))) (pl (c bD (c m5 (c (so afO) (c m5 akK)))) bK)))
abbrev Se:=aBM.B
def aBN {ρ:Type}:=@ef Se ((.ex 4)) aBM ρ
def an7 (l_3:LT vM Sc)(d:vO.B):PL vO Se:=let n3:=d.2.2;let n1:=n3.2.2.2;let n2:=n1.2.2.2.2.2;let n4:=n2.2.2.2;let y0:=wI (4+d.1);let y1:=0+z4 y0*24;let y2:=y1+1;let y3:=true&&wr (y1+4) 576;let y4:=y2+1;let y5:=decide (d.1<3);ae y5 (ae (aZ y0 24) (ae (aZ d.1 3) (ae (d.1==2) (ae y3 (opt (l_3 ((d.1,d.1,0),d.2.1,n3.1,n3.2.1,λj=>bif z9 j (y4+1) then n4.2.2.2 else bif z9 j y4 then n4.2.2.1 else bif z9 j y2 then n4.2.1 else bif z9 j y1 then n4.1 else n3.2.2.1 j,n1)) λd=>let n5:=d.2.2.2;let y0:=wI (7+d.1.1);let y1:=wI (4+d.1.1);let y2:=z4 y0*24+z4 y1;ae (aZ y0 24) (ae (aZ y1 24) (ae (true&&wr (0+y2*1+1) 576) (ret (w7 (wI (d.1.2.1+1),d.2.1,d.2.2.1,n5.1,λj=>bif z9 j y2 then n5.1.1 else n5.2.1 j,n5.2.2))) no) no) no) no) (ae (d.1==1) (ae y3 (opt (l_3 ((d.1,d.1,0),d.2.1,n3.1,n3.2.1,λj=>bif z9 j (y4+1) then n2.2.2.1 else bif z9 j y4 then n2.2.1 else bif z9 j y2 then n2.1 else bif z9 j y1 then n1.2.2.2.2.1 else n3.2.2.1 j,n1)) λd=>let n6:=d.2.2.2;let y0:=wI (7+d.1.1);let y1:=wI (4+d.1.1);let y2:=z4 y0*24+z4 y1;ae (aZ y0 24) (ae (aZ y1 24) (ae (true&&wr (0+y2*1+1) 576) (ret (w7 (wI (d.1.2.1+1),d.2.1,d.2.2.1,n6.1,λj=>bif z9 j y2 then n6.1.1 else n6.2.1 j,n6.2.2))) no) no) no) no) (ae y3 (opt (l_3 ((d.1,d.1,0),d.2.1,n3.1,n3.2.1,λj=>bif z9 j (y4+1) then n1.2.2.2.1 else bif z9 j y4 then n1.2.2.1 else bif z9 j y2 then n1.2.1 else bif z9 j y1 then n1.1 else n3.2.2.1 j,n1)) λd=>let n7:=d.2.2.2;let y0:=wI (4+d.1.1);let y1:=wI (7+d.1.1);let y2:=z4 y1*24+z4 y0;ae (aZ y1 24) (ae (aZ y0 24) (ae (true&&wr (0+y2*1+1) 576) (ret (w7 (wI (d.1.2.1+1),d.2.1,d.2.2.1,n7.1,λj=>bif z9 j y2 then n7.1.1 else n7.2.1 j,n7.2.2))) no) no) no) no))) no) no) (ret (ww ((d.1,y5),d.2)))
def abd:=bG (an7 abb) 2000
def ay4 (BB:MJ)(aR:fM)(bg:dP)(TC:DS)(aB:bR)(ac8:IT)(dX:LT vN Sd)(MC:LT vO Se)(x0:Nat->Int)(x1:Int)(x2:Int)(x3:Int)(x4:Int)(x5:Int)(x6:Int)(x7:Int)(x8:Int)(x9:Bool):Pg aJx:=opt (BB x0 x1 x2 x3 x4 x5 x6 x7 x8 x9) λd=>let n1:=d.1.2.2.2.2.2.2.2;let n3:=n1.2.2;let y0:=wI (0-n1.2.1);let y1:=wI (0-n3.1);let y2:=wI (0-n3.2.1);opt (aR x0 d.2) λak=>opt (bg ak.1) λaJ=>let uM:=wI (0-aJ.2.1);let aAk:=wI (0-aJ.2.2.2);let a36:=wI (0-aJ.2.2.1);opt TC λbB=>opt (aB d.1.1 536870912 30 ak.2) λcK=>opt (dX ((cK.1,0),cK.2,λx=>0,d.1,aJ,bB,(n1.1,y0,y1,y2,n1.2.1,n1.1,n3.2.1,y1,n3.1,y2,n1.1,n1.2.1,n3.2.1,n3.1,y0,n1.1),uM,a36,aAk,aJ.1,aAk,aJ.2.2.1,aJ.2.2.2,aJ.1,uM,a36,aJ.2.1,aJ.1)) λd=>let n2:=d.2.2.2;let n4:=n2.1.2.2.2.2;opt (ac8 n2.2.1.1 n2.2.1.2.1 n2.2.1.2.2.1 n2.2.1.2.2.2 n4.1 n4.2.1 n4.2.2.1 d.2.1) λeU=>opt (MC (0,eU.2,d.2.2.1,n2.1,n2.2.2.1,eU.1)) λd=>ret (d.2.2.2.2.1,d.2.1)
def V5:=λx0 x1 x2 x3 x4 x5 x6 x7 x8 x9=>(ay4 ti bW cj oi aU we abc abd x0 x1 x2 x3 x4 x5 x6 x7 x8 x9).val
abbrev PK:=MJ×fM×dP×DS×bR×IT×(LT vL Sb)×(LT vM Sc)×(LT vN Sd)×(LT vO Se)
def V6 (p:PK):KK:=⟨[XB p.1,jG p.2.1,jb p.b.1,Tn p.b.2.1,fg p.c.1,acZ p.c.2.1],⟨[⟨9,(rg 1 5 (10::rg 14 99 (rg 114 78 []))),[]⟩,⟨13,(rg 1 5 (10::rg 15 98 (rg 114 12 (rg 128 64 [])))),[]⟩,⟨20,(rg 1 5 (8::rg 10 7 (rg 18 131 (rg 150 42 [])))),[]⟩,⟨24,(rg 1 5 (8::rg 10 7 (rg 19 130 (rg 150 10 (rg 161 31 []))))),[]⟩],[fU 13 1 vL aBH p.c.b.1,fU 24 1 vM aBJ p.c.b.2.1,fU 9 1 vN aBL p.d.1,fU 20 1 vO aBN p.d.2],[],[],(some ⟨0,(rg 0 6 (rg 7 185 [])),[]⟩)⟩,1,164⟩
theorem aL6 (p:PK):LI (V6 p) 13 vL aBH (an4 p.c.1):=λ_ d c K=>by kernel_rfl
theorem aL7 (p:PK):LI (V6 p) 24 vM aBJ (an5 p.c.1):=λ_ d c K=>by kernel_rfl
theorem aL8 (p:PK):LI (V6 p) 9 vN aBL (an6 p.c.b.1):=λ_ d c K=>by kernel_rfl
theorem aL9 (p:PK):LI (V6 p) 20 vO aBN (an7 p.c.b.2.1):=λ_ d c K=>by kernel_rfl
theorem aVs (p:PK):D2 (V6 p) aJw (lf at4) λb=>ay4 p.1 p.2.1 p.b.1 p.b.2.1 p.c.1 p.c.2.1 p.d.1 p.d.2 b.1.1 b.1.2.1 b.1.b.1 b.1.b.2.1.1 b.1.b.2.1.2.1 b.1.b.2.1.b b.1.c.1 b.1.c.2.1 b.1.c.b b.2:=λb=>by kernel_rfl
abbrev V7:PK:=(ti,bW,cj,oi,aU,we,aba,abb,abc,abd)
theorem aVt [aA]:SC (aJz V5):=sc (kS (k:=V6 V7) (.c amA (.c kO (.c kd (.c aiT (.c fK (.c ars (.nil _))))))) [9,13,20,24] [] ⟨kL (aL8 V7),⟨kL (aL6 V7),⟨kL (aL9 V7),⟨kL (aL7 V7),trivial⟩⟩⟩⟩ trivial (aVs V7))
def aBO:=qa (pr (cu aQ (c Cz (c lk (c (aa aD8) akG)))) bL)
def ah4:=qe aQR
abbrev aBP:=ah4.B
abbrev an8:=NI->NI->NI->Int->Int->Int->Int->Int->Int->Int->Int->NI->Bool->Option aBP
def aBQ (g:an8):Ct:=(107,FC aBO (lf ah4) (λb=>g b.1.1.1 b.1.1.2 b.1.2.1 b.1.b.1.1 b.1.b.1.2.1 b.1.b.1.b.1.1 b.1.b.1.b.1.2.1 b.1.b.1.b.1.b b.1.b.1.b.2.1 b.1.b.1.c.1 b.1.b.1.c.2 b.1.b.2 b.2))
def abe (ao6:aJy)(VY:avV)(wG:G')(x0:Nat->Int)(x1:Nat->Int)(x2:Nat->Int)(x3:Int)(x4:Int)(x5:Int)(x6:Int)(x7:Int)(x8:Int)(x9:Int)(gw:Int)(gx:Nat->Int)(EC:Bool):Pg aBP:=opt (ao6 x2 x3 x4 x5 x6 x7 x8 x9 gw EC) λd=>opt (VY gx x4 d.2) λak=>opt (wG x0 x1 d.1 ak.1 ak.2) λd=>ret d
def zZ:=λx0 x1 x2 x3 x4 x5 x6 x7 x8 x9 gw gx EC=>(abe V5 Hb gm x0 x1 x2 x3 x4 x5 x6 x7 x8 x9 gw gx EC).val
theorem aOZ:∀ao6 VY wG,D0 [aJz ao6,avW VY,O4 wG] 107 aBO (lf ah4) λb=>abe ao6 VY wG b.1.1.1 b.1.1.2 b.1.2.1 b.1.b.1.1 b.1.b.1.2.1 b.1.b.1.b.1.1 b.1.b.1.b.1.2.1 b.1.b.1.b.1.b b.1.b.1.b.2.1 b.1.b.1.c.1 b.1.b.1.c.2 b.1.b.2 b.2:=λ_ _ _ b=>by kernel_rfl
theorem aO0 [aA]:SC (aBQ zZ):=s0 (.c aVt (.c aLw (.c aer (.nil _)))) (aOZ V5 Hb gm)
def Y1:=qa (pr (cu aQ FA) bL)
def Nv:=qe aQK
def Dv:=qe axp
abbrev Dw:=Nv.B⊕Dv.B
def UO:Dw->T:=ls (lf Nv) (lf Dv)
def Y2:Dw->T:=ls (λ_=>.fail) (lf Dv)
abbrev Y3:=Int->Int->Int->Bool->Option Dw
def Y4 (g:Y3):Ct:=(119,FC Y1 Y2 (λb=>g b.1.1 b.1.2.1 b.1.b b.2))
def KN (x0:Int)(x1:Int)(x2:Int)(x3:Bool):Pg Dw:=ae (decide (x1>x2)) (ret (w7 x1)) (ae (decide (x0<x1)) (ret (w7 x1)) (ae (decide (x0>x2)) (ret (w7 x2)) (ret (ww x0))))
def xL:=λx0 x1 x2 x3=>(KN x0 x1 x2 x3).val
theorem at5:D0 [] 119 Y1 UO λb=>KN b.1.1 b.1.2.1 b.1.b b.2:=λb=>by kernel_rfl
theorem at6 [aA]:SC (Y4 xL):=sc (FK (R:=UO) (R':=Y2) (λd r h=>by rcases d with d|d<;>first|exact h|(have h:(none:Option pP)=some r:=h;cases h))<|k0 (.nil _) at5)
def ae6:=qa (pr (cu aQ jo) bL)
def Nw:=qe axp
abbrev ae7:=Nw.B
abbrev PM:=Int->Bool->Option ae7
def PN (g:PM):Ct:=(126,FC ae6 (lf Nw) (λb=>g b.1 b.2))
def PO (Dx:Y3)(x0:Int)(x1:Bool):Pg ae7:=opt (Dx x0 (-1152921504606846976) 1152921504606846976 x1) λd=>sm d (λd=>no) (λd=>ret d)
def rX:=λx0 x1=>(PO xL x0 x1).val
theorem ay5:∀Dx,D0 [Y4 Dx] 126 ae6 (lf Nw) λb=>PO Dx b.1 b.2:=λ_ b=>by kernel_rfl
theorem ae8 [aA]:SC (PN rX):=s0 (.c at6 (.nil _)) (ay5 xL)
def ae9:=qa (pr (cu aQ (c ai (c ab aM1))) bL)
def Sf:=qe aQK
def GB:=qe axp
abbrev Hn:=Sf.B⊕GB.B
def abf:Hn->T:=ls (lf Sf) (lf GB)
def afa:Hn->T:=ls (λ_=>.fail) (lf GB)
abbrev afb:=Int->Bool->Bool->Bool->Option Hn
def afc (g:afb):Ct:=(198,FC ae9 afa (λb=>g b.1.1 b.1.2.1 b.1.b b.2))
def PS (ka:Wy)(jz:PM)(x0:Int)(x1:Bool)(x2:Bool)(x3:Bool):Pg Hn:=ae (!x1) (opt (ka x2) λd=>ret (w7 d)) (opt (jz x0 x3) λd=>ret (ww d))
def BY:=λx0 x1 x2 x3=>(PS oH rX x0 x1 x2 x3).val
theorem ay6:∀ka jz,D0 [Wz ka,PN jz] 198 ae9 abf λb=>PS ka jz b.1.1 b.1.2.1 b.1.b b.2:=λ_ _ b=>by kernel_rfl
theorem ay7 [aA]:SC (afc BY):=sc (FK (R:=abf) (R':=afa) (λd r h=>by rcases d with d|d<;>first|exact h|(have h:(none:Option pP)=some r:=h;cases h))<|k0 (.c agw (.c ae8 (.nil _))) (ay6 oH rX))
def ajP:=qa (pr (cu aQ (c afG jo)) bL)
def UP:=qe aQK
def Il:=qe axp
abbrev JW:=UP.B⊕Il.B
def afd:JW->T:=ls (lf UP) (lf Il)
def ajQ:JW->T:=ls (λ_=>.fail) (lf Il)
abbrev ajR:=Int->Int->Int->Bool->Option JW
def ajS (g:ajR):Ct:=(128,FC ajP ajQ (λb=>g b.1.1.1 b.1.1.2 b.1.2 b.2))
def Uf (ka:Wy)(zh:alx)(Ho:afb)(x0:Int)(x1:Int)(x2:Int)(x3:Bool):Pg JW:=let y0:=decide (x0<0);ae (x2==0) (ae (x0==0&&(x1==0&&true)) (ret (w7 0)) (opt (ka y0) λd=>ret (w7 d))) (opt (zh x0 x1 x2) λd=>opt (Ho d.1 d.2 (!y0==decide (x2<0)) x3) λd=>sm d (λd=>no) (λd=>ret (ww d)))
def JX:=λx0 x1 x2 x3=>(Uf oH Cd BY x0 x1 x2 x3).val
theorem aC7:∀ka zh Ho,D0 [Wz ka,aly zh,afc Ho] 128 ajP afd λb=>Uf ka zh Ho b.1.1.1 b.1.1.2 b.1.2 b.2:=λ_ _ _ b=>by kernel_rfl
theorem aC8 [aA]:SC (ajS JX):=sc (FK (R:=afd) (R':=ajQ) (λd r h=>by rcases d with d|d<;>first|exact h|(have h:(none:Option pP)=some r:=h;cases h))<|k0 (.c agw (.c az9 (.c ay7 (.nil _)))) (aC7 oH Cd BY))
def UR:=qa (pr (cu aQ FA) bL)
def GC:=qe axp
abbrev US:=GC.B
abbrev Im:=Int->Int->Int->Bool->Option US
def Io (g:Im):Ct:=(78,FC UR (lf GC) (λb=>g b.1.1 b.1.2.1 b.1.b b.2))
def Ip (jz:PM)(cT:o6)(JY:ajR)(x0:Int)(x1:Int)(x2:Int)(x3:Bool):Pg US:=opt (jz x0 x3) λd=>opt (jz x1 x3) λak=>opt (cT d ak) λd=>opt (jz x2 x3) λaJ=>opt (JY d.1 d.2 aJ x3) λd=>sm d (λd=>no) (λd=>ret d)
def kY:=λx0 x1 x2 x3=>(Ip rX fP JX x0 x1 x2 x3).val
theorem apL:∀jz cT JY,D0 [PN jz,ze cT,ajS JY] 78 UR (lf GC) λb=>Ip jz cT JY b.1.1 b.1.2.1 b.1.b b.2:=λ_ _ _ b=>by kernel_rfl
theorem UT [aA]:SC (Io kY):=s0 (.c ae8 (.c Cc (.c aC8 (.nil _)))) (apL rX fP JX)
def HH:=qa (pr (c ai (c ai aKb)) (cu asq bL))
def xM:=qe aXy
abbrev HI:=xM.B
abbrev yC:=Int->Int->Int->Int->Bool->Option HI
def yD (g:yC):Ct:=(194,FC HH (lf xM) (λb=>g b.1.1 b.1.2.1 b.1.b.1 b.1.b.2 b.2))
def yE (aV:Im)(x0:Int)(x1:Int)(x2:Int)(x3:Int)(x4:Bool):Pg HI:=opt (aV (wI (x1-x0)) x2 x3 x4) λd=>ret (wI (x0+d))
def gR:=λx0 x1 x2 x3 x4=>(yE kY x0 x1 x2 x3 x4).val
theorem Zy:∀aV,D0 [Io aV] 194 HH (lf xM) λb=>yE aV b.1.1 b.1.2.1 b.1.b.1 b.1.b.2 b.2:=λ_ b=>by kernel_rfl
theorem HJ [aA]:SC (yD gR):=s0 (.c UT (.nil _)) (Zy kY)
def HK:=qa (pr (cl (aa (c gi aD4)) (cu aQ (cu Q' (cu (app 2 1) nil)))) (cu (cu (gc (ccl (pu (nat 194) (pu rq7 (pu wO DG))))) nil) (c ku (c ku (cu (cu (gp 4 1) nil) bL)))))
def xN:=qe (res (pl ai (pu aXA nil)))
abbrev HL:=xN.B
abbrev HM:=Int->Int->Int->Int->Int->Int->Int->Int->Int->Bool->Option HL
def HN (g:HM):Ct:=(195,FC HK (lf xN) (λb=>g b.1.1 b.1.2.1 b.1.b.1 b.1.b.2.1 b.1.c.1 b.1.c.2.1 b.1.c.b b.2.1 b.b.1 b.b.2))
def yF (ao:yC)(x0:Int)(x1:Int)(x2:Int)(x3:Int)(x4:Int)(x5:Int)(x6:Int)(x7:Int)(x8:Int)(x9:Bool):Pg HL:=let y0:=wI (x2*1073741824);let y1:=wI (x6*1073741824);let y2:=wI (x3*1073741824);let y3:=wI (x0*1073741824);let y4:=wI (x7+1);let y5:=wI (x5*1073741824);let y6:=wI (x1*1073741824);let y7:=wI (x4*1073741824);let y8:=aZ y4 7;let y9:=y4==5;let AM:=y4==1;let AN:=y4==6;let Dg:=y4==2;let Dh:=y4==3;let Di:=y4==4;ae (aZ x7 7) (ae (x7==6) (ae y8 (ae AN (opt (ao y1 y1 x8 600000000 x9) λd=>ret d) (ae y9 (opt (ao y1 y5 x8 600000000 x9) λd=>ret d) (ae Di (opt (ao y1 y7 x8 600000000 x9) λd=>ret d) (ae Dh (opt (ao y1 y2 x8 600000000 x9) λd=>ret d) (ae Dg (opt (ao y1 y0 x8 600000000 x9) λd=>ret d) (ae AM (opt (ao y1 y6 x8 600000000 x9) λd=>ret d) (opt (ao y1 y3 x8 600000000 x9) λd=>ret d))))))) no) (ae (x7==5) (ae y8 (ae AN (opt (ao y5 y1 x8 600000000 x9) λd=>ret d) (ae y9 (opt (ao y5 y5 x8 600000000 x9) λd=>ret d) (ae Di (opt (ao y5 y7 x8 600000000 x9) λd=>ret d) (ae Dh (opt (ao y5 y2 x8 600000000 x9) λd=>ret d) (ae Dg (opt (ao y5 y0 x8 600000000 x9) λd=>ret d) (ae AM (opt (ao y5 y6 x8 600000000 x9) λd=>ret d) (opt (ao y5 y3 x8 600000000 x9) λd=>ret d))))))) no) (ae (x7==4) (ae y8 (ae AN (opt (ao y7 y1 x8 600000000 x9) λd=>ret d) (ae y9 (opt (ao y7 y5 x8 600000000 x9) λd=>ret d) (ae Di (opt (ao y7 y7 x8 600000000 x9) λd=>ret d) (ae Dh (opt (ao y7 y2 x8 600000000 x9) λd=>ret d) (ae Dg (opt (ao y7 y0 x8 600000000 x9) λd=>ret d) (ae AM (opt (ao y7 y6 x8 600000000 x9) λd=>ret d) (opt (ao y7 y3 x8 600000000 x9) λd=>ret d))))))) no) (ae (x7==3) (ae y8 (ae AN (opt (ao y2 y1 x8 600000000 x9) λd=>ret d) (ae y9 (opt (ao y2 y5 x8 600000000 x9) λd=>ret d) (ae Di (opt (ao y2 y7 x8 600000000 x9) λd=>ret d) (ae Dh (opt (ao y2 y2 x8 600000000 x9) λd=>ret d) (ae Dg (opt (ao y2 y0 x8 600000000 x9) λd=>ret d) (ae AM (opt (ao y2 y6 x8 600000000 x9) λd=>ret d) (opt (ao y2 y3 x8 600000000 x9) λd=>ret d))))))) no) (ae (x7==2) (ae y8 (ae AN (opt (ao y0 y1 x8 600000000 x9) λd=>ret d) (ae y9 (opt (ao y0 y5 x8 600000000 x9) λd=>ret d) (ae Di (opt (ao y0 y7 x8 600000000 x9) λd=>ret d) (ae Dh (opt (ao y0 y2 x8 600000000 x9) λd=>ret d) (ae Dg (opt (ao y0 y0 x8 600000000 x9) λd=>ret d) (ae AM (opt (ao y0 y6 x8 600000000 x9) λd=>ret d) (opt (ao y0 y3 x8 600000000 x9) λd=>ret d))))))) no) (ae (x7==1) (ae y8 (ae AN (opt (ao y6 y1 x8 600000000 x9) λd=>ret d) (ae y9 (opt (ao y6 y5 x8 600000000 x9) λd=>ret d) (ae Di (opt (ao y6 y7 x8 600000000 x9) λd=>ret d) (ae Dh (opt (ao y6 y2 x8 600000000 x9) λd=>ret d) (ae Dg (opt (ao y6 y0 x8 600000000 x9) λd=>ret d) (ae AM (opt (ao y6 y6 x8 600000000 x9) λd=>ret d) (opt (ao y6 y3 x8 600000000 x9) λd=>ret d))))))) no) (ae y8 (ae AN (opt (ao y3 y1 x8 600000000 x9) λd=>ret d) (ae y9 (opt (ao y3 y5 x8 600000000 x9) λd=>ret d) (ae Di (opt (ao y3 y7 x8 600000000 x9) λd=>ret d) (ae Dh (opt (ao y3 y2 x8 600000000 x9) λd=>ret d) (ae Dg (opt (ao y3 y0 x8 600000000 x9) λd=>ret d) (ae AM (opt (ao y3 y6 x8 600000000 x9) λd=>ret d) (opt (ao y3 y3 x8 600000000 x9) λd=>ret d))))))) no))))))) no
def mZ:=λx0 x1 x2 x3 x4 x5 x6 x7 x8 x9=>(yF gR x0 x1 x2 x3 x4 x5 x6 x7 x8 x9).val
theorem Zz:∀ao,D0 [yD ao] 195 HK (lf xN) λb=>yF ao b.1.1 b.1.2.1 b.1.b.1 b.1.b.2.1 b.1.c.1 b.1.c.2.1 b.1.c.b b.2.1 b.b.1 b.b.2:=λ_ b=>by kernel_rfl
theorem ZA [aA]:SC (HN mZ):=s0 (.c HJ (.nil _)) (Zz gR)
def Lm:=qa (pr (cu aQ HR) bL)
def AP:=qe aXQ
abbrev Ln:=AP.B
abbrev Lo:=Int->Int->Int->Bool->Option Ln
def Lp (g:Lo):Ct:=(120,FC Lm (lf AP) (λb=>g b.1.1 b.1.2.1 b.1.b b.2))
def BZ (cO:wg)(je:Ic)(ao:yC)(aG:HM)(aV:Im)(x0:Int)(x1:Int)(x2:Int)(x3:Bool):Pg Ln:=let y0:=wI (x1+1800000000);let y1:=wI (x0+900000000);let y2:=wI (ul y1 450000000);let y3:=wI (ul y0 600000000);let y4:=if 3<y2 then 3 else y2;let y5:=if 5<y3 then 5 else y3;let y6:=wI (y4+1);let y7:=wI (y0-wI (y5*600000000));opt (cO x0 x1 x2) λd=>ae (!d) (ret (0,1)) (opt je λd=>ae (aZ y4 5) (ae (y4==4) (opt (aG 1000 4000 (-3000) 500 3500 (-1200) 1000 y5 y7 x3) λd=>ae (aZ y6 5) (ae (y6==4) (opt (aG 1000 4000 (-3000) 500 3500 (-1200) 1000 y5 y7 x3) λak=>opt (ao d ak (wI (y1-wI (y4*450000000))) 450000000 x3) λd=>opt (aV d 3373259426 19327352832000 x3) λd=>ret (d,0)) (ae (y6==3) (opt (aG 500 1500 (-1700) 100 700 (-800) 500 y5 y7 x3) λak=>opt (ao d ak (wI (y1-wI (y4*450000000))) 450000000 x3) λd=>opt (aV d 3373259426 19327352832000 x3) λd=>ret (d,0)) (ae (y6==2) (opt (aG 950 900 (-1400) (-500) (-300) 100 950 y5 y7 x3) λak=>opt (ao d ak (wI (y1-wI (y4*450000000))) 450000000 x3) λd=>opt (aV d 3373259426 19327352832000 x3) λd=>ret (d,0)) (ae (y6==1) (opt (aG 2200 2500 500 (-2200) (-3800) 0 2200 y5 y7 x3) λak=>opt (ao d ak (wI (y1-wI (y4*450000000))) 450000000 x3) λd=>opt (aV d 3373259426 19327352832000 x3) λd=>ret (d,0)) (opt (aG 3000 6000 (-2000) (-1500) (-6000) (-9000) 3000 y5 y7 x3) λak=>opt (ao d ak (wI (y1-wI (y4*450000000))) 450000000 x3) λd=>opt (aV d 3373259426 19327352832000 x3) λd=>ret (d,0)))))) no) (ae (y4==3) (opt (aG 500 1500 (-1700) 100 700 (-800) 500 y5 y7 x3) λd=>ae (aZ y6 5) (ae (y6==4) (opt (aG 1000 4000 (-3000) 500 3500 (-1200) 1000 y5 y7 x3) λak=>opt (ao d ak (wI (y1-wI (y4*450000000))) 450000000 x3) λd=>opt (aV d 3373259426 19327352832000 x3) λd=>ret (d,0)) (ae (y6==3) (opt (aG 500 1500 (-1700) 100 700 (-800) 500 y5 y7 x3) λak=>opt (ao d ak (wI (y1-wI (y4*450000000))) 450000000 x3) λd=>opt (aV d 3373259426 19327352832000 x3) λd=>ret (d,0)) (ae (y6==2) (opt (aG 950 900 (-1400) (-500) (-300) 100 950 y5 y7 x3) λak=>opt (ao d ak (wI (y1-wI (y4*450000000))) 450000000 x3) λd=>opt (aV d 3373259426 19327352832000 x3) λd=>ret (d,0)) (ae (y6==1) (opt (aG 2200 2500 500 (-2200) (-3800) 0 2200 y5 y7 x3) λak=>opt (ao d ak (wI (y1-wI (y4*450000000))) 450000000 x3) λd=>opt (aV d 3373259426 19327352832000 x3) λd=>ret (d,0)) (opt (aG 3000 6000 (-2000) (-1500) (-6000) (-9000) 3000 y5 y7 x3) λak=>opt (ao d ak (wI (y1-wI (y4*450000000))) 450000000 x3) λd=>opt (aV d 3373259426 19327352832000 x3) λd=>ret (d,0)))))) no) (ae (y4==2) (opt (aG 950 900 (-1400) (-500) (-300) 100 950 y5 y7 x3) λd=>ae (aZ y6 5) (ae (y6==4) (opt (aG 1000 4000 (-3000) 500 3500 (-1200) 1000 y5 y7 x3) λak=>opt (ao d ak (wI (y1-wI (y4*450000000))) 450000000 x3) λd=>opt (aV d 3373259426 19327352832000 x3) λd=>ret (d,0)) (ae (y6==3) (opt (aG 500 1500 (-1700) 100 700 (-800) 500 y5 y7 x3) λak=>opt (ao d ak (wI (y1-wI (y4*450000000))) 450000000 x3) λd=>opt (aV d 3373259426 19327352832000 x3) λd=>ret (d,0)) (ae (y6==2) (opt (aG 950 900 (-1400) (-500) (-300) 100 950 y5 y7 x3) λak=>opt (ao d ak (wI (y1-wI (y4*450000000))) 450000000 x3) λd=>opt (aV d 3373259426 19327352832000 x3) λd=>ret (d,0)) (ae (y6==1) (opt (aG 2200 2500 500 (-2200) (-3800) 0 2200 y5 y7 x3) λak=>opt (ao d ak (wI (y1-wI (y4*450000000))) 450000000 x3) λd=>opt (aV d 3373259426 19327352832000 x3) λd=>ret (d,0)) (opt (aG 3000 6000 (-2000) (-1500) (-6000) (-9000) 3000 y5 y7 x3) λak=>opt (ao d ak (wI (y1-wI (y4*450000000))) 450000000 x3) λd=>opt (aV d 3373259426 19327352832000 x3) λd=>ret (d,0)))))) no) (ae (y4==1) (opt (aG 2200 2500 500 (-2200) (-3800) 0 2200 y5 y7 x3) λd=>ae (aZ y6 5) (ae (y6==4) (opt (aG 1000 4000 (-3000) 500 3500 (-1200) 1000 y5 y7 x3) λak=>opt (ao d ak (wI (y1-wI (y4*450000000))) 450000000 x3) λd=>opt (aV d 3373259426 19327352832000 x3) λd=>ret (d,0)) (ae (y6==3) (opt (aG 500 1500 (-1700) 100 700 (-800) 500 y5 y7 x3) λak=>opt (ao d ak (wI (y1-wI (y4*450000000))) 450000000 x3) λd=>opt (aV d 3373259426 19327352832000 x3) λd=>ret (d,0)) (ae (y6==2) (opt (aG 950 900 (-1400) (-500) (-300) 100 950 y5 y7 x3) λak=>opt (ao d ak (wI (y1-wI (y4*450000000))) 450000000 x3) λd=>opt (aV d 3373259426 19327352832000 x3) λd=>ret (d,0)) (ae (y6==1) (opt (aG 2200 2500 500 (-2200) (-3800) 0 2200 y5 y7 x3) λak=>opt (ao d ak (wI (y1-wI (y4*450000000))) 450000000 x3) λd=>opt (aV d 3373259426 19327352832000 x3) λd=>ret (d,0)) (opt (aG 3000 6000 (-2000) (-1500) (-6000) (-9000) 3000 y5 y7 x3) λak=>opt (ao d ak (wI (y1-wI (y4*450000000))) 450000000 x3) λd=>opt (aV d 3373259426 19327352832000 x3) λd=>ret (d,0)))))) no) (opt (aG 3000 6000 (-2000) (-1500) (-6000) (-9000) 3000 y5 y7 x3) λd=>ae (aZ y6 5) (ae (y6==4) (opt (aG 1000 4000 (-3000) 500 3500 (-1200) 1000 y5 y7 x3) λak=>opt (ao d ak (wI (y1-wI (y4*450000000))) 450000000 x3) λd=>opt (aV d 3373259426 19327352832000 x3) λd=>ret (d,0)) (ae (y6==3) (opt (aG 500 1500 (-1700) 100 700 (-800) 500 y5 y7 x3) λak=>opt (ao d ak (wI (y1-wI (y4*450000000))) 450000000 x3) λd=>opt (aV d 3373259426 19327352832000 x3) λd=>ret (d,0)) (ae (y6==2) (opt (aG 950 900 (-1400) (-500) (-300) 100 950 y5 y7 x3) λak=>opt (ao d ak (wI (y1-wI (y4*450000000))) 450000000 x3) λd=>opt (aV d 3373259426 19327352832000 x3) λd=>ret (d,0)) (ae (y6==1) (opt (aG 2200 2500 500 (-2200) (-3800) 0 2200 y5 y7 x3) λak=>opt (ao d ak (wI (y1-wI (y4*450000000))) 450000000 x3) λd=>opt (aV d 3373259426 19327352832000 x3) λd=>ret (d,0)) (opt (aG 3000 6000 (-2000) (-1500) (-6000) (-9000) 3000 y5 y7 x3) λak=>opt (ao d ak (wI (y1-wI (y4*450000000))) 450000000 x3) λd=>opt (aV d 3373259426 19327352832000 x3) λd=>ret (d,0)))))) no))))) no)
def pC:=λx0 x1 x2 x3=>(BZ gM nd gR mZ kY x0 x1 x2 x3).val
theorem afe:∀cO je ao aG aV,D0 [Ay cO,Ie je,yD ao,HN aG,Io aV] 120 Lm (lf AP) λb=>BZ cO je ao aG aV b.1.1 b.1.2.1 b.1.b b.2:=λ_ _ _ _ _ b=>by kernel_rfl
theorem aff [aA]:SC (Lp pC):=s0 (.c Es (.c UM (.c HJ (.c ZA (.c UT (.nil _)))))) (afe gM nd gR mZ kY)
def kF:=qa (pu (cu jq nil) (cd wQ λb0=>(c m6 (c oG (c (cl (gs b0.c.1 pK) nil) (cd yd λb4=>(cd rb λb5=>(cd re λb6=>(cd rf λb7=>(cd rj λb8=>(cd rm λb9=>(c nK (cd Ap λBV=>(c (cl (gs b0.e mN) nil) (c (cl (gs b4.b.1 aC) nil) (c (cl (gs b5.b.1 aC) nil) (c (cl (gs b6.b.1 aC) nil) (c (cl (gs b7.b.1 aC) nil) (c (cl (gs b8.b.1 aC) nil) (c (cl (gs b9.b.1 aC) nil) (cl (cl (gs BV.b jJ) nil) nil)))))))))))))))))))))
def tG:=qe (res (pl ai (pu (cu fN axz) nil)))
abbrev D8:=tG.B
abbrev D9:=kF.B->Option D8
def Ea (g:D9):Ct:=(220,FC kF (lf tG) g)
def uB (uf:Lo)(x:kF.B):Pg D8:=let n1:=x.1.1.2.2.2.2.2.2.2.2.2.2.2.2.2;opt (uf n1.1 n1.2.1 n1.2.2 x.1.2.1) λd=>ret d.1
def kG:=λx=>(uB pC x).val
theorem Ug:∀uf,D0 [Lp uf] 220 kF (lf tG) λb=>uB uf b:=λ_ b=>by kernel_rfl
theorem Uh [aA]:SC (Ea kG):=s0 (.c aff (.nil _)) (Ug pC)
def ml:=qa (pr (cu jq Ey) (cd wQ λb0=>(c m6 (c oG (c (cl (gs b0.c.1 pK) nil) (cd yd λb4=>(cd rb λb5=>(cd re λb6=>(cd rf λb7=>(cd rj λb8=>(cd rm λb9=>(c nK (cd Ap λBV=>(c (cl (gs b0.e mN) nil) (c (cl (gs b4.b.1 aC) nil) (c (cl (gs b5.b.1 aC) nil) (c (cl (gs b6.b.1 aC) nil) (c (cl (gs b7.b.1 aC) nil) (c (cl (gs b8.b.1 aC) nil) (c (cl (gs b9.b.1 aC) nil) (cl (cl (gs BV.b jJ) nil) nil)))))))))))))))))))))
def ER:=qe asE
abbrev z5:=ER.B
abbrev Sh:=ml.B->Option z5
def Si (g:Sh):Ct:=(173,FC ml (lf ER) g)
def z6 (ny:aaU)(oA:D9)(abg:aBs)(Dy:YD)(bm:rV)(Nx:anu)(bc:pz)(x:ml.B):Pg z5:=let bH:=x.2.2;let n6:=x.1.2.2.2;let n5:=x.2.1.1;let n15:=n5.2.2.2.2.2.2.2.2.2.1;let n7:=n5.2.2.2.2.1.2.2.2.1;let n4:=x.2.1.2.2;let bM:=n4.2.2.2.2.2.2.2.2.2.2.2.2.2.2;let n3:=bH.2.2.2.2;let n8:=n3.2.2.2;let y0:=z9 n4.2.2.1 n4.2.2.1;let y1:=z9 bM bM;let y2:=z9 bH.2.2.2.1.2.2.1 bH.2.2.2.1.2.2.1;let y3:=z9 n3.1.2.2.1 n3.1.2.2.1;let y4:=z9 n3.2.1.2.2.1 n3.2.1.2.2.1;let y5:=z9 n3.2.2.1.2.2.1 n3.2.2.1.2.2.1;let y6:=z9 n8.1.2.2.1 n8.1.2.2.1;let y7:=z9 n8.2.1.2.2.1 n8.2.1.2.2.1;let y8:=z9 n8.2.2.2.1.2.2 n8.2.2.2.1.2.2;opt (ny x.1.1 x.1.2.1 x.1.2.2.1 n6.1 n6.2.1 n6.2.2.1 n6.2.2.2.1 n6.2.2.2.2.1 n6.2.2.2.2.2 x.2.1.2.1) λd=>let n9:=d.1.1.2;ae y0 (ae y1 (ae y2 (ae y3 (ae y4 (ae y5 (ae y6 (ae y7 (ae y8 (opt (oA ((n5,d.2,n4),bH)) λak=>ae (n4.2.2.2.1.1==3) (opt (abg n4.1 d.1.1.1 n9.1 n9.2.1 n9.2.2 n7 d.2) λd=>let n16:=d.2.2.1;let n2:=d.2.2.2;let cm:=n2.2.1;let bk:=n2.2.2.2;opt (Dy n4.1 ak n15 n7 d.1) λaJ=>ae (aJ.1.2==0) (ae y0 (ae y1 (ae y2 (ae y3 (ae y4 (ae y5 (ae y6 (ae y7 (ae y8 (opt (bm ((3,4,true),(n5,aJ.2,n4),(azw (λk=>cr (d.2.1 k) [aJ.1.1.1 k,bk.2.1 k,n2.2.2.1 k,d.2.1 k]) (cr n16 [aJ.1.1.2.1,bk.2.2,bk.1,n16],cr n2.1 [aJ.1.1.2.2.1,n2.1,n2.1,n2.1],cr cm [aJ.1.1.2.2.2,cm,cm,cm])),bH)) λd=>ret d.2.1) no) no) no) no) no) no) no) no) no) (ae y0 (ae y1 (ae y2 (ae y3 (ae y4 (ae y5 (ae y6 (ae y7 (ae y8 (opt (bm ((3,3,true),(n5,aJ.2,n4),(azw (λk=>cr (d.2.1 k) [bk.2.1 k,n2.2.2.1 k,d.2.1 k]) (cr n16 [bk.2.2,bk.1,n16],cr n2.1 [n2.1,n2.1,n2.1],cr cm [cm,cm,cm])),bH)) λd=>ret d.2.1) no) no) no) no) no) no) no) no) no)) (opt (Nx n4.1 d.1.1.1 n9.1 n9.2.1 n9.2.2 ak n15 n7 d.2) λd=>let bo:=d.1.1.2;let n1:=d.1.1.1;ae (d.1.2!=0) (ae y0 (ae y1 (ae y2 (ae y3 (ae y4 (ae y5 (ae y6 (ae y7 (ae y8 (opt (bc (3,(n5,d.2,n4),bH)) λaJ=>ret ((n5,d.2,n4),aJ)) no) no) no) no) no) no) no) no) no) (ae y0 (ae y1 (ae y2 (ae y3 (ae y4 (ae y5 (ae y6 (ae y7 (ae y8 (opt (bm ((3,1,true),(n5,d.2,n4),(λj=>bif z9 j 0 then n1 0 else n1 0,λj=>bif z9 j 0 then n1 1 else n1 1,λj=>bif z9 j 0 then n1 2 else n1 2,λj=>bif z9 j 0 then n1 3 else n1 3,λj=>bif z9 j 0 then n1 4 else n1 4,λj=>bif z9 j 0 then n1 5 else n1 5,λj=>bif z9 j 0 then n1 6 else n1 6,λj=>bif z9 j 0 then n1 7 else n1 7,λj=>bif z9 j 0 then n1 8 else n1 8,λj=>bif z9 j 0 then n1 9 else n1 9,λj=>bif z9 j 0 then n1 10 else n1 10,λj=>bif z9 j 0 then n1 11 else n1 11,λj=>bif z9 j 0 then n1 12 else n1 12,λj=>bif z9 j 0 then n1 13 else n1 13,λj=>bif z9 j 0 then n1 14 else n1 14,λj=>bif z9 j 0 then n1 15 else n1 15,λj=>bif z9 j 0 then n1 16 else n1 16,λj=>bif z9 j 0 then n1 17 else n1 17,λj=>bif z9 j 0 then n1 18 else n1 18,λj=>bif z9 j 0 then n1 19 else n1 19,λj=>bif z9 j 0 then n1 20 else n1 20,λj=>bif z9 j 0 then n1 21 else n1 21,λj=>bif z9 j 0 then n1 22 else n1 22,λj=>bif z9 j 0 then n1 23 else n1 23,λj=>bif z9 j 0 then bo.1 else bo.1,λj=>bif z9 j 0 then bo.2.1 else bo.2.1,λj=>bif z9 j 0 then bo.2.2 else bo.2.2),bH)) λd=>ret d.2.1) no) no) no) no) no) no) no) no) no))) no) no) no) no) no) no) no) no) no
def jP:=λx=>(z6 wh kG Ld rS di BM dJ x).val
theorem an9:∀ny oA abg Dy bm Nx bc,D0 [aaV ny,Ea oA,aBt abg,YE Dy,rW bm,anv Nx,pA bc] 173 ml (lf ER) λb=>z6 ny oA abg Dy bm Nx bc b:=λ_ _ _ _ _ _ _ b=>by kernel_rfl
theorem aoa [aA]:SC (Si jP):=s0 (.c ann (.c Uh (.c aON (.c atJ (.c xH (.c aGy (.c tF (.nil _)))))))) (an9 wh kG Ld rS di BM dJ)
def ql:=qa (pr (cu jq (c ai Ey)) (cd wQ λb0=>(c m6 (c oG (c (cl (gs b0.c.1 pK) nil) (cd yd λb4=>(cd rb λb5=>(cd re λb6=>(cd rf λb7=>(cd rj λb8=>(cd rm λb9=>(c nK (cd Ap λBV=>(c (cl (gs b0.e mN) nil) (c (cl (gs b4.b.1 aC) nil) (c (cl (gs b5.b.1 aC) nil) (c (cl (gs b6.b.1 aC) nil) (c (cl (gs b7.b.1 aC) nil) (c (cl (gs b8.b.1 aC) nil) (c (cl (gs b9.b.1 aC) nil) (cl (cl (gs BV.b jJ) nil) nil)))))))))))))))))))))
def Oe:=qe asE
def akm:=qe (res (pu Q8 (pr (c aYQ aQ9) aKw)))
abbrev z7:=Oe.B⊕(((GJ×Bool×NI×(NI×NI)×Nat×se×Bool×Int×lJ×Bool×Bool×Bool×Int×Int×Int×Fv×Nat)×aS1×Int)×NI×NI×NI×NI×NI×NI×NI×NI×NI×NI)
def abh:z7->T:=ls (lf Oe) (λd=>lf akm (d.1,d.1.1.e,d.2))
abbrev Ny:=ql.B->Option z7
def abi (g:Ny):Ct:=(109,FC ql abh g)
def Fk (Dz:YS)(sR:Ja)(kh:Kv)(qo:anj)(cE:Np)(jf:H7)(oB:ajb)(bc:pz)(z8:Sh)(vP:Ns)(DA:YX)(x:ql.B):Pg z7:=let n24:=x.2.1;let bH:=x.1.2;let n9:=x.2.2;let n8:=x.1.1;let n5:=bH.2.2.2;let n16:=n5.2.2.2;let n4:=n9.2.2.2.2;let cm:=n4.2.2.2;let n3:=n24.1;let n6:=n3.2.2.2.2.1;let n17:=n6.2.2.2;let n2:=n24.2.2;let n25:=n2.2.2;let n15:=n25.2.2.2.2.2.2;let n1:=(n24,cm.2.2.1);let y0:=aZ n8 6;let y1:=n8==2;let y2:=n8==3;let y3:=n8==5;let y4:=n8==4;let y5:=n8==1;let y6:=z9 n25.1 n25.1;let y7:=z9 n15.2.2.2.2.2.2 n15.2.2.2.2.2.2;let y8:=z9 n9.2.2.2.1.2.2.1 n9.2.2.2.1.2.2.1;let y9:=z9 n4.1.2.2.1 n4.1.2.2.1;let AM:=z9 n4.2.1.2.2.1 n4.2.1.2.2.1;let AN:=z9 n4.2.2.1.2.2.1 n4.2.2.1.2.2.1;let Dg:=z9 cm.1.2.2.1 cm.1.2.2.1;let Dh:=z9 cm.2.1.2.2.1 cm.2.1.2.2.1;let Di:=z9 cm.2.2.2.1.2.2 cm.2.2.2.1.2.2;ae (n25.2.1.1==0) (ret (w7 n1)) (ae (n25.2.1.1==1) (ae y2 (ae (!n15.1) (ae y6 (ae y7 (ae y8 (ae y9 (ae AM (ae AN (ae Dg (ae Dh (ae Di (opt (Dz (bH,x.2)) λd=>sm d (λd=>ret (w7 d)) (λd=>let n22:=d.1.1.2;let bk:=n22.2.2.2;let n23:=bk.2.2.2;ret (ww (((d.1.1.1,n22.1,n22.2.1,n22.2.2.1,bk.1,bk.2.1,bk.2.2.1,n23.1,n23.2.1,n23.2.2.1,true,n23.2.2.2),d.1.2),d.2)))) no) no) no) no) no) no) no) no) no) (ret (w7 n1))) (ret (w7 n1))) (ae (n8==0) (ae y6 (ae y7 (ae y8 (ae y9 (ae AM (ae AN (ae Dg (ae Dh (ae Di (opt (sR (bH,x.2)) λd=>sm d (λd=>let n18:=d.1.1.2;let n7:=n18.2.2.2.2;let n19:=n7.2.2.2;ret (ww (((d.1.1.1,n18.1,n18.2.1,n18.2.2.1,n18.2.2.2.1,n7.1,n7.2.1,n7.2.2.1,n19.1,n19.2.1,n19.2.2.1,true,n19.2.2.2.1,n19.2.2.2),d.1.2),d.2))) (λd=>ret (w7 d))) no) no) no) no) no) no) no) no) no) (ae y5 (opt (kh bH.1 bH.2.1 bH.2.2.1 n5.1 n5.2.1 n5.2.2.1 n16.1 n16.2.1 n16.2.2 n24.2.1) λd=>let bM:=d.1.1;ae y0 (ae y3 (opt (qo n2.1 bM.1 bM.2 n17.2.2 d.2) λd=>ae y6 (ae y7 (ae y8 (ae y9 (ae AM (ae AN (ae Dg (ae Dh (ae Di (opt (cE ((n8,1,d.1),(n3,d.2,n2),n9)) λd=>ret (w7 d)) no) no) no) no) no) no) no) no) no) (ae y4 (opt (qo n2.1 bM.1 bM.2 n17.2.1 d.2) λd=>ae y6 (ae y7 (ae y8 (ae y9 (ae AM (ae AN (ae Dg (ae Dh (ae Di (opt (cE ((n8,1,d.1),(n3,d.2,n2),n9)) λd=>ret (w7 d)) no) no) no) no) no) no) no) no) no) (ae y2 (opt (qo n2.1 bM.1 bM.2 n17.1 d.2) λd=>ae y6 (ae y7 (ae y8 (ae y9 (ae AM (ae AN (ae Dg (ae Dh (ae Di (opt (cE ((n8,1,d.1),(n3,d.2,n2),n9)) λd=>ret (w7 d)) no) no) no) no) no) no) no) no) no) (ae y1 (opt (qo n2.1 bM.1 bM.2 n6.2.2.1 d.2) λd=>ae y6 (ae y7 (ae y8 (ae y9 (ae AM (ae AN (ae Dg (ae Dh (ae Di (opt (cE ((n8,1,d.1),(n3,d.2,n2),n9)) λd=>ret (w7 d)) no) no) no) no) no) no) no) no) no) (ae y5 (opt (qo n2.1 bM.1 bM.2 n6.2.1 d.2) λd=>ae y6 (ae y7 (ae y8 (ae y9 (ae AM (ae AN (ae Dg (ae Dh (ae Di (opt (cE ((n8,1,d.1),(n3,d.2,n2),n9)) λd=>ret (w7 d)) no) no) no) no) no) no) no) no) no) (opt (qo n2.1 bM.1 bM.2 n6.1 d.2) λd=>ae y6 (ae y7 (ae y8 (ae y9 (ae AM (ae AN (ae Dg (ae Dh (ae Di (opt (cE ((n8,1,d.1),(n3,d.2,n2),n9)) λd=>ret (w7 d)) no) no) no) no) no) no) no) no) no)))))) no) (ae y1 (opt (jf bH.1 bH.2.1 bH.2.2.1 n5.1 n5.2.1 n5.2.2.1 n16.1 n16.2.1 n16.2.2 n24.2.1) λd=>let bo:=d.1.1;let n21:=bo.2.2;let n20:=bo.2.1;ae y0 (ae y3 (opt (oB n2.1 bo.1 n20 n21 n17.2.2 d.2) λd=>ae (d.1.2!=0) (ae y6 (ae y7 (ae y8 (ae y9 (ae AM (ae AN (ae Dg (ae Dh (ae Di (opt (bc (n8,(n3,d.2,n2),n9)) λak=>ret (w7 ((n3,d.2,n2),ak))) no) no) no) no) no) no) no) no) no) (ae y6 (ae y7 (ae y8 (ae y9 (ae AM (ae AN (ae Dg (ae Dh (ae Di (opt (cE ((n8,3,d.1.1),(n3,d.2,n2),n9)) λd=>ret (w7 d)) no) no) no) no) no) no) no) no) no)) (ae y4 (opt (oB n2.1 bo.1 n20 n21 n17.2.1 d.2) λd=>ae (d.1.2!=0) (ae y6 (ae y7 (ae y8 (ae y9 (ae AM (ae AN (ae Dg (ae Dh (ae Di (opt (bc (n8,(n3,d.2,n2),n9)) λak=>ret (w7 ((n3,d.2,n2),ak))) no) no) no) no) no) no) no) no) no) (ae y6 (ae y7 (ae y8 (ae y9 (ae AM (ae AN (ae Dg (ae Dh (ae Di (opt (cE ((n8,3,d.1.1),(n3,d.2,n2),n9)) λd=>ret (w7 d)) no) no) no) no) no) no) no) no) no)) (ae y2 (opt (oB n2.1 bo.1 n20 n21 n17.1 d.2) λd=>ae (d.1.2!=0) (ae y6 (ae y7 (ae y8 (ae y9 (ae AM (ae AN (ae Dg (ae Dh (ae Di (opt (bc (n8,(n3,d.2,n2),n9)) λak=>ret (w7 ((n3,d.2,n2),ak))) no) no) no) no) no) no) no) no) no) (ae y6 (ae y7 (ae y8 (ae y9 (ae AM (ae AN (ae Dg (ae Dh (ae Di (opt (cE ((n8,3,d.1.1),(n3,d.2,n2),n9)) λd=>ret (w7 d)) no) no) no) no) no) no) no) no) no)) (ae y1 (opt (oB n2.1 bo.1 n20 n21 n6.2.2.1 d.2) λd=>ae (d.1.2!=0) (ae y6 (ae y7 (ae y8 (ae y9 (ae AM (ae AN (ae Dg (ae Dh (ae Di (opt (bc (n8,(n3,d.2,n2),n9)) λak=>ret (w7 ((n3,d.2,n2),ak))) no) no) no) no) no) no) no) no) no) (ae y6 (ae y7 (ae y8 (ae y9 (ae AM (ae AN (ae Dg (ae Dh (ae Di (opt (cE ((n8,3,d.1.1),(n3,d.2,n2),n9)) λd=>ret (w7 d)) no) no) no) no) no) no) no) no) no)) (ae y5 (opt (oB n2.1 bo.1 n20 n21 n6.2.1 d.2) λd=>ae (d.1.2!=0) (ae y6 (ae y7 (ae y8 (ae y9 (ae AM (ae AN (ae Dg (ae Dh (ae Di (opt (bc (n8,(n3,d.2,n2),n9)) λak=>ret (w7 ((n3,d.2,n2),ak))) no) no) no) no) no) no) no) no) no) (ae y6 (ae y7 (ae y8 (ae y9 (ae AM (ae AN (ae Dg (ae Dh (ae Di (opt (cE ((n8,3,d.1.1),(n3,d.2,n2),n9)) λd=>ret (w7 d)) no) no) no) no) no) no) no) no) no)) (opt (oB n2.1 bo.1 n20 n21 n6.1 d.2) λd=>ae (d.1.2!=0) (ae y6 (ae y7 (ae y8 (ae y9 (ae AM (ae AN (ae Dg (ae Dh (ae Di (opt (bc (n8,(n3,d.2,n2),n9)) λak=>ret (w7 ((n3,d.2,n2),ak))) no) no) no) no) no) no) no) no) no) (ae y6 (ae y7 (ae y8 (ae y9 (ae AM (ae AN (ae Dg (ae Dh (ae Di (opt (cE ((n8,3,d.1.1),(n3,d.2,n2),n9)) λd=>ret (w7 d)) no) no) no) no) no) no) no) no) no))))))) no) (ae y2 (ae y6 (ae y7 (ae y8 (ae y9 (ae AM (ae AN (ae Dg (ae Dh (ae Di (opt (z8 (bH,x.2)) λd=>ret (w7 d)) no) no) no) no) no) no) no) no) no) (ae y4 (ae y6 (ae y7 (ae y8 (ae y9 (ae AM (ae AN (ae Dg (ae Dh (ae Di (opt (vP (bH,x.2)) λd=>ret (w7 d)) no) no) no) no) no) no) no) no) no) (ae y6 (ae y7 (ae y8 (ae y9 (ae AM (ae AN (ae Dg (ae Dh (ae Di (opt (DA (bH,x.2)) λd=>ret (w7 d)) no) no) no) no) no) no) no) no) no)))))))
def nA:=λx=>(Fk mh gf lZ BL ib kW yS dJ jP ig mj x).val
theorem awY:∀Dz sR kh qo cE jf oB bc z8 vP DA,D1 [YT Dz,Jb sR,Kw kh,ank qo,Nq cE,H8 jf,ajc oB,pA bc,Si z8,Nt vP,YY DA] [0,10] 109 ql abh λb=>Fk Dz sR kh qo cE jf oB bc z8 vP DA b:=λ_ _ _ _ _ _ _ _ _ _ _ b=>by kernel_rfl
theorem awZ [aA]:SC (abi nA):=s0 (.c atY (.c adu (.c Yl (.c aGw (.c ah0 (.c UG (.c aCM (.c tF (.c aoa (.c ah2 (.c at3 (.nil _)))))))))))) (awY mh gf lZ BL ib kW yS dJ jP ig mj)
def iN:=qa (pr (cu KW (cu Q' afN)) (cd afM λb0=>(c xY (cl (cl (gs b0.b jJ) nil) nil))))
def uC:=qe (res (pr ai (pl (cu fN (c aus aQ5)) nil)))
abbrev vQ:=uC.B
abbrev vR:=iN.B->Option vQ
def Fl (g:vR):Ct:=(114,FC iN (lf uC) g)
def c8:=qs (st (dp (us 3 (c ai (cu aM6 (cu aDT (cu ap1 (us 2 (c ai (us 12 (c (ac (A4 2 11)) (c ai (cl ai (us 74 nil)))))))))))) λv=>(pl (c (so afM) (c bD (c (so (cl (gs v.b.1 jJ) nil)) aYc))) aD0)))
def Sj:=qs (st (pr (us 3 (c ai (cu aM6 (cu aDT (cu ap1 (us 2 (c ai (us 12 (c (ac (A4 2 11)) (c ai (c ai (cl ab (us 73 nil))))))))))))) (pl (c (so afM) (c bD (c akL aYc))) aD0)))
abbrev jQ:=((Int×Int×Nat×Int×Int×Bool)×uG×Bool×(NI×NI×NI×NI×NI×NI×NI×NI×NI×NI×NI)×NI)
def Cs {ρ:Type}(x:jQ)(K:AX->St->Option ρ):Option ρ:=(λd=>K (.ex 0) (Sj.em (d.1,d.2.1,d.b.1,(d.1.b.1,d.b.2.1),d.c))) x
def tH (d:c8.B):PL c8 jQ:=let n1:=d.1.2.2;let n2:=n1.2.2;let y0:=decide (n2<n1.2.1);ae y0 (ae (aZ n2 n1.1) (ae (decide (d.2.2.2.1.1 (z4 n2)<=d.1.1)) (ret (w7 ((d.1.1,n2,n1.1,n1.2.1,wI (n2+1)),d.2))) (ret (w7 ((d.1.1,d.1.2.1,n1.1,n1.2.1,wI (n2+1)),d.2)))) no) (ret (ww ((d.1.1,d.1.2.1,n1.1,n1.2.1,n2,y0),d.2)))
def nC:=bG (tH) 2000
def dK:=qs aYP
def Sk:=qs (st (pr (us 4 (cu aM6 (cu aDT (us 8 (cu (app 5 3) (cu (app 6 3) (cu (app 7 4) (cu (app 8 4) (c ai (us 62 (c ai (cu Q' (cu KW (cu KW (cu aKg (c ai (c ai (c (ac (Ly (pu (nat 7) (pl (ok' hole) DG)))) (c ai (c ai (cl (ac (Ly (pu Bi (pl (ok' hole) DG)))) (us 7 nil)))))))))))))))))))))) (pl (c (so afM) (c bD (c akL (cu axo (cu aby (c Ao (c Ao (c yc (cl yc nil))))))))) aD0)))
abbrev gJ:=((Int×Int×Nat×Int×Int×Nat)×(Int×Nat)×Bool×aWP×lJ×lJ×aIv×Int×Int×Int×Int)
def Cu {ρ:Type}(x:gJ)(K:AX->St->Option ρ):Option ρ:=(λd=>K .nrm (Sk.em ((d.1.1,d.1.1,d.1.2.1,d.1.1,d.1.b),(d.2.1.1,d.1.2.1,d.2.1.2),d.b))) x
def tI (aB:bR)(d:dK.B):Pg gJ:=let bo:=d.2.2.1;let n6:=d.2.1.1;let n3:=d.2.2.2;let n7:=n3.2.1;let n2:=d.2.1.2;let n1:=n3.2.2;let n5:=n1.2.2;let bk:=n5.2.1;let n8:=n5.2.2;let n4:=n1.2.1;let bH:=n4.2.1;let n9:=n4.2.2;let y0:=aZ d.1 4;let y1:=d.1==1;let y2:=d.1==3;let y3:=d.1==2;ae y0 (ae y2 (opt (aB n2.1 n9.2 30 bo) λak=>ae y0 (ae y2 (ret ((d.1,n2.1,3,n9.2,ak.1,3),(n6,n2.2),ak.2,n3.1,n7,n1.1,n4,n5.1,bk,n8.1,ak.1)) (ae y3 (ret ((d.1,n2.1,3,n9.2,ak.1,2),(n6,n2.2),ak.2,n3.1,n7,n1.1,n4,n5.1,bk,ak.1,n8.2)) (ae y1 (ret ((d.1,n2.1,3,n9.2,ak.1,1),(n6,n2.2),ak.2,n3.1,n7,n1.1,n4,n5.1,ak.1,n8)) (ret ((d.1,n2.1,3,n9.2,ak.1,0),(n6,n2.2),ak.2,n3.1,n7,n1.1,n4,ak.1,n5.2))))) no) (ae y3 (opt (aB n2.1 n9.1 30 bo) λak=>ae y0 (ae y2 (ret ((d.1,n2.1,2,n9.1,ak.1,3),(n6,n2.2),ak.2,n3.1,n7,n1.1,n4,n5.1,bk,n8.1,ak.1)) (ae y3 (ret ((d.1,n2.1,2,n9.1,ak.1,2),(n6,n2.2),ak.2,n3.1,n7,n1.1,n4,n5.1,bk,ak.1,n8.2)) (ae y1 (ret ((d.1,n2.1,2,n9.1,ak.1,1),(n6,n2.2),ak.2,n3.1,n7,n1.1,n4,n5.1,ak.1,n8)) (ret ((d.1,n2.1,2,n9.1,ak.1,0),(n6,n2.2),ak.2,n3.1,n7,n1.1,n4,ak.1,n5.2))))) no) (ae y1 (opt (aB n2.1 bH 30 bo) λak=>ae y0 (ae y2 (ret ((d.1,n2.1,1,bH,ak.1,3),(n6,n2.2),ak.2,n3.1,n7,n1.1,n4,n5.1,bk,n8.1,ak.1)) (ae y3 (ret ((d.1,n2.1,1,bH,ak.1,2),(n6,n2.2),ak.2,n3.1,n7,n1.1,n4,n5.1,bk,ak.1,n8.2)) (ae y1 (ret ((d.1,n2.1,1,bH,ak.1,1),(n6,n2.2),ak.2,n3.1,n7,n1.1,n4,n5.1,ak.1,n8)) (ret ((d.1,n2.1,1,bH,ak.1,0),(n6,n2.2),ak.2,n3.1,n7,n1.1,n4,ak.1,n5.2))))) no) (opt (aB n2.1 n4.1 30 bo) λak=>ae y0 (ae y2 (ret ((d.1,n2.1,0,n4.1,ak.1,3),(n6,n2.2),ak.2,n3.1,n7,n1.1,n4,n5.1,bk,n8.1,ak.1)) (ae y3 (ret ((d.1,n2.1,0,n4.1,ak.1,2),(n6,n2.2),ak.2,n3.1,n7,n1.1,n4,n5.1,bk,ak.1,n8.2)) (ae y1 (ret ((d.1,n2.1,0,n4.1,ak.1,1),(n6,n2.2),ak.2,n3.1,n7,n1.1,n4,n5.1,ak.1,n8)) (ret ((d.1,n2.1,0,n4.1,ak.1,0),(n6,n2.2),ak.2,n3.1,n7,n1.1,n4,ak.1,n5.2))))) no)))) no
def jR (d:dK.B):Option gJ:=(tI aU d).val
def c9:=qs aYP
def Sl:=qs (st (pr (us 4 (cu aM6 (cu aDT (us 8 (cu (app 5 3) (cu (app 6 3) (cu (app 7 4) (cu (app 8 4) (c ai (us 49 aXh)))))))))) (pl (c (so afM) (c bD (c akL (cu axo (cu aby (c Ao (c Ao (c yc (cl yc nil))))))))) aD0)))
abbrev jS:=((Int×Bool)×uG×Bool×aWP×lJ×lJ×aIv×Int×Int×Int×Int)
def Cv {ρ:Type}(x:jS)(K:AX->St->Option ρ):Option ρ:=(λd=>K (.ex 2) (Sl.em ((d.1.1,d.1),d.2))) x
def tJ (MC:LT dK gJ)(d:c9.B):PL c9 jS:=let n5:=d.2.1;let n2:=d.2.2;let n6:=n2.2.1;let n4:=n2.2.2.1;let n1:=n2.2.2.2;let n7:=n1.2.2;let n3:=n1.2.1;let n9:=n3.2.1;let n8:=n3.2.2;let y0:=aZ d.1 4;let y1:=d.1==1;let y2:=d.1==3;let y3:=d.1==2;let y4:=decide (d.1<4);let y5:=wI (0-n3.1);let y6:=wI (0-n9);let y7:=wI (0-n8.1);let y8:=wI (0-n8.2);ae y4 (ae (decide (n3.1<0)) (ae y0 (ae y2 (ae y0 (ae y2 (opt (MC (d.1,n5,n2.1,n6,n4,n1.1,(n3.1,n9,n8.1,y8),n7)) λd=>ret (w7 (wI (d.1.1+1),(d.2.1.1,d.1.2.1,d.2.1.2),d.2.2))) (ae y3 (opt (MC (d.1,n5,n2.1,n6,n4,n1.1,(n3.1,n9,y8,n8.2),n7)) λd=>ret (w7 (wI (d.1.1+1),(d.2.1.1,d.1.2.1,d.2.1.2),d.2.2))) (ae y1 (opt (MC (d.1,n5,n2.1,n6,n4,n1.1,(n3.1,y8,n8),n7)) λd=>ret (w7 (wI (d.1.1+1),(d.2.1.1,d.1.2.1,d.2.1.2),d.2.2))) (opt (MC (d.1,n5,n2.1,n6,n4,n1.1,(y8,n3.2),n7)) λd=>ret (w7 (wI (d.1.1+1),(d.2.1.1,d.1.2.1,d.2.1.2),d.2.2)))))) no) (ae y3 (ae y0 (ae y2 (opt (MC (d.1,n5,n2.1,n6,n4,n1.1,(n3.1,n9,n8.1,y7),n7)) λd=>ret (w7 (wI (d.1.1+1),(d.2.1.1,d.1.2.1,d.2.1.2),d.2.2))) (ae y3 (opt (MC (d.1,n5,n2.1,n6,n4,n1.1,(n3.1,n9,y7,n8.2),n7)) λd=>ret (w7 (wI (d.1.1+1),(d.2.1.1,d.1.2.1,d.2.1.2),d.2.2))) (ae y1 (opt (MC (d.1,n5,n2.1,n6,n4,n1.1,(n3.1,y7,n8),n7)) λd=>ret (w7 (wI (d.1.1+1),(d.2.1.1,d.1.2.1,d.2.1.2),d.2.2))) (opt (MC (d.1,n5,n2.1,n6,n4,n1.1,(y7,n3.2),n7)) λd=>ret (w7 (wI (d.1.1+1),(d.2.1.1,d.1.2.1,d.2.1.2),d.2.2)))))) no) (ae y1 (ae y0 (ae y2 (opt (MC (d.1,n5,n2.1,n6,n4,n1.1,(n3.1,n9,n8.1,y6),n7)) λd=>ret (w7 (wI (d.1.1+1),(d.2.1.1,d.1.2.1,d.2.1.2),d.2.2))) (ae y3 (opt (MC (d.1,n5,n2.1,n6,n4,n1.1,(n3.1,n9,y6,n8.2),n7)) λd=>ret (w7 (wI (d.1.1+1),(d.2.1.1,d.1.2.1,d.2.1.2),d.2.2))) (ae y1 (opt (MC (d.1,n5,n2.1,n6,n4,n1.1,(n3.1,y6,n8),n7)) λd=>ret (w7 (wI (d.1.1+1),(d.2.1.1,d.1.2.1,d.2.1.2),d.2.2))) (opt (MC (d.1,n5,n2.1,n6,n4,n1.1,(y6,n3.2),n7)) λd=>ret (w7 (wI (d.1.1+1),(d.2.1.1,d.1.2.1,d.2.1.2),d.2.2)))))) no) (ae y0 (ae y2 (opt (MC (d.1,n5,n2.1,n6,n4,n1.1,(n3.1,n9,n8.1,y5),n7)) λd=>ret (w7 (wI (d.1.1+1),(d.2.1.1,d.1.2.1,d.2.1.2),d.2.2))) (ae y3 (opt (MC (d.1,n5,n2.1,n6,n4,n1.1,(n3.1,n9,y5,n8.2),n7)) λd=>ret (w7 (wI (d.1.1+1),(d.2.1.1,d.1.2.1,d.2.1.2),d.2.2))) (ae y1 (opt (MC (d.1,n5,n2.1,n6,n4,n1.1,(n3.1,y5,n8),n7)) λd=>ret (w7 (wI (d.1.1+1),(d.2.1.1,d.1.2.1,d.2.1.2),d.2.2))) (opt (MC (d.1,n5,n2.1,n6,n4,n1.1,(y5,n3.2),n7)) λd=>ret (w7 (wI (d.1.1+1),(d.2.1.1,d.1.2.1,d.2.1.2),d.2.2)))))) no)))) no) (opt (MC d) λd=>ret (w7 (wI (d.1.1+1),(d.2.1.1,d.1.2.1,d.2.1.2),d.2.2)))) (ret (ww ((d.1,y4),d.2)))
def nD:=bG (tJ jR) 2000
def vS (kg:vm)(oN:Kk)(ahB:Ml)(fw:zu)(bE:ja)(VZ:vt)(dX:LT c8 jQ)(p6:LT c9 jS)(x:iN.B):Pg vQ:=let n8:=x.2.1.2.2;ae (z9 n8 n8) (opt (dX ((x.1.2, -1,n8,ws n8,0),x.2.1,x.2.2.1,x.2.2.2,x.1.1)) λd=>let n16:=d.1.2;let n7:=d.2.2.2.1;let n2:=n7.2.2.2;let n9:=n2.2.2.2;let y0:=z4 n16.1;ae (decide (n16.1<0)) (ret (4,d.2.2.1,n16.2.1,n7)) (ae (aZ n16.1 d.2.1.2.2) (opt (kg d.2.2.2.2 d.1.1 d.2.2.1) λak=>let n5:=ak.1.2.2.2.2;let bH:=n5.2.2.2;opt (oN n5.2.1 n5.2.2.1 bH.1 (n2.2.2.1 y0) (n9.1 y0) (n9.2.1 y0) ak.2) λaJ=>opt (oN bH.2.1 bH.2.2.1 bH.2.2.2 (n9.2.2.1 y0) (n9.2.2.2.1 y0) (n9.2.2.2.2 y0) aJ.2) λbB=>opt (ahB (n7.2.1 y0) (n7.2.2.1 y0) (n2.1 y0) (n2.2.1 y0)) λcK=>opt (fw ak.1.2.1 ak.1.2.2.1 ak.1.2.2.2.1 n5.1 cK.1 cK.2.1 cK.2.2.1 cK.2.2.2 bB.2) λeU=>opt (p6 (1,d.2.1,eU.2,(n16.2.1,n7),aJ.1,bB.1,eU.1,1073741824,0,0,0)) λd=>let n17:=d.2.1.2.2;let n1:=d.2.2.2;let bo:=n1.1.2;let bk:=n1.2.2.2.2;let n3:=bo.2.2.2.2;let n15:=n3.2.2.2;opt (bE bk.1 bk.2.1 bk.2.2.1 bk.2.2.2 d.2.2.1) λde=>ae (z9 n17 n17) (opt (VZ (d.2.1,de.2,n1.2.1,n1.2.2.1,de.1,bo)) λlG=>let bM:=lG.2.2.2;let n6:=lG.2.1;let n4:=bM.2.2.2;let cm:=n4.2.2.2;let y0:=n6*11+0;ae (true&&z9 y0 (n17*11)&&true) (ae (true&&wr (0+y0) (n1.1.1*11+0)) (ret (0,lG.1,n1.1.1,λj=>bif true&&wl j (0+n6) then lG.2.2.1 j else bo.1 j,λj=>bif true&&wl j (0+n6) then bM.1 j else bo.2.1 j,λj=>bif true&&wl j (0+n6) then bM.2.1 j else bo.2.2.1 j,λj=>bif true&&wl j (0+n6) then bM.2.2.1 j else bo.2.2.2.1 j,λj=>bif true&&wl j (0+n6) then n4.1 j else n3.1 j,λj=>bif true&&wl j (0+n6) then n4.2.1 j else n3.2.1 j,λj=>bif true&&wl j (0+n6) then n4.2.2.1 j else n3.2.2.1 j,λj=>bif true&&wl j (0+n6) then cm.1 j else n15.1 j,λj=>bif true&&wl j (0+n6) then cm.2.1 j else n15.2.1 j,λj=>bif true&&wl j (0+n6) then cm.2.2.1 j else n15.2.2.1 j,λj=>bif true&&wl j (0+n6) then cm.2.2.2 j else n15.2.2.2 j)) no) no) no) no)) no
def iO:=λx=>(vS lz uo CN kV cQ iK nC nD x).val
abbrev iP:=vm×Kk×Ml×zu×bR×ja×nq×vt×(LT c8 jQ)×(LT dK gJ)×(LT c9 jS)
def lB (p:iP):KK:=⟨[Hi p.1,WW p.2.1,agW p.b.1,FZ p.b.2.1,fg p.c.1,oq p.c.2.1,tt p.c.b.1,Fe p.c.b.2.1],⟨[⟨3,(0::1::2::7::8::rg 10 12 (rg 25 74 [])),[]⟩,⟨15,(rg 0 4 (rg 6 8 (rg 19 80 []))),[]⟩],[fU 3 3 c8 Cs p.d.1,fU 15 3 c9 Cv p.d.b],[1,2],[⟨⟨19,(rg 0 4 (rg 6 8 (rg 19 80 []))),[]⟩,fU 19 3 dK Cu p.d.2.1⟩],(some ⟨0,(rg 0 8 (rg 9 90 [])),[]⟩)⟩,3,114⟩
theorem PU (p:iP):LI (lB p) 3 c8 Cs (tH):=λ_ d c K=>by kernel_rfl
theorem PX (p:iP):JI (lB p) 19 dK Cu (tI p.c.1):=λ_ d K=>by kernel_rfl
theorem PY (p:iP):LI (lB p) 15 c9 Cv (tJ p.d.2.1):=λ_ d c K=>by kernel_rfl
theorem V0 (p:iP):D2 (lB p) iN (lf uC) λb=>vS p.1 p.2.1 p.b.1 p.b.2.1 p.c.2.1 p.c.b.2.1 p.d.1 p.d.b b:=λb=>by kernel_rfl
abbrev lC:iP:=(lz,uo,CN,kV,aU,cQ,fy,iK,nC,jR,nD)
theorem V1 [aA]:SC (Fl iO):=sc (kS (k:=lB lC) (.c Ng (.c agP (.c avn (.c La (.c fK (.c qf (.c Cl (.c VN (.nil _))))))))) [3,15] [19] ⟨kL (PU lC),⟨kL (PY lC),trivial⟩⟩ ⟨kJ ⟨19,(rg 0 4 (rg 6 8 (rg 19 80 []))),[]⟩ (PX lC),trivial⟩ (V0 lC))
def kZ:=qa (pr (cu jq abD) (cd wQ λb0=>(c m6 (c oG (c (cl (gs b0.c.1 pK) nil) (cd yd λb4=>(cd rb λb5=>(cd re λb6=>(cd rf λb7=>(cd rj λb8=>(cd rm λb9=>(c nK (cd Ap λBV=>(c (cl (gs b0.e mN) nil) (c (cl (gs b4.b.1 aC) nil) (c (cl (gs b5.b.1 aC) nil) (c (cl (gs b6.b.1 aC) nil) (c (cl (gs b7.b.1 aC) nil) (c (cl (gs b8.b.1 aC) nil) (c (cl (gs b9.b.1 aC) nil) (cl (cl (gs BV.b jJ) nil) nil)))))))))))))))))))))
def Lq:=qe (res (pu Q8 (pl (c (An wQ) (cu fN (cu fN (cu fN (cu fN (cu fN (cu fN (cu fN (cu fN (cu fN (cu fN (cl (An Ap) aKl)))))))))))) nil)))
def Lr:=qe (res (pu Q8 (pr (c (An aRh) (cu fN (cu fN (cu fN (cu fN (cu fN (cu fN (cu fN (cu fN (cu fN (cu fN (cl (An asy) aKl)))))))))))) aQ1)))
abbrev qA:=Lq.B⊕Lr.B
def UU:qA->T:=ls (lf Lq) (lf Lr)
abbrev Iq:=kZ.B->Option qA
def UW (g:Iq):Ct:=(106,FC kZ UU g)
def dB:=qs (st (dp (cu jq (us 3 (cu Oj (us 109 (c (ac aQU) (c ai aQe)))))) λv=>(pl (cd (so aRh) λb0=>(c m7 (c m8 (c (so (cl (gs v.1 pK) nil)) (cd (so yd) λb4=>(cd (so rb) λb5=>(cd (so re) λb6=>(cd (so rf) λb7=>(cd (so rj) λb8=>(cd (so rm) λb9=>(c lO (c (so asy) (c (so (cl (gs b0.d.c.b mN) nil)) (c (so (cl (gs b4.b.1 aC) nil)) (c (so (cl (gs b5.b.1 aC) nil)) (c (so (cl (gs b6.b.1 aC) nil)) (c (so (cl (gs b7.b.1 aC) nil)) (c (so (cl (gs b8.b.1 aC) nil)) (c (so (cl (gs b9.b.1 aC) nil)) (c akL HU)))))))))))))))))))) aXq)))
def akn:=qs (st (pr (cu jq (us 3 (cu Oj (us 109 (c (ac aQU) aXs))))) (pl (c (so aRh) (c m7 (c m8 (c oF (c (so yd) (c (so rb) (c (so re) (c (so rf) (c (so rj) (c (so rm) (c lO (c (so asy) (c vd (c HT (c HT (c HT (c HT (c HT (c HT (c akL HU)))))))))))))))))))) aXq)))
abbrev iX:=((Nat×Int×Int×Bool)×(GJ×Bool×IL×(NI×NI)×Nat×se×Int×lJ×Bool×Bool×Int×Int×Int×Fv×Nat)×(lJ×Int×Int)×NQ×aWR×bY×bY×bY×bY×bY×bY×Lw×uG×aMW×cY×cY×cY×cY×cY×cY×aWP×Nat×NI×NI×NI×NI×NI×NI×NI×NI×NI×NI×NI)
def Of {ρ:Type}(x:iX)(K:AX->St->Option ρ):Option ρ:=(λd=>K (.ex 0) (akn.em (d.1,d.2.1,d.b.1,d.b.2.1,(d.1.1,d.c.1),d.c.2.1,d.c.b.1,d.c.b.2.1,d.d.1,d.d.2.1,d.d.b.1,d.d.b.2.1,d.d.c.1,(d.2.1.d.c.b,d.d.c.2.1),(d.c.2.1.b.1,d.d.c.b.1),(d.c.b.1.b.1,d.d.c.b.2.1),(d.c.b.2.1.b.1,d.e.1),(d.d.1.b.1,d.e.2.1),(d.d.2.1.b.1,d.e.b.1),(d.d.b.1.b.1,d.e.b.2.1),d.e.c))) x
def xX (AQ:nX)(d:dB.B):PL dB iX:=let bo:=d.2.2;let bk:=d.2.1;let n9:=d.1.2;let n4:=bo.2.2;let n8:=n4.1.2.2.2;let n7:=n4.2.2.2;let bH:=n7.2.2;let n2:=bH.2.2;let bM:=n2.2.2;let n5:=bM.2.2.2;let n3:=n5.2.2.2.2.2.2;let n6:=n3.2.2.2.2.2;let n1:=(d.1.1,n9.1,wI (n9.2+1));let y0:=0+z4 n9.2;let y1:=decide (n9.2<n9.1);ae y1 (ae (aZ n9.2 d.1.1) (ae (z9 n2.2.1.2.2 n2.2.1.2.2) (opt (AQ ((bk.2.2.1,n4.1.1 y0,n4.1.2.1 y0,(n4.1.2.2.1 y0,n8.1 y0,n8.2.1 y0),n8.2.2.1 y0,n8.2.2.2.1 y0,n8.2.2.2.2 y0),n2.2.1,bk.2.1,λj=>n3.1 (0+j),λj=>n3.2.1 (0+j),λj=>n3.2.2.1 (0+j),λj=>n3.2.2.2.1 (0+j),λj=>n3.2.2.2.2.1 (0+j),λj=>n6.1 (0+j),λj=>n6.2.1 (0+j),λj=>n6.2.2.1 (0+j),λj=>n6.2.2.2.1 (0+j),λj=>n6.2.2.2.2.1 (0+j),λj=>n6.2.2.2.2.2 (0+j))) λak=>sm ak (λaJ=>ret (w7 (n1,(bk.1,aJ.2.2,bk.2.2),bo.1,bo.2.1,n4.1,n4.2.1,n4.2.2.1,n7.1,n7.2.1,bH.1,bH.2.1,n2.1,aJ.2.1,bM))) (λaJ=>ret (w7 (n1,(bk.1,aJ.1.2,bk.2.2),bo.1,bo.2.1,n4.1,n4.2.1,n4.2.2.1,n7.1,n7.2.1,bH.1,bH.2.1,n2.1,aJ.1.1,bM.1,bM.2.1,bM.2.2.1,n5.1,n5.2.1,n5.2.2.1,n5.2.2.2.1,n5.2.2.2.2.1,aJ.2)))) no) no) (ret (ww ((d.1.1,n9.1,n9.2,y1),d.2)))
def nI:=bG (xX fm) 2000
def uS (wb:Ce)(pf:wF)(aB:bR)(ec:CR)(aO1:amB)(cV:Au)(ck:jw)(ZB:yu)(dX:LT dB iX)(x:kZ.B):Pg qA:=let bM:=x.2.1;let n8:=x.1.2.2.2;let n7:=bM.2.2;let n5:=x.2.2.2.2.2;let n2:=n7.2.2;let n6:=n2.2.2.2.2;let n15:=n6.2.2.2.2.2.2.2.2;let n1:=n5.2.2.2;let cm:=n1.2.2;let n4:=cm.2.2;let n9:=n4.2.2.2.2;let y0:=wI (n2.2.2.2.1+1);opt (wb n8.1 n8.2.1 n8.2.2 bM.2.1) λd=>opt (pf x.1.2.1 d.2) λak=>opt (aB 10529810258 ak.1 30 ak.2) λaJ=>let uM:=wI (d.1-aJ.1);let y1:=wI (aJ.1-d.1);ae (decide (wI (4*if y1>uM then y1 else uM)>aJ.1)) (ret (w7 ((bM.1,aJ.2,n7.1,n7.2.1,n2.1,n2.2.1,n2.2.2.1,0,(0,0,0),n6.2),n4.1))) (opt (ec 2 aJ.2 (cr n6.1.1 [n8.1,n6.1.1]) (cr n6.1.2.1 [n8.2.1,n6.1.2.1]) (cr n6.1.2.2 [n8.2.2,n6.1.2.2]) true) λd=>ae (y0 !=10) (ret (w7 ((bM.1,d.2,n7.1,n7.2.1,n2.1,n2.2.1,n2.2.2.1,y0,d.1,n6.2),n4.1))) (opt (aO1 d.1.1 d.1.2.1 d.1.2.2 d.2) λbB=>opt (cV n7.1 0 4 (cr bB.1.1 [bB.1.2.2.2,bB.1.2.2.1,bB.1.2.1,bB.1.1]) false) λcK=>opt (ck n7.2.1.1 n7.2.1.2 0 4 bB.2 bM.1.2.2.2.2.2.2.2.1 false) λeU=>ae (z9 n4.1.2.2 n4.1.2.2) (opt (ZB ((cK,x.1.1),n4.1,eU.2,n9.2.2.2.2)) λde=>let bk:=de.2.2.2;let n3:=bk.2.2.2;let bo:=n3.2.2.2;ae (z9 n2.1 n2.1) (ae (z9 n15 n15) (ae (z9 n5.1.2.2.1 n5.1.2.2.1) (ae (z9 n5.2.1.2.2.1 n5.2.1.2.2.1) (ae (z9 n5.2.2.1.2.2.1 n5.2.2.1.2.2.1) (ae (z9 n1.1.2.2.1 n1.1.2.2.1) (ae (z9 n1.2.1.2.2.1 n1.2.1.2.2.1) (ae (z9 cm.1.2.2.1 cm.1.2.2.1) (opt (dX ((n2.1,ws n2.1,0),(bM.1,de.1.2,cK,eU.1,n2.1,n2.2.1,y0,d.1,n6.2.2),x.2.2.1,x.2.2.2.1,x.2.2.2.2.1,n5.1,n5.2.1,n5.2.2.1,n1.1,n1.2.1,cm.1,cm.2.1,(de.1.1.1,de.1.1.2,1),n4.2.1,n4.2.2.1,n4.2.2.2.1,n9.1,n9.2.1,n9.2.2.1,n9.2.2.2.1,(n4.1.2.2,n9.2.2.2.2),1,λj=>bif z9 j 0 then de.2.1 else de.2.1,λj=>bif z9 j 0 then de.2.2.1 else de.2.2.1,λj=>bif z9 j 0 then bk.1 else bk.1,λj=>bif z9 j 0 then bk.2.1 else bk.2.1,λj=>bif z9 j 0 then bk.2.2.1 else bk.2.2.1,λj=>bif z9 j 0 then n3.1 else n3.1,λj=>bif z9 j 0 then n3.2.1 else n3.2.1,λj=>bif z9 j 0 then n3.2.2.1 else n3.2.2.1,λj=>bif z9 j 0 then bo.1 else bo.1,λj=>bif z9 j 0 then bo.2.1 else bo.2.1,λj=>bif z9 j 0 then bo.2.2 else bo.2.2)) λd=>let bH:=d.2.2.2.2.2.2.2.2.2.2.2.2;ret (ww ((d.2.1,bH.1),bH.2.2.2.2.2.2.2.2.2))) no) no) no) no) no) no) no) no) no))
def k9:=λx=>(uS o7 ju aU kc zw fk cJ eK nI x).val
abbrev Be:=Ce×wF×bR×CR×amB×Au×jw×yu×nX×(LT dB iX)
def Ir (p:Be):KK:=⟨[Ro p.1,G9 p.2.1,fg p.b.1,Kn p.b.2.1,aAG p.c.1,Em p.c.2.1,BD p.c.b.1,HD p.c.b.2.1,AJ p.d.1],⟨[⟨15,(1::2::3::rg 5 109 (rg 117 15 [])),[(1,[])]⟩],[fU 15 20 dB Of p.d.2],[11],[],(some ⟨0,(rg 0 132 []),[]⟩)⟩,20,106⟩
theorem ah5 (p:Be):LI (Ir p) 15 dB Of (xX p.d.1):=λ_ d c K=>by kernel_rfl
theorem apM (p:Be):D2 (Ir p) kZ UU λb=>uS p.1 p.2.1 p.b.1 p.b.2.1 p.c.1 p.c.2.1 p.c.b.1 p.c.b.2.1 p.d.2 b:=λb=>by kernel_rfl
abbrev Is:Be:=(o7,ju,aU,kc,zw,fk,cJ,eK,fm,nI)
theorem apN [aA]:SC (UW k9):=sc (kS (k:=Ir Is) (.c aag (.c O1 (.c fK (.c OV (.c aOv (.c IM (.c F3 (.c Zs (.c I8 (.nil _)))))))))) [15] [] ⟨kL (ah5 Is),trivial⟩ trivial (apM Is))
def ajT:=qa (pl HR nil)
def UX:=qe aD7
def It:=qe aYn
abbrev yW:=UX.B⊕It.B
def afg:yW->T:=ls (lf UX) (lf It)
def ajU:yW->T:=ls (λ_=>.fail) (lf It)
abbrev Ui:=Int->Int->Int->Option yW
def ajV (g:Ui):Ct:=(42,FC ajT ajU (λb=>g b.1 b.2.1 b.b))
def ajW (cO:wg)(fx:WC)(av:cD)(eP:K6)(gZ:Rm)(vn:agI)(aE:cN)(x0:Int)(x1:Int)(x2:Int):Pg yW:=opt (cO x0 x1 x2) λd=>ae (!d) (ret (w7 ())) (ae (decide (x0>850000000)) (ret (w7 ())) (ae (decide (x0< -850000000)) (ret (w7 ())) (opt (av x0 3373259426 1800000000 false) λd=>opt (eP d.1 d.2) λak=>opt (gZ d.1 ak.2) λd=>opt (fx ak.1 ak.1 d.2) λaJ=>opt (fx 7188036 aJ.1 aJ.2) λbB=>let y0:=wI (1073741824-bB.1);opt (vn y0 bB.2) λcK=>opt (aE 6531212288 cK.1 30 cK.2) λeU=>opt (fx 6531212288 1066553788 eU.2) λde=>opt (fx y0 cK.1 de.2) λlG=>opt (aE de.1 lG.1 30 lG.2) λtP=>opt (av tP.1 3373259426 1800000000 tP.2) λp8=>opt (fx eU.1 d.1 p8.2) λd=>opt (av d.1 3373259426 1800000000 d.2) λd=>ret (ww (x0,x1,x2,p8.1,d.1)))))
def Eb:=λx0 x1 x2=>(ajW gM wV aX ni qG CL bh x0 x1 x2).val
theorem aC9:∀cO fx av eP gZ vn aE,D0 [Ay cO,WD fx,dt av,K7 eP,Rn gZ,agJ vn,gL aE] 42 ajT afg λb=>ajW cO fx av eP gZ vn aE b.1 b.2.1 b.b:=λ_ _ _ _ _ _ _ b=>by kernel_rfl
theorem aDa [aA]:SC (ajV Eb):=sc (FK (R:=afg) (R':=ajU) (λd r h=>by rcases d with d|d<;>first|exact h|(have h:(none:Option pP)=some r:=h;cases h))<|k0 (.c Es (.c alw (.c dI (.c Rl (.c aae (.c avf (.c ix (.nil _)))))))) (aC9 gM wV aX ni qG CL bh))
def ajX:=qa (pl jo nil)
def UY:=qe aD7
def Iu:=qe (res (pu (sf (cu (rc (cp 0 10)) akE)) (pu nil (cl aRb nil))))
abbrev JZ:=UY.B⊕Iu.B
def afh:JZ->T:=ls (lf UY) (lf Iu)
def ajY:JZ->T:=ls (λ_=>.fail) (lf Iu)
abbrev Uj:=Int->Option JZ
def ajZ (g:Uj):Ct:=(51,FC ajX ajY (λb=>g b))
def Uk (x0:Int):Pg JZ:=ae (decide (x0<1000)) (ret (w7 ())) (ae (decide (x0>100000)) (ret (w7 ())) (ret (ww x0)))
def Ec:=λx0=>(Uk x0).val
theorem aDb:D0 [] 51 ajX afh λb=>Uk b:=λb=>by kernel_rfl
theorem aDc [aA]:SC (ajZ Ec):=sc (FK (R:=afh) (R':=ajY) (λd r h=>by rcases d with d|d<;>first|exact h|(have h:(none:Option pP)=some r:=h;cases h))<|k0 (.nil _) aDb)
def afi:=qa (dp aXr λv=>(cl (cl (gs v.2.1 oC) nil) nil))
def Sn:=qe (res (pu aXH (pu adP nil)))
def GD:=qe (res (pu (sf (cu (rc (cp 1 37)) akE)) (pu adP (cl aKt nil))))
abbrev B3:=Sn.B⊕GD.B
def abj:B3->T:=ls (lf Sn) (lf GD)
def afj:B3->T:=ls (λ_=>.fail) (lf GD)
abbrev PZ:=Int->Nat->NI->Bool->Option B3
def afk (g:PZ):Ct:=(52,vX 1 [.i .i64] (FC afi afj (λb=>g b.1.1 b.1.2.1 b.2 b.1.b)))
def ld:=qs (st (dp (c ai (us 1 (xs 1 (us 3 (cu (app 1 37) (us 15 (c J4 (c ai aW0)))))))) λv=>(pl (c (so (cl (gs v.2.1.1 oC) nil)) aYh) nil)))
def Og:=qs (st (pu (us 4 (cu (ac aD5) (cu (ac axl) (us 40 nil)))) (pl abC nil)))
def ako:=qs (st (pr (c ai (us 1 (xs 1 (us 3 (cu (app 1 37) (us 15 (c J4 (c ai aXd)))))))) (pl (c HS aYh) nil)))
abbrev xP:=Og.B⊕((Int×(Nat×Bool)×Int×Int×Bool)×NI×NI×NI×(Nat->Bool)×NI×NI×NI)
def Y5 {ρ:Type}(x:xP)(K:AX->St->Option ρ):Option ρ:=(Sum.elim (λd=>K .ret (Og.em d)) (λd=>K (.ex 0) (ako.em (d.1,(d.1.2.1.1,d.2.1),d.b)))) x
def KO (d:ld.B):PL ld xP:=let n4:=d.2.1;let n2:=d.2.2.2;let n1:=d.1.2;let n3:=n1.2.2;let y0:=z4 n3;let y1:=0+y0*6+6;let y2:=decide (n3<n1.2.1);ae y2 (ae (aZ n3 n1.1.1) (ae (decide (n4 y0<1)) (ret (ww (w7 (n1.1.1,n4)))) (ae (decide (n4 y0>1099511627776)) (ret (ww (w7 (n1.1.1,n4)))) (ae (aZ n3 6) (ae (wr y1 36&&wr y1 37) (ret (w7 ((d.1.1,n1.1,n1.2.1,wI (n3+1)),n4,λj=>bif z9 j y0 then 0 else d.2.2.1 j,λj=>bif z9 j y0 then 0 else n2.1 j,λj=>bif z9 j y0 then false else n2.2.1 j,λj=>bif z9 j y0 then n3 else n2.2.2.1 j,λj=>bif z9 j y0 then n4 y0 else n2.2.2.2.1 j,λj=>bif z9 j y0 then d.1.1 else n2.2.2.2.2 j))) no) no))) no) (ret (ww (ww ((d.1.1,n1.1,n1.2.1,n3,y2),d.2))))
def KP:=bG (KO) 2000
def P1 (dX:LT ld xP)(x0:Int)(x1:Nat)(x2:Nat->Int)(w0:Bool):Pg B3:=ae (decide (x0<0)) (ret (w7 ())) (ae (decide (x0>100)) (ret (w7 ())) (ae (ws x1 !=6) (ret (w7 ())) (ae (z9 x1 x1) (opt (dX ((x0,(x1,w0),ws x1,0),x2,λx=>0,λx=>0,λx=>false,λx=>0,λx=>0,λx=>0)) λx=>sum x (λd=>ret (w7 ())) λd=>ret (ww d.2.2)) no)))
def B4:=λx0 x1 x2 w0=>(P1 KP x0 x1 x2 w0).val
abbrev Hp:=(LT ld xP)
def P3 (p:Hp):KK:=⟨[],⟨[⟨5,(1::3::4::5::rg 7 15 (rg 25 7 (rg 34 12 [32,33]))),[]⟩],[fU 5 1 ld Y5 p],[],[],(some ⟨0,(rg 0 4 (rg 6 40 [])),[]⟩)⟩,1,52⟩
theorem apO (p:Hp):LI (P3 p) 5 ld Y5 (KO):=λ_ d c K=>by kernel_rfl
theorem ay8 (p:Hp):D2 (P3 p) afi abj λb=>P1 p b.1.1 b.1.2.1 b.2 b.1.b:=λb=>by kernel_rfl
abbrev P4:Hp:=KP
theorem ay9 [aA]:SC (afk B4):=sc (Sound.nil 1 [.i .i64]<|FK (R:=abj) (R':=afj) (λd r h=>by rcases d with d|d<;>first|exact h|(have h:(none:Option pP)=some r:=h;cases h))<|kS (k:=P3 P4) (.nil _) [5] [] ⟨kL (apO P4),trivial⟩ trivial (ay8 P4))
def afl:=qa (pl Cw nil)
def So:=qe aD7
def Sp:=qe (res (pu (sf (cu (rc (cp 0 3)) akE)) (pu nil (c (c gi (cl gi (cu (gc (fO (pu DG (pu wO (pu Lx (pu NR fR)))))) nil))) aYo))))
abbrev Hq:=So.B⊕((Int×Int)×NI)
def abk:Hq->T:=ls (lf So) (λd=>lf Sp (d.1,d.2,d.2,d.2,d.2,d.2,d.2,d.2,d.2,d.2,d.2,d.2))
def afm:Hq->T:=ls (λ_=>.fail) (λd=>lf Sp (d.1,d.2,d.2,d.2,d.2,d.2,d.2,d.2,d.2,d.2,d.2,d.2))
abbrev P5:=Int->Int->Option Hq
def afo (g:P5):Ct:=(53,FC afl afm (λb=>g b.1 b.2))
def P6 (x0:Int)(x1:Int):Pg Hq:=ae (decide (x0<1)) (ret (w7 ())) (ae (decide (x0>64)) (ret (w7 ())) (ae (decide (x1<1)) (ret (w7 ())) (ae (decide (x1>1073741824)) (ret (w7 ())) (ret (ww ((x0,x1),λx=>0))))))
def B5:=λx0 x1=>(P6 x0 x1).val
theorem aza:D0 [] 53 afl abk λb=>P6 b.1 b.2:=λb=>by kernel_rfl
theorem azb [aA]:SC (afo B5):=sc (FK (R:=abk) (R':=afm) (λd r h=>by rcases d with d|d<;>first|exact h|(have h:(none:Option pP)=some r:=h;cases h))<|k0 (.nil _) aza)
def aob:=qa (pl jo nil)
def Y6:=qe aD7
def Y7:=qe (res (pu (sf (cu (rc (cp 0 8)) akE)) (pu nil (c (cu aP (cu aP (cu aP (cu aP (cu aP (cl gi (cu (gc (fO (pu DG (pu wO (pu Lx (pu eI fR)))))) akF))))))) (cl asx nil)))))
abbrev Nz:=Y6.B⊕(Int×NI)
def aj0:Nz->T:=ls (lf Y6) (λd=>lf Y7 (d.1,d.2,d.2,d.2,d.2,d.2,d.2,d.2,d.2,d.2))
def aoc:Nz->T:=ls (λ_=>.fail) (λd=>lf Y7 (d.1,d.2,d.2,d.2,d.2,d.2,d.2,d.2,d.2,d.2))
abbrev Y8:=Int->Option Nz
def aod (g:Y8):Ct:=(54,FC aob aoc (λb=>g b))
def Y9 (x0:Int):Pg Nz:=ae (decide (x0<1)) (ret (w7 ())) (ae (decide (x0>64)) (ret (w7 ())) (ret (ww (x0,λx=>0))))
def GG:=λx0=>(Y9 x0).val
theorem aGJ:D0 [] 54 aob aj0 λb=>Y9 b:=λb=>by kernel_rfl
theorem aGK [aA]:SC (aod GG):=sc (FK (R:=aj0) (R':=aoc) (λd r h=>by rcases d with d|d<;>first|exact h|(have h:(none:Option pP)=some r:=h;cases h))<|k0 (.nil _) aGJ)
def KQ:=qa (pl (cl (aa rn) nil) nil)
def aoe:=qe (res (pu (sf (cu (rc aD5) (cu (rc aXa) nil))) (pu nil nil)))
def aGL:=qe (res (pu (sf (cu (rc (cp 0 434)) akE)) (pu nil (c (c gi (c gi (c gi (c gi (c gi (c gi (c gi (c gi (c gi (c gi (c gi (c gi (c gi (c gi (c gi (c gi (c gK (c gK (c gi (c gi (c gi (c gi (c gi (c gi (c gi (c gi (c gb (c gK (c aJY (cl gK (cu akz (cu akA (cu (gc (fO (pu rq7 (pu wO (pu Lx (pu Bi fR)))))) (cu (gp 4 8) (cu aS6 (cu aS7 (cu aIE (cu aIF (cu aIG (cu auq (cu aP (cu aP (cu J5 (cu J5 (cu aur (cu J5 (cu aP (cu aP (cu aP (cu aP (cu J5 (cu J5 (cu J5 (cu aP (cu aP (cu aP (cu asr (cu aP (cu aP (cu aP (cu aP (cu aP (cu aP (cu aP (cu aP (cu aP (cu (gc (fO (pu (nat 12) (pu wO (pu Lx (pu (nat 10) fR)))))) nil))))))))))))))))))))))))))))))))))))))))))))))))))))))))))))))))))) (c gN (c aRb (c aYd (c (cu aP (cu aP (cu aP (cu aP (cu aP (cl gi (cu (gc (fO (pu aup (pu wO (pu Lx (pu eI fR)))))) akF))))))) (c aYH (c aYI (c aYJ (c aYK (c aYL (c aKt (c (c gi (cl gi (cu (gc (fO (pu aIw (pu wO (pu Lx (pu NR fR)))))) nil))) aYR)))))))))))))))
abbrev P7:=aoe.B⊕a3d
def aGM:P7->T:=ls (lf aoe) (λd=>lf aGL (d.1,d.2.1,d.b.1,(d.b.2.1,d.b.2.1,d.b.2.1,d.b.2.1,d.b.2.1,d.b.2.1,d.b.2.1,d.b.2.1),d.c.1,d.c.2.1,d.c.b.1,d.c.b.2.1,d.d.1,d.d.2.1,d.d.b.1,d.d.b.2.1,(d.b.2.1,d.b.2.1,d.b.2.1,d.b.2.1,d.b.2.1,d.b.2.1,d.b.2.1,d.b.2.1,d.b.2.1,d.b.2.1),(d.d.c.1,d.d.c.1,d.d.c.1,d.d.c.1,d.d.c.1,d.d.c.1,d.d.c.1,d.d.c.1,d.d.c.1),(d.d.c.2.1,d.d.c.2.1,d.d.c.2.1,d.d.c.2.1,d.d.c.2.1,d.d.c.2.1,d.d.c.2.1,d.d.c.2.1,d.d.c.2.1),(d.d.c.b.1,d.d.c.b.1,d.d.c.b.1,d.d.c.b.1,d.d.c.b.1,d.d.c.b.1,d.d.c.b.1,d.d.c.b.1,d.d.c.b.1),(d.d.c.b.2.1,d.d.c.b.2.1,d.d.c.b.2.1,d.d.c.b.2.1,d.d.c.b.2.1,d.d.c.b.2.1,d.d.c.b.2.1,d.d.c.b.2.1,d.d.c.b.2.1),(d.e.1,d.e.1,d.e.1,d.e.1,d.e.1,d.e.1,d.e.1,d.e.1,d.e.1),(d.e.2.1,d.e.2.1,d.e.2.1,d.e.2.1,d.e.2.1,d.e.2.1,d.e.2.1,d.e.2.1,d.e.2.1),d.e.b,d.e.b,d.e.b,d.e.b,d.e.b,d.e.b,d.e.b,d.e.b,d.e.b,d.e.b,d.e.b))
abbrev aGN:=KQ.B->Option P7
def at7 (g:aGN):Ct:=(20,FC KQ aGM g)
def Y' (aof:RL)(cA:mU)(aR:fM)(aSg:atg)(aDd:Ui)(aDe:Uj)(azc:PZ)(azd:P5)(B6:Y8)(x:KQ.B):Pg P7:=let n3:=x.2.2;let n5:=n3.2.2.1.2;let n1:=n3.2.2.2;let n6:=n1.2.2;let n4:=n1.1.2.2;let n2:=n6.2.2.2.2;let n7:=n2.2.2;opt (aof x) λd=>ae (!d) (ret (w7 ())) (opt cA λd=>opt (aR (λx=>0) false) λd=>opt (aSg 24 d.2 n6.1 false) λak=>opt (aDd n7.1 n7.2.1 n7.2.2) λaJ=>sm aJ (λd=>no) (λbB=>opt (aDe x.1) λcK=>sm cK (λd=>no) (λeU=>opt (azc n3.2.1 6 (cr n1.1.1 [n4.2.2.2,n4.2.2.1,n4.2.1,n4.1,n1.1.2.1,n1.1.1]) false) λde=>sm de (λd=>no) (λlG=>opt (azd n2.2.1 n2.1) λtP=>sm tP (λd=>no) (λp8=>opt (B6 n3.1) λmM=>sm mM (λd=>no) (λxZ=>opt (B6 n3.1) λLc=>sm Lc (λd=>no) (λMK=>opt (B6 n3.1) λaGq=>sm aGq (λd=>no) (λaaP=>opt (B6 n3.1) λaez=>sm aez (λd=>no) (λaaQ=>opt (B6 n3.1) λaGr=>sm aGr (λd=>no) (λam8=>opt (B6 n3.1) λaro=>sm aro (λd=>no) (λam9=>ret (ww ((x.1,x.2.1,n3.1,n3.2.1,n3.2.2.1.1,n5.1,n5.2.1,n5.2.2.1,n5.2.2.2.1,n5.2.2.2.2,n1.1.1,n1.1.2.1,n4.1,n4.2.1,n4.2.2.1,n4.2.2.2,n1.2.1,n6.1,n6.2.1,n6.2.2.1,n6.2.2.2.1,n2.1,n2.2.1,n7.1,n7.2.1,n7.2.2,ak.2,d.1,ak.1),bB,eU,λx=>0,xZ.1,MK.1,aaP.1,aaQ.1,am8.1,am9.1,lG,p8.1,xZ.2,MK.2,aaP.2,aaQ.2,am8.2,am9.2,p8.2)))))))))))))
def AR:=λx=>(Y' pw eT bW Km Eb Ec B4 B5 GG x).val
abbrev at8:=RL×mU×fM×atg×Ui×Uj×PZ×P5×Y8
def aGO (p:at8):KK:=⟨[anU p.1,rO p.2.1,jG p.b.1,aFO p.b.2.1,ajV p.c.1,ajZ p.c.2.1,afk p.c.b.1,afo p.c.b.2.1,aod p.d],⟨[⟨11,(0::2::3::rg 5 65 (rg 71 15 [])),[]⟩],[],[],[],(some ⟨0,(0::1::rg 4 82 []),[]⟩)⟩,0,20⟩
theorem aSh (p:at8):D2 (aGO p) KQ aGM λb=>Y' p.1 p.2.1 p.b.1 p.b.2.1 p.c.1 p.c.2.1 p.c.b.1 p.c.b.2.1 p.d b:=λb=>by kernel_rfl
abbrev aGP:at8:=(pw,eT,bW,Km,Eb,Ec,B4,B5,GG)
theorem aGQ [aA]:SC (at7 AR):=sc (kS (k:=aGO aGP) (.c aBD (.c wH (.c kO (.c aRY (.c aDa (.c aDc (.c ay9 (.c azb (.c aGK (.nil _)))))))))) [11] [] ⟨kN,trivial⟩ trivial (aSh aGP))
end Go.Proofs.YtldgljclcgaibaaGreat
namespace Go.Proofs.YtldgljclcgaibaaGreat
open Go.Ab Go.Ab.Pg
theorem aDG {x:Int}(h0: -1152921504606846976<=x)(h1:x<=1152921504606846976)(b:Bool):rX x b=some x:=by
 have e:xL x (-1152921504606846976) 1152921504606846976 b=some (ww x):=by
  simp only[xL,KN,bN,bP];rw[cC (show ¬(-1152921504606846976:Int)>1152921504606846976 by omega),cC (show ¬x< -1152921504606846976 by omega),cC (show ¬x>1152921504606846976 by omega)];rfl
 simp only[rX,PO,bZ,e,bC,aDD,j8,bP]
theorem a2o {x:Int}(h0: -1152921504606846976<=x)(h1:x<=1152921504606846976)(n b:Bool):BY x true n b=some (ww x):=by
 simp only[BY,PS,bN,bZ,bP,HW,bx,aDG h0 h1,bC]
theorem aGR {a b d:Int}(a0: -1152921504606846976<=a)(a1:a<=1152921504606846976)(b0: -1152921504606846976<=b)(b1:b<=1152921504606846976)(d0: -1152921504606846976<=d)(d1:d<=1152921504606846976)(nz:d≠0)
  (q0: -1152921504606846976<=He (a*b) d)(q1:He (a*b) d<=1152921504606846976)(h:Bool):kY a b d h=some (He (a*b) d):=by
 obtain⟨x,y,e,o,v⟩:=BG a b (by omega) (by omega) (by omega) (by omega);have e2:=aJr x y d o (by omega) (by omega) nz;rw[v,if_pos ⟨by omega,by omega⟩] at e2;have z:(d==0)=false:=by rw[afU];exact nz
 simp only[kY,Ip,JX,Uf,bZ,bN,bP,aDG a0 a1,aDG b0 b1,aDG d0 d1,bC,e,z,bx,e2,a2o q0 q1,aDD,j8]
theorem a2p {n d m:Int}(h0:0<=n)(hd:0<d)(hm:0<=m)(h:n<=m*d):0<=qdq n d/\qdq n d<=m:=by
 have a:=asH n d;have b:=Wd n (show d≠0 by omega);have c:=SP n hd;have q0:0<=n/d:=Ez h0 (by omega)
 have q1:n/d<=m:=by
  refine Int.le_of_lt_add_one (abK hd ?_);rw[ZN,Int.one_mul];omega
 unfold qdq;split
 .omega
 .by_cases e:n/d=m
  .exfalso
   rw[e,yg d m] at a;omega
  .omega
theorem aT0 {n d m:Int}(hd:0<d)(hm:0<=m)(h0: -(m*d)<=n)(h1:n<=m*d): -m<=He n d/\He n d<=m:=by
 have e:jK d=d:=by unfold jK;split<;>omega
 have g:jK n<=m*d:=by unfold jK;split<;>omega
 obtain⟨p,q⟩:=a2p (aLB n) hd hm g;unfold He;rw[e];split<;>omega
theorem a0k {a x d m:Int}(ha0: -m<=a)(ha1:a<=m)(x0:0<=x)(x1:x<=d): -(m*d)<=a*x/\a*x<=m*d:=by
 have m0:0<=m:=by omega
 have h1:a*x<=m*x:=ZM ha1 x0;have h2:m*x<=m*d:=Int.mul_le_mul_of_nonneg_left x1 m0;have h3: -m*x<=a*x:=ZM ha0 x0;rw[Int.neg_mul] at h3;omega
theorem aJA (a b x d:Int)(h:Bool)(m:Int)(a0: -m<=a)(a1:a<=m)(b0: -m<=b)(b1:b<=m)(x0:0<=x)(x1:x<=d)(d0:0<d)(d1:d<=1000000000)(m1:m<=100000000000000):
  Ok (gR a b x d h) (λr:Int=> -(3*m)<=r/\r<=3*m):=by
 have e:wI (b-a)=b-a:=eS;obtain⟨p0,p1⟩:=a0k (a:=b-a) (m:=2*m) (by omega) (by omega) x0 x1;obtain⟨q0,q1⟩:=aT0 d0 (show 0<=2*m by omega) p0 p1;have k:=aGR (a:=b-a) (b:=x) (d:=d) (by omega) (by omega) (by omega) (by omega) (by omega) (by omega) (by omega) (by omega) (by omega) h;have e2:wI (a+He ((b-a)*x) d)=a+He ((b-a)*x) d:=eS;unfold gR yE;show PQ _ _;rw[e,k,cz,aw,e2];omega
theorem aVu (c0 c1 c2 c3 c4 c5 c6 i x:Int)(h:Bool)(g:∀c∈[c0,c1,c2,c3,c4,c5,c6], -9000<=c/\c<=9000)(i0:0<=i)(i1:i<=5)(x0:0<=x)(x1:x<=600000000):
  Ok (mZ c0 c1 c2 c3 c4 c5 c6 i x h) (λr:Int=> -28991029248000<=r/\r<=28991029248000):=by
 have w:∀c∈[c0,c1,c2,c3,c4,c5,c6],wI (c*1073741824)=c*1073741824:=λc hc=>eS (by have:=g c hc;omega) (by have:=g c hc;omega)
 have z:wI (i+1)=i+1:=bf i0 (by omega);simp only[abN,List.not_mem_nil,or_false,forall_eq_or_imp,forall_eq] at w g;obtain⟨w0,w1,w2,w3,w4,w5,w6⟩:=w;obtain⟨g0,g1,g2,g3,g4,g5,g6⟩:=g;unfold mZ yF;show PQ _ _;rw[w0,w1,w2,w3,w4,w5,w6,z];have r1:aZ i 7=true:=by rw[bp];omega
 have r2:aZ (i+1) 7=true:=by rw[bp];omega
 dsimp only;rw[r1,r2]
 repeat' (first
  |rw[aD]
  |(with_reducible refine ax (aJA _ _ _ _ _ 9663676416000 ?_ ?_ ?_ ?_ ?_ ?_ ?_ ?_ ?_) λr _ hr=> ?_)
  |(rw[aM];refine⟨λc=> ?_,λc=> ?_⟩))
 all_goals first
  |(rw[aw];omega)
  |omega
theorem aO2 (x0 x1 x2:Int)(h:Bool):bA (pC x0 x1 x2 h):=by
 unfold pC BZ;refine aK ?_;dsimp only;rw[bI];intro d hd;rw[aM];refine⟨λ_=>by rw[aw];trivial,λk=> ?_⟩;rw[aEr] at k;obtain⟨a0,a1,b0,b1⟩:=arP hd k;clear hd k
 have ey0:wI (x1+1800000000)=x1+1800000000:=eS;have ey1:wI (x0+900000000)=x0+900000000:=eS;rw[ey0,ey1];have t0:ul (x0+900000000) 450000000=(x0+900000000)/450000000:=azD (by omega);have t1:ul (x1+1800000000) 600000000=(x1+1800000000)/600000000:=azD (by omega);rw[t0,t1,eS (n:=(x0+900000000)/450000000) (by omega) (by omega),eS (n:=(x1+1800000000)/600000000) (by omega) (by omega)];generalize hi:(if (3:Int)<(x0+900000000)/450000000 then(3:Int) else(x0+900000000)/450000000)=i
 generalize hj:(if (5:Int)<(x1+1800000000)/600000000 then(5:Int) else(x1+1800000000)/600000000)=j
 have hi':0<=i/\i<=3/\0<=x0+900000000-i*450000000/\x0+900000000-i*450000000<=450000000:=by
  split at hi<;>omega
 have hj':0<=j/\j<=5/\0<=x1+1800000000-j*600000000/\x1+1800000000-j*600000000<=600000000:=by
  split at hj<;>omega
 clear hi hj t0 t1 ey0 ey1
 obtain⟨i0,i1,u0,u1⟩:=hi';obtain⟨j0,j1,v0,v1⟩:=hj';rw[eS (n:=i*450000000) (by omega) (by omega),eS (n:=j*600000000) (by omega) (by omega),eS (n:=x0+900000000-i*450000000) (by omega) (by omega),eS (n:=x1+1800000000-j*600000000) (by omega) (by omega),bf i0 (by omega)];have r1:aZ i 5=true:=by rw[bp];omega
 have r2:aZ (i+1) 5=true:=by rw[bp];omega
 rw[r1,r2];generalize x0+900000000-i*450000000=u at u0 u1 ⊢
 generalize x1+1800000000-j*600000000=v at v0 v1 ⊢
 have fin:∀d:Int, -86973087744000<=d->d<=86973087744000->Ok (kY d 3373259426 19327352832000 h) (λ_=>True):=by
  intro d d0 d1;obtain⟨q0,q1⟩:=aT0 (n:=d*3373259426) (d:=19327352832000) (m:=1000000000000000) (by omega) (by omega) (by omega) (by omega);rw[aGR (by omega) (by omega) (by omega) (by omega) (by omega) (by omega) (by omega) (by omega) (by omega) h];exact⟨_,rfl,trivial⟩
 rw[bI];intro _ _
 repeat' (first
  |rw[aD]
  |(with_reducible refine ax (aVu _ _ _ _ _ _ _ _ _ _ (by decide) j0 j1 v0 v1) λr _ hr=> ?_)
  |(with_reducible refine ax (aJA _ _ _ _ _ 28991029248000 ?_ ?_ ?_ ?_ u0 u1 (by omega) (by omega) (by omega)) λs _ hs=> ?_)
  |(with_reducible refine ax (fin _ ?_ ?_) λt _ _=> ?_)
  |(rw[aM];refine⟨λc=> ?_,λc=> ?_⟩))
 all_goals first
  |(rw[aw];trivial)
  |omega
instance aT1 (x:kF.B):bA (kG x):=by
 unfold kG uB;try dsimp only
 have t:=aO2;exact aK (by rw[bI];intro _ _;rw[aw];trivial)
theorem aSi (x:ml.B):Ok (jP x) (λr:z5=>r.1.d.c.b.2.2=x.2.1.d.c.b.2.2/\r.1.c.1=x.2.1.c.1/\r.1.d.c.2.1=x.2.1.d.c.2.1):=by
 unfold jP z6;try dsimp only
 show PQ _ _;simp only[aS]
 repeat' (first
  |rw[aD]
  |(with_reducible refine ax (ae5 _ ?_) λe _ he=> ?_)
  |(with_reducible refine ax (bA.Ok (aO2 _ _ _ _) (Q:=λ_=>True) λ_ _=>trivial) λ_ _ _=> ?_)
  |(rw[um];refine⟨λ_ _=> ?_,λ_ _=> ?_⟩)
  |(rw[bI];intro _ _)
  |(rw[aM];refine⟨λc=> ?_,λc=> ?_⟩))
 all_goals first
  |(rw[aw];exact he.2)
  |(rw[aw];exact⟨rfl,rfl,rfl⟩)
  |(dsimp only;omega)
theorem a2q (x:ql.B)(k:aZ x.1.1 6=true)(h:x.2.1.d.c.b.2.2<=90000):Ok (nA x) (λr:z7=>match r with|.inl e=>e.1.d.c.b.2.2<=x.2.1.d.c.b.2.2+3/\e.1.c.1=x.2.1.c.1/\e.1.d.c.2.1=x.2.1.d.c.2.1|.inr e=>e.1.1.d.c.b.2.2<=x.2.1.d.c.b.2.2+3/\e.1.1.c.1=x.2.1.c.1/\e.1.1.d.c.2.1=x.2.1.d.c.2.1):=by
 have hi:aZ x.1.1 6=true:=k;unfold nA Fk;try dsimp only
 show PQ _ _;simp only[aS,hi]
 repeat' (first
  |rw[aD]
  |(with_reducible refine ax (a0j _ ?_) λe _ he=> ?_)
  |(with_reducible refine ax (aGI _ ?_) λe _ he=> ?_)
  |(with_reducible refine ax (aL2 _) λe _ he=> ?_)
  |(with_reducible refine ax (aSi _) λe _ he=> ?_)
  |(with_reducible refine ax (aL3 _) λe _ he=> ?_)
  |(with_reducible refine ax (a0i _) λe _ he=> ?_)
  |(rw[um];refine⟨λe0 e1=> ?_,λe0 e1=> ?_⟩)
  |(rw[bI];intro _ _)
  |(rw[aM];refine⟨λc=> ?_,λc=> ?_⟩))
 all_goals first
  |(dsimp only;omega)
  |(rw[aw];exact⟨dx (Nat.le_of_eq he.1) (Nat.le_add_right _ _),he.2⟩)
  |(rw[aw];exact⟨Nat.le_add_right _ _,rfl,rfl⟩)
  |(rw[e1] at he;rw[aw];exact he)
  |(rw[e1] at he;rw[aw];exact⟨dx he.1 (Nat.add_le_add_left (by decide) _),he.2⟩)
  |skip
theorem aMa (n:Int):∀(d:vL.B) (hd:0<=d.1.2.2.2.2/\d.1.2.2.2.2<=3/\d.1.2.1=n/\d.1.2.2.1=n/\0<=n/\n<=3),Ok (aba d) (λx:Sb=>x.1.2.2.1=n):=
 bT (λd:vL.B=>z4 (3-d.1.2.2.2.2)) (λd hd=>by
  have hw:wI (d.1.2.2.2.2+1)=d.1.2.2.2.2+1:=bf;obtain⟨c0,c1,i0,i1,i2,i3⟩:=hd;have w0:wI (0+d.1.2.1)=d.1.2.1:=by rw[akR];exact eS (by omega) (by omega)
  have w1:wI (10+d.1.2.2.2.2)=10+d.1.2.2.2.2:=eS;unfold an4;dsimp only;rw[w0,w1,hw];rw[aM];refine⟨λh=> ?_,λ_=>by rw[aw];exact i1⟩;have h:=dh h;have r0:aZ d.1.2.2.2.2 3=true:=by rw[bp];omega
  have r1:aZ d.1.2.1 24=true:=by rw[bp];omega
  have r2:aZ (10+d.1.2.2.2.2) 24=true:=by rw[bp];omega
  have r3:(true&&wr (0+(z4 d.1.2.1*24+z4 (10+d.1.2.2.2.2))*1+1) 576)=true:=by rw[pM,ch];omega
  rw[r0,r1,r2,r3]
  repeat' (first
   |rw[aD]
   |(rw[aM];refine⟨λc=> ?_,λc=> ?_⟩)
   |(rw[bI];intro _ _))
  all_goals (rw[aw];exact⟨⟨by show 0<=d.1.2.2.2.2+1;omega,by show d.1.2.2.2.2+1<=3;omega,i0,i1,i2,i3⟩,by show z4 (3-(d.1.2.2.2.2+1))<_;omega⟩)) (λd hd=>by omega)
theorem aMb (n:Int):∀(d:vM.B) (hd:0<=d.1.2.2/\d.1.2.2<=3/\d.1.1=n/\d.1.2.1=n/\0<=n/\n<=2),Ok (abb d) (λx:Sc=>x.1.1=n/\x.1.2.1=n):=
 bT (λd:vM.B=>z4 (3-d.1.2.2)) (λd hd=>by
  have hw:wI (d.1.2.2+1)=d.1.2.2+1:=bf;obtain⟨c0,c1,i0,i1,i2,i3⟩:=hd;have w0:wI (4+d.1.1)=4+d.1.1:=eS;have w1:wI (13+d.1.2.2)=13+d.1.2.2:=eS;have w2:wI (3*d.1.1)=3*d.1.1:=eS;have w3:wI (3*d.1.1+d.1.2.2)=3*d.1.1+d.1.2.2:=eS;unfold an5;dsimp only;rw[w0,w1,w2,w3,hw];rw[aM];refine⟨λh=> ?_,λ_=>by rw[aw];exact⟨i0,i1⟩⟩;have h:=dh h;have r0:aZ (3*d.1.1+d.1.2.2) 9=true:=by rw[bp];omega
  have r1:aZ (4+d.1.1) 24=true:=by rw[bp];omega
  have r2:aZ (13+d.1.2.2) 24=true:=by rw[bp];omega
  have r3:(true&&wr (0+(z4 (4+d.1.1)*24+z4 (13+d.1.2.2))*1+1) 576)=true:=by rw[pM,ch];omega
  rw[r0,r1,r2,r3]
  repeat' (first
   |rw[aD]
   |(rw[aM];refine⟨λc=> ?_,λc=> ?_⟩)
   |(rw[bI];intro _ _))
  all_goals (rw[aw];exact⟨⟨by show 0<=d.1.2.2+1;omega,by show d.1.2.2+1<=3;omega,i0,i1,i2,i3⟩,by show z4 (3-(d.1.2.2+1))<_;omega⟩)) (λd hd=>by omega)
theorem aMc:∀(d:vN.B) (hd:0<=d.1.2/\d.1.2<=4),Ok (abc d) (λx:Sd=>True):=
 bT (λd:vN.B=>z4 (4-d.1.2)) (λd hd=>by
  have hw:wI (d.1.2+1)=d.1.2+1:=bf;obtain⟨c0,c1⟩:=hd;have w0:wI (0+d.1.2)=d.1.2:=by rw[akR];exact eS (by omega) (by omega)
  unfold an6;dsimp only;rw[w0];rw[aM];refine⟨λh=> ?_,λ_=>by rw[aw];trivial⟩;have h:=dh h;have r0:aZ d.1.2 4=true:=by rw[bp];omega
  have r1:aZ d.1.2 24=true:=by rw[bp];omega
  have r3:(true&&wr (0+z4 d.1.2*24+4) 576)=true:=by rw[pM,ch];omega
  rw[r0,r1,r3]
  repeat' (first
   |rw[aD]
   |(rw[aM];refine⟨λc=> ?_,λc=> ?_⟩)
   |(with_reducible refine ax (aMa d.1.2 _ ⟨dZ 0,(show(0:Int)<=3 by decide),rfl,rfl,c0,by omega⟩) λe _ he=> ?_))
  all_goals (rw[aw,he,hw];exact⟨⟨by show 0<=d.1.2+1;omega,by show d.1.2+1<=4;omega⟩,by show z4 (4-(d.1.2+1))<_;omega⟩)) (λd hd=>by omega)
theorem aMd:∀(d:vO.B) (hd:0<=d.1/\d.1<=3),Ok (abd d) (λx:Se=>True):=
 bT (λd:vO.B=>z4 (3-d.1)) (λd hd=>by
  obtain⟨c0,c1⟩:=hd;have hw:wI (d.1+1)=d.1+1:=bf;have w0:wI (4+d.1)=4+d.1:=eS;have w1:wI (7+d.1)=7+d.1:=eS;unfold an7;dsimp only;rw[w0];rw[aM];refine⟨λh=> ?_,λ_=>by rw[aw];trivial⟩;have h:=dh h;have r0:aZ d.1 3=true:=by rw[bp];omega
  have r1:aZ (4+d.1) 24=true:=by rw[bp];omega
  have r2:aZ (7+d.1) 24=true:=by rw[bp];omega
  have r3:(true&&wr (0+z4 (4+d.1)*24+4) 576)=true:=by rw[pM,ch];omega
  have r4:(true&&wr (0+(z4 (7+d.1)*24+z4 (4+d.1))*1+1) 576)=true:=by rw[pM,ch];omega
  rw[r0,r1,r3]
  repeat' (first
   |rw[aD]
   |(with_reducible refine ax (aMb d.1 _ ⟨dZ 0,(show(0:Int)<=3 by decide),rfl,rfl,c0,by omega⟩) λe _ he=> ?_)
   |(rw[he.1,he.2,w0,w1,hw,r1,r2,r4])
   |(rw[aM];refine⟨λc=> ?_,λc=> ?_⟩))
  all_goals (rw[aw];exact⟨⟨by show 0<=d.1+1;omega,by show d.1+1<=3;omega⟩,by show z4 (3-(d.1+1))<_;omega⟩)) (λd hd=>by omega)
instance a52 (x0:Nat->Int)(x1:Int)(x2:Int)(x3:Int)(x4:Int)(x5:Int)(x6:Int)(x7:Int)(x8:Int)(x9:Bool):bA (V5 x0 x1 x2 x3 x4 x5 x6 x7 x8 x9):=by
 unfold V5 ay4;try dsimp only
 refine aK ?_
 repeat' (first
  |(with_reducible refine ax (aMc _ ⟨dZ 0,(show(0:Int)<=4 by decide)⟩) λe _ he=> ?_)
  |(with_reducible refine ax (aMd _ ⟨dZ 0,(show(0:Int)<=3 by decide)⟩) λe _ he=> ?_)
  |(rw[bI];intro _ _))
 rw[aw];trivial
instance a37 (x0:Nat->Int)(x1:Nat->Int)(x2:Nat->Int)(x3:Int)(x4:Int)(x5:Int)(x6:Int)(x7:Int)(x8:Int)(x9:Int)(gw:Int)(gx:Nat->Int)(EC:Bool):bA (zZ x0 x1 x2 x3 x4 x5 x6 x7 x8 x9 gw gx EC):=by
 unfold zZ abe;exact aK (by simp only[bU,ry])
theorem aO3 (N:Nat)(hN:N<=1999)(x:kR.B)(h:x.2.1.2.2<=N)(s:x.2.1.1<=(N:Int)):
  Ok (fm x) (λr:sN=>match r with|.inl e=>e.2.1=x.2.1|.inr e=>e.1.1.1=x.2.1.1/\e.1.1.2.2<=N/\x.2.1.2.2<=e.1.1.2.2/\e.1.1.2.2<=e.2.1):=by
 unfold fm AK;try dsimp only
 show PQ _ _;rw[aM];refine⟨λ_=>by rw[aw],λh0=> ?_⟩;have hn:x.2.1.2.2≠0:=λe=>by rw[e] at h0;cases h0
 have w:wI (ws x.2.1.2.2-1)=ws (x.2.1.2.2-1):=by
  simp only[dQ];rw[eS (by omega) (by omega)];omega
 have b1:aZ (ws (x.2.1.2.2-1)) x.2.1.2.2=true:=by simp only[bp,dQ];omega
 have b2:wr ((x.2.1.2.2+1)*88) 140737488355328=true:=by rw[ch];omega
 have b3:HA 1 (x.2.1.2.2+1)=true:=by simp only[ad4];omega
 have b4:wr ((0+(x.2.1.2.2+1-1))*88) 140737488355328=true:=by rw[ch];omega
 rw[w,b1,b2,b3,b4]
 repeat' (first
  |rw[aD]
  |(rw[bI];intro _ _)
  |(rw[aM];refine⟨λc=> ?_,λc=> ?_⟩))
 all_goals first
  |(rw[aw];exact⟨rfl,by show 0+(x.2.1.2.2+1-1)<=N;omega,by show x.2.1.2.2<=0+(x.2.1.2.2+1-1);omega,by show 0+(x.2.1.2.2+1-1)<=x.2.1.2.2+1-1;omega⟩)
  |(rw[aw];have c:=wS c;simp only[dQ] at c;exact⟨rfl,by show x.2.1.2.2+1<=N;omega,by show x.2.1.2.2<=x.2.1.2.2+1;omega,cP _⟩)
  |(rw[aw])
theorem ah6 (N q q4:Nat)(q5:Int)(hN:N<=1999)(s:Int)(hs:s<=(N:Int))(d:dB.B)(hd:0<=d.1.2.2/\d.1.2.2<=d.1.2.1/\d.1.2.1<=1999/\d.1.2.1=((d.1.1:Nat):Int)/\d.d.c.1.2.2<=N/\d.d.c.1.1=s/\d.d.c.1.2.2<=d.e.c.2.1/\d.2.1.d.c.2.2=q/\d.2.1.c.1=q4/\d.2.1.d.b.2.1=q5):Ok (nI d) (λx:iX=>x.d.c.1.2.2<=N/\x.d.c.1.1=s/\x.d.c.1.2.2<=x.e.c.2.1/\x.2.1.d.c.2.2=q/\x.2.1.c.1=q4/\x.2.1.d.b.2.1=q5):=
 uK (s:=_) (λd:dB.B=>0<=d.1.2.2/\d.1.2.2<=d.1.2.1/\d.1.2.1<=1999/\d.1.2.1=((d.1.1:Nat):Int)/\d.d.c.1.2.2<=N/\d.d.c.1.1=s/\d.d.c.1.2.2<=d.e.c.2.1/\d.2.1.d.c.2.2=q/\d.2.1.c.1=q4/\d.2.1.d.b.2.1=q5) (λd:dB.B=>z4 (d.1.2.1-d.1.2.2)) (λx:iX=>x.d.c.1.2.2<=N/\x.d.c.1.1=s/\x.d.c.1.2.2<=x.e.c.2.1/\x.2.1.d.c.2.2=q/\x.2.1.c.1=q4/\x.2.1.d.b.2.1=q5) (λd hd=>by
  obtain⟨i0,i1,i2,i3,i4,i5,i6,i7,i8,i9⟩:=hd;have hw:wI (d.1.2.2+1)=d.1.2.2+1:=bf;unfold xX;dsimp only;rw[aM];refine⟨λh=> ?_,λ_=>by rw[aw];exact⟨i4,i5,i6,i7,i8,i9⟩⟩;have h:=dh h;have r0:aZ d.1.2.2 d.1.1=true:=by rw[bp];omega
  rw[r0,hw,aS,aD,aD];with_reducible refine ax (aO3 N hN _ ?_ ?_) λe _ he=> ?_
  .exact i4
  .show d.d.c.1.1<=(N:Int);omega
  rw[um];refine⟨λa ha=> ?_,λa ha=> ?_⟩
  .rw[ha] at he;have he:a.2.1=d.d.c.1:=he;rw[aw];exact⟨⟨by show 0<=d.1.2.2+1;omega,by show d.1.2.2+1<=d.1.2.1;omega,i2,i3,by show a.2.1.2.2<=N;rw[he];exact i4,by show a.2.1.1=s;rw[he];exact i5,by show a.2.1.2.2<=d.e.c.2.1;rw[he];exact i6,i7,i8,i9⟩,by show z4 (d.1.2.1-(d.1.2.2+1))<_;omega⟩
  .rw[ha] at he;obtain⟨e1,e2,e3,e4⟩:=he;rw[aw];exact⟨⟨by show 0<=d.1.2.2+1;omega,by show d.1.2.2+1<=d.1.2.1;omega,i2,i3,e2,e1.trans i5,e4,i7,i8,i9⟩,by show z4 (d.1.2.1-(d.1.2.2+1))<_;omega⟩) 2000 d hd (by omega)
theorem aVv (x:gQ.B):Ok (eK x) (λr:yp=>r.1.1.1=x.2.1.1):=by
 unfold eK qS;show PQ _ _;rw[bI];intro _ _;rw[aw]
theorem aVw (N:Nat)(h1:1<=N)(hN:N<=1999)(x:kZ.B)(hl:x.2.2.2.2.2.2.2.2.2.2.2.2.1.1<=(N:Int))(hq:x.2.1.2.2.2.2.1<=1999):Ok (k9 x) (λr:qA=>match r with|.inl e=>e.2=x.2.2.2.2.2.2.2.2.2.2.2.2.1/\e.1.2.2.2.2.2.2.2.2.2.2.2.2.2.2.2.2=x.2.1.2.2.2.2.2.2.2.2.2.2.2.2.2.2.2.2/\e.1.2.2.2.2.1=x.2.1.2.2.2.2.1/\e.1.2.2.2.2.2.2.2.2.2.2.2.2.2.1=x.2.1.2.2.2.2.2.2.2.2.2.2.2.2.2.1|.inr e=>e.1.2.2.2<=N/\e.1.2.1=x.2.2.2.2.2.2.2.2.2.2.2.2.1.1/\e.1.2.2.2<=e.2.1/\e.1.1.2.2.2.2.2.2.2.2.2.2.2.2.2.2=x.2.1.2.2.2.2.2.2.2.2.2.2.2.2.2.2.2.2/\e.1.1.2.2.2.2.1=x.2.1.2.2.2.2.1/\e.1.1.2.2.2.2.2.2.2.2.2.2.2.1=x.2.1.2.2.2.2.2.2.2.2.2.2.2.2.2.1):=by
 unfold k9 uS;try dsimp only
 show PQ _ _;simp only[aS]
 repeat' (first
  |rw[aD]
  |(with_reducible refine ax (aVv _) λe _ he=> ?_)
  |(with_reducible refine ax (ah6 N x.2.1.2.2.2.2.2.2.2.2.2.2.2.2.2.2.2.2 x.2.1.2.2.2.2.1 x.2.1.2.2.2.2.2.2.2.2.2.2.2.2.2.1 hN x.2.2.2.2.2.2.2.2.2.2.2.2.1.1 hl _ ?_) λe _ he=> ?_)
  |(rw[bI];intro _ _)
  |(rw[aM];refine⟨λc=> ?_,λc=> ?_⟩))
 all_goals first
  |(rw[aw];exact⟨rfl,rfl,rfl,rfl⟩)
  |(rw[aw];exact he)
  |(obtain⟨a,b,c,e⟩:=hdN x.2.1.2.2.2.2.1 hq
    exact⟨a,b,c,e,h1,he,cP _,rfl,rfl,rfl⟩)
  |skip
theorem P8 (n:Nat)(p:Int×Int×Nat):∀(d:c8.B) (hd:0<=d.1.2.2.2.2/\d.1.2.2.2.2<=d.1.2.2.2.1/\n<=1999/\d.1.2.2.2.1=(n:Int)/\d.1.2.2.1=n/\d.2.1=p/\d.1.2.1<(n:Int)),Ok (nC d) (λx:jQ=>x.1.2.2.1=n/\x.2.1=p/\x.1.2.1<(n:Int)):=
 bT (λd:c8.B=>z4 (d.1.2.2.2.1-d.1.2.2.2.2)) (λd hd=>by
  have hw:wI (d.1.2.2.2.2+1)=d.1.2.2.2.2+1:=bf;obtain⟨i0,i1,i2,i3,i4,i5,i6⟩:=hd;unfold tH;dsimp only;rw[aM];refine⟨λh=> ?_,λ_=>by rw[aw];exact⟨i4,i5,i6⟩⟩;have h:=dh h;have r0:aZ d.1.2.2.2.2 d.1.2.2.1=true:=by rw[bp];omega
  rw[r0,hw,aD,aM];refine⟨λ_=> ?_,λ_=> ?_⟩
  .rw[aw];exact⟨⟨by show 0<=d.1.2.2.2.2+1;omega,by show d.1.2.2.2.2+1<=d.1.2.2.2.1;omega,i2,i3,i4,i5,by show d.1.2.2.2.2<(n:Int);omega⟩,by show z4 (d.1.2.2.2.1-(d.1.2.2.2.2+1))<_;omega⟩
  .rw[aw];exact⟨⟨by show 0<=d.1.2.2.2.2+1;omega,by show d.1.2.2.2.2+1<=d.1.2.2.2.1;omega,i2,i3,i4,i5,i6⟩,by show z4 (d.1.2.2.2.1-(d.1.2.2.2.2+1))<_;omega⟩) (λd hd=>by omega)
theorem P9 (d:dK.B)(h0:0<=d.1)(h1:d.1<4):Ok (jR d) (λx:gJ=>x.1.1=d.1/\x.2.1=(d.2.1.1,d.2.1.2.2)/\x.b.2.1=d.b.2.1):=by
 have r0:aZ d.1 4=true:=by rw[bp];omega
 unfold jR tI;try dsimp only
 show PQ _ _;rw[r0]
 repeat' (first
  |rw[aD]
  |(rw[bI];intro _ _)
  |(rw[aM];refine⟨λc=> ?_,λc=> ?_⟩))
 all_goals (rw[aw];exact⟨rfl,rfl,rfl⟩)
theorem P' (a:Int)(n:Nat)(v:Nat×(Nat->Int)×(Nat->Int)×(Nat->Int)×(Nat->Int)×(Nat->Int)×(Nat->Int)×(Nat->Int)×(Nat->Int)×(Nat->Int)×(Nat->Int)×(Nat->Int)):∀(d:c9.B) (hd:0<=d.1/\d.1<=4/\d.2.1.1=a/\d.2.1.2.2=n/\d.b.2.1=v),Ok (nD d) (λx:jS=>x.2.1.1=a/\x.2.1.2.2=n/\x.b.2.1=v):=
 bT (λd:c9.B=>z4 (4-d.1)) (λd hd=>by
  have hw:wI (d.1+1)=d.1+1:=bf;obtain⟨i0,i1,i2,i3,i4⟩:=hd;unfold tJ;dsimp only;rw[aM];refine⟨λh=> ?_,λ_=>by rw[aw];exact⟨i2,i3,i4⟩⟩;have h:=dh h;have r0:aZ d.1 4=true:=by rw[bp];omega
  rw[r0]
  repeat' (first
   |rw[aD]
   |(with_reducible refine ax (P9 _ i0 h) λe _ he=> ?_)
   |(rw[aM];refine⟨λc=> ?_,λc=> ?_⟩))
  all_goals (obtain⟨e1,e2,e3⟩:=he;rw[aw,e1,e2,hw];exact⟨⟨by show 0<=d.1+1;omega,by show d.1+1<=4;omega,i2,i3,e3.trans i4⟩,by show z4 (4-(d.1+1))<_;omega⟩)) (λd hd=>by omega)
theorem aO4 (x:iN.B)(h:x.2.1.2.2<=1999):Ok (iO x) (λr:vQ=>r.b.1=x.2.1.2.2):=by
 unfold iO vS;try dsimp only
 show PQ _ _;rw[aS,aD];with_reducible refine ax (P8 x.2.1.2.2 x.2.1 _ ?_) λd _ hd=> ?_
 .exact⟨dZ 0,by show(0:Int)<=ws x.2.1.2.2;simp only[dQ];omega,h,rfl,rfl,rfl,by show(-1:Int)<_;omega⟩
 obtain⟨d1,d2,d3⟩:=hd;try dsimp only
 rw[aM];refine⟨λ_=>by rw[aw];exact d1,λc=> ?_⟩;have c:=wS c;have r0:aZ d.1.2.1 d.2.1.2.2=true:=by rw[bp,d2];omega
 rw[r0,aD];rw[bI];intro e1 _;rw[bI];intro e2 _;rw[bI];intro e3 _;rw[bI];intro e4 _;rw[bI];intro e5 _;with_reducible refine ax (P' x.2.1.1 x.2.1.2.2 (d.1.b.1,d.b.2.1) _ ?_) λf _ hf=> ?_
 .exact⟨by show(0:Int)<=1;decide,by show(1:Int)<=4;decide,by show d.2.1.1=_;rw[d2],by show d.2.1.2.2=_;rw[d2],rfl⟩
 obtain⟨f1,f2,f3⟩:=hf;rw[bI];intro e6 _;rw[aS,aD];with_reducible refine ax (Uc _ ?_) λg _ hg=> ?_
 .show f.2.1.2.2<=1999;omega
 have hg:g.2.1=f.2.1.2.2:=hg;have fn:f.b.2.1.1=x.2.1.2.2:=by rw[f3];exact d1
 have b1:(true&&z9 (g.2.1*11+0) (f.2.1.2.2*11)&&true)=true:=by rw[hg,ky,aS];rfl
 have b2:(true&&wr (0+(g.2.1*11+0)) (f.b.2.1.1*11+0))=true:=by rw[hg,fn,pM,ch];omega
 rw[b1,b2,aD,aD,aw];exact fn
theorem aog (a b c:Int):nY a b c=some (decide (b<=a)&&decide (a<=c)):=by
 simp only[nY,Nh,bN,bP];by_cases h:b<=a<;>simp[h]
theorem aSj (w:me.B):∀(d:me.B) (hd:0<=d.1.2/\d.1.2<=24/\d.2=w.2/\∀j:Nat,(j:Int)<d.1.2->(0<=w.2.2.2.2.2.2.2.2.2.2.2.2.2.2.2.2.2.1 j/\w.2.2.2.2.2.2.2.2.2.2.2.2.2.2.2.2.2.1 j<=72057594037927936)/\1<=w.2.2.2.2.2.2.2.2.2.2.2.2.2.2.2.2.2.2.1 j/\w.2.2.2.2.2.2.2.2.2.2.2.2.2.2.2.2.2.2.1 j<=72057594037927936),Ok (I9 d) (λx:Ew=>match x with|.inl _=>True|.inr e=>e.2=w.2/\∀j:Nat,j<24->(0<=w.2.2.2.2.2.2.2.2.2.2.2.2.2.2.2.2.2.1 j/\w.2.2.2.2.2.2.2.2.2.2.2.2.2.2.2.2.2.1 j<=72057594037927936)/\1<=w.2.2.2.2.2.2.2.2.2.2.2.2.2.2.2.2.2.2.1 j/\w.2.2.2.2.2.2.2.2.2.2.2.2.2.2.2.2.2.2.1 j<=72057594037927936):=
 bT (λd:me.B=>z4 (24-d.1.2)) (λd hd=>by
  have hw:wI (d.1.2+1)=d.1.2+1:=bf;obtain⟨i0,i1,i2,i3⟩:=hd;unfold QW;dsimp only;rw[aM];refine⟨λh=> ?_,λh=> ?_⟩
  .have h:=dh h;have r0:aZ d.1.2 24=true:=by rw[bp];omega
   have r1:wr (0+z4 d.1.2*1+1) 24=true:=by rw[ch];omega
   rw[r0,r1,aD,aD,aog,cz,aM];refine⟨λ_=>by rw[aw];trivial,λc=> ?_⟩;rw[aD,aD,aog,cz,aM];refine⟨λ_=>by rw[aw];trivial,λc2=> ?_⟩;rw[aEr,cL,j7,j7] at c c2;rw[aw,hw];refine⟨⟨by show 0<=d.1.2+1;omega,by show d.1.2+1<=24;omega,i2,λj hj=> ?_⟩,by show z4 (24-(d.1.2+1))<_;omega⟩;have hj:(j:Int)<d.1.2+1:=hj;by_cases e:(j:Int)<d.1.2
   .exact i3 j e
   .have e2:z4 d.1.2=j:=by omega
    rw[e2,i2] at c c2;exact⟨c,c2⟩
  .have h:=wS h;rw[aw];exact⟨i2,λj hj=>i3 j (by omega)⟩) (λd hd=>by omega)
structure a0l (x:Gl.B):Prop where
 place:∃e,zQ x.2.2.2.2.2.2.2.2.2.2.2.2.2.1 x.2.2.2.2.2.2.2.2.2.2.2.2.2.2.1 x.2.2.2.2.2.2.2.2.2.2.2.2.2.2.2=some (ww e)
 arr:∀j:Nat,j<24->(0<=x.2.2.2.2.2.2.1 j/\x.2.2.2.2.2.2.1 j<=72057594037927936)/\1<=x.2.2.2.2.2.2.2.1 j/\x.2.2.2.2.2.2.2.1 j<=72057594037927936
 nums:1000<=x.1/\x.1<=100000/\0<=x.2.1/\x.2.1<=300000/\1<=x.2.2.1/\x.2.2.1<=64/\0<=x.2.2.2.1/\x.2.2.2.1<=100/\0<=x.2.2.2.2.2.2.2.2.1/\x.2.2.2.2.2.2.2.2.1<=1099511627776/\1<=x.2.2.2.2.2.2.2.2.2.1/\x.2.2.2.2.2.2.2.2.2.1<=72057594037927936/\0<=x.2.2.2.2.2.2.2.2.2.2.1/\x.2.2.2.2.2.2.2.2.2.2.1<=3/\1<=x.2.2.2.2.2.2.2.2.2.2.2.1/\x.2.2.2.2.2.2.2.2.2.2.2.1<=1073741824/\1<=x.2.2.2.2.2.2.2.2.2.2.2.2.1/\x.2.2.2.2.2.2.2.2.2.2.2.2.1<=64/\1<=x.2.2.2.2.1.1/\x.2.2.2.2.1.1<=1000/\1<=x.2.2.2.2.1.2.1/\x.2.2.2.2.1.2.1<=1000/\1<=x.2.2.2.2.1.2.2.1/\x.2.2.2.2.1.2.2.1<=1000/\1<=x.2.2.2.2.1.2.2.2.1/\x.2.2.2.2.1.2.2.2.1<=1000/\1<=x.2.2.2.2.1.2.2.2.2.1/\x.2.2.2.2.1.2.2.2.2.1<=1000/\1<=x.2.2.2.2.1.2.2.2.2.2/\x.2.2.2.2.1.2.2.2.2.2<=1000/\1<=x.2.2.2.2.2.1.1/\x.2.2.2.2.2.1.1<=1099511627776/\1<=x.2.2.2.2.2.1.2.1/\x.2.2.2.2.2.1.2.1<=1099511627776/\1<=x.2.2.2.2.2.1.2.2.1/\x.2.2.2.2.2.1.2.2.1<=1099511627776/\1<=x.2.2.2.2.2.1.2.2.2.1/\x.2.2.2.2.2.1.2.2.2.1<=1099511627776/\1<=x.2.2.2.2.2.1.2.2.2.2.1/\x.2.2.2.2.2.1.2.2.2.2.1<=1099511627776/\1<=x.2.2.2.2.2.1.2.2.2.2.2/\x.2.2.2.2.2.1.2.2.2.2.2<=1099511627776
theorem aVx (x:Gl.B):Ok (pw x) (λr:Bool=>r=true->a0l x):=by
 unfold pw aa3;try dsimp only
 show PQ _ _
 repeat' (first
  |(rw[aog,cz])
  |(with_reducible refine ax (aSj _ _ ⟨dZ 0,(show(0:Int)<=24 by decide),rfl,λj hj=>absurd hj (by show ¬(j:Int)<0;omega)⟩) λe _ he=> ?_)
  |(rw[og];refine⟨λa ha=> ?_,λa ha=> ?_⟩)
  |(rw[um];refine⟨λb hb=> ?_,λb hb=> ?_⟩)
  |(rw[bI];intro q hq)
  |(rw[aM];refine⟨λc=> ?_,λc=> ?_⟩<;>(try simp only[pL,aEr,cL,j7,Om] at c)))
 all_goals first
  |(rw[aw];intro hr;exact absurd hr (by decide))
  |skip
 rw[ha] at he;obtain⟨e1,e2⟩:=he;obtain⟨a1,a2⟩:=a;have e1:a2=_:=e1;subst e1;rw[aw];intro hr;have hr:=dh hr;rw[hb] at hq;refine⟨⟨_,hq⟩,e2,?_⟩;dsimp only at*
 omega
theorem qB {δ:Type}{Q:δ->Prop}(x y:Pg δ):PQ (.ae false x y) Q=PQ y Q:=by unfold PQ;rw[Pg.bN];rfl
theorem aO5 (a:Int)(h:1000<=a)(k:a<=100000):Ec a=some (ww a):=by
 have h1:decide (a<1000)=false:=cC (by omega);have h2:decide (a>100000)=false:=cC (by omega);unfold Ec Uk;rw[h1,h2];rfl
theorem aSk (a:Int)(h:1<=a)(k:a<=64):GG a=some (ww (a,λ_=>0)):=by
 have h1:decide (a<1)=false:=cC (by omega);have h2:decide (a>64)=false:=cC (by omega);unfold GG Y9;rw[h1,h2];rfl
theorem aMe (a b:Int)(h:1<=a)(k:a<=64)(h':1<=b)(k':b<=1073741824):B5 a b=some (ww ((a,b),λ_=>0)):=by
 have h1:decide (a<1)=false:=cC (by omega);have h2:decide (a>64)=false:=cC (by omega);have h3:decide (b<1)=false:=cC (by omega);have h4:decide (b>1073741824)=false:=cC (by omega);unfold B5 P6;rw[h1,h2,h3,h4];rfl
theorem aMf (T:Nat->Int)(hT:∀j:Nat,j<6->1<=T j/\T j<=1099511627776):∀(d:ld.B) (hd:0<=d.1.2.2.2/\d.1.2.2.2<=6/\d.1.2.1.1=6/\d.1.2.2.1=6/\d.2.1=T),Ok (KP d) (λx:xP=>match x with|.inl _=>False|.inr _=>True):=
 bT (λd:ld.B=>z4 (6-d.1.2.2.2)) (λd hd=>by
  obtain⟨i0,i1,i2,i3,i4⟩:=hd;have hw:wI (d.1.2.2.2+1)=d.1.2.2.2+1:=bf;unfold KO;dsimp only;rw[aM];refine⟨λh=> ?_,λ_=>by rw[aw];trivial⟩;have h:=dh h;have r0:aZ d.1.2.2.2 d.1.2.1.1=true:=by rw[bp];omega
  have r1:aZ d.1.2.2.2 6=true:=by rw[bp];omega
  have t:=hT (z4 d.1.2.2.2) (by omega);have c1:decide (d.2.1 (z4 d.1.2.2.2)<1)=false:=cC (by rw[i4];omega);have c2:decide (d.2.1 (z4 d.1.2.2.2)>1099511627776)=false:=cC (by rw[i4];omega);have r2:(wr (0+z4 d.1.2.2.2*6+6) 36&&wr (0+z4 d.1.2.2.2*6+6) 37)=true:=by rw[cL,ch,ch];omega
  rw[r0,c1,c2,r1,r2,hw,aD,qB,qB,aD,aD,aw];exact⟨⟨by show 0<=d.1.2.2.2+1;omega,by show d.1.2.2.2+1<=6;omega,i2,i3,i4⟩,by show z4 (6-(d.1.2.2.2+1))<_;omega⟩) (λd hd=>by omega)
theorem aMg (m:Int)(T:Nat->Int)(w:Bool)(h:0<=m)(k:m<=100)(hT:∀j:Nat,j<6->1<=T j/\T j<=1099511627776):Ok (B4 m 6 T w) (λr:B3=>∃e,r=ww e):=by
 have h1:decide (m<0)=false:=cC (by omega);have h2:decide (m>100)=false:=cC (by omega);unfold B4 P1;show PQ _ _;rw[h1,h2,qB,qB,(show(ws 6!=6)=false from rfl),qB,aS,aD];refine ax (aMf T hT _ ⟨dZ 0,(show(0:Int)<=6 by decide),rfl,rfl,rfl⟩) λy _ hy=> ?_;rw[og];refine⟨λa ha=> ?_,λa ha=> ?_⟩
 .rw[ha] at hy;exact hy.elim
 .rw[aw];exact⟨_,rfl⟩
theorem aO6 (a b c:Int)(h:∃e,zQ a b c=some (ww e)):Ok (Eb a b c) (λr:yW=>∃e,r=ww e):=by
 obtain⟨e,h⟩:=h;have g:(Eb a b c:Option yW)=zQ a b c:=rfl;exact⟨ww e,g.trans h,e,rfl⟩
theorem a2r (x:KQ.B):Ok (AR x) (λr:P7=>match r with|.inl _=>True|.inr e=>1<=x.2.2.1/\x.2.2.1<=64/\1<=x.2.2.2.2.2.2.2.2.2.2.2.2.1/\x.2.2.2.2.2.2.2.2.2.2.2.2.1<=64/\e.2.2.2.2.1=x.2.2.1/\e.2.2.2.2.2.1=x.2.2.1/\e.2.2.2.2.2.2.1=x.2.2.1/\e.2.2.2.2.2.2.2.1=x.2.2.1/\e.2.2.2.2.2.2.2.2.1=x.2.2.1/\e.2.2.2.2.2.2.2.2.2.1=x.2.2.1/\e.2.2.2.2.2.2.2.2.2.2.2.1.1=x.2.2.2.2.2.2.2.2.2.2.2.2.1):=by
 unfold AR Y';try dsimp only
 show PQ _ _;refine ax (aVx x) λr _ hr=> ?_;rw[aM];refine⟨λ_=>by rw[aw];trivial,λc=> ?_⟩;have cc:a0l x:=hr (by simpa using c);have n:=cc.nums
 have hT:∀j:Nat,j<6->1<=(bif z9 j 5 then x.2.2.2.2.2.1.2.2.2.2.2 else bif z9 j 4 then x.2.2.2.2.2.1.2.2.2.2.1 else bif z9 j 3 then x.2.2.2.2.2.1.2.2.2.1 else bif z9 j 2 then x.2.2.2.2.2.1.2.2.1 else bif z9 j 1 then x.2.2.2.2.2.1.2.1 else bif z9 j 0 then x.2.2.2.2.2.1.1 else x.2.2.2.2.2.1.1)/\(bif z9 j 5 then x.2.2.2.2.2.1.2.2.2.2.2 else bif z9 j 4 then x.2.2.2.2.2.1.2.2.2.2.1 else bif z9 j 3 then x.2.2.2.2.2.1.2.2.2.1 else bif z9 j 2 then x.2.2.2.2.2.1.2.2.1 else bif z9 j 1 then x.2.2.2.2.2.1.2.1 else bif z9 j 0 then x.2.2.2.2.2.1.1 else x.2.2.2.2.2.1.1)<=1099511627776:=by
  intro j hj;have e:j=0∨j=1∨j=2∨j=3∨j=4∨j=5:=by omega
  rcases e with rfl|rfl|rfl|rfl|rfl|rfl
  .exact⟨by show 1<=x.2.2.2.2.2.1.1;omega,by show x.2.2.2.2.2.1.1<=1099511627776;omega⟩
  .exact⟨by show 1<=x.2.2.2.2.2.1.2.1;omega,by show x.2.2.2.2.2.1.2.1<=1099511627776;omega⟩
  .exact⟨by show 1<=x.2.2.2.2.2.1.2.2.1;omega,by show x.2.2.2.2.2.1.2.2.1<=1099511627776;omega⟩
  .exact⟨by show 1<=x.2.2.2.2.2.1.2.2.2.1;omega,by show x.2.2.2.2.2.1.2.2.2.1<=1099511627776;omega⟩
  .exact⟨by show 1<=x.2.2.2.2.2.1.2.2.2.2.1;omega,by show x.2.2.2.2.2.1.2.2.2.2.1<=1099511627776;omega⟩
  .exact⟨by show 1<=x.2.2.2.2.2.1.2.2.2.2.2;omega,by show x.2.2.2.2.2.1.2.2.2.2.2<=1099511627776;omega⟩
 rw[bI];intro _ _;rw[bI];intro _ _;rw[bI];intro _ _;refine ax (aO6 _ _ _ cc.place) λf _ hf=> ?_;obtain⟨f,rfl⟩:=hf;rw[um];refine⟨λ_ h=>(nomatch h),λf hf=> ?_⟩;rw[aO5 _ (by omega) (by omega),cz,um];refine⟨λ_ h=>(nomatch h),λg hg=> ?_⟩;refine ax (aMg _ _ _ (by omega) (by omega) hT) λh _ hh=> ?_;obtain⟨h,rfl⟩:=hh;rw[um];refine⟨λ_ h=>(nomatch h),λf hf=> ?_⟩;rw[aMe _ _ (by omega) (by omega) (by omega) (by omega),cz,um];refine⟨λ_ h=>(nomatch h),λp hp=> ?_⟩;rw[aSk _ (by omega) (by omega)];rw[cz,um];refine⟨λ_ h=>(nomatch h),λb0 Rg=> ?_⟩;cases Rg;rw[cz,um];refine⟨λ_ h=>(nomatch h),λb1 hb1=> ?_⟩;cases hb1;rw[cz,um];refine⟨λ_ h=>(nomatch h),λb2 FI=> ?_⟩;cases FI;rw[cz,um];refine⟨λ_ h=>(nomatch h),λb3 hb3=> ?_⟩;cases hb3;rw[cz,um];refine⟨λ_ h=>(nomatch h),λb4 hb4=> ?_⟩;cases hb4;rw[cz,um];refine⟨λ_ h=>(nomatch h),λb5 hb5=> ?_⟩;cases hb5;cases hp;rw[aw];refine⟨by omega,by omega,by omega,by omega,rfl,rfl,rfl,rfl,rfl,rfl,rfl⟩
end Go.Proofs.YtldgljclcgaibaaGreat
