/-
  Parts of the proof: TP TQ TR8 TS8 TPut Q5 TNh TNd TT TV TW TX TY TZ TNw
-/
import Derived.Test.YtldgljclcgaibaaGreatZAE
import Derived.Test.YtldgljclcgaibaaGreatZAJ
open Nat renaming beq→z9,ble→wl,blt→v9
open Int renaming toNat→z4,ofNat→wr,tdiv→t8
open Sum renaming inl→ww,inr→ws
set_option linter.unusedVariables false
set_option linter.unusedSimpArgs false
set_option maxRecDepth 100000
set_option maxHeartbeats 4000000
namespace Go.Proofs.YtldgljclcgaibaaGreat
open Go.Ab Go.Ab.Pg
theorem aCX (x:gE.B):Ok (eB x) (λr:qC=>r.e.2=x.1.d.c.b.2.2/\r.c.2.1=x.1.c.1/\r.d.c.b.1=x.1.d.c.2.1):=by
 unfold eB mD;try dsimp only
 show PQ _ _;rw[bL];intro d _;rw[aw];exact⟨rfl,rfl,rfl⟩
theorem aYO (x:rv.B)(h:x.2.1.d.c.b.2.2<=90000):Ok (oi x) (λr:xr=>match r with|.inl e=>e.1.d.c.b.2.2<=x.2.1.d.c.b.2.2+1/\e.1.c.1=x.2.1.c.1/\e.1.d.c.2.1=x.2.1.d.c.2.1|.inr e=>e.1.1.d.c.b.2<=x.2.1.d.c.b.2.2+1/\e.1.1.c.1=x.2.1.c.1/\e.1.1.d.c.1=x.2.1.d.c.2.1):=by
 unfold oi Dc;try dsimp only
 show PQ _ _;simp only[aQ];rw[bL];intro d _;rw[bL];intro d1 _;repeat rw[aD]
 with_reducible refine ax (aCX _) λd2 _ h2=> ?_
 have h2:d2.e.2=x.2.1.d.c.b.2.2/\d2.c.2.1=x.2.1.c.1/\d2.d.c.b.1=x.2.1.d.c.2.1:=h2;rw[bL];intro d3 _;rw[aL];refine⟨λ_=> ?_,λ_=> ?_⟩
 .repeat rw[aD]
  rw[bL];intro d4 _;rw[aw];show d2.e.2<=x.2.1.d.c.b.2.2+1/\d2.c.2.1=x.2.1.c.1/\d2.d.c.b.1=x.2.1.d.c.2.1;omega
 .rw[bL];intro d4 _;repeat rw[aD]
  with_reducible refine ax (Sd _ ?_) λt _ ht=> ?_
  .show d2.e.2<=100000;omega
  have ht:t.1.d.c.b.2.2=d2.e.2+1/\t.1.c.1=d2.c.2.1/\t.1.d.c.2.1=d2.d.c.b.1:=ht;repeat (first|rw[aD]|(rw[bL];intro _ _))
  rw[aw];show t.1.d.c.b.2.2<=x.2.1.d.c.b.2.2+1/\t.1.c.1=x.2.1.c.1/\t.1.d.c.2.1=x.2.1.d.c.2.1;omega
theorem aGr (x:kr.B)(h:x.2.1.d.c.b.2.2<=90000):Ok (ig x) (λr:nA=>match r with|.inl e=>e.1.1.d.c.2.2<=x.2.1.d.c.b.2.2+3/\e.1.1.c.1=x.2.1.c.1/\e.1.1.d.b.2.1=x.2.1.d.c.2.1|.inr e=>e.1.d.c.b.2.2<=x.2.1.d.c.b.2.2+3/\e.1.c.1=x.2.1.c.1/\e.1.d.c.2.1=x.2.1.d.c.2.1):=by
 have idx:∀(n m:Nat) (k:Int),n=m->0<=k->k<(m:Int)->bg k n=true:=λn m k e h1 h2=>by subst e;simp only[bz];omega
 unfold ig r9;try dsimp only
 show PQ _ _;simp only[aQ];rw[bL];intro d _
 repeat' (first
  |rw[aD]
  |(with_reducible refine ax (aYM _ ?_) λj _ hj=> ?_)
  |(with_reducible refine ax (aeU _ ?_) λe _ he=> ?_)
  |(with_reducible refine ax (Zb _ ?_) λq _ hq=> ?_)
  |(rw[tX];refine⟨λ_ _=> ?_,λ_ _=> ?_⟩)
  |(rw[bL];intro _ _)
  |(rw[aL];refine⟨λc=> ?_,λc=> ?_⟩))
 all_goals first
  |(rw[aw];exact hj)
  |(rw[aw];exact⟨cQ (Nat.le_of_eq (hq.1.trans he.2.1)) (Nat.le_add_right _ _),hq.2.1.trans he.b.1,hq.2.2.trans he.b.2⟩)
  |(rw[aw];exact⟨cQ (Nat.le_of_eq he.2.1) (Nat.le_add_right _ _),he.2.2⟩)
  |(show x.2.1.d.c.b.2.2<=90000;exact h)
  |(dsimp only;omega)
  |(have h1:=he.1;(try dsimp only at h1);(try dsimp only);omega)
  |(rw[aQP];rw[he.1] at c;have c':true=false:=c;cases c')
theorem aRg (x:Int):PI x=some (decide (0<=x)&&decide (x<6)):=by
 simp only[PI,apb,bM,bS];by_cases h0:0<=x<;>simp[h0]
instance aOz (x:te.B):bp (zt x):=by
 unfold zt GC;try dsimp only
 exact aJ (by simp only[bU,qW])
theorem Ui (n:Nat):∀(d:ee.B) (hd:0<=d.1.2.2/\d.1.2.2<=d.1.2.1/\d.1.2.1<=1999/\d.1.2.1=((d.1.1.1:Nat):Int)/\d.2.1.2.2=n/\n<=1999),Ok (vh d) (λx:kW=>x.2.1.2.2=n):=
 bV (λd:ee.B=>z4 (d.1.2.1-d.1.2.2)) (λd hd=>by
  have hw:wI (d.1.2.2+1)=d.1.2.2+1:=aZ;obtain⟨i0,i1,i2,i3,i4,i5⟩:=hd;unfold vg;try dsimp only
  rw[aL];refine⟨λh=> ?_,λ_=>by rw[aw];exact i4⟩;have h:=db h;rw[bO,aQ,aD];refine⟨by simp only[bz];omega,?_⟩;with_reducible refine ax (Uh _ ?_) λe _ he=> ?_
  .show d.2.1.2.2<=1999;omega
  have he:e.2.1=d.2.1.2.2:=he;have b1:(true&&z9 (e.2.1*11+0) (d.2.1.2.2*11)&&true)=true:=by rw[he,jH,aQ];rfl
  have b2:(true&&wl (0+(e.2.1*11+0)) (d.2.1.2.2*11+0))=true:=by rw[he,o8,ch];omega
  simp only[b1,b2,aD,aw,mK,hw];exact⟨⟨by omega,by omega,i2,i3,i4,i5⟩,by omega⟩) (λd hd=>by omega)
theorem aT7 (x:mB.B)(h:x.1.1<=1999)(k:x.2.1.2.2<=1999):Ok (mC x) (λr:yb=>r.2.1=x.2.1.2.2):=by
 unfold mC yd;show PQ _ _;rw[aQ,aQ,aD,aD];refine ax (Ui x.2.1.2.2 _ ?_) λd _ hd=> ?_
 .obtain⟨a,b,c,e⟩:=hdN x.1.1 h;exact⟨a,b,c,e,rfl,k⟩
 .rw[aw];exact hd
abbrev Bf:=(Int×Int×Int×Int×Int)×Int×Nat×Int
def BR (T:Int)(b c:Bf):Prop:=(∀U,T<=U->b.2.2.2<=U->c.2.2.2<=U)/\c.2.1=b.2.1/\c.2.2.1<=b.2.2.1/\c.1.1=b.1.1/\c.1.2.1=b.1.2.1/\c.1.2.2.1=b.1.2.2.1/\c.1.2.2.2.1=b.1.2.2.2.1/\
 (0<=b.1.2.2.2.2->b.1.2.2.2.2+b.2.2.1<=4611686018427387904->0<=c.1.2.2.2.2/\c.1.2.2.2.2+c.2.2.1=b.1.2.2.2.2+b.2.2.1)
def PR (b c:Bf):Prop:=c.2.1=b.2.1/\c.1.1=wI (b.1.1+1)/\c.1.2.2.2.1=b.1.2.2.2.1/\c.1.2.2.2.2=b.1.2.2.2.2/\c.2.2.2=b.2.2.2/\
 ((c.1.2.1=wI (b.1.2.1+1)/\c.1.2.2.1=b.1.2.2.1/\c.2.2.1=b.2.2.1)∨(c.1.2.1=b.1.2.1/\c.1.2.2.1=b.1.2.2.1/\c.2.2.1=b.2.2.1+1/\((c.2.2.1:Nat):Int)<=b.2.1)∨
  (c.1.2.1=b.1.2.1/\c.1.2.2.1=wI (b.1.2.2.1+1)/\c.2.2.1=b.2.2.1))
def SR (b c:Bf):Prop:=c.2=b.2/\c.1=(wI (b.1.1+1),b.1.2.1,b.1.2.2.1,wI (b.1.2.2.2.1+1),b.1.2.2.2.2)
theorem BR.refl (T:Int)(b:Bf):BR T b b:=⟨λ_ _ h=>h,rfl,cR _,rfl,rfl,rfl,rfl,λh _=>⟨h,rfl⟩⟩
theorem BR.len {T:Int}{b c:Bf}(h:BR T b c):c.2.2.1<=b.2.2.1:=h.2.2.1
theorem BR.mono {T U:Int}{a b:Bf}(t:T<=U)(h:BR T a b):BR U a b:=⟨λV p q=>h.1 V (SU t p) q,h.2⟩
theorem BR.trans {T:Int}{a b c:Bf}(h:BR T a b)(k:BR T b c):BR T a c:=by
 obtain⟨h0,h1,h2,h3,h4,h5,h6,h7⟩:=h;obtain⟨k0,k1,k2,k3,k4,k5,k6,k7⟩:=k;refine⟨λU p q=>k0 U p (h0 U p q),k1.trans h1,cQ k2 h2,k3.trans h3,k4.trans h4,k5.trans h5,k6.trans h6,λp q=> ?_⟩;obtain⟨r,s⟩:=h7 p q;obtain⟨u,v⟩:=k7 r (by omega);exact⟨u,v.trans s⟩
theorem aT8 (x:xd.B)(h:x.2.1.b.1<=1000):Ok (xf x) (λr:CZ=>match r with
  |.inl e=>PR x.2.1 e
  |.inr e=>PR x.2.1 e.2.1):=by
 unfold xf KC;try dsimp only
 show PQ _ _;rw[aL];refine⟨λ_=>by rw[aw];exact⟨rfl,rfl,rfl,rfl,rfl,.inl ⟨rfl,rfl,rfl⟩⟩,λ_=> ?_⟩;rw[aQ,bO];refine⟨rfl,ax (aRd (((x.2.1.b.1,true),x.1),x.2.2) (by show x.2.1.b.1<=1999;omega)) λd _ hd=> ?_⟩;rw[bO];refine⟨rfl,ax (aOx x.2.1.b.1 d.1 hd.1 hd.2 (by omega) _ _ _ _ _ _ _ _ _ _ _ _ _ _ _ _ _ _ _) λd2 _ h2=> ?_⟩;rw[aL];refine⟨λc=> ?_,λ_=> ?_⟩
 .rw[aw];have c:=db c;exact⟨rfl,rfl,rfl,rfl,rfl,.inr (.inl ⟨rfl,rfl,h2,c⟩)⟩
 rw[bO,aQ,bO];refine⟨by simp only[bz,h2];omega,rfl,ax (aBE d2.1 0 1 (by omega) (by omega) (by rw[h2];omega) _ _ _ _ _ _ _ _ _) λd3 _ h3=> ?_⟩;rw[aw];have e:d3.1=x.2.1.b.1:=by rw[h3,h2];simp
 exact⟨rfl,rfl,rfl,rfl,rfl,.inr (.inr ⟨rfl,rfl,e⟩)⟩
theorem aLT (x:m5.B):Ok (kF x) (λr:EB=>SR x.1 r):=by
 unfold kF xG;show PQ _ _;rw[aw];exact⟨rfl,rfl⟩
theorem aLU (n:Nat)(p q z:Int)(w:Int×Int×Int×Int×Int):∀(d:iG.B) (hd:0<=d.1.2/\d.1.2<=(n:Int)/\d.2.1.2.2.1=n/\n<=1999/\d.2.1.2.1=z/\d.2.1.1=w/\d.1.1=p/\d.2.1.2.2.2=q),Ok (Gu d) (λx:sX=>match x with
   |.inl e=>0<=e.1.2.1/\e.1.2.1<=(n:Int)/\e.1.2.2.1=n/\e.2.1.2.1=z/\e.2.1.1=w/\e.1.1=p/\e.2.1.2.2=q
   |.inr e=>0<=e.1.2.1/\e.1.2.1<=(n:Int)/\e.1.2.2.1=n/\e.2.1.2.1=z/\e.2.1.1=w/\e.1.1=p/\e.2.1.2.2=q):=
 bV (λd:iG.B=>z4 (n-d.1.2)) (λd hd=>by
  have hw:wI (d.1.2+1)=d.1.2+1:=aZ;obtain⟨i0,i1,i2,i3,i4,i5,i6⟩:=hd;unfold Gs;try dsimp only
  rw[aL];refine⟨λh=> ?_,λ_=>by rw[aw];exact⟨i0,i1,i2,i4,i5,i6⟩⟩;have h:=db h;rw[dH] at h;rw[bO,aL];refine⟨by simp only[bz];omega,λ_=> ?_,λ_=>by rw[aw];exact⟨i0,i1,i2,i4,i5,i6⟩⟩;rw[aw,mK];simp only[hw];exact⟨⟨by omega,by omega,i2,i3,i4,i5,i6⟩,by omega⟩) (λd hd=>by omega)
theorem aT9 (x:xg.B)(h:x.2.1.2.2.1<=1000):Ok (xi x) (λr:C2=>r.1<=x.2.1.2.2.1/\BR x.1 x.2.1 r.2.1):=by
 unfold xi KE;try dsimp only
 show PQ _ _;rw[aQ,bO];refine⟨rfl,ax (aLU x.2.1.2.2.1 x.1 x.2.1.2.2.2 x.2.1.2.1 x.2.1.1 _ ⟨by dsimp only;omega,by dsimp only;omega,rfl,by omega,rfl,rfl,rfl,rfl⟩) λy _ hy=> ?_⟩;rw[tw];constructor
 all_goals
  rintro d rfl
  obtain⟨i0,i1,i2,i4,i5,i6,i7⟩:=hy;rw[bO];refine⟨by simp only[adR];omega,?_⟩;rw[aQ,bO];refine⟨rfl,ax (aRe (z4 d.1.2.1) (by omega) _ _ _ _ _ _ _ _ _ _) λd1 _ h1=> ?_⟩;rw[aQ,bO];refine⟨rfl,ax (aBE d.1.2.2.1 0 d.1.2.1 (by omega) i0 (by rw[i2];exact i1) _ _ _ _ _ _ _ _ _) λd2 _ h2=> ?_⟩;rw[aw];have h2:d2.1=x.2.1.2.2.1-z4 d.1.2.1:=by rw[h2,i2];simp only[Int.toNat_zero];omega
  refine⟨?_,λU p q=> ?_,i4,?_,fe (λz=>z.1) i5,fe (λz=>z.2.1) i5,fe (λz=>z.2.2.1) i5,fe (λz=>z.2.2.2.1) i5,λp q=> ?_⟩
  .show d1.1<=_;rw[h1];omega
  .show(if d.1.1>d.2.1.2.2 then d.1.1 else d.2.1.2.2)<=U;rw[i6,i7];split<;>assumption
  .show d2.1<=_;rw[h2];omega
  .have e:d.2.1.1.2.2.2.2=x.2.1.1.2.2.2.2:=fe (λz=>z.2.2.2.2) i5;have hw:wI (d.2.1.1.2.2.2.2+d.1.2.1)=x.2.1.1.2.2.2.2+d.1.2.1:=by rw[e];exact dS (by omega) (by omega)
   show 0<=wI (d.2.1.1.2.2.2.2+d.1.2.1)/\wI (d.2.1.1.2.2.2.2+d.1.2.1)+((d2.1:Nat):Int)=_;rw[hw,h2];omega
end Go.Proofs.YtldgljclcgaibaaGreat
noncomputable section
namespace Go.Proofs.YtldgljclcgaibaaGreat
open Go.Ab Go.Ab.Pg Go.Ab.Rq
def aJk:=qa (pr (cu aS (c lz abA)) bJ)
def at4:=qe (res (pr (aa aDI) (pl mF nil)))
abbrev aJl:=at4.B
abbrev aJm:=NI->Int->Int->Int->Int->Int->Int->Int->Int->Bool->Option aJl
def aJn (g:aJm):Ct:=(164,FC aJk (lf at4) (λb=>g b.1.1 b.1.2.1 b.1.b.1 b.1.b.2.1.1 b.1.b.2.1.2.1 b.1.b.2.1.b b.1.c.1 b.1.c.2.1 b.1.c.b b.2))
def zu:=qs (st (pr (cu aS (us 5 (cu Ra (cu azB (cu aR0 (cu aIo (us 1 (cu aR1 (cu aR2 (c ai (c ai (us 98 (c ai (us 12 (c afE (cl ai (us 64 nil))))))))))))))))) (pl (c bE (c mG (c (so afL) (c xP (c mG (c (so aDY) akS)))))) bK)))
def aBF:=qs (st (pr (cu aS (us 5 (cu Ra (cu azB (cu aR0 (cu aIo (us 1 (cu aR1 (cu aR2 (c ai (c ai (us 98 (c ai (us 12 (c afE (c ai (cl ab (us 63 nil)))))))))))))))))) (pl (c bE (c mG (c (so afL) (c xP (c mG (c (so aDY) akS)))))) bK)))
abbrev Se:=aBF.B
def aBG {ρ:Type}:=@ef Se ((.ex 2)) aBF ρ
def aoe (aC:bR)(d:zu.B):PL zu Se:=let n6:=d.1.1;let n4:=d.1.2;let n3:=d.2.2.2;let n5:=n3.2.2;let n2:=n4.2.2;let n1:=(n6,n4.1,n4.2.1,n2.1,wI (n2.2+1));let y0:=wI (0+n4.1);let y1:=wI (10+n2.2);let y2:=decide (n2.2<3);let y3:=z4 y0*24+z4 y1;ae y2 (ae (bg n2.2 3) (ae (n2.2==2) (opt (aC n6 n2.1.2.2 30 d.2.1) λak=>ae (bg y0 24) (ae (bg y1 24) (ae (true&&wl (0+y3*1+1) 576) (ret (ww (n1,ak.2,d.2.2.1,n3.1,n3.2.1,λj=>bif z9 j y3 then wI (0-ak.1) else n5.1 j,n5.2))) no) no) no) (ae (n2.2==1) (opt (aC n6 n2.1.2.1 30 d.2.1) λak=>ae (bg y0 24) (ae (bg y1 24) (ae (true&&wl (0+y3*1+1) 576) (ret (ww (n1,ak.2,d.2.2.1,n3.1,n3.2.1,λj=>bif z9 j y3 then wI (0-ak.1) else n5.1 j,n5.2))) no) no) no) (opt (aC n6 n2.1.1 30 d.2.1) λak=>ae (bg y0 24) (ae (bg y1 24) (ae (true&&wl (0+y3*1+1) 576) (ret (ww (n1,ak.2,d.2.2.1,n3.1,n3.2.1,λj=>bif z9 j y3 then wI (0-ak.1) else n5.1 j,n5.2))) no) no) no))) no) (ret (ws ((n6,n4.1,n4.2.1,n2.1,n2.2,y2),d.2)))
def aof:=bI (aoe aW) 2000
def zw:=qs (st (pr (cu aS (us 5 (cu Ra (cu azB (us 1 (cu aR3 (us 7 (cu aR4 (c ai (us 130 (c ai (us 10 aVu)))))))))))) (pl (c bE (c mG (c (so afL) (c mG akS)))) bK)))
def aBH:=qs (st (pr (cu aS (us 5 (cu Ra (cu azB (us 1 (cu aR3 (us 7 (cu aR4 (c ai (us 130 (c ai (us 10 aVz)))))))))))) (pl (c bE (c mG (c (so afL) (c mG akS)))) bK)))
abbrev Sf:=aBH.B
def aBI {ρ:Type}:=@ef Sf ((.ex 6)) aBH ρ
def aog (aC:bR)(d:zw.B):PL zw Sf:=let n2:=d.2.2.2;let n1:=d.1.2;let y0:=wI (4+d.1.1);let y1:=wI (13+n1.2);let y2:=decide (n1.2<3);let y3:=wI (wI (3*d.1.1)+n1.2);let y4:=z4 y0*24+z4 y1;ae y2 (ae (bg y3 9) (opt (aC (n2.1.2.2.2.2.2.2.2.2.2.2.2 (z4 y3)) n2.1.1 30 d.2.1) λak=>ae (bg y0 24) (ae (bg y1 24) (ae (true&&wl (0+y4*1+1) 576) (ret (ww ((d.1.1,n1.1,wI (n1.2+1)),ak.2,d.2.2.1,n2.1,λj=>bif z9 j y4 then wI (0-ak.1) else n2.2.1 j,n2.2.2))) no) no) no) no) (ret (ws ((d.1.1,n1.1,n1.2,y2),d.2)))
def aoh:=bI (aog aW) 2000
def zy:=qs (st (pr (cu aS (us 5 (cu Ra (cu azB (cu aR0 (cu aIo (us 1 (cu aR1 (cu aR2 (c ai (us 99 (cl ai (us 78 nil))))))))))))) (pl (c bE (c mG (c (so afL) (c xP (c mG (c (so aDY) akS)))))) bK)))
def aBJ:=qs (st (pr (cu aS (us 5 (cu Ra (cu azB (cu aR0 (cu aIo (us 1 (cu aR1 (cu aR2 (c ai (us 99 (c ai (cl ab (us 77 nil)))))))))))))) (pl (c bE (c mG (c (so afL) (c xP (c mG (c (so aDY) akS)))))) bK)))
abbrev Sh:=aBJ.B
def aBK {ρ:Type}:=@ef Sh ((.ex 0)) aBJ ρ
def aoi (pD:LT zu Se)(d:zy.B):PL zy Sh:=let bP:=d.2.1;let bC:=d.1.1;let aT:=d.2.2.1;let n7:=d.1.2;let n6:=d.2.2.2;let n15:=n6.2.1;let bh:=n6.2.2.1;let n4:=n6.2.2.2;let n21:=n4.2.2.2;let n17:=n4.1.2;let bB:=n21.2.2.2;let n20:=bB.2.2.2;let n9:=n17.2.2;let n18:=n9.2.2;let n5:=n18.2.2;let n19:=n5.2.2;let n8:=n19.2.2;let n16:=n8.2.2;let n3:=(n4.2.1,n4.2.2.1,n21.1);let n2:=(n21.2.1,n21.2.2.1,bB.1);let n1:=(bB.2.1,bB.2.2.1,n20.1);let y0:=bg n7 4;let y1:=n7==2;let y2:=n7==1;let y3:=n7==3;let y4:=wI (0+n7);let y5:=0+z4 y4*24;let y6:=y5+1;let y7:=true&&wl (y5+4) 576;let y8:=y6+1;let y9:=decide (n7<4);ae y9 (ae (bg y4 24) (ae y0 (ae y3 (ae y7 (ae y0 (ae y3 (opt (pD ((bC,n7,n7,n20.2,0),bP,aT,n6.1,n15,λj=>bif z9 j (y8+1) then n16.2.2 else bif z9 j y8 then n16.2.1 else bif z9 j y6 then n16.1 else bif z9 j y5 then n8.2.1 else bh j,n4)) λd=>ret (ww ((d.1.1,wI (d.1.2.2.1+1)),d.2))) (ae y1 (opt (pD ((bC,n7,n7,n1,0),bP,aT,n6.1,n15,λj=>bif z9 j (y8+1) then n16.2.2 else bif z9 j y8 then n16.2.1 else bif z9 j y6 then n16.1 else bif z9 j y5 then n8.2.1 else bh j,n4)) λd=>ret (ww ((d.1.1,wI (d.1.2.2.1+1)),d.2))) (ae y2 (opt (pD ((bC,n7,n7,n2,0),bP,aT,n6.1,n15,λj=>bif z9 j (y8+1) then n16.2.2 else bif z9 j y8 then n16.2.1 else bif z9 j y6 then n16.1 else bif z9 j y5 then n8.2.1 else bh j,n4)) λd=>ret (ww ((d.1.1,wI (d.1.2.2.1+1)),d.2))) (opt (pD ((bC,n7,n7,n3,0),bP,aT,n6.1,n15,λj=>bif z9 j (y8+1) then n16.2.2 else bif z9 j y8 then n16.2.1 else bif z9 j y6 then n16.1 else bif z9 j y5 then n8.2.1 else bh j,n4)) λd=>ret (ww ((d.1.1,wI (d.1.2.2.1+1)),d.2)))))) no) no) (ae y1 (ae y7 (ae y0 (ae y3 (opt (pD ((bC,n7,n7,n20.2,0),bP,aT,n6.1,n15,λj=>bif z9 j (y8+1) then n8.1 else bif z9 j y8 then n19.2.1 else bif z9 j y6 then n19.1 else bif z9 j y5 then n5.2.1 else bh j,n4)) λd=>ret (ww ((d.1.1,wI (d.1.2.2.1+1)),d.2))) (ae y1 (opt (pD ((bC,n7,n7,n1,0),bP,aT,n6.1,n15,λj=>bif z9 j (y8+1) then n8.1 else bif z9 j y8 then n19.2.1 else bif z9 j y6 then n19.1 else bif z9 j y5 then n5.2.1 else bh j,n4)) λd=>ret (ww ((d.1.1,wI (d.1.2.2.1+1)),d.2))) (ae y2 (opt (pD ((bC,n7,n7,n2,0),bP,aT,n6.1,n15,λj=>bif z9 j (y8+1) then n8.1 else bif z9 j y8 then n19.2.1 else bif z9 j y6 then n19.1 else bif z9 j y5 then n5.2.1 else bh j,n4)) λd=>ret (ww ((d.1.1,wI (d.1.2.2.1+1)),d.2))) (opt (pD ((bC,n7,n7,n3,0),bP,aT,n6.1,n15,λj=>bif z9 j (y8+1) then n8.1 else bif z9 j y8 then n19.2.1 else bif z9 j y6 then n19.1 else bif z9 j y5 then n5.2.1 else bh j,n4)) λd=>ret (ww ((d.1.1,wI (d.1.2.2.1+1)),d.2)))))) no) no) (ae y2 (ae y7 (ae y0 (ae y3 (opt (pD ((bC,n7,n7,n20.2,0),bP,aT,n6.1,n15,λj=>bif z9 j (y8+1) then n5.1 else bif z9 j y8 then n18.2.1 else bif z9 j y6 then n18.1 else bif z9 j y5 then n9.2.1 else bh j,n4)) λd=>ret (ww ((d.1.1,wI (d.1.2.2.1+1)),d.2))) (ae y1 (opt (pD ((bC,n7,n7,n1,0),bP,aT,n6.1,n15,λj=>bif z9 j (y8+1) then n5.1 else bif z9 j y8 then n18.2.1 else bif z9 j y6 then n18.1 else bif z9 j y5 then n9.2.1 else bh j,n4)) λd=>ret (ww ((d.1.1,wI (d.1.2.2.1+1)),d.2))) (ae y2 (opt (pD ((bC,n7,n7,n2,0),bP,aT,n6.1,n15,λj=>bif z9 j (y8+1) then n5.1 else bif z9 j y8 then n18.2.1 else bif z9 j y6 then n18.1 else bif z9 j y5 then n9.2.1 else bh j,n4)) λd=>ret (ww ((d.1.1,wI (d.1.2.2.1+1)),d.2))) (opt (pD ((bC,n7,n7,n3,0),bP,aT,n6.1,n15,λj=>bif z9 j (y8+1) then n5.1 else bif z9 j y8 then n18.2.1 else bif z9 j y6 then n18.1 else bif z9 j y5 then n9.2.1 else bh j,n4)) λd=>ret (ww ((d.1.1,wI (d.1.2.2.1+1)),d.2)))))) no) no) (ae y7 (ae y0 (ae y3 (opt (pD ((bC,n7,n7,n20.2,0),bP,aT,n6.1,n15,λj=>bif z9 j (y8+1) then n9.1 else bif z9 j y8 then n17.2.1 else bif z9 j y6 then n17.1 else bif z9 j y5 then n4.1.1 else bh j,n4)) λd=>ret (ww ((d.1.1,wI (d.1.2.2.1+1)),d.2))) (ae y1 (opt (pD ((bC,n7,n7,n1,0),bP,aT,n6.1,n15,λj=>bif z9 j (y8+1) then n9.1 else bif z9 j y8 then n17.2.1 else bif z9 j y6 then n17.1 else bif z9 j y5 then n4.1.1 else bh j,n4)) λd=>ret (ww ((d.1.1,wI (d.1.2.2.1+1)),d.2))) (ae y2 (opt (pD ((bC,n7,n7,n2,0),bP,aT,n6.1,n15,λj=>bif z9 j (y8+1) then n9.1 else bif z9 j y8 then n17.2.1 else bif z9 j y6 then n17.1 else bif z9 j y5 then n4.1.1 else bh j,n4)) λd=>ret (ww ((d.1.1,wI (d.1.2.2.1+1)),d.2))) (opt (pD ((bC,n7,n7,n3,0),bP,aT,n6.1,n15,λj=>bif z9 j (y8+1) then n9.1 else bif z9 j y8 then n17.2.1 else bif z9 j y6 then n17.1 else bif z9 j y5 then n4.1.1 else bh j,n4)) λd=>ret (ww ((d.1.1,wI (d.1.2.2.1+1)),d.2)))))) no) no)))) no) no) (ret (ws ((bC,n7,y9),d.2)))
def aoj:=bI (aoi aof) 2000
def zz:=qs (st (pr (cu aS (us 5 (cu Ra (cu azB (us 1 (cu aR3 (us 7 (cu aR4 (us 131 (cl ai (us 42 nil))))))))))) (pl (c bE (c mG (c (so afL) (c mG akS)))) bK)))
def aBL:=qs (st (pr (cu aS (us 5 (cu Ra (cu azB (us 1 (cu aR3 (us 7 (cu aR4 (us 131 (c ai (cl ab (us 41 nil)))))))))))) (pl (c bE (c mG (c (so afL) (c mG akS)))) bK)))
abbrev Si:=aBL.B
def aBM {ρ:Type}:=@ef Si ((.ex 4)) aBL ρ
def aok (l_3:LT zw Sf)(d:zz.B):PL zz Si:=let n3:=d.2.2;let n1:=n3.2.2.2;let n2:=n1.2.2.2.2.2;let n4:=n2.2.2.2;let y0:=wI (4+d.1);let y1:=0+z4 y0*24;let y2:=y1+1;let y3:=true&&wl (y1+4) 576;let y4:=y2+1;let y5:=decide (d.1<3);ae y5 (ae (bg y0 24) (ae (bg d.1 3) (ae (d.1==2) (ae y3 (opt (l_3 ((d.1,d.1,0),d.2.1,n3.1,n3.2.1,λj=>bif z9 j (y4+1) then n4.2.2.2 else bif z9 j y4 then n4.2.2.1 else bif z9 j y2 then n4.2.1 else bif z9 j y1 then n4.1 else n3.2.2.1 j,n1)) λd=>let n5:=d.2.2.2;let y0:=wI (7+d.1.1);let y1:=wI (4+d.1.1);let y2:=z4 y0*24+z4 y1;ae (bg y0 24) (ae (bg y1 24) (ae (true&&wl (0+y2*1+1) 576) (ret (ww (wI (d.1.2.1+1),d.2.1,d.2.2.1,n5.1,λj=>bif z9 j y2 then n5.1.1 else n5.2.1 j,n5.2.2))) no) no) no) no) (ae (d.1==1) (ae y3 (opt (l_3 ((d.1,d.1,0),d.2.1,n3.1,n3.2.1,λj=>bif z9 j (y4+1) then n2.2.2.1 else bif z9 j y4 then n2.2.1 else bif z9 j y2 then n2.1 else bif z9 j y1 then n1.2.2.2.2.1 else n3.2.2.1 j,n1)) λd=>let n6:=d.2.2.2;let y0:=wI (7+d.1.1);let y1:=wI (4+d.1.1);let y2:=z4 y0*24+z4 y1;ae (bg y0 24) (ae (bg y1 24) (ae (true&&wl (0+y2*1+1) 576) (ret (ww (wI (d.1.2.1+1),d.2.1,d.2.2.1,n6.1,λj=>bif z9 j y2 then n6.1.1 else n6.2.1 j,n6.2.2))) no) no) no) no) (ae y3 (opt (l_3 ((d.1,d.1,0),d.2.1,n3.1,n3.2.1,λj=>bif z9 j (y4+1) then n1.2.2.2.1 else bif z9 j y4 then n1.2.2.1 else bif z9 j y2 then n1.2.1 else bif z9 j y1 then n1.1 else n3.2.2.1 j,n1)) λd=>let n7:=d.2.2.2;let y0:=wI (4+d.1.1);let y1:=wI (7+d.1.1);let y2:=z4 y1*24+z4 y0;ae (bg y1 24) (ae (bg y0 24) (ae (true&&wl (0+y2*1+1) 576) (ret (ww (wI (d.1.2.1+1),d.2.1,d.2.2.1,n7.1,λj=>bif z9 j y2 then n7.1.1 else n7.2.1 j,n7.2.2))) no) no) no) no))) no) no) (ret (ws ((d.1,y5),d.2)))
def aol:=bI (aok aoh) 2000
def ay2 (Bp:MH)(aR:fC)(bn:ey)(TF:DL)(aC:bR)(ac4:IW)(dR:LT zy Sh)(Km:LT zz Si)(x0:Nat->Int)(x1:Int)(x2:Int)(x3:Int)(x4:Int)(x5:Int)(x6:Int)(x7:Int)(x8:Int)(x9:Bool):Pg aJl:=opt (Bp x0 x1 x2 x3 x4 x5 x6 x7 x8 x9) λd=>let n1:=d.1.2.2.2.2.2.2.2;let n3:=n1.2.2;let y0:=wI (0-n1.2.1);let y1:=wI (0-n3.1);let y2:=wI (0-n3.2.1);opt (aR x0 d.2) λak=>opt (bn ak.1) λaF=>let ur:=wI (0-aF.2.1);let aAj:=wI (0-aF.2.2.2);let a1E:=wI (0-aF.2.2.1);opt TF λbA=>opt (aC d.1.1 536870912 30 ak.2) λcD=>opt (dR ((cD.1,0),cD.2,λx=>0,d.1,aF,bA,(n1.1,y0,y1,y2,n1.2.1,n1.1,n3.2.1,y1,n3.1,y2,n1.1,n1.2.1,n3.2.1,n3.1,y0,n1.1),ur,a1E,aAj,aF.1,aAj,aF.2.2.1,aF.2.2.2,aF.1,ur,a1E,aF.2.1,aF.1)) λd=>let n2:=d.2.2.2;let n4:=n2.1.2.2.2.2;opt (ac4 n2.2.1.1 n2.2.1.2.1 n2.2.1.2.2.1 n2.2.1.2.2.2 n4.1 n4.2.1 n4.2.2.1 d.2.1) λeU=>opt (Km (0,eU.2,d.2.2.1,n2.1,n2.2.2.1,eU.1)) λd=>ret (d.2.2.2.2.1,d.2.1)
def aeV:=λx0 x1 x2 x3 x4 x5 x6 x7 x8 x9=>(ay2 wE cg cC nF aW Ad aoj aol x0 x1 x2 x3 x4 x5 x6 x7 x8 x9).val
abbrev PO:=MH×fC×ey×DL×bR×IW×(LT zu Se)×(LT zw Sf)×(LT zy Sh)×(LT zz Si)
def V9 (p:PO):KK:=⟨[XL p.1,jl p.2.1,jM p.b.1,Tp p.b.2.1,eT p.c.1,acV p.c.2.1],⟨[⟨9,(rg 1 5 (10::rg 14 99 (rg 114 78 []))),[]⟩,⟨13,(rg 1 5 (10::rg 15 98 (rg 114 12 (rg 128 64 [])))),[]⟩,⟨20,(rg 1 5 (8::rg 10 7 (rg 18 131 (rg 150 42 [])))),[]⟩,⟨24,(rg 1 5 (8::rg 10 7 (rg 19 130 (rg 150 10 (rg 161 31 []))))),[]⟩],[fQ 13 1 zu aBG p.c.b.1,fQ 24 1 zw aBI p.c.b.2.1,fQ 9 1 zy aBK p.d.1,fQ 20 1 zz aBM p.d.2],[],[],(some ⟨0,(rg 0 6 (rg 7 185 [])),[]⟩)⟩,1,164⟩
theorem aLV (p:PO):LI (V9 p) 13 zu aBG (aoe p.c.1):=λ_ d c K=>by kernel_rfl
theorem aLW (p:PO):LI (V9 p) 24 zw aBI (aog p.c.1):=λ_ d c K=>by kernel_rfl
theorem aLX (p:PO):LI (V9 p) 9 zy aBK (aoi p.c.b.1):=λ_ d c K=>by kernel_rfl
theorem aLY (p:PO):LI (V9 p) 20 zz aBM (aok p.c.b.2.1):=λ_ d c K=>by kernel_rfl
theorem aUa (p:PO):D2 (V9 p) aJk (lf at4) λb=>ay2 p.1 p.2.1 p.b.1 p.b.2.1 p.c.1 p.c.2.1 p.d.1 p.d.2 b.1.1 b.1.2.1 b.1.b.1 b.1.b.2.1.1 b.1.b.2.1.2.1 b.1.b.2.1.b b.1.c.1 b.1.c.2.1 b.1.c.b b.2:=λb=>by kernel_rfl
abbrev Wa:PO:=(wE,cg,cC,nF,aW,Ad,aof,aoh,aoj,aol)
theorem aUb [aA]:SC (aJn aeV):=sc (kS (k:=V9 Wa) (.c amI (.c kn (.c kM (.c aiZ (.c fA (.c arx (.nil _))))))) [9,13,20,24] [] ⟨kL (aLX Wa),⟨kL (aLV Wa),⟨kL (aLY Wa),⟨kL (aLW Wa),trivial⟩⟩⟩⟩ trivial (aUa Wa))
def aBN:=qa (pr (cu aS (c Fx (c lz (c (aa aDT) asu)))) bJ)
def ah8:=qe aPT
abbrev aBO:=ah8.B
abbrev aom:=NI->NI->NI->Int->Int->Int->Int->Int->Int->Int->Int->NI->Bool->Option aBO
def aBP (g:aom):Ct:=(107,FC aBN (lf ah8) (λb=>g b.1.1.1 b.1.1.2 b.1.2.1 b.1.b.1.1 b.1.b.1.2.1 b.1.b.1.b.1.1 b.1.b.1.b.1.2.1 b.1.b.1.b.1.b b.1.b.1.b.2.1 b.1.b.1.c.1 b.1.b.1.c.2 b.1.b.2 b.2))
def abh (apc:aJm)(VX:avS)(vZ:Hb)(x0:Nat->Int)(x1:Nat->Int)(x2:Nat->Int)(x3:Int)(x4:Int)(x5:Int)(x6:Int)(x7:Int)(x8:Int)(x9:Int)(fU:Int)(fV:Nat->Int)(Et:Bool):Pg aBO:=opt (apc x2 x3 x4 x5 x6 x7 x8 x9 fU Et) λd=>opt (VX fV x4 d.2) λak=>opt (vZ x0 x1 d.1 ak.1 ak.2) λd=>ret d
def Ca:=λx0 x1 x2 x3 x4 x5 x6 x7 x8 x9 fU fV Et=>(abh aeV MM gI x0 x1 x2 x3 x4 x5 x6 x7 x8 x9 fU fV Et).val
theorem aOA:∀apc VX vZ,D0 [aJn apc,avT VX,O5 vZ] 107 aBN (lf ah8) λb=>abh apc VX vZ b.1.1.1 b.1.1.2 b.1.2.1 b.1.b.1.1 b.1.b.1.2.1 b.1.b.1.b.1.1 b.1.b.1.b.1.2.1 b.1.b.1.b.1.b b.1.b.1.b.2.1 b.1.b.1.c.1 b.1.b.1.c.2 b.1.b.2 b.2:=λ_ _ _ b=>by kernel_rfl
theorem aOB [aA]:SC (aBP Ca):=s0 (.c aUb (.c aLk (.c aeg (.nil _)))) (aOA aeV MM gI)
def Zc:=qa (pr (cu aS Fw) bJ)
def Nu:=qe aPM
def Di:=qe axq
abbrev Dj:=Nu.B⊕Di.B
def UR:Dj->T:=ls (lf Nu) (lf Di)
def Zd:Dj->T:=ls (λ_=>.fail) (lf Di)
abbrev Ze:=Int->Int->Int->Bool->Option Dj
def Zf (g:Ze):Ct:=(119,FC Zc Zd (λb=>g b.1.1 b.1.2.1 b.1.b b.2))
def KN (x0:Int)(x1:Int)(x2:Int)(x3:Bool):Pg Dj:=ae (decide (x1>x2)) (ret (ww x1)) (ae (decide (x0<x1)) (ret (ww x1)) (ae (decide (x0>x2)) (ret (ww x2)) (ret (ws x0))))
def xu:=λx0 x1 x2 x3=>(KN x0 x1 x2 x3).val
theorem at5:D0 [] 119 Zc UR λb=>KN b.1.1 b.1.2.1 b.1.b b.2:=λb=>by kernel_rfl
theorem at6 [aA]:SC (Zf xu):=sc (FH (R:=UR) (R':=Zd) (λd r h=>by rcases d with d|d<;>first|exact h|(have h:(none:Option pe)=some r:=h;cases h))<|k0 (.nil _) at5)
def aeW:=qa (pr (cu aS iA) bJ)
def Nv:=qe axq
abbrev aeX:=Nv.B
abbrev PS:=Int->Bool->Option aeX
def PU (g:PS):Ct:=(126,FC aeW (lf Nv) (λb=>g b.1 b.2))
def PX (Dk:Ze)(x0:Int)(x1:Bool):Pg aeX:=opt (Dk x0 (-1152921504606846976) 1152921504606846976 x1) λd=>sm d (λd=>no) (λd=>ret d)
def rA:=λx0 x1=>(PX xu x0 x1).val
theorem ay3:∀Dk,D0 [Zf Dk] 126 aeW (lf Nv) λb=>PX Dk b.1 b.2:=λ_ b=>by kernel_rfl
theorem aeY [aA]:SC (PU rA):=s0 (.c at6 (.nil _)) (ay3 xu)
def aeZ:=qa (pr (cu aS (c ai (c ab aMz))) bJ)
def Sj:=qe aPM
def GH:=qe axq
abbrev Hq:=Sj.B⊕GH.B
def abi:Hq->T:=ls (lf Sj) (lf GH)
def ae0:Hq->T:=ls (λ_=>.fail) (lf GH)
abbrev ae1:=Int->Bool->Bool->Bool->Option Hq
def ae2 (g:ae1):Ct:=(198,FC aeZ ae0 (λb=>g b.1.1 b.1.2.1 b.1.b b.2))
def PY (jK:WG)(je:PS)(x0:Int)(x1:Bool)(x2:Bool)(x3:Bool):Pg Hq:=ae (!x1) (opt (jK x2) λd=>ret (ww d)) (opt (je x0 x3) λd=>ret (ws d))
def BH:=λx0 x1 x2 x3=>(PY nS rA x0 x1 x2 x3).val
theorem ay4:∀jK je,D0 [WH jK,PU je] 198 aeZ abi λb=>PY jK je b.1.1 b.1.2.1 b.1.b b.2:=λ_ _ b=>by kernel_rfl
theorem ay5 [aA]:SC (ae2 BH):=sc (FH (R:=abi) (R':=ae0) (λd r h=>by rcases d with d|d<;>first|exact h|(have h:(none:Option pe)=some r:=h;cases h))<|k0 (.c agy (.c aeY (.nil _))) (ay4 nS rA))
def ajW:=qa (pr (cu aS (c afC iA)) bJ)
def US:=qe aPM
def Iq:=qe axq
abbrev JU:=US.B⊕Iq.B
def ae3:JU->T:=ls (lf US) (lf Iq)
def ajX:JU->T:=ls (λ_=>.fail) (lf Iq)
abbrev ajY:=Int->Int->Int->Bool->Option JU
def ajZ (g:ajY):Ct:=(128,FC ajW ajX (λb=>g b.1.1.1 b.1.1.2 b.1.2 b.2))
def Uj (jK:WG)(yM:alG)(Hr:ae1)(x0:Int)(x1:Int)(x2:Int)(x3:Bool):Pg JU:=let y0:=decide (x0<0);ae (x2==0) (ae (x0==0&&(x1==0&&true)) (ret (ww 0)) (opt (jK y0) λd=>ret (ww d))) (opt (yM x0 x1 x2) λd=>opt (Hr d.1 d.2 (!y0==decide (x2<0)) x3) λd=>sm d (λd=>no) (λd=>ret (ws d)))
def JV:=λx0 x1 x2 x3=>(Uj nS BV BH x0 x1 x2 x3).val
theorem aCY:∀jK yM Hr,D0 [WH jK,alH yM,ae2 Hr] 128 ajW ae3 λb=>Uj jK yM Hr b.1.1.1 b.1.1.2 b.1.2 b.2:=λ_ _ _ b=>by kernel_rfl
theorem aCZ [aA]:SC (ajZ JV):=sc (FH (R:=ae3) (R':=ajX) (λd r h=>by rcases d with d|d<;>first|exact h|(have h:(none:Option pe)=some r:=h;cases h))<|k0 (.c agy (.c az8 (.c ay5 (.nil _)))) (aCY nS BV BH))
def UT:=qa (pr (cu aS Fw) bJ)
def GI:=qe axq
abbrev UU:=GI.B
abbrev Ir:=Int->Int->Int->Bool->Option UU
def Is (g:Ir):Ct:=(78,FC UT (lf GI) (λb=>g b.1.1 b.1.2.1 b.1.b b.2))
def It (je:PS)(cU:oy)(JW:ajY)(x0:Int)(x1:Int)(x2:Int)(x3:Bool):Pg UU:=opt (je x0 x3) λd=>opt (je x1 x3) λak=>opt (cU d ak) λd=>opt (je x2 x3) λaF=>opt (JW d.1 d.2 aF x3) λd=>sm d (λd=>no) (λd=>ret d)
def kv:=λx0 x1 x2 x3=>(It rA fE JV x0 x1 x2 x3).val
theorem apP:∀je cU JW,D0 [PU je,yK cU,ajZ JW] 78 UT (lf GI) λb=>It je cU JW b.1.1 b.1.2.1 b.1.b b.2:=λ_ _ _ b=>by kernel_rfl
theorem UW [aA]:SC (Is kv):=s0 (.c aeY (.c BU (.c aCZ (.nil _)))) (apP rA fE JV)
def HM:=qa (pr (c ai (c ai aJZ)) (cu asp bJ))
def xw:=qe aVW
abbrev HN:=xw.B
abbrev yi:=Int->Int->Int->Int->Bool->Option HN
def yj (g:yi):Ct:=(194,FC HM (lf xw) (λb=>g b.1.1 b.1.2.1 b.1.b.1 b.1.b.2 b.2))
def yk (aV:Ir)(x0:Int)(x1:Int)(x2:Int)(x3:Int)(x4:Bool):Pg HN:=opt (aV (wI (x1-x0)) x2 x3 x4) λd=>ret (wI (x0+d))
def gF:=λx0 x1 x2 x3 x4=>(yk kv x0 x1 x2 x3 x4).val
theorem ZK:∀aV,D0 [Is aV] 194 HM (lf xw) λb=>yk aV b.1.1 b.1.2.1 b.1.b.1 b.1.b.2 b.2:=λ_ b=>by kernel_rfl
theorem HO [aA]:SC (yj gF):=s0 (.c UW (.nil _)) (ZK kv)
def HP:=qa (pr (cl (aa (c gi aDP)) (cu aS (cu LA (cu (app 2 1) nil)))) (cu (cu (gc (ccl (pu (nat 194) (pu rq7 (pu we Dx))))) nil) (c mQ (c mQ (cu (cu (gp 4 1) nil) bJ)))))
def xx:=qe (res (pl ai (pu aVX nil)))
abbrev HQ:=xx.B
abbrev HR:=Int->Int->Int->Int->Int->Int->Int->Int->Int->Bool->Option HQ
def HS (g:HR):Ct:=(195,FC HP (lf xx) (λb=>g b.1.1 b.1.2.1 b.1.b.1 b.1.b.2.1 b.1.c.1 b.1.c.2.1 b.1.c.b b.2.1 b.b.1 b.b.2))
def ym (ao:yi)(x0:Int)(x1:Int)(x2:Int)(x3:Int)(x4:Int)(x5:Int)(x6:Int)(x7:Int)(x8:Int)(x9:Bool):Pg HQ:=let y0:=wI (x2*1073741824);let y1:=wI (x6*1073741824);let y2:=wI (x3*1073741824);let y3:=wI (x0*1073741824);let y4:=wI (x7+1);let y5:=wI (x5*1073741824);let y6:=wI (x1*1073741824);let y7:=wI (x4*1073741824);let y8:=bg y4 7;let y9:=y4==5;let At:=y4==1;let Au:=y4==6;let C6:=y4==2;let C7:=y4==3;let C8:=y4==4;ae (bg x7 7) (ae (x7==6) (ae y8 (ae Au (opt (ao y1 y1 x8 600000000 x9) λd=>ret d) (ae y9 (opt (ao y1 y5 x8 600000000 x9) λd=>ret d) (ae C8 (opt (ao y1 y7 x8 600000000 x9) λd=>ret d) (ae C7 (opt (ao y1 y2 x8 600000000 x9) λd=>ret d) (ae C6 (opt (ao y1 y0 x8 600000000 x9) λd=>ret d) (ae At (opt (ao y1 y6 x8 600000000 x9) λd=>ret d) (opt (ao y1 y3 x8 600000000 x9) λd=>ret d))))))) no) (ae (x7==5) (ae y8 (ae Au (opt (ao y5 y1 x8 600000000 x9) λd=>ret d) (ae y9 (opt (ao y5 y5 x8 600000000 x9) λd=>ret d) (ae C8 (opt (ao y5 y7 x8 600000000 x9) λd=>ret d) (ae C7 (opt (ao y5 y2 x8 600000000 x9) λd=>ret d) (ae C6 (opt (ao y5 y0 x8 600000000 x9) λd=>ret d) (ae At (opt (ao y5 y6 x8 600000000 x9) λd=>ret d) (opt (ao y5 y3 x8 600000000 x9) λd=>ret d))))))) no) (ae (x7==4) (ae y8 (ae Au (opt (ao y7 y1 x8 600000000 x9) λd=>ret d) (ae y9 (opt (ao y7 y5 x8 600000000 x9) λd=>ret d) (ae C8 (opt (ao y7 y7 x8 600000000 x9) λd=>ret d) (ae C7 (opt (ao y7 y2 x8 600000000 x9) λd=>ret d) (ae C6 (opt (ao y7 y0 x8 600000000 x9) λd=>ret d) (ae At (opt (ao y7 y6 x8 600000000 x9) λd=>ret d) (opt (ao y7 y3 x8 600000000 x9) λd=>ret d))))))) no) (ae (x7==3) (ae y8 (ae Au (opt (ao y2 y1 x8 600000000 x9) λd=>ret d) (ae y9 (opt (ao y2 y5 x8 600000000 x9) λd=>ret d) (ae C8 (opt (ao y2 y7 x8 600000000 x9) λd=>ret d) (ae C7 (opt (ao y2 y2 x8 600000000 x9) λd=>ret d) (ae C6 (opt (ao y2 y0 x8 600000000 x9) λd=>ret d) (ae At (opt (ao y2 y6 x8 600000000 x9) λd=>ret d) (opt (ao y2 y3 x8 600000000 x9) λd=>ret d))))))) no) (ae (x7==2) (ae y8 (ae Au (opt (ao y0 y1 x8 600000000 x9) λd=>ret d) (ae y9 (opt (ao y0 y5 x8 600000000 x9) λd=>ret d) (ae C8 (opt (ao y0 y7 x8 600000000 x9) λd=>ret d) (ae C7 (opt (ao y0 y2 x8 600000000 x9) λd=>ret d) (ae C6 (opt (ao y0 y0 x8 600000000 x9) λd=>ret d) (ae At (opt (ao y0 y6 x8 600000000 x9) λd=>ret d) (opt (ao y0 y3 x8 600000000 x9) λd=>ret d))))))) no) (ae (x7==1) (ae y8 (ae Au (opt (ao y6 y1 x8 600000000 x9) λd=>ret d) (ae y9 (opt (ao y6 y5 x8 600000000 x9) λd=>ret d) (ae C8 (opt (ao y6 y7 x8 600000000 x9) λd=>ret d) (ae C7 (opt (ao y6 y2 x8 600000000 x9) λd=>ret d) (ae C6 (opt (ao y6 y0 x8 600000000 x9) λd=>ret d) (ae At (opt (ao y6 y6 x8 600000000 x9) λd=>ret d) (opt (ao y6 y3 x8 600000000 x9) λd=>ret d))))))) no) (ae y8 (ae Au (opt (ao y3 y1 x8 600000000 x9) λd=>ret d) (ae y9 (opt (ao y3 y5 x8 600000000 x9) λd=>ret d) (ae C8 (opt (ao y3 y7 x8 600000000 x9) λd=>ret d) (ae C7 (opt (ao y3 y2 x8 600000000 x9) λd=>ret d) (ae C6 (opt (ao y3 y0 x8 600000000 x9) λd=>ret d) (ae At (opt (ao y3 y6 x8 600000000 x9) λd=>ret d) (opt (ao y3 y3 x8 600000000 x9) λd=>ret d))))))) no))))))) no
def mE:=λx0 x1 x2 x3 x4 x5 x6 x7 x8 x9=>(ym gF x0 x1 x2 x3 x4 x5 x6 x7 x8 x9).val
theorem ZL:∀ao,D0 [yj ao] 195 HP (lf xx) λb=>ym ao b.1.1 b.1.2.1 b.1.b.1 b.1.b.2.1 b.1.c.1 b.1.c.2.1 b.1.c.b b.2.1 b.b.1 b.b.2:=λ_ b=>by kernel_rfl
theorem ZM [aA]:SC (HS mE):=s0 (.c HO (.nil _)) (ZL gF)
def Ln:=qa (pr (cu aS HV) bJ)
def Ax:=qe aWe
abbrev Lo:=Ax.B
abbrev Lp:=Int->Int->Int->Bool->Option Lo
def Lq (g:Lp):Ct:=(120,FC Ln (lf Ax) (λb=>g b.1.1 b.1.2.1 b.1.b b.2))
def BI (cO:vI)(iO:Ih)(ao:yi)(aH:HR)(aV:Ir)(x0:Int)(x1:Int)(x2:Int)(x3:Bool):Pg Lo:=let y0:=wI (x1+1800000000);let y1:=wI (x0+900000000);let y2:=wI (t8 y1 450000000);let y3:=wI (t8 y0 600000000);let y4:=if 3<y2 then 3 else y2;let y5:=if 5<y3 then 5 else y3;let y6:=wI (y4+1);let y7:=wI (y0-wI (y5*600000000));opt (cO x0 x1 x2) λd=>ae (!d) (ret (0,1)) (opt iO λd=>ae (bg y4 5) (ae (y4==4) (opt (aH 1000 4000 (-3000) 500 3500 (-1200) 1000 y5 y7 x3) λd=>ae (bg y6 5) (ae (y6==4) (opt (aH 1000 4000 (-3000) 500 3500 (-1200) 1000 y5 y7 x3) λak=>opt (ao d ak (wI (y1-wI (y4*450000000))) 450000000 x3) λd=>opt (aV d 3373259426 19327352832000 x3) λd=>ret (d,0)) (ae (y6==3) (opt (aH 500 1500 (-1700) 100 700 (-800) 500 y5 y7 x3) λak=>opt (ao d ak (wI (y1-wI (y4*450000000))) 450000000 x3) λd=>opt (aV d 3373259426 19327352832000 x3) λd=>ret (d,0)) (ae (y6==2) (opt (aH 950 900 (-1400) (-500) (-300) 100 950 y5 y7 x3) λak=>opt (ao d ak (wI (y1-wI (y4*450000000))) 450000000 x3) λd=>opt (aV d 3373259426 19327352832000 x3) λd=>ret (d,0)) (ae (y6==1) (opt (aH 2200 2500 500 (-2200) (-3800) 0 2200 y5 y7 x3) λak=>opt (ao d ak (wI (y1-wI (y4*450000000))) 450000000 x3) λd=>opt (aV d 3373259426 19327352832000 x3) λd=>ret (d,0)) (opt (aH 3000 6000 (-2000) (-1500) (-6000) (-9000) 3000 y5 y7 x3) λak=>opt (ao d ak (wI (y1-wI (y4*450000000))) 450000000 x3) λd=>opt (aV d 3373259426 19327352832000 x3) λd=>ret (d,0)))))) no) (ae (y4==3) (opt (aH 500 1500 (-1700) 100 700 (-800) 500 y5 y7 x3) λd=>ae (bg y6 5) (ae (y6==4) (opt (aH 1000 4000 (-3000) 500 3500 (-1200) 1000 y5 y7 x3) λak=>opt (ao d ak (wI (y1-wI (y4*450000000))) 450000000 x3) λd=>opt (aV d 3373259426 19327352832000 x3) λd=>ret (d,0)) (ae (y6==3) (opt (aH 500 1500 (-1700) 100 700 (-800) 500 y5 y7 x3) λak=>opt (ao d ak (wI (y1-wI (y4*450000000))) 450000000 x3) λd=>opt (aV d 3373259426 19327352832000 x3) λd=>ret (d,0)) (ae (y6==2) (opt (aH 950 900 (-1400) (-500) (-300) 100 950 y5 y7 x3) λak=>opt (ao d ak (wI (y1-wI (y4*450000000))) 450000000 x3) λd=>opt (aV d 3373259426 19327352832000 x3) λd=>ret (d,0)) (ae (y6==1) (opt (aH 2200 2500 500 (-2200) (-3800) 0 2200 y5 y7 x3) λak=>opt (ao d ak (wI (y1-wI (y4*450000000))) 450000000 x3) λd=>opt (aV d 3373259426 19327352832000 x3) λd=>ret (d,0)) (opt (aH 3000 6000 (-2000) (-1500) (-6000) (-9000) 3000 y5 y7 x3) λak=>opt (ao d ak (wI (y1-wI (y4*450000000))) 450000000 x3) λd=>opt (aV d 3373259426 19327352832000 x3) λd=>ret (d,0)))))) no) (ae (y4==2) (opt (aH 950 900 (-1400) (-500) (-300) 100 950 y5 y7 x3) λd=>ae (bg y6 5) (ae (y6==4) (opt (aH 1000 4000 (-3000) 500 3500 (-1200) 1000 y5 y7 x3) λak=>opt (ao d ak (wI (y1-wI (y4*450000000))) 450000000 x3) λd=>opt (aV d 3373259426 19327352832000 x3) λd=>ret (d,0)) (ae (y6==3) (opt (aH 500 1500 (-1700) 100 700 (-800) 500 y5 y7 x3) λak=>opt (ao d ak (wI (y1-wI (y4*450000000))) 450000000 x3) λd=>opt (aV d 3373259426 19327352832000 x3) λd=>ret (d,0)) (ae (y6==2) (opt (aH 950 900 (-1400) (-500) (-300) 100 950 y5 y7 x3) λak=>opt (ao d ak (wI (y1-wI (y4*450000000))) 450000000 x3) λd=>opt (aV d 3373259426 19327352832000 x3) λd=>ret (d,0)) (ae (y6==1) (opt (aH 2200 2500 500 (-2200) (-3800) 0 2200 y5 y7 x3) λak=>opt (ao d ak (wI (y1-wI (y4*450000000))) 450000000 x3) λd=>opt (aV d 3373259426 19327352832000 x3) λd=>ret (d,0)) (opt (aH 3000 6000 (-2000) (-1500) (-6000) (-9000) 3000 y5 y7 x3) λak=>opt (ao d ak (wI (y1-wI (y4*450000000))) 450000000 x3) λd=>opt (aV d 3373259426 19327352832000 x3) λd=>ret (d,0)))))) no) (ae (y4==1) (opt (aH 2200 2500 500 (-2200) (-3800) 0 2200 y5 y7 x3) λd=>ae (bg y6 5) (ae (y6==4) (opt (aH 1000 4000 (-3000) 500 3500 (-1200) 1000 y5 y7 x3) λak=>opt (ao d ak (wI (y1-wI (y4*450000000))) 450000000 x3) λd=>opt (aV d 3373259426 19327352832000 x3) λd=>ret (d,0)) (ae (y6==3) (opt (aH 500 1500 (-1700) 100 700 (-800) 500 y5 y7 x3) λak=>opt (ao d ak (wI (y1-wI (y4*450000000))) 450000000 x3) λd=>opt (aV d 3373259426 19327352832000 x3) λd=>ret (d,0)) (ae (y6==2) (opt (aH 950 900 (-1400) (-500) (-300) 100 950 y5 y7 x3) λak=>opt (ao d ak (wI (y1-wI (y4*450000000))) 450000000 x3) λd=>opt (aV d 3373259426 19327352832000 x3) λd=>ret (d,0)) (ae (y6==1) (opt (aH 2200 2500 500 (-2200) (-3800) 0 2200 y5 y7 x3) λak=>opt (ao d ak (wI (y1-wI (y4*450000000))) 450000000 x3) λd=>opt (aV d 3373259426 19327352832000 x3) λd=>ret (d,0)) (opt (aH 3000 6000 (-2000) (-1500) (-6000) (-9000) 3000 y5 y7 x3) λak=>opt (ao d ak (wI (y1-wI (y4*450000000))) 450000000 x3) λd=>opt (aV d 3373259426 19327352832000 x3) λd=>ret (d,0)))))) no) (opt (aH 3000 6000 (-2000) (-1500) (-6000) (-9000) 3000 y5 y7 x3) λd=>ae (bg y6 5) (ae (y6==4) (opt (aH 1000 4000 (-3000) 500 3500 (-1200) 1000 y5 y7 x3) λak=>opt (ao d ak (wI (y1-wI (y4*450000000))) 450000000 x3) λd=>opt (aV d 3373259426 19327352832000 x3) λd=>ret (d,0)) (ae (y6==3) (opt (aH 500 1500 (-1700) 100 700 (-800) 500 y5 y7 x3) λak=>opt (ao d ak (wI (y1-wI (y4*450000000))) 450000000 x3) λd=>opt (aV d 3373259426 19327352832000 x3) λd=>ret (d,0)) (ae (y6==2) (opt (aH 950 900 (-1400) (-500) (-300) 100 950 y5 y7 x3) λak=>opt (ao d ak (wI (y1-wI (y4*450000000))) 450000000 x3) λd=>opt (aV d 3373259426 19327352832000 x3) λd=>ret (d,0)) (ae (y6==1) (opt (aH 2200 2500 500 (-2200) (-3800) 0 2200 y5 y7 x3) λak=>opt (ao d ak (wI (y1-wI (y4*450000000))) 450000000 x3) λd=>opt (aV d 3373259426 19327352832000 x3) λd=>ret (d,0)) (opt (aH 3000 6000 (-2000) (-1500) (-6000) (-9000) 3000 y5 y7 x3) λak=>opt (ao d ak (wI (y1-wI (y4*450000000))) 450000000 x3) λd=>opt (aV d 3373259426 19327352832000 x3) λd=>ret (d,0)))))) no))))) no)
def oQ:=λx0 x1 x2 x3=>(BI gx mN gF mE kv x0 x1 x2 x3).val
theorem ae4:∀cO iO ao aH aV,D0 [Af cO,Ii iO,yj ao,HS aH,Is aV] 120 Ln (lf Ax) λb=>BI cO iO ao aH aV b.1.1 b.1.2.1 b.1.b b.2:=λ_ _ _ _ _ b=>by kernel_rfl
theorem ae5 [aA]:SC (Lq oQ):=s0 (.c Eh (.c UO (.c HO (.c ZM (.c UW (.nil _)))))) (ae4 gx mN gF mE kv)
def ke:=qa (pu (cu iW nil) (cd wg λb0=>(c mb (c m8 (c (cl (gs b0.c.1 o6) nil) (cd xQ λb4=>(cd qO λb5=>(cd qP λb6=>(cd qQ λb7=>(cd qR λb8=>(cd qS λb9=>(c mH (cd zW λAv=>(c (cl (gs b0.e mc) nil) (c (cl (gs b4.b.1 aB) nil) (c (cl (gs b5.b.1 aB) nil) (c (cl (gs b6.b.1 aB) nil) (c (cl (gs b7.b.1 aB) nil) (c (cl (gs b8.b.1 aB) nil) (c (cl (gs b9.b.1 aB) nil) (cl (cl (gs Av.b jo) nil) nil)))))))))))))))))))))
def tf:=qe (res (pl ai (pu (cu fD axy) nil)))
abbrev D4:=tf.B
abbrev D5:=ke.B->Option D4
def D6 (g:D5):Ct:=(220,FC ke (lf tf) g)
def ui (tL:Lp)(x:ke.B):Pg D4:=let n1:=x.1.1.2.2.2.2.2.2.2.2.2.2.2.2.2;opt (tL n1.1 n1.2.1 n1.2.2 x.1.2.1) λd=>ret d.1
def kg:=λx=>(ui oQ x).val
theorem Uk:∀tL,D0 [Lq tL] 220 ke (lf tf) λb=>ui tL b:=λ_ b=>by kernel_rfl
theorem Ul [aA]:SC (D6 kg):=s0 (.c ae5 (.nil _)) (Uk oQ)
def oR:=qa (pr (cu iW Eo) (cd wg λb0=>(c mb (c m8 (c (cl (gs b0.c.1 o6) nil) (cd xQ λb4=>(cd qO λb5=>(cd qP λb6=>(cd qQ λb7=>(cd qR λb8=>(cd qS λb9=>(c mH (cd zW λAv=>(c (cl (gs b0.e mc) nil) (c (cl (gs b4.b.1 aB) nil) (c (cl (gs b5.b.1 aB) nil) (c (cl (gs b6.b.1 aB) nil) (c (cl (gs b7.b.1 aB) nil) (c (cl (gs b8.b.1 aB) nil) (c (cl (gs b9.b.1 aB) nil) (cl (cl (gs Av.b jo) nil) nil)))))))))))))))))))))
def EI:=qe asE
abbrev zA:=EI.B
abbrev Sk:=oR.B->Option zA
def Sl (g:Sk):Ct:=(173,FC oR (lf EI) g)
def zB (mW:aa1)(nL:D5)(abj:aBr)(Dl:YQ)(bm:rr)(Nw:anE)(bf:oM)(x:oR.B):Pg zA:=let bB:=x.2.2;let n6:=x.1.2.2.2;let n5:=x.2.1.1;let n15:=n5.2.2.2.2.2.2.2.2.2.1;let n7:=n5.2.2.2.2.1.2.2.2.1;let n4:=x.2.1.2.2;let bC:=n4.2.2.2.2.2.2.2.2.2.2.2.2.2.2;let n3:=bB.2.2.2.2;let n8:=n3.2.2.2;let y0:=z9 n4.2.2.1 n4.2.2.1;let y1:=z9 bC bC;let y2:=z9 bB.2.2.2.1.2.2.1 bB.2.2.2.1.2.2.1;let y3:=z9 n3.1.2.2.1 n3.1.2.2.1;let y4:=z9 n3.2.1.2.2.1 n3.2.1.2.2.1;let y5:=z9 n3.2.2.1.2.2.1 n3.2.2.1.2.2.1;let y6:=z9 n8.1.2.2.1 n8.1.2.2.1;let y7:=z9 n8.2.1.2.2.1 n8.2.1.2.2.1;let y8:=z9 n8.2.2.2.1.2.2 n8.2.2.2.1.2.2;opt (mW x.1.1 x.1.2.1 x.1.2.2.1 n6.1 n6.2.1 n6.2.2.1 n6.2.2.2.1 n6.2.2.2.2.1 n6.2.2.2.2.2 x.2.1.2.1) λd=>let n9:=d.1.1.2;ae y0 (ae y1 (ae y2 (ae y3 (ae y4 (ae y5 (ae y6 (ae y7 (ae y8 (opt (nL ((n5,d.2,n4),bB)) λak=>ae (n4.2.2.2.1.1==3) (opt (abj n4.1 d.1.1.1 n9.1 n9.2.1 n9.2.2 n7 d.2) λd=>let n16:=d.2.2.1;let n2:=d.2.2.2;let bP:=n2.2.1;let aT:=n2.2.2.2;opt (Dl n4.1 ak n15 n7 d.1) λaF=>ae (aF.1.2==0) (ae y0 (ae y1 (ae y2 (ae y3 (ae y4 (ae y5 (ae y6 (ae y7 (ae y8 (opt (bm ((3,4,true),(n5,aF.2,n4),(azx (λk=>cr (d.2.1 k) [aF.1.1.1 k,aT.2.1 k,n2.2.2.1 k,d.2.1 k]) (cr n16 [aF.1.1.2.1,aT.2.2,aT.1,n16],cr n2.1 [aF.1.1.2.2.1,n2.1,n2.1,n2.1],cr bP [aF.1.1.2.2.2,bP,bP,bP])),bB)) λd=>ret d.2.1) no) no) no) no) no) no) no) no) no) (ae y0 (ae y1 (ae y2 (ae y3 (ae y4 (ae y5 (ae y6 (ae y7 (ae y8 (opt (bm ((3,3,true),(n5,aF.2,n4),(azx (λk=>cr (d.2.1 k) [aT.2.1 k,n2.2.2.1 k,d.2.1 k]) (cr n16 [aT.2.2,aT.1,n16],cr n2.1 [n2.1,n2.1,n2.1],cr bP [bP,bP,bP])),bB)) λd=>ret d.2.1) no) no) no) no) no) no) no) no) no)) (opt (Nw n4.1 d.1.1.1 n9.1 n9.2.1 n9.2.2 ak n15 n7 d.2) λd=>let bh:=d.1.1.2;let n1:=d.1.1.1;ae (d.1.2!=0) (ae y0 (ae y1 (ae y2 (ae y3 (ae y4 (ae y5 (ae y6 (ae y7 (ae y8 (opt (bf (3,(n5,d.2,n4),bB)) λaF=>ret ((n5,d.2,n4),aF)) no) no) no) no) no) no) no) no) no) (ae y0 (ae y1 (ae y2 (ae y3 (ae y4 (ae y5 (ae y6 (ae y7 (ae y8 (opt (bm ((3,1,true),(n5,d.2,n4),(λj=>bif z9 j 0 then n1 0 else n1 0,λj=>bif z9 j 0 then n1 1 else n1 1,λj=>bif z9 j 0 then n1 2 else n1 2,λj=>bif z9 j 0 then n1 3 else n1 3,λj=>bif z9 j 0 then n1 4 else n1 4,λj=>bif z9 j 0 then n1 5 else n1 5,λj=>bif z9 j 0 then n1 6 else n1 6,λj=>bif z9 j 0 then n1 7 else n1 7,λj=>bif z9 j 0 then n1 8 else n1 8,λj=>bif z9 j 0 then n1 9 else n1 9,λj=>bif z9 j 0 then n1 10 else n1 10,λj=>bif z9 j 0 then n1 11 else n1 11,λj=>bif z9 j 0 then n1 12 else n1 12,λj=>bif z9 j 0 then n1 13 else n1 13,λj=>bif z9 j 0 then n1 14 else n1 14,λj=>bif z9 j 0 then n1 15 else n1 15,λj=>bif z9 j 0 then n1 16 else n1 16,λj=>bif z9 j 0 then n1 17 else n1 17,λj=>bif z9 j 0 then n1 18 else n1 18,λj=>bif z9 j 0 then n1 19 else n1 19,λj=>bif z9 j 0 then n1 20 else n1 20,λj=>bif z9 j 0 then n1 21 else n1 21,λj=>bif z9 j 0 then n1 22 else n1 22,λj=>bif z9 j 0 then n1 23 else n1 23,λj=>bif z9 j 0 then bh.1 else bh.1,λj=>bif z9 j 0 then bh.2.1 else bh.2.1,λj=>bif z9 j 0 then bh.2.2 else bh.2.2),bB)) λd=>ret d.2.1) no) no) no) no) no) no) no) no) no))) no) no) no) no) no) no) no) no) no
def lN:=λx=>(zB zf kg RD w7 dw Gb dC x).val
theorem aon:∀mW nL abj Dl bm Nw bf,D0 [aa2 mW,D6 nL,aBs abj,YR Dl,ru bm,anF Nw,oN bf] 173 oR (lf EI) λb=>zB mW nL abj Dl bm Nw bf b:=λ_ _ _ _ _ _ _ b=>by kernel_rfl
theorem aoo [aA]:SC (Sl lN):=s0 (.c anx (.c Ul (.c aOn (.c atJ (.c xp (.c aGj (.c sZ (.nil _)))))))) (aon zf kg RD w7 dw Gb dC)
def tM:=qa (pr (cu iW (c ai Eo)) (cd wg λb0=>(c mb (c m8 (c (cl (gs b0.c.1 o6) nil) (cd xQ λb4=>(cd qO λb5=>(cd qP λb6=>(cd qQ λb7=>(cd qR λb8=>(cd qS λb9=>(c mH (cd zW λAv=>(c (cl (gs b0.e mc) nil) (c (cl (gs b4.b.1 aB) nil) (c (cl (gs b5.b.1 aB) nil) (c (cl (gs b6.b.1 aB) nil) (c (cl (gs b7.b.1 aB) nil) (c (cl (gs b8.b.1 aB) nil) (c (cl (gs b9.b.1 aB) nil) (cl (cl (gs Av.b jo) nil) nil)))))))))))))))))))))
def Oh:=qe asE
def aks:=qe (res (pu Q' (pr (c aXj aQa) aKj)))
abbrev zC:=Oh.B⊕(((Fu×Bool×NI×(NI×NI)×Nat×qF×Bool×Int×kG×Bool×Bool×Bool×Int×Int×Int×En×Nat)×aRV×Int)×NI×NI×NI×NI×NI×NI×NI×NI×NI×NI)
def abk:zC->T:=ls (lf Oh) (λd=>lf aks (d.1,d.1.1.e,d.2))
abbrev Nx:=tM.B->Option zC
def abl (g:Nx):Ct:=(109,FC tM abk g)
def Ff (Dm:Y5)(sd:Jd)(jR:Ku)(pP:ant)(cF:No)(iP:H')(nM:aji)(bf:oM)(zD:Sk)(vp:Nq)(Dn:Y')(x:tM.B):Pg zC:=let n24:=x.2.1;let bB:=x.1.2;let n9:=x.2.2;let n8:=x.1.1;let n5:=bB.2.2.2;let n16:=n5.2.2.2;let n4:=n9.2.2.2.2;let bP:=n4.2.2.2;let n3:=n24.1;let n6:=n3.2.2.2.2.1;let n17:=n6.2.2.2;let n2:=n24.2.2;let n25:=n2.2.2;let n15:=n25.2.2.2.2.2.2;let n1:=(n24,bP.2.2.1);let y0:=bg n8 6;let y1:=n8==2;let y2:=n8==3;let y3:=n8==5;let y4:=n8==4;let y5:=n8==1;let y6:=z9 n25.1 n25.1;let y7:=z9 n15.2.2.2.2.2.2 n15.2.2.2.2.2.2;let y8:=z9 n9.2.2.2.1.2.2.1 n9.2.2.2.1.2.2.1;let y9:=z9 n4.1.2.2.1 n4.1.2.2.1;let At:=z9 n4.2.1.2.2.1 n4.2.1.2.2.1;let Au:=z9 n4.2.2.1.2.2.1 n4.2.2.1.2.2.1;let C6:=z9 bP.1.2.2.1 bP.1.2.2.1;let C7:=z9 bP.2.1.2.2.1 bP.2.1.2.2.1;let C8:=z9 bP.2.2.2.1.2.2 bP.2.2.2.1.2.2;ae (n25.2.1.1==0) (ret (ww n1)) (ae (n25.2.1.1==1) (ae y2 (ae (!n15.1) (ae y6 (ae y7 (ae y8 (ae y9 (ae At (ae Au (ae C6 (ae C7 (ae C8 (opt (Dm (bB,x.2)) λd=>sm d (λd=>ret (ww d)) (λd=>let n22:=d.1.1.2;let aT:=n22.2.2.2;let n23:=aT.2.2.2;ret (ws (((d.1.1.1,n22.1,n22.2.1,n22.2.2.1,aT.1,aT.2.1,aT.2.2.1,n23.1,n23.2.1,n23.2.2.1,true,n23.2.2.2),d.1.2),d.2)))) no) no) no) no) no) no) no) no) no) (ret (ww n1))) (ret (ww n1))) (ae (n8==0) (ae y6 (ae y7 (ae y8 (ae y9 (ae At (ae Au (ae C6 (ae C7 (ae C8 (opt (sd (bB,x.2)) λd=>sm d (λd=>let n18:=d.1.1.2;let n7:=n18.2.2.2.2;let n19:=n7.2.2.2;ret (ws (((d.1.1.1,n18.1,n18.2.1,n18.2.2.1,n18.2.2.2.1,n7.1,n7.2.1,n7.2.2.1,n19.1,n19.2.1,n19.2.2.1,true,n19.2.2.2.1,n19.2.2.2),d.1.2),d.2))) (λd=>ret (ww d))) no) no) no) no) no) no) no) no) no) (ae y5 (opt (jR bB.1 bB.2.1 bB.2.2.1 n5.1 n5.2.1 n5.2.2.1 n16.1 n16.2.1 n16.2.2 n24.2.1) λd=>let bC:=d.1.1;ae y0 (ae y3 (opt (pP n2.1 bC.1 bC.2 n17.2.2 d.2) λd=>ae y6 (ae y7 (ae y8 (ae y9 (ae At (ae Au (ae C6 (ae C7 (ae C8 (opt (cF ((n8,1,d.1),(n3,d.2,n2),n9)) λd=>ret (ww d)) no) no) no) no) no) no) no) no) no) (ae y4 (opt (pP n2.1 bC.1 bC.2 n17.2.1 d.2) λd=>ae y6 (ae y7 (ae y8 (ae y9 (ae At (ae Au (ae C6 (ae C7 (ae C8 (opt (cF ((n8,1,d.1),(n3,d.2,n2),n9)) λd=>ret (ww d)) no) no) no) no) no) no) no) no) no) (ae y2 (opt (pP n2.1 bC.1 bC.2 n17.1 d.2) λd=>ae y6 (ae y7 (ae y8 (ae y9 (ae At (ae Au (ae C6 (ae C7 (ae C8 (opt (cF ((n8,1,d.1),(n3,d.2,n2),n9)) λd=>ret (ww d)) no) no) no) no) no) no) no) no) no) (ae y1 (opt (pP n2.1 bC.1 bC.2 n6.2.2.1 d.2) λd=>ae y6 (ae y7 (ae y8 (ae y9 (ae At (ae Au (ae C6 (ae C7 (ae C8 (opt (cF ((n8,1,d.1),(n3,d.2,n2),n9)) λd=>ret (ww d)) no) no) no) no) no) no) no) no) no) (ae y5 (opt (pP n2.1 bC.1 bC.2 n6.2.1 d.2) λd=>ae y6 (ae y7 (ae y8 (ae y9 (ae At (ae Au (ae C6 (ae C7 (ae C8 (opt (cF ((n8,1,d.1),(n3,d.2,n2),n9)) λd=>ret (ww d)) no) no) no) no) no) no) no) no) no) (opt (pP n2.1 bC.1 bC.2 n6.1 d.2) λd=>ae y6 (ae y7 (ae y8 (ae y9 (ae At (ae Au (ae C6 (ae C7 (ae C8 (opt (cF ((n8,1,d.1),(n3,d.2,n2),n9)) λd=>ret (ww d)) no) no) no) no) no) no) no) no) no)))))) no) (ae y1 (opt (iP bB.1 bB.2.1 bB.2.2.1 n5.1 n5.2.1 n5.2.2.1 n16.1 n16.2.1 n16.2.2 n24.2.1) λd=>let bh:=d.1.1;let n21:=bh.2.2;let n20:=bh.2.1;ae y0 (ae y3 (opt (nM n2.1 bh.1 n20 n21 n17.2.2 d.2) λd=>ae (d.1.2!=0) (ae y6 (ae y7 (ae y8 (ae y9 (ae At (ae Au (ae C6 (ae C7 (ae C8 (opt (bf (n8,(n3,d.2,n2),n9)) λak=>ret (ww ((n3,d.2,n2),ak))) no) no) no) no) no) no) no) no) no) (ae y6 (ae y7 (ae y8 (ae y9 (ae At (ae Au (ae C6 (ae C7 (ae C8 (opt (cF ((n8,3,d.1.1),(n3,d.2,n2),n9)) λd=>ret (ww d)) no) no) no) no) no) no) no) no) no)) (ae y4 (opt (nM n2.1 bh.1 n20 n21 n17.2.1 d.2) λd=>ae (d.1.2!=0) (ae y6 (ae y7 (ae y8 (ae y9 (ae At (ae Au (ae C6 (ae C7 (ae C8 (opt (bf (n8,(n3,d.2,n2),n9)) λak=>ret (ww ((n3,d.2,n2),ak))) no) no) no) no) no) no) no) no) no) (ae y6 (ae y7 (ae y8 (ae y9 (ae At (ae Au (ae C6 (ae C7 (ae C8 (opt (cF ((n8,3,d.1.1),(n3,d.2,n2),n9)) λd=>ret (ww d)) no) no) no) no) no) no) no) no) no)) (ae y2 (opt (nM n2.1 bh.1 n20 n21 n17.1 d.2) λd=>ae (d.1.2!=0) (ae y6 (ae y7 (ae y8 (ae y9 (ae At (ae Au (ae C6 (ae C7 (ae C8 (opt (bf (n8,(n3,d.2,n2),n9)) λak=>ret (ww ((n3,d.2,n2),ak))) no) no) no) no) no) no) no) no) no) (ae y6 (ae y7 (ae y8 (ae y9 (ae At (ae Au (ae C6 (ae C7 (ae C8 (opt (cF ((n8,3,d.1.1),(n3,d.2,n2),n9)) λd=>ret (ww d)) no) no) no) no) no) no) no) no) no)) (ae y1 (opt (nM n2.1 bh.1 n20 n21 n6.2.2.1 d.2) λd=>ae (d.1.2!=0) (ae y6 (ae y7 (ae y8 (ae y9 (ae At (ae Au (ae C6 (ae C7 (ae C8 (opt (bf (n8,(n3,d.2,n2),n9)) λak=>ret (ww ((n3,d.2,n2),ak))) no) no) no) no) no) no) no) no) no) (ae y6 (ae y7 (ae y8 (ae y9 (ae At (ae Au (ae C6 (ae C7 (ae C8 (opt (cF ((n8,3,d.1.1),(n3,d.2,n2),n9)) λd=>ret (ww d)) no) no) no) no) no) no) no) no) no)) (ae y5 (opt (nM n2.1 bh.1 n20 n21 n6.2.1 d.2) λd=>ae (d.1.2!=0) (ae y6 (ae y7 (ae y8 (ae y9 (ae At (ae Au (ae C6 (ae C7 (ae C8 (opt (bf (n8,(n3,d.2,n2),n9)) λak=>ret (ww ((n3,d.2,n2),ak))) no) no) no) no) no) no) no) no) no) (ae y6 (ae y7 (ae y8 (ae y9 (ae At (ae Au (ae C6 (ae C7 (ae C8 (opt (cF ((n8,3,d.1.1),(n3,d.2,n2),n9)) λd=>ret (ww d)) no) no) no) no) no) no) no) no) no)) (opt (nM n2.1 bh.1 n20 n21 n6.1 d.2) λd=>ae (d.1.2!=0) (ae y6 (ae y7 (ae y8 (ae y9 (ae At (ae Au (ae C6 (ae C7 (ae C8 (opt (bf (n8,(n3,d.2,n2),n9)) λak=>ret (ww ((n3,d.2,n2),ak))) no) no) no) no) no) no) no) no) no) (ae y6 (ae y7 (ae y8 (ae y9 (ae At (ae Au (ae C6 (ae C7 (ae C8 (opt (cF ((n8,3,d.1.1),(n3,d.2,n2),n9)) λd=>ret (ww d)) no) no) no) no) no) no) no) no) no))))))) no) (ae y2 (ae y6 (ae y7 (ae y8 (ae y9 (ae At (ae Au (ae C6 (ae C7 (ae C8 (opt (zD (bB,x.2)) λd=>ret (ww d)) no) no) no) no) no) no) no) no) no) (ae y4 (ae y6 (ae y7 (ae y8 (ae y9 (ae At (ae Au (ae C6 (ae C7 (ae C8 (opt (vp (bB,x.2)) λd=>ret (ww d)) no) no) no) no) no) no) no) no) no) (ae y6 (ae y7 (ae y8 (ae y9 (ae At (ae Au (ae C6 (ae C7 (ae C8 (opt (Dn (bB,x.2)) λd=>ret (ww d)) no) no) no) no) no) no) no) no) no)))))))
def pQ:=λx=>(Ff oi ig og F9 jU mL DR dC lN jV oo x).val
theorem awV:∀Dm sd jR pP cF iP nM bf zD vp Dn,D1 [Y6 Dm,Je sd,Kv jR,anu pP,Np cF,Ia iP,ajj nM,oN bf,Sl zD,Ns vp,Za Dn] [0,10] 109 tM abk λb=>Ff Dm sd jR pP cF iP nM bf zD vp Dn b:=λ_ _ _ _ _ _ _ _ _ _ _ b=>by kernel_rfl
theorem awW [aA]:SC (abl pQ):=s0 (.c atY (.c adq (.c Yx (.c aGh (.c ah4 (.c UI (.c aCD (.c sZ (.c aoo (.c ah6 (.c at3 (.nil _)))))))))))) (awV oi ig og F9 jU mL DR dC lN jV oo)
def kX:=qa (pr (cu KY (cu LA afK)) (cd afJ λb0=>(c xL (cl (cl (gs b0.b jo) nil) nil))))
def uj:=qe (res (pr ai (pl (cu fD (c aup aP6)) nil)))
abbrev vr:=uj.B
abbrev vt:=kX.B->Option vr
def Fg (g:vt):Ct:=(114,FC kX (lf uj) g)
def dD:=qs (st (dp (us 3 (c ai (cu aME (cu aDB (cu ap5 (us 2 (c ai (us 12 (c (ac (AG 2 11)) (c ai (cl ai (us 74 nil)))))))))))) λv=>(pl (c (so afJ) (c bE (c (so (cl (gs v.b.1 jo) nil)) aWz))) aDK)))
def Sn:=qs (st (pr (us 3 (c ai (cu aME (cu aDB (cu ap5 (us 2 (c ai (us 12 (c (ac (AG 2 11)) (c ai (c ai (cl ab (us 73 nil))))))))))))) (pl (c (so afJ) (c bE (c akT aWz))) aDK)))
abbrev jz:=((Int×Int×Nat×Int×Int×Bool)×tt×Bool×(NI×NI×NI×NI×NI×NI×NI×NI×NI×NI×NI)×NI)
def Cb {ρ:Type}(x:jz)(K:AX->St->Option ρ):Option ρ:=(λd=>K (.ex 0) (Sn.em (d.1,d.2.1,d.b.1,(d.1.b.1,d.b.2.1),d.c))) x
def tg (d:dD.B):PL dD jz:=let n1:=d.1.2.2;let n2:=n1.2.2;let y0:=decide (n2<n1.2.1);ae y0 (ae (bg n2 n1.1) (ae (decide (d.2.2.2.1.1 (z4 n2)<=d.1.1)) (ret (ww ((d.1.1,n2,n1.1,n1.2.1,wI (n2+1)),d.2))) (ret (ww ((d.1.1,d.1.2.1,n1.1,n1.2.1,wI (n2+1)),d.2)))) no) (ret (ws ((d.1.1,d.1.2.1,n1.1,n1.2.1,n2,y0),d.2)))
def th:=bI (tg) 2000
def eO:=qs aXi
def So:=qs (st (pr (us 4 (cu aME (cu aDB (us 8 (cu (app 5 3) (cu (app 6 3) (cu (app 7 4) (cu (app 8 4) (c ai (us 62 (c ai (cu LA (cu KY (cu KY (cu aJ5 (c ai (c ai (c (ac (LC (pu (nat 7) (pl (ok' hole) Dx)))) (c ai (c ai (cl (ac (LC (pu Dy (pl (ok' hole) Dx)))) (us 7 nil)))))))))))))))))))))) (pl (c (so afJ) (c bE (c akT (cu axp (cu abw (c zV (c zV (c xP (cl xP nil))))))))) aDK)))
abbrev gq:=((Int×Int×Nat×Int×Int×Nat)×(Int×Nat)×Bool×aU7×kG×kG×aIg×Int×Int×Int×Int)
def Cc {ρ:Type}(x:gq)(K:AX->St->Option ρ):Option ρ:=(λd=>K .nrm (So.em ((d.1.1,d.1.1,d.1.2.1,d.1.1,d.1.b),(d.2.1.1,d.1.2.1,d.2.1.2),d.b))) x
def ti (aC:bR)(d:eO.B):Pg gq:=let bh:=d.2.2.1;let n6:=d.2.1.1;let n3:=d.2.2.2;let n7:=n3.2.1;let n2:=d.2.1.2;let n1:=n3.2.2;let n5:=n1.2.2;let aT:=n5.2.1;let n8:=n5.2.2;let n4:=n1.2.1;let bB:=n4.2.1;let n9:=n4.2.2;let y0:=bg d.1 4;let y1:=d.1==1;let y2:=d.1==3;let y3:=d.1==2;ae y0 (ae y2 (opt (aC n2.1 n9.2 30 bh) λak=>ae y0 (ae y2 (ret ((d.1,n2.1,3,n9.2,ak.1,3),(n6,n2.2),ak.2,n3.1,n7,n1.1,n4,n5.1,aT,n8.1,ak.1)) (ae y3 (ret ((d.1,n2.1,3,n9.2,ak.1,2),(n6,n2.2),ak.2,n3.1,n7,n1.1,n4,n5.1,aT,ak.1,n8.2)) (ae y1 (ret ((d.1,n2.1,3,n9.2,ak.1,1),(n6,n2.2),ak.2,n3.1,n7,n1.1,n4,n5.1,ak.1,n8)) (ret ((d.1,n2.1,3,n9.2,ak.1,0),(n6,n2.2),ak.2,n3.1,n7,n1.1,n4,ak.1,n5.2))))) no) (ae y3 (opt (aC n2.1 n9.1 30 bh) λak=>ae y0 (ae y2 (ret ((d.1,n2.1,2,n9.1,ak.1,3),(n6,n2.2),ak.2,n3.1,n7,n1.1,n4,n5.1,aT,n8.1,ak.1)) (ae y3 (ret ((d.1,n2.1,2,n9.1,ak.1,2),(n6,n2.2),ak.2,n3.1,n7,n1.1,n4,n5.1,aT,ak.1,n8.2)) (ae y1 (ret ((d.1,n2.1,2,n9.1,ak.1,1),(n6,n2.2),ak.2,n3.1,n7,n1.1,n4,n5.1,ak.1,n8)) (ret ((d.1,n2.1,2,n9.1,ak.1,0),(n6,n2.2),ak.2,n3.1,n7,n1.1,n4,ak.1,n5.2))))) no) (ae y1 (opt (aC n2.1 bB 30 bh) λak=>ae y0 (ae y2 (ret ((d.1,n2.1,1,bB,ak.1,3),(n6,n2.2),ak.2,n3.1,n7,n1.1,n4,n5.1,aT,n8.1,ak.1)) (ae y3 (ret ((d.1,n2.1,1,bB,ak.1,2),(n6,n2.2),ak.2,n3.1,n7,n1.1,n4,n5.1,aT,ak.1,n8.2)) (ae y1 (ret ((d.1,n2.1,1,bB,ak.1,1),(n6,n2.2),ak.2,n3.1,n7,n1.1,n4,n5.1,ak.1,n8)) (ret ((d.1,n2.1,1,bB,ak.1,0),(n6,n2.2),ak.2,n3.1,n7,n1.1,n4,ak.1,n5.2))))) no) (opt (aC n2.1 n4.1 30 bh) λak=>ae y0 (ae y2 (ret ((d.1,n2.1,0,n4.1,ak.1,3),(n6,n2.2),ak.2,n3.1,n7,n1.1,n4,n5.1,aT,n8.1,ak.1)) (ae y3 (ret ((d.1,n2.1,0,n4.1,ak.1,2),(n6,n2.2),ak.2,n3.1,n7,n1.1,n4,n5.1,aT,ak.1,n8.2)) (ae y1 (ret ((d.1,n2.1,0,n4.1,ak.1,1),(n6,n2.2),ak.2,n3.1,n7,n1.1,n4,n5.1,ak.1,n8)) (ret ((d.1,n2.1,0,n4.1,ak.1,0),(n6,n2.2),ak.2,n3.1,n7,n1.1,n4,ak.1,n5.2))))) no)))) no
def mX (d:eO.B):Option gq:=(ti aW d).val
def dE:=qs aXi
def Sp:=qs (st (pr (us 4 (cu aME (cu aDB (us 8 (cu (app 5 3) (cu (app 6 3) (cu (app 7 4) (cu (app 8 4) (c ai (us 49 aVF)))))))))) (pl (c (so afJ) (c bE (c akT (cu axp (cu abw (c zV (c zV (c xP (cl xP nil))))))))) aDK)))
abbrev jA:=((Int×Bool)×tt×Bool×aU7×kG×kG×aIg×Int×Int×Int×Int)
def Cd {ρ:Type}(x:jA)(K:AX->St->Option ρ):Option ρ:=(λd=>K (.ex 2) (Sp.em ((d.1.1,d.1),d.2))) x
def tj (Km:LT eO gq)(d:dE.B):PL dE jA:=let n5:=d.2.1;let n2:=d.2.2;let n6:=n2.2.1;let n4:=n2.2.2.1;let n1:=n2.2.2.2;let n7:=n1.2.2;let n3:=n1.2.1;let n9:=n3.2.1;let n8:=n3.2.2;let y0:=bg d.1 4;let y1:=d.1==1;let y2:=d.1==3;let y3:=d.1==2;let y4:=decide (d.1<4);let y5:=wI (0-n3.1);let y6:=wI (0-n9);let y7:=wI (0-n8.1);let y8:=wI (0-n8.2);ae y4 (ae (decide (n3.1<0)) (ae y0 (ae y2 (ae y0 (ae y2 (opt (Km (d.1,n5,n2.1,n6,n4,n1.1,(n3.1,n9,n8.1,y8),n7)) λd=>ret (ww (wI (d.1.1+1),(d.2.1.1,d.1.2.1,d.2.1.2),d.2.2))) (ae y3 (opt (Km (d.1,n5,n2.1,n6,n4,n1.1,(n3.1,n9,y8,n8.2),n7)) λd=>ret (ww (wI (d.1.1+1),(d.2.1.1,d.1.2.1,d.2.1.2),d.2.2))) (ae y1 (opt (Km (d.1,n5,n2.1,n6,n4,n1.1,(n3.1,y8,n8),n7)) λd=>ret (ww (wI (d.1.1+1),(d.2.1.1,d.1.2.1,d.2.1.2),d.2.2))) (opt (Km (d.1,n5,n2.1,n6,n4,n1.1,(y8,n3.2),n7)) λd=>ret (ww (wI (d.1.1+1),(d.2.1.1,d.1.2.1,d.2.1.2),d.2.2)))))) no) (ae y3 (ae y0 (ae y2 (opt (Km (d.1,n5,n2.1,n6,n4,n1.1,(n3.1,n9,n8.1,y7),n7)) λd=>ret (ww (wI (d.1.1+1),(d.2.1.1,d.1.2.1,d.2.1.2),d.2.2))) (ae y3 (opt (Km (d.1,n5,n2.1,n6,n4,n1.1,(n3.1,n9,y7,n8.2),n7)) λd=>ret (ww (wI (d.1.1+1),(d.2.1.1,d.1.2.1,d.2.1.2),d.2.2))) (ae y1 (opt (Km (d.1,n5,n2.1,n6,n4,n1.1,(n3.1,y7,n8),n7)) λd=>ret (ww (wI (d.1.1+1),(d.2.1.1,d.1.2.1,d.2.1.2),d.2.2))) (opt (Km (d.1,n5,n2.1,n6,n4,n1.1,(y7,n3.2),n7)) λd=>ret (ww (wI (d.1.1+1),(d.2.1.1,d.1.2.1,d.2.1.2),d.2.2)))))) no) (ae y1 (ae y0 (ae y2 (opt (Km (d.1,n5,n2.1,n6,n4,n1.1,(n3.1,n9,n8.1,y6),n7)) λd=>ret (ww (wI (d.1.1+1),(d.2.1.1,d.1.2.1,d.2.1.2),d.2.2))) (ae y3 (opt (Km (d.1,n5,n2.1,n6,n4,n1.1,(n3.1,n9,y6,n8.2),n7)) λd=>ret (ww (wI (d.1.1+1),(d.2.1.1,d.1.2.1,d.2.1.2),d.2.2))) (ae y1 (opt (Km (d.1,n5,n2.1,n6,n4,n1.1,(n3.1,y6,n8),n7)) λd=>ret (ww (wI (d.1.1+1),(d.2.1.1,d.1.2.1,d.2.1.2),d.2.2))) (opt (Km (d.1,n5,n2.1,n6,n4,n1.1,(y6,n3.2),n7)) λd=>ret (ww (wI (d.1.1+1),(d.2.1.1,d.1.2.1,d.2.1.2),d.2.2)))))) no) (ae y0 (ae y2 (opt (Km (d.1,n5,n2.1,n6,n4,n1.1,(n3.1,n9,n8.1,y5),n7)) λd=>ret (ww (wI (d.1.1+1),(d.2.1.1,d.1.2.1,d.2.1.2),d.2.2))) (ae y3 (opt (Km (d.1,n5,n2.1,n6,n4,n1.1,(n3.1,n9,y5,n8.2),n7)) λd=>ret (ww (wI (d.1.1+1),(d.2.1.1,d.1.2.1,d.2.1.2),d.2.2))) (ae y1 (opt (Km (d.1,n5,n2.1,n6,n4,n1.1,(n3.1,y5,n8),n7)) λd=>ret (ww (wI (d.1.1+1),(d.2.1.1,d.1.2.1,d.2.1.2),d.2.2))) (opt (Km (d.1,n5,n2.1,n6,n4,n1.1,(y5,n3.2),n7)) λd=>ret (ww (wI (d.1.1+1),(d.2.1.1,d.1.2.1,d.2.1.2),d.2.2)))))) no)))) no) (opt (Km d) λd=>ret (ww (wI (d.1.1+1),(d.2.1.1,d.1.2.1,d.2.1.2),d.2.2)))) (ret (ws ((d.1,y4),d.2)))
def tk:=bI (tj mX) 2000
def vu (jQ:uN)(nY:Ki)(ahF:Ml)(eZ:yV)(bH:iM)(VY:uS)(dR:LT dD jz)(pD:LT dE jA)(x:kX.B):Pg vr:=let n8:=x.2.1.2.2;ae (z9 n8 n8) (opt (dR ((x.1.2, -1,n8,wr n8,0),x.2.1,x.2.2.1,x.2.2.2,x.1.1)) λd=>let n16:=d.1.2;let n7:=d.2.2.2.1;let n2:=n7.2.2.2;let n9:=n2.2.2.2;let y0:=z4 n16.1;ae (decide (n16.1<0)) (ret (4,d.2.2.1,n16.2.1,n7)) (ae (bg n16.1 d.2.1.2.2) (opt (jQ d.2.2.2.2 d.1.1 d.2.2.1) λak=>let n5:=ak.1.2.2.2.2;let bB:=n5.2.2.2;opt (nY n5.2.1 n5.2.2.1 bB.1 (n2.2.2.1 y0) (n9.1 y0) (n9.2.1 y0) ak.2) λaF=>opt (nY bB.2.1 bB.2.2.1 bB.2.2.2 (n9.2.2.1 y0) (n9.2.2.2.1 y0) (n9.2.2.2.2 y0) aF.2) λbA=>opt (ahF (n7.2.1 y0) (n7.2.2.1 y0) (n2.1 y0) (n2.2.1 y0)) λcD=>opt (eZ ak.1.2.1 ak.1.2.2.1 ak.1.2.2.2.1 n5.1 cD.1 cD.2.1 cD.2.2.1 cD.2.2.2 bA.2) λeU=>opt (pD (1,d.2.1,eU.2,(n16.2.1,n7),aF.1,bA.1,eU.1,1073741824,0,0,0)) λd=>let n17:=d.2.1.2.2;let n1:=d.2.2.2;let bh:=n1.1.2;let aT:=n1.2.2.2.2;let n3:=bh.2.2.2.2;let n15:=n3.2.2.2;opt (bH aT.1 aT.2.1 aT.2.2.1 aT.2.2.2 d.2.2.1) λc8=>ae (z9 n17 n17) (opt (VY (d.2.1,c8.2,n1.2.1,n1.2.2.1,c8.1,bh)) λmg=>let bC:=mg.2.2.2;let n6:=mg.2.1;let n4:=bC.2.2.2;let bP:=n4.2.2.2;let y0:=n6*11+0;ae (true&&z9 y0 (n17*11)&&true) (ae (true&&wl (0+y0) (n1.1.1*11+0)) (ret (0,mg.1,n1.1.1,λj=>bif true&&v9 j (0+n6) then mg.2.2.1 j else bh.1 j,λj=>bif true&&v9 j (0+n6) then bC.1 j else bh.2.1 j,λj=>bif true&&v9 j (0+n6) then bC.2.1 j else bh.2.2.1 j,λj=>bif true&&v9 j (0+n6) then bC.2.2.1 j else bh.2.2.2.1 j,λj=>bif true&&v9 j (0+n6) then n4.1 j else n3.1 j,λj=>bif true&&v9 j (0+n6) then n4.2.1 j else n3.2.1 j,λj=>bif true&&v9 j (0+n6) then n4.2.2.1 j else n3.2.2.1 j,λj=>bif true&&v9 j (0+n6) then bP.1 j else n15.1 j,λj=>bif true&&v9 j (0+n6) then bP.2.1 j else n15.2.1 j,λj=>bif true&&v9 j (0+n6) then bP.2.2.1 j else n15.2.2.1 j,λj=>bif true&&v9 j (0+n6) then bP.2.2.2 j else n15.2.2.2 j)) no) no) no) no)) no
def kY:=λx=>(vu mq wo Cq lE c9 kT th tk x).val
abbrev ix:=uN×Ki×Ml×yV×bR×iM×mT×uS×(LT dD jz)×(LT eO gq)×(LT dE jA)
def kZ (p:ix):KK:=⟨[Hk p.1,Xa p.2.1,agY p.b.1,FW p.b.2.1,eT p.c.1,nG p.c.2.1,sN p.c.b.1,E9 p.c.b.2.1],⟨[⟨3,(0::1::2::7::8::rg 10 12 (rg 25 74 [])),[]⟩,⟨15,(rg 0 4 (rg 6 8 (rg 19 80 []))),[]⟩],[fQ 3 3 dD Cb p.d.1,fQ 15 3 dE Cd p.d.b],[1,2],[⟨⟨19,(rg 0 4 (rg 6 8 (rg 19 80 []))),[]⟩,fQ 19 3 eO Cc p.d.2.1⟩],(some ⟨0,(rg 0 8 (rg 9 90 [])),[]⟩)⟩,3,114⟩
theorem PZ (p:ix):LI (kZ p) 3 dD Cb (tg):=λ_ d c K=>by kernel_rfl
theorem P1 (p:ix):JI (kZ p) 19 eO Cc (ti p.c.1):=λ_ d K=>by kernel_rfl
theorem P3 (p:ix):LI (kZ p) 15 dE Cd (tj p.d.2.1):=λ_ d c K=>by kernel_rfl
theorem VZ (p:ix):D2 (kZ p) kX (lf uj) λb=>vu p.1 p.2.1 p.b.1 p.b.2.1 p.c.2.1 p.c.b.2.1 p.d.1 p.d.b b:=λb=>by kernel_rfl
abbrev k9:ix:=(mq,wo,Cq,lE,aW,c9,gk,kT,th,mX,tk)
theorem V0 [aA]:SC (Fg kY):=sc (kS (k:=kZ k9) (.c Nf (.c agR (.c avk (.c Lb (.c fA (.c pF (.c B3 (.c VL (.nil _))))))))) [3,15] [19] ⟨kL (PZ k9),⟨kL (P3 k9),trivial⟩⟩ ⟨kJ ⟨19,(rg 0 4 (rg 6 8 (rg 19 80 []))),[]⟩ (P1 k9),trivial⟩ (VZ k9))
def mO:=qa (pr (cu iW abA) (cd wg λb0=>(c mb (c m8 (c (cl (gs b0.c.1 o6) nil) (cd xQ λb4=>(cd qO λb5=>(cd qP λb6=>(cd qQ λb7=>(cd qR λb8=>(cd qS λb9=>(c mH (cd zW λAv=>(c (cl (gs b0.e mc) nil) (c (cl (gs b4.b.1 aB) nil) (c (cl (gs b5.b.1 aB) nil) (c (cl (gs b6.b.1 aB) nil) (c (cl (gs b7.b.1 aB) nil) (c (cl (gs b8.b.1 aB) nil) (c (cl (gs b9.b.1 aB) nil) (cl (cl (gs Av.b jo) nil) nil)))))))))))))))))))))
def Lr:=qe (res (pu Q' (pl (c (zT wg) (cu fD (cu fD (cu fD (cu fD (cu fD (cu fD (cu fD (cu fD (cu fD (cu fD (cl (zT zW) aJ9)))))))))))) nil)))
def Ls:=qe (res (pu Q' (pr (c (zT aQi) (cu fD (cu fD (cu fD (cu fD (cu fD (cu fD (cu fD (cu fD (cu fD (cu fD (cl (zT afM) aJ9)))))))))))) aP2)))
abbrev p6:=Lr.B⊕Ls.B
def UX:p6->T:=ls (lf Lr) (lf Ls)
abbrev Iu:=mO.B->Option p6
def UY (g:Iu):Ct:=(106,FC mO UX g)
def dP:=qs (st (dp (cu iW (us 3 (cu On (us 109 (c (ac aPW) (c ai aPg)))))) λv=>(pl (cd (so aQi) λb0=>(c lg (c lk (c (so (cl (gs v.1 o6) nil)) (cd (so xQ) λb4=>(cd (so qO) λb5=>(cd (so qP) λb6=>(cd (so qQ) λb7=>(cd (so qR) λb8=>(cd (so qS) λb9=>(c j8 (c (so afM) (c (so (cl (gs b0.d.c.b mc) nil)) (c (so (cl (gs b4.b.1 aB) nil)) (c (so (cl (gs b5.b.1 aB) nil)) (c (so (cl (gs b6.b.1 aB) nil)) (c (so (cl (gs b7.b.1 aB) nil)) (c (so (cl (gs b8.b.1 aB) nil)) (c (so (cl (gs b9.b.1 aB) nil)) (c akT Fy)))))))))))))))))))) aVO)))
def akt:=qs (st (pr (cu iW (us 3 (cu On (us 109 (c (ac aPW) aVQ))))) (pl (c (so aQi) (c lg (c lk (c me (c (so xQ) (c (so qO) (c (so qP) (c (so qQ) (c (so qR) (c (so qS) (c j8 (c (so afM) (c tT (c HX (c HX (c HX (c HX (c HX (c HX (c akT Fy)))))))))))))))))))) aVO)))
abbrev iH:=((Nat×Int×Int×Bool)×(Fu×Bool×IP×(NI×NI)×Nat×qF×Int×kG×Bool×Bool×Int×Int×Int×En×Nat)×(kG×Int×Int)×Ly×aU9×bT×bT×bT×bT×bT×bT×Lu×tt×aMt×cP×cP×cP×cP×cP×cP×aU7×Nat×NI×NI×NI×NI×NI×NI×NI×NI×NI×NI×NI)
def Oi {ρ:Type}(x:iH)(K:AX->St->Option ρ):Option ρ:=(λd=>K (.ex 0) (akt.em (d.1,d.2.1,d.b.1,d.b.2.1,(d.1.1,d.c.1),d.c.2.1,d.c.b.1,d.c.b.2.1,d.d.1,d.d.2.1,d.d.b.1,d.d.b.2.1,d.d.c.1,(d.2.1.d.c.b,d.d.c.2.1),(d.c.2.1.b.1,d.d.c.b.1),(d.c.b.1.b.1,d.d.c.b.2.1),(d.c.b.2.1.b.1,d.e.1),(d.d.1.b.1,d.e.2.1),(d.d.2.1.b.1,d.e.b.1),(d.d.b.1.b.1,d.e.b.2.1),d.e.c))) x
def xI (Ay:nx)(d:dP.B):PL dP iH:=let bh:=d.2.2;let aT:=d.2.1;let n9:=d.1.2;let n4:=bh.2.2;let n8:=n4.1.2.2.2;let n7:=n4.2.2.2;let bB:=n7.2.2;let n2:=bB.2.2;let bC:=n2.2.2;let n5:=bC.2.2.2;let n3:=n5.2.2.2.2.2.2;let n6:=n3.2.2.2.2.2;let n1:=(d.1.1,n9.1,wI (n9.2+1));let y0:=0+z4 n9.2;let y1:=decide (n9.2<n9.1);ae y1 (ae (bg n9.2 d.1.1) (ae (z9 n2.2.1.2.2 n2.2.1.2.2) (opt (Ay ((aT.2.2.1,n4.1.1 y0,n4.1.2.1 y0,(n4.1.2.2.1 y0,n8.1 y0,n8.2.1 y0),n8.2.2.1 y0,n8.2.2.2.1 y0,n8.2.2.2.2 y0),n2.2.1,aT.2.1,λj=>n3.1 (0+j),λj=>n3.2.1 (0+j),λj=>n3.2.2.1 (0+j),λj=>n3.2.2.2.1 (0+j),λj=>n3.2.2.2.2.1 (0+j),λj=>n6.1 (0+j),λj=>n6.2.1 (0+j),λj=>n6.2.2.1 (0+j),λj=>n6.2.2.2.1 (0+j),λj=>n6.2.2.2.2.1 (0+j),λj=>n6.2.2.2.2.2 (0+j))) λak=>sm ak (λaF=>ret (ww (n1,(aT.1,aF.2.2,aT.2.2),bh.1,bh.2.1,n4.1,n4.2.1,n4.2.2.1,n7.1,n7.2.1,bB.1,bB.2.1,n2.1,aF.2.1,bC))) (λaF=>ret (ww (n1,(aT.1,aF.1.2,aT.2.2),bh.1,bh.2.1,n4.1,n4.2.1,n4.2.2.1,n7.1,n7.2.1,bB.1,bB.2.1,n2.1,aF.1.1,bC.1,bC.2.1,bC.2.2.1,n5.1,n5.2.1,n5.2.2.1,n5.2.2.2.1,n5.2.2.2.2.1,aF.2)))) no) no) (ret (ws ((d.1.1,n9.1,n9.2,y1),d.2)))
def qN:=bI (xI fR) 2000
def uw (vH:BW)(oE:vY)(aC:bR)(dN:Cv)(aOC:amJ)(cW:z6)(cm:jb)(ZN:ya)(dR:LT dP iH)(x:mO.B):Pg p6:=let bC:=x.2.1;let n8:=x.1.2.2.2;let n7:=bC.2.2;let n5:=x.2.2.2.2.2;let n2:=n7.2.2;let n6:=n2.2.2.2.2;let n15:=n6.2.2.2.2.2.2.2.2;let n1:=n5.2.2.2;let bP:=n1.2.2;let n4:=bP.2.2;let n9:=n4.2.2.2.2;let y0:=wI (n2.2.2.2.1+1);opt (vH n8.1 n8.2.1 n8.2.2 bC.2.1) λd=>opt (oE x.1.2.1 d.2) λak=>opt (aC 10529810258 ak.1 30 ak.2) λaF=>let ur:=wI (d.1-aF.1);let y1:=wI (aF.1-d.1);ae (decide (wI (4*if y1>ur then y1 else ur)>aF.1)) (ret (ww ((bC.1,aF.2,n7.1,n7.2.1,n2.1,n2.2.1,n2.2.2.1,0,(0,0,0),n6.2),n4.1))) (opt (dN 2 aF.2 (cr n6.1.1 [n8.1,n6.1.1]) (cr n6.1.2.1 [n8.2.1,n6.1.2.1]) (cr n6.1.2.2 [n8.2.2,n6.1.2.2]) true) λd=>ae (y0 !=10) (ret (ww ((bC.1,d.2,n7.1,n7.2.1,n2.1,n2.2.1,n2.2.2.1,y0,d.1,n6.2),n4.1))) (opt (aOC d.1.1 d.1.2.1 d.1.2.2 d.2) λbA=>opt (cW n7.1 0 4 (cr bA.1.1 [bA.1.2.2.2,bA.1.2.2.1,bA.1.2.1,bA.1.1]) false) λcD=>opt (cm n7.2.1.1 n7.2.1.2 0 4 bA.2 bC.1.2.2.2.2.2.2.2.1 false) λeU=>ae (z9 n4.1.2.2 n4.1.2.2) (opt (ZN ((cD,x.1.1),n4.1,eU.2,n9.2.2.2.2)) λc8=>let aT:=c8.2.2.2;let n3:=aT.2.2.2;let bh:=n3.2.2.2;ae (z9 n2.1 n2.1) (ae (z9 n15 n15) (ae (z9 n5.1.2.2.1 n5.1.2.2.1) (ae (z9 n5.2.1.2.2.1 n5.2.1.2.2.1) (ae (z9 n5.2.2.1.2.2.1 n5.2.2.1.2.2.1) (ae (z9 n1.1.2.2.1 n1.1.2.2.1) (ae (z9 n1.2.1.2.2.1 n1.2.1.2.2.1) (ae (z9 bP.1.2.2.1 bP.1.2.2.1) (opt (dR ((n2.1,wr n2.1,0),(bC.1,c8.1.2,cD,eU.1,n2.1,n2.2.1,y0,d.1,n6.2.2),x.2.2.1,x.2.2.2.1,x.2.2.2.2.1,n5.1,n5.2.1,n5.2.2.1,n1.1,n1.2.1,bP.1,bP.2.1,(c8.1.1.1,c8.1.1.2,1),n4.2.1,n4.2.2.1,n4.2.2.2.1,n9.1,n9.2.1,n9.2.2.1,n9.2.2.2.1,(n4.1.2.2,n9.2.2.2.2),1,λj=>bif z9 j 0 then c8.2.1 else c8.2.1,λj=>bif z9 j 0 then c8.2.2.1 else c8.2.2.1,λj=>bif z9 j 0 then aT.1 else aT.1,λj=>bif z9 j 0 then aT.2.1 else aT.2.1,λj=>bif z9 j 0 then aT.2.2.1 else aT.2.2.1,λj=>bif z9 j 0 then n3.1 else n3.1,λj=>bif z9 j 0 then n3.2.1 else n3.2.1,λj=>bif z9 j 0 then n3.2.2.1 else n3.2.2.1,λj=>bif z9 j 0 then bh.1 else bh.1,λj=>bif z9 j 0 then bh.2.1 else bh.2.1,λj=>bif z9 j 0 then bh.2.2 else bh.2.2)) λd=>let bB:=d.2.2.2.2.2.2.2.2.2.2.2.2;ret (ws ((d.2.1,bB.1),bB.2.2.2.2.2.2.2.2.2))) no) no) no) no) no) no) no) no) no))
def mP:=λx=>(uw qd ko aW kE BY eW cM fF qN x).val
abbrev AT:=BW×vY×bR×Cv×amJ×z6×jb×ya×nx×(LT dP iH)
def Iv (p:AT):KK:=⟨[Rp p.1,Ha p.2.1,eT p.b.1,Kl p.b.2.1,aAF p.c.1,Ee p.c.2.1,Br p.c.b.1,HI p.c.b.2.1,Aq p.d.1],⟨[⟨15,(1::2::3::rg 5 109 (rg 117 15 [])),[(1,[])]⟩],[fQ 15 20 dP Oi p.d.2],[11],[],(some ⟨0,(rg 0 132 []),[]⟩)⟩,20,106⟩
theorem ah9 (p:AT):LI (Iv p) 15 dP Oi (xI p.d.1):=λ_ d c K=>by kernel_rfl
theorem apQ (p:AT):D2 (Iv p) mO UX λb=>uw p.1 p.2.1 p.b.1 p.b.2.1 p.c.1 p.c.2.1 p.c.b.1 p.c.b.2.1 p.d.2 b:=λb=>by kernel_rfl
abbrev Iw:AT:=(qd,ko,aW,kE,BY,eW,cM,fF,fR,qN)
theorem apR [aA]:SC (UY mP):=sc (kS (k:=Iv Iw) (.c aao (.c O3 (.c fA (.c OX (.c aN3 (.c IQ (.c FZ (.c ZF (.c Ja (.nil _)))))))))) [15] [] ⟨kL (ah9 Iw),trivial⟩ trivial (apQ Iw))
def aj0:=qa (pl HV nil)
def UZ:=qe aDS
def Ix:=qe aWL
abbrev yE:=UZ.B⊕Ix.B
def ae6:yE->T:=ls (lf UZ) (lf Ix)
def aj1:yE->T:=ls (λ_=>.fail) (lf Ix)
abbrev Um:=Int->Int->Int->Option yE
def aj2 (g:Um):Ct:=(42,FC aj0 aj1 (λb=>g b.1 b.2.1 b.b))
def aj3 (cO:vI)(fa:WK)(av:cj)(eI:K9)(gN:Rn)(uO:agK)(aE:cN)(x0:Int)(x1:Int)(x2:Int):Pg yE:=opt (cO x0 x1 x2) λd=>ae (!d) (ret (ww ())) (ae (decide (x0>850000000)) (ret (ww ())) (ae (decide (x0< -850000000)) (ret (ww ())) (opt (av x0 3373259426 1800000000 false) λd=>opt (eI d.1 d.2) λak=>opt (gN d.1 ak.2) λd=>opt (fa ak.1 ak.1 d.2) λaF=>opt (fa 7188036 aF.1 aF.2) λbA=>let y0:=wI (1073741824-bA.1);opt (uO y0 bA.2) λcD=>opt (aE 6531212288 cD.1 30 cD.2) λeU=>opt (fa 6531212288 1066553788 eU.2) λc8=>opt (fa y0 cD.1 c8.2) λmg=>opt (aE c8.1 mg.1 30 mg.2) λqX=>opt (av qX.1 3373259426 1800000000 qX.2) λpd=>opt (fa eU.1 d.1 pd.2) λd=>opt (av d.1 3373259426 1800000000 d.2) λd=>ret (ws (x0,x1,x2,pd.1,d.1)))))
def D7:=λx0 x1 x2=>(aj3 gx wj aU oz sE Cn bk x0 x1 x2).val
theorem aC0:∀cO fa av eI gN uO aE,D0 [Af cO,WL fa,cZ av,K' eI,Ro gN,agL uO,gu aE] 42 aj0 ae6 λb=>aj3 cO fa av eI gN uO aE b.1 b.2.1 b.b:=λ_ _ _ _ _ _ _ b=>by kernel_rfl
theorem aC1 [aA]:SC (aj2 D7):=sc (FH (R:=ae6) (R':=aj1) (λd r h=>by rcases d with d|d<;>first|exact h|(have h:(none:Option pe)=some r:=h;cases h))<|k0 (.c Eh (.c alF (.c dm (.c Rm (.c aam (.c avc (.c hX (.nil _)))))))) (aC0 gx wj aU oz sE Cn bk))
def aj4:=qa (pl iA nil)
def U0:=qe aDS
def Iy:=qe (res (pu (rH (cu (rc (cp 0 10)) akN)) (pu nil (cl aQc nil))))
abbrev JX:=U0.B⊕Iy.B
def ae7:JX->T:=ls (lf U0) (lf Iy)
def aj5:JX->T:=ls (λ_=>.fail) (lf Iy)
abbrev Un:=Int->Option JX
def aj6 (g:Un):Ct:=(51,FC aj4 aj5 (λb=>g b))
def Uo (x0:Int):Pg JX:=ae (decide (x0<1000)) (ret (ww ())) (ae (decide (x0>100000)) (ret (ww ())) (ret (ws x0)))
def D8:=λx0=>(Uo x0).val
theorem aC2:D0 [] 51 aj4 ae7 λb=>Uo b:=λb=>by kernel_rfl
theorem aC3 [aA]:SC (aj6 D8):=sc (FH (R:=ae7) (R':=aj5) (λd r h=>by rcases d with d|d<;>first|exact h|(have h:(none:Option pe)=some r:=h;cases h))<|k0 (.nil _) aC2)
def ae8:=qa (dp aVP λv=>(cl (cl (gs v.2.1 nN) nil) nil))
def Sq:=qe (res (pu aV5 (pu adF nil)))
def GJ:=qe (res (pu (rH (cu (rc (cp 1 37)) akN)) (pu adF (cl aKg nil))))
abbrev BJ:=Sq.B⊕GJ.B
def abm:BJ->T:=ls (lf Sq) (lf GJ)
def ae9:BJ->T:=ls (λ_=>.fail) (lf GJ)
abbrev P4:=Int->Nat->NI->Bool->Option BJ
def afa (g:P4):Ct:=(52,vA 1 [.i .i64] (FC ae8 ae9 (λb=>g b.1.1 b.1.2.1 b.2 b.1.b)))
def ky:=qs (st (dp (c ai (us 1 (xs 1 (us 3 (cu (app 1 37) (us 15 (c J0 (c ai aVj)))))))) λv=>(pl (c (so (cl (gs v.2.1.1 nN) nil)) aWE) nil)))
def Oj:=qs (st (pu (us 4 (cu (ac aDL) (cu (ac axm) (us 40 nil)))) (pl abz nil)))
def aku:=qs (st (pr (c ai (us 1 (xs 1 (us 3 (cu (app 1 37) (us 15 (c J0 (c ai aVB)))))))) (pl (c HW aWE) nil)))
abbrev xy:=Oj.B⊕((Int×(Nat×Bool)×Int×Int×Bool)×NI×NI×NI×(Nat->Bool)×NI×NI×NI)
def Zg {ρ:Type}(x:xy)(K:AX->St->Option ρ):Option ρ:=(Sum.elim (λd=>K .ret (Oj.em d)) (λd=>K (.ex 0) (aku.em (d.1,(d.1.2.1.1,d.2.1),d.b)))) x
def KO (d:ky.B):PL ky xy:=let n4:=d.2.1;let n2:=d.2.2.2;let n1:=d.1.2;let n3:=n1.2.2;let y0:=z4 n3;let y1:=0+y0*6+6;let y2:=decide (n3<n1.2.1);ae y2 (ae (bg n3 n1.1.1) (ae (decide (n4 y0<1)) (ret (ws (ww (n1.1.1,n4)))) (ae (decide (n4 y0>1099511627776)) (ret (ws (ww (n1.1.1,n4)))) (ae (bg n3 6) (ae (wl y1 36&&wl y1 37) (ret (ww ((d.1.1,n1.1,n1.2.1,wI (n3+1)),n4,λj=>bif z9 j y0 then 0 else d.2.2.1 j,λj=>bif z9 j y0 then 0 else n2.1 j,λj=>bif z9 j y0 then false else n2.2.1 j,λj=>bif z9 j y0 then n3 else n2.2.2.1 j,λj=>bif z9 j y0 then n4 y0 else n2.2.2.2.1 j,λj=>bif z9 j y0 then d.1.1 else n2.2.2.2.2 j))) no) no))) no) (ret (ws (ws ((d.1.1,n1.1,n1.2.1,n3,y2),d.2))))
def KP:=bI (KO) 2000
def P5 (dR:LT ky xy)(x0:Int)(x1:Nat)(x2:Nat->Int)(w0:Bool):Pg BJ:=ae (decide (x0<0)) (ret (ww ())) (ae (decide (x0>100)) (ret (ww ())) (ae (wr x1 !=6) (ret (ww ())) (ae (z9 x1 x1) (opt (dR ((x0,(x1,w0),wr x1,0),x2,λx=>0,λx=>0,λx=>false,λx=>0,λx=>0,λx=>0)) λx=>sum x (λd=>ret (ww ())) λd=>ret (ws d.2.2)) no)))
def BK:=λx0 x1 x2 w0=>(P5 KP x0 x1 x2 w0).val
abbrev Ht:=(LT ky xy)
def P6 (p:Ht):KK:=⟨[],⟨[⟨5,(1::3::4::5::rg 7 15 (rg 25 7 (rg 34 12 [32,33]))),[]⟩],[fQ 5 1 ky Zg p],[],[],(some ⟨0,(rg 0 4 (rg 6 40 [])),[]⟩)⟩,1,52⟩
theorem apS (p:Ht):LI (P6 p) 5 ky Zg (KO):=λ_ d c K=>by kernel_rfl
theorem ay6 (p:Ht):D2 (P6 p) ae8 abm λb=>P5 p b.1.1 b.1.2.1 b.2 b.1.b:=λb=>by kernel_rfl
abbrev P7:Ht:=KP
theorem ay7 [aA]:SC (afa BK):=sc (Sound.nil 1 [.i .i64]<|FH (R:=abm) (R':=ae9) (λd r h=>by rcases d with d|d<;>first|exact h|(have h:(none:Option pe)=some r:=h;cases h))<|kS (k:=P6 P7) (.nil _) [5] [] ⟨kL (apS P7),trivial⟩ trivial (ay6 P7))
def afb:=qa (pl A4 nil)
def Sr:=qe aDS
def Ss:=qe (res (pu (rH (cu (rc (cp 0 3)) akN)) (pu nil (c (c gi (cl gi (cu (gc (gr (pu Dx (pu we (pu LB (pu xK gB)))))) nil))) aWM))))
abbrev Hu:=Sr.B⊕((Int×Int)×NI)
def abn:Hu->T:=ls (lf Sr) (λd=>lf Ss (d.1,d.2,d.2,d.2,d.2,d.2,d.2,d.2,d.2,d.2,d.2,d.2))
def afc:Hu->T:=ls (λ_=>.fail) (λd=>lf Ss (d.1,d.2,d.2,d.2,d.2,d.2,d.2,d.2,d.2,d.2,d.2,d.2))
abbrev P8:=Int->Int->Option Hu
def afd (g:P8):Ct:=(53,FC afb afc (λb=>g b.1 b.2))
def P9 (x0:Int)(x1:Int):Pg Hu:=ae (decide (x0<1)) (ret (ww ())) (ae (decide (x0>64)) (ret (ww ())) (ae (decide (x1<1)) (ret (ww ())) (ae (decide (x1>1073741824)) (ret (ww ())) (ret (ws ((x0,x1),λx=>0))))))
def BL:=λx0 x1=>(P9 x0 x1).val
theorem ay8:D0 [] 53 afb abn λb=>P9 b.1 b.2:=λb=>by kernel_rfl
theorem ay9 [aA]:SC (afd BL):=sc (FH (R:=abn) (R':=afc) (λd r h=>by rcases d with d|d<;>first|exact h|(have h:(none:Option pe)=some r:=h;cases h))<|k0 (.nil _) ay8)
def aoq:=qa (pl iA nil)
def Zh:=qe aDS
def Zi:=qe (res (pu (rH (cu (rc (cp 0 8)) akN)) (pu nil (c (cu aO (cu aO (cu aO (cu aO (cu aO (cl gi (cu (gc (gr (pu Dx (pu we (pu LB (pu gh gB)))))) akO))))))) (cl asy nil)))))
abbrev Ny:=Zh.B⊕(Int×NI)
def aj7:Ny->T:=ls (lf Zh) (λd=>lf Zi (d.1,d.2,d.2,d.2,d.2,d.2,d.2,d.2,d.2,d.2))
def aor:Ny->T:=ls (λ_=>.fail) (λd=>lf Zi (d.1,d.2,d.2,d.2,d.2,d.2,d.2,d.2,d.2,d.2))
abbrev Zj:=Int->Option Ny
def aos (g:Zj):Ct:=(54,FC aoq aor (λb=>g b))
def Zk (x0:Int):Pg Ny:=ae (decide (x0<1)) (ret (ww ())) (ae (decide (x0>64)) (ret (ww ())) (ret (ws (x0,λx=>0))))
def GK:=λx0=>(Zk x0).val
theorem aGs:D0 [] 54 aoq aj7 λb=>Zk b:=λb=>by kernel_rfl
theorem aGt [aA]:SC (aos GK):=sc (FH (R:=aj7) (R':=aor) (λd r h=>by rcases d with d|d<;>first|exact h|(have h:(none:Option pe)=some r:=h;cases h))<|k0 (.nil _) aGs)
def KQ:=qa (pl (cl (aa tU) nil) nil)
def aot:=qe (res (pu (rH (cu (rc aDL) (cu (rc aVx) nil))) (pu nil nil)))
def aGu:=qe (res (pu (rH (cu (rc (cp 0 434)) akN)) (pu nil (c (c gi (c gi (c gi (c gi (c gi (c gi (c gi (c gi (c gi (c gi (c gi (c gi (c gi (c gi (c gi (c gi (c gJ (c gJ (c gi (c gi (c gi (c gi (c gi (c gi (c gi (c gi (c gb (c gJ (c aJM (cl gJ (cu akJ (cu akK (cu (gc (gr (pu rq7 (pu we (pu LB (pu Dy gB)))))) (cu (gp 4 8) (cu aRZ (cu aIr (cu aDC (cu aDD (cu aDE (cu aun (cu aO (cu aO (cu J2 (cu J2 (cu auo (cu J2 (cu aO (cu aO (cu aO (cu aO (cu J2 (cu J2 (cu J2 (cu aO (cu aO (cu aO (cu asq (cu aO (cu aO (cu aO (cu aO (cu aO (cu aO (cu aO (cu aO (cu aO (cu (gc (gr (pu (nat 12) (pu we (pu LB (pu (nat 10) gB)))))) nil))))))))))))))))))))))))))))))))))))))))))))))))))))))))))))))))))) (c j7 (c aQc (c aWA (c (cu aO (cu aO (cu aO (cu aO (cu aO (cl gi (cu (gc (gr (pu aIi (pu we (pu LB (pu gh gB)))))) akO))))))) (c aXa (c aXb (c aXc (c aXd (c aXe (c aKg (c (c gi (cl gi (cu (gc (gr (pu aIk (pu we (pu LB (pu xK gB)))))) nil))) aXk)))))))))))))))
abbrev P':=aot.B⊕a0L
def aGv:P'->T:=ls (lf aot) (λd=>lf aGu (d.1,d.2.1,d.b.1,(d.b.2.1,d.b.2.1,d.b.2.1,d.b.2.1,d.b.2.1,d.b.2.1,d.b.2.1,d.b.2.1),d.c.1,d.c.2.1,d.c.b.1,d.c.b.2.1,d.d.1,d.d.2.1,d.d.b.1,d.d.b.2.1,(d.b.2.1,d.b.2.1,d.b.2.1,d.b.2.1,d.b.2.1,d.b.2.1,d.b.2.1,d.b.2.1,d.b.2.1,d.b.2.1),(d.d.c.1,d.d.c.1,d.d.c.1,d.d.c.1,d.d.c.1,d.d.c.1,d.d.c.1,d.d.c.1,d.d.c.1),(d.d.c.2.1,d.d.c.2.1,d.d.c.2.1,d.d.c.2.1,d.d.c.2.1,d.d.c.2.1,d.d.c.2.1,d.d.c.2.1,d.d.c.2.1),(d.d.c.b.1,d.d.c.b.1,d.d.c.b.1,d.d.c.b.1,d.d.c.b.1,d.d.c.b.1,d.d.c.b.1,d.d.c.b.1,d.d.c.b.1),(d.d.c.b.2.1,d.d.c.b.2.1,d.d.c.b.2.1,d.d.c.b.2.1,d.d.c.b.2.1,d.d.c.b.2.1,d.d.c.b.2.1,d.d.c.b.2.1,d.d.c.b.2.1),(d.e.1,d.e.1,d.e.1,d.e.1,d.e.1,d.e.1,d.e.1,d.e.1,d.e.1),(d.e.2.1,d.e.2.1,d.e.2.1,d.e.2.1,d.e.2.1,d.e.2.1,d.e.2.1,d.e.2.1,d.e.2.1),d.e.b,d.e.b,d.e.b,d.e.b,d.e.b,d.e.b,d.e.b,d.e.b,d.e.b,d.e.b,d.e.b))
abbrev aGw:=KQ.B->Option P'
def at7 (g:aGw):Ct:=(20,FC KQ aGv g)
def Zl (aOD:an3)(cz:mn)(aR:fC)(aRh:atg)(aC4:Um)(aC5:Un)(aza:P4)(azb:P8)(BM:Zj)(x:KQ.B):Pg P':=let n3:=x.2.2;let n5:=n3.2.2.1.2;let n1:=n3.2.2.2;let n6:=n1.2.2;let n4:=n1.1.2.2;let n2:=n6.2.2.2.2;let n7:=n2.2.2;opt (aOD x) λd=>ae (!d) (ret (ww ())) (opt cz λd=>opt (aR (λx=>0) false) λd=>opt (aRh 24 d.2 n6.1 false) λak=>opt (aC4 n7.1 n7.2.1 n7.2.2) λaF=>sm aF (λd=>no) (λbA=>opt (aC5 x.1) λcD=>sm cD (λd=>no) (λeU=>opt (aza n3.2.1 6 (cr n1.1.1 [n4.2.2.2,n4.2.2.1,n4.2.1,n4.1,n1.1.2.1,n1.1.1]) false) λc8=>sm c8 (λd=>no) (λmg=>opt (azb n2.2.1 n2.1) λqX=>sm qX (λd=>no) (λpd=>opt (BM n3.1) λjh=>sm jh (λd=>no) (λqc=>opt (BM n3.1) λLd=>sm Ld (λd=>no) (λMI=>opt (BM n3.1) λaGb=>sm aGb (λd=>no) (λaaW=>opt (BM n3.1) λaeo=>sm aeo (λd=>no) (λaaX=>opt (BM n3.1) λaGc=>sm aGc (λd=>no) (λani=>opt (BM n3.1) λaru=>sm aru (λd=>no) (λanj=>ret (ws ((x.1,x.2.1,n3.1,n3.2.1,n3.2.2.1.1,n5.1,n5.2.1,n5.2.2.1,n5.2.2.2.1,n5.2.2.2.2,n1.1.1,n1.1.2.1,n4.1,n4.2.1,n4.2.2.1,n4.2.2.2,n1.2.1,n6.1,n6.2.1,n6.2.2.1,n6.2.2.2.1,n2.1,n2.2.1,n7.1,n7.2.1,n7.2.2,ak.2,d.1,ak.1),bA,eU,λx=>0,qc.1,MI.1,aaW.1,aaX.1,ani.1,anj.1,mg,pd.1,qc.2,MI.2,aaW.2,aaX.2,ani.2,anj.2,pd.2)))))))))))))
def Az:=λx=>(Zl qo eM cg Kk D7 D8 BK BL GK x).val
abbrev at8:=an3×mn×fC×atg×Um×Un×P4×P8×Zj
def aGx (p:at8):KK:=⟨[aBC p.1,ri p.2.1,jl p.b.1,aFB p.b.2.1,aj2 p.c.1,aj6 p.c.2.1,afa p.c.b.1,afd p.c.b.2.1,aos p.d],⟨[⟨11,(0::2::3::rg 5 65 (rg 71 15 [])),[]⟩],[],[],[],(some ⟨0,(0::1::rg 4 82 []),[]⟩)⟩,0,20⟩
theorem aRi (p:at8):D2 (aGx p) KQ aGv λb=>Zl p.1 p.2.1 p.b.1 p.b.2.1 p.c.1 p.c.2.1 p.c.b.1 p.c.b.2.1 p.d b:=λb=>by kernel_rfl
abbrev aGy:at8:=(qo,eM,cg,Kk,D7,D8,BK,BL,GK)
theorem aGz [aA]:SC (at7 Az):=sc (kS (k:=aGx aGy) (.c aOu (.c v5 (.c kn (.c aQZ (.c aC1 (.c aC3 (.c ay7 (.c ay9 (.c aGt (.nil _)))))))))) [11] [] ⟨kN,trivial⟩ trivial (aRi aGy))
end Go.Proofs.YtldgljclcgaibaaGreat
namespace Go.Proofs.YtldgljclcgaibaaGreat
open Go.Ab Go.Ab.Pg
theorem aDr {x:Int}(h0: -1152921504606846976<=x)(h1:x<=1152921504606846976)(b:Bool):rA x b=some x:=by
 have e:xu x (-1152921504606846976) 1152921504606846976 b=some (ws x):=by
  simp only[xu,KN,bM,bS];rw[cE (show ¬(-1152921504606846976:Int)>1152921504606846976 by omega),cE (show ¬x< -1152921504606846976 by omega),cE (show ¬x>1152921504606846976 by omega)];rfl
 simp only[rA,PX,ck,e,bG,aDo,jI,bS]
theorem a0h {x:Int}(h0: -1152921504606846976<=x)(h1:x<=1152921504606846976)(n b:Bool):BH x true n b=some (ws x):=by
 simp only[BH,PY,bM,ck,bS,HZ,bq,aDr h0 h1,bG]
theorem aGA {a b d:Int}(a0: -1152921504606846976<=a)(a1:a<=1152921504606846976)(b0: -1152921504606846976<=b)(b1:b<=1152921504606846976)(d0: -1152921504606846976<=d)(d1:d<=1152921504606846976)(nz:d≠0)
  (q0: -1152921504606846976<=Hi (a*b) d)(q1:Hi (a*b) d<=1152921504606846976)(h:Bool):kv a b d h=some (Hi (a*b) d):=by
 obtain⟨x,y,e,o,v⟩:=Bt a b (by omega) (by omega) (by omega) (by omega);have e2:=aJd x y d o (by omega) (by omega) nz;rw[v,if_pos ⟨by omega,by omega⟩] at e2;have z:(d==0)=false:=by rw[afW];exact nz
 simp only[kv,It,JV,Uj,ck,bM,bS,aDr a0 a1,aDr b0 b1,aDr d0 d1,bG,e,z,bq,e2,a0h q0 q1,aDo,jI]
theorem a0i {n d m:Int}(h0:0<=n)(hd:0<d)(hm:0<=m)(h:n<=m*d):0<=qdq n d/\qdq n d<=m:=by
 have a:=asH n d;have b:=Wj n (show d≠0 by omega);have c:=SN n hd;have q0:0<=n/d:=Ep h0 (by omega)
 have q1:n/d<=m:=by
  refine Int.le_of_lt_add_one (abG hd ?_);rw[Vd,Int.one_mul];omega
 unfold qdq;split
 .omega
 .by_cases e:n/d=m
  .exfalso
   rw[e,xT d m] at a;omega
  .omega
theorem aST {n d m:Int}(hd:0<d)(hm:0<=m)(h0: -(m*d)<=n)(h1:n<=m*d): -m<=Hi n d/\Hi n d<=m:=by
 have e:jq d=d:=by unfold jq;split<;>omega
 have g:jq n<=m*d:=by unfold jq;split<;>omega
 obtain⟨p,q⟩:=a0i (aLp n) hd hm g;unfold Hi;rw[e];split<;>omega
theorem aYP {a x d m:Int}(ha0: -m<=a)(ha1:a<=m)(x0:0<=x)(x1:x<=d): -(m*d)<=a*x/\a*x<=m*d:=by
 have m0:0<=m:=by omega
 have h1:a*x<=m*x:=Wf ha1 x0;have h2:m*x<=m*d:=Int.mul_le_mul_of_nonneg_left x1 m0;have h3: -m*x<=a*x:=Wf ha0 x0;rw[Int.neg_mul] at h3;omega
theorem aJo (a b x d:Int)(h:Bool)(m:Int)(a0: -m<=a)(a1:a<=m)(b0: -m<=b)(b1:b<=m)(x0:0<=x)(x1:x<=d)(d0:0<d)(d1:d<=1000000000)(m1:m<=100000000000000):
  Ok (gF a b x d h) (λr:Int=> -(3*m)<=r/\r<=3*m):=by
 have e:wI (b-a)=b-a:=dS;obtain⟨p0,p1⟩:=aYP (a:=b-a) (m:=2*m) (by omega) (by omega) x0 x1;obtain⟨q0,q1⟩:=aST d0 (show 0<=2*m by omega) p0 p1;have k:=aGA (a:=b-a) (b:=x) (d:=d) (by omega) (by omega) (by omega) (by omega) (by omega) (by omega) (by omega) (by omega) (by omega) h;have e2:wI (a+Hi ((b-a)*x) d)=a+Hi ((b-a)*x) d:=dS;unfold gF yk;show PQ _ _;rw[e,k,cy,aw,e2];omega
theorem aUc (c0 c1 c2 c3 c4 c5 c6 i x:Int)(h:Bool)(g:∀c∈[c0,c1,c2,c3,c4,c5,c6], -9000<=c/\c<=9000)(i0:0<=i)(i1:i<=5)(x0:0<=x)(x1:x<=600000000):
  Ok (mE c0 c1 c2 c3 c4 c5 c6 i x h) (λr:Int=> -28991029248000<=r/\r<=28991029248000):=by
 have w:∀c∈[c0,c1,c2,c3,c4,c5,c6],wI (c*1073741824)=c*1073741824:=λc hc=>dS (by have:=g c hc;omega) (by have:=g c hc;omega)
 have z:wI (i+1)=i+1:=aZ i0 (by omega);simp only[abJ,List.not_mem_nil,or_false,forall_eq_or_imp,forall_eq] at w g;obtain⟨w0,w1,w2,w3,w4,w5,w6⟩:=w;obtain⟨g0,g1,g2,g3,g4,g5,g6⟩:=g;unfold mE ym;show PQ _ _;rw[w0,w1,w2,w3,w4,w5,w6,z];have r1:bg i 7=true:=by rw[bz];omega
 have r2:bg (i+1) 7=true:=by rw[bz];omega
 dsimp only;rw[r1,r2]
 repeat' (first
  |rw[aD]
  |(with_reducible refine ax (aJo _ _ _ _ _ 9663676416000 ?_ ?_ ?_ ?_ ?_ ?_ ?_ ?_ ?_) λr _ hr=> ?_)
  |(rw[aL];refine⟨λc=> ?_,λc=> ?_⟩))
 all_goals first
  |(rw[aw];omega)
  |omega
theorem aOE (x0 x1 x2:Int)(h:Bool):bp (oQ x0 x1 x2 h):=by
 unfold oQ BI;refine aJ ?_;dsimp only;rw[bL];intro d hd;rw[aL];refine⟨λ_=>by rw[aw];trivial,λk=> ?_⟩;rw[aEd] at k;obtain⟨a0,a1,b0,b1⟩:=arU hd k;clear hd k
 have ey0:wI (x1+1800000000)=x1+1800000000:=dS;have ey1:wI (x0+900000000)=x0+900000000:=dS;rw[ey0,ey1];have t0:t8 (x0+900000000) 450000000=(x0+900000000)/450000000:=azD (by omega);have t1:t8 (x1+1800000000) 600000000=(x1+1800000000)/600000000:=azD (by omega);rw[t0,t1,dS (n:=(x0+900000000)/450000000) (by omega) (by omega),dS (n:=(x1+1800000000)/600000000) (by omega) (by omega)];generalize hi:(if (3:Int)<(x0+900000000)/450000000 then(3:Int) else(x0+900000000)/450000000)=i
 generalize hj:(if (5:Int)<(x1+1800000000)/600000000 then(5:Int) else(x1+1800000000)/600000000)=j
 have hi':0<=i/\i<=3/\0<=x0+900000000-i*450000000/\x0+900000000-i*450000000<=450000000:=by
  split at hi<;>omega
 have hj':0<=j/\j<=5/\0<=x1+1800000000-j*600000000/\x1+1800000000-j*600000000<=600000000:=by
  split at hj<;>omega
 clear hi hj t0 t1 ey0 ey1
 obtain⟨i0,i1,u0,u1⟩:=hi';obtain⟨j0,j1,v0,v1⟩:=hj';rw[dS (n:=i*450000000) (by omega) (by omega),dS (n:=j*600000000) (by omega) (by omega),dS (n:=x0+900000000-i*450000000) (by omega) (by omega),dS (n:=x1+1800000000-j*600000000) (by omega) (by omega),aZ i0 (by omega)];have r1:bg i 5=true:=by rw[bz];omega
 have r2:bg (i+1) 5=true:=by rw[bz];omega
 rw[r1,r2];generalize x0+900000000-i*450000000=u at u0 u1 ⊢
 generalize x1+1800000000-j*600000000=v at v0 v1 ⊢
 have fin:∀d:Int, -86973087744000<=d->d<=86973087744000->Ok (kv d 3373259426 19327352832000 h) (λ_=>True):=by
  intro d d0 d1;obtain⟨q0,q1⟩:=aST (n:=d*3373259426) (d:=19327352832000) (m:=1000000000000000) (by omega) (by omega) (by omega) (by omega);rw[aGA (by omega) (by omega) (by omega) (by omega) (by omega) (by omega) (by omega) (by omega) (by omega) h];exact⟨_,rfl,trivial⟩
 rw[bL];intro _ _
 repeat' (first
  |rw[aD]
  |(with_reducible refine ax (aUc _ _ _ _ _ _ _ _ _ _ (by decide) j0 j1 v0 v1) λr _ hr=> ?_)
  |(with_reducible refine ax (aJo _ _ _ _ _ 28991029248000 ?_ ?_ ?_ ?_ u0 u1 (by omega) (by omega) (by omega)) λs _ hs=> ?_)
  |(with_reducible refine ax (fin _ ?_ ?_) λt _ _=> ?_)
  |(rw[aL];refine⟨λc=> ?_,λc=> ?_⟩))
 all_goals first
  |(rw[aw];trivial)
  |omega
instance aSU (x:ke.B):bp (kg x):=by
 unfold kg ui;try dsimp only
 have t:=aOE;exact aJ (by rw[bL];intro _ _;rw[aw];trivial)
theorem aRj (x:oR.B):Ok (lN x) (λr:zA=>r.1.d.c.b.2.2=x.2.1.d.c.b.2.2/\r.1.c.1=x.2.1.c.1/\r.1.d.c.2.1=x.2.1.d.c.2.1):=by
 unfold lN zB;try dsimp only
 show PQ _ _;simp only[aQ]
 repeat' (first
  |rw[aD]
  |(with_reducible refine ax (aeU _ ?_) λe _ he=> ?_)
  |(with_reducible refine ax (bp.Ok (aOE _ _ _ _) (Q:=λ_=>True) λ_ _=>trivial) λ_ _ _=> ?_)
  |(rw[tX];refine⟨λ_ _=> ?_,λ_ _=> ?_⟩)
  |(rw[bL];intro _ _)
  |(rw[aL];refine⟨λc=> ?_,λc=> ?_⟩))
 all_goals first
  |(rw[aw];exact he.2)
  |(rw[aw];exact⟨rfl,rfl,rfl⟩)
  |(dsimp only;omega)
theorem a0j (x:tM.B)(k:bg x.1.1 6=true)(h:x.2.1.d.c.b.2.2<=90000):Ok (pQ x) (λr:zC=>match r with|.inl e=>e.1.d.c.b.2.2<=x.2.1.d.c.b.2.2+3/\e.1.c.1=x.2.1.c.1/\e.1.d.c.2.1=x.2.1.d.c.2.1|.inr e=>e.1.1.d.c.b.2.2<=x.2.1.d.c.b.2.2+3/\e.1.1.c.1=x.2.1.c.1/\e.1.1.d.c.2.1=x.2.1.d.c.2.1):=by
 have hi:bg x.1.1 6=true:=k;unfold pQ Ff;try dsimp only
 show PQ _ _;simp only[aQ,hi]
 repeat' (first
  |rw[aD]
  |(with_reducible refine ax (aYO _ ?_) λe _ he=> ?_)
  |(with_reducible refine ax (aGr _ ?_) λe _ he=> ?_)
  |(with_reducible refine ax (aLR _) λe _ he=> ?_)
  |(with_reducible refine ax (aRj _) λe _ he=> ?_)
  |(with_reducible refine ax (aLS _) λe _ he=> ?_)
  |(with_reducible refine ax (aYN _) λe _ he=> ?_)
  |(rw[tX];refine⟨λe0 e1=> ?_,λe0 e1=> ?_⟩)
  |(rw[bL];intro _ _)
  |(rw[aL];refine⟨λc=> ?_,λc=> ?_⟩))
 all_goals first
  |(dsimp only;omega)
  |(rw[aw];exact⟨cQ (Nat.le_of_eq he.1) (Nat.le_add_right _ _),he.2⟩)
  |(rw[aw];exact⟨Nat.le_add_right _ _,rfl,rfl⟩)
  |(rw[e1] at he;rw[aw];exact he)
  |(rw[e1] at he;rw[aw];exact⟨cQ he.1 (Nat.add_le_add_left (by decide) _),he.2⟩)
  |skip
theorem aLZ (n:Int):∀(d:zu.B) (hd:0<=d.1.2.2.2.2/\d.1.2.2.2.2<=3/\d.1.2.1=n/\d.1.2.2.1=n/\0<=n/\n<=3),Ok (aof d) (λx:Se=>x.1.2.2.1=n):=
 bV (λd:zu.B=>z4 (3-d.1.2.2.2.2)) (λd hd=>by
  have hw:wI (d.1.2.2.2.2+1)=d.1.2.2.2.2+1:=aZ;obtain⟨c0,c1,i0,i1,i2,i3⟩:=hd;have w0:wI (0+d.1.2.1)=d.1.2.1:=by rw[ak0];exact dS (by omega) (by omega)
  have w1:wI (10+d.1.2.2.2.2)=10+d.1.2.2.2.2:=dS;unfold aoe;dsimp only;rw[w0,w1,hw];rw[aL];refine⟨λh=> ?_,λ_=>by rw[aw];exact i1⟩;have h:=db h;have r0:bg d.1.2.2.2.2 3=true:=by rw[bz];omega
  have r1:bg d.1.2.1 24=true:=by rw[bz];omega
  have r2:bg (10+d.1.2.2.2.2) 24=true:=by rw[bz];omega
  have r3:(true&&wl (0+(z4 d.1.2.1*24+z4 (10+d.1.2.2.2.2))*1+1) 576)=true:=by rw[o8,ch];omega
  rw[r0,r1,r2,r3]
  repeat' (first
   |rw[aD]
   |(rw[aL];refine⟨λc=> ?_,λc=> ?_⟩)
   |(rw[bL];intro _ _))
  all_goals (rw[aw];exact⟨⟨by show 0<=d.1.2.2.2.2+1;omega,by show d.1.2.2.2.2+1<=3;omega,i0,i1,i2,i3⟩,by show z4 (3-(d.1.2.2.2.2+1))<_;omega⟩)) (λd hd=>by omega)
theorem aL0 (n:Int):∀(d:zw.B) (hd:0<=d.1.2.2/\d.1.2.2<=3/\d.1.1=n/\d.1.2.1=n/\0<=n/\n<=2),Ok (aoh d) (λx:Sf=>x.1.1=n/\x.1.2.1=n):=
 bV (λd:zw.B=>z4 (3-d.1.2.2)) (λd hd=>by
  have hw:wI (d.1.2.2+1)=d.1.2.2+1:=aZ;obtain⟨c0,c1,i0,i1,i2,i3⟩:=hd;have w0:wI (4+d.1.1)=4+d.1.1:=dS;have w1:wI (13+d.1.2.2)=13+d.1.2.2:=dS;have w2:wI (3*d.1.1)=3*d.1.1:=dS;have w3:wI (3*d.1.1+d.1.2.2)=3*d.1.1+d.1.2.2:=dS;unfold aog;dsimp only;rw[w0,w1,w2,w3,hw];rw[aL];refine⟨λh=> ?_,λ_=>by rw[aw];exact⟨i0,i1⟩⟩;have h:=db h;have r0:bg (3*d.1.1+d.1.2.2) 9=true:=by rw[bz];omega
  have r1:bg (4+d.1.1) 24=true:=by rw[bz];omega
  have r2:bg (13+d.1.2.2) 24=true:=by rw[bz];omega
  have r3:(true&&wl (0+(z4 (4+d.1.1)*24+z4 (13+d.1.2.2))*1+1) 576)=true:=by rw[o8,ch];omega
  rw[r0,r1,r2,r3]
  repeat' (first
   |rw[aD]
   |(rw[aL];refine⟨λc=> ?_,λc=> ?_⟩)
   |(rw[bL];intro _ _))
  all_goals (rw[aw];exact⟨⟨by show 0<=d.1.2.2+1;omega,by show d.1.2.2+1<=3;omega,i0,i1,i2,i3⟩,by show z4 (3-(d.1.2.2+1))<_;omega⟩)) (λd hd=>by omega)
theorem aL1:∀(d:zy.B) (hd:0<=d.1.2/\d.1.2<=4),Ok (aoj d) (λx:Sh=>True):=
 bV (λd:zy.B=>z4 (4-d.1.2)) (λd hd=>by
  have hw:wI (d.1.2+1)=d.1.2+1:=aZ;obtain⟨c0,c1⟩:=hd;have w0:wI (0+d.1.2)=d.1.2:=by rw[ak0];exact dS (by omega) (by omega)
  unfold aoi;dsimp only;rw[w0];rw[aL];refine⟨λh=> ?_,λ_=>by rw[aw];trivial⟩;have h:=db h;have r0:bg d.1.2 4=true:=by rw[bz];omega
  have r1:bg d.1.2 24=true:=by rw[bz];omega
  have r3:(true&&wl (0+z4 d.1.2*24+4) 576)=true:=by rw[o8,ch];omega
  rw[r0,r1,r3]
  repeat' (first
   |rw[aD]
   |(rw[aL];refine⟨λc=> ?_,λc=> ?_⟩)
   |(with_reducible refine ax (aLZ d.1.2 _ ⟨dW 0,(show(0:Int)<=3 by decide),rfl,rfl,c0,by omega⟩) λe _ he=> ?_))
  all_goals (rw[aw,he,hw];exact⟨⟨by show 0<=d.1.2+1;omega,by show d.1.2+1<=4;omega⟩,by show z4 (4-(d.1.2+1))<_;omega⟩)) (λd hd=>by omega)
theorem aL2:∀(d:zz.B) (hd:0<=d.1/\d.1<=3),Ok (aol d) (λx:Si=>True):=
 bV (λd:zz.B=>z4 (3-d.1)) (λd hd=>by
  obtain⟨c0,c1⟩:=hd;have hw:wI (d.1+1)=d.1+1:=aZ;have w0:wI (4+d.1)=4+d.1:=dS;have w1:wI (7+d.1)=7+d.1:=dS;unfold aok;dsimp only;rw[w0];rw[aL];refine⟨λh=> ?_,λ_=>by rw[aw];trivial⟩;have h:=db h;have r0:bg d.1 3=true:=by rw[bz];omega
  have r1:bg (4+d.1) 24=true:=by rw[bz];omega
  have r2:bg (7+d.1) 24=true:=by rw[bz];omega
  have r3:(true&&wl (0+z4 (4+d.1)*24+4) 576)=true:=by rw[o8,ch];omega
  have r4:(true&&wl (0+(z4 (7+d.1)*24+z4 (4+d.1))*1+1) 576)=true:=by rw[o8,ch];omega
  rw[r0,r1,r3]
  repeat' (first
   |rw[aD]
   |(with_reducible refine ax (aL0 d.1 _ ⟨dW 0,(show(0:Int)<=3 by decide),rfl,rfl,c0,by omega⟩) λe _ he=> ?_)
   |(rw[he.1,he.2,w0,w1,hw,r1,r2,r4])
   |(rw[aL];refine⟨λc=> ?_,λc=> ?_⟩))
  all_goals (rw[aw];exact⟨⟨by show 0<=d.1+1;omega,by show d.1+1<=3;omega⟩,by show z4 (3-(d.1+1))<_;omega⟩)) (λd hd=>by omega)
instance a2Y (x0:Nat->Int)(x1:Int)(x2:Int)(x3:Int)(x4:Int)(x5:Int)(x6:Int)(x7:Int)(x8:Int)(x9:Bool):bp (aeV x0 x1 x2 x3 x4 x5 x6 x7 x8 x9):=by
 unfold aeV ay2;try dsimp only
 refine aJ ?_
 repeat' (first
  |(with_reducible refine ax (aL1 _ ⟨dW 0,(show(0:Int)<=4 by decide)⟩) λe _ he=> ?_)
  |(with_reducible refine ax (aL2 _ ⟨dW 0,(show(0:Int)<=3 by decide)⟩) λe _ he=> ?_)
  |(rw[bL];intro _ _))
 rw[aw];trivial
instance a1F (x0:Nat->Int)(x1:Nat->Int)(x2:Nat->Int)(x3:Int)(x4:Int)(x5:Int)(x6:Int)(x7:Int)(x8:Int)(x9:Int)(fU:Int)(fV:Nat->Int)(Et:Bool):bp (Ca x0 x1 x2 x3 x4 x5 x6 x7 x8 x9 fU fV Et):=by
 unfold Ca abh;exact aJ (by simp only[bU,qW])
theorem aOF (N:Nat)(hN:N<=1999)(x:nw.B)(h:x.2.1.2.2<=N)(s:x.2.1.1<=(N:Int)):
  Ok (fR x) (λr:rX=>match r with|.inl e=>e.2.1=x.2.1|.inr e=>e.1.1.1=x.2.1.1/\e.1.1.2.2<=N/\x.2.1.2.2<=e.1.1.2.2/\e.1.1.2.2<=e.2.1):=by
 unfold fR Ar;try dsimp only
 show PQ _ _;rw[aL];refine⟨λ_=>by rw[aw],λh0=> ?_⟩;have hn:x.2.1.2.2≠0:=λe=>by rw[e] at h0;cases h0
 have w:wI (wr x.2.1.2.2-1)=wr (x.2.1.2.2-1):=by
  simp only[dH];rw[dS (by omega) (by omega)];omega
 have b1:bg (wr (x.2.1.2.2-1)) x.2.1.2.2=true:=by simp only[bz,dH];omega
 have b2:wl ((x.2.1.2.2+1)*88) 140737488355328=true:=by rw[ch];omega
 have b3:HF 1 (x.2.1.2.2+1)=true:=by simp only[adR];omega
 have b4:wl ((0+(x.2.1.2.2+1-1))*88) 140737488355328=true:=by rw[ch];omega
 rw[w,b1,b2,b3,b4]
 repeat' (first
  |rw[aD]
  |(rw[bL];intro _ _)
  |(rw[aL];refine⟨λc=> ?_,λc=> ?_⟩))
 all_goals first
  |(rw[aw];exact⟨rfl,by show 0+(x.2.1.2.2+1-1)<=N;omega,by show x.2.1.2.2<=0+(x.2.1.2.2+1-1);omega,by show 0+(x.2.1.2.2+1-1)<=x.2.1.2.2+1-1;omega⟩)
  |(rw[aw];have c:=kD c;simp only[dH] at c;exact⟨rfl,by show x.2.1.2.2+1<=N;omega,by show x.2.1.2.2<=x.2.1.2.2+1;omega,cR _⟩)
  |(rw[aw])
theorem aia (N q q4:Nat)(q5:Int)(hN:N<=1999)(s:Int)(hs:s<=(N:Int))(d:dP.B)(hd:0<=d.1.2.2/\d.1.2.2<=d.1.2.1/\d.1.2.1<=1999/\d.1.2.1=((d.1.1:Nat):Int)/\d.d.c.1.2.2<=N/\d.d.c.1.1=s/\d.d.c.1.2.2<=d.e.c.2.1/\d.2.1.d.c.2.2=q/\d.2.1.c.1=q4/\d.2.1.d.b.2.1=q5):Ok (qN d) (λx:iH=>x.d.c.1.2.2<=N/\x.d.c.1.1=s/\x.d.c.1.2.2<=x.e.c.2.1/\x.2.1.d.c.2.2=q/\x.2.1.c.1=q4/\x.2.1.d.b.2.1=q5):=
 qG (s:=_) (λd:dP.B=>0<=d.1.2.2/\d.1.2.2<=d.1.2.1/\d.1.2.1<=1999/\d.1.2.1=((d.1.1:Nat):Int)/\d.d.c.1.2.2<=N/\d.d.c.1.1=s/\d.d.c.1.2.2<=d.e.c.2.1/\d.2.1.d.c.2.2=q/\d.2.1.c.1=q4/\d.2.1.d.b.2.1=q5) (λd:dP.B=>z4 (d.1.2.1-d.1.2.2)) (λx:iH=>x.d.c.1.2.2<=N/\x.d.c.1.1=s/\x.d.c.1.2.2<=x.e.c.2.1/\x.2.1.d.c.2.2=q/\x.2.1.c.1=q4/\x.2.1.d.b.2.1=q5) (λd hd=>by
  obtain⟨i0,i1,i2,i3,i4,i5,i6,i7,i8,i9⟩:=hd;have hw:wI (d.1.2.2+1)=d.1.2.2+1:=aZ;unfold xI;dsimp only;rw[aL];refine⟨λh=> ?_,λ_=>by rw[aw];exact⟨i4,i5,i6,i7,i8,i9⟩⟩;have h:=db h;have r0:bg d.1.2.2 d.1.1=true:=by rw[bz];omega
  rw[r0,hw,aQ,aD,aD];with_reducible refine ax (aOF N hN _ ?_ ?_) λe _ he=> ?_
  .exact i4
  .show d.d.c.1.1<=(N:Int);omega
  rw[tX];refine⟨λa ha=> ?_,λa ha=> ?_⟩
  .rw[ha] at he;have he:a.2.1=d.d.c.1:=he;rw[aw];exact⟨⟨by show 0<=d.1.2.2+1;omega,by show d.1.2.2+1<=d.1.2.1;omega,i2,i3,by show a.2.1.2.2<=N;rw[he];exact i4,by show a.2.1.1=s;rw[he];exact i5,by show a.2.1.2.2<=d.e.c.2.1;rw[he];exact i6,i7,i8,i9⟩,by show z4 (d.1.2.1-(d.1.2.2+1))<_;omega⟩
  .rw[ha] at he;obtain⟨e1,e2,e3,e4⟩:=he;rw[aw];exact⟨⟨by show 0<=d.1.2.2+1;omega,by show d.1.2.2+1<=d.1.2.1;omega,i2,i3,e2,e1.trans i5,e4,i7,i8,i9⟩,by show z4 (d.1.2.1-(d.1.2.2+1))<_;omega⟩) 2000 d hd (by omega)
theorem aUd (x:jF.B):Ok (fF x) (λr:xZ=>r.1.1.1=x.2.1.1):=by
 unfold fF qA;show PQ _ _;rw[bL];intro _ _;rw[aw]
theorem aUe (N:Nat)(h1:1<=N)(hN:N<=1999)(x:mO.B)(hl:x.2.2.2.2.2.2.2.2.2.2.2.2.1.1<=(N:Int))(hq:x.2.1.2.2.2.2.1<=1999):Ok (mP x) (λr:p6=>match r with|.inl e=>e.2=x.2.2.2.2.2.2.2.2.2.2.2.2.1/\e.1.2.2.2.2.2.2.2.2.2.2.2.2.2.2.2.2=x.2.1.2.2.2.2.2.2.2.2.2.2.2.2.2.2.2.2/\e.1.2.2.2.2.1=x.2.1.2.2.2.2.1/\e.1.2.2.2.2.2.2.2.2.2.2.2.2.2.1=x.2.1.2.2.2.2.2.2.2.2.2.2.2.2.2.1|.inr e=>e.1.2.2.2<=N/\e.1.2.1=x.2.2.2.2.2.2.2.2.2.2.2.2.1.1/\e.1.2.2.2<=e.2.1/\e.1.1.2.2.2.2.2.2.2.2.2.2.2.2.2.2=x.2.1.2.2.2.2.2.2.2.2.2.2.2.2.2.2.2.2/\e.1.1.2.2.2.2.1=x.2.1.2.2.2.2.1/\e.1.1.2.2.2.2.2.2.2.2.2.2.2.1=x.2.1.2.2.2.2.2.2.2.2.2.2.2.2.2.1):=by
 unfold mP uw;try dsimp only
 show PQ _ _;simp only[aQ]
 repeat' (first
  |rw[aD]
  |(with_reducible refine ax (aUd _) λe _ he=> ?_)
  |(with_reducible refine ax (aia N x.2.1.2.2.2.2.2.2.2.2.2.2.2.2.2.2.2.2 x.2.1.2.2.2.2.1 x.2.1.2.2.2.2.2.2.2.2.2.2.2.2.2.1 hN x.2.2.2.2.2.2.2.2.2.2.2.2.1.1 hl _ ?_) λe _ he=> ?_)
  |(rw[bL];intro _ _)
  |(rw[aL];refine⟨λc=> ?_,λc=> ?_⟩))
 all_goals first
  |(rw[aw];exact⟨rfl,rfl,rfl,rfl⟩)
  |(rw[aw];exact he)
  |(obtain⟨a,b,c,e⟩:=hdN x.2.1.2.2.2.2.1 hq
    exact⟨a,b,c,e,h1,he,cR _,rfl,rfl,rfl⟩)
  |skip
theorem Qa (n:Nat)(p:Int×Int×Nat):∀(d:dD.B) (hd:0<=d.1.2.2.2.2/\d.1.2.2.2.2<=d.1.2.2.2.1/\n<=1999/\d.1.2.2.2.1=(n:Int)/\d.1.2.2.1=n/\d.2.1=p/\d.1.2.1<(n:Int)),Ok (th d) (λx:jz=>x.1.2.2.1=n/\x.2.1=p/\x.1.2.1<(n:Int)):=
 bV (λd:dD.B=>z4 (d.1.2.2.2.1-d.1.2.2.2.2)) (λd hd=>by
  have hw:wI (d.1.2.2.2.2+1)=d.1.2.2.2.2+1:=aZ;obtain⟨i0,i1,i2,i3,i4,i5,i6⟩:=hd;unfold tg;dsimp only;rw[aL];refine⟨λh=> ?_,λ_=>by rw[aw];exact⟨i4,i5,i6⟩⟩;have h:=db h;have r0:bg d.1.2.2.2.2 d.1.2.2.1=true:=by rw[bz];omega
  rw[r0,hw,aD,aL];refine⟨λ_=> ?_,λ_=> ?_⟩
  .rw[aw];exact⟨⟨by show 0<=d.1.2.2.2.2+1;omega,by show d.1.2.2.2.2+1<=d.1.2.2.2.1;omega,i2,i3,i4,i5,by show d.1.2.2.2.2<(n:Int);omega⟩,by show z4 (d.1.2.2.2.1-(d.1.2.2.2.2+1))<_;omega⟩
  .rw[aw];exact⟨⟨by show 0<=d.1.2.2.2.2+1;omega,by show d.1.2.2.2.2+1<=d.1.2.2.2.1;omega,i2,i3,i4,i5,i6⟩,by show z4 (d.1.2.2.2.1-(d.1.2.2.2.2+1))<_;omega⟩) (λd hd=>by omega)
theorem Qb (d:eO.B)(h0:0<=d.1)(h1:d.1<4):Ok (mX d) (λx:gq=>x.1.1=d.1/\x.2.1=(d.2.1.1,d.2.1.2.2)/\x.b.2.1=d.b.2.1):=by
 have r0:bg d.1 4=true:=by rw[bz];omega
 unfold mX ti;try dsimp only
 show PQ _ _;rw[r0]
 repeat' (first
  |rw[aD]
  |(rw[bL];intro _ _)
  |(rw[aL];refine⟨λc=> ?_,λc=> ?_⟩))
 all_goals (rw[aw];exact⟨rfl,rfl,rfl⟩)
theorem Qc (a:Int)(n:Nat)(v:Nat×(Nat->Int)×(Nat->Int)×(Nat->Int)×(Nat->Int)×(Nat->Int)×(Nat->Int)×(Nat->Int)×(Nat->Int)×(Nat->Int)×(Nat->Int)×(Nat->Int)):∀(d:dE.B) (hd:0<=d.1/\d.1<=4/\d.2.1.1=a/\d.2.1.2.2=n/\d.b.2.1=v),Ok (tk d) (λx:jA=>x.2.1.1=a/\x.2.1.2.2=n/\x.b.2.1=v):=
 bV (λd:dE.B=>z4 (4-d.1)) (λd hd=>by
  have hw:wI (d.1+1)=d.1+1:=aZ;obtain⟨i0,i1,i2,i3,i4⟩:=hd;unfold tj;dsimp only;rw[aL];refine⟨λh=> ?_,λ_=>by rw[aw];exact⟨i2,i3,i4⟩⟩;have h:=db h;have r0:bg d.1 4=true:=by rw[bz];omega
  rw[r0]
  repeat' (first
   |rw[aD]
   |(with_reducible refine ax (Qb _ i0 h) λe _ he=> ?_)
   |(rw[aL];refine⟨λc=> ?_,λc=> ?_⟩))
  all_goals (obtain⟨e1,e2,e3⟩:=he;rw[aw,e1,e2,hw];exact⟨⟨by show 0<=d.1+1;omega,by show d.1+1<=4;omega,i2,i3,e3.trans i4⟩,by show z4 (4-(d.1+1))<_;omega⟩)) (λd hd=>by omega)
theorem aOG (x:kX.B)(h:x.2.1.2.2<=1999):Ok (kY x) (λr:vr=>r.b.1=x.2.1.2.2):=by
 unfold kY vu;try dsimp only
 show PQ _ _;rw[aQ,aD];with_reducible refine ax (Qa x.2.1.2.2 x.2.1 _ ?_) λd _ hd=> ?_
 .exact⟨dW 0,by show(0:Int)<=wr x.2.1.2.2;simp only[dH];omega,h,rfl,rfl,rfl,by show(-1:Int)<_;omega⟩
 obtain⟨d1,d2,d3⟩:=hd;try dsimp only
 rw[aL];refine⟨λ_=>by rw[aw];exact d1,λc=> ?_⟩;have c:=kD c;have r0:bg d.1.2.1 d.2.1.2.2=true:=by rw[bz,d2];omega
 rw[r0,aD];rw[bL];intro e1 _;rw[bL];intro e2 _;rw[bL];intro e3 _;rw[bL];intro e4 _;rw[bL];intro e5 _;with_reducible refine ax (Qc x.2.1.1 x.2.1.2.2 (d.1.b.1,d.b.2.1) _ ?_) λf _ hf=> ?_
 .exact⟨by show(0:Int)<=1;decide,by show(1:Int)<=4;decide,by show d.2.1.1=_;rw[d2],by show d.2.1.2.2=_;rw[d2],rfl⟩
 obtain⟨f1,f2,f3⟩:=hf;rw[bL];intro e6 _;rw[aQ,aD];with_reducible refine ax (Ug _ ?_) λg _ hg=> ?_
 .show f.2.1.2.2<=1999;omega
 have hg:g.2.1=f.2.1.2.2:=hg;have fn:f.b.2.1.1=x.2.1.2.2:=by rw[f3];exact d1
 have b1:(true&&z9 (g.2.1*11+0) (f.2.1.2.2*11)&&true)=true:=by rw[hg,jH,aQ];rfl
 have b2:(true&&wl (0+(g.2.1*11+0)) (f.b.2.1.1*11+0))=true:=by rw[hg,fn,o8,ch];omega
 rw[b1,b2,aD,aD,aw];exact fn
theorem aou (a b c:Int):ny a b c=some (decide (b<=a)&&decide (a<=c)):=by
 simp only[ny,Ng,bM,bS];by_cases h:b<=a<;>simp[h]
theorem aRk (w:lL.B):∀(d:lL.B) (hd:0<=d.1.2/\d.1.2<=24/\d.2=w.2/\∀j:Nat,(j:Int)<d.1.2->(0<=w.2.2.2.2.2.2.2.2.2.2.2.2.2.2.2.2.2.1 j/\w.2.2.2.2.2.2.2.2.2.2.2.2.2.2.2.2.2.1 j<=72057594037927936)/\1<=w.2.2.2.2.2.2.2.2.2.2.2.2.2.2.2.2.2.2.1 j/\w.2.2.2.2.2.2.2.2.2.2.2.2.2.2.2.2.2.2.1 j<=72057594037927936),Ok (Jb d) (λx:Em=>match x with|.inl _=>True|.inr e=>e.2=w.2/\∀j:Nat,j<24->(0<=w.2.2.2.2.2.2.2.2.2.2.2.2.2.2.2.2.2.1 j/\w.2.2.2.2.2.2.2.2.2.2.2.2.2.2.2.2.2.1 j<=72057594037927936)/\1<=w.2.2.2.2.2.2.2.2.2.2.2.2.2.2.2.2.2.2.1 j/\w.2.2.2.2.2.2.2.2.2.2.2.2.2.2.2.2.2.2.1 j<=72057594037927936):=
 bV (λd:lL.B=>z4 (24-d.1.2)) (λd hd=>by
  have hw:wI (d.1.2+1)=d.1.2+1:=aZ;obtain⟨i0,i1,i2,i3⟩:=hd;unfold QY;dsimp only;rw[aL];refine⟨λh=> ?_,λh=> ?_⟩
  .have h:=db h;have r0:bg d.1.2 24=true:=by rw[bz];omega
   have r1:wl (0+z4 d.1.2*1+1) 24=true:=by rw[ch];omega
   rw[r0,r1,aD,aD,aou,cy,aL];refine⟨λ_=>by rw[aw];trivial,λc=> ?_⟩;rw[aD,aD,aou,cy,aL];refine⟨λ_=>by rw[aw];trivial,λc2=> ?_⟩;rw[aEd,cK,jG,jG] at c c2;rw[aw,hw];refine⟨⟨by show 0<=d.1.2+1;omega,by show d.1.2+1<=24;omega,i2,λj hj=> ?_⟩,by show z4 (24-(d.1.2+1))<_;omega⟩;have hj:(j:Int)<d.1.2+1:=hj;by_cases e:(j:Int)<d.1.2
   .exact i3 j e
   .have e2:z4 d.1.2=j:=by omega
    rw[e2,i2] at c c2;exact⟨c,c2⟩
  .have h:=kD h;rw[aw];exact⟨i2,λj hj=>i3 j (by omega)⟩) (λd hd=>by omega)
structure aYQ (x:Gp.B):Prop where
 place:∃e,zk x.2.2.2.2.2.2.2.2.2.2.2.2.2.1 x.2.2.2.2.2.2.2.2.2.2.2.2.2.2.1 x.2.2.2.2.2.2.2.2.2.2.2.2.2.2.2=some (ws e)
 arr:∀j:Nat,j<24->(0<=x.2.2.2.2.2.2.1 j/\x.2.2.2.2.2.2.1 j<=72057594037927936)/\1<=x.2.2.2.2.2.2.2.1 j/\x.2.2.2.2.2.2.2.1 j<=72057594037927936
 nums:1000<=x.1/\x.1<=100000/\0<=x.2.1/\x.2.1<=300000/\1<=x.2.2.1/\x.2.2.1<=64/\0<=x.2.2.2.1/\x.2.2.2.1<=100/\0<=x.2.2.2.2.2.2.2.2.1/\x.2.2.2.2.2.2.2.2.1<=1099511627776/\1<=x.2.2.2.2.2.2.2.2.2.1/\x.2.2.2.2.2.2.2.2.2.1<=72057594037927936/\0<=x.2.2.2.2.2.2.2.2.2.2.1/\x.2.2.2.2.2.2.2.2.2.2.1<=3/\1<=x.2.2.2.2.2.2.2.2.2.2.2.1/\x.2.2.2.2.2.2.2.2.2.2.2.1<=1073741824/\1<=x.2.2.2.2.2.2.2.2.2.2.2.2.1/\x.2.2.2.2.2.2.2.2.2.2.2.2.1<=64/\1<=x.2.2.2.2.1.1/\x.2.2.2.2.1.1<=1000/\1<=x.2.2.2.2.1.2.1/\x.2.2.2.2.1.2.1<=1000/\1<=x.2.2.2.2.1.2.2.1/\x.2.2.2.2.1.2.2.1<=1000/\1<=x.2.2.2.2.1.2.2.2.1/\x.2.2.2.2.1.2.2.2.1<=1000/\1<=x.2.2.2.2.1.2.2.2.2.1/\x.2.2.2.2.1.2.2.2.2.1<=1000/\1<=x.2.2.2.2.1.2.2.2.2.2/\x.2.2.2.2.1.2.2.2.2.2<=1000/\1<=x.2.2.2.2.2.1.1/\x.2.2.2.2.2.1.1<=1099511627776/\1<=x.2.2.2.2.2.1.2.1/\x.2.2.2.2.2.1.2.1<=1099511627776/\1<=x.2.2.2.2.2.1.2.2.1/\x.2.2.2.2.2.1.2.2.1<=1099511627776/\1<=x.2.2.2.2.2.1.2.2.2.1/\x.2.2.2.2.2.1.2.2.2.1<=1099511627776/\1<=x.2.2.2.2.2.1.2.2.2.2.1/\x.2.2.2.2.2.1.2.2.2.2.1<=1099511627776/\1<=x.2.2.2.2.2.1.2.2.2.2.2/\x.2.2.2.2.2.1.2.2.2.2.2<=1099511627776
theorem aUf (x:Gp.B):Ok (qo x) (λr:Bool=>r=true->aYQ x):=by
 unfold qo aba;try dsimp only
 show PQ _ _
 repeat' (first
  |(rw[aou,cy])
  |(with_reducible refine ax (aRk _ _ ⟨dW 0,(show(0:Int)<=24 by decide),rfl,λj hj=>absurd hj (by show ¬(j:Int)<0;omega)⟩) λe _ he=> ?_)
  |(rw[tw];refine⟨λa ha=> ?_,λa ha=> ?_⟩)
  |(rw[tX];refine⟨λb hb=> ?_,λb hb=> ?_⟩)
  |(rw[bL];intro q hq)
  |(rw[aL];refine⟨λc=> ?_,λc=> ?_⟩<;>(try simp only[o7,aEd,cK,jG,Ot] at c)))
 all_goals first
  |(rw[aw];intro hr;exact absurd hr (by decide))
  |skip
 rw[ha] at he;obtain⟨e1,e2⟩:=he;obtain⟨a1,a2⟩:=a;have e1:a2=_:=e1;subst e1;rw[aw];intro hr;have hr:=db hr;rw[hb] at hq;refine⟨⟨_,hq⟩,e2,?_⟩;dsimp only at*
 omega
theorem tN {δ:Type}{Q:δ->Prop}(x y:Pg δ):PQ (.ae false x y) Q=PQ y Q:=by unfold PQ;rw[Pg.bM];rfl
theorem aOH (a:Int)(h:1000<=a)(k:a<=100000):D8 a=some (ws a):=by
 have h1:decide (a<1000)=false:=cE (by omega);have h2:decide (a>100000)=false:=cE (by omega);unfold D8 Uo;rw[h1,h2];rfl
theorem aRl (a:Int)(h:1<=a)(k:a<=64):GK a=some (ws (a,λ_=>0)):=by
 have h1:decide (a<1)=false:=cE (by omega);have h2:decide (a>64)=false:=cE (by omega);unfold GK Zk;rw[h1,h2];rfl
theorem aL3 (a b:Int)(h:1<=a)(k:a<=64)(h':1<=b)(k':b<=1073741824):BL a b=some (ws ((a,b),λ_=>0)):=by
 have h1:decide (a<1)=false:=cE (by omega);have h2:decide (a>64)=false:=cE (by omega);have h3:decide (b<1)=false:=cE (by omega);have h4:decide (b>1073741824)=false:=cE (by omega);unfold BL P9;rw[h1,h2,h3,h4];rfl
theorem aL4 (T:Nat->Int)(hT:∀j:Nat,j<6->1<=T j/\T j<=1099511627776):∀(d:ky.B) (hd:0<=d.1.2.2.2/\d.1.2.2.2<=6/\d.1.2.1.1=6/\d.1.2.2.1=6/\d.2.1=T),Ok (KP d) (λx:xy=>match x with|.inl _=>False|.inr _=>True):=
 bV (λd:ky.B=>z4 (6-d.1.2.2.2)) (λd hd=>by
  obtain⟨i0,i1,i2,i3,i4⟩:=hd;have hw:wI (d.1.2.2.2+1)=d.1.2.2.2+1:=aZ;unfold KO;dsimp only;rw[aL];refine⟨λh=> ?_,λ_=>by rw[aw];trivial⟩;have h:=db h;have r0:bg d.1.2.2.2 d.1.2.1.1=true:=by rw[bz];omega
  have r1:bg d.1.2.2.2 6=true:=by rw[bz];omega
  have t:=hT (z4 d.1.2.2.2) (by omega);have c1:decide (d.2.1 (z4 d.1.2.2.2)<1)=false:=cE (by rw[i4];omega);have c2:decide (d.2.1 (z4 d.1.2.2.2)>1099511627776)=false:=cE (by rw[i4];omega);have r2:(wl (0+z4 d.1.2.2.2*6+6) 36&&wl (0+z4 d.1.2.2.2*6+6) 37)=true:=by rw[cK,ch,ch];omega
  rw[r0,c1,c2,r1,r2,hw,aD,tN,tN,aD,aD,aw];exact⟨⟨by show 0<=d.1.2.2.2+1;omega,by show d.1.2.2.2+1<=6;omega,i2,i3,i4⟩,by show z4 (6-(d.1.2.2.2+1))<_;omega⟩) (λd hd=>by omega)
theorem aL5 (m:Int)(T:Nat->Int)(w:Bool)(h:0<=m)(k:m<=100)(hT:∀j:Nat,j<6->1<=T j/\T j<=1099511627776):Ok (BK m 6 T w) (λr:BJ=>∃e,r=ws e):=by
 have h1:decide (m<0)=false:=cE (by omega);have h2:decide (m>100)=false:=cE (by omega);unfold BK P5;show PQ _ _;rw[h1,h2,tN,tN,(show(wr 6!=6)=false from rfl),tN,aQ,aD];refine ax (aL4 T hT _ ⟨dW 0,(show(0:Int)<=6 by decide),rfl,rfl,rfl⟩) λy _ hy=> ?_;rw[tw];refine⟨λa ha=> ?_,λa ha=> ?_⟩
 .rw[ha] at hy;exact hy.elim
 .rw[aw];exact⟨_,rfl⟩
theorem aOI (a b c:Int)(h:∃e,zk a b c=some (ws e)):Ok (D7 a b c) (λr:yE=>∃e,r=ws e):=by
 obtain⟨e,h⟩:=h;have g:(D7 a b c:Option yE)=zk a b c:=rfl;exact⟨ws e,g.trans h,e,rfl⟩
theorem a0k (x:KQ.B):Ok (Az x) (λr:P'=>match r with|.inl _=>True|.inr e=>1<=x.2.2.1/\x.2.2.1<=64/\1<=x.2.2.2.2.2.2.2.2.2.2.2.2.1/\x.2.2.2.2.2.2.2.2.2.2.2.2.1<=64/\e.2.2.2.2.1=x.2.2.1/\e.2.2.2.2.2.1=x.2.2.1/\e.2.2.2.2.2.2.1=x.2.2.1/\e.2.2.2.2.2.2.2.1=x.2.2.1/\e.2.2.2.2.2.2.2.2.1=x.2.2.1/\e.2.2.2.2.2.2.2.2.2.1=x.2.2.1/\e.2.2.2.2.2.2.2.2.2.2.2.1.1=x.2.2.2.2.2.2.2.2.2.2.2.2.1):=by
 unfold Az Zl;try dsimp only
 show PQ _ _;refine ax (aUf x) λr _ hr=> ?_;rw[aL];refine⟨λ_=>by rw[aw];trivial,λc=> ?_⟩;have cc:aYQ x:=hr (by simpa using c);have n:=cc.nums
 have hT:∀j:Nat,j<6->1<=(bif z9 j 5 then x.2.2.2.2.2.1.2.2.2.2.2 else bif z9 j 4 then x.2.2.2.2.2.1.2.2.2.2.1 else bif z9 j 3 then x.2.2.2.2.2.1.2.2.2.1 else bif z9 j 2 then x.2.2.2.2.2.1.2.2.1 else bif z9 j 1 then x.2.2.2.2.2.1.2.1 else bif z9 j 0 then x.2.2.2.2.2.1.1 else x.2.2.2.2.2.1.1)/\(bif z9 j 5 then x.2.2.2.2.2.1.2.2.2.2.2 else bif z9 j 4 then x.2.2.2.2.2.1.2.2.2.2.1 else bif z9 j 3 then x.2.2.2.2.2.1.2.2.2.1 else bif z9 j 2 then x.2.2.2.2.2.1.2.2.1 else bif z9 j 1 then x.2.2.2.2.2.1.2.1 else bif z9 j 0 then x.2.2.2.2.2.1.1 else x.2.2.2.2.2.1.1)<=1099511627776:=by
  intro j hj;have e:j=0∨j=1∨j=2∨j=3∨j=4∨j=5:=by omega
  rcases e with rfl|rfl|rfl|rfl|rfl|rfl
  .exact⟨by show 1<=x.2.2.2.2.2.1.1;omega,by show x.2.2.2.2.2.1.1<=1099511627776;omega⟩
  .exact⟨by show 1<=x.2.2.2.2.2.1.2.1;omega,by show x.2.2.2.2.2.1.2.1<=1099511627776;omega⟩
  .exact⟨by show 1<=x.2.2.2.2.2.1.2.2.1;omega,by show x.2.2.2.2.2.1.2.2.1<=1099511627776;omega⟩
  .exact⟨by show 1<=x.2.2.2.2.2.1.2.2.2.1;omega,by show x.2.2.2.2.2.1.2.2.2.1<=1099511627776;omega⟩
  .exact⟨by show 1<=x.2.2.2.2.2.1.2.2.2.2.1;omega,by show x.2.2.2.2.2.1.2.2.2.2.1<=1099511627776;omega⟩
  .exact⟨by show 1<=x.2.2.2.2.2.1.2.2.2.2.2;omega,by show x.2.2.2.2.2.1.2.2.2.2.2<=1099511627776;omega⟩
 rw[bL];intro _ _;rw[bL];intro _ _;rw[bL];intro _ _;refine ax (aOI _ _ _ cc.place) λf _ hf=> ?_;obtain⟨f,rfl⟩:=hf;rw[tX];refine⟨λ_ h=>(nomatch h),λf hf=> ?_⟩;rw[aOH _ (by omega) (by omega),cy,tX];refine⟨λ_ h=>(nomatch h),λg hg=> ?_⟩;refine ax (aL5 _ _ _ (by omega) (by omega) hT) λh _ hh=> ?_;obtain⟨h,rfl⟩:=hh;rw[tX];refine⟨λ_ h=>(nomatch h),λf hf=> ?_⟩;rw[aL3 _ _ (by omega) (by omega) (by omega) (by omega),cy,tX];refine⟨λ_ h=>(nomatch h),λp hp=> ?_⟩;rw[aRl _ (by omega) (by omega)];rw[cy,tX];refine⟨λ_ h=>(nomatch h),λb0 Rg=> ?_⟩;cases Rg;rw[cy,tX];refine⟨λ_ h=>(nomatch h),λb1 hb1=> ?_⟩;cases hb1;rw[cy,tX];refine⟨λ_ h=>(nomatch h),λb2 FF=> ?_⟩;cases FF;rw[cy,tX];refine⟨λ_ h=>(nomatch h),λb3 hb3=> ?_⟩;cases hb3;rw[cy,tX];refine⟨λ_ h=>(nomatch h),λb4 hb4=> ?_⟩;cases hb4;rw[cy,tX];refine⟨λ_ h=>(nomatch h),λb5 hb5=> ?_⟩;cases hb5;cases hp;rw[aw];refine⟨by omega,by omega,by omega,by omega,rfl,rfl,rfl,rfl,rfl,rfl,rfl⟩
end Go.Proofs.YtldgljclcgaibaaGreat
