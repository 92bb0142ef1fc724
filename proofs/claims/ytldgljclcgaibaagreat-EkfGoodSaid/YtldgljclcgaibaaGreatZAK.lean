/-
  Parts of the proof: TO TP TQ TR8 TS8 TPut Q5 TNh TNd TT TV TW TX TY TZ TNw
-/
import Derived.Test.YtldgljclcgaibaaGreatZAE
import Derived.Test.YtldgljclcgaibaaGreatZAJ
open Nat renaming beq→z9,ble→wr,blt→wl
open Int renaming toNat→z4,ofNat→ws,tdiv→t8
open Sum renaming inl→ww,inr→wt
set_option linter.unusedVariables false
set_option linter.unusedSimpArgs false
set_option maxRecDepth 100000
set_option maxHeartbeats 4000000
namespace Go.Proofs.YtldgljclcgaibaaGreat
open Go.Ab Go.Ab.Pg
theorem aiB (x0:Int)(x1:Int)(x2:Int)(x3:Int)(x4:Int)(x5:Int)(x6:Int)(x7:Int)(x8:Int)(x9:Bool)(h0:0<=x7)(h1:x7<=5):bz (p6 x0 x1 x2 x3 x4 x5 x6 x7 x8 x9):=by
 have hw:wI (x7+1)=x7+1:=dV;have b1:bf x7 7=true:=by simp only[bq];omega
 have b2:bf (x7+1) 7=true:=by simp only[bq];omega
 unfold p6 C4;refine aH ?_;simp only[hw,b1,b2];simp only[bP,OH,LS,Eo]
theorem asm {x0 x1 x2:Int}{d:ads}(h:gT x0 x1 x2=some d)(k:d=true): -900000000<=x0/\x0<=900000000/\ -1800000000<=x1/\x1<=1800000000:=by
 have e:PQ (IY x0 x1 x2) (λd:Bool=>d=true-> -900000000<=x0/\x0<=900000000/\ -1800000000<=x1/\x1<=1800000000):=by
  simp only[IY,aN,aw,EM,jW,OD,ya,Eo,OJ,Cd];omega
 exact Ok.post e h k
instance aOz (x0:Int)(x1:Int)(x2:Int)(x3:Bool):bz (tF x0 x1 x2 x3):=by
 unfold tF Gs;refine aH ?_;rw[bH];intro d hd;rw[aN];refine⟨λ_=>by rw[aw];trivial,λh=> ?_⟩;obtain⟨a0,a1,a2,a3⟩:=asm hd (by simpa using h);have w0:wI (x0+900000000)=x0+900000000:=dV;have w1:wI (x1+1800000000)=x1+1800000000:=dV;have e0:t8 (x0+900000000) 450000000=(x0+900000000)/450000000:=az6 (by omega);have e1:t8 (x1+1800000000) 600000000=(x1+1800000000)/600000000:=az6 (by omega);rw[w0,w1,e0,e1];have w2:wI ((x0+900000000)/450000000)=(x0+900000000)/450000000:=dV;have w3:wI ((x1+1800000000)/600000000)=(x1+1800000000)/600000000:=dV;rw[w2,w3];have r1:0<=(if 3<(x0+900000000)/450000000 then 3 else(x0+900000000)/450000000)/\(if 3<(x0+900000000)/450000000 then 3 else(x0+900000000)/450000000)<=3:=by split<;>omega
 have r2:0<=(if 5<(x1+1800000000)/600000000 then 5 else(x1+1800000000)/600000000)/\(if 5<(x1+1800000000)/600000000 then 5 else(x1+1800000000)/600000000)<=5:=by split<;>omega
 generalize (if 3<(x0+900000000)/450000000 then 3 else(x0+900000000)/450000000)=row at*
 generalize (if 5<(x1+1800000000)/600000000 then 5 else(x1+1800000000)/600000000)=nK at*
 have t2:=λa b c d e f g i j=>aiB a b c d e f g nK i j r2.1 r2.2
 have hw:wI (row+1)=row+1:=dV;have b1:bf row 5=true:=by simp only[bq];omega
 have b2:bf (row+1) 5=true:=by simp only[bq];omega
 simp only[hw,b1,b2];simp only[bP,OH,LS,Eo]
instance aHr (x:gX.B):bz (eD x):=by
 unfold eD mE;try dsimp only
 exact aH (by simp only[bP])
theorem aDt (x:gX.B):Ok (eD x) (λr:qT=>r.e.2=x.1.d.c.b.2.2/\r.c.2.1=x.1.c.1/\r.d.c.b.1=x.1.d.c.2.1):=by
 unfold eD mE;try dsimp only
 show PQ _ _;rw[bH];intro d _;rw[aw];exact⟨rfl,rfl,rfl⟩
theorem aYK (x:rP.B)(h:x.2.1.d.c.b.2.2<=90000):Ok (oA x) (λr:xF=>match r with|.inl e=>e.1.d.c.b.2.2<=x.2.1.d.c.b.2.2+1/\e.1.c.1=x.2.1.c.1/\e.1.d.c.2.1=x.2.1.d.c.2.1|.inr e=>e.1.1.d.c.b.2<=x.2.1.d.c.b.2.2+1/\e.1.1.c.1=x.2.1.c.1/\e.1.1.d.c.1=x.2.1.d.c.2.1):=by
 unfold oA C9;try dsimp only
 show PQ _ _;simp only[aQ];rw[bH];intro d _;rw[bH];intro d1 _;repeat rw[aE]
 with_reducible refine aA (aDt _) λd2 _ h2=> ?_
 have h2:d2.e.2=x.2.1.d.c.b.2.2/\d2.c.2.1=x.2.1.c.1/\d2.d.c.b.1=x.2.1.d.c.2.1:=h2;rw[bH];intro d3 _;rw[aN];refine⟨λ_=> ?_,λ_=> ?_⟩
 .repeat rw[aE]
  rw[bH];intro d4 _;rw[aw];show d2.e.2<=x.2.1.d.c.b.2.2+1/\d2.c.2.1=x.2.1.c.1/\d2.d.c.b.1=x.2.1.d.c.2.1;omega
 .rw[bH];intro d4 _;repeat rw[aE]
  with_reducible refine aA (SA _ ?_) λt _ ht=> ?_
  .show d2.e.2<=100000;omega
  have ht:t.1.d.c.b.2.2=d2.e.2+1/\t.1.c.1=d2.c.2.1/\t.1.d.c.2.1=d2.d.c.b.1:=ht;repeat (first|rw[aE]|(rw[bH];intro _ _))
  rw[aw];show t.1.d.c.b.2.2<=x.2.1.d.c.b.2.2+1/\t.1.c.1=x.2.1.c.1/\t.1.d.c.2.1=x.2.1.d.c.2.1;omega
theorem aGQ (x:kQ.B)(h:x.2.1.d.c.b.2.2<=90000):Ok (iP x) (λr:nI=>match r with|.inl e=>e.1.1.d.c.2.2<=x.2.1.d.c.b.2.2+3/\e.1.1.c.1=x.2.1.c.1/\e.1.1.d.b.2.1=x.2.1.d.c.2.1|.inr e=>e.1.d.c.b.2.2<=x.2.1.d.c.b.2.2+3/\e.1.c.1=x.2.1.c.1/\e.1.d.c.2.1=x.2.1.d.c.2.1):=by
 have idx:∀(n m:Nat) (k:Int),n=m->0<=k->k<(m:Int)->bf k n=true:=λn m k e h1 h2=>by subst e;simp only[bq];omega
 unfold iP sN;try dsimp only
 show PQ _ _;simp only[aQ];rw[bH];intro d _
 repeat' (first
  |rw[aE]
  |(with_reducible refine aA (aYI _ ?_) λj _ hj=> ?_)
  |(with_reducible refine aA (afx _ ?_) λe _ he=> ?_)
  |(with_reducible refine aA (Zv _ ?_) λq _ hq=> ?_)
  |(rw[uD];refine⟨λ_ _=> ?_,λ_ _=> ?_⟩)
  |(rw[bH];intro _ _)
  |(rw[aN];refine⟨λc=> ?_,λc=> ?_⟩))
 all_goals first
  |(rw[aw];exact hj)
  |(rw[aw];exact⟨dL (Nat.le_of_eq (hq.1.trans he.2.1)) (Nat.le_add_right _ _),hq.2.1.trans he.b.1,hq.2.2.trans he.b.2⟩)
  |(rw[aw];exact⟨dL (Nat.le_of_eq he.2.1) (Nat.le_add_right _ _),he.2.2⟩)
  |(show x.2.1.d.c.b.2.2<=90000;exact h)
  |(dsimp only;omega)
  |(have h1:=he.1;(try dsimp only at h1);(try dsimp only);omega)
  |(rw[aQ9];rw[he.1] at c;have c':true=false:=c;cases c')
theorem auy (x:Int):Bx x=some (decide (0<=x)&&decide (x<6)):=by
 simp only[Bx,apD,bN,bQ];by_cases h0:0<=x<;>simp[h0]
instance aoA (x:oV.B):bz (gm x):=by
 unfold gm zF;try dsimp only
 exact aH (by simp only[bP,qV])
instance aOA (x:tJ.B):bz (zG x):=by
 unfold zG Gz;try dsimp only
 exact aH (by simp only[bP,qV])
theorem UB (n:Nat):∀(d:dE.B) (hd:0<=d.1.2.2/\d.1.2.2<=d.1.2.1/\d.1.2.1<=1999/\d.1.2.1=((d.1.1.1:Nat):Int)/\d.2.1.2.2=n/\n<=1999),Ok (ph d) (λx:iV=>x.2.1.2.2=n):=
 bO (λd:dE.B=>z4 (d.1.2.1-d.1.2.2)) (λd hd=>by
  have hw:wI (d.1.2.2+1)=d.1.2.2+1:=aW;obtain⟨i0,i1,i2,i3,i4,i5⟩:=hd;unfold pg;try dsimp only
  rw[aN];refine⟨λh=> ?_,λ_=>by rw[aw];exact i4⟩;have h:=dm h;rw[bL,aQ,aE];refine⟨by simp only[bq];omega,?_⟩;with_reducible refine aA (UA _ ?_) λe _ he=> ?_
  .show d.2.1.2.2<=1999;omega
  have he:e.2.1=d.2.1.2.2:=he;have b1:(true&&z9 (e.2.1*11+0) (d.2.1.2.2*11)&&true)=true:=by rw[he,ku,aQ];rfl
  have b2:(true&&wr (0+(e.2.1*11+0)) (d.2.1.2.2*11+0))=true:=by rw[he,nY,bZ];omega
  simp only[b1,b2,aE,aw,nZ,hw];exact⟨⟨by omega,by omega,i2,i3,i4,i5⟩,by omega⟩) (λd hd=>by omega)
theorem aUs (x:jU.B)(h:x.1.1<=1999)(k:x.2.1.2.2<=1999):Ok (gW x) (λr:yo=>r.2.1=x.2.1.2.2):=by
 unfold gW qR;show PQ _ _;rw[aQ,aQ,aE,aE];refine aA (UB x.2.1.2.2 _ ?_) λd _ hd=> ?_
 .obtain⟨a,b,c,e⟩:=hdN x.1.1 h;exact⟨a,b,c,e,rfl,k⟩
 .rw[aw];exact hd
abbrev Bf:=(Int×Int×Int×Int×Int)×Int×Nat×Int
def BR (T:Int)(b c:Bf):Prop:=(∀U,T<=U->b.2.2.2<=U->c.2.2.2<=U)/\c.2.1=b.2.1/\c.2.2.1<=b.2.2.1/\c.1.1=b.1.1/\c.1.2.1=b.1.2.1/\c.1.2.2.1=b.1.2.2.1/\c.1.2.2.2.1=b.1.2.2.2.1/\
 (0<=b.1.2.2.2.2->b.1.2.2.2.2+b.2.2.1<=4611686018427387904->0<=c.1.2.2.2.2/\c.1.2.2.2.2+c.2.2.1=b.1.2.2.2.2+b.2.2.1)
def PR (b c:Bf):Prop:=c.2.1=b.2.1/\c.1.1=wI (b.1.1+1)/\c.1.2.2.2.1=b.1.2.2.2.1/\c.1.2.2.2.2=b.1.2.2.2.2/\c.2.2.2=b.2.2.2/\
 ((c.1.2.1=wI (b.1.2.1+1)/\c.1.2.2.1=b.1.2.2.1/\c.2.2.1=b.2.2.1)∨(c.1.2.1=b.1.2.1/\c.1.2.2.1=b.1.2.2.1/\c.2.2.1=b.2.2.1+1/\((c.2.2.1:Nat):Int)<=b.2.1)∨
  (c.1.2.1=b.1.2.1/\c.1.2.2.1=wI (b.1.2.2.1+1)/\c.2.2.1=b.2.2.1))
def SR (b c:Bf):Prop:=c.2=b.2/\c.1=(wI (b.1.1+1),b.1.2.1,b.1.2.2.1,wI (b.1.2.2.2.1+1),b.1.2.2.2.2)
theorem BR.refl (T:Int)(b:Bf):BR T b b:=⟨λ_ _ h=>h,rfl,cZ _,rfl,rfl,rfl,rfl,λh _=>⟨h,rfl⟩⟩
theorem BR.len {T:Int}{b c:Bf}(h:BR T b c):c.2.2.1<=b.2.2.1:=h.2.2.1
theorem BR.mono {T U:Int}{a b:Bf}(t:T<=U)(h:BR T a b):BR U a b:=⟨λV p q=>h.1 V (ab9 t p) q,h.2⟩
theorem BR.trans {T:Int}{a b c:Bf}(h:BR T a b)(k:BR T b c):BR T a c:=by
 obtain⟨h0,h1,h2,h3,h4,h5,h6,h7⟩:=h;obtain⟨k0,k1,k2,k3,k4,k5,k6,k7⟩:=k;refine⟨λU p q=>k0 U p (h0 U p q),k1.trans h1,dL k2 h2,k3.trans h3,k4.trans h4,k5.trans h5,k6.trans h6,λp q=> ?_⟩;obtain⟨r,s⟩:=h7 p q;obtain⟨u,v⟩:=k7 r (by omega);exact⟨u,v.trans s⟩
theorem aUt (x:xu.B)(h:x.2.1.b.1<=1000):Ok (xw x) (λr:CY=>match r with
  |.inl e=>PR x.2.1 e
  |.inr e=>PR x.2.1 e.2.1):=by
 unfold xw KI;try dsimp only
 show PQ _ _;rw[aN];refine⟨λ_=>by rw[aw];exact⟨rfl,rfl,rfl,rfl,rfl,.inl ⟨rfl,rfl,rfl⟩⟩,λ_=> ?_⟩;rw[aQ,bL];refine⟨rfl,aA (aRx (((x.2.1.b.1,true),x.1),x.2.2) (by show x.2.1.b.1<=1999;omega)) λd _ hd=> ?_⟩;rw[bL];refine⟨rfl,aA (aOx x.2.1.b.1 d.1 hd.1 hd.2 (by omega) _ _ _ _ _ _ _ _ _ _ _ _ _ _ _ _ _ _ _) λd2 _ h2=> ?_⟩;rw[aN];refine⟨λc=> ?_,λ_=> ?_⟩
 .rw[aw];have c:=dm c;exact⟨rfl,rfl,rfl,rfl,rfl,.inr (.inl ⟨rfl,rfl,h2,c⟩)⟩
 rw[bL,aQ,bL];refine⟨by simp only[bq,h2];omega,rfl,aA (aB7 d2.1 0 1 (by omega) (by omega) (by rw[h2];omega) _ _ _ _ _ _ _ _ _) λd3 _ h3=> ?_⟩;rw[aw];have e:d3.1=x.2.1.b.1:=by rw[h3,h2];simp
 exact⟨rfl,rfl,rfl,rfl,rfl,.inr (.inr ⟨rfl,rfl,e⟩)⟩
theorem aLY (x:nc.B):Ok (lk x) (λr:Ez=>SR x.1 r):=by
 unfold lk xP;show PQ _ _;rw[aw];exact⟨rfl,rfl⟩
theorem aLZ (n:Nat)(p q z:Int)(w:Int×Int×Int×Int×Int):∀(d:je.B) (hd:0<=d.1.2/\d.1.2<=(n:Int)/\d.2.1.2.2.1=n/\n<=1999/\d.2.1.2.1=z/\d.2.1.1=w/\d.1.1=p/\d.2.1.2.2.2=q),Ok (Gq d) (λx:tE=>match x with
   |.inl e=>0<=e.1.2.1/\e.1.2.1<=(n:Int)/\e.1.2.2.1=n/\e.2.1.2.1=z/\e.2.1.1=w/\e.1.1=p/\e.2.1.2.2=q
   |.inr e=>0<=e.1.2.1/\e.1.2.1<=(n:Int)/\e.1.2.2.1=n/\e.2.1.2.1=z/\e.2.1.1=w/\e.1.1=p/\e.2.1.2.2=q):=
 bO (λd:je.B=>z4 (n-d.1.2)) (λd hd=>by
  have hw:wI (d.1.2+1)=d.1.2+1:=aW;obtain⟨i0,i1,i2,i3,i4,i5,i6⟩:=hd;unfold Gp;try dsimp only
  rw[aN];refine⟨λh=> ?_,λ_=>by rw[aw];exact⟨i0,i1,i2,i4,i5,i6⟩⟩;have h:=dm h;rw[dz] at h;rw[bL,aN];refine⟨by simp only[bq];omega,λ_=> ?_,λ_=>by rw[aw];exact⟨i0,i1,i2,i4,i5,i6⟩⟩;rw[aw,nZ];simp only[hw];exact⟨⟨by omega,by omega,i2,i3,i4,i5,i6⟩,by omega⟩) (λd hd=>by omega)
theorem aUu (x:xx.B)(h:x.2.1.2.2.1<=1000):Ok (xy x) (λr:CZ=>r.1<=x.2.1.2.2.1/\BR x.1 x.2.1 r.2.1):=by
 unfold xy KL;try dsimp only
 show PQ _ _;rw[aQ,bL];refine⟨rfl,aA (aLZ x.2.1.2.2.1 x.1 x.2.1.2.2.2 x.2.1.2.1 x.2.1.1 _ ⟨by dsimp only;omega,by dsimp only;omega,rfl,by omega,rfl,rfl,rfl,rfl⟩) λy _ hy=> ?_⟩;rw[qQ];constructor
 all_goals
  rintro d rfl
  obtain⟨i0,i1,i2,i4,i5,i6,i7⟩:=hy;rw[bL];refine⟨by simp only[aeu];omega,?_⟩;rw[aQ,bL];refine⟨rfl,aA (aRy (z4 d.1.2.1) (by omega) _ _ _ _ _ _ _ _ _ _) λd1 _ h1=> ?_⟩;rw[aQ,bL];refine⟨rfl,aA (aB7 d.1.2.2.1 0 d.1.2.1 (by omega) i0 (by rw[i2];exact i1) _ _ _ _ _ _ _ _ _) λd2 _ h2=> ?_⟩;rw[aw];have h2:d2.1=x.2.1.2.2.1-z4 d.1.2.1:=by rw[h2,i2];simp only[Int.toNat_zero];omega
  refine⟨?_,λU p q=> ?_,i4,?_,cW (λz=>z.1) i5,cW (λz=>z.2.1) i5,cW (λz=>z.2.2.1) i5,cW (λz=>z.2.2.2.1) i5,λp q=> ?_⟩
  .show d1.1<=_;rw[h1];omega
  .show(if d.1.1>d.2.1.2.2 then d.1.1 else d.2.1.2.2)<=U;rw[i6,i7];split<;>assumption
  .show d2.1<=_;rw[h2];omega
  .have e:d.2.1.1.2.2.2.2=x.2.1.1.2.2.2.2:=cW (λz=>z.2.2.2.2) i5;have hw:wI (d.2.1.1.2.2.2.2+d.1.2.1)=x.2.1.1.2.2.2.2+d.1.2.1:=by rw[e];exact dV (by omega) (by omega)
   show 0<=wI (d.2.1.1.2.2.2.2+d.1.2.1)/\wI (d.2.1.1.2.2.2.2+d.1.2.1)+((d2.1:Nat):Int)=_;rw[hw,h2];omega
end Go.Proofs.YtldgljclcgaibaaGreat
noncomputable section
namespace Go.Proofs.YtldgljclcgaibaaGreat
open Go.Ab Go.Ab.Pg Go.Ab.Rq
def aJI:=qa (pr (cu aS (c kY ab1)) bK)
def auz:=qe (res (pr (aa aEe) (pl mG nil)))
abbrev aJJ:=auz.B
abbrev aJK:=NI->Int->Int->Int->Int->Int->Int->Int->Int->Bool->Option aJJ
def aJL (g:aJK):Ct:=(164,FC aJI (lf auz) (λb=>g b.1.1 b.1.2.1 b.1.b.1 b.1.b.2.1.1 b.1.b.2.1.2.1 b.1.b.2.1.b b.1.c.1 b.1.c.2.1 b.1.c.b b.2))
def zH:=qs (st (pr (cu aS (us 5 (cu Ru (cu az4 (cu aSl (cu aIR (us 1 (cu aSm (cu aSn (c ai (c ai (us 98 (c ai (us 12 (c agd (cl ai (us 64 nil))))))))))))))))) (pl (c cG (c mH (c (so agn) (c xX (c mH (c (so alc) alb)))))) cY)))
def aB8:=qs (st (pr (cu aS (us 5 (cu Ru (cu az4 (cu aSl (cu aIR (us 1 (cu aSm (cu aSn (c ai (c ai (us 98 (c ai (us 12 (c agd (c ai (cl ab (us 63 nil)))))))))))))))))) (pl (c cG (c mH (c (so agn) (c xX (c mH (c (so alc) alb)))))) cY)))
abbrev SB:=aB8.B
def aB9 {ρ:Type}:=@ef SB ((.ex 2)) aB8 ρ
def aoB (aD:bX)(d:zH.B):PL zH SB:=let n6:=d.1.1;let n4:=d.1.2;let n3:=d.2.2.2;let n5:=n3.2.2;let n2:=n4.2.2;let n1:=(n6,n4.1,n4.2.1,n2.1,wI (n2.2+1));let y0:=wI (0+n4.1);let y1:=wI (10+n2.2);let y2:=decide (n2.2<3);let y3:=z4 y0*24+z4 y1;ae y2 (ae (bf n2.2 3) (ae (n2.2==2) (opt (aD n6 n2.1.2.2 30 d.2.1) λak=>ae (bf y0 24) (ae (bf y1 24) (ae (true&&wr (0+y3*1+1) 576) (ret (ww (n1,ak.2,d.2.2.1,n3.1,n3.2.1,λj=>bif z9 j y3 then wI (0-ak.1) else n5.1 j,n5.2))) no) no) no) (ae (n2.2==1) (opt (aD n6 n2.1.2.1 30 d.2.1) λak=>ae (bf y0 24) (ae (bf y1 24) (ae (true&&wr (0+y3*1+1) 576) (ret (ww (n1,ak.2,d.2.2.1,n3.1,n3.2.1,λj=>bif z9 j y3 then wI (0-ak.1) else n5.1 j,n5.2))) no) no) no) (opt (aD n6 n2.1.1 30 d.2.1) λak=>ae (bf y0 24) (ae (bf y1 24) (ae (true&&wr (0+y3*1+1) 576) (ret (ww (n1,ak.2,d.2.2.1,n3.1,n3.2.1,λj=>bif z9 j y3 then wI (0-ak.1) else n5.1 j,n5.2))) no) no) no))) no) (ret (wt ((n6,n4.1,n4.2.1,n2.1,n2.2,y2),d.2)))
def aoC:=bE (aoB aZ) 2000
def zI:=qs (st (pr (cu aS (us 5 (cu Ru (cu az4 (us 1 (cu aSo (us 7 (cu aSp (c ai (us 130 (c ai (us 10 aVI)))))))))))) (pl (c cG (c mH (c (so agn) (c mH alb)))) cY)))
def aCa:=qs (st (pr (cu aS (us 5 (cu Ru (cu az4 (us 1 (cu aSo (us 7 (cu aSp (c ai (us 130 (c ai (us 10 aVN)))))))))))) (pl (c cG (c mH (c (so agn) (c mH alb)))) cY)))
abbrev SD:=aCa.B
def aCb {ρ:Type}:=@ef SD ((.ex 6)) aCa ρ
def aoD (aD:bX)(d:zI.B):PL zI SD:=let n2:=d.2.2.2;let n1:=d.1.2;let y0:=wI (4+d.1.1);let y1:=wI (13+n1.2);let y2:=decide (n1.2<3);let y3:=wI (wI (3*d.1.1)+n1.2);let y4:=z4 y0*24+z4 y1;ae y2 (ae (bf y3 9) (opt (aD (n2.1.2.2.2.2.2.2.2.2.2.2.2 (z4 y3)) n2.1.1 30 d.2.1) λak=>ae (bf y0 24) (ae (bf y1 24) (ae (true&&wr (0+y4*1+1) 576) (ret (ww ((d.1.1,n1.1,wI (n1.2+1)),ak.2,d.2.2.1,n2.1,λj=>bif z9 j y4 then wI (0-ak.1) else n2.2.1 j,n2.2.2))) no) no) no) no) (ret (wt ((d.1.1,n1.1,n1.2,y2),d.2)))
def aoE:=bE (aoD aZ) 2000
def zJ:=qs (st (pr (cu aS (us 5 (cu Ru (cu az4 (cu aSl (cu aIR (us 1 (cu aSm (cu aSn (c ai (us 99 aVK))))))))))) (pl (c cG (c mH (c (so agn) (c xX (c mH (c (so alc) alb)))))) cY)))
def aCc:=qs (st (pr (cu aS (us 5 (cu Ru (cu az4 (cu aSl (cu aIR (us 1 (cu aSm (cu aSn (c ai (us 99 (c ai (cl ab (us 77 nil)))))))))))))) (pl (c cG (c mH (c (so agn) (c xX (c mH (c (so alc) alb)))))) cY)))
abbrev SE:=aCc.B
def aCd {ρ:Type}:=@ef SE ((.ex 0)) aCc ρ
def aoF (ru:LT zH SB)(d:zJ.B):PL zJ SE:=let bR:=d.2.1;let bA:=d.1.1;let bc:=d.2.2.1;let n7:=d.1.2;let n6:=d.2.2.2;let n15:=n6.2.1;let bn:=n6.2.2.1;let n4:=n6.2.2.2;let n21:=n4.2.2.2;let n17:=n4.1.2;let bx:=n21.2.2.2;let n20:=bx.2.2.2;let n9:=n17.2.2;let n18:=n9.2.2;let n5:=n18.2.2;let n19:=n5.2.2;let n8:=n19.2.2;let n16:=n8.2.2;let n3:=(n4.2.1,n4.2.2.1,n21.1);let n2:=(n21.2.1,n21.2.2.1,bx.1);let n1:=(bx.2.1,bx.2.2.1,n20.1);let y0:=bf n7 4;let y1:=n7==2;let y2:=n7==1;let y3:=n7==3;let y4:=wI (0+n7);let y5:=0+z4 y4*24;let y6:=y5+1;let y7:=true&&wr (y5+4) 576;let y8:=y6+1;let y9:=decide (n7<4);ae y9 (ae (bf y4 24) (ae y0 (ae y3 (ae y7 (ae y0 (ae y3 (opt (ru ((bA,n7,n7,n20.2,0),bR,bc,n6.1,n15,λj=>bif z9 j (y8+1) then n16.2.2 else bif z9 j y8 then n16.2.1 else bif z9 j y6 then n16.1 else bif z9 j y5 then n8.2.1 else bn j,n4)) λd=>ret (ww ((d.1.1,wI (d.1.2.2.1+1)),d.2))) (ae y1 (opt (ru ((bA,n7,n7,n1,0),bR,bc,n6.1,n15,λj=>bif z9 j (y8+1) then n16.2.2 else bif z9 j y8 then n16.2.1 else bif z9 j y6 then n16.1 else bif z9 j y5 then n8.2.1 else bn j,n4)) λd=>ret (ww ((d.1.1,wI (d.1.2.2.1+1)),d.2))) (ae y2 (opt (ru ((bA,n7,n7,n2,0),bR,bc,n6.1,n15,λj=>bif z9 j (y8+1) then n16.2.2 else bif z9 j y8 then n16.2.1 else bif z9 j y6 then n16.1 else bif z9 j y5 then n8.2.1 else bn j,n4)) λd=>ret (ww ((d.1.1,wI (d.1.2.2.1+1)),d.2))) (opt (ru ((bA,n7,n7,n3,0),bR,bc,n6.1,n15,λj=>bif z9 j (y8+1) then n16.2.2 else bif z9 j y8 then n16.2.1 else bif z9 j y6 then n16.1 else bif z9 j y5 then n8.2.1 else bn j,n4)) λd=>ret (ww ((d.1.1,wI (d.1.2.2.1+1)),d.2)))))) no) no) (ae y1 (ae y7 (ae y0 (ae y3 (opt (ru ((bA,n7,n7,n20.2,0),bR,bc,n6.1,n15,λj=>bif z9 j (y8+1) then n8.1 else bif z9 j y8 then n19.2.1 else bif z9 j y6 then n19.1 else bif z9 j y5 then n5.2.1 else bn j,n4)) λd=>ret (ww ((d.1.1,wI (d.1.2.2.1+1)),d.2))) (ae y1 (opt (ru ((bA,n7,n7,n1,0),bR,bc,n6.1,n15,λj=>bif z9 j (y8+1) then n8.1 else bif z9 j y8 then n19.2.1 else bif z9 j y6 then n19.1 else bif z9 j y5 then n5.2.1 else bn j,n4)) λd=>ret (ww ((d.1.1,wI (d.1.2.2.1+1)),d.2))) (ae y2 (opt (ru ((bA,n7,n7,n2,0),bR,bc,n6.1,n15,λj=>bif z9 j (y8+1) then n8.1 else bif z9 j y8 then n19.2.1 else bif z9 j y6 then n19.1 else bif z9 j y5 then n5.2.1 else bn j,n4)) λd=>ret (ww ((d.1.1,wI (d.1.2.2.1+1)),d.2))) (opt (ru ((bA,n7,n7,n3,0),bR,bc,n6.1,n15,λj=>bif z9 j (y8+1) then n8.1 else bif z9 j y8 then n19.2.1 else bif z9 j y6 then n19.1 else bif z9 j y5 then n5.2.1 else bn j,n4)) λd=>ret (ww ((d.1.1,wI (d.1.2.2.1+1)),d.2)))))) no) no) (ae y2 (ae y7 (ae y0 (ae y3 (opt (ru ((bA,n7,n7,n20.2,0),bR,bc,n6.1,n15,λj=>bif z9 j (y8+1) then n5.1 else bif z9 j y8 then n18.2.1 else bif z9 j y6 then n18.1 else bif z9 j y5 then n9.2.1 else bn j,n4)) λd=>ret (ww ((d.1.1,wI (d.1.2.2.1+1)),d.2))) (ae y1 (opt (ru ((bA,n7,n7,n1,0),bR,bc,n6.1,n15,λj=>bif z9 j (y8+1) then n5.1 else bif z9 j y8 then n18.2.1 else bif z9 j y6 then n18.1 else bif z9 j y5 then n9.2.1 else bn j,n4)) λd=>ret (ww ((d.1.1,wI (d.1.2.2.1+1)),d.2))) (ae y2 (opt (ru ((bA,n7,n7,n2,0),bR,bc,n6.1,n15,λj=>bif z9 j (y8+1) then n5.1 else bif z9 j y8 then n18.2.1 else bif z9 j y6 then n18.1 else bif z9 j y5 then n9.2.1 else bn j,n4)) λd=>ret (ww ((d.1.1,wI (d.1.2.2.1+1)),d.2))) (opt (ru ((bA,n7,n7,n3,0),bR,bc,n6.1,n15,λj=>bif z9 j (y8+1) then n5.1 else bif z9 j y8 then n18.2.1 else bif z9 j y6 then n18.1 else bif z9 j y5 then n9.2.1 else bn j,n4)) λd=>ret (ww ((d.1.1,wI (d.1.2.2.1+1)),d.2)))))) no) no) (ae y7 (ae y0 (ae y3 (opt (ru ((bA,n7,n7,n20.2,0),bR,bc,n6.1,n15,λj=>bif z9 j (y8+1) then n9.1 else bif z9 j y8 then n17.2.1 else bif z9 j y6 then n17.1 else bif z9 j y5 then n4.1.1 else bn j,n4)) λd=>ret (ww ((d.1.1,wI (d.1.2.2.1+1)),d.2))) (ae y1 (opt (ru ((bA,n7,n7,n1,0),bR,bc,n6.1,n15,λj=>bif z9 j (y8+1) then n9.1 else bif z9 j y8 then n17.2.1 else bif z9 j y6 then n17.1 else bif z9 j y5 then n4.1.1 else bn j,n4)) λd=>ret (ww ((d.1.1,wI (d.1.2.2.1+1)),d.2))) (ae y2 (opt (ru ((bA,n7,n7,n2,0),bR,bc,n6.1,n15,λj=>bif z9 j (y8+1) then n9.1 else bif z9 j y8 then n17.2.1 else bif z9 j y6 then n17.1 else bif z9 j y5 then n4.1.1 else bn j,n4)) λd=>ret (ww ((d.1.1,wI (d.1.2.2.1+1)),d.2))) (opt (ru ((bA,n7,n7,n3,0),bR,bc,n6.1,n15,λj=>bif z9 j (y8+1) then n9.1 else bif z9 j y8 then n17.2.1 else bif z9 j y6 then n17.1 else bif z9 j y5 then n4.1.1 else bn j,n4)) λd=>ret (ww ((d.1.1,wI (d.1.2.2.1+1)),d.2)))))) no) no)))) no) no) (ret (wt ((bA,n7,y9),d.2)))
def aoG:=bE (aoF aoC) 2000
def zK:=qs (st (pr (cu aS (us 5 (cu Ru (cu az4 (us 1 (cu aSo (us 7 (cu aSp (us 131 (cl ai (us 42 nil))))))))))) (pl (c cG (c mH (c (so agn) (c mH alb)))) cY)))
def aCe:=qs (st (pr (cu aS (us 5 (cu Ru (cu az4 (us 1 (cu aSo (us 7 (cu aSp (us 131 aV2))))))))) (pl (c cG (c mH (c (so agn) (c mH alb)))) cY)))
abbrev SF:=aCe.B
def aCf {ρ:Type}:=@ef SF ((.ex 4)) aCe ρ
def aoH (l_3:LT zI SD)(d:zK.B):PL zK SF:=let n3:=d.2.2;let n1:=n3.2.2.2;let n2:=n1.2.2.2.2.2;let n4:=n2.2.2.2;let y0:=wI (4+d.1);let y1:=0+z4 y0*24;let y2:=y1+1;let y3:=true&&wr (y1+4) 576;let y4:=y2+1;let y5:=decide (d.1<3);ae y5 (ae (bf y0 24) (ae (bf d.1 3) (ae (d.1==2) (ae y3 (opt (l_3 ((d.1,d.1,0),d.2.1,n3.1,n3.2.1,λj=>bif z9 j (y4+1) then n4.2.2.2 else bif z9 j y4 then n4.2.2.1 else bif z9 j y2 then n4.2.1 else bif z9 j y1 then n4.1 else n3.2.2.1 j,n1)) λd=>let n5:=d.2.2.2;let y0:=wI (7+d.1.1);let y1:=wI (4+d.1.1);let y2:=z4 y0*24+z4 y1;ae (bf y0 24) (ae (bf y1 24) (ae (true&&wr (0+y2*1+1) 576) (ret (ww (wI (d.1.2.1+1),d.2.1,d.2.2.1,n5.1,λj=>bif z9 j y2 then n5.1.1 else n5.2.1 j,n5.2.2))) no) no) no) no) (ae (d.1==1) (ae y3 (opt (l_3 ((d.1,d.1,0),d.2.1,n3.1,n3.2.1,λj=>bif z9 j (y4+1) then n2.2.2.1 else bif z9 j y4 then n2.2.1 else bif z9 j y2 then n2.1 else bif z9 j y1 then n1.2.2.2.2.1 else n3.2.2.1 j,n1)) λd=>let n6:=d.2.2.2;let y0:=wI (7+d.1.1);let y1:=wI (4+d.1.1);let y2:=z4 y0*24+z4 y1;ae (bf y0 24) (ae (bf y1 24) (ae (true&&wr (0+y2*1+1) 576) (ret (ww (wI (d.1.2.1+1),d.2.1,d.2.2.1,n6.1,λj=>bif z9 j y2 then n6.1.1 else n6.2.1 j,n6.2.2))) no) no) no) no) (ae y3 (opt (l_3 ((d.1,d.1,0),d.2.1,n3.1,n3.2.1,λj=>bif z9 j (y4+1) then n1.2.2.2.1 else bif z9 j y4 then n1.2.2.1 else bif z9 j y2 then n1.2.1 else bif z9 j y1 then n1.1 else n3.2.2.1 j,n1)) λd=>let n7:=d.2.2.2;let y0:=wI (4+d.1.1);let y1:=wI (7+d.1.1);let y2:=z4 y1*24+z4 y0;ae (bf y1 24) (ae (bf y0 24) (ae (true&&wr (0+y2*1+1) 576) (ret (ww (wI (d.1.2.1+1),d.2.1,d.2.2.1,n7.1,λj=>bif z9 j y2 then n7.1.1 else n7.2.1 j,n7.2.2))) no) no) no) no))) no) no) (ret (wt ((d.1,y5),d.2)))
def aoI:=bE (aoH aoE) 2000
def azD (Bh:MQ)(aR:fH)(bk:dU)(TY:DD)(aD:bX)(adw:IW)(eB:LT zJ SE)(MK:LT zK SF)(x0:Nat->Int)(x1:Int)(x2:Int)(x3:Int)(x4:Int)(x5:Int)(x6:Int)(x7:Int)(x8:Int)(x9:Bool):Pg aJJ:=opt (Bh x0 x1 x2 x3 x4 x5 x6 x7 x8 x9) λd=>let n1:=d.1.2.2.2.2.2.2.2;let n3:=n1.2.2;let y0:=wI (0-n1.2.1);let y1:=wI (0-n3.1);let y2:=wI (0-n3.2.1);opt (aR x0 d.2) λak=>opt (bk ak.1) λaK=>let se:=wI (0-aK.2.1);let aAN:=wI (0-aK.2.2.2);let a1G:=wI (0-aK.2.2.1);opt TY λbJ=>opt (aD d.1.1 536870912 30 ak.2) λcI=>opt (eB ((cI.1,0),cI.2,λx=>0,d.1,aK,bJ,(n1.1,y0,y1,y2,n1.2.1,n1.1,n3.2.1,y1,n3.1,y2,n1.1,n1.2.1,n3.2.1,n3.1,y0,n1.1),se,a1G,aAN,aK.1,aAN,aK.2.2.1,aK.2.2.2,aK.1,se,a1G,aK.2.1,aK.1)) λd=>let n2:=d.2.2.2;let n4:=n2.1.2.2.2.2;opt (adw n2.2.1.1 n2.2.1.2.1 n2.2.1.2.2.1 n2.2.1.2.2.2 n4.1 n4.2.1 n4.2.2.1 d.2.1) λeV=>opt (MK (0,eV.2,d.2.2.1,n2.1,n2.2.2.1,eV.1)) λd=>ret (d.2.2.2.2.1,d.2.1)
def afy:=λx0 x1 x2 x3 x4 x5 x6 x7 x8 x9=>(azD wS bY cg nP aZ Aa aoG aoI x0 x1 x2 x3 x4 x5 x6 x7 x8 x9).val
abbrev P9:=MQ×fH×dU×DD×bX×IW×(LT zH SB)×(LT zI SD)×(LT zJ SE)×(LT zK SF)
def Wq (p:P9):KK:=⟨[X5 p.1,jJ p.2.1,jh p.b.1,TK p.b.2.1,fF p.c.1,adn p.c.2.1],⟨[⟨9,(rg 1 5 (10::rg 14 99 (rg 114 78 []))),[]⟩,⟨13,(rg 1 5 (10::rg 15 98 (rg 114 12 (rg 128 64 [])))),[]⟩,⟨20,(rg 1 5 (8::rg 10 7 (rg 18 131 (rg 150 42 [])))),[]⟩,⟨24,(rg 1 5 (8::rg 10 7 (rg 19 130 (rg 150 10 (rg 161 31 []))))),[]⟩],[gx 13 1 zH aB9 p.c.b.1,gx 24 1 zI aCb p.c.b.2.1,gx 9 1 zJ aCd p.d.1,gx 20 1 zK aCf p.d.2],[],[],(some ⟨0,(rg 0 6 (rg 7 185 [])),[]⟩)⟩,1,164⟩
theorem aL0 (p:P9):LI (Wq p) 13 zH aB9 (aoB p.c.1):=λ_ d c K=>by kernel_rfl
theorem aL1 (p:P9):LI (Wq p) 24 zI aCb (aoD p.c.1):=λ_ d c K=>by kernel_rfl
theorem aL2 (p:P9):LI (Wq p) 9 zJ aCd (aoF p.c.b.1):=λ_ d c K=>by kernel_rfl
theorem aL3 (p:P9):LI (Wq p) 20 zK aCf (aoH p.c.b.2.1):=λ_ d c K=>by kernel_rfl
theorem aUv (p:P9):D2 (Wq p) aJI (lf auz) λb=>azD p.1 p.2.1 p.b.1 p.b.2.1 p.c.1 p.c.2.1 p.d.1 p.d.2 b.1.1 b.1.2.1 b.1.b.1 b.1.b.2.1.1 b.1.b.2.1.2.1 b.1.b.2.1.b b.1.c.1 b.1.c.2.1 b.1.c.b b.2:=λb=>by kernel_rfl
abbrev Wr:P9:=(wS,bY,cg,nP,aZ,Aa,aoC,aoE,aoG,aoI)
theorem aUw [ay]:SC (aJL afy):=sc (kS (k:=Wq Wr) (.c am5 (.c kM (.c j8 (.c ajr (.c gk (.c arZ (.nil _))))))) [9,13,20,24] [] ⟨kL (aL2 Wr),⟨kL (aL0 Wr),⟨kL (aL3 Wr),⟨kL (aL1 Wr),trivial⟩⟩⟩⟩ trivial (aUv Wr))
def aCg:=qa (pr (cu aS (c AU (c kY (c (aa aKp) ak8)))) bK)
def aiC:=qe aQa
abbrev aCh:=aiC.B
abbrev aoJ:=NI->NI->NI->Int->Int->Int->Int->Int->Int->Int->Int->NI->Bool->Option aCh
def aCi (g:aoJ):Ct:=(107,FC aCg (lf aiC) (λb=>g b.1.1.1 b.1.1.2 b.1.2.1 b.1.b.1.1 b.1.b.1.2.1 b.1.b.1.b.1.1 b.1.b.1.b.1.2.1 b.1.b.1.b.1.b b.1.b.1.b.2.1 b.1.b.1.c.1 b.1.b.1.c.2 b.1.b.2 b.2))
def abL (apE:aJK)(Wg:awr)(wB:Hg)(x0:Nat->Int)(x1:Nat->Int)(x2:Nat->Int)(x3:Int)(x4:Int)(x5:Int)(x6:Int)(x7:Int)(x8:Int)(x9:Int)(fX:Int)(fY:Nat->Int)(A7:Bool):Pg aCh:=opt (apE x2 x3 x4 x5 x6 x7 x8 x9 fX A7) λd=>opt (Wg fY x4 d.2) λak=>opt (wB x0 x1 d.1 ak.1 ak.2) λd=>ret d
def B5:=λx0 x1 x2 x3 x4 x5 x6 x7 x8 x9 fX fY A7=>(abL afy MV hX x0 x1 x2 x3 x4 x5 x6 x7 x8 x9 fX fY A7).val
theorem aOB:∀apE Wg wB,D0 [aJL apE,aws Wg,Pm wB] 107 aCg (lf aiC) λb=>abL apE Wg wB b.1.1.1 b.1.1.2 b.1.2.1 b.1.b.1.1 b.1.b.1.2.1 b.1.b.1.b.1.1 b.1.b.1.b.1.2.1 b.1.b.1.b.1.b b.1.b.1.b.2.1 b.1.b.1.c.1 b.1.b.1.c.2 b.1.b.2 b.2:=λ_ _ _ b=>by kernel_rfl
theorem aOC [ay]:SC (aCi B5):=s0 (.c aUw (.c aLq (.c aeR (.nil _)))) (aOB afy MV hX)
def Zw:=qa (pr (cu aS Fs) bK)
def NG:=qe aP1
def De:=qe axX
abbrev Df:=NG.B⊕De.B
def Vc:Df->T:=ls (lf NG) (lf De)
def Zx:Df->T:=ls (λ_=>.fail) (lf De)
abbrev Zy:=Int->Int->Int->Bool->Option Df
def Zz (g:Zy):Ct:=(119,FC Zw Zx (λb=>g b.1.1 b.1.2.1 b.1.b b.2))
def KW (x0:Int)(x1:Int)(x2:Int)(x3:Bool):Pg Df:=ae (decide (x1>x2)) (ret (ww x1)) (ae (decide (x0<x1)) (ret (ww x1)) (ae (decide (x0>x2)) (ret (ww x2)) (ret (wt x0))))
def xH:=λx0 x1 x2 x3=>(KW x0 x1 x2 x3).val
theorem auA:D0 [] 119 Zw Vc λb=>KW b.1.1 b.1.2.1 b.1.b b.2:=λb=>by kernel_rfl
theorem auB [ay]:SC (Zz xH):=sc (FD (R:=Vc) (R':=Zx) (λd r h=>by rcases d with d|d<;>first|exact h|(have h:(none:Option pD)=some r:=h;cases h))<|k0 (.nil _) auA)
def afz:=qa (pr (cu aS gZ) bK)
def NH:=qe axX
abbrev afA:=NH.B
abbrev P':=Int->Bool->Option afA
def Qa (g:P'):Ct:=(126,FC afz (lf NH) (λb=>g b.1 b.2))
def Qb (Dg:Zy)(x0:Int)(x1:Bool):Pg afA:=opt (Dg x0 (-1152921504606846976) 1152921504606846976 x1) λd=>sm d (λd=>no) (λd=>ret d)
def rS:=λx0 x1=>(Qb xH x0 x1).val
theorem azE:∀Dg,D0 [Zz Dg] 126 afz (lf NH) λb=>Qb Dg b.1 b.2:=λ_ b=>by kernel_rfl
theorem afB [ay]:SC (Qa rS):=s0 (.c auB (.nil _)) (azE xH)
def afC:=qa (pr (cu aS (c ai (c ab aMC))) bK)
def SG:=qe aP1
def GB:=qe axX
abbrev Ht:=SG.B⊕GB.B
def abM:Ht->T:=ls (lf SG) (lf GB)
def afD:Ht->T:=ls (λ_=>.fail) (lf GB)
abbrev afE:=Int->Bool->Bool->Bool->Option Ht
def afF (g:afE):Ct:=(198,FC afC afD (λb=>g b.1.1 b.1.2.1 b.1.b b.2))
def Qc (jZ:W3)(jD:P')(x0:Int)(x1:Bool)(x2:Bool)(x3:Bool):Pg Ht:=ae (!x1) (opt (jZ x2) λd=>ret (ww d)) (opt (jD x0 x3) λd=>ret (wt d))
def BA:=λx0 x1 x2 x3=>(Qc oc rS x0 x1 x2 x3).val
theorem azF:∀jZ jD,D0 [Xa jZ,Qa jD] 198 afC abM λb=>Qc jZ jD b.1.1 b.1.2.1 b.1.b b.2:=λ_ _ b=>by kernel_rfl
theorem azG [ay]:SC (afF BA):=sc (FD (R:=abM) (R':=afD) (λd r h=>by rcases d with d|d<;>first|exact h|(have h:(none:Option pD)=some r:=h;cases h))<|k0 (.c ag3 (.c afB (.nil _))) (azF oc rS))
def akn:=qa (pr (cu aS (c agb gZ)) bK)
def Vd:=qe aP1
def Im:=qe axX
abbrev J1:=Vd.B⊕Im.B
def afG:J1->T:=ls (lf Vd) (lf Im)
def ako:J1->T:=ls (λ_=>.fail) (lf Im)
abbrev akp:=Int->Int->Int->Bool->Option J1
def akq (g:akp):Ct:=(128,FC akn ako (λb=>g b.1.1.1 b.1.1.2 b.1.2 b.2))
def UC (jZ:W3)(yV:al0)(Hu:afE)(x0:Int)(x1:Int)(x2:Int)(x3:Bool):Pg J1:=let y0:=decide (x0<0);ae (x2==0) (ae (x0==0&&(x1==0&&true)) (ret (ww 0)) (opt (jZ y0) λd=>ret (ww d))) (opt (yV x0 x1 x2) λd=>opt (Hu d.1 d.2 (!y0==decide (x2<0)) x3) λd=>sm d (λd=>no) (λd=>ret (wt d)))
def J2:=λx0 x1 x2 x3=>(UC oc BP BA x0 x1 x2 x3).val
theorem aDu:∀jZ yV Hu,D0 [Xa jZ,al1 yV,afF Hu] 128 akn afG λb=>UC jZ yV Hu b.1.1.1 b.1.1.2 b.1.2 b.2:=λ_ _ _ b=>by kernel_rfl
theorem aDv [ay]:SC (akq J2):=sc (FD (R:=afG) (R':=ako) (λd r h=>by rcases d with d|d<;>first|exact h|(have h:(none:Option pD)=some r:=h;cases h))<|k0 (.c ag3 (.c aAC (.c azG (.nil _)))) (aDu oc BP BA))
def Ve:=qa (pr (cu aS Fs) bK)
def GC:=qe axX
abbrev Vf:=GC.B
abbrev Io:=Int->Int->Int->Bool->Option Vf
def Ip (g:Io):Ct:=(78,FC Ve (lf GC) (λb=>g b.1.1 b.1.2.1 b.1.b b.2))
def Iq (jD:P')(c9:oG)(J3:akp)(x0:Int)(x1:Int)(x2:Int)(x3:Bool):Pg Vf:=opt (jD x0 x3) λd=>opt (jD x1 x3) λak=>opt (c9 d ak) λd=>opt (jD x2 x3) λaK=>opt (J3 d.1 d.2 aK x3) λd=>sm d (λd=>no) (λd=>ret d)
def kU:=λx0 x1 x2 x3=>(Iq rS fK J2 x0 x1 x2 x3).val
theorem aqg:∀jD c9 J3,D0 [Qa jD,yT c9,akq J3] 78 Ve (lf GC) λb=>Iq jD c9 J3 b.1.1 b.1.2.1 b.1.b b.2:=λ_ _ _ b=>by kernel_rfl
theorem Vg [ay]:SC (Ip kU):=s0 (.c afB (.c BO (.c aDv (.nil _)))) (aqg rS fK J2)
def HL:=qa (pr (c ai (c ai aKh)) (cu as1 bK))
def xI:=qe aPP
abbrev HM:=xI.B
abbrev yx:=Int->Int->Int->Int->Bool->Option HM
def yy (g:yx):Ct:=(194,FC HL (lf xI) (λb=>g b.1.1 b.1.2.1 b.1.b.1 b.1.b.2 b.2))
def yA (aU:Io)(x0:Int)(x1:Int)(x2:Int)(x3:Int)(x4:Bool):Pg HM:=opt (aU (wI (x1-x0)) x2 x3 x4) λd=>ret (wI (x0+d))
def gY:=λx0 x1 x2 x3 x4=>(yA kU x0 x1 x2 x3 x4).val
theorem aaa:∀aU,D0 [Ip aU] 194 HL (lf xI) λb=>yA aU b.1.1 b.1.2.1 b.1.b.1 b.1.b.2 b.2:=λ_ b=>by kernel_rfl
theorem HN [ay]:SC (yy gY):=s0 (.c Vg (.nil _)) (aaa kU)
def HO:=qa (pr (cl (aa (c gi aEi)) (cu aS (cu Rv (cu (app 2 1) nil)))) (cu (cu (gc (ccl (pu (nat 194) (pu rq7 (pu AS Ek))))) nil) (c jG (c jG (cu (cu (gp 4 1) nil) bK)))))
def xJ:=qe (res (pl ai (pu aWb nil)))
abbrev HP:=xJ.B
abbrev HQ:=Int->Int->Int->Int->Int->Int->Int->Int->Int->Bool->Option HP
def HR (g:HQ):Ct:=(195,FC HO (lf xJ) (λb=>g b.1.1 b.1.2.1 b.1.b.1 b.1.b.2.1 b.1.c.1 b.1.c.2.1 b.1.c.b b.2.1 b.b.1 b.b.2))
def yB (ao:yx)(x0:Int)(x1:Int)(x2:Int)(x3:Int)(x4:Int)(x5:Int)(x6:Int)(x7:Int)(x8:Int)(x9:Bool):Pg HP:=let y0:=wI (x2*1073741824);let y1:=wI (x6*1073741824);let y2:=wI (x3*1073741824);let y3:=wI (x0*1073741824);let y4:=wI (x7+1);let y5:=wI (x5*1073741824);let y6:=wI (x1*1073741824);let y7:=wI (x4*1073741824);let y8:=bf y4 7;let y9:=y4==5;let xR:=y4==1;let xS:=y4==6;let AB:=y4==2;let AD:=y4==3;let AE:=y4==4;ae (bf x7 7) (ae (x7==6) (ae y8 (ae xS (opt (ao y1 y1 x8 600000000 x9) λd=>ret d) (ae y9 (opt (ao y1 y5 x8 600000000 x9) λd=>ret d) (ae AE (opt (ao y1 y7 x8 600000000 x9) λd=>ret d) (ae AD (opt (ao y1 y2 x8 600000000 x9) λd=>ret d) (ae AB (opt (ao y1 y0 x8 600000000 x9) λd=>ret d) (ae xR (opt (ao y1 y6 x8 600000000 x9) λd=>ret d) (opt (ao y1 y3 x8 600000000 x9) λd=>ret d))))))) no) (ae (x7==5) (ae y8 (ae xS (opt (ao y5 y1 x8 600000000 x9) λd=>ret d) (ae y9 (opt (ao y5 y5 x8 600000000 x9) λd=>ret d) (ae AE (opt (ao y5 y7 x8 600000000 x9) λd=>ret d) (ae AD (opt (ao y5 y2 x8 600000000 x9) λd=>ret d) (ae AB (opt (ao y5 y0 x8 600000000 x9) λd=>ret d) (ae xR (opt (ao y5 y6 x8 600000000 x9) λd=>ret d) (opt (ao y5 y3 x8 600000000 x9) λd=>ret d))))))) no) (ae (x7==4) (ae y8 (ae xS (opt (ao y7 y1 x8 600000000 x9) λd=>ret d) (ae y9 (opt (ao y7 y5 x8 600000000 x9) λd=>ret d) (ae AE (opt (ao y7 y7 x8 600000000 x9) λd=>ret d) (ae AD (opt (ao y7 y2 x8 600000000 x9) λd=>ret d) (ae AB (opt (ao y7 y0 x8 600000000 x9) λd=>ret d) (ae xR (opt (ao y7 y6 x8 600000000 x9) λd=>ret d) (opt (ao y7 y3 x8 600000000 x9) λd=>ret d))))))) no) (ae (x7==3) (ae y8 (ae xS (opt (ao y2 y1 x8 600000000 x9) λd=>ret d) (ae y9 (opt (ao y2 y5 x8 600000000 x9) λd=>ret d) (ae AE (opt (ao y2 y7 x8 600000000 x9) λd=>ret d) (ae AD (opt (ao y2 y2 x8 600000000 x9) λd=>ret d) (ae AB (opt (ao y2 y0 x8 600000000 x9) λd=>ret d) (ae xR (opt (ao y2 y6 x8 600000000 x9) λd=>ret d) (opt (ao y2 y3 x8 600000000 x9) λd=>ret d))))))) no) (ae (x7==2) (ae y8 (ae xS (opt (ao y0 y1 x8 600000000 x9) λd=>ret d) (ae y9 (opt (ao y0 y5 x8 600000000 x9) λd=>ret d) (ae AE (opt (ao y0 y7 x8 600000000 x9) λd=>ret d) (ae AD (opt (ao y0 y2 x8 600000000 x9) λd=>ret d) (ae AB (opt (ao y0 y0 x8 600000000 x9) λd=>ret d) (ae xR (opt (ao y0 y6 x8 600000000 x9) λd=>ret d) (opt (ao y0 y3 x8 600000000 x9) λd=>ret d))))))) no) (ae (x7==1) (ae y8 (ae xS (opt (ao y6 y1 x8 600000000 x9) λd=>ret d) (ae y9 (opt (ao y6 y5 x8 600000000 x9) λd=>ret d) (ae AE (opt (ao y6 y7 x8 600000000 x9) λd=>ret d) (ae AD (opt (ao y6 y2 x8 600000000 x9) λd=>ret d) (ae AB (opt (ao y6 y0 x8 600000000 x9) λd=>ret d) (ae xR (opt (ao y6 y6 x8 600000000 x9) λd=>ret d) (opt (ao y6 y3 x8 600000000 x9) λd=>ret d))))))) no) (ae y8 (ae xS (opt (ao y3 y1 x8 600000000 x9) λd=>ret d) (ae y9 (opt (ao y3 y5 x8 600000000 x9) λd=>ret d) (ae AE (opt (ao y3 y7 x8 600000000 x9) λd=>ret d) (ae AD (opt (ao y3 y2 x8 600000000 x9) λd=>ret d) (ae AB (opt (ao y3 y0 x8 600000000 x9) λd=>ret d) (ae xR (opt (ao y3 y6 x8 600000000 x9) λd=>ret d) (opt (ao y3 y3 x8 600000000 x9) λd=>ret d))))))) no))))))) no
def mF:=λx0 x1 x2 x3 x4 x5 x6 x7 x8 x9=>(yB gY x0 x1 x2 x3 x4 x5 x6 x7 x8 x9).val
theorem aab:∀ao,D0 [yy ao] 195 HO (lf xJ) λb=>yB ao b.1.1 b.1.2.1 b.1.b.1 b.1.b.2.1 b.1.c.1 b.1.c.2.1 b.1.c.b b.2.1 b.b.1 b.b.2:=λ_ b=>by kernel_rfl
theorem aac [ay]:SC (HR mF):=s0 (.c HN (.nil _)) (aab gY)
def Lv:=qa (pr (cu aS HV) bK)
def As:=qe aWt
abbrev Lw:=As.B
abbrev Lx:=Int->Int->Int->Bool->Option Lw
def Ly (g:Lx):Ct:=(120,FC Lv (lf As) (λb=>g b.1.1 b.1.2.1 b.1.b b.2))
def BB (cU:vZ)(jl:Ie)(ao:yx)(aI:HQ)(aU:Io)(x0:Int)(x1:Int)(x2:Int)(x3:Bool):Pg Lw:=let y0:=wI (x1+1800000000);let y1:=wI (x0+900000000);let y2:=wI (t8 y1 450000000);let y3:=wI (t8 y0 600000000);let y4:=if 3<y2 then 3 else y2;let y5:=if 5<y3 then 5 else y3;let y6:=wI (y4+1);let y7:=wI (y0-wI (y5*600000000));opt (cU x0 x1 x2) λd=>ae (!d) (ret (0,1)) (opt jl λd=>ae (bf y4 5) (ae (y4==4) (opt (aI 1000 4000 (-3000) 500 3500 (-1200) 1000 y5 y7 x3) λd=>ae (bf y6 5) (ae (y6==4) (opt (aI 1000 4000 (-3000) 500 3500 (-1200) 1000 y5 y7 x3) λak=>opt (ao d ak (wI (y1-wI (y4*450000000))) 450000000 x3) λd=>opt (aU d 3373259426 19327352832000 x3) λd=>ret (d,0)) (ae (y6==3) (opt (aI 500 1500 (-1700) 100 700 (-800) 500 y5 y7 x3) λak=>opt (ao d ak (wI (y1-wI (y4*450000000))) 450000000 x3) λd=>opt (aU d 3373259426 19327352832000 x3) λd=>ret (d,0)) (ae (y6==2) (opt (aI 950 900 (-1400) (-500) (-300) 100 950 y5 y7 x3) λak=>opt (ao d ak (wI (y1-wI (y4*450000000))) 450000000 x3) λd=>opt (aU d 3373259426 19327352832000 x3) λd=>ret (d,0)) (ae (y6==1) (opt (aI 2200 2500 500 (-2200) (-3800) 0 2200 y5 y7 x3) λak=>opt (ao d ak (wI (y1-wI (y4*450000000))) 450000000 x3) λd=>opt (aU d 3373259426 19327352832000 x3) λd=>ret (d,0)) (opt (aI 3000 6000 (-2000) (-1500) (-6000) (-9000) 3000 y5 y7 x3) λak=>opt (ao d ak (wI (y1-wI (y4*450000000))) 450000000 x3) λd=>opt (aU d 3373259426 19327352832000 x3) λd=>ret (d,0)))))) no) (ae (y4==3) (opt (aI 500 1500 (-1700) 100 700 (-800) 500 y5 y7 x3) λd=>ae (bf y6 5) (ae (y6==4) (opt (aI 1000 4000 (-3000) 500 3500 (-1200) 1000 y5 y7 x3) λak=>opt (ao d ak (wI (y1-wI (y4*450000000))) 450000000 x3) λd=>opt (aU d 3373259426 19327352832000 x3) λd=>ret (d,0)) (ae (y6==3) (opt (aI 500 1500 (-1700) 100 700 (-800) 500 y5 y7 x3) λak=>opt (ao d ak (wI (y1-wI (y4*450000000))) 450000000 x3) λd=>opt (aU d 3373259426 19327352832000 x3) λd=>ret (d,0)) (ae (y6==2) (opt (aI 950 900 (-1400) (-500) (-300) 100 950 y5 y7 x3) λak=>opt (ao d ak (wI (y1-wI (y4*450000000))) 450000000 x3) λd=>opt (aU d 3373259426 19327352832000 x3) λd=>ret (d,0)) (ae (y6==1) (opt (aI 2200 2500 500 (-2200) (-3800) 0 2200 y5 y7 x3) λak=>opt (ao d ak (wI (y1-wI (y4*450000000))) 450000000 x3) λd=>opt (aU d 3373259426 19327352832000 x3) λd=>ret (d,0)) (opt (aI 3000 6000 (-2000) (-1500) (-6000) (-9000) 3000 y5 y7 x3) λak=>opt (ao d ak (wI (y1-wI (y4*450000000))) 450000000 x3) λd=>opt (aU d 3373259426 19327352832000 x3) λd=>ret (d,0)))))) no) (ae (y4==2) (opt (aI 950 900 (-1400) (-500) (-300) 100 950 y5 y7 x3) λd=>ae (bf y6 5) (ae (y6==4) (opt (aI 1000 4000 (-3000) 500 3500 (-1200) 1000 y5 y7 x3) λak=>opt (ao d ak (wI (y1-wI (y4*450000000))) 450000000 x3) λd=>opt (aU d 3373259426 19327352832000 x3) λd=>ret (d,0)) (ae (y6==3) (opt (aI 500 1500 (-1700) 100 700 (-800) 500 y5 y7 x3) λak=>opt (ao d ak (wI (y1-wI (y4*450000000))) 450000000 x3) λd=>opt (aU d 3373259426 19327352832000 x3) λd=>ret (d,0)) (ae (y6==2) (opt (aI 950 900 (-1400) (-500) (-300) 100 950 y5 y7 x3) λak=>opt (ao d ak (wI (y1-wI (y4*450000000))) 450000000 x3) λd=>opt (aU d 3373259426 19327352832000 x3) λd=>ret (d,0)) (ae (y6==1) (opt (aI 2200 2500 500 (-2200) (-3800) 0 2200 y5 y7 x3) λak=>opt (ao d ak (wI (y1-wI (y4*450000000))) 450000000 x3) λd=>opt (aU d 3373259426 19327352832000 x3) λd=>ret (d,0)) (opt (aI 3000 6000 (-2000) (-1500) (-6000) (-9000) 3000 y5 y7 x3) λak=>opt (ao d ak (wI (y1-wI (y4*450000000))) 450000000 x3) λd=>opt (aU d 3373259426 19327352832000 x3) λd=>ret (d,0)))))) no) (ae (y4==1) (opt (aI 2200 2500 500 (-2200) (-3800) 0 2200 y5 y7 x3) λd=>ae (bf y6 5) (ae (y6==4) (opt (aI 1000 4000 (-3000) 500 3500 (-1200) 1000 y5 y7 x3) λak=>opt (ao d ak (wI (y1-wI (y4*450000000))) 450000000 x3) λd=>opt (aU d 3373259426 19327352832000 x3) λd=>ret (d,0)) (ae (y6==3) (opt (aI 500 1500 (-1700) 100 700 (-800) 500 y5 y7 x3) λak=>opt (ao d ak (wI (y1-wI (y4*450000000))) 450000000 x3) λd=>opt (aU d 3373259426 19327352832000 x3) λd=>ret (d,0)) (ae (y6==2) (opt (aI 950 900 (-1400) (-500) (-300) 100 950 y5 y7 x3) λak=>opt (ao d ak (wI (y1-wI (y4*450000000))) 450000000 x3) λd=>opt (aU d 3373259426 19327352832000 x3) λd=>ret (d,0)) (ae (y6==1) (opt (aI 2200 2500 500 (-2200) (-3800) 0 2200 y5 y7 x3) λak=>opt (ao d ak (wI (y1-wI (y4*450000000))) 450000000 x3) λd=>opt (aU d 3373259426 19327352832000 x3) λd=>ret (d,0)) (opt (aI 3000 6000 (-2000) (-1500) (-6000) (-9000) 3000 y5 y7 x3) λak=>opt (ao d ak (wI (y1-wI (y4*450000000))) 450000000 x3) λd=>opt (aU d 3373259426 19327352832000 x3) λd=>ret (d,0)))))) no) (opt (aI 3000 6000 (-2000) (-1500) (-6000) (-9000) 3000 y5 y7 x3) λd=>ae (bf y6 5) (ae (y6==4) (opt (aI 1000 4000 (-3000) 500 3500 (-1200) 1000 y5 y7 x3) λak=>opt (ao d ak (wI (y1-wI (y4*450000000))) 450000000 x3) λd=>opt (aU d 3373259426 19327352832000 x3) λd=>ret (d,0)) (ae (y6==3) (opt (aI 500 1500 (-1700) 100 700 (-800) 500 y5 y7 x3) λak=>opt (ao d ak (wI (y1-wI (y4*450000000))) 450000000 x3) λd=>opt (aU d 3373259426 19327352832000 x3) λd=>ret (d,0)) (ae (y6==2) (opt (aI 950 900 (-1400) (-500) (-300) 100 950 y5 y7 x3) λak=>opt (ao d ak (wI (y1-wI (y4*450000000))) 450000000 x3) λd=>opt (aU d 3373259426 19327352832000 x3) λd=>ret (d,0)) (ae (y6==1) (opt (aI 2200 2500 500 (-2200) (-3800) 0 2200 y5 y7 x3) λak=>opt (ao d ak (wI (y1-wI (y4*450000000))) 450000000 x3) λd=>opt (aU d 3373259426 19327352832000 x3) λd=>ret (d,0)) (opt (aI 3000 6000 (-2000) (-1500) (-6000) (-9000) 3000 y5 y7 x3) λak=>opt (ao d ak (wI (y1-wI (y4*450000000))) 450000000 x3) λd=>opt (aU d 3373259426 19327352832000 x3) λd=>ret (d,0)))))) no))))) no)
def oW:=λx0 x1 x2 x3=>(BB gT mO gY mF kU x0 x1 x2 x3).val
theorem afH:∀cU jl ao aI aU,D0 [Ad cU,Ig jl,yy ao,HR aI,Ip aU] 120 Lv (lf As) λb=>BB cU jl ao aI aU b.1.1 b.1.2.1 b.1.b b.2:=λ_ _ _ _ _ b=>by kernel_rfl
theorem afI [ay]:SC (Ly oW):=s0 (.c Ed (.c Va (.c HN (.c aac (.c Vg (.nil _)))))) (afH gT mO gY mF kU)
def kD:=qa (pu (cu eW nil) (cd qL λb0=>(c lK (c mJ (c (cl (gs b0.c.1 mI) nil) (cd rj λb4=>(cd pn λb5=>(cd px λb6=>(cd py λb7=>(cd pz λb8=>(cd pA λb9=>(c ml (cd sQ λuQ=>(c (cl (gs b0.e kZ) nil) (c (cl (gs b4.b.1 aB) nil) (c (cl (gs b5.b.1 aB) nil) (c (cl (gs b6.b.1 aB) nil) (c (cl (gs b7.b.1 aB) nil) (c (cl (gs b8.b.1 aB) nil) (c (cl (gs b9.b.1 aB) nil) (cl (cl (gs uQ.b ia) nil) nil)))))))))))))))))))))
def tK:=qe aW8
abbrev DT:=tK.B
abbrev DU:=kD.B->Option DT
def DV (g:DU):Ct:=(220,FC kD (lf tK) g)
def uR (um:Lx)(x:kD.B):Pg DT:=let n1:=x.1.1.2.2.2.2.2.2.2.2.2.2.2.2.2;opt (um n1.1 n1.2.1 n1.2.2 x.1.2.1) λd=>ret d.1
def kE:=λx=>(uR oW x).val
theorem UD:∀um,D0 [Ly um] 220 kD (lf tK) λb=>uR um b:=λ_ b=>by kernel_rfl
theorem UE [ay]:SC (DV kE):=s0 (.c afI (.nil _)) (UD oW)
def oX:=qa (pr (cu eW Em) (cd qL λb0=>(c lK (c mJ (c (cl (gs b0.c.1 mI) nil) (cd rj λb4=>(cd pn λb5=>(cd px λb6=>(cd py λb7=>(cd pz λb8=>(cd pA λb9=>(c ml (cd sQ λuQ=>(c (cl (gs b0.e kZ) nil) (c (cl (gs b4.b.1 aB) nil) (c (cl (gs b5.b.1 aB) nil) (c (cl (gs b6.b.1 aB) nil) (c (cl (gs b7.b.1 aB) nil) (c (cl (gs b8.b.1 aB) nil) (c (cl (gs b9.b.1 aB) nil) (cl (cl (gs uQ.b ia) nil) nil)))))))))))))))))))))
def EH:=qe atd
abbrev zL:=EH.B
abbrev SH:=oX.B->Option zL
def SI (g:SH):Ct:=(173,FC oX (lf EH) g)
def zM (mZ:abu)(nU:DU)(abN:aBV)(Dh:Y9)(bo:rN)(NJ:anY)(bj:oS)(x:oX.B):Pg zL:=let bx:=x.2.2;let n6:=x.1.2.2.2;let n5:=x.2.1.1;let n15:=n5.2.2.2.2.2.2.2.2.2.1;let n7:=n5.2.2.2.2.1.2.2.2.1;let n4:=x.2.1.2.2;let bA:=n4.2.2.2.2.2.2.2.2.2.2.2.2.2.2;let n3:=bx.2.2.2.2;let n8:=n3.2.2.2;let y0:=z9 n4.2.2.1 n4.2.2.1;let y1:=z9 bA bA;let y2:=z9 bx.2.2.2.1.2.2.1 bx.2.2.2.1.2.2.1;let y3:=z9 n3.1.2.2.1 n3.1.2.2.1;let y4:=z9 n3.2.1.2.2.1 n3.2.1.2.2.1;let y5:=z9 n3.2.2.1.2.2.1 n3.2.2.1.2.2.1;let y6:=z9 n8.1.2.2.1 n8.1.2.2.1;let y7:=z9 n8.2.1.2.2.1 n8.2.1.2.2.1;let y8:=z9 n8.2.2.2.1.2.2 n8.2.2.2.1.2.2;opt (mZ x.1.1 x.1.2.1 x.1.2.2.1 n6.1 n6.2.1 n6.2.2.1 n6.2.2.2.1 n6.2.2.2.2.1 n6.2.2.2.2.2 x.2.1.2.1) λd=>let n9:=d.1.1.2;ae y0 (ae y1 (ae y2 (ae y3 (ae y4 (ae y5 (ae y6 (ae y7 (ae y8 (opt (nU ((n5,d.2,n4),bx)) λak=>ae (n4.2.2.2.1.1==3) (opt (abN n4.1 d.1.1.1 n9.1 n9.2.1 n9.2.2 n7 d.2) λd=>let n16:=d.2.2.1;let n2:=d.2.2.2;let bR:=n2.2.1;let bc:=n2.2.2.2;opt (Dh n4.1 ak n15 n7 d.1) λaK=>ae (aK.1.2==0) (ae y0 (ae y1 (ae y2 (ae y3 (ae y4 (ae y5 (ae y6 (ae y7 (ae y8 (opt (bo ((3,4,true),(n5,aK.2,n4),(azX (λk=>cr (d.2.1 k) [aK.1.1.1 k,bc.2.1 k,n2.2.2.1 k,d.2.1 k]) (cr n16 [aK.1.1.2.1,bc.2.2,bc.1,n16],cr n2.1 [aK.1.1.2.2.1,n2.1,n2.1,n2.1],cr bR [aK.1.1.2.2.2,bR,bR,bR])),bx)) λd=>ret d.2.1) no) no) no) no) no) no) no) no) no) (ae y0 (ae y1 (ae y2 (ae y3 (ae y4 (ae y5 (ae y6 (ae y7 (ae y8 (opt (bo ((3,3,true),(n5,aK.2,n4),(azX (λk=>cr (d.2.1 k) [bc.2.1 k,n2.2.2.1 k,d.2.1 k]) (cr n16 [bc.2.2,bc.1,n16],cr n2.1 [n2.1,n2.1,n2.1],cr bR [bR,bR,bR])),bx)) λd=>ret d.2.1) no) no) no) no) no) no) no) no) no)) (opt (NJ n4.1 d.1.1.1 n9.1 n9.2.1 n9.2.2 ak n15 n7 d.2) λd=>let bn:=d.1.1.2;let n1:=d.1.1.1;ae (d.1.2!=0) (ae y0 (ae y1 (ae y2 (ae y3 (ae y4 (ae y5 (ae y6 (ae y7 (ae y8 (opt (bj (3,(n5,d.2,n4),bx)) λaK=>ret ((n5,d.2,n4),aK)) no) no) no) no) no) no) no) no) no) (ae y0 (ae y1 (ae y2 (ae y3 (ae y4 (ae y5 (ae y6 (ae y7 (ae y8 (opt (bo ((3,1,true),(n5,d.2,n4),(λj=>bif z9 j 0 then n1 0 else n1 0,λj=>bif z9 j 0 then n1 1 else n1 1,λj=>bif z9 j 0 then n1 2 else n1 2,λj=>bif z9 j 0 then n1 3 else n1 3,λj=>bif z9 j 0 then n1 4 else n1 4,λj=>bif z9 j 0 then n1 5 else n1 5,λj=>bif z9 j 0 then n1 6 else n1 6,λj=>bif z9 j 0 then n1 7 else n1 7,λj=>bif z9 j 0 then n1 8 else n1 8,λj=>bif z9 j 0 then n1 9 else n1 9,λj=>bif z9 j 0 then n1 10 else n1 10,λj=>bif z9 j 0 then n1 11 else n1 11,λj=>bif z9 j 0 then n1 12 else n1 12,λj=>bif z9 j 0 then n1 13 else n1 13,λj=>bif z9 j 0 then n1 14 else n1 14,λj=>bif z9 j 0 then n1 15 else n1 15,λj=>bif z9 j 0 then n1 16 else n1 16,λj=>bif z9 j 0 then n1 17 else n1 17,λj=>bif z9 j 0 then n1 18 else n1 18,λj=>bif z9 j 0 then n1 19 else n1 19,λj=>bif z9 j 0 then n1 20 else n1 20,λj=>bif z9 j 0 then n1 21 else n1 21,λj=>bif z9 j 0 then n1 22 else n1 22,λj=>bif z9 j 0 then n1 23 else n1 23,λj=>bif z9 j 0 then bn.1 else bn.1,λj=>bif z9 j 0 then bn.2.1 else bn.2.1,λj=>bif z9 j 0 then bn.2.2 else bn.2.2),bx)) λd=>ret d.2.1) no) no) no) no) no) no) no) no) no))) no) no) no) no) no) no) no) no) no
def ma:=λx=>(zM zq kE RX xp dH F9 dP x).val
theorem aoK:∀mZ nU abN Dh bo NJ bj,D0 [abv mZ,DV nU,aBW abN,Y' Dh,rO bo,anZ NJ,oT bj] 173 oX (lf EH) λb=>zM mZ nU abN Dh bo NJ bj b:=λ_ _ _ _ _ _ _ b=>by kernel_rfl
theorem aoL [ay]:SC (SI ma):=s0 (.c anS (.c UE (.c aOo (.c aug (.c xD (.c aGG (.c tH (.nil _)))))))) (aoK zq kE RX xp dH F9 dP)
def uo:=qa (pr (cu eW (c ai Em)) (cd qL λb0=>(c lK (c mJ (c (cl (gs b0.c.1 mI) nil) (cd rj λb4=>(cd pn λb5=>(cd px λb6=>(cd py λb7=>(cd pz λb8=>(cd pA λb9=>(c ml (cd sQ λuQ=>(c (cl (gs b0.e kZ) nil) (c (cl (gs b4.b.1 aB) nil) (c (cl (gs b5.b.1 aB) nil) (c (cl (gs b6.b.1 aB) nil) (c (cl (gs b7.b.1 aB) nil) (c (cl (gs b8.b.1 aB) nil) (c (cl (gs b9.b.1 aB) nil) (cl (cl (gs uQ.b ia) nil) nil)))))))))))))))))))))
def Ot:=qe atd
def akV:=qe (res (pu Wt (pr (c aXm aQt) aKv)))
abbrev zN:=Ot.B⊕(((J7×Bool×NI×(NI×NI)×Nat×uW×Bool×Int×nJ×Bool×Bool×Bool×Int×Int×Int×HS×Nat)×aMv×Int)×NI×NI×NI×NI×NI×NI×NI×NI×NI×NI)
def abO:zN->T:=ls (lf Ot) (λd=>lf akV (d.1,d.1.1.e,d.2))
abbrev NK:=uo.B->Option zN
def abP (g:NK):Ct:=(109,FC uo abO g)
def Fh (Di:Zn)(sO:Jh)(kg:KA)(qd:anO)(cC:NA)(jm:H8)(nV:ajJ)(bj:oS)(zO:SH)(vM:NC)(Dj:Zs)(x:uo.B):Pg zN:=let n24:=x.2.1;let bx:=x.1.2;let n9:=x.2.2;let n8:=x.1.1;let n5:=bx.2.2.2;let n16:=n5.2.2.2;let n4:=n9.2.2.2.2;let bR:=n4.2.2.2;let n3:=n24.1;let n6:=n3.2.2.2.2.1;let n17:=n6.2.2.2;let n2:=n24.2.2;let n25:=n2.2.2;let n15:=n25.2.2.2.2.2.2;let n1:=(n24,bR.2.2.1);let y0:=bf n8 6;let y1:=n8==2;let y2:=n8==3;let y3:=n8==5;let y4:=n8==4;let y5:=n8==1;let y6:=z9 n25.1 n25.1;let y7:=z9 n15.2.2.2.2.2.2 n15.2.2.2.2.2.2;let y8:=z9 n9.2.2.2.1.2.2.1 n9.2.2.2.1.2.2.1;let y9:=z9 n4.1.2.2.1 n4.1.2.2.1;let xR:=z9 n4.2.1.2.2.1 n4.2.1.2.2.1;let xS:=z9 n4.2.2.1.2.2.1 n4.2.2.1.2.2.1;let AB:=z9 bR.1.2.2.1 bR.1.2.2.1;let AD:=z9 bR.2.1.2.2.1 bR.2.1.2.2.1;let AE:=z9 bR.2.2.2.1.2.2 bR.2.2.2.1.2.2;ae (n25.2.1.1==0) (ret (ww n1)) (ae (n25.2.1.1==1) (ae y2 (ae (!n15.1) (ae y6 (ae y7 (ae y8 (ae y9 (ae xR (ae xS (ae AB (ae AD (ae AE (opt (Di (bx,x.2)) λd=>sm d (λd=>ret (ww d)) (λd=>let n22:=d.1.1.2;let bc:=n22.2.2.2;let n23:=bc.2.2.2;ret (wt (((d.1.1.1,n22.1,n22.2.1,n22.2.2.1,bc.1,bc.2.1,bc.2.2.1,n23.1,n23.2.1,n23.2.2.1,true,n23.2.2.2),d.1.2),d.2)))) no) no) no) no) no) no) no) no) no) (ret (ww n1))) (ret (ww n1))) (ae (n8==0) (ae y6 (ae y7 (ae y8 (ae y9 (ae xR (ae xS (ae AB (ae AD (ae AE (opt (sO (bx,x.2)) λd=>sm d (λd=>let n18:=d.1.1.2;let n7:=n18.2.2.2.2;let n19:=n7.2.2.2;ret (wt (((d.1.1.1,n18.1,n18.2.1,n18.2.2.1,n18.2.2.2.1,n7.1,n7.2.1,n7.2.2.1,n19.1,n19.2.1,n19.2.2.1,true,n19.2.2.2.1,n19.2.2.2),d.1.2),d.2))) (λd=>ret (ww d))) no) no) no) no) no) no) no) no) no) (ae y5 (opt (kg bx.1 bx.2.1 bx.2.2.1 n5.1 n5.2.1 n5.2.2.1 n16.1 n16.2.1 n16.2.2 n24.2.1) λd=>let bA:=d.1.1;ae y0 (ae y3 (opt (qd n2.1 bA.1 bA.2 n17.2.2 d.2) λd=>ae y6 (ae y7 (ae y8 (ae y9 (ae xR (ae xS (ae AB (ae AD (ae AE (opt (cC ((n8,1,d.1),(n3,d.2,n2),n9)) λd=>ret (ww d)) no) no) no) no) no) no) no) no) no) (ae y4 (opt (qd n2.1 bA.1 bA.2 n17.2.1 d.2) λd=>ae y6 (ae y7 (ae y8 (ae y9 (ae xR (ae xS (ae AB (ae AD (ae AE (opt (cC ((n8,1,d.1),(n3,d.2,n2),n9)) λd=>ret (ww d)) no) no) no) no) no) no) no) no) no) (ae y2 (opt (qd n2.1 bA.1 bA.2 n17.1 d.2) λd=>ae y6 (ae y7 (ae y8 (ae y9 (ae xR (ae xS (ae AB (ae AD (ae AE (opt (cC ((n8,1,d.1),(n3,d.2,n2),n9)) λd=>ret (ww d)) no) no) no) no) no) no) no) no) no) (ae y1 (opt (qd n2.1 bA.1 bA.2 n6.2.2.1 d.2) λd=>ae y6 (ae y7 (ae y8 (ae y9 (ae xR (ae xS (ae AB (ae AD (ae AE (opt (cC ((n8,1,d.1),(n3,d.2,n2),n9)) λd=>ret (ww d)) no) no) no) no) no) no) no) no) no) (ae y5 (opt (qd n2.1 bA.1 bA.2 n6.2.1 d.2) λd=>ae y6 (ae y7 (ae y8 (ae y9 (ae xR (ae xS (ae AB (ae AD (ae AE (opt (cC ((n8,1,d.1),(n3,d.2,n2),n9)) λd=>ret (ww d)) no) no) no) no) no) no) no) no) no) (opt (qd n2.1 bA.1 bA.2 n6.1 d.2) λd=>ae y6 (ae y7 (ae y8 (ae y9 (ae xR (ae xS (ae AB (ae AD (ae AE (opt (cC ((n8,1,d.1),(n3,d.2,n2),n9)) λd=>ret (ww d)) no) no) no) no) no) no) no) no) no)))))) no) (ae y1 (opt (jm bx.1 bx.2.1 bx.2.2.1 n5.1 n5.2.1 n5.2.2.1 n16.1 n16.2.1 n16.2.2 n24.2.1) λd=>let bn:=d.1.1;let n21:=bn.2.2;let n20:=bn.2.1;ae y0 (ae y3 (opt (nV n2.1 bn.1 n20 n21 n17.2.2 d.2) λd=>ae (d.1.2!=0) (ae y6 (ae y7 (ae y8 (ae y9 (ae xR (ae xS (ae AB (ae AD (ae AE (opt (bj (n8,(n3,d.2,n2),n9)) λak=>ret (ww ((n3,d.2,n2),ak))) no) no) no) no) no) no) no) no) no) (ae y6 (ae y7 (ae y8 (ae y9 (ae xR (ae xS (ae AB (ae AD (ae AE (opt (cC ((n8,3,d.1.1),(n3,d.2,n2),n9)) λd=>ret (ww d)) no) no) no) no) no) no) no) no) no)) (ae y4 (opt (nV n2.1 bn.1 n20 n21 n17.2.1 d.2) λd=>ae (d.1.2!=0) (ae y6 (ae y7 (ae y8 (ae y9 (ae xR (ae xS (ae AB (ae AD (ae AE (opt (bj (n8,(n3,d.2,n2),n9)) λak=>ret (ww ((n3,d.2,n2),ak))) no) no) no) no) no) no) no) no) no) (ae y6 (ae y7 (ae y8 (ae y9 (ae xR (ae xS (ae AB (ae AD (ae AE (opt (cC ((n8,3,d.1.1),(n3,d.2,n2),n9)) λd=>ret (ww d)) no) no) no) no) no) no) no) no) no)) (ae y2 (opt (nV n2.1 bn.1 n20 n21 n17.1 d.2) λd=>ae (d.1.2!=0) (ae y6 (ae y7 (ae y8 (ae y9 (ae xR (ae xS (ae AB (ae AD (ae AE (opt (bj (n8,(n3,d.2,n2),n9)) λak=>ret (ww ((n3,d.2,n2),ak))) no) no) no) no) no) no) no) no) no) (ae y6 (ae y7 (ae y8 (ae y9 (ae xR (ae xS (ae AB (ae AD (ae AE (opt (cC ((n8,3,d.1.1),(n3,d.2,n2),n9)) λd=>ret (ww d)) no) no) no) no) no) no) no) no) no)) (ae y1 (opt (nV n2.1 bn.1 n20 n21 n6.2.2.1 d.2) λd=>ae (d.1.2!=0) (ae y6 (ae y7 (ae y8 (ae y9 (ae xR (ae xS (ae AB (ae AD (ae AE (opt (bj (n8,(n3,d.2,n2),n9)) λak=>ret (ww ((n3,d.2,n2),ak))) no) no) no) no) no) no) no) no) no) (ae y6 (ae y7 (ae y8 (ae y9 (ae xR (ae xS (ae AB (ae AD (ae AE (opt (cC ((n8,3,d.1.1),(n3,d.2,n2),n9)) λd=>ret (ww d)) no) no) no) no) no) no) no) no) no)) (ae y5 (opt (nV n2.1 bn.1 n20 n21 n6.2.1 d.2) λd=>ae (d.1.2!=0) (ae y6 (ae y7 (ae y8 (ae y9 (ae xR (ae xS (ae AB (ae AD (ae AE (opt (bj (n8,(n3,d.2,n2),n9)) λak=>ret (ww ((n3,d.2,n2),ak))) no) no) no) no) no) no) no) no) no) (ae y6 (ae y7 (ae y8 (ae y9 (ae xR (ae xS (ae AB (ae AD (ae AE (opt (cC ((n8,3,d.1.1),(n3,d.2,n2),n9)) λd=>ret (ww d)) no) no) no) no) no) no) no) no) no)) (opt (nV n2.1 bn.1 n20 n21 n6.1 d.2) λd=>ae (d.1.2!=0) (ae y6 (ae y7 (ae y8 (ae y9 (ae xR (ae xS (ae AB (ae AD (ae AE (opt (bj (n8,(n3,d.2,n2),n9)) λak=>ret (ww ((n3,d.2,n2),ak))) no) no) no) no) no) no) no) no) no) (ae y6 (ae y7 (ae y8 (ae y9 (ae xR (ae xS (ae AB (ae AD (ae AE (opt (cC ((n8,3,d.1.1),(n3,d.2,n2),n9)) λd=>ret (ww d)) no) no) no) no) no) no) no) no) no))))))) no) (ae y2 (ae y6 (ae y7 (ae y8 (ae y9 (ae xR (ae xS (ae AB (ae AD (ae AE (opt (zO (bx,x.2)) λd=>ret (ww d)) no) no) no) no) no) no) no) no) no) (ae y4 (ae y6 (ae y7 (ae y8 (ae y9 (ae xR (ae xS (ae AB (ae AD (ae AE (opt (vM (bx,x.2)) λd=>ret (ww d)) no) no) no) no) no) no) no) no) no) (ae y6 (ae y7 (ae y8 (ae y9 (ae xR (ae xS (ae AB (ae AD (ae AE (opt (Dj (bx,x.2)) λd=>ret (ww d)) no) no) no) no) no) no) no) no) no)))))))
def qf:=λx=>(Fh oA iP oz F7 kl mM DJ dP ma km oC x).val
theorem axt:∀Di sO kg qd cC jm nV bj zO vM Dj,D1 [Zo Di,Ji sO,KB kg,anP qd,NB cC,H9 jm,ajK nV,oT bj,SI zO,ND vM,Zt Dj] [0,10] 109 uo abO λb=>Fh Di sO kg qd cC jm nV bj zO vM Dj b:=λ_ _ _ _ _ _ _ _ _ _ _ b=>by kernel_rfl
theorem axu [ay]:SC (abP qf):=s0 (.c aus (.c adS (.c YR (.c aGE (.c aiy (.c U5 (.c aC9 (.c tH (.c aoL (.c aiA (.c auw (.nil _)))))))))))) (axt oA iP oz F7 kl mM DJ dP ma km oC)
def iW:=qa (pr (cu IB (cu Rv agk)) (cd agj λb0=>(c xU (cl (cl (gs b0.b ia) nil) nil))))
def uS:=qe (res (pr ai (pl (cu fV (c auX aQn)) nil)))
abbrev vN:=uS.B
abbrev vO:=iW.B->Option vN
def Fi (g:vO):Ct:=(114,FC iW (lf uS) g)
def cP:=qs (st (dp (us 3 (c ai (cu aMG (cu aD6 (cu aqw (us 2 (c ai (us 12 (c aPn (c ai (cl ai (us 74 nil)))))))))))) λv=>(pl (c (so agj) (c cG (c (so (cl (gs v.b.1 ia) nil)) aWN))) aEg)))
def SJ:=qs (st (pr (us 3 (c ai (cu aMG (cu aD6 (cu aqw (us 2 (c ai (us 12 (c aPn (c ai (c ai (cl ab (us 73 nil))))))))))))) (pl (c (so agj) (c cG (c Tc aWN))) aEg)))
abbrev gO:=((Int×Int×Nat×Int×Int×Bool)×xT×Bool×(NI×NI×NI×NI×NI×NI×NI×NI×NI×NI×NI)×NI)
def B6 {ρ:Type}(x:gO)(K:AX->St->Option ρ):Option ρ:=(λd=>K (.ex 0) (SJ.em (d.1,d.2.1,d.b.1,(d.1.b.1,d.b.2.1),d.c))) x
def m4 (d:cP.B):PL cP gO:=let n1:=d.1.2.2;let n2:=n1.2.2;let y0:=decide (n2<n1.2.1);ae y0 (ae (bf n2 n1.1) (ae (decide (d.2.2.2.1.1 (z4 n2)<=d.1.1)) (ret (ww ((d.1.1,n2,n1.1,n1.2.1,wI (n2+1)),d.2))) (ret (ww ((d.1.1,d.1.2.1,n1.1,n1.2.1,wI (n2+1)),d.2)))) no) (ret (wt ((d.1.1,d.1.2.1,n1.1,n1.2.1,n2,y0),d.2)))
def m5:=bE (m4) 2000
def dQ:=qs aXl
def SK:=qs (st (pr (us 4 (cu aMG (cu aD6 (us 8 (cu (app 5 3) (cu (app 6 3) (cu (app 7 4) (cu (app 8 4) (c ai (us 62 (c ai (cu Rv (cu IB (cu IB (cu aWh (c ai (c ai (c (ac (N7 (pu (nat 7) (pl (ok' hole) Ek)))) (c ai (c ai (cl (ac (N7 (pu EK (pl (ok' hole) Ek)))) (us 7 nil)))))))))))))))))))))) (pl (c (so agj) (c cG (c Tc (cu axV (cu abY (c zX (c zX (c xX (cl xX nil))))))))) aEg)))
abbrev fh:=((Int×Int×Nat×Int×Int×Nat)×(Int×Nat)×Bool×aMu×nJ×nJ×aIM×Int×Int×Int×Int)
def B7 {ρ:Type}(x:fh)(K:AX->St->Option ρ):Option ρ:=(λd=>K .nrm (SK.em ((d.1.1,d.1.1,d.1.2.1,d.1.1,d.1.b),(d.2.1.1,d.1.2.1,d.2.1.2),d.b))) x
def m6 (aD:bX)(d:dQ.B):Pg fh:=let bn:=d.2.2.1;let n6:=d.2.1.1;let n3:=d.2.2.2;let n7:=n3.2.1;let n2:=d.2.1.2;let n1:=n3.2.2;let n5:=n1.2.2;let bc:=n5.2.1;let n8:=n5.2.2;let n4:=n1.2.1;let bx:=n4.2.1;let n9:=n4.2.2;let y0:=bf d.1 4;let y1:=d.1==1;let y2:=d.1==3;let y3:=d.1==2;ae y0 (ae y2 (opt (aD n2.1 n9.2 30 bn) λak=>ae y0 (ae y2 (ret ((d.1,n2.1,3,n9.2,ak.1,3),(n6,n2.2),ak.2,n3.1,n7,n1.1,n4,n5.1,bc,n8.1,ak.1)) (ae y3 (ret ((d.1,n2.1,3,n9.2,ak.1,2),(n6,n2.2),ak.2,n3.1,n7,n1.1,n4,n5.1,bc,ak.1,n8.2)) (ae y1 (ret ((d.1,n2.1,3,n9.2,ak.1,1),(n6,n2.2),ak.2,n3.1,n7,n1.1,n4,n5.1,ak.1,n8)) (ret ((d.1,n2.1,3,n9.2,ak.1,0),(n6,n2.2),ak.2,n3.1,n7,n1.1,n4,ak.1,n5.2))))) no) (ae y3 (opt (aD n2.1 n9.1 30 bn) λak=>ae y0 (ae y2 (ret ((d.1,n2.1,2,n9.1,ak.1,3),(n6,n2.2),ak.2,n3.1,n7,n1.1,n4,n5.1,bc,n8.1,ak.1)) (ae y3 (ret ((d.1,n2.1,2,n9.1,ak.1,2),(n6,n2.2),ak.2,n3.1,n7,n1.1,n4,n5.1,bc,ak.1,n8.2)) (ae y1 (ret ((d.1,n2.1,2,n9.1,ak.1,1),(n6,n2.2),ak.2,n3.1,n7,n1.1,n4,n5.1,ak.1,n8)) (ret ((d.1,n2.1,2,n9.1,ak.1,0),(n6,n2.2),ak.2,n3.1,n7,n1.1,n4,ak.1,n5.2))))) no) (ae y1 (opt (aD n2.1 bx 30 bn) λak=>ae y0 (ae y2 (ret ((d.1,n2.1,1,bx,ak.1,3),(n6,n2.2),ak.2,n3.1,n7,n1.1,n4,n5.1,bc,n8.1,ak.1)) (ae y3 (ret ((d.1,n2.1,1,bx,ak.1,2),(n6,n2.2),ak.2,n3.1,n7,n1.1,n4,n5.1,bc,ak.1,n8.2)) (ae y1 (ret ((d.1,n2.1,1,bx,ak.1,1),(n6,n2.2),ak.2,n3.1,n7,n1.1,n4,n5.1,ak.1,n8)) (ret ((d.1,n2.1,1,bx,ak.1,0),(n6,n2.2),ak.2,n3.1,n7,n1.1,n4,ak.1,n5.2))))) no) (opt (aD n2.1 n4.1 30 bn) λak=>ae y0 (ae y2 (ret ((d.1,n2.1,0,n4.1,ak.1,3),(n6,n2.2),ak.2,n3.1,n7,n1.1,n4,n5.1,bc,n8.1,ak.1)) (ae y3 (ret ((d.1,n2.1,0,n4.1,ak.1,2),(n6,n2.2),ak.2,n3.1,n7,n1.1,n4,n5.1,bc,ak.1,n8.2)) (ae y1 (ret ((d.1,n2.1,0,n4.1,ak.1,1),(n6,n2.2),ak.2,n3.1,n7,n1.1,n4,n5.1,ak.1,n8)) (ret ((d.1,n2.1,0,n4.1,ak.1,0),(n6,n2.2),ak.2,n3.1,n7,n1.1,n4,ak.1,n5.2))))) no)))) no
def gP (d:dQ.B):Option fh:=(m6 aZ d).val
def cQ:=qs aXl
def SL:=qs (st (pr (us 4 (cu aMG (cu aD6 (us 8 (cu (app 5 3) (cu (app 6 3) (cu (app 7 4) (cu (app 8 4) (c ai (us 49 aVS)))))))))) (pl (c (so agj) (c cG (c Tc (cu axV (cu abY (c zX (c zX (c xX (cl xX nil))))))))) aEg)))
abbrev gQ:=((Int×Bool)×xT×Bool×aMu×nJ×nJ×aIM×Int×Int×Int×Int)
def B8 {ρ:Type}(x:gQ)(K:AX->St->Option ρ):Option ρ:=(λd=>K (.ex 2) (SL.em ((d.1.1,d.1),d.2))) x
def m7 (MK:LT dQ fh)(d:cQ.B):PL cQ gQ:=let n5:=d.2.1;let n2:=d.2.2;let n6:=n2.2.1;let n4:=n2.2.2.1;let n1:=n2.2.2.2;let n7:=n1.2.2;let n3:=n1.2.1;let n9:=n3.2.1;let n8:=n3.2.2;let y0:=bf d.1 4;let y1:=d.1==1;let y2:=d.1==3;let y3:=d.1==2;let y4:=decide (d.1<4);let y5:=wI (0-n3.1);let y6:=wI (0-n9);let y7:=wI (0-n8.1);let y8:=wI (0-n8.2);ae y4 (ae (decide (n3.1<0)) (ae y0 (ae y2 (ae y0 (ae y2 (opt (MK (d.1,n5,n2.1,n6,n4,n1.1,(n3.1,n9,n8.1,y8),n7)) λd=>ret (ww (wI (d.1.1+1),(d.2.1.1,d.1.2.1,d.2.1.2),d.2.2))) (ae y3 (opt (MK (d.1,n5,n2.1,n6,n4,n1.1,(n3.1,n9,y8,n8.2),n7)) λd=>ret (ww (wI (d.1.1+1),(d.2.1.1,d.1.2.1,d.2.1.2),d.2.2))) (ae y1 (opt (MK (d.1,n5,n2.1,n6,n4,n1.1,(n3.1,y8,n8),n7)) λd=>ret (ww (wI (d.1.1+1),(d.2.1.1,d.1.2.1,d.2.1.2),d.2.2))) (opt (MK (d.1,n5,n2.1,n6,n4,n1.1,(y8,n3.2),n7)) λd=>ret (ww (wI (d.1.1+1),(d.2.1.1,d.1.2.1,d.2.1.2),d.2.2)))))) no) (ae y3 (ae y0 (ae y2 (opt (MK (d.1,n5,n2.1,n6,n4,n1.1,(n3.1,n9,n8.1,y7),n7)) λd=>ret (ww (wI (d.1.1+1),(d.2.1.1,d.1.2.1,d.2.1.2),d.2.2))) (ae y3 (opt (MK (d.1,n5,n2.1,n6,n4,n1.1,(n3.1,n9,y7,n8.2),n7)) λd=>ret (ww (wI (d.1.1+1),(d.2.1.1,d.1.2.1,d.2.1.2),d.2.2))) (ae y1 (opt (MK (d.1,n5,n2.1,n6,n4,n1.1,(n3.1,y7,n8),n7)) λd=>ret (ww (wI (d.1.1+1),(d.2.1.1,d.1.2.1,d.2.1.2),d.2.2))) (opt (MK (d.1,n5,n2.1,n6,n4,n1.1,(y7,n3.2),n7)) λd=>ret (ww (wI (d.1.1+1),(d.2.1.1,d.1.2.1,d.2.1.2),d.2.2)))))) no) (ae y1 (ae y0 (ae y2 (opt (MK (d.1,n5,n2.1,n6,n4,n1.1,(n3.1,n9,n8.1,y6),n7)) λd=>ret (ww (wI (d.1.1+1),(d.2.1.1,d.1.2.1,d.2.1.2),d.2.2))) (ae y3 (opt (MK (d.1,n5,n2.1,n6,n4,n1.1,(n3.1,n9,y6,n8.2),n7)) λd=>ret (ww (wI (d.1.1+1),(d.2.1.1,d.1.2.1,d.2.1.2),d.2.2))) (ae y1 (opt (MK (d.1,n5,n2.1,n6,n4,n1.1,(n3.1,y6,n8),n7)) λd=>ret (ww (wI (d.1.1+1),(d.2.1.1,d.1.2.1,d.2.1.2),d.2.2))) (opt (MK (d.1,n5,n2.1,n6,n4,n1.1,(y6,n3.2),n7)) λd=>ret (ww (wI (d.1.1+1),(d.2.1.1,d.1.2.1,d.2.1.2),d.2.2)))))) no) (ae y0 (ae y2 (opt (MK (d.1,n5,n2.1,n6,n4,n1.1,(n3.1,n9,n8.1,y5),n7)) λd=>ret (ww (wI (d.1.1+1),(d.2.1.1,d.1.2.1,d.2.1.2),d.2.2))) (ae y3 (opt (MK (d.1,n5,n2.1,n6,n4,n1.1,(n3.1,n9,y5,n8.2),n7)) λd=>ret (ww (wI (d.1.1+1),(d.2.1.1,d.1.2.1,d.2.1.2),d.2.2))) (ae y1 (opt (MK (d.1,n5,n2.1,n6,n4,n1.1,(n3.1,y5,n8),n7)) λd=>ret (ww (wI (d.1.1+1),(d.2.1.1,d.1.2.1,d.2.1.2),d.2.2))) (opt (MK (d.1,n5,n2.1,n6,n4,n1.1,(y5,n3.2),n7)) λd=>ret (ww (wI (d.1.1+1),(d.2.1.1,d.1.2.1,d.2.1.2),d.2.2)))))) no)))) no) (opt (MK d) λd=>ret (ww (wI (d.1.1+1),(d.2.1.1,d.1.2.1,d.2.1.2),d.2.2)))) (ret (wt ((d.1,y4),d.2)))
def m8:=bE (m7 gP) 2000
def pj (ke:vr)(oo:Kp)(aia:Mv)(eY:zd)(bC:jg)(Wh:vy)(eB:LT cP gO)(ru:LT cQ gQ)(x:iW.B):Pg vN:=let n8:=x.2.1.2.2;ae (z9 n8 n8) (opt (eB ((x.1.2, -1,n8,ws n8,0),x.2.1,x.2.2.1,x.2.2.2,x.1.1)) λd=>let n16:=d.1.2;let n7:=d.2.2.2.1;let n2:=n7.2.2.2;let n9:=n2.2.2.2;let y0:=z4 n16.1;ae (decide (n16.1<0)) (ret (4,d.2.2.1,n16.2.1,n7)) (ae (bf n16.1 d.2.1.2.2) (opt (ke d.2.2.2.2 d.1.1 d.2.2.1) λak=>let n5:=ak.1.2.2.2.2;let bx:=n5.2.2.2;opt (oo n5.2.1 n5.2.2.1 bx.1 (n2.2.2.1 y0) (n9.1 y0) (n9.2.1 y0) ak.2) λaK=>opt (oo bx.2.1 bx.2.2.1 bx.2.2.2 (n9.2.2.1 y0) (n9.2.2.2.1 y0) (n9.2.2.2.2 y0) aK.2) λbJ=>opt (aia (n7.2.1 y0) (n7.2.2.1 y0) (n2.1 y0) (n2.2.1 y0)) λcI=>opt (eY ak.1.2.1 ak.1.2.2.1 ak.1.2.2.2.1 n5.1 cI.1 cI.2.1 cI.2.2.1 cI.2.2.2 bJ.2) λeV=>opt (ru (1,d.2.1,eV.2,(n16.2.1,n7),aK.1,bJ.1,eV.1,1073741824,0,0,0)) λd=>let n17:=d.2.1.2.2;let n1:=d.2.2.2;let bn:=n1.1.2;let bc:=n1.2.2.2.2;let n3:=bn.2.2.2.2;let n15:=n3.2.2.2;opt (bC bc.1 bc.2.1 bc.2.2.1 bc.2.2.2 d.2.2.1) λdq=>ae (z9 n17 n17) (opt (Wh (d.2.1,dq.2,n1.2.1,n1.2.2.1,dq.1,bn)) λnu=>let bA:=nu.2.2.2;let n6:=nu.2.1;let n4:=bA.2.2.2;let bR:=n4.2.2.2;let y0:=n6*11+0;ae (true&&z9 y0 (n17*11)&&true) (ae (true&&wr (0+y0) (n1.1.1*11+0)) (ret (0,nu.1,n1.1.1,λj=>bif true&&wl j (0+n6) then nu.2.2.1 j else bn.1 j,λj=>bif true&&wl j (0+n6) then bA.1 j else bn.2.1 j,λj=>bif true&&wl j (0+n6) then bA.2.1 j else bn.2.2.1 j,λj=>bif true&&wl j (0+n6) then bA.2.2.1 j else bn.2.2.2.1 j,λj=>bif true&&wl j (0+n6) then n4.1 j else n3.1 j,λj=>bif true&&wl j (0+n6) then n4.2.1 j else n3.2.1 j,λj=>bif true&&wl j (0+n6) then n4.2.2.1 j else n3.2.2.1 j,λj=>bif true&&wl j (0+n6) then bR.1 j else n15.1 j,λj=>bif true&&wl j (0+n6) then bR.2.1 j else n15.2.1 j,λj=>bif true&&wl j (0+n6) then bR.2.2.1 j else n15.2.2.1 j,λj=>bif true&&wl j (0+n6) then bR.2.2.2 j else n15.2.2.2 j)) no) no) no) no)) no
def gh:=λx=>(pj kd wP Cp lR di fZ m5 m8 x).val
abbrev iX:=vr×Kp×Mv×zd×bX×jg×mS×vy×(LT cP gO)×(LT dQ fh)×(LT cQ gQ)
def lA (p:iX):KK:=⟨[Hn p.1,Xu p.2.1,aht p.b.1,FT p.b.2.1,fF p.c.1,nQ p.c.2.1,tw p.c.b.1,Fa p.c.b.2.1],⟨[⟨3,(0::1::2::7::8::rg 10 12 (rg 25 74 [])),[]⟩,⟨15,(rg 0 4 (rg 6 8 (rg 19 80 []))),[]⟩],[gx 3 3 cP B6 p.d.1,gx 15 3 cQ B8 p.d.b],[1,2],[⟨⟨19,(rg 0 4 (rg 6 8 (rg 19 80 []))),[]⟩,gx 19 3 dQ B7 p.d.2.1⟩],(some ⟨0,(rg 0 8 (rg 9 90 [])),[]⟩)⟩,3,114⟩
theorem Qe (p:iX):LI (lA p) 3 cP B6 (m4):=λ_ d c K=>by kernel_rfl
theorem Qf (p:iX):JI (lA p) 19 dQ B7 (m6 p.c.1):=λ_ d K=>by kernel_rfl
theorem Qg (p:iX):LI (lA p) 15 cQ B8 (m7 p.d.2.1):=λ_ d c K=>by kernel_rfl
theorem Wi (p:iX):D2 (lA p) iW (lf uS) λb=>pj p.1 p.2.1 p.b.1 p.b.2.1 p.c.2.1 p.c.b.2.1 p.d.1 p.d.b b:=λb=>by kernel_rfl
abbrev lB:iX:=(kd,wP,Cp,lR,aZ,di,gM,fZ,m5,gP,m8)
theorem Wj [ay]:SC (Fi gh):=sc (kS (k:=lA lB) (.c Nq (.c ahm (.c avS (.c Lj (.c gk (.c pR (.c BV (.c V5 (.nil _))))))))) [3,15] [19] ⟨kL (Qe lB),⟨kL (Qg lB),trivial⟩⟩ ⟨kJ ⟨19,(rg 0 4 (rg 6 8 (rg 19 80 []))),[]⟩ (Qf lB),trivial⟩ (Wi lB))
def kV:=qa (pr (cu eW ab1) (cd qL λb0=>(c lK (c mJ (c (cl (gs b0.c.1 mI) nil) (cd rj λb4=>(cd pn λb5=>(cd px λb6=>(cd py λb7=>(cd pz λb8=>(cd pA λb9=>(c ml (cd sQ λuQ=>(c (cl (gs b0.e kZ) nil) (c (cl (gs b4.b.1 aB) nil) (c (cl (gs b5.b.1 aB) nil) (c (cl (gs b6.b.1 aB) nil) (c (cl (gs b7.b.1 aB) nil) (c (cl (gs b8.b.1 aB) nil) (c (cl (gs b9.b.1 aB) nil) (cl (cl (gs uQ.b ia) nil) nil)))))))))))))))))))))
def LA:=qe (res (pu Wt (pl (c (B9 qL) (cu fV (cu fV (cu fV (cu fV (cu fV (cu fV (cu fV (cu fV (cu fV (cu fV (cl (B9 sQ) aKo)))))))))))) nil)))
def LB:=qe (res (pu Wt (pr (c (B9 aQB) (cu fV (cu fV (cu fV (cu fV (cu fV (cu fV (cu fV (cu fV (cu fV (cu fV (cl (B9 aQl) aKo)))))))))))) aEq)))
abbrev mP:=LA.B⊕LB.B
def Vh:mP->T:=ls (lf LA) (lf LB)
abbrev Ir:=kV.B->Option mP
def Vi (g:Ir):Ct:=(106,FC kV Vh g)
def dk:=qs (st (dp (cu eW (us 3 (cu Oy (us 109 (c (ac aQd) (c ai aPs)))))) λv=>(pl (cd (so aQB) λb0=>(c qJ (c qK (c (so (cl (gs v.1 mI) nil)) (cd (so rj) λb4=>(cd (so pn) λb5=>(cd (so px) λb6=>(cd (so py) λb7=>(cd (so pz) λb8=>(cd (so pA) λb9=>(c pk (c (so aQl) (c (so (cl (gs b0.d.c.b kZ) nil)) (c (so (cl (gs b4.b.1 aB) nil)) (c (so (cl (gs b5.b.1 aB) nil)) (c (so (cl (gs b6.b.1 aB) nil)) (c (so (cl (gs b7.b.1 aB) nil)) (c (so (cl (gs b8.b.1 aB) nil)) (c (so (cl (gs b9.b.1 aB) nil)) (c Tc LO)))))))))))))))))))) aV3)))
def akW:=qs (st (pr (cu eW (us 3 (cu Oy (us 109 (c (ac aQd) aV5))))) (pl (c (so aQB) (c qJ (c qK (c sR (c (so rj) (c (so pn) (c (so px) (c (so py) (c (so pz) (c (so pA) (c pk (c (so aQl) (c xZ (c HW (c HW (c HW (c HW (c HW (c HW (c Tc LO)))))))))))))))))))) aV3)))
abbrev fI:=(aSh×(J7×Bool×IS×(NI×NI)×Nat×uW×Int×nJ×Bool×Bool×Int×Int×Int×HS×Nat)×(nJ×Int×Int)×S9×(NI×NI×NI×NI×NI×NI×NI×NI)×cD×cD×cD×cD×cD×cD×Rt×xT×aSf×fw×fw×fw×fw×fw×fw×aMu×Nat×NI×NI×NI×NI×NI×NI×NI×NI×NI×NI×NI)
def Ou {ρ:Type}(x:fI)(K:AX->St->Option ρ):Option ρ:=(λd=>K (.ex 0) (akW.em (d.1,d.2.1,d.b.1,d.b.2.1,(d.1.1,d.c.1),d.c.2.1,d.c.b.1,d.c.b.2.1,d.d.1,d.d.2.1,d.d.b.1,d.d.b.2.1,d.d.c.1,(d.2.1.d.c.b,d.d.c.2.1),(d.c.2.1.b.1,d.d.c.b.1),(d.c.b.1.b.1,d.d.c.b.2.1),(d.c.b.2.1.b.1,d.e.1),(d.d.1.b.1,d.e.2.1),(d.d.2.1.b.1,d.e.b.1),(d.d.b.1.b.1,d.e.b.2.1),d.e.c))) x
def re (At:nF)(d:dk.B):PL dk fI:=let bn:=d.2.2;let bc:=d.2.1;let n9:=d.1.2;let n4:=bn.2.2;let n8:=n4.1.2.2.2;let n7:=n4.2.2.2;let bx:=n7.2.2;let n2:=bx.2.2;let bA:=n2.2.2;let n5:=bA.2.2.2;let n3:=n5.2.2.2.2.2.2;let n6:=n3.2.2.2.2.2;let n1:=(d.1.1,n9.1,wI (n9.2+1));let y0:=0+z4 n9.2;let y1:=decide (n9.2<n9.1);ae y1 (ae (bf n9.2 d.1.1) (ae (z9 n2.2.1.2.2 n2.2.1.2.2) (opt (At ((bc.2.2.1,n4.1.1 y0,n4.1.2.1 y0,(n4.1.2.2.1 y0,n8.1 y0,n8.2.1 y0),n8.2.2.1 y0,n8.2.2.2.1 y0,n8.2.2.2.2 y0),n2.2.1,bc.2.1,λj=>n3.1 (0+j),λj=>n3.2.1 (0+j),λj=>n3.2.2.1 (0+j),λj=>n3.2.2.2.1 (0+j),λj=>n3.2.2.2.2.1 (0+j),λj=>n6.1 (0+j),λj=>n6.2.1 (0+j),λj=>n6.2.2.1 (0+j),λj=>n6.2.2.2.1 (0+j),λj=>n6.2.2.2.2.1 (0+j),λj=>n6.2.2.2.2.2 (0+j))) λak=>sm ak (λaK=>ret (ww (n1,(bc.1,aK.2.2,bc.2.2),bn.1,bn.2.1,n4.1,n4.2.1,n4.2.2.1,n7.1,n7.2.1,bx.1,bx.2.1,n2.1,aK.2.1,bA))) (λaK=>ret (ww (n1,(bc.1,aK.1.2,bc.2.2),bn.1,bn.2.1,n4.1,n4.2.1,n4.2.2.1,n7.1,n7.2.1,bx.1,bx.2.1,n2.1,aK.1.1,bA.1,bA.2.1,bA.2.2.1,n5.1,n5.2.1,n5.2.2.1,n5.2.2.2.1,n5.2.2.2.2.1,aK.2)))) no) no) (ret (wt ((d.1.1,n9.1,n9.2,y1),d.2)))
def nd:=bE (re cM) 2000
def qu (vY:BQ)(oL:wA)(aD:bX)(ec:Cu)(aOD:am6)(cL:sD)(ch:gE)(aad:ym)(eB:LT dk fI)(x:kV.B):Pg mP:=let bA:=x.2.1;let n8:=x.1.2.2.2;let n7:=bA.2.2;let n5:=x.2.2.2.2.2;let n2:=n7.2.2;let n6:=n2.2.2.2.2;let n15:=n6.2.2.2.2.2.2.2.2;let n1:=n5.2.2.2;let bR:=n1.2.2;let n4:=bR.2.2;let n9:=n4.2.2.2.2;let y0:=wI (n2.2.2.2.1+1);opt (vY n8.1 n8.2.1 n8.2.2 bA.2.1) λd=>opt (oL x.1.2.1 d.2) λak=>opt (aD 10529810258 ak.1 30 ak.2) λaK=>let se:=wI (d.1-aK.1);let y1:=wI (aK.1-d.1);ae (decide (wI (4*if y1>se then y1 else se)>aK.1)) (ret (ww ((bA.1,aK.2,n7.1,n7.2.1,n2.1,n2.2.1,n2.2.2.1,0,(0,0,0),n6.2),n4.1))) (opt (ec 2 aK.2 (cr n6.1.1 [n8.1,n6.1.1]) (cr n6.1.2.1 [n8.2.1,n6.1.2.1]) (cr n6.1.2.2 [n8.2.2,n6.1.2.2]) true) λd=>ae (y0 !=10) (ret (ww ((bA.1,d.2,n7.1,n7.2.1,n2.1,n2.2.1,n2.2.2.1,y0,d.1,n6.2),n4.1))) (opt (aOD d.1.1 d.1.2.1 d.1.2.2 d.2) λbJ=>opt (cL n7.1 0 4 (cr bJ.1.1 [bJ.1.2.2.2,bJ.1.2.2.1,bJ.1.2.1,bJ.1.1]) false) λcI=>opt (ch n7.2.1.1 n7.2.1.2 0 4 bJ.2 bA.1.2.2.2.2.2.2.2.1 false) λeV=>ae (z9 n4.1.2.2 n4.1.2.2) (opt (aad ((cI,x.1.1),n4.1,eV.2,n9.2.2.2.2)) λdq=>let bc:=dq.2.2.2;let n3:=bc.2.2.2;let bn:=n3.2.2.2;ae (z9 n2.1 n2.1) (ae (z9 n15 n15) (ae (z9 n5.1.2.2.1 n5.1.2.2.1) (ae (z9 n5.2.1.2.2.1 n5.2.1.2.2.1) (ae (z9 n5.2.2.1.2.2.1 n5.2.2.1.2.2.1) (ae (z9 n1.1.2.2.1 n1.1.2.2.1) (ae (z9 n1.2.1.2.2.1 n1.2.1.2.2.1) (ae (z9 bR.1.2.2.1 bR.1.2.2.1) (opt (eB ((n2.1,ws n2.1,0),(bA.1,dq.1.2,cI,eV.1,n2.1,n2.2.1,y0,d.1,n6.2.2),x.2.2.1,x.2.2.2.1,x.2.2.2.2.1,n5.1,n5.2.1,n5.2.2.1,n1.1,n1.2.1,bR.1,bR.2.1,(dq.1.1.1,dq.1.1.2,1),n4.2.1,n4.2.2.1,n4.2.2.2.1,n9.1,n9.2.1,n9.2.2.1,n9.2.2.2.1,(n4.1.2.2,n9.2.2.2.2),1,λj=>bif z9 j 0 then dq.2.1 else dq.2.1,λj=>bif z9 j 0 then dq.2.2.1 else dq.2.2.1,λj=>bif z9 j 0 then bc.1 else bc.1,λj=>bif z9 j 0 then bc.2.1 else bc.2.1,λj=>bif z9 j 0 then bc.2.2.1 else bc.2.2.1,λj=>bif z9 j 0 then n3.1 else n3.1,λj=>bif z9 j 0 then n3.2.1 else n3.2.1,λj=>bif z9 j 0 then n3.2.2.1 else n3.2.2.1,λj=>bif z9 j 0 then bn.1 else bn.1,λj=>bif z9 j 0 then bn.2.1 else bn.2.1,λj=>bif z9 j 0 then bn.2.2 else bn.2.2)) λd=>let bx:=d.2.2.2.2.2.2.2.2.2.2.2.2;ret (wt ((d.2.1,bx.1),bx.2.2.2.2.2.2.2.2.2))) no) no) no) no) no) no) no) no) no))
def jq:=λx=>(qu qA kO aZ lg BT dJ cS dK nd x).val
abbrev AQ:=BQ×wA×bX×Cu×am6×sD×gE×ym×nF×(LT dk fI)
def Is (p:AQ):KK:=⟨[RK p.1,Hf p.2.1,fF p.b.1,Ks p.b.2.1,aA9 p.c.1,z5 p.c.2.1,Bj p.c.b.1,HH p.c.b.2.1,Ap p.d.1],⟨[⟨15,(1::2::3::rg 5 109 (rg 117 15 [])),[(1,[])]⟩],[gx 15 20 dk Ou p.d.2],[11],[],(some ⟨0,(rg 0 132 []),[]⟩)⟩,20,106⟩
theorem aiD (p:AQ):LI (Is p) 15 dk Ou (re p.d.1):=λ_ d c K=>by kernel_rfl
theorem aqh (p:AQ):D2 (Is p) kV Vh λb=>qu p.1 p.2.1 p.b.1 p.b.2.1 p.c.1 p.c.2.1 p.c.b.1 p.c.b.2.1 p.d.2 b:=λb=>by kernel_rfl
abbrev It:AQ:=(qA,kO,aZ,lg,BT,dJ,cS,dK,cM,nd)
theorem aqi [ay]:SC (Vi jq):=sc (kS (k:=Is It) (.c aaR (.c Ph (.c gk (.c O' (.c aN4 (.c D9 (.c FX (.c Z6 (.c Je (.nil _)))))))))) [15] [] ⟨kL (aiD It),trivial⟩ trivial (aqh It))
def akr:=qa (pl HV nil)
def Vj:=qe aEl
def Iu:=qe aWY
abbrev yO:=Vj.B⊕Iu.B
def afJ:yO->T:=ls (lf Vj) (lf Iu)
def aks:yO->T:=ls (λ_=>.fail) (lf Iu)
abbrev UF:=Int->Int->Int->Option yO
def akt (g:UF):Ct:=(42,FC akr aks (λb=>g b.1 b.2.1 b.b))
def aku (cU:vZ)(fa:Xd)(av:cA)(eI:Lg)(il:RI)(vt:ahf)(aF:cT)(x0:Int)(x1:Int)(x2:Int):Pg yO:=opt (cU x0 x1 x2) λd=>ae (!d) (ret (ww ())) (ae (decide (x0>850000000)) (ret (ww ())) (ae (decide (x0< -850000000)) (ret (ww ())) (opt (av x0 3373259426 1800000000 false) λd=>opt (eI d.1 d.2) λak=>opt (il d.1 ak.2) λd=>opt (fa ak.1 ak.1 d.2) λaK=>opt (fa 7188036 aK.1 aK.2) λbJ=>let y0:=wI (1073741824-bJ.1);opt (vt y0 bJ.2) λcI=>opt (aF 6531212288 cI.1 30 cI.2) λeV=>opt (fa 6531212288 1066553788 eV.2) λdq=>opt (fa y0 cI.1 dq.2) λnu=>opt (aF dq.1 nu.1 30 nu.2) λtX=>opt (av tX.1 3373259426 1800000000 tX.2) λpO=>opt (fa eV.1 d.1 pO.2) λd=>opt (av d.1 3373259426 1800000000 d.2) λd=>ret (wt (x0,x1,x2,pO.1,d.1)))))
def DW:=λx0 x1 x2=>(aku gT wO aY oH tj Cm bl x0 x1 x2).val
theorem aDw:∀cU fa av eI il vt aF,D0 [Ad cU,Xe fa,dA av,Lh eI,RJ il,ahg vt,gR aF] 42 akr afJ λb=>aku cU fa av eI il vt aF b.1 b.2.1 b.b:=λ_ _ _ _ _ _ _ b=>by kernel_rfl
theorem aDx [ay]:SC (akt DW):=sc (FD (R:=afJ) (R':=aks) (λd r h=>by rcases d with d|d<;>first|exact h|(have h:(none:Option pD)=some r:=h;cases h))<|k0 (.c Ed (.c alZ (.c dN (.c RH (.c aaP (.c avK (.c iK (.nil _)))))))) (aDw gT wO aY oH tj Cm bl))
def akv:=qa (pl gZ nil)
def Vk:=qe aEl
def Iv:=qe (res (pu (rZ (cu (rc (cp 0 10)) ak7)) (pu nil (cl aXi nil))))
abbrev J4:=Vk.B⊕Iv.B
def afK:J4->T:=ls (lf Vk) (lf Iv)
def akw:J4->T:=ls (λ_=>.fail) (lf Iv)
abbrev UG:=Int->Option J4
def akx (g:UG):Ct:=(51,FC akv akw (λb=>g b))
def UH (x0:Int):Pg J4:=ae (decide (x0<1000)) (ret (ww ())) (ae (decide (x0>100000)) (ret (ww ())) (ret (wt x0)))
def DX:=λx0=>(UH x0).val
theorem aDy:D0 [] 51 akv afK λb=>UH b:=λb=>by kernel_rfl
theorem aDz [ay]:SC (akx DX):=sc (FD (R:=afK) (R':=akw) (λd r h=>by rcases d with d|d<;>first|exact h|(have h:(none:Option pD)=some r:=h;cases h))<|k0 (.nil _) aDy)
def afL:=qa (dp aV4 λv=>(cl (cl (gs v.2.1 oF) nil) nil))
def SM:=qe (res (pu aWk (pu aaf nil)))
def GD:=qe (res (pu (rZ (cu (rc (cp 1 37)) ak7)) (pu aaf (cl aQe nil))))
abbrev BC:=SM.B⊕GD.B
def abQ:BC->T:=ls (lf SM) (lf GD)
def afM:BC->T:=ls (λ_=>.fail) (lf GD)
abbrev Qh:=Int->Nat->NI->Bool->Option BC
def afN (g:Qh):Ct:=(52,vR 1 [.i .i64] (FC afL afM (λb=>g b.1.1 b.1.2.1 b.2 b.1.b)))
def kW:=qs (st (dp (c ai (us 1 (xs 1 (us 3 (cu (app 1 37) (us 15 (c Wx (c ai aVB)))))))) λv=>(pl (c (so (cl (gs v.2.1.1 oF) nil)) aWR) nil)))
def Ov:=qs (st (pu (us 4 (cu (ac axZ) (cu (ac axS) (us 40 nil)))) (pl ak9 nil)))
def akX:=qs (st (pr (c ai (us 1 (xs 1 (us 3 (cu (app 1 37) (us 15 (c Wx (c ai aVO)))))))) (pl (c J8 aWR) nil)))
abbrev xK:=Ov.B⊕((Int×(Nat×Bool)×Int×Int×Bool)×NI×NI×NI×(Nat->Bool)×NI×NI×NI)
def ZA {ρ:Type}(x:xK)(K:AX->St->Option ρ):Option ρ:=(Sum.elim (λd=>K .ret (Ov.em d)) (λd=>K (.ex 0) (akX.em (d.1,(d.1.2.1.1,d.2.1),d.b)))) x
def KX (d:kW.B):PL kW xK:=let n4:=d.2.1;let n2:=d.2.2.2;let n1:=d.1.2;let n3:=n1.2.2;let y0:=z4 n3;let y1:=0+y0*6+6;let y2:=decide (n3<n1.2.1);ae y2 (ae (bf n3 n1.1.1) (ae (decide (n4 y0<1)) (ret (wt (ww (n1.1.1,n4)))) (ae (decide (n4 y0>1099511627776)) (ret (wt (ww (n1.1.1,n4)))) (ae (bf n3 6) (ae (wr y1 36&&wr y1 37) (ret (ww ((d.1.1,n1.1,n1.2.1,wI (n3+1)),n4,λj=>bif z9 j y0 then 0 else d.2.2.1 j,λj=>bif z9 j y0 then 0 else n2.1 j,λj=>bif z9 j y0 then false else n2.2.1 j,λj=>bif z9 j y0 then n3 else n2.2.2.1 j,λj=>bif z9 j y0 then n4 y0 else n2.2.2.2.1 j,λj=>bif z9 j y0 then d.1.1 else n2.2.2.2.2 j))) no) no))) no) (ret (wt (wt ((d.1.1,n1.1,n1.2.1,n3,y2),d.2))))
def KY:=bE (KX) 2000
def Qi (eB:LT kW xK)(x0:Int)(x1:Nat)(x2:Nat->Int)(w0:Bool):Pg BC:=ae (decide (x0<0)) (ret (ww ())) (ae (decide (x0>100)) (ret (ww ())) (ae (ws x1 !=6) (ret (ww ())) (ae (z9 x1 x1) (opt (eB ((x0,(x1,w0),ws x1,0),x2,λx=>0,λx=>0,λx=>false,λx=>0,λx=>0,λx=>0)) λx=>sum x (λd=>ret (ww ())) λd=>ret (wt d.2.2)) no)))
def BD:=λx0 x1 x2 w0=>(Qi KY x0 x1 x2 w0).val
abbrev Hv:=(LT kW xK)
def Qj (p:Hv):KK:=⟨[],⟨[⟨5,(1::3::4::5::rg 7 15 (rg 25 7 (rg 34 12 [32,33]))),[]⟩],[gx 5 1 kW ZA p],[],[],(some ⟨0,(rg 0 4 (rg 6 40 [])),[]⟩)⟩,1,52⟩
theorem aqj (p:Hv):LI (Qj p) 5 kW ZA (KX):=λ_ d c K=>by kernel_rfl
theorem azH (p:Hv):D2 (Qj p) afL abQ λb=>Qi p b.1.1 b.1.2.1 b.2 b.1.b:=λb=>by kernel_rfl
abbrev Qk:Hv:=KY
theorem azI [ay]:SC (afN BD):=sc (Sound.nil 1 [.i .i64]<|FD (R:=abQ) (R':=afM) (λd r h=>by rcases d with d|d<;>first|exact h|(have h:(none:Option pD)=some r:=h;cases h))<|kS (k:=Qj Qk) (.nil _) [5] [] ⟨kL (aqj Qk),trivial⟩ trivial (azH Qk))
def afO:=qa (pl zW nil)
def SN:=qe aEl
def SO:=qe (res (pu (rZ (cu (rc (cp 0 3)) ak7)) (pu nil (c (c gi (cl gi (cu (gc (fJ (pu Ek (pu AS (pu Ww (pu El fL)))))) nil))) aWZ))))
abbrev Hw:=SN.B⊕((Int×Int)×NI)
def abR:Hw->T:=ls (lf SN) (λd=>lf SO (d.1,d.2,d.2,d.2,d.2,d.2,d.2,d.2,d.2,d.2,d.2,d.2))
def afP:Hw->T:=ls (λ_=>.fail) (λd=>lf SO (d.1,d.2,d.2,d.2,d.2,d.2,d.2,d.2,d.2,d.2,d.2,d.2))
abbrev Ql:=Int->Int->Option Hw
def afQ (g:Ql):Ct:=(53,FC afO afP (λb=>g b.1 b.2))
def Qm (x0:Int)(x1:Int):Pg Hw:=ae (decide (x0<1)) (ret (ww ())) (ae (decide (x0>64)) (ret (ww ())) (ae (decide (x1<1)) (ret (ww ())) (ae (decide (x1>1073741824)) (ret (ww ())) (ret (wt ((x0,x1),λx=>0))))))
def BE:=λx0 x1=>(Qm x0 x1).val
theorem azJ:D0 [] 53 afO abR λb=>Qm b.1 b.2:=λb=>by kernel_rfl
theorem azK [ay]:SC (afQ BE):=sc (FD (R:=abR) (R':=afP) (λd r h=>by rcases d with d|d<;>first|exact h|(have h:(none:Option pD)=some r:=h;cases h))<|k0 (.nil _) azJ)
def aoM:=qa (pl gZ nil)
def ZB:=qe aEl
def ZC:=qe (res (pu (rZ (cu (rc (cp 0 8)) ak7)) (pu nil (c (cu aX (cu aX (cu aX (cu aX (cu aX (cl gi (cu (gc (fJ (pu Ek (pu AS (pu Ww (pu ep fL)))))) as5))))))) (cl as8 nil)))))
abbrev NL:=ZB.B⊕(Int×NI)
def aky:NL->T:=ls (lf ZB) (λd=>lf ZC (d.1,d.2,d.2,d.2,d.2,d.2,d.2,d.2,d.2,d.2))
def aoN:NL->T:=ls (λ_=>.fail) (λd=>lf ZC (d.1,d.2,d.2,d.2,d.2,d.2,d.2,d.2,d.2,d.2))
abbrev ZD:=Int->Option NL
def aoO (g:ZD):Ct:=(54,FC aoM aoN (λb=>g b))
def ZE (x0:Int):Pg NL:=ae (decide (x0<1)) (ret (ww ())) (ae (decide (x0>64)) (ret (ww ())) (ret (wt (x0,λx=>0))))
def GG:=λx0=>(ZE x0).val
theorem aGR:D0 [] 54 aoM aky λb=>ZE b:=λb=>by kernel_rfl
theorem aGS [ay]:SC (aoO GG):=sc (FD (R:=aky) (R':=aoN) (λd r h=>by rcases d with d|d<;>first|exact h|(have h:(none:Option pD)=some r:=h;cases h))<|k0 (.nil _) aGR)
def KZ:=qa (pl (cl (aa sS) nil) nil)
def aoP:=qe (res (pu (rZ (cu (rc axZ) (cu (rc aVL) nil))) (pu nil nil)))
def aGT:=qe (res (pu (rZ (cu (rc (cp 0 434)) ak7)) (pu nil (c (c gi (c gi (c gi (c gi (c gi (c gi (c gi (c gi (c gi (c gi (c gi (c gi (c gi (c gi (c gi (c gi (c jw (c jw (c gi (c gi (c gi (c gi (c gi (c gi (c gi (c gi (c gb (c jw (c aPw (cl jw (cu aiV (cu aiW (cu (gc (fJ (pu rq7 (pu AS (pu Ww (pu EK fL)))))) (cu (gp 4 8) (cu (gp 5 8) (cu (gp 6 8) (cu aD7 (cu aD8 (cu aD9 (cu aqx (cu aX (cu aX (cu agc (cu agc (cu aqy (cu agc (cu aX (cu aX (cu aX (cu aX (cu agc (cu agc (cu agc (cu aX (cu aX (cu aX (cu axW (cu aX (cu aX (cu aX (cu aX (cu aX (cu aX (cu aX (cu aX (cu aX (cu (gc (fJ (pu (nat 12) (pu AS (pu Ww (pu (nat 10) fL)))))) nil))))))))))))))))))))))))))))))))))))))))))))))))))))))))))))))))))) (c fW (c aXi (c (cl (ga (pu Ww mI)) nil) (c (cu aX (cu aX (cu aX (cu aX (cu aX (cl gi (cu (gc (fJ (pu aMx (pu AS (pu Ww (pu ep fL)))))) as5))))))) (c (cu aX (cu aX (cu aX (cu aX (cu aX (cl gi (cu (gc (fJ (pu aMy (pu AS (pu Ww (pu ep fL)))))) as5))))))) (c (cu aX (cu aX (cu aX (cu aX (cu aX (cl gi (cu (gc (fJ (pu auU (pu AS (pu Ww (pu ep fL)))))) as5))))))) (c (cu aX (cu aX (cu aX (cu aX (cu aX (cl gi (cu (gc (fJ (pu aMz (pu AS (pu Ww (pu ep fL)))))) as5))))))) (c (cu aX (cu aX (cu aX (cu aX (cu aX (cl gi (cu (gc (fJ (pu aMA (pu AS (pu Ww (pu ep fL)))))) as5))))))) (c (cu aX (cu aX (cu aX (cu aX (cu aX (cl gi (cu (gc (fJ (pu aMB (pu AS (pu Ww (pu ep fL)))))) as5))))))) (c aQe (c (c gi (cl gi (cu (gc (fJ (pu auV (pu AS (pu Ww (pu El fL)))))) nil))) (c aWT (c as8 (c as8 (c as8 (c as8 (c as8 (c as8 aWZ))))))))))))))))))))))
abbrev Qn:=aoP.B⊕((Int×Int×Int×Int×Int×Int×Int×Int×Int×Int×Int×Int×Int×Int×Int×Int×NI×NI×Int×Int×Int×Int×Int×Int×Int×Int×Bool×NI×NI×NI)×aVr×Int×NI×Int×Int×Int×Int×Int×Int×aMv×(Int×Int)×NI×NI×NI×NI×NI×NI×NI)
def aGU:Qn->T:=ls (lf aoP) (λd=>lf aGT (d.1,d.2.1,d.b.1,(d.b.2.1,d.b.2.1,d.b.2.1,d.b.2.1,d.b.2.1,d.b.2.1,d.b.2.1,d.b.2.1),d.c.1,d.c.2.1,d.c.b.1,d.c.b.2.1,d.d.1,d.d.2.1,d.d.b.1,d.d.b.2.1,(d.b.2.1,d.b.2.1,d.b.2.1,d.b.2.1,d.b.2.1,d.b.2.1,d.b.2.1,d.b.2.1,d.b.2.1,d.b.2.1),(d.d.c.1,d.d.c.1,d.d.c.1,d.d.c.1,d.d.c.1,d.d.c.1,d.d.c.1,d.d.c.1,d.d.c.1),(d.d.c.2.1,d.d.c.2.1,d.d.c.2.1,d.d.c.2.1,d.d.c.2.1,d.d.c.2.1,d.d.c.2.1,d.d.c.2.1,d.d.c.2.1),(d.d.c.b.1,d.d.c.b.1,d.d.c.b.1,d.d.c.b.1,d.d.c.b.1,d.d.c.b.1,d.d.c.b.1,d.d.c.b.1,d.d.c.b.1),(d.d.c.b.2.1,d.d.c.b.2.1,d.d.c.b.2.1,d.d.c.b.2.1,d.d.c.b.2.1,d.d.c.b.2.1,d.d.c.b.2.1,d.d.c.b.2.1,d.d.c.b.2.1),(d.e.1,d.e.1,d.e.1,d.e.1,d.e.1,d.e.1,d.e.1,d.e.1,d.e.1),(d.e.2.1,d.e.2.1,d.e.2.1,d.e.2.1,d.e.2.1,d.e.2.1,d.e.2.1,d.e.2.1,d.e.2.1),d.e.b,d.e.b,d.e.b,d.e.b,d.e.b,d.e.b,d.e.b,d.e.b,d.e.b,d.e.b,d.e.b))
abbrev ZF:=KZ.B->Option Qn
def auC (g:ZF):Ct:=(20,FC KZ aGU g)
def ZG (aoQ:Sc)(cv:mw)(aR:fH)(aRA:atL)(aDA:UF)(aDB:UG)(azL:Qh)(azM:Ql)(BF:ZD)(x:KZ.B):Pg Qn:=let n3:=x.2.2;let n5:=n3.2.2.1.2;let n1:=n3.2.2.2;let n6:=n1.2.2;let n4:=n1.1.2.2;let n2:=n6.2.2.2.2;let n7:=n2.2.2;opt (aoQ x) λd=>ae (!d) (ret (ww ())) (opt cv λd=>opt (aR (λx=>0) false) λd=>opt (aRA 24 d.2 n6.1 false) λak=>opt (aDA n7.1 n7.2.1 n7.2.2) λaK=>sm aK (λd=>no) (λbJ=>opt (aDB x.1) λcI=>sm cI (λd=>no) (λeV=>opt (azL n3.2.1 6 (cr n1.1.1 [n4.2.2.2,n4.2.2.1,n4.2.1,n4.1,n1.1.2.1,n1.1.1]) false) λdq=>sm dq (λd=>no) (λnu=>opt (azM n2.2.1 n2.1) λtX=>sm tX (λd=>no) (λpO=>opt (BF n3.1) λmj=>sm mj (λd=>no) (λxV=>opt (BF n3.1) λLl=>sm Ll (λd=>no) (λMR=>opt (BF n3.1) λaGy=>sm aGy (λd=>no) (λabo=>opt (BF n3.1) λaeZ=>sm aeZ (λd=>no) (λabp=>opt (BF n3.1) λaGz=>sm aGz (λd=>no) (λanE=>opt (BF n3.1) λarW=>sm arW (λd=>no) (λanF=>ret (wt ((x.1,x.2.1,n3.1,n3.2.1,n3.2.2.1.1,n5.1,n5.2.1,n5.2.2.1,n5.2.2.2.1,n5.2.2.2.2,n1.1.1,n1.1.2.1,n4.1,n4.2.1,n4.2.2.1,n4.2.2.2,n1.2.1,n6.1,n6.2.1,n6.2.2.1,n6.2.2.2.1,n2.1,n2.2.1,n7.1,n7.2.1,n7.2.2,ak.2,d.1,ak.1),bJ,eV,λx=>0,xV.1,MR.1,abo.1,abp.1,anE.1,anF.1,nu,pO.1,xV.2,MR.2,abo.2,abp.2,anE.2,anF.2,pO.2)))))))))))))
def uU:=λx=>(ZG qI eL bY Kr DW DX BD BE GG x).val
abbrev auD:=Sc×mw×fH×atL×UF×UG×Qh×Ql×ZD
def aGV (p:auD):KK:=⟨[abD p.1,rI p.2.1,jJ p.b.1,aFX p.b.2.1,akt p.c.1,akx p.c.2.1,afN p.c.b.1,afQ p.c.b.2.1,aoO p.d],⟨[⟨11,(0::2::3::rg 5 65 (rg 71 15 [])),[]⟩],[],[],[],(some ⟨0,(0::1::rg 4 82 []),[]⟩)⟩,0,20⟩
theorem aRB (p:auD):D2 (aGV p) KZ aGU λb=>ZG p.1 p.2.1 p.b.1 p.b.2.1 p.c.1 p.c.2.1 p.c.b.1 p.c.b.2.1 p.d b:=λb=>by kernel_rfl
abbrev aGW:auD:=(qI,eL,bY,Kr,DW,DX,BD,BE,GG)
theorem aGX [ay]:SC (auC uU):=sc (kS (k:=aGV aGW) (.c aoq (.c wC (.c kM (.c aRj (.c aDx (.c aDz (.c azI (.c azK (.c aGS (.nil _)))))))))) [11] [] ⟨kN,trivial⟩ trivial (aRB aGW))
end Go.Proofs.YtldgljclcgaibaaGreat
namespace Go.Proofs.YtldgljclcgaibaaGreat
open Go.Ab Go.Ab.Pg
theorem aD1 {x:Int}(h0: -1152921504606846976<=x)(h1:x<=1152921504606846976)(b:Bool):rS x b=some x:=by
 have e:xH x (-1152921504606846976) 1152921504606846976 b=some (wt x):=by
  simp only[xH,KW,bN,bQ];rw[cV (show ¬(-1152921504606846976:Int)>1152921504606846976 by omega),cV (show ¬x< -1152921504606846976 by omega),cV (show ¬x>1152921504606846976 by omega)];rfl
 simp only[rS,Qb,cx,e,bG,aDY,ld,bQ]
theorem a0i {x:Int}(h0: -1152921504606846976<=x)(h1:x<=1152921504606846976)(n b:Bool):BA x true n b=some (wt x):=by
 simp only[BA,Qc,bN,cx,bQ,Kg,bI,aD1 h0 h1,bG]
theorem aGY {a b d:Int}(a0: -1152921504606846976<=a)(a1:a<=1152921504606846976)(b0: -1152921504606846976<=b)(b1:b<=1152921504606846976)(d0: -1152921504606846976<=d)(d1:d<=1152921504606846976)(nz:d≠0)
  (q0: -1152921504606846976<=Hl (a*b) d)(q1:Hl (a*b) d<=1152921504606846976)(h:Bool):kU a b d h=some (Hl (a*b) d):=by
 obtain⟨x,y,e,o,v⟩:=Bl a b (by omega) (by omega) (by omega) (by omega);have e2:=aJD x y d o (by omega) (by omega) nz;rw[v,if_pos ⟨by omega,by omega⟩] at e2;have z:(d==0)=false:=by rw[agr];exact nz
 simp only[kU,Iq,J2,UC,cx,bN,bQ,aD1 a0 a1,aD1 b0 b1,aD1 d0 d1,bG,e,z,bI,e2,a0i q0 q1,aDY,ld]
theorem a0j {n d m:Int}(h0:0<=n)(hd:0<d)(hm:0<=m)(h:n<=m*d):0<=qdq n d/\qdq n d<=m:=by
 have a:=atf n d;have b:=WE n (show d≠0 by omega);have c:=Tf n hd;have q0:0<=n/d:=En h0 (by omega)
 have q1:n/d<=m:=by
  refine Int.le_of_lt_add_one (ab4 hd ?_);rw[aan,Int.one_mul];omega
 unfold qdq;split
 .omega
 .by_cases e:n/d=m
  .exfalso
   rw[e,yb d m] at a;omega
  .omega
theorem aTd {n d m:Int}(hd:0<d)(hm:0<=m)(h0: -(m*d)<=n)(h1:n<=m*d): -m<=Hl n d/\Hl n d<=m:=by
 have e:jK d=d:=by unfold jK;split<;>omega
 have g:jK n<=m*d:=by unfold jK;split<;>omega
 obtain⟨p,q⟩:=a0j (aLv n) hd hm g;unfold Hl;rw[e];split<;>omega
theorem aYL {a x d m:Int}(ha0: -m<=a)(ha1:a<=m)(x0:0<=x)(x1:x<=d): -(m*d)<=a*x/\a*x<=m*d:=by
 have m0:0<=m:=by omega
 have h1:a*x<=m*x:=aam ha1 x0;have h2:m*x<=m*d:=Int.mul_le_mul_of_nonneg_left x1 m0;have h3: -m*x<=a*x:=aam ha0 x0;rw[Int.neg_mul] at h3;omega
theorem aJM (a b x d:Int)(h:Bool)(m:Int)(a0: -m<=a)(a1:a<=m)(b0: -m<=b)(b1:b<=m)(x0:0<=x)(x1:x<=d)(d0:0<d)(d1:d<=1000000000)(m1:m<=100000000000000):
  Ok (gY a b x d h) (λr:Int=> -(3*m)<=r/\r<=3*m):=by
 have e:wI (b-a)=b-a:=dV;obtain⟨p0,p1⟩:=aYL (a:=b-a) (m:=2*m) (by omega) (by omega) x0 x1;obtain⟨q0,q1⟩:=aTd d0 (show 0<=2*m by omega) p0 p1;have k:=aGY (a:=b-a) (b:=x) (d:=d) (by omega) (by omega) (by omega) (by omega) (by omega) (by omega) (by omega) (by omega) (by omega) h;have e2:wI (a+Hl ((b-a)*x) d)=a+Hl ((b-a)*x) d:=dV;unfold gY yA;show PQ _ _;rw[e,k,bV,aw,e2];omega
theorem aUx (c0 c1 c2 c3 c4 c5 c6 i x:Int)(h:Bool)(g:∀c∈[c0,c1,c2,c3,c4,c5,c6], -9000<=c/\c<=9000)(i0:0<=i)(i1:i<=5)(x0:0<=x)(x1:x<=600000000):
  Ok (mF c0 c1 c2 c3 c4 c5 c6 i x h) (λr:Int=> -28991029248000<=r/\r<=28991029248000):=by
 have w:∀c∈[c0,c1,c2,c3,c4,c5,c6],wI (c*1073741824)=c*1073741824:=λc hc=>dV (by have:=g c hc;omega) (by have:=g c hc;omega)
 have z:wI (i+1)=i+1:=aW i0 (by omega);simp only[ab7,List.not_mem_nil,or_false,forall_eq_or_imp,forall_eq] at w g;obtain⟨w0,w1,w2,w3,w4,w5,w6⟩:=w;obtain⟨g0,g1,g2,g3,g4,g5,g6⟩:=g;unfold mF yB;show PQ _ _;rw[w0,w1,w2,w3,w4,w5,w6,z];have r1:bf i 7=true:=by rw[bq];omega
 have r2:bf (i+1) 7=true:=by rw[bq];omega
 dsimp only;rw[r1,r2]
 repeat' (first
  |rw[aE]
  |(with_reducible refine aA (aJM _ _ _ _ _ 9663676416000 ?_ ?_ ?_ ?_ ?_ ?_ ?_ ?_ ?_) λr _ hr=> ?_)
  |(rw[aN];refine⟨λc=> ?_,λc=> ?_⟩))
 all_goals first
  |(rw[aw];omega)
  |omega
theorem aOE (x0 x1 x2:Int)(h:Bool):bz (oW x0 x1 x2 h):=by
 unfold oW BB;refine aH ?_;dsimp only;rw[bH];intro d hd;rw[aN];refine⟨λ_=>by rw[aw];trivial,λk=> ?_⟩;rw[ayh] at k;obtain⟨a0,a1,b0,b1⟩:=asm hd k;clear hd k
 have ey0:wI (x1+1800000000)=x1+1800000000:=dV;have ey1:wI (x0+900000000)=x0+900000000:=dV;rw[ey0,ey1];have t0:t8 (x0+900000000) 450000000=(x0+900000000)/450000000:=az6 (by omega);have t1:t8 (x1+1800000000) 600000000=(x1+1800000000)/600000000:=az6 (by omega);rw[t0,t1,dV (n:=(x0+900000000)/450000000) (by omega) (by omega),dV (n:=(x1+1800000000)/600000000) (by omega) (by omega)];generalize hi:(if (3:Int)<(x0+900000000)/450000000 then(3:Int) else(x0+900000000)/450000000)=i
 generalize hj:(if (5:Int)<(x1+1800000000)/600000000 then(5:Int) else(x1+1800000000)/600000000)=j
 have hi':0<=i/\i<=3/\0<=x0+900000000-i*450000000/\x0+900000000-i*450000000<=450000000:=by
  split at hi<;>omega
 have hj':0<=j/\j<=5/\0<=x1+1800000000-j*600000000/\x1+1800000000-j*600000000<=600000000:=by
  split at hj<;>omega
 clear hi hj t0 t1 ey0 ey1
 obtain⟨i0,i1,u0,u1⟩:=hi';obtain⟨j0,j1,v0,v1⟩:=hj';rw[dV (n:=i*450000000) (by omega) (by omega),dV (n:=j*600000000) (by omega) (by omega),dV (n:=x0+900000000-i*450000000) (by omega) (by omega),dV (n:=x1+1800000000-j*600000000) (by omega) (by omega),aW i0 (by omega)];have r1:bf i 5=true:=by rw[bq];omega
 have r2:bf (i+1) 5=true:=by rw[bq];omega
 rw[r1,r2];generalize x0+900000000-i*450000000=u at u0 u1 ⊢
 generalize x1+1800000000-j*600000000=v at v0 v1 ⊢
 have fin:∀d:Int, -86973087744000<=d->d<=86973087744000->Ok (kU d 3373259426 19327352832000 h) (λ_=>True):=by
  intro d d0 d1;obtain⟨q0,q1⟩:=aTd (n:=d*3373259426) (d:=19327352832000) (m:=1000000000000000) (by omega) (by omega) (by omega) (by omega);rw[aGY (by omega) (by omega) (by omega) (by omega) (by omega) (by omega) (by omega) (by omega) (by omega) h];exact⟨_,rfl,trivial⟩
 rw[bH];intro _ _
 repeat' (first
  |rw[aE]
  |(with_reducible refine aA (aUx _ _ _ _ _ _ _ _ _ _ (by decide) j0 j1 v0 v1) λr _ hr=> ?_)
  |(with_reducible refine aA (aJM _ _ _ _ _ 28991029248000 ?_ ?_ ?_ ?_ u0 u1 (by omega) (by omega) (by omega)) λs _ hs=> ?_)
  |(with_reducible refine aA (fin _ ?_ ?_) λt _ _=> ?_)
  |(rw[aN];refine⟨λc=> ?_,λc=> ?_⟩))
 all_goals first
  |(rw[aw];trivial)
  |omega
instance aTe (x:kD.B):bz (kE x):=by
 unfold kE uR;try dsimp only
 have t:=aOE;exact aH (by rw[bH];intro _ _;rw[aw];trivial)
theorem aRC (x:oX.B):Ok (ma x) (λr:zL=>r.1.d.c.b.2.2=x.2.1.d.c.b.2.2/\r.1.c.1=x.2.1.c.1/\r.1.d.c.2.1=x.2.1.d.c.2.1):=by
 unfold ma zM;try dsimp only
 show PQ _ _;simp only[aQ]
 repeat' (first
  |rw[aE]
  |(with_reducible refine aA (afx _ ?_) λe _ he=> ?_)
  |(with_reducible refine aA (bz.Ok (aOE _ _ _ _) (Q:=λ_=>True) λ_ _=>trivial) λ_ _ _=> ?_)
  |(rw[uD];refine⟨λ_ _=> ?_,λ_ _=> ?_⟩)
  |(rw[bH];intro _ _)
  |(rw[aN];refine⟨λc=> ?_,λc=> ?_⟩))
 all_goals first
  |(rw[aw];exact he.2)
  |(rw[aw];exact⟨rfl,rfl,rfl⟩)
  |(dsimp only;omega)
theorem a0k (x:uo.B)(k:bf x.1.1 6=true)(h:x.2.1.d.c.b.2.2<=90000):Ok (qf x) (λr:zN=>match r with|.inl e=>e.1.d.c.b.2.2<=x.2.1.d.c.b.2.2+3/\e.1.c.1=x.2.1.c.1/\e.1.d.c.2.1=x.2.1.d.c.2.1|.inr e=>e.1.1.d.c.b.2.2<=x.2.1.d.c.b.2.2+3/\e.1.1.c.1=x.2.1.c.1/\e.1.1.d.c.2.1=x.2.1.d.c.2.1):=by
 have hi:bf x.1.1 6=true:=k;unfold qf Fh;try dsimp only
 show PQ _ _;simp only[aQ,hi]
 repeat' (first
  |rw[aE]
  |(with_reducible refine aA (aYK _ ?_) λe _ he=> ?_)
  |(with_reducible refine aA (aGQ _ ?_) λe _ he=> ?_)
  |(with_reducible refine aA (aLW _) λe _ he=> ?_)
  |(with_reducible refine aA (aRC _) λe _ he=> ?_)
  |(with_reducible refine aA (aLX _) λe _ he=> ?_)
  |(with_reducible refine aA (aYJ _) λe _ he=> ?_)
  |(rw[uD];refine⟨λe0 e1=> ?_,λe0 e1=> ?_⟩)
  |(rw[bH];intro _ _)
  |(rw[aN];refine⟨λc=> ?_,λc=> ?_⟩))
 all_goals first
  |(dsimp only;omega)
  |(rw[aw];exact⟨dL (Nat.le_of_eq he.1) (Nat.le_add_right _ _),he.2⟩)
  |(rw[aw];exact⟨Nat.le_add_right _ _,rfl,rfl⟩)
  |(rw[e1] at he;rw[aw];exact he)
  |(rw[e1] at he;rw[aw];exact⟨dL he.1 (Nat.add_le_add_left (by decide) _),he.2⟩)
  |skip
theorem aL4 (n:Int):∀(d:zH.B) (hd:0<=d.1.2.2.2.2/\d.1.2.2.2.2<=3/\d.1.2.1=n/\d.1.2.2.1=n/\0<=n/\n<=3),Ok (aoC d) (λx:SB=>x.1.2.2.1=n):=
 bO (λd:zH.B=>z4 (3-d.1.2.2.2.2)) (λd hd=>by
  have hw:wI (d.1.2.2.2.2+1)=d.1.2.2.2.2+1:=aW;obtain⟨c0,c1,i0,i1,i2,i3⟩:=hd;have w0:wI (0+d.1.2.1)=d.1.2.1:=by rw[alk];exact dV (by omega) (by omega)
  have w1:wI (10+d.1.2.2.2.2)=10+d.1.2.2.2.2:=dV;unfold aoB;dsimp only;rw[w0,w1,hw];rw[aN];refine⟨λh=> ?_,λ_=>by rw[aw];exact i1⟩;have h:=dm h;have r0:bf d.1.2.2.2.2 3=true:=by rw[bq];omega
  have r1:bf d.1.2.1 24=true:=by rw[bq];omega
  have r2:bf (10+d.1.2.2.2.2) 24=true:=by rw[bq];omega
  have r3:(true&&wr (0+(z4 d.1.2.1*24+z4 (10+d.1.2.2.2.2))*1+1) 576)=true:=by rw[nY,bZ];omega
  rw[r0,r1,r2,r3]
  repeat' (first
   |rw[aE]
   |(rw[aN];refine⟨λc=> ?_,λc=> ?_⟩)
   |(rw[bH];intro _ _))
  all_goals (rw[aw];exact⟨⟨by show 0<=d.1.2.2.2.2+1;omega,by show d.1.2.2.2.2+1<=3;omega,i0,i1,i2,i3⟩,by show z4 (3-(d.1.2.2.2.2+1))<_;omega⟩)) (λd hd=>by omega)
theorem aL5 (n:Int):∀(d:zI.B) (hd:0<=d.1.2.2/\d.1.2.2<=3/\d.1.1=n/\d.1.2.1=n/\0<=n/\n<=2),Ok (aoE d) (λx:SD=>x.1.1=n/\x.1.2.1=n):=
 bO (λd:zI.B=>z4 (3-d.1.2.2)) (λd hd=>by
  have hw:wI (d.1.2.2+1)=d.1.2.2+1:=aW;obtain⟨c0,c1,i0,i1,i2,i3⟩:=hd;have w0:wI (4+d.1.1)=4+d.1.1:=dV;have w1:wI (13+d.1.2.2)=13+d.1.2.2:=dV;have w2:wI (3*d.1.1)=3*d.1.1:=dV;have w3:wI (3*d.1.1+d.1.2.2)=3*d.1.1+d.1.2.2:=dV;unfold aoD;dsimp only;rw[w0,w1,w2,w3,hw];rw[aN];refine⟨λh=> ?_,λ_=>by rw[aw];exact⟨i0,i1⟩⟩;have h:=dm h;have r0:bf (3*d.1.1+d.1.2.2) 9=true:=by rw[bq];omega
  have r1:bf (4+d.1.1) 24=true:=by rw[bq];omega
  have r2:bf (13+d.1.2.2) 24=true:=by rw[bq];omega
  have r3:(true&&wr (0+(z4 (4+d.1.1)*24+z4 (13+d.1.2.2))*1+1) 576)=true:=by rw[nY,bZ];omega
  rw[r0,r1,r2,r3]
  repeat' (first
   |rw[aE]
   |(rw[aN];refine⟨λc=> ?_,λc=> ?_⟩)
   |(rw[bH];intro _ _))
  all_goals (rw[aw];exact⟨⟨by show 0<=d.1.2.2+1;omega,by show d.1.2.2+1<=3;omega,i0,i1,i2,i3⟩,by show z4 (3-(d.1.2.2+1))<_;omega⟩)) (λd hd=>by omega)
theorem aL6:∀(d:zJ.B) (hd:0<=d.1.2/\d.1.2<=4),Ok (aoG d) (λx:SE=>True):=
 bO (λd:zJ.B=>z4 (4-d.1.2)) (λd hd=>by
  have hw:wI (d.1.2+1)=d.1.2+1:=aW;obtain⟨c0,c1⟩:=hd;have w0:wI (0+d.1.2)=d.1.2:=by rw[alk];exact dV (by omega) (by omega)
  unfold aoF;dsimp only;rw[w0];rw[aN];refine⟨λh=> ?_,λ_=>by rw[aw];trivial⟩;have h:=dm h;have r0:bf d.1.2 4=true:=by rw[bq];omega
  have r1:bf d.1.2 24=true:=by rw[bq];omega
  have r3:(true&&wr (0+z4 d.1.2*24+4) 576)=true:=by rw[nY,bZ];omega
  rw[r0,r1,r3]
  repeat' (first
   |rw[aE]
   |(rw[aN];refine⟨λc=> ?_,λc=> ?_⟩)
   |(with_reducible refine aA (aL4 d.1.2 _ ⟨fk 0,(show(0:Int)<=3 by decide),rfl,rfl,c0,by omega⟩) λe _ he=> ?_))
  all_goals (rw[aw,he,hw];exact⟨⟨by show 0<=d.1.2+1;omega,by show d.1.2+1<=4;omega⟩,by show z4 (4-(d.1.2+1))<_;omega⟩)) (λd hd=>by omega)
theorem aL7:∀(d:zK.B) (hd:0<=d.1/\d.1<=3),Ok (aoI d) (λx:SF=>True):=
 bO (λd:zK.B=>z4 (3-d.1)) (λd hd=>by
  obtain⟨c0,c1⟩:=hd;have hw:wI (d.1+1)=d.1+1:=aW;have w0:wI (4+d.1)=4+d.1:=dV;have w1:wI (7+d.1)=7+d.1:=dV;unfold aoH;dsimp only;rw[w0];rw[aN];refine⟨λh=> ?_,λ_=>by rw[aw];trivial⟩;have h:=dm h;have r0:bf d.1 3=true:=by rw[bq];omega
  have r1:bf (4+d.1) 24=true:=by rw[bq];omega
  have r2:bf (7+d.1) 24=true:=by rw[bq];omega
  have r3:(true&&wr (0+z4 (4+d.1)*24+4) 576)=true:=by rw[nY,bZ];omega
  have r4:(true&&wr (0+(z4 (7+d.1)*24+z4 (4+d.1))*1+1) 576)=true:=by rw[nY,bZ];omega
  rw[r0,r1,r3]
  repeat' (first
   |rw[aE]
   |(with_reducible refine aA (aL5 d.1 _ ⟨fk 0,(show(0:Int)<=3 by decide),rfl,rfl,c0,by omega⟩) λe _ he=> ?_)
   |(rw[he.1,he.2,w0,w1,hw,r1,r2,r4])
   |(rw[aN];refine⟨λc=> ?_,λc=> ?_⟩))
  all_goals (rw[aw];exact⟨⟨by show 0<=d.1+1;omega,by show d.1+1<=3;omega⟩,by show z4 (3-(d.1+1))<_;omega⟩)) (λd hd=>by omega)
instance a3k (x0:Nat->Int)(x1:Int)(x2:Int)(x3:Int)(x4:Int)(x5:Int)(x6:Int)(x7:Int)(x8:Int)(x9:Bool):bz (afy x0 x1 x2 x3 x4 x5 x6 x7 x8 x9):=by
 unfold afy azD;try dsimp only
 refine aH ?_
 repeat' (first
  |(with_reducible refine aA (aL6 _ ⟨fk 0,(show(0:Int)<=4 by decide)⟩) λe _ he=> ?_)
  |(with_reducible refine aA (aL7 _ ⟨fk 0,(show(0:Int)<=3 by decide)⟩) λe _ he=> ?_)
  |(rw[bH];intro _ _))
 rw[aw];trivial
instance a1H (x0:Nat->Int)(x1:Nat->Int)(x2:Nat->Int)(x3:Int)(x4:Int)(x5:Int)(x6:Int)(x7:Int)(x8:Int)(x9:Int)(fX:Int)(fY:Nat->Int)(A7:Bool):bz (B5 x0 x1 x2 x3 x4 x5 x6 x7 x8 x9 fX fY A7):=by
 unfold B5 abL;exact aH (by simp only[bP,qV])
theorem aOF (N:Nat)(hN:N<=1999)(x:iN.B)(h:x.2.1.2.2<=N)(s:x.2.1.1<=(N:Int)):
  Ok (cM x) (λr:iO=>match r with|.inl e=>e.2.1=x.2.1|.inr e=>e.1.1.1=x.2.1.1/\e.1.1.2.2<=N/\x.2.1.2.2<=e.1.1.2.2/\e.1.1.2.2<=e.2.1):=by
 unfold cM nG;try dsimp only
 show PQ _ _;rw[aN];refine⟨λ_=>by rw[aw],λh0=> ?_⟩;have hn:x.2.1.2.2≠0:=λe=>by rw[e] at h0;cases h0
 have w:wI (ws x.2.1.2.2-1)=ws (x.2.1.2.2-1):=by
  simp only[dz];rw[dV (by omega) (by omega)];omega
 have b1:bf (ws (x.2.1.2.2-1)) x.2.1.2.2=true:=by simp only[bq,dz];omega
 have b2:wr ((x.2.1.2.2+1)*88) 140737488355328=true:=by rw[bZ];omega
 have b3:HE 1 (x.2.1.2.2+1)=true:=by simp only[aeu];omega
 have b4:wr ((0+(x.2.1.2.2+1-1))*88) 140737488355328=true:=by rw[bZ];omega
 rw[w,b1,b2,b3,b4]
 repeat' (first
  |rw[aE]
  |(rw[bH];intro _ _)
  |(rw[aN];refine⟨λc=> ?_,λc=> ?_⟩))
 all_goals first
  |(rw[aw];exact⟨rfl,by show 0+(x.2.1.2.2+1-1)<=N;omega,by show x.2.1.2.2<=0+(x.2.1.2.2+1-1);omega,by show 0+(x.2.1.2.2+1-1)<=x.2.1.2.2+1-1;omega⟩)
  |(rw[aw];have c:=vk c;simp only[dz] at c;exact⟨rfl,by show x.2.1.2.2+1<=N;omega,by show x.2.1.2.2<=x.2.1.2.2+1;omega,cZ _⟩)
  |(rw[aw])
theorem aiE (N q q4:Nat)(q5:Int)(hN:N<=1999)(s:Int)(hs:s<=(N:Int))(d:dk.B)(hd:0<=d.1.2.2/\d.1.2.2<=d.1.2.1/\d.1.2.1<=1999/\d.1.2.1=((d.1.1:Nat):Int)/\d.d.c.1.2.2<=N/\d.d.c.1.1=s/\d.d.c.1.2.2<=d.e.c.2.1/\d.2.1.d.c.2.2=q/\d.2.1.c.1=q4/\d.2.1.d.b.2.1=q5):Ok (nd d) (λx:fI=>x.d.c.1.2.2<=N/\x.d.c.1.1=s/\x.d.c.1.2.2<=x.e.c.2.1/\x.2.1.d.c.2.2=q/\x.2.1.c.1=q4/\x.2.1.d.b.2.1=q5):=
 wN (s:=_) (λd:dk.B=>0<=d.1.2.2/\d.1.2.2<=d.1.2.1/\d.1.2.1<=1999/\d.1.2.1=((d.1.1:Nat):Int)/\d.d.c.1.2.2<=N/\d.d.c.1.1=s/\d.d.c.1.2.2<=d.e.c.2.1/\d.2.1.d.c.2.2=q/\d.2.1.c.1=q4/\d.2.1.d.b.2.1=q5) (λd:dk.B=>z4 (d.1.2.1-d.1.2.2)) (λx:fI=>x.d.c.1.2.2<=N/\x.d.c.1.1=s/\x.d.c.1.2.2<=x.e.c.2.1/\x.2.1.d.c.2.2=q/\x.2.1.c.1=q4/\x.2.1.d.b.2.1=q5) (λd hd=>by
  obtain⟨i0,i1,i2,i3,i4,i5,i6,i7,i8,i9⟩:=hd;have hw:wI (d.1.2.2+1)=d.1.2.2+1:=aW;unfold re;dsimp only;rw[aN];refine⟨λh=> ?_,λ_=>by rw[aw];exact⟨i4,i5,i6,i7,i8,i9⟩⟩;have h:=dm h;have r0:bf d.1.2.2 d.1.1=true:=by rw[bq];omega
  rw[r0,hw,aQ,aE,aE];with_reducible refine aA (aOF N hN _ ?_ ?_) λe _ he=> ?_
  .exact i4
  .show d.d.c.1.1<=(N:Int);omega
  rw[uD];refine⟨λa ha=> ?_,λa ha=> ?_⟩
  .rw[ha] at he;have he:a.2.1=d.d.c.1:=he;rw[aw];exact⟨⟨by show 0<=d.1.2.2+1;omega,by show d.1.2.2+1<=d.1.2.1;omega,i2,i3,by show a.2.1.2.2<=N;rw[he];exact i4,by show a.2.1.1=s;rw[he];exact i5,by show a.2.1.2.2<=d.e.c.2.1;rw[he];exact i6,i7,i8,i9⟩,by show z4 (d.1.2.1-(d.1.2.2+1))<_;omega⟩
  .rw[ha] at he;obtain⟨e1,e2,e3,e4⟩:=he;rw[aw];exact⟨⟨by show 0<=d.1.2.2+1;omega,by show d.1.2.2+1<=d.1.2.1;omega,i2,i3,e2,e1.trans i5,e4,i7,i8,i9⟩,by show z4 (d.1.2.1-(d.1.2.2+1))<_;omega⟩) 2000 d hd (by omega)
theorem aUy (x:gV.B):Ok (dK x) (λr:yk=>r.1.1.1=x.2.1.1):=by
 unfold dK mD;show PQ _ _;rw[bH];intro _ _;rw[aw]
theorem aUz (N:Nat)(h1:1<=N)(hN:N<=1999)(x:kV.B)(hl:x.2.2.2.2.2.2.2.2.2.2.2.2.1.1<=(N:Int))(hq:x.2.1.2.2.2.2.1<=1999):Ok (jq x) (λr:mP=>match r with|.inl e=>e.2=x.2.2.2.2.2.2.2.2.2.2.2.2.1/\e.1.2.2.2.2.2.2.2.2.2.2.2.2.2.2.2.2=x.2.1.2.2.2.2.2.2.2.2.2.2.2.2.2.2.2.2/\e.1.2.2.2.2.1=x.2.1.2.2.2.2.1/\e.1.2.2.2.2.2.2.2.2.2.2.2.2.2.1=x.2.1.2.2.2.2.2.2.2.2.2.2.2.2.2.1|.inr e=>e.1.2.2.2<=N/\e.1.2.1=x.2.2.2.2.2.2.2.2.2.2.2.2.1.1/\e.1.2.2.2<=e.2.1/\e.1.1.2.2.2.2.2.2.2.2.2.2.2.2.2.2=x.2.1.2.2.2.2.2.2.2.2.2.2.2.2.2.2.2.2/\e.1.1.2.2.2.2.1=x.2.1.2.2.2.2.1/\e.1.1.2.2.2.2.2.2.2.2.2.2.2.1=x.2.1.2.2.2.2.2.2.2.2.2.2.2.2.2.1):=by
 unfold jq qu;try dsimp only
 show PQ _ _;simp only[aQ]
 repeat' (first
  |rw[aE]
  |(with_reducible refine aA (aUy _) λe _ he=> ?_)
  |(with_reducible refine aA (aiE N x.2.1.2.2.2.2.2.2.2.2.2.2.2.2.2.2.2.2 x.2.1.2.2.2.2.1 x.2.1.2.2.2.2.2.2.2.2.2.2.2.2.2.1 hN x.2.2.2.2.2.2.2.2.2.2.2.2.1.1 hl _ ?_) λe _ he=> ?_)
  |(rw[bH];intro _ _)
  |(rw[aN];refine⟨λc=> ?_,λc=> ?_⟩))
 all_goals first
  |(rw[aw];exact⟨rfl,rfl,rfl,rfl⟩)
  |(rw[aw];exact he)
  |(obtain⟨a,b,c,e⟩:=hdN x.2.1.2.2.2.2.1 hq
    exact⟨a,b,c,e,h1,he,cZ _,rfl,rfl,rfl⟩)
  |skip
theorem Qo (n:Nat)(p:Int×Int×Nat):∀(d:cP.B) (hd:0<=d.1.2.2.2.2/\d.1.2.2.2.2<=d.1.2.2.2.1/\n<=1999/\d.1.2.2.2.1=(n:Int)/\d.1.2.2.1=n/\d.2.1=p/\d.1.2.1<(n:Int)),Ok (m5 d) (λx:gO=>x.1.2.2.1=n/\x.2.1=p/\x.1.2.1<(n:Int)):=
 bO (λd:cP.B=>z4 (d.1.2.2.2.1-d.1.2.2.2.2)) (λd hd=>by
  have hw:wI (d.1.2.2.2.2+1)=d.1.2.2.2.2+1:=aW;obtain⟨i0,i1,i2,i3,i4,i5,i6⟩:=hd;unfold m4;dsimp only;rw[aN];refine⟨λh=> ?_,λ_=>by rw[aw];exact⟨i4,i5,i6⟩⟩;have h:=dm h;have r0:bf d.1.2.2.2.2 d.1.2.2.1=true:=by rw[bq];omega
  rw[r0,hw,aE,aN];refine⟨λ_=> ?_,λ_=> ?_⟩
  .rw[aw];exact⟨⟨by show 0<=d.1.2.2.2.2+1;omega,by show d.1.2.2.2.2+1<=d.1.2.2.2.1;omega,i2,i3,i4,i5,by show d.1.2.2.2.2<(n:Int);omega⟩,by show z4 (d.1.2.2.2.1-(d.1.2.2.2.2+1))<_;omega⟩
  .rw[aw];exact⟨⟨by show 0<=d.1.2.2.2.2+1;omega,by show d.1.2.2.2.2+1<=d.1.2.2.2.1;omega,i2,i3,i4,i5,i6⟩,by show z4 (d.1.2.2.2.1-(d.1.2.2.2.2+1))<_;omega⟩) (λd hd=>by omega)
theorem Qp (d:dQ.B)(h0:0<=d.1)(h1:d.1<4):Ok (gP d) (λx:fh=>x.1.1=d.1/\x.2.1=(d.2.1.1,d.2.1.2.2)/\x.b.2.1=d.b.2.1):=by
 have r0:bf d.1 4=true:=by rw[bq];omega
 unfold gP m6;try dsimp only
 show PQ _ _;rw[r0]
 repeat' (first
  |rw[aE]
  |(rw[bH];intro _ _)
  |(rw[aN];refine⟨λc=> ?_,λc=> ?_⟩))
 all_goals (rw[aw];exact⟨rfl,rfl,rfl⟩)
theorem Qq (a:Int)(n:Nat)(v:Nat×(Nat->Int)×(Nat->Int)×(Nat->Int)×(Nat->Int)×(Nat->Int)×(Nat->Int)×(Nat->Int)×(Nat->Int)×(Nat->Int)×(Nat->Int)×(Nat->Int)):∀(d:cQ.B) (hd:0<=d.1/\d.1<=4/\d.2.1.1=a/\d.2.1.2.2=n/\d.b.2.1=v),Ok (m8 d) (λx:gQ=>x.2.1.1=a/\x.2.1.2.2=n/\x.b.2.1=v):=
 bO (λd:cQ.B=>z4 (4-d.1)) (λd hd=>by
  have hw:wI (d.1+1)=d.1+1:=aW;obtain⟨i0,i1,i2,i3,i4⟩:=hd;unfold m7;dsimp only;rw[aN];refine⟨λh=> ?_,λ_=>by rw[aw];exact⟨i2,i3,i4⟩⟩;have h:=dm h;have r0:bf d.1 4=true:=by rw[bq];omega
  rw[r0]
  repeat' (first
   |rw[aE]
   |(with_reducible refine aA (Qp _ i0 h) λe _ he=> ?_)
   |(rw[aN];refine⟨λc=> ?_,λc=> ?_⟩))
  all_goals (obtain⟨e1,e2,e3⟩:=he;rw[aw,e1,e2,hw];exact⟨⟨by show 0<=d.1+1;omega,by show d.1+1<=4;omega,i2,i3,e3.trans i4⟩,by show z4 (4-(d.1+1))<_;omega⟩)) (λd hd=>by omega)
theorem aOG (x:iW.B)(h:x.2.1.2.2<=1999):Ok (gh x) (λr:vN=>r.b.1=x.2.1.2.2):=by
 unfold gh pj;try dsimp only
 show PQ _ _;rw[aQ,aE];with_reducible refine aA (Qo x.2.1.2.2 x.2.1 _ ?_) λd _ hd=> ?_
 .exact⟨fk 0,by show(0:Int)<=ws x.2.1.2.2;simp only[dz];omega,h,rfl,rfl,rfl,by show(-1:Int)<_;omega⟩
 obtain⟨d1,d2,d3⟩:=hd;try dsimp only
 rw[aN];refine⟨λ_=>by rw[aw];exact d1,λc=> ?_⟩;have c:=vk c;have r0:bf d.1.2.1 d.2.1.2.2=true:=by rw[bq,d2];omega
 rw[r0,aE];rw[bH];intro e1 _;rw[bH];intro e2 _;rw[bH];intro e3 _;rw[bH];intro e4 _;rw[bH];intro e5 _;with_reducible refine aA (Qq x.2.1.1 x.2.1.2.2 (d.1.b.1,d.b.2.1) _ ?_) λf _ hf=> ?_
 .exact⟨by show(0:Int)<=1;decide,by show(1:Int)<=4;decide,by show d.2.1.1=_;rw[d2],by show d.2.1.2.2=_;rw[d2],rfl⟩
 obtain⟨f1,f2,f3⟩:=hf;rw[bH];intro e6 _;rw[aQ,aE];with_reducible refine aA (Uz _ ?_) λg _ hg=> ?_
 .show f.2.1.2.2<=1999;omega
 have hg:g.2.1=f.2.1.2.2:=hg;have fn:f.b.2.1.1=x.2.1.2.2:=by rw[f3];exact d1
 have b1:(true&&z9 (g.2.1*11+0) (f.2.1.2.2*11)&&true)=true:=by rw[hg,ku,aQ];rfl
 have b2:(true&&wr (0+(g.2.1*11+0)) (f.b.2.1.1*11+0))=true:=by rw[hg,fn,nY,bZ];omega
 rw[b1,b2,aE,aE,aw];exact fn
theorem aoR (a b c:Int):nH a b c=some (decide (b<=a)&&decide (a<=c)):=by
 simp only[nH,Ns,bN,bQ];by_cases h:b<=a<;>simp[h]
theorem aRD (w:lY.B):∀(d:lY.B) (hd:0<=d.1.2/\d.1.2<=24/\d.2=w.2/\∀j:Nat,(j:Int)<d.1.2->(0<=w.2.2.2.2.2.2.2.2.2.2.2.2.2.2.2.2.2.1 j/\w.2.2.2.2.2.2.2.2.2.2.2.2.2.2.2.2.2.1 j<=72057594037927936)/\1<=w.2.2.2.2.2.2.2.2.2.2.2.2.2.2.2.2.2.2.1 j/\w.2.2.2.2.2.2.2.2.2.2.2.2.2.2.2.2.2.2.1 j<=72057594037927936),Ok (Jf d) (λx:Ei=>match x with|.inl _=>True|.inr e=>e.2=w.2/\∀j:Nat,j<24->(0<=w.2.2.2.2.2.2.2.2.2.2.2.2.2.2.2.2.2.1 j/\w.2.2.2.2.2.2.2.2.2.2.2.2.2.2.2.2.2.1 j<=72057594037927936)/\1<=w.2.2.2.2.2.2.2.2.2.2.2.2.2.2.2.2.2.2.1 j/\w.2.2.2.2.2.2.2.2.2.2.2.2.2.2.2.2.2.2.1 j<=72057594037927936):=
 bO (λd:lY.B=>z4 (24-d.1.2)) (λd hd=>by
  have hw:wI (d.1.2+1)=d.1.2+1:=aW;obtain⟨i0,i1,i2,i3⟩:=hd;unfold Rh;dsimp only;rw[aN];refine⟨λh=> ?_,λh=> ?_⟩
  .have h:=dm h;have r0:bf d.1.2 24=true:=by rw[bq];omega
   have r1:wr (0+z4 d.1.2*1+1) 24=true:=by rw[bZ];omega
   rw[r0,r1,aE,aE,aoR,bV,aN];refine⟨λ_=>by rw[aw];trivial,λc=> ?_⟩;rw[aE,aE,aoR,bV,aN];refine⟨λ_=>by rw[aw];trivial,λc2=> ?_⟩;rw[ayh,cB,jW,jW] at c c2;rw[aw,hw];refine⟨⟨by show 0<=d.1.2+1;omega,by show d.1.2+1<=24;omega,i2,λj hj=> ?_⟩,by show z4 (24-(d.1.2+1))<_;omega⟩;have hj:(j:Int)<d.1.2+1:=hj;by_cases e:(j:Int)<d.1.2
   .exact i3 j e
   .have e2:z4 d.1.2=j:=by omega
    rw[e2,i2] at c c2;exact⟨c,c2⟩
  .have h:=vk h;rw[aw];exact⟨i2,λj hj=>i3 j (by omega)⟩) (λd hd=>by omega)
structure aYM (x:Gl.B):Prop where
 place:∃e,zw x.2.2.2.2.2.2.2.2.2.2.2.2.2.1 x.2.2.2.2.2.2.2.2.2.2.2.2.2.2.1 x.2.2.2.2.2.2.2.2.2.2.2.2.2.2.2=some (wt e)
 arr:∀j:Nat,j<24->(0<=x.2.2.2.2.2.2.1 j/\x.2.2.2.2.2.2.1 j<=72057594037927936)/\1<=x.2.2.2.2.2.2.2.1 j/\x.2.2.2.2.2.2.2.1 j<=72057594037927936
 nums:1000<=x.1/\x.1<=100000/\0<=x.2.1/\x.2.1<=300000/\1<=x.2.2.1/\x.2.2.1<=64/\0<=x.2.2.2.1/\x.2.2.2.1<=100/\0<=x.2.2.2.2.2.2.2.2.1/\x.2.2.2.2.2.2.2.2.1<=1099511627776/\1<=x.2.2.2.2.2.2.2.2.2.1/\x.2.2.2.2.2.2.2.2.2.1<=72057594037927936/\0<=x.2.2.2.2.2.2.2.2.2.2.1/\x.2.2.2.2.2.2.2.2.2.2.1<=3/\1<=x.2.2.2.2.2.2.2.2.2.2.2.1/\x.2.2.2.2.2.2.2.2.2.2.2.1<=1073741824/\1<=x.2.2.2.2.2.2.2.2.2.2.2.2.1/\x.2.2.2.2.2.2.2.2.2.2.2.2.1<=64/\1<=x.2.2.2.2.1.1/\x.2.2.2.2.1.1<=1000/\1<=x.2.2.2.2.1.2.1/\x.2.2.2.2.1.2.1<=1000/\1<=x.2.2.2.2.1.2.2.1/\x.2.2.2.2.1.2.2.1<=1000/\1<=x.2.2.2.2.1.2.2.2.1/\x.2.2.2.2.1.2.2.2.1<=1000/\1<=x.2.2.2.2.1.2.2.2.2.1/\x.2.2.2.2.1.2.2.2.2.1<=1000/\1<=x.2.2.2.2.1.2.2.2.2.2/\x.2.2.2.2.1.2.2.2.2.2<=1000/\1<=x.2.2.2.2.2.1.1/\x.2.2.2.2.2.1.1<=1099511627776/\1<=x.2.2.2.2.2.1.2.1/\x.2.2.2.2.2.1.2.1<=1099511627776/\1<=x.2.2.2.2.2.1.2.2.1/\x.2.2.2.2.2.1.2.2.1<=1099511627776/\1<=x.2.2.2.2.2.1.2.2.2.1/\x.2.2.2.2.2.1.2.2.2.1<=1099511627776/\1<=x.2.2.2.2.2.1.2.2.2.2.1/\x.2.2.2.2.2.1.2.2.2.2.1<=1099511627776/\1<=x.2.2.2.2.2.1.2.2.2.2.2/\x.2.2.2.2.2.1.2.2.2.2.2<=1099511627776
theorem aUA (x:Gl.B):Ok (qI x) (λr:Bool=>r=true->aYM x):=by
 unfold qI abE;try dsimp only
 show PQ _ _
 repeat' (first
  |(rw[aoR,bV])
  |(with_reducible refine aA (aRD _ _ ⟨fk 0,(show(0:Int)<=24 by decide),rfl,λj hj=>absurd hj (by show ¬(j:Int)<0;omega)⟩) λe _ he=> ?_)
  |(rw[qQ];refine⟨λa ha=> ?_,λa ha=> ?_⟩)
  |(rw[uD];refine⟨λb hb=> ?_,λb hb=> ?_⟩)
  |(rw[bH];intro q hq)
  |(rw[aN];refine⟨λc=> ?_,λc=> ?_⟩<;>(try simp only[pB,ayh,cB,jW,OD] at c)))
 all_goals first
  |(rw[aw];intro hr;exact absurd hr (by decide))
  |skip
 rw[ha] at he;obtain⟨e1,e2⟩:=he;obtain⟨a1,a2⟩:=a;have e1:a2=_:=e1;subst e1;rw[aw];intro hr;have hr:=dm hr;rw[hb] at hq;refine⟨⟨_,hq⟩,e2,?_⟩;dsimp only at*
 omega
theorem rT {δ:Type}{Q:δ->Prop}(x y:Pg δ):PQ (.ae false x y) Q=PQ y Q:=by unfold PQ;rw[Pg.bN];rfl
theorem aOH (a:Int)(h:1000<=a)(k:a<=100000):DX a=some (wt a):=by
 have h1:decide (a<1000)=false:=cV (by omega);have h2:decide (a>100000)=false:=cV (by omega);unfold DX UH;rw[h1,h2];rfl
theorem aRE (a:Int)(h:1<=a)(k:a<=64):GG a=some (wt (a,λ_=>0)):=by
 have h1:decide (a<1)=false:=cV (by omega);have h2:decide (a>64)=false:=cV (by omega);unfold GG ZE;rw[h1,h2];rfl
theorem aL8 (a b:Int)(h:1<=a)(k:a<=64)(h':1<=b)(k':b<=1073741824):BE a b=some (wt ((a,b),λ_=>0)):=by
 have h1:decide (a<1)=false:=cV (by omega);have h2:decide (a>64)=false:=cV (by omega);have h3:decide (b<1)=false:=cV (by omega);have h4:decide (b>1073741824)=false:=cV (by omega);unfold BE Qm;rw[h1,h2,h3,h4];rfl
theorem aL9 (T:Nat->Int)(hT:∀j:Nat,j<6->1<=T j/\T j<=1099511627776):∀(d:kW.B) (hd:0<=d.1.2.2.2/\d.1.2.2.2<=6/\d.1.2.1.1=6/\d.1.2.2.1=6/\d.2.1=T),Ok (KY d) (λx:xK=>match x with|.inl _=>False|.inr _=>True):=
 bO (λd:kW.B=>z4 (6-d.1.2.2.2)) (λd hd=>by
  obtain⟨i0,i1,i2,i3,i4⟩:=hd;have hw:wI (d.1.2.2.2+1)=d.1.2.2.2+1:=aW;unfold KX;dsimp only;rw[aN];refine⟨λh=> ?_,λ_=>by rw[aw];trivial⟩;have h:=dm h;have r0:bf d.1.2.2.2 d.1.2.1.1=true:=by rw[bq];omega
  have r1:bf d.1.2.2.2 6=true:=by rw[bq];omega
  have t:=hT (z4 d.1.2.2.2) (by omega);have c1:decide (d.2.1 (z4 d.1.2.2.2)<1)=false:=cV (by rw[i4];omega);have c2:decide (d.2.1 (z4 d.1.2.2.2)>1099511627776)=false:=cV (by rw[i4];omega);have r2:(wr (0+z4 d.1.2.2.2*6+6) 36&&wr (0+z4 d.1.2.2.2*6+6) 37)=true:=by rw[cB,bZ,bZ];omega
  rw[r0,c1,c2,r1,r2,hw,aE,rT,rT,aE,aE,aw];exact⟨⟨by show 0<=d.1.2.2.2+1;omega,by show d.1.2.2.2+1<=6;omega,i2,i3,i4⟩,by show z4 (6-(d.1.2.2.2+1))<_;omega⟩) (λd hd=>by omega)
theorem aMa (m:Int)(T:Nat->Int)(w:Bool)(h:0<=m)(k:m<=100)(hT:∀j:Nat,j<6->1<=T j/\T j<=1099511627776):Ok (BD m 6 T w) (λr:BC=>∃e,r=wt e):=by
 have h1:decide (m<0)=false:=cV (by omega);have h2:decide (m>100)=false:=cV (by omega);unfold BD Qi;show PQ _ _;rw[h1,h2,rT,rT,(show(ws 6!=6)=false from rfl),rT,aQ,aE];refine aA (aL9 T hT _ ⟨fk 0,(show(0:Int)<=6 by decide),rfl,rfl,rfl⟩) λy _ hy=> ?_;rw[qQ];refine⟨λa ha=> ?_,λa ha=> ?_⟩
 .rw[ha] at hy;exact hy.elim
 .rw[aw];exact⟨_,rfl⟩
theorem aOI (a b c:Int)(h:∃e,zw a b c=some (wt e)):Ok (DW a b c) (λr:yO=>∃e,r=wt e):=by
 obtain⟨e,h⟩:=h;have g:(DW a b c:Option yO)=zw a b c:=rfl;exact⟨wt e,g.trans h,e,rfl⟩
theorem a0l (x:KZ.B):Ok (uU x) (λr:Qn=>match r with|.inl _=>True|.inr e=>1<=x.2.2.1/\x.2.2.1<=64/\1<=x.2.2.2.2.2.2.2.2.2.2.2.2.1/\x.2.2.2.2.2.2.2.2.2.2.2.2.1<=64/\e.2.2.2.2.1=x.2.2.1/\e.2.2.2.2.2.1=x.2.2.1/\e.2.2.2.2.2.2.1=x.2.2.1/\e.2.2.2.2.2.2.2.1=x.2.2.1/\e.2.2.2.2.2.2.2.2.1=x.2.2.1/\e.2.2.2.2.2.2.2.2.2.1=x.2.2.1/\e.2.2.2.2.2.2.2.2.2.2.2.1.1=x.2.2.2.2.2.2.2.2.2.2.2.2.1):=by
 unfold uU ZG;try dsimp only
 show PQ _ _;refine aA (aUA x) λr _ hr=> ?_;rw[aN];refine⟨λ_=>by rw[aw];trivial,λc=> ?_⟩;have cc:aYM x:=hr (by simpa using c);have n:=cc.nums
 have hT:∀j:Nat,j<6->1<=(bif z9 j 5 then x.2.2.2.2.2.1.2.2.2.2.2 else bif z9 j 4 then x.2.2.2.2.2.1.2.2.2.2.1 else bif z9 j 3 then x.2.2.2.2.2.1.2.2.2.1 else bif z9 j 2 then x.2.2.2.2.2.1.2.2.1 else bif z9 j 1 then x.2.2.2.2.2.1.2.1 else bif z9 j 0 then x.2.2.2.2.2.1.1 else x.2.2.2.2.2.1.1)/\(bif z9 j 5 then x.2.2.2.2.2.1.2.2.2.2.2 else bif z9 j 4 then x.2.2.2.2.2.1.2.2.2.2.1 else bif z9 j 3 then x.2.2.2.2.2.1.2.2.2.1 else bif z9 j 2 then x.2.2.2.2.2.1.2.2.1 else bif z9 j 1 then x.2.2.2.2.2.1.2.1 else bif z9 j 0 then x.2.2.2.2.2.1.1 else x.2.2.2.2.2.1.1)<=1099511627776:=by
  intro j hj;have e:j=0∨j=1∨j=2∨j=3∨j=4∨j=5:=by omega
  rcases e with rfl|rfl|rfl|rfl|rfl|rfl
  .exact⟨by show 1<=x.2.2.2.2.2.1.1;omega,by show x.2.2.2.2.2.1.1<=1099511627776;omega⟩
  .exact⟨by show 1<=x.2.2.2.2.2.1.2.1;omega,by show x.2.2.2.2.2.1.2.1<=1099511627776;omega⟩
  .exact⟨by show 1<=x.2.2.2.2.2.1.2.2.1;omega,by show x.2.2.2.2.2.1.2.2.1<=1099511627776;omega⟩
  .exact⟨by show 1<=x.2.2.2.2.2.1.2.2.2.1;omega,by show x.2.2.2.2.2.1.2.2.2.1<=1099511627776;omega⟩
  .exact⟨by show 1<=x.2.2.2.2.2.1.2.2.2.2.1;omega,by show x.2.2.2.2.2.1.2.2.2.2.1<=1099511627776;omega⟩
  .exact⟨by show 1<=x.2.2.2.2.2.1.2.2.2.2.2;omega,by show x.2.2.2.2.2.1.2.2.2.2.2<=1099511627776;omega⟩
 rw[bH];intro _ _;rw[bH];intro _ _;rw[bH];intro _ _;refine aA (aOI _ _ _ cc.place) λf _ hf=> ?_;obtain⟨f,rfl⟩:=hf;rw[uD];refine⟨λ_ h=>(nomatch h),λf hf=> ?_⟩;rw[aOH _ (by omega) (by omega),bV,uD];refine⟨λ_ h=>(nomatch h),λg hg=> ?_⟩;refine aA (aMa _ _ _ (by omega) (by omega) hT) λh _ hh=> ?_;obtain⟨h,rfl⟩:=hh;rw[uD];refine⟨λ_ h=>(nomatch h),λf hf=> ?_⟩;rw[aL8 _ _ (by omega) (by omega) (by omega) (by omega),bV,uD];refine⟨λ_ h=>(nomatch h),λp hp=> ?_⟩;rw[aRE _ (by omega) (by omega)];rw[bV,uD];refine⟨λ_ h=>(nomatch h),λb0 RB=> ?_⟩;cases RB;rw[bV,uD];refine⟨λ_ h=>(nomatch h),λb1 hb1=> ?_⟩;cases hb1;rw[bV,uD];refine⟨λ_ h=>(nomatch h),λb2 FA=> ?_⟩;cases FA;rw[bV,uD];refine⟨λ_ h=>(nomatch h),λb3 hb3=> ?_⟩;cases hb3;rw[bV,uD];refine⟨λ_ h=>(nomatch h),λb4 hb4=> ?_⟩;cases hb4;rw[bV,uD];refine⟨λ_ h=>(nomatch h),λb5 hb5=> ?_⟩;cases hb5;cases hp;rw[aw];refine⟨by omega,by omega,by omega,by omega,rfl,rfl,rfl,rfl,rfl,rfl,rfl⟩
end Go.Proofs.YtldgljclcgaibaaGreat
