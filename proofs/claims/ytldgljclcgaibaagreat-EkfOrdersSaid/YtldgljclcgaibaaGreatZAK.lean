/-
  Parts of the proof: TO TP TQ TR8 TS8 TPut EOa THb Q5 TNh TNd TT TV TW TX TY
-/
import Derived.Test.YtldgljclcgaibaaGreatZAE
import Derived.Test.YtldgljclcgaibaaGreatZAJ
open Nat renaming beq→ww,ble→wl,blt→v9
open Int renaming toNat→wt,ofNat→wn,tdiv→t6
open Sum renaming inl→ws,inr→wr,elim→t7
open List renaming range→rx
set_option linter.all false
set_option maxRecDepth 100000
set_option maxHeartbeats 4000000
namespace Go.Proofs.YtldgljclcgaibaaGreat
open Go.Ab Go.Ab.Pg
theorem aiE (x0:Int)(x1:Int)(x2:Int)(x3:Int)(x4:Int)(x5:Int)(x6:Int)(x7:Int)(x8:Int)(x9:Bool)(h0:0<=x7)(h1:x7<=5):bp (pe x0 x1 x2 x3 x4 x5 x6 x7 x8 x9):=by
 have hw:wI (x7+1)=x7+1:=dS;have b1:aX x7 7=true:=by simp only[bk];omega
 have b2:aX (x7+1) 7=true:=by simp only[bk];omega
 unfold pe Cq;refine aG ?_;simp only[hw,b1,b2];simp only[bO,Oo,Lo,DU]
theorem asm {x0 x1 x2:Int}{d:adt}(h:gO x0 x1 x2=some d)(k:d=true): -900000000<=x0/\x0<=900000000/\ -1800000000<=x1/\x1<=1800000000:=by
 have e:PQ (Iz x0 x1 x2) (λd:Bool=>d=true-> -900000000<=x0/\x0<=900000000/\ -1800000000<=x1/\x1<=1800000000):=by
  simp only[Iz,aK,av,Gs,ke,abW,wS,DU,Oq,Bx];omega
 exact Ok.post e h k
instance aOQ (x0:Int)(x1:Int)(x2:Int)(x3:Bool):bp (sM x0 x1 x2 x3):=by
 unfold sM FT;refine aG ?_;rw[bD];intro d hd;rw[aK];refine⟨λ_=>by rw[av];trivial,λh=> ?_⟩;obtain⟨a0,a1,a2,a3⟩:=asm hd (by simpa using h);have w0:wI (x0+900000000)=x0+900000000:=dS;have w1:wI (x1+1800000000)=x1+1800000000:=dS;have e0:t6 (x0+900000000) 450000000=(x0+900000000)/450000000:=aAb (by omega);have e1:t6 (x1+1800000000) 600000000=(x1+1800000000)/600000000:=aAb (by omega);rw[w0,w1,e0,e1];have w2:wI ((x0+900000000)/450000000)=(x0+900000000)/450000000:=dS;have w3:wI ((x1+1800000000)/600000000)=(x1+1800000000)/600000000:=dS;rw[w2,w3];have r1:0<=(if 3<(x0+900000000)/450000000 then 3 else(x0+900000000)/450000000)/\(if 3<(x0+900000000)/450000000 then 3 else(x0+900000000)/450000000)<=3:=by split<;>omega
 have r2:0<=(if 5<(x1+1800000000)/600000000 then 5 else(x1+1800000000)/600000000)/\(if 5<(x1+1800000000)/600000000 then 5 else(x1+1800000000)/600000000)<=5:=by split<;>omega
 generalize (if 3<(x0+900000000)/450000000 then 3 else(x0+900000000)/450000000)=row at*
 generalize (if 5<(x1+1800000000)/600000000 then 5 else(x1+1800000000)/600000000)=m9 at*
 have t2:=λa b c d e f g i j=>aiE a b c d e f g m9 i j r2.1 r2.2
 have hw:wI (row+1)=row+1:=dS;have b1:aX row 5=true:=by simp only[bk];omega
 have b2:aX (row+1) 5=true:=by simp only[bk];omega
 simp only[hw,b1,b2];simp only[bO,Oo,Lo,DU]
instance aHj (x:gU.B):bp (fD x):=by
 unfold fD pV;try dsimp only
 exact aG (by simp only[bO])
theorem aDv (x:gU.B):Ok (fD x) (λr:xg=>r.e.2=x.1.d.c.b.2.2/\r.c.2.1=x.1.c.1/\r.d.c.b.1=x.1.d.c.2.1):=by
 unfold fD pV;try dsimp only
 show PQ _ _;rw[bD];intro d _;rw[av];exact⟨rfl,rfl,rfl⟩
theorem aY1 (x:qZ.B)(h:x.2.1.d.c.b.2.2<=90000):Ok (rb x) (λr:Cz=>match r with|.inl e=>e.1.d.c.b.2.2<=x.2.1.d.c.b.2.2+1/\e.1.c.1=x.2.1.c.1/\e.1.d.c.2.1=x.2.1.d.c.2.1|.inr e=>e.1.1.d.c.b.2<=x.2.1.d.c.b.2.2+1/\e.1.1.c.1=x.2.1.c.1/\e.1.1.d.c.1=x.2.1.d.c.2.1):=by
 unfold rb Kj;try dsimp only
 show PQ _ _;simp only[aM];rw[bD];intro d _;rw[bD];intro d1 _;repeat rw[aC]
 with_reducible refine ay (aDv _) λd2 _ h2=> ?_
 have h2:d2.e.2=x.2.1.d.c.b.2.2/\d2.c.2.1=x.2.1.c.1/\d2.d.c.b.1=x.2.1.d.c.2.1:=h2;rw[bD];intro d3 _;rw[aK];refine⟨λ_=> ?_,λ_=> ?_⟩
 .repeat rw[aC]
  rw[bD];intro d4 _;rw[av];show d2.e.2<=x.2.1.d.c.b.2.2+1/\d2.c.2.1=x.2.1.c.1/\d2.d.c.b.1=x.2.1.d.c.2.1;omega
 .rw[bD];intro d4 _;repeat rw[aC]
  with_reducible refine ay (Sf _ ?_) λt _ ht=> ?_
  .show d2.e.2<=100000;omega
  have ht:t.1.d.c.b.2.2=d2.e.2+1/\t.1.c.1=d2.c.2.1/\t.1.d.c.2.1=d2.d.c.b.1:=ht;repeat (first|rw[aC]|(rw[bD];intro _ _))
  rw[av];show t.1.d.c.b.2.2<=x.2.1.d.c.b.2.2+1/\t.1.c.1=x.2.1.c.1/\t.1.d.c.2.1=x.2.1.d.c.2.1;omega
theorem aGJ (x:jZ.B)(h:x.2.1.d.c.b.2.2<=90000):Ok (j6 x) (λr:rR=>match r with|.inl e=>e.1.1.d.c.2.2<=x.2.1.d.c.b.2.2+3/\e.1.1.c.1=x.2.1.c.1/\e.1.1.d.b.2.1=x.2.1.d.c.2.1|.inr e=>e.1.d.c.b.2.2<=x.2.1.d.c.b.2.2+3/\e.1.c.1=x.2.1.c.1/\e.1.d.c.2.1=x.2.1.d.c.2.1):=by
 have idx:∀(n m:Nat) (k:Int),n=m->0<=k->k<(m:Int)->aX k n=true:=λn m k e h1 h2=>by subst e;simp only[bk];omega
 unfold j6 zI;try dsimp only
 show PQ _ _;simp only[aM];rw[bD];intro d _
 repeat' (first
  |rw[aC]
  |(with_reducible refine ay (aYZ _ ?_) λj _ hj=> ?_)
  |(with_reducible refine ay (afu _ ?_) λe _ he=> ?_)
  |(with_reducible refine ay (Zj _ ?_) λq _ hq=> ?_)
  |(rw[tI];refine⟨λ_ _=> ?_,λ_ _=> ?_⟩)
  |(rw[bD];intro _ _)
  |(rw[aK];refine⟨λc=> ?_,λc=> ?_⟩))
 all_goals first
  |(rw[av];exact hj)
  |(rw[av];exact⟨dw (Nat.le_of_eq (hq.1.trans he.2.1)) (Nat.le_add_right _ _),hq.2.1.trans he.b.1,hq.2.2.trans he.b.2⟩)
  |(rw[av];exact⟨dw (Nat.le_of_eq he.2.1) (Nat.le_add_right _ _),he.2.2⟩)
  |(show x.2.1.d.c.b.2.2<=90000;exact h)
  |(dsimp only;omega)
  |(have h1:=he.1;(try dsimp only at h1);(try dsimp only);omega)
  |(rw[aRK];rw[he.1] at c;have c':true=false:=c;cases c')
theorem aut (x:Int):AQ x=some (decide (0<=x)&&decide (x<6)):=by
 simp only[AQ,apD,bN,cg];by_cases h0:0<=x<;>simp[h0]
instance aOR (x:nV.B):bp (fR x):=by
 unfold fR yJ;try dsimp only
 exact aG (by simp only[bO,pX])
instance aOS (x:sP.B):bp (yK x):=by
 unfold yK F4;try dsimp only
 exact aG (by simp only[bO,pX])
theorem Uo (n:Nat):∀(d:dZ.B) (hd:0<=d.1.2.2/\d.1.2.2<=d.1.2.1/\d.1.2.1<=1999/\d.1.2.1=((d.1.1.1:Nat):Int)/\d.2.1.2.2=n/\n<=1999),Ok (uK d) (λx:kC=>x.2.1.2.2=n):=
 bq (λd:dZ.B=>wt (d.1.2.1-d.1.2.2)) (λd hd=>by
  have hw:wI (d.1.2.2+1)=d.1.2.2+1:=aY;obtain⟨i0,i1,i2,i3,i4,i5⟩:=hd;unfold uJ;try dsimp only
  rw[aK];refine⟨λh=> ?_,λ_=>by rw[av];exact i4⟩;have h:=dq h;rw[bJ,aM,aC];refine⟨by simp only[bk];omega,?_⟩;with_reducible refine ay (Un _ ?_) λe _ he=> ?_
  .show d.2.1.2.2<=1999;omega
  have he:e.2.1=d.2.1.2.2:=he;have b1:(true&&ww (e.2.1*11+0) (d.2.1.2.2*11)&&true)=true:=by rw[he,jM,aM];rfl
  have b2:(true&&wl (0+(e.2.1*11+0)) (d.2.1.2.2*11+0))=true:=by rw[he,oK,bW];omega
  simp only[b1,b2,aC,av,qo,hw];exact⟨⟨by omega,by omega,i2,i3,i4,i5⟩,by omega⟩) (λd hd=>by omega)
theorem aUX (x:me.B)(h:x.1.1<=1999)(k:x.2.1.2.2<=1999):Ok (mf x) (λr:w8=>r.2.1=x.2.1.2.2):=by
 unfold mf xc;show PQ _ _;rw[aM,aM,aC,aC];refine ay (Uo x.2.1.2.2 _ ?_) λd _ hd=> ?_
 .obtain⟨a,b,c,e⟩:=hdN x.1.1 h;exact⟨a,b,c,e,rfl,k⟩
 .rw[av];exact hd
abbrev Bf:=(Int×Int×Int×Int×Int)×Int×Nat×Int
def BR (T:Int)(b c:Bf):Prop:=(∀U,T<=U->b.2.2.2<=U->c.2.2.2<=U)/\c.2.1=b.2.1/\c.2.2.1<=b.2.2.1/\c.1.1=b.1.1/\c.1.2.1=b.1.2.1/\c.1.2.2.1=b.1.2.2.1/\c.1.2.2.2.1=b.1.2.2.2.1/\
 (0<=b.1.2.2.2.2->b.1.2.2.2.2+b.2.2.1<=4611686018427387904->0<=c.1.2.2.2.2/\c.1.2.2.2.2+c.2.2.1=b.1.2.2.2.2+b.2.2.1)
def PR (b c:Bf):Prop:=c.2.1=b.2.1/\c.1.1=wI (b.1.1+1)/\c.1.2.2.2.1=b.1.2.2.2.1/\c.1.2.2.2.2=b.1.2.2.2.2/\c.2.2.2=b.2.2.2/\
 ((c.1.2.1=wI (b.1.2.1+1)/\c.1.2.2.1=b.1.2.2.1/\c.2.2.1=b.2.2.1)∨(c.1.2.1=b.1.2.1/\c.1.2.2.1=b.1.2.2.1/\c.2.2.1=b.2.2.1+1/\((c.2.2.1:Nat):Int)<=b.2.1)∨
  (c.1.2.1=b.1.2.1/\c.1.2.2.1=wI (b.1.2.2.1+1)/\c.2.2.1=b.2.2.1))
def SR (b c:Bf):Prop:=c.2=b.2/\c.1=(wI (b.1.1+1),b.1.2.1,b.1.2.2.1,wI (b.1.2.2.2.1+1),b.1.2.2.2.2)
theorem BR.refl (T:Int)(b:Bf):BR T b b:=⟨λ_ _ h=>h,rfl,cW _,rfl,rfl,rfl,rfl,λh _=>⟨h,rfl⟩⟩
theorem BR.len {T:Int}{b c:Bf}(h:BR T b c):c.2.2.1<=b.2.2.1:=h.2.2.1
theorem BR.mono {T U:Int}{a b:Bf}(t:T<=U)(h:BR T a b):BR U a b:=⟨λV p q=>h.1 V (Wg t p) q,h.2⟩
theorem BR.trans {T:Int}{a b c:Bf}(h:BR T a b)(k:BR T b c):BR T a c:=by
 obtain⟨h0,h1,h2,h3,h4,h5,h6,h7⟩:=h;obtain⟨k0,k1,k2,k3,k4,k5,k6,k7⟩:=k;refine⟨λU p q=>k0 U p (h0 U p q),k1.trans h1,dw k2 h2,k3.trans h3,k4.trans h4,k5.trans h5,k6.trans h6,λp q=> ?_⟩;obtain⟨r,s⟩:=h7 p q;obtain⟨u,v⟩:=k7 r (by omega);exact⟨u,v.trans s⟩
theorem aUY (x:nx.B)(h:x.2.1.b.1<=1000):Ok (lD x) (λr:qT=>match r with
  |.inl e=>PR x.2.1 e
  |.inr e=>PR x.2.1 e.2.1):=by
 unfold lD Cn;try dsimp only
 show PQ _ _;rw[aK];refine⟨λ_=>by rw[av];exact⟨rfl,rfl,rfl,rfl,rfl,.inl ⟨rfl,rfl,rfl⟩⟩,λ_=> ?_⟩;rw[aM,bJ];refine⟨rfl,ay (aR9 (((x.2.1.b.1,true),x.1),x.2.2) (by show x.2.1.b.1<=1999;omega)) λd _ hd=> ?_⟩;rw[bJ];refine⟨rfl,ay (aOO x.2.1.b.1 d.1 hd.1 hd.2 (by omega) _ _ _ _ _ _ _ _ _ _ _ _ _ _ _ _ _ _ _) λd2 _ h2=> ?_⟩;rw[aK];refine⟨λc=> ?_,λ_=> ?_⟩
 .rw[av];have c:=dq c;exact⟨rfl,rfl,rfl,rfl,rfl,.inr (.inl ⟨rfl,rfl,h2,c⟩)⟩
 rw[bJ,aM,bJ];refine⟨by simp only[bk,h2];omega,rfl,ay (aCc d2.1 0 1 (by omega) (by omega) (by rw[h2];omega) _ _ _ _ _ _ _ _ _) λd3 _ h3=> ?_⟩;rw[av];have e:d3.1=x.2.1.b.1:=by rw[h3,h2];simp
 exact⟨rfl,rfl,rfl,rfl,rfl,.inr (.inr ⟨rfl,rfl,e⟩)⟩
theorem VT (x:kh.B):Ok (iK x) (λr:wG=>SR x.1 r):=by
 unfold iK wH;show PQ _ _;rw[av];exact⟨rfl,rfl⟩
theorem aL2 (n:Nat)(p q z:Int)(w:Int×Int×Int×Int×Int):∀(d:fx.B) (hd:0<=d.1.2/\d.1.2<=(n:Int)/\d.2.1.2.2.1=n/\n<=1999/\d.2.1.2.1=z/\d.2.1.1=w/\d.1.1=p/\d.2.1.2.2.2=q),Ok (yE d) (λx:nQ=>match x with
   |.inl e=>0<=e.1.2.1/\e.1.2.1<=(n:Int)/\e.1.2.2.1=n/\e.2.1.2.1=z/\e.2.1.1=w/\e.1.1=p/\e.2.1.2.2=q
   |.inr e=>0<=e.1.2.1/\e.1.2.1<=(n:Int)/\e.1.2.2.1=n/\e.2.1.2.1=z/\e.2.1.1=w/\e.1.1=p/\e.2.1.2.2=q):=
 bq (λd:fx.B=>wt (n-d.1.2)) (λd hd=>by
  have hw:wI (d.1.2+1)=d.1.2+1:=aY;obtain⟨i0,i1,i2,i3,i4,i5,i6⟩:=hd;unfold yD;try dsimp only
  rw[aK];refine⟨λh=> ?_,λ_=>by rw[av];exact⟨i0,i1,i2,i4,i5,i6⟩⟩;have h:=dq h;rw[cF] at h;rw[bJ,aK];refine⟨by simp only[bk];omega,λ_=> ?_,λ_=>by rw[av];exact⟨i0,i1,i2,i4,i5,i6⟩⟩;rw[av,qo];simp only[hw];exact⟨⟨by omega,by omega,i2,i3,i4,i5,i6⟩,by omega⟩) (λd hd=>by omega)
theorem aUZ (x:ny.B)(h:x.2.1.2.2.1<=1000):Ok (lE x) (λr:wo=>r.1<=x.2.1.2.2.1/\BR x.1 x.2.1 r.2.1):=by
 unfold lE Co;try dsimp only
 show PQ _ _;rw[aM,bJ];refine⟨rfl,ay (aL2 x.2.1.2.2.1 x.1 x.2.1.2.2.2 x.2.1.2.1 x.2.1.1 _ ⟨by dsimp only;omega,by dsimp only;omega,rfl,by omega,rfl,rfl,rfl,rfl⟩) λy _ hy=> ?_⟩;rw[rC];constructor
 all_goals
  rintro d rfl
  obtain⟨i0,i1,i2,i4,i5,i6,i7⟩:=hy;rw[bJ];refine⟨by simp only[aer];omega,?_⟩;rw[aM,bJ];refine⟨rfl,ay (aSa (wt d.1.2.1) (by omega) _ _ _ _ _ _ _ _ _ _) λd1 _ h1=> ?_⟩;rw[aM,bJ];refine⟨rfl,ay (aCc d.1.2.2.1 0 d.1.2.1 (by omega) i0 (by rw[i2];exact i1) _ _ _ _ _ _ _ _ _) λd2 _ h2=> ?_⟩;rw[av];have h2:d2.1=x.2.1.2.2.1-wt d.1.2.1:=by rw[h2,i2];simp only[Int.toNat_zero];omega
  refine⟨?_,λU p q=> ?_,i4,?_,c8 (λz=>z.1) i5,c8 (λz=>z.2.1) i5,c8 (λz=>z.2.2.1) i5,c8 (λz=>z.2.2.2.1) i5,λp q=> ?_⟩
  .show d1.1<=_;rw[h1];omega
  .show(if d.1.1>d.2.1.2.2 then d.1.1 else d.2.1.2.2)<=U;rw[i6,i7];split<;>assumption
  .show d2.1<=_;rw[h2];omega
  .have e:d.2.1.1.2.2.2.2=x.2.1.1.2.2.2.2:=c8 (λz=>z.2.2.2.2) i5;have hw:wI (d.2.1.1.2.2.2.2+d.1.2.1)=x.2.1.1.2.2.2.2+d.1.2.1:=by rw[e];exact dS (by omega) (by omega)
   show 0<=wI (d.2.1.1.2.2.2.2+d.1.2.1)/\wI (d.2.1.1.2.2.2.2+d.1.2.1)+((d2.1:Nat):Int)=_;rw[hw,h2];omega
structure STS {α:Type}(slt:α->α->Bool):Prop where
 irr:∀a,slt a a=false
 trans:∀a b c,slt a b=true->slt b c=true->slt a c=true
 tri:∀a b,slt a b=false->slt b a=false->a=b
def EJ (a b:Int):Bool:=decide (a<b)
def akt {α β:Type}[BEq α](l1:α->α->Bool)(l2:β->β->Bool)(a b:α×β):Bool:=bif a.1!=b.1 then l1 a.1 b.1 else l2 a.2 b.2
theorem STS.int:STS EJ:=by
 refine⟨λa=> ?_,λa b c h1 h2=> ?_,λa b h1 h2=> ?_⟩
 .exact cG (by omega)
 .have h1:=dq h1;have h2:=dq h2;exact dA (by omega)
 .have h1:=qk h1;have h2:=qk h2;omega
theorem STS.prod {α β:Type}[BEq α][LawfulBEq α]{l1:α->α->Bool}{l2:β->β->Bool}(h1:STS l1)(h2:STS l2):STS (akt l1 l2):=by
 refine⟨λa=> ?_,λa b c hab hbc=> ?_,λa b hab hba=> ?_⟩
 .simp[akt,h2.irr]
 .unfold akt at*;cases e1:a.1!=b.1<;>cases e2:b.1!=c.1<;>simp only[e1,e2,bn,bA] at hab hbc
  .have q1:a.1=b.1:=by simpa using e1
   have q2:b.1=c.1:=by simpa using e2
   have:(a.1!=c.1)=false:=by simp[q1,q2]
   rw[this];exact h2.trans _ _ _ hab hbc
  .have q1:a.1=b.1:=by simpa using e1
   rw[q1,e2];exact hbc
  .have q2:b.1=c.1:=by simpa using e2
   rw[<-q2,e1];exact hab
  .have h:=h1.trans _ _ _ hab hbc
   have:(a.1!=c.1)=true:=by
    cases hh:a.1!=c.1
    .have q:a.1=c.1:=by simpa using hh
     rw[q,h1.irr] at h;cases h
    .rfl
   rw[this];exact h
 .unfold akt at*;cases e1:a.1!=b.1
  .have q1:a.1=b.1:=by simpa using e1
   have e2:(b.1!=a.1)=false:=by simp[q1]
   simp only[e1,e2,bA] at hab hba;exact Prod.ext q1 (h2.tri _ _ hab hba)
  .have e2:(b.1!=a.1)=true:=by
    simp only[bne_iff_ne,ne_eq] at e1 ⊢;exact λh=>e1 h.symm
   simp only[e1,e2,bn] at hab hba;have:=h1.tri _ _ hab hba;simp[this] at e1
abbrev Sp:=Int×Int×Int×Int×Int×Int×Int×Int×Int
def slt:Sp->Sp->Bool:=akt EJ (akt EJ (akt EJ (akt EJ (akt EJ (akt EJ (akt EJ (akt EJ EJ)))))))
theorem aGK:STS slt:=STS.int.prod (STS.int.prod (STS.int.prod (STS.int.prod (STS.int.prod (STS.int.prod (STS.int.prod (STS.int.prod STS.int)))))))
theorem aOT (a:Sp):slt a a=false:=aGK.irr a
theorem aGL {a b c:Sp}(h1:slt a b=true)(h2:slt b c=true):slt a c=true:=aGK.trans a b c h1 h2
theorem aOU {a b:Sp}(h1:slt a b=false)(h2:slt b a=false):a=b:=aGK.tri a b h1 h2
theorem aSc {a b:Sp}(h1:slt a b=true):slt b a=false:=by
 cases h:slt b a
 .rfl
 .have:=aGL h1 h;rw[aOT] at this;cases this
theorem aoQ {a b c:Sp}(h1:slt b a=false)(h2:slt c b=false):slt c a=false:=by
 cases h:slt c a
 .rfl
 .cases hb:slt c b
  .cases hbc:slt b c
   .have:=aOU hbc hb;subst this;rw[h] at h1;cases h1
   .have:=aGL hbc h;rw[this] at h1;cases h1
  .rw[hb] at h2;cases h2
def sIn (s:Sp):List Sp->List Sp
 | []=>[s]
 |a::l=>bif slt a s then a::sIn s l else s::a::l
def kM:List Sp->Prop:=List.Pairwise λa b=>slt b a=false
theorem aJB (s:Sp):∀l x,x∈sIn s l↔x=s∨x∈l
 | [],x=>by simp[sIn]
 |a::l,x=>by
  unfold sIn;cases slt a s
  .simp
  .simp only[bn,SN,aJB s l x];constructor
   .rintro (h|h|h)
    .exact .inr (.inl h)
    .exact .inl h
    .exact .inr (.inr h)
   .rintro (h|h|h)
    .exact .inr (.inl h)
    .exact .inl h
    .exact .inr (.inr h)
theorem aJC (s:Sp):∀l,kM l->kM (sIn s l)
 | [],_=>List.pairwise_singleton _ _
 |a::l,h=>by
  have h:=List.pairwise_cons.1 h;unfold sIn;cases e:slt a s
  .refine List.pairwise_cons.2 ⟨λb hb=> ?_,List.pairwise_cons.2 h⟩;rcases SN.1 hb with rfl|hb
   .exact e
   .exact aoQ e (h.1 b hb)
  .refine List.pairwise_cons.2 ⟨λb hb=> ?_,aJC s l h.2⟩;rcases(aJB s l b).1 hb with rfl|hb
   .exact aSc e
   .exact h.1 b hb
theorem aOV (s:Sp):∀(l:List Sp) (p:Nat),p<=l.length->(∀j x,j<p->l[j]? =some x->slt x s=true)->(∀j x,p<=j->l[j]? =some x->slt x s=false)->l.take p++s::l.drop p=sIn s l
 | [],p,hp,_,_=>by
  have:p=0:=by simpa using hp
  subst this;rfl
 |a::l,0,_,_,h2=>by
  have:=h2 0 a (cW _) rfl;simp[sIn,this]
 |a::l,p+1,hp,h1,h2=>by
  have h0:=h1 0 a (by omega) rfl;have:=aOV s l p (by simpa using hp) (λj x hj hx=>h1 (j+1) x (by omega) (by simpa using hx)) (λj x hj hx=>h2 (j+1) x (by omega) (by simpa using hx));simp[sIn,h0,<-this]
def fS (n:Nat)(G:Nat->Sp):List Sp:=(rx n).map G
theorem Np (n:Nat)(G:Nat->Sp):(fS n G).length=n:=by simp[fS]
theorem apE {n j:Nat}(G:Nat->Sp)(h:j<n):(fS n G)[j]? =some (G j):=by simp[fS,h]
theorem Zk (n j:Nat)(G:Nat->Sp):(fS n G)[j]? =if j<n then some (G j) else none:=by
 split
 .exact apE G ‹_›
 .rw[DS];rw[Np];omega
theorem aJD {n:Nat}{G:Nat->Sp}(h:kM (fS n G)){i j:Nat}(hij:i<=j)(hj:j<n):slt (G j) (G i)=false:=by
 rcases Nat.eq_or_lt_of_le hij with rfl|mH
 .exact aOT _
 .have:=List.pairwise_iff_getElem.1 h i j (by rw[Np];omega) (by rw[Np];omega) mH;simpa[fS] using this
theorem aU0 (n i:Nat)(hi:i<=n)(G H:Nat->Sp)(s:Sp)(hH:∀j,H j=cond (v9 j i) (G j) (cond (ww j i) s (G (j-1)))):fS (n+1) H=(fS n G).take i++s::(fS n G).drop i:=by
 refine List.ext_getElem? λj=> ?_;rw[Zk,List.getElem?_append];have hl:((fS n G).take i).length=i:=by rw[List.length_take,Np];omega
 rw[hl];by_cases h1:j<i
 .rw[if_pos (show j<n+1 by omega),if_pos h1,Wf,if_pos h1,apE G (show j<n by omega),hH,show v9 j i=true from rZ.2 h1,bn]
 .rw[if_neg h1,hH,show v9 j i=false from Wm (by omega),bA];by_cases h2:j=i
  .subst h2;rw[if_pos (by omega),show ww j j=true from SO j,bn,Nat.sub_self];rfl
  .rw[show ww j i=false from beq_false h2,bA];obtain⟨m,hm⟩:∃m,j-i=m+1:=⟨j-i-1,by omega⟩;rw[hm,List.getElem?_cons_succ,Lp,Zk,show i+m=j-1 by omega];by_cases h3:j<n+1
   .rw[if_pos h3,if_pos (by omega)]
   .rw[if_neg h3,if_neg (by omega)]
theorem aU1 (n k:Nat)(hk:k<=n)(G H:Nat->Sp)(hH:∀j,H j=G (j+(k-0))):fS (0+(n-k)) H=(fS n G).drop k:=by
 refine List.ext_getElem? λj=> ?_;rw[Lp,Zk,Zk,hH,Nat.sub_zero,Nat.add_comm j k];by_cases h:j<0+(n-k)
 .rw[if_pos h,if_pos (by omega)]
 .rw[if_neg h,if_neg (by omega)]
theorem aGM (s:Sp):∀l,(sIn s l).Perm (s::l)
 | []=>List.Perm.refl _
 |a::l=>by
  unfold sIn;cases slt a s
  .exact List.Perm.refl _
  .exact((aGM s l).cons a).trans (List.Perm.swap s a l)
def fT (n t j:Nat):Nat:=(n-1-j+t)%n
theorem aIg (n t:Nat)(hn:0<n):((rx n).map (fT n t)).Perm (rx n):=by
 have ht0:t%n<n:=Nat.mod_lt _ hn
 have e:(rx n).map (fT n t)=(rx (t%n)).reverse++(List.range' (t%n) (n-t%n)).reverse:=by
  refine List.ext_getElem? λj=> ?_
  have hq:fT n t j=(n-1-j+t%n)%n:=by
   unfold fT;rw[Nat.add_mod,Nat.add_mod (n-1-j) (t%n),Nat.mod_mod]
  generalize t%n=s at*
  rw[Af,List.getElem?_append,List.length_reverse,List.length_range];by_cases h1:j<n
  .rw[List.getElem?_range h1];by_cases h2:j<s
   .rw[if_pos h2,List.getElem?_reverse (by rw[List.length_range];exact h2),List.length_range,List.getElem?_range (by omega)];simp only[Lt,gS];rw[hq,show n-1-j+s=n+(s-1-j) by omega,Nat.add_mod_left,alv (by omega)]
   .rw[if_neg h2,List.getElem?_reverse (by rw[List.length_range'];omega),List.length_range',List.getElem?_range' (by omega)];simp only[Lt,gS];rw[hq,alv (by omega)];omega
  .rw[DS (by rw[List.length_range];omega),if_neg (by omega),DS (by rw[List.length_reverse,List.length_range'];omega)];rfl
 rw[e];refine((List.reverse_perm _).append (List.reverse_perm _)).trans ?_;rw[List.range_eq_range',List.range_eq_range',show List.range' (t%n) (n-t%n)=List.range' (0+t%n) (n-t%n) by rw[eX],List.range'_append_1,show t%n+(n-t%n)=n by omega]
theorem aSd {a b c:Sp}(h1:slt b a=false)(h2:slt b c=true):slt a c=true:=by
 cases h:slt a c
 .have:=aoQ (a:=c) (b:=a) (c:=b) h h1;rw[this] at h2;cases h2
 .rfl
abbrev Rw:=(Nat->Int)×(Nat->Int)×(Nat->Int)×(Nat->Int)×(Nat->Int)×(Nat->Int)×(Nat->Int)×(Nat->Int)×(Nat->Int)
def dQ (R:Rw)(j:Nat):Sp:=(R.1 j,R.2.1 j,R.b.1 j,R.b.2.1 j,R.c.1 j,R.c.2.1 j,R.c.b.1 j,R.c.b.2.1 j,R.c.b.2.2 j)
theorem aY2 {R S:Rw}(h:∀j,dQ R j=dQ S j):R=S:=by
 have e:∀f:Sp->Int,(λj=>f (dQ R j))=λj=>f (dQ S j):=λf=>funext λj=>c8 f (h j)
 have e0:R.1=S.1:=e (λs=>s.1);have e1:R.2.1=S.2.1:=e (λs=>s.2.1);have e2:R.b.1=S.b.1:=e (λs=>s.b.1);have e3:R.b.2.1=S.b.2.1:=e (λs=>s.b.2.1);have e4:R.c.1=S.c.1:=e (λs=>s.c.1);have e5:R.c.2.1=S.c.2.1:=e (λs=>s.c.2.1);have e6:R.c.b.1=S.c.b.1:=e (λs=>s.c.b.1);have e7:R.c.b.2.1=S.c.b.2.1:=e (λs=>s.c.b.2.1);have e8:R.c.b.2.2=S.c.b.2.2:=e (λs=>s.c.b.2.2);obtain⟨R0,R1,R2,R3,R4,R5,R6,R7,R8⟩:=R;obtain⟨S0,S1,S2,S3,S4,S5,S6,S7,S8⟩:=S;dsimp only at e0 e1 e2 e3 e4 e5 e6 e7 e8
 subst e0 e1 e2 e3 e4 e5 e6 e7 e8;rfl
def InR (p:Nat)(R:Rw)(s:Sp)(S:Rw):Prop:=∀j,dQ S j=cond (v9 j p) (dQ R j) (cond (ww j p) s (dQ R (j-1)))
theorem aU2 {n:Nat}{p:Int}{R V:Rw}{w0 w1:Bool}{d:eP}(h:cR n p (R.1) (R.2.1) (R.b.1) (R.b.2.1) (R.c.1) (R.c.2.1) (R.c.b.1) (R.c.b.2.1) (R.c.b.2.2) (V.1) (V.2.1) (V.b.1) (V.b.2.1) (V.c.1) (V.c.2.1) (V.c.b.1) (V.c.b.2.1) (V.c.b.2.2) 1 w0 w1=some d):d.1=n+1/\wt p<=n/\(n+1)*72<=140737488355328/\InR (wt p) R (dQ V 0) d.2:=by
 unfold cR at h;obtain⟨c,e⟩:=Wv h;rw[cj,cj,cj,cj] at c;rw[<-e];refine⟨rfl,JK c.b.2.1,JK c.b.2.2,λj=> ?_⟩;show dQ (wN (wt p) R.1 V.1,wN (wt p) R.2.1 V.2.1,wN (wt p) R.b.1 V.b.1,wN (wt p) R.b.2.1 V.b.2.1,wN (wt p) R.c.1 V.c.1,wN (wt p) R.c.2.1 V.c.2.1,wN (wt p) R.c.b.1 V.c.b.1,wN (wt p) R.c.b.2.1 V.c.b.2.1,wN (wt p) R.c.b.2.2 V.c.b.2.2) j=_;unfold dQ wN;dsimp only;cases v9 j (wt p)
 .cases ww j (wt p)<;>rfl
 .rfl
theorem aJE {n:Nat}{p:Int}{R:Rw}{w:Bool}{d:eQ}(h:bS n 0 p (R.1) (R.2.1) (R.b.1) (R.b.2.1) (R.c.1) (R.c.2.1) (R.c.b.1) (R.c.b.2.1) (R.c.b.2.2) w=some d):d.1=n-wt p/\wt p<=n/\∀j,dQ d.2 j=dQ R (j+wt p):=by
 unfold bS at h;obtain⟨c,e⟩:=Wv h;rw[cj,cj,cj,cj] at c;rw[<-e];refine⟨by show wt 0+(n-wt p)=_;omega,JK c.b.2.2,λj=> ?_⟩;rfl
def sg3 (x y:Int):Int:=if x<y then -1 else if x>y then 1 else 0
theorem aTx (x y:Int):ig x y=some (sg3 x y):=by
 have e:∀z:Int,(z !=z)=false:=λz=>by simp
 have e2:∀z:Int,qR z=some false:=λz=>by
  show some (z !=z)=some false;rw[e]
 unfold ig yC sg3;rw[e2,e2,Pg.cq,bM,Pg.cq,bM,Pg.bN,bA,Pg.bN,bA];by_cases h1:x<y
 .rw[dA h1,if_pos h1];rfl
 .by_cases h2:x>y
  .rw[cG h1,dA h2,if_neg h1,if_pos h2];rfl
  .rw[cG h1,cG h2,if_neg h1,if_neg h2];rfl
def sg8 (g h:Nat->Int):Nat->Nat->Int
 |0,_=>0
 |m+1,i=>bif sg3 (g i) (h i)!=0 then sg3 (g i) (h i) else sg8 g h m (i+1)
theorem aOW (g h:Nat->Int):∀(d:cI.B) (hd:∃i:Nat,i<=8/\d.1.b.2.2=i/\d.1.b.2.1=8/\d.1.1.1=8/\d.1.2.1.1=8/\d.1.b.1.1=8/\d.2.1=g/\d.2.2=h/\sg8 g h 8 0=sg8 g h (8-i) i),Po (kW d) (λx:fG=>match x with|.inl e=>e.1=sg8 g h 8 0|.inr e=>sg8 g h 8 0=0/\e.1.1.1=8/\e.1.2.1.1=8):=
 aFz (λd hd=>by
  obtain⟨i,i8,e0,e1,e2,e3,e4,e5,e6,e7⟩:=hd;unfold kV;dsimp only;rw[e0,e1,e3,e5,e6];rw[ot];refine⟨λc=> ?_,λc=> ?_⟩
  .have c:=dq c;rw[Ao];intro _;rw[ot];refine⟨λq=> ?_,λ_=> ?_⟩
   .have q:=dq q;rw[cF] at q;omega
   rw[Ao];intro _;rw[aTx,Ep];intro r hr;have hr:=Om hr;have ti:wt ((i:Nat):Int)=i:=Hr i;rw[ti] at hr;obtain⟨m,hm⟩:∃m,8-i=m+1:=⟨7-i,by omega⟩;rw[hm] at e7;rw[ot];refine⟨λq=> ?_,λq=> ?_⟩
   .rw[kU];show r=_;rw[e7,sg8,hr,q];rfl
   .rw[kU];have hw:wI ((i:Int)+1)=((i+1:Nat):Int):=by rw[aY (by omega) (by omega)];omega
    refine⟨i+1,by omega,hw,by first|rfl|exact e1,e2,e3,e4,by first|rfl|exact e5,by first|rfl|exact e6,?_⟩;rw[e7,sg8,hr,q,show 8-(i+1)=m by omega];rfl
  .have c:=qk c;rw[kU];refine⟨?_,e2,e3⟩;rw[e7,show 8-i=0 by omega];rfl)
theorem aU3 (g h:Nat->Int):Po (dP 8 8 g h false false) (λr=>r=sg8 g h 8 0):=by
 unfold dP mB;show PW _ _;rw[Ao];intro _;rw[Ao];intro _;refine Ap (aOW g h _ ⟨0,by omega,rfl,rfl,rfl,rfl,rfl,rfl,rfl,rfl⟩) λy _ hy=> ?_;rw[avp];refine⟨λa e=> ?_,λa e=> ?_⟩<;>subst e
 .rw[kU];exact hy
 .obtain⟨h0,h1,h2⟩:=hy;rw[ot];refine⟨λc=> ?_,λ_=>by rw[kU];exact h0.symm⟩;have c:=dq c;rw[h1,h2] at c;exact absurd c (Int.lt_irrefl _)
theorem aGN (x y r:Int)(b:Bool)(h:decide (r<0)=b):decide ((bif sg3 x y !=0 then sg3 x y else r)<0)=(bif x !=y then EJ x y else b):=by
 unfold sg3 EJ;by_cases h1:x<y
 .have:x≠y:=by omega
  simp[h1,this]
 .by_cases h2:x>y
  .have:x≠y:=by omega
   simp[h1,h2,this]
  .have:x=y:=by omega
   subst this;simp[h]
theorem aY3 (x y:Int):decide ((bif sg3 x y !=0 then sg3 x y else 0)<0)=EJ x y:=by
 rw[aGN x y 0 false rfl];by_cases h:x=y
 .subst h;simp[EJ]
 .have:(x !=y)=true:=by simpa using h
  rw[this,bn]
theorem PU (g h:Nat->Int)(m i:Nat):decide (sg8 g h (m+1) i<0)=bif g i !=h i then EJ (g i) (h i) else decide (sg8 g h m (i+1)<0):=aGN (g i) (h i) _ _ rfl
theorem aU4 (g h:Nat->Int)(i:Nat):decide (sg8 g h 1 i<0)=EJ (g i) (h i):=aY3 (g i) (h i)
theorem a0B (g h:Nat->Int):decide (sg8 g h 8 0<0)=bif g 0!=h 0 then EJ (g 0) (h 0) else bif g 1!=h 1 then EJ (g 1) (h 1) else bif g 2!=h 2 then EJ (g 2) (h 2) else bif g 3!=h 3 then EJ (g 3) (h 3) else bif g 4!=h 4 then EJ (g 4) (h 4) else bif g 5!=h 5 then EJ (g 5) (h 5) else bif g 6!=h 6 then EJ (g 6) (h 6) else EJ (g 7) (h 7):=by
 rw[PU,PU,PU,PU,PU,PU,PU,aU4]
theorem aOX (x:xD.B):Po (nk x) (λr=>decide (r<0)=slt x.1 x.2):=by
 unfold nk Jt;try dsimp only
 show PW _ _;rw[aTx,Ep];intro r hr;have hr:=Om hr
 have fin:∀q:Int,q=(bif sg3 x.1.1 x.2.1!=0 then sg3 x.1.1 x.2.1 else sg8 (λj=>bif ww j 7 then x.1.c.b.2.2 else bif ww j 6 then x.1.c.b.2.1 else bif ww j 5 then x.1.c.b.1 else bif ww j 4 then x.1.c.2.1 else bif ww j 3 then x.1.c.1 else bif ww j 2 then x.1.b.2.1 else bif ww j 1 then x.1.b.1 else bif ww j 0 then x.1.2.1 else x.1.2.1) (λj=>bif ww j 7 then x.d.2 else bif ww j 6 then x.d.1 else bif ww j 5 then x.c.b.2.1 else bif ww j 4 then x.c.b.1 else bif ww j 3 then x.c.2.1 else bif ww j 2 then x.c.1 else bif ww j 1 then x.b.2.1 else bif ww j 0 then x.b.1 else x.b.1) 8 0)->decide (q<0)=slt x.1 x.2:=λq e=>by
  rw[e];exact aGN _ _ _ _ (a0B _ _)
 rw[ot];refine⟨λc=> ?_,λc=> ?_⟩
 .rw[kU];exact fin r (by rw[hr,c];rfl)
 .refine Ap (aU3 _ _) λq _ hq=> ?_;rw[kU];exact fin q (by rw[hr,c];exact hq)
def aY4 (p:Nat)(n:Nat)(R:Rw)(s:Sp):Prop:=(∀k,k<p->k<n->slt (dQ R k) s=true)/\∀k,p<=k->k<n->slt (dQ R k) s=false
theorem aU5 (n:Nat)(hn:n<=4000000000000)(R:Rw)(s:Sp)(hs:kM (fS n (dQ R))):∀(d:aO.B) (hd:0<=d.1.2.2.1/\d.1.2.2.1<=d.1.2.2.2/\d.1.2.2.2<=(n:Int)/\d.1.1.1=n/\d.2=(R,s)/\(∀k,k<wt d.1.2.2.1->k<n->slt (dQ R k) s=true)/\∀k,wt d.1.2.2.2<=k->k<n->slt (dQ R k) s=false),Po (cO d) (λx:bB=>0<=x.1.2.2.1/\x.1.2.2.1<=(n:Int)/\aY4 (wt x.1.2.2.1) n R s):=
 aFz (λd hd=>by
  obtain⟨i0,ij,jn,en,eR,hlo,hhi⟩:=hd;have q1:wI (d.1.2.2.1+d.1.2.2.2)=d.1.2.2.1+d.1.2.2.2:=dS;have q2:wU (d.1.2.2.1+d.1.2.2.2)=d.1.2.2.1+d.1.2.2.2:=by show IntKind.wrap .u64 _=_;rw[wrap_u64];omega
  have q3:Int.fdiv (d.1.2.2.1+d.1.2.2.2) 2=(d.1.2.2.1+d.1.2.2.2)/2:=Int.fdiv_eq_ediv_of_nonneg _ (by omega);have q4:wI ((d.1.2.2.1+d.1.2.2.2)/2)=(d.1.2.2.1+d.1.2.2.2)/2:=dS;have q5:wI ((d.1.2.2.1+d.1.2.2.2)/2+1)=(d.1.2.2.1+d.1.2.2.2)/2+1:=dS;unfold cN;simp only[q1,q2,q3,q4,q5];rw[ot];refine⟨λc=> ?_,λc=> ?_⟩
  .have c:=dq c;rw[Ao];intro r0;rw[bk,en] at r0;refine Ap (aOX _) λr _ hr=> ?_;have e1:d.2.1=R:=c8 (λz=>z.1) eR;have e2:d.2.2=s:=c8 (λz=>z.2) eR;have hr:decide (r<0)=slt (dQ d.2.1 (wt ((d.1.2.2.1+d.1.2.2.2)/2))) d.2.2:=hr;rw[e1,e2] at hr;obtain⟨m,hm⟩:∃m:Nat,(d.1.2.2.1+d.1.2.2.2)/2=(m:Int):=⟨wt ((d.1.2.2.1+d.1.2.2.2)/2),by omega⟩;rw[hm] at hr;rw[hm] at q5;have tm:wt ((m:Nat):Int)=m:=Hr m;rw[tm] at hr;rw[ot];refine⟨λq=> ?_,λq=> ?_⟩
   .rw[kU];rw[q] at hr;rw[hm];refine⟨by show(0:Int)<=(m:Int)+1;omega,by show(m:Int)+1<=d.1.2.2.2;omega,jn,en,eR,λk hk hkn=> ?_,hhi⟩;have hk:k<wt ((m:Int)+1):=hk;exact aSd (aJD hs (i:=k) (j:=m) (by omega) (by omega)) hr.symm
   .rw[kU];rw[q] at hr;rw[hm];refine⟨i0,by show d.1.2.2.1<=(m:Int);omega,by show(m:Int)<=(n:Int);omega,en,eR,hlo,λk hk hkn=> ?_⟩;have hk:wt (m:Int)<=k:=hk;rw[tm] at hk;exact aoQ (b:=dQ R m) hr.symm (aJD hs (i:=m) (j:=k) hk hkn)
  .have c:=qk c;rw[kU];have e:d.1.2.2.1=d.1.2.2.2:=by omega
   refine⟨i0,by show d.1.2.2.1<=(n:Int);omega,hlo,λk hk hkn=>hhi k (by rw[<-e];exact hk) hkn⟩)
theorem aSe (x:bG.B)(hn:x.1.1.1<=4000000000000)(hs:kM (fS x.1.1.1 (dQ x.2))):Po (bm x) (λr:cX=>0<=r.1/\r.1<=(x.1.1.1:Int)/\aY4 (wt r.1) x.1.1.1 x.2 x.1.2):=by
 unfold bm cY;try dsimp only
 show PW _ _;rw[Ao];intro _;refine Ap (aU5 x.1.1.1 hn x.2 x.1.2 hs _ ⟨eZ 0,(show(0:Int)<=wn x.1.1.1 by rw[cF];omega),(show wn x.1.1.1<=(x.1.1.1:Int) by rw[cF];omega),rfl,rfl,λk hk=>absurd hk (Nat.not_lt_zero k),λk hk hkn=>absurd hkn (Nat.not_lt.mpr (show x.1.1.1<=k from hk))⟩) λd _ hd=> ?_;rw[ot];refine⟨λ_=> ?_,λ_=>by rw[kU];exact hd⟩;rw[Ao];intro _;rw[Ep];intro _ _;rw[kU];exact hd
theorem aOY {p n:Nat}{R S:Rw}{s:Sp}(hp:p<=n)(c:aY4 p n R s)(h:InR p R s S):fS (n+1) (dQ S)=sIn s (fS n (dQ R)):=by
 rw[aU0 n p hp (dQ R) (dQ S) s h];refine aOV s (fS n (dQ R)) p (by rw[Np];exact hp) (λj x hj hx=> ?_) (λj x hj hx=> ?_)
 .rw[apE (dQ R) (show j<n by omega)] at hx;rw[<-Om hx];exact c.1 j hj (by omega)
 .rw[Zk] at hx;split at hx
  .rw[<-Om hx];exact c.2 j hj (by omega)
  .cases hx
theorem aU6 {p n:Nat}{R S:Rw}{s:Sp}(hp:p<=n)(h:InR p R s S)(j:Nat):dQ S (n+1+j)=dQ R (n+j):=by
 have hb:v9 (n+1+j) p=false:=by
  cases e:v9 (n+1+j) p
  .rfl
  .have:=JK e;omega
 have hc:ww (n+1+j) p=false:=by
  cases e:ww (n+1+j) p
  .rfl
  .have:=mO e;omega
 rw[h,hb,hc,show n+1+j-1=n+j by omega];rfl
theorem aCd {k n:Nat}{R S:Rw}(hk:k<=n)(h:∀j,dQ S j=dQ R (j+k))(hs:kM (fS n (dQ R))):kM (fS (n-k) (dQ S)):=by
 have e:=aU1 n k hk (dQ R) (dQ S) h;rw[eX] at e;rw[e];exact List.Pairwise.sublist (List.drop_sublist k _) hs
theorem aOZ (x:nx.B)(hs:kM (fS x.2.1.2.2.1 (dQ x.2.2))):Po (lD x) (λr:qT=>match r with
  |.inl e=>x.1.1<=x.2.1.2.2.2/\(e.1,e.2)=((wI (x.2.1.1.1+1),wI (x.2.1.1.2.1+1),x.2.1.1.2.2),x.2.1.2)
  |.inr e=>kM (fS e.2.1.2.2.1 (dQ e.2.2))/\¬x.1.1<=x.2.1.2.2.2/\((e.2.1=((wI (x.2.1.1.1+1),x.2.1.1.2),x.2.1.2.1,x.2.1.2.2.1+1,x.2.1.2.2.2)/\fS (x.2.1.2.2.1+1) (dQ e.2.2)=sIn x.1 (fS x.2.1.2.2.1 (dQ x.2.2))/\∀j,dQ e.2.2 (x.2.1.2.2.1+1+j)=dQ x.2.2 (x.2.1.2.2.1+j))∨e.2.1.1.2.2.1=wI (x.2.1.1.2.2.1+1))):=by
 unfold lD Cn;try dsimp only
 show PW _ _;try dsimp only
 rw[ot];refine⟨λc=> ?_,λc=> ?_⟩
 .rw[kU];exact⟨dq c,rfl⟩
 have c:=qk c;rw[Ao];intro _;rw[Ep];intro p hp;rw[Ao];intro _;rw[Ep];intro q hq
 obtain⟨d1,d2,d3,d4⟩:=aU2 (R:=x.2.2) (V:=(λ_=>x.1.1,λ_=>x.1.2.1,λ_=>x.1.2.2.1,λ_=>x.1.2.2.2.1,λ_=>x.1.2.2.2.2.1,λ_=>x.1.2.2.2.2.2.1,λ_=>x.1.2.2.2.2.2.2.1,λ_=>x.1.2.2.2.2.2.2.2.1,λ_=>x.1.2.2.2.2.2.2.2.2)) ((by
  rw[<-hq];have e:∀(y:Int),(λj=>bif ww j 0 then y else y)=λ_:Nat=>y:=λy=>funext λj=>by cases ww j 0<;>rfl
  rw[e,e,e,e,e,e,e,e,e]):_=some q)
 obtain⟨p0,p1,cut⟩:=aSe (((x.2.1.2.2.1,true),x.1),x.2.2) (by show x.2.1.2.2.1<=4000000000000;omega) hs p hp;have key:fS (x.2.1.2.2.1+1) (dQ q.2)=sIn x.1 (fS x.2.1.2.2.1 (dQ x.2.2)):=aOY d2 cut d4;have Zl:kM (fS (x.2.1.2.2.1+1) (dQ q.2)):=by rw[key];exact aJC _ _ hs
 rw[ot];refine⟨λ_=> ?_,λ_=> ?_⟩
 .rw[kU];refine⟨by show kM (fS q.1 (dQ q.2));rw[d1];exact Zl,c,.inl ⟨?_,key,aU6 d2 d4⟩⟩;show((wI (x.2.1.1.1+1),x.2.1.1.2),x.2.1.2.1,q.1,x.2.1.2.2.2)=_;rw[d1]
 .rw[Ao];intro _;rw[Ao];intro _;rw[Ep];intro z hz;rw[kU];obtain⟨g1,g2,g3⟩:=aJE (R:=q.2) hz;refine⟨?_,c,.inr rfl⟩;show kM (fS z.1 (dQ z.2));rw[g1];exact aCd (k:=1) (by rw[d1];omega) g3 (by rw[d1];exact Zl)
theorem a2g (w:fx.B):∀(d:fx.B) (hd:d.2=w.2),Po (yE d) (λx:nQ=>match x with|.inl e=>e.1.b.1=w.2.1.b.1/\e.2.2=w.2.2|.inr e=>e.1.b.1=w.2.1.b.1/\e.2.2=w.2.2):=
 aFz (λd hd=>by
  have e2:d.2.1.b.1=w.2.1.b.1:=c8 (λz=>z.1.b.1) hd;have e3:d.2.2=w.2.2:=c8 (λz=>z.2) hd;unfold yD;dsimp only
  repeat' (first
   |(rw[agT];exact trivial)
   |(rw[ot];refine⟨λ_=> ?_,λ_=> ?_⟩)
   |rw[kU])
  all_goals first
   |exact hd
   |exact⟨e2,e3⟩)
theorem aY5 (x:ny.B)(hs:kM (fS x.2.1.b.1 (dQ x.2.2))):Po (lE x) (λe:wo=>kM (fS e.2.1.b.1 (dQ e.b.2))):=by
 unfold lE Co;try dsimp only
 show PW _ _;try dsimp only
 rw[Ao];intro _;refine Ap (a2g ((x.1,0),x.2) _ rfl) λy _ hy=> ?_;rw[avp];refine⟨λa ha=> ?_,λa ha=> ?_⟩<;>subst ha
 all_goals
  obtain⟨k1,k2⟩:=hy;have k1:a.1.b.1=x.2.1.b.1:=k1;have k2:a.2.2=x.2.2:=k2;rw[Ao];intro _
  repeat' (first
   |(rw[agT];exact trivial)
   |(rw[ot];refine⟨λ_=> ?_,λ_=> ?_⟩)
   |(rw[Ep];intro z hz))
  rw[kU];obtain⟨g1,g2,g3⟩:=aJE (R:=a.2.2) hz;show kM (fS z.1 (dQ z.2));rw[g1];exact aCd g2 g3 (by rw[k1,k2];exact hs)
open Go
class Mo {D:Type} (x:Option D) (R:outParam (D->Prop)):Prop where
 h:Po x R
section
variable {δ D A B:Type} {Q:δ->Prop}
theorem aO0 {d:δ}(h:Q d):PW (.ret d) Q:=by rw[kU];exact h
theorem a0C:PW (.no:Pg δ) Q:=by rw[agT];trivial
theorem aO1 {b:Bool}{x y:Pg δ}(h:PW x Q)(k:PW y Q):PW (.ae b x y) Q:=by rw[ot];exact⟨λ_=>h,λ_=>k⟩
theorem aO2 {x:Option D}{f:D->Pg δ}{R:D->Prop}[m:Mo x R](k:∀d,R d->PW (f d) Q):PW (.opt x f) Q:=Ap m.h λd _=>k d
theorem aO3 {x:Option D}{f:D->Pg δ}(k:∀d,PW (f d) Q):PW (.opt x f) Q:=by rw[Ep];exact λd _=>k d
theorem aY6 {P:A->Prop}{R:B->Prop}{x:A⊕B}{f:A->Pg δ}{g:B->Pg δ}(h:t7 P R x)(k:∀a,P a->PW (f a) Q)(l:∀b,R b->PW (g b) Q):PW (.sum x f g) Q:=by
 rw[avp];exact⟨λa e=>k a (by rw[e] at h;exact h),λb e=>l b (by rw[e] at h;exact h)⟩
theorem a0D {P:A->Prop}{R:B->Prop}{x:A⊕B}{f:A->Pg δ}{g:B->Pg δ}(h:t7 P R x)(k:∀a,P a->PW (f a) Q)(l:∀b,R b->PW (g b) Q):PW (.sm x f g) Q:=by
 rw[aK5];exact⟨λa e=>k a (by rw[e] at h;exact h),λb e=>l b (by rw[e] at h;exact h)⟩
theorem aU7 {x:A⊕B}{f:A->Pg δ}{g:B->Pg δ}(k:∀a,PW (f a) Q)(l:∀b,PW (g b) Q):PW (.sum x f g) Q:=by rw[avp];exact⟨λa _=>k a,λb _=>l b⟩
theorem aY7 {x:A⊕B}{f:A->Pg δ}{g:B->Pg δ}(k:∀a,PW (f a) Q)(l:∀b,PW (g b) Q):PW (.sm x f g) Q:=by rw[aK5];exact⟨λa _=>k a,λb _=>l b⟩
end
end Go.Proofs.YtldgljclcgaibaaGreat
noncomputable section
namespace Go.Proofs.YtldgljclcgaibaaGreat
open Go.Ab Go.Ab.Pg Go.Ab.Rq
def aJF:=qa (pr (cu aP (c kY abP)) bH)
def auu:=qe (res (pr (aa aEa) (pl mh nil)))
abbrev aJG:=auu.B
abbrev aJH:=NI->Int->Int->Int->Int->Int->Int->Int->Int->Bool->Option aJG
def aJI (g:aJH):Ct:=(164,FC aJF (lf auu) (λb=>g b.1.1 b.1.2.1 b.1.b.1 b.1.b.2.1.1 b.1.b.2.1.2.1 b.1.b.2.1.b b.1.c.1 b.1.c.2.1 b.1.c.b b.2))
def yL:=qs (st (pr (cu aP (us 5 (cu Q7 (cu az9 (cu aSF (cu aIL (us 1 (cu aSG (cu aSH (c ai (c ai (us 98 (c ai (us 12 (c af9 (cl ai (us 64 nil))))))))))))))))) (pl (c cD (c mi (c (so agj) (c wQ (c mi (c (so alk) alj)))))) cP)))
def aCe:=qs (st (pr (cu aP (us 5 (cu Q7 (cu az9 (cu aSF (cu aIL (us 1 (cu aSG (cu aSH (c ai (c ai (us 98 (c ai (us 12 (c af9 (c ai (cl ab (us 63 nil)))))))))))))))))) (pl (c cD (c mi (c (so agj) (c wQ (c mi (c (so alk) alj)))))) cP)))
abbrev Sh:=aCe.B
def aCf {ρ:Type}:=@ef Sh ((.ex 2)) aCe ρ
def aoR (aB:bT)(d:yL.B):PL yL Sh:=let n6:=d.1.1;let n4:=d.1.2;let n3:=d.2.2.2;let n5:=n3.2.2;let n2:=n4.2.2;let n1:=(n6,n4.1,n4.2.1,n2.1,wI (n2.2+1));let y0:=wI (0+n4.1);let y1:=wI (10+n2.2);let y2:=decide (n2.2<3);let y3:=wt y0*24+wt y1;ae y2 (ae (aX n2.2 3) (ae (n2.2==2) (opt (aB n6 n2.1.2.2 30 d.2.1) λaj=>ae (aX y0 24) (ae (aX y1 24) (ae (true&&wl (0+y3*1+1) 576) (ret (ws (n1,aj.2,d.2.2.1,n3.1,n3.2.1,λj=>bif ww j y3 then wI (0-aj.1) else n5.1 j,n5.2))) no) no) no) (ae (n2.2==1) (opt (aB n6 n2.1.2.1 30 d.2.1) λaj=>ae (aX y0 24) (ae (aX y1 24) (ae (true&&wl (0+y3*1+1) 576) (ret (ws (n1,aj.2,d.2.2.1,n3.1,n3.2.1,λj=>bif ww j y3 then wI (0-aj.1) else n5.1 j,n5.2))) no) no) no) (opt (aB n6 n2.1.1 30 d.2.1) λaj=>ae (aX y0 24) (ae (aX y1 24) (ae (true&&wl (0+y3*1+1) 576) (ret (ws (n1,aj.2,d.2.2.1,n3.1,n3.2.1,λj=>bif ww j y3 then wI (0-aj.1) else n5.1 j,n5.2))) no) no) no))) no) (ret (wr ((n6,n4.1,n4.2.1,n2.1,n2.2,y2),d.2)))
def aoS:=bC (aoR aV) 2000
def yM:=qs (st (pr (cu aP (us 5 (cu Q7 (cu az9 (us 1 (cu aSI (us 7 (cu aSJ (c ai (us 130 (c ai (us 10 aV0)))))))))))) (pl (c cD (c mi (c (so agj) (c mi alj)))) cP)))
def aCg:=qs (st (pr (cu aP (us 5 (cu Q7 (cu az9 (us 1 (cu aSI (us 7 (cu aSJ (c ai (us 130 (c ai (us 10 aV5)))))))))))) (pl (c cD (c mi (c (so agj) (c mi alj)))) cP)))
abbrev Si:=aCg.B
def aCh {ρ:Type}:=@ef Si ((.ex 6)) aCg ρ
def aoT (aB:bT)(d:yM.B):PL yM Si:=let n2:=d.2.2.2;let n1:=d.1.2;let y0:=wI (4+d.1.1);let y1:=wI (13+n1.2);let y2:=decide (n1.2<3);let y3:=wI (wI (3*d.1.1)+n1.2);let y4:=wt y0*24+wt y1;ae y2 (ae (aX y3 9) (opt (aB (n2.1.2.2.2.2.2.2.2.2.2.2.2 (wt y3)) n2.1.1 30 d.2.1) λaj=>ae (aX y0 24) (ae (aX y1 24) (ae (true&&wl (0+y4*1+1) 576) (ret (ws ((d.1.1,n1.1,wI (n1.2+1)),aj.2,d.2.2.1,n2.1,λj=>bif ww j y4 then wI (0-aj.1) else n2.2.1 j,n2.2.2))) no) no) no) no) (ret (wr ((d.1.1,n1.1,n1.2,y2),d.2)))
def aoU:=bC (aoT aV) 2000
def yN:=qs (st (pr (cu aP (us 5 (cu Q7 (cu az9 (cu aSF (cu aIL (us 1 (cu aSG (cu aSH (c ai (us 99 aV2))))))))))) (pl (c cD (c mi (c (so agj) (c wQ (c mi (c (so alk) alj)))))) cP)))
def aCi:=qs (st (pr (cu aP (us 5 (cu Q7 (cu az9 (cu aSF (cu aIL (us 1 (cu aSG (cu aSH (c ai (us 99 (c ai (cl ab (us 77 nil)))))))))))))) (pl (c cD (c mi (c (so agj) (c wQ (c mi (c (so alk) alj)))))) cP)))
abbrev Sj:=aCi.B
def aCj {ρ:Type}:=@ef Sj ((.ex 0)) aCi ρ
def aoV (qx:LT yL Sh)(d:yN.B):PL yN Sj:=let bI:=d.2.1;let bo:=d.1.1;let aT:=d.2.2.1;let n7:=d.1.2;let n6:=d.2.2.2;let n15:=n6.2.1;let ba:=n6.2.2.1;let n4:=n6.2.2.2;let n21:=n4.2.2.2;let n17:=n4.1.2;let bj:=n21.2.2.2;let n20:=bj.2.2.2;let n9:=n17.2.2;let n18:=n9.2.2;let n5:=n18.2.2;let n19:=n5.2.2;let n8:=n19.2.2;let n16:=n8.2.2;let n3:=(n4.2.1,n4.2.2.1,n21.1);let n2:=(n21.2.1,n21.2.2.1,bj.1);let n1:=(bj.2.1,bj.2.2.1,n20.1);let y0:=aX n7 4;let y1:=n7==2;let y2:=n7==1;let y3:=n7==3;let y4:=wI (0+n7);let y5:=0+wt y4*24;let y6:=y5+1;let y7:=true&&wl (y5+4) 576;let y8:=y6+1;let y9:=decide (n7<4);ae y9 (ae (aX y4 24) (ae y0 (ae y3 (ae y7 (ae y0 (ae y3 (opt (qx ((bo,n7,n7,n20.2,0),bI,aT,n6.1,n15,λj=>bif ww j (y8+1) then n16.2.2 else bif ww j y8 then n16.2.1 else bif ww j y6 then n16.1 else bif ww j y5 then n8.2.1 else ba j,n4)) λd=>ret (ws ((d.1.1,wI (d.1.2.2.1+1)),d.2))) (ae y1 (opt (qx ((bo,n7,n7,n1,0),bI,aT,n6.1,n15,λj=>bif ww j (y8+1) then n16.2.2 else bif ww j y8 then n16.2.1 else bif ww j y6 then n16.1 else bif ww j y5 then n8.2.1 else ba j,n4)) λd=>ret (ws ((d.1.1,wI (d.1.2.2.1+1)),d.2))) (ae y2 (opt (qx ((bo,n7,n7,n2,0),bI,aT,n6.1,n15,λj=>bif ww j (y8+1) then n16.2.2 else bif ww j y8 then n16.2.1 else bif ww j y6 then n16.1 else bif ww j y5 then n8.2.1 else ba j,n4)) λd=>ret (ws ((d.1.1,wI (d.1.2.2.1+1)),d.2))) (opt (qx ((bo,n7,n7,n3,0),bI,aT,n6.1,n15,λj=>bif ww j (y8+1) then n16.2.2 else bif ww j y8 then n16.2.1 else bif ww j y6 then n16.1 else bif ww j y5 then n8.2.1 else ba j,n4)) λd=>ret (ws ((d.1.1,wI (d.1.2.2.1+1)),d.2)))))) no) no) (ae y1 (ae y7 (ae y0 (ae y3 (opt (qx ((bo,n7,n7,n20.2,0),bI,aT,n6.1,n15,λj=>bif ww j (y8+1) then n8.1 else bif ww j y8 then n19.2.1 else bif ww j y6 then n19.1 else bif ww j y5 then n5.2.1 else ba j,n4)) λd=>ret (ws ((d.1.1,wI (d.1.2.2.1+1)),d.2))) (ae y1 (opt (qx ((bo,n7,n7,n1,0),bI,aT,n6.1,n15,λj=>bif ww j (y8+1) then n8.1 else bif ww j y8 then n19.2.1 else bif ww j y6 then n19.1 else bif ww j y5 then n5.2.1 else ba j,n4)) λd=>ret (ws ((d.1.1,wI (d.1.2.2.1+1)),d.2))) (ae y2 (opt (qx ((bo,n7,n7,n2,0),bI,aT,n6.1,n15,λj=>bif ww j (y8+1) then n8.1 else bif ww j y8 then n19.2.1 else bif ww j y6 then n19.1 else bif ww j y5 then n5.2.1 else ba j,n4)) λd=>ret (ws ((d.1.1,wI (d.1.2.2.1+1)),d.2))) (opt (qx ((bo,n7,n7,n3,0),bI,aT,n6.1,n15,λj=>bif ww j (y8+1) then n8.1 else bif ww j y8 then n19.2.1 else bif ww j y6 then n19.1 else bif ww j y5 then n5.2.1 else ba j,n4)) λd=>ret (ws ((d.1.1,wI (d.1.2.2.1+1)),d.2)))))) no) no) (ae y2 (ae y7 (ae y0 (ae y3 (opt (qx ((bo,n7,n7,n20.2,0),bI,aT,n6.1,n15,λj=>bif ww j (y8+1) then n5.1 else bif ww j y8 then n18.2.1 else bif ww j y6 then n18.1 else bif ww j y5 then n9.2.1 else ba j,n4)) λd=>ret (ws ((d.1.1,wI (d.1.2.2.1+1)),d.2))) (ae y1 (opt (qx ((bo,n7,n7,n1,0),bI,aT,n6.1,n15,λj=>bif ww j (y8+1) then n5.1 else bif ww j y8 then n18.2.1 else bif ww j y6 then n18.1 else bif ww j y5 then n9.2.1 else ba j,n4)) λd=>ret (ws ((d.1.1,wI (d.1.2.2.1+1)),d.2))) (ae y2 (opt (qx ((bo,n7,n7,n2,0),bI,aT,n6.1,n15,λj=>bif ww j (y8+1) then n5.1 else bif ww j y8 then n18.2.1 else bif ww j y6 then n18.1 else bif ww j y5 then n9.2.1 else ba j,n4)) λd=>ret (ws ((d.1.1,wI (d.1.2.2.1+1)),d.2))) (opt (qx ((bo,n7,n7,n3,0),bI,aT,n6.1,n15,λj=>bif ww j (y8+1) then n5.1 else bif ww j y8 then n18.2.1 else bif ww j y6 then n18.1 else bif ww j y5 then n9.2.1 else ba j,n4)) λd=>ret (ws ((d.1.1,wI (d.1.2.2.1+1)),d.2)))))) no) no) (ae y7 (ae y0 (ae y3 (opt (qx ((bo,n7,n7,n20.2,0),bI,aT,n6.1,n15,λj=>bif ww j (y8+1) then n9.1 else bif ww j y8 then n17.2.1 else bif ww j y6 then n17.1 else bif ww j y5 then n4.1.1 else ba j,n4)) λd=>ret (ws ((d.1.1,wI (d.1.2.2.1+1)),d.2))) (ae y1 (opt (qx ((bo,n7,n7,n1,0),bI,aT,n6.1,n15,λj=>bif ww j (y8+1) then n9.1 else bif ww j y8 then n17.2.1 else bif ww j y6 then n17.1 else bif ww j y5 then n4.1.1 else ba j,n4)) λd=>ret (ws ((d.1.1,wI (d.1.2.2.1+1)),d.2))) (ae y2 (opt (qx ((bo,n7,n7,n2,0),bI,aT,n6.1,n15,λj=>bif ww j (y8+1) then n9.1 else bif ww j y8 then n17.2.1 else bif ww j y6 then n17.1 else bif ww j y5 then n4.1.1 else ba j,n4)) λd=>ret (ws ((d.1.1,wI (d.1.2.2.1+1)),d.2))) (opt (qx ((bo,n7,n7,n3,0),bI,aT,n6.1,n15,λj=>bif ww j (y8+1) then n9.1 else bif ww j y8 then n17.2.1 else bif ww j y6 then n17.1 else bif ww j y5 then n4.1.1 else ba j,n4)) λd=>ret (ws ((d.1.1,wI (d.1.2.2.1+1)),d.2)))))) no) no)))) no) no) (ret (wr ((bo,n7,y9),d.2)))
def aoW:=bC (aoV aoS) 2000
def yO:=qs (st (pr (cu aP (us 5 (cu Q7 (cu az9 (us 1 (cu aSI (us 7 (cu aSJ (us 131 (cl ai (us 42 nil))))))))))) (pl (c cD (c mi (c (so agj) (c mi alj)))) cP)))
def aCk:=qs (st (pr (cu aP (us 5 (cu Q7 (cu az9 (us 1 (cu aSI (us 7 (cu aSJ (us 131 aWi))))))))) (pl (c cD (c mi (c (so agj) (c mi alj)))) cP)))
abbrev Sk:=aCk.B
def aCl {ρ:Type}:=@ef Sk ((.ex 4)) aCk ρ
def aoX (l_3:LT yM Si)(d:yO.B):PL yO Sk:=let n3:=d.2.2;let n1:=n3.2.2.2;let n2:=n1.2.2.2.2.2;let n4:=n2.2.2.2;let y0:=wI (4+d.1);let y1:=0+wt y0*24;let y2:=y1+1;let y3:=true&&wl (y1+4) 576;let y4:=y2+1;let y5:=decide (d.1<3);ae y5 (ae (aX y0 24) (ae (aX d.1 3) (ae (d.1==2) (ae y3 (opt (l_3 ((d.1,d.1,0),d.2.1,n3.1,n3.2.1,λj=>bif ww j (y4+1) then n4.2.2.2 else bif ww j y4 then n4.2.2.1 else bif ww j y2 then n4.2.1 else bif ww j y1 then n4.1 else n3.2.2.1 j,n1)) λd=>let n5:=d.2.2.2;let y0:=wI (7+d.1.1);let y1:=wI (4+d.1.1);let y2:=wt y0*24+wt y1;ae (aX y0 24) (ae (aX y1 24) (ae (true&&wl (0+y2*1+1) 576) (ret (ws (wI (d.1.2.1+1),d.2.1,d.2.2.1,n5.1,λj=>bif ww j y2 then n5.1.1 else n5.2.1 j,n5.2.2))) no) no) no) no) (ae (d.1==1) (ae y3 (opt (l_3 ((d.1,d.1,0),d.2.1,n3.1,n3.2.1,λj=>bif ww j (y4+1) then n2.2.2.1 else bif ww j y4 then n2.2.1 else bif ww j y2 then n2.1 else bif ww j y1 then n1.2.2.2.2.1 else n3.2.2.1 j,n1)) λd=>let n6:=d.2.2.2;let y0:=wI (7+d.1.1);let y1:=wI (4+d.1.1);let y2:=wt y0*24+wt y1;ae (aX y0 24) (ae (aX y1 24) (ae (true&&wl (0+y2*1+1) 576) (ret (ws (wI (d.1.2.1+1),d.2.1,d.2.2.1,n6.1,λj=>bif ww j y2 then n6.1.1 else n6.2.1 j,n6.2.2))) no) no) no) no) (ae y3 (opt (l_3 ((d.1,d.1,0),d.2.1,n3.1,n3.2.1,λj=>bif ww j (y4+1) then n1.2.2.2.1 else bif ww j y4 then n1.2.2.1 else bif ww j y2 then n1.2.1 else bif ww j y1 then n1.1 else n3.2.2.1 j,n1)) λd=>let n7:=d.2.2.2;let y0:=wI (4+d.1.1);let y1:=wI (7+d.1.1);let y2:=wt y1*24+wt y0;ae (aX y1 24) (ae (aX y0 24) (ae (true&&wl (0+y2*1+1) 576) (ret (ws (wI (d.1.2.1+1),d.2.1,d.2.2.1,n7.1,λj=>bif ww j y2 then n7.1.1 else n7.2.1 j,n7.2.2))) no) no) no) no))) no) no) (ret (wr ((d.1,y5),d.2)))
def aoY:=bC (aoX aoU) 2000
def azE (AB:Mt)(aN:fw)(bg:eo)(TI:Db)(aB:bT)(adx:Ix)(ew:LT yN Sj)(JV:LT yO Sk)(x0:Nat->Int)(x1:Int)(x2:Int)(x3:Int)(x4:Int)(x5:Int)(x6:Int)(x7:Int)(x8:Int)(x9:Bool):Pg aJG:=opt (AB x0 x1 x2 x3 x4 x5 x6 x7 x8 x9) λd=>let n1:=d.1.2.2.2.2.2.2.2;let n3:=n1.2.2;let y0:=wI (0-n1.2.1);let y1:=wI (0-n3.1);let y2:=wI (0-n3.2.1);opt (aN x0 d.2) λaj=>opt (bg aj.1) λaE=>let oN:=wI (0-aE.2.1);let ajk:=wI (0-aE.2.2.2);let aJJ:=wI (0-aE.2.2.1);opt TI λbE=>opt (aB d.1.1 536870912 30 aj.2) λcC=>opt (ew ((cC.1,0),cC.2,λx=>0,d.1,aE,bE,(n1.1,y0,y1,y2,n1.2.1,n1.1,n3.2.1,y1,n3.1,y2,n1.1,n1.2.1,n3.2.1,n3.1,y0,n1.1),oN,aJJ,ajk,aE.1,ajk,aE.2.2.1,aE.2.2.2,aE.1,oN,aJJ,aE.2.1,aE.1)) λd=>let n2:=d.2.2.2;let n4:=n2.1.2.2.2.2;opt (adx n2.2.1.1 n2.2.1.2.1 n2.2.1.2.2.1 n2.2.1.2.2.2 n4.1 n4.2.1 n4.2.2.1 d.2.1) λeJ=>opt (JV (0,eJ.2,d.2.2.1,n2.1,n2.2.2.1,eJ.1)) λd=>ret (d.2.2.2.2.1,d.2.1)
def afv:=λx0 x1 x2 x3 x4 x5 x6 x7 x8 x9=>(azE vU cw cy nh aV zh aoW aoY x0 x1 x2 x3 x4 x5 x6 x7 x8 x9).val
abbrev PX:=Mt×fw×eo×Db×bT×Ix×(LT yL Sh)×(LT yM Si)×(LT yN Sj)×(LT yO Sk)
def V2 (p:PX):KK:=⟨[XP p.1,ji p.2.1,jE p.b.1,Tu p.b.2.1,fq p.c.1,ado p.c.2.1],⟨[⟨9,(rg 1 5 (10::rg 14 99 (rg 114 78 []))),[]⟩,⟨13,(rg 1 5 (10::rg 15 98 (rg 114 12 (rg 128 64 [])))),[]⟩,⟨20,(rg 1 5 (8::rg 10 7 (rg 18 131 (rg 150 42 [])))),[]⟩,⟨24,(rg 1 5 (8::rg 10 7 (rg 19 130 (rg 150 10 (rg 161 31 []))))),[]⟩],[fV 13 1 yL aCf p.c.b.1,fV 24 1 yM aCh p.c.b.2.1,fV 9 1 yN aCj p.d.1,fV 20 1 yO aCl p.d.2],[],[],(some ⟨0,(rg 0 6 (rg 7 185 [])),[]⟩)⟩,1,164⟩
theorem aL3 (p:PX):LI (V2 p) 13 yL aCf (aoR p.c.1):=λ_ d c K=>by kernel_rfl
theorem aL4 (p:PX):LI (V2 p) 24 yM aCh (aoT p.c.1):=λ_ d c K=>by kernel_rfl
theorem aL5 (p:PX):LI (V2 p) 9 yN aCj (aoV p.c.b.1):=λ_ d c K=>by kernel_rfl
theorem aL6 (p:PX):LI (V2 p) 20 yO aCl (aoX p.c.b.2.1):=λ_ d c K=>by kernel_rfl
theorem aU8 (p:PX):D2 (V2 p) aJF (lf auu) λb=>azE p.1 p.2.1 p.b.1 p.b.2.1 p.c.1 p.c.2.1 p.d.1 p.d.2 b.1.1 b.1.2.1 b.1.b.1 b.1.b.2.1.1 b.1.b.2.1.2.1 b.1.b.2.1.b b.1.c.1 b.1.c.2.1 b.1.c.b b.2:=λb=>by kernel_rfl
abbrev V3:PX:=(vU,cw,cy,nh,aV,zh,aoS,aoU,aoW,aoY)
theorem aU9 [ax]:SC (aJI afv):=sc (kS (k:=V2 V3) (.c ani (.c jV (.c km (.c ajw (.c fO (.c arZ (.nil _))))))) [9,13,20,24] [] ⟨kL (aL5 V3),⟨kL (aL3 V3),⟨kL (aL6 V3),⟨kL (aL4 V3),trivial⟩⟩⟩⟩ trivial (aU8 V3))
def aCm:=qa (pr (cu aP (c Ae (c kY (c (aa aKp) as4)))) bH)
def aiF:=qe aQH
abbrev aCn:=aiF.B
abbrev aoZ:=NI->NI->NI->Int->Int->Int->Int->Int->Int->Int->Int->NI->Bool->Option aCn
def aCo (g:aoZ):Ct:=(107,FC aCm (lf aiF) (λb=>g b.1.1.1 b.1.1.2 b.1.2.1 b.1.b.1.1 b.1.b.1.2.1 b.1.b.1.b.1.1 b.1.b.1.b.1.2.1 b.1.b.1.b.1.b b.1.b.1.b.2.1 b.1.b.1.c.1 b.1.b.1.c.2 b.1.b.2 b.2))
def ao0 (apF:aJH)(VU:awr)(vC:GM)(x0:Nat->Int)(x1:Nat->Int)(x2:Nat->Int)(x3:Int)(x4:Int)(x5:Int)(x6:Int)(x7:Int)(x8:Int)(x9:Int)(gx:Int)(gy:Nat->Int)(Aq:Bool):Pg aCn:=opt (apF x2 x3 x4 x5 x6 x7 x8 x9 gx Aq) λd=>opt (VU gy x4 d.2) λaj=>opt (vC x0 x1 d.1 aj.1 aj.2) λd=>ret d
def K6:=λx0 x1 x2 x3 x4 x5 x6 x7 x8 x9 gx gy Aq=>(ao0 afv Mz jX x0 x1 x2 x3 x4 x5 x6 x7 x8 x9 gx gy Aq).val
theorem aO4:∀apF VU vC,D0 [aJI apF,aws VU,O6 vC] 107 aCm (lf aiF) λb=>ao0 apF VU vC b.1.1.1 b.1.1.2 b.1.2.1 b.1.b.1.1 b.1.b.1.2.1 b.1.b.1.b.1.1 b.1.b.1.b.1.2.1 b.1.b.1.b.1.b b.1.b.1.b.2.1 b.1.b.1.c.1 b.1.b.1.c.2 b.1.b.2 b.2:=λ_ _ _ b=>by kernel_rfl
theorem aO5 [ax]:SC (aCo K6):=s0 (.c aU9 (.c aLu (.c aeO (.nil _)))) (aO4 afv Mz jX)
def Zm:=qa (pr (cu aP EV) bH)
def Nq:=qe aQy
def CF:=qe axZ
abbrev CG:=Nq.B⊕CF.B
def UX:CG->T:=ls (lf Nq) (lf CF)
def Zn:CG->T:=ls (λ_=>.fail) (lf CF)
abbrev Zo:=Int->Int->Int->Bool->Option CG
def Zp (g:Zo):Ct:=(119,FC Zm Zn (λb=>g b.1.1 b.1.2.1 b.1.b b.2))
def Kp (x0:Int)(x1:Int)(x2:Int)(x3:Bool):Pg CG:=ae (decide (x1>x2)) (ret (ws x1)) (ae (decide (x0<x1)) (ret (ws x1)) (ae (decide (x0>x2)) (ret (ws x2)) (ret (wr x0))))
def wx:=λx0 x1 x2 x3=>(Kp x0 x1 x2 x3).val
theorem auv:D0 [] 119 Zm UX λb=>Kp b.1.1 b.1.2.1 b.1.b b.2:=λb=>by kernel_rfl
theorem auw [ax]:SC (Zp wx):=sc (E3 (R:=UX) (R':=Zn) (λd r h=>by rcases d with d|d<;>first|exact h|(have h:(none:Option oO)=some r:=h;cases h))<|k0 (.nil _) auv)
def afw:=qa (pr (cu aP gW) bH)
def Nr:=qe axZ
abbrev afx:=Nr.B
abbrev PY:=Int->Bool->Option afx
def PZ (g:PY):Ct:=(126,FC afw (lf Nr) (λb=>g b.1 b.2))
def P1 (CI:Zo)(x0:Int)(x1:Bool):Pg afx:=opt (CI x0 (-1152921504606846976) 1152921504606846976 x1) λd=>sm d (λd=>no) (λd=>ret d)
def rm:=λx0 x1=>(P1 wx x0 x1).val
theorem azF:∀CI,D0 [Zp CI] 126 afw (lf Nr) λb=>P1 CI b.1 b.2:=λ_ b=>by kernel_rfl
theorem afy [ax]:SC (PZ rm):=s0 (.c auw (.nil _)) (azF wx)
def afz:=qa (pr (cu aP (c ai (c ab aMR))) bH)
def Sl:=qe aQy
def F7:=qe axZ
abbrev GY:=Sl.B⊕F7.B
def abx:GY->T:=ls (lf Sl) (lf F7)
def afA:GY->T:=ls (λ_=>.fail) (lf F7)
abbrev afB:=Int->Bool->Bool->Bool->Option GY
def afC (g:afB):Ct:=(198,FC afz afA (λb=>g b.1.1 b.1.2.1 b.1.b b.2))
def P3 (jB:WD)(je:PY)(x0:Int)(x1:Bool)(x2:Bool)(x3:Bool):Pg GY:=ae (!x1) (opt (jB x2) λd=>ret (ws d)) (opt (je x0 x3) λd=>ret (wr d))
def AT:=λx0 x1 x2 x3=>(P3 qw rm x0 x1 x2 x3).val
theorem azG:∀jB je,D0 [WE jB,PZ je] 198 afz abx λb=>P3 jB je b.1.1 b.1.2.1 b.1.b b.2:=λ_ _ b=>by kernel_rfl
theorem azH [ax]:SC (afC AT):=sc (E3 (R:=abx) (R':=afA) (λd r h=>by rcases d with d|d<;>first|exact h|(have h:(none:Option oO)=some r:=h;cases h))<|k0 (.c agX (.c afy (.nil _))) (azG qw rm))
def aku:=qa (pr (cu aP (c af7 gW)) bH)
def UY:=qe aQy
def HW:=qe axZ
abbrev Jw:=UY.B⊕HW.B
def afD:Jw->T:=ls (lf UY) (lf HW)
def akv:Jw->T:=ls (λ_=>.fail) (lf HW)
abbrev akw:=Int->Int->Int->Bool->Option Jw
def akx (g:akw):Ct:=(128,FC aku akv (λb=>g b.1.1.1 b.1.1.2 b.1.2 b.2))
def Uq (jB:WD)(xN:amb)(GZ:afB)(x0:Int)(x1:Int)(x2:Int)(x3:Bool):Pg Jw:=let y0:=decide (x0<0);ae (x2==0) (ae (x0==0&&(x1==0&&true)) (ret (ws 0)) (opt (jB y0) λd=>ret (ws d))) (opt (xN x0 x1 x2) λd=>opt (GZ d.1 d.2 (!y0==decide (x2<0)) x3) λd=>sm d (λd=>no) (λd=>ret (wr d)))
def Jx:=λx0 x1 x2 x3=>(Uq qw Be AT x0 x1 x2 x3).val
theorem aDw:∀jB xN GZ,D0 [WE jB,amc xN,afC GZ] 128 aku afD λb=>Uq jB xN GZ b.1.1.1 b.1.1.2 b.1.2 b.2:=λ_ _ _ b=>by kernel_rfl
theorem aDx [ax]:SC (akx Jx):=sc (E3 (R:=afD) (R':=akv) (λd r h=>by rcases d with d|d<;>first|exact h|(have h:(none:Option oO)=some r:=h;cases h))<|k0 (.c agX (.c aAH (.c azH (.nil _)))) (aDw qw Be AT))
def UZ:=qa (pr (cu aP EV) bH)
def F8:=qe axZ
abbrev U0:=F8.B
abbrev HX:=Int->Int->Int->Bool->Option U0
def HY (g:HX):Ct:=(78,FC UZ (lf F8) (λb=>g b.1.1 b.1.2.1 b.1.b b.2))
def HZ (je:PY)(cS:nD)(Jy:akw)(x0:Int)(x1:Int)(x2:Int)(x3:Bool):Pg U0:=opt (je x0 x3) λd=>opt (je x1 x3) λaj=>opt (cS d aj) λd=>opt (je x2 x3) λaE=>opt (Jy d.1 d.2 aE x3) λd=>sm d (λd=>no) (λd=>ret d)
def j9:=λx0 x1 x2 x3=>(HZ rm fC Jx x0 x1 x2 x3).val
theorem aqg:∀je cS Jy,D0 [PZ je,xL cS,akx Jy] 78 UZ (lf F8) λb=>HZ je cS Jy b.1.1 b.1.2.1 b.1.b b.2:=λ_ _ _ b=>by kernel_rfl
theorem U2 [ax]:SC (HY j9):=s0 (.c afy (.c Bc (.c aDx (.nil _)))) (aqg rm fC Jx)
def Hg:=qa (pr (c ai (c ai aKh)) (cu asZ bH))
def wy:=qe aQm
abbrev Hh:=wy.B
abbrev xi:=Int->Int->Int->Int->Bool->Option Hh
def xj (g:xi):Ct:=(194,FC Hg (lf wy) (λb=>g b.1.1 b.1.2.1 b.1.b.1 b.1.b.2 b.2))
def xm (aR:HX)(x0:Int)(x1:Int)(x2:Int)(x3:Int)(x4:Bool):Pg Hh:=opt (aR (wI (x1-x0)) x2 x3 x4) λd=>ret (wI (x0+d))
def gV:=λx0 x1 x2 x3 x4=>(xm j9 x0 x1 x2 x3 x4).val
theorem Z2:∀aR,D0 [HY aR] 194 Hg (lf wy) λb=>xm aR b.1.1 b.1.2.1 b.1.b.1 b.1.b.2 b.2:=λ_ b=>by kernel_rfl
theorem Hi [ax]:SC (xj gV):=s0 (.c U2 (.nil _)) (Z2 j9)
def Hj:=qa (pr (cl (aa (c gi aEe)) (cu aP (cu Q8 (cu (app 2 1) nil)))) (cu (cu (gc (ccl (pu (nat 194) (pu rq7 (pu Ad CU))))) nil) (c gZ (c gZ (cu (cu (gp 4 1) nil) bH)))))
def wz:=qe (res (pl ai (pu aWr nil)))
abbrev Hk:=wz.B
abbrev Hl:=Int->Int->Int->Int->Int->Int->Int->Int->Int->Bool->Option Hk
def Hm (g:Hl):Ct:=(195,FC Hj (lf wz) (λb=>g b.1.1 b.1.2.1 b.1.b.1 b.1.b.2.1 b.1.c.1 b.1.c.2.1 b.1.c.b b.2.1 b.b.1 b.b.2))
def xo (ak:xi)(x0:Int)(x1:Int)(x2:Int)(x3:Int)(x4:Int)(x5:Int)(x6:Int)(x7:Int)(x8:Int)(x9:Bool):Pg Hk:=let y0:=wI (x2*1073741824);let y1:=wI (x6*1073741824);let y2:=wI (x3*1073741824);let y3:=wI (x0*1073741824);let y4:=wI (x7+1);let y5:=wI (x5*1073741824);let y6:=wI (x1*1073741824);let y7:=wI (x4*1073741824);let y8:=aX y4 7;let y9:=y4==5;let uc:=y4==1;let ud:=y4==6;let wK:=y4==2;let yF:=y4==3;let wL:=y4==4;ae (aX x7 7) (ae (x7==6) (ae y8 (ae ud (opt (ak y1 y1 x8 600000000 x9) λd=>ret d) (ae y9 (opt (ak y1 y5 x8 600000000 x9) λd=>ret d) (ae wL (opt (ak y1 y7 x8 600000000 x9) λd=>ret d) (ae yF (opt (ak y1 y2 x8 600000000 x9) λd=>ret d) (ae wK (opt (ak y1 y0 x8 600000000 x9) λd=>ret d) (ae uc (opt (ak y1 y6 x8 600000000 x9) λd=>ret d) (opt (ak y1 y3 x8 600000000 x9) λd=>ret d))))))) no) (ae (x7==5) (ae y8 (ae ud (opt (ak y5 y1 x8 600000000 x9) λd=>ret d) (ae y9 (opt (ak y5 y5 x8 600000000 x9) λd=>ret d) (ae wL (opt (ak y5 y7 x8 600000000 x9) λd=>ret d) (ae yF (opt (ak y5 y2 x8 600000000 x9) λd=>ret d) (ae wK (opt (ak y5 y0 x8 600000000 x9) λd=>ret d) (ae uc (opt (ak y5 y6 x8 600000000 x9) λd=>ret d) (opt (ak y5 y3 x8 600000000 x9) λd=>ret d))))))) no) (ae (x7==4) (ae y8 (ae ud (opt (ak y7 y1 x8 600000000 x9) λd=>ret d) (ae y9 (opt (ak y7 y5 x8 600000000 x9) λd=>ret d) (ae wL (opt (ak y7 y7 x8 600000000 x9) λd=>ret d) (ae yF (opt (ak y7 y2 x8 600000000 x9) λd=>ret d) (ae wK (opt (ak y7 y0 x8 600000000 x9) λd=>ret d) (ae uc (opt (ak y7 y6 x8 600000000 x9) λd=>ret d) (opt (ak y7 y3 x8 600000000 x9) λd=>ret d))))))) no) (ae (x7==3) (ae y8 (ae ud (opt (ak y2 y1 x8 600000000 x9) λd=>ret d) (ae y9 (opt (ak y2 y5 x8 600000000 x9) λd=>ret d) (ae wL (opt (ak y2 y7 x8 600000000 x9) λd=>ret d) (ae yF (opt (ak y2 y2 x8 600000000 x9) λd=>ret d) (ae wK (opt (ak y2 y0 x8 600000000 x9) λd=>ret d) (ae uc (opt (ak y2 y6 x8 600000000 x9) λd=>ret d) (opt (ak y2 y3 x8 600000000 x9) λd=>ret d))))))) no) (ae (x7==2) (ae y8 (ae ud (opt (ak y0 y1 x8 600000000 x9) λd=>ret d) (ae y9 (opt (ak y0 y5 x8 600000000 x9) λd=>ret d) (ae wL (opt (ak y0 y7 x8 600000000 x9) λd=>ret d) (ae yF (opt (ak y0 y2 x8 600000000 x9) λd=>ret d) (ae wK (opt (ak y0 y0 x8 600000000 x9) λd=>ret d) (ae uc (opt (ak y0 y6 x8 600000000 x9) λd=>ret d) (opt (ak y0 y3 x8 600000000 x9) λd=>ret d))))))) no) (ae (x7==1) (ae y8 (ae ud (opt (ak y6 y1 x8 600000000 x9) λd=>ret d) (ae y9 (opt (ak y6 y5 x8 600000000 x9) λd=>ret d) (ae wL (opt (ak y6 y7 x8 600000000 x9) λd=>ret d) (ae yF (opt (ak y6 y2 x8 600000000 x9) λd=>ret d) (ae wK (opt (ak y6 y0 x8 600000000 x9) λd=>ret d) (ae uc (opt (ak y6 y6 x8 600000000 x9) λd=>ret d) (opt (ak y6 y3 x8 600000000 x9) λd=>ret d))))))) no) (ae y8 (ae ud (opt (ak y3 y1 x8 600000000 x9) λd=>ret d) (ae y9 (opt (ak y3 y5 x8 600000000 x9) λd=>ret d) (ae wL (opt (ak y3 y7 x8 600000000 x9) λd=>ret d) (ae yF (opt (ak y3 y2 x8 600000000 x9) λd=>ret d) (ae wK (opt (ak y3 y0 x8 600000000 x9) λd=>ret d) (ae uc (opt (ak y3 y6 x8 600000000 x9) λd=>ret d) (opt (ak y3 y3 x8 600000000 x9) λd=>ret d))))))) no))))))) no
def mg:=λx0 x1 x2 x3 x4 x5 x6 x7 x8 x9=>(xo gV x0 x1 x2 x3 x4 x5 x6 x7 x8 x9).val
theorem Z3:∀ak,D0 [xj ak] 195 Hj (lf wz) λb=>xo ak b.1.1 b.1.2.1 b.1.b.1 b.1.b.2.1 b.1.c.1 b.1.c.2.1 b.1.c.b b.2.1 b.b.1 b.b.2:=λ_ b=>by kernel_rfl
theorem Z4 [ax]:SC (Hm mg):=s0 (.c Hi (.nil _)) (Z3 gV)
def K7:=qa (pr (cu aP Hq) bH)
def zK:=qe aWJ
abbrev K8:=zK.B
abbrev K9:=Int->Int->Int->Bool->Option K8
def K' (g:K9):Ct:=(120,FC K7 (lf zK) (λb=>g b.1.1 b.1.2.1 b.1.b b.2))
def AU (cM:vj)(iR:HP)(ak:xi)(aH:Hl)(aR:HX)(x0:Int)(x1:Int)(x2:Int)(x3:Bool):Pg K8:=let y0:=wI (x1+1800000000);let y1:=wI (x0+900000000);let y2:=wI (t6 y1 450000000);let y3:=wI (t6 y0 600000000);let y4:=if 3<y2 then 3 else y2;let y5:=if 5<y3 then 5 else y3;let y6:=wI (y4+1);let y7:=wI (y0-wI (y5*600000000));opt (cM x0 x1 x2) λd=>ae (!d) (ret (0,1)) (opt iR λd=>ae (aX y4 5) (ae (y4==4) (opt (aH 1000 4000 (-3000) 500 3500 (-1200) 1000 y5 y7 x3) λd=>ae (aX y6 5) (ae (y6==4) (opt (aH 1000 4000 (-3000) 500 3500 (-1200) 1000 y5 y7 x3) λaj=>opt (ak d aj (wI (y1-wI (y4*450000000))) 450000000 x3) λd=>opt (aR d 3373259426 19327352832000 x3) λd=>ret (d,0)) (ae (y6==3) (opt (aH 500 1500 (-1700) 100 700 (-800) 500 y5 y7 x3) λaj=>opt (ak d aj (wI (y1-wI (y4*450000000))) 450000000 x3) λd=>opt (aR d 3373259426 19327352832000 x3) λd=>ret (d,0)) (ae (y6==2) (opt (aH 950 900 (-1400) (-500) (-300) 100 950 y5 y7 x3) λaj=>opt (ak d aj (wI (y1-wI (y4*450000000))) 450000000 x3) λd=>opt (aR d 3373259426 19327352832000 x3) λd=>ret (d,0)) (ae (y6==1) (opt (aH 2200 2500 500 (-2200) (-3800) 0 2200 y5 y7 x3) λaj=>opt (ak d aj (wI (y1-wI (y4*450000000))) 450000000 x3) λd=>opt (aR d 3373259426 19327352832000 x3) λd=>ret (d,0)) (opt (aH 3000 6000 (-2000) (-1500) (-6000) (-9000) 3000 y5 y7 x3) λaj=>opt (ak d aj (wI (y1-wI (y4*450000000))) 450000000 x3) λd=>opt (aR d 3373259426 19327352832000 x3) λd=>ret (d,0)))))) no) (ae (y4==3) (opt (aH 500 1500 (-1700) 100 700 (-800) 500 y5 y7 x3) λd=>ae (aX y6 5) (ae (y6==4) (opt (aH 1000 4000 (-3000) 500 3500 (-1200) 1000 y5 y7 x3) λaj=>opt (ak d aj (wI (y1-wI (y4*450000000))) 450000000 x3) λd=>opt (aR d 3373259426 19327352832000 x3) λd=>ret (d,0)) (ae (y6==3) (opt (aH 500 1500 (-1700) 100 700 (-800) 500 y5 y7 x3) λaj=>opt (ak d aj (wI (y1-wI (y4*450000000))) 450000000 x3) λd=>opt (aR d 3373259426 19327352832000 x3) λd=>ret (d,0)) (ae (y6==2) (opt (aH 950 900 (-1400) (-500) (-300) 100 950 y5 y7 x3) λaj=>opt (ak d aj (wI (y1-wI (y4*450000000))) 450000000 x3) λd=>opt (aR d 3373259426 19327352832000 x3) λd=>ret (d,0)) (ae (y6==1) (opt (aH 2200 2500 500 (-2200) (-3800) 0 2200 y5 y7 x3) λaj=>opt (ak d aj (wI (y1-wI (y4*450000000))) 450000000 x3) λd=>opt (aR d 3373259426 19327352832000 x3) λd=>ret (d,0)) (opt (aH 3000 6000 (-2000) (-1500) (-6000) (-9000) 3000 y5 y7 x3) λaj=>opt (ak d aj (wI (y1-wI (y4*450000000))) 450000000 x3) λd=>opt (aR d 3373259426 19327352832000 x3) λd=>ret (d,0)))))) no) (ae (y4==2) (opt (aH 950 900 (-1400) (-500) (-300) 100 950 y5 y7 x3) λd=>ae (aX y6 5) (ae (y6==4) (opt (aH 1000 4000 (-3000) 500 3500 (-1200) 1000 y5 y7 x3) λaj=>opt (ak d aj (wI (y1-wI (y4*450000000))) 450000000 x3) λd=>opt (aR d 3373259426 19327352832000 x3) λd=>ret (d,0)) (ae (y6==3) (opt (aH 500 1500 (-1700) 100 700 (-800) 500 y5 y7 x3) λaj=>opt (ak d aj (wI (y1-wI (y4*450000000))) 450000000 x3) λd=>opt (aR d 3373259426 19327352832000 x3) λd=>ret (d,0)) (ae (y6==2) (opt (aH 950 900 (-1400) (-500) (-300) 100 950 y5 y7 x3) λaj=>opt (ak d aj (wI (y1-wI (y4*450000000))) 450000000 x3) λd=>opt (aR d 3373259426 19327352832000 x3) λd=>ret (d,0)) (ae (y6==1) (opt (aH 2200 2500 500 (-2200) (-3800) 0 2200 y5 y7 x3) λaj=>opt (ak d aj (wI (y1-wI (y4*450000000))) 450000000 x3) λd=>opt (aR d 3373259426 19327352832000 x3) λd=>ret (d,0)) (opt (aH 3000 6000 (-2000) (-1500) (-6000) (-9000) 3000 y5 y7 x3) λaj=>opt (ak d aj (wI (y1-wI (y4*450000000))) 450000000 x3) λd=>opt (aR d 3373259426 19327352832000 x3) λd=>ret (d,0)))))) no) (ae (y4==1) (opt (aH 2200 2500 500 (-2200) (-3800) 0 2200 y5 y7 x3) λd=>ae (aX y6 5) (ae (y6==4) (opt (aH 1000 4000 (-3000) 500 3500 (-1200) 1000 y5 y7 x3) λaj=>opt (ak d aj (wI (y1-wI (y4*450000000))) 450000000 x3) λd=>opt (aR d 3373259426 19327352832000 x3) λd=>ret (d,0)) (ae (y6==3) (opt (aH 500 1500 (-1700) 100 700 (-800) 500 y5 y7 x3) λaj=>opt (ak d aj (wI (y1-wI (y4*450000000))) 450000000 x3) λd=>opt (aR d 3373259426 19327352832000 x3) λd=>ret (d,0)) (ae (y6==2) (opt (aH 950 900 (-1400) (-500) (-300) 100 950 y5 y7 x3) λaj=>opt (ak d aj (wI (y1-wI (y4*450000000))) 450000000 x3) λd=>opt (aR d 3373259426 19327352832000 x3) λd=>ret (d,0)) (ae (y6==1) (opt (aH 2200 2500 500 (-2200) (-3800) 0 2200 y5 y7 x3) λaj=>opt (ak d aj (wI (y1-wI (y4*450000000))) 450000000 x3) λd=>opt (aR d 3373259426 19327352832000 x3) λd=>ret (d,0)) (opt (aH 3000 6000 (-2000) (-1500) (-6000) (-9000) 3000 y5 y7 x3) λaj=>opt (ak d aj (wI (y1-wI (y4*450000000))) 450000000 x3) λd=>opt (aR d 3373259426 19327352832000 x3) λd=>ret (d,0)))))) no) (opt (aH 3000 6000 (-2000) (-1500) (-6000) (-9000) 3000 y5 y7 x3) λd=>ae (aX y6 5) (ae (y6==4) (opt (aH 1000 4000 (-3000) 500 3500 (-1200) 1000 y5 y7 x3) λaj=>opt (ak d aj (wI (y1-wI (y4*450000000))) 450000000 x3) λd=>opt (aR d 3373259426 19327352832000 x3) λd=>ret (d,0)) (ae (y6==3) (opt (aH 500 1500 (-1700) 100 700 (-800) 500 y5 y7 x3) λaj=>opt (ak d aj (wI (y1-wI (y4*450000000))) 450000000 x3) λd=>opt (aR d 3373259426 19327352832000 x3) λd=>ret (d,0)) (ae (y6==2) (opt (aH 950 900 (-1400) (-500) (-300) 100 950 y5 y7 x3) λaj=>opt (ak d aj (wI (y1-wI (y4*450000000))) 450000000 x3) λd=>opt (aR d 3373259426 19327352832000 x3) λd=>ret (d,0)) (ae (y6==1) (opt (aH 2200 2500 500 (-2200) (-3800) 0 2200 y5 y7 x3) λaj=>opt (ak d aj (wI (y1-wI (y4*450000000))) 450000000 x3) λd=>opt (aR d 3373259426 19327352832000 x3) λd=>ret (d,0)) (opt (aH 3000 6000 (-2000) (-1500) (-6000) (-9000) 3000 y5 y7 x3) λaj=>opt (ak d aj (wI (y1-wI (y4*450000000))) 450000000 x3) λd=>opt (aR d 3373259426 19327352832000 x3) λd=>ret (d,0)))))) no))))) no)
def nW:=λx0 x1 x2 x3=>(AU gO mo gV mg j9 x0 x1 x2 x3).val
theorem afE:∀cM iR ak aH aR,D0 [zm cM,HQ iR,xj ak,Hm aH,HY aR] 120 K7 (lf zK) λb=>AU cM iR ak aH aR b.1.1 b.1.2.1 b.1.b b.2:=λ_ _ _ _ _ b=>by kernel_rfl
theorem afF [ax]:SC (K' nW):=s0 (.c DK (.c UU (.c Hi (.c Z4 (.c U2 (.nil _)))))) (afE gO mo gV mg j9)
def jP:=qa (pu (cu eN nil) (cd pP λb0=>(c kZ (c ml (c (cl (gs b0.c.1 mj) nil) (cd qj λb4=>(cd oB λb5=>(cd oC λb6=>(cd oD λb7=>(cd oE λb8=>(cd oF λb9=>(c lN (cd rX λtQ=>(c (cl (gs b0.e kd) nil) (c (cl (gs b4.b.1 aA) nil) (c (cl (gs b5.b.1 aA) nil) (c (cl (gs b6.b.1 aA) nil) (c (cl (gs b7.b.1 aA) nil) (c (cl (gs b8.b.1 aA) nil) (c (cl (gs b9.b.1 aA) nil) (cl (cl (gs tQ.b hI) nil) nil)))))))))))))))))))))
def sQ:=qe aXn
abbrev Dt:=sQ.B
abbrev Du:=jP.B->Option Dt
def Dv (g:Du):Ct:=(220,FC jP (lf sQ) g)
def tT (tx:K9)(x:jP.B):Pg Dt:=let n1:=x.1.1.2.2.2.2.2.2.2.2.2.2.2.2.2;opt (tx n1.1 n1.2.1 n1.2.2 x.1.2.1) λd=>ret d.1
def jQ:=λx=>(tT nW x).val
theorem Ur:∀tx,D0 [K' tx] 220 jP (lf sQ) λb=>tT tx b:=λ_ b=>by kernel_rfl
theorem Us [ax]:SC (Dv jQ):=s0 (.c afF (.nil _)) (Ur nW)
def nX:=qa (pr (cu eN DR) (cd pP λb0=>(c kZ (c ml (c (cl (gs b0.c.1 mj) nil) (cd qj λb4=>(cd oB λb5=>(cd oC λb6=>(cd oD λb7=>(cd oE λb8=>(cd oF λb9=>(c lN (cd rX λtQ=>(c (cl (gs b0.e kd) nil) (c (cl (gs b4.b.1 aA) nil) (c (cl (gs b5.b.1 aA) nil) (c (cl (gs b6.b.1 aA) nil) (c (cl (gs b7.b.1 aA) nil) (c (cl (gs b8.b.1 aA) nil) (c (cl (gs b9.b.1 aA) nil) (cl (cl (gs tQ.b hI) nil) nil)))))))))))))))))))))
def Eg:=qe as9
abbrev F9:=Eg.B
abbrev Sn:=nX.B->Option F9
def So (g:Sn):Ct:=(173,FC nX (lf Eg) g)
def F' (mE:abg)(nm:Du)(aby:aBZ)(CJ:YX)(bf:qX)(Ns:aoe)(aZ:nS)(x:nX.B):Pg F9:=let bj:=x.2.2;let n6:=x.1.2.2.2;let n5:=x.2.1.1;let n15:=n5.2.2.2.2.2.2.2.2.2.1;let n7:=n5.2.2.2.2.1.2.2.2.1;let n4:=x.2.1.2.2;let bo:=n4.2.2.2.2.2.2.2.2.2.2.2.2.2.2;let n3:=bj.2.2.2.2;let n8:=n3.2.2.2;let y0:=ww n4.2.2.1 n4.2.2.1;let y1:=ww bo bo;let y2:=ww bj.2.2.2.1.2.2.1 bj.2.2.2.1.2.2.1;let y3:=ww n3.1.2.2.1 n3.1.2.2.1;let y4:=ww n3.2.1.2.2.1 n3.2.1.2.2.1;let y5:=ww n3.2.2.1.2.2.1 n3.2.2.1.2.2.1;let y6:=ww n8.1.2.2.1 n8.1.2.2.1;let y7:=ww n8.2.1.2.2.1 n8.2.1.2.2.1;let y8:=ww n8.2.2.2.1.2.2 n8.2.2.2.1.2.2;opt (mE x.1.1 x.1.2.1 x.1.2.2.1 n6.1 n6.2.1 n6.2.2.1 n6.2.2.2.1 n6.2.2.2.2.1 n6.2.2.2.2.2 x.2.1.2.1) λd=>let n9:=d.1.1.2;ae y0 (ae y1 (ae y2 (ae y3 (ae y4 (ae y5 (ae y6 (ae y7 (ae y8 (opt (nm ((n5,d.2,n4),bj)) λaj=>ae (n4.2.2.2.1.1==3) (opt (aby n4.1 d.1.1.1 n9.1 n9.2.1 n9.2.2 n7 d.2) λd=>let n16:=d.2.2.1;let n2:=d.2.2.2;let bI:=n2.2.1;let aT:=n2.2.2.2;opt (CJ n4.1 aj n15 n7 d.1) λaE=>ae (aE.1.2==0) (ae y0 (ae y1 (ae y2 (ae y3 (ae y4 (ae y5 (ae y6 (ae y7 (ae y8 (opt (bf ((3,4,true),(n5,aE.2,n4),(az3 (λk=>cr (d.2.1 k) [aE.1.1.1 k,aT.2.1 k,n2.2.2.1 k,d.2.1 k]) (cr n16 [aE.1.1.2.1,aT.2.2,aT.1,n16],cr n2.1 [aE.1.1.2.2.1,n2.1,n2.1,n2.1],cr bI [aE.1.1.2.2.2,bI,bI,bI])),bj)) λd=>ret d.2.1) no) no) no) no) no) no) no) no) no) (ae y0 (ae y1 (ae y2 (ae y3 (ae y4 (ae y5 (ae y6 (ae y7 (ae y8 (opt (bf ((3,3,true),(n5,aE.2,n4),(az3 (λk=>cr (d.2.1 k) [aT.2.1 k,n2.2.2.1 k,d.2.1 k]) (cr n16 [aT.2.2,aT.1,n16],cr n2.1 [n2.1,n2.1,n2.1],cr bI [bI,bI,bI])),bj)) λd=>ret d.2.1) no) no) no) no) no) no) no) no) no)) (opt (Ns n4.1 d.1.1.1 n9.1 n9.2.1 n9.2.2 aj n15 n7 d.2) λd=>let ba:=d.1.1.2;let n1:=d.1.1.1;ae (d.1.2!=0) (ae y0 (ae y1 (ae y2 (ae y3 (ae y4 (ae y5 (ae y6 (ae y7 (ae y8 (opt (aZ (3,(n5,d.2,n4),bj)) λaE=>ret ((n5,d.2,n4),aE)) no) no) no) no) no) no) no) no) no) (ae y0 (ae y1 (ae y2 (ae y3 (ae y4 (ae y5 (ae y6 (ae y7 (ae y8 (opt (bf ((3,1,true),(n5,d.2,n4),(λj=>bif ww j 0 then n1 0 else n1 0,λj=>bif ww j 0 then n1 1 else n1 1,λj=>bif ww j 0 then n1 2 else n1 2,λj=>bif ww j 0 then n1 3 else n1 3,λj=>bif ww j 0 then n1 4 else n1 4,λj=>bif ww j 0 then n1 5 else n1 5,λj=>bif ww j 0 then n1 6 else n1 6,λj=>bif ww j 0 then n1 7 else n1 7,λj=>bif ww j 0 then n1 8 else n1 8,λj=>bif ww j 0 then n1 9 else n1 9,λj=>bif ww j 0 then n1 10 else n1 10,λj=>bif ww j 0 then n1 11 else n1 11,λj=>bif ww j 0 then n1 12 else n1 12,λj=>bif ww j 0 then n1 13 else n1 13,λj=>bif ww j 0 then n1 14 else n1 14,λj=>bif ww j 0 then n1 15 else n1 15,λj=>bif ww j 0 then n1 16 else n1 16,λj=>bif ww j 0 then n1 17 else n1 17,λj=>bif ww j 0 then n1 18 else n1 18,λj=>bif ww j 0 then n1 19 else n1 19,λj=>bif ww j 0 then n1 20 else n1 20,λj=>bif ww j 0 then n1 21 else n1 21,λj=>bif ww j 0 then n1 22 else n1 22,λj=>bif ww j 0 then n1 23 else n1 23,λj=>bif ww j 0 then ba.1 else ba.1,λj=>bif ww j 0 then ba.2.1 else ba.2.1,λj=>bif ww j 0 then ba.2.2 else ba.2.2),bj)) λd=>ret d.2.1) no) no) no) no) no) no) no) no) no))) no) no) no) no) no) no) no) no) no
def nY:=λx=>(F' ym jQ RB wg dW FD dn x).val
theorem ao1:∀mE nm aby CJ bf Ns aZ,D0 [abh mE,Dv nm,aB0 aby,YY CJ,qY bf,aof Ns,nT aZ] 173 nX (lf Eg) λb=>F' mE nm aby CJ bf Ns aZ b:=λ_ _ _ _ _ _ _ b=>by kernel_rfl
theorem ao2 [ax]:SC (So nY):=s0 (.c an8 (.c Us (.c aOE (.c auc (.c wq (.c aGz (.c sN (.nil _)))))))) (ao1 ym jQ RB wg dW FD dn)
def tz:=qa (pr (cu eN (c ai DR)) (cd pP λb0=>(c kZ (c ml (c (cl (gs b0.c.1 mj) nil) (cd qj λb4=>(cd oB λb5=>(cd oC λb6=>(cd oD λb7=>(cd oE λb8=>(cd oF λb9=>(c lN (cd rX λtQ=>(c (cl (gs b0.e kd) nil) (c (cl (gs b4.b.1 aA) nil) (c (cl (gs b5.b.1 aA) nil) (c (cl (gs b6.b.1 aA) nil) (c (cl (gs b7.b.1 aA) nil) (c (cl (gs b8.b.1 aA) nil) (c (cl (gs b9.b.1 aA) nil) (cl (cl (gs tQ.b hI) nil) nil)))))))))))))))))))))
def N8:=qe as9
def ak2:=qe (res (pu V4 (pr (c aXB aQ4) aKv)))
abbrev EK:=N8.B⊕(((Hn×Bool×NI×(NI×NI)×Nat×rV×Bool×Int×ma×Bool×Bool×Bool×Int×Int×Int×ET×Nat)×aMK×Int)×NI×NI×NI×NI×NI×NI×NI×NI×NI×NI)
def abz:EK->T:=ls (lf N8) (λd=>lf ak2 (d.1,d.1.1.e,d.2))
abbrev Nt:=tz.B->Option EK
def abA (g:Nt):Ct:=(109,FC tz abz g)
def Nu (CL:Zb)(rS:IV)(jG:J3)(ph:an4)(cz:Nk)(iS:HI)(np:ajQ)(aZ:nS)(yP:Sn)(uN:Nm)(CM:Zg)(x:tz.B):Pg EK:=let n24:=x.2.1;let bj:=x.1.2;let n9:=x.2.2;let n8:=x.1.1;let n5:=bj.2.2.2;let n16:=n5.2.2.2;let n4:=n9.2.2.2.2;let bI:=n4.2.2.2;let n3:=n24.1;let n6:=n3.2.2.2.2.1;let n17:=n6.2.2.2;let n2:=n24.2.2;let n25:=n2.2.2;let n15:=n25.2.2.2.2.2.2;let n1:=(n24,bI.2.2.1);let y0:=aX n8 6;let y1:=n8==2;let y2:=n8==3;let y3:=n8==5;let y4:=n8==4;let y5:=n8==1;let y6:=ww n25.1 n25.1;let y7:=ww n15.2.2.2.2.2.2 n15.2.2.2.2.2.2;let y8:=ww n9.2.2.2.1.2.2.1 n9.2.2.2.1.2.2.1;let y9:=ww n4.1.2.2.1 n4.1.2.2.1;let uc:=ww n4.2.1.2.2.1 n4.2.1.2.2.1;let ud:=ww n4.2.2.1.2.2.1 n4.2.2.1.2.2.1;let wK:=ww bI.1.2.2.1 bI.1.2.2.1;let yF:=ww bI.2.1.2.2.1 bI.2.1.2.2.1;let wL:=ww bI.2.2.2.1.2.2 bI.2.2.2.1.2.2;ae (n25.2.1.1==0) (ret (ws n1)) (ae (n25.2.1.1==1) (ae y2 (ae (!n15.1) (ae y6 (ae y7 (ae y8 (ae y9 (ae uc (ae ud (ae wK (ae yF (ae wL (opt (CL (bj,x.2)) λd=>sm d (λd=>ret (ws d)) (λd=>let n22:=d.1.1.2;let aT:=n22.2.2.2;let n23:=aT.2.2.2;ret (wr (((d.1.1.1,n22.1,n22.2.1,n22.2.2.1,aT.1,aT.2.1,aT.2.2.1,n23.1,n23.2.1,n23.2.2.1,true,n23.2.2.2),d.1.2),d.2)))) no) no) no) no) no) no) no) no) no) (ret (ws n1))) (ret (ws n1))) (ae (n8==0) (ae y6 (ae y7 (ae y8 (ae y9 (ae uc (ae ud (ae wK (ae yF (ae wL (opt (rS (bj,x.2)) λd=>sm d (λd=>let n18:=d.1.1.2;let n7:=n18.2.2.2.2;let n19:=n7.2.2.2;ret (wr (((d.1.1.1,n18.1,n18.2.1,n18.2.2.1,n18.2.2.2.1,n7.1,n7.2.1,n7.2.2.1,n19.1,n19.2.1,n19.2.2.1,true,n19.2.2.2.1,n19.2.2.2),d.1.2),d.2))) (λd=>ret (ws d))) no) no) no) no) no) no) no) no) no) (ae y5 (opt (jG bj.1 bj.2.1 bj.2.2.1 n5.1 n5.2.1 n5.2.2.1 n16.1 n16.2.1 n16.2.2 n24.2.1) λd=>let bo:=d.1.1;ae y0 (ae y3 (opt (ph n2.1 bo.1 bo.2 n17.2.2 d.2) λd=>ae y6 (ae y7 (ae y8 (ae y9 (ae uc (ae ud (ae wK (ae yF (ae wL (opt (cz ((n8,1,d.1),(n3,d.2,n2),n9)) λd=>ret (ws d)) no) no) no) no) no) no) no) no) no) (ae y4 (opt (ph n2.1 bo.1 bo.2 n17.2.1 d.2) λd=>ae y6 (ae y7 (ae y8 (ae y9 (ae uc (ae ud (ae wK (ae yF (ae wL (opt (cz ((n8,1,d.1),(n3,d.2,n2),n9)) λd=>ret (ws d)) no) no) no) no) no) no) no) no) no) (ae y2 (opt (ph n2.1 bo.1 bo.2 n17.1 d.2) λd=>ae y6 (ae y7 (ae y8 (ae y9 (ae uc (ae ud (ae wK (ae yF (ae wL (opt (cz ((n8,1,d.1),(n3,d.2,n2),n9)) λd=>ret (ws d)) no) no) no) no) no) no) no) no) no) (ae y1 (opt (ph n2.1 bo.1 bo.2 n6.2.2.1 d.2) λd=>ae y6 (ae y7 (ae y8 (ae y9 (ae uc (ae ud (ae wK (ae yF (ae wL (opt (cz ((n8,1,d.1),(n3,d.2,n2),n9)) λd=>ret (ws d)) no) no) no) no) no) no) no) no) no) (ae y5 (opt (ph n2.1 bo.1 bo.2 n6.2.1 d.2) λd=>ae y6 (ae y7 (ae y8 (ae y9 (ae uc (ae ud (ae wK (ae yF (ae wL (opt (cz ((n8,1,d.1),(n3,d.2,n2),n9)) λd=>ret (ws d)) no) no) no) no) no) no) no) no) no) (opt (ph n2.1 bo.1 bo.2 n6.1 d.2) λd=>ae y6 (ae y7 (ae y8 (ae y9 (ae uc (ae ud (ae wK (ae yF (ae wL (opt (cz ((n8,1,d.1),(n3,d.2,n2),n9)) λd=>ret (ws d)) no) no) no) no) no) no) no) no) no)))))) no) (ae y1 (opt (iS bj.1 bj.2.1 bj.2.2.1 n5.1 n5.2.1 n5.2.2.1 n16.1 n16.2.1 n16.2.2 n24.2.1) λd=>let ba:=d.1.1;let n21:=ba.2.2;let n20:=ba.2.1;ae y0 (ae y3 (opt (np n2.1 ba.1 n20 n21 n17.2.2 d.2) λd=>ae (d.1.2!=0) (ae y6 (ae y7 (ae y8 (ae y9 (ae uc (ae ud (ae wK (ae yF (ae wL (opt (aZ (n8,(n3,d.2,n2),n9)) λaj=>ret (ws ((n3,d.2,n2),aj))) no) no) no) no) no) no) no) no) no) (ae y6 (ae y7 (ae y8 (ae y9 (ae uc (ae ud (ae wK (ae yF (ae wL (opt (cz ((n8,3,d.1.1),(n3,d.2,n2),n9)) λd=>ret (ws d)) no) no) no) no) no) no) no) no) no)) (ae y4 (opt (np n2.1 ba.1 n20 n21 n17.2.1 d.2) λd=>ae (d.1.2!=0) (ae y6 (ae y7 (ae y8 (ae y9 (ae uc (ae ud (ae wK (ae yF (ae wL (opt (aZ (n8,(n3,d.2,n2),n9)) λaj=>ret (ws ((n3,d.2,n2),aj))) no) no) no) no) no) no) no) no) no) (ae y6 (ae y7 (ae y8 (ae y9 (ae uc (ae ud (ae wK (ae yF (ae wL (opt (cz ((n8,3,d.1.1),(n3,d.2,n2),n9)) λd=>ret (ws d)) no) no) no) no) no) no) no) no) no)) (ae y2 (opt (np n2.1 ba.1 n20 n21 n17.1 d.2) λd=>ae (d.1.2!=0) (ae y6 (ae y7 (ae y8 (ae y9 (ae uc (ae ud (ae wK (ae yF (ae wL (opt (aZ (n8,(n3,d.2,n2),n9)) λaj=>ret (ws ((n3,d.2,n2),aj))) no) no) no) no) no) no) no) no) no) (ae y6 (ae y7 (ae y8 (ae y9 (ae uc (ae ud (ae wK (ae yF (ae wL (opt (cz ((n8,3,d.1.1),(n3,d.2,n2),n9)) λd=>ret (ws d)) no) no) no) no) no) no) no) no) no)) (ae y1 (opt (np n2.1 ba.1 n20 n21 n6.2.2.1 d.2) λd=>ae (d.1.2!=0) (ae y6 (ae y7 (ae y8 (ae y9 (ae uc (ae ud (ae wK (ae yF (ae wL (opt (aZ (n8,(n3,d.2,n2),n9)) λaj=>ret (ws ((n3,d.2,n2),aj))) no) no) no) no) no) no) no) no) no) (ae y6 (ae y7 (ae y8 (ae y9 (ae uc (ae ud (ae wK (ae yF (ae wL (opt (cz ((n8,3,d.1.1),(n3,d.2,n2),n9)) λd=>ret (ws d)) no) no) no) no) no) no) no) no) no)) (ae y5 (opt (np n2.1 ba.1 n20 n21 n6.2.1 d.2) λd=>ae (d.1.2!=0) (ae y6 (ae y7 (ae y8 (ae y9 (ae uc (ae ud (ae wK (ae yF (ae wL (opt (aZ (n8,(n3,d.2,n2),n9)) λaj=>ret (ws ((n3,d.2,n2),aj))) no) no) no) no) no) no) no) no) no) (ae y6 (ae y7 (ae y8 (ae y9 (ae uc (ae ud (ae wK (ae yF (ae wL (opt (cz ((n8,3,d.1.1),(n3,d.2,n2),n9)) λd=>ret (ws d)) no) no) no) no) no) no) no) no) no)) (opt (np n2.1 ba.1 n20 n21 n6.1 d.2) λd=>ae (d.1.2!=0) (ae y6 (ae y7 (ae y8 (ae y9 (ae uc (ae ud (ae wK (ae yF (ae wL (opt (aZ (n8,(n3,d.2,n2),n9)) λaj=>ret (ws ((n3,d.2,n2),aj))) no) no) no) no) no) no) no) no) no) (ae y6 (ae y7 (ae y8 (ae y9 (ae uc (ae ud (ae wK (ae yF (ae wL (opt (cz ((n8,3,d.1.1),(n3,d.2,n2),n9)) λd=>ret (ws d)) no) no) no) no) no) no) no) no) no))))))) no) (ae y2 (ae y6 (ae y7 (ae y8 (ae y9 (ae uc (ae ud (ae wK (ae yF (ae wL (opt (yP (bj,x.2)) λd=>ret (ws d)) no) no) no) no) no) no) no) no) no) (ae y4 (ae y6 (ae y7 (ae y8 (ae y9 (ae uc (ae ud (ae wK (ae yF (ae wL (opt (uN (bj,x.2)) λd=>ret (ws d)) no) no) no) no) no) no) no) no) no) (ae y6 (ae y7 (ae y8 (ae y9 (ae uc (ae ud (ae wK (ae yF (ae wL (opt (CM (bj,x.2)) λd=>ret (ws d)) no) no) no) no) no) no) no) no) no)))))))
def tC:=λx=>(Nu rb j6 nw FA lX mn Dj dn nY lZ rj x).val
theorem axy:∀CL rS jG ph cz iS np aZ yP uN CM,D1 [Zc CL,IW rS,J4 jG,an5 ph,Nl cz,HJ iS,ajR np,nT aZ,So yP,Nn uN,Zh CM] [0,10] 109 tz abz λb=>Nu CL rS jG ph cz iS np aZ yP uN CM b:=λ_ _ _ _ _ _ _ _ _ _ _ b=>by kernel_rfl
theorem axz [ax]:SC (abA tC):=s0 (.c auo (.c adT (.c YE (.c aGx (.c aiB (.c UO (.c aDb (.c sN (.c ao2 (.c aiD (.c aus (.nil _)))))))))))) (axy rb j6 nw FA lX mn Dj dn nY lZ rj)
def kD:=qa (pr (cu Ia (cu Q8 agf)) (cd age λb0=>(c wM (cl (cl (gs b0.b hI) nil) nil))))
def tU:=qe (res (pr ai (pl (cu fJ (c auV aQV)) nil)))
abbrev uO:=tU.B
abbrev uP:=kD.B->Option uO
def EL (g:uP):Ct:=(114,FC kD (lf tU) g)
def dH:=qs (st (dp (us 3 (c ai (cu aMV (cu aD3 (cu aqu (us 2 (c ai (us 12 (c aPS (c ai (cl ai (us 74 nil)))))))))))) λv=>(pl (c (so age) (c cD (c (so (cl (gs v.b.1 hI) nil)) aW2))) aEc)))
def Sq:=qs (st (pr (us 3 (c ai (cu aMV (cu aD3 (cu aqu (us 2 (c ai (us 12 (c aPS (c ai (c ai (cl ab (us 73 nil))))))))))))) (pl (c (so age) (c cD (c Wa aW2))) aEc)))
abbrev jx:=((Int×Int×Nat×Int×Int×Bool)×uU×Bool×(NI×NI×NI×NI×NI×NI×NI×NI×NI×NI×NI)×NI)
def Br {ρ:Type}(x:jx)(K:AX->St->Option ρ):Option ρ:=(λd=>K (.ex 0) (Sq.em (d.1,d.2.1,d.b.1,(d.1.b.1,d.b.2.1),d.c))) x
def sR (d:dH.B):PL dH jx:=let n1:=d.1.2.2;let n2:=n1.2.2;let y0:=decide (n2<n1.2.1);ae y0 (ae (aX n2 n1.1) (ae (decide (d.2.2.2.1.1 (wt n2)<=d.1.1)) (ret (ws ((d.1.1,n2,n1.1,n1.2.1,wI (n2+1)),d.2))) (ret (ws ((d.1.1,d.1.2.1,n1.1,n1.2.1,wI (n2+1)),d.2)))) no) (ret (wr ((d.1.1,d.1.2.1,n1.1,n1.2.1,n2,y0),d.2)))
def sS:=bC (sR) 2000
def eI:=qs aXA
def Sr:=qs (st (pr (us 4 (cu aMV (cu aD3 (us 8 (cu (app 5 3) (cu (app 6 3) (cu (app 7 4) (cu (app 8 4) (c ai (us 62 (c ai (cu Q8 (cu Ia (cu Ia (cu aWx (c ai (c ai (c (ac (NN (pu (nat 7) (pl (ok' hole) CU)))) (c ai (c ai (cl (ac (NN (pu zO (pl (ok' hole) CU)))) (us 7 nil)))))))))))))))))))))) (pl (c (so age) (c cD (c Wa (cu axX (cu abL (c yW (c yW (c wQ (cl wQ nil))))))))) aEc)))
abbrev gw:=((Int×Int×Nat×Int×Int×Nat)×(Int×Nat)×Bool×aIF×ma×ma×aIG×Int×Int×Int×Int)
def Bs {ρ:Type}(x:gw)(K:AX->St->Option ρ):Option ρ:=(λd=>K .nrm (Sr.em ((d.1.1,d.1.1,d.1.2.1,d.1.1,d.1.b),(d.2.1.1,d.1.2.1,d.2.1.2),d.b))) x
def sU (aB:bT)(d:eI.B):Pg gw:=let ba:=d.2.2.1;let n6:=d.2.1.1;let n3:=d.2.2.2;let n7:=n3.2.1;let n2:=d.2.1.2;let n1:=n3.2.2;let n5:=n1.2.2;let aT:=n5.2.1;let n8:=n5.2.2;let n4:=n1.2.1;let bj:=n4.2.1;let n9:=n4.2.2;let y0:=aX d.1 4;let y1:=d.1==1;let y2:=d.1==3;let y3:=d.1==2;ae y0 (ae y2 (opt (aB n2.1 n9.2 30 ba) λaj=>ae y0 (ae y2 (ret ((d.1,n2.1,3,n9.2,aj.1,3),(n6,n2.2),aj.2,n3.1,n7,n1.1,n4,n5.1,aT,n8.1,aj.1)) (ae y3 (ret ((d.1,n2.1,3,n9.2,aj.1,2),(n6,n2.2),aj.2,n3.1,n7,n1.1,n4,n5.1,aT,aj.1,n8.2)) (ae y1 (ret ((d.1,n2.1,3,n9.2,aj.1,1),(n6,n2.2),aj.2,n3.1,n7,n1.1,n4,n5.1,aj.1,n8)) (ret ((d.1,n2.1,3,n9.2,aj.1,0),(n6,n2.2),aj.2,n3.1,n7,n1.1,n4,aj.1,n5.2))))) no) (ae y3 (opt (aB n2.1 n9.1 30 ba) λaj=>ae y0 (ae y2 (ret ((d.1,n2.1,2,n9.1,aj.1,3),(n6,n2.2),aj.2,n3.1,n7,n1.1,n4,n5.1,aT,n8.1,aj.1)) (ae y3 (ret ((d.1,n2.1,2,n9.1,aj.1,2),(n6,n2.2),aj.2,n3.1,n7,n1.1,n4,n5.1,aT,aj.1,n8.2)) (ae y1 (ret ((d.1,n2.1,2,n9.1,aj.1,1),(n6,n2.2),aj.2,n3.1,n7,n1.1,n4,n5.1,aj.1,n8)) (ret ((d.1,n2.1,2,n9.1,aj.1,0),(n6,n2.2),aj.2,n3.1,n7,n1.1,n4,aj.1,n5.2))))) no) (ae y1 (opt (aB n2.1 bj 30 ba) λaj=>ae y0 (ae y2 (ret ((d.1,n2.1,1,bj,aj.1,3),(n6,n2.2),aj.2,n3.1,n7,n1.1,n4,n5.1,aT,n8.1,aj.1)) (ae y3 (ret ((d.1,n2.1,1,bj,aj.1,2),(n6,n2.2),aj.2,n3.1,n7,n1.1,n4,n5.1,aT,aj.1,n8.2)) (ae y1 (ret ((d.1,n2.1,1,bj,aj.1,1),(n6,n2.2),aj.2,n3.1,n7,n1.1,n4,n5.1,aj.1,n8)) (ret ((d.1,n2.1,1,bj,aj.1,0),(n6,n2.2),aj.2,n3.1,n7,n1.1,n4,aj.1,n5.2))))) no) (opt (aB n2.1 n4.1 30 ba) λaj=>ae y0 (ae y2 (ret ((d.1,n2.1,0,n4.1,aj.1,3),(n6,n2.2),aj.2,n3.1,n7,n1.1,n4,n5.1,aT,n8.1,aj.1)) (ae y3 (ret ((d.1,n2.1,0,n4.1,aj.1,2),(n6,n2.2),aj.2,n3.1,n7,n1.1,n4,n5.1,aT,aj.1,n8.2)) (ae y1 (ret ((d.1,n2.1,0,n4.1,aj.1,1),(n6,n2.2),aj.2,n3.1,n7,n1.1,n4,n5.1,aj.1,n8)) (ret ((d.1,n2.1,0,n4.1,aj.1,0),(n6,n2.2),aj.2,n3.1,n7,n1.1,n4,aj.1,n5.2))))) no)))) no
def mF (d:eI.B):Option gw:=(sU aV d).val
def dI:=qs aXA
def Ss:=qs (st (pr (us 4 (cu aMV (cu aD3 (us 8 (cu (app 5 3) (cu (app 6 3) (cu (app 7 4) (cu (app 8 4) (c ai (us 49 aV9)))))))))) (pl (c (so age) (c cD (c Wa (cu axX (cu abL (c yW (c yW (c wQ (cl wQ nil))))))))) aEc)))
abbrev jy:=((Int×Bool)×uU×Bool×aIF×ma×ma×aIG×Int×Int×Int×Int)
def Bt {ρ:Type}(x:jy)(K:AX->St->Option ρ):Option ρ:=(λd=>K (.ex 2) (Ss.em ((d.1.1,d.1),d.2))) x
def sV (JV:LT eI gw)(d:dI.B):PL dI jy:=let n5:=d.2.1;let n2:=d.2.2;let n6:=n2.2.1;let n4:=n2.2.2.1;let n1:=n2.2.2.2;let n7:=n1.2.2;let n3:=n1.2.1;let n9:=n3.2.1;let n8:=n3.2.2;let y0:=aX d.1 4;let y1:=d.1==1;let y2:=d.1==3;let y3:=d.1==2;let y4:=decide (d.1<4);let y5:=wI (0-n3.1);let y6:=wI (0-n9);let y7:=wI (0-n8.1);let y8:=wI (0-n8.2);ae y4 (ae (decide (n3.1<0)) (ae y0 (ae y2 (ae y0 (ae y2 (opt (JV (d.1,n5,n2.1,n6,n4,n1.1,(n3.1,n9,n8.1,y8),n7)) λd=>ret (ws (wI (d.1.1+1),(d.2.1.1,d.1.2.1,d.2.1.2),d.2.2))) (ae y3 (opt (JV (d.1,n5,n2.1,n6,n4,n1.1,(n3.1,n9,y8,n8.2),n7)) λd=>ret (ws (wI (d.1.1+1),(d.2.1.1,d.1.2.1,d.2.1.2),d.2.2))) (ae y1 (opt (JV (d.1,n5,n2.1,n6,n4,n1.1,(n3.1,y8,n8),n7)) λd=>ret (ws (wI (d.1.1+1),(d.2.1.1,d.1.2.1,d.2.1.2),d.2.2))) (opt (JV (d.1,n5,n2.1,n6,n4,n1.1,(y8,n3.2),n7)) λd=>ret (ws (wI (d.1.1+1),(d.2.1.1,d.1.2.1,d.2.1.2),d.2.2)))))) no) (ae y3 (ae y0 (ae y2 (opt (JV (d.1,n5,n2.1,n6,n4,n1.1,(n3.1,n9,n8.1,y7),n7)) λd=>ret (ws (wI (d.1.1+1),(d.2.1.1,d.1.2.1,d.2.1.2),d.2.2))) (ae y3 (opt (JV (d.1,n5,n2.1,n6,n4,n1.1,(n3.1,n9,y7,n8.2),n7)) λd=>ret (ws (wI (d.1.1+1),(d.2.1.1,d.1.2.1,d.2.1.2),d.2.2))) (ae y1 (opt (JV (d.1,n5,n2.1,n6,n4,n1.1,(n3.1,y7,n8),n7)) λd=>ret (ws (wI (d.1.1+1),(d.2.1.1,d.1.2.1,d.2.1.2),d.2.2))) (opt (JV (d.1,n5,n2.1,n6,n4,n1.1,(y7,n3.2),n7)) λd=>ret (ws (wI (d.1.1+1),(d.2.1.1,d.1.2.1,d.2.1.2),d.2.2)))))) no) (ae y1 (ae y0 (ae y2 (opt (JV (d.1,n5,n2.1,n6,n4,n1.1,(n3.1,n9,n8.1,y6),n7)) λd=>ret (ws (wI (d.1.1+1),(d.2.1.1,d.1.2.1,d.2.1.2),d.2.2))) (ae y3 (opt (JV (d.1,n5,n2.1,n6,n4,n1.1,(n3.1,n9,y6,n8.2),n7)) λd=>ret (ws (wI (d.1.1+1),(d.2.1.1,d.1.2.1,d.2.1.2),d.2.2))) (ae y1 (opt (JV (d.1,n5,n2.1,n6,n4,n1.1,(n3.1,y6,n8),n7)) λd=>ret (ws (wI (d.1.1+1),(d.2.1.1,d.1.2.1,d.2.1.2),d.2.2))) (opt (JV (d.1,n5,n2.1,n6,n4,n1.1,(y6,n3.2),n7)) λd=>ret (ws (wI (d.1.1+1),(d.2.1.1,d.1.2.1,d.2.1.2),d.2.2)))))) no) (ae y0 (ae y2 (opt (JV (d.1,n5,n2.1,n6,n4,n1.1,(n3.1,n9,n8.1,y5),n7)) λd=>ret (ws (wI (d.1.1+1),(d.2.1.1,d.1.2.1,d.2.1.2),d.2.2))) (ae y3 (opt (JV (d.1,n5,n2.1,n6,n4,n1.1,(n3.1,n9,y5,n8.2),n7)) λd=>ret (ws (wI (d.1.1+1),(d.2.1.1,d.1.2.1,d.2.1.2),d.2.2))) (ae y1 (opt (JV (d.1,n5,n2.1,n6,n4,n1.1,(n3.1,y5,n8),n7)) λd=>ret (ws (wI (d.1.1+1),(d.2.1.1,d.1.2.1,d.2.1.2),d.2.2))) (opt (JV (d.1,n5,n2.1,n6,n4,n1.1,(y5,n3.2),n7)) λd=>ret (ws (wI (d.1.1+1),(d.2.1.1,d.1.2.1,d.2.1.2),d.2.2)))))) no)))) no) (opt (JV d) λd=>ret (ws (wI (d.1.1+1),(d.2.1.1,d.1.2.1,d.2.1.2),d.2.2)))) (ret (wr ((d.1,y4),d.2)))
def sW:=bC (sV mF) 2000
def uQ (jF:uq)(nu:JS)(aic:L7)(eS:xW)(bx:iO)(VV:ux)(ew:LT dH jx)(qx:LT dI jy)(x:kD.B):Pg uO:=let n8:=x.2.1.2.2;ae (ww n8 n8) (opt (ew ((x.1.2, -1,n8,wn n8,0),x.2.1,x.2.2.1,x.2.2.2,x.1.1)) λd=>let n16:=d.1.2;let n7:=d.2.2.2.1;let n2:=n7.2.2.2;let n9:=n2.2.2.2;let y0:=wt n16.1;ae (decide (n16.1<0)) (ret (4,d.2.2.1,n16.2.1,n7)) (ae (aX n16.1 d.2.1.2.2) (opt (jF d.2.2.2.2 d.1.1 d.2.2.1) λaj=>let n5:=aj.1.2.2.2.2;let bj:=n5.2.2.2;opt (nu n5.2.1 n5.2.2.1 bj.1 (n2.2.2.1 y0) (n9.1 y0) (n9.2.1 y0) aj.2) λaE=>opt (nu bj.2.1 bj.2.2.1 bj.2.2.2 (n9.2.2.1 y0) (n9.2.2.2.1 y0) (n9.2.2.2.2 y0) aE.2) λbE=>opt (aic (n7.2.1 y0) (n7.2.2.1 y0) (n2.1 y0) (n2.2.1 y0)) λcC=>opt (eS aj.1.2.1 aj.1.2.2.1 aj.1.2.2.2.1 n5.1 cC.1 cC.2.1 cC.2.2.1 cC.2.2.2 bE.2) λeJ=>opt (qx (1,d.2.1,eJ.2,(n16.2.1,n7),aE.1,bE.1,eJ.1,1073741824,0,0,0)) λd=>let n17:=d.2.1.2.2;let n1:=d.2.2.2;let ba:=n1.1.2;let aT:=n1.2.2.2.2;let n3:=ba.2.2.2.2;let n15:=n3.2.2.2;opt (bx aT.1 aT.2.1 aT.2.2.1 aT.2.2.2 d.2.2.1) λc9=>ae (ww n17 n17) (opt (VV (d.2.1,c9.2,n1.2.1,n1.2.2.1,c9.1,ba)) λlR=>let bo:=lR.2.2.2;let n6:=lR.2.1;let n4:=bo.2.2.2;let bI:=n4.2.2.2;let y0:=n6*11+0;ae (true&&ww y0 (n17*11)&&true) (ae (true&&wl (0+y0) (n1.1.1*11+0)) (ret (0,lR.1,n1.1.1,λj=>bif true&&v9 j (0+n6) then lR.2.2.1 j else ba.1 j,λj=>bif true&&v9 j (0+n6) then bo.1 j else ba.2.1 j,λj=>bif true&&v9 j (0+n6) then bo.2.1 j else ba.2.2.1 j,λj=>bif true&&v9 j (0+n6) then bo.2.2.1 j else ba.2.2.2.1 j,λj=>bif true&&v9 j (0+n6) then n4.1 j else n3.1 j,λj=>bif true&&v9 j (0+n6) then n4.2.1 j else n3.2.1 j,λj=>bif true&&v9 j (0+n6) then n4.2.2.1 j else n3.2.2.1 j,λj=>bif true&&v9 j (0+n6) then bI.1 j else n15.1 j,λj=>bif true&&v9 j (0+n6) then bI.2.1 j else n15.2.1 j,λj=>bif true&&v9 j (0+n6) then bI.2.2.1 j else n15.2.2.1 j,λj=>bif true&&v9 j (0+n6) then bI.2.2.2 j else n15.2.2.2 j)) no) no) no) no)) no
def kE:=λx=>(uQ kq vR BH ln dy ku sS sW x).val
abbrev iG:=uq×JS×L7×xW×bT×iO×mA×ux×(LT dH jx)×(LT eI gw)×(LT dI jy)
def kF (p:iG):KK:=⟨[GS p.1,W3 p.2.1,ahn p.b.1,Fl p.b.2.1,fq p.c.1,ni p.c.2.1,sE p.c.b.1,ED p.c.b.2.1],⟨[⟨3,(0::1::2::7::8::rg 10 12 (rg 25 74 [])),[]⟩,⟨15,(rg 0 4 (rg 6 8 (rg 19 80 []))),[]⟩],[fV 3 3 dH Br p.d.1,fV 15 3 dI Bt p.d.b],[1,2],[⟨⟨19,(rg 0 4 (rg 6 8 (rg 19 80 []))),[]⟩,fV 19 3 eI Bs p.d.2.1⟩],(some ⟨0,(rg 0 8 (rg 9 90 [])),[]⟩)⟩,3,114⟩
theorem P4 (p:iG):LI (kF p) 3 dH Br (sR):=λ_ d c K=>by kernel_rfl
theorem P5 (p:iG):JI (kF p) 19 eI Bs (sU p.c.1):=λ_ d K=>by kernel_rfl
theorem P6 (p:iG):LI (kF p) 15 dI Bt (sV p.d.2.1):=λ_ d c K=>by kernel_rfl
theorem VW (p:iG):D2 (kF p) kD (lf tU) λb=>uQ p.1 p.2.1 p.b.1 p.b.2.1 p.c.2.1 p.c.b.2.1 p.d.1 p.d.b b:=λb=>by kernel_rfl
abbrev kG:iG:=(kq,vR,BH,ln,aV,dy,gv,ku,sS,mF,sW)
theorem VX [ax]:SC (EL kE):=sc (kS (k:=kF kG) (.c M' (.c ahg (.c avS (.c KU (.c fO (.c oZ (.c Bk (.c VI (.nil _))))))))) [3,15] [19] ⟨kL (P4 kG),⟨kL (P6 kG),trivial⟩⟩ ⟨kJ ⟨19,(rg 0 4 (rg 6 8 (rg 19 80 []))),[]⟩ (P5 kG),trivial⟩ (VW kG))
def mq:=qa (pr (cu eN abP) (cd pP λb0=>(c kZ (c ml (c (cl (gs b0.c.1 mj) nil) (cd qj λb4=>(cd oB λb5=>(cd oC λb6=>(cd oD λb7=>(cd oE λb8=>(cd oF λb9=>(c lN (cd rX λtQ=>(c (cl (gs b0.e kd) nil) (c (cl (gs b4.b.1 aA) nil) (c (cl (gs b5.b.1 aA) nil) (c (cl (gs b6.b.1 aA) nil) (c (cl (gs b7.b.1 aA) nil) (c (cl (gs b8.b.1 aA) nil) (c (cl (gs b9.b.1 aA) nil) (cl (cl (gs tQ.b hI) nil) nil)))))))))))))))))))))
def La:=qe (res (pu V4 (pl (c (Bu pP) (cu fJ (cu fJ (cu fJ (cu fJ (cu fJ (cu fJ (cu fJ (cu fJ (cu fJ (cu fJ (cl (Bu rX) aKo)))))))))))) nil)))
def Lc:=qe (res (pu V4 (pr (c (Bu aRc) (cu fJ (cu fJ (cu fJ (cu fJ (cu fJ (cu fJ (cu fJ (cu fJ (cu fJ (cu fJ (cl (Bu aQT) aKo)))))))))))) aEl)))
abbrev ue:=La.B⊕Lc.B
def U3:ue->T:=ls (lf La) (lf Lc)
abbrev H0:=mq.B->Option ue
def U4 (g:H0):Ct:=(106,FC mq U3 g)
def fK:=qs (st (dp (cu eN (us 3 (cu Of (us 109 (c (ac aQK) (c ai aPX)))))) λv=>(pl (cd (so aRc) λb0=>(c mM (c mN (c (so (cl (gs v.1 mj) nil)) (cd (so qj) λb4=>(cd (so oB) λb5=>(cd (so oC) λb6=>(cd (so oD) λb7=>(cd (so oE) λb8=>(cd (so oF) λb9=>(c lO (c (so aQT) (c (so (cl (gs b0.d.c.b kd) nil)) (c (so (cl (gs b4.b.1 aA) nil)) (c (so (cl (gs b5.b.1 aA) nil)) (c (so (cl (gs b6.b.1 aA) nil)) (c (so (cl (gs b7.b.1 aA) nil)) (c (so (cl (gs b8.b.1 aA) nil)) (c (so (cl (gs b9.b.1 aA) nil)) aKy))))))))))))))))))) aWj)))
def ak3:=qs (st (pr (cu eN (us 3 (cu Of (us 109 (c (ac aQK) aWl))))) (pl (c (so aRc) (c mM (c mN (c oG (c (so qj) (c (so oB) (c (so oC) (c (so oD) (c (so oE) (c (so oF) (c lO (c (so aQT) (c oH (c jk (c jk (c jk (c jk (c jk (c jk aKy))))))))))))))))))) aWj)))
abbrev qd:=((Nat×Int×Int×Bool)×(Hn×Bool×acK×(NI×NI)×Nat×rV×Int×ma×Bool×Bool×Int×Int×Int×ET×Nat)×(ma×Int×Int)×Oc×(NI×NI×NI×NI×NI×NI×NI×NI)×bZ×bZ×bZ×bZ×bZ×bZ×NH×uU×aSA×eW×eW×eW×eW×eW×eW×aIF×Nat×NI×NI×NI×NI×NI×NI×NI×NI×NI×NI×NI)
def N9 {ρ:Type}(x:qd)(K:AX->St->Option ρ):Option ρ:=(λd=>K (.ex 0) (ak3.em (d.1,d.2.1,d.b.1,d.b.2.1,(d.1.1,d.c.1),d.c.2.1,d.c.b.1,d.c.b.2.1,d.d.1,d.d.2.1,d.d.b.1,d.d.b.2.1,d.d.c.1,(d.2.1.d.c.b,d.d.c.2.1),(d.c.2.1.b.1,d.d.c.b.1),(d.c.b.1.b.1,d.d.c.b.2.1),(d.c.b.2.1.b.1,d.e.1),(d.d.1.b.1,d.e.2.1),(d.d.2.1.b.1,d.e.b.1),(d.d.b.1.b.1,d.e.b.2.1),d.e.c))) x
def Eh (zL:m7)(d:fK.B):PL fK qd:=let ba:=d.2.2;let aT:=d.2.1;let n9:=d.1.2;let n4:=ba.2.2;let n8:=n4.1.2.2.2;let n7:=n4.2.2.2;let bj:=n7.2.2;let n2:=bj.2.2;let bo:=n2.2.2;let n5:=bo.2.2.2;let n3:=n5.2.2.2.2.2.2;let n6:=n3.2.2.2.2.2;let n1:=(d.1.1,n9.1,wI (n9.2+1));let y0:=0+wt n9.2;let y1:=decide (n9.2<n9.1);ae y1 (ae (aX n9.2 d.1.1) (ae (ww n2.2.1.2.2 n2.2.1.2.2) (opt (zL ((aT.2.2.1,n4.1.1 y0,n4.1.2.1 y0,(n4.1.2.2.1 y0,n8.1 y0,n8.2.1 y0),n8.2.2.1 y0,n8.2.2.2.1 y0,n8.2.2.2.2 y0),n2.2.1,aT.2.1,λj=>n3.1 (0+j),λj=>n3.2.1 (0+j),λj=>n3.2.2.1 (0+j),λj=>n3.2.2.2.1 (0+j),λj=>n3.2.2.2.2.1 (0+j),λj=>n6.1 (0+j),λj=>n6.2.1 (0+j),λj=>n6.2.2.1 (0+j),λj=>n6.2.2.2.1 (0+j),λj=>n6.2.2.2.2.1 (0+j),λj=>n6.2.2.2.2.2 (0+j))) λaj=>sm aj (λaE=>ret (ws (n1,(aT.1,aE.2.2,aT.2.2),ba.1,ba.2.1,n4.1,n4.2.1,n4.2.2.1,n7.1,n7.2.1,bj.1,bj.2.1,n2.1,aE.2.1,bo))) (λaE=>ret (ws (n1,(aT.1,aE.1.2,aT.2.2),ba.1,ba.2.1,n4.1,n4.2.1,n4.2.2.1,n7.1,n7.2.1,bj.1,bj.2.1,n2.1,aE.1.1,bo.1,bo.2.1,bo.2.2.1,n5.1,n5.2.1,n5.2.2.1,n5.2.2.2.1,n5.2.2.2.2.1,aE.2)))) no) no) (ret (wr ((d.1.1,n9.1,n9.2,y1),d.2)))
def qf:=bC (Eh fQ) 2000
def z6 (vh:Bg)(nI:vz)(aB:bT)(dU:BM)(aO6:anj)(cV:zb)(bY:gf)(Z5:w7)(ew:LT fK qd)(x:mq.B):Pg ue:=let bo:=x.2.1;let n8:=x.1.2.2.2;let n7:=bo.2.2;let n5:=x.2.2.2.2.2;let n2:=n7.2.2;let n6:=n2.2.2.2.2;let n15:=n6.2.2.2.2.2.2.2.2;let n1:=n5.2.2.2;let bI:=n1.2.2;let n4:=bI.2.2;let n9:=n4.2.2.2.2;let y0:=wI (n2.2.2.2.1+1);opt (vh n8.1 n8.2.1 n8.2.2 bo.2.1) λd=>opt (nI x.1.2.1 d.2) λaj=>opt (aB 10529810258 aj.1 30 aj.2) λaE=>let oN:=wI (d.1-aE.1);let y1:=wI (aE.1-d.1);ae (decide (wI (4*if y1>oN then y1 else oN)>aE.1)) (ret (ws ((bo.1,aE.2,n7.1,n7.2.1,n2.1,n2.2.1,n2.2.2.1,0,(0,0,0),n6.2),n4.1))) (opt (dU 2 aE.2 (cr n6.1.1 [n8.1,n6.1.1]) (cr n6.1.2.1 [n8.2.1,n6.1.2.1]) (cr n6.1.2.2 [n8.2.2,n6.1.2.2]) true) λd=>ae (y0 !=10) (ret (ws ((bo.1,d.2,n7.1,n7.2.1,n2.1,n2.2.1,n2.2.2.1,y0,d.1,n6.2),n4.1))) (opt (aO6 d.1.1 d.1.2.1 d.1.2.2 d.2) λbE=>opt (cV n7.1 0 4 (cr bE.1.1 [bE.1.2.2.2,bE.1.2.2.1,bE.1.2.1,bE.1.1]) false) λcC=>opt (bY n7.2.1.1 n7.2.1.2 0 4 bE.2 bo.1.2.2.2.2.2.2.2.1 false) λeJ=>ae (ww n4.1.2.2 n4.1.2.2) (opt (Z5 ((cC,x.1.1),n4.1,eJ.2,n9.2.2.2.2)) λc9=>let aT:=c9.2.2.2;let n3:=aT.2.2.2;let ba:=n3.2.2.2;ae (ww n2.1 n2.1) (ae (ww n15 n15) (ae (ww n5.1.2.2.1 n5.1.2.2.1) (ae (ww n5.2.1.2.2.1 n5.2.1.2.2.1) (ae (ww n5.2.2.1.2.2.1 n5.2.2.1.2.2.1) (ae (ww n1.1.2.2.1 n1.1.2.2.1) (ae (ww n1.2.1.2.2.1 n1.2.1.2.2.1) (ae (ww bI.1.2.2.1 bI.1.2.2.1) (opt (ew ((n2.1,wn n2.1,0),(bo.1,c9.1.2,cC,eJ.1,n2.1,n2.2.1,y0,d.1,n6.2.2),x.2.2.1,x.2.2.2.1,x.2.2.2.2.1,n5.1,n5.2.1,n5.2.2.1,n1.1,n1.2.1,bI.1,bI.2.1,(c9.1.1.1,c9.1.1.2,1),n4.2.1,n4.2.2.1,n4.2.2.2.1,n9.1,n9.2.1,n9.2.2.1,n9.2.2.2.1,(n4.1.2.2,n9.2.2.2.2),1,λj=>bif ww j 0 then c9.2.1 else c9.2.1,λj=>bif ww j 0 then c9.2.2.1 else c9.2.2.1,λj=>bif ww j 0 then aT.1 else aT.1,λj=>bif ww j 0 then aT.2.1 else aT.2.1,λj=>bif ww j 0 then aT.2.2.1 else aT.2.2.1,λj=>bif ww j 0 then n3.1 else n3.1,λj=>bif ww j 0 then n3.2.1 else n3.2.1,λj=>bif ww j 0 then n3.2.2.1 else n3.2.2.1,λj=>bif ww j 0 then ba.1 else ba.1,λj=>bif ww j 0 then ba.2.1 else ba.2.1,λj=>bif ww j 0 then ba.2.2 else ba.2.2)) λd=>let bj:=d.2.2.2.2.2.2.2.2.2.2.2.2;ret (wr ((d.2.1,bj.1),bj.2.2.2.2.2.2.2.2.2))) no) no) no) no) no) no) no) no) no))
def pB:=λx=>(z6 pF jW aV kg KX gC de ep qf x).val
abbrev z7:=Bg×vz×bT×BM×anj×zb×gf×w7×m7×(LT fK qd)
def H2 (p:z7):KK:=⟨[Rk p.1,GL p.2.1,fq p.b.1,JU p.b.2.1,aBd p.c.1,DG p.c.2.1,AD p.c.b.1,Hb p.c.b.2.1,zF p.d.1],⟨[⟨15,(1::2::3::rg 5 109 (rg 117 15 [])),[(1,[])]⟩],[fV 15 20 fK N9 p.d.2],[11],[],(some ⟨0,(rg 0 132 []),[]⟩)⟩,20,106⟩
theorem aiG (p:z7):LI (H2 p) 15 fK N9 (Eh p.d.1):=λ_ d c K=>by kernel_rfl
theorem aqh (p:z7):D2 (H2 p) mq U3 λb=>z6 p.1 p.2.1 p.b.1 p.b.2.1 p.c.1 p.c.2.1 p.c.b.1 p.c.b.2.1 p.d.2 b:=λb=>by kernel_rfl
abbrev H4:z7:=(pF,jW,aV,kg,KX,gC,de,ep,fQ,qf)
theorem aqi [ax]:SC (U4 pB):=sc (kS (k:=H2 H4) (.c aaH (.c O4 (.c fO (.c OW (.c aOl (.c Ir (.c Fq (.c ZX (.c IS (.nil _)))))))))) [15] [] ⟨kL (aiG H4),trivial⟩ trivial (aqh H4))
def aky:=qa (pl Hq nil)
def U5:=qe aEh
def H5:=qe aXe
abbrev xF:=U5.B⊕H5.B
def afG:xF->T:=ls (lf U5) (lf H5)
def akz:xF->T:=ls (λ_=>.fail) (lf H5)
abbrev Ut:=Int->Int->Int->Option xF
def akA (g:Ut):Ct:=(42,FC aky akz (λb=>g b.1 b.2.1 b.b))
def akB (cM:vj)(eT:WJ)(aq:cx)(eD:KQ)(hO:Ri)(ur:ag9)(aD:cL)(x0:Int)(x1:Int)(x2:Int):Pg xF:=opt (cM x0 x1 x2) λd=>ae (!d) (ret (ws ())) (ae (decide (x0>850000000)) (ret (ws ())) (ae (decide (x0< -850000000)) (ret (ws ())) (opt (aq x0 3373259426 1800000000 false) λd=>opt (eD d.1 d.2) λaj=>opt (hO d.1 aj.2) λd=>opt (eT aj.1 aj.1 d.2) λaE=>opt (eT 7188036 aE.1 aE.2) λbE=>let y0:=wI (1073741824-bE.1);opt (ur y0 bE.2) λcC=>opt (aD 6531212288 cC.1 30 cC.2) λeJ=>opt (eT 6531212288 1066553788 eJ.2) λc9=>opt (eT y0 cC.1 c9.2) λlR=>opt (aD c9.1 lR.1 30 lR.2) λpY=>opt (aq pY.1 3373259426 1800000000 pY.2) λmV=>opt (eT eJ.1 d.1 mV.2) λd=>opt (aq d.1 3373259426 1800000000 d.2) λd=>ret (wr (x0,x1,x2,mV.1,d.1)))))
def Dw:=λx0 x1 x2=>(akB gO vQ aU nE su BE bu x0 x1 x2).val
theorem aDy:∀cM eT aq eD hO ur aD,D0 [zm cM,WK eT,dt aq,KR eD,Rj hO,aha ur,gA aD] 42 aky afG λb=>akB cM eT aq eD hO ur aD b.1 b.2.1 b.b:=λ_ _ _ _ _ _ _ b=>by kernel_rfl
theorem aDz [ax]:SC (akA Dw):=sc (E3 (R:=afG) (R':=akz) (λd r h=>by rcases d with d|d<;>first|exact h|(have h:(none:Option oO)=some r:=h;cases h))<|k0 (.c DK (.c ama (.c dE (.c Rh (.c aaF (.c avK (.c iy (.nil _)))))))) (aDy gO vQ aU nE su BE bu))
def akC:=qa (pl gW nil)
def U6:=qe aEh
def H6:=qe (res (pu (ry (cu (rc (cp 0 10)) alg)) (pu nil (cl aXx nil))))
abbrev Jz:=U6.B⊕H6.B
def afH:Jz->T:=ls (lf U6) (lf H6)
def akD:Jz->T:=ls (λ_=>.fail) (lf H6)
abbrev Uu:=Int->Option Jz
def akE (g:Uu):Ct:=(51,FC akC akD (λb=>g b))
def Uv (x0:Int):Pg Jz:=ae (decide (x0<1000)) (ret (ws ())) (ae (decide (x0>100000)) (ret (ws ())) (ret (wr x0)))
def Dx:=λx0=>(Uv x0).val
theorem aDA:D0 [] 51 akC afH λb=>Uv b:=λb=>by kernel_rfl
theorem aDB [ax]:SC (akE Dx):=sc (E3 (R:=afH) (R':=akD) (λd r h=>by rcases d with d|d<;>first|exact h|(have h:(none:Option oO)=some r:=h;cases h))<|k0 (.nil _) aDA)
def afI:=qa (dp aWk λv=>(cl (cl (gs v.2.1 nC) nil) nil))
def Su:=qe (res (pu aWA (pu Z8 nil)))
def Ga:=qe (res (pu (ry (cu (rc (cp 1 37)) alg)) (pu Z8 (cl aQL nil))))
abbrev AW:=Su.B⊕Ga.B
def abB:AW->T:=ls (lf Su) (lf Ga)
def afJ:AW->T:=ls (λ_=>.fail) (lf Ga)
abbrev P7:=Int->Nat->NI->Bool->Option AW
def afK (g:P7):Ct:=(52,uW 1 [.i .i64] (FC afI afJ (λb=>g b.1.1 b.1.2.1 b.2 b.1.b)))
def ka:=qs (st (dp (c ai (us 1 (xs 1 (us 3 (cu (app 1 37) (us 15 (c V8 (c ai aVT)))))))) λv=>(pl (c (so (cl (gs v.2.1.1 nC) nil)) aW7) nil)))
def N':=qs (st (pu (us 4 (cu (ac ax1) (cu (ac axU) (us 40 nil)))) (pl alh nil)))
def ak4:=qs (st (pr (c ai (us 1 (xs 1 (us 3 (cu (app 1 37) (us 15 (c V8 (c ai aV6)))))))) (pl (c JD aW7) nil)))
abbrev wA:=N'.B⊕((Int×(Nat×Bool)×Int×Int×Bool)×NI×NI×NI×(Nat->Bool)×NI×NI×NI)
def Zq {ρ:Type}(x:wA)(K:AX->St->Option ρ):Option ρ:=(t7 (λd=>K .ret (N'.em d)) (λd=>K (.ex 0) (ak4.em (d.1,(d.1.2.1.1,d.2.1),d.b)))) x
def Kq (d:ka.B):PL ka wA:=let n4:=d.2.1;let n2:=d.2.2.2;let n1:=d.1.2;let n3:=n1.2.2;let y0:=wt n3;let y1:=0+y0*6+6;let y2:=decide (n3<n1.2.1);ae y2 (ae (aX n3 n1.1.1) (ae (decide (n4 y0<1)) (ret (wr (ws (n1.1.1,n4)))) (ae (decide (n4 y0>1099511627776)) (ret (wr (ws (n1.1.1,n4)))) (ae (aX n3 6) (ae (wl y1 36&&wl y1 37) (ret (ws ((d.1.1,n1.1,n1.2.1,wI (n3+1)),n4,λj=>bif ww j y0 then 0 else d.2.2.1 j,λj=>bif ww j y0 then 0 else n2.1 j,λj=>bif ww j y0 then false else n2.2.1 j,λj=>bif ww j y0 then n3 else n2.2.2.1 j,λj=>bif ww j y0 then n4 y0 else n2.2.2.2.1 j,λj=>bif ww j y0 then d.1.1 else n2.2.2.2.2 j))) no) no))) no) (ret (wr (wr ((d.1.1,n1.1,n1.2.1,n3,y2),d.2))))
def Kr:=bC (Kq) 2000
def P8 (ew:LT ka wA)(x0:Int)(x1:Nat)(x2:Nat->Int)(w0:Bool):Pg AW:=ae (decide (x0<0)) (ret (ws ())) (ae (decide (x0>100)) (ret (ws ())) (ae (wn x1 !=6) (ret (ws ())) (ae (ww x1 x1) (opt (ew ((x0,(x1,w0),wn x1,0),x2,λx=>0,λx=>0,λx=>false,λx=>0,λx=>0,λx=>0)) λx=>sum x (λd=>ret (ws ())) λd=>ret (wr d.2.2)) no)))
def AY:=λx0 x1 x2 w0=>(P8 Kr x0 x1 x2 w0).val
abbrev G0:=(LT ka wA)
def P9 (p:G0):KK:=⟨[],⟨[⟨5,(1::3::4::5::rg 7 15 (rg 25 7 (rg 34 12 [32,33]))),[]⟩],[fV 5 1 ka Zq p],[],[],(some ⟨0,(rg 0 4 (rg 6 40 [])),[]⟩)⟩,1,52⟩
theorem aqj (p:G0):LI (P9 p) 5 ka Zq (Kq):=λ_ d c K=>by kernel_rfl
theorem azI (p:G0):D2 (P9 p) afI abB λb=>P8 p b.1.1 b.1.2.1 b.2 b.1.b:=λb=>by kernel_rfl
abbrev P':G0:=Kr
theorem azJ [ax]:SC (afK AY):=sc (Sound.nil 1 [.i .i64]<|E3 (R:=abB) (R':=afJ) (λd r h=>by rcases d with d|d<;>first|exact h|(have h:(none:Option oO)=some r:=h;cases h))<|kS (k:=P9 P') (.nil _) [5] [] ⟨kL (aqj P'),trivial⟩ trivial (azI P'))
def afL:=qa (pl yV nil)
def Sv:=qe aEh
def Sw:=qe (res (pu (ry (cu (rc (cp 0 3)) alg)) (pu nil (c (c gi (cl gi (cu (gc (dM (pu CU (pu Ad (pu V7 (pu kX dR)))))) nil))) aXf))))
abbrev G3:=Sv.B⊕((Int×Int)×NI)
def abC:G3->T:=ls (lf Sv) (λd=>lf Sw (d.1,d.2,d.2,d.2,d.2,d.2,d.2,d.2,d.2,d.2,d.2,d.2))
def afM:G3->T:=ls (λ_=>.fail) (λd=>lf Sw (d.1,d.2,d.2,d.2,d.2,d.2,d.2,d.2,d.2,d.2,d.2,d.2))
abbrev Qa:=Int->Int->Option G3
def afN (g:Qa):Ct:=(53,FC afL afM (λb=>g b.1 b.2))
def Qb (x0:Int)(x1:Int):Pg G3:=ae (decide (x0<1)) (ret (ws ())) (ae (decide (x0>64)) (ret (ws ())) (ae (decide (x1<1)) (ret (ws ())) (ae (decide (x1>1073741824)) (ret (ws ())) (ret (wr ((x0,x1),λx=>0))))))
def AZ:=λx0 x1=>(Qb x0 x1).val
theorem azK:D0 [] 53 afL abC λb=>Qb b.1 b.2:=λb=>by kernel_rfl
theorem azL [ax]:SC (afN AZ):=sc (E3 (R:=abC) (R':=afM) (λd r h=>by rcases d with d|d<;>first|exact h|(have h:(none:Option oO)=some r:=h;cases h))<|k0 (.nil _) azK)
def ao3:=qa (pl gW nil)
def Zr:=qe aEh
def Zs:=qe (res (pu (ry (cu (rc (cp 0 8)) alg)) (pu nil (c (cu aS (cu aS (cu aS (cu aS (cu aS (cl gi (cu (gc (dM (pu CU (pu Ad (pu V7 (pu du dR)))))) as3))))))) (cl as7 nil)))))
abbrev Nv:=Zr.B⊕(Int×NI)
def akF:Nv->T:=ls (lf Zr) (λd=>lf Zs (d.1,d.2,d.2,d.2,d.2,d.2,d.2,d.2,d.2,d.2))
def ao4:Nv->T:=ls (λ_=>.fail) (λd=>lf Zs (d.1,d.2,d.2,d.2,d.2,d.2,d.2,d.2,d.2,d.2))
abbrev Zt:=Int->Option Nv
def ao5 (g:Zt):Ct:=(54,FC ao3 ao4 (λb=>g b))
def Zu (x0:Int):Pg Nv:=ae (decide (x0<1)) (ret (ws ())) (ae (decide (x0>64)) (ret (ws ())) (ret (wr (x0,λx=>0))))
def Gb:=λx0=>(Zu x0).val
theorem aGO:D0 [] 54 ao3 akF λb=>Zu b:=λb=>by kernel_rfl
theorem aGP [ax]:SC (ao5 Gb):=sc (E3 (R:=akF) (R':=ao4) (λd r h=>by rcases d with d|d<;>first|exact h|(have h:(none:Option oO)=some r:=h;cases h))<|k0 (.nil _) aGO)
def Zv:=qa (pl (cl (aa oI) nil) nil)
def ao6:=qe (res (pu (ry (cu (rc ax1) (cu (rc aV3) nil))) (pu nil nil)))
def aGQ:=qe (res (pu (ry (cu (rc (cp 0 434)) alg)) (pu nil (c (c gi (c gi (c gi (c gi (c gi (c gi (c gi (c gi (c gi (c gi (c gi (c gi (c gi (c gi (c gi (c gi (c gR (c gR (c gi (c gi (c gi (c gi (c gi (c gi (c gi (c gi (c gb (c gR (c aP1 (cl gR (cu aiZ (cu ai0 (cu (gc (dM (pu rq7 (pu Ad (pu V7 (pu zO dR)))))) (cu (gp 4 8) (cu (gp 5 8) (cu aD4 (cu aD5 (cu aD6 (cu aD7 (cu aqv (cu aS (cu aS (cu af8 (cu af8 (cu aqw (cu af8 (cu aS (cu aS (cu aS (cu aS (cu af8 (cu af8 (cu af8 (cu aS (cu aS (cu aS (cu axY (cu aS (cu aS (cu aS (cu aS (cu aS (cu aS (cu aS (cu aS (cu aS (cu (gc (dM (pu (nat 12) (pu Ad (pu V7 (pu (nat 10) dR)))))) nil))))))))))))))))))))))))))))))))))))))))))))))))))))))))))))))))))) (c eO (c aXx (c (cl (ga (pu V7 mj)) nil) (c (cu aS (cu aS (cu aS (cu aS (cu aS (cl gi (cu (gc (dM (pu aMM (pu Ad (pu V7 (pu du dR)))))) as3))))))) (c (cu aS (cu aS (cu aS (cu aS (cu aS (cl gi (cu (gc (dM (pu auS (pu Ad (pu V7 (pu du dR)))))) as3))))))) (c (cu aS (cu aS (cu aS (cu aS (cu aS (cl gi (cu (gc (dM (pu aMN (pu Ad (pu V7 (pu du dR)))))) as3))))))) (c (cu aS (cu aS (cu aS (cu aS (cu aS (cl gi (cu (gc (dM (pu aMO (pu Ad (pu V7 (pu du dR)))))) as3))))))) (c (cu aS (cu aS (cu aS (cu aS (cu aS (cl gi (cu (gc (dM (pu auT (pu Ad (pu V7 (pu du dR)))))) as3))))))) (c (cu aS (cu aS (cu aS (cu aS (cu aS (cl gi (cu (gc (dM (pu aMP (pu Ad (pu V7 (pu du dR)))))) as3))))))) (c aQL (c (c gi (cl gi (cu (gc (dM (pu aMQ (pu Ad (pu V7 (pu kX dR)))))) nil))) (c aW9 (c as7 (c as7 (c as7 (c as7 (c as7 (c as7 aXf))))))))))))))))))))))
abbrev aiH:=ao6.B⊕((Int×Int×Int×Int×Int×Int×Int×Int×Int×Int×Int×Int×Int×Int×Int×Int×NI×NI×Int×Int×Int×Int×Int×Int×Int×Int×Bool×NI×NI×NI)×aVK×Int×NI×Int×Int×Int×Int×Int×Int×aMK×(Int×Int)×NI×NI×NI×NI×NI×NI×NI)
def aGR:aiH->T:=ls (lf ao6) (λd=>lf aGQ (d.1,d.2.1,d.b.1,(d.b.2.1,d.b.2.1,d.b.2.1,d.b.2.1,d.b.2.1,d.b.2.1,d.b.2.1,d.b.2.1),d.c.1,d.c.2.1,d.c.b.1,d.c.b.2.1,d.d.1,d.d.2.1,d.d.b.1,d.d.b.2.1,(d.b.2.1,d.b.2.1,d.b.2.1,d.b.2.1,d.b.2.1,d.b.2.1,d.b.2.1,d.b.2.1,d.b.2.1,d.b.2.1),(d.d.c.1,d.d.c.1,d.d.c.1,d.d.c.1,d.d.c.1,d.d.c.1,d.d.c.1,d.d.c.1,d.d.c.1),(d.d.c.2.1,d.d.c.2.1,d.d.c.2.1,d.d.c.2.1,d.d.c.2.1,d.d.c.2.1,d.d.c.2.1,d.d.c.2.1,d.d.c.2.1),(d.d.c.b.1,d.d.c.b.1,d.d.c.b.1,d.d.c.b.1,d.d.c.b.1,d.d.c.b.1,d.d.c.b.1,d.d.c.b.1,d.d.c.b.1),(d.d.c.b.2.1,d.d.c.b.2.1,d.d.c.b.2.1,d.d.c.b.2.1,d.d.c.b.2.1,d.d.c.b.2.1,d.d.c.b.2.1,d.d.c.b.2.1,d.d.c.b.2.1),(d.e.1,d.e.1,d.e.1,d.e.1,d.e.1,d.e.1,d.e.1,d.e.1,d.e.1),(d.e.2.1,d.e.2.1,d.e.2.1,d.e.2.1,d.e.2.1,d.e.2.1,d.e.2.1,d.e.2.1,d.e.2.1),d.e.b,d.e.b,d.e.b,d.e.b,d.e.b,d.e.b,d.e.b,d.e.b,d.e.b,d.e.b,d.e.b))
abbrev Zw:=Zv.B->Option aiH
def auy (g:Zw):Ct:=(20,FC Zv aGR g)
def auz (aO7:aoD)(cm:lV)(aN:fw)(aSf:atF)(aDC:Ut)(aDD:Uu)(azM:P7)(azN:Qa)(A3:Zt)(x:Zv.B):Pg aiH:=let n3:=x.2.2;let n5:=n3.2.2.1.2;let n1:=n3.2.2.2;let n6:=n1.2.2;let n4:=n1.1.2.2;let n2:=n6.2.2.2.2;let n7:=n2.2.2;opt (aO7 x) λd=>ae (!d) (ret (ws ())) (opt cm λd=>opt (aN (λx=>0) false) λd=>opt (aSf 24 d.2 n6.1 false) λaj=>opt (aDC n7.1 n7.2.1 n7.2.2) λaE=>sm aE (λd=>no) (λbE=>opt (aDD x.1) λcC=>sm cC (λd=>no) (λeJ=>opt (azM n3.2.1 6 (cr n1.1.1 [n4.2.2.2,n4.2.2.1,n4.2.1,n4.1,n1.1.2.1,n1.1.1]) false) λc9=>sm c9 (λd=>no) (λlR=>opt (azN n2.2.1 n2.1) λpY=>sm pY (λd=>no) (λmV=>opt (A3 n3.1) λlM=>sm lM (λd=>no) (λwO=>opt (A3 n3.1) λKW=>sm KW (λd=>no) (λMu=>opt (A3 n3.1) λaGr=>sm aGr (λd=>no) (λabb=>opt (A3 n3.1) λaeW=>sm aeW (λd=>no) (λabc=>opt (A3 n3.1) λaGs=>sm aGs (λd=>no) (λanU=>opt (A3 n3.1) λarW=>sm arW (λd=>no) (λanV=>ret (wr ((x.1,x.2.1,n3.1,n3.2.1,n3.2.2.1.1,n5.1,n5.2.1,n5.2.2.1,n5.2.2.2.1,n5.2.2.2.2,n1.1.1,n1.1.2.1,n4.1,n4.2.1,n4.2.2.1,n4.2.2.2,n1.2.1,n6.1,n6.2.1,n6.2.2.1,n6.2.2.2.1,n2.1,n2.2.1,n7.1,n7.2.1,n7.2.2,aj.2,d.1,aj.1),bE,eJ,λx=>0,wO.1,Mu.1,abb.1,abc.1,anU.1,anV.1,lR,mV.1,wO.2,Mu.2,abb.2,abc.2,anU.2,anV.2,mV.2)))))))))))))
def Gd:=λx=>(auz Bi eG cw Xj Dw Dx AY AZ Gb x).val
abbrev auA:=aoD×lV×fw×atF×Ut×Uu×P7×Qa×Zt
def aGS (p:auA):KK:=⟨[aoE p.1,qP p.2.1,ji p.b.1,aFS p.b.2.1,akA p.c.1,akE p.c.2.1,afK p.c.b.1,afN p.c.b.2.1,ao5 p.d],⟨[⟨11,(0::2::3::rg 5 65 (rg 71 15 [])),[]⟩],[],[],[],(some ⟨0,(0::1::rg 4 82 []),[]⟩)⟩,0,20⟩
theorem aSg (p:auA):D2 (aGS p) Zv aGR λb=>auz p.1 p.2.1 p.b.1 p.b.2.1 p.c.1 p.c.2.1 p.c.b.1 p.c.b.2.1 p.d b:=λb=>by kernel_rfl
abbrev aGT:auA:=(Bi,eG,cw,Xj,Dw,Dx,AY,AZ,Gb)
theorem aGU [ax]:SC (auy Gd):=sc (kS (k:=aGS aGT) (.c aCa (.c vD (.c jV (.c aRU (.c aDz (.c aDB (.c azJ (.c azL (.c aGP (.nil _)))))))))) [11] [] ⟨kN,trivial⟩ trivial (aSg aGT))
end Go.Proofs.YtldgljclcgaibaaGreat
namespace Go.Proofs.YtldgljclcgaibaaGreat
open Go.Ab Go.Ab.Pg
theorem aD0 {x:Int}(h0: -1152921504606846976<=x)(h1:x<=1152921504606846976)(b:Bool):rm x b=some x:=by
 have e:wx x (-1152921504606846976) 1152921504606846976 b=some (wr x):=by
  simp only[wx,Kp,bN,cg];rw[cG (show ¬(-1152921504606846976:Int)>1152921504606846976 by omega),cG (show ¬x< -1152921504606846976 by omega),cG (show ¬x>1152921504606846976 by omega)];rfl
 simp only[rm,P1,cq,e,bM,aDW,lP,cg]
theorem a0E {x:Int}(h0: -1152921504606846976<=x)(h1:x<=1152921504606846976)(n b:Bool):AT x true n b=some (wr x):=by
 simp only[AT,P3,bN,cq,cg,DV,bA,aD0 h0 h1,bM]
theorem aG8 {a b d:Int}(a0: -1152921504606846976<=a)(a1:a<=1152921504606846976)(b0: -1152921504606846976<=b)(b1:b<=1152921504606846976)(d0: -1152921504606846976<=d)(d1:d<=1152921504606846976)(nz:d≠0)
  (q0: -1152921504606846976<=NL (a*b) d)(q1:NL (a*b) d<=1152921504606846976)(h:Bool):j9 a b d h=some (NL (a*b) d):=by
 obtain⟨x,y,e,o,v⟩:=DJ a b (by omega) (by omega) (by omega) (by omega);have e2:=aJx x y d o (by omega) (by omega) nz;rw[v,if_pos ⟨by omega,by omega⟩] at e2;have z:(d==0)=false:=by rw[als];exact nz
 simp only[j9,HZ,Jx,Uq,cq,bN,cg,aD0 a0 a1,aD0 b0 b1,aD0 d0 d1,bM,e,z,bA,e2,a0E q0 q1,aDW,lP]
theorem a0F {n d m:Int}(h0:0<=n)(hd:0<d)(hm:0<=m)(h:n<=m*d):0<=qdq n d/\qdq n d<=m:=by
 have a:=ayd n d;have b:=ab0 n (show d≠0 by omega);have c:=We n hd;have q0:0<=n/d:=DT h0 (by omega)
 have q1:n/d<=m:=by
  refine Int.le_of_lt_add_one (abX hd ?_);rw[agq,Int.one_mul];omega
 unfold qdq;split
 .omega
 .by_cases e:n/d=m
  .exfalso
   rw[e,Ag d m] at a;omega
  .omega
theorem aTy {n d m:Int}(hd:0<d)(hm:0<=m)(h0: -(m*d)<=n)(h1:n<=m*d): -m<=NL n d/\NL n d<=m:=by
 have e:kK d=d:=by unfold kK;split<;>omega
 have g:kK n<=m*d:=by unfold kK;split<;>omega
 obtain⟨p,q⟩:=a0F (aLz n) hd hm g;unfold NL;rw[e];split<;>omega
theorem aZa {a x d m:Int}(ha0: -m<=a)(ha1:a<=m)(x0:0<=x)(x1:x<=d): -(m*d)<=a*x/\a*x<=m*d:=by
 have m0:0<=m:=by omega
 have h1:a*x<=m*x:=aqy ha1 x0;have h2:m*x<=m*d:=Int.mul_le_mul_of_nonneg_left x1 m0;have h3: -m*x<=a*x:=aqy ha0 x0;rw[Int.neg_mul] at h3;omega
theorem aJV (a b x d:Int)(h:Bool)(m:Int)(a0: -m<=a)(a1:a<=m)(b0: -m<=b)(b1:b<=m)(x0:0<=x)(x1:x<=d)(d0:0<d)(d1:d<=1000000000)(m1:m<=100000000000000):
  Ok (gV a b x d h) (λr:Int=> -(3*m)<=r/\r<=3*m):=by
 have e:wI (b-a)=b-a:=dS;obtain⟨p0,p1⟩:=aZa (a:=b-a) (m:=2*m) (by omega) (by omega) x0 x1;obtain⟨q0,q1⟩:=aTy d0 (show 0<=2*m by omega) p0 p1;have k:=aG8 (a:=b-a) (b:=x) (d:=d) (by omega) (by omega) (by omega) (by omega) (by omega) (by omega) (by omega) (by omega) (by omega) h;have e2:wI (a+NL ((b-a)*x) d)=a+NL ((b-a)*x) d:=dS;unfold gV xm;show PQ _ _;rw[e,k,bX,av,e2];omega
theorem aVc (c0 c1 c2 c3 c4 c5 c6 i x:Int)(h:Bool)(g:∀c∈[c0,c1,c2,c3,c4,c5,c6], -9000<=c/\c<=9000)(i0:0<=i)(i1:i<=5)(x0:0<=x)(x1:x<=600000000):
  Ok (mg c0 c1 c2 c3 c4 c5 c6 i x h) (λr:Int=> -28991029248000<=r/\r<=28991029248000):=by
 have w:∀c∈[c0,c1,c2,c3,c4,c5,c6],wI (c*1073741824)=c*1073741824:=λc hc=>dS (by have:=g c hc;omega) (by have:=g c hc;omega)
 have z:wI (i+1)=i+1:=aY i0 (by omega);simp only[SN,List.not_mem_nil,or_false,forall_eq_or_imp,forall_eq] at w g;obtain⟨w0,w1,w2,w3,w4,w5,w6⟩:=w;obtain⟨g0,g1,g2,g3,g4,g5,g6⟩:=g;unfold mg xo;show PQ _ _;rw[w0,w1,w2,w3,w4,w5,w6,z];have r1:aX i 7=true:=by rw[bk];omega
 have r2:aX (i+1) 7=true:=by rw[bk];omega
 dsimp only;rw[r1,r2]
 repeat' (first
  |rw[aC]
  |(with_reducible refine ay (aJV _ _ _ _ _ 9663676416000 ?_ ?_ ?_ ?_ ?_ ?_ ?_ ?_ ?_) λr _ hr=> ?_)
  |(rw[aK];refine⟨λc=> ?_,λc=> ?_⟩))
 all_goals first
  |(rw[av];omega)
  |omega
theorem aPd (x0 x1 x2:Int)(h:Bool):bp (nW x0 x1 x2 h):=by
 unfold nW AU;refine aG ?_;dsimp only;rw[bD];intro d hd;rw[aK];refine⟨λ_=>by rw[av];trivial,λk=> ?_⟩;rw[ayh] at k;obtain⟨a0,a1,b0,b1⟩:=asm hd k;clear hd k
 have ey0:wI (x1+1800000000)=x1+1800000000:=dS;have ey1:wI (x0+900000000)=x0+900000000:=dS;rw[ey0,ey1];have t0:t6 (x0+900000000) 450000000=(x0+900000000)/450000000:=aAb (by omega);have t1:t6 (x1+1800000000) 600000000=(x1+1800000000)/600000000:=aAb (by omega);rw[t0,t1,dS (n:=(x0+900000000)/450000000) (by omega) (by omega),dS (n:=(x1+1800000000)/600000000) (by omega) (by omega)];generalize hi:(if (3:Int)<(x0+900000000)/450000000 then(3:Int) else(x0+900000000)/450000000)=i
 generalize hj:(if (5:Int)<(x1+1800000000)/600000000 then(5:Int) else(x1+1800000000)/600000000)=j
 have hi':0<=i/\i<=3/\0<=x0+900000000-i*450000000/\x0+900000000-i*450000000<=450000000:=by
  split at hi<;>omega
 have hj':0<=j/\j<=5/\0<=x1+1800000000-j*600000000/\x1+1800000000-j*600000000<=600000000:=by
  split at hj<;>omega
 clear hi hj t0 t1 ey0 ey1
 obtain⟨i0,i1,u0,u1⟩:=hi';obtain⟨j0,j1,v0,v1⟩:=hj';rw[dS (n:=i*450000000) (by omega) (by omega),dS (n:=j*600000000) (by omega) (by omega),dS (n:=x0+900000000-i*450000000) (by omega) (by omega),dS (n:=x1+1800000000-j*600000000) (by omega) (by omega),aY i0 (by omega)];have r1:aX i 5=true:=by rw[bk];omega
 have r2:aX (i+1) 5=true:=by rw[bk];omega
 rw[r1,r2];generalize x0+900000000-i*450000000=u at u0 u1 ⊢
 generalize x1+1800000000-j*600000000=v at v0 v1 ⊢
 have fin:∀d:Int, -86973087744000<=d->d<=86973087744000->Ok (j9 d 3373259426 19327352832000 h) (λ_=>True):=by
  intro d d0 d1;obtain⟨q0,q1⟩:=aTy (n:=d*3373259426) (d:=19327352832000) (m:=1000000000000000) (by omega) (by omega) (by omega) (by omega);rw[aG8 (by omega) (by omega) (by omega) (by omega) (by omega) (by omega) (by omega) (by omega) (by omega) h];exact⟨_,rfl,trivial⟩
 rw[bD];intro _ _
 repeat' (first
  |rw[aC]
  |(with_reducible refine ay (aVc _ _ _ _ _ _ _ _ _ _ (by decide) j0 j1 v0 v1) λr _ hr=> ?_)
  |(with_reducible refine ay (aJV _ _ _ _ _ 28991029248000 ?_ ?_ ?_ ?_ u0 u1 (by omega) (by omega) (by omega)) λs _ hs=> ?_)
  |(with_reducible refine ay (fin _ ?_ ?_) λt _ _=> ?_)
  |(rw[aK];refine⟨λc=> ?_,λc=> ?_⟩))
 all_goals first
  |(rw[av];trivial)
  |omega
instance aTz (x:jP.B):bp (jQ x):=by
 unfold jQ tT;try dsimp only
 have t:=aPd;exact aG (by rw[bD];intro _ _;rw[av];trivial)
theorem aSm (x:nX.B):Ok (nY x) (λr:F9=>r.1.d.c.b.2.2=x.2.1.d.c.b.2.2/\r.1.c.1=x.2.1.c.1/\r.1.d.c.2.1=x.2.1.d.c.2.1):=by
 unfold nY F';try dsimp only
 show PQ _ _;simp only[aM]
 repeat' (first
  |rw[aC]
  |(with_reducible refine ay (afu _ ?_) λe _ he=> ?_)
  |(with_reducible refine ay (bp.Ok (aPd _ _ _ _) (Q:=λ_=>True) λ_ _=>trivial) λ_ _ _=> ?_)
  |(rw[tI];refine⟨λ_ _=> ?_,λ_ _=> ?_⟩)
  |(rw[bD];intro _ _)
  |(rw[aK];refine⟨λc=> ?_,λc=> ?_⟩))
 all_goals first
  |(rw[av];exact he.2)
  |(rw[av];exact⟨rfl,rfl,rfl⟩)
  |(dsimp only;omega)
theorem a0G (x:tz.B)(k:aX x.1.1 6=true)(h:x.2.1.d.c.b.2.2<=90000):Ok (tC x) (λr:EK=>match r with|.inl e=>e.1.d.c.b.2.2<=x.2.1.d.c.b.2.2+3/\e.1.c.1=x.2.1.c.1/\e.1.d.c.2.1=x.2.1.d.c.2.1|.inr e=>e.1.1.d.c.b.2.2<=x.2.1.d.c.b.2.2+3/\e.1.1.c.1=x.2.1.c.1/\e.1.1.d.c.2.1=x.2.1.d.c.2.1):=by
 have hi:aX x.1.1 6=true:=k;unfold tC Nu;try dsimp only
 show PQ _ _;simp only[aM,hi]
 repeat' (first
  |rw[aC]
  |(with_reducible refine ay (aY1 _ ?_) λe _ he=> ?_)
  |(with_reducible refine ay (aGJ _ ?_) λe _ he=> ?_)
  |(with_reducible refine ay (aL0 _) λe _ he=> ?_)
  |(with_reducible refine ay (aSm _) λe _ he=> ?_)
  |(with_reducible refine ay (aL1 _) λe _ he=> ?_)
  |(with_reducible refine ay (aY0 _) λe _ he=> ?_)
  |(rw[tI];refine⟨λe0 e1=> ?_,λe0 e1=> ?_⟩)
  |(rw[bD];intro _ _)
  |(rw[aK];refine⟨λc=> ?_,λc=> ?_⟩))
 all_goals first
  |(dsimp only;omega)
  |(rw[av];exact⟨dw (Nat.le_of_eq he.1) (Nat.le_add_right _ _),he.2⟩)
  |(rw[av];exact⟨Nat.le_add_right _ _,rfl,rfl⟩)
  |(rw[e1] at he;rw[av];exact he)
  |(rw[e1] at he;rw[av];exact⟨dw he.1 (Nat.add_le_add_left (by decide) _),he.2⟩)
  |skip
theorem aMf (n:Int):∀(d:yL.B) (hd:0<=d.1.2.2.2.2/\d.1.2.2.2.2<=3/\d.1.2.1=n/\d.1.2.2.1=n/\0<=n/\n<=3),Ok (aoS d) (λx:Sh=>x.1.2.2.1=n):=
 bq (λd:yL.B=>wt (3-d.1.2.2.2.2)) (λd hd=>by
  have hw:wI (d.1.2.2.2.2+1)=d.1.2.2.2.2+1:=aY;obtain⟨c0,c1,i0,i1,i2,i3⟩:=hd;have w0:wI (0+d.1.2.1)=d.1.2.1:=by rw[ate];exact dS (by omega) (by omega)
  have w1:wI (10+d.1.2.2.2.2)=10+d.1.2.2.2.2:=dS;unfold aoR;dsimp only;rw[w0,w1,hw];rw[aK];refine⟨λh=> ?_,λ_=>by rw[av];exact i1⟩;have h:=dq h;have r0:aX d.1.2.2.2.2 3=true:=by rw[bk];omega
  have r1:aX d.1.2.1 24=true:=by rw[bk];omega
  have r2:aX (10+d.1.2.2.2.2) 24=true:=by rw[bk];omega
  have r3:(true&&wl (0+(wt d.1.2.1*24+wt (10+d.1.2.2.2.2))*1+1) 576)=true:=by rw[oK,bW];omega
  rw[r0,r1,r2,r3]
  repeat' (first
   |rw[aC]
   |(rw[aK];refine⟨λc=> ?_,λc=> ?_⟩)
   |(rw[bD];intro _ _))
  all_goals (rw[av];exact⟨⟨by show 0<=d.1.2.2.2.2+1;omega,by show d.1.2.2.2.2+1<=3;omega,i0,i1,i2,i3⟩,by show wt (3-(d.1.2.2.2.2+1))<_;omega⟩)) (λd hd=>by omega)
theorem aMg (n:Int):∀(d:yM.B) (hd:0<=d.1.2.2/\d.1.2.2<=3/\d.1.1=n/\d.1.2.1=n/\0<=n/\n<=2),Ok (aoU d) (λx:Si=>x.1.1=n/\x.1.2.1=n):=
 bq (λd:yM.B=>wt (3-d.1.2.2)) (λd hd=>by
  have hw:wI (d.1.2.2+1)=d.1.2.2+1:=aY;obtain⟨c0,c1,i0,i1,i2,i3⟩:=hd;have w0:wI (4+d.1.1)=4+d.1.1:=dS;have w1:wI (13+d.1.2.2)=13+d.1.2.2:=dS;have w2:wI (3*d.1.1)=3*d.1.1:=dS;have w3:wI (3*d.1.1+d.1.2.2)=3*d.1.1+d.1.2.2:=dS;unfold aoT;dsimp only;rw[w0,w1,w2,w3,hw];rw[aK];refine⟨λh=> ?_,λ_=>by rw[av];exact⟨i0,i1⟩⟩;have h:=dq h;have r0:aX (3*d.1.1+d.1.2.2) 9=true:=by rw[bk];omega
  have r1:aX (4+d.1.1) 24=true:=by rw[bk];omega
  have r2:aX (13+d.1.2.2) 24=true:=by rw[bk];omega
  have r3:(true&&wl (0+(wt (4+d.1.1)*24+wt (13+d.1.2.2))*1+1) 576)=true:=by rw[oK,bW];omega
  rw[r0,r1,r2,r3]
  repeat' (first
   |rw[aC]
   |(rw[aK];refine⟨λc=> ?_,λc=> ?_⟩)
   |(rw[bD];intro _ _))
  all_goals (rw[av];exact⟨⟨by show 0<=d.1.2.2+1;omega,by show d.1.2.2+1<=3;omega,i0,i1,i2,i3⟩,by show wt (3-(d.1.2.2+1))<_;omega⟩)) (λd hd=>by omega)
theorem aMh:∀(d:yN.B) (hd:0<=d.1.2/\d.1.2<=4),Ok (aoW d) (λx:Sj=>True):=
 bq (λd:yN.B=>wt (4-d.1.2)) (λd hd=>by
  have hw:wI (d.1.2+1)=d.1.2+1:=aY;obtain⟨c0,c1⟩:=hd;have w0:wI (0+d.1.2)=d.1.2:=by rw[ate];exact dS (by omega) (by omega)
  unfold aoV;dsimp only;rw[w0];rw[aK];refine⟨λh=> ?_,λ_=>by rw[av];trivial⟩;have h:=dq h;have r0:aX d.1.2 4=true:=by rw[bk];omega
  have r1:aX d.1.2 24=true:=by rw[bk];omega
  have r3:(true&&wl (0+wt d.1.2*24+4) 576)=true:=by rw[oK,bW];omega
  rw[r0,r1,r3]
  repeat' (first
   |rw[aC]
   |(rw[aK];refine⟨λc=> ?_,λc=> ?_⟩)
   |(with_reducible refine ay (aMf d.1.2 _ ⟨eZ 0,(show(0:Int)<=3 by decide),rfl,rfl,c0,by omega⟩) λe _ he=> ?_))
  all_goals (rw[av,he,hw];exact⟨⟨by show 0<=d.1.2+1;omega,by show d.1.2+1<=4;omega⟩,by show wt (4-(d.1.2+1))<_;omega⟩)) (λd hd=>by omega)
theorem aMi:∀(d:yO.B) (hd:0<=d.1/\d.1<=3),Ok (aoY d) (λx:Sk=>True):=
 bq (λd:yO.B=>wt (3-d.1)) (λd hd=>by
  obtain⟨c0,c1⟩:=hd;have hw:wI (d.1+1)=d.1+1:=aY;have w0:wI (4+d.1)=4+d.1:=dS;have w1:wI (7+d.1)=7+d.1:=dS;unfold aoX;dsimp only;rw[w0];rw[aK];refine⟨λh=> ?_,λ_=>by rw[av];trivial⟩;have h:=dq h;have r0:aX d.1 3=true:=by rw[bk];omega
  have r1:aX (4+d.1) 24=true:=by rw[bk];omega
  have r2:aX (7+d.1) 24=true:=by rw[bk];omega
  have r3:(true&&wl (0+wt (4+d.1)*24+4) 576)=true:=by rw[oK,bW];omega
  have r4:(true&&wl (0+(wt (7+d.1)*24+wt (4+d.1))*1+1) 576)=true:=by rw[oK,bW];omega
  rw[r0,r1,r3]
  repeat' (first
   |rw[aC]
   |(with_reducible refine ay (aMg d.1 _ ⟨eZ 0,(show(0:Int)<=3 by decide),rfl,rfl,c0,by omega⟩) λe _ he=> ?_)
   |(rw[he.1,he.2,w0,w1,hw,r1,r2,r4])
   |(rw[aK];refine⟨λc=> ?_,λc=> ?_⟩))
  all_goals (rw[av];exact⟨⟨by show 0<=d.1+1;omega,by show d.1+1<=3;omega⟩,by show wt (3-(d.1+1))<_;omega⟩)) (λd hd=>by omega)
instance a3x (x0:Nat->Int)(x1:Int)(x2:Int)(x3:Int)(x4:Int)(x5:Int)(x6:Int)(x7:Int)(x8:Int)(x9:Bool):bp (afv x0 x1 x2 x3 x4 x5 x6 x7 x8 x9):=by
 unfold afv azE;try dsimp only
 refine aG ?_
 repeat' (first
  |(with_reducible refine ay (aMh _ ⟨eZ 0,(show(0:Int)<=4 by decide)⟩) λe _ he=> ?_)
  |(with_reducible refine ay (aMi _ ⟨eZ 0,(show(0:Int)<=3 by decide)⟩) λe _ he=> ?_)
  |(rw[bD];intro _ _))
 rw[av];trivial
instance a1I (x0:Nat->Int)(x1:Nat->Int)(x2:Nat->Int)(x3:Int)(x4:Int)(x5:Int)(x6:Int)(x7:Int)(x8:Int)(x9:Int)(gx:Int)(gy:Nat->Int)(Aq:Bool):bp (K6 x0 x1 x2 x3 x4 x5 x6 x7 x8 x9 gx gy Aq):=by
 unfold K6 ao0;exact aG (by simp only[bO,pX])
theorem aPe (N:Nat)(hN:N<=1999)(x:m6.B)(h:x.2.1.2.2<=N)(s:x.2.1.1<=(N:Int)):
  Ok (fQ x) (λr:rN=>match r with|.inl e=>e.2.1=x.2.1|.inr e=>e.1.1.1=x.2.1.1/\e.1.1.2.2<=N/\x.2.1.2.2<=e.1.1.2.2/\e.1.1.2.2<=e.2.1):=by
 unfold fQ zG;try dsimp only
 show PQ _ _;rw[aK];refine⟨λ_=>by rw[av],λh0=> ?_⟩;have hn:x.2.1.2.2≠0:=λe=>by rw[e] at h0;cases h0
 have w:wI (wn x.2.1.2.2-1)=wn (x.2.1.2.2-1):=by
  simp only[cF];rw[dS (by omega) (by omega)];omega
 have b1:aX (wn (x.2.1.2.2-1)) x.2.1.2.2=true:=by simp only[bk,cF];omega
 have b2:wl ((x.2.1.2.2+1)*88) 140737488355328=true:=by rw[bW];omega
 have b3:KG 1 (x.2.1.2.2+1)=true:=by simp only[aer];omega
 have b4:wl ((0+(x.2.1.2.2+1-1))*88) 140737488355328=true:=by rw[bW];omega
 rw[w,b1,b2,b3,b4]
 repeat' (first
  |rw[aC]
  |(rw[bD];intro _ _)
  |(rw[aK];refine⟨λc=> ?_,λc=> ?_⟩))
 all_goals first
  |(rw[av];exact⟨rfl,by show 0+(x.2.1.2.2+1-1)<=N;omega,by show x.2.1.2.2<=0+(x.2.1.2.2+1-1);omega,by show 0+(x.2.1.2.2+1-1)<=x.2.1.2.2+1-1;omega⟩)
  |(rw[av];have c:=qk c;simp only[cF] at c;exact⟨rfl,by show x.2.1.2.2+1<=N;omega,by show x.2.1.2.2<=x.2.1.2.2+1;omega,cW _⟩)
  |(rw[av])
theorem aiO (N q q4:Nat)(q5:Int)(hN:N<=1999)(s:Int)(hs:s<=(N:Int)):∀(d:fK.B) (hd:0<=d.1.2.2/\d.1.2.2<=d.1.2.1/\d.1.2.1<=1999/\d.1.2.1=((d.1.1:Nat):Int)/\d.d.c.1.2.2<=N/\d.d.c.1.1=s/\d.d.c.1.2.2<=d.e.c.2.1/\d.2.1.d.c.2.2=q/\d.2.1.c.1=q4/\d.2.1.d.b.2.1=q5),Ok (qf d) (λx:qd=>x.d.c.1.2.2<=N/\x.d.c.1.1=s/\x.d.c.1.2.2<=x.e.c.2.1/\x.2.1.d.c.2.2=q/\x.2.1.c.1=q4/\x.2.1.d.b.2.1=q5):=
 bq (λd:fK.B=>wt (d.1.2.1-d.1.2.2)) (λd hd=>by
  obtain⟨i0,i1,i2,i3,i4,i5,i6,i7,i8,i9⟩:=hd;have hw:wI (d.1.2.2+1)=d.1.2.2+1:=aY;unfold Eh;dsimp only;rw[aK];refine⟨λh=> ?_,λ_=>by rw[av];exact⟨i4,i5,i6,i7,i8,i9⟩⟩;have h:=dq h;have r0:aX d.1.2.2 d.1.1=true:=by rw[bk];omega
  rw[r0,hw,aM,aC,aC];with_reducible refine ay (aPe N hN _ ?_ ?_) λe _ he=> ?_
  .exact i4
  .show d.d.c.1.1<=(N:Int);omega
  rw[tI];refine⟨λa ha=> ?_,λa ha=> ?_⟩
  .rw[ha] at he;have he:a.2.1=d.d.c.1:=he;rw[av];exact⟨⟨by show 0<=d.1.2.2+1;omega,by show d.1.2.2+1<=d.1.2.1;omega,i2,i3,by show a.2.1.2.2<=N;rw[he];exact i4,by show a.2.1.1=s;rw[he];exact i5,by show a.2.1.2.2<=d.e.c.2.1;rw[he];exact i6,i7,i8,i9⟩,by show wt (d.1.2.1-(d.1.2.2+1))<_;omega⟩
  .rw[ha] at he;obtain⟨e1,e2,e3,e4⟩:=he;rw[av];exact⟨⟨by show 0<=d.1.2.2+1;omega,by show d.1.2.2+1<=d.1.2.1;omega,i2,i3,e2,e1.trans i5,e4,i7,i8,i9⟩,by show wt (d.1.2.1-(d.1.2.2+1))<_;omega⟩) (λd hd=>by omega)
theorem aVd (x:gT.B):Ok (ep x) (λr:wZ=>r.1.1.1=x.2.1.1):=by
 unfold ep pT;show PQ _ _;rw[bD];intro _ _;rw[av]
theorem aVe (N:Nat)(h1:1<=N)(hN:N<=1999)(x:mq.B)(hl:x.2.2.2.2.2.2.2.2.2.2.2.2.1.1<=(N:Int))(hq:x.2.1.2.2.2.2.1<=1999):Ok (pB x) (λr:ue=>match r with|.inl e=>e.2=x.2.2.2.2.2.2.2.2.2.2.2.2.1/\e.1.2.2.2.2.2.2.2.2.2.2.2.2.2.2.2.2=x.2.1.2.2.2.2.2.2.2.2.2.2.2.2.2.2.2.2/\e.1.2.2.2.2.1=x.2.1.2.2.2.2.1/\e.1.2.2.2.2.2.2.2.2.2.2.2.2.2.1=x.2.1.2.2.2.2.2.2.2.2.2.2.2.2.2.1|.inr e=>e.1.2.2.2<=N/\e.1.2.1=x.2.2.2.2.2.2.2.2.2.2.2.2.1.1/\e.1.2.2.2<=e.2.1/\e.1.1.2.2.2.2.2.2.2.2.2.2.2.2.2.2=x.2.1.2.2.2.2.2.2.2.2.2.2.2.2.2.2.2.2/\e.1.1.2.2.2.2.1=x.2.1.2.2.2.2.1/\e.1.1.2.2.2.2.2.2.2.2.2.2.2.1=x.2.1.2.2.2.2.2.2.2.2.2.2.2.2.2.1):=by
 unfold pB z6;try dsimp only
 show PQ _ _;simp only[aM]
 repeat' (first
  |rw[aC]
  |(with_reducible refine ay (aVd _) λe _ he=> ?_)
  |(with_reducible refine ay (aiO N x.2.1.2.2.2.2.2.2.2.2.2.2.2.2.2.2.2.2 x.2.1.2.2.2.2.1 x.2.1.2.2.2.2.2.2.2.2.2.2.2.2.2.1 hN x.2.2.2.2.2.2.2.2.2.2.2.2.1.1 hl _ ?_) λe _ he=> ?_)
  |(rw[bD];intro _ _)
  |(rw[aK];refine⟨λc=> ?_,λc=> ?_⟩))
 all_goals first
  |(rw[av];exact⟨rfl,rfl,rfl,rfl⟩)
  |(rw[av];exact he)
  |(obtain⟨a,b,c,e⟩:=hdN x.2.1.2.2.2.2.1 hq
    exact⟨a,b,c,e,h1,he,cW _,rfl,rfl,rfl⟩)
  |skip
theorem Qg (n:Nat)(p:Int×Int×Nat):∀(d:dH.B) (hd:0<=d.1.2.2.2.2/\d.1.2.2.2.2<=d.1.2.2.2.1/\n<=1999/\d.1.2.2.2.1=(n:Int)/\d.1.2.2.1=n/\d.2.1=p/\d.1.2.1<(n:Int)),Ok (sS d) (λx:jx=>x.1.2.2.1=n/\x.2.1=p/\x.1.2.1<(n:Int)):=
 bq (λd:dH.B=>wt (d.1.2.2.2.1-d.1.2.2.2.2)) (λd hd=>by
  have hw:wI (d.1.2.2.2.2+1)=d.1.2.2.2.2+1:=aY;obtain⟨i0,i1,i2,i3,i4,i5,i6⟩:=hd;unfold sR;dsimp only;rw[aK];refine⟨λh=> ?_,λ_=>by rw[av];exact⟨i4,i5,i6⟩⟩;have h:=dq h;have r0:aX d.1.2.2.2.2 d.1.2.2.1=true:=by rw[bk];omega
  rw[r0,hw,aC,aK];refine⟨λ_=> ?_,λ_=> ?_⟩
  .rw[av];exact⟨⟨by show 0<=d.1.2.2.2.2+1;omega,by show d.1.2.2.2.2+1<=d.1.2.2.2.1;omega,i2,i3,i4,i5,by show d.1.2.2.2.2<(n:Int);omega⟩,by show wt (d.1.2.2.2.1-(d.1.2.2.2.2+1))<_;omega⟩
  .rw[av];exact⟨⟨by show 0<=d.1.2.2.2.2+1;omega,by show d.1.2.2.2.2+1<=d.1.2.2.2.1;omega,i2,i3,i4,i5,i6⟩,by show wt (d.1.2.2.2.1-(d.1.2.2.2.2+1))<_;omega⟩) (λd hd=>by omega)
theorem Qh (d:eI.B)(h0:0<=d.1)(h1:d.1<4):Ok (mF d) (λx:gw=>x.1.1=d.1/\x.2.1=(d.2.1.1,d.2.1.2.2)/\x.b.2.1=d.b.2.1):=by
 have r0:aX d.1 4=true:=by rw[bk];omega
 unfold mF sU;try dsimp only
 show PQ _ _;rw[r0]
 repeat' (first
  |rw[aC]
  |(rw[bD];intro _ _)
  |(rw[aK];refine⟨λc=> ?_,λc=> ?_⟩))
 all_goals (rw[av];exact⟨rfl,rfl,rfl⟩)
theorem Qi (a:Int)(n:Nat)(v:Nat×(Nat->Int)×(Nat->Int)×(Nat->Int)×(Nat->Int)×(Nat->Int)×(Nat->Int)×(Nat->Int)×(Nat->Int)×(Nat->Int)×(Nat->Int)×(Nat->Int)):∀(d:dI.B) (hd:0<=d.1/\d.1<=4/\d.2.1.1=a/\d.2.1.2.2=n/\d.b.2.1=v),Ok (sW d) (λx:jy=>x.2.1.1=a/\x.2.1.2.2=n/\x.b.2.1=v):=
 bq (λd:dI.B=>wt (4-d.1)) (λd hd=>by
  have hw:wI (d.1+1)=d.1+1:=aY;obtain⟨i0,i1,i2,i3,i4⟩:=hd;unfold sV;dsimp only;rw[aK];refine⟨λh=> ?_,λ_=>by rw[av];exact⟨i2,i3,i4⟩⟩;have h:=dq h;have r0:aX d.1 4=true:=by rw[bk];omega
  rw[r0]
  repeat' (first
   |rw[aC]
   |(with_reducible refine ay (Qh _ i0 h) λe _ he=> ?_)
   |(rw[aK];refine⟨λc=> ?_,λc=> ?_⟩))
  all_goals (obtain⟨e1,e2,e3⟩:=he;rw[av,e1,e2,hw];exact⟨⟨by show 0<=d.1+1;omega,by show d.1+1<=4;omega,i2,i3,e3.trans i4⟩,by show wt (4-(d.1+1))<_;omega⟩)) (λd hd=>by omega)
theorem aPf (x:kD.B)(h:x.2.1.2.2<=1999):Ok (kE x) (λr:uO=>r.b.1=x.2.1.2.2):=by
 unfold kE uQ;try dsimp only
 show PQ _ _;rw[aM,aC];with_reducible refine ay (Qg x.2.1.2.2 x.2.1 _ ?_) λd _ hd=> ?_
 .exact⟨eZ 0,by show(0:Int)<=wn x.2.1.2.2;simp only[cF];omega,h,rfl,rfl,rfl,by show(-1:Int)<_;omega⟩
 obtain⟨d1,d2,d3⟩:=hd;try dsimp only
 rw[aK];refine⟨λ_=>by rw[av];exact d1,λc=> ?_⟩;have c:=qk c;have r0:aX d.1.2.1 d.2.1.2.2=true:=by rw[bk,d2];omega
 rw[r0,aC];rw[bD];intro e1 _;rw[bD];intro e2 _;rw[bD];intro e3 _;rw[bD];intro e4 _;rw[bD];intro e5 _;with_reducible refine ay (Qi x.2.1.1 x.2.1.2.2 (d.1.b.1,d.b.2.1) _ ?_) λf _ hf=> ?_
 .exact⟨by show(0:Int)<=1;decide,by show(1:Int)<=4;decide,by show d.2.1.1=_;rw[d2],by show d.2.1.2.2=_;rw[d2],rfl⟩
 obtain⟨f1,f2,f3⟩:=hf;rw[bD];intro e6 _;rw[aM,aC];with_reducible refine ay (Um _ ?_) λg _ hg=> ?_
 .show f.2.1.2.2<=1999;omega
 have hg:g.2.1=f.2.1.2.2:=hg;have fn:f.b.2.1.1=x.2.1.2.2:=by rw[f3];exact d1
 have b1:(true&&ww (g.2.1*11+0) (f.2.1.2.2*11)&&true)=true:=by rw[hg,jM,aM];rfl
 have b2:(true&&wl (0+(g.2.1*11+0)) (f.b.2.1.1*11+0))=true:=by rw[hg,fn,oK,bW];omega
 rw[b1,b2,aC,aC,av];exact fn
end Go.Proofs.YtldgljclcgaibaaGreat
