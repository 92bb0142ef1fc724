/-
  Parts of the proof: TDg TDh TWk QA QW TWp
-/
import Derived.Test.YtldgljclcgaibaaGreatZAE
import Derived.Test.YtldgljclcgaibaaGreatZAG
import Derived.Test.YtldgljclcgaibaaGreatZAH
import Derived.Test.YtldgljclcgaibaaGreatZAM
set_option linter.unusedVariables false
set_option linter.unusedSimpArgs false
set_option maxRecDepth 100000
set_option maxHeartbeats 4000000
namespace Go.Proofs.YtldgljclcgaibaaGreat
open Go.Ab Go.Ab.Pg
theorem E7 {α:Type}(f:Nat->α)(y j:Nat)(v:α):(bif Nat.beq j y then v else f j)=if j=y then v else f j:=by
 by_cases h:j=y
 ·rw[if_pos h,h,Nat.beq_refl];rfl
 ·rw[if_neg h]
  cases e:Nat.beq j y
  ·rfl
  ·exact absurd (Nat.eq_of_beq_eq_true e) h
theorem aAr {α:Type}(i y:Nat)(a b:α):(bif Nat.beq i y then a else b)=if i=y then a else b:=by
 exact E7 (λ_=>b) y i a
def okV (d:Int):Prop:=d=17592186044416∨d=68719476736∨d=67108864∨d=4294967296∨d=17179869184
theorem okV.le {d:Int}(h:okV d):1<=d∧d<=72057594037927936:=by
 rcases h with rfl|rfl|rfl|rfl|rfl<;>decide
theorem acY (x lo hi:Int)(b:Bool)(h:lo<=x)(k:x<=hi):aZ x lo hi b=some (x,b):=by
 have h1:decide (lo>hi)=false:=decide_eq_false (by omega)
 have h2:decide (x<lo)=false:=decide_eq_false (by omega)
 have h3:decide (x>hi)=false:=decide_eq_false (by omega)
 unfold aZ vD
 rw[h1,h2,h3];rfl
theorem Ow {x:Int}(h: -1152921504606846976<=x∧x<=1152921504606846976):sat x=x:=(aOR h).1
theorem G5 {x:Int}(h: -1152921504606846976<=x∧x<=1152921504606846976):eV x=false:=(aOR h).2
theorem aIo (w x:Int)(b:Bool)(hw:w=0∨w=1073741824)(hx: -1152921504606846976<=x∧x<=1152921504606846976):aU w x 30 b=some (if w=0 then 0 else x,b):=by
 have h:=aKp w x 30 b (by decide)
 have e1:sat w=w:=Ow (by omega)
 have e2:eV w=false:=G5 (by omega)
 have r:KH (w*x) 30=(if w=0 then 0 else x):=by
  rcases hw with rfl|rfl
  ·rw[Int.zero_mul,if_pos rfl];rfl
  ·rw[if_neg (by decide),Int.mul_comm];exact aKr x
 have hr: -1152921504606846976<=(if w=0 then 0 else x)∧(if w=0 then 0 else x)<=1152921504606846976:=by split<;>omega
 rw[e1,e2,Ow hx,G5 hx,r,Ow hr,G5 hr,Bool.or_false,Bool.or_false,Bool.or_false] at h
 exact h
theorem div_zero (d:Int)(b:Bool)(h:okV d):bm 0 d 30 b=some (0,b):=by
 rcases h with rfl|rfl|rfl|rfl|rfl<;>cases b<;>kernel_rfl
theorem sub_zero (x:Int)(b:Bool)(h: -1152921504606846976<=x∧x<=1152921504606846976):bH x 0 b=some (x,b):=by
 have z:sat 0=0:=Ow (by decide)
 have zo:eV 0=false:=G5 (by decide)
 simp only[bH,Gs,Pg.cm,Pg.bP,oL,Option.bind_some,Ow h,G5 h,z,zo,Bool.or_false,Int.sub_zero]
 rw[ey (by omega) (by omega),Ow h,G5 h,Bool.or_false]
theorem ayO {f g:Nat->Int}:∀n,(∀j,j<n->f j=g j)->xQ f n=xQ g n
 |0,_=>rfl
 |n+1,h=>by
  show xQ f n+f n=xQ g n+g n
  rw[ayO n (λj hj=>h j (by omega)),h n (by omega)]
theorem aK0 {f:Nat->Bool}:∀n,(∀j,j<n->f j=false)->Dt f n=false
 |0,_=>rfl
 |n+1,h=>by
  show(Dt f n||f n)=false
  rw[aK0 n (λj hj=>h j (by omega)),h n (by omega)];rfl
theorem aF1 {f:Nat->Int}(k:Nat):∀n,(∀j,j<n->j≠k->f j=0)->xQ f n=if k<n then f k else 0
 |0,_=>by rw[if_neg (by omega)];rfl
 |n+1,h=>by
  show xQ f n+f n=_
  rw[aF1 k n (λj hj=>h j (by omega))]
  by_cases e:n=k
  ·subst e;rw[if_neg (by omega),if_pos (by omega),Int.zero_add]
  ·rw[h n (by omega) e,Int.add_zero]
   by_cases c:k<n
   ·rw[if_pos c,if_pos (by omega)]
   ·rw[if_neg c,if_neg (by omega)]
theorem aDp (n k:Nat)(hn:n<=100)(hk:k<n)(V:Int)(b w w':Bool)(f g:Nat->Int)(hf:∀j,j<n-> -1152921504606846976<=f j∧f j<=1152921504606846976)(hg:∀j,j<n-> -1152921504606846976<=g j∧g j<=1152921504606846976)
  (hz:∀j,j<n->j≠k->f j*g j=0)(hV:f k*g k=V*1073741824)(r: -1152921504606846976<=V∧V<=1152921504606846976):bo 30 n n b f g w w'=some (V,b):=by
 have h:=aKq 30 (by decide) n hn b f g w w'
 have e:xQ (λj=>sat (f j)*sat (g j)) n=V*1073741824:=by
  rw[ayO n (λj hj=>by show sat (f j)*sat (g j)=f j*g j;rw[Ow (hf j hj),Ow (hg j hj)]:∀j,j<n->(λj=>sat (f j)*sat (g j)) j=(λj=>f j*g j) j),aF1 k n hz,if_pos hk,hV]
 have a:Dt (λj=>eV (f j)||eV (g j)) n=false:=aK0 n λj hj=>by
  show(eV (f j)||eV (g j))=false
  rw[G5 (hf j hj),G5 (hg j hj)];rfl
 rw[e,a,aKr,Ow r,G5 r,Bool.or_false,Bool.or_false] at h
 exact h
theorem aUt (x:Int)(b:Bool)(h:1<=x)(k:x<=72057594037927936):mh x b=some (x,b):=by
 unfold mh Hm
 rw[Pg.cm,acY x 1 72057594037927936 b h k];rfl
theorem aUu (x:Int)(b:Bool)(h:1<=x)(k:x<=72057594037927936):nK x b=some (x,b):=by
 unfold nK CF
 rw[Pg.cm,acY x 1 72057594037927936 b h k];rfl
theorem aVQ (x:Int)(h:0<=x)(k:x<24):wo x=some true:=by
 have h1:decide (x>=0)=true:=decide_eq_true h
 have h2:decide (x<24)=true:=decide_eq_true k
 unfold wo OR
 rw[h1,h2];rfl
theorem aVR:∀j:Nat,j<24->0<=wI (Int.tdiv (wI ((j:Int)*wI ((j:Int)-1))) 2)∧wI (Int.tdiv (wI ((j:Int)*wI ((j:Int)-1))) 2)+(j:Int)<=276+(if j=0 then 1 else 0):=by decide
theorem aQK {i j:Int}{d:Sy}(h:iK i j=some d)(ok:d.2=true):0<=d.1∧d.1<276:=by
 simp only[iK,EH,bP,bJ] at h
 by_cases h0:0<=i
 ·by_cases h1:i<j
  ·simp only[ge_iff_le,h0,h1,decide_true,cond_true,Option.some.injEq] at h
   subst h
   have h2:j<24:=of_decide_eq_true ok
   obtain⟨n,rfl⟩:=Int.eq_ofNat_of_zero_le (by omega:0<=j)
   obtain⟨k1,k2⟩:=aVR n (by omega)
   rw[if_neg (by omega)] at k2
   generalize wI (Int.tdiv (wI ((n:Int)*wI ((n:Int)-1))) 2)=c at*
   show 0<=wI (c+i)∧wI (c+i)<276
   rw[ey (by omega) (by omega)]
   omega
  ·simp only[ge_iff_le,h0,h1,decide_true,decide_false,cond_true,cond_false,Option.some.injEq] at h
   subst h;cases ok
 ·simp only[ge_iff_le,h0,decide_false,cond_false,Option.some.injEq] at h
  subst h;cases ok
theorem aF2 (i j:Nat)(h:i<j)(k:j<24):∃p:Int,iK i j=some (p,true)∧0<=p∧p<276:=by
 have c1:decide ((i:Int)>=0)=true:=decide_eq_true (by omega)
 have c2:decide ((i:Int)<(j:Int))=true:=decide_eq_true (by omega)
 have c3:decide ((j:Int)<24)=true:=decide_eq_true (by omega)
 have e:iK i j=some (wI (wI (Int.tdiv (wI ((j:Int)*wI ((j:Int)-1))) 2)+(i:Int)),true):=by
  unfold iK EH
  rw[c1,c2,c3];rfl
 refine⟨_,e,?_⟩
 have:=aQK e rfl
 exact this
theorem aK1 (U D:Nat->Int)(hU:∀p,p<276->U p=0)(i j:Nat)(h:i<=j)(k:j<24):Di U D i j=some (if i=j then 1073741824 else 0):=by
 unfold Di asj
 by_cases e:i=j
 ·subst e
  have c0:((i:Int)==(i:Int))=true:=by simp
  have c1:decide ((i:Int)>=0)=true:=decide_eq_true (by omega)
  have c2:decide ((i:Int)<24)=true:=decide_eq_true (by omega)
  rw[c0,c1,c2,if_pos rfl];rfl
 ·have c0:((i:Int)==(j:Int))=false:=by simp;omega
  obtain⟨p,hp,p0,p1⟩:=aF2 i j (by omega) k
  have c1:aX p 276=true:=by rw[bk];omega
  have c2:Nat.ble (0+Int.toNat p*1+1) 276=true:=by rw[bO];omega
  rw[c0,if_neg e,Pg.bJ,cond_false,Pg.cm,hp,Option.bind_some]
  simp only[Bool.not_true,c1,c2,Pg.bJ,cond_false,cond_true,Pg.bP]
  rw[hU _ (by omega)]
theorem aEO (D:Nat->Int)(i j:Nat)(h:i<j)(k:j<24):xf (λ_=>0) D i j 0=some (λ_=>0,D):=by
 obtain⟨p,hp,p0,p1⟩:=aF2 i j h k
 have c1:aX p 276=true:=by rw[bk];omega
 have c2:(Nat.ble (0+Int.toNat p*1+1) 276&&Nat.ble (0+Int.toNat p*1+1) 300)=true:=by rw[Bool.and_eq_true,bO,bO];omega
 unfold xf aep
 rw[Pg.cm,hp,Option.bind_some]
 dsimp only
 rw[c1,c2]
 simp only[Pg.bJ,cond_true,Pg.bP]
 have e:(λj:Nat=>bif Nat.beq j (Int.toNat p) then(0:Int) else 0)=λ_=>0:=funext λj=>by cases Nat.beq j (Int.toNat p)<;>rfl
 exact congrArg some (Prod.ext e rfl)
theorem aXl (b:Bool)(D:Nat->Int)(hD:∀i,i<24->1<=D i∧D i<=72057594037927936)(d:dN.B)(hd:0<=d.1∧d.1<=24∧d.2.1=b∧(∀p,p<276->d.2.2.1.1 p=0)∧∀i,i<24->d.2.2.1.2 i=D i):Ok (z5 d) (λx:j7=>x.2.1=b∧(∀p,p<276->x.2.2.1.1 p=0)∧∀i,i<24->x.2.2.1.2 i=D i):=
 ba (s:=_) (λd:dN.B=>0<=d.1∧d.1<=24∧d.2.1=b∧(∀p,p<276->d.2.2.1.1 p=0)∧∀i,i<24->d.2.2.1.2 i=D i) (λd:dN.B=>Int.toNat (24-d.1)) (λx:j7=>x.2.1=b∧(∀p,p<276->x.2.2.1.1 p=0)∧∀i,i<24->x.2.2.1.2 i=D i) (λd hd=>by
  obtain⟨i0,i1,i2,i3,i4⟩:=hd
  have hw:wI (d.1+1)=d.1+1:=bg (by omega) (by omega)
  unfold zZ
  dsimp only
  rw[aK]
  refine⟨λh=> ?_,λ_=>by rw[av];exact⟨i2,i3,i4⟩⟩
  have h:=of_decide_eq_true h
  have r0:aX d.1 24=true:=by rw[bk];omega
  have r1:(true&&Nat.ble (276+Int.toNat d.1*1+1) 300)=true:=by rw[Bool.true_and,bO];omega
  have k:=i4 (Int.toNat d.1) (by omega)
  have hd:=hD (Int.toNat d.1) (by omega)
  rw[r0,aB,aUt _ _ (by omega) (by omega),bM,aB,r1,aB,av,hw]
  refine⟨⟨by show 0<=d.1+1;omega,by show d.1+1<=24;omega,i2,i3,λi hi=> ?_⟩,by show Int.toNat (24-(d.1+1))<_;omega⟩
  show(bif Nat.beq i (Int.toNat d.1) then d.2.2.1.2 (Int.toNat d.1) else d.2.2.1.2 i)=D i
  rw[E7]
  split
  ·rename_i e;rw[e,k]
  ·exact i4 i hi) 2000 d hd (by omega)
theorem aXm (b:Bool)(D:Nat->Int)(d:dO.B)(hd:0<=d.1∧d.1<=276∧d.2.1=b∧(∀p,p<276->d.2.2.1.1 p=0)∧∀i,i<24->d.2.2.1.2 i=D i):Ok (z7 d) (λx:j8=>x.2.1=b∧(∀p,p<276->x.2.2.1.1 p=0)∧∀i,i<24->x.2.2.1.2 i=D i):=
 ba (s:=_) (λd:dO.B=>0<=d.1∧d.1<=276∧d.2.1=b∧(∀p,p<276->d.2.2.1.1 p=0)∧∀i,i<24->d.2.2.1.2 i=D i) (λd:dO.B=>Int.toNat (276-d.1)) (λx:j8=>x.2.1=b∧(∀p,p<276->x.2.2.1.1 p=0)∧∀i,i<24->x.2.2.1.2 i=D i) (λd hd=>by
  obtain⟨i0,i1,i2,i3,i4⟩:=hd
  have hw:wI (d.1+1)=d.1+1:=bg (by omega) (by omega)
  unfold z6
  dsimp only
  rw[aK]
  refine⟨λh=> ?_,λ_=>by rw[av];exact⟨i2,i3,i4⟩⟩
  have h:=of_decide_eq_true h
  have r0:aX d.1 276=true:=by rw[bk];omega
  have r1:Nat.ble (0+Int.toNat d.1*1+1) 276=true:=by rw[bO];omega
  have r2:Nat.ble (0+Int.toNat d.1*1+1) 300=true:=by rw[bO];omega
  rw[r0,r1,r2,i3 (Int.toNat d.1) (by omega),aB,aB,acY 0 _ _ _ (by decide) (by decide),bM,aB,Bool.true_and,aB,av,hw]
  refine⟨⟨by show 0<=d.1+1;omega,by show d.1+1<=276;omega,i2,λi hi=> ?_,i4⟩,by show Int.toNat (276-(d.1+1))<_;omega⟩
  show(bif Nat.beq i (Int.toNat d.1) then 0 else d.2.2.1.1 i)=0
  rw[E7]
  split
  ·rfl
  ·exact i3 i hi) 2000 d hd (by omega)
theorem aN1 (U D:Nat->Int)(b:Bool)(hU:∀p,p<276->U p=0)(hD:∀i,i<24->1<=D i∧D i<=72057594037927936):Ok (fe U D b) (λr:Mx=>r.2=b∧(∀p,p<276->r.1.1 p=0)∧∀i,i<24->r.1.2 i=D i):=by
 unfold fe EC
 show PQ _ _
 refine ay (aXl b D hD _ ⟨Int.le_refl 0,(show(0:Int)<=24 by decide),rfl,hU,λ_ _=>rfl⟩) λx _ hx=> ?_
 refine ay (aXm b D _ ⟨Int.le_refl 0,(show(0:Int)<=276 by decide),hx⟩) λy _ hy=> ?_
 rw[av];exact hy
theorem aXn (k:Nat)(hk:k<24)(w d:dP.B)(hU:∀p,p<276->w.2.2.2.1.1 p=0)(hd:0<=d.1.2.2.2∧d.1.2.2.2<=d.1.2.2.1∧d.1.2.2.1=(k:Int)+1∧d.1.1=k∧d.1.2.1=k∧d.2.1=w.2.1∧d.2.2.1=w.2.2.1∧d.2.2.2.1=w.2.2.2.1∧d.2.2.2.2.1=w.2.2.2.2.1∧∀m:Nat,m<24->d.2.2.2.2.2 m=if m=k∧(m:Int)<d.1.2.2.2 then 1073741824 else 0):Ok (Ac d) (λx:j9=>x.1.1=k∧x.1.2.1=k∧x.2.1=w.2.1∧x.2.2.1=w.2.2.1∧x.2.2.2.1=w.2.2.2.1∧x.2.2.2.2.1=w.2.2.2.2.1∧∀m:Nat,m<24->x.2.2.2.2.2 m=if m=k then 1073741824 else 0):=
 ba (s:=_) (λd:dP.B=>0<=d.1.2.2.2∧d.1.2.2.2<=d.1.2.2.1∧d.1.2.2.1=(k:Int)+1∧d.1.1=k∧d.1.2.1=k∧d.2.1=w.2.1∧d.2.2.1=w.2.2.1∧d.2.2.2.1=w.2.2.2.1∧d.2.2.2.2.1=w.2.2.2.2.1∧∀m:Nat,m<24->d.2.2.2.2.2 m=if m=k∧(m:Int)<d.1.2.2.2 then 1073741824 else 0) (λd:dP.B=>Int.toNat (d.1.2.2.1-d.1.2.2.2)) (λx:j9=>x.1.1=k∧x.1.2.1=k∧x.2.1=w.2.1∧x.2.2.1=w.2.2.1∧x.2.2.2.1=w.2.2.2.1∧x.2.2.2.2.1=w.2.2.2.2.1∧∀m:Nat,m<24->x.2.2.2.2.2 m=if m=k then 1073741824 else 0) (λd hd=>by
  obtain⟨i0,i1,i2,i3,i3',i4,i5,i6,i7,i8⟩:=hd
  have hw:wI (d.1.2.2.2+1)=d.1.2.2.2+1:=bg (by omega) (by omega)
  unfold Aa
  dsimp only
  rw[aK]
  refine⟨λh=> ?_,λh=> ?_⟩
  ·have h:=of_decide_eq_true h
   obtain⟨m,hm⟩:∃m:Nat,d.1.2.2.2=(m:Int):=⟨Int.toNat d.1.2.2.2,by omega⟩
   have r0:aX d.1.2.2.2 24=true:=by rw[bk];omega
   have r1:(true&&Nat.ble (0+Int.toNat d.1.2.2.2*1+1) 24)=true:=by rw[Bool.true_and,bO];omega
   rw[r0,r1,i6,i3,hm,aK1 _ _ hU m k (by omega) hk,bM,aB,aB,av]
   rw[hm] at hw
   rw[hw]
   refine⟨⟨by show 0<=(m:Int)+1;omega,by show(m:Int)+1<=d.1.2.2.1;omega,i2,rfl,i3',i4,i5,rfl,i7,λj hj=> ?_⟩,by show Int.toNat (d.1.2.2.1-((m:Int)+1))<_;omega⟩
   show(bif Nat.beq j (Int.toNat (m:Int)) then(if m=k then 1073741824 else 0) else d.2.2.2.2.2 j)=if j=k∧(j:Int)<(m:Int)+1 then 1073741824 else 0
   rw[E7,i8 j hj,hm,Int.toNat_natCast]
   by_cases e1:j=m
   ·subst e1
    rw[if_pos rfl]
    by_cases e2:j=k
    ·rw[if_pos e2,if_pos ⟨e2,by omega⟩]
    ·rw[if_neg e2,if_neg (λh=>e2 h.1)]
   ·rw[if_neg e1]
    by_cases e2:j=k∧(j:Int)<(m:Int)
    ·rw[if_pos e2,if_pos ⟨e2.1,by omega⟩]
    ·rw[if_neg e2,if_neg (λh=>e2 ⟨h.1,by omega⟩)]
  ·have h:=of_decide_eq_false h
   rw[av]
   refine⟨i3,i3',i4,i5,i6,i7,λm hm=> ?_⟩
   show d.2.2.2.2.2 m=_
   rw[i8 m hm]
   by_cases e:m=k
   ·rw[if_pos e,if_pos ⟨e,by omega⟩]
   ·rw[if_neg e,if_neg (λh=>e h.1)]) 2000 d hd (by omega)
theorem aXo (F:Nat->Int)(hF:∀i,i<24->F i=0∨F i=1073741824)(k:Nat)(hk:k<24)(w d:dQ.B)(hf:∀i k,i<24->k<24->w.2.2.1 (i*24+k)=if i=k then F i else 0)(hc:∀m:Nat,m<24->w.2.2.2.2.2 m=if m=k then 1073741824 else 0)(hd:0<=d.1.2.2∧d.1.2.2<=24∧d.1.1=k∧d.1.2.1=k∧d.2.1=w.2.1∧d.2.2.1=w.2.2.1∧d.2.2.2.1=w.2.2.2.1∧d.2.2.2.2.2=w.2.2.2.2.2∧∀i j,i<24->j<48->d.2.2.2.2.1 (i*48+j)=if i=j∧(j<k∨(j=k∧(k:Int)<d.1.2.2)) then F i else 0):Ok (Ae d) (λx:ka=>x.1.2.1=k∧x.2.1=w.2.1∧x.2.2.1=w.2.2.1∧x.2.2.2.1=w.2.2.2.1∧∀i j,i<24->j<48->x.2.2.2.2.1 (i*48+j)=if i=j∧j<k+1 then F i else 0):=
 ba (s:=_) (λd:dQ.B=>0<=d.1.2.2∧d.1.2.2<=24∧d.1.1=k∧d.1.2.1=k∧d.2.1=w.2.1∧d.2.2.1=w.2.2.1∧d.2.2.2.1=w.2.2.2.1∧d.2.2.2.2.2=w.2.2.2.2.2∧∀i j,i<24->j<48->d.2.2.2.2.1 (i*48+j)=if i=j∧(j<k∨(j=k∧(k:Int)<d.1.2.2)) then F i else 0) (λd:dQ.B=>Int.toNat (24-d.1.2.2)) (λx:ka=>x.1.2.1=k∧x.2.1=w.2.1∧x.2.2.1=w.2.2.1∧x.2.2.2.1=w.2.2.2.1∧∀i j,i<24->j<48->x.2.2.2.2.1 (i*48+j)=if i=j∧j<k+1 then F i else 0) (λd hd=>by
  obtain⟨i0,i1,i2,i3,i4,i5,i6,i7,i8⟩:=hd
  have hw:wI (d.1.2.2+1)=d.1.2.2+1:=bg (by omega) (by omega)
  unfold Ad
  dsimp only
  rw[aK]
  refine⟨λh=> ?_,λh=> ?_⟩
  ·have h:=of_decide_eq_true h
   obtain⟨m,hm⟩:∃m:Nat,d.1.2.2=(m:Int):=⟨Int.toNat d.1.2.2,by omega⟩
   have aO3:m<24:=by omega
   have r0:aX d.1.2.2 24=true:=by rw[bk];omega
   have r1:aX d.1.1 48=true:=by rw[bk];omega
   have r2:(true&&Nat.ble (0+(Int.toNat d.1.2.2*48+Int.toNat d.1.1)*1+1) 1152)=true:=by rw[Bool.true_and,bO];omega
   have bF:∀j,j<24-> -1152921504606846976<=F j∧F j<=1152921504606846976:=λj hj=>by have:=hF j hj;omega
   have dot:bo 30 24 24 d.2.1 (λj=>d.2.2.1 (0+Int.toNat d.1.2.2*24+j)) d.2.2.2.2.2 false false=some (if m=k then F k else 0,d.2.1):=by
    have fj:∀j,j<24->d.2.2.1 (0+Int.toNat d.1.2.2*24+j)=if m=j then F m else 0:=λj hj=>by
     rw[i5,hm,Int.toNat_natCast,Nat.zero_add];exact hf m j aO3 hj
    have gj:∀j,j<24->d.2.2.2.2.2 j=if j=k then 1073741824 else 0:=λj hj=>by rw[i7];exact hc j hj
    refine aDp 24 k (by decide) hk _ _ _ _ _ _ (λj hj=> ?_) (λj hj=> ?_) (λj hj e=> ?_) ?_ ?_
    ·show -1152921504606846976<=d.2.2.1 (0+Int.toNat d.1.2.2*24+j)∧d.2.2.1 (0+Int.toNat d.1.2.2*24+j)<=1152921504606846976
     rw[fj j hj]
     have:=bF m aO3
     split<;>omega
    ·rw[gj j hj]
     split<;>omega
    ·show d.2.2.1 (0+Int.toNat d.1.2.2*24+j)*d.2.2.2.2.2 j=0
     rw[gj j hj,if_neg e,Int.mul_zero]
    ·show d.2.2.1 (0+Int.toNat d.1.2.2*24+k)*d.2.2.2.2.2 k=_
     rw[fj k hk,gj k hk,if_pos rfl]
     by_cases e:m=k
     ·subst e;rw[if_pos rfl]
     ·rw[if_neg e,if_neg e]
    ·have:=bF k hk
     split<;>omega
   rw[r0,aB,dot,bM,aB,r1,aB,r2,aB,av,hw]
   refine⟨⟨by show 0<=d.1.2.2+1;omega,by show d.1.2.2+1<=24;omega,i2,i3,i4,i5,i6,i7,λi j hi hj=> ?_⟩,by show Int.toNat (24-(d.1.2.2+1))<_;omega⟩
   show(bif Nat.beq (i*48+j) (Int.toNat d.1.2.2*48+Int.toNat d.1.1) then(if m=k then F k else 0) else d.2.2.2.2.1 (i*48+j))=if i=j∧(j<k∨(j=k∧(k:Int)<d.1.2.2+1)) then F i else 0
   rw[E7,i8 i j hi hj,hm,i2,Int.toNat_natCast,Int.toNat_natCast]
   by_cases e1:i*48+j=m*48+k
   ·have ei:i=m:=by omega
    have ej:j=k:=by omega
    subst ei
    subst ej
    rw[if_pos e1]
    by_cases e2:i=j
    ·subst e2;rw[if_pos rfl,if_pos ⟨rfl,Or.inr ⟨rfl,by omega⟩⟩]
    ·rw[if_neg e2,if_neg (λh=>e2 h.1)]
   ·rw[if_neg e1]
    by_cases e2:i=j∧(j<k∨(j=k∧(k:Int)<(m:Int)))
    ·rw[if_pos e2,if_pos (by omega)]
    ·rw[if_neg e2,if_neg (by omega)]
  ·have h:=of_decide_eq_false h
   rw[av]
   refine⟨i3,i4,i5,i6,λi j hi hj=> ?_⟩
   show d.2.2.2.2.1 (i*48+j)=_
   rw[i8 i j hi hj]
   by_cases e:i=j∧(j<k∨(j=k∧(k:Int)<d.1.2.2))
   ·rw[if_pos e,if_pos (by omega)]
   ·rw[if_neg e,if_neg (by omega)]) 2000 d hd (by omega)
theorem aXp (F:Nat->Int)(hF:∀i,i<24->F i=0∨F i=1073741824)(w d:dS.B)(hU:∀p,p<276->w.2.2.2.1.1 p=0)(hf:∀i k,i<24->k<24->w.2.2.1 (i*24+k)=if i=k then F i else 0)(hd:0<=d.1∧d.1<=24∧d.2.1=w.2.1∧d.2.2.1=w.2.2.1∧d.2.2.2.1=w.2.2.2.1∧∀i j,i<24->j<48->d.2.2.2.2 (i*48+j)=if i=j∧(j:Int)<d.1 then F i else 0):Ok (Ai d) (λx:kd=>x.2.1=w.2.1∧x.2.2.1=w.2.2.1∧∀i j,i<24->j<48->x.2.2.2.2 (i*48+j)=if i=j∧j<24 then F i else 0):=
 ba (s:=_) (λd:dS.B=>0<=d.1∧d.1<=24∧d.2.1=w.2.1∧d.2.2.1=w.2.2.1∧d.2.2.2.1=w.2.2.2.1∧∀i j,i<24->j<48->d.2.2.2.2 (i*48+j)=if i=j∧(j:Int)<d.1 then F i else 0) (λd:dS.B=>Int.toNat (24-d.1)) (λx:kd=>x.2.1=w.2.1∧x.2.2.1=w.2.2.1∧∀i j,i<24->j<48->x.2.2.2.2 (i*48+j)=if i=j∧j<24 then F i else 0) (λd hd=>by
  obtain⟨i0,i1,i2,i3,i4,i5⟩:=hd
  unfold Ah
  dsimp only
  rw[aK]
  refine⟨λh=> ?_,λh=> ?_⟩
  ·have h:=of_decide_eq_true h
   obtain⟨k,hk⟩:∃m:Nat,d.1=(m:Int):=⟨Int.toNat d.1,by omega⟩
   have aWO:k<24:=by omega
   have hw:wI (d.1+1)=(k:Int)+1:=by rw[hk];exact bg (by omega) (by omega)
   refine ay (aXn k aWO ((d.1,d.1,wI (d.1+1),0),d.2.1,d.2.2.1,d.2.2.2.1,d.2.2.2.2,λx=>0) _ (by show∀p,p<276->d.2.2.2.1.1 p=0;rw[i4];exact hU) ⟨Int.le_refl 0,by show 0<=wI (d.1+1);omega,hw,hk,hk,rfl,rfl,rfl,rfl,λm hm=>by show(0:Int)=_;rw[if_neg (by show ¬(m=k∧(m:Int)<0);omega)]⟩) λx _ hx=> ?_
   obtain⟨a0,a1,a2,a3,a4,a5,a6⟩:=hx
   have a2:x.2.1=d.2.1:=a2
   have a3:x.2.2.1=d.2.2.1:=a3
   have a4:x.2.2.2.1=d.2.2.2.1:=a4
   have a5:x.2.2.2.2.1=d.2.2.2.2:=a5
   refine ay (aXo F hF k aWO ((x.1.1,x.1.2.1,0),x.2) _ (by show∀i k,i<24->k<24->x.2.2.1 (i*24+k)=_;rw[a3,i3];exact hf) a6 ⟨Int.le_refl 0,(show(0:Int)<=24 by decide),a0,a1,rfl,rfl,rfl,rfl,λi j hi hj=> ?_⟩) λy _ hy=> ?_
   ·show x.2.2.2.2.1 (i*48+j)=if i=j∧(j<k∨(j=k∧(k:Int)<0)) then F i else 0
    rw[a5,i5 i j hi hj]
    by_cases e:i=j∧(j:Int)<d.1
    ·rw[if_pos e,if_pos (by omega)]
    ·rw[if_neg e,if_neg (by omega)]
   obtain⟨b1,b2,b3,b4,b5⟩:=hy
   have b2:y.2.1=x.2.1:=b2
   have b3:y.2.2.1=x.2.2.1:=b3
   have b4:y.2.2.2.1=x.2.2.2.1:=b4
   have hw2:wI (y.1.2.1+1)=d.1+1:=by rw[b1,hk];exact bg (by omega) (by omega)
   rw[av,hw2]
   refine⟨⟨by show 0<=d.1+1;omega,by show d.1+1<=24;omega,b2.trans (a2.trans i2),b3.trans (a3.trans i3),b4.trans (a4.trans i4),λi j hi hj=> ?_⟩,by show Int.toNat (24-(d.1+1))<_;omega⟩
   show y.2.2.2.2.1 (i*48+j)=if i=j∧(j:Int)<d.1+1 then F i else 0
   rw[b5 i j hi hj]
   by_cases e:i=j∧j<k+1
   ·rw[if_pos e,if_pos (by omega)]
   ·rw[if_neg e,if_neg (by omega)]
  ·have h:=of_decide_eq_false h
   rw[av]
   refine⟨i2,i3,λi j hi hj=> ?_⟩
   show d.2.2.2.2 (i*48+j)=_
   rw[i5 i j hi hj]
   by_cases e:i=j∧j<24
   ·rw[if_pos e,if_pos (by omega)]
   ·rw[if_neg e,if_neg (by omega)]) 2000 d hd (by omega)
theorem aXq (F:Nat->Int)(b:Bool)(d:dR.B)(hd:0<=d.1∧d.1<=24∧d.2.1=b∧∀i k:Nat,i<24->k<48->d.2.2.2 (i*48+k)=if i=k then F i else if k=24+i∧(i:Int)<d.1 then 1073741824 else 0):Ok (Ag d) (λx:kc=>x.2.1=b∧∀i k,i<24->k<48->x.2.2.2 (i*48+k)=if i=k then F i else if k=24+i then 1073741824 else 0):=
 ba (s:=_) (λd:dR.B=>0<=d.1∧d.1<=24∧d.2.1=b∧∀i k:Nat,i<24->k<48->d.2.2.2 (i*48+k)=if i=k then F i else if k=24+i∧(i:Int)<d.1 then 1073741824 else 0) (λd:dR.B=>Int.toNat (24-d.1)) (λx:kc=>x.2.1=b∧∀i k,i<24->k<48->x.2.2.2 (i*48+k)=if i=k then F i else if k=24+i then 1073741824 else 0) (λd hd=>by
  obtain⟨i0,i1,i2,i3⟩:=hd
  have hw:wI (d.1+1)=d.1+1:=bg (by omega) (by omega)
  unfold Af
  dsimp only
  rw[aK]
  refine⟨λh=> ?_,λh=> ?_⟩
  ·have h:=of_decide_eq_true h
   have h1:wI (24+d.1)=24+d.1:=ey (by omega) (by omega)
   have r0:aX d.1 24=true:=by rw[bk];omega
   have r1:aX (24+d.1) 48=true:=by rw[bk];omega
   have r2:(true&&Nat.ble (0+(Int.toNat d.1*48+Int.toNat (24+d.1))*1+1) 1152)=true:=by rw[Bool.true_and,bO];omega
   rw[h1,r0,r1,r2,hw,aB,aB,aB,av]
   refine⟨⟨by show 0<=d.1+1;omega,by show d.1+1<=24;omega,i2,λi k hi hk=> ?_⟩,by show Int.toNat (24-(d.1+1))<_;omega⟩
   show(bif Nat.beq (i*48+k) (Int.toNat d.1*48+Int.toNat (24+d.1)) then 1073741824 else d.2.2.2 (i*48+k))=if i=k then F i else if k=24+i∧(i:Int)<d.1+1 then 1073741824 else 0
   rw[E7,i3 i k hi hk]
   by_cases e1:i*48+k=Int.toNat d.1*48+Int.toNat (24+d.1)
   ·rw[if_pos e1,if_neg (by omega),if_pos (by omega)]
   ·rw[if_neg e1]
    by_cases e2:i=k
    ·rw[if_pos e2,if_pos e2]
    ·rw[if_neg e2,if_neg e2]
     by_cases e3:k=24+i∧(i:Int)<d.1
     ·rw[if_pos e3,if_pos (by omega)]
     ·rw[if_neg e3,if_neg (by omega)]
  ·have h:=of_decide_eq_false h
   rw[av]
   refine⟨i2,λi k hi hk=> ?_⟩
   show d.2.2.2 (i*48+k)=_
   rw[i3 i k hi hk]
   by_cases e2:i=k
   ·rw[if_pos e2,if_pos e2]
   ·rw[if_neg e2,if_neg e2]
    by_cases e3:k=24+i
    ·rw[if_pos e3,if_pos (by omega)]
    ·rw[if_neg e3,if_neg (by omega)]) 2000 d hd (by omega)
theorem aN2 (F U D Fm:Nat->Int)(b:Bool)(hF:∀i,i<24->F i=0∨F i=1073741824)(hU:∀p,p<276->U p=0)(hf:∀i k,i<24->k<24->Fm (i*24+k)=if i=k then F i else 0):Ok (oY U D b Fm) (λr:MC=>r.1=b∧∀i k,i<24->k<48->r.2 (i*48+k)=if i=k then F i else if k=24+i then 1073741824 else 0):=by
 unfold oY EL
 show PQ _ _
 refine ay (aXp F hF (0,b,Fm,(U,D),λx=>0) _ hU hf ⟨Int.le_refl 0,(show(0:Int)<=24 by decide),rfl,rfl,rfl,λi j hi hj=>by show(0:Int)=_;rw[if_neg (by show ¬(i=j∧(j:Int)<0);omega)]⟩) λx _ hx=> ?_
 obtain⟨a1,a2,a3⟩:=hx
 refine ay (aXq F b _ ⟨Int.le_refl 0,(show(0:Int)<=24 by decide),a1,λi k hi hk=> ?_⟩) λy _ hy=> ?_
 ·show x.2.2.2.2 (i*48+k)=_
  rw[a3 i k hi hk]
  by_cases e:i=k
  ·rw[if_pos ⟨e,by omega⟩,if_pos e]
  ·rw[if_neg (λh=>e h.1),if_neg e,if_neg (by show ¬(k=24+i∧(i:Int)<0);omega)]
 ·rw[av];exact hy
end Go.Proofs.YtldgljclcgaibaaGreat
namespace Go.Proofs.YtldgljclcgaibaaGreat
open Go.Ab Go.Ab.Pg
theorem aYX (F:Nat->Int)(hF:∀i,i<24->F i=0∨F i=1073741824)(w d:dU.B)(hi:0<=w.1.1∧w.1.1<24)(hd:0<=d.1.2.2∧d.1.2.2<=24∧d.1.1=w.1.1∧d.1.2.1=w.1.2.1∧d.2.1=w.2.1∧d.2.2.1=w.2.2.1∧(∀i k,i<24->k<24->d.2.2.2.1 (i*24+k)=if i=k then F i else 0)∧d.2.2.2.2=w.2.2.2.2):Ok (Ak d) (λx:kg=>x.1.2.1=w.1.2.1∧x.2.1=w.2.1∧x.2.2.1=w.2.2.1∧(∀i k,i<24->k<24->x.2.2.2.1 (i*24+k)=if i=k then F i else 0)∧x.2.2.2.2=w.2.2.2.2):=
 ba (s:=_) (λd:dU.B=>0<=d.1.2.2∧d.1.2.2<=24∧d.1.1=w.1.1∧d.1.2.1=w.1.2.1∧d.2.1=w.2.1∧d.2.2.1=w.2.2.1∧(∀i k,i<24->k<24->d.2.2.2.1 (i*24+k)=if i=k then F i else 0)∧d.2.2.2.2=w.2.2.2.2) (λd:dU.B=>Int.toNat (24-d.1.2.2)) (λx:kg=>x.1.2.1=w.1.2.1∧x.2.1=w.2.1∧x.2.2.1=w.2.2.1∧(∀i k,i<24->k<24->x.2.2.2.1 (i*24+k)=if i=k then F i else 0)∧x.2.2.2.2=w.2.2.2.2) (λd hd=>by
  obtain⟨i0,i1,i2,i3,i4,i5,i6,i7⟩:=hd
  have hw:wI (d.1.2.2+1)=d.1.2.2+1:=bg (by omega) (by omega)
  unfold Aj
  dsimp only
  rw[aK]
  refine⟨λh=> ?_,λh=>by rw[av];exact⟨i3,i4,i5,i6,i7⟩⟩
  have h:=of_decide_eq_true h
  have r0:aX d.1.1 24=true:=by rw[bk,i2];omega
  have r1:aX d.1.2.2 24=true:=by rw[bk];omega
  have r2:(true&&Nat.ble (0+(Int.toNat d.1.1*24+Int.toNat d.1.2.2)*1+1) 576)=true:=by rw[Bool.true_and,bO,i2];omega
  have v:=i6 (Int.toNat d.1.1) (Int.toNat d.1.2.2) (by rw[i2];omega) (by omega)
  have bF:=hF (Int.toNat d.1.1) (by rw[i2];omega)
  have s:aQ (d.2.2.2.1 (Int.toNat d.1.1*24+Int.toNat d.1.2.2)) d.2.1=some (d.2.2.2.1 (Int.toNat d.1.1*24+Int.toNat d.1.2.2),d.2.1):=by
   have r: -1152921504606846976<=d.2.2.2.1 (Int.toNat d.1.1*24+Int.toNat d.1.2.2)∧d.2.2.2.1 (Int.toNat d.1.1*24+Int.toNat d.1.2.2)<=1152921504606846976:=by rw[v];split<;>omega
   rw[oL,Ow r,G5 r,Bool.or_false]
  rw[r0,r1,r2,aB,aB,s,bM,aB,aB,aB,av,hw]
  refine⟨⟨by show 0<=d.1.2.2+1;omega,by show d.1.2.2+1<=24;omega,i2,i3,i4,i5,λi k hi hk=> ?_,i7⟩,by show Int.toNat (24-(d.1.2.2+1))<_;omega⟩
  show(bif Nat.beq (i*24+k) (Int.toNat d.1.1*24+Int.toNat d.1.2.2) then d.2.2.2.1 (Int.toNat d.1.1*24+Int.toNat d.1.2.2) else d.2.2.2.1 (i*24+k))=_
  rw[E7]
  split
  ·rename_i e;rw[<-e];exact i6 i k hi hk
  ·exact i6 i k hi hk) 2000 d hd (by omega)
theorem aYY (F D q:Nat->Int)(b:Bool)(hF:∀i,i<24->F i=0∨F i=1073741824)(w d:dX.B)(hD:∀i,i<24->w.2.2.1.2 i=D i)(hq:∀i,i<24->w.2.2.2.2.1 i=q i∧0<=q i∧q i<=72057594037927936)(hd:0<=d.1∧d.1<=24∧d.2.1=b∧d.2.2.1=w.2.2.1∧(∀i k,i<24->k<24->d.2.2.2.1 (i*24+k)=if i=k then F i else 0)∧d.2.2.2.2.1=w.2.2.2.2.1∧d.2.2.2.2.2.1=w.2.2.2.2.2.1∧∀i:Nat,i<24->(i:Int)<d.1->d.2.2.2.2.2.2 i=D i∧d.2.2.2.2.2.2 (24+i)=q i):Ok (Aq d) (λx:kl=>x.2.1=b∧x.2.2.1=w.2.2.1∧(∀i k,i<24->k<24->x.2.2.2.1 (i*24+k)=if i=k then F i else 0)∧x.2.2.2.2.2.1=w.2.2.2.2.2.1∧∀i:Nat,i<24->(i:Int)<24->x.2.2.2.2.2.2 i=D i∧x.2.2.2.2.2.2 (24+i)=q i):=
 ba (s:=_) (λd:dX.B=>0<=d.1∧d.1<=24∧d.2.1=b∧d.2.2.1=w.2.2.1∧(∀i k,i<24->k<24->d.2.2.2.1 (i*24+k)=if i=k then F i else 0)∧d.2.2.2.2.1=w.2.2.2.2.1∧d.2.2.2.2.2.1=w.2.2.2.2.2.1∧∀i:Nat,i<24->(i:Int)<d.1->d.2.2.2.2.2.2 i=D i∧d.2.2.2.2.2.2 (24+i)=q i) (λd:dX.B=>Int.toNat (24-d.1)) (λx:kl=>x.2.1=b∧x.2.2.1=w.2.2.1∧(∀i k,i<24->k<24->x.2.2.2.1 (i*24+k)=if i=k then F i else 0)∧x.2.2.2.2.2.1=w.2.2.2.2.2.1∧∀i:Nat,i<24->(i:Int)<24->x.2.2.2.2.2.2 i=D i∧x.2.2.2.2.2.2 (24+i)=q i) (λd hd=>by
  obtain⟨i0,i1,i2,i3,i4,i5,i6,i7⟩:=hd
  have hw:wI (d.1+1)=d.1+1:=bg (by omega) (by omega)
  unfold Ap
  dsimp only
  rw[aK]
  refine⟨λh=> ?_,λh=> ?_⟩
  ·have h:=of_decide_eq_true h
   have h1:wI (24+d.1)=24+d.1:=ey (by omega) (by omega)
   have r0:aX d.1 24=true:=by rw[bk];omega
   have r1:aX d.1 48=true:=by rw[bk];omega
   have r2:(true&&Nat.ble (0+Int.toNat d.1*1+1) 48)=true:=by rw[Bool.true_and,bO];omega
   have r3:aX (24+d.1) 48=true:=by rw[bk];omega
   have r4:(true&&Nat.ble (0+Int.toNat (24+d.1)*1+1) 48)=true:=by rw[Bool.true_and,bO];omega
   obtain⟨m,hm⟩:∃m:Nat,d.1=(m:Int):=⟨Int.toNat d.1,by omega⟩
   have aO3:m<24:=by omega
   have vq:=hq m aO3
   have c:aZ (d.2.2.2.2.1 (Int.toNat d.1)) 0 72057594037927936 d.2.1=some (q m,b):=by
    rw[i5,hm,Int.toNat_natCast,vq.1,i2];exact acY _ _ _ _ vq.2.1 vq.2.2
   rw[h1,r0,r1,r2,r3,r4,aB,aB,c,bM,aB,aB,aB,aB]
   refine ay (aYX F hF _ _ ⟨i0,h⟩ ⟨Int.le_refl 0,(show(0:Int)<=24 by decide),rfl,rfl,rfl,rfl,i4,rfl⟩) λx _ hx=> ?_
   obtain⟨a0,a1,a2,a3,a4⟩:=hx
   have a0:x.1.2.1=d.1:=a0
   have a1:x.2.1=b:=a1
   have a2:x.2.2.1=d.2.2.1:=a2
   rw[av,a0,hw]
   refine⟨⟨by show 0<=d.1+1;omega,by show d.1+1<=24;omega,a1,a2.trans i3,a3,(congrArg (λz=>z.1) a4).trans i5,(congrArg (λz=>z.2.1) a4).trans i6,λi hi hj=> ?_⟩,by show Int.toNat (24-(d.1+1))<_;omega⟩
   have a6:x.2.2.2.2.2.2=λj=>bif Nat.beq j (Int.toNat (24+d.1)) then q m else bif Nat.beq j (Int.toNat d.1) then d.2.2.1.2 (Int.toNat d.1) else d.2.2.2.2.2.2 j:=congrArg (λz=>z.2.2) a4
   show x.2.2.2.2.2.2 i=D i∧x.2.2.2.2.2.2 (24+i)=q i
   have hj:(i:Int)<d.1+1:=hj
   rw[a6]
   show(bif Nat.beq i (Int.toNat (24+d.1)) then q m else bif Nat.beq i (Int.toNat d.1) then d.2.2.1.2 (Int.toNat d.1) else d.2.2.2.2.2.2 i)=D i∧(bif Nat.beq (24+i) (Int.toNat (24+d.1)) then q m else bif Nat.beq (24+i) (Int.toNat d.1) then d.2.2.1.2 (Int.toNat d.1) else d.2.2.2.2.2.2 (24+i))=q i
   rw[aAr,aAr,aAr,aAr,if_neg (by omega:¬i=Int.toNat (24+d.1)),if_neg (by omega:¬24+i=Int.toNat d.1)]
   by_cases e:i=m
   ·subst e
    rw[if_pos (by omega:i=Int.toNat d.1),if_pos (by omega:24+i=Int.toNat (24+d.1)),hm,Int.toNat_natCast,i3]
    exact⟨hD i hi,rfl⟩
   ·rw[if_neg (by omega:¬i=Int.toNat d.1),if_neg (by omega:¬24+i=Int.toNat (24+d.1))]
    exact i7 i hi (by omega)
  ·have h:=of_decide_eq_false h
   rw[av]
   exact⟨i2,i3,i4,i6,λi hi hj=>i7 i hi (by omega)⟩) 2000 d hd (by omega)
def NJ (F D q:Nat->Int):Prop:=∀i,i<24->okV (D i)∧((F i=1073741824∧q i=0)∨(F i=0∧okV (q i)))
def kept (F D q:Nat->Int)(i:Nat):Int:=if F i=0 then q i else D i
theorem NJ.F {F D q:Nat->Int}(h:NJ F D q):∀i,i<24->F i=0∨F i=1073741824:=λi hi=>by
 rcases(h i hi).2 with a|a
 ·exact Or.inr a.1
 ·exact Or.inl a.1
theorem NJ.q {F D q:Nat->Int}(h:NJ F D q):∀i,i<24->0<=q i∧q i<=72057594037927936:=λi hi=>by
 rcases(h i hi).2 with a|a
 ·have:=a.2;omega
 ·have:=a.2.le;omega
theorem NJ.z {F D q:Nat->Int}(h:NJ F D q):∀i,i<24->¬F i=0->q i=0∧F i=1073741824:=λi hi n=>by
 rcases(h i hi).2 with a|a
 ·exact⟨a.2,a.1⟩
 ·exact absurd a.1 n
theorem NJ.k {F D q:Nat->Int}(h:NJ F D q):∀i,i<24->okV (kept F D q i):=λi hi=>by
 unfold kept
 rcases(h i hi).2 with a|a
 ·rw[if_neg (by omega)];exact(h i hi).1
 ·rw[if_pos a.1];exact a.2
def yv (F D q:Nat->Int)(j k:Nat):Int:=if k=j then(if F j=0 then 0 else D j) else if k=24+j then q j else 0
theorem aUv {F D q:Nat->Int}(h:NJ F D q)(j k:Nat)(hj:j<24): -1152921504606846976<=yv F D q j k∧yv F D q j k<=1152921504606846976:=by
 have:=(h j hj).1.le
 have:=h.q j hj
 unfold yv
 split
 ·split<;>omega
 ·split<;>omega
theorem aYZ (F D q:Nat->Int)(hk:NJ F D q)(j:Nat)(hj:j<24)(w d:dV.B)(he:∀i:Nat,i<24->w.2.2.2.1 i=D i∧w.2.2.2.1 (24+i)=q i)(hW:(∀i k,i<24->k<48->w.2.2.2.2.1 (i*48+k)=if i=k then F i else if k=24+i then 1073741824 else 0))(hd:0<=d.1.2∧d.1.2<=48∧d.1.1=(j:Int)∧d.2.1=w.2.1∧d.2.2.1=w.2.2.1∧d.2.2.2.1=w.2.2.2.1∧d.2.2.2.2.1=w.2.2.2.2.1∧d.2.2.2.2.2.1=w.2.2.2.2.2.1∧∀k:Nat,k<48->(k:Int)<d.1.2->d.2.2.2.2.2.2 k=yv F D q j k):Ok (Am d) (λx:kh=>x.1.1=(j:Int)∧x.2.1=w.2.1∧x.2.2.1=w.2.2.1∧x.2.2.2.1=w.2.2.2.1∧x.2.2.2.2.1=w.2.2.2.2.1∧x.2.2.2.2.2.1=w.2.2.2.2.2.1∧∀k:Nat,k<48->x.2.2.2.2.2.2 k=yv F D q j k):=
 ba (s:=_) (λd:dV.B=>0<=d.1.2∧d.1.2<=48∧d.1.1=(j:Int)∧d.2.1=w.2.1∧d.2.2.1=w.2.2.1∧d.2.2.2.1=w.2.2.2.1∧d.2.2.2.2.1=w.2.2.2.2.1∧d.2.2.2.2.2.1=w.2.2.2.2.2.1∧∀k:Nat,k<48->(k:Int)<d.1.2->d.2.2.2.2.2.2 k=yv F D q j k) (λd:dV.B=>Int.toNat (48-d.1.2)) (λx:kh=>x.1.1=(j:Int)∧x.2.1=w.2.1∧x.2.2.1=w.2.2.1∧x.2.2.2.1=w.2.2.2.1∧x.2.2.2.2.1=w.2.2.2.2.1∧x.2.2.2.2.2.1=w.2.2.2.2.2.1∧∀k:Nat,k<48->x.2.2.2.2.2.2 k=yv F D q j k) (λd hd=>by
  obtain⟨i0,i1,i2,i3,i4,i5,i6,i7,i8⟩:=hd
  have hw:wI (d.1.2+1)=d.1.2+1:=bg (by omega) (by omega)
  unfold Al
  dsimp only
  rw[aK]
  refine⟨λh=> ?_,λh=> ?_⟩
  ·have h:=of_decide_eq_true h
   obtain⟨m,hm⟩:∃m:Nat,d.1.2=(m:Int):=⟨Int.toNat d.1.2,by omega⟩
   have aY0:m<48:=by omega
   have r0:aX d.1.1 24=true:=by rw[bk,i2];omega
   have r1:aX d.1.2 48=true:=by rw[bk];omega
   have r2:(true&&Nat.ble (0+Int.toNat d.1.2*1+1) 48)=true:=by rw[Bool.true_and,bO];omega
   have wv:d.2.2.2.2.1 (Int.toNat d.1.1*48+Int.toNat d.1.2)=if j=m then F j else if m=24+j then 1073741824 else 0:=by
    rw[i6,i2,hm,Int.toNat_natCast,Int.toNat_natCast];exact hW j m hj aY0
   have e3:d.2.2.2.1 (Int.toNat d.1.2)=w.2.2.2.1 m:=by rw[i5,hm,Int.toNat_natCast]
   have em: -1152921504606846976<=w.2.2.2.1 m∧w.2.2.2.1 m<=1152921504606846976:=by
    by_cases c:m<24
    ·have:=(he m c).1;have:=(hk m c).1.le;omega
    ·have e:=(he (m-24) (by omega)).2
     rw[(by omega:24+(m-24)=m)] at e
     have:=hk.q (m-24) (by omega);omega
   have mul:aU (d.2.2.2.2.1 (Int.toNat d.1.1*48+Int.toNat d.1.2)) (d.2.2.2.1 (Int.toNat d.1.2)) 30 d.2.1=some (yv F D q j m,d.2.1):=by
    have hF:=hk.F j hj
    by_cases c1:m=j
    ·have wv':d.2.2.2.2.1 (Int.toNat d.1.1*48+Int.toNat d.1.2)=F j:=by rw[wv,if_pos c1.symm]
     rw[wv',e3,aIo _ _ _ hF em]
     refine congrArg (λz=>some (z,d.2.1)) ?_
     unfold yv
     rw[if_pos c1,c1,(he j hj).1]
    ·by_cases c2:m=24+j
     ·have wv':d.2.2.2.2.1 (Int.toNat d.1.1*48+Int.toNat d.1.2)=1073741824:=by rw[wv,if_neg (λh=>c1 h.symm),if_pos c2]
      rw[wv',e3,aIo _ _ _ (Or.inr rfl) em,if_neg (by decide)]
      refine congrArg (λz=>some (z,d.2.1)) ?_
      unfold yv
      rw[if_neg c1,if_pos c2,c2,(he j hj).2]
     ·have wv':d.2.2.2.2.1 (Int.toNat d.1.1*48+Int.toNat d.1.2)=0:=by rw[wv,if_neg (λh=>c1 h.symm),if_neg c2]
      rw[wv',e3,aIo _ _ _ (Or.inl rfl) em,if_pos rfl]
      refine congrArg (λz=>some (z,d.2.1)) ?_
      unfold yv
      rw[if_neg c1,if_neg c2]
   rw[r0,r1,r2,aB,aB,aB,mul,bM,aB,aB,av,hw]
   refine⟨⟨by show 0<=d.1.2+1;omega,by show d.1.2+1<=48;omega,i2,i3,i4,i5,i6,i7,λk Er hkc=> ?_⟩,by show Int.toNat (48-(d.1.2+1))<_;omega⟩
   have hkc:(k:Int)<d.1.2+1:=hkc
   show(bif Nat.beq k (Int.toNat d.1.2) then yv F D q j m else d.2.2.2.2.2.2 k)=yv F D q j k
   rw[E7]
   split
   ·rename_i e
    have:k=m:=by omega
    rw[this]
   ·exact i8 k Er (by omega)
  ·have h:=of_decide_eq_false h
   rw[av]
   exact⟨i2,i3,i4,i5,i6,i7,λk Er=>i8 k Er (by omega)⟩) 2000 d hd (by omega)
theorem aY1 (F:Nat->Int)(hF:∀i,i<24->F i=0∨F i=1073741824)(w d:dW.B)(h0:0<=w.1.1∧w.1.1<24)(h2:0<=w.1.2.2.1∧w.1.2.2.1<24)(hd:0<=d.1.2.2.2.2.2.2∧d.1.2.2.2.2.2.2<=48∧d.1.1=w.1.1∧d.1.2.1=w.1.2.1∧d.1.2.2.1=w.1.2.2.1∧d.1.2.2.2.1=0∧d.1.2.2.2.2.1=w.1.2.2.2.2.1∧d.1.2.2.2.2.2.1=w.1.2.2.2.2.2.1∧d.2.1=w.2.1∧d.2.2.1=w.2.2.1∧d.2.2.2.1=w.2.2.2.1∧(∀i k,i<24->k<48->d.2.2.2.2.1 (i*48+k)=if i=k then F i else if k=24+i then 1073741824 else 0)∧d.2.2.2.2.2=w.2.2.2.2.2):Ok (Ao d) (λx:kj=>x.1.1=w.1.1∧x.1.2.1=w.1.2.1∧x.1.2.2.2.2.1=w.1.2.2.2.2.1∧x.1.2.2.2.2.2.1=w.1.2.2.2.2.2.1∧x.2.1=w.2.1∧x.2.2.1=w.2.2.1∧x.2.2.2.1=w.2.2.2.1∧(∀i k,i<24->k<48->x.2.2.2.2.1 (i*48+k)=if i=k then F i else if k=24+i then 1073741824 else 0)∧x.2.2.2.2.2=w.2.2.2.2.2):=
 ba (s:=_) (λd:dW.B=>0<=d.1.2.2.2.2.2.2∧d.1.2.2.2.2.2.2<=48∧d.1.1=w.1.1∧d.1.2.1=w.1.2.1∧d.1.2.2.1=w.1.2.2.1∧d.1.2.2.2.1=0∧d.1.2.2.2.2.1=w.1.2.2.2.2.1∧d.1.2.2.2.2.2.1=w.1.2.2.2.2.2.1∧d.2.1=w.2.1∧d.2.2.1=w.2.2.1∧d.2.2.2.1=w.2.2.2.1∧(∀i k,i<24->k<48->d.2.2.2.2.1 (i*48+k)=if i=k then F i else if k=24+i then 1073741824 else 0)∧d.2.2.2.2.2=w.2.2.2.2.2) (λd:dW.B=>Int.toNat (48-d.1.2.2.2.2.2.2)) (λx:kj=>x.1.1=w.1.1∧x.1.2.1=w.1.2.1∧x.1.2.2.2.2.1=w.1.2.2.2.2.1∧x.1.2.2.2.2.2.1=w.1.2.2.2.2.2.1∧x.2.1=w.2.1∧x.2.2.1=w.2.2.1∧x.2.2.2.1=w.2.2.2.1∧(∀i k,i<24->k<48->x.2.2.2.2.1 (i*48+k)=if i=k then F i else if k=24+i then 1073741824 else 0)∧x.2.2.2.2.2=w.2.2.2.2.2) (λd hd=>by
  obtain⟨i0,i1,j0,j1,j2,j3,j4,j5,i3,i4,i5,i6,i7⟩:=hd
  have hw:wI (d.1.2.2.2.2.2.2+1)=d.1.2.2.2.2.2.2+1:=bg (by omega) (by omega)
  unfold An
  dsimp only
  rw[aK]
  refine⟨λh=> ?_,λh=>by rw[av];exact⟨j0,j1,j4,j5,i3,i4,i5,i6,i7⟩⟩
  have h:=of_decide_eq_true h
  have r0:aX d.1.2.2.1 24=true:=by rw[bk,j2];omega
  have r1:aX d.1.2.2.2.2.2.2 48=true:=by rw[bk];omega
  have r2:aX d.1.1 24=true:=by rw[bk,j0];omega
  have r3:(true&&Nat.ble (0+(Int.toNat d.1.2.2.1*48+Int.toNat d.1.2.2.2.2.2.2)*1+1) 1152)=true:=by rw[Bool.true_and,bO,j2];omega
  have bw:∀i,i<24-> -1152921504606846976<=d.2.2.2.2.1 (i*48+Int.toNat d.1.2.2.2.2.2.2)∧d.2.2.2.2.1 (i*48+Int.toNat d.1.2.2.2.2.2.2)<=1152921504606846976:=λi hi=>by
   rw[i6 i (Int.toNat d.1.2.2.2.2.2.2) hi (by omega)]
   have:=hF i hi
   split
   ·omega
   ·split<;>omega
  have mul:aU d.1.2.2.2.1 (d.2.2.2.2.1 (Int.toNat d.1.1*48+Int.toNat d.1.2.2.2.2.2.2)) 30 d.2.1=some (0,d.2.1):=by
   rw[j3,aIo 0 _ _ (Or.inl rfl) (bw (Int.toNat d.1.1) (by rw[j0];omega)),if_pos rfl]
  rw[r0,r1,r2,r3,aB,aB,aB,aB,mul,bM,sub_zero _ _ (bw (Int.toNat d.1.2.2.1) (by rw[j2];omega)),bM,aB,aB,aB,av,hw]
  refine⟨⟨by show 0<=d.1.2.2.2.2.2.2+1;omega,by show d.1.2.2.2.2.2.2+1<=48;omega,j0,j1,j2,j3,j4,j5,i3,i4,i5,λi k hi hk=> ?_,i7⟩,by show Int.toNat (48-(d.1.2.2.2.2.2.2+1))<_;omega⟩
  show(bif Nat.beq (i*48+k) (Int.toNat d.1.2.2.1*48+Int.toNat d.1.2.2.2.2.2.2) then d.2.2.2.2.1 (Int.toNat d.1.2.2.1*48+Int.toNat d.1.2.2.2.2.2.2) else d.2.2.2.2.1 (i*48+k))=_
  rw[E7]
  split
  ·rename_i e;rw[<-e];exact i6 i k hi hk
  ·exact i6 i k hi hk) 2000 d hd (by omega)
theorem aY2 (F D q G:Nat->Int)(hk:NJ F D q)(j:Nat)(hj:j<24)(v:Int)(hv:okV v)(w d:dY.B)(hd:0<=d.1.2.2.2∧d.1.2.2.2<=d.1.2.2.1∧d.1.2.2.1=(j:Int)∧d.1.1=(j:Int)∧d.1.2.1=v∧d.2.1=w.2.1∧d.2.2.1=w.2.2.1∧d.2.2.2.1=w.2.2.2.1∧(∀i k,i<24->k<48->d.2.2.2.2.1 (i*48+k)=if i=k then F i else if k=24+i then 1073741824 else 0)∧d.2.2.2.2.2.1=(λ_=>0,G)∧∀k:Nat,k<48->d.2.2.2.2.2.2 k=yv F D q j k):Ok (As d) (λx:km=>x.1.1=(j:Int)∧x.2.1=w.2.1∧x.2.2.1=w.2.2.1∧x.2.2.2.1=w.2.2.2.1∧(∀i k,i<24->k<48->x.2.2.2.2.1 (i*48+k)=if i=k then F i else if k=24+i then 1073741824 else 0)∧x.2.2.2.2.2.1=(λ_=>0,G)):=
 ba (s:=_) (λd:dY.B=>0<=d.1.2.2.2∧d.1.2.2.2<=d.1.2.2.1∧d.1.2.2.1=(j:Int)∧d.1.1=(j:Int)∧d.1.2.1=v∧d.2.1=w.2.1∧d.2.2.1=w.2.2.1∧d.2.2.2.1=w.2.2.2.1∧(∀i k,i<24->k<48->d.2.2.2.2.1 (i*48+k)=if i=k then F i else if k=24+i then 1073741824 else 0)∧d.2.2.2.2.2.1=(λ_=>0,G)∧∀k:Nat,k<48->d.2.2.2.2.2.2 k=yv F D q j k) (λd:dY.B=>Int.toNat (d.1.2.2.1-d.1.2.2.2)) (λx:km=>x.1.1=(j:Int)∧x.2.1=w.2.1∧x.2.2.1=w.2.2.1∧x.2.2.2.1=w.2.2.2.1∧(∀i k,i<24->k<48->x.2.2.2.2.1 (i*48+k)=if i=k then F i else if k=24+i then 1073741824 else 0)∧x.2.2.2.2.2.1=(λ_=>0,G)) (λd hd=>by
  obtain⟨i0,i1,j2,j0,j1,i3,i4,i5,i6,i7,i8⟩:=hd
  have hw:wI (d.1.2.2.2+1)=d.1.2.2.2+1:=bg (by omega) (by omega)
  unfold Ar
  dsimp only
  rw[aK]
  refine⟨λh=> ?_,λh=>by rw[av];exact⟨j0,i3,i4,i5,i6,i7⟩⟩
  have h:=of_decide_eq_true h
  obtain⟨m,hm⟩:∃m:Nat,d.1.2.2.2=(m:Int):=⟨Int.toNat d.1.2.2.2,by omega⟩
  have hmj:m<j:=by omega
  have r0:aX d.1.2.2.2 24=true:=by rw[bk];omega
  have wv:∀k,k<48->d.2.2.2.2.1 (0+Int.toNat d.1.2.2.2*48+k)=if m=k then F m else if k=24+m then 1073741824 else 0:=λk hk=>by
   rw[hm,Int.toNat_natCast,Nat.zero_add];exact i6 m k (by omega) hk
  have dot:bo 30 48 48 d.2.1 (λk=>d.2.2.2.2.1 (0+Int.toNat d.1.2.2.2*48+k)) d.2.2.2.2.2.2 false false=some (0,d.2.1):=by
   have z:∀k,k<48->d.2.2.2.2.1 (0+Int.toNat d.1.2.2.2*48+k)*d.2.2.2.2.2.2 k=0:=λk Er=>by
    rw[wv k Er,i8 k Er]
    unfold yv
    by_cases c:m=k
    ·rw[if_neg (by omega:¬k=j),if_neg (by omega:¬k=24+j),Int.mul_zero]
    ·rw[if_neg c]
     by_cases c2:k=24+m
     ·rw[if_neg (by omega:¬k=j),if_neg (by omega:¬k=24+j),Int.mul_zero]
     ·rw[if_neg c2,Int.zero_mul]
   refine aDp 48 0 (by decide) (by decide) _ _ _ _ _ _ (λk Er=> ?_) (λk Er=> ?_) (λk Er _=>z k Er) (by rw[z 0 (by decide)];rfl) (by decide)
   ·show -1152921504606846976<=d.2.2.2.2.1 (0+Int.toNat d.1.2.2.2*48+k)∧d.2.2.2.2.1 (0+Int.toNat d.1.2.2.2*48+k)<=1152921504606846976
    rw[wv k Er]
    have:=hk.F m (by omega)
    split
    ·omega
    ·split<;>omega
   ·rw[i8 k Er];exact aUv hk j k hj
  have st:xf d.2.2.2.2.2.1.1 d.2.2.2.2.2.1.2 d.1.2.2.2 d.1.1 0=some (λ_=>0,G):=by
   rw[i7,hm,j0];exact aEO G m j hmj hj
  rw[r0,aB,dot,bM,j1,div_zero v _ hv,bM,st,bM]
  refine ay (aY1 F hk.F _ _ (by show 0<=d.1.1∧d.1.1<24;omega) (by show 0<=d.1.2.2.2∧d.1.2.2.2<24;omega) ⟨Int.le_refl 0,(show(0:Int)<=48 by decide),rfl,rfl,rfl,rfl,rfl,rfl,rfl,rfl,rfl,i6,rfl⟩) λx _ hx=> ?_
  obtain⟨a0,a1,a4,a5,b1,b2,b3,b4,b5⟩:=hx
  have a4:x.1.2.2.2.2.1=d.1.2.2.1:=a4
  have a5:x.1.2.2.2.2.2.1=d.1.2.2.2:=a5
  have a0:x.1.1=d.1.1:=a0
  rw[av,a5,hw]
  refine⟨⟨by show 0<=d.1.2.2.2+1;omega,by show d.1.2.2.2+1<=x.1.2.2.2.2.1;omega,by show x.1.2.2.2.2.1=(j:Int);omega,by show x.1.1=(j:Int);omega,a1,b1.trans i3,b2.trans i4,b3.trans i5,b4,congrArg (λz=>z.1) b5,λk Er=>(congrFun (congrArg (λz=>z.2) b5) k).trans (i8 k Er)⟩,by show Int.toNat (x.1.2.2.2.2.1-(d.1.2.2.2+1))<_;omega⟩) 2000 d hd (by omega)
theorem aY3 (F D q:Nat->Int)(b:Bool)(e:Nat->Int)(hk:NJ F D q)(he:∀i:Nat,i<24->e i=D i∧e (24+i)=q i)(d:dZ.B)(hd: -1<=d.1∧d.1<=23∧d.2.1=b∧d.2.2.2.1=e∧(∀i k,i<24->k<48->d.2.2.2.2.1 (i*48+k)=if i=k then F i else if k=24+i then 1073741824 else 0)∧d.2.2.2.2.2=(λ_=>0,λi:Nat=>if d.1<(i:Int)∧i<24 then kept F D q i else 0)):Ok (Au d) (λx:ko=>x.2.1=b∧x.2.2.2.2.2=(λ_=>0,λi=>if i<24 then kept F D q i else 0)):=
 ba (s:=_) (λd:dZ.B=> -1<=d.1∧d.1<=23∧d.2.1=b∧d.2.2.2.1=e∧(∀i k,i<24->k<48->d.2.2.2.2.1 (i*48+k)=if i=k then F i else if k=24+i then 1073741824 else 0)∧d.2.2.2.2.2=(λ_=>0,λi:Nat=>if d.1<(i:Int)∧i<24 then kept F D q i else 0)) (λd:dZ.B=>Int.toNat (d.1+1)) (λx:ko=>x.2.1=b∧x.2.2.2.2.2=(λ_=>0,λi=>if i<24 then kept F D q i else 0)) (λd hd=>by
  obtain⟨i0,i1,i2,i3,i4,i5⟩:=hd
  unfold At
  dsimp only
  rw[aK]
  refine⟨λh=> ?_,λh=> ?_⟩
  ·have h:=of_decide_eq_true h
   obtain⟨j,hj⟩:∃m:Nat,d.1=(m:Int):=⟨Int.toNat d.1,by omega⟩
   have ayP:j<24:=by omega
   refine ay (aYZ F D q hk j ayP ((d.1,0),d.2.1,d.2.2.1,d.2.2.2.1,d.2.2.2.2.1,d.2.2.2.2.2,λx=>0) _ (by show∀i:Nat,i<24->d.2.2.2.1 i=D i∧d.2.2.2.1 (24+i)=q i;rw[i3];exact he) i4 ⟨Int.le_refl 0,(show(0:Int)<=48 by decide),hj,rfl,rfl,rfl,rfl,rfl,λk _ hk0=>absurd hk0 (by show ¬(k:Int)<0;omega)⟩) λx _ hx=> ?_
   obtain⟨a0,a1,a2,a3,a4,a5,a6⟩:=hx
   have a1:x.2.1=d.2.1:=a1
   have a4:x.2.2.2.2.1=d.2.2.2.2.1:=a4
   have a3:x.2.2.2.1=d.2.2.2.1:=a3
   have a5:x.2.2.2.2.2.1=d.2.2.2.2.2:=a5
   have r0:aX x.1.1 24=true:=by rw[bk,a0];omega
   have r1:(true&&Nat.ble (276+Int.toNat x.1.1*1+1) 300)=true:=by rw[Bool.true_and,bO,a0];omega
   have wv:∀k,k<48->x.2.2.2.2.1 (0+Int.toNat x.1.1*48+k)=if j=k then F j else if k=24+j then 1073741824 else 0:=λk Er=>by
    rw[a4,a0,Int.toNat_natCast,Nat.zero_add];exact i4 j k ayP Er
   have K:=(hk j ayP).1.le
   have kp:=(hk.k j ayP).le
   have kz:=hk.z j ayP
   have dot:bo 30 48 48 x.2.1 (λk=>x.2.2.2.2.1 (0+Int.toNat x.1.1*48+k)) x.2.2.2.2.2.2 false false=some (kept F D q j,x.2.1):=by
    refine aDp 48 (if F j=0 then 24+j else j) (by decide) (by split<;>omega) _ _ _ _ _ _ (λk Er=> ?_) (λk Er=> ?_) (λk Er kZ=> ?_) ?_ (by omega)
    ·show -1152921504606846976<=x.2.2.2.2.1 (0+Int.toNat x.1.1*48+k)∧x.2.2.2.2.1 (0+Int.toNat x.1.1*48+k)<=1152921504606846976
     rw[wv k Er]
     split
     ·omega
     ·split<;>omega
    ·rw[a6 k Er];exact aUv hk j k ayP
    ·show x.2.2.2.2.1 (0+Int.toNat x.1.1*48+k)*x.2.2.2.2.2.2 k=0
     rw[wv k Er,a6 k Er]
     unfold yv
     by_cases c:k=j
     ·subst c
      by_cases f0:F k=0
      ·rw[if_pos rfl,f0,Int.zero_mul]
      ·rw[if_neg f0] at kZ;exact absurd rfl kZ
     ·rw[if_neg (λh=>c h.symm),if_neg c]
      by_cases c2:k=24+j
      ·by_cases f0:F j=0
       ·rw[if_pos f0] at kZ;exact absurd c2 kZ
       ·rw[if_pos c2,if_pos c2]
        rw[(kz f0).1,Int.mul_zero]
      ·rw[if_neg c2,if_neg c2,Int.zero_mul]
    ·show x.2.2.2.2.1 (0+Int.toNat x.1.1*48+(if F j=0 then 24+j else j))*x.2.2.2.2.2.2 (if F j=0 then 24+j else j)=kept F D q j*1073741824
     rw[wv _ (by split<;>omega),a6 _ (by split<;>omega)]
     unfold yv kept
     by_cases f0:F j=0
     ·rw[if_pos f0,if_pos f0,if_neg (by omega:¬j=24+j),if_pos rfl,if_neg (by omega:¬24+j=j),if_pos rfl,Int.mul_comm,if_pos f0]
     ·rw[if_neg f0,if_neg f0,if_pos rfl,if_pos rfl,(kz f0).2,Int.mul_comm,if_neg (by decide)]
   rw[r0,aB,dot,bM,acY _ _ _ _ kp.1 kp.2,bM,aB,r1,aB]
   refine ay (aY2 F D q (λi:Nat=>if d.1-1<(i:Int)∧i<24 then kept F D q i else 0) hk j ayP (kept F D q j) (hk.k j ayP) ((x.1.1,kept F D q j,x.1.1,0),x.2.1,x.2.2.1,x.2.2.2.1,x.2.2.2.2.1,(x.2.2.2.2.2.1.1,λi=>bif Nat.beq i (Int.toNat x.1.1) then kept F D q j else x.2.2.2.2.2.1.2 i),x.2.2.2.2.2.2) _ ⟨Int.le_refl 0,by show 0<=x.1.1;omega,a0,a0,rfl,rfl,rfl,rfl,by show∀i k,i<24->k<48->x.2.2.2.2.1 (i*48+k)=_;rw[a4];exact i4,?_,a6⟩) λy _ hy=> ?_
   ·refine Prod.ext (by show x.2.2.2.2.2.1.1=_;rw[a5,i5]) (funext λi=> ?_)
    show(bif Nat.beq i (Int.toNat x.1.1) then kept F D q j else x.2.2.2.2.2.1.2 i)=if d.1-1<(i:Int)∧i<24 then kept F D q i else 0
    rw[E7,a0,a5,i5,Int.toNat_natCast]
    show(if i=j then kept F D q j else if d.1<(i:Int)∧i<24 then kept F D q i else 0)=_
    by_cases c:i=j
    ·subst c;rw[if_pos rfl,if_pos (by omega)]
    ·rw[if_neg c]
     by_cases c2:d.1<(i:Int)∧i<24
     ·rw[if_pos c2,if_pos (by omega)]
     ·rw[if_neg c2,if_neg (by omega)]
   obtain⟨b0,b1,b2,b3,b4,b5⟩:=hy
   have b1:y.2.1=x.2.1:=b1
   have b3:y.2.2.2.1=x.2.2.2.1:=b3
   have hw:wI (y.1.1-1)=d.1-1:=by rw[b0,<-hj];exact ey (by omega) (by omega)
   rw[av,hw]
   exact⟨⟨by show -1<=d.1-1;omega,by show d.1-1<=23;omega,b1.trans (a1.trans i2),b3.trans (a3.trans i3),b4,b5⟩,by show Int.toNat (d.1-1+1)<_;omega⟩
  ·have h:=of_decide_eq_false h
   rw[av]
   refine⟨i2,i5.trans (Prod.ext rfl (funext λi=> ?_))⟩
   show(if d.1<(i:Int)∧i<24 then kept F D q i else 0)=if i<24 then kept F D q i else 0
   by_cases c:i<24
   ·rw[if_pos c,if_pos (by omega)]
   ·rw[if_neg c,if_neg (by omega)]) 2000 d hd (by omega)
theorem aN3 (F U D Fm Q q:Nat->Int)(b:Bool)(hk:NJ F D q)(hU:∀p,p<276->U p=0)(hf:(∀i k,i<24->k<24->Fm (i*24+k)=if i=k then F i else 0))(hq:∀i,i<24->Q i=q i):jj U D Fm Q b=some ((λ_=>0,λi=>if i<24 then kept F D q i else 0),b):=by
 have h:Ok (jj U D Fm Q b) (λr:MK=>r=((λ_=>0,λi=>if i<24 then kept F D q i else 0),b)):=by
  unfold jj EP
  show PQ _ _
  refine ay (aN1 U D b hU (λi hi=>(hk i hi).1.le)) λc _ hc=> ?_
  obtain⟨c0,c1,c2⟩:=hc
  refine ay (aYY F D q c.2 hk.F (0,c.2,c.1,Fm,Q,(λx=>0,λx=>0),λx=>0) _ c2 (λi hi=>⟨hq i hi,hk.q i hi⟩) ⟨Int.le_refl 0,(show(0:Int)<=24 by decide),rfl,rfl,hf,rfl,rfl,λi _ hi=>absurd hi (by show ¬(i:Int)<0;omega)⟩) λx _ hx=> ?_
  obtain⟨a1,a2,a3,a4,a5⟩:=hx
  have a2:x.2.2.1=c.1:=a2
  refine ay (aN2 F _ _ x.2.2.2.1 x.2.1 hk.F (by rw[a2];exact c1) a3) λw _ hw=> ?_
  refine ay (aY3 F D q b x.2.2.2.2.2.2 hk (λi hi=>a5 i hi (by omega)) _ ⟨(show(-1:Int)<=23 by decide),(show(23:Int)<=23 by decide),hw.1.trans (a1.trans c0),rfl,hw.2,?_⟩) λy _ hy=> ?_
  ·refine Prod.ext rfl (funext λi=> ?_)
   show(0:Int)=if (23:Int)<(i:Int)∧i<24 then kept F D q i else 0
   rw[if_neg (by omega)]
  ·rw[av]
   exact Prod.ext hy.2 hy.1
 obtain⟨r,h1,h2⟩:=h
 rw[h1,h2]
theorem aY4 (d:eP.B)(hd:0<=d.1∧d.1<=24∧∀i k:Nat,i<24->k<24->d.2.2 (i*24+k)=if i=k∧(i:Int)<d.1 then 1073741824 else 0):Ok (CE d) (λx:lA=>∀i k:Nat,i<24->k<24->x.2.2 (i*24+k)=if i=k then 1073741824 else 0):=
 ba (s:=_) (λd:eP.B=>0<=d.1∧d.1<=24∧∀i k:Nat,i<24->k<24->d.2.2 (i*24+k)=if i=k∧(i:Int)<d.1 then 1073741824 else 0) (λd:eP.B=>Int.toNat (24-d.1)) (λx:lA=>∀i k:Nat,i<24->k<24->x.2.2 (i*24+k)=if i=k then 1073741824 else 0) (λd hd=>by
  obtain⟨i0,i1,i2⟩:=hd
  have hw:wI (d.1+1)=d.1+1:=bg (by omega) (by omega)
  unfold CD
  dsimp only
  rw[aK]
  refine⟨λh=> ?_,λh=> ?_⟩
  ·have h:=of_decide_eq_true h
   have r0:aX d.1 24=true:=by rw[bk];omega
   have r1:(true&&Nat.ble (0+(Int.toNat d.1*24+Int.toNat d.1)*1+1) 576)=true:=by rw[Bool.true_and,bO];omega
   rw[r0,r1,aB,aB,aB,av,hw]
   refine⟨⟨by show 0<=d.1+1;omega,by show d.1+1<=24;omega,λi k hi hk=> ?_⟩,by show Int.toNat (24-(d.1+1))<_;omega⟩
   show(bif Nat.beq (i*24+k) (Int.toNat d.1*24+Int.toNat d.1) then 1073741824 else d.2.2 (i*24+k))=if i=k∧(i:Int)<d.1+1 then 1073741824 else 0
   rw[E7,i2 i k hi hk]
   by_cases e:i*24+k=Int.toNat d.1*24+Int.toNat d.1
   ·rw[if_pos e,if_pos (by omega)]
   ·rw[if_neg e]
    by_cases e2:i=k∧(i:Int)<d.1
    ·rw[if_pos e2,if_pos (by omega)]
    ·rw[if_neg e2,if_neg (by omega)]
  ·have h:=of_decide_eq_false h
   rw[av]
   intro i k hi hk
   show d.2.2 (i*24+k)=_
   rw[i2 i k hi hk]
   by_cases e:i=k
   ·rw[if_pos e,if_pos (by omega)]
   ·rw[if_neg e,if_neg (by omega)]) 2000 d hd (by omega)
theorem aQL:Ok mi (λr:Bo=>∀i k:Nat,i<24->k<24->r (i*24+k)=if i=k then 1073741824 else 0):=by
 unfold mi Hn
 show PQ _ _
 refine ay (aY4 _ ⟨Int.le_refl 0,(show(0:Int)<=24 by decide),λi k hi hk=>by show(0:Int)=_;rw[if_neg (by show ¬(i=k∧(i:Int)<0);omega)]⟩) λx _ hx=> ?_
 rw[av];exact hx
theorem aY5 (w d:fh.B)(hv:∀j:Nat,j<4->okV (w.2.2.1 j))(hd:0<=d.1.2.2.2∧d.1.2.2.2<=4∧d.1.1=0∧d.1.2.1.1=4∧d.1.2.2.1=4∧d.2.1=w.2.1∧d.2.2.1=w.2.2.1∧d.2.2.2.1=w.2.2.2.1∧(∀i k:Nat,i<24->k<24->d.2.2.2.2.2.1 (i*24+k)=if i=k∧¬(i:Int)<d.1.2.2.2 then 1073741824 else 0)∧∀i:Nat,i<24->d.2.2.2.2.2.2 i=if (i:Int)<d.1.2.2.2 then w.2.2.1 i else 0):Ok (ES d) (λx:mO=>x.2.1=w.2.1∧x.2.2.2.1=w.2.2.2.1∧(∀i k:Nat,i<24->k<24->x.2.2.2.2.2.1 (i*24+k)=if i=k∧¬i<4 then 1073741824 else 0)∧∀i:Nat,i<24->x.2.2.2.2.2.2 i=if i<4 then w.2.2.1 i else 0):=
 ba (s:=_) (λd:fh.B=>0<=d.1.2.2.2∧d.1.2.2.2<=4∧d.1.1=0∧d.1.2.1.1=4∧d.1.2.2.1=4∧d.2.1=w.2.1∧d.2.2.1=w.2.2.1∧d.2.2.2.1=w.2.2.2.1∧(∀i k:Nat,i<24->k<24->d.2.2.2.2.2.1 (i*24+k)=if i=k∧¬(i:Int)<d.1.2.2.2 then 1073741824 else 0)∧∀i:Nat,i<24->d.2.2.2.2.2.2 i=if (i:Int)<d.1.2.2.2 then w.2.2.1 i else 0) (λd:fh.B=>Int.toNat (4-d.1.2.2.2)) (λx:mO=>x.2.1=w.2.1∧x.2.2.2.1=w.2.2.2.1∧(∀i k:Nat,i<24->k<24->x.2.2.2.2.2.1 (i*24+k)=if i=k∧¬i<4 then 1073741824 else 0)∧∀i:Nat,i<24->x.2.2.2.2.2.2 i=if i<4 then w.2.2.1 i else 0) (λd hd=>by
  obtain⟨i0,i1,i2,i3,i4,i5,i6,i7,i8,i9⟩:=hd
  have hw:wI (d.1.2.2.2+1)=d.1.2.2.2+1:=bg (by omega) (by omega)
  have hy:wI (d.1.1+d.1.2.2.2)=d.1.2.2.2:=by rw[i2,Int.zero_add];exact ey (by omega) (by omega)
  unfold ER
  dsimp only
  rw[aK]
  refine⟨λh=> ?_,λh=> ?_⟩
  ·have h:=of_decide_eq_true h
   have r0:aX d.1.2.2.2 d.1.2.1.1=true:=by rw[bk,i3];omega
   have r1:aX d.1.2.2.2 24=true:=by rw[bk];omega
   have r2:(true&&Nat.ble (0+(Int.toNat d.1.2.2.2*24+Int.toNat d.1.2.2.2)*1+1) 576)=true:=by rw[Bool.true_and,bO];omega
   have r3:(true&&Nat.ble (0+Int.toNat d.1.2.2.2*1+1) 24)=true:=by rw[Bool.true_and,bO];omega
   have v:=(hv (Int.toNat d.1.2.2.2) (by omega)).le
   rw[<-i6] at v
   rw[hy,r0,aB,aVQ _ i0 (by omega),bM,aB,aUu _ _ v.1 v.2,bM,r1,r2,r3,aB,aB,aB,aB,aB,av,hw]
   refine⟨⟨by show 0<=d.1.2.2.2+1;omega,by show d.1.2.2.2+1<=4;omega,i2,i3,i4,i5,i6,i7,λi k hi hk=> ?_,λi hi=> ?_⟩,by show Int.toNat (4-(d.1.2.2.2+1))<_;omega⟩
   ·show(bif Nat.beq (i*24+k) (Int.toNat d.1.2.2.2*24+Int.toNat d.1.2.2.2) then 0 else d.2.2.2.2.2.1 (i*24+k))=if i=k∧¬(i:Int)<d.1.2.2.2+1 then 1073741824 else 0
    rw[E7,i8 i k hi hk]
    by_cases e:i*24+k=Int.toNat d.1.2.2.2*24+Int.toNat d.1.2.2.2
    ·rw[if_pos e,if_neg (by omega)]
    ·rw[if_neg e]
     by_cases e2:i=k∧¬(i:Int)<d.1.2.2.2
     ·rw[if_pos e2,if_pos (by omega)]
     ·rw[if_neg e2,if_neg (by omega)]
   ·show(bif Nat.beq i (Int.toNat d.1.2.2.2) then d.2.2.1 (Int.toNat d.1.2.2.2) else d.2.2.2.2.2.2 i)=if (i:Int)<d.1.2.2.2+1 then w.2.2.1 i else 0
    rw[E7,i9 i hi,i6]
    by_cases e:i=Int.toNat d.1.2.2.2
    ·rw[if_pos e,if_pos (by omega),e]
    ·rw[if_neg e]
     by_cases e2:(i:Int)<d.1.2.2.2
     ·rw[if_pos e2,if_pos (by omega)]
     ·rw[if_neg e2,if_neg (by omega)]
  ·have h:=of_decide_eq_false h
   rw[av]
   refine⟨i5,i7,λi k hi hk=> ?_,λi hi=> ?_⟩
   ·show d.2.2.2.2.2.1 (i*24+k)=_
    rw[i8 i k hi hk]
    by_cases e:i=k∧¬i<4
    ·rw[if_pos e,if_pos (by omega)]
    ·rw[if_neg e,if_neg (by omega)]
   ·show d.2.2.2.2.2.2 i=_
    rw[i9 i hi]
    by_cases e:i<4
    ·rw[if_pos e,if_pos (by omega)]
    ·rw[if_neg e,if_neg (by omega)]) 2000 d hd (by omega)
theorem aK2 (U D V:Nat->Int)(b w:Bool)(hU:∀p,p<276->U p=0)(hD:∀i,i<24->okV (D i))(hV:∀j,j<4->okV (V j)):
  cP U D 0 4 b V w=some ((λ_=>0,λi=>if i<24 then(if i<4 then V i else D i) else 0),b):=by
 have h:Ok (cP U D 0 4 b V w) (λr:U8=>r=((λ_=>0,λi=>if i<24 then(if i<4 then V i else D i) else 0),b)):=by
  unfold cP Kq
  show PQ _ _
  refine ay aQL λm _ hm=> ?_
  rw[aM,aB]
  refine ay (aY5 ((0,(4,w),Int.ofNat 4,0),b,V,(U,D),(λx=>0,λx=>0),m,λx=>0) _ hV ⟨Int.le_refl 0,(show(0:Int)<=4 by decide),rfl,rfl,rfl,rfl,rfl,rfl,λi k hi hk=> ?_,λi hi=> ?_⟩) λx _ hx=> ?_
  ·show m (i*24+k)=if i=k∧¬(i:Int)<0 then 1073741824 else 0
   rw[hm i k hi hk]
   by_cases e:i=k
   ·rw[if_pos e,if_pos ⟨e,by omega⟩]
   ·rw[if_neg e,if_neg (λh=>e h.1)]
  ·show(0:Int)=if (i:Int)<0 then V i else 0
   rw[if_neg (by omega)]
  obtain⟨a1,a3,a5,a6⟩:=hx
  have a1:x.2.1=b:=a1
  have a3:x.2.2.2.1=(U,D):=a3
  have s:=aN3 (λi=>if i<4 then 0 else 1073741824) U D x.2.2.2.2.2.1 x.2.2.2.2.2.2 (λi=>if i<4 then V i else 0) b (λi hi=>⟨hD i hi,by
    show((if i<4 then(0:Int) else 1073741824)=1073741824∧(if i<4 then V i else 0)=0)∨((if i<4 then(0:Int) else 1073741824)=0∧okV (if i<4 then V i else 0))
    by_cases c:i<4
    ·rw[if_pos c,if_pos c];exact Or.inr ⟨rfl,hV i c⟩
    ·rw[if_neg c,if_neg c];exact Or.inl ⟨rfl,rfl⟩⟩) hU (λi k hi hk=>by
    rw[a5 i k hi hk]
    by_cases c:i=k
    ·subst c
     by_cases c2:i<4
     ·rw[if_neg (λh=>h.2 c2),if_pos rfl,if_pos c2]
     ·rw[if_pos ⟨rfl,c2⟩,if_pos rfl,if_neg c2]
    ·rw[if_neg (λh=>c h.1),if_neg c]) a6
  rw[a3,a1,s,bM,av]
  refine Prod.ext (Prod.ext rfl (funext λi=> ?_)) rfl
  show(if i<24 then kept _ D _ i else 0)=if i<24 then(if i<4 then V i else D i) else 0
  unfold kept
  by_cases c:i<4
  ·simp[c]
  ·simp[c]
 obtain⟨r,h1,h2⟩:=h
 rw[h1,h2]
end Go.Proofs.YtldgljclcgaibaaGreat
namespace Go.Proofs.YtldgljclcgaibaaGreat
open Go.Ab Go.Ab.Pg
noncomputable section
def allM:Nat->(Nat->Bool)->Bool
 |0,_=>true
 |n+1,f=>allM n f&&f n
theorem aud {f:Nat->Bool}:∀n,allM n f=true->∀i,i<n->f i=true
 |0,_,i,hi=>by omega
 |n+1,h,i,hi=>by
  have h:(allM n f&&f n)=true:=h
  rw[Bool.and_eq_true] at h
  by_cases e:i=n
  ·rw[e];exact h.2
  ·exact aud n h.1 i (by omega)
def isV (d:Int):Bool:=decide (d=17592186044416)||decide (d=68719476736)||decide (d=67108864)||decide (d=4294967296)||decide (d=17179869184)
theorem aO4 {d:Int}(h:isV d=true):okV d:=by
 unfold isV at h
 simp only[Bool.or_eq_true,decide_eq_true_eq] at h
 unfold okV
 omega
def aUw (U D:Nat->Int)(a:Int)(n:Nat)(V:Nat->Int):Bool:=
 Nat.beq n 4&&decide (a=0)&&allM 276 (λp=>decide (U p=0))&&allM 24 (λi=>isV (D i))&&allM 4 (λi=>isV (V i))
def rsQ:fm:=λU D a n b V w=>bif aUw U D a n V then some ((λ_=>0,λi=>if i<24 then(if i<4 then V i else D i) else 0),b) else cP U D a n b V w
theorem aVS:cP=rsQ:=by
 funext U D a n b V w
 unfold rsQ
 cases h:aUw U D a n V
 ·rfl
 ·unfold aUw at h
  simp only[Bool.and_eq_true,decide_eq_true_eq] at h
  obtain⟨⟨⟨⟨h0,h1⟩,h2⟩,h3⟩,h4⟩:=h
  have h0:=Nat.eq_of_beq_eq_true h0
  subst h0
  subst h1
  refine aK2 U D V b w (λp hp=>of_decide_eq_true (aud _ h2 p hp)) (λi hi=>aO4 (aud _ h3 i hi)) (λi hi=>aO4 (aud _ h4 i hi))
def aUx (g:fm)(x:om.B):Option rQ:=(ya ot ji aU jr IX fM g eS uR x).val
def aVT (g:fm)(x:pk.B):Option uK:=(A8 (aUx g) I' tf qP x).val
def aUy (g:fm):fa.B->Option ly:=bD (yc (aVT g)) 2000
def aUz (g:fm)(d:iB.B):Option lz:=(yd (aUy g) d).val
def aXr (g:fm)(x:rq.B):Option wT:=(CX iz eZ (aUz g) x).val
def aK3 (g:fm):px.B->Option BL:=bD (RD Ba (aXr g)) 2000
def awm (g:fm)(x:G4.B):Option Ou:=(aa4 Ec (aK3 g) x).val
theorem aIp:aps=awm rsQ:=by
 rw[<-aVS];rfl
end
end Go.Proofs.YtldgljclcgaibaaGreat
noncomputable section
namespace Go.Proofs.YtldgljclcgaibaaGreat
open Go.Ab Go.Ab.Pg Go.Ab.Rq
def ayQ:=qa (pl (cl yi nil) nil)
def afQ:=qe B9
abbrev ayR:=afQ.B
abbrev aK4:=NI->NI->Option ayR
def ayS (g:aK4):Ct:=(30,FC ayQ (lf afQ) (λb=>g b.1 b.2))
def ayT (fg:oX)(x0:Nat->Int)(x1:Nat->Int):Pg ayR:=opt (fg x0 x1 false) λd=>ret !d.2
def ayU:=λx0 x1=>(ayT fe x0 x1).val
theorem aK5:∀fg,D0 [yC fg] 30 ayQ (lf afQ) λb=>ayT fg b.1 b.2:=λ_ b=>by kernel_rfl
theorem aK6 [ax]:SC (ayS ayU):=s0 (.c EF (.nil _)) (aK5 fe)
def aue:=qa (pu nil nil)
def aa7:=qe B9
abbrev auf:=aa7.B
abbrev aug:=Option auf
def auh (g:aug):Ct:=(19,FC aue (lf aa7) (λ_=>g))
def Tf:Option auf:=some true
theorem aK7 [ax]:Snd Tryz.prog (aa3 (awm rsQ)):=aIp▸aEL
theorem aIq:aih Tryz.prog [ale alg,aa3 (awm rsQ),sS ek,Gd rT,YG YI,wL db,alj zA,ayS ayU,WL WN,En m4,Lx rv,Pu wM] ⟨[],[],[],[],none⟩ 2000 19 aue (lf aa7) λ_=>ret true:=λb=>by kernel_rfl
theorem aIr [ax]:SC (auh Tf):=s0 (.c aCX (.c aK7 (.c A' (.c Sn (.c atZ (.c D3 (.c ayu (.c aK6 (.c aq7 (.c PY (.c YT (.c alw (.nil _))))))))))))) aIq
end Go.Proofs.YtldgljclcgaibaaGreat
noncomputable section
namespace Go.Proofs.YtldgljclcgaibaaGreat
open Go.Ab Go.Ab.Pg Go.Ab.Rq
def oz:=qa (pl (c (aa u3) (c L7 aGz)) nil)
def NK:=qe B9
abbrev RF:=NK.B
abbrev az9:=oz.B->Option RF
def aAa (g:az9):Ct:=(6,FC oz (lf NK) g)
def RG (Tg:aug)(Ep:afC)(WZ:aDm)(iC:wK)(lH:YS)(kX:sR)(rU:Sk)(qR:PX)(x:oz.B):Pg RF:=let aDq:=x.2.2;opt Tg λd=>ae (!d) (ret false) (opt (Ep x.1) λd=>ae (match d with|Sum.inl val=>true|Sum.inr val=>false) (opt (match d with|Sum.inl a=>some a|Sum.inr val=>none) λd=>opt (Ep x.1) λd=>ae (match d with|Sum.inl val=>true|Sum.inr val=>false) (opt (match d with|Sum.inl a=>some a|Sum.inr val=>none) λd=>ret true) (opt (match d with|Sum.inr b=>some b|Sum.inl val=>none) λd=>ret false)) (opt (match d with|Sum.inr b=>some b|Sum.inl val=>none) λd=>let aK8:=d.1.2.2;let n65:=aK8.2.2.2.2;let aK9:=n65.2.2.2;let Nk:=d.2.2.2;let n88:=Nk.2.2.2.2.2;let Jp:=aK9.2.2.2.2;let aLa:=Jp.2.2.2;let n59:=aLa.2.2.2.2;let aLb:=n59.2.2.2.2;let n37:=n88.2.2.2.2;let aui:=n37.2.1;let n72:=n37.2.2;let auj:=n72.2.1;let n48:=n72.2.2;let auk:=n48.2.1;let n97:=n48.2.2;opt (Ep x.1) λaj=>ae (match aj with|Sum.inl val=>true|Sum.inr val=>false) (opt (match aj with|Sum.inl a=>some a|Sum.inr val=>none) λd=>ret false) (opt (match aj with|Sum.inr b=>some b|Sum.inl val=>none) λaI=>let aLc:=aI.1.2.2;let n66:=aLc.2.2.2.2;let aLd:=n66.2.2.2;let Jr:=aI.2.2.2;let n89:=Jr.2.2.2.2.2;let Jq:=aLd.2.2.2.2;let aLe:=Jq.2.2.2;let n60:=aLe.2.2.2.2;let aLf:=n60.2.2.2.2;let n38:=n89.2.2.2.2;let aul:=n38.2.1;let n73:=n38.2.2;let aum:=n73.2.1;let n49:=n73.2.2;let aun:=n49.2.1;let n99:=n49.2.2;ae (decide (Int.ofNat x.2.1.1>12)) (ret true) (opt (WZ (x.2.1,((d.1.1,d.1.2.1,aK8.1,aK8.2.1,(aK8.2.2.1,aK8.2.2.2.1,n65.1,n65.2.1,n65.2.2.1,aK9.1),(aK9.2.1,aK9.2.2.1,aK9.2.2.2.1,Jp.1,Jp.2.1,Jp.2.2.1),aLa.1,aLa.2.1,aLa.2.2.1,aLa.2.2.2.1,n59.1,n59.2.1,n59.2.2.1,n59.2.2.2.1,aLb.1,aLb.2.1),aLb.2.2.1,aLb.2.2.2.1,aLb.2.2.2.2,0,(0,0,false,false),false,0,(0,0,0),false,false,false,0,0,0,((1073741824,0,0,0),(0,0,0),0,0,0),0),((d.2.1.1,d.2.1.2.1,d.2.1.2.2.1),d.2.1.2.2.2),(d.2.2.1,(0,0,(0,0,0),0,0,0),false),(Nk.1,Nk.1,Nk.1,Nk.1,Nk.1,Nk.1,Nk.1,Nk.1),((0,0,0,0,0),Nk.2.1,0, -9223372036854775808),((0,0,0,0,0),Nk.2.2.1,0, -9223372036854775808),((0,0,0,0,0),Nk.2.2.2.1,0, -9223372036854775808),((0,0,0,0,0),Nk.2.2.2.2.1,0, -9223372036854775808),((0,0,0,0,0),n88.1,0, -9223372036854775808),((0,0,0,0,0),n88.2.1,0, -9223372036854775808),(n88.2.2.1,0),(n88.2.2.2.1.1,n88.2.2.2.1.2,0),(Nk.1,Nk.1,Nk.1,Nk.1,Nk.1,Nk.1,Nk.1,Nk.1,Nk.1,Nk.1),(n37.1,n37.1,n37.1,n37.1,n37.1,n37.1,n37.1,n37.1,n37.1),(aui,aui,aui,aui,aui,aui,aui,aui,aui),(n72.1,n72.1,n72.1,n72.1,n72.1,n72.1,n72.1,n72.1,n72.1),(auj,auj,auj,auj,auj,auj,auj,auj,auj),(n48.1,n48.1,n48.1,n48.1,n48.1,n48.1,n48.1,n48.1,n48.1),(auk,auk,auk,auk,auk,auk,auk,auk,auk),n97,n97,n97,n97,n97,n97,n97,n97,n97,n97,n97)) λd=>let aO5:=d.2.1.2;let aDr:=d.2.2;let n64:=aDr.2.2;let aLg:=n64.2.1;let n98:=n64.1.2.2.2;let n55:=aO5.2.2.2;let aWP:=n55.2.2.2.2.2.2.2.2.2.2.2.2;let ayV:=n55.1.1;let GZ:=n64.2.2;let aLh:=GZ.2.1;let aLi:=GZ.2.2.1;let n61:=GZ.2.2.2;let aLj:=n61.2.1;let aLk:=n61.2.2;let aLl:=aLk.2.1;let n34:=aLk.2.2;let aF3:=n34.2.2;let n79:=n34.1.2.2.2.2;let aO6:=n79.2.2.2;let n78:=n34.2.1.2.2.2;let aO7:=n78.2.2.2;let n74:=aF3.1.2.2.2;let aO8:=n74.2.2.2;let n69:=aF3.2.1.2.2;let aLm:=n69.2.2.2;let n47:=aF3.2.2;let aDs:=n47.2.2;let n90:=n47.1.2.2.2.2;let n80:=n47.2.1.2.2.2;let aO9:=n80.2.2.2;let n75:=aDs.1.2.2.2;let aPa:=n75.2.2.2;let n39:=aDs.2.2.2;let aDt:=n39.2.2;let n58:=aDt.2.2;let apt:=n58.2.2;let n30:=(apt.2.2.2,());let n29:=(d.2.1.1,aO5.1,aO5.2.1,aO5.2.2.1,n55.1.2,n55.2);let bp:=(λj=>n64.1.2.1 (ayV+j),λj=>n64.1.2.2.1 (ayV+j),λj=>n98.1 (ayV+j),λj=>n98.2.1 (ayV+j),λj=>n98.2.2.1 (ayV+j),λj=>n98.2.2.2.1 (ayV+j),λj=>n98.2.2.2.2.1 (ayV+j),λj=>(n98.2.2.2.2.2,()).1 (ayV+j));let bh:=(λj=>n34.2.1.2.1 (0+j),λj=>n34.2.1.2.2.1 (0+j),λj=>n78.1 (0+j),λj=>n78.2.1 (0+j),λj=>n78.2.2.1 (0+j),λj=>aO7.1 (0+j),λj=>aO7.2.1 (0+j),λj=>aO7.2.2.1 (0+j),λj=>(aO7.2.2.2,()).1 (0+j));let aY:=(λj=>aF3.1.2.1 (0+j),λj=>aF3.1.2.2.1 (0+j),λj=>n74.1 (0+j),λj=>n74.2.1 (0+j),λj=>n74.2.2.1 (0+j),λj=>aO8.1 (0+j),λj=>aO8.2.1 (0+j),λj=>aO8.2.2.1 (0+j),λj=>(aO8.2.2.2,()).1 (0+j));let n9:=(λj=>aF3.2.1.2.1 (0+j),λj=>n69.1 (0+j),λj=>n69.2.1 (0+j),λj=>n69.2.2.1 (0+j),λj=>aLm.1 (0+j),λj=>aLm.2.1 (0+j),λj=>aLm.2.2.1 (0+j),λj=>aLm.2.2.2.1 (0+j),λj=>(aLm.2.2.2.2,()).1 (0+j));let n8:=(λj=>n34.1.2.1 (0+j),λj=>n34.1.2.2.1 (0+j),λj=>n34.1.2.2.2.1 (0+j),λj=>n79.1 (0+j),λj=>n79.2.1 (0+j),λj=>n79.2.2.1 (0+j),λj=>aO6.1 (0+j),λj=>aO6.2.1 (0+j),λj=>aO6.2.2.1 (0+j),λj=>(aO6.2.2.2,()).1 (0+j));let n7:=(λj=>n47.1.2.1 (0+j),λj=>n47.1.2.2.1 (0+j),λj=>n47.1.2.2.2.1 (0+j),λj=>n90.1 (0+j),λj=>n90.2.1 (0+j),λj=>n90.2.2.1 (0+j),λj=>n90.2.2.2.1 (0+j),λj=>n90.2.2.2.2.1 (0+j),λj=>(n90.2.2.2.2.2,()).1 (0+j));let n6:=(λj=>n47.2.1.2.1 (0+j),λj=>n47.2.1.2.2.1 (0+j),λj=>n80.1 (0+j),λj=>n80.2.1 (0+j),λj=>n80.2.2.1 (0+j),λj=>aO9.1 (0+j),λj=>aO9.2.1 (0+j),λj=>aO9.2.2.1 (0+j),λj=>(aO9.2.2.2,()).1 (0+j));let n5:=(λj=>aDs.1.2.1 (0+j),λj=>aDs.1.2.2.1 (0+j),λj=>n75.1 (0+j),λj=>n75.2.1 (0+j),λj=>n75.2.2.1 (0+j),λj=>aPa.1 (0+j),λj=>aPa.2.1 (0+j),λj=>aPa.2.2.1 (0+j),λj=>(aPa.2.2.2,()).1 (0+j));let n3:=(lH (aDq.1,n29,aDr.1,aDr.2.1,bp,aLg,GZ.1,aLh,aLi,n61.1,aLj,aLk.1,aLl,n8,bh,aY,n9,n7,n6,n5,λj=>aDs.2.2.1 (0+j),λj=>n39.1 (0+j),λj=>n39.2.1 (0+j),λj=>aDt.1 (0+j),λj=>aDt.2.1 (0+j),λj=>n58.1 (0+j),λj=>n58.2.1 (0+j),λj=>apt.1 (0+j),λj=>apt.2.1 (0+j),λj=>apt.2.2.1 (0+j),λj=>n30.1 (0+j)));let y0:=Nat.beq n55.1.2 n55.1.2;let y1:=Nat.beq aWP aWP;let y2:=Nat.beq aLg.2.2.1 aLg.2.2.1;let y3:=Nat.beq GZ.1.2.2.1 GZ.1.2.2.1;let y4:=Nat.beq aLh.2.2.1 aLh.2.2.1;let y5:=Nat.beq aLi.2.2.1 aLi.2.2.1;let y6:=Nat.beq n61.1.2.2.1 n61.1.2.2.1;let y7:=Nat.beq aLj.2.2.1 aLj.2.2.1;let y8:=Nat.beq aLl.2.2 aLl.2.2;opt (WZ (x.2.1,((aI.1.1,aI.1.2.1,aLc.1,aLc.2.1,(aLc.2.2.1,aLc.2.2.2.1,n66.1,n66.2.1,n66.2.2.1,aLd.1),(aLd.2.1,aLd.2.2.1,aLd.2.2.2.1,Jq.1,Jq.2.1,Jq.2.2.1),aLe.1,aLe.2.1,aLe.2.2.1,aLe.2.2.2.1,n60.1,n60.2.1,n60.2.2.1,n60.2.2.2.1,aLf.1,aLf.2.1),aLf.2.2.1,aLf.2.2.2.1,aLf.2.2.2.2,0,(0,0,false,false),false,0,(0,0,0),false,false,false,0,0,0,((1073741824,0,0,0),(0,0,0),0,0,0),0),((aI.2.1.1,aI.2.1.2.1,aI.2.1.2.2.1),aI.2.1.2.2.2),(aI.2.2.1,(0,0,(0,0,0),0,0,0),false),(Jr.1,Jr.1,Jr.1,Jr.1,Jr.1,Jr.1,Jr.1,Jr.1),((0,0,0,0,0),Jr.2.1,0, -9223372036854775808),((0,0,0,0,0),Jr.2.2.1,0, -9223372036854775808),((0,0,0,0,0),Jr.2.2.2.1,0, -9223372036854775808),((0,0,0,0,0),Jr.2.2.2.2.1,0, -9223372036854775808),((0,0,0,0,0),n89.1,0, -9223372036854775808),((0,0,0,0,0),n89.2.1,0, -9223372036854775808),(n89.2.2.1,0),(n89.2.2.2.1.1,n89.2.2.2.1.2,0),(Jr.1,Jr.1,Jr.1,Jr.1,Jr.1,Jr.1,Jr.1,Jr.1,Jr.1,Jr.1),(n38.1,n38.1,n38.1,n38.1,n38.1,n38.1,n38.1,n38.1,n38.1),(aul,aul,aul,aul,aul,aul,aul,aul,aul),(n73.1,n73.1,n73.1,n73.1,n73.1,n73.1,n73.1,n73.1,n73.1),(aum,aum,aum,aum,aum,aum,aum,aum,aum),(n49.1,n49.1,n49.1,n49.1,n49.1,n49.1,n49.1,n49.1,n49.1),(aun,aun,aun,aun,aun,aun,aun,aun,aun),n99,n99,n99,n99,n99,n99,n99,n99,n99,n99,n99)) λbz=>let aLn:=bz.2.2;let aPb:=bz.2.1.2;let n67:=aLn.2.2;let aF4:=n67.1.2.2.2;let n56:=aPb.2.2.2;let aWQ:=n56.2.2.2.2.2.2.2.2.2.2.2.2;let ayW:=n56.1.1;let Ro:=n67.2.2;let aPc:=Ro.2.2.1;let n70:=Ro.2.2.2;let aDu:=n70.2.2;let n35:=aDu.2.2;let n82:=n35.1.2.2.2.2;let aPd:=n82.2.2.2;let n81:=n35.2.1.2.2.2;let aPe:=n81.2.2.2;let n62:=n35.2.2;let aUA:=n62.2.2.1.2;let n91:=n62.1.2.2.2.2;let n83:=n62.2.1.2.2.2;let aPf:=n83.2.2.2;let n76:=aUA.2.2;let aPg:=n76.2.2.2;let Lh:=n62.2.2.2;let aDv:=Lh.2.2.2;let n92:=Lh.1.2.2.2.2;let n84:=Lh.2.1.2.2.2;let aPh:=n84.2.2.2;let n50:=aDv.2.2.2;let n96:=n50.2.2.2;let aLo:=n96.2.2;let n32:=(aLo.2.2,());let n31:=(bz.2.1.1,aPb.1,aPb.2.1,aPb.2.2.1,n56.1.2,n56.2);let n27:=(λj=>n67.1.2.1 (ayW+j),λj=>n67.1.2.2.1 (ayW+j),λj=>aF4.1 (ayW+j),λj=>aF4.2.1 (ayW+j),λj=>aF4.2.2.1 (ayW+j),λj=>aF4.2.2.2.1 (ayW+j),λj=>aF4.2.2.2.2.1 (ayW+j),λj=>(aF4.2.2.2.2.2,()).1 (ayW+j));let n24:=(λj=>n35.2.1.2.1 (0+j),λj=>n35.2.1.2.2.1 (0+j),λj=>n81.1 (0+j),λj=>n81.2.1 (0+j),λj=>n81.2.2.1 (0+j),λj=>aPe.1 (0+j),λj=>aPe.2.1 (0+j),λj=>aPe.2.2.1 (0+j),λj=>(aPe.2.2.2,()).1 (0+j));let n21:=(λj=>n62.1.2.1 (0+j),λj=>n62.1.2.2.1 (0+j),λj=>n62.1.2.2.2.1 (0+j),λj=>n91.1 (0+j),λj=>n91.2.1 (0+j),λj=>n91.2.2.1 (0+j),λj=>n91.2.2.2.1 (0+j),λj=>n91.2.2.2.2.1 (0+j),λj=>(n91.2.2.2.2.2,()).1 (0+j));let n19:=(λj=>n62.2.1.2.1 (0+j),λj=>n62.2.1.2.2.1 (0+j),λj=>n83.1 (0+j),λj=>n83.2.1 (0+j),λj=>n83.2.2.1 (0+j),λj=>aPf.1 (0+j),λj=>aPf.2.1 (0+j),λj=>aPf.2.2.1 (0+j),λj=>(aPf.2.2.2,()).1 (0+j));let n17:=(λj=>aUA.1 (0+j),λj=>aUA.2.1 (0+j),λj=>n76.1 (0+j),λj=>n76.2.1 (0+j),λj=>n76.2.2.1 (0+j),λj=>aPg.1 (0+j),λj=>aPg.2.1 (0+j),λj=>aPg.2.2.1 (0+j),λj=>(aPg.2.2.2,()).1 (0+j));let n16:=(λj=>n35.1.2.1 (0+j),λj=>n35.1.2.2.1 (0+j),λj=>n35.1.2.2.2.1 (0+j),λj=>n82.1 (0+j),λj=>n82.2.1 (0+j),λj=>n82.2.2.1 (0+j),λj=>aPd.1 (0+j),λj=>aPd.2.1 (0+j),λj=>aPd.2.2.1 (0+j),λj=>(aPd.2.2.2,()).1 (0+j));let bL:=(λj=>Lh.1.2.1 (0+j),λj=>Lh.1.2.2.1 (0+j),λj=>Lh.1.2.2.2.1 (0+j),λj=>n92.1 (0+j),λj=>n92.2.1 (0+j),λj=>n92.2.2.1 (0+j),λj=>n92.2.2.2.1 (0+j),λj=>n92.2.2.2.2.1 (0+j),λj=>(n92.2.2.2.2.2,()).1 (0+j));let bx:=(λj=>Lh.2.1.2.1 (0+j),λj=>Lh.2.1.2.2.1 (0+j),λj=>n84.1 (0+j),λj=>n84.2.1 (0+j),λj=>n84.2.2.1 (0+j),λj=>aPh.1 (0+j),λj=>aPh.2.1 (0+j),λj=>aPh.2.2.1 (0+j),λj=>(aPh.2.2.2,()).1 (0+j));let n2:=(n31,aLn.1,aLn.2.1,n27,n67.2.1,Ro.1,Ro.2.1,aPc,n70.1,n70.2.1,aDu.1,aDu.2.1,n16,n24,n21,n19,n17,bL,bx,λj=>aDv.1 (0+j),λj=>aDv.2.1 (0+j),λj=>aDv.2.2.1 (0+j),λj=>n50.1 (0+j),λj=>n50.2.1 (0+j),λj=>n50.2.2.1 (0+j),λj=>n96.1 (0+j),λj=>n96.2.1 (0+j),λj=>aLo.1 (0+j),λj=>aLo.2.1 (0+j),λj=>n32.1 (0+j));let nq:=Nat.beq n56.1.2 n56.1.2;let agc:=Nat.beq aWQ aWQ;let aFQ:=Nat.beq n67.2.1.2.2.1 n67.2.1.2.2.1;let aUB:=Nat.beq Ro.1.2.2.1 Ro.1.2.2.1;let aUC:=Nat.beq Ro.2.1.2.2.1 Ro.2.1.2.2.1;let aUD:=Nat.beq aPc.2.2.1 aPc.2.2.1;let aUE:=Nat.beq n70.1.2.2.1 n70.1.2.2.1;let aUF:=Nat.beq n70.2.1.2.2.1 n70.2.1.2.2.1;let aUG:=Nat.beq aDu.2.1.2.2 aDu.2.1.2.2;ae y0 (ae y1 (ae y2 (ae y3 (ae y4 (ae y5 (ae y6 (ae y7 (ae y8 (opt (iC (n29,aDr.1,aDr.2.1,bp,aLg,GZ.1,aLh,aLi,n61.1,aLj,aLk.1,aLl,n8,bh,aY,n9,n7,n6,n5,λj=>aDs.2.2.1 (0+j),λj=>n39.1 (0+j),λj=>n39.2.1 (0+j),λj=>aDt.1 (0+j),λj=>aDt.2.1 (0+j),λj=>n58.1 (0+j),λj=>n58.2.1 (0+j),λj=>apt.1 (0+j),λj=>apt.2.1 (0+j),λj=>apt.2.2.1 (0+j),λj=>n30.1 (0+j))) λcq=>ae (decide (aDq.2.1<=cq.2.2.2.2.1)) (ret true) (ae (decide (aDq.1<0)) (ret true) (ae (decide (aDq.1>5)) (ret true) (ae y0 (ae y1 (ae y2 (ae y3 (ae y4 (ae y5 (ae y6 (ae y7 (ae y8 (opt n3 λeo=>ae (eo==x.1.2.2.1) (ret true) (ae y0 (ae y1 (ae y2 (ae y3 (ae y4 (ae y5 (ae y6 (ae y7 (ae y8 (opt n3 λcJ=>ae y0 (ae y1 (ae y2 (ae y3 (ae y4 (ae y5 (ae y6 (ae y7 (ae y8 (opt (kX (aDq,n29,aDr.1,aDr.2.1,bp,aLg,GZ.1,aLh,aLi,n61.1,aLj,aLk.1,aLl,n8,bh,aY,n9,n7,n6,n5,λj=>aDs.2.2.1 (0+j),λj=>n39.1 (0+j),λj=>n39.2.1 (0+j),λj=>aDt.1 (0+j),λj=>aDt.2.1 (0+j),λj=>n58.1 (0+j),λj=>n58.2.1 (0+j),λj=>apt.1 (0+j),λj=>apt.2.1 (0+j),λj=>apt.2.2.1 (0+j),λj=>n30.1 (0+j))) λd=>let aLp:=d.2.2;let aUH:=d.2.1.2.2.2.2;let aWR:=aUH.2.2.2.2.2.2.2.2.2.2.2.2;let n68:=aLp.2.2;let aLq:=n68.1.2.2.2;let n46:=n68.2.2;let aPi:=n46.2.2.1;let n71:=n46.2.2.2;let aDw:=n71.2.2;let n36:=aDw.2.2;let n93:=n36.1.2.2.2.2;let n85:=n36.2.1.2.2.2;let aPj:=n85.2.2.2;let n63:=n36.2.2;let aUI:=n63.2.2.1.2;let n94:=n63.1.2.2.2.2;let n86:=n63.2.1.2.2.2;let aPk:=n86.2.2.2;let n77:=aUI.2.2;let aPl:=n77.2.2.2;let Li:=n63.2.2.2;let aDx:=Li.2.2.2;let n95:=Li.1.2.2.2.2;let n87:=Li.2.1.2.2.2;let aPm:=n87.2.2.2;let n57:=aDx.2.2.2;let aDy:=n57.2.2.2;let n33:=(aDy.2.2.2,());let n28:=(λj=>n68.1.1 (0+j),λj=>n68.1.2.1 (0+j),λj=>n68.1.2.2.1 (0+j),λj=>aLq.1 (0+j),λj=>aLq.2.1 (0+j),λj=>aLq.2.2.1 (0+j),λj=>aLq.2.2.2.1 (0+j),λj=>(aLq.2.2.2.2,()).1 (0+j));let n26:=(λj=>n36.2.1.2.1 (0+j),λj=>n36.2.1.2.2.1 (0+j),λj=>n85.1 (0+j),λj=>n85.2.1 (0+j),λj=>n85.2.2.1 (0+j),λj=>aPj.1 (0+j),λj=>aPj.2.1 (0+j),λj=>aPj.2.2.1 (0+j),λj=>(aPj.2.2.2,()).1 (0+j));let n25:=(λj=>n63.1.2.1 (0+j),λj=>n63.1.2.2.1 (0+j),λj=>n63.1.2.2.2.1 (0+j),λj=>n94.1 (0+j),λj=>n94.2.1 (0+j),λj=>n94.2.2.1 (0+j),λj=>n94.2.2.2.1 (0+j),λj=>n94.2.2.2.2.1 (0+j),λj=>(n94.2.2.2.2.2,()).1 (0+j));let n23:=(λj=>n36.1.1 (0+j),λj=>n36.1.2.1 (0+j),λj=>n36.1.2.2.1 (0+j),λj=>n36.1.2.2.2.1 (0+j),λj=>n93.1 (0+j),λj=>n93.2.1 (0+j),λj=>n93.2.2.1 (0+j),λj=>n93.2.2.2.1 (0+j),λj=>n93.2.2.2.2.1 (0+j),λj=>(n93.2.2.2.2.2,()).1 (0+j));let n22:=(λj=>n63.2.1.2.1 (0+j),λj=>n63.2.1.2.2.1 (0+j),λj=>n86.1 (0+j),λj=>n86.2.1 (0+j),λj=>n86.2.2.1 (0+j),λj=>aPk.1 (0+j),λj=>aPk.2.1 (0+j),λj=>aPk.2.2.1 (0+j),λj=>(aPk.2.2.2,()).1 (0+j));let n20:=(λj=>aUI.1 (0+j),λj=>aUI.2.1 (0+j),λj=>n77.1 (0+j),λj=>n77.2.1 (0+j),λj=>n77.2.2.1 (0+j),λj=>aPl.1 (0+j),λj=>aPl.2.1 (0+j),λj=>aPl.2.2.1 (0+j),λj=>(aPl.2.2.2,()).1 (0+j));let n18:=(λj=>Li.1.2.1 (0+j),λj=>Li.1.2.2.1 (0+j),λj=>Li.1.2.2.2.1 (0+j),λj=>n95.1 (0+j),λj=>n95.2.1 (0+j),λj=>n95.2.2.1 (0+j),λj=>n95.2.2.2.1 (0+j),λj=>n95.2.2.2.2.1 (0+j),λj=>(n95.2.2.2.2.2,()).1 (0+j));let n15:=(λj=>Li.2.1.2.1 (0+j),λj=>Li.2.1.2.2.1 (0+j),λj=>n87.1 (0+j),λj=>n87.2.1 (0+j),λj=>n87.2.2.1 (0+j),λj=>aPm.1 (0+j),λj=>aPm.2.1 (0+j),λj=>aPm.2.2.1 (0+j),λj=>(aPm.2.2.2,()).1 (0+j));let n4:=(d.2.1,aLp.1,aLp.2.1,n28,n68.2.1,n46.1,n46.2.1,aPi,n71.1,n71.2.1,aDw.1,aDw.2.1,n23,n26,n25,n22,n20,n18,n15,λj=>Li.2.2.1 (0+j),λj=>aDx.1 (0+j),λj=>aDx.2.1 (0+j),λj=>aDx.2.2.1 (0+j),λj=>n57.1 (0+j),λj=>n57.2.1 (0+j),λj=>n57.2.2.1 (0+j),λj=>aDy.1 (0+j),λj=>aDy.2.1 (0+j),λj=>aDy.2.2.1 (0+j),λj=>n33.1 (0+j));let n1:=(aDq.1,d.2.1,aLp.1,aLp.2.1,n28,n68.2.1,n46.1,n46.2.1,aPi,n71.1,n71.2.1,aDw.1,aDw.2.1,n23,n26,n25,n22,n20,n18,n15,λj=>Li.2.2.1 (0+j),λj=>aDx.1 (0+j),λj=>aDx.2.1 (0+j),λj=>aDx.2.2.1 (0+j),λj=>n57.1 (0+j),λj=>n57.2.1 (0+j),λj=>n57.2.2.1 (0+j),λj=>aDy.1 (0+j),λj=>aDy.2.1 (0+j),λj=>aDy.2.2.1 (0+j),λj=>n33.1 (0+j));let y0:= !d.1;let y1:=Nat.beq aUH.1 aUH.1;let y2:=Nat.beq aWR aWR;let y3:=Nat.beq n68.2.1.2.2.1 n68.2.1.2.2.1;let y4:=Nat.beq n46.1.2.2.1 n46.1.2.2.1;let y5:=Nat.beq n46.2.1.2.2.1 n46.2.1.2.2.1;let y6:=Nat.beq aPi.2.2.1 aPi.2.2.1;let y7:=Nat.beq n71.1.2.2.1 n71.1.2.2.1;let y8:=Nat.beq n71.2.1.2.2.1 n71.2.1.2.2.1;let y9:=Nat.beq aDw.2.1.2.2 aDw.2.1.2.2;ae y1 (ae y2 (ae y3 (ae y4 (ae y5 (ae y6 (ae y7 (ae y8 (ae y9 (opt (rU n4) λkI=>ae nq (ae agc (ae aFQ (ae aUB (ae aUC (ae aUD (ae aUE (ae aUF (ae aUG (opt (rU n2) λoJ=>ae y1 (ae y2 (ae y3 (ae y4 (ae y5 (ae y6 (ae y7 (ae y8 (ae y9 (opt (qR n1) λmI=>let aPn:=mI.2.2.2.1;ae nq (ae agc (ae aFQ (ae aUB (ae aUC (ae aUD (ae aUE (ae aUF (ae aUG (opt (qR (aDq.1,n31,aLn.1,aLn.2.1,n27,n67.2.1,Ro.1,Ro.2.1,aPc,n70.1,n70.2.1,aDu.1,aDu.2.1,n16,n24,n21,n19,n17,bL,bx,λj=>aDv.1 (0+j),λj=>aDv.2.1 (0+j),λj=>aDv.2.2.1 (0+j),λj=>n50.1 (0+j),λj=>n50.2.1 (0+j),λj=>n50.2.2.1 (0+j),λj=>n96.1 (0+j),λj=>n96.2.1 (0+j),λj=>aLo.1 (0+j),λj=>aLo.2.1 (0+j),λj=>n32.1 (0+j))) λjA=>let aPo:=jA.2.2.2.1;ae (ari 24 λj=>(kI.1,()).1 j==(oJ.1,()).1 j) (ae ((ari 276 λj=>(kI.2.1,()).1 j==(oJ.2.1,()).1 j)&&((ari 24 λj=>(kI.2.2,()).1 j==(oJ.2.2,()).1 j)&&true)) (ae y1 (ae y2 (ae y3 (ae y4 (ae y5 (ae y6 (ae y7 (ae y8 (ae y9 (opt (iC n4) λpC=>let aF5:=pC.2.2.2.2;let n53:=aF5.2.2.2.2.2;let aF6:=n53.2.2.2.2;ae nq (ae agc (ae aFQ (ae aUB (ae aUC (ae aUD (ae aUE (ae aUF (ae aUG (opt (iC n2) λzz=>let aF7:=zz.2.2.2.2;let n54:=aF7.2.2.2.2.2;let aF8:=n54.2.2.2.2;ae (pC.1==zz.1&&(pC.2.1==zz.2.1&&(pC.2.2.1==zz.2.2.1&&(pC.2.2.2.1==zz.2.2.2.1&&true)))&&(aF5.1==aF7.1&&(aF5.2.1==aF7.2.1&&(aF5.2.2.1==aF7.2.2.1&&(aF5.2.2.2.1==aF7.2.2.2.1&&(aF5.2.2.2.2.1==aF7.2.2.2.2.1&&(n53.1==n54.1&&(n53.2.1==n54.2.1&&(n53.2.2.1==n54.2.2.1&&(n53.2.2.2.1==n54.2.2.2.1&&true)))&&(aF6.1==aF8.1&&(aF6.2.1==aF8.2.1&&(aF6.2.2.1==aF8.2.2.1&&true))&&(aF6.2.2.2.1==aF8.2.2.2.1&&(aF6.2.2.2.2.1==aF8.2.2.2.2.1&&(aF6.2.2.2.2.2==aF8.2.2.2.2.2&&true))&&true))&&true))))))) (ae (mI.1==wI (jA.1+1)) (ae d.1 (ae y1 (ae y2 (ae y3 (ae y4 (ae y5 (ae y6 (ae y7 (ae y8 (ae y9 (opt (lH n1) λGx=>ae (Gx==wI (cJ+1)) (ae (aPn==aPo) (ret true) (ae y0 (ae y1 (ae y2 (ae y3 (ae y4 (ae y5 (ae y6 (ae y7 (ae y8 (ae y9 (opt (lH n1) λd=>ae (d==cJ) (ret (aPn==wI (aPo+1))) (ret false)) no) no) no) no) no) no) no) no) no) (ret false))) (ae y0 (ae y1 (ae y2 (ae y3 (ae y4 (ae y5 (ae y6 (ae y7 (ae y8 (ae y9 (opt (lH n1) λd=>ae (d==cJ) (ret (aPn==wI (aPo+1))) (ret false)) no) no) no) no) no) no) no) no) no) (ret false))) no) no) no) no) no) no) no) no) no) (ae y0 (ae y1 (ae y2 (ae y3 (ae y4 (ae y5 (ae y6 (ae y7 (ae y8 (ae y9 (opt (lH n1) λd=>ae (d==cJ) (ret (aPn==wI (aPo+1))) (ret false)) no) no) no) no) no) no) no) no) no) (ret false))) (ret false)) (ret false)) no) no) no) no) no) no) no) no) no) no) no) no) no) no) no) no) no) no) (ret false)) (ret false)) no) no) no) no) no) no) no) no) no) no) no) no) no) no) no) no) no) no) no) no) no) no) no) no) no) no) no) no) no) no) no) no) no) no) no) no) no) no) no) no) no) no) no) no) no) no) no) no) no) no) no) no) no) no)) no) no) no) no) no) no) no) no) no)))) no) no) no) no) no) no) no) no) no))))
def vQ:=λx=>(RG Tf Ec WX db rv ek rT m4 x).val
theorem aAb:∀Tg Ep WZ iC lH kX rU qR,D0 [auh Tg,aqT Ep,aDn WZ,wL iC,Lx lH,sS kX,Gd rU,En qR] 6 oz (lf NK) λb=>RG Tg Ep WZ iC lH kX rU qR b:=λ_ _ _ _ _ _ _ _ b=>by kernel_rfl
theorem aAc [ax]:SC (aAa vQ):=s0 (.c aIr (.c aC9 (.c aNX (.c D3 (.c YT (.c A' (.c Sn (.c PY (.nil _))))))))) (aAb Tf Ec WX db rv ek rT m4)
end Go.Proofs.YtldgljclcgaibaaGreat
namespace Go.Proofs.YtldgljclcgaibaaGreat
open Go.Ab Go.Ab.Pg
theorem ok_eq {α:Type}{o:Option α}{v:α}(h:o=some v):Ok o (λr=>r=v):=⟨v,h,rfl⟩
theorem aLr (n:Nat):(ari n λ_=>true)=true:=by
 unfold ari
 simp
theorem aF9 (x:rS.B):Ok (rT x) (λr:Gb=>r=(x.1.2.2.1,x.1.2.2.2.1)):=⟨_,rfl,rfl⟩
theorem aIs (x:oz.B):Ok (vQ x) (λr:RF=>r=true):=by
 unfold vQ RG
 try dsimp only
 show PQ _ _
 rw[show Tf=some true from rfl,bM,show(!true)=false from rfl,zj]
 obtain⟨r,g,hr⟩:=aVO x.1
 rw[g,bM]
 cases r with
 |inl a=>simp only[aB,bM,av]
 |inr a=>
 simp only[zj,bM]
 rw[aK]
 refine⟨λ_=>by rw[av],λhn=> ?_⟩
 have hn:=of_decide_eq_false hn
 rw[Int.ofNat_eq_natCast] at hn
 obtain⟨b0,b1,o0,o1,s0,s1,s2,s3,s4,s5,u⟩:=hr
 obtain⟨N,hN⟩:∃N:Nat,x.1.2.2.2.2.2.2.2.2.2.2.2.2.1=(N:Int):=⟨Int.toNat x.1.2.2.2.2.2.2.2.2.2.2.2.2.1,(Int.toNat_of_nonneg (by omega)).symm⟩
 have hN1:1<=N:=by omega
 have hN:N<=1999:=by omega
 have pw:∀y:Int,y=x.1.2.2.1->Pw x.1.2.2.1 0 0 ((0,0,0,0,0),y,0, -9223372036854775808):=λy e=>⟨e,by show((0:Nat):Int)<=_;omega,by show(-9223372036854775808:Int)<=0;decide⟩
 with_reducible refine ay (aUs N hN1 hN (Pw.clo b1) 12 (by decide) _ ?_ ?_ ?_ (pw _ s0) (pw _ s1) (pw _ s2) (pw _ s3) (pw _ s4) (pw _ s5) ?_ ?_) λe ge he=> ?_
 ·show 0+40*12<=1998
  decide
 ·exact .inl (by show x.2.1.1<=12;omega)
 ·exact⟨λ_=>Int.le_refl 0,Int.le_refl 0,λi k _ h=>absurd h (Nat.not_lt_zero _)⟩
 ·show a.2.2.2.2.2.2.2.2.2.2.2.1.1<=(N:Int)
  omega
 ·exact Nat.zero_le _
 obtain⟨e4,⟨_,eq⟩,⟨m,m0,mK,t0,t1,t2,t3,t4,t5⟩,e12,e13⟩:=he
 rw[ge,bM]
 simp only[aM,aB]
 with_reducible refine ay (aQJ _) λst gs hs=> ?_
 rw[aK]
 refine⟨λ_=>by rw[av],λc1=> ?_⟩
 have c1:=of_decide_eq_false c1
 rw[aK]
 refine⟨λ_=>by rw[av],λc2=> ?_⟩
 have c2:=of_decide_eq_false c2
 rw[aK]
 refine⟨λ_=>by rw[av],λc3=> ?_⟩
 have c3:=of_decide_eq_false c3
 repeat rw[aB]
 with_reducible refine ay (aAq _ ?_ ?_) λln gl hl=> ?_
 ·show 0<=x.2.2.1
  omega
 ·show x.2.2.1<=5
  omega
 rw[aK]
 refine⟨λ_=>by rw[av],λc4=> ?_⟩
 repeat rw[aB]
 with_reducible refine ay (aAq _ ?_ ?_) λln2 gl2 hl2=> ?_
 ·show 0<=x.2.2.1
  omega
 ·show x.2.2.1<=5
  omega
 repeat rw[aB]
 have hs:st.2.2.2.2.1=e.2.1.2.2.2.2.2.2.2.2.2.2.2.2.2.1:=hs
 have c4:ln≠x.1.2.2.1:=by intro h;rw[h] at c4;simp at c4
 have mm:∀b:Bf,Pw x.1.2.2.1 m e.2.1.2.2.2.2.2.2.2.2.2.2.2.2.2.1 b->b.2.2.2<x.2.2.2.1:=λb h=>by have:=h.2.2;omega
 have nn:∀(b:Bf),Pw x.1.2.2.1 m e.2.1.2.2.2.2.2.2.2.2.2.2.2.2.2.1 b->ln=((b.2.2.1:Nat):Int)->((b.2.2.1:Nat):Int)<b.2.1:=λb h k=>by have a:=h.2.1;have e:=h.1;have c:((b.2.2.1:Nat):Int)≠x.1.2.2.1:=λq=>c4 (k.trans q);omega
 have ll:∀(b:Bf),Pw x.1.2.2.1 m e.2.1.2.2.2.2.2.2.2.2.2.2.2.2.2.1 b->b.2.2.1<=1000:=λb h=>by have:=h.2.1;omega
 obtain⟨hl0,hl1,aUJ,hl3,hl4,hl5⟩:=hl
 with_reducible refine ay (aIn _ ?_ ?_ (ll _ t0) (mm _ t0) (λk=>nn _ t0 (hl0 k)) (ll _ t1) (mm _ t1) (λk=>nn _ t1 (hl1 k)) (ll _ t2) (mm _ t2) (λk=>nn _ t2 (aUJ k)) (ll _ t3) (mm _ t3) (λk=>nn _ t3 (hl3 k)) (ll _ t4) (mm _ t4) (λk=>nn _ t4 (hl4 k)) (ll _ t5) (mm _ t5) (λk=>nn _ t5 (hl5 k))) λw gw hw=> ?_
 ·show 0<=x.2.2.1
  omega
 ·show x.2.2.1<=5
  omega
 obtain⟨f1,f2,f3,f4,f11,f12,f13,f20,CH⟩:=hw
 repeat rw[aB]
 with_reducible refine ay (aF9 _) λsa ga ha=> ?_
 repeat rw[aB]
 with_reducible refine ay (aF9 _) λsb gb hb=> ?_
 repeat rw[aB]
 with_reducible refine ay (aDo _ ?_ ?_) λca gca hca=> ?_
 ·show 0<=x.2.2.1
  omega
 ·show x.2.2.1<=5
  omega
 repeat rw[aB]
 with_reducible refine ay (aDo _ ?_ ?_) λcb gcb hcb=> ?_
 ·show 0<=x.2.2.1
  omega
 ·show x.2.2.1<=5
  omega
 have es:sa=sb:=by rw[ha,hb];show(w.2.1.2.2.1,w.2.1.2.2.2.1)=(e.2.1.2.2.1,e.2.1.2.2.2.1);rw[f1]
 rw[es]
 simp only[beq_self_eq_true,aLr,Bool.and_self,aB]
 with_reducible refine ay (ok_eq ((aN0 _ _ ?_ ?_).trans gs)) λs1 _ h1s=> ?_
 ·exact f1
 ·exact f11
 repeat rw[aB]
 rw[gs,bM,h1s]
 simp only[beq_self_eq_true,Bool.and_self,aB]
 have kk:ca.1=wI (cb.1+1)∧∃n:Nat,(∀r:C2,((x.2.2.1=0->r=((w.2.2.2.2.2.1.2.2.1:Nat):Int))∧(x.2.2.1=1->r=((w.2.2.2.2.2.2.1.2.2.1:Nat):Int))∧(x.2.2.1=2->r=((w.2.2.2.2.2.2.2.1.2.2.1:Nat):Int))∧(x.2.2.1=3->r=((w.2.2.2.2.2.2.2.2.1.2.2.1:Nat):Int))∧(x.2.2.1=4->r=((w.2.2.2.2.2.2.2.2.2.1.2.2.1:Nat):Int))∧(x.2.2.1=5->r=((w.2.2.2.2.2.2.2.2.2.2.1.2.2.1:Nat):Int)))->r=(n:Int))∧((w.1=true∧(n:Int)=ln+1∧ca.2.2.2.1=cb.2.2.2.1)∨(w.1=false∧(n:Int)=ln∧ca.2.2.2.1=wI (cb.2.2.2.1+1))):=by
  rcases CH with⟨k,c0,c1,c2,c3,d4,c5⟩| ⟨k,c0,c1,c2,c3,d4,c5⟩| ⟨k,c0,c1,c2,c3,d4,c5⟩| ⟨k,c0,c1,c2,c3,d4,c5⟩| ⟨k,c0,c1,c2,c3,d4,c5⟩| ⟨k,c0,c1,c2,c3,d4,c5⟩
  ·obtain⟨w1,w2⟩:=c0
   have a1:ca=w.2.2.2.2.2.1.1:=hca.1 k
   have a2:cb=e.2.2.2.2.2.1.1:=hcb.1 k
   have a3:ln=((e.2.2.2.2.2.1.2.2.1:Nat):Int):=hl0 k
   refine⟨by rw[a1,a2];exact w1,w.2.2.2.2.2.1.2.2.1,λr h=>h.1 k,?_⟩
   rcases w2 with⟨p,q,s⟩| ⟨p,q,s⟩
   ·exact .inl ⟨p,by rw[a3];have q:w.2.2.2.2.2.1.2.2.1=e.2.2.2.2.2.1.2.2.1+1:=q;omega,by rw[a1,a2];exact s⟩
   ·exact .inr ⟨p,by rw[a3];have q:w.2.2.2.2.2.1.2.2.1=e.2.2.2.2.2.1.2.2.1:=q;omega,by rw[a1,a2];exact s⟩
  ·obtain⟨w1,w2⟩:=c1
   have a1:ca=w.2.2.2.2.2.2.1.1:=hca.2.1 k
   have a2:cb=e.2.2.2.2.2.2.1.1:=hcb.2.1 k
   have a3:ln=((e.2.2.2.2.2.2.1.2.2.1:Nat):Int):=hl1 k
   refine⟨by rw[a1,a2];exact w1,w.2.2.2.2.2.2.1.2.2.1,λr h=>h.2.1 k,?_⟩
   rcases w2 with⟨p,q,s⟩| ⟨p,q,s⟩
   ·exact .inl ⟨p,by rw[a3];have q:w.2.2.2.2.2.2.1.2.2.1=e.2.2.2.2.2.2.1.2.2.1+1:=q;omega,by rw[a1,a2];exact s⟩
   ·exact .inr ⟨p,by rw[a3];have q:w.2.2.2.2.2.2.1.2.2.1=e.2.2.2.2.2.2.1.2.2.1:=q;omega,by rw[a1,a2];exact s⟩
  ·obtain⟨w1,w2⟩:=c2
   have a1:ca=w.2.2.2.2.2.2.2.1.1:=hca.2.2.1 k
   have a2:cb=e.2.2.2.2.2.2.2.1.1:=hcb.2.2.1 k
   have a3:ln=((e.2.2.2.2.2.2.2.1.2.2.1:Nat):Int):=aUJ k
   refine⟨by rw[a1,a2];exact w1,w.2.2.2.2.2.2.2.1.2.2.1,λr h=>h.2.2.1 k,?_⟩
   rcases w2 with⟨p,q,s⟩| ⟨p,q,s⟩
   ·exact .inl ⟨p,by rw[a3];have q:w.2.2.2.2.2.2.2.1.2.2.1=e.2.2.2.2.2.2.2.1.2.2.1+1:=q;omega,by rw[a1,a2];exact s⟩
   ·exact .inr ⟨p,by rw[a3];have q:w.2.2.2.2.2.2.2.1.2.2.1=e.2.2.2.2.2.2.2.1.2.2.1:=q;omega,by rw[a1,a2];exact s⟩
  ·obtain⟨w1,w2⟩:=c3
   have a1:ca=w.2.2.2.2.2.2.2.2.1.1:=hca.2.2.2.1 k
   have a2:cb=e.2.2.2.2.2.2.2.2.1.1:=hcb.2.2.2.1 k
   have a3:ln=((e.2.2.2.2.2.2.2.2.1.2.2.1:Nat):Int):=hl3 k
   refine⟨by rw[a1,a2];exact w1,w.2.2.2.2.2.2.2.2.1.2.2.1,λr h=>h.2.2.2.1 k,?_⟩
   rcases w2 with⟨p,q,s⟩| ⟨p,q,s⟩
   ·exact .inl ⟨p,by rw[a3];have q:w.2.2.2.2.2.2.2.2.1.2.2.1=e.2.2.2.2.2.2.2.2.1.2.2.1+1:=q;omega,by rw[a1,a2];exact s⟩
   ·exact .inr ⟨p,by rw[a3];have q:w.2.2.2.2.2.2.2.2.1.2.2.1=e.2.2.2.2.2.2.2.2.1.2.2.1:=q;omega,by rw[a1,a2];exact s⟩
  ·obtain⟨w1,w2⟩:=d4
   have a1:ca=w.2.2.2.2.2.2.2.2.2.1.1:=hca.2.2.2.2.1 k
   have a2:cb=e.2.2.2.2.2.2.2.2.2.1.1:=hcb.2.2.2.2.1 k
   have a3:ln=((e.2.2.2.2.2.2.2.2.2.1.2.2.1:Nat):Int):=hl4 k
   refine⟨by rw[a1,a2];exact w1,w.2.2.2.2.2.2.2.2.2.1.2.2.1,λr h=>h.2.2.2.2.1 k,?_⟩
   rcases w2 with⟨p,q,s⟩| ⟨p,q,s⟩
   ·exact .inl ⟨p,by rw[a3];have q:w.2.2.2.2.2.2.2.2.2.1.2.2.1=e.2.2.2.2.2.2.2.2.2.1.2.2.1+1:=q;omega,by rw[a1,a2];exact s⟩
   ·exact .inr ⟨p,by rw[a3];have q:w.2.2.2.2.2.2.2.2.2.1.2.2.1=e.2.2.2.2.2.2.2.2.2.1.2.2.1:=q;omega,by rw[a1,a2];exact s⟩
  ·obtain⟨w1,w2⟩:=c5
   have a1:ca=w.2.2.2.2.2.2.2.2.2.2.1.1:=hca.2.2.2.2.2 k
   have a2:cb=e.2.2.2.2.2.2.2.2.2.2.1.1:=hcb.2.2.2.2.2 k
   have a3:ln=((e.2.2.2.2.2.2.2.2.2.2.1.2.2.1:Nat):Int):=hl5 k
   refine⟨by rw[a1,a2];exact w1,w.2.2.2.2.2.2.2.2.2.2.1.2.2.1,λr h=>h.2.2.2.2.2 k,?_⟩
   rcases w2 with⟨p,q,s⟩| ⟨p,q,s⟩
   ·exact .inl ⟨p,by rw[a3];have q:w.2.2.2.2.2.2.2.2.2.2.1.2.2.1=e.2.2.2.2.2.2.2.2.2.2.1.2.2.1+1:=q;omega,by rw[a1,a2];exact s⟩
   ·exact .inr ⟨p,by rw[a3];have q:w.2.2.2.2.2.2.2.2.2.2.1.2.2.1=e.2.2.2.2.2.2.2.2.2.2.1.2.2.1:=q;omega,by rw[a1,a2];exact s⟩
 have l2:ln2=ln:=Option.some.inj (gl2.symm.trans gl)
 obtain⟨k1,n,kn,k2⟩:=kk
 rw[show(ca.1==wI (cb.1+1))=true by rw[k1];exact beq_self_eq_true _,aB]
 have lb:∃j:Nat,ln=(j:Int)∧j<=1000:=by
  have hb:∀b:Bf,Pw x.1.2.2.1 m e.2.1.2.2.2.2.2.2.2.2.2.2.2.2.2.1 b->ln=((b.2.2.1:Nat):Int)->∃j:Nat,ln=(j:Int)∧j<=1000:=λb h k=>⟨b.2.2.1,k,ll b h⟩
  rcases CH with⟨k,_⟩| ⟨k,_⟩| ⟨k,_⟩| ⟨k,_⟩| ⟨k,_⟩| ⟨k,_⟩
  ·exact hb _ t0 (hl0 k)
  ·exact hb _ t1 (hl1 k)
  ·exact hb _ t2 (aUJ k)
  ·exact hb _ t3 (hl3 k)
  ·exact hb _ t4 (hl4 k)
  ·exact hb _ t5 (hl5 k)
 obtain⟨j,lj,jl⟩:=lb
 rw[lj] at k2
 rcases k2 with⟨p,q,s⟩| ⟨p,q,s⟩
 ·rw[p,aB]
  repeat rw[aB]
  with_reducible refine ay (aAq _ ?_ ?_) λl3 _ aDz=> ?_
  ·show 0<=x.2.2.1
   omega
  ·show x.2.2.1<=5
   omega
  have aDz:=kn _ aDz
  rw[show(l3==wI (ln2+1))=true by rw[aDz,l2,lj,ey (by omega) (by omega),q];exact beq_self_eq_true _,aB]
  rw[show(ca.2.2.2.1==cb.2.2.2.1)=true by rw[s];exact beq_self_eq_true _,aB,av]
 ·rw[p,zj]
  repeat (first|rw[aB]|rw[show(!false)=true from rfl])
  with_reducible refine ay (aAq _ ?_ ?_) λl3 _ aDz=> ?_
  ·show 0<=x.2.2.1
   omega
  ·show x.2.2.1<=5
   omega
  have aDz:=kn _ aDz
  rw[show(l3==ln2)=true by rw[aDz,l2,lj,q];exact beq_self_eq_true _,aB,av,s]
  exact beq_self_eq_true _
theorem waits (x:oz.B):vQ x=some true:=by
 obtain⟨d,e,rfl⟩:=aIs x
 exact e
end Go.Proofs.YtldgljclcgaibaaGreat
