/-
  Parts of the proof: TDg TDh TWk QA QH TEh
-/
import Derived.Test.YtldgljclcgaibaaGreatZAE
import Derived.Test.YtldgljclcgaibaaGreatZAG
import Derived.Test.YtldgljclcgaibaaGreatZAL
import Derived.Test.YtldgljclcgaibaaGreatZAM
set_option linter.unusedVariables false
set_option linter.unusedSimpArgs false
set_option maxRecDepth 100000
set_option maxHeartbeats 4000000
namespace Go.Proofs.YtldgljclcgaibaaGreat
open Go.Ab Go.Ab.Pg
theorem EC {α:Type}(f:Nat->α)(y j:Nat)(v:α):(bif Nat.beq j y then v else f j)=if j=y then v else f j:=by
 by_cases h:j=y
 ·rw[if_pos h,h,Nat.beq_refl];rfl
 ·rw[if_neg h]
  cases e:Nat.beq j y
  ·rfl
  ·exact absurd (Nat.eq_of_beq_eq_true e) h
theorem azT {α:Type}(i y:Nat)(a b:α):(bif Nat.beq i y then a else b)=if i=y then a else b:=by
 exact EC (λ_=>b) y i a
def okV (d:Int):Prop:=d=17592186044416∨d=68719476736∨d=67108864∨d=4294967296∨d=17179869184
theorem okV.le {d:Int}(h:okV d):1<=d∧d<=72057594037927936:=by
 rcases h with rfl|rfl|rfl|rfl|rfl<;>decide
theorem acR (x lo hi:Int)(b:Bool)(h:lo<=x)(k:x<=hi):aX x lo hi b=some (x,b):=by
 have h1:decide (lo>hi)=false:=decide_eq_false (by omega)
 have h2:decide (x<lo)=false:=decide_eq_false (by omega)
 have h3:decide (x>hi)=false:=decide_eq_false (by omega)
 unfold aX vf
 rw[h1,h2,h3];rfl
theorem Og {x:Int}(h: -1152921504606846976<=x∧x<=1152921504606846976):sat x=x:=(aNo h).1
theorem GK {x:Int}(h: -1152921504606846976<=x∧x<=1152921504606846976):eS x=false:=(aNo h).2
theorem aHx (w x:Int)(b:Bool)(hw:w=0∨w=1073741824)(hx: -1152921504606846976<=x∧x<=1152921504606846976):aT w x 30 b=some (if w=0 then 0 else x,b):=by
 have h:=aJp w x 30 b (by decide)
 have e1:sat w=w:=Og (by omega)
 have e2:eS w=false:=GK (by omega)
 have r:Kp (w*x) 30=(if w=0 then 0 else x):=by
  rcases hw with rfl|rfl
  ·rw[Int.zero_mul,if_pos rfl];rfl
  ·rw[if_neg (by decide),Int.mul_comm];exact aJr x
 have hr: -1152921504606846976<=(if w=0 then 0 else x)∧(if w=0 then 0 else x)<=1152921504606846976:=by split<;>omega
 rw[e1,e2,Og hx,GK hx,r,Og hr,GK hr,Bool.or_false,Bool.or_false,Bool.or_false] at h
 exact h
theorem div_zero (d:Int)(b:Bool)(h:okV d):bk 0 d 30 b=some (0,b):=by
 rcases h with rfl|rfl|rfl|rfl|rfl<;>cases b<;>kernel_rfl
theorem sub_zero (x:Int)(b:Bool)(h: -1152921504606846976<=x∧x<=1152921504606846976):bD x 0 b=some (x,b):=by
 have z:sat 0=0:=Og (by decide)
 have zo:eS 0=false:=GK (by decide)
 simp only[bD,Ga,Pg.bZ,Pg.bO,oz,Option.bind_some,Og h,GK h,z,zo,Bool.or_false,Int.sub_zero]
 rw[eK (by omega) (by omega),Og h,GK h,Bool.or_false]
theorem ayu {f g:Nat->Int}:∀n,(∀j,j<n->f j=g j)->xt f n=xt g n
 |0,_=>rfl
 |n+1,h=>by
  show xt f n+f n=xt g n+g n
  rw[ayu n (λj hj=>h j (by omega)),h n (by omega)]
theorem aJZ {f:Nat->Bool}:∀n,(∀j,j<n->f j=false)->CZ f n=false
 |0,_=>rfl
 |n+1,h=>by
  show(CZ f n||f n)=false
  rw[aJZ n (λj hj=>h j (by omega)),h n (by omega)];rfl
theorem aFh {f:Nat->Int}(k:Nat):∀n,(∀j,j<n->j≠k->f j=0)->xt f n=if k<n then f k else 0
 |0,_=>by rw[if_neg (by omega)];rfl
 |n+1,h=>by
  show xt f n+f n=_
  rw[aFh k n (λj hj=>h j (by omega))]
  by_cases e:n=k
  ·subst e;rw[if_neg (by omega),if_pos (by omega),Int.zero_add]
  ·rw[h n (by omega) e,Int.add_zero]
   by_cases c:k<n
   ·rw[if_pos c,if_pos (by omega)]
   ·rw[if_neg c,if_neg (by omega)]
theorem aCJ (n k:Nat)(hn:n<=100)(hk:k<n)(V:Int)(b w w':Bool)(f g:Nat->Int)(hf:∀j,j<n-> -1152921504606846976<=f j∧f j<=1152921504606846976)(hg:∀j,j<n-> -1152921504606846976<=g j∧g j<=1152921504606846976)
  (hz:∀j,j<n->j≠k->f j*g j=0)(hV:f k*g k=V*1073741824)(r: -1152921504606846976<=V∧V<=1152921504606846976):bn 30 n n b f g w w'=some (V,b):=by
 have h:=aJq 30 (by decide) n hn b f g w w'
 have e:xt (λj=>sat (f j)*sat (g j)) n=V*1073741824:=by
  rw[ayu n (λj hj=>by show sat (f j)*sat (g j)=f j*g j;rw[Og (hf j hj),Og (hg j hj)]:∀j,j<n->(λj=>sat (f j)*sat (g j)) j=(λj=>f j*g j) j),aFh k n hz,if_pos hk,hV]
 have a:CZ (λj=>eS (f j)||eS (g j)) n=false:=aJZ n λj hj=>by
  show(eS (f j)||eS (g j))=false
  rw[GK (hf j hj),GK (hg j hj)];rfl
 rw[e,a,aJr,Og r,GK r,Bool.or_false,Bool.or_false] at h
 exact h
theorem aSU (x:Int)(b:Bool)(h:1<=x)(k:x<=72057594037927936):me x b=some (x,b):=by
 unfold me G4
 rw[Pg.bZ,acR x 1 72057594037927936 b h k];rfl
theorem aSV (x:Int)(b:Bool)(h:1<=x)(k:x<=72057594037927936):nx x b=some (x,b):=by
 unfold nx Ca
 rw[Pg.bZ,acR x 1 72057594037927936 b h k];rfl
theorem aUb (x:Int)(h:0<=x)(k:x<24):vN x=some true:=by
 have h1:decide (x>=0)=true:=decide_eq_true h
 have h2:decide (x<24)=true:=decide_eq_true k
 unfold vN OG
 rw[h1,h2];rfl
theorem aUc:∀j:Nat,j<24->0<=wI (Int.tdiv (wI ((j:Int)*wI ((j:Int)-1))) 2)∧wI (Int.tdiv (wI ((j:Int)*wI ((j:Int)-1))) 2)+(j:Int)<=276+(if j=0 then 1 else 0):=by decide
theorem aOT {i j:Int}{d:Sq}(h:iH i j=some d)(ok:d.2=true):0<=d.1∧d.1<276:=by
 simp only[iH,Eb,bO,bI] at h
 by_cases h0:0<=i
 ·by_cases h1:i<j
  ·simp only[ge_iff_le,h0,h1,decide_true,cond_true,Option.some.injEq] at h
   subst h
   have h2:j<24:=of_decide_eq_true ok
   obtain⟨n,rfl⟩:=Int.eq_ofNat_of_zero_le (by omega:0<=j)
   obtain⟨k1,k2⟩:=aUc n (by omega)
   rw[if_neg (by omega)] at k2
   generalize wI (Int.tdiv (wI ((n:Int)*wI ((n:Int)-1))) 2)=c at*
   show 0<=wI (c+i)∧wI (c+i)<276
   rw[eK (by omega) (by omega)]
   omega
  ·simp only[ge_iff_le,h0,h1,decide_true,decide_false,cond_true,cond_false,Option.some.injEq] at h
   subst h;cases ok
 ·simp only[ge_iff_le,h0,decide_false,cond_false,Option.some.injEq] at h
  subst h;cases ok
theorem aFi (i j:Nat)(h:i<j)(k:j<24):∃p:Int,iH i j=some (p,true)∧0<=p∧p<276:=by
 have c1:decide ((i:Int)>=0)=true:=decide_eq_true (by omega)
 have c2:decide ((i:Int)<(j:Int))=true:=decide_eq_true (by omega)
 have c3:decide ((j:Int)<24)=true:=decide_eq_true (by omega)
 have e:iH i j=some (wI (wI (Int.tdiv (wI ((j:Int)*wI ((j:Int)-1))) 2)+(i:Int)),true):=by
  unfold iH Eb
  rw[c1,c2,c3];rfl
 refine⟨_,e,?_⟩
 have:=aOT e rfl
 exact this
theorem aJ0 (U D:Nat->Int)(hU:∀p,p<276->U p=0)(i j:Nat)(h:i<=j)(k:j<24):CO U D i j=some (if i=j then 1073741824 else 0):=by
 unfold CO ar5
 by_cases e:i=j
 ·subst e
  have c0:((i:Int)==(i:Int))=true:=by simp
  have c1:decide ((i:Int)>=0)=true:=decide_eq_true (by omega)
  have c2:decide ((i:Int)<24)=true:=decide_eq_true (by omega)
  rw[c0,c1,c2,if_pos rfl];rfl
 ·have c0:((i:Int)==(j:Int))=false:=by simp;omega
  obtain⟨p,hp,p0,p1⟩:=aFi i j (by omega) k
  have c1:aW p 276=true:=by rw[bl];omega
  have c2:Nat.ble (0+Int.toNat p*1+1) 276=true:=by rw[bP];omega
  rw[c0,if_neg e,Pg.bI,cond_false,Pg.bZ,hp,Option.bind_some]
  simp only[Bool.not_true,c1,c2,Pg.bI,cond_false,cond_true,Pg.bO]
  rw[hU _ (by omega)]
theorem aDX (D:Nat->Int)(i j:Nat)(h:i<j)(k:j<24):wE (λ_=>0) D i j 0=some (λ_=>0,D):=by
 obtain⟨p,hp,p0,p1⟩:=aFi i j h k
 have c1:aW p 276=true:=by rw[bl];omega
 have c2:(Nat.ble (0+Int.toNat p*1+1) 276&&Nat.ble (0+Int.toNat p*1+1) 300)=true:=by rw[Bool.and_eq_true,bP,bP];omega
 unfold wE aeh
 rw[Pg.bZ,hp,Option.bind_some]
 dsimp only
 rw[c1,c2]
 simp only[Pg.bI,cond_true,Pg.bO]
 have e:(λj:Nat=>bif Nat.beq j (Int.toNat p) then(0:Int) else 0)=λ_=>0:=funext λj=>by cases Nat.beq j (Int.toNat p)<;>rfl
 exact congrArg some (Prod.ext e rfl)
theorem aVG (b:Bool)(D:Nat->Int)(hD:∀i,i<24->1<=D i∧D i<=72057594037927936)(d:dO.B)(hd:0<=d.1∧d.1<=24∧d.2.1=b∧(∀p,p<276->d.2.2.1.1 p=0)∧∀i,i<24->d.2.2.1.2 i=D i):Ok (zu d) (λx:j7=>x.2.1=b∧(∀p,p<276->x.2.2.1.1 p=0)∧∀i,i<24->x.2.2.1.2 i=D i):=
 bd (s:=_) (λd:dO.B=>0<=d.1∧d.1<=24∧d.2.1=b∧(∀p,p<276->d.2.2.1.1 p=0)∧∀i,i<24->d.2.2.1.2 i=D i) (λd:dO.B=>Int.toNat (24-d.1)) (λx:j7=>x.2.1=b∧(∀p,p<276->x.2.2.1.1 p=0)∧∀i,i<24->x.2.2.1.2 i=D i) (λd hd=>by
  obtain⟨i0,i1,i2,i3,i4⟩:=hd
  have hw:wI (d.1+1)=d.1+1:=bf (by omega) (by omega)
  unfold zt
  dsimp only
  rw[aL]
  refine⟨λh=> ?_,λ_=>by rw[av];exact⟨i2,i3,i4⟩⟩
  have h:=of_decide_eq_true h
  have r0:aW d.1 24=true:=by rw[bl];omega
  have r1:(true&&Nat.ble (276+Int.toNat d.1*1+1) 300)=true:=by rw[Bool.true_and,bP];omega
  have k:=i4 (Int.toNat d.1) (by omega)
  have hd:=hD (Int.toNat d.1) (by omega)
  rw[r0,aC,aSU _ _ (by omega) (by omega),bR,aC,r1,aC,av,hw]
  refine⟨⟨by show 0<=d.1+1;omega,by show d.1+1<=24;omega,i2,i3,λi hi=> ?_⟩,by show Int.toNat (24-(d.1+1))<_;omega⟩
  show(bif Nat.beq i (Int.toNat d.1) then d.2.2.1.2 (Int.toNat d.1) else d.2.2.1.2 i)=D i
  rw[EC]
  split
  ·rename_i e;rw[e,k]
  ·exact i4 i hi) 2000 d hd (by omega)
theorem aVH (b:Bool)(D:Nat->Int)(d:dP.B)(hd:0<=d.1∧d.1<=276∧d.2.1=b∧(∀p,p<276->d.2.2.1.1 p=0)∧∀i,i<24->d.2.2.1.2 i=D i):Ok (zy d) (λx:j8=>x.2.1=b∧(∀p,p<276->x.2.2.1.1 p=0)∧∀i,i<24->x.2.2.1.2 i=D i):=
 bd (s:=_) (λd:dP.B=>0<=d.1∧d.1<=276∧d.2.1=b∧(∀p,p<276->d.2.2.1.1 p=0)∧∀i,i<24->d.2.2.1.2 i=D i) (λd:dP.B=>Int.toNat (276-d.1)) (λx:j8=>x.2.1=b∧(∀p,p<276->x.2.2.1.1 p=0)∧∀i,i<24->x.2.2.1.2 i=D i) (λd hd=>by
  obtain⟨i0,i1,i2,i3,i4⟩:=hd
  have hw:wI (d.1+1)=d.1+1:=bf (by omega) (by omega)
  unfold zw
  dsimp only
  rw[aL]
  refine⟨λh=> ?_,λ_=>by rw[av];exact⟨i2,i3,i4⟩⟩
  have h:=of_decide_eq_true h
  have r0:aW d.1 276=true:=by rw[bl];omega
  have r1:Nat.ble (0+Int.toNat d.1*1+1) 276=true:=by rw[bP];omega
  have r2:Nat.ble (0+Int.toNat d.1*1+1) 300=true:=by rw[bP];omega
  rw[r0,r1,r2,i3 (Int.toNat d.1) (by omega),aC,aC,acR 0 _ _ _ (by decide) (by decide),bR,aC,Bool.true_and,aC,av,hw]
  refine⟨⟨by show 0<=d.1+1;omega,by show d.1+1<=276;omega,i2,λi hi=> ?_,i4⟩,by show Int.toNat (276-(d.1+1))<_;omega⟩
  show(bif Nat.beq i (Int.toNat d.1) then 0 else d.2.2.1.1 i)=0
  rw[EC]
  split
  ·rfl
  ·exact i3 i hi) 2000 d hd (by omega)
theorem aMv (U D:Nat->Int)(b:Bool)(hU:∀p,p<276->U p=0)(hD:∀i,i<24->1<=D i∧D i<=72057594037927936):Ok (eX U D b) (λr:Mh=>r.2=b∧(∀p,p<276->r.1.1 p=0)∧∀i,i<24->r.1.2 i=D i):=by
 unfold eX D6
 show PQ _ _
 refine aA (aVG b D hD _ ⟨Int.le_refl 0,(show(0:Int)<=24 by decide),rfl,hU,λ_ _=>rfl⟩) λx _ hx=> ?_
 refine aA (aVH b D _ ⟨Int.le_refl 0,(show(0:Int)<=276 by decide),hx⟩) λy _ hy=> ?_
 rw[av];exact hy
theorem aVI (k:Nat)(hk:k<24)(w d:dQ.B)(hU:∀p,p<276->w.2.2.2.1.1 p=0)(hd:0<=d.1.2.2.2∧d.1.2.2.2<=d.1.2.2.1∧d.1.2.2.1=(k:Int)+1∧d.1.1=k∧d.1.2.1=k∧d.2.1=w.2.1∧d.2.2.1=w.2.2.1∧d.2.2.2.1=w.2.2.2.1∧d.2.2.2.2.1=w.2.2.2.2.1∧∀m:Nat,m<24->d.2.2.2.2.2 m=if m=k∧(m:Int)<d.1.2.2.2 then 1073741824 else 0):Ok (zB d) (λx:j9=>x.1.1=k∧x.1.2.1=k∧x.2.1=w.2.1∧x.2.2.1=w.2.2.1∧x.2.2.2.1=w.2.2.2.1∧x.2.2.2.2.1=w.2.2.2.2.1∧∀m:Nat,m<24->x.2.2.2.2.2 m=if m=k then 1073741824 else 0):=
 bd (s:=_) (λd:dQ.B=>0<=d.1.2.2.2∧d.1.2.2.2<=d.1.2.2.1∧d.1.2.2.1=(k:Int)+1∧d.1.1=k∧d.1.2.1=k∧d.2.1=w.2.1∧d.2.2.1=w.2.2.1∧d.2.2.2.1=w.2.2.2.1∧d.2.2.2.2.1=w.2.2.2.2.1∧∀m:Nat,m<24->d.2.2.2.2.2 m=if m=k∧(m:Int)<d.1.2.2.2 then 1073741824 else 0) (λd:dQ.B=>Int.toNat (d.1.2.2.1-d.1.2.2.2)) (λx:j9=>x.1.1=k∧x.1.2.1=k∧x.2.1=w.2.1∧x.2.2.1=w.2.2.1∧x.2.2.2.1=w.2.2.2.1∧x.2.2.2.2.1=w.2.2.2.2.1∧∀m:Nat,m<24->x.2.2.2.2.2 m=if m=k then 1073741824 else 0) (λd hd=>by
  obtain⟨i0,i1,i2,i3,i3',i4,i5,i6,i7,i8⟩:=hd
  have hw:wI (d.1.2.2.2+1)=d.1.2.2.2+1:=bf (by omega) (by omega)
  unfold zA
  dsimp only
  rw[aL]
  refine⟨λh=> ?_,λh=> ?_⟩
  ·have h:=of_decide_eq_true h
   obtain⟨m,hm⟩:∃m:Nat,d.1.2.2.2=(m:Int):=⟨Int.toNat d.1.2.2.2,by omega⟩
   have r0:aW d.1.2.2.2 24=true:=by rw[bl];omega
   have r1:(true&&Nat.ble (0+Int.toNat d.1.2.2.2*1+1) 24)=true:=by rw[Bool.true_and,bP];omega
   rw[r0,r1,i6,i3,hm,aJ0 _ _ hU m k (by omega) hk,bR,aC,aC,av]
   rw[hm] at hw
   rw[hw]
   refine⟨⟨by show 0<=(m:Int)+1;omega,by show(m:Int)+1<=d.1.2.2.1;omega,i2,rfl,i3',i4,i5,rfl,i7,λj hj=> ?_⟩,by show Int.toNat (d.1.2.2.1-((m:Int)+1))<_;omega⟩
   show(bif Nat.beq j (Int.toNat (m:Int)) then(if m=k then 1073741824 else 0) else d.2.2.2.2.2 j)=if j=k∧(j:Int)<(m:Int)+1 then 1073741824 else 0
   rw[EC,i8 j hj,hm,Int.toNat_natCast]
   by_cases e1:j=m
   ·subst e1
    rw[if_pos rfl]
    by_cases e2:j=k
    ·rw[if_pos e2,if_pos ⟨e2,by omega⟩]
    ·rw[if_neg e2,if_neg (λh=>e2 h.1)]
   ·rw[if_neg e1]
    by_cases e2:j=k∧(j:Int)<(m:Int)
    ·rw[if_pos e2,if_pos ⟨e2.1,by omega⟩]
    ·rw[if_neg e2,if_neg (λh=>e2 ⟨h.1,by omega⟩)]
  ·have h:=of_decide_eq_false h
   rw[av]
   refine⟨i3,i3',i4,i5,i6,i7,λm hm=> ?_⟩
   show d.2.2.2.2.2 m=_
   rw[i8 m hm]
   by_cases e:m=k
   ·rw[if_pos e,if_pos ⟨e,by omega⟩]
   ·rw[if_neg e,if_neg (λh=>e h.1)]) 2000 d hd (by omega)
theorem aVJ (F:Nat->Int)(hF:∀i,i<24->F i=0∨F i=1073741824)(k:Nat)(hk:k<24)(w d:dR.B)(hf:∀i k,i<24->k<24->w.2.2.1 (i*24+k)=if i=k then F i else 0)(hc:∀m:Nat,m<24->w.2.2.2.2.2 m=if m=k then 1073741824 else 0)(hd:0<=d.1.2.2∧d.1.2.2<=24∧d.1.1=k∧d.1.2.1=k∧d.2.1=w.2.1∧d.2.2.1=w.2.2.1∧d.2.2.2.1=w.2.2.2.1∧d.2.2.2.2.2=w.2.2.2.2.2∧∀i j,i<24->j<48->d.2.2.2.2.1 (i*48+j)=if i=j∧(j<k∨(j=k∧(k:Int)<d.1.2.2)) then F i else 0):Ok (zD d) (λx:ka=>x.1.2.1=k∧x.2.1=w.2.1∧x.2.2.1=w.2.2.1∧x.2.2.2.1=w.2.2.2.1∧∀i j,i<24->j<48->x.2.2.2.2.1 (i*48+j)=if i=j∧j<k+1 then F i else 0):=
 bd (s:=_) (λd:dR.B=>0<=d.1.2.2∧d.1.2.2<=24∧d.1.1=k∧d.1.2.1=k∧d.2.1=w.2.1∧d.2.2.1=w.2.2.1∧d.2.2.2.1=w.2.2.2.1∧d.2.2.2.2.2=w.2.2.2.2.2∧∀i j,i<24->j<48->d.2.2.2.2.1 (i*48+j)=if i=j∧(j<k∨(j=k∧(k:Int)<d.1.2.2)) then F i else 0) (λd:dR.B=>Int.toNat (24-d.1.2.2)) (λx:ka=>x.1.2.1=k∧x.2.1=w.2.1∧x.2.2.1=w.2.2.1∧x.2.2.2.1=w.2.2.2.1∧∀i j,i<24->j<48->x.2.2.2.2.1 (i*48+j)=if i=j∧j<k+1 then F i else 0) (λd hd=>by
  obtain⟨i0,i1,i2,i3,i4,i5,i6,i7,i8⟩:=hd
  have hw:wI (d.1.2.2+1)=d.1.2.2+1:=bf (by omega) (by omega)
  unfold zC
  dsimp only
  rw[aL]
  refine⟨λh=> ?_,λh=> ?_⟩
  ·have h:=of_decide_eq_true h
   obtain⟨m,hm⟩:∃m:Nat,d.1.2.2=(m:Int):=⟨Int.toNat d.1.2.2,by omega⟩
   have aNz:m<24:=by omega
   have r0:aW d.1.2.2 24=true:=by rw[bl];omega
   have r1:aW d.1.1 48=true:=by rw[bl];omega
   have r2:(true&&Nat.ble (0+(Int.toNat d.1.2.2*48+Int.toNat d.1.1)*1+1) 1152)=true:=by rw[Bool.true_and,bP];omega
   have bF:∀j,j<24-> -1152921504606846976<=F j∧F j<=1152921504606846976:=λj hj=>by have:=hF j hj;omega
   have dot:bn 30 24 24 d.2.1 (λj=>d.2.2.1 (0+Int.toNat d.1.2.2*24+j)) d.2.2.2.2.2 false false=some (if m=k then F k else 0,d.2.1):=by
    have fj:∀j,j<24->d.2.2.1 (0+Int.toNat d.1.2.2*24+j)=if m=j then F m else 0:=λj hj=>by
     rw[i5,hm,Int.toNat_natCast,Nat.zero_add];exact hf m j aNz hj
    have gj:∀j,j<24->d.2.2.2.2.2 j=if j=k then 1073741824 else 0:=λj hj=>by rw[i7];exact hc j hj
    refine aCJ 24 k (by decide) hk _ _ _ _ _ _ (λj hj=> ?_) (λj hj=> ?_) (λj hj e=> ?_) ?_ ?_
    ·show -1152921504606846976<=d.2.2.1 (0+Int.toNat d.1.2.2*24+j)∧d.2.2.1 (0+Int.toNat d.1.2.2*24+j)<=1152921504606846976
     rw[fj j hj]
     have:=bF m aNz
     split<;>omega
    ·rw[gj j hj]
     split<;>omega
    ·show d.2.2.1 (0+Int.toNat d.1.2.2*24+j)*d.2.2.2.2.2 j=0
     rw[gj j hj,if_neg e,Int.mul_zero]
    ·show d.2.2.1 (0+Int.toNat d.1.2.2*24+k)*d.2.2.2.2.2 k=_
     rw[fj k hk,gj k hk,if_pos rfl]
     by_cases e:m=k
     ·subst e;rw[if_pos rfl]
     ·rw[if_neg e,if_neg e]
    ·have:=bF k hk
     split<;>omega
   rw[r0,aC,dot,bR,aC,r1,aC,r2,aC,av,hw]
   refine⟨⟨by show 0<=d.1.2.2+1;omega,by show d.1.2.2+1<=24;omega,i2,i3,i4,i5,i6,i7,λi j hi hj=> ?_⟩,by show Int.toNat (24-(d.1.2.2+1))<_;omega⟩
   show(bif Nat.beq (i*48+j) (Int.toNat d.1.2.2*48+Int.toNat d.1.1) then(if m=k then F k else 0) else d.2.2.2.2.1 (i*48+j))=if i=j∧(j<k∨(j=k∧(k:Int)<d.1.2.2+1)) then F i else 0
   rw[EC,i8 i j hi hj,hm,i2,Int.toNat_natCast,Int.toNat_natCast]
   by_cases e1:i*48+j=m*48+k
   ·have ei:i=m:=by omega
    have ej:j=k:=by omega
    subst ei
    subst ej
    rw[if_pos e1]
    by_cases e2:i=j
    ·subst e2;rw[if_pos rfl,if_pos ⟨rfl,Or.inr ⟨rfl,by omega⟩⟩]
    ·rw[if_neg e2,if_neg (λh=>e2 h.1)]
   ·rw[if_neg e1]
    by_cases e2:i=j∧(j<k∨(j=k∧(k:Int)<(m:Int)))
    ·rw[if_pos e2,if_pos (by omega)]
    ·rw[if_neg e2,if_neg (by omega)]
  ·have h:=of_decide_eq_false h
   rw[av]
   refine⟨i3,i4,i5,i6,λi j hi hj=> ?_⟩
   show d.2.2.2.2.1 (i*48+j)=_
   rw[i8 i j hi hj]
   by_cases e:i=j∧(j<k∨(j=k∧(k:Int)<d.1.2.2))
   ·rw[if_pos e,if_pos (by omega)]
   ·rw[if_neg e,if_neg (by omega)]) 2000 d hd (by omega)
theorem aVK (F:Nat->Int)(hF:∀i,i<24->F i=0∨F i=1073741824)(w d:dU.B)(hU:∀p,p<276->w.2.2.2.1.1 p=0)(hf:∀i k,i<24->k<24->w.2.2.1 (i*24+k)=if i=k then F i else 0)(hd:0<=d.1∧d.1<=24∧d.2.1=w.2.1∧d.2.2.1=w.2.2.1∧d.2.2.2.1=w.2.2.2.1∧∀i j,i<24->j<48->d.2.2.2.2 (i*48+j)=if i=j∧(j:Int)<d.1 then F i else 0):Ok (zH d) (λx:kd=>x.2.1=w.2.1∧x.2.2.1=w.2.2.1∧∀i j,i<24->j<48->x.2.2.2.2 (i*48+j)=if i=j∧j<24 then F i else 0):=
 bd (s:=_) (λd:dU.B=>0<=d.1∧d.1<=24∧d.2.1=w.2.1∧d.2.2.1=w.2.2.1∧d.2.2.2.1=w.2.2.2.1∧∀i j,i<24->j<48->d.2.2.2.2 (i*48+j)=if i=j∧(j:Int)<d.1 then F i else 0) (λd:dU.B=>Int.toNat (24-d.1)) (λx:kd=>x.2.1=w.2.1∧x.2.2.1=w.2.2.1∧∀i j,i<24->j<48->x.2.2.2.2 (i*48+j)=if i=j∧j<24 then F i else 0) (λd hd=>by
  obtain⟨i0,i1,i2,i3,i4,i5⟩:=hd
  unfold zG
  dsimp only
  rw[aL]
  refine⟨λh=> ?_,λh=> ?_⟩
  ·have h:=of_decide_eq_true h
   obtain⟨k,hk⟩:∃m:Nat,d.1=(m:Int):=⟨Int.toNat d.1,by omega⟩
   have aVc:k<24:=by omega
   have hw:wI (d.1+1)=(k:Int)+1:=by rw[hk];exact bf (by omega) (by omega)
   refine aA (aVI k aVc ((d.1,d.1,wI (d.1+1),0),d.2.1,d.2.2.1,d.2.2.2.1,d.2.2.2.2,λx=>0) _ (by show∀p,p<276->d.2.2.2.1.1 p=0;rw[i4];exact hU) ⟨Int.le_refl 0,by show 0<=wI (d.1+1);omega,hw,hk,hk,rfl,rfl,rfl,rfl,λm hm=>by show(0:Int)=_;rw[if_neg (by show ¬(m=k∧(m:Int)<0);omega)]⟩) λx _ hx=> ?_
   obtain⟨a0,a1,a2,a3,a4,a5,a6⟩:=hx
   have a2:x.2.1=d.2.1:=a2
   have a3:x.2.2.1=d.2.2.1:=a3
   have a4:x.2.2.2.1=d.2.2.2.1:=a4
   have a5:x.2.2.2.2.1=d.2.2.2.2:=a5
   refine aA (aVJ F hF k aVc ((x.1.1,x.1.2.1,0),x.2) _ (by show∀i k,i<24->k<24->x.2.2.1 (i*24+k)=_;rw[a3,i3];exact hf) a6 ⟨Int.le_refl 0,(show(0:Int)<=24 by decide),a0,a1,rfl,rfl,rfl,rfl,λi j hi hj=> ?_⟩) λy _ hy=> ?_
   ·show x.2.2.2.2.1 (i*48+j)=if i=j∧(j<k∨(j=k∧(k:Int)<0)) then F i else 0
    rw[a5,i5 i j hi hj]
    by_cases e:i=j∧(j:Int)<d.1
    ·rw[if_pos e,if_pos (by omega)]
    ·rw[if_neg e,if_neg (by omega)]
   obtain⟨b1,b2,b3,b4,b5⟩:=hy
   have b2:y.2.1=x.2.1:=b2
   have b3:y.2.2.1=x.2.2.1:=b3
   have b4:y.2.2.2.1=x.2.2.2.1:=b4
   have hw2:wI (y.1.2.1+1)=d.1+1:=by rw[b1,hk];exact bf (by omega) (by omega)
   rw[av,hw2]
   refine⟨⟨by show 0<=d.1+1;omega,by show d.1+1<=24;omega,b2.trans (a2.trans i2),b3.trans (a3.trans i3),b4.trans (a4.trans i4),λi j hi hj=> ?_⟩,by show Int.toNat (24-(d.1+1))<_;omega⟩
   show y.2.2.2.2.1 (i*48+j)=if i=j∧(j:Int)<d.1+1 then F i else 0
   rw[b5 i j hi hj]
   by_cases e:i=j∧j<k+1
   ·rw[if_pos e,if_pos (by omega)]
   ·rw[if_neg e,if_neg (by omega)]
  ·have h:=of_decide_eq_false h
   rw[av]
   refine⟨i2,i3,λi j hi hj=> ?_⟩
   show d.2.2.2.2 (i*48+j)=_
   rw[i5 i j hi hj]
   by_cases e:i=j∧j<24
   ·rw[if_pos e,if_pos (by omega)]
   ·rw[if_neg e,if_neg (by omega)]) 2000 d hd (by omega)
theorem aVL (F:Nat->Int)(b:Bool)(d:dS.B)(hd:0<=d.1∧d.1<=24∧d.2.1=b∧∀i k:Nat,i<24->k<48->d.2.2.2 (i*48+k)=if i=k then F i else if k=24+i∧(i:Int)<d.1 then 1073741824 else 0):Ok (zF d) (λx:kc=>x.2.1=b∧∀i k,i<24->k<48->x.2.2.2 (i*48+k)=if i=k then F i else if k=24+i then 1073741824 else 0):=
 bd (s:=_) (λd:dS.B=>0<=d.1∧d.1<=24∧d.2.1=b∧∀i k:Nat,i<24->k<48->d.2.2.2 (i*48+k)=if i=k then F i else if k=24+i∧(i:Int)<d.1 then 1073741824 else 0) (λd:dS.B=>Int.toNat (24-d.1)) (λx:kc=>x.2.1=b∧∀i k,i<24->k<48->x.2.2.2 (i*48+k)=if i=k then F i else if k=24+i then 1073741824 else 0) (λd hd=>by
  obtain⟨i0,i1,i2,i3⟩:=hd
  have hw:wI (d.1+1)=d.1+1:=bf (by omega) (by omega)
  unfold zE
  dsimp only
  rw[aL]
  refine⟨λh=> ?_,λh=> ?_⟩
  ·have h:=of_decide_eq_true h
   have h1:wI (24+d.1)=24+d.1:=eK (by omega) (by omega)
   have r0:aW d.1 24=true:=by rw[bl];omega
   have r1:aW (24+d.1) 48=true:=by rw[bl];omega
   have r2:(true&&Nat.ble (0+(Int.toNat d.1*48+Int.toNat (24+d.1))*1+1) 1152)=true:=by rw[Bool.true_and,bP];omega
   rw[h1,r0,r1,r2,hw,aC,aC,aC,av]
   refine⟨⟨by show 0<=d.1+1;omega,by show d.1+1<=24;omega,i2,λi k hi hk=> ?_⟩,by show Int.toNat (24-(d.1+1))<_;omega⟩
   show(bif Nat.beq (i*48+k) (Int.toNat d.1*48+Int.toNat (24+d.1)) then 1073741824 else d.2.2.2 (i*48+k))=if i=k then F i else if k=24+i∧(i:Int)<d.1+1 then 1073741824 else 0
   rw[EC,i3 i k hi hk]
   by_cases e1:i*48+k=Int.toNat d.1*48+Int.toNat (24+d.1)
   ·rw[if_pos e1,if_neg (by omega),if_pos (by omega)]
   ·rw[if_neg e1]
    by_cases e2:i=k
    ·rw[if_pos e2,if_pos e2]
    ·rw[if_neg e2,if_neg e2]
     by_cases e3:k=24+i∧(i:Int)<d.1
     ·rw[if_pos e3,if_pos (by omega)]
     ·rw[if_neg e3,if_neg (by omega)]
  ·have h:=of_decide_eq_false h
   rw[av]
   refine⟨i2,λi k hi hk=> ?_⟩
   show d.2.2.2 (i*48+k)=_
   rw[i3 i k hi hk]
   by_cases e2:i=k
   ·rw[if_pos e2,if_pos e2]
   ·rw[if_neg e2,if_neg e2]
    by_cases e3:k=24+i
    ·rw[if_pos e3,if_pos (by omega)]
    ·rw[if_neg e3,if_neg (by omega)]) 2000 d hd (by omega)
theorem aMw (F U D Fm:Nat->Int)(b:Bool)(hF:∀i,i<24->F i=0∨F i=1073741824)(hU:∀p,p<276->U p=0)(hf:∀i k,i<24->k<24->Fm (i*24+k)=if i=k then F i else 0):Ok (oM U D b Fm) (λr:Mm=>r.1=b∧∀i k,i<24->k<48->r.2 (i*48+k)=if i=k then F i else if k=24+i then 1073741824 else 0):=by
 unfold oM Ef
 show PQ _ _
 refine aA (aVK F hF (0,b,Fm,(U,D),λx=>0) _ hU hf ⟨Int.le_refl 0,(show(0:Int)<=24 by decide),rfl,rfl,rfl,λi j hi hj=>by show(0:Int)=_;rw[if_neg (by show ¬(i=j∧(j:Int)<0);omega)]⟩) λx _ hx=> ?_
 obtain⟨a1,a2,a3⟩:=hx
 refine aA (aVL F b _ ⟨Int.le_refl 0,(show(0:Int)<=24 by decide),a1,λi k hi hk=> ?_⟩) λy _ hy=> ?_
 ·show x.2.2.2.2 (i*48+k)=_
  rw[a3 i k hi hk]
  by_cases e:i=k
  ·rw[if_pos ⟨e,by omega⟩,if_pos e]
  ·rw[if_neg (λh=>e h.1),if_neg e,if_neg (by show ¬(k=24+i∧(i:Int)<0);omega)]
 ·rw[av];exact hy
end Go.Proofs.YtldgljclcgaibaaGreat
namespace Go.Proofs.YtldgljclcgaibaaGreat
open Go.Ab Go.Ab.Pg
theorem aXa (F:Nat->Int)(hF:∀i,i<24->F i=0∨F i=1073741824)(w d:dV.B)(hi:0<=w.1.1∧w.1.1<24)(hd:0<=d.1.2.2∧d.1.2.2<=24∧d.1.1=w.1.1∧d.1.2.1=w.1.2.1∧d.2.1=w.2.1∧d.2.2.1=w.2.2.1∧(∀i k,i<24->k<24->d.2.2.2.1 (i*24+k)=if i=k then F i else 0)∧d.2.2.2.2=w.2.2.2.2):Ok (zJ d) (λx:kg=>x.1.2.1=w.1.2.1∧x.2.1=w.2.1∧x.2.2.1=w.2.2.1∧(∀i k,i<24->k<24->x.2.2.2.1 (i*24+k)=if i=k then F i else 0)∧x.2.2.2.2=w.2.2.2.2):=
 bd (s:=_) (λd:dV.B=>0<=d.1.2.2∧d.1.2.2<=24∧d.1.1=w.1.1∧d.1.2.1=w.1.2.1∧d.2.1=w.2.1∧d.2.2.1=w.2.2.1∧(∀i k,i<24->k<24->d.2.2.2.1 (i*24+k)=if i=k then F i else 0)∧d.2.2.2.2=w.2.2.2.2) (λd:dV.B=>Int.toNat (24-d.1.2.2)) (λx:kg=>x.1.2.1=w.1.2.1∧x.2.1=w.2.1∧x.2.2.1=w.2.2.1∧(∀i k,i<24->k<24->x.2.2.2.1 (i*24+k)=if i=k then F i else 0)∧x.2.2.2.2=w.2.2.2.2) (λd hd=>by
  obtain⟨i0,i1,i2,i3,i4,i5,i6,i7⟩:=hd
  have hw:wI (d.1.2.2+1)=d.1.2.2+1:=bf (by omega) (by omega)
  unfold zI
  dsimp only
  rw[aL]
  refine⟨λh=> ?_,λh=>by rw[av];exact⟨i3,i4,i5,i6,i7⟩⟩
  have h:=of_decide_eq_true h
  have r0:aW d.1.1 24=true:=by rw[bl,i2];omega
  have r1:aW d.1.2.2 24=true:=by rw[bl];omega
  have r2:(true&&Nat.ble (0+(Int.toNat d.1.1*24+Int.toNat d.1.2.2)*1+1) 576)=true:=by rw[Bool.true_and,bP,i2];omega
  have v:=i6 (Int.toNat d.1.1) (Int.toNat d.1.2.2) (by rw[i2];omega) (by omega)
  have bF:=hF (Int.toNat d.1.1) (by rw[i2];omega)
  have s:aO (d.2.2.2.1 (Int.toNat d.1.1*24+Int.toNat d.1.2.2)) d.2.1=some (d.2.2.2.1 (Int.toNat d.1.1*24+Int.toNat d.1.2.2),d.2.1):=by
   have r: -1152921504606846976<=d.2.2.2.1 (Int.toNat d.1.1*24+Int.toNat d.1.2.2)∧d.2.2.2.1 (Int.toNat d.1.1*24+Int.toNat d.1.2.2)<=1152921504606846976:=by rw[v];split<;>omega
   rw[oz,Og r,GK r,Bool.or_false]
  rw[r0,r1,r2,aC,aC,s,bR,aC,aC,aC,av,hw]
  refine⟨⟨by show 0<=d.1.2.2+1;omega,by show d.1.2.2+1<=24;omega,i2,i3,i4,i5,λi k hi hk=> ?_,i7⟩,by show Int.toNat (24-(d.1.2.2+1))<_;omega⟩
  show(bif Nat.beq (i*24+k) (Int.toNat d.1.1*24+Int.toNat d.1.2.2) then d.2.2.2.1 (Int.toNat d.1.1*24+Int.toNat d.1.2.2) else d.2.2.2.1 (i*24+k))=_
  rw[EC]
  split
  ·rename_i e;rw[<-e];exact i6 i k hi hk
  ·exact i6 i k hi hk) 2000 d hd (by omega)
theorem aXb (F D q:Nat->Int)(b:Bool)(hF:∀i,i<24->F i=0∨F i=1073741824)(w d:dY.B)(hD:∀i,i<24->w.2.2.1.2 i=D i)(hq:∀i,i<24->w.2.2.2.2.1 i=q i∧0<=q i∧q i<=72057594037927936)(hd:0<=d.1∧d.1<=24∧d.2.1=b∧d.2.2.1=w.2.2.1∧(∀i k,i<24->k<24->d.2.2.2.1 (i*24+k)=if i=k then F i else 0)∧d.2.2.2.2.1=w.2.2.2.2.1∧d.2.2.2.2.2.1=w.2.2.2.2.2.1∧∀i:Nat,i<24->(i:Int)<d.1->d.2.2.2.2.2.2 i=D i∧d.2.2.2.2.2.2 (24+i)=q i):Ok (zP d) (λx:kl=>x.2.1=b∧x.2.2.1=w.2.2.1∧(∀i k,i<24->k<24->x.2.2.2.1 (i*24+k)=if i=k then F i else 0)∧x.2.2.2.2.2.1=w.2.2.2.2.2.1∧∀i:Nat,i<24->(i:Int)<24->x.2.2.2.2.2.2 i=D i∧x.2.2.2.2.2.2 (24+i)=q i):=
 bd (s:=_) (λd:dY.B=>0<=d.1∧d.1<=24∧d.2.1=b∧d.2.2.1=w.2.2.1∧(∀i k,i<24->k<24->d.2.2.2.1 (i*24+k)=if i=k then F i else 0)∧d.2.2.2.2.1=w.2.2.2.2.1∧d.2.2.2.2.2.1=w.2.2.2.2.2.1∧∀i:Nat,i<24->(i:Int)<d.1->d.2.2.2.2.2.2 i=D i∧d.2.2.2.2.2.2 (24+i)=q i) (λd:dY.B=>Int.toNat (24-d.1)) (λx:kl=>x.2.1=b∧x.2.2.1=w.2.2.1∧(∀i k,i<24->k<24->x.2.2.2.1 (i*24+k)=if i=k then F i else 0)∧x.2.2.2.2.2.1=w.2.2.2.2.2.1∧∀i:Nat,i<24->(i:Int)<24->x.2.2.2.2.2.2 i=D i∧x.2.2.2.2.2.2 (24+i)=q i) (λd hd=>by
  obtain⟨i0,i1,i2,i3,i4,i5,i6,i7⟩:=hd
  have hw:wI (d.1+1)=d.1+1:=bf (by omega) (by omega)
  unfold zO
  dsimp only
  rw[aL]
  refine⟨λh=> ?_,λh=> ?_⟩
  ·have h:=of_decide_eq_true h
   have h1:wI (24+d.1)=24+d.1:=eK (by omega) (by omega)
   have r0:aW d.1 24=true:=by rw[bl];omega
   have r1:aW d.1 48=true:=by rw[bl];omega
   have r2:(true&&Nat.ble (0+Int.toNat d.1*1+1) 48)=true:=by rw[Bool.true_and,bP];omega
   have r3:aW (24+d.1) 48=true:=by rw[bl];omega
   have r4:(true&&Nat.ble (0+Int.toNat (24+d.1)*1+1) 48)=true:=by rw[Bool.true_and,bP];omega
   obtain⟨m,hm⟩:∃m:Nat,d.1=(m:Int):=⟨Int.toNat d.1,by omega⟩
   have aNz:m<24:=by omega
   have vq:=hq m aNz
   have c:aX (d.2.2.2.2.1 (Int.toNat d.1)) 0 72057594037927936 d.2.1=some (q m,b):=by
    rw[i5,hm,Int.toNat_natCast,vq.1,i2];exact acR _ _ _ _ vq.2.1 vq.2.2
   rw[h1,r0,r1,r2,r3,r4,aC,aC,c,bR,aC,aC,aC,aC]
   refine aA (aXa F hF _ _ ⟨i0,h⟩ ⟨Int.le_refl 0,(show(0:Int)<=24 by decide),rfl,rfl,rfl,rfl,i4,rfl⟩) λx _ hx=> ?_
   obtain⟨a0,a1,a2,a3,a4⟩:=hx
   have a0:x.1.2.1=d.1:=a0
   have a1:x.2.1=b:=a1
   have a2:x.2.2.1=d.2.2.1:=a2
   rw[av,a0,hw]
   refine⟨⟨by show 0<=d.1+1;omega,by show d.1+1<=24;omega,a1,a2.trans i3,a3,(congrArg (λz=>z.1) a4).trans i5,(congrArg (λz=>z.2.1) a4).trans i6,λi hi hj=> ?_⟩,by show Int.toNat (24-(d.1+1))<_;omega⟩
   have a6:x.2.2.2.2.2.2=λj=>bif Nat.beq j (Int.toNat (24+d.1)) then q m else bif Nat.beq j (Int.toNat d.1) then d.2.2.1.2 (Int.toNat d.1) else d.2.2.2.2.2.2 j:=congrArg (λz=>z.2.2) a4
   show x.2.2.2.2.2.2 i=D i∧x.2.2.2.2.2.2 (24+i)=q i
   have hj:(i:Int)<d.1+1:=hj
   rw[a6]
   show(bif Nat.beq i (Int.toNat (24+d.1)) then q m else bif Nat.beq i (Int.toNat d.1) then d.2.2.1.2 (Int.toNat d.1) else d.2.2.2.2.2.2 i)=D i∧(bif Nat.beq (24+i) (Int.toNat (24+d.1)) then q m else bif Nat.beq (24+i) (Int.toNat d.1) then d.2.2.1.2 (Int.toNat d.1) else d.2.2.2.2.2.2 (24+i))=q i
   rw[azT,azT,azT,azT,if_neg (by omega:¬i=Int.toNat (24+d.1)),if_neg (by omega:¬24+i=Int.toNat d.1)]
   by_cases e:i=m
   ·subst e
    rw[if_pos (by omega:i=Int.toNat d.1),if_pos (by omega:24+i=Int.toNat (24+d.1)),hm,Int.toNat_natCast,i3]
    exact⟨hD i hi,rfl⟩
   ·rw[if_neg (by omega:¬i=Int.toNat d.1),if_neg (by omega:¬24+i=Int.toNat (24+d.1))]
    exact i7 i hi (by omega)
  ·have h:=of_decide_eq_false h
   rw[av]
   exact⟨i2,i3,i4,i6,λi hi hj=>i7 i hi (by omega)⟩) 2000 d hd (by omega)
def Ns (F D q:Nat->Int):Prop:=∀i,i<24->okV (D i)∧((F i=1073741824∧q i=0)∨(F i=0∧okV (q i)))
def kept (F D q:Nat->Int)(i:Nat):Int:=if F i=0 then q i else D i
theorem Ns.F {F D q:Nat->Int}(h:Ns F D q):∀i,i<24->F i=0∨F i=1073741824:=λi hi=>by
 rcases(h i hi).2 with a|a
 ·exact Or.inr a.1
 ·exact Or.inl a.1
theorem Ns.q {F D q:Nat->Int}(h:Ns F D q):∀i,i<24->0<=q i∧q i<=72057594037927936:=λi hi=>by
 rcases(h i hi).2 with a|a
 ·have:=a.2;omega
 ·have:=a.2.le;omega
theorem Ns.z {F D q:Nat->Int}(h:Ns F D q):∀i,i<24->¬F i=0->q i=0∧F i=1073741824:=λi hi n=>by
 rcases(h i hi).2 with a|a
 ·exact⟨a.2,a.1⟩
 ·exact absurd a.1 n
theorem Ns.k {F D q:Nat->Int}(h:Ns F D q):∀i,i<24->okV (kept F D q i):=λi hi=>by
 unfold kept
 rcases(h i hi).2 with a|a
 ·rw[if_neg (by omega)];exact(h i hi).1
 ·rw[if_pos a.1];exact a.2
def yv (F D q:Nat->Int)(j k:Nat):Int:=if k=j then(if F j=0 then 0 else D j) else if k=24+j then q j else 0
theorem aSW {F D q:Nat->Int}(h:Ns F D q)(j k:Nat)(hj:j<24): -1152921504606846976<=yv F D q j k∧yv F D q j k<=1152921504606846976:=by
 have:=(h j hj).1.le
 have:=h.q j hj
 unfold yv
 split
 ·split<;>omega
 ·split<;>omega
theorem aXc (F D q:Nat->Int)(hk:Ns F D q)(j:Nat)(hj:j<24)(w d:dW.B)(he:∀i:Nat,i<24->w.2.2.2.1 i=D i∧w.2.2.2.1 (24+i)=q i)(hW:(∀i k,i<24->k<48->w.2.2.2.2.1 (i*48+k)=if i=k then F i else if k=24+i then 1073741824 else 0))(hd:0<=d.1.2∧d.1.2<=48∧d.1.1=(j:Int)∧d.2.1=w.2.1∧d.2.2.1=w.2.2.1∧d.2.2.2.1=w.2.2.2.1∧d.2.2.2.2.1=w.2.2.2.2.1∧d.2.2.2.2.2.1=w.2.2.2.2.2.1∧∀k:Nat,k<48->(k:Int)<d.1.2->d.2.2.2.2.2.2 k=yv F D q j k):Ok (zL d) (λx:kh=>x.1.1=(j:Int)∧x.2.1=w.2.1∧x.2.2.1=w.2.2.1∧x.2.2.2.1=w.2.2.2.1∧x.2.2.2.2.1=w.2.2.2.2.1∧x.2.2.2.2.2.1=w.2.2.2.2.2.1∧∀k:Nat,k<48->x.2.2.2.2.2.2 k=yv F D q j k):=
 bd (s:=_) (λd:dW.B=>0<=d.1.2∧d.1.2<=48∧d.1.1=(j:Int)∧d.2.1=w.2.1∧d.2.2.1=w.2.2.1∧d.2.2.2.1=w.2.2.2.1∧d.2.2.2.2.1=w.2.2.2.2.1∧d.2.2.2.2.2.1=w.2.2.2.2.2.1∧∀k:Nat,k<48->(k:Int)<d.1.2->d.2.2.2.2.2.2 k=yv F D q j k) (λd:dW.B=>Int.toNat (48-d.1.2)) (λx:kh=>x.1.1=(j:Int)∧x.2.1=w.2.1∧x.2.2.1=w.2.2.1∧x.2.2.2.1=w.2.2.2.1∧x.2.2.2.2.1=w.2.2.2.2.1∧x.2.2.2.2.2.1=w.2.2.2.2.2.1∧∀k:Nat,k<48->x.2.2.2.2.2.2 k=yv F D q j k) (λd hd=>by
  obtain⟨i0,i1,i2,i3,i4,i5,i6,i7,i8⟩:=hd
  have hw:wI (d.1.2+1)=d.1.2+1:=bf (by omega) (by omega)
  unfold zK
  dsimp only
  rw[aL]
  refine⟨λh=> ?_,λh=> ?_⟩
  ·have h:=of_decide_eq_true h
   obtain⟨m,hm⟩:∃m:Nat,d.1.2=(m:Int):=⟨Int.toNat d.1.2,by omega⟩
   have aXd:m<48:=by omega
   have r0:aW d.1.1 24=true:=by rw[bl,i2];omega
   have r1:aW d.1.2 48=true:=by rw[bl];omega
   have r2:(true&&Nat.ble (0+Int.toNat d.1.2*1+1) 48)=true:=by rw[Bool.true_and,bP];omega
   have wv:d.2.2.2.2.1 (Int.toNat d.1.1*48+Int.toNat d.1.2)=if j=m then F j else if m=24+j then 1073741824 else 0:=by
    rw[i6,i2,hm,Int.toNat_natCast,Int.toNat_natCast];exact hW j m hj aXd
   have e3:d.2.2.2.1 (Int.toNat d.1.2)=w.2.2.2.1 m:=by rw[i5,hm,Int.toNat_natCast]
   have em: -1152921504606846976<=w.2.2.2.1 m∧w.2.2.2.1 m<=1152921504606846976:=by
    by_cases c:m<24
    ·have:=(he m c).1;have:=(hk m c).1.le;omega
    ·have e:=(he (m-24) (by omega)).2
     rw[(by omega:24+(m-24)=m)] at e
     have:=hk.q (m-24) (by omega);omega
   have mul:aT (d.2.2.2.2.1 (Int.toNat d.1.1*48+Int.toNat d.1.2)) (d.2.2.2.1 (Int.toNat d.1.2)) 30 d.2.1=some (yv F D q j m,d.2.1):=by
    have hF:=hk.F j hj
    by_cases c1:m=j
    ·have wv':d.2.2.2.2.1 (Int.toNat d.1.1*48+Int.toNat d.1.2)=F j:=by rw[wv,if_pos c1.symm]
     rw[wv',e3,aHx _ _ _ hF em]
     refine congrArg (λz=>some (z,d.2.1)) ?_
     unfold yv
     rw[if_pos c1,c1,(he j hj).1]
    ·by_cases c2:m=24+j
     ·have wv':d.2.2.2.2.1 (Int.toNat d.1.1*48+Int.toNat d.1.2)=1073741824:=by rw[wv,if_neg (λh=>c1 h.symm),if_pos c2]
      rw[wv',e3,aHx _ _ _ (Or.inr rfl) em,if_neg (by decide)]
      refine congrArg (λz=>some (z,d.2.1)) ?_
      unfold yv
      rw[if_neg c1,if_pos c2,c2,(he j hj).2]
     ·have wv':d.2.2.2.2.1 (Int.toNat d.1.1*48+Int.toNat d.1.2)=0:=by rw[wv,if_neg (λh=>c1 h.symm),if_neg c2]
      rw[wv',e3,aHx _ _ _ (Or.inl rfl) em,if_pos rfl]
      refine congrArg (λz=>some (z,d.2.1)) ?_
      unfold yv
      rw[if_neg c1,if_neg c2]
   rw[r0,r1,r2,aC,aC,aC,mul,bR,aC,aC,av,hw]
   refine⟨⟨by show 0<=d.1.2+1;omega,by show d.1.2+1<=48;omega,i2,i3,i4,i5,i6,i7,λk DT hkc=> ?_⟩,by show Int.toNat (48-(d.1.2+1))<_;omega⟩
   have hkc:(k:Int)<d.1.2+1:=hkc
   show(bif Nat.beq k (Int.toNat d.1.2) then yv F D q j m else d.2.2.2.2.2.2 k)=yv F D q j k
   rw[EC]
   split
   ·rename_i e
    have:k=m:=by omega
    rw[this]
   ·exact i8 k DT (by omega)
  ·have h:=of_decide_eq_false h
   rw[av]
   exact⟨i2,i3,i4,i5,i6,i7,λk DT=>i8 k DT (by omega)⟩) 2000 d hd (by omega)
theorem aXe (F:Nat->Int)(hF:∀i,i<24->F i=0∨F i=1073741824)(w d:dX.B)(h0:0<=w.1.1∧w.1.1<24)(h2:0<=w.1.2.2.1∧w.1.2.2.1<24)(hd:0<=d.1.2.2.2.2.2.2∧d.1.2.2.2.2.2.2<=48∧d.1.1=w.1.1∧d.1.2.1=w.1.2.1∧d.1.2.2.1=w.1.2.2.1∧d.1.2.2.2.1=0∧d.1.2.2.2.2.1=w.1.2.2.2.2.1∧d.1.2.2.2.2.2.1=w.1.2.2.2.2.2.1∧d.2.1=w.2.1∧d.2.2.1=w.2.2.1∧d.2.2.2.1=w.2.2.2.1∧(∀i k,i<24->k<48->d.2.2.2.2.1 (i*48+k)=if i=k then F i else if k=24+i then 1073741824 else 0)∧d.2.2.2.2.2=w.2.2.2.2.2):Ok (zN d) (λx:kj=>x.1.1=w.1.1∧x.1.2.1=w.1.2.1∧x.1.2.2.2.2.1=w.1.2.2.2.2.1∧x.1.2.2.2.2.2.1=w.1.2.2.2.2.2.1∧x.2.1=w.2.1∧x.2.2.1=w.2.2.1∧x.2.2.2.1=w.2.2.2.1∧(∀i k,i<24->k<48->x.2.2.2.2.1 (i*48+k)=if i=k then F i else if k=24+i then 1073741824 else 0)∧x.2.2.2.2.2=w.2.2.2.2.2):=
 bd (s:=_) (λd:dX.B=>0<=d.1.2.2.2.2.2.2∧d.1.2.2.2.2.2.2<=48∧d.1.1=w.1.1∧d.1.2.1=w.1.2.1∧d.1.2.2.1=w.1.2.2.1∧d.1.2.2.2.1=0∧d.1.2.2.2.2.1=w.1.2.2.2.2.1∧d.1.2.2.2.2.2.1=w.1.2.2.2.2.2.1∧d.2.1=w.2.1∧d.2.2.1=w.2.2.1∧d.2.2.2.1=w.2.2.2.1∧(∀i k,i<24->k<48->d.2.2.2.2.1 (i*48+k)=if i=k then F i else if k=24+i then 1073741824 else 0)∧d.2.2.2.2.2=w.2.2.2.2.2) (λd:dX.B=>Int.toNat (48-d.1.2.2.2.2.2.2)) (λx:kj=>x.1.1=w.1.1∧x.1.2.1=w.1.2.1∧x.1.2.2.2.2.1=w.1.2.2.2.2.1∧x.1.2.2.2.2.2.1=w.1.2.2.2.2.2.1∧x.2.1=w.2.1∧x.2.2.1=w.2.2.1∧x.2.2.2.1=w.2.2.2.1∧(∀i k,i<24->k<48->x.2.2.2.2.1 (i*48+k)=if i=k then F i else if k=24+i then 1073741824 else 0)∧x.2.2.2.2.2=w.2.2.2.2.2) (λd hd=>by
  obtain⟨i0,i1,j0,j1,j2,j3,j4,j5,i3,i4,i5,i6,i7⟩:=hd
  have hw:wI (d.1.2.2.2.2.2.2+1)=d.1.2.2.2.2.2.2+1:=bf (by omega) (by omega)
  unfold zM
  dsimp only
  rw[aL]
  refine⟨λh=> ?_,λh=>by rw[av];exact⟨j0,j1,j4,j5,i3,i4,i5,i6,i7⟩⟩
  have h:=of_decide_eq_true h
  have r0:aW d.1.2.2.1 24=true:=by rw[bl,j2];omega
  have r1:aW d.1.2.2.2.2.2.2 48=true:=by rw[bl];omega
  have r2:aW d.1.1 24=true:=by rw[bl,j0];omega
  have r3:(true&&Nat.ble (0+(Int.toNat d.1.2.2.1*48+Int.toNat d.1.2.2.2.2.2.2)*1+1) 1152)=true:=by rw[Bool.true_and,bP,j2];omega
  have bw:∀i,i<24-> -1152921504606846976<=d.2.2.2.2.1 (i*48+Int.toNat d.1.2.2.2.2.2.2)∧d.2.2.2.2.1 (i*48+Int.toNat d.1.2.2.2.2.2.2)<=1152921504606846976:=λi hi=>by
   rw[i6 i (Int.toNat d.1.2.2.2.2.2.2) hi (by omega)]
   have:=hF i hi
   split
   ·omega
   ·split<;>omega
  have mul:aT d.1.2.2.2.1 (d.2.2.2.2.1 (Int.toNat d.1.1*48+Int.toNat d.1.2.2.2.2.2.2)) 30 d.2.1=some (0,d.2.1):=by
   rw[j3,aHx 0 _ _ (Or.inl rfl) (bw (Int.toNat d.1.1) (by rw[j0];omega)),if_pos rfl]
  rw[r0,r1,r2,r3,aC,aC,aC,aC,mul,bR,sub_zero _ _ (bw (Int.toNat d.1.2.2.1) (by rw[j2];omega)),bR,aC,aC,aC,av,hw]
  refine⟨⟨by show 0<=d.1.2.2.2.2.2.2+1;omega,by show d.1.2.2.2.2.2.2+1<=48;omega,j0,j1,j2,j3,j4,j5,i3,i4,i5,λi k hi hk=> ?_,i7⟩,by show Int.toNat (48-(d.1.2.2.2.2.2.2+1))<_;omega⟩
  show(bif Nat.beq (i*48+k) (Int.toNat d.1.2.2.1*48+Int.toNat d.1.2.2.2.2.2.2) then d.2.2.2.2.1 (Int.toNat d.1.2.2.1*48+Int.toNat d.1.2.2.2.2.2.2) else d.2.2.2.2.1 (i*48+k))=_
  rw[EC]
  split
  ·rename_i e;rw[<-e];exact i6 i k hi hk
  ·exact i6 i k hi hk) 2000 d hd (by omega)
theorem aXf (F D q G:Nat->Int)(hk:Ns F D q)(j:Nat)(hj:j<24)(v:Int)(hv:okV v)(w d:dZ.B)(hd:0<=d.1.2.2.2∧d.1.2.2.2<=d.1.2.2.1∧d.1.2.2.1=(j:Int)∧d.1.1=(j:Int)∧d.1.2.1=v∧d.2.1=w.2.1∧d.2.2.1=w.2.2.1∧d.2.2.2.1=w.2.2.2.1∧(∀i k,i<24->k<48->d.2.2.2.2.1 (i*48+k)=if i=k then F i else if k=24+i then 1073741824 else 0)∧d.2.2.2.2.2.1=(λ_=>0,G)∧∀k:Nat,k<48->d.2.2.2.2.2.2 k=yv F D q j k):Ok (zR d) (λx:km=>x.1.1=(j:Int)∧x.2.1=w.2.1∧x.2.2.1=w.2.2.1∧x.2.2.2.1=w.2.2.2.1∧(∀i k,i<24->k<48->x.2.2.2.2.1 (i*48+k)=if i=k then F i else if k=24+i then 1073741824 else 0)∧x.2.2.2.2.2.1=(λ_=>0,G)):=
 bd (s:=_) (λd:dZ.B=>0<=d.1.2.2.2∧d.1.2.2.2<=d.1.2.2.1∧d.1.2.2.1=(j:Int)∧d.1.1=(j:Int)∧d.1.2.1=v∧d.2.1=w.2.1∧d.2.2.1=w.2.2.1∧d.2.2.2.1=w.2.2.2.1∧(∀i k,i<24->k<48->d.2.2.2.2.1 (i*48+k)=if i=k then F i else if k=24+i then 1073741824 else 0)∧d.2.2.2.2.2.1=(λ_=>0,G)∧∀k:Nat,k<48->d.2.2.2.2.2.2 k=yv F D q j k) (λd:dZ.B=>Int.toNat (d.1.2.2.1-d.1.2.2.2)) (λx:km=>x.1.1=(j:Int)∧x.2.1=w.2.1∧x.2.2.1=w.2.2.1∧x.2.2.2.1=w.2.2.2.1∧(∀i k,i<24->k<48->x.2.2.2.2.1 (i*48+k)=if i=k then F i else if k=24+i then 1073741824 else 0)∧x.2.2.2.2.2.1=(λ_=>0,G)) (λd hd=>by
  obtain⟨i0,i1,j2,j0,j1,i3,i4,i5,i6,i7,i8⟩:=hd
  have hw:wI (d.1.2.2.2+1)=d.1.2.2.2+1:=bf (by omega) (by omega)
  unfold zQ
  dsimp only
  rw[aL]
  refine⟨λh=> ?_,λh=>by rw[av];exact⟨j0,i3,i4,i5,i6,i7⟩⟩
  have h:=of_decide_eq_true h
  obtain⟨m,hm⟩:∃m:Nat,d.1.2.2.2=(m:Int):=⟨Int.toNat d.1.2.2.2,by omega⟩
  have hmj:m<j:=by omega
  have r0:aW d.1.2.2.2 24=true:=by rw[bl];omega
  have wv:∀k,k<48->d.2.2.2.2.1 (0+Int.toNat d.1.2.2.2*48+k)=if m=k then F m else if k=24+m then 1073741824 else 0:=λk hk=>by
   rw[hm,Int.toNat_natCast,Nat.zero_add];exact i6 m k (by omega) hk
  have dot:bn 30 48 48 d.2.1 (λk=>d.2.2.2.2.1 (0+Int.toNat d.1.2.2.2*48+k)) d.2.2.2.2.2.2 false false=some (0,d.2.1):=by
   have z:∀k,k<48->d.2.2.2.2.1 (0+Int.toNat d.1.2.2.2*48+k)*d.2.2.2.2.2.2 k=0:=λk DT=>by
    rw[wv k DT,i8 k DT]
    unfold yv
    by_cases c:m=k
    ·rw[if_neg (by omega:¬k=j),if_neg (by omega:¬k=24+j),Int.mul_zero]
    ·rw[if_neg c]
     by_cases c2:k=24+m
     ·rw[if_neg (by omega:¬k=j),if_neg (by omega:¬k=24+j),Int.mul_zero]
     ·rw[if_neg c2,Int.zero_mul]
   refine aCJ 48 0 (by decide) (by decide) _ _ _ _ _ _ (λk DT=> ?_) (λk DT=> ?_) (λk DT _=>z k DT) (by rw[z 0 (by decide)];rfl) (by decide)
   ·show -1152921504606846976<=d.2.2.2.2.1 (0+Int.toNat d.1.2.2.2*48+k)∧d.2.2.2.2.1 (0+Int.toNat d.1.2.2.2*48+k)<=1152921504606846976
    rw[wv k DT]
    have:=hk.F m (by omega)
    split
    ·omega
    ·split<;>omega
   ·rw[i8 k DT];exact aSW hk j k hj
  have st:wE d.2.2.2.2.2.1.1 d.2.2.2.2.2.1.2 d.1.2.2.2 d.1.1 0=some (λ_=>0,G):=by
   rw[i7,hm,j0];exact aDX G m j hmj hj
  rw[r0,aC,dot,bR,j1,div_zero v _ hv,bR,st,bR]
  refine aA (aXe F hk.F _ _ (by show 0<=d.1.1∧d.1.1<24;omega) (by show 0<=d.1.2.2.2∧d.1.2.2.2<24;omega) ⟨Int.le_refl 0,(show(0:Int)<=48 by decide),rfl,rfl,rfl,rfl,rfl,rfl,rfl,rfl,rfl,i6,rfl⟩) λx _ hx=> ?_
  obtain⟨a0,a1,a4,a5,b1,b2,b3,b4,b5⟩:=hx
  have a4:x.1.2.2.2.2.1=d.1.2.2.1:=a4
  have a5:x.1.2.2.2.2.2.1=d.1.2.2.2:=a5
  have a0:x.1.1=d.1.1:=a0
  rw[av,a5,hw]
  refine⟨⟨by show 0<=d.1.2.2.2+1;omega,by show d.1.2.2.2+1<=x.1.2.2.2.2.1;omega,by show x.1.2.2.2.2.1=(j:Int);omega,by show x.1.1=(j:Int);omega,a1,b1.trans i3,b2.trans i4,b3.trans i5,b4,congrArg (λz=>z.1) b5,λk DT=>(congrFun (congrArg (λz=>z.2) b5) k).trans (i8 k DT)⟩,by show Int.toNat (x.1.2.2.2.2.1-(d.1.2.2.2+1))<_;omega⟩) 2000 d hd (by omega)
theorem aXg (F D q:Nat->Int)(b:Bool)(e:Nat->Int)(hk:Ns F D q)(he:∀i:Nat,i<24->e i=D i∧e (24+i)=q i)(d:ec.B)(hd: -1<=d.1∧d.1<=23∧d.2.1=b∧d.2.2.2.1=e∧(∀i k,i<24->k<48->d.2.2.2.2.1 (i*48+k)=if i=k then F i else if k=24+i then 1073741824 else 0)∧d.2.2.2.2.2=(λ_=>0,λi:Nat=>if d.1<(i:Int)∧i<24 then kept F D q i else 0)):Ok (zU d) (λx:kn=>x.2.1=b∧x.2.2.2.2.2=(λ_=>0,λi=>if i<24 then kept F D q i else 0)):=
 bd (s:=_) (λd:ec.B=> -1<=d.1∧d.1<=23∧d.2.1=b∧d.2.2.2.1=e∧(∀i k,i<24->k<48->d.2.2.2.2.1 (i*48+k)=if i=k then F i else if k=24+i then 1073741824 else 0)∧d.2.2.2.2.2=(λ_=>0,λi:Nat=>if d.1<(i:Int)∧i<24 then kept F D q i else 0)) (λd:ec.B=>Int.toNat (d.1+1)) (λx:kn=>x.2.1=b∧x.2.2.2.2.2=(λ_=>0,λi=>if i<24 then kept F D q i else 0)) (λd hd=>by
  obtain⟨i0,i1,i2,i3,i4,i5⟩:=hd
  unfold zT
  dsimp only
  rw[aL]
  refine⟨λh=> ?_,λh=> ?_⟩
  ·have h:=of_decide_eq_true h
   obtain⟨j,hj⟩:∃m:Nat,d.1=(m:Int):=⟨Int.toNat d.1,by omega⟩
   have ayv:j<24:=by omega
   refine aA (aXc F D q hk j ayv ((d.1,0),d.2.1,d.2.2.1,d.2.2.2.1,d.2.2.2.2.1,d.2.2.2.2.2,λx=>0) _ (by show∀i:Nat,i<24->d.2.2.2.1 i=D i∧d.2.2.2.1 (24+i)=q i;rw[i3];exact he) i4 ⟨Int.le_refl 0,(show(0:Int)<=48 by decide),hj,rfl,rfl,rfl,rfl,rfl,λk _ hk0=>absurd hk0 (by show ¬(k:Int)<0;omega)⟩) λx _ hx=> ?_
   obtain⟨a0,a1,a2,a3,a4,a5,a6⟩:=hx
   have a1:x.2.1=d.2.1:=a1
   have a4:x.2.2.2.2.1=d.2.2.2.2.1:=a4
   have a3:x.2.2.2.1=d.2.2.2.1:=a3
   have a5:x.2.2.2.2.2.1=d.2.2.2.2.2:=a5
   have r0:aW x.1.1 24=true:=by rw[bl,a0];omega
   have r1:(true&&Nat.ble (276+Int.toNat x.1.1*1+1) 300)=true:=by rw[Bool.true_and,bP,a0];omega
   have wv:∀k,k<48->x.2.2.2.2.1 (0+Int.toNat x.1.1*48+k)=if j=k then F j else if k=24+j then 1073741824 else 0:=λk DT=>by
    rw[a4,a0,Int.toNat_natCast,Nat.zero_add];exact i4 j k ayv DT
   have K:=(hk j ayv).1.le
   have kp:=(hk.k j ayv).le
   have kz:=hk.z j ayv
   have dot:bn 30 48 48 x.2.1 (λk=>x.2.2.2.2.1 (0+Int.toNat x.1.1*48+k)) x.2.2.2.2.2.2 false false=some (kept F D q j,x.2.1):=by
    refine aCJ 48 (if F j=0 then 24+j else j) (by decide) (by split<;>omega) _ _ _ _ _ _ (λk DT=> ?_) (λk DT=> ?_) (λk DT kV=> ?_) ?_ (by omega)
    ·show -1152921504606846976<=x.2.2.2.2.1 (0+Int.toNat x.1.1*48+k)∧x.2.2.2.2.1 (0+Int.toNat x.1.1*48+k)<=1152921504606846976
     rw[wv k DT]
     split
     ·omega
     ·split<;>omega
    ·rw[a6 k DT];exact aSW hk j k ayv
    ·show x.2.2.2.2.1 (0+Int.toNat x.1.1*48+k)*x.2.2.2.2.2.2 k=0
     rw[wv k DT,a6 k DT]
     unfold yv
     by_cases c:k=j
     ·subst c
      by_cases f0:F k=0
      ·rw[if_pos rfl,f0,Int.zero_mul]
      ·rw[if_neg f0] at kV;exact absurd rfl kV
     ·rw[if_neg (λh=>c h.symm),if_neg c]
      by_cases c2:k=24+j
      ·by_cases f0:F j=0
       ·rw[if_pos f0] at kV;exact absurd c2 kV
       ·rw[if_pos c2,if_pos c2]
        rw[(kz f0).1,Int.mul_zero]
      ·rw[if_neg c2,if_neg c2,Int.zero_mul]
    ·show x.2.2.2.2.1 (0+Int.toNat x.1.1*48+(if F j=0 then 24+j else j))*x.2.2.2.2.2.2 (if F j=0 then 24+j else j)=kept F D q j*1073741824
     rw[wv _ (by split<;>omega),a6 _ (by split<;>omega)]
     unfold yv kept
     by_cases f0:F j=0
     ·rw[if_pos f0,if_pos f0,if_neg (by omega:¬j=24+j),if_pos rfl,if_neg (by omega:¬24+j=j),if_pos rfl,Int.mul_comm,if_pos f0]
     ·rw[if_neg f0,if_neg f0,if_pos rfl,if_pos rfl,(kz f0).2,Int.mul_comm,if_neg (by decide)]
   rw[r0,aC,dot,bR,acR _ _ _ _ kp.1 kp.2,bR,aC,r1,aC]
   refine aA (aXf F D q (λi:Nat=>if d.1-1<(i:Int)∧i<24 then kept F D q i else 0) hk j ayv (kept F D q j) (hk.k j ayv) ((x.1.1,kept F D q j,x.1.1,0),x.2.1,x.2.2.1,x.2.2.2.1,x.2.2.2.2.1,(x.2.2.2.2.2.1.1,λi=>bif Nat.beq i (Int.toNat x.1.1) then kept F D q j else x.2.2.2.2.2.1.2 i),x.2.2.2.2.2.2) _ ⟨Int.le_refl 0,by show 0<=x.1.1;omega,a0,a0,rfl,rfl,rfl,rfl,by show∀i k,i<24->k<48->x.2.2.2.2.1 (i*48+k)=_;rw[a4];exact i4,?_,a6⟩) λy _ hy=> ?_
   ·refine Prod.ext (by show x.2.2.2.2.2.1.1=_;rw[a5,i5]) (funext λi=> ?_)
    show(bif Nat.beq i (Int.toNat x.1.1) then kept F D q j else x.2.2.2.2.2.1.2 i)=if d.1-1<(i:Int)∧i<24 then kept F D q i else 0
    rw[EC,a0,a5,i5,Int.toNat_natCast]
    show(if i=j then kept F D q j else if d.1<(i:Int)∧i<24 then kept F D q i else 0)=_
    by_cases c:i=j
    ·subst c;rw[if_pos rfl,if_pos (by omega)]
    ·rw[if_neg c]
     by_cases c2:d.1<(i:Int)∧i<24
     ·rw[if_pos c2,if_pos (by omega)]
     ·rw[if_neg c2,if_neg (by omega)]
   obtain⟨b0,b1,b2,b3,b4,b5⟩:=hy
   have b1:y.2.1=x.2.1:=b1
   have b3:y.2.2.2.1=x.2.2.2.1:=b3
   have hw:wI (y.1.1-1)=d.1-1:=by rw[b0,<-hj];exact eK (by omega) (by omega)
   rw[av,hw]
   exact⟨⟨by show -1<=d.1-1;omega,by show d.1-1<=23;omega,b1.trans (a1.trans i2),b3.trans (a3.trans i3),b4,b5⟩,by show Int.toNat (d.1-1+1)<_;omega⟩
  ·have h:=of_decide_eq_false h
   rw[av]
   refine⟨i2,i5.trans (Prod.ext rfl (funext λi=> ?_))⟩
   show(if d.1<(i:Int)∧i<24 then kept F D q i else 0)=if i<24 then kept F D q i else 0
   by_cases c:i<24
   ·rw[if_pos c,if_pos (by omega)]
   ·rw[if_neg c,if_neg (by omega)]) 2000 d hd (by omega)
theorem aMx (F U D Fm Q q:Nat->Int)(b:Bool)(hk:Ns F D q)(hU:∀p,p<276->U p=0)(hf:(∀i k,i<24->k<24->Fm (i*24+k)=if i=k then F i else 0))(hq:∀i,i<24->Q i=q i):jk U D Fm Q b=some ((λ_=>0,λi=>if i<24 then kept F D q i else 0),b):=by
 have h:Ok (jk U D Fm Q b) (λr:Mu=>r=((λ_=>0,λi=>if i<24 then kept F D q i else 0),b)):=by
  unfold jk Ej
  show PQ _ _
  refine aA (aMv U D b hU (λi hi=>(hk i hi).1.le)) λc _ hc=> ?_
  obtain⟨c0,c1,c2⟩:=hc
  refine aA (aXb F D q c.2 hk.F (0,c.2,c.1,Fm,Q,(λx=>0,λx=>0),λx=>0) _ c2 (λi hi=>⟨hq i hi,hk.q i hi⟩) ⟨Int.le_refl 0,(show(0:Int)<=24 by decide),rfl,rfl,hf,rfl,rfl,λi _ hi=>absurd hi (by show ¬(i:Int)<0;omega)⟩) λx _ hx=> ?_
  obtain⟨a1,a2,a3,a4,a5⟩:=hx
  have a2:x.2.2.1=c.1:=a2
  refine aA (aMw F _ _ x.2.2.2.1 x.2.1 hk.F (by rw[a2];exact c1) a3) λw _ hw=> ?_
  refine aA (aXg F D q b x.2.2.2.2.2.2 hk (λi hi=>a5 i hi (by omega)) _ ⟨(show(-1:Int)<=23 by decide),(show(23:Int)<=23 by decide),hw.1.trans (a1.trans c0),rfl,hw.2,?_⟩) λy _ hy=> ?_
  ·refine Prod.ext rfl (funext λi=> ?_)
   show(0:Int)=if (23:Int)<(i:Int)∧i<24 then kept F D q i else 0
   rw[if_neg (by omega)]
  ·rw[av]
   exact Prod.ext hy.2 hy.1
 obtain⟨r,h1,h2⟩:=h
 rw[h1,h2]
theorem aXh (d:eL.B)(hd:0<=d.1∧d.1<=24∧∀i k:Nat,i<24->k<24->d.2.2 (i*24+k)=if i=k∧(i:Int)<d.1 then 1073741824 else 0):Ok (B9 d) (λx:lr=>∀i k:Nat,i<24->k<24->x.2.2 (i*24+k)=if i=k then 1073741824 else 0):=
 bd (s:=_) (λd:eL.B=>0<=d.1∧d.1<=24∧∀i k:Nat,i<24->k<24->d.2.2 (i*24+k)=if i=k∧(i:Int)<d.1 then 1073741824 else 0) (λd:eL.B=>Int.toNat (24-d.1)) (λx:lr=>∀i k:Nat,i<24->k<24->x.2.2 (i*24+k)=if i=k then 1073741824 else 0) (λd hd=>by
  obtain⟨i0,i1,i2⟩:=hd
  have hw:wI (d.1+1)=d.1+1:=bf (by omega) (by omega)
  unfold B8
  dsimp only
  rw[aL]
  refine⟨λh=> ?_,λh=> ?_⟩
  ·have h:=of_decide_eq_true h
   have r0:aW d.1 24=true:=by rw[bl];omega
   have r1:(true&&Nat.ble (0+(Int.toNat d.1*24+Int.toNat d.1)*1+1) 576)=true:=by rw[Bool.true_and,bP];omega
   rw[r0,r1,aC,aC,aC,av,hw]
   refine⟨⟨by show 0<=d.1+1;omega,by show d.1+1<=24;omega,λi k hi hk=> ?_⟩,by show Int.toNat (24-(d.1+1))<_;omega⟩
   show(bif Nat.beq (i*24+k) (Int.toNat d.1*24+Int.toNat d.1) then 1073741824 else d.2.2 (i*24+k))=if i=k∧(i:Int)<d.1+1 then 1073741824 else 0
   rw[EC,i2 i k hi hk]
   by_cases e:i*24+k=Int.toNat d.1*24+Int.toNat d.1
   ·rw[if_pos e,if_pos (by omega)]
   ·rw[if_neg e]
    by_cases e2:i=k∧(i:Int)<d.1
    ·rw[if_pos e2,if_pos (by omega)]
    ·rw[if_neg e2,if_neg (by omega)]
  ·have h:=of_decide_eq_false h
   rw[av]
   intro i k hi hk
   show d.2.2 (i*24+k)=_
   rw[i2 i k hi hk]
   by_cases e:i=k
   ·rw[if_pos e,if_pos (by omega)]
   ·rw[if_neg e,if_neg (by omega)]) 2000 d hd (by omega)
theorem aOU:Ok mf (λr:AP=>∀i k:Nat,i<24->k<24->r (i*24+k)=if i=k then 1073741824 else 0):=by
 unfold mf G5
 show PQ _ _
 refine aA (aXh _ ⟨Int.le_refl 0,(show(0:Int)<=24 by decide),λi k hi hk=>by show(0:Int)=_;rw[if_neg (by show ¬(i=k∧(i:Int)<0);omega)]⟩) λx _ hx=> ?_
 rw[av];exact hx
theorem aXi (w d:fe.B)(hv:∀j:Nat,j<4->okV (w.2.2.1 j))(hd:0<=d.1.2.2.2∧d.1.2.2.2<=4∧d.1.1=0∧d.1.2.1.1=4∧d.1.2.2.1=4∧d.2.1=w.2.1∧d.2.2.1=w.2.2.1∧d.2.2.2.1=w.2.2.2.1∧(∀i k:Nat,i<24->k<24->d.2.2.2.2.2.1 (i*24+k)=if i=k∧¬(i:Int)<d.1.2.2.2 then 1073741824 else 0)∧∀i:Nat,i<24->d.2.2.2.2.2.2 i=if (i:Int)<d.1.2.2.2 then w.2.2.1 i else 0):Ok (El d) (λx:mI=>x.2.1=w.2.1∧x.2.2.2.1=w.2.2.2.1∧(∀i k:Nat,i<24->k<24->x.2.2.2.2.2.1 (i*24+k)=if i=k∧¬i<4 then 1073741824 else 0)∧∀i:Nat,i<24->x.2.2.2.2.2.2 i=if i<4 then w.2.2.1 i else 0):=
 bd (s:=_) (λd:fe.B=>0<=d.1.2.2.2∧d.1.2.2.2<=4∧d.1.1=0∧d.1.2.1.1=4∧d.1.2.2.1=4∧d.2.1=w.2.1∧d.2.2.1=w.2.2.1∧d.2.2.2.1=w.2.2.2.1∧(∀i k:Nat,i<24->k<24->d.2.2.2.2.2.1 (i*24+k)=if i=k∧¬(i:Int)<d.1.2.2.2 then 1073741824 else 0)∧∀i:Nat,i<24->d.2.2.2.2.2.2 i=if (i:Int)<d.1.2.2.2 then w.2.2.1 i else 0) (λd:fe.B=>Int.toNat (4-d.1.2.2.2)) (λx:mI=>x.2.1=w.2.1∧x.2.2.2.1=w.2.2.2.1∧(∀i k:Nat,i<24->k<24->x.2.2.2.2.2.1 (i*24+k)=if i=k∧¬i<4 then 1073741824 else 0)∧∀i:Nat,i<24->x.2.2.2.2.2.2 i=if i<4 then w.2.2.1 i else 0) (λd hd=>by
  obtain⟨i0,i1,i2,i3,i4,i5,i6,i7,i8,i9⟩:=hd
  have hw:wI (d.1.2.2.2+1)=d.1.2.2.2+1:=bf (by omega) (by omega)
  have hy:wI (d.1.1+d.1.2.2.2)=d.1.2.2.2:=by rw[i2,Int.zero_add];exact eK (by omega) (by omega)
  unfold Ek
  dsimp only
  rw[aL]
  refine⟨λh=> ?_,λh=> ?_⟩
  ·have h:=of_decide_eq_true h
   have r0:aW d.1.2.2.2 d.1.2.1.1=true:=by rw[bl,i3];omega
   have r1:aW d.1.2.2.2 24=true:=by rw[bl];omega
   have r2:(true&&Nat.ble (0+(Int.toNat d.1.2.2.2*24+Int.toNat d.1.2.2.2)*1+1) 576)=true:=by rw[Bool.true_and,bP];omega
   have r3:(true&&Nat.ble (0+Int.toNat d.1.2.2.2*1+1) 24)=true:=by rw[Bool.true_and,bP];omega
   have v:=(hv (Int.toNat d.1.2.2.2) (by omega)).le
   rw[<-i6] at v
   rw[hy,r0,aC,aUb _ i0 (by omega),bR,aC,aSV _ _ v.1 v.2,bR,r1,r2,r3,aC,aC,aC,aC,aC,av,hw]
   refine⟨⟨by show 0<=d.1.2.2.2+1;omega,by show d.1.2.2.2+1<=4;omega,i2,i3,i4,i5,i6,i7,λi k hi hk=> ?_,λi hi=> ?_⟩,by show Int.toNat (4-(d.1.2.2.2+1))<_;omega⟩
   ·show(bif Nat.beq (i*24+k) (Int.toNat d.1.2.2.2*24+Int.toNat d.1.2.2.2) then 0 else d.2.2.2.2.2.1 (i*24+k))=if i=k∧¬(i:Int)<d.1.2.2.2+1 then 1073741824 else 0
    rw[EC,i8 i k hi hk]
    by_cases e:i*24+k=Int.toNat d.1.2.2.2*24+Int.toNat d.1.2.2.2
    ·rw[if_pos e,if_neg (by omega)]
    ·rw[if_neg e]
     by_cases e2:i=k∧¬(i:Int)<d.1.2.2.2
     ·rw[if_pos e2,if_pos (by omega)]
     ·rw[if_neg e2,if_neg (by omega)]
   ·show(bif Nat.beq i (Int.toNat d.1.2.2.2) then d.2.2.1 (Int.toNat d.1.2.2.2) else d.2.2.2.2.2.2 i)=if (i:Int)<d.1.2.2.2+1 then w.2.2.1 i else 0
    rw[EC,i9 i hi,i6]
    by_cases e:i=Int.toNat d.1.2.2.2
    ·rw[if_pos e,if_pos (by omega),e]
    ·rw[if_neg e]
     by_cases e2:(i:Int)<d.1.2.2.2
     ·rw[if_pos e2,if_pos (by omega)]
     ·rw[if_neg e2,if_neg (by omega)]
  ·have h:=of_decide_eq_false h
   rw[av]
   refine⟨i5,i7,λi k hi hk=> ?_,λi hi=> ?_⟩
   ·show d.2.2.2.2.2.1 (i*24+k)=_
    rw[i8 i k hi hk]
    by_cases e:i=k∧¬i<4
    ·rw[if_pos e,if_pos (by omega)]
    ·rw[if_neg e,if_neg (by omega)]
   ·show d.2.2.2.2.2.2 i=_
    rw[i9 i hi]
    by_cases e:i<4
    ·rw[if_pos e,if_pos (by omega)]
    ·rw[if_neg e,if_neg (by omega)]) 2000 d hd (by omega)
theorem aJ1 (U D V:Nat->Int)(b w:Bool)(hU:∀p,p<276->U p=0)(hD:∀i,i<24->okV (D i))(hV:∀j,j<4->okV (V j)):
  cN U D 0 4 b V w=some ((λ_=>0,λi=>if i<24 then(if i<4 then V i else D i) else 0),b):=by
 have h:Ok (cN U D 0 4 b V w) (λr:UY=>r=((λ_=>0,λi=>if i<24 then(if i<4 then V i else D i) else 0),b)):=by
  unfold cN J9
  show PQ _ _
  refine aA aOU λm _ hm=> ?_
  rw[aR,aC]
  refine aA (aXi ((0,(4,w),Int.ofNat 4,0),b,V,(U,D),(λx=>0,λx=>0),m,λx=>0) _ hV ⟨Int.le_refl 0,(show(0:Int)<=4 by decide),rfl,rfl,rfl,rfl,rfl,rfl,λi k hi hk=> ?_,λi hi=> ?_⟩) λx _ hx=> ?_
  ·show m (i*24+k)=if i=k∧¬(i:Int)<0 then 1073741824 else 0
   rw[hm i k hi hk]
   by_cases e:i=k
   ·rw[if_pos e,if_pos ⟨e,by omega⟩]
   ·rw[if_neg e,if_neg (λh=>e h.1)]
  ·show(0:Int)=if (i:Int)<0 then V i else 0
   rw[if_neg (by omega)]
  obtain⟨a1,a3,a5,a6⟩:=hx
  have a1:x.2.1=b:=a1
  have a3:x.2.2.2.1=(U,D):=a3
  have s:=aMx (λi=>if i<4 then 0 else 1073741824) U D x.2.2.2.2.2.1 x.2.2.2.2.2.2 (λi=>if i<4 then V i else 0) b (λi hi=>⟨hD i hi,by
    show((if i<4 then(0:Int) else 1073741824)=1073741824∧(if i<4 then V i else 0)=0)∨((if i<4 then(0:Int) else 1073741824)=0∧okV (if i<4 then V i else 0))
    by_cases c:i<4
    ·rw[if_pos c,if_pos c];exact Or.inr ⟨rfl,hV i c⟩
    ·rw[if_neg c,if_neg c];exact Or.inl ⟨rfl,rfl⟩⟩) hU (λi k hi hk=>by
    rw[a5 i k hi hk]
    by_cases c:i=k
    ·subst c
     by_cases c2:i<4
     ·rw[if_neg (λh=>h.2 c2),if_pos rfl,if_pos c2]
     ·rw[if_pos ⟨rfl,c2⟩,if_pos rfl,if_neg c2]
    ·rw[if_neg (λh=>c h.1),if_neg c]) a6
  rw[a3,a1,s,bR,av]
  refine Prod.ext (Prod.ext rfl (funext λi=> ?_)) rfl
  show(if i<24 then kept _ D _ i else 0)=if i<24 then(if i<4 then V i else D i) else 0
  unfold kept
  by_cases c:i<4
  ·simp[c]
  ·simp[c]
 obtain⟨r,h1,h2⟩:=h
 rw[h1,h2]
end Go.Proofs.YtldgljclcgaibaaGreat
namespace Go.Proofs.YtldgljclcgaibaaGreat
open Go.Ab Go.Ab.Pg
noncomputable section
def allM:Nat->(Nat->Bool)->Bool
 |0,_=>true
 |n+1,f=>allM n f&&f n
theorem atY {f:Nat->Bool}:∀n,allM n f=true->∀i,i<n->f i=true
 |0,_,i,hi=>by omega
 |n+1,h,i,hi=>by
  have h:(allM n f&&f n)=true:=h
  rw[Bool.and_eq_true] at h
  by_cases e:i=n
  ·rw[e];exact h.2
  ·exact atY n h.1 i (by omega)
def isV (d:Int):Bool:=decide (d=17592186044416)||decide (d=68719476736)||decide (d=67108864)||decide (d=4294967296)||decide (d=17179869184)
theorem aNA {d:Int}(h:isV d=true):okV d:=by
 unfold isV at h
 simp only[Bool.or_eq_true,decide_eq_true_eq] at h
 unfold okV
 omega
def aSX (U D:Nat->Int)(a:Int)(n:Nat)(V:Nat->Int):Bool:=
 Nat.beq n 4&&decide (a=0)&&allM 276 (λp=>decide (U p=0))&&allM 24 (λi=>isV (D i))&&allM 4 (λi=>isV (V i))
def rsQ:fk:=λU D a n b V w=>bif aSX U D a n V then some ((λ_=>0,λi=>if i<24 then(if i<4 then V i else D i) else 0),b) else cN U D a n b V w
theorem aUd:cN=rsQ:=by
 funext U D a n b V w
 unfold rsQ
 cases h:aSX U D a n V
 ·rfl
 ·unfold aSX at h
  simp only[Bool.and_eq_true,decide_eq_true_eq] at h
  obtain⟨⟨⟨⟨h0,h1⟩,h2⟩,h3⟩,h4⟩:=h
  have h0:=Nat.eq_of_beq_eq_true h0
  subst h0
  subst h1
  refine aJ1 U D V b w (λp hp=>of_decide_eq_true (atY _ h2 p hp)) (λi hi=>aNA (atY _ h3 i hi)) (λi hi=>aNA (atY _ h4 i hi))
def aSY (g:fk)(x:nT.B):Option rz:=(xB nX jj aT jq II fK g eO uw x).val
def aUe (g:fk)(x:oX.B):Option um:=(Az (aSY g) IX sJ qA x).val
def aSZ (g:fk):dy.B->Option gY:=bA (rB (aUe g)) 2000
def aS0 (g:fk)(d:gu.B):Option jo:=(rC (aSZ g) d).val
def aVM (g:fk)(x:gr.B):Option jO:=(nL bH eW (aS0 g) x).val
def aJ2 (g:fk):o7.B->Option Bi:=bA (Ry AD (aVM g)) 2000
def avX (g:fk)(x:GJ.B):Option Oe:=(aaX xj (aJ2 g) x).val
theorem aHy:apf=avX rsQ:=by
 rw[<-aUd];rfl
end
end Go.Proofs.YtldgljclcgaibaaGreat
noncomputable section
namespace Go.Proofs.YtldgljclcgaibaaGreat
open Go.Ab Go.Ab.Pg Go.Ab.Rq
def ayw:=qa (pl (cl xF nil) nil)
def afD:=qe BB
abbrev ayx:=afD.B
abbrev aJ3:=NI->NI->Option ayx
def ayy (g:aJ3):Ct:=(30,FC ayw (lf afD) (λb=>g b.1 b.2))
def ayz (eY:oL)(x0:Nat->Int)(x1:Nat->Int):Pg ayx:=opt (eY x0 x1 false) λd=>ret !d.2
def ayA:=λx0 x1=>(ayz eX x0 x1).val
theorem aJ4:∀eY,D0 [xS eY] 30 ayw (lf afD) λb=>ayz eY b.1 b.2:=λ_ b=>by kernel_rfl
theorem aJ5 [ax]:SC (ayy ayA):=s0 (.c D9 (.nil _)) (aJ4 eX)
def atZ:=qa (pu nil nil)
def aa0:=qe BB
abbrev at1:=aa0.B
abbrev afE:=Option at1
def at2 (g:afE):Ct:=(19,FC atZ (lf aa0) (λ_=>g))
def S8:Option at1:=some true
theorem aJ6 [ax]:Snd Tryz.prog (aaW (avX rsQ)):=aHy▸aDW
theorem aHz:ah1 Tryz.prog [akZ ak1,aaW (avX rsQ),K' Lb,FT rE,Yy YA,Dy mO,ak4 yQ,ayy ayA,Ij o6,PK PN,YL YN,Pk wb] ⟨[],[],[],[],none⟩ 2000 19 atZ (lf aa0) λ_=>ret true:=λb=>by kernel_rfl
theorem aHA [ax]:SC (at2 S8):=s0 (.c aCm (.c aJ6 (.c afy (.c Se (.c atK (.c Ph (.c ayc (.c aJ5 (.c WD (.c alQ (.c atW (.c alf (.nil _))))))))))))) aHz
end Go.Proofs.YtldgljclcgaibaaGreat
noncomputable section
namespace Go.Proofs.YtldgljclcgaibaaGreat
open Go.Ab Go.Ab.Pg Go.Ab.Rq
def mV:=qa (pl (c (aa xG) fM) nil)
def Lh:=qe BB
abbrev Nt:=Lh.B
abbrev avY:=mV.B->Option Nt
def avZ (g:avY):Ct:=(5,FC mV (lf Lh) g)
def gZ:=qs (st (pr (us 1 (c ai (us 1 (xs 1 (us 1 (cu eZ (us 1 (cu (app 1 434) (cu aFt (cl ai (us 111 nil))))))))))) (pl (c aRl (c aRm (c rF (c rG (c uD (cd CB λb5=>(cd CC λb6=>(cd Ti λb7=>(cd aQ1 λb8=>(cd aQ2 λb9=>(cd aQ3 λb10=>(c pJ (c aQQ (c pL (c rF (c rG (c uD (cd (so aFL) λb17=>(cd (so aFM) λb18=>(cd (so aFN) λb19=>(cd (so aFO) λb20=>(cd (so aFP) λb21=>(cd aQ4 λb22=>(c pJ (c aQR (c pL (c (so (cl (gs b5.b.1 ay) nil)) (c (so (cl (gs b6.b.1 ay) nil)) (c (so (cl (gs b7.b.1 ay) nil)) (c (so (cl (gs b8.b.1 ay) nil)) (c (so (cl (gs b9.b.1 ay) nil)) (c (so (cl (gs b10.b.1 ay) nil)) (c YV (c (so (cl (gs b17.b.1 ay) nil)) (c (so (cl (gs b18.b.1 ay) nil)) (c (so (cl (gs b19.b.1 ay) nil)) (c (so (cl (gs b20.b.1 ay) nil)) (c (so (cl (gs b21.b.1 ay) nil)) (c (so (cl (gs b22.b.1 ay) nil)) Hq))))))))))))))))))))))))))))))))))))))) nil)))
def aqW:=qs (st (pr (us 1 (c ai (us 1 (xs 1 (us 1 (cu eZ (us 1 (cu (app 1 434) (cu aFt (c ai (us 37 (c ai (c ai (cl ab (us 71 nil))))))))))))))) (pl (c aRl (c aRm (c rF (c rG (c uD (c CB (c CC (c Ti (c aQ1 (c aQ2 (c aQ3 (c pJ (c aQQ (c pL (c rF (c rG (c uD (c (so aFL) (c (so aFM) (c (so aFN) (c (so aFO) (c (so aFP) (c aQ4 (c pJ (c aQR (c pL (c uF (c uF (c uF (c uF (c uF (c uF (c YV aRi))))))))))))))))))))))))))))))))) nil)))
abbrev o8:=((Int×Int×Bool)×(PS×Bool×NI×(NI×NI)×(Nat×Nat)×LL×Bool×Int×qB×Bool×Bool×Bool×Int×Int×Int×LJ×Nat)×(PS×Bool×NI×(NI×NI)×(Nat×Nat)×LL×Bool×Int×qB×Bool×Bool×Bool×Int×Int×Int×LJ×Nat)×(qB×Int×Int)×Ty5×Ty7×dh×dh×dh×dh×dh×dh×(PU×Int)×BY×LK×(qB×Int×Int)×Ty5×Ty7×dh×dh×dh×dh×dh×dh×(PU×Int)×BY×LK×dt×dt×dt×dt×dt×dt×aMz×dt×dt×dt×dt×dt×dt×Nat×NI×NI×NI×NI×NI×NI×NI×NI×NI×NI×NI)
def WL {ρ:Type}(x:o8)(K:AX->St->Option ρ):Option ρ:=(λd=>K (.ex 0) (aqW.em ((d.1.1,d.1.2.1,d.1.2.1,d.1.1,d.1.b),d.2.1,d.b.1,d.b.2.1,d.c.1,d.c.2.1,d.c.b.1,d.c.b.2.1,d.d.1,d.d.2.1,d.d.b.1,d.d.b.2.1,d.d.c.1,d.d.c.2.1,d.d.c.b.1,d.d.c.b.2.1,d.e.1,d.e.2.1,d.e.b.1,d.e.b.2.1,d.e.c.1,d.e.c.2.1,d.e.c.b.1,d.e.c.b.2.1,d.e.d.1,d.e.d.2.1,d.e.d.b.1,(d.c.b.1.b.1,d.e.d.b.2.1),(d.c.b.2.1.b.1,d.e.d.c.1),(d.d.1.b.1,d.e.d.c.2.1),(d.d.2.1.b.1,d.e.d.c.b.1),(d.d.b.1.b.1,d.e.d.c.b.2.1),(d.d.b.2.1.b.1,d.e.e.1),d.e.e.2.1,(d.e.b.1.b.1,d.e.e.b.1),(d.e.b.2.1.b.1,d.e.e.b.2.1),(d.e.c.1.b.1,d.e.e.c.1),(d.e.c.2.1.b.1,d.e.e.c.2.1),(d.e.c.b.1.b.1,d.e.e.c.b.1),(d.e.c.b.2.1.b.1,d.e.e.c.b.2.1),d.e.e.d))) x
def Io (afC:Lf)(wy:wq)(d:gZ.B):PL gZ o8:=let n48:=d.2.1.2;let n27:=d.2.2;let n38:=n27.2.2.2;let n16:=n48.2.2.2;let FF:=n16.2.2.2.2.2.2.2.2.2.2.2.2;let n15:=n27.1.2.2.2;let n37:=n15.2.2.2.2.2.2.2.2.2.2.2.2.2;let n4:=n38.2.2;let n39:=n4.2.2;let bL:=n39.2.2;let n34:=bL.2.2;let n1:=n34.2.2.2.2.2;let n32:=n1.2.2;let bc:=n32.2.2.2;let SY:=bc.2.2;let n21:=SY.2.2.2;let n3:=n21.2.2.2.2.2;let n49:=n3.1.2.2;let n33:=n3.2.2.2.2;let n17:=n49.2.2.2;let n50:=n17.2.2.2;let n8:=n33.2.2.2.2.2;let n28:=n8.2.2.2.2;let y0:=decide (d.1.2<=d.1.1);ae y0 (opt (afC (wI (8000*d.1.2)) 8000) λaj=>let y0:=wI (Int.tdiv aj.2.2 2);ae (Nat.beq n16.1.2 n16.1.2) (ae (Nat.beq FF FF) (ae (Nat.beq n38.2.1.2.2.1 n38.2.1.2.2.1) (ae (Nat.beq n4.1.2.2.1 n4.1.2.2.1) (ae (Nat.beq n4.2.1.2.2.1 n4.2.1.2.2.1) (ae (Nat.beq n39.1.2.2.1 n39.1.2.2.1) (ae (Nat.beq n39.2.1.2.2.1 n39.2.1.2.2.1) (ae (Nat.beq bL.1.2.2.1 bL.1.2.2.1) (ae (Nat.beq n34.1.2.2 n34.1.2.2) (opt (wy ((aj.1,aj.2.1,(0,0,0),0,0,aj.2.2),(d.2.1.1,n48.1,n48.2.1,n48.2.2.1,n16.1.2,n16.2),n27.2.1,n27.2.2.1,(sh8 n16.1.1 n38.1.2),n38.2.1,n4.1,n4.2.1,n39.1,n39.2.1,bL.1,bL.2.1,n34.1,(afF 0 n34.2.1.2),(lB 0 SY.2.2.1),(lB 0 n21.1),(lB 0 n21.2.1),(lB 0 n21.2.2.1),(lB 0 n21.2.2.2.1),(lB 0 n21.2.2.2.2.1),λj=>n3.1.2.1 (0+j),λj=>n49.1 (0+j),λj=>n49.2.1 (0+j),λj=>n49.2.2.1 (0+j),λj=>n17.1 (0+j),λj=>n17.2.1 (0+j),λj=>n17.2.2.1 (0+j),λj=>n50.1 (0+j),λj=>n50.2.1 (0+j),λj=>n50.2.2.1 (0+j),λj=>n50.2.2.2 (0+j))) λaI=>let n22:=aI.2.2.2.2.2;let n7:=n22.2.2.2.2.2;let n26:=n7.2.2.2.2.2;ae (Nat.beq n15.2.1.2 n15.2.1.2) (ae (Nat.beq n37 n37) (ae (Nat.beq n1.1.2.2.1 n1.1.2.2.1) (ae (Nat.beq n1.2.1.2.2.1 n1.2.1.2.2.1) (ae (Nat.beq n32.1.2.2.1 n32.1.2.2.1) (ae (Nat.beq n32.2.1.2.2.1 n32.2.1.2.2.1) (ae (Nat.beq n32.2.2.1.2.2.1 n32.2.2.1.2.2.1) (ae (Nat.beq bc.1.2.2.1 bc.1.2.2.1) (ae (Nat.beq SY.1.2.2 SY.1.2.2) (opt (wy ((wI (aj.1-4000),4000,(0,0,0),0,0,y0),(n27.1.1,n27.1.2.1,n27.1.2.2.1,n15.1,n15.2.1.2,n15.2.2),n34.2.2.1,n34.2.2.2.1,(sh8 n15.2.1.1 n34.2.2.2.2.1.2),n1.1,n1.2.1,n32.1,n32.2.1,n32.2.2.1,bc.1,bc.2.1,SY.1,(afF 0 SY.2.1.2),(lB 0 n3.2.1),(lB 0 n3.2.2.1),(lB 0 n3.2.2.2.1),(lB 0 n33.1),(lB 0 n33.2.1),(lB 0 n33.2.2.1),λj=>n33.2.2.2.2.1 (0+j),λj=>n8.1 (0+j),λj=>n8.2.1 (0+j),λj=>n8.2.2.1 (0+j),λj=>n8.2.2.2.1 (0+j),λj=>n28.1 (0+j),λj=>n28.2.1 (0+j),λj=>n28.2.2.1 (0+j),λj=>n28.2.2.2.1 (0+j),λj=>n28.2.2.2.2.1 (0+j),λj=>n28.2.2.2.2.2 (0+j))) λbp=>let n51:=bp.2.1.2;let n9:=n51.2.2.2;let DD:=n9.2.2.2.2.2.2.2.2.2.2.2.2;let n36:=n9.1.1;let n6:=bp.2.2.2.2;let FG:=n6.2.2;let n29:=n6.1.2.2.2;let bg:=FG.2.2;let n35:=bg.2.2;let n2:=n35.2.2.2;let n23:=n2.2.1.2.2.2;let n19:=n2.1.2.2.2.2;let n52:=n19.2.2.2;let n18:=n2.2.2;let n30:=n18.1.2.2.2;let n24:=n18.2.1.2.2.2;let n5:=n18.2.2;let K0:=n5.2.2;let n31:=n5.1.2.2.2;let n25:=n5.2.1.2.2.2;let n20:=K0.1.2.2;let n53:=n20.2.2.2;let bq:=K0.2.2.2.2.2;let Rl:=bq.2.2.2;ae (Nat.beq n9.1.2 n9.1.2) (ae (Nat.beq DD DD) (ae (Nat.beq n6.2.1.2.2.1 n6.2.1.2.2.1) (ae (Nat.beq FG.1.2.2.1 FG.1.2.2.1) (ae (Nat.beq FG.2.1.2.2.1 FG.2.1.2.2.1) (ae (Nat.beq bg.1.2.2.1 bg.1.2.2.1) (ae (Nat.beq bg.2.1.2.2.1 bg.2.1.2.2.1) (ae (Nat.beq n35.1.2.2.1 n35.1.2.2.1) (ae (Nat.beq n35.2.2.1.2.2 n35.2.2.1.2.2) (opt (wy ((aj.1,4000,(0,0,0),0,0,wI (aj.2.2-y0)),(bp.2.1.1,n51.1,n51.2.1,n51.2.2.1,n9.1.2,n9.2),bp.2.2.1,bp.2.2.2.1,(λj=>n6.1.2.1 (n36+j),λj=>n6.1.2.2.1 (n36+j),λj=>n29.1 (n36+j),λj=>n29.2.1 (n36+j),λj=>n29.2.2.1 (n36+j),λj=>n29.2.2.2.1 (n36+j),λj=>n29.2.2.2.2.1 (n36+j),λj=>(n29.2.2.2.2.2,()).1 (n36+j)),n6.2.1,FG.1,FG.2.1,bg.1,bg.2.1,n35.1,n35.2.1,n35.2.2.1,(λj=>n2.1.2.1 (0+j),λj=>n2.1.2.2.1 (0+j),λj=>n2.1.2.2.2.1 (0+j),λj=>n19.1 (0+j),λj=>n19.2.1 (0+j),λj=>n19.2.2.1 (0+j),λj=>n52.1 (0+j),λj=>n52.2.1 (0+j),λj=>n52.2.2.1 (0+j),λj=>(n52.2.2.2,()).1 (0+j)),(λj=>n2.2.1.1 (0+j),λj=>n2.2.1.2.1 (0+j),λj=>n2.2.1.2.2.1 (0+j),λj=>n23.1 (0+j),λj=>n23.2.1 (0+j),λj=>n23.2.2.1 (0+j),λj=>n23.2.2.2.1 (0+j),λj=>n23.2.2.2.2.1 (0+j),λj=>(n23.2.2.2.2.2,()).1 (0+j)),(λj=>n18.1.1 (0+j),λj=>n18.1.2.1 (0+j),λj=>n18.1.2.2.1 (0+j),λj=>n30.1 (0+j),λj=>n30.2.1 (0+j),λj=>n30.2.2.1 (0+j),λj=>n30.2.2.2.1 (0+j),λj=>n30.2.2.2.2.1 (0+j),λj=>(n30.2.2.2.2.2,()).1 (0+j)),(λj=>n18.2.1.1 (0+j),λj=>n18.2.1.2.1 (0+j),λj=>n18.2.1.2.2.1 (0+j),λj=>n24.1 (0+j),λj=>n24.2.1 (0+j),λj=>n24.2.2.1 (0+j),λj=>n24.2.2.2.1 (0+j),λj=>n24.2.2.2.2.1 (0+j),λj=>(n24.2.2.2.2.2,()).1 (0+j)),(λj=>n5.1.1 (0+j),λj=>n5.1.2.1 (0+j),λj=>n5.1.2.2.1 (0+j),λj=>n31.1 (0+j),λj=>n31.2.1 (0+j),λj=>n31.2.2.1 (0+j),λj=>n31.2.2.2.1 (0+j),λj=>n31.2.2.2.2.1 (0+j),λj=>(n31.2.2.2.2.2,()).1 (0+j)),(λj=>n5.2.1.1 (0+j),λj=>n5.2.1.2.1 (0+j),λj=>n5.2.1.2.2.1 (0+j),λj=>n25.1 (0+j),λj=>n25.2.1 (0+j),λj=>n25.2.2.1 (0+j),λj=>n25.2.2.2.1 (0+j),λj=>n25.2.2.2.2.1 (0+j),λj=>(n25.2.2.2.2.2,()).1 (0+j)),(λj=>K0.1.1 (0+j),λj=>K0.1.2.1 (0+j),λj=>n20.1 (0+j),λj=>n20.2.1 (0+j),λj=>n20.2.2.1 (0+j),λj=>n53.1 (0+j),λj=>n53.2.1 (0+j),λj=>n53.2.2.1 (0+j),λj=>(n53.2.2.2,()).1 (0+j)),λj=>K0.2.2.1 (0+j),λj=>K0.2.2.2.1 (0+j),λj=>K0.2.2.2.2.1 (0+j),λj=>bq.1 (0+j),λj=>bq.2.1 (0+j),λj=>bq.2.2.1 (0+j),λj=>Rl.1 (0+j),λj=>Rl.2.1 (0+j),λj=>Rl.2.2.1 (0+j),λj=>Rl.2.2.2.1 (0+j),λj=>(Rl.2.2.2.2,()).1 (0+j))) λcg=>let M3:=cg.2.2.2;let bu:=M3.2.2.2.2;let WY:=bu.2.2.2;ret (Sum.inl ((d.1.1,wI (d.1.2+1)),aI.2.1,cg.2.1,aI.2.2.1,aI.2.2.2.1,aI.2.2.2.2.1,n22.1,n22.2.1,n22.2.2.1,n22.2.2.2.1,n22.2.2.2.2.1,n7.1,n7.2.1,n7.2.2.1,n7.2.2.2.1,cg.2.2.1,M3.1,M3.2.1,M3.2.2.1,M3.2.2.2.1,bu.1,bu.2.1,bu.2.2.1,WY.1,WY.2.1,WY.2.2.1,WY.2.2.2.1,n7.2.2.2.2.1,n26.1,n26.2.1,n26.2.2.1,n26.2.2.2.1,n26.2.2.2.2.1,n26.2.2.2.2.2,WY.2.2.2.2))) no) no) no) no) no) no) no) no) no) no) no) no) no) no) no) no) no) no) no) no) no) no) no) no) no) no) no) (ret (Sum.inr ((d.1.1,d.1.2,y0),d.2)))
def Ip:=bA (Io AD cS) 2000
def Nu (aHB:afE)(WK:Wr)(Sf:FR)(PO:Dx)(WM:Ii)(dI:LT gZ o8)(x:mV.B):Pg Nt:=opt aHB λd=>ae (!d) (ret false) (opt (WK (8000,x.1.2)) λd=>ae (match d with|Sum.inl val=>true|Sum.inr val=>false) (opt (match d with|Sum.inl a=>some a|Sum.inr val=>none) λd=>opt (WK (8000,x.1.2)) λd=>ae (match d with|Sum.inl val=>true|Sum.inr val=>false) (opt (match d with|Sum.inl a=>some a|Sum.inr val=>none) λd=>ret true) (opt (match d with|Sum.inr b=>some b|Sum.inl val=>none) λd=>ret false)) (opt (match d with|Sum.inr b=>some b|Sum.inl val=>none) λd=>let n57:=d.1.2.2;let n27:=n57.2.2.2.2;let n58:=n27.2.2.2;let n17:=d.2.2.2;let n36:=n17.2.2.2.2.2;let n9:=n58.2.2.2.2;let n59:=n9.2.2.2;let n23:=n59.2.2.2.2;let n55:=n23.2.2.2.2;let n5:=n36.2.2.2.2;let n49:=n5.2.1;let n31:=n5.2.2;let n50:=n31.2.1;let bu:=n31.2.2;let n51:=bu.2.1;let FF:=bu.2.2;opt (WK (8000,x.1.2)) λaj=>ae (match aj with|Sum.inl val=>true|Sum.inr val=>false) (opt (match aj with|Sum.inl a=>some a|Sum.inr val=>none) λd=>ret false) (opt (match aj with|Sum.inr b=>some b|Sum.inl val=>none) λaI=>let n60:=aI.1.2.2;let n28:=n60.2.2.2.2;let n61:=n28.2.2.2;let n18:=aI.2.2.2;let n37:=n18.2.2.2.2.2;let bc:=n61.2.2.2.2;let n62:=bc.2.2.2;let n24:=n62.2.2.2.2;let n56:=n24.2.2.2.2;let n6:=n37.2.2.2.2;let n52:=n6.2.1;let n32:=n6.2.2;let n53:=n32.2.1;let bL:=n32.2.2;let n54:=bL.2.1;let DD:=bL.2.2;ae (decide (x.2<0)) (ret true) (ae (decide (x.2>30)) (ret true) (ae true (ae true (ae true (ae true (ae true (ae true (ae true (ae true (ae true (ae true (ae true (ae true (opt (dI ((x.2,1),((d.1.1,d.1.2.1,n57.1,n57.2.1,(n57.2.2.1,n57.2.2.2.1,n27.1,n27.2.1,n27.2.2.1,n58.1),(n58.2.1,n58.2.2.1,n58.2.2.2.1,n9.1,n9.2.1,n9.2.2.1),n59.1,n59.2.1,n59.2.2.1,n59.2.2.2.1,n23.1,n23.2.1,n23.2.2.1,n23.2.2.2.1,n55.1,n55.2.1),n55.2.2.1,n55.2.2.2.1,n55.2.2.2.2,(0,0),(0,0,false,false),false,0,(0,0,0),false,false,false,0,0,0,((1073741824,0,0,0),(0,0,0),0,0,0),0),((aI.1.1,aI.1.2.1,n60.1,n60.2.1,(n60.2.2.1,n60.2.2.2.1,n28.1,n28.2.1,n28.2.2.1,n61.1),(n61.2.1,n61.2.2.1,n61.2.2.2.1,bc.1,bc.2.1,bc.2.2.1),n62.1,n62.2.1,n62.2.2.1,n62.2.2.2.1,n24.1,n24.2.1,n24.2.2.1,n24.2.2.2.1,n56.1,n56.2.1),n56.2.2.1,n56.2.2.2.1,n56.2.2.2.2,(0,0),(0,0,false,false),false,0,(0,0,0),false,false,false,0,0,0,((1073741824,0,0,0),(0,0,0),0,0,0),0),((d.2.1.1,d.2.1.2.1,d.2.1.2.2.1),d.2.1.2.2.2),(d.2.2.1,(0,0,(0,0,0),0,0,0),false),(0,n17.1,n17.1,n17.1,n17.1,n17.1,n17.1,n17.1,n17.1),((0,0,0,0,0),n17.2.1,0, -9223372036854775808),((0,0,0,0,0),n17.2.2.1,0, -9223372036854775808),((0,0,0,0,0),n17.2.2.2.1,0, -9223372036854775808),((0,0,0,0,0),n17.2.2.2.2.1,0, -9223372036854775808),((0,0,0,0,0),n36.1,0, -9223372036854775808),((0,0,0,0,0),n36.2.1,0, -9223372036854775808),(n36.2.2.1,0),(n36.2.2.2.1.1,n36.2.2.2.1.2,0),(0,n17.1,n17.1,n17.1,n17.1,n17.1,n17.1,n17.1,n17.1,n17.1,n17.1),((aI.2.1.1,aI.2.1.2.1,aI.2.1.2.2.1),aI.2.1.2.2.2),(aI.2.2.1,(0,0,(0,0,0),0,0,0),false),(0,n18.1,n18.1,n18.1,n18.1,n18.1,n18.1,n18.1,n18.1),((0,0,0,0,0),n18.2.1,0, -9223372036854775808),((0,0,0,0,0),n18.2.2.1,0, -9223372036854775808),((0,0,0,0,0),n18.2.2.2.1,0, -9223372036854775808),((0,0,0,0,0),n18.2.2.2.2.1,0, -9223372036854775808),((0,0,0,0,0),n37.1,0, -9223372036854775808),((0,0,0,0,0),n37.2.1,0, -9223372036854775808),(n37.2.2.1,0),(n37.2.2.2.1.1,n37.2.2.2.1.2,0),(0,n18.1,n18.1,n18.1,n18.1,n18.1,n18.1,n18.1,n18.1,n18.1,n18.1),(n5.1,n5.1,n5.1,n5.1,n5.1,n5.1,n5.1,n5.1,n5.1),(n49,n49,n49,n49,n49,n49,n49,n49,n49),(n31.1,n31.1,n31.1,n31.1,n31.1,n31.1,n31.1,n31.1,n31.1),(n50,n50,n50,n50,n50,n50,n50,n50,n50),(bu.1,bu.1,bu.1,bu.1,bu.1,bu.1,bu.1,bu.1,bu.1),(n51,n51,n51,n51,n51,n51,n51,n51,n51),(0,FF,FF,FF,FF,FF,FF,FF,FF,FF,FF,FF),(n6.1,n6.1,n6.1,n6.1,n6.1,n6.1,n6.1,n6.1,n6.1),(n52,n52,n52,n52,n52,n52,n52,n52,n52),(n32.1,n32.1,n32.1,n32.1,n32.1,n32.1,n32.1,n32.1,n32.1),(n53,n53,n53,n53,n53,n53,n53,n53,n53),(bL.1,bL.1,bL.1,bL.1,bL.1,bL.1,bL.1,bL.1,bL.1),(n54,n54,n54,n54,n54,n54,n54,n54,n54),0,DD,DD,DD,DD,DD,DD,DD,DD,DD,DD,DD)) λd=>let n71:=d.2.1.2;let n39:=d.2.2;let n29:=n71.2.2.2;let n68:=n29.2.2.2.2.2.2.2.2.2.2.2.2;let n25:=n39.1.2.2.2.2;let n69:=n25.2.2.2.2.2.2.2.2.2.2.2.2;let n22:=n39.2.2.2;let n72:=n22.2.1;let n63:=n22.2.2.1;let n8:=n22.2.2.2;let n73:=n8.2.1;let n35:=n8.2.2;let n74:=n35.2.1;let n21:=n35.2.2.2;let n64:=n21.2.2;let n4:=n64.2.2;let n75:=n4.2.1;let n34:=n4.2.2;let n76:=n34.2.1;let n65:=n34.2.2.1;let bq:=n34.2.2.2;let n77:=bq.2.1;let n26:=bq.2.2.2;let WY:=n26.2.2;let n3:=WY.2.2.2;let n16:=n3.2.2.2;let SY:=n16.1.2;let n33:=n16.2.2.2;let n67:=n33.2.2;let bg:=SY.2.2.2;let n66:=bg.2.2;let n30:=n66.2.2;let n70:=n30.2.2;let n7:=n67.2.2.2;let n48:=n7.2.2;let n15:=n48.2.2.2;let n38:=n15.2.2.2;let n2:=(d.2.1.1,n71.1,n71.2.1,n71.2.2.1,n29.1.2,n29.2);let n1:=(n39.1.1,n39.1.2.1,n39.1.2.2.1,n39.1.2.2.2.1,n25.1.2,n25.2);let y0:=Nat.beq n29.1.2 n29.1.2;let y1:=Nat.beq n68 n68;let y2:=Nat.beq n25.1.2 n25.1.2;let y3:=Nat.beq n69 n69;let y4:=Nat.beq n72.2.2.1 n72.2.2.1;let y5:=Nat.beq n63.2.2.1 n63.2.2.1;let y6:=Nat.beq n8.1.2.2.1 n8.1.2.2.1;let y7:=Nat.beq n73.2.2.1 n73.2.2.1;let y8:=Nat.beq n35.1.2.2.1 n35.1.2.2.1;let y9:=Nat.beq n74.2.2.1 n74.2.2.1;let tV:=Nat.beq n21.1.2.2 n21.1.2.2;let tW:=Nat.beq n75.2.2.1 n75.2.2.1;let w7:=Nat.beq n34.1.2.2.1 n34.1.2.2.1;let w9:=Nat.beq n76.2.2.1 n76.2.2.1;let xc:=Nat.beq n65.2.2.1 n65.2.2.1;let y15:=Nat.beq bq.1.2.2.1 bq.1.2.2.1;let y16:=Nat.beq n77.2.2.1 n77.2.2.1;let y17:=Nat.beq n26.1.2.2 n26.1.2.2;ae y0 (ae y1 (ae y4 (ae y5 (ae y6 (ae y7 (ae y8 (ae y9 (ae tV (opt (Sf (n2,n39.2.1,n39.2.2.1,(sh8 n29.1.1 n22.1.2),n72,n63,n8.1,n73,n35.1,n74,n35.2.2.1,n21.1,(afF 0 n21.2.1.2),(lB 0 WY.1),(lB 0 WY.2.1),(lB 0 WY.2.2.1),(lB 0 n3.1),(lB 0 n3.2.1),(lB 0 n3.2.2.1),λj=>SY.1 (0+j),λj=>SY.2.1 (0+j),λj=>SY.2.2.1 (0+j),λj=>bg.1 (0+j),λj=>bg.2.1 (0+j),λj=>n66.1 (0+j),λj=>n66.2.1 (0+j),λj=>n30.1 (0+j),λj=>n30.2.1 (0+j),λj=>n70.1 (0+j),λj=>n70.2 (0+j))) λbp=>ae y2 (ae y3 (ae tW (ae w7 (ae w9 (ae xc (ae y15 (ae y16 (ae y17 (opt (Sf (n1,n64.1,n64.2.1,(sh8 n25.1.1 n4.1.2),n75,n34.1,n76,n65,bq.1,n77,bq.2.2.1,n26.1,(afF 0 n26.2.1.2),(lB 0 n16.2.1),(lB 0 n16.2.2.1),(lB 0 n33.1),(lB 0 n33.2.1),(lB 0 n67.1),(lB 0 n67.2.1),λj=>n7.1 (0+j),λj=>n7.2.1 (0+j),λj=>n48.1 (0+j),λj=>n48.2.1 (0+j),λj=>n48.2.2.1 (0+j),λj=>n15.1 (0+j),λj=>n15.2.1 (0+j),λj=>n15.2.2.1 (0+j),λj=>n38.1 (0+j),λj=>n38.2.1 (0+j),λj=>n38.2.2 (0+j))) λcg=>ae (aq1 24 λj=>(bp.1,()).1 j==(cg.1,()).1 j) (ae ((aq1 276 λj=>(bp.2.1,()).1 j==(cg.2.1,()).1 j)&&((aq1 24 λj=>(bp.2.2,()).1 j==(cg.2.2,()).1 j)&&true)) (ae y0 (ae y1 (ae y4 (ae y5 (ae y6 (ae y7 (ae y8 (ae y9 (ae tV (opt (PO (n2,n39.2.1,n39.2.2.1,(sh8 n29.1.1 n22.1.2),n72,n63,n8.1,n73,n35.1,n74,n35.2.2.1,n21.1,(afF 0 n21.2.1.2),(lB 0 WY.1),(lB 0 WY.2.1),(lB 0 WY.2.2.1),(lB 0 n3.1),(lB 0 n3.2.1),(lB 0 n3.2.2.1),λj=>SY.1 (0+j),λj=>SY.2.1 (0+j),λj=>SY.2.2.1 (0+j),λj=>bg.1 (0+j),λj=>bg.2.1 (0+j),λj=>n66.1 (0+j),λj=>n66.2.1 (0+j),λj=>n30.1 (0+j),λj=>n30.2.1 (0+j),λj=>n70.1 (0+j),λj=>n70.2 (0+j))) λdF=>let FG:=dF.2.2.2.2;let n19:=FG.2.2.2.2.2;let Rl:=n19.2.2.2.2;ae y2 (ae y3 (ae tW (ae w7 (ae w9 (ae xc (ae y15 (ae y16 (ae y17 (opt (PO (n1,n64.1,n64.2.1,(sh8 n25.1.1 n4.1.2),n75,n34.1,n76,n65,bq.1,n77,bq.2.2.1,n26.1,(afF 0 n26.2.1.2),(lB 0 n16.2.1),(lB 0 n16.2.2.1),(lB 0 n33.1),(lB 0 n33.2.1),(lB 0 n67.1),(lB 0 n67.2.1),λj=>n7.1 (0+j),λj=>n7.2.1 (0+j),λj=>n48.1 (0+j),λj=>n48.2.1 (0+j),λj=>n48.2.2.1 (0+j),λj=>n15.1 (0+j),λj=>n15.2.1 (0+j),λj=>n15.2.2.1 (0+j),λj=>n38.1 (0+j),λj=>n38.2.1 (0+j),λj=>n38.2.2 (0+j))) λcH=>let K0:=cH.2.2.2.2;let n20:=K0.2.2.2.2.2;let M3:=n20.2.2.2.2;ae (dF.1==cH.1&&(dF.2.1==cH.2.1&&(dF.2.2.1==cH.2.2.1&&(dF.2.2.2.1==cH.2.2.2.1&&true)))&&(FG.1==K0.1&&(FG.2.1==K0.2.1&&(FG.2.2.1==K0.2.2.1&&(FG.2.2.2.1==K0.2.2.2.1&&(FG.2.2.2.2.1==K0.2.2.2.2.1&&(n19.1==n20.1&&(n19.2.1==n20.2.1&&(n19.2.2.1==n20.2.2.1&&(n19.2.2.2.1==n20.2.2.2.1&&true)))&&(Rl.1==M3.1&&(Rl.2.1==M3.2.1&&(Rl.2.2.1==M3.2.2.1&&true))&&(Rl.2.2.2.1==M3.2.2.2.1&&(Rl.2.2.2.2.1==M3.2.2.2.2.1&&(Rl.2.2.2.2.2==M3.2.2.2.2.2&&true))&&true))&&true))))))) (ae y0 (ae y1 (ae y4 (ae y5 (ae y6 (ae y7 (ae y8 (ae y9 (ae tV (opt (WM (n2,n39.2.1,n39.2.2.1,(sh8 n29.1.1 n22.1.2),n72,n63,n8.1,n73,n35.1,n74,n35.2.2.1,n21.1,(afF 0 n21.2.1.2),(lB 0 WY.1),(lB 0 WY.2.1),(lB 0 WY.2.2.1),(lB 0 n3.1),(lB 0 n3.2.1),(lB 0 n3.2.2.1),λj=>SY.1 (0+j),λj=>SY.2.1 (0+j),λj=>SY.2.2.1 (0+j),λj=>bg.1 (0+j),λj=>bg.2.1 (0+j),λj=>n66.1 (0+j),λj=>n66.2.1 (0+j),λj=>n30.1 (0+j),λj=>n30.2.1 (0+j),λj=>n70.1 (0+j),λj=>n70.2 (0+j))) λln=>ae y2 (ae y3 (ae tW (ae w7 (ae w9 (ae xc (ae y15 (ae y16 (ae y17 (opt (WM (n1,n64.1,n64.2.1,(sh8 n25.1.1 n4.1.2),n75,n34.1,n76,n65,bq.1,n77,bq.2.2.1,n26.1,(afF 0 n26.2.1.2),(lB 0 n16.2.1),(lB 0 n16.2.2.1),(lB 0 n33.1),(lB 0 n33.2.1),(lB 0 n67.1),(lB 0 n67.2.1),λj=>n7.1 (0+j),λj=>n7.2.1 (0+j),λj=>n48.1 (0+j),λj=>n48.2.1 (0+j),λj=>n48.2.2.1 (0+j),λj=>n15.1 (0+j),λj=>n15.2.1 (0+j),λj=>n15.2.2.1 (0+j),λj=>n38.1 (0+j),λj=>n38.2.1 (0+j),λj=>n38.2.2 (0+j))) λd=>ret (Int.ofNat ln.1==Int.ofNat d.1)) no) no) no) no) no) no) no) no) no) no) no) no) no) no) no) no) no) no) (ret false)) no) no) no) no) no) no) no) no) no) no) no) no) no) no) no) no) no) no) (ret false)) (ret false)) no) no) no) no) no) no) no) no) no) no) no) no) no) no) no) no) no) no) no) no) no) no) no) no) no) no) no) no) no) no)))))
def tq:=λx=>(Nu S8 xj rE mO o6 Ip x).val
abbrev ED:=afE×Wr×Lf×wq×FR×Dx×Ii×(LT gZ o8)
def Nv (p:ED):KK:=⟨[at2 p.1,aqH p.2.1,afB p.b.1,K8 p.b.2.1,FT p.c.1,Dy p.c.2.1,Ij p.c.b.1],⟨[⟨9,(0::2::4::6::rg 10 111 []),[(0,[])]⟩],[fH 9 0 gZ WL p.c.b.2],[],[],(some ⟨0,(rg 0 4 (rg 5 116 [])),[]⟩)⟩,0,5⟩
theorem amP (p:ED):LI (Nv p) 9 gZ WL (Io p.b.1 p.b.2.1):=λ_ d c K=>by kernel_rfl
theorem av0 (p:ED):D2 (Nv p) mV (lf Lh) λb=>Nu p.1 p.2.1 p.c.1 p.c.2.1 p.c.b.1 p.c.b.2 b:=λb=>by kernel_rfl
abbrev Nw:ED:=(S8,xj,AD,cS,rE,mO,o6,Ip)
theorem av1 [ax]:SC (avZ tq):=sc (kS (k:=Nv Nw) (.c aHA (.c aCw (.c atT (.c YI (.c Se (.c Ph (.c WD (.nil _)))))))) [9] [] ⟨kL (amP Nw),trivial⟩ trivial (av0 Nw))
end Go.Proofs.YtldgljclcgaibaaGreat
namespace Go.Proofs.YtldgljclcgaibaaGreat
open Go.Ab Go.Ab.Pg
theorem aJ7 (n:Nat):(aq1 n λ_=>true)=true:=by
 unfold aq1
 simp
theorem aCK (x:rD.B):Ok (rE x) (λr:FQ=>r=(x.1.2.2.1,x.1.2.2.2.1)):=⟨_,rfl,rfl⟩
theorem aOV (x:uq.B)(h:x.2.2.2.2.2.2.2.2.2.2.2.1.2.2<=1999):bj (o6 x):=by
 unfold o6 Ik
 try dsimp only
 refine aF ?_
 rw[aR,aC]
 refine aA (R:=λ_=>True) ?_ λd _ hd=>by rw[av];trivial
 unfold qS yH
 show PQ _ _
 try dsimp only
 rw[bG]
 refine⟨by rw[bP];omega,?_⟩
 rw[av]
 trivial
theorem aOW (x:gr.B)(o:Int×Int×Int×Int×Int×Int×Int×Int)(dn:Int×(Int×Int×(Int×Int×Int)×Int×Int×Int)×Bool)(c:Bool)(hp:bH (x.1,x.2.2.2.1,x.2.1.2.1)=some ((o,false,0),dn,c)):
  cS x=some ((0,0),(x.2.1.1,c,x.2.1.2.2.1,x.2.1.2.2.2.1,(0,x.2.1.2.2.2.2.1),x.2.1.2.2.2.2.2),x.2.2.1,dn,(x.2.1.2.2.2.2.1,x.2.2.2.2.1),x.2.2.2.2.2.1,x.2.2.2.2.2.2.1,x.2.2.2.2.2.2.2.1,x.2.2.2.2.2.2.2.2.1,x.2.2.2.2.2.2.2.2.2.1,x.2.2.2.2.2.2.2.2.2.2.1,x.2.2.2.2.2.2.2.2.2.2.2.1,x.2.2.2.2.2.2.2.2.2.2.2.2.1,(x.2.1.2.2.2.2.2.2.2.2.2.2.2.2.2.2.2.2,x.2.2.2.2.2.2.2.2.2.2.2.2.2.1),x.2.2.2.2.2.2.2.2.2.2.2.2.2.2.1,x.2.2.2.2.2.2.2.2.2.2.2.2.2.2.2.1,x.2.2.2.2.2.2.2.2.2.2.2.2.2.2.2.2.1,x.2.2.2.2.2.2.2.2.2.2.2.2.2.2.2.2.2.1,x.2.2.2.2.2.2.2.2.2.2.2.2.2.2.2.2.2.2.1,x.2.2.2.2.2.2.2.2.2.2.2.2.2.2.2.2.2.2.2.1,x.2.2.2.2.2.2.2.2.2.2.2.2.1.2.2,x.2.2.2.2.2.2.2.2.2.2.2.2.2.2.2.2.2.2.2.2):=by
 unfold cS nL
 try dsimp only
 show Option.bind (bH (x.1,x.2.2.2.1,x.2.1.2.1)) _=_
 rw[hp]
 rfl
theorem aMy (x y:gr.B)(h1:y.2.1=x.2.1)(h2:y.2.2.1=x.2.2.1)(hp:bH (y.1,y.2.2.2.1,y.2.1.2.1)=bH (x.1,x.2.2.2.1,x.2.1.2.1))(h4:y.2.2.2.2=x.2.2.2.2):cS y=cS x:=by
 obtain⟨i,F,fr,dn,R⟩:=x
 obtain⟨i',F',fr',dn',R'⟩:=y
 dsimp only at h1 h2 hp h4
 subst h1 h2 h4
 unfold cS nL
 try dsimp only
 try dsimp only
 rw[hp]
theorem aS1 {δ:Type}{Q:δ->Prop}{k:jO->Pg δ}(x:gr.B)(o:Int×Int×Int×Int×Int×Int×Int×Int)(dn:Int×(Int×Int×(Int×Int×Int)×Int×Int×Int)×Bool)(c:Bool)(hp:bH (x.1,x.2.2.2.1,x.2.1.2.1)=some ((o,false,0),dn,c))
  (h:PQ (k ((0,0),(x.2.1.1,c,x.2.1.2.2.1,x.2.1.2.2.2.1,(0,x.2.1.2.2.2.2.1),x.2.1.2.2.2.2.2),x.2.2.1,dn,(x.2.1.2.2.2.2.1,x.2.2.2.2.1),x.2.2.2.2.2.1,x.2.2.2.2.2.2.1,x.2.2.2.2.2.2.2.1,x.2.2.2.2.2.2.2.2.1,x.2.2.2.2.2.2.2.2.2.1,x.2.2.2.2.2.2.2.2.2.2.1,x.2.2.2.2.2.2.2.2.2.2.2.1,x.2.2.2.2.2.2.2.2.2.2.2.2.1,(x.2.1.2.2.2.2.2.2.2.2.2.2.2.2.2.2.2.2,x.2.2.2.2.2.2.2.2.2.2.2.2.2.1),x.2.2.2.2.2.2.2.2.2.2.2.2.2.2.1,x.2.2.2.2.2.2.2.2.2.2.2.2.2.2.2.1,x.2.2.2.2.2.2.2.2.2.2.2.2.2.2.2.2.1,x.2.2.2.2.2.2.2.2.2.2.2.2.2.2.2.2.2.1,x.2.2.2.2.2.2.2.2.2.2.2.2.2.2.2.2.2.2.1,x.2.2.2.2.2.2.2.2.2.2.2.2.2.2.2.2.2.2.2.1,x.2.2.2.2.2.2.2.2.2.2.2.2.1.2.2,x.2.2.2.2.2.2.2.2.2.2.2.2.2.2.2.2.2.2.2.2)) Q):PQ (.opt (cS x) k) Q:=by
 rw[aOW x o dn c hp,bR]
 exact h
theorem aOX {δ:Type}{Q:δ->Prop}{k:jO->Pg δ}(x y:gr.B)(e:jO)(ge:cS x=some e)(h1:y.2.1=x.2.1)(h2:y.2.2.1=x.2.2.1)(hp:bH (y.1,y.2.2.2.1,y.2.1.2.1)=bH (x.1,x.2.2.2.1,x.2.1.2.1))(h4:y.2.2.2.2=x.2.2.2.2)(h:PQ (k e) Q):PQ (.opt (cS y) k) Q:=by
 rw[aMy x y h1 h2 hp h4,ge,bR]
 exact h
theorem aOY (v:Int×(Int×Int×(Int×Int×Int)×Int×Int×Int)×Bool)(d:dy.B)(hd:d.2.2.2.1=v):Po (xD d) (λx:gY=>match x with|.inl x=>x.2.2.2.1=v|.inr x=>x.2.2.2.1=v):=
 aIP (s:=_) (λd:dy.B=>d.2.2.2.1=v) (λx:gY=>match x with|.inl x=>x.2.2.2.1=v|.inr x=>x.2.2.2.1=v) (λd hd=>by
  unfold rB
  dsimp only
  repeat' (first
   |(rw[aGk];exact trivial)
   |(rw[alW];refine⟨λ_=> ?_,λ_=> ?_⟩)
   |(rw[aru];intro _ _))
  all_goals (rw[XB];exact hd)) 2000 d hd
theorem aOZ (d:gu.B):Po (nU d) (λx:jo=>x.2.2.2.1=d.2.2.1):=by
 unfold nU rC
 try dsimp only
 show PW _ _
 try dsimp only
 repeat' (first
  |(rw[aGk];exact trivial)
  |(with_reducible refine aBf (aOY d.2.2.1 _ rfl) λe _ he=> ?_)
  |(rw[alW];refine⟨λ_=> ?_,λ_=> ?_⟩)
  |(rw[aTA];refine⟨λe0 e1=> ?_,λe0 e1=> ?_⟩))
 all_goals (subst e1;rw[XB];exact he)
theorem aUf (x:gr.B)(o:Int×Int×Int×Int×Int×Int×Int×Int)(t:Bool)(er:Int)(dn:Int×(Int×Int×(Int×Int×Int)×Int×Int×Int)×Bool)(c:Bool)(hp:bH (x.1,x.2.2.2.1,x.2.1.2.1)=some ((o,t,er),dn,c)):
  Po (cS x) (λe:jO=>e.2.2.2.1=dn):=by
 unfold cS nL
 try dsimp only
 show PW _ _
 try dsimp only
 rw[hp,aru]
 intro d hd
 cases hd
 repeat' (first
  |(rw[aGk];exact trivial)
  |(with_reducible refine aBf (aOZ _) λe _ he=> ?_)
  |(rw[alW];refine⟨λ_=> ?_,λ_=> ?_⟩)
  |(rw[aSh];refine⟨λe0 e1=> ?_,λe0 e1=> ?_⟩)
  |(rw[aru];intro _ _))
 all_goals first|(rw[XB];exact he)|rw[XB]
def dnv (k:Int):Int×(Int×Int×(Int×Int×Int)×Int×Int×Int)×Bool:=(8000,(8000*k,0,(0,0,0),0,0,0),decide (0<k))
theorem aVN (c:Bool):∀k:Nat,k<30->bH (((8000*((k:Int)+1)),8000,(0,0,0),0,0, -84238486),dnv k,c)=some ((((8000*((k:Int)+1)),8000,0,0,0,0,0, -84238486),true,0),(8000,((8000*((k:Int)+1)),0,(0,0,0),0,0,0),true),c)
 |0,_=>by kernel_rfl
 |1,_=>by kernel_rfl
 |2,_=>by kernel_rfl
 |3,_=>by kernel_rfl
 |4,_=>by kernel_rfl
 |5,_=>by kernel_rfl
 |6,_=>by kernel_rfl
 |7,_=>by kernel_rfl
 |8,_=>by kernel_rfl
 |9,_=>by kernel_rfl
 |10,_=>by kernel_rfl
 |11,_=>by kernel_rfl
 |12,_=>by kernel_rfl
 |13,_=>by kernel_rfl
 |14,_=>by kernel_rfl
 |15,_=>by kernel_rfl
 |16,_=>by kernel_rfl
 |17,_=>by kernel_rfl
 |18,_=>by kernel_rfl
 |19,_=>by kernel_rfl
 |20,_=>by kernel_rfl
 |21,_=>by kernel_rfl
 |22,_=>by kernel_rfl
 |23,_=>by kernel_rfl
 |24,_=>by kernel_rfl
 |25,_=>by kernel_rfl
 |26,_=>by kernel_rfl
 |27,_=>by kernel_rfl
 |28,_=>by kernel_rfl
 |29,_=>by kernel_rfl
 |k+30,h=>absurd h (by omega)
theorem aVO (c:Bool):∀k:Nat,k<30->bH (((8000*((k:Int)+1))-4000,4000,(0,0,0),0,0, -42119243),dnv k,c)=some (((0,0,0,0,0,0,0,0),false,0),(8000,((8000*((k:Int)+1))-4000,4000,(0,0,0),0,0, -42119243),true),c)
 |0,_=>by kernel_rfl
 |1,_=>by kernel_rfl
 |2,_=>by kernel_rfl
 |3,_=>by kernel_rfl
 |4,_=>by kernel_rfl
 |5,_=>by kernel_rfl
 |6,_=>by kernel_rfl
 |7,_=>by kernel_rfl
 |8,_=>by kernel_rfl
 |9,_=>by kernel_rfl
 |10,_=>by kernel_rfl
 |11,_=>by kernel_rfl
 |12,_=>by kernel_rfl
 |13,_=>by kernel_rfl
 |14,_=>by kernel_rfl
 |15,_=>by kernel_rfl
 |16,_=>by kernel_rfl
 |17,_=>by kernel_rfl
 |18,_=>by kernel_rfl
 |19,_=>by kernel_rfl
 |20,_=>by kernel_rfl
 |21,_=>by kernel_rfl
 |22,_=>by kernel_rfl
 |23,_=>by kernel_rfl
 |24,_=>by kernel_rfl
 |25,_=>by kernel_rfl
 |26,_=>by kernel_rfl
 |27,_=>by kernel_rfl
 |28,_=>by kernel_rfl
 |29,_=>by kernel_rfl
 |k+30,h=>absurd h (by omega)
theorem aVP (c:Bool):∀k:Nat,k<30->bH (((8000*((k:Int)+1)),4000,(0,0,0),0,0, -42119243),(8000,((8000*((k:Int)+1))-4000,4000,(0,0,0),0,0, -42119243),true),c)=some ((((8000*((k:Int)+1)),8000,0,0,0,0,0, -84238486),true,0),(8000,((8000*((k:Int)+1)),0,(0,0,0),0,0,0),true),c)
 |0,_=>by kernel_rfl
 |1,_=>by kernel_rfl
 |2,_=>by kernel_rfl
 |3,_=>by kernel_rfl
 |4,_=>by kernel_rfl
 |5,_=>by kernel_rfl
 |6,_=>by kernel_rfl
 |7,_=>by kernel_rfl
 |8,_=>by kernel_rfl
 |9,_=>by kernel_rfl
 |10,_=>by kernel_rfl
 |11,_=>by kernel_rfl
 |12,_=>by kernel_rfl
 |13,_=>by kernel_rfl
 |14,_=>by kernel_rfl
 |15,_=>by kernel_rfl
 |16,_=>by kernel_rfl
 |17,_=>by kernel_rfl
 |18,_=>by kernel_rfl
 |19,_=>by kernel_rfl
 |20,_=>by kernel_rfl
 |21,_=>by kernel_rfl
 |22,_=>by kernel_rfl
 |23,_=>by kernel_rfl
 |24,_=>by kernel_rfl
 |25,_=>by kernel_rfl
 |26,_=>by kernel_rfl
 |27,_=>by kernel_rfl
 |28,_=>by kernel_rfl
 |29,_=>by kernel_rfl
 |k+30,h=>absurd h (by omega)
theorem aS2 (N:Nat)(h1:1<=N)(hN:N<=1999)(n:Int)(hn:n<=30)(d:gZ.B)(hd:d.1.1=n∧1<=d.1.2∧d.1.2<=n+1∧d.2.2.2.2.1=dnv (d.1.2-1)∧((d.2.1.2.2.2.2.1.2:Nat):Int)<=d.1.2∧Qd d.2.1.2.2.2.2.2.2.2.2.2.2.2.2.2.1 d.2.2.2.2.1.2.1.1 d.2.1.2.2.2.2.1.2 (λi=>d.2.2.2.2.2.1.2.1 (d.2.1.2.2.2.2.1.1+i))∧d.2.2.2.2.2.2.1.2.2.1<=64∧d.2.2.2.2.2.2.2.1.2.2.1<=64∧d.2.2.2.2.2.2.2.2.1.2.2.1<=64∧d.2.2.2.2.2.2.2.2.2.1.2.2.1<=64∧d.2.2.2.2.2.2.2.2.2.2.1.2.2.1<=64∧d.2.2.2.2.2.2.2.2.2.2.2.1.2.2.1<=64∧d.2.2.2.2.2.2.2.2.2.2.2.2.2.1.1<=(N:Int)∧d.2.2.2.2.2.2.2.2.2.2.2.2.2.1.2.2<=N∧d.2.1=d.2.2.1∧d.2.2.2.1=d.2.2.2.2.2.2.2.2.2.2.2.2.2.2.2.1∧d.2.2.2.2.1=d.2.2.2.2.2.2.2.2.2.2.2.2.2.2.2.2.1∧d.2.2.2.2.2.1=d.2.2.2.2.2.2.2.2.2.2.2.2.2.2.2.2.2.1∧d.2.2.2.2.2.2.1=d.2.2.2.2.2.2.2.2.2.2.2.2.2.2.2.2.2.2.1∧d.2.2.2.2.2.2.2.1=d.2.2.2.2.2.2.2.2.2.2.2.2.2.2.2.2.2.2.2.1∧d.2.2.2.2.2.2.2.2.1=d.2.2.2.2.2.2.2.2.2.2.2.2.2.2.2.2.2.2.2.2.1∧d.2.2.2.2.2.2.2.2.2.1=d.2.2.2.2.2.2.2.2.2.2.2.2.2.2.2.2.2.2.2.2.2.1∧d.2.2.2.2.2.2.2.2.2.2.1=d.2.2.2.2.2.2.2.2.2.2.2.2.2.2.2.2.2.2.2.2.2.2.1∧d.2.2.2.2.2.2.2.2.2.2.2.1=d.2.2.2.2.2.2.2.2.2.2.2.2.2.2.2.2.2.2.2.2.2.2.2.1∧d.2.2.2.2.2.2.2.2.2.2.2.2.1=d.2.2.2.2.2.2.2.2.2.2.2.2.2.2.2.2.2.2.2.2.2.2.2.2.1∧d.2.2.2.2.2.2.2.2.2.2.2.2.2.1=d.2.2.2.2.2.2.2.2.2.2.2.2.2.2.2.2.2.2.2.2.2.2.2.2.2.1∧d.2.2.2.2.2.2.2.2.2.2.2.2.2.2.1=d.2.2.2.2.2.2.2.2.2.2.2.2.2.2.2.2.2.2.2.2.2.2.2.2.2.2.1∧d.2.2.2.2.2.2.2.2.2.2.2.2.2.2.2.2.2.2.2.2.2.2.2.2.2.2.2.1=d.2.2.2.2.2.2.2.2.2.2.2.2.2.2.2.2.2.2.2.2.2.2.2.2.2.2.2.2.2.2.2.2.2.2.1∧d.2.2.2.2.2.2.2.2.2.2.2.2.2.2.2.2.2.2.2.2.2.2.2.2.2.2.2.2.1=d.2.2.2.2.2.2.2.2.2.2.2.2.2.2.2.2.2.2.2.2.2.2.2.2.2.2.2.2.2.2.2.2.2.2.2.1∧d.2.2.2.2.2.2.2.2.2.2.2.2.2.2.2.2.2.2.2.2.2.2.2.2.2.2.2.2.2.1=d.2.2.2.2.2.2.2.2.2.2.2.2.2.2.2.2.2.2.2.2.2.2.2.2.2.2.2.2.2.2.2.2.2.2.2.2.1∧d.2.2.2.2.2.2.2.2.2.2.2.2.2.2.2.2.2.2.2.2.2.2.2.2.2.2.2.2.2.2.1=d.2.2.2.2.2.2.2.2.2.2.2.2.2.2.2.2.2.2.2.2.2.2.2.2.2.2.2.2.2.2.2.2.2.2.2.2.2.1∧d.2.2.2.2.2.2.2.2.2.2.2.2.2.2.2.2.2.2.2.2.2.2.2.2.2.2.2.2.2.2.2.1=d.2.2.2.2.2.2.2.2.2.2.2.2.2.2.2.2.2.2.2.2.2.2.2.2.2.2.2.2.2.2.2.2.2.2.2.2.2.2.1∧d.2.2.2.2.2.2.2.2.2.2.2.2.2.2.2.2.2.2.2.2.2.2.2.2.2.2.2.2.2.2.2.2.1=d.2.2.2.2.2.2.2.2.2.2.2.2.2.2.2.2.2.2.2.2.2.2.2.2.2.2.2.2.2.2.2.2.2.2.2.2.2.2.2.1∧d.2.2.2.2.2.2.2.2.2.2.2.2.2.2.2.2.2.2.2.2.2.2.2.2.2.2.2.2.2.2.2.2.2.1=d.2.2.2.2.2.2.2.2.2.2.2.2.2.2.2.2.2.2.2.2.2.2.2.2.2.2.2.2.2.2.2.2.2.2.2.2.2.2.2.2):Ok (Ip d) (λx:o8=>x.2.2.2.2.2.2.2.2.2.2.2.2.2.1.2.2<=N∧x.2.1=x.2.2.1∧x.2.2.2.1=x.2.2.2.2.2.2.2.2.2.2.2.2.2.2.2.1∧x.2.2.2.2.1=x.2.2.2.2.2.2.2.2.2.2.2.2.2.2.2.2.1∧x.2.2.2.2.2.1=x.2.2.2.2.2.2.2.2.2.2.2.2.2.2.2.2.2.1∧x.2.2.2.2.2.2.1=x.2.2.2.2.2.2.2.2.2.2.2.2.2.2.2.2.2.2.1∧x.2.2.2.2.2.2.2.1=x.2.2.2.2.2.2.2.2.2.2.2.2.2.2.2.2.2.2.2.1∧x.2.2.2.2.2.2.2.2.1=x.2.2.2.2.2.2.2.2.2.2.2.2.2.2.2.2.2.2.2.2.1∧x.2.2.2.2.2.2.2.2.2.1=x.2.2.2.2.2.2.2.2.2.2.2.2.2.2.2.2.2.2.2.2.2.1∧x.2.2.2.2.2.2.2.2.2.2.1=x.2.2.2.2.2.2.2.2.2.2.2.2.2.2.2.2.2.2.2.2.2.2.1∧x.2.2.2.2.2.2.2.2.2.2.2.1=x.2.2.2.2.2.2.2.2.2.2.2.2.2.2.2.2.2.2.2.2.2.2.2.1∧x.2.2.2.2.2.2.2.2.2.2.2.2.1=x.2.2.2.2.2.2.2.2.2.2.2.2.2.2.2.2.2.2.2.2.2.2.2.2.1∧x.2.2.2.2.2.2.2.2.2.2.2.2.2.1=x.2.2.2.2.2.2.2.2.2.2.2.2.2.2.2.2.2.2.2.2.2.2.2.2.2.1∧x.2.2.2.2.2.2.2.2.2.2.2.2.2.2.1=x.2.2.2.2.2.2.2.2.2.2.2.2.2.2.2.2.2.2.2.2.2.2.2.2.2.2.1∧x.2.2.2.2.2.2.2.2.2.2.2.2.2.2.2.2.2.2.2.2.2.2.2.2.2.2.2.1=x.2.2.2.2.2.2.2.2.2.2.2.2.2.2.2.2.2.2.2.2.2.2.2.2.2.2.2.2.2.2.2.2.2.2.1∧x.2.2.2.2.2.2.2.2.2.2.2.2.2.2.2.2.2.2.2.2.2.2.2.2.2.2.2.2.1=x.2.2.2.2.2.2.2.2.2.2.2.2.2.2.2.2.2.2.2.2.2.2.2.2.2.2.2.2.2.2.2.2.2.2.2.1∧x.2.2.2.2.2.2.2.2.2.2.2.2.2.2.2.2.2.2.2.2.2.2.2.2.2.2.2.2.2.1=x.2.2.2.2.2.2.2.2.2.2.2.2.2.2.2.2.2.2.2.2.2.2.2.2.2.2.2.2.2.2.2.2.2.2.2.2.1∧x.2.2.2.2.2.2.2.2.2.2.2.2.2.2.2.2.2.2.2.2.2.2.2.2.2.2.2.2.2.2.1=x.2.2.2.2.2.2.2.2.2.2.2.2.2.2.2.2.2.2.2.2.2.2.2.2.2.2.2.2.2.2.2.2.2.2.2.2.2.1∧x.2.2.2.2.2.2.2.2.2.2.2.2.2.2.2.2.2.2.2.2.2.2.2.2.2.2.2.2.2.2.2.1=x.2.2.2.2.2.2.2.2.2.2.2.2.2.2.2.2.2.2.2.2.2.2.2.2.2.2.2.2.2.2.2.2.2.2.2.2.2.2.1∧x.2.2.2.2.2.2.2.2.2.2.2.2.2.2.2.2.2.2.2.2.2.2.2.2.2.2.2.2.2.2.2.2.1=x.2.2.2.2.2.2.2.2.2.2.2.2.2.2.2.2.2.2.2.2.2.2.2.2.2.2.2.2.2.2.2.2.2.2.2.2.2.2.2.1∧x.2.2.2.2.2.2.2.2.2.2.2.2.2.2.2.2.2.2.2.2.2.2.2.2.2.2.2.2.2.2.2.2.2.1=x.2.2.2.2.2.2.2.2.2.2.2.2.2.2.2.2.2.2.2.2.2.2.2.2.2.2.2.2.2.2.2.2.2.2.2.2.2.2.2.2):=
 bd (s:=_) (λd:gZ.B=>d.1.1=n∧1<=d.1.2∧d.1.2<=n+1∧d.2.2.2.2.1=dnv (d.1.2-1)∧((d.2.1.2.2.2.2.1.2:Nat):Int)<=d.1.2∧Qd d.2.1.2.2.2.2.2.2.2.2.2.2.2.2.2.1 d.2.2.2.2.1.2.1.1 d.2.1.2.2.2.2.1.2 (λi=>d.2.2.2.2.2.1.2.1 (d.2.1.2.2.2.2.1.1+i))∧d.2.2.2.2.2.2.1.2.2.1<=64∧d.2.2.2.2.2.2.2.1.2.2.1<=64∧d.2.2.2.2.2.2.2.2.1.2.2.1<=64∧d.2.2.2.2.2.2.2.2.2.1.2.2.1<=64∧d.2.2.2.2.2.2.2.2.2.2.1.2.2.1<=64∧d.2.2.2.2.2.2.2.2.2.2.2.1.2.2.1<=64∧d.2.2.2.2.2.2.2.2.2.2.2.2.2.1.1<=(N:Int)∧d.2.2.2.2.2.2.2.2.2.2.2.2.2.1.2.2<=N∧d.2.1=d.2.2.1∧d.2.2.2.1=d.2.2.2.2.2.2.2.2.2.2.2.2.2.2.2.1∧d.2.2.2.2.1=d.2.2.2.2.2.2.2.2.2.2.2.2.2.2.2.2.1∧d.2.2.2.2.2.1=d.2.2.2.2.2.2.2.2.2.2.2.2.2.2.2.2.2.1∧d.2.2.2.2.2.2.1=d.2.2.2.2.2.2.2.2.2.2.2.2.2.2.2.2.2.2.1∧d.2.2.2.2.2.2.2.1=d.2.2.2.2.2.2.2.2.2.2.2.2.2.2.2.2.2.2.2.1∧d.2.2.2.2.2.2.2.2.1=d.2.2.2.2.2.2.2.2.2.2.2.2.2.2.2.2.2.2.2.2.1∧d.2.2.2.2.2.2.2.2.2.1=d.2.2.2.2.2.2.2.2.2.2.2.2.2.2.2.2.2.2.2.2.2.1∧d.2.2.2.2.2.2.2.2.2.2.1=d.2.2.2.2.2.2.2.2.2.2.2.2.2.2.2.2.2.2.2.2.2.2.1∧d.2.2.2.2.2.2.2.2.2.2.2.1=d.2.2.2.2.2.2.2.2.2.2.2.2.2.2.2.2.2.2.2.2.2.2.2.1∧d.2.2.2.2.2.2.2.2.2.2.2.2.1=d.2.2.2.2.2.2.2.2.2.2.2.2.2.2.2.2.2.2.2.2.2.2.2.2.1∧d.2.2.2.2.2.2.2.2.2.2.2.2.2.1=d.2.2.2.2.2.2.2.2.2.2.2.2.2.2.2.2.2.2.2.2.2.2.2.2.2.1∧d.2.2.2.2.2.2.2.2.2.2.2.2.2.2.1=d.2.2.2.2.2.2.2.2.2.2.2.2.2.2.2.2.2.2.2.2.2.2.2.2.2.2.1∧d.2.2.2.2.2.2.2.2.2.2.2.2.2.2.2.2.2.2.2.2.2.2.2.2.2.2.2.1=d.2.2.2.2.2.2.2.2.2.2.2.2.2.2.2.2.2.2.2.2.2.2.2.2.2.2.2.2.2.2.2.2.2.2.1∧d.2.2.2.2.2.2.2.2.2.2.2.2.2.2.2.2.2.2.2.2.2.2.2.2.2.2.2.2.1=d.2.2.2.2.2.2.2.2.2.2.2.2.2.2.2.2.2.2.2.2.2.2.2.2.2.2.2.2.2.2.2.2.2.2.2.1∧d.2.2.2.2.2.2.2.2.2.2.2.2.2.2.2.2.2.2.2.2.2.2.2.2.2.2.2.2.2.1=d.2.2.2.2.2.2.2.2.2.2.2.2.2.2.2.2.2.2.2.2.2.2.2.2.2.2.2.2.2.2.2.2.2.2.2.2.1∧d.2.2.2.2.2.2.2.2.2.2.2.2.2.2.2.2.2.2.2.2.2.2.2.2.2.2.2.2.2.2.1=d.2.2.2.2.2.2.2.2.2.2.2.2.2.2.2.2.2.2.2.2.2.2.2.2.2.2.2.2.2.2.2.2.2.2.2.2.2.1∧d.2.2.2.2.2.2.2.2.2.2.2.2.2.2.2.2.2.2.2.2.2.2.2.2.2.2.2.2.2.2.2.1=d.2.2.2.2.2.2.2.2.2.2.2.2.2.2.2.2.2.2.2.2.2.2.2.2.2.2.2.2.2.2.2.2.2.2.2.2.2.2.1∧d.2.2.2.2.2.2.2.2.2.2.2.2.2.2.2.2.2.2.2.2.2.2.2.2.2.2.2.2.2.2.2.2.1=d.2.2.2.2.2.2.2.2.2.2.2.2.2.2.2.2.2.2.2.2.2.2.2.2.2.2.2.2.2.2.2.2.2.2.2.2.2.2.2.1∧d.2.2.2.2.2.2.2.2.2.2.2.2.2.2.2.2.2.2.2.2.2.2.2.2.2.2.2.2.2.2.2.2.2.1=d.2.2.2.2.2.2.2.2.2.2.2.2.2.2.2.2.2.2.2.2.2.2.2.2.2.2.2.2.2.2.2.2.2.2.2.2.2.2.2.2) (λd:gZ.B=>Int.toNat (n+1-d.1.2)) (λx:o8=>x.2.2.2.2.2.2.2.2.2.2.2.2.2.1.2.2<=N∧x.2.1=x.2.2.1∧x.2.2.2.1=x.2.2.2.2.2.2.2.2.2.2.2.2.2.2.2.1∧x.2.2.2.2.1=x.2.2.2.2.2.2.2.2.2.2.2.2.2.2.2.2.1∧x.2.2.2.2.2.1=x.2.2.2.2.2.2.2.2.2.2.2.2.2.2.2.2.2.1∧x.2.2.2.2.2.2.1=x.2.2.2.2.2.2.2.2.2.2.2.2.2.2.2.2.2.2.1∧x.2.2.2.2.2.2.2.1=x.2.2.2.2.2.2.2.2.2.2.2.2.2.2.2.2.2.2.2.1∧x.2.2.2.2.2.2.2.2.1=x.2.2.2.2.2.2.2.2.2.2.2.2.2.2.2.2.2.2.2.2.1∧x.2.2.2.2.2.2.2.2.2.1=x.2.2.2.2.2.2.2.2.2.2.2.2.2.2.2.2.2.2.2.2.2.1∧x.2.2.2.2.2.2.2.2.2.2.1=x.2.2.2.2.2.2.2.2.2.2.2.2.2.2.2.2.2.2.2.2.2.2.1∧x.2.2.2.2.2.2.2.2.2.2.2.1=x.2.2.2.2.2.2.2.2.2.2.2.2.2.2.2.2.2.2.2.2.2.2.2.1∧x.2.2.2.2.2.2.2.2.2.2.2.2.1=x.2.2.2.2.2.2.2.2.2.2.2.2.2.2.2.2.2.2.2.2.2.2.2.2.1∧x.2.2.2.2.2.2.2.2.2.2.2.2.2.1=x.2.2.2.2.2.2.2.2.2.2.2.2.2.2.2.2.2.2.2.2.2.2.2.2.2.1∧x.2.2.2.2.2.2.2.2.2.2.2.2.2.2.1=x.2.2.2.2.2.2.2.2.2.2.2.2.2.2.2.2.2.2.2.2.2.2.2.2.2.2.1∧x.2.2.2.2.2.2.2.2.2.2.2.2.2.2.2.2.2.2.2.2.2.2.2.2.2.2.2.1=x.2.2.2.2.2.2.2.2.2.2.2.2.2.2.2.2.2.2.2.2.2.2.2.2.2.2.2.2.2.2.2.2.2.2.1∧x.2.2.2.2.2.2.2.2.2.2.2.2.2.2.2.2.2.2.2.2.2.2.2.2.2.2.2.2.1=x.2.2.2.2.2.2.2.2.2.2.2.2.2.2.2.2.2.2.2.2.2.2.2.2.2.2.2.2.2.2.2.2.2.2.2.1∧x.2.2.2.2.2.2.2.2.2.2.2.2.2.2.2.2.2.2.2.2.2.2.2.2.2.2.2.2.2.1=x.2.2.2.2.2.2.2.2.2.2.2.2.2.2.2.2.2.2.2.2.2.2.2.2.2.2.2.2.2.2.2.2.2.2.2.2.1∧x.2.2.2.2.2.2.2.2.2.2.2.2.2.2.2.2.2.2.2.2.2.2.2.2.2.2.2.2.2.2.1=x.2.2.2.2.2.2.2.2.2.2.2.2.2.2.2.2.2.2.2.2.2.2.2.2.2.2.2.2.2.2.2.2.2.2.2.2.2.1∧x.2.2.2.2.2.2.2.2.2.2.2.2.2.2.2.2.2.2.2.2.2.2.2.2.2.2.2.2.2.2.2.1=x.2.2.2.2.2.2.2.2.2.2.2.2.2.2.2.2.2.2.2.2.2.2.2.2.2.2.2.2.2.2.2.2.2.2.2.2.2.2.1∧x.2.2.2.2.2.2.2.2.2.2.2.2.2.2.2.2.2.2.2.2.2.2.2.2.2.2.2.2.2.2.2.2.1=x.2.2.2.2.2.2.2.2.2.2.2.2.2.2.2.2.2.2.2.2.2.2.2.2.2.2.2.2.2.2.2.2.2.2.2.2.2.2.2.1∧x.2.2.2.2.2.2.2.2.2.2.2.2.2.2.2.2.2.2.2.2.2.2.2.2.2.2.2.2.2.2.2.2.2.1=x.2.2.2.2.2.2.2.2.2.2.2.2.2.2.2.2.2.2.2.2.2.2.2.2.2.2.2.2.2.2.2.2.2.2.2.2.2.2.2.2) (λd hd=>by
  obtain⟨di,ff,fg,fa,da,qa,a0,a1,a2,a3,a4,a5,ma,pa,ja,fb,db,qb,c0,c1,c2,c3,c4,c5,mb,pb,jb,r0,r1,r2,r3,r4,r5,oa,s0,s1,s2,s3,s4,s5,ob⟩:=d
  dsimp only at hd
  obtain⟨i0,i1,i2,i3,i4,i5,b0,b1,b2,b3,b4,b5,p0,p1,E1,E2,E3,E4,E5,E6,E7,E8,E9,E10,E11,E12,E13,E14,E15,E16,E17,E18,E19,E20⟩:=hd
  subst E1 E2 E3 E4 E5 E6 E7 E8 E9 E10 E11 E12 E13 E14 E15 E16 E17 E18 E19 E20
  unfold Io
  dsimp only
  rw[aL]
  refine⟨λh=> ?_,λ_=>by rw[av];exact⟨p1,rfl,rfl,rfl,rfl,rfl,rfl,rfl,rfl,rfl,rfl,rfl,rfl,rfl,rfl,rfl,rfl,rfl,rfl,rfl,rfl⟩⟩
  have h:=of_decide_eq_true h
  have hi:di.2<=n:=by rw[<-i0];exact h
  obtain⟨k,hk⟩:∃k:Nat,di.2=(k:Int)+1:=⟨Int.toNat (di.2-1),by omega⟩
  have aS3:k<30:=by omega
  have w8:wI (8000*di.2)=8000*((k:Int)+1):=by rw[hk];exact eK (by omega) (by omega)
  have w4:wI (8000*((k:Int)+1)-4000)=8000*((k:Int)+1)-4000:=eK (by omega) (by omega)
  have w1:wI (di.2+1)=di.2+1:=bf (by omega) (by omega)
  have wh:wI (Int.tdiv (-84238486) 2)= -42119243:=by decide
  have wk:wI (-84238486- -42119243)= -42119243:=by decide
  have e3:da=dnv k:=by rw[i3,hk,show(k:Int)+1-1=(k:Int) by omega]
  subst e3
  rw[w8,aOS,bR]
  dsimp only
  rw[wh,w4,wk,w1]
  simp only[aR,aC]
  have pa':=aVN ff.2.1 k aS3
  with_reducible refine aA (Ok.with (aUa N h1 hN _ ?_ ?_ ?_ ?_ ?_ ?_ ?_ ?_ ?_ ?_ ?_) (aUf _ _ _ _ _ _ pa')) λe ge he=> ?_
  ·show ff.2.2.2.2.1.2<=1998
   omega
  ·exact b0
  ·exact b1
  ·exact b2
  ·exact b3
  ·exact b4
  ·exact b5
  ·exact p0
  ·exact p1
  ·show decide (0<(k:Int))=false->8000*(k:Int)<=0
   intro h
   have h:=of_decide_eq_false h
   omega
  ·exact i5
  obtain⟨⟨u0,_,_,u3,v0,v1,v2,v3,v4,v5,u4,u5⟩,u6⟩:=he
  repeat rw[aC]
  with_reducible refine aS1 _ (0,0,0,0,0,0,0,0) (8000,((8000*((k:Int)+1))-4000,4000,(0,0,0),0,0, -42119243),true) ff.2.1 ?_ ?_
  ·exact aVO ff.2.1 k aS3
  dsimp only
  try simp only[aR,aC]
  repeat rw[aC]
  with_reducible refine aOX _ _ e ge ?_ ?_ ?_ ?_ ?_
  ·rfl
  ·rfl
  ·exact(aVP ff.2.1 k aS3).trans pa'.symm
  ·simp only[Nat.zero_add]
  rw[av]
  have u0:e.2.1.2.2.2.2.1.2<=ff.2.2.2.2.1.2+1:=u0
  have u4:e.2.2.2.2.2.2.2.2.2.2.2.2.1.1=pa.1:=u4
  have u6:e.2.2.2.1=(8000,((8000*((k:Int)+1)),0,(0,0,0),0,0,0),true):=u6
  refine⟨⟨i0,by show 1<=di.2+1;omega,by show di.2+1<=n+1;omega,?_,by show((e.2.1.2.2.2.2.1.2:Nat):Int)<=di.2+1;omega,u3,Nat.le_trans v0.len b0,Nat.le_trans v1.len b1,Nat.le_trans v2.len b2,Nat.le_trans v3.len b3,Nat.le_trans v4.len b4,Nat.le_trans v5.len b5,by show e.2.2.2.2.2.2.2.2.2.2.2.2.1.1<=(N:Int);rw[u4];exact p0,u5,rfl,rfl,rfl,rfl,rfl,rfl,rfl,rfl,rfl,rfl,rfl,rfl,rfl,rfl,rfl,rfl,rfl,rfl,rfl,rfl⟩,by show Int.toNat (n+1-(di.2+1))<Int.toNat (n+1-di.2);omega⟩
  show e.2.2.2.1=dnv (di.2+1-1)
  rw[u6,hk]
  unfold dnv
  rw[show(k:Int)+1+1-1=(k:Int)+1 by omega,decide_eq_true (show(0:Int)<(k:Int)+1 by omega)]) 2000 d hd (by omega)
theorem aJ8 (t:Int):Po (rq t) (λr:Bh=>match r with|.inl _=>True|.inr v=>v=t):=by
 unfold rq Hl
 show PW _ _
 rw[alW]
 refine⟨λ_=>by rw[XB];trivial,λ_=> ?_⟩
 rw[alW]
 exact⟨λ_=>by rw[XB];trivial,λ_=>by rw[XB]⟩
theorem aJ9 (x:Nk.B):Po (xj x) (λr:Wq=>match r with|.inl _=>True|.inr e=>e.2.2.1=x.1):=by
 unfold xj afs
 try dsimp only
 show PW _ _
 try dsimp only
 repeat' (first
  |(rw[aGk];exact trivial)
  |(with_reducible refine aBf (aJ8 _) λdd _ hdd=> ?_)
  |(rw[alW];refine⟨λ_=> ?_,λ_=> ?_⟩)
  |(rw[aSh];refine⟨λe0 e1=> ?_,λe0 e1=> ?_⟩<;>subst e1)
  |(rw[aru];intro _ _))
 all_goals (rw[XB];first|exact trivial|exact hdd)
theorem aDY (x:mV.B):Ok (tq x) (λr:Nt=>r=true):=by
 unfold tq Nu
 try dsimp only
 show PQ _ _
 rw[show S8=some true from rfl,bR,show(!true)=false from rfl,No]
 obtain⟨r,g,hr⟩:=(aT8 (8000,x.1.2)).with (aJ9 _)
 rw[g,bR]
 cases r with
 |inl a=>simp only[aC,bR,av]
 |inr a=>
 simp only[No,bR]
 rw[aL]
 refine⟨λ_=>by rw[av],λn0=> ?_⟩
 have n0:=of_decide_eq_false n0
 rw[aL]
 refine⟨λ_=>by rw[av],λn1=> ?_⟩
 have n1:=of_decide_eq_false n1
 repeat rw[aC]
 obtain⟨⟨b0,b1,o0,o1,s0,s1,s2,s3,s4,s5,u⟩,ht⟩:=hr
 have o0:1<=x.1.2.2.2.2.2.2.2.2.2.2.2.2.1:=o0
 have o1:x.1.2.2.2.2.2.2.2.2.2.2.2.2.1<=64:=o1
 have u:a.2.2.2.2.2.2.2.2.2.2.2.1.1=x.1.2.2.2.2.2.2.2.2.2.2.2.2.1:=u
 have ht:a.2.2.1=8000:=ht
 obtain⟨N,hN⟩:∃N:Nat,x.1.2.2.2.2.2.2.2.2.2.2.2.2.1=(N:Int):=⟨Int.toNat x.1.2.2.2.2.2.2.2.2.2.2.2.2.1,(Int.toNat_of_nonneg (by omega)).symm⟩
 with_reducible refine aA (aS2 N (by omega) (by omega) x.2 (by omega) _ ⟨rfl,(show(1:Int)<=1 by decide),?_,?_,?_,?_,?_,?_,?_,?_,?_,?_,?_,?_,rfl,rfl,rfl,rfl,rfl,rfl,rfl,rfl,rfl,rfl,rfl,rfl,rfl,rfl,rfl,rfl,rfl,rfl,rfl,rfl⟩) λe ge he=> ?_
 ·show(1:Int)<=x.2+1
  omega
 ·show(a.2.2.1,_,_)=_
  rw[ht]
  rfl
 ·show((0:Nat):Int)<=1
  decide
 ·exact⟨Int.le_refl 0,λi k _ h=>absurd h (Nat.not_lt_zero _)⟩
 iterate 6 exact Nat.zero_le _
 ·show a.2.2.2.2.2.2.2.2.2.2.2.1.1<=(N:Int)
  omega
 ·exact Nat.zero_le _
 obtain⟨di,ff,fg,fa,da,qa,a0,a1,a2,a3,a4,a5,ma,pa,ja,fb,db,qb,c0,c1,c2,c3,c4,c5,mb,pb,jb,r0,r1,r2,r3,r4,r5,oa,s0,s1,s2,s3,s4,s5,ob⟩:=e
 dsimp only at he
 obtain⟨p1,E1,E2,E3,E4,E5,E6,E7,E8,E9,E10,E11,E12,E13,E14,E15,E16,E17,E18,E19,E20⟩:=he
 subst E1 E2 E3 E4 E5 E6 E7 E8 E9 E10 E11 E12 E13 E14 E15 E16 E17 E18 E19 E20
 try dsimp only
 simp only[aR,aC]
 with_reducible refine aA (aCK _) λsa ga ha=> ?_
 repeat rw[aC]
 with_reducible refine aA (aCK _) λsb gb hb=> ?_
 have es:sa=sb:=ha.trans hb.symm
 subst es
 simp only[beq_self_eq_true,aJ7,Bool.and_self,Bool.and_true,aC]
 repeat rw[aC]
 with_reducible refine aA (bj.Ok (alg _) (Q:=λ_=>True) λ_ _=>trivial) λst gs _=> ?_
 repeat rw[aC]
 rw[gs,bR]
 simp only[beq_self_eq_true,Bool.and_self,Bool.and_true,aC]
 repeat rw[aC]
 with_reducible refine aA (bj.Ok (aOV _ ?_) (Q:=λ_=>True) λ_ _=>trivial) λou go _=> ?_
 ·show pa.2.2<=1999
  omega
 repeat rw[aC]
 rw[go,bR,av]
 exact beq_self_eq_true _
theorem aUg (x:mV.B):tq x=some true:=by
 obtain⟨r,e,h⟩:=aDY x
 rw[e,h]
end Go.Proofs.YtldgljclcgaibaaGreat
