/-
  Parts of the proof: TDg TDh TWk QA QT TTw
-/
import Derived.Test.YtcmfbkneahoonaaGreatZAE
import Derived.Test.YtcmfbkneahoonaaGreatZAG
import Derived.Test.YtcmfbkneahoonaaGreatZAH
import Derived.Test.YtcmfbkneahoonaaGreatZAK
import Derived.Test.YtcmfbkneahoonaaGreatZAM
set_option maxRecDepth 100000
set_option maxHeartbeats 4000000
set_option linter.unusedVariables false
set_option linter.unusedSimpArgs false
namespace Go.Proofs.YtcmfbkneahoonaaGreat
open Go.Ab Go.Ab.Pg
theorem E2 {α:Type}(f:Nat->α)(y j:Nat)(v:α):(bif Nat.beq j y then v else f j)=if j=y then v else f j:=by
 by_cases h:j=y
 ·rw[if_pos h,h,Nat.beq_refl];rfl
 ·rw[if_neg h]
  cases e:Nat.beq j y
  ·rfl
  ·exact absurd (Nat.eq_of_beq_eq_true e) h
theorem aAs {α:Type}(i y:Nat)(a b:α):(bif Nat.beq i y then a else b)=if i=y then a else b:=by
 exact E2 (λ_=>b) y i a
def okV (d:Int):Prop:=d=17592186044416∨d=68719476736∨d=67108864∨d=4294967296∨d=17179869184
theorem okV.le {d:Int}(h:okV d):1<=d∧d<=72057594037927936:=by
 rcases h with rfl|rfl|rfl|rfl|rfl<;>decide
theorem ac1 (x lo hi:Int)(b:Bool)(h:lo<=x)(k:x<=hi):bc x lo hi b=some (x,b):=by
 have h1:decide (lo>hi)=false:=decide_eq_false (by omega)
 have h2:decide (x<lo)=false:=decide_eq_false (by omega)
 have h3:decide (x>hi)=false:=decide_eq_false (by omega)
 unfold bc vx
 rw[h1,h2,h3];rfl
theorem Oq {x:Int}(h: -1152921504606846976<=x∧x<=1152921504606846976):sat x=x:=(aOn h).1
theorem GZ {x:Int}(h: -1152921504606846976<=x∧x<=1152921504606846976):eV x=false:=(aOn h).2
theorem aH8 (w x:Int)(b:Bool)(hw:w=0∨w=1073741824)(hx: -1152921504606846976<=x∧x<=1152921504606846976):aV w x 30 b=some (if w=0 then 0 else x,b):=by
 have h:=aJ5 w x 30 b (by decide)
 have e1:sat w=w:=Oq (by omega)
 have e2:eV w=false:=GZ (by omega)
 have r:KA (w*x) 30=(if w=0 then 0 else x):=by
  rcases hw with rfl|rfl
  ·rw[Int.zero_mul,if_pos rfl];rfl
  ·rw[if_neg (by decide),Int.mul_comm];exact aJ7 x
 have hr: -1152921504606846976<=(if w=0 then 0 else x)∧(if w=0 then 0 else x)<=1152921504606846976:=by split<;>omega
 rw[e1,e2,Oq hx,GZ hx,r,Oq hr,GZ hr,Bool.or_false,Bool.or_false,Bool.or_false] at h
 exact h
theorem div_zero (d:Int)(b:Bool)(h:okV d):bp 0 d 30 b=some (0,b):=by
 rcases h with rfl|rfl|rfl|rfl|rfl<;>cases b<;>kernel_rfl
theorem sub_zero (x:Int)(b:Bool)(h: -1152921504606846976<=x∧x<=1152921504606846976):bJ x 0 b=some (x,b):=by
 have z:sat 0=0:=Oq (by decide)
 have zo:eV 0=false:=GZ (by decide)
 simp only[bJ,Gk,Pg.cq,Pg.bP,oK,Option.bind_some,Oq h,GZ h,z,zo,Bool.or_false,Int.sub_zero]
 rw[eP (by omega) (by omega),Oq h,GZ h,Bool.or_false]
theorem ayT {f g:Nat->Int}:∀n,(∀j,j<n->f j=g j)->xL f n=xL g n
 |0,_=>rfl
 |n+1,h=>by
  show xL f n+f n=xL g n+g n
  rw[ayT n (λj hj=>h j (by omega)),h n (by omega)]
theorem aKG {f:Nat->Bool}:∀n,(∀j,j<n->f j=false)->Dq f n=false
 |0,_=>rfl
 |n+1,h=>by
  show(Dq f n||f n)=false
  rw[aKG n (λj hj=>h j (by omega)),h n (by omega)];rfl
theorem aFR {f:Nat->Int}(k:Nat):∀n,(∀j,j<n->j≠k->f j=0)->xL f n=if k<n then f k else 0
 |0,_=>by rw[if_neg (by omega)];rfl
 |n+1,h=>by
  show xL f n+f n=_
  rw[aFR k n (λj hj=>h j (by omega))]
  by_cases e:n=k
  ·subst e;rw[if_neg (by omega),if_pos (by omega),Int.zero_add]
  ·rw[h n (by omega) e,Int.add_zero]
   by_cases c:k<n
   ·rw[if_pos c,if_pos (by omega)]
   ·rw[if_neg c,if_neg (by omega)]
theorem aDs (n k:Nat)(hn:n<=100)(hk:k<n)(V:Int)(b w w':Bool)(f g:Nat->Int)(hf:∀j,j<n-> -1152921504606846976<=f j∧f j<=1152921504606846976)(hg:∀j,j<n-> -1152921504606846976<=g j∧g j<=1152921504606846976)
  (hz:∀j,j<n->j≠k->f j*g j=0)(hV:f k*g k=V*1073741824)(r: -1152921504606846976<=V∧V<=1152921504606846976):br 30 n n b f g w w'=some (V,b):=by
 have h:=aJ6 30 (by decide) n hn b f g w w'
 have e:xL (λj=>sat (f j)*sat (g j)) n=V*1073741824:=by
  rw[ayT n (λj hj=>by show sat (f j)*sat (g j)=f j*g j;rw[Oq (hf j hj),Oq (hg j hj)]:∀j,j<n->(λj=>sat (f j)*sat (g j)) j=(λj=>f j*g j) j),aFR k n hz,if_pos hk,hV]
 have a:Dq (λj=>eV (f j)||eV (g j)) n=false:=aKG n λj hj=>by
  show(eV (f j)||eV (g j))=false
  rw[GZ (hf j hj),GZ (hg j hj)];rfl
 rw[e,a,aJ7,Oq r,GZ r,Bool.or_false,Bool.or_false] at h
 exact h
theorem aTF (x:Int)(b:Bool)(h:1<=x)(k:x<=72057594037927936):mf x b=some (x,b):=by
 unfold mf Hi
 rw[Pg.cq,ac1 x 1 72057594037927936 b h k];rfl
theorem aTG (x:Int)(b:Bool)(h:1<=x)(k:x<=72057594037927936):nG x b=some (x,b):=by
 unfold nG CC
 rw[Pg.cq,ac1 x 1 72057594037927936 b h k];rfl
theorem aUU (x:Int)(h:0<=x)(k:x<24):wo x=some true:=by
 have h1:decide (x>=0)=true:=decide_eq_true h
 have h2:decide (x<24)=true:=decide_eq_true k
 unfold wo ON
 rw[h1,h2];rfl
theorem aUV:∀j:Nat,j<24->0<=wI (Int.tdiv (wI ((j:Int)*wI ((j:Int)-1))) 2)∧wI (Int.tdiv (wI ((j:Int)*wI ((j:Int)-1))) 2)+(j:Int)<=276+(if j=0 then 1 else 0):=by decide
theorem aPV {i j:Int}{d:Sw}(h:iD i j=some d)(ok:d.2=true):0<=d.1∧d.1<276:=by
 simp only[iD,EB,bP,bM] at h
 by_cases h0:0<=i
 ·by_cases h1:i<j
  ·simp only[ge_iff_le,h0,h1,decide_true,cond_true,Option.some.injEq] at h
   subst h
   have h2:j<24:=of_decide_eq_true ok
   obtain⟨n,rfl⟩:=Int.eq_ofNat_of_zero_le (by omega:0<=j)
   obtain⟨k1,k2⟩:=aUV n (by omega)
   rw[if_neg (by omega)] at k2
   generalize wI (Int.tdiv (wI ((n:Int)*wI ((n:Int)-1))) 2)=c at*
   show 0<=wI (c+i)∧wI (c+i)<276
   rw[eP (by omega) (by omega)]
   omega
  ·simp only[ge_iff_le,h0,h1,decide_true,decide_false,cond_true,cond_false,Option.some.injEq] at h
   subst h;cases ok
 ·simp only[ge_iff_le,h0,decide_false,cond_false,Option.some.injEq] at h
  subst h;cases ok
theorem aFS (i j:Nat)(h:i<j)(k:j<24):∃p:Int,iD i j=some (p,true)∧0<=p∧p<276:=by
 have c1:decide ((i:Int)>=0)=true:=decide_eq_true (by omega)
 have c2:decide ((i:Int)<(j:Int))=true:=decide_eq_true (by omega)
 have c3:decide ((j:Int)<24)=true:=decide_eq_true (by omega)
 have e:iD i j=some (wI (wI (Int.tdiv (wI ((j:Int)*wI ((j:Int)-1))) 2)+(i:Int)),true):=by
  unfold iD EB
  rw[c1,c2,c3];rfl
 refine⟨_,e,?_⟩
 have:=aPV e rfl
 exact this
theorem aKH (U D:Nat->Int)(hU:∀p,p<276->U p=0)(i j:Nat)(h:i<=j)(k:j<24):Df U D i j=some (if i=j then 1073741824 else 0):=by
 unfold Df asv
 by_cases e:i=j
 ·subst e
  have c0:((i:Int)==(i:Int))=true:=by simp
  have c1:decide ((i:Int)>=0)=true:=decide_eq_true (by omega)
  have c2:decide ((i:Int)<24)=true:=decide_eq_true (by omega)
  rw[c0,c1,c2,if_pos rfl];rfl
 ·have c0:((i:Int)==(j:Int))=false:=by simp;omega
  obtain⟨p,hp,p0,p1⟩:=aFS i j (by omega) k
  have c1:aX p 276=true:=by rw[bn];omega
  have c2:Nat.ble (0+Int.toNat p*1+1) 276=true:=by rw[bL];omega
  rw[c0,if_neg e,Pg.bM,cond_false,Pg.cq,hp,Option.bind_some]
  simp only[Bool.not_true,c1,c2,Pg.bM,cond_false,cond_true,Pg.bP]
  rw[hU _ (by omega)]
theorem aEI (D:Nat->Int)(i j:Nat)(h:i<j)(k:j<24):xc (λ_=>0) D i j 0=some (λ_=>0,D):=by
 obtain⟨p,hp,p0,p1⟩:=aFS i j h k
 have c1:aX p 276=true:=by rw[bn];omega
 have c2:(Nat.ble (0+Int.toNat p*1+1) 276&&Nat.ble (0+Int.toNat p*1+1) 300)=true:=by rw[Bool.and_eq_true,bL,bL];omega
 unfold xc aes
 rw[Pg.cq,hp,Option.bind_some]
 dsimp only
 rw[c1,c2]
 simp only[Pg.bM,cond_true,Pg.bP]
 have e:(λj:Nat=>bif Nat.beq j (Int.toNat p) then(0:Int) else 0)=λ_=>0:=funext λj=>by cases Nat.beq j (Int.toNat p)<;>rfl
 exact congrArg some (Prod.ext e rfl)
theorem aWn (b:Bool)(D:Nat->Int)(hD:∀i,i<24->1<=D i∧D i<=72057594037927936)(d:dP.B)(hd:0<=d.1∧d.1<=24∧d.2.1=b∧(∀p,p<276->d.2.2.1.1 p=0)∧∀i,i<24->d.2.2.1.2 i=D i):Ok (zQ d) (λx:jX=>x.2.1=b∧(∀p,p<276->x.2.2.1.1 p=0)∧∀i,i<24->x.2.2.1.2 i=D i):=
 aZ (s:=_) (λd:dP.B=>0<=d.1∧d.1<=24∧d.2.1=b∧(∀p,p<276->d.2.2.1.1 p=0)∧∀i,i<24->d.2.2.1.2 i=D i) (λd:dP.B=>Int.toNat (24-d.1)) (λx:jX=>x.2.1=b∧(∀p,p<276->x.2.2.1.1 p=0)∧∀i,i<24->x.2.2.1.2 i=D i) (λd hd=>by
  obtain⟨i0,i1,i2,i3,i4⟩:=hd
  have hw:wI (d.1+1)=d.1+1:=bd (by omega) (by omega)
  unfold zP
  dsimp only
  rw[aL]
  refine⟨λh=> ?_,λ_=>by rw[av];exact⟨i2,i3,i4⟩⟩
  have h:=of_decide_eq_true h
  have r0:aX d.1 24=true:=by rw[bn];omega
  have r1:(true&&Nat.ble (276+Int.toNat d.1*1+1) 300)=true:=by rw[Bool.true_and,bL];omega
  have k:=i4 (Int.toNat d.1) (by omega)
  have hd:=hD (Int.toNat d.1) (by omega)
  rw[r0,aC,aTF _ _ (by omega) (by omega),bQ,aC,r1,aC,av,hw]
  refine⟨⟨by show 0<=d.1+1;omega,by show d.1+1<=24;omega,i2,i3,λi hi=> ?_⟩,by show Int.toNat (24-(d.1+1))<_;omega⟩
  show(bif Nat.beq i (Int.toNat d.1) then d.2.2.1.2 (Int.toNat d.1) else d.2.2.1.2 i)=D i
  rw[E2]
  split
  ·rename_i e;rw[e,k]
  ·exact i4 i hi) 2000 d hd (by omega)
theorem aWo (b:Bool)(D:Nat->Int)(d:dQ.B)(hd:0<=d.1∧d.1<=276∧d.2.1=b∧(∀p,p<276->d.2.2.1.1 p=0)∧∀i,i<24->d.2.2.1.2 i=D i):Ok (zT d) (λx:jY=>x.2.1=b∧(∀p,p<276->x.2.2.1.1 p=0)∧∀i,i<24->x.2.2.1.2 i=D i):=
 aZ (s:=_) (λd:dQ.B=>0<=d.1∧d.1<=276∧d.2.1=b∧(∀p,p<276->d.2.2.1.1 p=0)∧∀i,i<24->d.2.2.1.2 i=D i) (λd:dQ.B=>Int.toNat (276-d.1)) (λx:jY=>x.2.1=b∧(∀p,p<276->x.2.2.1.1 p=0)∧∀i,i<24->x.2.2.1.2 i=D i) (λd hd=>by
  obtain⟨i0,i1,i2,i3,i4⟩:=hd
  have hw:wI (d.1+1)=d.1+1:=bd (by omega) (by omega)
  unfold zR
  dsimp only
  rw[aL]
  refine⟨λh=> ?_,λ_=>by rw[av];exact⟨i2,i3,i4⟩⟩
  have h:=of_decide_eq_true h
  have r0:aX d.1 276=true:=by rw[bn];omega
  have r1:Nat.ble (0+Int.toNat d.1*1+1) 276=true:=by rw[bL];omega
  have r2:Nat.ble (0+Int.toNat d.1*1+1) 300=true:=by rw[bL];omega
  rw[r0,r1,r2,i3 (Int.toNat d.1) (by omega),aC,aC,ac1 0 _ _ _ (by decide) (by decide),bQ,aC,Bool.true_and,aC,av,hw]
  refine⟨⟨by show 0<=d.1+1;omega,by show d.1+1<=276;omega,i2,λi hi=> ?_,i4⟩,by show Int.toNat (276-(d.1+1))<_;omega⟩
  show(bif Nat.beq i (Int.toNat d.1) then 0 else d.2.2.1.1 i)=0
  rw[E2]
  split
  ·rfl
  ·exact i3 i hi) 2000 d hd (by omega)
theorem aNx (U D:Nat->Int)(b:Bool)(hU:∀p,p<276->U p=0)(hD:∀i,i<24->1<=D i∧D i<=72057594037927936):Ok (fh U D b) (λr:Mv=>r.2=b∧(∀p,p<276->r.1.1 p=0)∧∀i,i<24->r.1.2 i=D i):=by
 unfold fh Ev
 show PQ _ _
 refine ay (aWn b D hD _ ⟨Int.le_refl 0,(show(0:Int)<=24 by decide),rfl,hU,λ_ _=>rfl⟩) λx _ hx=> ?_
 refine ay (aWo b D _ ⟨Int.le_refl 0,(show(0:Int)<=276 by decide),hx⟩) λy _ hy=> ?_
 rw[av];exact hy
theorem aWp (k:Nat)(hk:k<24)(w d:dR.B)(hU:∀p,p<276->w.2.2.2.1.1 p=0)(hd:0<=d.1.2.2.2∧d.1.2.2.2<=d.1.2.2.1∧d.1.2.2.1=(k:Int)+1∧d.1.1=k∧d.1.2.1=k∧d.2.1=w.2.1∧d.2.2.1=w.2.2.1∧d.2.2.2.1=w.2.2.2.1∧d.2.2.2.2.1=w.2.2.2.2.1∧∀m:Nat,m<24->d.2.2.2.2.2 m=if m=k∧(m:Int)<d.1.2.2.2 then 1073741824 else 0):Ok (zW d) (λx:jZ=>x.1.1=k∧x.1.2.1=k∧x.2.1=w.2.1∧x.2.2.1=w.2.2.1∧x.2.2.2.1=w.2.2.2.1∧x.2.2.2.2.1=w.2.2.2.2.1∧∀m:Nat,m<24->x.2.2.2.2.2 m=if m=k then 1073741824 else 0):=
 aZ (s:=_) (λd:dR.B=>0<=d.1.2.2.2∧d.1.2.2.2<=d.1.2.2.1∧d.1.2.2.1=(k:Int)+1∧d.1.1=k∧d.1.2.1=k∧d.2.1=w.2.1∧d.2.2.1=w.2.2.1∧d.2.2.2.1=w.2.2.2.1∧d.2.2.2.2.1=w.2.2.2.2.1∧∀m:Nat,m<24->d.2.2.2.2.2 m=if m=k∧(m:Int)<d.1.2.2.2 then 1073741824 else 0) (λd:dR.B=>Int.toNat (d.1.2.2.1-d.1.2.2.2)) (λx:jZ=>x.1.1=k∧x.1.2.1=k∧x.2.1=w.2.1∧x.2.2.1=w.2.2.1∧x.2.2.2.1=w.2.2.2.1∧x.2.2.2.2.1=w.2.2.2.2.1∧∀m:Nat,m<24->x.2.2.2.2.2 m=if m=k then 1073741824 else 0) (λd hd=>by
  obtain⟨i0,i1,i2,i3,i3',i4,i5,i6,i7,i8⟩:=hd
  have hw:wI (d.1.2.2.2+1)=d.1.2.2.2+1:=bd (by omega) (by omega)
  unfold zV
  dsimp only
  rw[aL]
  refine⟨λh=> ?_,λh=> ?_⟩
  ·have h:=of_decide_eq_true h
   obtain⟨m,hm⟩:∃m:Nat,d.1.2.2.2=(m:Int):=⟨Int.toNat d.1.2.2.2,by omega⟩
   have r0:aX d.1.2.2.2 24=true:=by rw[bn];omega
   have r1:(true&&Nat.ble (0+Int.toNat d.1.2.2.2*1+1) 24)=true:=by rw[Bool.true_and,bL];omega
   rw[r0,r1,i6,i3,hm,aKH _ _ hU m k (by omega) hk,bQ,aC,aC,av]
   rw[hm] at hw
   rw[hw]
   refine⟨⟨by show 0<=(m:Int)+1;omega,by show(m:Int)+1<=d.1.2.2.1;omega,i2,rfl,i3',i4,i5,rfl,i7,λj hj=> ?_⟩,by show Int.toNat (d.1.2.2.1-((m:Int)+1))<_;omega⟩
   show(bif Nat.beq j (Int.toNat (m:Int)) then(if m=k then 1073741824 else 0) else d.2.2.2.2.2 j)=if j=k∧(j:Int)<(m:Int)+1 then 1073741824 else 0
   rw[E2,i8 j hj,hm,Int.toNat_natCast]
   by_cases e1:j=m
   ·subst e1
    rw[if_pos rfl]
    by_cases e2:j=k
    ·rw[if_pos e2,if_pos ⟨e2,by omega⟩]
    ·rw[if_neg e2,if_neg (λh=>e2 h.1)]
   ·rw[if_neg e1]
    by_cases e2:j=k∧(j:Int)<(m:Int)
    ·rw[if_pos e2,if_pos ⟨e2.1,by omega⟩]
    ·rw[if_neg e2,if_neg (λh=>e2 ⟨h.1,by omega⟩)]
  ·have h:=of_decide_eq_false h
   rw[av]
   refine⟨i3,i3',i4,i5,i6,i7,λm hm=> ?_⟩
   show d.2.2.2.2.2 m=_
   rw[i8 m hm]
   by_cases e:m=k
   ·rw[if_pos e,if_pos ⟨e,by omega⟩]
   ·rw[if_neg e,if_neg (λh=>e h.1)]) 2000 d hd (by omega)
theorem aWq (F:Nat->Int)(hF:∀i,i<24->F i=0∨F i=1073741824)(k:Nat)(hk:k<24)(w d:dS.B)(hf:∀i k,i<24->k<24->w.2.2.1 (i*24+k)=if i=k then F i else 0)(hc:∀m:Nat,m<24->w.2.2.2.2.2 m=if m=k then 1073741824 else 0)(hd:0<=d.1.2.2∧d.1.2.2<=24∧d.1.1=k∧d.1.2.1=k∧d.2.1=w.2.1∧d.2.2.1=w.2.2.1∧d.2.2.2.1=w.2.2.2.1∧d.2.2.2.2.2=w.2.2.2.2.2∧∀i j,i<24->j<48->d.2.2.2.2.1 (i*48+j)=if i=j∧(j<k∨(j=k∧(k:Int)<d.1.2.2)) then F i else 0):Ok (zY d) (λx:j6=>x.1.2.1=k∧x.2.1=w.2.1∧x.2.2.1=w.2.2.1∧x.2.2.2.1=w.2.2.2.1∧∀i j,i<24->j<48->x.2.2.2.2.1 (i*48+j)=if i=j∧j<k+1 then F i else 0):=
 aZ (s:=_) (λd:dS.B=>0<=d.1.2.2∧d.1.2.2<=24∧d.1.1=k∧d.1.2.1=k∧d.2.1=w.2.1∧d.2.2.1=w.2.2.1∧d.2.2.2.1=w.2.2.2.1∧d.2.2.2.2.2=w.2.2.2.2.2∧∀i j,i<24->j<48->d.2.2.2.2.1 (i*48+j)=if i=j∧(j<k∨(j=k∧(k:Int)<d.1.2.2)) then F i else 0) (λd:dS.B=>Int.toNat (24-d.1.2.2)) (λx:j6=>x.1.2.1=k∧x.2.1=w.2.1∧x.2.2.1=w.2.2.1∧x.2.2.2.1=w.2.2.2.1∧∀i j,i<24->j<48->x.2.2.2.2.1 (i*48+j)=if i=j∧j<k+1 then F i else 0) (λd hd=>by
  obtain⟨i0,i1,i2,i3,i4,i5,i6,i7,i8⟩:=hd
  have hw:wI (d.1.2.2+1)=d.1.2.2+1:=bd (by omega) (by omega)
  unfold zX
  dsimp only
  rw[aL]
  refine⟨λh=> ?_,λh=> ?_⟩
  ·have h:=of_decide_eq_true h
   obtain⟨m,hm⟩:∃m:Nat,d.1.2.2=(m:Int):=⟨Int.toNat d.1.2.2,by omega⟩
   have aOA:m<24:=by omega
   have r0:aX d.1.2.2 24=true:=by rw[bn];omega
   have r1:aX d.1.1 48=true:=by rw[bn];omega
   have r2:(true&&Nat.ble (0+(Int.toNat d.1.2.2*48+Int.toNat d.1.1)*1+1) 1152)=true:=by rw[Bool.true_and,bL];omega
   have bF:∀j,j<24-> -1152921504606846976<=F j∧F j<=1152921504606846976:=λj hj=>by have:=hF j hj;omega
   have dot:br 30 24 24 d.2.1 (λj=>d.2.2.1 (0+Int.toNat d.1.2.2*24+j)) d.2.2.2.2.2 false false=some (if m=k then F k else 0,d.2.1):=by
    have fj:∀j,j<24->d.2.2.1 (0+Int.toNat d.1.2.2*24+j)=if m=j then F m else 0:=λj hj=>by
     rw[i5,hm,Int.toNat_natCast,Nat.zero_add];exact hf m j aOA hj
    have gj:∀j,j<24->d.2.2.2.2.2 j=if j=k then 1073741824 else 0:=λj hj=>by rw[i7];exact hc j hj
    refine aDs 24 k (by decide) hk _ _ _ _ _ _ (λj hj=> ?_) (λj hj=> ?_) (λj hj e=> ?_) ?_ ?_
    ·show -1152921504606846976<=d.2.2.1 (0+Int.toNat d.1.2.2*24+j)∧d.2.2.1 (0+Int.toNat d.1.2.2*24+j)<=1152921504606846976
     rw[fj j hj]
     have:=bF m aOA
     split<;>omega
    ·rw[gj j hj]
     split<;>omega
    ·show d.2.2.1 (0+Int.toNat d.1.2.2*24+j)*d.2.2.2.2.2 j=0
     rw[gj j hj,if_neg e,Int.mul_zero]
    ·show d.2.2.1 (0+Int.toNat d.1.2.2*24+k)*d.2.2.2.2.2 k=_
     rw[fj k hk,gj k hk,if_pos rfl]
     by_cases e:m=k
     ·subst e;rw[if_pos rfl]
     ·rw[if_neg e,if_neg e]
    ·have:=bF k hk
     split<;>omega
   rw[r0,aC,dot,bQ,aC,r1,aC,r2,aC,av,hw]
   refine⟨⟨by show 0<=d.1.2.2+1;omega,by show d.1.2.2+1<=24;omega,i2,i3,i4,i5,i6,i7,λi j hi hj=> ?_⟩,by show Int.toNat (24-(d.1.2.2+1))<_;omega⟩
   show(bif Nat.beq (i*48+j) (Int.toNat d.1.2.2*48+Int.toNat d.1.1) then(if m=k then F k else 0) else d.2.2.2.2.1 (i*48+j))=if i=j∧(j<k∨(j=k∧(k:Int)<d.1.2.2+1)) then F i else 0
   rw[E2,i8 i j hi hj,hm,i2,Int.toNat_natCast,Int.toNat_natCast]
   by_cases e1:i*48+j=m*48+k
   ·have ei:i=m:=by omega
    have ej:j=k:=by omega
    subst ei
    subst ej
    rw[if_pos e1]
    by_cases e2:i=j
    ·subst e2;rw[if_pos rfl,if_pos ⟨rfl,Or.inr ⟨rfl,by omega⟩⟩]
    ·rw[if_neg e2,if_neg (λh=>e2 h.1)]
   ·rw[if_neg e1]
    by_cases e2:i=j∧(j<k∨(j=k∧(k:Int)<(m:Int)))
    ·rw[if_pos e2,if_pos (by omega)]
    ·rw[if_neg e2,if_neg (by omega)]
  ·have h:=of_decide_eq_false h
   rw[av]
   refine⟨i3,i4,i5,i6,λi j hi hj=> ?_⟩
   show d.2.2.2.2.1 (i*48+j)=_
   rw[i8 i j hi hj]
   by_cases e:i=j∧(j<k∨(j=k∧(k:Int)<d.1.2.2))
   ·rw[if_pos e,if_pos (by omega)]
   ·rw[if_neg e,if_neg (by omega)]) 2000 d hd (by omega)
theorem aWr (F:Nat->Int)(hF:∀i,i<24->F i=0∨F i=1073741824)(w d:dV.B)(hU:∀p,p<276->w.2.2.2.1.1 p=0)(hf:∀i k,i<24->k<24->w.2.2.1 (i*24+k)=if i=k then F i else 0)(hd:0<=d.1∧d.1<=24∧d.2.1=w.2.1∧d.2.2.1=w.2.2.1∧d.2.2.2.1=w.2.2.2.1∧∀i j,i<24->j<48->d.2.2.2.2 (i*48+j)=if i=j∧(j:Int)<d.1 then F i else 0):Ok (z7 d) (λx:j8=>x.2.1=w.2.1∧x.2.2.1=w.2.2.1∧∀i j,i<24->j<48->x.2.2.2.2 (i*48+j)=if i=j∧j<24 then F i else 0):=
 aZ (s:=_) (λd:dV.B=>0<=d.1∧d.1<=24∧d.2.1=w.2.1∧d.2.2.1=w.2.2.1∧d.2.2.2.1=w.2.2.2.1∧∀i j,i<24->j<48->d.2.2.2.2 (i*48+j)=if i=j∧(j:Int)<d.1 then F i else 0) (λd:dV.B=>Int.toNat (24-d.1)) (λx:j8=>x.2.1=w.2.1∧x.2.2.1=w.2.2.1∧∀i j,i<24->j<48->x.2.2.2.2 (i*48+j)=if i=j∧j<24 then F i else 0) (λd hd=>by
  obtain⟨i0,i1,i2,i3,i4,i5⟩:=hd
  unfold z6
  dsimp only
  rw[aL]
  refine⟨λh=> ?_,λh=> ?_⟩
  ·have h:=of_decide_eq_true h
   obtain⟨k,hk⟩:∃m:Nat,d.1=(m:Int):=⟨Int.toNat d.1,by omega⟩
   have aVT:k<24:=by omega
   have hw:wI (d.1+1)=(k:Int)+1:=by rw[hk];exact bd (by omega) (by omega)
   refine ay (aWp k aVT ((d.1,d.1,wI (d.1+1),0),d.2.1,d.2.2.1,d.2.2.2.1,d.2.2.2.2,λx=>0) _ (by show∀p,p<276->d.2.2.2.1.1 p=0;rw[i4];exact hU) ⟨Int.le_refl 0,by show 0<=wI (d.1+1);omega,hw,hk,hk,rfl,rfl,rfl,rfl,λm hm=>by show(0:Int)=_;rw[if_neg (by show ¬(m=k∧(m:Int)<0);omega)]⟩) λx _ hx=> ?_
   obtain⟨a0,a1,a2,a3,a4,a5,a6⟩:=hx
   have a2:x.2.1=d.2.1:=a2
   have a3:x.2.2.1=d.2.2.1:=a3
   have a4:x.2.2.2.1=d.2.2.2.1:=a4
   have a5:x.2.2.2.2.1=d.2.2.2.2:=a5
   refine ay (aWq F hF k aVT ((x.1.1,x.1.2.1,0),x.2) _ (by show∀i k,i<24->k<24->x.2.2.1 (i*24+k)=_;rw[a3,i3];exact hf) a6 ⟨Int.le_refl 0,(show(0:Int)<=24 by decide),a0,a1,rfl,rfl,rfl,rfl,λi j hi hj=> ?_⟩) λy _ hy=> ?_
   ·show x.2.2.2.2.1 (i*48+j)=if i=j∧(j<k∨(j=k∧(k:Int)<0)) then F i else 0
    rw[a5,i5 i j hi hj]
    by_cases e:i=j∧(j:Int)<d.1
    ·rw[if_pos e,if_pos (by omega)]
    ·rw[if_neg e,if_neg (by omega)]
   obtain⟨b1,b2,b3,b4,b5⟩:=hy
   have b2:y.2.1=x.2.1:=b2
   have b3:y.2.2.1=x.2.2.1:=b3
   have b4:y.2.2.2.1=x.2.2.2.1:=b4
   have hw2:wI (y.1.2.1+1)=d.1+1:=by rw[b1,hk];exact bd (by omega) (by omega)
   rw[av,hw2]
   refine⟨⟨by show 0<=d.1+1;omega,by show d.1+1<=24;omega,b2.trans (a2.trans i2),b3.trans (a3.trans i3),b4.trans (a4.trans i4),λi j hi hj=> ?_⟩,by show Int.toNat (24-(d.1+1))<_;omega⟩
   show y.2.2.2.2.1 (i*48+j)=if i=j∧(j:Int)<d.1+1 then F i else 0
   rw[b5 i j hi hj]
   by_cases e:i=j∧j<k+1
   ·rw[if_pos e,if_pos (by omega)]
   ·rw[if_neg e,if_neg (by omega)]
  ·have h:=of_decide_eq_false h
   rw[av]
   refine⟨i2,i3,λi j hi hj=> ?_⟩
   show d.2.2.2.2 (i*48+j)=_
   rw[i5 i j hi hj]
   by_cases e:i=j∧j<24
   ·rw[if_pos e,if_pos (by omega)]
   ·rw[if_neg e,if_neg (by omega)]) 2000 d hd (by omega)
theorem aWs (F:Nat->Int)(b:Bool)(d:dU.B)(hd:0<=d.1∧d.1<=24∧d.2.1=b∧∀i k:Nat,i<24->k<48->d.2.2.2 (i*48+k)=if i=k then F i else if k=24+i∧(i:Int)<d.1 then 1073741824 else 0):Ok (z5 d) (λx:j7=>x.2.1=b∧∀i k,i<24->k<48->x.2.2.2 (i*48+k)=if i=k then F i else if k=24+i then 1073741824 else 0):=
 aZ (s:=_) (λd:dU.B=>0<=d.1∧d.1<=24∧d.2.1=b∧∀i k:Nat,i<24->k<48->d.2.2.2 (i*48+k)=if i=k then F i else if k=24+i∧(i:Int)<d.1 then 1073741824 else 0) (λd:dU.B=>Int.toNat (24-d.1)) (λx:j7=>x.2.1=b∧∀i k,i<24->k<48->x.2.2.2 (i*48+k)=if i=k then F i else if k=24+i then 1073741824 else 0) (λd hd=>by
  obtain⟨i0,i1,i2,i3⟩:=hd
  have hw:wI (d.1+1)=d.1+1:=bd (by omega) (by omega)
  unfold zZ
  dsimp only
  rw[aL]
  refine⟨λh=> ?_,λh=> ?_⟩
  ·have h:=of_decide_eq_true h
   have h1:wI (24+d.1)=24+d.1:=eP (by omega) (by omega)
   have r0:aX d.1 24=true:=by rw[bn];omega
   have r1:aX (24+d.1) 48=true:=by rw[bn];omega
   have r2:(true&&Nat.ble (0+(Int.toNat d.1*48+Int.toNat (24+d.1))*1+1) 1152)=true:=by rw[Bool.true_and,bL];omega
   rw[h1,r0,r1,r2,hw,aC,aC,aC,av]
   refine⟨⟨by show 0<=d.1+1;omega,by show d.1+1<=24;omega,i2,λi k hi hk=> ?_⟩,by show Int.toNat (24-(d.1+1))<_;omega⟩
   show(bif Nat.beq (i*48+k) (Int.toNat d.1*48+Int.toNat (24+d.1)) then 1073741824 else d.2.2.2 (i*48+k))=if i=k then F i else if k=24+i∧(i:Int)<d.1+1 then 1073741824 else 0
   rw[E2,i3 i k hi hk]
   by_cases e1:i*48+k=Int.toNat d.1*48+Int.toNat (24+d.1)
   ·rw[if_pos e1,if_neg (by omega),if_pos (by omega)]
   ·rw[if_neg e1]
    by_cases e2:i=k
    ·rw[if_pos e2,if_pos e2]
    ·rw[if_neg e2,if_neg e2]
     by_cases e3:k=24+i∧(i:Int)<d.1
     ·rw[if_pos e3,if_pos (by omega)]
     ·rw[if_neg e3,if_neg (by omega)]
  ·have h:=of_decide_eq_false h
   rw[av]
   refine⟨i2,λi k hi hk=> ?_⟩
   show d.2.2.2 (i*48+k)=_
   rw[i3 i k hi hk]
   by_cases e2:i=k
   ·rw[if_pos e2,if_pos e2]
   ·rw[if_neg e2,if_neg e2]
    by_cases e3:k=24+i
    ·rw[if_pos e3,if_pos (by omega)]
    ·rw[if_neg e3,if_neg (by omega)]) 2000 d hd (by omega)
theorem aNy (F U D Fm:Nat->Int)(b:Bool)(hF:∀i,i<24->F i=0∨F i=1073741824)(hU:∀p,p<276->U p=0)(hf:∀i k,i<24->k<24->Fm (i*24+k)=if i=k then F i else 0):Ok (oX U D b Fm) (λr:MA=>r.1=b∧∀i k,i<24->k<48->r.2 (i*48+k)=if i=k then F i else if k=24+i then 1073741824 else 0):=by
 unfold oX EF
 show PQ _ _
 refine ay (aWr F hF (0,b,Fm,(U,D),λx=>0) _ hU hf ⟨Int.le_refl 0,(show(0:Int)<=24 by decide),rfl,rfl,rfl,λi j hi hj=>by show(0:Int)=_;rw[if_neg (by show ¬(i=j∧(j:Int)<0);omega)]⟩) λx _ hx=> ?_
 obtain⟨a1,a2,a3⟩:=hx
 refine ay (aWs F b _ ⟨Int.le_refl 0,(show(0:Int)<=24 by decide),a1,λi k hi hk=> ?_⟩) λy _ hy=> ?_
 ·show x.2.2.2.2 (i*48+k)=_
  rw[a3 i k hi hk]
  by_cases e:i=k
  ·rw[if_pos ⟨e,by omega⟩,if_pos e]
  ·rw[if_neg (λh=>e h.1),if_neg e,if_neg (by show ¬(k=24+i∧(i:Int)<0);omega)]
 ·rw[av];exact hy
end Go.Proofs.YtcmfbkneahoonaaGreat
namespace Go.Proofs.YtcmfbkneahoonaaGreat
open Go.Ab Go.Ab.Pg
theorem aXY (F:Nat->Int)(hF:∀i,i<24->F i=0∨F i=1073741824)(w d:dW.B)(hi:0<=w.1.1∧w.1.1<24)(hd:0<=d.1.2.2∧d.1.2.2<=24∧d.1.1=w.1.1∧d.1.2.1=w.1.2.1∧d.2.1=w.2.1∧d.2.2.1=w.2.2.1∧(∀i k,i<24->k<24->d.2.2.2.1 (i*24+k)=if i=k then F i else 0)∧d.2.2.2.2=w.2.2.2.2):Ok (Aa d) (λx:ka=>x.1.2.1=w.1.2.1∧x.2.1=w.2.1∧x.2.2.1=w.2.2.1∧(∀i k,i<24->k<24->x.2.2.2.1 (i*24+k)=if i=k then F i else 0)∧x.2.2.2.2=w.2.2.2.2):=
 aZ (s:=_) (λd:dW.B=>0<=d.1.2.2∧d.1.2.2<=24∧d.1.1=w.1.1∧d.1.2.1=w.1.2.1∧d.2.1=w.2.1∧d.2.2.1=w.2.2.1∧(∀i k,i<24->k<24->d.2.2.2.1 (i*24+k)=if i=k then F i else 0)∧d.2.2.2.2=w.2.2.2.2) (λd:dW.B=>Int.toNat (24-d.1.2.2)) (λx:ka=>x.1.2.1=w.1.2.1∧x.2.1=w.2.1∧x.2.2.1=w.2.2.1∧(∀i k,i<24->k<24->x.2.2.2.1 (i*24+k)=if i=k then F i else 0)∧x.2.2.2.2=w.2.2.2.2) (λd hd=>by
  obtain⟨i0,i1,i2,i3,i4,i5,i6,i7⟩:=hd
  have hw:wI (d.1.2.2+1)=d.1.2.2+1:=bd (by omega) (by omega)
  unfold z8
  dsimp only
  rw[aL]
  refine⟨λh=> ?_,λh=>by rw[av];exact⟨i3,i4,i5,i6,i7⟩⟩
  have h:=of_decide_eq_true h
  have r0:aX d.1.1 24=true:=by rw[bn,i2];omega
  have r1:aX d.1.2.2 24=true:=by rw[bn];omega
  have r2:(true&&Nat.ble (0+(Int.toNat d.1.1*24+Int.toNat d.1.2.2)*1+1) 576)=true:=by rw[Bool.true_and,bL,i2];omega
  have v:=i6 (Int.toNat d.1.1) (Int.toNat d.1.2.2) (by rw[i2];omega) (by omega)
  have bF:=hF (Int.toNat d.1.1) (by rw[i2];omega)
  have s:aQ (d.2.2.2.1 (Int.toNat d.1.1*24+Int.toNat d.1.2.2)) d.2.1=some (d.2.2.2.1 (Int.toNat d.1.1*24+Int.toNat d.1.2.2),d.2.1):=by
   have r: -1152921504606846976<=d.2.2.2.1 (Int.toNat d.1.1*24+Int.toNat d.1.2.2)∧d.2.2.2.1 (Int.toNat d.1.1*24+Int.toNat d.1.2.2)<=1152921504606846976:=by rw[v];split<;>omega
   rw[oK,Oq r,GZ r,Bool.or_false]
  rw[r0,r1,r2,aC,aC,s,bQ,aC,aC,aC,av,hw]
  refine⟨⟨by show 0<=d.1.2.2+1;omega,by show d.1.2.2+1<=24;omega,i2,i3,i4,i5,λi k hi hk=> ?_,i7⟩,by show Int.toNat (24-(d.1.2.2+1))<_;omega⟩
  show(bif Nat.beq (i*24+k) (Int.toNat d.1.1*24+Int.toNat d.1.2.2) then d.2.2.2.1 (Int.toNat d.1.1*24+Int.toNat d.1.2.2) else d.2.2.2.1 (i*24+k))=_
  rw[E2]
  split
  ·rename_i e;rw[<-e];exact i6 i k hi hk
  ·exact i6 i k hi hk) 2000 d hd (by omega)
theorem aXZ (F D q:Nat->Int)(b:Bool)(hF:∀i,i<24->F i=0∨F i=1073741824)(w d:dZ.B)(hD:∀i,i<24->w.2.2.1.2 i=D i)(hq:∀i,i<24->w.2.2.2.2.1 i=q i∧0<=q i∧q i<=72057594037927936)(hd:0<=d.1∧d.1<=24∧d.2.1=b∧d.2.2.1=w.2.2.1∧(∀i k,i<24->k<24->d.2.2.2.1 (i*24+k)=if i=k then F i else 0)∧d.2.2.2.2.1=w.2.2.2.2.1∧d.2.2.2.2.2.1=w.2.2.2.2.2.1∧∀i:Nat,i<24->(i:Int)<d.1->d.2.2.2.2.2.2 i=D i∧d.2.2.2.2.2.2 (24+i)=q i):Ok (Ah d) (λx:ke=>x.2.1=b∧x.2.2.1=w.2.2.1∧(∀i k,i<24->k<24->x.2.2.2.1 (i*24+k)=if i=k then F i else 0)∧x.2.2.2.2.2.1=w.2.2.2.2.2.1∧∀i:Nat,i<24->(i:Int)<24->x.2.2.2.2.2.2 i=D i∧x.2.2.2.2.2.2 (24+i)=q i):=
 aZ (s:=_) (λd:dZ.B=>0<=d.1∧d.1<=24∧d.2.1=b∧d.2.2.1=w.2.2.1∧(∀i k,i<24->k<24->d.2.2.2.1 (i*24+k)=if i=k then F i else 0)∧d.2.2.2.2.1=w.2.2.2.2.1∧d.2.2.2.2.2.1=w.2.2.2.2.2.1∧∀i:Nat,i<24->(i:Int)<d.1->d.2.2.2.2.2.2 i=D i∧d.2.2.2.2.2.2 (24+i)=q i) (λd:dZ.B=>Int.toNat (24-d.1)) (λx:ke=>x.2.1=b∧x.2.2.1=w.2.2.1∧(∀i k,i<24->k<24->x.2.2.2.1 (i*24+k)=if i=k then F i else 0)∧x.2.2.2.2.2.1=w.2.2.2.2.2.1∧∀i:Nat,i<24->(i:Int)<24->x.2.2.2.2.2.2 i=D i∧x.2.2.2.2.2.2 (24+i)=q i) (λd hd=>by
  obtain⟨i0,i1,i2,i3,i4,i5,i6,i7⟩:=hd
  have hw:wI (d.1+1)=d.1+1:=bd (by omega) (by omega)
  unfold Ag
  dsimp only
  rw[aL]
  refine⟨λh=> ?_,λh=> ?_⟩
  ·have h:=of_decide_eq_true h
   have h1:wI (24+d.1)=24+d.1:=eP (by omega) (by omega)
   have r0:aX d.1 24=true:=by rw[bn];omega
   have r1:aX d.1 48=true:=by rw[bn];omega
   have r2:(true&&Nat.ble (0+Int.toNat d.1*1+1) 48)=true:=by rw[Bool.true_and,bL];omega
   have r3:aX (24+d.1) 48=true:=by rw[bn];omega
   have r4:(true&&Nat.ble (0+Int.toNat (24+d.1)*1+1) 48)=true:=by rw[Bool.true_and,bL];omega
   obtain⟨m,hm⟩:∃m:Nat,d.1=(m:Int):=⟨Int.toNat d.1,by omega⟩
   have aOA:m<24:=by omega
   have vq:=hq m aOA
   have c:bc (d.2.2.2.2.1 (Int.toNat d.1)) 0 72057594037927936 d.2.1=some (q m,b):=by
    rw[i5,hm,Int.toNat_natCast,vq.1,i2];exact ac1 _ _ _ _ vq.2.1 vq.2.2
   rw[h1,r0,r1,r2,r3,r4,aC,aC,c,bQ,aC,aC,aC,aC]
   refine ay (aXY F hF _ _ ⟨i0,h⟩ ⟨Int.le_refl 0,(show(0:Int)<=24 by decide),rfl,rfl,rfl,rfl,i4,rfl⟩) λx _ hx=> ?_
   obtain⟨a0,a1,a2,a3,a4⟩:=hx
   have a0:x.1.2.1=d.1:=a0
   have a1:x.2.1=b:=a1
   have a2:x.2.2.1=d.2.2.1:=a2
   rw[av,a0,hw]
   refine⟨⟨by show 0<=d.1+1;omega,by show d.1+1<=24;omega,a1,a2.trans i3,a3,(congrArg (λz=>z.1) a4).trans i5,(congrArg (λz=>z.2.1) a4).trans i6,λi hi hj=> ?_⟩,by show Int.toNat (24-(d.1+1))<_;omega⟩
   have a6:x.2.2.2.2.2.2=λj=>bif Nat.beq j (Int.toNat (24+d.1)) then q m else bif Nat.beq j (Int.toNat d.1) then d.2.2.1.2 (Int.toNat d.1) else d.2.2.2.2.2.2 j:=congrArg (λz=>z.2.2) a4
   show x.2.2.2.2.2.2 i=D i∧x.2.2.2.2.2.2 (24+i)=q i
   have hj:(i:Int)<d.1+1:=hj
   rw[a6]
   show(bif Nat.beq i (Int.toNat (24+d.1)) then q m else bif Nat.beq i (Int.toNat d.1) then d.2.2.1.2 (Int.toNat d.1) else d.2.2.2.2.2.2 i)=D i∧(bif Nat.beq (24+i) (Int.toNat (24+d.1)) then q m else bif Nat.beq (24+i) (Int.toNat d.1) then d.2.2.1.2 (Int.toNat d.1) else d.2.2.2.2.2.2 (24+i))=q i
   rw[aAs,aAs,aAs,aAs,if_neg (by omega:¬i=Int.toNat (24+d.1)),if_neg (by omega:¬24+i=Int.toNat d.1)]
   by_cases e:i=m
   ·subst e
    rw[if_pos (by omega:i=Int.toNat d.1),if_pos (by omega:24+i=Int.toNat (24+d.1)),hm,Int.toNat_natCast,i3]
    exact⟨hD i hi,rfl⟩
   ·rw[if_neg (by omega:¬i=Int.toNat d.1),if_neg (by omega:¬24+i=Int.toNat (24+d.1))]
    exact i7 i hi (by omega)
  ·have h:=of_decide_eq_false h
   rw[av]
   exact⟨i2,i3,i4,i6,λi hi hj=>i7 i hi (by omega)⟩) 2000 d hd (by omega)
def NG (F D q:Nat->Int):Prop:=∀i,i<24->okV (D i)∧((F i=1073741824∧q i=0)∨(F i=0∧okV (q i)))
def kept (F D q:Nat->Int)(i:Nat):Int:=if F i=0 then q i else D i
theorem NG.F {F D q:Nat->Int}(h:NG F D q):∀i,i<24->F i=0∨F i=1073741824:=λi hi=>by
 rcases(h i hi).2 with a|a
 ·exact Or.inr a.1
 ·exact Or.inl a.1
theorem NG.q {F D q:Nat->Int}(h:NG F D q):∀i,i<24->0<=q i∧q i<=72057594037927936:=λi hi=>by
 rcases(h i hi).2 with a|a
 ·have:=a.2;omega
 ·have:=a.2.le;omega
theorem NG.z {F D q:Nat->Int}(h:NG F D q):∀i,i<24->¬F i=0->q i=0∧F i=1073741824:=λi hi n=>by
 rcases(h i hi).2 with a|a
 ·exact⟨a.2,a.1⟩
 ·exact absurd a.1 n
theorem NG.k {F D q:Nat->Int}(h:NG F D q):∀i,i<24->okV (kept F D q i):=λi hi=>by
 unfold kept
 rcases(h i hi).2 with a|a
 ·rw[if_neg (by omega)];exact(h i hi).1
 ·rw[if_pos a.1];exact a.2
def yv (F D q:Nat->Int)(j k:Nat):Int:=if k=j then(if F j=0 then 0 else D j) else if k=24+j then q j else 0
theorem aTH {F D q:Nat->Int}(h:NG F D q)(j k:Nat)(hj:j<24): -1152921504606846976<=yv F D q j k∧yv F D q j k<=1152921504606846976:=by
 have:=(h j hj).1.le
 have:=h.q j hj
 unfold yv
 split
 ·split<;>omega
 ·split<;>omega
theorem aX0 (F D q:Nat->Int)(hk:NG F D q)(j:Nat)(hj:j<24)(w d:dX.B)(he:∀i:Nat,i<24->w.2.2.2.1 i=D i∧w.2.2.2.1 (24+i)=q i)(hW:(∀i k,i<24->k<48->w.2.2.2.2.1 (i*48+k)=if i=k then F i else if k=24+i then 1073741824 else 0))(hd:0<=d.1.2∧d.1.2<=48∧d.1.1=(j:Int)∧d.2.1=w.2.1∧d.2.2.1=w.2.2.1∧d.2.2.2.1=w.2.2.2.1∧d.2.2.2.2.1=w.2.2.2.2.1∧d.2.2.2.2.2.1=w.2.2.2.2.2.1∧∀k:Nat,k<48->(k:Int)<d.1.2->d.2.2.2.2.2.2 k=yv F D q j k):Ok (Ad d) (λx:kc=>x.1.1=(j:Int)∧x.2.1=w.2.1∧x.2.2.1=w.2.2.1∧x.2.2.2.1=w.2.2.2.1∧x.2.2.2.2.1=w.2.2.2.2.1∧x.2.2.2.2.2.1=w.2.2.2.2.2.1∧∀k:Nat,k<48->x.2.2.2.2.2.2 k=yv F D q j k):=
 aZ (s:=_) (λd:dX.B=>0<=d.1.2∧d.1.2<=48∧d.1.1=(j:Int)∧d.2.1=w.2.1∧d.2.2.1=w.2.2.1∧d.2.2.2.1=w.2.2.2.1∧d.2.2.2.2.1=w.2.2.2.2.1∧d.2.2.2.2.2.1=w.2.2.2.2.2.1∧∀k:Nat,k<48->(k:Int)<d.1.2->d.2.2.2.2.2.2 k=yv F D q j k) (λd:dX.B=>Int.toNat (48-d.1.2)) (λx:kc=>x.1.1=(j:Int)∧x.2.1=w.2.1∧x.2.2.1=w.2.2.1∧x.2.2.2.1=w.2.2.2.1∧x.2.2.2.2.1=w.2.2.2.2.1∧x.2.2.2.2.2.1=w.2.2.2.2.2.1∧∀k:Nat,k<48->x.2.2.2.2.2.2 k=yv F D q j k) (λd hd=>by
  obtain⟨i0,i1,i2,i3,i4,i5,i6,i7,i8⟩:=hd
  have hw:wI (d.1.2+1)=d.1.2+1:=bd (by omega) (by omega)
  unfold Ac
  dsimp only
  rw[aL]
  refine⟨λh=> ?_,λh=> ?_⟩
  ·have h:=of_decide_eq_true h
   obtain⟨m,hm⟩:∃m:Nat,d.1.2=(m:Int):=⟨Int.toNat d.1.2,by omega⟩
   have aX1:m<48:=by omega
   have r0:aX d.1.1 24=true:=by rw[bn,i2];omega
   have r1:aX d.1.2 48=true:=by rw[bn];omega
   have r2:(true&&Nat.ble (0+Int.toNat d.1.2*1+1) 48)=true:=by rw[Bool.true_and,bL];omega
   have wv:d.2.2.2.2.1 (Int.toNat d.1.1*48+Int.toNat d.1.2)=if j=m then F j else if m=24+j then 1073741824 else 0:=by
    rw[i6,i2,hm,Int.toNat_natCast,Int.toNat_natCast];exact hW j m hj aX1
   have e3:d.2.2.2.1 (Int.toNat d.1.2)=w.2.2.2.1 m:=by rw[i5,hm,Int.toNat_natCast]
   have em: -1152921504606846976<=w.2.2.2.1 m∧w.2.2.2.1 m<=1152921504606846976:=by
    by_cases c:m<24
    ·have:=(he m c).1;have:=(hk m c).1.le;omega
    ·have e:=(he (m-24) (by omega)).2
     rw[(by omega:24+(m-24)=m)] at e
     have:=hk.q (m-24) (by omega);omega
   have mul:aV (d.2.2.2.2.1 (Int.toNat d.1.1*48+Int.toNat d.1.2)) (d.2.2.2.1 (Int.toNat d.1.2)) 30 d.2.1=some (yv F D q j m,d.2.1):=by
    have hF:=hk.F j hj
    by_cases c1:m=j
    ·have wv':d.2.2.2.2.1 (Int.toNat d.1.1*48+Int.toNat d.1.2)=F j:=by rw[wv,if_pos c1.symm]
     rw[wv',e3,aH8 _ _ _ hF em]
     refine congrArg (λz=>some (z,d.2.1)) ?_
     unfold yv
     rw[if_pos c1,c1,(he j hj).1]
    ·by_cases c2:m=24+j
     ·have wv':d.2.2.2.2.1 (Int.toNat d.1.1*48+Int.toNat d.1.2)=1073741824:=by rw[wv,if_neg (λh=>c1 h.symm),if_pos c2]
      rw[wv',e3,aH8 _ _ _ (Or.inr rfl) em,if_neg (by decide)]
      refine congrArg (λz=>some (z,d.2.1)) ?_
      unfold yv
      rw[if_neg c1,if_pos c2,c2,(he j hj).2]
     ·have wv':d.2.2.2.2.1 (Int.toNat d.1.1*48+Int.toNat d.1.2)=0:=by rw[wv,if_neg (λh=>c1 h.symm),if_neg c2]
      rw[wv',e3,aH8 _ _ _ (Or.inl rfl) em,if_pos rfl]
      refine congrArg (λz=>some (z,d.2.1)) ?_
      unfold yv
      rw[if_neg c1,if_neg c2]
   rw[r0,r1,r2,aC,aC,aC,mul,bQ,aC,aC,av,hw]
   refine⟨⟨by show 0<=d.1.2+1;omega,by show d.1.2+1<=48;omega,i2,i3,i4,i5,i6,i7,λk Ek hkc=> ?_⟩,by show Int.toNat (48-(d.1.2+1))<_;omega⟩
   have hkc:(k:Int)<d.1.2+1:=hkc
   show(bif Nat.beq k (Int.toNat d.1.2) then yv F D q j m else d.2.2.2.2.2.2 k)=yv F D q j k
   rw[E2]
   split
   ·rename_i e
    have:k=m:=by omega
    rw[this]
   ·exact i8 k Ek (by omega)
  ·have h:=of_decide_eq_false h
   rw[av]
   exact⟨i2,i3,i4,i5,i6,i7,λk Ek=>i8 k Ek (by omega)⟩) 2000 d hd (by omega)
theorem aX2 (F:Nat->Int)(hF:∀i,i<24->F i=0∨F i=1073741824)(w d:dY.B)(h0:0<=w.1.1∧w.1.1<24)(h2:0<=w.1.2.2.1∧w.1.2.2.1<24)(hd:0<=d.1.2.2.2.2.2.2∧d.1.2.2.2.2.2.2<=48∧d.1.1=w.1.1∧d.1.2.1=w.1.2.1∧d.1.2.2.1=w.1.2.2.1∧d.1.2.2.2.1=0∧d.1.2.2.2.2.1=w.1.2.2.2.2.1∧d.1.2.2.2.2.2.1=w.1.2.2.2.2.2.1∧d.2.1=w.2.1∧d.2.2.1=w.2.2.1∧d.2.2.2.1=w.2.2.2.1∧(∀i k,i<24->k<48->d.2.2.2.2.1 (i*48+k)=if i=k then F i else if k=24+i then 1073741824 else 0)∧d.2.2.2.2.2=w.2.2.2.2.2):Ok (Af d) (λx:kd=>x.1.1=w.1.1∧x.1.2.1=w.1.2.1∧x.1.2.2.2.2.1=w.1.2.2.2.2.1∧x.1.2.2.2.2.2.1=w.1.2.2.2.2.2.1∧x.2.1=w.2.1∧x.2.2.1=w.2.2.1∧x.2.2.2.1=w.2.2.2.1∧(∀i k,i<24->k<48->x.2.2.2.2.1 (i*48+k)=if i=k then F i else if k=24+i then 1073741824 else 0)∧x.2.2.2.2.2=w.2.2.2.2.2):=
 aZ (s:=_) (λd:dY.B=>0<=d.1.2.2.2.2.2.2∧d.1.2.2.2.2.2.2<=48∧d.1.1=w.1.1∧d.1.2.1=w.1.2.1∧d.1.2.2.1=w.1.2.2.1∧d.1.2.2.2.1=0∧d.1.2.2.2.2.1=w.1.2.2.2.2.1∧d.1.2.2.2.2.2.1=w.1.2.2.2.2.2.1∧d.2.1=w.2.1∧d.2.2.1=w.2.2.1∧d.2.2.2.1=w.2.2.2.1∧(∀i k,i<24->k<48->d.2.2.2.2.1 (i*48+k)=if i=k then F i else if k=24+i then 1073741824 else 0)∧d.2.2.2.2.2=w.2.2.2.2.2) (λd:dY.B=>Int.toNat (48-d.1.2.2.2.2.2.2)) (λx:kd=>x.1.1=w.1.1∧x.1.2.1=w.1.2.1∧x.1.2.2.2.2.1=w.1.2.2.2.2.1∧x.1.2.2.2.2.2.1=w.1.2.2.2.2.2.1∧x.2.1=w.2.1∧x.2.2.1=w.2.2.1∧x.2.2.2.1=w.2.2.2.1∧(∀i k,i<24->k<48->x.2.2.2.2.1 (i*48+k)=if i=k then F i else if k=24+i then 1073741824 else 0)∧x.2.2.2.2.2=w.2.2.2.2.2) (λd hd=>by
  obtain⟨i0,i1,j0,j1,j2,j3,j4,j5,i3,i4,i5,i6,i7⟩:=hd
  have hw:wI (d.1.2.2.2.2.2.2+1)=d.1.2.2.2.2.2.2+1:=bd (by omega) (by omega)
  unfold Ae
  dsimp only
  rw[aL]
  refine⟨λh=> ?_,λh=>by rw[av];exact⟨j0,j1,j4,j5,i3,i4,i5,i6,i7⟩⟩
  have h:=of_decide_eq_true h
  have r0:aX d.1.2.2.1 24=true:=by rw[bn,j2];omega
  have r1:aX d.1.2.2.2.2.2.2 48=true:=by rw[bn];omega
  have r2:aX d.1.1 24=true:=by rw[bn,j0];omega
  have r3:(true&&Nat.ble (0+(Int.toNat d.1.2.2.1*48+Int.toNat d.1.2.2.2.2.2.2)*1+1) 1152)=true:=by rw[Bool.true_and,bL,j2];omega
  have bw:∀i,i<24-> -1152921504606846976<=d.2.2.2.2.1 (i*48+Int.toNat d.1.2.2.2.2.2.2)∧d.2.2.2.2.1 (i*48+Int.toNat d.1.2.2.2.2.2.2)<=1152921504606846976:=λi hi=>by
   rw[i6 i (Int.toNat d.1.2.2.2.2.2.2) hi (by omega)]
   have:=hF i hi
   split
   ·omega
   ·split<;>omega
  have mul:aV d.1.2.2.2.1 (d.2.2.2.2.1 (Int.toNat d.1.1*48+Int.toNat d.1.2.2.2.2.2.2)) 30 d.2.1=some (0,d.2.1):=by
   rw[j3,aH8 0 _ _ (Or.inl rfl) (bw (Int.toNat d.1.1) (by rw[j0];omega)),if_pos rfl]
  rw[r0,r1,r2,r3,aC,aC,aC,aC,mul,bQ,sub_zero _ _ (bw (Int.toNat d.1.2.2.1) (by rw[j2];omega)),bQ,aC,aC,aC,av,hw]
  refine⟨⟨by show 0<=d.1.2.2.2.2.2.2+1;omega,by show d.1.2.2.2.2.2.2+1<=48;omega,j0,j1,j2,j3,j4,j5,i3,i4,i5,λi k hi hk=> ?_,i7⟩,by show Int.toNat (48-(d.1.2.2.2.2.2.2+1))<_;omega⟩
  show(bif Nat.beq (i*48+k) (Int.toNat d.1.2.2.1*48+Int.toNat d.1.2.2.2.2.2.2) then d.2.2.2.2.1 (Int.toNat d.1.2.2.1*48+Int.toNat d.1.2.2.2.2.2.2) else d.2.2.2.2.1 (i*48+k))=_
  rw[E2]
  split
  ·rename_i e;rw[<-e];exact i6 i k hi hk
  ·exact i6 i k hi hk) 2000 d hd (by omega)
theorem aX3 (F D q G:Nat->Int)(hk:NG F D q)(j:Nat)(hj:j<24)(v:Int)(hv:okV v)(w d:ec.B)(hd:0<=d.1.2.2.2∧d.1.2.2.2<=d.1.2.2.1∧d.1.2.2.1=(j:Int)∧d.1.1=(j:Int)∧d.1.2.1=v∧d.2.1=w.2.1∧d.2.2.1=w.2.2.1∧d.2.2.2.1=w.2.2.2.1∧(∀i k,i<24->k<48->d.2.2.2.2.1 (i*48+k)=if i=k then F i else if k=24+i then 1073741824 else 0)∧d.2.2.2.2.2.1=(λ_=>0,G)∧∀k:Nat,k<48->d.2.2.2.2.2.2 k=yv F D q j k):Ok (Aj d) (λx:kg=>x.1.1=(j:Int)∧x.2.1=w.2.1∧x.2.2.1=w.2.2.1∧x.2.2.2.1=w.2.2.2.1∧(∀i k,i<24->k<48->x.2.2.2.2.1 (i*48+k)=if i=k then F i else if k=24+i then 1073741824 else 0)∧x.2.2.2.2.2.1=(λ_=>0,G)):=
 aZ (s:=_) (λd:ec.B=>0<=d.1.2.2.2∧d.1.2.2.2<=d.1.2.2.1∧d.1.2.2.1=(j:Int)∧d.1.1=(j:Int)∧d.1.2.1=v∧d.2.1=w.2.1∧d.2.2.1=w.2.2.1∧d.2.2.2.1=w.2.2.2.1∧(∀i k,i<24->k<48->d.2.2.2.2.1 (i*48+k)=if i=k then F i else if k=24+i then 1073741824 else 0)∧d.2.2.2.2.2.1=(λ_=>0,G)∧∀k:Nat,k<48->d.2.2.2.2.2.2 k=yv F D q j k) (λd:ec.B=>Int.toNat (d.1.2.2.1-d.1.2.2.2)) (λx:kg=>x.1.1=(j:Int)∧x.2.1=w.2.1∧x.2.2.1=w.2.2.1∧x.2.2.2.1=w.2.2.2.1∧(∀i k,i<24->k<48->x.2.2.2.2.1 (i*48+k)=if i=k then F i else if k=24+i then 1073741824 else 0)∧x.2.2.2.2.2.1=(λ_=>0,G)) (λd hd=>by
  obtain⟨i0,i1,j2,j0,j1,i3,i4,i5,i6,i7,i8⟩:=hd
  have hw:wI (d.1.2.2.2+1)=d.1.2.2.2+1:=bd (by omega) (by omega)
  unfold Ai
  dsimp only
  rw[aL]
  refine⟨λh=> ?_,λh=>by rw[av];exact⟨j0,i3,i4,i5,i6,i7⟩⟩
  have h:=of_decide_eq_true h
  obtain⟨m,hm⟩:∃m:Nat,d.1.2.2.2=(m:Int):=⟨Int.toNat d.1.2.2.2,by omega⟩
  have hmj:m<j:=by omega
  have r0:aX d.1.2.2.2 24=true:=by rw[bn];omega
  have wv:∀k,k<48->d.2.2.2.2.1 (0+Int.toNat d.1.2.2.2*48+k)=if m=k then F m else if k=24+m then 1073741824 else 0:=λk hk=>by
   rw[hm,Int.toNat_natCast,Nat.zero_add];exact i6 m k (by omega) hk
  have dot:br 30 48 48 d.2.1 (λk=>d.2.2.2.2.1 (0+Int.toNat d.1.2.2.2*48+k)) d.2.2.2.2.2.2 false false=some (0,d.2.1):=by
   have z:∀k,k<48->d.2.2.2.2.1 (0+Int.toNat d.1.2.2.2*48+k)*d.2.2.2.2.2.2 k=0:=λk Ek=>by
    rw[wv k Ek,i8 k Ek]
    unfold yv
    by_cases c:m=k
    ·rw[if_neg (by omega:¬k=j),if_neg (by omega:¬k=24+j),Int.mul_zero]
    ·rw[if_neg c]
     by_cases c2:k=24+m
     ·rw[if_neg (by omega:¬k=j),if_neg (by omega:¬k=24+j),Int.mul_zero]
     ·rw[if_neg c2,Int.zero_mul]
   refine aDs 48 0 (by decide) (by decide) _ _ _ _ _ _ (λk Ek=> ?_) (λk Ek=> ?_) (λk Ek _=>z k Ek) (by rw[z 0 (by decide)];rfl) (by decide)
   ·show -1152921504606846976<=d.2.2.2.2.1 (0+Int.toNat d.1.2.2.2*48+k)∧d.2.2.2.2.1 (0+Int.toNat d.1.2.2.2*48+k)<=1152921504606846976
    rw[wv k Ek]
    have:=hk.F m (by omega)
    split
    ·omega
    ·split<;>omega
   ·rw[i8 k Ek];exact aTH hk j k hj
  have st:xc d.2.2.2.2.2.1.1 d.2.2.2.2.2.1.2 d.1.2.2.2 d.1.1 0=some (λ_=>0,G):=by
   rw[i7,hm,j0];exact aEI G m j hmj hj
  rw[r0,aC,dot,bQ,j1,div_zero v _ hv,bQ,st,bQ]
  refine ay (aX2 F hk.F _ _ (by show 0<=d.1.1∧d.1.1<24;omega) (by show 0<=d.1.2.2.2∧d.1.2.2.2<24;omega) ⟨Int.le_refl 0,(show(0:Int)<=48 by decide),rfl,rfl,rfl,rfl,rfl,rfl,rfl,rfl,rfl,i6,rfl⟩) λx _ hx=> ?_
  obtain⟨a0,a1,a4,a5,b1,b2,b3,b4,b5⟩:=hx
  have a4:x.1.2.2.2.2.1=d.1.2.2.1:=a4
  have a5:x.1.2.2.2.2.2.1=d.1.2.2.2:=a5
  have a0:x.1.1=d.1.1:=a0
  rw[av,a5,hw]
  refine⟨⟨by show 0<=d.1.2.2.2+1;omega,by show d.1.2.2.2+1<=x.1.2.2.2.2.1;omega,by show x.1.2.2.2.2.1=(j:Int);omega,by show x.1.1=(j:Int);omega,a1,b1.trans i3,b2.trans i4,b3.trans i5,b4,congrArg (λz=>z.1) b5,λk Ek=>(congrFun (congrArg (λz=>z.2) b5) k).trans (i8 k Ek)⟩,by show Int.toNat (x.1.2.2.2.2.1-(d.1.2.2.2+1))<_;omega⟩) 2000 d hd (by omega)
theorem aX4 (F D q:Nat->Int)(b:Bool)(e:Nat->Int)(hk:NG F D q)(he:∀i:Nat,i<24->e i=D i∧e (24+i)=q i)(d:ee.B)(hd: -1<=d.1∧d.1<=23∧d.2.1=b∧d.2.2.2.1=e∧(∀i k,i<24->k<48->d.2.2.2.2.1 (i*48+k)=if i=k then F i else if k=24+i then 1073741824 else 0)∧d.2.2.2.2.2=(λ_=>0,λi:Nat=>if d.1<(i:Int)∧i<24 then kept F D q i else 0)):Ok (Al d) (λx:kh=>x.2.1=b∧x.2.2.2.2.2=(λ_=>0,λi=>if i<24 then kept F D q i else 0)):=
 aZ (s:=_) (λd:ee.B=> -1<=d.1∧d.1<=23∧d.2.1=b∧d.2.2.2.1=e∧(∀i k,i<24->k<48->d.2.2.2.2.1 (i*48+k)=if i=k then F i else if k=24+i then 1073741824 else 0)∧d.2.2.2.2.2=(λ_=>0,λi:Nat=>if d.1<(i:Int)∧i<24 then kept F D q i else 0)) (λd:ee.B=>Int.toNat (d.1+1)) (λx:kh=>x.2.1=b∧x.2.2.2.2.2=(λ_=>0,λi=>if i<24 then kept F D q i else 0)) (λd hd=>by
  obtain⟨i0,i1,i2,i3,i4,i5⟩:=hd
  unfold Ak
  dsimp only
  rw[aL]
  refine⟨λh=> ?_,λh=> ?_⟩
  ·have h:=of_decide_eq_true h
   obtain⟨j,hj⟩:∃m:Nat,d.1=(m:Int):=⟨Int.toNat d.1,by omega⟩
   have ayU:j<24:=by omega
   refine ay (aX0 F D q hk j ayU ((d.1,0),d.2.1,d.2.2.1,d.2.2.2.1,d.2.2.2.2.1,d.2.2.2.2.2,λx=>0) _ (by show∀i:Nat,i<24->d.2.2.2.1 i=D i∧d.2.2.2.1 (24+i)=q i;rw[i3];exact he) i4 ⟨Int.le_refl 0,(show(0:Int)<=48 by decide),hj,rfl,rfl,rfl,rfl,rfl,λk _ hk0=>absurd hk0 (by show ¬(k:Int)<0;omega)⟩) λx _ hx=> ?_
   obtain⟨a0,a1,a2,a3,a4,a5,a6⟩:=hx
   have a1:x.2.1=d.2.1:=a1
   have a4:x.2.2.2.2.1=d.2.2.2.2.1:=a4
   have a3:x.2.2.2.1=d.2.2.2.1:=a3
   have a5:x.2.2.2.2.2.1=d.2.2.2.2.2:=a5
   have r0:aX x.1.1 24=true:=by rw[bn,a0];omega
   have r1:(true&&Nat.ble (276+Int.toNat x.1.1*1+1) 300)=true:=by rw[Bool.true_and,bL,a0];omega
   have wv:∀k,k<48->x.2.2.2.2.1 (0+Int.toNat x.1.1*48+k)=if j=k then F j else if k=24+j then 1073741824 else 0:=λk Ek=>by
    rw[a4,a0,Int.toNat_natCast,Nat.zero_add];exact i4 j k ayU Ek
   have K:=(hk j ayU).1.le
   have kp:=(hk.k j ayU).le
   have kz:=hk.z j ayU
   have dot:br 30 48 48 x.2.1 (λk=>x.2.2.2.2.1 (0+Int.toNat x.1.1*48+k)) x.2.2.2.2.2.2 false false=some (kept F D q j,x.2.1):=by
    refine aDs 48 (if F j=0 then 24+j else j) (by decide) (by split<;>omega) _ _ _ _ _ _ (λk Ek=> ?_) (λk Ek=> ?_) (λk Ek kV=> ?_) ?_ (by omega)
    ·show -1152921504606846976<=x.2.2.2.2.1 (0+Int.toNat x.1.1*48+k)∧x.2.2.2.2.1 (0+Int.toNat x.1.1*48+k)<=1152921504606846976
     rw[wv k Ek]
     split
     ·omega
     ·split<;>omega
    ·rw[a6 k Ek];exact aTH hk j k ayU
    ·show x.2.2.2.2.1 (0+Int.toNat x.1.1*48+k)*x.2.2.2.2.2.2 k=0
     rw[wv k Ek,a6 k Ek]
     unfold yv
     by_cases c:k=j
     ·subst c
      by_cases f0:F k=0
      ·rw[if_pos rfl,f0,Int.zero_mul]
      ·rw[if_neg f0] at kV;exact absurd rfl kV
     ·rw[if_neg (λh=>c h.symm),if_neg c]
      by_cases c2:k=24+j
      ·by_cases f0:F j=0
       ·rw[if_pos f0] at kV;exact absurd c2 kV
       ·rw[if_pos c2,if_pos c2]
        rw[(kz f0).1,Int.mul_zero]
      ·rw[if_neg c2,if_neg c2,Int.zero_mul]
    ·show x.2.2.2.2.1 (0+Int.toNat x.1.1*48+(if F j=0 then 24+j else j))*x.2.2.2.2.2.2 (if F j=0 then 24+j else j)=kept F D q j*1073741824
     rw[wv _ (by split<;>omega),a6 _ (by split<;>omega)]
     unfold yv kept
     by_cases f0:F j=0
     ·rw[if_pos f0,if_pos f0,if_neg (by omega:¬j=24+j),if_pos rfl,if_neg (by omega:¬24+j=j),if_pos rfl,Int.mul_comm,if_pos f0]
     ·rw[if_neg f0,if_neg f0,if_pos rfl,if_pos rfl,(kz f0).2,Int.mul_comm,if_neg (by decide)]
   rw[r0,aC,dot,bQ,ac1 _ _ _ _ kp.1 kp.2,bQ,aC,r1,aC]
   refine ay (aX3 F D q (λi:Nat=>if d.1-1<(i:Int)∧i<24 then kept F D q i else 0) hk j ayU (kept F D q j) (hk.k j ayU) ((x.1.1,kept F D q j,x.1.1,0),x.2.1,x.2.2.1,x.2.2.2.1,x.2.2.2.2.1,(x.2.2.2.2.2.1.1,λi=>bif Nat.beq i (Int.toNat x.1.1) then kept F D q j else x.2.2.2.2.2.1.2 i),x.2.2.2.2.2.2) _ ⟨Int.le_refl 0,by show 0<=x.1.1;omega,a0,a0,rfl,rfl,rfl,rfl,by show∀i k,i<24->k<48->x.2.2.2.2.1 (i*48+k)=_;rw[a4];exact i4,?_,a6⟩) λy _ hy=> ?_
   ·refine Prod.ext (by show x.2.2.2.2.2.1.1=_;rw[a5,i5]) (funext λi=> ?_)
    show(bif Nat.beq i (Int.toNat x.1.1) then kept F D q j else x.2.2.2.2.2.1.2 i)=if d.1-1<(i:Int)∧i<24 then kept F D q i else 0
    rw[E2,a0,a5,i5,Int.toNat_natCast]
    show(if i=j then kept F D q j else if d.1<(i:Int)∧i<24 then kept F D q i else 0)=_
    by_cases c:i=j
    ·subst c;rw[if_pos rfl,if_pos (by omega)]
    ·rw[if_neg c]
     by_cases c2:d.1<(i:Int)∧i<24
     ·rw[if_pos c2,if_pos (by omega)]
     ·rw[if_neg c2,if_neg (by omega)]
   obtain⟨b0,b1,b2,b3,b4,b5⟩:=hy
   have b1:y.2.1=x.2.1:=b1
   have b3:y.2.2.2.1=x.2.2.2.1:=b3
   have hw:wI (y.1.1-1)=d.1-1:=by rw[b0,<-hj];exact eP (by omega) (by omega)
   rw[av,hw]
   exact⟨⟨by show -1<=d.1-1;omega,by show d.1-1<=23;omega,b1.trans (a1.trans i2),b3.trans (a3.trans i3),b4,b5⟩,by show Int.toNat (d.1-1+1)<_;omega⟩
  ·have h:=of_decide_eq_false h
   rw[av]
   refine⟨i2,i5.trans (Prod.ext rfl (funext λi=> ?_))⟩
   show(if d.1<(i:Int)∧i<24 then kept F D q i else 0)=if i<24 then kept F D q i else 0
   by_cases c:i<24
   ·rw[if_pos c,if_pos (by omega)]
   ·rw[if_neg c,if_neg (by omega)]) 2000 d hd (by omega)
theorem aNz (F U D Fm Q q:Nat->Int)(b:Bool)(hk:NG F D q)(hU:∀p,p<276->U p=0)(hf:(∀i k,i<24->k<24->Fm (i*24+k)=if i=k then F i else 0))(hq:∀i,i<24->Q i=q i):jh U D Fm Q b=some ((λ_=>0,λi=>if i<24 then kept F D q i else 0),b):=by
 have h:Ok (jh U D Fm Q b) (λr:MI=>r=((λ_=>0,λi=>if i<24 then kept F D q i else 0),b)):=by
  unfold jh EJ
  show PQ _ _
  refine ay (aNx U D b hU (λi hi=>(hk i hi).1.le)) λc _ hc=> ?_
  obtain⟨c0,c1,c2⟩:=hc
  refine ay (aXZ F D q c.2 hk.F (0,c.2,c.1,Fm,Q,(λx=>0,λx=>0),λx=>0) _ c2 (λi hi=>⟨hq i hi,hk.q i hi⟩) ⟨Int.le_refl 0,(show(0:Int)<=24 by decide),rfl,rfl,hf,rfl,rfl,λi _ hi=>absurd hi (by show ¬(i:Int)<0;omega)⟩) λx _ hx=> ?_
  obtain⟨a1,a2,a3,a4,a5⟩:=hx
  have a2:x.2.2.1=c.1:=a2
  refine ay (aNy F _ _ x.2.2.2.1 x.2.1 hk.F (by rw[a2];exact c1) a3) λw _ hw=> ?_
  refine ay (aX4 F D q b x.2.2.2.2.2.2 hk (λi hi=>a5 i hi (by omega)) _ ⟨(show(-1:Int)<=23 by decide),(show(23:Int)<=23 by decide),hw.1.trans (a1.trans c0),rfl,hw.2,?_⟩) λy _ hy=> ?_
  ·refine Prod.ext rfl (funext λi=> ?_)
   show(0:Int)=if (23:Int)<(i:Int)∧i<24 then kept F D q i else 0
   rw[if_neg (by omega)]
  ·rw[av]
   exact Prod.ext hy.2 hy.1
 obtain⟨r,h1,h2⟩:=h
 rw[h1,h2]
theorem aX5 (d:eN.B)(hd:0<=d.1∧d.1<=24∧∀i k:Nat,i<24->k<24->d.2.2 (i*24+k)=if i=k∧(i:Int)<d.1 then 1073741824 else 0):Ok (CB d) (λx:lu=>∀i k:Nat,i<24->k<24->x.2.2 (i*24+k)=if i=k then 1073741824 else 0):=
 aZ (s:=_) (λd:eN.B=>0<=d.1∧d.1<=24∧∀i k:Nat,i<24->k<24->d.2.2 (i*24+k)=if i=k∧(i:Int)<d.1 then 1073741824 else 0) (λd:eN.B=>Int.toNat (24-d.1)) (λx:lu=>∀i k:Nat,i<24->k<24->x.2.2 (i*24+k)=if i=k then 1073741824 else 0) (λd hd=>by
  obtain⟨i0,i1,i2⟩:=hd
  have hw:wI (d.1+1)=d.1+1:=bd (by omega) (by omega)
  unfold CA
  dsimp only
  rw[aL]
  refine⟨λh=> ?_,λh=> ?_⟩
  ·have h:=of_decide_eq_true h
   have r0:aX d.1 24=true:=by rw[bn];omega
   have r1:(true&&Nat.ble (0+(Int.toNat d.1*24+Int.toNat d.1)*1+1) 576)=true:=by rw[Bool.true_and,bL];omega
   rw[r0,r1,aC,aC,aC,av,hw]
   refine⟨⟨by show 0<=d.1+1;omega,by show d.1+1<=24;omega,λi k hi hk=> ?_⟩,by show Int.toNat (24-(d.1+1))<_;omega⟩
   show(bif Nat.beq (i*24+k) (Int.toNat d.1*24+Int.toNat d.1) then 1073741824 else d.2.2 (i*24+k))=if i=k∧(i:Int)<d.1+1 then 1073741824 else 0
   rw[E2,i2 i k hi hk]
   by_cases e:i*24+k=Int.toNat d.1*24+Int.toNat d.1
   ·rw[if_pos e,if_pos (by omega)]
   ·rw[if_neg e]
    by_cases e2:i=k∧(i:Int)<d.1
    ·rw[if_pos e2,if_pos (by omega)]
    ·rw[if_neg e2,if_neg (by omega)]
  ·have h:=of_decide_eq_false h
   rw[av]
   intro i k hi hk
   show d.2.2 (i*24+k)=_
   rw[i2 i k hi hk]
   by_cases e:i=k
   ·rw[if_pos e,if_pos (by omega)]
   ·rw[if_neg e,if_neg (by omega)]) 2000 d hd (by omega)
theorem aPW:Ok mg (λr:Bi=>∀i k:Nat,i<24->k<24->r (i*24+k)=if i=k then 1073741824 else 0):=by
 unfold mg Hj
 show PQ _ _
 refine ay (aX5 _ ⟨Int.le_refl 0,(show(0:Int)<=24 by decide),λi k hi hk=>by show(0:Int)=_;rw[if_neg (by show ¬(i=k∧(i:Int)<0);omega)]⟩) λx _ hx=> ?_
 rw[av];exact hx
theorem aX6 (w d:fm.B)(hv:∀j:Nat,j<4->okV (w.2.2.1 j))(hd:0<=d.1.2.2.2∧d.1.2.2.2<=4∧d.1.1=0∧d.1.2.1.1=4∧d.1.2.2.1=4∧d.2.1=w.2.1∧d.2.2.1=w.2.2.1∧d.2.2.2.1=w.2.2.2.1∧(∀i k:Nat,i<24->k<24->d.2.2.2.2.2.1 (i*24+k)=if i=k∧¬(i:Int)<d.1.2.2.2 then 1073741824 else 0)∧∀i:Nat,i<24->d.2.2.2.2.2.2 i=if (i:Int)<d.1.2.2.2 then w.2.2.1 i else 0):Ok (EL d) (λx:mL=>x.2.1=w.2.1∧x.2.2.2.1=w.2.2.2.1∧(∀i k:Nat,i<24->k<24->x.2.2.2.2.2.1 (i*24+k)=if i=k∧¬i<4 then 1073741824 else 0)∧∀i:Nat,i<24->x.2.2.2.2.2.2 i=if i<4 then w.2.2.1 i else 0):=
 aZ (s:=_) (λd:fm.B=>0<=d.1.2.2.2∧d.1.2.2.2<=4∧d.1.1=0∧d.1.2.1.1=4∧d.1.2.2.1=4∧d.2.1=w.2.1∧d.2.2.1=w.2.2.1∧d.2.2.2.1=w.2.2.2.1∧(∀i k:Nat,i<24->k<24->d.2.2.2.2.2.1 (i*24+k)=if i=k∧¬(i:Int)<d.1.2.2.2 then 1073741824 else 0)∧∀i:Nat,i<24->d.2.2.2.2.2.2 i=if (i:Int)<d.1.2.2.2 then w.2.2.1 i else 0) (λd:fm.B=>Int.toNat (4-d.1.2.2.2)) (λx:mL=>x.2.1=w.2.1∧x.2.2.2.1=w.2.2.2.1∧(∀i k:Nat,i<24->k<24->x.2.2.2.2.2.1 (i*24+k)=if i=k∧¬i<4 then 1073741824 else 0)∧∀i:Nat,i<24->x.2.2.2.2.2.2 i=if i<4 then w.2.2.1 i else 0) (λd hd=>by
  obtain⟨i0,i1,i2,i3,i4,i5,i6,i7,i8,i9⟩:=hd
  have hw:wI (d.1.2.2.2+1)=d.1.2.2.2+1:=bd (by omega) (by omega)
  have hy:wI (d.1.1+d.1.2.2.2)=d.1.2.2.2:=by rw[i2,Int.zero_add];exact eP (by omega) (by omega)
  unfold EK
  dsimp only
  rw[aL]
  refine⟨λh=> ?_,λh=> ?_⟩
  ·have h:=of_decide_eq_true h
   have r0:aX d.1.2.2.2 d.1.2.1.1=true:=by rw[bn,i3];omega
   have r1:aX d.1.2.2.2 24=true:=by rw[bn];omega
   have r2:(true&&Nat.ble (0+(Int.toNat d.1.2.2.2*24+Int.toNat d.1.2.2.2)*1+1) 576)=true:=by rw[Bool.true_and,bL];omega
   have r3:(true&&Nat.ble (0+Int.toNat d.1.2.2.2*1+1) 24)=true:=by rw[Bool.true_and,bL];omega
   have v:=(hv (Int.toNat d.1.2.2.2) (by omega)).le
   rw[<-i6] at v
   rw[hy,r0,aC,aUU _ i0 (by omega),bQ,aC,aTG _ _ v.1 v.2,bQ,r1,r2,r3,aC,aC,aC,aC,aC,av,hw]
   refine⟨⟨by show 0<=d.1.2.2.2+1;omega,by show d.1.2.2.2+1<=4;omega,i2,i3,i4,i5,i6,i7,λi k hi hk=> ?_,λi hi=> ?_⟩,by show Int.toNat (4-(d.1.2.2.2+1))<_;omega⟩
   ·show(bif Nat.beq (i*24+k) (Int.toNat d.1.2.2.2*24+Int.toNat d.1.2.2.2) then 0 else d.2.2.2.2.2.1 (i*24+k))=if i=k∧¬(i:Int)<d.1.2.2.2+1 then 1073741824 else 0
    rw[E2,i8 i k hi hk]
    by_cases e:i*24+k=Int.toNat d.1.2.2.2*24+Int.toNat d.1.2.2.2
    ·rw[if_pos e,if_neg (by omega)]
    ·rw[if_neg e]
     by_cases e2:i=k∧¬(i:Int)<d.1.2.2.2
     ·rw[if_pos e2,if_pos (by omega)]
     ·rw[if_neg e2,if_neg (by omega)]
   ·show(bif Nat.beq i (Int.toNat d.1.2.2.2) then d.2.2.1 (Int.toNat d.1.2.2.2) else d.2.2.2.2.2.2 i)=if (i:Int)<d.1.2.2.2+1 then w.2.2.1 i else 0
    rw[E2,i9 i hi,i6]
    by_cases e:i=Int.toNat d.1.2.2.2
    ·rw[if_pos e,if_pos (by omega),e]
    ·rw[if_neg e]
     by_cases e2:(i:Int)<d.1.2.2.2
     ·rw[if_pos e2,if_pos (by omega)]
     ·rw[if_neg e2,if_neg (by omega)]
  ·have h:=of_decide_eq_false h
   rw[av]
   refine⟨i5,i7,λi k hi hk=> ?_,λi hi=> ?_⟩
   ·show d.2.2.2.2.2.1 (i*24+k)=_
    rw[i8 i k hi hk]
    by_cases e:i=k∧¬i<4
    ·rw[if_pos e,if_pos (by omega)]
    ·rw[if_neg e,if_neg (by omega)]
   ·show d.2.2.2.2.2.2 i=_
    rw[i9 i hi]
    by_cases e:i<4
    ·rw[if_pos e,if_pos (by omega)]
    ·rw[if_neg e,if_neg (by omega)]) 2000 d hd (by omega)
theorem aKI (U D V:Nat->Int)(b w:Bool)(hU:∀p,p<276->U p=0)(hD:∀i,i<24->okV (D i))(hV:∀j,j<4->okV (V j)):
  cQ U D 0 4 b V w=some ((λ_=>0,λi=>if i<24 then(if i<4 then V i else D i) else 0),b):=by
 have h:Ok (cQ U D 0 4 b V w) (λr:U3=>r=((λ_=>0,λi=>if i<24 then(if i<4 then V i else D i) else 0),b)):=by
  unfold cQ Kj
  show PQ _ _
  refine ay aPW λm _ hm=> ?_
  rw[aM,aC]
  refine ay (aX6 ((0,(4,w),Int.ofNat 4,0),b,V,(U,D),(λx=>0,λx=>0),m,λx=>0) _ hV ⟨Int.le_refl 0,(show(0:Int)<=4 by decide),rfl,rfl,rfl,rfl,rfl,rfl,λi k hi hk=> ?_,λi hi=> ?_⟩) λx _ hx=> ?_
  ·show m (i*24+k)=if i=k∧¬(i:Int)<0 then 1073741824 else 0
   rw[hm i k hi hk]
   by_cases e:i=k
   ·rw[if_pos e,if_pos ⟨e,by omega⟩]
   ·rw[if_neg e,if_neg (λh=>e h.1)]
  ·show(0:Int)=if (i:Int)<0 then V i else 0
   rw[if_neg (by omega)]
  obtain⟨a1,a3,a5,a6⟩:=hx
  have a1:x.2.1=b:=a1
  have a3:x.2.2.2.1=(U,D):=a3
  have s:=aNz (λi=>if i<4 then 0 else 1073741824) U D x.2.2.2.2.2.1 x.2.2.2.2.2.2 (λi=>if i<4 then V i else 0) b (λi hi=>⟨hD i hi,by
    show((if i<4 then(0:Int) else 1073741824)=1073741824∧(if i<4 then V i else 0)=0)∨((if i<4 then(0:Int) else 1073741824)=0∧okV (if i<4 then V i else 0))
    by_cases c:i<4
    ·rw[if_pos c,if_pos c];exact Or.inr ⟨rfl,hV i c⟩
    ·rw[if_neg c,if_neg c];exact Or.inl ⟨rfl,rfl⟩⟩) hU (λi k hi hk=>by
    rw[a5 i k hi hk]
    by_cases c:i=k
    ·subst c
     by_cases c2:i<4
     ·rw[if_neg (λh=>h.2 c2),if_pos rfl,if_pos c2]
     ·rw[if_pos ⟨rfl,c2⟩,if_pos rfl,if_neg c2]
    ·rw[if_neg (λh=>c h.1),if_neg c]) a6
  rw[a3,a1,s,bQ,av]
  refine Prod.ext (Prod.ext rfl (funext λi=> ?_)) rfl
  show(if i<24 then kept _ D _ i else 0)=if i<24 then(if i<4 then V i else D i) else 0
  unfold kept
  by_cases c:i<4
  ·simp[c]
  ·simp[c]
 obtain⟨r,h1,h2⟩:=h
 rw[h1,h2]
end Go.Proofs.YtcmfbkneahoonaaGreat
namespace Go.Proofs.YtcmfbkneahoonaaGreat
open Go.Ab Go.Ab.Pg
noncomputable section
def allM:Nat->(Nat->Bool)->Bool
 |0,_=>true
 |n+1,f=>allM n f&&f n
theorem auq {f:Nat->Bool}:∀n,allM n f=true->∀i,i<n->f i=true
 |0,_,i,hi=>by omega
 |n+1,h,i,hi=>by
  have h:(allM n f&&f n)=true:=h
  rw[Bool.and_eq_true] at h
  by_cases e:i=n
  ·rw[e];exact h.2
  ·exact auq n h.1 i (by omega)
def isV (d:Int):Bool:=decide (d=17592186044416)||decide (d=68719476736)||decide (d=67108864)||decide (d=4294967296)||decide (d=17179869184)
theorem aOB {d:Int}(h:isV d=true):okV d:=by
 unfold isV at h
 simp only[Bool.or_eq_true,decide_eq_true_eq] at h
 unfold okV
 omega
def aTI (U D:Nat->Int)(a:Int)(n:Nat)(V:Nat->Int):Bool:=
 Nat.beq n 4&&decide (a=0)&&allM 276 (λp=>decide (U p=0))&&allM 24 (λi=>isV (D i))&&allM 4 (λi=>isV (V i))
def rsQ:fw:=λU D a n b V w=>bif aTI U D a n V then some ((λ_=>0,λi=>if i<24 then(if i<4 then V i else D i) else 0),b) else cQ U D a n b V w
theorem aUW:cQ=rsQ:=by
 funext U D a n b V w
 unfold rsQ
 cases h:aTI U D a n V
 ·rfl
 ·unfold aTI at h
  simp only[Bool.and_eq_true,decide_eq_true_eq] at h
  obtain⟨⟨⟨⟨h0,h1⟩,h2⟩,h3⟩,h4⟩:=h
  have h0:=Nat.eq_of_beq_eq_true h0
  subst h0
  subst h1
  refine aKI U D V b w (λp hp=>of_decide_eq_true (auq _ h2 p hp)) (λi hi=>aOB (auq _ h3 i hi)) (λi hi=>aOB (auq _ h4 i hi))
def aTJ (g:fw)(x:od.B):Option rP:=(xR oi jg aV jl IS fN g eR uL x).val
def aUX (g:fw)(x:ph.B):Option uC:=(AW (aTJ g) I5 sW qN x).val
def aTK (g:fw):fe.B->Option lq:=bD (xT (aUX g)) 2000
def aTL (g:fw)(d:iw.B):Option lr:=(xU (aTK g) d).val
def aWt (g:fw)(x:rm.B):Option wS:=(CT mM fa (aTL g) x).val
def aKJ (g:fw):pn.B->Option BF:=bD (RB A5 (aWt g)) 2000
def awo (g:fw)(x:GY.B):Option On:=(aa8 Ea (aKJ g) x).val
theorem aH9:apA=awo rsQ:=by
 rw[<-aUW];rfl
end
end Go.Proofs.YtcmfbkneahoonaaGreat
noncomputable section
namespace Go.Proofs.YtcmfbkneahoonaaGreat
open Go.Ab Go.Ab.Pg Go.Ab.Rq
def ayV:=qa (pl (cl xX nil) nil)
def afS:=qe B3
abbrev ayW:=afS.B
abbrev aKK:=NI->NI->Option ayW
def ayX (g:aKK):Ct:=(24,FC ayV (lf afS) (λb=>g b.1 b.2))
def ayY (fk:oW)(x0:Nat->Int)(x1:Nat->Int):Pg ayW:=opt (fk x0 x1 false) λd=>ret !d.2
def ayZ:=λx0 x1=>(ayY fh x0 x1).val
theorem aKL:∀fk,D0 [yp fk] 24 ayV (lf afS) λb=>ayY fk b.1 b.2:=λ_ b=>by kernel_rfl
theorem aKM [ax]:SC (ayX ayZ):=s0 (.c Ez (.nil _)) (aKL fh)
def aur:=qa (pu nil nil)
def abb:=qe B3
abbrev aus:=abb.B
abbrev afT:=Option aus
def aut (g:afT):Ct:=(7,FC aur (lf abb) (λ_=>g))
def Td:Option aus:=some true
theorem aKN [ax]:Snd Tryz.prog (aa7 (awo rsQ)):=aH9▸aEF
theorem aIa:aik Tryz.prog [alh alj,aa7 (awo rsQ),AZ kT,F6 rS,YA YC,wJ iv,aln zm,ayX ayZ,Iv mC,PR PU,YN YP,Pq wK] ⟨[],[],[],[],none⟩ 2000 7 aur (lf abb) λ_=>ret true:=λb=>by kernel_rfl
theorem aIb [ax]:SC (aut Td):=s0 (.c aC3 (.c aKN (.c Ll (.c Sk (.c aub (.c DY (.c ayA (.c aKM (.c WH (.c al7 (.c aum (.c alz (.nil _))))))))))))) aIa
end Go.Proofs.YtcmfbkneahoonaaGreat
noncomputable section
namespace Go.Proofs.YtcmfbkneahoonaaGreat
open Go.Ab Go.Ab.Pg Go.Ab.Rq
def oq:=qa (pl (c (aa lI) (cl xZ nil)) nil)
def NH:=qe B3
abbrev RC:=NH.B
abbrev aAc:=oq.B->Option RC
def aAd (g:aAc):Ct:=(4,FC oq (lf NH) g)
def iQ:=qs (st (pr (us 1 (c xZ (us 1 (xs 1 (cu kv (cu dy (us 1 (cu aIx (cu HC (c ai (c aLR (cl ai (us 131 nil))))))))))))) (pl (c (so (a 26 lI (c gb (c fq (a 2 my (cu (gp 3 5) (cu (gp 4 10) (c (gc (dG (pu rq9 (pr zD (pl eS (pu uM ek)))))) (au 6 (cu aIs (cu aIt (cu aIu (cu aIv (cu (gp 10 8) (cu (gp 11 8) nil)))))) (cu (gp 12 37) (a 4 ot (cu (gp 13 3) (c gb (c gi (a 3 fP (c gb (c gb (c gb (c gi (c gi (c gi (a 10 ou (cl (gc (dG (pu aAu (pu (ox (pu cw (pu cw (nat 10)))) (pl eS (pu (nat 10) ek)))))) nil))))))))))))))))))))))) (c (so (a 26 lI (c gb (c fq (a 2 my (cu (gp 15 5) (cu (gp 16 10) (c (gc (dG (pu aAv (pr zD (pl eS (pu uM ek)))))) (au 6 (cu (gp 18 8) (cu (gp 19 8) (cu (gp 20 8) (cu (gp 21 8) (cu (gp 22 8) (cu (gp 23 8) nil)))))) (cu (gp 24 37) (a 4 ot (cu (gp 25 3) (c gb (c gi (a 3 fP (c gb (c gb (c gb (c gi (c gi (c gi (a 10 ou (cl (gc (dG (pu (nat 26) (pu (ox (pu cw (pu cw (nat 10)))) (pl eS (pu (nat 10) ek)))))) nil))))))))))))))))))))))) (c Y0 (c ky (c kD (c lH (c xY (c Jl (c aAL (c aAM (c aAN (c (so aGo) (c jL (c (so (c gi (c gi (cl (gc (dG (pu (nat 33) (pu (ox (pu cw (pu cw mD))) (pl eS (pu mD ek)))))) nil)))) (c ov (c ky (c kD (c lH (c Y1 (c Y2 (c Y3 (c Y4 (c adi (c (so (a 5 gJ (c gi (c (gc (dG (pu (nat 39) (pu (ox (pu cw (pu cw eY))) (pl eS (pu eY ek)))))) jO)))) (c jL (c (so (c gi (c gi (cl (gc (dG (pu (nat 40) (pu (ox (pu cw (pu cw mD))) (pl eS (pu mD ek)))))) nil)))) aAS)))))))))))))))))))))))))) nil)))
def auu:=qs (st (pr (us 1 (c xZ (us 1 (xs 1 (cu kv (cu dy (us 1 (cu aIx (cu HC (c ai (c aLR (c ai (us 55 (c ai (c aLR (c ai (cl ab (us 72 nil)))))))))))))))))) (pl (c (so (a 26 lI (c gb (c fq (a 2 my (cu (gp 3 5) (cu (gp 4 10) (c (gc (dG (pu rq9 (pr zD (pl eS (pu uM ek)))))) (au 6 (cu aIs (cu aIt (cu aIu (cu aIv (cu (gp 10 8) (cu (gp 11 8) nil)))))) (cu (gp 12 37) (a 4 ot (cu (gp 13 3) (c gb (c gi (a 3 fP (c gb (c gb (c gb (c gi (c gi (c gi (a 10 ou (cl (gc (dG (pu aAu (pu (ox (pu cw (pu cw (nat 10)))) (pl eS (pu (nat 10) ek)))))) nil))))))))))))))))))))))) (c (so (a 26 lI (c gb (c fq (a 2 my (cu (gp 15 5) (cu (gp 16 10) (c (gc (dG (pu aAv (pr zD (pl eS (pu uM ek)))))) (au 6 (cu (gp 18 8) (cu (gp 19 8) (cu (gp 20 8) (cu (gp 21 8) (cu (gp 22 8) (cu (gp 23 8) nil)))))) (cu (gp 24 37) (a 4 ot (cu (gp 25 3) (c gb (c gi (a 3 fP (c gb (c gb (c gb (c gi (c gi (c gi (a 10 ou (cl (gc (dG (pu (nat 26) (pu (ox (pu cw (pu cw (nat 10)))) (pl eS (pu (nat 10) ek)))))) nil))))))))))))))))))))))) (c Y0 (c ky (c kD (c lH (c xY (c Jl (c aAL (c aAM (c aAN (c (so aGo) (c jL (c (so (c gi (c gi (cl (gc (dG (pu (nat 33) (pu (ox (pu cw (pu cw mD))) (pl eS (pu mD ek)))))) nil)))) (c ov (c ky (c kD (c lH (c Y1 (c Y2 (c Y3 (c Y4 (c adi (c (so (a 5 gJ (c gi (c (gc (dG (pu (nat 39) (pu (ox (pu cw (pu cw eY))) (pl eS (pu eY ek)))))) jO)))) (c jL (c (so (c gi (c gi (cl (gc (dG (pu (nat 40) (pu (ox (pu cw (pu cw mD))) (pl eS (pu mD ek)))))) nil)))) aAS)))))))))))))))))))))))))) nil)))
abbrev rr:=((arp×Int×Nat×Int×Int×Bool)×Ty1×Ty1×awr×vO×Jk×LY×bH×bH×bH×bH×bH×bH×Jf×qP×BZ×vO×Jk×LY×bH×bH×bH×bH×bH×bH×Jf×qP×BZ×iU×iU×iU×iU×iU×iU×awr×iU×iU×iU×iU×iU×iU×Nat×NI×NI×NI×NI×NI×NI×NI×NI×NI×NI×NI)
def YR {ρ:Type}(x:rr)(K:AX->St->Option ρ):Option ρ:=(λd=>K (.ex 2) (auu.em ((d.1.1,d.1.2.1,d.1.b.1,d.1.b.2.1,d.1.b.2.1,d.1.b.1,d.1.c),d.2))) x
def Lp (d:iQ.B):PL iQ rr:=let n2:=d.2.2.2;let n1:=d.1.2.2;let y0:=Int.ofNat n1.1;let y1:=0+Int.toNat n1.2;let y2:=decide (n1.2<y0);ae y2 (ae (aX n1.2 n1.1) (ae (true&&Nat.ble (0+y1*11+1) (n2.1.1*11+0)) (ret (Sum.inl ((d.1.1,d.1.2.1,n1.1,wI (n1.2+1)),d.2.1,d.2.2.1,(n2.1.1,λj=>bif Nat.beq j y1 then 99 else n2.1.2.1 j,n2.1.2.2),n2.2))) no) no) (ret (Sum.inr ((d.1.1,d.1.2.1,n1.1,n1.2,y0,y2),d.2)))
def Lq:=bD (Lp) 2000
def iR:=qs (st (pr (us 4 (cu kv (us 11 (c aLS (c aLT (cl ai (us 124 nil))))))) (pl aGr nil)))
def PW:=qs (st (pu (us 4 (cu kv (us 138 nil))) (pu nil nil)))
def al9:=qs (st (pr (us 4 (cu kv (us 11 (c aLS (c aLT (c ai (us 91 (c ai (c aLS (c ai (c ab (cu kv (c ai (c aLT (c ai (c ab aQr)))))))))))))))) (pl aGr nil)))
abbrev ru:=PW.B⊕((Nat×Nat×Int×Int×Bool×Int×Bool)×awr×Nat×NI×NI×NI×NI×NI×NI×NI×NI×NI×NI×NI)
def YS {ρ:Type}(x:ru)(K:AX->St->Option ρ):Option ρ:=(Sum.elim (λd=>K .ret (PW.em d)) (λd=>K (.ex 4) (al9.em ((d.1.1,d.1.2.1,d.1.b.1,d.1.b.1,d.1.1,d.1.b.2.1,d.1.c.1,d.1.b.1,d.1.2.1,d.1.c.2.1,d.1.c.b,d.1.c.b),d.2)))) x
def Lr (d:iR.B):PL iR ru:=let aS:=d.1.1;let n9:=d.1.2.1;let n6:=d.2.1.2;let bk:=n6.2.2;let n5:=d.2.2.2;let ba:=n5.2.2;let n4:=d.1.2.2;let n3:=ba.2.2;let n8:=n3.2.2.2;let n2:=bk.2.2;let n7:=n2.2.2.2;let n1:=((aS,n9,wI (n4+1)),d.2);let y0:=Int.ofNat aS;let y1:=Int.ofNat n9;let y2:=0+Int.toNat n4;let y3:=decide (n4<y0);let y4:=decide (n4<y1);ae y3 (ae (decide (n4>=y0)) (ret (Sum.inr (Sum.inl ()))) (ae (decide (n4>=y1)) (ret (Sum.inr (Sum.inl ()))) (ae (aX n4 aS) (ae (aX n4 n9) (ae (!(n6.1 y2==n5.1 y2&&(n6.2.1 y2==n5.2.1 y2&&(bk.1 y2==ba.1 y2&&(bk.2.1 y2==ba.2.1 y2&&(n2.1 y2==n3.1 y2&&true)))&&(n2.2.1 y2==n3.2.1 y2&&(n2.2.2.1 y2==n3.2.2.1 y2&&(n7.1 y2==n8.1 y2&&true))&&(n7.2.1 y2==n8.2.1 y2&&(n7.2.2.1 y2==n8.2.2.1 y2&&(n7.2.2.2 y2==n8.2.2.2 y2&&true))&&true))))) (ret (Sum.inr (Sum.inl ()))) (ret (Sum.inl n1))) no) no))) (ae y4 (ae (decide (n4>=y0)) (ret (Sum.inr (Sum.inl ()))) (ae (decide (n4>=y1)) (ret (Sum.inr (Sum.inl ()))) (ae (aX n4 aS) (ae (aX n4 n9) (ae (!(n6.1 y2==n5.1 y2&&(n6.2.1 y2==n5.2.1 y2&&(bk.1 y2==ba.1 y2&&(bk.2.1 y2==ba.2.1 y2&&(n2.1 y2==n3.1 y2&&true)))&&(n2.2.1 y2==n3.2.1 y2&&(n2.2.2.1 y2==n3.2.2.1 y2&&(n7.1 y2==n8.1 y2&&true))&&(n7.2.1 y2==n8.2.1 y2&&(n7.2.2.1 y2==n8.2.2.1 y2&&(n7.2.2.2 y2==n8.2.2.2 y2&&true))&&true))))) (ret (Sum.inr (Sum.inl ()))) (ret (Sum.inl n1))) no) no))) (ret (Sum.inr (Sum.inr ((aS,n9,n4,y0,y3,y1,y4),d.2)))))
def Ls:=bD (Lr) 2000
def iS:=qs (st (pr (us 1 (c xZ (us 1 (xs 1 (cu kv (cu dy (us 1 (cu aIx (cu HC (cl ai (us 133 nil))))))))))) (pl (c (so (a 26 lI (c gb (c fq (a 2 my (cu (gp 2 5) (cu (gp 3 10) (c (gc (dG (pu rq6 (pr zD (pl eS (pu uM ek)))))) (au 6 aGk (cu (gp 11 37) (a 4 ot (cu (gp 12 3) (c gb (c gi (a 3 fP (c gb (c gb (c gb (c gi (c gi (c gi (a 10 ou (cl (gc (dG (pu aws (pu (ox (pu cw (pu cw (nat 10)))) (pl eS (pu (nat 10) ek)))))) nil))))))))))))))))))))))) (c (so (a 26 lI (c gb (c fq (a 2 my (cu (gp 14 5) (cu (gp 15 10) (c (gc (dG (pu awt (pr zD (pl eS (pu uM ek)))))) (au 6 (cu (gp 17 8) (cu (gp 18 8) (cu (gp 19 8) (cu (gp 20 8) (cu (gp 21 8) (cu (gp 22 8) nil)))))) (cu (gp 23 37) (a 4 ot (cu (gp 24 3) (c gb (c gi (a 3 fP (c gb (c gb (c gb (c gi (c gi (c gi (a 10 ou (cl (gc (dG (pu (nat 25) (pu (ox (pu cw (pu cw (nat 10)))) (pl eS (pu (nat 10) ek)))))) nil))))))))))))))))))))))) (c ky (c kD (c lH (c B5 (c xY (c Jl (c aAL (c aAM (c aAN (c jL (c (so (c gi (c gi (cl (gc (dG (pu (nat 32) (pu (ox (pu cw (pu cw mD))) (pl eS (pu mD ek)))))) nil)))) (c ov (c ky (c kD (c lH (c (so adh) (c Y1 (c Y2 (c Y3 (c Y4 (c adi (c jL (c apK aAS))))))))))))))))))))))))) nil)))
def PX:=qs (st (pl (us 4 aQA) (pu nil nil)))
def ama:=qs (st (pr (us 1 (c xZ (us 1 (xs 1 (cu kv (cu dy (us 1 (cu aIx (cu HC (c ai (us 30 (c ai (c xZ (c ai (c ab (cu LZ (c ai (c ab (cl ab aQj))))))))))))))))))) (pl (c (so (a 26 lI (c gb (c fq (a 2 my (cu (gp 2 5) (cu (gp 3 10) (c (gc (dG (pu rq6 (pr zD (pl eS (pu uM ek)))))) (au 6 aGk (cu (gp 11 37) (a 4 ot (cu (gp 12 3) (c gb (c gi (a 3 fP (c gb (c gb (c gb (c gi (c gi (c gi (a 10 ou (cl (gc (dG (pu aws (pu (ox (pu cw (pu cw (nat 10)))) (pl eS (pu (nat 10) ek)))))) nil))))))))))))))))))))))) (c (so (a 26 lI (c gb (c fq (a 2 my (cu (gp 14 5) (cu (gp 15 10) (c (gc (dG (pu awt (pr zD (pl eS (pu uM ek)))))) (au 6 (cu (gp 17 8) (cu (gp 18 8) (cu (gp 19 8) (cu (gp 20 8) (cu (gp 21 8) (cu (gp 22 8) nil)))))) (cu (gp 23 37) (a 4 ot (cu (gp 24 3) (c gb (c gi (a 3 fP (c gb (c gb (c gb (c gi (c gi (c gi (a 10 ou (cl (gc (dG (pu (nat 25) (pu (ox (pu cw (pu cw (nat 10)))) (pl eS (pu (nat 10) ek)))))) nil))))))))))))))))))))))) (c ky (c kD (c lH (c B5 (c xY (c Jl (c aAL (c aAM (c aAN (c jL (c (so (c gi (c gi (cl (gc (dG (pu (nat 32) (pu (ox (pu cw (pu cw mD))) (pl eS (pu mD ek)))))) nil)))) (c ov (c ky (c kD (c lH (c (so adh) (c Y1 (c Y2 (c Y3 (c Y4 (c adi (c jL (c apK aAS))))))))))))))))))))))))) nil)))
def amb:=qs (st (pr (us 1 (c xZ (us 1 (xs 1 (cu kv (cu dy (us 1 (cu aIx (cu HC (c ai (us 30 (c ai (c xZ (c ai (cl ab (cu kv (xs 2 (cu kv aQj)))))))))))))))))) (pl (c (so (a 26 lI (c gb (c fq (a 2 my (cu (gp 2 5) (cu (gp 3 10) (c (gc (dG (pu rq6 (pr zD (pl eS (pu uM ek)))))) (au 6 aGk (cu (gp 11 37) (a 4 ot (cu (gp 12 3) (c gb (c gi (a 3 fP (c gb (c gb (c gb (c gi (c gi (c gi (a 10 ou (cl (gc (dG (pu aws (pu (ox (pu cw (pu cw (nat 10)))) (pl eS (pu (nat 10) ek)))))) nil))))))))))))))))))))))) (c (so (a 26 lI (c gb (c fq (a 2 my (cu (gp 14 5) (cu (gp 15 10) (c (gc (dG (pu awt (pr zD (pl eS (pu uM ek)))))) (au 6 (cu (gp 17 8) (cu (gp 18 8) (cu (gp 19 8) (cu (gp 20 8) (cu (gp 21 8) (cu (gp 22 8) nil)))))) (cu (gp 23 37) (a 4 ot (cu (gp 24 3) (c gb (c gi (a 3 fP (c gb (c gb (c gb (c gi (c gi (c gi (a 10 ou (cl (gc (dG (pu (nat 25) (pu (ox (pu cw (pu cw (nat 10)))) (pl eS (pu (nat 10) ek)))))) nil))))))))))))))))))))))) (c ky (c kD (c lH (c B5 (c xY (c Jl (c aAL (c aAM (c aAN (c jL (c (so (c gi (c gi (cl (gc (dG (pu (nat 32) (pu (ox (pu cw (pu cw mD))) (pl eS (pu mD ek)))))) nil)))) (c ov (c ky (c kD (c lH (c (so adh) (c Y1 (c Y2 (c Y3 (c Y4 (c adi (c jL (c apK aAS))))))))))))))))))))))))) nil)))
abbrev rv:=PX.B⊕(((arp×Int×Int×Bool×Bool)×Ty1×Ty1×vO×Jk×LY×bH×bH×bH×bH×bH×bH×Jf×qP×BZ×vO×Jk×LY×bH×bH×bH×bH×bH×bH×Jf×qP×BZ×iU×iU×iU×iU×iU×iU×awr×iU×iU×iU×iU×iU×iU×Nat×NI×NI×NI×NI×NI×NI×NI×NI×NI×NI×NI)⊕((arp×Int×Int×Bool)×Ty1×Ty1×vO×Jk×LY×bH×bH×bH×bH×bH×bH×Jf×qP×BZ×vO×Jk×LY×bH×bH×bH×bH×bH×bH×Jf×qP×BZ×iU×iU×iU×iU×iU×iU×awr×iU×iU×iU×iU×iU×iU×Nat×NI×NI×NI×NI×NI×NI×NI×NI×NI×NI×NI))
def YT {ρ:Type}(x:rv)(K:AX->St->Option ρ):Option ρ:=(Sum.elim (λd=>K .ret (PX.em d)) (Sum.elim (λd=>K (.ex 0) (ama.em ((d.1.1,d.1.2.1,d.1.2.1,d.1.1,d.1.b.1,d.1.b.2.1,d.1.2.1,d.1.c,d.1.c),d.2))) (λd=>K (.ex 0) (amb.em ((d.1.1,d.1.2.1,d.1.2.1,d.1.1,d.1.b),d.2))))) x
def Lt (aDt:arj)(po:A6)(Sl:F5)(qO:qD)(oV:LT iQ rr)(d:iS.B):PL iS rv:=let n79:=d.2.1.2;let n57:=d.1.2;let W2:=d.1.1;let AO:=d.2.2;let n60:=AO.2.2.2;let n38:=W2.2.2.2;let n80:=n38.2.2.2;let n32:=n79.2.2.2;let n62:=n32.2.2.2.2.2.2.2.2.2.2.2.2;let n29:=AO.1.2.2.2;let n59:=n29.2.2.2.2.2.2.2.2.2.2.2.2.2;let n15:=n80.2.2.2;let n39:=n15.2.2.2.2.2;let n82:=n39.2.2.2;let bk:=n60.2.2;let n61:=bk.2.2;let n28:=n61.2.2;let n58:=n28.2.2;let n5:=n58.2.2.2.2.2;let S5:=n5.2.2;let n21:=S5.2.2.2;let n74:=n21.2.2;let Cn:=n74.2.2.2;let n7:=Cn.2.2.2.2.2;let n81:=n7.1.2.2;let n52:=n7.2.2.2.2;let n33:=n81.2.2.2;let n83:=n33.2.2.2;let n17:=n52.2.2.2.2.2;let C2:=n17.2.2.2.2;let y0:=Int.toNat n57;let y1:=wI (n57+1);let y2:=Int.toNat y1;let n1:=(y2-y0,λj=>W2.2.1 (y0+j),λj=>W2.2.2.1 (y0+j),λj=>n38.1 (y0+j),λj=>n38.2.1 (y0+j),λj=>n38.2.2.1 (y0+j),λj=>n80.1 (y0+j),λj=>n80.2.1 (y0+j),λj=>n80.2.2.1 (y0+j),λj=>n15.1 (y0+j),λj=>n15.2.1 (y0+j),λj=>n15.2.2.1 (y0+j),λj=>n15.2.2.2.1 (y0+j),λj=>n15.2.2.2.2.1 (y0+j),λj=>n39.1 (y0+j),λj=>n39.2.1 (y0+j),λj=>n39.2.2.1 (y0+j),λj=>n82.1 (y0+j),λj=>n82.2.1 (y0+j),λj=>n82.2.2.1 (y0+j),λj=>n82.2.2.2 (y0+j));let y3:=Int.ofNat W2.1;let y4:=decide (n57<30);let y5:=Cu n57 y2;let y6:=Cu y1 W2.1;let y7:=decide (n57<y3);ae y7 (ae y4 (ae y6 (ae y5 (ae (Nat.beq n32.1.2 n32.1.2) (ae (Nat.beq n62 n62) (ae (Nat.beq n60.2.1.2.2.1 n60.2.1.2.2.1) (ae (Nat.beq bk.1.2.2.1 bk.1.2.2.1) (ae (Nat.beq bk.2.1.2.2.1 bk.2.1.2.2.1) (ae (Nat.beq n61.1.2.2.1 n61.1.2.2.1) (ae (Nat.beq n61.2.1.2.2.1 n61.2.1.2.2.1) (ae (Nat.beq n28.1.2.2.1 n28.1.2.2.1) (ae (Nat.beq n58.1.2.2 n58.1.2.2) (opt (aDt (n1,(d.2.1.1,n79.1,n79.2.1,n79.2.2.1,n32.1.2,n32.2),AO.2.1,AO.2.2.1,(sh8 n32.1.1 n60.1.2),n60.2.1,bk.1,bk.2.1,n61.1,n61.2.1,n28.1,n28.2.1,n58.1,(Jj 0 n58.2.1.2),(ep 0 n74.2.2.1.2),(ep 0 Cn.1.2),(ep 0 Cn.2.1.2),(ep 0 Cn.2.2.1.2),(ep 0 Cn.2.2.2.1.2),(ep 0 Cn.2.2.2.2.1.2),λj=>n7.1.2.1 (0+j),λj=>n81.1 (0+j),λj=>n81.2.1 (0+j),λj=>n81.2.2.1 (0+j),λj=>n33.1 (0+j),λj=>n33.2.1 (0+j),λj=>n33.2.2.1 (0+j),λj=>n83.1 (0+j),λj=>n83.2.1 (0+j),λj=>n83.2.2.1 (0+j),λj=>n83.2.2.2 (0+j))) λaj=>let n75:=aj.2.1;let n63:=aj.2.2;let n34:=n75.2.2.2.2;let n67:=n34.2.2.2.2.2.2.2.2.2.2.2.2;let n20:=n63.2.2.2;let n53:=n20.2.2;let n9:=n53.2.2;let n35:=n9.2.2.2;let n64:=n35.2.2;let bA:=n64.2.2.2;let n65:=bA.2.2;let n24:=n65.2.2.2.2.2;let n68:=n24.2.2.2;ae y6 (ae y5 (ae (Nat.beq n29.2.1.2 n29.2.1.2) (ae (Nat.beq n59 n59) (ae (Nat.beq n5.1.2.2.1 n5.1.2.2.1) (ae (Nat.beq n5.2.1.2.2.1 n5.2.1.2.2.1) (ae (Nat.beq S5.1.2.2.1 S5.1.2.2.1) (ae (Nat.beq S5.2.1.2.2.1 S5.2.1.2.2.1) (ae (Nat.beq S5.2.2.1.2.2.1 S5.2.2.1.2.2.1) (ae (Nat.beq n21.1.2.2.1 n21.1.2.2.1) (ae (Nat.beq n74.1.2.2 n74.1.2.2) (opt (aDt (n1,(AO.1.1,AO.1.2.1,AO.1.2.2.1,n29.1,n29.2.1.2,n29.2.2),n58.2.2.1,n58.2.2.2.1,(sh8 n29.2.1.1 n58.2.2.2.2.1.2),n5.1,n5.2.1,S5.1,S5.2.1,S5.2.2.1,n21.1,n21.2.1,n74.1,(Jj 0 n74.2.1.2),(ep 0 n7.2.1.2),(ep 0 n7.2.2.1.2),(ep 0 n7.2.2.2.1.2),(ep 0 n52.1.2),(ep 0 n52.2.1.2),(ep 0 n52.2.2.1.2),λj=>n52.2.2.2.2.1 (0+j),λj=>n17.1 (0+j),λj=>n17.2.1 (0+j),λj=>n17.2.2.1 (0+j),λj=>n17.2.2.2.1 (0+j),λj=>C2.1 (0+j),λj=>C2.2.1 (0+j),λj=>C2.2.2.1 (0+j),λj=>C2.2.2.2.1 (0+j),λj=>C2.2.2.2.2.1 (0+j),λj=>C2.2.2.2.2.2 (0+j))) λaF=>let n66:=aF.2.2.2;let n23:=n66.2.2.2.2;let n69:=n23.2.2.2;ae (aj.1!=aF.1) (ret (Sum.inr (Sum.inl false))) (ae (Nat.beq n34.1.2 n34.1.2) (ae (Nat.beq n67 n67) (ae (Nat.beq n20.1.2.2.1 n20.1.2.2.1) (ae (Nat.beq n20.2.1.2.2.1 n20.2.1.2.2.1) (ae (Nat.beq n53.1.2.2.1 n53.1.2.2.1) (ae (Nat.beq n53.2.1.2.2.1 n53.2.1.2.2.1) (ae (Nat.beq n9.1.2.2.1 n9.1.2.2.1) (ae (Nat.beq n9.2.1.2.2.1 n9.2.1.2.2.1) (ae (Nat.beq n35.1.2.2 n35.1.2.2) (opt (po ((n75.1,n75.2.1,n75.2.2.1,n75.2.2.2.1,n34.1.2,n34.2),n63.1,n63.2.1,(sh8 n34.1.1 n63.2.2.1.2),n20.1,n20.2.1,n53.1,n53.2.1,n9.1,n9.2.1,n9.2.2.1,n35.1,(Jj 0 n35.2.1.2),(ep 0 n64.1.2),(ep 0 n64.2.1.2),(ep 0 n64.2.2.1.2),(ep 0 bA.1.2),(ep 0 bA.2.1.2),(ep 0 n65.1.2),λj=>n65.2.2.1 (0+j),λj=>n65.2.2.2.1 (0+j),λj=>n65.2.2.2.2.1 (0+j),λj=>n24.1 (0+j),λj=>n24.2.1 (0+j),λj=>n24.2.2.1 (0+j),λj=>n68.1 (0+j),λj=>n68.2.1 (0+j),λj=>n68.2.2.1 (0+j),λj=>n68.2.2.2.1 (0+j),λj=>n68.2.2.2.2 (0+j))) λbx=>opt (oV ((W2,n57,bx.1,0),n75,aF.2.1,bx.2,n63.1,n63.2.1,n63.2.2.1,n20.1,n20.2.1,n53.1,n53.2.1,n9.1,n9.2.1,n9.2.2.1,n35.1,n35.2.1,aF.2.2.1,n66.1,n66.2.1,n66.2.2.1,n66.2.2.2.1,n23.1,n23.2.1,n23.2.2.1,n69.1,n69.2.1,n69.2.2.1,n69.2.2.2.1,n64.1,n64.2.1,n64.2.2.1,bA.1,bA.2.1,n65.1,n65.2,n69.2.2.2.2)) λd=>let n76:=d.2.1;let n55:=d.2.2.1;let n31:=d.2.2.2.2;let n84:=n31.2.2.1.2;let n26:=n76.2.2.2.2;let n73:=n26.2.2.2.2.2.2.2.2.2.2.2.2;let n25:=n55.2.2.2.2;let n72:=n25.2.2.2.2.2.2.2.2.2.2.2.2;let bl:=n31.2.2.2;let n85:=bl.2.1;let GV:=bl.2.2;let n86:=GV.2.1;let n6:=GV.2.2;let n87:=n6.2.1;let n30:=n6.2.2.2;let n70:=n30.2.2;let aS:=n70.2.2.2;let n54:=aS.2.2;let n22:=n54.2.2;let n51:=n22.2.2.2;let n4:=n51.2.2;let n88:=n4.2.2.1.2;let yS:=n4.2.2.2;let n89:=yS.2.2.1.2;let n8:=yS.2.2.2;let n90:=n8.2.2;let wL:=n8.1.2.2;let n37:=n90.2.2;let n91:=n37.2.2;let n16:=wL.2.2.2;let n36:=n16.2.2.2;let n77:=n36.2.2;let ba:=n91.2.2.2;let n71:=ba.2.2;let n27:=n71.2.2.2;let n78:=n27.2.2;let n3:=(n55.1,n55.2.1,n55.2.2.1,n55.2.2.2.1,n25.1.2,n25.2);let n2:=(n76.1,n76.2.1,n76.2.2.1,n76.2.2.2.1,n26.1.2,n26.2);let y0:=Nat.beq n26.1.2 n26.1.2;let y1:=Nat.beq n73 n73;let y2:=Nat.beq n25.1.2 n25.1.2;let y3:=Nat.beq n72 n72;let y4:=Nat.beq bl.1.2.2.1 bl.1.2.2.1;let y5:=Nat.beq n85.2.2.1 n85.2.2.1;let y6:=Nat.beq GV.1.2.2.1 GV.1.2.2.1;let y7:=Nat.beq n86.2.2.1 n86.2.2.1;let y8:=Nat.beq n6.1.2.2.1 n6.1.2.2.1;let y9:=Nat.beq n87.2.2.1 n87.2.2.1;let rN:=Nat.beq n30.1.2.2 n30.1.2.2;let sD:=Nat.beq aS.1.2.2.1 aS.1.2.2.1;let vj:=Nat.beq aS.2.1.2.2.1 aS.2.1.2.2.1;let vk:=Nat.beq n54.1.2.2.1 n54.1.2.2.1;let vm:=Nat.beq n54.2.1.2.2.1 n54.2.1.2.2.1;let y15:=Nat.beq n22.1.2.2.1 n22.1.2.2.1;let y16:=Nat.beq n22.2.1.2.2.1 n22.2.1.2.2.1;let y17:=Nat.beq n51.1.2.2 n51.1.2.2;ae y0 (ae y1 (ae y4 (ae y5 (ae y6 (ae y7 (ae y8 (ae y9 (ae rN (opt (Sl (n2,n31.1,n31.2.1,(sh8 n26.1.1 n84),bl.1,n85,GV.1,n86,n6.1,n87,n6.2.2.1,n30.1,(Jj 0 n30.2.1.2),(ep 0 n4.1.2),(ep 0 n4.2.1.2),(ep 0 n88),(ep 0 yS.1.2),(ep 0 yS.2.1.2),(ep 0 n89),λj=>n8.1.2.1 (0+j),λj=>wL.1 (0+j),λj=>wL.2.1 (0+j),λj=>wL.2.2.1 (0+j),λj=>n16.1 (0+j),λj=>n16.2.1 (0+j),λj=>n16.2.2.1 (0+j),λj=>n36.1 (0+j),λj=>n36.2.1 (0+j),λj=>n77.1 (0+j),λj=>n77.2 (0+j))) λcv=>ae y2 (ae y3 (ae sD (ae vj (ae vk (ae vm (ae y15 (ae y16 (ae y17 (opt (Sl (n3,n70.1,n70.2.1,(sh8 n25.1.1 n70.2.2.1.2),aS.1,aS.2.1,n54.1,n54.2.1,n22.1,n22.2.1,n22.2.2.1,n51.1,(Jj 0 n51.2.1.2),(ep 0 n8.2.1.2),(ep 0 n90.1.2),(ep 0 n90.2.1.2),(ep 0 n37.1.2),(ep 0 n37.2.1.2),(ep 0 n91.1.2),λj=>n91.2.2.1 (0+j),λj=>ba.1 (0+j),λj=>ba.2.1 (0+j),λj=>n71.1 (0+j),λj=>n71.2.1 (0+j),λj=>n71.2.2.1 (0+j),λj=>n27.1 (0+j),λj=>n27.2.1 (0+j),λj=>n78.1 (0+j),λj=>n78.2.1 (0+j),λj=>n78.2.2 (0+j))) λdN=>ae (!arv 24 λj=>cv.1 j==dN.1 j) (ret (Sum.inr (Sum.inl false))) (ae (!((arv 276 λj=>cv.2.1 j==dN.2.1 j)&&((arv 24 λj=>cv.2.2 j==dN.2.2 j)&&true))) (ret (Sum.inr (Sum.inl false))) (ae y0 (ae y1 (ae y4 (ae y5 (ae y6 (ae y7 (ae y8 (ae y9 (ae rN (opt (qO (n2,n31.1,n31.2.1,(sh8 n26.1.1 n84),bl.1,n85,GV.1,n86,n6.1,n87,n6.2.2.1,n30.1,(Jj 0 n30.2.1.2),(ep 0 n4.1.2),(ep 0 n4.2.1.2),(ep 0 n88),(ep 0 yS.1.2),(ep 0 yS.2.1.2),(ep 0 n89),λj=>n8.1.2.1 (0+j),λj=>wL.1 (0+j),λj=>wL.2.1 (0+j),λj=>wL.2.2.1 (0+j),λj=>n16.1 (0+j),λj=>n16.2.1 (0+j),λj=>n16.2.2.1 (0+j),λj=>n36.1 (0+j),λj=>n36.2.1 (0+j),λj=>n77.1 (0+j),λj=>n77.2 (0+j))) λcL=>let W3:=cL.2.2.2.2;let n18:=W3.2.2.2.2.2;let n48:=n18.2.2.2.2;ae y2 (ae y3 (ae sD (ae vj (ae vk (ae vm (ae y15 (ae y16 (ae y17 (opt (qO (n3,n70.1,n70.2.1,(sh8 n25.1.1 n70.2.2.1.2),aS.1,aS.2.1,n54.1,n54.2.1,n22.1,n22.2.1,n22.2.2.1,n51.1,(Jj 0 n51.2.1.2),(ep 0 n8.2.1.2),(ep 0 n90.1.2),(ep 0 n90.2.1.2),(ep 0 n37.1.2),(ep 0 n37.2.1.2),(ep 0 n91.1.2),λj=>n91.2.2.1 (0+j),λj=>ba.1 (0+j),λj=>ba.2.1 (0+j),λj=>n71.1 (0+j),λj=>n71.2.1 (0+j),λj=>n71.2.2.1 (0+j),λj=>n27.1 (0+j),λj=>n27.2.1 (0+j),λj=>n78.1 (0+j),λj=>n78.2.1 (0+j),λj=>n78.2.2 (0+j))) λjW=>let Wj:=jW.2.2.2.2;let n19:=Wj.2.2.2.2.2;let n49:=n19.2.2.2.2;ae (!(cL.1==jW.1&&(cL.2.1==jW.2.1&&(cL.2.2.1==jW.2.2.1&&(cL.2.2.2.1==jW.2.2.2.1&&true)))&&(W3.1==Wj.1&&(W3.2.1==Wj.2.1&&(W3.2.2.1==Wj.2.2.1&&(W3.2.2.2.1==Wj.2.2.2.1&&(W3.2.2.2.2.1==Wj.2.2.2.2.1&&(n18.1==n19.1&&(n18.2.1==n19.2.1&&(n18.2.2.1==n19.2.2.1&&(n18.2.2.2.1==n19.2.2.2.1&&true)))&&(n48.1==n49.1&&(n48.2.1==n49.2.1&&(n48.2.2.1==n49.2.2.1&&true))&&(n48.2.2.2.1==n49.2.2.2.1&&(n48.2.2.2.2.1==n49.2.2.2.2.1&&(n48.2.2.2.2.2==n49.2.2.2.2.2&&true))&&true))&&true)))))))) (ret (Sum.inr (Sum.inl false))) (ae y0 (ae y1 (ae y4 (ae y5 (ae y6 (ae y7 (ae y8 (ae y9 (ae rN (opt (qO (n2,n31.1,n31.2.1,(sh8 n26.1.1 n84),bl.1,n85,GV.1,n86,n6.1,n87,n6.2.2.1,n30.1,(Jj 0 n30.2.1.2),(ep 0 n4.1.2),(ep 0 n4.2.1.2),(ep 0 n88),(ep 0 yS.1.2),(ep 0 yS.2.1.2),(ep 0 n89),λj=>n8.1.2.1 (0+j),λj=>wL.1 (0+j),λj=>wL.2.1 (0+j),λj=>wL.2.2.1 (0+j),λj=>n16.1 (0+j),λj=>n16.2.1 (0+j),λj=>n16.2.2.1 (0+j),λj=>n36.1 (0+j),λj=>n36.2.1 (0+j),λj=>n77.1 (0+j),λj=>n77.2 (0+j))) λpF=>ae (decide (pF.2.2.2.2.1>2199023255552)) (ret (Sum.inr (Sum.inl true))) (ret (Sum.inl ((d.1.1,wI (d.1.2.1+1)),n76,n55,n31)))) no) no) no) no) no) no) no) no) no)) no) no) no) no) no) no) no) no) no) no) no) no) no) no) no) no) no) no))) no) no) no) no) no) no) no) no) no) no) no) no) no) no) no) no) no) no) no) no) no) no) no) no) no) no) no)) no) no) no) no) no) no) no) no) no) no) no) no) no) no) no) no) no) no) no) no) no) no) (ret (Sum.inr (Sum.inr (Sum.inl ((W2,n57,y3,y7,y4),d.2)))))) (ret (Sum.inr (Sum.inr (Sum.inr ((W2,n57,y3,y7),d.2)))))
def Lu:=bD (Lt WQ mC rS iv Lq) 2000
def RD (aIc:afT)(WN:Wv)(po:A6)(Gn:LT iR ru)(dA:LT iS rv)(x:oq.B):Pg RC:=opt aIc λd=>ae (!d) (ret false) (opt (WN x.1) λd=>sm d (λd=>opt (WN x.1) λd=>sm d (λd=>ret true) (λd=>ret false)) (λd=>let n59:=d.1.2.2;let n21:=n59.2.2.2.2;let n60:=n21.2.2.2;let bl:=d.2.2.2;let n33:=bl.2.2.2.2.2;let n7:=n60.2.2.2.2;let n61:=n7.2.2.2;let n19:=n61.2.2.2.2;let n51:=n19.2.2.2.2;let n3:=n33.2.2.2.2;let GV:=n3.2.1;let n27:=n3.2.2;let W3:=n27.2.1;let ba:=n27.2.2;let Wj:=ba.2.1;let n37:=ba.2.2;opt (WN x.1) λaj=>sm aj (λd=>ret false) (λaF=>let n62:=aF.1.2.2;let n22:=n62.2.2.2.2;let n63:=n22.2.2.2;let bA:=aF.2.2.2;let n34:=bA.2.2.2.2.2;let n8:=n63.2.2.2.2;let n64:=n8.2.2.2;let n20:=n64.2.2.2.2;let n52:=n20.2.2.2.2;let n4:=n34.2.2.2.2;let n48:=n4.2.1;let n28:=n4.2.2;let n49:=n28.2.1;let bk:=n28.2.2;let S5:=bk.2.1;let n38:=bk.2.2;opt (dA ((x.2,0),((d.1.1,d.1.2.1,n59.1,n59.2.1,(n59.2.2.1,n59.2.2.2.1,n21.1,n21.2.1,n21.2.2.1,n60.1),(n60.2.1,n60.2.2.1,n60.2.2.2.1,n7.1,n7.2.1,n7.2.2.1),n61.1,n61.2.1,n61.2.2.1,n61.2.2.2.1,n19.1,n19.2.1,n19.2.2.1,n19.2.2.2.1,n51.1,n51.2.1),n51.2.2.1,n51.2.2.2.1,n51.2.2.2.2,(0,0),(0,0,false,false),false,0,(0,0,0),false,false,false,0,0,0,((1073741824,0,0,0),(0,0,0),0,0,0),0),((aF.1.1,aF.1.2.1,n62.1,n62.2.1,(n62.2.2.1,n62.2.2.2.1,n22.1,n22.2.1,n22.2.2.1,n63.1),(n63.2.1,n63.2.2.1,n63.2.2.2.1,n8.1,n8.2.1,n8.2.2.1),n64.1,n64.2.1,n64.2.2.1,n64.2.2.2.1,n20.1,n20.2.1,n20.2.2.1,n20.2.2.2.1,n52.1,n52.2.1),n52.2.2.1,n52.2.2.2.1,n52.2.2.2.2,(0,0),(0,0,false,false),false,0,(0,0,0),false,false,false,0,0,0,((1073741824,0,0,0),(0,0,0),0,0,0),0),((d.2.1.1,d.2.1.2.1,d.2.1.2.2.1),d.2.1.2.2.2),(d.2.2.1,(0,0,(0,0,0),0,0,0),false),(0,bl.1,bl.1,bl.1,bl.1,bl.1,bl.1,bl.1,bl.1),((0,0,0,0,0),bl.2.1,0, -9223372036854775808),((0,0,0,0,0),bl.2.2.1,0, -9223372036854775808),((0,0,0,0,0),bl.2.2.2.1,0, -9223372036854775808),((0,0,0,0,0),bl.2.2.2.2.1,0, -9223372036854775808),((0,0,0,0,0),n33.1,0, -9223372036854775808),((0,0,0,0,0),n33.2.1,0, -9223372036854775808),(n33.2.2.1,0),(n33.2.2.2.1.1,n33.2.2.2.1.2,0),(0,bl.1,bl.1,bl.1,bl.1,bl.1,bl.1,bl.1,bl.1,bl.1,bl.1),((aF.2.1.1,aF.2.1.2.1,aF.2.1.2.2.1),aF.2.1.2.2.2),(aF.2.2.1,(0,0,(0,0,0),0,0,0),false),(0,bA.1,bA.1,bA.1,bA.1,bA.1,bA.1,bA.1,bA.1),((0,0,0,0,0),bA.2.1,0, -9223372036854775808),((0,0,0,0,0),bA.2.2.1,0, -9223372036854775808),((0,0,0,0,0),bA.2.2.2.1,0, -9223372036854775808),((0,0,0,0,0),bA.2.2.2.2.1,0, -9223372036854775808),((0,0,0,0,0),n34.1,0, -9223372036854775808),((0,0,0,0,0),n34.2.1,0, -9223372036854775808),(n34.2.2.1,0),(n34.2.2.2.1.1,n34.2.2.2.1.2,0),(0,bA.1,bA.1,bA.1,bA.1,bA.1,bA.1,bA.1,bA.1,bA.1,bA.1),(0,n3.1,n3.1,n3.1,n3.1,n3.1,n3.1,n3.1,n3.1,n3.1),(0,GV,GV,GV,GV,GV,GV,GV,GV,GV),(0,n27.1,n27.1,n27.1,n27.1,n27.1,n27.1,n27.1,n27.1,n27.1),(0,W3,W3,W3,W3,W3,W3,W3,W3,W3),(0,ba.1,ba.1,ba.1,ba.1,ba.1,ba.1,ba.1,ba.1,ba.1),(0,Wj,Wj,Wj,Wj,Wj,Wj,Wj,Wj,Wj),(0,n37,n37,n37,n37,n37,n37,n37,n37,n37,n37,n37),(0,n4.1,n4.1,n4.1,n4.1,n4.1,n4.1,n4.1,n4.1,n4.1),(0,n48,n48,n48,n48,n48,n48,n48,n48,n48),(0,n28.1,n28.1,n28.1,n28.1,n28.1,n28.1,n28.1,n28.1,n28.1),(0,n49,n49,n49,n49,n49,n49,n49,n49,n49),(0,bk.1,bk.1,bk.1,bk.1,bk.1,bk.1,bk.1,bk.1,bk.1),(0,S5,S5,S5,S5,S5,S5,S5,S5,S5),0,n38,n38,n38,n38,n38,n38,n38,n38,n38,n38,n38)) λx=>sum x (λd=>ret d) λx=>sum x (λd=>let n73:=d.2.1.2;let n39:=d.2.2;let n65:=n39.2.2.2;let n29:=n73.2.2.2;let n67:=n29.2.2.2.2.2.2.2.2.2.2.2.2;let n25:=n39.1.2.2.2;let n57:=n25.2.2.2.2.2.2.2.2.2.2.2.2.2;let n9:=n65.2.2;let n66:=n9.2.2;let n23:=n66.2.2;let n55:=n23.2.2;let n1:=n55.2.2.2.2.2;let AO:=n1.2.2;let n17:=AO.2.2.2;let n71:=n17.2.2;let n35:=n71.2.2.2;let n5:=n35.2.2.2.2.2;let n74:=n5.1.2.2;let n53:=n5.2.2.2.2;let n30:=n74.2.2.2;let n75:=n30.2.2.2;let n15:=n53.2.2.2.2.2;let yS:=n15.2.2.2.2;ae (Nat.beq n29.1.2 n29.1.2) (ae (Nat.beq n67 n67) (ae (Nat.beq n65.2.1.2.2.1 n65.2.1.2.2.1) (ae (Nat.beq n9.1.2.2.1 n9.1.2.2.1) (ae (Nat.beq n9.2.1.2.2.1 n9.2.1.2.2.1) (ae (Nat.beq n66.1.2.2.1 n66.1.2.2.1) (ae (Nat.beq n66.2.1.2.2.1 n66.2.1.2.2.1) (ae (Nat.beq n23.1.2.2.1 n23.1.2.2.1) (ae (Nat.beq n55.1.2.2 n55.1.2.2) (opt (po ((d.2.1.1,n73.1,n73.2.1,n73.2.2.1,n29.1.2,n29.2),n39.2.1,n39.2.2.1,(sh8 n29.1.1 n65.1.2),n65.2.1,n9.1,n9.2.1,n66.1,n66.2.1,n23.1,n23.2.1,n55.1,(Jj 0 n55.2.1.2),(ep 0 n71.2.2.1.2),(ep 0 n35.1.2),(ep 0 n35.2.1.2),(ep 0 n35.2.2.1.2),(ep 0 n35.2.2.2.1.2),(ep 0 n35.2.2.2.2.1.2),λj=>n5.1.2.1 (0+j),λj=>n74.1 (0+j),λj=>n74.2.1 (0+j),λj=>n74.2.2.1 (0+j),λj=>n30.1 (0+j),λj=>n30.2.1 (0+j),λj=>n30.2.2.1 (0+j),λj=>n75.1 (0+j),λj=>n75.2.1 (0+j),λj=>n75.2.2.1 (0+j),λj=>n75.2.2.2 (0+j))) λbx=>ae (Nat.beq n25.2.1.2 n25.2.1.2) (ae (Nat.beq n57 n57) (ae (Nat.beq n1.1.2.2.1 n1.1.2.2.1) (ae (Nat.beq n1.2.1.2.2.1 n1.2.1.2.2.1) (ae (Nat.beq AO.1.2.2.1 AO.1.2.2.1) (ae (Nat.beq AO.2.1.2.2.1 AO.2.1.2.2.1) (ae (Nat.beq AO.2.2.1.2.2.1 AO.2.2.1.2.2.1) (ae (Nat.beq n17.1.2.2.1 n17.1.2.2.1) (ae (Nat.beq n71.1.2.2 n71.1.2.2) (opt (po ((n39.1.1,n39.1.2.1,n39.1.2.2.1,n25.1,n25.2.1.2,n25.2.2),n55.2.2.1,n55.2.2.2.1,(sh8 n25.2.1.1 n55.2.2.2.2.1.2),n1.1,n1.2.1,AO.1,AO.2.1,AO.2.2.1,n17.1,n17.2.1,n71.1,(Jj 0 n71.2.1.2),(ep 0 n5.2.1.2),(ep 0 n5.2.2.1.2),(ep 0 n5.2.2.2.1.2),(ep 0 n53.1.2),(ep 0 n53.2.1.2),(ep 0 n53.2.2.1.2),λj=>n53.2.2.2.2.1 (0+j),λj=>n15.1 (0+j),λj=>n15.2.1 (0+j),λj=>n15.2.2.1 (0+j),λj=>n15.2.2.2.1 (0+j),λj=>yS.1 (0+j),λj=>yS.2.1 (0+j),λj=>yS.2.2.1 (0+j),λj=>yS.2.2.2.1 (0+j),λj=>yS.2.2.2.2.1 (0+j),λj=>yS.2.2.2.2.2 (0+j))) λd=>opt (Gn ((bx.1,d.1,0),bx.2,d.2)) λx=>sum x (λd=>ret false) λd=>ret true) no) no) no) no) no) no) no) no) no) no) no) no) no) no) no) no) no) no) λd=>let n76:=d.2.1.2;let wL:=d.2.2;let n68:=wL.2.2.2;let n31:=n76.2.2.2;let n70:=n31.2.2.2.2.2.2.2.2.2.2.2.2;let n26:=wL.1.2.2.2;let n58:=n26.2.2.2.2.2.2.2.2.2.2.2.2.2;let aS:=n68.2.2;let n69:=aS.2.2;let n24:=n69.2.2;let W2:=n24.2.2;let n2:=W2.2.2.2.2.2;let C2:=n2.2.2;let n18:=C2.2.2.2;let n72:=n18.2.2;let n36:=n72.2.2.2;let n6:=n36.2.2.2.2.2;let n77:=n6.1.2.2;let n54:=n6.2.2.2.2;let n32:=n77.2.2.2;let n78:=n32.2.2.2;let n16:=n54.2.2.2.2.2;let Cn:=n16.2.2.2.2;ae (Nat.beq n31.1.2 n31.1.2) (ae (Nat.beq n70 n70) (ae (Nat.beq n68.2.1.2.2.1 n68.2.1.2.2.1) (ae (Nat.beq aS.1.2.2.1 aS.1.2.2.1) (ae (Nat.beq aS.2.1.2.2.1 aS.2.1.2.2.1) (ae (Nat.beq n69.1.2.2.1 n69.1.2.2.1) (ae (Nat.beq n69.2.1.2.2.1 n69.2.1.2.2.1) (ae (Nat.beq n24.1.2.2.1 n24.1.2.2.1) (ae (Nat.beq W2.1.2.2 W2.1.2.2) (opt (po ((d.2.1.1,n76.1,n76.2.1,n76.2.2.1,n31.1.2,n31.2),wL.2.1,wL.2.2.1,(sh8 n31.1.1 n68.1.2),n68.2.1,aS.1,aS.2.1,n69.1,n69.2.1,n24.1,n24.2.1,W2.1,(Jj 0 W2.2.1.2),(ep 0 n72.2.2.1.2),(ep 0 n36.1.2),(ep 0 n36.2.1.2),(ep 0 n36.2.2.1.2),(ep 0 n36.2.2.2.1.2),(ep 0 n36.2.2.2.2.1.2),λj=>n6.1.2.1 (0+j),λj=>n77.1 (0+j),λj=>n77.2.1 (0+j),λj=>n77.2.2.1 (0+j),λj=>n32.1 (0+j),λj=>n32.2.1 (0+j),λj=>n32.2.2.1 (0+j),λj=>n78.1 (0+j),λj=>n78.2.1 (0+j),λj=>n78.2.2.1 (0+j),λj=>n78.2.2.2 (0+j))) λbx=>ae (Nat.beq n26.2.1.2 n26.2.1.2) (ae (Nat.beq n58 n58) (ae (Nat.beq n2.1.2.2.1 n2.1.2.2.1) (ae (Nat.beq n2.2.1.2.2.1 n2.2.1.2.2.1) (ae (Nat.beq C2.1.2.2.1 C2.1.2.2.1) (ae (Nat.beq C2.2.1.2.2.1 C2.2.1.2.2.1) (ae (Nat.beq C2.2.2.1.2.2.1 C2.2.2.1.2.2.1) (ae (Nat.beq n18.1.2.2.1 n18.1.2.2.1) (ae (Nat.beq n72.1.2.2 n72.1.2.2) (opt (po ((wL.1.1,wL.1.2.1,wL.1.2.2.1,n26.1,n26.2.1.2,n26.2.2),W2.2.2.1,W2.2.2.2.1,(sh8 n26.2.1.1 W2.2.2.2.2.1.2),n2.1,n2.2.1,C2.1,C2.2.1,C2.2.2.1,n18.1,n18.2.1,n72.1,(Jj 0 n72.2.1.2),(ep 0 n6.2.1.2),(ep 0 n6.2.2.1.2),(ep 0 n6.2.2.2.1.2),(ep 0 n54.1.2),(ep 0 n54.2.1.2),(ep 0 n54.2.2.1.2),λj=>n54.2.2.2.2.1 (0+j),λj=>n16.1 (0+j),λj=>n16.2.1 (0+j),λj=>n16.2.2.1 (0+j),λj=>n16.2.2.2.1 (0+j),λj=>Cn.1 (0+j),λj=>Cn.2.1 (0+j),λj=>Cn.2.2.1 (0+j),λj=>Cn.2.2.2.1 (0+j),λj=>Cn.2.2.2.2.1 (0+j),λj=>Cn.2.2.2.2.2 (0+j))) λd=>opt (Gn ((bx.1,d.1,0),bx.2,d.2)) λx=>sum x (λd=>ret false) λd=>ret true) no) no) no) no) no) no) no) no) no) no) no) no) no) no) no) no) no) no)))
def vM:=λx=>(RD Td Ea mC Ls Lu x).val
abbrev vN:=afT×Wv×arj×A6×F5×qD×(LT iQ rr)×(LT iR ru)×(LT iS rv)
def BG (p:vN):KK:=⟨[aut p.1,aq1 p.2.1,aDq p.b.1,Iv p.b.2.1,F6 p.c.1,wJ p.c.2.1],⟨[⟨8,(0::2::6::rg 11 132 [10]),[(0,[])]⟩,⟨14,(0::2::6::rg 12 131 []),[(0,[])]⟩,⟨26,(rg 0 4 (rg 5 5 (rg 11 5 (rg 19 124 [])))),[(0,[])]⟩],[fg 14 0 iQ YR p.c.b.1,fg 26 0 iR YS p.c.b.2.1,fg 8 0 iS YT p.d],[],[],(some ⟨0,(rg 0 4 (rg 5 138 [])),[]⟩)⟩,0,4⟩
theorem arl (p:vN):LI (BG p) 14 iQ YR (Lp):=λ_ d c K=>by kernel_rfl
theorem arn (p:vN):LI (BG p) 26 iR YS (Lr):=λ_ d c K=>by kernel_rfl
theorem aro (p:vN):LI (BG p) 8 iS YT (Lt p.b.1 p.b.2.1 p.c.1 p.c.2.1 p.c.b.1):=λ_ d c K=>by kernel_rfl
theorem aAe (p:vN):D2 (BG p) oq (lf NH) λb=>RD p.1 p.2.1 p.b.2.1 p.c.b.2.1 p.d b:=λb=>by kernel_rfl
abbrev BH:vN:=(Td,Ea,WQ,mC,rS,iv,Lq,Ls,Lu)
theorem aAf [ax]:SC (aAd vM):=sc (kS (k:=BG BH) (.c aIb (.c aDd (.c aNu (.c WH (.c Sk (.c DY (.nil _))))))) [8,14,26] [] ⟨kL (aro BH),⟨kL (arl BH),⟨kL (arn BH),trivial⟩⟩⟩ trivial (aAe BH))
end Go.Proofs.YtcmfbkneahoonaaGreat
namespace Go.Proofs.YtcmfbkneahoonaaGreat
open Go.Ab Go.Ab.Pg
theorem aNA (n:Nat):(arv n λ_=>true)=true:=by
 unfold arv
 simp
theorem aPX (w d:iQ.B)(hd:0<=d.1.2.2.2∧d.1.2.2.2<=(d.1.2.2.1:Nat)∧d.1.2.2.1=d.2.2.2.1.1∧d.1.2.2.1<=1999∧d.1.1=w.1.1∧d.1.2.1=w.1.2.1∧d.2.1=w.2.1∧d.2.2.1=w.2.2.1∧d.2.2.2.2=w.2.2.2.2):Ok (Lq d) (λx:rr=>x.1.1=w.1.1∧x.1.2.1=w.1.2.1∧x.2.1=w.2.1∧x.2.2.1=w.2.2.1∧x.2.2.2.2=w.2.2.2.2):=
 aZ (s:=_) (λd:iQ.B=>0<=d.1.2.2.2∧d.1.2.2.2<=(d.1.2.2.1:Nat)∧d.1.2.2.1=d.2.2.2.1.1∧d.1.2.2.1<=1999∧d.1.1=w.1.1∧d.1.2.1=w.1.2.1∧d.2.1=w.2.1∧d.2.2.1=w.2.2.1∧d.2.2.2.2=w.2.2.2.2) (λd:iQ.B=>Int.toNat ((d.1.2.2.1:Nat)-d.1.2.2.2)) (λx:rr=>x.1.1=w.1.1∧x.1.2.1=w.1.2.1∧x.2.1=w.2.1∧x.2.2.1=w.2.2.1∧x.2.2.2.2=w.2.2.2.2) (λd hd=>by
  obtain⟨i0,i1,i2,i3,e0,e1,e2,e3,e5⟩:=hd
  unfold Lp
  dsimp only
  rw[aL]
  refine⟨λh=> ?_,λ_=>by rw[av];exact⟨e0,e1,e2,e3,e5⟩⟩
  have h:=of_decide_eq_true h
  rw[Int.ofNat_eq_natCast] at h
  have hw:wI (d.1.2.2.2+1)=d.1.2.2.2+1:=bd (by omega) (by omega)
  have r0:aX d.1.2.2.2 d.1.2.2.1=true:=by rw[bn];omega
  have r1:(true&&Nat.ble (0+(0+Int.toNat d.1.2.2.2)*11+1) (d.2.2.2.1.1*11+0))=true:=by rw[Bool.true_and,bL];omega
  rw[r0,aC,r1,aC,av,hw]
  exact⟨⟨by show 0<=d.1.2.2.2+1;omega,by show d.1.2.2.2+1<=(d.1.2.2.1:Nat);omega,i2,i3,e0,e1,e2,e3,e5⟩,by show Int.toNat ((d.1.2.2.1:Nat)-(d.1.2.2.2+1))<_;omega⟩) 2000 d hd (by omega)
theorem aFT (d:iR.B)(hd:0<=d.1.2.2∧d.1.2.2<=(d.1.1:Nat)∧d.1.1=d.1.2.1∧d.1.1<=1999∧d.2.1=d.2.2):Ok (Ls d) (λx:ru=>match x with|.inl _=>False|.inr _=>True):=
 aZ (s:=_) (λd:iR.B=>0<=d.1.2.2∧d.1.2.2<=(d.1.1:Nat)∧d.1.1=d.1.2.1∧d.1.1<=1999∧d.2.1=d.2.2) (λd:iR.B=>Int.toNat ((d.1.1:Nat)-d.1.2.2)) (λx:ru=>match x with|.inl _=>False|.inr _=>True) (λd hd=>by
  obtain⟨⟨n,n',k⟩,r,r'⟩:=d
  dsimp only at hd
  obtain⟨i0,i1,i2,i3,i4⟩:=hd
  subst i2
  subst i4
  unfold Lr
  dsimp only
  rw[aL]
  refine⟨λh=> ?_,λh=> ?_⟩
  ·have h:=of_decide_eq_true h
   rw[Int.ofNat_eq_natCast] at h
   have hw:wI (k+1)=k+1:=bd (by omega) (by omega)
   have r0:aX k n=true:=by rw[bn];omega
   have r1:decide (k>=Int.ofNat n)=false:=by rw[decide_eq_false_iff_not,Int.ofNat_eq_natCast];omega
   rw[r1,tF,tF,r0,aC,aC]
   simp only[beq_self_eq_true,Bool.and_self,Bool.not_true]
   rw[tF,av,hw]
   exact⟨⟨by show 0<=k+1;omega,by show k+1<=(n:Int);omega,rfl,i3,rfl⟩,by show Int.toNat ((n:Nat)-(k+1))<_;omega⟩
  ·rw[h,tF,av]
   trivial) 2000 d hd (by omega)
theorem aPY (N:Nat)(h1:1<=N)(hN:N<=1999)(B:Int)(hB:B<=64)(d:iS.B)(hd:0<=d.1.2∧d.1.2<=30∧((d.2.1.2.2.2.2.1.2:Nat):Int)<=40*d.1.2∧d.2.2.2.2.2.2.1.2.1=B∧((d.2.2.2.2.2.2.1.2.2.1:Nat):Int)<=B∧d.2.2.2.2.2.2.2.1.2.1=B∧((d.2.2.2.2.2.2.2.1.2.2.1:Nat):Int)<=B∧d.2.2.2.2.2.2.2.2.1.2.1=B∧((d.2.2.2.2.2.2.2.2.1.2.2.1:Nat):Int)<=B∧d.2.2.2.2.2.2.2.2.2.1.2.1=B∧((d.2.2.2.2.2.2.2.2.2.1.2.2.1:Nat):Int)<=B∧d.2.2.2.2.2.2.2.2.2.2.1.2.1=B∧((d.2.2.2.2.2.2.2.2.2.2.1.2.2.1:Nat):Int)<=B∧d.2.2.2.2.2.2.2.2.2.2.2.1.2.1=B∧((d.2.2.2.2.2.2.2.2.2.2.2.1.2.2.1:Nat):Int)<=B∧d.2.2.2.2.2.2.2.2.2.2.2.2.2.1.1<=(N:Int)∧d.2.2.2.2.2.2.2.2.2.2.2.2.2.1.2.2<=N∧d.2.2.1=d.2.1∧d.2.2.2.2.2.2.2.2.2.2.2.2.2.2.2.1=d.2.2.2.1∧d.2.2.2.2.2.2.2.2.2.2.2.2.2.2.2.2.1=d.2.2.2.2.1∧d.2.2.2.2.2.2.2.2.2.2.2.2.2.2.2.2.2.1=d.2.2.2.2.2.1∧d.2.2.2.2.2.2.2.2.2.2.2.2.2.2.2.2.2.2.1=d.2.2.2.2.2.2.1∧d.2.2.2.2.2.2.2.2.2.2.2.2.2.2.2.2.2.2.2.1=d.2.2.2.2.2.2.2.1∧d.2.2.2.2.2.2.2.2.2.2.2.2.2.2.2.2.2.2.2.2.1=d.2.2.2.2.2.2.2.2.1∧d.2.2.2.2.2.2.2.2.2.2.2.2.2.2.2.2.2.2.2.2.2.1=d.2.2.2.2.2.2.2.2.2.1∧d.2.2.2.2.2.2.2.2.2.2.2.2.2.2.2.2.2.2.2.2.2.2.1=d.2.2.2.2.2.2.2.2.2.2.1∧d.2.2.2.2.2.2.2.2.2.2.2.2.2.2.2.2.2.2.2.2.2.2.2.1=d.2.2.2.2.2.2.2.2.2.2.2.1∧d.2.2.2.2.2.2.2.2.2.2.2.2.2.2.2.2.2.2.2.2.2.2.2.2.1=d.2.2.2.2.2.2.2.2.2.2.2.2.1∧d.2.2.2.2.2.2.2.2.2.2.2.2.2.2.2.2.2.2.2.2.2.2.2.2.2.1=d.2.2.2.2.2.2.2.2.2.2.2.2.2.1∧d.2.2.2.2.2.2.2.2.2.2.2.2.2.2.2.2.2.2.2.2.2.2.2.2.2.2.1=d.2.2.2.2.2.2.2.2.2.2.2.2.2.2.1∧d.2.2.2.2.2.2.2.2.2.2.2.2.2.2.2.2.2.2.2.2.2.2.2.2.2.2.2.2.2.2.2.2.2.2.1=d.2.2.2.2.2.2.2.2.2.2.2.2.2.2.2.2.2.2.2.2.2.2.2.2.2.2.2.1∧d.2.2.2.2.2.2.2.2.2.2.2.2.2.2.2.2.2.2.2.2.2.2.2.2.2.2.2.2.2.2.2.2.2.2.2.1=d.2.2.2.2.2.2.2.2.2.2.2.2.2.2.2.2.2.2.2.2.2.2.2.2.2.2.2.2.1∧d.2.2.2.2.2.2.2.2.2.2.2.2.2.2.2.2.2.2.2.2.2.2.2.2.2.2.2.2.2.2.2.2.2.2.2.2.1=d.2.2.2.2.2.2.2.2.2.2.2.2.2.2.2.2.2.2.2.2.2.2.2.2.2.2.2.2.2.1∧d.2.2.2.2.2.2.2.2.2.2.2.2.2.2.2.2.2.2.2.2.2.2.2.2.2.2.2.2.2.2.2.2.2.2.2.2.2.1=d.2.2.2.2.2.2.2.2.2.2.2.2.2.2.2.2.2.2.2.2.2.2.2.2.2.2.2.2.2.2.1∧d.2.2.2.2.2.2.2.2.2.2.2.2.2.2.2.2.2.2.2.2.2.2.2.2.2.2.2.2.2.2.2.2.2.2.2.2.2.2.1=d.2.2.2.2.2.2.2.2.2.2.2.2.2.2.2.2.2.2.2.2.2.2.2.2.2.2.2.2.2.2.2.1∧d.2.2.2.2.2.2.2.2.2.2.2.2.2.2.2.2.2.2.2.2.2.2.2.2.2.2.2.2.2.2.2.2.2.2.2.2.2.2.2.1=d.2.2.2.2.2.2.2.2.2.2.2.2.2.2.2.2.2.2.2.2.2.2.2.2.2.2.2.2.2.2.2.2.1∧d.2.2.2.2.2.2.2.2.2.2.2.2.2.2.2.2.2.2.2.2.2.2.2.2.2.2.2.2.2.2.2.2.2.2.2.2.2.2.2.2=d.2.2.2.2.2.2.2.2.2.2.2.2.2.2.2.2.2.2.2.2.2.2.2.2.2.2.2.2.2.2.2.2.2.1):Ok (Lu d) (λx:rv=>match x with|.inl x=>x=true|.inr (.inl x)=>x.2.2.2.2.2.2.2.2.2.2.2.2.2.1.2.2<=N∧x.2.2.1=x.2.1∧x.2.2.2.2.2.2.2.2.2.2.2.2.2.2.2.1=x.2.2.2.1∧x.2.2.2.2.2.2.2.2.2.2.2.2.2.2.2.2.1=x.2.2.2.2.1∧x.2.2.2.2.2.2.2.2.2.2.2.2.2.2.2.2.2.1=x.2.2.2.2.2.1∧x.2.2.2.2.2.2.2.2.2.2.2.2.2.2.2.2.2.2.1=x.2.2.2.2.2.2.1∧x.2.2.2.2.2.2.2.2.2.2.2.2.2.2.2.2.2.2.2.1=x.2.2.2.2.2.2.2.1∧x.2.2.2.2.2.2.2.2.2.2.2.2.2.2.2.2.2.2.2.2.1=x.2.2.2.2.2.2.2.2.1∧x.2.2.2.2.2.2.2.2.2.2.2.2.2.2.2.2.2.2.2.2.2.1=x.2.2.2.2.2.2.2.2.2.1∧x.2.2.2.2.2.2.2.2.2.2.2.2.2.2.2.2.2.2.2.2.2.2.1=x.2.2.2.2.2.2.2.2.2.2.1∧x.2.2.2.2.2.2.2.2.2.2.2.2.2.2.2.2.2.2.2.2.2.2.2.1=x.2.2.2.2.2.2.2.2.2.2.2.1∧x.2.2.2.2.2.2.2.2.2.2.2.2.2.2.2.2.2.2.2.2.2.2.2.2.1=x.2.2.2.2.2.2.2.2.2.2.2.2.1∧x.2.2.2.2.2.2.2.2.2.2.2.2.2.2.2.2.2.2.2.2.2.2.2.2.2.1=x.2.2.2.2.2.2.2.2.2.2.2.2.2.1∧x.2.2.2.2.2.2.2.2.2.2.2.2.2.2.2.2.2.2.2.2.2.2.2.2.2.2.1=x.2.2.2.2.2.2.2.2.2.2.2.2.2.2.1∧x.2.2.2.2.2.2.2.2.2.2.2.2.2.2.2.2.2.2.2.2.2.2.2.2.2.2.2.2.2.2.2.2.2.2.1=x.2.2.2.2.2.2.2.2.2.2.2.2.2.2.2.2.2.2.2.2.2.2.2.2.2.2.2.1∧x.2.2.2.2.2.2.2.2.2.2.2.2.2.2.2.2.2.2.2.2.2.2.2.2.2.2.2.2.2.2.2.2.2.2.2.1=x.2.2.2.2.2.2.2.2.2.2.2.2.2.2.2.2.2.2.2.2.2.2.2.2.2.2.2.2.1∧x.2.2.2.2.2.2.2.2.2.2.2.2.2.2.2.2.2.2.2.2.2.2.2.2.2.2.2.2.2.2.2.2.2.2.2.2.1=x.2.2.2.2.2.2.2.2.2.2.2.2.2.2.2.2.2.2.2.2.2.2.2.2.2.2.2.2.2.1∧x.2.2.2.2.2.2.2.2.2.2.2.2.2.2.2.2.2.2.2.2.2.2.2.2.2.2.2.2.2.2.2.2.2.2.2.2.2.1=x.2.2.2.2.2.2.2.2.2.2.2.2.2.2.2.2.2.2.2.2.2.2.2.2.2.2.2.2.2.2.1∧x.2.2.2.2.2.2.2.2.2.2.2.2.2.2.2.2.2.2.2.2.2.2.2.2.2.2.2.2.2.2.2.2.2.2.2.2.2.2.1=x.2.2.2.2.2.2.2.2.2.2.2.2.2.2.2.2.2.2.2.2.2.2.2.2.2.2.2.2.2.2.2.1∧x.2.2.2.2.2.2.2.2.2.2.2.2.2.2.2.2.2.2.2.2.2.2.2.2.2.2.2.2.2.2.2.2.2.2.2.2.2.2.2.1=x.2.2.2.2.2.2.2.2.2.2.2.2.2.2.2.2.2.2.2.2.2.2.2.2.2.2.2.2.2.2.2.2.1∧x.2.2.2.2.2.2.2.2.2.2.2.2.2.2.2.2.2.2.2.2.2.2.2.2.2.2.2.2.2.2.2.2.2.2.2.2.2.2.2.2=x.2.2.2.2.2.2.2.2.2.2.2.2.2.2.2.2.2.2.2.2.2.2.2.2.2.2.2.2.2.2.2.2.2.1|.inr (.inr x)=>x.2.2.2.2.2.2.2.2.2.2.2.2.2.1.2.2<=N∧x.2.2.1=x.2.1∧x.2.2.2.2.2.2.2.2.2.2.2.2.2.2.2.1=x.2.2.2.1∧x.2.2.2.2.2.2.2.2.2.2.2.2.2.2.2.2.1=x.2.2.2.2.1∧x.2.2.2.2.2.2.2.2.2.2.2.2.2.2.2.2.2.1=x.2.2.2.2.2.1∧x.2.2.2.2.2.2.2.2.2.2.2.2.2.2.2.2.2.2.1=x.2.2.2.2.2.2.1∧x.2.2.2.2.2.2.2.2.2.2.2.2.2.2.2.2.2.2.2.1=x.2.2.2.2.2.2.2.1∧x.2.2.2.2.2.2.2.2.2.2.2.2.2.2.2.2.2.2.2.2.1=x.2.2.2.2.2.2.2.2.1∧x.2.2.2.2.2.2.2.2.2.2.2.2.2.2.2.2.2.2.2.2.2.1=x.2.2.2.2.2.2.2.2.2.1∧x.2.2.2.2.2.2.2.2.2.2.2.2.2.2.2.2.2.2.2.2.2.2.1=x.2.2.2.2.2.2.2.2.2.2.1∧x.2.2.2.2.2.2.2.2.2.2.2.2.2.2.2.2.2.2.2.2.2.2.2.1=x.2.2.2.2.2.2.2.2.2.2.2.1∧x.2.2.2.2.2.2.2.2.2.2.2.2.2.2.2.2.2.2.2.2.2.2.2.2.1=x.2.2.2.2.2.2.2.2.2.2.2.2.1∧x.2.2.2.2.2.2.2.2.2.2.2.2.2.2.2.2.2.2.2.2.2.2.2.2.2.1=x.2.2.2.2.2.2.2.2.2.2.2.2.2.1∧x.2.2.2.2.2.2.2.2.2.2.2.2.2.2.2.2.2.2.2.2.2.2.2.2.2.2.1=x.2.2.2.2.2.2.2.2.2.2.2.2.2.2.1∧x.2.2.2.2.2.2.2.2.2.2.2.2.2.2.2.2.2.2.2.2.2.2.2.2.2.2.2.2.2.2.2.2.2.2.1=x.2.2.2.2.2.2.2.2.2.2.2.2.2.2.2.2.2.2.2.2.2.2.2.2.2.2.2.1∧x.2.2.2.2.2.2.2.2.2.2.2.2.2.2.2.2.2.2.2.2.2.2.2.2.2.2.2.2.2.2.2.2.2.2.2.1=x.2.2.2.2.2.2.2.2.2.2.2.2.2.2.2.2.2.2.2.2.2.2.2.2.2.2.2.2.1∧x.2.2.2.2.2.2.2.2.2.2.2.2.2.2.2.2.2.2.2.2.2.2.2.2.2.2.2.2.2.2.2.2.2.2.2.2.1=x.2.2.2.2.2.2.2.2.2.2.2.2.2.2.2.2.2.2.2.2.2.2.2.2.2.2.2.2.2.1∧x.2.2.2.2.2.2.2.2.2.2.2.2.2.2.2.2.2.2.2.2.2.2.2.2.2.2.2.2.2.2.2.2.2.2.2.2.2.1=x.2.2.2.2.2.2.2.2.2.2.2.2.2.2.2.2.2.2.2.2.2.2.2.2.2.2.2.2.2.2.1∧x.2.2.2.2.2.2.2.2.2.2.2.2.2.2.2.2.2.2.2.2.2.2.2.2.2.2.2.2.2.2.2.2.2.2.2.2.2.2.1=x.2.2.2.2.2.2.2.2.2.2.2.2.2.2.2.2.2.2.2.2.2.2.2.2.2.2.2.2.2.2.2.1∧x.2.2.2.2.2.2.2.2.2.2.2.2.2.2.2.2.2.2.2.2.2.2.2.2.2.2.2.2.2.2.2.2.2.2.2.2.2.2.2.1=x.2.2.2.2.2.2.2.2.2.2.2.2.2.2.2.2.2.2.2.2.2.2.2.2.2.2.2.2.2.2.2.2.1∧x.2.2.2.2.2.2.2.2.2.2.2.2.2.2.2.2.2.2.2.2.2.2.2.2.2.2.2.2.2.2.2.2.2.2.2.2.2.2.2.2=x.2.2.2.2.2.2.2.2.2.2.2.2.2.2.2.2.2.2.2.2.2.2.2.2.2.2.2.2.2.2.2.2.2.1):=
 aZ (s:=_) (λd:iS.B=>0<=d.1.2∧d.1.2<=30∧((d.2.1.2.2.2.2.1.2:Nat):Int)<=40*d.1.2∧d.2.2.2.2.2.2.1.2.1=B∧((d.2.2.2.2.2.2.1.2.2.1:Nat):Int)<=B∧d.2.2.2.2.2.2.2.1.2.1=B∧((d.2.2.2.2.2.2.2.1.2.2.1:Nat):Int)<=B∧d.2.2.2.2.2.2.2.2.1.2.1=B∧((d.2.2.2.2.2.2.2.2.1.2.2.1:Nat):Int)<=B∧d.2.2.2.2.2.2.2.2.2.1.2.1=B∧((d.2.2.2.2.2.2.2.2.2.1.2.2.1:Nat):Int)<=B∧d.2.2.2.2.2.2.2.2.2.2.1.2.1=B∧((d.2.2.2.2.2.2.2.2.2.2.1.2.2.1:Nat):Int)<=B∧d.2.2.2.2.2.2.2.2.2.2.2.1.2.1=B∧((d.2.2.2.2.2.2.2.2.2.2.2.1.2.2.1:Nat):Int)<=B∧d.2.2.2.2.2.2.2.2.2.2.2.2.2.1.1<=(N:Int)∧d.2.2.2.2.2.2.2.2.2.2.2.2.2.1.2.2<=N∧d.2.2.1=d.2.1∧d.2.2.2.2.2.2.2.2.2.2.2.2.2.2.2.1=d.2.2.2.1∧d.2.2.2.2.2.2.2.2.2.2.2.2.2.2.2.2.1=d.2.2.2.2.1∧d.2.2.2.2.2.2.2.2.2.2.2.2.2.2.2.2.2.1=d.2.2.2.2.2.1∧d.2.2.2.2.2.2.2.2.2.2.2.2.2.2.2.2.2.2.1=d.2.2.2.2.2.2.1∧d.2.2.2.2.2.2.2.2.2.2.2.2.2.2.2.2.2.2.2.1=d.2.2.2.2.2.2.2.1∧d.2.2.2.2.2.2.2.2.2.2.2.2.2.2.2.2.2.2.2.2.1=d.2.2.2.2.2.2.2.2.1∧d.2.2.2.2.2.2.2.2.2.2.2.2.2.2.2.2.2.2.2.2.2.1=d.2.2.2.2.2.2.2.2.2.1∧d.2.2.2.2.2.2.2.2.2.2.2.2.2.2.2.2.2.2.2.2.2.2.1=d.2.2.2.2.2.2.2.2.2.2.1∧d.2.2.2.2.2.2.2.2.2.2.2.2.2.2.2.2.2.2.2.2.2.2.2.1=d.2.2.2.2.2.2.2.2.2.2.2.1∧d.2.2.2.2.2.2.2.2.2.2.2.2.2.2.2.2.2.2.2.2.2.2.2.2.1=d.2.2.2.2.2.2.2.2.2.2.2.2.1∧d.2.2.2.2.2.2.2.2.2.2.2.2.2.2.2.2.2.2.2.2.2.2.2.2.2.1=d.2.2.2.2.2.2.2.2.2.2.2.2.2.1∧d.2.2.2.2.2.2.2.2.2.2.2.2.2.2.2.2.2.2.2.2.2.2.2.2.2.2.1=d.2.2.2.2.2.2.2.2.2.2.2.2.2.2.1∧d.2.2.2.2.2.2.2.2.2.2.2.2.2.2.2.2.2.2.2.2.2.2.2.2.2.2.2.2.2.2.2.2.2.2.1=d.2.2.2.2.2.2.2.2.2.2.2.2.2.2.2.2.2.2.2.2.2.2.2.2.2.2.2.1∧d.2.2.2.2.2.2.2.2.2.2.2.2.2.2.2.2.2.2.2.2.2.2.2.2.2.2.2.2.2.2.2.2.2.2.2.1=d.2.2.2.2.2.2.2.2.2.2.2.2.2.2.2.2.2.2.2.2.2.2.2.2.2.2.2.2.1∧d.2.2.2.2.2.2.2.2.2.2.2.2.2.2.2.2.2.2.2.2.2.2.2.2.2.2.2.2.2.2.2.2.2.2.2.2.1=d.2.2.2.2.2.2.2.2.2.2.2.2.2.2.2.2.2.2.2.2.2.2.2.2.2.2.2.2.2.1∧d.2.2.2.2.2.2.2.2.2.2.2.2.2.2.2.2.2.2.2.2.2.2.2.2.2.2.2.2.2.2.2.2.2.2.2.2.2.1=d.2.2.2.2.2.2.2.2.2.2.2.2.2.2.2.2.2.2.2.2.2.2.2.2.2.2.2.2.2.2.1∧d.2.2.2.2.2.2.2.2.2.2.2.2.2.2.2.2.2.2.2.2.2.2.2.2.2.2.2.2.2.2.2.2.2.2.2.2.2.2.1=d.2.2.2.2.2.2.2.2.2.2.2.2.2.2.2.2.2.2.2.2.2.2.2.2.2.2.2.2.2.2.2.1∧d.2.2.2.2.2.2.2.2.2.2.2.2.2.2.2.2.2.2.2.2.2.2.2.2.2.2.2.2.2.2.2.2.2.2.2.2.2.2.2.1=d.2.2.2.2.2.2.2.2.2.2.2.2.2.2.2.2.2.2.2.2.2.2.2.2.2.2.2.2.2.2.2.2.1∧d.2.2.2.2.2.2.2.2.2.2.2.2.2.2.2.2.2.2.2.2.2.2.2.2.2.2.2.2.2.2.2.2.2.2.2.2.2.2.2.2=d.2.2.2.2.2.2.2.2.2.2.2.2.2.2.2.2.2.2.2.2.2.2.2.2.2.2.2.2.2.2.2.2.2.1) (λd:iS.B=>Int.toNat (30-d.1.2)) (λx:rv=>match x with|.inl x=>x=true|.inr (.inl x)=>x.2.2.2.2.2.2.2.2.2.2.2.2.2.1.2.2<=N∧x.2.2.1=x.2.1∧x.2.2.2.2.2.2.2.2.2.2.2.2.2.2.2.1=x.2.2.2.1∧x.2.2.2.2.2.2.2.2.2.2.2.2.2.2.2.2.1=x.2.2.2.2.1∧x.2.2.2.2.2.2.2.2.2.2.2.2.2.2.2.2.2.1=x.2.2.2.2.2.1∧x.2.2.2.2.2.2.2.2.2.2.2.2.2.2.2.2.2.2.1=x.2.2.2.2.2.2.1∧x.2.2.2.2.2.2.2.2.2.2.2.2.2.2.2.2.2.2.2.1=x.2.2.2.2.2.2.2.1∧x.2.2.2.2.2.2.2.2.2.2.2.2.2.2.2.2.2.2.2.2.1=x.2.2.2.2.2.2.2.2.1∧x.2.2.2.2.2.2.2.2.2.2.2.2.2.2.2.2.2.2.2.2.2.1=x.2.2.2.2.2.2.2.2.2.1∧x.2.2.2.2.2.2.2.2.2.2.2.2.2.2.2.2.2.2.2.2.2.2.1=x.2.2.2.2.2.2.2.2.2.2.1∧x.2.2.2.2.2.2.2.2.2.2.2.2.2.2.2.2.2.2.2.2.2.2.2.1=x.2.2.2.2.2.2.2.2.2.2.2.1∧x.2.2.2.2.2.2.2.2.2.2.2.2.2.2.2.2.2.2.2.2.2.2.2.2.1=x.2.2.2.2.2.2.2.2.2.2.2.2.1∧x.2.2.2.2.2.2.2.2.2.2.2.2.2.2.2.2.2.2.2.2.2.2.2.2.2.1=x.2.2.2.2.2.2.2.2.2.2.2.2.2.1∧x.2.2.2.2.2.2.2.2.2.2.2.2.2.2.2.2.2.2.2.2.2.2.2.2.2.2.1=x.2.2.2.2.2.2.2.2.2.2.2.2.2.2.1∧x.2.2.2.2.2.2.2.2.2.2.2.2.2.2.2.2.2.2.2.2.2.2.2.2.2.2.2.2.2.2.2.2.2.2.1=x.2.2.2.2.2.2.2.2.2.2.2.2.2.2.2.2.2.2.2.2.2.2.2.2.2.2.2.1∧x.2.2.2.2.2.2.2.2.2.2.2.2.2.2.2.2.2.2.2.2.2.2.2.2.2.2.2.2.2.2.2.2.2.2.2.1=x.2.2.2.2.2.2.2.2.2.2.2.2.2.2.2.2.2.2.2.2.2.2.2.2.2.2.2.2.1∧x.2.2.2.2.2.2.2.2.2.2.2.2.2.2.2.2.2.2.2.2.2.2.2.2.2.2.2.2.2.2.2.2.2.2.2.2.1=x.2.2.2.2.2.2.2.2.2.2.2.2.2.2.2.2.2.2.2.2.2.2.2.2.2.2.2.2.2.1∧x.2.2.2.2.2.2.2.2.2.2.2.2.2.2.2.2.2.2.2.2.2.2.2.2.2.2.2.2.2.2.2.2.2.2.2.2.2.1=x.2.2.2.2.2.2.2.2.2.2.2.2.2.2.2.2.2.2.2.2.2.2.2.2.2.2.2.2.2.2.1∧x.2.2.2.2.2.2.2.2.2.2.2.2.2.2.2.2.2.2.2.2.2.2.2.2.2.2.2.2.2.2.2.2.2.2.2.2.2.2.1=x.2.2.2.2.2.2.2.2.2.2.2.2.2.2.2.2.2.2.2.2.2.2.2.2.2.2.2.2.2.2.2.1∧x.2.2.2.2.2.2.2.2.2.2.2.2.2.2.2.2.2.2.2.2.2.2.2.2.2.2.2.2.2.2.2.2.2.2.2.2.2.2.2.1=x.2.2.2.2.2.2.2.2.2.2.2.2.2.2.2.2.2.2.2.2.2.2.2.2.2.2.2.2.2.2.2.2.1∧x.2.2.2.2.2.2.2.2.2.2.2.2.2.2.2.2.2.2.2.2.2.2.2.2.2.2.2.2.2.2.2.2.2.2.2.2.2.2.2.2=x.2.2.2.2.2.2.2.2.2.2.2.2.2.2.2.2.2.2.2.2.2.2.2.2.2.2.2.2.2.2.2.2.2.1|.inr (.inr x)=>x.2.2.2.2.2.2.2.2.2.2.2.2.2.1.2.2<=N∧x.2.2.1=x.2.1∧x.2.2.2.2.2.2.2.2.2.2.2.2.2.2.2.1=x.2.2.2.1∧x.2.2.2.2.2.2.2.2.2.2.2.2.2.2.2.2.1=x.2.2.2.2.1∧x.2.2.2.2.2.2.2.2.2.2.2.2.2.2.2.2.2.1=x.2.2.2.2.2.1∧x.2.2.2.2.2.2.2.2.2.2.2.2.2.2.2.2.2.2.1=x.2.2.2.2.2.2.1∧x.2.2.2.2.2.2.2.2.2.2.2.2.2.2.2.2.2.2.2.1=x.2.2.2.2.2.2.2.1∧x.2.2.2.2.2.2.2.2.2.2.2.2.2.2.2.2.2.2.2.2.1=x.2.2.2.2.2.2.2.2.1∧x.2.2.2.2.2.2.2.2.2.2.2.2.2.2.2.2.2.2.2.2.2.1=x.2.2.2.2.2.2.2.2.2.1∧x.2.2.2.2.2.2.2.2.2.2.2.2.2.2.2.2.2.2.2.2.2.2.1=x.2.2.2.2.2.2.2.2.2.2.1∧x.2.2.2.2.2.2.2.2.2.2.2.2.2.2.2.2.2.2.2.2.2.2.2.1=x.2.2.2.2.2.2.2.2.2.2.2.1∧x.2.2.2.2.2.2.2.2.2.2.2.2.2.2.2.2.2.2.2.2.2.2.2.2.1=x.2.2.2.2.2.2.2.2.2.2.2.2.1∧x.2.2.2.2.2.2.2.2.2.2.2.2.2.2.2.2.2.2.2.2.2.2.2.2.2.1=x.2.2.2.2.2.2.2.2.2.2.2.2.2.1∧x.2.2.2.2.2.2.2.2.2.2.2.2.2.2.2.2.2.2.2.2.2.2.2.2.2.2.1=x.2.2.2.2.2.2.2.2.2.2.2.2.2.2.1∧x.2.2.2.2.2.2.2.2.2.2.2.2.2.2.2.2.2.2.2.2.2.2.2.2.2.2.2.2.2.2.2.2.2.2.1=x.2.2.2.2.2.2.2.2.2.2.2.2.2.2.2.2.2.2.2.2.2.2.2.2.2.2.2.1∧x.2.2.2.2.2.2.2.2.2.2.2.2.2.2.2.2.2.2.2.2.2.2.2.2.2.2.2.2.2.2.2.2.2.2.2.1=x.2.2.2.2.2.2.2.2.2.2.2.2.2.2.2.2.2.2.2.2.2.2.2.2.2.2.2.2.1∧x.2.2.2.2.2.2.2.2.2.2.2.2.2.2.2.2.2.2.2.2.2.2.2.2.2.2.2.2.2.2.2.2.2.2.2.2.1=x.2.2.2.2.2.2.2.2.2.2.2.2.2.2.2.2.2.2.2.2.2.2.2.2.2.2.2.2.2.1∧x.2.2.2.2.2.2.2.2.2.2.2.2.2.2.2.2.2.2.2.2.2.2.2.2.2.2.2.2.2.2.2.2.2.2.2.2.2.1=x.2.2.2.2.2.2.2.2.2.2.2.2.2.2.2.2.2.2.2.2.2.2.2.2.2.2.2.2.2.2.1∧x.2.2.2.2.2.2.2.2.2.2.2.2.2.2.2.2.2.2.2.2.2.2.2.2.2.2.2.2.2.2.2.2.2.2.2.2.2.2.1=x.2.2.2.2.2.2.2.2.2.2.2.2.2.2.2.2.2.2.2.2.2.2.2.2.2.2.2.2.2.2.2.1∧x.2.2.2.2.2.2.2.2.2.2.2.2.2.2.2.2.2.2.2.2.2.2.2.2.2.2.2.2.2.2.2.2.2.2.2.2.2.2.2.1=x.2.2.2.2.2.2.2.2.2.2.2.2.2.2.2.2.2.2.2.2.2.2.2.2.2.2.2.2.2.2.2.2.1∧x.2.2.2.2.2.2.2.2.2.2.2.2.2.2.2.2.2.2.2.2.2.2.2.2.2.2.2.2.2.2.2.2.2.2.2.2.2.2.2.2=x.2.2.2.2.2.2.2.2.2.2.2.2.2.2.2.2.2.2.2.2.2.2.2.2.2.2.2.2.2.2.2.2.2.1) (λd hd=>by
  obtain⟨⟨w,i⟩,aa,bb,a3,a4,a5,a6,a7,a8,a9,a10,a11,a12,a13,a14,b3,b4,b5,b6,b7,b8,b9,b10,pQ,b12,b13,b14,a27,a28,a29,a30,a31,a32,a33,b27,b28,b29,b30,b31,b32,b33⟩:=d
  dsimp only at hd
  obtain⟨i0,i1,iq,s0,l0,s1,l1,s2,l2,s3,l3,s4,l4,s5,l5,p0,p1,f2,f15,f16,f17,f18,f19,f20,f21,f22,f23,f24,f25,f26,f34,f35,f36,f37,f38,f39,f40⟩:=hd
  subst f2;subst f15;subst f16;subst f17;subst f18;subst f19;subst f20;subst f21;subst f22;subst f23;subst f24;subst f25;subst f26;subst f34;subst f35;subst f36;subst f37;subst f38;subst f39;subst f40
  unfold Lt
  dsimp only
  rw[aL]
  refine⟨λh8=> ?_,λ_=>by rw[av];exact⟨p1,rfl,rfl,rfl,rfl,rfl,rfl,rfl,rfl,rfl,rfl,rfl,rfl,rfl,rfl,rfl,rfl,rfl,rfl,rfl,rfl⟩⟩
  have h8:=of_decide_eq_true h8
  rw[Int.ofNat_eq_natCast] at h8
  rw[aL]
  refine⟨λh4=> ?_,λ_=>by rw[av];exact⟨p1,rfl,rfl,rfl,rfl,rfl,rfl,rfl,rfl,rfl,rfl,rfl,rfl,rfl,rfl,rfl,rfl,rfl,rfl,rfl,rfl⟩⟩
  have h4:=of_decide_eq_true h4
  have hw:wI (i+1)=i+1:=bd (by omega) (by omega)
  have r6:Cu (i+1) w.1=true:=by rw[MO];omega
  have r5:Cu i (Int.toNat (i+1))=true:=by rw[MO];omega
  simp only[hw,r6,r5,aM,aC]
  with_reducible refine ay (aUT N h1 hN B hB 1 (by omega) _ ?_ ?_ ?_ ?_ ?_ ?_ ?_ ?_ ?_ ?_ ?_ ?_ ?_ ?_ ?_ ?_) λe1 g1 he1=> ?_
  ·show bb.2.2.2.2.1.2+40*1<=1998
   omega
  ·show Int.toNat (i+1)-Int.toNat i<=1∨30<=1
   omega
  ·exact s0
  ·exact l0
  ·exact s1
  ·exact l1
  ·exact s2
  ·exact l2
  ·exact s3
  ·exact l3
  ·exact s4
  ·exact l4
  ·exact s5
  ·exact l5
  ·exact p0
  ·exact p1
  repeat rw[aC]
  rw[g1,bQ]
  obtain⟨q1,t0,m0,t1,m1,t2,m2,t3,m3,t4,m4,t5,m5,u0,u1⟩:=he1
  have q1:((e1.2.1.2.2.2.2.1.2:Nat):Int)<=(bb.2.2.2.2.1.2:Nat)+40*1:=q1
  have n1:(e1.1!=e1.1)=false:=by simp
  rw[n1,tF]
  repeat rw[aC]
  with_reducible refine ay (aDr _ ?_) λe2 g2 he2=> ?_
  ·show e1.2.2.2.2.2.2.2.2.2.2.2.2.1.2.2<=1999
   omega
  with_reducible refine ay (aPX ((w,i,e2.1,0),e1.2.1,e1.2.1,e2.2,e1.2.2.1,e1.2.2.2.1,e1.2.2.2.2.1,e1.2.2.2.2.2.1,e1.2.2.2.2.2.2.1,e1.2.2.2.2.2.2.2.1,e1.2.2.2.2.2.2.2.2.1,e1.2.2.2.2.2.2.2.2.2.1,e1.2.2.2.2.2.2.2.2.2.2.1,e1.2.2.2.2.2.2.2.2.2.2.2.1,e1.2.2.2.2.2.2.2.2.2.2.2.2.1,e1.2.2.2.2.2.2.2.2.2.2.2.2.2.1,e1.2.2.1,e1.2.2.2.1,e1.2.2.2.2.1,e1.2.2.2.2.2.1,e1.2.2.2.2.2.2.1,e1.2.2.2.2.2.2.2.1,e1.2.2.2.2.2.2.2.2.1,e1.2.2.2.2.2.2.2.2.2.1,e1.2.2.2.2.2.2.2.2.2.2.1,e1.2.2.2.2.2.2.2.2.2.2.2.1,e1.2.2.2.2.2.2.2.2.2.2.2.2.1,e1.2.2.2.2.2.2.2.2.2.2.2.2.2.1,e1.2.2.2.2.2.2.2.2.2.2.2.2.2.2.1,e1.2.2.2.2.2.2.2.2.2.2.2.2.2.2.2.1,e1.2.2.2.2.2.2.2.2.2.2.2.2.2.2.2.2.1,e1.2.2.2.2.2.2.2.2.2.2.2.2.2.2.2.2.2.1,e1.2.2.2.2.2.2.2.2.2.2.2.2.2.2.2.2.2.2.1,e1.2.2.2.2.2.2.2.2.2.2.2.2.2.2.2.2.2.2.2.1,e1.2.2.2.2.2.2.2.2.2.2.2.2.2.2.2.2.2.2.2.2,e1.2.2.2.2.2.2.2.2.2.2.2.2.2.2) _ ⟨?_,?_,?_,?_,rfl,rfl,rfl,rfl,rfl⟩) λe3 g3 he3=> ?_
  ·show(0:Int)<=0
   omega
  ·show(0:Int)<=(e2.1:Nat)
   omega
  ·exact he2.1
  ·exact he2.2
  obtain⟨x0,x1,x2,x3,x5⟩:=he3
  obtain⟨⟨y0,y1,y2⟩,y4,y5,y6,y7⟩:=e3
  dsimp only at x0 x1 x2 x3 x5
  subst x0;subst x1;subst x2;subst x3;subst x5
  dsimp only
  repeat rw[aC]
  rw[bz]
  intro z1 g4
  repeat rw[aC]
  rw[g4,bQ]
  simp only[aNA,Bool.and_self,Bool.and_true,Bool.not_true,beq_self_eq_true]
  repeat rw[tF]
  repeat rw[aC]
  rw[bz]
  intro z2 g5
  repeat rw[aC]
  rw[g5,bQ]
  simp only[Bool.and_self,Bool.and_true,Bool.not_true,beq_self_eq_true]
  rw[tF]
  repeat rw[aC]
  rw[bQ,aL]
  refine⟨λ_=>by rw[av];rfl,λ_=> ?_⟩
  rw[av,hw]
  refine⟨⟨?_,?_,?_,t0,m0,t1,m1,t2,m2,t3,m3,t4,m4,t5,m5,u0,u1,rfl,rfl,rfl,rfl,rfl,rfl,rfl,rfl,rfl,rfl,rfl,rfl,rfl,rfl,rfl,rfl,rfl,rfl,rfl,rfl⟩,?_⟩
  ·show 0<=y1+1
   omega
  ·show y1+1<=30
   omega
  ·show((e1.2.1.2.2.2.2.1.2:Nat):Int)<=40*(y1+1)
   omega
  ·show Int.toNat (30-(y1+1))<Int.toNat (30-y1)
   omega) 2000 d hd (by omega)
theorem aId (x:oq.B):Ok (vM x) (λr:RC=>r=true):=by
 unfold vM RD
 try dsimp only
 show PQ _ _
 rw[show Td=some true from rfl,bQ,show(!true)=false from rfl,tF]
 with_reducible refine ay (aUR _) λr g hr=> ?_
 rw[oA]
 refine⟨λa ha=> ?_,λa ha=> ?_⟩
 ·rw[g,bQ,oA]
  exact⟨λb hb=>by rw[av],λb hb=>by rw[ha] at hb;cases hb⟩
 rw[g,bQ,oA]
 refine⟨λb hb=>by rw[ha] at hb;(cases hb),λb hb=> ?_⟩
 have hb:a=b:=Sum.inr.inj (ha.symm.trans hb)
 subst hb
 rw[ha] at hr
 obtain⟨b0,b1,o0,o1,s0,s1,s2,s3,s4,s5,u⟩:=hr
 obtain⟨N,hN⟩:∃N:Nat,x.1.2.2.2.2.2.2.2.2.2.2.2.2.1=(N:Int):=⟨Int.toNat x.1.2.2.2.2.2.2.2.2.2.2.2.2.1,(Int.toNat_of_nonneg (by omega)).symm⟩
 have z:∀y:Int,y=x.1.2.2.1->(((0:Nat):Int)<=x.1.2.2.1):=λ_ _=>by omega
 have hN1:1<=N:=by omega
 have hN:N<=1999:=by omega
 with_reducible refine ay (aPY N hN1 hN x.1.2.2.1 b1 _ ⟨?_,?_,?_,s0,z _ s0,s1,z _ s1,s2,z _ s2,s3,z _ s3,s4,z _ s4,s5,z _ s5,?_,?_,rfl,rfl,rfl,rfl,rfl,rfl,rfl,rfl,rfl,rfl,rfl,rfl,rfl,rfl,rfl,rfl,rfl,rfl,rfl,rfl⟩) λy _ hy=> ?_
 ·show(0:Int)<=0
  omega
 ·show(0:Int)<=30
  omega
 ·show((0:Nat):Int)<=40*0
  omega
 ·show a.2.2.2.2.2.2.2.2.2.2.2.1.1<=(N:Int)
  omega
 ·exact Nat.zero_le _
 rw[oE]
 refine⟨λa ha=>by rw[ha] at hy;rw[av];exact hy,λc hc=> ?_⟩
 rw[hc] at hy
 rw[oE]
 refine⟨λd hd=> ?_,λd hd=> ?_⟩
 ·rw[hd] at hy
  obtain⟨w,aa,bb,a3,a4,a5,a6,a7,a8,a9,a10,a11,a12,a13,a14,b3,b4,b5,b6,b7,b8,b9,b10,pQ,b12,b13,b14,a27,a28,a29,a30,a31,a32,a33,b27,b28,b29,b30,b31,b32,b33⟩:=d
  dsimp only at hy
  obtain⟨p1,f2,f15,f16,f17,f18,f19,f20,f21,f22,f23,f24,f25,f26,f34,f35,f36,f37,f38,f39,f40⟩:=hy
  subst f2;subst f15;subst f16;subst f17;subst f18;subst f19;subst f20;subst f21;subst f22;subst f23;subst f24;subst f25;subst f26;subst f34;subst f35;subst f36;subst f37;subst f38;subst f39;subst f40
  try dsimp only
  simp only[aM]
  repeat rw[aC]
  with_reducible refine ay (aDr _ ?_) λe2 g2 he2=> ?_
  ·exact Nat.le_trans p1 hN
  repeat rw[aC]
  rw[g2,bQ]
  with_reducible refine ay (aFT _ ⟨?_,?_,rfl,he2.2,rfl⟩) λy g hy=> ?_
  ·show(0:Int)<=0
   omega
  ·show(0:Int)<=(e2.1:Nat)
   omega
  rw[oE]
  exact⟨λz hz=>by rw[hz] at hy;exact hy.elim,λz hz=>by rw[av]⟩
 ·rw[hd] at hy
  obtain⟨w,aa,bb,a3,a4,a5,a6,a7,a8,a9,a10,a11,a12,a13,a14,b3,b4,b5,b6,b7,b8,b9,b10,pQ,b12,b13,b14,a27,a28,a29,a30,a31,a32,a33,b27,b28,b29,b30,b31,b32,b33⟩:=d
  dsimp only at hy
  obtain⟨p1,f2,f15,f16,f17,f18,f19,f20,f21,f22,f23,f24,f25,f26,f34,f35,f36,f37,f38,f39,f40⟩:=hy
  subst f2;subst f15;subst f16;subst f17;subst f18;subst f19;subst f20;subst f21;subst f22;subst f23;subst f24;subst f25;subst f26;subst f34;subst f35;subst f36;subst f37;subst f38;subst f39;subst f40
  try dsimp only
  simp only[aM]
  repeat rw[aC]
  with_reducible refine ay (aDr _ ?_) λe2 g2 he2=> ?_
  ·exact Nat.le_trans p1 hN
  repeat rw[aC]
  rw[g2,bQ]
  with_reducible refine ay (aFT _ ⟨?_,?_,rfl,he2.2,rfl⟩) λy g hy=> ?_
  ·show(0:Int)<=0
   omega
  ·show(0:Int)<=(e2.1:Nat)
   omega
  rw[oE]
  exact⟨λz hz=>by rw[hz] at hy;exact hy.elim,λz hz=>by rw[av]⟩
theorem twins (x:oq.B):vM x=some true:=by
 obtain⟨d,e,rfl⟩:=aId x
 exact e
end Go.Proofs.YtcmfbkneahoonaaGreat
