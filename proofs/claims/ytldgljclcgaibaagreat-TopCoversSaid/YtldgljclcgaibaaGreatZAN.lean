/-
  Parts of the proof: TDg TDh TWk QB N3 TCv TCw TCx
-/
import Derived.Test.YtldgljclcgaibaaGreatZAE
import Derived.Test.YtldgljclcgaibaaGreatZAG
import Derived.Test.YtldgljclcgaibaaGreatZAK
import Derived.Test.YtldgljclcgaibaaGreatZAM
open Nat renaming beq→z9,ble→wl
open Int renaming toNat→z4,ofNat→wr,tdiv→t8
open Sum renaming inl→ww,inr→ws
set_option linter.unusedVariables false
set_option linter.unusedSimpArgs false
set_option maxRecDepth 100000
set_option maxHeartbeats 4000000
namespace Go.Proofs.YtldgljclcgaibaaGreat
open Go.Ab Go.Ab.Pg
theorem HA {α:Type}(f:Nat->α)(y j:Nat)(v:α):(bif z9 j y then v else f j)=if j=y then v else f j:=by
 by_cases h:j=y
 .rw[if_pos h,h,FE];rfl
 .rw[if_neg h];cases e:z9 j y
  .rfl
  .exact absurd (lB e) h
theorem aDw {α:Type}(i y:Nat)(a b:α):(bif z9 i y then a else b)=if i=y then a else b:=by
 exact HA (λ_=>b) y i a
def okV (d:Int):Prop:=d=17592186044416∨d=68719476736∨d=67108864∨d=4294967296∨d=17179869184
theorem okV.le {d:Int}(h:okV d):1<=d/\d<=72057594037927936:=by
 rcases h with rfl|rfl|rfl|rfl|rfl<;>decide
theorem afu (x lo hi:Int)(b:Bool)(h:lo<=x)(k:x<=hi):aY x lo hi b=some (x,b):=by
 have h1:decide (lo>hi)=false:=cE (by omega);have h2:decide (x<lo)=false:=cE (by omega);have h3:decide (x>hi)=false:=cE (by omega);unfold aY tY;rw[h1,h2,h3];rfl
theorem Q8 {x:Int}(h: -1152921504606846976<=x/\x<=1152921504606846976):sat x=x:=(Hh h).1
theorem Jh {x:Int}(h: -1152921504606846976<=x/\x<=1152921504606846976):dq x=false:=(Hh h).2
theorem aMg (w x:Int)(b:Bool)(hw:w=0∨w=1073741824)(hx: -1152921504606846976<=x/\x<=1152921504606846976):aW w x 30 b=some (if w=0 then 0 else x,b):=by
 have h:=aFZ w x 30 b (by decide);have e1:sat w=w:=Q8 (by omega);have e2:dq w=false:=Jh (by omega)
 have r:rS (w*x) 30=(if w=0 then 0 else x):=by
  rcases hw with rfl|rfl
  .rw[af0,if_pos rfl];rfl
  .rw[if_neg (by decide),xT];exact aOc x
 have hr: -1152921504606846976<=(if w=0 then 0 else x)/\(if w=0 then 0 else x)<=1152921504606846976:=by split<;>omega
 rw[e1,e2,Q8 hx,Jh hx,r,Q8 hr,Jh hr,LL,LL,LL] at h;exact h
theorem div_zero (d:Int)(b:Bool)(h:okV d):bk 0 d 30 b=some (0,b):=by
 rcases h with rfl|rfl|rfl|rfl|rfl<;>cases b<;>kernel_rfl
theorem sub_zero (x:Int)(b:Bool)(h: -1152921504606846976<=x/\x<=1152921504606846976):bX x 0 b=some (x,b):=by
 have z:sat 0=0:=Q8 (by decide);have zo:dq 0=false:=Jh (by decide);simp only[bX,IK,Pg.ck,Pg.bS,oI,bG,Q8 h,Jh h,z,zo,LL,Int.sub_zero];rw[dS (by omega) (by omega),Q8 h,Jh h,LL]
theorem aB1 {f g:Nat->Int}:∀n,(∀j,j<n->f j=g j)->eJ f n=eJ g n
 |0,_=>rfl
 |n+1,h=>by
  show eJ f n+f n=eJ g n+g n;rw[aB1 n (λj hj=>h j (by omega)),h n (by omega)]
theorem aOY {f:Nat->Bool}:∀n,(∀j,j<n->f j=false)->mA f n=false
 |0,_=>rfl
 |n+1,h=>by
  show(mA f n||f n)=false;rw[aOY n (λj hj=>h j (by omega)),h n (by omega)];rfl
theorem aJG {f:Nat->Int}(k:Nat):∀n,(∀j,j<n->j≠k->f j=0)->eJ f n=if k<n then f k else 0
 |0,_=>by rw[if_neg (by omega)];rfl
 |n+1,h=>by
  show eJ f n+f n=_;rw[aJG k n (λj hj=>h j (by omega))];by_cases e:n=k
  .subst e;rw[if_neg (by omega),if_pos (by omega),ak0]
  .rw[h n (by omega) e,Int.add_zero];by_cases c:k<n
   .rw[if_pos c,if_pos (by omega)]
   .rw[if_neg c,if_neg (by omega)]
theorem aGR (n k:Nat)(hn:n<=100)(hk:k<n)(V:Int)(b w w':Bool)(f g:Nat->Int)(hf:∀j,j<n-> -1152921504606846976<=f j/\f j<=1152921504606846976)(hg:∀j,j<n-> -1152921504606846976<=g j/\g j<=1152921504606846976)
  (hz:∀j,j<n->j≠k->f j*g j=0)(hV:f k*g k=V*1073741824)(r: -1152921504606846976<=V/\V<=1152921504606846976):bx 30 n n b f g w w'=some (V,b):=by
 have h:=aF0 30 (by decide) n hn b f g w w'
 have e:eJ (λj=>sat (f j)*sat (g j)) n=V*1073741824:=by
  rw[aB1 n (λj hj=>by show sat (f j)*sat (g j)=f j*g j;rw[Q8 (hf j hj),Q8 (hg j hj)]:∀j,j<n->(λj=>sat (f j)*sat (g j)) j=(λj=>f j*g j) j),aJG k n hz,if_pos hk,hV]
 have a:mA (λj=>dq (f j)||dq (g j)) n=false:=aOY n λj hj=>by
  show(dq (f j)||dq (g j))=false;rw[Jh (hf j hj),Jh (hg j hj)];rfl
 rw[e,a,aOc,Q8 r,Jh r,LL,LL] at h;exact h
theorem aY7 (x:Int)(b:Bool)(h:1<=x)(k:x<=72057594037927936):kc x b=some (x,b):=by
 unfold kc DJ;rw[Pg.ck,afu x 1 72057594037927936 b h k];rfl
theorem aY8 (x:Int)(b:Bool)(h:1<=x)(k:x<=72057594037927936):pG x b=some (x,b):=by
 unfold pG EU;rw[Pg.ck,afu x 1 72057594037927936 b h k];rfl
theorem a0D (x:Int)(h:0<=x)(k:x<24):yX x=some true:=by
 have h1:decide (x>=0)=true:=dy h;have h2:decide (x<24)=true:=dy k;unfold yX Ry;rw[h1,h2];rfl
theorem a0E:∀j:Nat,j<24->0<=wI (t8 (wI ((j:Int)*wI ((j:Int)-1))) 2)/\wI (t8 (wI ((j:Int)*wI ((j:Int)-1))) 2)+(j:Int)<=276+(if j=0 then 1 else 0):=by decide
theorem aUE {i j:Int}{d:Vo}(h:fx i j=some d)(ok:d.2=true):0<=d.1/\d.1<276:=by
 simp only[fx,yS,bS,bM] at h;by_cases h0:0<=i
 .by_cases h1:i<j
  .simp only[EL,h0,h1,Ji,bo,hM] at h;subst h;have h2:j<24:=db ok;obtain⟨n,rfl⟩:=Int.eq_ofNat_of_zero_le (by omega:0<=j);obtain⟨k1,k2⟩:=a0E n (by omega);rw[if_neg (by omega)] at k2;generalize wI (t8 (wI ((n:Int)*wI ((n:Int)-1))) 2)=c at*
   show 0<=wI (c+i)/\wI (c+i)<276;rw[dS (by omega) (by omega)];omega
  .simp only[EL,h0,h1,Ji,Kb,bo,bq,hM] at h;subst h;cases ok
 .simp only[EL,h0,Kb,bq,hM] at h;subst h;cases ok
theorem aJH (i j:Nat)(h:i<j)(k:j<24):∃p:Int,fx i j=some (p,true)/\0<=p/\p<276:=by
 have c1:decide ((i:Int)>=0)=true:=dy (by omega);have c2:decide ((i:Int)<(j:Int))=true:=dy (by omega);have c3:decide ((j:Int)<24)=true:=dy (by omega)
 have e:fx i j=some (wI (wI (t8 (wI ((j:Int)*wI ((j:Int)-1))) 2)+(i:Int)),true):=by
  unfold fx yS;rw[c1,c2,c3];rfl
 refine⟨_,e,?_⟩;have:=aUE e rfl;exact this
theorem aOZ (U D:Nat->Int)(hU:∀p,p<276->U p=0)(i j:Nat)(h:i<=j)(k:j<24):wA U D i j=some (if i=j then 1073741824 else 0):=by
 unfold wA amd;by_cases e:i=j
 .subst e;have c0:((i:Int)==(i:Int))=true:=by simp
  have c1:decide ((i:Int)>=0)=true:=dy (by omega);have c2:decide ((i:Int)<24)=true:=dy (by omega);rw[c0,c1,c2,if_pos rfl];rfl
 .have c0:((i:Int)==(j:Int))=false:=by simp;omega
  obtain⟨p,hp,p0,p1⟩:=aJH i j (by omega) k;have c1:bg p 276=true:=by rw[bz];omega
  have c2:wl (0+z4 p*1+1) 276=true:=by rw[ch];omega
  rw[c0,if_neg e,Pg.bM,bq,Pg.ck,hp,bG];simp only[HZ,c1,c2,Pg.bM,bq,bo,Pg.bS];rw[hU _ (by omega)]
theorem aH7 (D:Nat->Int)(i j:Nat)(h:i<j)(k:j<24):ua (λ_=>0) D i j 0=some (λ_=>0,D):=by
 obtain⟨p,hp,p0,p1⟩:=aJH i j h k;have c1:bg p 276=true:=by rw[bz];omega
 have c2:(wl (0+z4 p*1+1) 276&&wl (0+z4 p*1+1) 300)=true:=by rw[cK,ch,ch];omega
 unfold ua Xl;rw[Pg.ck,hp,bG];dsimp only;rw[c1,c2];simp only[Pg.bM,bo,Pg.bS];have e:(λj:Nat=>bif z9 j (z4 p) then(0:Int) else 0)=λ_=>0:=funext λj=>by cases z9 j (z4 p)<;>rfl
 exact fe some (Prod.ext e rfl)
theorem a2o (b:Bool)(D:Nat->Int)(hD:∀i,i<24->1<=D i/\D i<=72057594037927936):∀(d:fG.B) (hd:0<=d.1/\d.1<=24/\d.2.1=b/\(∀p,p<276->d.2.2.1.1 p=0)/\∀i,i<24->d.2.2.1.2 i=D i),Ok (wu d) (λx:nT=>x.2.1=b/\(∀p,p<276->x.2.2.1.1 p=0)/\∀i,i<24->x.2.2.1.2 i=D i):=
 bV (λd:fG.B=>z4 (24-d.1)) (λd hd=>by
  obtain⟨i0,i1,i2,i3,i4⟩:=hd;have hw:wI (d.1+1)=d.1+1:=aZ;unfold wq;dsimp only;rw[aL];refine⟨λh=> ?_,λ_=>by rw[aw];exact⟨i2,i3,i4⟩⟩;have h:=db h;have r0:bg d.1 24=true:=by rw[bz];omega
  have r1:(true&&wl (276+z4 d.1*1+1) 300)=true:=by rw[o8,ch];omega
  have k:=i4 (z4 d.1) (by omega);have hd:=hD (z4 d.1) (by omega);rw[r0,aD,aY7 _ _ (by omega) (by omega),cy,aD,r1,aD,aw,hw];refine⟨⟨by show 0<=d.1+1;omega,by show d.1+1<=24;omega,i2,i3,λi hi=> ?_⟩,by show z4 (24-(d.1+1))<_;omega⟩;show(bif z9 i (z4 d.1) then d.2.2.1.2 (z4 d.1) else d.2.2.1.2 i)=D i;rw[HA];split
  .rename_i e;rw[e,k]
  .exact i4 i hi) (λd hd=>by omega)
theorem a2p (b:Bool)(D:Nat->Int):∀(d:fH.B) (hd:0<=d.1/\d.1<=276/\d.2.1=b/\(∀p,p<276->d.2.2.1.1 p=0)/\∀i,i<24->d.2.2.1.2 i=D i),Ok (wy d) (λx:nU=>x.2.1=b/\(∀p,p<276->x.2.2.1.1 p=0)/\∀i,i<24->x.2.2.1.2 i=D i):=
 bV (λd:fH.B=>z4 (276-d.1)) (λd hd=>by
  obtain⟨i0,i1,i2,i3,i4⟩:=hd;have hw:wI (d.1+1)=d.1+1:=aZ;unfold wx;dsimp only;rw[aL];refine⟨λh=> ?_,λ_=>by rw[aw];exact⟨i2,i3,i4⟩⟩;have h:=db h;have r0:bg d.1 276=true:=by rw[bz];omega
  have r1:wl (0+z4 d.1*1+1) 276=true:=by rw[ch];omega
  have r2:wl (0+z4 d.1*1+1) 300=true:=by rw[ch];omega
  rw[r0,r1,r2,i3 (z4 d.1) (by omega),aD,aD,afu 0 _ _ _ (by decide) (by decide),cy,aD,o8,aD,aw,hw];refine⟨⟨by show 0<=d.1+1;omega,by show d.1+1<=276;omega,i2,λi hi=> ?_,i4⟩,by show z4 (276-(d.1+1))<_;omega⟩;show(bif z9 i (z4 d.1) then 0 else d.2.2.1.1 i)=0;rw[HA];split
  .rfl
  .exact i3 i hi) (λd hd=>by omega)
theorem aRF (U D:Nat->Int)(b:Bool)(hU:∀p,p<276->U p=0)(hD:∀i,i<24->1<=D i/\D i<=72057594037927936):Ok (fS U D b) (λr:OU=>r.2=b/\(∀p,p<276->r.1.1 p=0)/\∀i,i<24->r.1.2 i=D i):=by
 unfold fS Bl;show PQ _ _;refine ax (a2o b D hD _ ⟨dW 0,(show(0:Int)<=24 by decide),rfl,hU,λ_ _=>rfl⟩) λx _ hx=> ?_;refine ax (a2p b D _ ⟨dW 0,(show(0:Int)<=276 by decide),hx⟩) λy _ hy=> ?_;rw[aw];exact hy
theorem a2q (k:Nat)(hk:k<24)(w d:fJ.B)(hU:∀p,p<276->w.2.2.2.1.1 p=0)(hd:0<=d.1.2.2.2/\d.1.2.2.2<=d.1.2.2.1/\d.1.2.2.1=(k:Int)+1/\d.1.1=k/\d.1.2.1=k/\d.2.1=w.2.1/\d.2.2.1=w.2.2.1/\d.2.2.2.1=w.2.2.2.1/\d.2.2.2.2.1=w.2.2.2.2.1/\∀m:Nat,m<24->d.2.2.2.2.2 m=if m=k/\(m:Int)<d.1.2.2.2 then 1073741824 else 0):Ok (Cy d) (λx:nV=>x.1.1=k/\x.1.2.1=k/\x.2.1=w.2.1/\x.2.2.1=w.2.2.1/\x.2.2.2.1=w.2.2.2.1/\x.2.2.2.2.1=w.2.2.2.2.1/\∀m:Nat,m<24->x.2.2.2.2.2 m=if m=k then 1073741824 else 0):=
 qG (s:=_) (λd:fJ.B=>0<=d.1.2.2.2/\d.1.2.2.2<=d.1.2.2.1/\d.1.2.2.1=(k:Int)+1/\d.1.1=k/\d.1.2.1=k/\d.2.1=w.2.1/\d.2.2.1=w.2.2.1/\d.2.2.2.1=w.2.2.2.1/\d.2.2.2.2.1=w.2.2.2.2.1/\∀m:Nat,m<24->d.2.2.2.2.2 m=if m=k/\(m:Int)<d.1.2.2.2 then 1073741824 else 0) (λd:fJ.B=>z4 (d.1.2.2.1-d.1.2.2.2)) (λx:nV=>x.1.1=k/\x.1.2.1=k/\x.2.1=w.2.1/\x.2.2.1=w.2.2.1/\x.2.2.2.1=w.2.2.2.1/\x.2.2.2.2.1=w.2.2.2.2.1/\∀m:Nat,m<24->x.2.2.2.2.2 m=if m=k then 1073741824 else 0) (λd hd=>by
  obtain⟨i0,i1,i2,i3,i3',i4,i5,i6,i7,i8⟩:=hd;have hw:wI (d.1.2.2.2+1)=d.1.2.2.2+1:=aZ;unfold Cw;dsimp only;rw[aL];refine⟨λh=> ?_,λh=> ?_⟩
  .have h:=db h;obtain⟨m,hm⟩:∃m:Nat,d.1.2.2.2=(m:Int):=⟨z4 d.1.2.2.2,by omega⟩;have r0:bg d.1.2.2.2 24=true:=by rw[bz];omega
   have r1:(true&&wl (0+z4 d.1.2.2.2*1+1) 24)=true:=by rw[o8,ch];omega
   rw[r0,r1,i6,i3,hm,aOZ _ _ hU m k (by omega) hk,cy,aD,aD,aw];rw[hm] at hw;rw[hw];refine⟨⟨by show 0<=(m:Int)+1;omega,by show(m:Int)+1<=d.1.2.2.1;omega,i2,rfl,i3',i4,i5,rfl,i7,λj hj=> ?_⟩,by show z4 (d.1.2.2.1-((m:Int)+1))<_;omega⟩;show(bif z9 j (z4 (m:Int)) then(if m=k then 1073741824 else 0) else d.2.2.2.2.2 j)=if j=k/\(j:Int)<(m:Int)+1 then 1073741824 else 0
   rw[HA,i8 j hj,hm,HY];by_cases e1:j=m
   .subst e1;rw[if_pos rfl];by_cases e2:j=k
    .rw[if_pos e2,if_pos ⟨e2,by omega⟩]
    .rw[if_neg e2,if_neg (λh=>e2 h.1)]
   .rw[if_neg e1];by_cases e2:j=k/\(j:Int)<(m:Int)
    .rw[if_pos e2,if_pos ⟨e2.1,by omega⟩]
    .rw[if_neg e2,if_neg (λh=>e2 ⟨h.1,by omega⟩)]
  .have h:=kD h;rw[aw];refine⟨i3,i3',i4,i5,i6,i7,λm hm=> ?_⟩;show d.2.2.2.2.2 m=_;rw[i8 m hm];by_cases e:m=k
   .rw[if_pos e,if_pos ⟨e,by omega⟩]
   .rw[if_neg e,if_neg (λh=>e h.1)]) 2000 d hd (by omega)
theorem a2r (F:Nat->Int)(hF:∀i,i<24->F i=0∨F i=1073741824)(k:Nat)(hk:k<24)(w d:fK.B)(hf:∀i k,i<24->k<24->w.2.2.1 (i*24+k)=if i=k then F i else 0)(hc:∀m:Nat,m<24->w.2.2.2.2.2 m=if m=k then 1073741824 else 0)(hd:0<=d.1.2.2/\d.1.2.2<=24/\d.1.1=k/\d.1.2.1=k/\d.2.1=w.2.1/\d.2.2.1=w.2.2.1/\d.2.2.2.1=w.2.2.2.1/\d.2.2.2.2.2=w.2.2.2.2.2/\∀i j,i<24->j<48->d.2.2.2.2.1 (i*48+j)=if i=j/\(j<k∨(j=k/\(k:Int)<d.1.2.2)) then F i else 0):Ok (CA d) (λx:nW=>x.1.2.1=k/\x.2.1=w.2.1/\x.2.2.1=w.2.2.1/\x.2.2.2.1=w.2.2.2.1/\∀i j,i<24->j<48->x.2.2.2.2.1 (i*48+j)=if i=j/\j<k+1 then F i else 0):=
 qG (s:=_) (λd:fK.B=>0<=d.1.2.2/\d.1.2.2<=24/\d.1.1=k/\d.1.2.1=k/\d.2.1=w.2.1/\d.2.2.1=w.2.2.1/\d.2.2.2.1=w.2.2.2.1/\d.2.2.2.2.2=w.2.2.2.2.2/\∀i j,i<24->j<48->d.2.2.2.2.1 (i*48+j)=if i=j/\(j<k∨(j=k/\(k:Int)<d.1.2.2)) then F i else 0) (λd:fK.B=>z4 (24-d.1.2.2)) (λx:nW=>x.1.2.1=k/\x.2.1=w.2.1/\x.2.2.1=w.2.2.1/\x.2.2.2.1=w.2.2.2.1/\∀i j,i<24->j<48->x.2.2.2.2.1 (i*48+j)=if i=j/\j<k+1 then F i else 0) (λd hd=>by
  obtain⟨i0,i1,i2,i3,i4,i5,i6,i7,i8⟩:=hd;have hw:wI (d.1.2.2+1)=d.1.2.2+1:=aZ;unfold Cz;dsimp only;rw[aL];refine⟨λh=> ?_,λh=> ?_⟩
  .have h:=db h;obtain⟨m,hm⟩:∃m:Nat,d.1.2.2=(m:Int):=⟨z4 d.1.2.2,by omega⟩;have aS2:m<24:=by omega
   have r0:bg d.1.2.2 24=true:=by rw[bz];omega
   have r1:bg d.1.1 48=true:=by rw[bz];omega
   have r2:(true&&wl (0+(z4 d.1.2.2*48+z4 d.1.1)*1+1) 1152)=true:=by rw[o8,ch];omega
   have bF:∀j,j<24-> -1152921504606846976<=F j/\F j<=1152921504606846976:=λj hj=>by have:=hF j hj;omega
   have dot:bx 30 24 24 d.2.1 (λj=>d.2.2.1 (0+z4 d.1.2.2*24+j)) d.2.2.2.2.2 false false=some (if m=k then F k else 0,d.2.1):=by
    have fj:∀j,j<24->d.2.2.1 (0+z4 d.1.2.2*24+j)=if m=j then F m else 0:=λj hj=>by
     rw[i5,hm,HY,gD];exact hf m j aS2 hj
    have gj:∀j,j<24->d.2.2.2.2.2 j=if j=k then 1073741824 else 0:=λj hj=>by rw[i7];exact hc j hj
    refine aGR 24 k (by decide) hk _ _ _ _ _ _ (λj hj=> ?_) (λj hj=> ?_) (λj hj e=> ?_) ?_ ?_
    .show -1152921504606846976<=d.2.2.1 (0+z4 d.1.2.2*24+j)/\d.2.2.1 (0+z4 d.1.2.2*24+j)<=1152921504606846976;rw[fj j hj];have:=bF m aS2;split<;>omega
    .rw[gj j hj];split<;>omega
    .show d.2.2.1 (0+z4 d.1.2.2*24+j)*d.2.2.2.2.2 j=0;rw[gj j hj,if_neg e,Int.mul_zero]
    .show d.2.2.1 (0+z4 d.1.2.2*24+k)*d.2.2.2.2.2 k=_;rw[fj k hk,gj k hk,if_pos rfl];by_cases e:m=k
     .subst e;rw[if_pos rfl]
     .rw[if_neg e,if_neg e]
    .have:=bF k hk;split<;>omega
   rw[r0,aD,dot,cy,aD,r1,aD,r2,aD,aw,hw];refine⟨⟨by show 0<=d.1.2.2+1;omega,by show d.1.2.2+1<=24;omega,i2,i3,i4,i5,i6,i7,λi j hi hj=> ?_⟩,by show z4 (24-(d.1.2.2+1))<_;omega⟩;show(bif z9 (i*48+j) (z4 d.1.2.2*48+z4 d.1.1) then(if m=k then F k else 0) else d.2.2.2.2.1 (i*48+j))=if i=j/\(j<k∨(j=k/\(k:Int)<d.1.2.2+1)) then F i else 0
   rw[HA,i8 i j hi hj,hm,i2,HY,HY];by_cases e1:i*48+j=m*48+k
   .have ei:i=m:=by omega
    have ej:j=k:=by omega
    subst ei;subst ej;rw[if_pos e1];by_cases e2:i=j
    .subst e2;rw[if_pos rfl,if_pos ⟨rfl,Or.inr ⟨rfl,by omega⟩⟩]
    .rw[if_neg e2,if_neg (λh=>e2 h.1)]
   .rw[if_neg e1];by_cases e2:i=j/\(j<k∨(j=k/\(k:Int)<(m:Int)))
    .rw[if_pos e2,if_pos (by omega)]
    .rw[if_neg e2,if_neg (by omega)]
  .have h:=kD h;rw[aw];refine⟨i3,i4,i5,i6,λi j hi hj=> ?_⟩;show d.2.2.2.2.1 (i*48+j)=_;rw[i8 i j hi hj];by_cases e:i=j/\(j<k∨(j=k/\(k:Int)<d.1.2.2))
   .rw[if_pos e,if_pos (by omega)]
   .rw[if_neg e,if_neg (by omega)]) 2000 d hd (by omega)
theorem a2s (F:Nat->Int)(hF:∀i,i<24->F i=0∨F i=1073741824)(w d:fL.B)(hU:∀p,p<276->w.b.2.1.1 p=0)(hf:∀i k,i<24->k<24->w.b.1 (i*24+k)=if i=k then F i else 0)(hd:0<=d.1/\d.1<=24/\d.2.1=w.2.1/\d.b.1=w.b.1/\d.b.2.1=w.b.2.1/\∀i j,i<24->j<48->d.b.2.2 (i*48+j)=if i=j/\(j:Int)<d.1 then F i else 0):Ok (CE d) (λx:nX=>x.2.1=w.2.1/\x.b.1=w.b.1/\∀i j,i<24->j<48->x.b.2.2 (i*48+j)=if i=j/\j<24 then F i else 0):=
 qG (s:=_) (λd:fL.B=>0<=d.1/\d.1<=24/\d.2.1=w.2.1/\d.b.1=w.b.1/\d.b.2.1=w.b.2.1/\∀i j,i<24->j<48->d.b.2.2 (i*48+j)=if i=j/\(j:Int)<d.1 then F i else 0) (λd:fL.B=>z4 (24-d.1)) (λx:nX=>x.2.1=w.2.1/\x.b.1=w.b.1/\∀i j,i<24->j<48->x.b.2.2 (i*48+j)=if i=j/\j<24 then F i else 0) (λd hd=>by
  obtain⟨i0,i1,i2,i3,i4,i5⟩:=hd;unfold CD;dsimp only;rw[aL];refine⟨λh=> ?_,λh=> ?_⟩
  .have h:=db h;obtain⟨k,hk⟩:∃m:Nat,d.1=(m:Int):=⟨z4 d.1,by omega⟩;have a1I:k<24:=by omega
   have hw:wI (d.1+1)=(k:Int)+1:=by rw[hk];exact aZ (by omega) (by omega)
   refine ax (a2q k a1I ((d.1,d.1,wI (d.1+1),0),d.2.1,d.b.1,d.b.2.1,d.b.2.2,λx=>0) _ (by show∀p,p<276->d.b.2.1.1 p=0;rw[i4];exact hU) ⟨dW 0,by show 0<=wI (d.1+1);omega,hw,hk,hk,rfl,rfl,rfl,rfl,λm hm=>by show(0:Int)=_;rw[if_neg (by show ¬(m=k/\(m:Int)<0);omega)]⟩) λx _ hx=> ?_;obtain⟨a0,a1,a2,a3,a4,a5,a6⟩:=hx;have a2:x.2.1=d.2.1:=a2;have a3:x.b.1=d.b.1:=a3;have a4:x.b.2.1=d.b.2.1:=a4;have a5:x.c.1=d.b.2.2:=a5;refine ax (a2r F hF k a1I ((x.1.1,x.1.2.1,0),x.2) _ (by show∀i k,i<24->k<24->x.b.1 (i*24+k)=_;rw[a3,i3];exact hf) a6 ⟨dW 0,(show(0:Int)<=24 by decide),a0,a1,rfl,rfl,rfl,rfl,λi j hi hj=> ?_⟩) λy _ hy=> ?_
   .show x.c.1 (i*48+j)=if i=j/\(j<k∨(j=k/\(k:Int)<0)) then F i else 0
    rw[a5,i5 i j hi hj];by_cases e:i=j/\(j:Int)<d.1
    .rw[if_pos e,if_pos (by omega)]
    .rw[if_neg e,if_neg (by omega)]
   obtain⟨b1,b2,b3,b4,b5⟩:=hy;have b2:y.2.1=x.2.1:=b2;have b3:y.b.1=x.b.1:=b3;have b4:y.b.2.1=x.b.2.1:=b4;have hw2:wI (y.1.2.1+1)=d.1+1:=by rw[b1,hk];exact aZ (by omega) (by omega)
   rw[aw,hw2];refine⟨⟨by show 0<=d.1+1;omega,by show d.1+1<=24;omega,b2.trans (a2.trans i2),b3.trans (a3.trans i3),b4.trans (a4.trans i4),λi j hi hj=> ?_⟩,by show z4 (24-(d.1+1))<_;omega⟩;show y.c.1 (i*48+j)=if i=j/\(j:Int)<d.1+1 then F i else 0
   rw[b5 i j hi hj];by_cases e:i=j/\j<k+1
   .rw[if_pos e,if_pos (by omega)]
   .rw[if_neg e,if_neg (by omega)]
  .have h:=kD h;rw[aw];refine⟨i2,i3,λi j hi hj=> ?_⟩;show d.b.2.2 (i*48+j)=_;rw[i5 i j hi hj];by_cases e:i=j/\j<24
   .rw[if_pos e,if_pos (by omega)]
   .rw[if_neg e,if_neg (by omega)]) 2000 d hd (by omega)
theorem a2t (F:Nat->Int)(b:Bool):∀(d:gw.B) (hd:0<=d.1/\d.1<=24/\d.2.1=b/\∀i k:Nat,i<24->k<48->d.2.2.2 (i*48+k)=if i=k then F i else if k=24+i/\(i:Int)<d.1 then 1073741824 else 0),Ok (CC d) (λx:qY=>x.2.1=b/\∀i k,i<24->k<48->x.2.2.2 (i*48+k)=if i=k then F i else if k=24+i then 1073741824 else 0):=
 bV (λd:gw.B=>z4 (24-d.1)) (λd hd=>by
  obtain⟨i0,i1,i2,i3⟩:=hd;have hw:wI (d.1+1)=d.1+1:=aZ;unfold CB;dsimp only;rw[aL];refine⟨λh=> ?_,λh=> ?_⟩
  .have h:=db h;have h1:wI (24+d.1)=24+d.1:=dS;have r0:bg d.1 24=true:=by rw[bz];omega
   have r1:bg (24+d.1) 48=true:=by rw[bz];omega
   have r2:(true&&wl (0+(z4 d.1*48+z4 (24+d.1))*1+1) 1152)=true:=by rw[o8,ch];omega
   rw[h1,r0,r1,r2,hw,aD,aD,aD,aw];refine⟨⟨by show 0<=d.1+1;omega,by show d.1+1<=24;omega,i2,λi k hi hk=> ?_⟩,by show z4 (24-(d.1+1))<_;omega⟩;show(bif z9 (i*48+k) (z4 d.1*48+z4 (24+d.1)) then 1073741824 else d.2.2.2 (i*48+k))=if i=k then F i else if k=24+i/\(i:Int)<d.1+1 then 1073741824 else 0
   rw[HA,i3 i k hi hk];by_cases e1:i*48+k=z4 d.1*48+z4 (24+d.1)
   .rw[if_pos e1,if_neg (by omega),if_pos (by omega)]
   .rw[if_neg e1];by_cases e2:i=k
    .rw[if_pos e2,if_pos e2]
    .rw[if_neg e2,if_neg e2];by_cases e3:k=24+i/\(i:Int)<d.1
     .rw[if_pos e3,if_pos (by omega)]
     .rw[if_neg e3,if_neg (by omega)]
  .have h:=kD h;rw[aw];refine⟨i2,λi k hi hk=> ?_⟩;show d.2.2.2 (i*48+k)=_;rw[i3 i k hi hk];by_cases e2:i=k
   .rw[if_pos e2,if_pos e2]
   .rw[if_neg e2,if_neg e2];by_cases e3:k=24+i
    .rw[if_pos e3,if_pos (by omega)]
    .rw[if_neg e3,if_neg (by omega)]) (λd hd=>by omega)
theorem aRG (F U D Fm:Nat->Int)(b:Bool)(hF:∀i,i<24->F i=0∨F i=1073741824)(hU:∀p,p<276->U p=0)(hf:∀i k,i<24->k<24->Fm (i*24+k)=if i=k then F i else 0):Ok (qZ U D b Fm) (λr:OY=>r.1=b/\∀i k,i<24->k<48->r.2 (i*48+k)=if i=k then F i else if k=24+i then 1073741824 else 0):=by
 unfold qZ G8;show PQ _ _;refine ax (a2s F hF (0,b,Fm,(U,D),λx=>0) _ hU hf ⟨dW 0,(show(0:Int)<=24 by decide),rfl,rfl,rfl,λi j hi hj=>by show(0:Int)=_;rw[if_neg (by show ¬(i=j/\(j:Int)<0);omega)]⟩) λx _ hx=> ?_;obtain⟨a1,a2,a3⟩:=hx;refine ax (a2t F b _ ⟨dW 0,(show(0:Int)<=24 by decide),a1,λi k hi hk=> ?_⟩) λy _ hy=> ?_
 .show x.b.2.2 (i*48+k)=_;rw[a3 i k hi hk];by_cases e:i=k
  .rw[if_pos ⟨e,by omega⟩,if_pos e]
  .rw[if_neg (λh=>e h.1),if_neg e,if_neg (by show ¬(k=24+i/\(i:Int)<0);omega)]
 .rw[aw];exact hy
theorem a3P (F:Nat->Int)(hF:∀i,i<24->F i=0∨F i=1073741824)(w d:fM.B)(hi:0<=w.1.1/\w.1.1<24)(hd:0<=d.1.2.2/\d.1.2.2<=24/\d.1.1=w.1.1/\d.1.2.1=w.1.2.1/\d.2.1=w.2.1/\d.b.1=w.b.1/\(∀i k,i<24->k<24->d.b.2.1 (i*24+k)=if i=k then F i else 0)/\d.b.2.2=w.b.2.2):Ok (CG d) (λx:nZ=>x.1.2.1=w.1.2.1/\x.2.1=w.2.1/\x.b.1=w.b.1/\(∀i k,i<24->k<24->x.b.2.1 (i*24+k)=if i=k then F i else 0)/\x.b.2.2=w.b.2.2):=
 qG (s:=_) (λd:fM.B=>0<=d.1.2.2/\d.1.2.2<=24/\d.1.1=w.1.1/\d.1.2.1=w.1.2.1/\d.2.1=w.2.1/\d.b.1=w.b.1/\(∀i k,i<24->k<24->d.b.2.1 (i*24+k)=if i=k then F i else 0)/\d.b.2.2=w.b.2.2) (λd:fM.B=>z4 (24-d.1.2.2)) (λx:nZ=>x.1.2.1=w.1.2.1/\x.2.1=w.2.1/\x.b.1=w.b.1/\(∀i k,i<24->k<24->x.b.2.1 (i*24+k)=if i=k then F i else 0)/\x.b.2.2=w.b.2.2) (λd hd=>by
  obtain⟨i0,i1,i2,i3,i4,i5,i6,i7⟩:=hd;have hw:wI (d.1.2.2+1)=d.1.2.2+1:=aZ;unfold CF;dsimp only;rw[aL];refine⟨λh=> ?_,λh=>by rw[aw];exact⟨i3,i4,i5,i6,i7⟩⟩;have h:=db h;have r0:bg d.1.1 24=true:=by rw[bz,i2];omega
  have r1:bg d.1.2.2 24=true:=by rw[bz];omega
  have r2:(true&&wl (0+(z4 d.1.1*24+z4 d.1.2.2)*1+1) 576)=true:=by rw[o8,ch,i2];omega
  have v:=i6 (z4 d.1.1) (z4 d.1.2.2) (by rw[i2];omega) (by omega);have bF:=hF (z4 d.1.1) (by rw[i2];omega)
  have s:aP (d.b.2.1 (z4 d.1.1*24+z4 d.1.2.2)) d.2.1=some (d.b.2.1 (z4 d.1.1*24+z4 d.1.2.2),d.2.1):=by
   have r: -1152921504606846976<=d.b.2.1 (z4 d.1.1*24+z4 d.1.2.2)/\d.b.2.1 (z4 d.1.1*24+z4 d.1.2.2)<=1152921504606846976:=by rw[v];split<;>omega
   rw[oI,Q8 r,Jh r,LL]
  rw[r0,r1,r2,aD,aD,s,cy,aD,aD,aD,aw,hw];refine⟨⟨by show 0<=d.1.2.2+1;omega,by show d.1.2.2+1<=24;omega,i2,i3,i4,i5,λi k hi hk=> ?_,i7⟩,by show z4 (24-(d.1.2.2+1))<_;omega⟩;show(bif z9 (i*24+k) (z4 d.1.1*24+z4 d.1.2.2) then d.b.2.1 (z4 d.1.1*24+z4 d.1.2.2) else d.b.2.1 (i*24+k))=_;rw[HA];split
  .rename_i e;rw[<-e];exact i6 i k hi hk
  .exact i6 i k hi hk) 2000 d hd (by omega)
theorem a3Q (F D q:Nat->Int)(b:Bool)(hF:∀i,i<24->F i=0∨F i=1073741824)(w d:fN.B)(hD:∀i,i<24->w.b.1.2 i=D i)(hq:∀i,i<24->w.c.1 i=q i/\0<=q i/\q i<=72057594037927936)(hd:0<=d.1/\d.1<=24/\d.2.1=b/\d.b.1=w.b.1/\(∀i k,i<24->k<24->d.b.2.1 (i*24+k)=if i=k then F i else 0)/\d.c.1=w.c.1/\d.c.2.1=w.c.2.1/\∀i:Nat,i<24->(i:Int)<d.1->d.c.2.2 i=D i/\d.c.2.2 (24+i)=q i):Ok (CJ d) (λx:oc=>x.2.1=b/\x.b.1=w.b.1/\(∀i k,i<24->k<24->x.b.2.1 (i*24+k)=if i=k then F i else 0)/\x.c.2.1=w.c.2.1/\∀i:Nat,i<24->(i:Int)<24->x.c.2.2 i=D i/\x.c.2.2 (24+i)=q i):=
 qG (s:=_) (λd:fN.B=>0<=d.1/\d.1<=24/\d.2.1=b/\d.b.1=w.b.1/\(∀i k,i<24->k<24->d.b.2.1 (i*24+k)=if i=k then F i else 0)/\d.c.1=w.c.1/\d.c.2.1=w.c.2.1/\∀i:Nat,i<24->(i:Int)<d.1->d.c.2.2 i=D i/\d.c.2.2 (24+i)=q i) (λd:fN.B=>z4 (24-d.1)) (λx:oc=>x.2.1=b/\x.b.1=w.b.1/\(∀i k,i<24->k<24->x.b.2.1 (i*24+k)=if i=k then F i else 0)/\x.c.2.1=w.c.2.1/\∀i:Nat,i<24->(i:Int)<24->x.c.2.2 i=D i/\x.c.2.2 (24+i)=q i) (λd hd=>by
  obtain⟨i0,i1,i2,i3,i4,i5,i6,i7⟩:=hd;have hw:wI (d.1+1)=d.1+1:=aZ;unfold CI;dsimp only;rw[aL];refine⟨λh=> ?_,λh=> ?_⟩
  .have h:=db h;have h1:wI (24+d.1)=24+d.1:=dS;have r0:bg d.1 24=true:=by rw[bz];omega
   have r1:bg d.1 48=true:=by rw[bz];omega
   have r2:(true&&wl (0+z4 d.1*1+1) 48)=true:=by rw[o8,ch];omega
   have r3:bg (24+d.1) 48=true:=by rw[bz];omega
   have r4:(true&&wl (0+z4 (24+d.1)*1+1) 48)=true:=by rw[o8,ch];omega
   obtain⟨m,hm⟩:∃m:Nat,d.1=(m:Int):=⟨z4 d.1,by omega⟩;have aS2:m<24:=by omega
   have vq:=hq m aS2
   have c:aY (d.c.1 (z4 d.1)) 0 72057594037927936 d.2.1=some (q m,b):=by
    rw[i5,hm,HY,vq.1,i2];exact afu _ _ _ _ vq.2.1 vq.2.2
   rw[h1,r0,r1,r2,r3,r4,aD,aD,c,cy,aD,aD,aD,aD];refine ax (a3P F hF _ _ ⟨i0,h⟩ ⟨dW 0,(show(0:Int)<=24 by decide),rfl,rfl,rfl,rfl,i4,rfl⟩) λx _ hx=> ?_;obtain⟨a0,a1,a2,a3,a4⟩:=hx;have a0:x.1.2.1=d.1:=a0;have a1:x.2.1=b:=a1;have a2:x.b.1=d.b.1:=a2;rw[aw,a0,hw];refine⟨⟨by show 0<=d.1+1;omega,by show d.1+1<=24;omega,a1,a2.trans i3,a3,(fe (λz=>z.1) a4).trans i5,(fe (λz=>z.2.1) a4).trans i6,λi hi hj=> ?_⟩,by show z4 (24-(d.1+1))<_;omega⟩;have a6:x.c.2.2=λj=>bif z9 j (z4 (24+d.1)) then q m else bif z9 j (z4 d.1) then d.b.1.2 (z4 d.1) else d.c.2.2 j:=fe (λz=>z.2.2) a4
   show x.c.2.2 i=D i/\x.c.2.2 (24+i)=q i;have hj:(i:Int)<d.1+1:=hj;rw[a6];show(bif z9 i (z4 (24+d.1)) then q m else bif z9 i (z4 d.1) then d.b.1.2 (z4 d.1) else d.c.2.2 i)=D i/\(bif z9 (24+i) (z4 (24+d.1)) then q m else bif z9 (24+i) (z4 d.1) then d.b.1.2 (z4 d.1) else d.c.2.2 (24+i))=q i;rw[aDw,aDw,aDw,aDw,if_neg (by omega:¬i=z4 (24+d.1)),if_neg (by omega:¬24+i=z4 d.1)];by_cases e:i=m
   .subst e;rw[if_pos (by omega:i=z4 d.1),if_pos (by omega:24+i=z4 (24+d.1)),hm,HY,i3];exact⟨hD i hi,rfl⟩
   .rw[if_neg (by omega:¬i=z4 d.1),if_neg (by omega:¬24+i=z4 (24+d.1))];exact i7 i hi (by omega)
  .have h:=kD h;rw[aw];exact⟨i2,i3,i4,i6,λi hi hj=>i7 i hi (by omega)⟩) 2000 d hd (by omega)
def Qh (F D q:Nat->Int):Prop:=∀i,i<24->okV (D i)/\((F i=1073741824/\q i=0)∨(F i=0/\okV (q i)))
def kept (F D q:Nat->Int)(i:Nat):Int:=if F i=0 then q i else D i
theorem Qh.F {F D q:Nat->Int}(h:Qh F D q):∀i,i<24->F i=0∨F i=1073741824:=λi hi=>by
 rcases(h i hi).2 with a|a
 .exact Or.inr a.1
 .exact Or.inl a.1
theorem Qh.q {F D q:Nat->Int}(h:Qh F D q):∀i,i<24->0<=q i/\q i<=72057594037927936:=λi hi=>by
 rcases(h i hi).2 with a|a
 .have:=a.2;omega
 .have:=a.2.le;omega
theorem Qh.z {F D q:Nat->Int}(h:Qh F D q):∀i,i<24->¬F i=0->q i=0/\F i=1073741824:=λi hi n=>by
 rcases(h i hi).2 with a|a
 .exact⟨a.2,a.1⟩
 .exact absurd a.1 n
theorem Qh.k {F D q:Nat->Int}(h:Qh F D q):∀i,i<24->okV (kept F D q i):=λi hi=>by
 unfold kept;rcases(h i hi).2 with a|a
 .rw[if_neg (by omega)];exact(h i hi).1
 .rw[if_pos a.1];exact a.2
def yv (F D q:Nat->Int)(j k:Nat):Int:=if k=j then(if F j=0 then 0 else D j) else if k=24+j then q j else 0
theorem aY9 {F D q:Nat->Int}(h:Qh F D q)(j k:Nat)(hj:j<24): -1152921504606846976<=yv F D q j k/\yv F D q j k<=1152921504606846976:=by
 have:=(h j hj).1.le;have:=h.q j hj;unfold yv;split
 .split<;>omega
 .split<;>omega
theorem a3R (F D q:Nat->Int)(hk:Qh F D q)(j:Nat)(hj:j<24)(w d:eQ.B)(he:∀i:Nat,i<24->w.b.2.1 i=D i/\w.b.2.1 (24+i)=q i)(hW:(∀i k,i<24->k<48->w.c.1 (i*48+k)=if i=k then F i else if k=24+i then 1073741824 else 0))(hd:0<=d.1.2/\d.1.2<=48/\d.1.1=(j:Int)/\d.2.1=w.2.1/\d.b.1=w.b.1/\d.b.2.1=w.b.2.1/\d.c.1=w.c.1/\d.c.2.1=w.c.2.1/\∀k:Nat,k<48->(k:Int)<d.1.2->d.c.2.2 k=yv F D q j k):Ok (wG d) (λx:lF=>x.1.1=(j:Int)/\x.2.1=w.2.1/\x.b.1=w.b.1/\x.b.2.1=w.b.2.1/\x.c.1=w.c.1/\x.c.2.1=w.c.2.1/\∀k:Nat,k<48->x.c.2.2 k=yv F D q j k):=
 qG (s:=_) (λd:eQ.B=>0<=d.1.2/\d.1.2<=48/\d.1.1=(j:Int)/\d.2.1=w.2.1/\d.b.1=w.b.1/\d.b.2.1=w.b.2.1/\d.c.1=w.c.1/\d.c.2.1=w.c.2.1/\∀k:Nat,k<48->(k:Int)<d.1.2->d.c.2.2 k=yv F D q j k) (λd:eQ.B=>z4 (48-d.1.2)) (λx:lF=>x.1.1=(j:Int)/\x.2.1=w.2.1/\x.b.1=w.b.1/\x.b.2.1=w.b.2.1/\x.c.1=w.c.1/\x.c.2.1=w.c.2.1/\∀k:Nat,k<48->x.c.2.2 k=yv F D q j k) (λd hd=>by
  obtain⟨i0,i1,i2,i3,i4,i5,i6,i7,i8⟩:=hd;have hw:wI (d.1.2+1)=d.1.2+1:=aZ;unfold wF;dsimp only;rw[aL];refine⟨λh=> ?_,λh=> ?_⟩
  .have h:=db h;obtain⟨m,hm⟩:∃m:Nat,d.1.2=(m:Int):=⟨z4 d.1.2,by omega⟩;have a3S:m<48:=by omega
   have r0:bg d.1.1 24=true:=by rw[bz,i2];omega
   have r1:bg d.1.2 48=true:=by rw[bz];omega
   have r2:(true&&wl (0+z4 d.1.2*1+1) 48)=true:=by rw[o8,ch];omega
   have wv:d.c.1 (z4 d.1.1*48+z4 d.1.2)=if j=m then F j else if m=24+j then 1073741824 else 0:=by
    rw[i6,i2,hm,HY,HY];exact hW j m hj a3S
   have e3:d.b.2.1 (z4 d.1.2)=w.b.2.1 m:=by rw[i5,hm,HY]
   have em: -1152921504606846976<=w.b.2.1 m/\w.b.2.1 m<=1152921504606846976:=by
    by_cases c:m<24
    .have:=(he m c).1;have:=(hk m c).1.le;omega
    .have e:=(he (m-24) (by omega)).2;rw[(by omega:24+(m-24)=m)] at e;have:=hk.q (m-24) (by omega);omega
   have mul:aW (d.c.1 (z4 d.1.1*48+z4 d.1.2)) (d.b.2.1 (z4 d.1.2)) 30 d.2.1=some (yv F D q j m,d.2.1):=by
    have hF:=hk.F j hj;by_cases c1:m=j
    .have wv':d.c.1 (z4 d.1.1*48+z4 d.1.2)=F j:=by rw[wv,if_pos c1.symm]
     rw[wv',e3,aMg _ _ _ hF em];refine fe (λz=>some (z,d.2.1)) ?_;unfold yv;rw[if_pos c1,c1,(he j hj).1]
    .by_cases c2:m=24+j
     .have wv':d.c.1 (z4 d.1.1*48+z4 d.1.2)=1073741824:=by rw[wv,if_neg (λh=>c1 h.symm),if_pos c2]
      rw[wv',e3,aMg _ _ _ (Or.inr rfl) em,if_neg (by decide)];refine fe (λz=>some (z,d.2.1)) ?_;unfold yv;rw[if_neg c1,if_pos c2,c2,(he j hj).2]
     .have wv':d.c.1 (z4 d.1.1*48+z4 d.1.2)=0:=by rw[wv,if_neg (λh=>c1 h.symm),if_neg c2]
      rw[wv',e3,aMg _ _ _ (Or.inl rfl) em,if_pos rfl];refine fe (λz=>some (z,d.2.1)) ?_;unfold yv;rw[if_neg c1,if_neg c2]
   rw[r0,r1,r2,aD,aD,aD,mul,cy,aD,aD,aw,hw];refine⟨⟨by show 0<=d.1.2+1;omega,by show d.1.2+1<=48;omega,i2,i3,i4,i5,i6,i7,λk GM hkc=> ?_⟩,by show z4 (48-(d.1.2+1))<_;omega⟩;have hkc:(k:Int)<d.1.2+1:=hkc;show(bif z9 k (z4 d.1.2) then yv F D q j m else d.c.2.2 k)=yv F D q j k;rw[HA];split
   .rename_i e
    have:k=m:=by omega
    rw[this]
   .exact i8 k GM (by omega)
  .have h:=kD h;rw[aw];exact⟨i2,i3,i4,i5,i6,i7,λk GM=>i8 k GM (by omega)⟩) 2000 d hd (by omega)
theorem a3T (F:Nat->Int)(hF:∀i,i<24->F i=0∨F i=1073741824)(w d:eR.B)(h0:0<=w.1.1/\w.1.1<24)(h2:0<=w.1.2.2.1/\w.1.2.2.1<24)(hd:0<=d.1.2.2.2.2.2.2/\d.1.2.2.2.2.2.2<=48/\d.1.1=w.1.1/\d.1.2.1=w.1.2.1/\d.1.2.2.1=w.1.2.2.1/\d.1.2.2.2.1=0/\d.1.2.2.2.2.1=w.1.2.2.2.2.1/\d.1.2.2.2.2.2.1=w.1.2.2.2.2.2.1/\d.2.1=w.2.1/\d.2.2.1=w.2.2.1/\d.2.2.2.1=w.2.2.2.1/\(∀i k,i<24->k<48->d.2.2.2.2.1 (i*48+k)=if i=k then F i else if k=24+i then 1073741824 else 0)/\d.2.2.2.2.2=w.2.2.2.2.2):Ok (wJ d) (λx:lG=>x.1.1=w.1.1/\x.1.2.1=w.1.2.1/\x.1.2.2.2.2.1=w.1.2.2.2.2.1/\x.1.2.2.2.2.2.1=w.1.2.2.2.2.2.1/\x.2.1=w.2.1/\x.2.2.1=w.2.2.1/\x.2.2.2.1=w.2.2.2.1/\(∀i k,i<24->k<48->x.2.2.2.2.1 (i*48+k)=if i=k then F i else if k=24+i then 1073741824 else 0)/\x.2.2.2.2.2=w.2.2.2.2.2):=
 qG (s:=_) (λd:eR.B=>0<=d.1.2.2.2.2.2.2/\d.1.2.2.2.2.2.2<=48/\d.1.1=w.1.1/\d.1.2.1=w.1.2.1/\d.1.2.2.1=w.1.2.2.1/\d.1.2.2.2.1=0/\d.1.2.2.2.2.1=w.1.2.2.2.2.1/\d.1.2.2.2.2.2.1=w.1.2.2.2.2.2.1/\d.2.1=w.2.1/\d.2.2.1=w.2.2.1/\d.2.2.2.1=w.2.2.2.1/\(∀i k,i<24->k<48->d.2.2.2.2.1 (i*48+k)=if i=k then F i else if k=24+i then 1073741824 else 0)/\d.2.2.2.2.2=w.2.2.2.2.2) (λd:eR.B=>z4 (48-d.1.2.2.2.2.2.2)) (λx:lG=>x.1.1=w.1.1/\x.1.2.1=w.1.2.1/\x.1.2.2.2.2.1=w.1.2.2.2.2.1/\x.1.2.2.2.2.2.1=w.1.2.2.2.2.2.1/\x.2.1=w.2.1/\x.2.2.1=w.2.2.1/\x.2.2.2.1=w.2.2.2.1/\(∀i k,i<24->k<48->x.2.2.2.2.1 (i*48+k)=if i=k then F i else if k=24+i then 1073741824 else 0)/\x.2.2.2.2.2=w.2.2.2.2.2) (λd hd=>by
  obtain⟨i0,i1,j0,j1,j2,j3,j4,j5,i3,i4,i5,i6,i7⟩:=hd;have hw:wI (d.1.2.2.2.2.2.2+1)=d.1.2.2.2.2.2.2+1:=aZ;unfold wH;dsimp only;rw[aL];refine⟨λh=> ?_,λh=>by rw[aw];exact⟨j0,j1,j4,j5,i3,i4,i5,i6,i7⟩⟩;have h:=db h;have r0:bg d.1.2.2.1 24=true:=by rw[bz,j2];omega
  have r1:bg d.1.2.2.2.2.2.2 48=true:=by rw[bz];omega
  have r2:bg d.1.1 24=true:=by rw[bz,j0];omega
  have r3:(true&&wl (0+(z4 d.1.2.2.1*48+z4 d.1.2.2.2.2.2.2)*1+1) 1152)=true:=by rw[o8,ch,j2];omega
  have bw:∀i,i<24-> -1152921504606846976<=d.2.2.2.2.1 (i*48+z4 d.1.2.2.2.2.2.2)/\d.2.2.2.2.1 (i*48+z4 d.1.2.2.2.2.2.2)<=1152921504606846976:=λi hi=>by
   rw[i6 i (z4 d.1.2.2.2.2.2.2) hi (by omega)];have:=hF i hi;split
   .omega
   .split<;>omega
  have mul:aW d.1.2.2.2.1 (d.2.2.2.2.1 (z4 d.1.1*48+z4 d.1.2.2.2.2.2.2)) 30 d.2.1=some (0,d.2.1):=by
   rw[j3,aMg 0 _ _ (Or.inl rfl) (bw (z4 d.1.1) (by rw[j0];omega)),if_pos rfl]
  rw[r0,r1,r2,r3,aD,aD,aD,aD,mul,cy,sub_zero _ _ (bw (z4 d.1.2.2.1) (by rw[j2];omega)),cy,aD,aD,aD,aw,hw];refine⟨⟨by show 0<=d.1.2.2.2.2.2.2+1;omega,by show d.1.2.2.2.2.2.2+1<=48;omega,j0,j1,j2,j3,j4,j5,i3,i4,i5,λi k hi hk=> ?_,i7⟩,by show z4 (48-(d.1.2.2.2.2.2.2+1))<_;omega⟩;show(bif z9 (i*48+k) (z4 d.1.2.2.1*48+z4 d.1.2.2.2.2.2.2) then d.2.2.2.2.1 (z4 d.1.2.2.1*48+z4 d.1.2.2.2.2.2.2) else d.2.2.2.2.1 (i*48+k))=_;rw[HA];split
  .rename_i e;rw[<-e];exact i6 i k hi hk
  .exact i6 i k hi hk) 2000 d hd (by omega)
theorem a3U (F D q G:Nat->Int)(hk:Qh F D q)(j:Nat)(hj:j<24)(v:Int)(hv:okV v)(w:eS.B):∀(d:eS.B) (hd:0<=d.1.2.2.2/\d.1.2.2.2<=d.1.2.2.1/\d.1.2.2.1=(j:Int)/\d.1.1=(j:Int)/\d.1.2.1=v/\d.2.1=w.2.1/\d.2.2.1=w.2.2.1/\d.2.2.2.1=w.2.2.2.1/\(∀i k,i<24->k<48->d.2.2.2.2.1 (i*48+k)=if i=k then F i else if k=24+i then 1073741824 else 0)/\d.2.2.2.2.2.1=(λ_=>0,G)/\∀k:Nat,k<48->d.2.2.2.2.2.2 k=yv F D q j k),Ok (wL d) (λx:od=>x.1.1=(j:Int)/\x.2.1=w.2.1/\x.2.2.1=w.2.2.1/\x.2.2.2.1=w.2.2.2.1/\(∀i k,i<24->k<48->x.2.2.2.2.1 (i*48+k)=if i=k then F i else if k=24+i then 1073741824 else 0)/\x.2.2.2.2.2.1=(λ_=>0,G)):=
 bV (λd:eS.B=>z4 (d.1.2.2.1-d.1.2.2.2)) (λd hd=>by
  obtain⟨i0,i1,j2,j0,j1,i3,i4,i5,i6,i7,i8⟩:=hd;have hw:wI (d.1.2.2.2+1)=d.1.2.2.2+1:=aZ;unfold wK;dsimp only;rw[aL];refine⟨λh=> ?_,λh=>by rw[aw];exact⟨j0,i3,i4,i5,i6,i7⟩⟩;have h:=db h;obtain⟨m,hm⟩:∃m:Nat,d.1.2.2.2=(m:Int):=⟨z4 d.1.2.2.2,by omega⟩;have hmj:m<j:=by omega
  have r0:bg d.1.2.2.2 24=true:=by rw[bz];omega
  have wv:∀k,k<48->d.2.2.2.2.1 (0+z4 d.1.2.2.2*48+k)=if m=k then F m else if k=24+m then 1073741824 else 0:=λk hk=>by
   rw[hm,HY,gD];exact i6 m k (by omega) hk
  have dot:bx 30 48 48 d.2.1 (λk=>d.2.2.2.2.1 (0+z4 d.1.2.2.2*48+k)) d.2.2.2.2.2.2 false false=some (0,d.2.1):=by
   have z:∀k,k<48->d.2.2.2.2.1 (0+z4 d.1.2.2.2*48+k)*d.2.2.2.2.2.2 k=0:=λk GM=>by
    rw[wv k GM,i8 k GM];unfold yv;by_cases c:m=k
    .rw[if_neg (by omega:¬k=j),if_neg (by omega:¬k=24+j),Int.mul_zero]
    .rw[if_neg c];by_cases c2:k=24+m
     .rw[if_neg (by omega:¬k=j),if_neg (by omega:¬k=24+j),Int.mul_zero]
     .rw[if_neg c2,af0]
   refine aGR 48 0 (by decide) (by decide) _ _ _ _ _ _ (λk GM=> ?_) (λk GM=> ?_) (λk GM _=>z k GM) (by rw[z 0 (by decide)];rfl) (by decide)
   .show -1152921504606846976<=d.2.2.2.2.1 (0+z4 d.1.2.2.2*48+k)/\d.2.2.2.2.1 (0+z4 d.1.2.2.2*48+k)<=1152921504606846976;rw[wv k GM];have:=hk.F m (by omega);split
    .omega
    .split<;>omega
   .rw[i8 k GM];exact aY9 hk j k hj
  have st:ua d.2.2.2.2.2.1.1 d.2.2.2.2.2.1.2 d.1.2.2.2 d.1.1 0=some (λ_=>0,G):=by
   rw[i7,hm,j0];exact aH7 G m j hmj hj
  rw[r0,aD,dot,cy,j1,div_zero v _ hv,cy,st,cy];refine ax (a3T F hk.F _ _ (by show 0<=d.1.1/\d.1.1<24;omega) (by show 0<=d.1.2.2.2/\d.1.2.2.2<24;omega) ⟨dW 0,(show(0:Int)<=48 by decide),rfl,rfl,rfl,rfl,rfl,rfl,rfl,rfl,rfl,i6,rfl⟩) λx _ hx=> ?_;obtain⟨a0,a1,a4,a5,b1,b2,b3,b4,b5⟩:=hx;have a4:x.1.2.2.2.2.1=d.1.2.2.1:=a4;have a5:x.1.2.2.2.2.2.1=d.1.2.2.2:=a5;have a0:x.1.1=d.1.1:=a0;rw[aw,a5,hw];refine⟨⟨by show 0<=d.1.2.2.2+1;omega,by show d.1.2.2.2+1<=x.1.2.2.2.2.1;omega,by show x.1.2.2.2.2.1=(j:Int);omega,by show x.1.1=(j:Int);omega,a1,b1.trans i3,b2.trans i4,b3.trans i5,b4,fe (λz=>z.1) b5,λk GM=>(congrFun (fe (λz=>z.2) b5) k).trans (i8 k GM)⟩,by show z4 (x.1.2.2.2.2.1-(d.1.2.2.2+1))<_;omega⟩) (λd hd=>by omega)
theorem a3V (F D q:Nat->Int)(b:Bool)(e:Nat->Int)(hk:Qh F D q)(he:∀i:Nat,i<24->e i=D i/\e (24+i)=q i):∀(d:fO.B) (hd: -1<=d.1/\d.1<=23/\d.2.1=b/\d.b.2.1=e/\(∀i k,i<24->k<48->d.c.1 (i*48+k)=if i=k then F i else if k=24+i then 1073741824 else 0)/\d.c.2=(λ_=>0,λi:Nat=>if d.1<(i:Int)/\i<24 then kept F D q i else 0)),Ok (wN d) (λx:oe=>x.2.1=b/\x.c.2=(λ_=>0,λi=>if i<24 then kept F D q i else 0)):=
 bV (λd:fO.B=>z4 (d.1+1)) (λd hd=>by
  obtain⟨i0,i1,i2,i3,i4,i5⟩:=hd;unfold wM;dsimp only;rw[aL];refine⟨λh=> ?_,λh=> ?_⟩
  .have h:=db h;obtain⟨j,hj⟩:∃m:Nat,d.1=(m:Int):=⟨z4 d.1,by omega⟩;have aB2:j<24:=by omega
   refine ax (a3R F D q hk j aB2 ((d.1,0),d.2.1,d.b.1,d.b.2.1,d.c.1,d.c.2,λx=>0) _ (by show∀i:Nat,i<24->d.b.2.1 i=D i/\d.b.2.1 (24+i)=q i;rw[i3];exact he) i4 ⟨dW 0,(show(0:Int)<=48 by decide),hj,rfl,rfl,rfl,rfl,rfl,λk _ hk0=>absurd hk0 (by show ¬(k:Int)<0;omega)⟩) λx _ hx=> ?_;obtain⟨a0,a1,a2,a3,a4,a5,a6⟩:=hx;have a1:x.2.1=d.2.1:=a1;have a4:x.c.1=d.c.1:=a4;have a3:x.b.2.1=d.b.2.1:=a3;have a5:x.c.2.1=d.c.2:=a5;have r0:bg x.1.1 24=true:=by rw[bz,a0];omega
   have r1:(true&&wl (276+z4 x.1.1*1+1) 300)=true:=by rw[o8,ch,a0];omega
   have wv:∀k,k<48->x.c.1 (0+z4 x.1.1*48+k)=if j=k then F j else if k=24+j then 1073741824 else 0:=λk GM=>by
    rw[a4,a0,HY,gD];exact i4 j k aB2 GM
   have K:=(hk j aB2).1.le;have kp:=(hk.k j aB2).le;have kz:=hk.z j aB2
   have dot:bx 30 48 48 x.2.1 (λk=>x.c.1 (0+z4 x.1.1*48+k)) x.c.2.2 false false=some (kept F D q j,x.2.1):=by
    refine aGR 48 (if F j=0 then 24+j else j) (by decide) (by split<;>omega) _ _ _ _ _ _ (λk GM=> ?_) (λk GM=> ?_) (λk GM mz=> ?_) ?_ (by omega)
    .show -1152921504606846976<=x.c.1 (0+z4 x.1.1*48+k)/\x.c.1 (0+z4 x.1.1*48+k)<=1152921504606846976;rw[wv k GM];split
     .omega
     .split<;>omega
    .rw[a6 k GM];exact aY9 hk j k aB2
    .show x.c.1 (0+z4 x.1.1*48+k)*x.c.2.2 k=0;rw[wv k GM,a6 k GM];unfold yv;by_cases c:k=j
     .subst c;by_cases f0:F k=0
      .rw[if_pos rfl,f0,af0]
      .rw[if_neg f0] at mz;exact absurd rfl mz
     .rw[if_neg (λh=>c h.symm),if_neg c];by_cases c2:k=24+j
      .by_cases f0:F j=0
       .rw[if_pos f0] at mz;exact absurd c2 mz
       .rw[if_pos c2,if_pos c2];rw[(kz f0).1,Int.mul_zero]
      .rw[if_neg c2,if_neg c2,af0]
    .show x.c.1 (0+z4 x.1.1*48+(if F j=0 then 24+j else j))*x.c.2.2 (if F j=0 then 24+j else j)=kept F D q j*1073741824;rw[wv _ (by split<;>omega),a6 _ (by split<;>omega)];unfold yv kept;by_cases f0:F j=0
     .rw[if_pos f0,if_pos f0,if_neg (by omega:¬j=24+j),if_pos rfl,if_neg (by omega:¬24+j=j),if_pos rfl,xT,if_pos f0]
     .rw[if_neg f0,if_neg f0,if_pos rfl,if_pos rfl,(kz f0).2,xT,if_neg (by decide)]
   rw[r0,aD,dot,cy,afu _ _ _ _ kp.1 kp.2,cy,aD,r1,aD];refine ax (a3U F D q (λi:Nat=>if d.1-1<(i:Int)/\i<24 then kept F D q i else 0) hk j aB2 (kept F D q j) (hk.k j aB2) ((x.1.1,kept F D q j,x.1.1,0),x.2.1,x.b.1,x.b.2.1,x.c.1,(x.c.2.1.1,λi=>bif z9 i (z4 x.1.1) then kept F D q j else x.c.2.1.2 i),x.c.2.2) _ ⟨dW 0,by show 0<=x.1.1;omega,a0,a0,rfl,rfl,rfl,rfl,by show∀i k,i<24->k<48->x.c.1 (i*48+k)=_;rw[a4];exact i4,?_,a6⟩) λy _ hy=> ?_
   .refine Prod.ext (by show x.c.2.1.1=_;rw[a5,i5]) (funext λi=> ?_);show(bif z9 i (z4 x.1.1) then kept F D q j else x.c.2.1.2 i)=if d.1-1<(i:Int)/\i<24 then kept F D q i else 0
    rw[HA,a0,a5,i5,HY];show(if i=j then kept F D q j else if d.1<(i:Int)/\i<24 then kept F D q i else 0)=_;by_cases c:i=j
    .subst c;rw[if_pos rfl,if_pos (by omega)]
    .rw[if_neg c];by_cases c2:d.1<(i:Int)/\i<24
     .rw[if_pos c2,if_pos (by omega)]
     .rw[if_neg c2,if_neg (by omega)]
   obtain⟨b0,b1,b2,b3,b4,b5⟩:=hy;have b1:y.2.1=x.2.1:=b1;have b3:y.b.2.1=x.b.2.1:=b3;have hw:wI (y.1.1-1)=d.1-1:=by rw[b0,<-hj];exact dS (by omega) (by omega)
   rw[aw,hw];exact⟨⟨by show -1<=d.1-1;omega,by show d.1-1<=23;omega,b1.trans (a1.trans i2),b3.trans (a3.trans i3),b4,b5⟩,by show z4 (d.1-1+1)<_;omega⟩
  .have h:=kD h;rw[aw];refine⟨i2,i5.trans (Prod.ext rfl (funext λi=> ?_))⟩;show(if d.1<(i:Int)/\i<24 then kept F D q i else 0)=if i<24 then kept F D q i else 0
   by_cases c:i<24
   .rw[if_pos c,if_pos (by omega)]
   .rw[if_neg c,if_neg (by omega)]) (λd hd=>by omega)
theorem aRH (F U D Fm Q q:Nat->Int)(b:Bool)(hk:Qh F D q)(hU:∀p,p<276->U p=0)(hf:(∀i k,i<24->k<24->Fm (i*24+k)=if i=k then F i else 0))(hq:∀i,i<24->Q i=q i):gI U D Fm Q b=some ((λ_=>0,λi=>if i<24 then kept F D q i else 0),b):=by
 have h:Ok (gI U D Fm Q b) (λr:O4=>r=((λ_=>0,λi=>if i<24 then kept F D q i else 0),b)):=by
  unfold gI Bq;show PQ _ _;refine ax (aRF U D b hU (λi hi=>(hk i hi).1.le)) λc _ hc=> ?_;obtain⟨c0,c1,c2⟩:=hc;refine ax (a3Q F D q c.2 hk.F (0,c.2,c.1,Fm,Q,(λx=>0,λx=>0),λx=>0) _ c2 (λi hi=>⟨hq i hi,hk.q i hi⟩) ⟨dW 0,(show(0:Int)<=24 by decide),rfl,rfl,hf,rfl,rfl,λi _ hi=>absurd hi (by show ¬(i:Int)<0;omega)⟩) λx _ hx=> ?_;obtain⟨a1,a2,a3,a4,a5⟩:=hx;have a2:x.b.1=c.1:=a2;refine ax (aRG F _ _ x.b.2.1 x.2.1 hk.F (by rw[a2];exact c1) a3) λw _ hw=> ?_;refine ax (a3V F D q b x.c.2.2 hk (λi hi=>a5 i hi (by omega)) _ ⟨(show(-1:Int)<=23 by decide),(show(23:Int)<=23 by decide),hw.1.trans (a1.trans c0),rfl,hw.2,?_⟩) λy _ hy=> ?_
  .refine Prod.ext rfl (funext λi=> ?_);show(0:Int)=if (23:Int)<(i:Int)/\i<24 then kept F D q i else 0
   rw[if_neg (by omega)]
  .rw[aw];exact Prod.ext hy.2 hy.1
 obtain⟨r,h1,h2⟩:=h;rw[h1,h2]
theorem a3W:∀(d:ib.B) (hd:0<=d.1/\d.1<=24/\∀i k:Nat,i<24->k<24->d.2.2 (i*24+k)=if i=k/\(i:Int)<d.1 then 1073741824 else 0),Ok (ET d) (λx:tC=>∀i k:Nat,i<24->k<24->x.2.2 (i*24+k)=if i=k then 1073741824 else 0):=
 bV (λd:ib.B=>z4 (24-d.1)) (λd hd=>by
  obtain⟨i0,i1,i2⟩:=hd;have hw:wI (d.1+1)=d.1+1:=aZ;unfold ES;dsimp only;rw[aL];refine⟨λh=> ?_,λh=> ?_⟩
  .have h:=db h;have r0:bg d.1 24=true:=by rw[bz];omega
   have r1:(true&&wl (0+(z4 d.1*24+z4 d.1)*1+1) 576)=true:=by rw[o8,ch];omega
   rw[r0,r1,aD,aD,aD,aw,hw];refine⟨⟨by show 0<=d.1+1;omega,by show d.1+1<=24;omega,λi k hi hk=> ?_⟩,by show z4 (24-(d.1+1))<_;omega⟩;show(bif z9 (i*24+k) (z4 d.1*24+z4 d.1) then 1073741824 else d.2.2 (i*24+k))=if i=k/\(i:Int)<d.1+1 then 1073741824 else 0
   rw[HA,i2 i k hi hk];by_cases e:i*24+k=z4 d.1*24+z4 d.1
   .rw[if_pos e,if_pos (by omega)]
   .rw[if_neg e];by_cases e2:i=k/\(i:Int)<d.1
    .rw[if_pos e2,if_pos (by omega)]
    .rw[if_neg e2,if_neg (by omega)]
  .have h:=kD h;rw[aw];intro i k hi hk;show d.2.2 (i*24+k)=_;rw[i2 i k hi hk];by_cases e:i=k
   .rw[if_pos e,if_pos (by omega)]
   .rw[if_neg e,if_neg (by omega)]) (λd hd=>by omega)
theorem aUF:Ok nF (λr:DK=>∀i k:Nat,i<24->k<24->r (i*24+k)=if i=k then 1073741824 else 0):=by
 unfold nF JB;show PQ _ _;refine ax (a3W _ ⟨dW 0,(show(0:Int)<=24 by decide),λi k hi hk=>by show(0:Int)=_;rw[if_neg (by show ¬(i=k/\(i:Int)<0);omega)]⟩) λx _ hx=> ?_;rw[aw];exact hx
theorem a3X (w d:gO.B)(hv:∀j:Nat,j<4->okV (w.2.2.1 j))(hd:0<=d.1.2.2.2/\d.1.2.2.2<=4/\d.1.1=0/\d.1.2.1.1=4/\d.1.2.2.1=4/\d.2.1=w.2.1/\d.2.2.1=w.2.2.1/\d.2.2.2.1=w.2.2.2.1/\(∀i k:Nat,i<24->k<24->d.2.2.2.2.2.1 (i*24+k)=if i=k/\¬(i:Int)<d.1.2.2.2 then 1073741824 else 0)/\∀i:Nat,i<24->d.2.2.2.2.2.2 i=if (i:Int)<d.1.2.2.2 then w.2.2.1 i else 0):Ok (He d) (λx:re=>x.2.1=w.2.1/\x.2.2.2.1=w.2.2.2.1/\(∀i k:Nat,i<24->k<24->x.2.2.2.2.2.1 (i*24+k)=if i=k/\¬i<4 then 1073741824 else 0)/\∀i:Nat,i<24->x.2.2.2.2.2.2 i=if i<4 then w.2.2.1 i else 0):=
 qG (s:=_) (λd:gO.B=>0<=d.1.2.2.2/\d.1.2.2.2<=4/\d.1.1=0/\d.1.2.1.1=4/\d.1.2.2.1=4/\d.2.1=w.2.1/\d.2.2.1=w.2.2.1/\d.2.2.2.1=w.2.2.2.1/\(∀i k:Nat,i<24->k<24->d.2.2.2.2.2.1 (i*24+k)=if i=k/\¬(i:Int)<d.1.2.2.2 then 1073741824 else 0)/\∀i:Nat,i<24->d.2.2.2.2.2.2 i=if (i:Int)<d.1.2.2.2 then w.2.2.1 i else 0) (λd:gO.B=>z4 (4-d.1.2.2.2)) (λx:re=>x.2.1=w.2.1/\x.2.2.2.1=w.2.2.2.1/\(∀i k:Nat,i<24->k<24->x.2.2.2.2.2.1 (i*24+k)=if i=k/\¬i<4 then 1073741824 else 0)/\∀i:Nat,i<24->x.2.2.2.2.2.2 i=if i<4 then w.2.2.1 i else 0) (λd hd=>by
  obtain⟨i0,i1,i2,i3,i4,i5,i6,i7,i8,i9⟩:=hd;have hw:wI (d.1.2.2.2+1)=d.1.2.2.2+1:=aZ;have hy:wI (d.1.1+d.1.2.2.2)=d.1.2.2.2:=by rw[i2,ak0];exact dS (by omega) (by omega)
  unfold Hc;dsimp only;rw[aL];refine⟨λh=> ?_,λh=> ?_⟩
  .have h:=db h;have r0:bg d.1.2.2.2 d.1.2.1.1=true:=by rw[bz,i3];omega
   have r1:bg d.1.2.2.2 24=true:=by rw[bz];omega
   have r2:(true&&wl (0+(z4 d.1.2.2.2*24+z4 d.1.2.2.2)*1+1) 576)=true:=by rw[o8,ch];omega
   have r3:(true&&wl (0+z4 d.1.2.2.2*1+1) 24)=true:=by rw[o8,ch];omega
   have v:=(hv (z4 d.1.2.2.2) (by omega)).le;rw[<-i6] at v;rw[hy,r0,aD,a0D _ i0 (by omega),cy,aD,aY8 _ _ v.1 v.2,cy,r1,r2,r3,aD,aD,aD,aD,aD,aw,hw];refine⟨⟨by show 0<=d.1.2.2.2+1;omega,by show d.1.2.2.2+1<=4;omega,i2,i3,i4,i5,i6,i7,λi k hi hk=> ?_,λi hi=> ?_⟩,by show z4 (4-(d.1.2.2.2+1))<_;omega⟩
   .show(bif z9 (i*24+k) (z4 d.1.2.2.2*24+z4 d.1.2.2.2) then 0 else d.2.2.2.2.2.1 (i*24+k))=if i=k/\¬(i:Int)<d.1.2.2.2+1 then 1073741824 else 0
    rw[HA,i8 i k hi hk];by_cases e:i*24+k=z4 d.1.2.2.2*24+z4 d.1.2.2.2
    .rw[if_pos e,if_neg (by omega)]
    .rw[if_neg e];by_cases e2:i=k/\¬(i:Int)<d.1.2.2.2
     .rw[if_pos e2,if_pos (by omega)]
     .rw[if_neg e2,if_neg (by omega)]
   .show(bif z9 i (z4 d.1.2.2.2) then d.2.2.1 (z4 d.1.2.2.2) else d.2.2.2.2.2.2 i)=if (i:Int)<d.1.2.2.2+1 then w.2.2.1 i else 0
    rw[HA,i9 i hi,i6];by_cases e:i=z4 d.1.2.2.2
    .rw[if_pos e,if_pos (by omega),e]
    .rw[if_neg e];by_cases e2:(i:Int)<d.1.2.2.2
     .rw[if_pos e2,if_pos (by omega)]
     .rw[if_neg e2,if_neg (by omega)]
  .have h:=kD h;rw[aw];refine⟨i5,i7,λi k hi hk=> ?_,λi hi=> ?_⟩
   .show d.2.2.2.2.2.1 (i*24+k)=_;rw[i8 i k hi hk];by_cases e:i=k/\¬i<4
    .rw[if_pos e,if_pos (by omega)]
    .rw[if_neg e,if_neg (by omega)]
   .show d.2.2.2.2.2.2 i=_;rw[i9 i hi];by_cases e:i<4
    .rw[if_pos e,if_pos (by omega)]
    .rw[if_neg e,if_neg (by omega)]) 2000 d hd (by omega)
theorem aO0 (U D V:Nat->Int)(b w:Bool)(hU:∀p,p<276->U p=0)(hD:∀i,i<24->okV (D i))(hV:∀j,j<4->okV (V j)):
  cM U D 0 4 b V w=some ((λ_=>0,λi=>if i<24 then(if i<4 then V i else D i) else 0),b):=by
 have h:Ok (cM U D 0 4 b V w) (λr:XZ=>r=((λ_=>0,λi=>if i<24 then(if i<4 then V i else D i) else 0),b)):=by
  unfold cM FY;show PQ _ _;refine ax aUF λm _ hm=> ?_;rw[aQ,aD];refine ax (a3X ((0,(4,w),wr 4,0),b,V,(U,D),(λx=>0,λx=>0),m,λx=>0) _ hV ⟨dW 0,(show(0:Int)<=4 by decide),rfl,rfl,rfl,rfl,rfl,rfl,λi k hi hk=> ?_,λi hi=> ?_⟩) λx _ hx=> ?_
  .show m (i*24+k)=if i=k/\¬(i:Int)<0 then 1073741824 else 0
   rw[hm i k hi hk];by_cases e:i=k
   .rw[if_pos e,if_pos ⟨e,by omega⟩]
   .rw[if_neg e,if_neg (λh=>e h.1)]
  .show(0:Int)=if (i:Int)<0 then V i else 0
   rw[if_neg (by omega)]
  obtain⟨a1,a3,a5,a6⟩:=hx;have a1:x.2.1=b:=a1;have a3:x.b.2.1=(U,D):=a3
  have s:=aRH (λi=>if i<4 then 0 else 1073741824) U D x.c.2.1 x.c.2.2 (λi=>if i<4 then V i else 0) b (λi hi=>⟨hD i hi,by
    show((if i<4 then(0:Int) else 1073741824)=1073741824/\(if i<4 then V i else 0)=0)∨((if i<4 then(0:Int) else 1073741824)=0/\okV (if i<4 then V i else 0));by_cases c:i<4
    .rw[if_pos c,if_pos c];exact Or.inr ⟨rfl,hV i c⟩
    .rw[if_neg c,if_neg c];exact Or.inl ⟨rfl,rfl⟩⟩) hU (λi k hi hk=>by
    rw[a5 i k hi hk];by_cases c:i=k
    .subst c;by_cases c2:i<4
     .rw[if_neg (λh=>h.2 c2),if_pos rfl,if_pos c2]
     .rw[if_pos ⟨rfl,c2⟩,if_pos rfl,if_neg c2]
    .rw[if_neg (λh=>c h.1),if_neg c]) a6
  rw[a3,a1,s,cy,aw];refine Prod.ext (Prod.ext rfl (funext λi=> ?_)) rfl;show(if i<24 then kept _ D _ i else 0)=if i<24 then(if i<4 then V i else D i) else 0
  unfold kept;by_cases c:i<4
  .simp[c]
  .simp[c]
 obtain⟨r,h1,h2⟩:=h;rw[h1,h2]
noncomputable section
def allM:Nat->(Nat->Bool)->Bool
 |0,_=>true
 |n+1,f=>allM n f&&f n
theorem aw8 {f:Nat->Bool}:∀n,allM n f=true->∀i,i<n->f i=true
 |0,_,i,hi=>by omega
 |n+1,h,i,hi=>by
  have h:(allM n f&&f n)=true:=h;rw[cK] at h;by_cases e:i=n
  .rw[e];exact h.2
  .exact aw8 n h.1 i (by omega)
def isV (d:Int):Bool:=decide (d=17592186044416)||decide (d=68719476736)||decide (d=67108864)||decide (d=4294967296)||decide (d=17179869184)
theorem aS3 {d:Int}(h:isV d=true):okV d:=by
 unfold isV at h;simp only[afZ,jG] at h;unfold okV;omega
def aZa (U D:Nat->Int)(a:Int)(n:Nat)(V:Nat->Int):Bool:=
 z9 n 4&&decide (a=0)&&allM 276 (λp=>decide (U p=0))&&allM 24 (λi=>isV (D i))&&allM 4 (λi=>isV (V i))
def rsQ:jb:=λU D a n b V w=>bif aZa U D a n V then some ((λ_=>0,λi=>if i<24 then(if i<4 then V i else D i) else 0),b) else cM U D a n b V w
theorem a0F:cM=rsQ:=by
 funext U D a n b V w
 unfold rsQ;cases h:aZa U D a n V
 .rfl
 .unfold aZa at h;simp only[cK,jG] at h;obtain⟨⟨⟨⟨h0,h1⟩,h2⟩,h3⟩,h4⟩:=h;have h0:=lB h0;subst h0;subst h1;refine aO0 U D V b w (λp hp=>db (aw8 _ h2 p hp)) (λi hi=>aS3 (aw8 _ h3 i hi)) (λi hi=>aS3 (aw8 _ h4 i hi))
def aZb (g:jb)(x:mO.B):Option p6:=(uw qd ko aW kE BY eW g fF qN x).val
def a0G (g:jb)(x:oq.B):Option rB:=(xA (aZb g) Ca pg lR x).val
def aZc (g:jb):eo.B->Option iR:=bI (ux (a0G g)) 2000
def aZd (g:jb)(d:gY.B):Option kC:=(uA (aZc g) d).val
def aRI (g:jb)(x:pS.B):Option tO:=(zO jt fR (aZd g) x).val
end
end Go.Proofs.YtldgljclcgaibaaGreat
noncomputable section
namespace Go.Proofs.YtldgljclcgaibaaGreat
open Go.Ab Go.Ab.Pg Go.Ab.Rq
def aw9:=qa (pu nil nil)
def adE:=qe Fv
abbrev axa:=adE.B
abbrev aio:=Option axa
def axb (g:aio):Ct:=(11,FC aw9 (lf adE) (λ_=>g))
def V2:Option axa:=some true
theorem aUG:jm=aRI rsQ:=by
 rw[<-a0F];rfl
theorem aZe [aA]:Snd Tryz.prog (zN (aRI rsQ)):=aUG▸ND
theorem aMh:akX Tryz.prog [YK wZ,at7 Az,aii NH,zN (aRI rsQ),abe abg,Sb zt] ⟨[],[],[],[],none⟩ 2000 11 aw9 (lf adE) λ_=>ret true:=λb=>by kernel_rfl
theorem aMi [aA]:SC (axb V2):=s0 (.c an1 (.c aGz (.c aw5 (.c aZe (.c awU (.c aoc (.nil _))))))) aMh
def NL:=qa (pl (c (aa tU) (c ai (cl (aa asw) nil))) nil)
def afv:=qe aPq
def afw:=qe aXq
abbrev V3:=afv.B⊕afw.B
def axc:V3->T:=ls (lf afv) (lf afw)
abbrev axd:=NL.B->Option V3
def axe (g:axd):Ct:=(70,FC NL axc g)
def lY:=qs (st (pr (us 1 (c ai (us 1 (cu aDA (us 1 (cu (app 1 8) (us 1 (cu ap2 (c ai aVn))))))))) (pl (c aKq (c zX (c aVZ (c aXm (c lg (c lk (c me (cd afQ λb7=>(cd afR λb8=>(cd afS λb9=>(cd afT λb10=>(cd aKo λAv=>(cd (so aP8) λb12=>(c j8 (c aWN (c tT (c (so (cl (gs b7.b.1 aB) nil)) (c (so (cl (gs b8.b.1 aB) nil)) (c (so (cl (gs b9.b.1 aB) nil)) (c (so (cl (gs b10.b.1 aB) nil)) (c (so (cl (gs Av.b.1 aB) nil)) (c (so (cl (gs b12.b.1 aB) nil)) Fy)))))))))))))))))))))) nil)))
def aGS:=qs (st (pr (us 1 (c ai (us 1 (cu aDA (us 1 (cu (app 1 8) (us 1 (cu ap2 (c ai (c ai (us 14 (c ai (c ai (c ai (cl ab (us 80 nil)))))))))))))))) (pl (c aKq (c zX (c aVZ (c aXm (c lg (c lk (c me (c afQ (c afR (c afS (c afT (c aKo (c (so aP8) (c j8 (c aWN xR))))))))))))))) nil)))
abbrev xB:=((Int×Int×Int×Int×Bool)×(Int×Int×Int×Int×Int×Int×Int×Int×Int×Int×Int×Int×Int×Int×Int×Int×NI×NI×Int×Int×Int×Int×Int×Int×Int×Int)×aul×akH×(Fu×Bool×NI×(NI×NI)×(Nat×Nat)×qF×Bool×Int×kG×Bool×Bool×Bool×Int×Int×Int×En×Nat)×(kG×Int×Int)×Ly×Q9×bT×bT×bT×bT×bT×bT×Lu×tt×Fo×cP×cP×cP×cP×cP×cP×Nat×NI×NI×NI×NI×NI×NI×NI×NI×NI×NI×NI)
def aoR {ρ:Type}(x:xB)(K:AX->St->Option ρ):Option ρ:=(λd=>K (.ex 0) (aGS.em ((d.1.1,d.1.2.1,d.1.b.1,d.1.b.1,d.1.2.1,d.1.b.2),d.2.1,d.b.1,d.b.2.1,d.c.1,d.c.2.1,d.c.b.1,d.c.b.2.1,d.d.1,d.d.2.1,d.d.b.1,d.d.b.2.1,d.d.c.1,d.d.c.2.1,d.d.c.b.1,d.d.c.b.2.1,d.e.1,(d.d.1.b.1,d.e.2.1),(d.d.2.1.b.1,d.e.b.1),(d.d.b.1.b.1,d.e.b.2.1),(d.d.b.2.1.b.1,d.e.c.1),(d.d.c.1.b.1,d.e.c.2.1),(d.d.c.2.1.b.1,d.e.c.b.1),d.e.c.b.2))) x
def Zx (ij:jY)(d:lY.B):PL lY xB:=let bh:=d.1.2;let n3:=d.2.2.2.2;let n7:=n3.2.2.2.2;let n5:=n3.1.2.2.2.2;let aT:=n5.2.2.2.2.2.2.2.2.2.2.2.2;let n1:=n7.2.2;let n9:=n1.2.2;let n4:=n9.2.2.2;let n8:=n4.2.2.2.2;let n2:=n8.2.2.2.2.2;let n6:=n2.2.2.2.2.2;let y0:=wI (11+bh.1);let y1:=decide (bh.2<y0);ae y1 (ae (z9 n5.1.2 n5.1.2) (ae (z9 aT aT) (ae (z9 n7.1.2.2.1 n7.1.2.2.1) (ae (z9 n7.2.1.2.2.1 n7.2.1.2.2.1) (ae (z9 n1.1.2.2.1 n1.1.2.2.1) (ae (z9 n1.2.1.2.2.1 n1.2.1.2.2.1) (ae (z9 n9.1.2.2.1 n9.1.2.2.1) (ae (z9 n9.2.1.2.2.1 n9.2.1.2.2.1) (ae (z9 n4.1.2.2 n4.1.2.2) (opt (ij (d.2.2.2.1,(n3.1.1,n3.1.2.1,n3.1.2.2.1,n3.1.2.2.2.1,n5.1.2,n5.2),n3.2.1,n3.2.2.1,(sh8 n5.1.1 n3.2.2.2.1.2),n7.1,n7.2.1,n1.1,n1.2.1,n9.1,n9.2.1,n9.2.2.1,n4.1,(ais 0 n4.2.1.2),(mZ 0 n4.2.2.1),(mZ 0 n4.2.2.2.1),(mZ 0 n8.1),(mZ 0 n8.2.1),(mZ 0 n8.2.2.1),(mZ 0 n8.2.2.2.1),λj=>n2.1 (0+j),λj=>n2.2.1 (0+j),λj=>n2.2.2.1 (0+j),λj=>n2.2.2.2.1 (0+j),λj=>n2.2.2.2.2.1 (0+j),λj=>n6.1 (0+j),λj=>n6.2.1 (0+j),λj=>n6.2.2.1 (0+j),λj=>n6.2.2.2.1 (0+j),λj=>n6.2.2.2.2.1 (0+j),λj=>n6.2.2.2.2.2 (0+j))) λak=>ret (ww ((d.1.1,bh.1,wI (bh.2+1)),d.2.1,d.2.2.1,ak.1.1,ak.1.2,ak.2))) no) no) no) no) no) no) no) no) no) (ret (ws ((d.1.1,bh.1,bh.2,y0,y1),d.2)))
def NM:=bI (Zx dQ) 2000
def lZ:=qs (st (pr (us 5 (cu Uv (us 1 (cu ait (c ai (us 6 aVw)))))) (pl (c zX (c (so (cu (gp 2 434) afD)) (c (so (a 26 tU (c gb (c gJ (a 2 uF (cu (gp 3 5) (cu (gp 4 10) (c (gc (gr (pu rq9 (pr Wd (pl jr (pu Dy gB)))))) (au 6 (cu aIr (cu aDC (cu aDD (cu aDE (cu aMD (cu (gp 11 8) nil)))))) (cu (gp 12 37) (a 4 A5 (cu (gp 13 3) (c gb (c gi (a 3 ld (c gb (c gb (c gb (c gi (c gi (c gi (a 10 zY (cl (gc (gr (pu aDy (pu (ox (pu dJ (pu dJ (nat 10)))) (pl jr (pu (nat 10) gB)))))) nil))))))))))))))))))))))) (c lg (c lk (c me (c (so akW) (c afQ (c afR (c afS (c afT (c aKo (c j8 (c (so (c gi (c gi (cl (gc (gr (pu aum (pu (ox (pu dJ (pu dJ xK))) (pl jr (pu xK gB)))))) nil)))) xR)))))))))))))) nil)))
def aGT:=qs (st (pr (us 5 (cu Uv (us 1 (cu ait (c ai (us 6 (c ai (us 63 (c ai aJ0))))))))) (pl (c zX (c (so (cu (gp 2 434) afD)) (c (so (a 26 tU (c gb (c gJ (a 2 uF (cu (gp 3 5) (cu (gp 4 10) (c (gc (gr (pu rq9 (pr Wd (pl jr (pu Dy gB)))))) (au 6 (cu aIr (cu aDC (cu aDD (cu aDE (cu aMD (cu (gp 11 8) nil)))))) (cu (gp 12 37) (a 4 A5 (cu (gp 13 3) (c gb (c gi (a 3 ld (c gb (c gb (c gb (c gi (c gi (c gi (a 10 zY (cl (gc (gr (pu aDy (pu (ox (pu dJ (pu dJ (nat 10)))) (pl jr (pu (nat 10) gB)))))) nil))))))))))))))))))))))) (c lg (c lk (c me (c (so akW) (c afQ (c afR (c afS (c afT (c aKo (c j8 (c (so (c gi (c gi (cl (gc (gr (pu aum (pu (ox (pu dJ (pu dJ xK))) (pl jr (pu xK gB)))))) nil)))) xR)))))))))))))) nil)))
abbrev xC:=(aIf×aul×akH×(Fu×Bool×NI×(NI×NI)×(Nat×Nat)×qF×Bool×Int×kG×Bool×Bool×Bool×Int×Int×Int×En×Nat)×(kG×Int×Int)×Ly×Q9×bT×bT×bT×bT×bT×bT×Lu×tt×Fo×Fq×Fq×Fq×Fq×Fq×Fq×Nat×NI×NI×NI×NI×NI×NI×NI×NI×NI×NI×NI)
def aoS {ρ:Type}(x:xC)(K:AX->St->Option ρ):Option ρ:=(λd=>K (.ex 2) (aGT.em ((d.1.1,d.1.2.1,d.1.2.1,d.1.1,d.1.b),d.2))) x
def Zy (ij:jY)(d:lZ.B):PL lZ xC:=let n4:=d.2.2.2;let n8:=n4.1.2.2.2.2;let bB:=n8.2.2.2.2.2.2.2.2.2.2.2.2;let n6:=n4.2.2.2.2;let n1:=n6.2.2.2;let n15:=n1.2.2;let n5:=n15.2.2;let bh:=n5.2.2.2.2;let n2:=bh.2.2.2.2.2;let n9:=n2.2.2.2.2.2;let y0:=wI (2+d.1.1);let y1:=decide (d.1.2<y0);ae y1 (ae (z9 n8.1.2 n8.1.2) (ae (z9 bB bB) (ae (z9 n6.1.2.2.1 n6.1.2.2.1) (ae (z9 n6.2.1.2.2.1 n6.2.1.2.2.1) (ae (z9 n6.2.2.1.2.2.1 n6.2.2.1.2.2.1) (ae (z9 n1.1.2.2.1 n1.1.2.2.1) (ae (z9 n1.2.1.2.2.1 n1.2.1.2.2.1) (ae (z9 n15.1.2.2.1 n15.1.2.2.1) (ae (z9 n5.1.2.2 n5.1.2.2) (opt (ij (d.2.2.1,(n4.1.1,n4.1.2.1,n4.1.2.2.1,n4.1.2.2.2.1,n8.1.2,n8.2),n4.2.1,n4.2.2.1,(sh8 n8.1.1 n4.2.2.2.1.2),n6.1,n6.2.1,n6.2.2.1,n1.1,n1.2.1,n15.1,n15.2.1,n5.1,(ais 0 n5.2.1.2),(mZ 0 n5.2.2.1.2),(mZ 0 n5.2.2.2.1.2),(mZ 0 bh.1.2),(mZ 0 bh.2.1.2),(mZ 0 bh.2.2.1.2),(mZ 0 bh.2.2.2.1.2),λj=>n2.1 (0+j),λj=>n2.2.1 (0+j),λj=>n2.2.2.1 (0+j),λj=>n2.2.2.2.1 (0+j),λj=>n2.2.2.2.2.1 (0+j),λj=>n9.1 (0+j),λj=>n9.2.1 (0+j),λj=>n9.2.2.1 (0+j),λj=>n9.2.2.2.1 (0+j),λj=>n9.2.2.2.2.1 (0+j),λj=>n9.2.2.2.2.2 (0+j))) λak=>let aT:=ak.2.2.2.2;let n3:=aT.2.2.2;let bC:=n3.2.2;let n7:=bC.2.2.2.2;let bP:=n7.2.2.2;ret (ww ((d.1.1,wI (d.1.2+1)),d.2.1,ak.1.1,ak.1.2,ak.2.1,ak.2.2.1,ak.2.2.2.1,aT.1,aT.2.1,aT.2.2.1,n3.1,n3.2.1,bC.1,bC.2.1,bC.2.2.1,bC.2.2.2.1,(aT.1.2.2.1,n7.1),(aT.2.1.2.2.1,n7.2.1),(aT.2.2.1.2.2.1,n7.2.2.1),(n3.1.2.2.1,bP.1),(n3.2.1.2.2.1,bP.2.1),(bC.1.2.2.1,bP.2.2.1),bP.2.2.2))) no) no) no) no) no) no) no) no) no) (ret (ws ((d.1.1,d.1.2,y0,y1),d.2)))
def NN:=bI (Zy dQ) 2000
def ma:=qs (st (pr (us 7 (cu xM (c ai (us 7 (cl ai (us 91 nil)))))) (pl (c (so SK) (c (so axB) (c lg (c lk (c me (c (so axz) (c (so akW) (c afQ (c afR (c afS (c afT (c j8 (c (so afM) xR))))))))))))) nil)))
def aGU:=qs (st (pr (us 7 (cu xM (c ai (us 7 (c ai (us 82 (c ai aVS))))))) (pl (c (so SK) (c (so axB) (c lg (c lk (c me (c (so axz) (c (so akW) (c afQ (c afR (c afS (c afT (c j8 (c (so afM) xR))))))))))))) nil)))
abbrev xD:=(aIf×akH×(Fu×Bool×NI×(NI×NI)×(Nat×Nat)×qF×Bool×Int×kG×Bool×Bool×Bool×Int×Int×Int×En×Nat)×(kG×Int×Int)×Ly×Q9×bT×bT×bT×bT×bT×bT×Lu×tt×Fo×Fq×Fq×Fq×Fq×Fq×Fq×Nat×NI×NI×NI×NI×NI×NI×NI×NI×NI×NI×NI)
def aoT {ρ:Type}(x:xD)(K:AX->St->Option ρ):Option ρ:=(λd=>K (.ex 4) (aGU.em ((d.1.1,d.1.2.1,d.1.2.1,d.1.1,d.1.b),d.2))) x
def Zz (ij:jY)(d:ma.B):PL ma xD:=let bh:=d.2.2;let n5:=bh.1.2.2.2;let bB:=n5.2.2.2.2.2.2.2.2.2.2.2.2.2;let n4:=bh.2.2.2.2;let n1:=n4.2.2.2;let n15:=n1.2.2;let n6:=n15.2.2;let aT:=n6.2.2.2.2;let n2:=aT.2.2.2.2.2;let n8:=n2.2.2.2.2.2;let y0:=wI (2+d.1.1);let y1:=decide (d.1.2<y0);ae y1 (ae (z9 n5.2.1.2 n5.2.1.2) (ae (z9 bB bB) (ae (z9 n4.1.2.2.1 n4.1.2.2.1) (ae (z9 n4.2.1.2.2.1 n4.2.1.2.2.1) (ae (z9 n4.2.2.1.2.2.1 n4.2.2.1.2.2.1) (ae (z9 n1.1.2.2.1 n1.1.2.2.1) (ae (z9 n1.2.1.2.2.1 n1.2.1.2.2.1) (ae (z9 n15.1.2.2.1 n15.1.2.2.1) (ae (z9 n6.1.2.2 n6.1.2.2) (opt (ij (d.2.1,(bh.1.1,bh.1.2.1,bh.1.2.2.1,n5.1,n5.2.1.2,n5.2.2),bh.2.1,bh.2.2.1,(sh8 n5.2.1.1 bh.2.2.2.1.2),n4.1,n4.2.1,n4.2.2.1,n1.1,n1.2.1,n15.1,n15.2.1,n6.1,(ais 0 n6.2.1.2),(mZ 0 n6.2.2.1.2),(mZ 0 n6.2.2.2.1.2),(mZ 0 aT.1.2),(mZ 0 aT.2.1.2),(mZ 0 aT.2.2.1.2),(mZ 0 aT.2.2.2.1.2),λj=>n2.1 (0+j),λj=>n2.2.1 (0+j),λj=>n2.2.2.1 (0+j),λj=>n2.2.2.2.1 (0+j),λj=>n2.2.2.2.2.1 (0+j),λj=>n8.1 (0+j),λj=>n8.2.1 (0+j),λj=>n8.2.2.1 (0+j),λj=>n8.2.2.2.1 (0+j),λj=>n8.2.2.2.2.1 (0+j),λj=>n8.2.2.2.2.2 (0+j))) λak=>let n9:=ak.2.2.2.2;let n3:=n9.2.2.2;let bC:=n3.2.2;let n7:=bC.2.2.2.2;let bP:=n7.2.2.2;ret (ww ((d.1.1,wI (d.1.2+1)),ak.1.1,ak.1.2,ak.2.1,ak.2.2.1,ak.2.2.2.1,n9.1,n9.2.1,n9.2.2.1,n3.1,n3.2.1,bC.1,bC.2.1,bC.2.2.1,bC.2.2.2.1,(n9.1.2.2.1,n7.1),(n9.2.1.2.2.1,n7.2.1),(n9.2.2.1.2.2.1,n7.2.2.1),(n3.1.2.2.1,bP.1),(n3.2.1.2.2.1,bP.2.1),(bC.1.2.2.1,bP.2.2.1),bP.2.2.2))) no) no) no) no) no) no) no) no) no) (ret (ws ((d.1.1,d.1.2,y0,y1),d.2)))
def NO:=bI (Zz dQ) 2000
def aip (aO1:aoM)(oP:zn)(wP:MA)(ew:oD)(gf:yT)(Ga:yU)(av:cj)(vy:pR)(dR:LT lY xB)(pD:LT lZ xC)(Km:LT ma xD)(x:NL.B):Pg V3:=let n48:=x.1.2;let bC:=n48.2.2.2;let n47:=bC.1.2.2;let Uf:=bC.2.1.2;opt (aO1 x.1) λd=>ae (match d with|ww val=>true|ws val=>false) (opt (match d with|ww a=>some a|ws val=>none) λd=>ret (ww ())) (opt (match d with|ws b=>some b|ww val=>none) λd=>let Hp:=d.1.2.2;let n17:=Hp.2.2.2.2;let Ip:=n17.2.2.2;let aT:=d.2.2.2;let n23:=aT.2.2.2.2.2;let n4:=Ip.2.2.2.2;let PK:=n4.2.2.2;let bP:=PK.2.2.2.2;let n37:=bP.2.2.2.2;let n1:=n23.2.2.2.2;let n34:=n1.2.1;let n19:=n1.2.2;let n35:=n19.2.1;let n7:=n19.2.2;let n36:=n7.2.1;let n31:=n7.2.2;ae true (ae true (ae true (ae true (ae true (ae true (opt (dR ((x.2.1,wI (t8 n48.1 8000),0),(x.1.1,n48.1,n48.2.1,n48.2.2.1,bC.1.1,bC.1.2.1,n47.1,n47.2.1,n47.2.2.1,n47.2.2.2,bC.2.1.1,Uf.1,Uf.2.1,Uf.2.2.1,Uf.2.2.2.1,Uf.2.2.2.2,bC.2.2),x.2.2,(0,0,false),((d.1.1,d.1.2.1,Hp.1,Hp.2.1,(Hp.2.2.1,Hp.2.2.2.1,n17.1,n17.2.1,n17.2.2.1,Ip.1),(Ip.2.1,Ip.2.2.1,Ip.2.2.2.1,n4.1,n4.2.1,n4.2.2.1),PK.1,PK.2.1,PK.2.2.1,PK.2.2.2.1,bP.1,bP.2.1,bP.2.2.1,bP.2.2.2.1,n37.1,n37.2.1),n37.2.2.1,n37.2.2.2.1,n37.2.2.2.2,(0,0),(0,0,false,false),false,0,(0,0,0),false,false,false,0,0,0,((1073741824,0,0,0),(0,0,0),0,0,0),0),((d.2.1.1,d.2.1.2.1,d.2.1.2.2.1),d.2.1.2.2.2),(d.2.2.1,(0,0,(0,0,0),0,0,0),false),(0,aT.1,aT.1,aT.1,aT.1,aT.1,aT.1,aT.1,aT.1),((0,0,0,0,0),aT.2.1,0, -9223372036854775808),((0,0,0,0,0),aT.2.2.1,0, -9223372036854775808),((0,0,0,0,0),aT.2.2.2.1,0, -9223372036854775808),((0,0,0,0,0),aT.2.2.2.2.1,0, -9223372036854775808),((0,0,0,0,0),n23.1,0, -9223372036854775808),((0,0,0,0,0),n23.2.1,0, -9223372036854775808),(n23.2.2.1,0),(n23.2.2.2.1.1,n23.2.2.2.1.2,0),(0,aT.1,aT.1,aT.1,aT.1,aT.1,aT.1,aT.1,aT.1,aT.1,aT.1),(n1.1,n1.1,n1.1,n1.1,n1.1,n1.1,n1.1,n1.1,n1.1),(n34,n34,n34,n34,n34,n34,n34,n34,n34),(n19.1,n19.1,n19.1,n19.1,n19.1,n19.1,n19.1,n19.1,n19.1),(n35,n35,n35,n35,n35,n35,n35,n35,n35),(n7.1,n7.1,n7.1,n7.1,n7.1,n7.1,n7.1,n7.1,n7.1),(n36,n36,n36,n36,n36,n36,n36,n36,n36),0,n31,n31,n31,n31,n31,n31,n31,n31,n31,n31,n31)) λd=>let n15:=d.2.1.2.2.2.2.2.2.2.2.2.2.2.2.2.2.2.2.2.2.2.2.2.2.2;let bh:=d.2.2.2.2;let n30:=bh.2.2.2.2;let n21:=bh.1.2.2.2.2;let VV:=n21.2.2.2.2.2.2.2.2.2.2.2.2;let n2:=n30.2.2;let GG:=n2.2.2;let n16:=GG.2.2.2;let n38:=n16.2.2.2.2;let n5:=n38.2.2.2.2.2;let n24:=n5.2.2.2.2.2;opt (oP n15.1 n15.2.1 n15.2.2 false) λak=>ae (ak.1.2!=0) (ret (ww ())) (opt (wP d.1.1 ak.2) λaF=>opt (ew aF.1.1 aF.1.2.1 aF.1.2.2.1 aF.1.2.2.2 aF.2) λbA=>opt (wP ak.1.1 bA.2) λcD=>opt (ew cD.1.1 cD.1.2.1 cD.1.2.2.1 cD.1.2.2.2 cD.2) λeU=>opt (gf eU.1 268435456 0 0 eU.2) λc8=>opt (Ga bA.1 c8.1.1 c8.1.2.1 c8.1.2.2 c8.2) λmg=>opt (av mg.1.1 1000000 1073741824 mg.2) λqX=>opt (av mg.1.2.1 1000000 1073741824 qX.2) λpd=>ae (z9 n21.1.2 n21.1.2) (ae (z9 VV VV) (ae (z9 n30.1.2.2.1 n30.1.2.2.1) (ae (z9 n30.2.1.2.2.1 n30.2.1.2.2.1) (ae (z9 n2.1.2.2.1 n2.1.2.2.1) (ae (z9 n2.2.1.2.2.1 n2.2.1.2.2.1) (ae (z9 GG.1.2.2.1 GG.1.2.2.1) (ae (z9 GG.2.1.2.2.1 GG.2.1.2.2.1) (ae (z9 n16.1.2.2 n16.1.2.2) (opt (vy ((3,wI (d.2.2.2.1.1+1),qX.1,pd.1,300000,1000,0,0,0,0),(bh.1.1,bh.1.2.1,bh.1.2.2.1,bh.1.2.2.2.1,n21.1.2,n21.2),bh.2.1,bh.2.2.1,(sh8 n21.1.1 bh.2.2.2.1.2),n30.1,n30.2.1,n2.1,n2.2.1,GG.1,GG.2.1,GG.2.2.1,n16.1,(ais 0 n16.2.1.2),(mZ 0 n16.2.2.1),(mZ 0 n16.2.2.2.1),(mZ 0 n38.1),(mZ 0 n38.2.1),(mZ 0 n38.2.2.1),(mZ 0 n38.2.2.2.1),λj=>n5.1 (0+j),λj=>n5.2.1 (0+j),λj=>n5.2.2.1 (0+j),λj=>n5.2.2.2.1 (0+j),λj=>n5.2.2.2.2.1 (0+j),λj=>n24.1 (0+j),λj=>n24.2.1 (0+j),λj=>n24.2.2.1 (0+j),λj=>n24.2.2.2.1 (0+j),λj=>n24.2.2.2.2.1 (0+j),λj=>n24.2.2.2.2.2 (0+j))) λjh=>let n32:=jh.2.1.2.2;let n25:=jh.2.2.2.2.2;let n8:=n25.2.2.2.2.2;let n49:=n8.2.2;let n26:=n49.2.2.2;opt (pD ((d.1.2.1,0),d.2.2.1,d.2.2.2.1,(jh.2.1.1,jh.2.1.2.1,n32.1,n32.2.1,(0,n32.2.2.1),n32.2.2.2),jh.2.2.1,jh.2.2.2.1,(n32.2.2.1,jh.2.2.2.2.1),n25.1,n25.2.1,n25.2.2.1,n25.2.2.2.1,n25.2.2.2.2.1,n8.1,n8.2.1,n49.1,(n32.2.2.2.2.2.2.2.2.2.2.2.2.2.2,n49.2.1),n49.2.2.1,n26.1,n26.2.1,n26.2.2.1,n26.2.2.2.1,n26.2.2.2.2.1,n49.1.2.2,n26.2.2.2.2.2)) λd=>let bB:=d.2.2.2;let n22:=bB.1.2.2.2.2;let n46:=n22.2.2.2.2.2.2.2.2.2.2.2.2;let n20:=bB.2.2.2.2;let n3:=n20.2.2.2;let n50:=n3.2.2;let n18:=n50.2.2;let n39:=n18.2.2.2.2;let n6:=n39.2.2.2.2.2;let n27:=n6.2.2.2.2.2;ae (z9 n22.1.2 n22.1.2) (ae (z9 n46 n46) (ae (z9 n20.1.2.2.1 n20.1.2.2.1) (ae (z9 n20.2.1.2.2.1 n20.2.1.2.2.1) (ae (z9 n20.2.2.1.2.2.1 n20.2.2.1.2.2.1) (ae (z9 n3.1.2.2.1 n3.1.2.2.1) (ae (z9 n3.2.1.2.2.1 n3.2.1.2.2.1) (ae (z9 n50.1.2.2.1 n50.1.2.2.1) (ae (z9 n18.1.2.2 n18.1.2.2) (opt (vy ((0,wI (d.2.2.1.1+1),d.2.1),(bB.1.1,bB.1.2.1,bB.1.2.2.1,bB.1.2.2.2.1,n22.1.2,n22.2),bB.2.1,bB.2.2.1,(sh8 n22.1.1 bB.2.2.2.1.2),n20.1,n20.2.1,n20.2.2.1,n3.1,n3.2.1,n50.1,n50.2.1,n18.1,(ais 0 n18.2.1.2),(mZ 0 n18.2.2.1.2),(mZ 0 n18.2.2.2.1.2),(mZ 0 n39.1.2),(mZ 0 n39.2.1.2),(mZ 0 n39.2.2.1.2),(mZ 0 n39.2.2.2.1.2),λj=>n6.1 (0+j),λj=>n6.2.1 (0+j),λj=>n6.2.2.1 (0+j),λj=>n6.2.2.2.1 (0+j),λj=>n6.2.2.2.2.1 (0+j),λj=>n27.1 (0+j),λj=>n27.2.1 (0+j),λj=>n27.2.2.1 (0+j),λj=>n27.2.2.2.1 (0+j),λj=>n27.2.2.2.2.1 (0+j),λj=>n27.2.2.2.2.2 (0+j))) λqc=>let n33:=qc.2.1.2.2;let n28:=qc.2.2.2.2.2;let n9:=n28.2.2.2.2.2;let n51:=n9.2.2;let n29:=n51.2.2.2;opt (Km ((d.1.1,0),d.2.2.1,(qc.2.1.1,qc.2.1.2.1,n33.1,n33.2.1,(0,n33.2.2.1),n33.2.2.2),qc.2.2.1,qc.2.2.2.1,(n33.2.2.1,qc.2.2.2.2.1),n28.1,n28.2.1,n28.2.2.1,n28.2.2.2.1,n28.2.2.2.2.1,n9.1,n9.2.1,n51.1,(n33.2.2.2.2.2.2.2.2.2.2.2.2.2.2,n51.2.1),n51.2.2.1,n29.1,n29.2.1,n29.2.2.1,n29.2.2.2.1,n29.2.2.2.2.1,n51.1.2.2,n29.2.2.2.2.2)) λd=>ret (ws d.2)) no) no) no) no) no) no) no) no) no) no) no) no) no) no) no) no) no) no)) no) no) no) no) no) no)
def NP:=λx=>(aip SG jy wC ja mi sI aU eX NM NN NO x).val
abbrev HB:=aoM×jY×zn×MA×oD×yT×yU×cj×pR×(LT lY xB)×(LT lZ xC)×(LT ma xD)
def NQ (p:HB):KK:=⟨[aB0 p.1,Ds p.2.1,Gw p.b.1,XE p.b.2.1,Bo p.c.1,G4 p.c.2.1,Rv p.c.b.1,cZ p.c.b.2.1,Dp p.d.1],⟨[⟨6,(0::2::4::6::rg 10 98 []),[(0,[])]⟩,⟨17,(rg 0 5 (6::rg 9 6 (rg 16 92 []))),[(0,[])]⟩,⟨22,(rg 0 7 (rg 9 7 (rg 17 91 []))),[(0,[])]⟩],[fQ 6 0 lY aoR p.d.2.1,fQ 17 0 lZ aoS p.d.b.1,fQ 22 0 ma aoT p.d.b.2],[],[],(some ⟨0,(rg 0 6 (rg 7 101 [])),[]⟩)⟩,0,70⟩
theorem aDd (p:HB):LI (NQ p) 6 lY aoR (Zx p.2.1):=λ_ d c K=>by kernel_rfl
theorem aDe (p:HB):LI (NQ p) 17 lZ aoS (Zy p.2.1):=λ_ d c K=>by kernel_rfl
theorem aDf (p:HB):LI (NQ p) 22 ma aoT (Zz p.2.1):=λ_ d c K=>by kernel_rfl
theorem aMj (p:HB):D2 (NQ p) NL axc λb=>aip p.1 p.b.1 p.b.2.1 p.c.1 p.c.2.1 p.c.b.1 p.c.b.2.1 p.d.1 p.d.2.1 p.d.b.1 p.d.b.2 b:=λb=>by kernel_rfl
abbrev NR:HB:=(SG,dQ,jy,wC,ja,mi,sI,aU,eX,NM,NN,NO)
theorem aMk [aA]:SC (axe NP):=sc (kS (k:=NQ NR) (.c aOV (.c KV (.c R7 (.c amy (.c Ef (.c Mr (.c aaz (.c dm (.c NC (.nil _)))))))))) [6,17,22] [] ⟨kL (aDd NR),⟨kL (aDe NR),⟨kL (aDf NR),trivial⟩⟩⟩ trivial (aMj NR))
def axf:=qa (pl iA nil)
def afx:=qe aPq
def afy:=qe aXq
abbrev V4:=afx.B⊕afy.B
def axg:V4->T:=ls (lf afx) (lf afy)
abbrev aiq:=Int->Option V4
def axh (g:aiq):Ct:=(34,FC axf axg (λb=>g b))
def air (NS:anZ)(V5:axd)(x0:Int):Pg V4:=opt NS λd=>let n3:=d.2.2.2;let n1:=n3.2.2.2;let n2:=n1.2.2.2;opt (V5 ((8000,0,16,5,(d.1,d.2.1,d.2.2.1,n3.1,n3.2.1,n3.2.2.1),(n1.1,n1.2.1,n1.2.2.1,n2.1,n2.2.1,n2.2.2.1),n2.2.2.2.1,n2.2.2.2.2,5000000,68719476736,x0,268435456,32,0,0,0),0,0,0,0,0,0,0,1000,100)) λd=>ae (match d with|ww val=>true|ws val=>false) (opt (match d with|ww a=>some a|ws val=>none) λd=>ret (ww ())) (opt (match d with|ws b=>some b|ww val=>none) λd=>ret (ws d))
def NT:=λx0=>(air wZ NP x0).val
theorem aMl:∀NS V5,D0 [YK NS,axe V5] 34 axf axg λb=>air NS V5 b:=λ_ _ b=>by kernel_rfl
theorem aMm [aA]:SC (axh NT):=s0 (.c an1 (.c aMk (.nil _))) (aMl wZ NP)
def oW:=qa (pl (c axA A4) nil)
def NU:=qe Fv
abbrev Qi:=NU.B
abbrev azn:=oW.B->Option Qi
def azo (g:azn):Ct:=(8,FC oW (lf NU) g)
def gy:=qs (st (pr (c axA (c ai (c ai (us 1 (xs 2 (us 1 (cu xM aVm))))))) (pl (c (so SK) (c (so axB) (c lg (c lk (c me (c (so axz) (c (so akW) (c afQ (c afR (c afS (c afT (c j8 (c (so afM) xR))))))))))))) nil)))
def akE:=qs (st (pr (c axA (c ai (c ai (us 1 (xs 2 (us 1 (cu xM (c ai (us 27 (c ai (c axA (c ai (c ab (cu J1 (c ai (c ab (cl ab (us 87 nil)))))))))))))))))) (pl (c (so SK) (c (so axB) (c lg (c lk (c me (c (so axz) (c (so akW) (c afQ (c afR (c afS (c afT (c j8 (c (so afM) xR))))))))))))) nil)))
def akF:=qs (st (pr (c axA (c ai (c ai (us 1 (xs 2 (us 1 (cu xM (c ai (us 27 (c ai (c axA (c ai (cl ab (cu tQ (xs 2 (cu tQ (us 87 nil))))))))))))))))) (pl (c (so SK) (c (so axB) (c lg (c lk (c me (c (so axz) (c (so akW) (c afQ (c afR (c afS (c afT (c j8 (c (so afM) xR))))))))))))) nil)))
abbrev rF:=((a0O×Int×Int×Int×Int×Bool×Bool)×akH×(Fu×Bool×NI×(NI×NI)×(Nat×Nat)×qF×Bool×Int×kG×Bool×Bool×Bool×Int×Int×Int×En×Nat)×(kG×Int×Int)×Ly×Q9×bT×bT×bT×bT×bT×bT×Lu×tt×Fo×Fq×Fq×Fq×Fq×Fq×Fq×Nat×NI×NI×NI×NI×NI×NI×NI×NI×NI×NI×NI)⊕((a0O×Int×Int×Int×Int×Bool)×akH×(Fu×Bool×NI×(NI×NI)×(Nat×Nat)×qF×Bool×Int×kG×Bool×Bool×Bool×Int×Int×Int×En×Nat)×(kG×Int×Int)×Ly×Q9×bT×bT×bT×bT×bT×bT×Lu×tt×Fo×Fq×Fq×Fq×Fq×Fq×Fq×Nat×NI×NI×NI×NI×NI×NI×NI×NI×NI×NI×NI)
def ZA {ρ:Type}(x:rF)(K:AX->St->Option ρ):Option ρ:=(Sum.elim (λd=>K (.ex 0) (akE.em ((d.1.1,d.1.2.1,d.1.b.1,d.1.b.2.1,d.1.b.2.1,d.1.1,d.1.c.1,d.1.c.2.1,d.1.b.2.1,d.1.c.b,d.1.c.b),d.2))) (λd=>K (.ex 0) (akF.em ((d.1.1,d.1.2.1,d.1.b.1,d.1.b.2.1,d.1.b.2.1,d.1.1,d.1.c),d.2)))) x
def KW (axi:NK)(ij:jY)(d:gy.B):PL gy rF:=let n50:=d.2.2;let n47:=d.1.1;let n33:=d.1.2.2;let n27:=n47.2.2.2;let n65:=n27.2.2.2;let n17:=n50.1.2.2.2;let n53:=n17.2.2.2.2.2.2.2.2.2.2.2.2.2;let bP:=n50.2.2.2.2;let n8:=n65.2.2.2;let n28:=n8.2.2.2.2.2;let n66:=n28.2.2.2;let n4:=bP.2.2.2;let n76:=n4.2.2;let n21:=n76.2.2;let n48:=n21.2.2.2.2;let n7:=n48.2.2.2.2.2;let n34:=n7.2.2.2.2.2;let n1:=(n47,d.1.2.1,n33.1,wI (n33.2+1));let y0:=z4 n33.2;let y1:=wr n47.1;let y2:=decide (n33.2<6);let y3:=decide (n33.2<y1);ae y3 (ae y2 (ae (bg n33.2 n47.1) (ae (n47.2.1 y0==1) (ae (z9 n17.2.1.2 n17.2.1.2) (ae (z9 n53 n53) (ae (z9 bP.1.2.2.1 bP.1.2.2.1) (ae (z9 bP.2.1.2.2.1 bP.2.1.2.2.1) (ae (z9 bP.2.2.1.2.2.1 bP.2.2.1.2.2.1) (ae (z9 n4.1.2.2.1 n4.1.2.2.1) (ae (z9 n4.2.1.2.2.1 n4.2.1.2.2.1) (ae (z9 n76.1.2.2.1 n76.1.2.2.1) (ae (z9 n21.1.2.2 n21.1.2.2) (opt (axi ((n47.2.1 y0,n47.2.2.1 y0,n27.1 y0,(n27.2.1 y0,n27.2.2.1 y0,(n65.1 y0,n65.2.1 y0,n65.2.2.1 y0),n8.1 y0,n8.2.1 y0,n8.2.2.1 y0),wI (wI (d.2.1.1+1)+wI (wr (BitVec.toNat (BitVec.ofInt 64 (n8.2.2.2.1 y0)&&&BitVec.ofInt 64 1023)))),n8.2.2.2.2.1 y0,n28.1 y0,n28.2.1 y0,n28.2.2.1 y0,n66.1 y0,n66.2.1 y0,n66.2.2.1 y0,n66.2.2.2 y0),d.2.1,(n50.1.1,n50.1.2.1,n50.1.2.2.1,n17.1,n17.2.1.2,n17.2.2),n50.2.1,n50.2.2.1,(sh8 n17.2.1.1 n50.2.2.2.1.2),bP.1,bP.2.1,bP.2.2.1,n4.1,n4.2.1,n76.1,n76.2.1,n21.1,(ais 0 n21.2.1.2),(mZ 0 n21.2.2.1.2),(mZ 0 n21.2.2.2.1.2),(mZ 0 n48.1.2),(mZ 0 n48.2.1.2),(mZ 0 n48.2.2.1.2),(mZ 0 n48.2.2.2.1.2),λj=>n7.1 (0+j),λj=>n7.2.1 (0+j),λj=>n7.2.2.1 (0+j),λj=>n7.2.2.2.1 (0+j),λj=>n7.2.2.2.2.1 (0+j),λj=>n34.1 (0+j),λj=>n34.2.1 (0+j),λj=>n34.2.2.1 (0+j),λj=>n34.2.2.2.1 (0+j),λj=>n34.2.2.2.2.1 (0+j),λj=>n34.2.2.2.2.2 (0+j))) λak=>ae (match ak with|ww val=>true|ws val=>false) (opt (match ak with|ww a=>some a|ws val=>none) λaF=>let n46:=aF.1.2.2.2.2.2;let n55:=n46.2.2.2.2.2.2.2.2.2.2.2.2;let n18:=aF.2.2.2;let n49:=n18.1.2.2.2;let bB:=n18.2.2.2;let Ip:=bB.2.2.2;let n3:=Ip.2.2.2;let n62:=n3.2.2;let n35:=n3.1.2.2.2.2;let n29:=n3.2.1.2.2.2;let n67:=n29.2.2.2;let n22:=n62.1.2.2.2;let n68:=n22.2.2.2;let n19:=n62.2.1.2.2;let n56:=n19.2.2.2;let n5:=n62.2.2;let n54:=n5.2.2;let n36:=n5.1.2.2.2.2;let n30:=n5.2.1.2.2.2;let n69:=n30.2.2.2;let n23:=n54.1.2.2.2;let n70:=n23.2.2.2;let n20:=n54.2.2.2.2;let n57:=n20.2.2.2;ae (z9 n46.1 n46.1) (ae (z9 n55 n55) (ae (z9 n18.2.1.2.2.1 n18.2.1.2.2.1) (ae (z9 n18.2.2.1.2.2.1 n18.2.2.1.2.2.1) (ae (z9 bB.1.2.2.1 bB.1.2.2.1) (ae (z9 bB.2.1.2.2.1 bB.2.1.2.2.1) (ae (z9 bB.2.2.1.2.2.1 bB.2.2.1.2.2.1) (ae (z9 Ip.1.2.2.1 Ip.1.2.2.1) (ae (z9 Ip.2.2.1.2.2 Ip.2.2.1.2.2) (opt (ij (aF.1.1,aF.1.2,aF.2.1,aF.2.2.1,(λj=>n18.1.1 (0+j),λj=>n18.1.2.1 (0+j),λj=>n18.1.2.2.1 (0+j),λj=>n49.1 (0+j),λj=>n49.2.1 (0+j),λj=>n49.2.2.1 (0+j),λj=>n49.2.2.2.1 (0+j),λj=>(n49.2.2.2.2,()).1 (0+j)),n18.2.1,n18.2.2.1,bB.1,bB.2.1,bB.2.2.1,Ip.1,Ip.2.1,Ip.2.2.1,(λj=>n3.1.1 (0+j),λj=>n3.1.2.1 (0+j),λj=>n3.1.2.2.1 (0+j),λj=>n3.1.2.2.2.1 (0+j),λj=>n35.1 (0+j),λj=>n35.2.1 (0+j),λj=>n35.2.2.1 (0+j),λj=>n35.2.2.2.1 (0+j),λj=>n35.2.2.2.2.1 (0+j),λj=>(n35.2.2.2.2.2,()).1 (0+j)),(λj=>n3.2.1.2.1 (0+j),λj=>n3.2.1.2.2.1 (0+j),λj=>n29.1 (0+j),λj=>n29.2.1 (0+j),λj=>n29.2.2.1 (0+j),λj=>n67.1 (0+j),λj=>n67.2.1 (0+j),λj=>n67.2.2.1 (0+j),λj=>(n67.2.2.2,()).1 (0+j)),(λj=>n62.1.2.1 (0+j),λj=>n62.1.2.2.1 (0+j),λj=>n22.1 (0+j),λj=>n22.2.1 (0+j),λj=>n22.2.2.1 (0+j),λj=>n68.1 (0+j),λj=>n68.2.1 (0+j),λj=>n68.2.2.1 (0+j),λj=>(n68.2.2.2,()).1 (0+j)),(λj=>n62.2.1.2.1 (0+j),λj=>n19.1 (0+j),λj=>n19.2.1 (0+j),λj=>n19.2.2.1 (0+j),λj=>n56.1 (0+j),λj=>n56.2.1 (0+j),λj=>n56.2.2.1 (0+j),λj=>n56.2.2.2.1 (0+j),λj=>(n56.2.2.2.2,()).1 (0+j)),(λj=>n5.1.2.1 (0+j),λj=>n5.1.2.2.1 (0+j),λj=>n5.1.2.2.2.1 (0+j),λj=>n36.1 (0+j),λj=>n36.2.1 (0+j),λj=>n36.2.2.1 (0+j),λj=>n36.2.2.2.1 (0+j),λj=>n36.2.2.2.2.1 (0+j),λj=>(n36.2.2.2.2.2,()).1 (0+j)),(λj=>n5.2.1.2.1 (0+j),λj=>n5.2.1.2.2.1 (0+j),λj=>n30.1 (0+j),λj=>n30.2.1 (0+j),λj=>n30.2.2.1 (0+j),λj=>n69.1 (0+j),λj=>n69.2.1 (0+j),λj=>n69.2.2.1 (0+j),λj=>(n69.2.2.2,()).1 (0+j)),(λj=>n54.1.2.1 (0+j),λj=>n54.1.2.2.1 (0+j),λj=>n23.1 (0+j),λj=>n23.2.1 (0+j),λj=>n23.2.2.1 (0+j),λj=>n70.1 (0+j),λj=>n70.2.1 (0+j),λj=>n70.2.2.1 (0+j),λj=>(n70.2.2.2,()).1 (0+j)),λj=>n54.2.1 (0+j),λj=>n54.2.2.1 (0+j),λj=>n54.2.2.2.1 (0+j),λj=>n20.1 (0+j),λj=>n20.2.1 (0+j),λj=>n20.2.2.1 (0+j),λj=>n57.1 (0+j),λj=>n57.2.1 (0+j),λj=>n57.2.2.1 (0+j),λj=>n57.2.2.2.1 (0+j),λj=>(n57.2.2.2.2,()).1 (0+j))) λbA=>let GG:=bA.2.2.2.2;let aT:=GG.2.2.2;let n63:=aT.2.2;let n24:=n63.2.2.2.2;let n71:=n24.2.2.2;ret (ww (n1,bA.1.1,bA.1.2,bA.2.1,bA.2.2.1,bA.2.2.2.1,GG.1,GG.2.1,GG.2.2.1,aT.1,aT.2.1,n63.1,n63.2.1,n63.2.2.1,n63.2.2.2.1,(GG.1.2.2.1,n24.1),(GG.2.1.2.2.1,n24.2.1),(GG.2.2.1.2.2.1,n24.2.2.1),(aT.1.2.2.1,n71.1),(aT.2.1.2.2.1,n71.2.1),(n63.1.2.2.1,n71.2.2.1),n71.2.2.2))) no) no) no) no) no) no) no) no) no) (opt (match ak with|ws b=>some b|ww val=>none) λaF=>let n72:=aF.2.1.2;let bC:=n72.2.2.2;let n58:=bC.2.2.2.2.2.2.2.2.2.2.2.2;let n52:=bC.1.1;let n9:=aF.2.2.2.2;let n59:=n9.2.2;let PK:=n9.1.2.2.2;let n15:=n59.2.2;let n51:=n15.2.2;let n2:=n51.2.2.2;let n37:=n2.2.1.2.2.2;let n31:=n2.1.2.2.2.2;let n73:=n31.2.2.2;let n25:=n2.2.2;let Uf:=n25.1.2.2.2;let n38:=n25.2.1.2.2.2;let n6:=n25.2.2;let n60:=n6.2.2;let VV:=n6.1.2.2.2;let n39:=n6.2.1.2.2.2;let n32:=n60.1.2.2;let n74:=n32.2.2.2;let n16:=n60.2.2.2.2.2;let n61:=n16.2.2.2;ae (z9 bC.1.2 bC.1.2) (ae (z9 n58 n58) (ae (z9 n9.2.1.2.2.1 n9.2.1.2.2.1) (ae (z9 n59.1.2.2.1 n59.1.2.2.1) (ae (z9 n59.2.1.2.2.1 n59.2.1.2.2.1) (ae (z9 n15.1.2.2.1 n15.1.2.2.1) (ae (z9 n15.2.1.2.2.1 n15.2.1.2.2.1) (ae (z9 n51.1.2.2.1 n51.1.2.2.1) (ae (z9 n51.2.2.1.2.2 n51.2.2.1.2.2) (opt (ij (aF.1,(aF.2.1.1,n72.1,n72.2.1,n72.2.2.1,bC.1.2,bC.2),aF.2.2.1,aF.2.2.2.1,(λj=>n9.1.2.1 (n52+j),λj=>n9.1.2.2.1 (n52+j),λj=>PK.1 (n52+j),λj=>PK.2.1 (n52+j),λj=>PK.2.2.1 (n52+j),λj=>PK.2.2.2.1 (n52+j),λj=>PK.2.2.2.2.1 (n52+j),λj=>(PK.2.2.2.2.2,()).1 (n52+j)),n9.2.1,n59.1,n59.2.1,n15.1,n15.2.1,n51.1,n51.2.1,n51.2.2.1,(λj=>n2.1.2.1 (0+j),λj=>n2.1.2.2.1 (0+j),λj=>n2.1.2.2.2.1 (0+j),λj=>n31.1 (0+j),λj=>n31.2.1 (0+j),λj=>n31.2.2.1 (0+j),λj=>n73.1 (0+j),λj=>n73.2.1 (0+j),λj=>n73.2.2.1 (0+j),λj=>(n73.2.2.2,()).1 (0+j)),(λj=>n2.2.1.1 (0+j),λj=>n2.2.1.2.1 (0+j),λj=>n2.2.1.2.2.1 (0+j),λj=>n37.1 (0+j),λj=>n37.2.1 (0+j),λj=>n37.2.2.1 (0+j),λj=>n37.2.2.2.1 (0+j),λj=>n37.2.2.2.2.1 (0+j),λj=>(n37.2.2.2.2.2,()).1 (0+j)),(λj=>n25.1.1 (0+j),λj=>n25.1.2.1 (0+j),λj=>n25.1.2.2.1 (0+j),λj=>Uf.1 (0+j),λj=>Uf.2.1 (0+j),λj=>Uf.2.2.1 (0+j),λj=>Uf.2.2.2.1 (0+j),λj=>Uf.2.2.2.2.1 (0+j),λj=>(Uf.2.2.2.2.2,()).1 (0+j)),(λj=>n25.2.1.1 (0+j),λj=>n25.2.1.2.1 (0+j),λj=>n25.2.1.2.2.1 (0+j),λj=>n38.1 (0+j),λj=>n38.2.1 (0+j),λj=>n38.2.2.1 (0+j),λj=>n38.2.2.2.1 (0+j),λj=>n38.2.2.2.2.1 (0+j),λj=>(n38.2.2.2.2.2,()).1 (0+j)),(λj=>n6.1.1 (0+j),λj=>n6.1.2.1 (0+j),λj=>n6.1.2.2.1 (0+j),λj=>VV.1 (0+j),λj=>VV.2.1 (0+j),λj=>VV.2.2.1 (0+j),λj=>VV.2.2.2.1 (0+j),λj=>VV.2.2.2.2.1 (0+j),λj=>(VV.2.2.2.2.2,()).1 (0+j)),(λj=>n6.2.1.1 (0+j),λj=>n6.2.1.2.1 (0+j),λj=>n6.2.1.2.2.1 (0+j),λj=>n39.1 (0+j),λj=>n39.2.1 (0+j),λj=>n39.2.2.1 (0+j),λj=>n39.2.2.2.1 (0+j),λj=>n39.2.2.2.2.1 (0+j),λj=>(n39.2.2.2.2.2,()).1 (0+j)),(λj=>n60.1.1 (0+j),λj=>n60.1.2.1 (0+j),λj=>n32.1 (0+j),λj=>n32.2.1 (0+j),λj=>n32.2.2.1 (0+j),λj=>n74.1 (0+j),λj=>n74.2.1 (0+j),λj=>n74.2.2.1 (0+j),λj=>(n74.2.2.2,()).1 (0+j)),λj=>n60.2.2.1 (0+j),λj=>n60.2.2.2.1 (0+j),λj=>n60.2.2.2.2.1 (0+j),λj=>n16.1 (0+j),λj=>n16.2.1 (0+j),λj=>n16.2.2.1 (0+j),λj=>n61.1 (0+j),λj=>n61.2.1 (0+j),λj=>n61.2.2.1 (0+j),λj=>n61.2.2.2.1 (0+j),λj=>(n61.2.2.2.2,()).1 (0+j))) λbA=>let Hp:=bA.2.2.2.2;let bh:=Hp.2.2.2;let n64:=bh.2.2;let n26:=n64.2.2.2.2;let n75:=n26.2.2.2;ret (ww (n1,bA.1.1,bA.1.2,bA.2.1,bA.2.2.1,bA.2.2.2.1,Hp.1,Hp.2.1,Hp.2.2.1,bh.1,bh.2.1,n64.1,n64.2.1,n64.2.2.1,n64.2.2.2.1,(Hp.1.2.2.1,n26.1),(Hp.2.1.2.2.1,n26.2.1),(Hp.2.2.1.2.2.1,n26.2.2.1),(bh.1.2.2.1,n75.1),(bh.2.1.2.2.1,n75.2.1),(n64.1.2.2.1,n75.2.2.1),n75.2.2.2))) no) no) no) no) no) no) no) no) no)) no) no) no) no) no) no) no) no) no) (ret (ww (n1,d.2)))) no) (ret (ws (ww ((n47,d.1.2.1,n33.1,n33.2,y1,y3,y2),d.2))))) (ret (ws (ws ((n47,d.1.2.1,n33.1,n33.2,y1,y3),d.2))))
def Dv:=bI (KW mY dQ) 2000
def gA:=qs (st (pr (us 4 (xs 2 (us 5 (cu (app 0 300) (cu LA (c ai (c ai (c ai (cl ai (us 114 nil)))))))))) (pl (c gC (cl bE nil)) nil)))
def Ol:=qs (st (pu (us 6 (cu J1 (us 124 nil))) (pu nil nil)))
def akG:=qs (st (pr (us 4 (xs 2 (us 5 (cu (app 0 300) (cu LA (c ai (c ai (c ai (c ai (us 84 (c ai (cl ab (us 28 nil))))))))))))) (pl (c gC (cl bE nil)) nil)))
abbrev rG:=Ol.B⊕((Int×Int×Int×Int×Bool)×(NI×NI)×Bool)
def ZB {ρ:Type}(x:rG)(K:AX->St->Option ρ):Option ρ:=(Sum.elim (λd=>K .ret (Ol.em d)) (λd=>K (.ex 2) (akG.em ((d.1.1,d.1.2.1,d.1.b.1,d.1.b.2.1,d.1.b.2),d.2)))) x
def KX (d:gA.B):PL gA rG:=let n1:=d.1.2.2;let y0:=z4 n1.2;let y1:=bg n1.2 276;let y2:=wl (0+y0*1+1) 276;let y3:=decide (n1.2<276);ae y3 (ae y1 (ae y2 (ae (decide (d.2.1.1 y0>1125899906842624)) (ret (ws (ww ()))) (ae y1 (ae y2 (ae (decide (d.2.1.1 y0< -1125899906842624)) (ret (ws (ww ()))) (ret (ww ((d.1.1,d.1.2.1,n1.1,wI (n1.2+1)),d.2)))) no) no)) no) no) (ret (ws (ws ((d.1.1,d.1.2.1,n1.1,n1.2,y3),d.2))))
def Dw:=bI (KX) 2000
def Qj (aMn:aio)(aMo:aiq)(Va:IA)(Wb:azj)(c7:GX)(dR:LT gy rF)(pD:LT gA rG)(x:oW.B):Pg Qi:=opt aMn λd=>ae (!d) (ret false) (ae (decide (x.2.1<0)) (ret true) (ae (decide (x.2.1>23)) (ret true) (ae (decide (x.2.2<0)) (ret true) (ae (decide (x.2.2>23)) (ret true) (opt (aMo 0) λd=>ae (match d with|ww val=>true|ws val=>false) (opt (match d with|ww a=>some a|ws val=>none) λd=>ret false) (opt (match d with|ws b=>some b|ww val=>none) λd=>opt (dR ((x.1,x.2.1,x.2.2,0),d)) λx=>sum x (λd=>let n19:=d.1.2;let n15:=d.2.2;let n7:=n15.1.2.2.2;let n17:=n7.2.2.2.2.2.2.2.2.2.2.2.2.2;let n5:=n15.2.2.2.2;let n1:=n5.2.2.2;let n21:=n1.2.2;let n9:=n21.2.2;let bC:=n9.2.2.2.2;let n3:=bC.2.2.2.2.2;let bh:=n3.2.2.2.2.2;ae (z9 n7.2.1.2 n7.2.1.2) (ae (z9 n17 n17) (ae (z9 n5.1.2.2.1 n5.1.2.2.1) (ae (z9 n5.2.1.2.2.1 n5.2.1.2.2.1) (ae (z9 n5.2.2.1.2.2.1 n5.2.2.1.2.2.1) (ae (z9 n1.1.2.2.1 n1.1.2.2.1) (ae (z9 n1.2.1.2.2.1 n1.2.1.2.2.1) (ae (z9 n21.1.2.2.1 n21.1.2.2.1) (ae (z9 n9.1.2.2 n9.1.2.2) (opt (Va ((n15.1.1,n15.1.2.1,n15.1.2.2.1,n7.1,n7.2.1.2,n7.2.2),n15.2.1,n15.2.2.1,(sh8 n7.2.1.1 n15.2.2.2.1.2),n5.1,n5.2.1,n5.2.2.1,n1.1,n1.2.1,n21.1,n21.2.1,n9.1,(ais 0 n9.2.1.2),(mZ 0 n9.2.2.1.2),(mZ 0 n9.2.2.2.1.2),(mZ 0 bC.1.2),(mZ 0 bC.2.1.2),(mZ 0 bC.2.2.1.2),(mZ 0 bC.2.2.2.1.2),λj=>n3.1 (0+j),λj=>n3.2.1 (0+j),λj=>n3.2.2.1 (0+j),λj=>n3.2.2.2.1 (0+j),λj=>n3.2.2.2.2.1 (0+j),λj=>bh.1 (0+j),λj=>bh.2.1 (0+j),λj=>bh.2.2.1 (0+j),λj=>bh.2.2.2.1 (0+j),λj=>bh.2.2.2.2.1 (0+j),λj=>bh.2.2.2.2.2 (0+j))) λak=>opt (Wb ak.2.1 ak.2.2 n19.1 n19.2.1 false) λaF=>opt (Wb ak.2.1 ak.2.2 n19.1 n19.1 aF.2) λbA=>opt (Wb ak.2.1 ak.2.2 n19.2.1 n19.2.1 bA.2) λd=>ae (decide (bA.1<0)) (ret false) (ae (decide (d.1<0)) (ret false) (opt (pD ((aF.1,bA.1,d.1,0),ak.2,d.2)) λx=>sum x (λd=>ret true) λd=>ae d.2.2 (ret true) (opt (c7 d.1.1) λcD=>ret (decide (wI (2*cD)<=wI (wI (d.1.2.1+d.1.2.2.1)+4294967296))))))) no) no) no) no) no) no) no) no) no) λd=>let n20:=d.1.2;let n16:=d.2.2;let n8:=n16.1.2.2.2;let n18:=n8.2.2.2.2.2.2.2.2.2.2.2.2.2;let n6:=n16.2.2.2.2;let n2:=n6.2.2.2;let n22:=n2.2.2;let aT:=n22.2.2;let bP:=aT.2.2.2.2;let n4:=bP.2.2.2.2.2;let bB:=n4.2.2.2.2.2;ae (z9 n8.2.1.2 n8.2.1.2) (ae (z9 n18 n18) (ae (z9 n6.1.2.2.1 n6.1.2.2.1) (ae (z9 n6.2.1.2.2.1 n6.2.1.2.2.1) (ae (z9 n6.2.2.1.2.2.1 n6.2.2.1.2.2.1) (ae (z9 n2.1.2.2.1 n2.1.2.2.1) (ae (z9 n2.2.1.2.2.1 n2.2.1.2.2.1) (ae (z9 n22.1.2.2.1 n22.1.2.2.1) (ae (z9 aT.1.2.2 aT.1.2.2) (opt (Va ((n16.1.1,n16.1.2.1,n16.1.2.2.1,n8.1,n8.2.1.2,n8.2.2),n16.2.1,n16.2.2.1,(sh8 n8.2.1.1 n16.2.2.2.1.2),n6.1,n6.2.1,n6.2.2.1,n2.1,n2.2.1,n22.1,n22.2.1,aT.1,(ais 0 aT.2.1.2),(mZ 0 aT.2.2.1.2),(mZ 0 aT.2.2.2.1.2),(mZ 0 bP.1.2),(mZ 0 bP.2.1.2),(mZ 0 bP.2.2.1.2),(mZ 0 bP.2.2.2.1.2),λj=>n4.1 (0+j),λj=>n4.2.1 (0+j),λj=>n4.2.2.1 (0+j),λj=>n4.2.2.2.1 (0+j),λj=>n4.2.2.2.2.1 (0+j),λj=>bB.1 (0+j),λj=>bB.2.1 (0+j),λj=>bB.2.2.1 (0+j),λj=>bB.2.2.2.1 (0+j),λj=>bB.2.2.2.2.1 (0+j),λj=>bB.2.2.2.2.2 (0+j))) λak=>opt (Wb ak.2.1 ak.2.2 n20.1 n20.2.1 false) λaF=>opt (Wb ak.2.1 ak.2.2 n20.1 n20.1 aF.2) λbA=>opt (Wb ak.2.1 ak.2.2 n20.2.1 n20.2.1 bA.2) λd=>ae (decide (bA.1<0)) (ret false) (ae (decide (d.1<0)) (ret false) (opt (pD ((aF.1,bA.1,d.1,0),ak.2,d.2)) λx=>sum x (λd=>ret true) λd=>ae d.2.2 (ret true) (opt (c7 d.1.1) λcD=>ret (decide (wI (2*cD)<=wI (wI (d.1.2.1+d.1.2.2.1)+4294967296))))))) no) no) no) no) no) no) no) no) no))))))
def wc:=λx=>(Qj V2 NT AW BN pV Dv Dw x).val
abbrev BO:=aio×aiq×NK×jY×IA×azj×GX×(LT gy rF)×(LT gA rG)
def HC (p:BO):KK:=⟨[axb p.1,axh p.2.1,abv p.b.1,Ds p.b.2.1,U5 p.c.1,aJF p.c.2.1,V8 p.c.b.1],⟨[⟨9,(3::6::rg 9 122 []),[(0,[])]⟩,⟨24,(rg 0 4 (rg 6 5 (rg 17 114 []))),[(0,[])]⟩],[fQ 9 0 gy ZA p.c.b.2.1,fQ 24 0 gA ZB p.d],[],[],(some ⟨0,(rg 0 6 (rg 7 124 [])),[]⟩)⟩,0,8⟩
theorem ap0 (p:BO):LI (HC p) 9 gy ZA (KW p.b.1 p.b.2.1):=λ_ d c K=>by kernel_rfl
theorem ap1 (p:BO):LI (HC p) 24 gA ZB (KX):=λ_ d c K=>by kernel_rfl
theorem azp (p:BO):D2 (HC p) oW (lf NU) λb=>Qj p.1 p.2.1 p.c.1 p.c.2.1 p.c.b.1 p.c.b.2.1 p.d b:=λb=>by kernel_rfl
abbrev HD:BO:=(V2,NT,mY,dQ,AW,BN,pV,Dv,Dw)
attribute [local irreducible] NT in
theorem azq [aA]:SC (azo wc):=sc (kS (k:=HC HD) (.c aMi (.c aMm (.c aw7 (.c KV (.c apX (.c aUC (.c ad4 (.nil _)))))))) [9,24] [] ⟨kL (ap0 HD),⟨kL (ap1 HD),trivial⟩⟩ trivial (azp HD))
end Go.Proofs.YtldgljclcgaibaaGreat
namespace Go.Proofs.YtldgljclcgaibaaGreat
open Go.Ab Go.Ab.Pg
def Pz (b:Bf):Prop:=b.2.1=16/\b.2.2.1<=16
theorem Pz.br {T:Int}{b c:Bf}(h:Pz b)(k:BR T b c):Pz c:=⟨k.2.1.trans h.1,cQ k.len h.2⟩
theorem Pz.pr {b c:Bf}(h:Pz b)(k:PR b c∨SR b c):Pz c:=by
 obtain⟨a,l⟩:=h;rcases k with k|k
 .obtain⟨k1,_,_,_,_,k6⟩:=k;refine⟨k1.trans a,?_⟩;rcases k6 with k6|k6|k6
  .rw[k6.2.2];exact l
  .have:=k6.2.2.2;omega
  .rw[k6.2.2];exact l
 .have e:=k.1;exact⟨by rw[e];exact a,by rw[e];exact l⟩
theorem Pz.len {b:Bf}(h:Pz b):b.b.1<=64:=cQ h.2 (by decide)
def IV (k:Int)(q:Nat×Nat)(T S:Int)(a:Bool)(row:Nat->Int)(b0 b1 b2 b3 b4 b5:Bf)(p:Int×Int×Nat):Prop:=((q.2:Nat):Int)<=k/\Tq T S a q.2 (λi=>row (q.1+i))/\Pz b0/\Pz b1/\Pz b2/\Pz b3/\Pz b4/\Pz b5/\p.1=32/\p.2.2<=32
theorem IV.mono {k l:Int}{q:Nat×Nat}{T S:Int}{a:Bool}{row:Nat->Int}{b0 b1 b2 b3 b4 b5:Bf}{p:Int×Int×Nat}(h:IV k q T S a row b0 b1 b2 b3 b4 b5 p)(e:k<=l):IV l q T S a row b0 b1 b2 b3 b4 b5 p:=⟨SU h.1 e,h.2⟩
theorem aoV (k:Int)(hk:k<=1900)(q:Nat×Nat)(row:Nat->Int)(x:ov.B)(e1:x.2.1.c.1=q.2)(e2:x.c.1.1=λi=>row (q.1+i))(h:IV k q x.2.1.d.c.2.1 x.b.2.1.2.1.1 x.b.2.1.2.2 row x.c.2.1 x.c.b.1 x.c.b.2.1 x.d.1 x.d.2.1 x.d.b.1 x.d.c.1)(g:GF x.2.1.b.1 x.2.1.b.2.1 x.2.1.c.2.1 x.2.1.d.c.b.2.1):Ok (dQ x) (λe:rE=>IV (k+1) e.1.c.2.1 e.1.d.c.b.1 e.b.1.2.1.1 e.b.1.2.2 e.b.2.1.2.1 e.c.1 e.c.2.1 e.c.b.1 e.c.b.2.1 e.d.1 e.d.2.1 e.d.b.2.1/\GF e.1.b.2.1 e.1.c.1 e.1.c.b.1 e.1.e.1):=by
 obtain⟨h0,h1,p0,p1,p2,p3,p4,p5,s0,s1⟩:=h;refine((aOW 32 (by decide) (by decide) x (by rw[e1];omega) p0.len p1.len p2.len p3.len p4.len p5.len (by rw[s0];decide) s1 (by rw[e1,e2];exact h1)).with (aS1 x g)).mono λe he=> ?_;obtain⟨⟨a0,a1,a2,r0,r1,r2,r3,r4,r5,u0,u1⟩,b⟩:=he;rw[e1] at a0;exact⟨⟨by omega,a1,p0.br r0,p1.br r1,p2.br r2,p3.br r3,p4.br r4,p5.br r5,u0.trans s0,u1⟩,b⟩
theorem aUL (k:Int)(hk:k<=1800)(w d:lY.B)(hd:d.1.2.1=0/\0<=d.1.2.2/\d.1.2.2<=11/\IV (k+d.1.2.2) d.c.1.c.1 d.c.1.d.c.2.1 d.c.b.1.2.1.1 d.c.b.1.2.2 d.c.b.2.1.2.1 d.d.1 d.d.2.1 d.d.b.1 d.d.b.2.1 d.d.c.1 d.d.c.2.1 d.d.c.b.2.1/\GF d.c.1.b.1 d.c.1.b.2.1 d.c.1.c.2.1 d.c.1.d.c.b.2.1/\d.2.1=w.2.1/\d.b.1=w.b.1):Ok (NM d) (λx:xB=>x.1.2.1=0/\IV (k+11) x.c.1.c.1 x.c.1.d.c.2.1 x.c.b.1.2.1.1 x.c.b.1.2.2 x.c.b.2.1.2.1 x.d.1 x.d.2.1 x.d.b.1 x.d.b.2.1 x.d.c.1 x.d.c.2.1 x.d.c.b.2.1/\GF x.c.1.b.1 x.c.1.b.2.1 x.c.1.c.2.1 x.c.1.d.c.b.2.1/\x.2.1=w.2.1/\x.b.1=w.b.1):=
 qG (s:=_) (λd:lY.B=>d.1.2.1=0/\0<=d.1.2.2/\d.1.2.2<=11/\IV (k+d.1.2.2) d.c.1.c.1 d.c.1.d.c.2.1 d.c.b.1.2.1.1 d.c.b.1.2.2 d.c.b.2.1.2.1 d.d.1 d.d.2.1 d.d.b.1 d.d.b.2.1 d.d.c.1 d.d.c.2.1 d.d.c.b.2.1/\GF d.c.1.b.1 d.c.1.b.2.1 d.c.1.c.2.1 d.c.1.d.c.b.2.1/\d.2.1=w.2.1/\d.b.1=w.b.1) (λd:lY.B=>z4 (11-d.1.2.2)) (λx:xB=>x.1.2.1=0/\IV (k+11) x.c.1.c.1 x.c.1.d.c.2.1 x.c.b.1.2.1.1 x.c.b.1.2.2 x.c.b.2.1.2.1 x.d.1 x.d.2.1 x.d.b.1 x.d.b.2.1 x.d.c.1 x.d.c.2.1 x.d.c.b.2.1/\GF x.c.1.b.1 x.c.1.b.2.1 x.c.1.c.2.1 x.c.1.d.c.b.2.1/\x.2.1=w.2.1/\x.b.1=w.b.1) (λd hd=>by
  obtain⟨i0,i1,i2,iv,g,ex⟩:=hd;unfold Zx;dsimp only;have wn:wI (11+d.1.2.1)=11:=by rw[i0];decide
  have hw:wI (d.1.2.2+1)=d.1.2.2+1:=aZ;rw[wn,hw];simp only[aQ];rw[aL];refine⟨λc=> ?_,λc=> ?_⟩
  .have c:=db c;repeat rw[aD]
   with_reducible refine ax (aoV (k+d.1.2.2) (by omega) d.c.1.c.1 d.c.b.2.1.2.1 _ ?_ ?_ ?_ ?_) λe _ he=> ?_
   .rfl
   .rfl
   .exact iv
   .exact g
   rw[aw]
   exact⟨⟨i0,by show 0<=d.1.2.2+1;omega,by show d.1.2.2+1<=11;omega,by
    have h:=he.1;rw[show k+d.1.2.2+1=k+(d.1.2.2+1) by omega] at h;exact h,he.2,ex⟩,by show z4 (11-(d.1.2.2+1))<z4 (11-d.1.2.2);omega⟩
  .have c:=kD c;rw[aw];exact⟨i0,iv.mono (by omega),g,ex⟩) 2000 d hd (by omega)
theorem aUM (k:Int)(hk:k<=1800)(w d:lZ.B)(hd:d.1.1=0/\0<=d.1.2/\d.1.2<=2/\IV (k+d.1.2) d.b.2.1.c.1 d.b.2.1.d.c.2.1 d.c.2.1.2.1.1 d.c.2.1.2.2 d.c.b.1.2.1 d.c.b.2.1 d.d.1 d.d.2.1 d.d.b.1 d.d.b.2.1 d.d.c.1 d.d.c.b.1/\GF d.b.2.1.b.1 d.b.2.1.b.2.1 d.b.2.1.c.2.1 d.b.2.1.d.c.b.2.1/\d.2.1=w.2.1):Ok (NN d) (λx:xC=>x.1.1=0/\IV (k+2) x.b.2.1.c.1 x.b.2.1.d.c.2.1 x.c.2.1.2.1.1 x.c.2.1.2.2 x.c.b.1.2.1 x.c.b.2.1 x.d.1 x.d.2.1 x.d.b.1 x.d.b.2.1 x.d.c.1 x.d.c.b.1/\GF x.b.2.1.b.1 x.b.2.1.b.2.1 x.b.2.1.c.2.1 x.b.2.1.d.c.b.2.1/\x.2.1=w.2.1):=
 qG (s:=_) (λd:lZ.B=>d.1.1=0/\0<=d.1.2/\d.1.2<=2/\IV (k+d.1.2) d.b.2.1.c.1 d.b.2.1.d.c.2.1 d.c.2.1.2.1.1 d.c.2.1.2.2 d.c.b.1.2.1 d.c.b.2.1 d.d.1 d.d.2.1 d.d.b.1 d.d.b.2.1 d.d.c.1 d.d.c.b.1/\GF d.b.2.1.b.1 d.b.2.1.b.2.1 d.b.2.1.c.2.1 d.b.2.1.d.c.b.2.1/\d.2.1=w.2.1) (λd:lZ.B=>z4 (2-d.1.2)) (λx:xC=>x.1.1=0/\IV (k+2) x.b.2.1.c.1 x.b.2.1.d.c.2.1 x.c.2.1.2.1.1 x.c.2.1.2.2 x.c.b.1.2.1 x.c.b.2.1 x.d.1 x.d.2.1 x.d.b.1 x.d.b.2.1 x.d.c.1 x.d.c.b.1/\GF x.b.2.1.b.1 x.b.2.1.b.2.1 x.b.2.1.c.2.1 x.b.2.1.d.c.b.2.1/\x.2.1=w.2.1) (λd hd=>by
  obtain⟨i0,i1,i2,iv,g,ex⟩:=hd;unfold Zy;dsimp only;have wn:wI (2+d.1.1)=2:=by rw[i0];decide
  have hw:wI (d.1.2+1)=d.1.2+1:=aZ;rw[wn,hw];simp only[aQ];rw[aL];refine⟨λc=> ?_,λc=> ?_⟩
  .have c:=db c;repeat rw[aD]
   with_reducible refine ax (aoV (k+d.1.2) (by omega) d.b.2.1.c.1 d.c.b.1.2.1 _ ?_ ?_ ?_ ?_) λe _ he=> ?_
   .rfl
   .rfl
   .exact iv
   .exact g
   rw[aw]
   exact⟨⟨i0,by show 0<=d.1.2+1;omega,by show d.1.2+1<=2;omega,by
    have h:=he.1;rw[show k+d.1.2+1=k+(d.1.2+1) by omega] at h;exact h,he.2,ex⟩,by show z4 (2-(d.1.2+1))<z4 (2-d.1.2);omega⟩
  .have c:=kD c;rw[aw];exact⟨i0,iv.mono (by omega),g,ex⟩) 2000 d hd (by omega)
theorem aUN (k:Int)(hk:k<=1800)(w d:ma.B)(hd:d.1.1=0/\0<=d.1.2/\d.1.2<=2/\IV (k+d.1.2) d.b.1.c.1 d.b.1.d.c.2.1 d.c.1.2.1.1 d.c.1.2.2 d.c.2.1.2.1 d.c.b.1 d.c.b.2.1 d.d.1 d.d.2.1 d.d.b.1 d.d.b.2.1 d.d.c.2.1/\GF d.b.1.b.1 d.b.1.b.2.1 d.b.1.c.2.1 d.b.1.d.c.b.2.1):Ok (NO d) (λx:xD=>x.1.1=0/\IV (k+2) x.b.1.c.1 x.b.1.d.c.2.1 x.c.1.2.1.1 x.c.1.2.2 x.c.2.1.2.1 x.c.b.1 x.c.b.2.1 x.d.1 x.d.2.1 x.d.b.1 x.d.b.2.1 x.d.c.2.1/\GF x.b.1.b.1 x.b.1.b.2.1 x.b.1.c.2.1 x.b.1.d.c.b.2.1):=
 qG (s:=_) (λd:ma.B=>d.1.1=0/\0<=d.1.2/\d.1.2<=2/\IV (k+d.1.2) d.b.1.c.1 d.b.1.d.c.2.1 d.c.1.2.1.1 d.c.1.2.2 d.c.2.1.2.1 d.c.b.1 d.c.b.2.1 d.d.1 d.d.2.1 d.d.b.1 d.d.b.2.1 d.d.c.2.1/\GF d.b.1.b.1 d.b.1.b.2.1 d.b.1.c.2.1 d.b.1.d.c.b.2.1) (λd:ma.B=>z4 (2-d.1.2)) (λx:xD=>x.1.1=0/\IV (k+2) x.b.1.c.1 x.b.1.d.c.2.1 x.c.1.2.1.1 x.c.1.2.2 x.c.2.1.2.1 x.c.b.1 x.c.b.2.1 x.d.1 x.d.2.1 x.d.b.1 x.d.b.2.1 x.d.c.2.1/\GF x.b.1.b.1 x.b.1.b.2.1 x.b.1.c.2.1 x.b.1.d.c.b.2.1) (λd hd=>by
  obtain⟨i0,i1,i2,iv,g⟩:=hd;unfold Zz;dsimp only;have wn:wI (2+d.1.1)=2:=by rw[i0];decide
  have hw:wI (d.1.2+1)=d.1.2+1:=aZ;rw[wn,hw];simp only[aQ];rw[aL];refine⟨λc=> ?_,λc=> ?_⟩
  .have c:=db c;repeat rw[aD]
   with_reducible refine ax (aoV (k+d.1.2) (by omega) d.b.1.c.1 d.c.2.1.2.1 _ ?_ ?_ ?_ ?_) λe _ he=> ?_
   .rfl
   .rfl
   .exact iv
   .exact g
   rw[aw]
   exact⟨⟨i0,by show 0<=d.1.2+1;omega,by show d.1.2+1<=2;omega,by
    have h:=he.1;rw[show k+d.1.2+1=k+(d.1.2+1) by omega] at h;exact h,he.2⟩,by show z4 (2-(d.1.2+1))<z4 (2-d.1.2);omega⟩
  .have c:=kD c;rw[aw];exact⟨i0,iv.mono (by omega),g⟩) 2000 d hd (by omega)
theorem aGW (k:Int)(q:Nat×Nat)(row:Nat->Int)(x:jX.B)(e1:x.2.1.c.1=q.2)(e2:x.c.1.1=λi=>row (q.1+i))(h:IV k q x.2.1.d.c.2.1 x.b.2.1.2.1.1 x.b.2.1.2.2 row x.c.2.1 x.c.b.1 x.c.b.2.1 x.d.1 x.d.2.1 x.d.b.1 x.d.c.1)(g:GF x.2.1.b.1 x.2.1.b.2.1 x.2.1.c.2.1 x.2.1.d.c.b.2.1):Ok (eX x) (λe:mx=>IV k (0,e.2.1.c.1) e.2.1.d.c.2.1 e.b.2.1.2.1.1 e.b.2.1.2.2 e.c.1.1 e.c.2.1 e.c.b.1 e.c.b.2.1 e.d.1 e.d.2.1 e.d.b.1 e.d.c.1/\GF e.2.1.b.1 e.2.1.b.2.1 e.2.1.c.2.1 e.2.1.d.c.b.2.1):=by
 obtain⟨h0,h1,p0,p1,p2,p3,p4,p5,s0,s1⟩:=h;refine(aGF x (cQ p0.len (by decide)) (cQ p1.len (by decide)) (cQ p2.len (by decide)) (cQ p3.len (by decide)) (cQ p4.len (by decide)) (cQ p5.len (by decide))).mono λe he=> ?_;obtain⟨f1,f2,f3,f4,f11,f12,f13,f20,CH⟩:=he;refine⟨?_,by rw[f1];exact g⟩;rw[f1,f3,f4,f12];refine⟨by show((x.2.1.c.1:Nat):Int)<=k;rw[e1];exact h0,?_,?_⟩
 .show Tq x.2.1.d.c.2.1 x.b.2.1.2.1.1 x.b.2.1.2.2 x.2.1.c.1 (λi=>x.c.1.1 (0+i));rw[e1,e2];exact⟨h1.1,h1.2.up (dW _) (λi=>by show row (q.1+(0+i))=row (q.1+i);rw[gD])⟩
 .have all:Pz e.c.2.1/\Pz e.c.b.1/\Pz e.c.b.2.1/\Pz e.d.1/\Pz e.d.2.1/\Pz e.d.b.1:=by
   rcases CH with⟨_,c0,c1,c2,c3,c4,c5⟩| ⟨_,c0,c1,c2,c3,c4,c5⟩| ⟨_,c0,c1,c2,c3,c4,c5⟩| ⟨_,c0,c1,c2,c3,c4,c5⟩| ⟨_,c0,c1,c2,c3,c4,c5⟩| ⟨_,c0,c1,c2,c3,c4,c5⟩| ⟨_,c0,c1,c2,c3,c4,c5⟩
   .exact⟨by rw[c0];exact p0,by rw[c1];exact p1,by rw[c2];exact p2,by rw[c3];exact p3,by rw[c4];exact p4,by rw[c5];exact p5⟩
   .exact⟨p0.pr c0,by rw[c1];exact p1,by rw[c2];exact p2,by rw[c3];exact p3,by rw[c4];exact p4,by rw[c5];exact p5⟩
   .exact⟨by rw[c0];exact p0,p1.pr c1,by rw[c2];exact p2,by rw[c3];exact p3,by rw[c4];exact p4,by rw[c5];exact p5⟩
   .exact⟨by rw[c0];exact p0,by rw[c1];exact p1,p2.pr c2,by rw[c3];exact p3,by rw[c4];exact p4,by rw[c5];exact p5⟩
   .exact⟨by rw[c0];exact p0,by rw[c1];exact p1,by rw[c2];exact p2,p3.pr c3,by rw[c4];exact p4,by rw[c5];exact p5⟩
   .exact⟨by rw[c0];exact p0,by rw[c1];exact p1,by rw[c2];exact p2,by rw[c3];exact p3,p4.pr c4,by rw[c5];exact p5⟩
   .exact⟨by rw[c0];exact p0,by rw[c1];exact p1,by rw[c2];exact p2,by rw[c3];exact p3,by rw[c4];exact p4,p5.pr c5⟩
  obtain⟨a0,a1,a2,a3,a4,a5⟩:=all;exact⟨a0,a1,a2,a3,a4,a5,s0,s1⟩
theorem a0I (k:Int)(hk:k<=1900)(q:Nat×Nat)(row:Nat->Int)(x:pT.B)(e1:x.2.2.1.2.2.2.2.1=q.2)(e2:x.2.2.2.2.2.1.1=λi=>row (q.1+i))(h:IV k q x.2.2.1.2.2.2.2.2.2.2.2.2.2.2.2.2.1 x.2.2.2.2.1.2.1.1 x.2.2.2.2.1.2.2 row x.2.2.2.2.2.2.1 x.2.2.2.2.2.2.2.1 x.2.2.2.2.2.2.2.2.1 x.2.2.2.2.2.2.2.2.2.1 x.2.2.2.2.2.2.2.2.2.2.1 x.2.2.2.2.2.2.2.2.2.2.2.1 x.2.2.2.2.2.2.2.2.2.2.2.2.2.1)(g:GF x.2.2.1.2.2.1 x.2.2.1.2.2.2.1 x.2.2.1.2.2.2.2.2.1 x.2.2.1.2.2.2.2.2.2.2.2.2.2.2.2.2.2.2.1):Ok (mY x) (λr:tP=>match r with|.inl e=>IV (k+40) (0,e.1.2.2.2.2.2.1) e.1.2.2.2.2.2.2.2.2.2.2.2.2.2.2.1 e.2.2.1.2.1.1 e.2.2.1.2.2 e.2.2.2.1.1 e.2.2.2.2.1 e.2.2.2.2.2.1 e.2.2.2.2.2.2.1 e.2.2.2.2.2.2.2.1 e.2.2.2.2.2.2.2.2.1 e.2.2.2.2.2.2.2.2.2.1 e.2.2.2.2.2.2.2.2.2.2.2.1/\GF e.1.2.2.2.1 e.1.2.2.2.2.1 e.1.2.2.2.2.2.2.1 e.1.2.2.2.2.2.2.2.2.2.2.2.2.2.2.2.2.1|.inr e=>IV (k+40) e.2.1.2.2.2.2.1 e.2.1.2.2.2.2.2.2.2.2.2.2.2.2.2.1 e.2.2.2.1.2.1.1 e.2.2.2.1.2.2 e.2.2.2.2.1.2.1 e.2.2.2.2.2.1 e.2.2.2.2.2.2.1 e.2.2.2.2.2.2.2.1 e.2.2.2.2.2.2.2.2.1 e.2.2.2.2.2.2.2.2.2.1 e.2.2.2.2.2.2.2.2.2.2.1 e.2.2.2.2.2.2.2.2.2.2.2.2.1/\GF e.2.1.2.2.1 e.2.1.2.2.2.1 e.2.1.2.2.2.2.2.1 e.2.1.2.2.2.2.2.2.2.2.2.2.2.2.2.2.2.1):=by
 obtain⟨h0,h1,p0,p1,p2,p3,p4,p5,s0,s1⟩:=h;refine((a0C 32 (by decide) (by decide) x (by rw[e1];omega) p0.len p1.len p2.len p3.len p4.len p5.len (by rw[s0];decide) s1 (by rw[e1,e2];exact h1)).with (a2n x g)).mono λr hr=> ?_;cases r with
 |inl e=>
  obtain⟨⟨o1,f1,f2,f3,f4,f11,f12,CH⟩,b⟩:=hr;have f1:e.1.2=x.2.2.1:=f1;refine⟨?_,b⟩;rw[f1,f3,f4,f12];refine⟨by show((x.2.2.1.2.2.2.2.1:Nat):Int)<=k+40;rw[e1];omega,?_,?_⟩
  .show Tq x.2.2.1.2.2.2.2.2.2.2.2.2.2.2.2.2.1 x.2.2.2.2.1.2.1.1 x.2.2.2.2.1.2.2 x.2.2.1.2.2.2.2.1 (λi=>x.2.2.2.2.2.1.1 (0+i));rw[e1,e2];exact⟨h1.1,h1.2.up (dW _) (λi=>by show row (q.1+(0+i))=row (q.1+i);rw[gD])⟩
  .have all:Pz e.2.2.2.2.1/\Pz e.2.2.2.2.2.1/\Pz e.2.2.2.2.2.2.1/\Pz e.2.2.2.2.2.2.2.1/\Pz e.2.2.2.2.2.2.2.2.1/\Pz e.2.2.2.2.2.2.2.2.2.1:=by
    rcases CH with⟨_,c0,c1,c2,c3,c4,c5⟩| ⟨_,c0,c1,c2,c3,c4,c5⟩| ⟨_,c0,c1,c2,c3,c4,c5⟩| ⟨_,c0,c1,c2,c3,c4,c5⟩| ⟨_,c0,c1,c2,c3,c4,c5⟩| ⟨_,c0,c1,c2,c3,c4,c5⟩| ⟨_,c0,c1,c2,c3,c4,c5⟩
    .exact⟨by rw[c0];exact p0,by rw[c1];exact p1,by rw[c2];exact p2,by rw[c3];exact p3,by rw[c4];exact p4,by rw[c5];exact p5⟩
    .exact⟨p0.pr c0,by rw[c1];exact p1,by rw[c2];exact p2,by rw[c3];exact p3,by rw[c4];exact p4,by rw[c5];exact p5⟩
    .exact⟨by rw[c0];exact p0,p1.pr c1,by rw[c2];exact p2,by rw[c3];exact p3,by rw[c4];exact p4,by rw[c5];exact p5⟩
    .exact⟨by rw[c0];exact p0,by rw[c1];exact p1,p2.pr c2,by rw[c3];exact p3,by rw[c4];exact p4,by rw[c5];exact p5⟩
    .exact⟨by rw[c0];exact p0,by rw[c1];exact p1,by rw[c2];exact p2,p3.pr c3,by rw[c4];exact p4,by rw[c5];exact p5⟩
    .exact⟨by rw[c0];exact p0,by rw[c1];exact p1,by rw[c2];exact p2,by rw[c3];exact p3,p4.pr c4,by rw[c5];exact p5⟩
    .exact⟨by rw[c0];exact p0,by rw[c1];exact p1,by rw[c2];exact p2,by rw[c3];exact p3,by rw[c4];exact p4,p5.pr c5⟩
   obtain⟨a0,a1,a2,a3,a4,a5⟩:=all;exact⟨a0,a1,a2,a3,a4,a5,s0,s1⟩
 |inr e=>
  obtain⟨⟨o1,a0,a1,a2,r0,r1,r2,r3,r4,r5,u0,u1⟩,b⟩:=hr;have a0:((e.2.1.2.2.2.2.1.2:Nat):Int)<=x.2.2.1.2.2.2.2.1+40:=a0;rw[e1] at a0;exact⟨⟨by omega,a1,p0.br r0,p1.br r1,p2.br r2,p3.br r3,p4.br r4,p5.br r5,u0.trans s0,u1⟩,b⟩
theorem aUO (x:KQ.B):Po (Az x) (λr:P'=>match r with|.inl _=>qo x=some false|.inr _=>True):=by
 unfold Az Zl;try dsimp only
 show PW _ _;try dsimp only
 rw[bQ];intro g hg;rw[bD];refine⟨λc=> ?_,λ_=> ?_⟩
 .have g0:g=false:=by
   cases g with
   |false=>rfl
   |true=>cases c
  rw[ba,<-g0];exact hg
 .repeat' (first
   |(rw[du];exact trivial)
   |(rw[bD];refine⟨λ_=> ?_,λ_=> ?_⟩)
   |(rw[qw];refine⟨λe0 e1=> ?_,λe0 e1=> ?_⟩)
   |(rw[bQ];intro _ _))
  all_goals (rw[ba];exact trivial)
theorem aZi (x:SF.B)(h:qo x=some true):Ok (SG x) (λr:abt=>match r with|.inl _=>False|.inr e=>e.c.1=x.b.1/\e.c.2.1=x.b.1/\e.c.b.1=x.b.1/\e.c.b.2.1=x.b.1/\e.d.1=x.b.1/\e.d.2.1=x.b.1/\e.d.b.2.1.1=x.d.c.1/\NW e.1.e.d.b.2.1/\xJ e.1.e.d.b.2.2):=by
 obtain⟨r,g,hr,aS4,hgf⟩:=(a0k x).with ((aUO x).and (a2m x))
 unfold SG aoN;show PQ _ _;rw[g,cy];cases r with
 |inl a=>
  have aS4:qo x=some false:=aS4;rw[h] at aS4;cases Ka aS4
 |inr a=>
  obtain⟨b0,b1,o0,o1,s0,s1,s2,s3,s4,s5,u⟩:=hr;obtain⟨gs,gv⟩:NW a.1.e.d.b.2.1/\xJ a.1.e.d.b.2.2:=hgf;simp only[tN,cy,aw];exact⟨s0,s1,s2,s3,s4,s5,u,gs,gv⟩
theorem aRK:(jy 0 0 0 false).map (λd=>d.1.2==0)=some true:=by kernel_rfl
theorem aRL (k:Int)(hk:k<=1800)(d:lY.B)(hd:d.1.2.1=0/\0<=d.1.2.2/\d.1.2.2<=11/\IV (k+d.1.2.2) d.c.1.c.1 d.c.1.d.c.2.1 d.c.b.1.2.1.1 d.c.b.1.2.2 d.c.b.2.1.2.1 d.d.1 d.d.2.1 d.d.b.1 d.d.b.2.1 d.d.c.1 d.d.c.2.1 d.d.c.b.2.1/\GF d.c.1.b.1 d.c.1.b.2.1 d.c.1.c.2.1 d.c.1.d.c.b.2.1):Ok (NM d) (λx:xB=>x.1.2.1=0/\IV (k+11) x.c.1.c.1 x.c.1.d.c.2.1 x.c.b.1.2.1.1 x.c.b.1.2.2 x.c.b.2.1.2.1 x.d.1 x.d.2.1 x.d.b.1 x.d.b.2.1 x.d.c.1 x.d.c.2.1 x.d.c.b.2.1/\GF x.c.1.b.1 x.c.1.b.2.1 x.c.1.c.2.1 x.c.1.d.c.b.2.1/\x.2.1=d.2.1/\x.b.1=d.b.1):=
 aUL k hk d d ⟨hd.1,hd.2.1,hd.b.1,hd.b.2.1,hd.b.2.2,rfl,rfl⟩
theorem aRM (k:Int)(hk:k<=1800)(d:lZ.B)(hd:d.1.1=0/\0<=d.1.2/\d.1.2<=2/\IV (k+d.1.2) d.b.2.1.c.1 d.b.2.1.d.c.2.1 d.c.2.1.2.1.1 d.c.2.1.2.2 d.c.b.1.2.1 d.c.b.2.1 d.d.1 d.d.2.1 d.d.b.1 d.d.b.2.1 d.d.c.1 d.d.c.b.1/\GF d.b.2.1.b.1 d.b.2.1.b.2.1 d.b.2.1.c.2.1 d.b.2.1.d.c.b.2.1):Ok (NN d) (λx:xC=>x.1.1=0/\IV (k+2) x.b.2.1.c.1 x.b.2.1.d.c.2.1 x.c.2.1.2.1.1 x.c.2.1.2.2 x.c.b.1.2.1 x.c.b.2.1 x.d.1 x.d.2.1 x.d.b.1 x.d.b.2.1 x.d.c.1 x.d.c.b.1/\GF x.b.2.1.b.1 x.b.2.1.b.2.1 x.b.2.1.c.2.1 x.b.2.1.d.c.b.2.1/\x.2.1=d.2.1):=
 aUM k hk d d ⟨hd.1,hd.2.1,hd.b.1,hd.b.2.1,hd.b.2.2,rfl⟩
theorem aRN (k:Int)(hk:k<=1800)(d:ma.B)(hd:d.1.1=0/\0<=d.1.2/\d.1.2<=2/\IV (k+d.1.2) d.b.1.c.1 d.b.1.d.c.2.1 d.c.1.2.1.1 d.c.1.2.2 d.c.2.1.2.1 d.c.b.1 d.c.b.2.1 d.d.1 d.d.2.1 d.d.b.1 d.d.b.2.1 d.d.c.2.1/\GF d.b.1.b.1 d.b.1.b.2.1 d.b.1.c.2.1 d.b.1.d.c.b.2.1):Ok (NO d) (λx:xD=>x.1.1=0/\IV (k+2) x.b.1.c.1 x.b.1.d.c.2.1 x.c.1.2.1.1 x.c.1.2.2 x.c.2.1.2.1 x.c.b.1 x.c.b.2.1 x.d.1 x.d.2.1 x.d.b.1 x.d.b.2.1 x.d.c.2.1/\GF x.b.1.b.1 x.b.1.b.2.1 x.b.1.c.2.1 x.b.1.d.c.b.2.1):=aUN k hk d d hd
theorem aUP (x:NL.B)(h:qo x.1=some true)(h1:x.1.2.1=0)(h2:x.1.b.1=16)(h12:x.1.d.c.1=32)(h13:x.1.d.c.2.1=0)(h14:x.1.d.c.b.1=0)(h15:x.1.d.c.b.2=0):Ok (NP x) (λr:V3=>match r with|.inl _=>False|.inr e=>IV (15) e.2.1.c.1 e.2.1.d.c.2.1 e.b.2.1.2.1.1 e.b.2.1.2.2 e.c.1.2.1 e.c.2.1 e.c.b.1 e.c.b.2.1 e.d.1 e.d.2.1 e.d.b.1 e.d.c.1/\GF e.2.1.b.1 e.2.1.b.2.1 e.2.1.c.2.1 e.2.1.d.c.b.2.1):=by
 unfold NP aip;try dsimp only
 show PQ _ _;try dsimp only
 refine ax (aZi _ h) λr _ hr=> ?_;cases r with
 |inl a=>exact absurd hr id
 |inr a=>
 obtain⟨s0,s1,s2,s3,s4,s5,u,gs,gv⟩:=hr;rw[h2] at s0 s1 s2 s3 s4 s5;rw[h12] at u;have hn:wI (t8 x.1.2.1 8000)=0:=by rw[h1];decide
 simp only[hn,tN,cy,aD];have pz:∀y:Int,y=16->Pz ((0,0,0,0,0),y,0, -9223372036854775808):=λy e=>⟨e,Nat.zero_le _⟩
 with_reducible refine ax (aRL 0 (by decide) _ ⟨?_,?_,?_,?_,?_⟩) λy _ hy=> ?_
 .rfl
 .exact dW 0
 .show(0:Int)<=11;decide
 .exact⟨dW 0,⟨λ_=>dW 0,dW 0,λi k _ h=>absurd h (Nat.not_lt_zero _)⟩,pz _ s0,pz _ s1,pz _ s2,pz _ s3,pz _ s4,pz _ s5,u,Nat.zero_le _⟩
 .exact⟨gs,gv,.inl ⟨.inl rfl,rfl,rfl,rfl⟩,aDt⟩
 obtain⟨y0,iv,g,y1,y2⟩:=hy;have d0:y.2.1.e.c.b.2.1=0:=by rw[y1];exact h13
 have d1:y.2.1.e.d.1=0:=by rw[y1];exact h14
 have d2:y.2.1.e.d.2=0:=by rw[y1];exact h15
 rw[d0,d1,d2]
 refine ax (bp.Ok (aod 0 0 0 false) (Q:=λd=>d.1.2=0) λd hd=>by
  have z:=aRK;rw[hd] at z;exact eq_of_beq (Ka z)) λdc _ hdc=> ?_
 rw[hdc,show((0:Int)!=0)=false from rfl,tN];refine ax (bp.Ok (am6 _ _) (Q:=λ_=>True) λ_ _=>trivial) λr1 _ _=> ?_;refine ax (bp.Ok (aJf _ _ _ _ _) (Q:=λ_=>True) λ_ _=>trivial) λr2 _ _=> ?_;refine ax (bp.Ok (am6 _ _) (Q:=λ_=>True) λ_ _=>trivial) λr3 _ _=> ?_;refine ax (bp.Ok (aJf _ _ _ _ _) (Q:=λ_=>True) λ_ _=>trivial) λr4 _ _=> ?_;refine ax (bp.Ok (aLs _ _ _ _ _) (Q:=λ_=>True) λ_ _=>trivial) λr5 _ _=> ?_;refine ax (bp.Ok (aOg _ _ _ _ _) (Q:=λ_=>True) λ_ _=>trivial) λr6 _ _=> ?_;refine ax (bp.Ok (aJe _ _ _ _) (Q:=λ_=>True) λ_ _=>trivial) λr7 _ _=> ?_;refine ax (bp.Ok (aJe _ _ _ _) (Q:=λ_=>True) λ_ _=>trivial) λr8 _ _=> ?_;simp only[aQ];repeat rw[aD]
 with_reducible refine ax (aGW (0+11) y.c.1.c.1 y.c.b.2.1.2.1 _ ?_ ?_ ?_ ?_) λe _ he=> ?_
 .rfl
 .rfl
 .exact iv
 .exact g
 with_reducible refine ax (aRM 11 (by decide) _ ⟨?_,?_,?_,?_,?_⟩) λz _ hz=> ?_
 .exact y0
 .exact dW 0
 .show(0:Int)<=2;decide
 .exact he.1
 .exact he.2
 obtain⟨z0,iv1,g1,z1⟩:=hz;repeat rw[aD]
 with_reducible refine ax (aGW (11+2) z.b.2.1.c.1 z.c.b.1.2.1 _ ?_ ?_ ?_ ?_) λf _ hf=> ?_
 .rfl
 .rfl
 .exact iv1
 .exact g1
 with_reducible refine ax (aRN 13 (by decide) _ ⟨?_,?_,?_,?_,?_⟩) λv _ hv=> ?_
 .exact z0
 .exact dW 0
 .show(0:Int)<=2;decide
 .exact hf.1
 .exact hf.2
 rw[aw];exact⟨hv.2.1,hv.2.2⟩
theorem aRO:(wZ.bind λd=>qo (8000,0,16,5,(d.1,d.2.1,d.b.1,d.b.2.1,d.c.1,d.c.2.1),(d.c.b.1,d.c.b.2.1,d.d.1,d.d.2.1,d.d.b.1,d.d.b.2.1),d.d.c.1,d.d.c.2,5000000,68719476736,0,268435456,32,0,0,0))=some true:=by kernel_rfl
theorem aUQ:Ok (NT 0) (λr:V4=>match r with|.inl _=>False|.inr e=>IV (15) e.2.1.c.1 e.2.1.d.c.2.1 e.b.2.1.2.1.1 e.b.2.1.2.2 e.c.1.2.1 e.c.2.1 e.c.b.1 e.c.b.2.1 e.d.1 e.d.2.1 e.d.b.1 e.d.c.1/\GF e.2.1.b.1 e.2.1.b.2.1 e.2.1.c.2.1 e.2.1.d.c.b.2.1):=by
 have c:=aRO;unfold NT air;try dsimp only
 show PQ _ _
 obtain⟨d,hd⟩:∃d,wZ=some d:=by
  cases h:wZ with
  |none=>rw[h] at c;cases c
  |some d=>exact⟨d,rfl⟩
 rw[hd] at c;rw[hd,cy];refine ax (aUP _ c rfl rfl rfl rfl rfl rfl) λr _ hr=> ?_;cases r with
 |inl a=>exact absurd hr id
 |inr a=>
  simp only[tN,cy,aw];exact hr
theorem aUR (w:gy.B):∀(d:gy.B) (hd:0<=d.1.2.2.2/\d.1.2.2.2<=6/\IV (15+41*d.1.2.2.2) d.2.2.1.2.2.2.2.1 d.2.2.1.2.2.2.2.2.2.2.2.2.2.2.2.2.1 d.2.2.2.2.1.2.1.1 d.2.2.2.2.1.2.2 d.2.2.2.2.2.1.2.1 d.2.2.2.2.2.2.1 d.2.2.2.2.2.2.2.1 d.2.2.2.2.2.2.2.2.1 d.2.2.2.2.2.2.2.2.2.1 d.2.2.2.2.2.2.2.2.2.2.1 d.2.2.2.2.2.2.2.2.2.2.2.1 d.2.2.2.2.2.2.2.2.2.2.2.2.2.1/\GF d.2.2.1.2.2.1 d.2.2.1.2.2.2.1 d.2.2.1.2.2.2.2.2.1 d.2.2.1.2.2.2.2.2.2.2.2.2.2.2.2.2.2.2.1/\d.1.2.1=w.1.2.1/\d.1.2.2.1=w.1.2.2.1),Ok (Dv d) (λx:rF=>match x with|.inl x=>IV (261) x.2.2.1.2.2.2.2.1 x.2.2.1.2.2.2.2.2.2.2.2.2.2.2.2.2.1 x.2.2.2.2.1.2.1.1 x.2.2.2.2.1.2.2 x.2.2.2.2.2.1.2.1 x.2.2.2.2.2.2.1 x.2.2.2.2.2.2.2.1 x.2.2.2.2.2.2.2.2.1 x.2.2.2.2.2.2.2.2.2.1 x.2.2.2.2.2.2.2.2.2.2.1 x.2.2.2.2.2.2.2.2.2.2.2.1 x.2.2.2.2.2.2.2.2.2.2.2.2.2.1/\GF x.2.2.1.2.2.1 x.2.2.1.2.2.2.1 x.2.2.1.2.2.2.2.2.1 x.2.2.1.2.2.2.2.2.2.2.2.2.2.2.2.2.2.2.1/\x.1.2.1=w.1.2.1/\x.1.2.2.1=w.1.2.2.1|.inr x=>IV (261) x.2.2.1.2.2.2.2.1 x.2.2.1.2.2.2.2.2.2.2.2.2.2.2.2.2.1 x.2.2.2.2.1.2.1.1 x.2.2.2.2.1.2.2 x.2.2.2.2.2.1.2.1 x.2.2.2.2.2.2.1 x.2.2.2.2.2.2.2.1 x.2.2.2.2.2.2.2.2.1 x.2.2.2.2.2.2.2.2.2.1 x.2.2.2.2.2.2.2.2.2.2.1 x.2.2.2.2.2.2.2.2.2.2.2.1 x.2.2.2.2.2.2.2.2.2.2.2.2.2.1/\GF x.2.2.1.2.2.1 x.2.2.1.2.2.2.1 x.2.2.1.2.2.2.2.2.1 x.2.2.1.2.2.2.2.2.2.2.2.2.2.2.2.2.2.2.1/\x.1.2.1=w.1.2.1/\x.1.2.2.1=w.1.2.2.1):=
 bV (λd:gy.B=>z4 (6-d.1.2.2.2)) (λd hd=>by
  obtain⟨i0,i1,iv,g,ea,eb⟩:=hd;unfold KW;dsimp only;have out:IV (261) d.2.2.1.2.2.2.2.1 d.2.2.1.2.2.2.2.2.2.2.2.2.2.2.2.2.1 d.2.2.2.2.1.2.1.1 d.2.2.2.2.1.2.2 d.2.2.2.2.2.1.2.1 d.2.2.2.2.2.2.1 d.2.2.2.2.2.2.2.1 d.2.2.2.2.2.2.2.2.1 d.2.2.2.2.2.2.2.2.2.1 d.2.2.2.2.2.2.2.2.2.2.1 d.2.2.2.2.2.2.2.2.2.2.2.1 d.2.2.2.2.2.2.2.2.2.2.2.2.2.1:=iv.mono (by omega);rw[aL];refine⟨λc3=> ?_,λ_=>by rw[aw];exact⟨out,g,ea,eb⟩⟩;have c3:=db c3;rw[dH] at c3;rw[aL];refine⟨λc2=> ?_,λ_=>by rw[aw];exact⟨out,g,ea,eb⟩⟩;have c2:=db c2;have hw:wI (d.1.2.2.2+1)=d.1.2.2.2+1:=aZ;have r0:bg d.1.2.2.2 d.1.1.1=true:=by rw[bz];omega
  rw[r0,hw,aD];rw[aL];refine⟨λ_=> ?_,λ_=> ?_⟩
  .simp only[aQ];repeat rw[aD]
   with_reducible refine ax (a0I (15+41*d.1.2.2.2) (by omega) d.2.2.1.2.2.2.2.1 d.2.2.2.2.2.1.2.1 _ ?_ ?_ ?_ ?_) λr _ hr=> ?_
   .rfl
   .rfl
   .exact iv
   .exact g
   cases r with
   |inl e=>
    obtain⟨h1,h2⟩:=hr;simp only[aD,cy];with_reducible refine ax (aoV (15+41*d.1.2.2.2+40) (by omega) (0,e.1.2.2.2.2.2.1) e.2.2.2.1.1 _ ?_ ?_ ?_ ?_) λy _ hy=> ?_
    .rfl
    .rfl
    .exact h1
    .exact h2
    rw[aw]
    exact⟨⟨by show 0<=d.1.2.2.2+1;omega,by show d.1.2.2.2+1<=6;omega,by
     have h:=hy.1;rw[show 15+41*d.1.2.2.2+40+1=15+41*(d.1.2.2.2+1) by omega] at h;exact h,hy.2,ea,eb⟩,by show z4 (6-(d.1.2.2.2+1))<z4 (6-d.1.2.2.2);omega⟩
   |inr e=>
    obtain⟨h1,h2⟩:=hr;simp only[aD,tN,cy];with_reducible refine ax (aoV (15+41*d.1.2.2.2+40) (by omega) e.2.1.2.2.2.2.1 e.2.2.2.2.1.2.1 _ ?_ ?_ ?_ ?_) λy _ hy=> ?_
    .rfl
    .rfl
    .exact h1
    .exact h2
    rw[aw]
    exact⟨⟨by show 0<=d.1.2.2.2+1;omega,by show d.1.2.2.2+1<=6;omega,by
     have h:=hy.1;rw[show 15+41*d.1.2.2.2+40+1=15+41*(d.1.2.2.2+1) by omega] at h;exact h,hy.2,ea,eb⟩,by show z4 (6-(d.1.2.2.2+1))<z4 (6-d.1.2.2.2);omega⟩
  .rw[aw];exact⟨⟨by show 0<=d.1.2.2.2+1;omega,by show d.1.2.2.2+1<=6;omega,iv.mono (show(15+41*d.1.2.2.2:Int)<=15+41*(d.1.2.2.2+1) by omega),g,ea,eb⟩,by show z4 (6-(d.1.2.2.2+1))<z4 (6-d.1.2.2.2);omega⟩) (λd hd=>by omega)
theorem aRP (d:gy.B)(hd:0<=d.1.b.2/\d.1.b.2<=6/\IV (15+41*d.1.b.2) d.b.1.c.1 d.b.1.d.c.2.1 d.c.1.2.1.1 d.c.1.2.2 d.c.2.1.2.1 d.c.b.1 d.c.b.2.1 d.d.1 d.d.2.1 d.d.b.1 d.d.b.2.1 d.d.c.2.1/\GF d.b.1.b.1 d.b.1.b.2.1 d.b.1.c.2.1 d.b.1.d.c.b.2.1):Ok (Dv d) (λx:rF=>match x with|.inl x=>IV (261) x.b.1.c.1 x.b.1.d.c.2.1 x.c.1.2.1.1 x.c.1.2.2 x.c.2.1.2.1 x.c.b.1 x.c.b.2.1 x.d.1 x.d.2.1 x.d.b.1 x.d.b.2.1 x.d.c.2.1/\GF x.b.1.b.1 x.b.1.b.2.1 x.b.1.c.2.1 x.b.1.d.c.b.2.1/\x.1.2.1=d.1.2.1/\x.1.b.1=d.1.b.1|.inr x=>IV (261) x.b.1.c.1 x.b.1.d.c.2.1 x.c.1.2.1.1 x.c.1.2.2 x.c.2.1.2.1 x.c.b.1 x.c.b.2.1 x.d.1 x.d.2.1 x.d.b.1 x.d.b.2.1 x.d.c.2.1/\GF x.b.1.b.1 x.b.1.b.2.1 x.b.1.c.2.1 x.b.1.d.c.b.2.1/\x.1.2.1=d.1.2.1/\x.1.b.1=d.1.b.1):=
 aUR d d ⟨hd.1,hd.2.1,hd.b.1,hd.b.2,rfl,rfl⟩
theorem aUS (w:gA.B):∀(d:gA.B) (hd:0<=d.1.2.2.2/\d.1.2.2.2<=276/\(∀n:Nat,(n:Int)<d.1.2.2.2-> -1125899906842624<=d.2.1.1 n/\d.2.1.1 n<=1125899906842624)/\d.1.1=w.1.1/\d.1.2.1=w.1.2.1/\d.1.2.2.1=w.1.2.2.1/\d.2=w.2),Ok (Dw d) (λx:rG=>match x with|.inl _=>True|.inr x=>(∀n:Nat,n<276-> -1125899906842624<=w.2.1.1 n/\w.2.1.1 n<=1125899906842624)/\x.1.1=w.1.1/\x.1.2.1=w.1.2.1/\x.1.2.2.1=w.1.2.2.1/\x.2=w.2):=
 bV (λd:gA.B=>z4 (276-d.1.2.2.2)) (λd hd=>by
  obtain⟨i0,i1,iu,e0,e1,e2,e3⟩:=hd;unfold KX;dsimp only;rw[aL];refine⟨λc=> ?_,λc=> ?_⟩
  .have c:=db c;have hw:wI (d.1.2.2.2+1)=d.1.2.2.2+1:=aZ;have r0:bg d.1.2.2.2 276=true:=by rw[bz];omega
   have r1:wl (0+z4 d.1.2.2.2*1+1) 276=true:=by rw[ch];omega
   rw[r0,r1,hw];repeat rw[aD]
   rw[aL];refine⟨λ_=>by rw[aw];trivial,λc1=> ?_⟩;have c1:=kD c1;repeat rw[aD]
   rw[aL];refine⟨λ_=>by rw[aw];trivial,λc2=> ?_⟩;have c2:=kD c2;rw[aw]
   exact⟨⟨by show 0<=d.1.2.2.2+1;omega,by show d.1.2.2.2+1<=276;omega,λn hn=>by
    have hn:(n:Int)<d.1.2.2.2+1:=hn;rcases(show(n:Int)<d.1.2.2.2∨n=z4 d.1.2.2.2 by omega) with h|h
    .exact iu n h
    .subst h;exact⟨by show -1125899906842624<=d.2.1.1 _;omega,by show d.2.1.1 _<=1125899906842624;omega⟩,e0,e1,e2,e3⟩,by show z4 (276-(d.1.2.2.2+1))<z4 (276-d.1.2.2.2);omega⟩
  .have c:=kD c;rw[aw]
   exact⟨λn hn=>by
    have h:=iu n (by omega);have e:d.2.1.1=w.2.1.1:=fe (λz=>z.1.1) e3;rw[<-e];exact h,e0,e1,e2,e3⟩) (λd hd=>by omega)
theorem aRQ (d:gA.B)(hd:d.1.2.2.2=0):Ok (Dw d) (λx:rG=>match x with|.inl _=>True|.inr x=>(∀n:Nat,n<276-> -1125899906842624<=d.2.1.1 n/\d.2.1.1 n<=1125899906842624)/\x.1.1=d.1.1/\x.1.2.1=d.1.2.1/\x.1.2.2.1=d.1.2.2.1/\x.2=d.2):=
 aUS d d ⟨by omega,by omega,λn hn=>by omega,rfl,rfl,rfl,rfl⟩
theorem aRR (f g:Nat->Int)(i j:Nat)(hi:i<24)(hj:j<24)(c:Bool):Ok (BN f g i j c) (λ_=>True):=by
 obtain⟨m,hm,h3⟩:∃m:Nat,(if (j:Int)>i then(j:Int) else i)=(m:Int)/\m<24:=by
  by_cases h:(j:Int)>i
  .exact⟨j,by rw[if_pos h],hj⟩
  .exact⟨i,by rw[if_neg h],hi⟩
 exact⟨_,auk f g i j m c (by omega) (by omega) hm h3,trivial⟩
theorem aZj (x:Int)(h: -1152921504606846976<=x/\x<=1152921504606846976):Ok (pV x) (λr:V7=>((r:Int)=x∨(r:Int)= -x)/\0<=(r:Int)):=by
 unfold pV Bi;show PQ _ _;rw[aL];refine⟨λc=> ?_,λc=> ?_⟩
 .have c:=db c;rw[aw];exact⟨.inl (show(1152921504606846976:Int)=x by omega),by decide⟩
 have c:=kD c;rw[aL];refine⟨λc=> ?_,λc=> ?_⟩
 .have c:=db c;rw[aw];exact⟨.inr (show(1152921504606846976:Int)= -x by omega),by decide⟩
 have c:=kD c;rw[aL];refine⟨λc=> ?_,λc=> ?_⟩
 .have c:=db c;rw[aw,dS (n:=0-x) (by omega) (by omega)];exact⟨.inr (show(0-x:Int)= -x by omega),show(0:Int)<=0-x by omega⟩
 have c:=kD c;rw[aw];exact⟨.inl rfl,show(0:Int)<=x by omega⟩
theorem aRS (x:uB.B):Ok (AW x) (λr:Iz=>r=(x.1.b.1,x.1.b.2.1)):=⟨_,rfl,rfl⟩
theorem a0J (q x a b:Int)(q0:q=x∨q= -x)(q1:0<=q)(k:2*x<=a+b+4294967296/\ -(a+b+4294967296)<=2*x)(na:0<=a)(nb:0<=b)(ka:a<=1152921504606846976)(kb:b<=1152921504606846976)(kx: -1152921504606846976<=x/\x<=1152921504606846976):decide (wI (2*q)<=wI (wI (a+b)+4294967296))=true:=by
 rw[dS (n:=2*q) (by omega) (by omega),dS (n:=a+b) (by omega) (by omega),dS (by omega) (by omega)];exact dy (by omega)
theorem aH8 (x:oW.B):Ok (wc x) (λr:Qi=>r=true):=by
 unfold wc Qj;try dsimp only
 show PQ _ _;rw[show V2=some true from rfl,cy,show(!true)=false from rfl,tN];rw[aL];refine⟨λ_=>by rw[aw],λa0=> ?_⟩;have a0:=kD a0;rw[aL];refine⟨λ_=>by rw[aw],λa1=> ?_⟩;have a1:=kD a1;rw[aL];refine⟨λ_=>by rw[aw],λb0=> ?_⟩;have b0:=kD b0;rw[aL];refine⟨λ_=>by rw[aw],λb1=> ?_⟩;have b1:=kD b1;obtain⟨i,hi⟩:∃i:Nat,x.2.1=(i:Int):=⟨z4 x.2.1,by omega⟩;obtain⟨j,hj⟩:∃j:Nat,x.2.2=(j:Int):=⟨z4 x.2.2,by omega⟩;have i24:i<24:=by omega
 have j24:j<24:=by omega
 obtain⟨m,hm,h3⟩:∃m:Nat,(if (j:Int)>i then(j:Int) else i)=(m:Int)/\m<24:=by
  by_cases h:(j:Int)>i
  .exact⟨j,by rw[if_pos h],j24⟩
  .exact⟨i,by rw[if_neg h],i24⟩
 refine ax aUQ λr _ hr=> ?_;cases r with
 |inl a=>exact absurd hr id
 |inr a=>
 simp only[tN,cy];with_reducible refine ax (aRP _ ⟨?_,?_,?_,?_⟩) λy _ hy=> ?_
 .exact dW 0
 .show(0:Int)<=6;decide
 .exact hr.1
 .exact hr.2
 rw[tw];refine⟨λd hd=> ?_,λd hd=> ?_⟩
 all_goals
  subst hd;obtain⟨iv,g,ea,eb⟩:=hy;have ea:d.1.2.1=(i:Int):=Eq.trans ea hi;have eb:d.1.b.1=(j:Int):=Eq.trans eb hj;obtain⟨_,⟨_,hD⟩,_,_⟩:=g;have hD:∀k,k<24->0<=d.b.1.b.2.1.2 k:=λk hk=>SU (by decide) (hD k hk).1
  simp only[aQ];repeat rw[aD]
  with_reducible refine ax (aRS _) λst _ hst=> ?_
  subst hst;try dsimp only
  rw[ea,eb];refine ax (aRR _ _ i j i24 j24 false) λvx hx _=> ?_;refine ax (aRR _ _ i i i24 i24 _) λva ha _=> ?_;refine ax (aRR _ _ j j j24 j24 _) λvb hb _=> ?_;have na:=aZh _ _ i i24 _ _ ha hD;have nb:=aZh _ _ j j24 _ _ hb hD;rw[cE (show ¬va.1<0 by omega),tN,cE (show ¬vb.1<0 by omega),tN];with_reducible refine ax (aRQ _ ?_) λv _ hv=> ?_
  .rfl
  rw[tw];refine⟨λ_ _=>by rw[aw],λz hz=> ?_⟩;subst hz;obtain⟨hU,v0,v1,v2,v3⟩:=hv;rw[aL];refine⟨λ_=>by rw[aw],λhf=> ?_⟩;have hf:vb.2=false:=by rw[v3] at hf;exact hf
  obtain⟨k1,k2,k3,k4,k5,k6,k7,k8⟩:=a0H _ _ i j m false vx va vb hm h3 hx ha hb hf hU hD;rw[v0,v1,v2];try dsimp only
  refine ax (aZj vx.1 ⟨k3,k4⟩) λq _ hq=> ?_;rw[aw];exact a0J q vx.1 va.1 vb.1 hq.1 hq.2 ⟨k1,k2⟩ na nb k6 k8 ⟨k3,k4⟩
theorem aZk (x:oW.B):wc x=some true:=by
 obtain⟨r,e,h⟩:=aH8 x;rw[e,h]
end Go.Proofs.YtldgljclcgaibaaGreat
