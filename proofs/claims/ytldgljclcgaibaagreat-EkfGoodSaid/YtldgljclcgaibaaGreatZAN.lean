/-
  Parts of the proof: TDg TDh TWk QA QG TGk
-/
import Derived.Test.YtldgljclcgaibaaGreatZAE
import Derived.Test.YtldgljclcgaibaaGreatZAG
import Derived.Test.YtldgljclcgaibaaGreatZAM
open Nat renaming beq→z9,ble→wr
open Int renaming toNat→z4,ofNat→ws,tdiv→t8
open Sum renaming inl→ww,inr→wt,elim→t9
set_option linter.unusedVariables false
set_option linter.unusedSimpArgs false
set_option maxRecDepth 100000
set_option maxHeartbeats 4000000
namespace Go.Proofs.YtldgljclcgaibaaGreat
open Go.Ab Go.Ab.Pg
theorem HB {α:Type}(f:Nat->α)(y j:Nat)(v:α):(bif z9 j y then v else f j)=if j=y then v else f j:=by
 by_cases h:j=y
 .rw[if_pos h,h,Fz];rfl
 .rw[if_neg h];cases e:z9 j y
  .rfl
  .exact absurd (lE e) h
theorem aD4 {α:Type}(i y:Nat)(a b:α):(bif z9 i y then a else b)=if i=y then a else b:=by
 exact HB (λ_=>b) y i a
def okV (d:Int):Prop:=d=17592186044416∨d=68719476736∨d=67108864∨d=4294967296∨d=17179869184
theorem okV.le {d:Int}(h:okV d):1<=d/\d<=72057594037927936:=by
 rcases h with rfl|rfl|rfl|rfl|rfl<;>decide
theorem af8 (x lo hi:Int)(b:Bool)(h:lo<=x)(k:x<=hi):aV x lo hi b=some (x,b):=by
 have h1:decide (lo>hi)=false:=cV (by omega);have h2:decide (x<lo)=false:=cV (by omega);have h3:decide (x>hi)=false:=cV (by omega);unfold aV qz;rw[h1,h2,h3];rfl
theorem Rp {x:Int}(h: -1152921504606846976<=x/\x<=1152921504606846976):sat x=x:=(JQ h).1
theorem Jm {x:Int}(h: -1152921504606846976<=x/\x<=1152921504606846976):eN x=false:=(JQ h).2
theorem aMk (w x:Int)(b:Bool)(hw:w=0∨w=1073741824)(hx: -1152921504606846976<=x/\x<=1152921504606846976):aZ w x 30 b=some (if w=0 then 0 else x,b):=by
 have h:=aOd w x 30 b (by decide);have e1:sat w=w:=Rp (by omega);have e2:eN w=false:=Jm (by omega)
 have r:M4 (w*x) 30=(if w=0 then 0 else x):=by
  rcases hw with rfl|rfl
  .rw[agw,if_pos rfl];rfl
  .rw[if_neg (by decide),yb];exact aOf x
 have hr: -1152921504606846976<=(if w=0 then 0 else x)/\(if w=0 then 0 else x)<=1152921504606846976:=by split<;>omega
 rw[e1,e2,Rp hx,Jm hx,r,Rp hr,Jm hr,OF,OF,OF] at h;exact h
theorem div_zero (d:Int)(b:Bool)(h:okV d):bl 0 d 30 b=some (0,b):=by
 rcases h with rfl|rfl|rfl|rfl|rfl<;>cases b<;>kernel_rfl
theorem sub_zero (x:Int)(b:Bool)(h: -1152921504606846976<=x/\x<=1152921504606846976):bT x 0 b=some (x,b):=by
 have z:sat 0=0:=Rp (by decide);have zo:eN 0=false:=Jm (by decide);simp only[bT,IM,Pg.cx,Pg.bQ,oO,bG,Rp h,Jm h,z,zo,OF,Int.sub_zero];rw[dV (by omega) (by omega),Rp h,Jm h,OF]
theorem aCr {f g:Nat->Int}:∀n,(∀j,j<n->f j=g j)->vf f n=vf g n
 |0,_=>rfl
 |n+1,h=>by
  show vf f n+f n=vf g n+g n;rw[aCr n (λj hj=>h j (by omega)),h n (by omega)]
theorem aOV {f:Nat->Bool}:∀n,(∀j,j<n->f j=false)->zk f n=false
 |0,_=>rfl
 |n+1,h=>by
  show(zk f n||f n)=false;rw[aOV n (λj hj=>h j (by omega)),h n (by omega)];rfl
theorem aJ1 {f:Nat->Int}(k:Nat):∀n,(∀j,j<n->j≠k->f j=0)->vf f n=if k<n then f k else 0
 |0,_=>by rw[if_neg (by omega)];rfl
 |n+1,h=>by
  show vf f n+f n=_;rw[aJ1 k n (λj hj=>h j (by omega))];by_cases e:n=k
  .subst e;rw[if_neg (by omega),if_pos (by omega),alk]
  .rw[h n (by omega) e,Int.add_zero];by_cases c:k<n
   .rw[if_pos c,if_pos (by omega)]
   .rw[if_neg c,if_neg (by omega)]
theorem aHh (n k:Nat)(hn:n<=100)(hk:k<n)(V:Int)(b w w':Bool)(f g:Nat->Int)(hf:∀j,j<n-> -1152921504606846976<=f j/\f j<=1152921504606846976)(hg:∀j,j<n-> -1152921504606846976<=g j/\g j<=1152921504606846976)
  (hz:∀j,j<n->j≠k->f j*g j=0)(hV:f k*g k=V*1073741824)(r: -1152921504606846976<=V/\V<=1152921504606846976):bD 30 n n b f g w w'=some (V,b):=by
 have h:=aOe 30 (by decide) n hn b f g w w'
 have e:vf (λj=>sat (f j)*sat (g j)) n=V*1073741824:=by
  rw[aCr n (λj hj=>by show sat (f j)*sat (g j)=f j*g j;rw[Rp (hf j hj),Rp (hg j hj)]:∀j,j<n->(λj=>sat (f j)*sat (g j)) j=(λj=>f j*g j) j),aJ1 k n hz,if_pos hk,hV]
 have a:zk (λj=>eN (f j)||eN (g j)) n=false:=aOV n λj hj=>by
  show(eN (f j)||eN (g j))=false;rw[Jm (hf j hj),Jm (hg j hj)];rfl
 rw[e,a,aOf,Rp r,Jm r,OF,OF] at h;exact h
theorem aY5 (x:Int)(b:Bool)(h:1<=x)(k:x<=72057594037927936):hO x b=some (x,b):=by
 unfold hO yI;rw[Pg.cx,af8 x 1 72057594037927936 b h k];rfl
theorem aY6 (x:Int)(b:Bool)(h:1<=x)(k:x<=72057594037927936):pS x b=some (x,b):=by
 unfold pS EW;rw[Pg.cx,af8 x 1 72057594037927936 b h k];rfl
theorem a0F (x:Int)(h:0<=x)(k:x<24):zf x=some true:=by
 have h1:decide (x>=0)=true:=dW h;have h2:decide (x<24)=true:=dW k;unfold zf RQ;rw[h1,h2];rfl
theorem a0G:∀j:Nat,j<24->0<=wI (t8 (wI ((j:Int)*wI ((j:Int)-1))) 2)/\wI (t8 (wI ((j:Int)*wI ((j:Int)-1))) 2)+(j:Int)<=276+(if j=0 then 1 else 0):=by decide
theorem aU3 {i j:Int}{d:VF}(h:j7 i j=some d)(ok:d.2=true):0<=d.1/\d.1<276:=by
 simp only[j7,G6,bQ,bN] at h;by_cases h0:0<=i
 .by_cases h1:i<j
  .simp only[EM,h0,h1,Jo,bB,iI] at h;subst h;have h2:j<24:=dm ok;obtain⟨n,rfl⟩:=Int.eq_ofNat_of_zero_le (by omega:0<=j);obtain⟨k1,k2⟩:=a0G n (by omega);rw[if_neg (by omega)] at k2;generalize wI (t8 (wI ((n:Int)*wI ((n:Int)-1))) 2)=c at*
   show 0<=wI (c+i)/\wI (c+i)<276;rw[dV (by omega) (by omega)];omega
  .simp only[EM,h0,h1,Jo,Kh,bB,bI,iI] at h;subst h;cases ok
 .simp only[EM,h0,Kh,bI,iI] at h;subst h;cases ok
theorem aJ2 (i j:Nat)(h:i<j)(k:j<24):∃p:Int,j7 i j=some (p,true)/\0<=p/\p<276:=by
 have c1:decide ((i:Int)>=0)=true:=dW (by omega);have c2:decide ((i:Int)<(j:Int))=true:=dW (by omega);have c3:decide ((j:Int)<24)=true:=dW (by omega)
 have e:j7 i j=some (wI (wI (t8 (wI ((j:Int)*wI ((j:Int)-1))) 2)+(i:Int)),true):=by
  unfold j7 G6;rw[c1,c2,c3];rfl
 refine⟨_,e,?_⟩;have:=aU3 e rfl;exact this
theorem aOW (U D:Nat->Int)(hU:∀p,p<276->U p=0)(i j:Nat)(h:i<=j)(k:j<24):FJ U D i j=some (if i=j then 1073741824 else 0):=by
 unfold FJ av0;by_cases e:i=j
 .subst e;have c0:((i:Int)==(i:Int))=true:=by simp
  have c1:decide ((i:Int)>=0)=true:=dW (by omega);have c2:decide ((i:Int)<24)=true:=dW (by omega);rw[c0,c1,c2,if_pos rfl];rfl
 .have c0:((i:Int)==(j:Int))=false:=by simp;omega
  obtain⟨p,hp,p0,p1⟩:=aJ2 i j (by omega) k;have c1:bf p 276=true:=by rw[bq];omega
  have c2:wr (0+z4 p*1+1) 276=true:=by rw[bZ];omega
  rw[c0,if_neg e,Pg.bN,bI,Pg.cx,hp,bG];simp only[Kg,c1,c2,Pg.bN,bI,bB,Pg.bQ];rw[hU _ (by omega)]
theorem aIH (D:Nat->Int)(i j:Nat)(h:i<j)(k:j<24):uG (λ_=>0) D i j 0=some (λ_=>0,D):=by
 obtain⟨p,hp,p0,p1⟩:=aJ2 i j h k;have c1:bf p 276=true:=by rw[bq];omega
 have c2:(wr (0+z4 p*1+1) 276&&wr (0+z4 p*1+1) 300)=true:=by rw[cB,bZ,bZ];omega
 unfold uG XG;rw[Pg.cx,hp,bG];dsimp only;rw[c1,c2];simp only[Pg.bN,bB,Pg.bQ];have e:(λj:Nat=>bif z9 j (z4 p) then(0:Int) else 0)=λ_=>0:=funext λj=>by cases z9 j (z4 p)<;>rfl
 exact cW some (Prod.ext e rfl)
theorem a2p (b:Bool)(D:Nat->Int)(hD:∀i,i<24->1<=D i/\D i<=72057594037927936):∀(d:eP.B) (hd:0<=d.1/\d.1<=24/\d.2.1=b/\(∀p,p<276->d.2.2.1.1 p=0)/\∀i,i<24->d.2.2.1.2 i=D i),Ok (rz d) (λx:lP=>x.2.1=b/\(∀p,p<276->x.2.2.1.1 p=0)/\∀i,i<24->x.2.2.1.2 i=D i):=
 bO (λd:eP.B=>z4 (24-d.1)) (λd hd=>by
  obtain⟨i0,i1,i2,i3,i4⟩:=hd;have hw:wI (d.1+1)=d.1+1:=aW;unfold ry;dsimp only;rw[aN];refine⟨λh=> ?_,λ_=>by rw[aw];exact⟨i2,i3,i4⟩⟩;have h:=dm h;have r0:bf d.1 24=true:=by rw[bq];omega
  have r1:(true&&wr (276+z4 d.1*1+1) 300)=true:=by rw[nY,bZ];omega
  have k:=i4 (z4 d.1) (by omega);have hd:=hD (z4 d.1) (by omega);rw[r0,aE,aY5 _ _ (by omega) (by omega),bV,aE,r1,aE,aw,hw];refine⟨⟨by show 0<=d.1+1;omega,by show d.1+1<=24;omega,i2,i3,λi hi=> ?_⟩,by show z4 (24-(d.1+1))<_;omega⟩;show(bif z9 i (z4 d.1) then d.2.2.1.2 (z4 d.1) else d.2.2.1.2 i)=D i;rw[HB];split
  .rename_i e;rw[e,k]
  .exact i4 i hi) (λd hd=>by omega)
theorem a2q (b:Bool)(D:Nat->Int):∀(d:eQ.B) (hd:0<=d.1/\d.1<=276/\d.2.1=b/\(∀p,p<276->d.2.2.1.1 p=0)/\∀i,i<24->d.2.2.1.2 i=D i),Ok (rB d) (λx:lQ=>x.2.1=b/\(∀p,p<276->x.2.2.1.1 p=0)/\∀i,i<24->x.2.2.1.2 i=D i):=
 bO (λd:eQ.B=>z4 (276-d.1)) (λd hd=>by
  obtain⟨i0,i1,i2,i3,i4⟩:=hd;have hw:wI (d.1+1)=d.1+1:=aW;unfold rA;dsimp only;rw[aN];refine⟨λh=> ?_,λ_=>by rw[aw];exact⟨i2,i3,i4⟩⟩;have h:=dm h;have r0:bf d.1 276=true:=by rw[bq];omega
  have r1:wr (0+z4 d.1*1+1) 276=true:=by rw[bZ];omega
  have r2:wr (0+z4 d.1*1+1) 300=true:=by rw[bZ];omega
  rw[r0,r1,r2,i3 (z4 d.1) (by omega),aE,aE,af8 0 _ _ _ (by decide) (by decide),bV,aE,nY,aE,aw,hw];refine⟨⟨by show 0<=d.1+1;omega,by show d.1+1<=276;omega,i2,λi hi=> ?_,i4⟩,by show z4 (276-(d.1+1))<_;omega⟩;show(bif z9 i (z4 d.1) then 0 else d.2.2.1.1 i)=0;rw[HB];split
  .rfl
  .exact i3 i hi) (λd hd=>by omega)
theorem aR7 (U D:Nat->Int)(b:Bool)(hU:∀p,p<276->U p=0)(hD:∀i,i<24->1<=D i/\D i<=72057594037927936):Ok (dO U D b) (λr:O8=>r.2=b/\(∀p,p<276->r.1.1 p=0)/\∀i,i<24->r.1.2 i=D i):=by
 unfold dO wq;show PQ _ _;refine aA (a2p b D hD _ ⟨fk 0,(show(0:Int)<=24 by decide),rfl,hU,λ_ _=>rfl⟩) λx _ hx=> ?_;refine aA (a2q b D _ ⟨fk 0,(show(0:Int)<=276 by decide),hx⟩) λy _ hy=> ?_;rw[aw];exact hy
theorem a2r (k:Nat)(hk:k<24)(w d:fN.B)(hU:∀p,p<276->w.2.2.2.1.1 p=0)(hd:0<=d.1.2.2.2/\d.1.2.2.2<=d.1.2.2.1/\d.1.2.2.1=(k:Int)+1/\d.1.1=k/\d.1.2.1=k/\d.2.1=w.2.1/\d.2.2.1=w.2.2.1/\d.2.2.2.1=w.2.2.2.1/\d.2.2.2.2.1=w.2.2.2.2.1/\∀m:Nat,m<24->d.2.2.2.2.2 m=if m=k/\(m:Int)<d.1.2.2.2 then 1073741824 else 0):Ok (Cw d) (λx:od=>x.1.1=k/\x.1.2.1=k/\x.2.1=w.2.1/\x.2.2.1=w.2.2.1/\x.2.2.2.1=w.2.2.2.1/\x.2.2.2.2.1=w.2.2.2.2.1/\∀m:Nat,m<24->x.2.2.2.2.2 m=if m=k then 1073741824 else 0):=
 wN (s:=_) (λd:fN.B=>0<=d.1.2.2.2/\d.1.2.2.2<=d.1.2.2.1/\d.1.2.2.1=(k:Int)+1/\d.1.1=k/\d.1.2.1=k/\d.2.1=w.2.1/\d.2.2.1=w.2.2.1/\d.2.2.2.1=w.2.2.2.1/\d.2.2.2.2.1=w.2.2.2.2.1/\∀m:Nat,m<24->d.2.2.2.2.2 m=if m=k/\(m:Int)<d.1.2.2.2 then 1073741824 else 0) (λd:fN.B=>z4 (d.1.2.2.1-d.1.2.2.2)) (λx:od=>x.1.1=k/\x.1.2.1=k/\x.2.1=w.2.1/\x.2.2.1=w.2.2.1/\x.2.2.2.1=w.2.2.2.1/\x.2.2.2.2.1=w.2.2.2.2.1/\∀m:Nat,m<24->x.2.2.2.2.2 m=if m=k then 1073741824 else 0) (λd hd=>by
  obtain⟨i0,i1,i2,i3,i3',i4,i5,i6,i7,i8⟩:=hd;have hw:wI (d.1.2.2.2+1)=d.1.2.2.2+1:=aW;unfold Cv;dsimp only;rw[aN];refine⟨λh=> ?_,λh=> ?_⟩
  .have h:=dm h;obtain⟨m,hm⟩:∃m:Nat,d.1.2.2.2=(m:Int):=⟨z4 d.1.2.2.2,by omega⟩;have r0:bf d.1.2.2.2 24=true:=by rw[bq];omega
   have r1:(true&&wr (0+z4 d.1.2.2.2*1+1) 24)=true:=by rw[nY,bZ];omega
   rw[r0,r1,i6,i3,hm,aOW _ _ hU m k (by omega) hk,bV,aE,aE,aw];rw[hm] at hw;rw[hw];refine⟨⟨by show 0<=(m:Int)+1;omega,by show(m:Int)+1<=d.1.2.2.1;omega,i2,rfl,i3',i4,i5,rfl,i7,λj hj=> ?_⟩,by show z4 (d.1.2.2.1-((m:Int)+1))<_;omega⟩;show(bif z9 j (z4 (m:Int)) then(if m=k then 1073741824 else 0) else d.2.2.2.2.2 j)=if j=k/\(j:Int)<(m:Int)+1 then 1073741824 else 0
   rw[HB,i8 j hj,hm,Kf];by_cases e1:j=m
   .subst e1;rw[if_pos rfl];by_cases e2:j=k
    .rw[if_pos e2,if_pos ⟨e2,by omega⟩]
    .rw[if_neg e2,if_neg (λh=>e2 h.1)]
   .rw[if_neg e1];by_cases e2:j=k/\(j:Int)<(m:Int)
    .rw[if_pos e2,if_pos ⟨e2.1,by omega⟩]
    .rw[if_neg e2,if_neg (λh=>e2 ⟨h.1,by omega⟩)]
  .have h:=vk h;rw[aw];refine⟨i3,i3',i4,i5,i6,i7,λm hm=> ?_⟩;show d.2.2.2.2.2 m=_;rw[i8 m hm];by_cases e:m=k
   .rw[if_pos e,if_pos ⟨e,by omega⟩]
   .rw[if_neg e,if_neg (λh=>e h.1)]) 2000 d hd (by omega)
theorem a2s (F:Nat->Int)(hF:∀i,i<24->F i=0∨F i=1073741824)(k:Nat)(hk:k<24)(w d:fO.B)(hf:∀i k,i<24->k<24->w.2.2.1 (i*24+k)=if i=k then F i else 0)(hc:∀m:Nat,m<24->w.2.2.2.2.2 m=if m=k then 1073741824 else 0)(hd:0<=d.1.2.2/\d.1.2.2<=24/\d.1.1=k/\d.1.2.1=k/\d.2.1=w.2.1/\d.2.2.1=w.2.2.1/\d.2.2.2.1=w.2.2.2.1/\d.2.2.2.2.2=w.2.2.2.2.2/\∀i j,i<24->j<48->d.2.2.2.2.1 (i*48+j)=if i=j/\(j<k∨(j=k/\(k:Int)<d.1.2.2)) then F i else 0):Ok (Cz d) (λx:oi=>x.1.2.1=k/\x.2.1=w.2.1/\x.2.2.1=w.2.2.1/\x.2.2.2.1=w.2.2.2.1/\∀i j,i<24->j<48->x.2.2.2.2.1 (i*48+j)=if i=j/\j<k+1 then F i else 0):=
 wN (s:=_) (λd:fO.B=>0<=d.1.2.2/\d.1.2.2<=24/\d.1.1=k/\d.1.2.1=k/\d.2.1=w.2.1/\d.2.2.1=w.2.2.1/\d.2.2.2.1=w.2.2.2.1/\d.2.2.2.2.2=w.2.2.2.2.2/\∀i j,i<24->j<48->d.2.2.2.2.1 (i*48+j)=if i=j/\(j<k∨(j=k/\(k:Int)<d.1.2.2)) then F i else 0) (λd:fO.B=>z4 (24-d.1.2.2)) (λx:oi=>x.1.2.1=k/\x.2.1=w.2.1/\x.2.2.1=w.2.2.1/\x.2.2.2.1=w.2.2.2.1/\∀i j,i<24->j<48->x.2.2.2.2.1 (i*48+j)=if i=j/\j<k+1 then F i else 0) (λd hd=>by
  obtain⟨i0,i1,i2,i3,i4,i5,i6,i7,i8⟩:=hd;have hw:wI (d.1.2.2+1)=d.1.2.2+1:=aW;unfold Cy;dsimp only;rw[aN];refine⟨λh=> ?_,λh=> ?_⟩
  .have h:=dm h;obtain⟨m,hm⟩:∃m:Nat,d.1.2.2=(m:Int):=⟨z4 d.1.2.2,by omega⟩;have aTn:m<24:=by omega
   have r0:bf d.1.2.2 24=true:=by rw[bq];omega
   have r1:bf d.1.1 48=true:=by rw[bq];omega
   have r2:(true&&wr (0+(z4 d.1.2.2*48+z4 d.1.1)*1+1) 1152)=true:=by rw[nY,bZ];omega
   have bF:∀j,j<24-> -1152921504606846976<=F j/\F j<=1152921504606846976:=λj hj=>by have:=hF j hj;omega
   have dot:bD 30 24 24 d.2.1 (λj=>d.2.2.1 (0+z4 d.1.2.2*24+j)) d.2.2.2.2.2 false false=some (if m=k then F k else 0,d.2.1):=by
    have fj:∀j,j<24->d.2.2.1 (0+z4 d.1.2.2*24+j)=if m=j then F m else 0:=λj hj=>by
     rw[i5,hm,Kf,dG];exact hf m j aTn hj
    have gj:∀j,j<24->d.2.2.2.2.2 j=if j=k then 1073741824 else 0:=λj hj=>by rw[i7];exact hc j hj
    refine aHh 24 k (by decide) hk _ _ _ _ _ _ (λj hj=> ?_) (λj hj=> ?_) (λj hj e=> ?_) ?_ ?_
    .show -1152921504606846976<=d.2.2.1 (0+z4 d.1.2.2*24+j)/\d.2.2.1 (0+z4 d.1.2.2*24+j)<=1152921504606846976;rw[fj j hj];have:=bF m aTn;split<;>omega
    .rw[gj j hj];split<;>omega
    .show d.2.2.1 (0+z4 d.1.2.2*24+j)*d.2.2.2.2.2 j=0;rw[gj j hj,if_neg e,Int.mul_zero]
    .show d.2.2.1 (0+z4 d.1.2.2*24+k)*d.2.2.2.2.2 k=_;rw[fj k hk,gj k hk,if_pos rfl];by_cases e:m=k
     .subst e;rw[if_pos rfl]
     .rw[if_neg e,if_neg e]
    .have:=bF k hk;split<;>omega
   rw[r0,aE,dot,bV,aE,r1,aE,r2,aE,aw,hw];refine⟨⟨by show 0<=d.1.2.2+1;omega,by show d.1.2.2+1<=24;omega,i2,i3,i4,i5,i6,i7,λi j hi hj=> ?_⟩,by show z4 (24-(d.1.2.2+1))<_;omega⟩;show(bif z9 (i*48+j) (z4 d.1.2.2*48+z4 d.1.1) then(if m=k then F k else 0) else d.2.2.2.2.1 (i*48+j))=if i=j/\(j<k∨(j=k/\(k:Int)<d.1.2.2+1)) then F i else 0
   rw[HB,i8 i j hi hj,hm,i2,Kf,Kf];by_cases e1:i*48+j=m*48+k
   .have ei:i=m:=by omega
    have ej:j=k:=by omega
    subst ei;subst ej;rw[if_pos e1];by_cases e2:i=j
    .subst e2;rw[if_pos rfl,if_pos ⟨rfl,Or.inr ⟨rfl,by omega⟩⟩]
    .rw[if_neg e2,if_neg (λh=>e2 h.1)]
   .rw[if_neg e1];by_cases e2:i=j/\(j<k∨(j=k/\(k:Int)<(m:Int)))
    .rw[if_pos e2,if_pos (by omega)]
    .rw[if_neg e2,if_neg (by omega)]
  .have h:=vk h;rw[aw];refine⟨i3,i4,i5,i6,λi j hi hj=> ?_⟩;show d.2.2.2.2.1 (i*48+j)=_;rw[i8 i j hi hj];by_cases e:i=j/\(j<k∨(j=k/\(k:Int)<d.1.2.2))
   .rw[if_pos e,if_pos (by omega)]
   .rw[if_neg e,if_neg (by omega)]) 2000 d hd (by omega)
theorem a2t (F:Nat->Int)(hF:∀i,i<24->F i=0∨F i=1073741824)(w d:fP.B)(hU:∀p,p<276->w.b.2.1.1 p=0)(hf:∀i k,i<24->k<24->w.b.1 (i*24+k)=if i=k then F i else 0)(hd:0<=d.1/\d.1<=24/\d.2.1=w.2.1/\d.b.1=w.b.1/\d.b.2.1=w.b.2.1/\∀i j,i<24->j<48->d.b.2.2 (i*48+j)=if i=j/\(j:Int)<d.1 then F i else 0):Ok (CD d) (λx:om=>x.2.1=w.2.1/\x.b.1=w.b.1/\∀i j,i<24->j<48->x.b.2.2 (i*48+j)=if i=j/\j<24 then F i else 0):=
 wN (s:=_) (λd:fP.B=>0<=d.1/\d.1<=24/\d.2.1=w.2.1/\d.b.1=w.b.1/\d.b.2.1=w.b.2.1/\∀i j,i<24->j<48->d.b.2.2 (i*48+j)=if i=j/\(j:Int)<d.1 then F i else 0) (λd:fP.B=>z4 (24-d.1)) (λx:om=>x.2.1=w.2.1/\x.b.1=w.b.1/\∀i j,i<24->j<48->x.b.2.2 (i*48+j)=if i=j/\j<24 then F i else 0) (λd hd=>by
  obtain⟨i0,i1,i2,i3,i4,i5⟩:=hd;unfold CC;dsimp only;rw[aN];refine⟨λh=> ?_,λh=> ?_⟩
  .have h:=dm h;obtain⟨k,hk⟩:∃m:Nat,d.1=(m:Int):=⟨z4 d.1,by omega⟩;have a1K:k<24:=by omega
   have hw:wI (d.1+1)=(k:Int)+1:=by rw[hk];exact aW (by omega) (by omega)
   refine aA (a2r k a1K ((d.1,d.1,wI (d.1+1),0),d.2.1,d.b.1,d.b.2.1,d.b.2.2,λx=>0) _ (by show∀p,p<276->d.b.2.1.1 p=0;rw[i4];exact hU) ⟨fk 0,by show 0<=wI (d.1+1);omega,hw,hk,hk,rfl,rfl,rfl,rfl,λm hm=>by show(0:Int)=_;rw[if_neg (by show ¬(m=k/\(m:Int)<0);omega)]⟩) λx _ hx=> ?_;obtain⟨a0,a1,a2,a3,a4,a5,a6⟩:=hx;have a2:x.2.1=d.2.1:=a2;have a3:x.b.1=d.b.1:=a3;have a4:x.b.2.1=d.b.2.1:=a4;have a5:x.c.1=d.b.2.2:=a5;refine aA (a2s F hF k a1K ((x.1.1,x.1.2.1,0),x.2) _ (by show∀i k,i<24->k<24->x.b.1 (i*24+k)=_;rw[a3,i3];exact hf) a6 ⟨fk 0,(show(0:Int)<=24 by decide),a0,a1,rfl,rfl,rfl,rfl,λi j hi hj=> ?_⟩) λy _ hy=> ?_
   .show x.c.1 (i*48+j)=if i=j/\(j<k∨(j=k/\(k:Int)<0)) then F i else 0
    rw[a5,i5 i j hi hj];by_cases e:i=j/\(j:Int)<d.1
    .rw[if_pos e,if_pos (by omega)]
    .rw[if_neg e,if_neg (by omega)]
   obtain⟨b1,b2,b3,b4,b5⟩:=hy;have b2:y.2.1=x.2.1:=b2;have b3:y.b.1=x.b.1:=b3;have b4:y.b.2.1=x.b.2.1:=b4;have hw2:wI (y.1.2.1+1)=d.1+1:=by rw[b1,hk];exact aW (by omega) (by omega)
   rw[aw,hw2];refine⟨⟨by show 0<=d.1+1;omega,by show d.1+1<=24;omega,b2.trans (a2.trans i2),b3.trans (a3.trans i3),b4.trans (a4.trans i4),λi j hi hj=> ?_⟩,by show z4 (24-(d.1+1))<_;omega⟩;show y.c.1 (i*48+j)=if i=j/\(j:Int)<d.1+1 then F i else 0
   rw[b5 i j hi hj];by_cases e:i=j/\j<k+1
   .rw[if_pos e,if_pos (by omega)]
   .rw[if_neg e,if_neg (by omega)]
  .have h:=vk h;rw[aw];refine⟨i2,i3,λi j hi hj=> ?_⟩;show d.b.2.2 (i*48+j)=_;rw[i5 i j hi hj];by_cases e:i=j/\j<24
   .rw[if_pos e,if_pos (by omega)]
   .rw[if_neg e,if_neg (by omega)]) 2000 d hd (by omega)
theorem a2u (F:Nat->Int)(b:Bool):∀(d:gS.B) (hd:0<=d.1/\d.1<=24/\d.2.1=b/\∀i k:Nat,i<24->k<48->d.2.2.2 (i*48+k)=if i=k then F i else if k=24+i/\(i:Int)<d.1 then 1073741824 else 0),Ok (CB d) (λx:rC=>x.2.1=b/\∀i k,i<24->k<48->x.2.2.2 (i*48+k)=if i=k then F i else if k=24+i then 1073741824 else 0):=
 bO (λd:gS.B=>z4 (24-d.1)) (λd hd=>by
  obtain⟨i0,i1,i2,i3⟩:=hd;have hw:wI (d.1+1)=d.1+1:=aW;unfold CA;dsimp only;rw[aN];refine⟨λh=> ?_,λh=> ?_⟩
  .have h:=dm h;have h1:wI (24+d.1)=24+d.1:=dV;have r0:bf d.1 24=true:=by rw[bq];omega
   have r1:bf (24+d.1) 48=true:=by rw[bq];omega
   have r2:(true&&wr (0+(z4 d.1*48+z4 (24+d.1))*1+1) 1152)=true:=by rw[nY,bZ];omega
   rw[h1,r0,r1,r2,hw,aE,aE,aE,aw];refine⟨⟨by show 0<=d.1+1;omega,by show d.1+1<=24;omega,i2,λi k hi hk=> ?_⟩,by show z4 (24-(d.1+1))<_;omega⟩;show(bif z9 (i*48+k) (z4 d.1*48+z4 (24+d.1)) then 1073741824 else d.2.2.2 (i*48+k))=if i=k then F i else if k=24+i/\(i:Int)<d.1+1 then 1073741824 else 0
   rw[HB,i3 i k hi hk];by_cases e1:i*48+k=z4 d.1*48+z4 (24+d.1)
   .rw[if_pos e1,if_neg (by omega),if_pos (by omega)]
   .rw[if_neg e1];by_cases e2:i=k
    .rw[if_pos e2,if_pos e2]
    .rw[if_neg e2,if_neg e2];by_cases e3:k=24+i/\(i:Int)<d.1
     .rw[if_pos e3,if_pos (by omega)]
     .rw[if_neg e3,if_neg (by omega)]
  .have h:=vk h;rw[aw];refine⟨i2,λi k hi hk=> ?_⟩;show d.2.2.2 (i*48+k)=_;rw[i3 i k hi hk];by_cases e2:i=k
   .rw[if_pos e2,if_pos e2]
   .rw[if_neg e2,if_neg e2];by_cases e3:k=24+i
    .rw[if_pos e3,if_pos (by omega)]
    .rw[if_neg e3,if_neg (by omega)]) (λd hd=>by omega)
theorem aR8 (F U D Fm:Nat->Int)(b:Bool)(hF:∀i,i<24->F i=0∨F i=1073741824)(hU:∀p,p<276->U p=0)(hf:∀i k,i<24->k<24->Fm (i*24+k)=if i=k then F i else 0):Ok (rD U D b Fm) (λr:Pb=>r.1=b/\∀i k,i<24->k<48->r.2 (i*48+k)=if i=k then F i else if k=24+i then 1073741824 else 0):=by
 unfold rD Ha;show PQ _ _;refine aA (a2t F hF (0,b,Fm,(U,D),λx=>0) _ hU hf ⟨fk 0,(show(0:Int)<=24 by decide),rfl,rfl,rfl,λi j hi hj=>by show(0:Int)=_;rw[if_neg (by show ¬(i=j/\(j:Int)<0);omega)]⟩) λx _ hx=> ?_;obtain⟨a1,a2,a3⟩:=hx;refine aA (a2u F b _ ⟨fk 0,(show(0:Int)<=24 by decide),a1,λi k hi hk=> ?_⟩) λy _ hy=> ?_
 .show x.b.2.2 (i*48+k)=_;rw[a3 i k hi hk];by_cases e:i=k
  .rw[if_pos ⟨e,by omega⟩,if_pos e]
  .rw[if_neg (λh=>e h.1),if_neg e,if_neg (by show ¬(k=24+i/\(i:Int)<0);omega)]
 .rw[aw];exact hy
theorem a38 (F:Nat->Int)(hF:∀i,i<24->F i=0∨F i=1073741824)(w d:fQ.B)(hi:0<=w.1.1/\w.1.1<24)(hd:0<=d.1.2.2/\d.1.2.2<=24/\d.1.1=w.1.1/\d.1.2.1=w.1.2.1/\d.2.1=w.2.1/\d.b.1=w.b.1/\(∀i k,i<24->k<24->d.b.2.1 (i*24+k)=if i=k then F i else 0)/\d.b.2.2=w.b.2.2):Ok (CF d) (λx:oq=>x.1.2.1=w.1.2.1/\x.2.1=w.2.1/\x.b.1=w.b.1/\(∀i k,i<24->k<24->x.b.2.1 (i*24+k)=if i=k then F i else 0)/\x.b.2.2=w.b.2.2):=
 wN (s:=_) (λd:fQ.B=>0<=d.1.2.2/\d.1.2.2<=24/\d.1.1=w.1.1/\d.1.2.1=w.1.2.1/\d.2.1=w.2.1/\d.b.1=w.b.1/\(∀i k,i<24->k<24->d.b.2.1 (i*24+k)=if i=k then F i else 0)/\d.b.2.2=w.b.2.2) (λd:fQ.B=>z4 (24-d.1.2.2)) (λx:oq=>x.1.2.1=w.1.2.1/\x.2.1=w.2.1/\x.b.1=w.b.1/\(∀i k,i<24->k<24->x.b.2.1 (i*24+k)=if i=k then F i else 0)/\x.b.2.2=w.b.2.2) (λd hd=>by
  obtain⟨i0,i1,i2,i3,i4,i5,i6,i7⟩:=hd;have hw:wI (d.1.2.2+1)=d.1.2.2+1:=aW;unfold CE;dsimp only;rw[aN];refine⟨λh=> ?_,λh=>by rw[aw];exact⟨i3,i4,i5,i6,i7⟩⟩;have h:=dm h;have r0:bf d.1.1 24=true:=by rw[bq,i2];omega
  have r1:bf d.1.2.2 24=true:=by rw[bq];omega
  have r2:(true&&wr (0+(z4 d.1.1*24+z4 d.1.2.2)*1+1) 576)=true:=by rw[nY,bZ,i2];omega
  have v:=i6 (z4 d.1.1) (z4 d.1.2.2) (by rw[i2];omega) (by omega);have bF:=hF (z4 d.1.1) (by rw[i2];omega)
  have s:aP (d.b.2.1 (z4 d.1.1*24+z4 d.1.2.2)) d.2.1=some (d.b.2.1 (z4 d.1.1*24+z4 d.1.2.2),d.2.1):=by
   have r: -1152921504606846976<=d.b.2.1 (z4 d.1.1*24+z4 d.1.2.2)/\d.b.2.1 (z4 d.1.1*24+z4 d.1.2.2)<=1152921504606846976:=by rw[v];split<;>omega
   rw[oO,Rp r,Jm r,OF]
  rw[r0,r1,r2,aE,aE,s,bV,aE,aE,aE,aw,hw];refine⟨⟨by show 0<=d.1.2.2+1;omega,by show d.1.2.2+1<=24;omega,i2,i3,i4,i5,λi k hi hk=> ?_,i7⟩,by show z4 (24-(d.1.2.2+1))<_;omega⟩;show(bif z9 (i*24+k) (z4 d.1.1*24+z4 d.1.2.2) then d.b.2.1 (z4 d.1.1*24+z4 d.1.2.2) else d.b.2.1 (i*24+k))=_;rw[HB];split
  .rename_i e;rw[<-e];exact i6 i k hi hk
  .exact i6 i k hi hk) 2000 d hd (by omega)
theorem a39 (F D q:Nat->Int)(b:Bool)(hF:∀i,i<24->F i=0∨F i=1073741824)(w d:fR.B)(hD:∀i,i<24->w.b.1.2 i=D i)(hq:∀i,i<24->w.c.1 i=q i/\0<=q i/\q i<=72057594037927936)(hd:0<=d.1/\d.1<=24/\d.2.1=b/\d.b.1=w.b.1/\(∀i k,i<24->k<24->d.b.2.1 (i*24+k)=if i=k then F i else 0)/\d.c.1=w.c.1/\d.c.2.1=w.c.2.1/\∀i:Nat,i<24->(i:Int)<d.1->d.c.2.2 i=D i/\d.c.2.2 (24+i)=q i):Ok (CI d) (λx:ot=>x.2.1=b/\x.b.1=w.b.1/\(∀i k,i<24->k<24->x.b.2.1 (i*24+k)=if i=k then F i else 0)/\x.c.2.1=w.c.2.1/\∀i:Nat,i<24->(i:Int)<24->x.c.2.2 i=D i/\x.c.2.2 (24+i)=q i):=
 wN (s:=_) (λd:fR.B=>0<=d.1/\d.1<=24/\d.2.1=b/\d.b.1=w.b.1/\(∀i k,i<24->k<24->d.b.2.1 (i*24+k)=if i=k then F i else 0)/\d.c.1=w.c.1/\d.c.2.1=w.c.2.1/\∀i:Nat,i<24->(i:Int)<d.1->d.c.2.2 i=D i/\d.c.2.2 (24+i)=q i) (λd:fR.B=>z4 (24-d.1)) (λx:ot=>x.2.1=b/\x.b.1=w.b.1/\(∀i k,i<24->k<24->x.b.2.1 (i*24+k)=if i=k then F i else 0)/\x.c.2.1=w.c.2.1/\∀i:Nat,i<24->(i:Int)<24->x.c.2.2 i=D i/\x.c.2.2 (24+i)=q i) (λd hd=>by
  obtain⟨i0,i1,i2,i3,i4,i5,i6,i7⟩:=hd;have hw:wI (d.1+1)=d.1+1:=aW;unfold CG;dsimp only;rw[aN];refine⟨λh=> ?_,λh=> ?_⟩
  .have h:=dm h;have h1:wI (24+d.1)=24+d.1:=dV;have r0:bf d.1 24=true:=by rw[bq];omega
   have r1:bf d.1 48=true:=by rw[bq];omega
   have r2:(true&&wr (0+z4 d.1*1+1) 48)=true:=by rw[nY,bZ];omega
   have r3:bf (24+d.1) 48=true:=by rw[bq];omega
   have r4:(true&&wr (0+z4 (24+d.1)*1+1) 48)=true:=by rw[nY,bZ];omega
   obtain⟨m,hm⟩:∃m:Nat,d.1=(m:Int):=⟨z4 d.1,by omega⟩;have aTn:m<24:=by omega
   have vq:=hq m aTn
   have c:aV (d.c.1 (z4 d.1)) 0 72057594037927936 d.2.1=some (q m,b):=by
    rw[i5,hm,Kf,vq.1,i2];exact af8 _ _ _ _ vq.2.1 vq.2.2
   rw[h1,r0,r1,r2,r3,r4,aE,aE,c,bV,aE,aE,aE,aE];refine aA (a38 F hF _ _ ⟨i0,h⟩ ⟨fk 0,(show(0:Int)<=24 by decide),rfl,rfl,rfl,rfl,i4,rfl⟩) λx _ hx=> ?_;obtain⟨a0,a1,a2,a3,a4⟩:=hx;have a0:x.1.2.1=d.1:=a0;have a1:x.2.1=b:=a1;have a2:x.b.1=d.b.1:=a2;rw[aw,a0,hw];refine⟨⟨by show 0<=d.1+1;omega,by show d.1+1<=24;omega,a1,a2.trans i3,a3,(cW (λz=>z.1) a4).trans i5,(cW (λz=>z.2.1) a4).trans i6,λi hi hj=> ?_⟩,by show z4 (24-(d.1+1))<_;omega⟩;have a6:x.c.2.2=λj=>bif z9 j (z4 (24+d.1)) then q m else bif z9 j (z4 d.1) then d.b.1.2 (z4 d.1) else d.c.2.2 j:=cW (λz=>z.2.2) a4
   show x.c.2.2 i=D i/\x.c.2.2 (24+i)=q i;have hj:(i:Int)<d.1+1:=hj;rw[a6];show(bif z9 i (z4 (24+d.1)) then q m else bif z9 i (z4 d.1) then d.b.1.2 (z4 d.1) else d.c.2.2 i)=D i/\(bif z9 (24+i) (z4 (24+d.1)) then q m else bif z9 (24+i) (z4 d.1) then d.b.1.2 (z4 d.1) else d.c.2.2 (24+i))=q i;rw[aD4,aD4,aD4,aD4,if_neg (by omega:¬i=z4 (24+d.1)),if_neg (by omega:¬24+i=z4 d.1)];by_cases e:i=m
   .subst e;rw[if_pos (by omega:i=z4 d.1),if_pos (by omega:24+i=z4 (24+d.1)),hm,Kf,i3];exact⟨hD i hi,rfl⟩
   .rw[if_neg (by omega:¬i=z4 d.1),if_neg (by omega:¬24+i=z4 (24+d.1))];exact i7 i hi (by omega)
  .have h:=vk h;rw[aw];exact⟨i2,i3,i4,i6,λi hi hj=>i7 i hi (by omega)⟩) 2000 d hd (by omega)
def Qv (F D q:Nat->Int):Prop:=∀i,i<24->okV (D i)/\((F i=1073741824/\q i=0)∨(F i=0/\okV (q i)))
def kept (F D q:Nat->Int)(i:Nat):Int:=if F i=0 then q i else D i
theorem Qv.F {F D q:Nat->Int}(h:Qv F D q):∀i,i<24->F i=0∨F i=1073741824:=λi hi=>by
 rcases(h i hi).2 with a|a
 .exact Or.inr a.1
 .exact Or.inl a.1
theorem Qv.q {F D q:Nat->Int}(h:Qv F D q):∀i,i<24->0<=q i/\q i<=72057594037927936:=λi hi=>by
 rcases(h i hi).2 with a|a
 .have:=a.2;omega
 .have:=a.2.le;omega
theorem Qv.z {F D q:Nat->Int}(h:Qv F D q):∀i,i<24->¬F i=0->q i=0/\F i=1073741824:=λi hi n=>by
 rcases(h i hi).2 with a|a
 .exact⟨a.2,a.1⟩
 .exact absurd a.1 n
theorem Qv.k {F D q:Nat->Int}(h:Qv F D q):∀i,i<24->okV (kept F D q i):=λi hi=>by
 unfold kept;rcases(h i hi).2 with a|a
 .rw[if_neg (by omega)];exact(h i hi).1
 .rw[if_pos a.1];exact a.2
def yv (F D q:Nat->Int)(j k:Nat):Int:=if k=j then(if F j=0 then 0 else D j) else if k=24+j then q j else 0
theorem aY7 {F D q:Nat->Int}(h:Qv F D q)(j k:Nat)(hj:j<24): -1152921504606846976<=yv F D q j k/\yv F D q j k<=1152921504606846976:=by
 have:=(h j hj).1.le;have:=h.q j hj;unfold yv;split
 .split<;>omega
 .split<;>omega
theorem a4a (F D q:Nat->Int)(hk:Qv F D q)(j:Nat)(hj:j<24)(w d:eR.B)(he:∀i:Nat,i<24->w.b.2.1 i=D i/\w.b.2.1 (24+i)=q i)(hW:(∀i k,i<24->k<48->w.c.1 (i*48+k)=if i=k then F i else if k=24+i then 1073741824 else 0))(hd:0<=d.1.2/\d.1.2<=48/\d.1.1=(j:Int)/\d.2.1=w.2.1/\d.b.1=w.b.1/\d.b.2.1=w.b.2.1/\d.c.1=w.c.1/\d.c.2.1=w.c.2.1/\∀k:Nat,k<48->(k:Int)<d.1.2->d.c.2.2 k=yv F D q j k):Ok (wV d) (λx:lS=>x.1.1=(j:Int)/\x.2.1=w.2.1/\x.b.1=w.b.1/\x.b.2.1=w.b.2.1/\x.c.1=w.c.1/\x.c.2.1=w.c.2.1/\∀k:Nat,k<48->x.c.2.2 k=yv F D q j k):=
 wN (s:=_) (λd:eR.B=>0<=d.1.2/\d.1.2<=48/\d.1.1=(j:Int)/\d.2.1=w.2.1/\d.b.1=w.b.1/\d.b.2.1=w.b.2.1/\d.c.1=w.c.1/\d.c.2.1=w.c.2.1/\∀k:Nat,k<48->(k:Int)<d.1.2->d.c.2.2 k=yv F D q j k) (λd:eR.B=>z4 (48-d.1.2)) (λx:lS=>x.1.1=(j:Int)/\x.2.1=w.2.1/\x.b.1=w.b.1/\x.b.2.1=w.b.2.1/\x.c.1=w.c.1/\x.c.2.1=w.c.2.1/\∀k:Nat,k<48->x.c.2.2 k=yv F D q j k) (λd hd=>by
  obtain⟨i0,i1,i2,i3,i4,i5,i6,i7,i8⟩:=hd;have hw:wI (d.1.2+1)=d.1.2+1:=aW;unfold wT;dsimp only;rw[aN];refine⟨λh=> ?_,λh=> ?_⟩
  .have h:=dm h;obtain⟨m,hm⟩:∃m:Nat,d.1.2=(m:Int):=⟨z4 d.1.2,by omega⟩;have a4b:m<48:=by omega
   have r0:bf d.1.1 24=true:=by rw[bq,i2];omega
   have r1:bf d.1.2 48=true:=by rw[bq];omega
   have r2:(true&&wr (0+z4 d.1.2*1+1) 48)=true:=by rw[nY,bZ];omega
   have wv:d.c.1 (z4 d.1.1*48+z4 d.1.2)=if j=m then F j else if m=24+j then 1073741824 else 0:=by
    rw[i6,i2,hm,Kf,Kf];exact hW j m hj a4b
   have e3:d.b.2.1 (z4 d.1.2)=w.b.2.1 m:=by rw[i5,hm,Kf]
   have em: -1152921504606846976<=w.b.2.1 m/\w.b.2.1 m<=1152921504606846976:=by
    by_cases c:m<24
    .have:=(he m c).1;have:=(hk m c).1.le;omega
    .have e:=(he (m-24) (by omega)).2;rw[(by omega:24+(m-24)=m)] at e;have:=hk.q (m-24) (by omega);omega
   have mul:aZ (d.c.1 (z4 d.1.1*48+z4 d.1.2)) (d.b.2.1 (z4 d.1.2)) 30 d.2.1=some (yv F D q j m,d.2.1):=by
    have hF:=hk.F j hj;by_cases c1:m=j
    .have wv':d.c.1 (z4 d.1.1*48+z4 d.1.2)=F j:=by rw[wv,if_pos c1.symm]
     rw[wv',e3,aMk _ _ _ hF em];refine cW (λz=>some (z,d.2.1)) ?_;unfold yv;rw[if_pos c1,c1,(he j hj).1]
    .by_cases c2:m=24+j
     .have wv':d.c.1 (z4 d.1.1*48+z4 d.1.2)=1073741824:=by rw[wv,if_neg (λh=>c1 h.symm),if_pos c2]
      rw[wv',e3,aMk _ _ _ (Or.inr rfl) em,if_neg (by decide)];refine cW (λz=>some (z,d.2.1)) ?_;unfold yv;rw[if_neg c1,if_pos c2,c2,(he j hj).2]
     .have wv':d.c.1 (z4 d.1.1*48+z4 d.1.2)=0:=by rw[wv,if_neg (λh=>c1 h.symm),if_neg c2]
      rw[wv',e3,aMk _ _ _ (Or.inl rfl) em,if_pos rfl];refine cW (λz=>some (z,d.2.1)) ?_;unfold yv;rw[if_neg c1,if_neg c2]
   rw[r0,r1,r2,aE,aE,aE,mul,bV,aE,aE,aw,hw];refine⟨⟨by show 0<=d.1.2+1;omega,by show d.1.2+1<=48;omega,i2,i3,i4,i5,i6,i7,λk GN hkc=> ?_⟩,by show z4 (48-(d.1.2+1))<_;omega⟩;have hkc:(k:Int)<d.1.2+1:=hkc;show(bif z9 k (z4 d.1.2) then yv F D q j m else d.c.2.2 k)=yv F D q j k;rw[HB];split
   .rename_i e
    have:k=m:=by omega
    rw[this]
   .exact i8 k GN (by omega)
  .have h:=vk h;rw[aw];exact⟨i2,i3,i4,i5,i6,i7,λk GN=>i8 k GN (by omega)⟩) 2000 d hd (by omega)
theorem a4c (F:Nat->Int)(hF:∀i,i<24->F i=0∨F i=1073741824)(w d:eS.B)(h0:0<=w.1.1/\w.1.1<24)(h2:0<=w.1.2.2.1/\w.1.2.2.1<24)(hd:0<=d.1.2.2.2.2.2.2/\d.1.2.2.2.2.2.2<=48/\d.1.1=w.1.1/\d.1.2.1=w.1.2.1/\d.1.2.2.1=w.1.2.2.1/\d.1.2.2.2.1=0/\d.1.2.2.2.2.1=w.1.2.2.2.2.1/\d.1.2.2.2.2.2.1=w.1.2.2.2.2.2.1/\d.2.1=w.2.1/\d.2.2.1=w.2.2.1/\d.2.2.2.1=w.2.2.2.1/\(∀i k,i<24->k<48->d.2.2.2.2.1 (i*48+k)=if i=k then F i else if k=24+i then 1073741824 else 0)/\d.2.2.2.2.2=w.2.2.2.2.2):Ok (wX d) (λx:lT=>x.1.1=w.1.1/\x.1.2.1=w.1.2.1/\x.1.2.2.2.2.1=w.1.2.2.2.2.1/\x.1.2.2.2.2.2.1=w.1.2.2.2.2.2.1/\x.2.1=w.2.1/\x.2.2.1=w.2.2.1/\x.2.2.2.1=w.2.2.2.1/\(∀i k,i<24->k<48->x.2.2.2.2.1 (i*48+k)=if i=k then F i else if k=24+i then 1073741824 else 0)/\x.2.2.2.2.2=w.2.2.2.2.2):=
 wN (s:=_) (λd:eS.B=>0<=d.1.2.2.2.2.2.2/\d.1.2.2.2.2.2.2<=48/\d.1.1=w.1.1/\d.1.2.1=w.1.2.1/\d.1.2.2.1=w.1.2.2.1/\d.1.2.2.2.1=0/\d.1.2.2.2.2.1=w.1.2.2.2.2.1/\d.1.2.2.2.2.2.1=w.1.2.2.2.2.2.1/\d.2.1=w.2.1/\d.2.2.1=w.2.2.1/\d.2.2.2.1=w.2.2.2.1/\(∀i k,i<24->k<48->d.2.2.2.2.1 (i*48+k)=if i=k then F i else if k=24+i then 1073741824 else 0)/\d.2.2.2.2.2=w.2.2.2.2.2) (λd:eS.B=>z4 (48-d.1.2.2.2.2.2.2)) (λx:lT=>x.1.1=w.1.1/\x.1.2.1=w.1.2.1/\x.1.2.2.2.2.1=w.1.2.2.2.2.1/\x.1.2.2.2.2.2.1=w.1.2.2.2.2.2.1/\x.2.1=w.2.1/\x.2.2.1=w.2.2.1/\x.2.2.2.1=w.2.2.2.1/\(∀i k,i<24->k<48->x.2.2.2.2.1 (i*48+k)=if i=k then F i else if k=24+i then 1073741824 else 0)/\x.2.2.2.2.2=w.2.2.2.2.2) (λd hd=>by
  obtain⟨i0,i1,j0,j1,j2,j3,j4,j5,i3,i4,i5,i6,i7⟩:=hd;have hw:wI (d.1.2.2.2.2.2.2+1)=d.1.2.2.2.2.2.2+1:=aW;unfold wW;dsimp only;rw[aN];refine⟨λh=> ?_,λh=>by rw[aw];exact⟨j0,j1,j4,j5,i3,i4,i5,i6,i7⟩⟩;have h:=dm h;have r0:bf d.1.2.2.1 24=true:=by rw[bq,j2];omega
  have r1:bf d.1.2.2.2.2.2.2 48=true:=by rw[bq];omega
  have r2:bf d.1.1 24=true:=by rw[bq,j0];omega
  have r3:(true&&wr (0+(z4 d.1.2.2.1*48+z4 d.1.2.2.2.2.2.2)*1+1) 1152)=true:=by rw[nY,bZ,j2];omega
  have bw:∀i,i<24-> -1152921504606846976<=d.2.2.2.2.1 (i*48+z4 d.1.2.2.2.2.2.2)/\d.2.2.2.2.1 (i*48+z4 d.1.2.2.2.2.2.2)<=1152921504606846976:=λi hi=>by
   rw[i6 i (z4 d.1.2.2.2.2.2.2) hi (by omega)];have:=hF i hi;split
   .omega
   .split<;>omega
  have mul:aZ d.1.2.2.2.1 (d.2.2.2.2.1 (z4 d.1.1*48+z4 d.1.2.2.2.2.2.2)) 30 d.2.1=some (0,d.2.1):=by
   rw[j3,aMk 0 _ _ (Or.inl rfl) (bw (z4 d.1.1) (by rw[j0];omega)),if_pos rfl]
  rw[r0,r1,r2,r3,aE,aE,aE,aE,mul,bV,sub_zero _ _ (bw (z4 d.1.2.2.1) (by rw[j2];omega)),bV,aE,aE,aE,aw,hw];refine⟨⟨by show 0<=d.1.2.2.2.2.2.2+1;omega,by show d.1.2.2.2.2.2.2+1<=48;omega,j0,j1,j2,j3,j4,j5,i3,i4,i5,λi k hi hk=> ?_,i7⟩,by show z4 (48-(d.1.2.2.2.2.2.2+1))<_;omega⟩;show(bif z9 (i*48+k) (z4 d.1.2.2.1*48+z4 d.1.2.2.2.2.2.2) then d.2.2.2.2.1 (z4 d.1.2.2.1*48+z4 d.1.2.2.2.2.2.2) else d.2.2.2.2.1 (i*48+k))=_;rw[HB];split
  .rename_i e;rw[<-e];exact i6 i k hi hk
  .exact i6 i k hi hk) 2000 d hd (by omega)
theorem a4d (F D q G:Nat->Int)(hk:Qv F D q)(j:Nat)(hj:j<24)(v:Int)(hv:okV v)(w:eT.B):∀(d:eT.B) (hd:0<=d.1.2.2.2/\d.1.2.2.2<=d.1.2.2.1/\d.1.2.2.1=(j:Int)/\d.1.1=(j:Int)/\d.1.2.1=v/\d.2.1=w.2.1/\d.2.2.1=w.2.2.1/\d.2.2.2.1=w.2.2.2.1/\(∀i k,i<24->k<48->d.2.2.2.2.1 (i*48+k)=if i=k then F i else if k=24+i then 1073741824 else 0)/\d.2.2.2.2.2.1=(λ_=>0,G)/\∀k:Nat,k<48->d.2.2.2.2.2.2 k=yv F D q j k),Ok (wZ d) (λx:ov=>x.1.1=(j:Int)/\x.2.1=w.2.1/\x.2.2.1=w.2.2.1/\x.2.2.2.1=w.2.2.2.1/\(∀i k,i<24->k<48->x.2.2.2.2.1 (i*48+k)=if i=k then F i else if k=24+i then 1073741824 else 0)/\x.2.2.2.2.2.1=(λ_=>0,G)):=
 bO (λd:eT.B=>z4 (d.1.2.2.1-d.1.2.2.2)) (λd hd=>by
  obtain⟨i0,i1,j2,j0,j1,i3,i4,i5,i6,i7,i8⟩:=hd;have hw:wI (d.1.2.2.2+1)=d.1.2.2.2+1:=aW;unfold wY;dsimp only;rw[aN];refine⟨λh=> ?_,λh=>by rw[aw];exact⟨j0,i3,i4,i5,i6,i7⟩⟩;have h:=dm h;obtain⟨m,hm⟩:∃m:Nat,d.1.2.2.2=(m:Int):=⟨z4 d.1.2.2.2,by omega⟩;have hmj:m<j:=by omega
  have r0:bf d.1.2.2.2 24=true:=by rw[bq];omega
  have wv:∀k,k<48->d.2.2.2.2.1 (0+z4 d.1.2.2.2*48+k)=if m=k then F m else if k=24+m then 1073741824 else 0:=λk hk=>by
   rw[hm,Kf,dG];exact i6 m k (by omega) hk
  have dot:bD 30 48 48 d.2.1 (λk=>d.2.2.2.2.1 (0+z4 d.1.2.2.2*48+k)) d.2.2.2.2.2.2 false false=some (0,d.2.1):=by
   have z:∀k,k<48->d.2.2.2.2.1 (0+z4 d.1.2.2.2*48+k)*d.2.2.2.2.2.2 k=0:=λk GN=>by
    rw[wv k GN,i8 k GN];unfold yv;by_cases c:m=k
    .rw[if_neg (by omega:¬k=j),if_neg (by omega:¬k=24+j),Int.mul_zero]
    .rw[if_neg c];by_cases c2:k=24+m
     .rw[if_neg (by omega:¬k=j),if_neg (by omega:¬k=24+j),Int.mul_zero]
     .rw[if_neg c2,agw]
   refine aHh 48 0 (by decide) (by decide) _ _ _ _ _ _ (λk GN=> ?_) (λk GN=> ?_) (λk GN _=>z k GN) (by rw[z 0 (by decide)];rfl) (by decide)
   .show -1152921504606846976<=d.2.2.2.2.1 (0+z4 d.1.2.2.2*48+k)/\d.2.2.2.2.1 (0+z4 d.1.2.2.2*48+k)<=1152921504606846976;rw[wv k GN];have:=hk.F m (by omega);split
    .omega
    .split<;>omega
   .rw[i8 k GN];exact aY7 hk j k hj
  have st:uG d.2.2.2.2.2.1.1 d.2.2.2.2.2.1.2 d.1.2.2.2 d.1.1 0=some (λ_=>0,G):=by
   rw[i7,hm,j0];exact aIH G m j hmj hj
  rw[r0,aE,dot,bV,j1,div_zero v _ hv,bV,st,bV];refine aA (a4c F hk.F _ _ (by show 0<=d.1.1/\d.1.1<24;omega) (by show 0<=d.1.2.2.2/\d.1.2.2.2<24;omega) ⟨fk 0,(show(0:Int)<=48 by decide),rfl,rfl,rfl,rfl,rfl,rfl,rfl,rfl,rfl,i6,rfl⟩) λx _ hx=> ?_;obtain⟨a0,a1,a4,a5,b1,b2,b3,b4,b5⟩:=hx;have a4:x.1.2.2.2.2.1=d.1.2.2.1:=a4;have a5:x.1.2.2.2.2.2.1=d.1.2.2.2:=a5;have a0:x.1.1=d.1.1:=a0;rw[aw,a5,hw];refine⟨⟨by show 0<=d.1.2.2.2+1;omega,by show d.1.2.2.2+1<=x.1.2.2.2.2.1;omega,by show x.1.2.2.2.2.1=(j:Int);omega,by show x.1.1=(j:Int);omega,a1,b1.trans i3,b2.trans i4,b3.trans i5,b4,cW (λz=>z.1) b5,λk GN=>(congrFun (cW (λz=>z.2) b5) k).trans (i8 k GN)⟩,by show z4 (x.1.2.2.2.2.1-(d.1.2.2.2+1))<_;omega⟩) (λd hd=>by omega)
theorem a4e (F D q:Nat->Int)(b:Bool)(e:Nat->Int)(hk:Qv F D q)(he:∀i:Nat,i<24->e i=D i/\e (24+i)=q i):∀(d:fS.B) (hd: -1<=d.1/\d.1<=23/\d.2.1=b/\d.b.2.1=e/\(∀i k,i<24->k<48->d.c.1 (i*48+k)=if i=k then F i else if k=24+i then 1073741824 else 0)/\d.c.2=(λ_=>0,λi:Nat=>if d.1<(i:Int)/\i<24 then kept F D q i else 0)),Ok (w8 d) (λx:oy=>x.2.1=b/\x.c.2=(λ_=>0,λi=>if i<24 then kept F D q i else 0)):=
 bO (λd:fS.B=>z4 (d.1+1)) (λd hd=>by
  obtain⟨i0,i1,i2,i3,i4,i5⟩:=hd;unfold w7;dsimp only;rw[aN];refine⟨λh=> ?_,λh=> ?_⟩
  .have h:=dm h;obtain⟨j,hj⟩:∃m:Nat,d.1=(m:Int):=⟨z4 d.1,by omega⟩;have aCs:j<24:=by omega
   refine aA (a4a F D q hk j aCs ((d.1,0),d.2.1,d.b.1,d.b.2.1,d.c.1,d.c.2,λx=>0) _ (by show∀i:Nat,i<24->d.b.2.1 i=D i/\d.b.2.1 (24+i)=q i;rw[i3];exact he) i4 ⟨fk 0,(show(0:Int)<=48 by decide),hj,rfl,rfl,rfl,rfl,rfl,λk _ hk0=>absurd hk0 (by show ¬(k:Int)<0;omega)⟩) λx _ hx=> ?_;obtain⟨a0,a1,a2,a3,a4,a5,a6⟩:=hx;have a1:x.2.1=d.2.1:=a1;have a4:x.c.1=d.c.1:=a4;have a3:x.b.2.1=d.b.2.1:=a3;have a5:x.c.2.1=d.c.2:=a5;have r0:bf x.1.1 24=true:=by rw[bq,a0];omega
   have r1:(true&&wr (276+z4 x.1.1*1+1) 300)=true:=by rw[nY,bZ,a0];omega
   have wv:∀k,k<48->x.c.1 (0+z4 x.1.1*48+k)=if j=k then F j else if k=24+j then 1073741824 else 0:=λk GN=>by
    rw[a4,a0,Kf,dG];exact i4 j k aCs GN
   have K:=(hk j aCs).1.le;have kp:=(hk.k j aCs).le;have kz:=hk.z j aCs
   have dot:bD 30 48 48 x.2.1 (λk=>x.c.1 (0+z4 x.1.1*48+k)) x.c.2.2 false false=some (kept F D q j,x.2.1):=by
    refine aHh 48 (if F j=0 then 24+j else j) (by decide) (by split<;>omega) _ _ _ _ _ _ (λk GN=> ?_) (λk GN=> ?_) (λk GN mC=> ?_) ?_ (by omega)
    .show -1152921504606846976<=x.c.1 (0+z4 x.1.1*48+k)/\x.c.1 (0+z4 x.1.1*48+k)<=1152921504606846976;rw[wv k GN];split
     .omega
     .split<;>omega
    .rw[a6 k GN];exact aY7 hk j k aCs
    .show x.c.1 (0+z4 x.1.1*48+k)*x.c.2.2 k=0;rw[wv k GN,a6 k GN];unfold yv;by_cases c:k=j
     .subst c;by_cases f0:F k=0
      .rw[if_pos rfl,f0,agw]
      .rw[if_neg f0] at mC;exact absurd rfl mC
     .rw[if_neg (λh=>c h.symm),if_neg c];by_cases c2:k=24+j
      .by_cases f0:F j=0
       .rw[if_pos f0] at mC;exact absurd c2 mC
       .rw[if_pos c2,if_pos c2];rw[(kz f0).1,Int.mul_zero]
      .rw[if_neg c2,if_neg c2,agw]
    .show x.c.1 (0+z4 x.1.1*48+(if F j=0 then 24+j else j))*x.c.2.2 (if F j=0 then 24+j else j)=kept F D q j*1073741824;rw[wv _ (by split<;>omega),a6 _ (by split<;>omega)];unfold yv kept;by_cases f0:F j=0
     .rw[if_pos f0,if_pos f0,if_neg (by omega:¬j=24+j),if_pos rfl,if_neg (by omega:¬24+j=j),if_pos rfl,yb,if_pos f0]
     .rw[if_neg f0,if_neg f0,if_pos rfl,if_pos rfl,(kz f0).2,yb,if_neg (by decide)]
   rw[r0,aE,dot,bV,af8 _ _ _ _ kp.1 kp.2,bV,aE,r1,aE];refine aA (a4d F D q (λi:Nat=>if d.1-1<(i:Int)/\i<24 then kept F D q i else 0) hk j aCs (kept F D q j) (hk.k j aCs) ((x.1.1,kept F D q j,x.1.1,0),x.2.1,x.b.1,x.b.2.1,x.c.1,(x.c.2.1.1,λi=>bif z9 i (z4 x.1.1) then kept F D q j else x.c.2.1.2 i),x.c.2.2) _ ⟨fk 0,by show 0<=x.1.1;omega,a0,a0,rfl,rfl,rfl,rfl,by show∀i k,i<24->k<48->x.c.1 (i*48+k)=_;rw[a4];exact i4,?_,a6⟩) λy _ hy=> ?_
   .refine Prod.ext (by show x.c.2.1.1=_;rw[a5,i5]) (funext λi=> ?_);show(bif z9 i (z4 x.1.1) then kept F D q j else x.c.2.1.2 i)=if d.1-1<(i:Int)/\i<24 then kept F D q i else 0
    rw[HB,a0,a5,i5,Kf];show(if i=j then kept F D q j else if d.1<(i:Int)/\i<24 then kept F D q i else 0)=_;by_cases c:i=j
    .subst c;rw[if_pos rfl,if_pos (by omega)]
    .rw[if_neg c];by_cases c2:d.1<(i:Int)/\i<24
     .rw[if_pos c2,if_pos (by omega)]
     .rw[if_neg c2,if_neg (by omega)]
   obtain⟨b0,b1,b2,b3,b4,b5⟩:=hy;have b1:y.2.1=x.2.1:=b1;have b3:y.b.2.1=x.b.2.1:=b3;have hw:wI (y.1.1-1)=d.1-1:=by rw[b0,<-hj];exact dV (by omega) (by omega)
   rw[aw,hw];exact⟨⟨by show -1<=d.1-1;omega,by show d.1-1<=23;omega,b1.trans (a1.trans i2),b3.trans (a3.trans i3),b4,b5⟩,by show z4 (d.1-1+1)<_;omega⟩
  .have h:=vk h;rw[aw];refine⟨i2,i5.trans (Prod.ext rfl (funext λi=> ?_))⟩;show(if d.1<(i:Int)/\i<24 then kept F D q i else 0)=if i<24 then kept F D q i else 0
   by_cases c:i<24
   .rw[if_pos c,if_pos (by omega)]
   .rw[if_neg c,if_neg (by omega)]) (λd hd=>by omega)
theorem aR9 (F U D Fm Q q:Nat->Int)(b:Bool)(hk:Qv F D q)(hU:∀p,p<276->U p=0)(hf:(∀i k,i<24->k<24->Fm (i*24+k)=if i=k then F i else 0))(hq:∀i,i<24->Q i=q i):hX U D Fm Q b=some ((λ_=>0,λi=>if i<24 then kept F D q i else 0),b):=by
 have h:Ok (hX U D Fm Q b) (λr:Pj=>r=((λ_=>0,λi=>if i<24 then kept F D q i else 0),b)):=by
  unfold hX Bi;show PQ _ _;refine aA (aR7 U D b hU (λi hi=>(hk i hi).1.le)) λc _ hc=> ?_;obtain⟨c0,c1,c2⟩:=hc;refine aA (a39 F D q c.2 hk.F (0,c.2,c.1,Fm,Q,(λx=>0,λx=>0),λx=>0) _ c2 (λi hi=>⟨hq i hi,hk.q i hi⟩) ⟨fk 0,(show(0:Int)<=24 by decide),rfl,rfl,hf,rfl,rfl,λi _ hi=>absurd hi (by show ¬(i:Int)<0;omega)⟩) λx _ hx=> ?_;obtain⟨a1,a2,a3,a4,a5⟩:=hx;have a2:x.b.1=c.1:=a2;refine aA (aR8 F _ _ x.b.2.1 x.2.1 hk.F (by rw[a2];exact c1) a3) λw _ hw=> ?_;refine aA (a4e F D q b x.c.2.2 hk (λi hi=>a5 i hi (by omega)) _ ⟨(show(-1:Int)<=23 by decide),(show(23:Int)<=23 by decide),hw.1.trans (a1.trans c0),rfl,hw.2,?_⟩) λy _ hy=> ?_
  .refine Prod.ext rfl (funext λi=> ?_);show(0:Int)=if (23:Int)<(i:Int)/\i<24 then kept F D q i else 0
   rw[if_neg (by omega)]
  .rw[aw];exact Prod.ext hy.2 hy.1
 obtain⟨r,h1,h2⟩:=h;rw[h1,h2]
theorem a4f:∀(d:iM.B) (hd:0<=d.1/\d.1<=24/\∀i k:Nat,i<24->k<24->d.2.2 (i*24+k)=if i=k/\(i:Int)<d.1 then 1073741824 else 0),Ok (EV d) (λx:uc=>∀i k:Nat,i<24->k<24->x.2.2 (i*24+k)=if i=k then 1073741824 else 0):=
 bO (λd:iM.B=>z4 (24-d.1)) (λd hd=>by
  obtain⟨i0,i1,i2⟩:=hd;have hw:wI (d.1+1)=d.1+1:=aW;unfold EU;dsimp only;rw[aN];refine⟨λh=> ?_,λh=> ?_⟩
  .have h:=dm h;have r0:bf d.1 24=true:=by rw[bq];omega
   have r1:(true&&wr (0+(z4 d.1*24+z4 d.1)*1+1) 576)=true:=by rw[nY,bZ];omega
   rw[r0,r1,aE,aE,aE,aw,hw];refine⟨⟨by show 0<=d.1+1;omega,by show d.1+1<=24;omega,λi k hi hk=> ?_⟩,by show z4 (24-(d.1+1))<_;omega⟩;show(bif z9 (i*24+k) (z4 d.1*24+z4 d.1) then 1073741824 else d.2.2 (i*24+k))=if i=k/\(i:Int)<d.1+1 then 1073741824 else 0
   rw[HB,i2 i k hi hk];by_cases e:i*24+k=z4 d.1*24+z4 d.1
   .rw[if_pos e,if_pos (by omega)]
   .rw[if_neg e];by_cases e2:i=k/\(i:Int)<d.1
    .rw[if_pos e2,if_pos (by omega)]
    .rw[if_neg e2,if_neg (by omega)]
  .have h:=vk h;rw[aw];intro i k hi hk;show d.2.2 (i*24+k)=_;rw[i2 i k hi hk];by_cases e:i=k
   .rw[if_pos e,if_pos (by omega)]
   .rw[if_neg e,if_neg (by omega)]) (λd hd=>by omega)
theorem aU4:Ok nP (λr:DB=>∀i k:Nat,i<24->k<24->r (i*24+k)=if i=k then 1073741824 else 0):=by
 unfold nP JG;show PQ _ _;refine aA (a4f _ ⟨fk 0,(show(0:Int)<=24 by decide),λi k hi hk=>by show(0:Int)=_;rw[if_neg (by show ¬(i=k/\(i:Int)<0);omega)]⟩) λx _ hx=> ?_;rw[aw];exact hx
theorem a4g (w d:im.B)(hv:∀j:Nat,j<4->okV (w.2.2.1 j))(hd:0<=d.1.2.2.2/\d.1.2.2.2<=4/\d.1.1=0/\d.1.2.1.1=4/\d.1.2.2.1=4/\d.2.1=w.2.1/\d.2.2.1=w.2.2.1/\d.2.2.2.1=w.2.2.2.1/\(∀i k:Nat,i<24->k<24->d.2.2.2.2.2.1 (i*24+k)=if i=k/\¬(i:Int)<d.1.2.2.2 then 1073741824 else 0)/\∀i:Nat,i<24->d.2.2.2.2.2.2 i=if (i:Int)<d.1.2.2.2 then w.2.2.1 i else 0):Ok (Hi d) (λx:rG=>x.2.1=w.2.1/\x.2.2.2.1=w.2.2.2.1/\(∀i k:Nat,i<24->k<24->x.2.2.2.2.2.1 (i*24+k)=if i=k/\¬i<4 then 1073741824 else 0)/\∀i:Nat,i<24->x.2.2.2.2.2.2 i=if i<4 then w.2.2.1 i else 0):=
 wN (s:=_) (λd:im.B=>0<=d.1.2.2.2/\d.1.2.2.2<=4/\d.1.1=0/\d.1.2.1.1=4/\d.1.2.2.1=4/\d.2.1=w.2.1/\d.2.2.1=w.2.2.1/\d.2.2.2.1=w.2.2.2.1/\(∀i k:Nat,i<24->k<24->d.2.2.2.2.2.1 (i*24+k)=if i=k/\¬(i:Int)<d.1.2.2.2 then 1073741824 else 0)/\∀i:Nat,i<24->d.2.2.2.2.2.2 i=if (i:Int)<d.1.2.2.2 then w.2.2.1 i else 0) (λd:im.B=>z4 (4-d.1.2.2.2)) (λx:rG=>x.2.1=w.2.1/\x.2.2.2.1=w.2.2.2.1/\(∀i k:Nat,i<24->k<24->x.2.2.2.2.2.1 (i*24+k)=if i=k/\¬i<4 then 1073741824 else 0)/\∀i:Nat,i<24->x.2.2.2.2.2.2 i=if i<4 then w.2.2.1 i else 0) (λd hd=>by
  obtain⟨i0,i1,i2,i3,i4,i5,i6,i7,i8,i9⟩:=hd;have hw:wI (d.1.2.2.2+1)=d.1.2.2.2+1:=aW;have hy:wI (d.1.1+d.1.2.2.2)=d.1.2.2.2:=by rw[i2,alk];exact dV (by omega) (by omega)
  unfold Hh;dsimp only;rw[aN];refine⟨λh=> ?_,λh=> ?_⟩
  .have h:=dm h;have r0:bf d.1.2.2.2 d.1.2.1.1=true:=by rw[bq,i3];omega
   have r1:bf d.1.2.2.2 24=true:=by rw[bq];omega
   have r2:(true&&wr (0+(z4 d.1.2.2.2*24+z4 d.1.2.2.2)*1+1) 576)=true:=by rw[nY,bZ];omega
   have r3:(true&&wr (0+z4 d.1.2.2.2*1+1) 24)=true:=by rw[nY,bZ];omega
   have v:=(hv (z4 d.1.2.2.2) (by omega)).le;rw[<-i6] at v;rw[hy,r0,aE,a0F _ i0 (by omega),bV,aE,aY6 _ _ v.1 v.2,bV,r1,r2,r3,aE,aE,aE,aE,aE,aw,hw];refine⟨⟨by show 0<=d.1.2.2.2+1;omega,by show d.1.2.2.2+1<=4;omega,i2,i3,i4,i5,i6,i7,λi k hi hk=> ?_,λi hi=> ?_⟩,by show z4 (4-(d.1.2.2.2+1))<_;omega⟩
   .show(bif z9 (i*24+k) (z4 d.1.2.2.2*24+z4 d.1.2.2.2) then 0 else d.2.2.2.2.2.1 (i*24+k))=if i=k/\¬(i:Int)<d.1.2.2.2+1 then 1073741824 else 0
    rw[HB,i8 i k hi hk];by_cases e:i*24+k=z4 d.1.2.2.2*24+z4 d.1.2.2.2
    .rw[if_pos e,if_neg (by omega)]
    .rw[if_neg e];by_cases e2:i=k/\¬(i:Int)<d.1.2.2.2
     .rw[if_pos e2,if_pos (by omega)]
     .rw[if_neg e2,if_neg (by omega)]
   .show(bif z9 i (z4 d.1.2.2.2) then d.2.2.1 (z4 d.1.2.2.2) else d.2.2.2.2.2.2 i)=if (i:Int)<d.1.2.2.2+1 then w.2.2.1 i else 0
    rw[HB,i9 i hi,i6];by_cases e:i=z4 d.1.2.2.2
    .rw[if_pos e,if_pos (by omega),e]
    .rw[if_neg e];by_cases e2:(i:Int)<d.1.2.2.2
     .rw[if_pos e2,if_pos (by omega)]
     .rw[if_neg e2,if_neg (by omega)]
  .have h:=vk h;rw[aw];refine⟨i5,i7,λi k hi hk=> ?_,λi hi=> ?_⟩
   .show d.2.2.2.2.2.1 (i*24+k)=_;rw[i8 i k hi hk];by_cases e:i=k/\¬i<4
    .rw[if_pos e,if_pos (by omega)]
    .rw[if_neg e,if_neg (by omega)]
   .show d.2.2.2.2.2.2 i=_;rw[i9 i hi];by_cases e:i<4
    .rw[if_pos e,if_pos (by omega)]
    .rw[if_neg e,if_neg (by omega)]) 2000 d hd (by omega)
theorem aOX (U D V:Nat->Int)(b w:Bool)(hU:∀p,p<276->U p=0)(hD:∀i,i<24->okV (D i))(hV:∀j,j<4->okV (V j)):
  cS U D 0 4 b V w=some ((λ_=>0,λi=>if i<24 then(if i<4 then V i else D i) else 0),b):=by
 have h:Ok (cS U D 0 4 b V w) (λr:Yi=>r=((λ_=>0,λi=>if i<24 then(if i<4 then V i else D i) else 0),b)):=by
  unfold cS FW;show PQ _ _;refine aA aU4 λm _ hm=> ?_;rw[aQ,aE];refine aA (a4g ((0,(4,w),ws 4,0),b,V,(U,D),(λx=>0,λx=>0),m,λx=>0) _ hV ⟨fk 0,(show(0:Int)<=4 by decide),rfl,rfl,rfl,rfl,rfl,rfl,λi k hi hk=> ?_,λi hi=> ?_⟩) λx _ hx=> ?_
  .show m (i*24+k)=if i=k/\¬(i:Int)<0 then 1073741824 else 0
   rw[hm i k hi hk];by_cases e:i=k
   .rw[if_pos e,if_pos ⟨e,by omega⟩]
   .rw[if_neg e,if_neg (λh=>e h.1)]
  .show(0:Int)=if (i:Int)<0 then V i else 0
   rw[if_neg (by omega)]
  obtain⟨a1,a3,a5,a6⟩:=hx;have a1:x.2.1=b:=a1;have a3:x.b.2.1=(U,D):=a3
  have s:=aR9 (λi=>if i<4 then 0 else 1073741824) U D x.c.2.1 x.c.2.2 (λi=>if i<4 then V i else 0) b (λi hi=>⟨hD i hi,by
    show((if i<4 then(0:Int) else 1073741824)=1073741824/\(if i<4 then V i else 0)=0)∨((if i<4 then(0:Int) else 1073741824)=0/\okV (if i<4 then V i else 0));by_cases c:i<4
    .rw[if_pos c,if_pos c];exact Or.inr ⟨rfl,hV i c⟩
    .rw[if_neg c,if_neg c];exact Or.inl ⟨rfl,rfl⟩⟩) hU (λi k hi hk=>by
    rw[a5 i k hi hk];by_cases c:i=k
    .subst c;by_cases c2:i<4
     .rw[if_neg (λh=>h.2 c2),if_pos rfl,if_pos c2]
     .rw[if_pos ⟨rfl,c2⟩,if_pos rfl,if_neg c2]
    .rw[if_neg (λh=>c h.1),if_neg c]) a6
  rw[a3,a1,s,bV,aw];refine Prod.ext (Prod.ext rfl (funext λi=> ?_)) rfl;show(if i<24 then kept _ D _ i else 0)=if i<24 then(if i<4 then V i else D i) else 0
  unfold kept;by_cases c:i<4
  .simp[c]
  .simp[c]
 obtain⟨r,h1,h2⟩:=h;rw[h1,h2]
noncomputable section
def allM:Nat->(Nat->Bool)->Bool
 |0,_=>true
 |n+1,f=>allM n f&&f n
theorem axI {f:Nat->Bool}:∀n,allM n f=true->∀i,i<n->f i=true
 |0,_,i,hi=>by omega
 |n+1,h,i,hi=>by
  have h:(allM n f&&f n)=true:=h;rw[cB] at h;by_cases e:i=n
  .rw[e];exact h.2
  .exact axI n h.1 i (by omega)
def isV (d:Int):Bool:=decide (d=17592186044416)||decide (d=68719476736)||decide (d=67108864)||decide (d=4294967296)||decide (d=17179869184)
theorem aTo {d:Int}(h:isV d=true):okV d:=by
 unfold isV at h;simp only[agu,jW] at h;unfold okV;omega
def aY8 (U D:Nat->Int)(a:Int)(n:Nat)(V:Nat->Int):Bool:=
 z9 n 4&&decide (a=0)&&allM 276 (λp=>decide (U p=0))&&allM 24 (λi=>isV (D i))&&allM 4 (λi=>isV (V i))
def rsQ:gE:=λU D a n b V w=>bif aY8 U D a n V then some ((λ_=>0,λi=>if i<24 then(if i<4 then V i else D i) else 0),b) else cS U D a n b V w
theorem a0H:cS=rsQ:=by
 funext U D a n b V w
 unfold rsQ;cases h:aY8 U D a n V
 .rfl
 .unfold aY8 at h;simp only[cB,jW] at h;obtain⟨⟨⟨⟨h0,h1⟩,h2⟩,h3⟩,h4⟩:=h;have h0:=lE h0;subst h0;subst h1;refine aOX U D V b w (λp hp=>dm (axI _ h2 p hp)) (λi hi=>aTo (axI _ h3 i hi)) (λi hi=>aTo (axI _ h4 i hi))
def aY9 (g:gE)(x:kV.B):Option mP:=(qu qA kO aZ lg BT dJ g dK nd x).val
def a0I (g:gE)(x:mb.B):Option oD:=(rV (aY9 g) B5 pG iD x).val
def aZa (g:gE):dy.B->Option fU:=bE (qv (a0I g)) 2000
def aZb (g:gE)(d:gw.B):Option jr:=(qw (aZa g) d).val
def a2v (g:gE)(x:m9.B):Option qh:=(uu jM cM (aZb g) x).val
def aOY (g:gE):rY.B->Option DY:=bE (UL Dn (a2v g)) 2000
def azV (g:gE)(x:Jl.B):Option Rn:=(aeb uU (aOY g) x).val
theorem aMl:asX=azV rsQ:=by
 rw[<-a0H];rfl
end
end Go.Proofs.YtldgljclcgaibaaGreat
noncomputable section
namespace Go.Proofs.YtldgljclcgaibaaGreat
open Go.Ab Go.Ab.Pg Go.Ab.Rq
def aCt:=qa (pl (cl AU nil) nil)
def aiR:=qe AT
abbrev aCu:=aiR.B
abbrev apb:=NI->NI->Option aCu
def apc (g:apb):Ct:=(30,FC aCt (lf aiR) (λb=>g b.1 b.2))
def apd (gy:rv)(x0:Nat->Int)(x1:Nat->Int):Pg aCu:=opt (gy x0 x1 false) λd=>ret !d.2
def LJ:=λx0 x1=>(apd dO x0 x1).val
theorem aOZ:∀gy,D0 [Bd gy] 30 aCt (lf aiR) λb=>apd gy b.1 b.2:=λ_ b=>by kernel_rfl
theorem aCv [ay]:SC (apc LJ):=s0 (.c G4 (.nil _)) (aOZ dO)
def axJ:=qa (pu nil nil)
def aee:=qe AT
abbrev axK:=aee.B
abbrev aiS:=Option axK
def axL (g:aiS):Ct:=(19,FC axJ (lf aee) (λ_=>g))
def Wo:Option axK:=some true
theorem aO0 [ay]:Snd Tryz.prog (aea (azV rsQ)):=aMl▸aIE
theorem aMm:alh Tryz.prog [aoj aol,aea (azV rsQ),Dl iF,Iy vj,abI abK,zE gm,abD qI,apc LJ,K3 rX,GK o6,NX ux,Sx zG] ⟨[],[],[],[],none⟩ 2000 19 axJ (lf aee) λ_=>ret true:=λb=>by kernel_rfl
theorem aMn [ay]:SC (axL Wo):=s0 (.c aGN (.c aO0 (.c NQ (.c Vq (.c axs (.c Gy (.c aoq (.c aCv (.c ZR (.c S3 (.c abV (.c aoz (.nil _))))))))))))) aMm
def asY:=qa (pl ak8 nil)
def ZY:=qe AT
abbrev asZ:=ZY.B
abbrev Rr:=NI->Option asZ
def as0 (g:Rr):Ct:=(29,FC asY (lf ZY) (λb=>g b))
def o7:=qs (st (pr (us 1 (cu aqt (us 3 (c kY aEc)))) (pl Ft nil)))
def ZZ:=qs (st (pu (us 2 (cu uy aVu)) (pu nil nil)))
def Z0:=qs (st (pr (us 1 (cu aqt (us 3 (c kY aKb)))) (pl Ft nil)))
abbrev DZ:=ZZ.B⊕Z0.B
def akJ {ρ:Type}(x:DZ)(K:AX->St->Option ρ):Option ρ:=(t9 (λd=>K .ret (ZZ.em d)) (λd=>K (.ex 0) (Z0.em d))) x
def UM (d:o7.B):PL o7 DZ:=let y0:=z4 d.1.2;let y1:=bf d.1.2 24;let y2:=decide (d.1.2<24);ae y2 (ae y1 (ae y1 (ae (decide (d.2 y0>d.1.1 y0)) (ret (wt (ww ()))) (ae y1 (ae (decide (d.2 y0<wI (0-d.1.1 y0))) (ret (wt (ww ()))) (ret (ww ((d.1.1,wI (d.1.2+1)),d.2)))) no)) no) no) (ret (wt (wt ((d.1.1,d.1.2,y2),d.2))))
def UN:=bE (UM) 2000
def aef (DE:uJ)(bk:dU)(Eb:QV)(eB:LT o7 DZ)(x0:Nat->Int):Pg asZ:=opt DE λd=>opt (eB ((d,0),x0)) λx=>sum x (λd=>ret false) λd=>opt (bk d.2) λd=>opt (Eb d.1 d.2.1 d.2.2.1 d.2.2.2) λd=>ret d
def Ej:=λx0=>(aef kC cg sE UN x0).val
abbrev Rs:=uJ×dU×QV×(LT o7 DZ)
def aeg (p:Rs):KK:=⟨[JL p.1,jh p.2.1,acR p.b.1],⟨[⟨2,(0::2::3::4::rg 7 20 []),[]⟩],[gx 2 0 o7 akJ p.b.2],[],[],(some ⟨0,(0::1::rg 3 24 []),[]⟩)⟩,0,29⟩
theorem azW (p:Rs):LI (aeg p) 2 o7 akJ (UM):=λ_ d c K=>by kernel_rfl
theorem aII (p:Rs):D2 (aeg p) asY (lf ZY) λb=>aef p.1 p.2.1 p.b.1 p.b.2 b:=λb=>by kernel_rfl
abbrev aeh:Rs:=(kC,cg,sE,UN)
theorem aIJ [ay]:SC (as0 Ej):=sc (kS (k:=aeg aeh) (.c TU (.c j8 (.c arw (.nil _)))) [2] [] ⟨kL (azW aeh),trivial⟩ trivial (aII aeh))
def aCw:=qa (pl (cl (aa wJ) nil) nil)
def aiT:=qe AT
abbrev aCx:=aiT.B
abbrev ape:=Int->Int->Bool->Bool->Option aCx
def aCy (g:ape):Ct:=(31,FC aCw (lf aiT) (λb=>g b.1 b.2.1 b.b.1 b.b.2))
def apf (x0:Int)(x1:Int)(x2:Bool)(x3:Bool):Pg aCx:=ae (decide (x0<0)) (ret false) (ae (decide (x0>3)) (ret false) (ae (decide (x0<2)) (ae (x1==0) (ae (!x2) (ret !x3) (ret false)) (ret false)) (ae (decide (x1>=1)) (ae (decide (x1<=3)) (ae (x0 !=3) (ret true) (ret x2)) (ret false)) (ret false))))
def S4:=λx0 x1 x2 x3=>(apf x0 x1 x2 x3).val
theorem aO1:D0 [] 31 aCw (lf aiT) λb=>apf b.1 b.2.1 b.b.1 b.b.2:=λb=>by kernel_rfl
theorem aO2 [ay]:SC (aCy S4):=s0 (.nil _) aO1
def S5:=qa (pl (cl (aa fW) nil) nil)
def EJ:=qe Fq
abbrev S6:=EJ.B
abbrev GO:=Int->Int->Int->Int->Int->Option S6
def S7 (g:GO):Ct:=(33,FC S5 (lf EJ) (λb=>g b.1 b.2.1 b.b.1 b.b.2.1 b.c))
def S8 (x0:Int)(x1:Int)(x2:Int)(x3:Int)(x4:Int):Pg S6:=ret (wI (wI (wI (x1+x2)+x3)+x4))
def zU:=λx0 x1 x2 x3 x4=>(S8 x0 x1 x2 x3 x4).val
theorem apg:D0 [] 33 S5 (lf EJ) λb=>S8 b.1 b.2.1 b.b.1 b.b.2.1 b.c:=λb=>by kernel_rfl
theorem aph [ay]:SC (S7 zU):=s0 (.nil _) apg
def tW:=qa (pl (c (aa sS) (cl OA nil)) nil)
def UO:=qe AT
abbrev Z1:=UO.B
abbrev aHi:=tW.B->Option Z1
def aHj (g:aHi):Ct:=(7,FC tW (lf UO) g)
def lC:=qs (st (pr (us 2 (cu auW (xs 1 (us 1 (cu aSr (cu Tb (us 2 (cu aSs (c aEo (cl ai (us 182 nil))))))))))) (pl (c ayc (c (so (a 26 sS (c gb (c jw (a 2 uA (cu (gp 4 5) (cu (gp 5 10) (c (gc (fJ (pu rq8 (pr Ox (pl gH (pu EK fL)))))) (au 6 (cu aD7 (cu aD8 (cu aD9 (cu (gp 10 8) (cu (gp 11 8) (cu (gp 12 8) nil)))))) (cu (gp 13 37) (a 4 wJ (cu (gp 14 3) (c gb (c gi (a 3 jV (c gb (c gb (c gb (c gi (c gi (c gi (a 10 xY (cl (gc (fJ (pu auU (pu (ox (pu cX (pu cX (nat 10)))) (pl gH (pu (nat 10) fL)))))) nil))))))))))))))))))))))) (c (so aEr) (c Tc (c qJ (c qK (c sR (c (so ata) (c (so atb) (c (so atc) (c (so (a 5 fW (c gi (c (gc (fJ (pu auV (pu (ox (pu cX (pu cX ep))) (pl gH (pu ep fL)))))) jG)))) (c (so (a 5 fW (c gi (c (gc (fJ (pu azY (pu (ox (pu cX (pu cX ep))) (pl gH (pu ep fL)))))) jG)))) (c (so aEs) (c pk (c (so (c gi (c gi (cl (gc (fJ (pu azZ (pu (ox (pu cX (pu cX El))) (pl gH (pu El fL)))))) nil)))) Fv))))))))))))))) nil)))
def Vr:=qs aWx
def aqo:=qs (st (pr (us 2 (cu auW (xs 1 (us 1 (cu aSr (cu Tb (us 2 (cu aSs (c aEo (c ai (us 56 (c ai (c aEo (c ai (cl ab (us 122 nil)))))))))))))))) (pl (c ayc (c (so (a 26 sS (c gb (c jw (a 2 uA (cu (gp 4 5) (cu (gp 5 10) (c (gc (fJ (pu rq8 (pr Ox (pl gH (pu EK fL)))))) (au 6 (cu aD7 (cu aD8 (cu aD9 (cu (gp 10 8) (cu (gp 11 8) (cu (gp 12 8) nil)))))) (cu (gp 13 37) (a 4 wJ (cu (gp 14 3) (c gb (c gi (a 3 jV (c gb (c gb (c gb (c gi (c gi (c gi (a 10 xY (cl (gc (fJ (pu auU (pu (ox (pu cX (pu cX (nat 10)))) (pl gH (pu (nat 10) fL)))))) nil))))))))))))))))))))))) (c (so aEr) (c Tc (c qJ (c qK (c sR (c (so ata) (c (so atb) (c (so atc) (c (so (a 5 fW (c gi (c (gc (fJ (pu auV (pu (ox (pu cX (pu cX ep))) (pl gH (pu ep fL)))))) jG)))) (c (so (a 5 fW (c gi (c (gc (fJ (pu azY (pu (ox (pu cX (pu cX ep))) (pl gH (pu ep fL)))))) jG)))) (c (so aEs) (c pk (c (so (c gi (c gi (cl (gc (fJ (pu azZ (pu (ox (pu cX (pu cX El))) (pl gH (pu El fL)))))) nil)))) Fv))))))))))))))) nil)))
abbrev BI:=Vr.B⊕(aSh×a0N×(J7×Bool×NI×(NI×NI)×(Nat×Nat)×uW×Bool×Int×nJ×Bool×Bool×Bool×Int×Int×Int×HS×Nat)×a0P×aMu×(nJ×Int×Int)×S9×Ws×cD×cD×cD×cD×cD×cD×Rt×xT×HT×si×si×si×si×si×si×Nat×NI×NI×NI×NI×NI×NI×NI×NI×NI×NI×NI)
def af9 {ρ:Type}(x:BI)(K:AX->St->Option ρ):Option ρ:=(t9 (λd=>K .ret (Vr.em d)) (λd=>K (.ex 0) (aqo.em ((d.1.1,d.1.2.1,d.1.2.1,d.1.1,d.1.b),d.2)))) x
def Qw (aei:Rr)(cL:sD)(d:lC.B):PL lC BI:=let n4:=d.1.1;let n3:=d.1.2;let n1:=d.2.2.2.2.1.2;let n2:=n1.2.2.2.2.2;let y0:=ws n4;let y1:=0+z4 n3;let y2:=wI (n3-1);let y3:=bf n3 n4;let y4:=decide (n3<y0);ae y4 (ae y3 (ae y3 (ae y3 (ae y3 (ae y3 (ae y3 (ae y3 (ae y3 (ae y3 (ae y3 (opt (cL (λx=>0) 0 10 (cr (n1.2.1 y1) [n2.2.2.2.2.2 y1,n2.2.2.2.2.1 y1,n2.2.2.2.1 y1,n2.2.2.1 y1,n2.2.1 y1,n2.1 y1,n1.2.2.2.2.1 y1,n1.2.2.2.1 y1,n1.2.2.1 y1,n1.2.1 y1]) true) λak=>opt (aei ak) λaK=>ae (!aK) (ret (wt (ww ()))) (ae (decide (n3>0)) (ae y3 (ae (bf y2 n4) (ae (decide (n1.1 y1<=n1.1 (0+z4 y2))) (ret (wt (ww ()))) (ret (ww ((n4,wI (n3+1)),d.2)))) no) no) (ret (ww ((n4,wI (n3+1)),d.2))))) no) no) no) no) no) no) no) no) no) no) (ret (wt (wt ((n4,n3,y0,y4),d.2))))
def Qx:=bE (Qw Ej dJ) 2000
def lD:=qs (st (pr (us 2 (cu auW (us 2 (cu aSr (us 3 (cu aSs (c aEo (us 2 (cl ai (us 180 nil)))))))))) (pl (c ayc (c (so (a 26 sS (c gb (c jw (a 2 uA (cu (gp 4 5) (cu (gp 5 10) (c (gc (fJ (pu rq8 (pr Ox (pl gH (pu EK fL)))))) (au 6 (cu aD7 (cu aD8 (cu aD9 (cu (gp 10 8) (cu (gp 11 8) (cu (gp 12 8) nil)))))) (cu (gp 13 37) (a 4 wJ (cu (gp 14 3) (c gb (c gi (a 3 jV (c gb (c gb (c gb (c gi (c gi (c gi (a 10 xY (cl (gc (fJ (pu auU (pu (ox (pu cX (pu cX (nat 10)))) (pl gH (pu (nat 10) fL)))))) nil))))))))))))))))))))))) (c (so aEr) (c Tc (c qJ (c qK (c sR (c (so ata) (c (so atb) (c (so atc) (c (so (a 5 fW (c gi (c (gc (fJ (pu auV (pu (ox (pu cX (pu cX ep))) (pl gH (pu ep fL)))))) jG)))) (c (so (a 5 fW (c gi (c (gc (fJ (pu azY (pu (ox (pu cX (pu cX ep))) (pl gH (pu ep fL)))))) jG)))) (c (so aEs) (c pk (c (so (c gi (c gi (cl (gc (fJ (pu azZ (pu (ox (pu cX (pu cX El))) (pl gH (pu El fL)))))) nil)))) Fv))))))))))))))) nil)))
def Vs:=qs aWx
def aqp:=qs (st (pr (us 2 (cu auW (us 2 (cu aSr (us 3 (cu aSs (c aEo (us 2 (c ai (us 144 aVQ)))))))))) (pl (c ayc (c (so (a 26 sS (c gb (c jw (a 2 uA (cu (gp 4 5) (cu (gp 5 10) (c (gc (fJ (pu rq8 (pr Ox (pl gH (pu EK fL)))))) (au 6 (cu aD7 (cu aD8 (cu aD9 (cu (gp 10 8) (cu (gp 11 8) (cu (gp 12 8) nil)))))) (cu (gp 13 37) (a 4 wJ (cu (gp 14 3) (c gb (c gi (a 3 jV (c gb (c gb (c gb (c gi (c gi (c gi (a 10 xY (cl (gc (fJ (pu auU (pu (ox (pu cX (pu cX (nat 10)))) (pl gH (pu (nat 10) fL)))))) nil))))))))))))))))))))))) (c (so aEr) (c Tc (c qJ (c qK (c sR (c (so ata) (c (so atb) (c (so atc) (c (so (a 5 fW (c gi (c (gc (fJ (pu auV (pu (ox (pu cX (pu cX ep))) (pl gH (pu ep fL)))))) jG)))) (c (so (a 5 fW (c gi (c (gc (fJ (pu azY (pu (ox (pu cX (pu cX ep))) (pl gH (pu ep fL)))))) jG)))) (c (so aEs) (c pk (c (so (c gi (c gi (cl (gc (fJ (pu azZ (pu (ox (pu cX (pu cX El))) (pl gH (pu El fL)))))) nil)))) Fv))))))))))))))) nil)))
abbrev wH:=Vs.B⊕((Nat×Int×Bool)×a0N×(J7×Bool×NI×(NI×NI)×(Nat×Nat)×uW×Bool×Int×nJ×Bool×Bool×Bool×Int×Int×Int×HS×Nat)×a0P×aMu×(nJ×Int×Int)×S9×Ws×cD×cD×cD×cD×cD×cD×Rt×xT×HT×si×si×si×si×si×si×Nat×NI×NI×NI×NI×NI×NI×NI×NI×NI×NI×NI)
def aga {ρ:Type}(x:wH)(K:AX->St->Option ρ):Option ρ:=(t9 (λd=>K .ret (Vs.em d)) (λd=>K (.ex 2) (aqp.em ((d.1.1,d.1.2.1,d.1.2),d.2)))) x
def Qy (api:GJ)(apj:GO)(abX:NW)(d:lD.B):PL lD wH:=let n18:=d.1.2;let bR:=d.2.2.1;let n9:=d.2.2.2.2.2;let n20:=n9.2.2.1.2;let n7:=bR.2.2.2.2;let n17:=n7.2.2.2.2.2.2.2.2.2.2.2.2;let n4:=n9.2.2.2;let n21:=n4.2.1;let n15:=n4.2.2.1;let n8:=n4.2.2.2;let n22:=n8.2.1;let bx:=n8.2.2;let n2:=bx.2.2;let n16:=n2.2.2;let n6:=n16.2.2;let bc:=n6.2.2;let n19:=bc.2.2.2;let n3:=n19.2;let bn:=n3.2.2;let n5:=bn.2.2.2;let bA:=n5.2.2;let n1:=(bR.1,bR.2.1,bR.2.2.1,bR.2.2.2.1,n7.1.2,n7.2);let y0:=decide (n18<6);let y1:=z9 n7.1.2 n7.1.2;let y2:=z9 n17 n17;let y3:=z9 n4.1.2.2.1 n4.1.2.2.1;let y4:=z9 n21.2.2.1 n21.2.2.1;let y5:=z9 n15.2.2.1 n15.2.2.1;let y6:=z9 n8.1.2.2.1 n8.1.2.2.1;let y7:=z9 n22.2.2.1 n22.2.2.1;let y8:=z9 bx.1.2.2.1 bx.1.2.2.1;let y9:=z9 n2.1.2.2 n2.1.2.2;ae y0 (ae y1 (ae y2 (ae y3 (ae y4 (ae y5 (ae y6 (ae y7 (ae y8 (ae y9 (opt (api (n18,n1,n9.1,n9.2.1,(sh8 n7.1.1 n20),n4.1,n21,n15,n8.1,n22,bx.1,bx.2.1,n2.1,(aqr 0 n2.2.1.2),(sf 0 n16.1.2),(sf 0 n16.2.1.2),(sf 0 n6.1.2),(sf 0 n6.2.1.2),(sf 0 bc.1.2),(sf 0 bc.2.1.2),λj=>n19.1 (0+j),λj=>n3.1 (0+j),λj=>n3.2.1 (0+j),λj=>bn.1 (0+j),λj=>bn.2.1 (0+j),λj=>bn.2.2.1 (0+j),λj=>n5.1 (0+j),λj=>n5.2.1 (0+j),λj=>bA.1 (0+j),λj=>bA.2.1 (0+j),λj=>bA.2.2 (0+j))) λak=>opt (apj ak.1 ak.2.1 ak.2.2.1 ak.2.2.2.1 ak.2.2.2.2) λaK=>ae y1 (ae y2 (ae y3 (ae y4 (ae y5 (ae y6 (ae y7 (ae y8 (ae y9 (opt (abX (n18,n1,n9.1,n9.2.1,(sh8 n7.1.1 n20),n4.1,n21,n15,n8.1,n22,bx.1,bx.2.1,n2.1,(aqr 0 n2.2.1.2),(sf 0 n16.1.2),(sf 0 n16.2.1.2),(sf 0 n6.1.2),(sf 0 n6.2.1.2),(sf 0 bc.1.2),(sf 0 bc.2.1.2),λj=>n19.1 (0+j),λj=>n3.1 (0+j),λj=>n3.2.1 (0+j),λj=>bn.1 (0+j),λj=>bn.2.1 (0+j),λj=>bn.2.2.1 (0+j),λj=>n5.1 (0+j),λj=>n5.2.1 (0+j),λj=>bA.1 (0+j),λj=>bA.2.1 (0+j),λj=>bA.2.2 (0+j))) λbJ=>ae (ak.1!=wI (aK+bJ)) (ret (wt (ww ()))) (ae y1 (ae y2 (ae y3 (ae y4 (ae y5 (ae y6 (ae y7 (ae y8 (ae y9 (opt (abX (n18,n1,n9.1,n9.2.1,(sh8 n7.1.1 n20),n4.1,n21,n15,n8.1,n22,bx.1,bx.2.1,n2.1,(aqr 0 n2.2.1.2),(sf 0 n16.1.2),(sf 0 n16.2.1.2),(sf 0 n6.1.2),(sf 0 n6.2.1.2),(sf 0 bc.1.2),(sf 0 bc.2.1.2),λj=>n19.1 (0+j),λj=>n3.1 (0+j),λj=>n3.2.1 (0+j),λj=>bn.1 (0+j),λj=>bn.2.1 (0+j),λj=>bn.2.2.1 (0+j),λj=>n5.1 (0+j),λj=>n5.2.1 (0+j),λj=>bA.1 (0+j),λj=>bA.2.1 (0+j),λj=>bA.2.2 (0+j))) λcI=>ae (decide (cI>d.2.1.2.2.1)) (ret (wt (ww ()))) (ret (ww ((d.1.1,wI (n18+1)),d.2)))) no) no) no) no) no) no) no) no) no)) no) no) no) no) no) no) no) no) no) no) no) no) no) no) no) no) no) no) (ret (wt (wt ((d.1.1,n18,y0),d.2))))
def Qz:=bE (Qy o6 zU ux) 2000
def Z2 (aMo:aiS)(auR:ZF)(aoQ:Sc)(aSa:auS)(aqq:Ix)(GM:tI)(aei:Rr)(aO3:apb)(aO4:ape)(auT:K2)(eB:LT lC BI)(ru:LT lD wH)(x:tW.B):Pg Z1:=let bc:=x.1.2.2.2.2;let Zu:=bc.1.2.2;let KV:=bc.2.1.2;opt aMo λd=>ae (!d) (ret false) (opt (auR x.1) λd=>ae (match d with|ww val=>true|wt val=>false) (opt (match d with|ww a=>some a|wt val=>none) λd=>opt (aoQ x.1) λd=>ret !d) (opt (match d with|wt b=>some b|ww val=>none) λd=>let n33:=d.1.2.2;let bA:=n33.2.2.2.2;let n34:=bA.2.2.2;let n8:=d.2.2.2;let n23:=n8.2.2.2.2.2;let n4:=n34.2.2.2.2;let n35:=n4.2.2.2;let bn:=n35.2.2.2.2;let n30:=bn.2.2.2.2;let n3:=n23.2.2.2.2;let n27:=n3.2.1;let n17:=n3.2.2;let n28:=n17.2.1;let n7:=n17.2.2;let n29:=n7.2.1;let n25:=n7.2.2;opt (aSa (x.2,((d.1.1,d.1.2.1,n33.1,n33.2.1,(n33.2.2.1,n33.2.2.2.1,bA.1,bA.2.1,bA.2.2.1,n34.1),(n34.2.1,n34.2.2.1,n34.2.2.2.1,n4.1,n4.2.1,n4.2.2.1),n35.1,n35.2.1,n35.2.2.1,n35.2.2.2.1,bn.1,bn.2.1,bn.2.2.1,bn.2.2.2.1,n30.1,n30.2.1),n30.2.2.1,n30.2.2.2.1,n30.2.2.2.2,0,(0,0,false,false),false,0,(0,0,0),false,false,false,0,0,0,((1073741824,0,0,0),(0,0,0),0,0,0),0),((d.2.1.1,d.2.1.2.1,d.2.1.2.2.1),d.2.1.2.2.2),(d.2.2.1,(0,0,(0,0,0),0,0,0),false),(n8.1,n8.1,n8.1,n8.1,n8.1,n8.1,n8.1,n8.1),((0,0,0,0,0),n8.2.1,0, -9223372036854775808),((0,0,0,0,0),n8.2.2.1,0, -9223372036854775808),((0,0,0,0,0),n8.2.2.2.1,0, -9223372036854775808),((0,0,0,0,0),n8.2.2.2.2.1,0, -9223372036854775808),((0,0,0,0,0),n23.1,0, -9223372036854775808),((0,0,0,0,0),n23.2.1,0, -9223372036854775808),(n23.2.2.1,0),(n23.2.2.2.1.1,n23.2.2.2.1.2,0),(n8.1,n8.1,n8.1,n8.1,n8.1,n8.1,n8.1,n8.1,n8.1,n8.1),(n3.1,n3.1,n3.1,n3.1,n3.1,n3.1,n3.1,n3.1,n3.1),(n27,n27,n27,n27,n27,n27,n27,n27,n27),(n17.1,n17.1,n17.1,n17.1,n17.1,n17.1,n17.1,n17.1,n17.1),(n28,n28,n28,n28,n28,n28,n28,n28,n28),(n7.1,n7.1,n7.1,n7.1,n7.1,n7.1,n7.1,n7.1,n7.1),(n29,n29,n29,n29,n29,n29,n29,n29,n29),n25,n25,n25,n25,n25,n25,n25,n25,n25,n25,n25)) λd=>let LN:=d.2.1;let n9:=LN.2.2.2.2;let n36:=n9.2.2.2.2.2.2.2.2.2.2.2.2;let n32:=n9.1.1;let n6:=d.2.2.2.2;let n37:=n6.2.2;let n26:=n6.1.2.2.2;let bx:=n37.2.2;let n31:=bx.2.2;let n2:=n31.2.2.2;let P6:=n2.2.2;let n21:=n2.2.1.2.2.2;let n46:=n21.2.2.2;let n20:=n2.1.2.2.2.2;let n45:=n20.2.2.2;let n18:=P6.1.2.2.2;let n47:=n18.2.2.2;let n15:=P6.2.1.2.2;let n39:=n15.2.2.2;let n5:=P6.2.2;let n38:=n5.2.2;let n24:=n5.1.2.2.2.2;let n22:=n5.2.1.2.2.2;let n48:=n22.2.2.2;let n19:=n38.1.2.2.2;let n49:=n19.2.2.2;let bR:=n38.2.2.2.2.2;let KU:=bR.2.2.2;let n1:=((LN.1,LN.2.1,LN.2.2.1,LN.2.2.2.1,n9.1.2,n9.2),d.2.2.1,d.2.2.2.1,(λj=>n6.1.2.1 (n32+j),λj=>n6.1.2.2.1 (n32+j),λj=>n26.1 (n32+j),λj=>n26.2.1 (n32+j),λj=>n26.2.2.1 (n32+j),λj=>n26.2.2.2.1 (n32+j),λj=>n26.2.2.2.2.1 (n32+j),λj=>(n26.2.2.2.2.2,()).1 (n32+j)),n6.2.1,n37.1,n37.2.1,bx.1,bx.2.1,n31.1,n31.2.1,n31.2.2.1,(λj=>n2.1.2.1 (0+j),λj=>n2.1.2.2.1 (0+j),λj=>n2.1.2.2.2.1 (0+j),λj=>n20.1 (0+j),λj=>n20.2.1 (0+j),λj=>n20.2.2.1 (0+j),λj=>n45.1 (0+j),λj=>n45.2.1 (0+j),λj=>n45.2.2.1 (0+j),λj=>(n45.2.2.2,()).1 (0+j)),(λj=>n2.2.1.2.1 (0+j),λj=>n2.2.1.2.2.1 (0+j),λj=>n21.1 (0+j),λj=>n21.2.1 (0+j),λj=>n21.2.2.1 (0+j),λj=>n46.1 (0+j),λj=>n46.2.1 (0+j),λj=>n46.2.2.1 (0+j),λj=>(n46.2.2.2,()).1 (0+j)),(λj=>P6.1.2.1 (0+j),λj=>P6.1.2.2.1 (0+j),λj=>n18.1 (0+j),λj=>n18.2.1 (0+j),λj=>n18.2.2.1 (0+j),λj=>n47.1 (0+j),λj=>n47.2.1 (0+j),λj=>n47.2.2.1 (0+j),λj=>(n47.2.2.2,()).1 (0+j)),(λj=>P6.2.1.2.1 (0+j),λj=>n15.1 (0+j),λj=>n15.2.1 (0+j),λj=>n15.2.2.1 (0+j),λj=>n39.1 (0+j),λj=>n39.2.1 (0+j),λj=>n39.2.2.1 (0+j),λj=>n39.2.2.2.1 (0+j),λj=>(n39.2.2.2.2,()).1 (0+j)),(λj=>n5.1.2.1 (0+j),λj=>n5.1.2.2.1 (0+j),λj=>n5.1.2.2.2.1 (0+j),λj=>n24.1 (0+j),λj=>n24.2.1 (0+j),λj=>n24.2.2.1 (0+j),λj=>n24.2.2.2.1 (0+j),λj=>n24.2.2.2.2.1 (0+j),λj=>(n24.2.2.2.2.2,()).1 (0+j)),(λj=>n5.2.1.2.1 (0+j),λj=>n5.2.1.2.2.1 (0+j),λj=>n22.1 (0+j),λj=>n22.2.1 (0+j),λj=>n22.2.2.1 (0+j),λj=>n48.1 (0+j),λj=>n48.2.1 (0+j),λj=>n48.2.2.1 (0+j),λj=>(n48.2.2.2,()).1 (0+j)),(λj=>n38.1.2.1 (0+j),λj=>n38.1.2.2.1 (0+j),λj=>n19.1 (0+j),λj=>n19.2.1 (0+j),λj=>n19.2.2.1 (0+j),λj=>n49.1 (0+j),λj=>n49.2.1 (0+j),λj=>n49.2.2.1 (0+j),λj=>(n49.2.2.2,()).1 (0+j)),λj=>n38.2.2.1 (0+j),λj=>n38.2.2.2.1 (0+j),λj=>n38.2.2.2.2.1 (0+j),λj=>bR.1 (0+j),λj=>bR.2.1 (0+j),λj=>bR.2.2.1 (0+j),λj=>KU.1 (0+j),λj=>KU.2.1 (0+j),λj=>KU.2.2.1 (0+j),λj=>KU.2.2.2.1 (0+j),λj=>(KU.2.2.2.2,()).1 (0+j));let y0:=z9 n9.1.2 n9.1.2;let y1:=z9 n36 n36;let y2:=z9 n6.2.1.2.2.1 n6.2.1.2.2.1;let y3:=z9 n37.1.2.2.1 n37.1.2.2.1;let y4:=z9 n37.2.1.2.2.1 n37.2.1.2.2.1;let y5:=z9 bx.1.2.2.1 bx.1.2.2.1;let y6:=z9 bx.2.1.2.2.1 bx.2.1.2.2.1;let y7:=z9 n31.1.2.2.1 n31.1.2.2.1;let y8:=z9 n31.2.2.1.2.2 n31.2.2.1.2.2;ae y0 (ae y1 (ae y2 (ae y3 (ae y4 (ae y5 (ae y6 (ae y7 (ae y8 (opt (aqq n1) λak=>ae y0 (ae y1 (ae y2 (ae y3 (ae y4 (ae y5 (ae y6 (ae y7 (ae y8 (opt (GM n1) λaK=>opt (aei ak.1) λbJ=>ae (!bJ) (ret false) (opt (aO3 ak.2.1 ak.2.2) λcI=>ae (!cI) (ret false) (opt (aO4 aK.1 aK.2.1 aK.2.2.1 aK.2.2.2.1) λeV=>ae (!eV) (ret false) (ae y0 (ae y1 (ae y2 (ae y3 (ae y4 (ae y5 (ae y6 (ae y7 (ae y8 (opt (auT n1) λdq=>opt (eB ((dq.1,0),(x.1.1,x.1.2.1,x.1.2.2.1,x.1.2.2.2.1,bc.1.1,bc.1.2.1,Zu.1,Zu.2.1,Zu.2.2.1,Zu.2.2.2,bc.2.1.1,KV.1,KV.2.1,KV.2.2.1,KV.2.2.2.1,KV.2.2.2.2,bc.2.2),LN,aK,dq.2,d.2.2)) λx=>sum x (λd=>ret false) λd=>opt (ru ((d.1.1,0),d.2)) λx=>sum x (λd=>ret false) λd=>let n16:=d.2.2.2.1.2.2.2.2.2.2.2.2.2;ae (!(n16.1==0&&(n16.2.1==0&&(n16.2.2.1==0&&(n16.2.2.2.1==0&&true))))) (ret (decide (ws d.1.1<=d.2.1.2.2.2.2.2.2.2.2.2.2.2.2.2.2.2.2.2.2.2.2.2.2.1))) (ret false)) no) no) no) no) no) no) no) no) no)))) no) no) no) no) no) no) no) no) no) no) no) no) no) no) no) no) no) no))
def BJ:=λx=>(Z2 Wo uU qI K6 vj gm Ej LJ S4 rX Qx Qz x).val
abbrev GP:=aiS×ZF×Sc×auS×Ix×tI×Rr×apb×ape×K2×sD×GJ×GO×NW×(LT lC BI)×(LT lD wH)
def N3 (p:GP):KK:=⟨[axL p.1,auC p.2.1,abD p.b.1,aHg p.b.2.1,Iy p.c.1,zE p.c.2.1,as0 p.c.b.1,apc p.c.b.2.1,aCy p.d.1,K3 p.d.2.1,z5 p.d.b.1,GK p.d.b.2.1,S7 p.d.c.1,NX p.d.c.2.1],⟨[⟨13,(0::1::4::7::8::rg 12 182 []),[(0,[])]⟩,⟨19,(0::1::3::4::6::7::8::11::12::rg 14 180 []),[(0,[])]⟩],[gx 13 0 lC af9 p.d.c.b.1,gx 19 0 lD aga p.d.c.b.2],[],[],(some ⟨0,(rg 0 4 (rg 5 189 [])),[]⟩)⟩,0,7⟩
theorem axM (p:GP):LI (N3 p) 13 lC af9 (Qw p.c.b.1 p.d.b.1):=λ_ d c K=>by kernel_rfl
theorem axN (p:GP):LI (N3 p) 19 lD aga (Qy p.d.b.2.1 p.d.c.1 p.d.c.2.1):=λ_ d c K=>by kernel_rfl
theorem aHk (p:GP):D2 (N3 p) tW (lf UO) λb=>Z2 p.1 p.2.1 p.b.1 p.b.2.1 p.c.1 p.c.2.1 p.c.b.1 p.c.b.2.1 p.d.1 p.d.2.1 p.d.c.b.1 p.d.c.b.2 b:=λb=>by kernel_rfl
abbrev N4:GP:=(Wo,uU,qI,K6,vj,gm,Ej,LJ,S4,rX,dJ,o6,zU,ux,Qx,Qz)
theorem aHl [ay]:SC (aHj BJ):=sc (kS (k:=N3 N4) (.c aMn (.c aGX (.c aoq (.c aR6 (.c Vq (.c Gy (.c aIJ (.c aCv (.c aO2 (.c ZR (.c D9 (.c S3 (.c aph (.c abV (.nil _))))))))))))))) [13,19] [] ⟨kL (axM N4),⟨kL (axN N4),trivial⟩⟩ trivial (aHk N4))
end Go.Proofs.YtldgljclcgaibaaGreat
namespace Go.Proofs.YtldgljclcgaibaaGreat
open Go.Ab Go.Ab.Pg
theorem Iw.in (s:Nat->Int)(h:Iw s)(j:Nat)(hj:j<24): -box j<=s j/\s j<=box j:=by
 rcases ni j 4 with c|c
 .have b:box j=1073741840:=by unfold box;rw[if_pos c]
  rw[b];have:j=0∨j=1∨j=2∨j=3:=by omega
  rcases this with rfl|rfl|rfl|rfl
  .exact h.1.1 0 (by decide)
  .exact h.1.1 1 (by decide)
  .exact h.1.1 2 (by decide)
  .exact h.1.1 3 (by decide)
 .exact h.2 j c hj
theorem aO5 (s:Nat->Int)(h:Iw s):∀(d:o7.B) (hd:0<=d.1.2/\d.1.2<=24/\(∀j,j<24->d.1.1 j=box j)/\d.2=s),Ok (UN d) (λx:DZ=>match x with|.inl _=>False|.inr e=>e.2=s):=
 bO (λd:o7.B=>z4 (24-d.1.2)) (λd hd=>by
  obtain⟨i0,i1,i2,i3⟩:=hd;unfold UM;dsimp only;rw[aN];refine⟨λc=> ?_,λ_=>by rw[aw];exact i3⟩;have c:=dm c;have hw:wI (d.1.2+1)=d.1.2+1:=aW;obtain⟨n,hn⟩:∃n:Nat,d.1.2=n:=⟨z4 d.1.2,by omega⟩;have nn:z4 d.1.2=n:=by rw[hn];rfl
  have r0:bf d.1.2 24=true:=by rw[bq];omega
  have b:=Iw.in s h n (by omega);have b1:=aMg n;have w0:wI (0-box n)= -box n:=by rw[Int.zero_sub];exact dV (by omega) (by omega)
  rw[r0,nn,i2 n (by omega),i3,w0,hw];rw[aE,aE];rw[aN];refine⟨λq=>absurd (dm q) (by omega),λ_=> ?_⟩;rw[aE];rw[aN];refine⟨λq=>absurd (dm q) (by omega),λ_=> ?_⟩;rw[aw];exact⟨⟨by show 0<=d.1.2+1;omega,by show d.1.2+1<=24;omega,i2,rfl⟩,by show z4 (24-(d.1.2+1))<_;omega⟩) (λd hd=>by omega)
theorem axO (s:Nat->Int)(h:Iw s):Ok (Ej s) (λr:Bool=>r=true):=by
 unfold Ej aef;show PQ _ _;rw[bH];intro b hb;have hb:=aG3 b hb;refine aA (aO5 s h _ ⟨(show(0:Int)<=0 by decide),(show(0:Int)<=24 by decide),hb,rfl⟩) λx _ hx=> ?_;rw[qQ];refine⟨λa ha=> ?_,λa ha=> ?_⟩
 .subst ha;exact absurd hx id
 .subst ha;have hx:a.2=s:=hx;rw[hx,aRJ,bV];refine aA (aGs _ _ _ _) λu _ hu=> ?_;rw[aw];exact hu.2 h.1
theorem aCz (x lo hi:Int)(c:Bool)(h:lo<=hi)(h0:lo<=x)(h1:x<=hi):aV x lo hi c=some (x,c):=by
 simp only[aV,qz,Pg.bN,Pg.bQ];rw[cV (by omega),cV (by omega),cV (by omega)];rfl
theorem aHm (x:Int)(c:Bool)(h:Dr x):hO x c=some (x,c):=by
 simp only[hO,yI,Pg.cx,Pg.bQ,aCz x 1 72057594037927936 c (by decide) h.1 h.2,bG]
theorem aDO:∀(d:eP.B) (hd:vh d.b.1/\d.2.1=false),Po (rz d) (λx:lP=>vh x.b.1/\x.2.1=false):=
 lN (λd hd=>by
  obtain⟨hv,hc⟩:=hd;have hU:=hv.1;have hV:=hv.2;unfold ry;dsimp only;rw[aT];refine⟨λ_=> ?_,λ_=>by rw[aL];exact⟨hv,hc⟩⟩;rw[gU];intro hr;rw[bq] at hr;have hd:=hV (z4 d.1) (by omega);rw[aHm _ _ hd,bg];intro e he;have he:=HX he;subst he;rw[gU];intro _;rw[gU];intro _;rw[aL];exact⟨⟨hU,apF hV hd⟩,hc⟩)
theorem aDP:∀(d:eQ.B) (hd:vh d.b.1/\d.2.1=false),Po (rB d) (λx:lQ=>vh x.b.1/\x.2.1=false):=
 lN (λd hd=>by
  obtain⟨hv,hc⟩:=hd;have hU:=hv.1;have hV:=hv.2;unfold rA;dsimp only;rw[aT];refine⟨λ_=> ?_,λ_=>by rw[aL];exact⟨hv,hc⟩⟩;rw[gU];intro hr;rw[gU];intro _;rw[bq] at hr;have hd:=hU (z4 d.1) (by omega);rw[aCz _ _ _ _ (by decide) hd.1 hd.2,bg];intro e he;have he:=HX he;subst he;rw[gU];intro _;rw[gU];intro _;rw[aL];exact⟨⟨apF hU hd,hV⟩,hc⟩)
theorem aSb (u v:Nat->Int)(h:vh (u,v)):Ok (LJ u v) (λr:Bool=>r=true):=by
 unfold LJ apd;show PQ _ _;rw[bH];intro d hd;rw[aw]
 have key:Po (dO u v false) (λr=>r.2=false):=by
  unfold dO wq;show PW _ _;refine aC (aDO _ ⟨h,rfl⟩) λa _ ha=> ?_;refine aC (aDP _ ha) λb _ hb=> ?_;rw[aL];exact hb.2
 rw[key d hd];rfl
theorem aU5 (m:Int×Int×Bool×Bool)(h:MG m):S4 m.1 m.2.1 m.b.1 m.b.2=some true:=by
 obtain⟨a,b,c,d⟩:=m;dsimp only[MG] at h ⊢
 simp only[S4,apf,Pg.bN,Pg.bQ];rcases h with⟨h0,rfl,rfl,rfl⟩| ⟨h0,h1,h2,h3⟩
 .rcases h0 with rfl|rfl<;>rfl
 .rw[dW (show b>=1 by omega),dW (show b<=3 by omega)];rcases h0 with rfl|rfl
  .rfl
  .rcases h3 with rfl|h3
   .rfl
   .cases h3
end Go.Proofs.YtldgljclcgaibaaGreat
