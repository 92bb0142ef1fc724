/-
  Parts of the proof: TDg TDh TWk QA QG TGk TWt TWq TSa QB N4 TSc
-/
import Derived.Test.YtldgljclcgaibaaGreatZAE
import Derived.Test.YtldgljclcgaibaaGreatZAG
import Derived.Test.YtldgljclcgaibaaGreatZAK
import Derived.Test.YtldgljclcgaibaaGreatZAM
import Derived.Test.YtldgljclcgaibaaGreatZAN
open Nat renaming beq→z9,ble→wr
open Int renaming toNat→z4,ofNat→ws,tdiv→ul
open Sum renaming inl→w7,inr→ww,elim→v4
set_option linter.unusedVariables false
set_option linter.unusedSimpArgs false
set_option maxRecDepth 100000
set_option maxHeartbeats 4000000
namespace Go.Proofs.YtldgljclcgaibaaGreat
open Go.Ab Go.Ab.Pg
theorem Hw {α:Type}(f:Nat->α)(y j:Nat)(v:α):(bif z9 j y then v else f j)=if j=y then v else f j:=by
 by_cases h:j=y
 .rw[if_pos h,h,Ar];rfl
 .rw[if_neg h];cases e:z9 j y
  .rfl
  .exact absurd (lE e) h
theorem aDO {α:Type}(i y:Nat)(a b:α):(bif z9 i y then a else b)=if i=y then a else b:=by
 exact Hw (λ_=>b) y i a
def okV (d:Int):Prop:=d=17592186044416∨d=68719476736∨d=67108864∨d=4294967296∨d=17179869184
theorem okV.le {d:Int}(h:okV d):1<=d/\d<=72057594037927936:=by
 rcases h with rfl|rfl|rfl|rfl|rfl<;>decide
theorem afE (x lo hi:Int)(b:Bool)(h:lo<=x)(k:x<=hi):aT x lo hi b=some (x,b):=by
 have h1:decide (lo>hi)=false:=cC (by omega);have h2:decide (x<lo)=false:=cC (by omega);have h3:decide (x>hi)=false:=cC (by omega);unfold aT qF;rw[h1,h2,h3];rfl
theorem Q6 {x:Int}(h: -1152921504606846976<=x/\x<=1152921504606846976):sat x=x:=(JM h).1
theorem Jg {x:Int}(h: -1152921504606846976<=x/\x<=1152921504606846976):dE x=false:=(JM h).2
theorem aMy (w x:Int)(b:Bool)(hw:w=0∨w=1073741824)(hx: -1152921504606846976<=x/\x<=1152921504606846976):aU w x 30 b=some (if w=0 then 0 else x,b):=by
 have h:=aGd w x 30 b (by decide);have e1:sat w=w:=Q6 (by omega);have e2:dE w=false:=Jg (by omega)
 have r:C4 (w*x) 30=(if w=0 then 0 else x):=by
  rcases hw with rfl|rfl
  .rw[afY,if_pos rfl];rfl
  .rw[if_neg (by decide),yg];exact aOE x
 have hr: -1152921504606846976<=(if w=0 then 0 else x)/\(if w=0 then 0 else x)<=1152921504606846976:=by split<;>omega
 rw[e1,e2,Q6 hx,Jg hx,r,Q6 hr,Jg hr,LJ,LJ,LJ] at h;exact h
theorem div_zero (d:Int)(b:Bool)(h:okV d):bh 0 d 30 b=some (0,b):=by
 rcases h with rfl|rfl|rfl|rfl|rfl<;>cases b<;>kernel_rfl
theorem sub_zero (x:Int)(b:Bool)(h: -1152921504606846976<=x/\x<=1152921504606846976):bS x 0 b=some (x,b):=by
 have z:sat 0=0:=Q6 (by decide);have zo:dE 0=false:=Jg (by decide);simp only[bS,II,Pg.bZ,Pg.bP,pj,bC,Q6 h,Jg h,z,zo,LJ,Int.sub_zero];rw[eS (by omega) (by omega),Q6 h,Jg h,LJ]
theorem aB5 {f g:Nat->Int}:∀n,(∀j,j<n->f j=g j)->pk f n=pk g n
 |0,_=>rfl
 |n+1,h=>by
  show pk f n+f n=pk g n+g n;rw[aB5 n (λj hj=>h j (by omega)),h n (by omega)]
theorem aPD {f:Nat->Bool}:∀n,(∀j,j<n->f j=false)->oE f n=false
 |0,_=>rfl
 |n+1,h=>by
  show(oE f n||f n)=false;rw[aPD n (λj hj=>h j (by omega)),h n (by omega)];rfl
theorem aJT {f:Nat->Int}(k:Nat):∀n,(∀j,j<n->j≠k->f j=0)->pk f n=if k<n then f k else 0
 |0,_=>by rw[if_neg (by omega)];rfl
 |n+1,h=>by
  show pk f n+f n=_;rw[aJT k n (λj hj=>h j (by omega))];by_cases e:n=k
  .subst e;rw[if_neg (by omega),if_pos (by omega),akR]
  .rw[h n (by omega) e,Int.add_zero];by_cases c:k<n
   .rw[if_pos c,if_pos (by omega)]
   .rw[if_neg c,if_neg (by omega)]
theorem aHa (n k:Nat)(hn:n<=100)(hk:k<n)(V:Int)(b w w':Bool)(f g:Nat->Int)(hf:∀j,j<n-> -1152921504606846976<=f j/\f j<=1152921504606846976)(hg:∀j,j<n-> -1152921504606846976<=g j/\g j<=1152921504606846976)
  (hz:∀j,j<n->j≠k->f j*g j=0)(hV:f k*g k=V*1073741824)(r: -1152921504606846976<=V/\V<=1152921504606846976):bu 30 n n b f g w w'=some (V,b):=by
 have h:=aGe 30 (by decide) n hn b f g w w'
 have e:pk (λj=>sat (f j)*sat (g j)) n=V*1073741824:=by
  rw[aB5 n (λj hj=>by show sat (f j)*sat (g j)=f j*g j;rw[Q6 (hf j hj),Q6 (hg j hj)]:∀j,j<n->(λj=>sat (f j)*sat (g j)) j=(λj=>f j*g j) j),aJT k n hz,if_pos hk,hV]
 have a:oE (λj=>dE (f j)||dE (g j)) n=false:=aPD n λj hj=>by
  show(dE (f j)||dE (g j))=false;rw[Jg (hf j hj),Jg (hg j hj)];rfl
 rw[e,a,aOE,Q6 r,Jg r,LJ,LJ] at h;exact h
theorem a0V (x:Int)(b:Bool)(h:1<=x)(k:x<=72057594037927936):gr x b=some (x,b):=by
 unfold gr yM;rw[Pg.bZ,afE x 1 72057594037927936 b h k];rfl
theorem a0W (x:Int)(b:Bool)(h:1<=x)(k:x<=72057594037927936):nj x b=some (x,b):=by
 unfold nj E1;rw[Pg.bZ,afE x 1 72057594037927936 b h k];rfl
theorem a27 (x:Int)(h:0<=x)(k:x<24):zy x=some true:=by
 have h1:decide (x>=0)=true:=dR h;have h2:decide (x<24)=true:=dR k;unfold zy Ru;rw[h1,h2];rfl
theorem a28:∀j:Nat,j<24->0<=wI (ul (wI ((j:Int)*wI ((j:Int)-1))) 2)/\wI (ul (wI ((j:Int)*wI ((j:Int)-1))) 2)+(j:Int)<=276+(if j=0 then 1 else 0):=by decide
theorem aWf {i j:Int}{d:Vn}(h:fH i j=some d)(ok:d.2=true):0<=d.1/\d.1<276:=by
 simp only[fH,zq,bP,bN] at h;by_cases h0:0<=i
 .by_cases h1:i<j
  .simp only[ES,h0,h1,Ji,bn,iv] at h;subst h;have h2:j<24:=dh ok;obtain⟨n,rfl⟩:=Int.eq_ofNat_of_zero_le (by omega:0<=j);obtain⟨k1,k2⟩:=a28 n (by omega);rw[if_neg (by omega)] at k2;generalize wI (ul (wI ((n:Int)*wI ((n:Int)-1))) 2)=c at*
   show 0<=wI (c+i)/\wI (c+i)<276;rw[eS (by omega) (by omega)];omega
  .simp only[ES,h0,h1,Ji,Kd,bn,bx,iv] at h;subst h;cases ok
 .simp only[ES,h0,Kd,bx,iv] at h;subst h;cases ok
theorem aJU (i j:Nat)(h:i<j)(k:j<24):∃p:Int,fH i j=some (p,true)/\0<=p/\p<276:=by
 have c1:decide ((i:Int)>=0)=true:=dR (by omega);have c2:decide ((i:Int)<(j:Int))=true:=dR (by omega);have c3:decide ((j:Int)<24)=true:=dR (by omega)
 have e:fH i j=some (wI (wI (ul (wI ((j:Int)*wI ((j:Int)-1))) 2)+(i:Int)),true):=by
  unfold fH zq;rw[c1,c2,c3];rfl
 refine⟨_,e,?_⟩;have:=aWf e rfl;exact this
theorem aPE (U D:Nat->Int)(hU:∀p,p<276->U p=0)(i j:Nat)(h:i<=j)(k:j<24):wW U D i j=some (if i=j then 1073741824 else 0):=by
 unfold wW al4;by_cases e:i=j
 .subst e;have c0:((i:Int)==(i:Int))=true:=by simp
  have c1:decide ((i:Int)>=0)=true:=dR (by omega);have c2:decide ((i:Int)<24)=true:=dR (by omega);rw[c0,c1,c2,if_pos rfl];rfl
 .have c0:((i:Int)==(j:Int))=false:=by simp;omega
  obtain⟨p,hp,p0,p1⟩:=aJU i j (by omega) k;have c1:aZ p 276=true:=by rw[bp];omega
  have c2:wr (0+z4 p*1+1) 276=true:=by rw[ch];omega
  rw[c0,if_neg e,Pg.bN,bx,Pg.bZ,hp,bC];simp only[HW,c1,c2,Pg.bN,bx,bn,Pg.bP];rw[hU _ (by omega)]
theorem aIr (D:Nat->Int)(i j:Nat)(h:i<j)(k:j<24):ur (λ_=>0) D i j 0=some (λ_=>0,D):=by
 obtain⟨p,hp,p0,p1⟩:=aJU i j h k;have c1:aZ p 276=true:=by rw[bp];omega
 have c2:(wr (0+z4 p*1+1) 276&&wr (0+z4 p*1+1) 300)=true:=by rw[cL,ch,ch];omega
 unfold ur Xe;rw[Pg.bZ,hp,bC];dsimp only;rw[c1,c2];simp only[Pg.bN,bn,Pg.bP];have e:(λj:Nat=>bif z9 j (z4 p) then(0:Int) else 0)=λ_=>0:=funext λj=>by cases z9 j (z4 p)<;>rfl
 exact eC some (Prod.ext e rfl)
theorem a5d (b:Bool)(D:Nat->Int)(hD:∀i,i<24->1<=D i/\D i<=72057594037927936):∀(d:ek.B) (hd:0<=d.1/\d.1<=24/\d.2.1=b/\(∀p,p<276->d.2.2.1.1 p=0)/\∀i,i<24->d.2.2.1.2 i=D i),Ok (oI d) (λx:lT=>x.2.1=b/\(∀p,p<276->x.2.2.1.1 p=0)/\∀i,i<24->x.2.2.1.2 i=D i):=
 bT (λd:ek.B=>z4 (24-d.1)) (λd hd=>by
  obtain⟨i0,i1,i2,i3,i4⟩:=hd;have hw:wI (d.1+1)=d.1+1:=bf;unfold rD;dsimp only;rw[aM];refine⟨λh=> ?_,λ_=>by rw[aw];exact⟨i2,i3,i4⟩⟩;have h:=dh h;have r0:aZ d.1 24=true:=by rw[bp];omega
  have r1:(true&&wr (276+z4 d.1*1+1) 300)=true:=by rw[pM,ch];omega
  have k:=i4 (z4 d.1) (by omega);have hd:=hD (z4 d.1) (by omega);rw[r0,aD,a0V _ _ (by omega) (by omega),cz,aD,r1,aD,aw,hw];refine⟨⟨by show 0<=d.1+1;omega,by show d.1+1<=24;omega,i2,i3,λi hi=> ?_⟩,by show z4 (24-(d.1+1))<_;omega⟩;show(bif z9 i (z4 d.1) then d.2.2.1.2 (z4 d.1) else d.2.2.1.2 i)=D i;rw[Hw];split
  .rename_i e;rw[e,k]
  .exact i4 i hi) (λd hd=>by omega)
theorem a5e (b:Bool)(D:Nat->Int):∀(d:eo.B) (hd:0<=d.1/\d.1<=276/\d.2.1=b/\(∀p,p<276->d.2.2.1.1 p=0)/\∀i,i<24->d.2.2.1.2 i=D i),Ok (oJ d) (λx:lU=>x.2.1=b/\(∀p,p<276->x.2.2.1.1 p=0)/\∀i,i<24->x.2.2.1.2 i=D i):=
 bT (λd:eo.B=>z4 (276-d.1)) (λd hd=>by
  obtain⟨i0,i1,i2,i3,i4⟩:=hd;have hw:wI (d.1+1)=d.1+1:=bf;unfold rE;dsimp only;rw[aM];refine⟨λh=> ?_,λ_=>by rw[aw];exact⟨i2,i3,i4⟩⟩;have h:=dh h;have r0:aZ d.1 276=true:=by rw[bp];omega
  have r1:wr (0+z4 d.1*1+1) 276=true:=by rw[ch];omega
  have r2:wr (0+z4 d.1*1+1) 300=true:=by rw[ch];omega
  rw[r0,r1,r2,i3 (z4 d.1) (by omega),aD,aD,afE 0 _ _ _ (by decide) (by decide),cz,aD,pM,aD,aw,hw];refine⟨⟨by show 0<=d.1+1;omega,by show d.1+1<=276;omega,i2,λi hi=> ?_,i4⟩,by show z4 (276-(d.1+1))<_;omega⟩;show(bif z9 i (z4 d.1) then 0 else d.2.2.1.1 i)=0;rw[Hw];split
  .rfl
  .exact i3 i hi) (λd hd=>by omega)
theorem aST (U D:Nat->Int)(b:Bool)(hU:∀p,p<276->U p=0)(hD:∀i,i<24->1<=D i/\D i<=72057594037927936):Ok (du U D b) (λr:OT=>r.2=b/\(∀p,p<276->r.1.1 p=0)/\∀i,i<24->r.1.2 i=D i):=by
 unfold du wA;show PQ _ _;refine ax (a5d b D hD _ ⟨dZ 0,(show(0:Int)<=24 by decide),rfl,hU,λ_ _=>rfl⟩) λx _ hx=> ?_;refine ax (a5e b D _ ⟨dZ 0,(show(0:Int)<=276 by decide),hx⟩) λy _ hy=> ?_;rw[aw];exact hy
theorem a5f (k:Nat)(hk:k<24)(w d:eW.B)(hU:∀p,p<276->w.2.2.2.1.1 p=0)(hd:0<=d.1.2.2.2/\d.1.2.2.2<=d.1.2.2.1/\d.1.2.2.1=(k:Int)+1/\d.1.1=k/\d.1.2.1=k/\d.2.1=w.2.1/\d.2.2.1=w.2.2.1/\d.2.2.2.1=w.2.2.2.1/\d.2.2.2.2.1=w.2.2.2.2.1/\∀m:Nat,m<24->d.2.2.2.2.2 m=if m=k/\(m:Int)<d.1.2.2.2 then 1073741824 else 0):Ok (wY d) (λx:oK=>x.1.1=k/\x.1.2.1=k/\x.2.1=w.2.1/\x.2.2.1=w.2.2.1/\x.2.2.2.1=w.2.2.2.1/\x.2.2.2.2.1=w.2.2.2.2.1/\∀m:Nat,m<24->x.2.2.2.2.2 m=if m=k then 1073741824 else 0):=
 uK (s:=_) (λd:eW.B=>0<=d.1.2.2.2/\d.1.2.2.2<=d.1.2.2.1/\d.1.2.2.1=(k:Int)+1/\d.1.1=k/\d.1.2.1=k/\d.2.1=w.2.1/\d.2.2.1=w.2.2.1/\d.2.2.2.1=w.2.2.2.1/\d.2.2.2.2.1=w.2.2.2.2.1/\∀m:Nat,m<24->d.2.2.2.2.2 m=if m=k/\(m:Int)<d.1.2.2.2 then 1073741824 else 0) (λd:eW.B=>z4 (d.1.2.2.1-d.1.2.2.2)) (λx:oK=>x.1.1=k/\x.1.2.1=k/\x.2.1=w.2.1/\x.2.2.1=w.2.2.1/\x.2.2.2.1=w.2.2.2.1/\x.2.2.2.2.1=w.2.2.2.2.1/\∀m:Nat,m<24->x.2.2.2.2.2 m=if m=k then 1073741824 else 0) (λd hd=>by
  obtain⟨i0,i1,i2,i3,i3',i4,i5,i6,i7,i8⟩:=hd;have hw:wI (d.1.2.2.2+1)=d.1.2.2.2+1:=bf;unfold CS;dsimp only;rw[aM];refine⟨λh=> ?_,λh=> ?_⟩
  .have h:=dh h;obtain⟨m,hm⟩:∃m:Nat,d.1.2.2.2=(m:Int):=⟨z4 d.1.2.2.2,by omega⟩;have r0:aZ d.1.2.2.2 24=true:=by rw[bp];omega
   have r1:(true&&wr (0+z4 d.1.2.2.2*1+1) 24)=true:=by rw[pM,ch];omega
   rw[r0,r1,i6,i3,hm,aPE _ _ hU m k (by omega) hk,cz,aD,aD,aw];rw[hm] at hw;rw[hw];refine⟨⟨by show 0<=(m:Int)+1;omega,by show(m:Int)+1<=d.1.2.2.1;omega,i2,rfl,i3',i4,i5,rfl,i7,λj hj=> ?_⟩,by show z4 (d.1.2.2.1-((m:Int)+1))<_;omega⟩;show(bif z9 j (z4 (m:Int)) then(if m=k then 1073741824 else 0) else d.2.2.2.2.2 j)=if j=k/\(j:Int)<(m:Int)+1 then 1073741824 else 0
   rw[Hw,i8 j hj,hm,HV];by_cases e1:j=m
   .subst e1;rw[if_pos rfl];by_cases e2:j=k
    .rw[if_pos e2,if_pos ⟨e2,by omega⟩]
    .rw[if_neg e2,if_neg (λh=>e2 h.1)]
   .rw[if_neg e1];by_cases e2:j=k/\(j:Int)<(m:Int)
    .rw[if_pos e2,if_pos ⟨e2.1,by omega⟩]
    .rw[if_neg e2,if_neg (λh=>e2 ⟨h.1,by omega⟩)]
  .have h:=wS h;rw[aw];refine⟨i3,i3',i4,i5,i6,i7,λm hm=> ?_⟩;show d.2.2.2.2.2 m=_;rw[i8 m hm];by_cases e:m=k
   .rw[if_pos e,if_pos ⟨e,by omega⟩]
   .rw[if_neg e,if_neg (λh=>e h.1)]) 2000 d hd (by omega)
theorem a5g (F:Nat->Int)(hF:∀i,i<24->F i=0∨F i=1073741824)(k:Nat)(hk:k<24)(w d:eX.B)(hf:∀i k,i<24->k<24->w.2.2.1 (i*24+k)=if i=k then F i else 0)(hc:∀m:Nat,m<24->w.2.2.2.2.2 m=if m=k then 1073741824 else 0)(hd:0<=d.1.2.2/\d.1.2.2<=24/\d.1.1=k/\d.1.2.1=k/\d.2.1=w.2.1/\d.2.2.1=w.2.2.1/\d.2.2.2.1=w.2.2.2.1/\d.2.2.2.2.2=w.2.2.2.2.2/\∀i j,i<24->j<48->d.2.2.2.2.1 (i*48+j)=if i=j/\(j<k∨(j=k/\(k:Int)<d.1.2.2)) then F i else 0):Ok (wZ d) (λx:oL=>x.1.2.1=k/\x.2.1=w.2.1/\x.2.2.1=w.2.2.1/\x.2.2.2.1=w.2.2.2.1/\∀i j,i<24->j<48->x.2.2.2.2.1 (i*48+j)=if i=j/\j<k+1 then F i else 0):=
 uK (s:=_) (λd:eX.B=>0<=d.1.2.2/\d.1.2.2<=24/\d.1.1=k/\d.1.2.1=k/\d.2.1=w.2.1/\d.2.2.1=w.2.2.1/\d.2.2.2.1=w.2.2.2.1/\d.2.2.2.2.2=w.2.2.2.2.2/\∀i j,i<24->j<48->d.2.2.2.2.1 (i*48+j)=if i=j/\(j<k∨(j=k/\(k:Int)<d.1.2.2)) then F i else 0) (λd:eX.B=>z4 (24-d.1.2.2)) (λx:oL=>x.1.2.1=k/\x.2.1=w.2.1/\x.2.2.1=w.2.2.1/\x.2.2.2.1=w.2.2.2.1/\∀i j,i<24->j<48->x.2.2.2.2.1 (i*48+j)=if i=j/\j<k+1 then F i else 0) (λd hd=>by
  obtain⟨i0,i1,i2,i3,i4,i5,i6,i7,i8⟩:=hd;have hw:wI (d.1.2.2+1)=d.1.2.2+1:=bf;unfold CT;dsimp only;rw[aM];refine⟨λh=> ?_,λh=> ?_⟩
  .have h:=dh h;obtain⟨m,hm⟩:∃m:Nat,d.1.2.2=(m:Int):=⟨z4 d.1.2.2,by omega⟩;have aUj:m<24:=by omega
   have r0:aZ d.1.2.2 24=true:=by rw[bp];omega
   have r1:aZ d.1.1 48=true:=by rw[bp];omega
   have r2:(true&&wr (0+(z4 d.1.2.2*48+z4 d.1.1)*1+1) 1152)=true:=by rw[pM,ch];omega
   have bF:∀j,j<24-> -1152921504606846976<=F j/\F j<=1152921504606846976:=λj hj=>by have:=hF j hj;omega
   have dot:bu 30 24 24 d.2.1 (λj=>d.2.2.1 (0+z4 d.1.2.2*24+j)) d.2.2.2.2.2 false false=some (if m=k then F k else 0,d.2.1):=by
    have fj:∀j,j<24->d.2.2.1 (0+z4 d.1.2.2*24+j)=if m=j then F m else 0:=λj hj=>by
     rw[i5,hm,HV,gP];exact hf m j aUj hj
    have gj:∀j,j<24->d.2.2.2.2.2 j=if j=k then 1073741824 else 0:=λj hj=>by rw[i7];exact hc j hj
    refine aHa 24 k (by decide) hk _ _ _ _ _ _ (λj hj=> ?_) (λj hj=> ?_) (λj hj e=> ?_) ?_ ?_
    .show -1152921504606846976<=d.2.2.1 (0+z4 d.1.2.2*24+j)/\d.2.2.1 (0+z4 d.1.2.2*24+j)<=1152921504606846976;rw[fj j hj];have:=bF m aUj;split<;>omega
    .rw[gj j hj];split<;>omega
    .show d.2.2.1 (0+z4 d.1.2.2*24+j)*d.2.2.2.2.2 j=0;rw[gj j hj,if_neg e,Int.mul_zero]
    .show d.2.2.1 (0+z4 d.1.2.2*24+k)*d.2.2.2.2.2 k=_;rw[fj k hk,gj k hk,if_pos rfl];by_cases e:m=k
     .subst e;rw[if_pos rfl]
     .rw[if_neg e,if_neg e]
    .have:=bF k hk;split<;>omega
   rw[r0,aD,dot,cz,aD,r1,aD,r2,aD,aw,hw];refine⟨⟨by show 0<=d.1.2.2+1;omega,by show d.1.2.2+1<=24;omega,i2,i3,i4,i5,i6,i7,λi j hi hj=> ?_⟩,by show z4 (24-(d.1.2.2+1))<_;omega⟩;show(bif z9 (i*48+j) (z4 d.1.2.2*48+z4 d.1.1) then(if m=k then F k else 0) else d.2.2.2.2.1 (i*48+j))=if i=j/\(j<k∨(j=k/\(k:Int)<d.1.2.2+1)) then F i else 0
   rw[Hw,i8 i j hi hj,hm,i2,HV,HV];by_cases e1:i*48+j=m*48+k
   .have ei:i=m:=by omega
    have ej:j=k:=by omega
    subst ei;subst ej;rw[if_pos e1];by_cases e2:i=j
    .subst e2;rw[if_pos rfl,if_pos ⟨rfl,Or.inr ⟨rfl,by omega⟩⟩]
    .rw[if_neg e2,if_neg (λh=>e2 h.1)]
   .rw[if_neg e1];by_cases e2:i=j/\(j<k∨(j=k/\(k:Int)<(m:Int)))
    .rw[if_pos e2,if_pos (by omega)]
    .rw[if_neg e2,if_neg (by omega)]
  .have h:=wS h;rw[aw];refine⟨i3,i4,i5,i6,λi j hi hj=> ?_⟩;show d.2.2.2.2.1 (i*48+j)=_;rw[i8 i j hi hj];by_cases e:i=j/\(j<k∨(j=k/\(k:Int)<d.1.2.2))
   .rw[if_pos e,if_pos (by omega)]
   .rw[if_neg e,if_neg (by omega)]) 2000 d hd (by omega)
theorem a5h (F:Nat->Int)(hF:∀i,i<24->F i=0∨F i=1073741824)(w d:eY.B)(hU:∀p,p<276->w.b.2.1.1 p=0)(hf:∀i k,i<24->k<24->w.b.1 (i*24+k)=if i=k then F i else 0)(hd:0<=d.1/\d.1<=24/\d.2.1=w.2.1/\d.b.1=w.b.1/\d.b.2.1=w.b.2.1/\∀i j,i<24->j<48->d.b.2.2 (i*48+j)=if i=j/\(j:Int)<d.1 then F i else 0):Ok (w9 d) (λx:oM=>x.2.1=w.2.1/\x.b.1=w.b.1/\∀i j,i<24->j<48->x.b.2.2 (i*48+j)=if i=j/\j<24 then F i else 0):=
 uK (s:=_) (λd:eY.B=>0<=d.1/\d.1<=24/\d.2.1=w.2.1/\d.b.1=w.b.1/\d.b.2.1=w.b.2.1/\∀i j,i<24->j<48->d.b.2.2 (i*48+j)=if i=j/\(j:Int)<d.1 then F i else 0) (λd:eY.B=>z4 (24-d.1)) (λx:oM=>x.2.1=w.2.1/\x.b.1=w.b.1/\∀i j,i<24->j<48->x.b.2.2 (i*48+j)=if i=j/\j<24 then F i else 0) (λd hd=>by
  obtain⟨i0,i1,i2,i3,i4,i5⟩:=hd;unfold CW;dsimp only;rw[aM];refine⟨λh=> ?_,λh=> ?_⟩
  .have h:=dh h;obtain⟨k,hk⟩:∃m:Nat,d.1=(m:Int):=⟨z4 d.1,by omega⟩;have a4q:k<24:=by omega
   have hw:wI (d.1+1)=(k:Int)+1:=by rw[hk];exact bf (by omega) (by omega)
   refine ax (a5f k a4q ((d.1,d.1,wI (d.1+1),0),d.2.1,d.b.1,d.b.2.1,d.b.2.2,λx=>0) _ (by show∀p,p<276->d.b.2.1.1 p=0;rw[i4];exact hU) ⟨dZ 0,by show 0<=wI (d.1+1);omega,hw,hk,hk,rfl,rfl,rfl,rfl,λm hm=>by show(0:Int)=_;rw[if_neg (by show ¬(m=k/\(m:Int)<0);omega)]⟩) λx _ hx=> ?_;obtain⟨a0,a1,a2,a3,a4,a5,a6⟩:=hx;have a2:x.2.1=d.2.1:=a2;have a3:x.b.1=d.b.1:=a3;have a4:x.b.2.1=d.b.2.1:=a4;have a5:x.c.1=d.b.2.2:=a5;refine ax (a5g F hF k a4q ((x.1.1,x.1.2.1,0),x.2) _ (by show∀i k,i<24->k<24->x.b.1 (i*24+k)=_;rw[a3,i3];exact hf) a6 ⟨dZ 0,(show(0:Int)<=24 by decide),a0,a1,rfl,rfl,rfl,rfl,λi j hi hj=> ?_⟩) λy _ hy=> ?_
   .show x.c.1 (i*48+j)=if i=j/\(j<k∨(j=k/\(k:Int)<0)) then F i else 0
    rw[a5,i5 i j hi hj];by_cases e:i=j/\(j:Int)<d.1
    .rw[if_pos e,if_pos (by omega)]
    .rw[if_neg e,if_neg (by omega)]
   obtain⟨b1,b2,b3,b4,b5⟩:=hy;have b2:y.2.1=x.2.1:=b2;have b3:y.b.1=x.b.1:=b3;have b4:y.b.2.1=x.b.2.1:=b4;have hw2:wI (y.1.2.1+1)=d.1+1:=by rw[b1,hk];exact bf (by omega) (by omega)
   rw[aw,hw2];refine⟨⟨by show 0<=d.1+1;omega,by show d.1+1<=24;omega,b2.trans (a2.trans i2),b3.trans (a3.trans i3),b4.trans (a4.trans i4),λi j hi hj=> ?_⟩,by show z4 (24-(d.1+1))<_;omega⟩;show y.c.1 (i*48+j)=if i=j/\(j:Int)<d.1+1 then F i else 0
   rw[b5 i j hi hj];by_cases e:i=j/\j<k+1
   .rw[if_pos e,if_pos (by omega)]
   .rw[if_neg e,if_neg (by omega)]
  .have h:=wS h;rw[aw];refine⟨i2,i3,λi j hi hj=> ?_⟩;show d.b.2.2 (i*48+j)=_;rw[i5 i j hi hj];by_cases e:i=j/\j<24
   .rw[if_pos e,if_pos (by omega)]
   .rw[if_neg e,if_neg (by omega)]) 2000 d hd (by omega)
theorem a5i (F:Nat->Int)(b:Bool):∀(d:fS.B) (hd:0<=d.1/\d.1<=24/\d.2.1=b/\∀i k:Nat,i<24->k<48->d.2.2.2 (i*48+k)=if i=k then F i else if k=24+i/\(i:Int)<d.1 then 1073741824 else 0),Ok (w8 d) (λx:rF=>x.2.1=b/\∀i k,i<24->k<48->x.2.2.2 (i*48+k)=if i=k then F i else if k=24+i then 1073741824 else 0):=
 bT (λd:fS.B=>z4 (24-d.1)) (λd hd=>by
  obtain⟨i0,i1,i2,i3⟩:=hd;have hw:wI (d.1+1)=d.1+1:=bf;unfold CU;dsimp only;rw[aM];refine⟨λh=> ?_,λh=> ?_⟩
  .have h:=dh h;have h1:wI (24+d.1)=24+d.1:=eS;have r0:aZ d.1 24=true:=by rw[bp];omega
   have r1:aZ (24+d.1) 48=true:=by rw[bp];omega
   have r2:(true&&wr (0+(z4 d.1*48+z4 (24+d.1))*1+1) 1152)=true:=by rw[pM,ch];omega
   rw[h1,r0,r1,r2,hw,aD,aD,aD,aw];refine⟨⟨by show 0<=d.1+1;omega,by show d.1+1<=24;omega,i2,λi k hi hk=> ?_⟩,by show z4 (24-(d.1+1))<_;omega⟩;show(bif z9 (i*48+k) (z4 d.1*48+z4 (24+d.1)) then 1073741824 else d.2.2.2 (i*48+k))=if i=k then F i else if k=24+i/\(i:Int)<d.1+1 then 1073741824 else 0
   rw[Hw,i3 i k hi hk];by_cases e1:i*48+k=z4 d.1*48+z4 (24+d.1)
   .rw[if_pos e1,if_neg (by omega),if_pos (by omega)]
   .rw[if_neg e1];by_cases e2:i=k
    .rw[if_pos e2,if_pos e2]
    .rw[if_neg e2,if_neg e2];by_cases e3:k=24+i/\(i:Int)<d.1
     .rw[if_pos e3,if_pos (by omega)]
     .rw[if_neg e3,if_neg (by omega)]
  .have h:=wS h;rw[aw];refine⟨i2,λi k hi hk=> ?_⟩;show d.2.2.2 (i*48+k)=_;rw[i3 i k hi hk];by_cases e2:i=k
   .rw[if_pos e2,if_pos e2]
   .rw[if_neg e2,if_neg e2];by_cases e3:k=24+i
    .rw[if_pos e3,if_pos (by omega)]
    .rw[if_neg e3,if_neg (by omega)]) (λd hd=>by omega)
theorem aSU (F U D Fm:Nat->Int)(b:Bool)(hF:∀i,i<24->F i=0∨F i=1073741824)(hU:∀p,p<276->U p=0)(hf:∀i k,i<24->k<24->Fm (i*24+k)=if i=k then F i else 0):Ok (pe U D b Fm) (λr:OW=>r.1=b/\∀i k,i<24->k<48->r.2 (i*48+k)=if i=k then F i else if k=24+i then 1073741824 else 0):=by
 unfold pe G6;show PQ _ _;refine ax (a5h F hF (0,b,Fm,(U,D),λx=>0) _ hU hf ⟨dZ 0,(show(0:Int)<=24 by decide),rfl,rfl,rfl,λi j hi hj=>by show(0:Int)=_;rw[if_neg (by show ¬(i=j/\(j:Int)<0);omega)]⟩) λx _ hx=> ?_;obtain⟨a1,a2,a3⟩:=hx;refine ax (a5i F b _ ⟨dZ 0,(show(0:Int)<=24 by decide),a1,λi k hi hk=> ?_⟩) λy _ hy=> ?_
 .show x.b.2.2 (i*48+k)=_;rw[a3 i k hi hk];by_cases e:i=k
  .rw[if_pos ⟨e,by omega⟩,if_pos e]
  .rw[if_neg (λh=>e h.1),if_neg e,if_neg (by show ¬(k=24+i/\(i:Int)<0);omega)]
 .rw[aw];exact hy
theorem a6U (F:Nat->Int)(hF:∀i,i<24->F i=0∨F i=1073741824)(w d:eZ.B)(hi:0<=w.1.1/\w.1.1<24)(hd:0<=d.1.2.2/\d.1.2.2<=24/\d.1.1=w.1.1/\d.1.2.1=w.1.2.1/\d.2.1=w.2.1/\d.b.1=w.b.1/\(∀i k,i<24->k<24->d.b.2.1 (i*24+k)=if i=k then F i else 0)/\d.b.2.2=w.b.2.2):Ok (xd d) (λx:oO=>x.1.2.1=w.1.2.1/\x.2.1=w.2.1/\x.b.1=w.b.1/\(∀i k,i<24->k<24->x.b.2.1 (i*24+k)=if i=k then F i else 0)/\x.b.2.2=w.b.2.2):=
 uK (s:=_) (λd:eZ.B=>0<=d.1.2.2/\d.1.2.2<=24/\d.1.1=w.1.1/\d.1.2.1=w.1.2.1/\d.2.1=w.2.1/\d.b.1=w.b.1/\(∀i k,i<24->k<24->d.b.2.1 (i*24+k)=if i=k then F i else 0)/\d.b.2.2=w.b.2.2) (λd:eZ.B=>z4 (24-d.1.2.2)) (λx:oO=>x.1.2.1=w.1.2.1/\x.2.1=w.2.1/\x.b.1=w.b.1/\(∀i k,i<24->k<24->x.b.2.1 (i*24+k)=if i=k then F i else 0)/\x.b.2.2=w.b.2.2) (λd hd=>by
  obtain⟨i0,i1,i2,i3,i4,i5,i6,i7⟩:=hd;have hw:wI (d.1.2.2+1)=d.1.2.2+1:=bf;unfold CX;dsimp only;rw[aM];refine⟨λh=> ?_,λh=>by rw[aw];exact⟨i3,i4,i5,i6,i7⟩⟩;have h:=dh h;have r0:aZ d.1.1 24=true:=by rw[bp,i2];omega
  have r1:aZ d.1.2.2 24=true:=by rw[bp];omega
  have r2:(true&&wr (0+(z4 d.1.1*24+z4 d.1.2.2)*1+1) 576)=true:=by rw[pM,ch,i2];omega
  have v:=i6 (z4 d.1.1) (z4 d.1.2.2) (by rw[i2];omega) (by omega);have bF:=hF (z4 d.1.1) (by rw[i2];omega)
  have s:aO (d.b.2.1 (z4 d.1.1*24+z4 d.1.2.2)) d.2.1=some (d.b.2.1 (z4 d.1.1*24+z4 d.1.2.2),d.2.1):=by
   have r: -1152921504606846976<=d.b.2.1 (z4 d.1.1*24+z4 d.1.2.2)/\d.b.2.1 (z4 d.1.1*24+z4 d.1.2.2)<=1152921504606846976:=by rw[v];split<;>omega
   rw[pj,Q6 r,Jg r,LJ]
  rw[r0,r1,r2,aD,aD,s,cz,aD,aD,aD,aw,hw];refine⟨⟨by show 0<=d.1.2.2+1;omega,by show d.1.2.2+1<=24;omega,i2,i3,i4,i5,λi k hi hk=> ?_,i7⟩,by show z4 (24-(d.1.2.2+1))<_;omega⟩;show(bif z9 (i*24+k) (z4 d.1.1*24+z4 d.1.2.2) then d.b.2.1 (z4 d.1.1*24+z4 d.1.2.2) else d.b.2.1 (i*24+k))=_;rw[Hw];split
  .rename_i e;rw[<-e];exact i6 i k hi hk
  .exact i6 i k hi hk) 2000 d hd (by omega)
theorem a6V (F D q:Nat->Int)(b:Bool)(hF:∀i,i<24->F i=0∨F i=1073741824)(w d:fa.B)(hD:∀i,i<24->w.b.1.2 i=D i)(hq:∀i,i<24->w.c.1 i=q i/\0<=q i/\q i<=72057594037927936)(hd:0<=d.1/\d.1<=24/\d.2.1=b/\d.b.1=w.b.1/\(∀i k,i<24->k<24->d.b.2.1 (i*24+k)=if i=k then F i else 0)/\d.c.1=w.c.1/\d.c.2.1=w.c.2.1/\∀i:Nat,i<24->(i:Int)<d.1->d.c.2.2 i=D i/\d.c.2.2 (24+i)=q i):Ok (xi d) (λx:oP=>x.2.1=b/\x.b.1=w.b.1/\(∀i k,i<24->k<24->x.b.2.1 (i*24+k)=if i=k then F i else 0)/\x.c.2.1=w.c.2.1/\∀i:Nat,i<24->(i:Int)<24->x.c.2.2 i=D i/\x.c.2.2 (24+i)=q i):=
 uK (s:=_) (λd:fa.B=>0<=d.1/\d.1<=24/\d.2.1=b/\d.b.1=w.b.1/\(∀i k,i<24->k<24->d.b.2.1 (i*24+k)=if i=k then F i else 0)/\d.c.1=w.c.1/\d.c.2.1=w.c.2.1/\∀i:Nat,i<24->(i:Int)<d.1->d.c.2.2 i=D i/\d.c.2.2 (24+i)=q i) (λd:fa.B=>z4 (24-d.1)) (λx:oP=>x.2.1=b/\x.b.1=w.b.1/\(∀i k,i<24->k<24->x.b.2.1 (i*24+k)=if i=k then F i else 0)/\x.c.2.1=w.c.2.1/\∀i:Nat,i<24->(i:Int)<24->x.c.2.2 i=D i/\x.c.2.2 (24+i)=q i) (λd hd=>by
  obtain⟨i0,i1,i2,i3,i4,i5,i6,i7⟩:=hd;have hw:wI (d.1+1)=d.1+1:=bf;unfold CY;dsimp only;rw[aM];refine⟨λh=> ?_,λh=> ?_⟩
  .have h:=dh h;have h1:wI (24+d.1)=24+d.1:=eS;have r0:aZ d.1 24=true:=by rw[bp];omega
   have r1:aZ d.1 48=true:=by rw[bp];omega
   have r2:(true&&wr (0+z4 d.1*1+1) 48)=true:=by rw[pM,ch];omega
   have r3:aZ (24+d.1) 48=true:=by rw[bp];omega
   have r4:(true&&wr (0+z4 (24+d.1)*1+1) 48)=true:=by rw[pM,ch];omega
   obtain⟨m,hm⟩:∃m:Nat,d.1=(m:Int):=⟨z4 d.1,by omega⟩;have aUj:m<24:=by omega
   have vq:=hq m aUj
   have c:aT (d.c.1 (z4 d.1)) 0 72057594037927936 d.2.1=some (q m,b):=by
    rw[i5,hm,HV,vq.1,i2];exact afE _ _ _ _ vq.2.1 vq.2.2
   rw[h1,r0,r1,r2,r3,r4,aD,aD,c,cz,aD,aD,aD,aD];refine ax (a6U F hF _ _ ⟨i0,h⟩ ⟨dZ 0,(show(0:Int)<=24 by decide),rfl,rfl,rfl,rfl,i4,rfl⟩) λx _ hx=> ?_;obtain⟨a0,a1,a2,a3,a4⟩:=hx;have a0:x.1.2.1=d.1:=a0;have a1:x.2.1=b:=a1;have a2:x.b.1=d.b.1:=a2;rw[aw,a0,hw];refine⟨⟨by show 0<=d.1+1;omega,by show d.1+1<=24;omega,a1,a2.trans i3,a3,(eC (λz=>z.1) a4).trans i5,(eC (λz=>z.2.1) a4).trans i6,λi hi hj=> ?_⟩,by show z4 (24-(d.1+1))<_;omega⟩;have a6:x.c.2.2=λj=>bif z9 j (z4 (24+d.1)) then q m else bif z9 j (z4 d.1) then d.b.1.2 (z4 d.1) else d.c.2.2 j:=eC (λz=>z.2.2) a4
   show x.c.2.2 i=D i/\x.c.2.2 (24+i)=q i;have hj:(i:Int)<d.1+1:=hj;rw[a6];show(bif z9 i (z4 (24+d.1)) then q m else bif z9 i (z4 d.1) then d.b.1.2 (z4 d.1) else d.c.2.2 i)=D i/\(bif z9 (24+i) (z4 (24+d.1)) then q m else bif z9 (24+i) (z4 d.1) then d.b.1.2 (z4 d.1) else d.c.2.2 (24+i))=q i;rw[aDO,aDO,aDO,aDO,if_neg (by omega:¬i=z4 (24+d.1)),if_neg (by omega:¬24+i=z4 d.1)];by_cases e:i=m
   .subst e;rw[if_pos (by omega:i=z4 d.1),if_pos (by omega:24+i=z4 (24+d.1)),hm,HV,i3];exact⟨hD i hi,rfl⟩
   .rw[if_neg (by omega:¬i=z4 d.1),if_neg (by omega:¬24+i=z4 (24+d.1))];exact i7 i hi (by omega)
  .have h:=wS h;rw[aw];exact⟨i2,i3,i4,i6,λi hi hj=>i7 i hi (by omega)⟩) 2000 d hd (by omega)
def Qf (F D q:Nat->Int):Prop:=∀i,i<24->okV (D i)/\((F i=1073741824/\q i=0)∨(F i=0/\okV (q i)))
def kept (F D q:Nat->Int)(i:Nat):Int:=if F i=0 then q i else D i
theorem Qf.F {F D q:Nat->Int}(h:Qf F D q):∀i,i<24->F i=0∨F i=1073741824:=λi hi=>by
 rcases(h i hi).2 with a|a
 .exact Or.inr a.1
 .exact Or.inl a.1
theorem Qf.q {F D q:Nat->Int}(h:Qf F D q):∀i,i<24->0<=q i/\q i<=72057594037927936:=λi hi=>by
 rcases(h i hi).2 with a|a
 .have:=a.2;omega
 .have:=a.2.le;omega
theorem Qf.z {F D q:Nat->Int}(h:Qf F D q):∀i,i<24->¬F i=0->q i=0/\F i=1073741824:=λi hi n=>by
 rcases(h i hi).2 with a|a
 .exact⟨a.2,a.1⟩
 .exact absurd a.1 n
theorem Qf.k {F D q:Nat->Int}(h:Qf F D q):∀i,i<24->okV (kept F D q i):=λi hi=>by
 unfold kept;rcases(h i hi).2 with a|a
 .rw[if_neg (by omega)];exact(h i hi).1
 .rw[if_pos a.1];exact a.2
def yv (F D q:Nat->Int)(j k:Nat):Int:=if k=j then(if F j=0 then 0 else D j) else if k=24+j then q j else 0
theorem a0X {F D q:Nat->Int}(h:Qf F D q)(j k:Nat)(hj:j<24): -1152921504606846976<=yv F D q j k/\yv F D q j k<=1152921504606846976:=by
 have:=(h j hj).1.le;have:=h.q j hj;unfold yv;split
 .split<;>omega
 .split<;>omega
theorem a6W (F D q:Nat->Int)(hk:Qf F D q)(j:Nat)(hj:j<24)(w d:ep.B)(he:∀i:Nat,i<24->w.b.2.1 i=D i/\w.b.2.1 (24+i)=q i)(hW:(∀i k,i<24->k<48->w.c.1 (i*48+k)=if i=k then F i else if k=24+i then 1073741824 else 0))(hd:0<=d.1.2/\d.1.2<=48/\d.1.1=(j:Int)/\d.2.1=w.2.1/\d.b.1=w.b.1/\d.b.2.1=w.b.2.1/\d.c.1=w.c.1/\d.c.2.1=w.c.2.1/\∀k:Nat,k<48->(k:Int)<d.1.2->d.c.2.2 k=yv F D q j k):Ok (rI d) (λx:lW=>x.1.1=(j:Int)/\x.2.1=w.2.1/\x.b.1=w.b.1/\x.b.2.1=w.b.2.1/\x.c.1=w.c.1/\x.c.2.1=w.c.2.1/\∀k:Nat,k<48->x.c.2.2 k=yv F D q j k):=
 uK (s:=_) (λd:ep.B=>0<=d.1.2/\d.1.2<=48/\d.1.1=(j:Int)/\d.2.1=w.2.1/\d.b.1=w.b.1/\d.b.2.1=w.b.2.1/\d.c.1=w.c.1/\d.c.2.1=w.c.2.1/\∀k:Nat,k<48->(k:Int)<d.1.2->d.c.2.2 k=yv F D q j k) (λd:ep.B=>z4 (48-d.1.2)) (λx:lW=>x.1.1=(j:Int)/\x.2.1=w.2.1/\x.b.1=w.b.1/\x.b.2.1=w.b.2.1/\x.c.1=w.c.1/\x.c.2.1=w.c.2.1/\∀k:Nat,k<48->x.c.2.2 k=yv F D q j k) (λd hd=>by
  obtain⟨i0,i1,i2,i3,i4,i5,i6,i7,i8⟩:=hd;have hw:wI (d.1.2+1)=d.1.2+1:=bf;unfold xf;dsimp only;rw[aM];refine⟨λh=> ?_,λh=> ?_⟩
  .have h:=dh h;obtain⟨m,hm⟩:∃m:Nat,d.1.2=(m:Int):=⟨z4 d.1.2,by omega⟩;have a6X:m<48:=by omega
   have r0:aZ d.1.1 24=true:=by rw[bp,i2];omega
   have r1:aZ d.1.2 48=true:=by rw[bp];omega
   have r2:(true&&wr (0+z4 d.1.2*1+1) 48)=true:=by rw[pM,ch];omega
   have wv:d.c.1 (z4 d.1.1*48+z4 d.1.2)=if j=m then F j else if m=24+j then 1073741824 else 0:=by
    rw[i6,i2,hm,HV,HV];exact hW j m hj a6X
   have e3:d.b.2.1 (z4 d.1.2)=w.b.2.1 m:=by rw[i5,hm,HV]
   have em: -1152921504606846976<=w.b.2.1 m/\w.b.2.1 m<=1152921504606846976:=by
    by_cases c:m<24
    .have:=(he m c).1;have:=(hk m c).1.le;omega
    .have e:=(he (m-24) (by omega)).2;rw[(by omega:24+(m-24)=m)] at e;have:=hk.q (m-24) (by omega);omega
   have mul:aU (d.c.1 (z4 d.1.1*48+z4 d.1.2)) (d.b.2.1 (z4 d.1.2)) 30 d.2.1=some (yv F D q j m,d.2.1):=by
    have hF:=hk.F j hj;by_cases c1:m=j
    .have wv':d.c.1 (z4 d.1.1*48+z4 d.1.2)=F j:=by rw[wv,if_pos c1.symm]
     rw[wv',e3,aMy _ _ _ hF em];refine eC (λz=>some (z,d.2.1)) ?_;unfold yv;rw[if_pos c1,c1,(he j hj).1]
    .by_cases c2:m=24+j
     .have wv':d.c.1 (z4 d.1.1*48+z4 d.1.2)=1073741824:=by rw[wv,if_neg (λh=>c1 h.symm),if_pos c2]
      rw[wv',e3,aMy _ _ _ (Or.inr rfl) em,if_neg (by decide)];refine eC (λz=>some (z,d.2.1)) ?_;unfold yv;rw[if_neg c1,if_pos c2,c2,(he j hj).2]
     .have wv':d.c.1 (z4 d.1.1*48+z4 d.1.2)=0:=by rw[wv,if_neg (λh=>c1 h.symm),if_neg c2]
      rw[wv',e3,aMy _ _ _ (Or.inl rfl) em,if_pos rfl];refine eC (λz=>some (z,d.2.1)) ?_;unfold yv;rw[if_neg c1,if_neg c2]
   rw[r0,r1,r2,aD,aD,aD,mul,cz,aD,aD,aw,hw];refine⟨⟨by show 0<=d.1.2+1;omega,by show d.1.2+1<=48;omega,i2,i3,i4,i5,i6,i7,λk GI hkc=> ?_⟩,by show z4 (48-(d.1.2+1))<_;omega⟩;have hkc:(k:Int)<d.1.2+1:=hkc;show(bif z9 k (z4 d.1.2) then yv F D q j m else d.c.2.2 k)=yv F D q j k;rw[Hw];split
   .rename_i e
    have:k=m:=by omega
    rw[this]
   .exact i8 k GI (by omega)
  .have h:=wS h;rw[aw];exact⟨i2,i3,i4,i5,i6,i7,λk GI=>i8 k GI (by omega)⟩) 2000 d hd (by omega)
theorem a6Y (F:Nat->Int)(hF:∀i,i<24->F i=0∨F i=1073741824)(w d:eu.B)(h0:0<=w.1.1/\w.1.1<24)(h2:0<=w.1.2.2.1/\w.1.2.2.1<24)(hd:0<=d.1.2.2.2.2.2.2/\d.1.2.2.2.2.2.2<=48/\d.1.1=w.1.1/\d.1.2.1=w.1.2.1/\d.1.2.2.1=w.1.2.2.1/\d.1.2.2.2.1=0/\d.1.2.2.2.2.1=w.1.2.2.2.2.1/\d.1.2.2.2.2.2.1=w.1.2.2.2.2.2.1/\d.2.1=w.2.1/\d.2.2.1=w.2.2.1/\d.2.2.2.1=w.2.2.2.1/\(∀i k,i<24->k<48->d.2.2.2.2.1 (i*48+k)=if i=k then F i else if k=24+i then 1073741824 else 0)/\d.2.2.2.2.2=w.2.2.2.2.2):Ok (rJ d) (λx:lX=>x.1.1=w.1.1/\x.1.2.1=w.1.2.1/\x.1.2.2.2.2.1=w.1.2.2.2.2.1/\x.1.2.2.2.2.2.1=w.1.2.2.2.2.2.1/\x.2.1=w.2.1/\x.2.2.1=w.2.2.1/\x.2.2.2.1=w.2.2.2.1/\(∀i k,i<24->k<48->x.2.2.2.2.1 (i*48+k)=if i=k then F i else if k=24+i then 1073741824 else 0)/\x.2.2.2.2.2=w.2.2.2.2.2):=
 uK (s:=_) (λd:eu.B=>0<=d.1.2.2.2.2.2.2/\d.1.2.2.2.2.2.2<=48/\d.1.1=w.1.1/\d.1.2.1=w.1.2.1/\d.1.2.2.1=w.1.2.2.1/\d.1.2.2.2.1=0/\d.1.2.2.2.2.1=w.1.2.2.2.2.1/\d.1.2.2.2.2.2.1=w.1.2.2.2.2.2.1/\d.2.1=w.2.1/\d.2.2.1=w.2.2.1/\d.2.2.2.1=w.2.2.2.1/\(∀i k,i<24->k<48->d.2.2.2.2.1 (i*48+k)=if i=k then F i else if k=24+i then 1073741824 else 0)/\d.2.2.2.2.2=w.2.2.2.2.2) (λd:eu.B=>z4 (48-d.1.2.2.2.2.2.2)) (λx:lX=>x.1.1=w.1.1/\x.1.2.1=w.1.2.1/\x.1.2.2.2.2.1=w.1.2.2.2.2.1/\x.1.2.2.2.2.2.1=w.1.2.2.2.2.2.1/\x.2.1=w.2.1/\x.2.2.1=w.2.2.1/\x.2.2.2.1=w.2.2.2.1/\(∀i k,i<24->k<48->x.2.2.2.2.1 (i*48+k)=if i=k then F i else if k=24+i then 1073741824 else 0)/\x.2.2.2.2.2=w.2.2.2.2.2) (λd hd=>by
  obtain⟨i0,i1,j0,j1,j2,j3,j4,j5,i3,i4,i5,i6,i7⟩:=hd;have hw:wI (d.1.2.2.2.2.2.2+1)=d.1.2.2.2.2.2.2+1:=bf;unfold xg;dsimp only;rw[aM];refine⟨λh=> ?_,λh=>by rw[aw];exact⟨j0,j1,j4,j5,i3,i4,i5,i6,i7⟩⟩;have h:=dh h;have r0:aZ d.1.2.2.1 24=true:=by rw[bp,j2];omega
  have r1:aZ d.1.2.2.2.2.2.2 48=true:=by rw[bp];omega
  have r2:aZ d.1.1 24=true:=by rw[bp,j0];omega
  have r3:(true&&wr (0+(z4 d.1.2.2.1*48+z4 d.1.2.2.2.2.2.2)*1+1) 1152)=true:=by rw[pM,ch,j2];omega
  have bw:∀i,i<24-> -1152921504606846976<=d.2.2.2.2.1 (i*48+z4 d.1.2.2.2.2.2.2)/\d.2.2.2.2.1 (i*48+z4 d.1.2.2.2.2.2.2)<=1152921504606846976:=λi hi=>by
   rw[i6 i (z4 d.1.2.2.2.2.2.2) hi (by omega)];have:=hF i hi;split
   .omega
   .split<;>omega
  have mul:aU d.1.2.2.2.1 (d.2.2.2.2.1 (z4 d.1.1*48+z4 d.1.2.2.2.2.2.2)) 30 d.2.1=some (0,d.2.1):=by
   rw[j3,aMy 0 _ _ (Or.inl rfl) (bw (z4 d.1.1) (by rw[j0];omega)),if_pos rfl]
  rw[r0,r1,r2,r3,aD,aD,aD,aD,mul,cz,sub_zero _ _ (bw (z4 d.1.2.2.1) (by rw[j2];omega)),cz,aD,aD,aD,aw,hw];refine⟨⟨by show 0<=d.1.2.2.2.2.2.2+1;omega,by show d.1.2.2.2.2.2.2+1<=48;omega,j0,j1,j2,j3,j4,j5,i3,i4,i5,λi k hi hk=> ?_,i7⟩,by show z4 (48-(d.1.2.2.2.2.2.2+1))<_;omega⟩;show(bif z9 (i*48+k) (z4 d.1.2.2.1*48+z4 d.1.2.2.2.2.2.2) then d.2.2.2.2.1 (z4 d.1.2.2.1*48+z4 d.1.2.2.2.2.2.2) else d.2.2.2.2.1 (i*48+k))=_;rw[Hw];split
  .rename_i e;rw[<-e];exact i6 i k hi hk
  .exact i6 i k hi hk) 2000 d hd (by omega)
theorem a6Z (F D q G:Nat->Int)(hk:Qf F D q)(j:Nat)(hj:j<24)(v:Int)(hv:okV v)(w:ew.B):∀(d:ew.B) (hd:0<=d.1.2.2.2/\d.1.2.2.2<=d.1.2.2.1/\d.1.2.2.1=(j:Int)/\d.1.1=(j:Int)/\d.1.2.1=v/\d.2.1=w.2.1/\d.2.2.1=w.2.2.1/\d.2.2.2.1=w.2.2.2.1/\(∀i k,i<24->k<48->d.2.2.2.2.1 (i*48+k)=if i=k then F i else if k=24+i then 1073741824 else 0)/\d.2.2.2.2.2.1=(λ_=>0,G)/\∀k:Nat,k<48->d.2.2.2.2.2.2 k=yv F D q j k),Ok (rK d) (λx:oQ=>x.1.1=(j:Int)/\x.2.1=w.2.1/\x.2.2.1=w.2.2.1/\x.2.2.2.1=w.2.2.2.1/\(∀i k,i<24->k<48->x.2.2.2.2.1 (i*48+k)=if i=k then F i else if k=24+i then 1073741824 else 0)/\x.2.2.2.2.2.1=(λ_=>0,G)):=
 bT (λd:ew.B=>z4 (d.1.2.2.1-d.1.2.2.2)) (λd hd=>by
  obtain⟨i0,i1,j2,j0,j1,i3,i4,i5,i6,i7,i8⟩:=hd;have hw:wI (d.1.2.2.2+1)=d.1.2.2.2+1:=bf;unfold xj;dsimp only;rw[aM];refine⟨λh=> ?_,λh=>by rw[aw];exact⟨j0,i3,i4,i5,i6,i7⟩⟩;have h:=dh h;obtain⟨m,hm⟩:∃m:Nat,d.1.2.2.2=(m:Int):=⟨z4 d.1.2.2.2,by omega⟩;have hmj:m<j:=by omega
  have r0:aZ d.1.2.2.2 24=true:=by rw[bp];omega
  have wv:∀k,k<48->d.2.2.2.2.1 (0+z4 d.1.2.2.2*48+k)=if m=k then F m else if k=24+m then 1073741824 else 0:=λk hk=>by
   rw[hm,HV,gP];exact i6 m k (by omega) hk
  have dot:bu 30 48 48 d.2.1 (λk=>d.2.2.2.2.1 (0+z4 d.1.2.2.2*48+k)) d.2.2.2.2.2.2 false false=some (0,d.2.1):=by
   have z:∀k,k<48->d.2.2.2.2.1 (0+z4 d.1.2.2.2*48+k)*d.2.2.2.2.2.2 k=0:=λk GI=>by
    rw[wv k GI,i8 k GI];unfold yv;by_cases c:m=k
    .rw[if_neg (by omega:¬k=j),if_neg (by omega:¬k=24+j),Int.mul_zero]
    .rw[if_neg c];by_cases c2:k=24+m
     .rw[if_neg (by omega:¬k=j),if_neg (by omega:¬k=24+j),Int.mul_zero]
     .rw[if_neg c2,afY]
   refine aHa 48 0 (by decide) (by decide) _ _ _ _ _ _ (λk GI=> ?_) (λk GI=> ?_) (λk GI _=>z k GI) (by rw[z 0 (by decide)];rfl) (by decide)
   .show -1152921504606846976<=d.2.2.2.2.1 (0+z4 d.1.2.2.2*48+k)/\d.2.2.2.2.1 (0+z4 d.1.2.2.2*48+k)<=1152921504606846976;rw[wv k GI];have:=hk.F m (by omega);split
    .omega
    .split<;>omega
   .rw[i8 k GI];exact a0X hk j k hj
  have st:ur d.2.2.2.2.2.1.1 d.2.2.2.2.2.1.2 d.1.2.2.2 d.1.1 0=some (λ_=>0,G):=by
   rw[i7,hm,j0];exact aIr G m j hmj hj
  rw[r0,aD,dot,cz,j1,div_zero v _ hv,cz,st,cz];refine ax (a6Y F hk.F _ _ (by show 0<=d.1.1/\d.1.1<24;omega) (by show 0<=d.1.2.2.2/\d.1.2.2.2<24;omega) ⟨dZ 0,(show(0:Int)<=48 by decide),rfl,rfl,rfl,rfl,rfl,rfl,rfl,rfl,rfl,i6,rfl⟩) λx _ hx=> ?_;obtain⟨a0,a1,a4,a5,b1,b2,b3,b4,b5⟩:=hx;have a4:x.1.2.2.2.2.1=d.1.2.2.1:=a4;have a5:x.1.2.2.2.2.2.1=d.1.2.2.2:=a5;have a0:x.1.1=d.1.1:=a0;rw[aw,a5,hw];refine⟨⟨by show 0<=d.1.2.2.2+1;omega,by show d.1.2.2.2+1<=x.1.2.2.2.2.1;omega,by show x.1.2.2.2.2.1=(j:Int);omega,by show x.1.1=(j:Int);omega,a1,b1.trans i3,b2.trans i4,b3.trans i5,b4,eC (λz=>z.1) b5,λk GI=>(congrFun (eC (λz=>z.2) b5) k).trans (i8 k GI)⟩,by show z4 (x.1.2.2.2.2.1-(d.1.2.2.2+1))<_;omega⟩) (λd hd=>by omega)
theorem a60 (F D q:Nat->Int)(b:Bool)(e:Nat->Int)(hk:Qf F D q)(he:∀i:Nat,i<24->e i=D i/\e (24+i)=q i):∀(d:fe.B) (hd: -1<=d.1/\d.1<=23/\d.2.1=b/\d.b.2.1=e/\(∀i k,i<24->k<48->d.c.1 (i*48+k)=if i=k then F i else if k=24+i then 1073741824 else 0)/\d.c.2=(λ_=>0,λi:Nat=>if d.1<(i:Int)/\i<24 then kept F D q i else 0)),Ok (rL d) (λx:oR=>x.2.1=b/\x.c.2=(λ_=>0,λi=>if i<24 then kept F D q i else 0)):=
 bT (λd:fe.B=>z4 (d.1+1)) (λd hd=>by
  obtain⟨i0,i1,i2,i3,i4,i5⟩:=hd;unfold xm;dsimp only;rw[aM];refine⟨λh=> ?_,λh=> ?_⟩
  .have h:=dh h;obtain⟨j,hj⟩:∃m:Nat,d.1=(m:Int):=⟨z4 d.1,by omega⟩;have aB6:j<24:=by omega
   refine ax (a6W F D q hk j aB6 ((d.1,0),d.2.1,d.b.1,d.b.2.1,d.c.1,d.c.2,λx=>0) _ (by show∀i:Nat,i<24->d.b.2.1 i=D i/\d.b.2.1 (24+i)=q i;rw[i3];exact he) i4 ⟨dZ 0,(show(0:Int)<=48 by decide),hj,rfl,rfl,rfl,rfl,rfl,λk _ hk0=>absurd hk0 (by show ¬(k:Int)<0;omega)⟩) λx _ hx=> ?_;obtain⟨a0,a1,a2,a3,a4,a5,a6⟩:=hx;have a1:x.2.1=d.2.1:=a1;have a4:x.c.1=d.c.1:=a4;have a3:x.b.2.1=d.b.2.1:=a3;have a5:x.c.2.1=d.c.2:=a5;have r0:aZ x.1.1 24=true:=by rw[bp,a0];omega
   have r1:(true&&wr (276+z4 x.1.1*1+1) 300)=true:=by rw[pM,ch,a0];omega
   have wv:∀k,k<48->x.c.1 (0+z4 x.1.1*48+k)=if j=k then F j else if k=24+j then 1073741824 else 0:=λk GI=>by
    rw[a4,a0,HV,gP];exact i4 j k aB6 GI
   have K:=(hk j aB6).1.le;have kp:=(hk.k j aB6).le;have kz:=hk.z j aB6
   have dot:bu 30 48 48 x.2.1 (λk=>x.c.1 (0+z4 x.1.1*48+k)) x.c.2.2 false false=some (kept F D q j,x.2.1):=by
    refine aHa 48 (if F j=0 then 24+j else j) (by decide) (by split<;>omega) _ _ _ _ _ _ (λk GI=> ?_) (λk GI=> ?_) (λk GI mX=> ?_) ?_ (by omega)
    .show -1152921504606846976<=x.c.1 (0+z4 x.1.1*48+k)/\x.c.1 (0+z4 x.1.1*48+k)<=1152921504606846976;rw[wv k GI];split
     .omega
     .split<;>omega
    .rw[a6 k GI];exact a0X hk j k aB6
    .show x.c.1 (0+z4 x.1.1*48+k)*x.c.2.2 k=0;rw[wv k GI,a6 k GI];unfold yv;by_cases c:k=j
     .subst c;by_cases f0:F k=0
      .rw[if_pos rfl,f0,afY]
      .rw[if_neg f0] at mX;exact absurd rfl mX
     .rw[if_neg (λh=>c h.symm),if_neg c];by_cases c2:k=24+j
      .by_cases f0:F j=0
       .rw[if_pos f0] at mX;exact absurd c2 mX
       .rw[if_pos c2,if_pos c2];rw[(kz f0).1,Int.mul_zero]
      .rw[if_neg c2,if_neg c2,afY]
    .show x.c.1 (0+z4 x.1.1*48+(if F j=0 then 24+j else j))*x.c.2.2 (if F j=0 then 24+j else j)=kept F D q j*1073741824;rw[wv _ (by split<;>omega),a6 _ (by split<;>omega)];unfold yv kept;by_cases f0:F j=0
     .rw[if_pos f0,if_pos f0,if_neg (by omega:¬j=24+j),if_pos rfl,if_neg (by omega:¬24+j=j),if_pos rfl,yg,if_pos f0]
     .rw[if_neg f0,if_neg f0,if_pos rfl,if_pos rfl,(kz f0).2,yg,if_neg (by decide)]
   rw[r0,aD,dot,cz,afE _ _ _ _ kp.1 kp.2,cz,aD,r1,aD];refine ax (a6Z F D q (λi:Nat=>if d.1-1<(i:Int)/\i<24 then kept F D q i else 0) hk j aB6 (kept F D q j) (hk.k j aB6) ((x.1.1,kept F D q j,x.1.1,0),x.2.1,x.b.1,x.b.2.1,x.c.1,(x.c.2.1.1,λi=>bif z9 i (z4 x.1.1) then kept F D q j else x.c.2.1.2 i),x.c.2.2) _ ⟨dZ 0,by show 0<=x.1.1;omega,a0,a0,rfl,rfl,rfl,rfl,by show∀i k,i<24->k<48->x.c.1 (i*48+k)=_;rw[a4];exact i4,?_,a6⟩) λy _ hy=> ?_
   .refine Prod.ext (by show x.c.2.1.1=_;rw[a5,i5]) (funext λi=> ?_);show(bif z9 i (z4 x.1.1) then kept F D q j else x.c.2.1.2 i)=if d.1-1<(i:Int)/\i<24 then kept F D q i else 0
    rw[Hw,a0,a5,i5,HV];show(if i=j then kept F D q j else if d.1<(i:Int)/\i<24 then kept F D q i else 0)=_;by_cases c:i=j
    .subst c;rw[if_pos rfl,if_pos (by omega)]
    .rw[if_neg c];by_cases c2:d.1<(i:Int)/\i<24
     .rw[if_pos c2,if_pos (by omega)]
     .rw[if_neg c2,if_neg (by omega)]
   obtain⟨b0,b1,b2,b3,b4,b5⟩:=hy;have b1:y.2.1=x.2.1:=b1;have b3:y.b.2.1=x.b.2.1:=b3;have hw:wI (y.1.1-1)=d.1-1:=by rw[b0,<-hj];exact eS (by omega) (by omega)
   rw[aw,hw];exact⟨⟨by show -1<=d.1-1;omega,by show d.1-1<=23;omega,b1.trans (a1.trans i2),b3.trans (a3.trans i3),b4,b5⟩,by show z4 (d.1-1+1)<_;omega⟩
  .have h:=wS h;rw[aw];refine⟨i2,i5.trans (Prod.ext rfl (funext λi=> ?_))⟩;show(if d.1<(i:Int)/\i<24 then kept F D q i else 0)=if i<24 then kept F D q i else 0
   by_cases c:i<24
   .rw[if_pos c,if_pos (by omega)]
   .rw[if_neg c,if_neg (by omega)]) (λd hd=>by omega)
theorem aSV (F U D Fm Q q:Nat->Int)(b:Bool)(hk:Qf F D q)(hU:∀p,p<276->U p=0)(hf:(∀i k,i<24->k<24->Fm (i*24+k)=if i=k then F i else 0))(hq:∀i,i<24->Q i=q i):gm U D Fm Q b=some ((λ_=>0,λi=>if i<24 then kept F D q i else 0),b):=by
 have h:Ok (gm U D Fm Q b) (λr:O3=>r=((λ_=>0,λi=>if i<24 then kept F D q i else 0),b)):=by
  unfold gm BC;show PQ _ _;refine ax (aST U D b hU (λi hi=>(hk i hi).1.le)) λc _ hc=> ?_;obtain⟨c0,c1,c2⟩:=hc;refine ax (a6V F D q c.2 hk.F (0,c.2,c.1,Fm,Q,(λx=>0,λx=>0),λx=>0) _ c2 (λi hi=>⟨hq i hi,hk.q i hi⟩) ⟨dZ 0,(show(0:Int)<=24 by decide),rfl,rfl,hf,rfl,rfl,λi _ hi=>absurd hi (by show ¬(i:Int)<0;omega)⟩) λx _ hx=> ?_;obtain⟨a1,a2,a3,a4,a5⟩:=hx;have a2:x.b.1=c.1:=a2;refine ax (aSU F _ _ x.b.2.1 x.2.1 hk.F (by rw[a2];exact c1) a3) λw _ hw=> ?_;refine ax (a60 F D q b x.c.2.2 hk (λi hi=>a5 i hi (by omega)) _ ⟨(show(-1:Int)<=23 by decide),(show(23:Int)<=23 by decide),hw.1.trans (a1.trans c0),rfl,hw.2,?_⟩) λy _ hy=> ?_
  .refine Prod.ext rfl (funext λi=> ?_);show(0:Int)=if (23:Int)<(i:Int)/\i<24 then kept F D q i else 0
   rw[if_neg (by omega)]
  .rw[aw];exact Prod.ext hy.2 hy.1
 obtain⟨r,h1,h2⟩:=h;rw[h1,h2]
theorem a61:∀(d:iz.B) (hd:0<=d.1/\d.1<=24/\∀i k:Nat,i<24->k<24->d.2.2 (i*24+k)=if i=k/\(i:Int)<d.1 then 1073741824 else 0),Ok (E0 d) (λx:tW=>∀i k:Nat,i<24->k<24->x.2.2 (i*24+k)=if i=k then 1073741824 else 0):=
 bT (λd:iz.B=>z4 (24-d.1)) (λd hd=>by
  obtain⟨i0,i1,i2⟩:=hd;have hw:wI (d.1+1)=d.1+1:=bf;unfold EZ;dsimp only;rw[aM];refine⟨λh=> ?_,λh=> ?_⟩
  .have h:=dh h;have r0:aZ d.1 24=true:=by rw[bp];omega
   have r1:(true&&wr (0+(z4 d.1*24+z4 d.1)*1+1) 576)=true:=by rw[pM,ch];omega
   rw[r0,r1,aD,aD,aD,aw,hw];refine⟨⟨by show 0<=d.1+1;omega,by show d.1+1<=24;omega,λi k hi hk=> ?_⟩,by show z4 (24-(d.1+1))<_;omega⟩;show(bif z9 (i*24+k) (z4 d.1*24+z4 d.1) then 1073741824 else d.2.2 (i*24+k))=if i=k/\(i:Int)<d.1+1 then 1073741824 else 0
   rw[Hw,i2 i k hi hk];by_cases e:i*24+k=z4 d.1*24+z4 d.1
   .rw[if_pos e,if_pos (by omega)]
   .rw[if_neg e];by_cases e2:i=k/\(i:Int)<d.1
    .rw[if_pos e2,if_pos (by omega)]
    .rw[if_neg e2,if_neg (by omega)]
  .have h:=wS h;rw[aw];intro i k hi hk;show d.2.2 (i*24+k)=_;rw[i2 i k hi hk];by_cases e:i=k
   .rw[if_pos e,if_pos (by omega)]
   .rw[if_neg e,if_neg (by omega)]) (λd hd=>by omega)
theorem aWg:Ok oi (λr:DR=>∀i k:Nat,i<24->k<24->r (i*24+k)=if i=k then 1073741824 else 0):=by
 unfold oi JC;show PQ _ _;refine ax (a61 _ ⟨dZ 0,(show(0:Int)<=24 by decide),λi k hi hk=>by show(0:Int)=_;rw[if_neg (by show ¬(i=k/\(i:Int)<0);omega)]⟩) λx _ hx=> ?_;rw[aw];exact hx
theorem a62 (w d:gu.B)(hv:∀j:Nat,j<4->okV (w.2.2.1 j))(hd:0<=d.1.2.2.2/\d.1.2.2.2<=4/\d.1.1=0/\d.1.2.1.1=4/\d.1.2.2.1=4/\d.2.1=w.2.1/\d.2.2.1=w.2.2.1/\d.2.2.2.1=w.2.2.2.1/\(∀i k:Nat,i<24->k<24->d.2.2.2.2.2.1 (i*24+k)=if i=k/\¬(i:Int)<d.1.2.2.2 then 1073741824 else 0)/\∀i:Nat,i<24->d.2.2.2.2.2.2 i=if (i:Int)<d.1.2.2.2 then w.2.2.1 i else 0):Ok (BE d) (λx:rM=>x.2.1=w.2.1/\x.2.2.2.1=w.2.2.2.1/\(∀i k:Nat,i<24->k<24->x.2.2.2.2.2.1 (i*24+k)=if i=k/\¬i<4 then 1073741824 else 0)/\∀i:Nat,i<24->x.2.2.2.2.2.2 i=if i<4 then w.2.2.1 i else 0):=
 uK (s:=_) (λd:gu.B=>0<=d.1.2.2.2/\d.1.2.2.2<=4/\d.1.1=0/\d.1.2.1.1=4/\d.1.2.2.1=4/\d.2.1=w.2.1/\d.2.2.1=w.2.2.1/\d.2.2.2.1=w.2.2.2.1/\(∀i k:Nat,i<24->k<24->d.2.2.2.2.2.1 (i*24+k)=if i=k/\¬(i:Int)<d.1.2.2.2 then 1073741824 else 0)/\∀i:Nat,i<24->d.2.2.2.2.2.2 i=if (i:Int)<d.1.2.2.2 then w.2.2.1 i else 0) (λd:gu.B=>z4 (4-d.1.2.2.2)) (λx:rM=>x.2.1=w.2.1/\x.2.2.2.1=w.2.2.2.1/\(∀i k:Nat,i<24->k<24->x.2.2.2.2.2.1 (i*24+k)=if i=k/\¬i<4 then 1073741824 else 0)/\∀i:Nat,i<24->x.2.2.2.2.2.2 i=if i<4 then w.2.2.1 i else 0) (λd hd=>by
  obtain⟨i0,i1,i2,i3,i4,i5,i6,i7,i8,i9⟩:=hd;have hw:wI (d.1.2.2.2+1)=d.1.2.2.2+1:=bf;have hy:wI (d.1.1+d.1.2.2.2)=d.1.2.2.2:=by rw[i2,akR];exact eS (by omega) (by omega)
  unfold Ha;dsimp only;rw[aM];refine⟨λh=> ?_,λh=> ?_⟩
  .have h:=dh h;have r0:aZ d.1.2.2.2 d.1.2.1.1=true:=by rw[bp,i3];omega
   have r1:aZ d.1.2.2.2 24=true:=by rw[bp];omega
   have r2:(true&&wr (0+(z4 d.1.2.2.2*24+z4 d.1.2.2.2)*1+1) 576)=true:=by rw[pM,ch];omega
   have r3:(true&&wr (0+z4 d.1.2.2.2*1+1) 24)=true:=by rw[pM,ch];omega
   have v:=(hv (z4 d.1.2.2.2) (by omega)).le;rw[<-i6] at v;rw[hy,r0,aD,a27 _ i0 (by omega),cz,aD,a0W _ _ v.1 v.2,cz,r1,r2,r3,aD,aD,aD,aD,aD,aw,hw];refine⟨⟨by show 0<=d.1.2.2.2+1;omega,by show d.1.2.2.2+1<=4;omega,i2,i3,i4,i5,i6,i7,λi k hi hk=> ?_,λi hi=> ?_⟩,by show z4 (4-(d.1.2.2.2+1))<_;omega⟩
   .show(bif z9 (i*24+k) (z4 d.1.2.2.2*24+z4 d.1.2.2.2) then 0 else d.2.2.2.2.2.1 (i*24+k))=if i=k/\¬(i:Int)<d.1.2.2.2+1 then 1073741824 else 0
    rw[Hw,i8 i k hi hk];by_cases e:i*24+k=z4 d.1.2.2.2*24+z4 d.1.2.2.2
    .rw[if_pos e,if_neg (by omega)]
    .rw[if_neg e];by_cases e2:i=k/\¬(i:Int)<d.1.2.2.2
     .rw[if_pos e2,if_pos (by omega)]
     .rw[if_neg e2,if_neg (by omega)]
   .show(bif z9 i (z4 d.1.2.2.2) then d.2.2.1 (z4 d.1.2.2.2) else d.2.2.2.2.2.2 i)=if (i:Int)<d.1.2.2.2+1 then w.2.2.1 i else 0
    rw[Hw,i9 i hi,i6];by_cases e:i=z4 d.1.2.2.2
    .rw[if_pos e,if_pos (by omega),e]
    .rw[if_neg e];by_cases e2:(i:Int)<d.1.2.2.2
     .rw[if_pos e2,if_pos (by omega)]
     .rw[if_neg e2,if_neg (by omega)]
  .have h:=wS h;rw[aw];refine⟨i5,i7,λi k hi hk=> ?_,λi hi=> ?_⟩
   .show d.2.2.2.2.2.1 (i*24+k)=_;rw[i8 i k hi hk];by_cases e:i=k/\¬i<4
    .rw[if_pos e,if_pos (by omega)]
    .rw[if_neg e,if_neg (by omega)]
   .show d.2.2.2.2.2.2 i=_;rw[i9 i hi];by_cases e:i<4
    .rw[if_pos e,if_pos (by omega)]
    .rw[if_neg e,if_neg (by omega)]) 2000 d hd (by omega)
theorem aPF (U D V:Nat->Int)(b w:Bool)(hU:∀p,p<276->U p=0)(hD:∀i,i<24->okV (D i))(hV:∀j,j<4->okV (V j)):
  cJ U D 0 4 b V w=some ((λ_=>0,λi=>if i<24 then(if i<4 then V i else D i) else 0),b):=by
 have h:Ok (cJ U D 0 4 b V w) (λr:XP=>r=((λ_=>0,λi=>if i<24 then(if i<4 then V i else D i) else 0),b)):=by
  unfold cJ F2;show PQ _ _;refine ax aWg λm _ hm=> ?_;rw[aS,aD];refine ax (a62 ((0,(4,w),ws 4,0),b,V,(U,D),(λx=>0,λx=>0),m,λx=>0) _ hV ⟨dZ 0,(show(0:Int)<=4 by decide),rfl,rfl,rfl,rfl,rfl,rfl,λi k hi hk=> ?_,λi hi=> ?_⟩) λx _ hx=> ?_
  .show m (i*24+k)=if i=k/\¬(i:Int)<0 then 1073741824 else 0
   rw[hm i k hi hk];by_cases e:i=k
   .rw[if_pos e,if_pos ⟨e,by omega⟩]
   .rw[if_neg e,if_neg (λh=>e h.1)]
  .show(0:Int)=if (i:Int)<0 then V i else 0
   rw[if_neg (by omega)]
  obtain⟨a1,a3,a5,a6⟩:=hx;have a1:x.2.1=b:=a1;have a3:x.b.2.1=(U,D):=a3
  have s:=aSV (λi=>if i<4 then 0 else 1073741824) U D x.c.2.1 x.c.2.2 (λi=>if i<4 then V i else 0) b (λi hi=>⟨hD i hi,by
    show((if i<4 then(0:Int) else 1073741824)=1073741824/\(if i<4 then V i else 0)=0)∨((if i<4 then(0:Int) else 1073741824)=0/\okV (if i<4 then V i else 0));by_cases c:i<4
    .rw[if_pos c,if_pos c];exact Or.inr ⟨rfl,hV i c⟩
    .rw[if_neg c,if_neg c];exact Or.inl ⟨rfl,rfl⟩⟩) hU (λi k hi hk=>by
    rw[a5 i k hi hk];by_cases c:i=k
    .subst c;by_cases c2:i<4
     .rw[if_neg (λh=>h.2 c2),if_pos rfl,if_pos c2]
     .rw[if_pos ⟨rfl,c2⟩,if_pos rfl,if_neg c2]
    .rw[if_neg (λh=>c h.1),if_neg c]) a6
  rw[a3,a1,s,cz,aw];refine Prod.ext (Prod.ext rfl (funext λi=> ?_)) rfl;show(if i<24 then kept _ D _ i else 0)=if i<24 then(if i<4 then V i else D i) else 0
  unfold kept;by_cases c:i<4
  .simp[c]
  .simp[c]
 obtain⟨r,h1,h2⟩:=h;rw[h1,h2]
noncomputable section
def allM:Nat->(Nat->Bool)->Bool
 |0,_=>true
 |n+1,f=>allM n f&&f n
theorem axc {f:Nat->Bool}:∀n,allM n f=true->∀i,i<n->f i=true
 |0,_,i,hi=>by omega
 |n+1,h,i,hi=>by
  have h:(allM n f&&f n)=true:=h;rw[cL] at h;by_cases e:i=n
  .rw[e];exact h.2
  .exact axc n h.1 i (by omega)
def isV (d:Int):Bool:=decide (d=17592186044416)||decide (d=68719476736)||decide (d=67108864)||decide (d=4294967296)||decide (d=17179869184)
theorem aUk {d:Int}(h:isV d=true):okV d:=by
 unfold isV at h;simp only[afX,j7] at h;unfold okV;omega
def a0Y (U D:Nat->Int)(a:Int)(n:Nat)(V:Nat->Int):Bool:=
 z9 n 4&&decide (a=0)&&allM 276 (λp=>decide (U p=0))&&allM 24 (λi=>isV (D i))&&allM 4 (λi=>isV (V i))
def rsQ:jw:=λU D a n b V w=>bif a0Y U D a n V then some ((λ_=>0,λi=>if i<24 then(if i<4 then V i else D i) else 0),b) else cJ U D a n b V w
theorem a29:cJ=rsQ:=by
 funext U D a n b V w
 unfold rsQ;cases h:a0Y U D a n V
 .rfl
 .unfold a0Y at h;simp only[cL,j7] at h;obtain⟨⟨⟨⟨h0,h1⟩,h2⟩,h3⟩,h4⟩:=h;have h0:=lE h0;subst h0;subst h1;refine aPF U D V b w (λp hp=>dh (axc _ h2 p hp)) (λi hi=>aUk (axc _ h3 i hi)) (λi hi=>aUk (axc _ h4 i hi))
def a0Z (g:jw)(x:kZ.B):Option qA:=(uS o7 ju aU kc zw fk g eK nI x).val
def a3a (g:jw)(x:mn.B):Option rY:=(xQ (a0Z g) zZ nR jW x).val
def a00 (g:jw):dL.B->Option jh:=bG (uU (a3a g)) 2000
def a01 (g:jw)(d:gh.B):Option lg:=(uX (a00 g) d).val
def aSW (g:jw)(x:nE.B):Option uh:=(Aj hO fm (a01 g) x).val
end
end Go.Proofs.YtldgljclcgaibaaGreat
noncomputable section
namespace Go.Proofs.YtldgljclcgaibaaGreat
open Go.Ab Go.Ab.Pg Go.Ab.Rq
def aB7:=qa (pl (cl Cz nil) nil)
def ain:=qe Cy
abbrev aB8:=ain.B
abbrev aoJ:=NI->NI->Option aB8
def aB9 (g:aoJ):Ct:=(30,FC aB7 (lf ain) (λb=>g b.1 b.2))
def aoK (gk:rC)(x0:Nat->Int)(x1:Nat->Int):Pg aB8:=opt (gk x0 x1 false) λd=>ret !d.2
def SI:=λx0 x1=>(aoK du x0 x1).val
theorem aPG:∀gk,D0 [Bv gk] 30 aB7 (lf ain) λb=>aoK gk b.1 b.2:=λ_ b=>by kernel_rfl
theorem aPH [aA]:SC (aB9 SI):=s0 (.c GY (.nil _)) (aPG du)
def asl:=qa (pl akG nil)
def Zm:=qe Cy
abbrev asm:=Zm.B
abbrev adK:=NI->Option asm
def asn (g:adK):Ct:=(29,FC asl (lf Zm) (λb=>g b))
def pF:=qs (st (pr (us 1 (cu apY (us 3 (c lk aDW)))) (pl FB nil)))
def Zn:=qs (st (pu (us 2 (cu lM aWU)) (pu nil nil)))
def Zo:=qs (st (pr (us 1 (cu apY (us 3 (c lk aJ5)))) (pl FB nil)))
abbrev Ed:=Zn.B⊕Zo.B
def aka {ρ:Type}(x:Ed)(K:AX->St->Option ρ):Option ρ:=(v4 (λd=>K .ret (Zn.em d)) (λd=>K (.ex 0) (Zo.em d))) x
def Uo (d:pF.B):PL pF Ed:=let y0:=z4 d.1.2;let y1:=aZ d.1.2 24;let y2:=decide (d.1.2<24);ae y2 (ae y1 (ae y1 (ae (decide (d.2 y0>d.1.1 y0)) (ret (ww (w7 ()))) (ae y1 (ae (decide (d.2 y0<wI (0-d.1.1 y0))) (ret (ww (w7 ()))) (ret (w7 ((d.1.1,wI (d.1.2+1)),d.2)))) no)) no) no) (ret (ww (ww ((d.1.1,d.1.2,y2),d.2))))
def Uq:=bG (Uo) 2000
def adL (DT:uv)(bg:dP)(Ep:QC)(dX:LT pF Ed)(x0:Nat->Int):Pg asm:=opt DT λd=>opt (dX ((d,0),x0)) λx=>sum x (λd=>ret false) λd=>opt (bg d.2) λd=>opt (Ep d.1 d.2.1 d.2.2.1 d.2.2.2) λd=>ret d
def Jh:=λx0=>(adL kE cj sF Uq x0).val
abbrev Q7:=uv×dP×QC×(LT pF Ed)
def adM (p:Q7):KK:=⟨[JG p.1,jb p.2.1,acx p.b.1],⟨[⟨2,(0::2::3::4::rg 7 20 []),[]⟩],[fU 2 0 pF aka p.b.2],[],[],(some ⟨0,(0::1::rg 3 24 []),[]⟩)⟩,0,29⟩
theorem azu (p:Q7):LI (adM p) 2 pF aka (Uo):=λ_ d c K=>by kernel_rfl
theorem aIs (p:Q7):D2 (adM p) asl (lf Zm) λb=>adL p.1 p.2.1 p.b.1 p.b.2 b:=λb=>by kernel_rfl
abbrev adN:Q7:=(kE,cj,sF,Uq)
theorem aIt [aA]:SC (asn Jh):=sc (kS (k:=adM adN) (.c Ty (.c kd (.c aqW (.nil _)))) [2] [] ⟨kL (azu adN),trivial⟩ trivial (aIs adN))
end Go.Proofs.YtldgljclcgaibaaGreat
namespace Go.Proofs.YtldgljclcgaibaaGreat
open Go.Ab Go.Ab.Pg
theorem Iv.in (s:Nat->Int)(h:Iv s)(j:Nat)(hj:j<24): -box j<=s j/\s j<=box j:=by
 rcases mO j 4 with c|c
 .have b:box j=1073741840:=by unfold box;rw[if_pos c]
  rw[b];have:j=0∨j=1∨j=2∨j=3:=by omega
  rcases this with rfl|rfl|rfl|rfl
  .exact h.1.1 0 (by decide)
  .exact h.1.1 1 (by decide)
  .exact h.1.1 2 (by decide)
  .exact h.1.1 3 (by decide)
 .exact h.2 j c hj
theorem aPI (s:Nat->Int)(h:Iv s):∀(d:pF.B) (hd:0<=d.1.2/\d.1.2<=24/\(∀j,j<24->d.1.1 j=box j)/\d.2=s),Ok (Uq d) (λx:Ed=>match x with|.inl _=>False|.inr e=>e.2=s):=
 bT (λd:pF.B=>z4 (24-d.1.2)) (λd hd=>by
  obtain⟨i0,i1,i2,i3⟩:=hd;unfold Uo;dsimp only;rw[aM];refine⟨λc=> ?_,λ_=>by rw[aw];exact i3⟩;have c:=dh c;have hw:wI (d.1.2+1)=d.1.2+1:=bf;obtain⟨n,hn⟩:∃n:Nat,d.1.2=n:=⟨z4 d.1.2,by omega⟩;have nn:z4 d.1.2=n:=by rw[hn];rfl
  have r0:aZ d.1.2 24=true:=by rw[bp];omega
  have b:=Iv.in s h n (by omega);have b1:=aT5 n;have w0:wI (0-box n)= -box n:=by rw[Int.zero_sub];exact eS (by omega) (by omega)
  rw[r0,nn,i2 n (by omega),i3,w0,hw];rw[aD,aD];rw[aM];refine⟨λq=>absurd (dh q) (by omega),λ_=> ?_⟩;rw[aD];rw[aM];refine⟨λq=>absurd (dh q) (by omega),λ_=> ?_⟩;rw[aw];exact⟨⟨by show 0<=d.1.2+1;omega,by show d.1.2+1<=24;omega,i2,rfl⟩,by show z4 (24-(d.1.2+1))<_;omega⟩) (λd hd=>by omega)
theorem axd (s:Nat->Int)(h:Iv s):Ok (Jh s) (λr:Bool=>r=true):=by
 unfold Jh adL;show PQ _ _;rw[bI];intro b hb;have hb:=aGW b hb;refine ax (aPI s h _ ⟨(show(0:Int)<=0 by decide),(show(0:Int)<=24 by decide),hb,rfl⟩) λx _ hx=> ?_;rw[og];refine⟨λa ha=> ?_,λa ha=> ?_⟩
 .subst ha;exact absurd hx id
 .subst ha;have hx:a.2=s:=hx;rw[hx,a0u,cz];refine ax (aGk _ _ _ _) λu _ hu=> ?_;rw[aw];exact hu.2 h.1
theorem aCa (x lo hi:Int)(c:Bool)(h:lo<=hi)(h0:lo<=x)(h1:x<=hi):aT x lo hi c=some (x,c):=by
 simp only[aT,qF,Pg.bN,Pg.bP];rw[cC (by omega),cC (by omega),cC (by omega)];rfl
theorem aHb (x:Int)(c:Bool)(h:Dr x):gr x c=some (x,c):=by
 simp only[gr,yM,Pg.bZ,Pg.bP,aCa x 1 72057594037927936 c (by decide) h.1 h.2,bC]
theorem aDn:∀(d:ek.B) (hd:uD d.b.1/\d.2.1=false),Po (oI d) (λx:lT=>uD x.b.1/\x.2.1=false):=
 oZ (λd hd=>by
  obtain⟨hv,hc⟩:=hd;have hU:=hv.1;have hV:=hv.2;unfold rD;dsimp only;rw[bz];refine⟨λ_=> ?_,λ_=>by rw[aW];exact⟨hv,hc⟩⟩;rw[Iz];intro hr;rw[bp] at hr;have hd:=hV (z4 d.1) (by omega);rw[aHb _ _ hd,bJ];intro e he;have he:=LG he;subst he;rw[Iz];intro _;rw[Iz];intro _;rw[aW];exact⟨⟨hU,ao7 hV hd⟩,hc⟩)
theorem aDo:∀(d:eo.B) (hd:uD d.b.1/\d.2.1=false),Po (oJ d) (λx:lU=>uD x.b.1/\x.2.1=false):=
 oZ (λd hd=>by
  obtain⟨hv,hc⟩:=hd;have hU:=hv.1;have hV:=hv.2;unfold rE;dsimp only;rw[bz];refine⟨λ_=> ?_,λ_=>by rw[aW];exact⟨hv,hc⟩⟩;rw[Iz];intro hr;rw[Iz];intro _;rw[bp] at hr;have hd:=hU (z4 d.1) (by omega);rw[aCa _ _ _ _ (by decide) hd.1 hd.2,bJ];intro e he;have he:=LG he;subst he;rw[Iz];intro _;rw[Iz];intro _;rw[aW];exact⟨⟨ao7 hU hd,hV⟩,hc⟩)
theorem aHc (u v:Nat->Int)(h:uD (u,v)):Ok (SI u v) (λr:Bool=>r=true):=by
 unfold SI aoK;show PQ _ _;rw[bI];intro d hd;rw[aw]
 have key:Po (du u v false) (λr=>r.2=false):=by
  unfold du wA;show PW _ _;refine aI (aDn _ ⟨h,rfl⟩) λa _ ha=> ?_;refine aI (aDo _ ha) λb _ hb=> ?_;rw[aW];exact hb.2
 rw[key d hd];rfl
theorem aSX (u v:Nat->Int)(hv:∀k,k<24->0<=v k):∀(d:tM.B) (hd:0<=d.1/\d.1<=24/\d.2.2.1.1=u/\d.2.2.1.2=v/\∀k:Nat,(k:Int)<d.1->0<=d.2.2.2.2 k),Ok (adI d) (λx:Jf=>∀k:Nat,k<24->0<=x.2.2.2.2 k):=
 bT (λd:tM.B=>z4 (24-d.1)) (λd hd=>by
  obtain⟨i0,i1,e0,e1,nn⟩:=hd;unfold adH;dsimp only;rw[aM];refine⟨λc=> ?_,λc=> ?_⟩
  .have c:=dh c;have hw:wI (d.1+1)=d.1+1:=bf;have r0:aZ d.1 24=true:=by rw[bp];omega
   have r1:wr (0+z4 d.1*1+1) 24=true:=by rw[ch];omega
   obtain⟨n,hn⟩:∃n:Nat,d.1=(n:Int):=⟨z4 d.1,by omega⟩;have tn:z4 d.1=n:=by omega
   rw[r0,r1,hw,e0,e1,tn,hn]
   have key:Ok (Qe u v (n:Int) (n:Int) d.2.1) (λr=>0<=r.1):=by
    have q:=aG9 u v n n n d.2.1 (by omega) (by omega) (by rw[if_neg (by omega)]) (by omega);exact⟨_,q,a5c u v n (by omega) d.2.1 _ q hv⟩
   refine ax key λa _ ha=> ?_;repeat rw[aD]
   rw[show(true&&true)=true from rfl,aD,aw];refine⟨⟨by show 0<=(n:Int)+1;omega,by show(n:Int)+1<=24;omega,e0,e1,λk hk=> ?_⟩,by show z4 (24-((n:Int)+1))<z4 (24-(n:Int));omega⟩;have hk:(k:Int)<(n:Int)+1:=hk;show 0<=(bif z9 k n then a.1 else d.2.2.2.2 k);cases hb:z9 k n with
   |true=>exact ha
   |false=>
    have ne:k≠n:=λh=>by subst h;rw[Ar] at hb;cases hb
    exact nn k (by omega)
  .have c:=wS c;rw[aw];exact λk hk=>nn k (by omega)) (λd hd=>by omega)
theorem axe (u v:Nat->Int)(c:Bool)(hv:∀k,k<24->0<=v k):Ok (SB u v c) (λr:aoz=>∀k:Nat,k<24->0<=r.1 k):=by
 unfold SB aoB;show PQ _ _;refine ax (aSX u v hv _ ⟨dZ 0,(show(0:Int)<=24 by decide),rfl,rfl,λk hk=>by have hk:(k:Int)<0:=hk;omega⟩) λd _ hd=> ?_;rw[aw];exact hd
theorem aCb (x:pB.B):Ok (jO x) (λr:zX=>r.2.2.2.2.2.2.2.2.1=x.1.2.1):=by
 refine(bA.Ok (an3 x) (Q:=λ_=>True) λ_ _=>trivial).with (R:=λr:zX=>r.2.2.2.2.2.2.2.2.1=x.1.2.1) ?_|>.mono λ_ h=>h.2
 unfold jO zY;try dsimp only
 show PW _ _;rw[bJ];intro _ _;rw[bJ];intro _ _;rw[aW]
open Go.Ab Go.Ab.Pg Go.Ab.Rq
def axf:=qa (pu nil nil)
def adO:=qe Cy
abbrev axg:=adO.B
abbrev aio:=Option axg
def axh (g:aio):Ct:=(11,FC axf (lf adO) (λ_=>g))
def V3:Option axg:=some true
theorem aWh:il=aSW rsQ:=by
 rw[<-a29];rfl
theorem a02 [aA]:Snd Tryz.prog (Ai (aSW rsQ)):=aWh▸NF
theorem aMz:akO Tryz.prog [anQ anS,at7 AR,aif NJ,Ai (aSW rsQ),aa7 aa9,Gz jO] ⟨[],[],[],[],none⟩ 2000 11 axf (lf adO) λ_=>ret true:=λb=>by kernel_rfl
theorem aMA [aA]:SC (axh V3):=s0 (.c aGF (.c aGQ (.c aw8 (.c a02 (.c awX (.c R8 (.nil _))))))) aMz
def qM:=qa (pl (c (aa rn) (cl abJ nil)) nil)
def Qg:=qe Cy
abbrev Us:=Qg.B
abbrev aDp:=qM.B->Option Us
def aDq (g:aDp):Ct:=(10,FC qM (lf Qg) g)
def kq:=qs (st (pr (us 1 (c abJ (us 1 (xs 1 (cu lM (cu vU (c ab (c ai (cu NT (us 3 (cu AT (cl ai (us 76 nil))))))))))))) (pl (c (so (cu (gp 3 434) akC)) (c lN (c lN (c (so (a 26 rn (c gb (c gK (a 2 sU (cu (gp 4 5) (cu (gp 5 10) (c (gc (fO (pu rq8 (pr Oi (pl gT (pu Bi fR)))))) (au 6 (cu aIE (cu aIF (cu aIG (cu (gp 10 8) (cu (gp 11 8) (cu (gp 12 8) nil)))))) (cu (gp 13 37) (a 4 yb (cu (gp 14 3) (c gb (c gi (a 3 kv (c gb (c gb (c gb (c gi (c gi (c gi (a 10 wP (cl (gc (fO (pu apW (pu (ox (pu db (pu db (nat 10)))) (pl gT (pu (nat 10) fR)))))) nil))))))))))))))))))))))) (c m7 (c m8 (c oF (c axA (c axB (c axC (c axD (c (so (a 5 gN (c gi (c (gc (fO (pu aDQ (pu (ox (pu db (pu db eI))) (pl gT (pu eI fR)))))) ku)))) (c (so aQ7) (c lO (c (so (c gi (c gi (cl (gc (fO (pu aIx (pu (ox (pu db (pu db NR))) (pl gT (pu NR fR)))))) nil)))) Bj))))))))))))))) nil)))
def SJ:=qs aXU
def aoL:=qs (st (pr (us 1 (c abJ (us 1 (xs 1 (cu lM (cu vU (c ab (c ai (cu NT (us 3 (cu AT (c ai (us 68 (c ai (cl ab (us 6 nil)))))))))))))))) (pl (c (so (cu (gp 3 434) akC)) (c lN (c lN (c (so (a 26 rn (c gb (c gK (a 2 sU (cu (gp 4 5) (cu (gp 5 10) (c (gc (fO (pu rq8 (pr Oi (pl gT (pu Bi fR)))))) (au 6 (cu aIE (cu aIF (cu aIG (cu (gp 10 8) (cu (gp 11 8) (cu (gp 12 8) nil)))))) (cu (gp 13 37) (a 4 yb (cu (gp 14 3) (c gb (c gi (a 3 kv (c gb (c gb (c gb (c gi (c gi (c gi (a 10 wP (cl (gc (fO (pu apW (pu (ox (pu db (pu db (nat 10)))) (pl gT (pu (nat 10) fR)))))) nil))))))))))))))))))))))) (c m7 (c m8 (c oF (c axA (c axB (c axC (c axD (c (so (a 5 gN (c gi (c (gc (fO (pu aDQ (pu (ox (pu db (pu db eI))) (pl gT (pu eI fR)))))) ku)))) (c (so aQ7) (c lO (c (so (c gi (c gi (cl (gc (fO (pu aIx (pu (ox (pu db (pu db NR))) (pl gT (pu NR fR)))))) nil)))) Bj))))))))))))))) nil)))
abbrev ui:=SJ.B⊕((aSZ×Bool×Int×Int×Bool)×auo×NI×NI×(GJ×Bool×NI×(NI×NI)×(Nat×Nat)×se×Bool×Int×lJ×Bool×Bool×Bool×Int×Int×Int×Fv×Nat)×(lJ×Int×Int)×NQ×SM×bY×bY×bY×bY×bY×bY×Lw×uG×Fz×Fw×Fw×Fw×Fw×Fw×Fw×Nat×NI×NI×NI×NI×NI×NI×NI×NI×NI×NI×NI)
def abv {ρ:Type}(x:ui)(K:AX->St->Option ρ):Option ρ:=(v4 (λd=>K .ret (SJ.em d)) (λd=>K (.ex 2) (aoL.em ((d.1.1,d.1.2.1,d.1.b.1,d.1.b.2.1,d.1.b.2),d.2)))) x
def NM (d:kq.B):PL kq ui:=let n1:=d.1.2.2;let y0:=decide (n1.2<24);ae y0 (ae (aZ n1.2 24) (ae (decide (d.2.2.2.1 (z4 n1.2)<0)) (ret (ww (w7 ()))) (ret (w7 ((d.1.1,d.1.2.1,n1.1,wI (n1.2+1)),d.2)))) no) (ret (ww (ww ((d.1.1,d.1.2.1,n1.1,n1.2,y0),d.2))))
def NN:=bG (NM) 2000
def mE:=qs (st (pr (us 1 (c abJ (us 1 (xs 1 (cu lM (cu vU (c ab aQk))))))) (pl (c (so abB) (c (so (a 26 rn (c gb (c gK (a 2 sU (cu (gp 2 5) (cu (gp 3 10) (c (gc (fO (pu rq6 (pr Oi (pl gT (pu Bi fR)))))) (au 6 aEb (cu aIH (a 4 yb (cu (gp 12 3) (c gb (c gi (a 3 kv (c gb (c gb (c gb (c gi (c gi (c gi (a 10 wP (cl (gc (fO (pu aup (pu (ox (pu db (pu db (nat 10)))) (pl gT (pu (nat 10) fR)))))) nil))))))))))))))))))))))) (c m7 (c m8 (c oF (c (so (a 5 gN (c gi (c (gc (fO (pu azx (pu (ox (pu db (pu db eI))) (pl gT (pu eI fR)))))) ku)))) (c (so (a 5 gN (c gi (c (gc (fO (pu apW (pu (ox (pu db (pu db eI))) (pl gT (pu eI fR)))))) ku)))) (c axA (c axB (c axC (c axD (c lO (c (so asy) Bj))))))))))))) nil)))
def SK:=qs aXU
def aoM:=qs (st (pr (us 1 (c abJ (us 1 (xs 1 (cu lM (cu vU (c ab (c ai (us 15 (c ai (c abJ (c ai (c ab (cu HP (c ai (c ab (c ab (cu HP (cu vU (cu vU (cu aKh (c ai (c ab (cl ab (us 52 nil))))))))))))))))))))))))) (pl (c (so abB) (c (so (a 26 rn (c gb (c gK (a 2 sU (cu (gp 2 5) (cu (gp 3 10) (c (gc (fO (pu rq6 (pr Oi (pl gT (pu Bi fR)))))) (au 6 aEb (cu aIH (a 4 yb (cu (gp 12 3) (c gb (c gi (a 3 kv (c gb (c gb (c gb (c gi (c gi (c gi (a 10 wP (cl (gc (fO (pu aup (pu (ox (pu db (pu db (nat 10)))) (pl gT (pu (nat 10) fR)))))) nil))))))))))))))))))))))) (c m7 (c m8 (c oF (c (so (a 5 gN (c gi (c (gc (fO (pu azx (pu (ox (pu db (pu db eI))) (pl gT (pu eI fR)))))) ku)))) (c (so (a 5 gN (c gi (c (gc (fO (pu apW (pu (ox (pu db (pu db eI))) (pl gT (pu eI fR)))))) ku)))) (c axA (c axB (c axC (c axD (c lO (c (so asy) Bj))))))))))))) nil)))
def aoN:=qs (st (pr (us 1 (c abJ (us 1 (xs 1 (cu lM (cu vU (c ab (c ai (us 15 (c ai (c abJ (c ai (c ab (cu HP (c ai (c ab (cl ab aX4))))))))))))))))) (pl (c (so abB) (c (so (a 26 rn (c gb (c gK (a 2 sU (cu (gp 2 5) (cu (gp 3 10) (c (gc (fO (pu rq6 (pr Oi (pl gT (pu Bi fR)))))) (au 6 aEb (cu aIH (a 4 yb (cu (gp 12 3) (c gb (c gi (a 3 kv (c gb (c gb (c gb (c gi (c gi (c gi (a 10 wP (cl (gc (fO (pu aup (pu (ox (pu db (pu db (nat 10)))) (pl gT (pu (nat 10) fR)))))) nil))))))))))))))))))))))) (c m7 (c m8 (c oF (c (so (a 5 gN (c gi (c (gc (fO (pu azx (pu (ox (pu db (pu db eI))) (pl gT (pu eI fR)))))) ku)))) (c (so (a 5 gN (c gi (c (gc (fO (pu apW (pu (ox (pu db (pu db eI))) (pl gT (pu eI fR)))))) ku)))) (c axA (c axB (c axC (c axD (c lO (c (so asy) Bj))))))))))))) nil)))
def aoO:=qs (st (pr (us 1 (c abJ (us 1 (xs 1 (cu lM (cu vU (c ab (c ai (us 15 (c ai (c abJ (c ai (cl ab (cu lM (xs 2 (cu lM aX4)))))))))))))))) (pl (c (so abB) (c (so (a 26 rn (c gb (c gK (a 2 sU (cu (gp 2 5) (cu (gp 3 10) (c (gc (fO (pu rq6 (pr Oi (pl gT (pu Bi fR)))))) (au 6 aEb (cu aIH (a 4 yb (cu (gp 12 3) (c gb (c gi (a 3 kv (c gb (c gb (c gb (c gi (c gi (c gi (a 10 wP (cl (gc (fO (pu aup (pu (ox (pu db (pu db (nat 10)))) (pl gT (pu (nat 10) fR)))))) nil))))))))))))))))))))))) (c m7 (c m8 (c oF (c (so (a 5 gN (c gi (c (gc (fO (pu azx (pu (ox (pu db (pu db eI))) (pl gT (pu eI fR)))))) ku)))) (c (so (a 5 gN (c gi (c (gc (fO (pu apW (pu (ox (pu db (pu db eI))) (pl gT (pu eI fR)))))) ku)))) (c axA (c axB (c axC (c axD (c lO (c (so asy) Bj))))))))))))) nil)))
abbrev Am:=SK.B⊕(((aSZ×Bool×Int×Int×Bool×Bool×Int×Bool)×(Int×Bool)×(GJ×Bool×NI×(NI×NI)×(Nat×Nat)×se×Bool×Int×lJ×Bool×Bool×Bool×Int×Int×Int×Fv×Nat)×(lJ×Int×Int)×NQ×SM×bY×bY×bY×bY×bY×bY×Lw×uG×Fz×Fw×Fw×Fw×Fw×Fw×Fw×Nat×NI×NI×NI×NI×NI×NI×NI×NI×NI×NI×NI)⊕(((aSZ×Bool×Int×Int×Bool×Bool)×auo×(GJ×Bool×NI×(NI×NI)×(Nat×Nat)×se×Bool×Int×lJ×Bool×Bool×Bool×Int×Int×Int×Fv×Nat)×(lJ×Int×Int)×NQ×SM×bY×bY×bY×bY×bY×bY×Lw×uG×Fz×Fw×Fw×Fw×Fw×Fw×Fw×Nat×NI×NI×NI×NI×NI×NI×NI×NI×NI×NI×NI)⊕((aSZ×Bool×Int×Int×Bool)×auo×(GJ×Bool×NI×(NI×NI)×(Nat×Nat)×se×Bool×Int×lJ×Bool×Bool×Bool×Int×Int×Int×Fv×Nat)×(lJ×Int×Int)×NQ×SM×bY×bY×bY×bY×bY×bY×Lw×uG×Fz×Fw×Fw×Fw×Fw×Fw×Fw×Nat×NI×NI×NI×NI×NI×NI×NI×NI×NI×NI×NI)))
def abw {ρ:Type}(x:Am)(K:AX->St->Option ρ):Option ρ:=(v4 (λd=>K .ret (SK.em d)) (v4 (λd=>K (.ex 0) (aoM.em ((d.1.1,d.1.2.1,d.1.b.1,d.1.b.1,d.1.1,d.1.b.2.1,d.1.c.1,d.1.b.1,d.1.c.2.1,d.1.c.2.1,d.1.c.b.1,d.1.c.b.2,d.1.c.b.2),(d.2.1.1,d.1.c.b.1,d.2.1.2),d.b))) (v4 (λd=>K (.ex 0) (aoN.em ((d.1.1,d.1.2.1,d.1.b.1,d.1.b.1,d.1.1,d.1.b.2.1,d.1.c.1,d.1.b.1,d.1.c.2,d.1.c.2),d.2))) (λd=>K (.ex 0) (aoO.em ((d.1.1,d.1.2.1,d.1.b.1,d.1.b.1,d.1.1,d.1.b.2),d.2)))))) x
def NO (axi:NL)(U':Iw)(SL:Gy)(aso:adK)(aCc:aoJ)(abx:aoA)(p6:LT kq ui)(d:mE.B):PL mE Am:=let n82:=d.2.1;let n59:=d.2.2;let n34:=d.1.2;let n33:=d.1.1;let n51:=n33.2.2.2.2;let n30:=n59.1.2.2.2;let n66:=n30.2.2.2.2.2.2.2.2.2.2.2.2.2;let n25:=n59.2.2.2.2;let n19:=n51.2.2.2.2.2;let n35:=n19.2.2.2.2.2;let n76:=n35.2.2.2;let bM:=n25.2.2.2;let n83:=bM.2.2;let n31:=n83.2.2;let n60:=n31.2.2.2.2;let n18:=n60.2.2.2.2.2;let n43:=n18.2.2.2.2.2;let y0:=z4 n34.2;let y1:=ws n33.1;let y2:=decide (n34.2<30);let y3:=decide (n82.2.1<60);let y4:=decide (n34.2<y1);ae y4 (ae y2 (ae y3 (ae (aZ n34.2 n33.1) (ae (z9 n30.2.1.2 n30.2.1.2) (ae (z9 n66 n66) (ae (z9 n25.1.2.2.1 n25.1.2.2.1) (ae (z9 n25.2.1.2.2.1 n25.2.1.2.2.1) (ae (z9 n25.2.2.1.2.2.1 n25.2.2.1.2.2.1) (ae (z9 bM.1.2.2.1 bM.1.2.2.1) (ae (z9 bM.2.1.2.2.1 bM.2.1.2.2.1) (ae (z9 n83.1.2.2.1 n83.1.2.2.1) (ae (z9 n31.1.2.2 n31.1.2.2) (opt (axi ((n33.2.1 y0,n33.2.2.1 y0,n33.2.2.2.1 y0,(n51.1 y0,n51.2.1 y0,(n51.2.2.1 y0,n51.2.2.2.1 y0,n51.2.2.2.2.1 y0),n19.1 y0,n19.2.1 y0,n19.2.2.1 y0),n19.2.2.2.1 y0,n19.2.2.2.2.1 y0,n35.1 y0,n35.2.1 y0,n35.2.2.1 y0,n76.1 y0,n76.2.1 y0,n76.2.2.1 y0,n76.2.2.2 y0),n82,(n59.1.1,n59.1.2.1,n59.1.2.2.1,n30.1,n30.2.1.2,n30.2.2),n59.2.1,n59.2.2.1,(sh8 n30.2.1.1 n59.2.2.2.1.2),n25.1,n25.2.1,n25.2.2.1,bM.1,bM.2.1,n83.1,n83.2.1,n31.1,(aMV 0 n31.2.1.2),(Va 0 n31.2.2.1.2),(Va 0 n31.2.2.2.1.2),(Va 0 n60.1.2),(Va 0 n60.2.1.2),(Va 0 n60.2.2.1.2),(Va 0 n60.2.2.2.1.2),λj=>n18.1 (0+j),λj=>n18.2.1 (0+j),λj=>n18.2.2.1 (0+j),λj=>n18.2.2.2.1 (0+j),λj=>n18.2.2.2.2.1 (0+j),λj=>n43.1 (0+j),λj=>n43.2.1 (0+j),λj=>n43.2.2.1 (0+j),λj=>n43.2.2.2.1 (0+j),λj=>n43.2.2.2.2.1 (0+j),λj=>n43.2.2.2.2.2 (0+j))) λak=>ae (match ak with|w7 val=>true|ww val=>false) (opt (match ak with|w7 a=>some a|ww val=>none) λaJ=>let n64:=aJ.1.2;let n24:=n64.2.2.2;let n84:=n24.2.1;let Zx:=n24.2.2.2.2.2.2.2.2.2.2.2.2.2;let n23:=aJ.2.2.2;let n85:=n23.2.1;let n67:=n23.2.2.1;let n61:=n23.1.2.2.2;let n15:=n23.2.2.2;let n86:=n15.2.1;let n68:=n15.2.2.1;let n28:=n15.2.2.2;let n56:=n28.2.2.1;let bH:=n28.2.2.2;let n87:=bH.2.1;let n44:=bH.1.2.2.2.2;let n36:=n87.2.2.2;let n77:=n36.2.2.2;let n29:=bH.2.2;let n88:=n29.2.1;let n45:=n29.1.2.2.2.2;let n37:=n88.2.2.2;let n78:=n37.2.2.2;let n16:=n29.2.2;let n89:=n16.2.1;let n46:=n16.1.2.2.2.2;let n38:=n89.2.2.2;let n79:=n38.2.2.2;let n27:=n16.2.2;let n47:=n27.1.2.2.2.2;let n39:=n27.2.2.2.2.2;let n80:=n39.2.2.2;let bk:=(n84,n23.1);let n5:=(Zx,bH.1);let n2:=(n64,aJ.2.1,aJ.2.2.1,(λj=>n23.1.1 (0+j),λj=>n23.1.2.1 (0+j),λj=>n23.1.2.2.1 (0+j),λj=>n61.1 (0+j),λj=>n61.2.1 (0+j),λj=>n61.2.2.1 (0+j),λj=>n61.2.2.2.1 (0+j),λj=>(n61.2.2.2.2,()).1 (0+j)),n85,n67,n15.1,n86,n68,n28.1,n28.2.1,n56,(λj=>bH.1.1 (0+j),λj=>bH.1.2.1 (0+j),λj=>bH.1.2.2.1 (0+j),λj=>bH.1.2.2.2.1 (0+j),λj=>n44.1 (0+j),λj=>n44.2.1 (0+j),λj=>n44.2.2.1 (0+j),λj=>n44.2.2.2.1 (0+j),λj=>n44.2.2.2.2.1 (0+j),λj=>(n44.2.2.2.2.2,()).1 (0+j)),(λj=>n87.2.1 (0+j),λj=>n87.2.2.1 (0+j),λj=>n36.1 (0+j),λj=>n36.2.1 (0+j),λj=>n36.2.2.1 (0+j),λj=>n77.1 (0+j),λj=>n77.2.1 (0+j),λj=>n77.2.2.1 (0+j),λj=>(n77.2.2.2,()).1 (0+j)),(λj=>n29.1.2.1 (0+j),λj=>n29.1.2.2.1 (0+j),λj=>n29.1.2.2.2.1 (0+j),λj=>n45.1 (0+j),λj=>n45.2.1 (0+j),λj=>n45.2.2.1 (0+j),λj=>n45.2.2.2.1 (0+j),λj=>n45.2.2.2.2.1 (0+j),λj=>(n45.2.2.2.2.2,()).1 (0+j)),(λj=>n88.2.1 (0+j),λj=>n88.2.2.1 (0+j),λj=>n37.1 (0+j),λj=>n37.2.1 (0+j),λj=>n37.2.2.1 (0+j),λj=>n78.1 (0+j),λj=>n78.2.1 (0+j),λj=>n78.2.2.1 (0+j),λj=>(n78.2.2.2,()).1 (0+j)),(λj=>n16.1.2.1 (0+j),λj=>n16.1.2.2.1 (0+j),λj=>n16.1.2.2.2.1 (0+j),λj=>n46.1 (0+j),λj=>n46.2.1 (0+j),λj=>n46.2.2.1 (0+j),λj=>n46.2.2.2.1 (0+j),λj=>n46.2.2.2.2.1 (0+j),λj=>(n46.2.2.2.2.2,()).1 (0+j)),(λj=>n89.2.1 (0+j),λj=>n89.2.2.1 (0+j),λj=>n38.1 (0+j),λj=>n38.2.1 (0+j),λj=>n38.2.2.1 (0+j),λj=>n79.1 (0+j),λj=>n79.2.1 (0+j),λj=>n79.2.2.1 (0+j),λj=>(n79.2.2.2,()).1 (0+j)),(λj=>n27.1.2.1 (0+j),λj=>n27.1.2.2.1 (0+j),λj=>n27.1.2.2.2.1 (0+j),λj=>n47.1 (0+j),λj=>n47.2.1 (0+j),λj=>n47.2.2.1 (0+j),λj=>n47.2.2.2.1 (0+j),λj=>n47.2.2.2.2.1 (0+j),λj=>(n47.2.2.2.2.2,()).1 (0+j)),λj=>n27.2.1 (0+j),λj=>n27.2.2.1 (0+j),λj=>n27.2.2.2.1 (0+j),λj=>n27.2.2.2.2.1 (0+j),λj=>n39.1 (0+j),λj=>n39.2.1 (0+j),λj=>n39.2.2.1 (0+j),λj=>n80.1 (0+j),λj=>n80.2.1 (0+j),λj=>n80.2.2.1 (0+j),λj=>(n80.2.2.2,()).1 (0+j));let y0:=z9 n84 n84;let y1:=z9 Zx Zx;let y2:=z9 n85.2.2.1 n85.2.2.1;let y3:=z9 n67.2.2.1 n67.2.2.1;let y4:=z9 n15.1.2.2.1 n15.1.2.2.1;let y5:=z9 n86.2.2.1 n86.2.2.1;let y6:=z9 n68.2.2.1 n68.2.2.1;let y7:=z9 n28.1.2.2.1 n28.1.2.2.1;let y8:=z9 n56.2.2 n56.2.2;ae y0 (ae y1 (ae y2 (ae y3 (ae y4 (ae y5 (ae y6 (ae y7 (ae y8 (opt (U' n2) λbB=>ae y0 (ae y1 (ae y2 (ae y3 (ae y4 (ae y5 (ae y6 (ae y7 (ae y8 (opt (SL n2) λcK=>let n57:=cK.2.2.2.2.2.2.2.2.1;opt (aso bB.1) λeU=>ae (!eU) (ret (ww (w7 ()))) (opt (aCc bB.2.1 bB.2.2) λde=>ae (!de) (ret (ww (w7 ()))) (ae n34.1 (ae (!n57) (ret (ww (w7 ()))) (opt (abx bB.2.1 bB.2.2 false) λlG=>opt (p6 ((n33,n57,n34.2,0),aJ.1.1,bB.1,lG.1,(n64.1,n64.2.1,n64.2.2.1,n24.1,(0,n84),n24.2.2),aJ.2.1,aJ.2.2.1,bk,n85,n67,n15.1,n86,n68,n28.1,n28.2.1,n56,n5,n87,n29.1,n88,n16.1,n89,n27.1,n56.2.2,n27.2)) λx=>sum x (λd=>ret (ww (w7 ()))) λd=>ret (w7 ((d.1.1,d.1.2.1,wI (d.1.2.2.1+1)),d.2.1,d.2.2.2.2)))) (opt (abx bB.2.1 bB.2.2 false) λlG=>opt (p6 ((n33,n57,n34.2,0),aJ.1.1,bB.1,lG.1,(n64.1,n64.2.1,n64.2.2.1,n24.1,(0,n84),n24.2.2),aJ.2.1,aJ.2.2.1,bk,n85,n67,n15.1,n86,n68,n28.1,n28.2.1,n56,n5,n87,n29.1,n88,n16.1,n89,n27.1,n56.2.2,n27.2)) λx=>sum x (λd=>ret (ww (w7 ()))) λd=>ret (w7 ((d.1.1,d.1.2.1,wI (d.1.2.2.1+1)),d.2.1,d.2.2.2.2)))))) no) no) no) no) no) no) no) no) no) no) no) no) no) no) no) no) no) no) (opt (match ak with|ww b=>some b|w7 val=>none) λaJ=>let n70:=aJ.2.1;let n69:=aJ.2.2;let n21:=n69.2.2;let n73:=n21.2.1;let n52:=n21.1.2.2.2;let n20:=n70.2.2.2.2;let n71:=n20.2.2.2.2.2.2.2.2.2.2.2.2;let n65:=n20.1.1;let cm:=n21.2.2;let n90:=cm.1.2.2.1;let n74:=cm.2.1;let n63:=cm.2.2.1;let n22:=cm.2.2.2;let n91:=n22.1.2.2.1;let n75:=n22.2.1;let n62:=n22.2.2;let n92:=n62.2.1;let bo:=n62.2.2;let n93:=bo.2.1;let n48:=n93.2.2.2;let YZ:=bo.1.2.2.2.2;let n81:=YZ.2.2.2;let n32:=bo.2.2;let n94:=n32.2.1;let n53:=n32.1.2.2.2;let n49:=n94.2.2.2;let n17:=n32.2.2;let n95:=n17.2.1;let n54:=n17.1.2.2.2;let n50:=n95.2.2.2;let Jc:=n17.2.2;let n55:=Jc.1.2.2.2;let n26:=Jc.2.2.2.2.2;let n72:=n26.2.2.2;let n9:=(n73.2.2.1,n93);let n8:=(n90,n32.1);let n7:=(n74.2.2.1,n94);let n6:=(n63.2.2.1,n17.1);let n4:=(n91,n95);let n3:=(n75.2.2.1,Jc.1);let n1:=((n70.1,n70.2.1,n70.2.2.1,n70.2.2.2.1,n20.1.2,n20.2),n69.1,n69.2.1,(λj=>n21.1.2.1 (n65+j),λj=>n21.1.2.2.1 (n65+j),λj=>n52.1 (n65+j),λj=>n52.2.1 (n65+j),λj=>n52.2.2.1 (n65+j),λj=>n52.2.2.2.1 (n65+j),λj=>n52.2.2.2.2.1 (n65+j),λj=>(n52.2.2.2.2.2,()).1 (n65+j)),n73,cm.1,n74,n63,n22.1,n75,n62.1,n92,(λj=>bo.1.2.1 (0+j),λj=>bo.1.2.2.1 (0+j),λj=>bo.1.2.2.2.1 (0+j),λj=>YZ.1 (0+j),λj=>YZ.2.1 (0+j),λj=>YZ.2.2.1 (0+j),λj=>n81.1 (0+j),λj=>n81.2.1 (0+j),λj=>n81.2.2.1 (0+j),λj=>(n81.2.2.2,()).1 (0+j)),(λj=>n93.1 (0+j),λj=>n93.2.1 (0+j),λj=>n93.2.2.1 (0+j),λj=>n48.1 (0+j),λj=>n48.2.1 (0+j),λj=>n48.2.2.1 (0+j),λj=>n48.2.2.2.1 (0+j),λj=>n48.2.2.2.2.1 (0+j),λj=>(n48.2.2.2.2.2,()).1 (0+j)),(λj=>n32.1.1 (0+j),λj=>n32.1.2.1 (0+j),λj=>n32.1.2.2.1 (0+j),λj=>n53.1 (0+j),λj=>n53.2.1 (0+j),λj=>n53.2.2.1 (0+j),λj=>n53.2.2.2.1 (0+j),λj=>n53.2.2.2.2.1 (0+j),λj=>(n53.2.2.2.2.2,()).1 (0+j)),(λj=>n94.1 (0+j),λj=>n94.2.1 (0+j),λj=>n94.2.2.1 (0+j),λj=>n49.1 (0+j),λj=>n49.2.1 (0+j),λj=>n49.2.2.1 (0+j),λj=>n49.2.2.2.1 (0+j),λj=>n49.2.2.2.2.1 (0+j),λj=>(n49.2.2.2.2.2,()).1 (0+j)),(λj=>n17.1.1 (0+j),λj=>n17.1.2.1 (0+j),λj=>n17.1.2.2.1 (0+j),λj=>n54.1 (0+j),λj=>n54.2.1 (0+j),λj=>n54.2.2.1 (0+j),λj=>n54.2.2.2.1 (0+j),λj=>n54.2.2.2.2.1 (0+j),λj=>(n54.2.2.2.2.2,()).1 (0+j)),(λj=>n95.1 (0+j),λj=>n95.2.1 (0+j),λj=>n95.2.2.1 (0+j),λj=>n50.1 (0+j),λj=>n50.2.1 (0+j),λj=>n50.2.2.1 (0+j),λj=>n50.2.2.2.1 (0+j),λj=>n50.2.2.2.2.1 (0+j),λj=>(n50.2.2.2.2.2,()).1 (0+j)),(λj=>Jc.1.1 (0+j),λj=>Jc.1.2.1 (0+j),λj=>Jc.1.2.2.1 (0+j),λj=>n55.1 (0+j),λj=>n55.2.1 (0+j),λj=>n55.2.2.1 (0+j),λj=>n55.2.2.2.1 (0+j),λj=>n55.2.2.2.2.1 (0+j),λj=>(n55.2.2.2.2.2,()).1 (0+j)),λj=>Jc.2.2.1 (0+j),λj=>Jc.2.2.2.1 (0+j),λj=>Jc.2.2.2.2.1 (0+j),λj=>n26.1 (0+j),λj=>n26.2.1 (0+j),λj=>n26.2.2.1 (0+j),λj=>n72.1 (0+j),λj=>n72.2.1 (0+j),λj=>n72.2.2.1 (0+j),λj=>n72.2.2.2.1 (0+j),λj=>(n72.2.2.2.2,()).1 (0+j));let y0:=z9 n20.1.2 n20.1.2;let y1:=z9 n71 n71;let y2:=z9 n73.2.2.1 n73.2.2.1;let y3:=z9 n90 n90;let y4:=z9 n74.2.2.1 n74.2.2.1;let y5:=z9 n63.2.2.1 n63.2.2.1;let y6:=z9 n91 n91;let y7:=z9 n75.2.2.1 n75.2.2.1;let y8:=z9 n92.2.2 n92.2.2;ae y0 (ae y1 (ae y2 (ae y3 (ae y4 (ae y5 (ae y6 (ae y7 (ae y8 (opt (U' n1) λbB=>ae y0 (ae y1 (ae y2 (ae y3 (ae y4 (ae y5 (ae y6 (ae y7 (ae y8 (opt (SL n1) λcK=>let n58:=cK.2.2.2.2.2.2.2.2.1;opt (aso bB.1) λeU=>ae (!eU) (ret (ww (w7 ()))) (opt (aCc bB.2.1 bB.2.2) λde=>ae (!de) (ret (ww (w7 ()))) (ae n34.1 (ae (!n58) (ret (ww (w7 ()))) (opt (abx bB.2.1 bB.2.2 false) λlG=>opt (p6 ((n33,n58,n34.2,0),aJ.1,bB.1,lG.1,n70,n69.1,n69.2.1,n21.1,n73,cm.1,n74,n63,n22.1,n75,n62.1,n92,bo.1,n9,n8,n7,n6,n4,n3,Jc.2)) λx=>sum x (λd=>ret (ww (w7 ()))) λd=>ret (w7 ((d.1.1,d.1.2.1,wI (d.1.2.2.1+1)),d.2.1,d.2.2.2.2)))) (opt (abx bB.2.1 bB.2.2 false) λlG=>opt (p6 ((n33,n58,n34.2,0),aJ.1,bB.1,lG.1,n70,n69.1,n69.2.1,n21.1,n73,cm.1,n74,n63,n22.1,n75,n62.1,n92,bo.1,n9,n8,n7,n6,n4,n3,Jc.2)) λx=>sum x (λd=>ret (ww (w7 ()))) λd=>ret (w7 ((d.1.1,d.1.2.1,wI (d.1.2.2.1+1)),d.2.1,d.2.2.2.2)))))) no) no) no) no) no) no) no) no) no) no) no) no) no) no) no) no) no) no)) no) no) no) no) no) no) no) no) no) no) (ret (ww (ww (w7 ((n33,n34.1,n34.2,y1,y4,y2,n82.2.1,y3),(n82.1,n82.2.2),n59)))))) (ret (ww (ww (ww (w7 ((n33,n34.1,n34.2,y1,y4,y2),d.2))))))) (ret (ww (ww (ww (ww ((n33,n34.1,n34.2,y1,y4),d.2))))))
def NP:=bG (NO jI uY jO Jh SI SB NN) 2000
def Ut (aMB:aio)(aPJ:aoE)(aof:RL)(dX:LT mE Am)(x:qM.B):Pg Us:=opt aMB λd=>ae (!d) (ret false) (opt (aPJ x.1) λd=>ae (match d with|w7 val=>true|ww val=>false) (opt (match d with|w7 a=>some a|ww val=>none) λd=>opt (aof x.1) λd=>ret !d) (opt (match d with|ww b=>some b|w7 val=>none) λd=>let cm:=d.1.2.2;let n6:=cm.2.2.2.2;let n15:=n6.2.2.2;let n4:=d.2.2.2;let n8:=n4.2.2.2.2.2;let n2:=n15.2.2.2.2;let n16:=n2.2.2.2;let n5:=n16.2.2.2.2;let bM:=n5.2.2.2.2;let n1:=n8.2.2.2.2;let bk:=n1.2.1;let n7:=n1.2.2;let bo:=n7.2.1;let n3:=n7.2.2;let bH:=n3.2.1;let n9:=n3.2.2;opt (dX ((x.2,false,0),(0,0,false),((d.1.1,d.1.2.1,cm.1,cm.2.1,(cm.2.2.1,cm.2.2.2.1,n6.1,n6.2.1,n6.2.2.1,n15.1),(n15.2.1,n15.2.2.1,n15.2.2.2.1,n2.1,n2.2.1,n2.2.2.1),n16.1,n16.2.1,n16.2.2.1,n16.2.2.2.1,n5.1,n5.2.1,n5.2.2.1,n5.2.2.2.1,bM.1,bM.2.1),bM.2.2.1,bM.2.2.2.1,bM.2.2.2.2,(0,0),(0,0,false,false),false,0,(0,0,0),false,false,false,0,0,0,((1073741824,0,0,0),(0,0,0),0,0,0),0),((d.2.1.1,d.2.1.2.1,d.2.1.2.2.1),d.2.1.2.2.2),(d.2.2.1,(0,0,(0,0,0),0,0,0),false),(0,n4.1,n4.1,n4.1,n4.1,n4.1,n4.1,n4.1,n4.1),((0,0,0,0,0),n4.2.1,0, -9223372036854775808),((0,0,0,0,0),n4.2.2.1,0, -9223372036854775808),((0,0,0,0,0),n4.2.2.2.1,0, -9223372036854775808),((0,0,0,0,0),n4.2.2.2.2.1,0, -9223372036854775808),((0,0,0,0,0),n8.1,0, -9223372036854775808),((0,0,0,0,0),n8.2.1,0, -9223372036854775808),(n8.2.2.1,0),(n8.2.2.2.1.1,n8.2.2.2.1.2,0),(0,n4.1,n4.1,n4.1,n4.1,n4.1,n4.1,n4.1,n4.1,n4.1,n4.1),(0,n1.1,n1.1,n1.1,n1.1,n1.1,n1.1,n1.1,n1.1,n1.1),(0,bk,bk,bk,bk,bk,bk,bk,bk,bk),(0,n7.1,n7.1,n7.1,n7.1,n7.1,n7.1,n7.1,n7.1,n7.1),(0,bo,bo,bo,bo,bo,bo,bo,bo,bo),(0,n3.1,n3.1,n3.1,n3.1,n3.1,n3.1,n3.1,n3.1,n3.1),(0,bH,bH,bH,bH,bH,bH,bH,bH,bH),0,n9,n9,n9,n9,n9,n9,n9,n9,n9,n9,n9)) λx=>sum x (λd=>ret false) λx=>sum x (λd=>ret true) λx=>sum x (λd=>ret true) λd=>ret true))
def yX:=λx=>(Ut V3 SE pw NP x).val
abbrev Ee:=aio×aoE×RL×NL×Iw×Gy×adK×aoJ×aoA×(LT kq ui)×(LT mE Am)
def J2 (p:Ee):KK:=⟨[axh p.1,aB3 p.2.1,anU p.b.1,abt p.b.2.1,U4 p.c.1,Gz p.c.2.1,asn p.c.b.1,aB9 p.c.b.2.1,aB1 p.d.1],⟨[⟨8,(0::2::rg 9 81 [8]),[(0,[])]⟩,⟨19,(0::2::9::10::11::rg 14 76 []),[(0,[])]⟩],[fU 19 0 kq abv p.d.2.1,fU 8 0 mE abw p.d.b],[],[],(some ⟨0,(rg 0 4 (rg 5 85 [])),[]⟩)⟩,0,10⟩
theorem aum (p:Ee):LI (J2 p) 19 kq abv (NM):=λ_ d c K=>by kernel_rfl
theorem aun (p:Ee):LI (J2 p) 8 mE abw (NO p.b.2.1 p.c.1 p.c.2.1 p.c.b.1 p.c.b.2.1 p.d.1 p.d.2.1):=λ_ d c K=>by kernel_rfl
theorem aDr (p:Ee):D2 (J2 p) qM (lf Qg) λb=>Ut p.1 p.2.1 p.b.1 p.d.b b:=λb=>by kernel_rfl
abbrev J3:Ee:=(V3,SE,pw,jI,uY,jO,Jh,SI,SB,NN,NP)
theorem aDs [aA]:SC (aDq yX):=sc (kS (k:=J2 J3) (.c aMA (.c aPl (.c aBD (.c axa (.c apT (.c R8 (.c aIt (.c aPH (.c aPj (.nil _)))))))))) [8,19] [] ⟨kL (aun J3),⟨kL (aum J3),trivial⟩⟩ trivial (aDr J3))
end Go.Proofs.YtldgljclcgaibaaGreat
namespace Go.Proofs.YtldgljclcgaibaaGreat
open Go.Ab Go.Ab.Pg
theorem aUl {α:Type}{o:Option α}{v:α}(h:o=some v):Ok o (λr=>r=v):=⟨v,h,rfl⟩
theorem apa (w d:kq.B)(nn:∀k:Nat,k<24->0<=w.2.2.2.1 k)(hd:0<=d.1.2.2.2/\d.1.2.2.2<=24/\d.1.1=w.1.1/\d.1.2.1=w.1.2.1/\d.1.2.2.1=w.1.2.2.1/\d.2=w.2):Ok (NN d) (λx:ui=>match x with|.inl _=>False|.inr x=>x.1.1=w.1.1/\x.1.2.1=w.1.2.1/\x.1.2.2.1=w.1.2.2.1/\x.2=w.2):=
 uK (s:=_) (λd:kq.B=>0<=d.1.2.2.2/\d.1.2.2.2<=24/\d.1.1=w.1.1/\d.1.2.1=w.1.2.1/\d.1.2.2.1=w.1.2.2.1/\d.2=w.2) (λd:kq.B=>z4 (24-d.1.2.2.2)) (λx:ui=>match x with|.inl _=>False|.inr x=>x.1.1=w.1.1/\x.1.2.1=w.1.2.1/\x.1.2.2.1=w.1.2.2.1/\x.2=w.2) (λd hd=>by
  obtain⟨i0,i1,e0,e1,e2,e3⟩:=hd;unfold NM;dsimp only;rw[aM];refine⟨λc=> ?_,λ_=>by rw[aw];exact⟨e0,e1,e2,e3⟩⟩;have c:=dh c;have hw:wI (d.1.2.2.2+1)=d.1.2.2.2+1:=bf;have r0:aZ d.1.2.2.2 24=true:=by rw[bp];omega
  have e4:d.2.2.2.1=w.2.2.2.1:=eC (λz=>z.2.2.1) e3;have n0:=nn (z4 d.1.2.2.2) (by omega);rw[r0,hw,aD,e4];rw[aM];refine⟨λq=>absurd (dh q) (by omega),λ_=> ?_⟩;rw[aw];exact⟨⟨by show 0<=d.1.2.2.2+1;omega,by show d.1.2.2.2+1<=24;omega,e0,e1,e2,e3⟩,by show z4 (24-(d.1.2.2.2+1))<z4 (24-d.1.2.2.2);omega⟩) 2000 d hd (by omega)
theorem aWi (N:Nat)(h1:1<=N)(hN:N<=1999)(B:Int)(hB:B<=64):∀(d:mE.B) (hd:0<=d.1.2.2/\d.1.2.2<=30/\IS N B (40*d.1.2.2) d.2.2.1.2.2.2.2.1 d.2.2.1.2.2.2.2.2.2.2.2.2.2.2.2.2.1 d.2.2.2.2.1.2.1.1 d.2.2.2.2.1.2.2 d.2.2.2.2.2.1.2.1 d.2.2.2.2.2.2.1 d.2.2.2.2.2.2.2.1 d.2.2.2.2.2.2.2.2.1 d.2.2.2.2.2.2.2.2.2.1 d.2.2.2.2.2.2.2.2.2.2.1 d.2.2.2.2.2.2.2.2.2.2.2.1 d.2.2.2.2.2.2.2.2.2.2.2.2.2.1/\GF d.2.2.1.2.2.1 d.2.2.1.2.2.2.1 d.2.2.1.2.2.2.2.2.1 d.2.2.1.2.2.2.2.2.2.2.2.2.2.2.2.2.2.2.1/\(d.1.2.1=true->d.2.2.1.2.1=true)),Ok (NP d) (λx:Am=>match x with|.inl _=>False|.inr _=>True):=
 bT (λd:mE.B=>z4 (30-d.1.2.2)) (λd hd=>by
  obtain⟨i0,i1,is,g,hs⟩:=hd;unfold NO;dsimp only;rw[aM];refine⟨λc0=> ?_,λ_=>by rw[aw];exact trivial⟩;rw[aM];refine⟨λc1=> ?_,λ_=>by rw[aw];exact trivial⟩;rw[aM];refine⟨λc2=> ?_,λ_=>by rw[aw];exact trivial⟩;have c0:=dh c0;rw[dQ] at c0;have c1:=dh c1;have r0:aZ d.1.2.2 d.1.1.1=true:=by rw[bp];omega
  have hw:wI (d.1.2.2+1)=d.1.2.2+1:=bf;rw[r0,aD];simp only[aS];repeat rw[aD]
  with_reducible refine ax (a26 N h1 hN B hB (40*d.1.2.2) (by omega) d.2.2.1.2.2.2.2.1 d.2.2.2.2.2.1.2.1 _ ?_ ?_ ?_ ?_) λr _ hr=> ?_
  .rfl
  .rfl
  .exact is
  .exact g
  cases r with
  |inl e=>
   obtain⟨h1',h2,h3⟩:=hr;simp only[aD,qB,cz];with_reducible refine ax (aUl (rfl:uY _=some _)) λst _ hst=> ?_
   subst hst;repeat rw[aD]
   with_reducible refine ax (aCb _) λss _ hss=> ?_
   with_reducible refine ax (axd _ ?_) λq1 _ k1=> ?_
   .exact h2.1
   rw[k1,show(!true)=false from rfl,qB];with_reducible refine ax (aHc _ _ ?_) λq2 _ k2=> ?_
   .exact h2.2.1
   rw[k2,show(!true)=false from rfl,qB];have hss:ss.2.2.2.2.2.2.2.2.1=e.1.2.2.1:=hss;rw[aM];refine⟨λcs=> ?_,λcs=> ?_⟩
   .have e8:ss.2.2.2.2.2.2.2.2.1=true:=hss.trans (h3 (hs cs));rw[e8,show(!true)=false from rfl,qB];with_reducible refine ax (axe _ _ _ ?_) λw7 _ nn=> ?_
    .exact λk hk=>LK (by decide:(0:Int)<=1) (h2.2.1.2 k hk).1
    refine ax (apa _ _ nn ⟨dZ 0,(show(0:Int)<=24 by decide),rfl,rfl,rfl,rfl⟩) λy _ hy=> ?_;rw[og];refine⟨λz hz=>by subst hz;exact absurd hy id,λz hz=> ?_⟩;subst hz;obtain⟨⟨zs,zt,zi,zk⟩,zr⟩:=z;obtain⟨_,_,e2,e3⟩:=hy;have e2:zi=_:=e2;have e3:zr=_:=e3;subst e2 e3;rw[aw]
    exact⟨⟨by show 0<=wI (d.1.2.2+1);rw[hw];omega,by show wI (d.1.2.2+1)<=30;rw[hw];omega,by
     have h:=h1';rw[show 40*d.1.2.2+40=40*wI (d.1.2.2+1) by rw[hw];omega] at h;exact h,h2,λ_=>h3 (hs cs)⟩,by show z4 (30-wI (d.1.2.2+1))<z4 (30-d.1.2.2);rw[hw];omega⟩
   .with_reducible refine ax (axe _ _ _ ?_) λw7 _ nn=> ?_
    .exact λk hk=>LK (by decide:(0:Int)<=1) (h2.2.1.2 k hk).1
    refine ax (apa _ _ nn ⟨dZ 0,(show(0:Int)<=24 by decide),rfl,rfl,rfl,rfl⟩) λy _ hy=> ?_;rw[og];refine⟨λz hz=>by subst hz;exact absurd hy id,λz hz=> ?_⟩;subst hz;obtain⟨⟨zs,zt,zi,zk⟩,zr⟩:=z;obtain⟨_,e1,e2,e3⟩:=hy;have e1:zt=_:=e1;have e2:zi=_:=e2;have e3:zr=_:=e3;subst e1 e2 e3;rw[aw]
    exact⟨⟨by show 0<=wI (d.1.2.2+1);rw[hw];omega,by show wI (d.1.2.2+1)<=30;rw[hw];omega,by
     have h:=h1';rw[show 40*d.1.2.2+40=40*wI (d.1.2.2+1) by rw[hw];omega] at h;exact h,h2,λq=>hss.symm.trans q⟩,by show z4 (30-wI (d.1.2.2+1))<z4 (30-d.1.2.2);rw[hw];omega⟩
  |inr e=>
   obtain⟨h1',h2,h3⟩:=hr;simp only[aD,qB,cz];with_reducible refine ax (aUl (rfl:uY _=some _)) λst _ hst=> ?_
   subst hst;repeat rw[aD]
   with_reducible refine ax (aCb _) λss _ hss=> ?_
   with_reducible refine ax (axd _ ?_) λq1 _ k1=> ?_
   .exact h2.1
   rw[k1,show(!true)=false from rfl,qB];with_reducible refine ax (aHc _ _ ?_) λq2 _ k2=> ?_
   .exact h2.2.1
   rw[k2,show(!true)=false from rfl,qB];have hss:ss.2.2.2.2.2.2.2.2.1=e.2.1.2.1:=hss;rw[aM];refine⟨λcs=> ?_,λcs=> ?_⟩
   .have e8:ss.2.2.2.2.2.2.2.2.1=true:=hss.trans (h3 (hs cs));rw[e8,show(!true)=false from rfl,qB];with_reducible refine ax (axe _ _ _ ?_) λw7 _ nn=> ?_
    .exact λk hk=>LK (by decide:(0:Int)<=1) (h2.2.1.2 k hk).1
    refine ax (apa _ _ nn ⟨dZ 0,(show(0:Int)<=24 by decide),rfl,rfl,rfl,rfl⟩) λy _ hy=> ?_;rw[og];refine⟨λz hz=>by subst hz;exact absurd hy id,λz hz=> ?_⟩;subst hz;obtain⟨⟨zs,zt,zi,zk⟩,zr⟩:=z;obtain⟨_,_,e2,e3⟩:=hy;have e2:zi=_:=e2;have e3:zr=_:=e3;subst e2 e3;rw[aw]
    exact⟨⟨by show 0<=wI (d.1.2.2+1);rw[hw];omega,by show wI (d.1.2.2+1)<=30;rw[hw];omega,by
     have h:=h1';rw[show 40*d.1.2.2+40=40*wI (d.1.2.2+1) by rw[hw];omega] at h;exact h,h2,λ_=>h3 (hs cs)⟩,by show z4 (30-wI (d.1.2.2+1))<z4 (30-d.1.2.2);rw[hw];omega⟩
   .with_reducible refine ax (axe _ _ _ ?_) λw7 _ nn=> ?_
    .exact λk hk=>LK (by decide:(0:Int)<=1) (h2.2.1.2 k hk).1
    refine ax (apa _ _ nn ⟨dZ 0,(show(0:Int)<=24 by decide),rfl,rfl,rfl,rfl⟩) λy _ hy=> ?_;rw[og];refine⟨λz hz=>by subst hz;exact absurd hy id,λz hz=> ?_⟩;subst hz;obtain⟨⟨zs,zt,zi,zk⟩,zr⟩:=z;obtain⟨_,e1,e2,e3⟩:=hy;have e1:zt=_:=e1;have e2:zi=_:=e2;have e3:zr=_:=e3;subst e1 e2 e3;rw[aw]
    exact⟨⟨by show 0<=wI (d.1.2.2+1);rw[hw];omega,by show wI (d.1.2.2+1)<=30;rw[hw];omega,by
     have h:=h1';rw[show 40*d.1.2.2+40=40*wI (d.1.2.2+1) by rw[hw];omega] at h;exact h,h2,λq=>hss.symm.trans q⟩,by show z4 (30-wI (d.1.2.2+1))<z4 (30-d.1.2.2);rw[hw];omega⟩
) (λd hd=>by omega)
theorem aWj (x:KQ.B):Po (AR x) (λr:P7=>match r with|.inl _=>pw x=some false|.inr _=>True):=by
 unfold AR Y';try dsimp only
 show PW _ _;try dsimp only
 rw[bJ];intro g hg;rw[bz];refine⟨λc=> ?_,λ_=> ?_⟩
 .have g0:g=false:=by
   cases g with
   |false=>rfl
   |true=>cases c
  rw[aW,<-g0];exact hg
 .repeat' (first
   |(rw[dz];exact trivial)
   |(rw[bz];refine⟨λ_=> ?_,λ_=> ?_⟩)
   |(rw[pO];refine⟨λe0 e1=> ?_,λe0 e1=> ?_⟩)
   |(rw[bJ];intro _ _))
  all_goals (rw[aW];exact trivial)
theorem aWk (x:SD.B):Ok (SE x) (λr:abq=>match r with|.inl _=>pw x=some false|.inr e=>(1<=x.2.2.1/\x.2.2.1<=64/\1<=x.2.2.2.2.2.2.2.2.2.2.2.2.1/\x.2.2.2.2.2.2.2.2.2.2.2.2.1<=64)/\e.2.2.2.2.1=x.2.2.1/\e.2.2.2.2.2.1=x.2.2.1/\e.2.2.2.2.2.2.1=x.2.2.1/\e.2.2.2.2.2.2.2.1=x.2.2.1/\e.2.2.2.2.2.2.2.2.1=x.2.2.1/\e.2.2.2.2.2.2.2.2.2.1=x.2.2.1/\e.2.2.2.2.2.2.2.2.2.2.2.1.1=x.2.2.2.2.2.2.2.2.2.2.2.2.1/\Iv e.1.2.2.2.2.2.2.2.2.2.2.2.2.2.2.2.2.2.2.2.2.2.2.2.2.2.2.2.1/\uD e.1.2.2.2.2.2.2.2.2.2.2.2.2.2.2.2.2.2.2.2.2.2.2.2.2.2.2.2.2):=by
 obtain⟨r,g,hr,aPK,hgf⟩:=(a2r x).with ((aWj x).and (a43 x))
 unfold SE aoF;show PQ _ _;rw[g,cz];cases r with
 |inl a=>
  have aPK:pw x=some false:=aPK;simp only[aD,cz,aw];exact aPK
 |inr a=>
  obtain⟨b0,b1,o0,o1,s0,s1,s2,s3,s4,s5,u⟩:=hr;obtain⟨gs,gv⟩:Iv a.1.2.2.2.2.2.2.2.2.2.2.2.2.2.2.2.2.2.2.2.2.2.2.2.2.2.2.2.1/\uD a.1.2.2.2.2.2.2.2.2.2.2.2.2.2.2.2.2.2.2.2.2.2.2.2.2.2.2.2.2:=hgf;simp only[qB,cz,aw];exact⟨⟨b0,b1,o0,o1⟩,s0,s1,s2,s3,s4,s5,u,gs,gv⟩
theorem aMC (x:qM.B):Ok (yX x) (λr:Us=>r=true):=by
 unfold yX Ut;try dsimp only
 show PQ _ _;rw[show V3=some true from rfl,cz,show(!true)=false from rfl,qB];refine ax (aWk _) λr _ hr=> ?_;cases r with
 |inl a=>
  have aPK:pw x.1=some false:=hr;simp only[aD,cz,aPK,aw,Bool.not_false]
 |inr a=>
  obtain⟨⟨b0,b1,o0,o1⟩,s0,s1,s2,s3,s4,s5,u,gs,gv⟩:=hr;simp only[qB,cz];obtain⟨N,hN⟩:∃N:Nat,x.1.2.2.2.2.2.2.2.2.2.2.2.2.1=(N:Int):=⟨z4 x.1.2.2.2.2.2.2.2.2.2.2.2.2.1,(Int.toNat_of_nonneg (by omega)).symm⟩;have pb:∀y:Int,y=x.1.2.2.1->Pb x.1.2.2.1 ((0,0,0,0,0),y,0, -9223372036854775808):=λy e=>⟨e,by show((0:Nat):Int)<=x.1.2.2.1;omega⟩
  with_reducible refine ax (aWi N (by omega) (by omega) x.1.2.2.1 b1 _ ⟨?_,?_,?_,?_,?_⟩) λy _ hy=> ?_
  .exact dZ 0
  .show(0:Int)<=30;decide
  .exact⟨dZ 0,⟨λ_=>dZ 0,dZ 0,λi k _ h=>absurd h (Nat.not_lt_zero _)⟩,pb _ s0,pb _ s1,pb _ s2,pb _ s3,pb _ s4,pb _ s5,u.trans hN,Nat.zero_le _⟩
  .exact⟨gs,gv,.inl ⟨.inl rfl,rfl,rfl,rfl⟩,aDH⟩
  .exact λh=>Bool.noConfusion h
  rw[og];refine⟨λz hz=>by subst hz;exact absurd hy id,λz hz=> ?_⟩
  repeat' (first
   |(rw[og];refine⟨λ_ _=> ?_,λ_ _=> ?_⟩)
   |rw[aw])
theorem a3b (x:qM.B):yX x=some true:=by
 obtain⟨r,e,h⟩:=aMC x;rw[e,h]
end Go.Proofs.YtldgljclcgaibaaGreat
