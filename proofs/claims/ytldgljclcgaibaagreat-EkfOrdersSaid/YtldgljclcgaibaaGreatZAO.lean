/-
  Parts of the proof: TDg TDh TWk QA N6 EOd EOe
-/
import Derived.Test.YtldgljclcgaibaaGreatZAE
import Derived.Test.YtldgljclcgaibaaGreatZAG
import Derived.Test.YtldgljclcgaibaaGreatZAL
import Derived.Test.YtldgljclcgaibaaGreatZAM
import Derived.Test.YtldgljclcgaibaaGreatZAN
open Nat renaming beq→ww,ble→wl
open Int renaming toNat→wt,ofNat→wn,tdiv→t6
open Sum renaming inl→ws,inr→wr
open BitVec renaming ofInt→wd,toNat→ul
open List renaming range→rx
set_option linter.all false
set_option maxRecDepth 100000
set_option maxHeartbeats 4000000
namespace Go.Proofs.YtldgljclcgaibaaGreat
open Go.Ab Go.Ab.Pg
theorem G7 {α:Type}(f:Nat->α)(y j:Nat)(v:α):(bif ww j y then v else f j)=if j=y then v else f j:=by
 by_cases h:j=y
 .rw[if_pos h,h,SO];rfl
 .rw[if_neg h];cases e:ww j y
  .rfl
  .exact absurd (mO e) h
theorem aD1 {α:Type}(i y:Nat)(a b:α):(bif ww i y then a else b)=if i=y then a else b:=by
 exact G7 (λ_=>b) y i a
def okV (d:Int):Prop:=d=17592186044416∨d=68719476736∨d=67108864∨d=4294967296∨d=17179869184
theorem okV.le {d:Int}(h:okV d):1<=d/\d<=72057594037927936:=by
 rcases h with rfl|rfl|rfl|rfl|rfl<;>decide
theorem af6 (x lo hi:Int)(b:Bool)(h:lo<=x)(k:x<=hi):bc x lo hi b=some (x,b):=by
 have h1:decide (lo>hi)=false:=cG (by omega);have h2:decide (x<lo)=false:=cG (by omega);have h3:decide (x>hi)=false:=cG (by omega);unfold bc xr;rw[h1,h2,h3];rfl
theorem Q6 {x:Int}(h: -1152921504606846976<=x/\x<=1152921504606846976):sat x=x:=(aTq h).1
theorem I0 {x:Int}(h: -1152921504606846976<=x/\x<=1152921504606846976):fH x=false:=(aTq h).2
theorem aMw (w x:Int)(b:Bool)(hw:w=0∨w=1073741824)(hx: -1152921504606846976<=x/\x<=1152921504606846976):aV w x 30 b=some (if w=0 then 0 else x,b):=by
 have h:=aOu w x 30 b (by decide);have e1:sat w=w:=Q6 (by omega);have e2:fH w=false:=I0 (by omega)
 have r:MO (w*x) 30=(if w=0 then 0 else x):=by
  rcases hw with rfl|rfl
  .rw[agp,if_pos rfl];rfl
  .rw[if_neg (by decide),Ag];exact aOw x
 have hr: -1152921504606846976<=(if w=0 then 0 else x)/\(if w=0 then 0 else x)<=1152921504606846976:=by split<;>omega
 rw[e1,e2,Q6 hx,I0 hx,r,Q6 hr,I0 hr,SM,SM,SM] at h;exact h
theorem div_zero (d:Int)(b:Bool)(h:okV d):bu 0 d 30 b=some (0,b):=by
 rcases h with rfl|rfl|rfl|rfl|rfl<;>cases b<;>kernel_rfl
theorem sub_zero (x:Int)(b:Bool)(h: -1152921504606846976<=x/\x<=1152921504606846976):bQ x 0 b=some (x,b):=by
 have z:sat 0=0:=Q6 (by decide);have zo:fH 0=false:=I0 (by decide);simp only[bQ,Io,Pg.cq,Pg.cg,p6,bM,Q6 h,I0 h,z,zo,SM,Int.sub_zero];rw[dS (by omega) (by omega),Q6 h,I0 h,SM]
theorem aCu {f g:Nat->Int}:∀n,(∀j,j<n->f j=g j)->zT f n=zT g n
 |0,_=>rfl
 |n+1,h=>by
  show zT f n+f n=zT g n+g n;rw[aCu n (λj hj=>h j (by omega)),h n (by omega)]
theorem aPo {f:Nat->Bool}:∀n,(∀j,j<n->f j=false)->Fw f n=false
 |0,_=>rfl
 |n+1,h=>by
  show(Fw f n||f n)=false;rw[aPo n (λj hj=>h j (by omega)),h n (by omega)];rfl
theorem aJY {f:Nat->Int}(k:Nat):∀n,(∀j,j<n->j≠k->f j=0)->zT f n=if k<n then f k else 0
 |0,_=>by rw[if_neg (by omega)];rfl
 |n+1,h=>by
  show zT f n+f n=_;rw[aJY k n (λj hj=>h j (by omega))];by_cases e:n=k
  .subst e;rw[if_neg (by omega),if_pos (by omega),ate]
  .rw[h n (by omega) e,Int.add_zero];by_cases c:k<n
   .rw[if_pos c,if_pos (by omega)]
   .rw[if_neg c,if_neg (by omega)]
theorem aHc (n k:Nat)(hn:n<=100)(hk:k<n)(V:Int)(b w w':Bool)(f g:Nat->Int)(hf:∀j,j<n-> -1152921504606846976<=f j/\f j<=1152921504606846976)(hg:∀j,j<n-> -1152921504606846976<=g j/\g j<=1152921504606846976)
  (hz:∀j,j<n->j≠k->f j*g j=0)(hV:f k*g k=V*1073741824)(r: -1152921504606846976<=V/\V<=1152921504606846976):bz 30 n n b f g w w'=some (V,b):=by
 have h:=aOv 30 (by decide) n hn b f g w w'
 have e:zT (λj=>sat (f j)*sat (g j)) n=V*1073741824:=by
  rw[aCu n (λj hj=>by show sat (f j)*sat (g j)=f j*g j;rw[Q6 (hf j hj),Q6 (hg j hj)]:∀j,j<n->(λj=>sat (f j)*sat (g j)) j=(λj=>f j*g j) j),aJY k n hz,if_pos hk,hV]
 have a:Fw (λj=>fH (f j)||fH (g j)) n=false:=aPo n λj hj=>by
  show(fH (f j)||fH (g j))=false;rw[I0 (hf j hj),I0 (hg j hj)];rfl
 rw[e,a,aOw,Q6 r,I0 r,SM,SM] at h;exact h
theorem aZj (x:Int)(b:Bool)(h:1<=x)(k:x<=72057594037927936):nd x b=some (x,b):=by
 unfold nd Jg;rw[Pg.cq,af6 x 1 72057594037927936 b h k];rfl
theorem aZk (x:Int)(b:Bool)(h:1<=x)(k:x<=72057594037927936):o6 x b=some (x,b):=by
 unfold o6 Eu;rw[Pg.cq,af6 x 1 72057594037927936 b h k];rfl
theorem a0K (x:Int)(h:0<=x)(k:x<24):xY x=some true:=by
 have h1:decide (x>=0)=true:=dA h;have h2:decide (x<24)=true:=dA k;unfold xY Rr;rw[h1,h2];rfl
theorem a0L:∀j:Nat,j<24->0<=wI (t6 (wI ((j:Int)*wI ((j:Int)-1))) 2)/\wI (t6 (wI ((j:Int)*wI ((j:Int)-1))) 2)+(j:Int)<=276+(if j=0 then 1 else 0):=by decide
theorem aVn {i j:Int}{d:Vo}(h:jD i j=some d)(ok:d.2=true):0<=d.1/\d.1<276:=by
 simp only[jD,GH,cg,bN] at h;by_cases h0:0<=i
 .by_cases h1:i<j
  .simp only[Gs,h0,h1,I1,bn,gS] at h;subst h;have h2:j<24:=dq ok;obtain⟨n,rfl⟩:=Int.eq_ofNat_of_zero_le (by omega:0<=j);obtain⟨k1,k2⟩:=a0L n (by omega);rw[if_neg (by omega)] at k2;generalize wI (t6 (wI ((n:Int)*wI ((n:Int)-1))) 2)=c at*
   show 0<=wI (c+i)/\wI (c+i)<276;rw[dS (by omega) (by omega)];omega
  .simp only[Gs,h0,h1,I1,JM,bn,bA,gS] at h;subst h;cases ok
 .simp only[Gs,h0,JM,bA,gS] at h;subst h;cases ok
theorem aJZ (i j:Nat)(h:i<j)(k:j<24):∃p:Int,jD i j=some (p,true)/\0<=p/\p<276:=by
 have c1:decide ((i:Int)>=0)=true:=dA (by omega);have c2:decide ((i:Int)<(j:Int))=true:=dA (by omega);have c3:decide ((j:Int)<24)=true:=dA (by omega)
 have e:jD i j=some (wI (wI (t6 (wI ((j:Int)*wI ((j:Int)-1))) 2)+(i:Int)),true):=by
  unfold jD GH;rw[c1,c2,c3];rfl
 refine⟨_,e,?_⟩;have:=aVn e rfl;exact this
theorem aPp (U D:Nat->Int)(hU:∀p,p<276->U p=0)(i j:Nat)(h:i<=j)(k:j<24):Fb U D i j=some (if i=j then 1073741824 else 0):=by
 unfold Fb av0;by_cases e:i=j
 .subst e;have c0:((i:Int)==(i:Int))=true:=by simp
  have c1:decide ((i:Int)>=0)=true:=dA (by omega);have c2:decide ((i:Int)<24)=true:=dA (by omega);rw[c0,c1,c2,if_pos rfl];rfl
 .have c0:((i:Int)==(j:Int))=false:=by simp;omega
  obtain⟨p,hp,p0,p1⟩:=aJZ i j (by omega) k;have c1:aX p 276=true:=by rw[bk];omega
  have c2:wl (0+wt p*1+1) 276=true:=by rw[bW];omega
  rw[c0,if_neg e,Pg.bN,bA,Pg.cq,hp,bM];simp only[DV,c1,c2,Pg.bN,bA,bn,Pg.cg];rw[hU _ (by omega)]
theorem aIx (D:Nat->Int)(i j:Nat)(h:i<j)(k:j<24):zd (λ_=>0) D i j 0=some (λ_=>0,D):=by
 obtain⟨p,hp,p0,p1⟩:=aJZ i j h k;have c1:aX p 276=true:=by rw[bk];omega
 have c2:(wl (0+wt p*1+1) 276&&wl (0+wt p*1+1) 300)=true:=by rw[cj,bW,bW];omega
 unfold zd ahw;rw[Pg.cq,hp,bM];dsimp only;rw[c1,c2];simp only[Pg.bN,bn,Pg.cg];have e:(λj:Nat=>bif ww j (wt p) then(0:Int) else 0)=λ_=>0:=funext λj=>by cases ww j (wt p)<;>rfl
 exact c8 some (Prod.ext e rfl)
theorem a2h (b:Bool)(D:Nat->Int)(hD:∀i,i<24->1<=D i/\D i<=72057594037927936):∀(d:gD.B) (hd:0<=d.1/\d.1<=24/\d.2.1=b/\(∀p,p<276->d.2.2.1.1 p=0)/\∀i,i<24->d.2.2.1.2 i=D i),Ok (BJ d) (λx:qz=>x.2.1=b/\(∀p,p<276->x.2.2.1.1 p=0)/\∀i,i<24->x.2.2.1.2 i=D i):=
 bq (λd:gD.B=>wt (24-d.1)) (λd hd=>by
  obtain⟨i0,i1,i2,i3,i4⟩:=hd;have hw:wI (d.1+1)=d.1+1:=aY;unfold BI;dsimp only;rw[aK];refine⟨λh=> ?_,λ_=>by rw[av];exact⟨i2,i3,i4⟩⟩;have h:=dq h;have r0:aX d.1 24=true:=by rw[bk];omega
  have r1:(true&&wl (276+wt d.1*1+1) 300)=true:=by rw[oK,bW];omega
  have k:=i4 (wt d.1) (by omega);have hd:=hD (wt d.1) (by omega);rw[r0,aC,aZj _ _ (by omega) (by omega),bX,aC,r1,aC,av,hw];refine⟨⟨by show 0<=d.1+1;omega,by show d.1+1<=24;omega,i2,i3,λi hi=> ?_⟩,by show wt (24-(d.1+1))<_;omega⟩;show(bif ww i (wt d.1) then d.2.2.1.2 (wt d.1) else d.2.2.1.2 i)=D i;rw[G7];split
  .rename_i e;rw[e,k]
  .exact i4 i hi) (λd hd=>by omega)
theorem a2i (b:Bool)(D:Nat->Int):∀(d:gE.B) (hd:0<=d.1/\d.1<=276/\d.2.1=b/\(∀p,p<276->d.2.2.1.1 p=0)/\∀i,i<24->d.2.2.1.2 i=D i),Ok (BL d) (λx:qA=>x.2.1=b/\(∀p,p<276->x.2.2.1.1 p=0)/\∀i,i<24->x.2.2.1.2 i=D i):=
 bq (λd:gE.B=>wt (276-d.1)) (λd hd=>by
  obtain⟨i0,i1,i2,i3,i4⟩:=hd;have hw:wI (d.1+1)=d.1+1:=aY;unfold BK;dsimp only;rw[aK];refine⟨λh=> ?_,λ_=>by rw[av];exact⟨i2,i3,i4⟩⟩;have h:=dq h;have r0:aX d.1 276=true:=by rw[bk];omega
  have r1:wl (0+wt d.1*1+1) 276=true:=by rw[bW];omega
  have r2:wl (0+wt d.1*1+1) 300=true:=by rw[bW];omega
  rw[r0,r1,r2,i3 (wt d.1) (by omega),aC,aC,af6 0 _ _ _ (by decide) (by decide),bX,aC,oK,aC,av,hw];refine⟨⟨by show 0<=d.1+1;omega,by show d.1+1<=276;omega,i2,λi hi=> ?_,i4⟩,by show wt (276-(d.1+1))<_;omega⟩;show(bif ww i (wt d.1) then 0 else d.2.2.1.1 i)=0;rw[G7];split
  .rfl
  .exact i3 i hi) (λd hd=>by omega)
theorem aSu (U D:Nat->Int)(b:Bool)(hU:∀p,p<276->U p=0)(hD:∀i,i<24->1<=D i/\D i<=72057594037927936):Ok (fW U D b) (λr:OS=>r.2=b/\(∀p,p<276->r.1.1 p=0)/\∀i,i<24->r.1.2 i=D i):=by
 unfold fW GC;show PQ _ _;refine ay (a2h b D hD _ ⟨eZ 0,(show(0:Int)<=24 by decide),rfl,hU,λ_ _=>rfl⟩) λx _ hx=> ?_;refine ay (a2i b D _ ⟨eZ 0,(show(0:Int)<=276 by decide),hx⟩) λy _ hy=> ?_;rw[av];exact hy
theorem a2j (k:Nat)(hk:k<24)(w d:gF.B)(hU:∀p,p<276->w.2.2.2.1.1 p=0)(hd:0<=d.1.2.2.2/\d.1.2.2.2<=d.1.2.2.1/\d.1.2.2.1=(k:Int)+1/\d.1.1=k/\d.1.2.1=k/\d.2.1=w.2.1/\d.2.2.1=w.2.2.1/\d.2.2.2.1=w.2.2.2.1/\d.2.2.2.2.1=w.2.2.2.2.1/\∀m:Nat,m<24->d.2.2.2.2.2 m=if m=k/\(m:Int)<d.1.2.2.2 then 1073741824 else 0):Ok (BO d) (λx:qB=>x.1.1=k/\x.1.2.1=k/\x.2.1=w.2.1/\x.2.2.1=w.2.2.1/\x.2.2.2.1=w.2.2.2.1/\x.2.2.2.2.1=w.2.2.2.2.1/\∀m:Nat,m<24->x.2.2.2.2.2 m=if m=k then 1073741824 else 0):=by
 revert d
 exact bq (λd:gF.B=>wt (d.1.2.2.1-d.1.2.2.2)) (λd hd=>by
  obtain⟨i0,i1,i2,i3,i3',i4,i5,i6,i7,i8⟩:=hd;have hw:wI (d.1.2.2.2+1)=d.1.2.2.2+1:=aY;unfold BN;dsimp only;rw[aK];refine⟨λh=> ?_,λh=> ?_⟩
  .have h:=dq h;obtain⟨m,hm⟩:∃m:Nat,d.1.2.2.2=(m:Int):=⟨wt d.1.2.2.2,by omega⟩;have r0:aX d.1.2.2.2 24=true:=by rw[bk];omega
   have r1:(true&&wl (0+wt d.1.2.2.2*1+1) 24)=true:=by rw[oK,bW];omega
   rw[r0,r1,i6,i3,hm,aPp _ _ hU m k (by omega) hk,bX,aC,aC,av];rw[hm] at hw;rw[hw];refine⟨⟨by show 0<=(m:Int)+1;omega,by show(m:Int)+1<=d.1.2.2.1;omega,i2,rfl,i3',i4,i5,rfl,i7,λj hj=> ?_⟩,by show wt (d.1.2.2.1-((m:Int)+1))<_;omega⟩;show(bif ww j (wt (m:Int)) then(if m=k then 1073741824 else 0) else d.2.2.2.2.2 j)=if j=k/\(j:Int)<(m:Int)+1 then 1073741824 else 0
   rw[G7,i8 j hj,hm,Hr];by_cases e1:j=m
   .subst e1;rw[if_pos rfl];by_cases e2:j=k
    .rw[if_pos e2,if_pos ⟨e2,by omega⟩]
    .rw[if_neg e2,if_neg (λh=>e2 h.1)]
   .rw[if_neg e1];by_cases e2:j=k/\(j:Int)<(m:Int)
    .rw[if_pos e2,if_pos ⟨e2.1,by omega⟩]
    .rw[if_neg e2,if_neg (λh=>e2 ⟨h.1,by omega⟩)]
  .have h:=qk h;rw[av];refine⟨i3,i3',i4,i5,i6,i7,λm hm=> ?_⟩;show d.2.2.2.2.2 m=_;rw[i8 m hm];by_cases e:m=k
   .rw[if_pos e,if_pos ⟨e,by omega⟩]
   .rw[if_neg e,if_neg (λh=>e h.1)]) (λd hd=>by omega)
theorem a2k (F:Nat->Int)(hF:∀i,i<24->F i=0∨F i=1073741824)(k:Nat)(hk:k<24)(w d:gG.B)(hf:∀i k,i<24->k<24->w.2.2.1 (i*24+k)=if i=k then F i else 0)(hc:∀m:Nat,m<24->w.2.2.2.2.2 m=if m=k then 1073741824 else 0)(hd:0<=d.1.2.2/\d.1.2.2<=24/\d.1.1=k/\d.1.2.1=k/\d.2.1=w.2.1/\d.2.2.1=w.2.2.1/\d.2.2.2.1=w.2.2.2.1/\d.2.2.2.2.2=w.2.2.2.2.2/\∀i j,i<24->j<48->d.2.2.2.2.1 (i*48+j)=if i=j/\(j<k∨(j=k/\(k:Int)<d.1.2.2)) then F i else 0):Ok (BQ d) (λx:qC=>x.1.2.1=k/\x.2.1=w.2.1/\x.2.2.1=w.2.2.1/\x.2.2.2.1=w.2.2.2.1/\∀i j,i<24->j<48->x.2.2.2.2.1 (i*48+j)=if i=j/\j<k+1 then F i else 0):=by
 revert d
 exact bq (λd:gG.B=>wt (24-d.1.2.2)) (λd hd=>by
  obtain⟨i0,i1,i2,i3,i4,i5,i6,i7,i8⟩:=hd;have hw:wI (d.1.2.2+1)=d.1.2.2+1:=aY;unfold BP;dsimp only;rw[aK];refine⟨λh=> ?_,λh=> ?_⟩
  .have h:=dq h;obtain⟨m,hm⟩:∃m:Nat,d.1.2.2=(m:Int):=⟨wt d.1.2.2,by omega⟩;have aTD:m<24:=by omega
   have r0:aX d.1.2.2 24=true:=by rw[bk];omega
   have r1:aX d.1.1 48=true:=by rw[bk];omega
   have r2:(true&&wl (0+(wt d.1.2.2*48+wt d.1.1)*1+1) 1152)=true:=by rw[oK,bW];omega
   have bF:∀j,j<24-> -1152921504606846976<=F j/\F j<=1152921504606846976:=λj hj=>by have:=hF j hj;omega
   have dot:bz 30 24 24 d.2.1 (λj=>d.2.2.1 (0+wt d.1.2.2*24+j)) d.2.2.2.2.2 false false=some (if m=k then F k else 0,d.2.1):=by
    have fj:∀j,j<24->d.2.2.1 (0+wt d.1.2.2*24+j)=if m=j then F m else 0:=λj hj=>by
     rw[i5,hm,Hr,eX];exact hf m j aTD hj
    have gj:∀j,j<24->d.2.2.2.2.2 j=if j=k then 1073741824 else 0:=λj hj=>by rw[i7];exact hc j hj
    refine aHc 24 k (by decide) hk _ _ _ _ _ _ (λj hj=> ?_) (λj hj=> ?_) (λj hj e=> ?_) ?_ ?_
    .show -1152921504606846976<=d.2.2.1 (0+wt d.1.2.2*24+j)/\d.2.2.1 (0+wt d.1.2.2*24+j)<=1152921504606846976;rw[fj j hj];have:=bF m aTD;split<;>omega
    .rw[gj j hj];split<;>omega
    .show d.2.2.1 (0+wt d.1.2.2*24+j)*d.2.2.2.2.2 j=0;rw[gj j hj,if_neg e,Int.mul_zero]
    .show d.2.2.1 (0+wt d.1.2.2*24+k)*d.2.2.2.2.2 k=_;rw[fj k hk,gj k hk,if_pos rfl];by_cases e:m=k
     .subst e;rw[if_pos rfl]
     .rw[if_neg e,if_neg e]
    .have:=bF k hk;split<;>omega
   rw[r0,aC,dot,bX,aC,r1,aC,r2,aC,av,hw];refine⟨⟨by show 0<=d.1.2.2+1;omega,by show d.1.2.2+1<=24;omega,i2,i3,i4,i5,i6,i7,λi j hi hj=> ?_⟩,by show wt (24-(d.1.2.2+1))<_;omega⟩;show(bif ww (i*48+j) (wt d.1.2.2*48+wt d.1.1) then(if m=k then F k else 0) else d.2.2.2.2.1 (i*48+j))=if i=j/\(j<k∨(j=k/\(k:Int)<d.1.2.2+1)) then F i else 0
   rw[G7,i8 i j hi hj,hm,i2,Hr,Hr];by_cases e1:i*48+j=m*48+k
   .have ei:i=m:=by omega
    have ej:j=k:=by omega
    subst ei;subst ej;rw[if_pos e1];by_cases e2:i=j
    .subst e2;rw[if_pos rfl,if_pos ⟨rfl,Or.inr ⟨rfl,by omega⟩⟩]
    .rw[if_neg e2,if_neg (λh=>e2 h.1)]
   .rw[if_neg e1];by_cases e2:i=j/\(j<k∨(j=k/\(k:Int)<(m:Int)))
    .rw[if_pos e2,if_pos (by omega)]
    .rw[if_neg e2,if_neg (by omega)]
  .have h:=qk h;rw[av];refine⟨i3,i4,i5,i6,λi j hi hj=> ?_⟩;show d.2.2.2.2.1 (i*48+j)=_;rw[i8 i j hi hj];by_cases e:i=j/\(j<k∨(j=k/\(k:Int)<d.1.2.2))
   .rw[if_pos e,if_pos (by omega)]
   .rw[if_neg e,if_neg (by omega)]) (λd hd=>by omega)
theorem a2l (F:Nat->Int)(hF:∀i,i<24->F i=0∨F i=1073741824)(w d:gI.B)(hU:∀p,p<276->w.b.2.1.1 p=0)(hf:∀i k,i<24->k<24->w.b.1 (i*24+k)=if i=k then F i else 0)(hd:0<=d.1/\d.1<=24/\d.2.1=w.2.1/\d.b.1=w.b.1/\d.b.2.1=w.b.2.1/\∀i j,i<24->j<48->d.b.2.2 (i*48+j)=if i=j/\(j:Int)<d.1 then F i else 0):Ok (BV d) (λx:qE=>x.2.1=w.2.1/\x.b.1=w.b.1/\∀i j,i<24->j<48->x.b.2.2 (i*48+j)=if i=j/\j<24 then F i else 0):=by
 revert d
 exact bq (λd:gI.B=>wt (24-d.1)) (λd hd=>by
  obtain⟨i0,i1,i2,i3,i4,i5⟩:=hd;unfold BU;dsimp only;rw[aK];refine⟨λh=> ?_,λh=> ?_⟩
  .have h:=dq h;obtain⟨k,hk⟩:∃m:Nat,d.1=(m:Int):=⟨wt d.1,by omega⟩;have a1J:k<24:=by omega
   have hw:wI (d.1+1)=(k:Int)+1:=by rw[hk];exact aY (by omega) (by omega)
   refine ay (a2j k a1J ((d.1,d.1,wI (d.1+1),0),d.2.1,d.b.1,d.b.2.1,d.b.2.2,λx=>0) _ (by show∀p,p<276->d.b.2.1.1 p=0;rw[i4];exact hU) ⟨eZ 0,by show 0<=wI (d.1+1);omega,hw,hk,hk,rfl,rfl,rfl,rfl,λm hm=>by show(0:Int)=_;rw[if_neg (by show ¬(m=k/\(m:Int)<0);omega)]⟩) λx _ hx=> ?_;obtain⟨a0,a1,a2,a3,a4,a5,a6⟩:=hx;have a2:x.2.1=d.2.1:=a2;have a3:x.b.1=d.b.1:=a3;have a4:x.b.2.1=d.b.2.1:=a4;have a5:x.c.1=d.b.2.2:=a5;refine ay (a2k F hF k a1J ((x.1.1,x.1.2.1,0),x.2) _ (by show∀i k,i<24->k<24->x.b.1 (i*24+k)=_;rw[a3,i3];exact hf) a6 ⟨eZ 0,(show(0:Int)<=24 by decide),a0,a1,rfl,rfl,rfl,rfl,λi j hi hj=> ?_⟩) λy _ hy=> ?_
   .show x.c.1 (i*48+j)=if i=j/\(j<k∨(j=k/\(k:Int)<0)) then F i else 0
    rw[a5,i5 i j hi hj];by_cases e:i=j/\(j:Int)<d.1
    .rw[if_pos e,if_pos (by omega)]
    .rw[if_neg e,if_neg (by omega)]
   obtain⟨b1,b2,b3,b4,b5⟩:=hy;have b2:y.2.1=x.2.1:=b2;have b3:y.b.1=x.b.1:=b3;have b4:y.b.2.1=x.b.2.1:=b4;have hw2:wI (y.1.2.1+1)=d.1+1:=by rw[b1,hk];exact aY (by omega) (by omega)
   rw[av,hw2];refine⟨⟨by show 0<=d.1+1;omega,by show d.1+1<=24;omega,b2.trans (a2.trans i2),b3.trans (a3.trans i3),b4.trans (a4.trans i4),λi j hi hj=> ?_⟩,by show wt (24-(d.1+1))<_;omega⟩;show y.c.1 (i*48+j)=if i=j/\(j:Int)<d.1+1 then F i else 0
   rw[b5 i j hi hj];by_cases e:i=j/\j<k+1
   .rw[if_pos e,if_pos (by omega)]
   .rw[if_neg e,if_neg (by omega)]
  .have h:=qk h;rw[av];refine⟨i2,i3,λi j hi hj=> ?_⟩;show d.b.2.2 (i*48+j)=_;rw[i5 i j hi hj];by_cases e:i=j/\j<24
   .rw[if_pos e,if_pos (by omega)]
   .rw[if_neg e,if_neg (by omega)]) (λd hd=>by omega)
theorem a2m (F:Nat->Int)(b:Bool):∀(d:gH.B) (hd:0<=d.1/\d.1<=24/\d.2.1=b/\∀i k:Nat,i<24->k<48->d.2.2.2 (i*48+k)=if i=k then F i else if k=24+i/\(i:Int)<d.1 then 1073741824 else 0),Ok (BT d) (λx:qD=>x.2.1=b/\∀i k,i<24->k<48->x.2.2.2 (i*48+k)=if i=k then F i else if k=24+i then 1073741824 else 0):=
 bq (λd:gH.B=>wt (24-d.1)) (λd hd=>by
  obtain⟨i0,i1,i2,i3⟩:=hd;have hw:wI (d.1+1)=d.1+1:=aY;unfold BS;dsimp only;rw[aK];refine⟨λh=> ?_,λh=> ?_⟩
  .have h:=dq h;have h1:wI (24+d.1)=24+d.1:=dS;have r0:aX d.1 24=true:=by rw[bk];omega
   have r1:aX (24+d.1) 48=true:=by rw[bk];omega
   have r2:(true&&wl (0+(wt d.1*48+wt (24+d.1))*1+1) 1152)=true:=by rw[oK,bW];omega
   rw[h1,r0,r1,r2,hw,aC,aC,aC,av];refine⟨⟨by show 0<=d.1+1;omega,by show d.1+1<=24;omega,i2,λi k hi hk=> ?_⟩,by show wt (24-(d.1+1))<_;omega⟩;show(bif ww (i*48+k) (wt d.1*48+wt (24+d.1)) then 1073741824 else d.2.2.2 (i*48+k))=if i=k then F i else if k=24+i/\(i:Int)<d.1+1 then 1073741824 else 0
   rw[G7,i3 i k hi hk];by_cases e1:i*48+k=wt d.1*48+wt (24+d.1)
   .rw[if_pos e1,if_neg (by omega),if_pos (by omega)]
   .rw[if_neg e1];by_cases e2:i=k
    .rw[if_pos e2,if_pos e2]
    .rw[if_neg e2,if_neg e2];by_cases e3:k=24+i/\(i:Int)<d.1
     .rw[if_pos e3,if_pos (by omega)]
     .rw[if_neg e3,if_neg (by omega)]
  .have h:=qk h;rw[av];refine⟨i2,λi k hi hk=> ?_⟩;show d.2.2.2 (i*48+k)=_;rw[i3 i k hi hk];by_cases e2:i=k
   .rw[if_pos e2,if_pos e2]
   .rw[if_neg e2,if_neg e2];by_cases e3:k=24+i
    .rw[if_pos e3,if_pos (by omega)]
    .rw[if_neg e3,if_neg (by omega)]) (λd hd=>by omega)
theorem aSv (F U D Fm:Nat->Int)(b:Bool)(hF:∀i,i<24->F i=0∨F i=1073741824)(hU:∀p,p<276->U p=0)(hf:∀i k,i<24->k<24->Fm (i*24+k)=if i=k then F i else 0):Ok (qF U D b Fm) (λr:OX=>r.1=b/\∀i k,i<24->k<48->r.2 (i*48+k)=if i=k then F i else if k=24+i then 1073741824 else 0):=by
 unfold qF GJ;show PQ _ _;refine ay (a2l F hF (0,b,Fm,(U,D),λx=>0) _ hU hf ⟨eZ 0,(show(0:Int)<=24 by decide),rfl,rfl,rfl,λi j hi hj=>by show(0:Int)=_;rw[if_neg (by show ¬(i=j/\(j:Int)<0);omega)]⟩) λx _ hx=> ?_;obtain⟨a1,a2,a3⟩:=hx;refine ay (a2m F b _ ⟨eZ 0,(show(0:Int)<=24 by decide),a1,λi k hi hk=> ?_⟩) λy _ hy=> ?_
 .show x.b.2.2 (i*48+k)=_;rw[a3 i k hi hk];by_cases e:i=k
  .rw[if_pos ⟨e,by omega⟩,if_pos e]
  .rw[if_neg (λh=>e h.1),if_neg e,if_neg (by show ¬(k=24+i/\(i:Int)<0);omega)]
 .rw[av];exact hy
theorem a4j (F:Nat->Int)(hF:∀i,i<24->F i=0∨F i=1073741824)(w d:gJ.B)(hi:0<=w.1.1/\w.1.1<24)(hd:0<=d.1.2.2/\d.1.2.2<=24/\d.1.1=w.1.1/\d.1.2.1=w.1.2.1/\d.2.1=w.2.1/\d.b.1=w.b.1/\(∀i k,i<24->k<24->d.b.2.1 (i*24+k)=if i=k then F i else 0)/\d.b.2.2=w.b.2.2):Ok (BX d) (λx:qI=>x.1.2.1=w.1.2.1/\x.2.1=w.2.1/\x.b.1=w.b.1/\(∀i k,i<24->k<24->x.b.2.1 (i*24+k)=if i=k then F i else 0)/\x.b.2.2=w.b.2.2):=by
 revert d
 exact bq (λd:gJ.B=>wt (24-d.1.2.2)) (λd hd=>by
  obtain⟨i0,i1,i2,i3,i4,i5,i6,i7⟩:=hd;have hw:wI (d.1.2.2+1)=d.1.2.2+1:=aY;unfold BW;dsimp only;rw[aK];refine⟨λh=> ?_,λh=>by rw[av];exact⟨i3,i4,i5,i6,i7⟩⟩;have h:=dq h;have r0:aX d.1.1 24=true:=by rw[bk,i2];omega
  have r1:aX d.1.2.2 24=true:=by rw[bk];omega
  have r2:(true&&wl (0+(wt d.1.1*24+wt d.1.2.2)*1+1) 576)=true:=by rw[oK,bW,i2];omega
  have v:=i6 (wt d.1.1) (wt d.1.2.2) (by rw[i2];omega) (by omega);have bF:=hF (wt d.1.1) (by rw[i2];omega)
  have s:aQ (d.b.2.1 (wt d.1.1*24+wt d.1.2.2)) d.2.1=some (d.b.2.1 (wt d.1.1*24+wt d.1.2.2),d.2.1):=by
   have r: -1152921504606846976<=d.b.2.1 (wt d.1.1*24+wt d.1.2.2)/\d.b.2.1 (wt d.1.1*24+wt d.1.2.2)<=1152921504606846976:=by rw[v];split<;>omega
   rw[p6,Q6 r,I0 r,SM]
  rw[r0,r1,r2,aC,aC,s,bX,aC,aC,aC,av,hw];refine⟨⟨by show 0<=d.1.2.2+1;omega,by show d.1.2.2+1<=24;omega,i2,i3,i4,i5,λi k hi hk=> ?_,i7⟩,by show wt (24-(d.1.2.2+1))<_;omega⟩;show(bif ww (i*24+k) (wt d.1.1*24+wt d.1.2.2) then d.b.2.1 (wt d.1.1*24+wt d.1.2.2) else d.b.2.1 (i*24+k))=_;rw[G7];split
  .rename_i e;rw[<-e];exact i6 i k hi hk
  .exact i6 i k hi hk) (λd hd=>by omega)
theorem a4k (F D q:Nat->Int)(b:Bool)(hF:∀i,i<24->F i=0∨F i=1073741824)(w d:gM.B)(hD:∀i,i<24->w.b.1.2 i=D i)(hq:∀i,i<24->w.c.1 i=q i/\0<=q i/\q i<=72057594037927936)(hd:0<=d.1/\d.1<=24/\d.2.1=b/\d.b.1=w.b.1/\(∀i k,i<24->k<24->d.b.2.1 (i*24+k)=if i=k then F i else 0)/\d.c.1=w.c.1/\d.c.2.1=w.c.2.1/\∀i:Nat,i<24->(i:Int)<d.1->d.c.2.2 i=D i/\d.c.2.2 (24+i)=q i):Ok (B6 d) (λx:qL=>x.2.1=b/\x.b.1=w.b.1/\(∀i k,i<24->k<24->x.b.2.1 (i*24+k)=if i=k then F i else 0)/\x.c.2.1=w.c.2.1/\∀i:Nat,i<24->(i:Int)<24->x.c.2.2 i=D i/\x.c.2.2 (24+i)=q i):=by
 revert d
 exact bq (λd:gM.B=>wt (24-d.1)) (λd hd=>by
  obtain⟨i0,i1,i2,i3,i4,i5,i6,i7⟩:=hd;have hw:wI (d.1+1)=d.1+1:=aY;unfold B5;dsimp only;rw[aK];refine⟨λh=> ?_,λh=> ?_⟩
  .have h:=dq h;have h1:wI (24+d.1)=24+d.1:=dS;have r0:aX d.1 24=true:=by rw[bk];omega
   have r1:aX d.1 48=true:=by rw[bk];omega
   have r2:(true&&wl (0+wt d.1*1+1) 48)=true:=by rw[oK,bW];omega
   have r3:aX (24+d.1) 48=true:=by rw[bk];omega
   have r4:(true&&wl (0+wt (24+d.1)*1+1) 48)=true:=by rw[oK,bW];omega
   obtain⟨m,hm⟩:∃m:Nat,d.1=(m:Int):=⟨wt d.1,by omega⟩;have aTD:m<24:=by omega
   have vq:=hq m aTD
   have c:bc (d.c.1 (wt d.1)) 0 72057594037927936 d.2.1=some (q m,b):=by
    rw[i5,hm,Hr,vq.1,i2];exact af6 _ _ _ _ vq.2.1 vq.2.2
   rw[h1,r0,r1,r2,r3,r4,aC,aC,c,bX,aC,aC,aC,aC];refine ay (a4j F hF _ _ ⟨i0,h⟩ ⟨eZ 0,(show(0:Int)<=24 by decide),rfl,rfl,rfl,rfl,i4,rfl⟩) λx _ hx=> ?_;obtain⟨a0,a1,a2,a3,a4⟩:=hx;have a0:x.1.2.1=d.1:=a0;have a1:x.2.1=b:=a1;have a2:x.b.1=d.b.1:=a2;rw[av,a0,hw];refine⟨⟨by show 0<=d.1+1;omega,by show d.1+1<=24;omega,a1,a2.trans i3,a3,(c8 (λz=>z.1) a4).trans i5,(c8 (λz=>z.2.1) a4).trans i6,λi hi hj=> ?_⟩,by show wt (24-(d.1+1))<_;omega⟩;have a6:x.c.2.2=λj=>bif ww j (wt (24+d.1)) then q m else bif ww j (wt d.1) then d.b.1.2 (wt d.1) else d.c.2.2 j:=c8 (λz=>z.2.2) a4
   show x.c.2.2 i=D i/\x.c.2.2 (24+i)=q i;have hj:(i:Int)<d.1+1:=hj;rw[a6];show(bif ww i (wt (24+d.1)) then q m else bif ww i (wt d.1) then d.b.1.2 (wt d.1) else d.c.2.2 i)=D i/\(bif ww (24+i) (wt (24+d.1)) then q m else bif ww (24+i) (wt d.1) then d.b.1.2 (wt d.1) else d.c.2.2 (24+i))=q i;rw[aD1,aD1,aD1,aD1,if_neg (by omega:¬i=wt (24+d.1)),if_neg (by omega:¬24+i=wt d.1)];by_cases e:i=m
   .subst e;rw[if_pos (by omega:i=wt d.1),if_pos (by omega:24+i=wt (24+d.1)),hm,Hr,i3];exact⟨hD i hi,rfl⟩
   .rw[if_neg (by omega:¬i=wt d.1),if_neg (by omega:¬24+i=wt (24+d.1))];exact i7 i hi (by omega)
  .have h:=qk h;rw[av];exact⟨i2,i3,i4,i6,λi hi hj=>i7 i hi (by omega)⟩) (λd hd=>by omega)
def Qj (F D q:Nat->Int):Prop:=∀i,i<24->okV (D i)/\((F i=1073741824/\q i=0)∨(F i=0/\okV (q i)))
def kept (F D q:Nat->Int)(i:Nat):Int:=if F i=0 then q i else D i
theorem Qj.F {F D q:Nat->Int}(h:Qj F D q):∀i,i<24->F i=0∨F i=1073741824:=λi hi=>by
 rcases(h i hi).2 with a|a
 .exact Or.inr a.1
 .exact Or.inl a.1
theorem Qj.q {F D q:Nat->Int}(h:Qj F D q):∀i,i<24->0<=q i/\q i<=72057594037927936:=λi hi=>by
 rcases(h i hi).2 with a|a
 .have:=a.2;omega
 .have:=a.2.le;omega
theorem Qj.z {F D q:Nat->Int}(h:Qj F D q):∀i,i<24->¬F i=0->q i=0/\F i=1073741824:=λi hi n=>by
 rcases(h i hi).2 with a|a
 .exact⟨a.2,a.1⟩
 .exact absurd a.1 n
theorem Qj.k {F D q:Nat->Int}(h:Qj F D q):∀i,i<24->okV (kept F D q i):=λi hi=>by
 unfold kept;rcases(h i hi).2 with a|a
 .rw[if_neg (by omega)];exact(h i hi).1
 .rw[if_pos a.1];exact a.2
def yv (F D q:Nat->Int)(j k:Nat):Int:=if k=j then(if F j=0 then 0 else D j) else if k=24+j then q j else 0
theorem aZl {F D q:Nat->Int}(h:Qj F D q)(j k:Nat)(hj:j<24): -1152921504606846976<=yv F D q j k/\yv F D q j k<=1152921504606846976:=by
 have:=(h j hj).1.le;have:=h.q j hj;unfold yv;split
 .split<;>omega
 .split<;>omega
theorem a4l (F D q:Nat->Int)(hk:Qj F D q)(j:Nat)(hj:j<24)(w d:gK.B)(he:∀i:Nat,i<24->w.b.2.1 i=D i/\w.b.2.1 (24+i)=q i)(hW:(∀i k,i<24->k<48->w.c.1 (i*48+k)=if i=k then F i else if k=24+i then 1073741824 else 0))(hd:0<=d.1.2/\d.1.2<=48/\d.1.1=(j:Int)/\d.2.1=w.2.1/\d.b.1=w.b.1/\d.b.2.1=w.b.2.1/\d.c.1=w.c.1/\d.c.2.1=w.c.2.1/\∀k:Nat,k<48->(k:Int)<d.1.2->d.c.2.2 k=yv F D q j k):Ok (BZ d) (λx:qJ=>x.1.1=(j:Int)/\x.2.1=w.2.1/\x.b.1=w.b.1/\x.b.2.1=w.b.2.1/\x.c.1=w.c.1/\x.c.2.1=w.c.2.1/\∀k:Nat,k<48->x.c.2.2 k=yv F D q j k):=by
 revert d
 exact bq (λd:gK.B=>wt (48-d.1.2)) (λd hd=>by
  obtain⟨i0,i1,i2,i3,i4,i5,i6,i7,i8⟩:=hd;have hw:wI (d.1.2+1)=d.1.2+1:=aY;unfold BY;dsimp only;rw[aK];refine⟨λh=> ?_,λh=> ?_⟩
  .have h:=dq h;obtain⟨m,hm⟩:∃m:Nat,d.1.2=(m:Int):=⟨wt d.1.2,by omega⟩;have a4m:m<48:=by omega
   have r0:aX d.1.1 24=true:=by rw[bk,i2];omega
   have r1:aX d.1.2 48=true:=by rw[bk];omega
   have r2:(true&&wl (0+wt d.1.2*1+1) 48)=true:=by rw[oK,bW];omega
   have wv:d.c.1 (wt d.1.1*48+wt d.1.2)=if j=m then F j else if m=24+j then 1073741824 else 0:=by
    rw[i6,i2,hm,Hr,Hr];exact hW j m hj a4m
   have e3:d.b.2.1 (wt d.1.2)=w.b.2.1 m:=by rw[i5,hm,Hr]
   have em: -1152921504606846976<=w.b.2.1 m/\w.b.2.1 m<=1152921504606846976:=by
    by_cases c:m<24
    .have:=(he m c).1;have:=(hk m c).1.le;omega
    .have e:=(he (m-24) (by omega)).2;rw[(by omega:24+(m-24)=m)] at e;have:=hk.q (m-24) (by omega);omega
   have mul:aV (d.c.1 (wt d.1.1*48+wt d.1.2)) (d.b.2.1 (wt d.1.2)) 30 d.2.1=some (yv F D q j m,d.2.1):=by
    have hF:=hk.F j hj;by_cases c1:m=j
    .have wv':d.c.1 (wt d.1.1*48+wt d.1.2)=F j:=by rw[wv,if_pos c1.symm]
     rw[wv',e3,aMw _ _ _ hF em];refine c8 (λz=>some (z,d.2.1)) ?_;unfold yv;rw[if_pos c1,c1,(he j hj).1]
    .by_cases c2:m=24+j
     .have wv':d.c.1 (wt d.1.1*48+wt d.1.2)=1073741824:=by rw[wv,if_neg (λh=>c1 h.symm),if_pos c2]
      rw[wv',e3,aMw _ _ _ (Or.inr rfl) em,if_neg (by decide)];refine c8 (λz=>some (z,d.2.1)) ?_;unfold yv;rw[if_neg c1,if_pos c2,c2,(he j hj).2]
     .have wv':d.c.1 (wt d.1.1*48+wt d.1.2)=0:=by rw[wv,if_neg (λh=>c1 h.symm),if_neg c2]
      rw[wv',e3,aMw _ _ _ (Or.inl rfl) em,if_pos rfl];refine c8 (λz=>some (z,d.2.1)) ?_;unfold yv;rw[if_neg c1,if_neg c2]
   rw[r0,r1,r2,aC,aC,aC,mul,bX,aC,aC,av,hw];refine⟨⟨by show 0<=d.1.2+1;omega,by show d.1.2+1<=48;omega,i2,i3,i4,i5,i6,i7,λk Gq hkc=> ?_⟩,by show wt (48-(d.1.2+1))<_;omega⟩;have hkc:(k:Int)<d.1.2+1:=hkc;show(bif ww k (wt d.1.2) then yv F D q j m else d.c.2.2 k)=yv F D q j k;rw[G7];split
   .rename_i e
    have:k=m:=by omega
    rw[this]
   .exact i8 k Gq (by omega)
  .have h:=qk h;rw[av];exact⟨i2,i3,i4,i5,i6,i7,λk Gq=>i8 k Gq (by omega)⟩) (λd hd=>by omega)
theorem a4n (F:Nat->Int)(hF:∀i,i<24->F i=0∨F i=1073741824)(w d:gL.B)(h0:0<=w.1.1/\w.1.1<24)(h2:0<=w.1.2.2.1/\w.1.2.2.1<24)(hd:0<=d.1.2.2.2.2.2.2/\d.1.2.2.2.2.2.2<=48/\d.1.1=w.1.1/\d.1.2.1=w.1.2.1/\d.1.2.2.1=w.1.2.2.1/\d.1.2.2.2.1=0/\d.1.2.2.2.2.1=w.1.2.2.2.2.1/\d.1.2.2.2.2.2.1=w.1.2.2.2.2.2.1/\d.2.1=w.2.1/\d.2.2.1=w.2.2.1/\d.2.2.2.1=w.2.2.2.1/\(∀i k,i<24->k<48->d.2.2.2.2.1 (i*48+k)=if i=k then F i else if k=24+i then 1073741824 else 0)/\d.2.2.2.2.2=w.2.2.2.2.2):Ok (B4 d) (λx:qK=>x.1.1=w.1.1/\x.1.2.1=w.1.2.1/\x.1.2.2.2.2.1=w.1.2.2.2.2.1/\x.1.2.2.2.2.2.1=w.1.2.2.2.2.2.1/\x.2.1=w.2.1/\x.2.2.1=w.2.2.1/\x.2.2.2.1=w.2.2.2.1/\(∀i k,i<24->k<48->x.2.2.2.2.1 (i*48+k)=if i=k then F i else if k=24+i then 1073741824 else 0)/\x.2.2.2.2.2=w.2.2.2.2.2):=by
 revert d
 exact bq (λd:gL.B=>wt (48-d.1.2.2.2.2.2.2)) (λd hd=>by
  obtain⟨i0,i1,j0,j1,j2,j3,j4,j5,i3,i4,i5,i6,i7⟩:=hd;have hw:wI (d.1.2.2.2.2.2.2+1)=d.1.2.2.2.2.2.2+1:=aY;unfold B3;dsimp only;rw[aK];refine⟨λh=> ?_,λh=>by rw[av];exact⟨j0,j1,j4,j5,i3,i4,i5,i6,i7⟩⟩;have h:=dq h;have r0:aX d.1.2.2.1 24=true:=by rw[bk,j2];omega
  have r1:aX d.1.2.2.2.2.2.2 48=true:=by rw[bk];omega
  have r2:aX d.1.1 24=true:=by rw[bk,j0];omega
  have r3:(true&&wl (0+(wt d.1.2.2.1*48+wt d.1.2.2.2.2.2.2)*1+1) 1152)=true:=by rw[oK,bW,j2];omega
  have bw:∀i,i<24-> -1152921504606846976<=d.2.2.2.2.1 (i*48+wt d.1.2.2.2.2.2.2)/\d.2.2.2.2.1 (i*48+wt d.1.2.2.2.2.2.2)<=1152921504606846976:=λi hi=>by
   rw[i6 i (wt d.1.2.2.2.2.2.2) hi (by omega)];have:=hF i hi;split
   .omega
   .split<;>omega
  have mul:aV d.1.2.2.2.1 (d.2.2.2.2.1 (wt d.1.1*48+wt d.1.2.2.2.2.2.2)) 30 d.2.1=some (0,d.2.1):=by
   rw[j3,aMw 0 _ _ (Or.inl rfl) (bw (wt d.1.1) (by rw[j0];omega)),if_pos rfl]
  rw[r0,r1,r2,r3,aC,aC,aC,aC,mul,bX,sub_zero _ _ (bw (wt d.1.2.2.1) (by rw[j2];omega)),bX,aC,aC,aC,av,hw];refine⟨⟨by show 0<=d.1.2.2.2.2.2.2+1;omega,by show d.1.2.2.2.2.2.2+1<=48;omega,j0,j1,j2,j3,j4,j5,i3,i4,i5,λi k hi hk=> ?_,i7⟩,by show wt (48-(d.1.2.2.2.2.2.2+1))<_;omega⟩;show(bif ww (i*48+k) (wt d.1.2.2.1*48+wt d.1.2.2.2.2.2.2) then d.2.2.2.2.1 (wt d.1.2.2.1*48+wt d.1.2.2.2.2.2.2) else d.2.2.2.2.1 (i*48+k))=_;rw[G7];split
  .rename_i e;rw[<-e];exact i6 i k hi hk
  .exact i6 i k hi hk) (λd hd=>by omega)
theorem a4o (F D q G:Nat->Int)(hk:Qj F D q)(j:Nat)(hj:j<24)(v:Int)(hv:okV v)(w:fE.B):∀(d:fE.B) (hd:0<=d.1.2.2.2/\d.1.2.2.2<=d.1.2.2.1/\d.1.2.2.1=(j:Int)/\d.1.1=(j:Int)/\d.1.2.1=v/\d.2.1=w.2.1/\d.2.2.1=w.2.2.1/\d.2.2.2.1=w.2.2.2.1/\(∀i k,i<24->k<48->d.2.2.2.2.1 (i*48+k)=if i=k then F i else if k=24+i then 1073741824 else 0)/\d.2.2.2.2.2.1=(λ_=>0,G)/\∀k:Nat,k<48->d.2.2.2.2.2.2 k=yv F D q j k),Ok (B8 d) (λx:qM=>x.1.1=(j:Int)/\x.2.1=w.2.1/\x.2.2.1=w.2.2.1/\x.2.2.2.1=w.2.2.2.1/\(∀i k,i<24->k<48->x.2.2.2.2.1 (i*48+k)=if i=k then F i else if k=24+i then 1073741824 else 0)/\x.2.2.2.2.2.1=(λ_=>0,G)):=
 bq (λd:fE.B=>wt (d.1.2.2.1-d.1.2.2.2)) (λd hd=>by
  obtain⟨i0,i1,j2,j0,j1,i3,i4,i5,i6,i7,i8⟩:=hd;have hw:wI (d.1.2.2.2+1)=d.1.2.2.2+1:=aY;unfold B7;dsimp only;rw[aK];refine⟨λh=> ?_,λh=>by rw[av];exact⟨j0,i3,i4,i5,i6,i7⟩⟩;have h:=dq h;obtain⟨m,hm⟩:∃m:Nat,d.1.2.2.2=(m:Int):=⟨wt d.1.2.2.2,by omega⟩;have hmj:m<j:=by omega
  have r0:aX d.1.2.2.2 24=true:=by rw[bk];omega
  have wv:∀k,k<48->d.2.2.2.2.1 (0+wt d.1.2.2.2*48+k)=if m=k then F m else if k=24+m then 1073741824 else 0:=λk hk=>by
   rw[hm,Hr,eX];exact i6 m k (by omega) hk
  have dot:bz 30 48 48 d.2.1 (λk=>d.2.2.2.2.1 (0+wt d.1.2.2.2*48+k)) d.2.2.2.2.2.2 false false=some (0,d.2.1):=by
   have z:∀k,k<48->d.2.2.2.2.1 (0+wt d.1.2.2.2*48+k)*d.2.2.2.2.2.2 k=0:=λk Gq=>by
    rw[wv k Gq,i8 k Gq];unfold yv;by_cases c:m=k
    .rw[if_neg (by omega:¬k=j),if_neg (by omega:¬k=24+j),Int.mul_zero]
    .rw[if_neg c];by_cases c2:k=24+m
     .rw[if_neg (by omega:¬k=j),if_neg (by omega:¬k=24+j),Int.mul_zero]
     .rw[if_neg c2,agp]
   refine aHc 48 0 (by decide) (by decide) _ _ _ _ _ _ (λk Gq=> ?_) (λk Gq=> ?_) (λk Gq _=>z k Gq) (by rw[z 0 (by decide)];rfl) (by decide)
   .show -1152921504606846976<=d.2.2.2.2.1 (0+wt d.1.2.2.2*48+k)/\d.2.2.2.2.1 (0+wt d.1.2.2.2*48+k)<=1152921504606846976;rw[wv k Gq];have:=hk.F m (by omega);split
    .omega
    .split<;>omega
   .rw[i8 k Gq];exact aZl hk j k hj
  have st:zd d.2.2.2.2.2.1.1 d.2.2.2.2.2.1.2 d.1.2.2.2 d.1.1 0=some (λ_=>0,G):=by
   rw[i7,hm,j0];exact aIx G m j hmj hj
  rw[r0,aC,dot,bX,j1,div_zero v _ hv,bX,st,bX];refine ay (a4n F hk.F _ _ (by show 0<=d.1.1/\d.1.1<24;omega) (by show 0<=d.1.2.2.2/\d.1.2.2.2<24;omega) ⟨eZ 0,(show(0:Int)<=48 by decide),rfl,rfl,rfl,rfl,rfl,rfl,rfl,rfl,rfl,i6,rfl⟩) λx _ hx=> ?_;obtain⟨a0,a1,a4,a5,b1,b2,b3,b4,b5⟩:=hx;have a4:x.1.2.2.2.2.1=d.1.2.2.1:=a4;have a5:x.1.2.2.2.2.2.1=d.1.2.2.2:=a5;have a0:x.1.1=d.1.1:=a0;rw[av,a5,hw];refine⟨⟨by show 0<=d.1.2.2.2+1;omega,by show d.1.2.2.2+1<=x.1.2.2.2.2.1;omega,by show x.1.2.2.2.2.1=(j:Int);omega,by show x.1.1=(j:Int);omega,a1,b1.trans i3,b2.trans i4,b3.trans i5,b4,c8 (λz=>z.1) b5,λk Gq=>(congrFun (c8 (λz=>z.2) b5) k).trans (i8 k Gq)⟩,by show wt (x.1.2.2.2.2.1-(d.1.2.2.2+1))<_;omega⟩) (λd hd=>by omega)
theorem a4p (F D q:Nat->Int)(b:Bool)(e:Nat->Int)(hk:Qj F D q)(he:∀i:Nat,i<24->e i=D i/\e (24+i)=q i):∀(d:gN.B) (hd: -1<=d.1/\d.1<=23/\d.2.1=b/\d.b.2.1=e/\(∀i k,i<24->k<48->d.c.1 (i*48+k)=if i=k then F i else if k=24+i then 1073741824 else 0)/\d.c.2=(λ_=>0,λi:Nat=>if d.1<(i:Int)/\i<24 then kept F D q i else 0)),Ok (Ca d) (λx:qN=>x.2.1=b/\x.c.2=(λ_=>0,λi=>if i<24 then kept F D q i else 0)):=
 bq (λd:gN.B=>wt (d.1+1)) (λd hd=>by
  obtain⟨i0,i1,i2,i3,i4,i5⟩:=hd;unfold B9;dsimp only;rw[aK];refine⟨λh=> ?_,λh=> ?_⟩
  .have h:=dq h;obtain⟨j,hj⟩:∃m:Nat,d.1=(m:Int):=⟨wt d.1,by omega⟩;have aCv:j<24:=by omega
   refine ay (a4l F D q hk j aCv ((d.1,0),d.2.1,d.b.1,d.b.2.1,d.c.1,d.c.2,λx=>0) _ (by show∀i:Nat,i<24->d.b.2.1 i=D i/\d.b.2.1 (24+i)=q i;rw[i3];exact he) i4 ⟨eZ 0,(show(0:Int)<=48 by decide),hj,rfl,rfl,rfl,rfl,rfl,λk _ hk0=>absurd hk0 (by show ¬(k:Int)<0;omega)⟩) λx _ hx=> ?_;obtain⟨a0,a1,a2,a3,a4,a5,a6⟩:=hx;have a1:x.2.1=d.2.1:=a1;have a4:x.c.1=d.c.1:=a4;have a3:x.b.2.1=d.b.2.1:=a3;have a5:x.c.2.1=d.c.2:=a5;have r0:aX x.1.1 24=true:=by rw[bk,a0];omega
   have r1:(true&&wl (276+wt x.1.1*1+1) 300)=true:=by rw[oK,bW,a0];omega
   have wv:∀k,k<48->x.c.1 (0+wt x.1.1*48+k)=if j=k then F j else if k=24+j then 1073741824 else 0:=λk Gq=>by
    rw[a4,a0,Hr,eX];exact i4 j k aCv Gq
   have K:=(hk j aCv).1.le;have kp:=(hk.k j aCv).le;have kz:=hk.z j aCv
   have dot:bz 30 48 48 x.2.1 (λk=>x.c.1 (0+wt x.1.1*48+k)) x.c.2.2 false false=some (kept F D q j,x.2.1):=by
    refine aHc 48 (if F j=0 then 24+j else j) (by decide) (by split<;>omega) _ _ _ _ _ _ (λk Gq=> ?_) (λk Gq=> ?_) (λk Gq mc=> ?_) ?_ (by omega)
    .show -1152921504606846976<=x.c.1 (0+wt x.1.1*48+k)/\x.c.1 (0+wt x.1.1*48+k)<=1152921504606846976;rw[wv k Gq];split
     .omega
     .split<;>omega
    .rw[a6 k Gq];exact aZl hk j k aCv
    .show x.c.1 (0+wt x.1.1*48+k)*x.c.2.2 k=0;rw[wv k Gq,a6 k Gq];unfold yv;by_cases c:k=j
     .subst c;by_cases f0:F k=0
      .rw[if_pos rfl,f0,agp]
      .rw[if_neg f0] at mc;exact absurd rfl mc
     .rw[if_neg (λh=>c h.symm),if_neg c];by_cases c2:k=24+j
      .by_cases f0:F j=0
       .rw[if_pos f0] at mc;exact absurd c2 mc
       .rw[if_pos c2,if_pos c2];rw[(kz f0).1,Int.mul_zero]
      .rw[if_neg c2,if_neg c2,agp]
    .show x.c.1 (0+wt x.1.1*48+(if F j=0 then 24+j else j))*x.c.2.2 (if F j=0 then 24+j else j)=kept F D q j*1073741824;rw[wv _ (by split<;>omega),a6 _ (by split<;>omega)];unfold yv kept;by_cases f0:F j=0
     .rw[if_pos f0,if_pos f0,if_neg (by omega:¬j=24+j),if_pos rfl,if_neg (by omega:¬24+j=j),if_pos rfl,Ag,if_pos f0]
     .rw[if_neg f0,if_neg f0,if_pos rfl,if_pos rfl,(kz f0).2,Ag,if_neg (by decide)]
   rw[r0,aC,dot,bX,af6 _ _ _ _ kp.1 kp.2,bX,aC,r1,aC];refine ay (a4o F D q (λi:Nat=>if d.1-1<(i:Int)/\i<24 then kept F D q i else 0) hk j aCv (kept F D q j) (hk.k j aCv) ((x.1.1,kept F D q j,x.1.1,0),x.2.1,x.b.1,x.b.2.1,x.c.1,(x.c.2.1.1,λi=>bif ww i (wt x.1.1) then kept F D q j else x.c.2.1.2 i),x.c.2.2) _ ⟨eZ 0,by show 0<=x.1.1;omega,a0,a0,rfl,rfl,rfl,rfl,by show∀i k,i<24->k<48->x.c.1 (i*48+k)=_;rw[a4];exact i4,?_,a6⟩) λy _ hy=> ?_
   .refine Prod.ext (by show x.c.2.1.1=_;rw[a5,i5]) (funext λi=> ?_);show(bif ww i (wt x.1.1) then kept F D q j else x.c.2.1.2 i)=if d.1-1<(i:Int)/\i<24 then kept F D q i else 0
    rw[G7,a0,a5,i5,Hr];show(if i=j then kept F D q j else if d.1<(i:Int)/\i<24 then kept F D q i else 0)=_;by_cases c:i=j
    .subst c;rw[if_pos rfl,if_pos (by omega)]
    .rw[if_neg c];by_cases c2:d.1<(i:Int)/\i<24
     .rw[if_pos c2,if_pos (by omega)]
     .rw[if_neg c2,if_neg (by omega)]
   obtain⟨b0,b1,b2,b3,b4,b5⟩:=hy;have b1:y.2.1=x.2.1:=b1;have b3:y.b.2.1=x.b.2.1:=b3;have hw:wI (y.1.1-1)=d.1-1:=by rw[b0,<-hj];exact dS (by omega) (by omega)
   rw[av,hw];exact⟨⟨by show -1<=d.1-1;omega,by show d.1-1<=23;omega,b1.trans (a1.trans i2),b3.trans (a3.trans i3),b4,b5⟩,by show wt (d.1-1+1)<_;omega⟩
  .have h:=qk h;rw[av];refine⟨i2,i5.trans (Prod.ext rfl (funext λi=> ?_))⟩;show(if d.1<(i:Int)/\i<24 then kept F D q i else 0)=if i<24 then kept F D q i else 0
   by_cases c:i<24
   .rw[if_pos c,if_pos (by omega)]
   .rw[if_neg c,if_neg (by omega)]) (λd hd=>by omega)
theorem aSw (F U D Fm Q q:Nat->Int)(b:Bool)(hk:Qj F D q)(hU:∀p,p<276->U p=0)(hf:(∀i k,i<24->k<24->Fm (i*24+k)=if i=k then F i else 0))(hq:∀i,i<24->Q i=q i):jX U D Fm Q b=some ((λ_=>0,λi=>if i<24 then kept F D q i else 0),b):=by
 have h:Ok (jX U D Fm Q b) (λr:O5=>r=((λ_=>0,λi=>if i<24 then kept F D q i else 0),b)):=by
  unfold jX GN;show PQ _ _;refine ay (aSu U D b hU (λi hi=>(hk i hi).1.le)) λc _ hc=> ?_;obtain⟨c0,c1,c2⟩:=hc;refine ay (a4k F D q c.2 hk.F (0,c.2,c.1,Fm,Q,(λx=>0,λx=>0),λx=>0) _ c2 (λi hi=>⟨hq i hi,hk.q i hi⟩) ⟨eZ 0,(show(0:Int)<=24 by decide),rfl,rfl,hf,rfl,rfl,λi _ hi=>absurd hi (by show ¬(i:Int)<0;omega)⟩) λx _ hx=> ?_;obtain⟨a1,a2,a3,a4,a5⟩:=hx;have a2:x.b.1=c.1:=a2;refine ay (aSv F _ _ x.b.2.1 x.2.1 hk.F (by rw[a2];exact c1) a3) λw _ hw=> ?_;refine ay (a4p F D q b x.c.2.2 hk (λi hi=>a5 i hi (by omega)) _ ⟨(show(-1:Int)<=23 by decide),(show(23:Int)<=23 by decide),hw.1.trans (a1.trans c0),rfl,hw.2,?_⟩) λy _ hy=> ?_
  .refine Prod.ext rfl (funext λi=> ?_);show(0:Int)=if (23:Int)<(i:Int)/\i<24 then kept F D q i else 0
   rw[if_neg (by omega)]
  .rw[av];exact Prod.ext hy.2 hy.1
 obtain⟨r,h1,h2⟩:=h;rw[h1,h2]
theorem a4q:∀(d:iA.B) (hd:0<=d.1/\d.1<=24/\∀i k:Nat,i<24->k<24->d.2.2 (i*24+k)=if i=k/\(i:Int)<d.1 then 1073741824 else 0),Ok (Et d) (λx:tl=>∀i k:Nat,i<24->k<24->x.2.2 (i*24+k)=if i=k then 1073741824 else 0):=
 bq (λd:iA.B=>wt (24-d.1)) (λd hd=>by
  obtain⟨i0,i1,i2⟩:=hd;have hw:wI (d.1+1)=d.1+1:=aY;unfold Es;dsimp only;rw[aK];refine⟨λh=> ?_,λh=> ?_⟩
  .have h:=dq h;have r0:aX d.1 24=true:=by rw[bk];omega
   have r1:(true&&wl (0+(wt d.1*24+wt d.1)*1+1) 576)=true:=by rw[oK,bW];omega
   rw[r0,r1,aC,aC,aC,av,hw];refine⟨⟨by show 0<=d.1+1;omega,by show d.1+1<=24;omega,λi k hi hk=> ?_⟩,by show wt (24-(d.1+1))<_;omega⟩;show(bif ww (i*24+k) (wt d.1*24+wt d.1) then 1073741824 else d.2.2 (i*24+k))=if i=k/\(i:Int)<d.1+1 then 1073741824 else 0
   rw[G7,i2 i k hi hk];by_cases e:i*24+k=wt d.1*24+wt d.1
   .rw[if_pos e,if_pos (by omega)]
   .rw[if_neg e];by_cases e2:i=k/\(i:Int)<d.1
    .rw[if_pos e2,if_pos (by omega)]
    .rw[if_neg e2,if_neg (by omega)]
  .have h:=qk h;rw[av];intro i k hi hk;show d.2.2 (i*24+k)=_;rw[i2 i k hi hk];by_cases e:i=k
   .rw[if_pos e,if_pos (by omega)]
   .rw[if_neg e,if_neg (by omega)]) (λd hd=>by omega)
theorem aVo:Ok nh (λr:Da=>∀i k:Nat,i<24->k<24->r (i*24+k)=if i=k then 1073741824 else 0):=by
 unfold nh Jh;show PQ _ _;refine ay (a4q _ ⟨eZ 0,(show(0:Int)<=24 by decide),λi k hi hk=>by show(0:Int)=_;rw[if_neg (by show ¬(i=k/\(i:Int)<0);omega)]⟩) λx _ hx=> ?_;rw[av];exact hx
theorem a4r (w d:jj.B)(hv:∀j:Nat,j<4->okV (w.2.2.1 j))(hd:0<=d.1.2.2.2/\d.1.2.2.2<=4/\d.1.1=0/\d.1.2.1.1=4/\d.1.2.2.1=4/\d.2.1=w.2.1/\d.2.2.1=w.2.2.1/\d.2.2.2.1=w.2.2.2.1/\(∀i k:Nat,i<24->k<24->d.2.2.2.2.2.1 (i*24+k)=if i=k/\¬(i:Int)<d.1.2.2.2 then 1073741824 else 0)/\∀i:Nat,i<24->d.2.2.2.2.2.2 i=if (i:Int)<d.1.2.2.2 then w.2.2.1 i else 0):Ok (GP d) (λx:vA=>x.2.1=w.2.1/\x.2.2.2.1=w.2.2.2.1/\(∀i k:Nat,i<24->k<24->x.2.2.2.2.2.1 (i*24+k)=if i=k/\¬i<4 then 1073741824 else 0)/\∀i:Nat,i<24->x.2.2.2.2.2.2 i=if i<4 then w.2.2.1 i else 0):=by
 revert d
 exact bq (λd:jj.B=>wt (4-d.1.2.2.2)) (λd hd=>by
  obtain⟨i0,i1,i2,i3,i4,i5,i6,i7,i8,i9⟩:=hd;have hw:wI (d.1.2.2.2+1)=d.1.2.2.2+1:=aY;have hy:wI (d.1.1+d.1.2.2.2)=d.1.2.2.2:=by rw[i2,ate];exact dS (by omega) (by omega)
  unfold GO;dsimp only;rw[aK];refine⟨λh=> ?_,λh=> ?_⟩
  .have h:=dq h;have r0:aX d.1.2.2.2 d.1.2.1.1=true:=by rw[bk,i3];omega
   have r1:aX d.1.2.2.2 24=true:=by rw[bk];omega
   have r2:(true&&wl (0+(wt d.1.2.2.2*24+wt d.1.2.2.2)*1+1) 576)=true:=by rw[oK,bW];omega
   have r3:(true&&wl (0+wt d.1.2.2.2*1+1) 24)=true:=by rw[oK,bW];omega
   have v:=(hv (wt d.1.2.2.2) (by omega)).le;rw[<-i6] at v;rw[hy,r0,aC,a0K _ i0 (by omega),bX,aC,aZk _ _ v.1 v.2,bX,r1,r2,r3,aC,aC,aC,aC,aC,av,hw];refine⟨⟨by show 0<=d.1.2.2.2+1;omega,by show d.1.2.2.2+1<=4;omega,i2,i3,i4,i5,i6,i7,λi k hi hk=> ?_,λi hi=> ?_⟩,by show wt (4-(d.1.2.2.2+1))<_;omega⟩
   .show(bif ww (i*24+k) (wt d.1.2.2.2*24+wt d.1.2.2.2) then 0 else d.2.2.2.2.2.1 (i*24+k))=if i=k/\¬(i:Int)<d.1.2.2.2+1 then 1073741824 else 0
    rw[G7,i8 i k hi hk];by_cases e:i*24+k=wt d.1.2.2.2*24+wt d.1.2.2.2
    .rw[if_pos e,if_neg (by omega)]
    .rw[if_neg e];by_cases e2:i=k/\¬(i:Int)<d.1.2.2.2
     .rw[if_pos e2,if_pos (by omega)]
     .rw[if_neg e2,if_neg (by omega)]
   .show(bif ww i (wt d.1.2.2.2) then d.2.2.1 (wt d.1.2.2.2) else d.2.2.2.2.2.2 i)=if (i:Int)<d.1.2.2.2+1 then w.2.2.1 i else 0
    rw[G7,i9 i hi,i6];by_cases e:i=wt d.1.2.2.2
    .rw[if_pos e,if_pos (by omega),e]
    .rw[if_neg e];by_cases e2:(i:Int)<d.1.2.2.2
     .rw[if_pos e2,if_pos (by omega)]
     .rw[if_neg e2,if_neg (by omega)]
  .have h:=qk h;rw[av];refine⟨i5,i7,λi k hi hk=> ?_,λi hi=> ?_⟩
   .show d.2.2.2.2.2.1 (i*24+k)=_;rw[i8 i k hi hk];by_cases e:i=k/\¬i<4
    .rw[if_pos e,if_pos (by omega)]
    .rw[if_neg e,if_neg (by omega)]
   .show d.2.2.2.2.2.2 i=_;rw[i9 i hi];by_cases e:i<4
    .rw[if_pos e,if_pos (by omega)]
    .rw[if_neg e,if_neg (by omega)]) (λd hd=>by omega)
theorem aPq (U D V:Nat->Int)(b w:Bool)(hU:∀p,p<276->U p=0)(hD:∀i,i<24->okV (D i))(hV:∀j,j<4->okV (V j)):
  de U D 0 4 b V w=some ((λ_=>0,λi=>if i<24 then(if i<4 then V i else D i) else 0),b):=by
 have h:Ok (de U D 0 4 b V w) (λr:X3=>r=((λ_=>0,λi=>if i<24 then(if i<4 then V i else D i) else 0),b)):=by
  unfold de Mx;show PQ _ _;refine ay aVo λm _ hm=> ?_;rw[aM,aC];refine ay (a4r ((0,(4,w),wn 4,0),b,V,(U,D),(λx=>0,λx=>0),m,λx=>0) _ hV ⟨eZ 0,(show(0:Int)<=4 by decide),rfl,rfl,rfl,rfl,rfl,rfl,λi k hi hk=> ?_,λi hi=> ?_⟩) λx _ hx=> ?_
  .show m (i*24+k)=if i=k/\¬(i:Int)<0 then 1073741824 else 0
   rw[hm i k hi hk];by_cases e:i=k
   .rw[if_pos e,if_pos ⟨e,by omega⟩]
   .rw[if_neg e,if_neg (λh=>e h.1)]
  .show(0:Int)=if (i:Int)<0 then V i else 0
   rw[if_neg (by omega)]
  obtain⟨a1,a3,a5,a6⟩:=hx;have a1:x.2.1=b:=a1;have a3:x.b.2.1=(U,D):=a3
  have s:=aSw (λi=>if i<4 then 0 else 1073741824) U D x.c.2.1 x.c.2.2 (λi=>if i<4 then V i else 0) b (λi hi=>⟨hD i hi,by
    show((if i<4 then(0:Int) else 1073741824)=1073741824/\(if i<4 then V i else 0)=0)∨((if i<4 then(0:Int) else 1073741824)=0/\okV (if i<4 then V i else 0));by_cases c:i<4
    .rw[if_pos c,if_pos c];exact Or.inr ⟨rfl,hV i c⟩
    .rw[if_neg c,if_neg c];exact Or.inl ⟨rfl,rfl⟩⟩) hU (λi k hi hk=>by
    rw[a5 i k hi hk];by_cases c:i=k
    .subst c;by_cases c2:i<4
     .rw[if_neg (λh=>h.2 c2),if_pos rfl,if_pos c2]
     .rw[if_pos ⟨rfl,c2⟩,if_pos rfl,if_neg c2]
    .rw[if_neg (λh=>c h.1),if_neg c]) a6
  rw[a3,a1,s,bX,av];refine Prod.ext (Prod.ext rfl (funext λi=> ?_)) rfl;show(if i<24 then kept _ D _ i else 0)=if i<24 then(if i<4 then V i else D i) else 0
  unfold kept;by_cases c:i<4
  .simp[c]
  .simp[c]
 obtain⟨r,h1,h2⟩:=h;rw[h1,h2]
noncomputable section
def allM:Nat->(Nat->Bool)->Bool
 |0,_=>true
 |n+1,f=>allM n f&&f n
theorem axM {f:Nat->Bool}:∀n,allM n f=true->∀i,i<n->f i=true
 |0,_,i,hi=>by omega
 |n+1,h,i,hi=>by
  have h:(allM n f&&f n)=true:=h;rw[cj] at h;by_cases e:i=n
  .rw[e];exact h.2
  .exact axM n h.1 i (by omega)
def isV (d:Int):Bool:=decide (d=17592186044416)||decide (d=68719476736)||decide (d=67108864)||decide (d=4294967296)||decide (d=17179869184)
theorem aTE {d:Int}(h:isV d=true):okV d:=by
 unfold isV at h;simp only[agn,ke] at h;unfold okV;omega
def aZm (U D:Nat->Int)(a:Int)(n:Nat)(V:Nat->Int):Bool:=
 ww n 4&&decide (a=0)&&allM 276 (λp=>decide (U p=0))&&allM 24 (λi=>isV (D i))&&allM 4 (λi=>isV (V i))
def rsQ:gf:=λU D a n b V w=>bif aZm U D a n V then some ((λ_=>0,λi=>if i<24 then(if i<4 then V i else D i) else 0),b) else de U D a n b V w
theorem a0M:de=rsQ:=by
 funext U D a n b V w
 unfold rsQ;cases h:aZm U D a n V
 .rfl
 .unfold aZm at h;simp only[cj,ke] at h;obtain⟨⟨⟨⟨h0,h1⟩,h2⟩,h3⟩,h4⟩:=h;have h0:=mO h0;subst h0;subst h1;refine aPq U D V b w (λp hp=>dq (axM _ h2 p hp)) (λi hi=>aTE (axM _ h3 i hi)) (λi hi=>aTE (axM _ h4 i hi))
def aZn (g:gf)(x:mq.B):Option ue:=(z6 pF jW aV kg KX gC g ep qf x).val
def a0N (g:gf)(x:lG.B):Option wB:=(CN (aZn g) K6 vi lH x).val
def aZo (g:gf):fU.B->Option pC:=bC (z8 (a0N g)) 2000
def aZp (g:gf)(d:im.B):Option mr:=(Ac (aZo g) d).val
def a2n (g:gf)(x:pj.B):Option yQ:=(EM jr fQ (aZp g) x).val
def aPr (g:gf):rr.B->Option Dy:=bC (Uz CO (a2n g)) 2000
def azV (g:gf)(x:IZ.B):Option Q3:=(aeb Gd (aPr g) x).val
theorem aMx:asY=azV rsQ:=by
 rw[<-a0M];rfl
end
end Go.Proofs.YtldgljclcgaibaaGreat
noncomputable section
namespace Go.Proofs.YtldgljclcgaibaaGreat
open Go.Ab Go.Ab.Pg Go.Ab.Rq
def aCw:=qa (pl (cl Ae nil) nil)
def aiV:=qe DQ
abbrev aCx:=aiV.B
abbrev aPs:=NI->NI->Option aCx
def aCy (g:aPs):Ct:=(30,FC aCw (lf aiV) (λb=>g b.1 b.2))
def aCz (fX:qy)(x0:Nat->Int)(x1:Nat->Int):Pg aCx:=opt (fX x0 x1 false) λd=>ret !d.2
def aCA:=λx0 x1=>(aCz fW x0 x1).val
theorem aPt:∀fX,D0 [Aw fX] 30 aCw (lf aiV) λb=>aCz fX b.1 b.2:=λ_ b=>by kernel_rfl
theorem aPu [ax]:SC (aCy aCA):=s0 (.c GG (.nil _)) (aPt fW)
def axN:=qa (pu nil nil)
def aee:=qe DQ
abbrev axO:=aee.B
abbrev aiW:=Option axO
def axP (g:aiW):Ct:=(19,FC axN (lf aee) (λ_=>g))
def V0:Option axO:=some true
theorem aPv [ax]:Snd Tryz.prog (aea (azV rsQ)):=aMx▸aIu
theorem aMy:alr Tryz.prog [aoz aoB,aea (azV rsQ),uR cJ,H8 uh,abu abw,yI fR,aoE Bi,aCy aCA,Kv rp,Gn oo,abH abJ,Sd yK] ⟨[],[],[],[],none⟩ 2000 19 axN (lf aee) λ_=>ret true:=λb=>by kernel_rfl
theorem aMz [ax]:SC (axP V0):=s0 (.c aGG (.c aPv (.c CR (.c Vb (.c axx (.c F3 (.c aCa (.c aPu (.c ZH (.c SI (.c axI (.c aoP (.nil _))))))))))))) aMy
def oq:=qa (pl (c (aa oI) (c wR (c wR (c ai (cl wR nil))))) nil)
def NG:=qe DQ
abbrev Qk:=NG.B
abbrev azW:=oq.B->Option Qk
def azX (g:azW):Ct:=(4,FC oq (lf NG) g)
def iT:=qs (st (pr (us 2 (c wR (c ai (c wR (cu auU (us 2 (xs 1 (us 2 (cu aSL (us 1 (cu aSM (us 1 (cl ai (us 165 nil)))))))))))))) (pl (c ayb (c (so (a 26 oI (c gb (c gR (a 2 oR (cu (gp 3 5) (cu (gp 4 10) (c (gc (dM (pu rq9 (pr EW (pl eC (pu zO dR)))))) (au 6 (cu aD4 (cu aD5 (cu aD6 (cu aD7 (cu (gp 10 8) (cu (gp 11 8) nil)))))) (cu (gp 12 37) (a 4 rW (cu (gp 13 3) (c gb (c gi (a 3 iw (c gb (c gb (c gb (c gi (c gi (c gi (a 10 rY (cl (gc (dM (pu auS (pu (ox (pu bV (pu bV (nat 10)))) (pl eC (pu (nat 10) dR)))))) nil))))))))))))))))))))))) (c (so (a 26 oI (c gb (c gR (a 2 oR (cu (gp 15 5) (cu (gp 16 10) (c (gc (dM (pu auT (pr EW (pl eC (pu zO dR)))))) (au 6 (cu (gp 18 8) (cu (gp 19 8) (cu (gp 20 8) (cu (gp 21 8) (cu (gp 22 8) (cu (gp 23 8) nil)))))) (cu (gp 24 37) (a 4 rW (cu (gp 25 3) (c gb (c gi (a 3 iw (c gb (c gb (c gb (c gi (c gi (c gi (a 10 rY (cl (gc (dM (pu (nat 26) (pu (ox (pu bV (pu bV (nat 10)))) (pl eC (pu (nat 10) dR)))))) nil))))))))))))))))))))))) (c mM (c mN (c oG (c Bv (c Oi (c (so (a 5 eO (c gi (c (gc (dM (pu (nat 29) (pu (ox (pu bV (pu bV du))) (pl eC (pu du dR)))))) gZ)))) (c (so (a 5 eO (c gi (c (gc (dM (pu (nat 30) (pu (ox (pu bV (pu bV du))) (pl eC (pu du dR)))))) gZ)))) (c (so (a 5 eO (c gi (c (gc (dM (pu (nat 31) (pu (ox (pu bV (pu bV du))) (pl eC (pu du dR)))))) gZ)))) (c (so ax9) (c lO (c (so (c gi (c gi (cl (gc (dM (pu (nat 33) (pu (ox (pu bV (pu bV kX))) (pl eC (pu kX dR)))))) nil)))) (c oH (c mM (c mN (c oG (c (so abS) (c (so abT) (c (so abU) (c (so abV) (c alp (c (so (a 5 eO (c gi (c (gc (dM (pu (nat 39) (pu (ox (pu bV (pu bV du))) (pl eC (pu du dR)))))) gZ)))) (c lO (c (so (c gi (c gi (cl (gc (dM (pu (nat 40) (pu (ox (pu bV (pu bV kX))) (pl eC (pu kX dR)))))) nil)))) (c oH (c jk (c jk (c jk (c jk (c jk (c jk (c Wa aEo)))))))))))))))))))))))))))))))))) nil)))
def auQ:=qs (st (pr (us 2 (c wR (c ai (c wR (cu auU (us 2 (xs 1 (us 2 (cu aSL (us 1 (cu aSM (us 1 (c ai (us 55 (c ai (c wR (c ai (cl ab (us 106 nil))))))))))))))))))) (pl (c ayb (c (so (a 26 oI (c gb (c gR (a 2 oR (cu (gp 3 5) (cu (gp 4 10) (c (gc (dM (pu rq9 (pr EW (pl eC (pu zO dR)))))) (au 6 (cu aD4 (cu aD5 (cu aD6 (cu aD7 (cu (gp 10 8) (cu (gp 11 8) nil)))))) (cu (gp 12 37) (a 4 rW (cu (gp 13 3) (c gb (c gi (a 3 iw (c gb (c gb (c gb (c gi (c gi (c gi (a 10 rY (cl (gc (dM (pu auS (pu (ox (pu bV (pu bV (nat 10)))) (pl eC (pu (nat 10) dR)))))) nil))))))))))))))))))))))) (c (so (a 26 oI (c gb (c gR (a 2 oR (cu (gp 15 5) (cu (gp 16 10) (c (gc (dM (pu auT (pr EW (pl eC (pu zO dR)))))) (au 6 (cu (gp 18 8) (cu (gp 19 8) (cu (gp 20 8) (cu (gp 21 8) (cu (gp 22 8) (cu (gp 23 8) nil)))))) (cu (gp 24 37) (a 4 rW (cu (gp 25 3) (c gb (c gi (a 3 iw (c gb (c gb (c gb (c gi (c gi (c gi (a 10 rY (cl (gc (dM (pu (nat 26) (pu (ox (pu bV (pu bV (nat 10)))) (pl eC (pu (nat 10) dR)))))) nil))))))))))))))))))))))) (c mM (c mN (c oG (c Bv (c Oi (c (so (a 5 eO (c gi (c (gc (dM (pu (nat 29) (pu (ox (pu bV (pu bV du))) (pl eC (pu du dR)))))) gZ)))) (c (so (a 5 eO (c gi (c (gc (dM (pu (nat 30) (pu (ox (pu bV (pu bV du))) (pl eC (pu du dR)))))) gZ)))) (c (so (a 5 eO (c gi (c (gc (dM (pu (nat 31) (pu (ox (pu bV (pu bV du))) (pl eC (pu du dR)))))) gZ)))) (c (so ax9) (c lO (c (so (c gi (c gi (cl (gc (dM (pu (nat 33) (pu (ox (pu bV (pu bV kX))) (pl eC (pu kX dR)))))) nil)))) (c oH (c mM (c mN (c oG (c (so abS) (c (so abT) (c (so abU) (c (so abV) (c alp (c (so (a 5 eO (c gi (c (gc (dM (pu (nat 39) (pu (ox (pu bV (pu bV du))) (pl eC (pu du dR)))))) gZ)))) (c lO (c (so (c gi (c gi (cl (gc (dM (pu (nat 40) (pu (ox (pu bV (pu bV kX))) (pl eC (pu kX dR)))))) nil)))) (c oH (c jk (c jk (c jk (c jk (c jk (c jk (c Wa aEo)))))))))))))))))))))))))))))))))) nil)))
abbrev ru:=((auR×Int×auR×Int×Int×Bool)×a0Q×(Hn×Bool×NI×(NI×NI)×(Nat×Nat)×rV×Bool×Int×ma×Bool×Bool×Bool×Int×Int×Int×ET×Nat)×(Hn×Bool×NI×(NI×NI)×(Nat×Nat)×rV×Bool×Int×ma×Bool×Bool×Bool×Int×Int×Int×ET×Nat)×(ma×Int×Int)×Oc×SK×bZ×bZ×bZ×bZ×bZ×bZ×NH×uU×EU×(ma×Int×Int)×Oc×SK×bZ×bZ×bZ×bZ×bZ×bZ×NH×uU×EU×mG×mG×mG×mG×mG×mG×aIF×mG×mG×mG×mG×mG×mG×Nat×NI×NI×NI×NI×NI×NI×NI×NI×NI×NI×NI)
def ZQ {ρ:Type}(x:ru)(K:AX->St->Option ρ):Option ρ:=(λd=>K (.ex 0) (auQ.em ((d.1.1,d.1.2.1,d.1.b.1,d.1.b.2.1,d.1.b.2.1,d.1.1,d.1.c),d.2))) x
def KB (uS:pk)(d:iT.B):PL iT ru:=let n27:=d.1.1;let n20:=d.1.2.2;let n9:=d.2.2;let n34:=n9.2.1.2;let n25:=n9.2.2.2.2;let bI:=n9.1.2.2.2.2;let n30:=bI.2.2.2.2.2.2.2.2.2.2.2.2;let ba:=n34.2.2.2;let n31:=ba.2.2.2.2.2.2.2.2.2.2.2.2;let n4:=n25.2.2;let n29:=n4.2.2;let aT:=n29.2.2;let n28:=aT.2.2;let n3:=n27.2.2.2.2.2.2.2.2.2.2.2.2;let n37:=n3.2.2;let bo:=n37.2.2;let n33:=bo.2.2;let n1:=n28.2.2.2.2.2;let n24:=n1.2.2;let n8:=n24.2.2.2;let n32:=n8.2.2;let n15:=n32.2.2.2;let n2:=n15.2.2.2.2.2;let n35:=n2.1.2.2;let n26:=n2.2.2.2.2;let bj:=n35.2.2.2;let n36:=bj.2.2.2;let n7:=n26.2.2.2.2.2;let n22:=n7.2.2.2.2;let y0:=wn n27.1;let y1:=wt n20.2;let y2:=decide (n20.2<y0);let y3:=Int.tmod (wI (wI (wI (y0-1)-n20.2)+wI (wn (ul (wd 64 d.1.2.1&&&wd 64 1023))))) y0;let y4:=wt y3;ae y2 (ae (aX n20.2 n27.1) (ae (!decide (y0=0)) (ae (aX y3 n27.1) (ae (ww bI.1.2 bI.1.2) (ae (ww n30 n30) (ae (ww n25.2.1.2.2.1 n25.2.1.2.2.1) (ae (ww n4.1.2.2.1 n4.1.2.2.1) (ae (ww n4.2.1.2.2.1 n4.2.1.2.2.1) (ae (ww n29.1.2.2.1 n29.1.2.2.1) (ae (ww n29.2.1.2.2.1 n29.2.1.2.2.1) (ae (ww aT.1.2.2.1 aT.1.2.2.1) (ae (ww n28.1.2.2 n28.1.2.2) (opt (uS ((n27.2.2.1 y1,n3.1 y1,n3.2.1 y1,n37.1 y1,n37.2.1 y1,bo.1 y1,bo.2.1 y1,n33.1 y1,n33.2.1 y1,n33.2.2 y1),(n9.1.1,n9.1.2.1,n9.1.2.2.1,n9.1.2.2.2.1,bI.1.2,bI.2),n9.2.2.1,n9.2.2.2.1,(sh8 bI.1.1 n25.1.2),n25.2.1,n4.1,n4.2.1,n29.1,n29.2.1,aT.1,aT.2.1,n28.1,(aef 0 n28.2.1.2),(kQ 0 n32.2.2.1.2),(kQ 0 n15.1.2),(kQ 0 n15.2.1.2),(kQ 0 n15.2.2.1.2),(kQ 0 n15.2.2.2.1.2),(kQ 0 n15.2.2.2.2.1.2),λj=>n2.1.2.1 (0+j),λj=>n35.1 (0+j),λj=>n35.2.1 (0+j),λj=>n35.2.2.1 (0+j),λj=>bj.1 (0+j),λj=>bj.2.1 (0+j),λj=>bj.2.2.1 (0+j),λj=>n36.1 (0+j),λj=>n36.2.1 (0+j),λj=>n36.2.2.1 (0+j),λj=>n36.2.2.2 (0+j))) λaj=>let n21:=aj.2.1.2.2;let n16:=aj.2.2.2.2.2;let n5:=n16.2.2.2.2.2;let n38:=n5.2.2;let n18:=n38.2.2.2;ae (ww ba.1.2 ba.1.2) (ae (ww n31 n31) (ae (ww n1.1.2.2.1 n1.1.2.2.1) (ae (ww n1.2.1.2.2.1 n1.2.1.2.2.1) (ae (ww n24.1.2.2.1 n24.1.2.2.1) (ae (ww n24.2.1.2.2.1 n24.2.1.2.2.1) (ae (ww n24.2.2.1.2.2.1 n24.2.2.1.2.2.1) (ae (ww n8.1.2.2.1 n8.1.2.2.1) (ae (ww n32.1.2.2 n32.1.2.2) (opt (uS ((n27.2.2.1 y4,n3.1 y4,n3.2.1 y4,n37.1 y4,n37.2.1 y4,bo.1 y4,bo.2.1 y4,n33.1 y4,n33.2.1 y4,n33.2.2 y4),(n9.2.1.1,n34.1,n34.2.1,n34.2.2.1,ba.1.2,ba.2),n28.2.2.1,n28.2.2.2.1,(sh8 ba.1.1 n28.2.2.2.2.1.2),n1.1,n1.2.1,n24.1,n24.2.1,n24.2.2.1,n8.1,n8.2.1,n32.1,(aef 0 n32.2.1.2),(kQ 0 n2.2.1.2),(kQ 0 n2.2.2.1.2),(kQ 0 n2.2.2.2.1.2),(kQ 0 n26.1.2),(kQ 0 n26.2.1.2),(kQ 0 n26.2.2.1.2),λj=>n26.2.2.2.2.1 (0+j),λj=>n7.1 (0+j),λj=>n7.2.1 (0+j),λj=>n7.2.2.1 (0+j),λj=>n7.2.2.2.1 (0+j),λj=>n22.1 (0+j),λj=>n22.2.1 (0+j),λj=>n22.2.2.1 (0+j),λj=>n22.2.2.2.1 (0+j),λj=>n22.2.2.2.2.1 (0+j),λj=>n22.2.2.2.2.2 (0+j))) λaE=>let n23:=aE.2.1.2.2;let n17:=aE.2.2.2.2.2;let n6:=n17.2.2.2.2.2;let n39:=n6.2.2;let n19:=n39.2.2.2;ret (ws ((n27,d.1.2.1,n20.1,wI (n20.2+1)),d.2.1,(aj.2.1.1,aj.2.1.2.1,n21.1,n21.2.1,(0,n21.2.2.1),n21.2.2.2),(aE.2.1.1,aE.2.1.2.1,n23.1,n23.2.1,(0,n23.2.2.1),n23.2.2.2),aj.2.2.1,aj.2.2.2.1,(n21.2.2.1,aj.2.2.2.2.1),n16.1,n16.2.1,n16.2.2.1,n16.2.2.2.1,n16.2.2.2.2.1,n5.1,n5.2.1,n38.1,(n21.2.2.2.2.2.2.2.2.2.2.2.2.2.2,n38.2.1),aE.2.2.1,aE.2.2.2.1,(n23.2.2.1,aE.2.2.2.2.1),n17.1,n17.2.1,n17.2.2.1,n17.2.2.2.1,n17.2.2.2.2.1,n6.1,n6.2.1,n39.1,(n23.2.2.2.2.2.2.2.2.2.2.2.2.2.2,n39.2.1),n38.2.2.1,n18.1,n18.2.1,n18.2.2.1,n18.2.2.2.1,n18.2.2.2.2.1,(n38.1.2.2,n18.2.2.2.2.2),n39.2.2.1,n19.1,n19.2.1,n19.2.2.1,n19.2.2.2.1,n19.2.2.2.2.1,n39.1.2.2,n19.2.2.2.2.2))) no) no) no) no) no) no) no) no) no) no) no) no) no) no) no) no) no) no) no) no) no) (ret (wr ((n27,d.1.2.1,n20.1,n20.2,y0,y2),d.2)))
def CS:=bC (KB cJ) 2000
def gQ:=qs (st (pr (us 3 (c ai (c wR (cu auU (us 2 (xs 1 (us 2 (cu aSL (us 1 (cu aSM (us 1 (c ai (us 2 (cl ai (us 162 nil))))))))))))))) (pl (c ayb (c (so (a 26 oI (c gb (c gR (a 2 oR (cu (gp 3 5) (cu (gp 4 10) (c (gc (dM (pu rq9 (pr EW (pl eC (pu zO dR)))))) (au 6 (cu aD4 (cu aD5 (cu aD6 (cu aD7 (cu (gp 10 8) (cu (gp 11 8) nil)))))) (cu (gp 12 37) (a 4 rW (cu (gp 13 3) (c gb (c gi (a 3 iw (c gb (c gb (c gb (c gi (c gi (c gi (a 10 rY (cl (gc (dM (pu auS (pu (ox (pu bV (pu bV (nat 10)))) (pl eC (pu (nat 10) dR)))))) nil))))))))))))))))))))))) (c (so (a 26 oI (c gb (c gR (a 2 oR (cu (gp 15 5) (cu (gp 16 10) (c (gc (dM (pu auT (pr EW (pl eC (pu zO dR)))))) (au 6 (cu (gp 18 8) (cu (gp 19 8) (cu (gp 20 8) (cu (gp 21 8) (cu (gp 22 8) (cu (gp 23 8) nil)))))) (cu (gp 24 37) (a 4 rW (cu (gp 25 3) (c gb (c gi (a 3 iw (c gb (c gb (c gb (c gi (c gi (c gi (a 10 rY (cl (gc (dM (pu (nat 26) (pu (ox (pu bV (pu bV (nat 10)))) (pl eC (pu (nat 10) dR)))))) nil))))))))))))))))))))))) (c mM (c mN (c oG (c Bv (c Oi (c (so (a 5 eO (c gi (c (gc (dM (pu (nat 29) (pu (ox (pu bV (pu bV du))) (pl eC (pu du dR)))))) gZ)))) (c (so (a 5 eO (c gi (c (gc (dM (pu (nat 30) (pu (ox (pu bV (pu bV du))) (pl eC (pu du dR)))))) gZ)))) (c (so (a 5 eO (c gi (c (gc (dM (pu (nat 31) (pu (ox (pu bV (pu bV du))) (pl eC (pu du dR)))))) gZ)))) (c (so ax9) (c lO (c (so (c gi (c gi (cl (gc (dM (pu (nat 33) (pu (ox (pu bV (pu bV kX))) (pl eC (pu kX dR)))))) nil)))) (c oH (c mM (c mN (c oG (c (so abS) (c (so abT) (c (so abU) (c (so abV) (c alp (c (so (a 5 eO (c gi (c (gc (dM (pu (nat 39) (pu (ox (pu bV (pu bV du))) (pl eC (pu du dR)))))) gZ)))) (c lO (c (so (c gi (c gi (cl (gc (dM (pu (nat 40) (pu (ox (pu bV (pu bV kX))) (pl eC (pu kX dR)))))) nil)))) (c oH (c jk (c jk (c jk (c jk (c jk (c jk (c Wa aEo)))))))))))))))))))))))))))))))))) nil)))
def Oa:=qs (st (pu (us 10 (cu Od (us 170 nil))) (pu nil nil)))
def alb:=qs (st (pr (us 3 (c ai (c wR (cu auU (us 2 (xs 1 (us 2 (cu aSL (us 1 (cu aSM (us 1 (c ai (us 2 (c ai (us 88 (c ai (cl ab (us 72 nil)))))))))))))))))) (pl (c ayb (c (so (a 26 oI (c gb (c gR (a 2 oR (cu (gp 3 5) (cu (gp 4 10) (c (gc (dM (pu rq9 (pr EW (pl eC (pu zO dR)))))) (au 6 (cu aD4 (cu aD5 (cu aD6 (cu aD7 (cu (gp 10 8) (cu (gp 11 8) nil)))))) (cu (gp 12 37) (a 4 rW (cu (gp 13 3) (c gb (c gi (a 3 iw (c gb (c gb (c gb (c gi (c gi (c gi (a 10 rY (cl (gc (dM (pu auS (pu (ox (pu bV (pu bV (nat 10)))) (pl eC (pu (nat 10) dR)))))) nil))))))))))))))))))))))) (c (so (a 26 oI (c gb (c gR (a 2 oR (cu (gp 15 5) (cu (gp 16 10) (c (gc (dM (pu auT (pr EW (pl eC (pu zO dR)))))) (au 6 (cu (gp 18 8) (cu (gp 19 8) (cu (gp 20 8) (cu (gp 21 8) (cu (gp 22 8) (cu (gp 23 8) nil)))))) (cu (gp 24 37) (a 4 rW (cu (gp 25 3) (c gb (c gi (a 3 iw (c gb (c gb (c gb (c gi (c gi (c gi (a 10 rY (cl (gc (dM (pu (nat 26) (pu (ox (pu bV (pu bV (nat 10)))) (pl eC (pu (nat 10) dR)))))) nil))))))))))))))))))))))) (c mM (c mN (c oG (c Bv (c Oi (c (so (a 5 eO (c gi (c (gc (dM (pu (nat 29) (pu (ox (pu bV (pu bV du))) (pl eC (pu du dR)))))) gZ)))) (c (so (a 5 eO (c gi (c (gc (dM (pu (nat 30) (pu (ox (pu bV (pu bV du))) (pl eC (pu du dR)))))) gZ)))) (c (so (a 5 eO (c gi (c (gc (dM (pu (nat 31) (pu (ox (pu bV (pu bV du))) (pl eC (pu du dR)))))) gZ)))) (c (so ax9) (c lO (c (so (c gi (c gi (cl (gc (dM (pu (nat 33) (pu (ox (pu bV (pu bV kX))) (pl eC (pu kX dR)))))) nil)))) (c oH (c mM (c mN (c oG (c (so abS) (c (so abT) (c (so abU) (c (so abV) (c alp (c (so (a 5 eO (c gi (c (gc (dM (pu (nat 39) (pu (ox (pu bV (pu bV du))) (pl eC (pu du dR)))))) gZ)))) (c lO (c (so (c gi (c gi (cl (gc (dM (pu (nat 40) (pu (ox (pu bV (pu bV kX))) (pl eC (pu kX dR)))))) nil)))) (c oH (c jk (c jk (c jk (c jk (c jk (c jk (c Wa aEo)))))))))))))))))))))))))))))))))) nil)))
abbrev rv:=Oa.B⊕((Int×auR×Int×Int×Bool)×a0Q×(Hn×Bool×NI×(NI×NI)×(Nat×Nat)×rV×Bool×Int×ma×Bool×Bool×Bool×Int×Int×Int×ET×Nat)×(Hn×Bool×NI×(NI×NI)×(Nat×Nat)×rV×Bool×Int×ma×Bool×Bool×Bool×Int×Int×Int×ET×Nat)×(ma×Int×Int)×Oc×SK×bZ×bZ×bZ×bZ×bZ×bZ×NH×uU×EU×(ma×Int×Int)×Oc×SK×bZ×bZ×bZ×bZ×bZ×bZ×NH×uU×EU×mG×mG×mG×mG×mG×mG×aIF×mG×mG×mG×mG×mG×mG×Nat×NI×NI×NI×NI×NI×NI×NI×NI×NI×NI×NI)
def ZR {ρ:Type}(x:rv)(K:AX->St->Option ρ):Option ρ:=(Sum.elim (λd=>K .ret (Oa.em d)) (λd=>K (.ex 2) (alb.em ((d.1.1,d.1.2.1,d.1.b.1,d.1.b.2.1,d.1.b.2),d.2)))) x
def KC (SJ:Gm)(d:gQ.B):PL gQ rv:=let bo:=d.1.2.2;let n6:=d.2.2;let n22:=n6.2.1.2;let n15:=n6.2.2.2.2;let aT:=n6.1.2.2.2.2;let n19:=aT.2.2.2.2.2.2.2.2.2.2.2.2;let n8:=n22.2.2.2;let n20:=n8.2.2.2.2.2.2.2.2.2.2.2.2;let n3:=n15.2.2;let n18:=n3.2.2;let n7:=n18.2.2;let n17:=n7.2.2;let n1:=n17.2.2.2.2.2;let bI:=n1.2.2;let n5:=bI.2.2.2;let n21:=n5.2.2;let ba:=n21.2.2.2;let n2:=ba.2.2.2.2.2;let n23:=n2.1.2.2;let n16:=n2.2.2.2.2;let n9:=n23.2.2.2;let n24:=n9.2.2.2;let n4:=n16.2.2.2.2.2;let bj:=n4.2.2.2.2;let y0:=decide (bo.2<6);ae y0 (ae (ww aT.1.2 aT.1.2) (ae (ww n19 n19) (ae (ww n15.2.1.2.2.1 n15.2.1.2.2.1) (ae (ww n3.1.2.2.1 n3.1.2.2.1) (ae (ww n3.2.1.2.2.1 n3.2.1.2.2.1) (ae (ww n18.1.2.2.1 n18.1.2.2.1) (ae (ww n18.2.1.2.2.1 n18.2.1.2.2.1) (ae (ww n7.1.2.2.1 n7.1.2.2.1) (ae (ww n17.1.2.2 n17.1.2.2) (opt (SJ (bo.2,(n6.1.1,n6.1.2.1,n6.1.2.2.1,n6.1.2.2.2.1,aT.1.2,aT.2),n6.2.2.1,n6.2.2.2.1,(sh8 aT.1.1 n15.1.2),n15.2.1,n3.1,n3.2.1,n18.1,n18.2.1,n7.1,n7.2.1,n17.1,(aef 0 n17.2.1.2),(kQ 0 n21.2.2.1.2),(kQ 0 ba.1.2),(kQ 0 ba.2.1.2),(kQ 0 ba.2.2.1.2),(kQ 0 ba.2.2.2.1.2),(kQ 0 ba.2.2.2.2.1.2),λj=>n2.1.2.1 (0+j),λj=>n23.1 (0+j),λj=>n23.2.1 (0+j),λj=>n23.2.2.1 (0+j),λj=>n9.1 (0+j),λj=>n9.2.1 (0+j),λj=>n9.2.2.1 (0+j),λj=>n24.1 (0+j),λj=>n24.2.1 (0+j),λj=>n24.2.2.1 (0+j),λj=>n24.2.2.2 (0+j))) λaj=>ae (aj.2.2.1!=0) (ret (wr (ws ()))) (ae (ww n8.1.2 n8.1.2) (ae (ww n20 n20) (ae (ww n1.1.2.2.1 n1.1.2.2.1) (ae (ww n1.2.1.2.2.1 n1.2.1.2.2.1) (ae (ww bI.1.2.2.1 bI.1.2.2.1) (ae (ww bI.2.1.2.2.1 bI.2.1.2.2.1) (ae (ww bI.2.2.1.2.2.1 bI.2.2.1.2.2.1) (ae (ww n5.1.2.2.1 n5.1.2.2.1) (ae (ww n21.1.2.2 n21.1.2.2) (opt (SJ (bo.2,(n6.2.1.1,n22.1,n22.2.1,n22.2.2.1,n8.1.2,n8.2),n17.2.2.1,n17.2.2.2.1,(sh8 n8.1.1 n17.2.2.2.2.1.2),n1.1,n1.2.1,bI.1,bI.2.1,bI.2.2.1,n5.1,n5.2.1,n21.1,(aef 0 n21.2.1.2),(kQ 0 n2.2.1.2),(kQ 0 n2.2.2.1.2),(kQ 0 n2.2.2.2.1.2),(kQ 0 n16.1.2),(kQ 0 n16.2.1.2),(kQ 0 n16.2.2.1.2),λj=>n16.2.2.2.2.1 (0+j),λj=>n4.1 (0+j),λj=>n4.2.1 (0+j),λj=>n4.2.2.1 (0+j),λj=>n4.2.2.2.1 (0+j),λj=>bj.1 (0+j),λj=>bj.2.1 (0+j),λj=>bj.2.2.1 (0+j),λj=>bj.2.2.2.1 (0+j),λj=>bj.2.2.2.2.1 (0+j),λj=>bj.2.2.2.2.2 (0+j))) λaE=>ae (aE.2.2.1!=0) (ret (wr (ws ()))) (ret (ws ((d.1.1,d.1.2.1,bo.1,wI (bo.2+1)),d.2)))) no) no) no) no) no) no) no) no) no)) no) no) no) no) no) no) no) no) no) (ret (wr (wr ((d.1.1,d.1.2.1,bo.1,bo.2,y0),d.2))))
def CT:=bC (KC oo) 2000
def kc:=qs (st (pr (us 23 (c aQN (c aW3 (cl ai (us 155 nil))))) (pl aKy nil)))
def Ob:=qs (st (pu (us 10 (cu ui (us 170 nil))) (pu nil nil)))
def alc:=qs (st (pr (us 23 (c aQN (c aW3 (c ai (us 140 (c ai (c aQN aQa))))))) (pl aKy nil)))
abbrev wD:=Ob.B⊕((Nat×Nat×Int×Int×Bool)×aIF×Nat×NI×NI×NI×NI×NI×NI×NI×NI×NI×NI×NI)
def ZS {ρ:Type}(x:wD)(K:AX->St->Option ρ):Option ρ:=(Sum.elim (λd=>K .ret (Ob.em d)) (λd=>K (.ex 4) (alc.em ((d.1.1,d.1.2.1,d.1.b.1,d.1.b.1,d.1.1,d.1.b.2),d.2)))) x
def KD (d:kc.B):PL kc wD:=let n7:=d.2.1.2;let n6:=d.2.2.2;let n3:=d.1.2;let n2:=n6.2.2.2;let n5:=n2.2.2.2;let n1:=n7.2.2.2;let n4:=n1.2.2.2;let y0:=wn d.1.1;let y1:=0+wt n3.2;let y2:=decide (n3.2<y0);ae y2 (ae (aX n3.2 d.1.1) (ae (aX n3.2 n3.1) (ae (!(n7.1 y1==n6.1 y1&&(n7.2.1 y1==n6.2.1 y1&&(n7.2.2.1 y1==n6.2.2.1 y1&&(n1.1 y1==n2.1 y1&&(n1.2.1 y1==n2.2.1 y1&&true)))&&(n1.2.2.1 y1==n2.2.2.1 y1&&(n4.1 y1==n5.1 y1&&(n4.2.1 y1==n5.2.1 y1&&true))&&(n4.2.2.1 y1==n5.2.2.1 y1&&(n4.2.2.2.1 y1==n5.2.2.2.1 y1&&(n4.2.2.2.2 y1==n5.2.2.2.2 y1&&true))&&true))))) (ret (wr (ws ()))) (ret (ws ((d.1.1,n3.1,wI (n3.2+1)),d.2)))) no) no) (ret (wr (wr ((d.1.1,n3.1,n3.2,y0,y2),d.2))))
def KE:=bC (KD) 2000
def Ql (aMA:aiW)(ZN:Zw)(aiX:auO)(Vc:H7)(ZT:Ku)(yT:sO)(ew:LT iT ru)(qx:LT gQ rv)(JV:LT kc wD)(x:oq.B):Pg Qk:=let aPw:=x.2.2;let n27:=x.1.2.2.2.2;let aTF:=n27.1.2.2;let n95:=n27.2.1.2;let y0:=wn aPw.1.1;opt aMA λd=>ae (!d) (ret false) (ae (decide (y0>12)) (ret true) (ae (y0==0) (ret true) (ae (decide (wn x.2.1.1>10)) (ret true) (ae (decide (wn aPw.2.2.1>5)) (ret true) (opt (ZN x.1) λd=>ae (match d with|ws val=>true|wr val=>false) (opt (match d with|ws a=>some a|wr val=>none) λd=>opt (ZN x.1) λd=>ae (match d with|ws val=>true|wr val=>false) (opt (match d with|ws a=>some a|wr val=>none) λd=>ret true) (opt (match d with|wr b=>some b|ws val=>none) λd=>ret false)) (opt (match d with|wr b=>some b|ws val=>none) λd=>let n88:=d.1.2.2;let n33:=n88.2.2.2.2;let n89:=n33.2.2.2;let n19:=d.2.2.2;let n56:=n19.2.2.2.2.2;let n9:=n89.2.2.2.2;let n90:=n9.2.2.2;let n28:=n90.2.2.2.2;let n79:=n28.2.2.2.2;let n6:=n56.2.2.2.2;let n73:=n6.2.1;let Ef:=n6.2.2;let n74:=Ef.2.1;let n16:=Ef.2.2;let n75:=n16.2.1;let n63:=n16.2.2;opt (ZN x.1) λaj=>ae (match aj with|ws val=>true|wr val=>false) (opt (match aj with|ws a=>some a|wr val=>none) λd=>ret false) (opt (match aj with|wr b=>some b|ws val=>none) λaE=>let n91:=aE.1.2.2;let n34:=n91.2.2.2.2;let n92:=n34.2.2.2;let n20:=aE.2.2.2;let n57:=n20.2.2.2.2.2;let aT:=n92.2.2.2.2;let n93:=aT.2.2.2;let n29:=n93.2.2.2.2;let n80:=n29.2.2.2.2;let n7:=n57.2.2.2.2;let n76:=n7.2.1;let F6:=n7.2.2;let n77:=F6.2.1;let n17:=F6.2.2;let n78:=n17.2.1;let n64:=n17.2.2;opt (aiX (x.2.1,((d.1.1,d.1.2.1,n88.1,n88.2.1,(n88.2.2.1,n88.2.2.2.1,n33.1,n33.2.1,n33.2.2.1,n89.1),(n89.2.1,n89.2.2.1,n89.2.2.2.1,n9.1,n9.2.1,n9.2.2.1),n90.1,n90.2.1,n90.2.2.1,n90.2.2.2.1,n28.1,n28.2.1,n28.2.2.1,n28.2.2.2.1,n79.1,n79.2.1),n79.2.2.1,n79.2.2.2.1,n79.2.2.2.2,0,(0,0,false,false),false,0,(0,0,0),false,false,false,0,0,0,((1073741824,0,0,0),(0,0,0),0,0,0),0),((d.2.1.1,d.2.1.2.1,d.2.1.2.2.1),d.2.1.2.2.2),(d.2.2.1,(0,0,(0,0,0),0,0,0),false),(n19.1,n19.1,n19.1,n19.1,n19.1,n19.1,n19.1,n19.1),((0,0,0,0,0),n19.2.1,0, -9223372036854775808),((0,0,0,0,0),n19.2.2.1,0, -9223372036854775808),((0,0,0,0,0),n19.2.2.2.1,0, -9223372036854775808),((0,0,0,0,0),n19.2.2.2.2.1,0, -9223372036854775808),((0,0,0,0,0),n56.1,0, -9223372036854775808),((0,0,0,0,0),n56.2.1,0, -9223372036854775808),(n56.2.2.1,0),(n56.2.2.2.1.1,n56.2.2.2.1.2,0),(n19.1,n19.1,n19.1,n19.1,n19.1,n19.1,n19.1,n19.1,n19.1,n19.1),(n6.1,n6.1,n6.1,n6.1,n6.1,n6.1,n6.1,n6.1,n6.1),(n73,n73,n73,n73,n73,n73,n73,n73,n73),(Ef.1,Ef.1,Ef.1,Ef.1,Ef.1,Ef.1,Ef.1,Ef.1,Ef.1),(n74,n74,n74,n74,n74,n74,n74,n74,n74),(n16.1,n16.1,n16.1,n16.1,n16.1,n16.1,n16.1,n16.1,n16.1),(n75,n75,n75,n75,n75,n75,n75,n75,n75),n63,n63,n63,n63,n63,n63,n63,n63,n63,n63,n63)) λd=>let n58:=d.2.2.2.2.2;let n18:=n58.2.2.2.2.2;let n59:=n18.2.2.2.2.2;opt (aiX (x.2.1,((aE.1.1,aE.1.2.1,n91.1,n91.2.1,(n91.2.2.1,n91.2.2.2.1,n34.1,n34.2.1,n34.2.2.1,n92.1),(n92.2.1,n92.2.2.1,n92.2.2.2.1,aT.1,aT.2.1,aT.2.2.1),n93.1,n93.2.1,n93.2.2.1,n93.2.2.2.1,n29.1,n29.2.1,n29.2.2.1,n29.2.2.2.1,n80.1,n80.2.1),n80.2.2.1,n80.2.2.2.1,n80.2.2.2.2,0,(0,0,false,false),false,0,(0,0,0),false,false,false,0,0,0,((1073741824,0,0,0),(0,0,0),0,0,0),0),((aE.2.1.1,aE.2.1.2.1,aE.2.1.2.2.1),aE.2.1.2.2.2),(aE.2.2.1,(0,0,(0,0,0),0,0,0),false),(n20.1,n20.1,n20.1,n20.1,n20.1,n20.1,n20.1,n20.1),((0,0,0,0,0),n20.2.1,0, -9223372036854775808),((0,0,0,0,0),n20.2.2.1,0, -9223372036854775808),((0,0,0,0,0),n20.2.2.2.1,0, -9223372036854775808),((0,0,0,0,0),n20.2.2.2.2.1,0, -9223372036854775808),((0,0,0,0,0),n57.1,0, -9223372036854775808),((0,0,0,0,0),n57.2.1,0, -9223372036854775808),(n57.2.2.1,0),(n57.2.2.2.1.1,n57.2.2.2.1.2,0),(n20.1,n20.1,n20.1,n20.1,n20.1,n20.1,n20.1,n20.1,n20.1,n20.1),(n7.1,n7.1,n7.1,n7.1,n7.1,n7.1,n7.1,n7.1,n7.1),(n76,n76,n76,n76,n76,n76,n76,n76,n76),(F6.1,F6.1,F6.1,F6.1,F6.1,F6.1,F6.1,F6.1,F6.1),(n77,n77,n77,n77,n77,n77,n77,n77,n77),(n17.1,n17.1,n17.1,n17.1,n17.1,n17.1,n17.1,n17.1,n17.1),(n78,n78,n78,n78,n78,n78,n78,n78,n78),n64,n64,n64,n64,n64,n64,n64,n64,n64,n64,n64)) λbE=>let n94:=bE.2.2.2;let n35:=n94.2.2.2.2;let n96:=n35.2.2.2;opt (ew ((aPw.1,aPw.2.1,aPw.2.2,0),(x.1.1,x.1.2.1,x.1.2.2.1,x.1.2.2.2.1,n27.1.1,n27.1.2.1,aTF.1,aTF.2.1,aTF.2.2.1,aTF.2.2.2,n27.2.1.1,n95.1,n95.2.1,n95.2.2.1,n95.2.2.2.1,n95.2.2.2.2,n27.2.2),d.2.1,bE.2.1,d.2.2.1,d.2.2.2.1,d.2.2.2.2.1,n58.1,n58.2.1,n58.2.2.1,n58.2.2.2.1,n58.2.2.2.2.1,n18.1,n18.2.1,n18.2.2.1,n18.2.2.2.1,bE.2.2.1,n94.1,n94.2.1,n94.2.2.1,n94.2.2.2.1,n35.1,n35.2.1,n35.2.2.1,n96.1,n96.2.1,n96.2.2.1,n96.2.2.2.1,n18.2.2.2.2.1,n59.1,n59.2.1,n59.2.2.1,n59.2.2.2.1,n59.2.2.2.2.1,n59.2.2.2.2.2,n96.2.2.2.2)) λd=>opt (qx ((d.1.2.1,d.1.2.2.1,d.1.2.2.2.1,0),d.2)) λx=>sum x (λd=>ret true) λd=>let n30:=d.2.2;let aTG:=n30.2.1.2;let n81:=n30.2.2.2.2;let n49:=n30.1.2.2.2.2;let n98:=n49.2.2.2.2.2.2.2.2.2.2.2.2;let PN:=aTG.2.2.2;let a1K:=PN.2.2.2.2.2.2.2.2.2.2.2.2;let ba:=n81.2.2;let n97:=ba.2.2;let n38:=n97.2.2;let n83:=n38.2.2;let n3:=n83.2.2.2.2.2;let n72:=n3.2.2;let n26:=n72.2.2.2;let aJ0:=n26.2.2;let n60:=aJ0.2.2.2;let n8:=n60.2.2.2.2.2;let aTH:=n8.1.2.2;let n82:=n8.2.2.2.2;let Zi:=aTH.2.2.2;let aTI:=Zi.2.2.2;let n21:=n82.2.2.2.2.2;let n66:=n21.2.2.2.2;ae (ww n49.1.2 n49.1.2) (ae (ww n98 n98) (ae (ww n81.2.1.2.2.1 n81.2.1.2.2.1) (ae (ww ba.1.2.2.1 ba.1.2.2.1) (ae (ww ba.2.1.2.2.1 ba.2.1.2.2.1) (ae (ww n97.1.2.2.1 n97.1.2.2.1) (ae (ww n97.2.1.2.2.1 n97.2.1.2.2.1) (ae (ww n38.1.2.2.1 n38.1.2.2.1) (ae (ww n83.1.2.2 n83.1.2.2) (opt (aiX (d.1.2.1,(n30.1.1,n30.1.2.1,n30.1.2.2.1,n30.1.2.2.2.1,n49.1.2,n49.2),n30.2.2.1,n30.2.2.2.1,(sh8 n49.1.1 n81.1.2),n81.2.1,ba.1,ba.2.1,n97.1,n97.2.1,n38.1,n38.2.1,n83.1,(aef 0 n83.2.1.2),(kQ 0 aJ0.2.2.1.2),(kQ 0 n60.1.2),(kQ 0 n60.2.1.2),(kQ 0 n60.2.2.1.2),(kQ 0 n60.2.2.2.1.2),(kQ 0 n60.2.2.2.2.1.2),λj=>n8.1.2.1 (0+j),λj=>aTH.1 (0+j),λj=>aTH.2.1 (0+j),λj=>aTH.2.2.1 (0+j),λj=>Zi.1 (0+j),λj=>Zi.2.1 (0+j),λj=>Zi.2.2.1 (0+j),λj=>aTI.1 (0+j),λj=>aTI.2.1 (0+j),λj=>aTI.2.2.1 (0+j),λj=>aTI.2.2.2 (0+j))) λcC=>let aTJ:=cC.2.1.2;let n24:=aTJ.2.2.2;let n99:=n24.2.2.2.2.2.2.2.2.2.2.2.2;let n85:=n24.1.1;let bI:=cC.2.2.2.2;let aHd:=bI.2.2;let n65:=bI.1.2.2.2;let n31:=aHd.2.2;let n84:=n31.2.2;let n4:=n84.2.2.2;let aJ1:=n4.2.2;let n51:=n4.2.1.2.2.2;let aTK:=n51.2.2.2;let n50:=n4.1.2.2.2.2;let aTL:=n50.2.2.2;let n45:=aJ1.1.2.2.2;let aTM:=n45.2.2.2;let n39:=aJ1.2.1.2.2;let aPx:=n39.2.2.2;let bj:=aJ1.2.2;let aHe:=bj.2.2;let n61:=bj.1.2.2.2.2;let n52:=bj.2.1.2.2.2;let aTN:=n52.2.2.2;let n46:=aHe.1.2.2.2;let aTO:=n46.2.2.2;let n36:=aHe.2.2.2.2.2;let aPy:=n36.2.2.2;let n1:=((cC.2.1.1,aTJ.1,aTJ.2.1,aTJ.2.2.1,n24.1.2,n24.2),cC.2.2.1,cC.2.2.2.1,(λj=>bI.1.2.1 (n85+j),λj=>bI.1.2.2.1 (n85+j),λj=>n65.1 (n85+j),λj=>n65.2.1 (n85+j),λj=>n65.2.2.1 (n85+j),λj=>n65.2.2.2.1 (n85+j),λj=>n65.2.2.2.2.1 (n85+j),λj=>(n65.2.2.2.2.2,()).1 (n85+j)),bI.2.1,aHd.1,aHd.2.1,n31.1,n31.2.1,n84.1,n84.2.1,n84.2.2.1,(λj=>n4.1.2.1 (0+j),λj=>n4.1.2.2.1 (0+j),λj=>n4.1.2.2.2.1 (0+j),λj=>n50.1 (0+j),λj=>n50.2.1 (0+j),λj=>n50.2.2.1 (0+j),λj=>aTL.1 (0+j),λj=>aTL.2.1 (0+j),λj=>aTL.2.2.1 (0+j),λj=>(aTL.2.2.2,()).1 (0+j)),(λj=>n4.2.1.2.1 (0+j),λj=>n4.2.1.2.2.1 (0+j),λj=>n51.1 (0+j),λj=>n51.2.1 (0+j),λj=>n51.2.2.1 (0+j),λj=>aTK.1 (0+j),λj=>aTK.2.1 (0+j),λj=>aTK.2.2.1 (0+j),λj=>(aTK.2.2.2,()).1 (0+j)),(λj=>aJ1.1.2.1 (0+j),λj=>aJ1.1.2.2.1 (0+j),λj=>n45.1 (0+j),λj=>n45.2.1 (0+j),λj=>n45.2.2.1 (0+j),λj=>aTM.1 (0+j),λj=>aTM.2.1 (0+j),λj=>aTM.2.2.1 (0+j),λj=>(aTM.2.2.2,()).1 (0+j)),(λj=>aJ1.2.1.2.1 (0+j),λj=>n39.1 (0+j),λj=>n39.2.1 (0+j),λj=>n39.2.2.1 (0+j),λj=>aPx.1 (0+j),λj=>aPx.2.1 (0+j),λj=>aPx.2.2.1 (0+j),λj=>aPx.2.2.2.1 (0+j),λj=>(aPx.2.2.2.2,()).1 (0+j)),(λj=>bj.1.2.1 (0+j),λj=>bj.1.2.2.1 (0+j),λj=>bj.1.2.2.2.1 (0+j),λj=>n61.1 (0+j),λj=>n61.2.1 (0+j),λj=>n61.2.2.1 (0+j),λj=>n61.2.2.2.1 (0+j),λj=>n61.2.2.2.2.1 (0+j),λj=>(n61.2.2.2.2.2,()).1 (0+j)),(λj=>bj.2.1.2.1 (0+j),λj=>bj.2.1.2.2.1 (0+j),λj=>n52.1 (0+j),λj=>n52.2.1 (0+j),λj=>n52.2.2.1 (0+j),λj=>aTN.1 (0+j),λj=>aTN.2.1 (0+j),λj=>aTN.2.2.1 (0+j),λj=>(aTN.2.2.2,()).1 (0+j)),(λj=>aHe.1.2.1 (0+j),λj=>aHe.1.2.2.1 (0+j),λj=>n46.1 (0+j),λj=>n46.2.1 (0+j),λj=>n46.2.2.1 (0+j),λj=>aTO.1 (0+j),λj=>aTO.2.1 (0+j),λj=>aTO.2.2.1 (0+j),λj=>(aTO.2.2.2,()).1 (0+j)),λj=>aHe.2.2.1 (0+j),λj=>aHe.2.2.2.1 (0+j),λj=>aHe.2.2.2.2.1 (0+j),λj=>n36.1 (0+j),λj=>n36.2.1 (0+j),λj=>n36.2.2.1 (0+j),λj=>aPy.1 (0+j),λj=>aPy.2.1 (0+j),λj=>aPy.2.2.1 (0+j),λj=>aPy.2.2.2.1 (0+j),λj=>(aPy.2.2.2.2,()).1 (0+j));let y0:=ww n24.1.2 n24.1.2;let y1:=ww n99 n99;let y2:=ww bI.2.1.2.2.1 bI.2.1.2.2.1;let y3:=ww aHd.1.2.2.1 aHd.1.2.2.1;let y4:=ww aHd.2.1.2.2.1 aHd.2.1.2.2.1;let y5:=ww n31.1.2.2.1 n31.1.2.2.1;let y6:=ww n31.2.1.2.2.1 n31.2.1.2.2.1;let y7:=ww n84.1.2.2.1 n84.1.2.2.1;let y8:=ww n84.2.2.1.2.2 n84.2.2.1.2.2;ae (ww PN.1.2 PN.1.2) (ae (ww a1K a1K) (ae (ww n3.1.2.2.1 n3.1.2.2.1) (ae (ww n3.2.1.2.2.1 n3.2.1.2.2.1) (ae (ww n72.1.2.2.1 n72.1.2.2.1) (ae (ww n72.2.1.2.2.1 n72.2.1.2.2.1) (ae (ww n72.2.2.1.2.2.1 n72.2.2.1.2.2.1) (ae (ww n26.1.2.2.1 n26.1.2.2.1) (ae (ww aJ0.1.2.2 aJ0.1.2.2) (opt (aiX (d.1.2.1,(n30.2.1.1,aTG.1,aTG.2.1,aTG.2.2.1,PN.1.2,PN.2),n83.2.2.1,n83.2.2.2.1,(sh8 PN.1.1 n83.2.2.2.2.1.2),n3.1,n3.2.1,n72.1,n72.2.1,n72.2.2.1,n26.1,n26.2.1,aJ0.1,(aef 0 aJ0.2.1.2),(kQ 0 n8.2.1.2),(kQ 0 n8.2.2.1.2),(kQ 0 n8.2.2.2.1.2),(kQ 0 n82.1.2),(kQ 0 n82.2.1.2),(kQ 0 n82.2.2.1.2),λj=>n82.2.2.2.2.1 (0+j),λj=>n21.1 (0+j),λj=>n21.2.1 (0+j),λj=>n21.2.2.1 (0+j),λj=>n21.2.2.2.1 (0+j),λj=>n66.1 (0+j),λj=>n66.2.1 (0+j),λj=>n66.2.2.1 (0+j),λj=>n66.2.2.2.1 (0+j),λj=>n66.2.2.2.2.1 (0+j),λj=>n66.2.2.2.2.2 (0+j))) λd=>let aTP:=d.2.1.2;let n25:=aTP.2.2.2;let a1L:=n25.2.2.2.2.2.2.2.2.2.2.2.2;let n87:=n25.1.1;let n15:=d.2.2.2.2;let aHf:=n15.2.2;let n67:=n15.1.2.2.2;let n32:=aHf.2.2;let n86:=n32.2.2;let n5:=n86.2.2.2;let aJ2:=n5.2.2;let n54:=n5.2.1.2.2.2;let aTQ:=n54.2.2.2;let n53:=n5.1.2.2.2.2;let aTR:=n53.2.2.2;let n47:=aJ2.1.2.2.2;let aTS:=n47.2.2.2;let Ko:=aJ2.2.1.2.2;let aPz:=Ko.2.2.2;let bo:=aJ2.2.2;let aHg:=bo.2.2;let n62:=bo.1.2.2.2.2;let n55:=bo.2.1.2.2.2;let aTT:=n55.2.2.2;let n48:=aHg.1.2.2.2;let aTU:=n48.2.2.2;let n37:=aHg.2.2.2.2.2;let aPA:=n37.2.2.2;let n2:=((d.2.1.1,aTP.1,aTP.2.1,aTP.2.2.1,n25.1.2,n25.2),d.2.2.1,d.2.2.2.1,(λj=>n15.1.2.1 (n87+j),λj=>n15.1.2.2.1 (n87+j),λj=>n67.1 (n87+j),λj=>n67.2.1 (n87+j),λj=>n67.2.2.1 (n87+j),λj=>n67.2.2.2.1 (n87+j),λj=>n67.2.2.2.2.1 (n87+j),λj=>(n67.2.2.2.2.2,()).1 (n87+j)),n15.2.1,aHf.1,aHf.2.1,n32.1,n32.2.1,n86.1,n86.2.1,n86.2.2.1,(λj=>n5.1.2.1 (0+j),λj=>n5.1.2.2.1 (0+j),λj=>n5.1.2.2.2.1 (0+j),λj=>n53.1 (0+j),λj=>n53.2.1 (0+j),λj=>n53.2.2.1 (0+j),λj=>aTR.1 (0+j),λj=>aTR.2.1 (0+j),λj=>aTR.2.2.1 (0+j),λj=>(aTR.2.2.2,()).1 (0+j)),(λj=>n5.2.1.2.1 (0+j),λj=>n5.2.1.2.2.1 (0+j),λj=>n54.1 (0+j),λj=>n54.2.1 (0+j),λj=>n54.2.2.1 (0+j),λj=>aTQ.1 (0+j),λj=>aTQ.2.1 (0+j),λj=>aTQ.2.2.1 (0+j),λj=>(aTQ.2.2.2,()).1 (0+j)),(λj=>aJ2.1.2.1 (0+j),λj=>aJ2.1.2.2.1 (0+j),λj=>n47.1 (0+j),λj=>n47.2.1 (0+j),λj=>n47.2.2.1 (0+j),λj=>aTS.1 (0+j),λj=>aTS.2.1 (0+j),λj=>aTS.2.2.1 (0+j),λj=>(aTS.2.2.2,()).1 (0+j)),(λj=>aJ2.2.1.2.1 (0+j),λj=>Ko.1 (0+j),λj=>Ko.2.1 (0+j),λj=>Ko.2.2.1 (0+j),λj=>aPz.1 (0+j),λj=>aPz.2.1 (0+j),λj=>aPz.2.2.1 (0+j),λj=>aPz.2.2.2.1 (0+j),λj=>(aPz.2.2.2.2,()).1 (0+j)),(λj=>bo.1.2.1 (0+j),λj=>bo.1.2.2.1 (0+j),λj=>bo.1.2.2.2.1 (0+j),λj=>n62.1 (0+j),λj=>n62.2.1 (0+j),λj=>n62.2.2.1 (0+j),λj=>n62.2.2.2.1 (0+j),λj=>n62.2.2.2.2.1 (0+j),λj=>(n62.2.2.2.2.2,()).1 (0+j)),(λj=>bo.2.1.2.1 (0+j),λj=>bo.2.1.2.2.1 (0+j),λj=>n55.1 (0+j),λj=>n55.2.1 (0+j),λj=>n55.2.2.1 (0+j),λj=>aTT.1 (0+j),λj=>aTT.2.1 (0+j),λj=>aTT.2.2.1 (0+j),λj=>(aTT.2.2.2,()).1 (0+j)),(λj=>aHg.1.2.1 (0+j),λj=>aHg.1.2.2.1 (0+j),λj=>n48.1 (0+j),λj=>n48.2.1 (0+j),λj=>n48.2.2.1 (0+j),λj=>aTU.1 (0+j),λj=>aTU.2.1 (0+j),λj=>aTU.2.2.1 (0+j),λj=>(aTU.2.2.2,()).1 (0+j)),λj=>aHg.2.2.1 (0+j),λj=>aHg.2.2.2.1 (0+j),λj=>aHg.2.2.2.2.1 (0+j),λj=>n37.1 (0+j),λj=>n37.2.1 (0+j),λj=>n37.2.2.1 (0+j),λj=>aPA.1 (0+j),λj=>aPA.2.1 (0+j),λj=>aPA.2.2.1 (0+j),λj=>aPA.2.2.2.1 (0+j),λj=>(aPA.2.2.2.2,()).1 (0+j));let oN:=ww n25.1.2 n25.1.2;let ajk:=ww a1L a1L;let aJJ:=ww n15.2.1.2.2.1 n15.2.1.2.2.1;let aZq:=ww aHf.1.2.2.1 aHf.1.2.2.1;let aZr:=ww aHf.2.1.2.2.1 aHf.2.1.2.2.1;let aZs:=ww n32.1.2.2.1 n32.1.2.2.1;let aZt:=ww n32.2.1.2.2.1 n32.2.1.2.2.1;let aZu:=ww n86.1.2.2.1 n86.1.2.2.1;let aZv:=ww n86.2.2.1.2.2 n86.2.2.1.2.2;ae (cC.1!=d.1) (ret false) (ae y0 (ae y1 (ae y2 (ae y3 (ae y4 (ae y5 (ae y6 (ae y7 (ae y8 (opt (Vc n1) λeJ=>ae oN (ae ajk (ae aJJ (ae aZq (ae aZr (ae aZs (ae aZt (ae aZu (ae aZv (opt (Vc n2) λc9=>ae y0 (ae y1 (ae y2 (ae y3 (ae y4 (ae y5 (ae y6 (ae y7 (ae y8 (opt (ZT n1) λlR=>ae oN (ae ajk (ae aJJ (ae aZq (ae aZr (ae aZs (ae aZt (ae aZu (ae aZv (opt (ZT n2) λpY=>ae (!auZ 24 λj=>(eJ.1,()).1 j==(c9.1,()).1 j) (ret false) (ae (!((auZ 276 λj=>(eJ.2.1,()).1 j==(c9.2.1,()).1 j)&&((auZ 24 λj=>(eJ.2.2,()).1 j==(c9.2.2,()).1 j)&&true))) (ret false) (ae y0 (ae y1 (ae y2 (ae y3 (ae y4 (ae y5 (ae y6 (ae y7 (ae y8 (opt (yT n1) λmV=>let n68:=mV.2.2.2.2;let n22:=n68.2.2.2.2.2;let n70:=n22.2.2.2.2;ae oN (ae ajk (ae aJJ (ae aZq (ae aZr (ae aZs (ae aZt (ae aZu (ae aZv (opt (yT n2) λd=>let n69:=d.2.2.2.2;let n23:=n69.2.2.2.2.2;let n71:=n23.2.2.2.2;ae (!(mV.1==d.1&&(mV.2.1==d.2.1&&(mV.2.2.1==d.2.2.1&&(mV.2.2.2.1==d.2.2.2.1&&true)))&&(n68.1==n69.1&&(n68.2.1==n69.2.1&&(n68.2.2.1==n69.2.2.1&&(n68.2.2.2.1==n69.2.2.2.1&&(n68.2.2.2.2.1==n69.2.2.2.2.1&&(n22.1==n23.1&&(n22.2.1==n23.2.1&&(n22.2.2.1==n23.2.2.1&&(n22.2.2.2.1==n23.2.2.2.1&&true)))&&(n70.1==n71.1&&(n70.2.1==n71.2.1&&(n70.2.2.1==n71.2.2.1&&true))&&(n70.2.2.2.1==n71.2.2.2.1&&(n70.2.2.2.2.1==n71.2.2.2.2.1&&(n70.2.2.2.2.2==n71.2.2.2.2.2&&true))&&true))&&true)))))))) (ret false) (ae (wn lR.1!=wn pY.1) (ret false) (opt (JV ((lR.1,pY.1,0),lR.2,pY.2)) λx=>sum x (λd=>ret false) λd=>ret true))) no) no) no) no) no) no) no) no) no) no) no) no) no) no) no) no) no) no))) no) no) no) no) no) no) no) no) no) no) no) no) no) no) no) no) no) no) no) no) no) no) no) no) no) no) no) no) no) no) no) no) no) no) no) no)) no) no) no) no) no) no) no) no) no) no) no) no) no) no) no) no) no) no)))))))
def vI:=λx=>(Ql V0 Gd KA uh rp fR CS CT KE x).val
abbrev vJ:=aiW×Zw×auO×pk×Gm×H7×Ku×sO×(LT iT ru)×(LT gQ rv)×(LT kc wD)
def A6 (p:vJ):KK:=⟨[axP p.1,auy p.2.1,aHa p.b.1,uR p.b.2.1,Gn p.c.1,H8 p.c.2.1,Kv p.c.b.1,yI p.c.b.2.1],⟨[⟨12,(0::1::6::7::9::10::12::14::rg 16 165 []),[(0,[])]⟩,⟨19,(0::1::2::6::7::9::10::12::14::16::17::rg 19 162 []),[(0,[])]⟩,⟨32,(rg 0 23 (rg 26 155 [])),[(0,[])]⟩],[fV 12 0 iT ZQ p.d.1,fV 19 0 gQ ZR p.d.2.1,fV 32 0 kc ZS p.d.b],[],[],(some ⟨0,(rg 0 10 (rg 11 170 [])),[]⟩)⟩,0,4⟩
theorem aqo (p:vJ):LI (A6 p) 12 iT ZQ (KB p.b.2.1):=λ_ d c K=>by kernel_rfl
theorem aqp (p:vJ):LI (A6 p) 19 gQ ZR (KC p.c.1):=λ_ d c K=>by kernel_rfl
theorem aqq (p:vJ):LI (A6 p) 32 kc ZS (KD):=λ_ d c K=>by kernel_rfl
theorem azY (p:vJ):D2 (A6 p) oq (lf NG) λb=>Ql p.1 p.2.1 p.b.1 p.c.2.1 p.c.b.1 p.c.b.2.1 p.d.1 p.d.2.1 p.d.b b:=λb=>by kernel_rfl
abbrev A7:vJ:=(V0,Gd,KA,cJ,oo,uh,rp,fR,CS,CT,KE)
theorem azZ [ax]:SC (azX vI):=sc (kS (k:=A6 A7) (.c aMz (.c aGU (.c aSq (.c CR (.c SI (.c Vb (.c ZH (.c F3 (.nil _))))))))) [12,19,32] [] ⟨kL (aqo A7),⟨kL (aqp A7),⟨kL (aqq A7),trivial⟩⟩⟩ trivial (azY A7))
end Go.Proofs.YtldgljclcgaibaaGreat
namespace Go.Proofs.YtldgljclcgaibaaGreat
open Go.Ab Go.Ab.Pg
theorem aCB (B:Int)(hB:B<=64)(x:fM.B)(p0:Pb B x.c.2.1)(p1:Pb B x.c.b.1)(p2:Pb B x.c.b.2.1)(p3:Pb B x.d.1)(p4:Pb B x.d.2.1)(p5:Pb B x.d.b.1)(h0:kM (fS x.c.2.1.b.1 (dQ x.d.c.b.1)))(h1:kM (fS x.c.b.1.b.1 (dQ x.d.c.b.2.1)))(h2:kM (fS x.c.b.2.1.b.1 (dQ x.e.1)))(h3:kM (fS x.d.1.b.1 (dQ x.e.2.1)))(h4:kM (fS x.d.2.1.b.1 (dQ x.e.b.1)))(h5:kM (fS x.d.b.1.b.1 (dQ x.e.b.2.1))):Ok (cJ x) (λe:jJ=>e.2.1=x.2.1/\e.b.1=x.b.1/\e.b.2.1=x.b.2.1/\e.c.1=x.c.1/\e.d.b.2.1=x.d.b.2.1/\e.d.c.1=x.d.c.1/\e.d.c.2.1=x.d.c.2.1/\e.e.b.2.2=x.e.b.2.2/\(Pb B e.c.2.1/\Pb B e.c.b.1/\Pb B e.c.b.2.1/\Pb B e.d.1/\Pb B e.d.2.1/\Pb B e.d.b.1)/\Stp 0 x.1 x.c.2.1 x.d.c.b.1 e.c.2.1 e.d.c.b.1.2/\Stp 1 x.1 x.c.b.1 x.d.c.b.2.1 e.c.b.1 e.d.c.b.2.1.2/\Stp 2 x.1 x.c.b.2.1 x.e.1 e.c.b.2.1 e.e.1.2/\Stp 3 x.1 x.d.1 x.e.2.1 e.d.1 e.e.2.1.2/\Stp 4 x.1 x.d.2.1 x.e.b.1 e.d.2.1 e.e.b.1.2/\Stp 5 x.1 x.d.b.1 x.e.b.2.1 e.d.b.1 e.e.b.2.1.2):=by
 refine((aG9 x (dw (p0.len hB) (by decide)) (dw (p1.len hB) (by decide)) (dw (p2.len hB) (by decide)) (dw (p3.len hB) (by decide)) (dw (p4.len hB) (by decide)) (dw (p5.len hB) (by decide))).with (aPm x h0 h1 h2 h3 h4 h5)).mono λe he=> ?_;obtain⟨⟨f1,f2,f3,f4,f11,f12,f13,f20,CH⟩,st⟩:=he;refine⟨f1,f2,f3,f4,f11,f12,f13,f20,?_,st⟩;rcases CH with⟨o2,c0,c1,c2,c3,c4,c5⟩| ⟨o2,c0,c1,c2,c3,c4,c5⟩| ⟨o2,c0,c1,c2,c3,c4,c5⟩| ⟨o2,c0,c1,c2,c3,c4,c5⟩| ⟨o2,c0,c1,c2,c3,c4,c5⟩| ⟨o2,c0,c1,c2,c3,c4,c5⟩| ⟨o2,c0,c1,c2,c3,c4,c5⟩
 .exact⟨by rw[c0];exact p0,by rw[c1];exact p1,by rw[c2];exact p2,by rw[c3];exact p3,by rw[c4];exact p4,by rw[c5];exact p5⟩
 .exact⟨p0.pr c0,by rw[c1];exact p1,by rw[c2];exact p2,by rw[c3];exact p3,by rw[c4];exact p4,by rw[c5];exact p5⟩
 .exact⟨by rw[c0];exact p0,p1.pr c1,by rw[c2];exact p2,by rw[c3];exact p3,by rw[c4];exact p4,by rw[c5];exact p5⟩
 .exact⟨by rw[c0];exact p0,by rw[c1];exact p1,p2.pr c2,by rw[c3];exact p3,by rw[c4];exact p4,by rw[c5];exact p5⟩
 .exact⟨by rw[c0];exact p0,by rw[c1];exact p1,by rw[c2];exact p2,p3.pr c3,by rw[c4];exact p4,by rw[c5];exact p5⟩
 .exact⟨by rw[c0];exact p0,by rw[c1];exact p1,by rw[c2];exact p2,by rw[c3];exact p3,p4.pr c4,by rw[c5];exact p5⟩
 .exact⟨by rw[c0];exact p0,by rw[c1];exact p1,by rw[c2];exact p2,by rw[c3];exact p3,by rw[c4];exact p4,p5.pr c5⟩
theorem aZw (x:Kz.B)(h0:kM (fS x.c.2.1.b.1 (dQ x.d.c.b.1)))(h1:kM (fS x.c.b.1.b.1 (dQ x.d.c.b.2.1)))(h2:kM (fS x.c.b.2.1.b.1 (dQ x.e.1)))(h3:kM (fS x.d.1.b.1 (dQ x.e.2.1)))(h4:kM (fS x.d.2.1.b.1 (dQ x.e.b.1)))(h5:kM (fS x.d.b.1.b.1 (dQ x.e.b.2.1))):Po (KA x) (λe:aiQ=>kM (fS e.c.2.1.b.1 (dQ e.d.c.b.1.2))/\kM (fS e.c.b.1.b.1 (dQ e.d.c.b.2.1.2))/\kM (fS e.c.b.2.1.b.1 (dQ e.e.1.2))/\kM (fS e.d.1.b.1 (dQ e.e.2.1.2))/\kM (fS e.d.2.1.b.1 (dQ e.e.b.1.2))/\kM (fS e.d.b.1.b.1 (dQ e.e.b.2.1.2))):=by
 haveI:Rs x.c.2.1.b.1 x.d.c.b.1:=⟨h0⟩
 haveI:Rs x.c.b.1.b.1 x.d.c.b.2.1:=⟨h1⟩
 haveI:Rs x.c.b.2.1.b.1 x.e.1:=⟨h2⟩
 haveI:Rs x.d.1.b.1 x.e.2.1:=⟨h3⟩
 haveI:Rs x.d.2.1.b.1 x.e.b.1:=⟨h4⟩
 haveI:Rs x.d.b.1.b.1 x.e.b.2.1:=⟨h5⟩
 exact(aPl x).h.mono λe h=>⟨h.1.h,h.2.1.h,h.b.1.h,h.b.2.1.h,h.c.1.h,h.c.2.h⟩
def vK (k t v0 v1 v2 v3 v4 v5 v6 v7:Nat->Int)(j:Nat):Ev:=(k j,t j,v0 j,v1 j,v2 j,v3 j,v4 j,v5 j,v6 j,v7 j)
theorem aVp (n tt i:Nat)(hn:n<=64)(ht:tt<=1023)(hi:i<n):Int.tmod (wI (wI (wI (wn n-1)-wn i)+wI (wn tt))) (wn n)=wn (fT n tt i):=by
 have e0:wI (wI (wI (wn n-1)-wn i)+wI (wn tt))=wn (n-1-i+tt):=by
  simp only[cF];rw[dS (n:=(n:Int)-1) (by omega) (by omega),dS (n:=(tt:Int)) (by omega) (by omega),dS (n:=(n:Int)-1-i) (by omega) (by omega),dS (by omega) (by omega)];omega
 rw[e0];rfl
theorem aZx (t:Int):ul (wd 64 t&&&wd 64 1023)<=1023:=by
 rw[BitVec.toNat_and];exact dw Nat.and_le_right (by decide)
theorem pO {α:Type}(f:Nat->α)(i:Nat):(rx (i+1)).map f=(rx i).map f++[f i]:=by rw[List.range_succ,List.map_append];rfl
theorem aVq (N:Nat)(B:Int)(hB:B<=64)(w d:iT.B)(hn:w.1.1.1<=12)(z0:0<=w.c.b.2.1.1.b.1/\w.c.b.2.1.1.b.1<=1000)(z1:0<=w.d.1.1.b.1/\w.d.1.1.b.1<=1000)(z2:0<=w.d.2.1.1.b.1/\w.d.2.1.1.b.1<=1000)(z3:0<=w.d.b.1.1.b.1/\w.d.b.1.1.b.1<=1000)(z4:0<=w.d.b.2.1.1.b.1/\w.d.b.2.1.1.b.1<=1000)(z5:0<=w.d.c.1.1.b.1/\w.d.c.1.1.b.1<=1000)(hd:0<=d.1.b.2/\d.1.b.2<=(w.1.1.1:Nat)/\d.1.1=w.1.1/\d.1.2.1=w.1.2.1/\d.1.b.1=w.1.b.1/\(d.b.1=d.b.2.1/\d.c.1=d.e.1/\d.c.2.1=d.e.2.1/\d.c.b.1=d.e.b.1/\d.d.c.2.1=d.e.d.2.1/\d.d.c.b.1=d.e.d.b.1/\d.d.c.b.2.1=d.e.d.b.2.1/\d.e.e.b.1=(d.e.e.d.2.1,d.e.e.d.2.2))/\(((d.b.1.c.1.2:Nat):Int)<=400/\Tq d.b.1.d.c.2.1 d.c.2.1.2.1.1 d.c.2.1.2.2 d.b.1.c.1.2 (λi=>d.c.b.1.2.1 (d.b.1.c.1.1+i))/\d.d.c.b.1.1<=(N:Int)/\d.d.c.b.1.2.2<=N)/\(Pb B d.c.b.2.1/\Pb B d.d.1/\Pb B d.d.2.1/\Pb B d.d.b.1/\Pb B d.d.b.2.1/\Pb B d.d.c.1/\Pb B d.e.b.2.1/\Pb B d.e.c.1/\Pb B d.e.c.2.1/\Pb B d.e.c.b.1/\Pb B d.e.c.b.2.1/\Pb B d.e.d.1)/\(oM 0 ((rx (wt d.1.b.2)).map (vK w.1.1.b.1 w.1.1.d.c.1 w.1.1.d.c.2.1 w.1.1.d.c.b.1 w.1.1.d.c.b.2.1 w.1.1.e.1 w.1.1.e.2.1 w.1.1.e.b.1 w.1.1.e.b.2.1 w.1.1.e.b.2.2)) w.c.b.2.1 w.e.d.c.1.2 d.c.b.2.1 d.e.d.c.1.2/\oM 1 ((rx (wt d.1.b.2)).map (vK w.1.1.b.1 w.1.1.d.c.1 w.1.1.d.c.2.1 w.1.1.d.c.b.1 w.1.1.d.c.b.2.1 w.1.1.e.1 w.1.1.e.2.1 w.1.1.e.b.1 w.1.1.e.b.2.1 w.1.1.e.b.2.2)) w.d.1 w.e.d.c.2.1.2 d.d.1 d.e.d.c.2.1.2/\oM 2 ((rx (wt d.1.b.2)).map (vK w.1.1.b.1 w.1.1.d.c.1 w.1.1.d.c.2.1 w.1.1.d.c.b.1 w.1.1.d.c.b.2.1 w.1.1.e.1 w.1.1.e.2.1 w.1.1.e.b.1 w.1.1.e.b.2.1 w.1.1.e.b.2.2)) w.d.2.1 w.e.d.c.b.1.2 d.d.2.1 d.e.d.c.b.1.2/\oM 3 ((rx (wt d.1.b.2)).map (vK w.1.1.b.1 w.1.1.d.c.1 w.1.1.d.c.2.1 w.1.1.d.c.b.1 w.1.1.d.c.b.2.1 w.1.1.e.1 w.1.1.e.2.1 w.1.1.e.b.1 w.1.1.e.b.2.1 w.1.1.e.b.2.2)) w.d.b.1 w.e.d.c.b.2.1.2 d.d.b.1 d.e.d.c.b.2.1.2/\oM 4 ((rx (wt d.1.b.2)).map (vK w.1.1.b.1 w.1.1.d.c.1 w.1.1.d.c.2.1 w.1.1.d.c.b.1 w.1.1.d.c.b.2.1 w.1.1.e.1 w.1.1.e.2.1 w.1.1.e.b.1 w.1.1.e.b.2.1 w.1.1.e.b.2.2)) w.d.b.2.1 w.e.e.1.2 d.d.b.2.1 d.e.e.1.2/\oM 5 ((rx (wt d.1.b.2)).map (vK w.1.1.b.1 w.1.1.d.c.1 w.1.1.d.c.2.1 w.1.1.d.c.b.1 w.1.1.d.c.b.2.1 w.1.1.e.1 w.1.1.e.2.1 w.1.1.e.b.1 w.1.1.e.b.2.1 w.1.1.e.b.2.2)) w.d.c.1 w.e.e.2.1.2 d.d.c.1 d.e.e.2.1.2)/\(oM 0 ((rx (wt d.1.b.2)).map λj=>(vK w.1.1.b.1 w.1.1.d.c.1 w.1.1.d.c.2.1 w.1.1.d.c.b.1 w.1.1.d.c.b.2.1 w.1.1.e.1 w.1.1.e.2.1 w.1.1.e.b.1 w.1.1.e.b.2.1 w.1.1.e.b.2.2) (fT w.1.1.1 (ul (wd 64 w.1.2.1&&&wd 64 1023)) j)) w.c.b.2.1 w.e.d.c.1.2 d.e.b.2.1 d.e.e.b.2.1.2/\oM 1 ((rx (wt d.1.b.2)).map λj=>(vK w.1.1.b.1 w.1.1.d.c.1 w.1.1.d.c.2.1 w.1.1.d.c.b.1 w.1.1.d.c.b.2.1 w.1.1.e.1 w.1.1.e.2.1 w.1.1.e.b.1 w.1.1.e.b.2.1 w.1.1.e.b.2.2) (fT w.1.1.1 (ul (wd 64 w.1.2.1&&&wd 64 1023)) j)) w.d.1 w.e.d.c.2.1.2 d.e.c.1 d.e.e.c.1.2/\oM 2 ((rx (wt d.1.b.2)).map λj=>(vK w.1.1.b.1 w.1.1.d.c.1 w.1.1.d.c.2.1 w.1.1.d.c.b.1 w.1.1.d.c.b.2.1 w.1.1.e.1 w.1.1.e.2.1 w.1.1.e.b.1 w.1.1.e.b.2.1 w.1.1.e.b.2.2) (fT w.1.1.1 (ul (wd 64 w.1.2.1&&&wd 64 1023)) j)) w.d.2.1 w.e.d.c.b.1.2 d.e.c.2.1 d.e.e.c.2.1.2/\oM 3 ((rx (wt d.1.b.2)).map λj=>(vK w.1.1.b.1 w.1.1.d.c.1 w.1.1.d.c.2.1 w.1.1.d.c.b.1 w.1.1.d.c.b.2.1 w.1.1.e.1 w.1.1.e.2.1 w.1.1.e.b.1 w.1.1.e.b.2.1 w.1.1.e.b.2.2) (fT w.1.1.1 (ul (wd 64 w.1.2.1&&&wd 64 1023)) j)) w.d.b.1 w.e.d.c.b.2.1.2 d.e.c.b.1 d.e.e.c.b.1.2/\oM 4 ((rx (wt d.1.b.2)).map λj=>(vK w.1.1.b.1 w.1.1.d.c.1 w.1.1.d.c.2.1 w.1.1.d.c.b.1 w.1.1.d.c.b.2.1 w.1.1.e.1 w.1.1.e.2.1 w.1.1.e.b.1 w.1.1.e.b.2.1 w.1.1.e.b.2.2) (fT w.1.1.1 (ul (wd 64 w.1.2.1&&&wd 64 1023)) j)) w.d.b.2.1 w.e.e.1.2 d.e.c.b.2.1 d.e.e.c.b.2.1.2/\oM 5 ((rx (wt d.1.b.2)).map λj=>(vK w.1.1.b.1 w.1.1.d.c.1 w.1.1.d.c.2.1 w.1.1.d.c.b.1 w.1.1.d.c.b.2.1 w.1.1.e.1 w.1.1.e.2.1 w.1.1.e.b.1 w.1.1.e.b.2.1 w.1.1.e.b.2.2) (fT w.1.1.1 (ul (wd 64 w.1.2.1&&&wd 64 1023)) j)) w.d.c.1 w.e.e.2.1.2 d.e.d.1 d.e.e.d.1.2)):Ok (CS d) (λx:ru=>x.1.b.1=w.1.b.1/\(x.b.1=x.b.2.1/\x.c.1=x.e.1/\x.c.2.1=x.e.2.1/\x.c.b.1=x.e.b.1/\x.d.c.2.1=x.e.d.2.1/\x.d.c.b.1=x.e.d.b.1/\x.d.c.b.2.1=x.e.d.b.2.1/\x.e.e.b.1=(x.e.e.d.2.1,x.e.e.d.2.2))/\(((x.b.1.c.1.2:Nat):Int)<=400/\Tq x.b.1.d.c.2.1 x.c.2.1.2.1.1 x.c.2.1.2.2 x.b.1.c.1.2 (λi=>x.c.b.1.2.1 (x.b.1.c.1.1+i))/\x.d.c.b.1.1<=(N:Int)/\x.d.c.b.1.2.2<=N)/\(Pb B x.c.b.2.1/\Pb B x.d.1/\Pb B x.d.2.1/\Pb B x.d.b.1/\Pb B x.d.b.2.1/\Pb B x.d.c.1/\Pb B x.e.b.2.1/\Pb B x.e.c.1/\Pb B x.e.c.2.1/\Pb B x.e.c.b.1/\Pb B x.e.c.b.2.1/\Pb B x.e.d.1)/\(oM 0 ((rx (w.1.1.1)).map (vK w.1.1.b.1 w.1.1.d.c.1 w.1.1.d.c.2.1 w.1.1.d.c.b.1 w.1.1.d.c.b.2.1 w.1.1.e.1 w.1.1.e.2.1 w.1.1.e.b.1 w.1.1.e.b.2.1 w.1.1.e.b.2.2)) w.c.b.2.1 w.e.d.c.1.2 x.c.b.2.1 x.e.d.c.1.2/\oM 1 ((rx (w.1.1.1)).map (vK w.1.1.b.1 w.1.1.d.c.1 w.1.1.d.c.2.1 w.1.1.d.c.b.1 w.1.1.d.c.b.2.1 w.1.1.e.1 w.1.1.e.2.1 w.1.1.e.b.1 w.1.1.e.b.2.1 w.1.1.e.b.2.2)) w.d.1 w.e.d.c.2.1.2 x.d.1 x.e.d.c.2.1.2/\oM 2 ((rx (w.1.1.1)).map (vK w.1.1.b.1 w.1.1.d.c.1 w.1.1.d.c.2.1 w.1.1.d.c.b.1 w.1.1.d.c.b.2.1 w.1.1.e.1 w.1.1.e.2.1 w.1.1.e.b.1 w.1.1.e.b.2.1 w.1.1.e.b.2.2)) w.d.2.1 w.e.d.c.b.1.2 x.d.2.1 x.e.d.c.b.1.2/\oM 3 ((rx (w.1.1.1)).map (vK w.1.1.b.1 w.1.1.d.c.1 w.1.1.d.c.2.1 w.1.1.d.c.b.1 w.1.1.d.c.b.2.1 w.1.1.e.1 w.1.1.e.2.1 w.1.1.e.b.1 w.1.1.e.b.2.1 w.1.1.e.b.2.2)) w.d.b.1 w.e.d.c.b.2.1.2 x.d.b.1 x.e.d.c.b.2.1.2/\oM 4 ((rx (w.1.1.1)).map (vK w.1.1.b.1 w.1.1.d.c.1 w.1.1.d.c.2.1 w.1.1.d.c.b.1 w.1.1.d.c.b.2.1 w.1.1.e.1 w.1.1.e.2.1 w.1.1.e.b.1 w.1.1.e.b.2.1 w.1.1.e.b.2.2)) w.d.b.2.1 w.e.e.1.2 x.d.b.2.1 x.e.e.1.2/\oM 5 ((rx (w.1.1.1)).map (vK w.1.1.b.1 w.1.1.d.c.1 w.1.1.d.c.2.1 w.1.1.d.c.b.1 w.1.1.d.c.b.2.1 w.1.1.e.1 w.1.1.e.2.1 w.1.1.e.b.1 w.1.1.e.b.2.1 w.1.1.e.b.2.2)) w.d.c.1 w.e.e.2.1.2 x.d.c.1 x.e.e.2.1.2)/\(oM 0 ((rx (w.1.1.1)).map λj=>(vK w.1.1.b.1 w.1.1.d.c.1 w.1.1.d.c.2.1 w.1.1.d.c.b.1 w.1.1.d.c.b.2.1 w.1.1.e.1 w.1.1.e.2.1 w.1.1.e.b.1 w.1.1.e.b.2.1 w.1.1.e.b.2.2) (fT w.1.1.1 (ul (wd 64 w.1.2.1&&&wd 64 1023)) j)) w.c.b.2.1 w.e.d.c.1.2 x.e.b.2.1 x.e.e.b.2.1.2/\oM 1 ((rx (w.1.1.1)).map λj=>(vK w.1.1.b.1 w.1.1.d.c.1 w.1.1.d.c.2.1 w.1.1.d.c.b.1 w.1.1.d.c.b.2.1 w.1.1.e.1 w.1.1.e.2.1 w.1.1.e.b.1 w.1.1.e.b.2.1 w.1.1.e.b.2.2) (fT w.1.1.1 (ul (wd 64 w.1.2.1&&&wd 64 1023)) j)) w.d.1 w.e.d.c.2.1.2 x.e.c.1 x.e.e.c.1.2/\oM 2 ((rx (w.1.1.1)).map λj=>(vK w.1.1.b.1 w.1.1.d.c.1 w.1.1.d.c.2.1 w.1.1.d.c.b.1 w.1.1.d.c.b.2.1 w.1.1.e.1 w.1.1.e.2.1 w.1.1.e.b.1 w.1.1.e.b.2.1 w.1.1.e.b.2.2) (fT w.1.1.1 (ul (wd 64 w.1.2.1&&&wd 64 1023)) j)) w.d.2.1 w.e.d.c.b.1.2 x.e.c.2.1 x.e.e.c.2.1.2/\oM 3 ((rx (w.1.1.1)).map λj=>(vK w.1.1.b.1 w.1.1.d.c.1 w.1.1.d.c.2.1 w.1.1.d.c.b.1 w.1.1.d.c.b.2.1 w.1.1.e.1 w.1.1.e.2.1 w.1.1.e.b.1 w.1.1.e.b.2.1 w.1.1.e.b.2.2) (fT w.1.1.1 (ul (wd 64 w.1.2.1&&&wd 64 1023)) j)) w.d.b.1 w.e.d.c.b.2.1.2 x.e.c.b.1 x.e.e.c.b.1.2/\oM 4 ((rx (w.1.1.1)).map λj=>(vK w.1.1.b.1 w.1.1.d.c.1 w.1.1.d.c.2.1 w.1.1.d.c.b.1 w.1.1.d.c.b.2.1 w.1.1.e.1 w.1.1.e.2.1 w.1.1.e.b.1 w.1.1.e.b.2.1 w.1.1.e.b.2.2) (fT w.1.1.1 (ul (wd 64 w.1.2.1&&&wd 64 1023)) j)) w.d.b.2.1 w.e.e.1.2 x.e.c.b.2.1 x.e.e.c.b.2.1.2/\oM 5 ((rx (w.1.1.1)).map λj=>(vK w.1.1.b.1 w.1.1.d.c.1 w.1.1.d.c.2.1 w.1.1.d.c.b.1 w.1.1.d.c.b.2.1 w.1.1.e.1 w.1.1.e.2.1 w.1.1.e.b.1 w.1.1.e.b.2.1 w.1.1.e.b.2.2) (fT w.1.1.1 (ul (wd 64 w.1.2.1&&&wd 64 1023)) j)) w.d.c.1 w.e.e.2.1.2 x.e.d.1 x.e.e.d.1.2)):=by
 revert d
 exact bq (λd:iT.B=>wt ((w.1.1.1:Nat)-d.1.b.2)) (λd hd=>by
  obtain⟨i0,i1,e00,e01,e02,⟨E2,E4,E5,E6,E13,E14,E15,E34⟩,⟨iq,tq,r0,r1⟩,⟨p0,p1,p2,p3,p4,p5,q0,q1,q2,q3,q4,q5⟩,⟨a0,a1,a2,a3,a4,a5⟩,b0,b1,b2,b3,b4,b5⟩:=hd;obtain⟨i,hi⟩:∃i:Nat,d.1.b.2=wn i:=⟨wt d.1.b.2,(Int.toNat_of_nonneg i0).symm⟩;have ti:wt d.1.b.2=i:=by rw[hi];rfl
  rw[ti] at a0 a1 a2 a3 a4 a5 b0 b1 b2 b3 b4 b5;rw[hi,cF] at i1;unfold KB;try dsimp only
  try dsimp only
  rw[e00,e01,hi];rw[aK];refine⟨λc=> ?_,λc=> ?_⟩
  .have c:=dq c;have c:(i:Int)<(w.1.1.1:Nat):=c;have hw:wI (wn i+1)=wn (i+1):=by rw[cF,cF,aY (by omega) (by omega)];omega
   have r2:aX (wn i) w.1.1.1=true:=by rw[bk,cF];omega
   have r3:(!decide (wn w.1.1.1=0))=true:=by rw[cG (by rw[cF];omega)];rfl
   have hs:fT w.1.1.1 (ul (wd 64 w.1.2.1&&&wd 64 1023)) i<w.1.1.1:=Nat.mod_lt _ (by omega);have r4:aX (wn (fT w.1.1.1 (ul (wd 64 w.1.2.1&&&wd 64 1023)) i)) w.1.1.1=true:=by rw[bk,cF];omega
   rw[aVp w.1.1.1 _ i (by omega) (aZx _) (by omega),r2,r3,r4,hw];simp only[aM];repeat rw[aC]
   with_reducible refine ay (aCB B hB _ ?_ ?_ ?_ ?_ ?_ ?_ ?_ ?_ ?_ ?_ ?_ ?_) λe1 _ he1=> ?_
   .exact p0
   .exact p1
   .exact p2
   .exact p3
   .exact p4
   .exact p5
   .exact akQ a0.Zl
   .exact akQ a1.Zl
   .exact akQ a2.Zl
   .exact akQ a3.Zl
   .exact akQ a4.Zl
   .exact akQ a5.Zl
   obtain⟨f1,f2,f3,f4,f11,f12,f13,f20,⟨pp0,pp1,pp2,pp3,pp4,pp5⟩,sa0,sa1,sa2,sa3,sa4,sa5⟩:=he1;repeat rw[aC]
   with_reducible refine ay (aCB B hB _ ?_ ?_ ?_ ?_ ?_ ?_ ?_ ?_ ?_ ?_ ?_ ?_) λe2 _ he2=> ?_
   .exact q0
   .exact q1
   .exact q2
   .exact q3
   .exact q4
   .exact q5
   .exact akQ b0.Zl
   .exact akQ b1.Zl
   .exact akQ b2.Zl
   .exact akQ b3.Zl
   .exact akQ b4.Zl
   .exact akQ b5.Zl
   obtain⟨g1,g2,g3,g4,g11,g12,g13,g20,⟨qq0,qq1,qq2,qq3,qq4,qq5⟩,sb0,sb1,sb2,sb3,sb4,sb5⟩:=he2;have k1:e2.2.1=e1.2.1:=g1.trans ((show(d.b.2.1.1,d.b.2.1.2.1,d.b.2.1.b.1,d.b.2.1.b.2.1,d.b.2.1.c.1.2,d.b.2.1.c.2)=(d.b.1.1,d.b.1.2.1,d.b.1.b.1,d.b.1.b.2.1,d.b.1.c.1.2,d.b.1.c.2) by rw[E2]).trans f1.symm);have k2:e2.b.1=e1.b.1:=g2.trans (E4.symm.trans f2.symm);have k3:e2.b.2.1=e1.b.2.1:=g3.trans (E5.symm.trans f3.symm);have k4:e2.c.1=e1.c.1:=g4.trans ((show(λj=>d.e.b.1.2.1 (d.b.2.1.c.1.1+j),λj=>d.e.b.1.b.1 (d.b.2.1.c.1.1+j),λj=>d.e.b.1.b.2.1 (d.b.2.1.c.1.1+j),λj=>d.e.b.1.c.1 (d.b.2.1.c.1.1+j),λj=>d.e.b.1.c.2.1 (d.b.2.1.c.1.1+j),λj=>d.e.b.1.c.b.1 (d.b.2.1.c.1.1+j),λj=>d.e.b.1.c.b.2.1 (d.b.2.1.c.1.1+j),λj=>d.e.b.1.c.b.2.2 (d.b.2.1.c.1.1+j))=(λj=>d.c.b.1.2.1 (d.b.1.c.1.1+j),λj=>d.c.b.1.b.1 (d.b.1.c.1.1+j),λj=>d.c.b.1.b.2.1 (d.b.1.c.1.1+j),λj=>d.c.b.1.c.1 (d.b.1.c.1.1+j),λj=>d.c.b.1.c.2.1 (d.b.1.c.1.1+j),λj=>d.c.b.1.c.b.1 (d.b.1.c.1.1+j),λj=>d.c.b.1.c.b.2.1 (d.b.1.c.1.1+j),λj=>d.c.b.1.c.b.2.2 (d.b.1.c.1.1+j)) by rw[E2,E6]).trans f4.symm);have k11:e2.d.b.2.1=e1.d.b.2.1:=g11.trans (E13.symm.trans f11.symm);have k12:e2.d.c.1=e1.d.c.1:=g12.trans (E14.symm.trans f12.symm);have k13:e2.d.c.2.1=e1.d.c.2.1:=g13.trans ((show(λj=>d.e.d.b.2.1.2.1 (0+j),λj=>d.e.d.b.2.1.b.1 (0+j),λj=>d.e.d.b.2.1.b.2.1 (0+j),λj=>d.e.d.b.2.1.c.1 (0+j),λj=>d.e.d.b.2.1.c.2.1 (0+j),λj=>d.e.d.b.2.1.c.b.1 (0+j),λj=>d.e.d.b.2.1.c.b.2.1 (0+j),λj=>d.e.d.b.2.1.d.1 (0+j),λj=>d.e.d.b.2.1.d.2.1 (0+j),λj=>d.e.d.b.2.1.d.2.2 (0+j))=(λj=>d.d.c.b.2.1.2.1 (0+j),λj=>d.d.c.b.2.1.b.1 (0+j),λj=>d.d.c.b.2.1.b.2.1 (0+j),λj=>d.d.c.b.2.1.c.1 (0+j),λj=>d.d.c.b.2.1.c.2.1 (0+j),λj=>d.d.c.b.2.1.c.b.1 (0+j),λj=>d.d.c.b.2.1.c.b.2.1 (0+j),λj=>d.d.c.b.2.1.d.1 (0+j),λj=>d.d.c.b.2.1.d.2.1 (0+j),λj=>d.d.c.b.2.1.d.2.2 (0+j)) by rw[E15]).trans f13.symm);have k20:e2.e.b.2.2=e1.e.b.2.2:=g20.trans ((show(λj=>d.e.e.d.b.1 (0+j),λj=>d.e.e.d.b.2.1 (0+j),λj=>d.e.e.d.c.1 (0+j),λj=>d.e.e.d.c.2.1 (0+j),λj=>d.e.e.d.c.b.1 (0+j),λj=>d.e.e.d.c.b.2.1 (0+j),λj=>d.e.e.e.1 (0+j),λj=>d.e.e.e.2.1 (0+j),λj=>d.e.e.e.b.1 (0+j),λj=>d.e.e.e.b.2.1 (0+j),λj=>d.e.e.e.b.2.2 (0+j))=(λj=>d.e.e.b.1.2.1 (0+j),λj=>d.e.e.b.1.b.1 (0+j),λj=>d.e.e.b.1.b.2.1 (0+j),λj=>d.e.e.b.1.c.1 (0+j),λj=>d.e.e.b.1.c.2.1 (0+j),λj=>d.e.e.b.1.c.b.1 (0+j),λj=>d.e.e.b.1.c.b.2.1 (0+j),λj=>d.e.e.b.1.d.1 (0+j),λj=>d.e.e.b.1.d.2.1 (0+j),λj=>d.e.e.b.1.d.b.1 (0+j),λj=>d.e.e.b.1.d.b.2 (0+j)) by rw[E34]).trans f20.symm);rw[av];have e1n:e1.2.1.c.1=d.b.1.c.1.2:=c8 (λz=>z.c.1) f1;have e1t:e1.2.1.d.c.2.1=d.b.1.d.c.2.1:=c8 (λz=>z.d.c.2.1) f1;have e1r:∀j,e1.c.1.1 j=d.c.b.1.2.1 (d.b.1.c.1.1+j):=λj=>congrFun (c8 (λz=>z.1) f4) j
   refine⟨⟨by show(0:Int)<=wn (i+1);rw[cF];omega,by show wn (i+1)<=(w.1.1.1:Nat);rw[cF];omega,rfl,rfl,e02,⟨?_,?_,?_,?_,?_,?_,?_,?_⟩,⟨?_,?_,?_,?_⟩,⟨pp0,pp1,pp2,pp3,pp4,pp5,qq0,qq1,qq2,qq3,qq4,qq5⟩,⟨?_,?_,?_,?_,?_,?_⟩,?_,?_,?_,?_,?_,?_⟩,?_⟩
   .show(e1.2.1.1,e1.2.1.2.1,e1.2.1.b.1,e1.2.1.b.2.1,(0,e1.2.1.c.1),e1.2.1.c.2)=(e2.2.1.1,e2.2.1.2.1,e2.2.1.b.1,e2.2.1.b.2.1,(0,e2.2.1.c.1),e2.2.1.c.2);rw[k1]
   .exact k2.symm
   .exact k3.symm
   .show(e1.2.1.c.1,e1.c.1)=(e2.2.1.c.1,e2.c.1);rw[k1,k4]
   .exact k11.symm
   .exact k12.symm
   .show(e1.2.1.d.c.b.2.2,e1.d.c.2.1)=(e2.2.1.d.c.b.2.2,e2.d.c.2.1);rw[k1,k13]
   .show(e1.d.c.1.2.2,e1.e.b.2.2)=(e2.d.c.1.2.2,e2.e.b.2.2);rw[k12,k20]
   .show((e1.2.1.c.1:Nat):Int)<=400;rw[e1n];exact iq
   .show Tq e1.2.1.d.c.2.1 e1.b.2.1.2.1.1 e1.b.2.1.2.2 e1.2.1.c.1 (λj=>e1.c.1.1 (0+j));rw[e1n,e1t,show e1.b.2.1=d.c.2.1 from f3];exact⟨tq.1,tq.2.up (eZ _) (λj=>by rw[eX];exact e1r j)⟩
   .show e1.d.c.1.1<=(N:Int);rw[show e1.d.c.1=d.d.c.b.1 from f12];exact r0
   .show e1.d.c.1.2.2<=N;rw[show e1.d.c.1=d.d.c.b.1 from f12];exact r1
   .show oM 0 ((rx (i+1)).map (vK w.1.1.b.1 w.1.1.d.c.1 w.1.1.d.c.2.1 w.1.1.d.c.b.1 w.1.1.d.c.b.2.1 w.1.1.e.1 w.1.1.e.2.1 w.1.1.e.b.1 w.1.1.e.b.2.1 w.1.1.e.b.2.2)) w.c.b.2.1 w.e.d.c.1.2 e1.c.2.1 e1.d.c.b.1.2;rw[pO];exact a0.UA sa0 z0.1 (by have:=z0.2;rw[yX,List.length_range];omega)
   .show oM 1 ((rx (i+1)).map (vK w.1.1.b.1 w.1.1.d.c.1 w.1.1.d.c.2.1 w.1.1.d.c.b.1 w.1.1.d.c.b.2.1 w.1.1.e.1 w.1.1.e.2.1 w.1.1.e.b.1 w.1.1.e.b.2.1 w.1.1.e.b.2.2)) w.d.1 w.e.d.c.2.1.2 e1.c.b.1 e1.d.c.b.2.1.2;rw[pO];exact a1.UA sa1 z1.1 (by have:=z1.2;rw[yX,List.length_range];omega)
   .show oM 2 ((rx (i+1)).map (vK w.1.1.b.1 w.1.1.d.c.1 w.1.1.d.c.2.1 w.1.1.d.c.b.1 w.1.1.d.c.b.2.1 w.1.1.e.1 w.1.1.e.2.1 w.1.1.e.b.1 w.1.1.e.b.2.1 w.1.1.e.b.2.2)) w.d.2.1 w.e.d.c.b.1.2 e1.c.b.2.1 e1.e.1.2;rw[pO];exact a2.UA sa2 z2.1 (by have:=z2.2;rw[yX,List.length_range];omega)
   .show oM 3 ((rx (i+1)).map (vK w.1.1.b.1 w.1.1.d.c.1 w.1.1.d.c.2.1 w.1.1.d.c.b.1 w.1.1.d.c.b.2.1 w.1.1.e.1 w.1.1.e.2.1 w.1.1.e.b.1 w.1.1.e.b.2.1 w.1.1.e.b.2.2)) w.d.b.1 w.e.d.c.b.2.1.2 e1.d.1 e1.e.2.1.2;rw[pO];exact a3.UA sa3 z3.1 (by have:=z3.2;rw[yX,List.length_range];omega)
   .show oM 4 ((rx (i+1)).map (vK w.1.1.b.1 w.1.1.d.c.1 w.1.1.d.c.2.1 w.1.1.d.c.b.1 w.1.1.d.c.b.2.1 w.1.1.e.1 w.1.1.e.2.1 w.1.1.e.b.1 w.1.1.e.b.2.1 w.1.1.e.b.2.2)) w.d.b.2.1 w.e.e.1.2 e1.d.2.1 e1.e.b.1.2;rw[pO];exact a4.UA sa4 z4.1 (by have:=z4.2;rw[yX,List.length_range];omega)
   .show oM 5 ((rx (i+1)).map (vK w.1.1.b.1 w.1.1.d.c.1 w.1.1.d.c.2.1 w.1.1.d.c.b.1 w.1.1.d.c.b.2.1 w.1.1.e.1 w.1.1.e.2.1 w.1.1.e.b.1 w.1.1.e.b.2.1 w.1.1.e.b.2.2)) w.d.c.1 w.e.e.2.1.2 e1.d.b.1 e1.e.b.2.1.2;rw[pO];exact a5.UA sa5 z5.1 (by have:=z5.2;rw[yX,List.length_range];omega)
   .show oM 0 ((rx (i+1)).map λj=>(vK w.1.1.b.1 w.1.1.d.c.1 w.1.1.d.c.2.1 w.1.1.d.c.b.1 w.1.1.d.c.b.2.1 w.1.1.e.1 w.1.1.e.2.1 w.1.1.e.b.1 w.1.1.e.b.2.1 w.1.1.e.b.2.2) (fT w.1.1.1 (ul (wd 64 w.1.2.1&&&wd 64 1023)) j)) w.c.b.2.1 w.e.d.c.1.2 e2.c.2.1 e2.d.c.b.1.2;rw[pO];exact b0.UA sb0 z0.1 (by have:=z0.2;rw[yX,List.length_range];omega)
   .show oM 1 ((rx (i+1)).map λj=>(vK w.1.1.b.1 w.1.1.d.c.1 w.1.1.d.c.2.1 w.1.1.d.c.b.1 w.1.1.d.c.b.2.1 w.1.1.e.1 w.1.1.e.2.1 w.1.1.e.b.1 w.1.1.e.b.2.1 w.1.1.e.b.2.2) (fT w.1.1.1 (ul (wd 64 w.1.2.1&&&wd 64 1023)) j)) w.d.1 w.e.d.c.2.1.2 e2.c.b.1 e2.d.c.b.2.1.2;rw[pO];exact b1.UA sb1 z1.1 (by have:=z1.2;rw[yX,List.length_range];omega)
   .show oM 2 ((rx (i+1)).map λj=>(vK w.1.1.b.1 w.1.1.d.c.1 w.1.1.d.c.2.1 w.1.1.d.c.b.1 w.1.1.d.c.b.2.1 w.1.1.e.1 w.1.1.e.2.1 w.1.1.e.b.1 w.1.1.e.b.2.1 w.1.1.e.b.2.2) (fT w.1.1.1 (ul (wd 64 w.1.2.1&&&wd 64 1023)) j)) w.d.2.1 w.e.d.c.b.1.2 e2.c.b.2.1 e2.e.1.2;rw[pO];exact b2.UA sb2 z2.1 (by have:=z2.2;rw[yX,List.length_range];omega)
   .show oM 3 ((rx (i+1)).map λj=>(vK w.1.1.b.1 w.1.1.d.c.1 w.1.1.d.c.2.1 w.1.1.d.c.b.1 w.1.1.d.c.b.2.1 w.1.1.e.1 w.1.1.e.2.1 w.1.1.e.b.1 w.1.1.e.b.2.1 w.1.1.e.b.2.2) (fT w.1.1.1 (ul (wd 64 w.1.2.1&&&wd 64 1023)) j)) w.d.b.1 w.e.d.c.b.2.1.2 e2.d.1 e2.e.2.1.2;rw[pO];exact b3.UA sb3 z3.1 (by have:=z3.2;rw[yX,List.length_range];omega)
   .show oM 4 ((rx (i+1)).map λj=>(vK w.1.1.b.1 w.1.1.d.c.1 w.1.1.d.c.2.1 w.1.1.d.c.b.1 w.1.1.d.c.b.2.1 w.1.1.e.1 w.1.1.e.2.1 w.1.1.e.b.1 w.1.1.e.b.2.1 w.1.1.e.b.2.2) (fT w.1.1.1 (ul (wd 64 w.1.2.1&&&wd 64 1023)) j)) w.d.b.2.1 w.e.e.1.2 e2.d.2.1 e2.e.b.1.2;rw[pO];exact b4.UA sb4 z4.1 (by have:=z4.2;rw[yX,List.length_range];omega)
   .show oM 5 ((rx (i+1)).map λj=>(vK w.1.1.b.1 w.1.1.d.c.1 w.1.1.d.c.2.1 w.1.1.d.c.b.1 w.1.1.d.c.b.2.1 w.1.1.e.1 w.1.1.e.2.1 w.1.1.e.b.1 w.1.1.e.b.2.1 w.1.1.e.b.2.2) (fT w.1.1.1 (ul (wd 64 w.1.2.1&&&wd 64 1023)) j)) w.d.c.1 w.e.e.2.1.2 e2.d.b.1 e2.e.b.2.1.2;rw[pO];exact b5.UA sb5 z5.1 (by have:=z5.2;rw[yX,List.length_range];omega)
   .show wt ((w.1.1.1:Nat)-wn (i+1))<wt ((w.1.1.1:Nat)-wn i);rw[cF,cF];omega
  .have c:=qk c;have c:¬(i:Int)<(w.1.1.1:Nat):=c;have ie:i=w.1.1.1:=by omega
   rw[av];rw[ie] at a0 a1 a2 a3 a4 a5 b0 b1 b2 b3 b4 b5;exact⟨e02,⟨E2,E4,E5,E6,E13,E14,E15,E34⟩,⟨iq,tq,r0,r1⟩,⟨p0,p1,p2,p3,p4,p5,q0,q1,q2,q3,q4,q5⟩,⟨a0,a1,a2,a3,a4,a5⟩,b0,b1,b2,b3,b4,b5⟩) (λd hd=>by omega)
theorem aVr (w:gQ.B):∀(d:gQ.B) (hd:0<=d.1.2.2.2/\d.1.2.2.2<=6/\d.1.2.1=w.1.2.1/\d.2=w.2/\(0<d.1.2.2.2->w.2.2.2.2.2.2.2.1.1.2.2.1=0/\w.2.2.2.2.2.2.2.2.2.2.2.2.2.2.2.2.2.2.2.1.1.2.2.1=0)/\(1<d.1.2.2.2->w.2.2.2.2.2.2.2.2.1.1.2.2.1=0/\w.2.2.2.2.2.2.2.2.2.2.2.2.2.2.2.2.2.2.2.2.1.1.2.2.1=0)/\(2<d.1.2.2.2->w.2.2.2.2.2.2.2.2.2.1.1.2.2.1=0/\w.2.2.2.2.2.2.2.2.2.2.2.2.2.2.2.2.2.2.2.2.2.1.1.2.2.1=0)/\(3<d.1.2.2.2->w.2.2.2.2.2.2.2.2.2.2.1.1.2.2.1=0/\w.2.2.2.2.2.2.2.2.2.2.2.2.2.2.2.2.2.2.2.2.2.2.1.1.2.2.1=0)/\(4<d.1.2.2.2->w.2.2.2.2.2.2.2.2.2.2.2.1.1.2.2.1=0/\w.2.2.2.2.2.2.2.2.2.2.2.2.2.2.2.2.2.2.2.2.2.2.2.1.1.2.2.1=0)/\(5<d.1.2.2.2->w.2.2.2.2.2.2.2.2.2.2.2.2.1.1.2.2.1=0/\w.2.2.2.2.2.2.2.2.2.2.2.2.2.2.2.2.2.2.2.2.2.2.2.2.1.1.2.2.1=0)),Ok (CT d) (λx:rv=>match x with|.inl _=>True|.inr x=>x.1.2.1=w.1.2.1/\x.2=w.2/\w.2.2.2.2.2.2.2.1.1.2.2.1=0/\w.2.2.2.2.2.2.2.2.2.2.2.2.2.2.2.2.2.2.2.1.1.2.2.1=0/\w.2.2.2.2.2.2.2.2.1.1.2.2.1=0/\w.2.2.2.2.2.2.2.2.2.2.2.2.2.2.2.2.2.2.2.2.1.1.2.2.1=0/\w.2.2.2.2.2.2.2.2.2.1.1.2.2.1=0/\w.2.2.2.2.2.2.2.2.2.2.2.2.2.2.2.2.2.2.2.2.2.1.1.2.2.1=0/\w.2.2.2.2.2.2.2.2.2.2.1.1.2.2.1=0/\w.2.2.2.2.2.2.2.2.2.2.2.2.2.2.2.2.2.2.2.2.2.2.1.1.2.2.1=0/\w.2.2.2.2.2.2.2.2.2.2.2.1.1.2.2.1=0/\w.2.2.2.2.2.2.2.2.2.2.2.2.2.2.2.2.2.2.2.2.2.2.2.1.1.2.2.1=0/\w.2.2.2.2.2.2.2.2.2.2.2.2.1.1.2.2.1=0/\w.2.2.2.2.2.2.2.2.2.2.2.2.2.2.2.2.2.2.2.2.2.2.2.2.1.1.2.2.1=0):=
 bq (λd:gQ.B=>wt (6-d.1.2.2.2)) (λd hd=>by
  obtain⟨i0,i1,e1,e2,t0,t1,t2,t3,t4,t5⟩:=hd;unfold KC;try dsimp only
  try dsimp only
  rw[aK];refine⟨λc=> ?_,λc=> ?_⟩
  .have c:=dq c;have hw:wI (d.1.2.2.2+1)=d.1.2.2.2+1:=aY;simp only[aM];repeat rw[aC]
   with_reducible refine ay (aHb _ ?_ ?_) λca _ ha=> ?_
   .exact i0
   .show d.1.2.2.2<=5;omega
   rw[aK];refine⟨λ_=>by rw[av];trivial,λc0=> ?_⟩;repeat rw[aC]
   with_reducible refine ay (aHb _ ?_ ?_) λcb _ hb=> ?_
   .exact i0
   .show d.1.2.2.2<=5;omega
   rw[aK];refine⟨λ_=>by rw[av];trivial,λc1=> ?_⟩;have c0:ca.2.2.1=0:=by simpa using c0
   have c1:cb.2.2.1=0:=by simpa using c1
   rw[av,hw];obtain⟨ha0,ha1,ha2,ha3,ha4,ha5⟩:=ha;obtain⟨NJ,hb1,DY,hb3,hb4,hb5⟩:=hb;have q:∀k:Int,k<d.1.2.2.2+1->k<d.1.2.2.2∨d.1.2.2.2=k:=λk h=>by omega
   refine⟨⟨by show 0<=d.1.2.2.2+1;omega,by show d.1.2.2.2+1<=6;omega,e1,e2,?_,?_,?_,?_,?_,?_⟩,by show wt (6-(d.1.2.2.2+1))<wt (6-d.1.2.2.2);omega⟩
   .intro h;rcases q 0 h with h|h
    .exact t0 h
    .have u:ca=d.2.2.2.2.2.2.2.1.1:=ha0 h;have v:cb=d.2.2.2.2.2.2.2.2.2.2.2.2.2.2.2.2.2.2.2.1.1:=NJ h;rw[u] at c0;rw[v] at c1;rw[e2] at c0 c1;exact⟨c0,c1⟩
   .intro h;rcases q 1 h with h|h
    .exact t1 h
    .have u:ca=d.2.2.2.2.2.2.2.2.1.1:=ha1 h;have v:cb=d.2.2.2.2.2.2.2.2.2.2.2.2.2.2.2.2.2.2.2.2.1.1:=hb1 h;rw[u] at c0;rw[v] at c1;rw[e2] at c0 c1;exact⟨c0,c1⟩
   .intro h;rcases q 2 h with h|h
    .exact t2 h
    .have u:ca=d.2.2.2.2.2.2.2.2.2.1.1:=ha2 h;have v:cb=d.2.2.2.2.2.2.2.2.2.2.2.2.2.2.2.2.2.2.2.2.2.1.1:=DY h;rw[u] at c0;rw[v] at c1;rw[e2] at c0 c1;exact⟨c0,c1⟩
   .intro h;rcases q 3 h with h|h
    .exact t3 h
    .have u:ca=d.2.2.2.2.2.2.2.2.2.2.1.1:=ha3 h;have v:cb=d.2.2.2.2.2.2.2.2.2.2.2.2.2.2.2.2.2.2.2.2.2.2.1.1:=hb3 h;rw[u] at c0;rw[v] at c1;rw[e2] at c0 c1;exact⟨c0,c1⟩
   .intro h;rcases q 4 h with h|h
    .exact t4 h
    .have u:ca=d.2.2.2.2.2.2.2.2.2.2.2.1.1:=ha4 h;have v:cb=d.2.2.2.2.2.2.2.2.2.2.2.2.2.2.2.2.2.2.2.2.2.2.2.1.1:=hb4 h;rw[u] at c0;rw[v] at c1;rw[e2] at c0 c1;exact⟨c0,c1⟩
   .intro h;rcases q 5 h with h|h
    .exact t5 h
    .have u:ca=d.2.2.2.2.2.2.2.2.2.2.2.2.1.1:=ha5 h;have v:cb=d.2.2.2.2.2.2.2.2.2.2.2.2.2.2.2.2.2.2.2.2.2.2.2.2.1.1:=hb5 h;rw[u] at c0;rw[v] at c1;rw[e2] at c0 c1;exact⟨c0,c1⟩
  .have c:=qk c;rw[av];obtain⟨⟨u0,v0⟩,⟨u1,v1⟩,⟨u2,v2⟩,⟨u3,v3⟩,⟨u4,v4⟩,⟨u5,v5⟩⟩:=And.intro (t0 (by omega)) (And.intro (t1 (by omega)) (And.intro (t2 (by omega)) (And.intro (t3 (by omega)) (And.intro (t4 (by omega)) (t5 (by omega))))));exact⟨e1,e2,u0,v0,u1,v1,u2,v2,u3,v3,u4,v4,u5,v5⟩) (λd hd=>by omega)
theorem aVs:∀(d:kc.B) (hd:0<=d.1.2.2/\d.1.2.2<=(d.1.1:Nat)/\d.1.1=d.1.2.1/\d.1.1<=1999/\d.2.1=d.2.2),Ok (KE d) (λx:wD=>match x with|.inl _=>False|.inr _=>True):=
 bq (λd:kc.B=>wt ((d.1.1:Nat)-d.1.2.2)) (λd hd=>by
  obtain⟨⟨n,n',k⟩,r,r'⟩:=d;dsimp only at hd
  obtain⟨i0,i1,i2,i3,i4⟩:=hd;subst i2;subst i4;unfold KD;try dsimp only
  try dsimp only
  rw[aK];refine⟨λh=> ?_,λh=> ?_⟩
  .have h:=dq h;rw[cF] at h;have hw:wI (k+1)=k+1:=aY;have r0:aX k n=true:=by rw[bk];omega
   rw[r0,aC,aC];simp only[beq_self_eq_true,Bool.and_self,DV];rw[xG,av,hw];exact⟨⟨by show 0<=k+1;omega,by show k+1<=(n:Int);omega,rfl,i3,rfl⟩,by show wt ((n:Nat)-(k+1))<wt ((n:Nat)-k);omega⟩
  .rw[av];trivial) (λd hd=>by omega)
def Pf (B:Int)(m:Int)(_:Int)(b:Bf):Prop:=b.2.1=B/\((b.2.2.1:Nat):Int)<=B/\0<=b.1.2.2.1/\b.1.2.2.1<=m
theorem Pf.clo {B:Int}(hB:B<=64):Clo (Pf B) where
 len:=λh=>by have:=h.2.1;omega
 br:=λh _ k=>by
  obtain⟨h1,h2,h3,h4⟩:=h;obtain⟨_,k1,k2,_,_,k5,_⟩:=k;exact⟨k1.trans h1,by omega,by rw[k5];exact h3,by rw[k5];exact h4⟩
 pr:=λm0 m1 h k=>by
  obtain⟨h1,h2,h3,h4⟩:=h;rcases k with k|k
  .obtain⟨k1,_,_,_,_,k6⟩:=k;rcases k6 with⟨q1,q2,q3⟩| ⟨q1,q2,q3,q4⟩| ⟨q1,q2,q3⟩
   .exact⟨k1.trans h1,by rw[q3];exact h2,by omega,by omega⟩
   .exact⟨k1.trans h1,by omega,by omega,by omega⟩
   .rw[aY h3 (by omega)] at q2;exact⟨k1.trans h1,by rw[q3];exact h2,by omega,by omega⟩
  .obtain⟨e1,e2⟩:=k;have e3:_=_:=c8 (λz=>z.2.2.1) e2;dsimp only at e3
   unfold Pf;rw[e1,e3];exact⟨h1,h2,h3,by omega⟩
 up:=λh=>⟨h.1,h.2.1,h.2.2.1,by have:=h.2.2.2;omega⟩
theorem Pf.pb {B m T:Int}{b:Bf}(h:Pf B m T b):Pb B b:=⟨h.1,h.2.1⟩
theorem Pf.zz {B m T:Int}{b:Bf}(h:Pf B m T b)(hm:m<=10):0<=b.1.2.2.1/\b.1.2.2.1<=1000:=⟨h.2.2.1,by have:=h.2.2.2;omega⟩
theorem Pb.pf {B T:Int}{b:Bf}(h:Pb B b)(k:b.1.2.2.1=0):Pf B 0 T b:=⟨h.1,h.2,by omega,by omega⟩
theorem Dz {i n:Int}{f:Nat->Ev}{b c:Bf}{R S:Rw}(h:n=0)(u:c=b)(v:S=R)(s:kM (fS b.b.1 (dQ R))):oM i ((rx (wt n)).map f) b R c S:=by
 subst h u v;exact oM.nil s
theorem aSx (N:Nat)(B:Int)(hB:B<=64)(d:iT.B)(hn:d.1.1.1<=12)(z0:0<=d.c.b.2.1.1.b.1/\d.c.b.2.1.1.b.1<=1000)(z1:0<=d.d.1.1.b.1/\d.d.1.1.b.1<=1000)(z2:0<=d.d.2.1.1.b.1/\d.d.2.1.1.b.1<=1000)(z3:0<=d.d.b.1.1.b.1/\d.d.b.1.1.b.1<=1000)(z4:0<=d.d.b.2.1.1.b.1/\d.d.b.2.1.1.b.1<=1000)(z5:0<=d.d.c.1.1.b.1/\d.d.c.1.1.b.1<=1000)(hi:d.1.b.2=0)(eq:d.b.1=d.b.2.1/\d.c.1=d.e.1/\d.c.2.1=d.e.2.1/\d.c.b.1=d.e.b.1/\d.d.c.2.1=d.e.d.2.1/\d.d.c.b.1=d.e.d.b.1/\d.d.c.b.2.1=d.e.d.b.2.1/\d.e.e.b.1=(d.e.e.d.2.1,d.e.e.d.2.2))(iq:((d.b.1.c.1.2:Nat):Int)<=400/\Tq d.b.1.d.c.2.1 d.c.2.1.2.1.1 d.c.2.1.2.2 d.b.1.c.1.2 (λi=>d.c.b.1.2.1 (d.b.1.c.1.1+i))/\d.d.c.b.1.1<=(N:Int)/\d.d.c.b.1.2.2<=N)(pb:Pb B d.c.b.2.1/\Pb B d.d.1/\Pb B d.d.2.1/\Pb B d.d.b.1/\Pb B d.d.b.2.1/\Pb B d.d.c.1/\Pb B d.e.b.2.1/\Pb B d.e.c.1/\Pb B d.e.c.2.1/\Pb B d.e.c.b.1/\Pb B d.e.c.b.2.1/\Pb B d.e.d.1)(s0:kM (fS d.c.b.2.1.b.1 (dQ d.e.d.c.1.2)))(s1:kM (fS d.d.1.b.1 (dQ d.e.d.c.2.1.2)))(s2:kM (fS d.d.2.1.b.1 (dQ d.e.d.c.b.1.2)))(s3:kM (fS d.d.b.1.b.1 (dQ d.e.d.c.b.2.1.2)))(s4:kM (fS d.d.b.2.1.b.1 (dQ d.e.e.1.2)))(s5:kM (fS d.d.c.1.b.1 (dQ d.e.e.2.1.2)))(bb:d.e.b.2.1=d.c.b.2.1/\d.e.e.b.2.1.2=d.e.d.c.1.2/\d.e.c.1=d.d.1/\d.e.e.c.1.2=d.e.d.c.2.1.2/\d.e.c.2.1=d.d.2.1/\d.e.e.c.2.1.2=d.e.d.c.b.1.2/\d.e.c.b.1=d.d.b.1/\d.e.e.c.b.1.2=d.e.d.c.b.2.1.2/\d.e.c.b.2.1=d.d.b.2.1/\d.e.e.c.b.2.1.2=d.e.e.1.2/\d.e.d.1=d.d.c.1/\d.e.e.d.1.2=d.e.e.2.1.2):Ok (CS d) (λx:ru=>x.1.b.1=d.1.b.1/\(x.b.1=x.b.2.1/\x.c.1=x.e.1/\x.c.2.1=x.e.2.1/\x.c.b.1=x.e.b.1/\x.d.c.2.1=x.e.d.2.1/\x.d.c.b.1=x.e.d.b.1/\x.d.c.b.2.1=x.e.d.b.2.1/\x.e.e.b.1=(x.e.e.d.2.1,x.e.e.d.2.2))/\(((x.b.1.c.1.2:Nat):Int)<=400/\Tq x.b.1.d.c.2.1 x.c.2.1.2.1.1 x.c.2.1.2.2 x.b.1.c.1.2 (λi=>x.c.b.1.2.1 (x.b.1.c.1.1+i))/\x.d.c.b.1.1<=(N:Int)/\x.d.c.b.1.2.2<=N)/\(Pb B x.c.b.2.1/\Pb B x.d.1/\Pb B x.d.2.1/\Pb B x.d.b.1/\Pb B x.d.b.2.1/\Pb B x.d.c.1/\Pb B x.e.b.2.1/\Pb B x.e.c.1/\Pb B x.e.c.2.1/\Pb B x.e.c.b.1/\Pb B x.e.c.b.2.1/\Pb B x.e.d.1)/\(oM 0 ((rx (d.1.1.1)).map (vK d.1.1.b.1 d.1.1.d.c.1 d.1.1.d.c.2.1 d.1.1.d.c.b.1 d.1.1.d.c.b.2.1 d.1.1.e.1 d.1.1.e.2.1 d.1.1.e.b.1 d.1.1.e.b.2.1 d.1.1.e.b.2.2)) d.c.b.2.1 d.e.d.c.1.2 x.c.b.2.1 x.e.d.c.1.2/\oM 1 ((rx (d.1.1.1)).map (vK d.1.1.b.1 d.1.1.d.c.1 d.1.1.d.c.2.1 d.1.1.d.c.b.1 d.1.1.d.c.b.2.1 d.1.1.e.1 d.1.1.e.2.1 d.1.1.e.b.1 d.1.1.e.b.2.1 d.1.1.e.b.2.2)) d.d.1 d.e.d.c.2.1.2 x.d.1 x.e.d.c.2.1.2/\oM 2 ((rx (d.1.1.1)).map (vK d.1.1.b.1 d.1.1.d.c.1 d.1.1.d.c.2.1 d.1.1.d.c.b.1 d.1.1.d.c.b.2.1 d.1.1.e.1 d.1.1.e.2.1 d.1.1.e.b.1 d.1.1.e.b.2.1 d.1.1.e.b.2.2)) d.d.2.1 d.e.d.c.b.1.2 x.d.2.1 x.e.d.c.b.1.2/\oM 3 ((rx (d.1.1.1)).map (vK d.1.1.b.1 d.1.1.d.c.1 d.1.1.d.c.2.1 d.1.1.d.c.b.1 d.1.1.d.c.b.2.1 d.1.1.e.1 d.1.1.e.2.1 d.1.1.e.b.1 d.1.1.e.b.2.1 d.1.1.e.b.2.2)) d.d.b.1 d.e.d.c.b.2.1.2 x.d.b.1 x.e.d.c.b.2.1.2/\oM 4 ((rx (d.1.1.1)).map (vK d.1.1.b.1 d.1.1.d.c.1 d.1.1.d.c.2.1 d.1.1.d.c.b.1 d.1.1.d.c.b.2.1 d.1.1.e.1 d.1.1.e.2.1 d.1.1.e.b.1 d.1.1.e.b.2.1 d.1.1.e.b.2.2)) d.d.b.2.1 d.e.e.1.2 x.d.b.2.1 x.e.e.1.2/\oM 5 ((rx (d.1.1.1)).map (vK d.1.1.b.1 d.1.1.d.c.1 d.1.1.d.c.2.1 d.1.1.d.c.b.1 d.1.1.d.c.b.2.1 d.1.1.e.1 d.1.1.e.2.1 d.1.1.e.b.1 d.1.1.e.b.2.1 d.1.1.e.b.2.2)) d.d.c.1 d.e.e.2.1.2 x.d.c.1 x.e.e.2.1.2)/\(oM 0 ((rx (d.1.1.1)).map λj=>(vK d.1.1.b.1 d.1.1.d.c.1 d.1.1.d.c.2.1 d.1.1.d.c.b.1 d.1.1.d.c.b.2.1 d.1.1.e.1 d.1.1.e.2.1 d.1.1.e.b.1 d.1.1.e.b.2.1 d.1.1.e.b.2.2) (fT d.1.1.1 (ul (wd 64 d.1.2.1&&&wd 64 1023)) j)) d.c.b.2.1 d.e.d.c.1.2 x.e.b.2.1 x.e.e.b.2.1.2/\oM 1 ((rx (d.1.1.1)).map λj=>(vK d.1.1.b.1 d.1.1.d.c.1 d.1.1.d.c.2.1 d.1.1.d.c.b.1 d.1.1.d.c.b.2.1 d.1.1.e.1 d.1.1.e.2.1 d.1.1.e.b.1 d.1.1.e.b.2.1 d.1.1.e.b.2.2) (fT d.1.1.1 (ul (wd 64 d.1.2.1&&&wd 64 1023)) j)) d.d.1 d.e.d.c.2.1.2 x.e.c.1 x.e.e.c.1.2/\oM 2 ((rx (d.1.1.1)).map λj=>(vK d.1.1.b.1 d.1.1.d.c.1 d.1.1.d.c.2.1 d.1.1.d.c.b.1 d.1.1.d.c.b.2.1 d.1.1.e.1 d.1.1.e.2.1 d.1.1.e.b.1 d.1.1.e.b.2.1 d.1.1.e.b.2.2) (fT d.1.1.1 (ul (wd 64 d.1.2.1&&&wd 64 1023)) j)) d.d.2.1 d.e.d.c.b.1.2 x.e.c.2.1 x.e.e.c.2.1.2/\oM 3 ((rx (d.1.1.1)).map λj=>(vK d.1.1.b.1 d.1.1.d.c.1 d.1.1.d.c.2.1 d.1.1.d.c.b.1 d.1.1.d.c.b.2.1 d.1.1.e.1 d.1.1.e.2.1 d.1.1.e.b.1 d.1.1.e.b.2.1 d.1.1.e.b.2.2) (fT d.1.1.1 (ul (wd 64 d.1.2.1&&&wd 64 1023)) j)) d.d.b.1 d.e.d.c.b.2.1.2 x.e.c.b.1 x.e.e.c.b.1.2/\oM 4 ((rx (d.1.1.1)).map λj=>(vK d.1.1.b.1 d.1.1.d.c.1 d.1.1.d.c.2.1 d.1.1.d.c.b.1 d.1.1.d.c.b.2.1 d.1.1.e.1 d.1.1.e.2.1 d.1.1.e.b.1 d.1.1.e.b.2.1 d.1.1.e.b.2.2) (fT d.1.1.1 (ul (wd 64 d.1.2.1&&&wd 64 1023)) j)) d.d.b.2.1 d.e.e.1.2 x.e.c.b.2.1 x.e.e.c.b.2.1.2/\oM 5 ((rx (d.1.1.1)).map λj=>(vK d.1.1.b.1 d.1.1.d.c.1 d.1.1.d.c.2.1 d.1.1.d.c.b.1 d.1.1.d.c.b.2.1 d.1.1.e.1 d.1.1.e.2.1 d.1.1.e.b.1 d.1.1.e.b.2.1 d.1.1.e.b.2.2) (fT d.1.1.1 (ul (wd 64 d.1.2.1&&&wd 64 1023)) j)) d.d.c.1 d.e.e.2.1.2 x.e.d.1 x.e.e.d.1.2)):=
 aVq N B hB d d hn z0 z1 z2 z3 z4 z5 ⟨Int.le_of_eq hi.symm,Wg (Int.le_of_eq hi) (Int.natCast_nonneg _),rfl,rfl,rfl,eq,iq,pb,⟨Dz hi rfl rfl s0,Dz hi rfl rfl s1,Dz hi rfl rfl s2,Dz hi rfl rfl s3,Dz hi rfl rfl s4,Dz hi rfl rfl s5⟩,Dz hi (bb.1) (bb.2.1) s0,Dz hi (bb.b.1) (bb.b.2.1) s1,Dz hi (bb.c.1) (bb.c.2.1) s2,Dz hi (bb.c.b.1) (bb.c.b.2.1) s3,Dz hi (bb.d.1) (bb.d.2.1) s4,Dz hi (bb.d.b.1) (bb.d.b.2) s5⟩
theorem aSy (d:gQ.B)(hi:d.1.2.2.2=0):Ok (CT d) (λx:rv=>match x with|.inl _=>True|.inr x=>x.1.2.1=d.1.2.1/\x.2=d.2/\d.2.2.2.2.2.2.2.1.1.2.2.1=0/\d.2.2.2.2.2.2.2.2.2.2.2.2.2.2.2.2.2.2.2.1.1.2.2.1=0/\d.2.2.2.2.2.2.2.2.1.1.2.2.1=0/\d.2.2.2.2.2.2.2.2.2.2.2.2.2.2.2.2.2.2.2.2.1.1.2.2.1=0/\d.2.2.2.2.2.2.2.2.2.1.1.2.2.1=0/\d.2.2.2.2.2.2.2.2.2.2.2.2.2.2.2.2.2.2.2.2.2.1.1.2.2.1=0/\d.2.2.2.2.2.2.2.2.2.2.1.1.2.2.1=0/\d.2.2.2.2.2.2.2.2.2.2.2.2.2.2.2.2.2.2.2.2.2.2.1.1.2.2.1=0/\d.2.2.2.2.2.2.2.2.2.2.2.1.1.2.2.1=0/\d.2.2.2.2.2.2.2.2.2.2.2.2.2.2.2.2.2.2.2.2.2.2.2.1.1.2.2.1=0/\d.2.2.2.2.2.2.2.2.2.2.2.2.1.1.2.2.1=0/\d.2.2.2.2.2.2.2.2.2.2.2.2.2.2.2.2.2.2.2.2.2.2.2.2.1.1.2.2.1=0):=
 aVr d d ⟨by omega,by omega,rfl,rfl,λh=>absurd h (by omega),λh=>absurd h (by omega),λh=>absurd h (by omega),λh=>absurd h (by omega),λh=>absurd h (by omega),λh=>absurd h (by omega)⟩
theorem sq0 {a b:Int}(lo:a<=b)(z:0<=a)(e:b=0):b=a:=by omega
theorem aZy {α δ:Type}{X:Type}{Q:δ->Prop}{f:X->Option α}{k:α->Pg δ}(x y:X)(e:α)(ge:f x=some e)(h:y=x)(hk:PQ (k e) Q):PQ (.opt (f y) k) Q:=by
 rw[h,ge,bX];exact hk
theorem Qm (n t:Nat)(hn:0<n)(f:Nat->Ev):((rx n).map f).Perm ((rx n).map λj=>f (fT n t j)):=by
 have:=(aIg n t hn).map f;rw[List.map_map] at this;exact this.symm
theorem aPB (n:Nat):(auZ n λ_=>true)=true:=by
 unfold auZ;simp
theorem aSz (x:ug.B):bp (uh x):=⟨⟨_,rfl⟩⟩
theorem aVt (x:wC.B)(h:x.2.2.2.2.2.2.2.2.2.2.2.1.2.2<=1999):Ok (rp x) (λr:Kt=>r.1=r.2.1/\r.1<=1999):=by
 unfold rp Kw;try dsimp only
 show PQ _ _;rw[aM,aC];refine ay (R:=λr=>r.1=r.2.1/\r.1<=1999) ?_ λd _ hd=>by rw[av];exact hd
 unfold tE A4;show PQ _ _;try dsimp only
 rw[bJ];refine⟨by rw[bW];omega,?_⟩;rw[av];try dsimp only
 omega
theorem aIy (x:oq.B):Ok (vI x) (λr:Qk=>r=true):=by
 unfold vI Ql;try dsimp only
 show PQ _ _;try dsimp only
 rw[show V0=some true from rfl,bX,show(!true)=false from rfl,xG];rw[aK];refine⟨λ_=>by rw[av],λbj=> ?_⟩;rw[aK];refine⟨λ_=>by rw[av],λn0=> ?_⟩;rw[aK];refine⟨λ_=>by rw[av],λaT=> ?_⟩;rw[aK];refine⟨λ_=>by rw[av],λn5=> ?_⟩;have bj:=qk bj;have bj:¬((x.b.1.1:Nat):Int)>12:=bj
 have n0:((x.b.1.1:Nat):Int)≠0:=by
  intro h;have n0:((((x.b.1.1:Nat):Int))==0)=false:=n0;rw[h] at n0;cases n0
 have aT:=qk aT;have aT:¬((x.2.1.1:Nat):Int)>10:=aT;have n5:=qk n5;have n5:¬((x.c.1:Nat):Int)>5:=n5;obtain⟨r,g,hr⟩:=a0H x.1;rw[g,bX];cases r with
 |inl a=>simp only[aC,bX,av]
 |inr a=>
 simp only[xG,bX];obtain⟨bL,bU,o0,o1,s0,s1,s2,s3,s4,s5,u⟩:=hr;have bL:1<=x.1.b.1:=bL;have bU:x.1.b.1<=64:=bU;have o0:1<=x.1.d.c.1:=o0;have o1:x.1.d.c.1<=64:=o1;have u:a.d.b.2.1.1=x.1.d.c.1:=u;obtain⟨N,hN⟩:∃N:Nat,x.1.d.c.1=(N:Int):=⟨wt x.1.d.c.1,(Int.toNat_of_nonneg (by omega)).symm⟩;have hN1:1<=N:=by omega
 have hN:N<=1999:=by omega
 have pw:∀y:Int,y=x.1.b.1->Pf x.1.b.1 0 0 ((0,0,0,0,0),y,0, -9223372036854775808):=λy e=>⟨e,by show((0:Nat):Int)<=_;omega,by show(0:Int)<=0;decide,by show(0:Int)<=0;decide⟩
 have nil:∀R:Rw,kM (fS 0 (dQ R)):=λR=>List.Pairwise.nil
 with_reducible refine ay ((aPn N hN1 hN (Pf.clo bU) 10 (by decide) _ ?_ ?_ ?_ (pw _ s0) (pw _ s1) (pw _ s2) (pw _ s3) (pw _ s4) (pw _ s5) ?_ ?_).with (aZw _ (nil _) (nil _) (nil _) (nil _) (nil _) (nil _))) λe ge he=> ?_
 .show 0+40*10<=1998;decide
 .exact .inl (by show x.2.1.1<=10;omega)
 .exact⟨λ_=>eZ 0,eZ 0,λi k _ h=>absurd h (Nat.not_lt_zero _)⟩
 .show a.d.b.2.1.1<=(N:Int);omega
 .exact Nat.zero_le _
 rw[ge,bX];obtain⟨⟨e4,tq,⟨m,m0,mK,t0,t1,t2,t3,t4,t5⟩,e12,e13⟩,h0,h1,h2,h3,h4,h5⟩:=he;have mK:m<=10:=mK;have e4:((e.2.1.c.1.2:Nat):Int)<=0+40*10:=e4;with_reducible refine ay (aSx N x.1.b.1 bU _ ?_ (t0.zz mK) (t1.zz mK) (t2.zz mK) (t3.zz mK) (t4.zz mK) (t5.zz mK) ?_ ?_ ?_ ?_ h0 h1 h2 h3 h4 h5 ?_) λy _ hy=> ?_
 .show x.b.1.1<=12;omega
 .rfl
 .exact⟨rfl,rfl,rfl,rfl,rfl,rfl,rfl,rfl⟩
 .exact⟨by show((e.2.1.c.1.2:Nat):Int)<=400;omega,tq,e12,e13⟩
 .exact⟨t0.pb,t1.pb,t2.pb,t3.pb,t4.pb,t5.pb,t0.pb,t1.pb,t2.pb,t3.pb,t4.pb,t5.pb⟩
 .exact⟨rfl,rfl,rfl,rfl,rfl,rfl,rfl,rfl,rfl,rfl,rfl,rfl⟩
 obtain⟨e02,⟨E2,E4,E5,E6,E13,E14,E15,E34⟩,⟨iq,tq',r0,r1⟩,⟨p0,p1,p2,p3,p4,p5,q0,q1,q2,q3,q4,q5⟩,⟨a0,a1,a2,a3,a4,a5⟩,b0,b1,b2,b3,b4,b5⟩:=hy;with_reducible refine ay (aSy _ rfl) λz _ hz=> ?_
 rw[rC];refine⟨λv _=>by rw[av],λv hv=> ?_⟩;subst hv;obtain⟨Vf,Vg,ca0,cb0,ca1,cb1,ca2,cb2,ca3,cb3,ca4,cb4,ca5,cb5⟩:=hz;obtain⟨⟨zt,za,zi,zk,zy⟩,zr⟩:=v;have Vf:za=y.1.b.1:=Vf;have Vg:zr=y.2:=Vg;subst Vf Vg;have pn:0<x.b.1.1:=by omega
 have fa0:y.c.b.2.1.1.b.1=0:=ca0;have fb0:y.e.b.2.1.1.b.1=0:=cb0;obtain⟨u0,v0⟩:=a0.same b0 (Qm x.b.1.1 _ pn _) (sq0 a0.lo (t0.zz mK).1 fa0) (sq0 b0.lo (t0.zz mK).1 fb0);have fa1:y.d.1.1.b.1=0:=ca1;have fb1:y.e.c.1.1.b.1=0:=cb1;obtain⟨u1,v1⟩:=a1.same b1 (Qm x.b.1.1 _ pn _) (sq0 a1.lo (t1.zz mK).1 fa1) (sq0 b1.lo (t1.zz mK).1 fb1);have fa2:y.d.2.1.1.b.1=0:=ca2;have fb2:y.e.c.2.1.1.b.1=0:=cb2;obtain⟨u2,v2⟩:=a2.same b2 (Qm x.b.1.1 _ pn _) (sq0 a2.lo (t2.zz mK).1 fa2) (sq0 b2.lo (t2.zz mK).1 fb2);have fa3:y.d.b.1.1.b.1=0:=ca3;have fb3:y.e.c.b.1.1.b.1=0:=cb3;obtain⟨u3,v3⟩:=a3.same b3 (Qm x.b.1.1 _ pn _) (sq0 a3.lo (t3.zz mK).1 fa3) (sq0 b3.lo (t3.zz mK).1 fb3);have fa4:y.d.b.2.1.1.b.1=0:=ca4;have fb4:y.e.c.b.2.1.1.b.1=0:=cb4;obtain⟨u4,v4⟩:=a4.same b4 (Qm x.b.1.1 _ pn _) (sq0 a4.lo (t4.zz mK).1 fa4) (sq0 b4.lo (t4.zz mK).1 fb4);have fa5:y.d.c.1.1.b.1=0:=ca5;have fb5:y.e.d.1.1.b.1=0:=cb5;obtain⟨u5,v5⟩:=a5.same b5 (Qm x.b.1.1 _ pn _) (sq0 a5.lo (t5.zz mK).1 fa5) (sq0 b5.lo (t5.zz mK).1 fb5);clear a0 b0 q0 ca0 cb0 fb0 a1 b1 q1 ca1 cb1 fb1 a2 b2 q2 ca2 cb2 fb2 a3 b3 q3 ca3 cb3 fb3 a4 b4 q4 ca4 cb4 fb4 a5 b5 q5 ca5 cb5 fb5
 obtain⟨y0,y1,y2,y3,y4,y5,y6,y7,y8,y9,uc,ud,wK,yF,wL,y15,y16,y17,y18,y19,y20,y21,y22,y23,y24,y25,y26,y27,⟨n28,R28⟩,⟨n29,R29⟩,⟨n30,R30⟩,⟨n31,R31⟩,⟨n32,R32⟩,⟨n33,R33⟩,y34,⟨n35,R35⟩,⟨n36,R36⟩,⟨n37,R37⟩,⟨n38,R38⟩,⟨n39,R39⟩,⟨Ko,R40⟩,y41,y42⟩:=y;have a4s:y0.b.1=x.b.2.2:=e02;have E2X:y2=y3:=E2;have E4X:y4=y16:=E4;have E5X:y5=y17:=E5;have E6X:y6=y18:=E6;have a4t:yF=y25:=E13;have a4u:wL=y26:=E14;have a4v:y15=y27:=E15;have a4w:y34=(y41,y42):=E34;have iqX:((y2.c.1.2:Nat):Int)<=400:=iq;have r0X:wL.1<=(N:Int):=r0;have r1X:wL.2.2<=N:=r1;have p0X:Pb x.1.b.1 y7:=p0;have a4x:y7.1.b.1=0:=fa0;have u0X:y7=y19:=u0;have v0X:R28=R35:=v0;have p1X:Pb x.1.b.1 y8:=p1;have a4y:y8.1.b.1=0:=fa1;have u1X:y8=y20:=u1;have v1X:R29=R36:=v1;have p2X:Pb x.1.b.1 y9:=p2;have a4z:y9.1.b.1=0:=fa2;have u2X:y9=y21:=u2;have v2X:R30=R37:=v2;have p3X:Pb x.1.b.1 uc:=p3;have a4A:uc.1.b.1=0:=fa3;have u3X:uc=y22:=u3;have v3X:R31=R38:=v3;have p4X:Pb x.1.b.1 ud:=p4;have a4B:ud.1.b.1=0:=fa4;have u4X:ud=y23:=u4;have v4X:R32=R39:=v4;have p5X:Pb x.1.b.1 wK:=p5;have a4C:wK.1.b.1=0:=fa5;have u5X:wK=y24:=u5;have v5X:R33=R40:=v5;have tqX:Tq y2.d.c.2.1 y5.2.1.1 y5.2.2 y2.c.1.2 (λi=>y6.2.1 (y2.c.1.1+i)):=tq';clear e02 E2 E4 E5 E6 E13 E14 E15 E34 iq tq' r0 r1 p0 fa0 u0 v0 p1 fa1 u1 v1 p2 fa2 u2 v2 p3 fa3 u3 v3 p4 fa4 u4 v4 p5 fa5 u5 v5
 subst E2X E4X E5X E6X a4t a4u a4v a4w u0X v0X u1X v1X u2X v2X u3X v3X u4X v4X u5X v5X;try dsimp only
 simp only[aM];repeat rw[aC]
 with_reducible refine ay (aPn N hN1 hN (Pf.clo bU) 5 (by decide) _ ?_ ?_ ?_ (p0X.pf a4x) (p1X.pf a4y) (p2X.pf a4z) (p3X.pf a4A) (p4X.pf a4B) (p5X.pf a4C) ?_ ?_) λe1 g1 he1=> ?_
 .show(y2.c.1.2:Nat)+40*5<=1998;omega
 .exact .inl (by show y0.b.1.1<=5;rw[a4s];show x.c.1<=5;omega)
 .exact tqX
 .exact r0X
 .exact r1X
 repeat rw[aC]
 with_reducible refine aZy _ _ e1 g1 rfl ?_
 obtain⟨_,_,_,_,q13⟩:=he1;simp only[bne_self_eq_false];rw[xG];repeat rw[aC]
 with_reducible refine ay ((aSz _).Ok (Q:=λ_=>True) λ_ _=>trivial) λst gs _=> ?_
 repeat rw[aC]
 rw[gs,bX];repeat rw[aC]
 with_reducible refine ay (aVt _ ?_) λou go ho=> ?_
 .show e1.d.c.1.2.2<=1999;omega
 repeat rw[aC]
 rw[go,bX];simp only[beq_self_eq_true,aPB,Bool.and_self,DV];repeat rw[xG]
 repeat rw[aC]
 with_reducible refine ay (aVm _) λss gt _=> ?_
 repeat rw[aC]
 rw[gt,bX];simp only[beq_self_eq_true,Bool.and_self,DV,bne_self_eq_false];repeat rw[xG]
 with_reducible refine ay (aVs _ ⟨?_,?_,rfl,ho.2,rfl⟩) λy3 _ hy3=> ?_
 .exact eZ 0
 .show(0:Int)<=(ou.1:Nat);omega
 rw[rC];refine⟨λa e=>by subst e;exact absurd hy3 id,λa e=>by rw[av]⟩
theorem aZz (x:oq.B):vI x=some true:=by
 obtain⟨d,e,rfl⟩:=aIy x;exact e
end Go.Proofs.YtldgljclcgaibaaGreat
